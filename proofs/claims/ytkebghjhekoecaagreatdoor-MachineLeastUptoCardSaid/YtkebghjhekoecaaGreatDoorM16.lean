/- Texts of this claim, joined: QjP, QjVcE. -/
import Derived.Test.YtkebghjhekoecaaGreatDoorM15
import Derived.Test.YtkebghjhekoecaaGreatDoorM02
import Derived.Test.YtkebghjhekoecaaGreatDoorProg
import Derived.KernelRfl
set_option linter.unusedVariables false
set_option linter.unusedSimpArgs false

section
/- Contract: Views. -/
namespace Go.VC
open Go.Proofs Go.LexS
set_option maxRecDepth 100000

theorem app31 : appB Tryz.prog 23 81 6 48 = true := by kernel_rfl
theorem St.join {h0 h1 h : Heap} {L1 L2 : List It} (hs1 : St h0 h1 L1) (hs2 : St h1 h L2) : St h0 h (L1 ++ L2) := by
  have h3 := hs1.step hs2.ext
  refine ⟨h3.ext, fun i hi => ?_, List.pairwise_append.2 ⟨h3.ap, hs2.ap, fun i hi j hj b hb hc => ?_⟩⟩
  · rcases List.mem_append.1 hi with hi | hi
    · exact h3.ok i hi
    · exact ⟨(hs2.ok i hi).1, fun b hb => Nat.le_trans hs1.ext.1 ((hs2.ok i hi).2 b hb)⟩
  · have h4 := (hs1.ok i hi).1.lt hb
    have h5 := (hs2.ok j hj).2 b hc
    omega
theorem rowS_mem {S : List PSet} {p q : PSet} : q ∈ rowS S p ↔ q ∈ S ∨ q = p := by
  unfold rowS
  split
  · rename_i h
    constructor
    · exact .inl
    · rintro (h1 | rfl)
      · exact h1
      · exact h
  · rw [List.mem_append, List.mem_singleton]
theorem rowS_len {S : List PSet} {p : PSet} : (rowS S p).length ≤ S.length + 1 ∧ S.length ≤ (rowS S p).length := by
  unfold rowS
  split
  · omega
  · rw [List.length_append, List.length_singleton]; omega
theorem rowS_get {S : List PSet} {p q : PSet} {i : Nat} (h : S[i]? = some q) : (rowS S p)[i]? = some q := by
  unfold rowS
  split
  · exact h
  · rw [List.getElem?_append_left (List.getElem?_eq_some_iff.1 h).1]; exact h
theorem toL_lt {g : Gl} {role : Int} {p : PSet} {x : Ev} (hV : ValidS g) : ∀ y ∈ toL g.es role p x, 0 ≤ y ∧ y < g.n := by
  intro y hy
  unfold toL at hy
  obtain ⟨n, _, h2⟩ := List.mem_flatMap.1 hy
  obtain ⟨a, ha, h3⟩ := List.mem_filterMap.1 h2
  unfold visL at ha
  obtain ⟨e, he, h4⟩ := List.mem_filterMap.1 ha
  have := hV.num.e e he
  unfold EdS at this
  split at h4
  · rw [Option.map_eq_some_iff] at h4
    obtain ⟨_, _, rfl⟩ := h4
    split at h3
    · cases h3; show 0 ≤ e.t ∧ e.t < g.n; omega
    · cases h3
  · cases h4
/-- the table in memory -/
def TR (ge : Nat) (ss fs ars : Sl) (E : List SE) (M : List Mv) : List It :=
  [.sl ss 115 1 (E.map SE.hd), .sl fs 4 1 ((E.map fun e => e.p ge).map bC), .sl ars 81 6 (M.map Mv.cs)] ++ E.map SE.it
def sl0 : List Value := [.slice none 0 0, .slice none 0 0, .slice none 0 0]
theorem drop_get {α : Type} {l : List α} {j : Nat} {x : α} (h : l[j]? = some x) : l.drop j = x :: l.drop (j + 1) := by
  obtain ⟨h1, h2⟩ := List.getElem?_eq_some_iff.1 h
  rw [← h2]; exact List.drop_eq_getElem_cons h1
theorem evs_len {g : Gl} {role : Int} {p : PSet} (hV : ValidS g) : (evs g.es role p).length ≤ 400 := by
  have h1 := sortE_len (evL g.es role p)
  have h2 := evs_le g.es role p
  have h3 := hV.num.m
  show (sortE _).length ≤ 400
  omega
/-- the result of Views -/
inductive ViR (g : Gl) (role : Int) (h h' : Heap) : Value → Prop
  | bad (hn : ¬ (ValidS g ∧ 0 ≤ role ∧ role < g.rs.length)) : ViR g role h h' (.tuple ⟨[.agg ⟨sl0⟩, .int .i64 1]⟩)
  | limit (hv : ValidS g ∧ 0 ≤ role ∧ role < g.rs.length) (hn : views g role = none) : ViR g role h h' (.tuple ⟨[.agg ⟨sl0⟩, .int .i64 6]⟩)
  | good (hv : ValidS g ∧ 0 ≤ role ∧ role < g.rs.length) {ss fs ars : Sl} {E : List SE} {M : List Mv} (hn : views g role = some (E.map (·.p), M)) (hs : St h h' (TR g.e.toNat ss fs ars E M)) (hE : ∀ e ∈ E, SI e.ws e.k e.p) (hl : E.length ≤ 200) (hp : ∀ p ∈ E.map (·.p), ∀ j : Nat, p j = true → (j : Int) < g.n) (hm : M.length ≤ 80000) :
      ViR g role h h' (.tuple ⟨[.agg ⟨[.slice ss.a ss.n ss.c, .slice fs.a fs.n fs.c, .slice ars.a ars.n ars.c]⟩, .int .i64 0]⟩)
set_option maxHeartbeats 2000000 in
theorem views39 (g : Gl) (role : Int) (h : Heap) (hg : GI h g) (hx : Gx h) :
    Fn Tryz.prog 70 #[g.v, .int .i64 role] h fun v h' => Ext h h' ∧ ViR g role h h' v := by
  apply vc70 (bs g.nm) g.hr g.hd g.n g.s g.e g.he g.ht; unfold W70
  have hs := St.refl h
  refine hs.newb fun h9 hs => ?_
  refine hs.newb fun h10 hs => ?_
  refine ⟨_, _, _, _, _, _, _, _, hs.at 1 rfl (n := 8) rfl, ?_⟩
  refine (look52 g role h10 (hg.ext hs.ext) (hx.ext hs.ext)).mono ?_
  rintro _ h22 ⟨Eh22, h1 | h1⟩
  · obtain ⟨hn, rfl⟩ := h1
    replace hs := hs.step Eh22
    refine ⟨_, _, rfl, ?_⟩
    refine sBn (fun c1 => ?_) (fun c1 => by omega)
    refine hs.put 0 rfl (o := 0) (vs := sl0) rfl (by decide) fun h23 hs => ?_
    refine ⟨⟨none, 0, 0⟩, ⟨none, 0, 0⟩, ⟨none, 0, 0⟩, hs.at 0 rfl (n := 3) rfl, ?_⟩
    exact ⟨hs.ext, .bad hn⟩
  obtain ⟨hv, bl, hbl, rfl, hl⟩ := h1
  obtain ⟨hV, hr0, hr1⟩ := hv
  have hs1 := hs.step Eh22
  clear hs
  have hN := hV.num.n
  have hb9 : h.size < h22.size := hs1.get (k := 1) rfl |>.lt rfl
  refine ⟨_, _, rfl, ?_⟩
  refine sBn (fun c1 => absurd rfl c1) (fun _ => ?_)
  have hs := St.refl h22
  refine hs.newb fun h27 hs => ?_
  refine ⟨_, (hs1.step hs.ext).rd 1 rfl rfl, ?_⟩
  refine hs.newb fun h29 hs => ?_
  have hl2 : ∀ x ∈ [g.s], 0 ≤ x ∧ x < g.n := fun x hx => by rw [List.mem_singleton] at hx; omega
  have hsl := hs.blkS 1 1 ([g.s].map inC) rfl (inrows _) rfl (by decide)
  refine (closed53 g role bl [g.s] _ h29 (hl.ext hs.ext) hV (hsl.rows 0 rfl (by omega)) hl2 (show 1 ≤ 1048576 by decide)).mono ?_
  clear hsl
  rintro _ h32 ⟨E32, c, k, ws, rfl, hcc, ho, hS⟩
  replace hs := hs.giftB E32 hcc ho
  refine ⟨⟨some ⟨c, 0, none⟩, k, k⟩, rfl, ?_⟩
  have hs := (((hs.eras 1).nil_ 81 6).nil_ 4 1).nil_ 115 1
  have hge : (g.e : Int) = ((g.e.toNat : Nat) : Int) := by omega
  have he5 : ∀ {h' : Heap}, Ext h22 h' → hc h' ⟨h.size, 5, none⟩ = some (.int .i64 ((g.e.toNat : Nat) : Int)) := fun E => by rw [← hge]; exact (hs1.step E).rd 1 rfl rfl
  have hs : St h22 h32 ((⟨c, k, ws, clo g.es role [g.s]⟩ : SE).it :: (TL h22.size g.e.toNat ⟨none, 0, 0⟩ ⟨none, 0, 0⟩ ⟨none, 0, 0⟩ [] [] ++ [])) :=
    hs.perm (List.perm_append_comm (l₁ := [_, _, _]) (l₂ := [_, _]))
  refine (row83 (bg := h.size) hs (fun e he => by cases he) hS hb9 (he5 hs.ext) (by omega) (by decide)).mono ?_
  rintro _ h35 ⟨rfl, E', ss', fs', hs, hE', hSI'⟩
  refine ⟨_, rfl, ?_⟩
  have hE1 : E'.map (·.p) = [clo g.es role [g.s]] := by rw [hE']; rw [List.map_nil]; unfold rowS; rw [if_neg (by simp)]; rfl
  refine ⟨fun x h' m => ∃ (i : Nat) (ss fs ars : Sl) (E : List SE) (M : List Mv), x = i ∧ m = 201 - i ∧ i ≤ E.length ∧ St h22 h' (TL h22.size g.e.toNat ss fs ars E M ++ []) ∧ (∀ e ∈ E, SI e.ws e.k e.p) ∧
    (∀ p ∈ E.map (·.p), ∀ j : Nat, p j = true → (j : Int) < g.n) ∧ E.length ≤ 200 ∧ M.length ≤ i * 400 ∧ views g role = viewsF g.es role (202 - i) i (E.map (·.p)) M, ⟨_, 0, _, _, _, E', [], rfl, rfl, by omega, hs, hSI', ?_, ?_, by simp, ?_⟩, ?_⟩
  · intro p hp j hj
    rw [hE1, List.mem_singleton] at hp
    subst hp
    exact clo_lt hV hl2 j hj
  · have := congrArg List.length hE1
    rw [List.length_map] at this
    rw [this]; show 1 ≤ 200; decide
  · rw [hE1]; rfl
  clear hs hE1 hSI' hE' E' ss' fs'
  rintro - _ h40 m ⟨i, ss, fs, ars, E, M, rfl, rfl, hi, hs, hSI, hlt, hEl, hM, hvw⟩
  have hsl := hs.len 1 (s := ss) (e := 115) (n := 1) rfl (by omega)
  rw [List.length_map] at hsl
  refine ⟨ss, hs.rd 0 rfl rfl, ?_⟩
  refine sBi (fun c2 => ?_) (fun c2 => ?_)
  · have hiE : i < E.length := by omega
    refine ⟨ss, hs.rd 0 rfl rfl, ?_⟩
    refine (hs.rows 1 (cs := SE.hd) rfl (by omega)).nbI (by omega) (by omega) fun b43 o44 e g43 t43 => ?_
    replace g43 : E[i]? = some e := g43
    have heE := List.mem_of_getElem? g43
    have hEget : (E.map (·.p))[i]? = some e.p := by rw [List.getElem?_map, g43]; rfl
    have hep : ∀ j : Nat, e.p j = true → (j : Int) < g.n := hlt e.p (List.mem_map.2 ⟨e, heE, rfl⟩)
    refine ⟨e.s, t43.hd, ?_⟩
    refine (events87 g role bl e.p e.s h40 (hl.ext hs.ext) hV ((hx.ext (hs1.ext.trans hs.ext))) (TL.set (A := []) hs hSI e heE) hep).mono ?_
    rintro _ h48 ⟨E48, x47, rfl, ho47⟩
    replace hs := hs.gift E48 ho47 (evrows _)
    refine ⟨x47, rfl, ?_⟩
    have hln := (hs.rows 0 (cs := Ev.cs) rfl (by omega)).ln
    have hev := evs_len (g := g) (role := role) (p := e.p) hV
    generalize hL : evs g.es role e.p = L at *
    refine ⟨fun x h' m => ∃ (j : Nat) (ss2 fs2 ars2 : Sl) (E2 : List SE) (M2 : List Mv), x = j ∧ m = x47.n - j ∧ j ≤ L.length ∧ St h22 h' (.sl x47 179 3 (L.map Ev.cs) :: (TL h22.size g.e.toNat ss2 fs2 ars2 E2 M2 ++ [])) ∧ (∀ e ∈ E2, SI e.ws e.k e.p) ∧
      (∀ p ∈ E2.map (·.p), ∀ j : Nat, p j = true → (j : Int) < g.n) ∧ E2.length ≤ E.length + j ∧ M2.length ≤ M.length + j ∧ (E2.map (·.p))[i]? = some e.p ∧
      arcsF g.es role i e.p L (E.map (·.p)) M = arcsF g.es role i e.p (L.drop j) (E2.map (·.p)) M2, ⟨_, 0, _, _, _, E, M, rfl, rfl, by omega, hs, hSI, hlt, by omega, by omega, by rw [List.getElem?_map, g43]; rfl, by rw [List.drop_zero]⟩, ?_⟩
    clear hs hSI hlt hsl heE g43 t43 c2 ho47 E48 hi
    rintro - _ h53 m ⟨j, ss2, fs2, ars2, E2, M2, rfl, rfl, hj, hs, hSI, hlt, hE2l, hM2, hget, harc⟩
    have hsl2 := hs.len 2 (s := ss2) (e := 115) (n := 1) rfl (by omega)
    rw [List.length_map] at hsl2
    have hEi : i < E2.length := by have := (List.getElem?_eq_some_iff.1 hget).1; rwa [List.length_map] at this
    refine sBi (fun c3 => ?_) (fun c3 => ?_)
    · refine (hs.rows 0 (cs := Ev.cs) rfl (by omega)).nbI (by omega) (by omega) fun b54 o55 y g54 t54 => ?_
      replace g54 : L[j]? = some y := g54
      refine ⟨_, _, _, t54, ?_⟩
      refine hs.newput (vs := y.cs) rfl rfl fun h60 hs => ?_
      refine ⟨ss2, hs.rd 2 rfl rfl, ?_⟩
      refine (hs.rows 3 (cs := SE.hd) rfl (by omega)).nbI (by omega) (by omega) fun b62 o63 e2 g62 t62 => ?_
      replace g62 : E2[i]? = some e2 := g62
      have he2E := List.mem_of_getElem? g62
      have hpe : e2.p = e.p := by rw [List.getElem?_map, g62] at hget; exact Option.some.inj hget
      refine ⟨e2.s, t62.hd, ?_⟩
      refine ⟨_, _, _, hs.at 0 rfl (n := 3) rfl, ?_⟩
      refine (after56 g role bl e2.p y e2.s h60 (hl.ext hs.ext) hV ((hx.ext (hs1.ext.trans hs.ext))) (TL.set (A := [_, _]) hs hSI e2 he2E) (hlt e2.p (List.mem_map.2 ⟨e2, he2E, rfl⟩))).mono ?_
      rintro _ h70 ⟨E70, c4, k4, ws4, rfl, hc4, ho4, hS4⟩
      replace hs := hs.giftB E70 hc4 ho4
      refine ⟨⟨some ⟨c4, 0, none⟩, k4, k4⟩, rfl, ?_⟩
      rw [hpe] at hS4
      have hs : St h22 h70 ((⟨c4, k4, ws4, clo g.es role (toL g.es role e.p y)⟩ : SE).it :: (TL h22.size g.e.toNat ss2 fs2 ars2 E2 M2 ++ [.blk h53.size y.cs 179, .sl x47 179 3 (L.map Ev.cs)])) := by
        rw [List.append_nil] at hs
        exact hs.perm (List.Perm.cons _ (List.perm_append_comm (l₁ := [_, _])))
      refine (row83 (bg := h.size) hs hSI hS4 hb9 (he5 hs.ext) (by omega) (by omega)).mono ?_
      rintro _ h73 ⟨rfl, E3, ss3, fs3, hs, hE3, hSI3⟩
      refine ⟨_, rfl, ?_⟩
      have hs : St h22 h73 (.blk h53.size y.cs 179 :: .sl x47 179 3 (L.map Ev.cs) :: TL h22.size g.e.toNat ss3 fs3 ars2 E3 M2) :=
        hs.perm (List.perm_append_comm (l₂ := [_, _]))
      refine ⟨ars2, hs.rd 2 rfl rfl, ?_⟩
      refine ⟨_, hs.rd 0 rfl rfl, ?_⟩
      refine ⟨_, hs.rd 0 rfl rfl, ?_⟩
      refine ⟨_, hs.rd 0 rfl rfl, ?_⟩
      have har := (hs.rows 5 (s := ars2) (cs := Mv.cs) rfl (by omega)).ln
      refine hs.app 5 rfl app31 (m := 1) [Mv.cs ⟨i, y.send, y.peer, y.label, rowI (E2.map (·.p)) (clo g.es role (toL g.es role e.p y)), false⟩] rfl rfl (fun r hr => by rw [List.mem_singleton] at hr; rw [hr]; rfl) rfl (by omega) (by simp only [maxLen]; omega) fun s79 h80 ns79 hs => ?_
      refine hs.put 2 rfl (o := 2) (vs := [.slice s79.a s79.n s79.c]) rfl (show 3 ≤ 3 by decide) fun h81 hs => ?_
      have hrl := rowS_len (S := E2.map (·.p)) (p := clo g.es role (toL g.es role e.p y))
      rw [← hE3, List.length_map, List.length_map] at hrl
      refine ⟨_, by omega, j + 1, ss3, fs3, s79, E3, M2 ++ [⟨i, y.send, y.peer, y.label, rowI (E2.map (·.p)) (clo g.es role (toL g.es role e.p y)), false⟩], by rw [w64 (by omega) (by omega)]; omega, rfl, by omega, ?_, hSI3, ?_, by omega, by rw [List.length_append, List.length_singleton]; omega, by rw [hE3]; exact rowS_get hget, ?_⟩
      · rw [List.append_nil]
        unfold TL
        rw [List.map_append]
        exact hs.drop 1
      · intro p hp
        rw [hE3, rowS_mem] at hp
        rcases hp with hp | rfl
        · exact hlt p hp
        · exact clo_lt hV (toL_lt hV)
      · rw [harc, drop_get g54, hE3]; rfl
    · have hjL : L.length ≤ j := by omega
      rw [List.drop_eq_nil_of_le hjL] at harc
      have harc : arcsF g.es role i e.p L (E.map (·.p)) M = (E2.map (·.p), M2) := harc
      have hstep : views g role = if E2.length > 200 then none else viewsF g.es role (202 - (i + 1)) (i + 1) (E2.map (·.p)) M2 := by
        rw [hvw, show 202 - i = (202 - (i + 1)) + 1 by omega, viewsF, hEget]
        show (if (arcsF g.es role i e.p (evs g.es role e.p) (E.map (·.p)) M).1.length > 200 then none else _) = _
        rw [hL, harc, List.length_map]
      refine ⟨ss2, hs.rd 1 rfl rfl, ?_⟩
      refine sBi (fun c4 => ?_) (fun c4 => ?_)
      · rw [if_pos (by omega)] at hstep
        have hsA := hs1.step hs.ext
        refine hsA.put 0 rfl (o := 0) (vs := sl0) rfl (by decide) fun h84 hs => ?_
        refine ⟨⟨none, 0, 0⟩, ⟨none, 0, 0⟩, ⟨none, 0, 0⟩, hs.at 0 rfl (n := 3) rfl, ?_⟩
        exact ⟨hs.ext, .limit ⟨hV, hr0, hr1⟩ hstep⟩
      · rw [if_neg (by omega)] at hstep
        refine ⟨_, by omega, i + 1, ss2, fs2, ars2, E2, M2, by rw [w64 (by omega) (by omega)]; omega, rfl, by omega, hs.drop 1, hSI, hlt, by omega, by omega, hstep⟩
  · have hiE : E.length ≤ i := by omega
    have hfin : views g role = some (E.map (·.p), M) := by
      rw [hvw, show 202 - i = (201 - i) + 1 by omega, viewsF, List.getElem?_eq_none (by rw [List.length_map]; exact hiE)]
    refine ⟨ss, fs, ars, hs.at 0 rfl (n := 3) rfl, ?_⟩
    have hsJ := hs1.join (hs.drop 1)
    refine hsJ.put 0 rfl (o := 0) (vs := [.slice ss.a ss.n ss.c, .slice fs.a fs.n fs.c, .slice ars.a ars.n ars.c]) rfl (show 3 ≤ 3 by decide) fun h92 hs => ?_
    refine ⟨ss, fs, ars, hs.at 0 rfl (n := 3) rfl, ?_⟩
    have hs := hs.drop 2
    rw [show TL h22.size g.e.toNat ss fs ars E M ++ [] = _ from List.append_nil _] at hs
    exact ⟨hs.ext, .good ⟨hV, hr0, hr1⟩ hfin hs hSI hEl hlt (by omega)⟩
end Go.VC
end

section
namespace Go.VC
open Go.Proofs
set_option maxRecDepth 100000
set_option linter.unusedVariables false

/- farandole/project.prepare
 loop rrlrborrlbrrrlrb: out_37:Sl, x_38:Int
 loop rrrrlrb: x_118:Int
 loop rrrlrb: x_88:Int
 loop rrlrb: x_19:Int
 loop rrlrborrlbrrrlrb: out_181:Sl, x_182:Int
 loop rrrrlrb: x_262:Int
 loop rrrlrb: x_232:Int
 loop rrlrb: x_163:Int -/
def W71 (p0_1 : ByteArray) (p0_2 p0_3 : Sl) (p0_4 p0_5 p0_6 : Int) (p0_7 p0_8 : Sl) (p1 : Int) (h : Heap) (R : Value → Heap → Prop) : Prop :=
 (∀ h9 : Heap, h9 = h.push (.cells ⟨[.string p0_1, .slice p0_2.a p0_2.n p0_2.c, .slice p0_3.a p0_3.n p0_3.c, .int .i64 p0_4, .int .i64 p0_5, .int .i64 p0_6, .slice p0_7.a p0_7.n p0_7.c, .slice p0_8.a p0_8.n p0_8.c]⟩ 59) →
 (∃ x10 : Int, hc h9 ⟨h.size, 3, none⟩ = some (.int .i64 x10) ∧
 (∃ x11 : Int, hc h9 ⟨h.size, 3, none⟩ = some (.int .i64 x11) ∧
 ((((0 : Int) ≤ x10 ∧ (x10 : Int) ≤ x10 ∧ ((1 : Nat) : Int) * x10 ≤ 140737488355328) ∧ ∀ h12 : Heap, h12 = h9.push (.cells ⟨madeL Tryz.prog 4 (Int.toNat x10)⟩ 4) →
 (Sm [⟨h.size, 3, none⟩] h9 h12 ∧
 (((0 : Int) ≤ x11 ∧ (x11 : Int) ≤ x11 ∧ ((40 : Nat) : Int) * x11 ≤ 140737488355328) ∧ ∀ h13 : Heap, h13 = h12.push (.cells ⟨madeL Tryz.prog 119 (Int.toNat x11)⟩ 119) →
 (Sm [⟨h.size, 3, none⟩] h12 h13 ∧
 (∀ h14 : Heap, h14 = h13.push (.cells ⟨[.slice none 0 0, .slice none 0 0, .slice (some ⟨h9.size, 0, none⟩) (Int.toNat x10) (Int.toNat x10), .slice (some ⟨h12.size, 0, none⟩) (Int.toNat x11) (Int.toNat x11)]⟩ 184) →
 (∃ x15 : Int, hc h14 ⟨h.size, 3, none⟩ = some (.int .i64 x15) ∧
 (∃ I16 : Int → Heap → Nat → Prop, (∃ m17, I16 0 h14 m17) ∧
 (∀ (_ : Env) (x_19 : Int) (h20 : Heap) (m18 : Nat), I16 x_19 h20 m18 →
 (sB (decide (x_19 < x15))
 ((∃ (x21 : ByteArray) (x22 x23 : Sl) (x24 x25 x26 : Int) (x27 x28 : Sl), atC h20 ⟨h.size, 0, none⟩ [.string x21, .slice x22.a x22.n x22.c, .slice x23.a x23.n x23.c, .int .i64 x24, .int .i64 x25, .int .i64 x26, .slice x27.a x27.n x27.c, .slice x28.a x28.n x28.c] ∧
 (Fn Tryz.prog 132 #[.agg ⟨[.string x21, .slice x22.a x22.n x22.c, .slice x23.a x23.n x23.c, .int .i64 x24, .int .i64 x25, .int .i64 x26, .slice x27.a x27.n x27.c, .slice x28.a x28.n x28.c]⟩, .int .i64 p1, .int .i64 x_19] h20
 (fun v29 h33 => ∃ (x30 : Sl) (x31 : Bool) (x32 : Int), v29 = .tuple ⟨[.slice x30.a x30.n x30.c, .bool x31, .int .i64 x32]⟩ ∧
 (∃ I34 : Sl → Int → Heap → Nat → Prop, (∃ m35, I34 ⟨none, 0, 0⟩ 0 h33 m35) ∧
 (∀ (_ : Env) (out_37 : Sl) (x_38 : Int) (h39 : Heap) (m36 : Nat), I34 out_37 x_38 h39 m36 →
 (sB (decide (x_38 < (x30.n : Int)))
 ((NB x30.a fun b40 o41 => ((0 ≤ (x_38 : Int) ∧ (x_38 : Int) < (x30.n : Nat)) ∧
 (∃ (x42 : Int) (x43 : Bool) (x44 x45 : Int) (x46 : Sl), atC h39 ⟨b40, o41 + Int.toNat x_38 * 5, none⟩ [.int .i64 x42, .bool x43, .int .i64 x44, .int .i64 x45, .slice x46.a x46.n x46.c] ∧
 (∀ h47 : Heap, h47 = h39.push (.cells ⟨[.int .i64 0, .bool false, .int .i64 0, .int .i64 0, .slice none 0 0]⟩ 37) →
 (okAt h47 ⟨h39.size, 0, none⟩ 5 ∧ ∀ h48 : Heap, h48 = hputs h47 ⟨h39.size, 0, none⟩ 0 [.int .i64 x42, .bool x43, .int .i64 x44, .int .i64 x45, .slice x46.a x46.n x46.c] →
 (∃ x49 : Bool, hc h48 ⟨h39.size, 1, none⟩ = some (.bool x49) ∧
 (∃ x50 : Int, hc h48 ⟨h39.size, 2, none⟩ = some (.int .i64 x50) ∧
 (∃ x51 : Int, hc h48 ⟨h39.size, 3, none⟩ = some (.int .i64 x51) ∧
 (∀ h52 : Heap, h52 = h48.push (.cells ⟨[.bool x49, .int .i64 x50, .int .i64 x51]⟩ 117) →
 (App Tryz.prog 186 186 (.slice out_37.a out_37.n out_37.c) (.slice (some ⟨h48.size, 0, none⟩) 1 1) h52 fun s53 h54 =>
 (∃ m55, m55 < m36 ∧ I34 s53 (IntKind.wrap .i64 (x_38 + 1)) h54 m55))))))))))))
 ((∃ x56 : Sl, hc h39 ⟨h13.size, 0, none⟩ = some (.slice x56.a x56.n x56.c) ∧
 (∃ x57 : Sl, hc h39 ⟨h13.size, 1, none⟩ = some (.slice x57.a x57.n x57.c) ∧
 ((∀ h58 : Heap, h58 = h39.push (.cells ⟨[.slice out_37.a out_37.n out_37.c]⟩ 186) →
 (Sm [⟨h13.size, 1, none⟩, ⟨h13.size, 0, none⟩] h39 h58 ∧
 ((App Tryz.prog 182 182 (.slice x56.a x56.n x56.c) (.slice (some ⟨h39.size, 0, none⟩) 1 1) h58 fun s59 h60 =>
 (Sm [⟨h13.size, 1, none⟩] h58 h60 ∧
 (∀ h61 : Heap, h61 = h60.push (.cells ⟨[.bool x31]⟩ 4) →
 (Sm [⟨h13.size, 1, none⟩, ⟨h13.size, 0, none⟩] h60 h61 ∧
 (App Tryz.prog 22 22 (.slice x57.a x57.n x57.c) (.slice (some ⟨h60.size, 0, none⟩) 1 1) h61 fun s62 h63 =>
 (Sm [⟨h13.size, 0, none⟩] h61 h63 ∧
 (okAt h63 ⟨h13.size, 0, none⟩ 1 ∧ ∀ h64 : Heap, h64 = hputs h63 ⟨h13.size, 0, none⟩ 0 [.slice s59.a s59.n s59.c] →
 (okAt h64 ⟨h13.size, 1, none⟩ 1 ∧ ∀ h65 : Heap, h65 = hputs h64 ⟨h13.size, 1, none⟩ 0 [.slice s62.a s62.n s62.c] →
 (∃ m66, m66 < m18 ∧ I16 (IntKind.wrap .i64 (x_19 + 1)) h65 m66)))))))))) ∧ ((∀ h67 : Heap, h67 = h58.push (.cells ⟨[.bool x31]⟩ 4) →
 (Sm [⟨h13.size, 1, none⟩, ⟨h13.size, 0, none⟩] h58 h67 ∧
 (App Tryz.prog 182 182 (.slice x56.a x56.n x56.c) (.slice (some ⟨h39.size, 0, none⟩) 1 1) h67 fun s68 h69 =>
 (Sm [⟨h13.size, 1, none⟩] h67 h69 ∧
 (App Tryz.prog 22 22 (.slice x57.a x57.n x57.c) (.slice (some ⟨h58.size, 0, none⟩) 1 1) h69 fun s70 h71 =>
 (Sm [⟨h13.size, 0, none⟩] h69 h71 ∧
 (okAt h71 ⟨h13.size, 0, none⟩ 1 ∧ ∀ h72 : Heap, h72 = hputs h71 ⟨h13.size, 0, none⟩ 0 [.slice s68.a s68.n s68.c] →
 (okAt h72 ⟨h13.size, 1, none⟩ 1 ∧ ∀ h73 : Heap, h73 = hputs h72 ⟨h13.size, 1, none⟩ 0 [.slice s70.a s70.n s70.c] →
 (∃ m74, m74 < m18 ∧ I16 (IntKind.wrap .i64 (x_19 + 1)) h73 m74))))))))))))) ∧ ((∀ h75 : Heap, h75 = h39.push (.cells ⟨[.bool x31]⟩ 4) →
 (Sm [⟨h13.size, 1, none⟩, ⟨h13.size, 0, none⟩] h39 h75 ∧
 (∀ h76 : Heap, h76 = h75.push (.cells ⟨[.slice out_37.a out_37.n out_37.c]⟩ 186) →
 (Sm [⟨h13.size, 1, none⟩, ⟨h13.size, 0, none⟩] h75 h76 ∧
 (App Tryz.prog 182 182 (.slice x56.a x56.n x56.c) (.slice (some ⟨h75.size, 0, none⟩) 1 1) h76 fun s77 h78 =>
 (Sm [⟨h13.size, 1, none⟩] h76 h78 ∧
 (App Tryz.prog 22 22 (.slice x57.a x57.n x57.c) (.slice (some ⟨h39.size, 0, none⟩) 1 1) h78 fun s79 h80 =>
 (Sm [⟨h13.size, 0, none⟩] h78 h80 ∧
 (okAt h80 ⟨h13.size, 0, none⟩ 1 ∧ ∀ h81 : Heap, h81 = hputs h80 ⟨h13.size, 0, none⟩ 0 [.slice s77.a s77.n s77.c] →
 (okAt h81 ⟨h13.size, 1, none⟩ 1 ∧ ∀ h82 : Heap, h82 = hputs h81 ⟨h13.size, 1, none⟩ 0 [.slice s79.a s79.n s79.c] →
 (∃ m83, m83 < m18 ∧ I16 (IntKind.wrap .i64 (x_19 + 1)) h82 m83))))))))))))))))))))))
 ((∃ x84 : Sl, hc h20 ⟨h.size, 6, none⟩ = some (.slice x84.a x84.n x84.c) ∧
 (∃ I85 : Int → Heap → Nat → Prop, (∃ m86, I85 0 h20 m86) ∧
 (∀ (_ : Env) (x_88 : Int) (h89 : Heap) (m87 : Nat), I85 x_88 h89 m87 →
 (sB (decide (x_88 < (x84.n : Int)))
 ((NB x84.a fun b90 o91 => ((0 ≤ (x_88 : Int) ∧ (x_88 : Int) < (x84.n : Nat)) ∧
 (∃ (x92 x93 x94 x95 x96 : Int) (x97 : Bool), atC h89 ⟨b90, o91 + Int.toNat x_88 * 6, none⟩ [.int .i64 x92, .int .i64 x93, .int .i64 x94, .int .i64 x95, .int .i64 x96, .bool x97] ∧
 (∀ h98 : Heap, h98 = h89.push (.cells ⟨[.int .i64 0, .int .i64 0, .int .i64 0, .int .i64 0, .int .i64 0, .bool false]⟩ 145) →
 (okAt h98 ⟨h89.size, 0, none⟩ 6 ∧ ∀ h99 : Heap, h99 = hputs h98 ⟨h89.size, 0, none⟩ 0 [.int .i64 x92, .int .i64 x93, .int .i64 x94, .int .i64 x95, .int .i64 x96, .bool x97] →
 (∃ x100 : Int, hc h99 ⟨h89.size, 1, none⟩ = some (.int .i64 x100) ∧
 (sB (x100 == p1)
 ((∃ x101 : Sl, hc h99 ⟨h13.size, 2, none⟩ = some (.slice x101.a x101.n x101.c) ∧
 (∃ x102 : Int, hc h99 ⟨h89.size, 0, none⟩ = some (.int .i64 x102) ∧
 (∃ x103 : Sl, hc h99 ⟨h13.size, 3, none⟩ = some (.slice x103.a x103.n x103.c) ∧
 (∃ x104 : Int, hc h99 ⟨h89.size, 0, none⟩ = some (.int .i64 x104) ∧
 (∃ x105 : Bool, hc h99 ⟨h89.size, 5, none⟩ = some (.bool x105) ∧
 (NB x101.a fun b106 o107 => ((0 ≤ (x102 : Int) ∧ (x102 : Int) < (x101.n : Nat)) ∧
 (okAt h99 ⟨b106, o107 + Int.toNat x102 * 1, none⟩ 1 ∧ ∀ h108 : Heap, h108 = hputs h99 ⟨b106, o107 + Int.toNat x102 * 1, none⟩ 0 [.bool true] →
 (Sm [⟨h89.size, 5, none⟩, ⟨h89.size, 0, none⟩] h99 h108 ∧
 (NB x103.a fun b109 o110 => ((0 ≤ (x104 : Int) ∧ (x104 : Int) < (x103.n : Nat)) ∧
 (okAt h108 ⟨b109, o110 + Int.toNat x104 * 5, none⟩ 1 ∧ ∀ h111 : Heap, h111 = hputs h108 ⟨b109, o110 + Int.toNat x104 * 5, none⟩ 0 [.bool x105] →
 (∃ m112, m112 < m87 ∧ I85 (IntKind.wrap .i64 (x_88 + 1)) h111 m112))))))))))))))
 ((∃ m113, m113 < m87 ∧ I85 (IntKind.wrap .i64 (x_88 + 1)) h99 m113))))))))))
 ((∃ x114 : Sl, hc h89 ⟨h.size, 7, none⟩ = some (.slice x114.a x114.n x114.c) ∧
 (∃ I115 : Int → Heap → Nat → Prop, (∃ m116, I115 0 h89 m116) ∧
 (∀ (_ : Env) (x_118 : Int) (h119 : Heap) (m117 : Nat), I115 x_118 h119 m117 →
 (sB (decide (x_118 < (x114.n : Int)))
 ((NB x114.a fun b120 o121 => ((0 ≤ (x_118 : Int) ∧ (x_118 : Int) < (x114.n : Nat)) ∧
 (∃ (x122 x123 x124 : Int), atC h119 ⟨b120, o121 + Int.toNat x_118 * 3, none⟩ [.int .i64 x122, .int .i64 x123, .int .i64 x124] ∧
 (∀ h125 : Heap, h125 = h119.push (.cells ⟨[.int .i64 0, .int .i64 0, .int .i64 0]⟩ 44) →
 (okAt h125 ⟨h119.size, 0, none⟩ 3 ∧ ∀ h126 : Heap, h126 = hputs h125 ⟨h119.size, 0, none⟩ 0 [.int .i64 x122, .int .i64 x123, .int .i64 x124] →
 (∃ x127 : Sl, hc h126 ⟨h13.size, 2, none⟩ = some (.slice x127.a x127.n x127.c) ∧
 (∃ x128 : Int, hc h126 ⟨h119.size, 0, none⟩ = some (.int .i64 x128) ∧
 (NB x127.a fun b129 o130 => ((0 ≤ (x128 : Int) ∧ (x128 : Int) < (x127.n : Nat)) ∧
 (∃ x131 : Bool, hc h126 ⟨b129, o130 + Int.toNat x128 * 1, none⟩ = some (.bool x131) ∧
 (sB x131
 ((∃ x132 : Sl, hc h126 ⟨h.size, 6, none⟩ = some (.slice x132.a x132.n x132.c) ∧
 (∃ x133 : Int, hc h126 ⟨h119.size, 2, none⟩ = some (.int .i64 x133) ∧
 (NB x132.a fun b134 o135 => ((0 ≤ (x133 : Int) ∧ (x133 : Int) < (x132.n : Nat)) ∧
 (∃ (x136 x137 x138 : Int), atC h126 ⟨b134, o135 + Int.toNat x133 * 6 + 1, none⟩ [.int .i64 x136, .int .i64 x137, .int .i64 x138] ∧
 (∀ h139 : Heap, h139 = h126.push (.cells ⟨[.int .i64 0, .int .i64 0, .int .i64 0]⟩ 143) →
 (okAt h139 ⟨h126.size, 0, none⟩ 3 ∧ ∀ h140 : Heap, h140 = hputs h139 ⟨h126.size, 0, none⟩ 0 [.int .i64 x136, .int .i64 x137, .int .i64 x138] →
 (∃ x141 : Sl, hc h140 ⟨h13.size, 3, none⟩ = some (.slice x141.a x141.n x141.c) ∧
 (∃ x142 : Int, hc h140 ⟨h119.size, 0, none⟩ = some (.int .i64 x142) ∧
 (∃ x143 : Sl, hc h140 ⟨h13.size, 3, none⟩ = some (.slice x143.a x143.n x143.c) ∧
 (∃ x144 : Int, hc h140 ⟨h119.size, 0, none⟩ = some (.int .i64 x144) ∧
 (∃ x145 : Int, hc h140 ⟨h119.size, 1, none⟩ = some (.int .i64 x145) ∧
 (∃ x146 : Int, hc h140 ⟨h126.size, 1, none⟩ = some (.int .i64 x146) ∧
 (∃ x147 : Int, hc h140 ⟨h126.size, 2, none⟩ = some (.int .i64 x147) ∧
 (NB x141.a fun b148 o149 => ((0 ≤ (x142 : Int) ∧ (x142 : Int) < (x141.n : Nat)) ∧
 (okAt h140 ⟨b148, o149 + Int.toNat x142 * 5 + 1, none⟩ 1 ∧ ∀ h150 : Heap, h150 = hputs h140 ⟨b148, o149 + Int.toNat x142 * 5 + 1, none⟩ 0 [.int .i64 x145] →
 (Sm [⟨h126.size, 2, none⟩, ⟨h126.size, 1, none⟩, ⟨h119.size, 0, none⟩] h140 h150 ∧
 (NB x143.a fun b151 o152 => ((0 ≤ (x144 : Int) ∧ (x144 : Int) < (x143.n : Nat)) ∧
 (okAt h150 ⟨b151, o152 + Int.toNat x144 * 5 + 2, none⟩ 3 ∧ ∀ h153 : Heap, h153 = hputs h150 ⟨b151, o152 + Int.toNat x144 * 5 + 2, none⟩ 0 [.bool true, .int .i64 x146, .int .i64 x147] →
 (∃ m154, m154 < m117 ∧ I115 (IntKind.wrap .i64 (x_118 + 1)) h153 m154)))))))))))))))))))))))
 ((∃ m155, m155 < m117 ∧ I115 (IntKind.wrap .i64 (x_118 + 1)) h126 m155))))))))))))))
 (R (.pointer (some ⟨h13.size, 0, none⟩)) h119))))))))))))))))))))) ∧ ((((0 : Int) ≤ x11 ∧ (x11 : Int) ≤ x11 ∧ ((40 : Nat) : Int) * x11 ≤ 140737488355328) ∧ ∀ h156 : Heap, h156 = h9.push (.cells ⟨madeL Tryz.prog 119 (Int.toNat x11)⟩ 119) →
 (Sm [⟨h.size, 3, none⟩] h9 h156 ∧
 (((0 : Int) ≤ x10 ∧ (x10 : Int) ≤ x10 ∧ ((1 : Nat) : Int) * x10 ≤ 140737488355328) ∧ ∀ h157 : Heap, h157 = h156.push (.cells ⟨madeL Tryz.prog 4 (Int.toNat x10)⟩ 4) →
 (Sm [⟨h.size, 3, none⟩] h156 h157 ∧
 (∀ h158 : Heap, h158 = h157.push (.cells ⟨[.slice none 0 0, .slice none 0 0, .slice (some ⟨h156.size, 0, none⟩) (Int.toNat x10) (Int.toNat x10), .slice (some ⟨h9.size, 0, none⟩) (Int.toNat x11) (Int.toNat x11)]⟩ 184) →
 (∃ x159 : Int, hc h158 ⟨h.size, 3, none⟩ = some (.int .i64 x159) ∧
 (∃ I160 : Int → Heap → Nat → Prop, (∃ m161, I160 0 h158 m161) ∧
 (∀ (_ : Env) (x_163 : Int) (h164 : Heap) (m162 : Nat), I160 x_163 h164 m162 →
 (sB (decide (x_163 < x159))
 ((∃ (x165 : ByteArray) (x166 x167 : Sl) (x168 x169 x170 : Int) (x171 x172 : Sl), atC h164 ⟨h.size, 0, none⟩ [.string x165, .slice x166.a x166.n x166.c, .slice x167.a x167.n x167.c, .int .i64 x168, .int .i64 x169, .int .i64 x170, .slice x171.a x171.n x171.c, .slice x172.a x172.n x172.c] ∧
 (Fn Tryz.prog 132 #[.agg ⟨[.string x165, .slice x166.a x166.n x166.c, .slice x167.a x167.n x167.c, .int .i64 x168, .int .i64 x169, .int .i64 x170, .slice x171.a x171.n x171.c, .slice x172.a x172.n x172.c]⟩, .int .i64 p1, .int .i64 x_163] h164
 (fun v173 h177 => ∃ (x174 : Sl) (x175 : Bool) (x176 : Int), v173 = .tuple ⟨[.slice x174.a x174.n x174.c, .bool x175, .int .i64 x176]⟩ ∧
 (∃ I178 : Sl → Int → Heap → Nat → Prop, (∃ m179, I178 ⟨none, 0, 0⟩ 0 h177 m179) ∧
 (∀ (_ : Env) (out_181 : Sl) (x_182 : Int) (h183 : Heap) (m180 : Nat), I178 out_181 x_182 h183 m180 →
 (sB (decide (x_182 < (x174.n : Int)))
 ((NB x174.a fun b184 o185 => ((0 ≤ (x_182 : Int) ∧ (x_182 : Int) < (x174.n : Nat)) ∧
 (∃ (x186 : Int) (x187 : Bool) (x188 x189 : Int) (x190 : Sl), atC h183 ⟨b184, o185 + Int.toNat x_182 * 5, none⟩ [.int .i64 x186, .bool x187, .int .i64 x188, .int .i64 x189, .slice x190.a x190.n x190.c] ∧
 (∀ h191 : Heap, h191 = h183.push (.cells ⟨[.int .i64 0, .bool false, .int .i64 0, .int .i64 0, .slice none 0 0]⟩ 37) →
 (okAt h191 ⟨h183.size, 0, none⟩ 5 ∧ ∀ h192 : Heap, h192 = hputs h191 ⟨h183.size, 0, none⟩ 0 [.int .i64 x186, .bool x187, .int .i64 x188, .int .i64 x189, .slice x190.a x190.n x190.c] →
 (∃ x193 : Bool, hc h192 ⟨h183.size, 1, none⟩ = some (.bool x193) ∧
 (∃ x194 : Int, hc h192 ⟨h183.size, 2, none⟩ = some (.int .i64 x194) ∧
 (∃ x195 : Int, hc h192 ⟨h183.size, 3, none⟩ = some (.int .i64 x195) ∧
 (∀ h196 : Heap, h196 = h192.push (.cells ⟨[.bool x193, .int .i64 x194, .int .i64 x195]⟩ 117) →
 (App Tryz.prog 186 186 (.slice out_181.a out_181.n out_181.c) (.slice (some ⟨h192.size, 0, none⟩) 1 1) h196 fun s197 h198 =>
 (∃ m199, m199 < m180 ∧ I178 s197 (IntKind.wrap .i64 (x_182 + 1)) h198 m199))))))))))))
 ((∃ x200 : Sl, hc h183 ⟨h157.size, 0, none⟩ = some (.slice x200.a x200.n x200.c) ∧
 (∃ x201 : Sl, hc h183 ⟨h157.size, 1, none⟩ = some (.slice x201.a x201.n x201.c) ∧
 ((∀ h202 : Heap, h202 = h183.push (.cells ⟨[.slice out_181.a out_181.n out_181.c]⟩ 186) →
 (Sm [⟨h157.size, 1, none⟩, ⟨h157.size, 0, none⟩] h183 h202 ∧
 ((App Tryz.prog 182 182 (.slice x200.a x200.n x200.c) (.slice (some ⟨h183.size, 0, none⟩) 1 1) h202 fun s203 h204 =>
 (Sm [⟨h157.size, 1, none⟩] h202 h204 ∧
 (∀ h205 : Heap, h205 = h204.push (.cells ⟨[.bool x175]⟩ 4) →
 (Sm [⟨h157.size, 1, none⟩, ⟨h157.size, 0, none⟩] h204 h205 ∧
 (App Tryz.prog 22 22 (.slice x201.a x201.n x201.c) (.slice (some ⟨h204.size, 0, none⟩) 1 1) h205 fun s206 h207 =>
 (Sm [⟨h157.size, 0, none⟩] h205 h207 ∧
 (okAt h207 ⟨h157.size, 0, none⟩ 1 ∧ ∀ h208 : Heap, h208 = hputs h207 ⟨h157.size, 0, none⟩ 0 [.slice s203.a s203.n s203.c] →
 (okAt h208 ⟨h157.size, 1, none⟩ 1 ∧ ∀ h209 : Heap, h209 = hputs h208 ⟨h157.size, 1, none⟩ 0 [.slice s206.a s206.n s206.c] →
 (∃ m210, m210 < m162 ∧ I160 (IntKind.wrap .i64 (x_163 + 1)) h209 m210)))))))))) ∧ ((∀ h211 : Heap, h211 = h202.push (.cells ⟨[.bool x175]⟩ 4) →
 (Sm [⟨h157.size, 1, none⟩, ⟨h157.size, 0, none⟩] h202 h211 ∧
 (App Tryz.prog 182 182 (.slice x200.a x200.n x200.c) (.slice (some ⟨h183.size, 0, none⟩) 1 1) h211 fun s212 h213 =>
 (Sm [⟨h157.size, 1, none⟩] h211 h213 ∧
 (App Tryz.prog 22 22 (.slice x201.a x201.n x201.c) (.slice (some ⟨h202.size, 0, none⟩) 1 1) h213 fun s214 h215 =>
 (Sm [⟨h157.size, 0, none⟩] h213 h215 ∧
 (okAt h215 ⟨h157.size, 0, none⟩ 1 ∧ ∀ h216 : Heap, h216 = hputs h215 ⟨h157.size, 0, none⟩ 0 [.slice s212.a s212.n s212.c] →
 (okAt h216 ⟨h157.size, 1, none⟩ 1 ∧ ∀ h217 : Heap, h217 = hputs h216 ⟨h157.size, 1, none⟩ 0 [.slice s214.a s214.n s214.c] →
 (∃ m218, m218 < m162 ∧ I160 (IntKind.wrap .i64 (x_163 + 1)) h217 m218))))))))))))) ∧ ((∀ h219 : Heap, h219 = h183.push (.cells ⟨[.bool x175]⟩ 4) →
 (Sm [⟨h157.size, 1, none⟩, ⟨h157.size, 0, none⟩] h183 h219 ∧
 (∀ h220 : Heap, h220 = h219.push (.cells ⟨[.slice out_181.a out_181.n out_181.c]⟩ 186) →
 (Sm [⟨h157.size, 1, none⟩, ⟨h157.size, 0, none⟩] h219 h220 ∧
 (App Tryz.prog 182 182 (.slice x200.a x200.n x200.c) (.slice (some ⟨h219.size, 0, none⟩) 1 1) h220 fun s221 h222 =>
 (Sm [⟨h157.size, 1, none⟩] h220 h222 ∧
 (App Tryz.prog 22 22 (.slice x201.a x201.n x201.c) (.slice (some ⟨h183.size, 0, none⟩) 1 1) h222 fun s223 h224 =>
 (Sm [⟨h157.size, 0, none⟩] h222 h224 ∧
 (okAt h224 ⟨h157.size, 0, none⟩ 1 ∧ ∀ h225 : Heap, h225 = hputs h224 ⟨h157.size, 0, none⟩ 0 [.slice s221.a s221.n s221.c] →
 (okAt h225 ⟨h157.size, 1, none⟩ 1 ∧ ∀ h226 : Heap, h226 = hputs h225 ⟨h157.size, 1, none⟩ 0 [.slice s223.a s223.n s223.c] →
 (∃ m227, m227 < m162 ∧ I160 (IntKind.wrap .i64 (x_163 + 1)) h226 m227))))))))))))))))))))))
 ((∃ x228 : Sl, hc h164 ⟨h.size, 6, none⟩ = some (.slice x228.a x228.n x228.c) ∧
 (∃ I229 : Int → Heap → Nat → Prop, (∃ m230, I229 0 h164 m230) ∧
 (∀ (_ : Env) (x_232 : Int) (h233 : Heap) (m231 : Nat), I229 x_232 h233 m231 →
 (sB (decide (x_232 < (x228.n : Int)))
 ((NB x228.a fun b234 o235 => ((0 ≤ (x_232 : Int) ∧ (x_232 : Int) < (x228.n : Nat)) ∧
 (∃ (x236 x237 x238 x239 x240 : Int) (x241 : Bool), atC h233 ⟨b234, o235 + Int.toNat x_232 * 6, none⟩ [.int .i64 x236, .int .i64 x237, .int .i64 x238, .int .i64 x239, .int .i64 x240, .bool x241] ∧
 (∀ h242 : Heap, h242 = h233.push (.cells ⟨[.int .i64 0, .int .i64 0, .int .i64 0, .int .i64 0, .int .i64 0, .bool false]⟩ 145) →
 (okAt h242 ⟨h233.size, 0, none⟩ 6 ∧ ∀ h243 : Heap, h243 = hputs h242 ⟨h233.size, 0, none⟩ 0 [.int .i64 x236, .int .i64 x237, .int .i64 x238, .int .i64 x239, .int .i64 x240, .bool x241] →
 (∃ x244 : Int, hc h243 ⟨h233.size, 1, none⟩ = some (.int .i64 x244) ∧
 (sB (x244 == p1)
 ((∃ x245 : Sl, hc h243 ⟨h157.size, 2, none⟩ = some (.slice x245.a x245.n x245.c) ∧
 (∃ x246 : Int, hc h243 ⟨h233.size, 0, none⟩ = some (.int .i64 x246) ∧
 (∃ x247 : Sl, hc h243 ⟨h157.size, 3, none⟩ = some (.slice x247.a x247.n x247.c) ∧
 (∃ x248 : Int, hc h243 ⟨h233.size, 0, none⟩ = some (.int .i64 x248) ∧
 (∃ x249 : Bool, hc h243 ⟨h233.size, 5, none⟩ = some (.bool x249) ∧
 (NB x245.a fun b250 o251 => ((0 ≤ (x246 : Int) ∧ (x246 : Int) < (x245.n : Nat)) ∧
 (okAt h243 ⟨b250, o251 + Int.toNat x246 * 1, none⟩ 1 ∧ ∀ h252 : Heap, h252 = hputs h243 ⟨b250, o251 + Int.toNat x246 * 1, none⟩ 0 [.bool true] →
 (Sm [⟨h233.size, 5, none⟩, ⟨h233.size, 0, none⟩] h243 h252 ∧
 (NB x247.a fun b253 o254 => ((0 ≤ (x248 : Int) ∧ (x248 : Int) < (x247.n : Nat)) ∧
 (okAt h252 ⟨b253, o254 + Int.toNat x248 * 5, none⟩ 1 ∧ ∀ h255 : Heap, h255 = hputs h252 ⟨b253, o254 + Int.toNat x248 * 5, none⟩ 0 [.bool x249] →
 (∃ m256, m256 < m231 ∧ I229 (IntKind.wrap .i64 (x_232 + 1)) h255 m256))))))))))))))
 ((∃ m257, m257 < m231 ∧ I229 (IntKind.wrap .i64 (x_232 + 1)) h243 m257))))))))))
 ((∃ x258 : Sl, hc h233 ⟨h.size, 7, none⟩ = some (.slice x258.a x258.n x258.c) ∧
 (∃ I259 : Int → Heap → Nat → Prop, (∃ m260, I259 0 h233 m260) ∧
 (∀ (_ : Env) (x_262 : Int) (h263 : Heap) (m261 : Nat), I259 x_262 h263 m261 →
 (sB (decide (x_262 < (x258.n : Int)))
 ((NB x258.a fun b264 o265 => ((0 ≤ (x_262 : Int) ∧ (x_262 : Int) < (x258.n : Nat)) ∧
 (∃ (x266 x267 x268 : Int), atC h263 ⟨b264, o265 + Int.toNat x_262 * 3, none⟩ [.int .i64 x266, .int .i64 x267, .int .i64 x268] ∧
 (∀ h269 : Heap, h269 = h263.push (.cells ⟨[.int .i64 0, .int .i64 0, .int .i64 0]⟩ 44) →
 (okAt h269 ⟨h263.size, 0, none⟩ 3 ∧ ∀ h270 : Heap, h270 = hputs h269 ⟨h263.size, 0, none⟩ 0 [.int .i64 x266, .int .i64 x267, .int .i64 x268] →
 (∃ x271 : Sl, hc h270 ⟨h157.size, 2, none⟩ = some (.slice x271.a x271.n x271.c) ∧
 (∃ x272 : Int, hc h270 ⟨h263.size, 0, none⟩ = some (.int .i64 x272) ∧
 (NB x271.a fun b273 o274 => ((0 ≤ (x272 : Int) ∧ (x272 : Int) < (x271.n : Nat)) ∧
 (∃ x275 : Bool, hc h270 ⟨b273, o274 + Int.toNat x272 * 1, none⟩ = some (.bool x275) ∧
 (sB x275
 ((∃ x276 : Sl, hc h270 ⟨h.size, 6, none⟩ = some (.slice x276.a x276.n x276.c) ∧
 (∃ x277 : Int, hc h270 ⟨h263.size, 2, none⟩ = some (.int .i64 x277) ∧
 (NB x276.a fun b278 o279 => ((0 ≤ (x277 : Int) ∧ (x277 : Int) < (x276.n : Nat)) ∧
 (∃ (x280 x281 x282 : Int), atC h270 ⟨b278, o279 + Int.toNat x277 * 6 + 1, none⟩ [.int .i64 x280, .int .i64 x281, .int .i64 x282] ∧
 (∀ h283 : Heap, h283 = h270.push (.cells ⟨[.int .i64 0, .int .i64 0, .int .i64 0]⟩ 143) →
 (okAt h283 ⟨h270.size, 0, none⟩ 3 ∧ ∀ h284 : Heap, h284 = hputs h283 ⟨h270.size, 0, none⟩ 0 [.int .i64 x280, .int .i64 x281, .int .i64 x282] →
 (∃ x285 : Sl, hc h284 ⟨h157.size, 3, none⟩ = some (.slice x285.a x285.n x285.c) ∧
 (∃ x286 : Int, hc h284 ⟨h263.size, 0, none⟩ = some (.int .i64 x286) ∧
 (∃ x287 : Sl, hc h284 ⟨h157.size, 3, none⟩ = some (.slice x287.a x287.n x287.c) ∧
 (∃ x288 : Int, hc h284 ⟨h263.size, 0, none⟩ = some (.int .i64 x288) ∧
 (∃ x289 : Int, hc h284 ⟨h263.size, 1, none⟩ = some (.int .i64 x289) ∧
 (∃ x290 : Int, hc h284 ⟨h270.size, 1, none⟩ = some (.int .i64 x290) ∧
 (∃ x291 : Int, hc h284 ⟨h270.size, 2, none⟩ = some (.int .i64 x291) ∧
 (NB x285.a fun b292 o293 => ((0 ≤ (x286 : Int) ∧ (x286 : Int) < (x285.n : Nat)) ∧
 (okAt h284 ⟨b292, o293 + Int.toNat x286 * 5 + 1, none⟩ 1 ∧ ∀ h294 : Heap, h294 = hputs h284 ⟨b292, o293 + Int.toNat x286 * 5 + 1, none⟩ 0 [.int .i64 x289] →
 (Sm [⟨h270.size, 2, none⟩, ⟨h270.size, 1, none⟩, ⟨h263.size, 0, none⟩] h284 h294 ∧
 (NB x287.a fun b295 o296 => ((0 ≤ (x288 : Int) ∧ (x288 : Int) < (x287.n : Nat)) ∧
 (okAt h294 ⟨b295, o296 + Int.toNat x288 * 5 + 2, none⟩ 3 ∧ ∀ h297 : Heap, h297 = hputs h294 ⟨b295, o296 + Int.toNat x288 * 5 + 2, none⟩ 0 [.bool true, .int .i64 x290, .int .i64 x291] →
 (∃ m298, m298 < m261 ∧ I259 (IntKind.wrap .i64 (x_262 + 1)) h297 m298)))))))))))))))))))))))
 ((∃ m299, m299 < m261 ∧ I259 (IntKind.wrap .i64 (x_262 + 1)) h270 m299))))))))))))))
 (R (.pointer (some ⟨h157.size, 0, none⟩)) h263))))))))))))))))))))))))
theorem vc71 (p0_1 : ByteArray) (p0_2 p0_3 : Sl) (p0_4 p0_5 p0_6 : Int) (p0_7 p0_8 : Sl) (p1 : Int) (h : Heap) (R : Value → Heap → Prop) (H : W71 p0_1 p0_2 p0_3 p0_4 p0_5 p0_6 p0_7 p0_8 p1 h R) : Fn Tryz.prog 71 #[.agg ⟨[.string p0_1, .slice p0_2.a p0_2.n p0_2.c, .slice p0_3.a p0_3.n p0_3.c, .int .i64 p0_4, .int .i64 p0_5, .int .i64 p0_6, .slice p0_7.a p0_7.n p0_7.c, .slice p0_8.a p0_8.n p0_8.c]⟩, .int .i64 p1] h R := fnI (A := (.s .z (.s .z (.s (.s .z (.b (.l [(28, .one (.int .i64))] (.s .z (.s .z (.s (.b (.s .z (.s .z (.s .z (.s (.s .z (.b (.l [(10, .one (.slice)), (41, .one (.int .i64))] .z))) .z))))) .z)))))) (.s (.s .z (.b (.l [(80, .one (.int .i64))] .z))) (.s (.s .z (.b (.l [(110, .one (.int .i64))] .z))) .z)))))) (by kernel_rfl) H

/- slices.Equal[[]farandole/project.event,farandole/project.event]
 loop rrlrb: x_4:Int -/
def W133 (p0 p1 : Sl) (h : Heap) (R : Value → Heap → Prop) : Prop :=
 (sB ((p0.n : Int) != (p1.n : Int))
 (R (.bool false) h)
 ((∃ I1 : Int → Heap → Nat → Prop, (∃ m2, I1 0 h m2) ∧
 (∀ (_ : Env) (x_4 : Int) (h5 : Heap) (m3 : Nat), I1 x_4 h5 m3 →
 (sB (decide (x_4 < (p0.n : Int)))
 ((NB p0.a fun b6 o7 => ((0 ≤ (x_4 : Int) ∧ (x_4 : Int) < (p0.n : Nat)) ∧
 (∃ (x8 : Bool) (x9 x10 : Int), atC h5 ⟨b6, o7 + Int.toNat x_4 * 3, none⟩ [.bool x8, .int .i64 x9, .int .i64 x10] ∧
 (NB p1.a fun b11 o12 => ((0 ≤ (x_4 : Int) ∧ (x_4 : Int) < (p1.n : Nat)) ∧
 (∃ (x13 : Bool) (x14 x15 : Int), atC h5 ⟨b11, o12 + Int.toNat x_4 * 3, none⟩ [.bool x13, .int .i64 x14, .int .i64 x15] ∧
 (sB (!((x8 == x13) && ((x9 == x14) && ((x10 == x15) && true))))
 (R (.bool false) h5)
 ((∃ m16, m16 < m3 ∧ I1 (IntKind.wrap .i64 (x_4 + 1)) h5 m16))))))))))
 (R (.bool true) h5))))))
theorem vc133 (p0 p1 : Sl) (h : Heap) (R : Value → Heap → Prop) (H : W133 p0 p1 h R) : Fn Tryz.prog 133 #[.slice p0.a p0.n p0.c, .slice p1.a p1.n p1.c] h R := fnI (A := (.s .z (.s .z (.s (.s .z (.b (.l [(13, .one (.int .i64))] .z))) .z)))) (by kernel_rfl) H

/- farandole/project.Raw
 loop rrrrrrrlrborrlbrrrrb: x_124:Int
 loop rrrrrrrlrb: x_95:Int -/
def W36 (p0_1 : ByteArray) (p0_2 p0_3 : Sl) (p0_4 p0_5 p0_6 : Int) (p0_7 p0_8 : Sl) (p1 : Int) (h : Heap) (R : Value → Heap → Prop) : Prop :=
 (∀ h9 : Heap, h9 = h.push (.cells ⟨[.string p0_1, .slice p0_2.a p0_2.n p0_2.c, .slice p0_3.a p0_3.n p0_3.c, .int .i64 p0_4, .int .i64 p0_5, .int .i64 p0_6, .slice p0_7.a p0_7.n p0_7.c, .slice p0_8.a p0_8.n p0_8.c]⟩ 59) →
 (∀ h10 : Heap, h10 = h9.push (.cells ⟨[.int .i64 0, .int .i64 0, .int .i64 0, .slice none 0 0, .slice none 0 0, .slice none 0 0]⟩ 26) →
 (∃ (x11 : ByteArray) (x12 x13 : Sl) (x14 x15 x16 : Int) (x17 x18 : Sl), atC h10 ⟨h.size, 0, none⟩ [.string x11, .slice x12.a x12.n x12.c, .slice x13.a x13.n x13.c, .int .i64 x14, .int .i64 x15, .int .i64 x16, .slice x17.a x17.n x17.c, .slice x18.a x18.n x18.c] ∧
 (Fn Tryz.prog 69 #[.agg ⟨[.string x11, .slice x12.a x12.n x12.c, .slice x13.a x13.n x13.c, .int .i64 x14, .int .i64 x15, .int .i64 x16, .slice x17.a x17.n x17.c, .slice x18.a x18.n x18.c]⟩] h10
 (fun v19 h21 => ∃ x20 : Bool, v19 = .bool x20 ∧
 (sB (!x20)
 ((okAt h21 ⟨h9.size, 0, none⟩ 6 ∧ ∀ h22 : Heap, h22 = hputs h21 ⟨h9.size, 0, none⟩ 0 [.int .i64 0, .int .i64 0, .int .i64 0, .slice none 0 0, .slice none 0 0, .slice none 0 0] →
 (∃ (x23 x24 x25 : Int) (x26 x27 x28 : Sl), atC h22 ⟨h9.size, 0, none⟩ [.int .i64 x23, .int .i64 x24, .int .i64 x25, .slice x26.a x26.n x26.c, .slice x27.a x27.n x27.c, .slice x28.a x28.n x28.c] ∧
 R (.tuple ⟨[.agg ⟨[.int .i64 x23, .int .i64 x24, .int .i64 x25, .slice x26.a x26.n x26.c, .slice x27.a x27.n x27.c, .slice x28.a x28.n x28.c]⟩, .int .i64 1]⟩) h22)))
 ((sB (decide (p1 < 0))
 ((okAt h21 ⟨h9.size, 0, none⟩ 6 ∧ ∀ h29 : Heap, h29 = hputs h21 ⟨h9.size, 0, none⟩ 0 [.int .i64 0, .int .i64 0, .int .i64 0, .slice none 0 0, .slice none 0 0, .slice none 0 0] →
 (∃ (x30 x31 x32 : Int) (x33 x34 x35 : Sl), atC h29 ⟨h9.size, 0, none⟩ [.int .i64 x30, .int .i64 x31, .int .i64 x32, .slice x33.a x33.n x33.c, .slice x34.a x34.n x34.c, .slice x35.a x35.n x35.c] ∧
 R (.tuple ⟨[.agg ⟨[.int .i64 x30, .int .i64 x31, .int .i64 x32, .slice x33.a x33.n x33.c, .slice x34.a x34.n x34.c, .slice x35.a x35.n x35.c]⟩, .int .i64 1]⟩) h29)))
 ((∃ x36 : Sl, hc h21 ⟨h.size, 1, none⟩ = some (.slice x36.a x36.n x36.c) ∧
 (sB (decide (p1 ≥ (x36.n : Int)))
 ((okAt h21 ⟨h9.size, 0, none⟩ 6 ∧ ∀ h37 : Heap, h37 = hputs h21 ⟨h9.size, 0, none⟩ 0 [.int .i64 0, .int .i64 0, .int .i64 0, .slice none 0 0, .slice none 0 0, .slice none 0 0] →
 (∃ (x38 x39 x40 : Int) (x41 x42 x43 : Sl), atC h37 ⟨h9.size, 0, none⟩ [.int .i64 x38, .int .i64 x39, .int .i64 x40, .slice x41.a x41.n x41.c, .slice x42.a x42.n x42.c, .slice x43.a x43.n x43.c] ∧
 R (.tuple ⟨[.agg ⟨[.int .i64 x38, .int .i64 x39, .int .i64 x40, .slice x41.a x41.n x41.c, .slice x42.a x42.n x42.c, .slice x43.a x43.n x43.c]⟩, .int .i64 1]⟩) h37)))
 ((∃ (x44 : ByteArray) (x45 x46 : Sl) (x47 x48 x49 : Int) (x50 x51 : Sl), atC h21 ⟨h.size, 0, none⟩ [.string x44, .slice x45.a x45.n x45.c, .slice x46.a x46.n x46.c, .int .i64 x47, .int .i64 x48, .int .i64 x49, .slice x50.a x50.n x50.c, .slice x51.a x51.n x51.c] ∧
 (Fn Tryz.prog 70 #[.agg ⟨[.string x44, .slice x45.a x45.n x45.c, .slice x46.a x46.n x46.c, .int .i64 x47, .int .i64 x48, .int .i64 x49, .slice x50.a x50.n x50.c, .slice x51.a x51.n x51.c]⟩, .int .i64 p1] h21
 (fun v52 h57 => ∃ (x53 x54 x55 : Sl) (x56 : Int), v52 = .tuple ⟨[.agg ⟨[.slice x53.a x53.n x53.c, .slice x54.a x54.n x54.c, .slice x55.a x55.n x55.c]⟩, .int .i64 x56]⟩ ∧
 (∀ h58 : Heap, h58 = h57.push (.cells ⟨[.slice none 0 0, .slice none 0 0, .slice none 0 0]⟩ 109) →
 (okAt h58 ⟨h57.size, 0, none⟩ 3 ∧ ∀ h59 : Heap, h59 = hputs h58 ⟨h57.size, 0, none⟩ 0 [.slice x53.a x53.n x53.c, .slice x54.a x54.n x54.c, .slice x55.a x55.n x55.c] →
 (sB (x56 != 0)
 ((okAt h59 ⟨h9.size, 0, none⟩ 6 ∧ ∀ h60 : Heap, h60 = hputs h59 ⟨h9.size, 0, none⟩ 0 [.int .i64 0, .int .i64 0, .int .i64 0, .slice none 0 0, .slice none 0 0, .slice none 0 0] →
 (∃ (x61 x62 x63 : Int) (x64 x65 x66 : Sl), atC h60 ⟨h9.size, 0, none⟩ [.int .i64 x61, .int .i64 x62, .int .i64 x63, .slice x64.a x64.n x64.c, .slice x65.a x65.n x65.c, .slice x66.a x66.n x66.c] ∧
 R (.tuple ⟨[.agg ⟨[.int .i64 x61, .int .i64 x62, .int .i64 x63, .slice x64.a x64.n x64.c, .slice x65.a x65.n x65.c, .slice x66.a x66.n x66.c]⟩, .int .i64 x56]⟩) h60)))
 ((∃ x67 : Sl, hc h59 ⟨h57.size, 2, none⟩ = some (.slice x67.a x67.n x67.c) ∧
 (sB (decide ((x67.n : Int) > 400))
 ((okAt h59 ⟨h9.size, 0, none⟩ 6 ∧ ∀ h68 : Heap, h68 = hputs h59 ⟨h9.size, 0, none⟩ 0 [.int .i64 0, .int .i64 0, .int .i64 0, .slice none 0 0, .slice none 0 0, .slice none 0 0] →
 (∃ (x69 x70 x71 : Int) (x72 x73 x74 : Sl), atC h68 ⟨h9.size, 0, none⟩ [.int .i64 x69, .int .i64 x70, .int .i64 x71, .slice x72.a x72.n x72.c, .slice x73.a x73.n x73.c, .slice x74.a x74.n x74.c] ∧
 R (.tuple ⟨[.agg ⟨[.int .i64 x69, .int .i64 x70, .int .i64 x71, .slice x72.a x72.n x72.c, .slice x73.a x73.n x73.c, .slice x74.a x74.n x74.c]⟩, .int .i64 6]⟩) h68)))
 ((∃ (x75 : ByteArray) (x76 x77 : Sl) (x78 x79 x80 : Int) (x81 x82 : Sl), atC h59 ⟨h.size, 0, none⟩ [.string x75, .slice x76.a x76.n x76.c, .slice x77.a x77.n x77.c, .int .i64 x78, .int .i64 x79, .int .i64 x80, .slice x81.a x81.n x81.c, .slice x82.a x82.n x82.c] ∧
 (Fn Tryz.prog 71 #[.agg ⟨[.string x75, .slice x76.a x76.n x76.c, .slice x77.a x77.n x77.c, .int .i64 x78, .int .i64 x79, .int .i64 x80, .slice x81.a x81.n x81.c, .slice x82.a x82.n x82.c]⟩, .int .i64 p1] h59
 (fun v83 h85 => ∃ x84 : Option Addr, v83 = .pointer x84 ∧
 (∃ x86 : Sl, hc h85 ⟨h57.size, 0, none⟩ = some (.slice x86.a x86.n x86.c) ∧
 (∃ x87 : Sl, hc h85 ⟨h57.size, 1, none⟩ = some (.slice x87.a x87.n x87.c) ∧
 (∃ x88 : Sl, hc h85 ⟨h57.size, 2, none⟩ = some (.slice x88.a x88.n x88.c) ∧
 (∀ h89 : Heap, h89 = h85.push (.cells ⟨[.int .i64 0, .int .i64 0, .int .i64 0, .slice none 0 0, .slice none 0 0, .slice none 0 0]⟩ 26) →
 (okAt h89 ⟨h85.size, 0, none⟩ 6 ∧ ∀ h90 : Heap, h90 = hputs h89 ⟨h85.size, 0, none⟩ 0 [.int .i64 p1, .int .i64 (x86.n : Int), .int .i64 0, .slice x87.a x87.n x87.c, .slice x88.a x88.n x88.c, .slice none 0 0] →
 (∃ x91 : Sl, hc h90 ⟨h57.size, 0, none⟩ = some (.slice x91.a x91.n x91.c) ∧
 (∃ I92 : Int → Heap → Nat → Prop, (∃ m93, I92 0 h90 m93) ∧
 (∀ (_ : Env) (x_95 : Int) (h96 : Heap) (m94 : Nat), I92 x_95 h96 m94 →
 (sB (decide (x_95 < (x91.n : Int)))
 ((NB x91.a fun b97 o98 => ((0 ≤ (x_95 : Int) ∧ (x_95 : Int) < (x91.n : Nat)) ∧
 (∃ x99 : Sl, hc h96 ⟨b97, o98 + Int.toNat x_95 * 1, none⟩ = some (.slice x99.a x99.n x99.c) ∧
 (Fn Tryz.prog 73 #[.slice x99.a x99.n x99.c] h96
 (fun v100 h102 => ∃ x101 : Sl, v100 = .slice x101.a x101.n x101.c ∧
 (Fn Tryz.prog 72 #[.pointer x84, .slice x101.a x101.n x101.c] h102
 (fun v103 h110 => ∃ (x104 : Bool) (x105 : Int) (x106 : Bool) (x107 x108 : Int) (x109 : Bool), v103 = .tuple ⟨[.agg ⟨[.bool x104, .int .i64 x105, .bool x106, .int .i64 x107, .int .i64 x108]⟩, .bool x109]⟩ ∧
 (∀ h111 : Heap, h111 = h110.push (.cells ⟨[.bool false, .int .i64 0, .bool false, .int .i64 0, .int .i64 0]⟩ 119) →
 (okAt h111 ⟨h110.size, 0, none⟩ 5 ∧ ∀ h112 : Heap, h112 = hputs h111 ⟨h110.size, 0, none⟩ 0 [.bool x104, .int .i64 x105, .bool x106, .int .i64 x107, .int .i64 x108] →
 (sB (!x109)
 ((okAt h112 ⟨h9.size, 0, none⟩ 6 ∧ ∀ h113 : Heap, h113 = hputs h112 ⟨h9.size, 0, none⟩ 0 [.int .i64 0, .int .i64 0, .int .i64 0, .slice none 0 0, .slice none 0 0, .slice none 0 0] →
 (∃ (x114 x115 x116 : Int) (x117 x118 x119 : Sl), atC h113 ⟨h9.size, 0, none⟩ [.int .i64 x114, .int .i64 x115, .int .i64 x116, .slice x117.a x117.n x117.c, .slice x118.a x118.n x118.c, .slice x119.a x119.n x119.c] ∧
 R (.tuple ⟨[.agg ⟨[.int .i64 x114, .int .i64 x115, .int .i64 x116, .slice x117.a x117.n x117.c, .slice x118.a x118.n x118.c, .slice x119.a x119.n x119.c]⟩, .int .i64 18]⟩) h113)))
 ((∃ x120 : Sl, hc h112 ⟨h85.size, 4, none⟩ = some (.slice x120.a x120.n x120.c) ∧
 (∃ I121 : Int → Heap → Nat → Prop, (∃ m122, I121 0 h112 m122) ∧
 (∀ (_ : Env) (x_124 : Int) (h125 : Heap) (m123 : Nat), I121 x_124 h125 m123 →
 (sB (decide (x_124 < (x120.n : Int)))
 ((∃ x126 : Sl, hc h125 ⟨h85.size, 4, none⟩ = some (.slice x126.a x126.n x126.c) ∧
 (NB x126.a fun b127 o128 => ((0 ≤ (x_124 : Int) ∧ (x_124 : Int) < (x126.n : Nat)) ∧
 (∃ x129 : Int, hc h125 ⟨b127, o128 + Int.toNat x_124 * 6, none⟩ = some (.int .i64 x129) ∧
 (sB (x129 != x_95)
 ((∃ m130, m130 < m123 ∧ I121 (IntKind.wrap .i64 (x_124 + 1)) h125 m130))
 ((∃ x131 : Bool, hc h125 ⟨b127, o128 + Int.toNat x_124 * 6 + 1, none⟩ = some (.bool x131) ∧
 (sB (!x131)
 ((∃ m132, m132 < m123 ∧ I121 (IntKind.wrap .i64 (x_124 + 1)) h125 m132))
 ((∃ x133 : Bool, hc h125 ⟨h110.size, 0, none⟩ = some (.bool x133) ∧
 (okAt h125 ⟨b127, o128 + Int.toNat x_124 * 6 + 5, none⟩ 1 ∧ ∀ h134 : Heap, h134 = hputs h125 ⟨b127, o128 + Int.toNat x_124 * 6 + 5, none⟩ 0 [.bool x133] →
 (∃ x135 : Int, hc h134 ⟨h110.size, 1, none⟩ = some (.int .i64 x135) ∧
 (sB (decide (x135 > 0))
 ((∃ (x136 : Bool) (x137 x138 : Int), atC h134 ⟨h110.size, 2, none⟩ [.bool x136, .int .i64 x137, .int .i64 x138] ∧
 (∃ x139 : Int, hc h134 ⟨b127, o128 + Int.toNat x_124 * 6 + 2, none⟩ = some (.int .i64 x139) ∧
 (∃ x140 : Int, hc h134 ⟨b127, o128 + Int.toNat x_124 * 6 + 3, none⟩ = some (.int .i64 x140) ∧
 (sB ((x136 == true) && ((x137 == x139) && ((x138 == x140) && true)))
 ((∃ x141 : Sl, hc h134 ⟨h85.size, 5, none⟩ = some (.slice x141.a x141.n x141.c) ∧
 (∃ x142 : Int, hc h134 ⟨h110.size, 1, none⟩ = some (.int .i64 x142) ∧
 (∀ h143 : Heap, h143 = h134.push (.cells ⟨[.int .i64 x_95, .int .i64 x142, .int .i64 x_124]⟩ 44) →
 (App Tryz.prog 24 24 (.slice x141.a x141.n x141.c) (.slice (some ⟨h134.size, 0, none⟩) 1 1) h143 fun s144 h145 =>
 (okAt h145 ⟨h85.size, 5, none⟩ 1 ∧ ∀ h146 : Heap, h146 = hputs h145 ⟨h85.size, 5, none⟩ 0 [.slice s144.a s144.n s144.c] →
 (∃ m147, m147 < m123 ∧ I121 (IntKind.wrap .i64 (x_124 + 1)) h146 m147)))))))
 ((∃ m148, m148 < m123 ∧ I121 (IntKind.wrap .i64 (x_124 + 1)) h134 m148)))))))
 ((∃ m149, m149 < m123 ∧ I121 (IntKind.wrap .i64 (x_124 + 1)) h134 m149))))))))))))))))
 ((∃ m150, m150 < m94 ∧ I92 (IntKind.wrap .i64 (x_95 + 1)) h125 m150))))))))))))))))))
 ((∃ (x151 x152 x153 : Int) (x154 x155 x156 : Sl), atC h96 ⟨h85.size, 0, none⟩ [.int .i64 x151, .int .i64 x152, .int .i64 x153, .slice x154.a x154.n x154.c, .slice x155.a x155.n x155.c, .slice x156.a x156.n x156.c] ∧
 (okAt h96 ⟨h9.size, 0, none⟩ 6 ∧ ∀ h157 : Heap, h157 = hputs h96 ⟨h9.size, 0, none⟩ 0 [.int .i64 x151, .int .i64 x152, .int .i64 x153, .slice x154.a x154.n x154.c, .slice x155.a x155.n x155.c, .slice x156.a x156.n x156.c] →
 (∃ (x158 x159 x160 : Int) (x161 x162 x163 : Sl), atC h157 ⟨h9.size, 0, none⟩ [.int .i64 x158, .int .i64 x159, .int .i64 x160, .slice x161.a x161.n x161.c, .slice x162.a x162.n x162.c, .slice x163.a x163.n x163.c] ∧
 R (.tuple ⟨[.agg ⟨[.int .i64 x158, .int .i64 x159, .int .i64 x160, .slice x161.a x161.n x161.c, .slice x162.a x162.n x162.c, .slice x163.a x163.n x163.c]⟩, .int .i64 0]⟩) h157))))))))))))))))))))))))))))))))))))))
theorem vc36 (p0_1 : ByteArray) (p0_2 p0_3 : Sl) (p0_4 p0_5 p0_6 : Int) (p0_7 p0_8 : Sl) (p1 : Int) (h : Heap) (R : Value → Heap → Prop) (H : W36 p0_1 p0_2 p0_3 p0_4 p0_5 p0_6 p0_7 p0_8 p1 h R) : Fn Tryz.prog 36 #[.agg ⟨[.string p0_1, .slice p0_2.a p0_2.n p0_2.c, .slice p0_3.a p0_3.n p0_3.c, .int .i64 p0_4, .int .i64 p0_5, .int .i64 p0_6, .slice p0_7.a p0_7.n p0_7.c, .slice p0_8.a p0_8.n p0_8.c]⟩, .int .i64 p1] h R := fnI (A := (.s .z (.s .z (.s .z (.s .z (.s .z (.s .z (.s .z (.s (.s .z (.b (.l [(61, .one (.int .i64))] (.s .z (.s .z (.s (.b (.s .z (.s .z (.s .z (.s .z (.b (.l [(79, .one (.int .i64))] .z))))))) .z)))))) .z))))))))) (by kernel_rfl) H

def W115 (p0_1 : Int) (p0_2 : Bool) (p0_3 p0_4 p0_5 : Int) (p0_6 : Bool) (p1_7 : Int) (p1_8 : Bool) (p1_9 p1_10 p1_11 : Int) (p1_12 : Bool) (h : Heap) (R : Value → Heap → Prop) : Prop :=
 (∀ h13 : Heap, h13 = h.push (.cells ⟨[.int .i64 p0_1, .bool p0_2, .int .i64 p0_3, .int .i64 p0_4, .int .i64 p0_5, .bool p0_6]⟩ 81) →
 (∀ h14 : Heap, h14 = h13.push (.cells ⟨[.int .i64 p1_7, .bool p1_8, .int .i64 p1_9, .int .i64 p1_10, .int .i64 p1_11, .bool p1_12]⟩ 81) →
 (∃ x15 : Int, hc h14 ⟨h.size, 0, none⟩ = some (.int .i64 x15) ∧
 (∃ x16 : Int, hc h14 ⟨h13.size, 0, none⟩ = some (.int .i64 x16) ∧
 (∃ (x17 : Int) (x18 : Bool) (x19 x20 x21 : Int) (x22 : Bool), atC h14 ⟨h.size, 0, none⟩ [.int .i64 x17, .bool x18, .int .i64 x19, .int .i64 x20, .int .i64 x21, .bool x22] ∧
 (∃ (x23 : Int) (x24 : Bool) (x25 x26 x27 : Int) (x28 : Bool), atC h14 ⟨h13.size, 0, none⟩ [.int .i64 x23, .bool x24, .int .i64 x25, .int .i64 x26, .int .i64 x27, .bool x28] ∧
 (∃ x29 : Int, hc h14 ⟨h.size, 2, none⟩ = some (.int .i64 x29) ∧
 (∃ x30 : Int, hc h14 ⟨h13.size, 2, none⟩ = some (.int .i64 x30) ∧
 (∃ x31 : Int, hc h14 ⟨h.size, 3, none⟩ = some (.int .i64 x31) ∧
 (∃ x32 : Int, hc h14 ⟨h13.size, 3, none⟩ = some (.int .i64 x32) ∧
 (Fn Tryz.prog 155 #[.int .i64 x15, .int .i64 x16] h14
 (fun v33 h35 => ∃ x34 : Int, v33 = .int .i64 x34 ∧
 (Sm [⟨h13.size, 3, none⟩, ⟨h.size, 3, none⟩, ⟨h13.size, 2, none⟩, ⟨h.size, 2, none⟩, ⟨h13.size, 0, none⟩, ⟨h.size, 0, none⟩] h14 h35 ∧
 (Fn Tryz.prog 166 #[.agg ⟨[.int .i64 x17, .bool x18, .int .i64 x19, .int .i64 x20, .int .i64 x21, .bool x22]⟩] h35
 (fun v36 h38 => ∃ x37 : Int, v36 = .int .i64 x37 ∧
 (Sm [⟨h13.size, 3, none⟩, ⟨h.size, 3, none⟩, ⟨h13.size, 2, none⟩, ⟨h.size, 2, none⟩, ⟨h13.size, 0, none⟩, ⟨h13.size, 0, none⟩, ⟨h.size, 0, none⟩] h35 h38 ∧
 (Fn Tryz.prog 166 #[.agg ⟨[.int .i64 x23, .bool x24, .int .i64 x25, .int .i64 x26, .int .i64 x27, .bool x28]⟩] h38
 (fun v39 h41 => ∃ x40 : Int, v39 = .int .i64 x40 ∧
 (Sm [⟨h13.size, 3, none⟩, ⟨h.size, 3, none⟩, ⟨h13.size, 2, none⟩, ⟨h.size, 2, none⟩, ⟨h.size, 0, none⟩, ⟨h13.size, 0, none⟩, ⟨h.size, 0, none⟩] h38 h41 ∧
 (Fn Tryz.prog 155 #[.int .i64 x37, .int .i64 x40] h41
 (fun v42 h44 => ∃ x43 : Int, v42 = .int .i64 x43 ∧
 (Sm [⟨h13.size, 3, none⟩, ⟨h.size, 3, none⟩, ⟨h13.size, 2, none⟩, ⟨h.size, 2, none⟩, ⟨h13.size, 0, none⟩, ⟨h.size, 0, none⟩] h41 h44 ∧
 (Fn Tryz.prog 155 #[.int .i64 x29, .int .i64 x30] h44
 (fun v45 h47 => ∃ x46 : Int, v45 = .int .i64 x46 ∧
 (Sm [⟨h13.size, 3, none⟩, ⟨h.size, 3, none⟩, ⟨h13.size, 0, none⟩, ⟨h.size, 0, none⟩, ⟨h13.size, 0, none⟩, ⟨h.size, 0, none⟩] h44 h47 ∧
 (Fn Tryz.prog 155 #[.int .i64 x31, .int .i64 x32] h47
 (fun v48 h50 => ∃ x49 : Int, v48 = .int .i64 x49 ∧
 (Sm [⟨h13.size, 2, none⟩, ⟨h.size, 2, none⟩, ⟨h13.size, 0, none⟩, ⟨h.size, 0, none⟩, ⟨h13.size, 0, none⟩, ⟨h.size, 0, none⟩] h47 h50 ∧
 (∀ h51 : Heap, h51 = h50.push (.cells ⟨[.int .i64 x34, .int .i64 x43, .int .i64 x46, .int .i64 x49]⟩ 3) →
 (Fn Tryz.prog 154 #[.slice (some ⟨h50.size, 0, none⟩) 4 4] h51
 (fun v52 h54 => ∃ x53 : Int, v52 = .int .i64 x53 ∧
 R (.int .i64 x53) h54)))))))))))))))))))))))))))))))
theorem vc115 (p0_1 : Int) (p0_2 : Bool) (p0_3 p0_4 p0_5 : Int) (p0_6 : Bool) (p1_7 : Int) (p1_8 : Bool) (p1_9 p1_10 p1_11 : Int) (p1_12 : Bool) (h : Heap) (R : Value → Heap → Prop) (H : W115 p0_1 p0_2 p0_3 p0_4 p0_5 p0_6 p1_7 p1_8 p1_9 p1_10 p1_11 p1_12 h R) : Fn Tryz.prog 115 #[.agg ⟨[.int .i64 p0_1, .bool p0_2, .int .i64 p0_3, .int .i64 p0_4, .int .i64 p0_5, .bool p0_6]⟩, .agg ⟨[.int .i64 p1_7, .bool p1_8, .int .i64 p1_9, .int .i64 p1_10, .int .i64 p1_11, .bool p1_12]⟩] h R := fnI (A := .z) (by kernel_rfl) H

def W166 (p0_1 : Int) (p0_2 : Bool) (p0_3 p0_4 p0_5 : Int) (p0_6 : Bool) (h : Heap) (R : Value → Heap → Prop) : Prop :=
 (∀ h7 : Heap, h7 = h.push (.cells ⟨[.int .i64 p0_1, .bool p0_2, .int .i64 p0_3, .int .i64 p0_4, .int .i64 p0_5, .bool p0_6]⟩ 81) →
 (∃ x8 : Bool, hc h7 ⟨h.size, 1, none⟩ = some (.bool x8) ∧
 (sB x8
 (R (.int .i64 0) h7)
 (R (.int .i64 1) h7))))
theorem vc166 (p0_1 : Int) (p0_2 : Bool) (p0_3 p0_4 p0_5 : Int) (p0_6 : Bool) (h : Heap) (R : Value → Heap → Prop) (H : W166 p0_1 p0_2 p0_3 p0_4 p0_5 p0_6 h R) : Fn Tryz.prog 166 #[.agg ⟨[.int .i64 p0_1, .bool p0_2, .int .i64 p0_3, .int .i64 p0_4, .int .i64 p0_5, .bool p0_6]⟩] h R := fnI (A := .z) (by kernel_rfl) H

def W162 (p0 : Sl) (h : Heap) (R : Value → Heap → Prop) : Prop :=
 (sB (Option.isNone p0.a)
 (R (.slice none 0 0) h)
 ((∀ h1 : Heap, h1 = h.push (.cells ⟨[]⟩ 81) →
 (App Tryz.prog 23 23 (.slice (some ⟨h.size, 0, none⟩) 0 0) (.slice p0.a p0.n p0.c) h1 fun s2 h3 =>
 R (.slice s2.a s2.n s2.c) h3))))
theorem vc162 (p0 : Sl) (h : Heap) (R : Value → Heap → Prop) (H : W162 p0 h R) : Fn Tryz.prog 162 #[.slice p0.a p0.n p0.c] h R := fnI (A := .z) (by kernel_rfl) H

def W163 (p0_1 p0_2 : Int) (p0_3 : Bool) (p0_4 p0_5 : Int) (p0_6 : Bool) (p0_7 : Int) (c0 : Addr) (c1 : Addr) (h : Heap) (R : Value → Heap → Prop) : Prop :=
 (∀ h8 : Heap, h8 = h.push (.cells ⟨[.int .i64 p0_1, .int .i64 p0_2, .bool p0_3, .int .i64 p0_4, .int .i64 p0_5, .bool p0_6, .int .i64 p0_7]⟩ 217) →
 (∃ x9 : Option Nat, hc h8 c0 = some (.map x9) ∧
 (∃ (x10 x11 : Int) (x12 : Bool) (x13 x14 : Int) (x15 : Bool) (x16 : Int), atC h8 ⟨h.size, 0, none⟩ [.int .i64 x10, .int .i64 x11, .bool x12, .int .i64 x13, .int .i64 x14, .bool x15, .int .i64 x16] ∧
 (RunW Tryz.prog (Instr.lookup 215 (.map x9) (.agg ⟨[.int .i64 x10, .int .i64 x11, .bool x12, .int .i64 x13, .int .i64 x14, .bool x15, .int .i64 x16]⟩) true) h8
 (fun v17 h20 => ∃ (x18 : Int) (x19 : Bool), v17 = .tuple ⟨[.int .i64 x18, .bool x19]⟩ ∧
 (sB (!x19)
 ((∃ x21 : Option Nat, hc h20 c0 = some (.map x21) ∧
 (RunW Tryz.prog (Builtin.len_ #[215] 3 #[.map x21]) h20
 (fun v22 h24 => ∃ x23 : Int, v22 = .int .i64 x23 ∧
 (∃ x25 : Int, hc h24 ⟨c1.block, c1.off + 1, none⟩ = some (.int .i64 x25) ∧
 (∃ x26 : Option Nat, hc h24 c0 = some (.map x26) ∧
 (∃ (x27 x28 : Int) (x29 : Bool) (x30 x31 : Int) (x32 : Bool) (x33 : Int), atC h24 ⟨h.size, 0, none⟩ [.int .i64 x27, .int .i64 x28, .bool x29, .int .i64 x30, .int .i64 x31, .bool x32, .int .i64 x33] ∧
 (RunW Tryz.prog (Instr.mapUpdate 215 (.map x26) (.agg ⟨[.int .i64 x27, .int .i64 x28, .bool x29, .int .i64 x30, .int .i64 x31, .bool x32, .int .i64 x33]⟩) (.int .i64 (IntKind.wrap .i64 ((IntKind.wrap .i64 (x23 + x25)) + 2)))) h24 (fun _ h34 =>
 R (.int .i64 (IntKind.wrap .i64 ((IntKind.wrap .i64 (x23 + x25)) + 2))) h34)))))))))
 (R (.int .i64 x18) h20)))))))
theorem vc163 (p0_1 p0_2 : Int) (p0_3 : Bool) (p0_4 p0_5 : Int) (p0_6 : Bool) (p0_7 : Int) (c0 : Addr) (c1 : Addr) (h : Heap) (R : Value → Heap → Prop) (H : W163 p0_1 p0_2 p0_3 p0_4 p0_5 p0_6 p0_7 c0 c1 h R) : Fn Tryz.prog 163 #[.agg ⟨[.int .i64 p0_1, .int .i64 p0_2, .bool p0_3, .int .i64 p0_4, .int .i64 p0_5, .bool p0_6, .int .i64 p0_7]⟩, .pointer (some c0), .pointer (some c1)] h R := fnI (A := .z) (by kernel_rfl) H

/- farandole/project.classes
 loop rrrrrbobrrrrrrrlrb: x_115:Int
 loop rrrrrbobrrrrrlrb: x_83:Int
 loop rrrrrbobrrrrlrb: x_47:Int
 loop rrrrrbobrrrlrb: x_31:Int
 loop rrrrrb: count_19:Int -/
def W113 (p0_1 p0_2 p0_3 : Int) (p0_4 p0_5 p0_6 : Sl) (h : Heap) (R : Value → Heap → Prop) : Prop :=
 (∀ h7 : Heap, h7 = h.push (.cells ⟨[.int .i64 p0_1, .int .i64 p0_2, .int .i64 p0_3, .slice p0_4.a p0_4.n p0_4.c, .slice p0_5.a p0_5.n p0_5.c, .slice p0_6.a p0_6.n p0_6.c]⟩ 26) →
 (∃ x8 : Sl, hc h7 ⟨h.size, 4, none⟩ = some (.slice x8.a x8.n x8.c) ∧
 (Fn Tryz.prog 162 #[.slice x8.a x8.n x8.c] h7
 (fun v9 h11 => ∃ x10 : Sl, v9 = .slice x10.a x10.n x10.c ∧
 (Fn Tryz.prog 114 #[.slice x10.a x10.n x10.c, .func (.func 115) #[] #[]] h11
 (fun v12 h13 => v12 = .tuple ⟨[]⟩ ∧
 (∃ x14 : Int, hc h13 ⟨h.size, 1, none⟩ = some (.int .i64 x14) ∧
 (((0 : Int) ≤ x14 ∧ (x14 : Int) ≤ x14 ∧ ((8 : Nat) : Int) * x14 ≤ 140737488355328) ∧ ∀ h15 : Heap, h15 = h13.push (.cells ⟨madeL Tryz.prog 3 (Int.toNat x14)⟩ 3) →
 (∃ I16 : Int → Heap → Nat → Prop, (∃ m17, I16 0 h15 m17) ∧
 (∀ (_ : Env) (count_19 : Int) (h20 : Heap) (m18 : Nat), I16 count_19 h20 m18 →
 (RunW Tryz.prog (Instr.makeMap 215 (none)) h20
 (fun v21 h23 => ∃ x22 : Option Nat, v21 = .map x22 ∧
 (∀ h24 : Heap, h24 = h23.push (.cells ⟨[.map none]⟩ 215) →
 (okAt h24 ⟨h23.size, 0, none⟩ 1 ∧ ∀ h25 : Heap, h25 = hputs h24 ⟨h23.size, 0, none⟩ 0 [.map x22] →
 (∃ x26 : Int, hc h25 ⟨h.size, 1, none⟩ = some (.int .i64 x26) ∧
 (((0 : Int) ≤ x26 ∧ (x26 : Int) ≤ x26 ∧ ((8 : Nat) : Int) * x26 ≤ 140737488355328) ∧ ∀ h27 : Heap, h27 = h25.push (.cells ⟨madeL Tryz.prog 3 (Int.toNat x26)⟩ 3) →
 (∃ I28 : Int → Heap → Nat → Prop, (∃ m29, I28 0 h27 m29) ∧
 (∀ (_ : Env) (x_31 : Int) (h32 : Heap) (m30 : Nat), I28 x_31 h32 m30 →
 (sB (decide (x_31 < ((Int.toNat x26) : Int)))
 (((0 ≤ (x_31 : Int) ∧ (x_31 : Int) < ((Int.toNat x14) : Nat)) ∧
 (∃ x33 : Int, hc h32 ⟨h13.size, 0 + Int.toNat x_31 * 1, none⟩ = some (.int .i64 x33) ∧
 (∃ x34 : Sl, hc h32 ⟨h.size, 3, none⟩ = some (.slice x34.a x34.n x34.c) ∧
 (NB x34.a fun b35 o36 => ((0 ≤ (x_31 : Int) ∧ (x_31 : Int) < (x34.n : Nat)) ∧
 (∃ x37 : Bool, hc h32 ⟨b35, o36 + Int.toNat x_31 * 1, none⟩ = some (.bool x37) ∧
 (Fn Tryz.prog 163 #[.agg ⟨[.int .i64 x33, .int .i64 0, .bool false, .int .i64 0, .int .i64 0, .bool x37, .int .i64 0]⟩, .pointer (some ⟨h23.size, 0, none⟩), .pointer (some ⟨h.size, 0, none⟩)] h32
 (fun v38 h40 => ∃ x39 : Int, v38 = .int .i64 x39 ∧
 ((0 ≤ (x_31 : Int) ∧ (x_31 : Int) < ((Int.toNat x26) : Nat)) ∧
 (okAt h40 ⟨h25.size, 0 + Int.toNat x_31 * 1, none⟩ 1 ∧ ∀ h41 : Heap, h41 = hputs h40 ⟨h25.size, 0 + Int.toNat x_31 * 1, none⟩ 0 [.int .i64 x39] →
 (∃ m42, m42 < m30 ∧ I28 (IntKind.wrap .i64 (x_31 + 1)) h41 m42))))))))))))
 ((∃ x43 : Sl, hc h32 ⟨h.size, 5, none⟩ = some (.slice x43.a x43.n x43.c) ∧
 (∃ I44 : Int → Heap → Nat → Prop, (∃ m45, I44 0 h32 m45) ∧
 (∀ (_ : Env) (x_47 : Int) (h48 : Heap) (m46 : Nat), I44 x_47 h48 m46 →
 (sB (decide (x_47 < (x43.n : Int)))
 ((NB x43.a fun b49 o50 => ((0 ≤ (x_47 : Int) ∧ (x_47 : Int) < (x43.n : Nat)) ∧
 (∃ (x51 x52 x53 : Int), atC h48 ⟨b49, o50 + Int.toNat x_47 * 3, none⟩ [.int .i64 x51, .int .i64 x52, .int .i64 x53] ∧
 (∀ h54 : Heap, h54 = h48.push (.cells ⟨[.int .i64 0, .int .i64 0, .int .i64 0]⟩ 44) →
 (okAt h54 ⟨h48.size, 0, none⟩ 3 ∧ ∀ h55 : Heap, h55 = hputs h54 ⟨h48.size, 0, none⟩ 0 [.int .i64 x51, .int .i64 x52, .int .i64 x53] →
 (∃ x56 : Sl, hc h55 ⟨h.size, 4, none⟩ = some (.slice x56.a x56.n x56.c) ∧
 (∃ x57 : Int, hc h55 ⟨h48.size, 2, none⟩ = some (.int .i64 x57) ∧
 (NB x56.a fun b58 o59 => ((0 ≤ (x57 : Int) ∧ (x57 : Int) < (x56.n : Nat)) ∧
 (∃ (x60 : Int) (x61 : Bool) (x62 x63 x64 : Int) (x65 : Bool), atC h55 ⟨b58, o59 + Int.toNat x57 * 6, none⟩ [.int .i64 x60, .bool x61, .int .i64 x62, .int .i64 x63, .int .i64 x64, .bool x65] ∧
 (∀ h66 : Heap, h66 = h55.push (.cells ⟨[.int .i64 0, .bool false, .int .i64 0, .int .i64 0, .int .i64 0, .bool false]⟩ 81) →
 (okAt h66 ⟨h55.size, 0, none⟩ 6 ∧ ∀ h67 : Heap, h67 = hputs h66 ⟨h55.size, 0, none⟩ 0 [.int .i64 x60, .bool x61, .int .i64 x62, .int .i64 x63, .int .i64 x64, .bool x65] →
 (∃ x68 : Int, hc h67 ⟨h48.size, 0, none⟩ = some (.int .i64 x68) ∧
 (∃ x69 : Int, hc h67 ⟨h48.size, 0, none⟩ = some (.int .i64 x69) ∧
 ((0 ≤ (x69 : Int) ∧ (x69 : Int) < ((Int.toNat x26) : Nat)) ∧
 (∃ x70 : Int, hc h67 ⟨h25.size, 0 + Int.toNat x69 * 1, none⟩ = some (.int .i64 x70) ∧
 (∃ x71 : Bool, hc h67 ⟨h55.size, 1, none⟩ = some (.bool x71) ∧
 (∃ x72 : Int, hc h67 ⟨h55.size, 2, none⟩ = some (.int .i64 x72) ∧
 (∃ x73 : Int, hc h67 ⟨h55.size, 3, none⟩ = some (.int .i64 x73) ∧
 (∃ x74 : Int, hc h67 ⟨h48.size, 1, none⟩ = some (.int .i64 x74) ∧
 (Fn Tryz.prog 163 #[.agg ⟨[.int .i64 x70, .int .i64 1, .bool x71, .int .i64 x72, .int .i64 x73, .bool false, .int .i64 x74]⟩, .pointer (some ⟨h23.size, 0, none⟩), .pointer (some ⟨h.size, 0, none⟩)] h67
 (fun v75 h77 => ∃ x76 : Int, v75 = .int .i64 x76 ∧
 (Sm [⟨h48.size, 0, none⟩] h67 h77 ∧
 ((0 ≤ (x68 : Int) ∧ (x68 : Int) < ((Int.toNat x26) : Nat)) ∧
 (okAt h77 ⟨h25.size, 0 + Int.toNat x68 * 1, none⟩ 1 ∧ ∀ h78 : Heap, h78 = hputs h77 ⟨h25.size, 0 + Int.toNat x68 * 1, none⟩ 0 [.int .i64 x76] →
 (∃ m79, m79 < m46 ∧ I44 (IntKind.wrap .i64 (x_47 + 1)) h78 m79)))))))))))))))))))))))))))
 ((∃ I80 : Int → Heap → Nat → Prop, (∃ m81, I80 0 h48 m81) ∧
 (∀ (_ : Env) (x_83 : Int) (h84 : Heap) (m82 : Nat), I80 x_83 h84 m82 →
 (sB (decide (x_83 < (x10.n : Int)))
 ((NB x10.a fun b85 o86 => ((0 ≤ (x_83 : Int) ∧ (x_83 : Int) < (x10.n : Nat)) ∧
 (∃ (x87 : Int) (x88 : Bool) (x89 x90 x91 : Int) (x92 : Bool), atC h84 ⟨b85, o86 + Int.toNat x_83 * 6, none⟩ [.int .i64 x87, .bool x88, .int .i64 x89, .int .i64 x90, .int .i64 x91, .bool x92] ∧
 (∀ h93 : Heap, h93 = h84.push (.cells ⟨[.int .i64 0, .bool false, .int .i64 0, .int .i64 0, .int .i64 0, .bool false]⟩ 81) →
 (okAt h93 ⟨h84.size, 0, none⟩ 6 ∧ ∀ h94 : Heap, h94 = hputs h93 ⟨h84.size, 0, none⟩ 0 [.int .i64 x87, .bool x88, .int .i64 x89, .int .i64 x90, .int .i64 x91, .bool x92] →
 (∃ x95 : Int, hc h94 ⟨h84.size, 0, none⟩ = some (.int .i64 x95) ∧
 (∃ x96 : Int, hc h94 ⟨h84.size, 0, none⟩ = some (.int .i64 x96) ∧
 ((0 ≤ (x96 : Int) ∧ (x96 : Int) < ((Int.toNat x26) : Nat)) ∧
 (∃ x97 : Int, hc h94 ⟨h25.size, 0 + Int.toNat x96 * 1, none⟩ = some (.int .i64 x97) ∧
 (∃ x98 : Bool, hc h94 ⟨h84.size, 1, none⟩ = some (.bool x98) ∧
 (∃ x99 : Int, hc h94 ⟨h84.size, 2, none⟩ = some (.int .i64 x99) ∧
 (∃ x100 : Int, hc h94 ⟨h84.size, 3, none⟩ = some (.int .i64 x100) ∧
 (∃ x101 : Bool, hc h94 ⟨h84.size, 5, none⟩ = some (.bool x101) ∧
 (∃ x102 : Int, hc h94 ⟨h84.size, 4, none⟩ = some (.int .i64 x102) ∧
 ((0 ≤ (x102 : Int) ∧ (x102 : Int) < ((Int.toNat x14) : Nat)) ∧
 (∃ x103 : Int, hc h94 ⟨h13.size, 0 + Int.toNat x102 * 1, none⟩ = some (.int .i64 x103) ∧
 (Fn Tryz.prog 163 #[.agg ⟨[.int .i64 x97, .int .i64 2, .bool x98, .int .i64 x99, .int .i64 x100, .bool x101, .int .i64 x103]⟩, .pointer (some ⟨h23.size, 0, none⟩), .pointer (some ⟨h.size, 0, none⟩)] h94
 (fun v104 h106 => ∃ x105 : Int, v104 = .int .i64 x105 ∧
 (Sm [⟨h84.size, 0, none⟩] h94 h106 ∧
 ((0 ≤ (x95 : Int) ∧ (x95 : Int) < ((Int.toNat x26) : Nat)) ∧
 (okAt h106 ⟨h25.size, 0 + Int.toNat x95 * 1, none⟩ 1 ∧ ∀ h107 : Heap, h107 = hputs h106 ⟨h25.size, 0 + Int.toNat x95 * 1, none⟩ 0 [.int .i64 x105] →
 (∃ m108, m108 < m82 ∧ I80 (IntKind.wrap .i64 (x_83 + 1)) h107 m108)))))))))))))))))))))))
 ((RunW Tryz.prog (Instr.makeMap 195 (none)) h84
 (fun v109 h111 => ∃ x110 : Option Nat, v109 = .map x110 ∧
 (∃ I112 : Int → Heap → Nat → Prop, (∃ m113, I112 0 h111 m113) ∧
 (∀ (_ : Env) (x_115 : Int) (h116 : Heap) (m114 : Nat), I112 x_115 h116 m114 →
 (sB (decide (x_115 < ((Int.toNat x26) : Int)))
 (((0 ≤ (x_115 : Int) ∧ (x_115 : Int) < ((Int.toNat x26) : Nat)) ∧
 (∃ x117 : Int, hc h116 ⟨h25.size, 0 + Int.toNat x_115 * 1, none⟩ = some (.int .i64 x117) ∧
 (RunW Tryz.prog (Instr.lookup 195 (.map x110) (.int .i64 x117) true) h116
 (fun v118 h121 => ∃ (x119 : Int) (x120 : Bool), v118 = .tuple ⟨[.int .i64 x119, .bool x120]⟩ ∧
 (sB (!x120)
 ((RunW Tryz.prog (Builtin.len_ #[195] 3 #[.map x110]) h121
 (fun v122 h124 => ∃ x123 : Int, v122 = .int .i64 x123 ∧
 (RunW Tryz.prog (Instr.mapUpdate 195 (.map x110) (.int .i64 x117) (.int .i64 x123)) h124 (fun _ h125 =>
 (RunW Tryz.prog (Instr.lookup 195 (.map x110) (.int .i64 x117) false) h125
 (fun v126 h128 => ∃ x127 : Int, v126 = .int .i64 x127 ∧
 ((0 ≤ (x_115 : Int) ∧ (x_115 : Int) < ((Int.toNat x14) : Nat)) ∧
 (okAt h128 ⟨h13.size, 0 + Int.toNat x_115 * 1, none⟩ 1 ∧ ∀ h129 : Heap, h129 = hputs h128 ⟨h13.size, 0 + Int.toNat x_115 * 1, none⟩ 0 [.int .i64 x127] →
 (∃ m130, m130 < m114 ∧ I112 (IntKind.wrap .i64 (x_115 + 1)) h129 m130))))))))))
 ((RunW Tryz.prog (Instr.lookup 195 (.map x110) (.int .i64 x117) false) h121
 (fun v131 h133 => ∃ x132 : Int, v131 = .int .i64 x132 ∧
 ((0 ≤ (x_115 : Int) ∧ (x_115 : Int) < ((Int.toNat x14) : Nat)) ∧
 (okAt h133 ⟨h13.size, 0 + Int.toNat x_115 * 1, none⟩ 1 ∧ ∀ h134 : Heap, h134 = hputs h133 ⟨h13.size, 0 + Int.toNat x_115 * 1, none⟩ 0 [.int .i64 x132] →
 (∃ m135, m135 < m114 ∧ I112 (IntKind.wrap .i64 (x_115 + 1)) h134 m135))))))))))))
 ((RunW Tryz.prog (Builtin.len_ #[195] 3 #[.map x110]) h116
 (fun v136 h138 => ∃ x137 : Int, v136 = .int .i64 x137 ∧
 (sB (x137 == count_19)
 (R (.tuple ⟨[.slice (some ⟨h13.size, 0, none⟩) (Int.toNat x14) (Int.toNat x14), .int .i64 count_19]⟩) h138)
 ((RunW Tryz.prog (Builtin.len_ #[195] 3 #[.map x110]) h138
 (fun v139 h141 => ∃ x140 : Int, v139 = .int .i64 x140 ∧
 (∃ m142, m142 < m18 ∧ I16 x140 h141 m142))))))))))))))))))))))))))))))))))))))))))
theorem vc113 (p0_1 p0_2 p0_3 : Int) (p0_4 p0_5 p0_6 : Sl) (h : Heap) (R : Value → Heap → Prop) (H : W113 p0_1 p0_2 p0_3 p0_4 p0_5 p0_6 h R) : Fn Tryz.prog 113 #[.agg ⟨[.int .i64 p0_1, .int .i64 p0_2, .int .i64 p0_3, .slice p0_4.a p0_4.n p0_4.c, .slice p0_5.a p0_5.n p0_5.c, .slice p0_6.a p0_6.n p0_6.c]⟩] h R := fnI (A := (.s .z (.s .z (.s .z (.s .z (.s .z (.b (.l [(6, .one (.int .i64))] (.b (.s .z (.s .z (.s .z (.s (.s .z (.b (.l [(36, .one (.int .i64))] .z))) (.s (.s .z (.b (.l [(58, .one (.int .i64))] .z))) (.s (.s .z (.b (.l [(92, .one (.int .i64))] .z))) (.s .z (.s (.s .z (.b (.l [(126, .one (.int .i64))] .z))) .z))))))))))))))))) (by kernel_rfl) H

/- farandole/project.minimal
 join rrrrrrrrrrrrrlrborlbrrrrrborrlbrrrr:
 join rrrrrrrrrrrrrlrborlbrrrrrborrlbrr: queue_160:Sl
 loop rrrrrrrrrrrrrlrborlbrrrrrb: queue_137:Sl, x_138:Int
 loop rrrrrrrrrrrrrlrb: queue_106:Sl, head_107:Int
 loop rrrrrrrrrlrb: x_89:Int
 loop rrrrrrrlrb: x_70:Int
 loop rrrrrlrb: x_37:Int
 loop rrrlrb: s_24:Int -/
def W68 (p0_1 p0_2 p0_3 : Int) (p0_4 p0_5 p0_6 : Sl) (h : Heap) (R : Value → Heap → Prop) : Prop :=
 (∀ h7 : Heap, h7 = h.push (.cells ⟨[.int .i64 p0_1, .int .i64 p0_2, .int .i64 p0_3, .slice p0_4.a p0_4.n p0_4.c, .slice p0_5.a p0_5.n p0_5.c, .slice p0_6.a p0_6.n p0_6.c]⟩ 26) →
 (∀ h8 : Heap, h8 = h7.push (.cells ⟨[.int .i64 0, .int .i64 0, .int .i64 0, .slice none 0 0, .slice none 0 0, .slice none 0 0]⟩ 26) →
 (∃ (x9 x10 x11 : Int) (x12 x13 x14 : Sl), atC h8 ⟨h.size, 0, none⟩ [.int .i64 x9, .int .i64 x10, .int .i64 x11, .slice x12.a x12.n x12.c, .slice x13.a x13.n x13.c, .slice x14.a x14.n x14.c] ∧
 (Fn Tryz.prog 113 #[.agg ⟨[.int .i64 x9, .int .i64 x10, .int .i64 x11, .slice x12.a x12.n x12.c, .slice x13.a x13.n x13.c, .slice x14.a x14.n x14.c]⟩] h8
 (fun v15 h18 => ∃ (x16 : Sl) (x17 : Int), v15 = .tuple ⟨[.slice x16.a x16.n x16.c, .int .i64 x17]⟩ ∧
 (((0 : Int) ≤ x17 ∧ (x17 : Int) ≤ x17 ∧ ((8 : Nat) : Int) * x17 ≤ 140737488355328) ∧ ∀ h19 : Heap, h19 = h18.push (.cells ⟨madeL Tryz.prog 3 (Int.toNat x17)⟩ 3) →
 (∃ x20 : Int, hc h19 ⟨h.size, 1, none⟩ = some (.int .i64 x20) ∧
 (∃ I21 : Int → Heap → Nat → Prop, (∃ m22, I21 (IntKind.wrap .i64 (x20 - 1)) h19 m22) ∧
 (∀ (_ : Env) (s_24 : Int) (h25 : Heap) (m23 : Nat), I21 s_24 h25 m23 →
 (sB (decide (s_24 ≥ 0))
 ((NB x16.a fun b26 o27 => ((0 ≤ (s_24 : Int) ∧ (s_24 : Int) < (x16.n : Nat)) ∧
 (∃ x28 : Int, hc h25 ⟨b26, o27 + Int.toNat s_24 * 1, none⟩ = some (.int .i64 x28) ∧
 ((0 ≤ (x28 : Int) ∧ (x28 : Int) < ((Int.toNat x17) : Nat)) ∧
 (okAt h25 ⟨h18.size, 0 + Int.toNat x28 * 1, none⟩ 1 ∧ ∀ h29 : Heap, h29 = hputs h25 ⟨h18.size, 0 + Int.toNat x28 * 1, none⟩ 0 [.int .i64 s_24] →
 (∃ m30, m30 < m23 ∧ I21 (IntKind.wrap .i64 (s_24 - 1)) h29 m30)))))))
 ((∃ x31 : Int, hc h25 ⟨h.size, 1, none⟩ = some (.int .i64 x31) ∧
 (((0 : Int) ≤ x31 ∧ (x31 : Int) ≤ x31 ∧ ((24 : Nat) : Int) * x31 ≤ 140737488355328) ∧ ∀ h32 : Heap, h32 = h25.push (.cells ⟨madeL Tryz.prog 23 (Int.toNat x31)⟩ 23) →
 (∃ x33 : Sl, hc h32 ⟨h.size, 4, none⟩ = some (.slice x33.a x33.n x33.c) ∧
 (∃ I34 : Int → Heap → Nat → Prop, (∃ m35, I34 0 h32 m35) ∧
 (∀ (_ : Env) (x_37 : Int) (h38 : Heap) (m36 : Nat), I34 x_37 h38 m36 →
 (sB (decide (x_37 < (x33.n : Int)))
 ((NB x33.a fun b39 o40 => ((0 ≤ (x_37 : Int) ∧ (x_37 : Int) < (x33.n : Nat)) ∧
 (∃ (x41 : Int) (x42 : Bool) (x43 x44 x45 : Int) (x46 : Bool), atC h38 ⟨b39, o40 + Int.toNat x_37 * 6, none⟩ [.int .i64 x41, .bool x42, .int .i64 x43, .int .i64 x44, .int .i64 x45, .bool x46] ∧
 (∀ h47 : Heap, h47 = h38.push (.cells ⟨[.int .i64 0, .bool false, .int .i64 0, .int .i64 0, .int .i64 0, .bool false]⟩ 81) →
 (okAt h47 ⟨h38.size, 0, none⟩ 6 ∧ ∀ h48 : Heap, h48 = hputs h47 ⟨h38.size, 0, none⟩ 0 [.int .i64 x41, .bool x42, .int .i64 x43, .int .i64 x44, .int .i64 x45, .bool x46] →
 (∃ x49 : Int, hc h48 ⟨h38.size, 0, none⟩ = some (.int .i64 x49) ∧
 (∃ x50 : Int, hc h48 ⟨h38.size, 0, none⟩ = some (.int .i64 x50) ∧
 ((0 ≤ (x50 : Int) ∧ (x50 : Int) < ((Int.toNat x31) : Nat)) ∧
 (∃ x51 : Sl, hc h48 ⟨h25.size, 0 + Int.toNat x50 * 1, none⟩ = some (.slice x51.a x51.n x51.c) ∧
 (∃ (x52 : Int) (x53 : Bool) (x54 x55 x56 : Int) (x57 : Bool), atC h48 ⟨h38.size, 0, none⟩ [.int .i64 x52, .bool x53, .int .i64 x54, .int .i64 x55, .int .i64 x56, .bool x57] ∧
 (∀ h58 : Heap, h58 = h48.push (.cells ⟨[.int .i64 x52, .bool x53, .int .i64 x54, .int .i64 x55, .int .i64 x56, .bool x57]⟩ 81) →
 (Sm [⟨h25.size, 0 + Int.toNat x50 * 1, none⟩, ⟨h38.size, 0, none⟩, ⟨h38.size, 0, none⟩] h48 h58 ∧
 (App Tryz.prog 23 23 (.slice x51.a x51.n x51.c) (.slice (some ⟨h48.size, 0, none⟩) 1 1) h58 fun s59 h60 =>
 (Sm [⟨h38.size, 0, none⟩] h58 h60 ∧
 ((0 ≤ (x49 : Int) ∧ (x49 : Int) < ((Int.toNat x31) : Nat)) ∧
 (okAt h60 ⟨h25.size, 0 + Int.toNat x49 * 1, none⟩ 1 ∧ ∀ h61 : Heap, h61 = hputs h60 ⟨h25.size, 0 + Int.toNat x49 * 1, none⟩ 0 [.slice s59.a s59.n s59.c] →
 (∃ m62, m62 < m36 ∧ I34 (IntKind.wrap .i64 (x_37 + 1)) h61 m62))))))))))))))))))
 ((RunW Tryz.prog (Instr.makeMap 162 (none)) h38
 (fun v63 h65 => ∃ x64 : Option Nat, v63 = .map x64 ∧
 (∃ x66 : Sl, hc h65 ⟨h.size, 5, none⟩ = some (.slice x66.a x66.n x66.c) ∧
 (∃ I67 : Int → Heap → Nat → Prop, (∃ m68, I67 0 h65 m68) ∧
 (∀ (_ : Env) (x_70 : Int) (h71 : Heap) (m69 : Nat), I67 x_70 h71 m69 →
 (sB (decide (x_70 < (x66.n : Int)))
 ((NB x66.a fun b72 o73 => ((0 ≤ (x_70 : Int) ∧ (x_70 : Int) < (x66.n : Nat)) ∧
 (∃ (x74 x75 x76 : Int), atC h71 ⟨b72, o73 + Int.toNat x_70 * 3, none⟩ [.int .i64 x74, .int .i64 x75, .int .i64 x76] ∧
 (∀ h77 : Heap, h77 = h71.push (.cells ⟨[.int .i64 0, .int .i64 0, .int .i64 0]⟩ 44) →
 (okAt h77 ⟨h71.size, 0, none⟩ 3 ∧ ∀ h78 : Heap, h78 = hputs h77 ⟨h71.size, 0, none⟩ 0 [.int .i64 x74, .int .i64 x75, .int .i64 x76] →
 (∃ x79 : Int, hc h78 ⟨h71.size, 0, none⟩ = some (.int .i64 x79) ∧
 (∃ (x80 x81 x82 : Int), atC h78 ⟨h71.size, 0, none⟩ [.int .i64 x80, .int .i64 x81, .int .i64 x82] ∧
 (RunW Tryz.prog (Instr.mapUpdate 162 (.map x64) (.int .i64 x79) (.agg ⟨[.int .i64 x80, .int .i64 x81, .int .i64 x82]⟩)) h78 (fun _ h83 =>
 (∃ m84, m84 < m69 ∧ I67 (IntKind.wrap .i64 (x_70 + 1)) h83 m84)))))))))))
 ((((0 : Int) ≤ x17 ∧ (x17 : Int) ≤ x17 ∧ ((8 : Nat) : Int) * x17 ≤ 140737488355328) ∧ ∀ h85 : Heap, h85 = h71.push (.cells ⟨madeL Tryz.prog 3 (Int.toNat x17)⟩ 3) →
 (∃ I86 : Int → Heap → Nat → Prop, (∃ m87, I86 0 h85 m87) ∧
 (∀ (_ : Env) (x_89 : Int) (h90 : Heap) (m88 : Nat), I86 x_89 h90 m88 →
 (sB (decide (x_89 < ((Int.toNat x17) : Int)))
 (((0 ≤ (x_89 : Int) ∧ (x_89 : Int) < ((Int.toNat x17) : Nat)) ∧
 (okAt h90 ⟨h71.size, 0 + Int.toNat x_89 * 1, none⟩ 1 ∧ ∀ h91 : Heap, h91 = hputs h90 ⟨h71.size, 0 + Int.toNat x_89 * 1, none⟩ 0 [.int .i64 (-1)] →
 (∃ m92, m92 < m88 ∧ I86 (IntKind.wrap .i64 (x_89 + 1)) h91 m92))))
 ((∃ x93 : Int, hc h90 ⟨h.size, 2, none⟩ = some (.int .i64 x93) ∧
 (NB x16.a fun b94 o95 => ((0 ≤ (x93 : Int) ∧ (x93 : Int) < (x16.n : Nat)) ∧
 (∃ x96 : Int, hc h90 ⟨b94, o95 + Int.toNat x93 * 1, none⟩ = some (.int .i64 x96) ∧
 (∀ h97 : Heap, h97 = h90.push (.cells ⟨[.int .i64 x96]⟩ 3) →
 ((0 ≤ (0 : Int) ∧ (0 : Int) < (1 : Nat)) ∧
 (∃ x98 : Int, hc h97 ⟨h90.size, 0 + Int.toNat 0 * 1, none⟩ = some (.int .i64 x98) ∧
 ((0 ≤ (x98 : Int) ∧ (x98 : Int) < ((Int.toNat x17) : Nat)) ∧
 (okAt h97 ⟨h71.size, 0 + Int.toNat x98 * 1, none⟩ 1 ∧ ∀ h99 : Heap, h99 = hputs h97 ⟨h71.size, 0 + Int.toNat x98 * 1, none⟩ 0 [.int .i64 0] →
 (∃ x100 : Int, hc h99 ⟨h.size, 0, none⟩ = some (.int .i64 x100) ∧
 (∀ h101 : Heap, h101 = h99.push (.cells ⟨[.int .i64 0, .int .i64 0, .int .i64 0, .slice none 0 0, .slice none 0 0, .slice none 0 0]⟩ 26) →
 (okAt h101 ⟨h99.size, 0, none⟩ 6 ∧ ∀ h102 : Heap, h102 = hputs h101 ⟨h99.size, 0, none⟩ 0 [.int .i64 x100, .int .i64 0, .int .i64 0, .slice none 0 0, .slice none 0 0, .slice none 0 0] →
 (∃ I103 : Sl → Int → Heap → Nat → Prop, (∃ m104, I103 ⟨(some ⟨h90.size, 0, none⟩), 1, 1⟩ 0 h102 m104) ∧
 (∀ (_ : Env) (queue_106 : Sl) (head_107 : Int) (h108 : Heap) (m105 : Nat), I103 queue_106 head_107 h108 m105 →
 (sB (decide (head_107 < (queue_106.n : Int)))
 ((NB queue_106.a fun b109 o110 => ((0 ≤ (head_107 : Int) ∧ (head_107 : Int) < (queue_106.n : Nat)) ∧
 (∃ x111 : Int, hc h108 ⟨b109, o110 + Int.toNat head_107 * 1, none⟩ = some (.int .i64 x111) ∧
 ((0 ≤ (x111 : Int) ∧ (x111 : Int) < ((Int.toNat x17) : Nat)) ∧
 (∃ x112 : Int, hc h108 ⟨h18.size, 0 + Int.toNat x111 * 1, none⟩ = some (.int .i64 x112) ∧
 (∃ x113 : Sl, hc h108 ⟨h99.size, 3, none⟩ = some (.slice x113.a x113.n x113.c) ∧
 (∃ x114 : Sl, hc h108 ⟨h.size, 3, none⟩ = some (.slice x114.a x114.n x114.c) ∧
 (NB x114.a fun b115 o116 => ((0 ≤ (x112 : Int) ∧ (x112 : Int) < (x114.n : Nat)) ∧
 (∃ x117 : Bool, hc h108 ⟨b115, o116 + Int.toNat x112 * 1, none⟩ = some (.bool x117) ∧
 (∀ h118 : Heap, h118 = h108.push (.cells ⟨[.bool x117]⟩ 4) →
 (Sm [⟨h99.size, 3, none⟩] h108 h118 ∧
 (App Tryz.prog 22 22 (.slice x113.a x113.n x113.c) (.slice (some ⟨h108.size, 0, none⟩) 1 1) h118 fun s119 h120 =>
 (okAt h120 ⟨h99.size, 3, none⟩ 1 ∧ ∀ h121 : Heap, h121 = hputs h120 ⟨h99.size, 3, none⟩ 0 [.slice s119.a s119.n s119.c] →
 ((0 ≤ (x112 : Int) ∧ (x112 : Int) < ((Int.toNat x31) : Nat)) ∧
 (∃ x122 : Sl, hc h121 ⟨h25.size, 0 + Int.toNat x112 * 1, none⟩ = some (.slice x122.a x122.n x122.c) ∧
 (Fn Tryz.prog 114 #[.slice x122.a x122.n x122.c, .func (.func 115) #[] #[]] h121
 (fun v123 h124 => v123 = .tuple ⟨[]⟩ ∧
 (RunW Tryz.prog (Instr.lookup 162 (.map x64) (.int .i64 x112) true) h124
 (fun v125 h130 => ∃ (x126 x127 x128 : Int) (x129 : Bool), v125 = .tuple ⟨[.agg ⟨[.int .i64 x126, .int .i64 x127, .int .i64 x128]⟩, .bool x129]⟩ ∧
 (∀ h131 : Heap, h131 = h130.push (.cells ⟨[.int .i64 0, .int .i64 0, .int .i64 0]⟩ 44) →
 (okAt h131 ⟨h130.size, 0, none⟩ 3 ∧ ∀ h132 : Heap, h132 = hputs h131 ⟨h130.size, 0, none⟩ 0 [.int .i64 x126, .int .i64 x127, .int .i64 x128] →
 ((0 ≤ (x112 : Int) ∧ (x112 : Int) < ((Int.toNat x31) : Nat)) ∧
 (∃ x133 : Sl, hc h132 ⟨h25.size, 0 + Int.toNat x112 * 1, none⟩ = some (.slice x133.a x133.n x133.c) ∧
 (∃ I134 : Sl → Int → Heap → Nat → Prop, (∃ m135, I134 queue_106 0 h132 m135) ∧
 (∀ (_ : Env) (queue_137 : Sl) (x_138 : Int) (h139 : Heap) (m136 : Nat), I134 queue_137 x_138 h139 m136 →
 (sB (decide (x_138 < (x133.n : Int)))
 ((NB x133.a fun b140 o141 => ((0 ≤ (x_138 : Int) ∧ (x_138 : Int) < (x133.n : Nat)) ∧
 (∃ (x142 : Int) (x143 : Bool) (x144 x145 x146 : Int) (x147 : Bool), atC h139 ⟨b140, o141 + Int.toNat x_138 * 6, none⟩ [.int .i64 x142, .bool x143, .int .i64 x144, .int .i64 x145, .int .i64 x146, .bool x147] ∧
 (∀ h148 : Heap, h148 = h139.push (.cells ⟨[.int .i64 0, .bool false, .int .i64 0, .int .i64 0, .int .i64 0, .bool false]⟩ 81) →
 (okAt h148 ⟨h139.size, 0, none⟩ 6 ∧ ∀ h149 : Heap, h149 = hputs h148 ⟨h139.size, 0, none⟩ 0 [.int .i64 x142, .bool x143, .int .i64 x144, .int .i64 x145, .int .i64 x146, .bool x147] →
 (∃ x150 : Int, hc h149 ⟨h139.size, 4, none⟩ = some (.int .i64 x150) ∧
 (NB x16.a fun b151 o152 => ((0 ≤ (x150 : Int) ∧ (x150 : Int) < (x16.n : Nat)) ∧
 (∃ x153 : Int, hc h149 ⟨b151, o152 + Int.toNat x150 * 1, none⟩ = some (.int .i64 x153) ∧
 (∃ J154 : Sl → Heap → Prop,
 (((0 ≤ (x153 : Int) ∧ (x153 : Int) < ((Int.toNat x17) : Nat)) ∧
 (∃ x155 : Int, hc h149 ⟨h71.size, 0 + Int.toNat x153 * 1, none⟩ = some (.int .i64 x155) ∧
 (sB (decide (x155 < 0))
 (((0 ≤ (x153 : Int) ∧ (x153 : Int) < ((Int.toNat x17) : Nat)) ∧
 (okAt h149 ⟨h71.size, 0 + Int.toNat x153 * 1, none⟩ 1 ∧ ∀ h156 : Heap, h156 = hputs h149 ⟨h71.size, 0 + Int.toNat x153 * 1, none⟩ 0 [.int .i64 (queue_137.n : Int)] →
 (∀ h157 : Heap, h157 = h156.push (.cells ⟨[.int .i64 x153]⟩ 3) →
 (App Tryz.prog 49 49 (.slice queue_137.a queue_137.n queue_137.c) (.slice (some ⟨h156.size, 0, none⟩) 1 1) h157 fun s158 h159 =>
 (J154 s158 h159))))))
 ((J154 queue_137 h149)))))) ∧
 (∀ (_ : Env) (queue_160 : Sl) (h161 : Heap), J154 queue_160 h161 →
 (∃ x162 : Sl, hc h161 ⟨h.size, 4, none⟩ = some (.slice x162.a x162.n x162.c) ∧
 (∃ x163 : Int, hc h161 ⟨h130.size, 2, none⟩ = some (.int .i64 x163) ∧
 (NB x162.a fun b164 o165 => ((0 ≤ ((imax x163 0) : Int) ∧ ((imax x163 0) : Int) < (x162.n : Nat)) ∧
 (∃ (x166 : Int) (x167 : Bool) (x168 x169 x170 : Int) (x171 : Bool), atC h161 ⟨b164, o165 + Int.toNat (imax x163 0) * 6, none⟩ [.int .i64 x166, .bool x167, .int .i64 x168, .int .i64 x169, .int .i64 x170, .bool x171] ∧
 (∀ h172 : Heap, h172 = h161.push (.cells ⟨[.int .i64 0, .bool false, .int .i64 0, .int .i64 0, .int .i64 0, .bool false]⟩ 81) →
 (okAt h172 ⟨h161.size, 0, none⟩ 6 ∧ ∀ h173 : Heap, h173 = hputs h172 ⟨h161.size, 0, none⟩ 0 [.int .i64 x166, .bool x167, .int .i64 x168, .int .i64 x169, .int .i64 x170, .bool x171] →
 (∃ J174 : Heap → Prop,
 ((sB x129
 ((∃ x175 : Bool, hc h173 ⟨h139.size, 1, none⟩ = some (.bool x175) ∧
 (∃ x176 : Bool, hc h173 ⟨h161.size, 1, none⟩ = some (.bool x176) ∧
 (sB (x175 == x176)
 ((∃ x177 : Int, hc h173 ⟨h139.size, 2, none⟩ = some (.int .i64 x177) ∧
 (∃ x178 : Int, hc h173 ⟨h161.size, 2, none⟩ = some (.int .i64 x178) ∧
 (sB (x177 == x178)
 ((∃ x179 : Int, hc h173 ⟨h139.size, 3, none⟩ = some (.int .i64 x179) ∧
 (∃ x180 : Int, hc h173 ⟨h161.size, 3, none⟩ = some (.int .i64 x180) ∧
 (sB (x179 == x180)
 ((∃ x181 : Sl, hc h173 ⟨h99.size, 5, none⟩ = some (.slice x181.a x181.n x181.c) ∧
 (∃ x182 : Int, hc h173 ⟨h130.size, 1, none⟩ = some (.int .i64 x182) ∧
 (∃ x183 : Sl, hc h173 ⟨h99.size, 4, none⟩ = some (.slice x183.a x183.n x183.c) ∧
 (∀ h184 : Heap, h184 = h173.push (.cells ⟨[.int .i64 head_107, .int .i64 x182, .int .i64 (x183.n : Int)]⟩ 44) →
 (App Tryz.prog 24 24 (.slice x181.a x181.n x181.c) (.slice (some ⟨h173.size, 0, none⟩) 1 1) h184 fun s185 h186 =>
 (okAt h186 ⟨h99.size, 5, none⟩ 1 ∧ ∀ h187 : Heap, h187 = hputs h186 ⟨h99.size, 5, none⟩ 0 [.slice s185.a s185.n s185.c] →
 (J174 h187))))))))
 ((J174 h173))))))
 ((J174 h173))))))
 ((J174 h173))))))
 ((J174 h173)))) ∧
 (∀ (_ : Env) (h188 : Heap), J174 h188 →
 ((0 ≤ (x153 : Int) ∧ (x153 : Int) < ((Int.toNat x17) : Nat)) ∧
 (∃ x189 : Int, hc h188 ⟨h71.size, 0 + Int.toNat x153 * 1, none⟩ = some (.int .i64 x189) ∧
 (okAt h188 ⟨h139.size, 0, none⟩ 1 ∧ ∀ h190 : Heap, h190 = hputs h188 ⟨h139.size, 0, none⟩ 0 [.int .i64 head_107] →
 (Sm [⟨h71.size, 0 + Int.toNat x153 * 1, none⟩] h188 h190 ∧
 (okAt h190 ⟨h139.size, 4, none⟩ 1 ∧ ∀ h191 : Heap, h191 = hputs h190 ⟨h139.size, 4, none⟩ 0 [.int .i64 x189] →
 (∃ x192 : Sl, hc h191 ⟨h99.size, 4, none⟩ = some (.slice x192.a x192.n x192.c) ∧
 (∃ (x193 : Int) (x194 : Bool) (x195 x196 x197 : Int) (x198 : Bool), atC h191 ⟨h139.size, 0, none⟩ [.int .i64 x193, .bool x194, .int .i64 x195, .int .i64 x196, .int .i64 x197, .bool x198] ∧
 (∀ h199 : Heap, h199 = h191.push (.cells ⟨[.int .i64 x193, .bool x194, .int .i64 x195, .int .i64 x196, .int .i64 x197, .bool x198]⟩ 81) →
 (App Tryz.prog 23 23 (.slice x192.a x192.n x192.c) (.slice (some ⟨h191.size, 0, none⟩) 1 1) h199 fun s200 h201 =>
 (okAt h201 ⟨h99.size, 4, none⟩ 1 ∧ ∀ h202 : Heap, h202 = hputs h201 ⟨h99.size, 4, none⟩ 0 [.slice s200.a s200.n s200.c] →
 (∃ m203, m203 < m136 ∧ I134 queue_160 (IntKind.wrap .i64 (x_138 + 1)) h202 m203))))))))))))))))))))))))))))))))
 ((∃ m204, m204 < m105 ∧ I103 queue_137 (IntKind.wrap .i64 (head_107 + 1)) h139 m204))))))))))))))))))))))))))))))
 ((okAt h108 ⟨h99.size, 1, none⟩ 1 ∧ ∀ h205 : Heap, h205 = hputs h108 ⟨h99.size, 1, none⟩ 0 [.int .i64 (queue_106.n : Int)] →
 (∃ (x206 x207 x208 : Int) (x209 x210 x211 : Sl), atC h205 ⟨h99.size, 0, none⟩ [.int .i64 x206, .int .i64 x207, .int .i64 x208, .slice x209.a x209.n x209.c, .slice x210.a x210.n x210.c, .slice x211.a x211.n x211.c] ∧
 (okAt h205 ⟨h7.size, 0, none⟩ 6 ∧ ∀ h212 : Heap, h212 = hputs h205 ⟨h7.size, 0, none⟩ 0 [.int .i64 x206, .int .i64 x207, .int .i64 x208, .slice x209.a x209.n x209.c, .slice x210.a x210.n x210.c, .slice x211.a x211.n x211.c] →
 (∃ (x213 x214 x215 : Int) (x216 x217 x218 : Sl), atC h212 ⟨h7.size, 0, none⟩ [.int .i64 x213, .int .i64 x214, .int .i64 x215, .slice x216.a x216.n x216.c, .slice x217.a x217.n x217.c, .slice x218.a x218.n x218.c] ∧
 R (.agg ⟨[.int .i64 x213, .int .i64 x214, .int .i64 x215, .slice x216.a x216.n x216.c, .slice x217.a x217.n x217.c, .slice x218.a x218.n x218.c]⟩) h212))))))))))))))))))))))))))))))))))))))))))))))))))
theorem vc68 (p0_1 p0_2 p0_3 : Int) (p0_4 p0_5 p0_6 : Sl) (h : Heap) (R : Value → Heap → Prop) (H : W68 p0_1 p0_2 p0_3 p0_4 p0_5 p0_6 h R) : Fn Tryz.prog 68 #[.agg ⟨[.int .i64 p0_1, .int .i64 p0_2, .int .i64 p0_3, .slice p0_4.a p0_4.n p0_4.c, .slice p0_5.a p0_5.n p0_5.c, .slice p0_6.a p0_6.n p0_6.c]⟩] h R := fnI (A := (.s .z (.s .z (.s .z (.s (.s .z (.b (.l [(6, .one (.int .i64))] .z))) (.s .z (.s (.s .z (.b (.l [(52, .one (.int .i64))] .z))) (.s .z (.s (.s .z (.b (.l [(73, .one (.int .i64))] .z))) (.s .z (.s (.s .z (.b (.l [(86, .one (.int .i64))] .z))) (.s .z (.s .z (.s .z (.s (.s .z (.b (.l [(15, .one (.slice)), (17, .one (.int .i64))] (.s .z (.s (.b (.s .z (.s .z (.s .z (.s .z (.s .z (.b (.l [(15, .one (.slice)), (146, .one (.int .i64))] (.s .z (.s .z (.s (.b (.s .z (.s .z (.j [(15, .one (.slice))] .z (.s .z (.j [] .z .z)))))) .z))))))))))) .z))))) .z))))))))))))))) (by kernel_rfl) H

def W35 (p0_1 : ByteArray) (p0_2 p0_3 : Sl) (p0_4 p0_5 p0_6 : Int) (p0_7 p0_8 : Sl) (p1 : Int) (h : Heap) (R : Value → Heap → Prop) : Prop :=
 (∀ h9 : Heap, h9 = h.push (.cells ⟨[.string p0_1, .slice p0_2.a p0_2.n p0_2.c, .slice p0_3.a p0_3.n p0_3.c, .int .i64 p0_4, .int .i64 p0_5, .int .i64 p0_6, .slice p0_7.a p0_7.n p0_7.c, .slice p0_8.a p0_8.n p0_8.c]⟩ 59) →
 (∀ h10 : Heap, h10 = h9.push (.cells ⟨[.int .i64 0, .int .i64 0, .int .i64 0, .slice none 0 0, .slice none 0 0, .slice none 0 0]⟩ 26) →
 (∃ (x11 : ByteArray) (x12 x13 : Sl) (x14 x15 x16 : Int) (x17 x18 : Sl), atC h10 ⟨h.size, 0, none⟩ [.string x11, .slice x12.a x12.n x12.c, .slice x13.a x13.n x13.c, .int .i64 x14, .int .i64 x15, .int .i64 x16, .slice x17.a x17.n x17.c, .slice x18.a x18.n x18.c] ∧
 (Fn Tryz.prog 36 #[.agg ⟨[.string x11, .slice x12.a x12.n x12.c, .slice x13.a x13.n x13.c, .int .i64 x14, .int .i64 x15, .int .i64 x16, .slice x17.a x17.n x17.c, .slice x18.a x18.n x18.c]⟩, .int .i64 p1] h10
 (fun v19 h27 => ∃ (x20 x21 x22 : Int) (x23 x24 x25 : Sl) (x26 : Int), v19 = .tuple ⟨[.agg ⟨[.int .i64 x20, .int .i64 x21, .int .i64 x22, .slice x23.a x23.n x23.c, .slice x24.a x24.n x24.c, .slice x25.a x25.n x25.c]⟩, .int .i64 x26]⟩ ∧
 (∀ h28 : Heap, h28 = h27.push (.cells ⟨[.int .i64 0, .int .i64 0, .int .i64 0, .slice none 0 0, .slice none 0 0, .slice none 0 0]⟩ 26) →
 (okAt h28 ⟨h27.size, 0, none⟩ 6 ∧ ∀ h29 : Heap, h29 = hputs h28 ⟨h27.size, 0, none⟩ 0 [.int .i64 x20, .int .i64 x21, .int .i64 x22, .slice x23.a x23.n x23.c, .slice x24.a x24.n x24.c, .slice x25.a x25.n x25.c] →
 (sB (x26 != 0)
 ((okAt h29 ⟨h9.size, 0, none⟩ 6 ∧ ∀ h30 : Heap, h30 = hputs h29 ⟨h9.size, 0, none⟩ 0 [.int .i64 0, .int .i64 0, .int .i64 0, .slice none 0 0, .slice none 0 0, .slice none 0 0] →
 (∃ (x31 x32 x33 : Int) (x34 x35 x36 : Sl), atC h30 ⟨h9.size, 0, none⟩ [.int .i64 x31, .int .i64 x32, .int .i64 x33, .slice x34.a x34.n x34.c, .slice x35.a x35.n x35.c, .slice x36.a x36.n x36.c] ∧
 R (.tuple ⟨[.agg ⟨[.int .i64 x31, .int .i64 x32, .int .i64 x33, .slice x34.a x34.n x34.c, .slice x35.a x35.n x35.c, .slice x36.a x36.n x36.c]⟩, .int .i64 x26]⟩) h30)))
 ((∃ (x37 x38 x39 : Int) (x40 x41 x42 : Sl), atC h29 ⟨h27.size, 0, none⟩ [.int .i64 x37, .int .i64 x38, .int .i64 x39, .slice x40.a x40.n x40.c, .slice x41.a x41.n x41.c, .slice x42.a x42.n x42.c] ∧
 (Fn Tryz.prog 68 #[.agg ⟨[.int .i64 x37, .int .i64 x38, .int .i64 x39, .slice x40.a x40.n x40.c, .slice x41.a x41.n x41.c, .slice x42.a x42.n x42.c]⟩] h29
 (fun v43 h50 => ∃ (x44 x45 x46 : Int) (x47 x48 x49 : Sl), v43 = .agg ⟨[.int .i64 x44, .int .i64 x45, .int .i64 x46, .slice x47.a x47.n x47.c, .slice x48.a x48.n x48.c, .slice x49.a x49.n x49.c]⟩ ∧
 (okAt h50 ⟨h9.size, 0, none⟩ 6 ∧ ∀ h51 : Heap, h51 = hputs h50 ⟨h9.size, 0, none⟩ 0 [.int .i64 x44, .int .i64 x45, .int .i64 x46, .slice x47.a x47.n x47.c, .slice x48.a x48.n x48.c, .slice x49.a x49.n x49.c] →
 (∃ (x52 x53 x54 : Int) (x55 x56 x57 : Sl), atC h51 ⟨h9.size, 0, none⟩ [.int .i64 x52, .int .i64 x53, .int .i64 x54, .slice x55.a x55.n x55.c, .slice x56.a x56.n x56.c, .slice x57.a x57.n x57.c] ∧
 R (.tuple ⟨[.agg ⟨[.int .i64 x52, .int .i64 x53, .int .i64 x54, .slice x55.a x55.n x55.c, .slice x56.a x56.n x56.c, .slice x57.a x57.n x57.c]⟩, .int .i64 0]⟩) h51))))))))))))))
theorem vc35 (p0_1 : ByteArray) (p0_2 p0_3 : Sl) (p0_4 p0_5 p0_6 : Int) (p0_7 p0_8 : Sl) (p1 : Int) (h : Heap) (R : Value → Heap → Prop) (H : W35 p0_1 p0_2 p0_3 p0_4 p0_5 p0_6 p0_7 p0_8 p1 h R) : Fn Tryz.prog 35 #[.agg ⟨[.string p0_1, .slice p0_2.a p0_2.n p0_2.c, .slice p0_3.a p0_3.n p0_3.c, .int .i64 p0_4, .int .i64 p0_5, .int .i64 p0_6, .slice p0_7.a p0_7.n p0_7.c, .slice p0_8.a p0_8.n p0_8.c]⟩, .int .i64 p1] h R := fnI (A := .z) (by kernel_rfl) H

end Go.VC
end
