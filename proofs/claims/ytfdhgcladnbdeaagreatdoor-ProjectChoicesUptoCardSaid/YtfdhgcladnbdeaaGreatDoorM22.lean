/- Texts of this claim, joined: PjRb, PjRc, PjRd, PjRe0, PjRe, PjRf, PjRg. -/
import Derived.Test.YtfdhgcladnbdeaaGreatDoorM21
import Derived.Test.YtfdhgcladnbdeaaGreatDoorM11
import Derived.Test.YtfdhgcladnbdeaaGreatDoorM20
import Derived.Test.YtfdhgcladnbdeaaGreatDoorM15
import Derived.Test.YtfdhgcladnbdeaaGreatDoorM12
set_option linter.unusedVariables false
set_option linter.unusedSimpArgs false

section
/- Contracts: the reference of validity: guards and declarations; each answers exactly. -/
namespace Go.VC
open Go.Proofs Go.LexS
set_option maxRecDepth 100000
theorem field241 (ds : List Dc) (s : Sl) (p : Int) (h : Heap) (hd : DL h s ds) (h0 : 0 ≤ p) (h1 : p < (allF ds).length) (h2 : (allF ds).length ≤ 1099511627776) :
    Fn Tryz.prog 241 #[.slice s.a s.n s.c, .int .i64 p] h fun v h' => (∃ f, (allF ds)[p.toNat]? = some f ∧ v = .agg ⟨f.cs⟩) ∧ Ext h h' := by
  apply vc241; unfold W241
  have hn := hd.r.ln
  have hm := hd.r.sm
  refine (St.refl h).newb fun h1' hs => ?_
  refine ⟨fun x i h' m => ∃ b : Nat, i = b ∧ b ≤ s.n ∧ m = s.n - b ∧ h' = h1' ∧ 0 ≤ x ∧ x + ((allF (ds.take b)).length : Nat) = p, ⟨_, 0, rfl, by omega, rfl, rfl, h0, by show p + ((0 : Nat) : Int) = p; omega⟩, ?_⟩
  rintro - x _ h7 m ⟨b, rfl, hb, rfl, rfl, hx0, hx1⟩
  refine sB_intro (fun c => ?_) (fun c => ?_)
  · replace c := lt_t c
    have hrw := hd.r.rw.ext hs.ext
    refine hrw.nbI (by omega) (by omega) fun b8 o9 d g t => ?_
    replace g : ds[b]? = some d := g
    have hdi := hd.i d (List.mem_of_getElem? g)
    have hfn := hdi.pf.ln
    have hfm := hdi.pf.sm
    have hsp : allF ds = allF (ds.take b) ++ (d.fs ++ allF (ds.drop (b + 1))) := by
      have e : ds = ds.take b ++ d :: ds.drop (b + 1) := by
        have h3 := (List.take_append_drop b ds).symm
        have hl := (List.getElem?_eq_some_iff.1 g).1
        rw [List.drop_eq_getElem_cons hl, (List.getElem?_eq_some_iff.1 g).2] at h3; exact h3
      conv => lhs; rw [e]
      unfold allF
      rw [List.flatMap_append, List.flatMap_cons]
    refine ⟨_, t.nth 1 rfl, sB_intro (fun c2 => ?_) (fun c2 => ?_)⟩
    · replace c2 := of_decide_eq_true c2
      refine hrw.nbI (by omega) (by omega) fun b11 o12 d2 g2 t2 => ?_
      replace g2 : ds[b]? = some d2 := g2
      rw [g] at g2; cases g2
      refine ⟨_, t2.nth 1 rfl, ?_⟩
      refine (hdi.pf.rw.ext hs.ext).nbI hx0 c2 fun b14 o15 f g3 t3 => ?_
      refine ⟨_, _, _, _, t3, ?_⟩
      refine hs.put 0 rfl (o := 0) (vs := f.cs) rfl (show 4 ≤ 4 by decide) fun h20 hs => ?_
      refine ⟨_, _, _, _, hs.at 0 rfl (o := 0) (n := 4) rfl, ⟨f, ?_, rfl⟩, hs.ext⟩
      have hxl := (List.getElem?_eq_some_iff.1 g3).1
      rw [hsp, List.getElem?_append_right (by omega), List.getElem?_append_left (by omega), ← g3]
      congr 1; omega
    · replace c2 := of_decide_eq_false c2
      refine hrw.nbI (by omega) (by omega) fun b11 o12 d2 g2 t2 => ?_
      replace g2 : ds[b]? = some d2 := g2
      rw [g] at g2; cases g2
      refine ⟨_, t2.nth 1 rfl, s.n - (b + 1), by omega, b + 1, by rw [w64 (by omega) (by omega)]; omega, by omega, rfl, rfl, ?_⟩
      rw [w64 (by omega) (by omega)]
      refine ⟨by omega, ?_⟩
      rw [List.take_add_one, g, Option.toList_some, allF_snoc, List.length_append]; omega
  · replace c := lt_f c
    rw [List.take_of_length_le (by omega)] at hx1
    omega
theorem text202 (ds : List Dc) (s : Sl) (p : Int) (h : Heap) (hd : DL h s ds) : Fn Tryz.prog 202 #[.slice s.a s.n s.c, .int .i64 p] h (RP (TextS (allF ds) p) h) := by
  apply vc202; unfold W202
  refine sB_intro (fun c => ?_) (fun c => ?_)
  · replace c := of_decide_eq_true c
    refine (vars155 ds s h hd).mono ?_
    rintro _ h3 ⟨rfl, hk, rfl⟩
    refine ⟨_, rfl, sB_intro (fun c2 => ?_) (fun c2 => ?_)⟩
    · replace c2 := of_decide_eq_true c2
      refine (field241 ds s p _ hd (by omega) (by omega) hk).mono ?_
      rintro _ h9 ⟨⟨f, hf, rfl⟩, E⟩
      refine ⟨_, _, _, _, rfl, RP.e ⟨fun hb => ⟨by omega, f, hf, by simpa using hb⟩, ?_⟩ E⟩
      rintro ⟨_, f2, hf2, hk2⟩
      rw [hf] at hf2; cases hf2
      simpa using hk2
    · replace c2 := of_decide_eq_false c2
      refine RP.f ?_ .rfl'
      rintro ⟨_, f2, hf2, _⟩
      have := (List.getElem?_eq_some_iff.1 hf2).1
      omega
  · replace c := of_decide_eq_false c
    exact RP.f (fun hT => by have := hT.1; omega) .rfl'
theorem goodGuard158 (ds : List Dc) (s : Sl) (d : Dc) (h : Heap) (hd : DL h s ds) (hi : DI h d) :
    Fn Tryz.prog 158 #[.slice s.a s.n s.c, .agg ⟨[.slice d.hd.a d.hd.n d.hd.c, .slice d.he.a d.he.n d.he.c]⟩] h (RP (GuardS (allF ds) d.ds d.es) h) := by
  apply vc158 s d.hd d.he; unfold W158
  have hdn := hi.pd.ln
  have hdm := hi.pd.sm
  have hen := hi.pe.ln
  have hem := hi.pe.sm
  refine (St.refl h).newb fun h3 hs => ?_
  refine (vars155 ds s h3 (hd.ext hs.ext)).mono ?_
  rintro _ h6 ⟨rfl, hk, rfl⟩
  refine ⟨_, rfl, ?_⟩
  refine up_loopS (n := d.hd.n) hs (fun i => ∀ (j : Nat) (x : Df), j < i → d.ds[j]? = some x → -1 ≤ min x.x x.y ∧ max x.x x.y < (allF ds).length ∧ -20000 ≤ x.c ∧ x.c ≤ 20000) (fun j x hj => by omega) ?_
  rintro - i h11 hin ⟨hs, hq⟩
  refine ⟨_, hs.rd 0 rfl rfl, sB_intro (fun c => ?_) (fun c => ?_)⟩
  · replace c := lt_t c
    refine ⟨_, hs.rd 0 rfl rfl, ?_⟩
    refine (hi.pd.rw.ext hs.ext).nbI (by omega) (by omega) fun b o x g t => ?_
    replace g : d.ds[i]? = some x := g
    refine ⟨_, _, _, t, ?_⟩
    refine hs.newput (vs := x.cs) rfl rfl fun h20 hs => ?_
    repeat' (first
        | (refine ⟨_, hs.rd 0 rfl rfl, ?_⟩)
        | (refine ⟨_, hs.rd 1 rfl rfl, ?_⟩)
        | (refine sBi (fun _ => ?_) (fun _ => ?_))
        | (refine sBe (fun _ => ?_) (fun _ => ?_))
        | (refine sBn (fun _ => ?_) (fun _ => ?_)))
    all_goals first
      | exact RP.f (fun hG => by have := hG.d x (List.mem_of_getElem? g); omega) hs.ext
      | (refine Up.next c (by omega) ⟨hs.drop 1, fun j y hj hy => ?_⟩
         by_cases e : j = i
         · subst e; rw [g] at hy; cases hy; omega
         · exact hq j y (by omega) hy)
  · replace c := lt_f c
    have hqd : ∀ x ∈ d.ds, -1 ≤ min x.x x.y ∧ max x.x x.y < (allF ds).length ∧ -20000 ≤ x.c ∧ x.c ≤ 20000 := fun x hx => by
      obtain ⟨j, hj⟩ := List.mem_iff_getElem?.1 hx
      exact hq j x (by have := (List.getElem?_eq_some_iff.1 hj).1; omega) hj
    clear hq
    refine up_loopS (n := d.he.n) hs (fun i => ∀ (j : Nat) (x : Eqs), j < i → d.es[j]? = some x → TextS (allF ds) x.x ∧ TextS (allF ds) x.y) (fun j x hj => by omega) ?_
    rintro - i h32 hin ⟨hs, hq⟩
    refine ⟨_, hs.rd 0 rfl rfl, sB_intro (fun c => ?_) (fun c => ?_)⟩
    · replace c := lt_t c
      refine ⟨_, hs.rd 0 rfl rfl, ?_⟩
      refine (hi.pe.rw.ext hs.ext).nbI (by omega) (by omega) fun b o x g t => ?_
      replace g : d.es[i]? = some x := g
      refine ⟨⟨by omega, by omega⟩, _, t.nth 0 rfl, ?_⟩
      refine (text202 ds s _ h32 (hd.ext hs.ext)).mono ?_
      rintro _ h40 ⟨⟨b1, rfl, hb1⟩, E⟩
      have hs := hs.step E
      refine ⟨_, rfl, sB_intro (fun c1 => RP.f (fun hG => iff_f hb1 (bF c1) (hG.e x (List.mem_of_getElem? g)).1) hs.ext) (fun c1 => ?_)⟩
      refine ⟨_, hs.rd 0 rfl rfl, ?_⟩
      refine (hi.pe.rw.ext hs.ext).nbI (by omega) (by omega) fun b o x' g' t => ?_
      replace g' : d.es[i]? = some x' := g'
      rw [g] at g'; cases g'
      refine ⟨⟨by omega, by omega⟩, _, t.nth 1 rfl, ?_⟩
      refine (text202 ds s _ h40 (hd.ext hs.ext)).mono ?_
      rintro _ h47 ⟨⟨b2, rfl, hb2⟩, E⟩
      have hs := hs.step E
      refine ⟨_, rfl, sB_intro (fun c2 => RP.f (fun hG => iff_f hb2 (bF c2) (hG.e x (List.mem_of_getElem? g)).2) hs.ext) (fun c2 => Up.next c (by omega) ⟨hs, fun j y hj hy => ?_⟩)⟩
      by_cases e : j = i
      · subst e; rw [g] at hy; cases hy; exact ⟨hb1.1 (bT c1), hb2.1 (bT c2)⟩
      · exact hq j y (by omega) hy
    · replace c := lt_f c
      have hqe : ∀ x ∈ d.es, TextS (allF ds) x.x ∧ TextS (allF ds) x.y := fun x hx => by
        obtain ⟨j, hj⟩ := List.mem_iff_getElem?.1 hx
        exact hq j x (by have := (List.getElem?_eq_some_iff.1 hj).1; omega) hj
      refine ⟨_, hs.rd 0 rfl rfl, sB_intro (fun c1 => ⟨_, hs.rd 0 rfl rfl, ?_⟩) (fun c1 => ?_)⟩
      · replace c1 := of_decide_eq_true c1
        refine RP.e ⟨fun hb => ⟨by omega, by have := of_decide_eq_true hb; omega, hqd, hqe⟩, fun hG => ?_⟩ hs.ext
        have := hG.ne
        exact decide_eq_true (by omega)
      · replace c1 := of_decide_eq_false c1
        exact RP.f (fun hG => by have := hG.nd; omega) hs.ext
def GNm (ds : List Dc) : Prop := ∀ d ∈ ds, d.nm.length ≤ 1048576
theorem dup_iff {α : Type} {l : List α} {p : α → Bool} : (l.any p) = false ↔ ∀ (j : Nat) (y : α), l[j]? = some y → p y = false := by
  rw [List.any_eq_false]
  refine ⟨fun h j y hj => ?_, fun h y hy => ?_⟩
  · have := h y (List.mem_of_getElem? hj); cases hp : p y <;> simp_all
  · obtain ⟨j, hj⟩ := List.mem_iff_getElem?.1 hy; rw [h j y hj]; decide
set_option maxHeartbeats 1600000 in
theorem refValid113 (ds : List Dc) (s : Sl) (h : Heap) (hd : DL h s ds) (hN : GNm ds) : Fn Tryz.prog 113 #[.slice s.a s.n s.c] h (RP (DeclS ds) h) := by
  apply vc113; unfold W113
  have hn := hd.r.ln
  have hm := hd.r.sm
  refine sB_intro (fun c0 => RP.f (fun hG => by have := hG.pn; have := of_decide_eq_true c0; omega) .rfl') (fun c0 => ?_)
  replace c0 := of_decide_eq_false c0
  refine (vars155 ds s h hd).mono ?_
  rintro _ h3 ⟨rfl, hk, rfl⟩
  refine ⟨_, rfl, sB_intro (fun c00 => RP.f (fun hG => by have := hG.pv; have := of_decide_eq_true c00; omega) .rfl') (fun c00 => ?_)⟩
  replace c00 := of_decide_eq_false c00
  refine ⟨fun f i h' m => ∃ b : Nat, i = b ∧ b ≤ s.n ∧ m = s.n - b ∧ St h3 h' [] ∧ f = ((allF (ds.take b)).length : Nat) ∧ ∀ (j : Nat) (y : Dc), j < b → ds[j]? = some y → DcS ds j y, ⟨_, 0, rfl, by omega, rfl, St.refl _, rfl, fun j y hj => by omega⟩, ?_⟩
  rintro - _ _ h9 m ⟨b, rfl, hb, rfl, hs, rfl, hq⟩
  refine sB_intro (fun c => ?_) (fun c => RP.t ⟨by omega, by omega, fun j y hy => hq j y (by have := lt_f c; have := (List.getElem?_eq_some_iff.1 hy).1; omega) hy⟩ hs.ext)
  replace c := lt_t c
  refine (hd.r.rw.ext hs.ext).nbI (by omega) (by omega) fun b10 o11 d g t => ?_
  replace g : ds[b]? = some d := g
  have hdm := List.mem_of_getElem? g
  have hdi := hd.i d hdm
  have hfn := hdi.pf.ln
  have hfm := hdi.pf.sm
  refine ⟨_, _, _, _, _, t, ?_⟩
  refine hs.newput (vs := d.cs) rfl rfl fun h18 hs => ?_
  refine up_loopS (n := b) hs (fun i => ∀ (j : Nat) (y : Dc), j < i → ds[j]? = some y → y.nm ≠ d.nm) (fun j y hj => by omega) ?_
  rintro - k1 h23 hk1 ⟨hs, hq1⟩
  refine sB_intro (fun c1 => ?_) (fun c1 => ?_)
  · replace c1 := lt_t c1
    refine (hd.r.rw.ext hs.ext).nbI (by omega) (by omega) fun b24 o25 d2 g2 t2 => ?_
    replace g2 : ds[k1]? = some d2 := g2
    refine ⟨_, t2.nth 0 rfl, _, hs.rd 0 rfl rfl, sBs (fun e => ?_) (fun e => Up.next c1 (by omega) ⟨hs, fun j y hj hy => ?_⟩)⟩
    · refine RP.f (fun hG => ?_) hs.ext
      have := dup_iff.1 (hG.pd b d g).pd k1 d2 (by rw [List.getElem?_take, if_pos c1]; exact g2)
      exact of_decide_eq_false this e
    · by_cases e2 : j = k1
      · subst e2; rw [g2] at hy; cases hy; exact e
      · exact hq1 j y (by omega) hy
  replace c1 := lt_f c1
  have hdup : ((ds.take b).any fun x => decide (x.nm = d.nm)) = false := dup_iff.2 fun j y hy => by
    rw [List.getElem?_take] at hy
    split at hy
    · exact decide_eq_false (hq1 j y (by omega) hy)
    · cases hy
  clear hq1
  refine up_loopS (n := d.hf.n) hs (fun i => ∀ (j : Nat) (y : Fld), j < i → d.fs[j]? = some y → FldS d.fs j y) (fun j y hj => by omega) ?_
  rintro - k2 h33 hk2 ⟨hs, hq2⟩
  refine ⟨_, hs.rd 0 rfl rfl, sB_intro (fun c2 => ?_) (fun c2 => ?_)⟩
  · replace c2 := lt_t c2
    refine ⟨_, hs.rd 0 rfl rfl, ?_⟩
    refine (hdi.pf.rw.ext hs.ext).nbI (by omega) (by omega) fun b36 o37 f g3 t3 => ?_
    replace g3 : d.fs[k2]? = some f := g3
    refine ⟨_, _, _, t3.sub 1 3 rfl, ?_⟩
    refine (goodSort156 _ _ _ h33).mono ?_
    rintro _ h43 ⟨⟨b1, rfl, hb1⟩, E⟩
    have hs := hs.step E
    refine ⟨_, rfl, sB_intro (fun c3 => RP.f (fun hG => iff_f hb1 (bF c3) ((hG.pd b d g).pfs k2 f g3).ps) hs.ext) (fun c3 => ?_)⟩
    refine ⟨_, hs.rd 0 rfl rfl, ?_⟩
    refine (hdi.pf.rw.ext hs.ext).nbI (by omega) (by omega) fun b45 o46 f2 g4 t4 => ?_
    replace g4 : d.fs[k2]? = some f2 := g4
    rw [g3] at g4; cases g4
    refine ⟨_, t4.nth 0 rfl, ?_⟩
    refine (isWord111 (bs f.nm) h43).mono ?_
    rintro _ h50 ⟨rfl, E⟩
    have hs := hs.step E
    refine ⟨_, rfl, sB_intro (fun c4 => RP.f (fun hG => ?_) hs.ext) (fun c4 => ?_)⟩
    · have := ((hG.pd b d g).pfs k2 f g3).pw
      rw [bs_list, this] at c4; cases c4
    refine up_loopS (n := k2) hs (fun i => ∀ (j : Nat) (y : Fld), j < i → d.fs[j]? = some y → y.nm ≠ f.nm) (fun j y hj => by omega) ?_
    rintro - j1 h55 hj1 ⟨hs, hq3⟩
    refine sB_intro (fun c5 => ?_) (fun c5 => ?_)
    · replace c5 := lt_t c5
      refine ⟨_, hs.rd 0 rfl rfl, ?_⟩
      refine (hdi.pf.rw.ext hs.ext).nbI (by omega) (by omega) fun b57 o58 f3 g5 t5 => ?_
      replace g5 : d.fs[j1]? = some f3 := g5
      refine ⟨_, t5.nth 0 rfl, _, hs.rd 0 rfl rfl, ?_⟩
      refine (hdi.pf.rw.ext hs.ext).nbI (by omega) (by omega) fun b61 o62 f4 g6 t6 => ?_
      replace g6 : d.fs[k2]? = some f4 := g6
      rw [g3] at g6; cases g6
      refine ⟨_, t6.nth 0 rfl, sBs (fun e => ?_) (fun e => Up.next c5 (by omega) ⟨hs, fun j y hj hy => ?_⟩)⟩
      · refine RP.f (fun hG => ?_) hs.ext
        have := dup_iff.1 ((hG.pd b d g).pfs k2 f g3).pd j1 f3 (by rw [List.getElem?_take, if_pos c5]; exact g5)
        exact of_decide_eq_false this e
      · by_cases e2 : j = j1
        · subst e2; rw [g5] at hy; cases hy; exact e
        · exact hq3 j y (by omega) hy
    · replace c5 := lt_f c5
      refine Up.next c2 (by omega) ⟨hs, fun j y hj hy => ?_⟩
      by_cases e2 : j = k2
      · subst e2; rw [g3] at hy; cases hy
        refine ⟨?_, hb1.1 (bT c3), dup_iff.2 fun j' y' hy' => ?_⟩
        · have := bT c4; rw [bs_list] at this; exact this
        · rw [List.getElem?_take] at hy'
          split at hy'
          · exact decide_eq_false (hq3 j' y' (by omega) hy')
          · cases hy'
      · exact hq2 j y (by omega) hy
  · replace c2 : d.hf.n ≤ k2 := by have := of_decide_eq_false c2; omega
    have hfl : ∀ k f, d.fs[k]? = some f → FldS d.fs k f := fun k f hf => hq2 k f (by have := (List.getElem?_eq_some_iff.1 hf).1; omega) hf
    refine ⟨_, hs.rd 0 rfl rfl, ?_⟩
    refine (isPath157 (bs d.nm) h33 (hN d hdm)).mono ?_
    rintro _ h69 ⟨rfl, E⟩
    have hs := hs.step E
    refine ⟨_, rfl, sB_intro (fun c3 => RP.f (fun hG => ?_) hs.ext) (fun c3 => ?_)⟩
    · have := (hG.pd b d g).pp
      rw [bs_list, this] at c3; cases c3
    have hpp : isPath d.nm = true := by have := bT c3; rw [bs_list] at this; exact this
    refine ⟨_, hs.rd 0 rfl rfl, sB_intro (fun c4 => RP.f (fun hG => by have := (hG.pd b d g).pn; have := of_decide_eq_true c4; omega) hs.ext) (fun c4 => ?_)⟩
    replace c4 := of_decide_eq_false c4
    refine ⟨_, hs.rd 0 rfl rfl, sBn (fun c5 => RP.f (fun hG => by have := (hG.pd b d g).pf; omega) hs.ext) (fun c5 => ?_)⟩
    refine ⟨_, _, hs.at 0 rfl (o := 3) (n := 2) rfl, ?_⟩
    refine (goodGuard158 ds s d h69 (hd.ext hs.ext) (hdi.ext hs.ext)).mono ?_
    rintro _ h76 ⟨⟨b2, rfl, hb2⟩, E⟩
    have hs := hs.step E
    refine ⟨_, rfl, sB_intro (fun c6 => RP.f (fun hG => iff_f hb2 (bF c6) (hG.pd b d g).pg) hs.ext) (fun c6 => ?_)⟩
    refine ⟨_, hs.rd 0 rfl rfl, s.n - (b + 1), by omega, b + 1, by rw [w64 (by omega) (by omega)]; omega, by omega, rfl, hs.drop 1, ?_, fun j y hj hy => ?_⟩
    · have h1 : (allF (ds.take (b + 1))).length ≤ (allF ds).length := allF_take ds (b + 1)
      rw [List.take_add_one, g, Option.toList_some, allF_snoc, List.length_append] at h1 ⊢
      rw [w64 (by omega) (by omega)]; omega
    · by_cases e2 : j = b
      · subst e2; rw [g] at hy; cases hy
        exact ⟨hpp, by omega, by omega, hdup, hfl, hb2.1 (bT c6)⟩
      · exact hq j y (by omega) hy
end Go.VC
end

section
/- Contracts: the reference of validity: numbers, edges, time limits; each answers exactly. -/
namespace Go.VC
open Go.Proofs Go.LexS
set_option maxRecDepth 100000
theorem St.cut {h0 h : Heap} {L : List It} (hs : St h0 h L) (k : Nat) {s : Sl} {e : TypeId} {n : Nat} {rows : List (List Value)} (hk : L[k]? = some (.sl s e n rows)) (hn : 0 < n) (i : Nat) (hi : i ≤ s.n) :
    St h0 h (L.set k (.sl ⟨s.a, i, s.c⟩ e n (rows.take i))) := by
  have hget := hs.get hk
  have hln := (hs.rw k hk hn).1
  refine hs.turn hk (Nat.le_refl _) (j := .sl ⟨s.a, i, s.c⟩ e n (rows.take i)) ?_ (fun b hb => .inr hb) (fun _ _ _ => rfl)
  have hrl : ∀ r ∈ rows.take i, r.length = n := fun r hr => hget.2 r (List.mem_of_mem_take hr)
  have hfl : (rows.take i).flatten = rows.flatten.take (i * n) := by
    have h5 : rows = rows.take i ++ rows.drop i := (List.take_append_drop i rows).symm
    rw [congrArg List.flatten h5, List.flatten_append, List.take_append_of_le_length (by rw [flatten_len _ hrl, List.length_take, Nat.min_eq_left (by omega)]; exact Nat.le_refl _)]
    rw [List.take_of_length_le (l := (rows.take i).flatten) (by rw [flatten_len _ hrl, List.length_take, Nat.min_eq_left (by omega)]; exact Nat.le_refl _)]
  have hin : i * n ≤ s.n * n := Nat.mul_le_mul_right _ hi
  refine ⟨⟨by rw [flatten_len _ hrl, List.length_take]; show min i rows.length * n = i * n; rw [Nat.min_eq_left (by omega)], ?_⟩, hrl⟩
  rcases hget.1.2 with ⟨ha, h2, h3⟩ | ⟨g, cur, ha, hb0, hh, hnc, hcm, hsz, htk⟩
  · exact .inl ⟨ha, by show i = 0; omega, h3⟩
  · refine .inr ⟨g, cur, ha, hb0, hh, by show i ≤ s.c; omega, hcm, hsz, ?_⟩
    show cur.toList.take (i * n) = _
    rw [hfl, ← htk, List.take_take, Nat.min_eq_left hin]
theorem splice_set {xs : List Value} {i : Nat} {v : Value} (h : i < xs.length) : splice xs i [v] = xs.set i v := by
  unfold splice
  rw [List.set_eq_take_append_cons_drop, if_pos h]
  simp
theorem state114 (g : Gl) (p : Int) (h : Heap) : Fn Tryz.prog 114 #[g.v, .int .i64 p] h (RP (0 ≤ p ∧ p < g.n) h) := by
  apply vc114 (bs g.nm) g.hr g.hd g.n g.s g.e g.he g.ht; unfold W114
  refine (St.refl h).newb fun h9 hs => ?_
  refine sB_intro (fun c => ?_) (fun c => ?_)
  · refine ⟨_, hs.rd 0 rfl rfl, RP.e ?_ hs.ext⟩
    have := of_decide_eq_true c
    rw [decide_eq_true_eq]; omega
  · exact RP.f (by have := of_decide_eq_false c; omega) hs.ext
structure NumR (g : Gl) : Prop where
  n : 1 ≤ g.n ∧ g.n ≤ 200
  s : 0 ≤ g.s ∧ g.s < g.n
  e : 0 ≤ g.e ∧ g.e < g.n
  es : ∀ x ∈ g.es, 0 ≤ x.f ∧ x.f < g.n ∧ 0 ≤ x.t ∧ x.t < g.n
theorem NumS.R {g : Gl} (h : NumS g) : NumR g := ⟨⟨h.n.1, h.n.2.1⟩, ⟨h.n.2.2.1, h.n.2.2.2.2.1⟩, ⟨h.n.2.2.2.1, h.n.2.2.2.2.2⟩, fun x hx => by
  have := h.e x hx
  unfold EdS at this
  omega⟩
theorem numbers65 (g : Gl) (h : Heap) (hg : GI h g) : Fn Tryz.prog 65 #[g.v] h (RP (NumS g) h) := by
  apply vc65 (bs g.nm) g.hr g.hd g.n g.s g.e g.he g.ht; unfold W65
  have hen := hg.e.ln
  have hem := hg.e.sm
  have hrn := hg.r.ln
  have hdn := hg.d.r.ln
  refine (St.refl h).newb fun h9 hs => ?_
  refine up_loopS (n := g.he.n) hs (fun i => ∀ j x, j < i → g.es[j]? = some x → EdS g x) (fun j x hj => by omega) ?_
  rintro - i h14 hi ⟨hs, hq⟩
  refine ⟨_, hs.rd 0 rfl rfl, sB_intro (fun c => ?_) (fun c => ?_)⟩
  · replace c := lt_t c
    refine ⟨_, hs.rd 0 rfl rfl, ?_⟩
    refine (hg.e.rw.ext hs.ext).nbI (by omega) (by omega) fun b o x gx t => ?_
    replace gx : g.es[i]? = some x := gx
    refine ⟨_, _, _, _, _, _, t, ?_⟩
    refine hs.newput (vs := x.cs) rfl rfl fun h26 hs => ?_
    refine ⟨_, _, _, _, _, _, _, _, hs.at 1 rfl (o := 0) (n := 8) rfl, _, hs.rd 0 rfl rfl, ?_⟩
    refine (state114 g x.f h26).mono ?_
    rintro _ h38 ⟨⟨b1, rfl, hb1⟩, E⟩
    have hs := hs.step E
    refine ⟨_, rfl, sB_intro (fun c1 => RP.f (fun hG => by have := iff_f hb1 (bF c1); have := hG.e x (List.mem_of_getElem? gx); unfold EdS at this; omega) hs.ext) (fun c1 => ?_)⟩
    refine ⟨_, _, _, _, _, _, _, _, hs.at 1 rfl (o := 0) (n := 8) rfl, _, hs.rd 0 rfl rfl, ?_⟩
    refine (state114 g x.t h38).mono ?_
    rintro _ h50 ⟨⟨b2, rfl, hb2⟩, E⟩
    have hs := hs.step E
    refine ⟨_, rfl, sB_intro (fun c2 => RP.f (fun hG => by have := iff_f hb2 (bF c2); have := hG.e x (List.mem_of_getElem? gx); unfold EdS at this; omega) hs.ext) (fun c2 => ?_)⟩
    have f1 := hb1.1 (bT c1)
    have f2 := hb2.1 (bT c2)
    repeat' (first
          | (refine ⟨_, hs.rd 0 rfl rfl, ?_⟩)
          | (refine ⟨_, hs.rd 1 rfl rfl, ?_⟩)
          | (refine ⟨_, hs.rd 2 rfl rfl, ?_⟩)
          | (refine ⟨_, _, _, hs.at 0 rfl (o := 1) (n := 3) rfl, ?_⟩)
          | (refine ⟨_, _, _, hs.at 1 rfl (o := 1) (n := 3) rfl, ?_⟩)
          | (refine sBi (fun _ => ?_) (fun _ => ?_))
          | (refine sBe (fun _ => ?_) (fun _ => ?_))
          | (refine sBn (fun _ => ?_) (fun _ => ?_))
          | (refine sB_intro (fun _ => ?_) (fun _ => ?_)))
    all_goals first
      | exact RP.f (fun hG => by have := hG.e x (List.mem_of_getElem? gx); unfold EdS at this; omega) hs.ext
      | (refine Up.next c (by omega) ⟨hs.drop 1, fun j y hj hy => ?_⟩
         by_cases e : j = i
         · subst e; rw [gx] at hy; cases hy; unfold EdS; omega
         · exact hq j y (by omega) hy)
  · replace c := lt_f c
    refine ⟨_, hs.rd 0 rfl rfl, sB_intro (fun c1 => ?_) (fun c1 => RP.f (fun hG => by have := of_decide_eq_false c1; have := hG.n; omega) hs.ext)⟩
    refine ⟨_, hs.rd 0 rfl rfl, sB_intro (fun c2 => ?_) (fun c2 => RP.f (fun hG => by have := of_decide_eq_false c2; have := hG.n; omega) hs.ext)⟩
    refine ⟨_, _, _, _, _, _, _, _, hs.at 0 rfl (o := 0) (n := 8) rfl, _, hs.rd 0 rfl rfl, ?_⟩
    refine (state114 g g.s h14).mono ?_
    rintro _ h76 ⟨⟨b3, rfl, hb3⟩, E⟩
    have hs := hs.step E
    refine ⟨_, rfl, sB_intro (fun c3 => ?_) (fun c3 => RP.f (fun hG => by have := iff_f hb3 c3; have := hG.n; omega) hs.ext)⟩
    refine ⟨_, _, _, _, _, _, _, _, hs.at 0 rfl (o := 0) (n := 8) rfl, _, hs.rd 0 rfl rfl, ?_⟩
    refine (state114 g g.e h76).mono ?_
    rintro _ h88 ⟨⟨b4, rfl, hb4⟩, E⟩
    have hs := hs.step E
    refine ⟨_, rfl, sB_intro (fun c4 => ?_) (fun c4 => RP.f (fun hG => by have := iff_f hb4 c4; have := hG.n; omega) hs.ext)⟩
    have f1 := of_decide_eq_true c1
    have f2 := of_decide_eq_true c2
    have f3 := hb3.1 c3
    have f4 := hb4.1 c4
    refine ⟨_, hs.rd 0 rfl rfl, RP.e ⟨fun hb => ⟨by omega, by have := of_decide_eq_true hb; omega, fun x hx => ?_⟩, fun hG => decide_eq_true (by have := hG.m; omega)⟩ hs.ext⟩
    obtain ⟨j, hj⟩ := List.mem_iff_getElem?.1 hx
    exact hq j x (by have := (List.getElem?_eq_some_iff.1 hj).1; omega) hj
structure ApS (g : Gl) : Prop where
  s : ∀ x ∈ g.es, x.ag = true → x.f ≠ g.s
  p : ∀ i x, g.es[i]? = some x → ∀ k y, g.es[k]? = some y → ¬ PairBad i k x y
set_option maxHeartbeats 1600000 in
theorem apart66 (g : Gl) (h : Heap) (hg : GI h g) : Fn Tryz.prog 66 #[g.v] h (RP (ApS g) h) := by
  apply vc66 (bs g.nm) g.hr g.hd g.n g.s g.e g.he g.ht; unfold W66
  have hen := hg.e.ln
  have hem := hg.e.sm
  refine (St.refl h).newb fun h9 hs => ?_
  refine up_loopS (n := g.he.n) hs (fun i => ∀ (j : Nat) (x : Ed), j < i → g.es[j]? = some x → (x.ag = true → x.f ≠ g.s) ∧ ∀ k y, g.es[k]? = some y → ¬ PairBad j k x y) (fun j y hj => by omega) ?_
  rintro - i h14 hi ⟨hs, hq⟩
  refine ⟨_, hs.rd 0 rfl rfl, sB_intro (fun c => ?_) (fun c => RP.t ⟨fun x hx => ?_, fun j x hx => ?_⟩ hs.ext)⟩
  · replace c := lt_t c
    refine ⟨_, hs.rd 0 rfl rfl, ?_⟩
    refine (hg.e.rw.ext hs.ext).nbI (by omega) (by omega) fun b o x gx t => ?_
    replace gx : g.es[i]? = some x := gx
    refine ⟨_, _, _, _, _, _, t, ?_⟩
    refine hs.newput (vs := x.cs) rfl rfl fun h26 hs => ?_
    refine ⟨_, hs.rd 0 rfl rfl, sB_intro (fun cg => ?_) (fun cg => ?_)⟩
    · refine ⟨_, hs.rd 0 rfl rfl, _, hs.rd 1 rfl rfl, sBe (fun cs => RP.f (fun hG => hG.s x (List.mem_of_getElem? gx) cg cs) hs.ext) (fun cs => ?_)⟩
      refine up_loopS (n := g.he.n) hs (fun k => ∀ (j : Nat) (y : Ed), j < k → g.es[j]? = some y → ¬ PairBad i j x y) (fun j y hj => by omega) ?_
      rintro - k h34 hk ⟨hs, hq2⟩
      refine ⟨_, hs.rd 1 rfl rfl, sB_intro (fun c2 => ?_) (fun c2 => ?_)⟩
      · replace c2 := lt_t c2
        refine ⟨_, hs.rd 1 rfl rfl, ?_⟩
        refine (hg.e.rw.ext hs.ext).nbI (by omega) (by omega) fun b o y gy ty => ?_
        replace gy : g.es[k]? = some y := gy
        refine ⟨_, _, _, _, _, _, ty, ?_⟩
        refine hs.newput (vs := y.cs) rfl rfl fun h46 hs => ?_
        repeat' (first
              | (refine ⟨_, hs.rd 0 rfl rfl, ?_⟩)
              | (refine ⟨_, hs.rd 1 rfl rfl, ?_⟩)
              | (refine ⟨_, hs.rd 2 rfl rfl, ?_⟩)
              | (refine ⟨_, _, _, hs.at 0 rfl (o := 1) (n := 3) rfl, ?_⟩)
              | (refine ⟨_, _, _, hs.at 1 rfl (o := 1) (n := 3) rfl, ?_⟩)
              | (refine sBi (fun _ => ?_) (fun _ => ?_))
              | (refine sBe (fun _ => ?_) (fun _ => ?_))
              | (refine sBn (fun _ => ?_) (fun _ => ?_))
              | (refine sB_intro (fun _ => ?_) (fun _ => ?_)))
        all_goals first
          | (refine RP.f (fun hG => hG.p i x gx k y gy ?_) hs.ext; clear hq hq2 hs hg t ty; unfold PairBad; grind)
          | (refine Up.next c2 (by omega) ⟨hs.drop 1, fun j z hj hz => ?_⟩
             by_cases e : j = k
             · subst e; rw [gy] at hz; cases hz; clear hq hq2 hs hg t ty; unfold PairBad; grind
             · exact hq2 j z (by omega) hz)
      · replace c2 : g.he.n ≤ k := by have := of_decide_eq_false c2; omega
        refine Up.next c (by omega) ⟨hs.drop 1, fun j z hj hz => ?_⟩
        by_cases e : j = i
        · subst e; rw [gx] at hz; cases hz
          exact ⟨by grind, fun k' y' hy' => hq2 k' y' (by have := (List.getElem?_eq_some_iff.1 hy').1; omega) hy'⟩
        · exact hq j z (by omega) hz
    · refine up_loopS (n := g.he.n) hs (fun k => ∀ (j : Nat) (y : Ed), j < k → g.es[j]? = some y → ¬ PairBad i j x y) (fun j y hj => by omega) ?_
      rintro - k h34 hk ⟨hs, hq2⟩
      refine ⟨_, hs.rd 1 rfl rfl, sB_intro (fun c2 => ?_) (fun c2 => ?_)⟩
      · replace c2 := lt_t c2
        refine ⟨_, hs.rd 1 rfl rfl, ?_⟩
        refine (hg.e.rw.ext hs.ext).nbI (by omega) (by omega) fun b o y gy ty => ?_
        replace gy : g.es[k]? = some y := gy
        refine ⟨_, _, _, _, _, _, ty, ?_⟩
        refine hs.newput (vs := y.cs) rfl rfl fun h46 hs => ?_
        repeat' (first
              | (refine ⟨_, hs.rd 0 rfl rfl, ?_⟩)
              | (refine ⟨_, hs.rd 1 rfl rfl, ?_⟩)
              | (refine ⟨_, hs.rd 2 rfl rfl, ?_⟩)
              | (refine ⟨_, _, _, hs.at 0 rfl (o := 1) (n := 3) rfl, ?_⟩)
              | (refine ⟨_, _, _, hs.at 1 rfl (o := 1) (n := 3) rfl, ?_⟩)
              | (refine sBi (fun _ => ?_) (fun _ => ?_))
              | (refine sBe (fun _ => ?_) (fun _ => ?_))
              | (refine sBn (fun _ => ?_) (fun _ => ?_))
              | (refine sB_intro (fun _ => ?_) (fun _ => ?_)))
        all_goals first
          | (refine RP.f (fun hG => hG.p i x gx k y gy ?_) hs.ext; clear hq hq2 hs hg t ty; unfold PairBad; grind)
          | (refine Up.next c2 (by omega) ⟨hs.drop 1, fun j z hj hz => ?_⟩
             by_cases e : j = k
             · subst e; rw [gy] at hz; cases hz; clear hq hq2 hs hg t ty; unfold PairBad; grind
             · exact hq2 j z (by omega) hz)
      · replace c2 : g.he.n ≤ k := by have := of_decide_eq_false c2; omega
        refine Up.next c (by omega) ⟨hs.drop 1, fun j z hj hz => ?_⟩
        by_cases e : j = i
        · subst e; rw [gx] at hz; cases hz
          exact ⟨by grind, fun k' y' hy' => hq2 k' y' (by have := (List.getElem?_eq_some_iff.1 hy').1; omega) hy'⟩
        · exact hq j z (by omega) hz
  · obtain ⟨j, hj⟩ := List.mem_iff_getElem?.1 hx
    exact (hq j x (by have := lt_f c; have := (List.getElem?_eq_some_iff.1 hj).1; omega) hj).1
  · exact (hq j x (by have := lt_f c; have := (List.getElem?_eq_some_iff.1 hx).1; omega) hx).2
theorem timed68 (g : Gl) (h : Heap) (hg : GI h g) (hN : NumS g) : Fn Tryz.prog 68 #[g.v] h (RP (TimS g) h) := by
  apply vc68 (bs g.nm) g.hr g.hd g.n g.s g.e g.he g.ht; unfold W68
  have hen := hg.e.ln
  have hem := hg.e.sm
  have htn := hg.t.ln
  have htm := hg.t.sm
  refine (St.refl h).newb fun h9 hs => ?_
  refine up_loopS (n := g.ht.n) hs (fun i => ∀ (j : Nat) (x : To), j < i → g.ts[j]? = some x → TmS g j x) (fun j y hj => by omega) ?_
  rintro - i h14 hi ⟨hs, hq⟩
  refine ⟨_, hs.rd 0 rfl rfl, sB_intro (fun c => ?_) (fun c => RP.t (fun j x hx => hq j x (by have := lt_f c; have := (List.getElem?_eq_some_iff.1 hx).1; omega) hx) hs.ext)⟩
  replace c := lt_t c
  refine ⟨_, hs.rd 0 rfl rfl, ?_⟩
  refine (hg.t.rw.ext hs.ext).nbI (by omega) (by omega) fun b o x gx t => ?_
  replace gx : g.ts[i]? = some x := gx
  have no : ∀ {q : Prop}, (TmS g i x → q) → TimS g → q := fun f hT => f (hT i x gx)
  refine ⟨_, _, _, t, ?_⟩
  refine hs.newput (vs := x.cs) rfl rfl fun h23 hs => ?_
  refine ⟨_, _, _, _, _, _, _, _, hs.at 1 rfl (o := 0) (n := 8) rfl, _, hs.rd 0 rfl rfl, ?_⟩
  refine (state114 g x.s h23).mono ?_
  rintro _ h35 ⟨⟨b1, rfl, hb1⟩, E⟩
  have hs := hs.step E
  refine ⟨_, rfl, sB_intro (fun c1 => RP.f (no fun hT => ?_) hs.ext) (fun c1 => ?_)⟩
  · obtain ⟨_, y, hy, hf, _⟩ := hT.e
    have := iff_f hb1 (bF c1)
    have := hN.R.es y (List.mem_of_getElem? hy)
    omega
  have f1 := hb1.1 (bT c1)
  refine sBi (fun c2 => ?_) (fun c2 => ?_)
  · have hw : IntKind.wrap .i64 ((i : Int) - 1) = ((i - 1 : Nat) : Int) := by rw [w64 (by omega) (by omega)]; omega
    refine ⟨_, hs.rd 0 rfl rfl, _, hs.rd 1 rfl rfl, ?_⟩
    rw [hw]
    refine (hg.t.rw.ext hs.ext).nbI (by omega) (by omega) fun b o z gz tz => ?_
    replace gz : g.ts[i - 1]? = some z := gz
    have hl : lastS g.ts i = z.s := by unfold lastS; rw [if_neg (by omega), gz]
    refine ⟨_, tz.nth 0 rfl, sBi (fun d0 => RP.f (no fun hT => by have := hT.o; omega) hs.ext) (fun d0 => ?_)⟩
    have ho : lastS g.ts i < x.s := by omega
    refine ⟨_, hs.rd 0 rfl rfl, sBi (fun d1 => RP.f (no fun hT => by have := hT.k; omega) hs.ext) (fun d1 => ?_)⟩
    refine ⟨_, hs.rd 0 rfl rfl, sBi (fun d2 => RP.f (no fun hT => by have := hT.k; omega) hs.ext) (fun d2 => ?_)⟩
    refine ⟨_, hs.rd 0 rfl rfl, sBi (fun d3 => RP.f (no fun hT => by have := hT.e.1; omega) hs.ext) (fun d3 => ?_)⟩
    refine ⟨_, hs.rd 0 rfl rfl, _, hs.rd 1 rfl rfl, sBi (fun d4 => RP.f (no fun hT => by obtain ⟨_, y, hy, _⟩ := hT.e; have := (List.getElem?_eq_some_iff.1 hy).1; omega) hs.ext) (fun d4 => ?_)⟩
    refine ⟨_, hs.rd 1 rfl rfl, _, hs.rd 0 rfl rfl, ?_⟩
    refine (hg.e.rw.ext hs.ext).nbI (by omega) (by omega) fun b o y gy ty => ?_
    refine ⟨_, ty.nth 0 rfl, _, hs.rd 0 rfl rfl, sBn (fun d5 => RP.f (no fun hT => by obtain ⟨_, z, hz, hf, _⟩ := hT.e; rw [gy] at hz; cases hz; omega) hs.ext) (fun d5 => ⟨_, hs.rd 1 rfl rfl, _, hs.rd 0 rfl rfl, ?_⟩)⟩
    refine (hg.e.rw.ext hs.ext).nbI (by omega) (by omega) fun b o y2 gy2 ty => ?_
    rw [gy] at gy2; cases gy2
    refine ⟨_, ty.nth 5 rfl, sB_intro (fun d6 => RP.f (no fun hT => by obtain ⟨_, z, hz, _, hf⟩ := hT.e; rw [gy] at hz; cases hz; rw [hf] at d6; cases d6) hs.ext) (fun d6 => ?_)⟩
    refine Up.next c (by omega) ⟨hs.drop 1, fun j z hj hz => ?_⟩
    by_cases e : j = i
    · subst e; rw [gx] at hz; cases hz
      exact ⟨ho, by omega, by omega, y, gy, by omega, d6⟩
    · exact hq j z (by omega) hz
  · have ho : lastS g.ts i < x.s := by unfold lastS; rw [if_pos (by omega)]; omega
    refine ⟨_, hs.rd 0 rfl rfl, sBi (fun d1 => RP.f (no fun hT => by have := hT.k; omega) hs.ext) (fun d1 => ?_)⟩
    refine ⟨_, hs.rd 0 rfl rfl, sBi (fun d2 => RP.f (no fun hT => by have := hT.k; omega) hs.ext) (fun d2 => ?_)⟩
    refine ⟨_, hs.rd 0 rfl rfl, sBi (fun d3 => RP.f (no fun hT => by have := hT.e.1; omega) hs.ext) (fun d3 => ?_)⟩
    refine ⟨_, hs.rd 0 rfl rfl, _, hs.rd 1 rfl rfl, sBi (fun d4 => RP.f (no fun hT => by obtain ⟨_, y, hy, _⟩ := hT.e; have := (List.getElem?_eq_some_iff.1 hy).1; omega) hs.ext) (fun d4 => ?_)⟩
    refine ⟨_, hs.rd 1 rfl rfl, _, hs.rd 0 rfl rfl, ?_⟩
    refine (hg.e.rw.ext hs.ext).nbI (by omega) (by omega) fun b o y gy ty => ?_
    refine ⟨_, ty.nth 0 rfl, _, hs.rd 0 rfl rfl, sBn (fun d5 => RP.f (no fun hT => by obtain ⟨_, z, hz, hf, _⟩ := hT.e; rw [gy] at hz; cases hz; omega) hs.ext) (fun d5 => ⟨_, hs.rd 1 rfl rfl, _, hs.rd 0 rfl rfl, ?_⟩)⟩
    refine (hg.e.rw.ext hs.ext).nbI (by omega) (by omega) fun b o y2 gy2 ty => ?_
    rw [gy] at gy2; cases gy2
    refine ⟨_, ty.nth 5 rfl, sB_intro (fun d6 => RP.f (no fun hT => by obtain ⟨_, z, hz, _, hf⟩ := hT.e; rw [gy] at hz; cases hz; rw [hf] at d6; cases d6) hs.ext) (fun d6 => ?_)⟩
    refine Up.next c (by omega) ⟨hs.drop 1, fun j z hj hz => ?_⟩
    by_cases e : j = i
    · subst e; rw [gx] at hz; cases hz
      exact ⟨ho, by omega, by omega, y, gy, by omega, d6⟩
    · exact hq j z (by omega) hz
end Go.VC
end

section
/- Contracts: the reference of validity: edges of a state, distances, reach, names; Valid, Good, small. -/
namespace Go.VC
open Go.Proofs Go.LexS
set_option maxRecDepth 100000
theorem smx {al : List Addr} {h h' : Heap} (E : Ext h h') : Sm al h h' := fun _ _ _ _ hv => hc_ext E hv
theorem Sm_but {al : List Addr} {h h' : Heap} {b : Nat} (hB : But b h h') (hn : ∀ a ∈ al, a.block ≠ b) : Sm al h h' := fun a ha k v hv => by
  rw [hc_of_block (hB.2 _ (by rw [addk_block']; exact hn a ha))]; exact hv
theorem before159 (g : Gl) (p q : Int) (h : Heap) (hg : GI h g) (hp0 : 0 ≤ p) (hp1 : p < g.es.length) (hq0 : 0 ≤ q) (hq1 : q < g.es.length) : Fn Tryz.prog 159 #[g.v, .int .i64 p, .int .i64 q] h (RBo h) := by
  apply vc159 (bs g.nm) g.hr g.hd g.n g.s g.e g.he g.ht; unfold W159
  have hen := hg.e.ln
  refine (St.refl h).newb fun h9 hs => ?_
  have hrw := hg.e.rw.ext hs.ext
  have hsz : h.size < h9.size := hc_blk (hs.rd 0 rfl (i := 0) rfl)
  refine ⟨_, hs.rd 0 rfl rfl, ?_⟩
  refine hrw.nbI (by omega) (by omega) fun b1 o1 x _ t1 => ?_
  refine ⟨_, _, _, t1.sub 1 3 rfl, _, hs.rd 0 rfl rfl, ?_⟩
  refine hrw.nbI (by omega) (by omega) fun b2 o2 y _ t2 => ?_
  have hb2 : b2 < h9.size := hc_blk t2.hd
  refine ⟨_, _, _, t2.sub 1 3 rfl, ?_, ?_⟩
  · intro h22 e22
    have E22 : Ext h9 h22 := by rw [e22]; exact Ext.push _ _
    refine ⟨smx E22, ?_⟩
    have hs : St h h22 [.blk h9.size [.int .i64 0, .int .i64 0, .int .i64 0] 53, .blk h.size g.cs 27] := hs.newb (K := fun h22 => St h h22 [.blk h9.size [.int .i64 0, .int .i64 0, .int .i64 0] 53, .blk h.size g.cs 27]) (fun _ hs => hs) h22 e22
    intro h23 e23
    have E23 : Ext h22 h23 := by rw [e23]; exact Ext.push _ _
    refine ⟨smx E23, ?_⟩
    have hs : St h h23 [.blk h22.size [.int .i64 0, .int .i64 0, .int .i64 0] 53, .blk h9.size [.int .i64 0, .int .i64 0, .int .i64 0] 53, .blk h.size g.cs 27] := hs.newb (K := fun h23 => St h h23 [.blk h22.size [.int .i64 0, .int .i64 0, .int .i64 0] 53, .blk h9.size [.int .i64 0, .int .i64 0, .int .i64 0] 53, .blk h.size g.cs 27]) (fun _ hs => hs) h23 e23
    obtain ⟨k1, k2⟩ := hs.put (K := fun h' => St h h' [.blk h22.size [.int .i64 0, .int .i64 0, .int .i64 0] 53, .blk h9.size [.int .i64 x.a, .int .i64 x.b, .int .i64 x.l] 53, .blk h.size g.cs 27]) 1 rfl (o := 0) (vs := [.int .i64 x.a, .int .i64 x.b, .int .i64 x.l]) (n := 3) rfl (show 3 ≤ 3 by decide) (fun h' hs => hs)
    refine ⟨k1, fun h24 e24 => ?_⟩
    have hs := k2 h24 e24
    have hB : But h9.size h23 h24 := by rw [e24]; exact But.hputs (a := ⟨h9.size, 0, none⟩) _ _ _
    refine ⟨Sm_but hB (fun a ha => ?_), ?_⟩
    · simp only [List.mem_cons, List.not_mem_nil, or_false] at ha
      rcases ha with rfl | rfl
      · show b2 ≠ h9.size; omega
      · show h.size ≠ h9.size; omega
    refine hs.put 0 rfl (o := 0) (vs := [.int .i64 y.a, .int .i64 y.b, .int .i64 y.l]) rfl (show 3 ≤ 3 by decide) fun h25 hs => ?_
    repeat' (first
        | exact .mk hs.ext
        | (refine sB_intro (fun _ => ?_) (fun _ => ?_))
        | (refine ⟨_, hs.rd 0 rfl rfl, ?_⟩)
        | (refine ⟨_, hs.rd 1 rfl rfl, ?_⟩))
  · intro h34 e34
    have E34 : Ext h9 h34 := by rw [e34]; exact Ext.push _ _
    refine ⟨smx E34, ?_⟩
    have hs : St h h34 [.blk h9.size [.int .i64 0, .int .i64 0, .int .i64 0] 53, .blk h.size g.cs 27] := hs.newb (K := fun h34 => St h h34 [.blk h9.size [.int .i64 0, .int .i64 0, .int .i64 0] 53, .blk h.size g.cs 27]) (fun _ hs => hs) h34 e34
    intro h35 e35
    have E35 : Ext h34 h35 := by rw [e35]; exact Ext.push _ _
    refine ⟨smx E35, ?_⟩
    have hsz34 : h9.size < h34.size := by rw [e34]; simp
    have hs : St h h35 [.blk h34.size [.int .i64 0, .int .i64 0, .int .i64 0] 53, .blk h9.size [.int .i64 0, .int .i64 0, .int .i64 0] 53, .blk h.size g.cs 27] := hs.newb (K := fun h35 => St h h35 [.blk h34.size [.int .i64 0, .int .i64 0, .int .i64 0] 53, .blk h9.size [.int .i64 0, .int .i64 0, .int .i64 0] 53, .blk h.size g.cs 27]) (fun _ hs => hs) h35 e35
    obtain ⟨k1, k2⟩ := hs.put (K := fun h' => St h h' [.blk h34.size [.int .i64 x.a, .int .i64 x.b, .int .i64 x.l] 53, .blk h9.size [.int .i64 0, .int .i64 0, .int .i64 0] 53, .blk h.size g.cs 27]) 0 rfl (o := 0) (vs := [.int .i64 x.a, .int .i64 x.b, .int .i64 x.l]) (n := 3) rfl (show 3 ≤ 3 by decide) (fun h' hs => hs)
    refine ⟨k1, fun h36 e36 => ?_⟩
    have hs := k2 h36 e36
    have hB : But h34.size h35 h36 := by rw [e36]; exact But.hputs (a := ⟨h34.size, 0, none⟩) _ _ _
    refine ⟨Sm_but hB (fun a ha => ?_), ?_⟩
    · simp only [List.mem_cons, List.not_mem_nil, or_false] at ha
      rcases ha with rfl | rfl
      · show b2 ≠ h34.size; omega
      · show h.size ≠ h34.size; omega
    refine hs.put 1 rfl (o := 0) (vs := [.int .i64 y.a, .int .i64 y.b, .int .i64 y.l]) rfl (show 3 ≤ 3 by decide) fun h37 hs => ?_
    repeat' (first
        | exact .mk hs.ext
        | (refine sB_intro (fun _ => ?_) (fun _ => ?_))
        | (refine ⟨_, hs.rd 0 rfl rfl, ?_⟩)
        | (refine ⟨_, hs.rd 1 rfl rfl, ?_⟩))
theorem intrw {h : Heap} {s : Sl} {L : List Int} (hr : Rw h 1 s (L.map inC)) (hc : s.n ≤ s.c) {i : Nat} (hi : i ≤ s.n) : Rw h 1 ⟨subA s.a i s.c 1, s.n - i, s.c - i⟩ ((L.drop i).map inC) := by
  have hn := hr.ln
  rw [List.map_drop]
  by_cases h0 : i = s.n
  · rw [List.drop_eq_nil_of_le (by rw [List.length_map]; omega)]
    exact Rw.empty (by show s.n - i = 0; omega)
  · exact hr.from hc (by omega)
theorem subA_nil {s : Sl} {i : Nat} (hna : s.a = none → s.n = 0 ∧ s.c = 0) (h : subA s.a i s.c 1 = none) : s.n - i = 0 ∧ s.c - i = 0 := by
  unfold subA at h
  split at h
  · have := hna h; omega
  · cases ha : s.a with
    | none => have := hna ha; omega
    | some a => rw [ha] at h; cases h
def LOk (g : Gl) (p : Int) (i : Nat) (L : List Int) : Prop := (∀ y ∈ L, 0 ≤ y ∧ y < g.es.length) ∧ (L = [] ↔ ∀ (j : Nat) (x : Ed), j < i → g.es[j]? = some x → x.f ≠ p)
theorem edges116 (g : Gl) (p : Int) (h : Heap) (hg : GI h g) : Fn Tryz.prog 116 #[g.v, .int .i64 p] h fun v h' => (∃ s : Sl, v = .slice s.a s.n s.c ∧ (s.n = 0 ↔ ∀ x ∈ g.es, x.f ≠ p)) ∧ Ext h h' := by
  apply vc116 (bs g.nm) g.hr g.hd g.n g.s g.e g.he g.ht; unfold W116
  have hen := hg.e.ln
  have hem := hg.e.sm
  refine (St.refl h).newb fun h9 hs => ?_
  have hs := hs.nil_ 3 1
  refine ⟨fun out x h' m => ∃ (i : Nat) (L : List Int), x = i ∧ i ≤ g.he.n ∧ m = g.he.n - i ∧ L.length ≤ i ∧ LOk g p i L ∧ St h h' [.sl out 3 1 (L.map inC), .blk h.size g.cs 27],
    ⟨_, 0, [], rfl, by omega, rfl, Nat.le_refl _, ⟨(fun y hy => by cases hy), iff_of_true rfl fun j x hj => by omega⟩, hs⟩, ?_⟩
  rintro - out _ h15 m ⟨i, L, rfl, hi, rfl, hLl, hL, hs⟩
  refine ⟨_, hs.rd 1 rfl rfl, sB_intro (fun c => ?_) (fun c => ⟨⟨_, rfl, ?_⟩, hs.ext⟩)⟩
  rotate_left
  · replace c := lt_f c
    have hol := hs.len 0 rfl (by omega)
    rw [List.length_map] at hol
    have hLe : out.n = 0 ↔ L = [] := by rw [← List.length_eq_zero_iff]; omega
    rw [hLe, hL.2]
    exact ⟨fun hq x hx => by obtain ⟨j, hj⟩ := List.mem_iff_getElem?.1 hx; exact hq j x (by have := (List.getElem?_eq_some_iff.1 hj).1; omega) hj, fun hq j x _ hj => hq x (List.mem_of_getElem? hj)⟩
  replace c := lt_t c
  refine ⟨_, hs.rd 1 rfl rfl, ?_⟩
  refine (hg.e.rw.ext hs.ext).nbI (by omega) (by omega) fun b18 o19 x gx t => ?_
  replace gx : g.es[i]? = some x := gx
  refine ⟨_, t.nth 0 rfl, sBn (fun cf => ?_) (fun cf => ?_)⟩
  · refine ⟨_, by omega, i + 1, L, by rw [w64 (by omega) (by omega)]; omega, by omega, rfl, by omega, ⟨hL.1, hL.2.trans ⟨fun hq j y hj hy => ?_, fun hq j y hj hy => hq j y (by omega) hy⟩⟩, hs⟩
    by_cases e : j = i
    · subst e; rw [gx] at hy; cases hy; exact cf
    · exact hq j y (by omega) hy
  have hol := hs.len 0 rfl (by omega)
  rw [List.length_map] at hol
  have ins : ∀ (a : Nat) (h40 : Heap), a ≤ out.n → St h h40 [.sl out 3 1 (L.map inC), .blk h.size g.cs 27] → ∀ h42 : Heap, h42 = h40.push (.cells ⟨[.int .i64 i]⟩ 3) →
      App Tryz.prog 42 42 (.slice (some ⟨h40.size, 0, none⟩) 1 1) (.slice (subA out.a a out.c 1) (out.n - a) (out.c - a)) h42 fun s43 h44 =>
        App Tryz.prog 42 42 (.slice out.a a out.c) (.slice s43.a s43.n s43.c) h44 fun s45 h46 => ∃ m47, m47 < g.he.n - i ∧ (∃ (i' : Nat) (L : List Int), IntKind.wrap .i64 ((i : Int) + 1) = i' ∧ i' ≤ g.he.n ∧ m47 = g.he.n - i' ∧ L.length ≤ i' ∧ LOk g p i' L ∧ St h h46 [.sl s45 3 1 (L.map inC), .blk h.size g.cs 27]) := by
    intro a h40 ha hs
    refine hs.newb fun h42 hs => ?_
    have hs2 := hs.blkS 1 1 ([(i : Int)].map inC) rfl (inrows _) rfl (by decide)
    refine hs2.appRw 0 rfl app42 (y := ⟨subA out.a a out.c 1, out.n - a, out.c - a⟩) (intrw (hs2.rows 1 rfl (by omega)) hol.2.1 ha) (inrows _) (fun hn => subA_nil hol.2.2 hn) (by rw [List.all_eq_true]; intro v hv; obtain ⟨r, hr, hv2⟩ := List.mem_flatten.1 hv; obtain ⟨z, _, rfl⟩ := List.mem_map.1 hr; rw [List.mem_singleton.1 hv2]; rfl) (by show (1 + (out.n - a)) * 8 ≤ _; omega) (by show 1 + (out.n - a) ≤ 9223372036854775807; omega) fun s43 h44 hn43 hs => ?_
    replace hs : St h h44 [.sl s43 3 1 (((i : Int) :: L.drop a).map inC), .sl out 3 1 (L.map inC), .blk h.size g.cs 27] := hs
    have hcut := hs.cut 1 rfl (by omega) a ha
    rw [← List.map_take] at hcut
    replace hcut : St h h44 [.sl s43 3 1 (((i : Int) :: L.drop a).map inC), .sl ⟨out.a, a, out.c⟩ 3 1 ((L.take a).map inC), .blk h.size g.cs 27] := hcut
    have h43 := hcut.len 0 rfl (by omega)
    refine hcut.appRw 1 rfl app42 (hcut.rows 0 rfl (by omega)) (inrows _) h43.2.2 (by rw [List.all_eq_true]; intro v hv; obtain ⟨r, hr, hv2⟩ := List.mem_flatten.1 hv; obtain ⟨z, _, rfl⟩ := List.mem_map.1 hr; rw [List.mem_singleton.1 hv2]; rfl) (by show (a + s43.n) * 8 ≤ _; rw [hn43]; show (a + (1 + (out.n - a))) * 8 ≤ _; omega) (by show a + s43.n ≤ 9223372036854775807; rw [hn43]; show a + (1 + (out.n - a)) ≤ _; omega) fun s45 h46 hn45 hs => ?_
    replace hs : St h h46 [.sl s43 3 1 (((i : Int) :: L.drop a).map inC), .sl s45 3 1 ((L.take a).map inC ++ ((i : Int) :: L.drop a).map inC), .blk h.size g.cs 27] := hs
    rw [← List.map_append] at hs
    refine ⟨g.he.n - (i + 1), by omega, i + 1, L.take a ++ ((i : Int) :: L.drop a), by rw [w64 (by omega) (by omega)]; omega, by omega, rfl, ?_, ⟨fun y hy => ?_, iff_of_false (by simp) fun hq => hq i x (by omega) gx cf⟩, hs.drop 1⟩
    · rw [List.length_append, List.length_cons, List.length_take, List.length_drop]; omega
    · rcases List.mem_append.1 hy with hy | hy
      · exact hL.1 y (List.mem_of_mem_take hy)
      · rcases List.mem_cons.1 hy with rfl | hy
        · omega
        · exact hL.1 y (List.mem_of_mem_drop hy)
  refine up_loopS (n := out.n) hs (fun _ => True) trivial ?_
  rintro - a h26 ha ⟨hs, -⟩
  have ht1 : Int.toNat ((a : Nat) : Int) = a := by simp
  have ht2 : Int.toNat ((out.n : Nat) : Int) = out.n := by simp
  refine sB_intro (fun c1 => ?_) (fun c1 => ?_)
  · replace c1 := lt_t c1
    refine ⟨_, _, _, _, _, _, _, _, hs.at 1 rfl (o := 0) (n := 8) rfl, ?_⟩
    refine (hs.rows 0 rfl (by omega)).nbI (by omega) (by omega) fun b35 o36 y gy ty => ?_
    have hy := hL.1 y (List.mem_of_getElem? gy)
    refine ⟨_, ty.nth 0 rfl, ?_⟩
    refine (before159 g y i h26 (hg.ext hs.ext) hy.1 hy.2 (by omega) (by omega)).mono ?_
    rintro _ h40 ⟨⟨bb, rfl⟩, E⟩
    have hs := hs.step E
    refine ⟨_, rfl, sB_intro (fun _ => Up.next c1 (by omega) ⟨hs, trivial⟩) (fun _ => ?_)⟩
    refine ⟨⟨by omega, by omega, by omega⟩, ⟨by omega, by omega, by omega⟩, ?_⟩
    rw [ht1, ht2, show Int.toNat 0 = 0 from rfl, subA_zero, Nat.sub_zero, Nat.sub_zero]
    exact ins a h40 (by omega) hs
  · replace c1 := lt_f c1
    refine ⟨⟨by omega, by omega, by omega⟩, ⟨by omega, by omega, by omega⟩, ?_⟩
    rw [ht1, ht2, show Int.toNat 0 = 0 from rfl, subA_zero, Nat.sub_zero, Nat.sub_zero]
    exact ins a h26 (by omega) hs
end Go.VC
end

section
/- Distances and reach by rounds, on lists. No program here. -/
namespace Go.VC
structure EN (es : List Ed) (e : Int) (N n : Nat) (D : List Int) : Prop where
  len : D.length = N
  src : Vis D e
  r : ∀ v, Vis D v → Rch es true e v
  b : ∀ d ∈ D, -1 ≤ d ∧ d + D.count (-1) ≤ (N : Int) - 1
  c : ∀ x ∈ es, ∀ d, 0 ≤ x.t → D[x.t.toNat]? = some d → 0 ≤ d → d < n → Vis D x.f
def ENk (es : List Ed) (n k : Nat) (D : List Int) : Prop := ∀ (j : Nat) (y : Ed), j < k → es[j]? = some y → 0 ≤ y.t → D[y.t.toNat]? = some (n : Int) → Vis D y.f
theorem count_rep (N : Nat) : (List.replicate N (-1 : Int)).count (-1) = N := by rw [List.count_replicate, if_pos (by simp)]
theorem EN.start {es : List Ed} {e : Int} {N : Nat} (h0 : 0 ≤ e) (h1 : e < N) : EN es e N 0 ((List.replicate N (-1 : Int)).set e.toNat 0) := by
  have hl : e < (List.replicate N (-1 : Int)).length := by rw [List.length_replicate]; exact h1
  have hv : ∀ v, Vis ((List.replicate N (-1 : Int)).set e.toNat 0) v ↔ v = e := fun v => by
    rw [vis_set h0 hl (by omega)]
    refine ⟨fun h => h.elim id fun h => ?_, .inl⟩
    obtain ⟨_, d, hd, h2⟩ := h
    have := List.eq_of_mem_replicate (List.mem_of_getElem? hd)
    omega
  have hc : ((List.replicate N (-1 : Int)).set e.toNat 0).count (-1) + 1 = N := by
    rw [List.count_set (by rw [List.length_replicate]; omega), count_rep, List.getElem_replicate]
    simp; omega
  refine ⟨by rw [List.length_set, List.length_replicate], (hv e).2 rfl, fun v h => ?_, fun d hd => ?_, fun x _ d _ _ hd0 hd1 => by omega⟩
  · rw [(hv v).1 h]; exact .refl
  · rcases List.mem_or_eq_of_mem_set hd with hd | rfl
    · rw [List.eq_of_mem_replicate hd]; omega
    · omega
theorem EN.set {es : List Ed} {e : Int} {N n k : Nat} {D : List Int} (h : EN es e N n D) (hk : ENk es n k D) {x : Ed} (hx : es[k]? = some x) {d : Int} (ht0 : 0 ≤ x.t) (ht : D[x.t.toNat]? = some (n : Int)) (hf0 : 0 ≤ x.f) (hf : D[x.f.toNat]? = some d) (hd : d < 0) :
    EN es e N n (D.set x.f.toNat (n + 1)) ∧ ENk es n (k + 1) (D.set x.f.toNat (n + 1)) := by
  have hfl := (List.getElem?_eq_some_iff.1 hf).1
  have hfe := (List.getElem?_eq_some_iff.1 hf).2
  have hd1 : d = -1 := by have := (h.b d (List.mem_of_getElem? hf)).1; omega
  subst hd1
  have hvs : ∀ v, Vis (D.set x.f.toNat (n + 1)) v ↔ v = x.f ∨ Vis D v := fun v => vis_set hf0 (by omega) (by omega)
  have hpos : 0 < D.count (-1) := List.count_pos_iff.2 (List.mem_of_getElem? hf)
  have hcnt : (D.set x.f.toNat ((n : Int) + 1)).count (-1) + 1 = D.count (-1) := by
    rw [List.count_set hfl, hfe]
    have : (((n : Int) + 1) == (-1 : Int)) = false := by simp; omega
    rw [this]
    simp; omega
  have hub := (h.b n (List.mem_of_getElem? ht)).2
  have hne : ∀ {y : Int} {d : Int}, 0 ≤ y → (D.set x.f.toNat ((n : Int) + 1))[y.toNat]? = some d → d ≤ n → D[y.toNat]? = some d := fun {y d} hy hg hle => by
    by_cases e : y.toNat = x.f.toNat
    · rw [e, List.getElem?_set_self hfl] at hg; cases hg; omega
    · rwa [List.getElem?_set_ne (by omega)] at hg
  refine ⟨⟨by rw [List.length_set]; exact h.len, (hvs e).2 (.inr h.src), fun v hv => ?_, fun d hd => ?_, fun y hy d h0 hg hd0 hd1 => ?_⟩, fun j y hj hy h0 hg => ?_⟩
  · rcases (hvs v).1 hv with rfl | hv
    · exact (h.r x.t ⟨ht0, _, ht, by omega⟩).step ⟨x, List.mem_of_getElem? hx, rfl, rfl⟩
    · exact h.r v hv
  · rcases List.mem_or_eq_of_mem_set hd with hd | rfl
    · have := h.b d hd; omega
    · omega
  · exact (hvs y.f).2 (.inr (h.c y hy d h0 (hne h0 hg (by omega)) hd0 hd1))
  · by_cases e : j = k
    · subst e; rw [hx] at hy; cases hy; exact (hvs x.f).2 (.inl rfl)
    · exact (hvs y.f).2 (.inr (hk j y (by omega) hy h0 (hne h0 hg (by omega))))
theorem ENk.skip {es : List Ed} {n k : Nat} {D : List Int} (hk : ENk es n k D) {x : Ed} (hx : es[k]? = some x) (h : 0 ≤ x.t → D[x.t.toNat]? = some (n : Int) → Vis D x.f) : ENk es n (k + 1) D := fun j y hj hy h0 hg => by
  by_cases e : j = k
  · subst e; rw [hx] at hy; cases hy; exact h h0 hg
  · exact hk j y (by omega) hy h0 hg
theorem EN.next {es : List Ed} {e : Int} {N n k : Nat} {D : List Int} (h : EN es e N n D) (hk : ENk es n k D) (hl : es.length ≤ k) : EN es e N (n + 1) D :=
  ⟨h.len, h.src, h.r, h.b, fun x hx d h0 hg hd0 hd1 => by
    obtain ⟨j, hj⟩ := List.mem_iff_getElem?.1 hx
    by_cases hd : d = n
    · subst hd; exact hk j x (by have := (List.getElem?_eq_some_iff.1 hj).1; omega) hj h0 hg
    · exact h.c x hx d h0 hg hd0 (by omega)⟩
theorem EN.end_ {es : List Ed} {e : Int} {N : Nat} {D : List Int} (h : EN es e N N D) (v : Int) : Vis D v ↔ Rch es true e v := by
  refine ⟨h.r v, fun hr => ?_⟩
  induction hr with
  | refl => exact h.src
  | step _ hbc ih =>
    obtain ⟨x, hx, h1, h2⟩ := hbc
    obtain ⟨h0, d, hd, hd0⟩ := ih
    have hb := (h.b d (List.mem_of_getElem? hd)).2
    have h1' : x.t = _ := h1
    have h2' : x.f = _ := h2
    rw [← h2']
    rw [← h1'] at hd h0
    exact h.c x hx d h0 hd hd0 (by omega)
def VB (R : List Bool) (v : Int) : Prop := 0 ≤ v ∧ R[v.toNat]? = some true
def ClB (es : List Ed) (k : Nat) (R : List Bool) : Prop := ∀ (j : Nat) (y : Ed), j < k → es[j]? = some y → VB R y.f → VB R y.t
structure RE (es : List Ed) (s : Int) (N : Nat) (R : List Bool) : Prop where
  len : R.length = N
  src : VB R s
  r : ∀ v, VB R v → Rch es false s v
def RN (es : List Ed) (n k : Nat) (R : List Bool) : Prop := ClB es es.length R ∨ (n + 1 ≤ R.count true ∧ (ClB es k R ∨ n + 2 ≤ R.count true))
theorem vb_set {R : List Bool} {b v : Int} (hb0 : 0 ≤ b) (hb : b.toNat < R.length) : VB (R.set b.toNat true) v ↔ v = b ∨ VB R v := by
  unfold VB
  constructor
  · rintro ⟨h0, h1⟩
    by_cases e : v = b
    · exact .inl e
    · rw [List.getElem?_set_ne (by omega)] at h1; exact .inr ⟨h0, h1⟩
  · rintro (rfl | ⟨h0, h1⟩)
    · exact ⟨hb0, by rw [List.getElem?_set_self hb]⟩
    · by_cases e : v = b
      · subst e; exact ⟨hb0, by rw [List.getElem?_set_self hb]⟩
      · exact ⟨h0, by rw [List.getElem?_set_ne (by omega)]; exact h1⟩
theorem RE.start {es : List Ed} {s : Int} {N : Nat} (h0 : 0 ≤ s) (h1 : s < N) : RE es s N ((List.replicate N false).set s.toNat true) ∧ RN es 0 0 ((List.replicate N false).set s.toNat true) := by
  have hv : ∀ v, VB ((List.replicate N false).set s.toNat true) v ↔ v = s := fun v => by
    rw [vb_set h0 (by rw [List.length_replicate]; omega)]
    refine ⟨fun h => h.elim id fun h => ?_, .inl⟩
    have := List.eq_of_mem_replicate (List.mem_of_getElem? h.2)
    cases this
  refine ⟨⟨by rw [List.length_set, List.length_replicate], (hv s).2 rfl, fun v h => by rw [(hv v).1 h]; exact .refl⟩, .inr ⟨?_, .inl fun j y hj => by omega⟩⟩
  exact List.count_pos_iff.2 (List.mem_of_getElem? (i := s.toNat) (by rw [List.getElem?_set_self (by rw [List.length_replicate]; omega)]))
theorem RE.set {es : List Ed} {s : Int} {N n k : Nat} {R : List Bool} (h : RE es s N R) (hn : RN es n k R) {x : Ed} (hx : es[k]? = some x) (ht0 : 0 ≤ x.t) (ht : R[x.t.toNat]? = some false) (hf0 : 0 ≤ x.f) (hf : R[x.f.toNat]? = some true) :
    RE es s N (R.set x.t.toNat true) ∧ RN es n (k + 1) (R.set x.t.toNat true) := by
  have htl := (List.getElem?_eq_some_iff.1 ht).1
  have hte := (List.getElem?_eq_some_iff.1 ht).2
  have hvs : ∀ v, VB (R.set x.t.toNat true) v ↔ v = x.t ∨ VB R v := fun v => vb_set ht0 htl
  have hcnt : (R.set x.t.toNat true).count true = R.count true + 1 := by
    rw [List.count_set htl, hte]; simp
  refine ⟨⟨by rw [List.length_set]; exact h.len, (hvs s).2 (.inr h.src), fun v hv => ?_⟩, ?_⟩
  · rcases (hvs v).1 hv with rfl | hv
    · exact (h.r x.f ⟨hf0, hf⟩).step ⟨x, List.mem_of_getElem? hx, rfl, rfl⟩
    · exact h.r v hv
  · rcases hn with hn | ⟨h1, _⟩
    · have := hn k x (List.getElem?_eq_some_iff.1 hx).1 hx ⟨hf0, hf⟩
      rw [this.2] at ht; cases ht
    · exact .inr ⟨by omega, .inr (by omega)⟩
theorem RN.skip {es : List Ed} {n k : Nat} {R : List Bool} (hn : RN es n k R) {x : Ed} (hx : es[k]? = some x) (h : VB R x.f → VB R x.t) : RN es n (k + 1) R := by
  rcases hn with hn | ⟨h1, h2⟩
  · exact .inl hn
  · refine .inr ⟨h1, h2.imp_left fun hc j y hj hy hv => ?_⟩
    by_cases e : j = k
    · subst e; rw [hx] at hy; cases hy; exact h hv
    · exact hc j y (by omega) hy hv
theorem RN.next {es : List Ed} {n k : Nat} {R : List Bool} (hn : RN es n k R) (hl : es.length ≤ k) : RN es (n + 1) 0 R := by
  rcases hn with hn | ⟨h1, h2 | h2⟩
  · exact .inl hn
  · exact .inl fun j y hj hy => h2 j y (by omega) hy
  · exact .inr ⟨by omega, .inl fun j y hj => by omega⟩
theorem RE.end_ {es : List Ed} {s : Int} {N : Nat} {R : List Bool} (h : RE es s N R) (hn : RN es N 0 R) (v : Int) : VB R v ↔ Rch es false s v := by
  refine ⟨h.r v, fun hr => ?_⟩
  have hc : ClB es es.length R := by
    rcases hn with hn | ⟨h1, _⟩
    · exact hn
    · have := h.len
      have : R.count true ≤ R.length := List.count_le_length
      omega
  induction hr with
  | refl => exact h.src
  | step _ hbc ih =>
    obtain ⟨x, hx, h1, h2⟩ := hbc
    obtain ⟨j, hj⟩ := List.mem_iff_getElem?.1 hx
    have h1' : x.f = _ := h1
    have h2' : x.t = _ := h2
    rw [← h2']
    exact hc j x (List.getElem?_eq_some_iff.1 hj).1 hj (by rw [h1']; exact ih)
end Go.VC
end

section
/- Contracts: the reference of validity: distances, reach, names; Valid, Good, small. -/
namespace Go.VC
open Go.Proofs Go.LexS
set_option maxRecDepth 100000
theorem ints_set {L : List Int} {i : Nat} (h : i < L.length) (y : Int) : splice (L.map (Value.int .i64)) i [.int .i64 y] = (L.set i y).map (Value.int .i64) := by
  rw [splice_set (by rw [List.length_map]; exact h), List.map_set]
theorem bools_set {L : List Bool} {i : Nat} (h : i < L.length) (y : Bool) : splice (L.map Value.bool) i [.bool y] = (L.set i y).map Value.bool := by
  rw [splice_set (by rw [List.length_map]; exact h), List.map_set]
theorem ints_flat : ∀ L : List Int, L.map (Value.int .i64) = (L.map inC).flatten
  | [] => rfl
  | a :: L => by rw [List.map_cons, List.map_cons, List.flatten_cons, ints_flat L]; rfl
theorem made3I (n : Nat) : madeL Tryz.prog 3 n = (List.replicate n (0 : Int)).map (Value.int .i64) := by rw [made3, List.map_replicate]
theorem at_ints {L : List Int} {i : Nat} (h : i < L.length) : ∃ y, (L.map (Value.int .i64))[i]? = some (.int .i64 y) ∧ L[i]? = some y := ⟨L[i], by rw [List.getElem?_map, List.getElem?_eq_getElem h]; rfl, List.getElem?_eq_getElem h⟩
theorem at_bools {L : List Bool} {i : Nat} (h : i < L.length) : ∃ y, (L.map Value.bool)[i]? = some (.bool y) ∧ L[i]? = some y := ⟨L[i], by rw [List.getElem?_map, List.getElem?_eq_getElem h]; rfl, List.getElem?_eq_getElem h⟩
theorem ends115 (g : Gl) (h : Heap) (hg : GI h g) (hN : NumR g) : Fn Tryz.prog 115 #[g.v] h fun v h' => Ext h h' ∧ ∃ (s : Sl) (L : List Int), v = .slice s.a s.n s.c ∧ Rw h' 1 s (L.map inC) ∧ L.length = g.n.toNat ∧ ∀ v, Vis L v ↔ Rch g.es true g.e v := by
  apply vc115 (bs g.nm) g.hr g.hd g.n g.s g.e g.he g.ht; unfold W115
  have hen := hg.e.ln
  have hem := hg.e.sm
  obtain ⟨N, hNn⟩ : ∃ N : Nat, g.n = N := ⟨g.n.toNat, by have := hN.n; omega⟩
  have hn1 := hN.n
  have hE := hN.e
  have htN : g.n.toNat = N := by omega
  refine (St.refl h).newb fun h9 hs => ?_
  refine ⟨_, hs.rd 0 rfl rfl, ⟨by omega, by omega, by omega⟩, ?_⟩
  rw [made3I]
  refine hs.newb fun h11 hs => ?_
  refine ⟨fun x h' m => ∃ (i : Nat) (L : List Int), x = i ∧ i ≤ N ∧ m = N - i ∧ (L.length = N ∧ ∀ (j : Nat), j < i → L[j]? = some (-1)) ∧ St h h' [.blk h9.size (L.map (Value.int .i64)) 3, .blk h.size g.cs 27], ⟨_, 0, _, rfl, by omega, rfl, ⟨by rw [List.length_replicate]; exact htN, fun j hj => by omega⟩, hs⟩, ?_⟩
  rintro - _ h16 m ⟨i, L, rfl, hi, rfl, ⟨hL, hLv⟩, hs⟩
  refine ⟨_, hs.rd 1 rfl rfl, sB_intro (fun c => ?_) (fun c0 => ?_)⟩
  · replace c := of_decide_eq_true c
    refine ⟨⟨by omega, by omega⟩, ?_⟩
    rw [show 0 + Int.toNat (i : Int) * 1 = i by simp]
    refine hs.put 0 rfl (o := i) (vs := [.int .i64 (-1)]) rfl (by rw [List.length_map]; show i + 1 ≤ _; omega) fun h18 hs => ?_
    rw [ints_set (by omega)] at hs
    refine ⟨_, by omega, i + 1, L.set i (-1), by rw [w64 (by omega) (by omega)]; omega, by omega, rfl, ⟨by rw [List.length_set]; exact hL, fun j hj => ?_⟩, hs⟩
    by_cases e : j = i
    · subst e; rw [List.getElem?_set_self (by omega)]
    · rw [List.getElem?_set_ne (by omega)]; exact hLv j (by omega)
  replace c0 := of_decide_eq_false c0
  have hLr : L = List.replicate N (-1) := List.ext_getElem? fun j => by
    by_cases hj : j < N
    · rw [hLv j (by omega), List.getElem?_replicate, if_pos hj]
    · rw [List.getElem?_eq_none (by omega), List.getElem?_replicate, if_neg hj]
  subst hLr
  refine ⟨_, hs.rd 1 rfl rfl, ⟨by omega, by omega⟩, ?_⟩
  obtain ⟨e, he⟩ : ∃ e : Nat, g.e = e := ⟨g.e.toNat, by omega⟩
  rw [he, show 0 + Int.toNat (e : Int) * 1 = e by simp]
  refine hs.put 0 rfl (o := e) (vs := [.int .i64 0]) rfl (by rw [List.length_map]; show e + 1 ≤ _; omega) fun h21 hs => ?_
  rw [ints_set (by omega)] at hs
  refine ⟨fun x h' m => ∃ (i : Nat) (L : List Int), x = i ∧ i ≤ N ∧ m = N - i ∧ EN g.es g.e N i L ∧ St h h' [.blk h9.size (L.map (Value.int .i64)) 3, .blk h.size g.cs 27], ⟨_, 0, _, rfl, by omega, rfl, ?_, hs⟩, ?_⟩
  · have := EN.start (es := g.es) (e := g.e) (N := N) (by omega) (by omega)
    rw [he] at this ⊢; exact this
  rintro - _ h26 m ⟨n, L2, rfl, hn, rfl, en2, hs⟩
  have hL2 := en2.len
  refine ⟨_, hs.rd 1 rfl rfl, sB_intro (fun c => ?_) (fun cE => ?_)⟩
  · replace c := of_decide_eq_true c
    refine ⟨fun x h' m => ∃ (i : Nat) (L : List Int), x = i ∧ i ≤ g.he.n ∧ m = g.he.n - i ∧ (EN g.es g.e N n L ∧ ENk g.es n i L) ∧ St h h' [.blk h9.size (L.map (Value.int .i64)) 3, .blk h.size g.cs 27], ⟨_, 0, L2, rfl, by omega, rfl, ⟨en2, fun j y hj => by omega⟩, hs⟩, ?_⟩
    rintro - _ h32 m ⟨k, L3, rfl, hk, rfl, ⟨en3, ek⟩, hs⟩
    have hL3 := en3.len
    refine ⟨_, hs.rd 1 rfl rfl, sB_intro (fun c2 => ?_) (fun c2 => ⟨_, by omega, n + 1, L3, by rw [w64 (by omega) (by omega)]; omega, by omega, rfl, en3.next ek (by have := lt_f c2; omega), hs⟩)⟩
    replace c2 := lt_t c2
    refine ⟨_, hs.rd 1 rfl rfl, ?_⟩
    refine (hg.e.rw.ext hs.ext).nbI (by omega) (by omega) fun b o x gx t => ?_
    replace gx : g.es[k]? = some x := gx
    have hx := hN.es x (List.mem_of_getElem? gx)
    obtain ⟨xt, hxt⟩ : ∃ a : Nat, x.t = a := ⟨x.t.toNat, by omega⟩
    obtain ⟨xf, hxf⟩ : ∃ a : Nat, x.f = a := ⟨x.f.toNat, by omega⟩
    refine ⟨_, _, _, _, _, _, t, ?_⟩
    refine hs.newput (vs := x.cs) rfl rfl fun h44 hs => ?_
    obtain ⟨y1, hy1, hz1⟩ := at_ints (L := L3) (i := xt) (by omega)
    obtain ⟨y2, hy2, hz2⟩ := at_ints (L := L3) (i := xf) (by omega)
    have htt : x.t.toNat = xt := by omega
    have htf : x.f.toNat = xf := by omega
    have nxt : ∀ {h' : Heap} {L4 : List Int}, (EN g.es g.e N n L4 ∧ ENk g.es n (k + 1) L4) → St h h' [.blk h9.size (L4.map (Value.int .i64)) 3, .blk h.size g.cs 27] → ∃ m53, m53 < g.he.n - k ∧ ∃ (i : Nat) (L : List Int), IntKind.wrap .i64 ((k : Int) + 1) = i ∧ i ≤ g.he.n ∧ m53 = g.he.n - i ∧ (EN g.es g.e N n L ∧ ENk g.es n i L) ∧ St h h' [.blk h9.size (L.map (Value.int .i64)) 3, .blk h.size g.cs 27] := fun h4 hs =>
      ⟨_, by omega, k + 1, _, by rw [w64 (by omega) (by omega)]; omega, by omega, rfl, h4, hs⟩
    refine ⟨x.t, hs.rd 0 rfl rfl, ⟨by omega, by omega⟩, ?_⟩
    rw [hxt, show 0 + Int.toNat (xt : Int) * 1 = xt by simp]
    refine ⟨y1, hs.rd 1 rfl hy1, sBe (fun e1 => ?_) (fun e1 => nxt ⟨en3, ek.skip gx fun _ hg1 => by rw [htt, hz1] at hg1; cases hg1; exact absurd rfl e1⟩ (hs.drop 1))⟩
    refine ⟨x.f, hs.rd 0 rfl rfl, ⟨by omega, by omega⟩, ?_⟩
    rw [hxf, show 0 + Int.toNat (xf : Int) * 1 = xf by simp]
    refine ⟨y2, hs.rd 1 rfl hy2, sBi (fun e2 => ?_) (fun e2 => nxt ⟨en3, ek.skip gx fun _ _ => ⟨by omega, y2, by rw [htf]; exact hz2, by omega⟩⟩ (hs.drop 1))⟩
    refine ⟨x.f, hs.rd 0 rfl rfl, ⟨by omega, by omega⟩, ?_⟩
    rw [hxf, show 0 + Int.toNat (xf : Int) * 1 = xf by simp]
    refine hs.put 1 rfl (o := xf) (vs := [.int .i64 (IntKind.wrap .i64 ((n : Int) + 1))]) rfl (by rw [List.length_map]; show xf + 1 ≤ _; omega) fun h50 hs => ?_
    rw [ints_set (by omega)] at hs
    rw [show IntKind.wrap .i64 ((n : Int) + 1) = (n : Int) + 1 from w64 (by omega) (by omega)] at hs
    refine nxt ?_ (hs.drop 1)
    have := en3.set ek gx (by omega) (by rw [htt, hz1, e1]) (by omega) (by rw [htf]; exact hz2) e2
    rw [htf] at this; exact this
  · have hfl := ints_flat L2
    rw [htN]
    have hs2 := hs.blkS N 1 (L2.map inC) hfl (inrows _) (by rw [List.length_map]; exact hL2) (by show N ≤ 9223372036854775807; omega)
    have hnN : n = N := by have := of_decide_eq_false cE; omega
    have en3 : EN g.es g.e N N L2 := by rw [hnN] at en2; exact en2
    exact ⟨hs.ext, ⟨some ⟨h9.size, 0, none⟩, N, N⟩, L2, rfl, hs2.rows 0 rfl (by omega), hL2, fun v => by rw [← he]; exact en3.end_ v⟩
theorem made4l (n : Nat) : madeL Tryz.prog 4 n = (List.replicate n false).map Value.bool := made4 n
structure ConS (g : Gl) : Prop where
  f : ∀ v : Int, 0 ≤ v → v < g.n → Rch g.es false g.s v
  b : ∀ v : Int, 0 ≤ v → v < g.n → Rch g.es true g.e v
  e : ∀ x ∈ g.es, x.f ≠ g.e
theorem connected67 (g : Gl) (h : Heap) (hg : GI h g) (hN : NumR g) : Fn Tryz.prog 67 #[g.v] h (RP (ConS g) h) := by
  apply vc67 (bs g.nm) g.hr g.hd g.n g.s g.e g.he g.ht; unfold W67
  have hen := hg.e.ln
  have hem := hg.e.sm
  obtain ⟨N, hNn⟩ : ∃ N : Nat, g.n = N := ⟨g.n.toNat, by have := hN.n; omega⟩
  have hn1 := hN.n
  have hS := hN.s
  have htN : g.n.toNat = N := by omega
  refine (St.refl h).newb fun h9 hs => ?_
  refine ⟨_, hs.rd 0 rfl rfl, ⟨by omega, by omega, by omega⟩, ?_⟩
  rw [made4l]
  refine hs.newb fun h11 hs => ?_
  refine ⟨_, hs.rd 1 rfl rfl, ⟨by omega, by omega⟩, ?_⟩
  obtain ⟨s0, hs0⟩ : ∃ e : Nat, g.s = e := ⟨g.s.toNat, by omega⟩
  rw [hs0, show 0 + Int.toNat (s0 : Int) * 1 = s0 by simp]
  refine hs.put 0 rfl (o := s0) (vs := [.bool true]) rfl (by rw [List.length_map, List.length_replicate]; show s0 + 1 ≤ _; omega) fun h13 hs => ?_
  rw [bools_set (by rw [List.length_replicate]; omega)] at hs
  refine ⟨fun x h' m => ∃ (i : Nat) (L : List Bool), x = i ∧ i ≤ N ∧ m = N - i ∧ (RE g.es g.s N L ∧ RN g.es i 0 L) ∧ St h h' [.blk h9.size (L.map Value.bool) 4, .blk h.size g.cs 27], ⟨_, 0, _, rfl, by omega, rfl, ?_, hs⟩, ?_⟩
  · have := RE.start (es := g.es) (s := g.s) (N := N) (by omega) (by omega)
    rw [htN]
    rw [hs0] at this ⊢; exact this
  rintro - _ h18 m ⟨n, L, rfl, hn, rfl, ⟨re1, rn1⟩, hs⟩
  have hL := re1.len
  refine ⟨_, hs.rd 1 rfl rfl, sB_intro (fun c => ?_) (fun cE => ?_)⟩
  · replace c := of_decide_eq_true c
    refine ⟨fun x h' m => ∃ (i : Nat) (L : List Bool), x = i ∧ i ≤ g.he.n ∧ m = g.he.n - i ∧ (RE g.es g.s N L ∧ RN g.es n i L) ∧ St h h' [.blk h9.size (L.map Value.bool) 4, .blk h.size g.cs 27], ⟨_, 0, L, rfl, by omega, rfl, ⟨re1, rn1⟩, hs⟩, ?_⟩
    rintro - _ h24 m ⟨k, L3, rfl, hk, rfl, ⟨re3, rn3⟩, hs⟩
    have hL3 := re3.len
    refine ⟨_, hs.rd 1 rfl rfl, sB_intro (fun c2 => ?_) (fun c2 => ⟨_, by omega, n + 1, L3, by rw [w64 (by omega) (by omega)]; omega, by omega, rfl, ⟨re3, rn3.next (by have := lt_f c2; omega)⟩, hs⟩)⟩
    replace c2 := lt_t c2
    have nxt : ∀ {h' : Heap} {L4 : List Bool}, (RE g.es g.s N L4 ∧ RN g.es n (k + 1) L4) → St h h' [.blk h9.size (L4.map Value.bool) 4, .blk h.size g.cs 27] → ∃ m53, m53 < g.he.n - k ∧ ∃ (i : Nat) (L : List Bool), IntKind.wrap .i64 ((k : Int) + 1) = i ∧ i ≤ g.he.n ∧ m53 = g.he.n - i ∧ (RE g.es g.s N L ∧ RN g.es n i L) ∧ St h h' [.blk h9.size (L.map Value.bool) 4, .blk h.size g.cs 27] := fun h4 hs =>
      ⟨_, by omega, k + 1, _, by rw [w64 (by omega) (by omega)]; omega, by omega, rfl, h4, hs⟩
    refine ⟨_, hs.rd 1 rfl rfl, ?_⟩
    have hrw := hg.e.rw.ext hs.ext
    refine hrw.nbI (by omega) (by omega) fun b o x gx t => ?_
    replace gx : g.es[k]? = some x := gx
    have hx := hN.es x (List.mem_of_getElem? gx)
    obtain ⟨xt, hxt⟩ : ∃ a : Nat, x.t = a := ⟨x.t.toNat, by omega⟩
    obtain ⟨xf, hxf⟩ : ∃ a : Nat, x.f = a := ⟨x.f.toNat, by omega⟩
    obtain ⟨y1, hy1, hz1⟩ := at_bools (L := L3) (i := xt) (by omega)
    obtain ⟨y2, hy2, hz2⟩ := at_bools (L := L3) (i := xf) (by omega)
    have htt : x.t.toNat = xt := by omega
    have htf : x.f.toNat = xf := by omega
    have same : ∀ {b : Bool}, L3[xt]? = some b → L3.set xt b = L3 := fun {b} hb => by
      obtain ⟨hl, he⟩ := List.getElem?_eq_some_iff.1 hb
      rw [← he, List.set_getElem_self]
    refine ⟨x.t, t.nth 4 rfl, ?_⟩
    refine ⟨_, hs.rd 1 rfl rfl, ?_⟩
    refine hrw.nbI (by omega) (by omega) fun b o x' gx' t' => ?_
    replace gx' : g.es[k]? = some x' := gx'
    rw [gx] at gx'; cases gx'
    refine ⟨x.t, t'.nth 4 rfl, ⟨by omega, by omega⟩, ?_⟩
    rw [hxt, show 0 + Int.toNat (xt : Int) * 1 = xt by simp]
    refine ⟨y1, hs.rd 0 rfl hy1, sB_intro (fun e1 => ?_) (fun e1 => ?_)⟩
    · refine ⟨⟨by omega, by omega⟩, ?_⟩
      refine hs.put 0 rfl (o := xt) (vs := [.bool true]) rfl (by rw [List.length_map]; show xt + 1 ≤ _; omega) fun h35 hs => ?_
      rw [bools_set (by omega), same (by rw [hz1, e1])] at hs
      exact nxt ⟨re3, rn3.skip gx fun _ => ⟨by omega, by rw [htt, hz1, e1]⟩⟩ hs
    · refine ⟨_, hs.rd 1 rfl rfl, ?_⟩
      refine hrw.nbI (by omega) (by omega) fun b o x' gx' t' => ?_
      replace gx' : g.es[k]? = some x' := gx'
      rw [gx] at gx'; cases gx'
      refine ⟨x.f, t'.nth 0 rfl, ⟨by omega, by omega⟩, ?_⟩
      rw [hxf, show 0 + Int.toNat (xf : Int) * 1 = xf by simp]
      refine ⟨y2, hs.rd 0 rfl hy2, ⟨by omega, by omega⟩, ?_⟩
      refine hs.put 0 rfl (o := xt) (vs := [.bool y2]) rfl (by rw [List.length_map]; show xt + 1 ≤ _; omega) fun h42 hs => ?_
      rw [bools_set (by omega)] at hs
      refine nxt ?_ hs
      cases y2 with
      | true =>
        have := re3.set rn3 gx (by omega) (by rw [htt, hz1, e1]) (by omega) (by rw [htf]; exact hz2)
        rw [htt] at this; exact this
      | false =>
        rw [same (by rw [hz1, e1])]
        exact ⟨re3, rn3.skip gx fun hv => by have := hv.2; rw [htf, hz2] at this; cases this⟩
  · refine ⟨_, _, _, _, _, _, _, _, hs.at 1 rfl (o := 0) (n := 8) rfl, ?_⟩
    refine (ends115 g h18 (hg.ext hs.ext) hN).mono ?_
    rintro _ h55 ⟨E, l, L2, rfl, hl, hl2, hvis⟩
    have hnN : n = N := by have := of_decide_eq_false cE; omega
    have rn2 : RN g.es N 0 L := by rw [hnN] at rn1; exact rn1
    have hreach := re1.end_ rn2
    have hs := hs.step E
    have hln := hl.ln
    refine ⟨_, rfl, ?_⟩
    refine ⟨fun x h' m => ∃ i : Nat, x = i ∧ i ≤ N ∧ m = N - i ∧ h' = h55 ∧ ∀ v : Int, 0 ≤ v → v < i → Rch g.es false g.s v ∧ Rch g.es true g.e v, ⟨_, 0, rfl, by omega, rfl, rfl, fun v h1 h2 => by omega⟩, ?_⟩
    rintro - _ h60 m ⟨i, rfl, hi, rfl, rfl, hq⟩
    refine ⟨_, hs.rd 1 rfl rfl, sB_intro (fun c => ?_) (fun c => ?_)⟩
    · replace c := of_decide_eq_true c
      obtain ⟨y1, hy1, hz1⟩ := at_bools (L := L) (i := i) (by omega)
      refine ⟨⟨by omega, by omega⟩, ?_⟩
      rw [show 0 + Int.toNat (i : Int) * 1 = i by simp]
      refine ⟨y1, hs.rd 0 rfl hy1, sB_intro (fun e1 => RP.f (fun hG => ?_) hs.ext) (fun e1 => ?_)⟩
      · have := ((hreach i).2 (hG.f i (by omega) (by omega))).2
        rw [show ((i : Int)).toNat = i from rfl, hz1] at this
        cases this; cases e1
      refine hl.nbI (by omega) (by omega) fun b o y gy t => ?_
      replace gy : L2[i]? = some y := gy
      refine ⟨_, t.nth 0 rfl, sBi (fun e2 => RP.f (fun hG => ?_) hs.ext) (fun e2 => ⟨_, by omega, i + 1, by rw [w64 (by omega) (by omega)]; omega, by omega, rfl, rfl, fun v h1 h2 => ?_⟩)⟩
      · obtain ⟨_, d, hd, hd0⟩ := (hvis i).2 (hG.b i (by omega) (by omega))
        rw [show ((i : Int)).toNat = i from rfl, gy] at hd
        cases hd; omega
      · by_cases e : v = (i : Int)
        · subst e
          exact ⟨(hreach i).1 ⟨by omega, by rw [show ((i : Int)).toNat = i from rfl, hz1, bT e1]⟩, (hvis i).1 ⟨by omega, y, gy, by omega⟩⟩
        · exact hq v h1 (by omega)
    · refine ⟨_, _, _, _, _, _, _, _, hs.at 1 rfl (o := 0) (n := 8) rfl, _, hs.rd 1 rfl rfl, ?_⟩
      refine (edges116 g g.e _ (hg.ext hs.ext)).mono ?_
      rintro _ h78 ⟨⟨q, rfl, hqe⟩, E⟩
      replace c := of_decide_eq_false c
      refine ⟨_, rfl, RP.e ?_ (hs.step E).ext⟩
      have hb : ∀ b : Bool, (b = true ↔ q.n = 0) → (b = true ↔ ConS g) := fun b hb => hb.trans (hqe.trans ⟨fun he => ⟨fun v h1 h2 => (hq v h1 (by omega)).1, fun v h1 h2 => (hq v h1 (by omega)).2, he⟩, fun hG => hG.e⟩)
      refine hb _ ?_
      simp
theorem names64 (g : Gl) (h : Heap) (hg : GI h g) (hM : GNm g.ds) : Fn Tryz.prog 64 #[g.v] h (RP (NamedS g ∧ DeclS g.ds) h) := by
  apply vc64 (bs g.nm) g.hr g.hd g.n g.s g.e g.he g.ht; unfold W64
  have hrn := hg.r.ln
  have hrm := hg.r.sm
  refine (St.refl h).newb fun h9 hs => ?_
  refine up_loopS (n := g.hr.n) hs (fun i => ∀ (j : Nat) (s : Nm), j < i → g.rs[j]? = some s → isWord s = true ∧ s ∉ g.rs.take j) (fun j s hj => by omega) ?_
  rintro - i h14 hi ⟨hs, hq⟩
  refine ⟨_, hs.rd 0 rfl rfl, sB_intro (fun c => ?_) (fun c => ?_)⟩
  · replace c := lt_t c
    refine ⟨_, hs.rd 0 rfl rfl, ?_⟩
    refine (hg.r.rw.ext hs.ext).nbI (by omega) (by omega) fun b o x gx t => ?_
    replace gx : g.rs[i]? = some x := gx
    refine ⟨_, t.nth 0 rfl, ?_⟩
    refine (isWord111 (bs x) h14).mono ?_
    rintro _ h22 ⟨rfl, E⟩
    have hs := hs.step E
    refine ⟨_, rfl, sB_intro (fun c1 => RP.f (fun hG => ?_) hs.ext) (fun c1 => ?_)⟩
    · have := (hG.1.r i x gx).1
      rw [bs_list, this] at c1; cases c1
    refine ⟨_, hs.rd 0 rfl rfl, _, hs.rd 0 rfl rfl, ?_⟩
    refine (hg.r.rw.ext hs.ext).nbI (by omega) (by omega) fun b o x2 gx2 t => ?_
    replace gx2 : g.rs[i]? = some x2 := gx2
    rw [gx] at gx2; cases gx2
    refine ⟨_, t.nth 0 rfl, ?_⟩
    refine (index112 g.rs g.hr (bs x) h22 (hg.r.rw.ext hs.ext) hrm).mono ?_
    rintro _ h30 ⟨⟨k, rfl, hk⟩, rfl⟩
    replace hk := hk i (by omega)
    rw [bs_list] at hk
    have hxm : x ∈ g.rs := List.mem_of_getElem? gx
    refine ⟨_, rfl, fun _ _ _ _ hv => hv, sBi (fun c2 => RP.f (fun hG => ?_) hs.ext) (fun c2 => Up.next c (by omega) ⟨hs, fun j s hj hj2 => ?_⟩)⟩
    · rcases hk.1 c2 with h1 | h1
      · exact (hG.1.r i x gx).2 h1
      · exact h1 hxm
    · by_cases e : j = i
      · subst e; rw [gx] at hj2; cases hj2
        refine ⟨by have := bT c1; rw [bs_list] at this; exact this, fun hm => c2 (hk.2 (.inl hm))⟩
      · exact hq j s (by omega) hj2
  · replace c := lt_f c
    refine ⟨_, hs.rd 0 rfl rfl, ?_⟩
    refine (isWord111 (bs g.nm) h14).mono ?_
    rintro _ h35 ⟨rfl, E⟩
    have hs := hs.step E
    refine ⟨_, rfl, sB_intro (fun c1 => ⟨_, hs.rd 0 rfl rfl, sBi (fun c2 => ⟨_, hs.rd 0 rfl rfl, sBi (fun c3 => ⟨_, hs.rd 0 rfl rfl, ?_⟩) (fun c3 => RP.f (fun hG => c3 (by have := hG.1.n6; omega)) hs.ext)⟩) (fun c2 => RP.f (fun hG => c2 (by have := hG.1.n1; omega)) hs.ext)⟩) (fun c1 => RP.f (fun hG => by rw [bs_list, hG.1.w] at c1; cases c1) hs.ext)⟩
    refine (refValid113 g.ds g.hd h35 (hg.d.ext hs.ext) hM).mono ?_
    rintro _ h41 ⟨⟨b2, rfl, hb2⟩, E⟩
    refine ⟨_, rfl, RP.e (hb2.trans ⟨fun hd => ⟨⟨by rw [bs_list] at c1; exact c1, by omega, by omega, fun j s hj => hq j s (by have := (List.getElem?_eq_some_iff.1 hj).1; omega) hj⟩, hd⟩, fun hG => hG.2⟩) (hs.step E).ext⟩
theorem refValid31 (g : Gl) (h : Heap) (hg : GI h g) (hM : GNm g.ds) : Fn Tryz.prog 31 #[g.v] h (RP (ValidS g) h) := by
  apply vc31 (bs g.nm) g.hr g.hd g.n g.s g.e g.he g.ht; unfold W31
  refine (St.refl h).newb fun h9 hs => ?_
  refine ⟨_, _, _, _, _, _, _, _, hs.at 0 rfl (o := 0) (n := 8) rfl, ?_⟩
  refine (names64 g h9 (hg.ext hs.ext) hM).mono ?_
  rintro _ h20 ⟨⟨b1, rfl, hb1⟩, E⟩
  have hs := hs.step E
  refine ⟨_, rfl, sB_intro (fun c1 => ?_) (fun c1 => RP.f (fun hG => iff_f hb1 c1 ⟨hG.nam, hG.dcl⟩) hs.ext)⟩
  refine ⟨_, _, _, _, _, _, _, _, hs.at 0 rfl (o := 0) (n := 8) rfl, ?_⟩
  refine (numbers65 g h20 (hg.ext hs.ext)).mono ?_
  rintro _ h31 ⟨⟨b2, rfl, hb2⟩, E⟩
  have hs := hs.step E
  refine ⟨_, rfl, sB_intro (fun c2 => ?_) (fun c2 => RP.f (fun hG => iff_f hb2 c2 hG.num) hs.ext)⟩
  have hN := hb2.1 c2
  refine ⟨_, _, _, _, _, _, _, _, hs.at 0 rfl (o := 0) (n := 8) rfl, ?_⟩
  refine (apart66 g h31 (hg.ext hs.ext)).mono ?_
  rintro _ h42 ⟨⟨b3, rfl, hb3⟩, E⟩
  have hs := hs.step E
  refine ⟨_, rfl, sB_intro (fun c3 => ?_) (fun c3 => RP.f (fun hG => iff_f hb3 c3 ⟨hG.ord.s, hG.ord.p⟩) hs.ext)⟩
  refine ⟨_, _, _, _, _, _, _, _, hs.at 0 rfl (o := 0) (n := 8) rfl, ?_⟩
  refine (connected67 g h42 (hg.ext hs.ext) hN.R).mono ?_
  rintro _ h53 ⟨⟨b4, rfl, hb4⟩, E⟩
  have hs := hs.step E
  refine ⟨_, rfl, sB_intro (fun c4 => ?_) (fun c4 => RP.f (fun hG => iff_f hb4 c4 ⟨hG.fwd, hG.bwd, hG.ord.e⟩) hs.ext)⟩
  refine ⟨_, _, _, _, _, _, _, _, hs.at 0 rfl (o := 0) (n := 8) rfl, ?_⟩
  refine (timed68 g h53 (hg.ext hs.ext) hN).mono ?_
  rintro _ h64 ⟨⟨b5, rfl, hb5⟩, E⟩
  have f1 := hb1.1 c1
  have f3 := hb3.1 c3
  have f4 := hb4.1 c4
  exact ⟨_, rfl, RP.e (hb5.trans ⟨fun ht => ⟨f1.1, hN, f1.2, ⟨f4.e, f3.s, f3.p⟩, ht, f4.f, f4.b⟩, fun hG => hG.tim⟩) (hs.step E).ext⟩
theorem good49 (g : Gl) (role : Int) (h : Heap) (hg : GI h g) (hM : GNm g.ds) : Fn Tryz.prog 49 #[g.v, .int .i64 role] h (RP (ValidS g ∧ 0 ≤ role ∧ role < g.rs.length) h) := by
  apply vc49 (bs g.nm) g.hr g.hd g.n g.s g.e g.he g.ht; unfold W49
  have hrn := hg.r.ln
  refine (St.refl h).newb fun h9 hs => ?_
  refine ⟨_, _, _, _, _, _, _, _, hs.at 0 rfl (o := 0) (n := 8) rfl, ?_⟩
  refine (refValid31 g h9 (hg.ext hs.ext) hM).mono ?_
  rintro _ h20 ⟨⟨b1, rfl, hb1⟩, E⟩
  have hs := hs.step E
  exact ⟨_, rfl, sB_intro (fun c1 => sBi (fun c2 => ⟨_, hs.rd 0 rfl rfl, RP.e ⟨fun hb => ⟨hb1.1 c1, by omega, by have := of_decide_eq_true hb; omega⟩, fun hG => decide_eq_true (by omega)⟩ hs.ext⟩) (fun c2 => RP.f (fun hG => c2 (by omega)) hs.ext)) (fun c1 => RP.f (fun hG => iff_f hb1 c1 hG.1) hs.ext)⟩
theorem small21 (g : Gl) (role : Int) (h : Heap) (hg : GI h g) (hM : GNm g.ds) : Fn Tryz.prog 21 #[g.v, .int .i64 role] h fun v h' => (∃ b : Bool, v = .bool b ∧ (b = true → ValidS g ∧ 0 ≤ role ∧ role < g.rs.length)) ∧ Ext h h' := by
  apply vc21 (bs g.nm) g.hr g.hd g.n g.s g.e g.he g.ht; unfold W21
  refine (St.refl h).newb fun h9 hs => ?_
  refine ⟨_, _, _, _, _, _, _, _, hs.at 0 rfl (o := 0) (n := 8) rfl, ?_⟩
  refine (few11 g h9 (hg.ext hs.ext)).mono ?_
  rintro _ h20 ⟨rfl, E⟩
  have hs := hs.step E
  refine ⟨_, rfl, sB_intro (fun _ => ?_) (fun _ => ⟨⟨false, rfl, fun e => (by cases e)⟩, hs.ext⟩)⟩
  refine ⟨_, _, _, _, _, _, _, _, hs.at 0 rfl (o := 0) (n := 8) rfl, ?_⟩
  refine (good49 g role h20 (hg.ext hs.ext) hM).mono ?_
  rintro _ h31 ⟨⟨b2, rfl, hb2⟩, E⟩
  exact ⟨_, rfl, ⟨_, rfl, hb2.1⟩, (hs.step E).ext⟩
end Go.VC
end

section
/- Contracts: Next, and the walk of the law of canonical machines. -/
namespace Go.VC
open Go.Proofs Go.LexS
set_option maxRecDepth 100000
structure Hv where
  role : Int
  send : Bool
  peer : Int
  label : Int
  vs : Sl
def Hv.cs (x : Hv) : List Value := [.int .i64 x.role, .bool x.send, .int .i64 x.peer, .int .i64 x.label, .slice x.vs.a x.vs.n x.vs.c]
def hitF (s : Int) (x : Hv) (y : Mv) : Bool := decide (y.f = s ∧ y.send = x.send ∧ y.peer = x.peer ∧ y.label = x.label)
def nxtM (m : Mch) (s : Int) (x : Hv) : Int := if x.role = m.role then (match m.mv.find? (hitF s x) with | some y => y.t | none => -1) else -1
theorem first_hit {α : Type} {p : α → Bool} : ∀ (l : List α) (i : Nat) (y : α), l[i]? = some y → p y = true → (∀ (j : Nat) z, j < i → l[j]? = some z → p z = false) → l.find? p = some y
  | [], i, y, h, _, _ => by simp at h
  | a :: l, 0, y, h, hp, _ => by simp at h; subst h; rw [List.find?_cons, hp]
  | a :: l, i + 1, y, h, hp, hn => by
    rw [List.find?_cons, hn 0 a (by omega) rfl]
    exact first_hit l i y (by simpa using h) hp fun j z hj hz => hn (j + 1) z (by omega) (by simpa using hz)
set_option maxHeartbeats 1000000 in
theorem next25 (m : Mch) (sf sm sl : Sl) (s : Int) (x : Hv) (h : Heap) (hM : MI h m sf sm sl) :
    Fn Tryz.prog 25 #[.agg ⟨mC m sf sm sl⟩, .int .i64 s, .agg ⟨x.cs⟩] h fun v h' => v = .int .i64 (nxtM m s x) ∧ Ext h h' := by
  apply vc25 m.role m.n m.s sf sm sl s x.role x.send x.peer x.label x.vs; unfold W25
  have hmn := hM.pm.ln
  have hmb := hM.pm.sm
  refine (St.refl h).newb fun h12 hs => ?_
  refine hs.newb fun h13 hs => ?_
  refine up_loopS (n := sm.n) hs (fun i => ∀ (j : Nat) y, j < i → m.mv[j]? = some y → ¬ (x.role = m.role ∧ hitF s x y = true)) (fun j y hj => by omega) ?_
  rintro - i h18 hi ⟨hs, hq⟩
  refine ⟨sm, hs.rd 1 rfl rfl, sB_intro (fun c => ?_) (fun c => ?_)⟩
  · replace c := lt_t c
    refine ⟨sm, hs.rd 1 rfl rfl, ?_⟩
    refine (hM.pm.rw.ext hs.ext).nbI (by omega) (by omega) fun b o y gy t => ?_
    replace gy : m.mv[i]? = some y := gy
    refine ⟨_, _, _, _, _, _, t, ?_⟩
    refine hs.newput (vs := y.cs) rfl rfl fun h30 hs => ?_
    have miss : ¬ (x.role = m.role ∧ hitF s x y = true) → ∃ m41, m41 < sm.n - i ∧ Up sm.n (fun i h' => St h h' [.blk h12.size x.cs 60, .blk h.size (mC m sf sm sl) 33] ∧ ∀ (j : Nat) y, j < i → m.mv[j]? = some y → ¬ (x.role = m.role ∧ hitF s x y = true)) (IntKind.wrap .i64 ((i : Int) + 1)) h30 m41 := fun hn =>
      Up.next c (by omega) ⟨hs.drop 1, fun j z hj hz => by
        by_cases e : j = i
        · subst e; rw [gy] at hz; cases hz; exact hn
        · exact hq j z (by omega) hz⟩
    refine ⟨_, hs.rd 1 rfl rfl, _, hs.rd 2 rfl rfl, sB_intro (fun c1 => ?_) (fun c1 => miss fun ⟨e, _⟩ => by rw [e] at c1; simp at c1)⟩
    refine ⟨_, hs.rd 0 rfl rfl, sB_intro (fun c2 => ?_) (fun c2 => miss fun ⟨_, e⟩ => by have := (of_decide_eq_true e).1; rw [this] at c2; simp at c2)⟩
    refine ⟨_, hs.rd 0 rfl rfl, _, hs.rd 1 rfl rfl, sB_intro (fun c3 => ?_) (fun c3 => miss fun ⟨_, e⟩ => by have := (of_decide_eq_true e).2.1; rw [this] at c3; simp at c3)⟩
    refine ⟨_, hs.rd 0 rfl rfl, _, hs.rd 1 rfl rfl, sB_intro (fun c4 => ?_) (fun c4 => miss fun ⟨_, e⟩ => by have := (of_decide_eq_true e).2.2.1; rw [this] at c4; simp at c4)⟩
    refine ⟨_, hs.rd 0 rfl rfl, _, hs.rd 1 rfl rfl, sB_intro (fun c5 => ?_) (fun c5 => miss fun ⟨_, e⟩ => by have := (of_decide_eq_true e).2.2.2; rw [this] at c5; simp at c5)⟩
    refine ⟨_, hs.rd 0 rfl rfl, ?_, hs.ext⟩
    have e1 : x.role = m.role := by simpa using c1
    have e2 : y.f = s := by simpa using c2
    have e3 : y.send = x.send := by simpa using c3
    have e4 : y.peer = x.peer := by simpa using c4
    have e5 : y.label = x.label := by simpa using c5
    unfold nxtM
    rw [if_pos e1, first_hit m.mv i y gy (by unfold hitF; exact decide_eq_true ⟨e2, e3, e4, e5⟩) fun j z hj hz => by
      have := hq j z hj hz
      cases hb : hitF s x z with
      | false => rfl
      | true => exact absurd ⟨e1, hb⟩ this]
  · replace c := lt_f c
    refine ⟨?_, hs.ext⟩
    unfold nxtM
    by_cases e1 : x.role = m.role
    · rw [if_pos e1]
      have : m.mv.find? (hitF s x) = none := by
        rw [List.find?_eq_none]
        intro z hz hb
        obtain ⟨j, hj⟩ := List.mem_iff_getElem?.1 hz
        exact hq j z (by have := (List.getElem?_eq_some_iff.1 hj).1; omega) hj ⟨e1, hb⟩
      rw [this]
    · rw [if_neg e1]
structure CanS (m w : Mch) (role : Int) where
  gm : MGood m
  gw : MGood w
  s0 : m.s = 0
  nn : m.n ≤ w.n
  rm : m.role = role
  rw_ : w.role = role
  nx : Nat → Int
  nx0 : nx 0 = 1
  nxs : ∀ (i : Nat) x, m.mv[i]? = some x → x.t ≤ nx i ∧ x.f < nx i ∧ nx (i + 1) = if x.t = nx i then nx i + 1 else nx i
  nxe : nx m.mv.length = m.n
  nxb : ∀ i, i ≤ m.mv.length → 0 ≤ nx i ∧ nx i ≤ 200
  li : m.li.Pairwise fun a b => a.s < b.s
  Rel : Int → Int → Prop
  r0 : Rel m.s w.s
  rs : ∀ a b, Rel a b → 0 ≤ a → 0 ≤ b ∧ a < m.n ∧ b < w.n ∧ m.fin[a.toNat]? = w.fin[b.toNat]? ∧ ∀ x, Rel (nxtM m a x) (nxtM w b x)
  rn : ∀ a b, Rel a b → 0 ≤ b → 0 ≤ a
end Go.VC
end

section
/- Project's machine is canonical and makes what Raw's makes. No program here. -/
namespace Go.VC
open Go.LexS
def nxL (l : List Mv) : Int := l.foldl (fun n x => if x.t = n then n + 1 else n) 1
theorem nxL_snoc (l : List Mv) (x : Mv) : nxL (l ++ [x]) = if x.t = nxL l then nxL l + 1 else nxL l := by unfold nxL; rw [List.foldl_append]; rfl
theorem fold_ge : ∀ (l : List Mv) (a : Int), a ≤ l.foldl (fun n x => if x.t = n then n + 1 else n) a
  | [], a => Int.le_refl _
  | x :: l, a => by
    rw [List.foldl_cons]
    refine Int.le_trans ?_ (fold_ge l _)
    split <;> omega
theorem nxL_take (l : List Mv) (i : Nat) : 1 ≤ nxL (l.take i) ∧ nxL (l.take i) ≤ nxL l := by
  refine ⟨fold_ge _ _, ?_⟩
  have e : nxL l = (l.drop i).foldl (fun n x => if x.t = n then n + 1 else n) (nxL (l.take i)) := by
    unfold nxL; rw [← List.foldl_append, List.take_append_drop]
  rw [e]; exact fold_ge _ _
structure NumI (mv : List Mv) (Q : List Nat) : Prop where
  a : ∀ (i : Nat) x, mv[i]? = some x → x.t ≤ nxL (mv.take i) ∧ x.f < nxL (mv.take i)
  b : nxL mv = (Q.length : Int)
theorem NumI.push {mv : List Mv} {Q : List Nat} (h : NumI mv Q) {hd : Nat} (hhd : hd < Q.length) (c : Nat) {x : Mv} (hf : x.f = (hd : Int)) (ht : x.t = (idxF (addQ Q c) c : Nat)) : NumI (mv ++ [x]) (addQ Q c) := by
  have hb := h.b
  by_cases hc : c ∈ Q
  · have e : addQ Q c = Q := by unfold addQ; rw [if_pos hc]
    rw [e] at ht ⊢
    have hlt := idxF_lt hc
    refine ⟨fun i y hy => ?_, by rw [nxL_snoc, if_neg (by omega)]; exact hb⟩
    by_cases hi : i < mv.length
    · rw [List.getElem?_append_left hi] at hy
      rw [List.take_append_of_le_length (by omega)]
      exact h.a i y hy
    · have hil := (List.getElem?_eq_some_iff.1 hy).1
      rw [List.length_append, List.length_singleton] at hil
      have : i = mv.length := by omega
      subst this
      rw [List.getElem?_append_right (Nat.le_refl _), Nat.sub_self] at hy
      cases hy
      rw [List.take_append_of_le_length (Nat.le_refl _), List.take_length, hb]
      omega
  · have e : addQ Q c = Q ++ [c] := by unfold addQ; rw [if_neg hc]
    have hidx : idxF (Q ++ [c]) c = Q.length := by
      clear h hb e ht hhd
      induction Q with
      | nil => simp [idxF]
      | cons q Q ih =>
        rw [List.cons_append, idxF, if_neg (fun e => hc (by rw [e]; exact List.mem_cons_self ..)), ih (fun hm => hc (List.mem_cons_of_mem _ hm)), List.length_cons]
    rw [e, hidx] at ht
    rw [e]
    refine ⟨fun i y hy => ?_, by rw [nxL_snoc, if_pos (by omega), List.length_append, List.length_singleton]; omega⟩
    by_cases hi : i < mv.length
    · rw [List.getElem?_append_left hi] at hy
      rw [List.take_append_of_le_length (by omega)]
      exact h.a i y hy
    · have hil := (List.getElem?_eq_some_iff.1 hy).1
      rw [List.length_append, List.length_singleton] at hil
      have : i = mv.length := by omega
      subst this
      rw [List.getElem?_append_right (Nat.le_refl _), Nat.sub_self] at hy
      cases hy
      rw [List.take_append_of_le_length (Nat.le_refl _), List.take_length, hb]
      omega
structure LiI (hd : Nat) (li : List To) : Prop where
  a : li.Pairwise fun a b => a.s < b.s
  b : ∀ t ∈ li, t.s < (hd : Int)
theorem LiI.push {hd : Nat} {li : List To} (h : LiI hd li) {t : To} (ht : t.s = (hd : Int)) : LiI (hd + 1) (li ++ [t]) := by
  refine ⟨List.pairwise_append.2 ⟨h.a, List.pairwise_singleton _ _, fun a ha b hb => ?_⟩, fun x hx => ?_⟩
  · rw [List.mem_singleton] at hb; subst hb; have := h.b a ha; omega
  · rcases List.mem_append.1 hx with hx | hx
    · have := h.b x hx; omega
    · rw [List.mem_singleton] at hx; subst hx; omega
theorem LiI.next {hd : Nat} {li : List To} (h : LiI hd li) : LiI (hd + 1) li := ⟨h.a, fun t ht => by have := h.b t ht; omega⟩
theorem row_num {r : Mch} {C : List Nat} {hd s : Nat} {Q : List Nat} {mv : List Mv} {li : List To} (hS : r.mv.Pairwise mvLt) (hhd : hd < Q.length) (tl : Option To) (hN : NumI mv Q) (hL : LiI hd li) :
    NumI ((outM r s).foldl (minX r C hd tl) (Q, mv, li)).2.1 ((outM r s).foldl (minX r C hd tl) (Q, mv, li)).1 ∧ LiI (hd + 1) ((outM r s).foldl (minX r C hd tl) (Q, mv, li)).2.2 ∧ Q.length ≤ ((outM r s).foldl (minX r C hd tl) (Q, mv, li)).1.length := by
  have hso := outM_sorted hS s
  have key := foldl_ind (f := minX r C hd tl) (l := outM r s) (b := (Q, mv, li)) (P := fun j st => NumI st.2.1 st.1 ∧ Q.length ≤ st.1.length ∧ (st.2.2 = li ∨ ∃ t t0 y, st.2.2 = li ++ [t] ∧ t.s = (hd : Int) ∧ tl = some t0 ∧ r.mv[t0.e.toNat]? = some y ∧ ∃ (k : Nat) (x : Mv), k < j ∧ (outM r s)[k]? = some x ∧ x.ev = y.ev))
    ⟨hN, Nat.le_refl _, .inl rfl⟩ (fun j x st hx ⟨h1, h2, h3⟩ => by
      refine ⟨?_, ?_, ?_⟩
      · exact h1.push (by omega) _ rfl rfl
      · obtain ⟨E, hE⟩ := addQ_ext st.1 (C.getD x.t.toNat 0)
        show Q.length ≤ (addQ st.1 (C.getD x.t.toNat 0)).length
        rw [hE, List.length_append]; omega
      · show st.2.2 ++ _ = li ∨ ∃ t t0 y, st.2.2 ++ _ = li ++ [t] ∧ _
        cases htl : tl with
        | none =>
          simp only [List.append_nil]
          rw [htl] at h3
          rcases h3 with h3 | ⟨t, t0, y, _, _, h6, _⟩
          · exact .inl h3
          · cases h6
        | some t0 =>
          rw [htl] at h3
          cases hy : r.mv[t0.e.toNat]? with
          | none =>
            simp only [hy, List.append_nil]
            rcases h3 with h3 | ⟨t, t0', y, _, _, h6, h7, _⟩
            · exact .inl h3
            · cases h6; rw [hy] at h7; cases h7
          | some y =>
            simp only [hy]
            by_cases he : x.ev = y.ev
            · rw [if_pos he]
              rcases h3 with h3 | ⟨t, t0', y', _, _, h6, h7, k, x', hk, hx', he'⟩
              · exact .inr ⟨_, t0, y, by rw [h3], rfl, rfl, hy, j, x, by omega, hx, he⟩
              · cases h6
                rw [hy] at h7; cases h7
                exfalso
                have hlt := mvLt_get hso hk hx' hx
                have f1 := (outM_f (List.mem_of_getElem? hx')).2
                have f2 := (outM_f (List.mem_of_getElem? hx)).2
                rcases hlt with h | ⟨_, h⟩
                · omega
                · rw [he', he] at h; exact evLt_irr _ h
            · rw [if_neg he, List.append_nil]
              rcases h3 with h3 | ⟨t, t0', y', h4, h5, h6, h7, k, x', hk, hx', he'⟩
              · exact .inl h3
              · exact .inr ⟨t, t0', y', h4, h5, h6, h7, k, x', by omega, hx', he'⟩)
  generalize (outM r s).foldl (minX r C hd tl) (Q, mv, li) = st at *
  obtain ⟨h1, h2, h3⟩ := key
  refine ⟨h1, ?_, h2⟩
  rcases h3 with h3 | ⟨t, _, _, h3, h4, _⟩
  · rw [h3]; exact hL.next
  · rw [h3]; exact hL.push h4
theorem minN_num {r : Mch} {C : List Nat} (hS : r.mv.Pairwise mvLt) : ∀ (f hd : Nat) (Q : List Nat) (fin : List Bool) (mv : List Mv) (li : List To), hd ≤ Q.length → NumI mv Q → LiI hd li →
    nxL (minN r C f hd Q fin mv li).mv = (minN r C f hd Q fin mv li).n ∧ (∀ (i : Nat) x, (minN r C f hd Q fin mv li).mv[i]? = some x → x.t ≤ nxL ((minN r C f hd Q fin mv li).mv.take i) ∧ x.f < nxL ((minN r C f hd Q fin mv li).mv.take i)) ∧ (minN r C f hd Q fin mv li).li.Pairwise (fun a b => a.s < b.s) ∧ (minN r C f hd Q fin mv li).role = r.role
  | 0, hd, Q, fin, mv, li, _, hN, hL => ⟨hN.b, hN.a, hL.a, rfl⟩
  | f + 1, hd, Q, fin, mv, li, hq, hN, hL => by
    rw [minN]
    cases hc : Q[hd]? with
    | none => exact ⟨hN.b, hN.a, hL.a, rfl⟩
    | some c =>
      have hhd := (List.getElem?_eq_some_iff.1 hc).1
      obtain ⟨h1, h2, h3⟩ := row_num (C := C) (s := idxF C c) hS hhd (mget (limM r.li) (idxF C c : Nat)) hN hL
      exact minN_num hS f (hd + 1) _ _ _ _ (by omega) h1 h2
theorem minF_can2 {r : Mch} (hO : MOk r) : ∃ Q, (minF r).n = (Q.length : Nat) ∧ (minF r).s = 0 ∧ 1 ≤ Q.length ∧ Q.length ≤ r.n.toNat ∧ CanI r (cls r).1 (cls r).2 Q.length Q (minF r).fin (minF r).mv (minF r).li ∧ Q[0]? = (cls r).1[r.s.toNat]? := by
  obtain ⟨Q1, a1, a2, a3, a4, a5⟩ := minF_can hO
  have hC := cls_ok hO
  have hs := hO.s
  obtain ⟨c0, hc0⟩ := get_some (l := (cls r).1) (i := r.s.toNat) (by have := hC.cl; omega)
  have hc0b := hC.cb c0 (List.mem_of_getElem? hc0)
  have h0 : CanI r (cls r).1 (cls r).2 0 [c0] [] [] [] := ⟨⟨by simp, fun c hc => by rw [List.mem_singleton] at hc; omega⟩, by simp, rfl, rfl, fun i hi => (by omega), fun t ht => (by cases ht), fun i hi => (by omega)⟩
  have hn := hO.n
  have hcc := hC.cc
  obtain ⟨Q, h1, h2, h3, E, h4⟩ := minN_can hO hC.cl hC.cb 202 0 [c0] [] [] [] (by omega) h0
  have he : minN r (cls r).1 202 0 [c0] [] [] [] = minF r := by unfold minF; rw [getD_some hc0]
  rw [he] at h1 h2 h3
  have hl : Q.length = Q1.length := by rw [h1] at a1; omega
  exact ⟨Q, h1, h2, by omega, by omega, h3, by rw [h4, hc0]; rfl⟩
def evF (x : Hv) (y : Mv) : Bool := decide (y.send = x.send ∧ y.peer = x.peer ∧ y.label = x.label)
theorem find_filter (s : Int) (x : Hv) : ∀ l : List Mv, l.find? (hitF s x) = (l.filter fun y => y.f = s).find? (evF x)
  | [] => rfl
  | a :: l => by
    by_cases h : a.f = s
    · rw [List.filter_cons_of_pos (by simpa using h), List.find?_cons, List.find?_cons]
      have e : hitF s x a = evF x a := by unfold hitF evF; simp [h]
      rw [e, find_filter s x l]
    · rw [List.filter_cons_of_neg (by simpa using h), List.find?_cons]
      have e : hitF s x a = false := by unfold hitF; exact decide_eq_false fun hh => h hh.1
      rw [e]; exact find_filter s x l
theorem find_pair {α β : Type} {F : α → β} {p : α → Bool} (hp : ∀ a b, F a = F b → p a = p b) : ∀ (l1 l2 : List α), l1.map F = l2.map F → (l1.find? p = none ∧ l2.find? p = none) ∨ ∃ a b, l1.find? p = some a ∧ l2.find? p = some b ∧ F a = F b
  | [], [], _ => .inl ⟨rfl, rfl⟩
  | [], _ :: _, h => by cases h
  | _ :: _, [], h => by cases h
  | a :: l1, b :: l2, h => by
    rw [List.map_cons, List.map_cons, List.cons.injEq] at h
    rw [List.find?_cons, List.find?_cons, hp a b h.1]
    cases p b with
    | true => exact .inr ⟨a, b, rfl, rfl, h.1⟩
    | false => exact find_pair hp l1 l2 h.2
theorem cansQ {w : Mch} (hR : MRaw w) : ∃ Q : List Nat, CanI w (cls w).1 (cls w).2 Q.length Q (minF w).fin (minF w).mv (minF w).li ∧
    ∃ C : CanS (minF w) w w.role, ∀ a b, C.Rel a b → (a = -1 ∧ b = -1) ∨ ∃ i j : Nat, a = (i : Int) ∧ b = (j : Int) ∧ i < Q.length ∧ j < w.n.toNat ∧ (cls w).1[j]? = Q[i]? := by
  obtain ⟨Q, h1, h2, h3, h4, hc, hq0⟩ := minF_can2 hR.ok
  have hO := hR.ok
  have hn := hO.n
  have hs := hO.s
  have hfl := hO.fl
  have hC := cls_ok hO
  have hcl := hC.cl
  obtain ⟨N, hN1, hN2, hN3⟩ := cls_stable hO
  obtain ⟨n1, n2, n3, n4⟩ := minN_num (C := (cls w).1) hR.so 202 0 [(cls w).1.getD w.s.toNat 0] [] [] [] (by simp) ⟨fun i x hx => by simp at hx, rfl⟩ ⟨.nil, fun t ht => by cases ht⟩
  have hmin : minN w (cls w).1 202 0 [(cls w).1.getD w.s.toNat 0] [] [] [] = minF w := rfl
  rw [hmin] at n1 n2 n3 n4
  have hG := mgood hR
  have hrole : (minF w).role = w.role := n4
  refine ⟨Q, hc, { gm := hG, gw := ⟨hn, hs, hfl, fun x hx => ?_, fun t ht => ?_, hR.so⟩, s0 := h2, nn := (by rw [h1]; omega), rm := hrole, rw_ := rfl, nx := fun i => nxL ((minF w).mv.take i), nx0 := rfl, nxs := fun i x hx => ?_, nxe := (by rw [List.take_length]; exact n1), nxb := fun i hi => ?_, li := n3, Rel := fun a b => (a = -1 ∧ b = -1) ∨ ∃ i j : Nat, a = i ∧ b = j ∧ i < Q.length ∧ j < w.n.toNat ∧ (cls w).1[j]? = Q[i]?, r0 := .inr ⟨0, w.s.toNat, by rw [h2]; rfl, by omega, by omega, by omega, hq0.symm⟩, rs := ?_, rn := ?_ }, fun _ _ h => h⟩
  · have := hO.mv x hx; omega
  · have h := hO.li t ht
    obtain ⟨y, hy, hyf⟩ := hR.l1 t ht
    exact ⟨h.1, h.2.1, h.2.2.1, h.2.2.2.1, y, hy, hyf⟩
  · refine ⟨(n2 i x hx).1, (n2 i x hx).2, ?_⟩
    show nxL ((minF w).mv.take (i + 1)) = _
    rw [take_snoc hx, nxL_snoc]
  · have h5 := nxL_take (minF w).mv i
    rw [n1, h1] at h5
    show 0 ≤ nxL ((minF w).mv.take i) ∧ nxL ((minF w).mv.take i) ≤ 200
    omega
  · intro a b hab ha
    rcases hab with ⟨e, _⟩ | ⟨i, j, rfl, rfl, hi, hj, hcj⟩
    · omega
    obtain ⟨c, hqc⟩ := get_some (l := Q) (i := i) hi
    rw [hqc] at hcj
    have hcC := List.mem_of_getElem? hcj
    have hrep : repQ (cls w).1 Q i = idxF (cls w).1 c := by unfold repQ; rw [getD_some hqc]
    have hsn : repQ (cls w).1 Q i < w.n.toNat := by rw [hrep]; have := idxF_lt hcC; omega
    have hcs : (cls w).1[repQ (cls w).1 Q i]? = some c := by rw [hrep]; exact idxF_get hcC
    have hkey := hN3 (repQ (cls w).1 Q i) j hsn hj (by rw [hcs, hcj])
    obtain ⟨p1, _, p3⟩ := keyS_parts hkey
    refine ⟨by omega, by rw [h1]; omega, by omega, ?_, fun x => ?_⟩
    · have e1 : (minF w).fin[i]? = some (w.fin.getD (repQ (cls w).1 Q i) false) := by rw [hc.pf, List.getElem?_map, List.getElem?_range hi]; rfl
      have e2 : w.fin.getD (repQ (cls w).1 Q i) false = w.fin.getD j false := by unfold sgB at p3; injection p3
      obtain ⟨f, hf⟩ := get_some (l := w.fin) (i := j) (by omega)
      show (minF w).fin[i]? = w.fin[j]?
      rw [e1, e2, getD_some hf, hf]
    · unfold nxtM
      rw [hrole]
      by_cases hx : x.role = w.role
      · rw [if_pos hx, if_pos hx, find_filter, find_filter, can_row hc hi, List.find?_map]
        have hcomp : (evF x ∘ mvQ (cls w).1 Q i) = evF x := rfl
        rw [hcomp]
        have hfp := find_pair (F := sgM (itC w N)) (p := evF x) (fun a b hab => by
          have he : a.ev = b.ev := by unfold sgM at hab; injection hab
          have e1 : a.send = b.send := congrArg Ev.send he
          have e2 : a.peer = b.peer := congrArg Ev.peer he
          have e3 : a.label = b.label := congrArg Ev.label he
          unfold evF; rw [e1, e2, e3]) _ _ p1
        show (_ ∨ _)
        have hwf : (w.mv.filter fun y => y.f = ((j : Nat) : Int)) = outM w j := rfl
        rw [hwf]
        rcases hfp with ⟨f1, f2⟩ | ⟨y1, y2, f1, f2, hyy⟩
        · rw [f1, f2]; exact .inl ⟨rfl, rfl⟩
        · rw [f1, f2]
          right
          have m1 := List.mem_of_find?_eq_some f1
          have m2 := List.mem_of_find?_eq_some f2
          have o1 := hO.mv y1 (outM_f m1).1
          have o2 := hO.mv y2 (outM_f m2).1
          have hD : (itC w N).getD y1.t.toNat 0 = (itC w N).getD y2.t.toNat 0 := by
            unfold sgM at hyy
            injection hyy with _ _ _ _ e5
            exact Int.ofNat.inj e5
          have hDl := itC_len w N
          obtain ⟨d1, hd1⟩ := get_some (l := itC w N) (i := y1.t.toNat) (by omega)
          obtain ⟨d2, hd2⟩ := get_some (l := itC w N) (i := y2.t.toNat) (by omega)
          rw [getD_some hd1, getD_some hd2] at hD
          have hCC : (cls w).1[y1.t.toNat]? = (cls w).1[y2.t.toNat]? := (hN2 _ _ (by omega) (by omega)).2 (by rw [hd1, hd2, hD])
          obtain ⟨c1, hc1⟩ := get_some (l := (cls w).1) (i := y1.t.toNat) (by omega)
          have hcQ := hc.pt i hi y1 m1
          rw [getD_some hc1] at hcQ
          refine ⟨idxF Q c1, y2.t.toNat, ?_, by show y2.t = _; omega, idxF_lt hcQ, by omega, by rw [← hCC, hc1, idxF_get hcQ]⟩
          show ((idxF Q ((cls w).1.getD y1.t.toNat 0) : Nat) : Int) = _
          rw [getD_some hc1]
      · rw [if_neg hx, if_neg hx]; exact .inl ⟨rfl, rfl⟩
  · intro a b hab hb
    rcases hab with ⟨_, e⟩ | ⟨i, j, rfl, rfl, _⟩ <;> omega
theorem raw_role {g : Gl} {role : Int} {m : Mch} (h : raw g role = (some m, 0)) : m.role = role := by
  unfold raw at h
  split at h
  · cases h
  · split at h
    · cases h
    · split at h
      · cases h
      · split at h
        · cases h
        · cases h; rfl
end Go.VC
end
