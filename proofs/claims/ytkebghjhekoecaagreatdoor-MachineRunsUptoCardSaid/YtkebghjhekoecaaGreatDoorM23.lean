/- Texts of this claim, joined: RjF, RjI, RjJ, RjVcE, RjVcF, QjVcK, RjK, RjVcG, RjL, RjM, RjArgs. -/
import Derived.Test.YtkebghjhekoecaaGreatDoorM22
import Derived.Test.YtkebghjhekoecaaGreatDoorM14
import Derived.Test.YtkebghjhekoecaaGreatDoorM19
import Derived.Test.YtkebghjhekoecaaGreatDoorM02
import Derived.Test.YtkebghjhekoecaaGreatDoorProg
import Derived.KernelRfl
import Derived.Test.YtkebghjhekoecaaGreatDoorM04
import Derived.Test.YtkebghjhekoecaaGreatDoorM17
import Derived.Test.YtkebghjhekoecaaGreatDoorRows
set_option linter.unusedVariables false
set_option linter.unusedSimpArgs false

section
/- Contracts: the move of a state with an event; Next and Run. (Numbers of layer 26's seat.) -/
namespace Go.VC
open Go.Proofs Go.LexS
set_option maxRecDepth 100000
/-- an event of a history, with the header of its values -/
structure Hv where
  role : Int
  send : Bool
  peer : Int
  label : Int
  vs : Sl
def Hv.cs (x : Hv) : List Value := [.int .i64 x.role, .bool x.send, .int .i64 x.peer, .int .i64 x.label, .slice x.vs.a x.vs.n x.vs.c]
def Hv.ev (x : Hv) : Ev := ⟨x.send, x.peer, x.label⟩
/-- the state behind an event, or -1 -/
def nxE (m : Mch) (s : Int) (e : Ev) : Int := match m.mv.find? fun y => decide (y.f = s ∧ y.ev = e) with | some y => y.t | none => -1
def nxH (m : Mch) (s : Int) (x : Hv) : Int := if x.role = m.role then nxE m s x.ev else -1
theorem nxE_none {m : Mch} {s : Int} {e : Ev} (h : ∀ x ∈ m.mv, x.f = s → x.ev ≠ e) : nxE m s e = -1 := by
  unfold nxE
  have : (m.mv.find? fun y => decide (y.f = s ∧ y.ev = e)) = none := by
    rw [List.find?_eq_none]
    intro x hx hd
    have := of_decide_eq_true hd
    exact h x hx this.1 this.2
  rw [this]
theorem nxE_some {m : Mch} (hD : DetM m) {s : Int} {e : Ev} {k : Nat} {y : Mv} (hk : m.mv[k]? = some y) (hf : y.f = s) (he : y.ev = e) : nxE m s e = y.t := by
  unfold nxE
  cases hq : m.mv.find? fun y => decide (y.f = s ∧ y.ev = e) with
  | none =>
    rw [List.find?_eq_none] at hq
    exact absurd (decide_eq_true ⟨hf, he⟩) (hq y (List.mem_of_getElem? hk))
  | some z =>
    have hz := List.find?_some hq
    obtain ⟨j, hj⟩ := List.mem_iff_getElem?.1 (List.mem_of_find?_eq_some hq)
    have hz2 : z.f = s ∧ z.ev = e := of_decide_eq_true hz
    by_cases e1 : j = k
    · subst e1; rw [hk] at hj; cases hj; rfl
    · exact absurd (hz2.2.trans he.symm) (hD j k z y hj hk e1 (by rw [hz2.1, hf])).1
theorem order103 (m : Mch) (sm : Sl) (b k : Nat) (a : Addr) (x : Mv) (e : Ev) (h : Heap) (ha : hc h a = some (.pointer (some ⟨b, 0, none⟩))) (hb : hc h ⟨b, 0 + 4, none⟩ = some (.slice sm.a sm.n sm.c)) (hr : Rw h 6 sm (m.mv.map Mv.cs)) (hx : m.mv[k]? = some x) :
    Fn Tryz.prog 103 #[.int .i64 (k : Nat), .agg ⟨e.cs⟩, .pointer (some a)] h fun v h' => v = .int .i64 (cmpE x.ev e) ∧ Ext h h' := by
  apply vc103 _ e.send e.peer e.label; unfold W103
  have hn := hr.ln
  have hxl := (List.getElem?_eq_some_iff.1 hx).1
  refine (St.refl h).newb fun h4 hs => ?_
  refine ⟨_, hc_ext hs.ext ha, ?_⟩
  refine ⟨sm, hc_ext hs.ext hb, ?_⟩
  refine (hr.ext hs.ext).nbI (by omega) (by omega) fun b8 o9 x' gx t => ?_
  replace gx : m.mv[k]? = some x' := gx
  rw [hx] at gx; cases gx
  refine ⟨_, _, _, _, _, _, t, _, _, _, hs.at 0 rfl (o := 0) (n := 3) rfl, ?_⟩
  refine (M.of63 x h4).mono ?_
  rintro _ h23 ⟨rfl, E⟩
  have hs := hs.step E
  refine ⟨_, _, _, rfl, E.sm, ?_⟩
  refine (M.compare104 x.ev e h23).mono ?_
  rintro _ h26 ⟨rfl, E2⟩
  exact ⟨_, rfl, rfl, (hs.step E2).ext⟩
theorem cal103 : callable Tryz.prog 103 = true := by kernel_rfl
theorem mid_nat {i j : Nat} (hi : i ≤ 1048576) (hj : j ≤ 1048576) : IntKind.wrap .i64 (shrI .u64 (IntKind.wrap .u64 (IntKind.wrap .i64 ((i : Int) + (j : Int)))) 1) = (((i + j) / 2 : Nat) : Int) := by
  have e1 : IntKind.wrap .i64 ((i : Int) + (j : Int)) = ((i + j : Nat) : Int) := by rw [w64 (by omega) (by omega)]; omega
  have e2 : shrI .u64 ((i + j : Nat) : Int) 1 = (((i + j) / 2 ^ 1 : Nat) : Int) := shr_nat (k := 1) (by decide)
  rw [e1, wu64 (by omega) (by omega), e2, show (2 ^ 1 : Nat) = 2 from rfl, w64 (by omega) (by omega)]
theorem cmpE_zero {x y : Ev} (h : cmpE x y = 0) : x = y := by
  unfold cmpE at h
  split at h
  · split at h <;> omega
  · rename_i hs
    unfold orI3 at h
    split at h
    · rename_i h1; exact absurd h h1
    · rename_i h1
      exact ev_ext (Classical.not_not.1 hs) (cmpI_zero.1 (Classical.not_not.1 h1)) (cmpI_zero.1 h)
theorem search102 (m : Mch) (sm : Sl) (b c : Nat) (l : List Nat) (s : Sl) (e : Ev) (h : Heap) (ha : hc h ⟨c, 0, none⟩ = some (.pointer (some ⟨b, 0, none⟩))) (hb : hc h ⟨b, 0 + 4, none⟩ = some (.slice sm.a sm.n sm.c)) (hr : Rw h 6 sm (m.mv.map Mv.cs))
    (hl : Rw h 1 s ((natI l).map inC)) (hlm : ∀ k ∈ l, ∃ x, m.mv[k]? = some x) (hll : l.length ≤ 1048576) (hso : ∀ (j i : Nat) (a b : Nat), i < j → l[i]? = some a → l[j]? = some b → evLt (evI m a) (evI m b)) :
    Fn Tryz.prog 102 #[.slice s.a s.n s.c, .agg ⟨e.cs⟩, .func (.func 103) #[] #[.pointer (some ⟨c, 0, none⟩)]] h fun v h' => Ext h h' ∧ ∃ (i : Int) (f : Bool), v = .tuple ⟨[.int .i64 i, .bool f]⟩ ∧ (f = true → ∃ (j k : Nat), i = (j : Int) ∧ l[j]? = some k ∧ evI m k = e) ∧ (f = false → ∀ k ∈ l, evI m k ≠ e) := by
  apply vc102 s e.send e.peer e.label 103 (some ⟨c, 0, none⟩); unfold W102
  have hn := hl.ln
  rw [show (natI l).length = l.length from List.length_map _] at hn
  refine (St.refl h).newb fun h4 hs => ?_
  refine ⟨fun x y h' μ => ∃ i j : Nat, x = i ∧ y = j ∧ i ≤ j ∧ j ≤ s.n ∧ μ = j - i ∧ St h h' [.blk h.size e.cs 79] ∧ (∀ (t : Nat) k, t < i → l[t]? = some k → evLt (evI m k) e) ∧ ∀ (t : Nat) k, j ≤ t → l[t]? = some k → ¬ evLt (evI m k) e,
    ⟨_, 0, s.n, rfl, rfl, by omega, Nat.le_refl _, rfl, hs, fun t k ht => by omega, fun t k ht hk => by have := (List.getElem?_eq_some_iff.1 hk).1; omega⟩, ?_⟩
  clear hs
  rintro - _ _ h10 μ ⟨i, j, rfl, rfl, hij, hj, rfl, hs, hlo, hhi⟩
  refine sBi (fun c1 => ?_) (fun c1 => ?_)
  · rw [mid_nat (by omega) (by omega)]
    refine ⟨by decide, ?_⟩
    refine (hl.ext hs.ext).nbI (by omega) (by omega) fun b11 o12 d gd t => ?_
    replace gd : (natI l)[(i + j) / 2]? = some d := gd
    obtain ⟨k, hk, rfl⟩ := natI_get gd
    obtain ⟨x, hx⟩ := hlm k (List.mem_of_getElem? hk)
    refine ⟨_, t.nth 0 rfl, _, _, _, hs.at 0 rfl (o := 0) (n := 3) rfl, ?_⟩
    rw [cal103, cond_true]
    refine (order103 m sm b k ⟨c, 0, none⟩ x e h10 (hc_ext hs.ext ha) (hc_ext hs.ext hb) (hr.ext hs.ext) hx).mono ?_
    rintro _ h19 ⟨rfl, E⟩
    have hs := hs.step E
    have hev : evI m k = x.ev := evI_of hx
    refine ⟨_, rfl, sBi (fun c2 => ?_) (fun c2 => ?_)⟩
    · rw [cmpE_neg] at c2
      refine ⟨_, ?_, (i + j) / 2 + 1, j, by rw [w64 (by omega) (by omega)]; omega, rfl, by omega, hj, rfl, hs, fun t k' ht hk' => ?_, hhi⟩
      · omega
      · by_cases et : t = (i + j) / 2
        · subst et; rw [hk] at hk'; cases hk'; rw [hev]; exact c2
        · have h1 := hso ((i + j) / 2) t k' k (by omega) hk' hk
          rw [hev] at h1
          exact evLt_trans h1 c2
    · rw [cmpE_neg] at c2
      refine ⟨_, ?_, i, (i + j) / 2, rfl, rfl, by omega, by omega, rfl, hs, hlo, fun t k' ht hk' => ?_⟩
      · omega
      · by_cases et : t = (i + j) / 2
        · subst et; rw [hk] at hk'; cases hk'; rw [hev]; exact c2
        · have h1 := hso t ((i + j) / 2) k k' (by omega) hk hk'
          rw [hev] at h1
          exact fun h2 => c2 (evLt_trans h1 h2)
  · have hijj : i = j := by omega
    subst hijj
    refine sBi (fun c2 => ?_) (fun c2 => ⟨hs.ext, _, false, rfl, (fun hf => by cases hf), fun _ k hk he => ?_⟩)
    · refine (hl.ext hs.ext).nbI (by omega) (by omega) fun b22 o23 d gd t => ?_
      replace gd : (natI l)[i]? = some d := gd
      obtain ⟨k, hk, rfl⟩ := natI_get gd
      obtain ⟨x, hx⟩ := hlm k (List.mem_of_getElem? hk)
      refine ⟨_, t.nth 0 rfl, _, _, _, hs.at 0 rfl (o := 0) (n := 3) rfl, ?_⟩
      rw [cal103, cond_true]
      refine (order103 m sm b k ⟨c, 0, none⟩ x e h10 (hc_ext hs.ext ha) (hc_ext hs.ext hb) (hr.ext hs.ext) hx).mono ?_
      rintro _ h30 ⟨rfl, E⟩
      have hev : evI m k = x.ev := evI_of hx
      refine ⟨_, rfl, (hs.step E).ext, _, _, rfl, fun hf => ⟨i, k, rfl, hk, ?_⟩, fun hf k' hk' he => ?_⟩
      · have h0 : cmpE x.ev e = 0 := by simpa using hf
        rw [hev]
        exact cmpE_zero h0
      · have h0 : cmpE x.ev e ≠ 0 := by simpa using hf
        obtain ⟨t, ht⟩ := List.mem_iff_getElem?.1 hk'
        rcases Nat.lt_trichotomy t i with h1 | h1 | h1
        · have := hlo t k' h1 ht
          rw [he] at this
          exact evLt_irr _ this
        · subst h1
          rw [hk] at ht; cases ht
          rw [hev] at he
          apply h0
          rw [he]
          unfold cmpE orI3 cmpI
          simp
        · have h2 := hso t i k k' h1 hk ht
          rw [he, hev] at h2
          exact hhi i k (Nat.le_refl _) hk (by rw [hev]; exact h2)
    · obtain ⟨t, ht⟩ := List.mem_iff_getElem?.1 hk
      have htl := (List.getElem?_eq_some_iff.1 ht).1
      have := hlo t k (by omega) ht
      rw [he] at this
      exact evLt_irr _ this
theorem find48 (m : Mch) (sf sm sl : Sl) (b : Nat) (S : Nat → List Nat) (s : Int) (e : Ev) (h : Heap) (hM : MI h m sf sm sl) (hV : VM m) (hT : TbI h ⟨b, 0, none⟩ m sf sm sl S) (h0 : 0 ≤ s) (h1 : s < m.n) :
    Fn Tryz.prog 48 #[.pointer (some ⟨b, 0, none⟩), .int .i64 s, .agg ⟨e.cs⟩] h fun v h' => Ext h h' ∧ ((v = .int .i64 (-1) ∧ nxE m s e = -1) ∨ ∃ (k : Nat) (y : Mv), v = .int .i64 (k : Nat) ∧ m.mv[k]? = some y ∧ nxE m s e = y.t) := by
  apply vc48 ⟨b, 0, none⟩ s e.send e.peer e.label; unfold W48
  obtain ⟨ho, qs, _, hat, hhn, hho, hqs⟩ := hT.ex
  have hmn := hM.pm.ln
  have hmm := hM.pm.sm
  have hvl : s.toNat < m.n.toNat := by omega
  have hS := hT.so s.toNat hvl
  have hrow := hqs s.toNat hvl
  have hsi : ((s.toNat : Nat) : Int) = s := by omega
  refine (St.refl h).newb fun h4 hs => ?_
  refine hs.newb fun h5 hs => ?_
  refine ⟨_, hs.rd 1 rfl rfl, ?_⟩
  refine ⟨ho, (atC_ext hs.ext hat).nth 6 rfl, ?_⟩
  refine (hho.ext hs.ext).nbI (by omega) (by omega) fun b9 o10 v gv t => ?_
  have hv : v = s.toNat := by rw [List.getElem?_range hvl] at gv; exact (Option.some.inj gv).symm
  subst hv
  have hlm : ∀ k ∈ S s.toNat, ∃ x, m.mv[k]? = some x ∧ x.f = s := fun k hk => by
    obtain ⟨x, hx, hf⟩ := outIx_mem.1 (hS.p.mem_iff.1 hk)
    exact ⟨x, hx, by omega⟩
  have hll : (S s.toNat).length ≤ 1048576 := by
    rw [hS.p.length_eq]
    unfold outIx
    exact Nat.le_trans (List.length_filter_le _ _) (by rw [List.length_range]; omega)
  have hnd := hS.p.nodup_iff.2 (outIx_nodup m ((s.toNat : Nat) : Int))
  have hso : ∀ (j i : Nat) (a b : Nat), i < j → (S s.toNat)[i]? = some a → (S s.toNat)[j]? = some b → evLt (evI m a) (evI m b) := by
    refine srt_lt hS fun j a b ha hb => ?_
    obtain ⟨x, hx, hxf⟩ := hlm a (List.mem_of_getElem? ha)
    obtain ⟨y, hy, hyf⟩ := hlm b (List.mem_of_getElem? hb)
    have hne : a ≠ b := fun e => by
      have h1 := (List.getElem?_eq_some_iff.1 ha)
      have h2 := (List.getElem?_eq_some_iff.1 hb)
      have h3 := (List.pairwise_iff_getElem.1 hnd) j (j + 1) h1.1 h2.1 (by omega)
      rw [h1.2, h2.2] at h3
      exact h3 e
    rw [evI_of hx, evI_of hy]
    exact (hV.d a b x y hx hy hne (by omega)).1
  refine ⟨_, t.hd, _, _, _, hs.at 0 rfl (o := 0) (n := 3) rfl, ?_⟩
  refine (search102 m sm b h.size (S s.toNat) (qs s.toNat) e h5 (hs.rd 1 rfl rfl) ((atC_ext hs.ext hat).nth 4 rfl) (hM.pm.rw.ext hs.ext) (hrow.ext hs.ext) (fun k hk => (hlm k hk).imp fun x hx => hx.1) hll hso).mono ?_
  rintro _ h18 ⟨E, i, f, rfl, hft, hff⟩
  have hs := hs.step E
  refine ⟨_, _, rfl, sB_intro (fun c => ?_) (fun c => ?_)⟩
  · refine ⟨hs.ext, .inl ⟨rfl, nxE_none fun x hx hxf => ?_⟩⟩
    obtain ⟨k, hk⟩ := List.mem_iff_getElem?.1 hx
    have := hff (bF c) k (hS.p.mem_iff.2 (outIx_mem.2 ⟨x, hk, by omega⟩))
    rwa [evI_of hk] at this
  · obtain ⟨j, k, rfl, hjk, hev⟩ := hft (bT c)
    obtain ⟨x, hx, hxf⟩ := hlm k (List.mem_of_getElem? hjk)
    have hjl := (List.getElem?_eq_some_iff.1 hjk).1
    refine ⟨_, hs.rd 1 rfl rfl, ho, (atC_ext hs.ext hat).nth 6 rfl, ?_⟩
    refine (hho.ext hs.ext).nbI (by omega) (by omega) fun b22 o23 v gv t => ?_
    have hv : v = s.toNat := by rw [List.getElem?_range hvl] at gv; exact (Option.some.inj gv).symm
    subst hv
    have hrn := hrow.ln
    rw [show (natI (S s.toNat)).length = (S s.toNat).length from List.length_map _] at hrn
    refine ⟨_, t.hd, ?_⟩
    refine (hrow.ext hs.ext).nbI (by omega) (by omega) fun b25 o26 d gd t2 => ?_
    replace gd : (natI (S s.toNat))[j]? = some d := gd
    obtain ⟨k', hk', rfl⟩ := natI_get gd
    rw [hjk] at hk'; cases hk'
    refine ⟨_, t2.nth 0 rfl, hs.ext, .inr ⟨k, x, rfl, hx, nxE_some hV.d hx hxf ?_⟩⟩
    rw [← evI_of hx]; exact hev
/-- what a history does: the state, how many events, the error -/
def runN (m : Mch) : Int → Nat → List Hv → Int × Nat × Int
  | s, i, [] => (s, i, 0)
  | s, i, x :: l => if 0 ≤ nxH m s x then runN m (nxH m s x) (i + 1) l else (s, i, 23)
def runV (r : Int × Nat × Int) : Value := .tuple ⟨[.int .i64 r.1, .int .i64 (r.2.1 : Nat), .int .i64 r.2.2]⟩
/-- a new block that is filled at once, with what it leaves -/
theorem newput' {h0 h : Heap} {L : List It} {zs vs : List Value} {e : TypeId} {K : Heap → Prop} {n : Nat} (hn : n = vs.length) (hl : zs.length = vs.length) (hs : St h0 h L) (hK : ∀ h3, Ext h h3 → St h0 h3 (.blk h.size vs e :: L) → K h3) :
    ∀ h2 : Heap, h2 = h.push (.cells ⟨zs⟩ e) → okAt h2 ⟨h.size, 0, none⟩ n ∧ ∀ h3 : Heap, h3 = hputs h2 ⟨h.size, 0, none⟩ 0 vs → K h3 := by
  subst hn
  exact VC.newput hl fun h3 E o => hK h3 E (hs.more E (i := .blk h.size vs e) o fun b hb => by cases hb; exact Nat.le_refl _)
open Classical in
theorem run14 (m : Mch) (sf sm sl : Sl) (L : List Hv) (s : Sl) (h : Heap) (hM : MI h m sf sm sl) (hL : Rw h 5 s (L.map Hv.cs)) (hLm : L.length ≤ 1048576) :
    Fn Tryz.prog 14 #[.agg ⟨mC m sf sm sl⟩, .slice s.a s.n s.c] h fun v h' => v = runV (if VM m then runN m m.s 0 L else (0, 0, 1)) ∧ Ext h h' := by
  apply vc14 m.role m.n m.s sf sm sl; unfold W14
  have hmn := hM.pm.ln
  have hsn := hL.ln
  refine (St.refl h).newb fun h7 hs => ?_
  refine ⟨_, _, _, sf, sm, sl, hs.at 0 rfl (o := 0) (n := 6) rfl, ?_⟩
  refine (open47 m sf sm sl h7 (hM.ext hs.ext)).mono ?_
  rintro _ h17 ⟨E, p, b, rfl, hb, hbT⟩
  have hs := hs.step E
  refine ⟨_, _, rfl, sB_intro (fun c => ⟨by rw [if_neg (iff_f hb (bF c))]; rfl, hs.ext⟩) (fun c => ?_)⟩
  obtain ⟨b0, S, rfl, hT⟩ := hbT (bT c)
  have hV := hb.1 (bT c)
  rw [if_pos hV]
  have hms := hV.n.s
  refine ⟨_, hs.rd 0 rfl rfl, ?_⟩
  refine ⟨fun a x h' μ => ∃ i : Nat, x = i ∧ i ≤ s.n ∧ μ = s.n - i ∧ 0 ≤ a ∧ a < m.n ∧ runN m m.s 0 L = runN m a i (L.drop i) ∧ St h h' [.blk h.size (mC m sf sm sl) 26] ∧ TbI h' ⟨b0, 0, none⟩ m sf sm sl S, ⟨_, 0, rfl, by omega, rfl, hms.1, hms.2, rfl, hs, hT⟩, ?_⟩
  clear hs hT
  rintro - a _ h24 μ ⟨i, rfl, hi, rfl, ha0, ha1, hrun, hs, hT⟩
  refine sB_intro (fun c1 => ?_) (fun c1 => ?_)
  · replace c1 := lt_t c1
    refine (hL.ext hs.ext).nbI (by omega) (by omega) fun b25 o26 x gx t => ?_
    replace gx : L[i]? = some x := gx
    have hdr : L.drop i = x :: L.drop (i + 1) := drop_get gx
    rw [hdr, runN] at hrun
    refine ⟨_, _, _, _, _, t, ?_⟩
    refine newput' (vs := x.cs) rfl rfl hs fun h33 E33 hs => ?_
    have hT := hT.ext E33
    refine ⟨fun k h' => St h h' [.blk h24.size x.cs 37, .blk h.size (mC m sf sm sl) 26] ∧ TbI h' ⟨b0, 0, none⟩ m sf sm sl S ∧ ((k = -1 ∧ nxH m a x = -1) ∨ ∃ (kn : Nat) (y : Mv), k = (kn : Int) ∧ m.mv[kn]? = some y ∧ nxH m a x = y.t), ?_, ?_⟩
    · refine ⟨_, hs.rd 0 rfl rfl, _, hs.rd 1 rfl rfl, sBe (fun c2 => ?_) (fun c2 => ?_)⟩
      · refine ⟨_, hs.rd 0 rfl rfl, _, hs.rd 0 rfl rfl, _, hs.rd 0 rfl rfl, ?_⟩
        refine (find48 m sf sm sl b0 S a x.ev h33 (hM.ext hs.ext) hV hT ha0 ha1).mono ?_
        rintro _ h42 ⟨E, hr⟩
        have hnx : nxH m a x = nxE m a x.ev := by unfold nxH; rw [if_pos c2]
        rcases hr with ⟨rfl, hn⟩ | ⟨k, y, rfl, hy, hn⟩
        · exact ⟨_, rfl, hs.step E, hT.ext E, .inl ⟨rfl, by rw [hnx, hn]⟩⟩
        · exact ⟨_, rfl, hs.step E, hT.ext E, .inr ⟨k, y, rfl, hy, by rw [hnx, hn]⟩⟩
      · exact ⟨hs, hT, .inl ⟨rfl, by unfold nxH; rw [if_neg c2]⟩⟩
    · clear hs hT
      rintro - k h44 ⟨hs, hT, hk⟩
      rcases hk with ⟨rfl, hn⟩ | ⟨kn, y, rfl, hy, hn⟩
      · refine sBi (fun _ => ⟨?_, hs.ext⟩) (fun c3 => absurd (by decide) c3)
        rw [hrun, if_neg (by omega)]; rfl
      · have hyl := (List.getElem?_eq_some_iff.1 hy).1
        have hyr := hV.n.mv y (List.mem_of_getElem? hy)
        refine sBi (fun c3 => by omega) (fun _ => ?_)
        refine ⟨sm, hs.rd 1 rfl rfl, ?_⟩
        refine (hM.pm.rw.ext hs.ext).nbI (by omega) (by omega) fun b46 o47 y' gy t2 => ?_
        replace gy : m.mv[kn]? = some y' := gy
        rw [hy] at gy; cases gy
        refine ⟨_, t2.nth 4 rfl, s.n - (i + 1), by omega, i + 1, by rw [w64 (by omega) (by omega)]; omega, by omega, rfl, by omega, by omega, ?_, hs.drop 1, hT⟩
        rw [hrun, if_pos (by omega), hn]
  · replace c1 := lt_f c1
    have his : i = s.n := by omega
    subst his
    refine ⟨?_, hs.ext⟩
    rw [hrun, List.drop_eq_nil_of_le (by omega)]; rfl
end Go.VC
end

section
/- Contract: the laws of layer 26 are awake. -/
namespace Go.VC
open Go.Proofs Go.LexS
set_option maxRecDepth 100000
def exM : Mch := ⟨2, 4, 0, [false, false, false, true], [⟨0, false, 1, 0, 1, false⟩, ⟨0, false, 1, 1, 2, false⟩, ⟨1, true, 1, 2, 3, false⟩, ⟨2, true, 1, 3, 3, false⟩], []⟩
theorem ex_raw_true (hr hd he ht : Sl) : rawC (exGl true hr hd he ht) 2 = some (some exM, 0) := by kernel_rfl
theorem ex_min : minF exM = exM := by kernel_rfl
theorem ex_true (hr hd he ht : Sl) : proj (exGl true hr hd he ht) 2 = (some exM, 0) := by
  have := rawC_ok (ex_valid true hr hd he ht) (by decide) (show (2 : Int) < ((3 : Nat) : Int) by decide) (ex_raw_true hr hd he ht)
  unfold proj
  rw [this]
  show (some (minF exM), 0) = _
  rw [ex_min]
theorem exM_get (i : Nat) (x : Mv) (h : exM.mv[i]? = some x) : (i = 0 ∧ x = ⟨0, false, 1, 0, 1, false⟩) ∨ (i = 1 ∧ x = ⟨0, false, 1, 1, 2, false⟩) ∨ (i = 2 ∧ x = ⟨1, true, 1, 2, 3, false⟩) ∨ (i = 3 ∧ x = ⟨2, true, 1, 3, 3, false⟩) := by
  match i, h with
  | 0, h => exact .inl ⟨rfl, (Option.some.inj h).symm⟩
  | 1, h => exact .inr (.inl ⟨rfl, (Option.some.inj h).symm⟩)
  | 2, h => exact .inr (.inr (.inl ⟨rfl, (Option.some.inj h).symm⟩))
  | 3, h => exact .inr (.inr (.inr ⟨rfl, (Option.some.inj h).symm⟩))
  | n + 4, h => exact absurd h (by simp [exM])
theorem exM_mem (x : Mv) (h : x ∈ exM.mv) : x = ⟨0, false, 1, 0, 1, false⟩ ∨ x = ⟨0, false, 1, 1, 2, false⟩ ∨ x = ⟨1, true, 1, 2, 3, false⟩ ∨ x = ⟨2, true, 1, 3, 3, false⟩ := by
  obtain ⟨i, hi⟩ := List.mem_iff_getElem?.1 h
  rcases exM_get i x hi with ⟨_, e⟩ | ⟨_, e⟩ | ⟨_, e⟩ | ⟨_, e⟩
  · exact .inl e
  · exact .inr (.inl e)
  · exact .inr (.inr (.inl e))
  · exact .inr (.inr (.inr e))
theorem exM_ag (x : Mv) (h : x ∈ exM.mv) : x.ag = false := by
  rcases exM_mem x h with rfl | rfl | rfl | rfl <;> rfl
theorem exVM : VM exM := by
  refine ⟨⟨⟨by decide, by decide⟩, ⟨by decide, by decide⟩, ⟨by decide, by decide⟩, rfl, by decide, fun x hx => ?_⟩, fun i k x y hx hy hne hf => ?_, fun v h0 h1 => ?_, ⟨fun x hx ha => ?_, fun x hx ha => ?_, fun x hx ha => ?_, fun x hx ha => ?_, fun x hx ha => ?_⟩, fun i t h => ?_⟩
  · rcases exM_mem x hx with rfl | rfl | rfl | rfl <;> decide
  · rcases exM_get i x hx with ⟨rfl, rfl⟩ | ⟨rfl, rfl⟩ | ⟨rfl, rfl⟩ | ⟨rfl, rfl⟩ <;> rcases exM_get k y hy with ⟨rfl, rfl⟩ | ⟨rfl, rfl⟩ | ⟨rfl, rfl⟩ | ⟨rfl, rfl⟩ <;> first
      | exact absurd rfl hne
      | exact absurd hf (by decide)
      | exact ⟨fun e => absurd (congrArg Ev.label e) (by decide), rfl⟩
  · have q0 : Qr (meds exM) (-1) [exM.s] 0 := .base (List.mem_singleton.2 rfl)
    have q1 : Qr (meds exM) (-1) [exM.s] 1 := .step q0 ⟨⟨0, 0, 0, 0, 1, false⟩, List.mem_map.2 ⟨⟨0, false, 1, 0, 1, false⟩, by simp [exM], rfl⟩, rfl, rfl, rfl⟩
    have q2 : Qr (meds exM) (-1) [exM.s] 2 := .step q0 ⟨⟨0, 0, 0, 0, 2, false⟩, List.mem_map.2 ⟨⟨0, false, 1, 1, 2, false⟩, by simp [exM], rfl⟩, rfl, rfl, rfl⟩
    have q3 : Qr (meds exM) (-1) [exM.s] 3 := .step q1 ⟨⟨1, 0, 0, 0, 3, false⟩, List.mem_map.2 ⟨⟨1, true, 1, 2, 3, false⟩, by simp [exM], rfl⟩, rfl, rfl, rfl⟩
    have h1 : v < 4 := h1
    have : v = 0 ∨ v = 1 ∨ v = 2 ∨ v = 3 := by omega
    rcases this with rfl | rfl | rfl | rfl
    · exact q0
    · exact q1
    · exact q2
    · exact q3
  · rw [exM_ag x hx] at ha; cases ha
  · rw [exM_ag x hx] at ha; cases ha
  · rw [exM_ag x hx] at ha; cases ha
  · rw [exM_ag x hx] at ha; cases ha
  · rw [exM_ag x hx] at ha; cases ha
  · simp [exM] at h
def evA (l : Int) : Hv := ⟨2, false, 1, l, ⟨none, 0, 0⟩⟩
def evB : Hv := ⟨2, true, 1, 2, ⟨none, 0, 0⟩⟩
theorem ex_run0 : runN exM exM.s 0 [evA 0, evB] = (3, 2, 0) := by kernel_rfl
theorem ex_run1 : runN exM exM.s 0 [evA 1, evB] = (2, 1, 23) := by kernel_rfl
theorem hvrows (L : List Hv) : ∀ r ∈ L.map Hv.cs, r.length = 5 := fun r hr => by obtain ⟨x, _, rfl⟩ := List.mem_map.1 hr; rfl
set_option maxHeartbeats 1600000 in
theorem awake12 (h : Heap) (hx : Gx h) : Fn Tryz.prog 12 #[] h fun v h' => v = .bool true ∧ Ext h h' := by
  apply vc12; unfold W12
  have hs := St.refl h
  refine (example34 true h).mono ?_
  rintro _ h10 ⟨E10, hr, hd, he, rfl, hg⟩
  refine ⟨_, hr, hd, _, _, _, he, ⟨none, 0, 0⟩, rfl, ?_⟩
  refine (project12 _ 2 h10 hg (hx.ext E10)).mono ?_
  rintro _ h19 ⟨E19, hm⟩
  rw [ex_true] at hm
  cases hm with
  | err he0 _ => cases he0
  | @ok m sf sm sl he0 hs2 =>
    cases he0
    have hM : MI h19 exM sf sm sl := ⟨hs2.rl 0 rfl (by omega) (by decide), hs2.rl 1 rfl (by omega) (by decide), hs2.rl 2 rfl (by omega) (by decide)⟩
    have E0 : Ext h h19 := E10.trans E19
    refine ⟨_, _, _, sf, sm, sl, 0, rfl, ?_⟩
    refine (St.refl h19).newput (vs := mC exM sf sm sl) rfl rfl fun h21 hs => ?_
    refine hs.newb fun h22 hs => ?_
    refine hs.newb fun h23 hs => ?_
    refine hs.put 1 rfl (o := 0) (vs := (evA 0).cs) rfl (show 5 ≤ 5 by decide) fun h24 hs => ?_
    refine hs.put 0 rfl (o := 0) (vs := evB.cs) rfl (show 5 ≤ 5 by decide) fun h25 hs => ?_
    refine ⟨_, _, _, sf, sm, sl, hs.at 2 rfl (o := 0) (n := 6) rfl, _, _, _, _, ⟨none, 0, 0⟩, hs.at 1 rfl (o := 0) (n := 5) rfl, _, _, _, _, ⟨none, 0, 0⟩, hs.at 0 rfl (o := 0) (n := 5) rfl, ?_⟩
    refine hs.newb fun h42 hs => ?_
    have hs := hs.blkS 2 5 ([evA 0, evB].map Hv.cs) rfl (hvrows _) rfl (by decide)
    refine (run14 exM sf sm sl [evA 0, evB] _ h42 (hM.ext hs.ext) (hs.rows 0 rfl (by omega)) (by decide)).mono ?_
    rintro _ h47 ⟨rfl, E⟩
    have hs := hs.step E
    rw [if_pos exVM, ex_run0]
    refine ⟨_, _, _, rfl, ?_⟩
    refine hs.put 2 rfl (o := 3) (vs := [.int .i64 1]) rfl (show 3 + 1 ≤ 5 by decide) fun h48 hs => ?_
    refine ⟨_, _, _, sf, sm, sl, hs.at 3 rfl (o := 0) (n := 6) rfl, _, _, _, _, ⟨none, 0, 0⟩, hs.at 2 rfl (o := 0) (n := 5) rfl, _, _, _, _, ⟨none, 0, 0⟩, hs.at 1 rfl (o := 0) (n := 5) rfl, ?_⟩
    refine hs.newb fun h65 hs => ?_
    have hs := hs.blkS 2 5 ([evA 1, evB].map Hv.cs) rfl (hvrows _) rfl (by decide)
    refine (run14 exM sf sm sl [evA 1, evB] _ h65 (hM.ext hs.ext) (hs.rows 0 rfl (by omega)) (by decide)).mono ?_
    rintro _ h70 ⟨rfl, E⟩
    have hs := hs.step E
    rw [if_pos exVM, ex_run1]
    refine ⟨_, _, _, rfl, ?_⟩
    refine sB_t rfl (sB_t rfl (sB_t rfl (sB_t rfl (sB_t rfl ?_))))
    refine ⟨_, _, _, sf, sm, sl, hs.at 4 rfl (o := 0) (n := 6) rfl, ?_⟩
    refine (valid23 exM sf sm sl h70 (hM.ext hs.ext)).mono ?_
    rintro _ h79 ⟨⟨b, rfl, hb⟩, E⟩
    exact ⟨_, rfl, by rw [hb.2 exVM], E0.trans (hs.step E).ext⟩
end Go.VC
end

section
/- The walk of the law of histories step by step. (Numbers of layer 26's seat.) -/
namespace Go.VC
open Go.Proofs Go.LexS
set_option maxRecDepth 100000
end Go.VC
end

section
namespace Go.VC
open Go.Proofs
set_option maxRecDepth 100000
set_option linter.unusedVariables false

def W3 (p0_1 p0_2 p0_3 : Int) (p0_4 p0_5 p0_6 : Sl) (p1_7 p1_8 p1_9 : Int) (p1_10 p1_11 p1_12 p2 : Sl) (h : Heap) (R : Value → Heap → Prop) : Prop :=
 (∀ h13 : Heap, h13 = h.push (.cells ⟨[.int .i64 p0_1, .int .i64 p0_2, .int .i64 p0_3, .slice p0_4.a p0_4.n p0_4.c, .slice p0_5.a p0_5.n p0_5.c, .slice p0_6.a p0_6.n p0_6.c]⟩ 26) →
 (∀ h14 : Heap, h14 = h13.push (.cells ⟨[.int .i64 p1_7, .int .i64 p1_8, .int .i64 p1_9, .slice p1_10.a p1_10.n p1_10.c, .slice p1_11.a p1_11.n p1_11.c, .slice p1_12.a p1_12.n p1_12.c]⟩ 26) →
 (Fn Tryz.prog 12 #[] h14
 (fun v15 h17 => ∃ x16 : Bool, v15 = .bool x16 ∧
 (sB (!x16)
 (R (.bool false) h17)
 ((∃ (x18 x19 x20 : Int) (x21 x22 x23 : Sl), atC h17 ⟨h.size, 0, none⟩ [.int .i64 x18, .int .i64 x19, .int .i64 x20, .slice x21.a x21.n x21.c, .slice x22.a x22.n x22.c, .slice x23.a x23.n x23.c] ∧
 (Fn Tryz.prog 13 #[.agg ⟨[.int .i64 x18, .int .i64 x19, .int .i64 x20, .slice x21.a x21.n x21.c, .slice x22.a x22.n x22.c, .slice x23.a x23.n x23.c]⟩] h17
 (fun v24 h26 => ∃ x25 : Bool, v24 = .bool x25 ∧
 (sB (!x25)
 (R (.bool true) h26)
 ((∃ (x27 x28 x29 : Int) (x30 x31 x32 : Sl), atC h26 ⟨h13.size, 0, none⟩ [.int .i64 x27, .int .i64 x28, .int .i64 x29, .slice x30.a x30.n x30.c, .slice x31.a x31.n x31.c, .slice x32.a x32.n x32.c] ∧
 (Fn Tryz.prog 13 #[.agg ⟨[.int .i64 x27, .int .i64 x28, .int .i64 x29, .slice x30.a x30.n x30.c, .slice x31.a x31.n x31.c, .slice x32.a x32.n x32.c]⟩] h26
 (fun v33 h35 => ∃ x34 : Bool, v33 = .bool x34 ∧
 (sB (!x34)
 (R (.bool true) h35)
 ((sB (decide ((p2.n : Int) > 30))
 (R (.bool true) h35)
 ((∃ (x36 x37 x38 : Int) (x39 x40 x41 : Sl), atC h35 ⟨h.size, 0, none⟩ [.int .i64 x36, .int .i64 x37, .int .i64 x38, .slice x39.a x39.n x39.c, .slice x40.a x40.n x40.c, .slice x41.a x41.n x41.c] ∧
 (Fn Tryz.prog 14 #[.agg ⟨[.int .i64 x36, .int .i64 x37, .int .i64 x38, .slice x39.a x39.n x39.c, .slice x40.a x40.n x40.c, .slice x41.a x41.n x41.c]⟩, .slice p2.a p2.n p2.c] h35
 (fun v42 h46 => ∃ (x43 x44 x45 : Int), v42 = .tuple ⟨[.int .i64 x43, .int .i64 x44, .int .i64 x45]⟩ ∧
 (∃ (x47 x48 x49 : Int) (x50 x51 x52 : Sl), atC h46 ⟨h.size, 0, none⟩ [.int .i64 x47, .int .i64 x48, .int .i64 x49, .slice x50.a x50.n x50.c, .slice x51.a x51.n x51.c, .slice x52.a x52.n x52.c] ∧
 (Fn Tryz.prog 15 #[.agg ⟨[.int .i64 x47, .int .i64 x48, .int .i64 x49, .slice x50.a x50.n x50.c, .slice x51.a x51.n x51.c, .slice x52.a x52.n x52.c]⟩, .slice p2.a p2.n p2.c] h46
 (fun v53 h57 => ∃ (x54 x55 x56 : Int), v53 = .tuple ⟨[.int .i64 x54, .int .i64 x55, .int .i64 x56]⟩ ∧
 (sB (x43 == x54)
 ((sB (x44 == x55)
 ((sB (x45 == x56)
 ((∃ (x58 x59 x60 : Int) (x61 x62 x63 : Sl), atC h57 ⟨h.size, 0, none⟩ [.int .i64 x58, .int .i64 x59, .int .i64 x60, .slice x61.a x61.n x61.c, .slice x62.a x62.n x62.c, .slice x63.a x63.n x63.c] ∧
 (∃ (x64 x65 x66 : Int) (x67 x68 x69 : Sl), atC h57 ⟨h13.size, 0, none⟩ [.int .i64 x64, .int .i64 x65, .int .i64 x66, .slice x67.a x67.n x67.c, .slice x68.a x68.n x68.c, .slice x69.a x69.n x69.c] ∧
 (∃ (x70 x71 x72 : Int) (x73 x74 x75 : Sl), atC h57 ⟨h.size, 0, none⟩ [.int .i64 x70, .int .i64 x71, .int .i64 x72, .slice x73.a x73.n x73.c, .slice x74.a x74.n x74.c, .slice x75.a x75.n x75.c] ∧
 (∃ (x76 x77 x78 : Int) (x79 x80 x81 : Sl), atC h57 ⟨h13.size, 0, none⟩ [.int .i64 x76, .int .i64 x77, .int .i64 x78, .slice x79.a x79.n x79.c, .slice x80.a x80.n x80.c, .slice x81.a x81.n x81.c] ∧
 (Fn Tryz.prog 16 #[.agg ⟨[.int .i64 x58, .int .i64 x59, .int .i64 x60, .slice x61.a x61.n x61.c, .slice x62.a x62.n x62.c, .slice x63.a x63.n x63.c]⟩, .agg ⟨[.int .i64 x64, .int .i64 x65, .int .i64 x66, .slice x67.a x67.n x67.c, .slice x68.a x68.n x68.c, .slice x69.a x69.n x69.c]⟩] h57
 (fun v82 h84 => ∃ x83 : Bool, v82 = .bool x83 ∧
 (Sm [⟨h13.size, 0, none⟩, ⟨h.size, 0, none⟩] h57 h84 ∧
 (Fn Tryz.prog 17 #[.agg ⟨[.int .i64 x70, .int .i64 x71, .int .i64 x72, .slice x73.a x73.n x73.c, .slice x74.a x74.n x74.c, .slice x75.a x75.n x75.c]⟩, .agg ⟨[.int .i64 x76, .int .i64 x77, .int .i64 x78, .slice x79.a x79.n x79.c, .slice x80.a x80.n x80.c, .slice x81.a x81.n x81.c]⟩] h84
 (fun v85 h87 => ∃ x86 : Bool, v85 = .bool x86 ∧
 (Sm [⟨h13.size, 0, none⟩, ⟨h.size, 0, none⟩] h84 h87 ∧
 (sB (x83 == x86)
 ((∃ (x88 x89 x90 : Int) (x91 x92 x93 : Sl), atC h87 ⟨h.size, 0, none⟩ [.int .i64 x88, .int .i64 x89, .int .i64 x90, .slice x91.a x91.n x91.c, .slice x92.a x92.n x92.c, .slice x93.a x93.n x93.c] ∧
 (∃ (x94 x95 x96 : Int) (x97 x98 x99 : Sl), atC h87 ⟨h.size, 0, none⟩ [.int .i64 x94, .int .i64 x95, .int .i64 x96, .slice x97.a x97.n x97.c, .slice x98.a x98.n x98.c, .slice x99.a x99.n x99.c] ∧
 (Fn Tryz.prog 16 #[.agg ⟨[.int .i64 x88, .int .i64 x89, .int .i64 x90, .slice x91.a x91.n x91.c, .slice x92.a x92.n x92.c, .slice x93.a x93.n x93.c]⟩, .agg ⟨[.int .i64 x94, .int .i64 x95, .int .i64 x96, .slice x97.a x97.n x97.c, .slice x98.a x98.n x98.c, .slice x99.a x99.n x99.c]⟩] h87
 (fun v100 h102 => ∃ x101 : Bool, v100 = .bool x101 ∧
 (Sm [⟨h13.size, 0, none⟩, ⟨h.size, 0, none⟩, ⟨h13.size, 0, none⟩, ⟨h.size, 0, none⟩] h87 h102 ∧
 R (.bool x101) h102))))))
 (R (.bool false) h87)))))))))))))
 (R (.bool false) h57)))
 (R (.bool false) h57)))
 (R (.bool false) h57))))))))))))))))))))))))))
theorem vc3 (p0_1 p0_2 p0_3 : Int) (p0_4 p0_5 p0_6 : Sl) (p1_7 p1_8 p1_9 : Int) (p1_10 p1_11 p1_12 p2 : Sl) (h : Heap) (R : Value → Heap → Prop) (H : W3 p0_1 p0_2 p0_3 p0_4 p0_5 p0_6 p1_7 p1_8 p1_9 p1_10 p1_11 p1_12 p2 h R) : Fn Tryz.prog 3 #[.agg ⟨[.int .i64 p0_1, .int .i64 p0_2, .int .i64 p0_3, .slice p0_4.a p0_4.n p0_4.c, .slice p0_5.a p0_5.n p0_5.c, .slice p0_6.a p0_6.n p0_6.c]⟩, .agg ⟨[.int .i64 p1_7, .int .i64 p1_8, .int .i64 p1_9, .slice p1_10.a p1_10.n p1_10.c, .slice p1_11.a p1_11.n p1_11.c, .slice p1_12.a p1_12.n p1_12.c]⟩, .slice p2.a p2.n p2.c] h R := fnI (A := .z) (by kernel_rfl) H

def W15 (p0_1 p0_2 p0_3 : Int) (p0_4 p0_5 p0_6 p1 : Sl) (h : Heap) (R : Value → Heap → Prop) : Prop :=
 (∀ h7 : Heap, h7 = h.push (.cells ⟨[.int .i64 p0_1, .int .i64 p0_2, .int .i64 p0_3, .slice p0_4.a p0_4.n p0_4.c, .slice p0_5.a p0_5.n p0_5.c, .slice p0_6.a p0_6.n p0_6.c]⟩ 26) →
 (∃ (x8 x9 x10 : Int) (x11 x12 x13 : Sl), atC h7 ⟨h.size, 0, none⟩ [.int .i64 x8, .int .i64 x9, .int .i64 x10, .slice x11.a x11.n x11.c, .slice x12.a x12.n x12.c, .slice x13.a x13.n x13.c] ∧
 (Fn Tryz.prog 24 #[.agg ⟨[.int .i64 x8, .int .i64 x9, .int .i64 x10, .slice x11.a x11.n x11.c, .slice x12.a x12.n x12.c, .slice x13.a x13.n x13.c]⟩] h7
 (fun v14 h16 => ∃ x15 : Bool, v14 = .bool x15 ∧
 (sB (!x15)
 (R (.tuple ⟨[.int .i64 0, .int .i64 0, .int .i64 1]⟩) h16)
 ((∃ (x17 x18 x19 : Int) (x20 x21 x22 : Sl), atC h16 ⟨h.size, 0, none⟩ [.int .i64 x17, .int .i64 x18, .int .i64 x19, .slice x20.a x20.n x20.c, .slice x21.a x21.n x21.c, .slice x22.a x22.n x22.c] ∧
 (∃ x23 : Int, hc h16 ⟨h.size, 2, none⟩ = some (.int .i64 x23) ∧
 (Fn Tryz.prog 49 #[.agg ⟨[.int .i64 x17, .int .i64 x18, .int .i64 x19, .slice x20.a x20.n x20.c, .slice x21.a x21.n x21.c, .slice x22.a x22.n x22.c]⟩, .int .i64 x23, .slice p1.a p1.n p1.c] h16
 (fun v24 h28 => ∃ (x25 x26 x27 : Int), v24 = .tuple ⟨[.int .i64 x25, .int .i64 x26, .int .i64 x27]⟩ ∧
 R (.tuple ⟨[.int .i64 x25, .int .i64 x26, .int .i64 x27]⟩) h28))))))))))
theorem vc15 (p0_1 p0_2 p0_3 : Int) (p0_4 p0_5 p0_6 p1 : Sl) (h : Heap) (R : Value → Heap → Prop) (H : W15 p0_1 p0_2 p0_3 p0_4 p0_5 p0_6 p1 h R) : Fn Tryz.prog 15 #[.agg ⟨[.int .i64 p0_1, .int .i64 p0_2, .int .i64 p0_3, .slice p0_4.a p0_4.n p0_4.c, .slice p0_5.a p0_5.n p0_5.c, .slice p0_6.a p0_6.n p0_6.c]⟩, .slice p1.a p1.n p1.c] h R := fnI (A := .z) (by kernel_rfl) H

/- farandole/farandoleref26.From
 loop rlrb: state_11:Int, i_12:Int -/
def W49 (p0_1 p0_2 p0_3 : Int) (p0_4 p0_5 p0_6 : Sl) (p1 : Int) (p2 : Sl) (h : Heap) (R : Value → Heap → Prop) : Prop :=
 (∀ h7 : Heap, h7 = h.push (.cells ⟨[.int .i64 p0_1, .int .i64 p0_2, .int .i64 p0_3, .slice p0_4.a p0_4.n p0_4.c, .slice p0_5.a p0_5.n p0_5.c, .slice p0_6.a p0_6.n p0_6.c]⟩ 26) →
 (∃ I8 : Int → Int → Heap → Nat → Prop, (∃ m9, I8 p1 0 h7 m9) ∧
 (∀ (_ : Env) (state_11 i_12 : Int) (h13 : Heap) (m10 : Nat), I8 state_11 i_12 h13 m10 →
 (sB (decide (i_12 < (p2.n : Int)))
 ((∃ (x14 x15 x16 : Int) (x17 x18 x19 : Sl), atC h13 ⟨h.size, 0, none⟩ [.int .i64 x14, .int .i64 x15, .int .i64 x16, .slice x17.a x17.n x17.c, .slice x18.a x18.n x18.c, .slice x19.a x19.n x19.c] ∧
 (NB p2.a fun b20 o21 => ((0 ≤ (i_12 : Int) ∧ (i_12 : Int) < (p2.n : Nat)) ∧
 (∃ (x22 : Int) (x23 : Bool) (x24 x25 : Int) (x26 : Sl), atC h13 ⟨b20, o21 + Int.toNat i_12 * 5, none⟩ [.int .i64 x22, .bool x23, .int .i64 x24, .int .i64 x25, .slice x26.a x26.n x26.c] ∧
 (Fn Tryz.prog 54 #[.agg ⟨[.int .i64 x14, .int .i64 x15, .int .i64 x16, .slice x17.a x17.n x17.c, .slice x18.a x18.n x18.c, .slice x19.a x19.n x19.c]⟩, .int .i64 state_11, .agg ⟨[.int .i64 x22, .bool x23, .int .i64 x24, .int .i64 x25, .slice x26.a x26.n x26.c]⟩] h13
 (fun v27 h29 => ∃ x28 : Int, v27 = .int .i64 x28 ∧
 (sB (decide (x28 < 0))
 (R (.tuple ⟨[.int .i64 state_11, .int .i64 i_12, .int .i64 23]⟩) h29)
 ((∃ m30, m30 < m10 ∧ I8 x28 (IntKind.wrap .i64 (i_12 + 1)) h29 m30))))))))))
 (R (.tuple ⟨[.int .i64 state_11, .int .i64 (p2.n : Int), .int .i64 0]⟩) h13)))))
theorem vc49 (p0_1 p0_2 p0_3 : Int) (p0_4 p0_5 p0_6 : Sl) (p1 : Int) (p2 : Sl) (h : Heap) (R : Value → Heap → Prop) (H : W49 p0_1 p0_2 p0_3 p0_4 p0_5 p0_6 p1 p2 h R) : Fn Tryz.prog 49 #[.agg ⟨[.int .i64 p0_1, .int .i64 p0_2, .int .i64 p0_3, .slice p0_4.a p0_4.n p0_4.c, .slice p0_5.a p0_5.n p0_5.c, .slice p0_6.a p0_6.n p0_6.c]⟩, .int .i64 p1, .slice p2.a p2.n p2.c] h R := fnI (A := (.s .z (.s (.s .z (.b (.l [(1, .one (.int .i64)), (9, .one (.int .i64))] .z))) .z))) (by kernel_rfl) H

def W16 (p0_1 p0_2 p0_3 : Int) (p0_4 p0_5 p0_6 : Sl) (p1_7 p1_8 p1_9 : Int) (p1_10 p1_11 p1_12 : Sl) (h : Heap) (R : Value → Heap → Prop) : Prop :=
 (∀ h13 : Heap, h13 = h.push (.cells ⟨[.int .i64 p0_1, .int .i64 p0_2, .int .i64 p0_3, .slice p0_4.a p0_4.n p0_4.c, .slice p0_5.a p0_5.n p0_5.c, .slice p0_6.a p0_6.n p0_6.c]⟩ 26) →
 (∀ h14 : Heap, h14 = h13.push (.cells ⟨[.int .i64 p1_7, .int .i64 p1_8, .int .i64 p1_9, .slice p1_10.a p1_10.n p1_10.c, .slice p1_11.a p1_11.n p1_11.c, .slice p1_12.a p1_12.n p1_12.c]⟩ 26) →
 (∃ x15 : Int, hc h14 ⟨h.size, 0, none⟩ = some (.int .i64 x15) ∧
 (∃ x16 : Int, hc h14 ⟨h13.size, 0, none⟩ = some (.int .i64 x16) ∧
 (sB (x15 == x16)
 ((∃ x17 : Int, hc h14 ⟨h.size, 1, none⟩ = some (.int .i64 x17) ∧
 (∃ x18 : Int, hc h14 ⟨h13.size, 1, none⟩ = some (.int .i64 x18) ∧
 (sB (x17 == x18)
 ((∃ x19 : Int, hc h14 ⟨h.size, 2, none⟩ = some (.int .i64 x19) ∧
 (∃ x20 : Int, hc h14 ⟨h13.size, 2, none⟩ = some (.int .i64 x20) ∧
 (sB (x19 == x20)
 ((∃ x21 : Sl, hc h14 ⟨h.size, 3, none⟩ = some (.slice x21.a x21.n x21.c) ∧
 (∃ x22 : Sl, hc h14 ⟨h13.size, 3, none⟩ = some (.slice x22.a x22.n x22.c) ∧
 (Fn Tryz.prog 50 #[.slice x21.a x21.n x21.c, .slice x22.a x22.n x22.c] h14
 (fun v23 h25 => ∃ x24 : Bool, v23 = .bool x24 ∧
 (sB x24
 ((∃ x26 : Sl, hc h25 ⟨h.size, 4, none⟩ = some (.slice x26.a x26.n x26.c) ∧
 (∃ x27 : Sl, hc h25 ⟨h13.size, 4, none⟩ = some (.slice x27.a x27.n x27.c) ∧
 (Fn Tryz.prog 51 #[.slice x26.a x26.n x26.c, .slice x27.a x27.n x27.c] h25
 (fun v28 h30 => ∃ x29 : Bool, v28 = .bool x29 ∧
 (sB x29
 ((∃ x31 : Sl, hc h30 ⟨h.size, 5, none⟩ = some (.slice x31.a x31.n x31.c) ∧
 (∃ x32 : Sl, hc h30 ⟨h13.size, 5, none⟩ = some (.slice x32.a x32.n x32.c) ∧
 (Fn Tryz.prog 52 #[.slice x31.a x31.n x31.c, .slice x32.a x32.n x32.c] h30
 (fun v33 h35 => ∃ x34 : Bool, v33 = .bool x34 ∧
 R (.bool x34) h35)))))
 (R (.bool false) h30)))))))
 (R (.bool false) h25)))))))
 (R (.bool false) h14)))))
 (R (.bool false) h14)))))
 (R (.bool false) h14))))))
theorem vc16 (p0_1 p0_2 p0_3 : Int) (p0_4 p0_5 p0_6 : Sl) (p1_7 p1_8 p1_9 : Int) (p1_10 p1_11 p1_12 : Sl) (h : Heap) (R : Value → Heap → Prop) (H : W16 p0_1 p0_2 p0_3 p0_4 p0_5 p0_6 p1_7 p1_8 p1_9 p1_10 p1_11 p1_12 h R) : Fn Tryz.prog 16 #[.agg ⟨[.int .i64 p0_1, .int .i64 p0_2, .int .i64 p0_3, .slice p0_4.a p0_4.n p0_4.c, .slice p0_5.a p0_5.n p0_5.c, .slice p0_6.a p0_6.n p0_6.c]⟩, .agg ⟨[.int .i64 p1_7, .int .i64 p1_8, .int .i64 p1_9, .slice p1_10.a p1_10.n p1_10.c, .slice p1_11.a p1_11.n p1_11.c, .slice p1_12.a p1_12.n p1_12.c]⟩] h R := fnI (A := .z) (by kernel_rfl) H

/- farandole/farandoleref25.Same
 loop rrrrlrb: i_70:Int
 loop rrrlrb: i_45:Int
 loop rrlrb: i_30:Int -/
def W17 (p0_1 p0_2 p0_3 : Int) (p0_4 p0_5 p0_6 : Sl) (p1_7 p1_8 p1_9 : Int) (p1_10 p1_11 p1_12 : Sl) (h : Heap) (R : Value → Heap → Prop) : Prop :=
 (∀ h13 : Heap, h13 = h.push (.cells ⟨[.int .i64 p0_1, .int .i64 p0_2, .int .i64 p0_3, .slice p0_4.a p0_4.n p0_4.c, .slice p0_5.a p0_5.n p0_5.c, .slice p0_6.a p0_6.n p0_6.c]⟩ 26) →
 (∀ h14 : Heap, h14 = h13.push (.cells ⟨[.int .i64 p1_7, .int .i64 p1_8, .int .i64 p1_9, .slice p1_10.a p1_10.n p1_10.c, .slice p1_11.a p1_11.n p1_11.c, .slice p1_12.a p1_12.n p1_12.c]⟩ 26) →
 (∃ x15 : Int, hc h14 ⟨h.size, 0, none⟩ = some (.int .i64 x15) ∧
 (∃ x16 : Int, hc h14 ⟨h13.size, 0, none⟩ = some (.int .i64 x16) ∧
 (sB (x15 != x16)
 (R (.bool false) h14)
 ((∃ x17 : Int, hc h14 ⟨h.size, 1, none⟩ = some (.int .i64 x17) ∧
 (∃ x18 : Int, hc h14 ⟨h13.size, 1, none⟩ = some (.int .i64 x18) ∧
 (sB (x17 != x18)
 (R (.bool false) h14)
 ((∃ x19 : Int, hc h14 ⟨h.size, 2, none⟩ = some (.int .i64 x19) ∧
 (∃ x20 : Int, hc h14 ⟨h13.size, 2, none⟩ = some (.int .i64 x20) ∧
 (sB (x19 != x20)
 (R (.bool false) h14)
 ((∃ x21 : Sl, hc h14 ⟨h.size, 3, none⟩ = some (.slice x21.a x21.n x21.c) ∧
 (∃ x22 : Sl, hc h14 ⟨h13.size, 3, none⟩ = some (.slice x22.a x22.n x22.c) ∧
 (sB ((x21.n : Int) != (x22.n : Int))
 (R (.bool false) h14)
 ((∃ x23 : Sl, hc h14 ⟨h.size, 4, none⟩ = some (.slice x23.a x23.n x23.c) ∧
 (∃ x24 : Sl, hc h14 ⟨h13.size, 4, none⟩ = some (.slice x24.a x24.n x24.c) ∧
 (sB ((x23.n : Int) != (x24.n : Int))
 (R (.bool false) h14)
 ((∃ x25 : Sl, hc h14 ⟨h.size, 5, none⟩ = some (.slice x25.a x25.n x25.c) ∧
 (∃ x26 : Sl, hc h14 ⟨h13.size, 5, none⟩ = some (.slice x26.a x26.n x26.c) ∧
 (sB ((x25.n : Int) != (x26.n : Int))
 (R (.bool false) h14)
 ((∃ I27 : Int → Heap → Nat → Prop, (∃ m28, I27 0 h14 m28) ∧
 (∀ (_ : Env) (i_30 : Int) (h31 : Heap) (m29 : Nat), I27 i_30 h31 m29 →
 (∃ x32 : Sl, hc h31 ⟨h.size, 3, none⟩ = some (.slice x32.a x32.n x32.c) ∧
 (sB (decide (i_30 < (x32.n : Int)))
 ((∃ x33 : Sl, hc h31 ⟨h.size, 3, none⟩ = some (.slice x33.a x33.n x33.c) ∧
 (NB x33.a fun b34 o35 => ((0 ≤ (i_30 : Int) ∧ (i_30 : Int) < (x33.n : Nat)) ∧
 (∃ x36 : Bool, hc h31 ⟨b34, o35 + Int.toNat i_30 * 1, none⟩ = some (.bool x36) ∧
 (∃ x37 : Sl, hc h31 ⟨h13.size, 3, none⟩ = some (.slice x37.a x37.n x37.c) ∧
 (NB x37.a fun b38 o39 => ((0 ≤ (i_30 : Int) ∧ (i_30 : Int) < (x37.n : Nat)) ∧
 (∃ x40 : Bool, hc h31 ⟨b38, o39 + Int.toNat i_30 * 1, none⟩ = some (.bool x40) ∧
 (sB (!(x36 == x40))
 (R (.bool false) h31)
 ((∃ m41, m41 < m29 ∧ I27 (IntKind.wrap .i64 (i_30 + 1)) h31 m41))))))))))))
 ((∃ I42 : Int → Heap → Nat → Prop, (∃ m43, I42 0 h31 m43) ∧
 (∀ (_ : Env) (i_45 : Int) (h46 : Heap) (m44 : Nat), I42 i_45 h46 m44 →
 (∃ x47 : Sl, hc h46 ⟨h.size, 4, none⟩ = some (.slice x47.a x47.n x47.c) ∧
 (sB (decide (i_45 < (x47.n : Int)))
 ((∃ x48 : Sl, hc h46 ⟨h.size, 4, none⟩ = some (.slice x48.a x48.n x48.c) ∧
 (NB x48.a fun b49 o50 => ((0 ≤ (i_45 : Int) ∧ (i_45 : Int) < (x48.n : Nat)) ∧
 (∃ (x51 : Int) (x52 : Bool) (x53 x54 x55 : Int) (x56 : Bool), atC h46 ⟨b49, o50 + Int.toNat i_45 * 6, none⟩ [.int .i64 x51, .bool x52, .int .i64 x53, .int .i64 x54, .int .i64 x55, .bool x56] ∧
 (∃ x57 : Sl, hc h46 ⟨h13.size, 4, none⟩ = some (.slice x57.a x57.n x57.c) ∧
 (NB x57.a fun b58 o59 => ((0 ≤ (i_45 : Int) ∧ (i_45 : Int) < (x57.n : Nat)) ∧
 (∃ (x60 : Int) (x61 : Bool) (x62 x63 x64 : Int) (x65 : Bool), atC h46 ⟨b58, o59 + Int.toNat i_45 * 6, none⟩ [.int .i64 x60, .bool x61, .int .i64 x62, .int .i64 x63, .int .i64 x64, .bool x65] ∧
 (sB (!((x51 == x60) && ((x52 == x61) && ((x53 == x62) && ((x54 == x63) && ((x55 == x64) && ((x56 == x65) && true)))))))
 (R (.bool false) h46)
 ((∃ m66, m66 < m44 ∧ I42 (IntKind.wrap .i64 (i_45 + 1)) h46 m66))))))))))))
 ((∃ I67 : Int → Heap → Nat → Prop, (∃ m68, I67 0 h46 m68) ∧
 (∀ (_ : Env) (i_70 : Int) (h71 : Heap) (m69 : Nat), I67 i_70 h71 m69 →
 (∃ x72 : Sl, hc h71 ⟨h.size, 5, none⟩ = some (.slice x72.a x72.n x72.c) ∧
 (sB (decide (i_70 < (x72.n : Int)))
 ((∃ x73 : Sl, hc h71 ⟨h.size, 5, none⟩ = some (.slice x73.a x73.n x73.c) ∧
 (NB x73.a fun b74 o75 => ((0 ≤ (i_70 : Int) ∧ (i_70 : Int) < (x73.n : Nat)) ∧
 (∃ (x76 x77 x78 : Int), atC h71 ⟨b74, o75 + Int.toNat i_70 * 3, none⟩ [.int .i64 x76, .int .i64 x77, .int .i64 x78] ∧
 (∃ x79 : Sl, hc h71 ⟨h13.size, 5, none⟩ = some (.slice x79.a x79.n x79.c) ∧
 (NB x79.a fun b80 o81 => ((0 ≤ (i_70 : Int) ∧ (i_70 : Int) < (x79.n : Nat)) ∧
 (∃ (x82 x83 x84 : Int), atC h71 ⟨b80, o81 + Int.toNat i_70 * 3, none⟩ [.int .i64 x82, .int .i64 x83, .int .i64 x84] ∧
 (sB (!((x76 == x82) && ((x77 == x83) && ((x78 == x84) && true))))
 (R (.bool false) h71)
 ((∃ m85, m85 < m69 ∧ I67 (IntKind.wrap .i64 (i_70 + 1)) h71 m85))))))))))))
 (R (.bool true) h71)))))))))))))))))))))))))))))))))))))))))
theorem vc17 (p0_1 p0_2 p0_3 : Int) (p0_4 p0_5 p0_6 : Sl) (p1_7 p1_8 p1_9 : Int) (p1_10 p1_11 p1_12 : Sl) (h : Heap) (R : Value → Heap → Prop) (H : W17 p0_1 p0_2 p0_3 p0_4 p0_5 p0_6 p1_7 p1_8 p1_9 p1_10 p1_11 p1_12 h R) : Fn Tryz.prog 17 #[.agg ⟨[.int .i64 p0_1, .int .i64 p0_2, .int .i64 p0_3, .slice p0_4.a p0_4.n p0_4.c, .slice p0_5.a p0_5.n p0_5.c, .slice p0_6.a p0_6.n p0_6.c]⟩, .agg ⟨[.int .i64 p1_7, .int .i64 p1_8, .int .i64 p1_9, .slice p1_10.a p1_10.n p1_10.c, .slice p1_11.a p1_11.n p1_11.c, .slice p1_12.a p1_12.n p1_12.c]⟩] h R := fnI (A := (.s .z (.s .z (.s (.s .z (.b (.l [(5, .one (.int .i64))] .z))) (.s (.s .z (.b (.l [(6, .one (.int .i64))] .z))) (.s (.s .z (.b (.l [(7, .one (.int .i64))] .z))) .z)))))) (by kernel_rfl) H

end Go.VC
end

section
namespace Go.VC
open Go.Proofs
set_option maxRecDepth 100000
set_option linter.unusedVariables false

/- slices.Equal[[]bool,bool]
 loop rrlrb: x_4:Int -/
def W50 (p0 p1 : Sl) (h : Heap) (R : Value → Heap → Prop) : Prop :=
 (sB ((p0.n : Int) != (p1.n : Int))
 (R (.bool false) h)
 ((∃ I1 : Int → Heap → Nat → Prop, (∃ m2, I1 0 h m2) ∧
 (∀ (_ : Env) (x_4 : Int) (h5 : Heap) (m3 : Nat), I1 x_4 h5 m3 →
 (sB (decide (x_4 < (p0.n : Int)))
 ((NB p0.a fun b6 o7 => ((0 ≤ (x_4 : Int) ∧ (x_4 : Int) < (p0.n : Nat)) ∧
 (∃ x8 : Bool, hc h5 ⟨b6, o7 + Int.toNat x_4 * 1, none⟩ = some (.bool x8) ∧
 (NB p1.a fun b9 o10 => ((0 ≤ (x_4 : Int) ∧ (x_4 : Int) < (p1.n : Nat)) ∧
 (∃ x11 : Bool, hc h5 ⟨b9, o10 + Int.toNat x_4 * 1, none⟩ = some (.bool x11) ∧
 (sB (!(x8 == x11))
 (R (.bool false) h5)
 ((∃ m12, m12 < m3 ∧ I1 (IntKind.wrap .i64 (x_4 + 1)) h5 m12))))))))))
 (R (.bool true) h5))))))
theorem vc50 (p0 p1 : Sl) (h : Heap) (R : Value → Heap → Prop) (H : W50 p0 p1 h R) : Fn Tryz.prog 50 #[.slice p0.a p0.n p0.c, .slice p1.a p1.n p1.c] h R := fnI (A := (.s .z (.s .z (.s (.s .z (.b (.l [(13, .one (.int .i64))] .z))) .z)))) (by kernel_rfl) H

/- slices.Equal[[]farandole/api.Move,farandole/api.Move]
 loop rrlrb: x_4:Int -/
def W51 (p0 p1 : Sl) (h : Heap) (R : Value → Heap → Prop) : Prop :=
 (sB ((p0.n : Int) != (p1.n : Int))
 (R (.bool false) h)
 ((∃ I1 : Int → Heap → Nat → Prop, (∃ m2, I1 0 h m2) ∧
 (∀ (_ : Env) (x_4 : Int) (h5 : Heap) (m3 : Nat), I1 x_4 h5 m3 →
 (sB (decide (x_4 < (p0.n : Int)))
 ((NB p0.a fun b6 o7 => ((0 ≤ (x_4 : Int) ∧ (x_4 : Int) < (p0.n : Nat)) ∧
 (∃ (x8 : Int) (x9 : Bool) (x10 x11 x12 : Int) (x13 : Bool), atC h5 ⟨b6, o7 + Int.toNat x_4 * 6, none⟩ [.int .i64 x8, .bool x9, .int .i64 x10, .int .i64 x11, .int .i64 x12, .bool x13] ∧
 (NB p1.a fun b14 o15 => ((0 ≤ (x_4 : Int) ∧ (x_4 : Int) < (p1.n : Nat)) ∧
 (∃ (x16 : Int) (x17 : Bool) (x18 x19 x20 : Int) (x21 : Bool), atC h5 ⟨b14, o15 + Int.toNat x_4 * 6, none⟩ [.int .i64 x16, .bool x17, .int .i64 x18, .int .i64 x19, .int .i64 x20, .bool x21] ∧
 (sB (!((x8 == x16) && ((x9 == x17) && ((x10 == x18) && ((x11 == x19) && ((x12 == x20) && ((x13 == x21) && true)))))))
 (R (.bool false) h5)
 ((∃ m22, m22 < m3 ∧ I1 (IntKind.wrap .i64 (x_4 + 1)) h5 m22))))))))))
 (R (.bool true) h5))))))
theorem vc51 (p0 p1 : Sl) (h : Heap) (R : Value → Heap → Prop) (H : W51 p0 p1 h R) : Fn Tryz.prog 51 #[.slice p0.a p0.n p0.c, .slice p1.a p1.n p1.c] h R := fnI (A := (.s .z (.s .z (.s (.s .z (.b (.l [(13, .one (.int .i64))] .z))) .z)))) (by kernel_rfl) H

/- slices.Equal[[]farandole/api.Timeout,farandole/api.Timeout]
 loop rrlrb: x_4:Int -/
def W52 (p0 p1 : Sl) (h : Heap) (R : Value → Heap → Prop) : Prop :=
 (sB ((p0.n : Int) != (p1.n : Int))
 (R (.bool false) h)
 ((∃ I1 : Int → Heap → Nat → Prop, (∃ m2, I1 0 h m2) ∧
 (∀ (_ : Env) (x_4 : Int) (h5 : Heap) (m3 : Nat), I1 x_4 h5 m3 →
 (sB (decide (x_4 < (p0.n : Int)))
 ((NB p0.a fun b6 o7 => ((0 ≤ (x_4 : Int) ∧ (x_4 : Int) < (p0.n : Nat)) ∧
 (∃ (x8 x9 x10 : Int), atC h5 ⟨b6, o7 + Int.toNat x_4 * 3, none⟩ [.int .i64 x8, .int .i64 x9, .int .i64 x10] ∧
 (NB p1.a fun b11 o12 => ((0 ≤ (x_4 : Int) ∧ (x_4 : Int) < (p1.n : Nat)) ∧
 (∃ (x13 x14 x15 : Int), atC h5 ⟨b11, o12 + Int.toNat x_4 * 3, none⟩ [.int .i64 x13, .int .i64 x14, .int .i64 x15] ∧
 (sB (!((x8 == x13) && ((x9 == x14) && ((x10 == x15) && true))))
 (R (.bool false) h5)
 ((∃ m16, m16 < m3 ∧ I1 (IntKind.wrap .i64 (x_4 + 1)) h5 m16))))))))))
 (R (.bool true) h5))))))
theorem vc52 (p0 p1 : Sl) (h : Heap) (R : Value → Heap → Prop) (H : W52 p0 p1 h R) : Fn Tryz.prog 52 #[.slice p0.a p0.n p0.c, .slice p1.a p1.n p1.c] h R := fnI (A := (.s .z (.s .z (.s (.s .z (.b (.l [(13, .one (.int .i64))] .z))) .z)))) (by kernel_rfl) H

end Go.VC
end

section
namespace Go.VC
open Go.Proofs
set_option maxRecDepth 100000
set_option linter.unusedVariables false

/- farandole/farandoleref25.Next
 loop rlrb: i_17:Int -/
def W54 (p0_1 p0_2 p0_3 : Int) (p0_4 p0_5 p0_6 : Sl) (p1 p2_7 : Int) (p2_8 : Bool) (p2_9 p2_10 : Int) (p2_11 : Sl) (h : Heap) (R : Value → Heap → Prop) : Prop :=
 (∀ h12 : Heap, h12 = h.push (.cells ⟨[.int .i64 p0_1, .int .i64 p0_2, .int .i64 p0_3, .slice p0_4.a p0_4.n p0_4.c, .slice p0_5.a p0_5.n p0_5.c, .slice p0_6.a p0_6.n p0_6.c]⟩ 26) →
 (∀ h13 : Heap, h13 = h12.push (.cells ⟨[.int .i64 p2_7, .bool p2_8, .int .i64 p2_9, .int .i64 p2_10, .slice p2_11.a p2_11.n p2_11.c]⟩ 37) →
 (∃ I14 : Int → Heap → Nat → Prop, (∃ m15, I14 0 h13 m15) ∧
 (∀ (_ : Env) (i_17 : Int) (h18 : Heap) (m16 : Nat), I14 i_17 h18 m16 →
 (∃ x19 : Sl, hc h18 ⟨h.size, 4, none⟩ = some (.slice x19.a x19.n x19.c) ∧
 (sB (decide (i_17 < (x19.n : Int)))
 ((∃ x20 : Sl, hc h18 ⟨h.size, 4, none⟩ = some (.slice x20.a x20.n x20.c) ∧
 (NB x20.a fun b21 o22 => ((0 ≤ (i_17 : Int) ∧ (i_17 : Int) < (x20.n : Nat)) ∧
 (∃ (x23 : Int) (x24 : Bool) (x25 x26 x27 : Int) (x28 : Bool), atC h18 ⟨b21, o22 + Int.toNat i_17 * 6, none⟩ [.int .i64 x23, .bool x24, .int .i64 x25, .int .i64 x26, .int .i64 x27, .bool x28] ∧
 (∀ h29 : Heap, h29 = h18.push (.cells ⟨[.int .i64 0, .bool false, .int .i64 0, .int .i64 0, .int .i64 0, .bool false]⟩ 81) →
 (okAt h29 ⟨h18.size, 0, none⟩ 6 ∧ ∀ h30 : Heap, h30 = hputs h29 ⟨h18.size, 0, none⟩ 0 [.int .i64 x23, .bool x24, .int .i64 x25, .int .i64 x26, .int .i64 x27, .bool x28] →
 (∃ x31 : Int, hc h30 ⟨h12.size, 0, none⟩ = some (.int .i64 x31) ∧
 (∃ x32 : Int, hc h30 ⟨h.size, 0, none⟩ = some (.int .i64 x32) ∧
 (sB (x31 == x32)
 ((∃ x33 : Int, hc h30 ⟨h18.size, 0, none⟩ = some (.int .i64 x33) ∧
 (sB (x33 == p1)
 ((∃ x34 : Bool, hc h30 ⟨h18.size, 1, none⟩ = some (.bool x34) ∧
 (∃ x35 : Bool, hc h30 ⟨h12.size, 1, none⟩ = some (.bool x35) ∧
 (sB (x34 == x35)
 ((∃ x36 : Int, hc h30 ⟨h18.size, 2, none⟩ = some (.int .i64 x36) ∧
 (∃ x37 : Int, hc h30 ⟨h12.size, 2, none⟩ = some (.int .i64 x37) ∧
 (sB (x36 == x37)
 ((∃ x38 : Int, hc h30 ⟨h18.size, 3, none⟩ = some (.int .i64 x38) ∧
 (∃ x39 : Int, hc h30 ⟨h12.size, 3, none⟩ = some (.int .i64 x39) ∧
 (sB (x38 == x39)
 ((∃ x40 : Int, hc h30 ⟨h18.size, 4, none⟩ = some (.int .i64 x40) ∧
 R (.int .i64 x40) h30))
 ((∃ m41, m41 < m16 ∧ I14 (IntKind.wrap .i64 (i_17 + 1)) h30 m41))))))
 ((∃ m42, m42 < m16 ∧ I14 (IntKind.wrap .i64 (i_17 + 1)) h30 m42))))))
 ((∃ m43, m43 < m16 ∧ I14 (IntKind.wrap .i64 (i_17 + 1)) h30 m43))))))
 ((∃ m44, m44 < m16 ∧ I14 (IntKind.wrap .i64 (i_17 + 1)) h30 m44)))))
 ((∃ m45, m45 < m16 ∧ I14 (IntKind.wrap .i64 (i_17 + 1)) h30 m45))))))))))))
 (R (.int .i64 (-1)) h18)))))))
theorem vc54 (p0_1 p0_2 p0_3 : Int) (p0_4 p0_5 p0_6 : Sl) (p1 p2_7 : Int) (p2_8 : Bool) (p2_9 p2_10 : Int) (p2_11 : Sl) (h : Heap) (R : Value → Heap → Prop) (H : W54 p0_1 p0_2 p0_3 p0_4 p0_5 p0_6 p1 p2_7 p2_8 p2_9 p2_10 p2_11 h R) : Fn Tryz.prog 54 #[.agg ⟨[.int .i64 p0_1, .int .i64 p0_2, .int .i64 p0_3, .slice p0_4.a p0_4.n p0_4.c, .slice p0_5.a p0_5.n p0_5.c, .slice p0_6.a p0_6.n p0_6.c]⟩, .int .i64 p1, .agg ⟨[.int .i64 p2_7, .bool p2_8, .int .i64 p2_9, .int .i64 p2_10, .slice p2_11.a p2_11.n p2_11.c]⟩] h R := fnI (A := (.s .z (.s (.s .z (.b (.l [(7, .one (.int .i64))] .z))) .z))) (by kernel_rfl) H

/- farandole/farandoleref18.names
 loop rlrb: i_13:Int -/
/- farandole/farandoleref18.numbers
 loop rlrb: i_13:Int -/
/- farandole/farandoleref18.apart
 loop rlrborlbrrrb: k_33:Int
 loop rlrborlbrrrb: k_92:Int
 loop rlrb: i_13:Int -/
/- farandole/farandoleref18.connected
 loop rrrlrborlbrb: i_23:Int
 loop rrrrrlrb: s_59:Int
 loop rrrlrb: n_17:Int -/
/- farandole/farandoleref18.timed
 loop rlrb: i_13:Int -/
/- farandole/farandoleref18.index
 loop rlrb: i_4:Int -/
/- farandole/farandoleref14.Valid
 loop rrrlrborlbrrlrborlbrrb: j_54:Int
 loop rrrlrborlbrrlrb: k_32:Int
 loop rrrlrborlbrlrb: k_22:Int
 loop rrrlrb: first_7:Int, i_8:Int -/
/- farandole/farandoleref18.ends
 loop rrrrlrborlbrb: i_31:Int
 loop rrrrlrb: n_25:Int
 loop rrlrb: s_15:Int -/
/- farandole/farandoleref18.Edges
 loop rrlrborlbrrlb: at_25:Int
 loop rrlrb: out_13:Sl, i_14:Int -/
/- farandole/farandoleref09.IsName
 loop rrlrb: i_7:Int -/
/- farandole/farandoleref09.in
 loop rlrb: i_4:Int -/
/- farandole/farandoleref14.Vars
 loop rrlrb: n_4:Int, i_5:Int -/
/- farandole/farandoleref14.goodSort
 join rr: least_7:Int, most_8:Int -/
/- farandole/farandoleref10.IsPath
 loop rrlrb: from_4:Int, i_5:Int -/
/- farandole/farandoleref14.goodGuard
 loop rrrlrb: i_31:Int
 loop rrlrb: i_10:Int -/
/- farandole/farandoleref14.Field
 loop rlrb: x_5:Int, i_6:Int -/
end Go.VC
end

section
/- Contracts: the reference's Next and Run; equality of machines on both sides; the walk of the law of runs. (Numbers of layer 26's seat.) -/
namespace Go.VC
open Go.Proofs Go.LexS
set_option maxRecDepth 100000
namespace M
theorem first_hit {α : Type} {p : α → Bool} : ∀ (l : List α) (i : Nat) (y : α), l[i]? = some y → p y = true → (∀ (j : Nat) z, j < i → l[j]? = some z → p z = false) → l.find? p = some y
  | [], i, y, h, _, _ => by simp at h
  | a :: l, 0, y, h, hp, _ => by simp at h; subst h; rw [List.find?_cons, hp]
  | a :: l, i + 1, y, h, hp, hn => by
    rw [List.find?_cons, hn 0 a (by omega) rfl]
    exact first_hit l i y (by simpa using h) hp fun j z hj hz => hn (j + 1) z (by omega) (by simpa using hz)
end M
theorem refNext54 (m : Mch) (sf sm sl : Sl) (s : Int) (x : Hv) (h : Heap) (hM : MI h m sf sm sl) :
    Fn Tryz.prog 54 #[.agg ⟨mC m sf sm sl⟩, .int .i64 s, .agg ⟨x.cs⟩] h fun v h' => v = .int .i64 (nxH m s x) ∧ Ext h h' := by
  apply vc54 m.role m.n m.s sf sm sl s x.role x.send x.peer x.label x.vs; unfold W54
  have hmn := hM.pm.ln
  have hmb := hM.pm.sm
  refine (St.refl h).newb fun h12 hs => ?_
  refine hs.newb fun h13 hs => ?_
  refine up_loopS (n := sm.n) hs (fun i => ∀ (j : Nat) y, j < i → m.mv[j]? = some y → ¬ (x.role = m.role ∧ y.f = s ∧ y.ev = x.ev)) (fun j y hj => by omega) ?_
  rintro - i h18 hi ⟨hs, hq⟩
  refine ⟨sm, hs.rd 1 rfl rfl, sB_intro (fun c => ?_) (fun c => ?_)⟩
  · replace c := lt_t c
    refine ⟨sm, hs.rd 1 rfl rfl, ?_⟩
    refine (hM.pm.rw.ext hs.ext).nbI (by omega) (by omega) fun b o y gy t => ?_
    replace gy : m.mv[i]? = some y := gy
    refine ⟨_, _, _, _, _, _, t, ?_⟩
    refine hs.newput (vs := y.cs) rfl rfl fun h30 hs => ?_
    have miss : ¬ (x.role = m.role ∧ y.f = s ∧ y.ev = x.ev) → ∃ m41, m41 < sm.n - i ∧ Up sm.n (fun i h' => St h h' [.blk h12.size x.cs 37, .blk h.size (mC m sf sm sl) 26] ∧ ∀ (j : Nat) y, j < i → m.mv[j]? = some y → ¬ (x.role = m.role ∧ y.f = s ∧ y.ev = x.ev)) (IntKind.wrap .i64 ((i : Int) + 1)) h30 m41 := fun hn =>
      Up.next c (by omega) ⟨hs.drop 1, fun j z hj hz => by
        by_cases e : j = i
        · subst e; rw [gy] at hz; cases hz; exact hn
        · exact hq j z (by omega) hz⟩
    refine ⟨_, hs.rd 1 rfl rfl, _, hs.rd 2 rfl rfl, sBe (fun c1 => ?_) (fun c1 => miss fun e => c1 e.1)⟩
    refine ⟨_, hs.rd 0 rfl rfl, sBe (fun c2 => ?_) (fun c2 => miss fun e => c2 e.2.1)⟩
    refine ⟨_, hs.rd 0 rfl rfl, _, hs.rd 1 rfl rfl, sB_intro (fun c3 => ?_) (fun c3 => miss fun e => by have := congrArg Ev.send e.2.2; rw [show y.send = x.send from this] at c3; simp at c3)⟩
    refine ⟨_, hs.rd 0 rfl rfl, _, hs.rd 1 rfl rfl, sBe (fun c4 => ?_) (fun c4 => miss fun e => c4 (congrArg Ev.peer e.2.2))⟩
    refine ⟨_, hs.rd 0 rfl rfl, _, hs.rd 1 rfl rfl, sBe (fun c5 => ?_) (fun c5 => miss fun e => c5 (congrArg Ev.label e.2.2))⟩
    refine ⟨_, hs.rd 0 rfl rfl, ?_, hs.ext⟩
    have c3' : y.send = x.send := by simpa using c3
    have hev : y.ev = x.ev := ev_ext c3' c4 c5
    unfold nxH nxE
    rw [if_pos c1, M.first_hit m.mv i y gy (decide_eq_true ⟨c2, hev⟩) fun j z hj hz => decide_eq_false fun e => hq j z hj hz ⟨c1, e.1, e.2⟩]
  · replace c := lt_f c
    refine ⟨?_, hs.ext⟩
    unfold nxH
    split
    · rename_i hr
      rw [nxE_none fun y hy hf he => ?_]
      obtain ⟨j, hj⟩ := List.mem_iff_getElem?.1 hy
      exact hq j y (by have := (List.getElem?_eq_some_iff.1 hj).1; omega) hj ⟨hr, hf, he⟩
    · rfl
theorem from49 (m : Mch) (sf sm sl : Sl) (a0 : Int) (L : List Hv) (s : Sl) (h : Heap) (hM : MI h m sf sm sl) (hL : RL h 5 s Hv.cs L) :
    Fn Tryz.prog 49 #[.agg ⟨mC m sf sm sl⟩, .int .i64 a0, .slice s.a s.n s.c] h fun v h' => v = runV (runN m a0 0 L) ∧ Ext h h' := by
  apply vc49 m.role m.n m.s sf sm sl a0 s; unfold W49
  have hsn := hL.ln
  have hsm := hL.sm
  refine (St.refl h).newb fun h7 hs => ?_
  refine ⟨fun a x h' μ => ∃ i : Nat, x = i ∧ i ≤ s.n ∧ μ = s.n - i ∧ runN m a0 0 L = runN m a i (L.drop i) ∧ St h h' [.blk h.size (mC m sf sm sl) 26], ⟨_, 0, rfl, by omega, rfl, rfl, hs⟩, ?_⟩
  clear hs
  rintro - a _ h13 μ ⟨i, rfl, hi, rfl, hrun, hs⟩
  refine sB_intro (fun c1 => ?_) (fun c1 => ?_)
  · replace c1 := lt_t c1
    refine ⟨_, _, _, sf, sm, sl, hs.at 0 rfl (o := 0) (n := 6) rfl, ?_⟩
    refine (hL.rw.ext hs.ext).nbI (by omega) (by omega) fun b25 o26 x gx t => ?_
    replace gx : L[i]? = some x := gx
    have hdr : L.drop i = x :: L.drop (i + 1) := drop_get gx
    rw [hdr, runN] at hrun
    refine ⟨_, _, _, _, _, t, ?_⟩
    refine (refNext54 m sf sm sl a x h13 (hM.ext hs.ext)).mono ?_
    rintro _ h29 ⟨rfl, E⟩
    have hs := hs.step E
    refine ⟨_, rfl, sBi (fun c2 => ⟨?_, hs.ext⟩) (fun c2 => ?_)⟩
    · rw [hrun, if_neg (by omega)]; rfl
    · rw [if_pos (by omega)] at hrun
      exact ⟨s.n - (i + 1), by omega, i + 1, by rw [w64 (by omega) (by omega)]; omega, by omega, rfl, hrun, hs⟩
  · replace c1 := lt_f c1
    have his : i = s.n := by omega
    subst his
    refine ⟨?_, hs.ext⟩
    rw [hrun, List.drop_eq_nil_of_le (by omega)]; rfl
open Classical in
theorem refRun15 (m : Mch) (sf sm sl : Sl) (L : List Hv) (s : Sl) (h : Heap) (hM : MI h m sf sm sl) (hL : RL h 5 s Hv.cs L) :
    Fn Tryz.prog 15 #[.agg ⟨mC m sf sm sl⟩, .slice s.a s.n s.c] h fun v h' => v = runV (if VM m then runN m m.s 0 L else (0, 0, 1)) ∧ Ext h h' := by
  apply vc15 m.role m.n m.s sf sm sl s; unfold W15
  refine (St.refl h).newb fun h7 hs => ?_
  refine ⟨_, _, _, sf, sm, sl, hs.at 0 rfl (o := 0) (n := 6) rfl, ?_⟩
  refine (refValid24 m sf sm sl h7 (hM.ext hs.ext)).mono ?_
  rintro _ h16 ⟨⟨b, rfl, hb⟩, E⟩
  have hs := hs.step E
  refine ⟨_, rfl, sB_intro (fun c => ⟨by rw [if_neg (iff_f hb (bF c))]; rfl, hs.ext⟩) (fun c => ?_)⟩
  have hV := hb.1 (bT c)
  rw [if_pos hV]
  refine ⟨_, _, _, sf, sm, sl, hs.at 0 rfl (o := 0) (n := 6) rfl, _, hs.rd 0 rfl rfl, ?_⟩
  refine (from49 m sf sm sl m.s L s h16 (hM.ext hs.ext) (hL.ext hs.ext)).mono ?_
  rintro _ h28 ⟨rfl, E⟩
  exact ⟨_, _, _, rfl, rfl, (hs.step E).ext⟩
theorem eqB50 (L K : List Bool) (s s2 : Sl) (h : Heap) (hr : Rw h 1 s (L.map bC)) (hr2 : Rw h 1 s2 (K.map bC)) (hl : L.length ≤ 1048576) : Fn Tryz.prog 50 #[.slice s.a s.n s.c, .slice s2.a s2.n s2.c] h (RP (L = K) h) := by
  apply vc50 s s2; unfold W50
  have hn := hr.ln
  have hn2 := hr2.ln
  refine sBn (fun c => RP.f (fun e => by subst e; omega) .rfl') (fun c => ?_)
  refine up_loop (n := s.n) (fun i h' => Ext h h' ∧ ∀ (j : Nat) x y, j < i → L[j]? = some x → K[j]? = some y → x = y) ⟨.rfl', fun j x y hj => by omega⟩ ?_
  rintro - i h5 hi ⟨E, hq⟩
  refine sB_intro (fun c1 => ?_) (fun c1 => RP.t (List.ext_getElem? fun i => ?_) E)
  · replace c1 := lt_t c1
    refine (hr.ext E).nbI (by omega) (by omega) fun b6 o7 x gx t => ?_
    replace gx : L[i]? = some x := gx
    refine ⟨_, t.hd, ?_⟩
    refine (hr2.ext E).nbI (by omega) (by omega) fun b9 o10 y gy t2 => ?_
    replace gy : K[i]? = some y := gy
    refine ⟨_, t2.hd, sB_intro (fun c2 => RP.f (fun e => ?_) E) (fun c2 => Up.next c1 (by omega) ⟨E, fun j x' y' hj hx hy => ?_⟩)⟩
    · subst e; rw [gx] at gy; cases gy; simp at c2
    · by_cases e : j = i
      · subst e; rw [gx] at hx; rw [gy] at hy; cases hx; cases hy
        simpa using c2
      · exact hq j x' y' (by omega) hx hy
  · replace c1 := lt_f c1
    by_cases hil : i < s.n
    · obtain ⟨x, hx⟩ := get_some (l := L) (i := i) (by omega)
      obtain ⟨y, hy⟩ := get_some (l := K) (i := i) (by omega)
      rw [hx, hy, hq i x y (by omega) hx hy]
    · rw [List.getElem?_eq_none (by omega), List.getElem?_eq_none (by omega)]
theorem mv_ext {x y : Mv} (c : ((x.f == y.f) && ((x.send == y.send) && ((x.peer == y.peer) && ((x.label == y.label) && ((x.t == y.t) && ((x.ag == y.ag) && true)))))) = true) : x = y := by
  cases x; cases y
  simp only [Bool.and_true, Bool.and_eq_true, beq_iff_eq] at c
  obtain ⟨h1, h2, h3, h4, h5, h6⟩ := c
  simp only [Mv.mk.injEq]
  exact ⟨h1, h2, h3, h4, h5, h6⟩
theorem to_ext {x y : To} (c : ((x.s == y.s) && ((x.k == y.k) && ((x.e == y.e) && true))) = true) : x = y := by
  cases x; cases y
  simp only [Bool.and_true, Bool.and_eq_true, beq_iff_eq] at c
  obtain ⟨h1, h2, h3⟩ := c
  simp only [To.mk.injEq]
  exact ⟨h1, h2, h3⟩
theorem eqM51 (L K : List Mv) (s s2 : Sl) (h : Heap) (hr : Rw h 6 s (L.map Mv.cs)) (hr2 : Rw h 6 s2 (K.map Mv.cs)) (hl : L.length ≤ 1048576) : Fn Tryz.prog 51 #[.slice s.a s.n s.c, .slice s2.a s2.n s2.c] h (RP (L = K) h) := by
  apply vc51 s s2; unfold W51
  have hn := hr.ln
  have hn2 := hr2.ln
  refine sBn (fun c => RP.f (fun e => by subst e; omega) .rfl') (fun c => ?_)
  refine up_loop (n := s.n) (fun i h' => Ext h h' ∧ ∀ (j : Nat) x y, j < i → L[j]? = some x → K[j]? = some y → x = y) ⟨.rfl', fun j x y hj => by omega⟩ ?_
  rintro - i h5 hi ⟨E, hq⟩
  refine sB_intro (fun c1 => ?_) (fun c1 => RP.t (List.ext_getElem? fun i => ?_) E)
  · replace c1 := lt_t c1
    refine (hr.ext E).nbI (by omega) (by omega) fun b6 o7 x gx t => ?_
    replace gx : L[i]? = some x := gx
    refine ⟨_, _, _, _, _, _, t, ?_⟩
    refine (hr2.ext E).nbI (by omega) (by omega) fun b9 o10 y gy t2 => ?_
    replace gy : K[i]? = some y := gy
    refine ⟨_, _, _, _, _, _, t2, sB_intro (fun c2 => RP.f (fun e => ?_) E) (fun c2 => Up.next c1 (by omega) ⟨E, fun j x' y' hj hx hy => ?_⟩)⟩
    · subst e; rw [gx] at gy; cases gy; simp at c2
    · by_cases e : j = i
      · subst e; rw [gx] at hx; rw [gy] at hy; cases hx; cases hy
        exact mv_ext (bT c2)
      · exact hq j x' y' (by omega) hx hy
  · replace c1 := lt_f c1
    by_cases hil : i < s.n
    · obtain ⟨x, hx⟩ := get_some (l := L) (i := i) (by omega)
      obtain ⟨y, hy⟩ := get_some (l := K) (i := i) (by omega)
      rw [hx, hy, hq i x y (by omega) hx hy]
    · rw [List.getElem?_eq_none (by omega), List.getElem?_eq_none (by omega)]
theorem eqT52 (L K : List To) (s s2 : Sl) (h : Heap) (hr : Rw h 3 s (L.map To.cs)) (hr2 : Rw h 3 s2 (K.map To.cs)) (hl : L.length ≤ 1048576) : Fn Tryz.prog 52 #[.slice s.a s.n s.c, .slice s2.a s2.n s2.c] h (RP (L = K) h) := by
  apply vc52 s s2; unfold W52
  have hn := hr.ln
  have hn2 := hr2.ln
  refine sBn (fun c => RP.f (fun e => by subst e; omega) .rfl') (fun c => ?_)
  refine up_loop (n := s.n) (fun i h' => Ext h h' ∧ ∀ (j : Nat) x y, j < i → L[j]? = some x → K[j]? = some y → x = y) ⟨.rfl', fun j x y hj => by omega⟩ ?_
  rintro - i h5 hi ⟨E, hq⟩
  refine sB_intro (fun c1 => ?_) (fun c1 => RP.t (List.ext_getElem? fun i => ?_) E)
  · replace c1 := lt_t c1
    refine (hr.ext E).nbI (by omega) (by omega) fun b6 o7 x gx t => ?_
    replace gx : L[i]? = some x := gx
    refine ⟨_, _, _, t, ?_⟩
    refine (hr2.ext E).nbI (by omega) (by omega) fun b9 o10 y gy t2 => ?_
    replace gy : K[i]? = some y := gy
    refine ⟨_, _, _, t2, sB_intro (fun c2 => RP.f (fun e => ?_) E) (fun c2 => Up.next c1 (by omega) ⟨E, fun j x' y' hj hx hy => ?_⟩)⟩
    · subst e; rw [gx] at gy; cases gy; simp at c2
    · by_cases e : j = i
      · subst e; rw [gx] at hx; rw [gy] at hy; cases hx; cases hy
        exact to_ext (bT c2)
      · exact hq j x' y' (by omega) hx hy
  · replace c1 := lt_f c1
    by_cases hil : i < s.n
    · obtain ⟨x, hx⟩ := get_some (l := L) (i := i) (by omega)
      obtain ⟨y, hy⟩ := get_some (l := K) (i := i) (by omega)
      rw [hx, hy, hq i x y (by omega) hx hy]
    · rw [List.getElem?_eq_none (by omega), List.getElem?_eq_none (by omega)]
theorem mch_ext {m k : Mch} (h1 : m.role = k.role) (h2 : m.n = k.n) (h3 : m.s = k.s) (h4 : m.fin = k.fin) (h5 : m.mv = k.mv) (h6 : m.li = k.li) : m = k := by
  cases m; cases k
  simp only [Mch.mk.injEq]
  exact ⟨h1, h2, h3, h4, h5, h6⟩
theorem equal16 (m k : Mch) (sf sm sl tf tm tl : Sl) (h : Heap) (hM : MI h m sf sm sl) (hK : MI h k tf tm tl) :
    Fn Tryz.prog 16 #[.agg ⟨mC m sf sm sl⟩, .agg ⟨mC k tf tm tl⟩] h (RP (m = k) h) := by
  apply vc16 m.role m.n m.s sf sm sl k.role k.n k.s tf tm tl; unfold W16
  refine (St.refl h).newb fun h13 hs => ?_
  refine hs.newb fun h14 hs => ?_
  refine ⟨_, hs.rd 1 rfl rfl, _, hs.rd 0 rfl rfl, sBe (fun c1 => ?_) (fun c1 => RP.f (fun e => c1 (by rw [e])) hs.ext)⟩
  refine ⟨_, hs.rd 1 rfl rfl, _, hs.rd 0 rfl rfl, sBe (fun c2 => ?_) (fun c2 => RP.f (fun e => c2 (by rw [e])) hs.ext)⟩
  refine ⟨_, hs.rd 1 rfl rfl, _, hs.rd 0 rfl rfl, sBe (fun c3 => ?_) (fun c3 => RP.f (fun e => c3 (by rw [e])) hs.ext)⟩
  refine ⟨sf, hs.rd 1 rfl rfl, tf, hs.rd 0 rfl rfl, ?_⟩
  refine (eqB50 m.fin k.fin sf tf h14 (hM.pf.rw.ext hs.ext) (hK.pf.rw.ext hs.ext) hM.pf.sm).mono ?_
  rintro _ h25 ⟨⟨b1, rfl, hb1⟩, E⟩
  have hs := hs.step E
  refine ⟨_, rfl, sB_intro (fun c4 => ?_) (fun c4 => RP.f (fun e => iff_f hb1 c4 (by rw [e])) hs.ext)⟩
  refine ⟨sm, hs.rd 1 rfl rfl, tm, hs.rd 0 rfl rfl, ?_⟩
  refine (eqM51 m.mv k.mv sm tm h25 (hM.pm.rw.ext hs.ext) (hK.pm.rw.ext hs.ext) hM.pm.sm).mono ?_
  rintro _ h30 ⟨⟨b2, rfl, hb2⟩, E⟩
  have hs := hs.step E
  refine ⟨_, rfl, sB_intro (fun c5 => ?_) (fun c5 => RP.f (fun e => iff_f hb2 c5 (by rw [e])) hs.ext)⟩
  refine ⟨sl, hs.rd 1 rfl rfl, tl, hs.rd 0 rfl rfl, ?_⟩
  refine (eqT52 m.li k.li sl tl h30 (hM.pl.rw.ext hs.ext) (hK.pl.rw.ext hs.ext) hM.pl.sm).mono ?_
  rintro _ h35 ⟨⟨b3, rfl, hb3⟩, E⟩
  have hs := hs.step E
  exact ⟨_, rfl, RP.e ⟨fun c6 => mch_ext c1 c2 c3 (hb1.1 c4) (hb2.1 c5) (hb3.1 c6), fun e => hb3.2 (by rw [e])⟩ hs.ext⟩
theorem same17 (m k : Mch) (sf sm sl tf tm tl : Sl) (h : Heap) (hM : MI h m sf sm sl) (hK : MI h k tf tm tl) :
    Fn Tryz.prog 17 #[.agg ⟨mC m sf sm sl⟩, .agg ⟨mC k tf tm tl⟩] h (RP (m = k) h) := by
  apply vc17 m.role m.n m.s sf sm sl k.role k.n k.s tf tm tl; unfold W17
  have f1 := hM.pf.ln; have f2 := hK.pf.ln
  have m1 := hM.pm.ln; have m2 := hK.pm.ln
  have l1 := hM.pl.ln; have l2 := hK.pl.ln
  have f3 := hM.pf.sm; have m3 := hM.pm.sm; have l3 := hM.pl.sm
  refine (St.refl h).newb fun h13 hs => ?_
  refine hs.newb fun h14 hs => ?_
  refine ⟨_, hs.rd 1 rfl rfl, _, hs.rd 0 rfl rfl, sBn (fun c1 => RP.f (fun e => c1 (by rw [e])) hs.ext) (fun c1 => ?_)⟩
  refine ⟨_, hs.rd 1 rfl rfl, _, hs.rd 0 rfl rfl, sBn (fun c2 => RP.f (fun e => c2 (by rw [e])) hs.ext) (fun c2 => ?_)⟩
  refine ⟨_, hs.rd 1 rfl rfl, _, hs.rd 0 rfl rfl, sBn (fun c3 => RP.f (fun e => c3 (by rw [e])) hs.ext) (fun c3 => ?_)⟩
  refine ⟨sf, hs.rd 1 rfl rfl, tf, hs.rd 0 rfl rfl, sBn (fun c4 => RP.f (fun e => by rw [← e] at f2; omega) hs.ext) (fun c4 => ?_)⟩
  refine ⟨sm, hs.rd 1 rfl rfl, tm, hs.rd 0 rfl rfl, sBn (fun c5 => RP.f (fun e => by rw [← e] at m2; omega) hs.ext) (fun c5 => ?_)⟩
  refine ⟨sl, hs.rd 1 rfl rfl, tl, hs.rd 0 rfl rfl, sBn (fun c6 => RP.f (fun e => by rw [← e] at l2; omega) hs.ext) (fun c6 => ?_)⟩
  have allEq : ∀ {α : Type} {L K : List α} {n : Nat}, n = L.length → n = K.length → (∀ (j : Nat) x y, j < n → L[j]? = some x → K[j]? = some y → x = y) → L = K := fun {α L K n} e1 e2 hq => by
    refine List.ext_getElem? fun i => ?_
    by_cases hil : i < n
    · obtain ⟨x, hx⟩ := get_some (l := L) (i := i) (by omega)
      obtain ⟨y, hy⟩ := get_some (l := K) (i := i) (by omega)
      rw [hx, hy, hq i x y (by omega) hx hy]
    · rw [List.getElem?_eq_none (by omega), List.getElem?_eq_none (by omega)]
  refine up_loopS (n := sf.n) hs (fun i => ∀ (j : Nat) x y, j < i → m.fin[j]? = some x → k.fin[j]? = some y → x = y) (fun j x y hj => by omega) ?_
  clear hs
  rintro - i h31 hi ⟨hs, hq⟩
  refine ⟨sf, hs.rd 1 rfl rfl, sB_intro (fun d => ?_) (fun d => ?_)⟩
  · replace d := lt_t d
    refine ⟨sf, hs.rd 1 rfl rfl, ?_⟩
    refine (hM.pf.rw.ext hs.ext).nbI (by omega) (by omega) fun b34 o35 x gx t => ?_
    replace gx : m.fin[i]? = some x := gx
    refine ⟨_, t.hd, tf, hs.rd 0 rfl rfl, ?_⟩
    refine (hK.pf.rw.ext hs.ext).nbI (by omega) (by omega) fun b38 o39 y gy t2 => ?_
    replace gy : k.fin[i]? = some y := gy
    refine ⟨_, t2.hd, sB_intro (fun c => RP.f (fun e => by rw [← e, gx] at gy; cases gy; simp at c) hs.ext) (fun c => Up.next d (by omega) ⟨hs, fun j x' y' hj hx hy => ?_⟩)⟩
    by_cases e : j = i
    · subst e; rw [gx] at hx; rw [gy] at hy; cases hx; cases hy
      simpa using c
    · exact hq j x' y' (by omega) hx hy
  have hF : m.fin = k.fin := allEq f1 (by omega) fun j x y hj => hq j x y (by have := lt_f d; omega)
  clear hq
  refine up_loopS (n := sm.n) hs (fun i => ∀ (j : Nat) x y, j < i → m.mv[j]? = some x → k.mv[j]? = some y → x = y) (fun j x y hj => by omega) ?_
  clear hs
  rintro - i h46 hi ⟨hs, hq⟩
  refine ⟨sm, hs.rd 1 rfl rfl, sB_intro (fun d => ?_) (fun d => ?_)⟩
  · replace d := lt_t d
    refine ⟨sm, hs.rd 1 rfl rfl, ?_⟩
    refine (hM.pm.rw.ext hs.ext).nbI (by omega) (by omega) fun b34 o35 x gx t => ?_
    replace gx : m.mv[i]? = some x := gx
    refine ⟨_, _, _, _, _, _, t, tm, hs.rd 0 rfl rfl, ?_⟩
    refine (hK.pm.rw.ext hs.ext).nbI (by omega) (by omega) fun b38 o39 y gy t2 => ?_
    replace gy : k.mv[i]? = some y := gy
    refine ⟨_, _, _, _, _, _, t2, sB_intro (fun c => RP.f (fun e => by rw [← e, gx] at gy; cases gy; simp at c) hs.ext) (fun c => Up.next d (by omega) ⟨hs, fun j x' y' hj hx hy => ?_⟩)⟩
    by_cases e : j = i
    · subst e; rw [gx] at hx; rw [gy] at hy; cases hx; cases hy
      exact mv_ext (bT c)
    · exact hq j x' y' (by omega) hx hy
  have hG : m.mv = k.mv := allEq m1 (by omega) fun j x y hj => hq j x y (by have := lt_f d; omega)
  clear hq
  refine up_loopS (n := sl.n) hs (fun i => ∀ (j : Nat) x y, j < i → m.li[j]? = some x → k.li[j]? = some y → x = y) (fun j x y hj => by omega) ?_
  clear hs
  rintro - i h71 hi ⟨hs, hq⟩
  refine ⟨sl, hs.rd 1 rfl rfl, sB_intro (fun d => ?_) (fun d => ?_)⟩
  · replace d := lt_t d
    refine ⟨sl, hs.rd 1 rfl rfl, ?_⟩
    refine (hM.pl.rw.ext hs.ext).nbI (by omega) (by omega) fun b34 o35 x gx t => ?_
    replace gx : m.li[i]? = some x := gx
    refine ⟨_, _, _, t, tl, hs.rd 0 rfl rfl, ?_⟩
    refine (hK.pl.rw.ext hs.ext).nbI (by omega) (by omega) fun b38 o39 y gy t2 => ?_
    replace gy : k.li[i]? = some y := gy
    refine ⟨_, _, _, t2, sB_intro (fun c => RP.f (fun e => by rw [← e, gx] at gy; cases gy; simp at c) hs.ext) (fun c => Up.next d (by omega) ⟨hs, fun j x' y' hj hx hy => ?_⟩)⟩
    by_cases e : j = i
    · subst e; rw [gx] at hx; rw [gy] at hy; cases hx; cases hy
      exact to_ext (bT c)
    · exact hq j x' y' (by omega) hx hy
  have hH : m.li = k.li := allEq l1 (by omega) fun j x y hj => hq j x y (by have := lt_f d; omega)
  exact RP.t (mch_ext c1 c2 c3 hF hG hH) hs.ext
set_option maxHeartbeats 1600000 in
theorem runs3 (m k : Mch) (sf sm sl tf tm tl : Sl) (L : List Hv) (s : Sl) (h : Heap) (hM : MI h m sf sm sl) (hK : MI h k tf tm tl) (hL : RL h 5 s Hv.cs L) (hx : Gx h) :
    Fn Tryz.prog 3 #[.agg ⟨mC m sf sm sl⟩, .agg ⟨mC k tf tm tl⟩, .slice s.a s.n s.c] h fun v h' => v = .bool true ∧ Ext h h' := by
  apply vc3 m.role m.n m.s sf sm sl k.role k.n k.s tf tm tl s; unfold W3
  refine (St.refl h).newb fun h13 hs => ?_
  refine hs.newb fun h14 hs => ?_
  refine (awake12 h14 (hx.ext hs.ext)).mono ?_
  rintro _ h17 ⟨rfl, E⟩
  have hs := hs.step E
  refine ⟨_, rfl, sB_f rfl ?_⟩
  refine ⟨_, _, _, sf, sm, sl, hs.at 1 rfl (o := 0) (n := 6) rfl, ?_⟩
  refine (few13 m sf sm sl h17 (hM.ext hs.ext)).mono ?_
  rintro _ h26 ⟨⟨b1, rfl, hb1⟩, E⟩
  have hs := hs.step E
  refine ⟨_, rfl, sB_intro (fun _ => ⟨rfl, hs.ext⟩) (fun c1 => ?_)⟩
  refine ⟨_, _, _, tf, tm, tl, hs.at 0 rfl (o := 0) (n := 6) rfl, ?_⟩
  refine (few13 k tf tm tl h26 (hK.ext hs.ext)).mono ?_
  rintro _ h35 ⟨⟨b2, rfl, hb2⟩, E⟩
  have hs := hs.step E
  refine ⟨_, rfl, sB_intro (fun _ => ⟨rfl, hs.ext⟩) (fun c2 => ?_)⟩
  refine sBi (fun _ => ⟨rfl, hs.ext⟩) (fun c3 => ?_)
  refine ⟨_, _, _, sf, sm, sl, hs.at 1 rfl (o := 0) (n := 6) rfl, ?_⟩
  refine (run14 m sf sm sl L s h35 (hM.ext hs.ext) (hL.rw.ext hs.ext) hL.sm).mono ?_
  rintro _ h46 ⟨rfl, E⟩
  have hs := hs.step E
  refine ⟨_, _, _, rfl, ?_⟩
  refine ⟨_, _, _, sf, sm, sl, hs.at 1 rfl (o := 0) (n := 6) rfl, ?_⟩
  refine (refRun15 m sf sm sl L s h46 (hM.ext hs.ext) (hL.ext hs.ext)).mono ?_
  rintro _ h57 ⟨rfl, E⟩
  have hs := hs.step E
  refine ⟨_, _, _, rfl, ?_⟩
  refine sB_t (by simp) (sB_t (by simp) (sB_t (by simp) ?_))
  refine ⟨_, _, _, sf, sm, sl, hs.at 1 rfl (o := 0) (n := 6) rfl, _, _, _, tf, tm, tl, hs.at 0 rfl (o := 0) (n := 6) rfl, _, _, _, sf, sm, sl, hs.at 1 rfl (o := 0) (n := 6) rfl, _, _, _, tf, tm, tl, hs.at 0 rfl (o := 0) (n := 6) rfl, ?_⟩
  refine (equal16 m k sf sm sl tf tm tl h57 (hM.ext hs.ext) (hK.ext hs.ext)).mono ?_
  rintro _ h84 ⟨⟨b3, rfl, hb3⟩, E⟩
  have hs := hs.step E
  refine ⟨_, rfl, E.sm, ?_⟩
  refine (same17 m k sf sm sl tf tm tl h84 (hM.ext hs.ext) (hK.ext hs.ext)).mono ?_
  rintro _ h87 ⟨⟨b4, rfl, hb4⟩, E⟩
  have hs := hs.step E
  have hbb : b3 = b4 := Bool.eq_iff_iff.2 (hb3.trans hb4.symm)
  refine ⟨_, rfl, E.sm, sB_t (by rw [hbb]; simp) ?_⟩
  refine ⟨_, _, _, sf, sm, sl, hs.at 1 rfl (o := 0) (n := 6) rfl, _, _, _, sf, sm, sl, hs.at 1 rfl (o := 0) (n := 6) rfl, ?_⟩
  refine (equal16 m m sf sm sl sf sm sl h87 (hM.ext hs.ext) (hM.ext hs.ext)).mono ?_
  rintro _ h102 ⟨⟨b5, rfl, hb5⟩, E⟩
  exact ⟨_, rfl, E.sm, by rw [hb5.2 rfl], (hs.step E).ext⟩
end Go.VC
end

section
namespace Go.VC
open Go.Proofs
set_option maxRecDepth 100000
set_option linter.unusedVariables false

/- slices.IndexFunc[[]farandole/api.Timeout,farandole/api.Timeout]
 loop rlrb: x_4:Int -/
end Go.VC
end

section
/- Contract: the reference's moves of a state, sorted. (Numbers of layer 26's seat.) -/
namespace Go.VC
open Go.Proofs Go.LexS
set_option maxRecDepth 100000
namespace M
end M
end Go.VC
end

section
/- Contracts: Moves, Sends and Timeout on both sides; the walk of the law of moves. (Numbers of layer 26's seat.) -/
namespace Go.VC
open Go.Proofs Go.LexS
set_option maxRecDepth 100000
def t0 : To := ⟨0, 0, 0⟩
end Go.VC
end

section
/- What a machine and a history look like in memory where all that is read is of bulk at most 1048576. -/
namespace Go.VC
open Go.Proofs Go.LexS Go.RowKit Go.ChangeShapes Go.WideShapes Go.Proofs.YtkebghjhekoecaaGreatDoor
set_option maxRecDepth 100000
theorem bulk_pos {H : Type} (d : DataW H) : 1 ≤ Rows.uptoBulk d := by
  cases d with
  | lit l => cases l <;> simp [Rows.uptoBulk]
  | _ => simp [Rows.uptoBulk]
theorem bulk_part {H : Type} : ∀ {l : List (DataW H)} {d : DataW H}, d ∈ l → Rows.uptoBulk d ≤ Rows.uptoBulkAll l
  | [], _, h => by cases h
  | x :: r, d, h => by
    rw [Rows.uptoBulkAll]
    rcases List.mem_cons.1 h with rfl | h
    · omega
    · have := bulk_part h; omega
theorem bulk_len {H : Type} : ∀ l : List (DataW H), l.length ≤ Rows.uptoBulkAll l
  | [] => by simp
  | x :: r => by
    have h1 := bulk_pos x
    have h2 := bulk_len r
    rw [Rows.uptoBulkAll, List.length_cons]; omega
/-- the cells cs read as type t, of bulk at most a million or so -/
def Rdb (P : Program) (W : World) (t : TypeId) (cs : List Value) : Prop :=
  ∃ (H : Type) (enc : TypeId × Value → H) (n : Nat) (x : DataW H × List MemPlace), DataW.trod enc P W 0 (fun _ => true) true n t cs = some x ∧ Rows.uptoBulk x.1 ≤ 1048576
theorem Rdb.rdt {P : Program} {W : World} {t : TypeId} {cs : List Value} (h : Rdb P W t cs) : Rdt P W t cs := by
  obtain ⟨H, enc, n, x, h1, _⟩ := h; exact ⟨H, enc, n, x, h1⟩
theorem rdb_of_trod {H : Type} {enc : TypeId × Value → H} {P : Program} {W : World} {t : TypeId} {v : Value} {d : DataW H} {p : List MemPlace} (h : DataW.Trod enc P W 0 (fun _ => true) true t v d p) (hw : Rows.uptoBulk d ≤ 1048576) : Rdb P W t v.cells.toList := by
  obtain ⟨n, h⟩ := h
  exact ⟨H, enc, n, _, h, hw⟩
theorem Rdb.field {P : Program} {W : World} {t ft : TypeId} {cs : List Value} {i off : Nat} (h : Rdb P W t cs) (hf : fieldAt P t i = some (ft, off)) : Rdb P W ft ((cs.drop off).take (P.cellsOf ft)) := by
  unfold fieldAt at hf
  split at hf
  · rename_i fs hu
    obtain ⟨f, h1, h2⟩ := Option.map_eq_some_iff.1 hf
    cases h2
    obtain ⟨H, enc, n, x, h, hw⟩ := h
    obtain ⟨xs, m, _, hx, hl, hxl, hfi⟩ := DataW.trod_struct hu h
    have hlt : i < xs.length := by rw [hxl]; exact (Array.getElem?_eq_some_iff.1 h1).1
    refine ⟨H, enc, m, xs[i], by rw [hfi i f h1, List.getElem?_eq_getElem hlt], ?_⟩
    rw [hx, Rows.uptoBulk] at hw
    have := bulk_part (l := xs.map (·.1)) (d := xs[i].1) (List.mem_map.2 ⟨xs[i], List.getElem_mem hlt, rfl⟩)
    omega
  · cases hf
/-- a slice argument in memory: its rows -/
theorem Rdb.rows {P : Program} {W : World} {t e : TypeId} {cs : List Value} (ht : P.underlying t = some (.slice e)) (h : Rdb P W t cs) (hpos : 0 < P.cellsOf e) :
    ∃ (s : Sl) (rows : List (List Value)), cs = [.slice s.a s.n s.c] ∧ s.n ≤ s.c ∧ s.n ≤ 1048576 ∧ (s.a = none → s.n = 0 ∧ s.c = 0) ∧ Rw W.heap (P.cellsOf e) s rows ∧ ∀ r ∈ rows, r.length = P.cellsOf e ∧ Rdb P W e r := by
  obtain ⟨H, enc, n, x, h, hw⟩ := h
  rcases DataW.trod_slice ht h with ⟨rfl, _⟩ | ⟨a, len, cap, elems, rest, m, _, rfl, hx, _, hlc, hcm, hel, helem, _, _⟩
  · exact ⟨⟨none, 0, 0⟩, [], rfl, Nat.le_refl _, Nat.zero_le _, fun _ => ⟨rfl, rfl⟩, Rw.nil, fun r hr => by cases hr⟩
  · rw [hx, Rows.uptoBulk] at hw
    have hle : len ≤ 1048576 := by
      have := bulk_len (elems.map (·.1))
      rw [List.length_map] at this; omega
    have hwe : ∀ (i : Nat) (hi : i < elems.length), Rows.uptoBulk elems[i].1 ≤ 1048576 := fun i hi => by
      have := bulk_part (l := elems.map (·.1)) (d := elems[i].1) (List.mem_map.2 ⟨elems[i], List.getElem_mem hi, rfl⟩)
      omega
    by_cases h0 : len = 0
    · subst h0
      exact ⟨⟨some a, 0, cap⟩, [], rfl, hlc, hle, fun e => (by cases e), Rw.empty rfl, fun r hr => by cases hr⟩
    · have hrow : ∀ i, i < len → ∃ r, W.cells? 0 (a.add (i * P.cellsOf e)) (P.cellsOf e) = some r ∧ Rdb P W e r := by
        intro i hi
        have h1 := helem i hi
        rw [List.getElem?_eq_getElem (by omega)] at h1
        obtain ⟨r, hr, hx2⟩ := Option.bind_eq_some_iff.1 h1
        exact ⟨r, hr, H, enc, m, _, hx2, hwe i (by omega)⟩
      let row : Nat → List Value := fun i => (W.cells? 0 (a.add (i * P.cellsOf e)) (P.cellsOf e)).getD []
      have hrow' : ∀ i, i < len → W.cells? 0 (a.add (i * P.cellsOf e)) (P.cellsOf e) = some (row i) ∧ Rdb P W e (row i) := fun i hi => by
        obtain ⟨r, hr, hx⟩ := hrow i hi
        have : row i = r := by show (W.cells? 0 _ _).getD [] = r; rw [hr]; rfl
        rw [this]; exact ⟨hr, hx⟩
      have hget : ∀ i, i < len → ((List.range len).map row)[i]? = some (row i) := fun i hi => by
        rw [List.getElem?_map, List.getElem?_range hi]; rfl
      have hspot : a = ⟨a.block, a.off, none⟩ := by
        have hc := (cells_at (hrow' 0 (by omega)).1)
        have hl0 : 0 < (row 0).length := by rw [hc.1]; exact hpos
        have := hc.2 0 _ (List.getElem?_eq_getElem hl0)
        rw [Nat.zero_mul, show (a.add 0).add 0 = a from rfl] at this
        unfold World.cell? at this
        split at this
        · split at this
          · cases this
          · rename_i hs
            cases a with
            | mk b o s =>
              cases s with
              | none => rfl
              | some s => exact absurd rfl hs
        · cases this
      refine ⟨⟨some a, len, cap⟩, (List.range len).map row, rfl, hlc, hle, fun e => (by cases e), ⟨by simp, fun _ => ⟨a.block, a.off, by rw [← hspot], fun i r hi j v hj => ?_⟩⟩, fun r hr => ?_⟩
      · have hil : i < len := by have := (List.getElem?_eq_some_iff.1 hi).1; simpa using this
        rw [hget i hil] at hi; cases hi
        have h4 := (cells_at (hrow' i hil).1).2 _ _ hj
        rw [hspot] at h4
        have e : ((⟨a.block, a.off, none⟩ : Addr).add (i * P.cellsOf e)).add j = addk ⟨a.block, a.off + i * P.cellsOf e, none⟩ j := by
          rw [addk_at, add_n, add_n]
        rw [e] at h4
        exact h4
      · obtain ⟨i, hi, rfl⟩ := List.mem_map.1 hr
        have := hrow' i (List.mem_range.1 hi)
        exact ⟨(cells_at this.1).1, this.2⟩
/-- .. as a list -/
theorem Rdb.list {α : Type} {P : Program} {W : World} {t e : TypeId} {k : Nat} {v : Value} {cs : α → List Value} {Q : α → Prop} (ht : P.underlying t = some (.slice e)) (hk : P.cellsOf e = k) (hpos : 0 < k)
    (ho : ∀ r, Rdb P W e r → ∃ x, r = cs x ∧ Q x) (h : Rdb P W t [v]) : ∃ (s : Sl) (L : List α), v = .slice s.a s.n s.c ∧ RL W.heap k s cs L ∧ ∀ x ∈ L, Q x := by
  subst hk
  obtain ⟨s, rows, e1, hc, hm, hna, hrw, hr⟩ := h.rows ht hpos
  have key : ∀ rows : List (List Value), (∀ r ∈ rows, r.length = P.cellsOf e ∧ Rdb P W e r) → ∃ L : List α, rows = L.map cs ∧ ∀ x ∈ L, Q x := by
    intro rows
    induction rows with
    | nil => intro _; exact ⟨[], rfl, fun x hx => by cases hx⟩
    | cons r rows ih =>
      intro h
      obtain ⟨x, hx, hq⟩ := ho r (h r (by simp)).2
      obtain ⟨L, hL, hQ⟩ := ih fun y hy => h y (List.mem_cons_of_mem _ hy)
      exact ⟨x :: L, by rw [hx, hL]; rfl, fun y hy => by rcases List.mem_cons.1 hy with rfl | hy; exact hq; exact hQ y hy⟩
  obtain ⟨L, rfl, hQ⟩ := key rows hr
  have hn := hrw.ln
  exact ⟨s, L, by simpa using e1, ⟨hrw, hc, hna, by omega⟩, hQ⟩
theorem v3 : Tryz.prog.underlying 3 = some (.int .i64) := by kernel_rfl
theorem v4b : Tryz.prog.underlying 4 = some .bool := by kernel_rfl
theorem cz3 : Tryz.prog.cellsOf 3 = 1 := by kernel_rfl
theorem cz4 : Tryz.prog.cellsOf 4 = 1 := by kernel_rfl
theorem cz37 : Tryz.prog.cellsOf 37 = 5 := by kernel_rfl
theorem cz35 : Tryz.prog.cellsOf 35 = 1 := by kernel_rfl
theorem cz22 : Tryz.prog.cellsOf 22 = 1 := by kernel_rfl
theorem cz23 : Tryz.prog.cellsOf 23 = 1 := by kernel_rfl
theorem cz24 : Tryz.prog.cellsOf 24 = 1 := by kernel_rfl
theorem cz26 : Tryz.prog.cellsOf 26 = 6 := by kernel_rfl
theorem cz44 : Tryz.prog.cellsOf 44 = 3 := by kernel_rfl
theorem cz81 : Tryz.prog.cellsOf 81 = 6 := by kernel_rfl
theorem vs22 : Tryz.prog.underlying 22 = some (.slice 4) := by kernel_rfl
theorem vs23 : Tryz.prog.underlying 23 = some (.slice 81) := by kernel_rfl
theorem vs24 : Tryz.prog.underlying 24 = some (.slice 44) := by kernel_rfl
theorem vs27 : Tryz.prog.underlying 27 = some (.slice 37) := by kernel_rfl
theorem vs35 : Tryz.prog.underlying 35 = some (.slice 343) := by kernel_rfl
theorem Rdb.sl {P : Program} {W : World} {t e : TypeId} {cs : List Value} (ht : P.underlying t = some (.slice e)) (h : Rdb P W t cs) : ∃ s : Sl, cs = [.slice s.a s.n s.c] := by
  obtain ⟨H, enc, n, x, h, _⟩ := h
  rcases DataW.trod_slice ht h with ⟨rfl, _⟩ | ⟨a, len, cap, elems, rest, m, _, rfl, _⟩
  · exact ⟨⟨none, 0, 0⟩, rfl⟩
  · exact ⟨⟨some a, len, cap⟩, rfl⟩
theorem open_three {W : World} {t : TypeId} {r : List Value} (hc : Tryz.prog.cellsOf t = 3) (h0 : fieldAt Tryz.prog t 0 = some (3, 0)) (h1 : fieldAt Tryz.prog t 1 = some (3, 1)) (h2 : fieldAt Tryz.prog t 2 = some (3, 2)) (h : Rdt Tryz.prog W t r) :
    ∃ a b c : Int, r = [.int .i64 a, .int .i64 b, .int .i64 c] := by
  have hl := h.flen h0
  rw [hc] at hl
  match r, hl with
  | [x0, x1, x2], _ =>
    have f0 := h.field h0
    have f1 := h.field h1
    have f2 := h.field h2
    rw [cz3] at f0 f1 f2
    obtain ⟨k0, e0, _⟩ := f0.int v3
    obtain ⟨k1, e1, _⟩ := f1.int v3
    obtain ⟨k2, e2, _⟩ := f2.int v3
    simp only [List.drop_zero, List.take_succ_cons, List.take_zero, List.drop_succ_cons, List.cons.injEq, and_true] at e0 e1 e2
    subst e0 e1 e2
    exact ⟨k0, k1, k2, rfl⟩
theorem open_event {W : World} {r : List Value} (h : Rdb Tryz.prog W 37 r) : ∃ x : Hv, r = x.cs ∧ True := by
  have hl := h.rdt.flen (i := 0) (ft := 3) (off := 0) (by kernel_rfl)
  rw [cz37] at hl
  match r, hl with
  | [x0, x1, x2, x3, x4], _ =>
    have f0 := h.rdt.field (i := 0) (ft := 3) (off := 0) (by kernel_rfl)
    have f1 := h.rdt.field (i := 1) (ft := 4) (off := 1) (by kernel_rfl)
    have f2 := h.rdt.field (i := 2) (ft := 3) (off := 2) (by kernel_rfl)
    have f3 := h.rdt.field (i := 3) (ft := 3) (off := 3) (by kernel_rfl)
    have f4 := h.field (i := 4) (ft := 35) (off := 4) (by kernel_rfl)
    rw [cz3] at f0 f2 f3
    rw [cz4] at f1
    rw [cz35] at f4
    obtain ⟨k0, e0, _⟩ := f0.int v3
    obtain ⟨k1, e1⟩ := f1.bool v4b
    obtain ⟨k2, e2, _⟩ := f2.int v3
    obtain ⟨k3, e3, _⟩ := f3.int v3
    obtain ⟨s, e4⟩ := f4.sl vs35
    simp only [List.drop_zero, List.take_succ_cons, List.take_zero, List.drop_succ_cons, List.cons.injEq, and_true] at e0 e1 e2 e3 e4
    subst e0 e1 e2 e3 e4
    exact ⟨⟨k0, k1, k2, k3, s⟩, rfl, trivial⟩
theorem open_events {W : World} {v : Value} (h : Rdb Tryz.prog W 27 [v]) : ∃ (s : Sl) (L : List Hv), v = .slice s.a s.n s.c ∧ RL W.heap 5 s Hv.cs L := by
  obtain ⟨s, L, e, hr, _⟩ := Rdb.list vs27 cz37 (by omega) (fun r hr => open_event hr) h
  exact ⟨s, L, e, hr⟩
theorem open_boolv {W : World} {r : List Value} (h : Rdb Tryz.prog W 4 r) : ∃ x : Bool, r = bC x ∧ True := by
  obtain ⟨k, e⟩ := h.rdt.bool v4b
  exact ⟨k, e, trivial⟩
theorem open_limit {W : World} {r : List Value} (h : Rdb Tryz.prog W 44 r) : ∃ x : To, r = x.cs ∧ True := by
  obtain ⟨a, b, c, e⟩ := open_three cz44 (by kernel_rfl) (by kernel_rfl) (by kernel_rfl) h.rdt
  exact ⟨⟨a, b, c⟩, e, trivial⟩
theorem open_move {W : World} {r : List Value} (h : Rdb Tryz.prog W 81 r) : ∃ x : Mv, r = x.cs ∧ True := by
  have hl := h.rdt.flen (i := 0) (ft := 3) (off := 0) (by kernel_rfl)
  rw [cz81] at hl
  match r, hl with
  | [x0, x1, x2, x3, x4, x5], _ =>
    have f0 := h.rdt.field (i := 0) (ft := 3) (off := 0) (by kernel_rfl)
    have f1 := h.rdt.field (i := 1) (ft := 4) (off := 1) (by kernel_rfl)
    have f2 := h.rdt.field (i := 2) (ft := 3) (off := 2) (by kernel_rfl)
    have f3 := h.rdt.field (i := 3) (ft := 3) (off := 3) (by kernel_rfl)
    have f4 := h.rdt.field (i := 4) (ft := 3) (off := 4) (by kernel_rfl)
    have f5 := h.rdt.field (i := 5) (ft := 4) (off := 5) (by kernel_rfl)
    rw [cz3] at f0 f2 f3 f4
    rw [cz4] at f1 f5
    obtain ⟨k0, e0, _⟩ := f0.int v3
    obtain ⟨k1, e1⟩ := f1.bool v4b
    obtain ⟨k2, e2, _⟩ := f2.int v3
    obtain ⟨k3, e3, _⟩ := f3.int v3
    obtain ⟨k4, e4, _⟩ := f4.int v3
    obtain ⟨k5, e5⟩ := f5.bool v4b
    simp only [List.drop_zero, List.take_succ_cons, List.take_zero, List.drop_succ_cons, List.cons.injEq, and_true] at e0 e1 e2 e3 e4 e5
    subst e0 e1 e2 e3 e4 e5
    exact ⟨⟨k0, k1, k2, k3, k4, k5⟩, rfl, trivial⟩
theorem open_machine {W : World} {r : List Value} (h : Rdb Tryz.prog W 26 r) : ∃ (m : Mch) (sf sm sl : Sl), r = mC m sf sm sl ∧ MI W.heap m sf sm sl := by
  have hl := h.rdt.flen (i := 0) (ft := 3) (off := 0) (by kernel_rfl)
  rw [cz26] at hl
  match r, hl with
  | [x0, x1, x2, x3, x4, x5], _ =>
    have f0 := h.rdt.field (i := 0) (ft := 3) (off := 0) (by kernel_rfl)
    have f1 := h.rdt.field (i := 1) (ft := 3) (off := 1) (by kernel_rfl)
    have f2 := h.rdt.field (i := 2) (ft := 3) (off := 2) (by kernel_rfl)
    have f3 := h.field (i := 3) (ft := 22) (off := 3) (by kernel_rfl)
    have f4 := h.field (i := 4) (ft := 23) (off := 4) (by kernel_rfl)
    have f5 := h.field (i := 5) (ft := 24) (off := 5) (by kernel_rfl)
    rw [cz3] at f0 f1 f2
    rw [cz22] at f3
    rw [cz23] at f4
    rw [cz24] at f5
    obtain ⟨k0, e0, _⟩ := f0.int v3
    obtain ⟨k1, e1, _⟩ := f1.int v3
    obtain ⟨k2, e2, _⟩ := f2.int v3
    obtain ⟨sf, lf, e3, hf, _⟩ := Rdb.list vs22 cz4 (by omega) (fun r hr => open_boolv hr) (show Rdb Tryz.prog W 22 [x3] from f3)
    obtain ⟨sm, lm, e4, hm, _⟩ := Rdb.list vs23 cz81 (by omega) (fun r hr => open_move hr) (show Rdb Tryz.prog W 23 [x4] from f4)
    obtain ⟨sl, ll, e5, hl, _⟩ := Rdb.list vs24 cz44 (by omega) (fun r hr => open_limit hr) (show Rdb Tryz.prog W 24 [x5] from f5)
    simp only [List.drop_zero, List.take_succ_cons, List.take_zero, List.drop_succ_cons, List.cons.injEq, and_true] at e0 e1 e2
    subst e0 e1 e2 e3 e4 e5
    exact ⟨⟨k0, k1, k2, lf, lm, ll⟩, sf, sm, sl, rfl, ⟨hf, hm, hl⟩⟩
end Go.VC
end
