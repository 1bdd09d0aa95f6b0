/- Texts of this claim, joined: RjF, RjI, RjJ, RjVcE, RjVcF, QjVcK, RjK, RjVcG, RjL, RjM, RjN, RjO, RjP, RjArgs. -/
import Derived.Test.YtkebghjhekoecaaGreatDoorM23
import Derived.Test.YtkebghjhekoecaaGreatDoorM15
import Derived.Test.YtkebghjhekoecaaGreatDoorM20
import Derived.Test.YtkebghjhekoecaaGreatDoorM02
import Derived.Test.YtkebghjhekoecaaGreatDoorProg
import Derived.KernelRfl
import Derived.Test.YtkebghjhekoecaaGreatDoorM03
import Derived.Test.YtkebghjhekoecaaGreatDoorM05
import Derived.Test.YtkebghjhekoecaaGreatDoorM18
import Derived.Test.YtkebghjhekoecaaGreatDoorRows
set_option linter.unusedVariables false
set_option linter.unusedSimpArgs false

section
/- Contracts: the move of a state with an event; Next and Run. (Numbers of layer 26's seat.) -/
namespace Go.VC
open Go.Proofs Go.LexS
set_option maxRecDepth 100000
/-- an event of a history, with the header of its values -/
structure Hv where
  role : Int
  send : Bool
  peer : Int
  label : Int
  vs : Sl
def Hv.cs (x : Hv) : List Value := [.int .i64 x.role, .bool x.send, .int .i64 x.peer, .int .i64 x.label, .slice x.vs.a x.vs.n x.vs.c]
def Hv.ev (x : Hv) : Ev := ⟨x.send, x.peer, x.label⟩
/-- the state behind an event, or -1 -/
def nxE (m : Mch) (s : Int) (e : Ev) : Int := match m.mv.find? fun y => decide (y.f = s ∧ y.ev = e) with | some y => y.t | none => -1
def nxH (m : Mch) (s : Int) (x : Hv) : Int := if x.role = m.role then nxE m s x.ev else -1
theorem nxE_none {m : Mch} {s : Int} {e : Ev} (h : ∀ x ∈ m.mv, x.f = s → x.ev ≠ e) : nxE m s e = -1 := by
  unfold nxE
  have : (m.mv.find? fun y => decide (y.f = s ∧ y.ev = e)) = none := by
    rw [List.find?_eq_none]
    intro x hx hd
    have := of_decide_eq_true hd
    exact h x hx this.1 this.2
  rw [this]
theorem nxE_some {m : Mch} (hD : DetM m) {s : Int} {e : Ev} {k : Nat} {y : Mv} (hk : m.mv[k]? = some y) (hf : y.f = s) (he : y.ev = e) : nxE m s e = y.t := by
  unfold nxE
  cases hq : m.mv.find? fun y => decide (y.f = s ∧ y.ev = e) with
  | none =>
    rw [List.find?_eq_none] at hq
    exact absurd (decide_eq_true ⟨hf, he⟩) (hq y (List.mem_of_getElem? hk))
  | some z =>
    have hz := List.find?_some hq
    obtain ⟨j, hj⟩ := List.mem_iff_getElem?.1 (List.mem_of_find?_eq_some hq)
    have hz2 : z.f = s ∧ z.ev = e := of_decide_eq_true hz
    by_cases e1 : j = k
    · subst e1; rw [hk] at hj; cases hj; rfl
    · exact absurd (hz2.2.trans he.symm) (hD j k z y hj hk e1 (by rw [hz2.1, hf])).1
theorem order103 (m : Mch) (sm : Sl) (b k : Nat) (a : Addr) (x : Mv) (e : Ev) (h : Heap) (ha : hc h a = some (.pointer (some ⟨b, 0, none⟩))) (hb : hc h ⟨b, 0 + 4, none⟩ = some (.slice sm.a sm.n sm.c)) (hr : Rw h 6 sm (m.mv.map Mv.cs)) (hx : m.mv[k]? = some x) :
    Fn Tryz.prog 103 #[.int .i64 (k : Nat), .agg ⟨e.cs⟩, .pointer (some a)] h fun v h' => v = .int .i64 (cmpE x.ev e) ∧ Ext h h' := by
  apply vc103 _ e.send e.peer e.label; unfold W103
  have hn := hr.ln
  have hxl := (List.getElem?_eq_some_iff.1 hx).1
  refine (St.refl h).newb fun h4 hs => ?_
  refine ⟨_, hc_ext hs.ext ha, ?_⟩
  refine ⟨sm, hc_ext hs.ext hb, ?_⟩
  refine (hr.ext hs.ext).nbI (by omega) (by omega) fun b8 o9 x' gx t => ?_
  replace gx : m.mv[k]? = some x' := gx
  rw [hx] at gx; cases gx
  refine ⟨_, _, _, _, _, _, t, _, _, _, hs.at 0 rfl (o := 0) (n := 3) rfl, ?_⟩
  refine (M.of63 x h4).mono ?_
  rintro _ h23 ⟨rfl, E⟩
  have hs := hs.step E
  refine ⟨_, _, _, rfl, E.sm, ?_⟩
  refine (M.compare104 x.ev e h23).mono ?_
  rintro _ h26 ⟨rfl, E2⟩
  exact ⟨_, rfl, rfl, (hs.step E2).ext⟩
theorem cal103 : callable Tryz.prog 103 = true := by kernel_rfl
theorem mid_nat {i j : Nat} (hi : i ≤ 1048576) (hj : j ≤ 1048576) : IntKind.wrap .i64 (shrI .u64 (IntKind.wrap .u64 (IntKind.wrap .i64 ((i : Int) + (j : Int)))) 1) = (((i + j) / 2 : Nat) : Int) := by
  have e1 : IntKind.wrap .i64 ((i : Int) + (j : Int)) = ((i + j : Nat) : Int) := by rw [w64 (by omega) (by omega)]; omega
  have e2 : shrI .u64 ((i + j : Nat) : Int) 1 = (((i + j) / 2 ^ 1 : Nat) : Int) := shr_nat (k := 1) (by decide)
  rw [e1, wu64 (by omega) (by omega), e2, show (2 ^ 1 : Nat) = 2 from rfl, w64 (by omega) (by omega)]
theorem cmpE_zero {x y : Ev} (h : cmpE x y = 0) : x = y := by
  unfold cmpE at h
  split at h
  · split at h <;> omega
  · rename_i hs
    unfold orI3 at h
    split at h
    · rename_i h1; exact absurd h h1
    · rename_i h1
      exact ev_ext (Classical.not_not.1 hs) (cmpI_zero.1 (Classical.not_not.1 h1)) (cmpI_zero.1 h)
theorem search102 (m : Mch) (sm : Sl) (b c : Nat) (l : List Nat) (s : Sl) (e : Ev) (h : Heap) (ha : hc h ⟨c, 0, none⟩ = some (.pointer (some ⟨b, 0, none⟩))) (hb : hc h ⟨b, 0 + 4, none⟩ = some (.slice sm.a sm.n sm.c)) (hr : Rw h 6 sm (m.mv.map Mv.cs))
    (hl : Rw h 1 s ((natI l).map inC)) (hlm : ∀ k ∈ l, ∃ x, m.mv[k]? = some x) (hll : l.length ≤ 1048576) (hso : ∀ (j i : Nat) (a b : Nat), i < j → l[i]? = some a → l[j]? = some b → evLt (evI m a) (evI m b)) :
    Fn Tryz.prog 102 #[.slice s.a s.n s.c, .agg ⟨e.cs⟩, .func (.func 103) #[] #[.pointer (some ⟨c, 0, none⟩)]] h fun v h' => Ext h h' ∧ ∃ (i : Int) (f : Bool), v = .tuple ⟨[.int .i64 i, .bool f]⟩ ∧ (f = true → ∃ (j k : Nat), i = (j : Int) ∧ l[j]? = some k ∧ evI m k = e) ∧ (f = false → ∀ k ∈ l, evI m k ≠ e) := by
  apply vc102 s e.send e.peer e.label 103 (some ⟨c, 0, none⟩); unfold W102
  have hn := hl.ln
  rw [show (natI l).length = l.length from List.length_map _] at hn
  refine (St.refl h).newb fun h4 hs => ?_
  refine ⟨fun x y h' μ => ∃ i j : Nat, x = i ∧ y = j ∧ i ≤ j ∧ j ≤ s.n ∧ μ = j - i ∧ St h h' [.blk h.size e.cs 79] ∧ (∀ (t : Nat) k, t < i → l[t]? = some k → evLt (evI m k) e) ∧ ∀ (t : Nat) k, j ≤ t → l[t]? = some k → ¬ evLt (evI m k) e,
    ⟨_, 0, s.n, rfl, rfl, by omega, Nat.le_refl _, rfl, hs, fun t k ht => by omega, fun t k ht hk => by have := (List.getElem?_eq_some_iff.1 hk).1; omega⟩, ?_⟩
  clear hs
  rintro - _ _ h10 μ ⟨i, j, rfl, rfl, hij, hj, rfl, hs, hlo, hhi⟩
  refine sBi (fun c1 => ?_) (fun c1 => ?_)
  · rw [mid_nat (by omega) (by omega)]
    refine ⟨by decide, ?_⟩
    refine (hl.ext hs.ext).nbI (by omega) (by omega) fun b11 o12 d gd t => ?_
    replace gd : (natI l)[(i + j) / 2]? = some d := gd
    obtain ⟨k, hk, rfl⟩ := natI_get gd
    obtain ⟨x, hx⟩ := hlm k (List.mem_of_getElem? hk)
    refine ⟨_, t.nth 0 rfl, _, _, _, hs.at 0 rfl (o := 0) (n := 3) rfl, ?_⟩
    rw [cal103, cond_true]
    refine (order103 m sm b k ⟨c, 0, none⟩ x e h10 (hc_ext hs.ext ha) (hc_ext hs.ext hb) (hr.ext hs.ext) hx).mono ?_
    rintro _ h19 ⟨rfl, E⟩
    have hs := hs.step E
    have hev : evI m k = x.ev := evI_of hx
    refine ⟨_, rfl, sBi (fun c2 => ?_) (fun c2 => ?_)⟩
    · rw [cmpE_neg] at c2
      refine ⟨_, ?_, (i + j) / 2 + 1, j, by rw [w64 (by omega) (by omega)]; omega, rfl, by omega, hj, rfl, hs, fun t k' ht hk' => ?_, hhi⟩
      · omega
      · by_cases et : t = (i + j) / 2
        · subst et; rw [hk] at hk'; cases hk'; rw [hev]; exact c2
        · have h1 := hso ((i + j) / 2) t k' k (by omega) hk' hk
          rw [hev] at h1
          exact evLt_trans h1 c2
    · rw [cmpE_neg] at c2
      refine ⟨_, ?_, i, (i + j) / 2, rfl, rfl, by omega, by omega, rfl, hs, hlo, fun t k' ht hk' => ?_⟩
      · omega
      · by_cases et : t = (i + j) / 2
        · subst et; rw [hk] at hk'; cases hk'; rw [hev]; exact c2
        · have h1 := hso t ((i + j) / 2) k k' (by omega) hk hk'
          rw [hev] at h1
          exact fun h2 => c2 (evLt_trans h1 h2)
  · have hijj : i = j := by omega
    subst hijj
    refine sBi (fun c2 => ?_) (fun c2 => ⟨hs.ext, _, false, rfl, (fun hf => by cases hf), fun _ k hk he => ?_⟩)
    · refine (hl.ext hs.ext).nbI (by omega) (by omega) fun b22 o23 d gd t => ?_
      replace gd : (natI l)[i]? = some d := gd
      obtain ⟨k, hk, rfl⟩ := natI_get gd
      obtain ⟨x, hx⟩ := hlm k (List.mem_of_getElem? hk)
      refine ⟨_, t.nth 0 rfl, _, _, _, hs.at 0 rfl (o := 0) (n := 3) rfl, ?_⟩
      rw [cal103, cond_true]
      refine (order103 m sm b k ⟨c, 0, none⟩ x e h10 (hc_ext hs.ext ha) (hc_ext hs.ext hb) (hr.ext hs.ext) hx).mono ?_
      rintro _ h30 ⟨rfl, E⟩
      have hev : evI m k = x.ev := evI_of hx
      refine ⟨_, rfl, (hs.step E).ext, _, _, rfl, fun hf => ⟨i, k, rfl, hk, ?_⟩, fun hf k' hk' he => ?_⟩
      · have h0 : cmpE x.ev e = 0 := by simpa using hf
        rw [hev]
        exact cmpE_zero h0
      · have h0 : cmpE x.ev e ≠ 0 := by simpa using hf
        obtain ⟨t, ht⟩ := List.mem_iff_getElem?.1 hk'
        rcases Nat.lt_trichotomy t i with h1 | h1 | h1
        · have := hlo t k' h1 ht
          rw [he] at this
          exact evLt_irr _ this
        · subst h1
          rw [hk] at ht; cases ht
          rw [hev] at he
          apply h0
          rw [he]
          unfold cmpE orI3 cmpI
          simp
        · have h2 := hso t i k k' h1 hk ht
          rw [he, hev] at h2
          exact hhi i k (Nat.le_refl _) hk (by rw [hev]; exact h2)
    · obtain ⟨t, ht⟩ := List.mem_iff_getElem?.1 hk
      have htl := (List.getElem?_eq_some_iff.1 ht).1
      have := hlo t k (by omega) ht
      rw [he] at this
      exact evLt_irr _ this
theorem find48 (m : Mch) (sf sm sl : Sl) (b : Nat) (S : Nat → List Nat) (s : Int) (e : Ev) (h : Heap) (hM : MI h m sf sm sl) (hV : VM m) (hT : TbI h ⟨b, 0, none⟩ m sf sm sl S) (h0 : 0 ≤ s) (h1 : s < m.n) :
    Fn Tryz.prog 48 #[.pointer (some ⟨b, 0, none⟩), .int .i64 s, .agg ⟨e.cs⟩] h fun v h' => Ext h h' ∧ ((v = .int .i64 (-1) ∧ nxE m s e = -1) ∨ ∃ (k : Nat) (y : Mv), v = .int .i64 (k : Nat) ∧ m.mv[k]? = some y ∧ nxE m s e = y.t) := by
  apply vc48 ⟨b, 0, none⟩ s e.send e.peer e.label; unfold W48
  obtain ⟨ho, qs, _, hat, hhn, hho, hqs⟩ := hT.ex
  have hmn := hM.pm.ln
  have hmm := hM.pm.sm
  have hvl : s.toNat < m.n.toNat := by omega
  have hS := hT.so s.toNat hvl
  have hrow := hqs s.toNat hvl
  have hsi : ((s.toNat : Nat) : Int) = s := by omega
  refine (St.refl h).newb fun h4 hs => ?_
  refine hs.newb fun h5 hs => ?_
  refine ⟨_, hs.rd 1 rfl rfl, ?_⟩
  refine ⟨ho, (atC_ext hs.ext hat).nth 6 rfl, ?_⟩
  refine (hho.ext hs.ext).nbI (by omega) (by omega) fun b9 o10 v gv t => ?_
  have hv : v = s.toNat := by rw [List.getElem?_range hvl] at gv; exact (Option.some.inj gv).symm
  subst hv
  have hlm : ∀ k ∈ S s.toNat, ∃ x, m.mv[k]? = some x ∧ x.f = s := fun k hk => by
    obtain ⟨x, hx, hf⟩ := outIx_mem.1 (hS.p.mem_iff.1 hk)
    exact ⟨x, hx, by omega⟩
  have hll : (S s.toNat).length ≤ 1048576 := by
    rw [hS.p.length_eq]
    unfold outIx
    exact Nat.le_trans (List.length_filter_le _ _) (by rw [List.length_range]; omega)
  have hnd := hS.p.nodup_iff.2 (outIx_nodup m ((s.toNat : Nat) : Int))
  have hso : ∀ (j i : Nat) (a b : Nat), i < j → (S s.toNat)[i]? = some a → (S s.toNat)[j]? = some b → evLt (evI m a) (evI m b) := by
    refine srt_lt hS fun j a b ha hb => ?_
    obtain ⟨x, hx, hxf⟩ := hlm a (List.mem_of_getElem? ha)
    obtain ⟨y, hy, hyf⟩ := hlm b (List.mem_of_getElem? hb)
    have hne : a ≠ b := fun e => by
      have h1 := (List.getElem?_eq_some_iff.1 ha)
      have h2 := (List.getElem?_eq_some_iff.1 hb)
      have h3 := (List.pairwise_iff_getElem.1 hnd) j (j + 1) h1.1 h2.1 (by omega)
      rw [h1.2, h2.2] at h3
      exact h3 e
    rw [evI_of hx, evI_of hy]
    exact (hV.d a b x y hx hy hne (by omega)).1
  refine ⟨_, t.hd, _, _, _, hs.at 0 rfl (o := 0) (n := 3) rfl, ?_⟩
  refine (search102 m sm b h.size (S s.toNat) (qs s.toNat) e h5 (hs.rd 1 rfl rfl) ((atC_ext hs.ext hat).nth 4 rfl) (hM.pm.rw.ext hs.ext) (hrow.ext hs.ext) (fun k hk => (hlm k hk).imp fun x hx => hx.1) hll hso).mono ?_
  rintro _ h18 ⟨E, i, f, rfl, hft, hff⟩
  have hs := hs.step E
  refine ⟨_, _, rfl, sB_intro (fun c => ?_) (fun c => ?_)⟩
  · refine ⟨hs.ext, .inl ⟨rfl, nxE_none fun x hx hxf => ?_⟩⟩
    obtain ⟨k, hk⟩ := List.mem_iff_getElem?.1 hx
    have := hff (bF c) k (hS.p.mem_iff.2 (outIx_mem.2 ⟨x, hk, by omega⟩))
    rwa [evI_of hk] at this
  · obtain ⟨j, k, rfl, hjk, hev⟩ := hft (bT c)
    obtain ⟨x, hx, hxf⟩ := hlm k (List.mem_of_getElem? hjk)
    have hjl := (List.getElem?_eq_some_iff.1 hjk).1
    refine ⟨_, hs.rd 1 rfl rfl, ho, (atC_ext hs.ext hat).nth 6 rfl, ?_⟩
    refine (hho.ext hs.ext).nbI (by omega) (by omega) fun b22 o23 v gv t => ?_
    have hv : v = s.toNat := by rw [List.getElem?_range hvl] at gv; exact (Option.some.inj gv).symm
    subst hv
    have hrn := hrow.ln
    rw [show (natI (S s.toNat)).length = (S s.toNat).length from List.length_map _] at hrn
    refine ⟨_, t.hd, ?_⟩
    refine (hrow.ext hs.ext).nbI (by omega) (by omega) fun b25 o26 d gd t2 => ?_
    replace gd : (natI (S s.toNat))[j]? = some d := gd
    obtain ⟨k', hk', rfl⟩ := natI_get gd
    rw [hjk] at hk'; cases hk'
    refine ⟨_, t2.nth 0 rfl, hs.ext, .inr ⟨k, x, rfl, hx, nxE_some hV.d hx hxf ?_⟩⟩
    rw [← evI_of hx]; exact hev
/-- what a history does: the state, how many events, the error -/
def runN (m : Mch) : Int → Nat → List Hv → Int × Nat × Int
  | s, i, [] => (s, i, 0)
  | s, i, x :: l => if 0 ≤ nxH m s x then runN m (nxH m s x) (i + 1) l else (s, i, 23)
def runV (r : Int × Nat × Int) : Value := .tuple ⟨[.int .i64 r.1, .int .i64 (r.2.1 : Nat), .int .i64 r.2.2]⟩
/-- a new block that is filled at once, with what it leaves -/
theorem newput' {h0 h : Heap} {L : List It} {zs vs : List Value} {e : TypeId} {K : Heap → Prop} {n : Nat} (hn : n = vs.length) (hl : zs.length = vs.length) (hs : St h0 h L) (hK : ∀ h3, Ext h h3 → St h0 h3 (.blk h.size vs e :: L) → K h3) :
    ∀ h2 : Heap, h2 = h.push (.cells ⟨zs⟩ e) → okAt h2 ⟨h.size, 0, none⟩ n ∧ ∀ h3 : Heap, h3 = hputs h2 ⟨h.size, 0, none⟩ 0 vs → K h3 := by
  subst hn
  exact VC.newput hl fun h3 E o => hK h3 E (hs.more E (i := .blk h.size vs e) o fun b hb => by cases hb; exact Nat.le_refl _)
open Classical in
theorem run14 (m : Mch) (sf sm sl : Sl) (L : List Hv) (s : Sl) (h : Heap) (hM : MI h m sf sm sl) (hL : Rw h 5 s (L.map Hv.cs)) (hLm : L.length ≤ 1048576) :
    Fn Tryz.prog 14 #[.agg ⟨mC m sf sm sl⟩, .slice s.a s.n s.c] h fun v h' => v = runV (if VM m then runN m m.s 0 L else (0, 0, 1)) ∧ Ext h h' := by
  apply vc14 m.role m.n m.s sf sm sl; unfold W14
  have hmn := hM.pm.ln
  have hsn := hL.ln
  refine (St.refl h).newb fun h7 hs => ?_
  refine ⟨_, _, _, sf, sm, sl, hs.at 0 rfl (o := 0) (n := 6) rfl, ?_⟩
  refine (open47 m sf sm sl h7 (hM.ext hs.ext)).mono ?_
  rintro _ h17 ⟨E, p, b, rfl, hb, hbT⟩
  have hs := hs.step E
  refine ⟨_, _, rfl, sB_intro (fun c => ⟨by rw [if_neg (iff_f hb (bF c))]; rfl, hs.ext⟩) (fun c => ?_)⟩
  obtain ⟨b0, S, rfl, hT⟩ := hbT (bT c)
  have hV := hb.1 (bT c)
  rw [if_pos hV]
  have hms := hV.n.s
  refine ⟨_, hs.rd 0 rfl rfl, ?_⟩
  refine ⟨fun a x h' μ => ∃ i : Nat, x = i ∧ i ≤ s.n ∧ μ = s.n - i ∧ 0 ≤ a ∧ a < m.n ∧ runN m m.s 0 L = runN m a i (L.drop i) ∧ St h h' [.blk h.size (mC m sf sm sl) 26] ∧ TbI h' ⟨b0, 0, none⟩ m sf sm sl S, ⟨_, 0, rfl, by omega, rfl, hms.1, hms.2, rfl, hs, hT⟩, ?_⟩
  clear hs hT
  rintro - a _ h24 μ ⟨i, rfl, hi, rfl, ha0, ha1, hrun, hs, hT⟩
  refine sB_intro (fun c1 => ?_) (fun c1 => ?_)
  · replace c1 := lt_t c1
    refine (hL.ext hs.ext).nbI (by omega) (by omega) fun b25 o26 x gx t => ?_
    replace gx : L[i]? = some x := gx
    have hdr : L.drop i = x :: L.drop (i + 1) := drop_get gx
    rw [hdr, runN] at hrun
    refine ⟨_, _, _, _, _, t, ?_⟩
    refine newput' (vs := x.cs) rfl rfl hs fun h33 E33 hs => ?_
    have hT := hT.ext E33
    refine ⟨fun k h' => St h h' [.blk h24.size x.cs 37, .blk h.size (mC m sf sm sl) 26] ∧ TbI h' ⟨b0, 0, none⟩ m sf sm sl S ∧ ((k = -1 ∧ nxH m a x = -1) ∨ ∃ (kn : Nat) (y : Mv), k = (kn : Int) ∧ m.mv[kn]? = some y ∧ nxH m a x = y.t), ?_, ?_⟩
    · refine ⟨_, hs.rd 0 rfl rfl, _, hs.rd 1 rfl rfl, sBe (fun c2 => ?_) (fun c2 => ?_)⟩
      · refine ⟨_, hs.rd 0 rfl rfl, _, hs.rd 0 rfl rfl, _, hs.rd 0 rfl rfl, ?_⟩
        refine (find48 m sf sm sl b0 S a x.ev h33 (hM.ext hs.ext) hV hT ha0 ha1).mono ?_
        rintro _ h42 ⟨E, hr⟩
        have hnx : nxH m a x = nxE m a x.ev := by unfold nxH; rw [if_pos c2]
        rcases hr with ⟨rfl, hn⟩ | ⟨k, y, rfl, hy, hn⟩
        · exact ⟨_, rfl, hs.step E, hT.ext E, .inl ⟨rfl, by rw [hnx, hn]⟩⟩
        · exact ⟨_, rfl, hs.step E, hT.ext E, .inr ⟨k, y, rfl, hy, by rw [hnx, hn]⟩⟩
      · exact ⟨hs, hT, .inl ⟨rfl, by unfold nxH; rw [if_neg c2]⟩⟩
    · clear hs hT
      rintro - k h44 ⟨hs, hT, hk⟩
      rcases hk with ⟨rfl, hn⟩ | ⟨kn, y, rfl, hy, hn⟩
      · refine sBi (fun _ => ⟨?_, hs.ext⟩) (fun c3 => absurd (by decide) c3)
        rw [hrun, if_neg (by omega)]; rfl
      · have hyl := (List.getElem?_eq_some_iff.1 hy).1
        have hyr := hV.n.mv y (List.mem_of_getElem? hy)
        refine sBi (fun c3 => by omega) (fun _ => ?_)
        refine ⟨sm, hs.rd 1 rfl rfl, ?_⟩
        refine (hM.pm.rw.ext hs.ext).nbI (by omega) (by omega) fun b46 o47 y' gy t2 => ?_
        replace gy : m.mv[kn]? = some y' := gy
        rw [hy] at gy; cases gy
        refine ⟨_, t2.nth 4 rfl, s.n - (i + 1), by omega, i + 1, by rw [w64 (by omega) (by omega)]; omega, by omega, rfl, by omega, by omega, ?_, hs.drop 1, hT⟩
        rw [hrun, if_pos (by omega), hn]
  · replace c1 := lt_f c1
    have his : i = s.n := by omega
    subst his
    refine ⟨?_, hs.ext⟩
    rw [hrun, List.drop_eq_nil_of_le (by omega)]; rfl
end Go.VC
end

section
/- Contract: the laws of layer 26 are awake. -/
namespace Go.VC
open Go.Proofs Go.LexS
set_option maxRecDepth 100000
def exM : Mch := ⟨2, 4, 0, [false, false, false, true], [⟨0, false, 1, 0, 1, false⟩, ⟨0, false, 1, 1, 2, false⟩, ⟨1, true, 1, 2, 3, false⟩, ⟨2, true, 1, 3, 3, false⟩], []⟩
theorem ex_raw_true (hr hd he ht : Sl) : rawC (exGl true hr hd he ht) 2 = some (some exM, 0) := by kernel_rfl
theorem ex_min : minF exM = exM := by kernel_rfl
theorem ex_true (hr hd he ht : Sl) : proj (exGl true hr hd he ht) 2 = (some exM, 0) := by
  have := rawC_ok (ex_valid true hr hd he ht) (by decide) (show (2 : Int) < ((3 : Nat) : Int) by decide) (ex_raw_true hr hd he ht)
  unfold proj
  rw [this]
  show (some (minF exM), 0) = _
  rw [ex_min]
theorem exM_get (i : Nat) (x : Mv) (h : exM.mv[i]? = some x) : (i = 0 ∧ x = ⟨0, false, 1, 0, 1, false⟩) ∨ (i = 1 ∧ x = ⟨0, false, 1, 1, 2, false⟩) ∨ (i = 2 ∧ x = ⟨1, true, 1, 2, 3, false⟩) ∨ (i = 3 ∧ x = ⟨2, true, 1, 3, 3, false⟩) := by
  match i, h with
  | 0, h => exact .inl ⟨rfl, (Option.some.inj h).symm⟩
  | 1, h => exact .inr (.inl ⟨rfl, (Option.some.inj h).symm⟩)
  | 2, h => exact .inr (.inr (.inl ⟨rfl, (Option.some.inj h).symm⟩))
  | 3, h => exact .inr (.inr (.inr ⟨rfl, (Option.some.inj h).symm⟩))
  | n + 4, h => exact absurd h (by simp [exM])
theorem exM_mem (x : Mv) (h : x ∈ exM.mv) : x = ⟨0, false, 1, 0, 1, false⟩ ∨ x = ⟨0, false, 1, 1, 2, false⟩ ∨ x = ⟨1, true, 1, 2, 3, false⟩ ∨ x = ⟨2, true, 1, 3, 3, false⟩ := by
  obtain ⟨i, hi⟩ := List.mem_iff_getElem?.1 h
  rcases exM_get i x hi with ⟨_, e⟩ | ⟨_, e⟩ | ⟨_, e⟩ | ⟨_, e⟩
  · exact .inl e
  · exact .inr (.inl e)
  · exact .inr (.inr (.inl e))
  · exact .inr (.inr (.inr e))
theorem exM_ag (x : Mv) (h : x ∈ exM.mv) : x.ag = false := by
  rcases exM_mem x h with rfl | rfl | rfl | rfl <;> rfl
theorem exVM : VM exM := by
  refine ⟨⟨⟨by decide, by decide⟩, ⟨by decide, by decide⟩, ⟨by decide, by decide⟩, rfl, by decide, fun x hx => ?_⟩, fun i k x y hx hy hne hf => ?_, fun v h0 h1 => ?_, ⟨fun x hx ha => ?_, fun x hx ha => ?_, fun x hx ha => ?_, fun x hx ha => ?_, fun x hx ha => ?_⟩, fun i t h => ?_⟩
  · rcases exM_mem x hx with rfl | rfl | rfl | rfl <;> decide
  · rcases exM_get i x hx with ⟨rfl, rfl⟩ | ⟨rfl, rfl⟩ | ⟨rfl, rfl⟩ | ⟨rfl, rfl⟩ <;> rcases exM_get k y hy with ⟨rfl, rfl⟩ | ⟨rfl, rfl⟩ | ⟨rfl, rfl⟩ | ⟨rfl, rfl⟩ <;> first
      | exact absurd rfl hne
      | exact absurd hf (by decide)
      | exact ⟨fun e => absurd (congrArg Ev.label e) (by decide), rfl⟩
  · have q0 : Qr (meds exM) (-1) [exM.s] 0 := .base (List.mem_singleton.2 rfl)
    have q1 : Qr (meds exM) (-1) [exM.s] 1 := .step q0 ⟨⟨0, 0, 0, 0, 1, false⟩, List.mem_map.2 ⟨⟨0, false, 1, 0, 1, false⟩, by simp [exM], rfl⟩, rfl, rfl, rfl⟩
    have q2 : Qr (meds exM) (-1) [exM.s] 2 := .step q0 ⟨⟨0, 0, 0, 0, 2, false⟩, List.mem_map.2 ⟨⟨0, false, 1, 1, 2, false⟩, by simp [exM], rfl⟩, rfl, rfl, rfl⟩
    have q3 : Qr (meds exM) (-1) [exM.s] 3 := .step q1 ⟨⟨1, 0, 0, 0, 3, false⟩, List.mem_map.2 ⟨⟨1, true, 1, 2, 3, false⟩, by simp [exM], rfl⟩, rfl, rfl, rfl⟩
    have h1 : v < 4 := h1
    have : v = 0 ∨ v = 1 ∨ v = 2 ∨ v = 3 := by omega
    rcases this with rfl | rfl | rfl | rfl
    · exact q0
    · exact q1
    · exact q2
    · exact q3
  · rw [exM_ag x hx] at ha; cases ha
  · rw [exM_ag x hx] at ha; cases ha
  · rw [exM_ag x hx] at ha; cases ha
  · rw [exM_ag x hx] at ha; cases ha
  · rw [exM_ag x hx] at ha; cases ha
  · simp [exM] at h
def evA (l : Int) : Hv := ⟨2, false, 1, l, ⟨none, 0, 0⟩⟩
def evB : Hv := ⟨2, true, 1, 2, ⟨none, 0, 0⟩⟩
theorem ex_run0 : runN exM exM.s 0 [evA 0, evB] = (3, 2, 0) := by kernel_rfl
theorem ex_run1 : runN exM exM.s 0 [evA 1, evB] = (2, 1, 23) := by kernel_rfl
theorem hvrows (L : List Hv) : ∀ r ∈ L.map Hv.cs, r.length = 5 := fun r hr => by obtain ⟨x, _, rfl⟩ := List.mem_map.1 hr; rfl
set_option maxHeartbeats 1600000 in
theorem awake12 (h : Heap) (hx : Gx h) : Fn Tryz.prog 12 #[] h fun v h' => v = .bool true ∧ Ext h h' := by
  apply vc12; unfold W12
  have hs := St.refl h
  refine (example34 true h).mono ?_
  rintro _ h10 ⟨E10, hr, hd, he, rfl, hg⟩
  refine ⟨_, hr, hd, _, _, _, he, ⟨none, 0, 0⟩, rfl, ?_⟩
  refine (project12 _ 2 h10 hg (hx.ext E10)).mono ?_
  rintro _ h19 ⟨E19, hm⟩
  rw [ex_true] at hm
  cases hm with
  | err he0 _ => cases he0
  | @ok m sf sm sl he0 hs2 =>
    cases he0
    have hM : MI h19 exM sf sm sl := ⟨hs2.rl 0 rfl (by omega) (by decide), hs2.rl 1 rfl (by omega) (by decide), hs2.rl 2 rfl (by omega) (by decide)⟩
    have E0 : Ext h h19 := E10.trans E19
    refine ⟨_, _, _, sf, sm, sl, 0, rfl, ?_⟩
    refine (St.refl h19).newput (vs := mC exM sf sm sl) rfl rfl fun h21 hs => ?_
    refine hs.newb fun h22 hs => ?_
    refine hs.newb fun h23 hs => ?_
    refine hs.put 1 rfl (o := 0) (vs := (evA 0).cs) rfl (show 5 ≤ 5 by decide) fun h24 hs => ?_
    refine hs.put 0 rfl (o := 0) (vs := evB.cs) rfl (show 5 ≤ 5 by decide) fun h25 hs => ?_
    refine ⟨_, _, _, sf, sm, sl, hs.at 2 rfl (o := 0) (n := 6) rfl, _, _, _, _, ⟨none, 0, 0⟩, hs.at 1 rfl (o := 0) (n := 5) rfl, _, _, _, _, ⟨none, 0, 0⟩, hs.at 0 rfl (o := 0) (n := 5) rfl, ?_⟩
    refine hs.newb fun h42 hs => ?_
    have hs := hs.blkS 2 5 ([evA 0, evB].map Hv.cs) rfl (hvrows _) rfl (by decide)
    refine (run14 exM sf sm sl [evA 0, evB] _ h42 (hM.ext hs.ext) (hs.rows 0 rfl (by omega)) (by decide)).mono ?_
    rintro _ h47 ⟨rfl, E⟩
    have hs := hs.step E
    rw [if_pos exVM, ex_run0]
    refine ⟨_, _, _, rfl, ?_⟩
    refine hs.put 2 rfl (o := 3) (vs := [.int .i64 1]) rfl (show 3 + 1 ≤ 5 by decide) fun h48 hs => ?_
    refine ⟨_, _, _, sf, sm, sl, hs.at 3 rfl (o := 0) (n := 6) rfl, _, _, _, _, ⟨none, 0, 0⟩, hs.at 2 rfl (o := 0) (n := 5) rfl, _, _, _, _, ⟨none, 0, 0⟩, hs.at 1 rfl (o := 0) (n := 5) rfl, ?_⟩
    refine hs.newb fun h65 hs => ?_
    have hs := hs.blkS 2 5 ([evA 1, evB].map Hv.cs) rfl (hvrows _) rfl (by decide)
    refine (run14 exM sf sm sl [evA 1, evB] _ h65 (hM.ext hs.ext) (hs.rows 0 rfl (by omega)) (by decide)).mono ?_
    rintro _ h70 ⟨rfl, E⟩
    have hs := hs.step E
    rw [if_pos exVM, ex_run1]
    refine ⟨_, _, _, rfl, ?_⟩
    refine sB_t rfl (sB_t rfl (sB_t rfl (sB_t rfl (sB_t rfl ?_))))
    refine ⟨_, _, _, sf, sm, sl, hs.at 4 rfl (o := 0) (n := 6) rfl, ?_⟩
    refine (valid23 exM sf sm sl h70 (hM.ext hs.ext)).mono ?_
    rintro _ h79 ⟨⟨b, rfl, hb⟩, E⟩
    exact ⟨_, rfl, by rw [hb.2 exVM], E0.trans (hs.step E).ext⟩
end Go.VC
end

section
/- The walk of the law of histories step by step. (Numbers of layer 26's seat.) -/
namespace Go.VC
open Go.Proofs Go.LexS
set_option maxRecDepth 100000
theorem runN_snoc {m : Mch} : ∀ {l : List Hv} {a t : Int} {k n : Nat} (x : Hv), runN m a k l = (t, n, 0) → runN m a k (l ++ [x]) = if 0 ≤ nxH m t x then (nxH m t x, n + 1, 0) else (t, n, 23)
  | [], a, t, k, n, x, h => by
    rw [runN] at h; cases h
    rw [List.nil_append, runN]
    split
    · rw [runN]
    · rfl
  | y :: l, a, t, k, n, x, h => by
    rw [runN] at h
    rw [List.cons_append, runN]
    split at h
    · rename_i h1
      rw [if_pos h1]
      exact runN_snoc x h
    · cases h
end Go.VC
end

section
namespace Go.VC
open Go.Proofs
set_option maxRecDepth 100000
set_option linter.unusedVariables false

def W3 (p0_1 p0_2 p0_3 : Int) (p0_4 p0_5 p0_6 : Sl) (p1_7 p1_8 p1_9 : Int) (p1_10 p1_11 p1_12 p2 : Sl) (h : Heap) (R : Value → Heap → Prop) : Prop :=
 (∀ h13 : Heap, h13 = h.push (.cells ⟨[.int .i64 p0_1, .int .i64 p0_2, .int .i64 p0_3, .slice p0_4.a p0_4.n p0_4.c, .slice p0_5.a p0_5.n p0_5.c, .slice p0_6.a p0_6.n p0_6.c]⟩ 26) →
 (∀ h14 : Heap, h14 = h13.push (.cells ⟨[.int .i64 p1_7, .int .i64 p1_8, .int .i64 p1_9, .slice p1_10.a p1_10.n p1_10.c, .slice p1_11.a p1_11.n p1_11.c, .slice p1_12.a p1_12.n p1_12.c]⟩ 26) →
 (Fn Tryz.prog 12 #[] h14
 (fun v15 h17 => ∃ x16 : Bool, v15 = .bool x16 ∧
 (sB (!x16)
 (R (.bool false) h17)
 ((∃ (x18 x19 x20 : Int) (x21 x22 x23 : Sl), atC h17 ⟨h.size, 0, none⟩ [.int .i64 x18, .int .i64 x19, .int .i64 x20, .slice x21.a x21.n x21.c, .slice x22.a x22.n x22.c, .slice x23.a x23.n x23.c] ∧
 (Fn Tryz.prog 13 #[.agg ⟨[.int .i64 x18, .int .i64 x19, .int .i64 x20, .slice x21.a x21.n x21.c, .slice x22.a x22.n x22.c, .slice x23.a x23.n x23.c]⟩] h17
 (fun v24 h26 => ∃ x25 : Bool, v24 = .bool x25 ∧
 (sB (!x25)
 (R (.bool true) h26)
 ((∃ (x27 x28 x29 : Int) (x30 x31 x32 : Sl), atC h26 ⟨h13.size, 0, none⟩ [.int .i64 x27, .int .i64 x28, .int .i64 x29, .slice x30.a x30.n x30.c, .slice x31.a x31.n x31.c, .slice x32.a x32.n x32.c] ∧
 (Fn Tryz.prog 13 #[.agg ⟨[.int .i64 x27, .int .i64 x28, .int .i64 x29, .slice x30.a x30.n x30.c, .slice x31.a x31.n x31.c, .slice x32.a x32.n x32.c]⟩] h26
 (fun v33 h35 => ∃ x34 : Bool, v33 = .bool x34 ∧
 (sB (!x34)
 (R (.bool true) h35)
 ((sB (decide ((p2.n : Int) > 30))
 (R (.bool true) h35)
 ((∃ (x36 x37 x38 : Int) (x39 x40 x41 : Sl), atC h35 ⟨h.size, 0, none⟩ [.int .i64 x36, .int .i64 x37, .int .i64 x38, .slice x39.a x39.n x39.c, .slice x40.a x40.n x40.c, .slice x41.a x41.n x41.c] ∧
 (Fn Tryz.prog 14 #[.agg ⟨[.int .i64 x36, .int .i64 x37, .int .i64 x38, .slice x39.a x39.n x39.c, .slice x40.a x40.n x40.c, .slice x41.a x41.n x41.c]⟩, .slice p2.a p2.n p2.c] h35
 (fun v42 h46 => ∃ (x43 x44 x45 : Int), v42 = .tuple ⟨[.int .i64 x43, .int .i64 x44, .int .i64 x45]⟩ ∧
 (∃ (x47 x48 x49 : Int) (x50 x51 x52 : Sl), atC h46 ⟨h.size, 0, none⟩ [.int .i64 x47, .int .i64 x48, .int .i64 x49, .slice x50.a x50.n x50.c, .slice x51.a x51.n x51.c, .slice x52.a x52.n x52.c] ∧
 (Fn Tryz.prog 15 #[.agg ⟨[.int .i64 x47, .int .i64 x48, .int .i64 x49, .slice x50.a x50.n x50.c, .slice x51.a x51.n x51.c, .slice x52.a x52.n x52.c]⟩, .slice p2.a p2.n p2.c] h46
 (fun v53 h57 => ∃ (x54 x55 x56 : Int), v53 = .tuple ⟨[.int .i64 x54, .int .i64 x55, .int .i64 x56]⟩ ∧
 (sB (x43 == x54)
 ((sB (x44 == x55)
 ((sB (x45 == x56)
 ((∃ (x58 x59 x60 : Int) (x61 x62 x63 : Sl), atC h57 ⟨h.size, 0, none⟩ [.int .i64 x58, .int .i64 x59, .int .i64 x60, .slice x61.a x61.n x61.c, .slice x62.a x62.n x62.c, .slice x63.a x63.n x63.c] ∧
 (∃ (x64 x65 x66 : Int) (x67 x68 x69 : Sl), atC h57 ⟨h13.size, 0, none⟩ [.int .i64 x64, .int .i64 x65, .int .i64 x66, .slice x67.a x67.n x67.c, .slice x68.a x68.n x68.c, .slice x69.a x69.n x69.c] ∧
 (∃ (x70 x71 x72 : Int) (x73 x74 x75 : Sl), atC h57 ⟨h.size, 0, none⟩ [.int .i64 x70, .int .i64 x71, .int .i64 x72, .slice x73.a x73.n x73.c, .slice x74.a x74.n x74.c, .slice x75.a x75.n x75.c] ∧
 (∃ (x76 x77 x78 : Int) (x79 x80 x81 : Sl), atC h57 ⟨h13.size, 0, none⟩ [.int .i64 x76, .int .i64 x77, .int .i64 x78, .slice x79.a x79.n x79.c, .slice x80.a x80.n x80.c, .slice x81.a x81.n x81.c] ∧
 (Fn Tryz.prog 16 #[.agg ⟨[.int .i64 x58, .int .i64 x59, .int .i64 x60, .slice x61.a x61.n x61.c, .slice x62.a x62.n x62.c, .slice x63.a x63.n x63.c]⟩, .agg ⟨[.int .i64 x64, .int .i64 x65, .int .i64 x66, .slice x67.a x67.n x67.c, .slice x68.a x68.n x68.c, .slice x69.a x69.n x69.c]⟩] h57
 (fun v82 h84 => ∃ x83 : Bool, v82 = .bool x83 ∧
 (Sm [⟨h13.size, 0, none⟩, ⟨h.size, 0, none⟩] h57 h84 ∧
 (Fn Tryz.prog 17 #[.agg ⟨[.int .i64 x70, .int .i64 x71, .int .i64 x72, .slice x73.a x73.n x73.c, .slice x74.a x74.n x74.c, .slice x75.a x75.n x75.c]⟩, .agg ⟨[.int .i64 x76, .int .i64 x77, .int .i64 x78, .slice x79.a x79.n x79.c, .slice x80.a x80.n x80.c, .slice x81.a x81.n x81.c]⟩] h84
 (fun v85 h87 => ∃ x86 : Bool, v85 = .bool x86 ∧
 (Sm [⟨h13.size, 0, none⟩, ⟨h.size, 0, none⟩] h84 h87 ∧
 (sB (x83 == x86)
 ((∃ (x88 x89 x90 : Int) (x91 x92 x93 : Sl), atC h87 ⟨h.size, 0, none⟩ [.int .i64 x88, .int .i64 x89, .int .i64 x90, .slice x91.a x91.n x91.c, .slice x92.a x92.n x92.c, .slice x93.a x93.n x93.c] ∧
 (∃ (x94 x95 x96 : Int) (x97 x98 x99 : Sl), atC h87 ⟨h.size, 0, none⟩ [.int .i64 x94, .int .i64 x95, .int .i64 x96, .slice x97.a x97.n x97.c, .slice x98.a x98.n x98.c, .slice x99.a x99.n x99.c] ∧
 (Fn Tryz.prog 16 #[.agg ⟨[.int .i64 x88, .int .i64 x89, .int .i64 x90, .slice x91.a x91.n x91.c, .slice x92.a x92.n x92.c, .slice x93.a x93.n x93.c]⟩, .agg ⟨[.int .i64 x94, .int .i64 x95, .int .i64 x96, .slice x97.a x97.n x97.c, .slice x98.a x98.n x98.c, .slice x99.a x99.n x99.c]⟩] h87
 (fun v100 h102 => ∃ x101 : Bool, v100 = .bool x101 ∧
 (Sm [⟨h13.size, 0, none⟩, ⟨h.size, 0, none⟩, ⟨h13.size, 0, none⟩, ⟨h.size, 0, none⟩] h87 h102 ∧
 R (.bool x101) h102))))))
 (R (.bool false) h87)))))))))))))
 (R (.bool false) h57)))
 (R (.bool false) h57)))
 (R (.bool false) h57))))))))))))))))))))))))))
/- farandole/farandoleref26.From
 loop rlrb: state_11:Int, i_12:Int -/
/- farandole/farandoleref25.Same
 loop rrrrlrb: i_70:Int
 loop rrrlrb: i_45:Int
 loop rrlrb: i_30:Int -/
end Go.VC
end

section
namespace Go.VC
open Go.Proofs
set_option maxRecDepth 100000
set_option linter.unusedVariables false

/- slices.Equal[[]bool,bool]
 loop rrlrb: x_4:Int -/
/- slices.Equal[[]farandole/api.Move,farandole/api.Move]
 loop rrlrb: x_4:Int -/
/- slices.Equal[[]farandole/api.Timeout,farandole/api.Timeout]
 loop rrlrb: x_4:Int -/
end Go.VC
end

section
namespace Go.VC
open Go.Proofs
set_option maxRecDepth 100000
set_option linter.unusedVariables false

/- farandole/farandoleref25.Next
 loop rlrb: i_17:Int -/
/- farandole/farandoleref18.names
 loop rlrb: i_13:Int -/
/- farandole/farandoleref18.numbers
 loop rlrb: i_13:Int -/
/- farandole/farandoleref18.apart
 loop rlrborlbrrrb: k_33:Int
 loop rlrborlbrrrb: k_92:Int
 loop rlrb: i_13:Int -/
/- farandole/farandoleref18.connected
 loop rrrlrborlbrb: i_23:Int
 loop rrrrrlrb: s_59:Int
 loop rrrlrb: n_17:Int -/
/- farandole/farandoleref18.timed
 loop rlrb: i_13:Int -/
/- farandole/farandoleref18.index
 loop rlrb: i_4:Int -/
/- farandole/farandoleref14.Valid
 loop rrrlrborlbrrlrborlbrrb: j_54:Int
 loop rrrlrborlbrrlrb: k_32:Int
 loop rrrlrborlbrlrb: k_22:Int
 loop rrrlrb: first_7:Int, i_8:Int -/
/- farandole/farandoleref18.ends
 loop rrrrlrborlbrb: i_31:Int
 loop rrrrlrb: n_25:Int
 loop rrlrb: s_15:Int -/
/- farandole/farandoleref18.Edges
 loop rrlrborlbrrlb: at_25:Int
 loop rrlrb: out_13:Sl, i_14:Int -/
/- farandole/farandoleref09.IsName
 loop rrlrb: i_7:Int -/
/- farandole/farandoleref09.in
 loop rlrb: i_4:Int -/
/- farandole/farandoleref14.Vars
 loop rrlrb: n_4:Int, i_5:Int -/
/- farandole/farandoleref14.goodSort
 join rr: least_7:Int, most_8:Int -/
/- farandole/farandoleref10.IsPath
 loop rrlrb: from_4:Int, i_5:Int -/
/- farandole/farandoleref14.goodGuard
 loop rrrlrb: i_31:Int
 loop rrlrb: i_10:Int -/
/- farandole/farandoleref14.Field
 loop rlrb: x_5:Int, i_6:Int -/
end Go.VC
end

section
/- Contracts: the reference's Next and Run; equality of machines on both sides; the walk of the law of runs. (Numbers of layer 26's seat.) -/
namespace Go.VC
open Go.Proofs Go.LexS
set_option maxRecDepth 100000
namespace M
end M
end Go.VC
end

section
namespace Go.VC
open Go.Proofs
set_option maxRecDepth 100000
set_option linter.unusedVariables false

/- slices.IndexFunc[[]farandole/api.Timeout,farandole/api.Timeout]
 loop rlrb: x_4:Int -/
end Go.VC
end

section
/- Contract: the reference's moves of a state, sorted. (Numbers of layer 26's seat.) -/
namespace Go.VC
open Go.Proofs Go.LexS
set_option maxRecDepth 100000
namespace M
end M
end Go.VC
end

section
/- Contracts: Moves, Sends and Timeout on both sides; the walk of the law of moves. (Numbers of layer 26's seat.) -/
namespace Go.VC
open Go.Proofs Go.LexS
set_option maxRecDepth 100000
def t0 : To := ⟨0, 0, 0⟩
end Go.VC
end

section
/- Plain: the search for a history that one machine makes and another one cannot; it is a shortest one. -/
namespace Go.VC
open Go.Proofs Go.LexS
set_option maxRecDepth 100000
/-- a pair of states with the history that leads to it -/
structure Vs where
  a : Int
  b : Int
  h : List Ev
def Vs.p (v : Vs) : Int × Int := (v.a, v.b)
def hvE (role : Int) (e : Ev) : Hv := ⟨role, e.send, e.peer, e.label, ⟨none, 0, 0⟩⟩
def incS (k : Mch) (v : Vs) (Q : List Vs) (x : Mv) : List Ev ⊕ List Vs :=
  if nxE k v.b x.ev < 0 then .inl (v.h ++ [x.ev]) else if (x.t, nxE k v.b x.ev) ∈ Q.map Vs.p then .inr Q else .inr (Q ++ [⟨x.t, nxE k v.b x.ev, v.h ++ [x.ev]⟩])
def incL (m k : Mch) (v : Vs) : List Vs → List Nat → List Ev ⊕ List Vs
  | Q, [] => .inr Q
  | Q, i :: o => match m.mv[i]? with
    | none => incL m k v Q o
    | some x => match incS k v Q x with
      | .inl h => .inl h
      | .inr Q' => incL m k v Q' o
inductive Inc (m k : Mch) (S : Int → List Nat) : List Vs → Nat → List Ev × Bool → Prop
  | done {Q : List Vs} {i : Nat} : Q.length ≤ i → Inc m k S Q i ([], true)
  | stop {Q : List Vs} {i : Nat} {v : Vs} {h : List Ev} : Q[i]? = some v → incL m k v Q (S v.a) = .inl h → Inc m k S Q i (h, false)
  | next {Q Q' : List Vs} {i : Nat} {v : Vs} {r : List Ev × Bool} : Q[i]? = some v → incL m k v Q (S v.a) = .inr Q' → Inc m k S Q' (i + 1) r → Inc m k S Q i r
theorem nodup_le : ∀ (n : Nat) (l : List Nat), l.Nodup → (∀ x ∈ l, x < n) → l.length ≤ n
  | 0, l, _, h => by
    cases l with
    | nil => exact Nat.le_refl _
    | cons a l => have := h a List.mem_cons_self; omega
  | n + 1, l, hn, h => by
    by_cases hm : n ∈ l
    · have h1 := nodup_le n (l.erase n) (hn.erase n) fun x hx => by
        have := (hn.mem_erase_iff).1 hx
        have h2 := h x this.2
        have h3 : x ≠ n := this.1
        omega
      rw [List.length_erase_of_mem hm] at h1; omega
    · have h1 := nodup_le n l hn fun x hx => by
        have h2 := h x hx
        have h3 : x ≠ n := fun e => hm (e ▸ hx)
        omega
      omega
/-- pairs of states, each once -/
structure QPr (m k : Mch) (Q : List Vs) : Prop where
  r : ∀ v ∈ Q, (0 ≤ v.a ∧ v.a < m.n) ∧ 0 ≤ v.b ∧ v.b < k.n
  d : (Q.map Vs.p).Nodup
theorem QPr.len {m k : Mch} {Q : List Vs} (h : QPr m k Q) (hm : m.n ≤ 200) (hk : k.n ≤ 200) : Q.length ≤ 40000 := by
  have h1 := nodup_le 40000 ((Q.map Vs.p).map fun p => p.1.toNat * 200 + p.2.toNat) ?_ ?_
  · rwa [List.length_map, List.length_map] at h1
  · rw [List.map_map]
    have hd := h.d
    rw [List.nodup_iff_pairwise_ne, List.pairwise_map] at hd ⊢
    refine List.Pairwise.imp_of_mem ?_ hd
    intro v w hv hw hne he
    apply hne
    have r1 := h.r v hv
    have r2 := h.r w hw
    have he : v.a.toNat * 200 + v.b.toNat = w.a.toNat * 200 + w.b.toNat := he
    have e1 : v.a = w.a := by omega
    have e2 : v.b = w.b := by omega
    unfold Vs.p
    rw [e1, e2]
  · intro x hx
    rw [List.map_map] at hx
    obtain ⟨v, hv, rfl⟩ := List.mem_map.1 hx
    have := h.r v hv
    show v.a.toNat * 200 + v.b.toNat < 40000
    omega
theorem QPr.push {m k : Mch} {Q : List Vs} (h : QPr m k Q) {w : Vs} (hr : (0 ≤ w.a ∧ w.a < m.n) ∧ 0 ≤ w.b ∧ w.b < k.n) (hn : w.p ∉ Q.map Vs.p) : QPr m k (Q ++ [w]) := by
  refine ⟨fun v hv => ?_, ?_⟩
  · rcases List.mem_append.1 hv with hv | hv
    · exact h.r v hv
    · rw [List.mem_singleton.1 hv]; exact hr
  · rw [List.map_append, List.nodup_append]
    refine ⟨h.d, by simp, fun a ha b hb e => ?_⟩
    rw [List.map_singleton, List.mem_singleton] at hb
    subst hb; subst e
    exact hn ha
theorem QPr.start {m k : Mch} (hm : VM m) (hk : VM k) : QPr m k [⟨m.s, k.s, []⟩] :=
  ⟨fun v hv => by rw [List.mem_singleton.1 hv]; exact ⟨hm.n.s, hk.n.s⟩, by simp⟩
theorem incL_inl {m k : Mch} {v : Vs} {h : List Ev} : ∀ {S : List Nat} {Q : List Vs}, incL m k v Q S = .inl h → ∃ i ∈ S, ∃ x, m.mv[i]? = some x ∧ nxE k v.b x.ev < 0 ∧ h = v.h ++ [x.ev]
  | [], Q, he => by unfold incL at he; cases he
  | i :: o, Q, he => by
    unfold incL at he
    cases hx : m.mv[i]? with
    | none =>
      rw [hx] at he
      obtain ⟨j, hj, r⟩ := incL_inl he
      exact ⟨j, List.mem_cons_of_mem _ hj, r⟩
    | some x =>
      rw [hx] at he
      unfold incS at he
      by_cases c : nxE k v.b x.ev < 0
      · simp only [if_pos c] at he
        cases he
        exact ⟨i, List.mem_cons_self, x, hx, c, rfl⟩
      · simp only [if_neg c] at he
        by_cases c2 : (x.t, nxE k v.b x.ev) ∈ Q.map Vs.p
        · simp only [if_pos c2] at he
          obtain ⟨j, hj, r⟩ := incL_inl he
          exact ⟨j, List.mem_cons_of_mem _ hj, r⟩
        · simp only [if_neg c2] at he
          obtain ⟨j, hj, r⟩ := incL_inl he
          exact ⟨j, List.mem_cons_of_mem _ hj, r⟩
/-- what a visit adds -/
structure IncA (m k : Mch) (v : Vs) (S : List Nat) (Q Q' : List Vs) : Prop where
  g : ∃ A, Q' = Q ++ A ∧ ∀ w ∈ A, ∃ i ∈ S, ∃ x, m.mv[i]? = some x ∧ 0 ≤ nxE k v.b x.ev ∧ w = ⟨x.t, nxE k v.b x.ev, v.h ++ [x.ev]⟩
  c : ∀ i ∈ S, ∀ x, m.mv[i]? = some x → 0 ≤ nxE k v.b x.ev ∧ (x.t, nxE k v.b x.ev) ∈ Q'.map Vs.p
theorem incL_inr {m k : Mch} {v : Vs} {Q' : List Vs} : ∀ {S : List Nat} {Q : List Vs}, incL m k v Q S = .inr Q' → IncA m k v S Q Q'
  | [], Q, he => by
    unfold incL at he; cases he
    exact ⟨⟨[], by simp, fun w hw => by cases hw⟩, fun i hi => by cases hi⟩
  | i :: o, Q, he => by
    unfold incL at he
    cases hx : m.mv[i]? with
    | none =>
      rw [hx] at he
      obtain ⟨⟨A, e1, e2⟩, e3⟩ := incL_inr he
      refine ⟨⟨A, e1, fun w hw => ?_⟩, fun j hj x hjx => ?_⟩
      · obtain ⟨j, hj, r⟩ := e2 w hw
        exact ⟨j, List.mem_cons_of_mem _ hj, r⟩
      · rcases List.mem_cons.1 hj with rfl | hj
        · rw [hx] at hjx; cases hjx
        · exact e3 j hj x hjx
    | some x =>
      rw [hx] at he
      unfold incS at he
      by_cases c : nxE k v.b x.ev < 0
      · simp only [if_pos c] at he; cases he
      · simp only [if_neg c] at he
        have step : ∀ {Q1 : List Vs} (B : List Vs), Q1 = Q ++ B → (∀ w ∈ B, w = ⟨x.t, nxE k v.b x.ev, v.h ++ [x.ev]⟩) → (x.t, nxE k v.b x.ev) ∈ Q1.map Vs.p → incL m k v Q1 o = .inr Q' → IncA m k v (i :: o) Q Q' := by
          intro Q1 B hB hw hm he
          obtain ⟨⟨A, e1, e2⟩, e3⟩ := incL_inr he
          refine ⟨⟨B ++ A, by rw [e1, hB, List.append_assoc], fun w hwm => ?_⟩, fun j hj y hjy => ?_⟩
          · rcases List.mem_append.1 hwm with hwm | hwm
            · exact ⟨i, List.mem_cons_self, x, hx, by omega, hw w hwm⟩
            · obtain ⟨j, hj, r⟩ := e2 w hwm
              exact ⟨j, List.mem_cons_of_mem _ hj, r⟩
          · rcases List.mem_cons.1 hj with rfl | hj
            · rw [hx] at hjy; cases hjy
              refine ⟨by omega, ?_⟩
              rw [e1, List.map_append]
              exact List.mem_append_left _ hm
            · exact e3 j hj y hjy
        by_cases c2 : (x.t, nxE k v.b x.ev) ∈ Q.map Vs.p
        · simp only [if_pos c2] at he
          exact step [] (by simp) (fun w hw => by cases hw) c2 he
        · simp only [if_neg c2] at he
          exact step [_] rfl (fun w hw => List.mem_singleton.1 hw) (by rw [List.map_append]; exact List.mem_append_right _ (List.mem_singleton.2 rfl)) he
/-- what holds of the queue, ahead of the visit of i -/
structure BQ (m k : Mch) (Q : List Vs) (i : Nat) : Prop where
  mono : ∀ (p q : Nat) v w, p ≤ q → Q[p]? = some v → Q[q]? = some w → v.h.length ≤ w.h.length
  front : ∀ v, Q[i]? = some v → ∀ w ∈ Q, w.h.length ≤ v.h.length + 1
  cl : ∀ (p : Nat) v, p < i → Q[p]? = some v → ∀ x ∈ m.mv, x.f = v.a → 0 ≤ nxE k v.b x.ev ∧ ∃ w ∈ Q, w.a = x.t ∧ w.b = nxE k v.b x.ev ∧ w.h.length ≤ v.h.length + 1
  st : ∃ w ∈ Q, w.a = m.s ∧ w.b = k.s ∧ w.h.length = 0
  so : ∀ v ∈ Q, runN m m.s 0 (v.h.map (hvE m.role)) = (v.a, v.h.length, 0) ∧ runN k k.s 0 (v.h.map (hvE m.role)) = (v.b, v.h.length, 0)
theorem BQ.start (m k : Mch) : BQ m k [⟨m.s, k.s, []⟩] 0 := by
  refine ⟨fun p q v w hpq hp hq => ?_, fun v hv w hw => ?_, fun p v hp => by omega, ⟨_, List.mem_singleton.2 rfl, rfl, rfl, rfl⟩, fun v hv => ?_⟩
  · have := List.mem_singleton.1 (List.mem_of_getElem? hp)
    rw [this]; exact Nat.zero_le _
  · rw [List.mem_singleton.1 hw]; exact Nat.zero_le _
  · rw [List.mem_singleton.1 hv]; exact ⟨rfl, rfl⟩
theorem runN_ev {m : Mch} {r : Int} (hr : r = m.role) {s t : Int} {h : List Ev} {n : Nat} (e : Ev) (hrun : runN m s 0 (h.map (hvE r)) = (t, n, 0)) :
    runN m s 0 ((h ++ [e]).map (hvE r)) = if 0 ≤ nxE m t e then (nxE m t e, n + 1, 0) else (t, n, 23) := by
  rw [List.map_append]
  have hx : nxH m t (hvE r e) = nxE m t e := by unfold nxH; rw [if_pos (show (hvE r e).role = m.role from hr)]; rfl
  have := runN_snoc (hvE r e) hrun
  rw [hx] at this
  exact this
/-- the moves of each state -/
def MvsOk (m : Mch) (S : Int → List Nat) : Prop := ∀ s i, i ∈ S s ↔ ∃ x, m.mv[i]? = some x ∧ x.f = s
theorem BQ.next {m k : Mch} {Q Q' : List Vs} {i : Nat} {v : Vs} {S : Int → List Nat} (hB : BQ m k Q i) (hm : VM m) (hr : m.role = k.role) (hS : MvsOk m S) (hv : Q[i]? = some v) (hA : IncA m k v (S v.a) Q Q') : BQ m k Q' (i + 1) := by
  obtain ⟨⟨A, rfl, hA⟩, hC⟩ := hA
  have hil := (List.getElem?_eq_some_iff.1 hv).1
  have hAl : ∀ w ∈ A, w.h.length = v.h.length + 1 := fun w hw => by
    obtain ⟨_, _, x, _, _, rfl⟩ := hA w hw
    show (v.h ++ [x.ev]).length = _
    rw [List.length_append]; rfl
  have hall : ∀ w ∈ Q ++ A, w.h.length ≤ v.h.length + 1 := fun w hw => by
    rcases List.mem_append.1 hw with hw | hw
    · exact hB.front v hv w hw
    · have := hAl w hw; omega
  have hmono : ∀ (p q : Nat) v w, p ≤ q → (Q ++ A)[p]? = some v → (Q ++ A)[q]? = some w → v.h.length ≤ w.h.length := fun p q a b hpq hp hq => by
    by_cases hql : q < Q.length
    · rw [List.getElem?_append_left hql] at hq
      rw [List.getElem?_append_left (by omega)] at hp
      exact hB.mono p q a b hpq hp hq
    · rw [List.getElem?_append_right (by omega)] at hq
      have := hAl b (List.mem_of_getElem? hq)
      have h2 := hall a (List.mem_of_getElem? hp)
      omega
  refine ⟨hmono, fun w hw u hu => ?_, fun p w hp hw x hx hxf => ?_, ?_, fun w hw => ?_⟩
  · have h1 := hall u hu
    have hv2 : (Q ++ A)[i]? = some v := by rw [List.getElem?_append_left hil]; exact hv
    have h2 := hmono i (i + 1) v w (by omega) hv2 hw
    omega
  · by_cases e : p = i
    · subst e
      rw [List.getElem?_append_left hil, hv] at hw; cases hw
      obtain ⟨j, hj⟩ := List.mem_iff_getElem?.1 hx
      obtain ⟨h1, h2⟩ := hC j ((hS v.a j).2 ⟨x, hj, hxf⟩) x hj
      refine ⟨h1, ?_⟩
      obtain ⟨u, hu, hup⟩ := List.mem_map.1 h2
      have e1 : u.a = x.t := congrArg Prod.fst hup
      have e2 : u.b = nxE k v.b x.ev := congrArg Prod.snd hup
      exact ⟨u, hu, e1, e2, hall u hu⟩
    · rw [List.getElem?_append_left (by omega)] at hw
      obtain ⟨h1, u, hu, h2⟩ := hB.cl p w (by omega) hw x hx hxf
      exact ⟨h1, u, List.mem_append_left _ hu, h2⟩
  · obtain ⟨u, hu, h2⟩ := hB.st
    exact ⟨u, List.mem_append_left _ hu, h2⟩
  · rcases List.mem_append.1 hw with hw | hw
    · exact hB.so w hw
    · obtain ⟨j, hj, x, hx, h0, rfl⟩ := hA w hw
      obtain ⟨x', hx', hxf⟩ := (hS v.a j).1 hj
      rw [hx] at hx'; cases hx'
      obtain ⟨s1, s2⟩ := hB.so v (List.mem_of_getElem? hv)
      have hl : (v.h ++ [x.ev]).length = v.h.length + 1 := List.length_append
      have hxr := hm.n.mv x (List.mem_of_getElem? hx)
      have e1 : nxE m v.a x.ev = x.t := nxE_some hm.d hx hxf rfl
      refine ⟨?_, ?_⟩
      · rw [runN_ev rfl x.ev s1, e1, if_pos hxr.2.2.1, hl]
      · rw [runN_ev hr x.ev s2, if_pos h0, hl]
theorem runN_ge {m : Mch} : ∀ {l : List Hv} {a t : Int} {c n : Nat} {e : Int}, runN m a c l = (t, n, e) → c ≤ n
  | [], a, t, c, n, e, h => by rw [runN] at h; cases h; exact Nat.le_refl _
  | x :: l, a, t, c, n, e, h => by
    rw [runN] at h
    split at h
    · have := runN_ge h; omega
    · cases h; exact Nat.le_refl _
theorem runN_err {m : Mch} : ∀ {l : List Hv} {a : Int} {c : Nat}, (runN m a c l).2.2 = 0 ∨ (runN m a c l).2.2 = 23
  | [], a, c => .inl rfl
  | x :: l, a, c => by
    rw [runN]
    split
    · exact runN_err
    · exact .inr rfl
theorem leastN {m k : Mch} (hr : m.role = k.role) {Q : List Vs} {i L : Nat} (hB : BQ m k Q i) (hL : ∀ (p : Nat) w, Q[p]? = some w → i ≤ p → L ≤ w.h.length) :
    ∀ (l : List Hv) (a b : Int) (j c n : Nat) (t u : Int) (q : Nat), (∃ w ∈ Q, w.a = a ∧ w.b = b ∧ w.h.length ≤ j) → runN m a c l = (t, q, 0) → runN k b c l = (u, n, 23) → L + c ≤ j + n
  | [], a, b, j, c, n, t, u, q, _, _, h2 => by rw [runN] at h2; cases h2
  | x :: l, a, b, j, c, n, t, u, q, ⟨w, hw, ha, hb, hj⟩, h1, h2 => by
    subst ha; subst hb
    have hcn := runN_ge h2
    obtain ⟨p, hp⟩ := List.mem_iff_getElem?.1 hw
    by_cases hpi : i ≤ p
    · have := hL p w hp hpi; omega
    · rw [runN] at h1 h2
      split at h1
      · rename_i g1
        have hrole : x.role = m.role := by
          unfold nxH at g1
          split at g1
          · assumption
          · exact absurd g1 (by decide)
        have hx1 : nxH m w.a x = nxE m w.a x.ev := by unfold nxH; rw [if_pos hrole]
        have hx2 : nxH k w.b x = nxE k w.b x.ev := by unfold nxH; rw [if_pos (hrole.trans hr)]
        rw [hx1] at g1 h1
        obtain ⟨y, hy, hyf, hye, hyt⟩ : ∃ y ∈ m.mv, y.f = w.a ∧ y.ev = x.ev ∧ nxE m w.a x.ev = y.t := by
          unfold nxE at g1 ⊢
          cases hq : m.mv.find? fun y => decide (y.f = w.a ∧ y.ev = x.ev) with
          | none => rw [hq] at g1; exact absurd g1 (by show ¬ ((0 : Int) ≤ -1); decide)
          | some y =>
            have hd0 := List.find?_some hq
            have hd : y.f = w.a ∧ y.ev = x.ev := of_decide_eq_true hd0
            exact ⟨y, List.mem_of_find?_eq_some hq, hd.1, hd.2, rfl⟩
        obtain ⟨g2, w', hw', e1, e2, e3⟩ := hB.cl p w (by omega) hp y hy hyf
        rw [hye] at g2 e2
        rw [hx2, if_pos g2] at h2
        have := leastN hr hB hL l _ _ (j + 1) (c + 1) n t u q ⟨w', hw', by rw [e1, hyt], e2, by omega⟩ h1 h2
        omega
      · cases h1
/-- what the search finds -/
structure IncR (m k : Mch) (H : List Ev) (ok : Bool) : Prop where
  y : ok = true → H = [] ∧ ∀ (l : List Hv), (runN m m.s 0 l).2.2 = 0 → (runN k k.s 0 l).2.2 = 0
  n : ok = false → (runN m m.s 0 (H.map (hvE m.role))).2.2 = 0 ∧ (runN k k.s 0 (H.map (hvE m.role))).2.2 = 23 ∧ (runN k k.s 0 (H.map (hvE m.role))).2.1 + 1 = H.length ∧
    ∀ (l : List Hv), (runN m m.s 0 l).2.2 = 0 → (runN k k.s 0 l).2.2 ≠ 0 → H.length ≤ (runN k k.s 0 l).2.1 + 1
theorem inc_law {m k : Mch} (hm : VM m) (hr : m.role = k.role) {S : Int → List Nat} (hS : MvsOk m S) {Q : List Vs} {i : Nat} {r : List Ev × Bool} (hI : Inc m k S Q i r) (hB : BQ m k Q i) : IncR m k r.1 r.2 := by
  induction hI with
  | @done Q i hl =>
    refine ⟨fun _ => ⟨rfl, fun l h1 => ?_⟩, fun h => by cases h⟩
    rcases runN_err (m := k) (l := l) (a := k.s) (c := 0) with h2 | h2
    · exact h2
    · exfalso
      obtain ⟨w, hw, e1, e2, e3⟩ := hB.st
      have := leastN hr hB (L := (runN k k.s 0 l).2.1 + 1) (fun p w hp hi => by have := (List.getElem?_eq_some_iff.1 hp).1; omega) l m.s k.s 0 0 (runN k k.s 0 l).2.1 (runN m m.s 0 l).1 (runN k k.s 0 l).1 (runN m m.s 0 l).2.1 ⟨w, hw, e1, e2, by omega⟩ (by rw [← h1]) (by rw [← h2])
      omega
  | @stop Q i v h hv hi =>
    refine ⟨(fun h => by cases h), fun _ => ?_⟩
    obtain ⟨j, hj, x, hx, hneg, rfl⟩ := incL_inl hi
    obtain ⟨x', hx', hxf⟩ := (hS v.a j).1 hj
    rw [hx] at hx'; cases hx'
    obtain ⟨s1, s2⟩ := hB.so v (List.mem_of_getElem? hv)
    have hxr := hm.n.mv x (List.mem_of_getElem? hx)
    have e1 : nxE m v.a x.ev = x.t := nxE_some hm.d hx hxf rfl
    have r1 := runN_ev rfl x.ev s1
    rw [e1, if_pos hxr.2.2.1] at r1
    have r2 := runN_ev hr x.ev s2
    rw [if_neg (by omega)] at r2
    have hl : (v.h ++ [x.ev]).length = v.h.length + 1 := List.length_append
    refine ⟨by rw [r1], by rw [r2], by rw [r2, hl], fun l h1 h2 => ?_⟩
    have h3 : (runN k k.s 0 l).2.2 = 23 := by
      rcases runN_err (m := k) (l := l) (a := k.s) (c := 0) with h3 | h3
      · exact absurd h3 h2
      · exact h3
    obtain ⟨w, hw, e1, e2, e3⟩ := hB.st
    have := leastN hr hB (L := v.h.length) (fun p w hp hip => hB.mono i p v w hip hv hp) l m.s k.s 0 0 (runN k k.s 0 l).2.1 (runN m m.s 0 l).1 (runN k k.s 0 l).1 (runN m m.s 0 l).2.1 ⟨w, hw, e1, e2, by omega⟩ (by rw [← h1]) (by rw [← h3])
    rw [hl]; omega
  | next hv hi _ ih => exact ih (hB.next hm hr hS hv (incL_inr hi))
end Go.VC
end

section
/- Contract: the search of inclusion. (Numbers of layer 26's seat.) -/
namespace Go.VC
open Go.Proofs Go.LexS Go.Maps
set_option maxRecDepth 100000
theorem app100 : appB Tryz.prog 100 79 3 24 = true := by kernel_rfl
theorem app98 : appB Tryz.prog 98 97 6 48 = true := by kernel_rfl
theorem app27 : appB Tryz.prog 27 37 5 56 = true := by kernel_rfl
def pk (p : Int × Int) : Value := .agg ⟨[.int .i64 p.1, .int .i64 p.2]⟩
def bv (b : Bool) : Value := .bool b
def kokP (p : Int × Int) : Prop := inR p.1 ∧ inR p.2
theorem u94 : Tryz.prog.underlying 94 = some (.array 2 3) := by kernel_rfl
theorem c94 : Tryz.prog.cellsOf 94 = 2 := by kernel_rfl
theorem kl_array {P : Program} {d t n : Nat} {e : TypeId} {cs : List Value} (hu : P.underlying t = some (.array n e)) (hl : cs.length = P.cellsOf t) {r : List (List Lit)}
    (hr : (List.range n).mapM (fun i => P.keyLits d e ((cs.drop (i * P.cellsOf e)).take (P.cellsOf e))) = some r) : P.keyLits (d + 1) t cs = some r.flatten := by
  unfold Program.keyLits
  simp only [hu]
  rw [if_pos hl, hr]; rfl
theorem key_pk (p : Int × Int) (h : kokP p) : ∃ l, keyOf Tryz.prog 94 (pk p) = some l := by
  obtain ⟨h1, h2⟩ := h
  have hsz : ∃ n, Tryz.prog.types.size + 1 = n + 2 := ⟨Tryz.prog.types.size - 1, by
    have : 1 ≤ Tryz.prog.types.size := of_decide_eq_true (by kernel_rfl)
    omega⟩
  obtain ⟨n, hsz⟩ := hsz
  have hl : Tryz.prog.keyLits (n + 2) 94 [.int .i64 p.1, .int .i64 p.2] = some [.int .i64 p.1, .int .i64 p.2] := by
    refine kl_array u94 (by rw [c94]; rfl) (r := [[.int .i64 p.1], [.int .i64 p.2]]) ?_
    simp only [List.range_succ, List.range_zero, List.nil_append, List.cons_append, List.mapM_cons, List.mapM_nil, c3, Nat.zero_mul, Nat.one_mul, Nat.mul_one, List.drop_zero, List.take_succ_cons, List.take_zero, List.drop_succ_cons, kl_int u3 h1.wf, kl_int u3 h2.wf]
    rfl
  have hkt : Tryz.prog.keyType 94 = true := by kernel_rfl
  have hfo : (pk p).formed Tryz.prog 94 = true := by
    unfold pk Value.formed
    simp only [u94, c94]; rfl
  have e : keyOf Tryz.prog 94 (pk p) = (Tryz.prog.keyLits (n + 2) 94 [.int .i64 p.1, .int .i64 p.2]).map fun ls => .string (keyBytes ls) := by
    unfold keyOf
    simp only [u94, hkt, hfo, Bool.and_self, if_true, hsz]
    rfl
  rw [e, hl]
  exact ⟨_, rfl⟩
theorem pk_inj (a b : Int × Int) (h : pk a = pk b) : a = b := by
  unfold pk at h
  have h2 : a.1 = b.1 ∧ a.2 = b.2 := by simpa using h
  exact Prod.ext h2.1 h2.2
theorem M95 : MT Tryz.prog 95 94 4 pk kokP (.bool false) where
  K := Keyed.of_law (deep_law_laid laid25 (m := 2) (by omega) (of_decide_eq_true (by kernel_rfl)) (by kernel_rfl) (by kernel_rfl))
  ht := by kernel_rfl
  key := key_pk
  inj := pk_inj
  z := fun w => by kernel_rfl
/-! ### slices.Reverse -/
theorem reverse64 {h0 h : Heap} {L : List It} {s : Sl} {l : List Ev} (hs : St h0 h (.sl s 79 3 (l.map Ev.cs) :: L)) (hm : l.length ≤ 1048576) :
    Fn Tryz.prog 64 #[.slice s.a s.n s.c] h fun v h' => v = .tuple ⟨[]⟩ ∧ St h0 h' (.sl s 79 3 (l.reverse.map Ev.cs) :: L) := by
  apply vc64 s; unfold W64
  have hn := (hs.rows 0 (cs := Ev.cs) rfl (by omega)).ln
  rw [w64 (by omega) (by omega)]
  refine ⟨fun x y h' μ => ∃ (i : Nat) (T : List Ev), x = i ∧ y = (s.n : Int) - 1 - i ∧ i ≤ s.n ∧ μ = s.n - i ∧ St h0 h' (.sl s 79 3 (T.map Ev.cs) :: L) ∧ T.length = s.n ∧ ∀ t, t < s.n → T[t]? = if t < i ∨ s.n ≤ t + i then l[s.n - 1 - t]? else l[t]?, ⟨_, 0, l, rfl, by omega, by omega, rfl, hs, hn.symm, fun t ht => by rw [if_neg (by omega)]⟩, ?_⟩
  clear hs
  rintro - _ _ h6 μ ⟨i, T, rfl, rfl, hi, rfl, hs, hT, hq⟩
  refine sBi (fun c => ?_) (fun c => ⟨rfl, ?_⟩)
  · have hsn : (s.n : Int) - 1 - i = ((s.n - 1 - i : Nat) : Int) := by omega
    rw [hsn]
    obtain ⟨y, hy⟩ := get_some (l := T) (i := s.n - 1 - i) (by omega)
    obtain ⟨x, hx⟩ := get_some (l := T) (i := i) (by omega)
    refine (hs.rows 0 (cs := Ev.cs) rfl (by omega)).nbI (by omega) (by omega) fun b7 o8 y' gy t => ?_
    replace gy : T[s.n - 1 - i]? = some y' := gy
    rw [hy] at gy; cases gy
    refine ⟨_, _, _, t, ?_⟩
    refine (hs.rows 0 (cs := Ev.cs) rfl (by omega)).nbI (by omega) (by omega) fun b12 o13 x' gx t2 => ?_
    replace gx : T[i]? = some x' := gx
    rw [hx] at gx; cases gx
    refine ⟨_, _, _, t2, ?_⟩
    refine hs.set 0 (cs := Ev.cs) (l := T) rfl (by omega) (by omega) (by omega) y rfl rfl (fun b o h19 hs => ?_) rfl
    replace hs : St h0 h19 (.sl s 79 3 ((T.set i y).map Ev.cs) :: L) := hs
    refine hs.set 0 (cs := Ev.cs) (l := T.set i y) rfl (by omega) (by omega) (by omega) x rfl rfl (fun b o h22 hs => ?_) rfl
    replace hs : St h0 h22 (.sl s 79 3 (((T.set i y).set (s.n - 1 - i) x).map Ev.cs) :: L) := hs
    refine ⟨s.n - (i + 1), by omega, i + 1, (T.set i y).set (s.n - 1 - i) x, by rw [w64 (by omega) (by omega)]; omega, by rw [w64 (by omega) (by omega)]; omega, by omega, rfl, hs, by rw [List.length_set, List.length_set]; exact hT, fun t ht => ?_⟩
    have q1 := hq i (by omega)
    rw [if_neg (by omega), hx] at q1
    have q2 := hq (s.n - 1 - i) (by omega)
    rw [if_neg (by omega), hy] at q2
    by_cases e1 : t = s.n - 1 - i
    · subst e1
      rw [List.getElem?_set_self (by rw [List.length_set]; omega), if_pos (by omega), show s.n - 1 - (s.n - 1 - i) = i by omega]
      exact q1
    · rw [List.getElem?_set_ne (fun e => e1 e.symm)]
      by_cases e2 : t = i
      · subst e2
        rw [List.getElem?_set_self (by omega), if_pos (by omega)]
        exact q2
      · rw [List.getElem?_set_ne (fun e => e2 e.symm), hq t ht]
        by_cases c3 : t < i ∨ s.n ≤ t + i
        · rw [if_pos c3, if_pos (by omega)]
        · rw [if_neg c3, if_neg (by omega)]
  · have : T = l.reverse := by
      refine List.ext_getElem? fun t => ?_
      by_cases ht : t < s.n
      · rw [hq t ht, List.getElem?_reverse (by omega), ← hn]
        by_cases c3 : t < i ∨ s.n ≤ t + i
        · rw [if_pos c3]
        · rw [if_neg c3, show s.n - 1 - t = t by omega]
      · rw [List.getElem?_eq_none (by omega), List.getElem?_eq_none (by rw [List.length_reverse]; omega)]
    rw [← this]; exact hs
/-! ### the moves of a state, in the one order -/
theorem srt_uniq {m : Mch} (hD : DetM m) {s : Int} {O Q : List Nat} (p1 : O.Perm (outIx m s)) (s1 : O.Pairwise fun a b => ¬ evLt (evI m b) (evI m a)) (p2 : Q.Perm (outIx m s)) (s2 : Q.Pairwise fun a b => ¬ evLt (evI m b) (evI m a)) : O = Q := by
  refine List.Perm.eq_of_pairwise (le := fun a b => ¬ evLt (evI m b) (evI m a)) (fun a b ha hb h3 h4 => ?_) s1 s2 (p1.trans p2.symm)
  obtain ⟨x, hx, hxf⟩ := outIx_mem.1 (p1.mem_iff.1 ha)
  obtain ⟨y, hy, hyf⟩ := outIx_mem.1 (p2.mem_iff.1 hb)
  by_cases e : a = b
  · exact e
  · have := (hD a b x y hx hy e (by rw [hxf, hyf])).1
    rw [evI_of hx, evI_of hy] at h3 h4
    exact absurd (evLt_of h3 this) h4
open Classical in
noncomputable def mvS (m : Mch) (s : Int) : List Nat := if h : ∃ O : List Nat, O.Perm (outIx m s) ∧ O.Pairwise fun a b => ¬ evLt (evI m b) (evI m a) then Classical.choose h else outIx m s
theorem mvS_eq {m : Mch} (hD : DetM m) {s : Int} {O : List Nat} (p1 : O.Perm (outIx m s)) (s1 : O.Pairwise fun a b => ¬ evLt (evI m b) (evI m a)) : mvS m s = O := by
  unfold mvS
  have h : ∃ O : List Nat, O.Perm (outIx m s) ∧ O.Pairwise fun a b => ¬ evLt (evI m b) (evI m a) := ⟨O, p1, s1⟩
  rw [dif_pos h]
  have := Classical.choose_spec h
  exact srt_uniq hD this.1 this.2 p1 s1
theorem mvS_ok (m : Mch) : MvsOk m (mvS m) := fun s i => by
  rw [← outIx_mem]
  unfold mvS
  by_cases h : ∃ O : List Nat, O.Perm (outIx m s) ∧ O.Pairwise fun a b => ¬ evLt (evI m b) (evI m a)
  · rw [dif_pos h]
    exact (Classical.choose_spec h).1.mem_iff
  · rw [dif_neg h]
/-! ### the queue -/
structure Vt where
  a : Int
  b : Int
  ahead : Int
  x : Ev
def Vt.cs (v : Vt) : List Value := [.int .i64 v.a, .int .i64 v.b, .int .i64 v.ahead, .bool v.x.send, .int .i64 v.x.peer, .int .i64 v.x.label]
theorem vtrows (L : List Vt) : ∀ r ∈ L.map Vt.cs, r.length = 6 := fun r hr => by obtain ⟨x, _, rfl⟩ := List.mem_map.1 hr; rfl
structure HV (V : List Vt) (Q : List Vs) : Prop where
  l : V.length = Q.length
  e : ∀ (j : Nat) v w, V[j]? = some v → Q[j]? = some w → v.a = w.a ∧ v.b = w.b ∧ w.h.length ≤ j ∧ ((v.ahead = -1 ∧ w.h = []) ∨ ∃ p : Nat, p < j ∧ v.ahead = (p : Int) ∧ ∃ u, Q[p]? = some u ∧ w.h = u.h ++ [v.x])
theorem HV.push {V : List Vt} {Q : List Vs} (h : HV V Q) {i : Nat} {v : Vs} (hv : Q[i]? = some v) (a b : Int) (x : Ev) : HV (V ++ [⟨a, b, i, x⟩]) (Q ++ [⟨a, b, v.h ++ [x]⟩]) := by
  have hil := (List.getElem?_eq_some_iff.1 hv).1
  obtain ⟨v0, hv0⟩ := get_some (l := V) (i := i) (by rw [h.l]; exact hil)
  have hvl := (h.e i v0 v hv0 hv).2.2.1
  refine ⟨by rw [List.length_append, List.length_append, h.l]; rfl, fun j u w hu hw => ?_⟩
  by_cases hj : j < Q.length
  · rw [List.getElem?_append_left (by rw [h.l]; exact hj)] at hu
    rw [List.getElem?_append_left hj] at hw
    obtain ⟨e1, e2, e3, e4⟩ := h.e j u w hu hw
    refine ⟨e1, e2, e3, ?_⟩
    rcases e4 with e4 | ⟨p, hp, e5, t, ht, e6⟩
    · exact .inl e4
    · exact .inr ⟨p, hp, e5, t, by rw [List.getElem?_append_left (by omega)]; exact ht, e6⟩
  · have hjl := (List.getElem?_eq_some_iff.1 hw).1
    rw [List.length_append, List.length_singleton] at hjl
    have hje : j = Q.length := by omega
    subst hje
    rw [List.getElem?_append_right (by omega), Nat.sub_self] at hw
    rw [List.getElem?_append_right (by rw [h.l]; exact Nat.le_refl _), h.l, Nat.sub_self] at hu
    cases hw; cases hu
    refine ⟨rfl, rfl, ?_, .inr ⟨i, hil, rfl, v, by rw [List.getElem?_append_left hil]; exact hv, rfl⟩⟩
    show (v.h ++ [x]).length ≤ _
    rw [List.length_append, List.length_singleton]; omega
def NQ (Q : List Vs) : List ((Int × Int) × Bool) := Q.map fun v => (v.p, true)
theorem NQ_fst (Q : List Vs) : (NQ Q).map Prod.fst = Q.map Vs.p := by unfold NQ; rw [List.map_map]; rfl
theorem NQ_mem {Q : List Vs} (hn : (Q.map Vs.p).Nodup) {p : Int × Int} (h : p ∈ Q.map Vs.p) : mget (NQ Q) p = some true := by
  obtain ⟨v, hv, rfl⟩ := List.mem_map.1 h
  obtain ⟨j, hj⟩ := List.mem_iff_getElem?.1 hv
  exact mget_some (by rw [NQ_fst]; exact hn) (show (NQ Q)[j]? = some (v.p, true) by unfold NQ; rw [List.getElem?_map, hj]; rfl)
theorem NQ_not {Q : List Vs} {p : Int × Int} (h : p ∉ Q.map Vs.p) : ∀ q ∈ NQ Q, q.1 ≠ p := fun q hq e => by
  obtain ⟨v, hv, rfl⟩ := List.mem_map.1 hq
  exact h (List.mem_map.2 ⟨v, hv, e⟩)
theorem NQ_kok {m k : Mch} {Q : List Vs} (h : QPr m k Q) (hm : m.n ≤ 200) (hk : k.n ≤ 200) : ∀ q ∈ NQ Q, kokP q.1 := fun q hq => by
  obtain ⟨v, hv, rfl⟩ := List.mem_map.1 hq
  have := h.r v hv
  exact ⟨⟨by show _ ≤ v.a; omega, by show v.a ≤ _; omega⟩, by show _ ≤ v.b; omega, by show v.b ≤ _; omega⟩
def mpN (mb : Nat) (Q : List Vs) : It := .mp mb ((NQ Q).map fun q => (pk q.1, bv q.2))
/-- what Included gives -/
structure IncO (m k : Mch) (H : List Ev) (ok : Bool) (e : Int) : Prop where
  a : ¬ (VM m ∧ VM k) → H = [] ∧ ok = false ∧ e = 1
  r : VM m ∧ VM k → m.role ≠ k.role → H = [] ∧ ok = false ∧ e = 12
  g : VM m ∧ VM k → m.role = k.role → e = 0 ∧ Inc m k (mvS m) [⟨m.s, k.s, []⟩] 0 (H, ok)
def IncV (m k : Mch) (h : Heap) (v : Value) (h' : Heap) : Prop := Ext h h' ∧ ∃ (r : Sl) (H : List Ev) (ok : Bool) (e : Int), v = .tuple ⟨[.slice r.a r.n r.c, .bool ok, .int .i64 e]⟩ ∧ Rw h' 5 r ((H.map (hvE m.role)).map Hv.cs) ∧ H.length ≤ 1048576 ∧ IncO m k H ok e
set_option maxHeartbeats 6400000 in
theorem included30 (m k : Mch) (sf sm sl tf tm tl : Sl) (h : Heap) (hM : MI h m sf sm sl) (hK : MI h k tf tm tl) :
    Fn Tryz.prog 30 #[.agg ⟨mC m sf sm sl⟩, .agg ⟨mC k tf tm tl⟩] h (IncV m k h) := by
  apply vc30 m.role m.n m.s sf sm sl k.role k.n k.s tf tm tl; unfold W30
  have hmn := hM.pm.ln
  have hmm := hM.pm.sm
  have hkn := hK.pm.ln
  have hkm := hK.pm.sm
  have empty : ∀ {h' : Heap} {e : Int} {ok : Bool}, Ext h h' → IncO m k [] ok e → IncV m k h (.tuple ⟨[.slice none 0 0, .bool ok, .int .i64 e]⟩) h' := fun E hI => ⟨E, ⟨none, 0, 0⟩, [], _, _, rfl, Rw.nil, Nat.zero_le _, hI⟩
  refine (St.refl h).newb fun h13 hs => ?_
  refine hs.newb fun h14 hs => ?_
  refine ⟨_, _, _, sf, sm, sl, hs.at 1 rfl (o := 0) (n := 6) rfl, ?_⟩
  refine (open47 m sf sm sl h14 (hM.ext hs.ext)).mono ?_
  rintro _ h24 ⟨E, p1, b1, rfl, hb1, hbT1⟩
  have hs := hs.step E
  refine ⟨_, _, rfl, ?_⟩
  refine ⟨_, _, _, tf, tm, tl, hs.at 0 rfl (o := 0) (n := 6) rfl, ?_⟩
  refine (open47 k tf tm tl h24 (hK.ext hs.ext)).mono ?_
  rintro _ h34 ⟨E2, p2, b2, rfl, hb2, hbT2⟩
  have hs := hs.step E2
  refine ⟨_, _, rfl, ?_⟩
  refine sB_intro (fun c => empty hs.ext ⟨fun _ => ⟨rfl, rfl, rfl⟩, fun hv => absurd hv.1 (iff_f hb1 (bF c)), fun hv => absurd hv.1 (iff_f hb1 (bF c))⟩) (fun c1 => ?_)
  refine sB_intro (fun c => empty hs.ext ⟨fun _ => ⟨rfl, rfl, rfl⟩, fun hv => absurd hv.2 (iff_f hb2 (bF c)), fun hv => absurd hv.2 (iff_f hb2 (bF c))⟩) (fun c2 => ?_)
  have hVm := hb1.1 (bT c1)
  have hVk := hb2.1 (bT c2)
  obtain ⟨b0, S0, rfl, hT⟩ := hbT1 (bT c1)
  obtain ⟨b3, U0, rfl, hU⟩ := hbT2 (bT c2)
  refine ⟨_, hs.rd 1 rfl rfl, _, hs.rd 0 rfl rfl, sBn (fun c => empty hs.ext ⟨fun hv => absurd ⟨hVm, hVk⟩ hv, fun _ _ => ⟨rfl, rfl, rfl⟩, fun _ hv => absurd hv c⟩) (fun hrole => ?_)⟩
  have hcA := hs.at 1 rfl (o := 0) (n := 6) (vs := mC m sf sm sl) rfl
  have hcB := hs.at 0 rfl (o := 0) (n := 6) (vs := mC k tf tm tl) rfl
  have E0 : Ext h h34 := hs.ext
  have hM := hM.ext E0
  have hK := hK.ext E0
  have hT := hT.ext E2
  have hmN := hVm.n.n
  have hkN := hVk.n.n
  have hms := hVm.n.s
  have hks := hVk.n.s
  have hSq : ∀ s : Int, 0 ≤ s → s < m.n → mvS m s = S0 s.toNat := fun s h0 h1 => by
    have hS := hT.so s.toNat (by omega)
    have hsi : ((s.toNat : Nat) : Int) = s := by omega
    have := hS.p
    rw [hsi] at this
    exact mvS_eq hVm.d this hS.s
  clear hs hbT1 hbT2 empty
  obtain ⟨ho, qs, _, hat, hhn, hho, hqs⟩ := hT.ex
  have hs := St.refl h34
  refine hs.mmake 95 fun h39 E39 hs => ?_
  refine ⟨_, rfl, _, (atC_ext hs.ext hcA).nth 2 rfl, _, (atC_ext hs.ext hcB).nth 2 rfl, ?_⟩
  refine hs.mput (ck := pk) (cv := bv) M95 0 (l := []) rfl (fun q hq => by cases hq) List.nodup_nil (a := (m.s, k.s)) ⟨⟨by show _ ≤ m.s; omega, by show m.s ≤ _; omega⟩, by show _ ≤ k.s; omega, by show k.s ≤ _; omega⟩ true fun h42 hs => ?_
  replace hs : St h34 h42 [mpN h34.size [⟨m.s, k.s, []⟩]] := hs
  refine ⟨_, (atC_ext hs.ext hcA).nth 2 rfl, _, (atC_ext hs.ext hcB).nth 2 rfl, ?_⟩
  refine hs.newb fun h45 hs => ?_
  have hs := hs.blkS 1 6 ([(⟨m.s, k.s, -1, ⟨false, 0, 0⟩⟩ : Vt)].map Vt.cs) rfl (vtrows _) rfl (by decide)
  refine ⟨fun hist queue x h' μ => ∃ (i : Nat) (Q : List Vs) (V : List Vt), x = i ∧ hist = ⟨none, 0, 0⟩ ∧ i ≤ Q.length ∧ μ = 40001 - i ∧ QPr m k Q ∧ HV V Q ∧ (∀ r, Inc m k (mvS m) Q i r → Inc m k (mvS m) [⟨m.s, k.s, []⟩] 0 r) ∧ St h34 h' [.sl queue 97 6 (V.map Vt.cs), mpN h34.size Q],
    ⟨_, 0, [⟨m.s, k.s, []⟩], [⟨m.s, k.s, -1, ⟨false, 0, 0⟩⟩], rfl, rfl, by simp, rfl, QPr.start hVm hVk, ⟨rfl, fun j v w hv hw => by
      have hj : j = 0 := by have := (List.getElem?_eq_some_iff.1 hw).1; simpa using this
      subst hj; cases hv; cases hw
      exact ⟨rfl, rfl, Nat.le_refl _, .inl ⟨rfl, rfl⟩⟩⟩, fun r hr => hr, hs⟩, ?_⟩
  clear hs
  rintro - _ queue _ h52 μ ⟨i, Q, V, rfl, rfl, hi, rfl, hQ, hV, hInc, hs⟩
  have hqn := (hs.rows 0 (cs := Vt.cs) rfl (by omega)).ln
  have hQl := hQ.len hmN.2 hkN.2
  have hVl := hV.l
  refine sBi (fun c => ?_) (fun c => ?_)
  · have hil : i < Q.length := by omega
    obtain ⟨v, hv⟩ := get_some hil
    refine (hs.rows 0 (cs := Vt.cs) rfl (by omega)).nbI (by omega) (by omega) fun b53 o54 vt gvt t => ?_
    replace gvt : V[i]? = some vt := gvt
    obtain ⟨hva, hvb, hvl, _⟩ := hV.e i vt v gvt hv
    have hvr := hQ.r v (List.mem_of_getElem? hv)
    refine ⟨_, _, _, _, _, _, t, ?_⟩
    refine hs.newput (vs := vt.cs) rfl rfl fun h62 hs => ?_
    refine ⟨ho, (atC_ext hs.ext hat).nth 6 rfl, _, hs.rd 0 rfl rfl, ?_⟩
    refine (hho.ext hs.ext).nbI (by omega) (by omega) fun b66 o67 n gn t67 => ?_
    have hvlt : v.a.toNat < m.n.toNat := (Int.toNat_lt_toNat (by omega)).2 hvr.1.2
    have hn : n = v.a.toNat := by rw [hva, List.getElem?_range hvlt] at gn; exact (Option.some.inj gn).symm
    subst hn
    have hrow := hqs v.a.toNat hvlt
    have hSv := hSq v.a hvr.1.1 hvr.1.2
    have hrn := hrow.ln
    rw [show (natI (S0 v.a.toNat)).length = (S0 v.a.toNat).length from List.length_map _] at hrn
    have hSlen : (S0 v.a.toNat).length ≤ 1048576 := by
      rw [(hT.so v.a.toNat hvlt).p.length_eq]
      unfold outIx
      exact Nat.le_trans (List.length_filter_le _ _) (by rw [List.length_range]; exact hmm)
    have hSm : ∀ j ∈ S0 v.a.toNat, ∃ x, m.mv[j]? = some x ∧ x.f = v.a := fun j hj => by
      obtain ⟨x, hx, hxf⟩ := outIx_mem.1 ((hT.so v.a.toNat hvlt).p.mem_iff.1 hj)
      exact ⟨x, hx, by omega⟩
    refine ⟨_, t67.hd, ?_⟩
    refine ⟨fun hist queue x h' μ => ∃ (j : Nat) (Q' : List Vs) (V' : List Vt), x = j ∧ hist = ⟨none, 0, 0⟩ ∧ j ≤ (S0 v.a.toNat).length ∧ μ = (S0 v.a.toNat).length - j ∧ QPr m k Q' ∧ HV V' Q' ∧ Q'[i]? = some v ∧ incL m k v Q (mvS m v.a) = incL m k v Q' ((S0 v.a.toNat).drop j) ∧ St h34 h' [.blk h52.size vt.cs 97, .sl queue 97 6 (V'.map Vt.cs), mpN h34.size Q'],
      ⟨_, 0, Q, V, rfl, rfl, Nat.zero_le _, rfl, hQ, hV, hv, by rw [hSv]; rfl, hs⟩, ?_⟩
    clear hs hqn
    rintro - _ queue _ h75 μ ⟨j, Q', V', rfl, rfl, hj, rfl, hQ', hV', hv', hinc, hs⟩
    have hqn := (hs.rows 1 (cs := Vt.cs) rfl (by omega)).ln
    have hQl' := hQ'.len hmN.2 hkN.2
    have hVl' := hV'.l
    have hil' := (List.getElem?_eq_some_iff.1 hv').1
    refine sBi (fun c3 => ?_) (fun c3 => ?_)
    · obtain ⟨jn, hjn⟩ := get_some (l := S0 v.a.toNat) (i := j) (by omega)
      obtain ⟨x, hx, hxf⟩ := hSm jn (List.mem_of_getElem? hjn)
      have hxl := (List.getElem?_eq_some_iff.1 hx).1
      have hxr := hVm.n.mv x (List.mem_of_getElem? hx)
      rw [drop_get hjn, incL, hx] at hinc
      have hinc : incL m k v Q (mvS m v.a) = match incS k v Q' x with | .inl h => .inl h | .inr Q2 => incL m k v Q2 ((S0 v.a.toNat).drop (j + 1)) := hinc
      refine (hrow.ext hs.ext).nbI (by omega) (by omega) fun b76 o77 d gd t76 => ?_
      replace gd : (natI (S0 v.a.toNat))[j]? = some d := gd
      obtain ⟨jn', hjn', rfl⟩ := natI_get gd
      rw [hjn] at hjn'; cases hjn'
      refine ⟨_, t76.hd, sm, (atC_ext hs.ext hcA).nth 4 rfl, ?_⟩
      refine (hM.pm.rw.ext hs.ext).nbI (by omega) (by omega) fun b80 o81 x' gx t80 => ?_
      replace gx : m.mv[jn]? = some x' := gx
      rw [hx] at gx; cases gx
      refine ⟨_, _, _, _, _, _, t80, ?_⟩
      refine (M.of63 x h75).mono ?_
      rintro _ h92 ⟨rfl, E92⟩
      have hs := hs.step E92
      refine ⟨_, _, _, rfl, ?_⟩
      refine hs.newput (vs := x.ev.cs) rfl rfl fun h94 hs => ?_
      refine ⟨_, hs.rd 1 rfl rfl, _, _, _, hs.at 0 rfl (o := 0) (n := 3) rfl, ?_⟩
      rw [hvb]
      refine (find48 k tf tm tl b3 U0 v.b x.ev h94 (hK.ext hs.ext) hVk (hU.ext hs.ext) hvr.2.1 hvr.2.2).mono ?_
      rintro _ h101 ⟨E101, hfind⟩
      have hs := hs.step E101
      rcases hfind with ⟨rfl, hnx⟩ | ⟨kn, y, rfl, hy, hnx⟩
      · refine ⟨_, rfl, sBi (fun _ => ?_) (fun c4 => absurd (by decide) c4)⟩
        have hinc2 : incL m k v Q (mvS m v.a) = .inl (v.h ++ [x.ev]) := by
          have e1 : incS k v Q' x = .inl (v.h ++ [x.ev]) := by unfold incS; rw [if_pos (by omega)]
          rw [hinc, e1]
        have hfin : Inc m k (mvS m) [⟨m.s, k.s, []⟩] 0 (v.h ++ [x.ev], false) := hInc _ (.stop hv hinc2)
        refine ⟨_, _, _, hs.at 0 rfl (o := 0) (n := 3) rfl, ?_⟩
        refine hs.newb fun h105 hs => ?_
        have hs := hs.blkS 1 3 ([x.ev].map Ev.cs) rfl (evrows _) rfl (by decide)
        refine ⟨fun l n h' μ => ∃ (p : Nat) (T : List Ev) (w : Vs), n = p ∧ μ = p ∧ Q'[p]? = some w ∧ T ++ w.h.reverse = x.ev :: v.h.reverse ∧ St h34 h' [.sl l 79 3 (T.map Ev.cs), .blk h92.size x.ev.cs 79, .blk h52.size vt.cs 97, .sl queue 97 6 (V'.map Vt.cs), mpN h34.size Q'],
          ⟨_, i, [x.ev], v, rfl, rfl, hv', rfl, hs⟩, ?_⟩
        clear hs
        rintro - l _ h111 p ⟨_, T, w, rfl, rfl, hw, hTw, hs⟩
        have hpl := (List.getElem?_eq_some_iff.1 hw).1
        obtain ⟨wt, hwt⟩ := get_some (l := V') (i := p) (by omega)
        obtain ⟨_, _, hwl, hwd⟩ := hV'.e p wt w hwt hw
        have hTl : T.length + w.h.length = 1 + v.h.length := by
          have := congrArg List.length hTw
          rw [List.length_append, List.length_cons, List.length_reverse, List.length_reverse] at this; omega
        have hln := (hs.rows 0 (cs := Ev.cs) rfl (by omega)).ln
        refine (hs.rows 3 (cs := Vt.cs) rfl (by omega)).nbI (by omega) (by omega) fun b112 o113 wt' gw t112 => ?_
        replace gw : V'[p]? = some wt' := gw
        rw [hwt] at gw; cases gw
        refine ⟨_, t112.nth 2 rfl, ?_⟩
        rcases hwd with ⟨ha, hwn⟩ | ⟨p', hp', ha, u, hu, hwu⟩
        · refine sBi (fun c5 => by rw [ha] at c5; exact absurd c5 (by decide)) (fun _ => ?_)
          rw [hwn, List.reverse_nil, List.append_nil] at hTw
          subst hTw
          refine (reverse64 hs (by rw [List.length_cons, List.length_reverse]; omega)).mono ?_
          rintro _ h128 ⟨rfl, hs⟩
          have hrev : (x.ev :: v.h.reverse).reverse = v.h ++ [x.ev] := by rw [List.reverse_cons, List.reverse_reverse]
          rw [hrev] at hs
          have hHl : (v.h ++ [x.ev]).length = v.h.length + 1 := List.length_append
          have hln : l.n = (v.h ++ [x.ev]).length := (hs.rows 0 (cs := Ev.cs) rfl (by omega)).ln
          refine ⟨rfl, ?_⟩
          have hs0 := hs.nil_ 37 5
          refine ⟨fun hist n h' μ => ∃ i : Nat, n = i ∧ i ≤ (v.h ++ [x.ev]).length ∧ μ = (v.h ++ [x.ev]).length - i ∧ St h34 h' [.sl hist 37 5 ((((v.h ++ [x.ev]).take i).map (hvE m.role)).map Hv.cs), .sl l 79 3 ((v.h ++ [x.ev]).map Ev.cs)], ⟨_, 0, rfl, Nat.zero_le _, rfl, hs0.sub (.cons_cons _ (.cons_cons _ (.cons _ (.cons _ (.cons _ (.cons _ .slnil))))))⟩, ?_⟩
          clear hs hs0
          rintro - hist _ h134 μ ⟨i2, rfl, hi2, rfl, hs⟩
          have hhn2 := (hs.rows 0 (cs := Hv.cs) rfl (by omega)).ln
          rw [List.length_map, List.length_take] at hhn2
          refine sBi (fun c6 => ?_) (fun c6 => ?_)
          · obtain ⟨e, he⟩ := get_some (l := v.h ++ [x.ev]) (i := i2) (by omega)
            refine (hs.rows 1 (cs := Ev.cs) rfl (by omega)).nbI (by omega) (by omega) fun b135 o136 e' ge t135 => ?_
            replace ge : (v.h ++ [x.ev])[i2]? = some e' := ge
            rw [he] at ge; cases ge
            refine ⟨_, _, _, t135, ?_⟩
            refine hs.newput (vs := e.cs) rfl rfl fun h141 hs => ?_
            refine ⟨_, (atC_ext hs.ext hcA).nth 0 rfl, _, hs.rd 0 rfl rfl, _, hs.rd 0 rfl rfl, _, hs.rd 0 rfl rfl, ?_⟩
            refine hs.app 1 rfl app27 (m := 1) [(hvE m.role e).cs] rfl rfl (by simp [Hv.cs]) rfl (by omega) (by simp only [maxLen]; omega) fun s147 h148 n147 hs => ?_
            refine ⟨_, ?_, i2 + 1, by rw [w64 (by omega) (by omega)]; omega, by omega, rfl, ?_⟩
            · omega
            · rw [take_snoc he, List.map_append, List.map_append]
              exact hs.drop 1
          · refine ⟨E0.trans hs.ext, hist, v.h ++ [x.ev], false, 0, rfl, ?_, by omega, fun hv => absurd ⟨hVm, hVk⟩ hv, fun _ hv => absurd hrole hv, fun _ _ => ⟨rfl, hfin⟩⟩
            have := hs.rows 0 (s := hist) (cs := Hv.cs) rfl (by omega)
            rwa [List.take_of_length_le (by omega)] at this
        · refine sBi (fun _ => ?_) (fun c5 => by rw [ha] at c5; omega)
          refine (hs.rows 3 (cs := Vt.cs) rfl (by omega)).nbI (by omega) (by omega) fun b115 o116 wt' gw t115 => ?_
          replace gw : V'[p]? = some wt' := gw
          rw [hwt] at gw; cases gw
          refine ⟨_, _, _, t115.sub 3 3 rfl, ?_⟩
          refine hs.app 0 rfl app100 (m := 1) [wt.x.cs] rfl rfl (by simp [Ev.cs]) rfl (by omega) (by simp only [maxLen]; omega) fun s121 h122 n121 hs => ?_
          refine (hs.rows 3 (cs := Vt.cs) (s := queue) (l := V') rfl (by omega)).nbI (by omega) (by omega) fun b123 o124 wt' gw t123 => ?_
          replace gw : V'[p]? = some wt' := gw
          rw [hwt] at gw; cases gw
          refine ⟨_, t123.nth 2 rfl, p', hp', p', T ++ [wt.x], u, ha, rfl, hu, ?_, ?_⟩
          · rw [← hTw, hwu, List.reverse_append, List.append_assoc]; rfl
          · rw [List.map_append]; exact hs
      · have hyl := (List.getElem?_eq_some_iff.1 hy).1
        have hyr := hVk.n.mv y (List.mem_of_getElem? hy)
        refine ⟨_, rfl, sBi (fun c4 => by omega) (fun _ => ?_)⟩
        refine ⟨sm, (atC_ext hs.ext hcA).nth 4 rfl, ?_⟩
        refine (hM.pm.rw.ext hs.ext).nbI (by omega) (by omega) fun b151 o152 x' gx t151 => ?_
        replace gx : m.mv[jn]? = some x' := gx
        rw [hx] at gx; cases gx
        refine ⟨_, t151.nth 4 rfl, tm, (atC_ext hs.ext hcB).nth 4 rfl, ?_⟩
        refine (hK.pm.rw.ext hs.ext).nbI (by omega) (by omega) fun b155 o156 y' gy t155 => ?_
        replace gy : k.mv[kn]? = some y' := gy
        rw [hy] at gy; cases gy
        refine ⟨_, t155.nth 4 rfl, ?_⟩
        refine hs.newbE fun h158 E158 hs => ⟨E158.sm, ?_⟩
        refine hs.put 0 rfl (o := 0) (vs := [.int .i64 x.t, .int .i64 y.t]) rfl (show 2 ≤ 2 by decide) fun h159 hs => ?_
        refine ⟨_, _, hs.at 0 rfl (o := 0) (n := 2) rfl, ?_⟩
        have hnn : ¬ nxE k v.b x.ev < 0 := by omega
        have hkp : kokP (x.t, y.t) := ⟨⟨by show _ ≤ x.t; omega, by show x.t ≤ _; omega⟩, by show _ ≤ y.t; omega, by show y.t ≤ _; omega⟩
        refine hs.mlook (ck := pk) (cv := bv) M95 4 (l := NQ Q') rfl (NQ_kok hQ' hmN.2 hkN.2) (by rw [NQ_fst]; exact hQ'.d) (a := (x.t, y.t)) hkp false ?_
        by_cases hmem : (x.t, y.t) ∈ Q'.map Vs.p
        · rw [NQ_mem hQ'.d hmem]
          refine ⟨_, rfl, sB_f rfl ?_⟩
          refine ⟨(S0 v.a.toNat).length - (j + 1), by omega, j + 1, Q', V', by rw [w64 (by omega) (by omega)]; omega, rfl, by omega, rfl, hQ', hV', hv', ?_, hs.drop 2⟩
          have e1 : incS k v Q' x = .inr Q' := by unfold incS; rw [if_neg hnn, hnx, if_pos hmem]
          rw [hinc, e1]
        · rw [mget_none (NQ_not hmem)]
          refine ⟨_, rfl, sB_t rfl ?_⟩
          refine ⟨_, _, hs.at 0 rfl (o := 0) (n := 2) rfl, ?_⟩
          refine hs.mput (ck := pk) (cv := bv) M95 4 (l := NQ Q') rfl (NQ_kok hQ' hmN.2 hkN.2) (by rw [NQ_fst]; exact hQ'.d) (a := (x.t, y.t)) hkp true fun h167 hs => ?_
          rw [mset_none (NQ_not hmem)] at hs
          refine ⟨by decide, _, hs.rd 0 rfl (i := 0) rfl, by decide, _, hs.rd 0 rfl (i := 1) rfl, _, _, _, hs.at 1 rfl (o := 0) (n := 3) rfl, ?_⟩
          refine hs.app 3 rfl app98 (m := 1) [Vt.cs ⟨x.t, y.t, i, x.ev⟩] rfl rfl (by simp [Vt.cs]) rfl (by omega) (by simp only [maxLen]; omega) fun s174 h175 n174 hs => ?_
          refine ⟨(S0 v.a.toNat).length - (j + 1), by omega, j + 1, Q' ++ [⟨x.t, y.t, v.h ++ [x.ev]⟩], V' ++ [⟨x.t, y.t, i, x.ev⟩], by rw [w64 (by omega) (by omega)]; omega, rfl, by omega, rfl, hQ'.push (w := ⟨x.t, y.t, v.h ++ [x.ev]⟩) ⟨⟨hxr.2.2.1, hxr.2.2.2.1⟩, hyr.2.2.1, hyr.2.2.2.1⟩ hmem, hV'.push hv' _ _ _, by rw [List.getElem?_append_left hil']; exact hv', ?_, ?_⟩
          · have e1 : incS k v Q' x = .inr (Q' ++ [⟨x.t, y.t, v.h ++ [x.ev]⟩]) := by unfold incS; rw [if_neg hnn, hnx, if_neg hmem]
            rw [hinc, e1]
          · have hs2 := hs.drop 2
            rw [List.map_append]
            unfold mpN NQ
            rw [List.map_append, List.map_append]
            unfold NQ at hs2
            rw [List.map_append] at hs2
            exact hs2
    · have hjS : j = (S0 v.a.toNat).length := by omega
      rw [hjS, List.drop_eq_nil_of_le (Nat.le_refl _), incL] at hinc
      refine ⟨40001 - (i + 1), by omega, i + 1, Q', V', by rw [w64 (by omega) (by omega)]; omega, rfl, by omega, rfl, hQ', hV', fun r hr => hInc r (.next hv hinc hr), hs.drop 1⟩
  · refine ⟨E0.trans hs.ext, ⟨none, 0, 0⟩, [], true, 0, rfl, Rw.nil, Nat.zero_le _, fun hv => absurd ⟨hVm, hVk⟩ hv, fun _ hv => absurd hrole hv, fun _ _ => ⟨rfl, hInc _ (.done (by omega))⟩⟩
end Go.VC
end

section
/- The walk of the law of shortest histories. (Numbers of layer 26's seat.) -/
namespace Go.VC
open Go.Proofs Go.LexS
set_option maxRecDepth 100000
theorem runN_le {m : Mch} : ∀ {l : List Hv} {a : Int} {c : Nat}, (runN m a c l).2.1 ≤ c + l.length
  | [], a, c => Nat.le_refl _
  | x :: l, a, c => by
    rw [runN]
    split
    · have := runN_le (m := m) (l := l) (a := nxH m a x) (c := c + 1)
      rw [List.length_cons]; omega
    · exact Nat.le_add_right _ _
set_option maxHeartbeats 3200000 in
theorem least7 (m k : Mch) (sf sm sl tf tm tl : Sl) (L : List Hv) (s : Sl) (h : Heap) (hM : MI h m sf sm sl) (hK : MI h k tf tm tl) (hL : RL h 5 s Hv.cs L) (hx : Gx h) :
    Fn Tryz.prog 7 #[.agg ⟨mC m sf sm sl⟩, .agg ⟨mC k tf tm tl⟩, .slice s.a s.n s.c] h fun v h' => v = .bool true ∧ Ext h h' := by
  apply vc7 m.role m.n m.s sf sm sl k.role k.n k.s tf tm tl s; unfold W7
  have hLs := hL.sm
  refine (St.refl h).newb fun h13 hs => ?_
  refine hs.newb fun h14 hs => ?_
  refine (awake12 h14 (hx.ext hs.ext)).mono ?_
  rintro _ h17 ⟨rfl, E⟩
  have hs := hs.step E
  refine ⟨_, rfl, sB_f rfl ?_⟩
  refine ⟨_, _, _, sf, sm, sl, hs.at 1 rfl (o := 0) (n := 6) rfl, ?_⟩
  refine (small18 m sf sm sl h17 (hM.ext hs.ext)).mono ?_
  rintro _ h26 ⟨⟨b1, rfl, hb1⟩, E⟩
  have hs := hs.step E
  refine ⟨_, rfl, sB_intro (fun _ => ⟨rfl, hs.ext⟩) (fun c1 => ?_)⟩
  refine ⟨_, _, _, tf, tm, tl, hs.at 0 rfl (o := 0) (n := 6) rfl, ?_⟩
  refine (small18 k tf tm tl h26 (hK.ext hs.ext)).mono ?_
  rintro _ h35 ⟨⟨b2, rfl, hb2⟩, E⟩
  have hs := hs.step E
  refine ⟨_, rfl, sB_intro (fun _ => ⟨rfl, hs.ext⟩) (fun c2 => ?_)⟩
  have hVm := (hb1.1 (bT c1)).2
  have hVk := (hb2.1 (bT c2)).2
  refine ⟨_, hs.rd 1 rfl rfl, _, hs.rd 0 rfl rfl, sBn (fun _ => ⟨rfl, hs.ext⟩) (fun hrole => ?_)⟩
  refine sBi (fun _ => ⟨rfl, hs.ext⟩) (fun c3 => ?_)
  refine ⟨_, _, _, sf, sm, sl, hs.at 1 rfl (o := 0) (n := 6) rfl, _, _, _, tf, tm, tl, hs.at 0 rfl (o := 0) (n := 6) rfl, ?_⟩
  refine (included30 m k sf sm sl tf tm tl h35 (hM.ext hs.ext) (hK.ext hs.ext)).mono ?_
  rintro _ h54 ⟨E, r, H, ok, e, rfl, hr, hHl, hI⟩
  have hs := hs.step E
  obtain ⟨rfl, hInc⟩ := hI.g ⟨hVm, hVk⟩ hrole
  have hR := inc_law hVm hrole (mvS_ok m) hInc (BQ.start m k)
  have hrn : r.n = H.length := by have := hr.ln; rwa [List.length_map] at this
  have hHl' : (H.map (hvE m.role)).length ≤ 1048576 := by rw [List.length_map]; exact hHl
  refine ⟨_, _, _, rfl, ?_⟩
  refine ⟨_, _, _, sf, sm, sl, hs.at 1 rfl (o := 0) (n := 6) rfl, ?_⟩
  refine (run14 m sf sm sl L s h54 (hM.ext hs.ext) (hL.rw.ext hs.ext) hL.sm).mono ?_
  rintro _ h65 ⟨rfl, E65⟩
  have hs := hs.step E65
  rw [if_pos hVm]
  refine ⟨_, _, _, rfl, ?_⟩
  refine ⟨_, _, _, tf, tm, tl, hs.at 0 rfl (o := 0) (n := 6) rfl, ?_⟩
  refine (run14 k tf tm tl L s h65 (hK.ext hs.ext) (hL.rw.ext hs.ext) hL.sm).mono ?_
  rintro _ h76 ⟨rfl, E76⟩
  have hs := hs.step E76
  rw [if_pos hVk]
  refine ⟨_, _, _, rfl, ?_⟩
  refine sBn (fun c => absurd rfl c) (fun _ => ?_)
  cases ok with
  | true =>
    obtain ⟨hH, hall⟩ := hR.y rfl
    replace hH : H = [] := hH
    subst hH
    refine sB_t rfl (sBe (fun _ => ?_) (fun c => absurd (by rw [hrn]; rfl) c))
    refine sBn (fun _ => ⟨rfl, hs.ext⟩) (fun c4 => ⟨?_, hs.ext⟩)
    rw [hall L c4]; rfl
  | false =>
    obtain ⟨q1, q2, q3, q4⟩ := hR.n rfl
    refine sB_f rfl ?_
    refine ⟨_, _, _, sf, sm, sl, hs.at 1 rfl (o := 0) (n := 6) rfl, ?_⟩
    refine (run14 m sf sm sl (H.map (hvE m.role)) r h76 (hM.ext hs.ext) (hr.ext (E65.trans E76)) hHl').mono ?_
    rintro _ h87 ⟨rfl, E87⟩
    have hs := hs.step E87
    rw [if_pos hVm]
    refine ⟨_, _, _, rfl, ?_⟩
    refine ⟨_, _, _, tf, tm, tl, hs.at 0 rfl (o := 0) (n := 6) rfl, ?_⟩
    refine (run14 k tf tm tl (H.map (hvE m.role)) r h87 (hK.ext hs.ext) (hr.ext ((E65.trans E76).trans E87)) hHl').mono ?_
    rintro _ h98 ⟨rfl, E98⟩
    have hs := hs.step E98
    rw [if_pos hVk]
    refine ⟨_, _, _, rfl, ?_⟩
    replace q1 : (runN m m.s 0 (H.map (hvE m.role))).2.2 = 0 := q1
    replace q2 : (runN k k.s 0 (H.map (hvE m.role))).2.2 = 23 := q2
    replace q3 : (runN k k.s 0 (H.map (hvE m.role))).2.1 + 1 = H.length := q3
    replace q4 : ∀ (l : List Hv), (runN m m.s 0 l).2.2 = 0 → (runN k k.s 0 l).2.2 ≠ 0 → H.length ≤ (runN k k.s 0 l).2.1 + 1 := q4
    have hle := runN_le (m := k) (l := L) (a := k.s) (c := 0)
    refine sBe (fun _ => ?_) (fun c => absurd q1 c)
    refine sBe (fun _ => ?_) (fun c => absurd q2 c)
    refine sBe (fun _ => ?_) (fun c => absurd (by rw [w64 (by omega) (by omega)]; omega) c)
    refine sBn (fun _ => ⟨rfl, hs.ext⟩) (fun c4 => ?_)
    refine sBe (fun _ => ⟨rfl, hs.ext⟩) (fun c5 => ⟨?_, hs.ext⟩)
    have := q4 L c4 c5
    rw [decide_eq_true (by rw [w64 (by omega) (by omega)]; omega)]
end Go.VC
end

section
/- What a machine and a history look like in memory where all that is read is of bulk at most 1048576. -/
namespace Go.VC
open Go.Proofs Go.LexS Go.RowKit Go.ChangeShapes Go.WideShapes Go.Proofs.YtkebghjhekoecaaGreatDoor
set_option maxRecDepth 100000
theorem bulk_pos {H : Type} (d : DataW H) : 1 ≤ Rows.uptoBulk d := by
  cases d with
  | lit l => cases l <;> simp [Rows.uptoBulk]
  | _ => simp [Rows.uptoBulk]
theorem bulk_part {H : Type} : ∀ {l : List (DataW H)} {d : DataW H}, d ∈ l → Rows.uptoBulk d ≤ Rows.uptoBulkAll l
  | [], _, h => by cases h
  | x :: r, d, h => by
    rw [Rows.uptoBulkAll]
    rcases List.mem_cons.1 h with rfl | h
    · omega
    · have := bulk_part h; omega
theorem bulk_len {H : Type} : ∀ l : List (DataW H), l.length ≤ Rows.uptoBulkAll l
  | [] => by simp
  | x :: r => by
    have h1 := bulk_pos x
    have h2 := bulk_len r
    rw [Rows.uptoBulkAll, List.length_cons]; omega
/-- the cells cs read as type t, of bulk at most a million or so -/
def Rdb (P : Program) (W : World) (t : TypeId) (cs : List Value) : Prop :=
  ∃ (H : Type) (enc : TypeId × Value → H) (n : Nat) (x : DataW H × List MemPlace), DataW.trod enc P W 0 (fun _ => true) true n t cs = some x ∧ Rows.uptoBulk x.1 ≤ 1048576
theorem Rdb.rdt {P : Program} {W : World} {t : TypeId} {cs : List Value} (h : Rdb P W t cs) : Rdt P W t cs := by
  obtain ⟨H, enc, n, x, h1, _⟩ := h; exact ⟨H, enc, n, x, h1⟩
theorem rdb_of_trod {H : Type} {enc : TypeId × Value → H} {P : Program} {W : World} {t : TypeId} {v : Value} {d : DataW H} {p : List MemPlace} (h : DataW.Trod enc P W 0 (fun _ => true) true t v d p) (hw : Rows.uptoBulk d ≤ 1048576) : Rdb P W t v.cells.toList := by
  obtain ⟨n, h⟩ := h
  exact ⟨H, enc, n, _, h, hw⟩
theorem Rdb.field {P : Program} {W : World} {t ft : TypeId} {cs : List Value} {i off : Nat} (h : Rdb P W t cs) (hf : fieldAt P t i = some (ft, off)) : Rdb P W ft ((cs.drop off).take (P.cellsOf ft)) := by
  unfold fieldAt at hf
  split at hf
  · rename_i fs hu
    obtain ⟨f, h1, h2⟩ := Option.map_eq_some_iff.1 hf
    cases h2
    obtain ⟨H, enc, n, x, h, hw⟩ := h
    obtain ⟨xs, m, _, hx, hl, hxl, hfi⟩ := DataW.trod_struct hu h
    have hlt : i < xs.length := by rw [hxl]; exact (Array.getElem?_eq_some_iff.1 h1).1
    refine ⟨H, enc, m, xs[i], by rw [hfi i f h1, List.getElem?_eq_getElem hlt], ?_⟩
    rw [hx, Rows.uptoBulk] at hw
    have := bulk_part (l := xs.map (·.1)) (d := xs[i].1) (List.mem_map.2 ⟨xs[i], List.getElem_mem hlt, rfl⟩)
    omega
  · cases hf
/-- a slice argument in memory: its rows -/
theorem Rdb.rows {P : Program} {W : World} {t e : TypeId} {cs : List Value} (ht : P.underlying t = some (.slice e)) (h : Rdb P W t cs) (hpos : 0 < P.cellsOf e) :
    ∃ (s : Sl) (rows : List (List Value)), cs = [.slice s.a s.n s.c] ∧ s.n ≤ s.c ∧ s.n ≤ 1048576 ∧ (s.a = none → s.n = 0 ∧ s.c = 0) ∧ Rw W.heap (P.cellsOf e) s rows ∧ ∀ r ∈ rows, r.length = P.cellsOf e ∧ Rdb P W e r := by
  obtain ⟨H, enc, n, x, h, hw⟩ := h
  rcases DataW.trod_slice ht h with ⟨rfl, _⟩ | ⟨a, len, cap, elems, rest, m, _, rfl, hx, _, hlc, hcm, hel, helem, _, _⟩
  · exact ⟨⟨none, 0, 0⟩, [], rfl, Nat.le_refl _, Nat.zero_le _, fun _ => ⟨rfl, rfl⟩, Rw.nil, fun r hr => by cases hr⟩
  · rw [hx, Rows.uptoBulk] at hw
    have hle : len ≤ 1048576 := by
      have := bulk_len (elems.map (·.1))
      rw [List.length_map] at this; omega
    have hwe : ∀ (i : Nat) (hi : i < elems.length), Rows.uptoBulk elems[i].1 ≤ 1048576 := fun i hi => by
      have := bulk_part (l := elems.map (·.1)) (d := elems[i].1) (List.mem_map.2 ⟨elems[i], List.getElem_mem hi, rfl⟩)
      omega
    by_cases h0 : len = 0
    · subst h0
      exact ⟨⟨some a, 0, cap⟩, [], rfl, hlc, hle, fun e => (by cases e), Rw.empty rfl, fun r hr => by cases hr⟩
    · have hrow : ∀ i, i < len → ∃ r, W.cells? 0 (a.add (i * P.cellsOf e)) (P.cellsOf e) = some r ∧ Rdb P W e r := by
        intro i hi
        have h1 := helem i hi
        rw [List.getElem?_eq_getElem (by omega)] at h1
        obtain ⟨r, hr, hx2⟩ := Option.bind_eq_some_iff.1 h1
        exact ⟨r, hr, H, enc, m, _, hx2, hwe i (by omega)⟩
      let row : Nat → List Value := fun i => (W.cells? 0 (a.add (i * P.cellsOf e)) (P.cellsOf e)).getD []
      have hrow' : ∀ i, i < len → W.cells? 0 (a.add (i * P.cellsOf e)) (P.cellsOf e) = some (row i) ∧ Rdb P W e (row i) := fun i hi => by
        obtain ⟨r, hr, hx⟩ := hrow i hi
        have : row i = r := by show (W.cells? 0 _ _).getD [] = r; rw [hr]; rfl
        rw [this]; exact ⟨hr, hx⟩
      have hget : ∀ i, i < len → ((List.range len).map row)[i]? = some (row i) := fun i hi => by
        rw [List.getElem?_map, List.getElem?_range hi]; rfl
      have hspot : a = ⟨a.block, a.off, none⟩ := by
        have hc := (cells_at (hrow' 0 (by omega)).1)
        have hl0 : 0 < (row 0).length := by rw [hc.1]; exact hpos
        have := hc.2 0 _ (List.getElem?_eq_getElem hl0)
        rw [Nat.zero_mul, show (a.add 0).add 0 = a from rfl] at this
        unfold World.cell? at this
        split at this
        · split at this
          · cases this
          · rename_i hs
            cases a with
            | mk b o s =>
              cases s with
              | none => rfl
              | some s => exact absurd rfl hs
        · cases this
      refine ⟨⟨some a, len, cap⟩, (List.range len).map row, rfl, hlc, hle, fun e => (by cases e), ⟨by simp, fun _ => ⟨a.block, a.off, by rw [← hspot], fun i r hi j v hj => ?_⟩⟩, fun r hr => ?_⟩
      · have hil : i < len := by have := (List.getElem?_eq_some_iff.1 hi).1; simpa using this
        rw [hget i hil] at hi; cases hi
        have h4 := (cells_at (hrow' i hil).1).2 _ _ hj
        rw [hspot] at h4
        have e : ((⟨a.block, a.off, none⟩ : Addr).add (i * P.cellsOf e)).add j = addk ⟨a.block, a.off + i * P.cellsOf e, none⟩ j := by
          rw [addk_at, add_n, add_n]
        rw [e] at h4
        exact h4
      · obtain ⟨i, hi, rfl⟩ := List.mem_map.1 hr
        have := hrow' i (List.mem_range.1 hi)
        exact ⟨(cells_at this.1).1, this.2⟩
/-- .. as a list -/
theorem Rdb.list {α : Type} {P : Program} {W : World} {t e : TypeId} {k : Nat} {v : Value} {cs : α → List Value} {Q : α → Prop} (ht : P.underlying t = some (.slice e)) (hk : P.cellsOf e = k) (hpos : 0 < k)
    (ho : ∀ r, Rdb P W e r → ∃ x, r = cs x ∧ Q x) (h : Rdb P W t [v]) : ∃ (s : Sl) (L : List α), v = .slice s.a s.n s.c ∧ RL W.heap k s cs L ∧ ∀ x ∈ L, Q x := by
  subst hk
  obtain ⟨s, rows, e1, hc, hm, hna, hrw, hr⟩ := h.rows ht hpos
  have key : ∀ rows : List (List Value), (∀ r ∈ rows, r.length = P.cellsOf e ∧ Rdb P W e r) → ∃ L : List α, rows = L.map cs ∧ ∀ x ∈ L, Q x := by
    intro rows
    induction rows with
    | nil => intro _; exact ⟨[], rfl, fun x hx => by cases hx⟩
    | cons r rows ih =>
      intro h
      obtain ⟨x, hx, hq⟩ := ho r (h r (by simp)).2
      obtain ⟨L, hL, hQ⟩ := ih fun y hy => h y (List.mem_cons_of_mem _ hy)
      exact ⟨x :: L, by rw [hx, hL]; rfl, fun y hy => by rcases List.mem_cons.1 hy with rfl | hy; exact hq; exact hQ y hy⟩
  obtain ⟨L, rfl, hQ⟩ := key rows hr
  have hn := hrw.ln
  exact ⟨s, L, by simpa using e1, ⟨hrw, hc, hna, by omega⟩, hQ⟩
theorem v3 : Tryz.prog.underlying 3 = some (.int .i64) := by kernel_rfl
theorem v4b : Tryz.prog.underlying 4 = some .bool := by kernel_rfl
theorem cz3 : Tryz.prog.cellsOf 3 = 1 := by kernel_rfl
theorem cz4 : Tryz.prog.cellsOf 4 = 1 := by kernel_rfl
theorem cz37 : Tryz.prog.cellsOf 37 = 5 := by kernel_rfl
theorem cz35 : Tryz.prog.cellsOf 35 = 1 := by kernel_rfl
theorem cz22 : Tryz.prog.cellsOf 22 = 1 := by kernel_rfl
theorem cz23 : Tryz.prog.cellsOf 23 = 1 := by kernel_rfl
theorem cz24 : Tryz.prog.cellsOf 24 = 1 := by kernel_rfl
theorem cz26 : Tryz.prog.cellsOf 26 = 6 := by kernel_rfl
theorem cz44 : Tryz.prog.cellsOf 44 = 3 := by kernel_rfl
theorem cz81 : Tryz.prog.cellsOf 81 = 6 := by kernel_rfl
theorem vs22 : Tryz.prog.underlying 22 = some (.slice 4) := by kernel_rfl
theorem vs23 : Tryz.prog.underlying 23 = some (.slice 81) := by kernel_rfl
theorem vs24 : Tryz.prog.underlying 24 = some (.slice 44) := by kernel_rfl
theorem vs27 : Tryz.prog.underlying 27 = some (.slice 37) := by kernel_rfl
theorem vs35 : Tryz.prog.underlying 35 = some (.slice 343) := by kernel_rfl
theorem Rdb.sl {P : Program} {W : World} {t e : TypeId} {cs : List Value} (ht : P.underlying t = some (.slice e)) (h : Rdb P W t cs) : ∃ s : Sl, cs = [.slice s.a s.n s.c] := by
  obtain ⟨H, enc, n, x, h, _⟩ := h
  rcases DataW.trod_slice ht h with ⟨rfl, _⟩ | ⟨a, len, cap, elems, rest, m, _, rfl, _⟩
  · exact ⟨⟨none, 0, 0⟩, rfl⟩
  · exact ⟨⟨some a, len, cap⟩, rfl⟩
theorem open_three {W : World} {t : TypeId} {r : List Value} (hc : Tryz.prog.cellsOf t = 3) (h0 : fieldAt Tryz.prog t 0 = some (3, 0)) (h1 : fieldAt Tryz.prog t 1 = some (3, 1)) (h2 : fieldAt Tryz.prog t 2 = some (3, 2)) (h : Rdt Tryz.prog W t r) :
    ∃ a b c : Int, r = [.int .i64 a, .int .i64 b, .int .i64 c] := by
  have hl := h.flen h0
  rw [hc] at hl
  match r, hl with
  | [x0, x1, x2], _ =>
    have f0 := h.field h0
    have f1 := h.field h1
    have f2 := h.field h2
    rw [cz3] at f0 f1 f2
    obtain ⟨k0, e0, _⟩ := f0.int v3
    obtain ⟨k1, e1, _⟩ := f1.int v3
    obtain ⟨k2, e2, _⟩ := f2.int v3
    simp only [List.drop_zero, List.take_succ_cons, List.take_zero, List.drop_succ_cons, List.cons.injEq, and_true] at e0 e1 e2
    subst e0 e1 e2
    exact ⟨k0, k1, k2, rfl⟩
theorem open_event {W : World} {r : List Value} (h : Rdb Tryz.prog W 37 r) : ∃ x : Hv, r = x.cs ∧ True := by
  have hl := h.rdt.flen (i := 0) (ft := 3) (off := 0) (by kernel_rfl)
  rw [cz37] at hl
  match r, hl with
  | [x0, x1, x2, x3, x4], _ =>
    have f0 := h.rdt.field (i := 0) (ft := 3) (off := 0) (by kernel_rfl)
    have f1 := h.rdt.field (i := 1) (ft := 4) (off := 1) (by kernel_rfl)
    have f2 := h.rdt.field (i := 2) (ft := 3) (off := 2) (by kernel_rfl)
    have f3 := h.rdt.field (i := 3) (ft := 3) (off := 3) (by kernel_rfl)
    have f4 := h.field (i := 4) (ft := 35) (off := 4) (by kernel_rfl)
    rw [cz3] at f0 f2 f3
    rw [cz4] at f1
    rw [cz35] at f4
    obtain ⟨k0, e0, _⟩ := f0.int v3
    obtain ⟨k1, e1⟩ := f1.bool v4b
    obtain ⟨k2, e2, _⟩ := f2.int v3
    obtain ⟨k3, e3, _⟩ := f3.int v3
    obtain ⟨s, e4⟩ := f4.sl vs35
    simp only [List.drop_zero, List.take_succ_cons, List.take_zero, List.drop_succ_cons, List.cons.injEq, and_true] at e0 e1 e2 e3 e4
    subst e0 e1 e2 e3 e4
    exact ⟨⟨k0, k1, k2, k3, s⟩, rfl, trivial⟩
theorem open_events {W : World} {v : Value} (h : Rdb Tryz.prog W 27 [v]) : ∃ (s : Sl) (L : List Hv), v = .slice s.a s.n s.c ∧ RL W.heap 5 s Hv.cs L := by
  obtain ⟨s, L, e, hr, _⟩ := Rdb.list vs27 cz37 (by omega) (fun r hr => open_event hr) h
  exact ⟨s, L, e, hr⟩
theorem open_boolv {W : World} {r : List Value} (h : Rdb Tryz.prog W 4 r) : ∃ x : Bool, r = bC x ∧ True := by
  obtain ⟨k, e⟩ := h.rdt.bool v4b
  exact ⟨k, e, trivial⟩
theorem open_limit {W : World} {r : List Value} (h : Rdb Tryz.prog W 44 r) : ∃ x : To, r = x.cs ∧ True := by
  obtain ⟨a, b, c, e⟩ := open_three cz44 (by kernel_rfl) (by kernel_rfl) (by kernel_rfl) h.rdt
  exact ⟨⟨a, b, c⟩, e, trivial⟩
theorem open_move {W : World} {r : List Value} (h : Rdb Tryz.prog W 81 r) : ∃ x : Mv, r = x.cs ∧ True := by
  have hl := h.rdt.flen (i := 0) (ft := 3) (off := 0) (by kernel_rfl)
  rw [cz81] at hl
  match r, hl with
  | [x0, x1, x2, x3, x4, x5], _ =>
    have f0 := h.rdt.field (i := 0) (ft := 3) (off := 0) (by kernel_rfl)
    have f1 := h.rdt.field (i := 1) (ft := 4) (off := 1) (by kernel_rfl)
    have f2 := h.rdt.field (i := 2) (ft := 3) (off := 2) (by kernel_rfl)
    have f3 := h.rdt.field (i := 3) (ft := 3) (off := 3) (by kernel_rfl)
    have f4 := h.rdt.field (i := 4) (ft := 3) (off := 4) (by kernel_rfl)
    have f5 := h.rdt.field (i := 5) (ft := 4) (off := 5) (by kernel_rfl)
    rw [cz3] at f0 f2 f3 f4
    rw [cz4] at f1 f5
    obtain ⟨k0, e0, _⟩ := f0.int v3
    obtain ⟨k1, e1⟩ := f1.bool v4b
    obtain ⟨k2, e2, _⟩ := f2.int v3
    obtain ⟨k3, e3, _⟩ := f3.int v3
    obtain ⟨k4, e4, _⟩ := f4.int v3
    obtain ⟨k5, e5⟩ := f5.bool v4b
    simp only [List.drop_zero, List.take_succ_cons, List.take_zero, List.drop_succ_cons, List.cons.injEq, and_true] at e0 e1 e2 e3 e4 e5
    subst e0 e1 e2 e3 e4 e5
    exact ⟨⟨k0, k1, k2, k3, k4, k5⟩, rfl, trivial⟩
theorem open_machine {W : World} {r : List Value} (h : Rdb Tryz.prog W 26 r) : ∃ (m : Mch) (sf sm sl : Sl), r = mC m sf sm sl ∧ MI W.heap m sf sm sl := by
  have hl := h.rdt.flen (i := 0) (ft := 3) (off := 0) (by kernel_rfl)
  rw [cz26] at hl
  match r, hl with
  | [x0, x1, x2, x3, x4, x5], _ =>
    have f0 := h.rdt.field (i := 0) (ft := 3) (off := 0) (by kernel_rfl)
    have f1 := h.rdt.field (i := 1) (ft := 3) (off := 1) (by kernel_rfl)
    have f2 := h.rdt.field (i := 2) (ft := 3) (off := 2) (by kernel_rfl)
    have f3 := h.field (i := 3) (ft := 22) (off := 3) (by kernel_rfl)
    have f4 := h.field (i := 4) (ft := 23) (off := 4) (by kernel_rfl)
    have f5 := h.field (i := 5) (ft := 24) (off := 5) (by kernel_rfl)
    rw [cz3] at f0 f1 f2
    rw [cz22] at f3
    rw [cz23] at f4
    rw [cz24] at f5
    obtain ⟨k0, e0, _⟩ := f0.int v3
    obtain ⟨k1, e1, _⟩ := f1.int v3
    obtain ⟨k2, e2, _⟩ := f2.int v3
    obtain ⟨sf, lf, e3, hf, _⟩ := Rdb.list vs22 cz4 (by omega) (fun r hr => open_boolv hr) (show Rdb Tryz.prog W 22 [x3] from f3)
    obtain ⟨sm, lm, e4, hm, _⟩ := Rdb.list vs23 cz81 (by omega) (fun r hr => open_move hr) (show Rdb Tryz.prog W 23 [x4] from f4)
    obtain ⟨sl, ll, e5, hl, _⟩ := Rdb.list vs24 cz44 (by omega) (fun r hr => open_limit hr) (show Rdb Tryz.prog W 24 [x5] from f5)
    simp only [List.drop_zero, List.take_succ_cons, List.take_zero, List.drop_succ_cons, List.cons.injEq, and_true] at e0 e1 e2
    subst e0 e1 e2 e3 e4 e5
    exact ⟨⟨k0, k1, k2, lf, lm, ll⟩, sf, sm, sl, rfl, ⟨hf, hm, hl⟩⟩
end Go.VC
end
