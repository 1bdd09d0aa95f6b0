/- Texts of this claim, joined: RjF, RjI, RjJ, RjVcE, RjVcF, QjVcK, RjK, RjVcG, RjL, RjM, RjArgs. -/
import Derived.Test.YtkebghjhekoecaaGreatDoorM22
import Derived.Test.YtkebghjhekoecaaGreatDoorM14
import Derived.Test.YtkebghjhekoecaaGreatDoorM19
import Derived.Test.YtkebghjhekoecaaGreatDoorM02
import Derived.Test.YtkebghjhekoecaaGreatDoorProg
import Derived.KernelRfl
import Derived.Test.YtkebghjhekoecaaGreatDoorM04
import Derived.Test.YtkebghjhekoecaaGreatDoorM17
import Derived.Test.YtkebghjhekoecaaGreatDoorRows
set_option linter.unusedVariables false
set_option linter.unusedSimpArgs false

section
/- Contracts: the move of a state with an event; Next and Run. (Numbers of layer 26's seat.) -/
namespace Go.VC
open Go.Proofs Go.LexS
set_option maxRecDepth 100000
/-- an event of a history, with the header of its values -/
structure Hv where
  role : Int
  send : Bool
  peer : Int
  label : Int
  vs : Sl
def Hv.cs (x : Hv) : List Value := [.int .i64 x.role, .bool x.send, .int .i64 x.peer, .int .i64 x.label, .slice x.vs.a x.vs.n x.vs.c]
def Hv.ev (x : Hv) : Ev := ⟨x.send, x.peer, x.label⟩
/-- the state behind an event, or -1 -/
def nxE (m : Mch) (s : Int) (e : Ev) : Int := match m.mv.find? fun y => decide (y.f = s ∧ y.ev = e) with | some y => y.t | none => -1
def nxH (m : Mch) (s : Int) (x : Hv) : Int := if x.role = m.role then nxE m s x.ev else -1
theorem nxE_none {m : Mch} {s : Int} {e : Ev} (h : ∀ x ∈ m.mv, x.f = s → x.ev ≠ e) : nxE m s e = -1 := by
  unfold nxE
  have : (m.mv.find? fun y => decide (y.f = s ∧ y.ev = e)) = none := by
    rw [List.find?_eq_none]
    intro x hx hd
    have := of_decide_eq_true hd
    exact h x hx this.1 this.2
  rw [this]
theorem nxE_some {m : Mch} (hD : DetM m) {s : Int} {e : Ev} {k : Nat} {y : Mv} (hk : m.mv[k]? = some y) (hf : y.f = s) (he : y.ev = e) : nxE m s e = y.t := by
  unfold nxE
  cases hq : m.mv.find? fun y => decide (y.f = s ∧ y.ev = e) with
  | none =>
    rw [List.find?_eq_none] at hq
    exact absurd (decide_eq_true ⟨hf, he⟩) (hq y (List.mem_of_getElem? hk))
  | some z =>
    have hz := List.find?_some hq
    obtain ⟨j, hj⟩ := List.mem_iff_getElem?.1 (List.mem_of_find?_eq_some hq)
    have hz2 : z.f = s ∧ z.ev = e := of_decide_eq_true hz
    by_cases e1 : j = k
    · subst e1; rw [hk] at hj; cases hj; rfl
    · exact absurd (hz2.2.trans he.symm) (hD j k z y hj hk e1 (by rw [hz2.1, hf])).1
theorem order103 (m : Mch) (sm : Sl) (b k : Nat) (a : Addr) (x : Mv) (e : Ev) (h : Heap) (ha : hc h a = some (.pointer (some ⟨b, 0, none⟩))) (hb : hc h ⟨b, 0 + 4, none⟩ = some (.slice sm.a sm.n sm.c)) (hr : Rw h 6 sm (m.mv.map Mv.cs)) (hx : m.mv[k]? = some x) :
    Fn Tryz.prog 103 #[.int .i64 (k : Nat), .agg ⟨e.cs⟩, .pointer (some a)] h fun v h' => v = .int .i64 (cmpE x.ev e) ∧ Ext h h' := by
  apply vc103 _ e.send e.peer e.label; unfold W103
  have hn := hr.ln
  have hxl := (List.getElem?_eq_some_iff.1 hx).1
  refine (St.refl h).newb fun h4 hs => ?_
  refine ⟨_, hc_ext hs.ext ha, ?_⟩
  refine ⟨sm, hc_ext hs.ext hb, ?_⟩
  refine (hr.ext hs.ext).nbI (by omega) (by omega) fun b8 o9 x' gx t => ?_
  replace gx : m.mv[k]? = some x' := gx
  rw [hx] at gx; cases gx
  refine ⟨_, _, _, _, _, _, t, _, _, _, hs.at 0 rfl (o := 0) (n := 3) rfl, ?_⟩
  refine (M.of63 x h4).mono ?_
  rintro _ h23 ⟨rfl, E⟩
  have hs := hs.step E
  refine ⟨_, _, _, rfl, E.sm, ?_⟩
  refine (M.compare104 x.ev e h23).mono ?_
  rintro _ h26 ⟨rfl, E2⟩
  exact ⟨_, rfl, rfl, (hs.step E2).ext⟩
theorem cal103 : callable Tryz.prog 103 = true := by kernel_rfl
theorem mid_nat {i j : Nat} (hi : i ≤ 1048576) (hj : j ≤ 1048576) : IntKind.wrap .i64 (shrI .u64 (IntKind.wrap .u64 (IntKind.wrap .i64 ((i : Int) + (j : Int)))) 1) = (((i + j) / 2 : Nat) : Int) := by
  have e1 : IntKind.wrap .i64 ((i : Int) + (j : Int)) = ((i + j : Nat) : Int) := by rw [w64 (by omega) (by omega)]; omega
  have e2 : shrI .u64 ((i + j : Nat) : Int) 1 = (((i + j) / 2 ^ 1 : Nat) : Int) := shr_nat (k := 1) (by decide)
  rw [e1, wu64 (by omega) (by omega), e2, show (2 ^ 1 : Nat) = 2 from rfl, w64 (by omega) (by omega)]
theorem cmpE_zero {x y : Ev} (h : cmpE x y = 0) : x = y := by
  unfold cmpE at h
  split at h
  · split at h <;> omega
  · rename_i hs
    unfold orI3 at h
    split at h
    · rename_i h1; exact absurd h h1
    · rename_i h1
      exact ev_ext (Classical.not_not.1 hs) (cmpI_zero.1 (Classical.not_not.1 h1)) (cmpI_zero.1 h)
theorem search102 (m : Mch) (sm : Sl) (b c : Nat) (l : List Nat) (s : Sl) (e : Ev) (h : Heap) (ha : hc h ⟨c, 0, none⟩ = some (.pointer (some ⟨b, 0, none⟩))) (hb : hc h ⟨b, 0 + 4, none⟩ = some (.slice sm.a sm.n sm.c)) (hr : Rw h 6 sm (m.mv.map Mv.cs))
    (hl : Rw h 1 s ((natI l).map inC)) (hlm : ∀ k ∈ l, ∃ x, m.mv[k]? = some x) (hll : l.length ≤ 1048576) (hso : ∀ (j i : Nat) (a b : Nat), i < j → l[i]? = some a → l[j]? = some b → evLt (evI m a) (evI m b)) :
    Fn Tryz.prog 102 #[.slice s.a s.n s.c, .agg ⟨e.cs⟩, .func (.func 103) #[] #[.pointer (some ⟨c, 0, none⟩)]] h fun v h' => Ext h h' ∧ ∃ (i : Int) (f : Bool), v = .tuple ⟨[.int .i64 i, .bool f]⟩ ∧ (f = true → ∃ (j k : Nat), i = (j : Int) ∧ l[j]? = some k ∧ evI m k = e) ∧ (f = false → ∀ k ∈ l, evI m k ≠ e) := by
  apply vc102 s e.send e.peer e.label 103 (some ⟨c, 0, none⟩); unfold W102
  have hn := hl.ln
  rw [show (natI l).length = l.length from List.length_map _] at hn
  refine (St.refl h).newb fun h4 hs => ?_
  refine ⟨fun x y h' μ => ∃ i j : Nat, x = i ∧ y = j ∧ i ≤ j ∧ j ≤ s.n ∧ μ = j - i ∧ St h h' [.blk h.size e.cs 79] ∧ (∀ (t : Nat) k, t < i → l[t]? = some k → evLt (evI m k) e) ∧ ∀ (t : Nat) k, j ≤ t → l[t]? = some k → ¬ evLt (evI m k) e,
    ⟨_, 0, s.n, rfl, rfl, by omega, Nat.le_refl _, rfl, hs, fun t k ht => by omega, fun t k ht hk => by have := (List.getElem?_eq_some_iff.1 hk).1; omega⟩, ?_⟩
  clear hs
  rintro - _ _ h10 μ ⟨i, j, rfl, rfl, hij, hj, rfl, hs, hlo, hhi⟩
  refine sBi (fun c1 => ?_) (fun c1 => ?_)
  · rw [mid_nat (by omega) (by omega)]
    refine ⟨by decide, ?_⟩
    refine (hl.ext hs.ext).nbI (by omega) (by omega) fun b11 o12 d gd t => ?_
    replace gd : (natI l)[(i + j) / 2]? = some d := gd
    obtain ⟨k, hk, rfl⟩ := natI_get gd
    obtain ⟨x, hx⟩ := hlm k (List.mem_of_getElem? hk)
    refine ⟨_, t.nth 0 rfl, _, _, _, hs.at 0 rfl (o := 0) (n := 3) rfl, ?_⟩
    rw [cal103, cond_true]
    refine (order103 m sm b k ⟨c, 0, none⟩ x e h10 (hc_ext hs.ext ha) (hc_ext hs.ext hb) (hr.ext hs.ext) hx).mono ?_
    rintro _ h19 ⟨rfl, E⟩
    have hs := hs.step E
    have hev : evI m k = x.ev := evI_of hx
    refine ⟨_, rfl, sBi (fun c2 => ?_) (fun c2 => ?_)⟩
    · rw [cmpE_neg] at c2
      refine ⟨_, ?_, (i + j) / 2 + 1, j, by rw [w64 (by omega) (by omega)]; omega, rfl, by omega, hj, rfl, hs, fun t k' ht hk' => ?_, hhi⟩
      · omega
      · by_cases et : t = (i + j) / 2
        · subst et; rw [hk] at hk'; cases hk'; rw [hev]; exact c2
        · have h1 := hso ((i + j) / 2) t k' k (by omega) hk' hk
          rw [hev] at h1
          exact evLt_trans h1 c2
    · rw [cmpE_neg] at c2
      refine ⟨_, ?_, i, (i + j) / 2, rfl, rfl, by omega, by omega, rfl, hs, hlo, fun t k' ht hk' => ?_⟩
      · omega
      · by_cases et : t = (i + j) / 2
        · subst et; rw [hk] at hk'; cases hk'; rw [hev]; exact c2
        · have h1 := hso t ((i + j) / 2) k k' (by omega) hk hk'
          rw [hev] at h1
          exact fun h2 => c2 (evLt_trans h1 h2)
  · have hijj : i = j := by omega
    subst hijj
    refine sBi (fun c2 => ?_) (fun c2 => ⟨hs.ext, _, false, rfl, (fun hf => by cases hf), fun _ k hk he => ?_⟩)
    · refine (hl.ext hs.ext).nbI (by omega) (by omega) fun b22 o23 d gd t => ?_
      replace gd : (natI l)[i]? = some d := gd
      obtain ⟨k, hk, rfl⟩ := natI_get gd
      obtain ⟨x, hx⟩ := hlm k (List.mem_of_getElem? hk)
      refine ⟨_, t.nth 0 rfl, _, _, _, hs.at 0 rfl (o := 0) (n := 3) rfl, ?_⟩
      rw [cal103, cond_true]
      refine (order103 m sm b k ⟨c, 0, none⟩ x e h10 (hc_ext hs.ext ha) (hc_ext hs.ext hb) (hr.ext hs.ext) hx).mono ?_
      rintro _ h30 ⟨rfl, E⟩
      have hev : evI m k = x.ev := evI_of hx
      refine ⟨_, rfl, (hs.step E).ext, _, _, rfl, fun hf => ⟨i, k, rfl, hk, ?_⟩, fun hf k' hk' he => ?_⟩
      · have h0 : cmpE x.ev e = 0 := by simpa using hf
        rw [hev]
        exact cmpE_zero h0
      · have h0 : cmpE x.ev e ≠ 0 := by simpa using hf
        obtain ⟨t, ht⟩ := List.mem_iff_getElem?.1 hk'
        rcases Nat.lt_trichotomy t i with h1 | h1 | h1
        · have := hlo t k' h1 ht
          rw [he] at this
          exact evLt_irr _ this
        · subst h1
          rw [hk] at ht; cases ht
          rw [hev] at he
          apply h0
          rw [he]
          unfold cmpE orI3 cmpI
          simp
        · have h2 := hso t i k k' h1 hk ht
          rw [he, hev] at h2
          exact hhi i k (Nat.le_refl _) hk (by rw [hev]; exact h2)
    · obtain ⟨t, ht⟩ := List.mem_iff_getElem?.1 hk
      have htl := (List.getElem?_eq_some_iff.1 ht).1
      have := hlo t k (by omega) ht
      rw [he] at this
      exact evLt_irr _ this
theorem find48 (m : Mch) (sf sm sl : Sl) (b : Nat) (S : Nat → List Nat) (s : Int) (e : Ev) (h : Heap) (hM : MI h m sf sm sl) (hV : VM m) (hT : TbI h ⟨b, 0, none⟩ m sf sm sl S) (h0 : 0 ≤ s) (h1 : s < m.n) :
    Fn Tryz.prog 48 #[.pointer (some ⟨b, 0, none⟩), .int .i64 s, .agg ⟨e.cs⟩] h fun v h' => Ext h h' ∧ ((v = .int .i64 (-1) ∧ nxE m s e = -1) ∨ ∃ (k : Nat) (y : Mv), v = .int .i64 (k : Nat) ∧ m.mv[k]? = some y ∧ nxE m s e = y.t) := by
  apply vc48 ⟨b, 0, none⟩ s e.send e.peer e.label; unfold W48
  obtain ⟨ho, qs, _, hat, hhn, hho, hqs⟩ := hT.ex
  have hmn := hM.pm.ln
  have hmm := hM.pm.sm
  have hvl : s.toNat < m.n.toNat := by omega
  have hS := hT.so s.toNat hvl
  have hrow := hqs s.toNat hvl
  have hsi : ((s.toNat : Nat) : Int) = s := by omega
  refine (St.refl h).newb fun h4 hs => ?_
  refine hs.newb fun h5 hs => ?_
  refine ⟨_, hs.rd 1 rfl rfl, ?_⟩
  refine ⟨ho, (atC_ext hs.ext hat).nth 6 rfl, ?_⟩
  refine (hho.ext hs.ext).nbI (by omega) (by omega) fun b9 o10 v gv t => ?_
  have hv : v = s.toNat := by rw [List.getElem?_range hvl] at gv; exact (Option.some.inj gv).symm
  subst hv
  have hlm : ∀ k ∈ S s.toNat, ∃ x, m.mv[k]? = some x ∧ x.f = s := fun k hk => by
    obtain ⟨x, hx, hf⟩ := outIx_mem.1 (hS.p.mem_iff.1 hk)
    exact ⟨x, hx, by omega⟩
  have hll : (S s.toNat).length ≤ 1048576 := by
    rw [hS.p.length_eq]
    unfold outIx
    exact Nat.le_trans (List.length_filter_le _ _) (by rw [List.length_range]; omega)
  have hnd := hS.p.nodup_iff.2 (outIx_nodup m ((s.toNat : Nat) : Int))
  have hso : ∀ (j i : Nat) (a b : Nat), i < j → (S s.toNat)[i]? = some a → (S s.toNat)[j]? = some b → evLt (evI m a) (evI m b) := by
    refine srt_lt hS fun j a b ha hb => ?_
    obtain ⟨x, hx, hxf⟩ := hlm a (List.mem_of_getElem? ha)
    obtain ⟨y, hy, hyf⟩ := hlm b (List.mem_of_getElem? hb)
    have hne : a ≠ b := fun e => by
      have h1 := (List.getElem?_eq_some_iff.1 ha)
      have h2 := (List.getElem?_eq_some_iff.1 hb)
      have h3 := (List.pairwise_iff_getElem.1 hnd) j (j + 1) h1.1 h2.1 (by omega)
      rw [h1.2, h2.2] at h3
      exact h3 e
    rw [evI_of hx, evI_of hy]
    exact (hV.d a b x y hx hy hne (by omega)).1
  refine ⟨_, t.hd, _, _, _, hs.at 0 rfl (o := 0) (n := 3) rfl, ?_⟩
  refine (search102 m sm b h.size (S s.toNat) (qs s.toNat) e h5 (hs.rd 1 rfl rfl) ((atC_ext hs.ext hat).nth 4 rfl) (hM.pm.rw.ext hs.ext) (hrow.ext hs.ext) (fun k hk => (hlm k hk).imp fun x hx => hx.1) hll hso).mono ?_
  rintro _ h18 ⟨E, i, f, rfl, hft, hff⟩
  have hs := hs.step E
  refine ⟨_, _, rfl, sB_intro (fun c => ?_) (fun c => ?_)⟩
  · refine ⟨hs.ext, .inl ⟨rfl, nxE_none fun x hx hxf => ?_⟩⟩
    obtain ⟨k, hk⟩ := List.mem_iff_getElem?.1 hx
    have := hff (bF c) k (hS.p.mem_iff.2 (outIx_mem.2 ⟨x, hk, by omega⟩))
    rwa [evI_of hk] at this
  · obtain ⟨j, k, rfl, hjk, hev⟩ := hft (bT c)
    obtain ⟨x, hx, hxf⟩ := hlm k (List.mem_of_getElem? hjk)
    have hjl := (List.getElem?_eq_some_iff.1 hjk).1
    refine ⟨_, hs.rd 1 rfl rfl, ho, (atC_ext hs.ext hat).nth 6 rfl, ?_⟩
    refine (hho.ext hs.ext).nbI (by omega) (by omega) fun b22 o23 v gv t => ?_
    have hv : v = s.toNat := by rw [List.getElem?_range hvl] at gv; exact (Option.some.inj gv).symm
    subst hv
    have hrn := hrow.ln
    rw [show (natI (S s.toNat)).length = (S s.toNat).length from List.length_map _] at hrn
    refine ⟨_, t.hd, ?_⟩
    refine (hrow.ext hs.ext).nbI (by omega) (by omega) fun b25 o26 d gd t2 => ?_
    replace gd : (natI (S s.toNat))[j]? = some d := gd
    obtain ⟨k', hk', rfl⟩ := natI_get gd
    rw [hjk] at hk'; cases hk'
    refine ⟨_, t2.nth 0 rfl, hs.ext, .inr ⟨k, x, rfl, hx, nxE_some hV.d hx hxf ?_⟩⟩
    rw [← evI_of hx]; exact hev
theorem next19 (m : Mch) (sf sm sl : Sl) (s : Int) (e : Ev) (h : Heap) (hM : MI h m sf sm sl) :
    Fn Tryz.prog 19 #[.agg ⟨mC m sf sm sl⟩, .int .i64 s, .bool e.send, .int .i64 e.peer, .int .i64 e.label] h fun v h' => Ext h h' ∧ ((v = .tuple ⟨[.int .i64 0, .bool false]⟩ ∧ ¬ (VM m ∧ 0 ≤ s ∧ s < m.n ∧ 0 ≤ nxE m s e)) ∨ (v = .tuple ⟨[.int .i64 (nxE m s e), .bool true]⟩ ∧ VM m ∧ 0 ≤ s ∧ s < m.n ∧ 0 ≤ nxE m s e)) := by
  apply vc19 m.role m.n m.s sf sm sl; unfold W19
  have hmn := hM.pm.ln
  refine (St.refl h).newb fun h7 hs => ?_
  refine ⟨_, _, _, sf, sm, sl, hs.at 0 rfl (o := 0) (n := 6) rfl, ?_⟩
  refine (open47 m sf sm sl h7 (hM.ext hs.ext)).mono ?_
  rintro _ h17 ⟨E, p, b, rfl, hb, hbT⟩
  have hs := hs.step E
  refine ⟨_, _, rfl, sB_intro (fun c => ⟨hs.ext, .inl ⟨rfl, fun hG => iff_f hb (bF c) hG.1⟩⟩) (fun c => ?_)⟩
  obtain ⟨b0, S, rfl, hT⟩ := hbT (bT c)
  have hV := hb.1 (bT c)
  refine sBi (fun c1 => ⟨hs.ext, .inl ⟨rfl, fun hG => by omega⟩⟩) (fun c1 => ?_)
  refine ⟨_, hs.rd 0 rfl rfl, sBi (fun c2 => ⟨hs.ext, .inl ⟨rfl, fun hG => by omega⟩⟩) (fun c2 => ?_)⟩
  refine (find48 m sf sm sl b0 S s e h17 (hM.ext hs.ext) hV hT (by omega) (by omega)).mono ?_
  rintro _ h21 ⟨E, hr⟩
  have hs := hs.step E
  rcases hr with ⟨rfl, hn⟩ | ⟨k, y, rfl, hy, hn⟩
  · exact ⟨_, rfl, sBi (fun _ => ⟨hs.ext, .inl ⟨rfl, fun hG => by omega⟩⟩) (fun c3 => absurd (by decide) c3)⟩
  · have hyl := (List.getElem?_eq_some_iff.1 hy).1
    have hyr := hV.n.mv y (List.mem_of_getElem? hy)
    refine ⟨_, rfl, sBi (fun c3 => by omega) (fun _ => ?_)⟩
    refine ⟨sm, hs.rd 0 rfl rfl, ?_⟩
    refine (hM.pm.rw.ext hs.ext).nbI (by omega) (by omega) fun b23 o24 y' gy t => ?_
    replace gy : m.mv[k]? = some y' := gy
    rw [hy] at gy; cases gy
    exact ⟨_, t.nth 4 rfl, hs.ext, .inr ⟨by rw [hn], hV, by omega, by omega, by omega⟩⟩
/-- what a history does: the state, how many events, the error -/
def runN (m : Mch) : Int → Nat → List Hv → Int × Nat × Int
  | s, i, [] => (s, i, 0)
  | s, i, x :: l => if 0 ≤ nxH m s x then runN m (nxH m s x) (i + 1) l else (s, i, 23)
def runV (r : Int × Nat × Int) : Value := .tuple ⟨[.int .i64 r.1, .int .i64 (r.2.1 : Nat), .int .i64 r.2.2]⟩
/-- a new block that is filled at once, with what it leaves -/
theorem newput' {h0 h : Heap} {L : List It} {zs vs : List Value} {e : TypeId} {K : Heap → Prop} {n : Nat} (hn : n = vs.length) (hl : zs.length = vs.length) (hs : St h0 h L) (hK : ∀ h3, Ext h h3 → St h0 h3 (.blk h.size vs e :: L) → K h3) :
    ∀ h2 : Heap, h2 = h.push (.cells ⟨zs⟩ e) → okAt h2 ⟨h.size, 0, none⟩ n ∧ ∀ h3 : Heap, h3 = hputs h2 ⟨h.size, 0, none⟩ 0 vs → K h3 := by
  subst hn
  exact VC.newput hl fun h3 E o => hK h3 E (hs.more E (i := .blk h.size vs e) o fun b hb => by cases hb; exact Nat.le_refl _)
open Classical in
theorem run14 (m : Mch) (sf sm sl : Sl) (L : List Hv) (s : Sl) (h : Heap) (hM : MI h m sf sm sl) (hL : Rw h 5 s (L.map Hv.cs)) (hLm : L.length ≤ 1048576) :
    Fn Tryz.prog 14 #[.agg ⟨mC m sf sm sl⟩, .slice s.a s.n s.c] h fun v h' => v = runV (if VM m then runN m m.s 0 L else (0, 0, 1)) ∧ Ext h h' := by
  apply vc14 m.role m.n m.s sf sm sl; unfold W14
  have hmn := hM.pm.ln
  have hsn := hL.ln
  refine (St.refl h).newb fun h7 hs => ?_
  refine ⟨_, _, _, sf, sm, sl, hs.at 0 rfl (o := 0) (n := 6) rfl, ?_⟩
  refine (open47 m sf sm sl h7 (hM.ext hs.ext)).mono ?_
  rintro _ h17 ⟨E, p, b, rfl, hb, hbT⟩
  have hs := hs.step E
  refine ⟨_, _, rfl, sB_intro (fun c => ⟨by rw [if_neg (iff_f hb (bF c))]; rfl, hs.ext⟩) (fun c => ?_)⟩
  obtain ⟨b0, S, rfl, hT⟩ := hbT (bT c)
  have hV := hb.1 (bT c)
  rw [if_pos hV]
  have hms := hV.n.s
  refine ⟨_, hs.rd 0 rfl rfl, ?_⟩
  refine ⟨fun a x h' μ => ∃ i : Nat, x = i ∧ i ≤ s.n ∧ μ = s.n - i ∧ 0 ≤ a ∧ a < m.n ∧ runN m m.s 0 L = runN m a i (L.drop i) ∧ St h h' [.blk h.size (mC m sf sm sl) 26] ∧ TbI h' ⟨b0, 0, none⟩ m sf sm sl S, ⟨_, 0, rfl, by omega, rfl, hms.1, hms.2, rfl, hs, hT⟩, ?_⟩
  clear hs hT
  rintro - a _ h24 μ ⟨i, rfl, hi, rfl, ha0, ha1, hrun, hs, hT⟩
  refine sB_intro (fun c1 => ?_) (fun c1 => ?_)
  · replace c1 := lt_t c1
    refine (hL.ext hs.ext).nbI (by omega) (by omega) fun b25 o26 x gx t => ?_
    replace gx : L[i]? = some x := gx
    have hdr : L.drop i = x :: L.drop (i + 1) := drop_get gx
    rw [hdr, runN] at hrun
    refine ⟨_, _, _, _, _, t, ?_⟩
    refine newput' (vs := x.cs) rfl rfl hs fun h33 E33 hs => ?_
    have hT := hT.ext E33
    refine ⟨fun k h' => St h h' [.blk h24.size x.cs 37, .blk h.size (mC m sf sm sl) 26] ∧ TbI h' ⟨b0, 0, none⟩ m sf sm sl S ∧ ((k = -1 ∧ nxH m a x = -1) ∨ ∃ (kn : Nat) (y : Mv), k = (kn : Int) ∧ m.mv[kn]? = some y ∧ nxH m a x = y.t), ?_, ?_⟩
    · refine ⟨_, hs.rd 0 rfl rfl, _, hs.rd 1 rfl rfl, sBe (fun c2 => ?_) (fun c2 => ?_)⟩
      · refine ⟨_, hs.rd 0 rfl rfl, _, hs.rd 0 rfl rfl, _, hs.rd 0 rfl rfl, ?_⟩
        refine (find48 m sf sm sl b0 S a x.ev h33 (hM.ext hs.ext) hV hT ha0 ha1).mono ?_
        rintro _ h42 ⟨E, hr⟩
        have hnx : nxH m a x = nxE m a x.ev := by unfold nxH; rw [if_pos c2]
        rcases hr with ⟨rfl, hn⟩ | ⟨k, y, rfl, hy, hn⟩
        · exact ⟨_, rfl, hs.step E, hT.ext E, .inl ⟨rfl, by rw [hnx, hn]⟩⟩
        · exact ⟨_, rfl, hs.step E, hT.ext E, .inr ⟨k, y, rfl, hy, by rw [hnx, hn]⟩⟩
      · exact ⟨hs, hT, .inl ⟨rfl, by unfold nxH; rw [if_neg c2]⟩⟩
    · clear hs hT
      rintro - k h44 ⟨hs, hT, hk⟩
      rcases hk with ⟨rfl, hn⟩ | ⟨kn, y, rfl, hy, hn⟩
      · refine sBi (fun _ => ⟨?_, hs.ext⟩) (fun c3 => absurd (by decide) c3)
        rw [hrun, if_neg (by omega)]; rfl
      · have hyl := (List.getElem?_eq_some_iff.1 hy).1
        have hyr := hV.n.mv y (List.mem_of_getElem? hy)
        refine sBi (fun c3 => by omega) (fun _ => ?_)
        refine ⟨sm, hs.rd 1 rfl rfl, ?_⟩
        refine (hM.pm.rw.ext hs.ext).nbI (by omega) (by omega) fun b46 o47 y' gy t2 => ?_
        replace gy : m.mv[kn]? = some y' := gy
        rw [hy] at gy; cases gy
        refine ⟨_, t2.nth 4 rfl, s.n - (i + 1), by omega, i + 1, by rw [w64 (by omega) (by omega)]; omega, by omega, rfl, by omega, by omega, ?_, hs.drop 1, hT⟩
        rw [hrun, if_pos (by omega), hn]
  · replace c1 := lt_f c1
    have his : i = s.n := by omega
    subst his
    refine ⟨?_, hs.ext⟩
    rw [hrun, List.drop_eq_nil_of_le (by omega)]; rfl
end Go.VC
end

section
/- Contract: the laws of layer 26 are awake. -/
namespace Go.VC
open Go.Proofs Go.LexS
set_option maxRecDepth 100000
def exM : Mch := ⟨2, 4, 0, [false, false, false, true], [⟨0, false, 1, 0, 1, false⟩, ⟨0, false, 1, 1, 2, false⟩, ⟨1, true, 1, 2, 3, false⟩, ⟨2, true, 1, 3, 3, false⟩], []⟩
theorem ex_raw_true (hr hd he ht : Sl) : rawC (exGl true hr hd he ht) 2 = some (some exM, 0) := by kernel_rfl
theorem ex_min : minF exM = exM := by kernel_rfl
theorem ex_true (hr hd he ht : Sl) : proj (exGl true hr hd he ht) 2 = (some exM, 0) := by
  have := rawC_ok (ex_valid true hr hd he ht) (by decide) (show (2 : Int) < ((3 : Nat) : Int) by decide) (ex_raw_true hr hd he ht)
  unfold proj
  rw [this]
  show (some (minF exM), 0) = _
  rw [ex_min]
theorem exM_get (i : Nat) (x : Mv) (h : exM.mv[i]? = some x) : (i = 0 ∧ x = ⟨0, false, 1, 0, 1, false⟩) ∨ (i = 1 ∧ x = ⟨0, false, 1, 1, 2, false⟩) ∨ (i = 2 ∧ x = ⟨1, true, 1, 2, 3, false⟩) ∨ (i = 3 ∧ x = ⟨2, true, 1, 3, 3, false⟩) := by
  match i, h with
  | 0, h => exact .inl ⟨rfl, (Option.some.inj h).symm⟩
  | 1, h => exact .inr (.inl ⟨rfl, (Option.some.inj h).symm⟩)
  | 2, h => exact .inr (.inr (.inl ⟨rfl, (Option.some.inj h).symm⟩))
  | 3, h => exact .inr (.inr (.inr ⟨rfl, (Option.some.inj h).symm⟩))
  | n + 4, h => exact absurd h (by simp [exM])
theorem exM_mem (x : Mv) (h : x ∈ exM.mv) : x = ⟨0, false, 1, 0, 1, false⟩ ∨ x = ⟨0, false, 1, 1, 2, false⟩ ∨ x = ⟨1, true, 1, 2, 3, false⟩ ∨ x = ⟨2, true, 1, 3, 3, false⟩ := by
  obtain ⟨i, hi⟩ := List.mem_iff_getElem?.1 h
  rcases exM_get i x hi with ⟨_, e⟩ | ⟨_, e⟩ | ⟨_, e⟩ | ⟨_, e⟩
  · exact .inl e
  · exact .inr (.inl e)
  · exact .inr (.inr (.inl e))
  · exact .inr (.inr (.inr e))
theorem exM_ag (x : Mv) (h : x ∈ exM.mv) : x.ag = false := by
  rcases exM_mem x h with rfl | rfl | rfl | rfl <;> rfl
theorem exVM : VM exM := by
  refine ⟨⟨⟨by decide, by decide⟩, ⟨by decide, by decide⟩, ⟨by decide, by decide⟩, rfl, by decide, fun x hx => ?_⟩, fun i k x y hx hy hne hf => ?_, fun v h0 h1 => ?_, ⟨fun x hx ha => ?_, fun x hx ha => ?_, fun x hx ha => ?_, fun x hx ha => ?_, fun x hx ha => ?_⟩, fun i t h => ?_⟩
  · rcases exM_mem x hx with rfl | rfl | rfl | rfl <;> decide
  · rcases exM_get i x hx with ⟨rfl, rfl⟩ | ⟨rfl, rfl⟩ | ⟨rfl, rfl⟩ | ⟨rfl, rfl⟩ <;> rcases exM_get k y hy with ⟨rfl, rfl⟩ | ⟨rfl, rfl⟩ | ⟨rfl, rfl⟩ | ⟨rfl, rfl⟩ <;> first
      | exact absurd rfl hne
      | exact absurd hf (by decide)
      | exact ⟨fun e => absurd (congrArg Ev.label e) (by decide), rfl⟩
  · have q0 : Qr (meds exM) (-1) [exM.s] 0 := .base (List.mem_singleton.2 rfl)
    have q1 : Qr (meds exM) (-1) [exM.s] 1 := .step q0 ⟨⟨0, 0, 0, 0, 1, false⟩, List.mem_map.2 ⟨⟨0, false, 1, 0, 1, false⟩, by simp [exM], rfl⟩, rfl, rfl, rfl⟩
    have q2 : Qr (meds exM) (-1) [exM.s] 2 := .step q0 ⟨⟨0, 0, 0, 0, 2, false⟩, List.mem_map.2 ⟨⟨0, false, 1, 1, 2, false⟩, by simp [exM], rfl⟩, rfl, rfl, rfl⟩
    have q3 : Qr (meds exM) (-1) [exM.s] 3 := .step q1 ⟨⟨1, 0, 0, 0, 3, false⟩, List.mem_map.2 ⟨⟨1, true, 1, 2, 3, false⟩, by simp [exM], rfl⟩, rfl, rfl, rfl⟩
    have h1 : v < 4 := h1
    have : v = 0 ∨ v = 1 ∨ v = 2 ∨ v = 3 := by omega
    rcases this with rfl | rfl | rfl | rfl
    · exact q0
    · exact q1
    · exact q2
    · exact q3
  · rw [exM_ag x hx] at ha; cases ha
  · rw [exM_ag x hx] at ha; cases ha
  · rw [exM_ag x hx] at ha; cases ha
  · rw [exM_ag x hx] at ha; cases ha
  · rw [exM_ag x hx] at ha; cases ha
  · simp [exM] at h
def evA (l : Int) : Hv := ⟨2, false, 1, l, ⟨none, 0, 0⟩⟩
def evB : Hv := ⟨2, true, 1, 2, ⟨none, 0, 0⟩⟩
theorem ex_run0 : runN exM exM.s 0 [evA 0, evB] = (3, 2, 0) := by kernel_rfl
theorem ex_run1 : runN exM exM.s 0 [evA 1, evB] = (2, 1, 23) := by kernel_rfl
theorem hvrows (L : List Hv) : ∀ r ∈ L.map Hv.cs, r.length = 5 := fun r hr => by obtain ⟨x, _, rfl⟩ := List.mem_map.1 hr; rfl
set_option maxHeartbeats 1600000 in
theorem awake12 (h : Heap) (hx : Gx h) : Fn Tryz.prog 12 #[] h fun v h' => v = .bool true ∧ Ext h h' := by
  apply vc12; unfold W12
  have hs := St.refl h
  refine (example34 true h).mono ?_
  rintro _ h10 ⟨E10, hr, hd, he, rfl, hg⟩
  refine ⟨_, hr, hd, _, _, _, he, ⟨none, 0, 0⟩, rfl, ?_⟩
  refine (project12 _ 2 h10 hg (hx.ext E10)).mono ?_
  rintro _ h19 ⟨E19, hm⟩
  rw [ex_true] at hm
  cases hm with
  | err he0 _ => cases he0
  | @ok m sf sm sl he0 hs2 =>
    cases he0
    have hM : MI h19 exM sf sm sl := ⟨hs2.rl 0 rfl (by omega) (by decide), hs2.rl 1 rfl (by omega) (by decide), hs2.rl 2 rfl (by omega) (by decide)⟩
    have E0 : Ext h h19 := E10.trans E19
    refine ⟨_, _, _, sf, sm, sl, 0, rfl, ?_⟩
    refine (St.refl h19).newput (vs := mC exM sf sm sl) rfl rfl fun h21 hs => ?_
    refine hs.newb fun h22 hs => ?_
    refine hs.newb fun h23 hs => ?_
    refine hs.put 1 rfl (o := 0) (vs := (evA 0).cs) rfl (show 5 ≤ 5 by decide) fun h24 hs => ?_
    refine hs.put 0 rfl (o := 0) (vs := evB.cs) rfl (show 5 ≤ 5 by decide) fun h25 hs => ?_
    refine ⟨_, _, _, sf, sm, sl, hs.at 2 rfl (o := 0) (n := 6) rfl, _, _, _, _, ⟨none, 0, 0⟩, hs.at 1 rfl (o := 0) (n := 5) rfl, _, _, _, _, ⟨none, 0, 0⟩, hs.at 0 rfl (o := 0) (n := 5) rfl, ?_⟩
    refine hs.newb fun h42 hs => ?_
    have hs := hs.blkS 2 5 ([evA 0, evB].map Hv.cs) rfl (hvrows _) rfl (by decide)
    refine (run14 exM sf sm sl [evA 0, evB] _ h42 (hM.ext hs.ext) (hs.rows 0 rfl (by omega)) (by decide)).mono ?_
    rintro _ h47 ⟨rfl, E⟩
    have hs := hs.step E
    rw [if_pos exVM, ex_run0]
    refine ⟨_, _, _, rfl, ?_⟩
    refine hs.put 2 rfl (o := 3) (vs := [.int .i64 1]) rfl (show 3 + 1 ≤ 5 by decide) fun h48 hs => ?_
    refine ⟨_, _, _, sf, sm, sl, hs.at 3 rfl (o := 0) (n := 6) rfl, _, _, _, _, ⟨none, 0, 0⟩, hs.at 2 rfl (o := 0) (n := 5) rfl, _, _, _, _, ⟨none, 0, 0⟩, hs.at 1 rfl (o := 0) (n := 5) rfl, ?_⟩
    refine hs.newb fun h65 hs => ?_
    have hs := hs.blkS 2 5 ([evA 1, evB].map Hv.cs) rfl (hvrows _) rfl (by decide)
    refine (run14 exM sf sm sl [evA 1, evB] _ h65 (hM.ext hs.ext) (hs.rows 0 rfl (by omega)) (by decide)).mono ?_
    rintro _ h70 ⟨rfl, E⟩
    have hs := hs.step E
    rw [if_pos exVM, ex_run1]
    refine ⟨_, _, _, rfl, ?_⟩
    refine sB_t rfl (sB_t rfl (sB_t rfl (sB_t rfl (sB_t rfl ?_))))
    refine ⟨_, _, _, sf, sm, sl, hs.at 4 rfl (o := 0) (n := 6) rfl, ?_⟩
    refine (valid23 exM sf sm sl h70 (hM.ext hs.ext)).mono ?_
    rintro _ h79 ⟨⟨b, rfl, hb⟩, E⟩
    exact ⟨_, rfl, by rw [hb.2 exVM], E0.trans (hs.step E).ext⟩
end Go.VC
end

section
/- The walk of the law of histories step by step. (Numbers of layer 26's seat.) -/
namespace Go.VC
open Go.Proofs Go.LexS
set_option maxRecDepth 100000
theorem Rw.prefix {h : Heap} {k : Nat} {s : Sl} {rows : List (List Value)} (hr : Rw h k s rows) {i c : Nat} (hi : i ≤ s.n) : Rw h k ⟨s.a, i, c⟩ (rows.take i) := by
  have hn := hr.1
  refine ⟨by rw [List.length_take]; show i = _; omega, fun hp => ?_⟩
  rw [List.length_take] at hp
  obtain ⟨b, o, ha, hall⟩ := hr.2 (by omega)
  refine ⟨b, o, ha, fun j row hj => hall j row ?_⟩
  rw [List.getElem?_take] at hj
  split at hj
  · exact hj
  · cases hj
end Go.VC
end

section
namespace Go.VC
open Go.Proofs
set_option maxRecDepth 100000
set_option linter.unusedVariables false

def W3 (p0_1 p0_2 p0_3 : Int) (p0_4 p0_5 p0_6 : Sl) (p1_7 p1_8 p1_9 : Int) (p1_10 p1_11 p1_12 p2 : Sl) (h : Heap) (R : Value → Heap → Prop) : Prop :=
 (∀ h13 : Heap, h13 = h.push (.cells ⟨[.int .i64 p0_1, .int .i64 p0_2, .int .i64 p0_3, .slice p0_4.a p0_4.n p0_4.c, .slice p0_5.a p0_5.n p0_5.c, .slice p0_6.a p0_6.n p0_6.c]⟩ 26) →
 (∀ h14 : Heap, h14 = h13.push (.cells ⟨[.int .i64 p1_7, .int .i64 p1_8, .int .i64 p1_9, .slice p1_10.a p1_10.n p1_10.c, .slice p1_11.a p1_11.n p1_11.c, .slice p1_12.a p1_12.n p1_12.c]⟩ 26) →
 (Fn Tryz.prog 12 #[] h14
 (fun v15 h17 => ∃ x16 : Bool, v15 = .bool x16 ∧
 (sB (!x16)
 (R (.bool false) h17)
 ((∃ (x18 x19 x20 : Int) (x21 x22 x23 : Sl), atC h17 ⟨h.size, 0, none⟩ [.int .i64 x18, .int .i64 x19, .int .i64 x20, .slice x21.a x21.n x21.c, .slice x22.a x22.n x22.c, .slice x23.a x23.n x23.c] ∧
 (Fn Tryz.prog 13 #[.agg ⟨[.int .i64 x18, .int .i64 x19, .int .i64 x20, .slice x21.a x21.n x21.c, .slice x22.a x22.n x22.c, .slice x23.a x23.n x23.c]⟩] h17
 (fun v24 h26 => ∃ x25 : Bool, v24 = .bool x25 ∧
 (sB (!x25)
 (R (.bool true) h26)
 ((∃ (x27 x28 x29 : Int) (x30 x31 x32 : Sl), atC h26 ⟨h13.size, 0, none⟩ [.int .i64 x27, .int .i64 x28, .int .i64 x29, .slice x30.a x30.n x30.c, .slice x31.a x31.n x31.c, .slice x32.a x32.n x32.c] ∧
 (Fn Tryz.prog 13 #[.agg ⟨[.int .i64 x27, .int .i64 x28, .int .i64 x29, .slice x30.a x30.n x30.c, .slice x31.a x31.n x31.c, .slice x32.a x32.n x32.c]⟩] h26
 (fun v33 h35 => ∃ x34 : Bool, v33 = .bool x34 ∧
 (sB (!x34)
 (R (.bool true) h35)
 ((sB (decide ((p2.n : Int) > 30))
 (R (.bool true) h35)
 ((∃ (x36 x37 x38 : Int) (x39 x40 x41 : Sl), atC h35 ⟨h.size, 0, none⟩ [.int .i64 x36, .int .i64 x37, .int .i64 x38, .slice x39.a x39.n x39.c, .slice x40.a x40.n x40.c, .slice x41.a x41.n x41.c] ∧
 (Fn Tryz.prog 14 #[.agg ⟨[.int .i64 x36, .int .i64 x37, .int .i64 x38, .slice x39.a x39.n x39.c, .slice x40.a x40.n x40.c, .slice x41.a x41.n x41.c]⟩, .slice p2.a p2.n p2.c] h35
 (fun v42 h46 => ∃ (x43 x44 x45 : Int), v42 = .tuple ⟨[.int .i64 x43, .int .i64 x44, .int .i64 x45]⟩ ∧
 (∃ (x47 x48 x49 : Int) (x50 x51 x52 : Sl), atC h46 ⟨h.size, 0, none⟩ [.int .i64 x47, .int .i64 x48, .int .i64 x49, .slice x50.a x50.n x50.c, .slice x51.a x51.n x51.c, .slice x52.a x52.n x52.c] ∧
 (Fn Tryz.prog 15 #[.agg ⟨[.int .i64 x47, .int .i64 x48, .int .i64 x49, .slice x50.a x50.n x50.c, .slice x51.a x51.n x51.c, .slice x52.a x52.n x52.c]⟩, .slice p2.a p2.n p2.c] h46
 (fun v53 h57 => ∃ (x54 x55 x56 : Int), v53 = .tuple ⟨[.int .i64 x54, .int .i64 x55, .int .i64 x56]⟩ ∧
 (sB (x43 == x54)
 ((sB (x44 == x55)
 ((sB (x45 == x56)
 ((∃ (x58 x59 x60 : Int) (x61 x62 x63 : Sl), atC h57 ⟨h.size, 0, none⟩ [.int .i64 x58, .int .i64 x59, .int .i64 x60, .slice x61.a x61.n x61.c, .slice x62.a x62.n x62.c, .slice x63.a x63.n x63.c] ∧
 (∃ (x64 x65 x66 : Int) (x67 x68 x69 : Sl), atC h57 ⟨h13.size, 0, none⟩ [.int .i64 x64, .int .i64 x65, .int .i64 x66, .slice x67.a x67.n x67.c, .slice x68.a x68.n x68.c, .slice x69.a x69.n x69.c] ∧
 (∃ (x70 x71 x72 : Int) (x73 x74 x75 : Sl), atC h57 ⟨h.size, 0, none⟩ [.int .i64 x70, .int .i64 x71, .int .i64 x72, .slice x73.a x73.n x73.c, .slice x74.a x74.n x74.c, .slice x75.a x75.n x75.c] ∧
 (∃ (x76 x77 x78 : Int) (x79 x80 x81 : Sl), atC h57 ⟨h13.size, 0, none⟩ [.int .i64 x76, .int .i64 x77, .int .i64 x78, .slice x79.a x79.n x79.c, .slice x80.a x80.n x80.c, .slice x81.a x81.n x81.c] ∧
 (Fn Tryz.prog 16 #[.agg ⟨[.int .i64 x58, .int .i64 x59, .int .i64 x60, .slice x61.a x61.n x61.c, .slice x62.a x62.n x62.c, .slice x63.a x63.n x63.c]⟩, .agg ⟨[.int .i64 x64, .int .i64 x65, .int .i64 x66, .slice x67.a x67.n x67.c, .slice x68.a x68.n x68.c, .slice x69.a x69.n x69.c]⟩] h57
 (fun v82 h84 => ∃ x83 : Bool, v82 = .bool x83 ∧
 (Sm [⟨h13.size, 0, none⟩, ⟨h.size, 0, none⟩] h57 h84 ∧
 (Fn Tryz.prog 17 #[.agg ⟨[.int .i64 x70, .int .i64 x71, .int .i64 x72, .slice x73.a x73.n x73.c, .slice x74.a x74.n x74.c, .slice x75.a x75.n x75.c]⟩, .agg ⟨[.int .i64 x76, .int .i64 x77, .int .i64 x78, .slice x79.a x79.n x79.c, .slice x80.a x80.n x80.c, .slice x81.a x81.n x81.c]⟩] h84
 (fun v85 h87 => ∃ x86 : Bool, v85 = .bool x86 ∧
 (Sm [⟨h13.size, 0, none⟩, ⟨h.size, 0, none⟩] h84 h87 ∧
 (sB (x83 == x86)
 ((∃ (x88 x89 x90 : Int) (x91 x92 x93 : Sl), atC h87 ⟨h.size, 0, none⟩ [.int .i64 x88, .int .i64 x89, .int .i64 x90, .slice x91.a x91.n x91.c, .slice x92.a x92.n x92.c, .slice x93.a x93.n x93.c] ∧
 (∃ (x94 x95 x96 : Int) (x97 x98 x99 : Sl), atC h87 ⟨h.size, 0, none⟩ [.int .i64 x94, .int .i64 x95, .int .i64 x96, .slice x97.a x97.n x97.c, .slice x98.a x98.n x98.c, .slice x99.a x99.n x99.c] ∧
 (Fn Tryz.prog 16 #[.agg ⟨[.int .i64 x88, .int .i64 x89, .int .i64 x90, .slice x91.a x91.n x91.c, .slice x92.a x92.n x92.c, .slice x93.a x93.n x93.c]⟩, .agg ⟨[.int .i64 x94, .int .i64 x95, .int .i64 x96, .slice x97.a x97.n x97.c, .slice x98.a x98.n x98.c, .slice x99.a x99.n x99.c]⟩] h87
 (fun v100 h102 => ∃ x101 : Bool, v100 = .bool x101 ∧
 (Sm [⟨h13.size, 0, none⟩, ⟨h.size, 0, none⟩, ⟨h13.size, 0, none⟩, ⟨h.size, 0, none⟩] h87 h102 ∧
 R (.bool x101) h102))))))
 (R (.bool false) h87)))))))))))))
 (R (.bool false) h57)))
 (R (.bool false) h57)))
 (R (.bool false) h57))))))))))))))))))))))))))
/- farandole/farandoleref26.From
 loop rlrb: state_11:Int, i_12:Int -/
/- farandole/farandoleref25.Same
 loop rrrrlrb: i_70:Int
 loop rrrlrb: i_45:Int
 loop rrlrb: i_30:Int -/
def W21 (p0_1 p0_2 p0_3 : Int) (p0_4 p0_5 p0_6 : Sl) (p1 : Int) (h : Heap) (R : Value → Heap → Prop) : Prop :=
 (∀ h7 : Heap, h7 = h.push (.cells ⟨[.int .i64 p0_1, .int .i64 p0_2, .int .i64 p0_3, .slice p0_4.a p0_4.n p0_4.c, .slice p0_5.a p0_5.n p0_5.c, .slice p0_6.a p0_6.n p0_6.c]⟩ 26) →
 (∀ h8 : Heap, h8 = h7.push (.cells ⟨[.int .i64 p1]⟩ 3) →
 (∀ h9 : Heap, h9 = h8.push (.cells ⟨[.int .i64 0, .int .i64 0, .int .i64 0]⟩ 44) →
 (∃ (x10 x11 x12 : Int) (x13 x14 x15 : Sl), atC h9 ⟨h.size, 0, none⟩ [.int .i64 x10, .int .i64 x11, .int .i64 x12, .slice x13.a x13.n x13.c, .slice x14.a x14.n x14.c, .slice x15.a x15.n x15.c] ∧
 (Fn Tryz.prog 23 #[.agg ⟨[.int .i64 x10, .int .i64 x11, .int .i64 x12, .slice x13.a x13.n x13.c, .slice x14.a x14.n x14.c, .slice x15.a x15.n x15.c]⟩] h9
 (fun v16 h18 => ∃ x17 : Bool, v16 = .bool x17 ∧
 (sB (!x17)
 ((okAt h18 ⟨h8.size, 0, none⟩ 3 ∧ ∀ h19 : Heap, h19 = hputs h18 ⟨h8.size, 0, none⟩ 0 [.int .i64 0, .int .i64 0, .int .i64 0] →
 (∃ (x20 x21 x22 : Int), atC h19 ⟨h8.size, 0, none⟩ [.int .i64 x20, .int .i64 x21, .int .i64 x22] ∧
 R (.tuple ⟨[.agg ⟨[.int .i64 x20, .int .i64 x21, .int .i64 x22]⟩, .bool false]⟩) h19)))
 ((∃ x23 : Sl, hc h18 ⟨h.size, 5, none⟩ = some (.slice x23.a x23.n x23.c) ∧
 (Fn Tryz.prog 55 #[.slice x23.a x23.n x23.c, .func (.func 56) #[] #[.pointer (some ⟨h7.size, 0, none⟩)]] h18
 (fun v24 h26 => ∃ x25 : Int, v24 = .int .i64 x25 ∧
 (sB (decide (x25 < 0))
 ((okAt h26 ⟨h8.size, 0, none⟩ 3 ∧ ∀ h27 : Heap, h27 = hputs h26 ⟨h8.size, 0, none⟩ 0 [.int .i64 0, .int .i64 0, .int .i64 0] →
 (∃ (x28 x29 x30 : Int), atC h27 ⟨h8.size, 0, none⟩ [.int .i64 x28, .int .i64 x29, .int .i64 x30] ∧
 R (.tuple ⟨[.agg ⟨[.int .i64 x28, .int .i64 x29, .int .i64 x30]⟩, .bool false]⟩) h27)))
 ((∃ x31 : Sl, hc h26 ⟨h.size, 5, none⟩ = some (.slice x31.a x31.n x31.c) ∧
 (NB x31.a fun b32 o33 => ((0 ≤ (x25 : Int) ∧ (x25 : Int) < (x31.n : Nat)) ∧
 (∃ (x34 x35 x36 : Int), atC h26 ⟨b32, o33 + Int.toNat x25 * 3, none⟩ [.int .i64 x34, .int .i64 x35, .int .i64 x36] ∧
 (okAt h26 ⟨h8.size, 0, none⟩ 3 ∧ ∀ h37 : Heap, h37 = hputs h26 ⟨h8.size, 0, none⟩ 0 [.int .i64 x34, .int .i64 x35, .int .i64 x36] →
 (∃ (x38 x39 x40 : Int), atC h37 ⟨h8.size, 0, none⟩ [.int .i64 x38, .int .i64 x39, .int .i64 x40] ∧
 R (.tuple ⟨[.agg ⟨[.int .i64 x38, .int .i64 x39, .int .i64 x40]⟩, .bool true]⟩) h37)))))))))))))))))))
theorem vc21 (p0_1 p0_2 p0_3 : Int) (p0_4 p0_5 p0_6 : Sl) (p1 : Int) (h : Heap) (R : Value → Heap → Prop) (H : W21 p0_1 p0_2 p0_3 p0_4 p0_5 p0_6 p1 h R) : Fn Tryz.prog 21 #[.agg ⟨[.int .i64 p0_1, .int .i64 p0_2, .int .i64 p0_3, .slice p0_4.a p0_4.n p0_4.c, .slice p0_5.a p0_5.n p0_5.c, .slice p0_6.a p0_6.n p0_6.c]⟩, .int .i64 p1] h R := fnI (A := .z) (by kernel_rfl) H

end Go.VC
end

section
namespace Go.VC
open Go.Proofs
set_option maxRecDepth 100000
set_option linter.unusedVariables false

/- slices.Equal[[]bool,bool]
 loop rrlrb: x_4:Int -/
/- slices.Equal[[]farandole/api.Move,farandole/api.Move]
 loop rrlrb: x_4:Int -/
/- slices.Equal[[]farandole/api.Timeout,farandole/api.Timeout]
 loop rrlrb: x_4:Int -/
end Go.VC
end

section
namespace Go.VC
open Go.Proofs
set_option maxRecDepth 100000
set_option linter.unusedVariables false

/- farandole/farandoleref25.Next
 loop rlrb: i_17:Int -/
def W54 (p0_1 p0_2 p0_3 : Int) (p0_4 p0_5 p0_6 : Sl) (p1 p2_7 : Int) (p2_8 : Bool) (p2_9 p2_10 : Int) (p2_11 : Sl) (h : Heap) (R : Value → Heap → Prop) : Prop :=
 (∀ h12 : Heap, h12 = h.push (.cells ⟨[.int .i64 p0_1, .int .i64 p0_2, .int .i64 p0_3, .slice p0_4.a p0_4.n p0_4.c, .slice p0_5.a p0_5.n p0_5.c, .slice p0_6.a p0_6.n p0_6.c]⟩ 26) →
 (∀ h13 : Heap, h13 = h12.push (.cells ⟨[.int .i64 p2_7, .bool p2_8, .int .i64 p2_9, .int .i64 p2_10, .slice p2_11.a p2_11.n p2_11.c]⟩ 37) →
 (∃ I14 : Int → Heap → Nat → Prop, (∃ m15, I14 0 h13 m15) ∧
 (∀ (_ : Env) (i_17 : Int) (h18 : Heap) (m16 : Nat), I14 i_17 h18 m16 →
 (∃ x19 : Sl, hc h18 ⟨h.size, 4, none⟩ = some (.slice x19.a x19.n x19.c) ∧
 (sB (decide (i_17 < (x19.n : Int)))
 ((∃ x20 : Sl, hc h18 ⟨h.size, 4, none⟩ = some (.slice x20.a x20.n x20.c) ∧
 (NB x20.a fun b21 o22 => ((0 ≤ (i_17 : Int) ∧ (i_17 : Int) < (x20.n : Nat)) ∧
 (∃ (x23 : Int) (x24 : Bool) (x25 x26 x27 : Int) (x28 : Bool), atC h18 ⟨b21, o22 + Int.toNat i_17 * 6, none⟩ [.int .i64 x23, .bool x24, .int .i64 x25, .int .i64 x26, .int .i64 x27, .bool x28] ∧
 (∀ h29 : Heap, h29 = h18.push (.cells ⟨[.int .i64 0, .bool false, .int .i64 0, .int .i64 0, .int .i64 0, .bool false]⟩ 81) →
 (okAt h29 ⟨h18.size, 0, none⟩ 6 ∧ ∀ h30 : Heap, h30 = hputs h29 ⟨h18.size, 0, none⟩ 0 [.int .i64 x23, .bool x24, .int .i64 x25, .int .i64 x26, .int .i64 x27, .bool x28] →
 (∃ x31 : Int, hc h30 ⟨h12.size, 0, none⟩ = some (.int .i64 x31) ∧
 (∃ x32 : Int, hc h30 ⟨h.size, 0, none⟩ = some (.int .i64 x32) ∧
 (sB (x31 == x32)
 ((∃ x33 : Int, hc h30 ⟨h18.size, 0, none⟩ = some (.int .i64 x33) ∧
 (sB (x33 == p1)
 ((∃ x34 : Bool, hc h30 ⟨h18.size, 1, none⟩ = some (.bool x34) ∧
 (∃ x35 : Bool, hc h30 ⟨h12.size, 1, none⟩ = some (.bool x35) ∧
 (sB (x34 == x35)
 ((∃ x36 : Int, hc h30 ⟨h18.size, 2, none⟩ = some (.int .i64 x36) ∧
 (∃ x37 : Int, hc h30 ⟨h12.size, 2, none⟩ = some (.int .i64 x37) ∧
 (sB (x36 == x37)
 ((∃ x38 : Int, hc h30 ⟨h18.size, 3, none⟩ = some (.int .i64 x38) ∧
 (∃ x39 : Int, hc h30 ⟨h12.size, 3, none⟩ = some (.int .i64 x39) ∧
 (sB (x38 == x39)
 ((∃ x40 : Int, hc h30 ⟨h18.size, 4, none⟩ = some (.int .i64 x40) ∧
 R (.int .i64 x40) h30))
 ((∃ m41, m41 < m16 ∧ I14 (IntKind.wrap .i64 (i_17 + 1)) h30 m41))))))
 ((∃ m42, m42 < m16 ∧ I14 (IntKind.wrap .i64 (i_17 + 1)) h30 m42))))))
 ((∃ m43, m43 < m16 ∧ I14 (IntKind.wrap .i64 (i_17 + 1)) h30 m43))))))
 ((∃ m44, m44 < m16 ∧ I14 (IntKind.wrap .i64 (i_17 + 1)) h30 m44)))))
 ((∃ m45, m45 < m16 ∧ I14 (IntKind.wrap .i64 (i_17 + 1)) h30 m45))))))))))))
 (R (.int .i64 (-1)) h18)))))))
theorem vc54 (p0_1 p0_2 p0_3 : Int) (p0_4 p0_5 p0_6 : Sl) (p1 p2_7 : Int) (p2_8 : Bool) (p2_9 p2_10 : Int) (p2_11 : Sl) (h : Heap) (R : Value → Heap → Prop) (H : W54 p0_1 p0_2 p0_3 p0_4 p0_5 p0_6 p1 p2_7 p2_8 p2_9 p2_10 p2_11 h R) : Fn Tryz.prog 54 #[.agg ⟨[.int .i64 p0_1, .int .i64 p0_2, .int .i64 p0_3, .slice p0_4.a p0_4.n p0_4.c, .slice p0_5.a p0_5.n p0_5.c, .slice p0_6.a p0_6.n p0_6.c]⟩, .int .i64 p1, .agg ⟨[.int .i64 p2_7, .bool p2_8, .int .i64 p2_9, .int .i64 p2_10, .slice p2_11.a p2_11.n p2_11.c]⟩] h R := fnI (A := (.s .z (.s (.s .z (.b (.l [(7, .one (.int .i64))] .z))) .z))) (by kernel_rfl) H

/- farandole/farandoleref18.names
 loop rlrb: i_13:Int -/
/- farandole/farandoleref18.numbers
 loop rlrb: i_13:Int -/
/- farandole/farandoleref18.apart
 loop rlrborlbrrrb: k_33:Int
 loop rlrborlbrrrb: k_92:Int
 loop rlrb: i_13:Int -/
/- farandole/farandoleref18.connected
 loop rrrlrborlbrb: i_23:Int
 loop rrrrrlrb: s_59:Int
 loop rrrlrb: n_17:Int -/
/- farandole/farandoleref18.timed
 loop rlrb: i_13:Int -/
/- farandole/farandoleref18.index
 loop rlrb: i_4:Int -/
/- farandole/farandoleref14.Valid
 loop rrrlrborlbrrlrborlbrrb: j_54:Int
 loop rrrlrborlbrrlrb: k_32:Int
 loop rrrlrborlbrlrb: k_22:Int
 loop rrrlrb: first_7:Int, i_8:Int -/
/- farandole/farandoleref18.ends
 loop rrrrlrborlbrb: i_31:Int
 loop rrrrlrb: n_25:Int
 loop rrlrb: s_15:Int -/
/- farandole/farandoleref18.Edges
 loop rrlrborlbrrlb: at_25:Int
 loop rrlrb: out_13:Sl, i_14:Int -/
/- farandole/farandoleref09.IsName
 loop rrlrb: i_7:Int -/
/- farandole/farandoleref09.in
 loop rlrb: i_4:Int -/
/- farandole/farandoleref14.Vars
 loop rrlrb: n_4:Int, i_5:Int -/
/- farandole/farandoleref14.goodSort
 join rr: least_7:Int, most_8:Int -/
/- farandole/farandoleref10.IsPath
 loop rrlrb: from_4:Int, i_5:Int -/
/- farandole/farandoleref14.goodGuard
 loop rrrlrb: i_31:Int
 loop rrlrb: i_10:Int -/
/- farandole/farandoleref14.Field
 loop rlrb: x_5:Int, i_6:Int -/
end Go.VC
end

section
/- Contracts: the reference's Next and Run; equality of machines on both sides; the walk of the law of runs. (Numbers of layer 26's seat.) -/
namespace Go.VC
open Go.Proofs Go.LexS
set_option maxRecDepth 100000
namespace M
theorem first_hit {α : Type} {p : α → Bool} : ∀ (l : List α) (i : Nat) (y : α), l[i]? = some y → p y = true → (∀ (j : Nat) z, j < i → l[j]? = some z → p z = false) → l.find? p = some y
  | [], i, y, h, _, _ => by simp at h
  | a :: l, 0, y, h, hp, _ => by simp at h; subst h; rw [List.find?_cons, hp]
  | a :: l, i + 1, y, h, hp, hn => by
    rw [List.find?_cons, hn 0 a (by omega) rfl]
    exact first_hit l i y (by simpa using h) hp fun j z hj hz => hn (j + 1) z (by omega) (by simpa using hz)
end M
theorem refNext54 (m : Mch) (sf sm sl : Sl) (s : Int) (x : Hv) (h : Heap) (hM : MI h m sf sm sl) :
    Fn Tryz.prog 54 #[.agg ⟨mC m sf sm sl⟩, .int .i64 s, .agg ⟨x.cs⟩] h fun v h' => v = .int .i64 (nxH m s x) ∧ Ext h h' := by
  apply vc54 m.role m.n m.s sf sm sl s x.role x.send x.peer x.label x.vs; unfold W54
  have hmn := hM.pm.ln
  have hmb := hM.pm.sm
  refine (St.refl h).newb fun h12 hs => ?_
  refine hs.newb fun h13 hs => ?_
  refine up_loopS (n := sm.n) hs (fun i => ∀ (j : Nat) y, j < i → m.mv[j]? = some y → ¬ (x.role = m.role ∧ y.f = s ∧ y.ev = x.ev)) (fun j y hj => by omega) ?_
  rintro - i h18 hi ⟨hs, hq⟩
  refine ⟨sm, hs.rd 1 rfl rfl, sB_intro (fun c => ?_) (fun c => ?_)⟩
  · replace c := lt_t c
    refine ⟨sm, hs.rd 1 rfl rfl, ?_⟩
    refine (hM.pm.rw.ext hs.ext).nbI (by omega) (by omega) fun b o y gy t => ?_
    replace gy : m.mv[i]? = some y := gy
    refine ⟨_, _, _, _, _, _, t, ?_⟩
    refine hs.newput (vs := y.cs) rfl rfl fun h30 hs => ?_
    have miss : ¬ (x.role = m.role ∧ y.f = s ∧ y.ev = x.ev) → ∃ m41, m41 < sm.n - i ∧ Up sm.n (fun i h' => St h h' [.blk h12.size x.cs 37, .blk h.size (mC m sf sm sl) 26] ∧ ∀ (j : Nat) y, j < i → m.mv[j]? = some y → ¬ (x.role = m.role ∧ y.f = s ∧ y.ev = x.ev)) (IntKind.wrap .i64 ((i : Int) + 1)) h30 m41 := fun hn =>
      Up.next c (by omega) ⟨hs.drop 1, fun j z hj hz => by
        by_cases e : j = i
        · subst e; rw [gy] at hz; cases hz; exact hn
        · exact hq j z (by omega) hz⟩
    refine ⟨_, hs.rd 1 rfl rfl, _, hs.rd 2 rfl rfl, sBe (fun c1 => ?_) (fun c1 => miss fun e => c1 e.1)⟩
    refine ⟨_, hs.rd 0 rfl rfl, sBe (fun c2 => ?_) (fun c2 => miss fun e => c2 e.2.1)⟩
    refine ⟨_, hs.rd 0 rfl rfl, _, hs.rd 1 rfl rfl, sB_intro (fun c3 => ?_) (fun c3 => miss fun e => by have := congrArg Ev.send e.2.2; rw [show y.send = x.send from this] at c3; simp at c3)⟩
    refine ⟨_, hs.rd 0 rfl rfl, _, hs.rd 1 rfl rfl, sBe (fun c4 => ?_) (fun c4 => miss fun e => c4 (congrArg Ev.peer e.2.2))⟩
    refine ⟨_, hs.rd 0 rfl rfl, _, hs.rd 1 rfl rfl, sBe (fun c5 => ?_) (fun c5 => miss fun e => c5 (congrArg Ev.label e.2.2))⟩
    refine ⟨_, hs.rd 0 rfl rfl, ?_, hs.ext⟩
    have c3' : y.send = x.send := by simpa using c3
    have hev : y.ev = x.ev := ev_ext c3' c4 c5
    unfold nxH nxE
    rw [if_pos c1, M.first_hit m.mv i y gy (decide_eq_true ⟨c2, hev⟩) fun j z hj hz => decide_eq_false fun e => hq j z hj hz ⟨c1, e.1, e.2⟩]
  · replace c := lt_f c
    refine ⟨?_, hs.ext⟩
    unfold nxH
    split
    · rename_i hr
      rw [nxE_none fun y hy hf he => ?_]
      obtain ⟨j, hj⟩ := List.mem_iff_getElem?.1 hy
      exact hq j y (by have := (List.getElem?_eq_some_iff.1 hj).1; omega) hj ⟨hr, hf, he⟩
    · rfl
end Go.VC
end

section
namespace Go.VC
open Go.Proofs
set_option maxRecDepth 100000
set_option linter.unusedVariables false

/- slices.IndexFunc[[]farandole/api.Timeout,farandole/api.Timeout]
 loop rlrb: x_4:Int -/
def W55 (p0 : Sl) (p1 : FuncId) (p1c : Option Addr) (h : Heap) (R : Value → Heap → Prop) : Prop :=
 (∃ I1 : Int → Heap → Nat → Prop, (∃ m2, I1 0 h m2) ∧
 (∀ (_ : Env) (x_4 : Int) (h5 : Heap) (m3 : Nat), I1 x_4 h5 m3 →
 (sB (decide (x_4 < (p0.n : Int)))
 ((NB p0.a fun b6 o7 => ((0 ≤ (x_4 : Int) ∧ (x_4 : Int) < (p0.n : Nat)) ∧
 (∃ (x8 x9 x10 : Int), atC h5 ⟨b6, o7 + Int.toNat x_4 * 3, none⟩ [.int .i64 x8, .int .i64 x9, .int .i64 x10] ∧
 (bif callable Tryz.prog p1 then Fn Tryz.prog p1 #[.agg ⟨[.int .i64 x8, .int .i64 x9, .int .i64 x10]⟩, .pointer p1c] h5
 (fun v11 h13 => ∃ x12 : Bool, v11 = .bool x12 ∧
 (sB x12
 (R (.int .i64 x_4) h13)
 ((∃ m14, m14 < m3 ∧ I1 (IntKind.wrap .i64 (x_4 + 1)) h13 m14)))) else ExtW Tryz.prog p1 #[.agg ⟨[.int .i64 x8, .int .i64 x9, .int .i64 x10]⟩, .pointer p1c] h5
 (fun v11 h13 => ∃ x12 : Bool, v11 = .bool x12 ∧
 (sB x12
 (R (.int .i64 x_4) h13)
 ((∃ m14, m14 < m3 ∧ I1 (IntKind.wrap .i64 (x_4 + 1)) h13 m14)))))))))
 (R (.int .i64 (-1)) h5))))
theorem vc55 (p0 : Sl) (p1 : FuncId) (p1c : Option Addr) (h : Heap) (R : Value → Heap → Prop) (H : W55 p0 p1 p1c h R) : Fn Tryz.prog 55 #[.slice p0.a p0.n p0.c, .func (.func p1) #[] #[.pointer p1c]] h R := fnI (A := (.s .z (.s (.s .z (.b (.l [(8, .one (.int .i64))] .z))) .z))) (by kernel_rfl) H

def W56 (p0_1 p0_2 p0_3 : Int) (c0 : Addr) (h : Heap) (R : Value → Heap → Prop) : Prop :=
 (∀ h4 : Heap, h4 = h.push (.cells ⟨[.int .i64 p0_1, .int .i64 p0_2, .int .i64 p0_3]⟩ 44) →
 (∃ x5 : Int, hc h4 ⟨h.size, 0, none⟩ = some (.int .i64 x5) ∧
 (∃ x6 : Int, hc h4 c0 = some (.int .i64 x6) ∧
 R (.bool (x5 == x6)) h4)))
theorem vc56 (p0_1 p0_2 p0_3 : Int) (c0 : Addr) (h : Heap) (R : Value → Heap → Prop) (H : W56 p0_1 p0_2 p0_3 c0 h R) : Fn Tryz.prog 56 #[.agg ⟨[.int .i64 p0_1, .int .i64 p0_2, .int .i64 p0_3]⟩, .pointer (some c0)] h R := fnI (A := .z) (by kernel_rfl) H

end Go.VC
end

section
/- Contract: the reference's moves of a state, sorted. (Numbers of layer 26's seat.) -/
namespace Go.VC
open Go.Proofs Go.LexS
set_option maxRecDepth 100000
namespace M
theorem intrw {h : Heap} {s : Sl} {L : List Int} (hr : Rw h 1 s (L.map inC)) (hc : s.n ≤ s.c) {i : Nat} (hi : i ≤ s.n) : Rw h 1 ⟨subA s.a i s.c 1, s.n - i, s.c - i⟩ ((L.drop i).map inC) := by
  have hn := hr.ln
  rw [List.map_drop]
  by_cases h0 : i = s.n
  · rw [List.drop_eq_nil_of_le (by rw [List.length_map]; omega)]
    exact Rw.empty (by show s.n - i = 0; omega)
  · exact hr.from hc (by omega)
theorem subA_nil {s : Sl} {i : Nat} (hna : s.a = none → s.n = 0 ∧ s.c = 0) (h : subA s.a i s.c 1 = none) : s.n - i = 0 ∧ s.c - i = 0 := by
  unfold subA at h
  split at h
  · have := hna h; omega
  · cases ha : s.a with
    | none => have := hna ha; omega
    | some a => rw [ha] at h; cases h
end M
theorem ins_ok {m : Mch} {s : Int} {O : List Nat} {i k : Nat} (hP : O.Perm ((List.range i).filter (outP m s))) (hS : O.Pairwise fun a b => ¬ evLt (evI m b) (evI m a)) (hx : outP m s i = true)
    (hb : ∀ (j a : Nat), j < k → O[j]? = some a → ¬ evLt (evI m i) (evI m a)) (ha : ∀ c, O[k]? = some c → evLt (evI m i) (evI m c)) :
    (O.take k ++ [i] ++ O.drop k).Perm ((List.range (i + 1)).filter (outP m s)) ∧ (O.take k ++ [i] ++ O.drop k).Pairwise fun a b => ¬ evLt (evI m b) (evI m a) := by
  constructor
  · rw [List.range_succ, List.filter_append, List.filter_cons_of_pos hx, List.filter_nil]
    refine List.Perm.trans ?_ (hP.append_right [i])
    rw [List.append_assoc]
    refine List.Perm.trans (List.Perm.append_left _ List.perm_append_comm) ?_
    rw [← List.append_assoc, List.take_append_drop]
  · have hS' := hS
    rw [← List.take_append_drop k O, List.pairwise_append] at hS'
    rw [List.append_assoc, List.pairwise_append]
    have hdr : ∀ b ∈ O.drop k, ¬ evLt (evI m b) (evI m i) := fun b hbm hlt => by
      cases hd : O.drop k with
      | nil => rw [hd] at hbm; cases hbm
      | cons c l =>
        have hc : O[k]? = some c := by
          have := List.getElem?_drop (xs := O) (i := k) (j := 0)
          rw [hd] at this
          simpa using this.symm
        have h1 := ha c hc
        have h2 := hS'.2.1
        rw [hd] at hbm h2
        rcases List.mem_cons.1 hbm with rfl | hbm
        · exact evLt_irr _ (evLt_trans h1 hlt)
        · exact (List.pairwise_cons.1 h2).1 b hbm (evLt_trans hlt h1)
    refine ⟨hS'.1, ?_, fun a ham b hbm => ?_⟩
    · rw [List.singleton_append, List.pairwise_cons]
      exact ⟨hdr, hS'.2.1⟩
    · rcases List.mem_append.1 hbm with hbm | hbm
      · rw [List.mem_singleton.1 hbm]
        obtain ⟨j, hj⟩ := List.mem_iff_getElem?.1 ham
        rw [List.getElem?_take] at hj
        split at hj
        · exact hb j a (by assumption) hj
        · cases hj
      · exact hS'.2.2 a ham b hbm
set_option maxHeartbeats 3200000 in
theorem refOut62 (m : Mch) (sf sm sl : Sl) (s : Int) (h : Heap) (hM : MI h m sf sm sl) :
    Fn Tryz.prog 62 #[.agg ⟨mC m sf sm sl⟩, .int .i64 s] h fun v h' => Ext h h' ∧ ∃ (r : Sl) (O : List Nat), v = .slice r.a r.n r.c ∧ Rw h' 1 r ((natI O).map inC) ∧ O.Perm (outIx m s) ∧ O.Pairwise fun a b => ¬ evLt (evI m b) (evI m a) := by
  apply vc62 m.role m.n m.s sf sm sl; unfold W62
  have hs := St.refl h
  have hmn := hM.pm.ln
  have hmb := hM.pm.sm
  refine hs.newb fun h7 hs => ?_
  have hs := hs.nil_ 3 1
  refine up_loopA (n := m.mv.length) hs (fun i rows => ∃ O : List Nat, rows = (natI O).map inC ∧ O.Perm ((List.range i).filter (outP m s)) ∧ O.Pairwise fun a b => ¬ evLt (evI m b) (evI m a)) ⟨[], rfl, List.Perm.refl _, List.Pairwise.nil⟩ ?_
  clear hs
  rintro - i out h13 _ hi hs ⟨O, rfl, hP, hSo⟩
  have holn := (hs.rows 0 (cs := inC) rfl (by omega)).ln
  have hocap := hs.len 0 (s := out) (e := 3) (n := 1) rfl (by omega)
  rw [show (natI O).length = O.length from List.length_map _] at holn
  have hol : O.length ≤ i := by rw [hP.length_eq]; exact Nat.le_trans (List.length_filter_le _ _) (by rw [List.length_range]; exact Nat.le_refl _)
  refine ⟨sm, hs.rd 1 rfl rfl, ?_⟩
  refine sBi (fun c1 => ?_) (fun c1 => ?_)
  · have him : i < m.mv.length := by omega
    refine ⟨sm, hs.rd 1 rfl rfl, ?_⟩
    refine (hM.pm.ext hs.ext).rw.nbI (by omega) (by omega) fun b16 o17 x g16 t16 => ?_
    replace g16 : m.mv[i]? = some x := g16
    refine ⟨_, t16.hd, ?_⟩
    have hp : outP m s i = decide (x.f = s) := by unfold outP; rw [g16]
    refine sBn (fun c2 => ?_) (fun c2 => ?_)
    · refine UpA.next him (by omega) ⟨_, hs, O, rfl, ?_, hSo⟩
      rw [List.range_succ, List.filter_append, List.filter_cons_of_neg (by rw [hp, decide_eq_false c2]; simp), List.filter_nil, List.append_nil]
      exact hP
    · have hxi : outP m s i = true := by rw [hp]; exact decide_eq_true c2
      have hevi : evI m i = x.ev := evI_of g16
      have hOm : ∀ (k j : Nat), O[k]? = some j → ∃ y, m.mv[j]? = some y := fun k j hk => by
        have := hP.mem_iff.1 (List.mem_of_getElem? hk)
        rw [List.mem_filter, List.mem_range] at this
        exact get_some (by omega)
      refine up_loopS (n := out.n) hs (fun k => ∀ (j a : Nat), j < k → O[j]? = some a → ¬ evLt (evI m i) (evI m a)) (fun j a hj => by omega) ?_
      clear hs
      rintro - k h24 hko ⟨hs, hq⟩
      refine sBi (fun c3 => ?_) (fun c3 => ?_)
      · refine ⟨sm, hs.rd 1 rfl rfl, ?_⟩
        refine (hM.pm.ext hs.ext).rw.nbI (by omega) (by omega) fun b26 o27 x' g26 t26 => ?_
        rw [Int.toNat_natCast, g16] at g26; cases g26
        refine ⟨_, _, _, _, _, _, t26, sm, hs.rd 1 rfl rfl, ?_⟩
        refine (hs.rows 0 (cs := inC) rfl (by omega)).nbI (by omega) (by omega) fun b35 o36 d g35 t35 => ?_
        obtain ⟨j, hj, rfl⟩ := natI_get g35
        replace hj : O[k]? = some j := hj
        obtain ⟨y, hy⟩ := hOm _ _ hj
        have hyl := (List.getElem?_eq_some_iff.1 hy).1
        have hevj : evI m j = y.ev := evI_of hy
        refine ⟨_, t35.hd, ?_⟩
        refine (hM.pm.ext hs.ext).rw.nbI (by omega) (by omega) fun b38 o39 y' g38 t38 => ?_
        rw [Int.toNat_natCast, hy] at g38; cases g38
        refine ⟨_, _, _, _, _, _, t38, ?_⟩
        refine (before26 x y h24).mono ?_
        rintro _ h48 ⟨rfl, E48⟩
        have hs := hs.step E48
        refine ⟨_, rfl, sB_intro (fun c4 => ?_) (fun c4 => ?_)⟩
        · have hnl : ¬ evLt x.ev y.ev := of_decide_eq_false (bF c4)
          refine Up.next (by omega) (by omega) ⟨hs, fun j' a hj' ha => ?_⟩
          by_cases e : j' = k
          · subst e; rw [hj] at ha; cases ha; rw [hevi, hevj]; exact hnl
          · exact hq j' a (by omega) ha
        · have hlt : evLt x.ev y.ev := of_decide_eq_true (bT c4)
          have hat : ∀ c, O[k]? = some c → evLt (evI m i) (evI m c) := fun c hc => by rw [hj] at hc; cases hc; rw [hevi, hevj]; exact hlt
          have fin : ∀ {h' : Heap} {r : Sl}, St h h' [.sl r 3 1 ((natI (O.take k)).map inC ++ [[.int .i64 (i : Nat)]] ++ (natI (O.drop k)).map inC), .blk h.size (mC m sf sm sl) 26] → ∃ m', m' < m.mv.length - i ∧ UpA m.mv.length (fun i s_1 h' => ∃ rows, St h h' (.sl s_1 3 1 rows :: [.blk h.size (mC m sf sm sl) 26]) ∧ ∃ O : List Nat, rows = (natI O).map inC ∧ O.Perm ((List.range i).filter (outP m s)) ∧ O.Pairwise fun a b => ¬ evLt (evI m b) (evI m a)) r (IntKind.wrap .i64 ((i : Int) + 1)) h' m' := by
            intro h' r h1
            have hok := ins_ok hP hSo hxi hq hat
            refine UpA.next him (by omega) ⟨_, h1, O.take k ++ [i] ++ O.drop k, ?_, hok.1, hok.2⟩
            unfold natI
            rw [List.map_append, List.map_append, List.map_append, List.map_append]; rfl
          have e0 : subA out.a (Int.toNat 0) out.c 1 = out.a := subA_zero _ _ _
          have hpre : ∀ {h' : Heap}, Rw h' 1 out ((natI O).map inC) → Rw h' 1 (⟨subA out.a (Int.toNat 0) out.c 1, Int.toNat (k : Int) - Int.toNat 0, out.c - Int.toNat 0⟩ : Sl) ((natI (O.take k)).map inC) := fun {h'} hr => by
            have h1 := hr.prefix (i := k) (c := out.c - Int.toNat 0) hko
            rw [e0]
            unfold natI at h1 ⊢
            rw [List.map_take, List.map_take]
            exact h1
          have hsuf : ∀ {h' : Heap}, Rw h' 1 out ((natI O).map inC) → Rw h' 1 (⟨subA out.a (Int.toNat (k : Int)) out.c 1, Int.toNat (out.n : Nat) - Int.toNat (k : Int), out.c - Int.toNat (k : Int)⟩ : Sl) ((natI (O.drop k)).map inC) := fun {h'} hr => by
            have h1 := M.intrw hr hocap.2.1 (i := k) hko
            unfold natI at h1 ⊢
            rw [List.map_drop]
            exact h1
          have hnilp : (⟨subA out.a (Int.toNat 0) out.c 1, Int.toNat (k : Int) - Int.toNat 0, out.c - Int.toNat 0⟩ : Sl).a = none → (⟨subA out.a (Int.toNat 0) out.c 1, Int.toNat (k : Int) - Int.toNat 0, out.c - Int.toNat 0⟩ : Sl).n = 0 ∧ (⟨subA out.a (Int.toNat 0) out.c 1, Int.toNat (k : Int) - Int.toNat 0, out.c - Int.toNat 0⟩ : Sl).c = 0 := by
            intro hn
            have hn : subA out.a (Int.toNat 0) out.c 1 = none := hn
            rw [e0] at hn
            have := hocap.2.2 hn
            exact ⟨by show Int.toNat (k : Int) - Int.toNat 0 = 0; omega, by show out.c - Int.toNat 0 = 0; omega⟩
          have hnils : (⟨subA out.a (Int.toNat (k : Int)) out.c 1, Int.toNat (out.n : Nat) - Int.toNat (k : Int), out.c - Int.toNat (k : Int)⟩ : Sl).a = none → (⟨subA out.a (Int.toNat (k : Int)) out.c 1, Int.toNat (out.n : Nat) - Int.toNat (k : Int), out.c - Int.toNat (k : Int)⟩ : Sl).n = 0 ∧ (⟨subA out.a (Int.toNat (k : Int)) out.c 1, Int.toNat (out.n : Nat) - Int.toNat (k : Int), out.c - Int.toNat (k : Int)⟩ : Sl).c = 0 := fun hn => M.subA_nil hocap.2.2 hn
          refine ⟨⟨by omega, by omega, by omega⟩, ⟨by omega, by omega, by omega⟩, ?_, ?_⟩
          · refine hs.newb fun h76 hs => ?_
            have hs := hs.blkS 0 1 [] rfl (by simp) rfl (by decide)
            refine ⟨?_, ?_⟩
            · refine hs.appRw 0 (rows := []) (news := (natI (O.take k)).map inC) rfl app42 (y := ⟨subA out.a (Int.toNat 0) out.c 1, Int.toNat (k : Int) - Int.toNat 0, out.c - Int.toNat 0⟩) (hpre (hs.rows 1 (s := out) (cs := inC) (l := natI O) rfl (by omega))) (inrows _) hnilp (flat_oneB (fun _ => rfl) _) (by show (0 + (Int.toNat (k : Int) - Int.toNat 0)) * 8 ≤ _; omega) (by show 0 + (Int.toNat (k : Int) - Int.toNat 0) ≤ _; simp only [maxLen]; omega) fun s77 h78 n77 hs => ?_
              replace n77 : s77.n = k := by rw [n77]; show 0 + (Int.toNat (k : Int) - Int.toNat 0) = k; omega
              refine hs.app 0 rfl app42 (m := 1) [[.int .i64 (i : Nat)]] rfl rfl (by simp) rfl (by omega) (by simp only [maxLen]; omega) fun s80 h81 n80 hs => ?_
              refine hs.appRw 0 (rows := (natI (O.take k)).map inC ++ [[.int .i64 (i : Nat)]]) (news := (natI (O.drop k)).map inC) rfl app42 (y := ⟨subA out.a (Int.toNat (k : Int)) out.c 1, Int.toNat (out.n : Nat) - Int.toNat (k : Int), out.c - Int.toNat (k : Int)⟩) (hsuf (hs.rows 1 (s := out) (cs := inC) (l := natI O) rfl (by omega))) (inrows _) hnils (flat_oneB (fun _ => rfl) _) (by show (_ + (Int.toNat (out.n : Nat) - Int.toNat (k : Int))) * 8 ≤ _; omega) (by show _ + (Int.toNat (out.n : Nat) - Int.toNat (k : Int)) ≤ _; simp only [maxLen]; omega) fun s82 h83 n82 hs => ?_
              refine fin (hs.sub ?_)
              exact .cons_cons _ (.cons _ (.cons_cons _ .slnil))
            · refine hs.newb fun h85 hs => ?_
              refine hs.appRw 1 (rows := []) (news := (natI (O.take k)).map inC) rfl app42 (y := ⟨subA out.a (Int.toNat 0) out.c 1, Int.toNat (k : Int) - Int.toNat 0, out.c - Int.toNat 0⟩) (hpre (hs.rows 2 (s := out) (cs := inC) (l := natI O) rfl (by omega))) (inrows _) hnilp (flat_oneB (fun _ => rfl) _) (by show (0 + (Int.toNat (k : Int) - Int.toNat 0)) * 8 ≤ _; omega) (by show 0 + (Int.toNat (k : Int) - Int.toNat 0) ≤ _; simp only [maxLen]; omega) fun s77 h78 n77 hs => ?_
              replace n77 : s77.n = k := by rw [n77]; show 0 + (Int.toNat (k : Int) - Int.toNat 0) = k; omega
              refine hs.appended 1 (rows := (natI (O.take k)).map inC) rfl app42 (m := 1) (news := [[.int .i64 (i : Nat)]]) (hs.at 0 rfl (n := 1) rfl) rfl (by simp) rfl (by omega) (by simp only [maxLen]; omega) fun s80 h81 n80 hs => ?_
              refine hs.appRw 1 (rows := (natI (O.take k)).map inC ++ [[.int .i64 (i : Nat)]]) (news := (natI (O.drop k)).map inC) rfl app42 (y := ⟨subA out.a (Int.toNat (k : Int)) out.c 1, Int.toNat (out.n : Nat) - Int.toNat (k : Int), out.c - Int.toNat (k : Int)⟩) (hsuf (hs.rows 2 (s := out) (cs := inC) (l := natI O) rfl (by omega))) (inrows _) hnils (flat_oneB (fun _ => rfl) _) (by show (_ + (Int.toNat (out.n : Nat) - Int.toNat (k : Int))) * 8 ≤ _; omega) (by show _ + (Int.toNat (out.n : Nat) - Int.toNat (k : Int)) ≤ _; simp only [maxLen]; omega) fun s82 h83 n82 hs => ?_
              refine fin (hs.sub ?_)
              exact .cons _ (.cons_cons _ (.cons _ (.cons_cons _ .slnil)))
          · refine hs.newb fun h93 hs => ?_
            refine hs.newb fun h94 hs => ?_
            have hs := hs.blkS 0 1 [] rfl (by simp) rfl (by decide)
            refine hs.appRw 0 (rows := []) (news := (natI (O.take k)).map inC) rfl app42 (y := ⟨subA out.a (Int.toNat 0) out.c 1, Int.toNat (k : Int) - Int.toNat 0, out.c - Int.toNat 0⟩) (hpre (hs.rows 2 (s := out) (cs := inC) (l := natI O) rfl (by omega))) (inrows _) hnilp (flat_oneB (fun _ => rfl) _) (by show (0 + (Int.toNat (k : Int) - Int.toNat 0)) * 8 ≤ _; omega) (by show 0 + (Int.toNat (k : Int) - Int.toNat 0) ≤ _; simp only [maxLen]; omega) fun s77 h78 n77 hs => ?_
            replace n77 : s77.n = k := by rw [n77]; show 0 + (Int.toNat (k : Int) - Int.toNat 0) = k; omega
            refine hs.appended 0 (rows := (natI (O.take k)).map inC) rfl app42 (m := 1) (news := [[.int .i64 (i : Nat)]]) (hs.at 1 rfl (n := 1) rfl) rfl (by simp) rfl (by omega) (by simp only [maxLen]; omega) fun s80 h81 n80 hs => ?_
            refine hs.appRw 0 (rows := (natI (O.take k)).map inC ++ [[.int .i64 (i : Nat)]]) (news := (natI (O.drop k)).map inC) rfl app42 (y := ⟨subA out.a (Int.toNat (k : Int)) out.c 1, Int.toNat (out.n : Nat) - Int.toNat (k : Int), out.c - Int.toNat (k : Int)⟩) (hsuf (hs.rows 2 (s := out) (cs := inC) (l := natI O) rfl (by omega))) (inrows _) hnils (flat_oneB (fun _ => rfl) _) (by show (_ + (Int.toNat (out.n : Nat) - Int.toNat (k : Int))) * 8 ≤ _; omega) (by show _ + (Int.toNat (out.n : Nat) - Int.toNat (k : Int)) ≤ _; simp only [maxLen]; omega) fun s82 h83 n82 hs => ?_
            refine fin (hs.sub ?_)
            exact .cons_cons _ (.cons _ (.cons _ (.cons_cons _ .slnil)))
      · have hat : ∀ c, O[k]? = some c → evLt (evI m i) (evI m c) := fun c hc => by have := (List.getElem?_eq_some_iff.1 hc).1; omega
        have fin : ∀ {h' : Heap} {r : Sl}, St h h' [.sl r 3 1 ((natI (O.take k)).map inC ++ [[.int .i64 (i : Nat)]] ++ (natI (O.drop k)).map inC), .blk h.size (mC m sf sm sl) 26] → ∃ m', m' < m.mv.length - i ∧ UpA m.mv.length (fun i s_1 h' => ∃ rows, St h h' (.sl s_1 3 1 rows :: [.blk h.size (mC m sf sm sl) 26]) ∧ ∃ O : List Nat, rows = (natI O).map inC ∧ O.Perm ((List.range i).filter (outP m s)) ∧ O.Pairwise fun a b => ¬ evLt (evI m b) (evI m a)) r (IntKind.wrap .i64 ((i : Int) + 1)) h' m' := by
          intro h' r h1
          have hok := ins_ok hP hSo hxi hq hat
          refine UpA.next him (by omega) ⟨_, h1, O.take k ++ [i] ++ O.drop k, ?_, hok.1, hok.2⟩
          unfold natI
          rw [List.map_append, List.map_append, List.map_append, List.map_append]; rfl
        have e0 : subA out.a (Int.toNat 0) out.c 1 = out.a := subA_zero _ _ _
        have hpre : ∀ {h' : Heap}, Rw h' 1 out ((natI O).map inC) → Rw h' 1 (⟨subA out.a (Int.toNat 0) out.c 1, Int.toNat (k : Int) - Int.toNat 0, out.c - Int.toNat 0⟩ : Sl) ((natI (O.take k)).map inC) := fun {h'} hr => by
          have h1 := hr.prefix (i := k) (c := out.c - Int.toNat 0) hko
          rw [e0]
          unfold natI at h1 ⊢
          rw [List.map_take, List.map_take]
          exact h1
        have hsuf : ∀ {h' : Heap}, Rw h' 1 out ((natI O).map inC) → Rw h' 1 (⟨subA out.a (Int.toNat (k : Int)) out.c 1, Int.toNat (out.n : Nat) - Int.toNat (k : Int), out.c - Int.toNat (k : Int)⟩ : Sl) ((natI (O.drop k)).map inC) := fun {h'} hr => by
          have h1 := M.intrw hr hocap.2.1 (i := k) hko
          unfold natI at h1 ⊢
          rw [List.map_drop]
          exact h1
        have hnilp : (⟨subA out.a (Int.toNat 0) out.c 1, Int.toNat (k : Int) - Int.toNat 0, out.c - Int.toNat 0⟩ : Sl).a = none → (⟨subA out.a (Int.toNat 0) out.c 1, Int.toNat (k : Int) - Int.toNat 0, out.c - Int.toNat 0⟩ : Sl).n = 0 ∧ (⟨subA out.a (Int.toNat 0) out.c 1, Int.toNat (k : Int) - Int.toNat 0, out.c - Int.toNat 0⟩ : Sl).c = 0 := by
          intro hn
          have hn : subA out.a (Int.toNat 0) out.c 1 = none := hn
          rw [e0] at hn
          have := hocap.2.2 hn
          exact ⟨by show Int.toNat (k : Int) - Int.toNat 0 = 0; omega, by show out.c - Int.toNat 0 = 0; omega⟩
        have hnils : (⟨subA out.a (Int.toNat (k : Int)) out.c 1, Int.toNat (out.n : Nat) - Int.toNat (k : Int), out.c - Int.toNat (k : Int)⟩ : Sl).a = none → (⟨subA out.a (Int.toNat (k : Int)) out.c 1, Int.toNat (out.n : Nat) - Int.toNat (k : Int), out.c - Int.toNat (k : Int)⟩ : Sl).n = 0 ∧ (⟨subA out.a (Int.toNat (k : Int)) out.c 1, Int.toNat (out.n : Nat) - Int.toNat (k : Int), out.c - Int.toNat (k : Int)⟩ : Sl).c = 0 := fun hn => M.subA_nil hocap.2.2 hn
        refine ⟨⟨by omega, by omega, by omega⟩, ⟨by omega, by omega, by omega⟩, ?_, ?_⟩
        · refine hs.newb fun h76 hs => ?_
          have hs := hs.blkS 0 1 [] rfl (by simp) rfl (by decide)
          refine ⟨?_, ?_⟩
          · refine hs.appRw 0 (rows := []) (news := (natI (O.take k)).map inC) rfl app42 (y := ⟨subA out.a (Int.toNat 0) out.c 1, Int.toNat (k : Int) - Int.toNat 0, out.c - Int.toNat 0⟩) (hpre (hs.rows 1 (s := out) (cs := inC) (l := natI O) rfl (by omega))) (inrows _) hnilp (flat_oneB (fun _ => rfl) _) (by show (0 + (Int.toNat (k : Int) - Int.toNat 0)) * 8 ≤ _; omega) (by show 0 + (Int.toNat (k : Int) - Int.toNat 0) ≤ _; simp only [maxLen]; omega) fun s77 h78 n77 hs => ?_
            replace n77 : s77.n = k := by rw [n77]; show 0 + (Int.toNat (k : Int) - Int.toNat 0) = k; omega
            refine hs.app 0 rfl app42 (m := 1) [[.int .i64 (i : Nat)]] rfl rfl (by simp) rfl (by omega) (by simp only [maxLen]; omega) fun s80 h81 n80 hs => ?_
            refine hs.appRw 0 (rows := (natI (O.take k)).map inC ++ [[.int .i64 (i : Nat)]]) (news := (natI (O.drop k)).map inC) rfl app42 (y := ⟨subA out.a (Int.toNat (k : Int)) out.c 1, Int.toNat (out.n : Nat) - Int.toNat (k : Int), out.c - Int.toNat (k : Int)⟩) (hsuf (hs.rows 1 (s := out) (cs := inC) (l := natI O) rfl (by omega))) (inrows _) hnils (flat_oneB (fun _ => rfl) _) (by show (_ + (Int.toNat (out.n : Nat) - Int.toNat (k : Int))) * 8 ≤ _; omega) (by show _ + (Int.toNat (out.n : Nat) - Int.toNat (k : Int)) ≤ _; simp only [maxLen]; omega) fun s82 h83 n82 hs => ?_
            refine fin (hs.sub ?_)
            exact .cons_cons _ (.cons _ (.cons_cons _ .slnil))
          · refine hs.newb fun h85 hs => ?_
            refine hs.appRw 1 (rows := []) (news := (natI (O.take k)).map inC) rfl app42 (y := ⟨subA out.a (Int.toNat 0) out.c 1, Int.toNat (k : Int) - Int.toNat 0, out.c - Int.toNat 0⟩) (hpre (hs.rows 2 (s := out) (cs := inC) (l := natI O) rfl (by omega))) (inrows _) hnilp (flat_oneB (fun _ => rfl) _) (by show (0 + (Int.toNat (k : Int) - Int.toNat 0)) * 8 ≤ _; omega) (by show 0 + (Int.toNat (k : Int) - Int.toNat 0) ≤ _; simp only [maxLen]; omega) fun s77 h78 n77 hs => ?_
            replace n77 : s77.n = k := by rw [n77]; show 0 + (Int.toNat (k : Int) - Int.toNat 0) = k; omega
            refine hs.appended 1 (rows := (natI (O.take k)).map inC) rfl app42 (m := 1) (news := [[.int .i64 (i : Nat)]]) (hs.at 0 rfl (n := 1) rfl) rfl (by simp) rfl (by omega) (by simp only [maxLen]; omega) fun s80 h81 n80 hs => ?_
            refine hs.appRw 1 (rows := (natI (O.take k)).map inC ++ [[.int .i64 (i : Nat)]]) (news := (natI (O.drop k)).map inC) rfl app42 (y := ⟨subA out.a (Int.toNat (k : Int)) out.c 1, Int.toNat (out.n : Nat) - Int.toNat (k : Int), out.c - Int.toNat (k : Int)⟩) (hsuf (hs.rows 2 (s := out) (cs := inC) (l := natI O) rfl (by omega))) (inrows _) hnils (flat_oneB (fun _ => rfl) _) (by show (_ + (Int.toNat (out.n : Nat) - Int.toNat (k : Int))) * 8 ≤ _; omega) (by show _ + (Int.toNat (out.n : Nat) - Int.toNat (k : Int)) ≤ _; simp only [maxLen]; omega) fun s82 h83 n82 hs => ?_
            refine fin (hs.sub ?_)
            exact .cons _ (.cons_cons _ (.cons _ (.cons_cons _ .slnil)))
        · refine hs.newb fun h93 hs => ?_
          refine hs.newb fun h94 hs => ?_
          have hs := hs.blkS 0 1 [] rfl (by simp) rfl (by decide)
          refine hs.appRw 0 (rows := []) (news := (natI (O.take k)).map inC) rfl app42 (y := ⟨subA out.a (Int.toNat 0) out.c 1, Int.toNat (k : Int) - Int.toNat 0, out.c - Int.toNat 0⟩) (hpre (hs.rows 2 (s := out) (cs := inC) (l := natI O) rfl (by omega))) (inrows _) hnilp (flat_oneB (fun _ => rfl) _) (by show (0 + (Int.toNat (k : Int) - Int.toNat 0)) * 8 ≤ _; omega) (by show 0 + (Int.toNat (k : Int) - Int.toNat 0) ≤ _; simp only [maxLen]; omega) fun s77 h78 n77 hs => ?_
          replace n77 : s77.n = k := by rw [n77]; show 0 + (Int.toNat (k : Int) - Int.toNat 0) = k; omega
          refine hs.appended 0 (rows := (natI (O.take k)).map inC) rfl app42 (m := 1) (news := [[.int .i64 (i : Nat)]]) (hs.at 1 rfl (n := 1) rfl) rfl (by simp) rfl (by omega) (by simp only [maxLen]; omega) fun s80 h81 n80 hs => ?_
          refine hs.appRw 0 (rows := (natI (O.take k)).map inC ++ [[.int .i64 (i : Nat)]]) (news := (natI (O.drop k)).map inC) rfl app42 (y := ⟨subA out.a (Int.toNat (k : Int)) out.c 1, Int.toNat (out.n : Nat) - Int.toNat (k : Int), out.c - Int.toNat (k : Int)⟩) (hsuf (hs.rows 2 (s := out) (cs := inC) (l := natI O) rfl (by omega))) (inrows _) hnils (flat_oneB (fun _ => rfl) _) (by show (_ + (Int.toNat (out.n : Nat) - Int.toNat (k : Int))) * 8 ≤ _; omega) (by show _ + (Int.toNat (out.n : Nat) - Int.toNat (k : Int)) ≤ _; simp only [maxLen]; omega) fun s82 h83 n82 hs => ?_
          refine fin (hs.sub ?_)
          exact .cons_cons _ (.cons _ (.cons _ (.cons_cons _ .slnil)))
  · refine ⟨hs.ext, out, O, rfl, hs.rows 0 rfl (by omega), ?_, hSo⟩
    rw [show i = m.mv.length by omega] at hP
    exact hP
end Go.VC
end

section
/- Contracts: Moves, Sends and Timeout on both sides; the walk of the law of moves. (Numbers of layer 26's seat.) -/
namespace Go.VC
open Go.Proofs Go.LexS
set_option maxRecDepth 100000
def OkS (m : Mch) (s : Int) : Prop := VM m ∧ 0 ≤ s ∧ s < m.n
/-- the moves of a state of a valid machine, sorted; none otherwise -/
structure MvO (m : Mch) (s : Int) (O : List Nat) : Prop where
  y : OkS m s → O.Perm (outIx m s) ∧ O.Pairwise fun a b => ¬ evLt (evI m b) (evI m a)
  n : ¬ OkS m s → O = []
theorem MvO.uniq {m : Mch} {s : Int} {O Q : List Nat} (h1 : MvO m s O) (h2 : MvO m s Q) : O = Q := by
  by_cases hk : OkS m s
  · obtain ⟨p1, s1⟩ := h1.y hk
    obtain ⟨p2, s2⟩ := h2.y hk
    refine List.Perm.eq_of_pairwise (le := fun a b => ¬ evLt (evI m b) (evI m a)) (fun a b ha hb h3 h4 => ?_) s1 s2 (p1.trans p2.symm)
    obtain ⟨x, hx, hxf⟩ := outIx_mem.1 (p1.mem_iff.1 ha)
    obtain ⟨y, hy, hyf⟩ := outIx_mem.1 (p2.mem_iff.1 hb)
    by_cases e : a = b
    · exact e
    · have := (hk.1.d a b x y hx hy e (by rw [hxf, hyf])).1
      rw [evI_of hx, evI_of hy] at h3 h4
      exact absurd (evLt_of h3 this) h4
  · rw [h1.n hk, h2.n hk]
theorem moves28 (m : Mch) (sf sm sl : Sl) (s : Int) (h : Heap) (hM : MI h m sf sm sl) :
    Fn Tryz.prog 28 #[.agg ⟨mC m sf sm sl⟩, .int .i64 s] h fun v h' => Ext h h' ∧ ∃ (r : Sl) (O : List Nat), v = .slice r.a r.n r.c ∧ Rw h' 1 r ((natI O).map inC) ∧ MvO m s O := by
  apply vc28 m.role m.n m.s sf sm sl; unfold W28
  refine (St.refl h).newb fun h7 hs => ?_
  refine ⟨_, _, _, sf, sm, sl, hs.at 0 rfl (o := 0) (n := 6) rfl, ?_⟩
  refine (open47 m sf sm sl h7 (hM.ext hs.ext)).mono ?_
  rintro _ h17 ⟨E, p, b, rfl, hb, hbT⟩
  have hs := hs.step E
  have no : ¬ OkS m s → Ext h h17 ∧ ∃ (r : Sl) (O : List Nat), Value.slice none 0 0 = .slice r.a r.n r.c ∧ Rw h17 1 r ((natI O).map inC) ∧ MvO m s O := fun hn => ⟨hs.ext, ⟨none, 0, 0⟩, [], rfl, Rw.nil, fun hk => absurd hk hn, fun _ => rfl⟩
  refine ⟨_, _, rfl, sB_intro (fun c => no fun hk => iff_f hb (bF c) hk.1) (fun c => ?_)⟩
  obtain ⟨b0, S, rfl, hT⟩ := hbT (bT c)
  have hV := hb.1 (bT c)
  refine sBi (fun c1 => no fun hk => by have := hk.2; omega) (fun c1 => ?_)
  refine ⟨_, hs.rd 0 rfl rfl, sBi (fun c2 => no fun hk => by have := hk.2; omega) (fun c2 => ?_)⟩
  obtain ⟨ho, qs, _, hat, hhn, hho, hqs⟩ := hT.ex
  have hvl : s.toNat < m.n.toNat := by omega
  have hnn := hV.n.n
  refine ⟨ho, hat.nth 6 rfl, ?_⟩
  refine hho.nbI (by omega) (by omega) fun b9 o10 v gv t => ?_
  have hv : v = s.toNat := by rw [List.getElem?_range hvl] at gv; exact (Option.some.inj gv).symm
  subst hv
  have hS := hT.so s.toNat hvl
  have hsi : ((s.toNat : Nat) : Int) = s := by omega
  refine ⟨_, t.hd, hs.ext, _, S s.toNat, rfl, hqs s.toNat hvl, fun _ => ⟨by have := hS.p; rwa [hsi] at this, hS.s⟩, fun hk => absurd ⟨hV, by omega, by omega⟩ hk⟩
theorem good53 (m : Mch) (sf sm sl : Sl) (s : Int) (h : Heap) (hM : MI h m sf sm sl) : Fn Tryz.prog 53 #[.agg ⟨mC m sf sm sl⟩, .int .i64 s] h (RP (OkS m s) h) := by
  apply vc53 m.role m.n m.s sf sm sl; unfold W53
  refine (St.refl h).newb fun h7 hs => ?_
  refine ⟨_, _, _, sf, sm, sl, hs.at 0 rfl (o := 0) (n := 6) rfl, ?_⟩
  refine (refValid24 m sf sm sl h7 (hM.ext hs.ext)).mono ?_
  rintro _ h16 ⟨⟨b, rfl, hb⟩, E⟩
  have hs := hs.step E
  refine ⟨_, rfl, sB_intro (fun c => ?_) (fun c => RP.f (fun hk => iff_f hb c hk.1) hs.ext)⟩
  refine sBi (fun c1 => ⟨_, hs.rd 0 rfl rfl, RP.e ?_ hs.ext⟩) (fun c1 => RP.f (fun hk => by have := hk.2; omega) hs.ext)
  rw [decide_eq_true_eq]
  exact ⟨fun c2 => ⟨hb.1 c, c1, c2⟩, fun hk => hk.2.2⟩
theorem refMoves29 (m : Mch) (sf sm sl : Sl) (s : Int) (h : Heap) (hM : MI h m sf sm sl) :
    Fn Tryz.prog 29 #[.agg ⟨mC m sf sm sl⟩, .int .i64 s] h fun v h' => Ext h h' ∧ ∃ (r : Sl) (O : List Nat), v = .slice r.a r.n r.c ∧ Rw h' 1 r ((natI O).map inC) ∧ MvO m s O := by
  apply vc29 m.role m.n m.s sf sm sl; unfold W29
  refine (St.refl h).newb fun h7 hs => ?_
  refine ⟨_, _, _, sf, sm, sl, hs.at 0 rfl (o := 0) (n := 6) rfl, ?_⟩
  refine (good53 m sf sm sl s h7 (hM.ext hs.ext)).mono ?_
  rintro _ h16 ⟨⟨b, rfl, hb⟩, E⟩
  have hs := hs.step E
  refine ⟨_, rfl, sB_intro (fun c => ?_) (fun c => ?_)⟩
  · exact ⟨hs.ext, ⟨none, 0, 0⟩, [], rfl, Rw.nil, fun hk => absurd hk (iff_f hb (bF c)), fun _ => rfl⟩
  · refine ⟨_, _, _, sf, sm, sl, hs.at 0 rfl (o := 0) (n := 6) rfl, ?_⟩
    refine (refOut62 m sf sm sl s h16 (hM.ext hs.ext)).mono ?_
    rintro _ h25 ⟨E, r, O, rfl, hr, hP, hS⟩
    exact ⟨_, rfl, (hs.step E).ext, r, O, rfl, hr, fun _ => ⟨hP, hS⟩, fun hk => absurd (hb.1 (bT c)) hk⟩
/-- whether a state sends -/
def sndS (m : Mch) : List Nat → Bool
  | [] => false
  | k :: _ => (evI m k).send
theorem sends25 (m : Mch) (sf sm sl : Sl) (s : Int) (h : Heap) (hM : MI h m sf sm sl) :
    Fn Tryz.prog 25 #[.agg ⟨mC m sf sm sl⟩, .int .i64 s] h fun v h' => Ext h h' ∧ ∃ O, MvO m s O ∧ v = .bool (sndS m O) := by
  apply vc25 m.role m.n m.s sf sm sl; unfold W25
  refine (St.refl h).newb fun h7 hs => ?_
  refine ⟨_, _, _, sf, sm, sl, hs.at 0 rfl (o := 0) (n := 6) rfl, ?_⟩
  refine (moves28 m sf sm sl s h7 (hM.ext hs.ext)).mono ?_
  rintro _ h16 ⟨E, r, O, rfl, hr, hO⟩
  have hs := hs.step E
  have hn := hr.ln
  have hmn := hM.pm.ln
  rw [show (natI O).length = O.length from List.length_map _] at hn
  refine ⟨_, rfl, sBi (fun c => ?_) (fun c => ?_)⟩
  · refine ⟨sm, hs.rd 0 rfl rfl, ?_⟩
    refine hr.nbI (by omega) (by omega) fun b18 o19 d gd t => ?_
    obtain ⟨k, hk, rfl⟩ := natI_get gd
    replace hk : O[0]? = some k := hk
    have hkO : OkS m s := Classical.byContradiction fun hn => by rw [hO.n hn] at hk; cases hk
    obtain ⟨x, hx, _⟩ := outIx_mem.1 ((hO.y hkO).1.mem_iff.1 (List.mem_of_getElem? hk))
    have hxl := (List.getElem?_eq_some_iff.1 hx).1
    refine ⟨_, t.hd, ?_⟩
    refine (hM.pm.rw.ext hs.ext).nbI (by omega) (by omega) fun b21 o22 x' gx t2 => ?_
    replace gx : m.mv[k]? = some x' := gx
    rw [hx] at gx; cases gx
    refine ⟨_, t2.nth 1 rfl, hs.ext, O, hO, ?_⟩
    cases O with
    | nil => cases hk
    | cons a l => cases hk; show _ = Value.bool (evI m _).send; rw [evI_of hx]; rfl
  · refine ⟨hs.ext, O, hO, ?_⟩
    rw [show O = [] from List.eq_nil_of_length_eq_zero (by omega)]; rfl
theorem refSends26 (m : Mch) (sf sm sl : Sl) (s : Int) (h : Heap) (hM : MI h m sf sm sl) :
    Fn Tryz.prog 26 #[.agg ⟨mC m sf sm sl⟩, .int .i64 s] h fun v h' => Ext h h' ∧ ∃ O, MvO m s O ∧ v = .bool (sndS m O) := by
  apply vc26 m.role m.n m.s sf sm sl; unfold W26
  refine (St.refl h).newb fun h7 hs => ?_
  refine ⟨_, _, _, sf, sm, sl, hs.at 0 rfl (o := 0) (n := 6) rfl, ?_⟩
  refine (refMoves29 m sf sm sl s h7 (hM.ext hs.ext)).mono ?_
  rintro _ h16 ⟨E, r, O, rfl, hr, hO⟩
  have hs := hs.step E
  have hn := hr.ln
  have hmn := hM.pm.ln
  rw [show (natI O).length = O.length from List.length_map _] at hn
  refine ⟨_, rfl, sBi (fun c => ?_) (fun c => ?_)⟩
  · refine ⟨sm, hs.rd 0 rfl rfl, ?_⟩
    refine hr.nbI (by omega) (by omega) fun b18 o19 d gd t => ?_
    obtain ⟨k, hk, rfl⟩ := natI_get gd
    replace hk : O[0]? = some k := hk
    have hkO : OkS m s := Classical.byContradiction fun hn => by rw [hO.n hn] at hk; cases hk
    obtain ⟨x, hx, _⟩ := outIx_mem.1 ((hO.y hkO).1.mem_iff.1 (List.mem_of_getElem? hk))
    have hxl := (List.getElem?_eq_some_iff.1 hx).1
    refine ⟨_, t.hd, ?_⟩
    refine (hM.pm.rw.ext hs.ext).nbI (by omega) (by omega) fun b21 o22 x' gx t2 => ?_
    replace gx : m.mv[k]? = some x' := gx
    rw [hx] at gx; cases gx
    refine ⟨_, t2.nth 1 rfl, hs.ext, O, hO, ?_⟩
    cases O with
    | nil => cases hk
    | cons a l => cases hk; show _ = Value.bool (evI m _).send; rw [evI_of hx]; rfl
  · refine ⟨hs.ext, O, hO, ?_⟩
    rw [show O = [] from List.eq_nil_of_length_eq_zero (by omega)]; rfl
theorem cal56 : callable Tryz.prog 56 = true := by kernel_rfl
theorem index55 (L : List To) (s : Sl) (a : Addr) (x : Int) (h : Heap) (hr : Rw h 3 s (L.map To.cs)) (hl : L.length ≤ 1048576) (ha : hc h a = some (.int .i64 x)) :
    Fn Tryz.prog 55 #[.slice s.a s.n s.c, .func (.func 56) #[] #[.pointer (some a)]] h fun v h' => v = .int .i64 (match limI L x with | some i => (i : Int) | none => -1) ∧ Ext h h' := by
  apply vc55 s 56 (some a); unfold W55
  have hn := hr.ln
  refine up_loop (n := s.n) (fun i h' => Ext h h' ∧ ∀ (j : Nat) (t : To), j < i → L[j]? = some t → t.s ≠ x) ⟨.rfl', fun j t hj => by omega⟩ ?_
  rintro - i h5 hi ⟨E, hq⟩
  refine sB_intro (fun c => ?_) (fun c => ?_)
  · replace c := lt_t c
    refine (hr.ext E).nbI (by omega) (by omega) fun b6 o7 t gt t15 => ?_
    replace gt : L[i]? = some t := gt
    refine ⟨_, _, _, t15, ?_⟩
    rw [cal56, cond_true]
    apply vc56 t.s t.k t.e a; unfold W56
    refine (St.refl h5).newb fun h6 hs => ?_
    refine ⟨_, hs.rd 0 rfl rfl, x, hc_ext hs.ext (hc_ext E ha), _, rfl, sBe (fun c2 => ?_) (fun c2 => ?_)⟩
    · have : limI L x = some i := by
        unfold limI
        obtain ⟨h1, h2⟩ := List.getElem?_eq_some_iff.1 gt
        rw [List.findIdx?_eq_some_iff_getElem]
        refine ⟨h1, by rw [h2]; simpa using c2, fun j hj => ?_⟩
        have := hq j L[j] hj (List.getElem?_eq_getElem (by omega))
        simpa using this
      exact ⟨by rw [this], E.trans hs.ext⟩
    · refine Up.next (by omega) (by omega) ⟨E.trans hs.ext, fun j t' hj ht' => ?_⟩
      by_cases e : j = i
      · subst e; rw [gt] at ht'; cases ht'; exact c2
      · exact hq j t' (by omega) ht'
  · replace c := lt_f c
    have : limI L x = none := by
      unfold limI
      rw [List.findIdx?_eq_none_iff]
      intro t ht
      obtain ⟨j, hj⟩ := List.mem_iff_getElem?.1 ht
      have := hq j t (by have := (List.getElem?_eq_some_iff.1 hj).1; omega) hj
      simpa using this
    exact ⟨by rw [this], E⟩
def t0 : To := ⟨0, 0, 0⟩
def tmV (t : To) (b : Bool) : Value := .tuple ⟨[.agg ⟨t.cs⟩, .bool b]⟩
/-- the timeout of a state of a valid machine -/
structure TmO (m : Mch) (s : Int) (t : To) (b : Bool) : Prop where
  y : OkS m s → (∀ i, limI m.li s = some i → m.li[i]? = some t ∧ b = true) ∧ (limI m.li s = none → t = t0 ∧ b = false)
  n : ¬ OkS m s → t = t0 ∧ b = false
theorem TmO.uniq {m : Mch} {s : Int} {t u : To} {a b : Bool} (h1 : TmO m s t a) (h2 : TmO m s u b) : t = u ∧ a = b := by
  by_cases hk : OkS m s
  · cases hl : limI m.li s with
    | none =>
      obtain ⟨e1, e2⟩ := (h1.y hk).2 hl
      obtain ⟨e3, e4⟩ := (h2.y hk).2 hl
      exact ⟨e1.trans e3.symm, e2.trans e4.symm⟩
    | some i =>
      obtain ⟨e1, e2⟩ := (h1.y hk).1 i hl
      obtain ⟨e3, e4⟩ := (h2.y hk).1 i hl
      rw [e1] at e3
      exact ⟨Option.some.inj e3, e2.trans e4.symm⟩
  · obtain ⟨e1, e2⟩ := h1.n hk
    obtain ⟨e3, e4⟩ := h2.n hk
    exact ⟨e1.trans e3.symm, e2.trans e4.symm⟩
theorem lim_ok {m : Mch} (hV : VM m) {s : Int} {i : Nat} (h : limI m.li s = some i) : OkS m s := by
  obtain ⟨t, ht, rfl⟩ := limI_lt h
  obtain ⟨_, x, hx, hxf, _⟩ := (hV.t i t ht).e
  have := hV.n.mv x (List.mem_of_getElem? hx)
  exact ⟨hV, by omega, by omega⟩
theorem timeout21 (m : Mch) (sf sm sl : Sl) (s : Int) (h : Heap) (hM : MI h m sf sm sl) :
    Fn Tryz.prog 21 #[.agg ⟨mC m sf sm sl⟩, .int .i64 s] h fun v h' => Ext h h' ∧ ∃ t b, v = tmV t b ∧ TmO m s t b := by
  apply vc21 m.role m.n m.s sf sm sl; unfold W21
  have hln := hM.pl.ln
  refine (St.refl h).newb fun h7 hs => ?_
  refine hs.newb fun h8 hs => ?_
  refine hs.newb fun h9 hs => ?_
  refine ⟨_, _, _, sf, sm, sl, hs.at 2 rfl (o := 0) (n := 6) rfl, ?_⟩
  refine (valid23 m sf sm sl h9 (hM.ext hs.ext)).mono ?_
  rintro _ h18 ⟨⟨b, rfl, hb⟩, E⟩
  have hs := hs.step E
  refine ⟨_, rfl, sB_intro (fun c => ?_) (fun c => ?_)⟩
  · refine hs.put 0 rfl (o := 0) (vs := t0.cs) rfl (show 3 ≤ 3 by decide) fun h19 hs => ?_
    exact ⟨_, _, _, hs.at 0 rfl (o := 0) (n := 3) rfl, hs.ext, t0, false, rfl, fun hk => absurd hk.1 (iff_f hb (bF c)), fun _ => ⟨rfl, rfl⟩⟩
  · have hV := hb.1 (bT c)
    refine ⟨sl, hs.rd 2 rfl rfl, ?_⟩
    refine (index55 m.li sl _ s h18 (hM.pl.rw.ext hs.ext) hM.pl.sm (hs.rd 1 rfl rfl)).mono ?_
    rintro _ h26 ⟨rfl, E⟩
    have hs := hs.step E
    cases hl : limI m.li s with
    | none =>
      refine ⟨_, rfl, sBi (fun _ => ?_) (fun c3 => absurd (by decide) c3)⟩
      refine hs.put 0 rfl (o := 0) (vs := t0.cs) rfl (show 3 ≤ 3 by decide) fun h19 hs => ?_
      exact ⟨_, _, _, hs.at 0 rfl (o := 0) (n := 3) rfl, hs.ext, t0, false, rfl, fun hk => ⟨(fun i hi => by rw [hl] at hi; cases hi), fun _ => ⟨rfl, rfl⟩⟩, fun _ => ⟨rfl, rfl⟩⟩
    | some i =>
      obtain ⟨t, ht, hts⟩ := limI_lt hl
      have htl := (List.getElem?_eq_some_iff.1 ht).1
      refine ⟨_, rfl, sBi (fun c3 => by simp only [] at c3; omega) (fun _ => ?_)⟩
      refine ⟨sl, hs.rd 2 rfl rfl, ?_⟩
      refine (hM.pl.rw.ext hs.ext).nbI (by simp only []; omega) (by simp only []; omega) fun b32 o33 t' gt t36 => ?_
      replace gt : m.li[i]? = some t' := gt
      rw [ht] at gt; cases gt
      refine ⟨_, _, _, t36, ?_⟩
      refine hs.put 0 rfl (o := 0) (vs := t.cs) rfl (show 3 ≤ 3 by decide) fun h37 hs => ?_
      exact ⟨_, _, _, hs.at 0 rfl (o := 0) (n := 3) rfl, hs.ext, t, true, rfl, fun hk => ⟨fun j hj => by rw [hl] at hj; cases hj; exact ⟨ht, rfl⟩, fun hj => by rw [hl] at hj; cases hj⟩, fun hn => absurd (lim_ok hV hl) hn⟩
theorem refTimeout22 (m : Mch) (sf sm sl : Sl) (s : Int) (h : Heap) (hM : MI h m sf sm sl) :
    Fn Tryz.prog 22 #[.agg ⟨mC m sf sm sl⟩, .int .i64 s] h fun v h' => Ext h h' ∧ ∃ t b, v = tmV t b ∧ TmO m s t b := by
  apply vc22 m.role m.n m.s sf sm sl; unfold W22
  have hln := hM.pl.ln
  refine (St.refl h).newb fun h7 hs => ?_
  refine hs.newb fun h8 hs => ?_
  refine ⟨_, _, _, sf, sm, sl, hs.at 1 rfl (o := 0) (n := 6) rfl, ?_⟩
  refine (good53 m sf sm sl s h8 (hM.ext hs.ext)).mono ?_
  rintro _ h17 ⟨⟨b, rfl, hb⟩, E⟩
  have hs := hs.step E
  refine ⟨_, rfl, sB_intro (fun c => ?_) (fun c => ?_)⟩
  · refine hs.put 0 rfl (o := 0) (vs := t0.cs) rfl (show 3 ≤ 3 by decide) fun h19 hs => ?_
    exact ⟨_, _, _, hs.at 0 rfl (o := 0) (n := 3) rfl, hs.ext, t0, false, rfl, fun hk => absurd hk (iff_f hb (bF c)), fun _ => ⟨rfl, rfl⟩⟩
  · have hk := hb.1 (bT c)
    refine ⟨_, _, _, sf, sm, sl, hs.at 1 rfl (o := 0) (n := 6) rfl, ?_⟩
    refine (limit48 m sf sm sl s h17 (hM.ext hs.ext)).mono ?_
    rintro _ h30 ⟨rfl, E⟩
    have hs := hs.step E
    cases hl : limI m.li s with
    | none =>
      refine ⟨_, rfl, sBi (fun c3 => absurd c3 (by decide)) (fun _ => ?_)⟩
      refine hs.put 0 rfl (o := 0) (vs := t0.cs) rfl (show 3 ≤ 3 by decide) fun h19 hs => ?_
      exact ⟨_, _, _, hs.at 0 rfl (o := 0) (n := 3) rfl, hs.ext, t0, false, rfl, fun hk => ⟨(fun i hi => by rw [hl] at hi; cases hi), fun _ => ⟨rfl, rfl⟩⟩, fun _ => ⟨rfl, rfl⟩⟩
    | some i =>
      obtain ⟨t, ht, hts⟩ := limI_lt hl
      have htl := (List.getElem?_eq_some_iff.1 ht).1
      refine ⟨_, rfl, sBi (fun _ => ?_) (fun c3 => by simp only [] at c3; omega)⟩
      refine ⟨sl, hs.rd 1 rfl rfl, ?_⟩
      refine (hM.pl.rw.ext hs.ext).nbI (by simp only []; omega) (by simp only []; omega) fun b32 o33 t' gt t36 => ?_
      replace gt : m.li[i]? = some t' := gt
      rw [ht] at gt; cases gt
      refine ⟨_, _, _, t36, ?_⟩
      refine hs.put 0 rfl (o := 0) (vs := t.cs) rfl (show 3 ≤ 3 by decide) fun h37 hs => ?_
      exact ⟨_, _, _, hs.at 0 rfl (o := 0) (n := 3) rfl, hs.ext, t, true, rfl, fun hk => ⟨fun j hj => by rw [hl] at hj; cases hj; exact ⟨ht, rfl⟩, fun hj => by rw [hl] at hj; cases hj⟩, fun hn => absurd hk hn⟩
/-- what Next gives -/
structure NxO (m : Mch) (s : Int) (e : Ev) (a : Int) (b : Bool) : Prop where
  y : OkS m s ∧ 0 ≤ nxE m s e → a = nxE m s e ∧ b = true
  n : ¬ (OkS m s ∧ 0 ≤ nxE m s e) → a = 0 ∧ b = false
theorem NxO.uniq {m : Mch} {s : Int} {e : Ev} {a c : Int} {b d : Bool} (h1 : NxO m s e a b) (h2 : NxO m s e c d) : a = c ∧ b = d := by
  by_cases hk : OkS m s ∧ 0 ≤ nxE m s e
  · obtain ⟨e1, e2⟩ := h1.y hk
    obtain ⟨e3, e4⟩ := h2.y hk
    exact ⟨e1.trans e3.symm, e2.trans e4.symm⟩
  · obtain ⟨e1, e2⟩ := h1.n hk
    obtain ⟨e3, e4⟩ := h2.n hk
    exact ⟨e1.trans e3.symm, e2.trans e4.symm⟩
theorem next19' (m : Mch) (sf sm sl : Sl) (s : Int) (e : Ev) (h : Heap) (hM : MI h m sf sm sl) :
    Fn Tryz.prog 19 #[.agg ⟨mC m sf sm sl⟩, .int .i64 s, .bool e.send, .int .i64 e.peer, .int .i64 e.label] h fun v h' => Ext h h' ∧ ∃ a b, v = .tuple ⟨[.int .i64 a, .bool b]⟩ ∧ NxO m s e a b := by
  refine (next19 m sf sm sl s e h hM).mono ?_
  rintro v h' ⟨E, ⟨rfl, hn⟩ | ⟨rfl, h1, h2, h3, h4⟩⟩
  · exact ⟨E, 0, false, rfl, fun hk => absurd ⟨hk.1.1, hk.1.2.1, hk.1.2.2, hk.2⟩ hn, fun _ => ⟨rfl, rfl⟩⟩
  · exact ⟨E, _, true, rfl, fun _ => ⟨rfl, rfl⟩, fun hn => absurd ⟨⟨h1, h2, h3⟩, h4⟩ hn⟩
theorem refNext20 (m : Mch) (sf sm sl : Sl) (s : Int) (e : Ev) (h : Heap) (hM : MI h m sf sm sl) :
    Fn Tryz.prog 20 #[.agg ⟨mC m sf sm sl⟩, .int .i64 s, .bool e.send, .int .i64 e.peer, .int .i64 e.label] h fun v h' => Ext h h' ∧ ∃ a b, v = .tuple ⟨[.int .i64 a, .bool b]⟩ ∧ NxO m s e a b := by
  apply vc20 m.role m.n m.s sf sm sl; unfold W20
  refine (St.refl h).newb fun h7 hs => ?_
  refine ⟨_, _, _, sf, sm, sl, hs.at 0 rfl (o := 0) (n := 6) rfl, ?_⟩
  refine (good53 m sf sm sl s h7 (hM.ext hs.ext)).mono ?_
  rintro _ h16 ⟨⟨b, rfl, hb⟩, E⟩
  have hs := hs.step E
  refine ⟨_, rfl, sB_intro (fun c => ?_) (fun c => ?_)⟩
  · exact ⟨hs.ext, 0, false, rfl, fun hk => absurd hk.1 (iff_f hb (bF c)), fun _ => ⟨rfl, rfl⟩⟩
  · have hk := hb.1 (bT c)
    refine ⟨_, _, _, sf, sm, sl, hs.at 0 rfl (o := 0) (n := 6) rfl, _, hs.rd 0 rfl rfl, ?_⟩
    refine (refNext54 m sf sm sl s ⟨m.role, e.send, e.peer, e.label, ⟨none, 0, 0⟩⟩ h16 (hM.ext hs.ext)).mono ?_
    rintro _ h26 ⟨rfl, E⟩
    have hs := hs.step E
    have hnx : nxH m s ⟨m.role, e.send, e.peer, e.label, ⟨none, 0, 0⟩⟩ = nxE m s e := by unfold nxH; rw [if_pos rfl]; rfl
    rw [hnx]
    refine ⟨_, rfl, sBi (fun c1 => ?_) (fun c1 => ?_)⟩
    · exact ⟨hs.ext, _, true, rfl, fun _ => ⟨rfl, rfl⟩, fun hn => absurd ⟨hk, c1⟩ hn⟩
    · exact ⟨hs.ext, 0, false, rfl, fun hk2 => absurd hk2.2 c1, fun _ => ⟨rfl, rfl⟩⟩
theorem sameInts27 (L K : List Int) (s s2 : Sl) (h : Heap) (hr : Rw h 1 s (L.map inC)) (hr2 : Rw h 1 s2 (K.map inC)) (hl : L.length ≤ 1048576) (he : L = K) : Fn Tryz.prog 27 #[.slice s.a s.n s.c, .slice s2.a s2.n s2.c] h fun v h' => v = .bool true ∧ Ext h h' := by
  subst he
  apply vc27 s s2; unfold W27
  have hn := hr.ln
  have hn2 := hr2.ln
  refine sBn (fun c => by omega) (fun c => ?_)
  refine up_loop (n := s.n) (fun i h' => Ext h h') .rfl' ?_
  rintro - i h5 hi E
  refine sB_intro (fun c1 => ?_) (fun c1 => ⟨rfl, E⟩)
  replace c1 := lt_t c1
  refine (hr.ext E).nbI (by omega) (by omega) fun b6 o7 x gx t => ?_
  replace gx : L[i]? = some x := gx
  refine ⟨_, t.hd, ?_⟩
  refine (hr2.ext E).nbI (by omega) (by omega) fun b9 o10 y gy t2 => ?_
  replace gy : L[i]? = some y := gy
  rw [gx] at gy; cases gy
  exact ⟨_, t2.hd, sBn (fun c2 => absurd rfl c2) (fun _ => Up.next c1 (by omega) E)⟩
set_option maxHeartbeats 3200000 in
theorem moves5 (m : Mch) (sf sm sl : Sl) (s : Int) (e : Ev) (h : Heap) (hM : MI h m sf sm sl) (hx : Gx h) :
    Fn Tryz.prog 5 #[.agg ⟨mC m sf sm sl⟩, .agg ⟨[.int .i64 s, .bool e.send, .int .i64 e.peer, .int .i64 e.label]⟩] h fun v h' => v = .bool true ∧ Ext h h' := by
  apply vc5 m.role m.n m.s sf sm sl s e.send e.peer e.label; unfold W5
  refine (St.refl h).newb fun h11 hs => ?_
  refine hs.newb fun h12 hs => ?_
  refine (awake12 h12 (hx.ext hs.ext)).mono ?_
  rintro _ h15 ⟨rfl, E⟩
  have hs := hs.step E
  refine ⟨_, rfl, sB_f rfl ?_⟩
  refine ⟨_, _, _, sf, sm, sl, hs.at 1 rfl (o := 0) (n := 6) rfl, ?_⟩
  refine (few13 m sf sm sl h15 (hM.ext hs.ext)).mono ?_
  rintro _ h24 ⟨⟨b1, rfl, hb1⟩, E⟩
  have hs := hs.step E
  refine ⟨_, rfl, sB_intro (fun _ => ⟨rfl, hs.ext⟩) (fun c1 => ?_)⟩
  refine ⟨_, _, _, sf, sm, sl, hs.at 1 rfl (o := 0) (n := 6) rfl, _, hs.rd 0 rfl rfl, _, hs.rd 0 rfl rfl, _, hs.rd 0 rfl rfl, _, hs.rd 0 rfl rfl, ?_⟩
  refine (next19' m sf sm sl s e h24 (hM.ext hs.ext)).mono ?_
  rintro _ h38 ⟨E, na, nb, rfl, hN1⟩
  have hs := hs.step E
  refine ⟨_, _, rfl, ?_⟩
  refine ⟨_, _, _, sf, sm, sl, hs.at 1 rfl (o := 0) (n := 6) rfl, _, hs.rd 0 rfl rfl, _, hs.rd 0 rfl rfl, _, hs.rd 0 rfl rfl, _, hs.rd 0 rfl rfl, ?_⟩
  refine (refNext20 m sf sm sl s e h38 (hM.ext hs.ext)).mono ?_
  rintro _ h52 ⟨E, na2, nb2, rfl, hN2⟩
  have hs := hs.step E
  obtain ⟨rfl, rfl⟩ := hN1.uniq hN2
  refine ⟨_, _, rfl, ?_⟩
  refine ⟨_, _, _, sf, sm, sl, hs.at 1 rfl (o := 0) (n := 6) rfl, _, hs.rd 0 rfl rfl, ?_⟩
  refine (timeout21 m sf sm sl s h52 (hM.ext hs.ext)).mono ?_
  rintro _ h65 ⟨E, t, tb, rfl, hT1⟩
  have hs := hs.step E
  refine ⟨_, _, _, _, rfl, ?_⟩
  refine hs.newput (vs := t.cs) rfl rfl fun h67 hs => ?_
  refine ⟨_, _, _, sf, sm, sl, hs.at 2 rfl (o := 0) (n := 6) rfl, _, hs.rd 1 rfl rfl, ?_⟩
  refine (refTimeout22 m sf sm sl s h67 (hM.ext hs.ext)).mono ?_
  rintro _ h80 ⟨E, t', tb', rfl, hT2⟩
  have hs := hs.step E
  obtain ⟨rfl, rfl⟩ := hT1.uniq hT2
  refine ⟨_, _, _, _, rfl, ?_⟩
  refine hs.newput (vs := t.cs) rfl rfl fun h82 hs => ?_
  refine ⟨_, _, _, sf, sm, sl, hs.at 3 rfl (o := 0) (n := 6) rfl, _, _, _, sf, sm, sl, hs.at 3 rfl (o := 0) (n := 6) rfl, ?_⟩
  refine (valid23 m sf sm sl h82 (hM.ext hs.ext)).mono ?_
  rintro _ h97 ⟨⟨b2, rfl, hb2⟩, E⟩
  have hs := hs.step E
  refine ⟨_, rfl, E.sm, ?_⟩
  refine (refValid24 m sf sm sl h97 (hM.ext hs.ext)).mono ?_
  rintro _ h100 ⟨⟨b3, rfl, hb3⟩, E⟩
  have hs := hs.step E
  have hbb : b2 = b3 := Bool.eq_iff_iff.2 (hb2.trans hb3.symm)
  refine ⟨_, rfl, E.sm, sB_t (by rw [hbb]; simp) (sB_t (by simp) (sB_t (by simp) ?_))⟩
  refine ⟨_, _, _, hs.at 1 rfl (o := 0) (n := 3) rfl, _, _, _, hs.at 0 rfl (o := 0) (n := 3) rfl, sB_t (by simp) (sB_t (by simp) ?_)⟩
  refine ⟨_, _, _, sf, sm, sl, hs.at 3 rfl (o := 0) (n := 6) rfl, _, hs.rd 2 rfl rfl, _, _, _, sf, sm, sl, hs.at 3 rfl (o := 0) (n := 6) rfl, _, hs.rd 2 rfl rfl, ?_⟩
  refine (sends25 m sf sm sl s h100 (hM.ext hs.ext)).mono ?_
  rintro _ h123 ⟨E, O1, hO1, rfl⟩
  have hs := hs.step E
  refine ⟨_, rfl, E.sm, ?_⟩
  refine (refSends26 m sf sm sl s h123 (hM.ext hs.ext)).mono ?_
  rintro _ h126 ⟨E, O2, hO2, rfl⟩
  have hs := hs.step E
  obtain rfl := hO1.uniq hO2
  refine ⟨_, rfl, E.sm, sB_t (by simp) ?_⟩
  refine ⟨_, _, _, sf, sm, sl, hs.at 3 rfl (o := 0) (n := 6) rfl, _, hs.rd 2 rfl rfl, _, _, _, sf, sm, sl, hs.at 3 rfl (o := 0) (n := 6) rfl, _, hs.rd 2 rfl rfl, ?_⟩
  refine (moves28 m sf sm sl s h126 (hM.ext hs.ext)).mono ?_
  rintro _ h143 ⟨E, r, O3, rfl, hr, hO3⟩
  have hs := hs.step E
  refine ⟨_, rfl, E.sm, ?_⟩
  refine (refMoves29 m sf sm sl s h143 (hM.ext hs.ext)).mono ?_
  rintro _ h146 ⟨E, r2, O4, rfl, hr2, hO4⟩
  have hs := hs.step E
  obtain rfl := hO3.uniq hO4
  have hlen : (natI O3).length ≤ 1048576 := by
    have hmb := hM.pm.sm
    rw [show (natI O3).length = O3.length from List.length_map _]
    by_cases hk : OkS m s
    · rw [(hO3.y hk).1.length_eq]
      unfold outIx
      exact Nat.le_trans (List.length_filter_le _ _) (by rw [List.length_range]; exact hmb)
    · rw [hO3.n hk]; exact Nat.zero_le _
  refine ⟨_, rfl, E.sm, ?_⟩
  refine (sameInts27 (natI O3) (natI O3) r r2 h146 (hr.ext E) hr2 hlen rfl).mono ?_
  rintro _ h149 ⟨rfl, E⟩
  exact ⟨_, rfl, E.sm, rfl, (hs.step E).ext⟩
end Go.VC
end

section
/- What a machine and a history look like in memory where all that is read is of bulk at most 1048576. -/
namespace Go.VC
open Go.Proofs Go.LexS Go.RowKit Go.ChangeShapes Go.WideShapes Go.Proofs.YtkebghjhekoecaaGreatDoor
set_option maxRecDepth 100000
theorem bulk_pos {H : Type} (d : DataW H) : 1 ≤ Rows.uptoBulk d := by
  cases d with
  | lit l => cases l <;> simp [Rows.uptoBulk]
  | _ => simp [Rows.uptoBulk]
theorem bulk_part {H : Type} : ∀ {l : List (DataW H)} {d : DataW H}, d ∈ l → Rows.uptoBulk d ≤ Rows.uptoBulkAll l
  | [], _, h => by cases h
  | x :: r, d, h => by
    rw [Rows.uptoBulkAll]
    rcases List.mem_cons.1 h with rfl | h
    · omega
    · have := bulk_part h; omega
theorem bulk_len {H : Type} : ∀ l : List (DataW H), l.length ≤ Rows.uptoBulkAll l
  | [] => by simp
  | x :: r => by
    have h1 := bulk_pos x
    have h2 := bulk_len r
    rw [Rows.uptoBulkAll, List.length_cons]; omega
/-- the cells cs read as type t, of bulk at most a million or so -/
def Rdb (P : Program) (W : World) (t : TypeId) (cs : List Value) : Prop :=
  ∃ (H : Type) (enc : TypeId × Value → H) (n : Nat) (x : DataW H × List MemPlace), DataW.trod enc P W 0 (fun _ => true) true n t cs = some x ∧ Rows.uptoBulk x.1 ≤ 1048576
theorem Rdb.rdt {P : Program} {W : World} {t : TypeId} {cs : List Value} (h : Rdb P W t cs) : Rdt P W t cs := by
  obtain ⟨H, enc, n, x, h1, _⟩ := h; exact ⟨H, enc, n, x, h1⟩
theorem rdb_of_trod {H : Type} {enc : TypeId × Value → H} {P : Program} {W : World} {t : TypeId} {v : Value} {d : DataW H} {p : List MemPlace} (h : DataW.Trod enc P W 0 (fun _ => true) true t v d p) (hw : Rows.uptoBulk d ≤ 1048576) : Rdb P W t v.cells.toList := by
  obtain ⟨n, h⟩ := h
  exact ⟨H, enc, n, _, h, hw⟩
theorem Rdb.field {P : Program} {W : World} {t ft : TypeId} {cs : List Value} {i off : Nat} (h : Rdb P W t cs) (hf : fieldAt P t i = some (ft, off)) : Rdb P W ft ((cs.drop off).take (P.cellsOf ft)) := by
  unfold fieldAt at hf
  split at hf
  · rename_i fs hu
    obtain ⟨f, h1, h2⟩ := Option.map_eq_some_iff.1 hf
    cases h2
    obtain ⟨H, enc, n, x, h, hw⟩ := h
    obtain ⟨xs, m, _, hx, hl, hxl, hfi⟩ := DataW.trod_struct hu h
    have hlt : i < xs.length := by rw [hxl]; exact (Array.getElem?_eq_some_iff.1 h1).1
    refine ⟨H, enc, m, xs[i], by rw [hfi i f h1, List.getElem?_eq_getElem hlt], ?_⟩
    rw [hx, Rows.uptoBulk] at hw
    have := bulk_part (l := xs.map (·.1)) (d := xs[i].1) (List.mem_map.2 ⟨xs[i], List.getElem_mem hlt, rfl⟩)
    omega
  · cases hf
/-- a slice argument in memory: its rows -/
theorem Rdb.rows {P : Program} {W : World} {t e : TypeId} {cs : List Value} (ht : P.underlying t = some (.slice e)) (h : Rdb P W t cs) (hpos : 0 < P.cellsOf e) :
    ∃ (s : Sl) (rows : List (List Value)), cs = [.slice s.a s.n s.c] ∧ s.n ≤ s.c ∧ s.n ≤ 1048576 ∧ (s.a = none → s.n = 0 ∧ s.c = 0) ∧ Rw W.heap (P.cellsOf e) s rows ∧ ∀ r ∈ rows, r.length = P.cellsOf e ∧ Rdb P W e r := by
  obtain ⟨H, enc, n, x, h, hw⟩ := h
  rcases DataW.trod_slice ht h with ⟨rfl, _⟩ | ⟨a, len, cap, elems, rest, m, _, rfl, hx, _, hlc, hcm, hel, helem, _, _⟩
  · exact ⟨⟨none, 0, 0⟩, [], rfl, Nat.le_refl _, Nat.zero_le _, fun _ => ⟨rfl, rfl⟩, Rw.nil, fun r hr => by cases hr⟩
  · rw [hx, Rows.uptoBulk] at hw
    have hle : len ≤ 1048576 := by
      have := bulk_len (elems.map (·.1))
      rw [List.length_map] at this; omega
    have hwe : ∀ (i : Nat) (hi : i < elems.length), Rows.uptoBulk elems[i].1 ≤ 1048576 := fun i hi => by
      have := bulk_part (l := elems.map (·.1)) (d := elems[i].1) (List.mem_map.2 ⟨elems[i], List.getElem_mem hi, rfl⟩)
      omega
    by_cases h0 : len = 0
    · subst h0
      exact ⟨⟨some a, 0, cap⟩, [], rfl, hlc, hle, fun e => (by cases e), Rw.empty rfl, fun r hr => by cases hr⟩
    · have hrow : ∀ i, i < len → ∃ r, W.cells? 0 (a.add (i * P.cellsOf e)) (P.cellsOf e) = some r ∧ Rdb P W e r := by
        intro i hi
        have h1 := helem i hi
        rw [List.getElem?_eq_getElem (by omega)] at h1
        obtain ⟨r, hr, hx2⟩ := Option.bind_eq_some_iff.1 h1
        exact ⟨r, hr, H, enc, m, _, hx2, hwe i (by omega)⟩
      let row : Nat → List Value := fun i => (W.cells? 0 (a.add (i * P.cellsOf e)) (P.cellsOf e)).getD []
      have hrow' : ∀ i, i < len → W.cells? 0 (a.add (i * P.cellsOf e)) (P.cellsOf e) = some (row i) ∧ Rdb P W e (row i) := fun i hi => by
        obtain ⟨r, hr, hx⟩ := hrow i hi
        have : row i = r := by show (W.cells? 0 _ _).getD [] = r; rw [hr]; rfl
        rw [this]; exact ⟨hr, hx⟩
      have hget : ∀ i, i < len → ((List.range len).map row)[i]? = some (row i) := fun i hi => by
        rw [List.getElem?_map, List.getElem?_range hi]; rfl
      have hspot : a = ⟨a.block, a.off, none⟩ := by
        have hc := (cells_at (hrow' 0 (by omega)).1)
        have hl0 : 0 < (row 0).length := by rw [hc.1]; exact hpos
        have := hc.2 0 _ (List.getElem?_eq_getElem hl0)
        rw [Nat.zero_mul, show (a.add 0).add 0 = a from rfl] at this
        unfold World.cell? at this
        split at this
        · split at this
          · cases this
          · rename_i hs
            cases a with
            | mk b o s =>
              cases s with
              | none => rfl
              | some s => exact absurd rfl hs
        · cases this
      refine ⟨⟨some a, len, cap⟩, (List.range len).map row, rfl, hlc, hle, fun e => (by cases e), ⟨by simp, fun _ => ⟨a.block, a.off, by rw [← hspot], fun i r hi j v hj => ?_⟩⟩, fun r hr => ?_⟩
      · have hil : i < len := by have := (List.getElem?_eq_some_iff.1 hi).1; simpa using this
        rw [hget i hil] at hi; cases hi
        have h4 := (cells_at (hrow' i hil).1).2 _ _ hj
        rw [hspot] at h4
        have e : ((⟨a.block, a.off, none⟩ : Addr).add (i * P.cellsOf e)).add j = addk ⟨a.block, a.off + i * P.cellsOf e, none⟩ j := by
          rw [addk_at, add_n, add_n]
        rw [e] at h4
        exact h4
      · obtain ⟨i, hi, rfl⟩ := List.mem_map.1 hr
        have := hrow' i (List.mem_range.1 hi)
        exact ⟨(cells_at this.1).1, this.2⟩
/-- .. as a list -/
theorem Rdb.list {α : Type} {P : Program} {W : World} {t e : TypeId} {k : Nat} {v : Value} {cs : α → List Value} {Q : α → Prop} (ht : P.underlying t = some (.slice e)) (hk : P.cellsOf e = k) (hpos : 0 < k)
    (ho : ∀ r, Rdb P W e r → ∃ x, r = cs x ∧ Q x) (h : Rdb P W t [v]) : ∃ (s : Sl) (L : List α), v = .slice s.a s.n s.c ∧ RL W.heap k s cs L ∧ ∀ x ∈ L, Q x := by
  subst hk
  obtain ⟨s, rows, e1, hc, hm, hna, hrw, hr⟩ := h.rows ht hpos
  have key : ∀ rows : List (List Value), (∀ r ∈ rows, r.length = P.cellsOf e ∧ Rdb P W e r) → ∃ L : List α, rows = L.map cs ∧ ∀ x ∈ L, Q x := by
    intro rows
    induction rows with
    | nil => intro _; exact ⟨[], rfl, fun x hx => by cases hx⟩
    | cons r rows ih =>
      intro h
      obtain ⟨x, hx, hq⟩ := ho r (h r (by simp)).2
      obtain ⟨L, hL, hQ⟩ := ih fun y hy => h y (List.mem_cons_of_mem _ hy)
      exact ⟨x :: L, by rw [hx, hL]; rfl, fun y hy => by rcases List.mem_cons.1 hy with rfl | hy; exact hq; exact hQ y hy⟩
  obtain ⟨L, rfl, hQ⟩ := key rows hr
  have hn := hrw.ln
  exact ⟨s, L, by simpa using e1, ⟨hrw, hc, hna, by omega⟩, hQ⟩
theorem v3 : Tryz.prog.underlying 3 = some (.int .i64) := by kernel_rfl
theorem v4b : Tryz.prog.underlying 4 = some .bool := by kernel_rfl
theorem cz3 : Tryz.prog.cellsOf 3 = 1 := by kernel_rfl
theorem cz4 : Tryz.prog.cellsOf 4 = 1 := by kernel_rfl
theorem cz22 : Tryz.prog.cellsOf 22 = 1 := by kernel_rfl
theorem cz23 : Tryz.prog.cellsOf 23 = 1 := by kernel_rfl
theorem cz24 : Tryz.prog.cellsOf 24 = 1 := by kernel_rfl
theorem cz26 : Tryz.prog.cellsOf 26 = 6 := by kernel_rfl
theorem cz42 : Tryz.prog.cellsOf 42 = 4 := by kernel_rfl
theorem cz44 : Tryz.prog.cellsOf 44 = 3 := by kernel_rfl
theorem cz81 : Tryz.prog.cellsOf 81 = 6 := by kernel_rfl
theorem vs22 : Tryz.prog.underlying 22 = some (.slice 4) := by kernel_rfl
theorem vs23 : Tryz.prog.underlying 23 = some (.slice 81) := by kernel_rfl
theorem vs24 : Tryz.prog.underlying 24 = some (.slice 44) := by kernel_rfl
theorem open_three {W : World} {t : TypeId} {r : List Value} (hc : Tryz.prog.cellsOf t = 3) (h0 : fieldAt Tryz.prog t 0 = some (3, 0)) (h1 : fieldAt Tryz.prog t 1 = some (3, 1)) (h2 : fieldAt Tryz.prog t 2 = some (3, 2)) (h : Rdt Tryz.prog W t r) :
    ∃ a b c : Int, r = [.int .i64 a, .int .i64 b, .int .i64 c] := by
  have hl := h.flen h0
  rw [hc] at hl
  match r, hl with
  | [x0, x1, x2], _ =>
    have f0 := h.field h0
    have f1 := h.field h1
    have f2 := h.field h2
    rw [cz3] at f0 f1 f2
    obtain ⟨k0, e0, _⟩ := f0.int v3
    obtain ⟨k1, e1, _⟩ := f1.int v3
    obtain ⟨k2, e2, _⟩ := f2.int v3
    simp only [List.drop_zero, List.take_succ_cons, List.take_zero, List.drop_succ_cons, List.cons.injEq, and_true] at e0 e1 e2
    subst e0 e1 e2
    exact ⟨k0, k1, k2, rfl⟩
theorem open_boolv {W : World} {r : List Value} (h : Rdb Tryz.prog W 4 r) : ∃ x : Bool, r = bC x ∧ True := by
  obtain ⟨k, e⟩ := h.rdt.bool v4b
  exact ⟨k, e, trivial⟩
theorem open_limit {W : World} {r : List Value} (h : Rdb Tryz.prog W 44 r) : ∃ x : To, r = x.cs ∧ True := by
  obtain ⟨a, b, c, e⟩ := open_three cz44 (by kernel_rfl) (by kernel_rfl) (by kernel_rfl) h.rdt
  exact ⟨⟨a, b, c⟩, e, trivial⟩
theorem open_move {W : World} {r : List Value} (h : Rdb Tryz.prog W 81 r) : ∃ x : Mv, r = x.cs ∧ True := by
  have hl := h.rdt.flen (i := 0) (ft := 3) (off := 0) (by kernel_rfl)
  rw [cz81] at hl
  match r, hl with
  | [x0, x1, x2, x3, x4, x5], _ =>
    have f0 := h.rdt.field (i := 0) (ft := 3) (off := 0) (by kernel_rfl)
    have f1 := h.rdt.field (i := 1) (ft := 4) (off := 1) (by kernel_rfl)
    have f2 := h.rdt.field (i := 2) (ft := 3) (off := 2) (by kernel_rfl)
    have f3 := h.rdt.field (i := 3) (ft := 3) (off := 3) (by kernel_rfl)
    have f4 := h.rdt.field (i := 4) (ft := 3) (off := 4) (by kernel_rfl)
    have f5 := h.rdt.field (i := 5) (ft := 4) (off := 5) (by kernel_rfl)
    rw [cz3] at f0 f2 f3 f4
    rw [cz4] at f1 f5
    obtain ⟨k0, e0, _⟩ := f0.int v3
    obtain ⟨k1, e1⟩ := f1.bool v4b
    obtain ⟨k2, e2, _⟩ := f2.int v3
    obtain ⟨k3, e3, _⟩ := f3.int v3
    obtain ⟨k4, e4, _⟩ := f4.int v3
    obtain ⟨k5, e5⟩ := f5.bool v4b
    simp only [List.drop_zero, List.take_succ_cons, List.take_zero, List.drop_succ_cons, List.cons.injEq, and_true] at e0 e1 e2 e3 e4 e5
    subst e0 e1 e2 e3 e4 e5
    exact ⟨⟨k0, k1, k2, k3, k4, k5⟩, rfl, trivial⟩
theorem open_machine {W : World} {r : List Value} (h : Rdb Tryz.prog W 26 r) : ∃ (m : Mch) (sf sm sl : Sl), r = mC m sf sm sl ∧ MI W.heap m sf sm sl := by
  have hl := h.rdt.flen (i := 0) (ft := 3) (off := 0) (by kernel_rfl)
  rw [cz26] at hl
  match r, hl with
  | [x0, x1, x2, x3, x4, x5], _ =>
    have f0 := h.rdt.field (i := 0) (ft := 3) (off := 0) (by kernel_rfl)
    have f1 := h.rdt.field (i := 1) (ft := 3) (off := 1) (by kernel_rfl)
    have f2 := h.rdt.field (i := 2) (ft := 3) (off := 2) (by kernel_rfl)
    have f3 := h.field (i := 3) (ft := 22) (off := 3) (by kernel_rfl)
    have f4 := h.field (i := 4) (ft := 23) (off := 4) (by kernel_rfl)
    have f5 := h.field (i := 5) (ft := 24) (off := 5) (by kernel_rfl)
    rw [cz3] at f0 f1 f2
    rw [cz22] at f3
    rw [cz23] at f4
    rw [cz24] at f5
    obtain ⟨k0, e0, _⟩ := f0.int v3
    obtain ⟨k1, e1, _⟩ := f1.int v3
    obtain ⟨k2, e2, _⟩ := f2.int v3
    obtain ⟨sf, lf, e3, hf, _⟩ := Rdb.list vs22 cz4 (by omega) (fun r hr => open_boolv hr) (show Rdb Tryz.prog W 22 [x3] from f3)
    obtain ⟨sm, lm, e4, hm, _⟩ := Rdb.list vs23 cz81 (by omega) (fun r hr => open_move hr) (show Rdb Tryz.prog W 23 [x4] from f4)
    obtain ⟨sl, ll, e5, hl, _⟩ := Rdb.list vs24 cz44 (by omega) (fun r hr => open_limit hr) (show Rdb Tryz.prog W 24 [x5] from f5)
    simp only [List.drop_zero, List.take_succ_cons, List.take_zero, List.drop_succ_cons, List.cons.injEq, and_true] at e0 e1 e2
    subst e0 e1 e2 e3 e4 e5
    exact ⟨⟨k0, k1, k2, lf, lm, ll⟩, sf, sm, sl, rfl, ⟨hf, hm, hl⟩⟩
theorem open_where {W : World} {r : List Value} (h : Rdb Tryz.prog W 42 r) : ∃ (s : Int) (e : Ev), r = [.int .i64 s, .bool e.send, .int .i64 e.peer, .int .i64 e.label] := by
  have hl := h.rdt.flen (i := 0) (ft := 3) (off := 0) (by kernel_rfl)
  rw [cz42] at hl
  match r, hl with
  | [x0, x1, x2, x3], _ =>
    have f0 := h.rdt.field (i := 0) (ft := 3) (off := 0) (by kernel_rfl)
    have f1 := h.rdt.field (i := 1) (ft := 4) (off := 1) (by kernel_rfl)
    have f2 := h.rdt.field (i := 2) (ft := 3) (off := 2) (by kernel_rfl)
    have f3 := h.rdt.field (i := 3) (ft := 3) (off := 3) (by kernel_rfl)
    rw [cz3] at f0 f2 f3
    rw [cz4] at f1
    obtain ⟨k0, e0, _⟩ := f0.int v3
    obtain ⟨k1, e1⟩ := f1.bool v4b
    obtain ⟨k2, e2, _⟩ := f2.int v3
    obtain ⟨k3, e3, _⟩ := f3.int v3
    simp only [List.drop_zero, List.take_succ_cons, List.take_zero, List.drop_succ_cons, List.cons.injEq, and_true] at e0 e1 e2 e3
    subst e0 e1 e2 e3
    exact ⟨k0, ⟨k1, k2, k3⟩, rfl⟩
end Go.VC
end
