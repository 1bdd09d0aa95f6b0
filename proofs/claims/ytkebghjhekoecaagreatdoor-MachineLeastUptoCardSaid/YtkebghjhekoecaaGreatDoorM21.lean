/- Texts of this claim, joined: RjB. -/
import Derived.Test.YtkebghjhekoecaaGreatDoorM20
import Derived.Test.YtkebghjhekoecaaGreatDoorM19
set_option linter.unusedVariables false
set_option linter.unusedSimpArgs false

section
/- Contracts: the numbers of a machine; its table, the moves of each state sorted. (Numbers of layer 26's seat.) -/
namespace Go.VC
open Go.Proofs Go.LexS
set_option maxRecDepth 100000
structure NumM (m : Mch) : Prop where
  r : 0 ≤ m.role ∧ m.role < 6
  n : 1 ≤ m.n ∧ m.n ≤ 200
  s : 0 ≤ m.s ∧ m.s < m.n
  fl : (m.fin.length : Int) = m.n
  ml : m.mv.length ≤ 400
  mv : ∀ x ∈ m.mv, 0 ≤ x.f ∧ x.f < m.n ∧ 0 ≤ x.t ∧ x.t < m.n ∧ 0 ≤ x.peer ∧ x.peer < 6 ∧ x.peer ≠ m.role ∧ 0 ≤ x.label ∧ x.label < 40
theorem state151 (m : Mch) (sf sm sl : Sl) (p : Int) (h : Heap) : Fn Tryz.prog 151 #[.agg ⟨mC m sf sm sl⟩, .int .i64 p] h (RP (0 ≤ p ∧ p < m.n) h) := by
  apply vc151 m.role m.n m.s sf sm sl; unfold W151
  refine (St.refl h).newb fun h7 hs => ?_
  refine sBi (fun c => ⟨_, hs.rd 0 rfl rfl, RP.e ?_ hs.ext⟩) (fun c => RP.f (by omega) hs.ext)
  rw [decide_eq_true_eq]; omega
theorem numbers96 (m : Mch) (sf sm sl : Sl) (h : Heap) (hM : MI h m sf sm sl) : Fn Tryz.prog 96 #[.agg ⟨mC m sf sm sl⟩] h (RP (NumM m) h) := by
  apply vc96 m.role m.n m.s sf sm sl; unfold W96
  have hfn := hM.pf.ln
  have hmn := hM.pm.ln
  have hmm := hM.pm.sm
  refine (St.refl h).newb fun h7 hs => ?_
  refine ⟨_, hs.rd 0 rfl rfl, sBi (fun c => RP.f (fun hG => by have := hG.r; omega) hs.ext) (fun c1 => ?_)⟩
  refine ⟨_, hs.rd 0 rfl rfl, sBi (fun c => RP.f (fun hG => by have := hG.r; omega) hs.ext) (fun c2 => ?_)⟩
  refine ⟨_, hs.rd 0 rfl rfl, sBi (fun c => RP.f (fun hG => by have := hG.n; omega) hs.ext) (fun c3 => ?_)⟩
  refine ⟨_, hs.rd 0 rfl rfl, sBi (fun c => RP.f (fun hG => by have := hG.n; omega) hs.ext) (fun c4 => ?_)⟩
  refine ⟨_, _, _, sf, sm, sl, hs.at 0 rfl (o := 0) (n := 6) rfl, _, hs.rd 0 rfl rfl, ?_⟩
  refine (state151 m sf sm sl m.s h7).mono ?_
  rintro _ h21 ⟨⟨b1, rfl, hb1⟩, E⟩
  have hs := hs.step E
  refine ⟨_, rfl, sB_intro (fun c => RP.f (fun hG => iff_f hb1 (bF c) hG.s) hs.ext) (fun c5 => ?_)⟩
  have f5 := hb1.1 (bT c5)
  refine ⟨sf, hs.rd 0 rfl rfl, _, hs.rd 0 rfl rfl, sBn (fun c => RP.f (fun hG => by have := hG.fl; omega) hs.ext) (fun c6 => ?_)⟩
  refine ⟨sm, hs.rd 0 rfl rfl, sBi (fun c => RP.f (fun hG => by have := hG.ml; omega) hs.ext) (fun c7 => ?_)⟩
  refine ⟨sm, hs.rd 0 rfl rfl, ?_⟩
  refine up_loopS (n := sm.n) hs (fun i => ∀ (j : Nat) (x : Mv), j < i → m.mv[j]? = some x → 0 ≤ x.f ∧ x.f < m.n ∧ 0 ≤ x.t ∧ x.t < m.n ∧ 0 ≤ x.peer ∧ x.peer < 6 ∧ x.peer ≠ m.role ∧ 0 ≤ x.label ∧ x.label < 40) (fun j x hj => by omega) ?_
  rintro - i h30 hi ⟨hs, hq⟩
  refine sB_intro (fun c => ?_) (fun c => RP.t ⟨by omega, by omega, f5, by omega, by omega, fun x hx => ?_⟩ hs.ext)
  · replace c := lt_t c
    refine (hM.pm.rw.ext hs.ext).nbI (by omega) (by omega) fun b o x gx t => ?_
    replace gx : m.mv[i]? = some x := gx
    have hxm := List.mem_of_getElem? gx
    refine ⟨_, _, _, _, _, _, t, ?_⟩
    refine hs.newput (vs := x.cs) rfl rfl fun h40 hs => ?_
    refine ⟨_, _, _, sf, sm, sl, hs.at 1 rfl (o := 0) (n := 6) rfl, _, hs.rd 0 rfl rfl, ?_⟩
    refine (state151 m sf sm sl x.f h40).mono ?_
    rintro _ h50 ⟨⟨b2, rfl, hb2⟩, E⟩
    have hs := hs.step E
    refine ⟨_, rfl, sB_intro (fun c => RP.f (fun hG => iff_f hb2 (bF c) (by have := hG.mv x hxm; omega)) hs.ext) (fun d1 => ?_)⟩
    refine ⟨_, _, _, sf, sm, sl, hs.at 1 rfl (o := 0) (n := 6) rfl, _, hs.rd 0 rfl rfl, ?_⟩
    refine (state151 m sf sm sl x.t h50).mono ?_
    rintro _ h60 ⟨⟨b3, rfl, hb3⟩, E⟩
    have hs := hs.step E
    refine ⟨_, rfl, sB_intro (fun c => RP.f (fun hG => iff_f hb3 (bF c) (by have := hG.mv x hxm; omega)) hs.ext) (fun d2 => ?_)⟩
    have g1 := hb2.1 (bT d1)
    have g2 := hb3.1 (bT d2)
    repeat' (first
        | (refine ⟨_, hs.rd 0 rfl rfl, ?_⟩)
        | (refine ⟨_, hs.rd 1 rfl rfl, ?_⟩)
        | (refine sBi (fun _ => ?_) (fun _ => ?_))
        | (refine sBe (fun _ => ?_) (fun _ => ?_))
        | (refine sBn (fun _ => ?_) (fun _ => ?_)))
    all_goals first
      | exact RP.f (fun hG => by have := hG.mv x hxm; omega) hs.ext
      | (refine Up.next c (by omega) ⟨hs.drop 1, fun j y hj hy => ?_⟩
         by_cases e : j = i
         · subst e; rw [gx] at hy; cases hy; omega
         · exact hq j y (by omega) hy)
  · replace c := lt_f c
    obtain ⟨j, hj⟩ := List.mem_iff_getElem?.1 hx
    exact hq j x (by have := (List.getElem?_eq_some_iff.1 hj).1; omega) hj
def outP (m : Mch) (s : Int) (i : Nat) : Bool := match m.mv[i]? with | some x => decide (x.f = s) | none => false
def outIx (m : Mch) (s : Int) : List Nat := (List.range m.mv.length).filter (outP m s)
theorem outIx_mem {m : Mch} {s : Int} {k : Nat} : k ∈ outIx m s ↔ ∃ x, m.mv[k]? = some x ∧ x.f = s := by
  unfold outIx
  rw [List.mem_filter, List.mem_range]
  constructor
  · rintro ⟨h1, h2⟩
    unfold outP at h2
    rw [List.getElem?_eq_getElem h1] at h2
    exact ⟨_, List.getElem?_eq_getElem h1, of_decide_eq_true h2⟩
  · rintro ⟨x, hx, hf⟩
    refine ⟨(List.getElem?_eq_some_iff.1 hx).1, ?_⟩
    unfold outP
    rw [hx]; exact decide_eq_true hf
def evI (m : Mch) (i : Nat) : Ev := match m.mv[i]? with | some x => x.ev | none => ⟨false, 0, 0⟩
/-- a state's moves, sorted -/
structure SrtM (m : Mch) (s : Nat) (l : List Nat) : Prop where
  p : l.Perm (outIx m (s : Int))
  s : l.Pairwise fun a b => ¬ evLt (evI m b) (evI m a)
/-- a table in memory -/
structure TbI (h : Heap) (a : Addr) (m : Mch) (sf sm sl : Sl) (S : Nat → List Nat) : Prop where
  ex : ∃ (ho : Sl) (qs : Nat → Sl), a.spot = none ∧ atC h a (mC m sf sm sl ++ [.slice ho.a ho.n ho.c]) ∧ ho.n = m.n.toNat ∧
    Rw h 1 ho ((List.range m.n.toNat).map fun i => slC (qs i)) ∧ ∀ i, i < m.n.toNat → Rw h 1 (qs i) ((natI (S i)).map inC)
  so : ∀ i, i < m.n.toNat → SrtM m i (S i)
theorem TbI.ext {h h' : Heap} {a : Addr} {m : Mch} {sf sm sl : Sl} {S : Nat → List Nat} (hl : TbI h a m sf sm sl S) (E : Ext h h') : TbI h' a m sf sm sl S := by
  obtain ⟨ho, qs, h0, h1, h2, h3, h4⟩ := hl.ex
  exact ⟨⟨ho, qs, h0, atC_ext E h1, h2, h3.ext E, fun i hi => (h4 i hi).ext E⟩, hl.so⟩
/-- slices.SortFunc at lists of numbers of moves, by the order of their events -/
def Sort152 : Prop := ∀ (m : Mch) (sm : Sl) (a : Addr) {h0 h : Heap} {Ls : List It}, St h0 h Ls → ∀ (i : Nat) {s : Sl} {l : List Nat}, Ls[i]? = some (.sl s 3 1 ((natI l).map inC)) → (∀ x ∈ l, x < m.mv.length) → (l = [] → s.a = none) → m.mv.length ≤ 1048576 → l.length ≤ 1048576 →
  (∀ h' : Heap, h.size ≤ h'.size → (∀ c, c < h.size → s.a.map (·.block) ≠ some c → h'[c]? = h[c]?) → hc h' ⟨a.block, a.off + 4, none⟩ = some (.slice sm.a sm.n sm.c) ∧ Rw h' 6 sm (m.mv.map Mv.cs)) →
  Fn Tryz.prog 152 #[.slice s.a s.n s.c, .func (.func 153) #[] #[.pointer (some a)]] h fun v h' => v = .tuple ⟨[]⟩ ∧ ∃ l' : List Nat, l'.Perm l ∧ l'.Pairwise (fun a b => ¬ evLt (evI m b) (evI m a)) ∧ St h0 h' (Ls.set i (.sl s 3 1 ((natI l').map inC)))
end Go.VC
end
