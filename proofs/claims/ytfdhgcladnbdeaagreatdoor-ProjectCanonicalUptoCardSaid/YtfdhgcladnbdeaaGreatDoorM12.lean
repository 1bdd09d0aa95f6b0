/- Texts of this claim, joined: PjMb, PjMc, PjMd, PjMe, PjNa, PjNb, PjNc, PjNd, PjNe. -/
import Derived.Test.YtfdhgcladnbdeaaGreatDoorM11
set_option linter.unusedVariables false
set_option linter.unusedSimpArgs false

section
/- Contracts: equal time limits, right machines, the moves of a state, small automata. -/
namespace Go.VC
open Go.Proofs Go.LexS
set_option maxRecDepth 100000

/-- what a machine of Project is like -/
structure MGood (m : Mch) : Prop where
  n : 1 ≤ m.n ∧ m.n ≤ 200
  s : 0 ≤ m.s ∧ m.s < m.n
  fl : m.fin.length = m.n.toNat
  mv : ∀ x ∈ m.mv, 0 ≤ x.f ∧ x.f < m.n ∧ 0 ≤ x.t ∧ x.t < m.n
  li : ∀ t ∈ m.li, 0 ≤ t.s ∧ t.s < m.n ∧ 0 ≤ t.e ∧ t.e < m.mv.length ∧ ∃ y, m.mv[t.e.toNat]? = some y ∧ y.f = t.s
  so : m.mv.Pairwise mvLt
set_option maxHeartbeats 1000000 in
theorem right17 (m : Mch) (sf sm sl : Sl) (h : Heap) (hM : MI h m sf sm sl) (hG : MGood m) :
    Fn Tryz.prog 17 #[.agg ⟨mC m sf sm sl⟩] h fun v h' => v = .bool true ∧ Ext h h' := by
  apply vc17 m.role m.n m.s sf sm sl; unfold W17
  have hs := St.refl h
  have hln := hM.pl.ln
  have hmn := hM.pm.ln
  have hfn := hM.pf.ln
  have hlb := hM.pl.sm
  have hmb := hM.pm.sm
  obtain ⟨hG1, hG2, hG3, hG4, hG5, _⟩ := hG
  refine hs.newb fun h7 hs => ?_
  refine ⟨_, hs.rd 0 rfl rfl, sBi (fun c => by omega) fun _ => ?_⟩
  refine ⟨sf, hs.rd 0 rfl rfl, _, hs.rd 0 rfl rfl, sBn (fun c => by omega) fun _ => ?_⟩
  refine ⟨_, hs.rd 0 rfl rfl, sBi (fun c => by omega) fun _ => ?_⟩
  refine ⟨_, hs.rd 0 rfl rfl, _, hs.rd 0 rfl rfl, sBi (fun c => by omega) fun _ => ?_⟩
  refine ⟨sm, hs.rd 0 rfl rfl, ?_⟩
  refine up_loopS (n := sm.n) hs (fun _ => True) trivial ?_
  clear hs
  rintro - i h19 hi ⟨hs, _⟩
  refine sBi (fun c1 => ?_) (fun c1 => ?_)
  · refine (hM.pm.ext hs.ext).rw.nbI (by omega) (by omega) fun b20 o21 x g20 t20 => ?_
    obtain ⟨hx1, hx2, hx3, hx4⟩ := hG4 x (List.mem_of_getElem? g20)
    refine ⟨_, _, _, _, _, _, t20, ?_⟩
    refine hs.newput (vs := x.cs) rfl rfl fun h29 hs => ?_
    refine ⟨_, hs.rd 0 rfl rfl, sBi (fun c => by omega) fun _ => ?_⟩
    refine ⟨_, hs.rd 0 rfl rfl, _, hs.rd 1 rfl rfl, sBi (fun c => by omega) fun _ => ?_⟩
    refine ⟨_, hs.rd 0 rfl rfl, sBi (fun c => by omega) fun _ => ?_⟩
    refine ⟨_, hs.rd 0 rfl rfl, _, hs.rd 1 rfl rfl, sBi (fun c => by omega) fun _ => ?_⟩
    exact Up.next (by omega) (by omega) ⟨hs.drop 1, trivial⟩
  · refine ⟨sl, hs.rd 0 rfl rfl, ?_⟩
    refine up_loopS (n := sl.n) hs (fun _ => True) trivial ?_
    clear hs
    rintro - i h42 hi ⟨hs, _⟩
    refine sBi (fun c2 => ?_) (fun c2 => ?_)
    · refine (hM.pl.ext hs.ext).rw.nbI (by omega) (by omega) fun b43 o44 t g43 t43 => ?_
      obtain ⟨ht1, ht2, ht3, ht4, y, hy, hyf⟩ := hG5 t (List.mem_of_getElem? g43)
      refine ⟨_, _, _, t43, ?_⟩
      refine hs.newput (vs := t.cs) rfl rfl fun h49 hs => ?_
      refine ⟨_, hs.rd 0 rfl rfl, sBi (fun c => by omega) fun _ => ?_⟩
      refine ⟨_, hs.rd 0 rfl rfl, _, hs.rd 1 rfl rfl, sBi (fun c => by omega) fun _ => ?_⟩
      refine ⟨_, hs.rd 0 rfl rfl, sBi (fun c => by omega) fun _ => ?_⟩
      refine ⟨_, hs.rd 0 rfl rfl, sm, hs.rd 1 rfl rfl, sBi (fun c => by omega) fun _ => ?_⟩
      refine ⟨sm, hs.rd 1 rfl rfl, _, hs.rd 0 rfl rfl, ?_⟩
      refine (hM.pm.ext hs.ext).rw.nbI (by omega) (by omega) fun b58 o59 y' g58 t58 => ?_
      rw [hy] at g58; cases g58
      refine ⟨_, t58.hd, _, hs.rd 0 rfl rfl, sBn (fun c => absurd hyf c) fun _ => ?_⟩
      exact Up.next (by omega) (by omega) ⟨hs.drop 1, trivial⟩
    · exact ⟨rfl, hs.ext⟩
def FewS (g : Gl) : Prop := g.es.length ≤ 50 ∧ g.rs.length ≤ 6 ∧ g.ds.length ≤ 40 ∧ g.ts.length ≤ 50
instance (g : Gl) : Decidable (FewS g) := by unfold FewS; infer_instance
theorem few35 (g : Gl) (h : Heap) (hg : GI h g) : Fn Tryz.prog 35 #[g.v] h fun v h' => v = .bool (decide (FewS g)) ∧ Ext h h' := by
  apply vc35 (bs g.nm) g.hr g.hd g.n g.s g.e g.he g.ht; unfold W35
  have hs := St.refl h
  have h1 := hg.e.ln
  have h2 := hg.r.ln
  have h3 := hg.d.r.ln
  have h4 := hg.t.ln
  refine hs.newb fun h9 hs => ?_
  refine ⟨_, hs.rd 0 rfl rfl, ?_⟩
  refine sBi (fun c1 => ?_) (fun c1 => ⟨dF fun hc => by unfold FewS at hc; omega, hs.ext⟩)
  refine ⟨_, hs.rd 0 rfl rfl, ?_⟩
  refine sBi (fun c2 => ?_) (fun c2 => ⟨dF fun hc => by unfold FewS at hc; omega, hs.ext⟩)
  refine ⟨_, hs.rd 0 rfl rfl, ?_⟩
  refine sBi (fun c3 => ?_) (fun c3 => ⟨dF fun hc => by unfold FewS at hc; omega, hs.ext⟩)
  refine ⟨_, hs.rd 0 rfl rfl, ?_, hs.ext⟩
  congr 1
  rw [decide_eq_decide]
  unfold FewS
  omega
theorem few11 (g : Gl) (h : Heap) (hg : GI h g) : Fn Tryz.prog 11 #[g.v] h fun v h' => v = .bool (decide (FewS g ∧ g.n ≤ 25)) ∧ Ext h h' := by
  apply vc11 (bs g.nm) g.hr g.hd g.n g.s g.e g.he g.ht; unfold W11
  have hs := St.refl h
  refine hs.newb fun h9 hs => ?_
  refine ⟨_, _, _, _, _, _, _, _, hs.at 0 rfl (n := 8) rfl, ?_⟩
  refine (few35 g h9 (hg.ext hs.ext)).mono ?_
  rintro _ h20 ⟨rfl, E20⟩
  replace hs := hs.step E20
  refine ⟨_, rfl, ?_⟩
  refine sBi (fun c1 => ?_) (fun c1 => ⟨dF fun hc => c1 hc.1, hs.ext⟩)
  refine ⟨_, hs.rd 0 rfl rfl, ?_, hs.ext⟩
  congr 1
  rw [decide_eq_decide]
  exact ⟨fun h => ⟨c1, h⟩, fun h => h.2⟩
end Go.VC
end

section
/- Contract: the moves of a state. -/
namespace Go.VC
open Go.Proofs Go.LexS
set_option maxRecDepth 100000

def outP (m : Mch) (s : Int) (i : Nat) : Bool := match m.mv[i]? with | some x => decide (x.f = s) | none => false
def outIx (m : Mch) (s : Int) : List Nat := (List.range m.mv.length).filter (outP m s)
theorem mvLt_get {l : List Mv} (hS : l.Pairwise mvLt) {i j : Nat} {x y : Mv} (hij : i < j) (hx : l[i]? = some x) (hy : l[j]? = some y) : mvLt x y := by
  obtain ⟨h1, h2⟩ := List.getElem?_eq_some_iff.1 hx
  obtain ⟨h3, h4⟩ := List.getElem?_eq_some_iff.1 hy
  have := List.pairwise_iff_getElem.1 hS i j h1 h3 hij
  rwa [h2, h4] at this
end Go.VC
end

section
/- Contract: the law of minimal machines (over what Project's machines are). -/
namespace Go.VC
open Go.Proofs Go.LexS
set_option maxRecDepth 100000

/-- what two states must agree in at first -/
def base (m : Mch) (i k : Nat) : Bool := decide (m.fin.getD i false = m.fin.getD k false) && sameLim m i k
/-- the moves of two states lead by the same events to pairs of B -/
def stepOk (m : Mch) (B : Nat → Nat → Bool) (i k : Nat) : Prop :=
  (outIx m i).length = (outIx m k).length ∧ ∀ (j a b : Nat) (x y : Mv), (outIx m i)[j]? = some a → (outIx m k)[j]? = some b → m.mv[a]? = some x → m.mv[b]? = some y → sameMv x y = true ∧ B x.t.toNat y.t.toNat = true
/-- no two states agree -/
def HMin (m : Mch) : Prop := ∀ B : Nat → Nat → Bool, (∀ i k : Nat, i < m.n → k < m.n → B i k = true → base m i k = true ∧ stepOk m B i k) → ∀ i k : Nat, i < m.n → k < m.n → B i k = true → i = k
end Go.VC
end

section
/- Contract: ProjectMinimal, over what Project's machines are. -/
namespace Go.VC
open Go.Proofs Go.LexS
set_option maxRecDepth 100000

end Go.VC
end

section
/- The classes are stable, and rounds. No program here. -/
namespace Go.VC
open Go.LexS

def itC (m : Mch) : Nat → List Nat
  | 0 => List.replicate m.n.toNat 0
  | k + 1 => canonL (clsK m (itC m k))
theorem itC_len (m : Mch) : ∀ k, (itC m k).length = m.n.toNat
  | 0 => List.length_replicate
  | k + 1 => by rw [itC, canonL_len, clsK_len]
theorem clsN_it {m : Mch} (hO : MOk m) : ∀ (f N : Nat), 202 ≤ f + (if N = 0 then 0 else (dedF (itC m N)).length) → ∃ N', N ≤ N' ∧ (clsN m f (itC m N) (if N = 0 then 0 else (dedF (itC m N)).length)).1 = itC m (N' + 1) ∧ (dedF (clsK m (itC m N'))).length = (if N' = 0 then 0 else (dedF (itC m N')).length)
  | 0, N, h => by
    have hn := hO.n
    exfalso
    split at h
    · omega
    · have := dedF_len_le (itC m N)
      rw [itC_len] at this
      omega
  | f + 1, N, h => by
    rw [clsN]
    have hn := hO.n
    have hge := clsK_ge (itC_len m N)
    by_cases e : (dedF (clsK m (itC m N))).length = if N = 0 then 0 else (dedF (itC m N)).length
    · rw [if_pos e]
      exact ⟨N, Nat.le_refl _, rfl, e⟩
    · rw [if_neg e]
      have e1 : (dedF (clsK m (itC m N))).length = if N + 1 = 0 then 0 else (dedF (itC m (N + 1))).length := by
        rw [if_neg (by omega), itC, dedF_canon]
      have hlt : (if N = 0 then 0 else (dedF (itC m N)).length) < (dedF (clsK m (itC m N))).length := by
        split at e
        · rename_i h0
          subst h0
          rw [if_pos rfl]; omega
        · rename_i h0
          rw [if_neg h0]; omega
      have ih := clsN_it hO f (N + 1) (by rw [← e1]; omega)
      rw [← e1] at ih
      obtain ⟨N', h1, h2, h3⟩ := ih
      exact ⟨N', by omega, h2, h3⟩
theorem ded_inj {K K' : Type} [DecidableEq K] [DecidableEq K'] {l : List K} {f : K → K'} (h : (dedF (l.map f)).length = (dedF l).length) {a b : K} (ha : a ∈ l) (hb : b ∈ l) (hab : f a = f b) : a = b := by
  by_cases e : a = b
  · exact e
  exfalso
  have h1 := List.Nodup.length_le_of_subset (dedF_nodup (l.map f)) (l₂ := ((dedF l).filter fun x => decide (x ≠ b)).map f) fun y hy => by
    rw [dedF_mem] at hy
    obtain ⟨x, hx, rfl⟩ := List.mem_map.1 hy
    by_cases ex : x = b
    · subst ex
      exact List.mem_map.2 ⟨a, List.mem_filter.2 ⟨(dedF_mem _ _).2 ha, by simpa using e⟩, hab⟩
    · exact List.mem_map.2 ⟨x, List.mem_filter.2 ⟨(dedF_mem _ _).2 hx, by simpa using ex⟩, rfl⟩
  rw [List.length_map, h] at h1
  have h2 : ((dedF l).filter fun x => decide (x ≠ b)).length < (dedF l).length := by
    rcases Nat.lt_or_ge ((dedF l).filter fun x => decide (x ≠ b)).length (dedF l).length with h3 | h3
    · exact h3
    · have := List.filter_eq_self.1 ((List.filter_sublist (l := dedF l) (p := fun x => decide (x ≠ b))).eq_of_length_le h3) b ((dedF_mem _ _).2 hb)
      simp at this
  omega
theorem clsK_map {m : Mch} {C : List Nat} (hC : C.length = m.n.toNat) : C = (clsK m C).map fun k => match k.getLast? with | some s => s.b.toNat | none => 0 := by
  apply List.ext_getElem?
  intro i
  unfold clsK
  rw [List.map_map, List.getElem?_map]
  by_cases hi : i < m.n.toNat
  · rw [List.getElem?_range hi]
    obtain ⟨c, hc⟩ := get_some (l := C) (i := i) (by omega)
    rw [hc]
    show _ = some (match (keyS m C i).getLast? with | some s => s.b.toNat | none => 0)
    have : (keyS m C i).getLast? = some (sgB C m.fin i) := by
      unfold keyS keyH
      rw [← List.append_assoc, List.getLast?_append]; rfl
    rw [this]
    unfold sgB
    simp [List.getD_eq_getElem?_getD, hc]
  · rw [List.getElem?_eq_none (by omega), List.getElem?_eq_none (by rw [List.length_range]; omega)]; rfl
theorem clsK_get {m : Mch} {C : List Nat} {i : Nat} (hi : i < m.n.toNat) : (clsK m C)[i]? = some (keyS m C i) := by unfold clsK; rw [List.getElem?_map, List.getElem?_range hi]; rfl
theorem keyS_b {m : Mch} {C : List Nat} (hC : C.length = m.n.toNat) {x y : Nat} (hx : x < m.n.toNat) (hy : y < m.n.toNat) (h : keyS m C x = keyS m C y) : C[x]? = C[y]? := by
  have e := clsK_map hC
  generalize hf : (fun k : List Sg => match k.getLast? with | some s => s.b.toNat | none => 0) = f at e
  rw [e, List.getElem?_map, List.getElem?_map, clsK_get hx, clsK_get hy, h]
/-- the classes are stable -/
theorem cls_stable {m : Mch} (hO : MOk m) : ∃ N, (cls m).1 = itC m (N + 1) ∧ (∀ x y : Nat, x < m.n.toNat → y < m.n.toNat → ((cls m).1[x]? = (cls m).1[y]? ↔ (itC m N)[x]? = (itC m N)[y]?)) ∧ ∀ x y : Nat, x < m.n.toNat → y < m.n.toNat → (cls m).1[x]? = (cls m).1[y]? → keyS m (itC m N) x = keyS m (itC m N) y := by
  have hn := hO.n
  obtain ⟨N, _, h2, h3⟩ := clsN_it hO 202 0 (by rw [if_pos rfl]; omega)
  rw [if_pos rfl] at h2
  replace h2 : (cls m).1 = itC m (N + 1) := h2
  have hpos : 0 < (dedF (clsK m (itC m N))).length := by
    have : keyS m (itC m N) 0 ∈ dedF (clsK m (itC m N)) := (dedF_mem _ _).2 (List.mem_of_getElem? (clsK_get (i := 0) (by omega)))
    exact List.length_pos_of_mem this
  have hN : N ≠ 0 := fun h => by rw [if_pos h] at h3; omega
  rw [if_neg hN] at h3
  have hmap := clsK_map (itC_len m N)
  have key : ∀ x y : Nat, x < m.n.toNat → y < m.n.toNat → (itC m N)[x]? = (itC m N)[y]? → keyS m (itC m N) x = keyS m (itC m N) y := by
    intro x y hx hy h
    generalize hf : (fun k : List Sg => match k.getLast? with | some s => s.b.toNat | none => 0) = f at hmap
    refine ded_inj (l := clsK m (itC m N)) (f := f) (by rw [← hmap]; exact h3.symm) (List.mem_of_getElem? (clsK_get hx)) (List.mem_of_getElem? (clsK_get hy)) ?_
    have h1 : ((clsK m (itC m N)).map f)[x]? = ((clsK m (itC m N)).map f)[y]? := by rw [← hmap]; exact h
    rw [List.getElem?_map, List.getElem?_map, clsK_get hx, clsK_get hy] at h1
    exact Option.some.inj h1
  have hfin : ∀ x y : Nat, x < m.n.toNat → y < m.n.toNat → ((cls m).1[x]? = (cls m).1[y]? ↔ keyS m (itC m N) x = keyS m (itC m N) y) := by
    intro x y hx hy
    rw [h2, itC]
    exact canonL_eq (clsK_get hx) (clsK_get hy)
  refine ⟨N, h2, fun x y hx hy => ?_, fun x y hx hy h => (hfin x y hx hy).1 h⟩
  rw [hfin x y hx hy]
  exact ⟨keyS_b (itC_len m N) hx hy, key x y hx hy⟩
theorem itC_step {m : Mch} {k x y : Nat} (hx : x < m.n.toNat) (hy : y < m.n.toNat) (h : keyS m (itC m k) x = keyS m (itC m k) y) : (itC m (k + 1))[x]? = (itC m (k + 1))[y]? := by
  rw [itC]
  exact (canonL_eq (clsK_get hx) (clsK_get hy)).2 h
end Go.VC
end

section
/- What the canonical machine is made of. No program here. -/
namespace Go.VC
open Go.LexS

theorem foldl_ind {α β : Type} {f : β → α → β} {P : Nat → β → Prop} {l : List α} {b : β} (h0 : P 0 b) (hs : ∀ (j : Nat) (x : α) (st : β), l[j]? = some x → P j st → P (j + 1) (f st x)) : P l.length (l.foldl f b) := by
  have key : ∀ n, n ≤ l.length → P n ((l.take n).foldl f b) := by
    intro n
    induction n with
    | zero => intro _; exact h0
    | succ n ih =>
      intro hn
      obtain ⟨x, hx⟩ := get_some (l := l) (i := n) (by omega)
      rw [foldl_snoc hx]
      exact hs n x _ hx (ih (by omega))
  have := key l.length (Nat.le_refl _)
  rwa [List.take_length] at this
def mvQ (C Q : List Nat) (i : Nat) (x : Mv) : Mv := ⟨(i : Nat), x.send, x.peer, x.label, (idxF Q (C.getD x.t.toNat 0) : Nat), x.ag⟩
def repQ (C Q : List Nat) (i : Nat) : Nat := idxF C (Q.getD i 0)
theorem mvQ_ext {C Q E : List Nat} {i : Nat} {x : Mv} (h : C.getD x.t.toNat 0 ∈ Q) : mvQ C (Q ++ E) i x = mvQ C Q i x := by unfold mvQ; rw [idxF_mem h]
theorem repQ_ext {C Q E : List Nat} {i : Nat} (h : i < Q.length) : repQ C (Q ++ E) i = repQ C Q i := by
  unfold repQ
  rw [List.getD_eq_getElem?_getD, List.getD_eq_getElem?_getD, List.getElem?_append_left h]
theorem addQ_ext (Q : List Nat) (c : Nat) : ∃ E, addQ Q c = Q ++ E := by
  unfold addQ; split
  · exact ⟨[], by simp⟩
  · exact ⟨[c], rfl⟩
/-- a limit of the canonical machine comes from one of the machine -/
def LimOf (r : Mch) (C Q : List Nat) (mv : List Mv) (t : To) (i : Nat) (x : Mv) : Prop := t.s = (i : Int) ∧ x ∈ outM r (repQ C Q i) ∧ 0 ≤ t.e ∧ mv[t.e.toNat]? = some (mvQ C Q i x) ∧ ∃ t0 y, mget (limM r.li) (repQ C Q i : Nat) = some t0 ∧ r.mv[t0.e.toNat]? = some y ∧ t.k = t0.k ∧ x.ev = y.ev
structure CanI (r : Mch) (C : List Nat) (cnt hd : Nat) (Q : List Nat) (fin : List Bool) (mv : List Mv) (li : List To) : Prop where
  pq : QOk Q cnt
  ph : hd ≤ Q.length
  pf : fin = (List.range hd).map fun i => r.fin.getD (repQ C Q i) false
  pm : mv = (List.range hd).flatMap fun i => (outM r (repQ C Q i)).map (mvQ C Q i)
  pt : ∀ i, i < hd → ∀ x ∈ outM r (repQ C Q i), C.getD x.t.toNat 0 ∈ Q
  p1 : ∀ t ∈ li, ∃ i x, i < hd ∧ LimOf r C Q mv t i x
  p2 : ∀ i, i < hd → ∀ t0 y, mget (limM r.li) (repQ C Q i : Nat) = some t0 → r.mv[t0.e.toNat]? = some y → (∃ x ∈ outM r (repQ C Q i), x.ev = y.ev) → ∃ t ∈ li, t.s = (i : Int)
/-- within the row of hd -/
structure RowI (r : Mch) (C : List Nat) (cnt hd : Nat) (Q : List Nat) (mv : List Mv) (li : List To) (j : Nat) (st : List Nat × List Mv × List To) : Prop where
  pe : ∃ E, st.1 = Q ++ E
  pq : QOk st.1 cnt
  pt : ∀ x ∈ (outM r (repQ C Q hd)).take j, C.getD x.t.toNat 0 ∈ st.1
  pm : st.2.1 = mv ++ ((outM r (repQ C Q hd)).take j).map (mvQ C st.1 hd)
  p1 : ∀ t ∈ st.2.2, t ∈ li ∨ ∃ x ∈ (outM r (repQ C Q hd)).take j, LimOf r C st.1 st.2.1 t hd x
  p0 : ∀ t ∈ li, t ∈ st.2.2
  p2 : ∀ t0 y, mget (limM r.li) (repQ C Q hd : Nat) = some t0 → r.mv[t0.e.toNat]? = some y → (∃ x ∈ (outM r (repQ C Q hd)).take j, x.ev = y.ev) → ∃ t ∈ st.2.2, t.s = (hd : Int)
theorem LimOf.ext {r : Mch} {C Q E : List Nat} {mv mv' : List Mv} {t : To} {i : Nat} {x : Mv} (h : LimOf r C Q mv t i x) (hi : i < Q.length) (hx : C.getD x.t.toNat 0 ∈ Q) (hm : mv' = mv ++ mv'.drop mv.length) : LimOf r C (Q ++ E) mv' t i x := by
  obtain ⟨h1, h2, h3, h4, t0, y, h5, h6, h7, h8⟩ := h
  have hr := repQ_ext (C := C) (E := E) hi
  refine ⟨h1, by rw [hr]; exact h2, h3, ?_, t0, y, by rw [hr]; exact h5, h6, h7, h8⟩
  rw [hm, List.getElem?_append_left (List.getElem?_eq_some_iff.1 h4).1, h4, mvQ_ext hx]
theorem row_step {r : Mch} {C : List Nat} {cnt hd : Nat} {Q : List Nat} {mv : List Mv} {li : List To} (hO : MOk r) (hCl : C.length = r.n.toNat) (hCb : ∀ c ∈ C, c < cnt) (hhd : hd < Q.length) {j : Nat} {x : Mv} {st : List Nat × List Mv × List To} (hx : (outM r (repQ C Q hd))[j]? = some x) (h : RowI r C cnt hd Q mv li j st) :
    RowI r C cnt hd Q mv li (j + 1) (minX r C hd (mget (limM r.li) (repQ C Q hd : Nat)) st x) := by
  have hxm : x ∈ outM r (repQ C Q hd) := List.mem_of_getElem? hx
  have hxr : x ∈ r.mv := (List.mem_filter.1 hxm).1
  have hxo := hO.mv x hxr
  obtain ⟨cx, hcx⟩ := get_some (l := C) (i := x.t.toNat) (by omega)
  have hcg : C.getD x.t.toNat 0 = cx := getD_some hcx
  have hcb := hCb cx (List.mem_of_getElem? hcx)
  obtain ⟨E, hE⟩ := h.pe
  obtain ⟨E2, hE2⟩ := addQ_ext st.1 cx
  have hlt : hd < st.1.length := by rw [hE, List.length_append]; omega
  have hm1 : (minX r C hd (mget (limM r.li) (repQ C Q hd : Nat)) st x).1 = st.1 ++ E2 := by unfold minX; rw [hcg]; exact hE2
  have hm2 : (minX r C hd (mget (limM r.li) (repQ C Q hd : Nat)) st x).2.1 = st.2.1 ++ [mvQ C (st.1 ++ E2) hd x] := by unfold minX mvQ; rw [hcg, hE2]
  have htk : (outM r (repQ C Q hd)).take (j + 1) = (outM r (repQ C Q hd)).take j ++ [x] := take_snoc hx
  have hin : cx ∈ st.1 ++ E2 := by rw [← hE2]; exact addQ_mem
  have hrep : repQ C (st.1 ++ E2) hd = repQ C Q hd := by rw [repQ_ext hlt, hE, repQ_ext hhd]
  have hrep1 : repQ C st.1 hd = repQ C Q hd := by rw [hE, repQ_ext hhd]
  have hdrop : (minX r C hd (mget (limM r.li) (repQ C Q hd : Nat)) st x).2.1 = st.2.1 ++ ((minX r C hd (mget (limM r.li) (repQ C Q hd : Nat)) st x).2.1).drop st.2.1.length := by rw [hm2, List.drop_append_of_le_length (Nat.le_refl _), List.drop_length, List.nil_append]
  have hnew : (st.2.1 ++ [mvQ C (st.1 ++ E2) hd x])[st.2.1.length]? = some (mvQ C (st.1 ++ E2) hd x) := by rw [List.getElem?_append_right (Nat.le_refl _), Nat.sub_self]; rfl
  refine ⟨⟨E ++ E2, by rw [hm1, hE, List.append_assoc]⟩, by rw [hm1, ← hE2]; exact h.pq.add hcb, fun y hy => ?_, ?_, fun t ht => ?_, fun t ht => ?_, fun t0 y h1 h2 h3 => ?_⟩
  · rw [htk, List.mem_append, List.mem_singleton] at hy
    rw [hm1]
    rcases hy with hy | rfl
    · exact List.mem_append.2 (.inl (h.pt y hy))
    · rw [hcg]; exact hin
  · rw [hm1, hm2, h.pm, htk, List.map_append, List.append_assoc]
    congr 1
    congr 1
    apply List.map_congr_left
    intro y hy
    exact (mvQ_ext (h.pt y hy)).symm
  · unfold minX at ht
    rcases List.mem_append.1 ht with ht | ht
    · rcases h.p1 t ht with h4 | ⟨x', hx'm, h4⟩
      · exact .inl h4
      · refine .inr ⟨x', by rw [htk]; exact List.mem_append.2 (.inl hx'm), ?_⟩
        rw [hm1]
        exact h4.ext hlt (h.pt x' hx'm) hdrop
    · split at ht
      · cases ht
      · rename_i t0 h0
        split at ht
        · rename_i y hy
          split at ht
          · rename_i hev
            rw [List.mem_singleton] at ht
            subst ht
            refine .inr ⟨x, by rw [htk]; exact List.mem_append.2 (.inr (List.mem_singleton.2 rfl)), ?_⟩
            rw [hm1, hm2]
            refine ⟨rfl, by rw [hrep]; exact hxm, by show 0 ≤ ((st.2.1.length : Nat) : Int); omega, ?_, t0, y, by rw [hrep]; exact h0, hy, rfl, hev⟩
            show (st.2.1 ++ _)[((st.2.1.length : Nat) : Int).toNat]? = _
            rw [Int.toNat_natCast]; exact hnew
          · cases ht
        · cases ht
  · unfold minX
    exact List.mem_append.2 (.inl (h.p0 t ht))
  · rw [htk] at h3
    obtain ⟨x', hx', hev⟩ := h3
    rw [List.mem_append, List.mem_singleton] at hx'
    rcases hx' with hx' | rfl
    · obtain ⟨t, ht, hts⟩ := h.p2 t0 y h1 h2 ⟨x', hx', hev⟩
      exact ⟨t, by unfold minX; exact List.mem_append.2 (.inl ht), hts⟩
    · refine ⟨⟨(hd : Nat), t0.k, (st.2.1.length : Nat)⟩, ?_, rfl⟩
      unfold minX
      rw [h1]
      simp only [h2]
      rw [if_pos hev]
      exact List.mem_append.2 (.inr (List.mem_singleton.2 rfl))
theorem flatMap_congr' {α β : Type} {f g : α → List β} : ∀ {l : List α}, (∀ x ∈ l, f x = g x) → l.flatMap f = l.flatMap g
  | [], _ => rfl
  | a :: l, h => by rw [List.flatMap_cons, List.flatMap_cons, h a (List.mem_cons_self ..), flatMap_congr' fun x hx => h x (List.mem_cons_of_mem _ hx)]
theorem can_step {r : Mch} {C : List Nat} {cnt hd : Nat} {Q : List Nat} {fin : List Bool} {mv : List Mv} {li : List To} (hO : MOk r) (hCl : C.length = r.n.toNat) (hCb : ∀ c ∈ C, c < cnt) (hhd : hd < Q.length) (h : CanI r C cnt hd Q fin mv li) :
    CanI r C cnt (hd + 1) ((outM r (repQ C Q hd)).foldl (minX r C hd (mget (limM r.li) (repQ C Q hd : Nat))) (Q, mv, li)).1 (fin ++ [r.fin.getD (repQ C Q hd) false]) ((outM r (repQ C Q hd)).foldl (minX r C hd (mget (limM r.li) (repQ C Q hd : Nat))) (Q, mv, li)).2.1 ((outM r (repQ C Q hd)).foldl (minX r C hd (mget (limM r.li) (repQ C Q hd : Nat))) (Q, mv, li)).2.2 := by
  have key := foldl_ind (f := minX r C hd (mget (limM r.li) (repQ C Q hd : Nat))) (l := outM r (repQ C Q hd)) (b := (Q, mv, li)) (P := RowI r C cnt hd Q mv li)
    ⟨⟨[], by simp⟩, h.pq, fun x hx => (by rw [List.take_zero] at hx; cases hx), by rw [List.take_zero, List.map_nil, List.append_nil], fun t ht => .inl ht, fun t ht => ht, fun t0 y _ _ h3 => (by obtain ⟨x, hx, _⟩ := h3; rw [List.take_zero] at hx; cases hx)⟩
    (fun j x st hx hr => row_step hO hCl hCb hhd hx hr)
  generalize (outM r (repQ C Q hd)).foldl (minX r C hd (mget (limM r.li) (repQ C Q hd : Nat))) (Q, mv, li) = st at *
  obtain ⟨⟨E, hE⟩, kq, kt, km, k1, k0, k2⟩ := key
  rw [List.take_length] at kt km k2
  have hrep : ∀ i, i < Q.length → repQ C st.1 i = repQ C Q i := fun i hi => by rw [hE, repQ_ext hi]
  have hph := h.ph
  refine ⟨kq, by rw [hE, List.length_append]; omega, ?_, ?_, fun i hi x hx => ?_, fun t ht => ?_, fun i hi t0 y h1 h2 h3 => ?_⟩
  · rw [List.range_succ, List.map_append, h.pf]
    congr 1
    · apply List.map_congr_left
      intro i hi
      have := List.mem_range.1 hi
      rw [hrep i (by omega)]
    · show _ = [r.fin.getD (repQ C st.1 hd) false]
      rw [hrep hd hhd]
  · rw [List.range_succ, List.flatMap_append, km, h.pm]
    congr 1
    · refine flatMap_congr' fun i hi => ?_
      have hi := List.mem_range.1 hi
      rw [hrep i (by omega)]
      apply List.map_congr_left
      intro x hx
      rw [hE, mvQ_ext (h.pt i hi x hx)]
    · rw [List.flatMap_singleton, hrep hd hhd]
  · by_cases e : i = hd
    · subst e; rw [hrep i hhd] at hx; exact kt x hx
    · rw [hrep i (by omega)] at hx
      rw [hE]
      exact List.mem_append.2 (.inl (h.pt i (by omega) x hx))
  · rcases k1 t ht with h4 | ⟨x, hx, h4⟩
    · obtain ⟨i, x, hi, h5⟩ := h.p1 t h4
      refine ⟨i, x, by omega, ?_⟩
      rw [hE]
      refine h5.ext (by omega) (h.pt i hi x h5.2.1) ?_
      rw [km, List.drop_append_of_le_length (Nat.le_refl _), List.drop_length, List.nil_append]
    · exact ⟨hd, x, by omega, h4⟩
  · by_cases e : i = hd
    · subst e
      rw [hrep i hhd] at h1 h3
      exact k2 t0 y h1 h2 h3
    · rw [hrep i (by omega)] at h1 h3
      obtain ⟨t, ht, hts⟩ := h.p2 i (by omega) t0 y h1 h2 h3
      exact ⟨t, k0 t ht, hts⟩
theorem minN_can {r : Mch} {C : List Nat} {cnt : Nat} (hO : MOk r) (hCl : C.length = r.n.toNat) (hCb : ∀ c ∈ C, c < cnt) : ∀ (f hd : Nat) (Q : List Nat) (fin : List Bool) (mv : List Mv) (li : List To), cnt < f + hd → CanI r C cnt hd Q fin mv li →
    ∃ Q', (minN r C f hd Q fin mv li).n = (Q'.length : Nat) ∧ (minN r C f hd Q fin mv li).s = 0 ∧ CanI r C cnt Q'.length Q' (minN r C f hd Q fin mv li).fin (minN r C f hd Q fin mv li).mv (minN r C f hd Q fin mv li).li ∧ ∃ E, Q' = Q ++ E
  | 0, hd, Q, fin, mv, li, hf, h => by
    exfalso
    have := h.ph
    have := h.pq.le
    omega
  | f + 1, hd, Q, fin, mv, li, hf, h => by
    rw [minN]
    cases hq : Q[hd]? with
    | none =>
      have : hd = Q.length := by have := List.getElem?_eq_none_iff.1 hq; have := h.ph; omega
      subst this
      exact ⟨Q, rfl, rfl, h, [], by simp⟩
    | some c =>
      have hhd := (List.getElem?_eq_some_iff.1 hq).1
      have hrep : repQ C Q hd = idxF C c := by unfold repQ; rw [getD_some hq]
      have hst := can_step hO hCl hCb hhd h
      rw [hrep] at hst
      have hE : ∃ E, ((outM r (idxF C c)).foldl (minX r C hd (mget (limM r.li) (idxF C c : Nat))) (Q, mv, li)).1 = Q ++ E := by
        suffices hh : ∀ (l : List Mv) (st : List Nat × List Mv × List To), ∃ E, (l.foldl (minX r C hd (mget (limM r.li) (idxF C c : Nat))) st).1 = st.1 ++ E from hh _ _
        intro l
        induction l with
        | nil => intro st; exact ⟨[], by simp⟩
        | cons a l ih =>
          intro st
          rw [List.foldl_cons]
          obtain ⟨E1, h1⟩ := ih (minX r C hd (mget (limM r.li) (idxF C c : Nat)) st a)
          obtain ⟨E2, h2⟩ := addQ_ext st.1 (C.getD a.t.toNat 0)
          refine ⟨E2 ++ E1, ?_⟩
          rw [h1]
          show addQ st.1 (C.getD a.t.toNat 0) ++ E1 = _
          rw [h2, List.append_assoc]
      obtain ⟨Q', h1, h2, h3, E', h4⟩ := minN_can hO hCl hCb f (hd + 1) _ _ _ _ (by omega) hst
      obtain ⟨E, hE⟩ := hE
      exact ⟨Q', h1, h2, h3, E ++ E', by rw [h4, hE, List.append_assoc]⟩
/-- what Project's machine is made of -/
theorem minF_can {r : Mch} (hO : MOk r) : ∃ Q, (minF r).n = (Q.length : Nat) ∧ (minF r).s = 0 ∧ 1 ≤ Q.length ∧ Q.length ≤ r.n.toNat ∧ CanI r (cls r).1 (cls r).2 Q.length Q (minF r).fin (minF r).mv (minF r).li := by
  have hC := cls_ok hO
  have hs := hO.s
  obtain ⟨c0, hc0⟩ := get_some (l := (cls r).1) (i := r.s.toNat) (by have := hC.cl; omega)
  have hc0b := hC.cb c0 (List.mem_of_getElem? hc0)
  have h0 : CanI r (cls r).1 (cls r).2 0 [c0] [] [] [] := ⟨⟨by simp, fun c hc => by rw [List.mem_singleton] at hc; omega⟩, by simp, rfl, rfl, fun i hi => (by omega), fun t ht => (by cases ht), fun i hi => (by omega)⟩
  have hn := hO.n
  have hcc := hC.cc
  obtain ⟨Q, h1, h2, h3, E, h4⟩ := minN_can hO hC.cl hC.cb 202 0 [c0] [] [] [] (by omega) h0
  unfold minF
  rw [getD_some hc0]
  refine ⟨Q, h1, h2, by rw [h4]; simp, Nat.le_trans h3.pq.le hcc, h3⟩
end Go.VC
end

section
/- Project's machines are good and minimal. No program here. -/
namespace Go.VC
open Go.LexS

theorem mget_mset {α β : Type} [DecidableEq α] (a : α) (b : β) (s : α) : ∀ l : List (α × β), mget (mset l a b) s = if a = s then some b else mget l s
  | [] => rfl
  | (x, y) :: r => by
    rw [mset]
    split
    · rename_i e
      subst e
      rw [mget, mget]
      split <;> rfl
    · rename_i e
      rw [mget, mget, mget_mset a b s r]
      by_cases h : x = s
      · rw [if_pos h, if_pos h, if_neg (fun h2 => e (h.trans h2.symm))]
      · rw [if_neg h, if_neg h]
theorem limM_get (li : List To) (s : Int) : mget (limM li) s = (li.filter fun t => t.s = s).getLast? := by
  have key : ∀ n, n ≤ li.length → mget (limM (li.take n)) s = ((li.take n).filter fun t => t.s = s).getLast? := by
    intro n
    induction n with
    | zero => intro _; rfl
    | succ n ih =>
      intro hn
      obtain ⟨t, ht⟩ := get_some (l := li) (i := n) (by omega)
      rw [limM_snoc ht, mget_mset, take_snoc ht, List.filter_append, ih (by omega)]
      by_cases e : t.s = s
      · rw [if_pos e, List.filter_cons_of_pos (by simpa using e)]; simp
      · rw [if_neg e, List.filter_cons_of_neg (by simpa using e)]; simp
  have := key li.length (Nat.le_refl _)
  rwa [List.take_length] at this
/-- more of a raw machine: a limit's else is a move of its state, and a state has one limit -/
structure MRaw (r : Mch) : Prop where
  ok : MOk r
  so : r.mv.Pairwise mvLt
  l1 : ∀ t ∈ r.li, ∃ y, r.mv[t.e.toNat]? = some y ∧ y.f = t.s
  l2 : (r.li.map (·.s)).Nodup
theorem MRaw.one {r : Mch} (h : MRaw r) (s : Int) : (r.li.filter fun t => t.s = s) = match mget (limM r.li) s with | some t => [t] | none => [] := by
  rw [limM_get]
  have hsub : ((r.li.filter fun t => t.s = s).map (·.s)).Nodup := h.l2.sublist (List.filter_sublist.map _)
  have hall : ∀ t ∈ r.li.filter (fun t => t.s = s), t.s = s := fun t ht => by simpa using (List.mem_filter.1 ht).2
  generalize r.li.filter (fun t => t.s = s) = l at *
  match l, hsub, hall with
  | [], _, _ => rfl
  | [t], _, _ => rfl
  | a :: b :: l, hsub, hall =>
    exfalso
    rw [List.map_cons, List.nodup_cons] at hsub
    exact hsub.1 (by rw [hall a (List.mem_cons_self ..)]; exact List.mem_map.2 ⟨b, by simp, hall b (by simp)⟩)
theorem outIx_get {m : Mch} {s : Int} : (outIx m s).map (fun a => m.mv[a]?) = (m.mv.filter fun x => x.f = s).map some := by
  have key : ∀ n, n ≤ m.mv.length → ((List.range n).filter (outP m s)).map (fun a => m.mv[a]?) = ((m.mv.take n).filter fun x => x.f = s).map some := by
    intro n
    induction n with
    | zero => intro _; rfl
    | succ n ih =>
      intro hn
      obtain ⟨x, hx⟩ := get_some (l := m.mv) (i := n) (by omega)
      have hp : outP m s n = decide (x.f = s) := by unfold outP; rw [hx]
      rw [List.range_succ, List.filter_append, List.map_append, ih (by omega), take_snoc hx, List.filter_append, List.map_append]
      congr 1
      by_cases e : x.f = s
      · rw [List.filter_cons_of_pos (by rw [hp]; exact decide_eq_true e), List.filter_cons_of_pos (by simpa using e)]
        simp [hx]
      · rw [List.filter_cons_of_neg (by rw [hp, decide_eq_false e]; simp), List.filter_cons_of_neg (by simpa using e)]
        simp
  have := key m.mv.length (Nat.le_refl _)
  rw [List.take_length] at this
  exact this
theorem outIx_nth {m : Mch} {s : Int} {j a : Nat} (h : (outIx m s)[j]? = some a) : ∃ x, m.mv[a]? = some x ∧ (m.mv.filter fun x => x.f = s)[j]? = some x := by
  have h1 := congrArg (·[j]?) (outIx_get (m := m) (s := s))
  simp only [List.getElem?_map, h, Option.map_some] at h1
  obtain ⟨x, hx, h2⟩ := Option.map_eq_some_iff.1 h1.symm
  exact ⟨x, h2.symm, hx⟩
theorem outIx_len {m : Mch} {s : Int} : (outIx m s).length = (m.mv.filter fun x => x.f = s).length := by
  have := congrArg List.length (outIx_get (m := m) (s := s))
  rwa [List.length_map, List.length_map] at this
theorem flat_filter {rows : Nat → List Mv} (h : ∀ k, ∀ y ∈ rows k, y.f = (k : Int)) (i : Nat) : ∀ n, ((List.range n).flatMap rows).filter (fun y => y.f = (i : Int)) = if i < n then rows i else []
  | 0 => rfl
  | n + 1 => by
    rw [List.range_succ, List.flatMap_append, List.filter_append, flat_filter h i n, List.flatMap_singleton]
    by_cases e : i = n
    · subst e
      rw [if_neg (by omega), if_pos (by omega), List.nil_append, List.filter_eq_self.2 fun y hy => by simpa using h i y hy]
    · have : (rows n).filter (fun y => y.f = (i : Int)) = [] := by
        rw [List.filter_eq_nil_iff]
        intro y hy
        have := h n y hy
        simp only [decide_eq_true_eq]
        omega
      rw [this, List.append_nil]
      by_cases e2 : i < n
      · rw [if_pos e2, if_pos (by omega)]
      · rw [if_neg e2, if_neg (by omega)]
theorem filter_k {l : List Sg} {k : Int} (h : ∀ s ∈ l, s.k = k) (k' : Int) : l.filter (fun s => s.k = k') = if k = k' then l else [] := by
  by_cases e : k = k'
  · rw [if_pos e, List.filter_eq_self]
    intro s hs; have := h s hs; simp [this, e]
  · rw [if_neg e, List.filter_eq_nil_iff]
    intro s hs; have := h s hs; simp [this, e]
theorem keyS_parts {m : Mch} {D D' : List Nat} {x y : Nat} (h : keyS m D x = keyS m D' y) : (outM m x).map (sgM D) = (outM m y).map (sgM D') ∧ ((m.li.filter fun t => t.s = (x : Int)).map (sgL m.mv)) = ((m.li.filter fun t => t.s = (y : Int)).map (sgL m.mv)) ∧ sgB D m.fin x = sgB D' m.fin y := by
  have h2 : ∀ (D : List Nat) (x : Nat), ∀ s ∈ ((m.mv.filter fun y => y.f = (x : Int)).map (sgM D)).reverse, s.k = 2 := fun D x s hs => by
    rw [List.mem_reverse] at hs; obtain ⟨_, _, rfl⟩ := List.mem_map.1 hs; rfl
  have h1 : ∀ (x : Nat), ∀ s ∈ ((m.li.filter fun t => t.s = (x : Int)).map (sgL m.mv)).reverse, s.k = 1 := fun x s hs => by
    rw [List.mem_reverse] at hs; obtain ⟨_, _, rfl⟩ := List.mem_map.1 hs; rfl
  have h0 : ∀ (D : List Nat) (x : Nat), ∀ s ∈ [sgB D m.fin x], s.k = 0 := fun D x s hs => by
    rw [List.mem_singleton] at hs; subst hs; rfl
  have cut : ∀ (D : List Nat) (x : Nat) (k : Int), (keyS m D x).filter (fun s => s.k = k) = (if (2 : Int) = k then ((m.mv.filter fun y => y.f = (x : Int)).map (sgM D)).reverse else []) ++ ((if (1 : Int) = k then ((m.li.filter fun t => t.s = (x : Int)).map (sgL m.mv)).reverse else []) ++ (if (0 : Int) = k then [sgB D m.fin x] else [])) := by
    intro D x k
    unfold keyS keyH
    rw [List.filter_append, List.filter_append, filter_k (h2 D x), filter_k (h1 x), filter_k (h0 D x)]
  refine ⟨?_, ?_, ?_⟩
  · have := congrArg (List.filter fun s => s.k = (2 : Int)) h
    rw [cut, cut] at this
    simpa [outM] using this
  · have := congrArg (List.filter fun s => s.k = (1 : Int)) h
    rw [cut, cut] at this
    simpa using this
  · have := congrArg (List.filter fun s => s.k = (0 : Int)) h
    rw [cut, cut] at this
    simpa using this
theorem keyS_mk {m : Mch} {D : List Nat} {x y : Nat} (h1 : (outM m x).map (sgM D) = (outM m y).map (sgM D)) (h2 : ((m.li.filter fun t => t.s = (x : Int)).map (sgL m.mv)) = ((m.li.filter fun t => t.s = (y : Int)).map (sgL m.mv))) (h3 : sgB D m.fin x = sgB D m.fin y) : keyS m D x = keyS m D y := by
  unfold keyS keyH
  unfold outM at h1
  rw [h1, h2, h3]
end Go.VC
end

section
/- Project's machines are good and minimal. No program here. -/
namespace Go.VC
open Go.LexS

theorem outM_sorted {r : Mch} (hS : r.mv.Pairwise mvLt) (s : Nat) : (outM r s).Pairwise mvLt := hS.filter _
theorem outM_f {r : Mch} {s : Nat} {x : Mv} (h : x ∈ outM r s) : x ∈ r.mv ∧ x.f = (s : Int) := by
  unfold outM at h
  rw [List.mem_filter] at h
  exact ⟨h.1, by simpa using h.2⟩
theorem can_row {r : Mch} {C : List Nat} {cnt : Nat} {Q : List Nat} {fin : List Bool} {mv : List Mv} {li : List To} (h : CanI r C cnt Q.length Q fin mv li) {i : Nat} (hi : i < Q.length) : mv.filter (fun y => y.f = (i : Int)) = (outM r (repQ C Q i)).map (mvQ C Q i) := by
  rw [h.pm, flat_filter (fun k y hy => by obtain ⟨x, _, rfl⟩ := List.mem_map.1 hy; rfl) i, if_pos hi]
theorem mgood {r : Mch} (hR : MRaw r) : MGood (minF r) := by
  obtain ⟨Q, h1, h2, h3, h4, hc⟩ := minF_can hR.ok
  have hn := hR.ok.n
  refine ⟨by rw [h1]; omega, by rw [h1, h2]; omega, by rw [hc.pf, List.length_map, List.length_range, h1]; omega, fun x hx => ?_, fun t ht => ?_, ?_⟩
  · rw [hc.pm] at hx
    obtain ⟨i, hi, h5⟩ := List.mem_flatMap.1 hx
    have hi := List.mem_range.1 hi
    obtain ⟨y, hy, rfl⟩ := List.mem_map.1 h5
    have := idxF_lt (hc.pt i hi y hy)
    rw [h1]
    unfold mvQ
    simp only
    omega
  · obtain ⟨i, x, hi, h5, h6, h7, h8, t0, y, h9, h10, h11, h12⟩ := hc.p1 t ht
    have := (List.getElem?_eq_some_iff.1 h8).1
    refine ⟨by omega, by rw [h1]; omega, h7, by omega, _, h8, ?_⟩
    rw [h5]; rfl
  · rw [hc.pm, List.pairwise_flatMap]
    refine ⟨fun i hi => ?_, ?_⟩
    · rw [List.pairwise_map]
      refine (List.Pairwise.imp_of_mem ?_ (outM_sorted hR.so (repQ (cls r).1 Q i)))
      intro a b ha hb hab
      have fa := (outM_f ha).2
      have fb := (outM_f hb).2
      rcases hab with h | ⟨_, h⟩
      · omega
      · exact .inr ⟨rfl, h⟩
    · refine List.Pairwise.imp ?_ (List.pairwise_lt_range (n := Q.length))
      intro i k hik x hx y hy
      obtain ⟨x', _, rfl⟩ := List.mem_map.1 hx
      obtain ⟨y', _, rfl⟩ := List.mem_map.1 hy
      exact .inl (show (i : Int) < (k : Int) by omega)
theorem limI_none {li : List To} {s : Int} (h : limI li s = none) : ∀ t ∈ li, t.s ≠ s := by
  unfold limI at h
  rw [List.findIdx?_eq_none_iff] at h
  intro t ht
  have := h t ht
  simpa using this
theorem hmin {r : Mch} (hR : MRaw r) : HMin (minF r) := by
  obtain ⟨Q, h1, h2, h3, h4, hc⟩ := minF_can hR.ok
  have hn := hR.ok.n
  have hC := cls_ok hR.ok
  obtain ⟨N, hN1, hN2, hN3⟩ := cls_stable hR.ok
  have hml := hR.ok.mv
  intro B hB
  have hlt : ∀ i : Nat, (i : Int) < (minF r).n ↔ i < Q.length := fun i => by rw [h1]; omega
  -- a state and the place of its class
  have hpl : ∀ x c : Nat, x < r.n.toNat → (cls r).1[x]? = some c → c ∈ Q → ∃ i s : Nat, i < Q.length ∧ i = idxF Q c ∧ s = repQ (cls r).1 Q i ∧ s < r.n.toNat ∧ keyS r (itC r N) x = keyS r (itC r N) s := by
    intro x c hx hc0 hcQ
    refine ⟨idxF Q c, idxF (cls r).1 c, idxF_lt hcQ, rfl, ?_, ?_, ?_⟩
    · unfold repQ; rw [getD_some (idxF_get hcQ)]
    · have := idxF_lt (List.mem_of_getElem? hc0); rw [hC.cl] at this; exact this
    · refine hN3 _ _ hx (by have := idxF_lt (List.mem_of_getElem? hc0); rw [hC.cl] at this; exact this) ?_
      rw [hc0, idxF_get (List.mem_of_getElem? hc0)]
  have main : ∀ k x y c d : Nat, x < r.n.toNat → y < r.n.toNat → (cls r).1[x]? = some c → (cls r).1[y]? = some d → c ∈ Q → d ∈ Q → B (idxF Q c) (idxF Q d) = true → (itC r k)[x]? = (itC r k)[y]? := by
    intro k
    induction k with
    | zero => intro x y c d hx hy _ _ _ _ _; rw [itC, List.getElem?_replicate, List.getElem?_replicate, if_pos hx, if_pos hy]
    | succ k ih =>
      intro x y c d hx hy hxc hyd hcQ hdQ hb
      refine itC_step hx hy ?_
      have ihxy := ih x y c d hx hy hxc hyd hcQ hdQ hb
      obtain ⟨i, s1, hi, rfl, hs1, hs1n, hk1⟩ := hpl x c hx hxc hcQ
      obtain ⟨l, s2, hl, rfl, hs2, hs2n, hk2⟩ := hpl y d hy hyd hdQ
      generalize idxF Q c = i at *
      generalize idxF Q d = l at *
      obtain ⟨hbase, hstep⟩ := hB i l ((hlt i).2 hi) ((hlt l).2 hl) hb
      obtain ⟨p1, p2, p3⟩ := keyS_parts hk1
      obtain ⟨q1, q2, q3⟩ := keyS_parts hk2
      unfold base at hbase
      rw [Bool.and_eq_true] at hbase
      obtain ⟨hfin, hlim⟩ := hbase
      have hfin := of_decide_eq_true hfin
      have hgf : ∀ i : Nat, i < Q.length → (minF r).fin.getD i false = r.fin.getD (repQ (cls r).1 Q i) false := fun i hi => by
        refine getD_some ?_
        rw [hc.pf, List.getElem?_map, List.getElem?_range hi]; rfl
      rw [hgf i hi, hgf l hl, ← hs1, ← hs2] at hfin
      have hrow : ∀ i : Nat, i < Q.length → (minF r).mv.filter (fun y => y.f = (i : Int)) = (outM r (repQ (cls r).1 Q i)).map (mvQ (cls r).1 Q i) := fun i hi => can_row hc hi
      obtain ⟨hlen, hst⟩ := hstep
      rw [outIx_len, outIx_len, hrow i hi, hrow l hl, List.length_map, List.length_map, ← hs1, ← hs2] at hlen
      have hpair : ∀ (j : Nat) (a b : Mv), (outM r s1)[j]? = some a → (outM r s2)[j]? = some b → sameMv (mvQ (cls r).1 Q i a) (mvQ (cls r).1 Q l b) = true ∧ B (idxF Q ((cls r).1.getD a.t.toNat 0)) (idxF Q ((cls r).1.getD b.t.toNat 0)) = true := by
        intro j a b ha hb'
        have h5 : ((minF r).mv.filter (fun y => y.f = (i : Int)))[j]? = some (mvQ (cls r).1 Q i a) := by rw [hrow i hi, ← hs1, List.getElem?_map, ha]; rfl
        have h6 : ((minF r).mv.filter (fun y => y.f = (l : Int)))[j]? = some (mvQ (cls r).1 Q l b) := by rw [hrow l hl, ← hs2, List.getElem?_map, hb']; rfl
        obtain ⟨u, hu⟩ := get_some (l := outIx (minF r) i) (i := j) (by rw [outIx_len]; exact (List.getElem?_eq_some_iff.1 h5).1)
        obtain ⟨v, hv⟩ := get_some (l := outIx (minF r) l) (i := j) (by rw [outIx_len]; exact (List.getElem?_eq_some_iff.1 h6).1)
        obtain ⟨xu, hxu, h7⟩ := outIx_nth hu
        obtain ⟨xv, hxv, h8⟩ := outIx_nth hv
        rw [h5] at h7; cases h7
        rw [h6] at h8; cases h8
        have := hst j u v _ _ hu hv hxu hxv
        refine ⟨this.1, ?_⟩
        have h9 := this.2
        unfold mvQ at h9
        simpa using h9
      refine keyS_mk ?_ ?_ ?_
      · -- moves
        have lx : (outM r x).length = (outM r s1).length := by have := congrArg List.length p1; rwa [List.length_map, List.length_map] at this
        have ly : (outM r y).length = (outM r s2).length := by have := congrArg List.length q1; rwa [List.length_map, List.length_map] at this
        apply List.ext_getElem?
        intro j
        rw [List.getElem?_map, List.getElem?_map]
        by_cases hj : j < (outM r x).length
        · obtain ⟨u, hu⟩ := get_some (l := outM r x) (i := j) hj
          obtain ⟨v, hv⟩ := get_some (l := outM r y) (i := j) (by omega)
          obtain ⟨a, ha⟩ := get_some (l := outM r s1) (i := j) (by omega)
          obtain ⟨b, hb'⟩ := get_some (l := outM r s2) (i := j) (by omega)
          have e1 : sgM (itC r N) u = sgM (itC r N) a := by
            have := congrArg (·[j]?) p1
            simp only [List.getElem?_map, hu, ha, Option.map_some, Option.some.injEq] at this
            exact this
          have e2 : sgM (itC r N) v = sgM (itC r N) b := by
            have := congrArg (·[j]?) q1
            simp only [List.getElem?_map, hv, hb', Option.map_some, Option.some.injEq] at this
            exact this
          obtain ⟨hsm, hBab⟩ := hpair j a b ha hb'
          have mu := hml u (outM_f (List.mem_of_getElem? hu)).1
          have mv' := hml v (outM_f (List.mem_of_getElem? hv)).1
          have ma := hml a (outM_f (List.mem_of_getElem? ha)).1
          have mb := hml b (outM_f (List.mem_of_getElem? hb')).1
          have tgt : ∀ p q : Mv, (0 ≤ p.t ∧ p.t < r.n) → (0 ≤ q.t ∧ q.t < r.n) → sgM (itC r N) p = sgM (itC r N) q → p.ev = q.ev ∧ p.ag = q.ag ∧ (cls r).1[p.t.toNat]? = (cls r).1[q.t.toNat]? := by
            intro p q hp hq e
            unfold sgM at e
            simp only [Sg.mk.injEq, true_and] at e
            refine ⟨e.1, e.2.1, ?_⟩
            refine (hN2 p.t.toNat q.t.toNat (by omega) (by omega)).2 ?_
            obtain ⟨z, hz⟩ := get_some (l := itC r N) (i := p.t.toNat) (by rw [itC_len]; omega)
            obtain ⟨w, hw⟩ := get_some (l := itC r N) (i := q.t.toNat) (by rw [itC_len]; omega)
            have e3 := e.2.2
            rw [getD_some hz, getD_some hw] at e3
            rw [hz, hw]
            congr 1; omega
          obtain ⟨eu1, eu2, eu3⟩ := tgt u a ⟨mu.2.2.1, mu.2.2.2.1⟩ ⟨ma.2.2.1, ma.2.2.2.1⟩ e1
          obtain ⟨ev1, ev2, ev3⟩ := tgt v b ⟨mv'.2.2.1, mv'.2.2.2.1⟩ ⟨mb.2.2.1, mb.2.2.2.1⟩ e2
          obtain ⟨ca, hca⟩ := get_some (l := (cls r).1) (i := a.t.toNat) (by rw [hC.cl]; omega)
          obtain ⟨cb, hcb⟩ := get_some (l := (cls r).1) (i := b.t.toNat) (by rw [hC.cl]; omega)
          have hcaQ : ca ∈ Q := by have := hc.pt i hi a (by rw [← hs1]; exact List.mem_of_getElem? ha); rwa [getD_some hca] at this
          have hcbQ : cb ∈ Q := by have := hc.pt l hl b (by rw [← hs2]; exact List.mem_of_getElem? hb'); rwa [getD_some hcb] at this
          rw [getD_some hca, getD_some hcb] at hBab
          have hit := ih u.t.toNat v.t.toNat ca cb (by omega) (by omega) (by rw [eu3]; exact hca) (by rw [ev3]; exact hcb) hcaQ hcbQ hBab
          unfold sameMv mvQ at hsm
          simp only [decide_eq_true_eq] at hsm
          have hab : a.ev = b.ev := ev_ext hsm.1 hsm.2.1 hsm.2.2.1
          rw [hu, hv, Option.map_some, Option.map_some]
          congr 1
          unfold sgM
          rw [eu1, ev1, hab, eu2, ev2, hsm.2.2.2]
          congr 2
          rw [List.getD_eq_getElem?_getD, List.getD_eq_getElem?_getD, hit]
        · rw [List.getElem?_eq_none (by omega), List.getElem?_eq_none (by omega)]
      · -- limits
        rw [p2, q2, hR.one, hR.one]
        have hfindS : ∀ {i : Nat}, i < Q.length → ∀ t0, mget (limM r.li) ((repQ (cls r).1 Q i : Nat) : Int) = some t0 → ∃ idx, limI (minF r).li (i : Int) = some idx := by
          intro i hi t0 h0
          have htm := limM_mem (mget_mem h0)
          obtain ⟨y0, hy0, hyf⟩ := hR.l1 t0 htm.1
          obtain ⟨t, ht, hts⟩ := hc.p2 i hi t0 y0 h0 hy0 ⟨y0, by unfold outM; exact List.mem_filter.2 ⟨List.mem_of_getElem? hy0, by simp only [decide_eq_true_eq]; rw [hyf]; exact htm.2⟩, rfl⟩
          cases hl : limI (minF r).li (i : Int) with
          | some idx => exact ⟨idx, rfl⟩
          | none => exact absurd hts (limI_none hl t ht)
        have hfindL : ∀ {i idx : Nat}, i < Q.length → limI (minF r).li (i : Int) = some idx → ∃ t x, (minF r).li[idx]? = some t ∧ LimOf r (cls r).1 Q (minF r).mv t i x := by
          intro i idx hi h0
          obtain ⟨t, ht, hts⟩ := limI_lt h0
          obtain ⟨i', x, hi', hL⟩ := hc.p1 t (List.mem_of_getElem? ht)
          have : i' = i := by have := hL.1; omega
          subst this
          exact ⟨t, x, ht, hL⟩
        rw [hs1, hs2]
        unfold sameLim at hlim
        cases h0 : mget (limM r.li) ((repQ (cls r).1 Q i : Nat) : Int) with
        | none =>
          cases h0' : mget (limM r.li) ((repQ (cls r).1 Q l : Nat) : Int) with
          | none => rfl
          | some t0' =>
            exfalso
            obtain ⟨idx, hidx⟩ := hfindS hl t0' h0'
            rw [hidx] at hlim
            cases h5 : limI (minF r).li (i : Int) with
            | none => rw [h5] at hlim; cases hlim
            | some idx2 =>
              obtain ⟨t, x, _, hL⟩ := hfindL hi h5
              obtain ⟨_, _, _, _, t0, _, h6, _⟩ := hL
              rw [h0] at h6; cases h6
        | some t0 =>
          obtain ⟨idx, hidx⟩ := hfindS hi t0 h0
          cases h0' : mget (limM r.li) ((repQ (cls r).1 Q l : Nat) : Int) with
          | none =>
            exfalso
            rw [hidx] at hlim
            cases h5 : limI (minF r).li (l : Int) with
            | none => rw [h5] at hlim; cases hlim
            | some idx2 =>
              obtain ⟨t, x, _, hL⟩ := hfindL hl h5
              obtain ⟨_, _, _, _, t0, _, h6, _⟩ := hL
              rw [h0'] at h6; cases h6
          | some t0' =>
            obtain ⟨idx', hidx'⟩ := hfindS hl t0' h0'
            obtain ⟨t, xx, ht, hL⟩ := hfindL hi hidx
            obtain ⟨t', xx', ht', hL'⟩ := hfindL hl hidx'
            obtain ⟨_, _, _, g4, u0, y0, g5, g6, g7, g8⟩ := hL
            obtain ⟨_, _, _, g4', u0', y0', g5', g6', g7', g8'⟩ := hL'
            rw [h0] at g5; cases g5
            rw [h0'] at g5'; cases g5'
            simp only [hidx, hidx', ht, ht', g4, g4'] at hlim
            rw [Bool.and_eq_true] at hlim
            have hk := of_decide_eq_true hlim.1
            have hsm := hlim.2
            unfold sameMv mvQ at hsm
            simp only [decide_eq_true_eq] at hsm
            have hev : xx.ev = xx'.ev := ev_ext hsm.1 hsm.2.1 hsm.2.2.1
            show [sgL r.mv t0] = [sgL r.mv t0']
            unfold sgL
            rw [g6, g6', ← g7, ← g7', hk]
            simp only
            rw [← g8, ← g8', hev]
      · -- finals
        unfold sgB at p3 q3 ⊢
        simp only [Sg.mk.injEq, true_and, and_true] at p3 q3 ⊢
        refine ⟨?_, ?_⟩
        · rw [List.getD_eq_getElem?_getD, List.getD_eq_getElem?_getD, ihxy]
        · rw [p3.2, q3.2, hfin]
  intro i l hi hl hb
  have hi := (hlt i).1 hi
  have hl := (hlt l).1 hl
  obtain ⟨c, hc1⟩ := get_some (l := Q) (i := i) hi
  obtain ⟨d, hd1⟩ := get_some (l := Q) (i := l) hl
  have hcQ := List.mem_of_getElem? hc1
  have hdQ := List.mem_of_getElem? hd1
  have hci := hC.cs c (hc.pq.lt c hcQ)
  have hdi := hC.cs d (hc.pq.lt d hdQ)
  have ix : ∀ {i c : Nat}, Q[i]? = some c → idxF Q c = i := fun {i c} h => by
    have hm := List.mem_of_getElem? h
    exact (List.getElem?_inj (idxF_lt hm) hc.pq.nd).1 ((idxF_get hm).trans h.symm)
  have := main (N + 1) (idxF (cls r).1 c) (idxF (cls r).1 d) c d (by have := idxF_lt hci; rw [hC.cl] at this; exact this) (by have := idxF_lt hdi; rw [hC.cl] at this; exact this) (idxF_get hci) (idxF_get hdi) hcQ hdQ (by rw [ix hc1, ix hd1]; exact hb)
  rw [← hN1, idxF_get hci, idxF_get hdi] at this
  have hcd := Option.some.inj this
  subst hcd
  rw [← ix hc1, ← ix hd1]
end Go.VC
end

section
/- The law of minimal machines. -/
namespace Go.VC
open Go.Proofs Go.LexS

theorem limR_facts {n : Nat} {o : Ti} {M : List Mv} (hM : M.Pairwise mvLt) : (limR n o M).length ≤ 1 ∧ ∀ t ∈ limR n o M, t.s = (n : Int) ∧ ∃ y, M[t.e.toNat]? = some y ∧ y.f = (n : Int) := by
  have hmem : ∀ t ∈ limR n o M, t.s = (n : Int) ∧ ∃ (i : Nat) (y : Mv), t.e = (i : Int) ∧ M[i]? = some y ∧ y.f = (n : Int) ∧ y.ev = o.x := by
    intro t ht
    unfold limR at ht
    obtain ⟨q, hq, h2⟩ := List.mem_filterMap.1 ht
    obtain ⟨y, i⟩ := q
    rw [List.mem_zipIdx_iff_getElem?] at hq
    unfold limC at h2
    split at h2
    · rename_i hc
      cases h2
      refine ⟨rfl, i, y, rfl, hq, hc.1, ?_⟩
      rw [hc.2.2.2]
      exact ev_ext hc.2.1 rfl rfl
    · cases h2
  refine ⟨?_, fun t ht => ?_⟩
  · have key : ∀ k, k ≤ M.length → ((M.take k).zipIdx.filterMap (limC n o)).length ≤ 1 ∧ ((∃ i y, i < k ∧ M[i]? = some y ∧ limC n o (y, i) ≠ none) ∨ (M.take k).zipIdx.filterMap (limC n o) = []) := by
      intro k
      induction k with
      | zero => intro _; exact ⟨by simp, .inr rfl⟩
      | succ k ih =>
        intro hk
        obtain ⟨y, hy⟩ := get_some (l := M) (i := k) (by omega)
        obtain ⟨h1, h2⟩ := ih (by omega)
        rw [zip_snoc hy, List.filterMap_append]
        cases hl : limC n o (y, k) with
        | none =>
          have e : [(y, k)].filterMap (limC n o) = [] := by simp [hl]
          rw [e, List.append_nil]
          refine ⟨h1, ?_⟩
          rcases h2 with ⟨i, z, hi, h3, h4⟩ | h2
          · exact .inl ⟨i, z, by omega, h3, h4⟩
          · exact .inr h2
        | some t =>
          have e : [(y, k)].filterMap (limC n o) = [t] := by simp [hl]
          rw [e]
          rcases h2 with ⟨i, z, hi, h3, h4⟩ | h2
          · exfalso
            have hz : z.f = (n : Int) ∧ z.ev = o.x := by
              unfold limC at h4
              split at h4
              · rename_i hc; exact ⟨hc.1, by rw [hc.2.2.2]; exact ev_ext hc.2.1 rfl rfl⟩
              · exact absurd rfl h4
            have hyy : y.f = (n : Int) ∧ y.ev = o.x := by
              unfold limC at hl
              split at hl
              · rename_i hc; exact ⟨hc.1, by rw [hc.2.2.2]; exact ev_ext hc.2.1 rfl rfl⟩
              · cases hl
            rcases mvLt_get hM hi h3 hy with h5 | ⟨_, h5⟩
            · omega
            · rw [hz.2, hyy.2] at h5; exact evLt_irr _ h5
          · rw [h2]
            exact ⟨by simp, .inl ⟨k, y, by omega, hy, by rw [hl]; simp⟩⟩
    have := (key M.length (Nat.le_refl _)).1
    rw [List.take_length] at this
    exact this
  · obtain ⟨h1, i, y, h2, h3, h4, _⟩ := hmem t ht
    exact ⟨h1, y, by rw [h2, Int.toNat_natCast]; exact h3, h4⟩
theorem rawL_lims {vw : List Nat → Option Ti} : ∀ (n : Nat) (S : List PSet) (M : List Mv) (L : List To) {M' : List Mv} {L' : List To}, M.Pairwise mvLt → (L.map (·.s)).Nodup → (∀ t ∈ L, t.s < (n : Int) ∧ ∃ y, M[t.e.toNat]? = some y ∧ y.f = t.s) → rawL vw n S M L = some (M', L') →
    (L'.map (·.s)).Nodup ∧ ∀ t ∈ L', ∃ y, M'[t.e.toNat]? = some y ∧ y.f = t.s
  | n, [], M, L, M', L', _, hL, hl, h => by cases h; exact ⟨hL, fun t ht => (hl t ht).2⟩
  | n, p :: S, M, L, M', L', hM, hL, hl, h => by
    rw [rawL] at h
    cases hv : vw (elems p) with
    | none => rw [hv] at h; cases h
    | some o =>
      rw [hv] at h
      replace h : rawL vw (n + 1) S (M.map (updR n o)) (L ++ limR n o M) = some (M', L') := h
      have hup : ∀ x, (updR n o x).f = x.f ∧ (updR n o x).ev = x.ev := fun x => by
        obtain ⟨h1, h2, h3, h4, h5⟩ := updR_same n o x
        exact ⟨h1, by unfold Mv.ev; rw [h2, h3, h4]⟩
      obtain ⟨f1, f2⟩ := limR_facts (n := n) (o := o) hM
      refine rawL_lims (n + 1) S (M.map (updR n o)) (L ++ limR n o M) ?_ ?_ ?_ h
      · rw [List.pairwise_map]
        refine hM.imp fun {a b} hab => ?_
        unfold mvLt at hab ⊢
        rw [(hup a).1, (hup b).1, (hup a).2, (hup b).2]; exact hab
      · rw [List.map_append, List.nodup_append]
        refine ⟨hL, ?_, fun a ha b hb e => ?_⟩
        · generalize limR n o M = l at f1
          match l, f1 with
          | [], _ => simp
          | [a], _ => simp
        · obtain ⟨t, ht, rfl⟩ := List.mem_map.1 ha
          obtain ⟨u, hu, rfl⟩ := List.mem_map.1 hb
          have h5 := (hl t ht).1
          have h6 := (f2 u hu).1
          omega
      · intro t ht
        have get : ∀ {i : Nat} {y : Mv}, M[i]? = some y → (M.map (updR n o))[i]? = some (updR n o y) := fun h => by rw [List.getElem?_map, h]; rfl
        rcases List.mem_append.1 ht with ht | ht
        · obtain ⟨h5, y, h6, h7⟩ := hl t ht
          exact ⟨by omega, _, get h6, by rw [(hup y).1]; exact h7⟩
        · obtain ⟨h5, y, h6, h7⟩ := f2 t ht
          exact ⟨by omega, _, get h6, by rw [(hup y).1, h7, h5]⟩
theorem raw_raw {g : Gl} {role : Int} {m : Mch} (hr : g.rs.length ≤ 1048576) (hd : g.ds.length ≤ 1048576) (h : raw g role = (some m, 0)) : MRaw m := by
  obtain ⟨hO, hS⟩ := raw_ok hr hd h
  refine ⟨hO, hS, ?_, ?_⟩
  all_goals
    unfold raw at h
    split at h
    · cases h
    · rename_i hv
      obtain ⟨hV, hr0, hr1⟩ := Decidable.not_not.1 hv
      cases hw : views g role with
      | none => rw [hw] at h; cases h
      | some q =>
        obtain ⟨S, M⟩ := q
        rw [hw] at h
        replace h : (if M.length > 400 then ((none, 6) : Option Mch × Int) else
          match rawL (vwG g role) 0 S M [] with
          | none => (none, 18)
          | some (M', L) => (some ⟨role, S.length, 0, S.map (fun p => p g.e.toNat), M', L⟩, 0)) = (some m, 0) := h
        split at h
        · cases h
        · cases hl : rawL (vwG g role) 0 S M [] with
          | none => rw [hl] at h; cases h
          | some q =>
            obtain ⟨M', L⟩ := q
            rw [hl] at h
            cases h
            have := rawL_lims 0 S M [] (views_vi hV hw).1.so List.nodup_nil (fun t ht => by cases ht) hl
            first | exact this.2 | exact this.1
theorem minF_lens {r : Mch} (hR : MRaw r) : (minF r).mv.length ≤ 1048576 ∧ (minF r).li.length ≤ 1048576 := by
  have key : ∀ (f hd : Nat) (Q : List Nat) (fin : List Bool) (mv : List Mv) (li : List To), mv.length ≤ hd * 400 → li.length ≤ hd * 400 → hd ≤ 202 - f → f ≤ 202 → (minN r (cls r).1 f hd Q fin mv li).mv.length ≤ 80800 ∧ (minN r (cls r).1 f hd Q fin mv li).li.length ≤ 80800 := by
    intro f
    induction f with
    | zero => intro hd Q fin mv li h1 h2 h3 _; rw [minN]; have : hd * 400 ≤ 80800 := (by omega); exact ⟨Nat.le_trans h1 this, Nat.le_trans h2 this⟩
    | succ f ih =>
      intro hd Q fin mv li h1 h2 h3 hf
      rw [minN]
      cases hq : Q[hd]? with
      | none => have : hd * 400 ≤ 80800 := (by omega); exact ⟨Nat.le_trans h1 this, Nat.le_trans h2 this⟩
      | some c =>
        have hfold : ∀ (l : List Mv) (tl : Option To) (st : List Nat × List Mv × List To), (l.foldl (minX r (cls r).1 hd tl) st).2.1.length = st.2.1.length + l.length ∧ (l.foldl (minX r (cls r).1 hd tl) st).2.2.length ≤ st.2.2.length + l.length := by
          intro l tl
          induction l with
          | nil => intro st; exact ⟨rfl, Nat.le_refl _⟩
          | cons a l ih2 =>
            intro st
            rw [List.foldl_cons, List.length_cons]
            have h4 := ih2 (minX r (cls r).1 hd tl st a)
            have h5 := minX_len r (cls r).1 hd tl st a
            omega
        have hout : (outM r (idxF (cls r).1 c)).length ≤ 400 := Nat.le_trans (List.length_filter_le _ _) hR.ok.ml
        have h6 := hfold (outM r (idxF (cls r).1 c)) (mget (limM r.li) (idxF (cls r).1 c : Nat)) (Q, mv, li)
        simp only at h6
        exact ih (hd + 1) _ _ _ _ (by omega) (by omega) (by omega) (by omega)
  have := key 202 0 [(cls r).1.getD r.s.toNat 0] [] [] [] (by simp) (by simp) (by omega) (by omega)
  unfold minF
  omega
end Go.VC
end
