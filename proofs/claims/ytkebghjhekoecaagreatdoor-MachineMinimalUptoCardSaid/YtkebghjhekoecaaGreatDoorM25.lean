/- RjX RjAa RjBa RjBb RjBc RjBd RjBe RjY RjZ RjAb RjP RjBf. -/
import Derived.Test.YtkebghjhekoecaaGreatDoorM24
import Derived.Test.YtkebghjhekoecaaGreatDoorM01
import Derived.Test.YtkebghjhekoecaaGreatDoorM03
set_option linter.unusedVariables false
set_option linter.unusedSimpArgs false
set_option maxRecDepth 100000

section
/- Plain: the classes of the reference; a machine with the targets of its classes. No walk here. -/
namespace Go.VC
open Go.LexS
structure Pat (n : Nat) (D E : List Nat) : Prop where
 l : D.length = n
 r : E.length = n
 p : ∀ i j : Nat, i < n -> j < n -> (D[i]? = D[j]? ↔ E[i]? = E[j]?)
theorem Pat.symm {n : Nat} {D E : List Nat} (h : Pat n D E) : Pat n E D := ⟨h.r, h.l, fun i j hi hj => (h.p i j hi hj).symm⟩
theorem Pat.trans {n : Nat} {D E F : List Nat} (h : Pat n D E) (g : Pat n E F) : Pat n D F := ⟨h.l, g.r, fun i j hi hj => (h.p i j hi hj).trans (g.p i j hi hj)⟩
def NF (R : List Nat) : Prop := R = R.map (idxF R)
theorem idxF_le {K : Type} [DecidableEq K] : ∀ {L : List K} {i : Nat} {c : K}, L[i]? = some c -> idxF L c <= i
 | [], _, _, h => by simp at h
 | a :: L, 0, c, h => by
  rw [List.getElem?_cons_zero] at h
  rw [idxF, if_pos (Option.some.inj h)]; exact Nat.le_refl _
 | a :: L, i + 1, c, h => by
  rw [List.getElem?_cons_succ] at h
  rw [idxF]
  split
  ·
   omega
  ·
   have := idxF_le h; omega
theorem idxF_map {K K' : Type} [DecidableEq K] [DecidableEq K'] {f : K -> K'} {a : K} : ∀ {l : List K}, (∀ x ∈ l, f x = f a -> x = a) -> idxF (l.map f) (f a) = idxF l a
 | [], _ => rfl
 | x :: r, h => by
  rw [Yyl, idxF, idxF]
  by_cases e : x = a
  ·
   rw [if_pos e, if_pos (by rw [e])]
  ·
   rw [if_neg e, if_neg (fun h2 => e (h x Yx h2)), idxF_map fun y hy => h y (Yn _ hy)]
theorem idx_pat {n : Nat} {D E : List Nat} (h : Pat n D E) {i a b : Nat} (ha : D[i]? = some a) (hb : E[i]? = some b) : idxF D a = idxF E b := by
 have hi : i < n := by have := (Ya.1 ha).1; rw [h.l] at this; exact this
 have h1 := idxF_get (Yb ha)
 have h2 := idxF_lt (Yb ha)
 rw [h.l] at h2
 have h3 := idxF_get (Yb hb)
 have h4 := idxF_lt (Yb hb)
 rw [h.r] at h4
 have e1 : D[idxF E b]? = some a := by rw [(h.p _ i h4 hi).2 (by rw [h3, hb])]; exact ha
 have e2 : E[idxF D a]? = some b := by rw [(h.p _ i h2 hi).1 (by rw [h1, ha])]; exact hb
 exact Nat.le_antisymm (idxF_le e1) (idxF_le e2)
theorem NF_pat {n : Nat} {R C : List Nat} (hR : NF R) (h : Pat n R C) : R = C.map (idxF C) := by
 apply List.ext_getElem?
 intro i
 by_cases hi : i < n
 ·
  obtain ⟨a, ha⟩ := get_some (l := R) (i := i) (by rw [h.l]; exact hi)
  obtain ⟨c, hc⟩ := get_some (l := C) (i := i) (by rw [h.r]; exact hi)
  have e := congrArg (fun l => l[i]?) hR
  simp only [Yd, ha, Option.map_some, Option.some.injEq] at e
  rw [Yd, hc, ha, Option.map_some, <- idx_pat h ha hc]
  exact congrArg some e
 ·
  rw [Yl (by rw [h.l]; omega), Yl (by rw [Yc, h.r]; omega)]
theorem NF_eq {n : Nat} {R S : List Nat} (hR : NF R) (hS : NF S) (h : Pat n R S) : R = S := (NF_pat hR h).trans hS.symm
theorem NF_zero (n : Nat) : NF (List.replicate n 0) := by
 unfold NF
 rw [List.map_replicate]
 cases n with
 | zero => rfl
 | succ n =>
  congr 1
theorem clsT_len (m : Mch) (D : List Nat) : (clsT m D).length = m.n.toNat := by unfold clsT; rw [Yc, Yyd]
theorem clsT_get {m : Mch} {D : List Nat} {i : Nat} (hi : i < m.n.toNat) : (clsT m D)[i]? = some (keyT m D i) := by unfold clsT; rw [Yd, Yyb hi]; rfl
noncomputable def stepR (m : Mch) (D : List Nat) : List Nat := (clsT m D).map (idxF (clsT m D))
noncomputable def itR (m : Mch) : Nat -> List Nat
 | 0 => List.replicate m.n.toNat 0
 | k + 1 => stepR m (itR m k)
theorem stepR_len (m : Mch) (D : List Nat) : (stepR m D).length = m.n.toNat := by unfold stepR; rw [Yc, clsT_len]
theorem itR_len (m : Mch) : ∀ k, (itR m k).length = m.n.toNat
 | 0 => Yg
 | _ + 1 => stepR_len _ _
theorem stepR_get {m : Mch} {D : List Nat} {i : Nat} (hi : i < m.n.toNat) : (stepR m D)[i]? = some (idxF (clsT m D) (keyT m D i)) := by unfold stepR; rw [Yd, clsT_get hi]; rfl
theorem stepR_pat {m : Mch} {D : List Nat} {i j : Nat} (hi : i < m.n.toNat) (hj : j < m.n.toNat) : (stepR m D)[i]? = (stepR m D)[j]? ↔ keyT m D i = keyT m D j := by
 rw [stepR_get hi, stepR_get hj, Option.some.injEq]
 exact ⟨fun h => idxF_inj (Yb (clsT_get hi)) h, fun h => by rw [h]⟩
theorem NF_step (m : Mch) (D : List Nat) : NF (stepR m D) := by
 unfold NF
 apply List.ext_getElem?
 intro i
 by_cases hi : i < m.n.toNat
 ·
  rw [Yd, stepR_get hi, Option.map_some]
  congr 1
  unfold stepR
  refine (idxF_map (f := idxF (clsT m D)) fun x hx h => ?_).symm
  exact idxF_inj hx h
 ·
  rw [Yl (by rw [stepR_len]; omega), Yl (by rw [Yc, stepR_len]; omega)]
theorem NF_it (m : Mch) : ∀ k, NF (itR m k)
 | 0 => NF_zero _
 | _ + 1 => NF_step _ _
theorem getD_pat {n : Nat} {D E : List Nat} (h : Pat n D E) {x y : Nat} (hx : x < n) (hy : y < n) : D.getD x 0 = D.getD y 0 ↔ E.getD x 0 = E.getD y 0 := by
 obtain ⟨a, ha⟩ := get_some (l := D) (i := x) (by rw [h.l]; exact hx)
 obtain ⟨b, hb⟩ := get_some (l := D) (i := y) (by rw [h.l]; exact hy)
 obtain ⟨c, hc⟩ := get_some (l := E) (i := x) (by rw [h.r]; exact hx)
 obtain ⟨d, hd⟩ := get_some (l := E) (i := y) (by rw [h.r]; exact hy)
 have := h.p x y hx hy
 rw [ha, hb, hc, hd, Option.some.injEq, Option.some.injEq] at this
 rw [getD_some ha, getD_some hb, getD_some hc, getD_some hd]; exact this
theorem sgM_pat {n : Nat} {D E : List Nat} (h : Pat n D E) {x y : Mv} (hx : x.t.toNat < n) (hy : y.t.toNat < n) (e : sgM D x = sgM D y) : sgM E x = sgM E y := by
 have e1 : x.ev = y.ev := congrArg Sg.x e
 have e2 : x.ag = y.ag := congrArg Sg.ag e
 have e3 : ((D.getD x.t.toNat 0 : Nat) : Int) = ((D.getD y.t.toNat 0 : Nat) : Int) := congrArg Sg.num e
 have e4 := (getD_pat h hx hy).1 (by omega)
 unfold sgM
 rw [e1, e2, e4]
theorem rows_pat {n : Nat} {D E : List Nat} (h : Pat n D E) : ∀ {a b : List Mv}, (∀ x ∈ a, x.t.toNat < n) -> (∀ x ∈ b, x.t.toNat < n) -> a.map (sgM D) = b.map (sgM D) -> a.map (sgM E) = b.map (sgM E)
 | [], [], _, _, _ => rfl
 | [], _ :: _, _, _, e => by cases e
 | _ :: _, [], _, _, e => by cases e
 | x :: a, y :: b, ha, hb, e => by
  rw [Yyl, Yyl, List.cons.injEq] at e
  rw [Yyl, Yyl, sgM_pat h (ha x Yx) (hb y Yx) e.1, rows_pat h (fun z hz => ha z (Yn _ hz)) (fun z hz => hb z (Yn _ hz)) e.2]
theorem rwS_t {m : Mch} (hN : NumM m) {s : Nat} {x : Mv} (h : x ∈ rwS m s) : x.t.toNat < m.n.toNat := by
 have := hN.mv x (rwS_mem.1 h).1
 have := hN.n
 omega
theorem keyT_cut {m : Mch} {D : List Nat} {x y : Nat} : keyT m D x = keyT m D y ↔ (rwS m x).map (sgM D) = (rwS m y).map (sgM D) /\ sgT m x = sgT m y /\ sgB D m.fin x = sgB D m.fin y := by
 unfold keyT
 constructor
 ·
  intro h
  obtain ⟨h1, h2⟩ := List.append_inj' h rfl
  have h1 := List.reverse_inj.1 h1
  simp only [List.cons.injEq, and_true] at h2
  exact ⟨h1, h2.1, h2.2⟩
 ·
  rintro ⟨h1, h2, h3⟩
  rw [h1, h2, h3]
theorem sgB_cut {D : List Nat} {fin : List Bool} {x y : Nat} : sgB D fin x = sgB D fin y ↔ D.getD x 0 = D.getD y 0 /\ fin.getD x false = fin.getD y false := by
 unfold sgB
 constructor
 ·
  intro e
  have e1 : ((D.getD x 0 : Nat) : Int) = ((D.getD y 0 : Nat) : Int) := congrArg Sg.b e
  exact ⟨by omega, congrArg Sg.ag e⟩
 ·
  rintro ⟨h1, h2⟩
  rw [h1, h2]
theorem keyT_pat {m : Mch} (hN : NumM m) {D E : List Nat} (h : Pat m.n.toNat D E) {x y : Nat} (hx : x < m.n.toNat) (hy : y < m.n.toNat) (e : keyT m D x = keyT m D y) : keyT m E x = keyT m E y := by
 rw [keyT_cut, sgB_cut] at e ⊢
 obtain ⟨h1, h2, h3, h4⟩ := e
 exact ⟨rows_pat h (fun z hz => rwS_t hN hz) (fun z hz => rwS_t hN hz) h1, h2, (getD_pat h hx hy).1 h3, h4⟩
theorem itC_pat {m : Mch} (hV : WM m) (D : List Nat) {i j : Nat} (hi : i < m.n.toNat) (hj : j < m.n.toNat) : (canonL (clsK (srtM m) D))[i]? = (canonL (clsK (srtM m) D))[j]? ↔ keyT m D i = keyT m D j := by
 rw [keyT_iff hV hi hj]
 exact canonL_eq (clsK_get (m := srtM m) hi) (clsK_get (m := srtM m) hj)
theorem pat_it {m : Mch} (hV : WM m) : ∀ k, Pat m.n.toNat (itR m k) (itC (srtM m) k)
 | 0 => ⟨itR_len m 0, itC_len (srtM m) 0, fun i j hi hj => by
  show (List.replicate m.n.toNat 0)[i]? = (List.replicate m.n.toNat 0)[j]? ↔ _
  exact Iff.rfl⟩
 | k + 1 => ⟨itR_len m (k + 1), itC_len (srtM m) (k + 1), fun i j hi hj => by
  have ih := pat_it hV k
  show (stepR m (itR m k))[i]? = (stepR m (itR m k))[j]? ↔ (canonL (clsK (srtM m) (itC (srtM m) k)))[i]? = (canonL (clsK (srtM m) (itC (srtM m) k)))[j]?
  rw [stepR_pat hi hj, itC_pat hV _ hi hj]
  exact ⟨keyT_pat hV.n ih hi hj, keyT_pat hV.n ih.symm hi hj⟩⟩
theorem itR_stay {m : Mch} {k : Nat} (h : itR m (k + 1) = itR m k) : ∀ d, itR m (k + d) = itR m k
 | 0 => rfl
 | d + 1 => by
  show stepR m (itR m (k + d)) = _
  rw [itR_stay h d]; exact h
theorem it_pat_eq {m : Mch} (hV : WM m) {k : Nat} (h : ∀ x y : Nat, x < m.n.toNat -> y < m.n.toNat -> ((itC (srtM m) (k + 1))[x]? = (itC (srtM m) (k + 1))[y]? ↔ (itC (srtM m) k)[x]? = (itC (srtM m) k)[y]?)) : itR m (k + 1) = itR m k := by
 refine NF_eq (n := m.n.toNat) (NF_it m (k + 1)) (NF_it m k) ((pat_it hV (k + 1)).trans (Pat.trans ⟨itC_len (srtM m) (k + 1), itC_len (srtM m) k, h⟩ (pat_it hV k).symm))
/-! ### the machine whose targets are the least ones of their classes -/
section
variable {m : Mch} {C : List Nat}
end
end Go.VC
end

section
/- Plain: the least machine and the canonical machine of a valid machine are valid. No program here. -/
namespace Go.VC
open Go.LexS
theorem list_get_range {α : Type} (d : α) (l : List α) : l = (List.range l.length).map fun i => l.getD i d := by
 refine List.ext_getElem? fun i => ?_
 rw [Yd]
 by_cases h : i < l.length
 ·
  rw [Yyb h, Option.map_some, Yo, Yi h]; rfl
 ·
  rw [Yl (by omega), Yl (by rw [Yyd]; omega)]; rfl
theorem outIx_len (m : Mch) (s : Nat) : (outIx m (s : Int)).length = (outM m s).length := by
 unfold outIx outM
 rw [<- List.countP_eq_length_filter, <- List.countP_eq_length_filter]
 have e := congrArg (List.countP fun x : Mv => decide (x.f = (s : Int))) (list_get_range ⟨0, false, 0, 0, 0, false⟩ m.mv)
 rw [List.countP_map] at e
 rw [e]
 refine List.countP_congr fun i hi => ?_
 obtain ⟨x, hx⟩ := get_some (l := m.mv) (i := i) (List.mem_range.1 hi)
 unfold outP
 rw [hx]
 show _ ↔ decide ((m.mv.getD i _).f = (s : Int)) = true
 rw [getD_some hx]
theorem row_send {m : Mch} (hD : DetM m) {s : Nat} {x y : Mv} (hx : x ∈ rwS m s) (hy : y ∈ rwS m s) : x.send = y.send := by
 obtain ⟨hx, fx⟩ := rwS_mem.1 hx
 obtain ⟨hy, fy⟩ := rwS_mem.1 hy
 obtain ⟨i, hi⟩ := Yf.1 hx
 obtain ⟨j, hj⟩ := Yf.1 hy
 by_cases e : i = j
 ·
  subst e; rw [hi] at hj; cases hj; rfl
 ·
  exact (hD i j x y hi hj e (by rw [fx, fy])).2
theorem nx_hit (l : List Mv) (v : Int) (h1 : 1 <= v) (h2 : v < nxL l) : ∃ (i : Nat) (x : Mv), l[i]? = some x /\ x.t = v /\ nxL (l.take i) = v := by
 have key : ∀ n, n <= l.length -> v < nxL (l.take n) -> ∃ (i : Nat) (x : Mv), l[i]? = some x /\ x.t = v /\ nxL (l.take i) = v := by
  intro n
  induction n with
  | zero =>
   intro _ h
   rw [Yyk] at h
   have : nxL [] = 1 := rfl
   omega
  | succ n ih =>
   intro hn h
   obtain ⟨x, hx⟩ := get_some (l := l) (i := n) (by omega)
   rw [take_snoc hx, nxL_snoc] at h
   by_cases hlt : v < nxL (l.take n)
   ·
    exact ih (by omega) hlt
   ·
    split at h
    ·
     rename_i e
     exact ⟨n, x, hx, by omega, by omega⟩
    ·
     omega
 exact key l.length (Nat.le_refl _) (by rw [Yye]; exact h2)
theorem num_reach {M : Mch} (h1 : nxL M.mv = M.n) (h2 : ∀ (i : Nat) x, M.mv[i]? = some x -> x.t <= nxL (M.mv.take i) /\ x.f < nxL (M.mv.take i)) (h3 : M.s = 0) (h4 : ∀ x ∈ M.mv, 0 <= x.f) : RchM M := by
 have key : ∀ k : Nat, (k : Int) < M.n -> Qr (meds M) (-1) [M.s] (k : Int) := by
  intro k
  induction k using Nat.strongRecOn with
  | ind k ih =>
   intro hk
   by_cases h0 : k = 0
   ·
    subst h0
    exact .base (by rw [h3]; exact Ye.2 rfl)
   ·
    obtain ⟨i, x, hx, ht, hn⟩ := nx_hit M.mv k (by omega) (by omega)
    have hf := (h2 i x hx).2
    have hm := Yb hx
    have h0 := h4 x hm
    have hq := ih x.f.toNat (by omega) (by omega)
    exact .step hq (quietL_mem.1 (meds_q.2 ⟨x, hm, by omega, ht⟩))
 intro v h0 hv
 have := key v.toNat (by omega)
 rwa [show ((v.toNat : Nat) : Int) = v by omega] at this
structure KeepC (m : Mch) (C : List Nat) (cnt : Nat) : Prop where
 ok : CsOk (srtM m) C cnt
 ev : ∀ x y : Nat, x < m.n.toNat -> y < m.n.toNat -> C[x]? = C[y]? -> (rwS m x).map (fun z => (z.ev, z.ag)) = (rwS m y).map (fun z => (z.ev, z.ag))
section
variable {m : Mch} {C : List Nat} {cnt : Nat}
theorem KeepC.inr (hK : KeepC m C cnt) {a b : Nat} (ha : a < m.n.toNat) (hb : b < m.n.toNat) (h : C[a]? = C[b]?) {x : Mv} (hx : x ∈ rwS m a) : ∃ w ∈ rwS m b, w.ev = x.ev /\ w.ag = x.ag := by
 have h1 : (x.ev, x.ag) ∈ (rwS m a).map fun z => (z.ev, z.ag) := Yp.2 ⟨x, hx, rfl⟩
 rw [hK.ev a b ha hb h] at h1
 obtain ⟨w, hw, e⟩ := Yp.1 h1
 exact ⟨w, hw, congrArg Prod.fst e, congrArg Prod.snd e⟩
theorem rep_at (hK : CsOk (srtM m) C cnt) {Q : List Nat} (hQ : QOk Q cnt) {i : Nat} (hi : i < Q.length) : ∃ q, Q[i]? = some q /\ repQ C Q i < m.n.toNat /\ C[repQ C Q i]? = some q := by
 obtain ⟨q, hq⟩ := get_some (l := Q) (i := i) hi
 have hm := hK.cs q (hQ.lt q (Yb hq))
 have e : repQ C Q i = idxF C q := by unfold repQ; rw [getD_some hq]
 rw [e]
 have hl : C.length = m.n.toNat := hK.cl
 exact ⟨q, hq, by rw [<- hl]; exact idxF_lt hm, idxF_get hm⟩
theorem rep_inj (hK : CsOk (srtM m) C cnt) {Q : List Nat} (hQ : QOk Q cnt) {i j : Nat} (hi : i < Q.length) (hj : j < Q.length) (h : repQ C Q i = repQ C Q j) : i = j := by
 obtain ⟨q, hq, _, h1⟩ := rep_at hK hQ hi
 obtain ⟨p, hp, _, h2⟩ := rep_at hK hQ hj
 rw [h, h2] at h1
 cases h1
 exact (List.getElem?_inj hi hQ.nd).1 (by rw [hq, hp])
structure MinI (m : Mch) (C : List Nat) (cnt c0 : Nat) (M : Mch) (Q : List Nat) : Prop where
 n : M.n = (Q.length : Nat)
 s : M.s = 0
 i : CanI (srtM m) C cnt Q.length Q M.fin M.mv M.li
 q0 : Q[0]? = some c0
 nx : nxL M.mv = M.n
 na : ∀ (i : Nat) x, M.mv[i]? = some x -> x.t <= nxL (M.mv.take i) /\ x.f < nxL (M.mv.take i)
 ls : M.li.Pairwise fun a b => a.s < b.s
 ro : M.role = m.role
theorem minN_i (hW : WM m) (hK : CsOk (srtM m) C cnt) {c0 : Nat} (hc0 : C[m.s.toNat]? = some c0) : ∃ Q, MinI m C cnt c0 (minN (srtM m) C 202 0 [c0] [] [] []) Q := by
 have hR := srtM_raw hW
 have hn := hW.n.n
 have hs := hW.n.s
 have hc0m := Yb hc0
 have hcc : cnt <= m.n.toNat := hK.cc
 have h0 : CanI (srtM m) C cnt 0 [c0] [] [] [] := ⟨⟨by simp, fun c hc => by rw [Ye] at hc; rw [hc]; exact hK.cb c0 hc0m⟩, by simp, rfl, rfl, fun i hi => (by omega), fun t ht => (by cases ht), fun i hi => (by omega)⟩
 obtain ⟨Q, h1, h2, h3, E, h4⟩ := minN_can hR.ok hK.cl hK.cb 202 0 [c0] [] [] [] (by omega) h0
 obtain ⟨h5, h6, h7, h8⟩ := minN_num (C := C) hR.so 202 0 [c0] [] [] [] (by simp) ⟨fun i x hx => by simp at hx, rfl⟩ ⟨List.Pairwise.nil, fun t ht => by cases ht⟩
 exact ⟨Q, h1, h2, h3, by rw [h4]; rfl, h5, h6, h7, h8⟩
section
variable {c0 : Nat} {M : Mch} {Q : List Nat}
theorem MinI.out (I : MinI m C cnt c0 M Q) (hK : CsOk (srtM m) C cnt) {i : Nat} (hi : i < Q.length) : outM (srtM m) (repQ C Q i) = rwS m (repQ C Q i) := by
 obtain ⟨q, _, hl, _⟩ := rep_at hK I.i.pq hi
 exact outM_srt hl
theorem MinI.row (I : MinI m C cnt c0 M Q) (hK : CsOk (srtM m) C cnt) {i : Nat} (hi : i < Q.length) : outM M i = (rwS m (repQ C Q i)).map (mvQ C Q i) := by
 unfold outM
 rw [can_row I.i hi, I.out hK hi]
theorem MinI.mv (I : MinI m C cnt c0 M Q) (hK : CsOk (srtM m) C cnt) : M.mv = (List.range Q.length).flatMap fun i => (rwS m (repQ C Q i)).map (mvQ C Q i) := by
 rw [I.i.pm]
 exact flatMap_congr' fun i hi => by rw [I.out hK (List.mem_range.1 hi)]
theorem MinI.mem (I : MinI m C cnt c0 M Q) (hK : CsOk (srtM m) C cnt) : ∀ z ∈ M.mv, ∃ i x, i < Q.length /\ x ∈ rwS m (repQ C Q i) /\ z = mvQ C Q i x := fun z hz => by
 rw [I.mv hK, List.mem_flatMap] at hz
 obtain ⟨i, hi, hz⟩ := hz
 obtain ⟨x, hx, rfl⟩ := Yp.1 hz
 exact ⟨i, x, List.mem_range.1 hi, hx, rfl⟩
theorem MinI.tq (I : MinI m C cnt c0 M Q) (hK : CsOk (srtM m) C cnt) {i : Nat} {x : Mv} (hi : i < Q.length) (hx : x ∈ rwS m (repQ C Q i)) : C.getD x.t.toNat 0 ∈ Q := I.i.pt i hi x (by rw [I.out hK hi]; exact hx)
theorem MinI.so (I : MinI m C cnt c0 M Q) (hK : CsOk (srtM m) C cnt) (hD : DetM m) : M.mv.Pairwise mvLt := by
 rw [I.mv hK, List.pairwise_flatMap]
 refine ⟨fun i _ => ?_, ?_⟩
 ·
  rw [List.pairwise_map]
  exact (rwS_lt hD (repQ C Q i)).imp fun {a b} h => .inr ⟨rfl, h⟩
 ·
  refine List.Pairwise.imp ?_ (List.pairwise_lt_range (n := Q.length))
  intro i k hik x hx y hy
  obtain ⟨a, _, rfl⟩ := Yp.1 hx
  obtain ⟨b, _, rfl⟩ := Yp.1 hy
  exact .inl (by show ((i : Nat) : Int) < (k : Nat); omega)
theorem MinI.lim (I : MinI m C cnt c0 M Q) (hK : CsOk (srtM m) C cnt) (hW : WM m) {t : To} (ht : t ∈ M.li) : ∃ (i : Nat) (t1 : To) (x : Mv), i < Q.length /\ t.s = (i : Int) /\ limT m (repQ C Q i : Nat) = some t1 /\ t.k = t1.k /\ (1 <= t.k /\ t.k <= 1000) /\ 0 <= t.e /\ m.mv[t1.e.toNat]? = some x /\ x ∈ rwS m (repQ C Q i) /\ M.mv[t.e.toNat]? = some (mvQ C Q i x) /\ x.send = true /\ x.ag = false := by
 have hR := srtM_raw hW
 obtain ⟨i', x, hi', g1, g2, g3, g4, t0, y, g5, g6, g7, g8⟩ := I.i.p1 t ht
 rw [lim_srt hW.t] at g5
 cases hlt : limT m (repQ C Q i' : Nat) with
 | none => rw [hlt] at g5; cases g5
 | some t1 =>
  rw [hlt] at g5
  cases g5
  obtain ⟨a1, a2⟩ := limT_mem hlt
  obtain ⟨b1, y', b0, b2, b3, b4, _, _, b5⟩ := li_in hW a1
  have g6 : (srtV m)[(srtE m t1).e.toNat]? = some y := g6
  have e6 : y' = y := Option.some.inj (b5.symm.trans g6)
  subst e6
  have hyo : y' ∈ outM (srtM m) (repQ C Q i') := by
   unfold outM
   exact List.mem_filter.2 ⟨Yb b5, by rw [b2, a2]; exact decide_eq_true rfl⟩
  have hxy := outM_inj hR.so g2 hyo g8
  subst hxy
  have hk : t.k = t1.k := g7
  exact ⟨i', t1, _, hi', g1, hlt, hk, by rw [hk]; exact b1, g3, b0, by rw [<- I.out hK hi']; exact g2, g4, b3, b4⟩
theorem MinI.lim2 (I : MinI m C cnt c0 M Q) (hK : CsOk (srtM m) C cnt) (hW : WM m) {i : Nat} (hi : i < Q.length) {t1 : To} (h : limT m (repQ C Q i : Nat) = some t1) : ∃ t ∈ M.li, t.s = (i : Int) := by
 obtain ⟨a1, a2⟩ := limT_mem h
 obtain ⟨_, y, _, b2, _, _, _, _, b5⟩ := li_in hW a1
 refine I.i.p2 i hi (srtE m t1) y (by rw [lim_srt hW.t, h]; rfl) b5 ⟨y, ?_, rfl⟩
 unfold outM
 exact List.mem_filter.2 ⟨Yb b5, by rw [b2, a2]; exact decide_eq_true rfl⟩
set_option maxHeartbeats 1000000 in
theorem MinI.vm (I : MinI m C cnt c0 M Q) (hV : VM m) (hK : KeepC m C cnt) (hc0 : C[m.s.toNat]? = some c0) : VM M := by
 have hW := hV.w
 have hn := hV.n.n
 have hs := hV.n.s
 have hcc : cnt <= m.n.toNat := hK.ok.cc
 have h1 := I.n
 have h2 := I.s
 have h8 := I.ro
 have hQ := I.i.pq
 have hQl := hQ.le
 have hQ1 : 1 <= Q.length := (Ya.1 I.q0).1
 have hmv := I.mv hK.ok
 have hmem := I.mem hK.ok
 have hso := I.so hK.ok hV.d
 have hlen : M.mv.length <= m.mv.length := by
  have e : M.mv.length = ((List.range Q.length).flatMap fun i => rwS m (repQ C Q i)).length := by
   rw [hmv, List.length_flatMap, List.length_flatMap]
   simp only [Yc]
  rw [e]
  refine List.Nodup.length_le_of_subset ?_ fun x hx => ?_
  ·
   rw [List.nodup_iff_pairwise_ne, List.pairwise_flatMap]
   refine ⟨fun i _ => (rwS_lt hV.d (repQ C Q i)).imp fun {a b} h (e : a = b) => evLt_irr b.ev (by rw [e] at h; exact h), ?_⟩
   refine List.Pairwise.imp_of_mem ?_ (List.pairwise_lt_range (n := Q.length))
   intro i k hi hk hik x hx y hy e
   have f1 := (rwS_mem.1 hx).2
   have f2 := (rwS_mem.1 hy).2
   have := rep_inj hK.ok hQ (List.mem_range.1 hi) (List.mem_range.1 hk) (by rw [e] at f1; omega)
   omega
  ·
   obtain ⟨i, _, hx⟩ := List.mem_flatMap.1 hx
   exact (rwS_mem.1 hx).1
 have hnum : NumM M := by
  refine ⟨by rw [h8]; exact hV.n.r, by omega, by omega, ?_, Nat.le_trans hlen hV.n.ml, fun z hz => ?_⟩
  ·
   rw [I.i.pf, Yc, Yyd, h1]
  ·
   obtain ⟨i, x, hi, hx, rfl⟩ := hmem z hz
   have h9 := hV.n.mv x (rwS_mem.1 hx).1
   have h10 := idxF_lt (I.tq hK.ok hi hx)
   rw [h8]
   show 0 <= ((i : Nat) : Int) /\ ((i : Nat) : Int) < M.n /\ 0 <= ((idxF Q (C.getD x.t.toNat 0) : Nat) : Int) /\ ((idxF Q (C.getD x.t.toNat 0) : Nat) : Int) < M.n /\ 0 <= x.peer /\ x.peer < 6 /\ x.peer ≠ m.role /\ 0 <= x.label /\ x.label < 40
   omega
 have hlen1 : ∀ i, i < Q.length -> (outIx M (i : Int)).length = (outIx m (repQ C Q i : Int)).length := fun i hi => by
  rw [outIx_len, I.row hK.ok hi, Yc, rwS_len]
  exact (mvS_srt m _).1.length_eq
 refine ⟨hnum, ?_, num_reach I.nx I.na h2 fun x hx => (hnum.mv x hx).1, ⟨?_, ?_, ?_, ?_, ?_⟩, ?_⟩
 ·
  intro i k x y hx hy hne hf
  have hev : x.ev ≠ y.ev := fun e => by
   rcases Nat.lt_or_gt_of_ne hne with h | h
   ·
    rcases mvLt_get hso h hx hy with h | ⟨_, h⟩
    ·
     omega
    ·
     rw [e] at h; exact evLt_irr _ h
   ·
    rcases mvLt_get hso h hy hx with h | ⟨_, h⟩
    ·
     omega
    ·
     rw [e] at h; exact evLt_irr _ h
  refine ⟨hev, ?_⟩
  obtain ⟨i1, x1, hi1, hx1, rfl⟩ := hmem x (Yb hx)
  obtain ⟨i2, y1, hi2, hy1, rfl⟩ := hmem y (Yb hy)
  have : i1 = i2 := by
   have : ((i1 : Nat) : Int) = (i2 : Nat) := hf
   omega
  subst this
  show x1.send = y1.send
  exact row_send hV.d hx1 hy1
 ·
  intro z hz ha
  obtain ⟨i, x, hi, hx, rfl⟩ := hmem z hz
  exact hV.a.s x (rwS_mem.1 hx).1 ha
 ·
  intro z hz ha
  obtain ⟨i, x, hi, hx, rfl⟩ := hmem z hz
  have h9 := hV.a.o x (rwS_mem.1 hx).1 ha
  rw [(rwS_mem.1 hx).2] at h9
  show (outIx M ((i : Nat) : Int)).length = 1
  rw [hlen1 i hi]; exact h9
 ·
  intro z hz ha
  obtain ⟨i, x, hi, hx, rfl⟩ := hmem z hz
  rw [h2]
  intro e
  have e : ((i : Nat) : Int) = 0 := e
  have : i = 0 := by omega
  subst this
  obtain ⟨q, hq, hl, hC⟩ := rep_at hK.ok hQ hi
  rw [I.q0] at hq; cases hq
  obtain ⟨w, hw, _, hwa⟩ := hK.inr hl (by omega) (hC.trans hc0.symm) hx
  have hwf := rwS_mem.1 hw
  refine hV.a.i w hwf.1 (by rw [hwa]; exact ha) ?_
  rw [hwf.2]; omega
 ·
  intro z hz ha
  obtain ⟨i, x, hi, hx, rfl⟩ := hmem z hz
  have hxf := rwS_mem.1 hx
  have h9 := hV.a.f x hxf.1 ha
  rw [hxf.2, show ((repQ C Q i : Nat) : Int).toNat = repQ C Q i from rfl] at h9
  show M.fin[((i : Nat) : Int).toNat]? = some false
  rw [I.i.pf, show ((i : Nat) : Int).toNat = i from rfl, Yd, Yyb hi]
  show some (m.fin.getD (repQ C Q i) false) = some false
  rw [getD_some h9]
 ·
  intro z hz ha y' hy' ht
  obtain ⟨i, x, hi, hx, rfl⟩ := hmem z hz
  obtain ⟨k, y, hk, hy, rfl⟩ := hmem y' hy'
  have ht : ((idxF Q (C.getD y.t.toNat 0) : Nat) : Int) = (i : Nat) := ht
  have ht : idxF Q (C.getD y.t.toNat 0) = i := by omega
  have hyr := hV.n.mv y (rwS_mem.1 hy).1
  obtain ⟨cy, hcy⟩ := get_some (l := C) (i := y.t.toNat) (by have : C.length = m.n.toNat := hK.ok.cl; omega)
  have hin := I.tq hK.ok hk hy
  rw [getD_some hcy] at ht hin
  obtain ⟨q, hq, hl, hC⟩ := rep_at hK.ok hQ hi
  have hqc : some q = some cy := by rw [<- hq, <- ht]; exact idxF_get hin
  obtain ⟨w, hw, hwe, hwa⟩ := hK.inr hl (b := y.t.toNat) (by omega) (by rw [hC, hcy, hqc]) hx
  have hwf := rwS_mem.1 hw
  have h9 := hV.a.p w hwf.1 (by rw [hwa]; exact ha) y (rwS_mem.1 hy).1 (by rw [hwf.2]; omega)
  have hwl : w.label = x.label := congrArg Ev.label hwe
  exact ⟨h9.1, h9.2.trans hwl⟩
 ·
  intro i t hi
  obtain ⟨i', t1, x, _, g1, _, _, g4, g5, _, _, g6, g7, g8⟩ := I.lim hK.ok hW (Yb hi)
  exact ⟨fun z h0 hz => pair_get I.ls (by omega) hz hi, g4, g5, _, g6, g1.symm, g7, g8⟩
end
theorem minN_vm (hV : VM m) (hK : KeepC m C cnt) {c0 : Nat} (hc0 : C[m.s.toNat]? = some c0) : VM (minN (srtM m) C 202 0 [c0] [] [] []) := by
 obtain ⟨Q, I⟩ := minN_i hV.w hK.ok hc0
 exact I.vm hV hK hc0
end
theorem row_of_key {m : Mch} {D : List Nat} {x y : Nat} (h : (rwS m x).map (sgM D) = (rwS m y).map (sgM D)) : (rwS m x).map (fun z => (z.ev, z.ag)) = (rwS m y).map (fun z => (z.ev, z.ag)) := by
 have := congrArg (List.map fun s : Sg => (s.x, s.ag)) h
 rw [List.map_map, List.map_map] at this
 exact this
theorem keep_cls {m : Mch} (hV : WM m) : KeepC m (cls (srtM m)).1 (cls (srtM m)).2 := by
 have hO := (srtM_raw hV).ok
 refine ⟨cls_ok hO, fun x y hx hy h => ?_⟩
 obtain ⟨N, _, _, h3⟩ := cls_stable hO
 have hk := (keyS_parts (h3 x y hx hy h)).1
 rw [outM_srt hx, outM_srt hy] at hk
 exact row_of_key hk
theorem keep_range {m : Mch} : KeepC m (List.range m.n.toNat) m.n.toNat := by
 refine ⟨⟨Yyd, fun c hc => List.mem_range.1 hc, Nat.le_refl _, fun c hc => List.mem_range.2 hc⟩, fun x y hx hy h => ?_⟩
 rw [Yyb hx, Yyb hy] at h
 cases h; rfl
theorem minF_vm {m : Mch} (hV : VM m) : VM (minF (srtM m)) := by
 have hK := keep_cls hV.w
 have hs := hV.n.s
 obtain ⟨c0, hc0⟩ := get_some (l := (cls (srtM m)).1) (i := m.s.toNat) (by have : (cls (srtM m)).1.length = m.n.toNat := hK.ok.cl; omega)
 have := minN_vm hV hK hc0
 unfold minF
 rw [show (srtM m).s = m.s from rfl, getD_some hc0]
 exact this
theorem canN_vm {m : Mch} (hV : VM m) : VM (canN m) := by
 have hs := hV.n.s
 exact minN_vm hV keep_range (Yyb (by omega))
end Go.VC
end

section
/- Plain: a machine in the order of its own numbers is determined by what it does. No program here. -/
namespace Go.VC
open Go.LexS
structure CanF (M : Mch) : Prop where
 s : M.s = 0
 n : 1 <= M.n
 fl : (M.fin.length : Int) = M.n
 so : M.mv.Pairwise mvLt
 nx : nxL M.mv = M.n
 na : ∀ (i : Nat) x, M.mv[i]? = some x -> x.t <= nxL (M.mv.take i) /\ x.f < nxL (M.mv.take i)
 f0 : ∀ x ∈ M.mv, 0 <= x.f /\ 0 <= x.t
 ls : M.li.Pairwise fun a b => a.s < b.s
 li : ∀ t ∈ M.li, 0 <= t.s /\ t.s < M.n /\ 0 <= t.e /\ ∃ y, M.mv[t.e.toNat]? = some y /\ y.f = t.s
structure IsoR (M K : Mch) (R : Nat -> Nat -> Prop) : Prop where
 ro : M.role = K.role
 fn : ∀ {a b c : Nat}, R a b -> R a c -> b = c
 ij : ∀ {a b c : Nat}, R a c -> R b c -> a = b
 s : R 0 0
 rl : ∀ {a b : Nat}, R a b -> (outM M a).length = (outM K b).length
 rw : ∀ {a b : Nat} {j : Nat} {x y : Mv}, R a b -> (outM M a)[j]? = some x -> (outM K b)[j]? = some y -> x.ev = y.ev /\ x.ag = y.ag /\ R x.t.toNat y.t.toNat
 fi : ∀ {a b : Nat}, R a b -> M.fin[a]? = K.fin[b]?
 l1 : ∀ {a b : Nat} {t : To} {y : Mv}, R a b -> t ∈ M.li -> t.s = (a : Int) -> M.mv[t.e.toNat]? = some y -> ∃ u z, u ∈ K.li /\ u.s = (b : Int) /\ u.k = t.k /\ K.mv[u.e.toNat]? = some z /\ z.ev = y.ev
 l2 : ∀ {a b : Nat} {t : To} {y : Mv}, R a b -> t ∈ K.li -> t.s = (b : Int) -> K.mv[t.e.toNat]? = some y -> ∃ u z, u ∈ M.li /\ u.s = (a : Int) /\ u.k = t.k /\ M.mv[u.e.toNat]? = some z /\ z.ev = y.ev
theorem IsoR.symm {M K : Mch} {R : Nat -> Nat -> Prop} (I : IsoR M K R) : IsoR K M fun a b => R b a :=
 ⟨I.ro.symm, fun h1 h2 => I.ij h1 h2, fun h1 h2 => I.fn h1 h2, I.s, fun h => (I.rl h).symm, fun h h1 h2 => by
  obtain ⟨a, b, c⟩ := I.rw h h2 h1
  exact ⟨a.symm, b.symm, c⟩, fun h => (I.fi h).symm, fun h => I.l2 h, fun h => I.l1 h⟩
theorem filt_at {α : Type} {p : α -> Bool} {L : List α} {i : Nat} {x : α} (hx : L[i]? = some x) (hp : p x = true) : (L.filter p)[((L.take i).filter p).length]? = some x := by
 have hi := (Ya.1 hx).1
 have e : L.drop i = x :: L.drop (i + 1) := by
  rw [List.drop_eq_getElem_cons hi, (Ya.1 hx).2]
 have h : L.filter p = (L.take i).filter p ++ (L.drop i).filter p := by rw [<- List.filter_append, List.take_append_drop]
 rw [h, e, List.filter_cons_of_pos hp, Yyc (Nat.le_refl _), Nat.sub_self]; rfl
theorem filt_back {α : Type} {p : α -> Bool} {L : List α} {i j : Nat} {y : α} (hy : (L.filter p)[j]? = some y) (hj : ((L.take i).filter p).length <= j) : ∃ i', i <= i' /\ L[i']? = some y := by
 have h : L.filter p = (L.take i).filter p ++ (L.drop i).filter p := by rw [<- List.filter_append, List.take_append_drop]
 rw [h, Yyc hj] at hy
 obtain ⟨k, hk⟩ := Yf.1 (List.mem_filter.1 (Yb hy)).1
 rw [List.getElem?_drop] at hk
 exact ⟨i + k, by omega, hk⟩
theorem mv_le {L : List Mv} (hS : L.Pairwise mvLt) {i j : Nat} {x y : Mv} (hij : i <= j) (hx : L[i]? = some x) (hy : L[j]? = some y) : x.f <= y.f := by
 rcases Nat.lt_or_ge i j with h | h
 ·
  rcases mvLt_get hS h hx hy with h | ⟨h, _⟩ <;> omega
 ·
  have : i = j := by omega
  subst this
  rw [hx] at hy; cases hy; exact Int.le_refl _
section
variable {M K : Mch} {R : Nat -> Nat -> Prop}
theorem iso_half (hM : CanF M) (I : IsoR M K R) {i : Nat} {x : Mv} (hx : M.mv[i]? = some x) (ht : M.mv.take i = K.mv.take i) (hr : ∀ k : Nat, (k : Int) < nxL (M.mv.take i) -> R k k) : ∃ (y : Mv) (i' : Nat), i <= i' /\ K.mv[i']? = some y /\ y.f = x.f := by
 have h0 := (hM.f0 x (Yb hx)).1
 have h1 := (hM.na i x hx).2
 have hR := hr x.f.toNat (by omega)
 have h2 := filt_at (p := fun z : Mv => decide (z.f = ((x.f.toNat : Nat) : Int))) hx (decide_eq_true (by omega))
 have hlen : ((M.mv.take i).filter fun z : Mv => decide (z.f = ((x.f.toNat : Nat) : Int))).length < (outM M x.f.toNat).length := (Ya.1 h2).1
 rw [I.rl hR] at hlen
 obtain ⟨y, hy⟩ := get_some (l := outM K x.f.toNat) hlen
 obtain ⟨i', h3, h4⟩ := filt_back (i := i) (p := fun z : Mv => decide (z.f = ((x.f.toNat : Nat) : Int))) (L := K.mv) hy (by rw [ht]; exact Nat.le_refl _)
 have := (outM_f (Yb hy)).2
 exact ⟨y, i', h3, h4, by omega⟩
theorem iso_step (hM : CanF M) (hK : CanF K) (I : IsoR M K R) {i : Nat} {x : Mv} (hx : M.mv[i]? = some x) (ht : M.mv.take i = K.mv.take i) (hr : ∀ k : Nat, (k : Int) < nxL (M.mv.take i) -> R k k) : K.mv[i]? = some x /\ R x.t.toNat x.t.toNat := by
 obtain ⟨y', i', h1, h2, h3⟩ := iso_half hM I hx ht hr
 obtain ⟨y, hy⟩ := get_some (l := K.mv) (i := i) (by have := (Ya.1 h2).1; omega)
 have hyx := mv_le hK.so h1 hy h2
 obtain ⟨x', i2, g1, g2, g3⟩ := iso_half hK I.symm hy ht.symm (fun k hk => hr k (by rw [ht]; exact hk))
 have hxy := mv_le hM.so g1 hx g2
 have hf : x.f = y.f := by omega
 have hx0 := hM.f0 x (Yb hx)
 have hy0 := hK.f0 y (Yb hy)
 have hxn := hM.na i x hx
 have hyn := hK.na i y hy
 rw [<- ht] at hyn
 have hR := hr x.f.toNat (by omega)
 have a1 := filt_at (p := fun z : Mv => decide (z.f = ((x.f.toNat : Nat) : Int))) hx (decide_eq_true (by omega))
 have a2 := filt_at (p := fun z : Mv => decide (z.f = ((x.f.toNat : Nat) : Int))) hy (decide_eq_true (by omega))
 rw [<- ht] at a2
 obtain ⟨e1, e2, e3⟩ := I.rw hR a1 a2
 have hteq : x.t = y.t := by
  by_cases c1 : x.t < nxL (M.mv.take i)
  ·
   have := I.fn (hr x.t.toNat (by omega)) e3
   omega
  ·
   by_cases c2 : y.t < nxL (M.mv.take i)
   ·
    have := I.ij (hr y.t.toNat (by omega)) e3
    omega
   ·
    omega
 have hxyE : x = y := by
  cases x; cases y
  simp only [Mv.ev, Ev.mk.injEq] at e1
  obtain ⟨b1, b2, b3⟩ := e1
  simp only at hf e2 hteq
  subst hf; subst e2; subst hteq; subst b1; subst b2; subst b3
  rfl
 subst hxyE
 exact ⟨hy, e3⟩
theorem iso_take (hM : CanF M) (hK : CanF K) (I : IsoR M K R) : ∀ i, i <= M.mv.length -> M.mv.take i = K.mv.take i /\ ∀ k : Nat, (k : Int) < nxL (M.mv.take i) -> R k k
 | 0, _ => ⟨by rw [Yyk, Yyk], fun k hk => by
   rw [Yyk] at hk
   have : nxL [] = 1 := rfl
   have : k = 0 := by omega
   subst this
   exact I.s⟩
 | i + 1, hi => by
  obtain ⟨h1, h2⟩ := iso_take hM hK I i (by omega)
  obtain ⟨x, hx⟩ := get_some (l := M.mv) (i := i) (by omega)
  obtain ⟨h3, h4⟩ := iso_step hM hK I hx h1 h2
  refine ⟨by rw [take_snoc hx, take_snoc h3, h1], fun k hk => ?_⟩
  rw [take_snoc hx, nxL_snoc] at hk
  have h0 := (hM.f0 x (Yb hx)).2
  by_cases c : (k : Int) < nxL (M.mv.take i)
  ·
   exact h2 k c
  ·
   split at hk
   ·
    rename_i e
    have : x.t.toNat = k := by omega
    rw [this] at h4; exact h4
   ·
    omega
theorem iso_mv (hM : CanF M) (hK : CanF K) (I : IsoR M K R) : M.mv = K.mv := by
 have h1 := (iso_take hM hK I M.mv.length (Nat.le_refl _)).1
 have h2 := (iso_take hK hM I.symm K.mv.length (Nat.le_refl _)).1
 rw [Yye] at h1 h2
 have l1 := congrArg List.length h1
 have l2 := congrArg List.length h2
 rw [Yu] at l1 l2
 have : M.mv.length = K.mv.length := by omega
 rw [h1, this, Yye]
theorem srt_ext {α : Type} {P : α -> α -> Prop} (hi : ∀ a, ¬ P a a) (htr : ∀ a b c, P a b -> P b c -> P a c) : ∀ {l k : List α}, l.Pairwise P -> k.Pairwise P -> (∀ x, x ∈ l ↔ x ∈ k) -> l = k
 | [], [], _, _, _ => rfl
 | [], b :: k, _, _, h => by cases (h b).2 Yx
 | a :: l, [], _, _, h => by cases (h a).1 Yx
 | a :: l, b :: k, h1, h2, h => by
  rw [List.pairwise_cons] at h1 h2
  have hab : a = b := by
   rcases Yr.1 ((h a).1 Yx) with e | ha
   ·
    exact e
   ·
    rcases Yr.1 ((h b).2 Yx) with e | hb
    ·
     exact e.symm
    ·
     exact absurd (htr _ _ _ (h1.1 b hb) (h2.1 a ha)) (hi a)
  subst hab
  rw [srt_ext hi htr h1.2 h2.2 fun x => ⟨fun hx => by
   rcases Yr.1 ((h x).1 (Yn _ hx)) with e | hx2
   ·
    subst e; exact absurd (h1.1 x hx) (hi x)
   ·
    exact hx2, fun hx => by
   rcases Yr.1 ((h x).2 (Yn _ hx)) with e | hx2
   ·
    subst e; exact absurd (h2.1 x hx) (hi x)
   ·
    exact hx2⟩]
theorem mv_pos {L : List Mv} (hS : L.Pairwise mvLt) {i j : Nat} {x y : Mv} (hx : L[i]? = some x) (hy : L[j]? = some y) (hf : x.f = y.f) (he : x.ev = y.ev) : i = j := by
 have irr : ∀ {a b : Mv}, a.f = b.f -> a.ev = b.ev -> ¬ mvLt a b := fun hf he h => by
  rcases h with h | ⟨_, h⟩
  ·
   omega
  ·
   rw [he] at h; exact evLt_irr _ h
 rcases Nat.lt_trichotomy i j with h | h | h
 ·
  exact absurd (mvLt_get hS h hx hy) (irr hf he)
 ·
  exact h
 ·
  exact absurd (mvLt_get hS h hy hx) (irr hf.symm he.symm)
theorem iso_li (hM : CanF M) (hK : CanF K) (I : IsoR M K R) : ∀ t ∈ M.li, t ∈ K.li := by
 intro t ht
 have hmv := iso_mv hM hK I
 obtain ⟨h1, h2, h3, y, hy, hyf⟩ := hM.li t ht
 have hR := (iso_take hM hK I M.mv.length (Nat.le_refl _)).2 t.s.toNat (by rw [Yye, hM.nx]; omega)
 obtain ⟨u, z, hu, us, uk, hz, hze⟩ := I.l1 hR ht (by omega) hy
 obtain ⟨_, _, u0, z', hz', hzf⟩ := hK.li u hu
 rw [hz] at hz'; cases hz'
 rw [<- hmv] at hz
 have hp := mv_pos hM.so hy hz (by omega) hze.symm
 have : u = t := by
  cases u; cases t
  simp only [To.mk.injEq]
  simp only at us uk hp u0 h1 h3
  refine ⟨by omega, uk, by omega⟩
 rw [<- this]; exact hu
theorem iso_eq (hM : CanF M) (hK : CanF K) (I : IsoR M K R) : M = K := by
 have hmv := iso_mv hM hK I
 have hn : M.n = K.n := by rw [<- hM.nx, <- hK.nx, hmv]
 have hR := (iso_take hM hK I M.mv.length (Nat.le_refl _)).2
 rw [Yye, hM.nx] at hR
 have hli : M.li = K.li := srt_ext (fun a => by omega) (fun a b c => by omega) hM.ls hK.ls fun t => ⟨iso_li hM hK I t, iso_li hK hM I.symm t⟩
 have hfl1 := hM.fl
 have hfl2 := hK.fl
 have hfin : M.fin = K.fin := by
  refine List.ext_getElem? fun i => ?_
  by_cases h : (i : Int) < M.n
  ·
   exact I.fi (hR i h)
  ·
   rw [Yl (by omega), Yl (by omega)]
 have hs : M.s = K.s := by rw [hM.s, hK.s]
 have hr := I.ro
 cases M; cases K
 simp only at hmv hn hli hfin hs hr
 subst hmv; subst hn; subst hli; subst hfin; subst hs; subst hr
 rfl
end
theorem MinI.can {m : Mch} {C : List Nat} {cnt c0 : Nat} {M : Mch} {Q : List Nat} (I : MinI m C cnt c0 M Q) (hK : CsOk (srtM m) C cnt) (hW : WM m) : CanF M := by
 have hQ1 : 1 <= Q.length := (Ya.1 I.q0).1
 have hn := I.n
 refine ⟨I.s, by omega, ?_, I.so hK hW.d, I.nx, I.na, fun z hz => ?_, I.ls, fun t ht => ?_⟩
 ·
  rw [I.i.pf, Yc, Yyd, hn]
 ·
  obtain ⟨i, x, hi, hx, rfl⟩ := I.mem hK z hz
  exact ⟨Int.natCast_nonneg _, Int.natCast_nonneg _⟩
 ·
  obtain ⟨i', t1, x, hi, g1, _, _, g4, g5, _, _, g6, g7, g8⟩ := I.lim hK hW ht
  exact ⟨by omega, by omega, g5, _, g6, g1.symm⟩
end Go.VC
end

section
/- Plain: least machines do what their machines do; the least machine of a least machine is itself. No program here. -/
namespace Go.VC
open Go.LexS
structure Sim0 (m k : Mch) (S : Nat -> Nat -> Prop) : Prop where
 bd : ∀ {x y : Nat}, S x y -> x < m.n.toNat /\ y < k.n.toNat
 ro : m.role = k.role
 s : S m.s.toNat k.s.toNat
 rl : ∀ {x y : Nat}, S x y -> (rwS m x).length = (rwS k y).length
 rw : ∀ {x y j : Nat} {a b : Mv}, S x y -> (rwS m x)[j]? = some a -> (rwS k y)[j]? = some b -> a.ev = b.ev /\ a.ag = b.ag /\ S a.t.toNat b.t.toNat
 fi : ∀ {x y : Nat}, S x y -> m.fin.getD x false = k.fin.getD y false
 tm : ∀ {x y : Nat}, S x y -> sgT m x = sgT k y
structure SimC (C D : List Nat) (S : Nat -> Nat -> Prop) : Prop where
 fn : ∀ {x y y' : Nat}, S x y -> S x y' -> D[y]? = D[y']?
 ij : ∀ {x x' y : Nat}, S x y -> S x' y -> C[x]? = C[x']?
 cl : ∀ {x x' y y' : Nat}, S x y -> x' < C.length -> y' < D.length -> C[x]? = C[x']? -> D[y]? = D[y']? -> S x' y'
section
variable {m : Mch} {C : List Nat} {cnt c0 : Nat} {M : Mch} {Q : List Nat}
theorem sgT_some {m : Mch} (hW : WM m) {s : Nat} {t : To} (h : limT m (s : Int) = some t) : ∃ y, m.mv[t.e.toNat]? = some y /\ sgT m s = ⟨0, 1, y.ev, false, t.k⟩ /\ 1 <= t.k := by
 obtain ⟨a, y, hy, _⟩ := li_in hW (limT_mem h).1
 refine ⟨y, hy, ?_, a.1⟩
 unfold sgT
 rw [h]
 show Sg.mk 0 1 (evI m t.e.toNat) false t.k = _
 rw [evI_of hy]
theorem sgT_inv {m : Mch} (hW : WM m) {s : Nat} {e : Ev} {k : Int} (h : sgT m s = ⟨0, 1, e, false, k⟩) (hk : 1 <= k) : ∃ t y, limT m (s : Int) = some t /\ m.mv[t.e.toNat]? = some y /\ y.ev = e /\ t.k = k := by
 cases ht : limT m (s : Int) with
 | none =>
  unfold sgT at h
  rw [ht] at h
  have : (0 : Int) = k := congrArg Sg.num h
  omega
 | some t =>
  obtain ⟨y, hy, e1, _⟩ := sgT_some hW ht
  rw [e1] at h
  exact ⟨t, y, rfl, hy, congrArg Sg.x h, congrArg Sg.num h⟩
theorem MinI.tm1 (I : MinI m C cnt c0 M Q) (hK : CsOk (srtM m) C cnt) (hW : WM m) {a : Nat} {t : To} {y : Mv} (ht : t ∈ M.li) (hs : t.s = (a : Int)) (hy : M.mv[t.e.toNat]? = some y) : a < Q.length /\ sgT m (repQ C Q a) = ⟨0, 1, y.ev, false, t.k⟩ /\ 1 <= t.k := by
 obtain ⟨i, t1, x, hi, g1, g2, g3, g4, g5, g6, _, g7, _, _⟩ := I.lim hK hW ht
 have : i = a := by omega
 subst this
 rw [g7] at hy; cases hy
 obtain ⟨x', hx', e1, _⟩ := sgT_some hW g2
 rw [g6] at hx'; cases hx'
 refine ⟨hi, ?_, g4.1⟩
 rw [e1, g3]; rfl
theorem MinI.tm2 (I : MinI m C cnt c0 M Q) (hK : CsOk (srtM m) C cnt) (hW : WM m) {a : Nat} (ha : a < Q.length) {e : Ev} {k : Int} (h : sgT m (repQ C Q a) = ⟨0, 1, e, false, k⟩) (hk : 1 <= k) : ∃ u z, u ∈ M.li /\ u.s = (a : Int) /\ u.k = k /\ M.mv[u.e.toNat]? = some z /\ z.ev = e := by
 obtain ⟨t1, _, ht1, _, _, _⟩ := sgT_inv hW h hk
 obtain ⟨u, hu, us⟩ := I.lim2 hK hW ha ht1
 obtain ⟨i, t2, x, hi, g1, g2, g3, g4, g5, g6, _, g7, _, _⟩ := I.lim hK hW hu
 have hia : i = a := by omega
 subst hia
 obtain ⟨x', hx', e1, _⟩ := sgT_some hW g2
 rw [g6] at hx'; cases hx'
 rw [e1] at h
 exact ⟨u, _, hu, us, by rw [g3]; exact congrArg Sg.num h, g7, congrArg Sg.x h⟩
theorem MinI.at (I : MinI m C cnt c0 M Q) (hK : CsOk (srtM m) C cnt) {i : Nat} {x : Mv} (hi : i < Q.length) (hx : x ∈ rwS m (repQ C Q i)) (ht : x.t.toNat < m.n.toNat) : idxF Q (C.getD x.t.toNat 0) < Q.length /\ C[repQ C Q (idxF Q (C.getD x.t.toNat 0))]? = C[x.t.toNat]? := by
 have hin := I.tq hK hi hx
 have hl := idxF_lt hin
 obtain ⟨q, hq, _, hc⟩ := rep_at hK I.i.pq hl
 rw [idxF_get hin] at hq
 cases hq
 obtain ⟨c, hcx⟩ := get_some (l := C) (i := x.t.toNat) (by have : C.length = m.n.toNat := hK.cl; omega)
 refine ⟨hl, ?_⟩
 rw [hc, hcx, getD_some hcx]
theorem MinI.fin (I : MinI m C cnt c0 M Q) {i : Nat} (hi : i < Q.length) : M.fin[i]? = some (m.fin.getD (repQ C Q i) false) := by
 rw [I.i.pf, Yd, Yyb hi]; rfl
theorem min_iso {k : Mch} {D : List Nat} {cnt' d0 : Nat} {K : Mch} {P : List Nat} {S : Nat -> Nat -> Prop} (I : MinI m C cnt c0 M Q) (J : MinI k D cnt' d0 K P) (hC : CsOk (srtM m) C cnt) (hD : CsOk (srtM k) D cnt') (hW : WM m) (hX : WM k) (h0 : C[m.s.toNat]? = some c0) (h1 : D[k.s.toNat]? = some d0) (hS : Sim0 m k S) (hT : SimC C D S) :
  IsoR M K fun a b => a < Q.length /\ b < P.length /\ S (repQ C Q a) (repQ D P b) := by
 have hCl : C.length = m.n.toNat := hC.cl
 have hDl : D.length = k.n.toNat := hD.cl
 refine ⟨by rw [I.ro, J.ro]; exact hS.ro, ?_, ?_, ?_, ?_, ?_, ?_, ?_, ?_⟩
 ·
  rintro a b c ⟨_, h2, h3⟩ ⟨_, h5, h6⟩
  have e := hT.fn h3 h6
  obtain ⟨p, hp, _, hd⟩ := rep_at hD J.i.pq h2
  obtain ⟨q, hq, _, he⟩ := rep_at hD J.i.pq h5
  rw [hd, he] at e
  exact (List.getElem?_inj h2 J.i.pq.nd).1 (by rw [hp, hq, e])
 ·
  rintro a b c ⟨h2, _, h3⟩ ⟨h5, _, h6⟩
  have e := hT.ij h3 h6
  obtain ⟨p, hp, _, hd⟩ := rep_at hC I.i.pq h2
  obtain ⟨q, hq, _, he⟩ := rep_at hC I.i.pq h5
  rw [hd, he] at e
  exact (List.getElem?_inj h2 I.i.pq.nd).1 (by rw [hp, hq, e])
 ·
  have hq0 := (Ya.1 I.q0).1
  have hp0 := (Ya.1 J.q0).1
  obtain ⟨p, hp, hl, hd⟩ := rep_at hC I.i.pq hq0
  obtain ⟨q, hq, hl', he⟩ := rep_at hD J.i.pq hp0
  have e1 := I.q0; have e2 := J.q0
  rw [hp] at e1; cases e1
  rw [hq] at e2; cases e2
  exact ⟨hq0, hp0, hT.cl hS.s (by omega) (by omega) (by rw [h0, hd]) (by rw [h1, he])⟩
 ·
  rintro a b ⟨h2, h3, h4⟩
  rw [I.row hC h2, J.row hD h3, Yc, Yc]
  exact hS.rl h4
 ·
  rintro a b j x y ⟨h2, h3, h4⟩ hx hy
  rw [I.row hC h2, Yd] at hx
  rw [J.row hD h3, Yd] at hy
  obtain ⟨x0, hx0, rfl⟩ := Yya.1 hx
  obtain ⟨y0, hy0, rfl⟩ := Yya.1 hy
  obtain ⟨e1, e2, e3⟩ := hS.rw h4 hx0 hy0
  obtain ⟨b1, b2⟩ := hS.bd e3
  obtain ⟨l1, r1⟩ := I.at hC h2 (Yb hx0) b1
  obtain ⟨l2, r2⟩ := J.at hD h3 (Yb hy0) b2
  obtain ⟨_, _, n1, _⟩ := rep_at hC I.i.pq l1
  obtain ⟨_, _, n2, _⟩ := rep_at hD J.i.pq l2
  exact ⟨e1, e2, l1, l2, hT.cl e3 (by show repQ C Q (idxF Q (C.getD x0.t.toNat 0)) < _; omega) (by show repQ D P (idxF P (D.getD y0.t.toNat 0)) < _; omega) r1.symm r2.symm⟩
 ·
  rintro a b ⟨h2, h3, h4⟩
  rw [I.fin h2, J.fin h3, hS.fi h4]
 ·
  rintro a b t y ⟨h2, h3, h4⟩ ht hs hy
  obtain ⟨_, e1, e2⟩ := I.tm1 hC hW ht hs hy
  rw [hS.tm h4] at e1
  exact J.tm2 hD hX h3 e1 e2
 ·
  rintro a b t y ⟨h2, h3, h4⟩ ht hs hy
  obtain ⟨_, e1, e2⟩ := J.tm1 hD hX ht hs hy
  rw [<- hS.tm h4] at e1
  exact I.tm2 hC hW h2 e1 e2
theorem min_eq {k : Mch} {D : List Nat} {cnt' d0 : Nat} {K : Mch} {P : List Nat} {S : Nat -> Nat -> Prop} (I : MinI m C cnt c0 M Q) (J : MinI k D cnt' d0 K P) (hC : CsOk (srtM m) C cnt) (hD : CsOk (srtM k) D cnt') (hW : WM m) (hX : WM k) (h0 : C[m.s.toNat]? = some c0) (h1 : D[k.s.toNat]? = some d0) (hS : Sim0 m k S) (hT : SimC C D S) : M = K :=
 iso_eq (I.can hC hW) (J.can hD hX) (min_iso I J hC hD hW hX h0 h1 hS hT)
theorem rwS_out {M : Mch} (hD : DetM M) (hS : M.mv.Pairwise mvLt) (s : Nat) : rwS M s = outM M s := by
 refine srt_ext (P := fun a b : Mv => evLt a.ev b.ev) (fun a => evLt_irr _) (fun a b c => evLt_trans) (rwS_lt hD s) ?_ fun x => ?_
 ·
  refine List.Pairwise.imp_of_mem ?_ (outM_sorted hS s)
  intro a b ha hb hab
  have f1 := (outM_f ha).2
  have f2 := (outM_f hb).2
  rcases hab with h | ⟨_, h⟩
  ·
   omega
  ·
   exact h
 ·
  rw [rwS_mem]
  unfold outM
  rw [List.mem_filter, decide_eq_true_iff]
theorem MinI.rwS (I : MinI m C cnt c0 M Q) (hK : CsOk (srtM m) C cnt) (hD : DetM m) (hM : DetM M) {i : Nat} (hi : i < Q.length) : rwS M i = (Go.VC.rwS m (repQ C Q i)).map (mvQ C Q i) := by
 rw [rwS_out hM (I.so hK hD), I.row hK hi]
theorem MinI.sgT (I : MinI m C cnt c0 M Q) (hK : CsOk (srtM m) C cnt) (hW : WM m) (hM : WM M) {i : Nat} (hi : i < Q.length) : sgT M i = Go.VC.sgT m (repQ C Q i) := by
 cases ht : limT M (i : Int) with
 | some t =>
  obtain ⟨y, hy, e1, e2⟩ := sgT_some hM ht
  obtain ⟨a1, a2⟩ := limT_mem ht
  rw [e1, (I.tm1 hK hW a1 a2 hy).2.1]
 | none =>
  cases ht2 : limT m (repQ C Q i : Nat) with
  | none =>
   unfold Go.VC.sgT
   rw [ht, ht2]
  | some t1 =>
   obtain ⟨u, hu, us⟩ := I.lim2 hK hW hi ht2
   have := List.find?_eq_none.1 ht u hu
   simp [us] at this
end
theorem it_ref {m : Mch} (hV : WM m) {x y : Nat} (hx : x < m.n.toNat) (hy : y < m.n.toNat) (h : (cls (srtM m)).1[x]? = (cls (srtM m)).1[y]?) (k : Nat) : (itC (srtM m) k)[x]? = (itC (srtM m) k)[y]? := by
 obtain ⟨N, h1, h2, _⟩ := cls_stable (srtM_raw hV).ok
 have hN0 := (h2 x y hx hy).1 h
 rw [h1] at h2
 have hN : itR m (N + 1) = itR m N := it_pat_eq hV h2
 have down : ∀ d k, k + d = N -> (itC (srtM m) k)[x]? = (itC (srtM m) k)[y]? := by
  intro d
  induction d with
  | zero =>
   intro k e
   have : k = N := by omega
   subst this; exact hN0
  | succ d ih =>
   intro k e
   have h3 := ih (k + 1) (by omega)
   rw [itC] at h3
   have h4 := (canonL_eq (clsK_get (m := srtM m) hx) (clsK_get (m := srtM m) hy)).1 h3
   exact keyS_b (m := srtM m) (itC_len (srtM m) k) hx hy h4
 by_cases hk : k <= N
 ·
  exact down (N - k) k (by omega)
 ·
  obtain ⟨d, rfl⟩ : ∃ d, k = N + d := ⟨k - N, by omega⟩
  have p1 := (pat_it hV (N + d)).p x y hx hy
  rw [itR_stay hN d] at p1
  exact p1.1 (((pat_it hV N).p x y hx hy).2 hN0)
theorem it_end2 {m : Mch} (hV : WM m) : ∃ N, (cls (srtM m)).1 = itC (srtM m) N := by
 obtain ⟨N, h1, _⟩ := cls_stable (srtM_raw hV).ok
 exact ⟨N + 1, h1⟩
theorem cls_keyT {m : Mch} (hV : WM m) {x y : Nat} (hx : x < m.n.toNat) (hy : y < m.n.toNat) (h : (cls (srtM m)).1[x]? = (cls (srtM m)).1[y]?) : keyT m (cls (srtM m)).1 x = keyT m (cls (srtM m)).1 y := by
 obtain ⟨N, h1, h2, h3⟩ := cls_stable (srtM_raw hV).ok
 have := (keyT_iff hV hx hy).2 (h3 x y hx hy h)
 exact keyT_pat hV.n ⟨itC_len (srtM m) N, (cls_ok (srtM_raw hV).ok).cl, fun i j hi hj => (h2 i j hi hj).symm⟩ hx hy this
section
variable {m : Mch} {c0 : Nat} {M : Mch} {Q : List Nat}
def ClR (m : Mch) (Q : List Nat) (x i : Nat) : Prop := x < m.n.toNat /\ i < Q.length /\ (cls (srtM m)).1[x]? = Q[i]?
theorem map_at {α β γ : Type} {f : α -> γ} {g : β -> γ} {l : List α} {k : List β} (h : l.map f = k.map g) {j : Nat} {a : α} {b : β} (ha : l[j]? = some a) (hb : k[j]? = some b) : f a = g b := by
 have := congrArg (fun z => z[j]?) h
 simp only [Yd, ha, hb, Option.map_some, Option.some.injEq] at this
 exact this
theorem sim_min (hW : WM m) (hM : WM M) (I : MinI m (cls (srtM m)).1 (cls (srtM m)).2 c0 M Q) (h0 : (cls (srtM m)).1[m.s.toNat]? = some c0) : Sim0 m M (ClR m Q) := by
 have hK := cls_ok (srtM_raw hW).ok
 have hCl : (cls (srtM m)).1.length = m.n.toNat := hK.cl
 have hs := hW.n.s
 have hn := hW.n.n
 have hn2 := I.n
 have key : ∀ {x i}, ClR m Q x i -> repQ (cls (srtM m)).1 Q i < m.n.toNat /\ keyT m (cls (srtM m)).1 x = keyT m (cls (srtM m)).1 (repQ (cls (srtM m)).1 Q i) := by
  rintro x i ⟨h1, h2, h3⟩
  obtain ⟨q, hq, hl, hc⟩ := rep_at hK I.i.pq h2
  exact ⟨hl, cls_keyT hW h1 hl (by rw [h3, hc, hq])⟩
 refine ⟨fun h => ⟨h.1, by rw [hn2]; exact h.2.1⟩, I.ro.symm, ⟨by omega, ?_, ?_⟩, fun {x i} h => ?_, fun {x i j a b} h ha hb => ?_, fun {x i} h => ?_, fun {x i} h => ?_⟩
 ·
  rw [I.s]; exact (Ya.1 I.q0).1
 ·
  rw [I.s, h0]; exact I.q0.symm
 ·
  have e := (keyT_cut.1 (key h).2).1
  rw [I.rwS hK hW.d hM.d h.2.1, Yc]
  have := congrArg List.length e
  rwa [Yc, Yc] at this
 ·
  rw [I.rwS hK hW.d hM.d h.2.1, Yd] at hb
  obtain ⟨b0, hb0, rfl⟩ := Yya.1 hb
  have e := map_at (keyT_cut.1 (key h).2).1 ha hb0
  have e1 : a.ev = b0.ev := congrArg Sg.x e
  have e2 : a.ag = b0.ag := congrArg Sg.ag e
  have e3 : (((cls (srtM m)).1.getD a.t.toNat 0 : Nat) : Int) = (((cls (srtM m)).1.getD b0.t.toNat 0 : Nat) : Int) := congrArg Sg.num e
  have ta := rwS_t hW.n (Yb ha)
  have tb := rwS_t hW.n (Yb hb0)
  obtain ⟨ca, hca⟩ := get_some (l := (cls (srtM m)).1) (i := a.t.toNat) (by omega)
  obtain ⟨cb, hcb⟩ := get_some (l := (cls (srtM m)).1) (i := b0.t.toNat) (by omega)
  have hin := I.tq hK h.2.1 (Yb hb0)
  refine ⟨e1, e2, ta, idxF_lt hin, ?_⟩
  show _ = Q[idxF Q ((cls (srtM m)).1.getD b0.t.toNat 0)]?
  rw [idxF_get hin, hca]
  rw [getD_some hca, getD_some hcb] at e3
  rw [getD_some hcb]
  congr 1
  omega
 ·
  have e := (sgB_cut.1 (keyT_cut.1 (key h).2).2.2).2
  rw [e, getD_some (I.fin h.2.1)]
 ·
  rw [(keyT_cut.1 (key h).2).2.1, I.sgT hK hW hM h.2.1]
theorem min_apart (hW : WM m) (hM : WM M) (I : MinI m (cls (srtM m)).1 (cls (srtM m)).2 c0 M Q) {i j : Nat} (hi : i < Q.length) (hj : j < Q.length) (h : (cls (srtM M)).1[i]? = (cls (srtM M)).1[j]?) : i = j := by
 have hK := cls_ok (srtM_raw hW).ok
 have hCl : (cls (srtM m)).1.length = m.n.toNat := hK.cl
 have hn2 : M.n.toNat = Q.length := by rw [I.n]; rfl
 have key : ∀ (k : Nat) {a b : Nat}, a < Q.length -> b < Q.length -> (itC (srtM M) k)[a]? = (itC (srtM M) k)[b]? -> (itC (srtM m) k)[repQ (cls (srtM m)).1 Q a]? = (itC (srtM m) k)[repQ (cls (srtM m)).1 Q b]? := by
  intro k
  induction k with
  | zero =>
   intro a b ha hb _
   obtain ⟨_, _, la, _⟩ := rep_at hK I.i.pq ha
   obtain ⟨_, _, lb, _⟩ := rep_at hK I.i.pq hb
   show (List.replicate m.n.toNat 0)[_]? = (List.replicate m.n.toNat 0)[_]?
   rw [List.getElem?_replicate, List.getElem?_replicate, if_pos la, if_pos lb]
  | succ k ih =>
   intro a b ha hb h
   obtain ⟨_, _, la, _⟩ := rep_at hK I.i.pq ha
   obtain ⟨_, _, lb, _⟩ := rep_at hK I.i.pq hb
   have ha2 : a < M.n.toNat := by omega
   have hb2 : b < M.n.toNat := by omega
   rw [itC] at h
   have h2 := (itC_pat hM (itC (srtM M) k) ha2 hb2).1 h
   rw [itC]
   refine (itC_pat hW (itC (srtM m) k) la lb).2 ?_
   rw [keyT_cut] at h2 ⊢
   obtain ⟨h3, h4, h5⟩ := h2
   refine ⟨?_, ?_, ?_⟩
   ·
    rw [I.rwS hK hW.d hM.d ha, I.rwS hK hW.d hM.d hb, List.map_map, List.map_map] at h3
    refine List.ext_getElem? fun p => ?_
    rw [Yd, Yd]
    have hp := congrArg (fun z => z[p]?) h3
    simp only [Yd] at hp
    cases hx : (rwS m (repQ (cls (srtM m)).1 Q a))[p]? with
    | none =>
     rw [hx] at hp
     cases hy : (rwS m (repQ (cls (srtM m)).1 Q b))[p]? with
     | none => rfl
     | some y => rw [hy] at hp; cases hp
    | some x =>
     rw [hx] at hp
     cases hy : (rwS m (repQ (cls (srtM m)).1 Q b))[p]? with
     | none => rw [hy] at hp; cases hp
     | some y =>
      rw [hy] at hp
      have e := Option.some.inj hp
      have e1 : x.ev = y.ev := congrArg Sg.x e
      have e2 : x.ag = y.ag := congrArg Sg.ag e
      have e3 : (((itC (srtM M) k).getD (idxF Q ((cls (srtM m)).1.getD x.t.toNat 0)) 0 : Nat) : Int) = (((itC (srtM M) k).getD (idxF Q ((cls (srtM m)).1.getD y.t.toNat 0)) 0 : Nat) : Int) := congrArg Sg.num e
      have tx := rwS_t hW.n (Yb hx)
      have ty := rwS_t hW.n (Yb hy)
      obtain ⟨l1, r1⟩ := I.at hK ha (Yb hx) tx
      obtain ⟨l2, r2⟩ := I.at hK hb (Yb hy) ty
      obtain ⟨_, _, n1, _⟩ := rep_at hK I.i.pq l1
      obtain ⟨_, _, n2, _⟩ := rep_at hK I.i.pq l2
      have hlen := itC_len (srtM M) k
      have hlen : (itC (srtM M) k).length = M.n.toNat := hlen
      obtain ⟨u, hu⟩ := get_some (l := itC (srtM M) k) (i := idxF Q ((cls (srtM m)).1.getD x.t.toNat 0)) (by omega)
      obtain ⟨v, hv⟩ := get_some (l := itC (srtM M) k) (i := idxF Q ((cls (srtM m)).1.getD y.t.toNat 0)) (by omega)
      rw [getD_some hu, getD_some hv] at e3
      have h6 := ih l1 l2 (by rw [hu, hv]; congr 1; omega)
      have a1 := it_ref hW n1 tx r1 k
      have a2 := it_ref hW n2 ty r2 k
      have hlm : (itC (srtM m) k).length = m.n.toNat := itC_len (srtM m) k
      obtain ⟨p', hp'⟩ := get_some (l := itC (srtM m) k) (i := x.t.toNat) (by omega)
      obtain ⟨q', hq'⟩ := get_some (l := itC (srtM m) k) (i := y.t.toNat) (by omega)
      have e4 : p' = q' := by
       have := a1.symm.trans (h6.trans a2)
       rw [hp', hq'] at this
       exact Option.some.inj this
      show some (sgM (itC (srtM m) k) x) = some (sgM (itC (srtM m) k) y)
      unfold sgM
      rw [e1, e2, getD_some hp', getD_some hq', e4]
   ·
    rw [<- I.sgT hK hW hM ha, <- I.sgT hK hW hM hb]; exact h4
   ·
    rw [sgB_cut] at h5 ⊢
    obtain ⟨h6, h7⟩ := h5
    rw [getD_some (I.fin ha), getD_some (I.fin hb)] at h7
    refine ⟨?_, h7⟩
    have hlen : (itC (srtM M) k).length = M.n.toNat := itC_len (srtM M) k
    obtain ⟨u, hu⟩ := get_some (l := itC (srtM M) k) (i := a) (by omega)
    obtain ⟨v, hv⟩ := get_some (l := itC (srtM M) k) (i := b) (by omega)
    rw [getD_some hu, getD_some hv] at h6
    have h8 := ih ha hb (by rw [hu, hv, h6])
    rw [Yo, Yo, h8]
 obtain ⟨N, hN⟩ := it_end2 hW
 have h2 := key N hi hj (it_ref hM (by omega) (by omega) h N)
 rw [<- hN] at h2
 obtain ⟨p, hp, _, hd⟩ := rep_at hK I.i.pq hi
 obtain ⟨q, hq, _, he⟩ := rep_at hK I.i.pq hj
 rw [hd, he] at h2
 exact (List.getElem?_inj hi I.i.pq.nd).1 (by rw [hp, hq, h2])
end
theorem minF_i {m : Mch} (hW : WM m) : ∃ c0 Q, (cls (srtM m)).1[m.s.toNat]? = some c0 /\ MinI m (cls (srtM m)).1 (cls (srtM m)).2 c0 (minF (srtM m)) Q := by
 have hK := cls_ok (srtM_raw hW).ok
 have hs := hW.n.s
 obtain ⟨c0, hc0⟩ := get_some (l := (cls (srtM m)).1) (i := m.s.toNat) (by have : (cls (srtM m)).1.length = m.n.toNat := hK.cl; omega)
 obtain ⟨Q, I⟩ := minN_i hW hK hc0
 refine ⟨c0, Q, hc0, ?_⟩
 unfold minF
 rw [show (srtM m).s = m.s from rfl, getD_some hc0]
 exact I
theorem minF_idem {m : Mch} (hV : VM m) : minF (srtM (minF (srtM m))) = minF (srtM m) := by
 have hW := hV.w
 have hM := (minF_vm hV).w
 obtain ⟨c0, Q, h0, I⟩ := minF_i hW
 obtain ⟨d0, P, h1, J⟩ := minF_i hM
 have hK := cls_ok (srtM_raw hW).ok
 have hD := cls_ok (srtM_raw hM).ok
 have hDl : (cls (srtM (minF (srtM m)))).1.length = (minF (srtM m)).n.toNat := hD.cl
 have hn2 : (minF (srtM m)).n.toNat = Q.length := by rw [I.n]; rfl
 refine (min_eq I J hK hD hW hM h0 h1 (sim_min hW hM I h0) ⟨?_, ?_, ?_⟩).symm
 ·
  rintro x y y' ⟨_, a2, a3⟩ ⟨_, b2, b3⟩
  have : y = y' := (List.getElem?_inj a2 I.i.pq.nd).1 (by rw [<- a3, b3])
  rw [this]
 ·
  rintro x x' y ⟨_, _, a3⟩ ⟨_, _, b3⟩
  rw [a3, b3]
 ·
  rintro x x' y y' ⟨a1, a2, a3⟩ hx' hy' e1 e2
  have hCl : (cls (srtM m)).1.length = m.n.toNat := hK.cl
  have hyy : y = y' := min_apart hW hM I a2 (by omega) e2
  subst hyy
  exact ⟨by omega, a2, by rw [<- e1, a3]⟩
end Go.VC
end

section
/- Plain: a machine with its states renamed. No program here. -/
namespace Go.VC
open Go.LexS
def swT (n : Nat) (L : List Int) : Nat -> List Nat
 | 0 => List.range n
 | i + 1 => ((swT n L i).set (i % n) ((swT n L i).getD ((L.getD i 0).toNat % n) 0)).set ((L.getD i 0).toNat % n) ((swT n L i).getD (i % n) 0)
def fnT (n : Nat) (to : List Nat) (fin : List Bool) : Nat -> List Bool
 | 0 => List.replicate n false
 | i + 1 => (fnT n to fin i).set (to.getD i 0) (fin.getD i false)
def renV (to : List Nat) (x : Mv) : Mv := ⟨(to.getD x.f.toNat 0 : Nat), x.send, x.peer, x.label, (to.getD x.t.toNat 0 : Nat), x.ag⟩
def renT (to : List Nat) (li : List To) (s : Nat) : List To := (li.filter fun t => decide (to.getD t.s.toNat 0 = s)).map fun t => ⟨(s : Nat), t.k, t.e⟩
def renM (m : Mch) (to : List Nat) : Mch := ⟨m.role, m.n, (to.getD m.s.toNat 0 : Nat), fnT m.n.toNat to m.fin m.fin.length, m.mv.map (renV to), (List.range m.n.toNat).flatMap (renT to m.li)⟩
structure PermN (n : Nat) (to : List Nat) : Prop where
 p : to.Perm (List.range n)
theorem swT_perm (n : Nat) (hn : 1 <= n) (L : List Int) : ∀ i, PermN n (swT n L i)
 | 0 => ⟨List.Perm.refl _⟩
 | i + 1 => by
  have ih := (swT_perm n hn L i).p
  have hl : (swT n L i).length = n := by rw [ih.length_eq, Yyd]
  have ha : i % n < (swT n L i).length := by rw [hl]; exact Nat.mod_lt _ hn
  have hb : (L.getD i 0).toNat % n < (swT n L i).length := by rw [hl]; exact Nat.mod_lt _ hn
  refine ⟨List.Perm.trans ?_ ih⟩
  rw [swT, Yo, Yo (l := swT n L i) (i := i % n), Yi ha, Yi hb]
  exact List.set_set_perm ha hb
section
variable {n : Nat} {to : List Nat}
theorem PermN.len (h : PermN n to) : to.length = n := by rw [h.p.length_eq, Yyd]
theorem PermN.get (h : PermN n to) {i : Nat} (hi : i < n) : to[i]? = some (to.getD i 0) := by
 obtain ⟨x, hx⟩ := get_some (l := to) (i := i) (by rw [h.len]; exact hi)
 rw [hx, getD_some hx]
theorem PermN.lt (h : PermN n to) {i : Nat} (hi : i < n) : to.getD i 0 < n := List.mem_range.1 (h.p.mem_iff.1 (Yb (h.get hi)))
theorem PermN.inj (h : PermN n to) {i j : Nat} (hi : i < n) (hj : j < n) (e : to.getD i 0 = to.getD j 0) : i = j := by
 have hnd : to.Nodup := h.p.nodup_iff.2 List.nodup_range
 exact (List.getElem?_inj (by rw [h.len]; exact hi) hnd).1 (by rw [h.get hi, h.get hj, e])
theorem PermN.sur (h : PermN n to) {y : Nat} (hy : y < n) : ∃ x, x < n /\ to.getD x 0 = y := by
 obtain ⟨x, hx⟩ := Yf.1 (h.p.mem_iff.2 (List.mem_range.2 hy))
 exact ⟨x, by have := (Ya.1 hx).1; rwa [h.len] at this, getD_some hx⟩
theorem fnT_len (fin : List Bool) : ∀ i, (fnT n to fin i).length = n
 | 0 => Yg
 | i + 1 => by rw [fnT, Yyh, fnT_len fin i]
theorem fnT_get (h : PermN n to) (fin : List Bool) : ∀ i, i <= n -> ∀ j, j < i -> (fnT n to fin i)[to.getD j 0]? = some (fin.getD j false)
 | 0, _, j, hj => by omega
 | i + 1, hi, j, hj => by
  rw [fnT, List.getElem?_set]
  by_cases e : to.getD i 0 = to.getD j 0
  ·
   have := h.inj (by omega) (by omega) e
   subst this
   rw [if_pos rfl, if_pos (by rw [fnT_len]; exact h.lt (by omega))]
  ·
   rw [if_neg e]
   exact fnT_get h fin i (by omega) j (by
    rcases Nat.lt_or_ge j i with h1 | h1
    ·
     exact h1
    ·
     exact absurd (by rw [show j = i by omega]) e)
end
section
variable {m : Mch} {to : List Nat}
theorem ren_at {i : Nat} {x : Mv} (h : m.mv[i]? = some x) : (renM m to).mv[i]? = some (renV to x) := by
 show (m.mv.map (renV to))[i]? = _
 rw [Yd, h]; rfl
theorem ren_get {i : Nat} {y : Mv} (h : (renM m to).mv[i]? = some y) : ∃ x, m.mv[i]? = some x /\ y = renV to x := by
 have h : (m.mv.map (renV to))[i]? = some y := h
 rw [Yd] at h
 obtain ⟨x, hx, rfl⟩ := Yya.1 h
 exact ⟨x, hx, rfl⟩
theorem ren_mem {y : Mv} (h : y ∈ (renM m to).mv) : ∃ x ∈ m.mv, y = renV to x := by
 obtain ⟨x, hx, rfl⟩ := Yp.1 h
 exact ⟨x, hx, rfl⟩
theorem ren_evI (i : Nat) : evI (renM m to) i = evI m i := by
 cases h : m.mv[i]? with
 | none =>
  unfold evI
  rw [h, show (renM m to).mv[i]? = none from by show (m.mv.map (renV to))[i]? = none; rw [Yd, h]; rfl]
 | some x => rw [evI_of h, evI_of (ren_at h)]; rfl
theorem ren_li {t : To} (h : t ∈ (renM m to).li) : ∃ t0 ∈ m.li, t = ⟨(to.getD t0.s.toNat 0 : Nat), t0.k, t0.e⟩ := by
 obtain ⟨s, _, hs⟩ := List.mem_flatMap.1 h
 obtain ⟨t0, h0, rfl⟩ := Yp.1 hs
 obtain ⟨h1, h2⟩ := List.mem_filter.1 h0
 have h2 := of_decide_eq_true h2
 exact ⟨t0, h1, by rw [h2]⟩
theorem ren_num (hN : NumM m) (hP : PermN m.n.toNat to) : NumM (renM m to) := by
 have hn := hN.n
 have hs := hN.s
 refine ⟨hN.r, hn, ?_, ?_, by show (m.mv.map (renV to)).length <= _; rw [Yc]; exact hN.ml, fun y hy => ?_⟩
 ·
  have := hP.lt (i := m.s.toNat) (by omega)
  show 0 <= ((to.getD m.s.toNat 0 : Nat) : Int) /\ ((to.getD m.s.toNat 0 : Nat) : Int) < m.n
  omega
 ·
  show ((fnT m.n.toNat to m.fin m.fin.length).length : Int) = m.n
  rw [fnT_len]; omega
 ·
  obtain ⟨x, hx, rfl⟩ := ren_mem hy
  have h1 := hN.mv x hx
  have h2 := hP.lt (i := x.f.toNat) (by omega)
  have h3 := hP.lt (i := x.t.toNat) (by omega)
  show 0 <= ((to.getD x.f.toNat 0 : Nat) : Int) /\ ((to.getD x.f.toNat 0 : Nat) : Int) < m.n /\ 0 <= ((to.getD x.t.toNat 0 : Nat) : Int) /\ ((to.getD x.t.toNat 0 : Nat) : Int) < m.n /\ 0 <= x.peer /\ x.peer < 6 /\ x.peer ≠ m.role /\ 0 <= x.label /\ x.label < 40
  omega
theorem ren_det (hN : NumM m) (hD : DetM m) (hP : PermN m.n.toNat to) : DetM (renM m to) := by
 intro i k a b ha hb hne hf
 obtain ⟨x, hx, rfl⟩ := ren_get ha
 obtain ⟨y, hy, rfl⟩ := ren_get hb
 have h1 := hN.mv x (Yb hx)
 have h2 := hN.mv y (Yb hy)
 have hf : ((to.getD x.f.toNat 0 : Nat) : Int) = ((to.getD y.f.toNat 0 : Nat) : Int) := hf
 have := hP.inj (i := x.f.toNat) (j := y.f.toNat) (by omega) (by omega) (by omega)
 exact hD i k x y hx hy hne (by omega)
theorem rwS_ix (m : Mch) (s : Nat) : (rwS m s).length = (outIx m (s : Int)).length := by
 rw [rwS_len]; exact (mvS_srt m _).1.length_eq
theorem ren_row (hN : NumM m) (hD : DetM m) (hP : PermN m.n.toNat to) {s : Nat} (hs : s < m.n.toNat) : rwS (renM m to) (to.getD s 0) = (rwS m s).map (renV to) := by
 refine srt_ext (P := fun a b : Mv => evLt a.ev b.ev) (fun a => evLt_irr _) (fun a b c => evLt_trans) (rwS_lt (ren_det hN hD hP) _) ?_ fun y => ?_
 ·
  rw [List.pairwise_map]
  exact rwS_lt hD s
 ·
  rw [rwS_mem, Yp]
  constructor
  ·
   rintro ⟨h1, h2⟩
   obtain ⟨x, hx, rfl⟩ := ren_mem h1
   have h3 := hN.mv x hx
   have h2 : ((to.getD x.f.toNat 0 : Nat) : Int) = ((to.getD s 0 : Nat) : Int) := h2
   have := hP.inj (i := x.f.toNat) (j := s) (by omega) hs (by omega)
   exact ⟨x, rwS_mem.2 ⟨hx, by omega⟩, rfl⟩
  ·
   rintro ⟨x, hx, rfl⟩
   obtain ⟨h1, h2⟩ := rwS_mem.1 hx
   refine ⟨Yp.2 ⟨x, h1, rfl⟩, ?_⟩
   show ((to.getD x.f.toNat 0 : Nat) : Int) = _
   rw [show x.f.toNat = s by omega]
theorem ren_tim (hW : WM m) (hP : PermN m.n.toNat to) : TimM (renM m to) := by
 have hlt : (renM m to).li.Pairwise fun a b => a.s < b.s := by
  show ((List.range m.n.toNat).flatMap (renT to m.li)).Pairwise _
  rw [List.pairwise_flatMap]
  refine ⟨fun s _ => ?_, ?_⟩
  ·
   unfold renT
   rw [List.pairwise_map]
   refine List.Pairwise.imp_of_mem ?_ ((li_lt hW.t).filter _)
   intro a b ha hb hab
   exfalso
   obtain ⟨a1, a2⟩ := List.mem_filter.1 ha
   obtain ⟨b1, b2⟩ := List.mem_filter.1 hb
   have a2 := of_decide_eq_true a2
   have b2 := of_decide_eq_true b2
   obtain ⟨_, _, _, _, _, _, a3, a4, _⟩ := li_in hW a1
   obtain ⟨_, _, _, _, _, _, b3, b4, _⟩ := li_in hW b1
   have := hP.inj (i := a.s.toNat) (j := b.s.toNat) (by omega) (by omega) (by rw [a2, b2])
   omega
  ·
   refine List.Pairwise.imp ?_ (List.pairwise_lt_range (n := m.n.toNat))
   intro i k hik a ha b hb
   obtain ⟨_, _, rfl⟩ := Yp.1 ha
   obtain ⟨_, _, rfl⟩ := Yp.1 hb
   show ((i : Nat) : Int) < (k : Nat)
   omega
 intro i t ht
 obtain ⟨t0, h0, rfl⟩ := ren_li (Yb ht)
 obtain ⟨j, hj⟩ := Yf.1 h0
 obtain ⟨_, hk, he, x, hx, h1, h2, h3⟩ := hW.t j t0 hj
 exact ⟨fun z hi hz => pair_get hlt (by omega) hz ht, hk, he, _, ren_at hx, by show ((to.getD x.f.toNat 0 : Nat) : Int) = _; rw [h1], h2, h3⟩
theorem limT_of (hT : TimM m) {t : To} {s : Int} (ht : t ∈ m.li) (hs : t.s = s) : limT m s = some t := by
 have : t ∈ (limT m s).toList := by
  rw [<- limT_filter hT]
  exact List.mem_filter.2 ⟨ht, decide_eq_true hs⟩
 exact Option.mem_toList.1 this
theorem ren_w (hW : WM m) (hP : PermN m.n.toNat to) : WM (renM m to) := ⟨ren_num hW.n hP, ren_det hW.n hW.d hP, ren_tim hW hP⟩
theorem ren_sgT (hW : WM m) (hP : PermN m.n.toNat to) {s : Nat} (hs : s < m.n.toNat) : sgT m s = sgT (renM m to) (to.getD s 0) := by
 have hT := ren_tim hW hP
 cases ht : limT m (s : Int) with
 | some t0 =>
  obtain ⟨h1, h2⟩ := limT_mem ht
  have hm : (⟨(to.getD s 0 : Nat), t0.k, t0.e⟩ : To) ∈ (renM m to).li := by
   refine List.mem_flatMap.2 ⟨to.getD s 0, List.mem_range.2 (hP.lt hs), Yp.2 ⟨t0, List.mem_filter.2 ⟨h1, decide_eq_true ?_⟩, rfl⟩⟩
   rw [h2]; rfl
  have := limT_of hT hm (s := ((to.getD s 0 : Nat) : Int)) rfl
  unfold sgT
  rw [ht, this]
  show Sg.mk 0 1 (evI m t0.e.toNat) false t0.k = Sg.mk 0 1 (evI (renM m to) t0.e.toNat) false t0.k
  rw [ren_evI]
 | none =>
  cases ht2 : limT (renM m to) (to.getD s 0 : Nat) with
  | none =>
   unfold sgT
   rw [ht, ht2]
  | some t =>
   exfalso
   obtain ⟨h1, h2⟩ := limT_mem ht2
   obtain ⟨t0, h3, rfl⟩ := ren_li h1
   have h2 : ((to.getD t0.s.toNat 0 : Nat) : Int) = ((to.getD s 0 : Nat) : Int) := h2
   obtain ⟨_, _, _, _, _, _, a3, a4, _⟩ := li_in hW h3
   have := hP.inj (i := t0.s.toNat) (j := s) (by omega) hs (by omega)
   have := limT_of hW.t h3 (s := (s : Int)) (by omega)
   rw [ht] at this; cases this
theorem ren_fin (hN : NumM m) (hP : PermN m.n.toNat to) {s : Nat} (hs : s < m.n.toNat) : (renM m to).fin[to.getD s 0]? = some (m.fin.getD s false) :=
 fnT_get hP m.fin m.fin.length (by have := hN.fl; have := hN.n; omega) s (by have := hN.fl; have := hN.n; omega)
theorem ren_sim (hW : WM m) (hP : PermN m.n.toNat to) : Sim0 m (renM m to) fun x y => x < m.n.toNat /\ y = to.getD x 0 := by
 have hn := hW.n.n
 have hs := hW.n.s
 refine ⟨?_, rfl, ⟨by omega, rfl⟩, ?_, ?_, ?_, ?_⟩
 ·
  rintro x y ⟨h1, rfl⟩
  exact ⟨h1, hP.lt h1⟩
 ·
  rintro x y ⟨h1, rfl⟩
  rw [ren_row hW.n hW.d hP h1, Yc]
 ·
  rintro x y j a b ⟨h1, rfl⟩ ha hb
  rw [ren_row hW.n hW.d hP h1, Yd, ha] at hb
  cases hb
  exact ⟨rfl, rfl, rwS_t hW.n (Yb ha), rfl⟩
 ·
  rintro x y ⟨h1, rfl⟩
  rw [getD_some (ren_fin hW.n hP h1)]
 ·
  rintro x y ⟨h1, rfl⟩
  exact ren_sgT hW hP h1
theorem ren_vm (hV : VM m) (hP : PermN m.n.toNat to) : VM (renM m to) := by
 have hW := hV.w
 have hn := hV.n.n
 have hs := hV.n.s
 refine ⟨ren_num hV.n hP, ren_det hV.n hV.d hP, ?_, ⟨?_, ?_, ?_, ?_, ?_⟩, ren_tim hW hP⟩
 ·
  have key : ∀ a : Int, Qr (meds m) (-1) [m.s] a -> (0 <= a /\ a < m.n) /\ Qr (meds (renM m to)) (-1) [(renM m to).s] (to.getD a.toNat 0 : Nat) := by
   intro a ha
   induction ha with
   | base h =>
    rw [Ye] at h
    subst h
    exact ⟨hs, .base (Ye.2 rfl)⟩
   | step _ hx ih =>
    obtain ⟨e, he, _, hf, ht⟩ := hx
    obtain ⟨x, hx, rfl⟩ := Yp.1 he
    have h1 := hV.n.mv x hx
    have hf : x.f = _ := hf
    have ht : x.t = _ := ht
    subst ht; subst hf
    refine ⟨⟨by omega, by omega⟩, .step ih.2 (quietL_mem.1 (meds_q.2 ⟨renV to x, Yp.2 ⟨x, hx, rfl⟩, rfl, rfl⟩))⟩
  intro v h0 h1
  obtain ⟨x, hx, he⟩ := hP.sur (y := v.toNat) (by have : v < m.n := h1; omega)
  have := (key (x : Int) (hV.r x (by omega) (by omega))).2
  rw [show ((x : Int)).toNat = x from rfl, he] at this
  rwa [show ((v.toNat : Nat) : Int) = v by omega] at this
 ·
  intro y hy ha
  obtain ⟨x, hx, rfl⟩ := ren_mem hy
  exact hV.a.s x hx ha
 ·
  intro y hy ha
  obtain ⟨x, hx, rfl⟩ := ren_mem hy
  have h1 := hV.n.mv x hx
  have h9 := hV.a.o x hx ha
  show (outIx (renM m to) ((to.getD x.f.toNat 0 : Nat) : Int)).length = 1
  rw [<- rwS_ix, ren_row hV.n hV.d hP (by omega), Yc, rwS_ix, show ((x.f.toNat : Nat) : Int) = x.f by omega]
  exact h9
 ·
  intro y hy ha
  obtain ⟨x, hx, rfl⟩ := ren_mem hy
  have h1 := hV.n.mv x hx
  have h9 := hV.a.i x hx ha
  intro e
  have e : ((to.getD x.f.toNat 0 : Nat) : Int) = ((to.getD m.s.toNat 0 : Nat) : Int) := e
  have := hP.inj (i := x.f.toNat) (j := m.s.toNat) (by omega) (by omega) (by omega)
  exact h9 (by omega)
 ·
  intro y hy ha
  obtain ⟨x, hx, rfl⟩ := ren_mem hy
  have h1 := hV.n.mv x hx
  have h9 := hV.a.f x hx ha
  show (renM m to).fin[((to.getD x.f.toNat 0 : Nat) : Int).toNat]? = some false
  rw [show ((to.getD x.f.toNat 0 : Nat) : Int).toNat = to.getD x.f.toNat 0 from rfl, ren_fin hV.n hP (by omega), getD_some h9]
 ·
  intro y hy ha z hz ht
  obtain ⟨x, hx, rfl⟩ := ren_mem hy
  obtain ⟨w, hw, rfl⟩ := ren_mem hz
  have h1 := hV.n.mv x hx
  have h2 := hV.n.mv w hw
  have ht : ((to.getD w.t.toNat 0 : Nat) : Int) = ((to.getD x.f.toNat 0 : Nat) : Int) := ht
  have := hP.inj (i := w.t.toNat) (j := x.f.toNat) (by omega) (by omega) (by omega)
  exact hV.a.p x hx ha w hw (by omega)
theorem canN_i (hW : WM m) : ∃ Q, MinI m (List.range m.n.toNat) m.n.toNat m.s.toNat (canN m) Q := by
 have hs := hW.n.s
 exact minN_i hW range_cs (Yyb (by omega))
theorem canN_ren (hW : WM m) (hP : PermN m.n.toNat to) : canN m = canN (renM m to) := by
 obtain ⟨Q, I⟩ := canN_i hW
 obtain ⟨P, J⟩ := canN_i (ren_w hW hP)
 have hs := hW.n.s
 have hs2 := (ren_w hW hP).n.s
 refine min_eq I J range_cs range_cs hW (ren_w hW hP) (Yyb (by omega)) (Yyb (by omega)) (ren_sim hW hP) ⟨?_, ?_, ?_⟩
 ·
  rintro x y y' ⟨_, rfl⟩ ⟨_, rfl⟩
  rfl
 ·
  rintro x x' y ⟨h1, rfl⟩ ⟨h2, h3⟩
  rw [hP.inj h1 h2 h3]
 ·
  rintro x x' y y' ⟨h1, rfl⟩ h2 h3 h4 h5
  rw [Yyd] at h2 h3
  replace h3 : y' < m.n.toNat := h3
  replace h5 : (List.range m.n.toNat)[to.getD x 0]? = (List.range m.n.toNat)[y']? := h5
  rw [Yyb h1, Yyb h2] at h4
  rw [Yyb (hP.lt h1), Yyb h3] at h5
  cases h4
  exact ⟨h1, (Option.some.inj h5).symm⟩
end
end Go.VC
end

section
/- Plain: machines that do the same make the same histories. No program here. -/
namespace Go.VC
open Go.LexS
section
variable {m k : Mch} {S : Nat -> Nat -> Prop}
theorem sim_next (hm : WM m) (hk : WM k) (I : Sim0 m k S) {x y : Nat} (hS : S x y) (e : Ev) : (nxE m (x : Int) e = -1 /\ nxE k (y : Int) e = -1) \/ ∃ a b : Nat, S a b /\ nxE m (x : Int) e = (a : Int) /\ nxE k (y : Int) e = (b : Int) := by
 have hl := I.rl hS
 by_cases h : ∃ z ∈ rwS m x, z.ev = e
 ·
  obtain ⟨z, hz, he⟩ := h
  obtain ⟨j, hj⟩ := Yf.1 hz
  obtain ⟨w, hw⟩ := get_some (l := rwS k y) (i := j) (by have := (Ya.1 hj).1; omega)
  obtain ⟨e1, _, e3⟩ := I.rw hS hj hw
  obtain ⟨zm, zf⟩ := rwS_mem.1 hz
  obtain ⟨wm, wf⟩ := rwS_mem.1 (Yb hw)
  have z0 := hm.n.mv z zm
  have w0 := hk.n.mv w wm
  obtain ⟨p, hp⟩ := Yf.1 zm
  obtain ⟨q, hq⟩ := Yf.1 wm
  refine .inr ⟨_, _, e3, ?_, ?_⟩
  ·
   rw [nxE_some hm.d hp zf he]; omega
  ·
   rw [nxE_some hk.d hq wf (by rw [<- e1, he])]; omega
 ·
  refine .inl ⟨nxE_none fun z hz hf he => h ⟨z, rwS_mem.2 ⟨hz, hf⟩, he⟩, nxE_none fun w hw hf he => ?_⟩
  obtain ⟨j, hj⟩ := Yf.1 (rwS_mem.2 ⟨hw, hf⟩ : w ∈ rwS k y)
  obtain ⟨z, hz⟩ := get_some (l := rwS m x) (i := j) (by have := (Ya.1 hj).1; omega)
  exact h ⟨z, Yb hz, by rw [(I.rw hS hz hj).1, he]⟩
theorem sim_run (hm : WM m) (hk : WM k) (I : Sim0 m k S) : ∀ (L : List Hv) (x y i : Nat), S x y -> (∃ a b : Nat, S a b /\ (runN m (x : Int) i L).1 = (a : Int) /\ (runN k (y : Int) i L).1 = (b : Int)) /\ (runN m (x : Int) i L).2 = (runN k (y : Int) i L).2
 | [], x, y, i, h => ⟨⟨x, y, h, rfl, rfl⟩, rfl⟩
 | e :: L, x, y, i, h => by
  have key : (nxH m (x : Int) e = -1 /\ nxH k (y : Int) e = -1) \/ ∃ a b : Nat, S a b /\ nxH m (x : Int) e = (a : Int) /\ nxH k (y : Int) e = (b : Int) := by
   unfold nxH
   rw [I.ro]
   by_cases hr : e.role = k.role
   ·
    rw [if_pos hr, if_pos hr]
    exact sim_next hm hk I h e.ev
   ·
    rw [if_neg hr, if_neg hr]
    exact .inl ⟨rfl, rfl⟩
  rw [runN, runN]
  rcases key with ⟨h1, h2⟩ | ⟨a, b, h1, h2, h3⟩
  ·
   rw [h1, h2, if_neg (by omega), if_neg (by omega)]
   exact ⟨⟨x, y, h, rfl, rfl⟩, rfl⟩
  ·
   rw [h2, h3, if_pos (by omega), if_pos (by omega)]
   exact sim_run hm hk I L a b (i + 1) h1
theorem snd_row (hV : VM m) {s : Nat} (hs : s < m.n.toNat) {O : List Nat} (h : MvO m (s : Int) O) : sndS m O = ((rwS m s)[0]?.map fun z : Mv => z.send).getD false := by
 have hn := hV.n.n
 obtain ⟨p, q⟩ := h.y ⟨hV, by omega, by omega⟩
 have e := mvS_eq hV.d p q
 unfold rwS
 rw [e]
 cases O with
 | nil => rfl
 | cons k O =>
  obtain ⟨x, hx, _⟩ := outIx_mem.1 (p.mem_iff.1 Yx)
  rw [List.filterMap_cons_some hx]
  show (evI m k).send = x.send
  rw [evI_of hx]; rfl
theorem sim_snd (hm : VM m) (hk : VM k) (I : Sim0 m k S) {x y : Nat} (hS : S x y) {O P : List Nat} (h1 : MvO m (x : Int) O) (h2 : MvO k (y : Int) P) : sndS m O = sndS k P := by
 obtain ⟨b1, b2⟩ := I.bd hS
 rw [snd_row hm b1 h1, snd_row hk b2 h2]
 have hl := I.rl hS
 cases hz : (rwS m x)[0]? with
 | none =>
  rw [Yl (by rw [List.getElem?_eq_none_iff] at hz; omega)]
 | some z =>
  obtain ⟨w, hw⟩ := get_some (l := rwS k y) (i := 0) (by have := (Ya.1 hz).1; omega)
  rw [hw]
  exact congrArg Ev.send (I.rw hS hz hw).1
end
theorem minF_le {m : Mch} (hV : VM m) : (minF (srtM m)).n <= m.n := by
 obtain ⟨c0, Q, h0, I⟩ := minF_i hV.w
 have h1 := I.i.pq.le
 have h2 : (cls (srtM m)).2 <= m.n.toNat := (cls_ok (srtM_raw hV.w).ok).cc
 have hn := hV.n.n
 rw [I.n]; omega
theorem minF_sim {m : Mch} (hV : VM m) : ∃ S, Sim0 m (minF (srtM m)) S := by
 obtain ⟨c0, Q, h0, I⟩ := minF_i hV.w
 exact ⟨_, sim_min hV.w (minF_vm hV).w I h0⟩
end Go.VC
end

section
/- Contract: a machine with its states renamed. (Numbers of layer 26's seat.) -/
namespace Go.VC
open Go.Proofs Go.LexS Go.Maps
def u8C (n : Nat) : List Value := [.int .u8 (n : Int)]
theorem tmod_nat (a n : Nat) : Int.tmod (a : Int) (n : Int) = ((a % n : Nat) : Int) := rfl
theorem smB {h0 h h1 h' : Heap} {L L' : List It} (hs : St h0 h L) (hs' : St h1 h' L') (k k' : Nat) {b : Nat} {xs : List Value} {e : TypeId} (hk : L[k]? = some (.blk b xs e)) (hk' : L'[k']? = some (.blk b xs e)) {a : Addr} (ha : a.block = b) {al : List Addr} (hr : Sm al h h') : Sm (a :: al) h h' := by
 have e1 : h[b]? = some (.cells ⟨xs⟩ e) := hs.get hk
 have e2 : h'[b]? = some (.cells ⟨xs⟩ e) := hs'.get hk'
 exact sm_cons (by rw [ha, e1, e2]) hr
theorem natV_get {L : List Nat} {i c : Nat} (h : L[i]? = some c) : (L.map natV)[i]? = some (.int .i64 (c : Int)) := by rw [Yd, h]; rfl
theorem swT_len {n : Nat} (hn : 1 <= n) (L : List Int) (i : Nat) : (swT n L i).length = n := (swT_perm n hn L i).len
theorem renT_le (to : List Nat) (li : List To) (s : Nat) : (renT to li s).length <= li.length := by
 unfold renT
 rw [Yc]
 exact List.length_filter_le _ _
theorem renT_flat (to : List Nat) (li : List To) : ∀ i, ((List.range i).flatMap (renT to li)).length <= i * li.length
 | 0 => Nat.zero_le _
 | i + 1 => by
  have h1 := renT_flat to li i
  have h2 := renT_le to li i
  rw [List.range_succ, List.flatMap_append, Yh, List.flatMap_cons, List.flatMap_nil, Yw, Nat.add_mul, Nat.one_mul]
  omega
theorem renT_yes {to : List Nat} {li : List To} {s j : Nat} {t : To} (h : li[j]? = some t) (e : to.getD t.s.toNat 0 = s) : renT to (li.take (j + 1)) s = renT to (li.take j) s ++ [⟨(s : Nat), t.k, t.e⟩] := by
 unfold renT
 rw [take_snoc h, List.filter_append, Ym, List.filter_cons_of_pos (p := fun t : To => decide (to.getD t.s.toNat 0 = s)) (decide_eq_true e)]; rfl
theorem renT_no {to : List Nat} {li : List To} {s j : Nat} {t : To} (h : li[j]? = some t) (e : to.getD t.s.toNat 0 ≠ s) : renT to (li.take (j + 1)) s = renT to (li.take j) s := by
 unfold renT
 rw [take_snoc h, List.filter_append, List.filter_cons_of_neg (p := fun t : To => decide (to.getD t.s.toNat 0 = s)) (by rw [decide_eq_false e]; exact Bool.false_ne_true), List.filter_nil, Yw]
def rnL (ob tb rb pb : Nat) (m : Mch) (sf sm sl : Sl) (st : Int) (ff mm ll : Sl) (to : List Nat) (F : List Bool) (M : List Mv) (T : List To) : List It :=
 [.blk ob [.int .i64 m.role, .int .i64 m.n, .int .i64 st, .slice ff.a ff.n ff.c, .slice mm.a mm.n mm.c, .slice ll.a ll.n ll.c] 26, .sl ff 4 1 (F.map bC), .sl mm 81 6 (M.map Mv.cs), .sl ll 44 3 (T.map To.cs), .blk tb (to.map natV) 3, .blk rb m0 26, .blk pb (mC m sf sm sl) 26]
set_option maxHeartbeats 4000000 in
theorem renamed41 (m : Mch) (sf sm sl : Sl) (N : List Nat) (ns : Sl) (h : Heap) (hM : MI h m sf sm sl) (hV : WM m) (hN : Rw h 1 ns (N.map u8C)) (hNb : ∀ d ∈ N, d <= 255) (hNl : N.length <= 60) :
  Fn Pz 41 #[.agg ⟨mC m sf sm sl⟩, .slice ns.a ns.n ns.c] h fun v h' => ∃ f g l : Sl, v = .agg ⟨mC (renM m (swT m.n.toNat (natI N) N.length)) f g l⟩ /\ St h h' (mL (renM m (swT m.n.toNat (natI N) N.length)) f g l) := by
 apply vc41 m.role m.n m.s sf sm sl ns; unfold W41
 have hn := hV.n.n
 have hms := hV.n.s
 have hfl := hV.n.fl
 have hml := hV.n.ml
 have hll := li_len hV
 have hmn := hM.pm.ln
 have hfn := hM.pf.ln
 have hln := hM.pl.ln
 have hnn := hN.ln
 obtain ⟨n, hni⟩ : ∃ n : Nat, n = m.n.toNat := ⟨_, rfl⟩
 have hnI : m.n = (n : Int) := by omega
 rw [<- hni]
 refine (St.refl h).newb fun h7 hs => ?_
 refine hs.newb fun h8 hs => ?_
 refine ⟨(n : Int), by rw [<- hnI]; exact hs.rd 1 rfl (i := 1) rfl, ⟨by omega, by omega, by omega⟩, ?_⟩
 refine hs.newb fun h10 hs => ?_
 rw [made3n, Ys] at hs
 refine ⟨fun x h' μ => ∃ i : Nat, x = (i : Int) /\ μ = n - i /\ i <= n /\ St h h' [.blk h8.size ((List.range i ++ List.replicate (n - i) 0).map natV) 3, .blk h7.size m0 26, .blk h.size (mC m sf sm sl) 26], ⟨_, 0, rfl, rfl, Nat.zero_le _, hs⟩, ?_⟩
 clear hs
 rintro - _ h15 μ ⟨i, rfl, rfl, hi, hs⟩
 refine sBi (fun c1 => ?_) (fun c1 => ?_)
 ·
  refine ⟨⟨by omega, by omega⟩, ?_⟩
  rw [show 0 + Int.toNat (i : Int) * 1 = i by omega]
  refine hs.put 0 rfl (o := i) (vs := [natV i]) rfl (by rw [Yc, Yh, Yyd, Yg, Yv]; omega) fun h16 hs => ?_
  rw [map_natV_put Yyd (by omega), <- List.range_succ] at hs
  exact ⟨_, (show n - (i + 1) < n - i by omega), i + 1, by rw [w64 (by omega) (by omega)]; omega, rfl, by omega, hs⟩
 have hin : n = i := by omega
 subst hin
 rw [Nat.sub_self, List.replicate_zero, Yw] at hs
 clear c1 hi
 refine ⟨fun x h' μ => ∃ k : Nat, x = (k : Int) /\ μ = N.length - k /\ k <= N.length /\ St h h' [.blk h8.size ((swT n (natI N) k).map natV) 3, .blk h7.size m0 26, .blk h.size (mC m sf sm sl) 26], ⟨_, 0, rfl, rfl, Nat.zero_le _, hs⟩, ?_⟩
 clear hs
 rintro - _ h22 μ ⟨k, rfl, rfl, hk, hs⟩
 refine sBi (fun c2 => ?_) (fun c2 => ?_)
 ·
  have hlen := swT_len (n := n) (by omega) (natI N) k
  refine ⟨(n : Int), by rw [<- hnI]; exact hs.rd 2 rfl (i := 1) rfl, by omega, ?_⟩
  refine (hN.ext hs.ext).nbI (by omega) (by omega) fun b24 o25 d g24 t24 => ?_
  rw [Ys] at g24
  have hd := hNb d (Yb g24)
  refine ⟨(d : Int), t24.hd, (n : Int), by rw [<- hnI]; exact hs.rd 2 rfl (i := 1) rfl, by omega, ?_⟩
  rw [w64 (n := (d : Int)) (by omega) (by omega), tmod_nat d n, tmod_nat k n]
  have hb : d % n < n := Nat.mod_lt _ (by omega)
  have ha : k % n < n := Nat.mod_lt _ (by omega)
  obtain ⟨vb, hvb⟩ := get_some (l := swT n (natI N) k) (i := d % n) (by omega)
  obtain ⟨va, hva⟩ := get_some (l := swT n (natI N) k) (i := k % n) (by omega)
  rw [show 0 + Int.toNat ((d % n : Nat) : Int) * 1 = d % n by rw [Ys]; omega, show 0 + Int.toNat ((k % n : Nat) : Int) * 1 = k % n by rw [Ys]; omega]
  refine ⟨⟨Int.natCast_nonneg _, Int.ofNat_lt.2 hb⟩, _, hs.rd 0 rfl (natV_get hvb), ⟨Int.natCast_nonneg _, Int.ofNat_lt.2 ha⟩, _, hs.rd 0 rfl (natV_get hva), ⟨Int.natCast_nonneg _, Int.ofNat_lt.2 ha⟩, ?_⟩
  refine hs.put 0 rfl (o := k % n) (vs := [natV vb]) rfl (by rw [Yc, Yv]; omega) fun h30 hs => ?_
  rw [map_splice natV (by omega)] at hs
  refine ⟨⟨Int.natCast_nonneg _, Int.ofNat_lt.2 hb⟩, ?_⟩
  refine hs.put 0 rfl (o := d % n) (vs := [natV va]) rfl (by rw [Yc, Yyh, Yv]; omega) fun h31 hs => ?_
  rw [map_splice natV (by rw [Yyh]; omega)] at hs
  refine ⟨_, (show N.length - (k + 1) < N.length - k by omega), k + 1, by rw [w64 (by omega) (by omega)]; omega, rfl, by omega, ?_⟩
  have e1 : ((natI N).getD k 0).toNat = d := by
   rw [getD_some (x := (d : Int)) (by unfold natI; rw [Yd, g24]; rfl)]; rfl
  rw [swT, e1, getD_some hva, getD_some hvb]
  exact hs
 have hkN : k = N.length := by omega
 subst hkN
 clear c2 hk
 have hP := swT_perm n (by omega) (natI N) N.length
 have hsg := hP.get (show m.s.toNat < n by omega)
 refine ⟨_, hs.rd 2 rfl (i := 0) rfl, (n : Int), by rw [<- hnI]; exact hs.rd 2 rfl (i := 1) rfl, _, hs.rd 2 rfl (i := 2) rfl, ⟨by omega, by omega⟩, ?_⟩
 rw [show 0 + Int.toNat m.s * 1 = m.s.toNat by omega]
 refine ⟨_, hs.rd 0 rfl (natV_get hsg), (n : Int), by rw [<- hnI]; exact hs.rd 2 rfl (i := 1) rfl, ?_⟩
 generalize hst : (((swT n (natI N) N.length).getD m.s.toNat 0 : Nat) : Int) = st
 rw [Ys]
 refine ⟨⟨⟨by omega, by omega, by omega⟩, ?_⟩, ?_⟩
 ·
  refine hs.newbE fun h38 E38 hs => ⟨E38.sm, ?_⟩
  rw [made4b] at hs
  have hs := hs.blkS n 1 ((List.replicate n false).map bC) rfl (fun r hr => by obtain ⟨_, _, rfl⟩ := Yp.1 hr; rfl) (by rw [Yc, Yg]) (by simp only [maxLen]; omega)
  refine hs.newbE fun h39 E39 hs => ⟨E39.sm, ?_⟩
  refine hs.put 0 rfl (o := 0) (vs := [.int .i64 m.role, .int .i64 n, .int .i64 st, .slice (some ⟨h22.size, 0, none⟩) n n, .slice none 0 0, .slice none 0 0]) rfl (show 6 <= 6 by decide) fun h40 hs => ?_
  rw [<- hnI] at hs
  obtain ⟨ff, hff⟩ : ∃ ff : Sl, ff = ⟨some ⟨h22.size, 0, none⟩, n, n⟩ := ⟨_, rfl⟩
  have hs : St h h40 (rnL h38.size h8.size h7.size h.size m sf sm sl st ff ⟨none, 0, 0⟩ ⟨none, 0, 0⟩ (swT n (natI N) N.length) (List.replicate n false) [] []) := by
   rw [hff]
   exact ((hs.nil_ 44 3).nil_ 81 6).perm (((List.perm_append_comm (l₁ := [_, _]) (l₂ := [_, _])).append_right [_, _, _]))
  clear hff
  generalize hto : swT n (natI N) N.length = to at *
  have hfnT0 : fnT n to m.fin 0 = List.replicate n false := rfl
  rw [<- hfnT0] at hs
  refine ⟨sf, hs.rd 6 rfl (i := 3) rfl, ?_⟩
  refine ⟨fun x h' μ => ∃ i : Nat, x = (i : Int) /\ μ = m.fin.length - i /\ i <= m.fin.length /\ St h h' (rnL h38.size h8.size h7.size h.size m sf sm sl st ff ⟨none, 0, 0⟩ ⟨none, 0, 0⟩ to (fnT n to m.fin i) [] []), ⟨_, 0, rfl, rfl, Nat.zero_le _, hs⟩, ?_⟩
  clear hs
  rintro - _ h46 μ ⟨i, rfl, rfl, hi, hs⟩
  refine sBi (fun c1 => ?_) (fun c1 => ?_)
  ·
   have hti := hP.get (show i < n by omega)
   have htl := hP.lt (show i < n by omega)
   refine ⟨_, hs.rd 0 rfl (i := 3) rfl, ⟨by omega, by omega⟩, ?_⟩
   rw [show 0 + Int.toNat (i : Int) * 1 = i by omega]
   refine ⟨_, hs.rd 4 rfl (natV_get hti), sf, hs.rd 6 rfl (i := 3) rfl, ?_⟩
   refine (hM.pf.rw.ext hs.ext).nbI (by omega) (by omega) fun b50 o51 bf g50 t50 => ?_
   rw [Ys] at g50
   replace g50 : m.fin[i]? = some bf := g50
   refine ⟨_, t50.hd, ?_⟩
   have hfn2 := (hs.rows 1 (s := ff) (cs := bC) rfl (by omega)).ln
   rw [fnT_len] at hfn2
   refine hs.set 1 (s := ff) (cs := bC) (l := fnT n to m.fin i) rfl (by omega) (x := ((to.getD i 0 : Nat) : Int)) (by omega) (by omega) bf rfl rfl (fun b53 o54 h55 hs => ?_) rfl
   refine ⟨_, (show m.fin.length - (i + 1) < m.fin.length - i by omega), i + 1, by rw [w64 (by omega) (by omega)]; omega, rfl, by omega, ?_⟩
   rw [show fnT n to m.fin (i + 1) = (fnT n to m.fin i).set (to.getD i 0) bf by rw [fnT, getD_some g50]]
   exact hs
  ·
   have hil : i = m.fin.length := by omega
   subst hil
   generalize hF : fnT n to m.fin m.fin.length = F at hs
   clear c1 hi
   refine ⟨sm, hs.rd 6 rfl (i := 4) rfl, ?_⟩
   refine ⟨fun x h' μ => ∃ (i : Nat) (mm : Sl), x = (i : Int) /\ μ = m.mv.length - i /\ i <= m.mv.length /\ St h h' (rnL h38.size h8.size h7.size h.size m sf sm sl st ff mm ⟨none, 0, 0⟩ to F ((m.mv.take i).map (renV to)) []), ⟨_, 0, _, rfl, rfl, Nat.zero_le _, hs⟩, ?_⟩
   clear hs
   rintro - _ h62 μ ⟨i, mm, rfl, rfl, hi, hs⟩
   refine sBi (fun c2 => ?_) (fun c2 => ?_)
   ·
    refine (hM.pm.rw.ext hs.ext).nbI (by omega) (by omega) fun b63 o64 x g63 t63 => ?_
    rw [Ys] at g63
    replace g63 : m.mv[i]? = some x := g63
    have hxr := hV.n.mv x (Yb g63)
    have h1 := hP.get (show x.f.toNat < n by omega)
    have h2 := hP.get (show x.t.toNat < n by omega)
    have hmmn := (hs.rows 2 (s := mm) (cs := Mv.cs) rfl (by omega)).ln
    rw [Yc, Yu] at hmmn
    refine ⟨_, _, _, _, _, _, t63, ?_⟩
    refine hs.newput (vs := x.cs) rfl rfl fun h72 hs => ?_
    refine ⟨_, hs.rd 0 rfl (i := 0) rfl, ⟨by omega, by omega⟩, ?_⟩
    rw [show 0 + Int.toNat x.f * 1 = x.f.toNat by omega]
    refine ⟨_, hs.rd 5 rfl (natV_get h1), _, hs.rd 0 rfl (i := 4) rfl, ⟨by omega, by omega⟩, ?_⟩
    rw [show 0 + Int.toNat x.t * 1 = x.t.toNat by omega]
    refine ⟨_, hs.rd 5 rfl (natV_get h2), ?_⟩
    refine hs.put 0 rfl (o := 0) (vs := [.int .i64 (to.getD x.f.toNat 0 : Nat)]) rfl (show 1 <= 6 by decide) fun h77 hs2 => ?_
    refine ⟨smB hs hs2 5 5 rfl rfl rfl sm_nil, ?_⟩
    have hs := hs2
    refine hs.put 0 rfl (o := 4) (vs := [.int .i64 (to.getD x.t.toNat 0 : Nat)]) rfl (show 5 <= 6 by decide) fun h78 hs => ?_
    refine ⟨_, hs.rd 1 rfl (i := 4) rfl, ?_⟩
    refine ⟨_, _, _, _, _, _, hs.at 0 rfl (o := 0) (n := 6) rfl, ?_⟩
    refine hs.app 3 (s := mm) (n := 6) (rows := ((m.mv.take i).map (renV to)).map Mv.cs) rfl app31 (m := 1) [(renV to x).cs] rfl rfl (fun r hr => by rw [Ye] at hr; rw [hr]; rfl) rfl (by omega) (by simp only [maxLen]; omega) fun r h88 nr hs => ?_
    refine hs.put 1 rfl (o := 4) (vs := [.slice r.a r.n r.c]) rfl (show 5 <= 6 by decide) fun h89 hs => ?_
    refine ⟨_, (show m.mv.length - (i + 1) < m.mv.length - i by omega), i + 1, r, by rw [w64 (by omega) (by omega)]; omega, rfl, by omega, ?_⟩
    rw [take_snoc g63, Ym]
    unfold rnL
    rw [Ym (f := Mv.cs)]
    exact hs.drop 1
   ·
    have hil : i = m.mv.length := by omega
    subst hil
    rw [Yye] at hs
    clear c2 hi
    refine ⟨fun x h' μ => ∃ (i : Nat) (ll : Sl), x = (i : Int) /\ μ = n - i /\ i <= n /\ St h h' (rnL h38.size h8.size h7.size h.size m sf sm sl st ff mm ll to F (m.mv.map (renV to)) ((List.range i).flatMap (renT to m.li))), ⟨_, 0, _, rfl, rfl, Nat.zero_le _, hs⟩, ?_⟩
    clear hs
    rintro - _ h95 μ ⟨i, ll, rfl, rfl, hi, hs⟩
    refine sBi (fun c3 => ?_) (fun c3 => ?_)
    ·
     refine ⟨sl, hs.rd 6 rfl (i := 5) rfl, ?_⟩
     refine ⟨fun x h' μ => ∃ (j : Nat) (ll : Sl), x = (j : Int) /\ μ = m.li.length - j /\ j <= m.li.length /\ St h h' (rnL h38.size h8.size h7.size h.size m sf sm sl st ff mm ll to F (m.mv.map (renV to)) ((List.range i).flatMap (renT to m.li) ++ renT to (m.li.take j) i)), ⟨_, 0, ll, rfl, rfl, Nat.zero_le _, by rw [Yyk]; show St h h95 (rnL h38.size h8.size h7.size h.size m sf sm sl st ff mm ll to F (m.mv.map (renV to)) (_ ++ [])); rw [Yw]; exact hs⟩, ?_⟩
     clear hs
     rintro - _ h101 μ ⟨j, ll, rfl, rfl, hj, hs⟩
     refine sBi (fun c4 => ?_) (fun c4 => ?_)
     ·
      refine (hM.pl.rw.ext hs.ext).nbI (by omega) (by omega) fun b102 o103 t g102 t102 => ?_
      rw [Ys] at g102
      replace g102 : m.li[j]? = some t := g102
      obtain ⟨_, _, _, _, _, _, hts0, hts1, _⟩ := li_in hV (Yb g102)
      have h1 := hP.get (show t.s.toNat < n by omega)
      have hlln := (hs.rows 3 (s := ll) (cs := To.cs) rfl (by omega)).ln
      rw [Yh] at hlln
      have hfl1 := renT_flat to m.li i
      have hfl2 := renT_le to (m.li.take j) i
      rw [Yu] at hfl2
      have hfl3 : i * m.li.length <= 200 * 200 := Nat.mul_le_mul (by omega) hll
      refine ⟨_, _, _, t102, ?_⟩
      refine hs.newput (vs := t.cs) rfl rfl fun h108 hs => ?_
      refine ⟨_, hs.rd 0 rfl (i := 0) rfl, ⟨by omega, by omega⟩, ?_⟩
      rw [show 0 + Int.toNat t.s * 1 = t.s.toNat by omega]
      refine ⟨_, hs.rd 5 rfl (natV_get h1), sBe (fun c5 => ?_) (fun c5 => ?_)⟩
      ·
       refine hs.put 0 rfl (o := 0) (vs := [.int .i64 (i : Nat)]) rfl (show 1 <= 3 by decide) fun h111 hs => ?_
       refine ⟨_, hs.rd 1 rfl (i := 5) rfl, ?_⟩
       refine ⟨_, _, _, hs.at 0 rfl (o := 0) (n := 3) rfl, ?_⟩
       refine hs.app 4 (s := ll) (n := 3) (rows := ((List.range i).flatMap (renT to m.li) ++ renT to (m.li.take j) i).map To.cs) rfl app25 (m := 1) [(To.mk (i : Nat) t.k t.e).cs] rfl rfl (fun r hr => by rw [Ye] at hr; rw [hr]; rfl) rfl (by omega) (by simp only [maxLen]; omega) fun r h118 nr hs => ?_
       refine hs.put 1 rfl (o := 5) (vs := [.slice r.a r.n r.c]) rfl (show 6 <= 6 by decide) fun h119 hs => ?_
       refine ⟨_, (show m.li.length - (j + 1) < m.li.length - j by omega), j + 1, r, by rw [w64 (by omega) (by omega)]; omega, rfl, by omega, ?_⟩
       rw [renT_yes g102 (by omega), <- Yz]
       unfold rnL
       rw [Ym (f := To.cs)]
       exact hs.drop 1
      ·
       refine ⟨_, (show m.li.length - (j + 1) < m.li.length - j by omega), j + 1, ll, by rw [w64 (by omega) (by omega)]; omega, rfl, by omega, ?_⟩
       rw [renT_no g102 (by omega)]
       exact hs.drop 1
     ·
      have hjl : j = m.li.length := by omega
      subst hjl
      rw [Yye] at hs
      refine ⟨_, (show n - (i + 1) < n - i by omega), i + 1, ll, by rw [w64 (by omega) (by omega)]; omega, rfl, by omega, ?_⟩
      rw [List.range_succ, List.flatMap_append, List.flatMap_cons, List.flatMap_nil, Yw]
      exact hs
    ·
     have hin : n = i := by omega
     subst hin
     refine ⟨_, _, _, _, _, _, hs.at 0 rfl (o := 0) (n := 6) rfl, ?_⟩
     refine hs.put 5 rfl (o := 0) (vs := [.int .i64 m.role, .int .i64 m.n, .int .i64 st, .slice ff.a ff.n ff.c, .slice mm.a mm.n mm.c, .slice ll.a ll.n ll.c]) rfl (show 6 <= 6 by decide) fun h129 hs => ?_
     refine ⟨_, _, _, _, _, _, hs.at 5 rfl (o := 0) (n := 6) rfl, ?_⟩
     have hs := hs.sub (L' := [_, _, _]) (.cons _ (.cons_cons _ (.cons_cons _ (.cons_cons _ (List.nil_sublist _)))))
     have e : renM m to = ⟨m.role, m.n, st, F, m.mv.map (renV to), (List.range n).flatMap (renT to m.li)⟩ := by
      unfold renM
      rw [<- hF, <- hst, <- hni]
     rw [e]
     exact ⟨ff, mm, ll, rfl, hs⟩
 ·
  refine hs.newbE fun h38 E38 hs => ⟨E38.sm, ⟨by omega, by omega, by omega⟩, ?_⟩
  refine hs.newbE fun h39 E39 hs => ⟨E39.sm, ?_⟩
  rw [made4b] at hs
  have hs := hs.blkS n 1 ((List.replicate n false).map bC) rfl (fun r hr => by obtain ⟨_, _, rfl⟩ := Yp.1 hr; rfl) (by rw [Yc, Yg]) (by simp only [maxLen]; omega)
  refine hs.put 1 rfl (o := 0) (vs := [.int .i64 m.role, .int .i64 n, .int .i64 st, .slice (some ⟨h38.size, 0, none⟩) n n, .slice none 0 0, .slice none 0 0]) rfl (show 6 <= 6 by decide) fun h40 hs => ?_
  rw [<- hnI] at hs
  obtain ⟨ff, hff⟩ : ∃ ff : Sl, ff = ⟨some ⟨h38.size, 0, none⟩, n, n⟩ := ⟨_, rfl⟩
  have hs : St h h40 (rnL h22.size h8.size h7.size h.size m sf sm sl st ff ⟨none, 0, 0⟩ ⟨none, 0, 0⟩ (swT n (natI N) N.length) (List.replicate n false) [] []) := by
   rw [hff]
   exact ((hs.nil_ 44 3).nil_ 81 6).perm (((List.perm_append_comm (l₁ := [_, _]) (l₂ := [_, _])).trans (List.Perm.swap _ _ _)).append_right [_, _, _])
  clear hff
  generalize hto : swT n (natI N) N.length = to at *
  have hfnT0 : fnT n to m.fin 0 = List.replicate n false := rfl
  rw [<- hfnT0] at hs
  refine ⟨sf, hs.rd 6 rfl (i := 3) rfl, ?_⟩
  refine ⟨fun x h' μ => ∃ i : Nat, x = (i : Int) /\ μ = m.fin.length - i /\ i <= m.fin.length /\ St h h' (rnL h22.size h8.size h7.size h.size m sf sm sl st ff ⟨none, 0, 0⟩ ⟨none, 0, 0⟩ to (fnT n to m.fin i) [] []), ⟨_, 0, rfl, rfl, Nat.zero_le _, hs⟩, ?_⟩
  clear hs
  rintro - _ h46 μ ⟨i, rfl, rfl, hi, hs⟩
  refine sBi (fun c1 => ?_) (fun c1 => ?_)
  ·
   have hti := hP.get (show i < n by omega)
   have htl := hP.lt (show i < n by omega)
   refine ⟨_, hs.rd 0 rfl (i := 3) rfl, ⟨by omega, by omega⟩, ?_⟩
   rw [show 0 + Int.toNat (i : Int) * 1 = i by omega]
   refine ⟨_, hs.rd 4 rfl (natV_get hti), sf, hs.rd 6 rfl (i := 3) rfl, ?_⟩
   refine (hM.pf.rw.ext hs.ext).nbI (by omega) (by omega) fun b50 o51 bf g50 t50 => ?_
   rw [Ys] at g50
   replace g50 : m.fin[i]? = some bf := g50
   refine ⟨_, t50.hd, ?_⟩
   have hfn2 := (hs.rows 1 (s := ff) (cs := bC) rfl (by omega)).ln
   rw [fnT_len] at hfn2
   refine hs.set 1 (s := ff) (cs := bC) (l := fnT n to m.fin i) rfl (by omega) (x := ((to.getD i 0 : Nat) : Int)) (by omega) (by omega) bf rfl rfl (fun b53 o54 h55 hs => ?_) rfl
   refine ⟨_, (show m.fin.length - (i + 1) < m.fin.length - i by omega), i + 1, by rw [w64 (by omega) (by omega)]; omega, rfl, by omega, ?_⟩
   rw [show fnT n to m.fin (i + 1) = (fnT n to m.fin i).set (to.getD i 0) bf by rw [fnT, getD_some g50]]
   exact hs
  ·
   have hil : i = m.fin.length := by omega
   subst hil
   generalize hF : fnT n to m.fin m.fin.length = F at hs
   clear c1 hi
   refine ⟨sm, hs.rd 6 rfl (i := 4) rfl, ?_⟩
   refine ⟨fun x h' μ => ∃ (i : Nat) (mm : Sl), x = (i : Int) /\ μ = m.mv.length - i /\ i <= m.mv.length /\ St h h' (rnL h22.size h8.size h7.size h.size m sf sm sl st ff mm ⟨none, 0, 0⟩ to F ((m.mv.take i).map (renV to)) []), ⟨_, 0, _, rfl, rfl, Nat.zero_le _, hs⟩, ?_⟩
   clear hs
   rintro - _ h62 μ ⟨i, mm, rfl, rfl, hi, hs⟩
   refine sBi (fun c2 => ?_) (fun c2 => ?_)
   ·
    refine (hM.pm.rw.ext hs.ext).nbI (by omega) (by omega) fun b63 o64 x g63 t63 => ?_
    rw [Ys] at g63
    replace g63 : m.mv[i]? = some x := g63
    have hxr := hV.n.mv x (Yb g63)
    have h1 := hP.get (show x.f.toNat < n by omega)
    have h2 := hP.get (show x.t.toNat < n by omega)
    have hmmn := (hs.rows 2 (s := mm) (cs := Mv.cs) rfl (by omega)).ln
    rw [Yc, Yu] at hmmn
    refine ⟨_, _, _, _, _, _, t63, ?_⟩
    refine hs.newput (vs := x.cs) rfl rfl fun h72 hs => ?_
    refine ⟨_, hs.rd 0 rfl (i := 0) rfl, ⟨by omega, by omega⟩, ?_⟩
    rw [show 0 + Int.toNat x.f * 1 = x.f.toNat by omega]
    refine ⟨_, hs.rd 5 rfl (natV_get h1), _, hs.rd 0 rfl (i := 4) rfl, ⟨by omega, by omega⟩, ?_⟩
    rw [show 0 + Int.toNat x.t * 1 = x.t.toNat by omega]
    refine ⟨_, hs.rd 5 rfl (natV_get h2), ?_⟩
    refine hs.put 0 rfl (o := 0) (vs := [.int .i64 (to.getD x.f.toNat 0 : Nat)]) rfl (show 1 <= 6 by decide) fun h77 hs2 => ?_
    refine ⟨smB hs hs2 5 5 rfl rfl rfl sm_nil, ?_⟩
    have hs := hs2
    refine hs.put 0 rfl (o := 4) (vs := [.int .i64 (to.getD x.t.toNat 0 : Nat)]) rfl (show 5 <= 6 by decide) fun h78 hs => ?_
    refine ⟨_, hs.rd 1 rfl (i := 4) rfl, ?_⟩
    refine ⟨_, _, _, _, _, _, hs.at 0 rfl (o := 0) (n := 6) rfl, ?_⟩
    refine hs.app 3 (s := mm) (n := 6) (rows := ((m.mv.take i).map (renV to)).map Mv.cs) rfl app31 (m := 1) [(renV to x).cs] rfl rfl (fun r hr => by rw [Ye] at hr; rw [hr]; rfl) rfl (by omega) (by simp only [maxLen]; omega) fun r h88 nr hs => ?_
    refine hs.put 1 rfl (o := 4) (vs := [.slice r.a r.n r.c]) rfl (show 5 <= 6 by decide) fun h89 hs => ?_
    refine ⟨_, (show m.mv.length - (i + 1) < m.mv.length - i by omega), i + 1, r, by rw [w64 (by omega) (by omega)]; omega, rfl, by omega, ?_⟩
    rw [take_snoc g63, Ym]
    unfold rnL
    rw [Ym (f := Mv.cs)]
    exact hs.drop 1
   ·
    have hil : i = m.mv.length := by omega
    subst hil
    rw [Yye] at hs
    clear c2 hi
    refine ⟨fun x h' μ => ∃ (i : Nat) (ll : Sl), x = (i : Int) /\ μ = n - i /\ i <= n /\ St h h' (rnL h22.size h8.size h7.size h.size m sf sm sl st ff mm ll to F (m.mv.map (renV to)) ((List.range i).flatMap (renT to m.li))), ⟨_, 0, _, rfl, rfl, Nat.zero_le _, hs⟩, ?_⟩
    clear hs
    rintro - _ h95 μ ⟨i, ll, rfl, rfl, hi, hs⟩
    refine sBi (fun c3 => ?_) (fun c3 => ?_)
    ·
     refine ⟨sl, hs.rd 6 rfl (i := 5) rfl, ?_⟩
     refine ⟨fun x h' μ => ∃ (j : Nat) (ll : Sl), x = (j : Int) /\ μ = m.li.length - j /\ j <= m.li.length /\ St h h' (rnL h22.size h8.size h7.size h.size m sf sm sl st ff mm ll to F (m.mv.map (renV to)) ((List.range i).flatMap (renT to m.li) ++ renT to (m.li.take j) i)), ⟨_, 0, ll, rfl, rfl, Nat.zero_le _, by rw [Yyk]; show St h h95 (rnL h22.size h8.size h7.size h.size m sf sm sl st ff mm ll to F (m.mv.map (renV to)) (_ ++ [])); rw [Yw]; exact hs⟩, ?_⟩
     clear hs
     rintro - _ h101 μ ⟨j, ll, rfl, rfl, hj, hs⟩
     refine sBi (fun c4 => ?_) (fun c4 => ?_)
     ·
      refine (hM.pl.rw.ext hs.ext).nbI (by omega) (by omega) fun b102 o103 t g102 t102 => ?_
      rw [Ys] at g102
      replace g102 : m.li[j]? = some t := g102
      obtain ⟨_, _, _, _, _, _, hts0, hts1, _⟩ := li_in hV (Yb g102)
      have h1 := hP.get (show t.s.toNat < n by omega)
      have hlln := (hs.rows 3 (s := ll) (cs := To.cs) rfl (by omega)).ln
      rw [Yh] at hlln
      have hfl1 := renT_flat to m.li i
      have hfl2 := renT_le to (m.li.take j) i
      rw [Yu] at hfl2
      have hfl3 : i * m.li.length <= 200 * 200 := Nat.mul_le_mul (by omega) hll
      refine ⟨_, _, _, t102, ?_⟩
      refine hs.newput (vs := t.cs) rfl rfl fun h108 hs => ?_
      refine ⟨_, hs.rd 0 rfl (i := 0) rfl, ⟨by omega, by omega⟩, ?_⟩
      rw [show 0 + Int.toNat t.s * 1 = t.s.toNat by omega]
      refine ⟨_, hs.rd 5 rfl (natV_get h1), sBe (fun c5 => ?_) (fun c5 => ?_)⟩
      ·
       refine hs.put 0 rfl (o := 0) (vs := [.int .i64 (i : Nat)]) rfl (show 1 <= 3 by decide) fun h111 hs => ?_
       refine ⟨_, hs.rd 1 rfl (i := 5) rfl, ?_⟩
       refine ⟨_, _, _, hs.at 0 rfl (o := 0) (n := 3) rfl, ?_⟩
       refine hs.app 4 (s := ll) (n := 3) (rows := ((List.range i).flatMap (renT to m.li) ++ renT to (m.li.take j) i).map To.cs) rfl app25 (m := 1) [(To.mk (i : Nat) t.k t.e).cs] rfl rfl (fun r hr => by rw [Ye] at hr; rw [hr]; rfl) rfl (by omega) (by simp only [maxLen]; omega) fun r h118 nr hs => ?_
       refine hs.put 1 rfl (o := 5) (vs := [.slice r.a r.n r.c]) rfl (show 6 <= 6 by decide) fun h119 hs => ?_
       refine ⟨_, (show m.li.length - (j + 1) < m.li.length - j by omega), j + 1, r, by rw [w64 (by omega) (by omega)]; omega, rfl, by omega, ?_⟩
       rw [renT_yes g102 (by omega), <- Yz]
       unfold rnL
       rw [Ym (f := To.cs)]
       exact hs.drop 1
      ·
       refine ⟨_, (show m.li.length - (j + 1) < m.li.length - j by omega), j + 1, ll, by rw [w64 (by omega) (by omega)]; omega, rfl, by omega, ?_⟩
       rw [renT_no g102 (by omega)]
       exact hs.drop 1
     ·
      have hjl : j = m.li.length := by omega
      subst hjl
      rw [Yye] at hs
      refine ⟨_, (show n - (i + 1) < n - i by omega), i + 1, ll, by rw [w64 (by omega) (by omega)]; omega, rfl, by omega, ?_⟩
      rw [List.range_succ, List.flatMap_append, List.flatMap_cons, List.flatMap_nil, Yw]
      exact hs
    ·
     have hin : n = i := by omega
     subst hin
     refine ⟨_, _, _, _, _, _, hs.at 0 rfl (o := 0) (n := 6) rfl, ?_⟩
     refine hs.put 5 rfl (o := 0) (vs := [.int .i64 m.role, .int .i64 m.n, .int .i64 st, .slice ff.a ff.n ff.c, .slice mm.a mm.n mm.c, .slice ll.a ll.n ll.c]) rfl (show 6 <= 6 by decide) fun h129 hs => ?_
     refine ⟨_, _, _, _, _, _, hs.at 5 rfl (o := 0) (n := 6) rfl, ?_⟩
     have hs := hs.sub (L' := [_, _, _]) (.cons _ (.cons_cons _ (.cons_cons _ (.cons_cons _ (List.nil_sublist _)))))
     have e : renM m to = ⟨m.role, m.n, st, F, m.mv.map (renV to), (List.range n).flatMap (renT to m.li)⟩ := by
      unfold renM
      rw [<- hF, <- hst, <- hni]
     rw [e]
     exact ⟨ff, mm, ll, rfl, hs⟩
end Go.VC
end

section
/- Contracts: equal time limits, states alike, the reference's classes, its minimal machine. (Numbers of layer 26's seat.) -/
namespace Go.VC
open Go.Proofs Go.LexS Go.Maps
end Go.VC
end

section
/- Contracts: the reference's classes, its minimal machine, its forms. (Numbers of layer 26's seat.) -/
namespace Go.VC
open Go.Proofs Go.LexS Go.Maps
end Go.VC
end

section
/- Contract: the law of a machine's forms. (Numbers of layer 26's seat.) -/
namespace Go.VC
open Go.Proofs Go.LexS Go.Maps
structure SmM (m : Mch) : Prop where
 f : m.fin.length <= 1048576
 v : m.mv.length <= 1048576
 l : m.li.length <= 1048576
theorem VM.smm {m : Mch} (h : VM m) : SmM m := ⟨by have := h.n.fl; have := h.n.n; omega, by have := h.n.ml; omega, by have := li_len h.w; omega⟩
theorem mZ_sm : SmM mZ := ⟨by decide, by decide, by decide⟩
theorem canM_sm (m : Mch) : SmM (canM m) := by
 by_cases h : VM m
 ·
  rw [canM_pos h]; exact (canN_vm h).smm
 ·
  rw [canM_neg h]; exact mZ_sm
theorem minM_sm (m : Mch) : SmM (minM m) := by
 by_cases h : VM m
 ·
  rw [minM_pos h]; exact (minF_vm h).smm
 ·
  rw [minM_neg h]; exact mZ_sm
theorem St.mism {h0 h : Heap} {L : List It} {M : Mch} {f g l : Sl} (hs : St h0 h L) (k : Nat) (hS : SmM M) (a0 : L[k]? = (mL M f g l)[0]?) (a1 : L[k + 1]? = (mL M f g l)[1]?) (a2 : L[k + 2]? = (mL M f g l)[2]?) : MI h M f g l :=
 ⟨hs.rl k a0 (by omega) hS.f, hs.rl (k + 1) a1 (by omega) hS.v, hs.rl (k + 2) a2 (by omega) hS.l⟩
end Go.VC
end

section
/- The walk of the law of shortest histories. (Numbers of layer 26's seat.) -/
namespace Go.VC
open Go.Proofs Go.LexS
end Go.VC
end

section
/- The walk of the law of least machines. (Numbers of layer 26's seat.) -/
namespace Go.VC
open Go.Proofs Go.LexS Go.Maps
set_option maxHeartbeats 4000000 in
theorem minimal10 (m : Mch) (sf sm sl : Sl) (L : List Hv) (s : Sl) (N : List Nat) (ns : Sl) (h : Heap) (hM : MI h m sf sm sl) (hL : RL h 5 s Hv.cs L) (hN : Rw h 1 ns (N.map u8C)) (hNb : ∀ d ∈ N, d <= 255) (hx : Gx h) :
  Fn Pz 10 #[.agg ⟨mC m sf sm sl⟩, .slice s.a s.n s.c, .slice ns.a ns.n ns.c] h fun v h' => v = .bool true /\ Ext h h' := by
 apply vc10 m.role m.n m.s sf sm sl s ns; unfold W10
 have hLs := hL.sm
 have hnn := hN.ln
 have hsn := hL.ln
 refine (St.refl h).newb fun h7 hs => ?_
 refine (awake12 h7 (hx.ext hs.ext)).mono ?_
 rintro _ h10 ⟨rfl, E⟩
 have hs := hs.step E
 refine ⟨_, rfl, sB_f rfl ?_⟩
 refine ⟨_, _, _, sf, sm, sl, hs.at 0 rfl (o := 0) (n := 6) rfl, ?_⟩
 refine (small18 m sf sm sl h10 (hM.ext hs.ext)).mono ?_
 rintro _ h19 ⟨⟨b1, rfl, hb1⟩, E⟩
 have hs := hs.step E
 refine ⟨_, rfl, sB_intro (fun _ => ⟨rfl, hs.ext⟩) (fun c1 => ?_)⟩
 obtain ⟨hF, hV⟩ := hb1.1 (bT c1)
 refine sBi (fun _ => ⟨rfl, hs.ext⟩) (fun c2 => sBi (fun _ => ⟨rfl, hs.ext⟩) (fun c3 => ?_))
 have hn := hV.n.n
 have hms := hV.n.s
 have hfl := hV.n.fl
 refine ⟨_, _, _, sf, sm, sl, hs.at 0 rfl (o := 0) (n := 6) rfl, ?_⟩
 refine (minimize37 m sf sm sl h19 (hM.ext hs.ext)).mono ?_
 rintro _ h34 ⟨f1, g1, l1, rfl, s1⟩
 have hs := hs.join s1
 refine ⟨_, _, _, f1, g1, l1, _, rfl, ?_⟩
 refine hs.newput (vs := mC (minM m) f1 g1 l1) rfl rfl fun h36 hs => ?_
 refine ⟨_, _, _, f1, g1, l1, hs.at 0 rfl (o := 0) (n := 6) rfl, ?_⟩
 have hA : minM m = minF (srtM m) := minM_pos hV
 have hVA : VM (minM m) := by rw [hA]; exact minF_vm hV
 refine (minimize37 (minM m) f1 g1 l1 h36 (hs.mism 2 hVA.smm rfl rfl rfl)).mono ?_
 rintro _ h51 ⟨f2, g2, l2, rfl, s2⟩
 have hs := hs.join s2
 refine ⟨_, _, _, f2, g2, l2, _, rfl, ?_⟩
 refine hs.newput (vs := mC (minM (minM m)) f2 g2 l2) rfl rfl fun h53 hs => ?_
 refine ⟨_, _, _, sf, sm, sl, hs.at 2 rfl (o := 0) (n := 6) rfl, ?_⟩
 refine (canonical38 m sf sm sl h53 (hM.ext hs.ext)).mono ?_
 rintro _ h68 ⟨f3, g3, l3, rfl, s3⟩
 have hs := hs.join s3
 refine ⟨_, _, _, f3, g3, l3, _, rfl, ?_⟩
 refine hs.newput (vs := mC (canM m) f3 g3 l3) rfl rfl fun h70 hs => ?_
 refine ⟨_, _, _, sf, sm, sl, hs.at 3 rfl (o := 0) (n := 6) rfl, ?_⟩
 refine (renamed41 m sf sm sl N ns h70 (hM.ext hs.ext) hV.w (hN.ext hs.ext) hNb (by omega)).mono ?_
 rintro _ h84 ⟨f4, g4, l4, rfl, s4⟩
 have hP := swT_perm m.n.toNat (by omega) (natI N) N.length
 have hVR := ren_vm hV hP
 have hcr := canN_ren hV.w hP
 generalize hto : swT m.n.toNat (natI N) N.length = to at *
 have hs := hs.join s4
 refine ⟨_, _, _, f4, g4, l4, rfl, ?_⟩
 refine (canonical38 (renM m to) f4 g4 l4 h84 (hs.mism 13 hVR.smm rfl rfl rfl)).mono ?_
 rintro _ h93 ⟨f5, g5, l5, rfl, s5⟩
 have hs := hs.join s5
 refine ⟨_, _, _, f5, g5, l5, _, rfl, ?_⟩
 refine hs.newput (vs := mC (canM (renM m to)) f5 g5 l5) rfl rfl fun h95 hs => ?_
 have e0 : ∀ {k : Mch}, VM k -> (erM k != 0) = false := fun h => by rw [erM_pos h]; rfl
 refine sB_f (e0 hV) (sB_f (e0 hVA) (sB_f (e0 hV) (sB_f (e0 hVR) ?_)))
 refine ⟨_, _, _, f1, g1, l1, hs.at 3 rfl (o := 0) (n := 6) rfl, _, _, _, f2, g2, l2, hs.at 2 rfl (o := 0) (n := 6) rfl, ?_⟩
 refine (equal16 (minM m) (minM (minM m)) f1 g1 l1 f2 g2 l2 h95 (hs.mism 5 hVA.smm rfl rfl rfl) (hs.mism 8 (minM_sm _) rfl rfl rfl)).mono ?_
 rintro _ h110 ⟨⟨b2, rfl, hb2⟩, E⟩
 have hs := hs.step E
 refine ⟨_, rfl, sB_f (by rw [hb2.2 (by rw [minM_pos hVA, hA]; exact (minF_idem hV).symm)]; rfl) ?_⟩
 refine ⟨_, _, _, f3, g3, l3, hs.at 1 rfl (o := 0) (n := 6) rfl, _, _, _, f5, g5, l5, hs.at 0 rfl (o := 0) (n := 6) rfl, ?_⟩
 refine (equal16 (canM m) (canM (renM m to)) f3 g3 l3 f5 g5 l5 h110 (hs.mism 11 (canM_sm _) rfl rfl rfl) (hs.mism 17 (canM_sm _) rfl rfl rfl)).mono ?_
 rintro _ h125 ⟨⟨b3, rfl, hb3⟩, E⟩
 have hs := hs.step E
 refine ⟨_, rfl, sB_f (by rw [hb3.2 (by rw [canM_pos hV, canM_pos hVR]; exact hcr)]; rfl) ?_⟩
 have hle : (minM m).n <= m.n := by rw [hA]; exact minF_le hV
 refine ⟨_, hs.rd 3 rfl (i := 1) rfl, _, hs.rd 4 rfl (i := 1) rfl, sBi (fun c => absurd c (by omega)) (fun _ => ?_)⟩
 refine ⟨_, _, _, sf, sm, sl, hs.at 4 rfl (o := 0) (n := 6) rfl, ?_⟩
 refine (run14 m sf sm sl L s h125 (hM.ext hs.ext) (hL.rw.ext hs.ext) hL.sm).mono ?_
 rintro _ h138 ⟨rfl, E⟩
 have hs := hs.step E
 rw [if_pos hV]
 refine ⟨_, _, _, rfl, ?_⟩
 refine ⟨_, _, _, f1, g1, l1, hs.at 3 rfl (o := 0) (n := 6) rfl, ?_⟩
 refine (run14 (minM m) f1 g1 l1 L s h138 (hs.mism 5 hVA.smm rfl rfl rfl) (hL.rw.ext hs.ext) hL.sm).mono ?_
 rintro _ h149 ⟨rfl, E⟩
 have hs := hs.step E
 rw [if_pos hVA]
 refine ⟨_, _, _, rfl, ?_⟩
 obtain ⟨S, I⟩ := minF_sim hV
 rw [<- hA] at I
 obtain ⟨⟨a, b, hS, ha, hb⟩, h2⟩ := sim_run hV.w hVA.w I L m.s.toNat (minM m).s.toNat 0 I.s
 rw [show ((m.s.toNat : Nat) : Int) = m.s by omega] at ha h2
 have hms2 := hVA.n.s
 rw [show (((minM m).s.toNat : Nat) : Int) = (minM m).s by omega] at hb h2
 obtain ⟨hba, hbb⟩ := I.bd hS
 have hfl2 := hVA.n.fl
 have hn2 := hVA.n.n
 refine sB_t (by rw [h2]; exact beq_self_eq_true _) (sB_t (by rw [h2]; exact beq_self_eq_true _) ?_)
 rw [ha, hb]
 have hMi := hs.mism 5 hVA.smm (M := minM m) (f := f1) (g := g1) (l := l1) rfl rfl rfl
 have hfn := hM.pf.ln
 have hfn2 := hMi.pf.ln
 refine ⟨sf, hs.rd 4 rfl (i := 3) rfl, ?_⟩
 refine (hM.pf.rw.ext hs.ext).nbI (by omega) (by omega) fun b151 o152 x g1' t1 => ?_
 rw [Ys] at g1'
 replace g1' : m.fin[a]? = some x := g1'
 refine ⟨_, t1.hd, f1, hs.rd 3 rfl (i := 3) rfl, ?_⟩
 refine hMi.pf.rw.nbI (by omega) (by omega) fun b155 o156 y g2' t2 => ?_
 rw [Ys] at g2'
 replace g2' : (minM m).fin[b]? = some y := g2'
 have hxy : x = y := by
  have := I.fi hS
  rwa [getD_some g1', getD_some g2'] at this
 refine ⟨_, t2.hd, sB_t (by rw [hxy]; exact beq_self_eq_true _) ?_⟩
 refine ⟨_, _, _, sf, sm, sl, hs.at 4 rfl (o := 0) (n := 6) rfl, _, _, _, f1, g1, l1, hs.at 3 rfl (o := 0) (n := 6) rfl, ?_⟩
 refine (sends25 m sf sm sl (a : Int) h149 (hM.ext hs.ext)).mono ?_
 rintro _ h172 ⟨E1, O, hO, rfl⟩
 refine ⟨_, rfl, E1.sm, ?_⟩
 refine (sends25 (minM m) f1 g1 l1 (b : Int) h172 (hMi.ext E1)).mono ?_
 rintro _ h175 ⟨E2, P, hP2, rfl⟩
 refine ⟨_, rfl, E2.sm, ?_, hs.ext.trans (E1.trans E2)⟩
 rw [sim_snd hV hVA I hS hO hP2, beq_self_eq_true]
end Go.VC
end
