/- RjR RjVcH RjVcK QjX0 QjX QjVcH QjY QjVcI QjMa RjVcB RjF RjI RjJ RjVcE RjVcF QjVcK. -/
import Derived.Test.YtkebghjhekoecaaGreatDoorM22
import Derived.Test.YtkebghjhekoecaaGreatDoorM01
import Derived.Test.YtkebghjhekoecaaGreatDoorM02
import Derived.Test.YtkebghjhekoecaaGreatDoorProg
import Derived.KernelRfl
import Derived.Test.YtkebghjhekoecaaGreatDoorM09
import Derived.Test.YtkebghjhekoecaaGreatDoorM20
import Derived.Test.YtkebghjhekoecaaGreatDoorM15
import Derived.Test.YtkebghjhekoecaaGreatDoorM16
set_option linter.unusedVariables false
set_option linter.unusedSimpArgs false
set_option maxRecDepth 100000

section
/- Plain: what the canonical machines of classes are made of (turned from the texts of layer 25). No program here. -/
namespace Go.VC
open Go.LexS
theorem mvLt_get {l : List Mv} (hS : l.Pairwise mvLt) {i j : Nat} {x y : Mv} (hij : i < j) (hx : l[i]? = some x) (hy : l[j]? = some y) : mvLt x y := by
 obtain ⟨h1, h2⟩ := Ya.1 hx
 obtain ⟨h3, h4⟩ := Ya.1 hy
 have := List.pairwise_iff_getElem.1 hS i j h1 h3 hij
 rwa [h2, h4] at this

def itC (m : Mch) : Nat -> List Nat
 | 0 => List.replicate m.n.toNat 0
 | k + 1 => canonL (clsK m (itC m k))
theorem itC_len (m : Mch) : ∀ k, (itC m k).length = m.n.toNat
 | 0 => Yg
 | k + 1 => by rw [itC, canonL_len, clsK_len]
theorem clsN_it {m : Mch} (hO : MOk m) : ∀ (f N : Nat), 202 <= f + (if N = 0 then 0 else (dedF (itC m N)).length) -> ∃ N', N <= N' /\ (clsN m f (itC m N) (if N = 0 then 0 else (dedF (itC m N)).length)).1 = itC m (N' + 1) /\ (dedF (clsK m (itC m N'))).length = (if N' = 0 then 0 else (dedF (itC m N')).length)
 | 0, N, h => by
  have hn := hO.n
  exfalso
  split at h
  ·
   omega
  ·
   have := dedF_len_le (itC m N)
   rw [itC_len] at this
   omega
 | f + 1, N, h => by
  rw [clsN]
  have hn := hO.n
  have hge := clsK_ge (itC_len m N)
  by_cases e : (dedF (clsK m (itC m N))).length = if N = 0 then 0 else (dedF (itC m N)).length
  ·
   rw [if_pos e]
   exact ⟨N, Nat.le_refl _, rfl, e⟩
  ·
   rw [if_neg e]
   have e1 : (dedF (clsK m (itC m N))).length = if N + 1 = 0 then 0 else (dedF (itC m (N + 1))).length := by
    rw [if_neg (by omega), itC, dedF_canon]
   have hlt : (if N = 0 then 0 else (dedF (itC m N)).length) < (dedF (clsK m (itC m N))).length := by
    split at e
    ·
     rename_i h0
     subst h0
     rw [if_pos rfl]; omega
    ·
     rename_i h0
     rw [if_neg h0]; omega
   have ih := clsN_it hO f (N + 1) (by rw [<- e1]; omega)
   rw [<- e1] at ih
   obtain ⟨N', h1, h2, h3⟩ := ih
   exact ⟨N', by omega, h2, h3⟩
theorem ded_inj {K K' : Type} [DecidableEq K] [DecidableEq K'] {l : List K} {f : K -> K'} (h : (dedF (l.map f)).length = (dedF l).length) {a b : K} (ha : a ∈ l) (hb : b ∈ l) (hab : f a = f b) : a = b := by
 by_cases e : a = b
 ·
  exact e
 exfalso
 have h1 := List.Nodup.length_le_of_subset (dedF_nodup (l.map f)) (l₂ := ((dedF l).filter fun x => decide (x ≠ b)).map f) fun y hy => by
  rw [dedF_mem] at hy
  obtain ⟨x, hx, rfl⟩ := Yp.1 hy
  by_cases ex : x = b
  ·
   subst ex
   exact Yp.2 ⟨a, List.mem_filter.2 ⟨(dedF_mem _ _).2 ha, by simpa using e⟩, hab⟩
  ·
   exact Yp.2 ⟨x, List.mem_filter.2 ⟨(dedF_mem _ _).2 hx, by simpa using ex⟩, rfl⟩
 rw [Yc, h] at h1
 have h2 : ((dedF l).filter fun x => decide (x ≠ b)).length < (dedF l).length := by
  rcases Nat.lt_or_ge ((dedF l).filter fun x => decide (x ≠ b)).length (dedF l).length with h3 | h3
  ·
   exact h3
  ·
   have := List.filter_eq_self.1 ((List.filter_sublist (l := dedF l) (p := fun x => decide (x ≠ b))).eq_of_length_le h3) b ((dedF_mem _ _).2 hb)
   simp at this
 omega
theorem clsK_map {m : Mch} {C : List Nat} (hC : C.length = m.n.toNat) : C = (clsK m C).map fun k => match k.getLast? with | some s => s.b.toNat | none => 0 := by
 apply List.ext_getElem?
 intro i
 unfold clsK
 rw [List.map_map, Yd]
 by_cases hi : i < m.n.toNat
 ·
  rw [Yyb hi]
  obtain ⟨c, hc⟩ := get_some (l := C) (i := i) (by omega)
  rw [hc]
  show _ = some (match (keyS m C i).getLast? with | some s => s.b.toNat | none => 0)
  have : (keyS m C i).getLast? = some (sgB C m.fin i) := by
   unfold keyS keyH
   rw [<- Yz, List.getLast?_append]; rfl
  rw [this]
  unfold sgB
  simp [Yo, hc]
 ·
  rw [Yl (by omega), Yl (by rw [Yyd]; omega)]; rfl
theorem clsK_get {m : Mch} {C : List Nat} {i : Nat} (hi : i < m.n.toNat) : (clsK m C)[i]? = some (keyS m C i) := by unfold clsK; rw [Yd, Yyb hi]; rfl
theorem keyS_b {m : Mch} {C : List Nat} (hC : C.length = m.n.toNat) {x y : Nat} (hx : x < m.n.toNat) (hy : y < m.n.toNat) (h : keyS m C x = keyS m C y) : C[x]? = C[y]? := by
 have e := clsK_map hC
 generalize hf : (fun k : List Sg => match k.getLast? with | some s => s.b.toNat | none => 0) = f at e
 rw [e, Yd, Yd, clsK_get hx, clsK_get hy, h]
theorem cls_stable {m : Mch} (hO : MOk m) : ∃ N, (cls m).1 = itC m (N + 1) /\ (∀ x y : Nat, x < m.n.toNat -> y < m.n.toNat -> ((cls m).1[x]? = (cls m).1[y]? ↔ (itC m N)[x]? = (itC m N)[y]?)) /\ ∀ x y : Nat, x < m.n.toNat -> y < m.n.toNat -> (cls m).1[x]? = (cls m).1[y]? -> keyS m (itC m N) x = keyS m (itC m N) y := by
 have hn := hO.n
 obtain ⟨N, _, h2, h3⟩ := clsN_it hO 202 0 (by rw [if_pos rfl]; omega)
 rw [if_pos rfl] at h2
 replace h2 : (cls m).1 = itC m (N + 1) := h2
 have hpos : 0 < (dedF (clsK m (itC m N))).length := by
  have : keyS m (itC m N) 0 ∈ dedF (clsK m (itC m N)) := (dedF_mem _ _).2 (Yb (clsK_get (i := 0) (by omega)))
  exact List.length_pos_of_mem this
 have hN : N ≠ 0 := fun h => by rw [if_pos h] at h3; omega
 rw [if_neg hN] at h3
 have hmap := clsK_map (itC_len m N)
 have key : ∀ x y : Nat, x < m.n.toNat -> y < m.n.toNat -> (itC m N)[x]? = (itC m N)[y]? -> keyS m (itC m N) x = keyS m (itC m N) y := by
  intro x y hx hy h
  generalize hf : (fun k : List Sg => match k.getLast? with | some s => s.b.toNat | none => 0) = f at hmap
  refine ded_inj (l := clsK m (itC m N)) (f := f) (by rw [<- hmap]; exact h3.symm) (Yb (clsK_get hx)) (Yb (clsK_get hy)) ?_
  have h1 : ((clsK m (itC m N)).map f)[x]? = ((clsK m (itC m N)).map f)[y]? := by rw [<- hmap]; exact h
  rw [Yd, Yd, clsK_get hx, clsK_get hy] at h1
  exact Option.some.inj h1
 have hfin : ∀ x y : Nat, x < m.n.toNat -> y < m.n.toNat -> ((cls m).1[x]? = (cls m).1[y]? ↔ keyS m (itC m N) x = keyS m (itC m N) y) := by
  intro x y hx hy
  rw [h2, itC]
  exact canonL_eq (clsK_get hx) (clsK_get hy)
 refine ⟨N, h2, fun x y hx hy => ?_, fun x y hx hy h => (hfin x y hx hy).1 h⟩
 rw [hfin x y hx hy]
 exact ⟨keyS_b (itC_len m N) hx hy, key x y hx hy⟩
theorem foldl_ind {α β : Type} {f : β -> α -> β} {P : Nat -> β -> Prop} {l : List α} {b : β} (h0 : P 0 b) (hs : ∀ (j : Nat) (x : α) (st : β), l[j]? = some x -> P j st -> P (j + 1) (f st x)) : P l.length (l.foldl f b) := by
 have key : ∀ n, n <= l.length -> P n ((l.take n).foldl f b) := by
  intro n
  induction n with
  | zero => intro _; exact h0
  | succ n ih =>
   intro hn
   obtain ⟨x, hx⟩ := get_some (l := l) (i := n) (by omega)
   rw [foldl_snoc hx]
   exact hs n x _ hx (ih (by omega))
 have := key l.length (Nat.le_refl _)
 rwa [Yye] at this
def mvQ (C Q : List Nat) (i : Nat) (x : Mv) : Mv := ⟨(i : Nat), x.send, x.peer, x.label, (idxF Q (C.getD x.t.toNat 0) : Nat), x.ag⟩
def repQ (C Q : List Nat) (i : Nat) : Nat := idxF C (Q.getD i 0)
theorem mvQ_ext {C Q E : List Nat} {i : Nat} {x : Mv} (h : C.getD x.t.toNat 0 ∈ Q) : mvQ C (Q ++ E) i x = mvQ C Q i x := by unfold mvQ; rw [idxF_mem h]
theorem repQ_ext {C Q E : List Nat} {i : Nat} (h : i < Q.length) : repQ C (Q ++ E) i = repQ C Q i := by
 unfold repQ
 rw [Yo, Yo, Yyi h]
theorem addQ_ext (Q : List Nat) (c : Nat) : ∃ E, addQ Q c = Q ++ E := by
 unfold addQ; split
 ·
  exact ⟨[], by simp⟩
 ·
  exact ⟨[c], rfl⟩
def LimOf (r : Mch) (C Q : List Nat) (mv : List Mv) (t : To) (i : Nat) (x : Mv) : Prop := t.s = (i : Int) /\ x ∈ outM r (repQ C Q i) /\ 0 <= t.e /\ mv[t.e.toNat]? = some (mvQ C Q i x) /\ ∃ t0 y, mget (limM r.li) (repQ C Q i : Nat) = some t0 /\ r.mv[t0.e.toNat]? = some y /\ t.k = t0.k /\ x.ev = y.ev
structure CanI (r : Mch) (C : List Nat) (cnt hd : Nat) (Q : List Nat) (fin : List Bool) (mv : List Mv) (li : List To) : Prop where
 pq : QOk Q cnt
 ph : hd <= Q.length
 pf : fin = (List.range hd).map fun i => r.fin.getD (repQ C Q i) false
 pm : mv = (List.range hd).flatMap fun i => (outM r (repQ C Q i)).map (mvQ C Q i)
 pt : ∀ i, i < hd -> ∀ x ∈ outM r (repQ C Q i), C.getD x.t.toNat 0 ∈ Q
 p1 : ∀ t ∈ li, ∃ i x, i < hd /\ LimOf r C Q mv t i x
 p2 : ∀ i, i < hd -> ∀ t0 y, mget (limM r.li) (repQ C Q i : Nat) = some t0 -> r.mv[t0.e.toNat]? = some y -> (∃ x ∈ outM r (repQ C Q i), x.ev = y.ev) -> ∃ t ∈ li, t.s = (i : Int)
structure RowI (r : Mch) (C : List Nat) (cnt hd : Nat) (Q : List Nat) (mv : List Mv) (li : List To) (j : Nat) (st : List Nat × List Mv × List To) : Prop where
 pe : ∃ E, st.1 = Q ++ E
 pq : QOk st.1 cnt
 pt : ∀ x ∈ (outM r (repQ C Q hd)).take j, C.getD x.t.toNat 0 ∈ st.1
 pm : st.2.1 = mv ++ ((outM r (repQ C Q hd)).take j).map (mvQ C st.1 hd)
 p1 : ∀ t ∈ st.2.2, t ∈ li \/ ∃ x ∈ (outM r (repQ C Q hd)).take j, LimOf r C st.1 st.2.1 t hd x
 p0 : ∀ t ∈ li, t ∈ st.2.2
 p2 : ∀ t0 y, mget (limM r.li) (repQ C Q hd : Nat) = some t0 -> r.mv[t0.e.toNat]? = some y -> (∃ x ∈ (outM r (repQ C Q hd)).take j, x.ev = y.ev) -> ∃ t ∈ st.2.2, t.s = (hd : Int)
theorem LimOf.ext {r : Mch} {C Q E : List Nat} {mv mv' : List Mv} {t : To} {i : Nat} {x : Mv} (h : LimOf r C Q mv t i x) (hi : i < Q.length) (hx : C.getD x.t.toNat 0 ∈ Q) (hm : mv' = mv ++ mv'.drop mv.length) : LimOf r C (Q ++ E) mv' t i x := by
 obtain ⟨h1, h2, h3, h4, t0, y, h5, h6, h7, h8⟩ := h
 have hr := repQ_ext (C := C) (E := E) hi
 refine ⟨h1, by rw [hr]; exact h2, h3, ?_, t0, y, by rw [hr]; exact h5, h6, h7, h8⟩
 rw [hm, Yyi (Ya.1 h4).1, h4, mvQ_ext hx]
theorem row_step {r : Mch} {C : List Nat} {cnt hd : Nat} {Q : List Nat} {mv : List Mv} {li : List To} (hO : MOk r) (hCl : C.length = r.n.toNat) (hCb : ∀ c ∈ C, c < cnt) (hhd : hd < Q.length) {j : Nat} {x : Mv} {st : List Nat × List Mv × List To} (hx : (outM r (repQ C Q hd))[j]? = some x) (h : RowI r C cnt hd Q mv li j st) :
  RowI r C cnt hd Q mv li (j + 1) (minX r C hd (mget (limM r.li) (repQ C Q hd : Nat)) st x) := by
 have hxm : x ∈ outM r (repQ C Q hd) := Yb hx
 have hxr : x ∈ r.mv := (List.mem_filter.1 hxm).1
 have hxo := hO.mv x hxr
 obtain ⟨cx, hcx⟩ := get_some (l := C) (i := x.t.toNat) (by omega)
 have hcg : C.getD x.t.toNat 0 = cx := getD_some hcx
 have hcb := hCb cx (Yb hcx)
 obtain ⟨E, hE⟩ := h.pe
 obtain ⟨E2, hE2⟩ := addQ_ext st.1 cx
 have hlt : hd < st.1.length := by rw [hE, Yh]; omega
 have hm1 : (minX r C hd (mget (limM r.li) (repQ C Q hd : Nat)) st x).1 = st.1 ++ E2 := by unfold minX; rw [hcg]; exact hE2
 have hm2 : (minX r C hd (mget (limM r.li) (repQ C Q hd : Nat)) st x).2.1 = st.2.1 ++ [mvQ C (st.1 ++ E2) hd x] := by unfold minX mvQ; rw [hcg, hE2]
 have htk : (outM r (repQ C Q hd)).take (j + 1) = (outM r (repQ C Q hd)).take j ++ [x] := take_snoc hx
 have hin : cx ∈ st.1 ++ E2 := by rw [<- hE2]; exact addQ_mem
 have hrep : repQ C (st.1 ++ E2) hd = repQ C Q hd := by rw [repQ_ext hlt, hE, repQ_ext hhd]
 have hrep1 : repQ C st.1 hd = repQ C Q hd := by rw [hE, repQ_ext hhd]
 have hdrop : (minX r C hd (mget (limM r.li) (repQ C Q hd : Nat)) st x).2.1 = st.2.1 ++ ((minX r C hd (mget (limM r.li) (repQ C Q hd : Nat)) st x).2.1).drop st.2.1.length := by rw [hm2, List.drop_append_of_le_length (Nat.le_refl _), List.drop_length, List.nil_append]
 have hnew : (st.2.1 ++ [mvQ C (st.1 ++ E2) hd x])[st.2.1.length]? = some (mvQ C (st.1 ++ E2) hd x) := by rw [Yyc (Nat.le_refl _), Nat.sub_self]; rfl
 refine ⟨⟨E ++ E2, by rw [hm1, hE, Yz]⟩, by rw [hm1, <- hE2]; exact h.pq.add hcb, fun y hy => ?_, ?_, fun t ht => ?_, fun t ht => ?_, fun t0 y h1 h2 h3 => ?_⟩
 ·
  rw [htk, Yk, Ye] at hy
  rw [hm1]
  rcases hy with hy | rfl
  ·
   exact Yk.2 (.inl (h.pt y hy))
  ·
   rw [hcg]; exact hin
 ·
  rw [hm1, hm2, h.pm, htk, Ym, Yz]
  congr 1
  congr 1
  apply List.map_congr_left
  intro y hy
  exact (mvQ_ext (h.pt y hy)).symm
 ·
  unfold minX at ht
  rcases Yk.1 ht with ht | ht
  ·
   rcases h.p1 t ht with h4 | ⟨x', hx'm, h4⟩
   ·
    exact .inl h4
   ·
    refine .inr ⟨x', by rw [htk]; exact Yk.2 (.inl hx'm), ?_⟩
    rw [hm1]
    exact h4.ext hlt (h.pt x' hx'm) hdrop
  ·
   split at ht
   ·
    cases ht
   ·
    rename_i t0 h0
    split at ht
    ·
     rename_i y hy
     split at ht
     ·
      rename_i hev
      rw [Ye] at ht
      subst ht
      refine .inr ⟨x, by rw [htk]; exact Yk.2 (.inr (Ye.2 rfl)), ?_⟩
      rw [hm1, hm2]
      refine ⟨rfl, by rw [hrep]; exact hxm, by show 0 <= ((st.2.1.length : Nat) : Int); omega, ?_, t0, y, by rw [hrep]; exact h0, hy, rfl, hev⟩
      show (st.2.1 ++ _)[((st.2.1.length : Nat) : Int).toNat]? = _
      rw [Ys]; exact hnew
     ·
      cases ht
    ·
     cases ht
 ·
  unfold minX
  exact Yk.2 (.inl (h.p0 t ht))
 ·
  rw [htk] at h3
  obtain ⟨x', hx', hev⟩ := h3
  rw [Yk, Ye] at hx'
  rcases hx' with hx' | rfl
  ·
   obtain ⟨t, ht, hts⟩ := h.p2 t0 y h1 h2 ⟨x', hx', hev⟩
   exact ⟨t, by unfold minX; exact Yk.2 (.inl ht), hts⟩
  ·
   refine ⟨⟨(hd : Nat), t0.k, (st.2.1.length : Nat)⟩, ?_, rfl⟩
   unfold minX
   rw [h1]
   simp only [h2]
   rw [if_pos hev]
   exact Yk.2 (.inr (Ye.2 rfl))
theorem flatMap_congr' {α β : Type} {f g : α -> List β} : ∀ {l : List α}, (∀ x ∈ l, f x = g x) -> l.flatMap f = l.flatMap g
 | [], _ => rfl
 | a :: l, h => by rw [List.flatMap_cons, List.flatMap_cons, h a (Yx ..), flatMap_congr' fun x hx => h x (Yn _ hx)]
theorem can_step {r : Mch} {C : List Nat} {cnt hd : Nat} {Q : List Nat} {fin : List Bool} {mv : List Mv} {li : List To} (hO : MOk r) (hCl : C.length = r.n.toNat) (hCb : ∀ c ∈ C, c < cnt) (hhd : hd < Q.length) (h : CanI r C cnt hd Q fin mv li) :
  CanI r C cnt (hd + 1) ((outM r (repQ C Q hd)).foldl (minX r C hd (mget (limM r.li) (repQ C Q hd : Nat))) (Q, mv, li)).1 (fin ++ [r.fin.getD (repQ C Q hd) false]) ((outM r (repQ C Q hd)).foldl (minX r C hd (mget (limM r.li) (repQ C Q hd : Nat))) (Q, mv, li)).2.1 ((outM r (repQ C Q hd)).foldl (minX r C hd (mget (limM r.li) (repQ C Q hd : Nat))) (Q, mv, li)).2.2 := by
 have key := foldl_ind (f := minX r C hd (mget (limM r.li) (repQ C Q hd : Nat))) (l := outM r (repQ C Q hd)) (b := (Q, mv, li)) (P := RowI r C cnt hd Q mv li)
  ⟨⟨[], by simp⟩, h.pq, fun x hx => (by rw [Yyk] at hx; cases hx), by rw [Yyk, List.map_nil, Yw], fun t ht => .inl ht, fun t ht => ht, fun t0 y _ _ h3 => (by obtain ⟨x, hx, _⟩ := h3; rw [Yyk] at hx; cases hx)⟩
  (fun j x st hx hr => row_step hO hCl hCb hhd hx hr)
 generalize (outM r (repQ C Q hd)).foldl (minX r C hd (mget (limM r.li) (repQ C Q hd : Nat))) (Q, mv, li) = st at *
 obtain ⟨⟨E, hE⟩, kq, kt, km, k1, k0, k2⟩ := key
 rw [Yye] at kt km k2
 have hrep : ∀ i, i < Q.length -> repQ C st.1 i = repQ C Q i := fun i hi => by rw [hE, repQ_ext hi]
 have hph := h.ph
 refine ⟨kq, by rw [hE, Yh]; omega, ?_, ?_, fun i hi x hx => ?_, fun t ht => ?_, fun i hi t0 y h1 h2 h3 => ?_⟩
 ·
  rw [List.range_succ, Ym, h.pf]
  congr 1
  ·
   apply List.map_congr_left
   intro i hi
   have := List.mem_range.1 hi
   rw [hrep i (by omega)]
  ·
   show _ = [r.fin.getD (repQ C st.1 hd) false]
   rw [hrep hd hhd]
 ·
  rw [List.range_succ, List.flatMap_append, km, h.pm]
  congr 1
  ·
   refine flatMap_congr' fun i hi => ?_
   have hi := List.mem_range.1 hi
   rw [hrep i (by omega)]
   apply List.map_congr_left
   intro x hx
   rw [hE, mvQ_ext (h.pt i hi x hx)]
  ·
   rw [List.flatMap_singleton, hrep hd hhd]
 ·
  by_cases e : i = hd
  ·
   subst e; rw [hrep i hhd] at hx; exact kt x hx
  ·
   rw [hrep i (by omega)] at hx
   rw [hE]
   exact Yk.2 (.inl (h.pt i (by omega) x hx))
 ·
  rcases k1 t ht with h4 | ⟨x, hx, h4⟩
  ·
   obtain ⟨i, x, hi, h5⟩ := h.p1 t h4
   refine ⟨i, x, by omega, ?_⟩
   rw [hE]
   refine h5.ext (by omega) (h.pt i hi x h5.2.1) ?_
   rw [km, List.drop_append_of_le_length (Nat.le_refl _), List.drop_length, List.nil_append]
  ·
   exact ⟨hd, x, by omega, h4⟩
 ·
  by_cases e : i = hd
  ·
   subst e
   rw [hrep i hhd] at h1 h3
   exact k2 t0 y h1 h2 h3
  ·
   rw [hrep i (by omega)] at h1 h3
   obtain ⟨t, ht, hts⟩ := h.p2 i (by omega) t0 y h1 h2 h3
   exact ⟨t, k0 t ht, hts⟩
theorem minN_can {r : Mch} {C : List Nat} {cnt : Nat} (hO : MOk r) (hCl : C.length = r.n.toNat) (hCb : ∀ c ∈ C, c < cnt) : ∀ (f hd : Nat) (Q : List Nat) (fin : List Bool) (mv : List Mv) (li : List To), cnt < f + hd -> CanI r C cnt hd Q fin mv li ->
  ∃ Q', (minN r C f hd Q fin mv li).n = (Q'.length : Nat) /\ (minN r C f hd Q fin mv li).s = 0 /\ CanI r C cnt Q'.length Q' (minN r C f hd Q fin mv li).fin (minN r C f hd Q fin mv li).mv (minN r C f hd Q fin mv li).li /\ ∃ E, Q' = Q ++ E
 | 0, hd, Q, fin, mv, li, hf, h => by
  exfalso
  have := h.ph
  have := h.pq.le
  omega
 | f + 1, hd, Q, fin, mv, li, hf, h => by
  rw [minN]
  cases hq : Q[hd]? with
  | none =>
   have : hd = Q.length := by have := List.getElem?_eq_none_iff.1 hq; have := h.ph; omega
   subst this
   exact ⟨Q, rfl, rfl, h, [], by simp⟩
  | some c =>
   have hhd := (Ya.1 hq).1
   have hrep : repQ C Q hd = idxF C c := by unfold repQ; rw [getD_some hq]
   have hst := can_step hO hCl hCb hhd h
   rw [hrep] at hst
   have hE : ∃ E, ((outM r (idxF C c)).foldl (minX r C hd (mget (limM r.li) (idxF C c : Nat))) (Q, mv, li)).1 = Q ++ E := by
    suffices hh : ∀ (l : List Mv) (st : List Nat × List Mv × List To), ∃ E, (l.foldl (minX r C hd (mget (limM r.li) (idxF C c : Nat))) st).1 = st.1 ++ E from hh _ _
    intro l
    induction l with
    | nil => intro st; exact ⟨[], by simp⟩
    | cons a l ih =>
     intro st
     rw [List.foldl_cons]
     obtain ⟨E1, h1⟩ := ih (minX r C hd (mget (limM r.li) (idxF C c : Nat)) st a)
     obtain ⟨E2, h2⟩ := addQ_ext st.1 (C.getD a.t.toNat 0)
     refine ⟨E2 ++ E1, ?_⟩
     rw [h1]
     show addQ st.1 (C.getD a.t.toNat 0) ++ E1 = _
     rw [h2, Yz]
   obtain ⟨Q', h1, h2, h3, E', h4⟩ := minN_can hO hCl hCb f (hd + 1) _ _ _ _ (by omega) hst
   obtain ⟨E, hE⟩ := hE
   exact ⟨Q', h1, h2, h3, E ++ E', by rw [h4, hE, Yz]⟩
theorem mget_mset {α β : Type} [DecidableEq α] (a : α) (b : β) (s : α) : ∀ l : List (α × β), mget (mset l a b) s = if a = s then some b else mget l s
 | [] => rfl
 | (x, y) :: r => by
  rw [mset]
  split
  ·
   rename_i e
   subst e
   rw [mget, mget]
   split <;> rfl
  ·
   rename_i e
   rw [mget, mget, mget_mset a b s r]
   by_cases h : x = s
   ·
    rw [if_pos h, if_pos h, if_neg (fun h2 => e (h.trans h2.symm))]
   ·
    rw [if_neg h, if_neg h]
theorem limM_get (li : List To) (s : Int) : mget (limM li) s = (li.filter fun t => t.s = s).getLast? := by
 have key : ∀ n, n <= li.length -> mget (limM (li.take n)) s = ((li.take n).filter fun t => t.s = s).getLast? := by
  intro n
  induction n with
  | zero => intro _; rfl
  | succ n ih =>
   intro hn
   obtain ⟨t, ht⟩ := get_some (l := li) (i := n) (by omega)
   rw [limM_snoc ht, mget_mset, take_snoc ht, List.filter_append, ih (by omega)]
   by_cases e : t.s = s
   ·
    rw [if_pos e, List.filter_cons_of_pos (by simpa using e)]; simp
   ·
    rw [if_neg e, List.filter_cons_of_neg (by simpa using e)]; simp
 have := key li.length (Nat.le_refl _)
 rwa [Yye] at this
structure MRaw (r : Mch) : Prop where
 ok : MOk r
 so : r.mv.Pairwise mvLt
 l1 : ∀ t ∈ r.li, ∃ y, r.mv[t.e.toNat]? = some y /\ y.f = t.s
 l2 : (r.li.map (·.s)).Nodup
theorem flat_filter {rows : Nat -> List Mv} (h : ∀ k, ∀ y ∈ rows k, y.f = (k : Int)) (i : Nat) : ∀ n, ((List.range n).flatMap rows).filter (fun y => y.f = (i : Int)) = if i < n then rows i else []
 | 0 => rfl
 | n + 1 => by
  rw [List.range_succ, List.flatMap_append, List.filter_append, flat_filter h i n, List.flatMap_singleton]
  by_cases e : i = n
  ·
   subst e
   rw [if_neg (by omega), if_pos (by omega), List.nil_append, List.filter_eq_self.2 fun y hy => by simpa using h i y hy]
  ·
   have : (rows n).filter (fun y => y.f = (i : Int)) = [] := by
    rw [List.filter_eq_nil_iff]
    intro y hy
    have := h n y hy
    simp only [decide_eq_true_eq]
    omega
   rw [this, Yw]
   by_cases e2 : i < n
   ·
    rw [if_pos e2, if_pos (by omega)]
   ·
    rw [if_neg e2, if_neg (by omega)]
theorem filter_k {l : List Sg} {k : Int} (h : ∀ s ∈ l, s.k = k) (k' : Int) : l.filter (fun s => s.k = k') = if k = k' then l else [] := by
 by_cases e : k = k'
 ·
  rw [if_pos e, List.filter_eq_self]
  intro s hs; have := h s hs; simp [this, e]
 ·
  rw [if_neg e, List.filter_eq_nil_iff]
  intro s hs; have := h s hs; simp [this, e]
theorem keyS_parts {m : Mch} {D D' : List Nat} {x y : Nat} (h : keyS m D x = keyS m D' y) : (outM m x).map (sgM D) = (outM m y).map (sgM D') /\ ((m.li.filter fun t => t.s = (x : Int)).map (sgL m.mv)) = ((m.li.filter fun t => t.s = (y : Int)).map (sgL m.mv)) /\ sgB D m.fin x = sgB D' m.fin y := by
 have h2 : ∀ (D : List Nat) (x : Nat), ∀ s ∈ ((m.mv.filter fun y => y.f = (x : Int)).map (sgM D)).reverse, s.k = 2 := fun D x s hs => by
  rw [List.mem_reverse] at hs; obtain ⟨_, _, rfl⟩ := Yp.1 hs; rfl
 have h1 : ∀ (x : Nat), ∀ s ∈ ((m.li.filter fun t => t.s = (x : Int)).map (sgL m.mv)).reverse, s.k = 1 := fun x s hs => by
  rw [List.mem_reverse] at hs; obtain ⟨_, _, rfl⟩ := Yp.1 hs; rfl
 have h0 : ∀ (D : List Nat) (x : Nat), ∀ s ∈ [sgB D m.fin x], s.k = 0 := fun D x s hs => by
  rw [Ye] at hs; subst hs; rfl
 have cut : ∀ (D : List Nat) (x : Nat) (k : Int), (keyS m D x).filter (fun s => s.k = k) = (if (2 : Int) = k then ((m.mv.filter fun y => y.f = (x : Int)).map (sgM D)).reverse else []) ++ ((if (1 : Int) = k then ((m.li.filter fun t => t.s = (x : Int)).map (sgL m.mv)).reverse else []) ++ (if (0 : Int) = k then [sgB D m.fin x] else [])) := by
  intro D x k
  unfold keyS keyH
  rw [List.filter_append, List.filter_append, filter_k (h2 D x), filter_k (h1 x), filter_k (h0 D x)]
 refine ⟨?_, ?_, ?_⟩
 ·
  have := congrArg (List.filter fun s => s.k = (2 : Int)) h
  rw [cut, cut] at this
  simpa [outM] using this
 ·
  have := congrArg (List.filter fun s => s.k = (1 : Int)) h
  rw [cut, cut] at this
  simpa using this
 ·
  have := congrArg (List.filter fun s => s.k = (0 : Int)) h
  rw [cut, cut] at this
  simpa using this
theorem keyS_mk {m : Mch} {D : List Nat} {x y : Nat} (h1 : (outM m x).map (sgM D) = (outM m y).map (sgM D)) (h2 : ((m.li.filter fun t => t.s = (x : Int)).map (sgL m.mv)) = ((m.li.filter fun t => t.s = (y : Int)).map (sgL m.mv))) (h3 : sgB D m.fin x = sgB D m.fin y) : keyS m D x = keyS m D y := by
 unfold keyS keyH
 unfold outM at h1
 rw [h1, h2, h3]
theorem outM_sorted {r : Mch} (hS : r.mv.Pairwise mvLt) (s : Nat) : (outM r s).Pairwise mvLt := hS.filter _
theorem outM_f {r : Mch} {s : Nat} {x : Mv} (h : x ∈ outM r s) : x ∈ r.mv /\ x.f = (s : Int) := by
 unfold outM at h
 rw [List.mem_filter] at h
 exact ⟨h.1, by simpa using h.2⟩
theorem outM_inj {r : Mch} (hS : r.mv.Pairwise mvLt) {s : Nat} {x y : Mv} (hx : x ∈ outM r s) (hy : y ∈ outM r s) (h : x.ev = y.ev) : x = y := by
 obtain ⟨i, hi⟩ := Yf.1 hx
 obtain ⟨j, hj⟩ := Yf.1 hy
 have hs := outM_sorted hS s
 have fx := (outM_f hx).2
 have fy := (outM_f hy).2
 have irr : ∀ {a b : Mv}, a.f = (s : Int) -> b.f = (s : Int) -> a.ev = b.ev -> ¬ mvLt a b := fun ha hb he h => by
  rcases h with h | ⟨_, h⟩
  ·
   omega
  ·
   rw [he] at h; exact evLt_irr _ h
 rcases Nat.lt_trichotomy i j with h1 | h1 | h1
 ·
  exact absurd (mvLt_get hs h1 hi hj) (irr fx fy h)
 ·
  subst h1; rw [hi] at hj; exact Option.some.inj hj
 ·
  exact absurd (mvLt_get hs h1 hj hi) (irr fy fx h.symm)
theorem can_row {r : Mch} {C : List Nat} {cnt : Nat} {Q : List Nat} {fin : List Bool} {mv : List Mv} {li : List To} (h : CanI r C cnt Q.length Q fin mv li) {i : Nat} (hi : i < Q.length) : mv.filter (fun y => y.f = (i : Int)) = (outM r (repQ C Q i)).map (mvQ C Q i) := by
 rw [h.pm, flat_filter (fun k y hy => by obtain ⟨x, _, rfl⟩ := Yp.1 hy; rfl) i, if_pos hi]
def nxL (l : List Mv) : Int := l.foldl (fun n x => if x.t = n then n + 1 else n) 1
theorem nxL_snoc (l : List Mv) (x : Mv) : nxL (l ++ [x]) = if x.t = nxL l then nxL l + 1 else nxL l := by unfold nxL; rw [List.foldl_append]; rfl
structure NumI (mv : List Mv) (Q : List Nat) : Prop where
 a : ∀ (i : Nat) x, mv[i]? = some x -> x.t <= nxL (mv.take i) /\ x.f < nxL (mv.take i)
 b : nxL mv = (Q.length : Int)
theorem NumI.push {mv : List Mv} {Q : List Nat} (h : NumI mv Q) {hd : Nat} (hhd : hd < Q.length) (c : Nat) {x : Mv} (hf : x.f = (hd : Int)) (ht : x.t = (idxF (addQ Q c) c : Nat)) : NumI (mv ++ [x]) (addQ Q c) := by
 have hb := h.b
 by_cases hc : c ∈ Q
 ·
  have e : addQ Q c = Q := by unfold addQ; rw [if_pos hc]
  rw [e] at ht ⊢
  have hlt := idxF_lt hc
  refine ⟨fun i y hy => ?_, by rw [nxL_snoc, if_neg (by omega)]; exact hb⟩
  by_cases hi : i < mv.length
  ·
   rw [Yyi hi] at hy
   rw [List.take_append_of_le_length (by omega)]
   exact h.a i y hy
  ·
   have hil := (Ya.1 hy).1
   rw [Yh, Yv] at hil
   have : i = mv.length := by omega
   subst this
   rw [Yyc (Nat.le_refl _), Nat.sub_self] at hy
   cases hy
   rw [List.take_append_of_le_length (Nat.le_refl _), Yye, hb]
   omega
 ·
  have e : addQ Q c = Q ++ [c] := by unfold addQ; rw [if_neg hc]
  have hidx : idxF (Q ++ [c]) c = Q.length := by
   clear h hb e ht hhd
   induction Q with
   | nil => simp [idxF]
   | cons q Q ih =>
    rw [List.cons_append, idxF, if_neg (fun e => hc (by rw [e]; exact Yx ..)), ih (fun hm => hc (Yn _ hm)), Yyj]
  rw [e, hidx] at ht
  rw [e]
  refine ⟨fun i y hy => ?_, by rw [nxL_snoc, if_pos (by omega), Yh, Yv]; omega⟩
  by_cases hi : i < mv.length
  ·
   rw [Yyi hi] at hy
   rw [List.take_append_of_le_length (by omega)]
   exact h.a i y hy
  ·
   have hil := (Ya.1 hy).1
   rw [Yh, Yv] at hil
   have : i = mv.length := by omega
   subst this
   rw [Yyc (Nat.le_refl _), Nat.sub_self] at hy
   cases hy
   rw [List.take_append_of_le_length (Nat.le_refl _), Yye, hb]
   omega
structure LiI (hd : Nat) (li : List To) : Prop where
 a : li.Pairwise fun a b => a.s < b.s
 b : ∀ t ∈ li, t.s < (hd : Int)
theorem LiI.push {hd : Nat} {li : List To} (h : LiI hd li) {t : To} (ht : t.s = (hd : Int)) : LiI (hd + 1) (li ++ [t]) := by
 refine ⟨List.pairwise_append.2 ⟨h.a, List.pairwise_singleton _ _, fun a ha b hb => ?_⟩, fun x hx => ?_⟩
 ·
  rw [Ye] at hb; subst hb; have := h.b a ha; omega
 ·
  rcases Yk.1 hx with hx | hx
  ·
   have := h.b x hx; omega
  ·
   rw [Ye] at hx; subst hx; omega
theorem LiI.next {hd : Nat} {li : List To} (h : LiI hd li) : LiI (hd + 1) li := ⟨h.a, fun t ht => by have := h.b t ht; omega⟩
theorem row_num {r : Mch} {C : List Nat} {hd s : Nat} {Q : List Nat} {mv : List Mv} {li : List To} (hS : r.mv.Pairwise mvLt) (hhd : hd < Q.length) (tl : Option To) (hN : NumI mv Q) (hL : LiI hd li) :
  NumI ((outM r s).foldl (minX r C hd tl) (Q, mv, li)).2.1 ((outM r s).foldl (minX r C hd tl) (Q, mv, li)).1 /\ LiI (hd + 1) ((outM r s).foldl (minX r C hd tl) (Q, mv, li)).2.2 /\ Q.length <= ((outM r s).foldl (minX r C hd tl) (Q, mv, li)).1.length := by
 have hso := outM_sorted hS s
 have key := foldl_ind (f := minX r C hd tl) (l := outM r s) (b := (Q, mv, li)) (P := fun j st => NumI st.2.1 st.1 /\ Q.length <= st.1.length /\ (st.2.2 = li \/ ∃ t t0 y, st.2.2 = li ++ [t] /\ t.s = (hd : Int) /\ tl = some t0 /\ r.mv[t0.e.toNat]? = some y /\ ∃ (k : Nat) (x : Mv), k < j /\ (outM r s)[k]? = some x /\ x.ev = y.ev))
  ⟨hN, Nat.le_refl _, .inl rfl⟩ (fun j x st hx ⟨h1, h2, h3⟩ => by
   refine ⟨?_, ?_, ?_⟩
   ·
    exact h1.push (by omega) _ rfl rfl
   ·
    obtain ⟨E, hE⟩ := addQ_ext st.1 (C.getD x.t.toNat 0)
    show Q.length <= (addQ st.1 (C.getD x.t.toNat 0)).length
    rw [hE, Yh]; omega
   ·
    show st.2.2 ++ _ = li \/ ∃ t t0 y, st.2.2 ++ _ = li ++ [t] /\ _
    cases htl : tl with
    | none =>
     simp only [Yw]
     rw [htl] at h3
     rcases h3 with h3 | ⟨t, t0, y, _, _, h6, _⟩
     ·
      exact .inl h3
     ·
      cases h6
    | some t0 =>
     rw [htl] at h3
     cases hy : r.mv[t0.e.toNat]? with
     | none =>
      simp only [hy, Yw]
      rcases h3 with h3 | ⟨t, t0', y, _, _, h6, h7, _⟩
      ·
       exact .inl h3
      ·
       cases h6; rw [hy] at h7; cases h7
     | some y =>
      simp only [hy]
      by_cases he : x.ev = y.ev
      ·
       rw [if_pos he]
       rcases h3 with h3 | ⟨t, t0', y', _, _, h6, h7, k, x', hk, hx', he'⟩
       ·
        exact .inr ⟨_, t0, y, by rw [h3], rfl, rfl, hy, j, x, by omega, hx, he⟩
       ·
        cases h6
        rw [hy] at h7; cases h7
        exfalso
        have hlt := mvLt_get hso hk hx' hx
        have f1 := (outM_f (Yb hx')).2
        have f2 := (outM_f (Yb hx)).2
        rcases hlt with h | ⟨_, h⟩
        ·
         omega
        ·
         rw [he', he] at h; exact evLt_irr _ h
      ·
       rw [if_neg he, Yw]
       rcases h3 with h3 | ⟨t, t0', y', h4, h5, h6, h7, k, x', hk, hx', he'⟩
       ·
        exact .inl h3
       ·
        exact .inr ⟨t, t0', y', h4, h5, h6, h7, k, x', by omega, hx', he'⟩)
 generalize (outM r s).foldl (minX r C hd tl) (Q, mv, li) = st at *
 obtain ⟨h1, h2, h3⟩ := key
 refine ⟨h1, ?_, h2⟩
 rcases h3 with h3 | ⟨t, _, _, h3, h4, _⟩
 ·
  rw [h3]; exact hL.next
 ·
  rw [h3]; exact hL.push h4
theorem minN_num {r : Mch} {C : List Nat} (hS : r.mv.Pairwise mvLt) : ∀ (f hd : Nat) (Q : List Nat) (fin : List Bool) (mv : List Mv) (li : List To), hd <= Q.length -> NumI mv Q -> LiI hd li ->
  nxL (minN r C f hd Q fin mv li).mv = (minN r C f hd Q fin mv li).n /\ (∀ (i : Nat) x, (minN r C f hd Q fin mv li).mv[i]? = some x -> x.t <= nxL ((minN r C f hd Q fin mv li).mv.take i) /\ x.f < nxL ((minN r C f hd Q fin mv li).mv.take i)) /\ (minN r C f hd Q fin mv li).li.Pairwise (fun a b => a.s < b.s) /\ (minN r C f hd Q fin mv li).role = r.role
 | 0, hd, Q, fin, mv, li, _, hN, hL => ⟨hN.b, hN.a, hL.a, rfl⟩
 | f + 1, hd, Q, fin, mv, li, hq, hN, hL => by
  rw [minN]
  cases hc : Q[hd]? with
  | none => exact ⟨hN.b, hN.a, hL.a, rfl⟩
  | some c =>
   have hhd := (Ya.1 hc).1
   obtain ⟨h1, h2, h3⟩ := row_num (C := C) (s := idxF C c) hS hhd (mget (limM r.li) (idxF C c : Nat)) hN hL
   exact minN_num hS f (hd + 1) _ _ _ _ (by omega) h1 h2
end Go.VC
end

section
namespace Go.VC
open Go.Proofs

end Go.VC
end

section
namespace Go.VC
open Go.Proofs

end Go.VC
end

section
/- The view table and the raw machine, computed with sets of states al lists. No program here. -/
namespace Go.VC

def setOf (L : List Nat) : PSet := fun j => decide (j ∈ L)
def Can (n : Nat) (L : List Nat) : Prop := L = (List.range n).filter fun j => decide (j ∈ L)
theorem Can.mk (n : Nat) (p : Nat -> Bool) : Can n ((List.range n).filter p) := by
 unfold Can
 apply List.filter_congr
 intro x hx
 by_cases hm : x ∈ (List.range n).filter p
 ·
  rw [decide_eq_true hm]; exact (List.mem_filter.1 hm).2
 ·
  rw [decide_eq_false hm]
  cases hp : p x
  ·
   rfl
  ·
   exact absurd (List.mem_filter.2 ⟨hx, hp⟩) hm
theorem Can.lt {n : Nat} {L : List Nat} (h : Can n L) : ∀ j ∈ L, j < n := by
 intro j hj
 rw [h, List.mem_filter, List.mem_range] at hj
 exact hj.1
theorem setOf_inj {n : Nat} {L L' : List Nat} (h : Can n L) (h' : Can n L') : setOf L = setOf L' ↔ L = L' := by
 constructor
 ·
  intro e
  rw [h, h']
  congr 1
 ·
  intro e; rw [e]
theorem elems_setOf {n : Nat} {L : List Nat} (h : Can n L) (hn : n <= 4096) : elems (setOf L) = L := by
 unfold elems
 have e : List.range 4096 = List.range n ++ (List.range (4096 - n)).map (n + ·) := by rw [<- List.range_add]; congr 1; omega
 rw [e, List.filter_append]
 have e2 : ((List.range (4096 - n)).map (n + ·)).filter (setOf L) = [] := by
  rw [List.filter_eq_nil_iff]
  intro x hx
  obtain ⟨y, _, rfl⟩ := Yp.1 hx
  unfold setOf
  simp only [decide_eq_true_eq]
  intro hm
  have := h.lt _ hm
  omega
 rw [e2, Yw]
 exact h.symm
def evsC (es : List Ed) (role : Int) (L : List Nat) : List Ev := sortE (L.flatMap fun n => (visL es role n).map (·.x))
def toC (es : List Ed) (role : Int) (L : List Nat) (x : Ev) : List Int := L.flatMap fun n => (visL es role n).filterMap fun a => if a.x = x then some a.to else none
theorem evs_setOf {n : Nat} {L : List Nat} (h : Can n L) (hn : n <= 4096) (es : List Ed) (role : Int) : evs es role (setOf L) = evsC es role L := by unfold evs evL evsC; rw [elems_setOf h hn]
theorem toL_setOf {n : Nat} {L : List Nat} (h : Can n L) (hn : n <= 4096) (es : List Ed) (role : Int) (x : Ev) : toL es role (setOf L) x = toC es role L x := by unfold toL toC; rw [elems_setOf h hn]
def addC (es : List Ed) (role : Int) (L : List Nat) : List Nat := es.foldl (fun L x => if (vis1 role x).isNone && decide (x.f.toNat ∈ L) && !decide (x.t.toNat ∈ L) then L ++ [x.t.toNat] else L) L
def bfsC (es : List Ed) (role : Int) : Nat -> List Nat -> List Nat
 | 0, L => L
 | f + 1, L => bfsC es role f (addC es role L)
def okC (es : List Ed) (role : Int) (l : List Int) (L : List Nat) : Bool :=
 l.all (fun v => decide (0 <= v) && decide (v.toNat ∈ L)) && es.all (fun x => !(vis1 role x).isNone || !decide (x.f.toNat ∈ L) || decide (x.t.toNat ∈ L)) &&
  (List.range L.length).all fun i => match L[i]? with
   | some j => l.any (fun v => decide (v = (j : Int))) || es.any fun x => (vis1 role x).isNone && decide (x.f.toNat ∈ L.take i) && decide (x.t = (j : Int))
   | none => false
theorem okC_clo {es : List Ed} {role : Int} {l : List Int} {L : List Nat} (hes : ∀ x ∈ es, 0 <= x.f /\ 0 <= x.t) (h : okC es role l L = true) (j : Nat) : clo es role l j = decide (j ∈ L) := by
 unfold okC at h
 simp only [Yt, List.all_eq_true, List.mem_range] at h
 obtain ⟨⟨h1, h2⟩, h3⟩ := h
 have fwd : ∀ a : Int, Qr es role l a -> 0 <= a /\ a.toNat ∈ L := by
  intro a ha
  induction ha with
  | base hm => have := h1 _ hm; simpa using this
  | step _ hx ih =>
   obtain ⟨x, hx, hv, hf, rfl⟩ := hx
   refine ⟨(hes x hx).2, ?_⟩
   have := h2 x hx
   simp only [Bool.or_eq_true, Bool.not_eq_true', decide_eq_false_iff_not, decide_eq_true_eq] at this
   rcases this with (h4 | h4) | h4
   ·
    rw [hv] at h4; cases h4
   ·
    exact absurd (by rw [hf]; exact ih.2) h4
   ·
    exact h4
 have bwd : ∀ i, i <= L.length -> ∀ j ∈ L.take i, Qr es role l (j : Int) := by
  intro i
  induction i with
  | zero => intro _ j hj; rw [Yyk] at hj; cases hj
  | succ i ih =>
   intro hi j hj
   obtain ⟨y, hy⟩ := get_some (l := L) (i := i) (by omega)
   rw [take_snoc hy, Yk, Ye] at hj
   rcases hj with hj | rfl
   ·
    exact ih (by omega) j hj
   ·
    have := h3 i (by omega)
    rw [hy] at this
    simp only [Bool.or_eq_true, List.any_eq_true, decide_eq_true_eq, Yt] at this
    rcases this with ⟨v, hv, rfl⟩ | ⟨x, hx, ⟨h4, h5⟩, h6⟩
    ·
     exact .base hv
    ·
     have hq := ih (by omega) _ h5
     rw [show ((x.f.toNat : Nat) : Int) = x.f by have := hes x hx; omega] at hq
     exact .step hq ⟨x, hx, Option.isNone_iff_eq_none.1 h4, rfl, h6⟩
 have hiff : clo es role l j = true ↔ j ∈ L := by
  rw [clo_iff]
  constructor
  ·
   intro h; have := (fwd _ h).2; rwa [Ys] at this
  ·
   intro h; exact bwd L.length (Nat.le_refl _) j (by rw [Yye]; exact h)
 by_cases hj : j ∈ L
 ·
  rw [decide_eq_true hj]; exact hiff.2 hj
 ·
  rw [decide_eq_false hj]
  cases hc : clo es role l j
  ·
   rfl
  ·
   exact absurd (hiff.1 hc) hj
def cloC (es : List Ed) (role : Int) (n : Nat) (l : List Int) : Option (List Nat) :=
 let L := bfsC es role n (l.map Int.toNat).eraseDups
 if okC es role l L then some ((List.range n).filter fun j => decide (j ∈ L)) else none
theorem cloC_ok {es : List Ed} {role : Int} {n : Nat} {l : List Int} {L : List Nat} (hes : ∀ x ∈ es, 0 <= x.f /\ 0 <= x.t) (hlt : ∀ j : Nat, clo es role l j = true -> j < n) (h : cloC es role n l = some L) : Can n L /\ clo es role l = setOf L := by
 unfold cloC at h
 simp only at h
 split at h
 ·
  rename_i hk
  cases h
  refine ⟨Can.mk _ _, ?_⟩
  funext j
  rw [okC_clo hes hk]
  unfold setOf
  by_cases hj : j ∈ bfsC es role n (l.map Int.toNat).eraseDups
  ·
   rw [decide_eq_true hj, decide_eq_true]
   have : clo es role l j = true := by rw [okC_clo hes hk, decide_eq_true hj]
   exact List.mem_filter.2 ⟨List.mem_range.2 (hlt j this), decide_eq_true hj⟩
  ·
   rw [decide_eq_false hj, decide_eq_false]
   intro hm
   exact hj (of_decide_eq_true (List.mem_filter.1 hm).2)
 ·
  cases h
def rowCS (S : List (List Nat)) (L : List Nat) : List (List Nat) := if L ∈ S then S else S ++ [L]
theorem rowI_setOf {n : Nat} {L : List Nat} (hL : Can n L) : ∀ {S : List (List Nat)}, (∀ s ∈ S, Can n s) -> rowI (S.map setOf) (setOf L) = idxF S L
 | [], _ => rfl
 | s :: S, h => by
  rw [Yyl, rowI, idxF]
  have hs := setOf_inj (h s (Yx ..)) hL
  by_cases e : s = L
  ·
   rw [if_pos (hs.2 e), if_pos e]
  ·
   rw [if_neg (fun h => e (hs.1 h)), if_neg e, rowI_setOf hL fun s hs => h s (Yn _ hs)]
theorem rowS_setOf {n : Nat} {L : List Nat} (hL : Can n L) {S : List (List Nat)} (hS : ∀ s ∈ S, Can n s) : rowS (S.map setOf) (setOf L) = (rowCS S L).map setOf /\ ∀ s ∈ rowCS S L, Can n s := by
 have hiff : setOf L ∈ S.map setOf ↔ L ∈ S := by
  rw [<- rowI_lt, rowI_setOf hL hS, Yc]
  constructor
  ·
   intro h
   by_cases hm : L ∈ S
   ·
    exact hm
   ·
    rw [idxF_not hm] at h; omega
  ·
   intro h; exact idxF_lt h
 unfold rowS rowCS
 by_cases hm : L ∈ S
 ·
  rw [if_pos (hiff.2 hm), if_pos hm]; exact ⟨rfl, hS⟩
 ·
  rw [if_neg (fun h => hm (hiff.1 h)), if_neg hm, Ym]
  refine ⟨rfl, fun s hs => ?_⟩
  rcases Yk.1 hs with hs | hs
  ·
   exact hS s hs
  ·
   rw [Ye] at hs; rw [hs]; exact hL
def arcsC (es : List Ed) (role : Int) (n : Nat) (i : Nat) (L : List Nat) : List Ev -> List (List Nat) -> List Mv -> Option (List (List Nat) × List Mv)
 | [], S, M => some (S, M)
 | x :: r, S, M => match cloC es role n (toC es role L x) with
  | none => none
  | some T => arcsC es role n i L r (rowCS S T) (M ++ [⟨i, x.send, x.peer, x.label, (idxF S T : Nat), false⟩])
theorem arcsC_ok {es : List Ed} {role : Int} {n i : Nat} {L : List Nat} (hn : n <= 4096) (hes : ∀ x ∈ es, 0 <= x.f /\ 0 <= x.t) (hlt : ∀ (x : Ev) (j : Nat), clo es role (toC es role L x) j = true -> j < n) (hL : Can n L) : ∀ (l : List Ev) (S : List (List Nat)) (M : List Mv) {S' : List (List Nat)} {M' : List Mv}, (∀ s ∈ S, Can n s) -> arcsC es role n i L l S M = some (S', M') ->
  arcsF es role i (setOf L) l (S.map setOf) M = (S'.map setOf, M') /\ ∀ s ∈ S', Can n s
 | [], S, M, S', M', hS, h => by cases h; exact ⟨rfl, hS⟩
 | x :: r, S, M, S', M', hS, h => by
  rw [arcsC] at h
  cases hc : cloC es role n (toC es role L x) with
  | none => rw [hc] at h; cases h
  | some T =>
   rw [hc] at h
   replace h : arcsC es role n i L r (rowCS S T) (M ++ [⟨i, x.send, x.peer, x.label, (idxF S T : Nat), false⟩]) = some (S', M') := h
   obtain ⟨h1, h2⟩ := cloC_ok hes (hlt x) hc
   have h3 := rowS_setOf h1 hS
   have := arcsC_ok hn hes hlt hL r _ _ h3.2 h
   rw [arcsF, toL_setOf hL hn, h2, rowI_setOf h1 hS, h3.1]
   exact this
def viewsCF (es : List Ed) (role : Int) (n : Nat) : Nat -> Nat -> List (List Nat) -> List Mv -> Option (Option (List (List Nat) × List Mv))
 | 0, _, _, _ => some none
 | f + 1, i, S, M => match S[i]? with
  | none => some (some (S, M))
  | some L => match arcsC es role n i L (evsC es role L) S M with
   | none => none
   | some (S', M') => if S'.length > 200 then some none else viewsCF es role n f (i + 1) S' M'
theorem viewsCF_ok {es : List Ed} {role : Int} {n : Nat} (hn : n <= 4096) (hes : ∀ x ∈ es, 0 <= x.f /\ 0 <= x.t) (hlt : ∀ (L : List Nat) (x : Ev) (j : Nat), clo es role (toC es role L x) j = true -> j < n) : ∀ (f i : Nat) (S : List (List Nat)) (M : List Mv) {r : Option (List (List Nat) × List Mv)}, (∀ s ∈ S, Can n s) -> viewsCF es role n f i S M = some r ->
  viewsF es role f i (S.map setOf) M = r.map (fun q => (q.1.map setOf, q.2)) /\ ∀ q, r = some q -> ∀ s ∈ q.1, Can n s
 | 0, i, S, M, r, _, h => by cases h; exact ⟨rfl, fun q hq => by cases hq⟩
 | f + 1, i, S, M, r, hS, h => by
  rw [viewsCF] at h
  rw [viewsF, Yd]
  cases hg : S[i]? with
  | none =>
   rw [hg] at h
   cases h
   exact ⟨rfl, fun q hq => by cases hq; exact hS⟩
  | some L =>
   rw [hg] at h
   have hL := hS L (Yb hg)
   cases ha : arcsC es role n i L (evsC es role L) S M with
   | none => simp only [ha] at h; cases h
   | some q =>
    obtain ⟨S', M'⟩ := q
    simp only [ha] at h
    have h1 := arcsC_ok hn hes (hlt L) hL _ S M hS ha
    rw [<- evs_setOf hL hn] at h1
    show (if (arcsF es role i (setOf L) (evs es role (setOf L)) (S.map setOf) M).1.length > 200 then none else viewsF es role f (i + 1) (arcsF es role i (setOf L) (evs es role (setOf L)) (S.map setOf) M).1 (arcsF es role i (setOf L) (evs es role (setOf L)) (S.map setOf) M).2) = _ /\ _
    rw [h1.1]
    simp only [Yc]
    split
    ·
     rename_i hc
     rw [if_pos hc] at h
     cases h
     exact ⟨rfl, fun q hq => by cases hq⟩
    ·
     rename_i hc
     rw [if_neg hc] at h
     exact viewsCF_ok hn hes hlt f (i + 1) S' M' h1.2 h
theorem viewV_congr {F F' : Nat -> List Ev} {en en' : Nat -> Bool} {O : List Bool} {T : List Ti} {l : List Nat} (hF : ∀ k ∈ l, F k = F' k) (he : ∀ k ∈ l, en k = en' k) : viewV F en O T l = viewV F' en' O T l := by
 have hb : ∀ k ∈ l, badV F en l k = badV F' en' l k := by
  intro k hk
  unfold badV
  have ha : (l.any fun q => en q || decide (F k ≠ F q)) = l.any fun q => en' q || decide (F' k ≠ F' q) := by
   rw [Bool.eq_iff_iff, List.any_eq_true, List.any_eq_true]
   constructor
   ·
    rintro ⟨q, hq, h⟩; exact ⟨q, hq, by rw [<- he q hq, <- hF q hq, <- hF k hk]; exact h⟩
   ·
    rintro ⟨q, hq, h⟩; exact ⟨q, hq, by rw [he q hq, hF q hq, hF k hk]; exact h⟩
  rw [ha, hF k hk, he k hk]
 unfold viewV
 congr 1
 suffices h : ∀ (m : List Nat) (st : Option (Bool × Ti)), (∀ k ∈ m, k ∈ l) -> m.foldl (stepV F en O T l) st = m.foldl (stepV F' en' O T l) st from h l _ fun k hk => hk
 intro m
 induction m with
 | nil => intro st _; rfl
 | cons a m ih =>
  intro st hs
  rw [List.foldl_cons, List.foldl_cons]
  have : stepV F en O T l st a = stepV F' en' O T l st a := by unfold stepV; rw [hb a (hs a (Yx ..))]
  rw [this]
  exact ih _ fun k hk => hs k (Yn _ hk)
def rawLC (vw : List Nat -> Option Ti) : Nat -> List (List Nat) -> List Mv -> List To -> Option (List Mv × List To)
 | _, [], M, L => some (M, L)
 | n, p :: S, M, L => match vw p with
  | none => none
  | some x => rawLC vw (n + 1) S (M.map (updR n x)) (L ++ limR n x M)
theorem rawLC_ok {vw vw' : List Nat -> Option Ti} {N : Nat} (hN : N <= 4096) : ∀ (n : Nat) (S : List (List Nat)) (M : List Mv) (L : List To), (∀ s ∈ S, Can N s /\ vw s = vw' s) -> rawL vw n (S.map setOf) M L = rawLC vw' n S M L
 | _, [], _, _, _ => rfl
 | n, p :: S, M, L, h => by
  obtain ⟨h1, h2⟩ := h p (Yx ..)
  rw [Yyl, rawL, rawLC, elems_setOf h1 hN, h2]
  cases vw' p with
  | none => rfl
  | some x => exact rawLC_ok hN (n + 1) S _ _ fun s hs => h s (Yn _ hs)
end Go.VC
end

section
/- The raw machine, computed. No program here. -/
namespace Go.VC
open Go.LexS

def fC (g : Gl) (role : Int) (k : Nat) : List Ev := ((cloC g.es role g.n.toNat [(k : Int)]).map (evsC g.es role)).getD []
def enC (g : Gl) (role : Int) (k : Nat) : Bool := ((cloC g.es role g.n.toNat [(k : Int)]).map fun L => decide (g.e.toNat ∈ L)).getD false
def vwC (g : Gl) (role : Int) : List Nat -> Option Ti := viewV (fC g role) (enC g role) (ownE g.es role g.n.toNat).1 (ownT g.es g.ts role g.n.toNat)
def rawC (g : Gl) (role : Int) : Option (Option Mch × Int) :=
 if !(List.range g.n.toNat).all (fun k => (cloC g.es role g.n.toNat [(k : Int)]).isSome) then none else
 match cloC g.es role g.n.toNat [g.s] with
 | none => none
 | some L0 => match viewsCF g.es role g.n.toNat 202 0 [L0] [] with
  | none => none
  | some none => some (none, 6)
  | some (some (S, M)) => if M.length > 400 then some (none, 6) else
   match rawLC (vwC g role) 0 S M [] with
   | none => some (none, 18)
   | some (M', L') => some (some ⟨role, S.length, 0, S.map (fun L => decide (g.e.toNat ∈ L)), M', L'⟩, 0)
theorem rawC_ok {g : Gl} {role : Int} {r : Option Mch × Int} (hV : ValidS g) (h0 : 0 <= role) (h1 : role < g.rs.length) (h : rawC g role = some r) : raw g role = r := by
 have hN := hV.num.n
 have hn : g.n.toNat <= 4096 := by omega
 have hes : ∀ x ∈ g.es, 0 <= x.f /\ 0 <= x.t := fun x hx => by have := hV.num.e x hx; unfold EdS at this; omega
 have hlt : ∀ (l : List Int), (∀ v ∈ l, 0 <= v /\ v < g.n) -> ∀ j : Nat, clo g.es role l j = true -> j < g.n.toNat := fun l hl j hj => by have := clo_lt hV hl j hj; omega
 have hto : ∀ (L : List Nat) (x : Ev) (j : Nat), clo g.es role (toC g.es role L x) j = true -> j < g.n.toNat := by
  intro L x
  refine hlt _ fun v hv => ?_
  unfold toC at hv
  obtain ⟨k, _, h2⟩ := List.mem_flatMap.1 hv
  obtain ⟨a, ha, h3⟩ := Yym.1 h2
  unfold visL at ha
  obtain ⟨e, he, h4⟩ := Yym.1 ha
  have := hV.num.e e he
  unfold EdS at this
  split at h4
  ·
   rw [Yya] at h4
   obtain ⟨_, _, rfl⟩ := h4
   split at h3
   ·
    cases h3; show 0 <= e.t /\ e.t < g.n; omega
   ·
    cases h3
  ·
   cases h4
 unfold rawC at h
 split at h
 ·
  cases h
 rename_i hall
 have hall : ∀ k, k < g.n.toNat -> (cloC g.es role g.n.toNat [(k : Int)]).isSome = true := by
  intro k hk
  have : (List.range g.n.toNat).all (fun k => (cloC g.es role g.n.toNat [(k : Int)]).isSome) = true := by
   revert hall
   generalize (List.range g.n.toNat).all (fun k => (cloC g.es role g.n.toNat [(k : Int)]).isSome) = b
   cases b <;> simp
  exact List.all_eq_true.1 this k (List.mem_range.2 hk)
 have hfirst : ∀ k, k < g.n.toNat -> firstE g role (k : Int) = fC g role k /\ firstB g role (k : Int) = enC g role k := by
  intro k hk
  obtain ⟨L, hL⟩ := Option.isSome_iff_exists.1 (hall k hk)
  obtain ⟨h2, h3⟩ := cloC_ok hes (hlt [(k : Int)] fun v hv => by rw [Ye] at hv; omega) hL
  unfold firstE firstB fC enC
  rw [hL, h3, evs_setOf h2 hn]
  exact ⟨rfl, rfl⟩
 cases hc0 : cloC g.es role g.n.toNat [g.s] with
 | none => simp only [hc0] at h; cases h
 | some L0 =>
  simp only [hc0] at h
  obtain ⟨h2, h3⟩ := cloC_ok hes (hlt [g.s] fun v hv => by rw [Ye] at hv; omega) hc0
  cases hv : viewsCF g.es role g.n.toNat 202 0 [L0] [] with
  | none => simp only [hv] at h; cases h
  | some w =>
   simp only [hv] at h
   obtain ⟨h4, h5⟩ := viewsCF_ok hn hes hto 202 0 [L0] [] (fun s hs => by rw [Ye] at hs; rw [hs]; exact h2) hv
   have h6 : views g role = w.map fun q => (q.1.map setOf, q.2) := by
    unfold views
    rw [h3]; exact h4
   unfold raw
   rw [if_neg (by simpa using ⟨hV, h0, h1⟩), h6]
   cases w with
   | none => simpa using h
   | some q =>
    obtain ⟨S, M⟩ := q
    have hS := h5 (S, M) rfl
    simp only [Option.map_some] at h ⊢
    split at h
    ·
     rename_i hM; rw [if_pos hM]; simpa using h
    ·
     rename_i hM
     rw [if_neg hM]
     rw [rawLC_ok (vw := vwG g role) (vw' := vwC g role) hn 0 S M [] fun s hs => ⟨hS s hs, viewV_congr (fun k hk => (hfirst k ((hS s hs).lt k hk)).1) fun k hk => (hfirst k ((hS s hs).lt k hk)).2⟩]
     cases hl : rawLC (vwC g role) 0 S M [] with
     | none => simp only [hl] at h ⊢; simpa using h
     | some q =>
      obtain ⟨M', L'⟩ := q
      simp only [hl] at h ⊢
      rw [<- Option.some.inj h, Yc, List.map_map]
      rfl
end Go.VC
end

section
namespace Go.VC
open Go.Proofs

def W46 (p0 : Bool) (h : Heap) (R : Value -> Heap -> Prop) : Prop :=
 (Wn h [.string ⟨#[]⟩, .slice none 0 0, .slice none 0 0, vI 0, vI 0, vI 0, .slice none 0 0, .slice none 0 0] 59 fun h1 =>
 (Wn h1 [.string ⟨#[112]⟩, .string ⟨#[113]⟩, .string ⟨#[114]⟩] 9 fun h2 =>
 (Wn h2 [.string ⟨#[97]⟩, .slice none 0 0, vI 0, .slice none 0 0, .slice none 0 0, .string ⟨#[98]⟩, .slice none 0 0, vI 0, .slice none 0 0, .slice none 0 0, .string ⟨#[99]⟩, .slice none 0 0, vI 0, .slice none 0 0, .slice none 0 0, .string ⟨#[100]⟩, .slice none 0 0, vI 0, .slice none 0 0, .slice none 0 0] 153 fun h3 =>
 (Wn h3 [.string ⟨#[]⟩, .slice none 0 0, .slice none 0 0, vI 0, vI 0, vI 0, .slice none 0 0, .slice none 0 0] 59 fun h4 =>
 (Wp h4 (aS h3 0) 8 [.string ⟨#[101]⟩, .slice (some (aS h1 0)) 3 3, .slice (some (aS h2 0)) 4 4, vI 4, vI 0, vI 3, .slice none 0 0, .slice none 0 0] fun h5 =>
 (Fn Pz 95 #[vI 0, vI 0, vI 1, vI 0, vI 1] h5
 (fun v6 h13 => ∃ (x7 x8 x9 x10 x11 : Int) (x12 : Bool), v6 = .agg ⟨(L6 x7 x8 x9 x10 x11 x12)⟩ /\
 (Fn Pz 95 #[vI 0, vI 0, vI 1, vI 1, vI 2] h13
 (fun v14 h21 => ∃ (x15 x16 x17 x18 x19 : Int) (x20 : Bool), v14 = .agg ⟨(L6 x15 x16 x17 x18 x19 x20)⟩ /\
 (Fn Pz 95 #[vI 1, vI 2, vI 1, vI 2, vI 3] h21
 (fun v22 h29 => ∃ (x23 x24 x25 x26 x27 : Int) (x28 : Bool), v22 = .agg ⟨(L6 x23 x24 x25 x26 x27 x28)⟩ /\
 (Fn Pz 95 #[vI 2, vI 2, vI 1, vI 3, vI 3] h29
 (fun v30 h37 => ∃ (x31 x32 x33 x34 x35 : Int) (x36 : Bool), v30 = .agg ⟨(L6 x31 x32 x33 x34 x35 x36)⟩ /\
 (Wn h37 [vI x7, vI x8, vI x9, vI x10, vI x11, .bool x12, vI x15, vI x16, vI x17, vI x18, vI x19, .bool x20, vI x23, vI x24, vI x25, vI x26, vI x27, .bool x28, vI x31, vI x32, vI x33, vI x34, vI x35, .bool x36] 145 fun h38 =>
 (Wp h38 (aS h3 6) 1 [.slice (some (aS h37 0)) 4 4] fun h39 =>
 (sB p0
 ((Wp h39 (aS h3 3) 1 [vI 6] fun h40 =>
 (Wp h40 (aS h3 5) 1 [vI 5] fun h41 =>
 (Fn Pz 95 #[vI 0, vI 0, vI 1, vI 0, vI 1] h41
 (fun v42 h49 => ∃ (x43 x44 x45 x46 x47 : Int) (x48 : Bool), v42 = .agg ⟨(L6 x43 x44 x45 x46 x47 x48)⟩ /\
 (Fn Pz 95 #[vI 0, vI 0, vI 1, vI 1, vI 2] h49
 (fun v50 h57 => ∃ (x51 x52 x53 x54 x55 : Int) (x56 : Bool), v50 = .agg ⟨(L6 x51 x52 x53 x54 x55 x56)⟩ /\
 (Fn Pz 95 #[vI 1, vI 1, vI 2, vI 0, vI 3] h57
 (fun v58 h65 => ∃ (x59 x60 x61 x62 x63 : Int) (x64 : Bool), v58 = .agg ⟨(L6 x59 x60 x61 x62 x63 x64)⟩ /\
 (Fn Pz 95 #[vI 2, vI 1, vI 2, vI 1, vI 4] h65
 (fun v66 h73 => ∃ (x67 x68 x69 x70 x71 : Int) (x72 : Bool), v66 = .agg ⟨(L6 x67 x68 x69 x70 x71 x72)⟩ /\
 (Fn Pz 95 #[vI 3, vI 2, vI 1, vI 2, vI 5] h73
 (fun v74 h81 => ∃ (x75 x76 x77 x78 x79 : Int) (x80 : Bool), v74 = .agg ⟨(L6 x75 x76 x77 x78 x79 x80)⟩ /\
 (Fn Pz 95 #[vI 4, vI 2, vI 1, vI 3, vI 5] h81
 (fun v82 h89 => ∃ (x83 x84 x85 x86 x87 : Int) (x88 : Bool), v82 = .agg ⟨(L6 x83 x84 x85 x86 x87 x88)⟩ /\
 (Wn h89 [vI x43, vI x44, vI x45, vI x46, vI x47, .bool x48, vI x51, vI x52, vI x53, vI x54, vI x55, .bool x56, vI x59, vI x60, vI x61, vI x62, vI x63, .bool x64, vI x67, vI x68, vI x69, vI x70, vI x71, .bool x72, vI x75, vI x76, vI x77, vI x78, vI x79, .bool x80, vI x83, vI x84, vI x85, vI x86, vI x87, .bool x88] 145 fun h90 =>
 (Wp h90 (aS h3 6) 1 [.slice (some (aS h89 0)) 6 6] fun h91 =>
 (∃ x92 x93 x94 x95 x96 x97 x98 x99, aL3 h91 (aS h3 0) x92 x93 x94 x95 x96 x97 x98 x99 /\
 (Wp h91 (aS h 0) 8 (L3 x92 x93 x94 x95 x96 x97 x98 x99) fun h100 =>
 (∃ x101 x102 x103 x104 x105 x106 x107 x108, aL3 h100 (aS h 0) x101 x102 x103 x104 x105 x106 x107 x108 /\
 R (.agg ⟨(L3 x101 x102 x103 x104 x105 x106 x107 x108)⟩) h100))))))))))))))))))))
 ((∃ x109 x110 x111 x112 x113 x114 x115 x116, aL3 h39 (aS h3 0) x109 x110 x111 x112 x113 x114 x115 x116 /\
 (Wp h39 (aS h 0) 8 (L3 x109 x110 x111 x112 x113 x114 x115 x116) fun h117 =>
 (∃ x118 x119 x120 x121 x122 x123 x124 x125, aL3 h117 (aS h 0) x118 x119 x120 x121 x122 x123 x124 x125 /\
 R (.agg ⟨(L3 x118 x119 x120 x121 x122 x123 x124 x125)⟩) h117))))))))))))))))))))
theorem vc46 (p0 : Bool) (h : Heap) (R : Value -> Heap -> Prop) (H : W46 p0 h R) : Fn Pz 46 #[.bool p0] h R := fnI (A := .z) (by kernel_rfl) H

def W95 (p0 p1 p2 p3 p4 : Int) (h : Heap) (R : Value -> Heap -> Prop) : Prop :=
 (Wn h [vI 0, vI 0, vI 0, vI 0, vI 0, .bool false] 145 fun h1 =>
 (Wp h1 (aS h 0) 6 [vI p0, vI p1, vI p2, vI p3, vI p4, .bool false] fun h2 =>
 (∃ x3 x4 x5 x6 x7 x8, aL6 h2 (aS h 0) x3 x4 x5 x6 x7 x8 /\
 R (.agg ⟨(L6 x3 x4 x5 x6 x7 x8)⟩) h2)))
theorem vc95 (p0 p1 p2 p3 p4 : Int) (h : Heap) (R : Value -> Heap -> Prop) (H : W95 p0 p1 p2 p3 p4 h R) : Fn Pz 95 #[vI p0, vI p1, vI p2, vI p3, vI p4] h R := fnI (A := .z) (by kernel_rfl) H

end Go.VC
end

section
/- The example, and that the laws are awake. -/
namespace Go.VC
open Go.Proofs Go.LexS

def exD (x : Nm) : Dc := ⟨x, ⟨none, 0, 0⟩, 0, ⟨none, 0, 0⟩, ⟨none, 0, 0⟩, [], [], []⟩
def exEs : Bool -> List Ed
 | true => [⟨0, 0, 1, 0, 1, false⟩, ⟨0, 0, 1, 1, 2, false⟩, ⟨1, 1, 2, 0, 3, false⟩, ⟨2, 1, 2, 1, 4, false⟩, ⟨3, 2, 1, 2, 5, false⟩, ⟨4, 2, 1, 3, 5, false⟩]
 | false => [⟨0, 0, 1, 0, 1, false⟩, ⟨0, 0, 1, 1, 2, false⟩, ⟨1, 2, 1, 2, 3, false⟩, ⟨2, 2, 1, 3, 3, false⟩]
def exGl (b : Bool) (hr hd he ht : Sl) : Gl := ⟨[101], hr, hd, if b then 6 else 4, 0, if b then 5 else 3, he, ht, [[112], [113], [114]], [exD [97], exD [98], exD [99], exD [100]], exEs b, []⟩
theorem edge70 (p0 p1 p2 p3 p4 : Int) (h : Heap) : Fn Pz 95 #[.int .i64 p0, .int .i64 p1, .int .i64 p2, .int .i64 p3, .int .i64 p4] h fun v h' => v = .agg ⟨Ed.cs ⟨p0, p1, p2, p3, p4, false⟩⟩ /\ Ext h h' := by
 apply vc95; unfold W95
 have hs := St.refl h
 refine hs.newput (vs := Ed.cs ⟨p0, p1, p2, p3, p4, false⟩) rfl rfl fun h2 hs => ?_
 exact ⟨_, _, _, _, _, _, hs.at 0 rfl (n := 6) rfl, rfl, hs.ext⟩
theorem RL.none_ {α : Type} {h : Heap} {k : Nat} {cs : α -> List Value} : RL h k ⟨none, 0, 0⟩ cs [] := ⟨Rw.nil, Nat.le_refl _, fun _ => ⟨rfl, rfl⟩, Nat.zero_le _⟩
theorem St.rl {α : Type} {h0 h : Heap} {L : List It} (hs : St h0 h L) (k : Nat) {s : Sl} {e : TypeId} {n : Nat} {cs : α -> List Value} {l : List α} (hk : L[k]? = some (.sl s e n (l.map cs))) (hn : 0 < n) (hl : l.length <= 1048576) : RL h n s cs l := by
 have := hs.len k hk hn
 exact ⟨hs.rows k hk hn, this.2.1, this.2.2, hl⟩
theorem nmrows (L : List Nm) : ∀ r ∈ L.map nmC, r.length = 1 := fun r hr => by obtain ⟨x, _, rfl⟩ := Yp.1 hr; rfl
theorem dcrows (L : List Dc) : ∀ r ∈ L.map Dc.cs, r.length = 5 := fun r hr => by obtain ⟨x, _, rfl⟩ := Yp.1 hr; rfl
theorem edrows (L : List Ed) : ∀ r ∈ L.map Ed.cs, r.length = 6 := fun r hr => by obtain ⟨x, _, rfl⟩ := Yp.1 hr; rfl
set_option maxHeartbeats 1000000 in
theorem example34 (b : Bool) (h : Heap) : Fn Pz 46 #[.bool b] h fun v h' => Ext h h' /\ ∃ hr hd he : Sl, v = (exGl b hr hd he ⟨none, 0, 0⟩).v /\ GI h' (exGl b hr hd he ⟨none, 0, 0⟩) := by
 apply vc46; unfold W46
 have hs := St.refl h
 refine hs.newb fun h1 hs => ?_
 refine hs.newb fun h2 hs => ?_
 have hs := hs.blkS 3 1 ([[112], [113], [114]].map nmC) rfl (nmrows _) rfl (by decide)
 refine hs.newb fun h3 hs => ?_
 have hs := hs.blkS 4 5 ([exD [97], exD [98], exD [99], exD [100]].map Dc.cs) rfl (dcrows _) rfl (by decide)
 refine hs.newput (vs := [.string (bs [101]), .slice (some ⟨h1.size, 0, none⟩) 3 3, .slice (some ⟨h2.size, 0, none⟩) 4 4, .int .i64 4, .int .i64 0, .int .i64 3, .slice none 0 0, .slice none 0 0]) rfl rfl fun h5 hs => ?_
 refine (edge70 _ _ _ _ _ _).mono ?_
 rintro _ _ ⟨rfl, E⟩
 replace hs := hs.step E
 clear E
 refine ⟨_, _, _, _, _, _, rfl, ?_⟩
 refine (edge70 _ _ _ _ _ _).mono ?_
 rintro _ _ ⟨rfl, E⟩
 replace hs := hs.step E
 clear E
 refine ⟨_, _, _, _, _, _, rfl, ?_⟩
 refine (edge70 _ _ _ _ _ _).mono ?_
 rintro _ _ ⟨rfl, E⟩
 replace hs := hs.step E
 clear E
 refine ⟨_, _, _, _, _, _, rfl, ?_⟩
 refine (edge70 _ _ _ _ _ _).mono ?_
 rintro _ _ ⟨rfl, E⟩
 replace hs := hs.step E
 clear E
 refine ⟨_, _, _, _, _, _, rfl, ?_⟩
 refine hs.newb fun h38 hs => ?_
 have hs := hs.blkS 4 6 ((exEs false).map Ed.cs) rfl (edrows _) rfl (by decide)
 refine hs.put 1 rfl (o := 6) (vs := [.slice (some ⟨_, 0, none⟩) 4 4]) rfl (show 7 <= 8 by decide) fun h39 hs => ?_
 cases b
 ·
  refine sB_f rfl ?_
  refine ⟨_, ⟨some ⟨h1.size, 0, none⟩, 3, 3⟩, ⟨some ⟨h2.size, 0, none⟩, 4, 4⟩, _, _, _, ⟨some ⟨_, 0, none⟩, 4, 4⟩, ⟨none, 0, 0⟩, hs.at 1 rfl (n := 8) rfl, ?_⟩
  refine hs.put 4 rfl (o := 0) (vs := (exGl false ⟨some ⟨h1.size, 0, none⟩, 3, 3⟩ ⟨some ⟨h2.size, 0, none⟩, 4, 4⟩ ⟨some ⟨_, 0, none⟩, 4, 4⟩ ⟨none, 0, 0⟩).cs) rfl (show 8 <= 8 by decide) fun h117 hs => ?_
  refine ⟨_, ⟨some ⟨h1.size, 0, none⟩, 3, 3⟩, ⟨some ⟨h2.size, 0, none⟩, 4, 4⟩, _, _, _, ⟨some ⟨_, 0, none⟩, 4, 4⟩, ⟨none, 0, 0⟩, hs.at 4 rfl (n := 8) rfl, hs.ext, _, _, _, rfl, ?_⟩
  refine ⟨hs.rl 3 rfl (by decide) (show 3 <= 1048576 by decide), ⟨hs.rl 2 rfl (by decide) (show 4 <= 1048576 by decide), fun d hd => ?_⟩, hs.rl 0 rfl (by decide) (show 4 <= 1048576 by decide), RL.none_⟩
  have hd : d ∈ [exD [97], exD [98], exD [99], exD [100]] := hd
  simp only [Yr, List.not_mem_nil, or_false] at hd
  rcases hd with rfl | rfl | rfl | rfl <;> exact ⟨RL.none_, RL.none_, RL.none_⟩
 ·
  refine sB_t rfl ?_
  refine hs.put 1 rfl (o := 3) (vs := [.int .i64 6]) rfl (show 4 <= 8 by decide) fun h40 hs => ?_
  refine hs.put 1 rfl (o := 5) (vs := [.int .i64 5]) rfl (show 6 <= 8 by decide) fun h41 hs => ?_
  refine (edge70 _ _ _ _ _ _).mono ?_
  rintro _ _ ⟨rfl, E⟩
  replace hs := hs.step E
  clear E
  refine ⟨_, _, _, _, _, _, rfl, ?_⟩
  refine (edge70 _ _ _ _ _ _).mono ?_
  rintro _ _ ⟨rfl, E⟩
  replace hs := hs.step E
  clear E
  refine ⟨_, _, _, _, _, _, rfl, ?_⟩
  refine (edge70 _ _ _ _ _ _).mono ?_
  rintro _ _ ⟨rfl, E⟩
  replace hs := hs.step E
  clear E
  refine ⟨_, _, _, _, _, _, rfl, ?_⟩
  refine (edge70 _ _ _ _ _ _).mono ?_
  rintro _ _ ⟨rfl, E⟩
  replace hs := hs.step E
  clear E
  refine ⟨_, _, _, _, _, _, rfl, ?_⟩
  refine (edge70 _ _ _ _ _ _).mono ?_
  rintro _ _ ⟨rfl, E⟩
  replace hs := hs.step E
  clear E
  refine ⟨_, _, _, _, _, _, rfl, ?_⟩
  refine (edge70 _ _ _ _ _ _).mono ?_
  rintro _ _ ⟨rfl, E⟩
  replace hs := hs.step E
  clear E
  refine ⟨_, _, _, _, _, _, rfl, ?_⟩
  refine hs.newb fun h90 hs => ?_
  have hs := hs.blkS 6 6 ((exEs true).map Ed.cs) rfl (edrows _) rfl (by decide)
  refine hs.put 2 rfl (o := 6) (vs := [.slice (some ⟨_, 0, none⟩) 6 6]) rfl (show 7 <= 8 by decide) fun h91 hs => ?_
  refine ⟨_, ⟨some ⟨h1.size, 0, none⟩, 3, 3⟩, ⟨some ⟨h2.size, 0, none⟩, 4, 4⟩, _, _, _, ⟨some ⟨_, 0, none⟩, 6, 6⟩, ⟨none, 0, 0⟩, hs.at 2 rfl (n := 8) rfl, ?_⟩
  refine hs.put 5 rfl (o := 0) (vs := (exGl true ⟨some ⟨h1.size, 0, none⟩, 3, 3⟩ ⟨some ⟨h2.size, 0, none⟩, 4, 4⟩ ⟨some ⟨_, 0, none⟩, 6, 6⟩ ⟨none, 0, 0⟩).cs) rfl (show 8 <= 8 by decide) fun h117 hs => ?_
  refine ⟨_, ⟨some ⟨h1.size, 0, none⟩, 3, 3⟩, ⟨some ⟨h2.size, 0, none⟩, 4, 4⟩, _, _, _, ⟨some ⟨_, 0, none⟩, 6, 6⟩, ⟨none, 0, 0⟩, hs.at 5 rfl (n := 8) rfl, hs.ext, _, _, _, rfl, ?_⟩
  refine ⟨hs.rl 4 rfl (by decide) (show 3 <= 1048576 by decide), ⟨hs.rl 3 rfl (by decide) (show 4 <= 1048576 by decide), fun d hd => ?_⟩, hs.rl 0 rfl (by decide) (show 6 <= 1048576 by decide), RL.none_⟩
  have hd : d ∈ [exD [97], exD [98], exD [99], exD [100]] := hd
  simp only [Yr, List.not_mem_nil, or_false] at hd
  rcases hd with rfl | rfl | rfl | rfl <;> exact ⟨RL.none_, RL.none_, RL.none_⟩

deriving instance DecidableEq for Ed
theorem ex_valid (b : Bool) (hr hd he ht : Sl) : ValidS (exGl b hr hd he ht) := by
 have hrs : (exGl b hr hd he ht).rs = [[112], [113], [114]] := rfl
 have hds : (exGl b hr hd he ht).ds = [exD [97], exD [98], exD [99], exD [100]] := rfl
 have hes : (exGl b hr hd he ht).es = exEs b := rfl
 have hall : allF [exD [97], exD [98], exD [99], exD [100]] = [] := rfl
 have get3 : ∀ {α : Type} {P : Nat -> α -> Prop} {l : List α}, (∀ i (hi : i < l.length), P i l[i]) -> ∀ i x, l[i]? = some x -> P i x := by
  intro α P l h i x hx
  obtain ⟨h1, h2⟩ := Ya.1 hx
  rw [<- h2]; exact h i h1
 refine ⟨⟨by rfl, by rw [hrs]; decide, by rw [hrs]; decide, ?_⟩, ⟨?_, ?_, ?_⟩, ?_, ⟨?_, ?_, ?_⟩, ?_, ?_, ?_⟩
 ·
  rw [hrs]
  refine get3 (P := fun i s => isWord s = true /\ s ∉ List.take i [[112], [113], [114]]) fun i hi => ?_
  have hi : i < 3 := hi
  match i, hi with
  | 0, _ => exact of_decide_eq_true rfl
  | 1, _ => exact of_decide_eq_true rfl
  | 2, _ => exact of_decide_eq_true rfl
 ·
  cases b <;> exact ⟨of_decide_eq_true rfl, of_decide_eq_true rfl, of_decide_eq_true rfl, of_decide_eq_true rfl, of_decide_eq_true rfl, of_decide_eq_true rfl⟩
 ·
  rw [hes]; cases b <;> decide
 ·
  rw [hes]
  unfold EdS
  rw [hrs, hds]
  cases b
  ·
   show ∀ x ∈ exEs false, 0 <= x.f /\ 0 <= x.t /\ 0 <= x.a /\ 0 <= x.b /\ 0 <= x.l /\ x.f < 4 /\ x.t < 4 /\ x.a < ((3 : Nat) : Int) /\ x.b < ((3 : Nat) : Int) /\ x.a ≠ x.b /\ x.l < ((4 : Nat) : Int)
   decide
  ·
   show ∀ x ∈ exEs true, 0 <= x.f /\ 0 <= x.t /\ 0 <= x.a /\ 0 <= x.b /\ 0 <= x.l /\ x.f < 6 /\ x.t < 6 /\ x.a < ((3 : Nat) : Int) /\ x.b < ((3 : Nat) : Int) /\ x.a ≠ x.b /\ x.l < ((4 : Nat) : Int)
   decide
 ·
  rw [hds]
  refine ⟨by decide, by rw [hall]; decide, ?_⟩
  refine get3 (P := fun i d => DcS [exD [97], exD [98], exD [99], exD [100]] i d) fun i hi => ?_
  have hi : i < 4 := hi
  have hg : GuardS [] [] [] := ⟨by decide, by decide, fun x hx => (by cases hx), fun x hx => (by cases hx)⟩
  match i, hi with
  | 0, _ => exact ⟨by rfl, of_decide_eq_true rfl, of_decide_eq_true rfl, by rfl, fun k f hf => (by cases hf), by rw [hall]; exact hg⟩
  | 1, _ => exact ⟨by rfl, of_decide_eq_true rfl, of_decide_eq_true rfl, by rfl, fun k f hf => (by cases hf), by rw [hall]; exact hg⟩
  | 2, _ => exact ⟨by rfl, of_decide_eq_true rfl, of_decide_eq_true rfl, by rfl, fun k f hf => (by cases hf), by rw [hall]; exact hg⟩
  | 3, _ => exact ⟨by rfl, of_decide_eq_true rfl, of_decide_eq_true rfl, by rfl, fun k f hf => (by cases hf), by rw [hall]; exact hg⟩
 ·
  rw [hes]; cases b
  ·
   show ∀ x ∈ exEs false, x.f ≠ 3
   decide
  ·
   show ∀ x ∈ exEs true, x.f ≠ 5
   decide
 ·
  rw [hes]; cases b
  ·
   show ∀ x ∈ exEs false, x.ag = true -> x.f ≠ 0
   decide
  ·
   show ∀ x ∈ exEs true, x.ag = true -> x.f ≠ 0
   decide
 ·
  rw [hes]
  have key : ((exEs b).zipIdx.all fun p => (exEs b).zipIdx.all fun q => !decide ((p.2 ≠ q.2 /\ p.1.f = q.1.f /\ ((p.1.a = q.1.a /\ p.1.b = q.1.b /\ p.1.l = q.1.l) \/ p.1.a ≠ q.1.a \/ p.1.ag = true)) \/ (p.1.ag = true /\ q.1.t = p.1.f /\ (p.1.a ≠ q.1.a \/ p.1.l ≠ q.1.l)))) = true := by
   cases b <;> decide
  intro i x hx k y hy hbad
  have h1 := List.all_eq_true.1 key (x, i) (Yf.2 ⟨i, by rw [List.getElem?_zipIdx, hx]; simp⟩)
  have h2 := List.all_eq_true.1 h1 (y, k) (Yf.2 ⟨k, by rw [List.getElem?_zipIdx, hy]; simp⟩)
  have h3 := of_decide_eq_false (Bool.not_eq_true' _ ▸ h2)
  exact h3 hbad
 ·
  intro i t ht; exact absurd ht (by show ([] : List To)[i]? ≠ some t; simp)
 ·
  intro v h0 h1
  rw [hes]
  cases b
  ·
   have h1 : v < 4 := h1
   show Rch (exEs false) false 0 v
   have s0 : Rch (exEs false) false 0 0 := .refl
   have s1 : Rch (exEs false) false 0 1 := .step s0 ⟨⟨0, 0, 1, 0, 1, false⟩, by decide, rfl, rfl⟩
   have s2 : Rch (exEs false) false 0 2 := .step s0 ⟨⟨0, 0, 1, 1, 2, false⟩, by decide, rfl, rfl⟩
   have s3 : Rch (exEs false) false 0 3 := .step s1 ⟨⟨1, 2, 1, 2, 3, false⟩, by decide, rfl, rfl⟩
   have : v = 0 \/ v = 1 \/ v = 2 \/ v = 3 := by omega
   rcases this with rfl | rfl | rfl | rfl <;> assumption
  ·
   have h1 : v < 6 := h1
   show Rch (exEs true) false 0 v
   have s0 : Rch (exEs true) false 0 0 := .refl
   have s1 : Rch (exEs true) false 0 1 := .step s0 ⟨⟨0, 0, 1, 0, 1, false⟩, by decide, rfl, rfl⟩
   have s2 : Rch (exEs true) false 0 2 := .step s0 ⟨⟨0, 0, 1, 1, 2, false⟩, by decide, rfl, rfl⟩
   have s3 : Rch (exEs true) false 0 3 := .step s1 ⟨⟨1, 1, 2, 0, 3, false⟩, by decide, rfl, rfl⟩
   have s4 : Rch (exEs true) false 0 4 := .step s2 ⟨⟨2, 1, 2, 1, 4, false⟩, by decide, rfl, rfl⟩
   have s5 : Rch (exEs true) false 0 5 := .step s3 ⟨⟨3, 2, 1, 2, 5, false⟩, by decide, rfl, rfl⟩
   have : v = 0 \/ v = 1 \/ v = 2 \/ v = 3 \/ v = 4 \/ v = 5 := by omega
   rcases this with rfl | rfl | rfl | rfl | rfl | rfl <;> assumption
 ·
  intro v h0 h1
  rw [hes]
  cases b
  ·
   have h1 : v < 4 := h1
   show Rch (exEs false) true 3 v
   have s3 : Rch (exEs false) true 3 3 := .refl
   have s1 : Rch (exEs false) true 3 1 := .step s3 ⟨⟨1, 2, 1, 2, 3, false⟩, by decide, rfl, rfl⟩
   have s2 : Rch (exEs false) true 3 2 := .step s3 ⟨⟨2, 2, 1, 3, 3, false⟩, by decide, rfl, rfl⟩
   have s0 : Rch (exEs false) true 3 0 := .step s1 ⟨⟨0, 0, 1, 0, 1, false⟩, by decide, rfl, rfl⟩
   have : v = 0 \/ v = 1 \/ v = 2 \/ v = 3 := by omega
   rcases this with rfl | rfl | rfl | rfl <;> assumption
  ·
   have h1 : v < 6 := h1
   show Rch (exEs true) true 5 v
   have s5 : Rch (exEs true) true 5 5 := .refl
   have s3 : Rch (exEs true) true 5 3 := .step s5 ⟨⟨3, 2, 1, 2, 5, false⟩, by decide, rfl, rfl⟩
   have s4 : Rch (exEs true) true 5 4 := .step s5 ⟨⟨4, 2, 1, 3, 5, false⟩, by decide, rfl, rfl⟩
   have s1 : Rch (exEs true) true 5 1 := .step s3 ⟨⟨1, 1, 2, 0, 3, false⟩, by decide, rfl, rfl⟩
   have s2 : Rch (exEs true) true 5 2 := .step s4 ⟨⟨2, 1, 2, 1, 4, false⟩, by decide, rfl, rfl⟩
   have s0 : Rch (exEs true) true 5 0 := .step s1 ⟨⟨0, 0, 1, 0, 1, false⟩, by decide, rfl, rfl⟩
   have : v = 0 \/ v = 1 \/ v = 2 \/ v = 3 \/ v = 4 \/ v = 5 := by omega
   rcases this with rfl | rfl | rfl | rfl | rfl | rfl <;> assumption
end Go.VC
end

section
namespace Go.VC
open Go.Proofs

end Go.VC
end

section
/- Contracts of the reference's small functions over machines. -/
namespace Go.VC
open Go.Proofs Go.LexS

end Go.VC
end

section
namespace Go.VC
open Go.Proofs

def W48 (p0 : Addr) (p1 : Int) (p2_1 : Bool) (p2_2 p2_3 : Int) (h : Heap) (R : Value -> Heap -> Prop) : Prop :=
 (Wn h [.pointer (some p0)] 74 fun h4 =>
 (Wn h4 (L2 p2_1 p2_2 p2_3) 79 fun h5 =>
 (∃ x6 : Option Addr, hc h5 (aS h 0) = some (.pointer x6) /\
 (NC x6 fun a7 => (∃ x8, rS h5 ⟨a7.block, a7.off + 6, none⟩ x8 /\
 (NB x8.a fun b9 o10 => (Ib p1 x8.n /\
 (∃ x11, rS h5 ⟨b9, o10 + Int.toNat p1 * 1, none⟩ x11 /\
 (∃ x12 x13 x14, aL2 h5 (aS h4 0) x12 x13 x14 /\
 (Fn Pz 102 #[vS x11, .agg ⟨(L2 x12 x13 x14)⟩, .func (.func 103) #[] #[.pointer (some (aS h 0))]] h5
 (fun v15 h18 => ∃ (x16 : Int) (x17 : Bool), v15 = .tuple ⟨[vI x16, .bool x17]⟩ /\
 (sB (!x17)
 (R (vI (-1)) h18)
 ((∃ x19 : Option Addr, hc h18 (aS h 0) = some (.pointer x19) /\
 (NC x19 fun a20 => (∃ x21, rS h18 ⟨a20.block, a20.off + 6, none⟩ x21 /\
 (NB x21.a fun b22 o23 => (Ib p1 x21.n /\
 (∃ x24, rS h18 ⟨b22, o23 + Int.toNat p1 * 1, none⟩ x24 /\
 (NB x24.a fun b25 o26 => (Ib x16 x24.n /\
 (∃ x27, rI h18 ⟨b25, o26 + Int.toNat x16 * 1, none⟩ x27 /\
 R (vI x27) h18))))))))))))))))))))))
theorem vc48 (p0 : Addr) (p1 : Int) (p2_1 : Bool) (p2_2 p2_3 : Int) (h : Heap) (R : Value -> Heap -> Prop) (H : W48 p0 p1 p2_1 p2_2 p2_3 h R) : Fn Pz 48 #[.pointer (some p0), vI p1, .agg ⟨(L2 p2_1 p2_2 p2_3)⟩] h R := fnI (A := .z) (by kernel_rfl) H

def W102 (p0 : Sl) (p1_1 : Bool) (p1_2 p1_3 : Int) (p2 : FuncId) (p2c : Option Addr) (h : Heap) (R : Value -> Heap -> Prop) : Prop :=
 (Wn h (L2 p1_1 p1_2 p1_3) 79 fun h4 =>
 (QII 0 (p0.n : Int) h4 fun I5 i_8 j_9 h10 m7 => (
 (sB (decide (i_8 < j_9))
 ((0 <= (1 : Int) /\ (NB p0.a fun b11 o12 => ((0 <= ((IntKind.wrap .i64 (shrI .u64 (IntKind.wrap .u64 (IntKind.wrap .i64 (i_8 + j_9))) 1)) : Int) /\ ((IntKind.wrap .i64 (shrI .u64 (IntKind.wrap .u64 (IntKind.wrap .i64 (i_8 + j_9))) 1)) : Int) < (p0.n : Nat)) /\
 (∃ x13, rI h10 ⟨b11, o12 + Int.toNat (IntKind.wrap .i64 (shrI .u64 (IntKind.wrap .u64 (IntKind.wrap .i64 (i_8 + j_9))) 1)) * 1, none⟩ x13 /\
 (∃ x14 x15 x16, aL2 h10 (aS h 0) x14 x15 x16 /\
 (bif callable Pz p2 then Fn Pz p2 #[vI x13, .agg ⟨(L2 x14 x15 x16)⟩, .pointer p2c] h10
 (fun v17 h19 => ∃ x18, iI v17 x18 /\
 (sB (decide (x18 < 0))
 ((∃ m20, m20 < m7 /\ I5 (IntKind.wrap .i64 ((IntKind.wrap .i64 (shrI .u64 (IntKind.wrap .u64 (IntKind.wrap .i64 (i_8 + j_9))) 1)) + 1)) j_9 h19 m20))
 ((∃ m21, m21 < m7 /\ I5 i_8 (IntKind.wrap .i64 (shrI .u64 (IntKind.wrap .u64 (IntKind.wrap .i64 (i_8 + j_9))) 1)) h19 m21)))) else ExtW Pz p2 #[vI x13, .agg ⟨(L2 x14 x15 x16)⟩, .pointer p2c] h10
 (fun v17 h19 => ∃ x18, iI v17 x18 /\
 (sB (decide (x18 < 0))
 ((∃ m20, m20 < m7 /\ I5 (IntKind.wrap .i64 ((IntKind.wrap .i64 (shrI .u64 (IntKind.wrap .u64 (IntKind.wrap .i64 (i_8 + j_9))) 1)) + 1)) j_9 h19 m20))
 ((∃ m21, m21 < m7 /\ I5 i_8 (IntKind.wrap .i64 (shrI .u64 (IntKind.wrap .u64 (IntKind.wrap .i64 (i_8 + j_9))) 1)) h19 m21)))))))))))
 ((sB (decide (i_8 < (p0.n : Int)))
 ((NB p0.a fun b22 o23 => (Ib i_8 p0.n /\
 (∃ x24, rI h10 ⟨b22, o23 + Int.toNat i_8 * 1, none⟩ x24 /\
 (∃ x25 x26 x27, aL2 h10 (aS h 0) x25 x26 x27 /\
 (bif callable Pz p2 then Fn Pz p2 #[vI x24, .agg ⟨(L2 x25 x26 x27)⟩, .pointer p2c] h10
 (fun v28 h30 => ∃ x29, iI v28 x29 /\
 R (.tuple ⟨[vI i_8, .bool (x29 == 0)]⟩) h30) else ExtW Pz p2 #[vI x24, .agg ⟨(L2 x25 x26 x27)⟩, .pointer p2c] h10
 (fun v28 h30 => ∃ x29, iI v28 x29 /\
 R (.tuple ⟨[vI i_8, .bool (x29 == 0)]⟩) h30)))))))
 (R (.tuple ⟨[vI i_8, .bool false]⟩) h10)))))))
theorem vc102 (p0 : Sl) (p1_1 : Bool) (p1_2 p1_3 : Int) (p2 : FuncId) (p2c : Option Addr) (h : Heap) (R : Value -> Heap -> Prop) (H : W102 p0 p1_1 p1_2 p1_3 p2 p2c h R) : Fn Pz 102 #[vS p0, .agg ⟨(L2 p1_1 p1_2 p1_3)⟩, .func (.func p2) #[] #[.pointer p2c]] h R := fnI (A := (.s .z (.s .z (.s .z (.s (.b (.l [(9, .one (.int .i64)), (10, .one (.int .i64))] .z)) .z))))) (by kernel_rfl) H

def W103 (p0 : Int) (p1_1 : Bool) (p1_2 p1_3 : Int) (c0 : Addr) (h : Heap) (R : Value -> Heap -> Prop) : Prop :=
 (Wn h (L2 p1_1 p1_2 p1_3) 79 fun h4 =>
 (∃ x5 : Option Addr, hc h4 c0 = some (.pointer x5) /\
 (NC x5 fun a6 => (∃ x7, rS h4 ⟨a6.block, a6.off + 4, none⟩ x7 /\
 (NB x7.a fun b8 o9 => (Ib p0 x7.n /\
 (∃ x10 x11 x12 x13 x14 x15, aL1 h4 ⟨b8, o9 + Int.toNat p0 * 6, none⟩ x10 x11 x12 x13 x14 x15 /\
 (∃ x16 x17 x18, aL2 h4 (aS h 0) x16 x17 x18 /\
 (Fn Pz 63 #[.agg ⟨(L1 x10 x11 x12 x13 x14 x15)⟩] h4
 (fun v19 h23 => ∃ (x20 : Bool) (x21 x22 : Int), v19 = .agg ⟨(L2 x20 x21 x22)⟩ /\
 (Sm [(aS h 0)] h4 h23 /\
 (Fn Pz 104 #[.agg ⟨(L2 x20 x21 x22)⟩, .agg ⟨(L2 x16 x17 x18)⟩] h23
 (fun v24 h26 => ∃ x25, iI v24 x25 /\
 R (vI x25) h26)))))))))))))
theorem vc103 (p0 : Int) (p1_1 : Bool) (p1_2 p1_3 : Int) (c0 : Addr) (h : Heap) (R : Value -> Heap -> Prop) (H : W103 p0 p1_1 p1_2 p1_3 c0 h R) : Fn Pz 103 #[vI p0, .agg ⟨(L2 p1_1 p1_2 p1_3)⟩, .pointer (some c0)] h R := fnI (A := .z) (by kernel_rfl) H

def W14 (p0_1 p0_2 p0_3 : Int) (p0_4 p0_5 p0_6 p1 : Sl) (h : Heap) (R : Value -> Heap -> Prop) : Prop :=
 (Wn h (L0 p0_1 p0_2 p0_3 p0_4 p0_5 p0_6) 26 fun h7 =>
 (∃ x8 x9 x10 x11 x12 x13, aL0 h7 (aS h 0) x8 x9 x10 x11 x12 x13 /\
 (Fn Pz 47 #[.agg ⟨(L0 x8 x9 x10 x11 x12 x13)⟩] h7
 (fun v14 h17 => ∃ x15 : Option Addr, ∃ x16 : Bool, v14 = .tuple ⟨[.pointer x15, .bool x16]⟩ /\
 (sB (!x16)
 (R (.tuple ⟨[vI 0, vI 0, vI 1]⟩) h17)
 ((∃ x18, rI h17 (aS h 2) x18 /\
 (QII x18 0 h17 fun I19 at_22 x_23 h24 m21 => (
 (sB (decide (x_23 < (p1.n : Int)))
 ((NB p1.a fun b25 o26 => (Ib x_23 p1.n /\
 (∃ x27 x28 x29 x30 x31, aL7 h24 ⟨b25, o26 + Int.toNat x_23 * 5, none⟩ x27 x28 x29 x30 x31 /\
 (Wn h24 [vI 0, .bool false, vI 0, vI 0, .slice none 0 0] 37 fun h32 =>
 (Wp h32 (aS h24 0) 5 (L7 x27 x28 x29 x30 x31) fun h33 =>
 (∃ J34 : Int -> Heap -> Prop,
 ((∃ x35, rI h33 (aS h24 0) x35 /\
 (∃ x36, rI h33 (aS h 0) x36 /\
 (sB (x35 == x36)
 ((∃ x37, rB h33 (aS h24 1) x37 /\
 (∃ x38, rI h33 (aS h24 2) x38 /\
 (∃ x39, rI h33 (aS h24 3) x39 /\
 (Fn Pz 48 #[.pointer x15, vI at_22, .agg ⟨(L2 x37 x38 x39)⟩] h33
 (fun v40 h42 => ∃ x41, iI v40 x41 /\
 (J34 x41 h42)))))))
 ((J34 (-1) h33)))))) /\
 (∀ (_ : Env) (k_43 : Int) (h44 : Heap), J34 k_43 h44 ->
 (sB (decide (k_43 < 0))
 (R (.tuple ⟨[vI at_22, vI x_23, vI 23]⟩) h44)
 ((∃ x45, rS h44 (aS h 4) x45 /\
 (NB x45.a fun b46 o47 => (Ib k_43 x45.n /\
 (∃ x48, rI h44 ⟨b46, o47 + Int.toNat k_43 * 6 + 4, none⟩ x48 /\
 (∃ m49, m49 < m21 /\ I19 x48 (IntKind.wrap .i64 (x_23 + 1)) h44 m49)))))))))))))))
 (R (.tuple ⟨[vI at_22, vI (p1.n : Int), vI 0]⟩) h24)))))))))))
theorem vc14 (p0_1 p0_2 p0_3 : Int) (p0_4 p0_5 p0_6 p1 : Sl) (h : Heap) (R : Value -> Heap -> Prop) (H : W14 p0_1 p0_2 p0_3 p0_4 p0_5 p0_6 p1 h R) : Fn Pz 14 #[.agg ⟨(L0 p0_1 p0_2 p0_3 p0_4 p0_5 p0_6)⟩, vS p1] h R := fnI (A := (.s .z (.s .z (.s .z (.s .z (.s (.s .z (.b (.l [(9, .one (.int .i64)), (24, .one (.int .i64))] (.s .z (.s .z (.s (.b (.s .z (.s .z (.j [(12, .one (.int .i64))] .z .z)))) .z)))))) .z)))))) (by kernel_rfl) H

def W25 (p0_1 p0_2 p0_3 : Int) (p0_4 p0_5 p0_6 : Sl) (p1 : Int) (h : Heap) (R : Value -> Heap -> Prop) : Prop :=
 (Wn h (L0 p0_1 p0_2 p0_3 p0_4 p0_5 p0_6) 26 fun h7 =>
 (∃ x8 x9 x10 x11 x12 x13, aL0 h7 (aS h 0) x8 x9 x10 x11 x12 x13 /\
 (Fn Pz 28 #[.agg ⟨(L0 x8 x9 x10 x11 x12 x13)⟩, vI p1] h7
 (fun v14 h16 => ∃ x15, iS v14 x15 /\
 (sB (decide ((x15.n : Int) > 0))
 ((∃ x17, rS h16 (aS h 4) x17 /\
 (NB x15.a fun b18 o19 => (Ib 0 x15.n /\
 (∃ x20, rI h16 ⟨b18, o19 + Int.toNat 0 * 1, none⟩ x20 /\
 (NB x17.a fun b21 o22 => (Ib x20 x17.n /\
 (∃ x23, rB h16 ⟨b21, o22 + Int.toNat x20 * 6 + 1, none⟩ x23 /\
 R (.bool x23) h16))))))))
 (R (.bool false) h16))))))
theorem vc25 (p0_1 p0_2 p0_3 : Int) (p0_4 p0_5 p0_6 : Sl) (p1 : Int) (h : Heap) (R : Value -> Heap -> Prop) (H : W25 p0_1 p0_2 p0_3 p0_4 p0_5 p0_6 p1 h R) : Fn Pz 25 #[.agg ⟨(L0 p0_1 p0_2 p0_3 p0_4 p0_5 p0_6)⟩, vI p1] h R := fnI (A := .z) (by kernel_rfl) H

def W28 (p0_1 p0_2 p0_3 : Int) (p0_4 p0_5 p0_6 : Sl) (p1 : Int) (h : Heap) (R : Value -> Heap -> Prop) : Prop :=
 (Wn h (L0 p0_1 p0_2 p0_3 p0_4 p0_5 p0_6) 26 fun h7 =>
 (∃ x8 x9 x10 x11 x12 x13, aL0 h7 (aS h 0) x8 x9 x10 x11 x12 x13 /\
 (Fn Pz 47 #[.agg ⟨(L0 x8 x9 x10 x11 x12 x13)⟩] h7
 (fun v14 h17 => ∃ x15 : Option Addr, ∃ x16 : Bool, v14 = .tuple ⟨[.pointer x15, .bool x16]⟩ /\
 (sB (!x16)
 (R (.slice none 0 0) h17)
 ((sB (decide (p1 < 0))
 (R (.slice none 0 0) h17)
 ((∃ x18, rI h17 (aS h 1) x18 /\
 (sB (decide (p1 >= x18))
 (R (.slice none 0 0) h17)
 ((NC x15 fun a19 => (∃ x20, rS h17 ⟨a19.block, a19.off + 6, none⟩ x20 /\
 (NB x20.a fun b21 o22 => (Ib p1 x20.n /\
 (∃ x23, rS h17 ⟨b21, o22 + Int.toNat p1 * 1, none⟩ x23 /\
 R (vS x23) h17))))))))))))))))
theorem vc28 (p0_1 p0_2 p0_3 : Int) (p0_4 p0_5 p0_6 : Sl) (p1 : Int) (h : Heap) (R : Value -> Heap -> Prop) (H : W28 p0_1 p0_2 p0_3 p0_4 p0_5 p0_6 p1 h R) : Fn Pz 28 #[.agg ⟨(L0 p0_1 p0_2 p0_3 p0_4 p0_5 p0_6)⟩, vI p1] h R := fnI (A := .z) (by kernel_rfl) H

end Go.VC
end

section
/- Contracts: the move of a state with an event; Next and Run. (Numbers of layer 26's seat.) -/
namespace Go.VC
open Go.Proofs Go.LexS
structure Hv where
 role : Int
 send : Bool
 peer : Int
 label : Int
 vs : Sl
def Hv.cs (x : Hv) : List Value := [.int .i64 x.role, .bool x.send, .int .i64 x.peer, .int .i64 x.label, .slice x.vs.a x.vs.n x.vs.c]
def Hv.ev (x : Hv) : Ev := ⟨x.send, x.peer, x.label⟩
def nxE (m : Mch) (s : Int) (e : Ev) : Int := match m.mv.find? fun y => decide (y.f = s /\ y.ev = e) with | some y => y.t | none => -1
def nxH (m : Mch) (s : Int) (x : Hv) : Int := if x.role = m.role then nxE m s x.ev else -1
theorem nxE_none {m : Mch} {s : Int} {e : Ev} (h : ∀ x ∈ m.mv, x.f = s -> x.ev ≠ e) : nxE m s e = -1 := by
 unfold nxE
 have : (m.mv.find? fun y => decide (y.f = s /\ y.ev = e)) = none := by
  rw [List.find?_eq_none]
  intro x hx hd
  have := of_decide_eq_true hd
  exact h x hx this.1 this.2
 rw [this]
theorem nxE_some {m : Mch} (hD : DetM m) {s : Int} {e : Ev} {k : Nat} {y : Mv} (hk : m.mv[k]? = some y) (hf : y.f = s) (he : y.ev = e) : nxE m s e = y.t := by
 unfold nxE
 cases hq : m.mv.find? fun y => decide (y.f = s /\ y.ev = e) with
 | none =>
  rw [List.find?_eq_none] at hq
  exact absurd (decide_eq_true ⟨hf, he⟩) (hq y (Yb hk))
 | some z =>
  have hz := List.find?_some hq
  obtain ⟨j, hj⟩ := Yf.1 (List.mem_of_find?_eq_some hq)
  have hz2 : z.f = s /\ z.ev = e := of_decide_eq_true hz
  by_cases e1 : j = k
  ·
   subst e1; rw [hk] at hj; cases hj; rfl
  ·
   exact absurd (hz2.2.trans he.symm) (hD j k z y hj hk e1 (by rw [hz2.1, hf])).1
theorem order103 (m : Mch) (sm : Sl) (b k : Nat) (a : Addr) (x : Mv) (e : Ev) (h : Heap) (ha : hc h a = some (.pointer (some ⟨b, 0, none⟩))) (hb : hc h ⟨b, 0 + 4, none⟩ = some (.slice sm.a sm.n sm.c)) (hr : Rw h 6 sm (m.mv.map Mv.cs)) (hx : m.mv[k]? = some x) :
  Fn Pz 103 #[.int .i64 (k : Nat), .agg ⟨e.cs⟩, .pointer (some a)] h fun v h' => v = .int .i64 (cmpE x.ev e) /\ Ext h h' := by
 apply vc103 _ e.send e.peer e.label; unfold W103
 have hn := hr.ln
 have hxl := (Ya.1 hx).1
 refine (St.refl h).newb fun h4 hs => ?_
 refine ⟨_, hc_ext hs.ext ha, ?_⟩
 refine ⟨sm, hc_ext hs.ext hb, ?_⟩
 refine (hr.ext hs.ext).nbI (by omega) (by omega) fun b8 o9 x' gx t => ?_
 replace gx : m.mv[k]? = some x' := gx
 rw [hx] at gx; cases gx
 refine ⟨_, _, _, _, _, _, t, _, _, _, hs.at 0 rfl (o := 0) (n := 3) rfl, ?_⟩
 refine (M.of63 x h4).mono ?_
 rintro _ h23 ⟨rfl, E⟩
 have hs := hs.step E
 refine ⟨_, _, _, rfl, E.sm, ?_⟩
 refine (M.compare104 x.ev e h23).mono ?_
 rintro _ h26 ⟨rfl, E2⟩
 exact ⟨_, rfl, rfl, (hs.step E2).ext⟩
theorem cal103 : callable Pz 103 = true := by kernel_rfl
theorem mid_nat {i j : Nat} (hi : i <= 1048576) (hj : j <= 1048576) : IntKind.wrap .i64 (shrI .u64 (IntKind.wrap .u64 (IntKind.wrap .i64 ((i : Int) + (j : Int)))) 1) = (((i + j) / 2 : Nat) : Int) := by
 have e1 : IntKind.wrap .i64 ((i : Int) + (j : Int)) = ((i + j : Nat) : Int) := by rw [w64 (by omega) (by omega)]; omega
 have e2 : shrI .u64 ((i + j : Nat) : Int) 1 = (((i + j) / 2 ^ 1 : Nat) : Int) := shr_nat (k := 1) (by decide)
 rw [e1, wu64 (by omega) (by omega), e2, show (2 ^ 1 : Nat) = 2 from rfl, w64 (by omega) (by omega)]
theorem cmpE_zero {x y : Ev} (h : cmpE x y = 0) : x = y := by
 unfold cmpE at h
 split at h
 ·
  split at h <;> omega
 ·
  rename_i hs
  unfold orI3 at h
  split at h
  ·
   rename_i h1; exact absurd h h1
  ·
   rename_i h1
   exact ev_ext (Classical.not_not.1 hs) (cmpI_zero.1 (Classical.not_not.1 h1)) (cmpI_zero.1 h)
theorem search102 (m : Mch) (sm : Sl) (b c : Nat) (l : List Nat) (s : Sl) (e : Ev) (h : Heap) (ha : hc h ⟨c, 0, none⟩ = some (.pointer (some ⟨b, 0, none⟩))) (hb : hc h ⟨b, 0 + 4, none⟩ = some (.slice sm.a sm.n sm.c)) (hr : Rw h 6 sm (m.mv.map Mv.cs))
  (hl : Rw h 1 s ((natI l).map inC)) (hlm : ∀ k ∈ l, ∃ x, m.mv[k]? = some x) (hll : l.length <= 1048576) (hso : ∀ (j i : Nat) (a b : Nat), i < j -> l[i]? = some a -> l[j]? = some b -> evLt (evI m a) (evI m b)) :
  Fn Pz 102 #[.slice s.a s.n s.c, .agg ⟨e.cs⟩, .func (.func 103) #[] #[.pointer (some ⟨c, 0, none⟩)]] h fun v h' => Ext h h' /\ ∃ (i : Int) (f : Bool), v = .tuple ⟨[.int .i64 i, .bool f]⟩ /\ (f = true -> ∃ (j k : Nat), i = (j : Int) /\ l[j]? = some k /\ evI m k = e) /\ (f = false -> ∀ k ∈ l, evI m k ≠ e) := by
 apply vc102 s e.send e.peer e.label 103 (some ⟨c, 0, none⟩); unfold W102
 have hn := hl.ln
 rw [show (natI l).length = l.length from Yc _] at hn
 refine (St.refl h).newb fun h4 hs => ?_
 refine ⟨fun x y h' μ => ∃ i j : Nat, x = i /\ y = j /\ i <= j /\ j <= s.n /\ μ = j - i /\ St h h' [.blk h.size e.cs 79] /\ (∀ (t : Nat) k, t < i -> l[t]? = some k -> evLt (evI m k) e) /\ ∀ (t : Nat) k, j <= t -> l[t]? = some k -> ¬ evLt (evI m k) e,
  ⟨_, 0, s.n, rfl, rfl, by omega, Nat.le_refl _, rfl, hs, fun t k ht => by omega, fun t k ht hk => by have := (Ya.1 hk).1; omega⟩, ?_⟩
 clear hs
 rintro - _ _ h10 μ ⟨i, j, rfl, rfl, hij, hj, rfl, hs, hlo, hhi⟩
 refine sBi (fun c1 => ?_) (fun c1 => ?_)
 ·
  rw [mid_nat (by omega) (by omega)]
  refine ⟨by decide, ?_⟩
  refine (hl.ext hs.ext).nbI (by omega) (by omega) fun b11 o12 d gd t => ?_
  replace gd : (natI l)[(i + j) / 2]? = some d := gd
  obtain ⟨k, hk, rfl⟩ := natI_get gd
  obtain ⟨x, hx⟩ := hlm k (Yb hk)
  refine ⟨_, t.nth 0 rfl, _, _, _, hs.at 0 rfl (o := 0) (n := 3) rfl, ?_⟩
  rw [cal103, cond_true]
  refine (order103 m sm b k ⟨c, 0, none⟩ x e h10 (hc_ext hs.ext ha) (hc_ext hs.ext hb) (hr.ext hs.ext) hx).mono ?_
  rintro _ h19 ⟨rfl, E⟩
  have hs := hs.step E
  have hev : evI m k = x.ev := evI_of hx
  refine ⟨_, rfl, sBi (fun c2 => ?_) (fun c2 => ?_)⟩
  ·
   rw [cmpE_neg] at c2
   refine ⟨_, ?_, (i + j) / 2 + 1, j, by rw [w64 (by omega) (by omega)]; omega, rfl, by omega, hj, rfl, hs, fun t k' ht hk' => ?_, hhi⟩
   ·
    omega
   ·
    by_cases et : t = (i + j) / 2
    ·
     subst et; rw [hk] at hk'; cases hk'; rw [hev]; exact c2
    ·
     have h1 := hso ((i + j) / 2) t k' k (by omega) hk' hk
     rw [hev] at h1
     exact evLt_trans h1 c2
  ·
   rw [cmpE_neg] at c2
   refine ⟨_, ?_, i, (i + j) / 2, rfl, rfl, by omega, by omega, rfl, hs, hlo, fun t k' ht hk' => ?_⟩
   ·
    omega
   ·
    by_cases et : t = (i + j) / 2
    ·
     subst et; rw [hk] at hk'; cases hk'; rw [hev]; exact c2
    ·
     have h1 := hso t ((i + j) / 2) k k' (by omega) hk hk'
     rw [hev] at h1
     exact fun h2 => c2 (evLt_trans h1 h2)
 ·
  have hijj : i = j := by omega
  subst hijj
  refine sBi (fun c2 => ?_) (fun c2 => ⟨hs.ext, _, false, rfl, (fun hf => by cases hf), fun _ k hk he => ?_⟩)
  ·
   refine (hl.ext hs.ext).nbI (by omega) (by omega) fun b22 o23 d gd t => ?_
   replace gd : (natI l)[i]? = some d := gd
   obtain ⟨k, hk, rfl⟩ := natI_get gd
   obtain ⟨x, hx⟩ := hlm k (Yb hk)
   refine ⟨_, t.nth 0 rfl, _, _, _, hs.at 0 rfl (o := 0) (n := 3) rfl, ?_⟩
   rw [cal103, cond_true]
   refine (order103 m sm b k ⟨c, 0, none⟩ x e h10 (hc_ext hs.ext ha) (hc_ext hs.ext hb) (hr.ext hs.ext) hx).mono ?_
   rintro _ h30 ⟨rfl, E⟩
   have hev : evI m k = x.ev := evI_of hx
   refine ⟨_, rfl, (hs.step E).ext, _, _, rfl, fun hf => ⟨i, k, rfl, hk, ?_⟩, fun hf k' hk' he => ?_⟩
   ·
    have h0 : cmpE x.ev e = 0 := by simpa using hf
    rw [hev]
    exact cmpE_zero h0
   ·
    have h0 : cmpE x.ev e ≠ 0 := by simpa using hf
    obtain ⟨t, ht⟩ := Yf.1 hk'
    rcases Nat.lt_trichotomy t i with h1 | h1 | h1
    ·
     have := hlo t k' h1 ht
     rw [he] at this
     exact evLt_irr _ this
    ·
     subst h1
     rw [hk] at ht; cases ht
     rw [hev] at he
     apply h0
     rw [he]
     unfold cmpE orI3 cmpI
     simp
    ·
     have h2 := hso t i k k' h1 hk ht
     rw [he, hev] at h2
     exact hhi i k (Nat.le_refl _) hk (by rw [hev]; exact h2)
  ·
   obtain ⟨t, ht⟩ := Yf.1 hk
   have htl := (Ya.1 ht).1
   have := hlo t k (by omega) ht
   rw [he] at this
   exact evLt_irr _ this
theorem find48 (m : Mch) (sf sm sl : Sl) (b : Nat) (S : Nat -> List Nat) (s : Int) (e : Ev) (h : Heap) (hM : MI h m sf sm sl) (hV : VM m) (hT : TbI h ⟨b, 0, none⟩ m sf sm sl S) (h0 : 0 <= s) (h1 : s < m.n) :
  Fn Pz 48 #[.pointer (some ⟨b, 0, none⟩), .int .i64 s, .agg ⟨e.cs⟩] h fun v h' => Ext h h' /\ ((v = .int .i64 (-1) /\ nxE m s e = -1) \/ ∃ (k : Nat) (y : Mv), v = .int .i64 (k : Nat) /\ m.mv[k]? = some y /\ nxE m s e = y.t) := by
 apply vc48 ⟨b, 0, none⟩ s e.send e.peer e.label; unfold W48
 obtain ⟨ho, qs, _, hat, hhn, hho, hqs⟩ := hT.ex
 have hmn := hM.pm.ln
 have hmm := hM.pm.sm
 have hvl : s.toNat < m.n.toNat := by omega
 have hS := hT.so s.toNat hvl
 have hrow := hqs s.toNat hvl
 have hsi : ((s.toNat : Nat) : Int) = s := by omega
 refine (St.refl h).newb fun h4 hs => ?_
 refine hs.newb fun h5 hs => ?_
 refine ⟨_, hs.rd 1 rfl rfl, ?_⟩
 refine ⟨ho, (atC_ext hs.ext hat).nth 6 rfl, ?_⟩
 refine (hho.ext hs.ext).nbI (by omega) (by omega) fun b9 o10 v gv t => ?_
 have hv : v = s.toNat := by rw [Yyb hvl] at gv; exact (Option.some.inj gv).symm
 subst hv
 have hlm : ∀ k ∈ S s.toNat, ∃ x, m.mv[k]? = some x /\ x.f = s := fun k hk => by
  obtain ⟨x, hx, hf⟩ := outIx_mem.1 (hS.p.mem_iff.1 hk)
  exact ⟨x, hx, by omega⟩
 have hll : (S s.toNat).length <= 1048576 := by
  rw [hS.p.length_eq]
  unfold outIx
  exact Nat.le_trans (List.length_filter_le _ _) (by rw [Yyd]; omega)
 have hnd := hS.p.nodup_iff.2 (outIx_nodup m ((s.toNat : Nat) : Int))
 have hso : ∀ (j i : Nat) (a b : Nat), i < j -> (S s.toNat)[i]? = some a -> (S s.toNat)[j]? = some b -> evLt (evI m a) (evI m b) := by
  refine srt_lt hS fun j a b ha hb => ?_
  obtain ⟨x, hx, hxf⟩ := hlm a (Yb ha)
  obtain ⟨y, hy, hyf⟩ := hlm b (Yb hb)
  have hne : a ≠ b := fun e => by
   have h1 := (Ya.1 ha)
   have h2 := (Ya.1 hb)
   have h3 := (List.pairwise_iff_getElem.1 hnd) j (j + 1) h1.1 h2.1 (by omega)
   rw [h1.2, h2.2] at h3
   exact h3 e
  rw [evI_of hx, evI_of hy]
  exact (hV.d a b x y hx hy hne (by omega)).1
 refine ⟨_, t.hd, _, _, _, hs.at 0 rfl (o := 0) (n := 3) rfl, ?_⟩
 refine (search102 m sm b h.size (S s.toNat) (qs s.toNat) e h5 (hs.rd 1 rfl rfl) ((atC_ext hs.ext hat).nth 4 rfl) (hM.pm.rw.ext hs.ext) (hrow.ext hs.ext) (fun k hk => (hlm k hk).imp fun x hx => hx.1) hll hso).mono ?_
 rintro _ h18 ⟨E, i, f, rfl, hft, hff⟩
 have hs := hs.step E
 refine ⟨_, _, rfl, sB_intro (fun c => ?_) (fun c => ?_)⟩
 ·
  refine ⟨hs.ext, .inl ⟨rfl, nxE_none fun x hx hxf => ?_⟩⟩
  obtain ⟨k, hk⟩ := Yf.1 hx
  have := hff (bF c) k (hS.p.mem_iff.2 (outIx_mem.2 ⟨x, hk, by omega⟩))
  rwa [evI_of hk] at this
 ·
  obtain ⟨j, k, rfl, hjk, hev⟩ := hft (bT c)
  obtain ⟨x, hx, hxf⟩ := hlm k (Yb hjk)
  have hjl := (Ya.1 hjk).1
  refine ⟨_, hs.rd 1 rfl rfl, ho, (atC_ext hs.ext hat).nth 6 rfl, ?_⟩
  refine (hho.ext hs.ext).nbI (by omega) (by omega) fun b22 o23 v gv t => ?_
  have hv : v = s.toNat := by rw [Yyb hvl] at gv; exact (Option.some.inj gv).symm
  subst hv
  have hrn := hrow.ln
  rw [show (natI (S s.toNat)).length = (S s.toNat).length from Yc _] at hrn
  refine ⟨_, t.hd, ?_⟩
  refine (hrow.ext hs.ext).nbI (by omega) (by omega) fun b25 o26 d gd t2 => ?_
  replace gd : (natI (S s.toNat))[j]? = some d := gd
  obtain ⟨k', hk', rfl⟩ := natI_get gd
  rw [hjk] at hk'; cases hk'
  refine ⟨_, t2.nth 0 rfl, hs.ext, .inr ⟨k, x, rfl, hx, nxE_some hV.d hx hxf ?_⟩⟩
  rw [<- evI_of hx]; exact hev
def runN (m : Mch) : Int -> Nat -> List Hv -> Int × Nat × Int
 | s, i, [] => (s, i, 0)
 | s, i, x :: l => if 0 <= nxH m s x then runN m (nxH m s x) (i + 1) l else (s, i, 23)
def runV (r : Int × Nat × Int) : Value := .tuple ⟨[.int .i64 r.1, .int .i64 (r.2.1 : Nat), .int .i64 r.2.2]⟩
theorem newput' {h0 h : Heap} {L : List It} {zs vs : List Value} {e : TypeId} {K : Heap -> Prop} {n : Nat} (hn : n = vs.length) (hl : zs.length = vs.length) (hs : St h0 h L) (hK : ∀ h3, Ext h h3 -> St h0 h3 (.blk h.size vs e :: L) -> K h3) :
  ∀ h2 : Heap, h2 = h.push (.cells ⟨zs⟩ e) -> okAt h2 ⟨h.size, 0, none⟩ n /\ ∀ h3 : Heap, h3 = hputs h2 ⟨h.size, 0, none⟩ 0 vs -> K h3 := by
 subst hn
 exact VC.newput hl fun h3 E o => hK h3 E (hs.more E (i := .blk h.size vs e) o fun b hb => by cases hb; exact Nat.le_refl _)
open Classical in
theorem run14 (m : Mch) (sf sm sl : Sl) (L : List Hv) (s : Sl) (h : Heap) (hM : MI h m sf sm sl) (hL : Rw h 5 s (L.map Hv.cs)) (hLm : L.length <= 1048576) :
  Fn Pz 14 #[.agg ⟨mC m sf sm sl⟩, .slice s.a s.n s.c] h fun v h' => v = runV (if VM m then runN m m.s 0 L else (0, 0, 1)) /\ Ext h h' := by
 apply vc14 m.role m.n m.s sf sm sl; unfold W14
 have hmn := hM.pm.ln
 have hsn := hL.ln
 refine (St.refl h).newb fun h7 hs => ?_
 refine ⟨_, _, _, sf, sm, sl, hs.at 0 rfl (o := 0) (n := 6) rfl, ?_⟩
 refine (open47 m sf sm sl h7 (hM.ext hs.ext)).mono ?_
 rintro _ h17 ⟨E, p, b, rfl, hb, hbT⟩
 have hs := hs.step E
 refine ⟨_, _, rfl, sB_intro (fun c => ⟨by rw [if_neg (iff_f hb (bF c))]; rfl, hs.ext⟩) (fun c => ?_)⟩
 obtain ⟨b0, S, rfl, hT⟩ := hbT (bT c)
 have hV := hb.1 (bT c)
 rw [if_pos hV]
 have hms := hV.n.s
 refine ⟨_, hs.rd 0 rfl rfl, ?_⟩
 refine ⟨fun a x h' μ => ∃ i : Nat, x = i /\ i <= s.n /\ μ = s.n - i /\ 0 <= a /\ a < m.n /\ runN m m.s 0 L = runN m a i (L.drop i) /\ St h h' [.blk h.size (mC m sf sm sl) 26] /\ TbI h' ⟨b0, 0, none⟩ m sf sm sl S, ⟨_, 0, rfl, by omega, rfl, hms.1, hms.2, rfl, hs, hT⟩, ?_⟩
 clear hs hT
 rintro - a _ h24 μ ⟨i, rfl, hi, rfl, ha0, ha1, hrun, hs, hT⟩
 refine sB_intro (fun c1 => ?_) (fun c1 => ?_)
 ·
  replace c1 := lt_t c1
  refine (hL.ext hs.ext).nbI (by omega) (by omega) fun b25 o26 x gx t => ?_
  replace gx : L[i]? = some x := gx
  have hdr : L.drop i = x :: L.drop (i + 1) := drop_get gx
  rw [hdr, runN] at hrun
  refine ⟨_, _, _, _, _, t, ?_⟩
  refine newput' (vs := x.cs) rfl rfl hs fun h33 E33 hs => ?_
  have hT := hT.ext E33
  refine ⟨fun k h' => St h h' [.blk h24.size x.cs 37, .blk h.size (mC m sf sm sl) 26] /\ TbI h' ⟨b0, 0, none⟩ m sf sm sl S /\ ((k = -1 /\ nxH m a x = -1) \/ ∃ (kn : Nat) (y : Mv), k = (kn : Int) /\ m.mv[kn]? = some y /\ nxH m a x = y.t), ?_, ?_⟩
  ·
   refine ⟨_, hs.rd 0 rfl rfl, _, hs.rd 1 rfl rfl, sBe (fun c2 => ?_) (fun c2 => ?_)⟩
   ·
    refine ⟨_, hs.rd 0 rfl rfl, _, hs.rd 0 rfl rfl, _, hs.rd 0 rfl rfl, ?_⟩
    refine (find48 m sf sm sl b0 S a x.ev h33 (hM.ext hs.ext) hV hT ha0 ha1).mono ?_
    rintro _ h42 ⟨E, hr⟩
    have hnx : nxH m a x = nxE m a x.ev := by unfold nxH; rw [if_pos c2]
    rcases hr with ⟨rfl, hn⟩ | ⟨k, y, rfl, hy, hn⟩
    ·
     exact ⟨_, rfl, hs.step E, hT.ext E, .inl ⟨rfl, by rw [hnx, hn]⟩⟩
    ·
     exact ⟨_, rfl, hs.step E, hT.ext E, .inr ⟨k, y, rfl, hy, by rw [hnx, hn]⟩⟩
   ·
    exact ⟨hs, hT, .inl ⟨rfl, by unfold nxH; rw [if_neg c2]⟩⟩
  ·
   clear hs hT
   rintro - k h44 ⟨hs, hT, hk⟩
   rcases hk with ⟨rfl, hn⟩ | ⟨kn, y, rfl, hy, hn⟩
   ·
    refine sBi (fun _ => ⟨?_, hs.ext⟩) (fun c3 => absurd (by decide) c3)
    rw [hrun, if_neg (by omega)]; rfl
   ·
    have hyl := (Ya.1 hy).1
    have hyr := hV.n.mv y (Yb hy)
    refine sBi (fun c3 => by omega) (fun _ => ?_)
    refine ⟨sm, hs.rd 1 rfl rfl, ?_⟩
    refine (hM.pm.rw.ext hs.ext).nbI (by omega) (by omega) fun b46 o47 y' gy t2 => ?_
    replace gy : m.mv[kn]? = some y' := gy
    rw [hy] at gy; cases gy
    refine ⟨_, t2.nth 4 rfl, s.n - (i + 1), by omega, i + 1, by rw [w64 (by omega) (by omega)]; omega, by omega, rfl, by omega, by omega, ?_, hs.drop 1, hT⟩
    rw [hrun, if_pos (by omega), hn]
 ·
  replace c1 := lt_f c1
  have his : i = s.n := by omega
  subst his
  refine ⟨?_, hs.ext⟩
  rw [hrun, List.drop_eq_nil_of_le (by omega)]; rfl
end Go.VC
end

section
/- Contract: the laws of layer 26 are awake. -/
namespace Go.VC
open Go.Proofs Go.LexS
def exM : Mch := ⟨2, 4, 0, [false, false, false, true], [⟨0, false, 1, 0, 1, false⟩, ⟨0, false, 1, 1, 2, false⟩, ⟨1, true, 1, 2, 3, false⟩, ⟨2, true, 1, 3, 3, false⟩], []⟩
theorem ex_raw_true (hr hd he ht : Sl) : rawC (exGl true hr hd he ht) 2 = some (some exM, 0) := by kernel_rfl
theorem ex_min : minF exM = exM := by kernel_rfl
theorem ex_true (hr hd he ht : Sl) : proj (exGl true hr hd he ht) 2 = (some exM, 0) := by
 have := rawC_ok (ex_valid true hr hd he ht) (by decide) (show (2 : Int) < ((3 : Nat) : Int) by decide) (ex_raw_true hr hd he ht)
 unfold proj
 rw [this]
 show (some (minF exM), 0) = _
 rw [ex_min]
theorem exM_get (i : Nat) (x : Mv) (h : exM.mv[i]? = some x) : (i = 0 /\ x = ⟨0, false, 1, 0, 1, false⟩) \/ (i = 1 /\ x = ⟨0, false, 1, 1, 2, false⟩) \/ (i = 2 /\ x = ⟨1, true, 1, 2, 3, false⟩) \/ (i = 3 /\ x = ⟨2, true, 1, 3, 3, false⟩) := by
 match i, h with
 | 0, h => exact .inl ⟨rfl, (Option.some.inj h).symm⟩
 | 1, h => exact .inr (.inl ⟨rfl, (Option.some.inj h).symm⟩)
 | 2, h => exact .inr (.inr (.inl ⟨rfl, (Option.some.inj h).symm⟩))
 | 3, h => exact .inr (.inr (.inr ⟨rfl, (Option.some.inj h).symm⟩))
 | n + 4, h => exact absurd h (by simp [exM])
theorem exM_mem (x : Mv) (h : x ∈ exM.mv) : x = ⟨0, false, 1, 0, 1, false⟩ \/ x = ⟨0, false, 1, 1, 2, false⟩ \/ x = ⟨1, true, 1, 2, 3, false⟩ \/ x = ⟨2, true, 1, 3, 3, false⟩ := by
 obtain ⟨i, hi⟩ := Yf.1 h
 rcases exM_get i x hi with ⟨_, e⟩ | ⟨_, e⟩ | ⟨_, e⟩ | ⟨_, e⟩
 ·
  exact .inl e
 ·
  exact .inr (.inl e)
 ·
  exact .inr (.inr (.inl e))
 ·
  exact .inr (.inr (.inr e))
theorem exM_ag (x : Mv) (h : x ∈ exM.mv) : x.ag = false := by
 rcases exM_mem x h with rfl | rfl | rfl | rfl <;> rfl
theorem exVM : VM exM := by
 refine ⟨⟨⟨by decide, by decide⟩, ⟨by decide, by decide⟩, ⟨by decide, by decide⟩, rfl, by decide, fun x hx => ?_⟩, fun i k x y hx hy hne hf => ?_, fun v h0 h1 => ?_, ⟨fun x hx ha => ?_, fun x hx ha => ?_, fun x hx ha => ?_, fun x hx ha => ?_, fun x hx ha => ?_⟩, fun i t h => ?_⟩
 ·
  rcases exM_mem x hx with rfl | rfl | rfl | rfl <;> decide
 ·
  rcases exM_get i x hx with ⟨rfl, rfl⟩ | ⟨rfl, rfl⟩ | ⟨rfl, rfl⟩ | ⟨rfl, rfl⟩ <;> rcases exM_get k y hy with ⟨rfl, rfl⟩ | ⟨rfl, rfl⟩ | ⟨rfl, rfl⟩ | ⟨rfl, rfl⟩ <;> first
   | exact absurd rfl hne
   | exact absurd hf (by decide)
   | exact ⟨fun e => absurd (congrArg Ev.label e) (by decide), rfl⟩
 ·
  have q0 : Qr (meds exM) (-1) [exM.s] 0 := .base (Ye.2 rfl)
  have q1 : Qr (meds exM) (-1) [exM.s] 1 := .step q0 ⟨⟨0, 0, 0, 0, 1, false⟩, Yp.2 ⟨⟨0, false, 1, 0, 1, false⟩, by simp [exM], rfl⟩, rfl, rfl, rfl⟩
  have q2 : Qr (meds exM) (-1) [exM.s] 2 := .step q0 ⟨⟨0, 0, 0, 0, 2, false⟩, Yp.2 ⟨⟨0, false, 1, 1, 2, false⟩, by simp [exM], rfl⟩, rfl, rfl, rfl⟩
  have q3 : Qr (meds exM) (-1) [exM.s] 3 := .step q1 ⟨⟨1, 0, 0, 0, 3, false⟩, Yp.2 ⟨⟨1, true, 1, 2, 3, false⟩, by simp [exM], rfl⟩, rfl, rfl, rfl⟩
  have h1 : v < 4 := h1
  have : v = 0 \/ v = 1 \/ v = 2 \/ v = 3 := by omega
  rcases this with rfl | rfl | rfl | rfl
  ·
   exact q0
  ·
   exact q1
  ·
   exact q2
  ·
   exact q3
 ·
  rw [exM_ag x hx] at ha; cases ha
 ·
  rw [exM_ag x hx] at ha; cases ha
 ·
  rw [exM_ag x hx] at ha; cases ha
 ·
  rw [exM_ag x hx] at ha; cases ha
 ·
  rw [exM_ag x hx] at ha; cases ha
 ·
  simp [exM] at h
def evA (l : Int) : Hv := ⟨2, false, 1, l, ⟨none, 0, 0⟩⟩
def evB : Hv := ⟨2, true, 1, 2, ⟨none, 0, 0⟩⟩
theorem ex_run0 : runN exM exM.s 0 [evA 0, evB] = (3, 2, 0) := by kernel_rfl
theorem ex_run1 : runN exM exM.s 0 [evA 1, evB] = (2, 1, 23) := by kernel_rfl
theorem hvrows (L : List Hv) : ∀ r ∈ L.map Hv.cs, r.length = 5 := fun r hr => by obtain ⟨x, _, rfl⟩ := Yp.1 hr; rfl
set_option maxHeartbeats 1600000 in
theorem awake12 (h : Heap) (hx : Gx h) : Fn Pz 12 #[] h fun v h' => v = .bool true /\ Ext h h' := by
 apply vc12; unfold W12
 have hs := St.refl h
 refine (example34 true h).mono ?_
 rintro _ h10 ⟨E10, hr, hd, he, rfl, hg⟩
 refine ⟨_, hr, hd, _, _, _, he, ⟨none, 0, 0⟩, rfl, ?_⟩
 refine (project12 _ 2 h10 hg (hx.ext E10)).mono ?_
 rintro _ h19 ⟨E19, hm⟩
 rw [ex_true] at hm
 cases hm with
 | err he0 _ => cases he0
 | @ok m sf sm sl he0 hs2 =>
  cases he0
  have hM : MI h19 exM sf sm sl := ⟨hs2.rl 0 rfl (by omega) (by decide), hs2.rl 1 rfl (by omega) (by decide), hs2.rl 2 rfl (by omega) (by decide)⟩
  have E0 : Ext h h19 := E10.trans E19
  refine ⟨_, _, _, sf, sm, sl, 0, rfl, ?_⟩
  refine (St.refl h19).newput (vs := mC exM sf sm sl) rfl rfl fun h21 hs => ?_
  refine hs.newb fun h22 hs => ?_
  refine hs.newb fun h23 hs => ?_
  refine hs.put 1 rfl (o := 0) (vs := (evA 0).cs) rfl (show 5 <= 5 by decide) fun h24 hs => ?_
  refine hs.put 0 rfl (o := 0) (vs := evB.cs) rfl (show 5 <= 5 by decide) fun h25 hs => ?_
  refine ⟨_, _, _, sf, sm, sl, hs.at 2 rfl (o := 0) (n := 6) rfl, _, _, _, _, ⟨none, 0, 0⟩, hs.at 1 rfl (o := 0) (n := 5) rfl, _, _, _, _, ⟨none, 0, 0⟩, hs.at 0 rfl (o := 0) (n := 5) rfl, ?_⟩
  refine hs.newb fun h42 hs => ?_
  have hs := hs.blkS 2 5 ([evA 0, evB].map Hv.cs) rfl (hvrows _) rfl (by decide)
  refine (run14 exM sf sm sl [evA 0, evB] _ h42 (hM.ext hs.ext) (hs.rows 0 rfl (by omega)) (by decide)).mono ?_
  rintro _ h47 ⟨rfl, E⟩
  have hs := hs.step E
  rw [if_pos exVM, ex_run0]
  refine ⟨_, _, _, rfl, ?_⟩
  refine hs.put 2 rfl (o := 3) (vs := [.int .i64 1]) rfl (show 3 + 1 <= 5 by decide) fun h48 hs => ?_
  refine ⟨_, _, _, sf, sm, sl, hs.at 3 rfl (o := 0) (n := 6) rfl, _, _, _, _, ⟨none, 0, 0⟩, hs.at 2 rfl (o := 0) (n := 5) rfl, _, _, _, _, ⟨none, 0, 0⟩, hs.at 1 rfl (o := 0) (n := 5) rfl, ?_⟩
  refine hs.newb fun h65 hs => ?_
  have hs := hs.blkS 2 5 ([evA 1, evB].map Hv.cs) rfl (hvrows _) rfl (by decide)
  refine (run14 exM sf sm sl [evA 1, evB] _ h65 (hM.ext hs.ext) (hs.rows 0 rfl (by omega)) (by decide)).mono ?_
  rintro _ h70 ⟨rfl, E⟩
  have hs := hs.step E
  rw [if_pos exVM, ex_run1]
  refine ⟨_, _, _, rfl, ?_⟩
  refine sB_t rfl (sB_t rfl (sB_t rfl (sB_t rfl (sB_t rfl ?_))))
  refine ⟨_, _, _, sf, sm, sl, hs.at 4 rfl (o := 0) (n := 6) rfl, ?_⟩
  refine (valid23 exM sf sm sl h70 (hM.ext hs.ext)).mono ?_
  rintro _ h79 ⟨⟨b, rfl, hb⟩, E⟩
  exact ⟨_, rfl, by rw [hb.2 exVM], E0.trans (hs.step E).ext⟩
end Go.VC
end

section
/- The walk of the law of histories step by step. (Numbers of layer 26's seat.) -/
namespace Go.VC
open Go.Proofs Go.LexS
end Go.VC
end

section
namespace Go.VC
open Go.Proofs

def W3 (p0_1 p0_2 p0_3 : Int) (p0_4 p0_5 p0_6 : Sl) (p1_7 p1_8 p1_9 : Int) (p1_10 p1_11 p1_12 p2 : Sl) (h : Heap) (R : Value -> Heap -> Prop) : Prop :=
 (Wn h (L0 p0_1 p0_2 p0_3 p0_4 p0_5 p0_6) 26 fun h13 =>
 (Wn h13 (L0 p1_7 p1_8 p1_9 p1_10 p1_11 p1_12) 26 fun h14 =>
 (Fn Pz 12 #[] h14
 (fun v15 h17 => ∃ x16, iB v15 x16 /\
 (sB (!x16)
 (R (.bool false) h17)
 ((∃ x18 x19 x20 x21 x22 x23, aL0 h17 (aS h 0) x18 x19 x20 x21 x22 x23 /\
 (Fn Pz 13 #[.agg ⟨(L0 x18 x19 x20 x21 x22 x23)⟩] h17
 (fun v24 h26 => ∃ x25, iB v24 x25 /\
 (sB (!x25)
 (R (.bool true) h26)
 ((∃ x27 x28 x29 x30 x31 x32, aL0 h26 (aS h13 0) x27 x28 x29 x30 x31 x32 /\
 (Fn Pz 13 #[.agg ⟨(L0 x27 x28 x29 x30 x31 x32)⟩] h26
 (fun v33 h35 => ∃ x34, iB v33 x34 /\
 (sB (!x34)
 (R (.bool true) h35)
 ((sB (decide ((p2.n : Int) > 30))
 (R (.bool true) h35)
 ((∃ x36 x37 x38 x39 x40 x41, aL0 h35 (aS h 0) x36 x37 x38 x39 x40 x41 /\
 (Fn Pz 14 #[.agg ⟨(L0 x36 x37 x38 x39 x40 x41)⟩, vS p2] h35
 (fun v42 h46 => ∃ (x43 x44 x45 : Int), v42 = .tuple ⟨(L4 x43 x44 x45)⟩ /\
 (∃ x47 x48 x49 x50 x51 x52, aL0 h46 (aS h 0) x47 x48 x49 x50 x51 x52 /\
 (Fn Pz 15 #[.agg ⟨(L0 x47 x48 x49 x50 x51 x52)⟩, vS p2] h46
 (fun v53 h57 => ∃ (x54 x55 x56 : Int), v53 = .tuple ⟨(L4 x54 x55 x56)⟩ /\
 (sB (x43 == x54)
 ((sB (x44 == x55)
 ((sB (x45 == x56)
 ((∃ x58 x59 x60 x61 x62 x63, aL0 h57 (aS h 0) x58 x59 x60 x61 x62 x63 /\
 (∃ x64 x65 x66 x67 x68 x69, aL0 h57 (aS h13 0) x64 x65 x66 x67 x68 x69 /\
 (∃ x70 x71 x72 x73 x74 x75, aL0 h57 (aS h 0) x70 x71 x72 x73 x74 x75 /\
 (∃ x76 x77 x78 x79 x80 x81, aL0 h57 (aS h13 0) x76 x77 x78 x79 x80 x81 /\
 (Fn Pz 16 #[.agg ⟨(L0 x58 x59 x60 x61 x62 x63)⟩, .agg ⟨(L0 x64 x65 x66 x67 x68 x69)⟩] h57
 (fun v82 h84 => ∃ x83, iB v82 x83 /\
 (Sm [(aS h13 0), (aS h 0)] h57 h84 /\
 (Fn Pz 17 #[.agg ⟨(L0 x70 x71 x72 x73 x74 x75)⟩, .agg ⟨(L0 x76 x77 x78 x79 x80 x81)⟩] h84
 (fun v85 h87 => ∃ x86, iB v85 x86 /\
 (Sm [(aS h13 0), (aS h 0)] h84 h87 /\
 (sB (x83 == x86)
 ((∃ x88 x89 x90 x91 x92 x93, aL0 h87 (aS h 0) x88 x89 x90 x91 x92 x93 /\
 (∃ x94 x95 x96 x97 x98 x99, aL0 h87 (aS h 0) x94 x95 x96 x97 x98 x99 /\
 (Fn Pz 16 #[.agg ⟨(L0 x88 x89 x90 x91 x92 x93)⟩, .agg ⟨(L0 x94 x95 x96 x97 x98 x99)⟩] h87
 (fun v100 h102 => ∃ x101, iB v100 x101 /\
 (Sm [(aS h13 0), (aS h 0), (aS h13 0), (aS h 0)] h87 h102 /\
 R (.bool x101) h102))))))
 (R (.bool false) h87)))))))))))))
 (R (.bool false) h57)))
 (R (.bool false) h57)))
 (R (.bool false) h57))))))))))))))))))))))))))
def W16 (p0_1 p0_2 p0_3 : Int) (p0_4 p0_5 p0_6 : Sl) (p1_7 p1_8 p1_9 : Int) (p1_10 p1_11 p1_12 : Sl) (h : Heap) (R : Value -> Heap -> Prop) : Prop :=
 (Wn h (L0 p0_1 p0_2 p0_3 p0_4 p0_5 p0_6) 26 fun h13 =>
 (Wn h13 (L0 p1_7 p1_8 p1_9 p1_10 p1_11 p1_12) 26 fun h14 =>
 (∃ x15, rI h14 (aS h 0) x15 /\
 (∃ x16, rI h14 (aS h13 0) x16 /\
 (sB (x15 == x16)
 ((∃ x17, rI h14 (aS h 1) x17 /\
 (∃ x18, rI h14 (aS h13 1) x18 /\
 (sB (x17 == x18)
 ((∃ x19, rI h14 (aS h 2) x19 /\
 (∃ x20, rI h14 (aS h13 2) x20 /\
 (sB (x19 == x20)
 ((∃ x21, rS h14 (aS h 3) x21 /\
 (∃ x22, rS h14 (aS h13 3) x22 /\
 (Fn Pz 50 #[vS x21, vS x22] h14
 (fun v23 h25 => ∃ x24, iB v23 x24 /\
 (sB x24
 ((∃ x26, rS h25 (aS h 4) x26 /\
 (∃ x27, rS h25 (aS h13 4) x27 /\
 (Fn Pz 51 #[vS x26, vS x27] h25
 (fun v28 h30 => ∃ x29, iB v28 x29 /\
 (sB x29
 ((∃ x31, rS h30 (aS h 5) x31 /\
 (∃ x32, rS h30 (aS h13 5) x32 /\
 (Fn Pz 52 #[vS x31, vS x32] h30
 (fun v33 h35 => ∃ x34, iB v33 x34 /\
 R (.bool x34) h35)))))
 (R (.bool false) h30)))))))
 (R (.bool false) h25)))))))
 (R (.bool false) h14)))))
 (R (.bool false) h14)))))
 (R (.bool false) h14))))))
theorem vc16 (p0_1 p0_2 p0_3 : Int) (p0_4 p0_5 p0_6 : Sl) (p1_7 p1_8 p1_9 : Int) (p1_10 p1_11 p1_12 : Sl) (h : Heap) (R : Value -> Heap -> Prop) (H : W16 p0_1 p0_2 p0_3 p0_4 p0_5 p0_6 p1_7 p1_8 p1_9 p1_10 p1_11 p1_12 h R) : Fn Pz 16 #[.agg ⟨(L0 p0_1 p0_2 p0_3 p0_4 p0_5 p0_6)⟩, .agg ⟨(L0 p1_7 p1_8 p1_9 p1_10 p1_11 p1_12)⟩] h R := fnI (A := .z) (by kernel_rfl) H

end Go.VC
end

section
namespace Go.VC
open Go.Proofs

def W50 (p0 p1 : Sl) (h : Heap) (R : Value -> Heap -> Prop) : Prop :=
 (sB ((p0.n : Int) != (p1.n : Int))
 (R (.bool false) h)
 ((QI 0 h fun I1 x_4 h5 m3 => (
 (sB (decide (x_4 < (p0.n : Int)))
 ((NB p0.a fun b6 o7 => (Ib x_4 p0.n /\
 (∃ x8, rB h5 ⟨b6, o7 + Int.toNat x_4 * 1, none⟩ x8 /\
 (NB p1.a fun b9 o10 => (Ib x_4 p1.n /\
 (∃ x11, rB h5 ⟨b9, o10 + Int.toNat x_4 * 1, none⟩ x11 /\
 (sB (!(x8 == x11))
 (R (.bool false) h5)
 ((∃ m12, m12 < m3 /\ I1 (IntKind.wrap .i64 (x_4 + 1)) h5 m12))))))))))
 (R (.bool true) h5))))))
theorem vc50 (p0 p1 : Sl) (h : Heap) (R : Value -> Heap -> Prop) (H : W50 p0 p1 h R) : Fn Pz 50 #[vS p0, vS p1] h R := fnI (A := (.s .z (.s .z (.s (.s .z (.b (.l [(13, .one (.int .i64))] .z))) .z)))) (by kernel_rfl) H

def W51 (p0 p1 : Sl) (h : Heap) (R : Value -> Heap -> Prop) : Prop :=
 (sB ((p0.n : Int) != (p1.n : Int))
 (R (.bool false) h)
 ((QI 0 h fun I1 x_4 h5 m3 => (
 (sB (decide (x_4 < (p0.n : Int)))
 ((NB p0.a fun b6 o7 => (Ib x_4 p0.n /\
 (∃ x8 x9 x10 x11 x12 x13, aL1 h5 ⟨b6, o7 + Int.toNat x_4 * 6, none⟩ x8 x9 x10 x11 x12 x13 /\
 (NB p1.a fun b14 o15 => (Ib x_4 p1.n /\
 (∃ x16 x17 x18 x19 x20 x21, aL1 h5 ⟨b14, o15 + Int.toNat x_4 * 6, none⟩ x16 x17 x18 x19 x20 x21 /\
 (sB (!((x8 == x16) && ((x9 == x17) && ((x10 == x18) && ((x11 == x19) && ((x12 == x20) && ((x13 == x21) && true)))))))
 (R (.bool false) h5)
 ((∃ m22, m22 < m3 /\ I1 (IntKind.wrap .i64 (x_4 + 1)) h5 m22))))))))))
 (R (.bool true) h5))))))
theorem vc51 (p0 p1 : Sl) (h : Heap) (R : Value -> Heap -> Prop) (H : W51 p0 p1 h R) : Fn Pz 51 #[vS p0, vS p1] h R := fnI (A := (.s .z (.s .z (.s (.s .z (.b (.l [(13, .one (.int .i64))] .z))) .z)))) (by kernel_rfl) H

def W52 (p0 p1 : Sl) (h : Heap) (R : Value -> Heap -> Prop) : Prop :=
 (sB ((p0.n : Int) != (p1.n : Int))
 (R (.bool false) h)
 ((QI 0 h fun I1 x_4 h5 m3 => (
 (sB (decide (x_4 < (p0.n : Int)))
 ((NB p0.a fun b6 o7 => (Ib x_4 p0.n /\
 (∃ x8 x9 x10, aL4 h5 ⟨b6, o7 + Int.toNat x_4 * 3, none⟩ x8 x9 x10 /\
 (NB p1.a fun b11 o12 => (Ib x_4 p1.n /\
 (∃ x13 x14 x15, aL4 h5 ⟨b11, o12 + Int.toNat x_4 * 3, none⟩ x13 x14 x15 /\
 (sB (!((x8 == x13) && ((x9 == x14) && ((x10 == x15) && true))))
 (R (.bool false) h5)
 ((∃ m16, m16 < m3 /\ I1 (IntKind.wrap .i64 (x_4 + 1)) h5 m16))))))))))
 (R (.bool true) h5))))))
theorem vc52 (p0 p1 : Sl) (h : Heap) (R : Value -> Heap -> Prop) (H : W52 p0 p1 h R) : Fn Pz 52 #[vS p0, vS p1] h R := fnI (A := (.s .z (.s .z (.s (.s .z (.b (.l [(13, .one (.int .i64))] .z))) .z)))) (by kernel_rfl) H

end Go.VC
end

section
namespace Go.VC
open Go.Proofs

end Go.VC
end
