/- RjBa RjBb RjBc RjBd QjRa QjRb QjMb QjRc QjRd QjRe0. -/
import Derived.Test.YtkebghjhekoecaaGreatDoorM24
import Derived.Test.YtkebghjhekoecaaGreatDoorM01
import Derived.Test.YtkebghjhekoecaaGreatDoorM23
import Derived.Test.YtkebghjhekoecaaGreatDoorM15
import Derived.Test.YtkebghjhekoecaaGreatDoorM12
import Derived.Test.YtkebghjhekoecaaGreatDoorM16
import Derived.Test.YtkebghjhekoecaaGreatDoorM13
set_option linter.unusedVariables false
set_option linter.unusedSimpArgs false
set_option maxRecDepth 100000

section
/- Plain: a machine in the order of its own numbers is determined by what it does. No program here. -/
namespace Go.VC
open Go.LexS
structure CanF (M : Mch) : Prop where
 s : M.s = 0
 n : 1 <= M.n
 fl : (M.fin.length : Int) = M.n
 so : M.mv.Pairwise mvLt
 nx : nxL M.mv = M.n
 na : ∀ (i : Nat) x, M.mv[i]? = some x -> x.t <= nxL (M.mv.take i) /\ x.f < nxL (M.mv.take i)
 f0 : ∀ x ∈ M.mv, 0 <= x.f /\ 0 <= x.t
 ls : M.li.Pairwise fun a b => a.s < b.s
 li : ∀ t ∈ M.li, 0 <= t.s /\ t.s < M.n /\ 0 <= t.e /\ ∃ y, M.mv[t.e.toNat]? = some y /\ y.f = t.s
structure IsoR (M K : Mch) (R : Nat -> Nat -> Prop) : Prop where
 ro : M.role = K.role
 fn : ∀ {a b c : Nat}, R a b -> R a c -> b = c
 ij : ∀ {a b c : Nat}, R a c -> R b c -> a = b
 s : R 0 0
 rl : ∀ {a b : Nat}, R a b -> (outM M a).length = (outM K b).length
 rw : ∀ {a b : Nat} {j : Nat} {x y : Mv}, R a b -> (outM M a)[j]? = some x -> (outM K b)[j]? = some y -> x.ev = y.ev /\ x.ag = y.ag /\ R x.t.toNat y.t.toNat
 fi : ∀ {a b : Nat}, R a b -> M.fin[a]? = K.fin[b]?
 l1 : ∀ {a b : Nat} {t : To} {y : Mv}, R a b -> t ∈ M.li -> t.s = (a : Int) -> M.mv[t.e.toNat]? = some y -> ∃ u z, u ∈ K.li /\ u.s = (b : Int) /\ u.k = t.k /\ K.mv[u.e.toNat]? = some z /\ z.ev = y.ev
 l2 : ∀ {a b : Nat} {t : To} {y : Mv}, R a b -> t ∈ K.li -> t.s = (b : Int) -> K.mv[t.e.toNat]? = some y -> ∃ u z, u ∈ M.li /\ u.s = (a : Int) /\ u.k = t.k /\ M.mv[u.e.toNat]? = some z /\ z.ev = y.ev
theorem IsoR.symm {M K : Mch} {R : Nat -> Nat -> Prop} (I : IsoR M K R) : IsoR K M fun a b => R b a :=
 ⟨I.ro.symm, fun h1 h2 => I.ij h1 h2, fun h1 h2 => I.fn h1 h2, I.s, fun h => (I.rl h).symm, fun h h1 h2 => by
  obtain ⟨a, b, c⟩ := I.rw h h2 h1
  exact ⟨a.symm, b.symm, c⟩, fun h => (I.fi h).symm, fun h => I.l2 h, fun h => I.l1 h⟩
theorem filt_at {α : Type} {p : α -> Bool} {L : List α} {i : Nat} {x : α} (hx : L[i]? = some x) (hp : p x = true) : (L.filter p)[((L.take i).filter p).length]? = some x := by
 have hi := (Ya.1 hx).1
 have e : L.drop i = x :: L.drop (i + 1) := by
  rw [List.drop_eq_getElem_cons hi, (Ya.1 hx).2]
 have h : L.filter p = (L.take i).filter p ++ (L.drop i).filter p := by rw [<- List.filter_append, List.take_append_drop]
 rw [h, e, List.filter_cons_of_pos hp, Yyc (Yyt _), Nat.sub_self]; rfl
theorem filt_back {α : Type} {p : α -> Bool} {L : List α} {i j : Nat} {y : α} (hy : (L.filter p)[j]? = some y) (hj : ((L.take i).filter p).length <= j) : ∃ i', i <= i' /\ L[i']? = some y := by
 have h : L.filter p = (L.take i).filter p ++ (L.drop i).filter p := by rw [<- List.filter_append, List.take_append_drop]
 rw [h, Yyc hj] at hy
 obtain ⟨k, hk⟩ := Yf.1 (List.mem_filter.1 (Yb hy)).1
 rw [List.getElem?_drop] at hk
 exact ⟨i + k, by omega, hk⟩
theorem mv_le {L : List Mv} (hS : L.Pairwise mvLt) {i j : Nat} {x y : Mv} (hij : i <= j) (hx : L[i]? = some x) (hy : L[j]? = some y) : x.f <= y.f := by
 rcases Nat.lt_or_ge i j with h | h
 ·
  rcases mvLt_get hS h hx hy with h | ⟨h, _⟩ <;> omega
 ·
  have : i = j := by omega
  subst this
  rw [hx] at hy; cases hy; exact Int.le_refl _
section
variable {M K : Mch} {R : Nat -> Nat -> Prop}
theorem iso_half (hM : CanF M) (I : IsoR M K R) {i : Nat} {x : Mv} (hx : M.mv[i]? = some x) (ht : M.mv.take i = K.mv.take i) (hr : ∀ k : Nat, (k : Int) < nxL (M.mv.take i) -> R k k) : ∃ (y : Mv) (i' : Nat), i <= i' /\ K.mv[i']? = some y /\ y.f = x.f := by
 have h0 := (hM.f0 x (Yb hx)).1
 have h1 := (hM.na i x hx).2
 have hR := hr x.f.toNat (by omega)
 have h2 := filt_at (p := fun z : Mv => decide (z.f = ((x.f.toNat : Nat) : Int))) hx (decide_eq_true (by omega))
 have hlen : ((M.mv.take i).filter fun z : Mv => decide (z.f = ((x.f.toNat : Nat) : Int))).length < (outM M x.f.toNat).length := (Ya.1 h2).1
 rw [I.rl hR] at hlen
 obtain ⟨y, hy⟩ := get_some (l := outM K x.f.toNat) hlen
 obtain ⟨i', h3, h4⟩ := filt_back (i := i) (p := fun z : Mv => decide (z.f = ((x.f.toNat : Nat) : Int))) (L := K.mv) hy (by rw [ht]; exact Yyt _)
 have := (outM_f (Yb hy)).2
 exact ⟨y, i', h3, h4, by omega⟩
theorem iso_step (hM : CanF M) (hK : CanF K) (I : IsoR M K R) {i : Nat} {x : Mv} (hx : M.mv[i]? = some x) (ht : M.mv.take i = K.mv.take i) (hr : ∀ k : Nat, (k : Int) < nxL (M.mv.take i) -> R k k) : K.mv[i]? = some x /\ R x.t.toNat x.t.toNat := by
 obtain ⟨y', i', h1, h2, h3⟩ := iso_half hM I hx ht hr
 obtain ⟨y, hy⟩ := get_some (l := K.mv) (i := i) (by have := (Ya.1 h2).1; omega)
 have hyx := mv_le hK.so h1 hy h2
 obtain ⟨x', i2, g1, g2, g3⟩ := iso_half hK I.symm hy ht.symm (fun k hk => hr k (by rw [ht]; exact hk))
 have hxy := mv_le hM.so g1 hx g2
 have hf : x.f = y.f := by omega
 have hx0 := hM.f0 x (Yb hx)
 have hy0 := hK.f0 y (Yb hy)
 have hxn := hM.na i x hx
 have hyn := hK.na i y hy
 rw [<- ht] at hyn
 have hR := hr x.f.toNat (by omega)
 have a1 := filt_at (p := fun z : Mv => decide (z.f = ((x.f.toNat : Nat) : Int))) hx (decide_eq_true (by omega))
 have a2 := filt_at (p := fun z : Mv => decide (z.f = ((x.f.toNat : Nat) : Int))) hy (decide_eq_true (by omega))
 rw [<- ht] at a2
 obtain ⟨e1, e2, e3⟩ := I.rw hR a1 a2
 have hteq : x.t = y.t := by
  by_cases c1 : x.t < nxL (M.mv.take i)
  ·
   have := I.fn (hr x.t.toNat (by omega)) e3
   omega
  ·
   by_cases c2 : y.t < nxL (M.mv.take i)
   ·
    have := I.ij (hr y.t.toNat (by omega)) e3
    omega
   ·
    omega
 have hxyE : x = y := by
  cases x; cases y
  simp only [Mv.ev, Ev.mk.injEq] at e1
  obtain ⟨b1, b2, b3⟩ := e1
  simp only at hf e2 hteq
  subst hf; subst e2; subst hteq; subst b1; subst b2; subst b3
  rfl
 subst hxyE
 exact ⟨hy, e3⟩
theorem iso_take (hM : CanF M) (hK : CanF K) (I : IsoR M K R) : ∀ i, i <= M.mv.length -> M.mv.take i = K.mv.take i /\ ∀ k : Nat, (k : Int) < nxL (M.mv.take i) -> R k k
 | 0, _ => ⟨by rw [Yyk, Yyk], fun k hk => by
   rw [Yyk] at hk
   have : nxL [] = 1 := rfl
   have : k = 0 := by omega
   subst this
   exact I.s⟩
 | i + 1, hi => by
  obtain ⟨h1, h2⟩ := iso_take hM hK I i (by omega)
  obtain ⟨x, hx⟩ := get_some (l := M.mv) (i := i) (by omega)
  obtain ⟨h3, h4⟩ := iso_step hM hK I hx h1 h2
  refine ⟨by rw [take_snoc hx, take_snoc h3, h1], fun k hk => ?_⟩
  rw [take_snoc hx, nxL_snoc] at hk
  have h0 := (hM.f0 x (Yb hx)).2
  by_cases c : (k : Int) < nxL (M.mv.take i)
  ·
   exact h2 k c
  ·
   split at hk
   ·
    rename_i e
    have : x.t.toNat = k := by omega
    rw [this] at h4; exact h4
   ·
    omega
theorem iso_mv (hM : CanF M) (hK : CanF K) (I : IsoR M K R) : M.mv = K.mv := by
 have h1 := (iso_take hM hK I M.mv.length (Yyt _)).1
 have h2 := (iso_take hK hM I.symm K.mv.length (Yyt _)).1
 rw [Yye] at h1 h2
 have l1 := congrArg List.length h1
 have l2 := congrArg List.length h2
 rw [Yu] at l1 l2
 have : M.mv.length = K.mv.length := by omega
 rw [h1, this, Yye]
theorem srt_ext {α : Type} {P : α -> α -> Prop} (hi : ∀ a, ¬ P a a) (htr : ∀ a b c, P a b -> P b c -> P a c) : ∀ {l k : List α}, l.Pairwise P -> k.Pairwise P -> (∀ x, x ∈ l ↔ x ∈ k) -> l = k
 | [], [], _, _, _ => rfl
 | [], b :: k, _, _, h => by cases (h b).2 Yx
 | a :: l, [], _, _, h => by cases (h a).1 Yx
 | a :: l, b :: k, h1, h2, h => by
  rw [List.pairwise_cons] at h1 h2
  have hab : a = b := by
   rcases Yr.1 ((h a).1 Yx) with e | ha
   ·
    exact e
   ·
    rcases Yr.1 ((h b).2 Yx) with e | hb
    ·
     exact e.symm
    ·
     exact absurd (htr _ _ _ (h1.1 b hb) (h2.1 a ha)) (hi a)
  subst hab
  rw [srt_ext hi htr h1.2 h2.2 fun x => ⟨fun hx => by
   rcases Yr.1 ((h x).1 (Yn _ hx)) with e | hx2
   ·
    subst e; exact absurd (h1.1 x hx) (hi x)
   ·
    exact hx2, fun hx => by
   rcases Yr.1 ((h x).2 (Yn _ hx)) with e | hx2
   ·
    subst e; exact absurd (h2.1 x hx) (hi x)
   ·
    exact hx2⟩]
theorem mv_pos {L : List Mv} (hS : L.Pairwise mvLt) {i j : Nat} {x y : Mv} (hx : L[i]? = some x) (hy : L[j]? = some y) (hf : x.f = y.f) (he : x.ev = y.ev) : i = j := by
 have irr : ∀ {a b : Mv}, a.f = b.f -> a.ev = b.ev -> ¬ mvLt a b := fun hf he h => by
  rcases h with h | ⟨_, h⟩
  ·
   omega
  ·
   rw [he] at h; exact evLt_irr _ h
 rcases Nat.lt_trichotomy i j with h | h | h
 ·
  exact absurd (mvLt_get hS h hx hy) (irr hf he)
 ·
  exact h
 ·
  exact absurd (mvLt_get hS h hy hx) (irr hf.symm he.symm)
theorem iso_li (hM : CanF M) (hK : CanF K) (I : IsoR M K R) : ∀ t ∈ M.li, t ∈ K.li := by
 intro t ht
 have hmv := iso_mv hM hK I
 obtain ⟨h1, h2, h3, y, hy, hyf⟩ := hM.li t ht
 have hR := (iso_take hM hK I M.mv.length (Yyt _)).2 t.s.toNat (by rw [Yye, hM.nx]; omega)
 obtain ⟨u, z, hu, us, uk, hz, hze⟩ := I.l1 hR ht (by omega) hy
 obtain ⟨_, _, u0, z', hz', hzf⟩ := hK.li u hu
 rw [hz] at hz'; cases hz'
 rw [<- hmv] at hz
 have hp := mv_pos hM.so hy hz (by omega) hze.symm
 have : u = t := by
  cases u; cases t
  simp only [To.mk.injEq]
  simp only at us uk hp u0 h1 h3
  refine ⟨by omega, uk, by omega⟩
 rw [<- this]; exact hu
theorem iso_eq (hM : CanF M) (hK : CanF K) (I : IsoR M K R) : M = K := by
 have hmv := iso_mv hM hK I
 have hn : M.n = K.n := by rw [<- hM.nx, <- hK.nx, hmv]
 have hR := (iso_take hM hK I M.mv.length (Yyt _)).2
 rw [Yye, hM.nx] at hR
 have hli : M.li = K.li := srt_ext (fun a => by omega) (fun a b c => by omega) hM.ls hK.ls fun t => ⟨iso_li hM hK I t, iso_li hK hM I.symm t⟩
 have hfl1 := hM.fl
 have hfl2 := hK.fl
 have hfin : M.fin = K.fin := by
  refine Yyr fun i => ?_
  by_cases h : (i : Int) < M.n
  ·
   exact I.fi (hR i h)
  ·
   rw [Yl (by omega), Yl (by omega)]
 have hs : M.s = K.s := by rw [hM.s, hK.s]
 have hr := I.ro
 cases M; cases K
 simp only at hmv hn hli hfin hs hr
 subst hmv; subst hn; subst hli; subst hfin; subst hs; subst hr
 rfl
end
theorem MinI.can {m : Mch} {C : List Nat} {cnt c0 : Nat} {M : Mch} {Q : List Nat} (I : MinI m C cnt c0 M Q) (hK : CsOk (srtM m) C cnt) (hW : WM m) : CanF M := by
 have hQ1 : 1 <= Q.length := (Ya.1 I.q0).1
 have hn := I.n
 refine ⟨I.s, by omega, ?_, I.so hK hW.d, I.nx, I.na, fun z hz => ?_, I.ls, fun t ht => ?_⟩
 ·
  rw [I.i.pf, Yc, Yyd, hn]
 ·
  obtain ⟨i, x, hi, hx, rfl⟩ := I.mem hK z hz
  exact ⟨Int.natCast_nonneg _, Int.natCast_nonneg _⟩
 ·
  obtain ⟨i', t1, x, hi, g1, _, _, g4, g5, _, _, g6, g7, g8⟩ := I.lim hK hW ht
  exact ⟨by omega, by omega, g5, _, g6, g1.symm⟩
end Go.VC
end

section
/- Plain: least machines do what their machines do; the least machine of a least machine is itself. No program here. -/
namespace Go.VC
open Go.LexS
structure Sim0 (m k : Mch) (S : Nat -> Nat -> Prop) : Prop where
 bd : ∀ {x y : Nat}, S x y -> x < m.n.toNat /\ y < k.n.toNat
 ro : m.role = k.role
 s : S m.s.toNat k.s.toNat
 rl : ∀ {x y : Nat}, S x y -> (rwS m x).length = (rwS k y).length
 rw : ∀ {x y j : Nat} {a b : Mv}, S x y -> (rwS m x)[j]? = some a -> (rwS k y)[j]? = some b -> a.ev = b.ev /\ a.ag = b.ag /\ S a.t.toNat b.t.toNat
 fi : ∀ {x y : Nat}, S x y -> m.fin.getD x false = k.fin.getD y false
 tm : ∀ {x y : Nat}, S x y -> sgT m x = sgT k y
structure SimC (C D : List Nat) (S : Nat -> Nat -> Prop) : Prop where
 fn : ∀ {x y y' : Nat}, S x y -> S x y' -> D[y]? = D[y']?
 ij : ∀ {x x' y : Nat}, S x y -> S x' y -> C[x]? = C[x']?
 cl : ∀ {x x' y y' : Nat}, S x y -> x' < C.length -> y' < D.length -> C[x]? = C[x']? -> D[y]? = D[y']? -> S x' y'
section
variable {m : Mch} {C : List Nat} {cnt c0 : Nat} {M : Mch} {Q : List Nat}
theorem sgT_some {m : Mch} (hW : WM m) {s : Nat} {t : To} (h : limT m (s : Int) = some t) : ∃ y, m.mv[t.e.toNat]? = some y /\ sgT m s = ⟨0, 1, y.ev, false, t.k⟩ /\ 1 <= t.k := by
 obtain ⟨a, y, hy, _⟩ := li_in hW (limT_mem h).1
 refine ⟨y, hy, ?_, a.1⟩
 unfold sgT
 rw [h]
 show Sg.mk 0 1 (evI m t.e.toNat) false t.k = _
 rw [evI_of hy]
theorem sgT_inv {m : Mch} (hW : WM m) {s : Nat} {e : Ev} {k : Int} (h : sgT m s = ⟨0, 1, e, false, k⟩) (hk : 1 <= k) : ∃ t y, limT m (s : Int) = some t /\ m.mv[t.e.toNat]? = some y /\ y.ev = e /\ t.k = k := by
 cases ht : limT m (s : Int) with
 | none =>
  unfold sgT at h
  rw [ht] at h
  have : (0 : Int) = k := congrArg Sg.num h
  omega
 | some t =>
  obtain ⟨y, hy, e1, _⟩ := sgT_some hW ht
  rw [e1] at h
  exact ⟨t, y, rfl, hy, congrArg Sg.x h, congrArg Sg.num h⟩
theorem MinI.tm1 (I : MinI m C cnt c0 M Q) (hK : CsOk (srtM m) C cnt) (hW : WM m) {a : Nat} {t : To} {y : Mv} (ht : t ∈ M.li) (hs : t.s = (a : Int)) (hy : M.mv[t.e.toNat]? = some y) : a < Q.length /\ sgT m (repQ C Q a) = ⟨0, 1, y.ev, false, t.k⟩ /\ 1 <= t.k := by
 obtain ⟨i, t1, x, hi, g1, g2, g3, g4, g5, g6, _, g7, _, _⟩ := I.lim hK hW ht
 have : i = a := by omega
 subst this
 rw [g7] at hy; cases hy
 obtain ⟨x', hx', e1, _⟩ := sgT_some hW g2
 rw [g6] at hx'; cases hx'
 refine ⟨hi, ?_, g4.1⟩
 rw [e1, g3]; rfl
theorem MinI.tm2 (I : MinI m C cnt c0 M Q) (hK : CsOk (srtM m) C cnt) (hW : WM m) {a : Nat} (ha : a < Q.length) {e : Ev} {k : Int} (h : sgT m (repQ C Q a) = ⟨0, 1, e, false, k⟩) (hk : 1 <= k) : ∃ u z, u ∈ M.li /\ u.s = (a : Int) /\ u.k = k /\ M.mv[u.e.toNat]? = some z /\ z.ev = e := by
 obtain ⟨t1, _, ht1, _, _, _⟩ := sgT_inv hW h hk
 obtain ⟨u, hu, us⟩ := I.lim2 hK hW ha ht1
 obtain ⟨i, t2, x, hi, g1, g2, g3, g4, g5, g6, _, g7, _, _⟩ := I.lim hK hW hu
 have hia : i = a := by omega
 subst hia
 obtain ⟨x', hx', e1, _⟩ := sgT_some hW g2
 rw [g6] at hx'; cases hx'
 rw [e1] at h
 exact ⟨u, _, hu, us, by rw [g3]; exact congrArg Sg.num h, g7, congrArg Sg.x h⟩
theorem MinI.at (I : MinI m C cnt c0 M Q) (hK : CsOk (srtM m) C cnt) {i : Nat} {x : Mv} (hi : i < Q.length) (hx : x ∈ rwS m (repQ C Q i)) (ht : x.t.toNat < m.n.toNat) : idxF Q (C.getD x.t.toNat 0) < Q.length /\ C[repQ C Q (idxF Q (C.getD x.t.toNat 0))]? = C[x.t.toNat]? := by
 have hin := I.tq hK hi hx
 have hl := idxF_lt hin
 obtain ⟨q, hq, _, hc⟩ := rep_at hK I.i.pq hl
 rw [idxF_get hin] at hq
 cases hq
 obtain ⟨c, hcx⟩ := get_some (l := C) (i := x.t.toNat) (by have : C.length = m.n.toNat := hK.cl; omega)
 refine ⟨hl, ?_⟩
 rw [hc, hcx, getD_some hcx]
theorem MinI.fin (I : MinI m C cnt c0 M Q) {i : Nat} (hi : i < Q.length) : M.fin[i]? = some (m.fin.getD (repQ C Q i) false) := by
 rw [I.i.pf, Yd, Yyb hi]; rfl
theorem min_iso {k : Mch} {D : List Nat} {cnt' d0 : Nat} {K : Mch} {P : List Nat} {S : Nat -> Nat -> Prop} (I : MinI m C cnt c0 M Q) (J : MinI k D cnt' d0 K P) (hC : CsOk (srtM m) C cnt) (hD : CsOk (srtM k) D cnt') (hW : WM m) (hX : WM k) (h0 : C[m.s.toNat]? = some c0) (h1 : D[k.s.toNat]? = some d0) (hS : Sim0 m k S) (hT : SimC C D S) :
  IsoR M K fun a b => a < Q.length /\ b < P.length /\ S (repQ C Q a) (repQ D P b) := by
 have hCl : C.length = m.n.toNat := hC.cl
 have hDl : D.length = k.n.toNat := hD.cl
 refine ⟨by rw [I.ro, J.ro]; exact hS.ro, ?_, ?_, ?_, ?_, ?_, ?_, ?_, ?_⟩
 ·
  rintro a b c ⟨_, h2, h3⟩ ⟨_, h5, h6⟩
  have e := hT.fn h3 h6
  obtain ⟨p, hp, _, hd⟩ := rep_at hD J.i.pq h2
  obtain ⟨q, hq, _, he⟩ := rep_at hD J.i.pq h5
  rw [hd, he] at e
  exact (List.getElem?_inj h2 J.i.pq.nd).1 (by rw [hp, hq, e])
 ·
  rintro a b c ⟨h2, _, h3⟩ ⟨h5, _, h6⟩
  have e := hT.ij h3 h6
  obtain ⟨p, hp, _, hd⟩ := rep_at hC I.i.pq h2
  obtain ⟨q, hq, _, he⟩ := rep_at hC I.i.pq h5
  rw [hd, he] at e
  exact (List.getElem?_inj h2 I.i.pq.nd).1 (by rw [hp, hq, e])
 ·
  have hq0 := (Ya.1 I.q0).1
  have hp0 := (Ya.1 J.q0).1
  obtain ⟨p, hp, hl, hd⟩ := rep_at hC I.i.pq hq0
  obtain ⟨q, hq, hl', he⟩ := rep_at hD J.i.pq hp0
  have e1 := I.q0; have e2 := J.q0
  rw [hp] at e1; cases e1
  rw [hq] at e2; cases e2
  exact ⟨hq0, hp0, hT.cl hS.s (by omega) (by omega) (by rw [h0, hd]) (by rw [h1, he])⟩
 ·
  rintro a b ⟨h2, h3, h4⟩
  rw [I.row hC h2, J.row hD h3, Yc, Yc]
  exact hS.rl h4
 ·
  rintro a b j x y ⟨h2, h3, h4⟩ hx hy
  rw [I.row hC h2, Yd] at hx
  rw [J.row hD h3, Yd] at hy
  obtain ⟨x0, hx0, rfl⟩ := Yya.1 hx
  obtain ⟨y0, hy0, rfl⟩ := Yya.1 hy
  obtain ⟨e1, e2, e3⟩ := hS.rw h4 hx0 hy0
  obtain ⟨b1, b2⟩ := hS.bd e3
  obtain ⟨l1, r1⟩ := I.at hC h2 (Yb hx0) b1
  obtain ⟨l2, r2⟩ := J.at hD h3 (Yb hy0) b2
  obtain ⟨_, _, n1, _⟩ := rep_at hC I.i.pq l1
  obtain ⟨_, _, n2, _⟩ := rep_at hD J.i.pq l2
  exact ⟨e1, e2, l1, l2, hT.cl e3 (by show repQ C Q (idxF Q (C.getD x0.t.toNat 0)) < _; omega) (by show repQ D P (idxF P (D.getD y0.t.toNat 0)) < _; omega) r1.symm r2.symm⟩
 ·
  rintro a b ⟨h2, h3, h4⟩
  rw [I.fin h2, J.fin h3, hS.fi h4]
 ·
  rintro a b t y ⟨h2, h3, h4⟩ ht hs hy
  obtain ⟨_, e1, e2⟩ := I.tm1 hC hW ht hs hy
  rw [hS.tm h4] at e1
  exact J.tm2 hD hX h3 e1 e2
 ·
  rintro a b t y ⟨h2, h3, h4⟩ ht hs hy
  obtain ⟨_, e1, e2⟩ := J.tm1 hD hX ht hs hy
  rw [<- hS.tm h4] at e1
  exact I.tm2 hC hW h2 e1 e2
theorem min_eq {k : Mch} {D : List Nat} {cnt' d0 : Nat} {K : Mch} {P : List Nat} {S : Nat -> Nat -> Prop} (I : MinI m C cnt c0 M Q) (J : MinI k D cnt' d0 K P) (hC : CsOk (srtM m) C cnt) (hD : CsOk (srtM k) D cnt') (hW : WM m) (hX : WM k) (h0 : C[m.s.toNat]? = some c0) (h1 : D[k.s.toNat]? = some d0) (hS : Sim0 m k S) (hT : SimC C D S) : M = K :=
 iso_eq (I.can hC hW) (J.can hD hX) (min_iso I J hC hD hW hX h0 h1 hS hT)
theorem rwS_out {M : Mch} (hD : DetM M) (hS : M.mv.Pairwise mvLt) (s : Nat) : rwS M s = outM M s := by
 refine srt_ext (P := fun a b : Mv => evLt a.ev b.ev) (fun a => evLt_irr _) (fun a b c => evLt_trans) (rwS_lt hD s) ?_ fun x => ?_
 ·
  refine List.Pairwise.imp_of_mem ?_ (outM_sorted hS s)
  intro a b ha hb hab
  have f1 := (outM_f ha).2
  have f2 := (outM_f hb).2
  rcases hab with h | ⟨_, h⟩
  ·
   omega
  ·
   exact h
 ·
  rw [rwS_mem]
  unfold outM
  rw [List.mem_filter, decide_eq_true_iff]
theorem MinI.rwS (I : MinI m C cnt c0 M Q) (hK : CsOk (srtM m) C cnt) (hD : DetM m) (hM : DetM M) {i : Nat} (hi : i < Q.length) : rwS M i = (Go.VC.rwS m (repQ C Q i)).map (mvQ C Q i) := by
 rw [rwS_out hM (I.so hK hD), I.row hK hi]
theorem MinI.sgT (I : MinI m C cnt c0 M Q) (hK : CsOk (srtM m) C cnt) (hW : WM m) (hM : WM M) {i : Nat} (hi : i < Q.length) : sgT M i = Go.VC.sgT m (repQ C Q i) := by
 cases ht : limT M (i : Int) with
 | some t =>
  obtain ⟨y, hy, e1, e2⟩ := sgT_some hM ht
  obtain ⟨a1, a2⟩ := limT_mem ht
  rw [e1, (I.tm1 hK hW a1 a2 hy).2.1]
 | none =>
  cases ht2 : limT m (repQ C Q i : Nat) with
  | none =>
   unfold Go.VC.sgT
   rw [ht, ht2]
  | some t1 =>
   obtain ⟨u, hu, us⟩ := I.lim2 hK hW hi ht2
   have := List.find?_eq_none.1 ht u hu
   simp [us] at this
end
theorem it_ref {m : Mch} (hV : WM m) {x y : Nat} (hx : x < m.n.toNat) (hy : y < m.n.toNat) (h : (cls (srtM m)).1[x]? = (cls (srtM m)).1[y]?) (k : Nat) : (itC (srtM m) k)[x]? = (itC (srtM m) k)[y]? := by
 obtain ⟨N, h1, h2, _⟩ := cls_stable (srtM_raw hV).ok
 have hN0 := (h2 x y hx hy).1 h
 rw [h1] at h2
 have hN : itR m (N + 1) = itR m N := it_pat_eq hV h2
 have down : ∀ d k, k + d = N -> (itC (srtM m) k)[x]? = (itC (srtM m) k)[y]? := by
  intro d
  induction d with
  | zero =>
   intro k e
   have : k = N := by omega
   subst this; exact hN0
  | succ d ih =>
   intro k e
   have h3 := ih (k + 1) (by omega)
   rw [itC] at h3
   have h4 := (canonL_eq (clsK_get (m := srtM m) hx) (clsK_get (m := srtM m) hy)).1 h3
   exact keyS_b (m := srtM m) (itC_len (srtM m) k) hx hy h4
 by_cases hk : k <= N
 ·
  exact down (N - k) k (by omega)
 ·
  obtain ⟨d, rfl⟩ : ∃ d, k = N + d := ⟨k - N, by omega⟩
  have p1 := (pat_it hV (N + d)).p x y hx hy
  rw [itR_stay hN d] at p1
  exact p1.1 (((pat_it hV N).p x y hx hy).2 hN0)
theorem it_end2 {m : Mch} (hV : WM m) : ∃ N, (cls (srtM m)).1 = itC (srtM m) N := by
 obtain ⟨N, h1, _⟩ := cls_stable (srtM_raw hV).ok
 exact ⟨N + 1, h1⟩
theorem cls_keyT {m : Mch} (hV : WM m) {x y : Nat} (hx : x < m.n.toNat) (hy : y < m.n.toNat) (h : (cls (srtM m)).1[x]? = (cls (srtM m)).1[y]?) : keyT m (cls (srtM m)).1 x = keyT m (cls (srtM m)).1 y := by
 obtain ⟨N, h1, h2, h3⟩ := cls_stable (srtM_raw hV).ok
 have := (keyT_iff hV hx hy).2 (h3 x y hx hy h)
 exact keyT_pat hV.n ⟨itC_len (srtM m) N, (cls_ok (srtM_raw hV).ok).cl, fun i j hi hj => (h2 i j hi hj).symm⟩ hx hy this
section
variable {m : Mch} {c0 : Nat} {M : Mch} {Q : List Nat}
def ClR (m : Mch) (Q : List Nat) (x i : Nat) : Prop := x < m.n.toNat /\ i < Q.length /\ (cls (srtM m)).1[x]? = Q[i]?
theorem map_at {α β γ : Type} {f : α -> γ} {g : β -> γ} {l : List α} {k : List β} (h : l.map f = k.map g) {j : Nat} {a : α} {b : β} (ha : l[j]? = some a) (hb : k[j]? = some b) : f a = g b := by
 have := congrArg (fun z => z[j]?) h
 simp only [Yd, ha, hb, Option.map_some, Option.some.injEq] at this
 exact this
theorem sim_min (hW : WM m) (hM : WM M) (I : MinI m (cls (srtM m)).1 (cls (srtM m)).2 c0 M Q) (h0 : (cls (srtM m)).1[m.s.toNat]? = some c0) : Sim0 m M (ClR m Q) := by
 have hK := cls_ok (srtM_raw hW).ok
 have hCl : (cls (srtM m)).1.length = m.n.toNat := hK.cl
 have hs := hW.n.s
 have hn := hW.n.n
 have hn2 := I.n
 have key : ∀ {x i}, ClR m Q x i -> repQ (cls (srtM m)).1 Q i < m.n.toNat /\ keyT m (cls (srtM m)).1 x = keyT m (cls (srtM m)).1 (repQ (cls (srtM m)).1 Q i) := by
  rintro x i ⟨h1, h2, h3⟩
  obtain ⟨q, hq, hl, hc⟩ := rep_at hK I.i.pq h2
  exact ⟨hl, cls_keyT hW h1 hl (by rw [h3, hc, hq])⟩
 refine ⟨fun h => ⟨h.1, by rw [hn2]; exact h.2.1⟩, I.ro.symm, ⟨by omega, ?_, ?_⟩, fun {x i} h => ?_, fun {x i j a b} h ha hb => ?_, fun {x i} h => ?_, fun {x i} h => ?_⟩
 ·
  rw [I.s]; exact (Ya.1 I.q0).1
 ·
  rw [I.s, h0]; exact I.q0.symm
 ·
  have e := (keyT_cut.1 (key h).2).1
  rw [I.rwS hK hW.d hM.d h.2.1, Yc]
  have := congrArg List.length e
  rwa [Yc, Yc] at this
 ·
  rw [I.rwS hK hW.d hM.d h.2.1, Yd] at hb
  obtain ⟨b0, hb0, rfl⟩ := Yya.1 hb
  have e := map_at (keyT_cut.1 (key h).2).1 ha hb0
  have e1 : a.ev = b0.ev := congrArg Sg.x e
  have e2 : a.ag = b0.ag := congrArg Sg.ag e
  have e3 : (((cls (srtM m)).1.getD a.t.toNat 0 : Nat) : Int) = (((cls (srtM m)).1.getD b0.t.toNat 0 : Nat) : Int) := congrArg Sg.num e
  have ta := rwS_t hW.n (Yb ha)
  have tb := rwS_t hW.n (Yb hb0)
  obtain ⟨ca, hca⟩ := get_some (l := (cls (srtM m)).1) (i := a.t.toNat) (by omega)
  obtain ⟨cb, hcb⟩ := get_some (l := (cls (srtM m)).1) (i := b0.t.toNat) (by omega)
  have hin := I.tq hK h.2.1 (Yb hb0)
  refine ⟨e1, e2, ta, idxF_lt hin, ?_⟩
  show _ = Q[idxF Q ((cls (srtM m)).1.getD b0.t.toNat 0)]?
  rw [idxF_get hin, hca]
  rw [getD_some hca, getD_some hcb] at e3
  rw [getD_some hcb]
  congr 1
  omega
 ·
  have e := (sgB_cut.1 (keyT_cut.1 (key h).2).2.2).2
  rw [e, getD_some (I.fin h.2.1)]
 ·
  rw [(keyT_cut.1 (key h).2).2.1, I.sgT hK hW hM h.2.1]
theorem min_apart (hW : WM m) (hM : WM M) (I : MinI m (cls (srtM m)).1 (cls (srtM m)).2 c0 M Q) {i j : Nat} (hi : i < Q.length) (hj : j < Q.length) (h : (cls (srtM M)).1[i]? = (cls (srtM M)).1[j]?) : i = j := by
 have hK := cls_ok (srtM_raw hW).ok
 have hCl : (cls (srtM m)).1.length = m.n.toNat := hK.cl
 have hn2 : M.n.toNat = Q.length := by rw [I.n]; rfl
 have key : ∀ (k : Nat) {a b : Nat}, a < Q.length -> b < Q.length -> (itC (srtM M) k)[a]? = (itC (srtM M) k)[b]? -> (itC (srtM m) k)[repQ (cls (srtM m)).1 Q a]? = (itC (srtM m) k)[repQ (cls (srtM m)).1 Q b]? := by
  intro k
  induction k with
  | zero =>
   intro a b ha hb _
   obtain ⟨_, _, la, _⟩ := rep_at hK I.i.pq ha
   obtain ⟨_, _, lb, _⟩ := rep_at hK I.i.pq hb
   show (List.replicate m.n.toNat 0)[_]? = (List.replicate m.n.toNat 0)[_]?
   rw [List.getElem?_replicate, List.getElem?_replicate, if_pos la, if_pos lb]
  | succ k ih =>
   intro a b ha hb h
   obtain ⟨_, _, la, _⟩ := rep_at hK I.i.pq ha
   obtain ⟨_, _, lb, _⟩ := rep_at hK I.i.pq hb
   have ha2 : a < M.n.toNat := by omega
   have hb2 : b < M.n.toNat := by omega
   rw [itC] at h
   have h2 := (itC_pat hM (itC (srtM M) k) ha2 hb2).1 h
   rw [itC]
   refine (itC_pat hW (itC (srtM m) k) la lb).2 ?_
   rw [keyT_cut] at h2 ⊢
   obtain ⟨h3, h4, h5⟩ := h2
   refine ⟨?_, ?_, ?_⟩
   ·
    rw [I.rwS hK hW.d hM.d ha, I.rwS hK hW.d hM.d hb, List.map_map, List.map_map] at h3
    refine Yyr fun p => ?_
    rw [Yd, Yd]
    have hp := congrArg (fun z => z[p]?) h3
    simp only [Yd] at hp
    cases hx : (rwS m (repQ (cls (srtM m)).1 Q a))[p]? with
    | none =>
     rw [hx] at hp
     cases hy : (rwS m (repQ (cls (srtM m)).1 Q b))[p]? with
     | none => rfl
     | some y => rw [hy] at hp; cases hp
    | some x =>
     rw [hx] at hp
     cases hy : (rwS m (repQ (cls (srtM m)).1 Q b))[p]? with
     | none => rw [hy] at hp; cases hp
     | some y =>
      rw [hy] at hp
      have e := Yyp hp
      have e1 : x.ev = y.ev := congrArg Sg.x e
      have e2 : x.ag = y.ag := congrArg Sg.ag e
      have e3 : (((itC (srtM M) k).getD (idxF Q ((cls (srtM m)).1.getD x.t.toNat 0)) 0 : Nat) : Int) = (((itC (srtM M) k).getD (idxF Q ((cls (srtM m)).1.getD y.t.toNat 0)) 0 : Nat) : Int) := congrArg Sg.num e
      have tx := rwS_t hW.n (Yb hx)
      have ty := rwS_t hW.n (Yb hy)
      obtain ⟨l1, r1⟩ := I.at hK ha (Yb hx) tx
      obtain ⟨l2, r2⟩ := I.at hK hb (Yb hy) ty
      obtain ⟨_, _, n1, _⟩ := rep_at hK I.i.pq l1
      obtain ⟨_, _, n2, _⟩ := rep_at hK I.i.pq l2
      have hlen := itC_len (srtM M) k
      have hlen : (itC (srtM M) k).length = M.n.toNat := hlen
      obtain ⟨u, hu⟩ := get_some (l := itC (srtM M) k) (i := idxF Q ((cls (srtM m)).1.getD x.t.toNat 0)) (by omega)
      obtain ⟨v, hv⟩ := get_some (l := itC (srtM M) k) (i := idxF Q ((cls (srtM m)).1.getD y.t.toNat 0)) (by omega)
      rw [getD_some hu, getD_some hv] at e3
      have h6 := ih l1 l2 (by rw [hu, hv]; congr 1; omega)
      have a1 := it_ref hW n1 tx r1 k
      have a2 := it_ref hW n2 ty r2 k
      have hlm : (itC (srtM m) k).length = m.n.toNat := itC_len (srtM m) k
      obtain ⟨p', hp'⟩ := get_some (l := itC (srtM m) k) (i := x.t.toNat) (by omega)
      obtain ⟨q', hq'⟩ := get_some (l := itC (srtM m) k) (i := y.t.toNat) (by omega)
      have e4 : p' = q' := by
       have := a1.symm.trans (h6.trans a2)
       rw [hp', hq'] at this
       exact Yyp this
      show some (sgM (itC (srtM m) k) x) = some (sgM (itC (srtM m) k) y)
      unfold sgM
      rw [e1, e2, getD_some hp', getD_some hq', e4]
   ·
    rw [<- I.sgT hK hW hM ha, <- I.sgT hK hW hM hb]; exact h4
   ·
    rw [sgB_cut] at h5 ⊢
    obtain ⟨h6, h7⟩ := h5
    rw [getD_some (I.fin ha), getD_some (I.fin hb)] at h7
    refine ⟨?_, h7⟩
    have hlen : (itC (srtM M) k).length = M.n.toNat := itC_len (srtM M) k
    obtain ⟨u, hu⟩ := get_some (l := itC (srtM M) k) (i := a) (by omega)
    obtain ⟨v, hv⟩ := get_some (l := itC (srtM M) k) (i := b) (by omega)
    rw [getD_some hu, getD_some hv] at h6
    have h8 := ih ha hb (by rw [hu, hv, h6])
    rw [Yo, Yo, h8]
 obtain ⟨N, hN⟩ := it_end2 hW
 have h2 := key N hi hj (it_ref hM (by omega) (by omega) h N)
 rw [<- hN] at h2
 obtain ⟨p, hp, _, hd⟩ := rep_at hK I.i.pq hi
 obtain ⟨q, hq, _, he⟩ := rep_at hK I.i.pq hj
 rw [hd, he] at h2
 exact (List.getElem?_inj hi I.i.pq.nd).1 (by rw [hp, hq, h2])
end
theorem minF_i {m : Mch} (hW : WM m) : ∃ c0 Q, (cls (srtM m)).1[m.s.toNat]? = some c0 /\ MinI m (cls (srtM m)).1 (cls (srtM m)).2 c0 (minF (srtM m)) Q := by
 have hK := cls_ok (srtM_raw hW).ok
 have hs := hW.n.s
 obtain ⟨c0, hc0⟩ := get_some (l := (cls (srtM m)).1) (i := m.s.toNat) (by have : (cls (srtM m)).1.length = m.n.toNat := hK.cl; omega)
 obtain ⟨Q, I⟩ := minN_i hW hK hc0
 refine ⟨c0, Q, hc0, ?_⟩
 unfold minF
 rw [show (srtM m).s = m.s from rfl, getD_some hc0]
 exact I
theorem minF_idem {m : Mch} (hV : VM m) : minF (srtM (minF (srtM m))) = minF (srtM m) := by
 have hW := hV.w
 have hM := (minF_vm hV).w
 obtain ⟨c0, Q, h0, I⟩ := minF_i hW
 obtain ⟨d0, P, h1, J⟩ := minF_i hM
 have hK := cls_ok (srtM_raw hW).ok
 have hD := cls_ok (srtM_raw hM).ok
 have hDl : (cls (srtM (minF (srtM m)))).1.length = (minF (srtM m)).n.toNat := hD.cl
 have hn2 : (minF (srtM m)).n.toNat = Q.length := by rw [I.n]; rfl
 refine (min_eq I J hK hD hW hM h0 h1 (sim_min hW hM I h0) ⟨?_, ?_, ?_⟩).symm
 ·
  rintro x y y' ⟨_, a2, a3⟩ ⟨_, b2, b3⟩
  have : y = y' := (List.getElem?_inj a2 I.i.pq.nd).1 (by rw [<- a3, b3])
  rw [this]
 ·
  rintro x x' y ⟨_, _, a3⟩ ⟨_, _, b3⟩
  rw [a3, b3]
 ·
  rintro x x' y y' ⟨a1, a2, a3⟩ hx' hy' e1 e2
  have hCl : (cls (srtM m)).1.length = m.n.toNat := hK.cl
  have hyy : y = y' := min_apart hW hM I a2 (by omega) e2
  subst hyy
  exact ⟨by omega, a2, by rw [<- e1, a3]⟩
end Go.VC
end

section
/- Plain: a machine with its states renamed. No program here. -/
namespace Go.VC
open Go.LexS
section
variable {n : Nat} {to : List Nat}
end
section
variable {m : Mch} {to : List Nat}
end
end Go.VC
end

section
/- Plain: machines that do the same make the same histories. No program here. -/
namespace Go.VC
open Go.LexS
section
variable {m k : Mch} {S : Nat -> Nat -> Prop}
end
end Go.VC
end

section
/- Contracts: the reference of validity: words, sorts, numbers of variables; each answers exactly. -/
namespace Go.VC
open Go.Proofs Go.LexS
theorem letter199 (b : UInt8) (h : Heap) : Fn Pz 223 #[.int .u8 b.toNat] h fun v h' => v = .bool (lt b) /\ h' = h := by
 apply vc223; unfold W223
 unfold lt isLetter
 generalize (b.toNat : Int) = n
 repeat' first
  | refine sBi (fun _ => ?_) (fun _ => ?_)
 all_goals
  refine ⟨?_, rfl⟩
  congr 1
  rw [Bool.eq_iff_iff]
  simp only [Bool.or_eq_true, Yt, decide_eq_true_eq, Bool.false_eq_true, true_iff, false_iff]
  omega
theorem digit240 (b : UInt8) (h : Heap) : Fn Pz 255 #[.int .u8 b.toNat] h fun v h' => v = .bool (dg b) /\ h' = h := by
 apply vc255; unfold W255
 unfold dg isDigit
 refine sBi (fun c => ⟨?_, rfl⟩) (fun c => ⟨?_, rfl⟩)
 ·
  rw [decide_eq_true (p := (48 : Int) <= b.toNat) c, Bool.true_and]
 ·
  rw [decide_eq_false (p := (48 : Int) <= b.toNat) c, Bool.false_and]
theorem inner200 (b : UInt8) (h : Heap) : Fn Pz 224 #[.int .u8 b.toNat] h fun v h' => v = .bool (inn b) /\ h' = h := by
 apply vc224; unfold W224
 refine (letter199 b h).mono ?_
 rintro _ h3 ⟨rfl, rfl⟩
 refine ⟨_, rfl, sB_intro (fun c => ?_) (fun c => ?_)⟩
 ·
  exact ⟨by rw [show inn b = (lt b || dg b || ((b.toNat : Int) == 95)) from rfl, c]; rfl, rfl⟩
 ·
  refine (digit240 b _).mono ?_
  rintro _ h6 ⟨rfl, rfl⟩
  refine ⟨_, rfl, sB_intro (fun d => ?_) (fun d => ?_)⟩
  ·
   exact ⟨by rw [show inn b = (lt b || dg b || ((b.toNat : Int) == 95)) from rfl, c, d]; rfl, rfl⟩
  ·
   exact ⟨by rw [show inn b = (lt b || dg b || ((b.toNat : Int) == 95)) from rfl, c, d]; rfl, rfl⟩
theorem isName152 (s : ByteArray) (h : Heap) : Fn Pz 186 #[.string s] h fun v h' => v = .bool (isName s.data.toList) /\ h' = h := by
 apply vc186; unfold W186
 have hsz := size_len s
 rw [strEq]
 generalize hL : s.data.toList = L at *
 refine sB_intro (fun he => ?_) (fun he => ?_)
 ·
  have : L = [] := Yyn he
  subst this
  exact ⟨rfl, rfl⟩
 ·
  have hne : L ≠ [] := Yyo he
  have hpos : 0 < L.length := List.length_pos_iff.2 hne
  obtain ⟨b, hb, hby⟩ := byte_get (s := s) (i := 0) (by omega)
  rw [hL] at hb
  have hcons : L = b :: L.drop 1 := by have := drop_cons hb; rwa [List.drop_zero] at this
  have hdef : isName L = (decide (L.length <= 16) && lt b && L.all inn) := by
   conv => lhs; rw [hcons]
   rw [isName, <- hcons]
  rw [hdef]
  refine ⟨⟨by omega, by omega⟩, ?_⟩
  rw [show Int.toNat 0 = 0 from rfl, hby]
  refine (letter199 _ _).mono ?_
  rintro v h3 ⟨rfl, rfl⟩
  refine ⟨_, rfl, sB_intro (fun hlet => ?_) (fun hlet => ?_)⟩
  ·
   refine ⟨?_, rfl⟩
   rw [show lt b = false from by rw [Bool.not_eq_true'] at hlet; exact hlet, Bool.and_false]; rfl
  rw [show lt b = true from by rw [Bool.not_eq_false'] at hlet; exact hlet]
  refine sB_intro (fun hgt => ?_) (fun hgt => ?_)
  ·
   refine ⟨?_, rfl⟩
   rw [decide_eq_false (by have := Yyn hgt; omega)]; rfl
  ·
   have h16 : L.length <= 16 := by have := Yyo hgt; omega
   rw [decide_eq_true h16]
   refine up_loop (n := s.size) (fun i h' => h' = h3 /\ ∀ (j : Nat) (b : UInt8), j < i -> L[j]? = some b -> (!inn b) = false) ⟨rfl, fun j b hj => by omega⟩ ?_
   rintro - i h8 hi ⟨rfl, hd⟩
   refine sB_intro (fun hlt => ?_) (fun hge => ?_)
   ·
    have hlt' := lt_t hlt
    obtain ⟨y, hy, hby2⟩ := byte_get hlt'
    rw [hL] at hy
    refine ⟨⟨by omega, by omega⟩, ?_⟩
    rw [show Int.toNat (i : Int) = i from rfl, hby2]
    refine (inner200 _ _).mono ?_
    rintro v h11 ⟨rfl, rfl⟩
    refine ⟨_, rfl, sB_intro (fun hp => ?_) (fun hp => ?_)⟩
    ·
     refine ⟨?_, rfl⟩
     have : L.all inn = false := by
      rw [<- Bool.not_eq_true, all_split]
      intro hh
      have := hh y i hy
      rw [Bool.not_eq_true'] at hp
      rw [show inn y = false from hp] at this; cases this
     rw [this]; rfl
    ·
     exact Up.next hlt' (by omega) ⟨rfl, scan_next (p := fun b => !inn b) hy hp hd⟩
   ·
    have hge' := lt_f hge
    refine ⟨?_, rfl⟩
    rw [(all_split inn L).2 fun b j hb => by simpa using hd j b (by have := (Ya.1 hb).1; omega) hb]; rfl
theorem in153 (l : List Nm) (s : Sl) (x : ByteArray) (h : Heap) (hr : Rw h 1 s (l.map nmC)) (hm : l.length <= 1048576) : Fn Pz 187 #[.slice s.a s.n s.c, .string x] h fun v h' => v = .bool (decide (x.data.toList ∈ l)) /\ h' = h := by
 apply vc187; unfold W187
 have hn := hr.ln
 refine up_loop (n := s.n) (fun i h' => h' = h /\ x.data.toList ∉ l.take i) ⟨rfl, fun e => by simp at e⟩ ?_
 rintro - i h8 hi ⟨rfl, hd⟩
 refine sB_intro (fun c => ?_) (fun c => ?_)
 ·
  replace c := lt_t c
  refine hr.nbI (by omega) (by omega) fun b o d g t => ?_
  replace g : l[i]? = some d := g
  refine ⟨_, t.hd, ?_⟩
  rw [strEq, bs_list]
  refine sB_intro (fun he => ?_) (fun hne => ?_)
  ·
   replace he := Yyn he
   exact ⟨by rw [decide_eq_true (by first | (rw [he]; exact Yb g) | (rw [<- he]; exact Yb g))], rfl⟩
  ·
   replace hne := Yyo hne
   refine Up.next c (by omega) ⟨rfl, fun hm2 => ?_⟩
   rw [List.take_add_one, g] at hm2
   rcases Yk.1 hm2 with hm2 | hm2
   ·
    exact hd hm2
   ·
    first | exact hne (Ye.1 hm2) | exact hne (Ye.1 hm2).symm
 ·
  replace c := lt_f c
  refine ⟨?_, rfl⟩
  rw [Yj (by omega)] at hd
  rw [decide_eq_false hd]
theorem index112 (l : List Nm) (s : Sl) (x : ByteArray) (h : Heap) (hr : Rw h 1 s (l.map nmC)) (hm : l.length <= 1048576) : Fn Pz 157 #[.slice s.a s.n s.c, .string x] h fun v h' => (∃ k : Int, v = .int .i64 k /\ (∀ i : Nat, i < l.length -> (k < (i : Int) ↔ x.data.toList ∈ l.take i \/ x.data.toList ∉ l))) /\ h' = h := by
 apply vc157; unfold W157
 have hn := hr.ln
 refine up_loop (n := s.n) (fun i h' => h' = h /\ x.data.toList ∉ l.take i) ⟨rfl, fun e => by simp at e⟩ ?_
 rintro - i h8 hi ⟨rfl, hd⟩
 refine sB_intro (fun c => ?_) (fun c => ?_)
 ·
  replace c := lt_t c
  refine hr.nbI (by omega) (by omega) fun b o d g t => ?_
  replace g : l[i]? = some d := g
  refine ⟨_, t.hd, ?_⟩
  rw [strEq, bs_list]
  refine sB_intro (fun he => ?_) (fun hne => ?_)
  ·
   replace he := Yyn he
   have he2 : x.data.toList = d := by first | exact he | exact he.symm
   have hmem : x.data.toList ∈ l := by rw [he2]; exact Yb g
   refine ⟨⟨_, rfl, fun k hk => ⟨fun hik => .inl ?_, fun hor => ?_⟩⟩, rfl⟩
   ·
    have : l[i]? = some x.data.toList := by rw [he2]; exact g
    exact Yb (i := i) (by rw [Yyf, if_pos (by omega)]; exact this)
   ·
    rcases hor with hor | hor
    ·
     apply Classical.byContradiction
     intro hki
     have : l.take k = (l.take i).take k := by rw [List.take_take, Nat.min_eq_left (by omega)]
     rw [this] at hor
     exact hd (List.mem_of_mem_take hor)
    ·
     exact absurd hmem hor
  ·
   replace hne := Yyo hne
   refine Up.next c (by omega) ⟨rfl, fun hm2 => ?_⟩
   rw [List.take_add_one, g] at hm2
   rcases Yk.1 hm2 with hm2 | hm2
   ·
    exact hd hm2
   ·
    first | exact hne (Ye.1 hm2) | exact hne (Ye.1 hm2).symm
 ·
  replace c := lt_f c
  rw [Yj (by omega)] at hd
  exact ⟨⟨_, rfl, fun k hk => ⟨fun _ => .inr hd, fun _ => by omega⟩⟩, rfl⟩
def kwB : List ByteArray := [⟨#[97, 103, 97, 105, 110]⟩, ⟨#[97, 110, 100]⟩, ⟨#[97, 115]⟩, ⟨#[97, 116]⟩, ⟨#[99, 97, 108, 108]⟩, ⟨#[99, 104, 111, 105, 99, 101]⟩, ⟨#[101, 108, 115, 101]⟩, ⟨#[102, 114, 111, 109]⟩, ⟨#[105, 102]⟩, ⟨#[105, 110, 116]⟩, ⟨#[108, 101, 110]⟩, ⟨#[108, 111, 111, 112]⟩, ⟨#[109, 101, 115, 115, 97, 103, 101]⟩, ⟨#[111, 102]⟩, ⟨#[111, 102, 102, 101, 114]⟩, ⟨#[111, 110]⟩, ⟨#[111, 114]⟩, ⟨#[112, 97, 114]⟩, ⟨#[112, 108, 97, 121, 115]⟩, ⟨#[112, 114, 111, 116, 111, 99, 111, 108]⟩, ⟨#[115, 101, 114, 118, 105, 99, 101]⟩, ⟨#[116, 101, 120, 116]⟩, ⟨#[116, 105, 109, 101, 115]⟩, ⟨#[116, 111]⟩, ⟨#[118, 97, 114]⟩, ⟨#[119, 104, 101, 114, 101]⟩, ⟨#[119, 104, 105, 108, 101]⟩, ⟨#[119, 105, 116, 104, 105, 110]⟩]
theorem kwB_eq : (kwB.map fun b => b.data.toList) = keywords := rfl
theorem keywords154 (h : Heap) : Fn Pz 188 #[] h fun v h' => Ext h h' /\ ∃ s : Sl, v = .slice s.a s.n s.c /\ Rw h' 1 s (keywords.map nmC) := by
 apply vc188; unfold W188
 intro h1 e
 have ho : Own h1 h.size (kwB.map Value.string) 9 := by rw [e]; exact Own.push
 have hl : kwB.length = 28 := rfl
 rw [<- kwB_eq]
 refine ⟨by rw [e]; exact Ext.push _ _, ⟨some ⟨h.size, 0, none⟩, 28, 28⟩, rfl, by rw [Yc, Yc, hl], fun _ => ⟨h.size, 0, rfl, fun i row hi => ?_⟩⟩
 rw [List.map_map, Yd] at hi
 obtain ⟨x, hx1, hx2⟩ := Yya.1 hi
 subst hx2
 refine ho.atC fun j v hj => ?_
 match j, hj with
 | 0, hj => cases hj; rw [show 0 + i * 1 + 0 = i by omega, Yd, hx1]; rfl
theorem isWord111 (s : ByteArray) (h : Heap) : Fn Pz 156 #[.string s] h fun v h' => v = .bool (isWord s.data.toList) /\ Ext h h' := by
 apply vc156; unfold W156
 refine (isName152 s h).mono ?_
 rintro _ h3 ⟨rfl, rfl⟩
 refine ⟨_, rfl, sB_intro (fun c => ?_) (fun c => ?_)⟩
 ·
  refine (keywords154 h3).mono ?_
  rintro _ h6 ⟨E2, k, rfl, hk⟩
  refine ⟨_, rfl, ?_⟩
  refine (in153 _ k s h6 hk (by decide)).mono ?_
  rintro _ h9 ⟨rfl, rfl⟩
  exact ⟨_, rfl, by rw [isWord, c]; rfl, E2⟩
 ·
  exact ⟨by rw [isWord, c]; rfl, .rfl'⟩
theorem word201 (s : ByteArray) (h : Heap) : Fn Pz 225 #[.string s] h fun v h' => v = .bool (isWord s.data.toList) /\ Ext h h' := by
 apply vc225; unfold W225
 refine (isWord111 s h).mono ?_
 rintro _ h3 ⟨rfl, E⟩
 exact ⟨_, rfl, rfl, E⟩
theorem ix_one {l : Nm} : Lib.index l [46] = Lib.indexByte l 46 := Lib.index_one l 46
theorem pieces_none {l : Nm} (hn : ∀ k : Nat, l[k]? ≠ some 46) : pieces l = [l] := by
 have h1 : Lib.index l [46] = -1 := by
  have h0 := Lib.index_ge l [46]
  apply Classical.byContradiction
  intro h2
  obtain ⟨o, ho⟩ : ∃ o : Nat, Lib.index l [46] = o := ⟨(Lib.index l [46]).toNat, by omega⟩
  rw [ix_one] at ho
  exact hn o (Lib.indexByte_some ho).1
 unfold pieces Lib.split
 rw [Lib.count_miss h1]; rfl
theorem pieces_hit {l : Nm} {i : Nat} (hi : l[i]? = some 46) (hn : ∀ k : Nat, k < i -> l[k]? ≠ some 46) : pieces l = l.take i :: pieces (l.drop (i + 1)) := by
 have h1 : Lib.index l [46] = (i : Int) := by
  have h0 := Lib.index_ge l [46]
  have h2 : Lib.index l [46] ≠ -1 := fun h2 => by rw [ix_one] at h2; exact Lib.indexByte_none h2 i hi
  obtain ⟨o, ho⟩ : ∃ o : Nat, Lib.index l [46] = o := ⟨(Lib.index l [46]).toNat, by omega⟩
  have h3 := Lib.indexByte_some (ix_one (l := l) ▸ ho)
  have : o = i := by
   rcases Nat.lt_trichotomy o i with h | h | h
   ·
    exact absurd h3.1 (hn o h)
   ·
    exact h
   ·
    exact absurd hi (h3.2 i h)
  rw [ho, this]
 unfold pieces Lib.split
 rw [Lib.count_hit (i := i) (by decide) h1, Nat.add_comm 1, Lib.splitK, if_neg (by rw [h1]; intro e; have := eq_of_beq e; omega), h1]
 rfl
theorem isPath157 (s : ByteArray) (h : Heap) (hs : s.size <= 1048576) : Fn Pz 191 #[.string s] h fun v h' => v = .bool (isPath s.data.toList) /\ Ext h h' := by
 apply vc191; unfold W191
 have hsz := size_len s
 generalize hL : s.data.toList = L at *
 refine ⟨fun f i h' m => ∃ a b : Nat, f = a /\ i = b /\ a <= b /\ b <= s.size + 1 /\ m = s.size + 1 - b /\ Ext h h' /\ (b <= s.size -> (∀ k : Nat, a <= k -> k < b -> L[k]? ≠ some 46) /\ (pieces L).all isWord = (pieces (L.drop a)).all isWord) /\ (s.size < b -> (pieces L).all isWord = true), ⟨_, 0, 0, rfl, rfl, Yyt _, by omega, rfl, .rfl', fun _ => ⟨fun k _ hk => by omega, rfl⟩, fun hb => by omega⟩, ?_⟩
 rintro - _ _ h6 m ⟨a, b, rfl, rfl, hab, hb, rfl, E, hq, hz⟩
 refine sB_intro (fun c => ?_) (fun c => ?_)
 ·
  replace c := Yyn c
  have hbs : b <= s.size := by omega
  obtain ⟨q1, q2⟩ := hq hbs
  have hw : IntKind.wrap .i64 ((b : Int) + 1) = ((b + 1 : Nat) : Int) := by rw [w64 (by omega) (by omega)]; omega
  have hsl : (s.extract (Int.toNat (a : Int)) (Int.toNat (b : Int))).data.toList = (L.drop a).take (b - a) := by
   rw [show Int.toNat (a : Int) = a from rfl, show Int.toNat (b : Int) = b from rfl, ext_data, hL]
  refine sB_intro (fun c2 => ?_) (fun c2 => ?_)
  ·
   have hbe : b = s.size := by
    have : (b : Int) = s.size := by simpa using c2
    omega
   have hp : pieces (L.drop a) = [L.drop a] := pieces_none fun k hk => by
    rw [List.getElem?_drop] at hk
    exact q1 (a + k) (by omega) (by have := (Ya.1 hk).1; omega) hk
   have hta : (L.drop a).take (b - a) = L.drop a := Yj (by rw [List.length_drop]; omega)
   refine ⟨⟨by omega, by omega, by omega⟩, ?_⟩
   refine (word201 _ h6).mono ?_
   rintro _ h9 ⟨rfl, E2⟩
   rw [hsl, hta]
   rw [hp, List.all_cons, List.all_nil, Bool.and_true] at q2
   refine ⟨_, rfl, sB_intro (fun c3 => ?_) (fun c3 => ⟨_, by omega, b + 1, b + 1, hw, hw, by omega, by omega, rfl, E.trans E2, fun hb2 => by omega, fun _ => ?_⟩)⟩
   ·
    refine ⟨?_, E.trans E2⟩
    rw [isPath, q2, bF c3, Bool.and_false]
   ·
    rw [q2, bT c3]
  ·
   have hne : (b : Int) ≠ s.size := by simpa using c2
   obtain ⟨y, hy, hby⟩ := byte_get (s := s) (i := b) (by omega)
   rw [hL] at hy
   refine ⟨⟨by omega, by omega⟩, ?_⟩
   rw [show Int.toNat (b : Int) = b from rfl] at *
   rw [hby]
   refine sB_intro (fun c3 => ?_) (fun c3 => ⟨_, by omega, a, b + 1, rfl, hw, by omega, by omega, rfl, E, fun _ => ⟨fun k hk1 hk2 => ?_, q2⟩, fun hb2 => by omega⟩)
   ·
    have hy46 : y = 46 := by
     have h4 : (y.toNat : Int) = 46 := by simpa using c3
     exact UInt8.toNat_inj.1 (by rw [show (46 : UInt8).toNat = 46 from rfl]; omega)
    subst hy46
    have hp : pieces (L.drop a) = (L.drop a).take (b - a) :: pieces ((L.drop a).drop (b - a + 1)) := pieces_hit (by rw [List.getElem?_drop, show a + (b - a) = b by omega]; exact hy) fun k hk => by
     rw [List.getElem?_drop]; exact q1 (a + k) (by omega) (by omega)
    rw [List.drop_drop, show a + (b - a + 1) = b + 1 by omega] at hp
    rw [hp, List.all_cons] at q2
    refine ⟨⟨by omega, by omega, by omega⟩, ?_⟩
    refine (word201 _ h6).mono ?_
    rintro _ h9 ⟨rfl, E2⟩
    rw [hsl]
    refine ⟨_, rfl, sB_intro (fun c4 => ?_) (fun c4 => ⟨_, by omega, b + 1, b + 1, hw, hw, by omega, by omega, rfl, E.trans E2, fun hb2 => ⟨fun k _ _ => by omega, ?_⟩, fun hb2 => by omega⟩)⟩
    ·
     refine ⟨?_, E.trans E2⟩
     rw [isPath, q2, bF c4, Bool.false_and, Bool.and_false]
    ·
     rw [q2, bT c4, Bool.true_and]
   ·
    by_cases hkb : k = b
    ·
     subst hkb
     rw [hy]
     intro e
     cases e
     simp at c3
    ·
     exact q1 k hk1 (by omega)
 ·
  replace c := Yyo c
  refine ⟨?_, E⟩
  rw [isPath, hz (by omega), Bool.and_true]
  first | rfl | (congr 1; rw [decide_eq_decide]; omega)
theorem vars155 (ds : List Dc) (s : Sl) (h : Heap) (hd : DL h s ds) : Fn Pz 189 #[.slice s.a s.n s.c] h fun v h' => v = .int .i64 ((allF ds).length : Nat) /\ (allF ds).length <= 1099511627776 /\ h' = h := by
 apply vc189; unfold W189
 have hn := hd.r.ln
 have hm := hd.r.sm
 have hle : ∀ i, i <= ds.length -> (allF (ds.take i)).length <= i * 1048576 := fun i hi => by
  have := allF_le (ds.take i) fun d hd2 => (hd.i d (List.mem_of_mem_take hd2)).pf.sm
  rw [Yu, Nat.min_eq_left hi] at this; exact this
 have hmx : ∀ i, i <= ds.length -> (allF (ds.take i)).length <= 1099511627776 := fun i hi => by
  have := hle i hi
  have : i * 1048576 <= 1048576 * 1048576 := Nat.mul_le_mul_right _ (by omega)
  omega
 refine ⟨fun q i h' m => ∃ b : Nat, i = b /\ b <= s.n /\ m = s.n - b /\ h' = h /\ q = ((allF (ds.take b)).length : Nat), ⟨_, 0, rfl, by omega, rfl, rfl, rfl⟩, ?_⟩
 rintro - nn _ h6 m ⟨b, rfl, hb, rfl, rfl, rfl⟩
 refine sB_intro (fun c => ?_) (fun c => ?_)
 ·
  replace c := lt_t c
  refine hd.r.rw.nbI (by omega) (by omega) fun b7 o8 d g t => ?_
  replace g : ds[b]? = some d := g
  have hfn := (hd.i d (Yb g)).pf.ln
  refine ⟨_, t.nth 1 rfl, _, ?_, b + 1, by rw [w64 (by omega) (by omega)]; omega, by omega, rfl, rfl, ?_⟩
  ·
   omega
  ·
   have h1 := hmx (b + 1) (by omega)
   rw [List.take_add_one, g, Option.toList_some, allF_snoc, Yh] at h1 ⊢
   rw [w64 (by omega) (by omega)]; omega
 ·
  replace c := lt_f c
  have h1 := hmx ds.length (Yyt _)
  rw [Yye] at h1
  rw [Yj (by omega)]
  exact ⟨rfl, h1, rfl⟩
theorem goodSort156 (a b c : Int) (h : Heap) : Fn Pz 190 #[.agg ⟨[.int .i64 a, .int .i64 b, .int .i64 c]⟩] h (RP (SortS a b c) h) := by
 apply vc190; unfold W190
 refine (St.refl h).newb fun h4 hs => ?_
 refine ⟨fun l m h' => h' = h4 /\ ((a = 2 /\ l = 0 /\ m = 40) \/ (a ≠ 2 /\ l = -1000 /\ m = 1000)), ⟨_, hs.rd 0 rfl rfl, sBi (fun c => ⟨rfl, .inl ⟨by simpa using c, rfl, rfl⟩⟩) (fun c => ⟨rfl, .inr ⟨by simpa using c, rfl, rfl⟩⟩)⟩, ?_⟩
 rintro - l m _ ⟨rfl, hlm⟩
 repeat' (first
  | (refine ⟨_, hs.rd 0 rfl rfl, ?_⟩)
  | (refine sBi (fun _ => ?_) (fun _ => ?_)))
 all_goals
  refine RP.e ?_ hs.ext
  unfold SortS
  simp only [Bool.false_eq_true, decide_eq_true_eq, beq_iff_eq, false_iff, true_iff] at *
  omega
end Go.VC
end

section
/- Contracts: the reference of validity: guards and declarations; each answers exactly. -/
namespace Go.VC
open Go.Proofs Go.LexS
theorem field241 (ds : List Dc) (s : Sl) (p : Int) (h : Heap) (hd : DL h s ds) (h0 : 0 <= p) (h1 : p < (allF ds).length) (h2 : (allF ds).length <= 1099511627776) :
  Fn Pz 256 #[.slice s.a s.n s.c, .int .i64 p] h fun v h' => (∃ f, (allF ds)[p.toNat]? = some f /\ v = .agg ⟨f.cs⟩) /\ Ext h h' := by
 apply vc256; unfold W256
 have hn := hd.r.ln
 have hm := hd.r.sm
 refine (St.refl h).newb fun h1' hs => ?_
 refine ⟨fun x i h' m => ∃ b : Nat, i = b /\ b <= s.n /\ m = s.n - b /\ h' = h1' /\ 0 <= x /\ x + ((allF (ds.take b)).length : Nat) = p, ⟨_, 0, rfl, by omega, rfl, rfl, h0, by show p + ((0 : Nat) : Int) = p; omega⟩, ?_⟩
 rintro - x _ h7 m ⟨b, rfl, hb, rfl, rfl, hx0, hx1⟩
 refine sB_intro (fun c => ?_) (fun c => ?_)
 ·
  replace c := lt_t c
  have hrw := hd.r.rw.ext hs.ext
  refine hrw.nbI (by omega) (by omega) fun b8 o9 d g t => ?_
  replace g : ds[b]? = some d := g
  have hdi := hd.i d (Yb g)
  have hfn := hdi.pf.ln
  have hfm := hdi.pf.sm
  have hsp : allF ds = allF (ds.take b) ++ (d.fs ++ allF (ds.drop (b + 1))) := by
   have e : ds = ds.take b ++ d :: ds.drop (b + 1) := by
    have h3 := (List.take_append_drop b ds).symm
    have hl := (Ya.1 g).1
    rw [List.drop_eq_getElem_cons hl, (Ya.1 g).2] at h3; exact h3
   conv => lhs; rw [e]
   unfold allF
   rw [List.flatMap_append, List.flatMap_cons]
  refine ⟨_, t.nth 1 rfl, sB_intro (fun c2 => ?_) (fun c2 => ?_)⟩
  ·
   replace c2 := Yyn c2
   refine hrw.nbI (by omega) (by omega) fun b11 o12 d2 g2 t2 => ?_
   replace g2 : ds[b]? = some d2 := g2
   rw [g] at g2; cases g2
   refine ⟨_, t2.nth 1 rfl, ?_⟩
   refine (hdi.pf.rw.ext hs.ext).nbI hx0 c2 fun b14 o15 f g3 t3 => ?_
   refine ⟨_, _, _, _, t3, ?_⟩
   refine hs.put 0 rfl (o := 0) (vs := f.cs) rfl (show 4 <= 4 by decide) fun h20 hs => ?_
   refine ⟨_, _, _, _, hs.at 0 rfl (o := 0) (n := 4) rfl, ⟨f, ?_, rfl⟩, hs.ext⟩
   have hxl := (Ya.1 g3).1
   rw [hsp, Yyc (by omega), Yyi (by omega), <- g3]
   congr 1; omega
  ·
   replace c2 := Yyo c2
   refine hrw.nbI (by omega) (by omega) fun b11 o12 d2 g2 t2 => ?_
   replace g2 : ds[b]? = some d2 := g2
   rw [g] at g2; cases g2
   refine ⟨_, t2.nth 1 rfl, s.n - (b + 1), by omega, b + 1, by rw [w64 (by omega) (by omega)]; omega, by omega, rfl, rfl, ?_⟩
   rw [w64 (by omega) (by omega)]
   refine ⟨by omega, ?_⟩
   rw [List.take_add_one, g, Option.toList_some, allF_snoc, Yh]; omega
 ·
  replace c := lt_f c
  rw [Yj (by omega)] at hx1
  omega
theorem text202 (ds : List Dc) (s : Sl) (p : Int) (h : Heap) (hd : DL h s ds) : Fn Pz 226 #[.slice s.a s.n s.c, .int .i64 p] h (RP (TextS (allF ds) p) h) := by
 apply vc226; unfold W226
 refine sB_intro (fun c => ?_) (fun c => ?_)
 ·
  replace c := Yyn c
  refine (vars155 ds s h hd).mono ?_
  rintro _ h3 ⟨rfl, hk, rfl⟩
  refine ⟨_, rfl, sB_intro (fun c2 => ?_) (fun c2 => ?_)⟩
  ·
   replace c2 := Yyn c2
   refine (field241 ds s p _ hd (by omega) (by omega) hk).mono ?_
   rintro _ h9 ⟨⟨f, hf, rfl⟩, E⟩
   refine ⟨_, _, _, _, rfl, RP.e ⟨fun hb => ⟨by omega, f, hf, by simpa using hb⟩, ?_⟩ E⟩
   rintro ⟨_, f2, hf2, hk2⟩
   rw [hf] at hf2; cases hf2
   simpa using hk2
  ·
   replace c2 := Yyo c2
   refine RP.f ?_ .rfl'
   rintro ⟨_, f2, hf2, _⟩
   have := (Ya.1 hf2).1
   omega
 ·
  replace c := Yyo c
  exact RP.f (fun hT => by have := hT.1; omega) .rfl'
theorem goodGuard158 (ds : List Dc) (s : Sl) (d : Dc) (h : Heap) (hd : DL h s ds) (hi : DI h d) :
  Fn Pz 192 #[.slice s.a s.n s.c, .agg ⟨[.slice d.hd.a d.hd.n d.hd.c, .slice d.he.a d.he.n d.he.c]⟩] h (RP (GuardS (allF ds) d.ds d.es) h) := by
 apply vc192 s d.hd d.he; unfold W192
 have hdn := hi.pd.ln
 have hdm := hi.pd.sm
 have hen := hi.pe.ln
 have hem := hi.pe.sm
 refine (St.refl h).newb fun h3 hs => ?_
 refine (vars155 ds s h3 (hd.ext hs.ext)).mono ?_
 rintro _ h6 ⟨rfl, hk, rfl⟩
 refine ⟨_, rfl, ?_⟩
 refine up_loopS (n := d.hd.n) hs (fun i => ∀ (j : Nat) (x : Df), j < i -> d.ds[j]? = some x -> -1 <= min x.x x.y /\ max x.x x.y < (allF ds).length /\ -20000 <= x.c /\ x.c <= 20000) (fun j x hj => by omega) ?_
 rintro - i h11 hin ⟨hs, hq⟩
 refine ⟨_, hs.rd 0 rfl rfl, sB_intro (fun c => ?_) (fun c => ?_)⟩
 ·
  replace c := lt_t c
  refine ⟨_, hs.rd 0 rfl rfl, ?_⟩
  refine (hi.pd.rw.ext hs.ext).nbI (by omega) (by omega) fun b o x g t => ?_
  replace g : d.ds[i]? = some x := g
  refine ⟨_, _, _, t, ?_⟩
  refine hs.newput (vs := x.cs) rfl rfl fun h20 hs => ?_
  repeat' (first
    | (refine ⟨_, hs.rd 0 rfl rfl, ?_⟩)
    | (refine ⟨_, hs.rd 1 rfl rfl, ?_⟩)
    | (refine sBi (fun _ => ?_) (fun _ => ?_))
    | (refine sBe (fun _ => ?_) (fun _ => ?_))
    | (refine sBn (fun _ => ?_) (fun _ => ?_)))
  all_goals first
   | exact RP.f (fun hG => by have := hG.d x (Yb g); omega) hs.ext
   | (refine Up.next c (by omega) ⟨hs.drop 1, fun j y hj hy => ?_⟩
      by_cases e : j = i
      ·
       subst e; rw [g] at hy; cases hy; omega
      ·
       exact hq j y (by omega) hy)
 ·
  replace c := lt_f c
  have hqd : ∀ x ∈ d.ds, -1 <= min x.x x.y /\ max x.x x.y < (allF ds).length /\ -20000 <= x.c /\ x.c <= 20000 := fun x hx => by
   obtain ⟨j, hj⟩ := Yf.1 hx
   exact hq j x (by have := (Ya.1 hj).1; omega) hj
  clear hq
  refine up_loopS (n := d.he.n) hs (fun i => ∀ (j : Nat) (x : Eqs), j < i -> d.es[j]? = some x -> TextS (allF ds) x.x /\ TextS (allF ds) x.y) (fun j x hj => by omega) ?_
  rintro - i h32 hin ⟨hs, hq⟩
  refine ⟨_, hs.rd 0 rfl rfl, sB_intro (fun c => ?_) (fun c => ?_)⟩
  ·
   replace c := lt_t c
   refine ⟨_, hs.rd 0 rfl rfl, ?_⟩
   refine (hi.pe.rw.ext hs.ext).nbI (by omega) (by omega) fun b o x g t => ?_
   replace g : d.es[i]? = some x := g
   refine ⟨⟨by omega, by omega⟩, _, t.nth 0 rfl, ?_⟩
   refine (text202 ds s _ h32 (hd.ext hs.ext)).mono ?_
   rintro _ h40 ⟨⟨b1, rfl, hb1⟩, E⟩
   have hs := hs.step E
   refine ⟨_, rfl, sB_intro (fun c1 => RP.f (fun hG => iff_f hb1 (bF c1) (hG.e x (Yb g)).1) hs.ext) (fun c1 => ?_)⟩
   refine ⟨_, hs.rd 0 rfl rfl, ?_⟩
   refine (hi.pe.rw.ext hs.ext).nbI (by omega) (by omega) fun b o x' g' t => ?_
   replace g' : d.es[i]? = some x' := g'
   rw [g] at g'; cases g'
   refine ⟨⟨by omega, by omega⟩, _, t.nth 1 rfl, ?_⟩
   refine (text202 ds s _ h40 (hd.ext hs.ext)).mono ?_
   rintro _ h47 ⟨⟨b2, rfl, hb2⟩, E⟩
   have hs := hs.step E
   refine ⟨_, rfl, sB_intro (fun c2 => RP.f (fun hG => iff_f hb2 (bF c2) (hG.e x (Yb g)).2) hs.ext) (fun c2 => Up.next c (by omega) ⟨hs, fun j y hj hy => ?_⟩)⟩
   by_cases e : j = i
   ·
    subst e; rw [g] at hy; cases hy; exact ⟨hb1.1 (bT c1), hb2.1 (bT c2)⟩
   ·
    exact hq j y (by omega) hy
  ·
   replace c := lt_f c
   have hqe : ∀ x ∈ d.es, TextS (allF ds) x.x /\ TextS (allF ds) x.y := fun x hx => by
    obtain ⟨j, hj⟩ := Yf.1 hx
    exact hq j x (by have := (Ya.1 hj).1; omega) hj
   refine ⟨_, hs.rd 0 rfl rfl, sB_intro (fun c1 => ⟨_, hs.rd 0 rfl rfl, ?_⟩) (fun c1 => ?_)⟩
   ·
    replace c1 := Yyn c1
    refine RP.e ⟨fun hb => ⟨by omega, by have := Yyn hb; omega, hqd, hqe⟩, fun hG => ?_⟩ hs.ext
    have := hG.ne
    exact decide_eq_true (by omega)
   ·
    replace c1 := Yyo c1
    exact RP.f (fun hG => by have := hG.nd; omega) hs.ext
def GNm (ds : List Dc) : Prop := ∀ d ∈ ds, d.nm.length <= 1048576
theorem dup_iff {α : Type} {l : List α} {p : α -> Bool} : (l.any p) = false ↔ ∀ (j : Nat) (y : α), l[j]? = some y -> p y = false := by
 rw [List.any_eq_false]
 refine ⟨fun h j y hj => ?_, fun h y hy => ?_⟩
 ·
  have := h y (Yb hj); cases hp : p y <;> simp_all
 ·
  obtain ⟨j, hj⟩ := Yf.1 hy; rw [h j y hj]; decide
set_option maxHeartbeats 1600000 in
theorem refValid113 (ds : List Dc) (s : Sl) (h : Heap) (hd : DL h s ds) (hN : GNm ds) : Fn Pz 158 #[.slice s.a s.n s.c] h (RP (DeclS ds) h) := by
 apply vc158; unfold W158
 have hn := hd.r.ln
 have hm := hd.r.sm
 refine sB_intro (fun c0 => RP.f (fun hG => by have := hG.pn; have := Yyn c0; omega) .rfl') (fun c0 => ?_)
 replace c0 := Yyo c0
 refine (vars155 ds s h hd).mono ?_
 rintro _ h3 ⟨rfl, hk, rfl⟩
 refine ⟨_, rfl, sB_intro (fun c00 => RP.f (fun hG => by have := hG.pv; have := Yyn c00; omega) .rfl') (fun c00 => ?_)⟩
 replace c00 := Yyo c00
 refine ⟨fun f i h' m => ∃ b : Nat, i = b /\ b <= s.n /\ m = s.n - b /\ St h3 h' [] /\ f = ((allF (ds.take b)).length : Nat) /\ ∀ (j : Nat) (y : Dc), j < b -> ds[j]? = some y -> DcS ds j y, ⟨_, 0, rfl, by omega, rfl, St.refl _, rfl, fun j y hj => by omega⟩, ?_⟩
 rintro - _ _ h9 m ⟨b, rfl, hb, rfl, hs, rfl, hq⟩
 refine sB_intro (fun c => ?_) (fun c => RP.t ⟨by omega, by omega, fun j y hy => hq j y (by have := lt_f c; have := (Ya.1 hy).1; omega) hy⟩ hs.ext)
 replace c := lt_t c
 refine (hd.r.rw.ext hs.ext).nbI (by omega) (by omega) fun b10 o11 d g t => ?_
 replace g : ds[b]? = some d := g
 have hdm := Yb g
 have hdi := hd.i d hdm
 have hfn := hdi.pf.ln
 have hfm := hdi.pf.sm
 refine ⟨_, _, _, _, _, t, ?_⟩
 refine hs.newput (vs := d.cs) rfl rfl fun h18 hs => ?_
 refine up_loopS (n := b) hs (fun i => ∀ (j : Nat) (y : Dc), j < i -> ds[j]? = some y -> y.nm ≠ d.nm) (fun j y hj => by omega) ?_
 rintro - k1 h23 hk1 ⟨hs, hq1⟩
 refine sB_intro (fun c1 => ?_) (fun c1 => ?_)
 ·
  replace c1 := lt_t c1
  refine (hd.r.rw.ext hs.ext).nbI (by omega) (by omega) fun b24 o25 d2 g2 t2 => ?_
  replace g2 : ds[k1]? = some d2 := g2
  refine ⟨_, t2.nth 0 rfl, _, hs.rd 0 rfl rfl, sBs (fun e => ?_) (fun e => Up.next c1 (by omega) ⟨hs, fun j y hj hy => ?_⟩)⟩
  ·
   refine RP.f (fun hG => ?_) hs.ext
   have := dup_iff.1 (hG.pd b d g).pd k1 d2 (by rw [Yyf, if_pos c1]; exact g2)
   exact Yyo this e
  ·
   by_cases e2 : j = k1
   ·
    subst e2; rw [g2] at hy; cases hy; exact e
   ·
    exact hq1 j y (by omega) hy
 replace c1 := lt_f c1
 have hdup : ((ds.take b).any fun x => decide (x.nm = d.nm)) = false := dup_iff.2 fun j y hy => by
  rw [Yyf] at hy
  split at hy
  ·
   exact decide_eq_false (hq1 j y (by omega) hy)
  ·
   cases hy
 clear hq1
 refine up_loopS (n := d.hf.n) hs (fun i => ∀ (j : Nat) (y : Fld), j < i -> d.fs[j]? = some y -> FldS d.fs j y) (fun j y hj => by omega) ?_
 rintro - k2 h33 hk2 ⟨hs, hq2⟩
 refine ⟨_, hs.rd 0 rfl rfl, sB_intro (fun c2 => ?_) (fun c2 => ?_)⟩
 ·
  replace c2 := lt_t c2
  refine ⟨_, hs.rd 0 rfl rfl, ?_⟩
  refine (hdi.pf.rw.ext hs.ext).nbI (by omega) (by omega) fun b36 o37 f g3 t3 => ?_
  replace g3 : d.fs[k2]? = some f := g3
  refine ⟨_, _, _, t3.sub 1 3 rfl, ?_⟩
  refine (goodSort156 _ _ _ h33).mono ?_
  rintro _ h43 ⟨⟨b1, rfl, hb1⟩, E⟩
  have hs := hs.step E
  refine ⟨_, rfl, sB_intro (fun c3 => RP.f (fun hG => iff_f hb1 (bF c3) ((hG.pd b d g).pfs k2 f g3).ps) hs.ext) (fun c3 => ?_)⟩
  refine ⟨_, hs.rd 0 rfl rfl, ?_⟩
  refine (hdi.pf.rw.ext hs.ext).nbI (by omega) (by omega) fun b45 o46 f2 g4 t4 => ?_
  replace g4 : d.fs[k2]? = some f2 := g4
  rw [g3] at g4; cases g4
  refine ⟨_, t4.nth 0 rfl, ?_⟩
  refine (isWord111 (bs f.nm) h43).mono ?_
  rintro _ h50 ⟨rfl, E⟩
  have hs := hs.step E
  refine ⟨_, rfl, sB_intro (fun c4 => RP.f (fun hG => ?_) hs.ext) (fun c4 => ?_)⟩
  ·
   have := ((hG.pd b d g).pfs k2 f g3).pw
   rw [bs_list, this] at c4; cases c4
  refine up_loopS (n := k2) hs (fun i => ∀ (j : Nat) (y : Fld), j < i -> d.fs[j]? = some y -> y.nm ≠ f.nm) (fun j y hj => by omega) ?_
  rintro - j1 h55 hj1 ⟨hs, hq3⟩
  refine sB_intro (fun c5 => ?_) (fun c5 => ?_)
  ·
   replace c5 := lt_t c5
   refine ⟨_, hs.rd 0 rfl rfl, ?_⟩
   refine (hdi.pf.rw.ext hs.ext).nbI (by omega) (by omega) fun b57 o58 f3 g5 t5 => ?_
   replace g5 : d.fs[j1]? = some f3 := g5
   refine ⟨_, t5.nth 0 rfl, _, hs.rd 0 rfl rfl, ?_⟩
   refine (hdi.pf.rw.ext hs.ext).nbI (by omega) (by omega) fun b61 o62 f4 g6 t6 => ?_
   replace g6 : d.fs[k2]? = some f4 := g6
   rw [g3] at g6; cases g6
   refine ⟨_, t6.nth 0 rfl, sBs (fun e => ?_) (fun e => Up.next c5 (by omega) ⟨hs, fun j y hj hy => ?_⟩)⟩
   ·
    refine RP.f (fun hG => ?_) hs.ext
    have := dup_iff.1 ((hG.pd b d g).pfs k2 f g3).pd j1 f3 (by rw [Yyf, if_pos c5]; exact g5)
    exact Yyo this e
   ·
    by_cases e2 : j = j1
    ·
     subst e2; rw [g5] at hy; cases hy; exact e
    ·
     exact hq3 j y (by omega) hy
  ·
   replace c5 := lt_f c5
   refine Up.next c2 (by omega) ⟨hs, fun j y hj hy => ?_⟩
   by_cases e2 : j = k2
   ·
    subst e2; rw [g3] at hy; cases hy
    refine ⟨?_, hb1.1 (bT c3), dup_iff.2 fun j' y' hy' => ?_⟩
    ·
     have := bT c4; rw [bs_list] at this; exact this
    ·
     rw [Yyf] at hy'
     split at hy'
     ·
      exact decide_eq_false (hq3 j' y' (by omega) hy')
     ·
      cases hy'
   ·
    exact hq2 j y (by omega) hy
 ·
  replace c2 : d.hf.n <= k2 := by have := Yyo c2; omega
  have hfl : ∀ k f, d.fs[k]? = some f -> FldS d.fs k f := fun k f hf => hq2 k f (by have := (Ya.1 hf).1; omega) hf
  refine ⟨_, hs.rd 0 rfl rfl, ?_⟩
  refine (isPath157 (bs d.nm) h33 (hN d hdm)).mono ?_
  rintro _ h69 ⟨rfl, E⟩
  have hs := hs.step E
  refine ⟨_, rfl, sB_intro (fun c3 => RP.f (fun hG => ?_) hs.ext) (fun c3 => ?_)⟩
  ·
   have := (hG.pd b d g).pp
   rw [bs_list, this] at c3; cases c3
  have hpp : isPath d.nm = true := by have := bT c3; rw [bs_list] at this; exact this
  refine ⟨_, hs.rd 0 rfl rfl, sB_intro (fun c4 => RP.f (fun hG => by have := (hG.pd b d g).pn; have := Yyn c4; omega) hs.ext) (fun c4 => ?_)⟩
  replace c4 := Yyo c4
  refine ⟨_, hs.rd 0 rfl rfl, sBn (fun c5 => RP.f (fun hG => by have := (hG.pd b d g).pf; omega) hs.ext) (fun c5 => ?_)⟩
  refine ⟨_, _, hs.at 0 rfl (o := 3) (n := 2) rfl, ?_⟩
  refine (goodGuard158 ds s d h69 (hd.ext hs.ext) (hdi.ext hs.ext)).mono ?_
  rintro _ h76 ⟨⟨b2, rfl, hb2⟩, E⟩
  have hs := hs.step E
  refine ⟨_, rfl, sB_intro (fun c6 => RP.f (fun hG => iff_f hb2 (bF c6) (hG.pd b d g).pg) hs.ext) (fun c6 => ?_)⟩
  refine ⟨_, hs.rd 0 rfl rfl, s.n - (b + 1), by omega, b + 1, by rw [w64 (by omega) (by omega)]; omega, by omega, rfl, hs.drop 1, ?_, fun j y hj hy => ?_⟩
  ·
   have h1 : (allF (ds.take (b + 1))).length <= (allF ds).length := allF_take ds (b + 1)
   rw [List.take_add_one, g, Option.toList_some, allF_snoc, Yh] at h1 ⊢
   rw [w64 (by omega) (by omega)]; omega
  ·
   by_cases e2 : j = b
   ·
    subst e2; rw [g] at hy; cases hy
    exact ⟨hpp, by omega, by omega, hdup, hfl, hb2.1 (bT c6)⟩
   ·
    exact hq j y (by omega) hy
end Go.VC
end

section
/- Contracts: equal time limits, right machines, the moves of a state, small automata. -/
namespace Go.VC
open Go.Proofs Go.LexS

def FewS (g : Gl) : Prop := g.es.length <= 50 /\ g.rs.length <= 6 /\ g.ds.length <= 40 /\ g.ts.length <= 50
instance (g : Gl) : Decidable (FewS g) := by unfold FewS; infer_instance
theorem few35 (g : Gl) (h : Heap) (hg : GI h g) : Fn Pz 66 #[g.v] h fun v h' => v = .bool (decide (FewS g)) /\ Ext h h' := by
 apply vc66 (bs g.nm) g.hr g.hd g.n g.s g.e g.he g.ht; unfold W66
 have hs := St.refl h
 have h1 := hg.e.ln
 have h2 := hg.r.ln
 have h3 := hg.d.r.ln
 have h4 := hg.t.ln
 refine hs.newb fun h9 hs => ?_
 refine ⟨_, hs.rd 0 rfl rfl, ?_⟩
 refine sBi (fun c1 => ?_) (fun c1 => ⟨dF fun hc => by unfold FewS at hc; omega, hs.ext⟩)
 refine ⟨_, hs.rd 0 rfl rfl, ?_⟩
 refine sBi (fun c2 => ?_) (fun c2 => ⟨dF fun hc => by unfold FewS at hc; omega, hs.ext⟩)
 refine ⟨_, hs.rd 0 rfl rfl, ?_⟩
 refine sBi (fun c3 => ?_) (fun c3 => ⟨dF fun hc => by unfold FewS at hc; omega, hs.ext⟩)
 refine ⟨_, hs.rd 0 rfl rfl, ?_, hs.ext⟩
 congr 1
 rw [decide_eq_decide]
 unfold FewS
 omega
theorem few11 (g : Gl) (h : Heap) (hg : GI h g) : Fn Pz 33 #[g.v] h fun v h' => v = .bool (decide (FewS g /\ g.n <= 25)) /\ Ext h h' := by
 apply vc33 (bs g.nm) g.hr g.hd g.n g.s g.e g.he g.ht; unfold W33
 have hs := St.refl h
 refine hs.newb fun h9 hs => ?_
 refine ⟨_, _, _, _, _, _, _, _, hs.at 0 rfl (n := 8) rfl, ?_⟩
 refine (few35 g h9 (hg.ext hs.ext)).mono ?_
 rintro _ h20 ⟨rfl, E20⟩
 replace hs := hs.step E20
 refine ⟨_, rfl, ?_⟩
 refine sBi (fun c1 => ?_) (fun c1 => ⟨dF fun hc => c1 hc.1, hs.ext⟩)
 refine ⟨_, hs.rd 0 rfl rfl, ?_, hs.ext⟩
 congr 1
 rw [decide_eq_decide]
 exact ⟨fun h => ⟨c1, h⟩, fun h => h.2⟩
end Go.VC
end

section
/- Contracts: the reference of validity: numbers, edges, time limits; each answers exactly. -/
namespace Go.VC
open Go.Proofs Go.LexS
theorem St.cut {h0 h : Heap} {L : List It} (hs : St h0 h L) (k : Nat) {s : Sl} {e : TypeId} {n : Nat} {rows : List (List Value)} (hk : L[k]? = some (.sl s e n rows)) (hn : 0 < n) (i : Nat) (hi : i <= s.n) :
  St h0 h (L.set k (.sl ⟨s.a, i, s.c⟩ e n (rows.take i))) := by
 have hget := hs.get hk
 have hln := (hs.rw k hk hn).1
 refine hs.turn hk (Yyt _) (j := .sl ⟨s.a, i, s.c⟩ e n (rows.take i)) ?_ (fun b hb => .inr hb) (fun _ _ _ => rfl)
 have hrl : ∀ r ∈ rows.take i, r.length = n := fun r hr => hget.2 r (List.mem_of_mem_take hr)
 have hfl : (rows.take i).flatten = rows.flatten.take (i * n) := by
  have h5 : rows = rows.take i ++ rows.drop i := (List.take_append_drop i rows).symm
  rw [congrArg List.flatten h5, List.flatten_append, Yyq (by rw [flatten_len _ hrl, Yu, Nat.min_eq_left (by omega)]; exact Yyt _)]
  rw [Yj (l := (rows.take i).flatten) (by rw [flatten_len _ hrl, Yu, Nat.min_eq_left (by omega)]; exact Yyt _)]
 have hin : i * n <= s.n * n := Nat.mul_le_mul_right _ hi
 refine ⟨⟨by rw [flatten_len _ hrl, Yu]; show min i rows.length * n = i * n; rw [Nat.min_eq_left (by omega)], ?_⟩, hrl⟩
 rcases hget.1.2 with ⟨ha, h2, h3⟩ | ⟨g, cur, ha, hb0, hh, hnc, hcm, hsz, htk⟩
 ·
  exact .inl ⟨ha, by show i = 0; omega, h3⟩
 ·
  refine .inr ⟨g, cur, ha, hb0, hh, by show i <= s.c; omega, hcm, hsz, ?_⟩
  show cur.toList.take (i * n) = _
  rw [hfl, <- htk, List.take_take, Nat.min_eq_left hin]
theorem splice_set {xs : List Value} {i : Nat} {v : Value} (h : i < xs.length) : splice xs i [v] = xs.set i v := by
 unfold splice
 rw [List.set_eq_take_append_cons_drop, if_pos h]
 simp
theorem state114 (g : Gl) (p : Int) (h : Heap) : Fn Pz 159 #[g.v, .int .i64 p] h (RP (0 <= p /\ p < g.n) h) := by
 apply vc159 (bs g.nm) g.hr g.hd g.n g.s g.e g.he g.ht; unfold W159
 refine (St.refl h).newb fun h9 hs => ?_
 refine sB_intro (fun c => ?_) (fun c => ?_)
 ·
  refine ⟨_, hs.rd 0 rfl rfl, RP.e ?_ hs.ext⟩
  have := Yyn c
  rw [decide_eq_true_eq]; omega
 ·
  exact RP.f (by have := Yyo c; omega) hs.ext
structure NumR (g : Gl) : Prop where
 n : 1 <= g.n /\ g.n <= 200
 s : 0 <= g.s /\ g.s < g.n
 e : 0 <= g.e /\ g.e < g.n
 es : ∀ x ∈ g.es, 0 <= x.f /\ x.f < g.n /\ 0 <= x.t /\ x.t < g.n
theorem NumS.R {g : Gl} (h : NumS g) : NumR g := ⟨⟨h.n.1, h.n.2.1⟩, ⟨h.n.2.2.1, h.n.2.2.2.2.1⟩, ⟨h.n.2.2.2.1, h.n.2.2.2.2.2⟩, fun x hx => by
 have := h.e x hx
 unfold EdS at this
 omega⟩
theorem numbers65 (g : Gl) (h : Heap) (hg : GI h g) : Fn Pz 109 #[g.v] h (RP (NumS g) h) := by
 apply vc109 (bs g.nm) g.hr g.hd g.n g.s g.e g.he g.ht; unfold W109
 have hen := hg.e.ln
 have hem := hg.e.sm
 have hrn := hg.r.ln
 have hdn := hg.d.r.ln
 refine (St.refl h).newb fun h9 hs => ?_
 refine up_loopS (n := g.he.n) hs (fun i => ∀ j x, j < i -> g.es[j]? = some x -> EdS g x) (fun j x hj => by omega) ?_
 rintro - i h14 hi ⟨hs, hq⟩
 refine ⟨_, hs.rd 0 rfl rfl, sB_intro (fun c => ?_) (fun c => ?_)⟩
 ·
  replace c := lt_t c
  refine ⟨_, hs.rd 0 rfl rfl, ?_⟩
  refine (hg.e.rw.ext hs.ext).nbI (by omega) (by omega) fun b o x gx t => ?_
  replace gx : g.es[i]? = some x := gx
  refine ⟨_, _, _, _, _, _, t, ?_⟩
  refine hs.newput (vs := x.cs) rfl rfl fun h26 hs => ?_
  refine ⟨_, _, _, _, _, _, _, _, hs.at 1 rfl (o := 0) (n := 8) rfl, _, hs.rd 0 rfl rfl, ?_⟩
  refine (state114 g x.f h26).mono ?_
  rintro _ h38 ⟨⟨b1, rfl, hb1⟩, E⟩
  have hs := hs.step E
  refine ⟨_, rfl, sB_intro (fun c1 => RP.f (fun hG => by have := iff_f hb1 (bF c1); have := hG.e x (Yb gx); unfold EdS at this; omega) hs.ext) (fun c1 => ?_)⟩
  refine ⟨_, _, _, _, _, _, _, _, hs.at 1 rfl (o := 0) (n := 8) rfl, _, hs.rd 0 rfl rfl, ?_⟩
  refine (state114 g x.t h38).mono ?_
  rintro _ h50 ⟨⟨b2, rfl, hb2⟩, E⟩
  have hs := hs.step E
  refine ⟨_, rfl, sB_intro (fun c2 => RP.f (fun hG => by have := iff_f hb2 (bF c2); have := hG.e x (Yb gx); unfold EdS at this; omega) hs.ext) (fun c2 => ?_)⟩
  have f1 := hb1.1 (bT c1)
  have f2 := hb2.1 (bT c2)
  repeat' (first
     | (refine ⟨_, hs.rd 0 rfl rfl, ?_⟩)
     | (refine ⟨_, hs.rd 1 rfl rfl, ?_⟩)
     | (refine ⟨_, hs.rd 2 rfl rfl, ?_⟩)
     | (refine ⟨_, _, _, hs.at 0 rfl (o := 1) (n := 3) rfl, ?_⟩)
     | (refine ⟨_, _, _, hs.at 1 rfl (o := 1) (n := 3) rfl, ?_⟩)
     | (refine sBi (fun _ => ?_) (fun _ => ?_))
     | (refine sBe (fun _ => ?_) (fun _ => ?_))
     | (refine sBn (fun _ => ?_) (fun _ => ?_))
     | (refine sB_intro (fun _ => ?_) (fun _ => ?_)))
  all_goals first
   | exact RP.f (fun hG => by have := hG.e x (Yb gx); unfold EdS at this; omega) hs.ext
   | (refine Up.next c (by omega) ⟨hs.drop 1, fun j y hj hy => ?_⟩
      by_cases e : j = i
      ·
       subst e; rw [gx] at hy; cases hy; unfold EdS; omega
      ·
       exact hq j y (by omega) hy)
 ·
  replace c := lt_f c
  refine ⟨_, hs.rd 0 rfl rfl, sB_intro (fun c1 => ?_) (fun c1 => RP.f (fun hG => by have := Yyo c1; have := hG.n; omega) hs.ext)⟩
  refine ⟨_, hs.rd 0 rfl rfl, sB_intro (fun c2 => ?_) (fun c2 => RP.f (fun hG => by have := Yyo c2; have := hG.n; omega) hs.ext)⟩
  refine ⟨_, _, _, _, _, _, _, _, hs.at 0 rfl (o := 0) (n := 8) rfl, _, hs.rd 0 rfl rfl, ?_⟩
  refine (state114 g g.s h14).mono ?_
  rintro _ h76 ⟨⟨b3, rfl, hb3⟩, E⟩
  have hs := hs.step E
  refine ⟨_, rfl, sB_intro (fun c3 => ?_) (fun c3 => RP.f (fun hG => by have := iff_f hb3 c3; have := hG.n; omega) hs.ext)⟩
  refine ⟨_, _, _, _, _, _, _, _, hs.at 0 rfl (o := 0) (n := 8) rfl, _, hs.rd 0 rfl rfl, ?_⟩
  refine (state114 g g.e h76).mono ?_
  rintro _ h88 ⟨⟨b4, rfl, hb4⟩, E⟩
  have hs := hs.step E
  refine ⟨_, rfl, sB_intro (fun c4 => ?_) (fun c4 => RP.f (fun hG => by have := iff_f hb4 c4; have := hG.n; omega) hs.ext)⟩
  have f1 := Yyn c1
  have f2 := Yyn c2
  have f3 := hb3.1 c3
  have f4 := hb4.1 c4
  refine ⟨_, hs.rd 0 rfl rfl, RP.e ⟨fun hb => ⟨by omega, by have := Yyn hb; omega, fun x hx => ?_⟩, fun hG => decide_eq_true (by have := hG.m; omega)⟩ hs.ext⟩
  obtain ⟨j, hj⟩ := Yf.1 hx
  exact hq j x (by have := (Ya.1 hj).1; omega) hj
structure ApS (g : Gl) : Prop where
 s : ∀ x ∈ g.es, x.ag = true -> x.f ≠ g.s
 p : ∀ i x, g.es[i]? = some x -> ∀ k y, g.es[k]? = some y -> ¬ PairBad i k x y
set_option maxHeartbeats 1600000 in
theorem apart66 (g : Gl) (h : Heap) (hg : GI h g) : Fn Pz 110 #[g.v] h (RP (ApS g) h) := by
 apply vc110 (bs g.nm) g.hr g.hd g.n g.s g.e g.he g.ht; unfold W110
 have hen := hg.e.ln
 have hem := hg.e.sm
 refine (St.refl h).newb fun h9 hs => ?_
 refine up_loopS (n := g.he.n) hs (fun i => ∀ (j : Nat) (x : Ed), j < i -> g.es[j]? = some x -> (x.ag = true -> x.f ≠ g.s) /\ ∀ k y, g.es[k]? = some y -> ¬ PairBad j k x y) (fun j y hj => by omega) ?_
 rintro - i h14 hi ⟨hs, hq⟩
 refine ⟨_, hs.rd 0 rfl rfl, sB_intro (fun c => ?_) (fun c => RP.t ⟨fun x hx => ?_, fun j x hx => ?_⟩ hs.ext)⟩
 ·
  replace c := lt_t c
  refine ⟨_, hs.rd 0 rfl rfl, ?_⟩
  refine (hg.e.rw.ext hs.ext).nbI (by omega) (by omega) fun b o x gx t => ?_
  replace gx : g.es[i]? = some x := gx
  refine ⟨_, _, _, _, _, _, t, ?_⟩
  refine hs.newput (vs := x.cs) rfl rfl fun h26 hs => ?_
  refine ⟨_, hs.rd 0 rfl rfl, sB_intro (fun cg => ?_) (fun cg => ?_)⟩
  ·
   refine ⟨_, hs.rd 0 rfl rfl, _, hs.rd 1 rfl rfl, sBe (fun cs => RP.f (fun hG => hG.s x (Yb gx) cg cs) hs.ext) (fun cs => ?_)⟩
   refine up_loopS (n := g.he.n) hs (fun k => ∀ (j : Nat) (y : Ed), j < k -> g.es[j]? = some y -> ¬ PairBad i j x y) (fun j y hj => by omega) ?_
   rintro - k h34 hk ⟨hs, hq2⟩
   refine ⟨_, hs.rd 1 rfl rfl, sB_intro (fun c2 => ?_) (fun c2 => ?_)⟩
   ·
    replace c2 := lt_t c2
    refine ⟨_, hs.rd 1 rfl rfl, ?_⟩
    refine (hg.e.rw.ext hs.ext).nbI (by omega) (by omega) fun b o y gy ty => ?_
    replace gy : g.es[k]? = some y := gy
    refine ⟨_, _, _, _, _, _, ty, ?_⟩
    refine hs.newput (vs := y.cs) rfl rfl fun h46 hs => ?_
    repeat' (first
       | (refine ⟨_, hs.rd 0 rfl rfl, ?_⟩)
       | (refine ⟨_, hs.rd 1 rfl rfl, ?_⟩)
       | (refine ⟨_, hs.rd 2 rfl rfl, ?_⟩)
       | (refine ⟨_, _, _, hs.at 0 rfl (o := 1) (n := 3) rfl, ?_⟩)
       | (refine ⟨_, _, _, hs.at 1 rfl (o := 1) (n := 3) rfl, ?_⟩)
       | (refine sBi (fun _ => ?_) (fun _ => ?_))
       | (refine sBe (fun _ => ?_) (fun _ => ?_))
       | (refine sBn (fun _ => ?_) (fun _ => ?_))
       | (refine sB_intro (fun _ => ?_) (fun _ => ?_)))
    all_goals first
     | (refine RP.f (fun hG => hG.p i x gx k y gy ?_) hs.ext; clear hq hq2 hs hg t ty; unfold PairBad; grind)
     | (refine Up.next c2 (by omega) ⟨hs.drop 1, fun j z hj hz => ?_⟩
        by_cases e : j = k
        ·
         subst e; rw [gy] at hz; cases hz; clear hq hq2 hs hg t ty; unfold PairBad; grind
        ·
         exact hq2 j z (by omega) hz)
   ·
    replace c2 : g.he.n <= k := by have := Yyo c2; omega
    refine Up.next c (by omega) ⟨hs.drop 1, fun j z hj hz => ?_⟩
    by_cases e : j = i
    ·
     subst e; rw [gx] at hz; cases hz
     exact ⟨by grind, fun k' y' hy' => hq2 k' y' (by have := (Ya.1 hy').1; omega) hy'⟩
    ·
     exact hq j z (by omega) hz
  ·
   refine up_loopS (n := g.he.n) hs (fun k => ∀ (j : Nat) (y : Ed), j < k -> g.es[j]? = some y -> ¬ PairBad i j x y) (fun j y hj => by omega) ?_
   rintro - k h34 hk ⟨hs, hq2⟩
   refine ⟨_, hs.rd 1 rfl rfl, sB_intro (fun c2 => ?_) (fun c2 => ?_)⟩
   ·
    replace c2 := lt_t c2
    refine ⟨_, hs.rd 1 rfl rfl, ?_⟩
    refine (hg.e.rw.ext hs.ext).nbI (by omega) (by omega) fun b o y gy ty => ?_
    replace gy : g.es[k]? = some y := gy
    refine ⟨_, _, _, _, _, _, ty, ?_⟩
    refine hs.newput (vs := y.cs) rfl rfl fun h46 hs => ?_
    repeat' (first
       | (refine ⟨_, hs.rd 0 rfl rfl, ?_⟩)
       | (refine ⟨_, hs.rd 1 rfl rfl, ?_⟩)
       | (refine ⟨_, hs.rd 2 rfl rfl, ?_⟩)
       | (refine ⟨_, _, _, hs.at 0 rfl (o := 1) (n := 3) rfl, ?_⟩)
       | (refine ⟨_, _, _, hs.at 1 rfl (o := 1) (n := 3) rfl, ?_⟩)
       | (refine sBi (fun _ => ?_) (fun _ => ?_))
       | (refine sBe (fun _ => ?_) (fun _ => ?_))
       | (refine sBn (fun _ => ?_) (fun _ => ?_))
       | (refine sB_intro (fun _ => ?_) (fun _ => ?_)))
    all_goals first
     | (refine RP.f (fun hG => hG.p i x gx k y gy ?_) hs.ext; clear hq hq2 hs hg t ty; unfold PairBad; grind)
     | (refine Up.next c2 (by omega) ⟨hs.drop 1, fun j z hj hz => ?_⟩
        by_cases e : j = k
        ·
         subst e; rw [gy] at hz; cases hz; clear hq hq2 hs hg t ty; unfold PairBad; grind
        ·
         exact hq2 j z (by omega) hz)
   ·
    replace c2 : g.he.n <= k := by have := Yyo c2; omega
    refine Up.next c (by omega) ⟨hs.drop 1, fun j z hj hz => ?_⟩
    by_cases e : j = i
    ·
     subst e; rw [gx] at hz; cases hz
     exact ⟨by grind, fun k' y' hy' => hq2 k' y' (by have := (Ya.1 hy').1; omega) hy'⟩
    ·
     exact hq j z (by omega) hz
 ·
  obtain ⟨j, hj⟩ := Yf.1 hx
  exact (hq j x (by have := lt_f c; have := (Ya.1 hj).1; omega) hj).1
 ·
  exact (hq j x (by have := lt_f c; have := (Ya.1 hx).1; omega) hx).2
theorem timed68 (g : Gl) (h : Heap) (hg : GI h g) (hN : NumS g) : Fn Pz 112 #[g.v] h (RP (TimS g) h) := by
 apply vc112 (bs g.nm) g.hr g.hd g.n g.s g.e g.he g.ht; unfold W112
 have hen := hg.e.ln
 have hem := hg.e.sm
 have htn := hg.t.ln
 have htm := hg.t.sm
 refine (St.refl h).newb fun h9 hs => ?_
 refine up_loopS (n := g.ht.n) hs (fun i => ∀ (j : Nat) (x : To), j < i -> g.ts[j]? = some x -> TmS g j x) (fun j y hj => by omega) ?_
 rintro - i h14 hi ⟨hs, hq⟩
 refine ⟨_, hs.rd 0 rfl rfl, sB_intro (fun c => ?_) (fun c => RP.t (fun j x hx => hq j x (by have := lt_f c; have := (Ya.1 hx).1; omega) hx) hs.ext)⟩
 replace c := lt_t c
 refine ⟨_, hs.rd 0 rfl rfl, ?_⟩
 refine (hg.t.rw.ext hs.ext).nbI (by omega) (by omega) fun b o x gx t => ?_
 replace gx : g.ts[i]? = some x := gx
 have no : ∀ {q : Prop}, (TmS g i x -> q) -> TimS g -> q := fun f hT => f (hT i x gx)
 refine ⟨_, _, _, t, ?_⟩
 refine hs.newput (vs := x.cs) rfl rfl fun h23 hs => ?_
 refine ⟨_, _, _, _, _, _, _, _, hs.at 1 rfl (o := 0) (n := 8) rfl, _, hs.rd 0 rfl rfl, ?_⟩
 refine (state114 g x.s h23).mono ?_
 rintro _ h35 ⟨⟨b1, rfl, hb1⟩, E⟩
 have hs := hs.step E
 refine ⟨_, rfl, sB_intro (fun c1 => RP.f (no fun hT => ?_) hs.ext) (fun c1 => ?_)⟩
 ·
  obtain ⟨_, y, hy, hf, _⟩ := hT.e
  have := iff_f hb1 (bF c1)
  have := hN.R.es y (Yb hy)
  omega
 have f1 := hb1.1 (bT c1)
 refine sBi (fun c2 => ?_) (fun c2 => ?_)
 ·
  have hw : IntKind.wrap .i64 ((i : Int) - 1) = ((i - 1 : Nat) : Int) := by rw [w64 (by omega) (by omega)]; omega
  refine ⟨_, hs.rd 0 rfl rfl, _, hs.rd 1 rfl rfl, ?_⟩
  rw [hw]
  refine (hg.t.rw.ext hs.ext).nbI (by omega) (by omega) fun b o z gz tz => ?_
  replace gz : g.ts[i - 1]? = some z := gz
  have hl : lastS g.ts i = z.s := by unfold lastS; rw [if_neg (by omega), gz]
  refine ⟨_, tz.nth 0 rfl, sBi (fun d0 => RP.f (no fun hT => by have := hT.o; omega) hs.ext) (fun d0 => ?_)⟩
  have ho : lastS g.ts i < x.s := by omega
  refine ⟨_, hs.rd 0 rfl rfl, sBi (fun d1 => RP.f (no fun hT => by have := hT.k; omega) hs.ext) (fun d1 => ?_)⟩
  refine ⟨_, hs.rd 0 rfl rfl, sBi (fun d2 => RP.f (no fun hT => by have := hT.k; omega) hs.ext) (fun d2 => ?_)⟩
  refine ⟨_, hs.rd 0 rfl rfl, sBi (fun d3 => RP.f (no fun hT => by have := hT.e.1; omega) hs.ext) (fun d3 => ?_)⟩
  refine ⟨_, hs.rd 0 rfl rfl, _, hs.rd 1 rfl rfl, sBi (fun d4 => RP.f (no fun hT => by obtain ⟨_, y, hy, _⟩ := hT.e; have := (Ya.1 hy).1; omega) hs.ext) (fun d4 => ?_)⟩
  refine ⟨_, hs.rd 1 rfl rfl, _, hs.rd 0 rfl rfl, ?_⟩
  refine (hg.e.rw.ext hs.ext).nbI (by omega) (by omega) fun b o y gy ty => ?_
  refine ⟨_, ty.nth 0 rfl, _, hs.rd 0 rfl rfl, sBn (fun d5 => RP.f (no fun hT => by obtain ⟨_, z, hz, hf, _⟩ := hT.e; rw [gy] at hz; cases hz; omega) hs.ext) (fun d5 => ⟨_, hs.rd 1 rfl rfl, _, hs.rd 0 rfl rfl, ?_⟩)⟩
  refine (hg.e.rw.ext hs.ext).nbI (by omega) (by omega) fun b o y2 gy2 ty => ?_
  rw [gy] at gy2; cases gy2
  refine ⟨_, ty.nth 5 rfl, sB_intro (fun d6 => RP.f (no fun hT => by obtain ⟨_, z, hz, _, hf⟩ := hT.e; rw [gy] at hz; cases hz; rw [hf] at d6; cases d6) hs.ext) (fun d6 => ?_)⟩
  refine Up.next c (by omega) ⟨hs.drop 1, fun j z hj hz => ?_⟩
  by_cases e : j = i
  ·
   subst e; rw [gx] at hz; cases hz
   exact ⟨ho, by omega, by omega, y, gy, by omega, d6⟩
  ·
   exact hq j z (by omega) hz
 ·
  have ho : lastS g.ts i < x.s := by unfold lastS; rw [if_pos (by omega)]; omega
  refine ⟨_, hs.rd 0 rfl rfl, sBi (fun d1 => RP.f (no fun hT => by have := hT.k; omega) hs.ext) (fun d1 => ?_)⟩
  refine ⟨_, hs.rd 0 rfl rfl, sBi (fun d2 => RP.f (no fun hT => by have := hT.k; omega) hs.ext) (fun d2 => ?_)⟩
  refine ⟨_, hs.rd 0 rfl rfl, sBi (fun d3 => RP.f (no fun hT => by have := hT.e.1; omega) hs.ext) (fun d3 => ?_)⟩
  refine ⟨_, hs.rd 0 rfl rfl, _, hs.rd 1 rfl rfl, sBi (fun d4 => RP.f (no fun hT => by obtain ⟨_, y, hy, _⟩ := hT.e; have := (Ya.1 hy).1; omega) hs.ext) (fun d4 => ?_)⟩
  refine ⟨_, hs.rd 1 rfl rfl, _, hs.rd 0 rfl rfl, ?_⟩
  refine (hg.e.rw.ext hs.ext).nbI (by omega) (by omega) fun b o y gy ty => ?_
  refine ⟨_, ty.nth 0 rfl, _, hs.rd 0 rfl rfl, sBn (fun d5 => RP.f (no fun hT => by obtain ⟨_, z, hz, hf, _⟩ := hT.e; rw [gy] at hz; cases hz; omega) hs.ext) (fun d5 => ⟨_, hs.rd 1 rfl rfl, _, hs.rd 0 rfl rfl, ?_⟩)⟩
  refine (hg.e.rw.ext hs.ext).nbI (by omega) (by omega) fun b o y2 gy2 ty => ?_
  rw [gy] at gy2; cases gy2
  refine ⟨_, ty.nth 5 rfl, sB_intro (fun d6 => RP.f (no fun hT => by obtain ⟨_, z, hz, _, hf⟩ := hT.e; rw [gy] at hz; cases hz; rw [hf] at d6; cases d6) hs.ext) (fun d6 => ?_)⟩
  refine Up.next c (by omega) ⟨hs.drop 1, fun j z hj hz => ?_⟩
  by_cases e : j = i
  ·
   subst e; rw [gx] at hz; cases hz
   exact ⟨ho, by omega, by omega, y, gy, by omega, d6⟩
  ·
   exact hq j z (by omega) hz
end Go.VC
end

section
/- Contracts: the reference of validity: edges of a state, distances, reach, names; Valid, Good, small. -/
namespace Go.VC
open Go.Proofs Go.LexS
theorem before159 (g : Gl) (p q : Int) (h : Heap) (hg : GI h g) (hp0 : 0 <= p) (hp1 : p < g.es.length) (hq0 : 0 <= q) (hq1 : q < g.es.length) : Fn Pz 193 #[g.v, .int .i64 p, .int .i64 q] h (RBo h) := by
 apply vc193 (bs g.nm) g.hr g.hd g.n g.s g.e g.he g.ht; unfold W193
 have hen := hg.e.ln
 refine (St.refl h).newb fun h9 hs => ?_
 have hrw := hg.e.rw.ext hs.ext
 have hsz : h.size < h9.size := hc_blk (hs.rd 0 rfl (i := 0) rfl)
 refine ⟨_, hs.rd 0 rfl rfl, ?_⟩
 refine hrw.nbI (by omega) (by omega) fun b1 o1 x _ t1 => ?_
 refine ⟨_, _, _, t1.sub 1 3 rfl, _, hs.rd 0 rfl rfl, ?_⟩
 refine hrw.nbI (by omega) (by omega) fun b2 o2 y _ t2 => ?_
 have hb2 : b2 < h9.size := hc_blk t2.hd
 refine ⟨_, _, _, t2.sub 1 3 rfl, ?_, ?_⟩
 ·
  intro h22 e22
  have E22 : Ext h9 h22 := by rw [e22]; exact Ext.push _ _
  refine ⟨smx E22, ?_⟩
  have hs : St h h22 [.blk h9.size [.int .i64 0, .int .i64 0, .int .i64 0] 143, .blk h.size g.cs 59] := hs.newb (K := fun h22 => St h h22 [.blk h9.size [.int .i64 0, .int .i64 0, .int .i64 0] 143, .blk h.size g.cs 59]) (fun _ hs => hs) h22 e22
  intro h23 e23
  have E23 : Ext h22 h23 := by rw [e23]; exact Ext.push _ _
  refine ⟨smx E23, ?_⟩
  have hs : St h h23 [.blk h22.size [.int .i64 0, .int .i64 0, .int .i64 0] 143, .blk h9.size [.int .i64 0, .int .i64 0, .int .i64 0] 143, .blk h.size g.cs 59] := hs.newb (K := fun h23 => St h h23 [.blk h22.size [.int .i64 0, .int .i64 0, .int .i64 0] 143, .blk h9.size [.int .i64 0, .int .i64 0, .int .i64 0] 143, .blk h.size g.cs 59]) (fun _ hs => hs) h23 e23
  obtain ⟨k1, k2⟩ := hs.put (K := fun h' => St h h' [.blk h22.size [.int .i64 0, .int .i64 0, .int .i64 0] 143, .blk h9.size [.int .i64 x.a, .int .i64 x.b, .int .i64 x.l] 143, .blk h.size g.cs 59]) 1 rfl (o := 0) (vs := [.int .i64 x.a, .int .i64 x.b, .int .i64 x.l]) (n := 3) rfl (show 3 <= 3 by decide) (fun h' hs => hs)
  refine ⟨k1, fun h24 e24 => ?_⟩
  have hs := k2 h24 e24
  have hB : But h9.size h23 h24 := by rw [e24]; exact But.hputs (a := ⟨h9.size, 0, none⟩) _ _ _
  refine ⟨Sm_but hB (fun a ha => ?_), ?_⟩
  ·
   simp only [Yr, List.not_mem_nil, or_false] at ha
   rcases ha with rfl | rfl
   ·
    show b2 ≠ h9.size; omega
   ·
    show h.size ≠ h9.size; omega
  refine hs.put 0 rfl (o := 0) (vs := [.int .i64 y.a, .int .i64 y.b, .int .i64 y.l]) rfl (show 3 <= 3 by decide) fun h25 hs => ?_
  repeat' (first
    | exact .mk hs.ext
    | (refine sB_intro (fun _ => ?_) (fun _ => ?_))
    | (refine ⟨_, hs.rd 0 rfl rfl, ?_⟩)
    | (refine ⟨_, hs.rd 1 rfl rfl, ?_⟩))
 ·
  intro h34 e34
  have E34 : Ext h9 h34 := by rw [e34]; exact Ext.push _ _
  refine ⟨smx E34, ?_⟩
  have hs : St h h34 [.blk h9.size [.int .i64 0, .int .i64 0, .int .i64 0] 143, .blk h.size g.cs 59] := hs.newb (K := fun h34 => St h h34 [.blk h9.size [.int .i64 0, .int .i64 0, .int .i64 0] 143, .blk h.size g.cs 59]) (fun _ hs => hs) h34 e34
  intro h35 e35
  have E35 : Ext h34 h35 := by rw [e35]; exact Ext.push _ _
  refine ⟨smx E35, ?_⟩
  have hsz34 : h9.size < h34.size := by rw [e34]; simp
  have hs : St h h35 [.blk h34.size [.int .i64 0, .int .i64 0, .int .i64 0] 143, .blk h9.size [.int .i64 0, .int .i64 0, .int .i64 0] 143, .blk h.size g.cs 59] := hs.newb (K := fun h35 => St h h35 [.blk h34.size [.int .i64 0, .int .i64 0, .int .i64 0] 143, .blk h9.size [.int .i64 0, .int .i64 0, .int .i64 0] 143, .blk h.size g.cs 59]) (fun _ hs => hs) h35 e35
  obtain ⟨k1, k2⟩ := hs.put (K := fun h' => St h h' [.blk h34.size [.int .i64 x.a, .int .i64 x.b, .int .i64 x.l] 143, .blk h9.size [.int .i64 0, .int .i64 0, .int .i64 0] 143, .blk h.size g.cs 59]) 0 rfl (o := 0) (vs := [.int .i64 x.a, .int .i64 x.b, .int .i64 x.l]) (n := 3) rfl (show 3 <= 3 by decide) (fun h' hs => hs)
  refine ⟨k1, fun h36 e36 => ?_⟩
  have hs := k2 h36 e36
  have hB : But h34.size h35 h36 := by rw [e36]; exact But.hputs (a := ⟨h34.size, 0, none⟩) _ _ _
  refine ⟨Sm_but hB (fun a ha => ?_), ?_⟩
  ·
   simp only [Yr, List.not_mem_nil, or_false] at ha
   rcases ha with rfl | rfl
   ·
    show b2 ≠ h34.size; omega
   ·
    show h.size ≠ h34.size; omega
  refine hs.put 1 rfl (o := 0) (vs := [.int .i64 y.a, .int .i64 y.b, .int .i64 y.l]) rfl (show 3 <= 3 by decide) fun h37 hs => ?_
  repeat' (first
    | exact .mk hs.ext
    | (refine sB_intro (fun _ => ?_) (fun _ => ?_))
    | (refine ⟨_, hs.rd 0 rfl rfl, ?_⟩)
    | (refine ⟨_, hs.rd 1 rfl rfl, ?_⟩))
theorem intrw {h : Heap} {s : Sl} {L : List Int} (hr : Rw h 1 s (L.map inC)) (hc : s.n <= s.c) {i : Nat} (hi : i <= s.n) : Rw h 1 ⟨subA s.a i s.c 1, s.n - i, s.c - i⟩ ((L.drop i).map inC) := by
 have hn := hr.ln
 rw [List.map_drop]
 by_cases h0 : i = s.n
 ·
  rw [List.drop_eq_nil_of_le (by rw [Yc]; omega)]
  exact Rw.empty (by show s.n - i = 0; omega)
 ·
  exact hr.from hc (by omega)
theorem subA_nil {s : Sl} {i : Nat} (hna : s.a = none -> s.n = 0 /\ s.c = 0) (h : subA s.a i s.c 1 = none) : s.n - i = 0 /\ s.c - i = 0 := by
 unfold subA at h
 split at h
 ·
  have := hna h; omega
 ·
  cases ha : s.a with
  | none => have := hna ha; omega
  | some a => rw [ha] at h; cases h
def LOk (g : Gl) (p : Int) (i : Nat) (L : List Int) : Prop := (∀ y ∈ L, 0 <= y /\ y < g.es.length) /\ (L = [] ↔ ∀ (j : Nat) (x : Ed), j < i -> g.es[j]? = some x -> x.f ≠ p)
theorem edges116 (g : Gl) (p : Int) (h : Heap) (hg : GI h g) : Fn Pz 161 #[g.v, .int .i64 p] h fun v h' => (∃ s : Sl, v = .slice s.a s.n s.c /\ (s.n = 0 ↔ ∀ x ∈ g.es, x.f ≠ p)) /\ Ext h h' := by
 apply vc161 (bs g.nm) g.hr g.hd g.n g.s g.e g.he g.ht; unfold W161
 have hen := hg.e.ln
 have hem := hg.e.sm
 refine (St.refl h).newb fun h9 hs => ?_
 have hs := hs.nil_ 3 1
 refine ⟨fun out x h' m => ∃ (i : Nat) (L : List Int), x = i /\ i <= g.he.n /\ m = g.he.n - i /\ L.length <= i /\ LOk g p i L /\ St h h' [.sl out 3 1 (L.map inC), .blk h.size g.cs 59],
  ⟨_, 0, [], rfl, by omega, rfl, Yyt _, ⟨(fun y hy => by cases hy), iff_of_true rfl fun j x hj => by omega⟩, hs⟩, ?_⟩
 rintro - out _ h15 m ⟨i, L, rfl, hi, rfl, hLl, hL, hs⟩
 refine ⟨_, hs.rd 1 rfl rfl, sB_intro (fun c => ?_) (fun c => ⟨⟨_, rfl, ?_⟩, hs.ext⟩)⟩
 rotate_left
 ·
  replace c := lt_f c
  have hol := hs.len 0 rfl (by omega)
  rw [Yc] at hol
  have hLe : out.n = 0 ↔ L = [] := by rw [<- List.length_eq_zero_iff]; omega
  rw [hLe, hL.2]
  exact ⟨fun hq x hx => by obtain ⟨j, hj⟩ := Yf.1 hx; exact hq j x (by have := (Ya.1 hj).1; omega) hj, fun hq j x _ hj => hq x (Yb hj)⟩
 replace c := lt_t c
 refine ⟨_, hs.rd 1 rfl rfl, ?_⟩
 refine (hg.e.rw.ext hs.ext).nbI (by omega) (by omega) fun b18 o19 x gx t => ?_
 replace gx : g.es[i]? = some x := gx
 refine ⟨_, t.nth 0 rfl, sBn (fun cf => ?_) (fun cf => ?_)⟩
 ·
  refine ⟨_, by omega, i + 1, L, by rw [w64 (by omega) (by omega)]; omega, by omega, rfl, by omega, ⟨hL.1, hL.2.trans ⟨fun hq j y hj hy => ?_, fun hq j y hj hy => hq j y (by omega) hy⟩⟩, hs⟩
  by_cases e : j = i
  ·
   subst e; rw [gx] at hy; cases hy; exact cf
  ·
   exact hq j y (by omega) hy
 have hol := hs.len 0 rfl (by omega)
 rw [Yc] at hol
 have ins : ∀ (a : Nat) (h40 : Heap), a <= out.n -> St h h40 [.sl out 3 1 (L.map inC), .blk h.size g.cs 59] -> ∀ h42 : Heap, h42 = h40.push (.cells ⟨[.int .i64 i]⟩ 3) ->
   App Pz 49 49 (.slice (some ⟨h40.size, 0, none⟩) 1 1) (.slice (subA out.a a out.c 1) (out.n - a) (out.c - a)) h42 fun s43 h44 =>
    App Pz 49 49 (.slice out.a a out.c) (.slice s43.a s43.n s43.c) h44 fun s45 h46 => ∃ m47, m47 < g.he.n - i /\ (∃ (i' : Nat) (L : List Int), IntKind.wrap .i64 ((i : Int) + 1) = i' /\ i' <= g.he.n /\ m47 = g.he.n - i' /\ L.length <= i' /\ LOk g p i' L /\ St h h46 [.sl s45 3 1 (L.map inC), .blk h.size g.cs 59]) := by
  intro a h40 ha hs
  refine hs.newb fun h42 hs => ?_
  have hs2 := hs.blkS 1 1 ([(i : Int)].map inC) rfl (inrows _) rfl (by decide)
  refine hs2.appRw 0 rfl app42 (y := ⟨subA out.a a out.c 1, out.n - a, out.c - a⟩) (intrw (hs2.rows 1 rfl (by omega)) hol.2.1 ha) (inrows _) (fun hn => subA_nil hol.2.2 hn) (by rw [List.all_eq_true]; intro v hv; obtain ⟨r, hr, hv2⟩ := List.mem_flatten.1 hv; obtain ⟨z, _, rfl⟩ := Yp.1 hr; rw [Ye.1 hv2]; rfl) (by show (1 + (out.n - a)) * 8 <= _; omega) (by show 1 + (out.n - a) <= 9223372036854775807; omega) fun s43 h44 hn43 hs => ?_
  replace hs : St h h44 [.sl s43 3 1 (((i : Int) :: L.drop a).map inC), .sl out 3 1 (L.map inC), .blk h.size g.cs 59] := hs
  have hcut := hs.cut 1 rfl (by omega) a ha
  rw [<- List.map_take] at hcut
  replace hcut : St h h44 [.sl s43 3 1 (((i : Int) :: L.drop a).map inC), .sl ⟨out.a, a, out.c⟩ 3 1 ((L.take a).map inC), .blk h.size g.cs 59] := hcut
  have h43 := hcut.len 0 rfl (by omega)
  refine hcut.appRw 1 rfl app42 (hcut.rows 0 rfl (by omega)) (inrows _) h43.2.2 (by rw [List.all_eq_true]; intro v hv; obtain ⟨r, hr, hv2⟩ := List.mem_flatten.1 hv; obtain ⟨z, _, rfl⟩ := Yp.1 hr; rw [Ye.1 hv2]; rfl) (by show (a + s43.n) * 8 <= _; rw [hn43]; show (a + (1 + (out.n - a))) * 8 <= _; omega) (by show a + s43.n <= 9223372036854775807; rw [hn43]; show a + (1 + (out.n - a)) <= _; omega) fun s45 h46 hn45 hs => ?_
  replace hs : St h h46 [.sl s43 3 1 (((i : Int) :: L.drop a).map inC), .sl s45 3 1 ((L.take a).map inC ++ ((i : Int) :: L.drop a).map inC), .blk h.size g.cs 59] := hs
  rw [<- Ym] at hs
  refine ⟨g.he.n - (i + 1), by omega, i + 1, L.take a ++ ((i : Int) :: L.drop a), by rw [w64 (by omega) (by omega)]; omega, by omega, rfl, ?_, ⟨fun y hy => ?_, iff_of_false (by simp) fun hq => hq i x (by omega) gx cf⟩, hs.drop 1⟩
  ·
   rw [Yh, Yyj, Yu, List.length_drop]; omega
  ·
   rcases Yk.1 hy with hy | hy
   ·
    exact hL.1 y (List.mem_of_mem_take hy)
   ·
    rcases Yr.1 hy with rfl | hy
    ·
     omega
    ·
     exact hL.1 y (List.mem_of_mem_drop hy)
 refine up_loopS (n := out.n) hs (fun _ => True) trivial ?_
 rintro - a h26 ha ⟨hs, -⟩
 have ht1 : Int.toNat ((a : Nat) : Int) = a := by simp
 have ht2 : Int.toNat ((out.n : Nat) : Int) = out.n := by simp
 refine sB_intro (fun c1 => ?_) (fun c1 => ?_)
 ·
  replace c1 := lt_t c1
  refine ⟨_, _, _, _, _, _, _, _, hs.at 1 rfl (o := 0) (n := 8) rfl, ?_⟩
  refine (hs.rows 0 rfl (by omega)).nbI (by omega) (by omega) fun b35 o36 y gy ty => ?_
  have hy := hL.1 y (Yb gy)
  refine ⟨_, ty.nth 0 rfl, ?_⟩
  refine (before159 g y i h26 (hg.ext hs.ext) hy.1 hy.2 (by omega) (by omega)).mono ?_
  rintro _ h40 ⟨⟨bb, rfl⟩, E⟩
  have hs := hs.step E
  refine ⟨_, rfl, sB_intro (fun _ => Up.next c1 (by omega) ⟨hs, trivial⟩) (fun _ => ?_)⟩
  refine ⟨⟨by omega, by omega, by omega⟩, ⟨by omega, by omega, by omega⟩, ?_⟩
  rw [ht1, ht2, show Int.toNat 0 = 0 from rfl, subA_zero, Nat.sub_zero, Nat.sub_zero]
  exact ins a h40 (by omega) hs
 ·
  replace c1 := lt_f c1
  refine ⟨⟨by omega, by omega, by omega⟩, ⟨by omega, by omega, by omega⟩, ?_⟩
  rw [ht1, ht2, show Int.toNat 0 = 0 from rfl, subA_zero, Nat.sub_zero, Nat.sub_zero]
  exact ins a h26 (by omega) hs
end Go.VC
end

section
/- Distances and reach by rounds, on lists. No program here. -/
namespace Go.VC
structure EN (es : List Ed) (e : Int) (N n : Nat) (D : List Int) : Prop where
 len : D.length = N
 src : Vis D e
 r : ∀ v, Vis D v -> Rch es true e v
 b : ∀ d ∈ D, -1 <= d /\ d + D.count (-1) <= (N : Int) - 1
 c : ∀ x ∈ es, ∀ d, 0 <= x.t -> D[x.t.toNat]? = some d -> 0 <= d -> d < n -> Vis D x.f
def ENk (es : List Ed) (n k : Nat) (D : List Int) : Prop := ∀ (j : Nat) (y : Ed), j < k -> es[j]? = some y -> 0 <= y.t -> D[y.t.toNat]? = some (n : Int) -> Vis D y.f
theorem count_rep (N : Nat) : (List.replicate N (-1 : Int)).count (-1) = N := by rw [List.count_replicate, if_pos (by simp)]
theorem EN.start {es : List Ed} {e : Int} {N : Nat} (h0 : 0 <= e) (h1 : e < N) : EN es e N 0 ((List.replicate N (-1 : Int)).set e.toNat 0) := by
 have hl : e < (List.replicate N (-1 : Int)).length := by rw [Yg]; exact h1
 have hv : ∀ v, Vis ((List.replicate N (-1 : Int)).set e.toNat 0) v ↔ v = e := fun v => by
  rw [vis_set h0 hl (by omega)]
  refine ⟨fun h => h.elim id fun h => ?_, .inl⟩
  obtain ⟨_, d, hd, h2⟩ := h
  have := List.eq_of_mem_replicate (Yb hd)
  omega
 have hc : ((List.replicate N (-1 : Int)).set e.toNat 0).count (-1) + 1 = N := by
  rw [List.count_set (by rw [Yg]; omega), count_rep, List.getElem_replicate]
  simp; omega
 refine ⟨by rw [Yyh, Yg], (hv e).2 rfl, fun v h => ?_, fun d hd => ?_, fun x _ d _ _ hd0 hd1 => by omega⟩
 ·
  rw [(hv v).1 h]; exact .refl
 ·
  rcases List.mem_or_eq_of_mem_set hd with hd | rfl
  ·
   rw [List.eq_of_mem_replicate hd]; omega
  ·
   omega
theorem EN.set {es : List Ed} {e : Int} {N n k : Nat} {D : List Int} (h : EN es e N n D) (hk : ENk es n k D) {x : Ed} (hx : es[k]? = some x) {d : Int} (ht0 : 0 <= x.t) (ht : D[x.t.toNat]? = some (n : Int)) (hf0 : 0 <= x.f) (hf : D[x.f.toNat]? = some d) (hd : d < 0) :
  EN es e N n (D.set x.f.toNat (n + 1)) /\ ENk es n (k + 1) (D.set x.f.toNat (n + 1)) := by
 have hfl := (Ya.1 hf).1
 have hfe := (Ya.1 hf).2
 have hd1 : d = -1 := by have := (h.b d (Yb hf)).1; omega
 subst hd1
 have hvs : ∀ v, Vis (D.set x.f.toNat (n + 1)) v ↔ v = x.f \/ Vis D v := fun v => vis_set hf0 (by omega) (by omega)
 have hpos : 0 < D.count (-1) := List.count_pos_iff.2 (Yb hf)
 have hcnt : (D.set x.f.toNat ((n : Int) + 1)).count (-1) + 1 = D.count (-1) := by
  rw [List.count_set hfl, hfe]
  have : (((n : Int) + 1) == (-1 : Int)) = false := by simp; omega
  rw [this]
  simp; omega
 have hub := (h.b n (Yb ht)).2
 have hne : ∀ {y : Int} {d : Int}, 0 <= y -> (D.set x.f.toNat ((n : Int) + 1))[y.toNat]? = some d -> d <= n -> D[y.toNat]? = some d := fun {y d} hy hg hle => by
  by_cases e : y.toNat = x.f.toNat
  ·
   rw [e, Yq hfl] at hg; cases hg; omega
  ·
   rwa [Yy (by omega)] at hg
 refine ⟨⟨by rw [Yyh]; exact h.len, (hvs e).2 (.inr h.src), fun v hv => ?_, fun d hd => ?_, fun y hy d h0 hg hd0 hd1 => ?_⟩, fun j y hj hy h0 hg => ?_⟩
 ·
  rcases (hvs v).1 hv with rfl | hv
  ·
   exact (h.r x.t ⟨ht0, _, ht, by omega⟩).step ⟨x, Yb hx, rfl, rfl⟩
  ·
   exact h.r v hv
 ·
  rcases List.mem_or_eq_of_mem_set hd with hd | rfl
  ·
   have := h.b d hd; omega
  ·
   omega
 ·
  exact (hvs y.f).2 (.inr (h.c y hy d h0 (hne h0 hg (by omega)) hd0 hd1))
 ·
  by_cases e : j = k
  ·
   subst e; rw [hx] at hy; cases hy; exact (hvs x.f).2 (.inl rfl)
  ·
   exact (hvs y.f).2 (.inr (hk j y (by omega) hy h0 (hne h0 hg (by omega))))
theorem ENk.skip {es : List Ed} {n k : Nat} {D : List Int} (hk : ENk es n k D) {x : Ed} (hx : es[k]? = some x) (h : 0 <= x.t -> D[x.t.toNat]? = some (n : Int) -> Vis D x.f) : ENk es n (k + 1) D := fun j y hj hy h0 hg => by
 by_cases e : j = k
 ·
  subst e; rw [hx] at hy; cases hy; exact h h0 hg
 ·
  exact hk j y (by omega) hy h0 hg
theorem EN.next {es : List Ed} {e : Int} {N n k : Nat} {D : List Int} (h : EN es e N n D) (hk : ENk es n k D) (hl : es.length <= k) : EN es e N (n + 1) D :=
 ⟨h.len, h.src, h.r, h.b, fun x hx d h0 hg hd0 hd1 => by
  obtain ⟨j, hj⟩ := Yf.1 hx
  by_cases hd : d = n
  ·
   subst hd; exact hk j x (by have := (Ya.1 hj).1; omega) hj h0 hg
  ·
   exact h.c x hx d h0 hg hd0 (by omega)⟩
theorem EN.end_ {es : List Ed} {e : Int} {N : Nat} {D : List Int} (h : EN es e N N D) (v : Int) : Vis D v ↔ Rch es true e v := by
 refine ⟨h.r v, fun hr => ?_⟩
 induction hr with
 | refl => exact h.src
 | step _ hbc ih =>
  obtain ⟨x, hx, h1, h2⟩ := hbc
  obtain ⟨h0, d, hd, hd0⟩ := ih
  have hb := (h.b d (Yb hd)).2
  have h1' : x.t = _ := h1
  have h2' : x.f = _ := h2
  rw [<- h2']
  rw [<- h1'] at hd h0
  exact h.c x hx d h0 hd hd0 (by omega)
def VB (R : List Bool) (v : Int) : Prop := 0 <= v /\ R[v.toNat]? = some true
def ClB (es : List Ed) (k : Nat) (R : List Bool) : Prop := ∀ (j : Nat) (y : Ed), j < k -> es[j]? = some y -> VB R y.f -> VB R y.t
structure RE (es : List Ed) (s : Int) (N : Nat) (R : List Bool) : Prop where
 len : R.length = N
 src : VB R s
 r : ∀ v, VB R v -> Rch es false s v
def RN (es : List Ed) (n k : Nat) (R : List Bool) : Prop := ClB es es.length R \/ (n + 1 <= R.count true /\ (ClB es k R \/ n + 2 <= R.count true))
theorem vb_set {R : List Bool} {b v : Int} (hb0 : 0 <= b) (hb : b.toNat < R.length) : VB (R.set b.toNat true) v ↔ v = b \/ VB R v := by
 unfold VB
 constructor
 ·
  rintro ⟨h0, h1⟩
  by_cases e : v = b
  ·
   exact .inl e
  ·
   rw [Yy (by omega)] at h1; exact .inr ⟨h0, h1⟩
 ·
  rintro (rfl | ⟨h0, h1⟩)
  ·
   exact ⟨hb0, by rw [Yq hb]⟩
  ·
   by_cases e : v = b
   ·
    subst e; exact ⟨hb0, by rw [Yq hb]⟩
   ·
    exact ⟨h0, by rw [Yy (by omega)]; exact h1⟩
theorem RE.start {es : List Ed} {s : Int} {N : Nat} (h0 : 0 <= s) (h1 : s < N) : RE es s N ((List.replicate N false).set s.toNat true) /\ RN es 0 0 ((List.replicate N false).set s.toNat true) := by
 have hv : ∀ v, VB ((List.replicate N false).set s.toNat true) v ↔ v = s := fun v => by
  rw [vb_set h0 (by rw [Yg]; omega)]
  refine ⟨fun h => h.elim id fun h => ?_, .inl⟩
  have := List.eq_of_mem_replicate (Yb h.2)
  cases this
 refine ⟨⟨by rw [Yyh, Yg], (hv s).2 rfl, fun v h => by rw [(hv v).1 h]; exact .refl⟩, .inr ⟨?_, .inl fun j y hj => by omega⟩⟩
 exact List.count_pos_iff.2 (Yb (i := s.toNat) (by rw [Yq (by rw [Yg]; omega)]))
theorem RE.set {es : List Ed} {s : Int} {N n k : Nat} {R : List Bool} (h : RE es s N R) (hn : RN es n k R) {x : Ed} (hx : es[k]? = some x) (ht0 : 0 <= x.t) (ht : R[x.t.toNat]? = some false) (hf0 : 0 <= x.f) (hf : R[x.f.toNat]? = some true) :
  RE es s N (R.set x.t.toNat true) /\ RN es n (k + 1) (R.set x.t.toNat true) := by
 have htl := (Ya.1 ht).1
 have hte := (Ya.1 ht).2
 have hvs : ∀ v, VB (R.set x.t.toNat true) v ↔ v = x.t \/ VB R v := fun v => vb_set ht0 htl
 have hcnt : (R.set x.t.toNat true).count true = R.count true + 1 := by
  rw [List.count_set htl, hte]; simp
 refine ⟨⟨by rw [Yyh]; exact h.len, (hvs s).2 (.inr h.src), fun v hv => ?_⟩, ?_⟩
 ·
  rcases (hvs v).1 hv with rfl | hv
  ·
   exact (h.r x.f ⟨hf0, hf⟩).step ⟨x, Yb hx, rfl, rfl⟩
  ·
   exact h.r v hv
 ·
  rcases hn with hn | ⟨h1, _⟩
  ·
   have := hn k x (Ya.1 hx).1 hx ⟨hf0, hf⟩
   rw [this.2] at ht; cases ht
  ·
   exact .inr ⟨by omega, .inr (by omega)⟩
theorem RN.skip {es : List Ed} {n k : Nat} {R : List Bool} (hn : RN es n k R) {x : Ed} (hx : es[k]? = some x) (h : VB R x.f -> VB R x.t) : RN es n (k + 1) R := by
 rcases hn with hn | ⟨h1, h2⟩
 ·
  exact .inl hn
 ·
  refine .inr ⟨h1, h2.imp_left fun hc j y hj hy hv => ?_⟩
  by_cases e : j = k
  ·
   subst e; rw [hx] at hy; cases hy; exact h hv
  ·
   exact hc j y (by omega) hy hv
theorem RN.next {es : List Ed} {n k : Nat} {R : List Bool} (hn : RN es n k R) (hl : es.length <= k) : RN es (n + 1) 0 R := by
 rcases hn with hn | ⟨h1, h2 | h2⟩
 ·
  exact .inl hn
 ·
  exact .inl fun j y hj hy => h2 j y (by omega) hy
 ·
  exact .inr ⟨by omega, .inl fun j y hj => by omega⟩
theorem RE.end_ {es : List Ed} {s : Int} {N : Nat} {R : List Bool} (h : RE es s N R) (hn : RN es N 0 R) (v : Int) : VB R v ↔ Rch es false s v := by
 refine ⟨h.r v, fun hr => ?_⟩
 have hc : ClB es es.length R := by
  rcases hn with hn | ⟨h1, _⟩
  ·
   exact hn
  ·
   have := h.len
   have : R.count true <= R.length := List.count_le_length
   omega
 induction hr with
 | refl => exact h.src
 | step _ hbc ih =>
  obtain ⟨x, hx, h1, h2⟩ := hbc
  obtain ⟨j, hj⟩ := Yf.1 hx
  have h1' : x.f = _ := h1
  have h2' : x.t = _ := h2
  rw [<- h2']
  exact hc j x (Ya.1 hj).1 hj (by rw [h1']; exact ih)
end Go.VC
end
