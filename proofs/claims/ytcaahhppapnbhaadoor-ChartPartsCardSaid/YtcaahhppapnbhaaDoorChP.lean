/- The law ChartExchange. -/
import Derived.Test.YtcaahhppapnbhaaDoorChO
set_option linter.unusedVariables false
set_option linter.unusedSimpArgs false

namespace Go.VC
open Go.Proofs Go.LexS Go.ChS Go.RowKit
set_option maxRecDepth 100000

theorem NB_and {a : Option Addr} {Q : Prop} {F : Nat → Nat → Prop} (hQ : Q) (hF : NB a F) : NB a fun b o => Q ∧ F b o := by
  cases a with
  | none => exact hF
  | some x =>
    obtain ⟨b, o, s⟩ := x
    cases s with
    | none => exact ⟨hQ, hF⟩
    | some _ => exact hF
theorem splice_rows {k : Nat} : ∀ (rows : List (List Value)) (i : Nat) (vs : List Value), (∀ r ∈ rows, r.length = k) → vs.length = k → i < rows.length → splice rows.flatten (i * k) vs = (rows.set i vs).flatten
  | [], i, vs, _, _, hi => by simp at hi
  | r :: rows, 0, vs, hk, hv, _ => by
    have := hk r (by simp)
    unfold splice
    rw [Nat.zero_mul, List.take_zero, Nat.zero_add, List.nil_append, List.set_cons_zero, List.flatten_cons, List.flatten_cons, hv, List.drop_left' this]
  | r :: rows, i + 1, vs, hk, hv, hi => by
    have h0 := hk r (by simp)
    have ih := splice_rows rows i vs (fun x hx => hk x (List.mem_cons_of_mem _ hx)) hv (by simpa using hi)
    unfold splice at ih ⊢
    rw [List.set_cons_succ, List.flatten_cons, List.flatten_cons, ← ih, Nat.succ_mul, List.take_append, List.drop_append, List.take_of_length_le (by omega), List.drop_eq_nil_of_le (by omega)]
    rw [show i * k + k - r.length = i * k by omega, show i * k + k + vs.length - r.length = i * k + vs.length by omega]
    simp
theorem splice_get {l vs : List Value} {o : Nat} (h : o + vs.length ≤ l.length) (j : Nat) : (splice l o vs)[j]? = if j < o then l[j]? else if j < o + vs.length then vs[j - o]? else l[j]? := by
  unfold splice
  have e1 : (List.take o l).length = o := by rw [List.length_take]; omega
  rw [List.append_assoc]
  split
  · rename_i h1
    rw [List.getElem?_append_left (by omega), List.getElem?_take_of_lt h1]
  · rename_i h1
    rw [List.getElem?_append_right (by omega), e1]
    split
    · rename_i h2
      rw [List.getElem?_append_left (by omega)]
    · rename_i h2
      rw [List.getElem?_append_right (by omega), List.getElem?_drop]
      congr 1; omega
theorem splice_take {l vs : List Value} {o m : Nat} (h : o + vs.length ≤ m) (hm : m ≤ l.length) : (splice l o vs).take m = splice (l.take m) o vs := by
  apply List.ext_getElem?
  intro j
  rw [splice_get (by rw [List.length_take]; omega), List.getElem?_take]
  split
  · rename_i h1
    rw [splice_get (by omega), List.getElem?_take_of_lt h1]
  · rename_i h1
    rw [if_neg (by omega), if_neg (by omega), List.getElem?_take_eq_none (by omega)]
/-- a write into an own slice -/
theorem ownS_put {h : Heap} {base e k : Nat} {s : Sl} {rows : List (List Value)} (ho : OwnS h base e k s rows.flatten) (hk : ∀ r ∈ rows, r.length = k) (hk0 : 0 < k) {i : Nat} (hi : i < rows.length) {vs : List Value} (hv : vs.length = k) {K : Heap → Prop}
    (hK : ∀ g h', s.a = some ⟨g, 0, none⟩ → base ≤ g → g < h.size → But g h h' → OwnS h' base e k s (rows.set i vs).flatten → K h') :
    NB s.a fun b o => okAt h ⟨b, o + i * k, none⟩ k ∧ ∀ h' : Heap, h' = hputs h ⟨b, o + i * k, none⟩ 0 vs → K h' := by
  have hl := ho.len
  rw [flatten_len rows hk] at hl
  have hn : rows.length = s.n := Nat.eq_of_mul_eq_mul_right hk0 hl
  rcases ho.2 with ⟨_, h0, _⟩ | ⟨g, cur, ha, hb, hg, hnc, hcm, hcs, ht⟩
  · omega
  · rw [ha, NB_some]
    have how : Own h g cur.toList e := hg
    have hm1 : i * k + k ≤ s.n * k := by rw [← Nat.succ_mul]; exact Nat.mul_le_mul_right k (by omega)
    have hm2 : s.n * k ≤ s.c * k := Nat.mul_le_mul_right k hnc
    have hcl : cur.toList.length = s.c * k := by rw [Array.length_toList]; exact hcs
    refine ⟨how.okAt (by omega), ?_⟩
    rintro h' rfl
    have hbut : But g h (hputs h ⟨g, 0 + i * k, none⟩ 0 vs) := But.hputs (a := ⟨g, 0 + i * k, none⟩) _ _ _
    refine hK g _ ha hb how.lt hbut ?_
    have h2 := Own.hputs vs 0 h cur.toList how (o := 0 + i * k) (by omega)
    rw [Nat.add_zero, Nat.zero_add] at h2
    refine ⟨?_, .inr ⟨g, (splice cur.toList (i * k) vs).toArray, ha, hb, ?_, hnc, hcm, ?_, ?_⟩⟩
    · rw [← splice_rows rows i vs hk hv hi]
      unfold splice
      simp only [List.length_append, List.length_take, List.length_drop]
      have := flatten_len rows hk
      omega
    · rw [Nat.zero_add]; exact h2
    · unfold splice
      simp only [List.size_toArray, List.length_append, List.length_take, List.length_drop]
      omega
    · rw [← splice_rows rows i vs hk hv hi, ← ht]
      exact splice_take (by omega) (by omega)
theorem set_rows (w : List Ix) (i : Nat) (x : Ix) : (ixR w).set i (ixC x) = ixR (w.set i x) := by unfold ixR; rw [List.map_set]
theorem set_strR (l : List Nm) (i : Nat) (x : Nm) : (strR l).set i [sV x] = strR (l.set i x) := by unfold strR; rw [List.map_set]
theorem law7 (g : Gv) (rs : List Nm) (dl : List Dl) (w : List Ix) (hw : w.length ≤ 9223372036854775807) (p : Sl) (hpa : p.a = none → p.n = 0 ∧ p.c = 0) (a0 a1 : Nat) (h0 : a0 < 256) (h1 : a1 < 256)
    (h : Heap) (hg : GR h g rs dl) (hp : Rw h 3 p (ixR w)) :
    Fn Tryd.prog 7 #[g.v, .slice p.a p.n p.c, .agg ⟨[.int .u8 a0, .int .u8 a1]⟩] h fun v h' => v = .bool true ∧ Ext h h' := by
  apply vc7 g.nm g.rs g.ds g.n0 g.n1 g.n2 g.es g.ts p a0 a1; unfold W7
  have hpn : p.n = w.length := by have := hp.1; rwa [ixR_len] at this
  refine newb (xs := g.cs) fun h11 E11 o11 => newb (xs := [.int .u8 a0, .int .u8 a1]) fun h12 E12 o12 => ?_
  refine (awake_c h12).mono ?_
  rintro v h15 ⟨rfl, E15⟩
  refine ⟨_, rfl, sB_f rfl ⟨_, _, _, _, _, _, _, _, ((o11.ext E12).ext E15).at0, ?_⟩⟩
  have E915 := (E11.trans E12).trans E15
  refine (few10 g rs dl p h15 (hg.ext E915)).mono ?_
  rintro v h26 ⟨⟨b1, rfl, hb1⟩, E26⟩
  have E926 := E915.trans E26
  have og := ((o11.ext E12).ext E15).ext E26
  have oa := (o12.ext E15).ext E26
  refine ⟨_, rfl, sB_intro (fun _ => ⟨rfl, E926⟩) (fun hf1 => sBe (fun _ => ⟨rfl, E926⟩) (fun hne => ?_))⟩
  have hp12 := hb1 (by rw [Bool.not_eq_false'] at hf1; exact hf1)
  have hpos : 0 < w.length := by omega
  refine ⟨⟨by omega, by omega⟩, (a0 : Int), oa.hc 0, hne, ⟨by omega, by omega⟩, (a1 : Int), oa.hc 1, hne, newb fun h29 E29 o29 => ?_⟩
  rw [w64 (n := (a0 : Int)) (by omega) (by omega), w64 (n := (a1 : Int)) (by omega) (by omega), tmod_nat, tmod_nat]
  have hi : a0 % p.n < w.length := by rw [hpn]; exact Nat.mod_lt _ hpos
  have hk : a1 % p.n < w.length := by rw [hpn]; exact Nat.mod_lt _ hpos
  generalize a0 % p.n = i at *
  generalize a1 % p.n = k at *
  refine App_rows app28 (ownS_zero o29 (Nat.le_refl _)) E29.1 (hp.ext (E926.trans E29)) (ixR_three w) hpa (ixF_oneB w) (by dsimp only; omega) (by rw [maxLen]; dsimp only; omega) fun s h31 hsn hs31 K31 => ?_
  dsimp only at hsn
  rw [List.nil_append] at hs31
  have E2631 := ((E29.kp (Nat.le_refl _)).trans K31).ext
  obtain ⟨x, hx⟩ := get_some hi
  obtain ⟨y, hy⟩ := get_some hk
  have hsw : Rw h31 3 s (ixR w) := hs31.rw (ixR_three w) (by omega)
  rw [show Int.toNat (i : Int) = i from rfl, show Int.toNat (k : Int) = k from rfl]
  refine hsw.nb (ixR_get hy) fun b o _ hat => ⟨⟨by omega, by omega⟩, _, _, _, hat, ?_⟩
  refine hsw.nb (ixR_get hx) fun b o _ hat => ⟨⟨by omega, by omega⟩, _, _, _, hat, ?_⟩
  refine NB_and ⟨by omega, by omega⟩ (ownS_put (rows := ixR w) hs31 (ixR_three w) (by omega) (i := i) (by rw [ixR_len]; exact hi) (vs := ixC y) rfl fun g1 h44 hg1 hgb hgl hb44 hs44 => ?_)
  rw [set_rows] at hs44
  refine NB_and ⟨by omega, by omega⟩ (ownS_put (rows := ixR (w.set i y)) hs44 (ixR_three _) (by omega) (i := k) (by rw [ixR_len, List.length_set]; exact hk) (vs := ixC x) rfl fun g2 h47 hg2 hgb2 hgl2 hb47 hs47 => ?_)
  rw [set_rows] at hs47
  have K2647 := ((((E29.kp (Nat.le_refl h26.size)).trans K31).trans (Kp.but hb44 hgb)).trans (Kp.but hb47 hgb2))
  have E947 := E926.trans K2647.ext
  have og47 := og.ext K2647.ext
  refine ⟨_, _, _, _, _, _, _, _, og47.at0, ?_⟩
  refine (draw11 g rs dl w hw p h47 (hg.ext E947) (hp.ext E947)).mono ?_
  rintro v h59 ⟨E59, sx, rfl, hsx⟩
  have E959 := E947.trans E59
  have hother : OwnS h47 h26.size 43 3 s (ixF ((w.set i y).set k x)) := hs47
  refine ⟨_, _, rfl, _, _, _, _, _, _, _, _, (og47.ext E59).at0, ?_⟩
  refine (draw11 g rs dl ((w.set i y).set k x) (by simp; omega) s h59 (hg.ext E959) (hother.ext E59).ixs).mono ?_
  rintro v h71 ⟨E71, sy, rfl, hsy⟩
  have E971 := E959.trans E71
  refine ⟨_, _, rfl, ?_⟩
  have halls := all_swap (rs := rs) (ds := nms dl) hx hy
  cases hdx : drawS rs (nms dl) w with
  | none =>
    have : drawS rs (nms dl) ((w.set i y).set k x) = none := by
      unfold drawS at hdx ⊢
      rw [halls]
      simp only [List.length_set]
      split at hdx
      · cases hdx
      · rename_i hc; rw [if_neg hc]
    rw [this]
    exact sB_t rfl ⟨rfl, E971⟩
  | some lx =>
    obtain ⟨allx, hl1000, elx⟩ := drawS_some hdx
    have hdy : drawS rs (nms dl) ((w.set i y).set k x) = some (linesS rs (nms dl) ((w.set i y).set k x)) := by
      unfold drawS
      rw [if_pos ⟨by rw [halls]; exact allx, by simp; omega⟩]
    rw [hdx] at hsx
    rw [hdy] at hsy ⊢
    simp only [Option.getD_some] at hsx hsy
    have hlx := draw_len hdx
    have hxn : sx.n = lx.length := by have := hsx.len; simp [strC] at this; omega
    refine sB_f rfl (sB_f rfl (sB_f ?_ ?_))
    · rw [w64 (by omega) (by omega)]; simp; omega
    rw [w64 (n := (k : Int) + 1) (by omega) (by omega), w64 (n := (i : Int) + 1) (by omega) (by omega), show (k : Int) + 1 = ((k + 1 : Nat) : Int) by omega, show (i : Int) + 1 = ((i + 1 : Nat) : Int) by omega,
      show Int.toNat ((k + 1 : Nat) : Int) = k + 1 from rfl, show Int.toNat ((i + 1 : Nat) : Int) = i + 1 from rfl]
    have hsx71 := hsx.ext E71
    have hat : ∀ j z, w[j]? = some z → lx[j + 1]? = some (lineS rs.length (widthC rs (nms dl) w) (nms dl) z) := fun j z hz => by
      rw [elx]; unfold linesS; rw [List.getElem?_cons_succ, List.getElem?_map, hz]; rfl
    have hxk := hat k y hy
    have hxi := hat i x hx
    refine hsx71.strs.nb (strR_get hxk) fun b o _ hat2 => ⟨⟨by omega, by omega⟩, _, hat2.hd, ?_⟩
    refine hsx71.strs.nb (strR_get hxi) fun b o _ hat2 => ⟨⟨by omega, by omega⟩, _, hat2.hd, ?_⟩
    rw [← strR_flat] at hsx71
    refine NB_and ⟨by omega, by omega⟩ (ownS_put (rows := strR lx) hsx71 (strR_one _) (by omega) (i := i + 1) (by rw [strR_len]; omega) (vs := [sV _]) rfl fun g3 h80 hg3 hgb3 hgl3 hb80 hs80 => ?_)
    rw [set_strR] at hs80
    refine NB_and ⟨by omega, by omega⟩ (ownS_put (rows := strR _) hs80 (strR_one _) (by omega) (i := k + 1) (by rw [strR_len, List.length_set]; omega) (vs := [sV _]) rfl fun g4 h83 hg4 hgb4 hgl4 hb83 hs83 => ?_)
    rw [set_strR] at hs83
    have hg34 : g3 = g4 := by rw [hg3] at hg4; cases hg4; rfl
    subst hg34
    have hlt : g3 < h59.size := by
      rcases hsx.2 with ⟨ha, _⟩ | ⟨g', cur, ha, hge, hgg, _⟩
      · rw [ha] at hg3; cases hg3
      · rw [ha] at hg3; cases hg3
        exact (Array.getElem?_eq_some_iff.1 hgg).1
    have hsy83 := (hsy.stp hlt (Stp.of_but hb80)).stp hlt (Stp.of_but hb83)
    have hls := lines_swap (rs := rs) (ds := nms dl) hx hy
    rw [← elx] at hls
    have hx83 : Rw h83 1 sx (strR ((lx.set (i + 1) (lineS rs.length (widthC rs (nms dl) w) (nms dl) y)).set (k + 1) (lineS rs.length (widthC rs (nms dl) w) (nms dl) x))) := hs83.rw (strR_one _) (by omega)
    refine (same13 _ _ (by simp; omega) sx sy h83 hx83 hsy83.strs).mono ?_
    rintro v h86 ⟨rfl, rfl⟩
    refine ⟨_, rfl, by rw [hls, decide_eq_true rfl], ?_⟩
    have hEL : h.size ≤ h47.size := E947.1
    exact (((E971.kp (Nat.le_refl _)).trans (Kp.but hb80 (by omega))).trans (Kp.but hb83 (by omega))).ext
end Go.VC
