/- Contracts of chart's reading: find, chart's and the reference's. -/
import Derived.Test.YtcaahhppapnbhaaDoorChI
set_option linter.unusedVariables false
set_option linter.unusedSimpArgs false

namespace Go.VC
open Go.Proofs Go.LexS Go.ChS Go.RowKit
set_option maxRecDepth 100000

def FindR (rs ds : List Nm) (w : Nat) (L : Nm) (h : Heap) (v : Value) (h' : Heap) : Prop :=
  Ext h h' ∧ ∃ (x : Ix) (ok : Bool), v = .tuple ⟨[.agg ⟨ixC x⟩, .bool ok]⟩ ∧
    (ok = true → properS rs.length ds.length x = true ∧ (nmOf ds x).length + 4 ≤ w ∧ lineS rs.length w ds x = L) ∧
    (ok = false → ∀ y, properS rs.length ds.length y = true → (nmOf ds y).length + 4 ≤ w → lineS rs.length w ds y ≠ L)
theorem own_put {h : Heap} {b : Nat} {xs : List Value} {e : TypeId} (ho : Own h b xs e) {i : Nat} (hi : i < xs.length) {v : Value} {K : Heap → Prop} (hK : ∀ h', But b h h' → Own h' b (xs.set i v) e → K h') :
    okAt h ⟨b, i, none⟩ 1 ∧ ∀ h' : Heap, h' = hputs h ⟨b, i, none⟩ 0 [v] → K h' := by
  refine ⟨ho.okAt (by omega), ?_⟩
  rintro h' rfl
  refine hK _ (But.hputs (a := ⟨b, i, none⟩) _ _ _) ?_
  have := Own.hputs [v] 0 h _ ho (o := i) (by rw [Nat.add_zero, List.length_singleton]; omega)
  have e1 : splice xs (i + 0) [v] = xs.set i v := by
    unfold splice
    rw [Nat.add_zero, List.set_eq_take_append_cons_drop, if_pos hi]; simp
  rw [e1] at this
  exact this
theorem own_puts {h : Heap} {b : Nat} {xs vs : List Value} {e : TypeId} (ho : Own h b xs e) (hl : xs.length = vs.length) {K : Heap → Prop} (hK : ∀ h', But b h h' → Own h' b vs e → K h') :
    okAt h ⟨b, 0, none⟩ vs.length ∧ ∀ h' : Heap, h' = hputs h ⟨b, 0, none⟩ 0 vs → K h' := by
  refine ⟨ho.okAt (by omega), ?_⟩
  rintro h' rfl
  refine hK _ (But.hputs (a := ⟨b, 0, none⟩) _ _ _) ?_
  have := Own.hputs vs 0 h _ ho (o := 0) (by omega)
  rw [splice_all hl] at this
  exact this
theorem ret3 {h : Heap} {bx br : Nat} {x : Ix} {rr : List Value} {e e' : TypeId} (ox : Own h bx (ixC x) e) (orr : Own h br rr e') (hl : rr.length = 3) {F : Int → Int → Int → Heap → Prop} (hF : ∀ h', But br h h' → F x.f x.t x.l h') :
    ∃ a b c : Int, atC h ⟨bx, 0, none⟩ [.int .i64 a, .int .i64 b, .int .i64 c] ∧ (okAt h ⟨br, 0, none⟩ 3 ∧ ∀ h2 : Heap, h2 = hputs h ⟨br, 0, none⟩ 0 [.int .i64 a, .int .i64 b, .int .i64 c] →
      (∃ a b c : Int, atC h2 ⟨br, 0, none⟩ [.int .i64 a, .int .i64 b, .int .i64 c] ∧ F a b c h2)) :=
  ⟨_, _, _, ox.at0, own_puts (vs := ixC x) orr (by rw [hl]; rfl) fun h' hb ho => ⟨_, _, _, ho.at0, hF h' hb⟩⟩
theorem lineS_label {rs ds : List Nm} (hd : drawableS rs ds = true) {w : Nat} {y : Ix} (hy : properS rs.length ds.length y = true) (hl : (nmOf ds y).length + 4 ≤ w) : labelF (lineS rs.length w ds y) = nmOf ds y := by
  obtain ⟨_, _, _, _, _, _, hok⟩ := drawable_cond hd
  obtain ⟨a1, a2, a3, a4, a5, a6, a7⟩ := proper_cond hy
  obtain ⟨hne, _, hc⟩ := ok_cond (hok _ (nmOf_mem a6 a7).2)
  unfold lineS
  rw [labelF_ascii (line_ascii hc), label_line (by omega) (by omega) (by omega) hc hne hl]
theorem find27 (g : Gv) (rs : List Nm) (dl : List Dl) (w : Nat) (hw : w ≤ 1000) (L : Nm) (hL : L.length ≤ 1000000) (h : Heap) (hg : GR h g rs dl) (hd : drawableS rs (nms dl) = true) (hfit : (labelF L).length + 4 ≤ w) :
    Fn Tryd.prog 27 #[g.v, .int .i64 w, .string (bs L)] h (FindR rs (nms dl) w L h) := by
  apply vc27 g.nm g.rs g.ds g.n0 g.n1 g.n2 g.es g.ts; unfold W27
  have hrn := hg.nr
  have hdb := hg.dn
  obtain ⟨hn1, hn6, hd40, _, hnd, hnm, hok⟩ := drawable_cond hd
  refine newb (xs := g.cs) fun h9 E9 o9 => newb fun h10 E10 o10 => ⟨_, _, _, _, _, _, _, _, (o9.ext E10).at0, ?_⟩
  refine (labels39 g rs dl h10 (hg.ext (E9.trans E10))).mono ?_
  rintro v h21 ⟨E21, s, rfl, hos⟩
  refine ⟨_, rfl, ?_⟩
  refine (label50 L hL h21).mono ?_
  rintro v h24 ⟨rfl, E24⟩
  refine ⟨_, rfl, ?_⟩
  refine (idx51 (nms dl) (by rw [nms_len]; omega) (bs (labelF L)) s h24 (hos.ext E24).strs).mono ?_
  rintro v h27 ⟨⟨k, rfl, hk⟩, rfl⟩
  rw [bs_list] at hk
  refine ⟨_, rfl, newput (vs := [.int .i64 0, .int .i64 0, .int .i64 k]) rfl fun h29 E29 ox => ⟨_, ox.hc 2, ?_⟩⟩
  have E1029 := (E21.trans E24).trans E29
  have og := (o9.ext E10).ext E1029
  have orr := o10.ext E1029
  have EE := (E9.trans E10).trans E1029
  have hlx : h9.size < h27.size := by have := o10.lt; have := (E21.trans E24).1; omega
  have hlg : h.size < h27.size := by have := E9.1; omega
  have hl9 : h.size ≤ h9.size := E9.1
  clear hos
  generalize hbx : h27.size = bx at *
  -- leaving with x
  have ret : ∀ (hX : Heap) (x : Ix) (ok : Bool), Stp bx h29 hX → Own hX bx (ixC x) 43 →
      (ok = true → properS rs.length (nms dl).length x = true ∧ (nmOf (nms dl) x).length + 4 ≤ w ∧ lineS rs.length w (nms dl) x = L) →
      (ok = false → ∀ y, properS rs.length (nms dl).length y = true → (nmOf (nms dl) y).length + 4 ≤ w → lineS rs.length w (nms dl) y ≠ L) →
      ∃ a b c : Int, atC hX ⟨bx, 0, none⟩ [.int .i64 a, .int .i64 b, .int .i64 c] ∧ (okAt hX ⟨h9.size, 0, none⟩ 3 ∧ ∀ h2 : Heap, h2 = hputs hX ⟨h9.size, 0, none⟩ 0 [.int .i64 a, .int .i64 b, .int .i64 c] →
      (∃ a b c : Int, atC h2 ⟨h9.size, 0, none⟩ [.int .i64 a, .int .i64 b, .int .i64 c] ∧ FindR rs (nms dl) w L h (.tuple ⟨[.agg ⟨[.int .i64 a, .int .i64 b, .int .i64 c]⟩, .bool ok]⟩) h2)) := fun hX x ok S o h1 h2 =>
    ret3 o (S.own orr (by omega)) rfl fun h' hb => ⟨(((EE.kp (Nat.le_refl _)).trans (S.kp (by omega) EE.1)).trans (Kp.but hb hl9)).ext, x, ok, rfl, h1, h2⟩
  have lab : ∀ y, properS rs.length (nms dl).length y = true → (nmOf (nms dl) y).length + 4 ≤ w → lineS rs.length w (nms dl) y = L → labelF L = nmOf (nms dl) y := fun y hy hl he => by
    rw [← he]; exact lineS_label hd hy hl
  refine sBi (fun hneg => ?_) (fun hpos => ?_)
  · refine ret h29 ⟨0, 0, k⟩ false (Stp.refl _ _) ox (fun e => by cases e) fun _ y hy hl he => ?_
    obtain ⟨a1, a2, a3, a4, a5, a6, a7⟩ := proper_cond hy
    rcases hk with ⟨i, rfl, _⟩ | ⟨_, hnot⟩
    · omega
    · rw [lab y hy hl he] at hnot
      exact hnot (nmOf_mem a6 a7).2
  refine ⟨_, og.hc 1, ?_⟩
  obtain ⟨b1, e1⟩ := wmul (a := rs.length - 1) (w := w) (by omega) hw
  have eN : IntKind.wrap .i64 (IntKind.wrap .i64 (IntKind.wrap .i64 ((g.rs.n : Int) - 1) * (w : Int)) + 1) = (((rs.length - 1) * w + 1 : Nat) : Int) := by
    rw [hrn, w64 (n := (rs.length : Int) - 1) (by omega) (by omega), show (rs.length : Int) - 1 = ((rs.length - 1 : Nat) : Int) by omega, e1, w64 (by omega) (by omega)]; omega
  rw [eN, bs_size]
  refine sB_intro (fun hne => ?_) (fun heq => ?_)
  · refine ret h29 ⟨0, 0, k⟩ false (Stp.refl _ _) ox (fun e => by cases e) fun _ y hy hl he => ?_
    have := natne hne
    rw [← he] at this
    unfold lineS at this
    rw [lineN_len] at this
    exact this rfl
  rcases hk with ⟨i, rfl, hi⟩ | ⟨rfl, _⟩
  rotate_left
  · omega
  obtain ⟨d, hd1, hd2⟩ : ∃ d, dl[i]? = some d ∧ d.nm = labelF L := by
    rw [List.getElem?_map] at hi
    cases hd : dl[i]? with
    | none => rw [hd] at hi; cases hi
    | some d => rw [hd] at hi; exact ⟨d, rfl, Option.some.inj hi⟩
  have hil : i < dl.length := (List.getElem?_eq_some_iff.1 hd1).1
  have hnmOf : ∀ a b : Int, nmOf (nms dl) ⟨a, b, i⟩ = labelF L := fun a b => by rw [nms_label (x := ⟨a, b, i⟩) (d := d) hd1, hd2]
  refine ⟨_, og.hc 1, ?_⟩
  refine up_loop (n := g.rs.n) (fun a h' => Stp bx h29 h' ∧ (∃ c1 c2 : Int, Own h' bx (ixC ⟨c1, c2, i⟩) 43) ∧ ∀ f t, f < a → t < rs.length → f ≠ t → lineN rs.length w f t (labelF L) ≠ L)
    ⟨Stp.refl _ _, ⟨0, 0, ox⟩, fun f t hf => by omega⟩ ?_
  rintro - a h51 ha ⟨S51, ⟨c1, c2, o51⟩, hall⟩
  refine sB_intro (fun hlt => ?_) (fun hge => ?_)
  · have hlt' := lt_t hlt
    refine own_put o51 (i := 0) (by show 0 < 3; decide) fun h52 hb52 o52 => ?_
    have S52 := S51.trans (Stp.of_but hb52)
    refine ⟨_, (S52.own og (by omega)).hc 1, ?_⟩
    refine up_loop (n := g.rs.n) (fun b h' => Stp bx h29 h' ∧ (∃ c2 : Int, Own h' bx (ixC ⟨a, c2, i⟩) 43) ∧ ∀ t, t < b → a ≠ t → lineN rs.length w a t (labelF L) ≠ L) ⟨S52, ⟨c2, o52⟩, fun t ht => by omega⟩ ?_
    rintro - b h58 hb ⟨S58, ⟨c2', o58⟩, hin⟩
    refine sB_intro (fun hlt2 => ?_) (fun hge2 => ?_)
    · have hlt2' := lt_t hlt2
      refine own_put o58 (i := 1) (by show 1 < 3; decide) fun h59 hb59 o59 => ?_
      have S59 := S58.trans (Stp.of_but hb59)
      have o59' : Own h59 bx (ixC ⟨a, b, i⟩) 43 := o59
      refine ⟨_, o59'.hc 0, _, o59'.hc 1, sB_intro (fun hne => ?_) (fun he => ?_)⟩
      · have hab := natne hne
        have hgx : GR h59 g rs dl := hg.ext (((EE.kp (Nat.le_refl _)).trans (S59.kp (by omega) EE.1)).ext)
        refine ⟨_, _, _, _, _, _, _, _, (S59.own og (by omega)).at0, _, _, _, o59'.at0, ?_⟩
        refine (line21 g rs dl a b i w d h59 hgx hd1 (by omega) (by omega) hab hn6 (by rw [hd2]; exact hfit) hw).mono ?_
        rintro v h75 ⟨rfl, E75⟩
        rw [hd2]
        refine ⟨_, rfl, ?_⟩
        rw [strEq, bs_list, bs_list]
        have S75 := S59.trans (Stp.of_ext E75)
        refine sBi (fun he => ?_) (fun hne2 => ?_)
        · refine ret h75 ⟨a, b, i⟩ true S75 (o59'.ext E75) (fun _ => ⟨?_, by rw [hnmOf]; exact hfit, ?_⟩) (fun e => by cases e)
          · unfold properS
            rw [nms_len]
            simp only [Bool.and_eq_true, decide_eq_true_eq]
            exact ⟨⟨⟨⟨⟨⟨by omega, by omega⟩, by omega⟩, by omega⟩, by omega⟩, by omega⟩, by omega⟩
          · unfold lineS; rw [hnmOf]; exact he
        · refine Up.next hlt2' (by omega) ⟨S75, ⟨b, o59'.ext E75⟩, fun t ht hne3 => ?_⟩
          by_cases e : t = b
          · subst e; exact hne2
          · exact hin t (by omega) hne3
      · have hab := nateq he
        refine Up.next hlt2' (by omega) ⟨S59, ⟨b, o59'⟩, fun t ht hne3 => ?_⟩
        by_cases e : t = b
        · omega
        · exact hin t (by omega) hne3
    · have hge2' := lt_f hge2
      refine Up.next hlt' (by omega) ⟨S58, ⟨a, c2', o58⟩, fun f t hf ht hne => ?_⟩
      by_cases e : f = a
      · subst e; exact hin t (by omega) hne
      · exact hall f t (by omega) ht hne
  · have hge' := lt_f hge
    refine ret h51 ⟨c1, c2, i⟩ false S51 o51 (fun e => by cases e) fun _ y hy hl he => ?_
    obtain ⟨a1, a2, a3, a4, a5, a6, a7⟩ := proper_cond hy
    have hy2 := lab y hy hl he
    refine hall y.f.toNat y.t.toNat (by omega) (by omega) (by omega) ?_
    rw [hy2]; exact he
theorem find30 (g : Gv) (rs : List Nm) (dl : List Dl) (w : Nat) (hw : w ≤ 1000) (L : Nm) (h : Heap) (hg : GR h g rs dl) (hd : drawableS rs (nms dl) = true) :
    Fn Tryd.prog 30 #[g.v, .string (bs L), .int .i64 w] h (FindR rs (nms dl) w L h) := by
  apply vc30 g.nm g.rs g.ds g.n0 g.n1 g.n2 g.es g.ts; unfold W30
  have hrn := hg.nr
  have hdn := hg.nd
  have hdb := hg.dn
  obtain ⟨hn1, hn6, hd40, _, hnd, hnm, hok⟩ := drawable_cond hd
  refine newb (xs := g.cs) fun h9 E9 og => newb fun h10 E10 orr => ?_
  have og := og.ext E10
  have hl9 : h.size ≤ h9.size := E9.1
  have EE := E9.trans E10
  refine up_loop (n := g.rs.n) (fun a h' => Ext h10 h' ∧ ∀ f t l, f < a → t < rs.length → f ≠ t → l < dl.length → ∀ d, dl[l]? = some d → d.nm.length + 4 ≤ w → lineN rs.length w f t d.nm ≠ L) ⟨Ext.refl _, fun f t l hf => by omega⟩ ?_
  rintro - a h15 ha ⟨E15, hall⟩
  refine ⟨_, (og.ext E15).hc 1, sB_intro (fun hlt => ?_) (fun hge => ?_)⟩
  · have hlt' := lt_t hlt
    refine up_loop (n := g.rs.n) (fun b h' => Ext h10 h' ∧ ∀ t l, t < b → a ≠ t → l < dl.length → ∀ d, dl[l]? = some d → d.nm.length + 4 ≤ w → lineN rs.length w a t d.nm ≠ L) ⟨E15, fun t l ht => by omega⟩ ?_
    rintro - b h21 hb ⟨E21, hin⟩
    refine ⟨_, (og.ext E21).hc 1, sB_intro (fun hlt2 => ?_) (fun hge2 => ?_)⟩
    · have hlt2' := lt_t hlt2
      refine up_loop (n := g.ds.n) (fun l h' => Ext h10 h' ∧ (a ≠ b → ∀ q, q < l → ∀ d, dl[q]? = some d → d.nm.length + 4 ≤ w → lineN rs.length w a b d.nm ≠ L)) ⟨E21, fun _ q hq => by omega⟩ ?_
      rintro - l h27 hl ⟨E27, hlab⟩
      refine ⟨_, (og.ext E27).hc 2, sB_intro (fun hlt3 => ?_) (fun hge3 => ?_)⟩
      · have hlt3' := lt_t hlt3
        refine sB_intro (fun hne => ?_) (fun he => ?_)
        · have hab := natne hne
          obtain ⟨d, hd1⟩ := get_some (l := dl) (i := l) (by omega)
          refine newput (vs := ixC ⟨a, b, l⟩) rfl fun h30 E30 ox => ?_
          have E1030 := E27.trans E30
          have hg30 := hg.ext (EE.trans E1030)
          refine ⟨_, (og.ext E1030).hc 2, hg30.d.nb (dl_get hd1) fun b5 o5 _ hat => ⟨⟨by omega, by omega⟩, _, hat.hd, ?_⟩⟩
          have hnl : d.nm.length ≤ 50 := by
            have hm : d.nm ∈ nms dl := List.mem_of_getElem? (nms_get hd1)
            exact (ok_cond (hok _ hm)).2.1
          rw [bs_size, w64 (n := (d.nm.length : Int) + 4) (by omega) (by omega)]
          refine sBi (fun hfit => ?_) (fun hfit => ?_)
          · have hfit' : d.nm.length + 4 ≤ w := by omega
            refine ⟨_, _, _, _, _, _, _, _, (og.ext E1030).at0, _, _, _, ox.at0, ?_⟩
            refine (line23 g rs dl a b l w d h30 hg30 hd1 (by omega) (by omega) hab hn6 hfit' hw).mono ?_
            rintro v h48 ⟨rfl, E48⟩
            refine ⟨_, rfl, ?_⟩
            rw [strEq, bs_list, bs_list]
            refine sBi (fun he => ?_) (fun hne2 => ?_)
            · refine ret3 (ox.ext E48) (orr.ext (E1030.trans E48)) rfl fun h52 hb52 => ⟨(((EE.trans E1030).trans E48).kp (Nat.le_refl _) |>.trans (Kp.but hb52 hl9)).ext, ⟨a, b, l⟩, true, rfl, fun _ => ⟨?_, ?_, ?_⟩, fun e => by cases e⟩
              · unfold properS
                rw [nms_len]
                simp only [Bool.and_eq_true, decide_eq_true_eq]
                exact ⟨⟨⟨⟨⟨⟨by omega, by omega⟩, by omega⟩, by omega⟩, by omega⟩, by omega⟩, by omega⟩
              · rw [nms_label (x := ⟨a, b, l⟩) (d := d) hd1]; exact hfit'
              · unfold lineS; rw [nms_label (x := ⟨a, b, l⟩) (d := d) hd1]; exact he
            · refine Up.next hlt3' (by omega) ⟨E1030.trans E48, fun hab q hq e hqe hfe => ?_⟩
              by_cases eq : q = l
              · subst eq; rw [hd1] at hqe; cases hqe; exact hne2
              · exact hlab hab q (by omega) e hqe hfe
          · refine Up.next hlt3' (by omega) ⟨E1030, fun hab q hq e hqe hfe => ?_⟩
            by_cases eq : q = l
            · subst eq; rw [hd1] at hqe; cases hqe; omega
            · exact hlab hab q (by omega) e hqe hfe
        · have hab := nateq he
          refine Up.next hlt2' (by omega) ⟨E27, fun t q ht hne3 hq e hqe hfe => ?_⟩
          by_cases e : t = b
          · omega
          · exact hin t q (by omega) hne3 hq _ hqe hfe
      · have hge3' := lt_f hge3
        refine Up.next hlt2' (by omega) ⟨E27, fun t q ht hne3 hq e hqe hfe => ?_⟩
        by_cases e : t = b
        · subst e; exact hlab hne3 q (by omega) _ hqe hfe
        · exact hin t q (by omega) hne3 hq _ hqe hfe
    · have hge2' := lt_f hge2
      refine Up.next hlt' (by omega) ⟨E21, fun f t q hf ht hne hq d hqe hfe => ?_⟩
      by_cases e : f = a
      · subst e; exact hin t q (by omega) hne hq d hqe hfe
      · exact hall f t q (by omega) ht hne hq d hqe hfe
  · have hge' := lt_f hge
    refine own_puts (vs := ixC ⟨0, 0, 0⟩) (orr.ext E15) rfl fun h61 hb61 o61 => ⟨_, _, _, o61.at0, ?_⟩
    refine ⟨((EE.trans E15).kp (Nat.le_refl _) |>.trans (Kp.but hb61 hl9)).ext, ⟨0, 0, 0⟩, false, rfl, (fun e => by cases e), fun _ y hy hl he => ?_⟩
    obtain ⟨d, hd1, hd2, hd3, hd4⟩ := proper_label hy
    obtain ⟨a1, a2, a3, a4, a5, a6, a7⟩ := proper_cond hy
    rw [hd2] at hl
    refine hall y.f.toNat y.t.toNat y.l.toNat (by omega) (by omega) (by omega) hd3 d hd1 hl ?_
    unfold lineS at he
    rw [hd2] at he
    exact he
end Go.VC
