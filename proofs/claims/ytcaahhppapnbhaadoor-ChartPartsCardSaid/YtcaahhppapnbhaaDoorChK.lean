/- Contracts of chart's reading: Read, chart's. -/
import Derived.Test.YtcaahhppapnbhaaDoorChJ
set_option linter.unusedVariables false
set_option linter.unusedSimpArgs false

namespace Go.VC
open Go.Proofs Go.LexS Go.ChS Go.RowKit
set_option maxRecDepth 100000

def ixF (w : List Ix) : List Value := (ixR w).flatten
theorem ixF_snoc (w : List Ix) (x : Ix) : ixF (w ++ [x]) = ixF w ++ ixC x := by unfold ixF ixR; rw [List.map_append, List.flatten_append]; simp
theorem ixR_three (w : List Ix) : ∀ r ∈ ixR w, r.length = 3 := by
  intro r hr
  unfold ixR at hr
  obtain ⟨x, _, rfl⟩ := List.mem_map.1 hr
  rfl
theorem ixF_len (w : List Ix) : (ixF w).length = w.length * 3 := by unfold ixF; rw [flatten_len _ (ixR_three w), ixR_len]
theorem OwnS.ixs {h : Heap} {base e : Nat} {s : Sl} {w : List Ix} (ho : OwnS h base e 3 s (ixF w)) : Rw h 3 s (ixR w) := ho.rw (ixR_three w) (by omega)
theorem app28 : appB Tryd.prog 28 43 3 24 = true := by kernel_rfl
def ReadR (rs ds : List Nm) (L : List Nm) (h : Heap) (v : Value) (h' : Heap) : Prop :=
  Ext h h' ∧ ((∃ (w : List Ix) (s : Sl), drawS rs ds w = some L ∧ v = .tuple ⟨[.slice s.a s.n s.c, .int .i64 0]⟩ ∧ OwnS h' h.size 43 3 s (ixF w)) ∨
    ((∀ w, drawS rs ds w ≠ some L) ∧ v = .tuple ⟨[.slice none 0 0, .int .i64 4]⟩))
theorem draw_line {rs ds : List Nm} {w : List Ix} {L : List Nm} (h : drawS rs ds w = some L) {i : Nat} {s : Nm} (hs : L[i + 1]? = some s) :
    ∃ y, w[i]? = some y ∧ properS rs.length ds.length y = true ∧ lineS rs.length (widthC rs ds w) ds y = s ∧ (nmOf ds y).length + 4 ≤ widthC rs ds w ∧ ∀ F, L[0]? = some F → colS rs F = widthC rs ds w := by
  obtain ⟨hall, _, rfl⟩ := drawS_some h
  obtain ⟨hd, hp⟩ := all_cond hall
  obtain ⟨_, _, _, _, _, hnm, _⟩ := drawable_cond hd
  unfold linesS at hs ⊢
  rw [List.getElem?_cons_succ, List.getElem?_map] at hs
  cases hy : w[i]? with
  | none => rw [hy] at hs; cases hs
  | some y =>
    rw [hy] at hs
    have hm := List.mem_of_getElem? hy
    obtain ⟨a1, a2, a3, a4, a5, _⟩ := proper_cond (hp y hm)
    refine ⟨y, rfl, hp y hm, Option.some.inj hs, width_ok.2 y hm, fun F hF => ?_⟩
    rw [List.getElem?_cons_zero] at hF; cases hF
    exact col_head hnm (by omega) fun r hr => by have := (width_ok (ds := ds) (w := w)).1 r hr; omega
theorem draw_len {rs ds : List Nm} {w : List Ix} {L : List Nm} (h : drawS rs ds w = some L) : L.length = w.length + 1 ∧ w.length ≤ 1000 ∧ drawableS rs ds = true ∧ 5 ≤ widthC rs ds w ∧ widthC rs ds w ≤ 54 := by
  obtain ⟨hall, h1, rfl⟩ := drawS_some h
  exact ⟨by simp [linesS], h1, (all_cond hall).1, width_five (all_cond hall).1, widthC_bound hall⟩
theorem colS_le (rs : List Nm) (F : Nm) : colS rs F ≤ F.length := by
  unfold colS
  split
  · rename_i r q rest
    split
    · rename_i hc
      have h1 : r <+: F := List.isPrefixOf_iff_prefix.1 hc.1
      have h2 := h1.length_le
      have h3 : gapS (F.drop r.length) ≤ (F.drop r.length).length := by unfold gapS; exact (List.takeWhile_prefix _).length_le
      rw [List.length_drop] at h3
      omega
    · omega
  · omega
theorem Rw.tail1 {h : Heap} {s : Sl} {rows : List (List Value)} (hr : Rw h 1 s rows) (hc : s.n ≤ s.c) {i : Nat} {row : List Value} (hi : rows[i + 1]? = some row) {F : Nat → Nat → Prop}
    (hF : ∀ b o, atC h ⟨b, o + i * 1, none⟩ row → F b o) : NB (subA s.a 1 s.c 1) F := by
  have hl := (List.getElem?_eq_some_iff.1 hi).1
  have hn := hr.1
  obtain ⟨b, o, ha, hall⟩ := hr.2 (by omega)
  unfold subA
  rw [if_neg (by omega), ha, Option.map_some, add_n, NB_some]
  refine hF b _ ?_
  have := hall (i + 1) row hi
  rw [show o + (i + 1) * 1 = o + 1 * 1 + i * 1 by omega] at this
  exact this
theorem read16 (g : Gv) (rs : List Nm) (dl : List Dl) (L : List Nm) (hLb : L.length ≤ 9223372036854775807) (hLs : ∀ s ∈ L, s.length ≤ 1000) (p : Sl) (hcap : p.n ≤ p.c) (h : Heap) (hg : GR h g rs dl) (hr : Rw h 1 p (strR L)) :
    Fn Tryd.prog 16 #[g.v, .slice p.a p.n p.c] h (ReadR rs (nms dl) L h) := by
  apply vc16 g.nm g.rs g.ds g.n0 g.n1 g.n2 g.es g.ts p; unfold W16
  have hpn : p.n = L.length := by have := hr.1; rwa [strR_len] at this
  refine newb (xs := g.cs) fun h9 E9 o9 => ⟨_, _, _, _, _, _, _, _, o9.at0, ?_⟩
  refine (drawable24 g rs dl h9 (hg.ext E9)).mono ?_
  rintro v h20 ⟨rfl, E20⟩
  have E920 := E9.trans E20
  have bad : ∀ hX, Kp h20.size h20 hX → (∀ w, drawS rs (nms dl) w ≠ some L) → ReadR rs (nms dl) L h (.tuple ⟨[.slice none 0 0, .int .i64 4]⟩) hX := fun hX hE hn => ⟨E920.trans hE.ext, .inr ⟨hn, rfl⟩⟩
  refine ⟨_, rfl, sB_intro (fun h1 => bad h20 (Kp.refl _ _) fun w hw => ?_) (fun h1 => ?_)⟩
  · rw [(draw_len hw).2.2.1] at h1; cases h1
  rw [Bool.not_eq_false'] at h1
  refine sBe (fun h2 => bad h20 (Kp.refl _ _) fun w hw => ?_) (fun h2 => sBi (fun h3 => bad h20 (Kp.refl _ _) fun w hw => ?_) (fun h3 => ?_))
  · have := (draw_len hw).1; omega
  · have := draw_len hw; omega
  obtain ⟨hn1, hn6, hd40, _, hnd, hnm, hok⟩ := drawable_cond h1
  obtain ⟨F, hF⟩ := get_some (l := L) (i := 0) (by omega)
  have hFl := hLs F (List.mem_of_getElem? hF)
  have hcol := colS_le rs F
  refine ⟨fun word h' => Kp h20.size h20 h' ∧ ∃ wd, OwnS h' h20.size 43 3 word (ixF wd) ∧ wd.length ≤ 1000 ∧ ∀ w, drawS rs (nms dl) w = some L → w = wd, ?_, ?_⟩
  · refine ⟨_, _, _, _, _, _, _, _, (o9.ext E20).at0, ?_⟩
    refine (hr.ext E920).nb (i := 0) (strR_get hF) fun b o _ hat => ⟨⟨by omega, by omega⟩, _, hat.hd, ?_⟩
    refine (columns25 g rs dl F (by omega) h20 (hg.ext E920) (fun r hr => by have := (name_cond (hnm r hr)).2.1; omega)).mono ?_
    rintro v h35 ⟨rfl, E35⟩
    generalize hW : colS rs F = W at *
    have K35 := E35.kp (Nat.le_refl h20.size)
    refine ⟨_, rfl, sBi (fun h4 => ?_) (fun h4 => ⟨K35, [], OwnS.nil, by simp, fun w hw => ?_⟩)⟩
    · refine ⟨⟨by omega, by omega, by omega⟩, ?_⟩
      rw [show Int.toNat (p.n : Int) = p.n from rfl, show Int.toNat 1 = 1 from rfl]
      refine ⟨fun word x h' m => Up (p.n - 1) (fun i h' => Kp h20.size h20 h' ∧ ∃ wd, OwnS h' h20.size 43 3 word (ixF wd) ∧ wd.length = i ∧ ∀ w, drawS rs (nms dl) w = some L → wd = w.take i) x h' m, ?_, ?_⟩
      · exact Up.zero (Q := fun i h' => Kp h20.size h20 h' ∧ ∃ wd, OwnS h' h20.size 43 3 ⟨none, 0, 0⟩ (ixF wd) ∧ wd.length = i ∧ ∀ w, drawS rs (nms dl) w = some L → wd = w.take i) ⟨K35, [], OwnS.nil, rfl, fun w _ => rfl⟩
      rintro - word x h41 m ⟨i, rfl, rfl, hi, K41, wd, hos, hlen, hwd⟩
      have E41 := K41.ext
      refine sBi (fun hlt => ?_) (fun hge => ?_)
      · have hlt' : i < p.n - 1 := by omega
        obtain ⟨S, hS⟩ := get_some (l := L) (i := i + 1) (by omega)
        have hSl := hLs S (List.mem_of_getElem? hS)
        refine (hr.ext (E920.trans E41)).tail1 hcap (strR_get hS) fun b o hat => ⟨⟨by omega, by omega⟩, _, hat.hd, ?_⟩
        have og := (o9.ext E20).ext E41
        refine ⟨_, _, _, _, _, _, _, _, og.at0, ?_⟩
        refine (fits26 g S (by omega) W (by omega) h41).mono ?_
        rintro v h55 ⟨rfl, E55⟩
        refine ⟨_, rfl, sB_intro (fun h5 => bad h55 (K41.trans (E55.kp E41.1)) fun w hw => ?_) (fun h5 => ?_)⟩
        · obtain ⟨y, hy1, hy2, hy3, hy4, hy5⟩ := draw_line hw hS
          rw [hy5 F hF] at hW
          subst hW
          rw [← hy3, lineS_label h1 hy2 hy4, decide_eq_true hy4] at h5
          cases h5
        rw [Bool.not_eq_false'] at h5
        have E2055 := E41.trans E55
        refine ⟨_, _, _, _, _, _, _, _, (og.ext E55).at0, ?_⟩
        refine (find27 g rs dl W (by omega) S (by omega) h55 (hg.ext (E920.trans E2055)) h1 (of_decide_eq_true h5)).mono ?_
        rintro v h69 ⟨E69, x, ok, rfl, ht, hf⟩
        refine ⟨_, _, _, _, rfl, newput (vs := ixC x) rfl fun h71 E71 o71 => ?_⟩
        have E4171 := (E55.trans E69).trans E71
        refine sB_intro (fun h6 => bad h71 (K41.trans (E4171.kp E41.1)) fun w hw => ?_) (fun h6 => ?_)
        · obtain ⟨y, hy1, hy2, hy3, hy4, hy5⟩ := draw_line hw hS
          rw [hy5 F hF] at hW
          subst hW
          rw [Bool.not_eq_true'] at h6
          exact hf h6 y hy2 hy4 hy3
        rw [Bool.not_eq_false'] at h6
        obtain ⟨hx1, hx2, hx3⟩ := ht h6
        refine ⟨_, _, _, o71.at0, ?_⟩
        have hsn : word.n = i := by have := hos.len; rw [ixF_len] at this; omega
        refine App_one app28 (hos.ext E4171) (by have := E41.1; have := E4171.1; omega) (news := ixC x) rfl rfl (by omega) (by rw [maxLen]; omega) fun r h77 hrn hr77 K77 _ => ?_
        refine Up.next hlt' (by omega) ⟨(K41.trans (E4171.kp E41.1)).trans K77, wd ++ [x], by rw [ixF_snoc]; exact hr77, by simp [hlen], fun w hw => ?_⟩
        obtain ⟨y, hy1, hy2, hy3, hy4, hy5⟩ := draw_line hw hS
        rw [hy5 F hF] at hW
        subst hW
        rw [take_snoc hy1, ← hwd w hw]
        rw [lineS_inj h1 (draw_len hw).2.2.2.1 hx1 hy2 hx2 hy4 (hx3.trans hy3.symm)]
      · obtain rfl : i = p.n - 1 := by omega
        refine ⟨K41, wd, hos, by omega, fun w hw => ?_⟩
        have := draw_len hw
        rw [hwd w hw, List.take_of_length_le (by omega)]
    · cases w with
      | nil => rfl
      | cons y w =>
        exfalso
        obtain ⟨S, hS⟩ := get_some (l := L) (i := 0 + 1) (by have := (draw_len hw).1; simp at this; omega)
        obtain ⟨_, _, _, _, _, hy5⟩ := draw_line hw hS
        have := hy5 F hF
        have := (draw_len hw).2.2.2.1
        omega
  · rintro - word h80 ⟨K80, wd, hos, hwl, hwd⟩
    have E80 := K80.ext
    have E980 := E920.trans E80
    refine ⟨_, _, _, _, _, _, _, _, ((o9.ext E20).ext E80).at0, ?_⟩
    refine (draw11 g rs dl wd (by omega) word h80 (hg.ext E980) hos.ixs).mono ?_
    rintro v h92 ⟨E92, sl, rfl, hl⟩
    refine ⟨_, _, rfl, ?_⟩
    cases hdr : drawS rs (nms dl) wd with
    | none =>
      refine sB_t (by rfl) (bad h92 (K80.trans (E92.kp E80.1)) fun w hw => ?_)
      rw [← hwd w hw, hw] at hdr; cases hdr
    | some l =>
      rw [hdr] at hl
      refine sB_f (by rfl) ?_
      have hll : l.length ≤ 9223372036854775807 := by have := draw_len hdr; omega
      refine (same28 l L hll sl p h92 hl.strs (hr.ext (E980.trans E92))).mono ?_
      rintro v h95 ⟨rfl, rfl⟩
      refine ⟨_, rfl, sB_intro (fun h6 => bad h95 (K80.trans (E92.kp E80.1)) fun w hw => ?_) (fun h6 => ?_)⟩
      · rw [← hwd w hw, hw] at hdr; cases hdr; simp at h6
      · have : l = L := by simpa using h6
        subst this
        exact ⟨E980.trans E92, .inl ⟨wd, word, hdr, rfl, (hos.ext E92).mono E920.1⟩⟩
end Go.VC
