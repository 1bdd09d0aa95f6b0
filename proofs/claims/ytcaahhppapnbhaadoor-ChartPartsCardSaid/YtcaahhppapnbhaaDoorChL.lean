/- Contracts of chart's reading: Read of the reference. -/
import Derived.Test.YtcaahhppapnbhaaDoorChK
set_option linter.unusedVariables false
set_option linter.unusedSimpArgs false

namespace Go.VC
open Go.Proofs Go.LexS Go.ChS Go.RowKit
set_option maxRecDepth 100000

theorem read17 (g : Gv) (rs : List Nm) (dl : List Dl) (L : List Nm) (hLb : L.length ≤ 9223372036854775807) (p : Sl) (h : Heap) (hg : GR h g rs dl) (hr : Rw h 1 p (strR L)) :
    Fn Tryd.prog 17 #[g.v, .slice p.a p.n p.c] h (ReadR rs (nms dl) L h) := by
  apply vc17 g.nm g.rs g.ds g.n0 g.n1 g.n2 g.es g.ts p; unfold W17
  have hpn : p.n = L.length := by have := hr.1; rwa [strR_len] at this
  refine newb (xs := g.cs) fun h9 E9 o9 => ⟨_, _, _, _, _, _, _, _, o9.at0, ?_⟩
  refine (names29 g rs dl h9 (hg.ext E9)).mono ?_
  rintro v h20 ⟨rfl, E20⟩
  have E920 := E9.trans E20
  have bad : ∀ hX, Kp h20.size h20 hX → (∀ w, drawS rs (nms dl) w ≠ some L) → ReadR rs (nms dl) L h (.tuple ⟨[.slice none 0 0, .int .i64 4]⟩) hX := fun hX hE hn => ⟨E920.trans hE.ext, .inr ⟨hn, rfl⟩⟩
  refine ⟨_, rfl, sB_intro (fun h1 => bad h20 (Kp.refl _ _) fun w hw => ?_) (fun h1 => ?_)⟩
  · rw [(draw_len hw).2.2.1] at h1; cases h1
  rw [Bool.not_eq_false'] at h1
  refine sBe (fun h2 => bad h20 (Kp.refl _ _) fun w hw => ?_) (fun h2 => sBi (fun h3 => bad h20 (Kp.refl _ _) fun w hw => ?_) (fun h3 => ?_))
  · have := (draw_len hw).1; omega
  · have := draw_len hw; omega
  refine ⟨fun x h' m => ∃ W : Nat, x = W ∧ m = 55 - W ∧ 5 ≤ W ∧ W ≤ 55 ∧ Kp h20.size h20 h' ∧ ∀ w, drawS rs (nms dl) w = some L → W ≤ widthC rs (nms dl) w,
    ⟨_, 5, rfl, rfl, by omega, by omega, Kp.refl _ _, fun w hw => (draw_len hw).2.2.2.1⟩, ?_⟩
  rintro - x h25 m ⟨W, rfl, rfl, hW5, hW55, K25, hmin⟩
  refine sBi (fun hW54 => ?_) (fun hge => bad h25 K25 fun w hw => ?_)
  · have hW54' : W ≤ 54 := by omega
    have next : ∀ hX, Kp h20.size h20 hX → (∀ w, drawS rs (nms dl) w = some L → widthC rs (nms dl) w ≠ W) → ∃ m', m' < 55 - W ∧ ∃ V : Nat, IntKind.wrap .i64 ((W : Int) + 1) = V ∧ m' = 55 - V ∧ 5 ≤ V ∧ V ≤ 55 ∧ Kp h20.size h20 hX ∧ ∀ w, drawS rs (nms dl) w = some L → V ≤ widthC rs (nms dl) w := fun hX hE hn =>
      ⟨_, by omega, W + 1, by rw [w64 (by omega) (by omega)]; omega, rfl, by omega, by omega, hE, fun w hw => by have := hn w hw; have := hmin w hw; omega⟩
    refine ⟨fun word ok x h' m => ∃ i : Nat, x = i ∧ m = p.n - i ∧ 1 ≤ i ∧ i ≤ p.n ∧ Kp h20.size h20 h' ∧ ∃ wd, OwnS h' h20.size 43 3 word (ixF wd) ∧ wd.length + 1 = i ∧
      (ok = true → ∀ w, drawS rs (nms dl) w = some L → widthC rs (nms dl) w = W → wd = w.take (i - 1)) ∧ (ok = false → ∀ w, drawS rs (nms dl) w = some L → widthC rs (nms dl) w ≠ W),
      ⟨_, 1, rfl, rfl, by omega, by omega, K25, [], OwnS.nil, rfl, fun _ w _ _ => rfl, fun e => by cases e⟩, ?_⟩
    rintro - word ok x h32 m ⟨i, rfl, rfl, hi1, hi2, K32, wd, hos, hlen, hwd, hbad⟩
    have E32 := K32.ext
    have E932 := E920.trans E32
    have og := (o9.ext E20).ext E32
    have hsn : word.n = wd.length := by have := hos.len; rw [ixF_len] at this; omega
    -- the word is whole
    have tail : ok = true → i = p.n → ∀ NX : Heap → Prop, (∀ hX, Kp h20.size h20 hX → (∀ w, drawS rs (nms dl) w = some L → widthC rs (nms dl) w ≠ W) → NX hX) →
        (∃ x93 : ByteArray, ∃ x94 : Sl, ∃ x95 : Sl, ∃ x96 : Int, ∃ x97 : Int, ∃ x98 : Int, ∃ x99 : Sl, ∃ x100 : Sl, atC h32 ⟨h.size, 0, none⟩ [.string x93, .slice x94.a x94.n x94.c, .slice x95.a x95.n x95.c, .int .i64 x96, .int .i64 x97, .int .i64 x98, .slice x99.a x99.n x99.c, .slice x100.a x100.n x100.c] ∧
          Fn Tryd.prog 12 #[.agg ⟨[.string x93, .slice x94.a x94.n x94.c, .slice x95.a x95.n x95.c, .int .i64 x96, .int .i64 x97, .int .i64 x98, .slice x99.a x99.n x99.c, .slice x100.a x100.n x100.c]⟩, .slice word.a word.n word.c] h32
          (fun v101 h104 => ∃ x102 : Sl, ∃ x103 : Int, v101 = .tuple ⟨[.slice x102.a x102.n x102.c, .int .i64 x103]⟩ ∧
          sB (x103 == 0)
           (Fn Tryd.prog 13 #[.slice x102.a x102.n x102.c, .slice p.a p.n p.c] h104
           (fun v105 h107 => ∃ x106 : Bool, v105 = .bool x106 ∧
           sB x106 (ReadR rs (nms dl) L h (.tuple ⟨[.slice word.a word.n word.c, .int .i64 0]⟩) h107) (NX h107)))
           (NX h104))) := fun hok hii NX next => by
        refine ⟨_, _, _, _, _, _, _, _, og.at0, ?_⟩
        have hwd' : ∀ w, drawS rs (nms dl) w = some L → widthC rs (nms dl) w = W → w = wd := fun w hw hwW => by
          have := draw_len hw
          rw [hwd hok w hw hwW, List.take_of_length_le (by omega)]
        refine (draw12 g rs dl wd (by omega) word h32 (hg.ext E932) hos.ixs).mono ?_
        rintro v h104 ⟨E104, sl, rfl, hl⟩
        have K104 := K32.trans (E104.kp E32.1)
        refine ⟨_, _, rfl, ?_⟩
        cases hdr : drawS rs (nms dl) wd with
        | none =>
          refine sB_f (by rfl) (next h104 K104 fun w hw hwW => ?_)
          rw [← hwd' w hw hwW, hw] at hdr; cases hdr
        | some l =>
          rw [hdr] at hl
          refine sB_t (by rfl) ?_
          have hll : l.length ≤ 9223372036854775807 := by have := draw_len hdr; omega
          refine (same13 l L hll sl p h104 hl.strs (hr.ext (E932.trans E104))).mono ?_
          rintro v h107 ⟨rfl, rfl⟩
          refine ⟨_, rfl, sBi (fun h6 => ?_) (fun h6 => next h107 K104 fun w hw hwW => ?_)⟩
          · subst h6
            exact ⟨E932.trans E104, .inl ⟨wd, word, hdr, rfl, (hos.ext E104).mono E920.1⟩⟩
          · rw [← hwd' w hw hwW, hw] at hdr; cases hdr; exact h6 rfl
    have skip : ok = false → ∃ m', m' < 55 - W ∧ ∃ V : Nat, IntKind.wrap .i64 ((W : Int) + 1) = V ∧ m' = 55 - V ∧ 5 ≤ V ∧ V ≤ 55 ∧ Kp h20.size h20 h32 ∧ ∀ w, drawS rs (nms dl) w = some L → V ≤ widthC rs (nms dl) w := fun hok => next h32 K32 (hbad hok)
    refine sBi (fun hlt => ?_) (fun hge => ?_)
    · have hlt' : i < p.n := by omega
      refine sB_intro (fun hok => ?_) (fun hok => ?_)
      · obtain ⟨j, rfl⟩ : ∃ j, i = j + 1 := ⟨i - 1, by omega⟩
        obtain ⟨S, hS⟩ := get_some (l := L) (i := j + 1) (by omega)
        refine ⟨_, _, _, _, _, _, _, _, og.at0, ?_⟩
        refine (hr.ext E932).nb (i := j + 1) (strR_get hS) fun b o _ hat => ⟨⟨by omega, by omega⟩, _, hat.hd, ?_⟩
        -- the word with one interaction more
        have step : ∀ (x : Ix) (ok' : Bool) (hX hY : Heap) (r : Sl), (ok' = true → properS rs.length (nms dl).length x = true ∧ (nmOf (nms dl) x).length + 4 ≤ W ∧ lineS rs.length W (nms dl) x = S) →
            (ok' = false → ∀ y, properS rs.length (nms dl).length y = true → (nmOf (nms dl) y).length + 4 ≤ W → lineS rs.length W (nms dl) y ≠ S) → Kp h20.size h20 hY → OwnS hY h20.size 43 3 r (ixF wd ++ ixC x) →
            ∃ m', m' < p.n - (j + 1) ∧ ∃ i : Nat, IntKind.wrap .i64 (((j + 1 : Nat) : Int) + 1) = i ∧ m' = p.n - i ∧ 1 ≤ i ∧ i ≤ p.n ∧ Kp h20.size h20 hY ∧ ∃ wd, OwnS hY h20.size 43 3 r (ixF wd) ∧ wd.length + 1 = i ∧
              (ok' = true → ∀ w, drawS rs (nms dl) w = some L → widthC rs (nms dl) w = W → wd = w.take (i - 1)) ∧ (ok' = false → ∀ w, drawS rs (nms dl) w = some L → widthC rs (nms dl) w ≠ W) := fun x ok' hX hY r ht hf KY hor =>
          ⟨_, by omega, j + 2, by rw [w64 (by omega) (by omega)]; omega, rfl, by omega, by omega, KY, wd ++ [x], by rw [ixF_snoc]; exact hor, by simp; omega, fun hok' w hw hwW => by
            obtain ⟨y, hy1, hy2, hy3, hy4, _⟩ := draw_line hw hS
            rw [hwW] at hy3 hy4
            obtain ⟨hx1, hx2, hx3⟩ := ht hok'
            have e1 := hwd hok w hw hwW
            rw [show j + 1 - 1 = j by omega] at e1
            rw [show j + 2 - 1 = j + 1 by omega, take_snoc hy1, ← e1, lineS_inj h1 hW5 hx1 hy2 hx2 hy4 (hx3.trans hy3.symm)], fun hok' w hw hwW => by
            obtain ⟨y, hy1, hy2, hy3, hy4, _⟩ := draw_line hw hS
            rw [hwW] at hy3 hy4
            exact hf hok' y hy2 hy4 hy3⟩
        refine ⟨?_, ?_⟩
        · refine (find30 g rs dl W (by omega) S h32 (hg.ext E932) h1).mono ?_
          rintro v h49 ⟨E49, x, ok', rfl, ht, hf⟩
          refine ⟨_, _, _, _, rfl, ?_⟩
          intro h50 e50
          have E50 : Ext h49 h50 := e50 ▸ Ext.push ..
          have o50 : Own h50 h49.size [.int .i64 0, .int .i64 0, .int .i64 0] 43 := by rw [e50]; exact Own.push
          refine ⟨E50.sm, own_puts (vs := ixC x) o50 rfl fun h51 hb51 o51 => ⟨_, _, _, o51.at0, ?_⟩⟩
          have E3251 : Ext h32 h51 := E49.trans ((E50.kp (Nat.le_refl _)).trans (Kp.but hb51 (Nat.le_refl _))).ext
          refine App_one app28 (hos.ext E3251) (by have := E32.1; have := E3251.1; omega) (news := ixC x) rfl rfl (by omega) (by rw [maxLen]; omega) fun r h57 hrn hr57 K57 _ => ?_
          exact step x ok' h51 h57 r ht hf ((K32.trans (E3251.kp E32.1)).trans K57) hr57
        · intro h59 e59
          have E59 : Ext h32 h59 := e59 ▸ Ext.push ..
          have o59 : Own h59 h32.size [.int .i64 0, .int .i64 0, .int .i64 0] 43 := by rw [e59]; exact Own.push
          refine ⟨E59.sm, ?_⟩
          refine (find30 g rs dl W (by omega) S h59 (hg.ext (E932.trans E59)) h1).mono ?_
          rintro v h65 ⟨E65, x, ok', rfl, ht, hf⟩
          refine ⟨_, _, _, _, rfl, own_puts (vs := ixC x) (o59.ext E65) rfl fun h66 hb66 o66 => ⟨_, _, _, o66.at0, ?_⟩⟩
          have E3266 : Ext h32 h66 := (((E59.trans E65).kp (Nat.le_refl _)).trans (Kp.but hb66 (Nat.le_refl _))).ext
          refine App_one app28 (hos.ext E3266) (by have := E32.1; have := E3266.1; omega) (news := ixC x) rfl rfl (by omega) (by rw [maxLen]; omega) fun r h72 hrn hr72 K72 _ => ?_
          exact step x ok' h66 h72 r ht hf ((K32.trans (E3266.kp E32.1)).trans K72) hr72
      · exact sB_t (by rw [hok]; rfl) (skip hok)
    · refine sB_intro (fun hok => skip (by rw [Bool.not_eq_true'] at hok; exact hok)) (fun hok => ?_)
      exact tail (by rw [Bool.not_eq_false'] at hok; exact hok) (by omega) (fun hX => _) next
  · have := draw_len hw
    have := hmin w hw
    omega
end Go.VC
