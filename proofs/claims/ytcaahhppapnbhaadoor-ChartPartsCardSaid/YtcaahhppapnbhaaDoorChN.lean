/- The law ChartInverse. -/
import Derived.Test.YtcaahhppapnbhaaDoorChM
set_option linter.unusedVariables false
set_option linter.unusedSimpArgs false

namespace Go.VC
open Go.Proofs Go.LexS Go.ChS Go.RowKit
set_option maxRecDepth 100000

theorem headF_len {w : Nat} : ∀ (rs : List Nm) (i : Nat) (acc : Nm), acc.length ≤ i * w → (∀ r ∈ rs, r.length ≤ w) → (headF w i acc rs).length ≤ (i + rs.length) * w
  | [], i, acc, h, _ => by rw [headF]; simpa using h
  | r :: rs, i, acc, h, hr => by
    have h1 := hr r (by simp)
    have := headF_len rs (i + 1) (acc ++ List.replicate (i * w - acc.length) 32 ++ r) (by rw [Nat.succ_mul]; simp; omega) fun x hx => hr x (List.mem_cons_of_mem _ hx)
    rw [headF, List.length_cons, show i + (rs.length + 1) = i + 1 + rs.length by omega]
    exact this
theorem lines_short {rs ds : List Nm} {w : List Ix} {l : List Nm} (h : drawS rs ds w = some l) : ∀ s ∈ l, s.length ≤ 1000 := by
  obtain ⟨h1, h2, h3, h4, h5⟩ := draw_len h
  obtain ⟨hall, _, rfl⟩ := drawS_some h
  obtain ⟨_, h6, _⟩ := drawable_cond h3
  intro s hs
  unfold linesS at hs
  rcases List.mem_cons.1 hs with rfl | hs
  · have h7 := headF_len (w := widthC rs ds w) rs 0 [] (by simp) fun r hr => by have := (width_ok (ds := ds) (w := w)).1 r hr; omega
    have h8 := Nat.mul_le_mul h6 h5
    unfold headS
    rw [Nat.zero_add] at h7
    omega
  · obtain ⟨x, _, rfl⟩ := List.mem_map.1 hs
    unfold lineS
    rw [lineN_len]
    have h8 := Nat.mul_le_mul (show rs.length - 1 ≤ 6 by omega) h5
    omega
theorem law5 (g : Gv) (rs : List Nm) (dl : List Dl) (w : List Ix) (hw : w.length ≤ 9223372036854775807) (p : Sl) (h : Heap) (hg : GR h g rs dl) (hr : Rw h 3 p (ixR w)) :
    Fn Tryd.prog 5 #[g.v, .slice p.a p.n p.c] h fun v h' => v = .bool true ∧ Ext h h' := by
  apply vc5 g.nm g.rs g.ds g.n0 g.n1 g.n2 g.es g.ts p; unfold W5
  have hpn : p.n = w.length := by have := hr.1; rwa [ixR_len] at this
  have hrn := hg.nr
  refine newb (xs := g.cs) fun h9 E9 o9 => ?_
  refine (awake_c h9).mono ?_
  rintro v h12 ⟨rfl, E12⟩
  refine ⟨_, rfl, sB_f rfl ⟨_, _, _, _, _, _, _, _, (o9.ext E12).at0, ?_⟩⟩
  have E912 := E9.trans E12
  refine (few10 g rs dl p h12 (hg.ext E912)).mono ?_
  rintro v h23 ⟨⟨b, rfl, hb⟩, E23⟩
  have E923 := E912.trans E23
  have og := (o9.ext E12).ext E23
  refine ⟨_, rfl, sB_intro (fun _ => ⟨rfl, E923⟩) (fun hf => ⟨_, _, _, _, _, _, _, _, og.at0, ?_⟩)⟩
  have h12' : w.length ≤ 12 := by have := hb (by rw [Bool.not_eq_false'] at hf; exact hf); omega
  refine (draw11 g rs dl w hw p h23 (hg.ext E923) (hr.ext E923)).mono ?_
  rintro v h35 ⟨E35, s, rfl, hos⟩
  have E935 := E923.trans E35
  have og35 := og.ext E35
  refine ⟨_, _, rfl, ?_⟩
  cases hdr : drawS rs (nms dl) w with
  | none =>
    rw [hdr] at hos
    have hs0 : s.n = 0 := by have := hos.len; simp [strC] at this; omega
    refine sB_t rfl (sB_t (by rw [hs0]; rfl) ⟨_, _, _, _, _, _, _, _, og35.at0, ?_⟩)
    refine (width14 g rs dl w hw p h35 (hg.ext E935) (hr.ext E935)).mono ?_
    rintro v h46 ⟨rfl, E46⟩
    refine ⟨_, rfl, ?_, E935.trans E46⟩
    unfold drawS at hdr
    unfold widthS
    split at hdr
    · cases hdr
    · rename_i hc
      rw [if_neg (fun h1 => hc ⟨h1, by omega⟩)]; rfl
  | some l =>
    rw [hdr] at hos
    simp only [Option.getD_some] at hos
    obtain ⟨hl1, hl2, hl3, hl4, hl5⟩ := draw_len hdr
    obtain ⟨_, hn6, _⟩ := drawable_cond hl3
    have hsn : s.n = l.length := by have := hos.len; simp [strC] at this; omega
    refine sB_f rfl ⟨_, _, _, _, _, _, _, _, og35.at0, ?_⟩
    refine (read16 g rs dl l (by omega) (lines_short hdr) s hos.cap h35 (hg.ext E935) hos.strs).mono ?_
    rintro v h58 ⟨E58, hA⟩
    rcases hA with ⟨w2, s2, hd2, rfl, hos2⟩ | ⟨hn, _⟩
    rotate_left
    · exact absurd hdr (hn w)
    obtain rfl := drawS_inj hd2 hdr
    have E958 := E935.trans E58
    refine ⟨_, _, rfl, sB_f rfl ?_⟩
    refine (same18 w2 w2 hw s2 p h58 hos2.ixs (hr.ext E958)).mono ?_
    rintro v h61 ⟨rfl, rfl⟩
    refine ⟨_, rfl, sB_f (by rw [decide_eq_true rfl]; rfl) ?_⟩
    have og61 := og35.ext E58
    refine sB_f (by rw [w64 (by omega) (by omega)]; simp; omega) ?_
    have hall := (drawS_some hdr).1
    have hws : widthS rs (nms dl) w2 = widthC rs (nms dl) w2 := by unfold widthS; rw [if_pos hall]
    refine ⟨fun x h' m => ∃ i : Nat, x = i ∧ m = s.n - i ∧ 1 ≤ i ∧ i ≤ s.n ∧ Ext h61 h', ⟨_, 1, rfl, rfl, by omega, by omega, Ext.refl _⟩, ?_⟩
    rintro - x h66 m ⟨i, rfl, rfl, hi1, hi2, E66⟩
    refine sBi (fun hlt => ?_) (fun _ => ⟨rfl, E958.trans E66⟩)
    have hlt' : i < s.n := by omega
    obtain ⟨j, rfl⟩ : ∃ j, i = j + 1 := ⟨i - 1, by omega⟩
    obtain ⟨c, hc⟩ := get_some (l := l) (i := j + 1) (by omega)
    refine ((hos.ext E58).ext E66).strs.nb (strR_get hc) fun b o _ hat => ⟨⟨by omega, by omega⟩, _, hat.hd, _, (og61.ext E66).hc 1, _, _, _, _, _, _, _, _, (og61.ext E66).at0, ?_⟩
    have E966 := E958.trans E66
    refine (width14 g rs dl w2 hw p h66 (hg.ext E966) (hr.ext E966)).mono ?_
    rintro v h81 ⟨rfl, E81⟩
    refine ⟨_, rfl, E81.sm, ?_⟩
    obtain ⟨y, hy1, hy2, hy3, hy4, _⟩ := draw_line hdr hc
    have hcl : c.length = (rs.length - 1) * widthC rs (nms dl) w2 + 1 := by rw [← hy3]; unfold lineS; rw [lineN_len]
    obtain ⟨b1, e1⟩ := wmul (a := rs.length - 1) (w := widthC rs (nms dl) w2) (by omega) (by omega)
    have hr1 := (drawable_cond hl3).1
    rw [bs_size, hws, hrn, w64 (n := (rs.length : Int) - 1) (by omega) (by omega), show (rs.length : Int) - 1 = ((rs.length - 1 : Nat) : Int) by omega, e1, w64 (n := (((rs.length - 1) * widthC rs (nms dl) w2 : Nat) : Int) + 1) (by omega) (by omega), hcl]
    refine sB_f (by simp) ⟨_, ?_, j + 2, ?_, rfl, by omega, by omega, E66.trans E81⟩
    · omega
    · rw [w64 (by omega) (by omega)]; omega
end Go.VC
