/- The law ChartMarks. -/
import Derived.Test.YtcaahhppapnbhaaDoorChP
set_option linter.unusedVariables false
set_option linter.unusedSimpArgs false

namespace Go.VC
open Go.Proofs Go.LexS Go.ChS Go.RowKit
set_option maxRecDepth 100000

theorem name_at {n w f t : Nat} {nm : Nm} (hf : f < n) (ht : t < n) (hne : f ≠ t) (hl : nm.length + 4 ≤ w) : ((lineN n w f t nm).drop (min f t * w + 2)).take nm.length = nm := by
  have hlt : min f t < max f t := by omega
  have m1 := mul_lt (w := w) hlt
  have m2 := Nat.mul_le_mul_right w (show max f t ≤ n - 1 by omega)
  apply List.ext_getElem?
  intro k
  by_cases hk : k < nm.length
  · rw [List.getElem?_take_of_lt hk, List.getElem?_drop, lineN_get (by omega), chS_name hlt hl hk, List.getD_eq_getElem?_getD, List.getElem?_eq_getElem hk]; rfl
  · rw [List.getElem?_eq_none (by rw [List.length_take]; omega), List.getElem?_eq_none (by omega)]
theorem chS_head {w lo hi : Nat} {nm : Nm} (h1 : lo < hi) (hl : nm.length + 4 ≤ w) : chS w lo hi true nm (hi * w - 1) = 62 := by
  have e1 := mul_lt (w := w) h1
  unfold chS
  rw [if_pos ⟨by omega, by omega⟩, if_pos ⟨rfl, by omega⟩]
theorem count_step {L : Nm} {k : Nat} {b : UInt8} (hb : L[k]? = some b) (p : UInt8 → Bool) : (L.take (k + 1)).countP p = (L.take k).countP p + if p b then 1 else 0 := by
  rw [take_snoc hb, List.countP_append, List.countP_singleton]
theorem isHead_iff (b : UInt8) : isHead b = true ↔ b = 60 ∨ b = 62 := by unfold isHead; simp
theorem isBar_iff (b : UInt8) : isBar b = true ↔ b = 124 := by unfold isBar; simp
theorem u8_int {b : UInt8} {k : UInt8} (h : (b.toNat : Int) = (k.toNat : Int)) : b = k := UInt8.toNat_inj.1 (by omega)
theorem u8_int_ne {b : UInt8} {k : UInt8} (h : (b.toNat : Int) ≠ (k.toNat : Int)) : b ≠ k := fun e => h (by rw [e])
theorem law8 (g : Gv) (rs : List Nm) (dl : List Dl) (w : List Ix) (hw : w.length ≤ 9223372036854775807) (p : Sl) (h : Heap) (hg : GR h g rs dl) (hr : Rw h 3 p (ixR w)) :
    Fn Tryd.prog 8 #[g.v, .slice p.a p.n p.c] h fun v h' => v = .bool true ∧ Ext h h' := by
  apply vc8 g.nm g.rs g.ds g.n0 g.n1 g.n2 g.es g.ts p; unfold W8
  have hpn : p.n = w.length := by have := hr.1; rwa [ixR_len] at this
  have hrn := hg.nr
  have hdn := hg.nd
  refine newb (xs := g.cs) fun h9 E9 o9 => ?_
  refine (awake_c h9).mono ?_
  rintro v h12 ⟨rfl, E12⟩
  refine ⟨_, rfl, sB_f rfl ⟨_, _, _, _, _, _, _, _, (o9.ext E12).at0, ?_⟩⟩
  have E912 := E9.trans E12
  refine (few10 g rs dl p h12 (hg.ext E912)).mono ?_
  rintro v h23 ⟨⟨b, rfl, hb⟩, E23⟩
  have E923 := E912.trans E23
  have og := (o9.ext E12).ext E23
  refine ⟨_, rfl, sB_intro (fun _ => ⟨rfl, E923⟩) (fun hf => ⟨_, _, _, _, _, _, _, _, og.at0, ?_⟩)⟩
  have h12' : w.length ≤ 12 := by have := hb (by rw [Bool.not_eq_false'] at hf; exact hf); omega
  refine (draw11 g rs dl w hw p h23 (hg.ext E923) (hr.ext E923)).mono ?_
  rintro v h35 ⟨E35, s, rfl, hos⟩
  have E935 := E923.trans E35
  have og35 := og.ext E35
  refine ⟨_, _, rfl, ?_⟩
  cases hdr : drawS rs (nms dl) w with
  | none =>
    rw [hdr] at hos
    have hs0 : s.n = 0 := by have := hos.len; simp [strC] at this; omega
    exact sB_t rfl ⟨by rw [hs0]; rfl, E935⟩
  | some l =>
    rw [hdr] at hos
    simp only [Option.getD_some] at hos
    obtain ⟨hl1, hl2, hl3, hl4, hl5⟩ := draw_len hdr
    obtain ⟨hn1, hn6, _, _, _, _, hok⟩ := drawable_cond hl3
    have hsn : s.n = l.length := by have := hos.len; simp [strC] at this; omega
    refine sB_f rfl ⟨_, _, _, _, _, _, _, _, og35.at0, ?_⟩
    refine (width14 g rs dl w hw p h35 (hg.ext E935) (hr.ext E935)).mono ?_
    rintro v h46 ⟨rfl, E46⟩
    rw [(some_width hdr).1]
    have E946 := E935.trans E46
    refine ⟨_, rfl, ?_⟩
    have done : ∀ hX, Ext h46 hX → Value.bool ((s.n : Int) == IntKind.wrap .i64 ((p.n : Int) + 1)) = .bool true ∧ Ext h hX := fun hX hE => ⟨by rw [w64 (by omega) (by omega)]; congr 1; rw [beq_iff_eq]; omega, E946.trans hE⟩
    refine up_loop (n := p.n) (fun i h' => Ext h46 h') (Ext.refl _) ?_
    rintro - i h51 hi E51
    refine sB_intro (fun hlt => ?_) (fun _ => done h51 E51)
    have hlt' := lt_t hlt
    rw [w64 (n := (i : Int) + 1) (by omega) (by omega), show (i : Int) + 1 = ((i + 1 : Nat) : Int) by omega]
    refine sBi (fun _ => ?_) (fun hge => by omega)
    have E951 := E946.trans E51
    obtain ⟨S, hS⟩ := get_some (l := l) (i := i + 1) (by omega)
    obtain ⟨y, hy1, hy2, hy3, hy4, _⟩ := draw_line hdr hS
    obtain ⟨d, hd1, hd2, hd3, hd4⟩ := proper_label hy2
    obtain ⟨a1, a2, a3, a4, a5, a6, a7⟩ := proper_cond hy2
    rw [hd2] at hy4
    unfold lineS at hy3
    rw [hd2] at hy3
    refine (hr.ext E951).nb (ixR_get hy1) fun b1 o1 _ hat1 => ⟨⟨by omega, by omega⟩, _, _, _, hat1, ?_⟩
    refine ((hos.ext E46).ext E51).strs.nb (strR_get hS) fun b2 o2 _ hat2 => ⟨⟨by omega, by omega⟩, _, hat2.hd, ?_⟩
    intro h60 e60
    have E60 : Ext h51 h60 := e60 ▸ Ext.push ..
    have o60 : Own h60 h51.size [.int .i64 0, .int .i64 0, .int .i64 0] 43 := by rw [e60]; exact Own.push
    refine ⟨E60.sm, own_puts (vs := ixC y) o60 rfl fun h61 hb61 o61 => ?_⟩
    have hb2lt : b2 < h51.size := by
      have h1 := hat2.hd
      unfold VC.hc at h1
      split at h1
      · rename_i hh; exact (Array.getElem?_eq_some_iff.1 hh).1
      · cases h1
    have E5161 : Ext h51 h61 := ((E60.kp (Nat.le_refl _)).trans (Kp.but hb61 (Nat.le_refl _))).ext
    refine ⟨(Kp.but hb61 (Nat.le_refl h51.size)).sm (by intro x hx; simp at hx; subst hx; exact hb2lt), ?_⟩
    have E961 := E951.trans E5161
    have og61 := ((og35.ext E46).ext E51).ext E5161
    refine ⟨_, og61.hc 2, _, o61.hc 2, (hg.ext E961).d.nb (dl_get hd1) fun b3 o3 _ hat3 => ⟨⟨by omega, by omega⟩, _, hat3.hd, _, o61.hc 0, _, o61.hc 1, _, o61.hc 0, _, o61.hc 1, _, og61.hc 1, ?_⟩⟩
    rw [bs_size, bs_size, hrn]
    obtain ⟨f, hf'⟩ : ∃ f : Nat, y.f = f := ⟨y.f.toNat, by omega⟩
    obtain ⟨t, ht'⟩ : ∃ t : Nat, y.t = t := ⟨y.t.toNat, by omega⟩
    have hfn : f < rs.length := by omega
    have htn : t < rs.length := by omega
    have hne : f ≠ t := by omega
    rw [show y.f.toNat = f by omega, show y.t.toNat = t by omega] at hy3
    rw [hf', ht']
    generalize widthC rs (nms dl) w = W at *
    have hmem : d.nm ∈ nms dl := List.mem_of_getElem? (nms_get hd1)
    obtain ⟨hne0, _, hch⟩ := ok_cond (hok _ hmem)
    rw [imin_nat, imax_nat]
    have hlt2 : min f t < max f t := by omega
    have m1 := mul_lt (w := W) hlt2
    have m2 := Nat.mul_le_mul_right W (show max f t ≤ rs.length - 1 by omega)
    obtain ⟨blo, elo⟩ := wmul (a := min f t) (w := W) (by omega) (by omega)
    obtain ⟨bhi, ehi⟩ := wmul (a := max f t) (w := W) (by omega) (by omega)
    obtain ⟨b4, e4⟩ := wmul (a := rs.length - 1) (w := W) (by omega) (by omega)
    rw [elo, ehi, w64 (n := (rs.length : Int) - 1) (by omega) (by omega), show (rs.length : Int) - 1 = ((rs.length - 1 : Nat) : Int) by omega, e4]
    have hSl : S.length = (rs.length - 1) * W + 1 := by rw [← hy3, lineN_len]
    have hheads := heads_line hfn htn hne hch hy4
    have hbars := bars_line hfn htn hne hch hy4
    have hname := name_at hfn htn hne hy4
    have hget := fun i hi => lineN_get (n := rs.length) (w := W) (f := f) (t := t) (nm := d.nm) (i := i) hi
    have c1 := chS_dir (r := decide (f < t)) (nm := d.nm) hlt2 hy4
    have c2 := chS_head (nm := d.nm) hlt2 hy4
    rw [hy3] at hheads hbars hname
    rw [hy3] at hget
    have hg1 := hget (min f t * W + 1) (by omega)
    have hg2 := hget (max f t * W - 1) (by omega)
    rw [c1] at hg1
    clear hget c1
    generalize (rs.length - 1) * W = M at *
    generalize min f t * W = A at *
    generalize max f t * W = B at *
    rw [w64 (n := (M : Int) + 1) (by omega) (by omega), w64 (n := (A : Int) + 2) (by omega) (by omega), w64 (n := (A : Int) + 2 + (d.nm.length : Int)) (by omega) (by omega), w64 (n := (A : Int) + 1) (by omega) (by omega), w64 (n := (B : Int) - 1) (by omega) (by omega)]
    refine sB_f (by rw [hSl]; simp) ⟨⟨by omega, by omega, by omega⟩, sB_f ?_ ?_⟩
    · rw [show Int.toNat ((A : Int) + 2) = A + 2 by omega, show Int.toNat ((A : Int) + 2 + (d.nm.length : Int)) = A + 2 + d.nm.length by omega, strEq, ext_data, bs_list, bs_list, show A + 2 + d.nm.length - (A + 2) = d.nm.length by omega, hname, decide_eq_true rfl]; rfl
    refine ⟨fun hd' ba x h' m => Up S.length (fun k h' => h' = h61 ∧ hd' = ((S.take k).countP isHead : Nat) ∧ ba = ((S.take k).countP isBar : Nat)) x h' m, Up.zero ⟨rfl, rfl, rfl⟩, ?_⟩
    rintro - hd' ba x h78 m ⟨k, rfl, rfl, hk, rfl, rfl, rfl⟩
    refine sBi (fun hlt3 => ?_) (fun hge3 => ?_)
    · have hk' : k < S.length := by omega
      obtain ⟨c, hc, hby⟩ := byte_get (s := bs S) (i := k) (by rw [bs_size]; exact hk')
      rw [bs_list] at hc
      have hin : (0 : Int) ≤ (k : Int) ∧ (k : Int) < (S.length : Nat) := ⟨by omega, by omega⟩
      rw [show Int.toNat (k : Int) = k from rfl, hby]
      have hc1 : (S.take k).countP isHead ≤ 7000 := by have := List.countP_le_length (p := isHead) (l := S.take k); rw [List.length_take] at this; omega
      have hc2 : (S.take k).countP isBar ≤ 7000 := by have := List.countP_le_length (p := isBar) (l := S.take k); rw [List.length_take] at this; omega
      have s1 := count_step hc isHead
      have s2 := count_step hc isBar
      have k60 : (60 : UInt8).toNat = 60 := rfl
      have k62 : (62 : UInt8).toNat = 62 := rfl
      have k124 : (124 : UInt8).toNat = 124 := rfl
      have i1 := isHead_iff c
      have i2 := isBar_iff c
      have e1 : ∀ q : UInt8, c = q → (c.toNat : Int) = (q.toNat : Int) := fun q e => by rw [e]
      have leaf : ∀ (x y : Int), x = ((S.take (k + 1)).countP isHead : Nat) → y = ((S.take (k + 1)).countP isBar : Nat) → ∃ m', m' < S.length - k ∧ Up S.length (fun k h' => h' = h78 ∧ x = ((S.take k).countP isHead : Nat) ∧ y = ((S.take k).countP isBar : Nat)) (IntKind.wrap .i64 ((k : Int) + 1)) h78 m' := fun x y hx hy => Up.next hk' (by omega) ⟨rfl, hx, hy⟩
      rw [w64 (n := (((S.take k).countP isHead : Nat) : Int) + 1) (by omega) (by omega), w64 (n := (((S.take k).countP isBar : Nat) : Int) + 1) (by omega) (by omega)]
      refine ⟨hin, sBe (fun h60 => ⟨hin, sBe (fun h124 => by omega) (fun h124 => ?_)⟩) (fun h60 => ⟨hin, sBe (fun h62 => ⟨hin, sBe (fun h124 => by omega) (fun h124 => ?_)⟩) (fun h62 => ⟨hin, sBe (fun h124 => ?_) (fun h124 => ?_)⟩)⟩)⟩
      · rw [if_pos (i1.2 (.inl (u8_int (k := 60) (by rw [k60]; exact h60))))] at s1
        rw [if_neg (fun e => h124 (by rw [i2.1 e]; rfl))] at s2
        exact leaf _ _ (by omega) (by omega)
      · rw [if_pos (i1.2 (.inr (u8_int (k := 62) (by rw [k62]; exact h62))))] at s1
        rw [if_neg (fun e => h124 (by rw [i2.1 e]; rfl))] at s2
        exact leaf _ _ (by omega) (by omega)
      · rw [if_neg (fun e => by rcases i1.1 e with e | e <;> (subst e; first | exact h60 rfl | exact h62 rfl))] at s1
        rw [if_pos (i2.2 (u8_int (k := 124) (by rw [k124]; exact h124)))] at s2
        exact leaf _ _ (by omega) (by omega)
      · rw [if_neg (fun e => by rcases i1.1 e with e | e <;> (subst e; first | exact h60 rfl | exact h62 rfl))] at s1
        rw [if_neg (fun e => h124 (by rw [i2.1 e]; rfl))] at s2
        exact leaf _ _ (by omega) (by omega)
    have hk' : S.length ≤ k := by omega
    rw [List.take_of_length_le hk', hheads]
    refine sB_f (by rfl) ⟨_, og61.hc 1, sB_f ?_ ⟨_, o61.hc 1, _, o61.hc 0, ?_⟩⟩
    · rw [hrn, w64 (n := ((max f t : Nat) : Int) - ((min f t : Nat) : Int)) (by omega) (by omega), w64 (n := ((max f t : Nat) : Int) - ((min f t : Nat) : Int) - 1) (by omega) (by omega), w64 (by omega) (by omega)]
      rw [bne_eq_false_iff_eq]; omega
    have nxt : ∃ m', m' < p.n - i ∧ Up p.n (fun i h' => Ext h46 h') (IntKind.wrap .i64 ((i : Int) + 1)) h78 m' := Up.next hlt' (by omega) (E51.trans E5161)
    rw [w64 (n := (i : Int) + 1) (by omega) (by omega), show (i : Int) + 1 = ((i + 1 : Nat) : Int) by omega] at nxt
    rw [show Int.toNat ((B : Int) - 1) = B - 1 by omega, show Int.toNat ((A : Int) + 1) = A + 1 by omega]
    have byt : ∀ (j : Nat) (c : UInt8), S[j]? = some c → byteAt (bs S) j = c.toNat := fun j c hc => by
      unfold byteAt; rw [bs_list, List.getD_eq_getElem?_getD, hc]; rfl
    refine sBi (fun hgt => ?_) (fun hle => ?_)
    · have hft : f < t := by omega
      rw [decide_eq_true hft, c2] at hg2
      refine ⟨⟨by omega, by omega⟩, sB_f (by rw [byt _ _ hg2]; rfl) ⟨_, o61.hc 1, _, o61.hc 0, sBi (fun hlt4 => ?_) (fun _ => ?_)⟩⟩
      · omega
      · exact nxt
    · have hft : ¬ f < t := by omega
      rw [decide_eq_false hft] at hg1
      refine ⟨_, o61.hc 1, _, o61.hc 0, sBi (fun hlt4 => ?_) (fun hlt4 => by omega)⟩
      refine ⟨⟨by omega, by omega⟩, sB_f (by rw [byt _ _ hg1]; rfl) ?_⟩
      exact nxt
end Go.VC
