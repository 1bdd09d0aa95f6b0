/- Contracts: the line of an interaction, chart's and the reference's. -/
import Derived.Test.YtcaahhppapnbhaaDoorChE
set_option linter.unusedVariables false
set_option linter.unusedSimpArgs false

namespace Go.VC
open Go.Proofs Go.LexS Go.ChS
set_option maxRecDepth 100000

theorem wmul {a w : Nat} (ha : a ≤ 6) (hw : w ≤ 1000) : a * w ≤ 6000 ∧ IntKind.wrap .i64 ((a : Int) * (w : Int)) = ((a * w : Nat) : Int) := by
  have h := Nat.mul_le_mul ha hw
  have e : ((a * w : Nat) : Int) = (a : Int) * (w : Int) := by simp
  refine ⟨by omega, ?_⟩
  rw [← e, w64 (by omega) (by omega)]
theorem subA_ne {b k N : Nat} (h : k ≠ N) : subA (some ⟨b, 0, none⟩) k N 1 = some ⟨b, k, none⟩ := by
  unfold subA; rw [if_neg (by omega), Option.map_some, add_n, Nat.mul_one, Nat.zero_add]
theorem But.own' {b c : Nat} {h h' : Heap} (hb : But b h h') {xs : List Value} {e : TypeId} (hc : c ≠ b) (ho : Own h c xs e) : Own h' c xs e := hb.own ho hc
theorem line21 (g : Gv) (rs : List Nm) (dl : List Dl) (f t l w : Nat) (d : Dl) (h : Heap) (hg : GR h g rs dl) (hd : dl[l]? = some d) (hf : f < rs.length) (ht : t < rs.length) (hne : f ≠ t) (h6 : rs.length ≤ 6)
    (hlen : d.nm.length + 4 ≤ w) (hw : w ≤ 1000) :
    Fn Tryd.prog 21 #[g.v, .int .i64 w, .agg ⟨ixC ⟨f, t, l⟩⟩] h fun v h' => v = .string (bs (lineN rs.length w f t d.nm)) ∧ Ext h h' := by
  apply vc21 g.nm g.rs g.ds g.n0 g.n1 g.n2 g.es g.ts w f t l; unfold W21
  refine newb (xs := g.cs) fun h12 E12 o12 => newb (xs := [.int .i64 f, .int .i64 t, .int .i64 l]) fun h13 E13 o13 => newb (xs := [.int .u8 32]) fun h14 E14 o14 => ?_
  have hrn := hg.nr
  have hdn := hg.nd
  have og := o12.ext (E13.trans E14)
  have ox := o13.ext E14
  have hltx : h12.size < h14.size := ox.lt
  have hltg : h.size < h14.size := og.lt
  refine ⟨_, og.hc 1, ?_⟩
  rw [hrn]
  obtain ⟨b1, e1⟩ := wmul (a := rs.length - 1) (w := w) (by omega) hw
  generalize hN : (rs.length - 1) * w + 1 = N at *
  have eN : IntKind.wrap .i64 (IntKind.wrap .i64 (IntKind.wrap .i64 ((rs.length : Int) - 1) * (w : Int)) + 1) = (N : Int) := by
    rw [w64 (n := (rs.length : Int) - 1) (by omega) (by omega), show (rs.length : Int) - 1 = ((rs.length - 1 : Nat) : Int) by omega, e1, w64 (by omega) (by omega)]; omega
  rw [eN]
  refine (repeat38 32 N (by omega) (by omega) h13.size h14 (o14.hc 0)).mono ?_
  rintro v h18 ⟨b, rfl, hb, E18, B18⟩
  refine ⟨⟨some ⟨b, 0, none⟩, N, N⟩, rfl, _, (og.ext E18).hc 1, ?_⟩
  dsimp only
  have hEE : Ext h h18 := ((E12.trans E13).trans E14).trans E18
  have hle : (rs.length - 1) * w + w = rs.length * w := by
    have := Nat.succ_mul (rs.length - 1) w
    rw [show (rs.length - 1).succ = rs.length by omega] at this; exact this.symm
  refine up_loop (n := g.rs.n) (fun k h' => But b h18 h' ∧ Bt h' b N (fun i => if i % w = 0 ∧ i < k * w then 124 else 32)) ⟨But.refl _ _, B18.congr fun i hi => by rw [if_neg (by omega)]⟩ ?_
  rintro - k h24 hk ⟨but24, B24⟩
  refine sB_intro (fun hlt => ?_) (fun hge => ?_)
  · have hlt' := lt_t hlt
    rw [NB_some]
    obtain ⟨b2, e2⟩ := wmul (a := k) (w := w) (by omega) hw
    have b3 := Nat.mul_le_mul_right w (show k ≤ rs.length - 1 by omega)
    rw [e2, show Int.toNat ((k * w : Nat) : Int) = k * w from rfl]
    refine ⟨⟨by omega, by omega⟩, B24.put (by omega) 124 fun h27 hb27 B27 => Up.next hlt' (by omega) ⟨but24.trans hb27, B27.congr fun i hi => ?_⟩⟩
    have hs := Nat.succ_mul k w
    by_cases h1 : i = k * w
    · rw [if_pos h1, if_pos ⟨by rw [h1, Nat.mul_mod_left], by rw [hs]; omega⟩]
    · rw [if_neg h1]
      by_cases h2 : i % w = 0
      · by_cases h3 : i < k * w
        · rw [if_pos ⟨h2, h3⟩, if_pos ⟨h2, by rw [hs]; omega⟩]
        · rw [if_neg (fun hh => h3 hh.2), if_neg]
          rintro ⟨_, h4⟩
          have h5 := Nat.div_add_mod i w
          rw [h2, Nat.add_zero] at h5
          have h6 : i / w < k + 1 := Nat.lt_of_mul_lt_mul_left (a := w) (by rw [h5, Nat.mul_comm w]; exact h4)
          have h7 : k * w ≤ i := by omega
          have h8 : k ≤ i / w := (Nat.le_div_iff_mul_le (by omega)).2 h7
          have : i / w = k := by omega
          rw [this, Nat.mul_comm] at h5; omega
      · rw [if_neg (fun hh => h2 hh.1), if_neg (fun hh => h2 hh.1)]
  have hge' := lt_f hge
  obtain rfl : k = rs.length := by omega
  have ogk := but24.own' (by omega) (og.ext E18)
  have oxk := but24.own' (by omega) (ox.ext E18)
  have B1 : Bt h24 b N (fun i => if i % w = 0 then 124 else 32) := B24.congr fun i hi => by
    by_cases h2 : i % w = 0
    · rw [if_pos ⟨h2, by omega⟩, if_pos h2]
    · rw [if_neg (fun hh => h2 hh.1), if_neg h2]
  clear B24 hk hge hge'
  refine ⟨_, oxk.hc 0, _, oxk.hc 1, _, oxk.hc 0, _, oxk.hc 1, ?_⟩
  rw [imin_nat, imax_nat]
  have hlt : min f t < max f t := by omega
  have m1 := mul_lt (w := w) hlt
  have m2 := Nat.mul_le_mul_right w (show max f t ≤ rs.length - 1 by omega)
  obtain ⟨blo, elo⟩ := wmul (a := min f t) (w := w) (by omega) hw
  obtain ⟨bhi, ehi⟩ := wmul (a := max f t) (w := w) (by omega) hw
  rw [elo, ehi]
  have hline : lineN rs.length w f t d.nm = (List.range N).map (chS w (min f t) (max f t) (decide (f < t)) d.nm) := by unfold lineN; rw [hN]
  have hchs : ∀ i, chS w (min f t) (max f t) (decide (f < t)) d.nm i = if min f t * w < i ∧ i < max f t * w then
      (if decide (f < t) = true ∧ i + 1 = max f t * w then 62 else if decide (f < t) = false ∧ i = min f t * w + 1 then 60 else if min f t * w + 2 ≤ i ∧ i < min f t * w + 2 + d.nm.length then d.nm.getD (i - min f t * w - 2) 0 else 45)
      else if i % w = 0 then 124 else 32 := fun i => rfl
  rw [hline, List.map_congr_left (fun i _ => hchs i)]
  clear hline hchs
  generalize min f t * w = A at *
  generalize max f t * w = B at *
  rw [w64 (n := (A : Int) + 1) (by omega) (by omega), w64 (n := (A : Int) + 2) (by omega) (by omega), w64 (n := (B : Int) - 1) (by omega) (by omega)]
  rw [show (A : Int) + 1 = ((A + 1 : Nat) : Int) by omega, show (A : Int) + 2 = ((A + 2 : Nat) : Int) by omega, show (B : Int) - 1 = ((B - 1 : Nat) : Int) by omega]
  refine ⟨fun x h' m => ∃ q : Nat, x = q ∧ m = B - q ∧ A + 1 ≤ q ∧ q ≤ B ∧ But b h18 h' ∧ Bt h' b N (fun i => if A < i ∧ i < q then 45 else if i % w = 0 then 124 else 32), ⟨_, A + 1, rfl, rfl, by omega, by omega, but24, B1.congr fun i hi => (if_neg (by omega)).symm⟩, ?_⟩
  rintro - x h37 m ⟨q, rfl, rfl, hq1, hq2, but37, B37⟩
  refine sB_intro (fun hlt2 => ?_) (fun hge2 => ?_)
  · have hlt2' := lt_t hlt2
    rw [NB_some, show Int.toNat (q : Int) = q from rfl]
    refine ⟨⟨by omega, by omega⟩, B37.put (by omega) 45 fun h40 hb40 B40 => ⟨_, ?_, q + 1, ?_, rfl, by omega, by omega, but37.trans hb40, B40.congr fun i hi => ?_⟩⟩
    · omega
    · rw [w64 (by omega) (by omega)]; omega
    · by_cases h1 : i = q
      · rw [if_pos h1, if_pos (by omega)]
      · rw [if_neg h1]
        by_cases h2 : A < i ∧ i < q
        · rw [if_pos h2, if_pos (by omega)]
        · rw [if_neg h2]; exact (if_neg (by omega)).symm
  have hge2' := lt_f hge2
  obtain rfl : q = B := by omega
  have og2 := but37.own' (by omega) (og.ext E18)
  have ox2 := but37.own' (by omega) (ox.ext E18)
  have hg2 : GR h37 g rs dl := hg.ext (Kp.ext ((hEE.kp (Nat.le_refl _)).trans (Kp.but but37 (by omega))))
  refine ⟨⟨by omega, by omega, by omega⟩, _, og2.hc 2, _, ox2.hc 2, ?_⟩
  have hl : l < dl.length := (List.getElem?_eq_some_iff.1 hd).1
  refine hg2.d.nb (dl_get hd) fun b5 o5 _ hat => ⟨⟨by omega, by omega⟩, _, hat.hd, ?_⟩
  rw [show Int.toNat ((A + 2 : Nat) : Int) = A + 2 from rfl, subA_ne (by omega), show Int.toNat (N : Int) = N from rfl]
  refine B37.copy (by omega) fun h48 hb48 B48 => ?_
  have but48 := but37.trans hb48
  have ox3 := but48.own' (by omega) (ox.ext E18)
  refine ⟨_, ox3.hc 1, _, ox3.hc 0, sB_intro (fun hgt => ?_) (fun hle2 => ?_)⟩
  · have hft : f < t := by have := of_decide_eq_true hgt; omega
    rw [NB_some, show Int.toNat ((q - 1 : Nat) : Int) = q - 1 from rfl]
    refine ⟨⟨by omega, by omega⟩, B48.put (by omega) 62 fun h53 hb53 B53 => B53.str.mono ?_⟩
    rintro v h56 ⟨rfl, rfl⟩
    refine ⟨_, rfl, ?_, Kp.ext ((hEE.kp (Nat.le_refl _)).trans (Kp.but (but48.trans hb53) (by omega)))⟩
    congr 2
    refine List.map_congr_left fun i hi => ?_
    have hi' := List.mem_range.1 hi
    rw [decide_eq_true hft]
    simp only [Bool.true_eq_false, false_and, if_false, true_and]
    repeat' split
    all_goals first | rfl | omega | (congr 1; omega)
  · have hft : ¬ f < t := by have := of_decide_eq_false hle2; omega
    rw [NB_some, show Int.toNat ((A + 1 : Nat) : Int) = A + 1 from rfl]
    refine ⟨⟨by omega, by omega⟩, B48.put (by omega) 60 fun h53 hb53 B53 => B53.str.mono ?_⟩
    rintro v h56 ⟨rfl, rfl⟩
    refine ⟨_, rfl, ?_, Kp.ext ((hEE.kp (Nat.le_refl _)).trans (Kp.but (but48.trans hb53) (by omega)))⟩
    congr 2
    refine List.map_congr_left fun i hi => ?_
    have hi' := List.mem_range.1 hi
    rw [decide_eq_false hft]
    simp only [Bool.false_eq_true, false_and, if_false, true_and]
    repeat' split
    all_goals first | rfl | omega | (congr 1; omega)
end Go.VC
