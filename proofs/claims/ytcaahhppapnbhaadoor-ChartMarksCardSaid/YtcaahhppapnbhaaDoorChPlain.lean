/- Plain laws of charts, on lists of bytes: two words behind each other, two interactions exchanged, the marks of a line. No program in sight. -/
import Derived.Test.YtcaahhppapnbhaaDoorChSpec
set_option linter.unusedVariables false
set_option linter.unusedSimpArgs false

namespace Go.ChS
open Go.LexS
theorem maxS_zero (n : Nat) (l : List Nm) : maxS n l = max n (maxS 0 l) := by
  have := maxS_max l n 0
  rw [Nat.max_zero] at this
  have h : maxS n [] = n := rfl
  induction l generalizing n with
  | nil => simp [maxS]
  | cons a l ih =>
    have e1 : maxS n (a :: l) = maxS (max n a.length) l := rfl
    have e2 : maxS 0 (a :: l) = maxS (max 0 a.length) l := rfl
    rw [e1, e2, ih _ (by rw [← maxS_max, Nat.max_zero]) rfl, ih (max 0 a.length) (by rw [← maxS_max, Nat.max_zero]) rfl]
    omega
theorem width_app {rs ds : List Nm} {a b : List Ix} (h : widthC rs ds a = widthC rs ds b) : widthC rs ds (a ++ b) = widthC rs ds a := by
  unfold widthC at *
  rw [List.map_append, maxS_app]
  rw [maxS_zero (maxS 0 rs)] at h
  rw [maxS_zero (maxS 0 rs) (List.map (nmOf ds) b)] at h
  rw [maxS_zero (maxS (maxS 0 rs) _), maxS_zero (maxS 0 rs)]
  omega
theorem lines_app {rs ds : List Nm} {a b : List Ix} (h : widthC rs ds a = widthC rs ds b) : linesS rs ds (a ++ b) = linesS rs ds a ++ (linesS rs ds b).tail := by
  unfold linesS
  rw [width_app h, ← h, List.map_append]
  simp
theorem all_app {rs ds : List Nm} {a b : List Ix} (ha : allS rs ds a = true) (hb : allS rs ds b = true) : allS rs ds (a ++ b) = true := by
  unfold allS at *
  rw [Bool.and_eq_true] at *
  rw [List.all_append, ha.1, ha.2, hb.2]; exact ⟨rfl, rfl⟩

theorem maxS_congr {l m : List Nm} (h : ∀ s, s ∈ l ↔ s ∈ m) (n : Nat) : maxS n l = maxS n m := by
  apply Nat.le_antisymm
  · exact maxS_le l n (maxS_ge m n).1 fun s hs => (maxS_ge m n).2 s ((h s).1 hs)
  · exact maxS_le m n (maxS_ge l n).1 fun s hs => (maxS_ge l n).2 s ((h s).2 hs)
theorem mem_swap {α : Type} {w : List α} {i k : Nat} {a b : α} (hi : w[i]? = some a) (hk : w[k]? = some b) (x : α) : x ∈ (w.set i b).set k a ↔ x ∈ w := by
  have li := (List.getElem?_eq_some_iff.1 hi).1
  have lk := (List.getElem?_eq_some_iff.1 hk).1
  rw [List.mem_iff_getElem?, List.mem_iff_getElem?]
  constructor
  · rintro ⟨j, hj⟩
    rw [List.getElem?_set, List.length_set] at hj
    split at hj
    · cases hj; exact ⟨i, hi⟩
    · rw [List.getElem?_set] at hj
      split at hj
      · cases hj; exact ⟨k, hk⟩
      · exact ⟨j, hj⟩
  · rintro ⟨j, hj⟩
    by_cases h1 : j = i
    · subst h1; rw [hi] at hj; cases hj
      exact ⟨k, by rw [List.getElem?_set, if_pos rfl, List.length_set, if_pos lk]⟩
    · by_cases h2 : j = k
      · subst h2; rw [hk] at hj; cases hj
        refine ⟨i, ?_⟩
        rw [List.getElem?_set, if_neg (fun e => h1 e), List.getElem?_set, if_pos rfl, if_pos li]
      · refine ⟨j, ?_⟩
        rw [List.getElem?_set, if_neg (fun e => h2 e.symm), List.getElem?_set, if_neg (fun e => h1 e.symm)]; exact hj
theorem all_swap {rs ds : List Nm} {w : List Ix} {i k : Nat} {a b : Ix} (hi : w[i]? = some a) (hk : w[k]? = some b) : allS rs ds ((w.set i b).set k a) = allS rs ds w := by
  unfold allS
  congr 1
  rw [Bool.eq_iff_iff, List.all_eq_true, List.all_eq_true]
  exact forall_congr' fun x => by rw [mem_swap hi hk]
theorem width_swap {rs ds : List Nm} {w : List Ix} {i k : Nat} {a b : Ix} (hi : w[i]? = some a) (hk : w[k]? = some b) : widthC rs ds ((w.set i b).set k a) = widthC rs ds w := by
  unfold widthC
  rw [maxS_congr (m := w.map (nmOf ds)) (fun s => by
    rw [List.mem_map, List.mem_map]
    exact exists_congr fun x => by rw [mem_swap hi hk])]
theorem lines_swap {rs ds : List Nm} {w : List Ix} {i k : Nat} {a b : Ix} (hi : w[i]? = some a) (hk : w[k]? = some b) :
    linesS rs ds ((w.set i b).set k a) = ((linesS rs ds w).set (i + 1) (lineS rs.length (widthC rs ds w) ds b)).set (k + 1) (lineS rs.length (widthC rs ds w) ds a) := by
  unfold linesS
  rw [width_swap hi hk, List.map_set, List.map_set]
  simp

/-! ### the marks of a line -/
theorem range_blocks (w : Nat) : ∀ n : Nat, List.range (n * w + 1) = 0 :: (List.range n).flatMap fun j => (List.range w).map fun r => j * w + 1 + r
  | 0 => by simp
  | n + 1 => by
    have h := range_blocks w n
    rw [Nat.succ_mul, show n * w + w + 1 = (n * w + 1) + w by omega, List.range_add, h, List.range_succ, List.flatMap_append]
    simp
theorem countP_one {p : Nat → Bool} {k : Nat} : ∀ n : Nat, k < n → p k = true → (∀ i, i < n → p i = true → i = k) → (List.range n).countP p = 1
  | 0, h, _, _ => by omega
  | n + 1, h, hk, hu => by
    rw [List.range_succ, List.countP_append, List.countP_singleton]
    by_cases e : n = k
    · subst e
      rw [if_pos hk, List.countP_eq_zero.2 (fun i hi hp => by
        have := List.mem_range.1 hi
        have := hu i (by omega) hp
        omega)]
    · rw [countP_one n (by omega) hk (fun i hi hp => hu i (by omega) hp), if_neg (fun hp => e (hu n (by omega) hp))]
theorem countP_none {p : Nat → Bool} {n : Nat} (h : ∀ i, i < n → p i = false) : (List.range n).countP p = 0 :=
  List.countP_eq_zero.2 fun i hi hp => by rw [h i (List.mem_range.1 hi)] at hp; cases hp
def isHead (c : UInt8) : Bool := c == 60 || c == 62
def isBar (c : UInt8) : Bool := c == 124
theorem heads_line {n w f t : Nat} {nm : Nm} (hf : f < n) (ht : t < n) (hne : f ≠ t) (hn : ∀ c ∈ nm, chl c = true) (hl : nm.length + 4 ≤ w) : (lineN n w f t nm).countP isHead = 1 := by
  have hlt : min f t < max f t := by omega
  have m1 := mul_lt (w := w) hlt
  have m2 := Nat.mul_le_mul_right w (show max f t ≤ n - 1 by omega)
  have key : ∀ i, isHead (chS w (min f t) (max f t) (decide (f < t)) nm i) = true ↔ i = (if f < t then max f t * w - 1 else min f t * w + 1) := fun i => by
    unfold chS
    split
    · rename_i hc
      split
      · rename_i h; rw [if_pos (of_decide_eq_true h.1)]; refine iff_of_true (by decide) (by omega)
      · rename_i h
        split
        · rename_i h3; rw [if_neg (of_decide_eq_false h3.1)]; exact iff_of_true (by decide) h3.2
        · rename_i h3
          refine iff_of_false ?_ ?_
          · split
            · rename_i h4
              have := chl_marks (hn (nm.getD (i - min f t * w - 2) 0) (by
                rw [List.getD_eq_getElem?_getD, List.getElem?_eq_getElem (by omega)]; exact List.getElem_mem _))
              intro hh
              unfold isHead at hh
              rw [Bool.or_eq_true, beq_iff_eq, beq_iff_eq] at hh
              rcases hh with hh | hh
              · exact this.2.1 hh
              · exact this.1 hh
            · decide
          · intro e
            split at e
            · rename_i h5; exact h ⟨decide_eq_true h5, by omega⟩
            · rename_i h5; exact h3 ⟨decide_eq_false h5, e⟩
    · rename_i hc
      refine iff_of_false (by split <;> decide) fun e => hc ?_
      split at e <;> omega
  unfold lineN
  rw [List.countP_map]
  refine countP_one (k := if f < t then max f t * w - 1 else min f t * w + 1) _ (by split <;> omega) ((key _).2 rfl) fun i _ hi => (key i).1 hi
theorem bars_line {n w f t : Nat} {nm : Nm} (hf : f < n) (ht : t < n) (hne : f ≠ t) (hn : ∀ c ∈ nm, chl c = true) (hl : nm.length + 4 ≤ w) : (lineN n w f t nm).countP isBar + (max f t - min f t - 1) = n := by
  have hlt : min f t < max f t := by omega
  have key : ∀ i, isBar (chS w (min f t) (max f t) (decide (f < t)) nm i) = true ↔ i % w = 0 ∧ ¬ (min f t * w < i ∧ i < max f t * w) := fun i => by
    have h := chS_in (w := w) (lo := min f t) (hi := max f t) (r := decide (f < t)) hn i
    unfold isBar
    rw [beq_iff_eq]
    constructor
    · intro e
      have hc := h.1 (.inl e)
      refine ⟨?_, hc⟩
      unfold chS at e
      rw [if_neg hc] at e
      split at e
      · assumption
      · cases e
    · rintro ⟨e, hc⟩
      unfold chS
      rw [if_neg hc, if_pos e]
  generalize hlo : min f t = lo at *
  generalize hhi : max f t = hi at *
  have hhn : hi < n := by omega
  have hw : 0 < w := by omega
  -- the columns one by one
  have blk : ∀ j, ((List.range w).map fun r => j * w + 1 + r).countP (fun i => isBar (chS w lo hi (decide (f < t)) nm i)) = if lo < j + 1 ∧ j + 1 < hi then 0 else 1 := fun j => by
    rw [List.countP_map]
    have hmod : ∀ r, r < w → ((j * w + 1 + r) % w = 0 ↔ r = w - 1) := fun r hr => by
      rw [show j * w + 1 + r = (1 + r) + w * j by rw [Nat.mul_comm]; omega, Nat.add_mul_mod_self_left]
      constructor
      · intro e
        by_cases h : 1 + r < w
        · rw [Nat.mod_eq_of_lt h] at e; omega
        · omega
      · rintro rfl; rw [show 1 + (w - 1) = w by omega, Nat.mod_self]
    have e3 : j * w + 1 + (w - 1) = (j + 1) * w := by rw [Nat.succ_mul]; omega
    split
    · rename_i hc
      refine countP_none fun r hr => ?_
      rw [← Bool.not_eq_true]
      intro hp
      obtain ⟨h1, h2⟩ := (key _).1 hp
      rw [(hmod r hr).1 h1] at h2
      have h2 : ¬(lo * w < j * w + 1 + (w - 1) ∧ j * w + 1 + (w - 1) < hi * w) := h2
      rw [e3] at h2
      have := mul_lt (w := w) hc.1
      have := mul_lt (w := w) hc.2
      exact h2 ⟨by omega, by omega⟩
    · rename_i hc
      refine countP_one (k := w - 1) _ (by omega) ?_ fun r hr hp => (hmod r hr).1 ((key _).1 hp).1
      refine (key _).2 ⟨(hmod _ (by omega)).2 rfl, ?_⟩
      show ¬(lo * w < j * w + 1 + (w - 1) ∧ j * w + 1 + (w - 1) < hi * w)
      rw [e3]
      rintro ⟨h1, h2⟩
      exact hc ⟨Nat.lt_of_mul_lt_mul_right h1, Nat.lt_of_mul_lt_mul_right h2⟩
  unfold lineN
  rw [hlo, hhi, List.countP_map]
  have h0 : isBar (chS w lo hi (decide (f < t)) nm 0) = true := (key 0).2 ⟨Nat.zero_mod _, by omega⟩
  rw [range_blocks, List.countP_cons]
  have sum : ∀ m, ((List.range m).flatMap fun j => (List.range w).map fun r => j * w + 1 + r).countP (isBar ∘ chS w lo hi (decide (f < t)) nm) + (min m (hi - 1) - min m lo) = m := fun m => by
    induction m with
    | zero => simp
    | succ m ih =>
      rw [List.range_succ, List.flatMap_append, List.countP_append]
      have hb := blk m
      simp only [List.flatMap_singleton]
      have hb' : List.countP (isBar ∘ chS w lo hi (decide (f < t)) nm) (List.map (fun r => m * w + 1 + r) (List.range w)) = if lo < m + 1 ∧ m + 1 < hi then 0 else 1 := hb
      rw [hb']
      split <;> omega
  have hs := sum (n - 1)
  have h0' : (isBar ∘ chS w lo hi (decide (f < t)) nm) 0 = true := h0
  rw [if_pos h0']
  omega
end Go.ChS
