/- Sequence charts on lists of bytes: what is drawn, and that a chart's word is unique. No program in sight. -/
import Derived.Test.YtcaahhppapnbhaaDoorLexSpec
set_option linter.unusedVariables false
set_option linter.unusedSimpArgs false

namespace Go.ChS
open Go.LexS
abbrev Nm := List UInt8
def isName (l : Nm) : Bool := match l with
  | [] => false
  | c :: _ => decide (l.length ≤ 16) && lt c && l.all inn
/-- a byte of the name of a message type -/
def chl (c : UInt8) : Bool := isLetter c.toNat || isDigit c.toNat || c == 46 || c == 95
def okLabel (d : Nm) : Bool := !d.isEmpty && decide (d.length ≤ 50) && d.all chl
/-- an interaction -/
structure Ix where
  f : Int
  t : Int
  l : Int
deriving DecidableEq
def drawableS (rs ds : List Nm) : Bool :=
  decide (1 ≤ rs.length) && decide (rs.length ≤ 6) && decide (ds.length ≤ 40) && decide rs.Nodup && decide ds.Nodup && rs.all isName && ds.all okLabel
def properS (n m : Nat) (x : Ix) : Bool :=
  decide (0 ≤ x.f) && decide (x.f < n) && decide (0 ≤ x.t) && decide (x.t < n) && decide (x.f ≠ x.t) && decide (0 ≤ x.l) && decide (x.l < m)
def allS (rs ds : List Nm) (w : List Ix) : Bool := drawableS rs ds && w.all (properS rs.length ds.length)
def nmOf (ds : List Nm) (x : Ix) : Nm := ds.getD x.l.toNat []
def maxS (n : Nat) (l : List Nm) : Nat := l.foldl (fun n s => max n s.length) n
def widthC (rs ds : List Nm) (w : List Ix) : Nat := maxS (maxS 0 rs) (w.map (nmOf ds)) + 4
def widthS (rs ds : List Nm) (w : List Ix) : Nat := if allS rs ds w then widthC rs ds w else 0
def headF (width : Nat) : Nat → Nm → List Nm → Nm
  | _, acc, [] => acc
  | i, acc, r :: rs => headF width (i + 1) (acc ++ List.replicate (i * width - acc.length) 32 ++ r) rs
def headS (width : Nat) (rs : List Nm) : Nm := headF width 0 [] rs
/-- the byte i of a line -/
def chS (w lo hi : Nat) (r : Bool) (nm : Nm) (i : Nat) : UInt8 :=
  if lo * w < i ∧ i < hi * w then
    if r = true ∧ i + 1 = hi * w then 62
    else if r = false ∧ i = lo * w + 1 then 60
    else if lo * w + 2 ≤ i ∧ i < lo * w + 2 + nm.length then nm.getD (i - lo * w - 2) 0
    else 45
  else if i % w = 0 then 124 else 32
def lineN (n w f t : Nat) (nm : Nm) : Nm := (List.range ((n - 1) * w + 1)).map (chS w (min f t) (max f t) (decide (f < t)) nm)
def lineS (n w : Nat) (ds : List Nm) (x : Ix) : Nm := lineN n w x.f.toNat x.t.toNat (nmOf ds x)
def linesS (rs ds : List Nm) (w : List Ix) : List Nm := headS (widthC rs ds w) rs :: w.map (lineS rs.length (widthC rs ds w) ds)
def drawS (rs ds : List Nm) (w : List Ix) : Option (List Nm) := if allS rs ds w = true ∧ w.length ≤ 1000 then some (linesS rs ds w) else none

theorem drawS_some {rs ds : List Nm} {w : List Ix} {l : List Nm} (h : drawS rs ds w = some l) : allS rs ds w = true ∧ w.length ≤ 1000 ∧ l = linesS rs ds w := by
  unfold drawS at h
  split at h
  · rename_i hc; cases h; exact ⟨hc.1, hc.2, rfl⟩
  · cases h
theorem maxS_ge : ∀ (l : List Nm) (n : Nat), n ≤ maxS n l ∧ ∀ s ∈ l, s.length ≤ maxS n l
  | [], n => ⟨Nat.le_refl _, fun s hs => by cases hs⟩
  | a :: l, n => by
    have h := maxS_ge l (max n a.length)
    refine ⟨by have := h.1; unfold maxS at *; simp only [List.foldl_cons]; omega, fun s hs => ?_⟩
    rcases List.mem_cons.1 hs with e | hs
    · subst e; have := h.1; unfold maxS at *; simp only [List.foldl_cons]; omega
    · exact h.2 s hs
theorem maxS_le {B : Nat} : ∀ (l : List Nm) (n : Nat), n ≤ B → (∀ s ∈ l, s.length ≤ B) → maxS n l ≤ B
  | [], n, h, _ => h
  | a :: l, n, h, hl => by
    unfold maxS; rw [List.foldl_cons]
    exact maxS_le l _ (by have := hl a (List.mem_cons_self ..); omega) fun s hs => hl s (List.mem_cons_of_mem _ hs)
theorem maxS_app (l m : List Nm) (n : Nat) : maxS n (l ++ m) = maxS (maxS n l) m := List.foldl_append ..
theorem maxS_max : ∀ (l : List Nm) (n k : Nat), maxS (max n k) l = max (maxS n l) (maxS k l)
  | [], n, k => rfl
  | a :: l, n, k => by
    have := maxS_max l (max n a.length) (max k a.length)
    unfold maxS at *; rw [List.foldl_cons, List.foldl_cons, List.foldl_cons, ← this]
    congr 1; omega

theorem drawable_cond {rs ds : List Nm} (h : drawableS rs ds = true) : 1 ≤ rs.length ∧ rs.length ≤ 6 ∧ ds.length ≤ 40 ∧ rs.Nodup ∧ ds.Nodup ∧ (∀ r ∈ rs, isName r = true) ∧ ∀ d ∈ ds, okLabel d = true := by
  unfold drawableS at h
  simp only [Bool.and_eq_true, decide_eq_true_eq, List.all_eq_true] at h
  obtain ⟨⟨⟨⟨⟨⟨a, b⟩, c⟩, d⟩, e⟩, f⟩, g⟩ := h
  exact ⟨a, b, c, d, e, f, g⟩
theorem proper_cond {n m : Nat} {x : Ix} (h : properS n m x = true) : 0 ≤ x.f ∧ x.f < n ∧ 0 ≤ x.t ∧ x.t < n ∧ x.f ≠ x.t ∧ 0 ≤ x.l ∧ x.l < m := by
  unfold properS at h
  simp only [Bool.and_eq_true, decide_eq_true_eq] at h
  obtain ⟨⟨⟨⟨⟨⟨a, b⟩, c⟩, d⟩, e⟩, f⟩, g⟩ := h
  exact ⟨a, b, c, d, e, f, g⟩
theorem all_cond {rs ds : List Nm} {w : List Ix} (h : allS rs ds w = true) : drawableS rs ds = true ∧ ∀ x ∈ w, properS rs.length ds.length x = true := by
  unfold allS at h
  rw [Bool.and_eq_true, List.all_eq_true] at h
  exact h
theorem ok_cond {d : Nm} (h : okLabel d = true) : d ≠ [] ∧ d.length ≤ 50 ∧ ∀ c ∈ d, chl c = true := by
  unfold okLabel at h
  simp only [Bool.and_eq_true, decide_eq_true_eq, List.all_eq_true, Bool.not_eq_true', List.isEmpty_eq_false_iff] at h
  exact ⟨h.1.1, h.1.2, h.2⟩
theorem name_cond {r : Nm} (h : isName r = true) : 1 ≤ r.length ∧ r.length ≤ 16 ∧ (∀ c ∈ r, inn c = true) ∧ ∃ c l, r = c :: l ∧ lt c = true := by
  unfold isName at h
  cases r with
  | nil => cases h
  | cons c l =>
    simp only [Bool.and_eq_true, decide_eq_true_eq, List.all_eq_true] at h
    exact ⟨by simp, h.1.1, h.2, c, l, rfl, h.1.2⟩

/-! ### a line is read again -/
theorem chl_marks {c : UInt8} (h : chl c = true) : c ≠ 62 ∧ c ≠ 60 ∧ c ≠ 45 ∧ c ≠ 124 ∧ c ≠ 32 := by
  refine ⟨?_, ?_, ?_, ?_, ?_⟩ <;> (rintro rfl; revert h; decide)
theorem chl_lt {c : UInt8} (h : chl c = true) : c.toNat < 128 := by
  unfold chl isLetter isDigit at h
  simp only [Bool.or_eq_true, Bool.and_eq_true, decide_eq_true_eq, beq_iff_eq] at h
  rcases h with ((h | h) | rfl) | rfl
  · rcases h with h | h <;> omega
  · omega
  · decide
  · decide
/-- within the arrow there is neither a bar nor a space, outside nothing else -/
theorem chS_in {w lo hi : Nat} {r : Bool} {nm : Nm} (hn : ∀ c ∈ nm, chl c = true) (i : Nat) : (chS w lo hi r nm i = 124 ∨ chS w lo hi r nm i = 32) ↔ ¬ (lo * w < i ∧ i < hi * w) := by
  unfold chS
  split
  · rename_i hc
    refine iff_of_false ?_ (fun h => h hc)
    split
    · decide
    · split
      · decide
      · split
        · rename_i h4
          have := chl_marks (hn (nm.getD (i - lo * w - 2) 0) (by
            rw [List.getD_eq_getElem?_getD, List.getElem?_eq_getElem (by omega)]; exact List.getElem_mem _))
          intro h; rcases h with h | h
          · exact this.2.2.2.1 h
          · exact this.2.2.2.2 h
        · decide
  · rename_i hc
    refine iff_of_true ?_ hc
    split
    · exact .inl rfl
    · exact .inr rfl
theorem lineN_get {n w f t : Nat} {nm : Nm} {i : Nat} (h : i < (n - 1) * w + 1) : (lineN n w f t nm)[i]? = some (chS w (min f t) (max f t) (decide (f < t)) nm i) := by
  unfold lineN
  rw [List.getElem?_map, List.getElem?_range h]; rfl
theorem lineN_len (n w f t : Nat) (nm : Nm) : (lineN n w f t nm).length = (n - 1) * w + 1 := by simp [lineN]
theorem mul_lt {a b w : Nat} (h : a < b) : a * w + w ≤ b * w := by
  have := Nat.mul_le_mul_right w (show a + 1 ≤ b from h)
  rwa [Nat.succ_mul] at this
theorem iff_of_not {a b : Prop} (h : ¬a ↔ ¬b) : a ↔ b := ⟨fun ha => Classical.byContradiction fun hb => h.2 hb ha, fun hb => Classical.byContradiction fun ha => h.1 ha hb⟩
/-- the two ends -/
theorem ends_eq {n w lo hi lo' hi' : Nat} {r r' : Bool} {nm nm' : Nm} (h1 : lo < hi) (h2 : hi < n) (h1' : lo' < hi') (h2' : hi' < n) (hw : 5 ≤ w)
    (hn : ∀ c ∈ nm, chl c = true) (hn' : ∀ c ∈ nm', chl c = true)
    (he : ∀ i, i < (n - 1) * w + 1 → chS w lo hi r nm i = chS w lo' hi' r' nm' i) : lo = lo' ∧ hi = hi' := by
  have hin : ∀ i, i < (n - 1) * w + 1 → ((lo * w < i ∧ i < hi * w) ↔ (lo' * w < i ∧ i < hi' * w)) := fun i hi0 => by
    have a := chS_in (w := w) (lo := lo) (hi := hi) (r := r) hn i
    have b := chS_in (w := w) (lo := lo') (hi := hi') (r := r') hn' i
    rw [he i hi0] at a
    exact iff_of_not (a.symm.trans b)
  have e1 := mul_lt (w := w) h1
  have e2 := mul_lt (w := w) h1'
  have e3 := Nat.mul_le_mul_right w (show hi ≤ n - 1 by omega)
  have e4 := Nat.mul_le_mul_right w (show hi' ≤ n - 1 by omega)
  have a := (hin (lo * w + 1) (by omega)).1 ⟨by omega, by omega⟩
  have b := (hin (lo' * w + 1) (by omega)).2 ⟨by omega, by omega⟩
  have c := (hin (hi * w - 1) (by omega)).1 ⟨by omega, by omega⟩
  have d := (hin (hi' * w - 1) (by omega)).2 ⟨by omega, by omega⟩
  refine ⟨Nat.eq_of_mul_eq_mul_right (show 0 < w by omega) (by omega), Nat.eq_of_mul_eq_mul_right (show 0 < w by omega) (by omega)⟩
/-- what a line shows of its name -/
theorem chS_name {w lo hi : Nat} {r : Bool} {nm : Nm} (h1 : lo < hi) (hl : nm.length + 4 ≤ w) {k : Nat} (hk : k < nm.length) : chS w lo hi r nm (lo * w + 2 + k) = nm.getD k 0 := by
  have e1 := mul_lt (w := w) h1
  unfold chS
  rw [if_pos ⟨by omega, by omega⟩, if_neg (by omega), if_neg (by omega), if_pos ⟨by omega, by omega⟩]
  congr 1; omega
theorem chS_dash {w lo hi : Nat} {r : Bool} {nm : Nm} (h1 : lo < hi) (hl : nm.length + 4 ≤ w) : chS w lo hi r nm (lo * w + 2 + nm.length) = 45 := by
  have e1 := mul_lt (w := w) h1
  unfold chS
  rw [if_pos ⟨by omega, by omega⟩, if_neg (by omega), if_neg (by omega), if_neg (by omega)]
theorem chS_dir {w lo hi : Nat} {r : Bool} {nm : Nm} (h1 : lo < hi) (hl : nm.length + 4 ≤ w) : chS w lo hi r nm (lo * w + 1) = if r then 45 else 60 := by
  have e1 := mul_lt (w := w) h1
  unfold chS
  rw [if_pos ⟨by omega, by omega⟩, if_neg (by omega)]
  cases r
  · rw [if_pos ⟨rfl, rfl⟩]; rfl
  · rw [if_neg (by simp), if_neg (by omega)]; rfl
theorem names_eq {nm nm' : Nm} (hn : ∀ c ∈ nm, chl c = true) (hn' : ∀ c ∈ nm', chl c = true) (he : ∀ k, k ≤ nm.length → k ≤ nm'.length → (nm ++ [45]).getD k 0 = (nm' ++ [45]).getD k 0) : nm = nm' := by
  induction nm generalizing nm' with
  | nil =>
    cases nm' with
    | nil => rfl
    | cons a l =>
      have := he 0 (by simp) (by simp)
      simp at this
      exact absurd this.symm (chl_marks (hn' a (by simp))).2.2.1
  | cons b m ih =>
    cases nm' with
    | nil =>
      have := he 0 (by simp) (by simp)
      simp at this
      exact absurd this (chl_marks (hn b (by simp))).2.2.1
    | cons a l =>
      have h0 := he 0 (by simp) (by simp)
      simp at h0
      subst h0
      rw [ih (nm' := l) (fun c hc => hn c (List.mem_cons_of_mem _ hc)) (fun c hc => hn' c (List.mem_cons_of_mem _ hc)) fun k h1 h2 => by
        have := he (k + 1) (by simp; omega) (by simp; omega)
        simpa using this]
theorem app_dash (nm : Nm) (k : Nat) (hk : k ≤ nm.length) : (nm ++ [45]).getD k 0 = if k < nm.length then nm.getD k 0 else 45 := by
  split
  · rename_i h; rw [List.getD_eq_getElem?_getD, List.getElem?_append_left h, List.getD_eq_getElem?_getD]
  · rw [show k = nm.length by omega, List.getD_eq_getElem?_getD, List.getElem?_append_right (Nat.le_refl _)]; simp
theorem lineN_inj {n w f t f' t' : Nat} {nm nm' : Nm} (hw : 5 ≤ w) (hf : f < n) (ht : t < n) (hne : f ≠ t) (hf' : f' < n) (ht' : t' < n) (hne' : f' ≠ t')
    (hn : ∀ c ∈ nm, chl c = true) (hn' : ∀ c ∈ nm', chl c = true) (hl : nm.length + 4 ≤ w) (hl' : nm'.length + 4 ≤ w)
    (he : lineN n w f t nm = lineN n w f' t' nm') : f = f' ∧ t = t' ∧ nm = nm' := by
  have hch : ∀ i, i < (n - 1) * w + 1 → chS w (min f t) (max f t) (decide (f < t)) nm i = chS w (min f' t') (max f' t') (decide (f' < t')) nm' i := fun i hi => by
    have := congrArg (fun l : Nm => l[i]?) he
    simp only [lineN_get hi, Option.some.injEq] at this
    exact this
  obtain ⟨e1, e2⟩ := ends_eq (by omega) (by omega) (by omega) (by omega) hw hn hn' hch
  rw [← e1, ← e2] at hch
  have hlt : min f t < max f t := by omega
  have m1 := mul_lt (w := w) hlt
  have m2 := Nat.mul_le_mul_right w (show max f t ≤ n - 1 by omega)
  have hd := hch (min f t * w + 1) (by omega)
  rw [chS_dir hlt hl, chS_dir hlt hl'] at hd
  have hdir : decide (f < t) = decide (f' < t') := by
    revert hd; cases decide (f < t) <;> cases decide (f' < t') <;> simp
  refine ⟨?_, ?_, names_eq hn hn' fun k hk hk' => ?_⟩
  · by_cases h : f < t
    · have := of_decide_eq_true (hdir.symm.trans (decide_eq_true h)); omega
    · have := of_decide_eq_false (hdir.symm.trans (decide_eq_false h)); omega
  · by_cases h : f < t
    · have := of_decide_eq_true (hdir.symm.trans (decide_eq_true h)); omega
    · have := of_decide_eq_false (hdir.symm.trans (decide_eq_false h)); omega
  · rw [app_dash _ _ hk, app_dash _ _ hk']
    have hk0 := hch (min f t * w + 2 + k) (by omega)
    have g : ∀ (r : Bool) (nm : Nm), nm.length + 4 ≤ w → k ≤ nm.length → chS w (min f t) (max f t) r nm (min f t * w + 2 + k) = if k < nm.length then nm.getD k 0 else 45 := fun r nm hl hk => by
      split
      · rename_i h; exact chS_name hlt hl h
      · rw [show k = nm.length by omega]; exact chS_dash hlt hl
    rw [g _ _ hl hk, g _ _ hl' hk'] at hk0
    exact hk0

/-! ### the name in a line -/
def labelS (L : Nm) : Nm := (L.dropWhile fun c => !chl c).takeWhile chl
theorem dropWhile_at {p : UInt8 → Bool} : ∀ (L : Nm) (k : Nat), (∀ i b, i < k → L[i]? = some b → p b = true) → (∀ b, L[k]? = some b → p b = false) → L.dropWhile p = L.drop k
  | [], k, _, _ => by simp
  | a :: L, 0, _, h => by rw [List.dropWhile_cons, h a rfl]; rfl
  | a :: L, k + 1, h0, h => by
    rw [List.dropWhile_cons, h0 0 a (by omega) rfl]
    exact dropWhile_at L k (fun i b hi hb => h0 (i + 1) b (by omega) hb) h
theorem takeWhile_at {p : UInt8 → Bool} : ∀ (L : Nm) (k : Nat), (∀ i b, i < k → L[i]? = some b → p b = true) → (∀ b, L[k]? = some b → p b = false) → L.takeWhile p = L.take k
  | [], k, _, _ => by simp
  | a :: L, 0, _, h => by rw [List.takeWhile_cons, h a rfl]; rfl
  | a :: L, k + 1, h0, h => by
    rw [List.takeWhile_cons, h0 0 a (by omega) rfl, if_pos rfl, List.take_succ_cons, takeWhile_at L k (fun i b hi hb => h0 (i + 1) b (by omega) hb) h]
theorem chS_out {w lo hi : Nat} {r : Bool} {nm : Nm} (i : Nat) (h : i ≤ lo * w + 1) : chl (chS w lo hi r nm i) = false := by
  unfold chS
  split
  · rename_i hc
    split
    · decide
    · split
      · decide
      · rw [if_neg (by omega)]; decide
  · split <;> decide
theorem label_line {n w f t : Nat} {nm : Nm} (hf : f < n) (ht : t < n) (hne : f ≠ t) (hn : ∀ c ∈ nm, chl c = true) (hpos : nm ≠ []) (hl : nm.length + 4 ≤ w) : labelS (lineN n w f t nm) = nm := by
  have hlt : min f t < max f t := by omega
  have m1 := mul_lt (w := w) hlt
  have m2 := Nat.mul_le_mul_right w (show max f t ≤ n - 1 by omega)
  have hp := List.length_pos_iff.2 hpos
  have hch : ∀ k, k < nm.length → (lineN n w f t nm)[min f t * w + 2 + k]? = some (nm.getD k 0) := fun k hk => by
    rw [lineN_get (by omega), chS_name hlt hl hk]
  have hin : ∀ k, k < nm.length → chl (nm.getD k 0) = true := fun k hk => hn _ (by rw [List.getD_eq_getElem?_getD, List.getElem?_eq_getElem hk]; exact List.getElem_mem _)
  unfold labelS
  rw [dropWhile_at _ (min f t * w + 2) (fun i b hi hb => by
      rw [lineN_get (by omega)] at hb; cases hb
      rw [chS_out i (by omega)]; rfl) (fun b hb => by
      have := hch 0 hp
      rw [Nat.add_zero, hb] at this; cases this
      rw [hin 0 hp]; rfl)]
  rw [takeWhile_at _ nm.length (fun i b hi hb => by
      rw [List.getElem?_drop, hch i hi] at hb; cases hb; exact hin i hi) (fun b hb => by
      rw [List.getElem?_drop, lineN_get (by omega), chS_dash hlt hl] at hb; cases hb; decide)]
  apply List.ext_getElem?
  intro k
  by_cases hk : k < nm.length
  · rw [List.getElem?_take_of_lt hk, List.getElem?_drop, hch k hk, List.getD_eq_getElem?_getD, List.getElem?_eq_getElem hk]; rfl
  · rw [List.getElem?_eq_none (by rw [List.length_take]; omega), List.getElem?_eq_none (by omega)]

/-! ### the distance of the columns -/
def gapS (l : Nm) : Nat := (l.takeWhile (· == 32)).length
def colS (rs : List Nm) (first : Nm) : Nat := match rs with
  | r :: _ :: _ => if r.isPrefixOf first = true ∧ gapS (first.drop r.length) ≠ 0 then r.length + gapS (first.drop r.length) else 0
  | _ => 0
theorem headF_pre (w : Nat) : ∀ (rs : List Nm) (i : Nat) (acc : Nm), ∃ T, headF w i acc rs = acc ++ T
  | [], i, acc => ⟨[], by simp [headF]⟩
  | r :: rs, i, acc => by
    obtain ⟨T, h⟩ := headF_pre w rs (i + 1) (acc ++ List.replicate (i * w - acc.length) 32 ++ r)
    exact ⟨List.replicate (i * w - acc.length) 32 ++ r ++ T, by rw [headF, h]; simp⟩
theorem head_two (w : Nat) (r q : Nm) (rs : List Nm) : ∃ T, headS w (r :: q :: rs) = r ++ (List.replicate (w - r.length) 32 ++ (q ++ T)) := by
  obtain ⟨T, h⟩ := headF_pre w rs 2 (r ++ List.replicate (w - r.length) 32 ++ q)
  refine ⟨T, ?_⟩
  unfold headS
  rw [headF, headF, Nat.zero_mul, Nat.zero_sub, List.replicate_zero, List.nil_append, List.nil_append, Nat.one_mul, h]
  simp
theorem inn_space {c : UInt8} (h : lt c = true) : (c == 32) = false := by
  rw [beq_eq_false_iff_ne]; rintro rfl; revert h; decide
theorem gap_head (k : Nat) (q T : Nm) (hq : ∃ c l, q = c :: l ∧ lt c = true) : gapS (List.replicate k 32 ++ (q ++ T)) = k := by
  obtain ⟨c, l, rfl, hc⟩ := hq
  unfold gapS
  induction k with
  | zero => rw [List.replicate_zero, List.nil_append, List.cons_append, List.takeWhile_cons, inn_space hc]; rfl
  | succ k ih => rw [List.replicate_succ, List.cons_append, List.takeWhile_cons]; simpa using ih
theorem col_head {rs : List Nm} (hr : ∀ r ∈ rs, isName r = true) (h2 : 2 ≤ rs.length) {w : Nat} (hw : ∀ r ∈ rs, r.length < w) : colS rs (headS w rs) = w := by
  match rs, h2 with
  | r :: q :: rs, _ =>
    obtain ⟨T, e⟩ := head_two w r q rs
    have h1 := hw r (by simp)
    have hg : gapS ((headS w (r :: q :: rs)).drop r.length) = w - r.length := by
      rw [e, List.drop_left, gap_head _ _ _ (name_cond (hr q (by simp))).2.2.2]
    have hp : r.isPrefixOf (headS w (r :: q :: rs)) = true := by rw [List.isPrefixOf_iff_prefix, e]; exact List.prefix_append ..
    unfold colS
    simp only [hg, hp]
    rw [if_pos ⟨trivial, by omega⟩]; omega

/-! ### a word is determined by its chart -/
theorem width_ok {rs ds : List Nm} {w : List Ix} : (∀ r ∈ rs, r.length + 4 ≤ widthC rs ds w) ∧ (∀ x ∈ w, (nmOf ds x).length + 4 ≤ widthC rs ds w) := by
  unfold widthC
  refine ⟨fun r hr => ?_, fun x hx => ?_⟩
  · have a := (maxS_ge rs 0).2 r hr
    have b := (maxS_ge (w.map (nmOf ds)) (maxS 0 rs)).1
    omega
  · have := (maxS_ge (w.map (nmOf ds)) (maxS 0 rs)).2 _ (List.mem_map_of_mem hx)
    omega
theorem width_five {rs ds : List Nm} {w : List Ix} (h : drawableS rs ds = true) : 5 ≤ widthC rs ds w := by
  obtain ⟨h1, _, _, _, _, hn, _⟩ := drawable_cond h
  match rs, h1 with
  | r :: rs, _ =>
    have a := (width_ok (rs := r :: rs) (ds := ds) (w := w)).1 r (by simp)
    have b := (name_cond (hn r (by simp))).1
    omega
theorem nmOf_mem {ds : List Nm} {x : Ix} (h0 : 0 ≤ x.l) (h1 : x.l < ds.length) : ds[x.l.toNat]? = some (nmOf ds x) ∧ nmOf ds x ∈ ds := by
  have : x.l.toNat < ds.length := by omega
  have e : ds[x.l.toNat]? = some (nmOf ds x) := by unfold nmOf; rw [List.getD_eq_getElem?_getD, List.getElem?_eq_getElem this]; rfl
  exact ⟨e, List.mem_of_getElem? e⟩
theorem lineS_inj {rs ds : List Nm} (hd : drawableS rs ds = true) {w : Nat} (hw : 5 ≤ w) {x y : Ix} (hx : properS rs.length ds.length x = true) (hy : properS rs.length ds.length y = true)
    (hlx : (nmOf ds x).length + 4 ≤ w) (hly : (nmOf ds y).length + 4 ≤ w) (he : lineS rs.length w ds x = lineS rs.length w ds y) : x = y := by
  obtain ⟨_, _, _, _, hnd, _, hok⟩ := drawable_cond hd
  obtain ⟨a1, a2, a3, a4, a5, a6, a7⟩ := proper_cond hx
  obtain ⟨b1, b2, b3, b4, b5, b6, b7⟩ := proper_cond hy
  obtain ⟨gx, mx⟩ := nmOf_mem a6 a7
  obtain ⟨gy, my⟩ := nmOf_mem b6 b7
  obtain ⟨e1, e2, e3⟩ := lineN_inj hw (by omega) (by omega) (by omega) (by omega) (by omega) (by omega) (ok_cond (hok _ mx)).2.2 (ok_cond (hok _ my)).2.2 hlx hly he
  rw [← e3] at gy
  have hx' : x.l.toNat < ds.length := by omega
  have hy' : y.l.toNat < ds.length := by omega
  have hl : x.l.toNat = y.l.toNat := by
    rw [List.getElem?_eq_getElem hx'] at gx
    rw [List.getElem?_eq_getElem hy'] at gy
    exact (List.getElem_inj hnd).1 (Option.some.inj (gx.trans gy.symm))
  cases x; cases y
  simp only [Ix.mk.injEq] at *
  omega
theorem lines_inj {rs ds : List Nm} {v w : List Ix} (hv : allS rs ds v = true) (hw : allS rs ds w = true) (he : linesS rs ds v = linesS rs ds w) : v = w := by
  obtain ⟨hd, pv⟩ := all_cond hv
  obtain ⟨_, pw⟩ := all_cond hw
  obtain ⟨h1, _, _, _, _, hn, hok⟩ := drawable_cond hd
  by_cases h2 : 2 ≤ rs.length
  · unfold linesS at he
    obtain ⟨he1, he2⟩ := List.cons.inj he
    have hwid : widthC rs ds v = widthC rs ds w := by
      have a := col_head hn h2 (w := widthC rs ds v) fun r hr => by have := (width_ok (ds := ds) (w := v)).1 r hr; omega
      have b := col_head hn h2 (w := widthC rs ds w) fun r hr => by have := (width_ok (ds := ds) (w := w)).1 r hr; omega
      rw [← a, ← b, he1]
    have h5 := width_five (w := v) hd
    have fv := (width_ok (rs := rs) (ds := ds) (w := v)).2
    have fw := (width_ok (rs := rs) (ds := ds) (w := w)).2
    rw [← hwid] at he2 fw
    clear he he1 hwid
    generalize widthC rs ds v = W at *
    clear hv hw
    induction v generalizing w with
    | nil => cases w with
      | nil => rfl
      | cons b m => cases he2
    | cons a l ih => cases w with
      | nil => cases he2
      | cons b m =>
        rw [List.map_cons, List.map_cons] at he2
        obtain ⟨g1, g2⟩ := List.cons.inj he2
        rw [lineS_inj hd h5 (pv a (by simp)) (pw b (by simp)) (fv a (by simp)) (fw b (by simp)) g1]
        rw [ih (fun x hx => pv x (List.mem_cons_of_mem _ hx)) (fun x hx => pw x (List.mem_cons_of_mem _ hx)) g2 (fun x hx => fv x (List.mem_cons_of_mem _ hx)) (fun x hx => fw x (List.mem_cons_of_mem _ hx))]
  · have none : ∀ (u : List Ix), (∀ x ∈ u, properS rs.length ds.length x = true) → u = [] := fun u hu => by
      cases u with
      | nil => rfl
      | cons x l => obtain ⟨a1, a2, a3, a4, a5, _⟩ := proper_cond (hu x (by simp)); omega
    rw [none v pv, none w pw]
theorem drawS_inj {rs ds : List Nm} {v w : List Ix} {l : List Nm} (hv : drawS rs ds v = some l) (hw : drawS rs ds w = some l) : v = w := by
  obtain ⟨a, _, b⟩ := drawS_some hv
  obtain ⟨c, _, d⟩ := drawS_some hw
  exact lines_inj a c (b.symm.trans d)
end Go.ChS
