/- Texts of this claim, joined: QjT0, QjX0, QjVcD. -/
import Derived.Test.YtkebghjhekoecaaGreatDoorM05
import Derived.Test.YtkebghjhekoecaaGreatDoorM06
import Derived.Test.YtkebghjhekoecaaGreatDoorM02
import Derived.Test.YtkebghjhekoecaaGreatDoorProg
import Derived.KernelRfl
set_option linter.unusedVariables false
set_option linter.unusedSimpArgs false

section
/- Classes of states, on lists. No program here. -/
namespace Go.VC

/-- what has been seen first, in order -/
def dedF {K : Type} [DecidableEq K] (l : List K) : List K := l.foldl (fun a k => if k ∈ a then a else a ++ [k]) []
def idxF {K : Type} [DecidableEq K] : List K → K → Nat
  | [], _ => 0
  | x :: r, k => if x = k then 0 else idxF r k + 1
/-- numbers in the order of the first places -/
def canonL {K : Type} [DecidableEq K] (l : List K) : List Nat := l.map (idxF (dedF l))
section
variable {K K' : Type} [DecidableEq K] [DecidableEq K']
theorem dedF_snoc (l : List K) (k : K) : dedF (l ++ [k]) = if k ∈ dedF l then dedF l else dedF l ++ [k] := by unfold dedF; rw [List.foldl_append]; rfl
theorem dedF_take {l : List K} {i : Nat} {k : K} (h : l[i]? = some k) : dedF (l.take (i + 1)) = if k ∈ dedF (l.take i) then dedF (l.take i) else dedF (l.take i) ++ [k] := by rw [take_snoc h, dedF_snoc]
theorem dedF_mem (l : List K) (k : K) : k ∈ dedF l ↔ k ∈ l := by
  suffices h : ∀ (m a : List K), k ∈ m.foldl (fun a k => if k ∈ a then a else a ++ [k]) a ↔ k ∈ a ∨ k ∈ m by have := h l []; simpa [dedF] using this
  intro m
  induction m with
  | nil => intro a; simp
  | cons x r ih =>
    intro a
    rw [List.foldl_cons, ih]
    split
    · rename_i hx
      rw [List.mem_cons]
      constructor
      · rintro (h | h)
        · exact .inl h
        · exact .inr (.inr h)
      · rintro (h | rfl | h)
        · exact .inl h
        · exact .inl hx
        · exact .inr h
    · rw [List.mem_append, List.mem_singleton, List.mem_cons]
      constructor
      · rintro ((h | h) | h)
        · exact .inl h
        · exact .inr (.inl h)
        · exact .inr (.inr h)
      · rintro (h | h | h)
        · exact .inl (.inl h)
        · exact .inl (.inr h)
        · exact .inr h
theorem idxF_mem {l : List K} {k : K} (h : k ∈ l) (m : List K) : idxF (l ++ m) k = idxF l k := by
  induction l with
  | nil => cases h
  | cons x r ih =>
    rw [List.cons_append, idxF, idxF]
    split
    · rfl
    · rename_i hx
      rw [ih (by rcases List.mem_cons.1 h with h | h; exact absurd h.symm hx; exact h)]
theorem idxF_not {l : List K} {k : K} (h : k ∉ l) : idxF l k = l.length := by
  induction l with
  | nil => rfl
  | cons x r ih =>
    rw [List.mem_cons, not_or] at h
    rw [idxF, if_neg (fun e => h.1 e.symm), ih h.2, List.length_cons]
theorem idxF_lt {l : List K} {k : K} (h : k ∈ l) : idxF l k < l.length := by
  induction l with
  | nil => cases h
  | cons x r ih =>
    rw [idxF, List.length_cons]
    split
    · omega
    · rename_i hx
      have := ih (by rcases List.mem_cons.1 h with h | h; exact absurd h.symm hx; exact h)
      omega
theorem idxF_inj {l : List K} {a b : K} (ha : a ∈ l) (h : idxF l a = idxF l b) : a = b := by
  induction l with
  | nil => cases ha
  | cons x r ih =>
    rw [idxF, idxF] at h
    split at h <;> split at h
    · rename_i h1 h2; rw [← h1, ← h2]
    · omega
    · omega
    · rename_i h1 _
      exact ih (by rcases List.mem_cons.1 ha with h | h; exact absurd h.symm h1; exact h) (by omega)
/-- lists with the same pattern of equal elements have the same numbers -/
theorem canon_pat {l : List K} {l' : List K'} (hl : l.length = l'.length) (hp : ∀ (i j : Nat) (a b : K) (a' b' : K'), l[i]? = some a → l[j]? = some b → l'[i]? = some a' → l'[j]? = some b' → (a = b ↔ a' = b')) :
    ∀ n, n ≤ l.length → (dedF (l.take n)).length = (dedF (l'.take n)).length ∧ ∀ (j : Nat) (a : K) (a' : K'), j < n → l[j]? = some a → l'[j]? = some a' → idxF (dedF (l.take n)) a = idxF (dedF (l'.take n)) a'
  | 0, _ => ⟨rfl, fun j _ _ hj => by omega⟩
  | n + 1, hn => by
    obtain ⟨h1, h2⟩ := canon_pat hl hp n (by omega)
    obtain ⟨x, hx⟩ := get_some (l := l) (i := n) (by omega)
    obtain ⟨x', hx'⟩ := get_some (l := l') (i := n) (by omega)
    have hmem : x ∈ dedF (l.take n) ↔ x' ∈ dedF (l'.take n) := by
      rw [dedF_mem, dedF_mem]
      constructor
      · intro h
        obtain ⟨j, hj⟩ := List.mem_iff_getElem?.1 h
        have hjn : j < n := by have := (List.getElem?_eq_some_iff.1 hj).1; rw [List.length_take] at this; omega
        rw [List.getElem?_take, if_pos hjn] at hj
        obtain ⟨y', hy'⟩ := get_some (l := l') (i := j) (by omega)
        have := (hp j n x x y' x' hj hx hy' hx').1 rfl
        subst this
        exact List.mem_of_getElem? (i := j) (by rw [List.getElem?_take, if_pos hjn]; exact hy')
      · intro h
        obtain ⟨j, hj⟩ := List.mem_iff_getElem?.1 h
        have hjn : j < n := by have := (List.getElem?_eq_some_iff.1 hj).1; rw [List.length_take] at this; omega
        rw [List.getElem?_take, if_pos hjn] at hj
        obtain ⟨y, hy⟩ := get_some (l := l) (i := j) (by omega)
        have := (hp j n y x x' x' hy hx hj hx').2 rfl
        subst this
        exact List.mem_of_getElem? (i := j) (by rw [List.getElem?_take, if_pos hjn]; exact hy)
    rw [dedF_take hx, dedF_take hx']
    by_cases hm : x ∈ dedF (l.take n)
    · rw [if_pos hm, if_pos (hmem.1 hm)]
      refine ⟨h1, fun j a a' hj ha ha' => ?_⟩
      by_cases e : j = n
      · subst e
        rw [hx] at ha; cases ha
        rw [hx'] at ha'; cases ha'
        obtain ⟨i, hi⟩ := List.mem_iff_getElem?.1 ((dedF_mem _ _).1 hm)
        have hin : i < j := by have := (List.getElem?_eq_some_iff.1 hi).1; rw [List.length_take] at this; omega
        rw [List.getElem?_take, if_pos hin] at hi
        obtain ⟨y', hy'⟩ := get_some (l := l') (i := i) (by omega)
        have := (hp i j x x y' x' hi hx hy' hx').1 rfl
        rw [h2 i x y' hin hi hy', this]
      · exact h2 j a a' (by omega) ha ha'
    · rw [if_neg hm, if_neg (fun h => hm (hmem.2 h))]
      refine ⟨by rw [List.length_append, List.length_append, h1]; rfl, fun j a a' hj ha ha' => ?_⟩
      by_cases e : j = n
      · subst e
        rw [hx] at ha; cases ha
        rw [hx'] at ha'; cases ha'
        have key : ∀ {K : Type} [DecidableEq K] {l : List K} {k : K}, k ∉ l → idxF (l ++ [k]) k = l.length := by
          intro K _ l k h
          induction l with
          | nil => rw [List.nil_append, idxF, if_pos rfl]; rfl
          | cons x r ih =>
            rw [List.mem_cons, not_or] at h
            rw [List.cons_append, idxF, if_neg (fun e => h.1 e.symm), ih h.2, List.length_cons]
        rw [key hm, key (fun h => hm (hmem.2 h)), h1]
      · have hmj : ∀ {K : Type} [DecidableEq K] {l : List K} {a : K}, l[j]? = some a → a ∈ dedF (l.take n) := fun h => (dedF_mem _ _).2 (List.mem_of_getElem? (i := j) (by rw [List.getElem?_take, if_pos (by omega)]; exact h))
        rw [idxF_mem (hmj ha), idxF_mem (hmj ha')]
        exact h2 j a a' (by omega) ha ha'
theorem canon_eq {l : List K} {l' : List K'} (hl : l.length = l'.length) (hp : ∀ (i j : Nat) (a b : K) (a' b' : K'), l[i]? = some a → l[j]? = some b → l'[i]? = some a' → l'[j]? = some b' → (a = b ↔ a' = b')) : canonL l = canonL l' ∧ (dedF l).length = (dedF l').length := by
  have h := canon_pat hl hp l.length (Nat.le_refl _)
  rw [List.take_length, hl, List.take_length] at h
  refine ⟨?_, h.1⟩
  apply List.ext_getElem?
  intro j
  unfold canonL
  rw [List.getElem?_map, List.getElem?_map]
  by_cases hj : j < l.length
  · obtain ⟨a, ha⟩ := get_some (l := l) (i := j) hj
    obtain ⟨a', ha'⟩ := get_some (l := l') (i := j) (by omega)
    rw [ha, ha', Option.map_some, Option.map_some, h.2 j a a' (by omega) ha ha']
  · rw [List.getElem?_eq_none (by omega), List.getElem?_eq_none (by omega)]; rfl
theorem canonL_len (l : List K) : (canonL l).length = l.length := List.length_map _
theorem canonL_get {l : List K} {i : Nat} {k : K} (h : l[i]? = some k) : (canonL l)[i]? = some (idxF (dedF l) k) := by unfold canonL; rw [List.getElem?_map, h]; rfl
theorem canonL_lt {l : List K} {c : Nat} (h : c ∈ canonL l) : c < (dedF l).length := by
  obtain ⟨k, hk, rfl⟩ := List.mem_map.1 h
  exact idxF_lt ((dedF_mem _ _).2 hk)
/-- the numbers have the pattern of the list -/
theorem canonL_eq {l : List K} {i j : Nat} {a b : K} (ha : l[i]? = some a) (hb : l[j]? = some b) : (canonL l)[i]? = (canonL l)[j]? ↔ a = b := by
  rw [canonL_get ha, canonL_get hb]
  constructor
  · intro h
    exact idxF_inj ((dedF_mem _ _).2 (List.mem_of_getElem? ha)) (Option.some.inj h)
  · intro h; rw [h]
theorem dedF_canon (l : List K) : (dedF (canonL l)).length = (dedF l).length := by
  refine (canon_eq (canonL_len l) fun i j a b a' b' h1 h2 h3 h4 => ?_).2
  have := canonL_eq h3 h4
  rw [h1, h2] at this
  rw [← this]
  exact ⟨fun h => by rw [h], fun h => Option.some.inj h⟩
theorem dedF_map_le (f : K → K') (l : List K) : (dedF (l.map f)).length ≤ (dedF l).length := by
  have key : ∀ n, n ≤ l.length → (dedF ((l.map f).take n)).length ≤ (dedF (l.take n)).length := by
    intro n
    induction n with
    | zero => intro _; exact Nat.le_refl _
    | succ n ih =>
      intro hn
      obtain ⟨x, hx⟩ := get_some (l := l) (i := n) (by omega)
      rw [dedF_take hx, dedF_take (l := l.map f) (k := f x) (by rw [List.getElem?_map, hx]; rfl)]
      have := ih (by omega)
      by_cases hm : x ∈ dedF (l.take n)
      · have : f x ∈ dedF ((l.map f).take n) := by
          rw [dedF_mem, ← List.map_take]
          exact List.mem_map.2 ⟨x, (dedF_mem _ _).1 hm, rfl⟩
        rw [if_pos hm, if_pos this]; omega
      · rw [if_neg hm, List.length_append]
        split
        · omega
        · rw [List.length_append]; simp only [List.length_singleton]; omega
  have := key l.length (Nat.le_refl _)
  rwa [List.take_length, List.take_of_length_le (by rw [List.length_map]; exact Nat.le_refl _)] at this
theorem dedF_len_le (l : List K) : (dedF l).length ≤ l.length := by
  have key : ∀ n, n ≤ l.length → (dedF (l.take n)).length ≤ n := by
    intro n
    induction n with
    | zero => intro _; exact Nat.le_refl _
    | succ n ih =>
      intro hn
      obtain ⟨x, hx⟩ := get_some (l := l) (i := n) (by omega)
      rw [dedF_take hx]
      have := ih (by omega)
      split
      · omega
      · rw [List.length_append]; simp only [List.length_singleton]; omega
  have := key l.length (Nat.le_refl _)
  rwa [List.take_length] at this
end
/-- what tells states apart -/
structure Sg where
  b : Int
  k : Int
  x : Ev
  ag : Bool
  num : Int
  deriving DecidableEq
def Sg.v (s : Sg) : Value := .agg ⟨[.int .i64 s.b, .int .i64 s.k, .bool s.x.send, .int .i64 s.x.peer, .int .i64 s.x.label, .bool s.ag, .int .i64 s.num]⟩
theorem Sg.v_inj (a b : Sg) (h : a.v = b.v) : a = b := by
  obtain ⟨a1, a2, ⟨a3, a4, a5⟩, a6, a7⟩ := a
  obtain ⟨b1, b2, ⟨b3, b4, b5⟩, b6, b7⟩ := b
  unfold Sg.v at h
  simp at h
  simp [h]
/-- the numbers are given one behind the other -/
structure NOk (n : Int) (N : List (Sg × Int)) : Prop where
  nd : (N.map Prod.fst).Nodup
  va : ∀ (j : Nat) (q : Sg × Int), N[j]? = some q → q.2 = (j : Int) + n + 2
theorem NOk.nil (n : Int) : NOk n [] := ⟨List.nodup_nil, fun j q h => by simp at h⟩
theorem NOk.push {n : Int} {N : List (Sg × Int)} (h : NOk n N) {s : Sg} (hs : ∀ q ∈ N, q.1 ≠ s) : NOk n (N ++ [(s, (N.length : Int) + n + 2)]) := by
  refine ⟨?_, fun j q hq => ?_⟩
  · rw [List.map_append, List.nodup_append]
    refine ⟨h.nd, by simp, fun a ha b hb => ?_⟩
    simp only [List.map_cons, List.map_nil, List.mem_singleton] at hb
    subst hb
    obtain ⟨q, hq, rfl⟩ := List.mem_map.1 ha
    exact hs q hq
  · by_cases hj : j < N.length
    · rw [List.getElem?_append_left hj] at hq; exact h.va j q hq
    · have hjl := (List.getElem?_eq_some_iff.1 hq).1
      rw [List.length_append, List.length_singleton] at hjl
      have : j = N.length := by omega
      subst this
      rw [List.getElem?_append_right (Nat.le_refl _), Nat.sub_self] at hq
      cases hq; rfl
theorem NOk.keyv {n : Int} {N : List (Sg × Int)} (h : NOk n N) {s s' : Sg} {v : Int} (h1 : (s, v) ∈ N) (h2 : (s', v) ∈ N) : s = s' := by
  obtain ⟨i, hi⟩ := List.mem_iff_getElem?.1 h1
  obtain ⟨j, hj⟩ := List.mem_iff_getElem?.1 h2
  have e1 := h.va i _ hi
  have e2 := h.va j _ hj
  have : i = j := by simp only at e1 e2; omega
  subst this
  rw [hi] at hj; cases hj; rfl
theorem NOk.val {n : Int} {N : List (Sg × Int)} (h : NOk n N) {s : Sg} {v v' : Int} (h1 : (s, v) ∈ N) (h2 : (s, v') ∈ N) : v = v' := by
  obtain ⟨i, hi⟩ := List.mem_iff_getElem?.1 h1
  obtain ⟨j, hj⟩ := List.mem_iff_getElem?.1 h2
  have hi' : (N.map Prod.fst)[i]? = some s := by rw [List.getElem?_map, hi]; rfl
  have hj' : (N.map Prod.fst)[j]? = some s := by rw [List.getElem?_map, hj]; rfl
  have : i = j := (List.getElem?_inj (List.getElem?_eq_some_iff.1 hi').1 h.nd).1 (hi'.trans hj'.symm)
  subst this
  rw [hi] at hj; cases hj; rfl
/-- the history that a number stands for, the last first -/
inductive HsN (N : List (Sg × Int)) : Int → List Sg → Prop
  | base {s : Sg} {v : Int} (hm : (s, v) ∈ N) (hk : s.k = 0) : HsN N v [s]
  | step {s : Sg} {v : Int} {l : List Sg} (hm : (s, v) ∈ N) (hk : s.k ≠ 0) (hh : HsN N s.b l) : HsN N v ({ s with b := 0 } :: l)
theorem HsN.mono {N N' : List (Sg × Int)} (hsub : ∀ q ∈ N, q ∈ N') {v : Int} {l : List Sg} (h : HsN N v l) : HsN N' v l := by
  induction h with
  | base hm hk => exact .base (hsub _ hm) hk
  | step hm hk _ ih => exact .step (hsub _ hm) hk ih
theorem HsN.ne {N : List (Sg × Int)} {v : Int} (h : HsN N v []) : False := by cases h
theorem HsN.inj {n : Int} {N : List (Sg × Int)} (hN : NOk n N) : ∀ {l : List Sg} {v v' : Int}, HsN N v l → HsN N v' l → v = v'
  | [], _, _, h, _ => h.ne.elim
  | a :: l, v, v', h, h' => by
    cases h with
    | base hm hk =>
      cases h' with
      | base hm' hk' => exact hN.val hm hm'
      | @step s' _ _ hm' hk' hh => exact hh.ne.elim
    | @step s _ _ hm hk hh =>
      generalize hq : ({ s with b := 0 } : Sg) = q at h'
      cases h' with
      | base hm' hk' => exact hh.ne.elim
      | @step s' _ _ hm' hk' hh' =>
        have hb := HsN.inj hN hh hh'
        have : s = s' := by
          obtain ⟨a1, a2, a3, a4, a5⟩ := s
          obtain ⟨b1, b2, b3, b4, b5⟩ := s'
          simp only [Sg.mk.injEq] at hq ⊢
          exact ⟨hb, hq.2⟩
        subst this
        exact hN.val hm hm'
theorem HsN.func {n : Int} {N : List (Sg × Int)} (hN : NOk n N) {v : Int} {l l' : List Sg} (h : HsN N v l) : HsN N v l' → l = l' := by
  intro h'
  induction h generalizing l' with
  | base hm hk =>
    cases h' with
    | base hm' hk' => rw [hN.keyv hm hm']
    | step hm' hk' hh => have := hN.keyv hm hm'; subst this; exact absurd hk hk'
  | step hm hk hh ih =>
    cases h' with
    | base hm' hk' => have := hN.keyv hm hm'; subst this; exact absurd hk' hk
    | step hm' hk' hh' => have := hN.keyv hm hm'; subst this; rw [ih hh']
def nextF (n : Int) (N : List (Sg × Int)) (s : Sg) : Int × List (Sg × Int) := match mget N s with
  | some v => (v, N)
  | none => ((N.length : Int) + n + 2, N ++ [(s, (N.length : Int) + n + 2)])
theorem mget_mem {α β : Type} [DecidableEq α] {a : α} {y : β} : ∀ {l : List (α × β)}, mget l a = some y → (a, y) ∈ l
  | [], h => by cases h
  | (x, z) :: r, h => by
    rw [mget] at h
    split at h
    · rename_i e; cases h; subst e; simp
    · exact List.mem_cons_of_mem _ (mget_mem h)
theorem mget_not {α β : Type} [DecidableEq α] {a : α} : ∀ {l : List (α × β)}, mget l a = none → ∀ q ∈ l, q.1 ≠ a
  | [], _, q, hq => by cases hq
  | (x, z) :: r, h, q, hq => by
    rw [mget] at h
    split at h
    · cases h
    · rename_i e
      rcases List.mem_cons.1 hq with rfl | hq
      · exact e
      · exact mget_not h q hq
theorem nextF_spec {n : Int} {N : List (Sg × Int)} (hN : NOk n N) (s : Sg) : NOk n (nextF n N s).2 ∧ (∀ q ∈ N, q ∈ (nextF n N s).2) ∧ (s, (nextF n N s).1) ∈ (nextF n N s).2 ∧ (nextF n N s).2.length ≤ N.length + 1 ∧ ∀ q ∈ (nextF n N s).2, q ∈ N ∨ q.1 = s := by
  unfold nextF
  cases h : mget N s with
  | some v => exact ⟨hN, fun q hq => hq, mget_mem h, by simp, fun q hq => .inl hq⟩
  | none =>
    refine ⟨hN.push (mget_not h), fun q hq => List.mem_append.2 (.inl hq), List.mem_append.2 (.inr (by simp)), by simp, fun q hq => ?_⟩
    rcases List.mem_append.1 hq with hq | hq
    · exact .inl hq
    · rw [List.mem_singleton] at hq; subst hq; exact .inr rfl
theorem NOk.bound {n : Int} {N : List (Sg × Int)} (h : NOk n N) {s : Sg} {v : Int} (hm : (s, v) ∈ N) : n + 2 ≤ v ∧ v < (N.length : Int) + n + 2 := by
  obtain ⟨j, hj⟩ := List.mem_iff_getElem?.1 hm
  have := h.va j _ hj
  have := (List.getElem?_eq_some_iff.1 hj).1
  simp only at *
  omega
def ev0 : Ev := ⟨false, 0, 0⟩
def Mv.ev (x : Mv) : Ev := ⟨x.send, x.peer, x.label⟩
def sgB (C : List Nat) (fin : List Bool) (s : Nat) : Sg := ⟨(C.getD s 0 : Nat), 0, ev0, fin.getD s false, 0⟩
def sgL (mv : List Mv) (t : To) : Sg := ⟨0, 1, match mv[t.e.toNat]? with | some x => x.ev | none => ev0, false, t.k⟩
def sgM (C : List Nat) (x : Mv) : Sg := ⟨0, 2, x.ev, x.ag, (C.getD x.t.toNat 0 : Nat)⟩
/-- the history of a state behind the limits li and the moves mv -/
def keyH (m : Mch) (C : List Nat) (li : List To) (mv : List Mv) (s : Nat) : List Sg :=
  ((mv.filter fun x => x.f = (s : Int)).map (sgM C)).reverse ++ (((li.filter fun t => t.s = (s : Int)).map (sgL m.mv)).reverse ++ [sgB C m.fin s])
def keyS (m : Mch) (C : List Nat) (s : Nat) : List Sg := keyH m C m.li m.mv s
theorem keyH_li {m : Mch} {C : List Nat} {li : List To} {j : Nat} {t : To} (h : li[j]? = some t) (s : Nat) : keyH m C (li.take (j + 1)) [] s = if t.s = (s : Int) then sgL m.mv t :: keyH m C (li.take j) [] s else keyH m C (li.take j) [] s := by
  unfold keyH
  rw [take_snoc h, List.filter_append]
  by_cases e : t.s = (s : Int)
  · rw [if_pos e, List.filter_cons_of_pos (by simpa using e)]; simp
  · rw [if_neg e, List.filter_cons_of_neg (by simpa using e)]; simp
theorem keyH_mv {m : Mch} {C : List Nat} {li : List To} {mv : List Mv} {j : Nat} {x : Mv} (h : mv[j]? = some x) (s : Nat) : keyH m C li (mv.take (j + 1)) s = if x.f = (s : Int) then sgM C x :: keyH m C li (mv.take j) s else keyH m C li (mv.take j) s := by
  unfold keyH
  rw [take_snoc h, List.filter_append]
  by_cases e : x.f = (s : Int)
  · rw [if_pos e, List.filter_cons_of_pos (by simpa using e)]; simp
  · rw [if_neg e, List.filter_cons_of_neg (by simpa using e)]; simp
def clsK (m : Mch) (C : List Nat) : List (List Sg) := (List.range m.n.toNat).map (keyS m C)
def clsN (m : Mch) : Nat → List Nat → Nat → List Nat × Nat
  | 0, C, c => (C, c)
  | f + 1, C, c => if (dedF (clsK m C)).length = c then (canonL (clsK m C), c) else clsN m f (canonL (clsK m C)) (dedF (clsK m C)).length
/-- the classes of the states, and how many there are -/
def cls (m : Mch) : List Nat × Nat := clsN m 202 (List.replicate m.n.toNat 0) 0
theorem clsK_len (m : Mch) (C : List Nat) : (clsK m C).length = m.n.toNat := by unfold clsK; rw [List.length_map, List.length_range]
theorem clsK_ge {m : Mch} {C : List Nat} (hC : C.length = m.n.toNat) : (dedF C).length ≤ (dedF (clsK m C)).length := by
  have e : C = (clsK m C).map fun k => match k.getLast? with | some s => s.b.toNat | none => 0 := by
    apply List.ext_getElem?
    intro i
    unfold clsK
    rw [List.map_map, List.getElem?_map]
    by_cases hi : i < m.n.toNat
    · rw [List.getElem?_range hi]
      obtain ⟨c, hc⟩ := get_some (l := C) (i := i) (by omega)
      rw [hc]
      show _ = some (match (keyS m C i).getLast? with | some s => s.b.toNat | none => 0)
      have : (keyS m C i).getLast? = some (sgB C m.fin i) := by
        unfold keyS keyH
        rw [← List.append_assoc, List.getLast?_append]; rfl
      rw [this]
      unfold sgB
      simp [List.getD_eq_getElem?_getD, hc]
    · rw [List.getElem?_eq_none (by omega), List.getElem?_eq_none (by rw [List.length_range]; omega)]; rfl
  have := dedF_map_le (fun k : List Sg => match k.getLast? with | some s => s.b.toNat | none => 0) (clsK m C)
  rwa [← e] at this
theorem dedF_nodup {K : Type} [DecidableEq K] (l : List K) : (dedF l).Nodup := by
  suffices h : ∀ (m a : List K), a.Nodup → (m.foldl (fun a k => if k ∈ a then a else a ++ [k]) a).Nodup from h l [] List.nodup_nil
  intro m
  induction m with
  | nil => intro a h; exact h
  | cons x r ih =>
    intro a h
    rw [List.foldl_cons]
    refine ih _ ?_
    split
    · exact h
    · rename_i hx
      rw [List.nodup_append]
      exact ⟨h, by simp, fun a ha b hb => by rw [List.mem_singleton] at hb; subst hb; exact fun e => hx (e ▸ ha)⟩
def zipI {K : Type} (D : List K) (k : Nat) : List (K × Int) := (D.zipIdx k).map fun q => (q.1, (q.2 : Int))
theorem zipI_fst {K : Type} (D : List K) (k : Nat) : (zipI D k).map Prod.fst = D := by
  unfold zipI
  rw [List.map_map]
  exact List.zipIdx_map_fst k D
theorem zipI_snoc {K : Type} (D : List K) (a : K) : zipI (D ++ [a]) 0 = zipI D 0 ++ [(a, (D.length : Int))] := by
  unfold zipI
  rw [List.zipIdx_append, List.map_append]; simp
theorem zipI_len {K : Type} (D : List K) (k : Nat) : (zipI D k).length = D.length := by unfold zipI; rw [List.length_map, List.length_zipIdx]
theorem mget_zipI {K : Type} [DecidableEq K] (a : K) : ∀ (D : List K) (k : Nat), mget (zipI D k) a = if a ∈ D then some ((idxF D a : Int) + k) else none
  | [], k => rfl
  | x :: r, k => by
    have e : zipI (x :: r) k = (x, (k : Int)) :: zipI r (k + 1) := rfl
    rw [e, mget, idxF]
    by_cases h : x = a
    · rw [if_pos h, if_pos (by simp [h]), if_pos h]; simp
    · rw [if_neg h, mget_zipI a r (k + 1), if_neg h]
      by_cases hm : a ∈ r
      · rw [if_pos hm, if_pos (List.mem_cons_of_mem _ hm)]
        congr 1; omega
      · rw [if_neg hm, if_neg (fun hc => by rcases List.mem_cons.1 hc with hc | hc; exact h hc.symm; exact hm hc)]
/-- what the machine of a call holds -/
structure MOk (m : Mch) : Prop where
  n : 1 ≤ m.n ∧ m.n ≤ 200
  s : 0 ≤ m.s ∧ m.s < m.n
  fl : m.fin.length = m.n.toNat
  ml : m.mv.length ≤ 400
  ll : m.li.length ≤ 80000
  mv : ∀ x ∈ m.mv, 0 ≤ x.f ∧ x.f < m.n ∧ 0 ≤ x.t ∧ x.t < m.n ∧ (-9223372036854775808 ≤ x.peer ∧ x.peer ≤ 9223372036854775807) ∧ (-9223372036854775808 ≤ x.label ∧ x.label ≤ 9223372036854775807)
  li : ∀ t ∈ m.li, 0 ≤ t.s ∧ t.s < m.n ∧ 0 ≤ t.e ∧ t.e < m.mv.length ∧ (-9223372036854775808 ≤ t.k ∧ t.k ≤ 9223372036854775807)
def mvLt (a b : Mv) : Prop := a.f < b.f ∨ (a.f = b.f ∧ evLt a.ev b.ev)
theorem mvLt_irr (a : Mv) : ¬ mvLt a a := by
  rintro (h | ⟨_, h⟩)
  · omega
  · exact evLt_irr _ h
theorem mvLt_trans {a b c : Mv} (h1 : mvLt a b) (h2 : mvLt b c) : mvLt a c := by
  rcases h1 with h1 | ⟨h1, h1'⟩ <;> rcases h2 with h2 | ⟨h2, h2'⟩
  · exact .inl (by omega)
  · exact .inl (by omega)
  · exact .inl (by omega)
  · exact .inr ⟨by omega, evLt_trans h1' h2'⟩
theorem mvSorted_same : ∀ {l l' : List Mv}, l'.Perm l → l.Pairwise mvLt → l'.Pairwise (fun a b => ¬ mvLt b a) → l' = l
  | [], l', hp, _, _ => List.perm_nil.1 hp
  | a :: l, [], hp, _, _ => by have := hp.length_eq; simp at this
  | a :: l, b :: l', hp, hs, hs' => by
    rw [List.pairwise_cons] at hs hs'
    have hb : b = a := by
      have hbm : b ∈ a :: l := hp.subset (List.mem_cons_self ..)
      have ham : a ∈ b :: l' := hp.symm.subset (List.mem_cons_self ..)
      rcases List.mem_cons.1 hbm with h | h
      · exact h
      · rcases List.mem_cons.1 ham with h' | h'
        · exact h'.symm
        · exact absurd (hs.1 b h) (hs'.1 a h')
    subst hb
    rw [mvSorted_same ((List.perm_cons b).1 hp) hs.2 hs'.2]
end Go.VC
end

section
/- The view table and the raw machine, computed with sets of states as lists. No program here. -/
namespace Go.VC

def setOf (L : List Nat) : PSet := fun j => decide (j ∈ L)
/-- the list is ascending and below n -/
def Can (n : Nat) (L : List Nat) : Prop := L = (List.range n).filter fun j => decide (j ∈ L)
theorem Can.mk (n : Nat) (p : Nat → Bool) : Can n ((List.range n).filter p) := by
  unfold Can
  apply List.filter_congr
  intro x hx
  by_cases hm : x ∈ (List.range n).filter p
  · rw [decide_eq_true hm]; exact (List.mem_filter.1 hm).2
  · rw [decide_eq_false hm]
    cases hp : p x
    · rfl
    · exact absurd (List.mem_filter.2 ⟨hx, hp⟩) hm
theorem Can.lt {n : Nat} {L : List Nat} (h : Can n L) : ∀ j ∈ L, j < n := by
  intro j hj
  rw [h, List.mem_filter, List.mem_range] at hj
  exact hj.1
theorem setOf_inj {n : Nat} {L L' : List Nat} (h : Can n L) (h' : Can n L') : setOf L = setOf L' ↔ L = L' := by
  constructor
  · intro e
    rw [h, h']
    congr 1
  · intro e; rw [e]
theorem elems_setOf {n : Nat} {L : List Nat} (h : Can n L) (hn : n ≤ 4096) : elems (setOf L) = L := by
  unfold elems
  have e : List.range 4096 = List.range n ++ (List.range (4096 - n)).map (n + ·) := by rw [← List.range_add]; congr 1; omega
  rw [e, List.filter_append]
  have e2 : ((List.range (4096 - n)).map (n + ·)).filter (setOf L) = [] := by
    rw [List.filter_eq_nil_iff]
    intro x hx
    obtain ⟨y, _, rfl⟩ := List.mem_map.1 hx
    unfold setOf
    simp only [decide_eq_true_eq]
    intro hm
    have := h.lt _ hm
    omega
  rw [e2, List.append_nil]
  exact h.symm
def evsC (es : List Ed) (role : Int) (L : List Nat) : List Ev := sortE (L.flatMap fun n => (visL es role n).map (·.x))
def toC (es : List Ed) (role : Int) (L : List Nat) (x : Ev) : List Int := L.flatMap fun n => (visL es role n).filterMap fun a => if a.x = x then some a.to else none
theorem evs_setOf {n : Nat} {L : List Nat} (h : Can n L) (hn : n ≤ 4096) (es : List Ed) (role : Int) : evs es role (setOf L) = evsC es role L := by unfold evs evL evsC; rw [elems_setOf h hn]
theorem toL_setOf {n : Nat} {L : List Nat} (h : Can n L) (hn : n ≤ 4096) (es : List Ed) (role : Int) (x : Ev) : toL es role (setOf L) x = toC es role L x := by unfold toL toC; rw [elems_setOf h hn]
def addC (es : List Ed) (role : Int) (L : List Nat) : List Nat := es.foldl (fun L x => if (vis1 role x).isNone && decide (x.f.toNat ∈ L) && !decide (x.t.toNat ∈ L) then L ++ [x.t.toNat] else L) L
def bfsC (es : List Ed) (role : Int) : Nat → List Nat → List Nat
  | 0, L => L
  | f + 1, L => bfsC es role f (addC es role L)
/-- L is the closure of l -/
def okC (es : List Ed) (role : Int) (l : List Int) (L : List Nat) : Bool :=
  l.all (fun v => decide (0 ≤ v) && decide (v.toNat ∈ L)) && es.all (fun x => !(vis1 role x).isNone || !decide (x.f.toNat ∈ L) || decide (x.t.toNat ∈ L)) &&
    (List.range L.length).all fun i => match L[i]? with
      | some j => l.any (fun v => decide (v = (j : Int))) || es.any fun x => (vis1 role x).isNone && decide (x.f.toNat ∈ L.take i) && decide (x.t = (j : Int))
      | none => false
theorem okC_clo {es : List Ed} {role : Int} {l : List Int} {L : List Nat} (hes : ∀ x ∈ es, 0 ≤ x.f ∧ 0 ≤ x.t) (h : okC es role l L = true) (j : Nat) : clo es role l j = decide (j ∈ L) := by
  unfold okC at h
  simp only [Bool.and_eq_true, List.all_eq_true, List.mem_range] at h
  obtain ⟨⟨h1, h2⟩, h3⟩ := h
  have fwd : ∀ a : Int, Qr es role l a → 0 ≤ a ∧ a.toNat ∈ L := by
    intro a ha
    induction ha with
    | base hm => have := h1 _ hm; simpa using this
    | step _ hx ih =>
      obtain ⟨x, hx, hv, hf, rfl⟩ := hx
      refine ⟨(hes x hx).2, ?_⟩
      have := h2 x hx
      simp only [Bool.or_eq_true, Bool.not_eq_true', decide_eq_false_iff_not, decide_eq_true_eq] at this
      rcases this with (h4 | h4) | h4
      · rw [hv] at h4; cases h4
      · exact absurd (by rw [hf]; exact ih.2) h4
      · exact h4
  have bwd : ∀ i, i ≤ L.length → ∀ j ∈ L.take i, Qr es role l (j : Int) := by
    intro i
    induction i with
    | zero => intro _ j hj; rw [List.take_zero] at hj; cases hj
    | succ i ih =>
      intro hi j hj
      obtain ⟨y, hy⟩ := get_some (l := L) (i := i) (by omega)
      rw [take_snoc hy, List.mem_append, List.mem_singleton] at hj
      rcases hj with hj | rfl
      · exact ih (by omega) j hj
      · have := h3 i (by omega)
        rw [hy] at this
        simp only [Bool.or_eq_true, List.any_eq_true, decide_eq_true_eq, Bool.and_eq_true] at this
        rcases this with ⟨v, hv, rfl⟩ | ⟨x, hx, ⟨h4, h5⟩, h6⟩
        · exact .base hv
        · have hq := ih (by omega) _ h5
          rw [show ((x.f.toNat : Nat) : Int) = x.f by have := hes x hx; omega] at hq
          exact .step hq ⟨x, hx, Option.isNone_iff_eq_none.1 h4, rfl, h6⟩
  have hiff : clo es role l j = true ↔ j ∈ L := by
    rw [clo_iff]
    constructor
    · intro h; have := (fwd _ h).2; rwa [Int.toNat_natCast] at this
    · intro h; exact bwd L.length (Nat.le_refl _) j (by rw [List.take_length]; exact h)
  by_cases hj : j ∈ L
  · rw [decide_eq_true hj]; exact hiff.2 hj
  · rw [decide_eq_false hj]
    cases hc : clo es role l j
    · rfl
    · exact absurd (hiff.1 hc) hj
def cloC (es : List Ed) (role : Int) (n : Nat) (l : List Int) : Option (List Nat) :=
  let L := bfsC es role n (l.map Int.toNat).eraseDups
  if okC es role l L then some ((List.range n).filter fun j => decide (j ∈ L)) else none
theorem cloC_ok {es : List Ed} {role : Int} {n : Nat} {l : List Int} {L : List Nat} (hes : ∀ x ∈ es, 0 ≤ x.f ∧ 0 ≤ x.t) (hlt : ∀ j : Nat, clo es role l j = true → j < n) (h : cloC es role n l = some L) : Can n L ∧ clo es role l = setOf L := by
  unfold cloC at h
  simp only at h
  split at h
  · rename_i hk
    cases h
    refine ⟨Can.mk _ _, ?_⟩
    funext j
    rw [okC_clo hes hk]
    unfold setOf
    by_cases hj : j ∈ bfsC es role n (l.map Int.toNat).eraseDups
    · rw [decide_eq_true hj, decide_eq_true]
      have : clo es role l j = true := by rw [okC_clo hes hk, decide_eq_true hj]
      exact List.mem_filter.2 ⟨List.mem_range.2 (hlt j this), decide_eq_true hj⟩
    · rw [decide_eq_false hj, decide_eq_false]
      intro hm
      exact hj (of_decide_eq_true (List.mem_filter.1 hm).2)
  · cases h
def rowCS (S : List (List Nat)) (L : List Nat) : List (List Nat) := if L ∈ S then S else S ++ [L]
theorem rowI_setOf {n : Nat} {L : List Nat} (hL : Can n L) : ∀ {S : List (List Nat)}, (∀ s ∈ S, Can n s) → rowI (S.map setOf) (setOf L) = idxF S L
  | [], _ => rfl
  | s :: S, h => by
    rw [List.map_cons, rowI, idxF]
    have hs := setOf_inj (h s (List.mem_cons_self ..)) hL
    by_cases e : s = L
    · rw [if_pos (hs.2 e), if_pos e]
    · rw [if_neg (fun h => e (hs.1 h)), if_neg e, rowI_setOf hL fun s hs => h s (List.mem_cons_of_mem _ hs)]
theorem rowS_setOf {n : Nat} {L : List Nat} (hL : Can n L) {S : List (List Nat)} (hS : ∀ s ∈ S, Can n s) : rowS (S.map setOf) (setOf L) = (rowCS S L).map setOf ∧ ∀ s ∈ rowCS S L, Can n s := by
  have hiff : setOf L ∈ S.map setOf ↔ L ∈ S := by
    rw [← rowI_lt, rowI_setOf hL hS, List.length_map]
    constructor
    · intro h
      by_cases hm : L ∈ S
      · exact hm
      · rw [idxF_not hm] at h; omega
    · intro h; exact idxF_lt h
  unfold rowS rowCS
  by_cases hm : L ∈ S
  · rw [if_pos (hiff.2 hm), if_pos hm]; exact ⟨rfl, hS⟩
  · rw [if_neg (fun h => hm (hiff.1 h)), if_neg hm, List.map_append]
    refine ⟨rfl, fun s hs => ?_⟩
    rcases List.mem_append.1 hs with hs | hs
    · exact hS s hs
    · rw [List.mem_singleton] at hs; rw [hs]; exact hL
def arcsC (es : List Ed) (role : Int) (n : Nat) (i : Nat) (L : List Nat) : List Ev → List (List Nat) → List Mv → Option (List (List Nat) × List Mv)
  | [], S, M => some (S, M)
  | x :: r, S, M => match cloC es role n (toC es role L x) with
    | none => none
    | some T => arcsC es role n i L r (rowCS S T) (M ++ [⟨i, x.send, x.peer, x.label, (idxF S T : Nat), false⟩])
theorem arcsC_ok {es : List Ed} {role : Int} {n i : Nat} {L : List Nat} (hn : n ≤ 4096) (hes : ∀ x ∈ es, 0 ≤ x.f ∧ 0 ≤ x.t) (hlt : ∀ (x : Ev) (j : Nat), clo es role (toC es role L x) j = true → j < n) (hL : Can n L) : ∀ (l : List Ev) (S : List (List Nat)) (M : List Mv) {S' : List (List Nat)} {M' : List Mv}, (∀ s ∈ S, Can n s) → arcsC es role n i L l S M = some (S', M') →
    arcsF es role i (setOf L) l (S.map setOf) M = (S'.map setOf, M') ∧ ∀ s ∈ S', Can n s
  | [], S, M, S', M', hS, h => by cases h; exact ⟨rfl, hS⟩
  | x :: r, S, M, S', M', hS, h => by
    rw [arcsC] at h
    cases hc : cloC es role n (toC es role L x) with
    | none => rw [hc] at h; cases h
    | some T =>
      rw [hc] at h
      replace h : arcsC es role n i L r (rowCS S T) (M ++ [⟨i, x.send, x.peer, x.label, (idxF S T : Nat), false⟩]) = some (S', M') := h
      obtain ⟨h1, h2⟩ := cloC_ok hes (hlt x) hc
      have h3 := rowS_setOf h1 hS
      have := arcsC_ok hn hes hlt hL r _ _ h3.2 h
      rw [arcsF, toL_setOf hL hn, h2, rowI_setOf h1 hS, h3.1]
      exact this
def viewsCF (es : List Ed) (role : Int) (n : Nat) : Nat → Nat → List (List Nat) → List Mv → Option (Option (List (List Nat) × List Mv))
  | 0, _, _, _ => some none
  | f + 1, i, S, M => match S[i]? with
    | none => some (some (S, M))
    | some L => match arcsC es role n i L (evsC es role L) S M with
      | none => none
      | some (S', M') => if S'.length > 200 then some none else viewsCF es role n f (i + 1) S' M'
theorem viewsCF_ok {es : List Ed} {role : Int} {n : Nat} (hn : n ≤ 4096) (hes : ∀ x ∈ es, 0 ≤ x.f ∧ 0 ≤ x.t) (hlt : ∀ (L : List Nat) (x : Ev) (j : Nat), clo es role (toC es role L x) j = true → j < n) : ∀ (f i : Nat) (S : List (List Nat)) (M : List Mv) {r : Option (List (List Nat) × List Mv)}, (∀ s ∈ S, Can n s) → viewsCF es role n f i S M = some r →
    viewsF es role f i (S.map setOf) M = r.map (fun q => (q.1.map setOf, q.2)) ∧ ∀ q, r = some q → ∀ s ∈ q.1, Can n s
  | 0, i, S, M, r, _, h => by cases h; exact ⟨rfl, fun q hq => by cases hq⟩
  | f + 1, i, S, M, r, hS, h => by
    rw [viewsCF] at h
    rw [viewsF, List.getElem?_map]
    cases hg : S[i]? with
    | none =>
      rw [hg] at h
      cases h
      exact ⟨rfl, fun q hq => by cases hq; exact hS⟩
    | some L =>
      rw [hg] at h
      have hL := hS L (List.mem_of_getElem? hg)
      cases ha : arcsC es role n i L (evsC es role L) S M with
      | none => simp only [ha] at h; cases h
      | some q =>
        obtain ⟨S', M'⟩ := q
        simp only [ha] at h
        have h1 := arcsC_ok hn hes (hlt L) hL _ S M hS ha
        rw [← evs_setOf hL hn] at h1
        show (if (arcsF es role i (setOf L) (evs es role (setOf L)) (S.map setOf) M).1.length > 200 then none else viewsF es role f (i + 1) (arcsF es role i (setOf L) (evs es role (setOf L)) (S.map setOf) M).1 (arcsF es role i (setOf L) (evs es role (setOf L)) (S.map setOf) M).2) = _ ∧ _
        rw [h1.1]
        simp only [List.length_map]
        split
        · rename_i hc
          rw [if_pos hc] at h
          cases h
          exact ⟨rfl, fun q hq => by cases hq⟩
        · rename_i hc
          rw [if_neg hc] at h
          exact viewsCF_ok hn hes hlt f (i + 1) S' M' h1.2 h
theorem viewV_congr {F F' : Nat → List Ev} {en en' : Nat → Bool} {O : List Bool} {T : List Ti} {l : List Nat} (hF : ∀ k ∈ l, F k = F' k) (he : ∀ k ∈ l, en k = en' k) : viewV F en O T l = viewV F' en' O T l := by
  have hb : ∀ k ∈ l, badV F en l k = badV F' en' l k := by
    intro k hk
    unfold badV
    have ha : (l.any fun q => en q || decide (F k ≠ F q)) = l.any fun q => en' q || decide (F' k ≠ F' q) := by
      rw [Bool.eq_iff_iff, List.any_eq_true, List.any_eq_true]
      constructor
      · rintro ⟨q, hq, h⟩; exact ⟨q, hq, by rw [← he q hq, ← hF q hq, ← hF k hk]; exact h⟩
      · rintro ⟨q, hq, h⟩; exact ⟨q, hq, by rw [he q hq, hF q hq, hF k hk]; exact h⟩
    rw [ha, hF k hk, he k hk]
  unfold viewV
  congr 1
  suffices h : ∀ (m : List Nat) (st : Option (Bool × Ti)), (∀ k ∈ m, k ∈ l) → m.foldl (stepV F en O T l) st = m.foldl (stepV F' en' O T l) st from h l _ fun k hk => hk
  intro m
  induction m with
  | nil => intro st _; rfl
  | cons a m ih =>
    intro st hs
    rw [List.foldl_cons, List.foldl_cons]
    have : stepV F en O T l st a = stepV F' en' O T l st a := by unfold stepV; rw [hb a (hs a (List.mem_cons_self ..))]
    rw [this]
    exact ih _ fun k hk => hs k (List.mem_cons_of_mem _ hk)
def rawLC (vw : List Nat → Option Ti) : Nat → List (List Nat) → List Mv → List To → Option (List Mv × List To)
  | _, [], M, L => some (M, L)
  | n, p :: S, M, L => match vw p with
    | none => none
    | some x => rawLC vw (n + 1) S (M.map (updR n x)) (L ++ limR n x M)
theorem rawLC_ok {vw vw' : List Nat → Option Ti} {N : Nat} (hN : N ≤ 4096) : ∀ (n : Nat) (S : List (List Nat)) (M : List Mv) (L : List To), (∀ s ∈ S, Can N s ∧ vw s = vw' s) → rawL vw n (S.map setOf) M L = rawLC vw' n S M L
  | _, [], _, _, _ => rfl
  | n, p :: S, M, L, h => by
    obtain ⟨h1, h2⟩ := h p (List.mem_cons_self ..)
    rw [List.map_cons, rawL, rawLC, elems_setOf h1 hN, h2]
    cases vw' p with
    | none => rfl
    | some x => exact rawLC_ok hN (n + 1) S _ _ fun s hs => h s (List.mem_cons_of_mem _ hs)
end Go.VC
end

section
namespace Go.VC
open Go.Proofs
set_option maxRecDepth 100000
set_option linter.unusedVariables false

/- farandole/view.look
 loop rrrlrb: x_39:Int
 loop rrrlrb: x_109:Int -/
def W123 (p0_1 : ByteArray) (p0_2 p0_3 : Sl) (p0_4 p0_5 p0_6 : Int) (p0_7 p0_8 : Sl) (p1 : Int) (h : Heap) (R : Value → Heap → Prop) : Prop :=
 (∀ h9 : Heap, h9 = h.push (.cells ⟨[.string p0_1, .slice p0_2.a p0_2.n p0_2.c, .slice p0_3.a p0_3.n p0_3.c, .int .i64 p0_4, .int .i64 p0_5, .int .i64 p0_6, .slice p0_7.a p0_7.n p0_7.c, .slice p0_8.a p0_8.n p0_8.c]⟩ 59) →
 (∃ (x10 : ByteArray) (x11 x12 : Sl) (x13 x14 x15 : Int) (x16 x17 : Sl), atC h9 ⟨h.size, 0, none⟩ [.string x10, .slice x11.a x11.n x11.c, .slice x12.a x12.n x12.c, .int .i64 x13, .int .i64 x14, .int .i64 x15, .slice x16.a x16.n x16.c, .slice x17.a x17.n x17.c] ∧
 (Fn Tryz.prog 69 #[.agg ⟨[.string x10, .slice x11.a x11.n x11.c, .slice x12.a x12.n x12.c, .int .i64 x13, .int .i64 x14, .int .i64 x15, .slice x16.a x16.n x16.c, .slice x17.a x17.n x17.c]⟩] h9
 (fun v18 h20 => ∃ x19 : Bool, v18 = .bool x19 ∧
 (sB (!x19)
 (R (.tuple ⟨[.pointer none, .int .i64 1]⟩) h20)
 ((sB (decide (p1 < 0))
 (R (.tuple ⟨[.pointer none, .int .i64 1]⟩) h20)
 ((∃ x21 : Sl, hc h20 ⟨h.size, 1, none⟩ = some (.slice x21.a x21.n x21.c) ∧
 (sB (decide (p1 ≥ (x21.n : Int)))
 (R (.tuple ⟨[.pointer none, .int .i64 1]⟩) h20)
 ((∃ (x22 : ByteArray) (x23 x24 : Sl) (x25 x26 x27 : Int) (x28 x29 : Sl), atC h20 ⟨h.size, 0, none⟩ [.string x22, .slice x23.a x23.n x23.c, .slice x24.a x24.n x24.c, .int .i64 x25, .int .i64 x26, .int .i64 x27, .slice x28.a x28.n x28.c, .slice x29.a x29.n x29.c] ∧
 (∃ x30 : Int, hc h20 ⟨h.size, 3, none⟩ = some (.int .i64 x30) ∧
 (∃ x31 : Int, hc h20 ⟨h.size, 3, none⟩ = some (.int .i64 x31) ∧
 ((((0 : Int) ≤ x30 ∧ (x30 : Int) ≤ x30 ∧ ((24 : Nat) : Int) * x30 ≤ 140737488355328) ∧ ∀ h32 : Heap, h32 = h20.push (.cells ⟨madeL Tryz.prog 49 (Int.toNat x30)⟩ 49) →
 (Sm [⟨h.size, 3, none⟩, ⟨h.size, 0, none⟩] h20 h32 ∧
 (((0 : Int) ≤ x31 ∧ (x31 : Int) ≤ x31 ∧ ((24 : Nat) : Int) * x31 ≤ 140737488355328) ∧ ∀ h33 : Heap, h33 = h32.push (.cells ⟨madeL Tryz.prog 228 (Int.toNat x31)⟩ 228) →
 (Sm [⟨h.size, 3, none⟩, ⟨h.size, 0, none⟩] h32 h33 ∧
 (∀ h34 : Heap, h34 = h33.push (.cells ⟨[.string x22, .slice x23.a x23.n x23.c, .slice x24.a x24.n x24.c, .int .i64 x25, .int .i64 x26, .int .i64 x27, .slice x28.a x28.n x28.c, .slice x29.a x29.n x29.c, .int .i64 p1, .slice (some ⟨h20.size, 0, none⟩) (Int.toNat x30) (Int.toNat x30), .slice (some ⟨h32.size, 0, none⟩) (Int.toNat x31) (Int.toNat x31)]⟩ 227) →
 (∃ x35 : Sl, hc h34 ⟨h.size, 6, none⟩ = some (.slice x35.a x35.n x35.c) ∧
 (∃ I36 : Int → Heap → Nat → Prop, (∃ m37, I36 0 h34 m37) ∧
 (∀ (_ : Env) (x_39 : Int) (h40 : Heap) (m38 : Nat), I36 x_39 h40 m38 →
 (sB (decide (x_39 < (x35.n : Int)))
 ((NB x35.a fun b41 o42 => ((0 ≤ (x_39 : Int) ∧ (x_39 : Int) < (x35.n : Nat)) ∧
 (∃ (x43 x44 x45 x46 x47 : Int) (x48 : Bool), atC h40 ⟨b41, o42 + Int.toNat x_39 * 6, none⟩ [.int .i64 x43, .int .i64 x44, .int .i64 x45, .int .i64 x46, .int .i64 x47, .bool x48] ∧
 (∀ h49 : Heap, h49 = h40.push (.cells ⟨[.int .i64 0, .int .i64 0, .int .i64 0, .int .i64 0, .int .i64 0, .bool false]⟩ 145) →
 (okAt h49 ⟨h40.size, 0, none⟩ 6 ∧ ∀ h50 : Heap, h50 = hputs h49 ⟨h40.size, 0, none⟩ 0 [.int .i64 x43, .int .i64 x44, .int .i64 x45, .int .i64 x46, .int .i64 x47, .bool x48] →
 (∃ x51 : Int, hc h50 ⟨h40.size, 1, none⟩ = some (.int .i64 x51) ∧
 (sB (p1 == x51)
 ((∃ x52 : Sl, hc h50 ⟨h33.size, 10, none⟩ = some (.slice x52.a x52.n x52.c) ∧
 (∃ x53 : Int, hc h50 ⟨h40.size, 0, none⟩ = some (.int .i64 x53) ∧
 (∃ x54 : Sl, hc h50 ⟨h33.size, 10, none⟩ = some (.slice x54.a x54.n x54.c) ∧
 (∃ x55 : Int, hc h50 ⟨h40.size, 0, none⟩ = some (.int .i64 x55) ∧
 (NB x54.a fun b56 o57 => ((0 ≤ (x55 : Int) ∧ (x55 : Int) < (x54.n : Nat)) ∧
 (∃ x58 : Sl, hc h50 ⟨b56, o57 + Int.toNat x55 * 1, none⟩ = some (.slice x58.a x58.n x58.c) ∧
 (∃ x59 : Int, hc h50 ⟨h40.size, 1 + 1, none⟩ = some (.int .i64 x59) ∧
 (∃ x60 : Int, hc h50 ⟨h40.size, 1 + 2, none⟩ = some (.int .i64 x60) ∧
 (∃ x61 : Int, hc h50 ⟨h40.size, 4, none⟩ = some (.int .i64 x61) ∧
 (∀ h62 : Heap, h62 = h50.push (.cells ⟨[.bool true, .int .i64 x59, .int .i64 x60, .int .i64 x61]⟩ 230) →
 (Sm [⟨b56, o57 + Int.toNat x55 * 1, none⟩, ⟨h40.size, 0, none⟩, ⟨h33.size, 10, none⟩, ⟨h40.size, 0, none⟩, ⟨h33.size, 10, none⟩] h50 h62 ∧
 (App Tryz.prog 228 228 (.slice x58.a x58.n x58.c) (.slice (some ⟨h50.size, 0, none⟩) 1 1) h62 fun s63 h64 =>
 (Sm [⟨h40.size, 0, none⟩, ⟨h33.size, 10, none⟩] h62 h64 ∧
 (NB x52.a fun b65 o66 => ((0 ≤ (x53 : Int) ∧ (x53 : Int) < (x52.n : Nat)) ∧
 (okAt h64 ⟨b65, o66 + Int.toNat x53 * 1, none⟩ 1 ∧ ∀ h67 : Heap, h67 = hputs h64 ⟨b65, o66 + Int.toNat x53 * 1, none⟩ 0 [.slice s63.a s63.n s63.c] →
 (∃ m68, m68 < m38 ∧ I36 (IntKind.wrap .i64 (x_39 + 1)) h67 m68)))))))))))))))))))
 ((∃ x69 : Int, hc h50 ⟨h40.size, 1 + 1, none⟩ = some (.int .i64 x69) ∧
 (sB (p1 == x69)
 ((∃ x70 : Sl, hc h50 ⟨h33.size, 10, none⟩ = some (.slice x70.a x70.n x70.c) ∧
 (∃ x71 : Int, hc h50 ⟨h40.size, 0, none⟩ = some (.int .i64 x71) ∧
 (∃ x72 : Sl, hc h50 ⟨h33.size, 10, none⟩ = some (.slice x72.a x72.n x72.c) ∧
 (∃ x73 : Int, hc h50 ⟨h40.size, 0, none⟩ = some (.int .i64 x73) ∧
 (NB x72.a fun b74 o75 => ((0 ≤ (x73 : Int) ∧ (x73 : Int) < (x72.n : Nat)) ∧
 (∃ x76 : Sl, hc h50 ⟨b74, o75 + Int.toNat x73 * 1, none⟩ = some (.slice x76.a x76.n x76.c) ∧
 (∃ x77 : Int, hc h50 ⟨h40.size, 1, none⟩ = some (.int .i64 x77) ∧
 (∃ x78 : Int, hc h50 ⟨h40.size, 1 + 2, none⟩ = some (.int .i64 x78) ∧
 (∃ x79 : Int, hc h50 ⟨h40.size, 4, none⟩ = some (.int .i64 x79) ∧
 (∀ h80 : Heap, h80 = h50.push (.cells ⟨[.bool false, .int .i64 x77, .int .i64 x78, .int .i64 x79]⟩ 230) →
 (Sm [⟨b74, o75 + Int.toNat x73 * 1, none⟩, ⟨h40.size, 0, none⟩, ⟨h33.size, 10, none⟩, ⟨h40.size, 0, none⟩, ⟨h33.size, 10, none⟩] h50 h80 ∧
 (App Tryz.prog 228 228 (.slice x76.a x76.n x76.c) (.slice (some ⟨h50.size, 0, none⟩) 1 1) h80 fun s81 h82 =>
 (Sm [⟨h40.size, 0, none⟩, ⟨h33.size, 10, none⟩] h80 h82 ∧
 (NB x70.a fun b83 o84 => ((0 ≤ (x71 : Int) ∧ (x71 : Int) < (x70.n : Nat)) ∧
 (okAt h82 ⟨b83, o84 + Int.toNat x71 * 1, none⟩ 1 ∧ ∀ h85 : Heap, h85 = hputs h82 ⟨b83, o84 + Int.toNat x71 * 1, none⟩ 0 [.slice s81.a s81.n s81.c] →
 (∃ m86, m86 < m38 ∧ I36 (IntKind.wrap .i64 (x_39 + 1)) h85 m86)))))))))))))))))))
 ((∃ x87 : Sl, hc h50 ⟨h33.size, 9, none⟩ = some (.slice x87.a x87.n x87.c) ∧
 (∃ x88 : Int, hc h50 ⟨h40.size, 0, none⟩ = some (.int .i64 x88) ∧
 (∃ x89 : Sl, hc h50 ⟨h33.size, 9, none⟩ = some (.slice x89.a x89.n x89.c) ∧
 (∃ x90 : Int, hc h50 ⟨h40.size, 0, none⟩ = some (.int .i64 x90) ∧
 (NB x89.a fun b91 o92 => ((0 ≤ (x90 : Int) ∧ (x90 : Int) < (x89.n : Nat)) ∧
 (∃ x93 : Sl, hc h50 ⟨b91, o92 + Int.toNat x90 * 1, none⟩ = some (.slice x93.a x93.n x93.c) ∧
 (∃ x94 : Int, hc h50 ⟨h40.size, 4, none⟩ = some (.int .i64 x94) ∧
 (∀ h95 : Heap, h95 = h50.push (.cells ⟨[.int .i64 x94]⟩ 3) →
 (Sm [⟨b91, o92 + Int.toNat x90 * 1, none⟩, ⟨h40.size, 0, none⟩, ⟨h33.size, 9, none⟩, ⟨h40.size, 0, none⟩, ⟨h33.size, 9, none⟩] h50 h95 ∧
 (App Tryz.prog 49 49 (.slice x93.a x93.n x93.c) (.slice (some ⟨h50.size, 0, none⟩) 1 1) h95 fun s96 h97 =>
 (Sm [⟨h40.size, 0, none⟩, ⟨h33.size, 9, none⟩] h95 h97 ∧
 (NB x87.a fun b98 o99 => ((0 ≤ (x88 : Int) ∧ (x88 : Int) < (x87.n : Nat)) ∧
 (okAt h97 ⟨b98, o99 + Int.toNat x88 * 1, none⟩ 1 ∧ ∀ h100 : Heap, h100 = hputs h97 ⟨b98, o99 + Int.toNat x88 * 1, none⟩ 0 [.slice s96.a s96.n s96.c] →
 (∃ m101, m101 < m38 ∧ I36 (IntKind.wrap .i64 (x_39 + 1)) h100 m101))))))))))))))))))))))))))))
 (R (.tuple ⟨[.pointer (some ⟨h33.size, 0, none⟩), .int .i64 0]⟩) h40))))))))))) ∧ ((((0 : Int) ≤ x31 ∧ (x31 : Int) ≤ x31 ∧ ((24 : Nat) : Int) * x31 ≤ 140737488355328) ∧ ∀ h102 : Heap, h102 = h20.push (.cells ⟨madeL Tryz.prog 228 (Int.toNat x31)⟩ 228) →
 (Sm [⟨h.size, 3, none⟩, ⟨h.size, 0, none⟩] h20 h102 ∧
 (((0 : Int) ≤ x30 ∧ (x30 : Int) ≤ x30 ∧ ((24 : Nat) : Int) * x30 ≤ 140737488355328) ∧ ∀ h103 : Heap, h103 = h102.push (.cells ⟨madeL Tryz.prog 49 (Int.toNat x30)⟩ 49) →
 (Sm [⟨h.size, 3, none⟩, ⟨h.size, 0, none⟩] h102 h103 ∧
 (∀ h104 : Heap, h104 = h103.push (.cells ⟨[.string x22, .slice x23.a x23.n x23.c, .slice x24.a x24.n x24.c, .int .i64 x25, .int .i64 x26, .int .i64 x27, .slice x28.a x28.n x28.c, .slice x29.a x29.n x29.c, .int .i64 p1, .slice (some ⟨h102.size, 0, none⟩) (Int.toNat x30) (Int.toNat x30), .slice (some ⟨h20.size, 0, none⟩) (Int.toNat x31) (Int.toNat x31)]⟩ 227) →
 (∃ x105 : Sl, hc h104 ⟨h.size, 6, none⟩ = some (.slice x105.a x105.n x105.c) ∧
 (∃ I106 : Int → Heap → Nat → Prop, (∃ m107, I106 0 h104 m107) ∧
 (∀ (_ : Env) (x_109 : Int) (h110 : Heap) (m108 : Nat), I106 x_109 h110 m108 →
 (sB (decide (x_109 < (x105.n : Int)))
 ((NB x105.a fun b111 o112 => ((0 ≤ (x_109 : Int) ∧ (x_109 : Int) < (x105.n : Nat)) ∧
 (∃ (x113 x114 x115 x116 x117 : Int) (x118 : Bool), atC h110 ⟨b111, o112 + Int.toNat x_109 * 6, none⟩ [.int .i64 x113, .int .i64 x114, .int .i64 x115, .int .i64 x116, .int .i64 x117, .bool x118] ∧
 (∀ h119 : Heap, h119 = h110.push (.cells ⟨[.int .i64 0, .int .i64 0, .int .i64 0, .int .i64 0, .int .i64 0, .bool false]⟩ 145) →
 (okAt h119 ⟨h110.size, 0, none⟩ 6 ∧ ∀ h120 : Heap, h120 = hputs h119 ⟨h110.size, 0, none⟩ 0 [.int .i64 x113, .int .i64 x114, .int .i64 x115, .int .i64 x116, .int .i64 x117, .bool x118] →
 (∃ x121 : Int, hc h120 ⟨h110.size, 1, none⟩ = some (.int .i64 x121) ∧
 (sB (p1 == x121)
 ((∃ x122 : Sl, hc h120 ⟨h103.size, 10, none⟩ = some (.slice x122.a x122.n x122.c) ∧
 (∃ x123 : Int, hc h120 ⟨h110.size, 0, none⟩ = some (.int .i64 x123) ∧
 (∃ x124 : Sl, hc h120 ⟨h103.size, 10, none⟩ = some (.slice x124.a x124.n x124.c) ∧
 (∃ x125 : Int, hc h120 ⟨h110.size, 0, none⟩ = some (.int .i64 x125) ∧
 (NB x124.a fun b126 o127 => ((0 ≤ (x125 : Int) ∧ (x125 : Int) < (x124.n : Nat)) ∧
 (∃ x128 : Sl, hc h120 ⟨b126, o127 + Int.toNat x125 * 1, none⟩ = some (.slice x128.a x128.n x128.c) ∧
 (∃ x129 : Int, hc h120 ⟨h110.size, 1 + 1, none⟩ = some (.int .i64 x129) ∧
 (∃ x130 : Int, hc h120 ⟨h110.size, 1 + 2, none⟩ = some (.int .i64 x130) ∧
 (∃ x131 : Int, hc h120 ⟨h110.size, 4, none⟩ = some (.int .i64 x131) ∧
 (∀ h132 : Heap, h132 = h120.push (.cells ⟨[.bool true, .int .i64 x129, .int .i64 x130, .int .i64 x131]⟩ 230) →
 (Sm [⟨b126, o127 + Int.toNat x125 * 1, none⟩, ⟨h110.size, 0, none⟩, ⟨h103.size, 10, none⟩, ⟨h110.size, 0, none⟩, ⟨h103.size, 10, none⟩] h120 h132 ∧
 (App Tryz.prog 228 228 (.slice x128.a x128.n x128.c) (.slice (some ⟨h120.size, 0, none⟩) 1 1) h132 fun s133 h134 =>
 (Sm [⟨h110.size, 0, none⟩, ⟨h103.size, 10, none⟩] h132 h134 ∧
 (NB x122.a fun b135 o136 => ((0 ≤ (x123 : Int) ∧ (x123 : Int) < (x122.n : Nat)) ∧
 (okAt h134 ⟨b135, o136 + Int.toNat x123 * 1, none⟩ 1 ∧ ∀ h137 : Heap, h137 = hputs h134 ⟨b135, o136 + Int.toNat x123 * 1, none⟩ 0 [.slice s133.a s133.n s133.c] →
 (∃ m138, m138 < m108 ∧ I106 (IntKind.wrap .i64 (x_109 + 1)) h137 m138)))))))))))))))))))
 ((∃ x139 : Int, hc h120 ⟨h110.size, 1 + 1, none⟩ = some (.int .i64 x139) ∧
 (sB (p1 == x139)
 ((∃ x140 : Sl, hc h120 ⟨h103.size, 10, none⟩ = some (.slice x140.a x140.n x140.c) ∧
 (∃ x141 : Int, hc h120 ⟨h110.size, 0, none⟩ = some (.int .i64 x141) ∧
 (∃ x142 : Sl, hc h120 ⟨h103.size, 10, none⟩ = some (.slice x142.a x142.n x142.c) ∧
 (∃ x143 : Int, hc h120 ⟨h110.size, 0, none⟩ = some (.int .i64 x143) ∧
 (NB x142.a fun b144 o145 => ((0 ≤ (x143 : Int) ∧ (x143 : Int) < (x142.n : Nat)) ∧
 (∃ x146 : Sl, hc h120 ⟨b144, o145 + Int.toNat x143 * 1, none⟩ = some (.slice x146.a x146.n x146.c) ∧
 (∃ x147 : Int, hc h120 ⟨h110.size, 1, none⟩ = some (.int .i64 x147) ∧
 (∃ x148 : Int, hc h120 ⟨h110.size, 1 + 2, none⟩ = some (.int .i64 x148) ∧
 (∃ x149 : Int, hc h120 ⟨h110.size, 4, none⟩ = some (.int .i64 x149) ∧
 (∀ h150 : Heap, h150 = h120.push (.cells ⟨[.bool false, .int .i64 x147, .int .i64 x148, .int .i64 x149]⟩ 230) →
 (Sm [⟨b144, o145 + Int.toNat x143 * 1, none⟩, ⟨h110.size, 0, none⟩, ⟨h103.size, 10, none⟩, ⟨h110.size, 0, none⟩, ⟨h103.size, 10, none⟩] h120 h150 ∧
 (App Tryz.prog 228 228 (.slice x146.a x146.n x146.c) (.slice (some ⟨h120.size, 0, none⟩) 1 1) h150 fun s151 h152 =>
 (Sm [⟨h110.size, 0, none⟩, ⟨h103.size, 10, none⟩] h150 h152 ∧
 (NB x140.a fun b153 o154 => ((0 ≤ (x141 : Int) ∧ (x141 : Int) < (x140.n : Nat)) ∧
 (okAt h152 ⟨b153, o154 + Int.toNat x141 * 1, none⟩ 1 ∧ ∀ h155 : Heap, h155 = hputs h152 ⟨b153, o154 + Int.toNat x141 * 1, none⟩ 0 [.slice s151.a s151.n s151.c] →
 (∃ m156, m156 < m108 ∧ I106 (IntKind.wrap .i64 (x_109 + 1)) h155 m156)))))))))))))))))))
 ((∃ x157 : Sl, hc h120 ⟨h103.size, 9, none⟩ = some (.slice x157.a x157.n x157.c) ∧
 (∃ x158 : Int, hc h120 ⟨h110.size, 0, none⟩ = some (.int .i64 x158) ∧
 (∃ x159 : Sl, hc h120 ⟨h103.size, 9, none⟩ = some (.slice x159.a x159.n x159.c) ∧
 (∃ x160 : Int, hc h120 ⟨h110.size, 0, none⟩ = some (.int .i64 x160) ∧
 (NB x159.a fun b161 o162 => ((0 ≤ (x160 : Int) ∧ (x160 : Int) < (x159.n : Nat)) ∧
 (∃ x163 : Sl, hc h120 ⟨b161, o162 + Int.toNat x160 * 1, none⟩ = some (.slice x163.a x163.n x163.c) ∧
 (∃ x164 : Int, hc h120 ⟨h110.size, 4, none⟩ = some (.int .i64 x164) ∧
 (∀ h165 : Heap, h165 = h120.push (.cells ⟨[.int .i64 x164]⟩ 3) →
 (Sm [⟨b161, o162 + Int.toNat x160 * 1, none⟩, ⟨h110.size, 0, none⟩, ⟨h103.size, 9, none⟩, ⟨h110.size, 0, none⟩, ⟨h103.size, 9, none⟩] h120 h165 ∧
 (App Tryz.prog 49 49 (.slice x163.a x163.n x163.c) (.slice (some ⟨h120.size, 0, none⟩) 1 1) h165 fun s166 h167 =>
 (Sm [⟨h110.size, 0, none⟩, ⟨h103.size, 9, none⟩] h165 h167 ∧
 (NB x157.a fun b168 o169 => ((0 ≤ (x158 : Int) ∧ (x158 : Int) < (x157.n : Nat)) ∧
 (okAt h167 ⟨b168, o169 + Int.toNat x158 * 1, none⟩ 1 ∧ ∀ h170 : Heap, h170 = hputs h167 ⟨b168, o169 + Int.toNat x158 * 1, none⟩ 0 [.slice s166.a s166.n s166.c] →
 (∃ m171, m171 < m108 ∧ I106 (IntKind.wrap .i64 (x_109 + 1)) h170 m171))))))))))))))))))))))))))))
 (R (.tuple ⟨[.pointer (some ⟨h103.size, 0, none⟩), .int .i64 0]⟩) h110)))))))))))))))))))))))))
theorem vc123 (p0_1 : ByteArray) (p0_2 p0_3 : Sl) (p0_4 p0_5 p0_6 : Int) (p0_7 p0_8 : Sl) (p1 : Int) (h : Heap) (R : Value → Heap → Prop) (H : W123 p0_1 p0_2 p0_3 p0_4 p0_5 p0_6 p0_7 p0_8 p1 h R) : Fn Tryz.prog 123 #[.agg ⟨[.string p0_1, .slice p0_2.a p0_2.n p0_2.c, .slice p0_3.a p0_3.n p0_3.c, .int .i64 p0_4, .int .i64 p0_5, .int .i64 p0_6, .slice p0_7.a p0_7.n p0_7.c, .slice p0_8.a p0_8.n p0_8.c]⟩, .int .i64 p1] h R := fnI (A := (.s .z (.s .z (.s .z (.s (.s .z (.b (.l [(36, .one (.int .i64))] .z))) .z))))) (by kernel_rfl) H

/- (*farandole/view.looker).closed
 loop rrrrlrborlbrb: todo_35:Sl, x_36:Int
 loop rrrrlrb: todo_22:Sl, head_23:Int
 loop rrrlrb: todo_6:Sl, x_7:Int -/
def W129 (p0 : Addr) (p1 : Sl) (h : Heap) (R : Value → Heap → Prop) : Prop :=
 (∃ x1 : Int, hc h ⟨p0.block, p0.off + 3, none⟩ = some (.int .i64 x1) ∧
 (((0 : Int) ≤ x1 ∧ (x1 : Int) ≤ x1 ∧ ((1 : Nat) : Int) * x1 ≤ 140737488355328) ∧ ∀ h2 : Heap, h2 = h.push (.cells ⟨madeL Tryz.prog 4 (Int.toNat x1)⟩ 4) →
 (∃ I3 : Sl → Int → Heap → Nat → Prop, (∃ m4, I3 ⟨none, 0, 0⟩ 0 h2 m4) ∧
 (∀ (_ : Env) (todo_6 : Sl) (x_7 : Int) (h8 : Heap) (m5 : Nat), I3 todo_6 x_7 h8 m5 →
 (sB (decide (x_7 < (p1.n : Int)))
 ((NB p1.a fun b9 o10 => ((0 ≤ (x_7 : Int) ∧ (x_7 : Int) < (p1.n : Nat)) ∧
 (∃ x11 : Int, hc h8 ⟨b9, o10 + Int.toNat x_7 * 1, none⟩ = some (.int .i64 x11) ∧
 ((0 ≤ (x11 : Int) ∧ (x11 : Int) < ((Int.toNat x1) : Nat)) ∧
 (∃ x12 : Bool, hc h8 ⟨h.size, 0 + Int.toNat x11 * 1, none⟩ = some (.bool x12) ∧
 (sB (!x12)
 (((0 ≤ (x11 : Int) ∧ (x11 : Int) < ((Int.toNat x1) : Nat)) ∧
 (okAt h8 ⟨h.size, 0 + Int.toNat x11 * 1, none⟩ 1 ∧ ∀ h13 : Heap, h13 = hputs h8 ⟨h.size, 0 + Int.toNat x11 * 1, none⟩ 0 [.bool true] →
 (∀ h14 : Heap, h14 = h13.push (.cells ⟨[.int .i64 x11]⟩ 3) →
 (App Tryz.prog 49 49 (.slice todo_6.a todo_6.n todo_6.c) (.slice (some ⟨h13.size, 0, none⟩) 1 1) h14 fun s15 h16 =>
 (∃ m17, m17 < m5 ∧ I3 s15 (IntKind.wrap .i64 (x_7 + 1)) h16 m17))))))
 ((∃ m18, m18 < m5 ∧ I3 todo_6 (IntKind.wrap .i64 (x_7 + 1)) h8 m18)))))))))
 ((∃ I19 : Sl → Int → Heap → Nat → Prop, (∃ m20, I19 todo_6 0 h8 m20) ∧
 (∀ (_ : Env) (todo_22 : Sl) (head_23 : Int) (h24 : Heap) (m21 : Nat), I19 todo_22 head_23 h24 m21 →
 (sB (decide (head_23 < (todo_22.n : Int)))
 ((∃ x25 : Sl, hc h24 ⟨p0.block, p0.off + 9, none⟩ = some (.slice x25.a x25.n x25.c) ∧
 (NB todo_22.a fun b26 o27 => ((0 ≤ (head_23 : Int) ∧ (head_23 : Int) < (todo_22.n : Nat)) ∧
 (∃ x28 : Int, hc h24 ⟨b26, o27 + Int.toNat head_23 * 1, none⟩ = some (.int .i64 x28) ∧
 (NB x25.a fun b29 o30 => ((0 ≤ (x28 : Int) ∧ (x28 : Int) < (x25.n : Nat)) ∧
 (∃ x31 : Sl, hc h24 ⟨b29, o30 + Int.toNat x28 * 1, none⟩ = some (.slice x31.a x31.n x31.c) ∧
 (∃ I32 : Sl → Int → Heap → Nat → Prop, (∃ m33, I32 todo_22 0 h24 m33) ∧
 (∀ (_ : Env) (todo_35 : Sl) (x_36 : Int) (h37 : Heap) (m34 : Nat), I32 todo_35 x_36 h37 m34 →
 (sB (decide (x_36 < (x31.n : Int)))
 ((NB x31.a fun b38 o39 => ((0 ≤ (x_36 : Int) ∧ (x_36 : Int) < (x31.n : Nat)) ∧
 (∃ x40 : Int, hc h37 ⟨b38, o39 + Int.toNat x_36 * 1, none⟩ = some (.int .i64 x40) ∧
 ((0 ≤ (x40 : Int) ∧ (x40 : Int) < ((Int.toNat x1) : Nat)) ∧
 (∃ x41 : Bool, hc h37 ⟨h.size, 0 + Int.toNat x40 * 1, none⟩ = some (.bool x41) ∧
 (sB (!x41)
 (((0 ≤ (x40 : Int) ∧ (x40 : Int) < ((Int.toNat x1) : Nat)) ∧
 (okAt h37 ⟨h.size, 0 + Int.toNat x40 * 1, none⟩ 1 ∧ ∀ h42 : Heap, h42 = hputs h37 ⟨h.size, 0 + Int.toNat x40 * 1, none⟩ 0 [.bool true] →
 (∀ h43 : Heap, h43 = h42.push (.cells ⟨[.int .i64 x40]⟩ 3) →
 (App Tryz.prog 49 49 (.slice todo_35.a todo_35.n todo_35.c) (.slice (some ⟨h42.size, 0, none⟩) 1 1) h43 fun s44 h45 =>
 (∃ m46, m46 < m34 ∧ I32 s44 (IntKind.wrap .i64 (x_36 + 1)) h45 m46))))))
 ((∃ m47, m47 < m34 ∧ I32 todo_35 (IntKind.wrap .i64 (x_36 + 1)) h37 m47)))))))))
 ((∃ m48, m48 < m21 ∧ I19 todo_35 (IntKind.wrap .i64 (head_23 + 1)) h37 m48)))))))))))))
 ((Fn Tryz.prog 174 #[.slice todo_22.a todo_22.n todo_22.c] h24
 (fun v49 h51 => ∃ x50 : Sl, v49 = .slice x50.a x50.n x50.c ∧
 R (.slice x50.a x50.n x50.c) h51))))))))))))
theorem vc129 (p0 : Addr) (p1 : Sl) (h : Heap) (R : Value → Heap → Prop) (H : W129 p0 p1 h R) : Fn Tryz.prog 129 #[.pointer (some p0), .slice p1.a p1.n p1.c] h R := fnI (A := (.s .z (.s .z (.s .z (.s (.s .z (.b (.l [(6, .one (.slice)), (20, .one (.int .i64))] .z))) (.s (.s .z (.b (.l [(6, .one (.slice)), (9, .one (.int .i64))] (.s .z (.s (.b (.s .z (.b (.l [(6, .one (.slice)), (54, .one (.int .i64))] .z)))) .z))))) .z)))))) (by kernel_rfl) H

/- (*farandole/view.looker).after
 loop rrlrborrlbrrb: to_24:Sl, x_25:Int
 loop rrlrb: to_11:Sl, x_12:Int -/
def W131 (p0 : Addr) (p1 : Sl) (p2_1 : Bool) (p2_2 p2_3 : Int) (h : Heap) (R : Value → Heap → Prop) : Prop :=
 (∀ h4 : Heap, h4 = h.push (.cells ⟨[.bool p2_1, .int .i64 p2_2, .int .i64 p2_3]⟩ 179) →
 (Fn Tryz.prog 73 #[.slice p1.a p1.n p1.c] h4
 (fun v5 h7 => ∃ x6 : Sl, v5 = .slice x6.a x6.n x6.c ∧
 (∃ I8 : Sl → Int → Heap → Nat → Prop, (∃ m9, I8 ⟨none, 0, 0⟩ 0 h7 m9) ∧
 (∀ (_ : Env) (to_11 : Sl) (x_12 : Int) (h13 : Heap) (m10 : Nat), I8 to_11 x_12 h13 m10 →
 (sB (decide (x_12 < (x6.n : Int)))
 ((NB x6.a fun b14 o15 => ((0 ≤ (x_12 : Int) ∧ (x_12 : Int) < (x6.n : Nat)) ∧
 (∃ x16 : Int, hc h13 ⟨b14, o15 + Int.toNat x_12 * 1, none⟩ = some (.int .i64 x16) ∧
 (∃ x17 : Sl, hc h13 ⟨p0.block, p0.off + 10, none⟩ = some (.slice x17.a x17.n x17.c) ∧
 (NB x17.a fun b18 o19 => ((0 ≤ (x16 : Int) ∧ (x16 : Int) < (x17.n : Nat)) ∧
 (∃ x20 : Sl, hc h13 ⟨b18, o19 + Int.toNat x16 * 1, none⟩ = some (.slice x20.a x20.n x20.c) ∧
 (∃ I21 : Sl → Int → Heap → Nat → Prop, (∃ m22, I21 to_11 0 h13 m22) ∧
 (∀ (_ : Env) (to_24 : Sl) (x_25 : Int) (h26 : Heap) (m23 : Nat), I21 to_24 x_25 h26 m23 →
 (sB (decide (x_25 < (x20.n : Int)))
 ((NB x20.a fun b27 o28 => ((0 ≤ (x_25 : Int) ∧ (x_25 : Int) < (x20.n : Nat)) ∧
 (∃ (x29 : Bool) (x30 x31 x32 : Int), atC h26 ⟨b27, o28 + Int.toNat x_25 * 4, none⟩ [.bool x29, .int .i64 x30, .int .i64 x31, .int .i64 x32] ∧
 (∀ h33 : Heap, h33 = h26.push (.cells ⟨[.bool false, .int .i64 0, .int .i64 0, .int .i64 0]⟩ 230) →
 (okAt h33 ⟨h26.size, 0, none⟩ 4 ∧ ∀ h34 : Heap, h34 = hputs h33 ⟨h26.size, 0, none⟩ 0 [.bool x29, .int .i64 x30, .int .i64 x31, .int .i64 x32] →
 (∃ (x35 : Bool) (x36 x37 : Int), atC h34 ⟨h26.size, 0, none⟩ [.bool x35, .int .i64 x36, .int .i64 x37] ∧
 (∃ (x38 : Bool) (x39 x40 : Int), atC h34 ⟨h.size, 0, none⟩ [.bool x38, .int .i64 x39, .int .i64 x40] ∧
 (sB ((x35 == x38) && ((x36 == x39) && ((x37 == x40) && true)))
 ((∃ x41 : Int, hc h34 ⟨h26.size, 3, none⟩ = some (.int .i64 x41) ∧
 (∀ h42 : Heap, h42 = h34.push (.cells ⟨[.int .i64 x41]⟩ 3) →
 (App Tryz.prog 49 49 (.slice to_24.a to_24.n to_24.c) (.slice (some ⟨h34.size, 0, none⟩) 1 1) h42 fun s43 h44 =>
 (∃ m45, m45 < m23 ∧ I21 s43 (IntKind.wrap .i64 (x_25 + 1)) h44 m45)))))
 ((∃ m46, m46 < m23 ∧ I21 to_24 (IntKind.wrap .i64 (x_25 + 1)) h34 m46)))))))))))
 ((∃ m47, m47 < m10 ∧ I8 to_24 (IntKind.wrap .i64 (x_12 + 1)) h26 m47)))))))))))))
 ((Fn Tryz.prog 129 #[.pointer (some p0), .slice to_11.a to_11.n to_11.c] h13
 (fun v48 h50 => ∃ x49 : Sl, v48 = .slice x49.a x49.n x49.c ∧
 R (.slice x49.a x49.n x49.c) h50)))))))))
theorem vc131 (p0 : Addr) (p1 : Sl) (p2_1 : Bool) (p2_2 p2_3 : Int) (h : Heap) (R : Value → Heap → Prop) (H : W131 p0 p1 p2_1 p2_2 p2_3 h R) : Fn Tryz.prog 131 #[.pointer (some p0), .slice p1.a p1.n p1.c, .agg ⟨[.bool p2_1, .int .i64 p2_2, .int .i64 p2_3]⟩] h R := fnI (A := (.s .z (.s .z (.s (.s .z (.b (.l [(7, .one (.slice)), (15, .one (.int .i64))] (.s .z (.s .z (.s (.b (.s .z (.s .z (.b (.l [(7, .one (.slice)), (27, .one (.int .i64))] .z))))) .z)))))) .z)))) (by kernel_rfl) H

/- (*farandole/view.looker).events
 loop rrlrborrlbrrb: out_20:Sl, x_21:Int
 loop rrlrb: out_7:Sl, x_8:Int -/
def W130 (p0 : Addr) (p1 : Sl) (h : Heap) (R : Value → Heap → Prop) : Prop :=
 (Fn Tryz.prog 73 #[.slice p1.a p1.n p1.c] h
 (fun v1 h3 => ∃ x2 : Sl, v1 = .slice x2.a x2.n x2.c ∧
 (∃ I4 : Sl → Int → Heap → Nat → Prop, (∃ m5, I4 ⟨none, 0, 0⟩ 0 h3 m5) ∧
 (∀ (_ : Env) (out_7 : Sl) (x_8 : Int) (h9 : Heap) (m6 : Nat), I4 out_7 x_8 h9 m6 →
 (sB (decide (x_8 < (x2.n : Int)))
 ((NB x2.a fun b10 o11 => ((0 ≤ (x_8 : Int) ∧ (x_8 : Int) < (x2.n : Nat)) ∧
 (∃ x12 : Int, hc h9 ⟨b10, o11 + Int.toNat x_8 * 1, none⟩ = some (.int .i64 x12) ∧
 (∃ x13 : Sl, hc h9 ⟨p0.block, p0.off + 10, none⟩ = some (.slice x13.a x13.n x13.c) ∧
 (NB x13.a fun b14 o15 => ((0 ≤ (x12 : Int) ∧ (x12 : Int) < (x13.n : Nat)) ∧
 (∃ x16 : Sl, hc h9 ⟨b14, o15 + Int.toNat x12 * 1, none⟩ = some (.slice x16.a x16.n x16.c) ∧
 (∃ I17 : Sl → Int → Heap → Nat → Prop, (∃ m18, I17 out_7 0 h9 m18) ∧
 (∀ (_ : Env) (out_20 : Sl) (x_21 : Int) (h22 : Heap) (m19 : Nat), I17 out_20 x_21 h22 m19 →
 (sB (decide (x_21 < (x16.n : Int)))
 ((NB x16.a fun b23 o24 => ((0 ≤ (x_21 : Int) ∧ (x_21 : Int) < (x16.n : Nat)) ∧
 (∃ (x25 : Bool) (x26 x27 x28 : Int), atC h22 ⟨b23, o24 + Int.toNat x_21 * 4, none⟩ [.bool x25, .int .i64 x26, .int .i64 x27, .int .i64 x28] ∧
 (∀ h29 : Heap, h29 = h22.push (.cells ⟨[.bool false, .int .i64 0, .int .i64 0, .int .i64 0]⟩ 230) →
 (okAt h29 ⟨h22.size, 0, none⟩ 4 ∧ ∀ h30 : Heap, h30 = hputs h29 ⟨h22.size, 0, none⟩ 0 [.bool x25, .int .i64 x26, .int .i64 x27, .int .i64 x28] →
 (∃ (x31 : Bool) (x32 x33 : Int), atC h30 ⟨h22.size, 0, none⟩ [.bool x31, .int .i64 x32, .int .i64 x33] ∧
 (∀ h34 : Heap, h34 = h30.push (.cells ⟨[.bool x31, .int .i64 x32, .int .i64 x33]⟩ 179) →
 (App Tryz.prog 176 176 (.slice out_20.a out_20.n out_20.c) (.slice (some ⟨h30.size, 0, none⟩) 1 1) h34 fun s35 h36 =>
 (∃ m37, m37 < m19 ∧ I17 s35 (IntKind.wrap .i64 (x_21 + 1)) h36 m37))))))))))
 ((∃ m38, m38 < m6 ∧ I4 out_20 (IntKind.wrap .i64 (x_8 + 1)) h22 m38)))))))))))))
 ((Fn Tryz.prog 175 #[.slice out_7.a out_7.n out_7.c, .func (.func 176) #[] #[]] h9
 (fun v39 h40 => v39 = .tuple ⟨[]⟩ ∧
 (Fn Tryz.prog 177 #[.slice out_7.a out_7.n out_7.c] h40
 (fun v41 h43 => ∃ x42 : Sl, v41 = .slice x42.a x42.n x42.c ∧
 R (.slice x42.a x42.n x42.c) h43))))))))))
theorem vc130 (p0 : Addr) (p1 : Sl) (h : Heap) (R : Value → Heap → Prop) (H : W130 p0 p1 h R) : Fn Tryz.prog 130 #[.pointer (some p0), .slice p1.a p1.n p1.c] h R := fnI (A := (.s .z (.s .z (.s (.s .z (.b (.l [(5, .one (.slice)), (13, .one (.int .i64))] (.s .z (.s .z (.s (.b (.s .z (.s .z (.b (.l [(5, .one (.slice)), (25, .one (.int .i64))] .z))))) .z)))))) .z)))) (by kernel_rfl) H

def W176 (p0_1 : Bool) (p0_2 p0_3 : Int) (p1_4 : Bool) (p1_5 p1_6 : Int) (h : Heap) (R : Value → Heap → Prop) : Prop :=
 (∀ h7 : Heap, h7 = h.push (.cells ⟨[.bool p0_1, .int .i64 p0_2, .int .i64 p0_3]⟩ 179) →
 (∀ h8 : Heap, h8 = h7.push (.cells ⟨[.bool p1_4, .int .i64 p1_5, .int .i64 p1_6]⟩ 179) →
 (∃ x9 : Bool, hc h8 ⟨h.size, 0, none⟩ = some (.bool x9) ∧
 (∃ x10 : Bool, hc h8 ⟨h7.size, 0, none⟩ = some (.bool x10) ∧
 (sB (!(x9 == x10))
 ((∃ x11 : Bool, hc h8 ⟨h.size, 0, none⟩ = some (.bool x11) ∧
 (sB x11
 (R (.int .i64 (-1)) h8)
 (R (.int .i64 1) h8))))
 ((∃ x12 : Int, hc h8 ⟨h.size, 1, none⟩ = some (.int .i64 x12) ∧
 (∃ x13 : Int, hc h8 ⟨h7.size, 1, none⟩ = some (.int .i64 x13) ∧
 (∃ x14 : Int, hc h8 ⟨h.size, 2, none⟩ = some (.int .i64 x14) ∧
 (∃ x15 : Int, hc h8 ⟨h7.size, 2, none⟩ = some (.int .i64 x15) ∧
 (Fn Tryz.prog 155 #[.int .i64 x12, .int .i64 x13] h8
 (fun v16 h18 => ∃ x17 : Int, v16 = .int .i64 x17 ∧
 (Sm [⟨h7.size, 2, none⟩, ⟨h.size, 2, none⟩] h8 h18 ∧
 (Fn Tryz.prog 155 #[.int .i64 x14, .int .i64 x15] h18
 (fun v19 h21 => ∃ x20 : Int, v19 = .int .i64 x20 ∧
 (Sm [⟨h7.size, 1, none⟩, ⟨h.size, 1, none⟩] h18 h21 ∧
 (∀ h22 : Heap, h22 = h21.push (.cells ⟨[.int .i64 x17, .int .i64 x20]⟩ 3) →
 (Fn Tryz.prog 154 #[.slice (some ⟨h21.size, 0, none⟩) 2 2] h22
 (fun v23 h25 => ∃ x24 : Int, v23 = .int .i64 x24 ∧
 R (.int .i64 x24) h25)))))))))))))))))))
theorem vc176 (p0_1 : Bool) (p0_2 p0_3 : Int) (p1_4 : Bool) (p1_5 p1_6 : Int) (h : Heap) (R : Value → Heap → Prop) (H : W176 p0_1 p0_2 p0_3 p1_4 p1_5 p1_6 h R) : Fn Tryz.prog 176 #[.agg ⟨[.bool p0_1, .int .i64 p0_2, .int .i64 p0_3]⟩, .agg ⟨[.bool p1_4, .int .i64 p1_5, .int .i64 p1_6]⟩] h R := fnI (A := .z) (by kernel_rfl) H

/- (*farandole/view.looker).full
 loop rrlrb: out_4:Sl, x_5:Int -/
def W178 (p0 : Addr) (p1 : Sl) (h : Heap) (R : Value → Heap → Prop) : Prop :=
 (∃ I1 : Sl → Int → Heap → Nat → Prop, (∃ m2, I1 ⟨none, 0, 0⟩ 0 h m2) ∧
 (∀ (_ : Env) (out_4 : Sl) (x_5 : Int) (h6 : Heap) (m3 : Nat), I1 out_4 x_5 h6 m3 →
 (sB (decide (x_5 < (p1.n : Int)))
 ((NB p1.a fun b7 o8 => ((0 ≤ (x_5 : Int) ∧ (x_5 : Int) < (p1.n : Nat)) ∧
 (∃ (x9 : Bool) (x10 x11 : Int), atC h6 ⟨b7, o8 + Int.toNat x_5 * 3, none⟩ [.bool x9, .int .i64 x10, .int .i64 x11] ∧
 (∀ h12 : Heap, h12 = h6.push (.cells ⟨[.bool false, .int .i64 0, .int .i64 0]⟩ 179) →
 (okAt h12 ⟨h6.size, 0, none⟩ 3 ∧ ∀ h13 : Heap, h13 = hputs h12 ⟨h6.size, 0, none⟩ 0 [.bool x9, .int .i64 x10, .int .i64 x11] →
 (∃ (x14 : Bool) (x15 x16 : Int), atC h13 ⟨h6.size, 0, none⟩ [.bool x14, .int .i64 x15, .int .i64 x16] ∧
 (∃ x17 : Int, hc h13 ⟨p0.block, p0.off + 8, none⟩ = some (.int .i64 x17) ∧
 (Fn Tryz.prog 212 #[.agg ⟨[.bool x14, .int .i64 x15, .int .i64 x16]⟩, .int .i64 x17] h13
 (fun v18 h24 => ∃ (x19 : Int) (x20 : Bool) (x21 x22 : Int) (x23 : Sl), v18 = .agg ⟨[.int .i64 x19, .bool x20, .int .i64 x21, .int .i64 x22, .slice x23.a x23.n x23.c]⟩ ∧
 (∀ h25 : Heap, h25 = h24.push (.cells ⟨[.int .i64 x19, .bool x20, .int .i64 x21, .int .i64 x22, .slice x23.a x23.n x23.c]⟩ 37) →
 (App Tryz.prog 27 27 (.slice out_4.a out_4.n out_4.c) (.slice (some ⟨h24.size, 0, none⟩) 1 1) h25 fun s26 h27 =>
 (∃ m28, m28 < m3 ∧ I1 s26 (IntKind.wrap .i64 (x_5 + 1)) h27 m28)))))))))))))
 (R (.slice out_4.a out_4.n out_4.c) h6))))
theorem vc178 (p0 : Addr) (p1 : Sl) (h : Heap) (R : Value → Heap → Prop) (H : W178 p0 p1 h R) : Fn Tryz.prog 178 #[.pointer (some p0), .slice p1.a p1.n p1.c] h R := fnI (A := (.s .z (.s .z (.s (.s .z (.b (.l [(5, .one (.slice)), (10, .one (.int .i64))] .z))) .z)))) (by kernel_rfl) H

def W212 (p0_1 : Bool) (p0_2 p0_3 p1 : Int) (h : Heap) (R : Value → Heap → Prop) : Prop :=
 (∀ h4 : Heap, h4 = h.push (.cells ⟨[.bool p0_1, .int .i64 p0_2, .int .i64 p0_3]⟩ 179) →
 (∀ h5 : Heap, h5 = h4.push (.cells ⟨[.int .i64 0, .bool false, .int .i64 0, .int .i64 0, .slice none 0 0]⟩ 37) →
 (∃ x6 : Bool, hc h5 ⟨h.size, 0, none⟩ = some (.bool x6) ∧
 (∃ x7 : Int, hc h5 ⟨h.size, 1, none⟩ = some (.int .i64 x7) ∧
 (∃ x8 : Int, hc h5 ⟨h.size, 2, none⟩ = some (.int .i64 x8) ∧
 (okAt h5 ⟨h4.size, 0, none⟩ 5 ∧ ∀ h9 : Heap, h9 = hputs h5 ⟨h4.size, 0, none⟩ 0 [.int .i64 p1, .bool x6, .int .i64 x7, .int .i64 x8, .slice none 0 0] →
 (∃ (x10 : Int) (x11 : Bool) (x12 x13 : Int) (x14 : Sl), atC h9 ⟨h4.size, 0, none⟩ [.int .i64 x10, .bool x11, .int .i64 x12, .int .i64 x13, .slice x14.a x14.n x14.c] ∧
 R (.agg ⟨[.int .i64 x10, .bool x11, .int .i64 x12, .int .i64 x13, .slice x14.a x14.n x14.c]⟩) h9)))))))
theorem vc212 (p0_1 : Bool) (p0_2 p0_3 p1 : Int) (h : Heap) (R : Value → Heap → Prop) (H : W212 p0_1 p0_2 p0_3 p1 h R) : Fn Tryz.prog 212 #[.agg ⟨[.bool p0_1, .int .i64 p0_2, .int .i64 p0_3]⟩, .int .i64 p1] h R := fnI (A := .z) (by kernel_rfl) H

def W132 (p0_1 : ByteArray) (p0_2 p0_3 : Sl) (p0_4 p0_5 p0_6 : Int) (p0_7 p0_8 : Sl) (p1 p2 : Int) (h : Heap) (R : Value → Heap → Prop) : Prop :=
 (∀ h9 : Heap, h9 = h.push (.cells ⟨[.string p0_1, .slice p0_2.a p0_2.n p0_2.c, .slice p0_3.a p0_3.n p0_3.c, .int .i64 p0_4, .int .i64 p0_5, .int .i64 p0_6, .slice p0_7.a p0_7.n p0_7.c, .slice p0_8.a p0_8.n p0_8.c]⟩ 59) →
 (∃ (x10 : ByteArray) (x11 x12 : Sl) (x13 x14 x15 : Int) (x16 x17 : Sl), atC h9 ⟨h.size, 0, none⟩ [.string x10, .slice x11.a x11.n x11.c, .slice x12.a x12.n x12.c, .int .i64 x13, .int .i64 x14, .int .i64 x15, .slice x16.a x16.n x16.c, .slice x17.a x17.n x17.c] ∧
 (Fn Tryz.prog 123 #[.agg ⟨[.string x10, .slice x11.a x11.n x11.c, .slice x12.a x12.n x12.c, .int .i64 x13, .int .i64 x14, .int .i64 x15, .slice x16.a x16.n x16.c, .slice x17.a x17.n x17.c]⟩, .int .i64 p1] h9
 (fun v18 h21 => ∃ x19 : Option Addr, ∃ x20 : Int, v18 = .tuple ⟨[.pointer x19, .int .i64 x20]⟩ ∧
 (sB (x20 != 0)
 (R (.tuple ⟨[.slice none 0 0, .bool false, .int .i64 x20]⟩) h21)
 ((sB (decide (p2 < 0))
 (R (.tuple ⟨[.slice none 0 0, .bool false, .int .i64 2]⟩) h21)
 ((∃ x22 : Int, hc h21 ⟨h.size, 3, none⟩ = some (.int .i64 x22) ∧
 (sB (decide (p2 ≥ x22))
 (R (.tuple ⟨[.slice none 0 0, .bool false, .int .i64 2]⟩) h21)
 ((∀ h23 : Heap, h23 = h21.push (.cells ⟨[.int .i64 p2]⟩ 3) →
 (Fn Tryz.prog 129 #[.pointer x19, .slice (some ⟨h21.size, 0, none⟩) 1 1] h23
 (fun v24 h26 => ∃ x25 : Sl, v24 = .slice x25.a x25.n x25.c ∧
 (∃ x27 : Int, hc h26 ⟨h.size, 5, none⟩ = some (.int .i64 x27) ∧
 (Fn Tryz.prog 130 #[.pointer x19, .slice x25.a x25.n x25.c] h26
 (fun v28 h30 => ∃ x29 : Sl, v28 = .slice x29.a x29.n x29.c ∧
 (Sm [⟨h.size, 5, none⟩] h26 h30 ∧
 (Fn Tryz.prog 178 #[.pointer x19, .slice x29.a x29.n x29.c] h30
 (fun v31 h33 => ∃ x32 : Sl, v31 = .slice x32.a x32.n x32.c ∧
 (Sm [⟨h.size, 5, none⟩] h30 h33 ∧
 (Fn Tryz.prog 128 #[.slice x25.a x25.n x25.c, .int .i64 x27] h33
 (fun v34 h36 => ∃ x35 : Bool, v34 = .bool x35 ∧
 R (.tuple ⟨[.slice x32.a x32.n x32.c, .bool x35, .int .i64 0]⟩) h36)))))))))))))))))))))))
theorem vc132 (p0_1 : ByteArray) (p0_2 p0_3 : Sl) (p0_4 p0_5 p0_6 : Int) (p0_7 p0_8 : Sl) (p1 p2 : Int) (h : Heap) (R : Value → Heap → Prop) (H : W132 p0_1 p0_2 p0_3 p0_4 p0_5 p0_6 p0_7 p0_8 p1 p2 h R) : Fn Tryz.prog 132 #[.agg ⟨[.string p0_1, .slice p0_2.a p0_2.n p0_2.c, .slice p0_3.a p0_3.n p0_3.c, .int .i64 p0_4, .int .i64 p0_5, .int .i64 p0_6, .slice p0_7.a p0_7.n p0_7.c, .slice p0_8.a p0_8.n p0_8.c]⟩, .int .i64 p1, .int .i64 p2] h R := fnI (A := .z) (by kernel_rfl) H

/- slices.IndexFunc[[]farandole/bits.Set,farandole/bits.Set]
 loop rlrb: x_4:Int -/
def W125 (p0 : Sl) (p1 : FuncId) (p1c : Option Addr) (h : Heap) (R : Value → Heap → Prop) : Prop :=
 (∃ I1 : Int → Heap → Nat → Prop, (∃ m2, I1 0 h m2) ∧
 (∀ (_ : Env) (x_4 : Int) (h5 : Heap) (m3 : Nat), I1 x_4 h5 m3 →
 (sB (decide (x_4 < (p0.n : Int)))
 ((NB p0.a fun b6 o7 => ((0 ≤ (x_4 : Int) ∧ (x_4 : Int) < (p0.n : Nat)) ∧
 (∃ x8 : Sl, hc h5 ⟨b6, o7 + Int.toNat x_4 * 1, none⟩ = some (.slice x8.a x8.n x8.c) ∧
 (bif callable Tryz.prog p1 then Fn Tryz.prog p1 #[.slice x8.a x8.n x8.c, .pointer p1c] h5
 (fun v9 h11 => ∃ x10 : Bool, v9 = .bool x10 ∧
 (sB x10
 (R (.int .i64 x_4) h11)
 ((∃ m12, m12 < m3 ∧ I1 (IntKind.wrap .i64 (x_4 + 1)) h11 m12)))) else ExtW Tryz.prog p1 #[.slice x8.a x8.n x8.c, .pointer p1c] h5
 (fun v9 h11 => ∃ x10 : Bool, v9 = .bool x10 ∧
 (sB x10
 (R (.int .i64 x_4) h11)
 ((∃ m12, m12 < m3 ∧ I1 (IntKind.wrap .i64 (x_4 + 1)) h11 m12)))))))))
 (R (.int .i64 (-1)) h5))))
theorem vc125 (p0 : Sl) (p1 : FuncId) (p1c : Option Addr) (h : Heap) (R : Value → Heap → Prop) (H : W125 p0 p1 p1c h R) : Fn Tryz.prog 125 #[.slice p0.a p0.n p0.c, .func (.func p1) #[] #[.pointer p1c]] h R := fnI (A := (.s .z (.s (.s .z (.b (.l [(8, .one (.int .i64))] .z))) .z))) (by kernel_rfl) H

def W126 (p0 : Sl) (c0 : Addr) (h : Heap) (R : Value → Heap → Prop) : Prop :=
 (∃ x1 : Sl, hc h c0 = some (.slice x1.a x1.n x1.c) ∧
 (Fn Tryz.prog 127 #[.slice p0.a p0.n p0.c, .slice x1.a x1.n x1.c] h
 (fun v2 h4 => ∃ x3 : Bool, v2 = .bool x3 ∧
 R (.bool x3) h4)))
theorem vc126 (p0 : Sl) (c0 : Addr) (h : Heap) (R : Value → Heap → Prop) (H : W126 p0 c0 h R) : Fn Tryz.prog 126 #[.slice p0.a p0.n p0.c, .pointer (some c0)] h R := fnI (A := .z) (by kernel_rfl) H

def W124 (p0 : Sl) (c0 : Addr) (c1 : Addr) (h : Heap) (R : Value → Heap → Prop) : Prop :=
 (∀ h1 : Heap, h1 = h.push (.cells ⟨[.slice p0.a p0.n p0.c]⟩ 115) →
 (∃ x2 : Sl, hc h1 c0 = some (.slice x2.a x2.n x2.c) ∧
 (Fn Tryz.prog 125 #[.slice x2.a x2.n x2.c, .func (.func 126) #[] #[.pointer (some ⟨h.size, 0, none⟩)]] h1
 (fun v3 h5 => ∃ x4 : Int, v3 = .int .i64 x4 ∧
 (sB (decide (x4 ≥ 0))
 (R (.int .i64 x4) h5)
 ((∃ x6 : Sl, hc h5 c0 = some (.slice x6.a x6.n x6.c) ∧
 (∃ x7 : Sl, hc h5 ⟨h.size, 0, none⟩ = some (.slice x7.a x7.n x7.c) ∧
 (∃ x8 : Sl, hc h5 ⟨c0.block, c0.off + 1, none⟩ = some (.slice x8.a x8.n x8.c) ∧
 (∃ x9 : Sl, hc h5 ⟨h.size, 0, none⟩ = some (.slice x9.a x9.n x9.c) ∧
 (∃ x10 : Int, hc h5 ⟨c1.block, c1.off + 5, none⟩ = some (.int .i64 x10) ∧
 (∀ h11 : Heap, h11 = h5.push (.cells ⟨[.slice x7.a x7.n x7.c]⟩ 115) →
 (Sm [⟨c1.block, c1.off + 5, none⟩, ⟨h.size, 0, none⟩, ⟨c0.block, c0.off + 1, none⟩, c0] h5 h11 ∧
 (App Tryz.prog 107 107 (.slice x6.a x6.n x6.c) (.slice (some ⟨h5.size, 0, none⟩) 1 1) h11 fun s12 h13 =>
 (Sm [⟨c1.block, c1.off + 5, none⟩, ⟨h.size, 0, none⟩, ⟨c0.block, c0.off + 1, none⟩] h11 h13 ∧
 (Fn Tryz.prog 128 #[.slice x9.a x9.n x9.c, .int .i64 x10] h13
 (fun v14 h16 => ∃ x15 : Bool, v14 = .bool x15 ∧
 (Sm [⟨c0.block, c0.off + 1, none⟩, ⟨h.size, 0, none⟩, c0] h13 h16 ∧
 (∀ h17 : Heap, h17 = h16.push (.cells ⟨[.bool x15]⟩ 4) →
 (Sm [⟨c0.block, c0.off + 1, none⟩, ⟨h.size, 0, none⟩, c0] h16 h17 ∧
 (App Tryz.prog 22 22 (.slice x8.a x8.n x8.c) (.slice (some ⟨h16.size, 0, none⟩) 1 1) h17 fun s18 h19 =>
 (Sm [⟨h.size, 0, none⟩, c0] h17 h19 ∧
 (okAt h19 c0 1 ∧ ∀ h20 : Heap, h20 = hputs h19 c0 0 [.slice s12.a s12.n s12.c] →
 (Sm [⟨c1.block, c1.off + 5, none⟩, ⟨h.size, 0, none⟩] h19 h20 ∧
 (okAt h20 ⟨c0.block, c0.off + 1, none⟩ 1 ∧ ∀ h21 : Heap, h21 = hputs h20 ⟨c0.block, c0.off + 1, none⟩ 0 [.slice s18.a s18.n s18.c] →
 (∃ x22 : Sl, hc h21 c0 = some (.slice x22.a x22.n x22.c) ∧
 R (.int .i64 (IntKind.wrap .i64 ((x22.n : Int) - 1))) h21))))))))))))))))))))))))))
theorem vc124 (p0 : Sl) (c0 : Addr) (c1 : Addr) (h : Heap) (R : Value → Heap → Prop) (H : W124 p0 c0 c1 h R) : Fn Tryz.prog 124 #[.slice p0.a p0.n p0.c, .pointer (some c0), .pointer (some c1)] h R := fnI (A := .z) (by kernel_rfl) H

/- farandole/view.Views
 loop rrrrrrlrborlblrb: x_52:Int
 loop rrrrrrlrb: i_39:Int -/
def W70 (p0_1 : ByteArray) (p0_2 p0_3 : Sl) (p0_4 p0_5 p0_6 : Int) (p0_7 p0_8 : Sl) (p1 : Int) (h : Heap) (R : Value → Heap → Prop) : Prop :=
 (∀ h9 : Heap, h9 = h.push (.cells ⟨[.string p0_1, .slice p0_2.a p0_2.n p0_2.c, .slice p0_3.a p0_3.n p0_3.c, .int .i64 p0_4, .int .i64 p0_5, .int .i64 p0_6, .slice p0_7.a p0_7.n p0_7.c, .slice p0_8.a p0_8.n p0_8.c]⟩ 59) →
 (∀ h10 : Heap, h10 = h9.push (.cells ⟨[.slice none 0 0, .slice none 0 0, .slice none 0 0]⟩ 109) →
 (∃ (x11 : ByteArray) (x12 x13 : Sl) (x14 x15 x16 : Int) (x17 x18 : Sl), atC h10 ⟨h.size, 0, none⟩ [.string x11, .slice x12.a x12.n x12.c, .slice x13.a x13.n x13.c, .int .i64 x14, .int .i64 x15, .int .i64 x16, .slice x17.a x17.n x17.c, .slice x18.a x18.n x18.c] ∧
 (Fn Tryz.prog 123 #[.agg ⟨[.string x11, .slice x12.a x12.n x12.c, .slice x13.a x13.n x13.c, .int .i64 x14, .int .i64 x15, .int .i64 x16, .slice x17.a x17.n x17.c, .slice x18.a x18.n x18.c]⟩, .int .i64 p1] h10
 (fun v19 h22 => ∃ x20 : Option Addr, ∃ x21 : Int, v19 = .tuple ⟨[.pointer x20, .int .i64 x21]⟩ ∧
 (sB (x21 != 0)
 ((okAt h22 ⟨h9.size, 0, none⟩ 3 ∧ ∀ h23 : Heap, h23 = hputs h22 ⟨h9.size, 0, none⟩ 0 [.slice none 0 0, .slice none 0 0, .slice none 0 0] →
 (∃ (x24 x25 x26 : Sl), atC h23 ⟨h9.size, 0, none⟩ [.slice x24.a x24.n x24.c, .slice x25.a x25.n x25.c, .slice x26.a x26.n x26.c] ∧
 R (.tuple ⟨[.agg ⟨[.slice x24.a x24.n x24.c, .slice x25.a x25.n x25.c, .slice x26.a x26.n x26.c]⟩, .int .i64 x21]⟩) h23)))
 ((∀ h27 : Heap, h27 = h22.push (.cells ⟨[.slice none 0 0, .slice none 0 0, .slice none 0 0]⟩ 109) →
 (∃ x28 : Int, hc h27 ⟨h.size, 4, none⟩ = some (.int .i64 x28) ∧
 (∀ h29 : Heap, h29 = h27.push (.cells ⟨[.int .i64 x28]⟩ 3) →
 (Fn Tryz.prog 129 #[.pointer x20, .slice (some ⟨h27.size, 0, none⟩) 1 1] h29
 (fun v30 h32 => ∃ x31 : Sl, v30 = .slice x31.a x31.n x31.c ∧
 (Fn Tryz.prog 124 #[.slice x31.a x31.n x31.c, .pointer (some ⟨h22.size, 0, none⟩), .pointer (some ⟨h.size, 0, none⟩)] h32
 (fun v33 h35 => ∃ x34 : Int, v33 = .int .i64 x34 ∧
 (∃ I36 : Int → Heap → Nat → Prop, (∃ m37, I36 0 h35 m37) ∧
 (∀ (_ : Env) (i_39 : Int) (h40 : Heap) (m38 : Nat), I36 i_39 h40 m38 →
 (∃ x41 : Sl, hc h40 ⟨h22.size, 0, none⟩ = some (.slice x41.a x41.n x41.c) ∧
 (sB (decide (i_39 < (x41.n : Int)))
 ((∃ x42 : Sl, hc h40 ⟨h22.size, 0, none⟩ = some (.slice x42.a x42.n x42.c) ∧
 (NB x42.a fun b43 o44 => ((0 ≤ (i_39 : Int) ∧ (i_39 : Int) < (x42.n : Nat)) ∧
 (∃ x45 : Sl, hc h40 ⟨b43, o44 + Int.toNat i_39 * 1, none⟩ = some (.slice x45.a x45.n x45.c) ∧
 (Fn Tryz.prog 130 #[.pointer x20, .slice x45.a x45.n x45.c] h40
 (fun v46 h48 => ∃ x47 : Sl, v46 = .slice x47.a x47.n x47.c ∧
 (∃ I49 : Int → Heap → Nat → Prop, (∃ m50, I49 0 h48 m50) ∧
 (∀ (_ : Env) (x_52 : Int) (h53 : Heap) (m51 : Nat), I49 x_52 h53 m51 →
 (sB (decide (x_52 < (x47.n : Int)))
 ((NB x47.a fun b54 o55 => ((0 ≤ (x_52 : Int) ∧ (x_52 : Int) < (x47.n : Nat)) ∧
 (∃ (x56 : Bool) (x57 x58 : Int), atC h53 ⟨b54, o55 + Int.toNat x_52 * 3, none⟩ [.bool x56, .int .i64 x57, .int .i64 x58] ∧
 (∀ h59 : Heap, h59 = h53.push (.cells ⟨[.bool false, .int .i64 0, .int .i64 0]⟩ 179) →
 (okAt h59 ⟨h53.size, 0, none⟩ 3 ∧ ∀ h60 : Heap, h60 = hputs h59 ⟨h53.size, 0, none⟩ 0 [.bool x56, .int .i64 x57, .int .i64 x58] →
 (∃ x61 : Sl, hc h60 ⟨h22.size, 0, none⟩ = some (.slice x61.a x61.n x61.c) ∧
 (NB x61.a fun b62 o63 => ((0 ≤ (i_39 : Int) ∧ (i_39 : Int) < (x61.n : Nat)) ∧
 (∃ x64 : Sl, hc h60 ⟨b62, o63 + Int.toNat i_39 * 1, none⟩ = some (.slice x64.a x64.n x64.c) ∧
 (∃ (x65 : Bool) (x66 x67 : Int), atC h60 ⟨h53.size, 0, none⟩ [.bool x65, .int .i64 x66, .int .i64 x67] ∧
 (Fn Tryz.prog 131 #[.pointer x20, .slice x64.a x64.n x64.c, .agg ⟨[.bool x65, .int .i64 x66, .int .i64 x67]⟩] h60
 (fun v68 h70 => ∃ x69 : Sl, v68 = .slice x69.a x69.n x69.c ∧
 (Fn Tryz.prog 124 #[.slice x69.a x69.n x69.c, .pointer (some ⟨h22.size, 0, none⟩), .pointer (some ⟨h.size, 0, none⟩)] h70
 (fun v71 h73 => ∃ x72 : Int, v71 = .int .i64 x72 ∧
 (∃ x74 : Sl, hc h73 ⟨h22.size, 2, none⟩ = some (.slice x74.a x74.n x74.c) ∧
 (∃ x75 : Bool, hc h73 ⟨h53.size, 0, none⟩ = some (.bool x75) ∧
 (∃ x76 : Int, hc h73 ⟨h53.size, 1, none⟩ = some (.int .i64 x76) ∧
 (∃ x77 : Int, hc h73 ⟨h53.size, 2, none⟩ = some (.int .i64 x77) ∧
 (∀ h78 : Heap, h78 = h73.push (.cells ⟨[.int .i64 i_39, .bool x75, .int .i64 x76, .int .i64 x77, .int .i64 x72, .bool false]⟩ 81) →
 (App Tryz.prog 23 23 (.slice x74.a x74.n x74.c) (.slice (some ⟨h73.size, 0, none⟩) 1 1) h78 fun s79 h80 =>
 (okAt h80 ⟨h22.size, 2, none⟩ 1 ∧ ∀ h81 : Heap, h81 = hputs h80 ⟨h22.size, 2, none⟩ 0 [.slice s79.a s79.n s79.c] →
 (∃ m82, m82 < m51 ∧ I49 (IntKind.wrap .i64 (x_52 + 1)) h81 m82)))))))))))))))))))))))
 ((∃ x83 : Sl, hc h53 ⟨h22.size, 0, none⟩ = some (.slice x83.a x83.n x83.c) ∧
 (sB (decide ((x83.n : Int) > 200))
 ((okAt h53 ⟨h9.size, 0, none⟩ 3 ∧ ∀ h84 : Heap, h84 = hputs h53 ⟨h9.size, 0, none⟩ 0 [.slice none 0 0, .slice none 0 0, .slice none 0 0] →
 (∃ (x85 x86 x87 : Sl), atC h84 ⟨h9.size, 0, none⟩ [.slice x85.a x85.n x85.c, .slice x86.a x86.n x86.c, .slice x87.a x87.n x87.c] ∧
 R (.tuple ⟨[.agg ⟨[.slice x85.a x85.n x85.c, .slice x86.a x86.n x86.c, .slice x87.a x87.n x87.c]⟩, .int .i64 6]⟩) h84)))
 ((∃ m88, m88 < m38 ∧ I36 (IntKind.wrap .i64 (i_39 + 1)) h53 m88)))))))))))))))
 ((∃ (x89 x90 x91 : Sl), atC h40 ⟨h22.size, 0, none⟩ [.slice x89.a x89.n x89.c, .slice x90.a x90.n x90.c, .slice x91.a x91.n x91.c] ∧
 (okAt h40 ⟨h9.size, 0, none⟩ 3 ∧ ∀ h92 : Heap, h92 = hputs h40 ⟨h9.size, 0, none⟩ 0 [.slice x89.a x89.n x89.c, .slice x90.a x90.n x90.c, .slice x91.a x91.n x91.c] →
 (∃ (x93 x94 x95 : Sl), atC h92 ⟨h9.size, 0, none⟩ [.slice x93.a x93.n x93.c, .slice x94.a x94.n x94.c, .slice x95.a x95.n x95.c] ∧
 R (.tuple ⟨[.agg ⟨[.slice x93.a x93.n x93.c, .slice x94.a x94.n x94.c, .slice x95.a x95.n x95.c]⟩, .int .i64 0]⟩) h92))))))))))))))))))))))
theorem vc70 (p0_1 : ByteArray) (p0_2 p0_3 : Sl) (p0_4 p0_5 p0_6 : Int) (p0_7 p0_8 : Sl) (p1 : Int) (h : Heap) (R : Value → Heap → Prop) (H : W70 p0_1 p0_2 p0_3 p0_4 p0_5 p0_6 p0_7 p0_8 p1 h R) : Fn Tryz.prog 70 #[.agg ⟨[.string p0_1, .slice p0_2.a p0_2.n p0_2.c, .slice p0_3.a p0_3.n p0_3.c, .int .i64 p0_4, .int .i64 p0_5, .int .i64 p0_6, .slice p0_7.a p0_7.n p0_7.c, .slice p0_8.a p0_8.n p0_8.c]⟩, .int .i64 p1] h R := fnI (A := (.s .z (.s .z (.s .z (.s .z (.s .z (.s .z (.s (.s .z (.b (.l [(10, .one (.int .i64))] (.s .z (.s (.b (.s (.s .z (.b (.l [(47, .one (.int .i64))] .z))) .z)) .z))))) .z)))))))) (by kernel_rfl) H

/- cmp.Or[int]
 loop rrlrb: x_4:Int -/
def W154 (p0 : Sl) (h : Heap) (R : Value → Heap → Prop) : Prop :=
 (∃ I1 : Int → Heap → Nat → Prop, (∃ m2, I1 0 h m2) ∧
 (∀ (_ : Env) (x_4 : Int) (h5 : Heap) (m3 : Nat), I1 x_4 h5 m3 →
 (sB (decide (x_4 < (p0.n : Int)))
 ((NB p0.a fun b6 o7 => ((0 ≤ (x_4 : Int) ∧ (x_4 : Int) < (p0.n : Nat)) ∧
 (∃ x8 : Int, hc h5 ⟨b6, o7 + Int.toNat x_4 * 1, none⟩ = some (.int .i64 x8) ∧
 (sB (x8 != 0)
 (R (.int .i64 x8) h5)
 ((∃ m9, m9 < m3 ∧ I1 (IntKind.wrap .i64 (x_4 + 1)) h5 m9)))))))
 (R (.int .i64 0) h5))))
theorem vc154 (p0 : Sl) (h : Heap) (R : Value → Heap → Prop) (H : W154 p0 h R) : Fn Tryz.prog 154 #[.slice p0.a p0.n p0.c] h R := fnI (A := (.s .z (.s .z (.s (.s .z (.b (.l [(8, .one (.int .i64))] .z))) .z)))) (by kernel_rfl) H

def W155 (p0 p1 : Int) (h : Heap) (R : Value → Heap → Prop) : Prop :=
 (Fn Tryz.prog 185 #[.int .i64 p0] h
 (fun v1 h3 => ∃ x2 : Bool, v1 = .bool x2 ∧
 (Fn Tryz.prog 185 #[.int .i64 p1] h3
 (fun v4 h6 => ∃ x5 : Bool, v4 = .bool x5 ∧
 (sB x2
 ((sB x5
 (R (.int .i64 0) h6)
 (R (.int .i64 (-1)) h6)))
 ((sB x5
 (R (.int .i64 1) h6)
 ((sB (decide (p0 < p1))
 (R (.int .i64 (-1)) h6)
 ((sB (decide (p0 > p1))
 (R (.int .i64 1) h6)
 (R (.int .i64 0) h6))))))))))))
theorem vc155 (p0 p1 : Int) (h : Heap) (R : Value → Heap → Prop) (H : W155 p0 p1 h R) : Fn Tryz.prog 155 #[.int .i64 p0, .int .i64 p1] h R := fnI (A := .z) (by kernel_rfl) H

def W185 (p0 : Int) (h : Heap) (R : Value → Heap → Prop) : Prop :=
 R (.bool (p0 != p0)) h
theorem vc185 (p0 : Int) (h : Heap) (R : Value → Heap → Prop) (H : W185 p0 h R) : Fn Tryz.prog 185 #[.int .i64 p0] h R := fnI (A := .z) (by kernel_rfl) H

end Go.VC
end
