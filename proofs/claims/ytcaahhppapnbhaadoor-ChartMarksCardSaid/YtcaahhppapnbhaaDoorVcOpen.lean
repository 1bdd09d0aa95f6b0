import Derived.Test.YtcaahhppapnbhaaDoorVcEnd
import Derived.ChangeArms
set_option linter.unusedVariables false
set_option linter.unusedSimpArgs false

/- What an argument of a law looks like in memory, type by type. -/
namespace Go.VC
open Go.ChangeShapes Go.WideShapes Go.RowKit

/-- a slice that can be read: its cells are xs -/
def RdS (h : Heap) (size : Nat) (s : Sl) (xs : List Value) : Prop :=
  xs.length = s.n * size ∧ (s.n = 0 ∨ ∃ g o, s.a = some ⟨g, o, none⟩ ∧ atC h ⟨g, o, none⟩ xs)
/-- the cells cs read as type t -/
def Rdt (P : Program) (W : World) (t : TypeId) (cs : List Value) : Prop :=
  ∃ (H : Type) (enc : TypeId × Value → H) (n : Nat) (x : DataW H × List MemPlace), DataW.trod enc P W 0 (fun _ => true) true n t cs = some x
theorem Rdt.int {P : Program} {W : World} {t : TypeId} {cs : List Value} {k : IntKind} (ht : P.underlying t = some (.int k)) (h : Rdt P W t cs) : ∃ n, cs = [.int k n] ∧ (Lit.int k n).wf = true := by
  obtain ⟨H, enc, n, x, h⟩ := h
  obtain ⟨m, h1, _, h2⟩ := DataW.trod_int ht h
  exact ⟨m, h1, h2⟩
theorem Rdt.str {P : Program} {W : World} {t : TypeId} {cs : List Value} (ht : P.underlying t = some .string) (h : Rdt P W t cs) : ∃ s : ByteArray, cs = [.string s] ∧ s.size ≤ maxLen := by
  obtain ⟨H, enc, n, x, h⟩ := h
  obtain ⟨m, h1, _, h2⟩ := DataW.trod_string ht h
  exact ⟨m, h1, h2⟩
theorem Rdt.bool {P : Program} {W : World} {t : TypeId} {cs : List Value} (ht : P.underlying t = some .bool) (h : Rdt P W t cs) : ∃ b, cs = [.bool b] := by
  obtain ⟨H, enc, n, x, h⟩ := h
  cases n with
  | zero => simp [DataW.trod] at h
  | succ n =>
    unfold DataW.trod at h
    rw [ht] at h
    split at h <;> simp_all
theorem Rdt.struct {P : Program} {W : World} {t : TypeId} {cs : List Value} {fs : Array Field} (ht : P.underlying t = some (.struct fs)) (h : Rdt P W t cs) :
    cs.length = P.cellsOf t ∧ ∀ (i : Nat) (f : Field), fs[i]? = some f → Rdt P W f.type ((cs.drop f.offset).take (P.cellsOf f.type)) := by
  obtain ⟨H, enc, n, x, h⟩ := h
  obtain ⟨xs, m, _, _, hl, hx, hf⟩ := DataW.trod_struct ht h
  refine ⟨hl, fun i f hi => ?_⟩
  have hlt : i < xs.length := by rw [hx]; exact (Array.getElem?_eq_some_iff.1 hi).1
  exact ⟨H, enc, m, xs[i], by rw [hf i f hi, List.getElem?_eq_getElem hlt]⟩
theorem mapM_range {α : Type} {f : Nat → Option α} : ∀ (n : Nat) {r : List α}, (List.range n).mapM f = some r → r.length = n ∧ ∀ i, i < n → f i = r[i]?
  | 0, r, h => by simp at h; subst h; exact ⟨rfl, fun i hi => by omega⟩
  | n + 1, r, h => by
    rw [List.range_succ, List.mapM_append] at h
    simp only [List.mapM_cons, List.mapM_nil, Option.bind_eq_bind, Option.pure_def, Option.bind_eq_some_iff, Option.some.injEq] at h
    obtain ⟨a, ha, b, ⟨c, hc, d, rfl, rfl⟩, rfl⟩ := h
    obtain ⟨h1, h2⟩ := mapM_range n ha
    refine ⟨by simp [h1], fun i hi => ?_⟩
    by_cases hin : i < n
    · rw [List.getElem?_append_left (by omega)]; exact h2 i hin
    · have : i = n := by omega
      subst this
      rw [List.getElem?_append_right (by omega), h1, hc]; simp
theorem cells_at {W : World} {base : Nat} {a : Addr} {n : Nat} {cs : List Value} (h : W.cells? base a n = some cs) : cs.length = n ∧ ∀ i v, cs[i]? = some v → W.cell? (a.add i) = some v := by
  unfold World.cells? at h
  split at h
  · obtain ⟨h1, h2⟩ := mapM_range n h
    exact ⟨h1, fun i v hi => by rw [h2 i (by have := (List.getElem?_eq_some_iff.1 hi).1; omega)]; exact hi⟩
  · cases h
theorem flat_get {α : Type} : ∀ (ll : List (List α)) (k : Nat), (∀ l ∈ ll, l.length = k) → ll.flatten.length = ll.length * k ∧ ∀ i l, ll[i]? = some l → (ll.flatten.drop (i * k)).take k = l
  | [], k, _ => ⟨by simp, fun i l h => by simp at h⟩
  | a :: ll, k, h => by
    obtain ⟨h1, h2⟩ := flat_get ll k (fun l hl => h l (List.mem_cons_of_mem _ hl))
    have ha := h a List.mem_cons_self
    refine ⟨by rw [List.flatten_cons, List.length_append, h1, ha, List.length_cons, Nat.add_mul]; omega, fun i l hi => ?_⟩
    cases i with
    | zero =>
      rw [List.getElem?_cons_zero] at hi
      cases hi
      rw [List.flatten_cons, Nat.zero_mul, List.drop_zero, ← ha]; exact List.take_left' rfl
    | succ i =>
      rw [List.getElem?_cons_succ] at hi
      rw [List.flatten_cons, Nat.add_mul, Nat.one_mul, Nat.add_comm, ← List.drop_drop, List.drop_left' ha]
      exact h2 i l hi
theorem add_n (b o n : Nat) : (⟨b, o, none⟩ : Addr).add n = ⟨b, o + n, none⟩ := by
  unfold Addr.add
  by_cases h : n = 0
  · rw [if_pos h, h]; rfl
  · rw [if_neg h]
theorem Rdt.slice {P : Program} {W : World} {t e : TypeId} {cs : List Value} (ht : P.underlying t = some (.slice e)) (h : Rdt P W t cs) (hpos : 0 < P.cellsOf e) :
    ∃ (s : Sl) (xs : List Value), cs = [.slice s.a s.n s.c] ∧ s.n ≤ s.c ∧ s.c ≤ maxLen ∧ RdS W.heap (P.cellsOf e) s xs ∧ ∀ i, i < s.n → Rdt P W e ((xs.drop (i * P.cellsOf e)).take (P.cellsOf e)) := by
  obtain ⟨H, enc, n, x, h⟩ := h
  rcases DataW.trod_slice ht h with ⟨rfl, _⟩ | ⟨a, len, cap, elems, rest, m, _, rfl, _, _, hlc, hcm, hel, helem, _, _⟩
  · exact ⟨⟨none, 0, 0⟩, [], rfl, Nat.le_refl _, Nat.zero_le _, ⟨by simp, .inl rfl⟩, fun i hi => by simp at hi⟩
  · by_cases h0 : len = 0
    · subst h0
      exact ⟨⟨some a, 0, cap⟩, [], rfl, hlc, hcm, ⟨by simp, .inl rfl⟩, fun i hi => by simp at hi⟩
    · have hrow : ∀ i, i < len → ∃ r, W.cells? 0 (a.add (i * P.cellsOf e)) (P.cellsOf e) = some r ∧ Rdt P W e r := by
        intro i hi
        have h1 := helem i hi
        rw [List.getElem?_eq_getElem (by omega)] at h1
        obtain ⟨r, hr, hx⟩ := Option.bind_eq_some_iff.1 h1
        exact ⟨r, hr, H, enc, m, _, hx⟩
      let row : Nat → List Value := fun i => (W.cells? 0 (a.add (i * P.cellsOf e)) (P.cellsOf e)).getD []
      have hrow' : ∀ i, i < len → W.cells? 0 (a.add (i * P.cellsOf e)) (P.cellsOf e) = some (row i) ∧ Rdt P W e (row i) := fun i hi => by
        obtain ⟨r, hr, hx⟩ := hrow i hi
        have : row i = r := by show (W.cells? 0 _ _).getD [] = r; rw [hr]; rfl
        rw [this]; exact ⟨hr, hx⟩
      have hlen : ∀ l ∈ (List.range len).map row, l.length = P.cellsOf e := fun l hl => by
        obtain ⟨i, hi, rfl⟩ := List.mem_map.1 hl
        exact (cells_at (hrow' i (List.mem_range.1 hi)).1).1
      obtain ⟨f1, f2⟩ := flat_get _ _ hlen
      have hget : ∀ i, i < len → ((List.range len).map row)[i]? = some (row i) := fun i hi => by
        rw [List.getElem?_map, List.getElem?_range hi]; rfl
      -- the first cell: the address is whole
      have hspot : a = ⟨a.block, a.off, none⟩ := by
        have hc := (cells_at (hrow' 0 (by omega)).1)
        have hl0 : 0 < (row 0).length := by rw [hc.1]; exact hpos
        have := hc.2 0 _ (List.getElem?_eq_getElem hl0)
        rw [Nat.zero_mul, show (a.add 0).add 0 = a from rfl] at this
        unfold World.cell? at this
        split at this
        · split at this
          · cases this
          · rename_i hs
            cases a with
            | mk b o s =>
              cases s with
              | none => rfl
              | some s => exact absurd rfl hs
        · cases this
      refine ⟨⟨some a, len, cap⟩, ((List.range len).map row).flatten, rfl, hlc, hcm, ⟨by rw [f1]; simp, .inr ⟨a.block, a.off, by rw [← hspot], fun j v hj => ?_⟩⟩, fun i hi => ?_⟩
      · have hjl : j < len * P.cellsOf e := by
          have := (List.getElem?_eq_some_iff.1 hj).1
          rw [f1] at this; simpa using this
        have hdiv : j / P.cellsOf e < len := (Nat.div_lt_iff_lt_mul hpos).2 hjl
        have h2 := f2 _ _ (hget _ hdiv)
        have hmod : j % P.cellsOf e < P.cellsOf e := Nat.mod_lt _ hpos
        have hdm : j / P.cellsOf e * P.cellsOf e + j % P.cellsOf e = j := by rw [Nat.mul_comm]; exact Nat.div_add_mod _ _
        have h3 : (row (j / P.cellsOf e))[j % P.cellsOf e]? = some v := by
          rw [← h2, List.getElem?_take, if_pos hmod, List.getElem?_drop, hdm]; exact hj
        have h4 := (cells_at (hrow' _ hdiv).1).2 _ _ h3
        rw [hspot] at h4
        have e : ((⟨a.block, a.off, none⟩ : Addr).add (j / P.cellsOf e * P.cellsOf e)).add (j % P.cellsOf e) = addk ⟨a.block, a.off, none⟩ j := by
          rw [addk_at, add_n, add_n, Nat.add_assoc, hdm]
        rw [e] at h4
        exact h4
      · rw [f2 i _ (hget i hi)]
        exact (hrow' i hi).2
end Go.VC
