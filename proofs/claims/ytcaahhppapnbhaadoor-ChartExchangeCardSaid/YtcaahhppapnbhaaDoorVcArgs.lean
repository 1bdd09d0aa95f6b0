/- For every program: what arguments look like in memory, field by field. -/
import Derived.Test.YtcaahhppapnbhaaDoorVcRow
import Derived.OpenShut
import Derived.WideShapes
set_option linter.unusedVariables false
set_option linter.unusedSimpArgs false

namespace Go.VC
open Go.ChangeShapes Go.WideShapes Go.RowKit
set_option maxRecDepth 100000

/-- the type and the place of a struct's field -/
def fieldAt (P : Program) (t : TypeId) (i : Nat) : Option (TypeId × Nat) := match P.underlying t with
  | some (.struct fs) => (fs[i]?).map fun f => (f.type, f.offset)
  | _ => none
theorem Rdt.field {P : Program} {W : World} {t ft : TypeId} {cs : List Value} {i off : Nat} (h : Rdt P W t cs) (hf : fieldAt P t i = some (ft, off)) : Rdt P W ft ((cs.drop off).take (P.cellsOf ft)) := by
  unfold fieldAt at hf
  split at hf
  · rename_i fs hu
    obtain ⟨f, h1, h2⟩ := Option.map_eq_some_iff.1 hf
    cases h2
    exact (h.struct hu).2 i f h1
  · cases hf
theorem Rdt.flen {P : Program} {W : World} {t ft : TypeId} {cs : List Value} {i off : Nat} (h : Rdt P W t cs) (hf : fieldAt P t i = some (ft, off)) : cs.length = P.cellsOf t := by
  unfold fieldAt at hf
  split at hf
  · rename_i fs hu; exact (h.struct hu).1
  · cases hf
theorem Rdt.array {P : Program} {W : World} {t e : TypeId} {n : Nat} {cs : List Value} (ht : P.underlying t = some (.array n e)) (h : Rdt P W t cs) :
    cs.length = P.cellsOf t ∧ ∀ i, i < n → Rdt P W e ((cs.drop (i * P.cellsOf e)).take (P.cellsOf e)) := by
  obtain ⟨H, enc, m, x, h⟩ := h
  obtain ⟨xs, k, _, _, hl, hx, hf⟩ := DataW.trod_array ht h
  refine ⟨hl, fun i hi => ?_⟩
  exact ⟨H, enc, k, xs[i]'(by omega), by rw [hf i hi, List.getElem?_eq_getElem (by omega)]⟩
theorem rdt_of_trod {H : Type} {enc : TypeId × Value → H} {P : Program} {W : World} {t : TypeId} {v : Value} {d : DataW H} {p : List MemPlace} (h : DataW.Trod enc P W 0 (fun _ => true) true t v d p) : Rdt P W t v.cells.toList := by
  obtain ⟨n, h⟩ := h
  exact ⟨H, enc, n, _, h⟩
theorem okWide_agg {P : Program} {w : World} {r : Reach} {base : Nat} {t : TypeId} {v : Value} (ht : aggB P t = true) (h : Value.okWide P w r base t v) : ∃ cs, v = .agg cs := by
  unfold aggB at ht
  unfold Value.okWide at h
  split at ht
  · rename_i hu; simp only [hu] at h; obtain ⟨cs, h1, _⟩ := h; exact ⟨cs, h1⟩
  · rename_i hu; simp only [hu] at h; obtain ⟨cs, h1, _⟩ := h; exact ⟨cs, h1⟩
  · cases ht
/-- rows of a slice of strings -/
theorem rows_str {P : Program} {W : World} {t : TypeId} (ht : P.underlying t = some .string) : ∀ (rows : List (List Value)), (∀ r ∈ rows, Rdt P W t r) → ∃ L : List (List UInt8), rows = strR L
  | [], _ => ⟨[], rfl⟩
  | r :: rows, h => by
    obtain ⟨s, hs, _⟩ := (h r (by simp)).str ht
    obtain ⟨L, hL⟩ := rows_str ht rows fun x hx => h x (List.mem_cons_of_mem _ hx)
    refine ⟨s.data.toList :: L, ?_⟩
    rw [hs, hL]
    unfold strR sV
    rw [List.map_cons, bs_of]
theorem rows_map {α : Type} {Q : List Value → Prop} {f : α → List Value} (hf : ∀ r, Q r → ∃ x, r = f x) : ∀ (rows : List (List Value)), (∀ r ∈ rows, Q r) → ∃ L : List α, rows = L.map f
  | [], _ => ⟨[], rfl⟩
  | r :: rows, h => by
    obtain ⟨x, hx⟩ := hf r (h r (by simp))
    obtain ⟨L, hL⟩ := rows_map hf rows fun x hx => h x (List.mem_cons_of_mem _ hx)
    exact ⟨x :: L, by rw [hx, hL]; rfl⟩
/-! ### with the weights: no slice is greater than the reach -/
theorem weights_mem {H : Type} {P : Program} : ∀ {ts : List TypeId} {ds : List (DataW H)} {i : Nat} {t : TypeId} {d : DataW H}, ts[i]? = some t → ds[i]? = some d → ∀ k ∈ d.weights P t, k ∈ DataW.weightsEach P ts ds
  | [], _, _, _, _, h, _, _, _ => by simp at h
  | _ :: _, [], _, _, _, _, h, _, _ => by simp at h
  | a :: ts, b :: ds, 0, t, d, h1, h2, k, hk => by
    rw [List.getElem?_cons_zero] at h1 h2; cases h1; cases h2
    rw [DataW.weightsEach]; exact List.mem_append_left _ hk
  | a :: ts, b :: ds, i + 1, t, d, h1, h2, k, hk => by
    rw [List.getElem?_cons_succ] at h1 h2
    rw [DataW.weightsEach]; exact List.mem_append_right _ (weights_mem h1 h2 k hk)
theorem weightsAll_mem {H : Type} {P : Program} {e : TypeId} : ∀ {ds : List (DataW H)} {i : Nat} {d : DataW H}, ds[i]? = some d → ∀ k ∈ d.weights P e, k ∈ DataW.weightsAll P e ds
  | [], _, _, h, _, _ => by simp at h
  | b :: ds, 0, d, h, k, hk => by
    rw [List.getElem?_cons_zero] at h; cases h
    rw [DataW.weightsAll]; exact List.mem_append_left _ hk
  | b :: ds, i + 1, d, h, k, hk => by
    rw [List.getElem?_cons_succ] at h
    rw [DataW.weightsAll]; exact List.mem_append_right _ (weightsAll_mem h k hk)
def Rdw (P : Program) (W : World) (t : TypeId) (cs : List Value) : Prop :=
  ∃ (H : Type) (enc : TypeId × Value → H) (n : Nat) (x : DataW H × List MemPlace), DataW.trod enc P W 0 (fun _ => true) true n t cs = some x ∧ ∀ k ∈ x.1.weights P t, k ≤ reachBytes
theorem Rdw.rdt {P : Program} {W : World} {t : TypeId} {cs : List Value} (h : Rdw P W t cs) : Rdt P W t cs := by
  obtain ⟨H, enc, n, x, h1, _⟩ := h; exact ⟨H, enc, n, x, h1⟩
theorem rdw_of_trod {H : Type} {enc : TypeId × Value → H} {P : Program} {W : World} {t : TypeId} {v : Value} {d : DataW H} {p : List MemPlace} (h : DataW.Trod enc P W 0 (fun _ => true) true t v d p) (hw : ∀ k ∈ d.weights P t, k ≤ reachBytes) : Rdw P W t v.cells.toList := by
  obtain ⟨n, h⟩ := h
  exact ⟨H, enc, n, _, h, hw⟩
theorem Rdw.field {P : Program} {W : World} {t ft : TypeId} {cs : List Value} {i off : Nat} (h : Rdw P W t cs) (hf : fieldAt P t i = some (ft, off)) : Rdw P W ft ((cs.drop off).take (P.cellsOf ft)) := by
  unfold fieldAt at hf
  split at hf
  · rename_i fs hu
    obtain ⟨f, h1, h2⟩ := Option.map_eq_some_iff.1 hf
    cases h2
    obtain ⟨H, enc, n, x, h, hw⟩ := h
    obtain ⟨xs, m, _, hx, hl, hxl, hfi⟩ := DataW.trod_struct hu h
    have hlt : i < xs.length := by rw [hxl]; exact (Array.getElem?_eq_some_iff.1 h1).1
    refine ⟨H, enc, m, xs[i], by rw [hfi i f h1, List.getElem?_eq_getElem hlt], fun k hk => hw k ?_⟩
    rw [hx, DataW.weights, hu]
    exact weights_mem (i := i) (t := f.type) (d := xs[i].1) (by rw [List.getElem?_map, Array.getElem?_toList, h1]; rfl) (by rw [List.getElem?_map, List.getElem?_eq_getElem hlt]; rfl) k hk
  · cases hf
theorem Rdw.array {P : Program} {W : World} {t e : TypeId} {n : Nat} {cs : List Value} (ht : P.underlying t = some (.array n e)) (h : Rdw P W t cs) :
    cs.length = P.cellsOf t ∧ ∀ i, i < n → Rdw P W e ((cs.drop (i * P.cellsOf e)).take (P.cellsOf e)) := by
  obtain ⟨H, enc, m, x, h, hw⟩ := h
  obtain ⟨xs, k, _, hx, hl, hxl, hf⟩ := DataW.trod_array ht h
  refine ⟨hl, fun i hi => ?_⟩
  have hlt : i < xs.length := by omega
  refine ⟨H, enc, k, xs[i], by rw [hf i hi, List.getElem?_eq_getElem hlt], fun k hk => hw k ?_⟩
  rw [hx, DataW.weights, ht]
  exact weightsAll_mem (i := i) (d := xs[i].1) (by rw [List.getElem?_map, List.getElem?_eq_getElem hlt]; rfl) k hk
/-- a slice argument in memory: its rows -/
theorem Rdw.rows {P : Program} {W : World} {t e : TypeId} {cs : List Value} (ht : P.underlying t = some (.slice e)) (h : Rdw P W t cs) (hpos : 0 < P.cellsOf e) :
    ∃ (s : Sl) (rows : List (List Value)), cs = [.slice s.a s.n s.c] ∧ s.n ≤ s.c ∧ s.c ≤ maxLen ∧ s.n * P.bytesOf e ≤ reachBytes ∧ (s.a = none → s.n = 0 ∧ s.c = 0) ∧ Rw W.heap (P.cellsOf e) s rows ∧ ∀ r ∈ rows, r.length = P.cellsOf e ∧ Rdw P W e r := by
  obtain ⟨H, enc, n, x, h, hw⟩ := h
  rcases DataW.trod_slice ht h with ⟨rfl, _⟩ | ⟨a, len, cap, elems, rest, m, _, rfl, hx, _, hlc, hcm, hel, helem, _, _⟩
  · exact ⟨⟨none, 0, 0⟩, [], rfl, Nat.le_refl _, Nat.zero_le _, by simp, fun _ => ⟨rfl, rfl⟩, Rw.nil, fun r hr => by cases hr⟩
  · have hbytes : len * P.bytesOf e ≤ reachBytes := by
      have h1 := hw ((elems.length + rest.length) * P.bytesOf e) (by rw [hx, DataW.weights, ht]; simp)
      have h2 : len * P.bytesOf e ≤ (elems.length + rest.length) * P.bytesOf e := Nat.mul_le_mul_right _ (by omega)
      omega
    have hwe : ∀ (i : Nat) (hi : i < elems.length), ∀ k ∈ elems[i].1.weights P e, k ≤ reachBytes := fun i hi k hk => hw k (by
      rw [hx, DataW.weights, ht]
      refine List.mem_cons_of_mem _ (List.mem_append_left _ ?_)
      exact weightsAll_mem (i := i) (d := elems[i].1) (by rw [List.getElem?_map, List.getElem?_eq_getElem hi]; rfl) k hk)
    by_cases h0 : len = 0
    · subst h0
      exact ⟨⟨some a, 0, cap⟩, [], rfl, hlc, hcm, hbytes, fun e => (by cases e), Rw.empty rfl, fun r hr => by cases hr⟩
    · have hrow : ∀ i, i < len → ∃ r, W.cells? 0 (a.add (i * P.cellsOf e)) (P.cellsOf e) = some r ∧ Rdw P W e r := by
        intro i hi
        have h1 := helem i hi
        rw [List.getElem?_eq_getElem (by omega)] at h1
        obtain ⟨r, hr, hx2⟩ := Option.bind_eq_some_iff.1 h1
        exact ⟨r, hr, H, enc, m, _, hx2, hwe i (by omega)⟩
      let row : Nat → List Value := fun i => (W.cells? 0 (a.add (i * P.cellsOf e)) (P.cellsOf e)).getD []
      have hrow' : ∀ i, i < len → W.cells? 0 (a.add (i * P.cellsOf e)) (P.cellsOf e) = some (row i) ∧ Rdw P W e (row i) := fun i hi => by
        obtain ⟨r, hr, hx⟩ := hrow i hi
        have : row i = r := by show (W.cells? 0 _ _).getD [] = r; rw [hr]; rfl
        rw [this]; exact ⟨hr, hx⟩
      have hget : ∀ i, i < len → ((List.range len).map row)[i]? = some (row i) := fun i hi => by
        rw [List.getElem?_map, List.getElem?_range hi]; rfl
      have hspot : a = ⟨a.block, a.off, none⟩ := by
        have hc := (cells_at (hrow' 0 (by omega)).1)
        have hl0 : 0 < (row 0).length := by rw [hc.1]; exact hpos
        have := hc.2 0 _ (List.getElem?_eq_getElem hl0)
        rw [Nat.zero_mul, show (a.add 0).add 0 = a from rfl] at this
        unfold World.cell? at this
        split at this
        · split at this
          · cases this
          · rename_i hs
            cases a with
            | mk b o s =>
              cases s with
              | none => rfl
              | some s => exact absurd rfl hs
        · cases this
      refine ⟨⟨some a, len, cap⟩, (List.range len).map row, rfl, hlc, hcm, hbytes, fun e => (by cases e), ⟨by simp, fun _ => ⟨a.block, a.off, by rw [← hspot], fun i r hi j v hj => ?_⟩⟩, fun r hr => ?_⟩
      · have hil : i < len := by have := (List.getElem?_eq_some_iff.1 hi).1; simpa using this
        rw [hget i hil] at hi; cases hi
        have h4 := (cells_at (hrow' i hil).1).2 _ _ hj
        rw [hspot] at h4
        have e : ((⟨a.block, a.off, none⟩ : Addr).add (i * P.cellsOf e)).add j = addk ⟨a.block, a.off + i * P.cellsOf e, none⟩ j := by
          rw [addk_at, add_n, add_n]
        rw [e] at h4
        exact h4
      · obtain ⟨i, hi, rfl⟩ := List.mem_map.1 hr
        have := hrow' i (List.mem_range.1 hi)
        exact ⟨(cells_at this.1).1, this.2⟩
end Go.VC
