/- For every program: copy into an own row of bytes, MakeNoZero. -/
import Derived.Test.YtcaahhppapnbhaaDoorVcRow
import Derived.Laws.CopyRow
import Derived.Lib.BufferWrite
import Derived.Lib.MakeNoZero
import Derived.Lib.AppendStr
set_option linter.unusedVariables false
set_option linter.unusedSimpArgs false

namespace Go.VC
open Go.RowKit
set_option maxRecDepth 100000

theorem setRow_own {w : World} {b : Nat} {xs ys : List Value} {ty : TypeId} (ho : Own w.heap b xs ty) : Own (w.setRow b ys.toArray).heap b ys ty ∧ But b w.heap (w.setRow b ys.toArray).heap := by
  refine ⟨setRow_heap w b ⟨xs⟩ ys.toArray ty (0, 0) ho, ?_⟩
  unfold World.setRow
  refine ⟨by simp, fun k hk => ?_⟩
  rw [Array.getElem?_modify, if_neg (by omega)]
theorem byteC_len (l : List UInt8) : (byteC l).length = l.length := by simp [byteC]
theorem byteC_get {l : List UInt8} {i : Nat} {b : UInt8} (h : l[i]? = some b) : (byteC l)[i]? = some (.int .u8 b.toNat) := by unfold byteC; rw [List.getElem?_map, h]; rfl
theorem splice_byteC (l m : List UInt8) (o : Nat) : splice (byteC l) o (byteC m) = byteC (l.take o ++ m ++ l.drop (o + m.length)) := by
  unfold splice
  rw [byteC_len]
  unfold byteC
  simp [List.map_append, List.map_take, List.map_drop]
theorem byteC_one (l : List UInt8) : ∀ v ∈ byteC l, v.oneCell' = true := by
  intro v hv
  unfold byteC at hv
  obtain ⟨b, _, rfl⟩ := List.mem_map.1 hv
  rfl
theorem byteC_oneB (l : List UInt8) : (byteC l).all oneB = true := by
  rw [List.all_eq_true]
  intro v hv
  unfold byteC at hv
  obtain ⟨b, _, rfl⟩ := List.mem_map.1 hv
  rfl
theorem Cpy_own {P : Program} {t u e : TypeId} (hu : P.underlying t = some (.slice e)) (hs : (P.info? e).map (·.size) = some 1) {h : Heap} {b o dLen dCap : Nat} {xs : List UInt8} {ty : TypeId} (ho : Own h b (byteC xs) ty)
    {g2 o2 sLen sCap : Nat} {l : List UInt8} (hn : l.length = min sLen dLen) (hsrc : ∀ (j : Nat) (c : UInt8), l[j]? = some c → hc h ⟨g2, o2 + j, none⟩ = some (.int .u8 c.toNat)) (hfit : o + l.length ≤ xs.length)
    {K : Int → Heap → Prop} (hK : ∀ h', But b h h' → Own h' b (byteC (xs.take o ++ l ++ xs.drop (o + l.length))) ty → K l.length h') :
    Cpy P t u (.slice (some ⟨b, o, none⟩) dLen dCap) (.slice (some ⟨g2, o2, none⟩) sLen sCap) h K := by
  intro ty' w hw
  subst hw
  have hrun := run_copy_row (P := P) w t u ty' e b o dLen dCap ⟨g2, o2, none⟩ sLen sCap ⟨byteC xs⟩ ty (byteC l) hu hs ho (by rw [byteC_len]; exact hn)
    (fun j v hj => by
      have hl : j < l.length := by have := (List.getElem?_eq_some_iff.1 hj).1; rwa [byteC_len] at this
      obtain ⟨c, hc⟩ := get_some hl
      rw [byteC_get hc] at hj; cases hj
      have e : (⟨g2, o2, none⟩ : Addr).add j = ⟨g2, o2 + j, none⟩ := add_n _ _ _
      rw [e]; exact hsrc j c hc)
    (by simp [byteC_len]; omega) (byteC_one l)
  obtain ⟨h1, h2⟩ := setRow_own (ys := (byteC xs).take o ++ byteC l ++ (byteC xs).drop (o + (byteC l).length)) ho
  refine ⟨_, _, hrun, ⟨(byteC l).length, rfl, ?_⟩, rfl, rfl, rfl⟩
  rw [byteC_len]
  rw [byteC_len] at h1 h2
  refine hK _ h2 ?_
  rw [← splice_byteC]
  unfold splice
  rw [byteC_len]
  exact h1
theorem Cpy_str {P : Program} {t u e : TypeId} (hu : P.underlying t = some (.slice e)) (hs : (P.info? e).map (·.size) = some 1) {h : Heap} {b o dLen dCap : Nat} {xs : List UInt8} {ty : TypeId} (ho : Own h b (byteC xs) ty)
    {l : List UInt8} (hle : l.length ≤ dLen) (hfit : o + l.length ≤ xs.length)
    {K : Int → Heap → Prop} (hK : ∀ h', But b h h' → Own h' b (byteC (xs.take o ++ l ++ xs.drop (o + l.length))) ty → K l.length h') :
    Cpy P t u (.slice (some ⟨b, o, none⟩) dLen dCap) (.string (bs l)) h K := by
  intro ty' w hw
  subst hw
  have hrun := Go.Lib.run_copy_row_string (P := P) w t u ty' e b o dLen dCap (bs l) ⟨byteC xs⟩ ty hu hs ho (by rw [bs_size]; exact hle) (by rw [bs_size]; simp [byteC_len]; omega)
  have e1 : Go.Lib.byteCells (bs l).data.toList = byteC l := by rw [bs_list]; rfl
  rw [e1, bs_size] at hrun
  obtain ⟨h1, h2⟩ := setRow_own (ys := (byteC xs).take o ++ byteC l ++ (byteC xs).drop (o + l.length)) ho
  refine ⟨_, _, hrun, ⟨l.length, rfl, ?_⟩, rfl, rfl, rfl⟩
  refine hK _ h2 ?_
  rw [← splice_byteC]
  unfold splice
  rw [byteC_len]
  exact h1
theorem digits_bytes : ∀ (n t : Nat) (acc : List UInt8), ∃ l : List UInt8, l.length = acc.length + n ∧ Go.Extern.BytealgMakeNoZero.digits n t ⟨byteC acc⟩ = ⟨byteC l⟩
  | 0, t, acc => ⟨acc, rfl, rfl⟩
  | n + 1, t, acc => by
    have e : (⟨byteC acc⟩ : Array Value).push (.int .u8 (Int.ofNat (t % 256))) = ⟨byteC (acc ++ [UInt8.ofNat (t % 256)])⟩ := by
      unfold byteC
      rw [List.map_append]
      have : (UInt8.ofNat (t % 256)).toNat = t % 256 := by simp
      simp [this]
    obtain ⟨l, h1, h2⟩ := digits_bytes n (t / 256) (acc ++ [UInt8.ofNat (t % 256)])
    refine ⟨l, by rw [h1, List.length_append, List.length_singleton]; omega, ?_⟩
    rw [Go.Extern.BytealgMakeNoZero.digits, e, h2]
/-- the entry of internal/bytealg.MakeNoZero: a new row of whatever bytes -/
theorem noZero_run {P : Program} (w : World) (ps : Array TypeId) (t e : TypeId) (ht : P.underlying t = some (.slice e)) (n : Nat) (hn : n ≤ 281474976710656) :
    ∃ l : List UInt8, (Go.Extern.BytealgMakeNoZero.makeNoZero ps #[t] #[.int .i64 n]).run P w = .ok (.slice (some ⟨w.heap.size, 0, none⟩) n l.length) (w.drew.drew.alloc (.cells ⟨byteC l⟩ e)) ∧ n ≤ l.length := by
  have hdef : Go.Extern.BytealgMakeNoZero.makeNoZero ps #[t] #[.int .i64 n] =
      (do
        let .slice elem ← underlying t | stuck "bytealg.MakeNoZero: slice type expected"
        if (n : Int) < 0 || (n : Int) > 2 ^ 48 then runtimePanic (.error "makeslice: len out of range")
        let cap ← choose (.appendCap (n : Int).toNat 0 elem)
        askRoom cap
        let bytes ← choose (.extern "internal/bytealg.MakeNoZero.bytes" 0)
        let a ← newRow elem (Go.Extern.BytealgMakeNoZero.digits cap bytes #[])
        pure (.slice (some a) (n : Int).toNat cap)) := rfl
  obtain ⟨l, h1, h2⟩ := digits_bytes (grownCap w n 0 e) ((Question.extern "internal/bytealg.MakeNoZero.bytes" 0).cut (w.tape (w.drawn + 1) (.extern "internal/bytealg.MakeNoZero.bytes" 0))) []
  refine ⟨l, ?_, ?_⟩
  · rw [hdef, ← h2]
    have h3 : ¬ (n : Int) < 0 := by omega
    have h4 : ¬ (281474976710656 : Int) < (n : Int) := by omega
    have h5 : l.length = grownCap w n 0 e := by rw [h1]; simp
    rw [h5]
    simp [run_underlying ht, h3, h4, Question.forced, newRow, grownCap]
    rfl
  · rw [h1]
    have := grownCap_ge w n 0 e
    simp
    exact this
/-- append([]byte, string...) -/
theorem App_str {P : Program} {t u e : TypeId} {i : TypeInfo} (ht : P.underlying t = some (.slice e)) (hu : P.underlying u = some .string) (hi : P.info? e = some i) (hz : i.zero = some (.int .u8 0)) (hsize : i.size = 1) (hby : i.bytes = 1)
    {h : Heap} {base : Nat} {s : Sl} {l m : List UInt8} (ho : OwnS h base e 1 s (byteC l)) (hb : base ≤ h.size) (h63 : l.length + m.length ≤ 1000000000)
    {K : Sl → Heap → Prop} (hK : ∀ (r : Sl) (h' : Heap), OwnS h' base e 1 r (byteC (l ++ m)) → Kp base h h' → (∀ k, k < h.size → (∀ g, s.a = some ⟨g, 0, none⟩ → k ≠ g) → h'[k]? = h[k]?) → K r h') :
    App P t u (.slice s.a s.n s.c) (.string (bs m)) h K := by
  intro ty w hw
  subst hw
  have hn : s.n = l.length := by have := ho.len; rw [byteC_len] at this; omega
  obtain ⟨v', w', hr, hown, hg, _⟩ := Go.Lib.run_append_own_string (P := P) (w := w) base t u ty e i ht hu hi hz hsize hby _ s.n (byteC l) ho.row (bs m) (by rw [bs_size, maxLen]; omega) (by rw [bs_size]; omega) hb
  obtain ⟨r, hv, hn', hor⟩ := OwnS.of_row hown
  have e1 : Go.Lib.strCells (bs m) = byteC m := by
    unfold Go.Lib.strCells byteC; rw [bs_list]
  rw [e1] at hor
  have e2 : byteC l ++ byteC m = byteC (l ++ m) := by unfold byteC; rw [List.map_append]
  rw [e2] at hor
  have hkeep : ∀ k, k < w.heap.size → (∀ g, s.a = some ⟨g, 0, none⟩ → k ≠ g) → w'.heap[k]? = w.heap[k]? := by
    intro k hk hne
    refine hg.block k hk ?_
    intro e
    rcases ho.2 with ⟨ha, _⟩ | ⟨g, cur, ha, _⟩
    · rw [ha] at e; cases e
    · rw [ha] at e
      simp only [Value.ownBlock, Option.some.injEq] at e
      exact hne g ha e
  refine ⟨v', w', hr, ⟨r, hv, hK r w'.heap hor ⟨hg.size, fun k hk => hkeep k (by omega) fun g ha => ?_⟩ hkeep⟩, hg.os, hg.tape, hg.output⟩
  rcases ho.2 with ⟨hx, _⟩ | ⟨g', cur, hx, hge, _⟩
  · rw [hx] at ha; cases ha
  · rw [hx] at ha; cases ha; omega
end Go.VC
