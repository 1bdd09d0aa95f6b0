/- For every program: strings as lists of bytes, rows of cells in memory, counting loops. -/
import Derived.Test.YtcaahhppapnbhaaDoorVcOpen
import Derived.Laws.IdiomStrings
import Derived.Lib.BufferRead
set_option linter.unusedVariables false
set_option linter.unusedSimpArgs false

namespace Go.VC
open Go.RowKit
set_option maxRecDepth 100000

theorem size_len (s : ByteArray) : s.size = s.data.toList.length := (Array.length_toList).symm
theorem ext_data (s : ByteArray) (a b : Nat) : (s.extract a b).data.toList = (s.data.toList.drop a).take (b - a) := by
  rw [ByteArray.data_extract]
  simp [List.extract_eq_take_drop]
theorem ext_end (s : ByteArray) (a : Nat) : (s.extract a s.size).data.toList = s.data.toList.drop a := by
  have hs := size_len s
  rw [ext_data, List.take_of_length_le]
  rw [List.length_drop]; omega
theorem byte_get {s : ByteArray} {i : Nat} (h : i < s.size) : ∃ b : UInt8, s.data.toList[i]? = some b ∧ byteAt s i = b.toNat := by
  have hl : i < s.data.toList.length := by rw [← size_len]; exact h
  refine ⟨s.data.toList[i], List.getElem?_eq_getElem hl, ?_⟩
  unfold byteAt
  rw [List.getD_eq_getElem?_getD, List.getElem?_eq_getElem hl]; rfl
def bs (l : List UInt8) : ByteArray := ⟨⟨l⟩⟩
theorem bs_of (s : ByteArray) : bs s.data.toList = s := rfl
theorem ext_bs (s : ByteArray) (a b : Nat) : s.extract a b = bs ((s.data.toList.drop a).take (b - a)) := by
  rw [← bs_of (s.extract a b), ext_data]
theorem bs_size (l : List UInt8) : (bs l).size = l.length := rfl
theorem bs_list (l : List UInt8) : (bs l).data.toList = l := rfl
theorem bs_app (a b : List UInt8) : bs a ++ bs b = bs (a ++ b) := by
  apply ByteArray.ext
  rw [ByteArray.data_append]
  simp [bs]
theorem drop_cons {L : List UInt8} {j : Nat} {b : UInt8} (h : L[j]? = some b) : L.drop j = b :: L.drop (j + 1) := by
  obtain ⟨hl, he⟩ := List.getElem?_eq_some_iff.1 h
  rw [List.drop_eq_getElem_cons hl, he]
theorem drop_end {L : List UInt8} {j : Nat} (h : L.length ≤ j) : L.drop j = [] := List.drop_eq_nil_of_le h
theorem ext_one {s : ByteArray} {k : Nat} {b : UInt8} (hb : s.data.toList[k]? = some b) : s.extract k (k + 1) = bs [b] := by
  rw [ext_bs, drop_cons hb, show k + 1 - k = 1 by omega]; rfl
theorem take_more {L : List UInt8} {k j : Nat} {b : UInt8} (h : L[j]? = some b) (hk : k ≤ j) : (L.drop k).take (j + 1 - k) = (L.drop k).take (j - k) ++ [b] := by
  rw [show j + 1 - k = (j - k) + 1 by omega, List.take_add_one, List.getElem?_drop, show k + (j - k) = j by omega, h]; rfl
theorem u8_eq {b c : UInt8} (h : ((b.toNat : Int) == (c.toNat : Int)) = true) : b = c := UInt8.toNat_inj.1 (by have := beq_iff_eq.1 h; omega)
theorem u8_ne {b c : UInt8} (h : ((b.toNat : Int) == (c.toNat : Int)) = false) : b ≠ c := fun e => by
  subst e; rw [beq_self_eq_true] at h; cases h
theorem bne_t {a b : Int} (h : (a != b) = true) : (a == b) = false := by simpa using h
theorem bne_f {a b : Int} (h : (a != b) = false) : (a == b) = true := by simpa using h
theorem OwnS.len {h : Heap} {base : Nat} {e : TypeId} {size : Nat} {s : Sl} {xs : List Value} (ho : OwnS h base e size s xs) : xs.length = s.n * size := ho.1
def byteC (l : List UInt8) : List Value := l.map fun b => .int .u8 b.toNat
theorem str_c {P : Program} {tb e ts : Nat} (u1 : P.underlying tb = some (.slice e)) (u2 : P.underlying e = some (.int .u8)) (u3 : P.underlying ts = some .string) {h : Heap} {base ty : Nat} {s : Sl} {l : List UInt8} (ho : OwnS h base ty 1 s (byteC l)) : RunW P (Go.convert tb ts (.slice s.a s.n s.c)) h fun v h' => v = .string (bs l) ∧ h' = h := by
  intro w hw
  subst hw
  have hn : l.length = s.n := by have := ho.1; simp [byteC] at this; exact this
  rcases ho.2 with ⟨ha, h0, hc⟩ | ⟨g, cur, ha, _⟩
  · have : l = [] := List.length_eq_zero_iff.1 (by omega)
    subst this
    rw [ha, h0, hc]
    exact ⟨_, w, Go.Lib.run_convert_nil_bytes w tb ts e 0 u1 u2 u3, ⟨rfl, rfl⟩, rfl, rfl, rfl⟩
  · refine ⟨_, w, ?_, ⟨rfl, rfl⟩, rfl, rfl, rfl⟩
    rw [ha, ← hn]
    exact Go.run_convert_bytes_back w tb ts e ⟨g, 0, none⟩ s.c l u1 u2 u3 fun j hj => by
      have h1 := ho.hc ha (i := j) (v := .int .u8 (l[j].toNat : Int)) (by simp [byteC, hj])
      have e : (⟨g, 0, none⟩ : Addr).add j = ⟨g, j, none⟩ := by
        unfold Addr.add; split
        · subst_vars; rfl
        · simp only [Nat.zero_add]
      rw [e]
      exact h1
theorem OwnS.mono {h : Heap} {b b' : Nat} {e : TypeId} {size : Nat} {s : Sl} {xs : List Value} (ho : OwnS h b e size s xs) (hb : b' ≤ b) : OwnS h b' e size s xs := by
  obtain ⟨h1, h2⟩ := ho
  refine ⟨h1, ?_⟩
  rcases h2 with h2 | ⟨g, cur, ha, hg, r⟩
  · exact .inl h2
  · exact .inr ⟨g, cur, ha, Nat.le_trans hb hg, r⟩
theorem OwnS.cap {h : Heap} {b : Nat} {e : TypeId} {size : Nat} {s : Sl} {xs : List Value} (ho : OwnS h b e size s xs) : s.n ≤ s.c := by
  rcases ho.2 with ⟨_, h0, h1⟩ | ⟨g, cur, ha, hb, hh, hn, _⟩
  · omega
  · exact hn
theorem strEq (a b : ByteArray) : (ByteArray.toList a == ByteArray.toList b) = decide (a.data.toList = b.data.toList) := by
  rw [ByteArray.toList_eq, ByteArray.toList_eq]
  by_cases h : a.data.toList = b.data.toList
  · rw [h, beq_self_eq_true, decide_eq_true rfl]
  · rw [decide_eq_false h]; exact beq_eq_false_iff_ne.2 h
def strC (l : List (List UInt8)) : List Value := l.map fun s => .string (bs s)
theorem strC_get (l : List (List UInt8)) (i : Nat) : (strC l)[i]? = (l[i]?).map fun x => .string (bs x) := by
  unfold strC; rw [List.getElem?_map]
theorem atC_ext' {h h' : Heap} (hE : Ext h h') {a : Addr} {vs : List Value} (hv : atC h a vs) : atC h' a vs := fun i v hi => by
  have h1 := hv i v hi
  have := hE.hc (hc_lt h1)
  rw [this]; exact h1
theorem natne {a b : Nat} (h : (((a : Nat) : Int) != ((b : Nat) : Int)) = true) : a ≠ b := fun e => by subst e; simp at h
theorem nateq {a b : Nat} (h : (((a : Nat) : Int) != ((b : Nat) : Int)) = false) : a = b := by
  have := beq_iff_eq.1 (bne_f h); omega
theorem all_split (p : UInt8 → Bool) (L : List UInt8) : L.all p = true ↔ ∀ (b : UInt8) (j : Nat), L[j]? = some b → p b = true := by
  rw [List.all_eq_true]
  exact ⟨fun h b j hb => h b (List.mem_of_getElem? hb), fun h b hb => by obtain ⟨j, hj⟩ := List.mem_iff_getElem?.1 hb; exact h b j hj⟩
theorem splice_all {l vs : List Value} (h : l.length = vs.length) : splice l (0 + 0) vs = vs := by
  unfold splice
  rw [List.take_zero, List.nil_append, Nat.zero_add, List.drop_eq_nil_of_le (by omega), List.append_nil]
theorem subA_zero (a : Option Addr) (c size : Nat) : subA a 0 c size = a := by
  unfold subA
  split
  · rfl
  · cases a with
    | none => rfl
    | some a => rw [Nat.zero_mul]; rfl
theorem App_none {P : Program} {t e size bytes : Nat} (hT : appB P t e size bytes = true) {h : Heap} {base : Nat} {s : Sl} {xs : List Value} (ho : OwnS h base e size s xs) {K : Sl → Heap → Prop} (hK : K s h) :
    App P t t (.slice s.a s.n s.c) (.slice none 0 0) h K := by
  intro ty w hw
  subst hw
  unfold appB at hT
  simp only [Bool.and_eq_true] at hT
  obtain ⟨⟨⟨⟨⟨⟨⟨hs, he⟩, ht⟩, hz⟩, hzl⟩, hsz⟩, hby⟩, hpos⟩ := hT
  have hu := sliceB_e hs
  rw [beqT he] at hu
  obtain ⟨i, hi⟩ := isT_info ht
  exact ⟨_, w, run_append_owned_none w base t ty e i size hu hi _ s.n xs ho.row, ⟨s, rfl, hK⟩, rfl, rfl, rfl⟩
/-- append(s, y...) of two slices of the call's own -/
theorem App_two {P : Program} {t e size bytes : Nat} (hT : appB P t e size bytes = true) {h : Heap} {base b2 : Nat} {s y : Sl} {xs ys : List Value} (ho : OwnS h base e size s xs) (hb : base ≤ h.size) (hy : OwnS h b2 e size y ys)
    (h1 : ys.all oneB = true) (hbytes : (s.n + y.n) * bytes ≤ 140737488355328) (h63 : s.n + y.n ≤ maxLen) {K : Sl → Heap → Prop}
    (hK : ∀ (r : Sl) (h' : Heap), r.n = s.n + y.n → OwnS h' base e size r (xs ++ ys) → Kp base h h' → K r h') :
    App P t t (.slice s.a s.n s.c) (.slice y.a y.n y.c) h K := by
  rcases hy.2 with ⟨ha, h0, hc⟩ | ⟨g, cur, ha, _⟩
  · have hys : ys = [] := by
      have := hy.1
      rw [h0, Nat.zero_mul] at this
      exact List.length_eq_zero_iff.1 this
    subst hys
    rw [ha, h0, hc]
    exact App_none hT ho (hK s h (by omega) (by rw [List.append_nil]; exact ho) (Kp.refl _ _))
  · rw [ha]
    refine App_own hT ho hb (fun i v hi => by rw [addk_at, Nat.zero_add]; exact hy.hc ha hi) hy.1 h1 hbytes h63 fun r h' hn hor hsz hkeep => hK r h' hn hor ⟨hsz, fun k hk => hkeep k (by omega) fun g' hg' => ?_⟩
    rcases ho.2 with ⟨ha', _⟩ | ⟨g2, cur2, ha', hb', _⟩
    · rw [ha'] at hg'; cases hg'
    · rw [ha'] at hg'; cases hg'; omega

/-! ### rows of cells -/
/-- the slice s has these rows, of k cells each -/
def Rw (h : Heap) (k : Nat) (s : Sl) (rows : List (List Value)) : Prop :=
  s.n = rows.length ∧ (0 < rows.length → ∃ b o, s.a = some ⟨b, o, none⟩ ∧ ∀ (i : Nat) (row : List Value), rows[i]? = some row → atC h ⟨b, o + i * k, none⟩ row)
theorem atC.hd {h : Heap} {a : Addr} {v : Value} {vs : List Value} (ha : atC h a (v :: vs)) : hc h a = some v := ha 0 v rfl
theorem atC.nth {h : Heap} {b o : Nat} {vs : List Value} (ha : atC h ⟨b, o, none⟩ vs) (i : Nat) {v : Value} (hv : vs[i]? = some v) : hc h ⟨b, o + i, none⟩ = some v := by
  have := ha i v hv
  rwa [addk_at] at this
theorem Rw.nil {h : Heap} {k : Nat} : Rw h k ⟨none, 0, 0⟩ [] := ⟨rfl, fun hp => absurd hp (by simp)⟩
theorem Rw.empty {h : Heap} {k : Nat} {s : Sl} (hs : s.n = 0) : Rw h k s [] := ⟨hs, fun hp => absurd hp (by simp)⟩
theorem Rw.ext {h h' : Heap} (hE : Ext h h') {k : Nat} {s : Sl} {rows : List (List Value)} (hr : Rw h k s rows) : Rw h' k s rows := by
  refine ⟨hr.1, fun hp => ?_⟩
  obtain ⟨b, o, ha, hall⟩ := hr.2 hp
  exact ⟨b, o, ha, fun i row hi => atC_ext hE (hall i row hi)⟩
theorem Rw.nb {h : Heap} {k : Nat} {s : Sl} {rows : List (List Value)} (hr : Rw h k s rows) {i : Nat} {row : List Value} (hi : rows[i]? = some row) {F : Nat → Nat → Prop}
    (hF : ∀ b o, s.a = some ⟨b, o, none⟩ → atC h ⟨b, o + i * k, none⟩ row → F b o) : NB s.a F := by
  have hl := (List.getElem?_eq_some_iff.1 hi).1
  obtain ⟨b, o, ha, hall⟩ := hr.2 (by omega)
  rw [ha, NB_some]
  exact hF b o ha (hall i row hi)
theorem getElem?_flatten {α : Type} {k : Nat} : ∀ (rows : List (List α)) (i j : Nat) (row : List α), (∀ r ∈ rows, r.length = k) → rows[i]? = some row → j < k → rows.flatten[i * k + j]? = row[j]?
  | [], i, j, row, _, h, _ => by simp at h
  | a :: rows, 0, j, row, hk, h, hj => by
    rw [List.getElem?_cons_zero] at h; cases h
    have := hk a (by simp)
    rw [List.flatten_cons, Nat.zero_mul, Nat.zero_add, List.getElem?_append_left (by omega)]
  | a :: rows, i + 1, j, row, hk, h, hj => by
    rw [List.getElem?_cons_succ] at h
    have ha := hk a (by simp)
    rw [List.flatten_cons, List.getElem?_append_right (by rw [Nat.succ_mul]; omega), show (i + 1) * k + j - a.length = i * k + j by rw [Nat.succ_mul]; omega]
    exact getElem?_flatten rows i j row (fun r hr => hk r (List.mem_cons_of_mem _ hr)) h hj
theorem flatten_len {α : Type} {k : Nat} : ∀ (rows : List (List α)), (∀ r ∈ rows, r.length = k) → rows.flatten.length = rows.length * k
  | [], _ => by simp
  | a :: rows, h => by rw [List.flatten_cons, List.length_append, flatten_len rows fun r hr => h r (List.mem_cons_of_mem _ hr), h a (by simp), List.length_cons, Nat.succ_mul]; omega
theorem OwnS.rw {h : Heap} {base e k : Nat} {s : Sl} {rows : List (List Value)} (ho : OwnS h base e k s rows.flatten) (hk : ∀ r ∈ rows, r.length = k) (hk0 : 0 < k) : Rw h k s rows := by
  have hl := ho.len
  rw [flatten_len rows hk] at hl
  have hn : rows.length = s.n := Nat.eq_of_mul_eq_mul_right hk0 hl
  refine ⟨hn.symm, fun hp => ?_⟩
  rcases ho.2 with ⟨_, h0, _⟩ | ⟨g, cur, ha, _⟩
  · omega
  · refine ⟨g, 0, ha, fun i row hi j v hj => ?_⟩
    have hr := hk row (List.mem_of_getElem? hi)
    have hjk : j < k := by have := (List.getElem?_eq_some_iff.1 hj).1; omega
    rw [addk_at, Nat.zero_add]
    exact ho.hc ha (by rw [getElem?_flatten rows i j row hk hi hjk]; exact hj)
/-- a slice argument in memory: its rows -/
theorem Rdt.rows {P : Program} {W : World} {t e : TypeId} {cs : List Value} (ht : P.underlying t = some (.slice e)) (h : Rdt P W t cs) (hpos : 0 < P.cellsOf e) :
    ∃ (s : Sl) (rows : List (List Value)), cs = [.slice s.a s.n s.c] ∧ s.n ≤ s.c ∧ s.c ≤ maxLen ∧ (s.a = none → s.n = 0 ∧ s.c = 0) ∧ Rw W.heap (P.cellsOf e) s rows ∧ ∀ r ∈ rows, r.length = P.cellsOf e ∧ Rdt P W e r := by
  obtain ⟨H, enc, n, x, h⟩ := h
  rcases DataW.trod_slice ht h with ⟨rfl, _⟩ | ⟨a, len, cap, elems, rest, m, _, rfl, _, _, hlc, hcm, hel, helem, _, _⟩
  · exact ⟨⟨none, 0, 0⟩, [], rfl, Nat.le_refl _, Nat.zero_le _, fun _ => ⟨rfl, rfl⟩, Rw.nil, fun r hr => by cases hr⟩
  · by_cases h0 : len = 0
    · subst h0
      exact ⟨⟨some a, 0, cap⟩, [], rfl, hlc, hcm, fun e => (by cases e), Rw.empty rfl, fun r hr => by cases hr⟩
    · have hrow : ∀ i, i < len → ∃ r, W.cells? 0 (a.add (i * P.cellsOf e)) (P.cellsOf e) = some r ∧ Rdt P W e r := by
        intro i hi
        have h1 := helem i hi
        rw [List.getElem?_eq_getElem (by omega)] at h1
        obtain ⟨r, hr, hx⟩ := Option.bind_eq_some_iff.1 h1
        exact ⟨r, hr, H, enc, m, _, hx⟩
      let row : Nat → List Value := fun i => (W.cells? 0 (a.add (i * P.cellsOf e)) (P.cellsOf e)).getD []
      have hrow' : ∀ i, i < len → W.cells? 0 (a.add (i * P.cellsOf e)) (P.cellsOf e) = some (row i) ∧ Rdt P W e (row i) := fun i hi => by
        obtain ⟨r, hr, hx⟩ := hrow i hi
        have : row i = r := by show (W.cells? 0 _ _).getD [] = r; rw [hr]; rfl
        rw [this]; exact ⟨hr, hx⟩
      have hget : ∀ i, i < len → ((List.range len).map row)[i]? = some (row i) := fun i hi => by
        rw [List.getElem?_map, List.getElem?_range hi]; rfl
      have hspot : a = ⟨a.block, a.off, none⟩ := by
        have hc := (cells_at (hrow' 0 (by omega)).1)
        have hl0 : 0 < (row 0).length := by rw [hc.1]; exact hpos
        have := hc.2 0 _ (List.getElem?_eq_getElem hl0)
        rw [Nat.zero_mul, show (a.add 0).add 0 = a from rfl] at this
        unfold World.cell? at this
        split at this
        · split at this
          · cases this
          · rename_i hs
            cases a with
            | mk b o s =>
              cases s with
              | none => rfl
              | some s => exact absurd rfl hs
        · cases this
      refine ⟨⟨some a, len, cap⟩, (List.range len).map row, rfl, hlc, hcm, fun e => (by cases e), ⟨by simp, fun _ => ⟨a.block, a.off, by rw [← hspot], fun i r hi j v hj => ?_⟩⟩, fun r hr => ?_⟩
      · have hil : i < len := by have := (List.getElem?_eq_some_iff.1 hi).1; simpa using this
        rw [hget i hil] at hi; cases hi
        have h4 := (cells_at (hrow' i hil).1).2 _ _ hj
        rw [hspot] at h4
        have e : ((⟨a.block, a.off, none⟩ : Addr).add (i * P.cellsOf e)).add j = addk ⟨a.block, a.off + i * P.cellsOf e, none⟩ j := by
          rw [addk_at, add_n, add_n]
        rw [e] at h4
        exact h4
      · obtain ⟨i, hi, rfl⟩ := List.mem_map.1 hr
        have := hrow' i (List.mem_range.1 hi)
        exact ⟨(cells_at this.1).1, this.2⟩
theorem atC_flat {h : Heap} {k b : Nat} : ∀ (rows : List (List Value)) (o : Nat), (∀ r ∈ rows, r.length = k) → (∀ (i : Nat) (row : List Value), rows[i]? = some row → atC h ⟨b, o + i * k, none⟩ row) → atC h ⟨b, o, none⟩ rows.flatten
  | [], o, _, _ => fun i v hv => by simp at hv
  | r :: rows, o, hk, hr => by
    intro n v hv
    have h0 := hk r (by simp)
    rw [List.flatten_cons] at hv
    by_cases hn : n < r.length
    · rw [List.getElem?_append_left hn] at hv
      have := hr 0 r rfl n v hv
      rwa [Nat.zero_mul, Nat.add_zero] at this
    · rw [List.getElem?_append_right (by omega)] at hv
      have := atC_flat rows (o + k) (fun x hx => hk x (List.mem_cons_of_mem _ hx)) (fun i row hi => by
        have := hr (i + 1) row hi
        rw [Nat.succ_mul] at this
        rwa [show o + k + i * k = o + (i * k + k) by omega]) (n - r.length) v hv
      rw [addk_at] at this ⊢
      rwa [show o + k + (n - r.length) = o + n by omega] at this
/-- append(s, y...) -/
theorem App_rows {P : Program} {t e size bytes : Nat} (hT : appB P t e size bytes = true) {h : Heap} {base : Nat} {s y : Sl} {xs : List Value} {rows : List (List Value)} (ho : OwnS h base e size s xs) (hb : base ≤ h.size) (hy : Rw h size y rows)
    (hk : ∀ r ∈ rows, r.length = size) (hna : y.a = none → y.n = 0 ∧ y.c = 0) (h1 : rows.flatten.all oneB = true) (hbytes : (s.n + y.n) * bytes ≤ 140737488355328) (h63 : s.n + y.n ≤ maxLen) {K : Sl → Heap → Prop}
    (hK : ∀ (r : Sl) (h' : Heap), r.n = s.n + y.n → OwnS h' base e size r (xs ++ rows.flatten) → Kp base h h' → K r h') :
    App P t t (.slice s.a s.n s.c) (.slice y.a y.n y.c) h K := by
  have hn := hy.1
  have fin : ∀ (r : Sl) (h' : Heap), r.n = s.n + y.n → OwnS h' base e size r (xs ++ rows.flatten) → h.size ≤ h'.size → (∀ k, k < h.size → (∀ g, s.a = some ⟨g, 0, none⟩ → k ≠ g) → h'[k]? = h[k]?) → K r h' := fun r h' hrn hor hsz hkeep =>
    hK r h' hrn hor ⟨hsz, fun k hk' => hkeep k (by omega) fun g ha => by
      rcases ho.2 with ⟨hx, _⟩ | ⟨g', cur, hx, hge, _⟩
      · rw [hx] at ha; cases ha
      · rw [hx] at ha; cases ha; omega⟩
  cases hya : y.a with
  | none =>
    obtain ⟨h2, h3⟩ := hna hya
    have hr0 : rows = [] := List.length_eq_zero_iff.1 (by omega)
    subst hr0
    rw [h2, h3]
    refine App_none hT ho (fin s h (by omega) (by simpa using ho) (Nat.le_refl _) fun k _ _ => rfl)
  | some x =>
    have hx : atC h x rows.flatten := by
      by_cases h0 : 0 < rows.length
      · obtain ⟨b, o, ha, hall⟩ := hy.2 h0
        rw [hya] at ha; cases ha
        exact atC_flat rows o hk hall
      · have hr0 : rows = [] := List.length_eq_zero_iff.1 (by omega)
        subst hr0
        intro i v hv; simp at hv
    exact App_own hT ho hb hx (by rw [flatten_len rows hk, hn]) h1 hbytes h63 fun r h' hrn hor hsz hkeep => fin r h' hrn hor hsz hkeep
/-- a slice of strings -/
def sV (l : List UInt8) : Value := .string (bs l)
def strR (l : List (List UInt8)) : List (List Value) := l.map fun s => [sV s]
theorem strR_get {l : List (List UInt8)} {i : Nat} {s : List UInt8} (h : l[i]? = some s) : (strR l)[i]? = some [sV s] := by unfold strR; rw [List.getElem?_map, h]; rfl
theorem strR_len (l : List (List UInt8)) : (strR l).length = l.length := by simp [strR]
theorem strR_flat (l : List (List UInt8)) : (strR l).flatten = strC l := by
  unfold strR strC
  induction l with
  | nil => rfl
  | cons a l ih => rw [List.map_cons, List.flatten_cons, ih, List.map_cons]; rfl
theorem OwnS.strs {h : Heap} {base e : Nat} {s : Sl} {l : List (List UInt8)} (ho : OwnS h base e 1 s (strC l)) : Rw h 1 s (strR l) := by
  rw [← strR_flat] at ho
  exact ho.rw (fun r hr => by unfold strR at hr; obtain ⟨x, _, rfl⟩ := List.mem_map.1 hr; rfl) (by omega)
theorem get_some {α : Type} {l : List α} {i : Nat} (h : i < l.length) : ∃ x, l[i]? = some x := ⟨l[i], List.getElem?_eq_getElem h⟩
theorem take_snoc {α : Type} {l : List α} {i : Nat} {x : α} (h : l[i]? = some x) : l.take (i + 1) = l.take i ++ [x] := by rw [List.take_add_one, h]; rfl

theorem any_t {α : Type} {l : List α} {p : α → Bool} {i : Nat} {x : α} (h : l[i]? = some x) (hp : p x = true) : l.any p = true := List.any_eq_true.2 ⟨x, List.mem_of_getElem? h, hp⟩
theorem any_f {α : Type} {l : List α} {p : α → Bool} (h : ∀ (i : Nat) (x : α), l[i]? = some x → p x = false) : l.any p = false := by
  rw [Bool.eq_false_iff]
  intro hc
  obtain ⟨x, hx, hp⟩ := List.any_eq_true.1 hc
  obtain ⟨i, hi⟩ := List.mem_iff_getElem?.1 hx
  rw [h i x hi] at hp; cases hp
theorem scan_next {α : Type} {l : List α} {p : α → Bool} {i : Nat} {x : α} (h : l[i]? = some x) (hp : p x = false) (ha : ∀ (j : Nat) (y : α), j < i → l[j]? = some y → p y = false) (j : Nat) (y : α) (hj : j < i + 1) (hy : l[j]? = some y) : p y = false := by
  by_cases e : j = i
  · subst e; rw [h] at hy; cases hy; exact hp
  · exact ha j y (by omega) hy
/-- a new block -/
theorem newb {h : Heap} {xs : List Value} {e : TypeId} {K : Heap → Prop} (hK : ∀ h2, Ext h h2 → Own h2 h.size xs e → K h2) : ∀ h2 : Heap, h2 = h.push (.cells ⟨xs⟩ e) → K h2 := by
  rintro h2 rfl; exact hK _ (Ext.push ..) Own.push
/-- a new block that is filled -/
theorem newput {h : Heap} {zs vs : List Value} {e : TypeId} {K : Heap → Prop} (hl : zs.length = vs.length) (hK : ∀ h3, Ext h h3 → Own h3 h.size vs e → K h3) :
    ∀ h2 : Heap, h2 = h.push (.cells ⟨zs⟩ e) → okAt h2 ⟨h.size, 0, none⟩ vs.length ∧ ∀ h3 : Heap, h3 = hputs h2 ⟨h.size, 0, none⟩ 0 vs → K h3 := by
  rintro h2 rfl
  have o : Own (h.push (.cells ⟨zs⟩ e)) h.size zs e := Own.push
  refine ⟨o.okAt (by omega), ?_⟩
  rintro h3 rfl
  have hb : But h.size (h.push (.cells ⟨zs⟩ e)) (hputs (h.push (.cells ⟨zs⟩ e)) ⟨h.size, 0, none⟩ 0 vs) := But.hputs (a := ⟨h.size, 0, none⟩) vs 0 _
  refine hK _ ?_ ?_
  · have h1 := Ext.push h (.cells ⟨zs⟩ e)
    have h2 := Ext.of_but hb (Nat.le_refl h.size)
    exact (Kp.trans (h1.kp (Nat.le_refl _)) (Kp.but hb (Nat.le_refl _))).ext
  · have := Own.hputs vs 0 (h.push (.cells ⟨zs⟩ e)) zs (o := 0) o (by omega)
    rw [splice_all hl] at this
    exact this
theorem Ext.sm {h h' : Heap} (hE : Ext h h') {as : List Addr} : Sm as h h' := fun a _ k v hv => hc_ext hE hv
theorem Kp.sm {n : Nat} {h h' : Heap} (hk : Kp n h h') {as : List Addr} (ha : ∀ a ∈ as, a.block < n) : Sm as h h' := fun a hm k v hv => by
  rw [hk.hc (by rw [addk_block']; exact ha a hm)]; exact hv
theorem Own.at0 {h : Heap} {b : Nat} {xs : List Value} {e : TypeId} (ho : Own h b xs e) : VC.atC h ⟨b, 0, none⟩ xs := Own.atC ho (o := 0) fun i v hv => by rw [Nat.zero_add]; exact hv

/-! ### counting loops -/
def Up (n : Nat) (Q : Nat → Heap → Prop) (x : Int) (h : Heap) (m : Nat) : Prop := ∃ i : Nat, x = i ∧ m = n - i ∧ i ≤ n ∧ Q i h
theorem Up.zero {n : Nat} {Q : Nat → Heap → Prop} {h : Heap} (h0 : Q 0 h) : ∃ m, Up n Q 0 h m := ⟨_, 0, rfl, rfl, by omega, h0⟩
theorem Up.next {n i : Nat} {Q : Nat → Heap → Prop} {h : Heap} (hi : i < n) (hn : n ≤ 9223372036854775807) (h1 : Q (i + 1) h) : ∃ m, m < n - i ∧ Up n Q (IntKind.wrap .i64 ((i : Int) + 1)) h m :=
  ⟨_, by omega, i + 1, by rw [w64 (by omega) (by omega)]; omega, rfl, by omega, h1⟩
theorem lt_t {i n : Nat} (h : decide ((i : Int) < (n : Int)) = true) : i < n := by have := of_decide_eq_true h; omega
theorem lt_f {i n : Nat} (h : decide ((i : Int) < (n : Int)) = false) : n ≤ i := by have := of_decide_eq_false h; omega
/-- the loop's own statement for Up -/
theorem up_loop {n : Nat} {h : Heap} {B : (Int → Heap → Nat → Prop) → Env → Int → Heap → Nat → Prop} (Q : Nat → Heap → Prop) (h0 : Q 0 h)
    (hB : ∀ (e : Env) (i : Nat) (h' : Heap), i ≤ n → Q i h' → B (Up n Q) e i h' (n - i)) : ∃ I : Int → Heap → Nat → Prop, (∃ m, I 0 h m) ∧ ∀ (e : Env) (x : Int) (h' : Heap) (m : Nat), I x h' m → B I e x h' m :=
  ⟨Up n Q, Up.zero h0, by rintro e x h' m ⟨i, rfl, rfl, hi, hq⟩; exact hB e i h' hi hq⟩
end Go.VC
