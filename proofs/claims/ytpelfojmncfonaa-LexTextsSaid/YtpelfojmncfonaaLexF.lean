import Derived.Test.YtpelfojmncfonaaLexE
set_option linter.unusedVariables false
set_option linter.unusedSimpArgs false

namespace Go.VC
open Go.Proofs Go.LexS
set_option maxRecDepth 100000

theorem contains_c (s : ByteArray) (c : UInt8) (h : Heap) : Fn Try.prog 43 #[.string s, .string ⟨#[c]⟩] h fun v h' => v = .bool (decide (0 ≤ Lib.indexByte s.data.toList c)) ∧ h' = h :=
  Fn.of_same fun w => Try.strings_Contains_one s c w
theorem indexByte_mem (l : List UInt8) (c : UInt8) : decide (0 ≤ Lib.indexByte l c) = decide (c ∈ l) := by
  by_cases h : 0 ≤ Lib.indexByte l c
  · obtain ⟨n, hn⟩ := Int.eq_ofNat_of_zero_le h
    rw [decide_eq_true h, decide_eq_true (List.mem_of_getElem? (Lib.indexByte_some hn).1)]
  · have hno := Lib.indexByte_none (l := l) (c := c) (by have := Lib.indexByte_ge l c; omega)
    rw [decide_eq_false h, decide_eq_false]
    intro hm
    obtain ⟨k, hk⟩ := List.mem_iff_getElem?.1 hm
    exact hno k hk
def two (i : Nat) : List UInt8 := twos.getD i []
theorem two_at : ∀ i, i < 8 → List.take 1 (List.drop (Int.toNat (i : Nat) * 1) ([.string ⟨#[45, 62]⟩, .string ⟨#[46, 46]⟩, .string ⟨#[60, 61]⟩, .string ⟨#[62, 61]⟩, .string ⟨#[61, 61]⟩, .string ⟨#[33, 61]⟩, .string ⟨#[38, 38]⟩, .string ⟨#[124, 124]⟩] : List Value)) = [.string (bs (two i))]
  | 0, _ => rfl | 1, _ => rfl | 2, _ => rfl | 3, _ => rfl | 4, _ => rfl | 5, _ => rfl | 6, _ => rfl | 7, _ => rfl
  | n + 8, h => by omega
theorem two_len : ∀ i, i < 8 → (two i).length = 2
  | 0, _ => rfl | 1, _ => rfl | 2, _ => rfl | 3, _ => rfl | 4, _ => rfl | 5, _ => rfl | 6, _ => rfl | 7, _ => rfl
  | n + 8, h => by omega
theorem two_mem : ∀ i, i < 8 → two i ∈ twos
  | 0, _ => by decide | 1, _ => by decide | 2, _ => by decide | 3, _ => by decide | 4, _ => by decide | 5, _ => by decide | 6, _ => by decide | 7, _ => by decide
  | n + 8, h => by omega
theorem mem_two {l : List UInt8} (h : l ∈ twos) : ∃ i, i < 8 ∧ two i = l := by
  obtain ⟨i, hi⟩ := List.mem_iff_getElem?.1 h
  have hl := (List.getElem?_eq_some_iff.1 hi).1
  exact ⟨i, hl, by unfold two; rw [List.getD_eq_getElem?_getD, hi]; rfl⟩
theorem two_prefix {i : Nat} (hi : i < 8) (l : List UInt8) : (two i).isPrefixOf l = true ↔ l.take 2 = two i := by
  rw [List.isPrefixOf_iff_prefix, List.prefix_iff_eq_take, two_len i hi]
  exact eq_comm

theorem mark_c (c : Nat) (s : ByteArray) (k : Nat) (h : Heap) (ho : Sc h c s k) (hk : k < s.size) (hs : s.size ≤ 100000) :
    Fn Try.prog 24 #[.pointer (some ⟨c, 0, none⟩)] h (Ans c s k h (markS (s.data.toList.drop k))) := by
  apply vc24; unfold W24
  have hsz := size_len s
  have hes := ext_end s k
  have hext := ext_data s k (k + 1)
  generalize hL : s.data.toList = L at *
  intro h1 e1
  have hE : Ext h h1 := by subst e1; exact Ext.push _ _
  have hne : c ≠ h.size := Nat.ne_of_lt ho.lt
  have hl1 : Own h1 h.size [.int .i64 0, .string ⟨#[]⟩, .int .i64 0, .int .i64 0] 34 := by subst e1; exact Own.push
  have p1 := ho.ext hE
  have st1 : Stp c h h1 := Stp.of_ext hE
  refine ⟨fun x h' m => ∃ i : Nat, x = i ∧ m = 8 - i ∧ i ≤ 8 ∧ h' = h1 ∧ ∀ j, j < i → (L.drop k).take 2 ≠ two j, ⟨_, 0, rfl, rfl, by omega, rfl, fun j hj => by omega⟩, ?_⟩
  rintro - x h6 m ⟨i, rfl, rfl, hi, rfl, hnot⟩
  refine sB_intro (fun hlt => ?_) (fun hge => ?_)
  · have hlt' : i < 8 := by have := of_decide_eq_true hlt; omega
    refine ⟨⟨by omega, by omega⟩, _, two_at i hlt', s, p1.s, k, p1.k, ⟨by omega, by omega, by omega⟩, ?_⟩
    refine (prefix_c _ _ _).mono ?_
    rintro v h12 ⟨rfl, rfl⟩
    refine ⟨_, rfl, Ext.refl _, sB_intro (fun hp => ?_) (fun hp => ?_)⟩
    · rw [show Int.toNat (k : Int) = k from rfl, show Int.toNat ((ByteArray.size s : Nat) : Int) = s.size from rfl, hes, bs_list] at hp
      have htk := (two_prefix hlt' _).1 hp
      have hlen : 2 ≤ (L.drop k).length := by
        have := congrArg List.length htk
        rw [List.length_take, two_len i hlt'] at this; omega
      rw [List.length_drop] at hlen
      refine ⟨k, p1.k, p1.ok, ?_⟩
      intro h14 e14
      rw [show IntKind.wrap .i64 ((k : Int) + 2) = ((k + 2 : Nat) : Int) by rw [w64 (by omega) (by omega)]; omega] at e14
      obtain ⟨p14, b14⟩ := p1.put e14
      refine fin4 (b14.own hl1 (Ne.symm hne)) rfl fun h' hb' ho' => ⟨(st1.trans (Stp.of_but b14)).but_new hb' (Nat.le_refl _), ?_⟩
      have : (L.drop k).take 2 ∈ twos := by rw [htk]; exact two_mem i hlt'
      simp only [markS, if_pos this]
      rw [htk]
      exact ⟨rfl, p14.but hb' hne⟩
    · refine ⟨_, ?_, i + 1, ?_, rfl, by omega, rfl, fun j hj => ?_⟩
      · omega
      · rw [w64 (by omega) (by omega)]; omega
      · by_cases hji : j < i
        · exact hnot j hji
        · have : j = i := by omega
          subst this
          intro htk
          rw [show Int.toNat (k : Int) = k from rfl, show Int.toNat ((ByteArray.size s : Nat) : Int) = s.size from rfl, hes, bs_list, (two_prefix hlt' _).2 htk] at hp
          cases hp
  · have hi8 : i = 8 := by have := of_decide_eq_false hge; omega
    subst hi8
    have hno : ¬ (L.drop k).take 2 ∈ twos := by
      intro hm
      obtain ⟨j, hj, e⟩ := mem_two hm
      exact hnot j hj e.symm
    have hlt' : k < L.length := by omega
    obtain ⟨b, hb⟩ : ∃ b, L[k]? = some b := ⟨_, List.getElem?_eq_getElem hlt'⟩
    have hdrop := drop_cons hb
    have hw : IntKind.wrap .i64 ((k : Int) + 1) = ((k + 1 : Nat) : Int) := by rw [w64 (by omega) (by omega)]; omega
    have he1 : s.extract k (k + 1) = (⟨#[b]⟩ : ByteArray) := by
      rw [← bs_of (s.extract k (k + 1)), hext, hdrop, show k + 1 - k = 1 by omega]; rfl
    refine ⟨s, p1.s, k, p1.k, k, p1.k, ?_⟩
    rw [hw, show Int.toNat (k : Int) = k from rfl, show Int.toNat ((k + 1 : Nat) : Int) = k + 1 from rfl, he1]
    refine ⟨⟨by omega, by omega, by omega⟩, ?_⟩
    refine (contains_c _ b _).mono ?_
    rintro v h26 ⟨rfl, rfl⟩
    rw [indexByte_mem]
    refine ⟨_, rfl, sB_intro (fun hn => ?_) (fun hn => ?_)⟩
    · have hnm : ¬ b ∈ ones := by
        rw [Bool.not_eq_true'] at hn
        exact of_decide_eq_false hn
      refine fin4 hl1 rfl fun h' hb' ho' => ⟨st1.but_new hb' (Nat.le_refl _), ?_⟩
      rw [hdrop] at hno ⊢
      simp only [markS, if_neg hno, if_neg hnm]
      exact ⟨_, _, _, _, rfl⟩
    · have hm : b ∈ ones := by
        rw [Bool.not_eq_false'] at hn
        exact of_decide_eq_true hn
      refine ⟨k, p1.k, p1.ok, ?_⟩
      intro h33 e33
      rw [hw] at e33
      obtain ⟨p33, b33⟩ := p1.put e33
      refine fin4 (b33.own hl1 (Ne.symm hne)) rfl fun h' hb' ho' => ⟨(st1.trans (Stp.of_but b33)).but_new hb' (Nat.le_refl _), ?_⟩
      rw [hdrop] at hno ⊢
      simp only [markS, if_neg hno, if_pos hm]
      exact ⟨rfl, p33.but hb' hne⟩
end Go.VC
