import Derived.Test.YtpelfojmncfonaaLexVc
import Derived.Test.YtpelfojmncfonaaTryShelf
import Derived.Test.YtpelfojmncfonaaLexSpec
set_option linter.unusedVariables false
set_option linter.unusedSimpArgs false

namespace Go.VC
open Go.Proofs Go.LexS
set_option maxRecDepth 100000

theorem letter_c (n : Int) (h : Heap) : Fn Try.prog 25 #[.int .u8 n] h fun v h' => v = .bool (isLetter n) ∧ h' = h := by
  apply vc25; unfold W25
  simp only [sB_iff]
  refine ⟨fun h1 => ⟨fun h2 => ?_, fun h2 => ⟨fun h3 => ?_, fun h3 => ?_⟩⟩, fun h1 => ⟨fun h3 => ?_, fun h3 => ?_⟩⟩ <;> simp_all [isLetter] <;> omega
theorem digit_c (n : Int) (h : Heap) : Fn Try.prog 27 #[.int .u8 n] h fun v h' => v = .bool (isDigit n) ∧ h' = h := by
  apply vc27; unfold W27
  simp only [sB_iff]
  refine ⟨fun h1 => ?_, fun h1 => ?_⟩ <;> simp_all [isDigit] <;> omega
theorem inner_c (n : Int) (h : Heap) : Fn Try.prog 33 #[.int .u8 n] h fun v h' => v = .bool (isInner n) ∧ h' = h := by
  apply vc33; unfold W33
  refine (letter_c n h).mono ?_
  rintro v h1 ⟨rfl, rfl⟩
  refine ⟨_, rfl, sB_intro (fun h2 => ?_) (fun h2 => ?_)⟩
  · simp [isInner, h2]
  · refine (digit_c n h1).mono ?_
    rintro v h3 ⟨rfl, rfl⟩
    refine ⟨_, rfl, sB_intro (fun h4 => ?_) (fun h4 => ?_)⟩ <;> simp [isInner, h2, h4]

theorem size_len (s : ByteArray) : s.size = s.data.toList.length := (Array.length_toList).symm
theorem ext_data (s : ByteArray) (a b : Nat) : (s.extract a b).data.toList = (s.data.toList.drop a).take (b - a) := by
  rw [ByteArray.data_extract]
  simp [List.extract_eq_take_drop]
theorem ext_end (s : ByteArray) (a : Nat) : (s.extract a s.size).data.toList = s.data.toList.drop a := by
  have hs := size_len s
  rw [ext_data, List.take_of_length_le]
  rw [List.length_drop]; omega
theorem byte_get {s : ByteArray} {i : Nat} (h : i < s.size) : ∃ b : UInt8, s.data.toList[i]? = some b ∧ byteAt s i = b.toNat := by
  have hl : i < s.data.toList.length := by rw [← size_len]; exact h
  refine ⟨s.data.toList[i], List.getElem?_eq_getElem hl, ?_⟩
  unfold byteAt
  rw [List.getD_eq_getElem?_getD, List.getElem?_eq_getElem hl]; rfl

theorem prefix_c (s p : ByteArray) (h : Heap) : Fn Try.prog 41 #[.string s, .string p] h fun v h' => v = .bool (p.data.toList.isPrefixOf s.data.toList) ∧ h' = h :=
  Fn.of_same fun w => Try.strings_HasPrefix s p w
theorem validRune_c (r : Int) (h : Heap) : Fn Try.prog 55 #[.int .i32 r] h fun v h' => v = .bool (Lib.validRune r) ∧ h' = h :=
  Fn.of_same fun w => Try.utf8_ValidRune r w
theorem indexByte_c (s : ByteArray) (c : Int) (h : Heap) : Fn Try.prog 42 #[.string s, .int .u8 c] h fun v h' => v = .int .i64 (Lib.indexByte s.data.toList c.toNat.toUInt8) ∧ h' = h :=
  Fn.of_same fun w => Try.strings_IndexByte s c w

theorem spaces_plain : ∀ k : Fin 128, decide (0 ≤ Lib.indexByte [32, 9, 10, 13] ((k.1 : Int).toNat.toUInt8)) = isSpace k.1 := by decide
/-- ContainsRune at the four spaces, at a byte below 128 -/
theorem spaces_lo (n : Int) (h : Heap) (h0 : 0 ≤ n) (h1 : n < 128) : Fn Try.prog 40 #[.string ⟨#[32, 9, 10, 13]⟩, .int .i32 n] h fun v h' => v = .bool (isSpace n) ∧ h' = h := by
  have := Fn.of_same (h := h) fun w => Try.strings_ContainsRune_ascii ⟨#[32, 9, 10, 13]⟩ n w h0 h1
  refine this.mono ?_
  rintro v h' ⟨rfl, rfl⟩
  refine ⟨?_, rfl⟩
  congr 1
  obtain ⟨k, rfl⟩ := Int.eq_ofNat_of_zero_le h0
  exact spaces_plain ⟨k, by omega⟩
theorem enc_hi : ∀ k : Fin 128, ∃ a b : UInt8, Utf8.encode ((k.1 + 128 : Nat) : Int) = ⟨#[a, b]⟩ ∧ 128 ≤ b.toNat := by
  intro k
  refine ⟨UInt8.ofNat (0xC0 + (k.1 + 128) / 64), UInt8.ofNat (0x80 + (k.1 + 128) % 64), ?_, ?_⟩
  · revert k; decide
  · revert k; decide
theorem rune_hi (n : Int) (h : Heap) (h0 : 128 ≤ n) (h1 : n < 256) : Fn Try.prog 50 #[.string ⟨#[32, 9, 10, 13]⟩, .int .i32 n] h fun v h' => v = .int .i64 (-1) ∧ h' = h := by
  obtain ⟨k, rfl⟩ := Int.eq_ofNat_of_zero_le (show 0 ≤ n by omega)
  obtain ⟨a, b, he, hb⟩ := enc_hi ⟨k - 128, by omega⟩
  rw [show (k - 128 + 128 : Nat) = k by omega] at he
  apply vc50; unfold W50
  refine sB_t (by simp) (sB_f (by simp; omega) (sB_f (by simp; omega) ?_))
  refine (validRune_c _ _).mono ?_
  rintro v h1 ⟨rfl, rfl⟩
  have hv : Lib.validRune (k : Int) = true := by simp [Lib.validRune]; omega
  refine ⟨true, by rw [hv], sB_f rfl ?_⟩
  intro w hw
  refine ⟨.string (Utf8.encode k), w, ?_, ?_, rfl, rfl, rfl⟩
  · simp [Go.convert, run_underlying Try.underlying21, run_underlying Try.underlying9, Conv.intToString]
  rw [hw, he]
  refine ⟨_, rfl, fun i h' m => i = 1 ∧ h' = h1, ⟨0, (show IntKind.wrap .i64 (((2 : Nat) : Int) - 1) = 1 by decide), rfl⟩, ?_⟩
  rintro - i h' m ⟨rfl, rfl⟩
  refine sB_t (show decide ((1 : Int) < ((4 : Nat) : Int)) = true by decide) ⟨fun _ _ => False, ?_, fun _ _ _ hf => hf.elim⟩
  have e1 : IntKind.wrap .i64 ((ByteArray.size ⟨#[a, b]⟩ : Int) - 1) = 1 := by show IntKind.wrap .i64 (((2 : Nat) : Int) - 1) = 1; decide
  rw [e1]
  refine ⟨by decide, by simp [ByteArray.size], sB_t ?_ ⟨by decide, by simp [ByteArray.size], ?_⟩⟩
  · have : byteAt ⟨#[a, b]⟩ 1 = b.toNat := rfl
    have h9 : byteAt ⟨#[32, 9, 10, 13]⟩ 1 = 9 := rfl
    show ((byteAt ⟨#[32, 9, 10, 13]⟩ 1 : Int) != (byteAt ⟨#[a, b]⟩ 1 : Int)) = true
    rw [this, h9]
    simp; omega
  · refine (indexByte_c _ _ _).mono ?_
    rintro v h2 ⟨rfl, rfl⟩
    refine ⟨_, rfl, sB_t ?_ ⟨rfl, rfl⟩⟩
    have e2 : (ByteArray.extract ⟨#[32, 9, 10, 13]⟩ (Int.toNat (IntKind.wrap .i64 (1 + 1))) (Int.toNat ((ByteArray.size ⟨#[32, 9, 10, 13]⟩ : Nat) : Int))).data.toList = [10, 13] := by decide
    rw [e2]
    have e3 : ((byteAt ⟨#[a, b]⟩ (Int.toNat 1) : Nat) : Int).toNat.toUInt8 = b := by
      show (((b.toNat : Nat) : Int)).toNat.toUInt8 = b
      simp
    rw [e3]
    have n1 : (10 : UInt8) ≠ b := fun e => by rw [← e] at hb; exact absurd hb (by decide)
    have n2 : (13 : UInt8) ≠ b := fun e => by rw [← e] at hb; exact absurd hb (by decide)
    simp [Lib.indexByte, n1, n2]
theorem spaces_c (n : Int) (h : Heap) (h0 : 0 ≤ n) (h1 : n < 256) : Fn Try.prog 40 #[.string ⟨#[32, 9, 10, 13]⟩, .int .i32 n] h fun v h' => v = .bool (isSpace n) ∧ h' = h := by
  by_cases hn : n < 128
  · exact spaces_lo n h h0 hn
  · apply vc40; unfold W40
    refine (rune_hi n h (by omega) h1).mono ?_
    rintro v h2 ⟨rfl, rfl⟩
    refine ⟨_, rfl, ?_, rfl⟩
    congr 1
    simp [isSpace]; omega
end Go.VC
