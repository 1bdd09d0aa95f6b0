import Derived.Test.YtpelfojmncfonaaLexC
set_option linter.unusedVariables false
set_option linter.unusedSimpArgs false

namespace Go.VC
open Go.Proofs Go.LexS
set_option maxRecDepth 100000
/- parts of the condition of number, which stand there more than once -/
def L28 (x3 : ByteArray) (b : Nat) (hX : Heap) (R : Value → Heap → Prop) : Prop :=
(∀ h94 : Heap, h94 = hX.push (.cells ⟨[.int .i64 0, .string ⟨#[]⟩, .int .i64 0, .int .i64 0]⟩ 34) → 
     (okAt h94 ⟨hX.size, 0, none⟩ 4 ∧ ∀ h95 : Heap, h95 = hputs h94 ⟨hX.size, 0, none⟩ 0 [.int .i64 2, .string ⟨#[]⟩, .int .i64 0, .int .i64 0] → 
     (∃ I96 : Int → Heap → Nat → Prop, (∃ m97, I96 0 h95 m97) ∧ 
     (∀ (_ : Env) (x_99 : Int) (h100 : Heap) (m98 : Nat), I96 x_99 h100 m98 → 
     (sB (decide (x_99 < (ByteArray.size x3 : Int))) 
       ((∃ x101 : Int, hc h100 ⟨hX.size, 2, none⟩ = some (.int .i64 x101) ∧ 
       ((0 ≤ (x_99 : Int) ∧ (x_99 : Int) < (ByteArray.size x3 : Nat)) ∧ 
       (okAt h100 ⟨hX.size, 2, none⟩ 1 ∧ ∀ h102 : Heap, h102 = hputs h100 ⟨hX.size, 2, none⟩ 0 [.int .i64 (IntKind.wrap .i64 ((IntKind.wrap .i64 (10 * x101)) + (IntKind.wrap .i64 (IntKind.wrap .u8 ((byteAt x3 (Int.toNat x_99) : Int) - 48)))))] → 
       (∃ m103, m103 < m98 ∧ I96 (IntKind.wrap .i64 (x_99 + 1)) h102 m103))))) 
       ((∃ x104 : Int, ∃ x105 : ByteArray, ∃ x106 : Int, ∃ x107 : Int, atC h100 ⟨hX.size, 0, none⟩ [.int .i64 x104, .string x105, .int .i64 x106, .int .i64 x107] ∧ 
       (okAt h100 ⟨b, 0, none⟩ 4 ∧ ∀ h108 : Heap, h108 = hputs h100 ⟨b, 0, none⟩ 0 [.int .i64 x104, .string x105, .int .i64 x106, .int .i64 x107] → 
       (∃ x109 : Int, ∃ x110 : ByteArray, ∃ x111 : Int, ∃ x112 : Int, atC h108 ⟨b, 0, none⟩ [.int .i64 x109, .string x110, .int .i64 x111, .int .i64 x112] ∧ 
       R (.tuple ⟨[.agg ⟨[.int .i64 x109, .string x110, .int .i64 x111, .int .i64 x112]⟩, .int .i64 0]⟩) h108)))))))))
def T28 (x3 : ByteArray) (b : Nat) (hX : Heap) (R : Value → Heap → Prop) : Prop :=
(sB (decide ((ByteArray.size x3 : Int) > 6)) 
    ((okAt hX ⟨b, 0, none⟩ 4 ∧ ∀ h65 : Heap, h65 = hputs hX ⟨b, 0, none⟩ 0 [.int .i64 0, .string ⟨#[]⟩, .int .i64 0, .int .i64 0] → 
    (∃ x66 : Int, ∃ x67 : ByteArray, ∃ x68 : Int, ∃ x69 : Int, atC h65 ⟨b, 0, none⟩ [.int .i64 x66, .string x67, .int .i64 x68, .int .i64 x69] ∧ 
    R (.tuple ⟨[.agg ⟨[.int .i64 x66, .string x67, .int .i64 x68, .int .i64 x69]⟩, .int .i64 2]⟩) h65))) 
    ((sB (decide ((ByteArray.size x3 : Int) > 1)) 
     (((0 ≤ (0 : Int) ∧ (0 : Int) < (ByteArray.size x3 : Nat)) ∧ 
     (sB ((byteAt x3 (Int.toNat 0) : Int) == 48) 
      ((okAt hX ⟨b, 0, none⟩ 4 ∧ ∀ h70 : Heap, h70 = hputs hX ⟨b, 0, none⟩ 0 [.int .i64 0, .string ⟨#[]⟩, .int .i64 0, .int .i64 0] → 
      (∃ x71 : Int, ∃ x72 : ByteArray, ∃ x73 : Int, ∃ x74 : Int, atC h70 ⟨b, 0, none⟩ [.int .i64 x71, .string x72, .int .i64 x73, .int .i64 x74] ∧ 
      R (.tuple ⟨[.agg ⟨[.int .i64 x71, .string x72, .int .i64 x73, .int .i64 x74]⟩, .int .i64 2]⟩) h70))) 
      ((∀ h75 : Heap, h75 = hX.push (.cells ⟨[.int .i64 0, .string ⟨#[]⟩, .int .i64 0, .int .i64 0]⟩ 34) → 
      (okAt h75 ⟨hX.size, 0, none⟩ 4 ∧ ∀ h76 : Heap, h76 = hputs h75 ⟨hX.size, 0, none⟩ 0 [.int .i64 2, .string ⟨#[]⟩, .int .i64 0, .int .i64 0] → 
      (∃ I77 : Int → Heap → Nat → Prop, (∃ m78, I77 0 h76 m78) ∧ 
      (∀ (_ : Env) (x_80 : Int) (h81 : Heap) (m79 : Nat), I77 x_80 h81 m79 → 
      (sB (decide (x_80 < (ByteArray.size x3 : Int))) 
        ((∃ x82 : Int, hc h81 ⟨hX.size, 2, none⟩ = some (.int .i64 x82) ∧ 
        ((0 ≤ (x_80 : Int) ∧ (x_80 : Int) < (ByteArray.size x3 : Nat)) ∧ 
        (okAt h81 ⟨hX.size, 2, none⟩ 1 ∧ ∀ h83 : Heap, h83 = hputs h81 ⟨hX.size, 2, none⟩ 0 [.int .i64 (IntKind.wrap .i64 ((IntKind.wrap .i64 (10 * x82)) + (IntKind.wrap .i64 (IntKind.wrap .u8 ((byteAt x3 (Int.toNat x_80) : Int) - 48)))))] → 
        (∃ m84, m84 < m79 ∧ I77 (IntKind.wrap .i64 (x_80 + 1)) h83 m84))))) 
        ((∃ x85 : Int, ∃ x86 : ByteArray, ∃ x87 : Int, ∃ x88 : Int, atC h81 ⟨hX.size, 0, none⟩ [.int .i64 x85, .string x86, .int .i64 x87, .int .i64 x88] ∧ 
        (okAt h81 ⟨b, 0, none⟩ 4 ∧ ∀ h89 : Heap, h89 = hputs h81 ⟨b, 0, none⟩ 0 [.int .i64 x85, .string x86, .int .i64 x87, .int .i64 x88] → 
        (∃ x90 : Int, ∃ x91 : ByteArray, ∃ x92 : Int, ∃ x93 : Int, atC h89 ⟨b, 0, none⟩ [.int .i64 x90, .string x91, .int .i64 x92, .int .i64 x93] ∧ 
        R (.tuple ⟨[.agg ⟨[.int .i64 x90, .string x91, .int .i64 x92, .int .i64 x93]⟩, .int .i64 0]⟩) h89))))))))))))) 
     ((∀ h94 : Heap, h94 = hX.push (.cells ⟨[.int .i64 0, .string ⟨#[]⟩, .int .i64 0, .int .i64 0]⟩ 34) → 
     (okAt h94 ⟨hX.size, 0, none⟩ 4 ∧ ∀ h95 : Heap, h95 = hputs h94 ⟨hX.size, 0, none⟩ 0 [.int .i64 2, .string ⟨#[]⟩, .int .i64 0, .int .i64 0] → 
     (∃ I96 : Int → Heap → Nat → Prop, (∃ m97, I96 0 h95 m97) ∧ 
     (∀ (_ : Env) (x_99 : Int) (h100 : Heap) (m98 : Nat), I96 x_99 h100 m98 → 
     (sB (decide (x_99 < (ByteArray.size x3 : Int))) 
       ((∃ x101 : Int, hc h100 ⟨hX.size, 2, none⟩ = some (.int .i64 x101) ∧ 
       ((0 ≤ (x_99 : Int) ∧ (x_99 : Int) < (ByteArray.size x3 : Nat)) ∧ 
       (okAt h100 ⟨hX.size, 2, none⟩ 1 ∧ ∀ h102 : Heap, h102 = hputs h100 ⟨hX.size, 2, none⟩ 0 [.int .i64 (IntKind.wrap .i64 ((IntKind.wrap .i64 (10 * x101)) + (IntKind.wrap .i64 (IntKind.wrap .u8 ((byteAt x3 (Int.toNat x_99) : Int) - 48)))))] → 
       (∃ m103, m103 < m98 ∧ I96 (IntKind.wrap .i64 (x_99 + 1)) h102 m103))))) 
       ((∃ x104 : Int, ∃ x105 : ByteArray, ∃ x106 : Int, ∃ x107 : Int, atC h100 ⟨hX.size, 0, none⟩ [.int .i64 x104, .string x105, .int .i64 x106, .int .i64 x107] ∧ 
       (okAt h100 ⟨b, 0, none⟩ 4 ∧ ∀ h108 : Heap, h108 = hputs h100 ⟨b, 0, none⟩ 0 [.int .i64 x104, .string x105, .int .i64 x106, .int .i64 x107] → 
       (∃ x109 : Int, ∃ x110 : ByteArray, ∃ x111 : Int, ∃ x112 : Int, atC h108 ⟨b, 0, none⟩ [.int .i64 x109, .string x110, .int .i64 x111, .int .i64 x112] ∧ 
       R (.tuple ⟨[.agg ⟨[.int .i64 x109, .string x110, .int .i64 x111, .int .i64 x112]⟩, .int .i64 0]⟩) h108)))))))))))))
end Go.VC
