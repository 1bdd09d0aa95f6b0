import Derived.Test.YtpelfojmncfonaaLexG
set_option linter.unusedVariables false
set_option linter.unusedSimpArgs false

namespace Go.VC
open Go.Proofs Go.LexS
set_option maxRecDepth 100000
/- parts of conditions that stand there more than once -/
def U46 (p0 : ByteArray) (n_5 v_6 : Int) (b : Nat) (hX : Heap) (R : Value → Heap → Prop) : Prop :=
(sB (decide (n_5 > 6)) 
      ((okAt hX ⟨b, 0, none⟩ 4 ∧ ∀ h88 : Heap, h88 = hputs hX ⟨b, 0, none⟩ 0 [.int .i64 0, .string ⟨#[]⟩, .int .i64 0, .int .i64 0] → 
      (∃ x89 : Int, ∃ x90 : ByteArray, ∃ x91 : Int, ∃ x92 : Int, atC h88 ⟨b, 0, none⟩ [.int .i64 x89, .string x90, .int .i64 x91, .int .i64 x92] ∧ 
      R (.tuple ⟨[.agg ⟨[.int .i64 x89, .string x90, .int .i64 x91, .int .i64 x92]⟩, .int .i64 0, .int .i64 2]⟩) h88))) 
      ((sB (decide (n_5 > 1)) 
       (((0 ≤ (0 : Int) ∧ (0 : Int) < (ByteArray.size p0 : Nat)) ∧ 
       (sB ((byteAt p0 (Int.toNat 0) : Int) == 48) 
        ((okAt hX ⟨b, 0, none⟩ 4 ∧ ∀ h93 : Heap, h93 = hputs hX ⟨b, 0, none⟩ 0 [.int .i64 0, .string ⟨#[]⟩, .int .i64 0, .int .i64 0] → 
        (∃ x94 : Int, ∃ x95 : ByteArray, ∃ x96 : Int, ∃ x97 : Int, atC h93 ⟨b, 0, none⟩ [.int .i64 x94, .string x95, .int .i64 x96, .int .i64 x97] ∧ 
        R (.tuple ⟨[.agg ⟨[.int .i64 x94, .string x95, .int .i64 x96, .int .i64 x97]⟩, .int .i64 0, .int .i64 2]⟩) h93))) 
        ((okAt hX ⟨b, 0, none⟩ 4 ∧ ∀ h98 : Heap, h98 = hputs hX ⟨b, 0, none⟩ 0 [.int .i64 2, .string ⟨#[]⟩, .int .i64 v_6, .int .i64 0] → 
        (∃ x99 : Int, ∃ x100 : ByteArray, ∃ x101 : Int, ∃ x102 : Int, atC h98 ⟨b, 0, none⟩ [.int .i64 x99, .string x100, .int .i64 x101, .int .i64 x102] ∧ 
        R (.tuple ⟨[.agg ⟨[.int .i64 x99, .string x100, .int .i64 x101, .int .i64 x102]⟩, .int .i64 n_5, .int .i64 0]⟩) h98)))))) 
       ((okAt hX ⟨b, 0, none⟩ 4 ∧ ∀ h103 : Heap, h103 = hputs hX ⟨b, 0, none⟩ 0 [.int .i64 2, .string ⟨#[]⟩, .int .i64 v_6, .int .i64 0] → 
       (∃ x104 : Int, ∃ x105 : ByteArray, ∃ x106 : Int, ∃ x107 : Int, atC h103 ⟨b, 0, none⟩ [.int .i64 x104, .string x105, .int .i64 x106, .int .i64 x107] ∧ 
       R (.tuple ⟨[.agg ⟨[.int .i64 x104, .string x105, .int .i64 x106, .int .i64 x107]⟩, .int .i64 n_5, .int .i64 0]⟩) h103))))))
def T46 (p0 : ByteArray) (n_5 v_6 : Int) (b : Nat) (hX : Heap) (R : Value → Heap → Prop) : Prop :=
(sB (decide (n_5 < (ByteArray.size p0 : Int))) 
     (((0 ≤ (n_5 : Int) ∧ (n_5 : Int) < (ByteArray.size p0 : Nat)) ∧ 
     (Fn Try.prog 36 #[.int .u8 (byteAt p0 (Int.toNat n_5) : Int)] hX 
     (fun v60 h62 => ∃ x61 : Bool, v60 = .bool x61 ∧ 
     (sB x61 
      ((okAt h62 ⟨b, 0, none⟩ 4 ∧ ∀ h63 : Heap, h63 = hputs h62 ⟨b, 0, none⟩ 0 [.int .i64 0, .string ⟨#[]⟩, .int .i64 0, .int .i64 0] → 
      (∃ x64 : Int, ∃ x65 : ByteArray, ∃ x66 : Int, ∃ x67 : Int, atC h63 ⟨b, 0, none⟩ [.int .i64 x64, .string x65, .int .i64 x66, .int .i64 x67] ∧ 
      R (.tuple ⟨[.agg ⟨[.int .i64 x64, .string x65, .int .i64 x66, .int .i64 x67]⟩, .int .i64 0, .int .i64 3]⟩) h63))) 
      ((sB (decide (n_5 > 6)) 
       ((okAt h62 ⟨b, 0, none⟩ 4 ∧ ∀ h68 : Heap, h68 = hputs h62 ⟨b, 0, none⟩ 0 [.int .i64 0, .string ⟨#[]⟩, .int .i64 0, .int .i64 0] → 
       (∃ x69 : Int, ∃ x70 : ByteArray, ∃ x71 : Int, ∃ x72 : Int, atC h68 ⟨b, 0, none⟩ [.int .i64 x69, .string x70, .int .i64 x71, .int .i64 x72] ∧ 
       R (.tuple ⟨[.agg ⟨[.int .i64 x69, .string x70, .int .i64 x71, .int .i64 x72]⟩, .int .i64 0, .int .i64 2]⟩) h68))) 
       ((sB (decide (n_5 > 1)) 
        (((0 ≤ (0 : Int) ∧ (0 : Int) < (ByteArray.size p0 : Nat)) ∧ 
        (sB ((byteAt p0 (Int.toNat 0) : Int) == 48) 
         ((okAt h62 ⟨b, 0, none⟩ 4 ∧ ∀ h73 : Heap, h73 = hputs h62 ⟨b, 0, none⟩ 0 [.int .i64 0, .string ⟨#[]⟩, .int .i64 0, .int .i64 0] → 
         (∃ x74 : Int, ∃ x75 : ByteArray, ∃ x76 : Int, ∃ x77 : Int, atC h73 ⟨b, 0, none⟩ [.int .i64 x74, .string x75, .int .i64 x76, .int .i64 x77] ∧ 
         R (.tuple ⟨[.agg ⟨[.int .i64 x74, .string x75, .int .i64 x76, .int .i64 x77]⟩, .int .i64 0, .int .i64 2]⟩) h73))) 
         ((okAt h62 ⟨b, 0, none⟩ 4 ∧ ∀ h78 : Heap, h78 = hputs h62 ⟨b, 0, none⟩ 0 [.int .i64 2, .string ⟨#[]⟩, .int .i64 v_6, .int .i64 0] → 
         (∃ x79 : Int, ∃ x80 : ByteArray, ∃ x81 : Int, ∃ x82 : Int, atC h78 ⟨b, 0, none⟩ [.int .i64 x79, .string x80, .int .i64 x81, .int .i64 x82] ∧ 
         R (.tuple ⟨[.agg ⟨[.int .i64 x79, .string x80, .int .i64 x81, .int .i64 x82]⟩, .int .i64 n_5, .int .i64 0]⟩) h78)))))) 
        ((okAt h62 ⟨b, 0, none⟩ 4 ∧ ∀ h83 : Heap, h83 = hputs h62 ⟨b, 0, none⟩ 0 [.int .i64 2, .string ⟨#[]⟩, .int .i64 v_6, .int .i64 0] → 
        (∃ x84 : Int, ∃ x85 : ByteArray, ∃ x86 : Int, ∃ x87 : Int, atC h83 ⟨b, 0, none⟩ [.int .i64 x84, .string x85, .int .i64 x86, .int .i64 x87] ∧ 
        R (.tuple ⟨[.agg ⟨[.int .i64 x84, .string x85, .int .i64 x86, .int .i64 x87]⟩, .int .i64 n_5, .int .i64 0]⟩) h83)))))))))))) 
     ((sB (decide (n_5 > 6)) 
      ((okAt hX ⟨b, 0, none⟩ 4 ∧ ∀ h88 : Heap, h88 = hputs hX ⟨b, 0, none⟩ 0 [.int .i64 0, .string ⟨#[]⟩, .int .i64 0, .int .i64 0] → 
      (∃ x89 : Int, ∃ x90 : ByteArray, ∃ x91 : Int, ∃ x92 : Int, atC h88 ⟨b, 0, none⟩ [.int .i64 x89, .string x90, .int .i64 x91, .int .i64 x92] ∧ 
      R (.tuple ⟨[.agg ⟨[.int .i64 x89, .string x90, .int .i64 x91, .int .i64 x92]⟩, .int .i64 0, .int .i64 2]⟩) h88))) 
      ((sB (decide (n_5 > 1)) 
       (((0 ≤ (0 : Int) ∧ (0 : Int) < (ByteArray.size p0 : Nat)) ∧ 
       (sB ((byteAt p0 (Int.toNat 0) : Int) == 48) 
        ((okAt hX ⟨b, 0, none⟩ 4 ∧ ∀ h93 : Heap, h93 = hputs hX ⟨b, 0, none⟩ 0 [.int .i64 0, .string ⟨#[]⟩, .int .i64 0, .int .i64 0] → 
        (∃ x94 : Int, ∃ x95 : ByteArray, ∃ x96 : Int, ∃ x97 : Int, atC h93 ⟨b, 0, none⟩ [.int .i64 x94, .string x95, .int .i64 x96, .int .i64 x97] ∧ 
        R (.tuple ⟨[.agg ⟨[.int .i64 x94, .string x95, .int .i64 x96, .int .i64 x97]⟩, .int .i64 0, .int .i64 2]⟩) h93))) 
        ((okAt hX ⟨b, 0, none⟩ 4 ∧ ∀ h98 : Heap, h98 = hputs hX ⟨b, 0, none⟩ 0 [.int .i64 2, .string ⟨#[]⟩, .int .i64 v_6, .int .i64 0] → 
        (∃ x99 : Int, ∃ x100 : ByteArray, ∃ x101 : Int, ∃ x102 : Int, atC h98 ⟨b, 0, none⟩ [.int .i64 x99, .string x100, .int .i64 x101, .int .i64 x102] ∧ 
        R (.tuple ⟨[.agg ⟨[.int .i64 x99, .string x100, .int .i64 x101, .int .i64 x102]⟩, .int .i64 n_5, .int .i64 0]⟩) h98)))))) 
       ((okAt hX ⟨b, 0, none⟩ 4 ∧ ∀ h103 : Heap, h103 = hputs hX ⟨b, 0, none⟩ 0 [.int .i64 2, .string ⟨#[]⟩, .int .i64 v_6, .int .i64 0] → 
       (∃ x104 : Int, ∃ x105 : ByteArray, ∃ x106 : Int, ∃ x107 : Int, atC h103 ⟨b, 0, none⟩ [.int .i64 x104, .string x105, .int .i64 x106, .int .i64 x107] ∧ 
       R (.tuple ⟨[.agg ⟨[.int .i64 x104, .string x105, .int .i64 x106, .int .i64 x107]⟩, .int .i64 n_5, .int .i64 0]⟩) h103))))))))
def T47 (p0 out_4 : ByteArray) (i_5 : Int) (I1 : ByteArray → Int → Heap → Nat → Prop) (m3 : Nat) (h6 : Heap) (R : Value → Heap → Prop) : Prop :=
(sB ((byteAt p0 (Int.toNat i_5) : Int) == 92) 
       (R (.tuple ⟨[.string ⟨#[]⟩, .int .i64 0]⟩) h6) 
       (((0 ≤ (i_5 : Int) ∧ (i_5 : Int) < (ByteArray.size p0 : Nat)) ∧ 
       (sB (decide ((byteAt p0 (Int.toNat i_5) : Int) < 32)) 
        (R (.tuple ⟨[.string ⟨#[]⟩, .int .i64 0]⟩) h6) 
        (((0 ≤ (i_5 : Int) ∧ (i_5 : Int) < (ByteArray.size p0 : Nat)) ∧ 
        (sB (decide ((byteAt p0 (Int.toNat i_5) : Int) > 126)) 
         (R (.tuple ⟨[.string ⟨#[]⟩, .int .i64 0]⟩) h6) 
         ((((0 : Int) ≤ (i_5 : Int) ∧ (i_5 : Int) ≤ ((IntKind.wrap .i64 (i_5 + 1)) : Int) ∧ ((IntKind.wrap .i64 (i_5 + 1)) : Int) ≤ (ByteArray.size p0 : Nat)) ∧ 
         (((ByteArray.size out_4) + (ByteArray.size (ByteArray.extract p0 (Int.toNat i_5) (Int.toNat (IntKind.wrap .i64 (i_5 + 1))))) : Nat) ≤ 9223372036854775807 ∧ (∃ m11, m11 < m3 ∧ I1 (out_4 ++ (ByteArray.extract p0 (Int.toNat i_5) (Int.toNat (IntKind.wrap .i64 (i_5 + 1))))) (IntKind.wrap .i64 (i_5 + 1)) h6 m11)))))))))))
end Go.VC
