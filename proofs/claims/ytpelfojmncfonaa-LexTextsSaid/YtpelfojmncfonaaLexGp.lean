import Derived.Test.YtpelfojmncfonaaLexF
set_option linter.unusedVariables false
set_option linter.unusedSimpArgs false

namespace Go.VC
open Go.Proofs Go.LexS
set_option maxRecDepth 100000
/- one arm of Tokens' choice: it stands there four times -/
def A11 (g : FuncId) (c : Nat) (l : Sl) (I : Sl → Heap → Nat → Prop) (m : Nat) (hX : Heap) (R : Value → Heap → Prop) : Prop :=
(∃ x14 : Int, hc hX ⟨c, 1, none⟩ = some (.int .i64 x14) ∧ 
      (Fn Try.prog g #[.pointer (some ⟨c, 0, none⟩)] hX 
      (fun v15 h21 => ∃ x16 : Int, ∃ x17 : ByteArray, ∃ x18 : Int, ∃ x19 : Int, ∃ x20 : Int, v15 = .tuple ⟨[.agg ⟨[.int .i64 x16, .string x17, .int .i64 x18, .int .i64 x19]⟩, .int .i64 x20]⟩ ∧ 
      (∀ h22 : Heap, h22 = h21.push (.cells ⟨[.int .i64 0, .string ⟨#[]⟩, .int .i64 0, .int .i64 0]⟩ 34) → 
      (okAt h22 ⟨h21.size, 0, none⟩ 4 ∧ ∀ h23 : Heap, h23 = hputs h22 ⟨h21.size, 0, none⟩ 0 [.int .i64 x16, .string x17, .int .i64 x18, .int .i64 x19] → 
      (sB (x20 != 0) 
       (R (.tuple ⟨[.slice none 0 0, .int .i64 x14, .int .i64 x20]⟩) h23) 
       ((okAt h23 ⟨h21.size, 3, none⟩ 1 ∧ ∀ h24 : Heap, h24 = hputs h23 ⟨h21.size, 3, none⟩ 0 [.int .i64 x14] → 
       (∃ x25 : Int, ∃ x26 : ByteArray, ∃ x27 : Int, ∃ x28 : Int, atC h24 ⟨h21.size, 0, none⟩ [.int .i64 x25, .string x26, .int .i64 x27, .int .i64 x28] ∧ 
       (∀ h29 : Heap, h29 = h24.push (.cells ⟨[.int .i64 x25, .string x26, .int .i64 x27, .int .i64 x28]⟩ 34) → 
       (App Try.prog 23 23 (.slice l.a l.n l.c) (.slice (some ⟨h24.size, 0, none⟩) 1 1) h29 fun s30 h31 => 
       (Fn Try.prog 23 #[.pointer (some ⟨c, 0, none⟩)] h31 
       (fun v32 h33 => v32 = .tuple ⟨[]⟩ ∧ 
       (∃ m34, m34 < m ∧ I s30 h33 m34))))))))))))))
end Go.VC
