import Derived.Test.YtpelfojmncfonaaVcLib
import Derived.Test.YtpelfojmncfonaaProg
import Derived.KernelRfl
set_option linter.unusedVariables false
set_option linter.unusedSimpArgs false

namespace Go.VC
open Go.Proofs
set_option maxRecDepth 100000
set_option linter.unusedVariables false

/- farandole/farandolelaw09.LexKeywords -/
def W7 (p0 : Int) (p1 : Int) (h : Heap) (R : Value → Heap → Prop) : Prop :=
  (Fn Try.prog 10 #[] h 
  (fun v1 h3 => ∃ x2 : Bool, v1 = .bool x2 ∧ 
  (sB (!x2) 
   (R (.bool false) h3) 
   ((Fn Try.prog 16 #[] h3 
   (fun v4 h6 => ∃ x5 : Sl, v4 = .slice x5.a x5.n x5.c ∧ 
   ((x5.n : Int) ≠ 0 ∧ (NB x5.a fun b7 o8 => ((0 ≤ ((Int.tmod (IntKind.wrap .i64 p0) (x5.n : Int)) : Int) ∧ ((Int.tmod (IntKind.wrap .i64 p0) (x5.n : Int)) : Int) < (x5.n : Nat)) ∧ 
   (∃ x9 : ByteArray, hc h6 ⟨b7, o8 + Int.toNat (Int.tmod (IntKind.wrap .i64 p0) (x5.n : Int)) * 1, none⟩ = some (.string x9) ∧ 
   ((26 : Int) ≠ 0 ∧ (RunW Try.prog (Go.convert 21 9 (.int .i32 (IntKind.wrap .i32 (IntKind.wrap .u8 (97 + (Int.tmod p1 26)))))) h6 
   (fun v10 h12 => ∃ x11 : ByteArray, v10 = .string x11 ∧ 
   (((ByteArray.size x9) + (ByteArray.size x11) : Nat) ≤ 9223372036854775807 ∧ (((ByteArray.size (x9 ++ x11)) + (ByteArray.size ⟨#[120]⟩) : Nat) ≤ 9223372036854775807 ∧ (Fn Try.prog 11 #[.string x9] h12 
   (fun v13 h17 => ∃ x14 : Sl, ∃ x15 : Int, ∃ x16 : Int, v13 = .tuple ⟨[.slice x14.a x14.n x14.c, .int .i64 x15, .int .i64 x16]⟩ ∧ 
   (Fn Try.prog 17 #[.string x9] h17 
   (fun v18 h20 => ∃ x19 : Bool, v18 = .bool x19 ∧ 
   (Ext h17 h20 ∧ 
   (sB x19 
    ((Fn Try.prog 18 #[.string x9] h20 
    (fun v21 h23 => ∃ x22 : Bool, v21 = .bool x22 ∧ 
    (Ext h20 h23 ∧ 
    (sB (!x22) 
     ((Fn Try.prog 18 #[.string ((x9 ++ x11) ++ ⟨#[120]⟩)] h23 
     (fun v24 h26 => ∃ x25 : Bool, v24 = .bool x25 ∧ 
     (Ext h23 h26 ∧ 
     (sB x25 
      (((0 ≤ (0 : Int) ∧ (0 : Int) < (ByteArray.size x9 : Nat)) ∧ 
      (((0 : Int) ≤ (1 : Int) ∧ (1 : Int) ≤ ((ByteArray.size x9) : Int) ∧ ((ByteArray.size x9) : Int) ≤ (ByteArray.size x9 : Nat)) ∧ 
      (RunW Try.prog (Go.convert 21 9 (.int .i32 (IntKind.wrap .i32 (IntKind.wrap .u8 ((byteAt x9 (Int.toNat 0) : Int) - 32))))) h26 
      (fun v27 h29 => ∃ x28 : ByteArray, v27 = .string x28 ∧ 
      (Ext h26 h29 ∧ 
      (((ByteArray.size x28) + (ByteArray.size (ByteArray.extract x9 (Int.toNat 1) (Int.toNat (ByteArray.size x9)))) : Nat) ≤ 9223372036854775807 ∧ (Fn Try.prog 18 #[.string (x28 ++ (ByteArray.extract x9 (Int.toNat 1) (Int.toNat (ByteArray.size x9))))] h29 
      (fun v30 h32 => ∃ x31 : Bool, v30 = .bool x31 ∧ 
      (Ext h29 h32 ∧ 
      (sB x31 
       ((sB (x16 == 0) 
        ((sB ((x14.n : Int) == 1) 
         ((NB x14.a fun b33 o34 => ((0 ≤ (0 : Int) ∧ (0 : Int) < (x14.n : Nat)) ∧ 
         (∃ x35 : Int, ∃ x36 : ByteArray, ∃ x37 : Int, ∃ x38 : Int, atC h32 ⟨b33, o34 + Int.toNat 0 * 4, none⟩ [.int .i64 x35, .string x36, .int .i64 x37, .int .i64 x38] ∧ 
         R (.bool ((x35 == 1) && ((ByteArray.toList x36 == ByteArray.toList x9) && ((x37 == 0) && ((x38 == 0) && true))))) h32)))) 
         (R (.bool false) h32))) 
        (R (.bool false) h32))) 
       (R (.bool false) h32)))))))))))) 
      (R (.bool false) h26)))))) 
     (R (.bool false) h23)))))) 
    (R (.bool false) h20))))))))))))))))))))))
theorem vc7e (p0 : Int) (p1 : Int) (h : Heap) (R : Value → Heap → Prop) : W7 p0 p1 h R = fnW Try.prog 7 .z #[.int .u8 p0, .int .u8 p1] h R := by kernel_rfl
theorem vc7 (p0 : Int) (p1 : Int) (h : Heap) (R : Value → Heap → Prop) (H : W7 p0 p1 h R) : Fn Try.prog 7 #[.int .u8 p0, .int .u8 p1] h R := fnI (vc7e p0 p1 h R) H

/- farandole/farandoleref09.Digits -/
def W32 (p0 : Int) (h : Heap) (R : Value → Heap → Prop) : Prop :=
  (sB (decide (p0 < (-9))) 
   (((10 : Int) ≠ 0 ∧ (Fn Try.prog 32 #[.int .i64 (IntKind.wrap .i64 (Int.tdiv p0 10))] h 
   (fun v1 h3 => ∃ x2 : ByteArray, v1 = .string x2 ∧ 
   ((10 : Int) ≠ 0 ∧ (RunW Try.prog (Go.convert 21 9 (.int .i32 (IntKind.wrap .i32 (IntKind.wrap .i64 (48 - (Int.tmod p0 10)))))) h3 
   (fun v4 h6 => ∃ x5 : ByteArray, v4 = .string x5 ∧ 
   (((ByteArray.size x2) + (ByteArray.size x5) : Nat) ≤ 9223372036854775807 ∧ R (.string (x2 ++ x5)) h6)))))))) 
   ((sB (decide (p0 < 0)) 
    ((RunW Try.prog (Go.convert 21 9 (.int .i32 (IntKind.wrap .i32 (IntKind.wrap .i64 (48 - p0))))) h 
    (fun v7 h9 => ∃ x8 : ByteArray, v7 = .string x8 ∧ 
    (((ByteArray.size ⟨#[45]⟩) + (ByteArray.size x8) : Nat) ≤ 9223372036854775807 ∧ R (.string (⟨#[45]⟩ ++ x8)) h9)))) 
    ((sB (decide (p0 < 10)) 
     ((RunW Try.prog (Go.convert 21 9 (.int .i32 (IntKind.wrap .i32 (IntKind.wrap .i64 (48 + p0))))) h 
     (fun v10 h12 => ∃ x11 : ByteArray, v10 = .string x11 ∧ 
     R (.string x11) h12))) 
     (((10 : Int) ≠ 0 ∧ (Fn Try.prog 32 #[.int .i64 (IntKind.wrap .i64 (Int.tdiv p0 10))] h 
     (fun v13 h15 => ∃ x14 : ByteArray, v13 = .string x14 ∧ 
     ((10 : Int) ≠ 0 ∧ (RunW Try.prog (Go.convert 21 9 (.int .i32 (IntKind.wrap .i32 (IntKind.wrap .i64 (48 + (Int.tmod p0 10)))))) h15 
     (fun v16 h18 => ∃ x17 : ByteArray, v16 = .string x17 ∧ 
     (((ByteArray.size x14) + (ByteArray.size x17) : Nat) ≤ 9223372036854775807 ∧ R (.string (x14 ++ x17)) h18)))))))))))))
theorem vc32e (p0 : Int) (h : Heap) (R : Value → Heap → Prop) : W32 p0 h R = fnW Try.prog 32 .z #[.int .i64 p0] h R := by kernel_rfl
theorem vc32 (p0 : Int) (h : Heap) (R : Value → Heap → Prop) (H : W32 p0 h R) : Fn Try.prog 32 #[.int .i64 p0] h R := fnI (vc32e p0 h R) H

/- farandole/lex.Tokens
   loop rrrlrb: l_7:Sl -/
def W11 (p0 : ByteArray) (h : Heap) (R : Value → Heap → Prop) : Prop :=
  (sB (decide ((ByteArray.size p0 : Int) > 8000)) 
   (R (.tuple ⟨[.slice none 0 0, .int .i64 8000, .int .i64 6]⟩) h) 
   ((∀ h1 : Heap, h1 = h.push (.cells ⟨[.string p0, .int .i64 0]⟩ 45) → 
   (Fn Try.prog 23 #[.pointer (some ⟨h.size, 0, none⟩)] h1 
   (fun v2 h3 => v2 = .tuple ⟨[]⟩ ∧ 
   (∃ I4 : Sl → Heap → Nat → Prop, (∃ m5, I4 ⟨none, 0, 0⟩ h3 m5) ∧ 
   (∀ (_ : Env) (l_7 : Sl) (h8 : Heap) (m6 : Nat), I4 l_7 h8 m6 → 
   (∃ x9 : Int, hc h8 ⟨h.size, 1, none⟩ = some (.int .i64 x9) ∧ 
    (sB (decide (x9 < (ByteArray.size p0 : Int))) 
     ((∃ x10 : Int, hc h8 ⟨h.size, 1, none⟩ = some (.int .i64 x10) ∧ 
     ((0 ≤ (x10 : Int) ∧ (x10 : Int) < (ByteArray.size p0 : Nat)) ∧ 
     (Fn Try.prog 25 #[.int .u8 (byteAt p0 (Int.toNat x10) : Int)] h8 
     (fun v11 h13 => ∃ x12 : Bool, v11 = .bool x12 ∧ 
     (sB x12 
      ((∃ x14 : Int, hc h13 ⟨h.size, 1, none⟩ = some (.int .i64 x14) ∧ 
      (Fn Try.prog 26 #[.pointer (some ⟨h.size, 0, none⟩)] h13 
      (fun v15 h21 => ∃ x16 : Int, ∃ x17 : ByteArray, ∃ x18 : Int, ∃ x19 : Int, ∃ x20 : Int, v15 = .tuple ⟨[.agg ⟨[.int .i64 x16, .string x17, .int .i64 x18, .int .i64 x19]⟩, .int .i64 x20]⟩ ∧ 
      (∀ h22 : Heap, h22 = h21.push (.cells ⟨[.int .i64 0, .string ⟨#[]⟩, .int .i64 0, .int .i64 0]⟩ 34) → 
      (okAt h22 ⟨h21.size, 0, none⟩ 4 ∧ ∀ h23 : Heap, h23 = hputs h22 ⟨h21.size, 0, none⟩ 0 [.int .i64 x16, .string x17, .int .i64 x18, .int .i64 x19] → 
      (sB (x20 != 0) 
       (R (.tuple ⟨[.slice none 0 0, .int .i64 x14, .int .i64 x20]⟩) h23) 
       ((okAt h23 ⟨h21.size, 3, none⟩ 1 ∧ ∀ h24 : Heap, h24 = hputs h23 ⟨h21.size, 3, none⟩ 0 [.int .i64 x14] → 
       (∃ x25 : Int, ∃ x26 : ByteArray, ∃ x27 : Int, ∃ x28 : Int, atC h24 ⟨h21.size, 0, none⟩ [.int .i64 x25, .string x26, .int .i64 x27, .int .i64 x28] ∧ 
       (∀ h29 : Heap, h29 = h24.push (.cells ⟨[.int .i64 x25, .string x26, .int .i64 x27, .int .i64 x28]⟩ 34) → 
       (App Try.prog 23 23 (.slice l_7.a l_7.n l_7.c) (.slice (some ⟨h24.size, 0, none⟩) 1 1) h29 fun s30 h31 => 
       (Fn Try.prog 23 #[.pointer (some ⟨h.size, 0, none⟩)] h31 
       (fun v32 h33 => v32 = .tuple ⟨[]⟩ ∧ 
       (∃ m34, m34 < m6 ∧ I4 s30 h33 m34))))))))))))))) 
      ((Fn Try.prog 27 #[.int .u8 (byteAt p0 (Int.toNat x10) : Int)] h13 
      (fun v35 h37 => ∃ x36 : Bool, v35 = .bool x36 ∧ 
      (sB x36 
       ((∃ x38 : Int, hc h37 ⟨h.size, 1, none⟩ = some (.int .i64 x38) ∧ 
       (Fn Try.prog 28 #[.pointer (some ⟨h.size, 0, none⟩)] h37 
       (fun v39 h45 => ∃ x40 : Int, ∃ x41 : ByteArray, ∃ x42 : Int, ∃ x43 : Int, ∃ x44 : Int, v39 = .tuple ⟨[.agg ⟨[.int .i64 x40, .string x41, .int .i64 x42, .int .i64 x43]⟩, .int .i64 x44]⟩ ∧ 
       (∀ h46 : Heap, h46 = h45.push (.cells ⟨[.int .i64 0, .string ⟨#[]⟩, .int .i64 0, .int .i64 0]⟩ 34) → 
       (okAt h46 ⟨h45.size, 0, none⟩ 4 ∧ ∀ h47 : Heap, h47 = hputs h46 ⟨h45.size, 0, none⟩ 0 [.int .i64 x40, .string x41, .int .i64 x42, .int .i64 x43] → 
       (sB (x44 != 0) 
        (R (.tuple ⟨[.slice none 0 0, .int .i64 x38, .int .i64 x44]⟩) h47) 
        ((okAt h47 ⟨h45.size, 3, none⟩ 1 ∧ ∀ h48 : Heap, h48 = hputs h47 ⟨h45.size, 3, none⟩ 0 [.int .i64 x38] → 
        (∃ x49 : Int, ∃ x50 : ByteArray, ∃ x51 : Int, ∃ x52 : Int, atC h48 ⟨h45.size, 0, none⟩ [.int .i64 x49, .string x50, .int .i64 x51, .int .i64 x52] ∧ 
        (∀ h53 : Heap, h53 = h48.push (.cells ⟨[.int .i64 x49, .string x50, .int .i64 x51, .int .i64 x52]⟩ 34) → 
        (App Try.prog 23 23 (.slice l_7.a l_7.n l_7.c) (.slice (some ⟨h48.size, 0, none⟩) 1 1) h53 fun s54 h55 => 
        (Fn Try.prog 23 #[.pointer (some ⟨h.size, 0, none⟩)] h55 
        (fun v56 h57 => v56 = .tuple ⟨[]⟩ ∧ 
        (∃ m58, m58 < m6 ∧ I4 s54 h57 m58))))))))))))))) 
       ((sB ((byteAt p0 (Int.toNat x10) : Int) == 34) 
        ((∃ x59 : Int, hc h37 ⟨h.size, 1, none⟩ = some (.int .i64 x59) ∧ 
        (Fn Try.prog 29 #[.pointer (some ⟨h.size, 0, none⟩)] h37 
        (fun v60 h66 => ∃ x61 : Int, ∃ x62 : ByteArray, ∃ x63 : Int, ∃ x64 : Int, ∃ x65 : Int, v60 = .tuple ⟨[.agg ⟨[.int .i64 x61, .string x62, .int .i64 x63, .int .i64 x64]⟩, .int .i64 x65]⟩ ∧ 
        (∀ h67 : Heap, h67 = h66.push (.cells ⟨[.int .i64 0, .string ⟨#[]⟩, .int .i64 0, .int .i64 0]⟩ 34) → 
        (okAt h67 ⟨h66.size, 0, none⟩ 4 ∧ ∀ h68 : Heap, h68 = hputs h67 ⟨h66.size, 0, none⟩ 0 [.int .i64 x61, .string x62, .int .i64 x63, .int .i64 x64] → 
        (sB (x65 != 0) 
         (R (.tuple ⟨[.slice none 0 0, .int .i64 x59, .int .i64 x65]⟩) h68) 
         ((okAt h68 ⟨h66.size, 3, none⟩ 1 ∧ ∀ h69 : Heap, h69 = hputs h68 ⟨h66.size, 3, none⟩ 0 [.int .i64 x59] → 
         (∃ x70 : Int, ∃ x71 : ByteArray, ∃ x72 : Int, ∃ x73 : Int, atC h69 ⟨h66.size, 0, none⟩ [.int .i64 x70, .string x71, .int .i64 x72, .int .i64 x73] ∧ 
         (∀ h74 : Heap, h74 = h69.push (.cells ⟨[.int .i64 x70, .string x71, .int .i64 x72, .int .i64 x73]⟩ 34) → 
         (App Try.prog 23 23 (.slice l_7.a l_7.n l_7.c) (.slice (some ⟨h69.size, 0, none⟩) 1 1) h74 fun s75 h76 => 
         (Fn Try.prog 23 #[.pointer (some ⟨h.size, 0, none⟩)] h76 
         (fun v77 h78 => v77 = .tuple ⟨[]⟩ ∧ 
         (∃ m79, m79 < m6 ∧ I4 s75 h78 m79))))))))))))))) 
        ((∃ x80 : Int, hc h37 ⟨h.size, 1, none⟩ = some (.int .i64 x80) ∧ 
        (Fn Try.prog 24 #[.pointer (some ⟨h.size, 0, none⟩)] h37 
        (fun v81 h87 => ∃ x82 : Int, ∃ x83 : ByteArray, ∃ x84 : Int, ∃ x85 : Int, ∃ x86 : Int, v81 = .tuple ⟨[.agg ⟨[.int .i64 x82, .string x83, .int .i64 x84, .int .i64 x85]⟩, .int .i64 x86]⟩ ∧ 
        (∀ h88 : Heap, h88 = h87.push (.cells ⟨[.int .i64 0, .string ⟨#[]⟩, .int .i64 0, .int .i64 0]⟩ 34) → 
        (okAt h88 ⟨h87.size, 0, none⟩ 4 ∧ ∀ h89 : Heap, h89 = hputs h88 ⟨h87.size, 0, none⟩ 0 [.int .i64 x82, .string x83, .int .i64 x84, .int .i64 x85] → 
        (sB (x86 != 0) 
         (R (.tuple ⟨[.slice none 0 0, .int .i64 x80, .int .i64 x86]⟩) h89) 
         ((okAt h89 ⟨h87.size, 3, none⟩ 1 ∧ ∀ h90 : Heap, h90 = hputs h89 ⟨h87.size, 3, none⟩ 0 [.int .i64 x80] → 
         (∃ x91 : Int, ∃ x92 : ByteArray, ∃ x93 : Int, ∃ x94 : Int, atC h90 ⟨h87.size, 0, none⟩ [.int .i64 x91, .string x92, .int .i64 x93, .int .i64 x94] ∧ 
         (∀ h95 : Heap, h95 = h90.push (.cells ⟨[.int .i64 x91, .string x92, .int .i64 x93, .int .i64 x94]⟩ 34) → 
         (App Try.prog 23 23 (.slice l_7.a l_7.n l_7.c) (.slice (some ⟨h90.size, 0, none⟩) 1 1) h95 fun s96 h97 => 
         (Fn Try.prog 23 #[.pointer (some ⟨h.size, 0, none⟩)] h97 
         (fun v98 h99 => v98 = .tuple ⟨[]⟩ ∧ 
         (∃ m100, m100 < m6 ∧ I4 s96 h99 m100))))))))))))))))))))))))))) 
     (R (.tuple ⟨[.slice l_7.a l_7.n l_7.c, .int .i64 0, .int .i64 0]⟩) h8))))))))))
theorem vc11e (p0 : ByteArray) (h : Heap) (R : Value → Heap → Prop) : W11 p0 h R = fnW Try.prog 11 (.s .z (.s .z (.s .z (.s (.s .z (.b (.l [(2, .one (.slice))] .z))) .z)))) #[.string p0] h R := by kernel_rfl
theorem vc11 (p0 : ByteArray) (h : Heap) (R : Value → Heap → Prop) (H : W11 p0 h R) : Fn Try.prog 11 #[.string p0] h R := fnI (vc11e p0 h R) H

/- (*farandole/lex.scanner).take
   loop rrlb:  -/
def W44 (p0 : Addr) (p1 : FuncId) (h : Heap) (R : Value → Heap → Prop) : Prop :=
  (∃ x1 : Int, hc h ⟨p0.block, p0.off + 1, none⟩ = some (.int .i64 x1) ∧ 
  (∃ I2 : Heap → Nat → Prop, (∃ m3, I2 h m3) ∧ 
  (∀ (_ : Env) (h5 : Heap) (m4 : Nat), I2 h5 m4 → 
  (∃ x6 : Int, hc h5 ⟨p0.block, p0.off + 1, none⟩ = some (.int .i64 x6) ∧ 
   (∃ x7 : ByteArray, hc h5 p0 = some (.string x7) ∧ 
   (sB (decide (x6 < (ByteArray.size x7 : Int))) 
    ((∃ x8 : ByteArray, hc h5 p0 = some (.string x8) ∧ 
    (∃ x9 : Int, hc h5 ⟨p0.block, p0.off + 1, none⟩ = some (.int .i64 x9) ∧ 
    ((0 ≤ (x9 : Int) ∧ (x9 : Int) < (ByteArray.size x8 : Nat)) ∧ 
    (bif callable Try.prog p1 then Fn Try.prog p1 #[.int .u8 (byteAt x8 (Int.toNat x9) : Int)] h5 
    (fun v10 h12 => ∃ x11 : Bool, v10 = .bool x11 ∧ 
    (Ext h5 h12 ∧ 
    (sB x11 
     ((∃ x13 : Int, hc h12 ⟨p0.block, p0.off + 1, none⟩ = some (.int .i64 x13) ∧ 
     (okAt h12 ⟨p0.block, p0.off + 1, none⟩ 1 ∧ ∀ h14 : Heap, h14 = hputs h12 ⟨p0.block, p0.off + 1, none⟩ 0 [.int .i64 (IntKind.wrap .i64 (x13 + 1))] → 
     (∃ m15, m15 < m4 ∧ I2 h14 m15)))) 
     ((∃ x16 : ByteArray, hc h12 p0 = some (.string x16) ∧ 
     (∃ x17 : Int, hc h12 ⟨p0.block, p0.off + 1, none⟩ = some (.int .i64 x17) ∧ 
     (((0 : Int) ≤ (x1 : Int) ∧ (x1 : Int) ≤ (x17 : Int) ∧ (x17 : Int) ≤ (ByteArray.size x16 : Nat)) ∧ 
     R (.string (ByteArray.extract x16 (Int.toNat x1) (Int.toNat x17))) h12))))))) else False))))) 
    ((∃ x18 : ByteArray, hc h5 p0 = some (.string x18) ∧ 
    (∃ x19 : Int, hc h5 ⟨p0.block, p0.off + 1, none⟩ = some (.int .i64 x19) ∧ 
    (((0 : Int) ≤ (x1 : Int) ∧ (x1 : Int) ≤ (x19 : Int) ∧ (x19 : Int) ≤ (ByteArray.size x18 : Nat)) ∧ 
    R (.string (ByteArray.extract x18 (Int.toNat x1) (Int.toNat x19))) h5))))))))))
theorem vc44e (p0 : Addr) (p1 : FuncId) (h : Heap) (R : Value → Heap → Prop) : W44 p0 p1 h R = fnW Try.prog 44 (.s .z (.s .z (.s (.b (.l [] .z)) .z))) #[.pointer (some p0), .func (.func p1) #[] #[]] h R := by kernel_rfl
theorem vc44 (p0 : Addr) (p1 : FuncId) (h : Heap) (R : Value → Heap → Prop) (H : W44 p0 p1 h R) : Fn Try.prog 44 #[.pointer (some p0), .func (.func p1) #[] #[]] h R := fnI (vc44e p0 p1 h R) H

/- (*strings.Builder).WriteByte -/
def W38 (p0 : Addr) (p1 : Int) (h : Heap) (R : Value → Heap → Prop) : Prop :=
  (Fn Try.prog 49 #[.pointer (some p0)] h 
  (fun v1 h2 => v1 = .tuple ⟨[]⟩ ∧ 
  (∃ x3 : Sl, hc h2 ⟨p0.block, p0.off + 1, none⟩ = some (.slice x3.a x3.n x3.c) ∧ 
  (∀ h4 : Heap, h4 = h2.push (.cells ⟨[.int .u8 p1]⟩ 5) → 
  (App Try.prog 56 56 (.slice x3.a x3.n x3.c) (.slice (some ⟨h2.size, 0, none⟩) 1 1) h4 fun s5 h6 => 
  (okAt h6 ⟨p0.block, p0.off + 1, none⟩ 1 ∧ ∀ h7 : Heap, h7 = hputs h6 ⟨p0.block, p0.off + 1, none⟩ 0 [.slice s5.a s5.n s5.c] → 
  R .nilIface h7))))))
theorem vc38e (p0 : Addr) (p1 : Int) (h : Heap) (R : Value → Heap → Prop) : W38 p0 p1 h R = fnW Try.prog 38 .z #[.pointer (some p0), .int .u8 p1] h R := by kernel_rfl
theorem vc38 (p0 : Addr) (p1 : Int) (h : Heap) (R : Value → Heap → Prop) (H : W38 p0 p1 h R) : Fn Try.prog 38 #[.pointer (some p0), .int .u8 p1] h R := fnI (vc38e p0 p1 h R) H

/- FAILED 49: (*strings.Builder).copyCheck: binop neq ('ptr', ('opt', 'x12')) ('ptr', ('var', 'p0')) -/
/- FAILED 54: internal/abi.NoEscape: 'NoneType' object is not subscriptable -/
end Go.VC
