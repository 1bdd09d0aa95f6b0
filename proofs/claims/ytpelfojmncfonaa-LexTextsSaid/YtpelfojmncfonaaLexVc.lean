import Derived.Test.YtpelfojmncfonaaVcLib
import Derived.Test.YtpelfojmncfonaaProg
import Derived.KernelRfl
set_option linter.unusedVariables false
set_option linter.unusedSimpArgs false

namespace Go.VC
open Go.Proofs
set_option maxRecDepth 100000
set_option linter.unusedVariables false

/- farandole/farandolelaw09.LexTokens -/
def W3 (p0 : ByteArray) (h : Heap) (R : Value → Heap → Prop) : Prop :=
  (Fn Try.prog 10 #[] h 
  (fun v1 h3 => ∃ x2 : Bool, v1 = .bool x2 ∧ 
  (sB (!x2) 
   ((Fn Try.prog 10 #[] h3 
   (fun v4 h6 => ∃ x5 : Bool, v4 = .bool x5 ∧ 
   R (.bool x5) h6))) 
   ((sB (decide ((ByteArray.size p0 : Int) > 8100)) 
    ((Fn Try.prog 10 #[] h3 
    (fun v7 h9 => ∃ x8 : Bool, v7 = .bool x8 ∧ 
    R (.bool x8) h9))) 
    ((Fn Try.prog 11 #[.string p0] h3 
    (fun v10 h14 => ∃ x11 : Sl, ∃ x12 : Int, ∃ x13 : Int, v10 = .tuple ⟨[.slice x11.a x11.n x11.c, .int .i64 x12, .int .i64 x13]⟩ ∧ 
    (Fn Try.prog 12 #[.string p0] h14 
    (fun v15 h19 => ∃ x16 : Sl, ∃ x17 : Int, ∃ x18 : Int, v15 = .tuple ⟨[.slice x16.a x16.n x16.c, .int .i64 x17, .int .i64 x18]⟩ ∧ 
    (Fn Try.prog 14 #[.slice x11.a x11.n x11.c] h19 
    (fun v20 h22 => ∃ x21 : Sl, v20 = .slice x21.a x21.n x21.c ∧ 
    (Fn Try.prog 13 #[.slice x21.a x21.n x21.c, .slice x16.a x16.n x16.c, .bool true] h22 
    (fun v23 h25 => ∃ x24 : Bool, v23 = .bool x24 ∧ 
    (sB x24 
     ((sB (x12 == x17) 
      (R (.bool (x13 == x18)) h25) 
      (R (.bool false) h25))) 
     (R (.bool false) h25))))))))))))))))
theorem vc3e (p0 : ByteArray) (h : Heap) (R : Value → Heap → Prop) : W3 p0 h R = fnW Try.prog 3 .z #[.string p0] h R := by kernel_rfl
theorem vc3 (p0 : ByteArray) (h : Heap) (R : Value → Heap → Prop) (H : W3 p0 h R) : Fn Try.prog 3 #[.string p0] h R := fnI (vc3e p0 h R) H

/- farandole/farandolelaw09.LexPlaces
   loop rrrrlrb: x_18:Int -/
def W4 (p0 : ByteArray) (p1 : Int) (h : Heap) (R : Value → Heap → Prop) : Prop :=
  (Fn Try.prog 10 #[] h 
  (fun v1 h3 => ∃ x2 : Bool, v1 = .bool x2 ∧ 
  (sB (!x2) 
   ((Fn Try.prog 10 #[] h3 
   (fun v4 h6 => ∃ x5 : Bool, v4 = .bool x5 ∧ 
   R (.bool x5) h6))) 
   ((sB (decide ((ByteArray.size p0 : Int) > 1000)) 
    ((Fn Try.prog 10 #[] h3 
    (fun v7 h9 => ∃ x8 : Bool, v7 = .bool x8 ∧ 
    R (.bool x8) h9))) 
    ((Fn Try.prog 11 #[.string p0] h3 
    (fun v10 h14 => ∃ x11 : Sl, ∃ x12 : Int, ∃ x13 : Int, v10 = .tuple ⟨[.slice x11.a x11.n x11.c, .int .i64 x12, .int .i64 x13]⟩ ∧ 
    (sB (x13 != 0) 
     (R (.bool ((x11.n : Int) == 0)) h14) 
     ((sB ((x11.n : Int) == 0) 
      (R (.bool ((x11.n : Int) == 0)) h14) 
      ((∃ I15 : Int → Heap → Nat → Prop, (∃ m16, I15 0 h14 m16) ∧ 
      (∀ (_ : Env) (x_18 : Int) (h19 : Heap) (m17 : Nat), I15 x_18 h19 m17 → 
      (sB (decide (x_18 < (x11.n : Int))) 
        ((NB x11.a fun b20 o21 => ((0 ≤ (x_18 : Int) ∧ (x_18 : Int) < (x11.n : Nat)) ∧ 
        (∃ x22 : Int, hc h19 ⟨b20, o21 + Int.toNat x_18 * 4 + 3, none⟩ = some (.int .i64 x22) ∧ 
        (sB (decide (x22 < 0)) 
         (R (.bool false) h19) 
         ((NB x11.a fun b23 o24 => ((0 ≤ (x_18 : Int) ∧ (x_18 : Int) < (x11.n : Nat)) ∧ 
         (∃ x25 : Int, hc h19 ⟨b23, o24 + Int.toNat x_18 * 4 + 3, none⟩ = some (.int .i64 x25) ∧ 
         (sB (decide (x25 ≥ (ByteArray.size p0 : Int))) 
          (R (.bool false) h19) 
          ((sB (decide (x_18 > 0)) 
           ((NB x11.a fun b26 o27 => ((0 ≤ (x_18 : Int) ∧ (x_18 : Int) < (x11.n : Nat)) ∧ 
           (∃ x28 : Int, hc h19 ⟨b26, o27 + Int.toNat x_18 * 4 + 3, none⟩ = some (.int .i64 x28) ∧ 
           (NB x11.a fun b29 o30 => ((0 ≤ ((IntKind.wrap .i64 (x_18 - 1)) : Int) ∧ ((IntKind.wrap .i64 (x_18 - 1)) : Int) < (x11.n : Nat)) ∧ 
           (∃ x31 : Int, hc h19 ⟨b29, o30 + Int.toNat (IntKind.wrap .i64 (x_18 - 1)) * 4 + 3, none⟩ = some (.int .i64 x31) ∧ 
           (sB (decide (x28 ≤ x31)) 
            (R (.bool false) h19) 
            ((∃ m32, m32 < m17 ∧ I15 (IntKind.wrap .i64 (x_18 + 1)) h19 m32)))))))))) 
           ((∃ m33, m33 < m17 ∧ I15 (IntKind.wrap .i64 (x_18 + 1)) h19 m33)))))))))))))) 
        (((x11.n : Int) ≠ 0 ∧ (NB x11.a fun b34 o35 => ((0 ≤ ((Int.tmod (IntKind.wrap .i64 p1) (x11.n : Int)) : Int) ∧ ((Int.tmod (IntKind.wrap .i64 p1) (x11.n : Int)) : Int) < (x11.n : Nat)) ∧ 
        (∃ x36 : Int, hc h19 ⟨b34, o35 + Int.toNat (Int.tmod (IntKind.wrap .i64 p1) (x11.n : Int)) * 4 + 3, none⟩ = some (.int .i64 x36) ∧ 
        (((0 : Int) ≤ (0 : Int) ∧ (0 : Int) ≤ (x36 : Int) ∧ (x36 : Int) ≤ (ByteArray.size p0 : Nat)) ∧ 
        (Fn Try.prog 11 #[.string (ByteArray.extract p0 (Int.toNat 0) (Int.toNat x36))] h19 
        (fun v37 h41 => ∃ x38 : Sl, ∃ x39 : Int, ∃ x40 : Int, v37 = .tuple ⟨[.slice x38.a x38.n x38.c, .int .i64 x39, .int .i64 x40]⟩ ∧ 
        (sB (x40 == 0) 
         ((((0 : Int) ≤ (0 : Int) ∧ (0 : Int) ≤ ((Int.tmod (IntKind.wrap .i64 p1) (x11.n : Int)) : Int) ∧ ((Int.tmod (IntKind.wrap .i64 p1) (x11.n : Int)) : Int) ≤ (x11.c : Nat)) ∧ 
         (Fn Try.prog 14 #[.slice x38.a x38.n x38.c] h41 
         (fun v42 h44 => ∃ x43 : Sl, v42 = .slice x43.a x43.n x43.c ∧ 
         (Fn Try.prog 14 #[.slice (subA x11.a (Int.toNat 0) x11.c 4) (Int.toNat (Int.tmod (IntKind.wrap .i64 p1) (x11.n : Int)) - Int.toNat 0) (x11.c - Int.toNat 0)] h44 
         (fun v45 h47 => ∃ x46 : Sl, v45 = .slice x46.a x46.n x46.c ∧ 
         (Fn Try.prog 13 #[.slice x43.a x43.n x43.c, .slice x46.a x46.n x46.c, .bool true] h47 
         (fun v48 h50 => ∃ x49 : Bool, v48 = .bool x49 ∧ 
         R (.bool x49) h50)))))))) 
         (R (.bool false) h41)))))))))))))))))))))))))
theorem vc4e (p0 : ByteArray) (p1 : Int) (h : Heap) (R : Value → Heap → Prop) : W4 p0 p1 h R = fnW Try.prog 4 (.s .z (.s .z (.s .z (.s .z (.s (.s .z (.b (.l [(39, .one (.int .i64))] .z))) .z))))) #[.string p0, .int .u8 p1] h R := by kernel_rfl
theorem vc4 (p0 : ByteArray) (p1 : Int) (h : Heap) (R : Value → Heap → Prop) (H : W4 p0 p1 h R) : Fn Try.prog 4 #[.string p0, .int .u8 p1] h R := fnI (vc4e p0 p1 h R) H

/- farandole/farandolelaw09.LexAgain
   loop rrrrrlrb: t_18:ByteArray, x_19:Int -/
def W5 (p0 : ByteArray) (h : Heap) (R : Value → Heap → Prop) : Prop :=
  (Fn Try.prog 10 #[] h 
  (fun v1 h3 => ∃ x2 : Bool, v1 = .bool x2 ∧ 
  (sB (!x2) 
   ((Fn Try.prog 10 #[] h3 
   (fun v4 h6 => ∃ x5 : Bool, v4 = .bool x5 ∧ 
   R (.bool x5) h6))) 
   ((sB (decide ((ByteArray.size p0 : Int) > 1000)) 
    ((Fn Try.prog 10 #[] h3 
    (fun v7 h9 => ∃ x8 : Bool, v7 = .bool x8 ∧ 
    R (.bool x8) h9))) 
    ((Fn Try.prog 11 #[.string p0] h3 
    (fun v10 h14 => ∃ x11 : Sl, ∃ x12 : Int, ∃ x13 : Int, v10 = .tuple ⟨[.slice x11.a x11.n x11.c, .int .i64 x12, .int .i64 x13]⟩ ∧ 
    (sB (x13 != 0) 
     (R (.bool true) h14) 
     ((∃ I15 : ByteArray → Int → Heap → Nat → Prop, (∃ m16, I15 ⟨#[]⟩ 0 h14 m16) ∧ 
     (∀ (_ : Env) (t_18 : ByteArray) (x_19 : Int) (h20 : Heap) (m17 : Nat), I15 t_18 x_19 h20 m17 → 
     (sB (decide (x_19 < (x11.n : Int))) 
       ((NB x11.a fun b21 o22 => ((0 ≤ (x_19 : Int) ∧ (x_19 : Int) < (x11.n : Nat)) ∧ 
       (∃ x23 : Int, ∃ x24 : ByteArray, ∃ x25 : Int, ∃ x26 : Int, atC h20 ⟨b21, o22 + Int.toNat x_19 * 4, none⟩ [.int .i64 x23, .string x24, .int .i64 x25, .int .i64 x26] ∧ 
       (Fn Try.prog 15 #[.agg ⟨[.int .i64 x23, .string x24, .int .i64 x25, .int .i64 x26]⟩] h20 
       (fun v27 h29 => ∃ x28 : ByteArray, v27 = .string x28 ∧ 
       (((ByteArray.size x28) + (ByteArray.size ⟨#[32]⟩) : Nat) ≤ 9223372036854775807 ∧ (((ByteArray.size t_18) + (ByteArray.size (x28 ++ ⟨#[32]⟩)) : Nat) ≤ 9223372036854775807 ∧ (∃ m30, m30 < m17 ∧ I15 (t_18 ++ (x28 ++ ⟨#[32]⟩)) (IntKind.wrap .i64 (x_19 + 1)) h29 m30))))))))) 
       ((Fn Try.prog 11 #[.string t_18] h20 
       (fun v31 h35 => ∃ x32 : Sl, ∃ x33 : Int, ∃ x34 : Int, v31 = .tuple ⟨[.slice x32.a x32.n x32.c, .int .i64 x33, .int .i64 x34]⟩ ∧ 
       (sB (x34 == 0) 
        ((Fn Try.prog 14 #[.slice x32.a x32.n x32.c] h35 
        (fun v36 h38 => ∃ x37 : Sl, v36 = .slice x37.a x37.n x37.c ∧ 
        (Fn Try.prog 14 #[.slice x11.a x11.n x11.c] h38 
        (fun v39 h41 => ∃ x40 : Sl, v39 = .slice x40.a x40.n x40.c ∧ 
        (Fn Try.prog 13 #[.slice x37.a x37.n x37.c, .slice x40.a x40.n x40.c, .bool false] h41 
        (fun v42 h44 => ∃ x43 : Bool, v42 = .bool x43 ∧ 
        R (.bool x43) h44))))))) 
        (R (.bool false) h35))))))))))))))))))
theorem vc5e (p0 : ByteArray) (h : Heap) (R : Value → Heap → Prop) : W5 p0 h R = fnW Try.prog 5 (.s .z (.s .z (.s .z (.s .z (.s .z (.s (.s .z (.b (.l [(6, .one (.str)), (29, .one (.int .i64))] .z))) .z)))))) #[.string p0] h R := by kernel_rfl
theorem vc5 (p0 : ByteArray) (h : Heap) (R : Value → Heap → Prop) (H : W5 p0 h R) : Fn Try.prog 5 #[.string p0] h R := fnI (vc5e p0 h R) H

/- farandole/farandolelaw09.LexParts -/
def W6 (p0 : ByteArray) (p1 : ByteArray) (h : Heap) (R : Value → Heap → Prop) : Prop :=
  (Fn Try.prog 10 #[] h 
  (fun v1 h3 => ∃ x2 : Bool, v1 = .bool x2 ∧ 
  (sB (!x2) 
   ((Fn Try.prog 10 #[] h3 
   (fun v4 h6 => ∃ x5 : Bool, v4 = .bool x5 ∧ 
   R (.bool x5) h6))) 
   ((sB (decide ((ByteArray.size p0 : Int) > 1000)) 
    ((Fn Try.prog 10 #[] h3 
    (fun v7 h9 => ∃ x8 : Bool, v7 = .bool x8 ∧ 
    R (.bool x8) h9))) 
    ((sB (decide ((ByteArray.size p1 : Int) > 1000)) 
     ((Fn Try.prog 10 #[] h3 
     (fun v10 h12 => ∃ x11 : Bool, v10 = .bool x11 ∧ 
     R (.bool x11) h12))) 
     ((Fn Try.prog 11 #[.string p0] h3 
     (fun v13 h17 => ∃ x14 : Sl, ∃ x15 : Int, ∃ x16 : Int, v13 = .tuple ⟨[.slice x14.a x14.n x14.c, .int .i64 x15, .int .i64 x16]⟩ ∧ 
     (Fn Try.prog 11 #[.string p1] h17 
     (fun v18 h22 => ∃ x19 : Sl, ∃ x20 : Int, ∃ x21 : Int, v18 = .tuple ⟨[.slice x19.a x19.n x19.c, .int .i64 x20, .int .i64 x21]⟩ ∧ 
     (((ByteArray.size p0) + (ByteArray.size ⟨#[10]⟩) : Nat) ≤ 9223372036854775807 ∧ (((ByteArray.size (p0 ++ ⟨#[10]⟩)) + (ByteArray.size p1) : Nat) ≤ 9223372036854775807 ∧ (Fn Try.prog 11 #[.string ((p0 ++ ⟨#[10]⟩) ++ p1)] h22 
     (fun v23 h27 => ∃ x24 : Sl, ∃ x25 : Int, ∃ x26 : Int, v23 = .tuple ⟨[.slice x24.a x24.n x24.c, .int .i64 x25, .int .i64 x26]⟩ ∧ 
     (sB (x16 != 0) 
      (R (.bool (x26 == x16)) h27) 
      ((sB (x21 != 0) 
       ((sB (x26 == x21) 
        (R (.bool (x25 == (IntKind.wrap .i64 ((IntKind.wrap .i64 (x20 + (ByteArray.size p0 : Int))) + 1)))) h27) 
        (R (.bool false) h27))) 
       ((sB (x26 == 0) 
        ((Fn Try.prog 14 #[.slice x24.a x24.n x24.c] h27 
        (fun v28 h30 => ∃ x29 : Sl, v28 = .slice x29.a x29.n x29.c ∧ 
        (Fn Try.prog 14 #[.slice x14.a x14.n x14.c] h30 
        (fun v31 h33 => ∃ x32 : Sl, v31 = .slice x32.a x32.n x32.c ∧ 
        (Fn Try.prog 14 #[.slice x19.a x19.n x19.c] h33 
        (fun v34 h36 => ∃ x35 : Sl, v34 = .slice x35.a x35.n x35.c ∧ 
        (App Try.prog 27 27 (.slice x32.a x32.n x32.c) (.slice x35.a x35.n x35.c) h36 fun s37 h38 => 
        (Fn Try.prog 13 #[.slice x29.a x29.n x29.c, .slice s37.a s37.n s37.c, .bool false] h38 
        (fun v39 h41 => ∃ x40 : Bool, v39 = .bool x40 ∧ 
        R (.bool x40) h41)))))))))) 
        (R (.bool false) h27))))))))))))))))))))))
theorem vc6e (p0 : ByteArray) (p1 : ByteArray) (h : Heap) (R : Value → Heap → Prop) : W6 p0 p1 h R = fnW Try.prog 6 .z #[.string p0, .string p1] h R := by kernel_rfl
theorem vc6 (p0 : ByteArray) (p1 : ByteArray) (h : Heap) (R : Value → Heap → Prop) (H : W6 p0 p1 h R) : Fn Try.prog 6 #[.string p0, .string p1] h R := fnI (vc6e p0 p1 h R) H

/- farandole/farandolelaw09.LexNames -/
def W8 (p0 : ByteArray) (h : Heap) (R : Value → Heap → Prop) : Prop :=
  (Fn Try.prog 10 #[] h 
  (fun v1 h3 => ∃ x2 : Bool, v1 = .bool x2 ∧ 
  (sB (!x2) 
   ((Fn Try.prog 10 #[] h3 
   (fun v4 h6 => ∃ x5 : Bool, v4 = .bool x5 ∧ 
   R (.bool x5) h6))) 
   ((sB (decide ((ByteArray.size p0 : Int) > 300)) 
    ((Fn Try.prog 10 #[] h3 
    (fun v7 h9 => ∃ x8 : Bool, v7 = .bool x8 ∧ 
    R (.bool x8) h9))) 
    ((Fn Try.prog 17 #[.string p0] h3 
    (fun v10 h12 => ∃ x11 : Bool, v10 = .bool x11 ∧ 
    (Fn Try.prog 19 #[.string p0] h12 
    (fun v13 h15 => ∃ x14 : Bool, v13 = .bool x14 ∧ 
    (sB (x11 == x14) 
     ((Fn Try.prog 18 #[.string p0] h15 
     (fun v16 h18 => ∃ x17 : Bool, v16 = .bool x17 ∧ 
     (Fn Try.prog 20 #[.string p0] h18 
     (fun v19 h21 => ∃ x20 : Bool, v19 = .bool x20 ∧ 
     (sB (x17 == x20) 
      ((Fn Try.prog 21 #[.string p0] h21 
      (fun v22 h24 => ∃ x23 : ByteArray, v22 = .string x23 ∧ 
      (Fn Try.prog 22 #[.string p0] h24 
      (fun v25 h27 => ∃ x26 : ByteArray, v25 = .string x26 ∧ 
      R (.bool ((ByteArray.toList x23) == (ByteArray.toList x26))) h27))))) 
      (R (.bool false) h21))))))) 
     (R (.bool false) h15))))))))))))
theorem vc8e (p0 : ByteArray) (h : Heap) (R : Value → Heap → Prop) : W8 p0 h R = fnW Try.prog 8 .z #[.string p0] h R := by kernel_rfl
theorem vc8 (p0 : ByteArray) (h : Heap) (R : Value → Heap → Prop) (H : W8 p0 h R) : Fn Try.prog 8 #[.string p0] h R := fnI (vc8e p0 h R) H

/- farandole/farandolelaw09.LexTexts
   loop rrlrb: x_13:Int -/
def W9 (p0 : ByteArray) (h : Heap) (R : Value → Heap → Prop) : Prop :=
  (Fn Try.prog 10 #[] h 
  (fun v1 h3 => ∃ x2 : Bool, v1 = .bool x2 ∧ 
  (sB (!x2) 
   ((Fn Try.prog 10 #[] h3 
   (fun v4 h6 => ∃ x5 : Bool, v4 = .bool x5 ∧ 
   R (.bool x5) h6))) 
   ((sB (decide ((ByteArray.size p0 : Int) > 40)) 
    ((Fn Try.prog 10 #[] h3 
    (fun v7 h9 => ∃ x8 : Bool, v7 = .bool x8 ∧ 
    R (.bool x8) h9))) 
    ((∃ I10 : Int → Heap → Nat → Prop, (∃ m11, I10 0 h3 m11) ∧ 
    (∀ (_ : Env) (x_13 : Int) (h14 : Heap) (m12 : Nat), I10 x_13 h14 m12 → 
    (sB (decide (x_13 < (ByteArray.size p0 : Int))) 
      (((0 ≤ (x_13 : Int) ∧ (x_13 : Int) < (ByteArray.size p0 : Nat)) ∧ 
      (sB (decide ((byteAt p0 (Int.toNat x_13) : Int) < 32)) 
       (R (.bool true) h14) 
       (((0 ≤ (x_13 : Int) ∧ (x_13 : Int) < (ByteArray.size p0 : Nat)) ∧ 
       (sB (decide ((byteAt p0 (Int.toNat x_13) : Int) > 126)) 
        (R (.bool true) h14) 
        ((∃ m15, m15 < m12 ∧ I10 (IntKind.wrap .i64 (x_13 + 1)) h14 m15)))))))) 
      ((Fn Try.prog 21 #[.string p0] h14 
      (fun v16 h18 => ∃ x17 : ByteArray, v16 = .string x17 ∧ 
      (Fn Try.prog 11 #[.string x17] h18 
      (fun v19 h23 => ∃ x20 : Sl, ∃ x21 : Int, ∃ x22 : Int, v19 = .tuple ⟨[.slice x20.a x20.n x20.c, .int .i64 x21, .int .i64 x22]⟩ ∧ 
      (sB (x22 == 0) 
       ((sB ((x20.n : Int) == 1) 
        ((NB x20.a fun b24 o25 => ((0 ≤ (0 : Int) ∧ (0 : Int) < (x20.n : Nat)) ∧ 
        (∃ x26 : Int, ∃ x27 : ByteArray, ∃ x28 : Int, ∃ x29 : Int, atC h23 ⟨b24, o25 + Int.toNat 0 * 4, none⟩ [.int .i64 x26, .string x27, .int .i64 x28, .int .i64 x29] ∧ 
        R (.bool ((x26 == 3) && ((ByteArray.toList x27 == ByteArray.toList p0) && ((x28 == 0) && ((x29 == 0) && true))))) h23)))) 
        (R (.bool false) h23))) 
       (R (.bool false) h23))))))))))))))))
theorem vc9e (p0 : ByteArray) (h : Heap) (R : Value → Heap → Prop) : W9 p0 h R = fnW Try.prog 9 (.s .z (.s .z (.s (.s .z (.b (.l [(17, .one (.int .i64))] .z))) .z))) #[.string p0] h R := by kernel_rfl
theorem vc9 (p0 : ByteArray) (h : Heap) (R : Value → Heap → Prop) (H : W9 p0 h R) : Fn Try.prog 9 #[.string p0] h R := fnI (vc9e p0 h R) H

/- farandole/farandolelaw09.awake -/
def W10  (h : Heap) (R : Value → Heap → Prop) : Prop :=
  (Fn Try.prog 11 #[.string ⟨#[97, 49, 45, 62, 98, 58, 120, 32, 47, 47, 32, 121]⟩] h 
  (fun v1 h5 => ∃ x2 : Sl, ∃ x3 : Int, ∃ x4 : Int, v1 = .tuple ⟨[.slice x2.a x2.n x2.c, .int .i64 x3, .int .i64 x4]⟩ ∧ 
  (Fn Try.prog 11 #[.string ⟨#[32, 49, 50, 97]⟩] h5 
  (fun v6 h10 => ∃ x7 : Sl, ∃ x8 : Int, ∃ x9 : Int, v6 = .tuple ⟨[.slice x7.a x7.n x7.c, .int .i64 x8, .int .i64 x9]⟩ ∧ 
  (sB (x4 == 0) 
   ((sB ((x2.n : Int) == 5) 
    ((NB x2.a fun b11 o12 => ((0 ≤ (0 : Int) ∧ (0 : Int) < (x2.n : Nat)) ∧ 
    (∃ x13 : Int, ∃ x14 : ByteArray, ∃ x15 : Int, ∃ x16 : Int, atC h10 ⟨b11, o12 + Int.toNat 0 * 4, none⟩ [.int .i64 x13, .string x14, .int .i64 x15, .int .i64 x16] ∧ 
    (sB ((x13 == 1) && ((ByteArray.toList x14 == ByteArray.toList ⟨#[97, 49]⟩) && ((x15 == 0) && ((x16 == 0) && true)))) 
     ((NB x2.a fun b17 o18 => ((0 ≤ (1 : Int) ∧ (1 : Int) < (x2.n : Nat)) ∧ 
     (∃ x19 : Int, ∃ x20 : ByteArray, ∃ x21 : Int, ∃ x22 : Int, atC h10 ⟨b17, o18 + Int.toNat 1 * 4, none⟩ [.int .i64 x19, .string x20, .int .i64 x21, .int .i64 x22] ∧ 
     (sB ((x19 == 4) && ((ByteArray.toList x20 == ByteArray.toList ⟨#[45, 62]⟩) && ((x21 == 0) && ((x22 == 2) && true)))) 
      ((sB (x8 == 1) 
       ((sB (x9 == 3) 
        ((Fn Try.prog 17 #[.string ⟨#[111, 114]⟩] h10 
        (fun v23 h25 => ∃ x24 : Bool, v23 = .bool x24 ∧ 
        (sB x24 
         ((Fn Try.prog 18 #[.string ⟨#[111, 114]⟩] h25 
         (fun v26 h28 => ∃ x27 : Bool, v26 = .bool x27 ∧ 
         R (.bool (!x27)) h28))) 
         (R (.bool false) h25))))) 
        (R (.bool false) h10))) 
       (R (.bool false) h10))) 
      (R (.bool false) h10)))))) 
     (R (.bool false) h10)))))) 
    (R (.bool false) h10))) 
   (R (.bool false) h10))))))
theorem vc10e  (h : Heap) (R : Value → Heap → Prop) : W10  h R = fnW Try.prog 10 .z #[] h R := by kernel_rfl
theorem vc10  (h : Heap) (R : Value → Heap → Prop) (H : W10  h R) : Fn Try.prog 10 #[] h R := fnI (vc10e  h R) H

/- farandole/farandoleref09.Tokens
   loop rrrlrb: out_7:Sl, at_8:Int -/
def W12 (p0 : ByteArray) (h : Heap) (R : Value → Heap → Prop) : Prop :=
  (sB (decide ((ByteArray.size p0 : Int) > 8000)) 
   (R (.tuple ⟨[.slice none 0 0, .int .i64 8000, .int .i64 6]⟩) h) 
   ((Fn Try.prog 30 #[.string p0, .int .i64 0] h 
   (fun v1 h3 => ∃ x2 : Int, v1 = .int .i64 x2 ∧ 
   (∃ I4 : Sl → Int → Heap → Nat → Prop, (∃ m5, I4 ⟨none, 0, 0⟩ x2 h3 m5) ∧ 
   (∀ (_ : Env) (out_7 : Sl) (at_8 : Int) (h9 : Heap) (m6 : Nat), I4 out_7 at_8 h9 m6 → 
   (sB (decide (at_8 < (ByteArray.size p0 : Int))) 
     ((((0 : Int) ≤ (at_8 : Int) ∧ (at_8 : Int) ≤ ((ByteArray.size p0) : Int) ∧ ((ByteArray.size p0) : Int) ≤ (ByteArray.size p0 : Nat)) ∧ 
     (Fn Try.prog 31 #[.string (ByteArray.extract p0 (Int.toNat at_8) (Int.toNat (ByteArray.size p0)))] h9 
     (fun v10 h17 => ∃ x11 : Int, ∃ x12 : ByteArray, ∃ x13 : Int, ∃ x14 : Int, ∃ x15 : Int, ∃ x16 : Int, v10 = .tuple ⟨[.agg ⟨[.int .i64 x11, .string x12, .int .i64 x13, .int .i64 x14]⟩, .int .i64 x15, .int .i64 x16]⟩ ∧ 
     (∀ h18 : Heap, h18 = h17.push (.cells ⟨[.int .i64 0, .string ⟨#[]⟩, .int .i64 0, .int .i64 0]⟩ 37) → 
     (okAt h18 ⟨h17.size, 0, none⟩ 4 ∧ ∀ h19 : Heap, h19 = hputs h18 ⟨h17.size, 0, none⟩ 0 [.int .i64 x11, .string x12, .int .i64 x13, .int .i64 x14] → 
     (sB (x16 != 0) 
      (R (.tuple ⟨[.slice none 0 0, .int .i64 at_8, .int .i64 x16]⟩) h19) 
      ((okAt h19 ⟨h17.size, 3, none⟩ 1 ∧ ∀ h20 : Heap, h20 = hputs h19 ⟨h17.size, 3, none⟩ 0 [.int .i64 at_8] → 
      (∃ x21 : Int, ∃ x22 : ByteArray, ∃ x23 : Int, ∃ x24 : Int, atC h20 ⟨h17.size, 0, none⟩ [.int .i64 x21, .string x22, .int .i64 x23, .int .i64 x24] ∧ 
      (∀ h25 : Heap, h25 = h20.push (.cells ⟨[.int .i64 x21, .string x22, .int .i64 x23, .int .i64 x24]⟩ 37) → 
      (App Try.prog 27 27 (.slice out_7.a out_7.n out_7.c) (.slice (some ⟨h20.size, 0, none⟩) 1 1) h25 fun s26 h27 => 
      (Fn Try.prog 30 #[.string p0, .int .i64 (IntKind.wrap .i64 (at_8 + x15))] h27 
      (fun v28 h30 => ∃ x29 : Int, v28 = .int .i64 x29 ∧ 
      (∃ m31, m31 < m6 ∧ I4 s26 x29 h30 m31))))))))))))))) 
     (R (.tuple ⟨[.slice out_7.a out_7.n out_7.c, .int .i64 0, .int .i64 0]⟩) h9))))))))
theorem vc12e (p0 : ByteArray) (h : Heap) (R : Value → Heap → Prop) : W12 p0 h R = fnW Try.prog 12 (.s .z (.s .z (.s .z (.s (.s .z (.b (.l [(5, .one (.slice)), (6, .one (.int .i64))] .z))) .z)))) #[.string p0] h R := by kernel_rfl
theorem vc12 (p0 : ByteArray) (h : Heap) (R : Value → Heap → Prop) (H : W12 p0 h R) : Fn Try.prog 12 #[.string p0] h R := fnI (vc12e p0 h R) H

/- farandole/farandoleref09.Same
   loop rrlrb: i_4:Int -/
def W13 (p0 : Sl) (p1 : Sl) (p2 : Bool) (h : Heap) (R : Value → Heap → Prop) : Prop :=
  (sB ((p0.n : Int) != (p1.n : Int)) 
   (R (.bool false) h) 
   ((∃ I1 : Int → Heap → Nat → Prop, (∃ m2, I1 0 h m2) ∧ 
   (∀ (_ : Env) (i_4 : Int) (h5 : Heap) (m3 : Nat), I1 i_4 h5 m3 → 
   (sB (decide (i_4 < (p0.n : Int))) 
     ((NB p0.a fun b6 o7 => ((0 ≤ (i_4 : Int) ∧ (i_4 : Int) < (p0.n : Nat)) ∧ 
     (∃ x8 : Int, hc h5 ⟨b6, o7 + Int.toNat i_4 * 4, none⟩ = some (.int .i64 x8) ∧ 
     (NB p1.a fun b9 o10 => ((0 ≤ (i_4 : Int) ∧ (i_4 : Int) < (p1.n : Nat)) ∧ 
     (∃ x11 : Int, hc h5 ⟨b9, o10 + Int.toNat i_4 * 4, none⟩ = some (.int .i64 x11) ∧ 
     (sB (x8 != x11) 
      (R (.bool false) h5) 
      ((NB p0.a fun b12 o13 => ((0 ≤ (i_4 : Int) ∧ (i_4 : Int) < (p0.n : Nat)) ∧ 
      (∃ x14 : ByteArray, hc h5 ⟨b12, o13 + Int.toNat i_4 * 4 + 1, none⟩ = some (.string x14) ∧ 
      (NB p1.a fun b15 o16 => ((0 ≤ (i_4 : Int) ∧ (i_4 : Int) < (p1.n : Nat)) ∧ 
      (∃ x17 : ByteArray, hc h5 ⟨b15, o16 + Int.toNat i_4 * 4 + 1, none⟩ = some (.string x17) ∧ 
      (sB (!((ByteArray.toList x14) == (ByteArray.toList x17))) 
       (R (.bool false) h5) 
       ((NB p0.a fun b18 o19 => ((0 ≤ (i_4 : Int) ∧ (i_4 : Int) < (p0.n : Nat)) ∧ 
       (∃ x20 : Int, hc h5 ⟨b18, o19 + Int.toNat i_4 * 4 + 2, none⟩ = some (.int .i64 x20) ∧ 
       (NB p1.a fun b21 o22 => ((0 ≤ (i_4 : Int) ∧ (i_4 : Int) < (p1.n : Nat)) ∧ 
       (∃ x23 : Int, hc h5 ⟨b21, o22 + Int.toNat i_4 * 4 + 2, none⟩ = some (.int .i64 x23) ∧ 
       (sB (x20 != x23) 
        (R (.bool false) h5) 
        ((sB p2 
         ((NB p0.a fun b24 o25 => ((0 ≤ (i_4 : Int) ∧ (i_4 : Int) < (p0.n : Nat)) ∧ 
         (∃ x26 : Int, hc h5 ⟨b24, o25 + Int.toNat i_4 * 4 + 3, none⟩ = some (.int .i64 x26) ∧ 
         (NB p1.a fun b27 o28 => ((0 ≤ (i_4 : Int) ∧ (i_4 : Int) < (p1.n : Nat)) ∧ 
         (∃ x29 : Int, hc h5 ⟨b27, o28 + Int.toNat i_4 * 4 + 3, none⟩ = some (.int .i64 x29) ∧ 
         (sB (x26 != x29) 
          (R (.bool false) h5) 
          ((∃ m30, m30 < m3 ∧ I1 (IntKind.wrap .i64 (i_4 + 1)) h5 m30)))))))))) 
         ((∃ m31, m31 < m3 ∧ I1 (IntKind.wrap .i64 (i_4 + 1)) h5 m31)))))))))))))))))))))))))))) 
     (R (.bool true) h5))))))
theorem vc13e (p0 : Sl) (p1 : Sl) (p2 : Bool) (h : Heap) (R : Value → Heap → Prop) : W13 p0 p1 p2 h R = fnW Try.prog 13 (.s .z (.s .z (.s (.s .z (.b (.l [(7, .one (.int .i64))] .z))) .z))) #[.slice p0.a p0.n p0.c, .slice p1.a p1.n p1.c, .bool p2] h R := by kernel_rfl
theorem vc13 (p0 : Sl) (p1 : Sl) (p2 : Bool) (h : Heap) (R : Value → Heap → Prop) (H : W13 p0 p1 p2 h R) : Fn Try.prog 13 #[.slice p0.a p0.n p0.c, .slice p1.a p1.n p1.c, .bool p2] h R := fnI (vc13e p0 p1 p2 h R) H

/- farandole/farandolelaw09.Theirs
   loop rrlrb: out_4:Sl, x_5:Int -/
def W14 (p0 : Sl) (h : Heap) (R : Value → Heap → Prop) : Prop :=
  (∃ I1 : Sl → Int → Heap → Nat → Prop, (∃ m2, I1 ⟨none, 0, 0⟩ 0 h m2) ∧ 
  (∀ (_ : Env) (out_4 : Sl) (x_5 : Int) (h6 : Heap) (m3 : Nat), I1 out_4 x_5 h6 m3 → 
  (sB (decide (x_5 < (p0.n : Int))) 
    ((NB p0.a fun b7 o8 => ((0 ≤ (x_5 : Int) ∧ (x_5 : Int) < (p0.n : Nat)) ∧ 
    (∃ x9 : Int, ∃ x10 : ByteArray, ∃ x11 : Int, ∃ x12 : Int, atC h6 ⟨b7, o8 + Int.toNat x_5 * 4, none⟩ [.int .i64 x9, .string x10, .int .i64 x11, .int .i64 x12] ∧ 
    (∀ h13 : Heap, h13 = h6.push (.cells ⟨[.int .i64 x9, .string x10, .int .i64 x11, .int .i64 x12]⟩ 37) → 
    (App Try.prog 27 27 (.slice out_4.a out_4.n out_4.c) (.slice (some ⟨h6.size, 0, none⟩) 1 1) h13 fun s14 h15 => 
    (∃ m16, m16 < m3 ∧ I1 s14 (IntKind.wrap .i64 (x_5 + 1)) h15 m16))))))) 
    (R (.slice out_4.a out_4.n out_4.c) h6))))
theorem vc14e (p0 : Sl) (h : Heap) (R : Value → Heap → Prop) : W14 p0 h R = fnW Try.prog 14 (.s .z (.s .z (.s (.s .z (.b (.l [(3, .one (.slice)), (7, .one (.int .i64))] .z))) .z))) #[.slice p0.a p0.n p0.c] h R := by kernel_rfl
theorem vc14 (p0 : Sl) (h : Heap) (R : Value → Heap → Prop) (H : W14 p0 h R) : Fn Try.prog 14 #[.slice p0.a p0.n p0.c] h R := fnI (vc14e p0 h R) H

/- farandole/farandoleref09.Write -/
def W15 (p0_1 : Int) (p0_2 : ByteArray) (p0_3 : Int) (p0_4 : Int) (h : Heap) (R : Value → Heap → Prop) : Prop :=
  (∀ h5 : Heap, h5 = h.push (.cells ⟨[.int .i64 p0_1, .string p0_2, .int .i64 p0_3, .int .i64 p0_4]⟩ 37) → 
  (∃ x6 : Int, hc h5 ⟨h.size, 0, none⟩ = some (.int .i64 x6) ∧ 
  (sB (x6 == 2) 
   ((∃ x7 : Int, hc h5 ⟨h.size, 2, none⟩ = some (.int .i64 x7) ∧ 
   (Fn Try.prog 32 #[.int .i64 x7] h5 
   (fun v8 h10 => ∃ x9 : ByteArray, v8 = .string x9 ∧ 
   R (.string x9) h10)))) 
   ((sB (x6 == 3) 
    ((∃ x11 : ByteArray, hc h5 ⟨h.size, 1, none⟩ = some (.string x11) ∧ 
    (Fn Try.prog 22 #[.string x11] h5 
    (fun v12 h14 => ∃ x13 : ByteArray, v12 = .string x13 ∧ 
    R (.string x13) h14)))) 
    ((∃ x15 : ByteArray, hc h5 ⟨h.size, 1, none⟩ = some (.string x15) ∧ 
    R (.string x15) h5)))))))
theorem vc15e (p0_1 : Int) (p0_2 : ByteArray) (p0_3 : Int) (p0_4 : Int) (h : Heap) (R : Value → Heap → Prop) : W15 p0_1 p0_2 p0_3 p0_4 h R = fnW Try.prog 15 .z #[.agg ⟨[.int .i64 p0_1, .string p0_2, .int .i64 p0_3, .int .i64 p0_4]⟩] h R := by kernel_rfl
theorem vc15 (p0_1 : Int) (p0_2 : ByteArray) (p0_3 : Int) (p0_4 : Int) (h : Heap) (R : Value → Heap → Prop) (H : W15 p0_1 p0_2 p0_3 p0_4 h R) : Fn Try.prog 15 #[.agg ⟨[.int .i64 p0_1, .string p0_2, .int .i64 p0_3, .int .i64 p0_4]⟩] h R := fnI (vc15e p0_1 p0_2 p0_3 p0_4 h R) H

/- farandole/farandoleref09.Keywords -/
def W16  (h : Heap) (R : Value → Heap → Prop) : Prop :=
  (∀ h1 : Heap, h1 = h.push (.cells ⟨[.string ⟨#[97, 103, 97, 105, 110]⟩, .string ⟨#[97, 110, 100]⟩, .string ⟨#[97, 115]⟩, .string ⟨#[97, 116]⟩, .string ⟨#[99, 97, 108, 108]⟩, .string ⟨#[99, 104, 111, 105, 99, 101]⟩, .string ⟨#[101, 108, 115, 101]⟩, .string ⟨#[102, 114, 111, 109]⟩, .string ⟨#[105, 102]⟩, .string ⟨#[105, 110, 116]⟩, .string ⟨#[108, 101, 110]⟩, .string ⟨#[108, 111, 111, 112]⟩, .string ⟨#[109, 101, 115, 115, 97, 103, 101]⟩, .string ⟨#[111, 102]⟩, .string ⟨#[111, 102, 102, 101, 114]⟩, .string ⟨#[111, 110]⟩, .string ⟨#[111, 114]⟩, .string ⟨#[112, 97, 114]⟩, .string ⟨#[112, 108, 97, 121, 115]⟩, .string ⟨#[112, 114, 111, 116, 111, 99, 111, 108]⟩, .string ⟨#[115, 101, 114, 118, 105, 99, 101]⟩, .string ⟨#[116, 101, 120, 116]⟩, .string ⟨#[116, 105, 109, 101, 115]⟩, .string ⟨#[116, 111]⟩, .string ⟨#[118, 97, 114]⟩, .string ⟨#[119, 104, 101, 114, 101]⟩, .string ⟨#[119, 104, 105, 108, 101]⟩, .string ⟨#[119, 105, 116, 104, 105, 110]⟩]⟩ 9) → 
  R (.slice (some ⟨h.size, 0, none⟩) 28 28) h1)
theorem vc16e  (h : Heap) (R : Value → Heap → Prop) : W16  h R = fnW Try.prog 16 .z #[] h R := by kernel_rfl
theorem vc16  (h : Heap) (R : Value → Heap → Prop) (H : W16  h R) : Fn Try.prog 16 #[] h R := fnI (vc16e  h R) H

/- farandole/lex.IsName
   loop rrlrb: x_7:Int -/
def W17 (p0 : ByteArray) (h : Heap) (R : Value → Heap → Prop) : Prop :=
  (sB ((ByteArray.toList p0) == (ByteArray.toList ⟨#[]⟩)) 
   (R (.bool false) h) 
   ((sB (decide ((ByteArray.size p0 : Int) > 16)) 
    (R (.bool false) h) 
    (((0 ≤ (0 : Int) ∧ (0 : Int) < (ByteArray.size p0 : Nat)) ∧ 
    (Fn Try.prog 25 #[.int .u8 (byteAt p0 (Int.toNat 0) : Int)] h 
    (fun v1 h3 => ∃ x2 : Bool, v1 = .bool x2 ∧ 
    (sB (!x2) 
     (R (.bool false) h3) 
     ((∃ I4 : Int → Heap → Nat → Prop, (∃ m5, I4 0 h3 m5) ∧ 
     (∀ (_ : Env) (x_7 : Int) (h8 : Heap) (m6 : Nat), I4 x_7 h8 m6 → 
     (sB (decide (x_7 < (ByteArray.size p0 : Int))) 
       (((0 ≤ (x_7 : Int) ∧ (x_7 : Int) < (ByteArray.size p0 : Nat)) ∧ 
       (Fn Try.prog 33 #[.int .u8 (byteAt p0 (Int.toNat x_7) : Int)] h8 
       (fun v9 h11 => ∃ x10 : Bool, v9 = .bool x10 ∧ 
       (sB (!x10) 
        (R (.bool false) h11) 
        ((∃ m12, m12 < m6 ∧ I4 (IntKind.wrap .i64 (x_7 + 1)) h11 m12))))))) 
       (R (.bool true) h8)))))))))))))
theorem vc17e (p0 : ByteArray) (h : Heap) (R : Value → Heap → Prop) : W17 p0 h R = fnW Try.prog 17 (.s .z (.s .z (.s (.s .z (.b (.l [(19, .one (.int .i64))] .z))) .z))) #[.string p0] h R := by kernel_rfl
theorem vc17 (p0 : ByteArray) (h : Heap) (R : Value → Heap → Prop) (H : W17 p0 h R) : Fn Try.prog 17 #[.string p0] h R := fnI (vc17e p0 h R) H

/- farandole/lex.IsWord -/
def W18 (p0 : ByteArray) (h : Heap) (R : Value → Heap → Prop) : Prop :=
  (∀ h1 : Heap, h1 = h.push (.cells ⟨[.string ⟨#[]⟩, .string ⟨#[]⟩, .string ⟨#[]⟩, .string ⟨#[]⟩, .string ⟨#[]⟩, .string ⟨#[]⟩, .string ⟨#[]⟩, .string ⟨#[]⟩, .string ⟨#[]⟩, .string ⟨#[]⟩, .string ⟨#[]⟩, .string ⟨#[]⟩, .string ⟨#[]⟩, .string ⟨#[]⟩, .string ⟨#[]⟩, .string ⟨#[]⟩, .string ⟨#[]⟩, .string ⟨#[]⟩, .string ⟨#[]⟩, .string ⟨#[]⟩, .string ⟨#[]⟩, .string ⟨#[]⟩, .string ⟨#[]⟩, .string ⟨#[]⟩, .string ⟨#[]⟩, .string ⟨#[]⟩, .string ⟨#[]⟩, .string ⟨#[]⟩]⟩ 53) → 
  (okAt h1 ⟨h.size, 0, none⟩ 28 ∧ ∀ h2 : Heap, h2 = hputs h1 ⟨h.size, 0, none⟩ 0 [.string ⟨#[97, 103, 97, 105, 110]⟩, .string ⟨#[97, 110, 100]⟩, .string ⟨#[97, 115]⟩, .string ⟨#[97, 116]⟩, .string ⟨#[99, 97, 108, 108]⟩, .string ⟨#[99, 104, 111, 105, 99, 101]⟩, .string ⟨#[101, 108, 115, 101]⟩, .string ⟨#[102, 114, 111, 109]⟩, .string ⟨#[105, 102]⟩, .string ⟨#[105, 110, 116]⟩, .string ⟨#[108, 101, 110]⟩, .string ⟨#[108, 111, 111, 112]⟩, .string ⟨#[109, 101, 115, 115, 97, 103, 101]⟩, .string ⟨#[111, 102]⟩, .string ⟨#[111, 102, 102, 101, 114]⟩, .string ⟨#[111, 110]⟩, .string ⟨#[111, 114]⟩, .string ⟨#[112, 97, 114]⟩, .string ⟨#[112, 108, 97, 121, 115]⟩, .string ⟨#[112, 114, 111, 116, 111, 99, 111, 108]⟩, .string ⟨#[115, 101, 114, 118, 105, 99, 101]⟩, .string ⟨#[116, 101, 120, 116]⟩, .string ⟨#[116, 105, 109, 101, 115]⟩, .string ⟨#[116, 111]⟩, .string ⟨#[118, 97, 114]⟩, .string ⟨#[119, 104, 101, 114, 101]⟩, .string ⟨#[119, 104, 105, 108, 101]⟩, .string ⟨#[119, 105, 116, 104, 105, 110]⟩] → 
  (Fn Try.prog 17 #[.string p0] h2 
  (fun v3 h5 => ∃ x4 : Bool, v3 = .bool x4 ∧ 
  (sB x4 
   ((((0 : Int) ≤ (0 : Int) ∧ (0 : Int) ≤ ((28 : Nat) : Int) ∧ ((28 : Nat) : Int) ≤ (28 : Nat)) ∧ 
   (Fn Try.prog 34 #[.slice (subA (some ⟨h.size, 0, none⟩) (Int.toNat 0) 28 1) (Int.toNat (28 : Nat) - Int.toNat 0) (28 - Int.toNat 0), .string p0] h5 
   (fun v6 h8 => ∃ x7 : Bool, v6 = .bool x7 ∧ 
   R (.bool (!x7)) h8)))) 
   (R (.bool false) h5))))))
theorem vc18e (p0 : ByteArray) (h : Heap) (R : Value → Heap → Prop) : W18 p0 h R = fnW Try.prog 18 .z #[.string p0] h R := by kernel_rfl
theorem vc18 (p0 : ByteArray) (h : Heap) (R : Value → Heap → Prop) (H : W18 p0 h R) : Fn Try.prog 18 #[.string p0] h R := fnI (vc18e p0 h R) H

/- farandole/farandoleref09.IsName
   loop rrlrb: i_7:Int -/
def W19 (p0 : ByteArray) (h : Heap) (R : Value → Heap → Prop) : Prop :=
  (sB ((ByteArray.toList p0) == (ByteArray.toList ⟨#[]⟩)) 
   (R (.bool false) h) 
   (((0 ≤ (0 : Int) ∧ (0 : Int) < (ByteArray.size p0 : Nat)) ∧ 
   (Fn Try.prog 35 #[.int .u8 (byteAt p0 (Int.toNat 0) : Int)] h 
   (fun v1 h3 => ∃ x2 : Bool, v1 = .bool x2 ∧ 
   (sB (!x2) 
    (R (.bool false) h3) 
    ((sB (decide ((ByteArray.size p0 : Int) > 16)) 
     (R (.bool false) h3) 
     ((∃ I4 : Int → Heap → Nat → Prop, (∃ m5, I4 0 h3 m5) ∧ 
     (∀ (_ : Env) (i_7 : Int) (h8 : Heap) (m6 : Nat), I4 i_7 h8 m6 → 
     (sB (decide (i_7 < (ByteArray.size p0 : Int))) 
       (((0 ≤ (i_7 : Int) ∧ (i_7 : Int) < (ByteArray.size p0 : Nat)) ∧ 
       (Fn Try.prog 36 #[.int .u8 (byteAt p0 (Int.toNat i_7) : Int)] h8 
       (fun v9 h11 => ∃ x10 : Bool, v9 = .bool x10 ∧ 
       (sB (!x10) 
        (R (.bool false) h11) 
        ((∃ m12, m12 < m6 ∧ I4 (IntKind.wrap .i64 (i_7 + 1)) h11 m12))))))) 
       (R (.bool true) h8)))))))))))))
theorem vc19e (p0 : ByteArray) (h : Heap) (R : Value → Heap → Prop) : W19 p0 h R = fnW Try.prog 19 (.s .z (.s .z (.s (.s .z (.b (.l [(3, .one (.int .i64))] .z))) .z))) #[.string p0] h R := by kernel_rfl
theorem vc19 (p0 : ByteArray) (h : Heap) (R : Value → Heap → Prop) (H : W19 p0 h R) : Fn Try.prog 19 #[.string p0] h R := fnI (vc19e p0 h R) H

/- farandole/farandoleref09.IsWord -/
def W20 (p0 : ByteArray) (h : Heap) (R : Value → Heap → Prop) : Prop :=
  (Fn Try.prog 19 #[.string p0] h 
  (fun v1 h3 => ∃ x2 : Bool, v1 = .bool x2 ∧ 
  (sB x2 
   ((Fn Try.prog 16 #[] h3 
   (fun v4 h6 => ∃ x5 : Sl, v4 = .slice x5.a x5.n x5.c ∧ 
   (Fn Try.prog 37 #[.slice x5.a x5.n x5.c, .string p0] h6 
   (fun v7 h9 => ∃ x8 : Bool, v7 = .bool x8 ∧ 
   R (.bool (!x8)) h9))))) 
   (R (.bool false) h3))))
theorem vc20e (p0 : ByteArray) (h : Heap) (R : Value → Heap → Prop) : W20 p0 h R = fnW Try.prog 20 .z #[.string p0] h R := by kernel_rfl
theorem vc20 (p0 : ByteArray) (h : Heap) (R : Value → Heap → Prop) (H : W20 p0 h R) : Fn Try.prog 20 #[.string p0] h R := fnI (vc20e p0 h R) H

/- farandole/lex.Quote
   loop rrrlrb: x_8:Int -/
def W21 (p0 : ByteArray) (h : Heap) (R : Value → Heap → Prop) : Prop :=
  (∀ h1 : Heap, h1 = h.push (.cells ⟨[.pointer none, .slice none 0 0]⟩ 58) → 
  (Fn Try.prog 38 #[.pointer (some ⟨h.size, 0, none⟩), .int .u8 34] h1 
  (fun v2 h4 => ∃ x3 : Value, v2 = x3 ∧ 
  (∃ I5 : Int → Heap → Nat → Prop, (∃ m6, I5 0 h4 m6) ∧ 
  (∀ (_ : Env) (x_8 : Int) (h9 : Heap) (m7 : Nat), I5 x_8 h9 m7 → 
  (sB (decide (x_8 < (ByteArray.size p0 : Int))) 
    (((0 ≤ (x_8 : Int) ∧ (x_8 : Int) < (ByteArray.size p0 : Nat)) ∧ 
    (sB ((byteAt p0 (Int.toNat x_8) : Int) == 34) 
     ((Fn Try.prog 38 #[.pointer (some ⟨h.size, 0, none⟩), .int .u8 92] h9 
     (fun v10 h12 => ∃ x11 : Value, v10 = x11 ∧ 
     ((0 ≤ (x_8 : Int) ∧ (x_8 : Int) < (ByteArray.size p0 : Nat)) ∧ 
     (Fn Try.prog 38 #[.pointer (some ⟨h.size, 0, none⟩), .int .u8 (byteAt p0 (Int.toNat x_8) : Int)] h12 
     (fun v13 h15 => ∃ x14 : Value, v13 = x14 ∧ 
     (∃ m16, m16 < m7 ∧ I5 (IntKind.wrap .i64 (x_8 + 1)) h15 m16))))))) 
     (((0 ≤ (x_8 : Int) ∧ (x_8 : Int) < (ByteArray.size p0 : Nat)) ∧ 
     (sB ((byteAt p0 (Int.toNat x_8) : Int) == 92) 
      ((Fn Try.prog 38 #[.pointer (some ⟨h.size, 0, none⟩), .int .u8 92] h9 
      (fun v17 h19 => ∃ x18 : Value, v17 = x18 ∧ 
      ((0 ≤ (x_8 : Int) ∧ (x_8 : Int) < (ByteArray.size p0 : Nat)) ∧ 
      (Fn Try.prog 38 #[.pointer (some ⟨h.size, 0, none⟩), .int .u8 (byteAt p0 (Int.toNat x_8) : Int)] h19 
      (fun v20 h22 => ∃ x21 : Value, v20 = x21 ∧ 
      (∃ m23, m23 < m7 ∧ I5 (IntKind.wrap .i64 (x_8 + 1)) h22 m23))))))) 
      (((0 ≤ (x_8 : Int) ∧ (x_8 : Int) < (ByteArray.size p0 : Nat)) ∧ 
      (Fn Try.prog 38 #[.pointer (some ⟨h.size, 0, none⟩), .int .u8 (byteAt p0 (Int.toNat x_8) : Int)] h9 
      (fun v24 h26 => ∃ x25 : Value, v24 = x25 ∧ 
      (∃ m27, m27 < m7 ∧ I5 (IntKind.wrap .i64 (x_8 + 1)) h26 m27))))))))))) 
    ((Fn Try.prog 38 #[.pointer (some ⟨h.size, 0, none⟩), .int .u8 34] h9 
    (fun v28 h30 => ∃ x29 : Value, v28 = x29 ∧ 
    (Fn Try.prog 39 #[.pointer (some ⟨h.size, 0, none⟩)] h30 
    (fun v31 h33 => ∃ x32 : ByteArray, v31 = .string x32 ∧ 
    R (.string x32) h33)))))))))))
theorem vc21e (p0 : ByteArray) (h : Heap) (R : Value → Heap → Prop) : W21 p0 h R = fnW Try.prog 21 (.s .z (.s .z (.s .z (.s (.s .z (.b (.l [(8, .one (.int .i64))] .z))) .z)))) #[.string p0] h R := by kernel_rfl
theorem vc21 (p0 : ByteArray) (h : Heap) (R : Value → Heap → Prop) (H : W21 p0 h R) : Fn Try.prog 21 #[.string p0] h R := fnI (vc21e p0 h R) H

/- farandole/farandoleref09.Quote
   loop rrlrb: out_4:ByteArray, i_5:Int -/
def W22 (p0 : ByteArray) (h : Heap) (R : Value → Heap → Prop) : Prop :=
  (∃ I1 : ByteArray → Int → Heap → Nat → Prop, (∃ m2, I1 ⟨#[34]⟩ 0 h m2) ∧ 
  (∀ (_ : Env) (out_4 : ByteArray) (i_5 : Int) (h6 : Heap) (m3 : Nat), I1 out_4 i_5 h6 m3 → 
  (sB (decide (i_5 < (ByteArray.size p0 : Int))) 
    (((0 ≤ (i_5 : Int) ∧ (i_5 : Int) < (ByteArray.size p0 : Nat)) ∧ 
    (sB ((byteAt p0 (Int.toNat i_5) : Int) == 34) 
     ((((ByteArray.size out_4) + (ByteArray.size ⟨#[92]⟩) : Nat) ≤ 9223372036854775807 ∧ (((0 : Int) ≤ (i_5 : Int) ∧ (i_5 : Int) ≤ ((IntKind.wrap .i64 (i_5 + 1)) : Int) ∧ ((IntKind.wrap .i64 (i_5 + 1)) : Int) ≤ (ByteArray.size p0 : Nat)) ∧ 
     (((ByteArray.size (out_4 ++ ⟨#[92]⟩)) + (ByteArray.size (ByteArray.extract p0 (Int.toNat i_5) (Int.toNat (IntKind.wrap .i64 (i_5 + 1))))) : Nat) ≤ 9223372036854775807 ∧ (∃ m7, m7 < m3 ∧ I1 ((out_4 ++ ⟨#[92]⟩) ++ (ByteArray.extract p0 (Int.toNat i_5) (Int.toNat (IntKind.wrap .i64 (i_5 + 1))))) (IntKind.wrap .i64 (i_5 + 1)) h6 m7))))) 
     (((0 ≤ (i_5 : Int) ∧ (i_5 : Int) < (ByteArray.size p0 : Nat)) ∧ 
     (sB ((byteAt p0 (Int.toNat i_5) : Int) == 92) 
      ((((ByteArray.size out_4) + (ByteArray.size ⟨#[92]⟩) : Nat) ≤ 9223372036854775807 ∧ (((0 : Int) ≤ (i_5 : Int) ∧ (i_5 : Int) ≤ ((IntKind.wrap .i64 (i_5 + 1)) : Int) ∧ ((IntKind.wrap .i64 (i_5 + 1)) : Int) ≤ (ByteArray.size p0 : Nat)) ∧ 
      (((ByteArray.size (out_4 ++ ⟨#[92]⟩)) + (ByteArray.size (ByteArray.extract p0 (Int.toNat i_5) (Int.toNat (IntKind.wrap .i64 (i_5 + 1))))) : Nat) ≤ 9223372036854775807 ∧ (∃ m8, m8 < m3 ∧ I1 ((out_4 ++ ⟨#[92]⟩) ++ (ByteArray.extract p0 (Int.toNat i_5) (Int.toNat (IntKind.wrap .i64 (i_5 + 1))))) (IntKind.wrap .i64 (i_5 + 1)) h6 m8))))) 
      ((((0 : Int) ≤ (i_5 : Int) ∧ (i_5 : Int) ≤ ((IntKind.wrap .i64 (i_5 + 1)) : Int) ∧ ((IntKind.wrap .i64 (i_5 + 1)) : Int) ≤ (ByteArray.size p0 : Nat)) ∧ 
      (((ByteArray.size out_4) + (ByteArray.size (ByteArray.extract p0 (Int.toNat i_5) (Int.toNat (IntKind.wrap .i64 (i_5 + 1))))) : Nat) ≤ 9223372036854775807 ∧ (∃ m9, m9 < m3 ∧ I1 (out_4 ++ (ByteArray.extract p0 (Int.toNat i_5) (Int.toNat (IntKind.wrap .i64 (i_5 + 1))))) (IntKind.wrap .i64 (i_5 + 1)) h6 m9)))))))))) 
    ((((ByteArray.size out_4) + (ByteArray.size ⟨#[34]⟩) : Nat) ≤ 9223372036854775807 ∧ R (.string (out_4 ++ ⟨#[34]⟩)) h6)))))
theorem vc22e (p0 : ByteArray) (h : Heap) (R : Value → Heap → Prop) : W22 p0 h R = fnW Try.prog 22 (.s .z (.s .z (.s (.s .z (.b (.l [(3, .one (.str)), (4, .one (.int .i64))] .z))) .z))) #[.string p0] h R := by kernel_rfl
theorem vc22 (p0 : ByteArray) (h : Heap) (R : Value → Heap → Prop) (H : W22 p0 h R) : Fn Try.prog 22 #[.string p0] h R := fnI (vc22e p0 h R) H

/- (*farandole/lex.scanner).skip
   loop b:  -/
def W23 (p0 : Addr) (h : Heap) (R : Value → Heap → Prop) : Prop :=
  (∃ I1 : Heap → Nat → Prop, (∃ m2, I1 h m2) ∧ 
  (∀ (_ : Env) (h4 : Heap) (m3 : Nat), I1 h4 m3 → 
  (∃ x5 : Int, hc h4 ⟨p0.block, p0.off + 1, none⟩ = some (.int .i64 x5) ∧ 
   (∃ x6 : ByteArray, hc h4 p0 = some (.string x6) ∧ 
   (sB (decide (x5 < (ByteArray.size x6 : Int))) 
    ((∃ x7 : ByteArray, hc h4 p0 = some (.string x7) ∧ 
    (∃ x8 : Int, hc h4 ⟨p0.block, p0.off + 1, none⟩ = some (.int .i64 x8) ∧ 
    (((0 : Int) ≤ (x8 : Int) ∧ (x8 : Int) ≤ ((ByteArray.size x7) : Int) ∧ ((ByteArray.size x7) : Int) ≤ (ByteArray.size x7 : Nat)) ∧ 
    ((0 ≤ (0 : Int) ∧ (0 : Int) < (ByteArray.size (ByteArray.extract x7 (Int.toNat x8) (Int.toNat (ByteArray.size x7))) : Nat)) ∧ 
    (Fn Try.prog 40 #[.string ⟨#[32, 9, 10, 13]⟩, .int .i32 (IntKind.wrap .i32 (byteAt (ByteArray.extract x7 (Int.toNat x8) (Int.toNat (ByteArray.size x7))) (Int.toNat 0) : Int))] h4 
    (fun v9 h11 => ∃ x10 : Bool, v9 = .bool x10 ∧ 
    (sB x10 
     ((∃ x12 : Int, hc h11 ⟨p0.block, p0.off + 1, none⟩ = some (.int .i64 x12) ∧ 
     (okAt h11 ⟨p0.block, p0.off + 1, none⟩ 1 ∧ ∀ h13 : Heap, h13 = hputs h11 ⟨p0.block, p0.off + 1, none⟩ 0 [.int .i64 (IntKind.wrap .i64 (x12 + 1))] → 
     (∃ m14, m14 < m3 ∧ I1 h13 m14)))) 
     ((Fn Try.prog 41 #[.string (ByteArray.extract x7 (Int.toNat x8) (Int.toNat (ByteArray.size x7))), .string ⟨#[47, 47]⟩] h11 
     (fun v15 h17 => ∃ x16 : Bool, v15 = .bool x16 ∧ 
     (sB x16 
      ((Fn Try.prog 42 #[.string (ByteArray.extract x7 (Int.toNat x8) (Int.toNat (ByteArray.size x7))), .int .u8 10] h17 
      (fun v18 h20 => ∃ x19 : Int, v18 = .int .i64 x19 ∧ 
      (sB (decide (x19 < 0)) 
       ((∃ x21 : Int, hc h20 ⟨p0.block, p0.off + 1, none⟩ = some (.int .i64 x21) ∧ 
       (okAt h20 ⟨p0.block, p0.off + 1, none⟩ 1 ∧ ∀ h22 : Heap, h22 = hputs h20 ⟨p0.block, p0.off + 1, none⟩ 0 [.int .i64 (IntKind.wrap .i64 (x21 + (IntKind.wrap .i64 ((IntKind.wrap .i64 ((ByteArray.size (ByteArray.extract x7 (Int.toNat x8) (Int.toNat (ByteArray.size x7))) : Int) - 1)) + 1))))] → 
       (∃ m23, m23 < m3 ∧ I1 h22 m23)))) 
       ((∃ x24 : Int, hc h20 ⟨p0.block, p0.off + 1, none⟩ = some (.int .i64 x24) ∧ 
       (okAt h20 ⟨p0.block, p0.off + 1, none⟩ 1 ∧ ∀ h25 : Heap, h25 = hputs h20 ⟨p0.block, p0.off + 1, none⟩ 0 [.int .i64 (IntKind.wrap .i64 (x24 + (IntKind.wrap .i64 (x19 + 1))))] → 
       (∃ m26, m26 < m3 ∧ I1 h25 m26)))))))) 
      (R (.tuple ⟨[]⟩) h17))))))))))))) 
    (R (.tuple ⟨[]⟩) h4))))))
theorem vc23e (p0 : Addr) (h : Heap) (R : Value → Heap → Prop) : W23 p0 h R = fnW Try.prog 23 (.b (.l [] .z)) #[.pointer (some p0)] h R := by kernel_rfl
theorem vc23 (p0 : Addr) (h : Heap) (R : Value → Heap → Prop) (H : W23 p0 h R) : Fn Try.prog 23 #[.pointer (some p0)] h R := fnI (vc23e p0 h R) H

/- (*farandole/lex.scanner).mark
   loop rlrb: x_5:Int -/
def W24 (p0 : Addr) (h : Heap) (R : Value → Heap → Prop) : Prop :=
  (∀ h1 : Heap, h1 = h.push (.cells ⟨[.int .i64 0, .string ⟨#[]⟩, .int .i64 0, .int .i64 0]⟩ 34) → 
  (∃ I2 : Int → Heap → Nat → Prop, (∃ m3, I2 0 h1 m3) ∧ 
  (∀ (_ : Env) (x_5 : Int) (h6 : Heap) (m4 : Nat), I2 x_5 h6 m4 → 
  (sB (decide (x_5 < 8)) 
    (((0 ≤ (x_5 : Int) ∧ (x_5 : Int) < (8 : Nat)) ∧ ∃ x7 : ByteArray, List.take 1 (List.drop (Int.toNat x_5 * 1) ([.string ⟨#[45, 62]⟩, .string ⟨#[46, 46]⟩, .string ⟨#[60, 61]⟩, .string ⟨#[62, 61]⟩, .string ⟨#[61, 61]⟩, .string ⟨#[33, 61]⟩, .string ⟨#[38, 38]⟩, .string ⟨#[124, 124]⟩] : List Value)) = [.string x7] ∧ 
    (∃ x8 : ByteArray, hc h6 p0 = some (.string x8) ∧ 
    (∃ x9 : Int, hc h6 ⟨p0.block, p0.off + 1, none⟩ = some (.int .i64 x9) ∧ 
    (((0 : Int) ≤ (x9 : Int) ∧ (x9 : Int) ≤ ((ByteArray.size x8) : Int) ∧ ((ByteArray.size x8) : Int) ≤ (ByteArray.size x8 : Nat)) ∧ 
    (Fn Try.prog 41 #[.string (ByteArray.extract x8 (Int.toNat x9) (Int.toNat (ByteArray.size x8))), .string x7] h6 
    (fun v10 h12 => ∃ x11 : Bool, v10 = .bool x11 ∧ 
    (Ext h6 h12 ∧ 
    (sB x11 
     ((∃ x13 : Int, hc h12 ⟨p0.block, p0.off + 1, none⟩ = some (.int .i64 x13) ∧ 
     (okAt h12 ⟨p0.block, p0.off + 1, none⟩ 1 ∧ ∀ h14 : Heap, h14 = hputs h12 ⟨p0.block, p0.off + 1, none⟩ 0 [.int .i64 (IntKind.wrap .i64 (x13 + 2))] → 
     (okAt h14 ⟨h.size, 0, none⟩ 4 ∧ ∀ h15 : Heap, h15 = hputs h14 ⟨h.size, 0, none⟩ 0 [.int .i64 4, .string x7, .int .i64 0, .int .i64 0] → 
     (∃ x16 : Int, ∃ x17 : ByteArray, ∃ x18 : Int, ∃ x19 : Int, atC h15 ⟨h.size, 0, none⟩ [.int .i64 x16, .string x17, .int .i64 x18, .int .i64 x19] ∧ 
     R (.tuple ⟨[.agg ⟨[.int .i64 x16, .string x17, .int .i64 x18, .int .i64 x19]⟩, .int .i64 0]⟩) h15))))) 
     ((∃ m20, m20 < m4 ∧ I2 (IntKind.wrap .i64 (x_5 + 1)) h12 m20))))))))))) 
    ((∃ x21 : ByteArray, hc h6 p0 = some (.string x21) ∧ 
    (∃ x22 : Int, hc h6 ⟨p0.block, p0.off + 1, none⟩ = some (.int .i64 x22) ∧ 
    (∃ x23 : Int, hc h6 ⟨p0.block, p0.off + 1, none⟩ = some (.int .i64 x23) ∧ 
    (((0 : Int) ≤ (x22 : Int) ∧ (x22 : Int) ≤ ((IntKind.wrap .i64 (x23 + 1)) : Int) ∧ ((IntKind.wrap .i64 (x23 + 1)) : Int) ≤ (ByteArray.size x21 : Nat)) ∧ 
    (Fn Try.prog 43 #[.string ⟨#[40, 41, 123, 125, 44, 59, 58, 46, 43, 45, 42, 47, 37, 60, 62, 61, 33]⟩, .string (ByteArray.extract x21 (Int.toNat x22) (Int.toNat (IntKind.wrap .i64 (x23 + 1))))] h6 
    (fun v24 h26 => ∃ x25 : Bool, v24 = .bool x25 ∧ 
    (sB (!x25) 
     ((okAt h26 ⟨h.size, 0, none⟩ 4 ∧ ∀ h27 : Heap, h27 = hputs h26 ⟨h.size, 0, none⟩ 0 [.int .i64 0, .string ⟨#[]⟩, .int .i64 0, .int .i64 0] → 
     (∃ x28 : Int, ∃ x29 : ByteArray, ∃ x30 : Int, ∃ x31 : Int, atC h27 ⟨h.size, 0, none⟩ [.int .i64 x28, .string x29, .int .i64 x30, .int .i64 x31] ∧ 
     R (.tuple ⟨[.agg ⟨[.int .i64 x28, .string x29, .int .i64 x30, .int .i64 x31]⟩, .int .i64 3]⟩) h27))) 
     ((∃ x32 : Int, hc h26 ⟨p0.block, p0.off + 1, none⟩ = some (.int .i64 x32) ∧ 
     (okAt h26 ⟨p0.block, p0.off + 1, none⟩ 1 ∧ ∀ h33 : Heap, h33 = hputs h26 ⟨p0.block, p0.off + 1, none⟩ 0 [.int .i64 (IntKind.wrap .i64 (x32 + 1))] → 
     (okAt h33 ⟨h.size, 0, none⟩ 4 ∧ ∀ h34 : Heap, h34 = hputs h33 ⟨h.size, 0, none⟩ 0 [.int .i64 4, .string (ByteArray.extract x21 (Int.toNat x22) (Int.toNat (IntKind.wrap .i64 (x23 + 1)))), .int .i64 0, .int .i64 0] → 
     (∃ x35 : Int, ∃ x36 : ByteArray, ∃ x37 : Int, ∃ x38 : Int, atC h34 ⟨h.size, 0, none⟩ [.int .i64 x35, .string x36, .int .i64 x37, .int .i64 x38] ∧ 
     R (.tuple ⟨[.agg ⟨[.int .i64 x35, .string x36, .int .i64 x37, .int .i64 x38]⟩, .int .i64 0]⟩) h34)))))))))))))))))
theorem vc24e (p0 : Addr) (h : Heap) (R : Value → Heap → Prop) : W24 p0 h R = fnW Try.prog 24 (.s .z (.s (.s .z (.b (.l [(8, .one (.int .i64))] .z))) .z)) #[.pointer (some p0)] h R := by kernel_rfl
theorem vc24 (p0 : Addr) (h : Heap) (R : Value → Heap → Prop) (H : W24 p0 h R) : Fn Try.prog 24 #[.pointer (some p0)] h R := fnI (vc24e p0 h R) H

/- farandole/lex.letter -/
def W25 (p0 : Int) (h : Heap) (R : Value → Heap → Prop) : Prop :=
  (sB (decide ((97 : Int) ≤ p0)) 
   ((sB (decide (p0 ≤ 122)) 
    (R (.bool true) h) 
    ((sB (decide ((65 : Int) ≤ p0)) 
     (R (.bool (decide (p0 ≤ 90))) h) 
     (R (.bool false) h))))) 
   ((sB (decide ((65 : Int) ≤ p0)) 
    (R (.bool (decide (p0 ≤ 90))) h) 
    (R (.bool false) h))))
theorem vc25e (p0 : Int) (h : Heap) (R : Value → Heap → Prop) : W25 p0 h R = fnW Try.prog 25 .z #[.int .u8 p0] h R := by kernel_rfl
theorem vc25 (p0 : Int) (h : Heap) (R : Value → Heap → Prop) (H : W25 p0 h R) : Fn Try.prog 25 #[.int .u8 p0] h R := fnI (vc25e p0 h R) H

/- (*farandole/lex.scanner).name -/
def W26 (p0 : Addr) (h : Heap) (R : Value → Heap → Prop) : Prop :=
  (∀ h1 : Heap, h1 = h.push (.cells ⟨[.int .i64 0, .string ⟨#[]⟩, .int .i64 0, .int .i64 0]⟩ 34) → 
  (Fn Try.prog 44 #[.pointer (some p0), .func (.func 33) #[] #[]] h1 
  (fun v2 h4 => ∃ x3 : ByteArray, v2 = .string x3 ∧ 
  (sB (decide ((ByteArray.size x3 : Int) > 16)) 
   ((okAt h4 ⟨h.size, 0, none⟩ 4 ∧ ∀ h5 : Heap, h5 = hputs h4 ⟨h.size, 0, none⟩ 0 [.int .i64 0, .string ⟨#[]⟩, .int .i64 0, .int .i64 0] → 
   (∃ x6 : Int, ∃ x7 : ByteArray, ∃ x8 : Int, ∃ x9 : Int, atC h5 ⟨h.size, 0, none⟩ [.int .i64 x6, .string x7, .int .i64 x8, .int .i64 x9] ∧ 
   R (.tuple ⟨[.agg ⟨[.int .i64 x6, .string x7, .int .i64 x8, .int .i64 x9]⟩, .int .i64 6]⟩) h5))) 
   ((okAt h4 ⟨h.size, 0, none⟩ 4 ∧ ∀ h10 : Heap, h10 = hputs h4 ⟨h.size, 0, none⟩ 0 [.int .i64 1, .string x3, .int .i64 0, .int .i64 0] → 
   (∃ x11 : Int, ∃ x12 : ByteArray, ∃ x13 : Int, ∃ x14 : Int, atC h10 ⟨h.size, 0, none⟩ [.int .i64 x11, .string x12, .int .i64 x13, .int .i64 x14] ∧ 
   R (.tuple ⟨[.agg ⟨[.int .i64 x11, .string x12, .int .i64 x13, .int .i64 x14]⟩, .int .i64 0]⟩) h10)))))))
theorem vc26e (p0 : Addr) (h : Heap) (R : Value → Heap → Prop) : W26 p0 h R = fnW Try.prog 26 .z #[.pointer (some p0)] h R := by kernel_rfl
theorem vc26 (p0 : Addr) (h : Heap) (R : Value → Heap → Prop) (H : W26 p0 h R) : Fn Try.prog 26 #[.pointer (some p0)] h R := fnI (vc26e p0 h R) H

/- farandole/lex.digit -/
def W27 (p0 : Int) (h : Heap) (R : Value → Heap → Prop) : Prop :=
  (sB (decide ((48 : Int) ≤ p0)) 
   (R (.bool (decide (p0 ≤ 57))) h) 
   (R (.bool false) h))
theorem vc27e (p0 : Int) (h : Heap) (R : Value → Heap → Prop) : W27 p0 h R = fnW Try.prog 27 .z #[.int .u8 p0] h R := by kernel_rfl
theorem vc27 (p0 : Int) (h : Heap) (R : Value → Heap → Prop) (H : W27 p0 h R) : Fn Try.prog 27 #[.int .u8 p0] h R := fnI (vc27e p0 h R) H

/- (*farandole/lex.scanner).number
   loop rrrrrlrb: x_32:Int
   loop rrrrrlrb: x_51:Int
   loop rrrrrlrb: x_80:Int
   loop rrrrrlrb: x_99:Int -/
def W28 (p0 : Addr) (h : Heap) (R : Value → Heap → Prop) : Prop :=
  (∀ h1 : Heap, h1 = h.push (.cells ⟨[.int .i64 0, .string ⟨#[]⟩, .int .i64 0, .int .i64 0]⟩ 34) → 
  (Fn Try.prog 44 #[.pointer (some p0), .func (.func 27) #[] #[]] h1 
  (fun v2 h4 => ∃ x3 : ByteArray, v2 = .string x3 ∧ 
  (∃ x5 : Int, hc h4 ⟨p0.block, p0.off + 1, none⟩ = some (.int .i64 x5) ∧ 
  (∃ x6 : ByteArray, hc h4 p0 = some (.string x6) ∧ 
  (sB (decide (x5 < (ByteArray.size x6 : Int))) 
   ((∃ x7 : ByteArray, hc h4 p0 = some (.string x7) ∧ 
   (∃ x8 : Int, hc h4 ⟨p0.block, p0.off + 1, none⟩ = some (.int .i64 x8) ∧ 
   ((0 ≤ (x8 : Int) ∧ (x8 : Int) < (ByteArray.size x7 : Nat)) ∧ 
   (Fn Try.prog 33 #[.int .u8 (byteAt x7 (Int.toNat x8) : Int)] h4 
   (fun v9 h11 => ∃ x10 : Bool, v9 = .bool x10 ∧ 
   (Ext h4 h11 ∧ 
   (sB x10 
    ((okAt h11 ⟨h.size, 0, none⟩ 4 ∧ ∀ h12 : Heap, h12 = hputs h11 ⟨h.size, 0, none⟩ 0 [.int .i64 0, .string ⟨#[]⟩, .int .i64 0, .int .i64 0] → 
    (∃ x13 : Int, ∃ x14 : ByteArray, ∃ x15 : Int, ∃ x16 : Int, atC h12 ⟨h.size, 0, none⟩ [.int .i64 x13, .string x14, .int .i64 x15, .int .i64 x16] ∧ 
    R (.tuple ⟨[.agg ⟨[.int .i64 x13, .string x14, .int .i64 x15, .int .i64 x16]⟩, .int .i64 3]⟩) h12))) 
    ((sB (decide ((ByteArray.size x3 : Int) > 6)) 
     ((okAt h11 ⟨h.size, 0, none⟩ 4 ∧ ∀ h17 : Heap, h17 = hputs h11 ⟨h.size, 0, none⟩ 0 [.int .i64 0, .string ⟨#[]⟩, .int .i64 0, .int .i64 0] → 
     (∃ x18 : Int, ∃ x19 : ByteArray, ∃ x20 : Int, ∃ x21 : Int, atC h17 ⟨h.size, 0, none⟩ [.int .i64 x18, .string x19, .int .i64 x20, .int .i64 x21] ∧ 
     R (.tuple ⟨[.agg ⟨[.int .i64 x18, .string x19, .int .i64 x20, .int .i64 x21]⟩, .int .i64 2]⟩) h17))) 
     ((sB (decide ((ByteArray.size x3 : Int) > 1)) 
      (((0 ≤ (0 : Int) ∧ (0 : Int) < (ByteArray.size x3 : Nat)) ∧ 
      (sB ((byteAt x3 (Int.toNat 0) : Int) == 48) 
       ((okAt h11 ⟨h.size, 0, none⟩ 4 ∧ ∀ h22 : Heap, h22 = hputs h11 ⟨h.size, 0, none⟩ 0 [.int .i64 0, .string ⟨#[]⟩, .int .i64 0, .int .i64 0] → 
       (∃ x23 : Int, ∃ x24 : ByteArray, ∃ x25 : Int, ∃ x26 : Int, atC h22 ⟨h.size, 0, none⟩ [.int .i64 x23, .string x24, .int .i64 x25, .int .i64 x26] ∧ 
       R (.tuple ⟨[.agg ⟨[.int .i64 x23, .string x24, .int .i64 x25, .int .i64 x26]⟩, .int .i64 2]⟩) h22))) 
       ((∀ h27 : Heap, h27 = h11.push (.cells ⟨[.int .i64 0, .string ⟨#[]⟩, .int .i64 0, .int .i64 0]⟩ 34) → 
       (okAt h27 ⟨h11.size, 0, none⟩ 4 ∧ ∀ h28 : Heap, h28 = hputs h27 ⟨h11.size, 0, none⟩ 0 [.int .i64 2, .string ⟨#[]⟩, .int .i64 0, .int .i64 0] → 
       (∃ I29 : Int → Heap → Nat → Prop, (∃ m30, I29 0 h28 m30) ∧ 
       (∀ (_ : Env) (x_32 : Int) (h33 : Heap) (m31 : Nat), I29 x_32 h33 m31 → 
       (sB (decide (x_32 < (ByteArray.size x3 : Int))) 
         ((∃ x34 : Int, hc h33 ⟨h11.size, 2, none⟩ = some (.int .i64 x34) ∧ 
         ((0 ≤ (x_32 : Int) ∧ (x_32 : Int) < (ByteArray.size x3 : Nat)) ∧ 
         (okAt h33 ⟨h11.size, 2, none⟩ 1 ∧ ∀ h35 : Heap, h35 = hputs h33 ⟨h11.size, 2, none⟩ 0 [.int .i64 (IntKind.wrap .i64 ((IntKind.wrap .i64 (10 * x34)) + (IntKind.wrap .i64 (IntKind.wrap .u8 ((byteAt x3 (Int.toNat x_32) : Int) - 48)))))] → 
         (∃ m36, m36 < m31 ∧ I29 (IntKind.wrap .i64 (x_32 + 1)) h35 m36))))) 
         ((∃ x37 : Int, ∃ x38 : ByteArray, ∃ x39 : Int, ∃ x40 : Int, atC h33 ⟨h11.size, 0, none⟩ [.int .i64 x37, .string x38, .int .i64 x39, .int .i64 x40] ∧ 
         (okAt h33 ⟨h.size, 0, none⟩ 4 ∧ ∀ h41 : Heap, h41 = hputs h33 ⟨h.size, 0, none⟩ 0 [.int .i64 x37, .string x38, .int .i64 x39, .int .i64 x40] → 
         (∃ x42 : Int, ∃ x43 : ByteArray, ∃ x44 : Int, ∃ x45 : Int, atC h41 ⟨h.size, 0, none⟩ [.int .i64 x42, .string x43, .int .i64 x44, .int .i64 x45] ∧ 
         R (.tuple ⟨[.agg ⟨[.int .i64 x42, .string x43, .int .i64 x44, .int .i64 x45]⟩, .int .i64 0]⟩) h41))))))))))))) 
      ((∀ h46 : Heap, h46 = h11.push (.cells ⟨[.int .i64 0, .string ⟨#[]⟩, .int .i64 0, .int .i64 0]⟩ 34) → 
      (okAt h46 ⟨h11.size, 0, none⟩ 4 ∧ ∀ h47 : Heap, h47 = hputs h46 ⟨h11.size, 0, none⟩ 0 [.int .i64 2, .string ⟨#[]⟩, .int .i64 0, .int .i64 0] → 
      (∃ I48 : Int → Heap → Nat → Prop, (∃ m49, I48 0 h47 m49) ∧ 
      (∀ (_ : Env) (x_51 : Int) (h52 : Heap) (m50 : Nat), I48 x_51 h52 m50 → 
      (sB (decide (x_51 < (ByteArray.size x3 : Int))) 
        ((∃ x53 : Int, hc h52 ⟨h11.size, 2, none⟩ = some (.int .i64 x53) ∧ 
        ((0 ≤ (x_51 : Int) ∧ (x_51 : Int) < (ByteArray.size x3 : Nat)) ∧ 
        (okAt h52 ⟨h11.size, 2, none⟩ 1 ∧ ∀ h54 : Heap, h54 = hputs h52 ⟨h11.size, 2, none⟩ 0 [.int .i64 (IntKind.wrap .i64 ((IntKind.wrap .i64 (10 * x53)) + (IntKind.wrap .i64 (IntKind.wrap .u8 ((byteAt x3 (Int.toNat x_51) : Int) - 48)))))] → 
        (∃ m55, m55 < m50 ∧ I48 (IntKind.wrap .i64 (x_51 + 1)) h54 m55))))) 
        ((∃ x56 : Int, ∃ x57 : ByteArray, ∃ x58 : Int, ∃ x59 : Int, atC h52 ⟨h11.size, 0, none⟩ [.int .i64 x56, .string x57, .int .i64 x58, .int .i64 x59] ∧ 
        (okAt h52 ⟨h.size, 0, none⟩ 4 ∧ ∀ h60 : Heap, h60 = hputs h52 ⟨h.size, 0, none⟩ 0 [.int .i64 x56, .string x57, .int .i64 x58, .int .i64 x59] → 
        (∃ x61 : Int, ∃ x62 : ByteArray, ∃ x63 : Int, ∃ x64 : Int, atC h60 ⟨h.size, 0, none⟩ [.int .i64 x61, .string x62, .int .i64 x63, .int .i64 x64] ∧ 
        R (.tuple ⟨[.agg ⟨[.int .i64 x61, .string x62, .int .i64 x63, .int .i64 x64]⟩, .int .i64 0]⟩) h60)))))))))))))))))))))) 
   ((sB (decide ((ByteArray.size x3 : Int) > 6)) 
    ((okAt h4 ⟨h.size, 0, none⟩ 4 ∧ ∀ h65 : Heap, h65 = hputs h4 ⟨h.size, 0, none⟩ 0 [.int .i64 0, .string ⟨#[]⟩, .int .i64 0, .int .i64 0] → 
    (∃ x66 : Int, ∃ x67 : ByteArray, ∃ x68 : Int, ∃ x69 : Int, atC h65 ⟨h.size, 0, none⟩ [.int .i64 x66, .string x67, .int .i64 x68, .int .i64 x69] ∧ 
    R (.tuple ⟨[.agg ⟨[.int .i64 x66, .string x67, .int .i64 x68, .int .i64 x69]⟩, .int .i64 2]⟩) h65))) 
    ((sB (decide ((ByteArray.size x3 : Int) > 1)) 
     (((0 ≤ (0 : Int) ∧ (0 : Int) < (ByteArray.size x3 : Nat)) ∧ 
     (sB ((byteAt x3 (Int.toNat 0) : Int) == 48) 
      ((okAt h4 ⟨h.size, 0, none⟩ 4 ∧ ∀ h70 : Heap, h70 = hputs h4 ⟨h.size, 0, none⟩ 0 [.int .i64 0, .string ⟨#[]⟩, .int .i64 0, .int .i64 0] → 
      (∃ x71 : Int, ∃ x72 : ByteArray, ∃ x73 : Int, ∃ x74 : Int, atC h70 ⟨h.size, 0, none⟩ [.int .i64 x71, .string x72, .int .i64 x73, .int .i64 x74] ∧ 
      R (.tuple ⟨[.agg ⟨[.int .i64 x71, .string x72, .int .i64 x73, .int .i64 x74]⟩, .int .i64 2]⟩) h70))) 
      ((∀ h75 : Heap, h75 = h4.push (.cells ⟨[.int .i64 0, .string ⟨#[]⟩, .int .i64 0, .int .i64 0]⟩ 34) → 
      (okAt h75 ⟨h4.size, 0, none⟩ 4 ∧ ∀ h76 : Heap, h76 = hputs h75 ⟨h4.size, 0, none⟩ 0 [.int .i64 2, .string ⟨#[]⟩, .int .i64 0, .int .i64 0] → 
      (∃ I77 : Int → Heap → Nat → Prop, (∃ m78, I77 0 h76 m78) ∧ 
      (∀ (_ : Env) (x_80 : Int) (h81 : Heap) (m79 : Nat), I77 x_80 h81 m79 → 
      (sB (decide (x_80 < (ByteArray.size x3 : Int))) 
        ((∃ x82 : Int, hc h81 ⟨h4.size, 2, none⟩ = some (.int .i64 x82) ∧ 
        ((0 ≤ (x_80 : Int) ∧ (x_80 : Int) < (ByteArray.size x3 : Nat)) ∧ 
        (okAt h81 ⟨h4.size, 2, none⟩ 1 ∧ ∀ h83 : Heap, h83 = hputs h81 ⟨h4.size, 2, none⟩ 0 [.int .i64 (IntKind.wrap .i64 ((IntKind.wrap .i64 (10 * x82)) + (IntKind.wrap .i64 (IntKind.wrap .u8 ((byteAt x3 (Int.toNat x_80) : Int) - 48)))))] → 
        (∃ m84, m84 < m79 ∧ I77 (IntKind.wrap .i64 (x_80 + 1)) h83 m84))))) 
        ((∃ x85 : Int, ∃ x86 : ByteArray, ∃ x87 : Int, ∃ x88 : Int, atC h81 ⟨h4.size, 0, none⟩ [.int .i64 x85, .string x86, .int .i64 x87, .int .i64 x88] ∧ 
        (okAt h81 ⟨h.size, 0, none⟩ 4 ∧ ∀ h89 : Heap, h89 = hputs h81 ⟨h.size, 0, none⟩ 0 [.int .i64 x85, .string x86, .int .i64 x87, .int .i64 x88] → 
        (∃ x90 : Int, ∃ x91 : ByteArray, ∃ x92 : Int, ∃ x93 : Int, atC h89 ⟨h.size, 0, none⟩ [.int .i64 x90, .string x91, .int .i64 x92, .int .i64 x93] ∧ 
        R (.tuple ⟨[.agg ⟨[.int .i64 x90, .string x91, .int .i64 x92, .int .i64 x93]⟩, .int .i64 0]⟩) h89))))))))))))) 
     ((∀ h94 : Heap, h94 = h4.push (.cells ⟨[.int .i64 0, .string ⟨#[]⟩, .int .i64 0, .int .i64 0]⟩ 34) → 
     (okAt h94 ⟨h4.size, 0, none⟩ 4 ∧ ∀ h95 : Heap, h95 = hputs h94 ⟨h4.size, 0, none⟩ 0 [.int .i64 2, .string ⟨#[]⟩, .int .i64 0, .int .i64 0] → 
     (∃ I96 : Int → Heap → Nat → Prop, (∃ m97, I96 0 h95 m97) ∧ 
     (∀ (_ : Env) (x_99 : Int) (h100 : Heap) (m98 : Nat), I96 x_99 h100 m98 → 
     (sB (decide (x_99 < (ByteArray.size x3 : Int))) 
       ((∃ x101 : Int, hc h100 ⟨h4.size, 2, none⟩ = some (.int .i64 x101) ∧ 
       ((0 ≤ (x_99 : Int) ∧ (x_99 : Int) < (ByteArray.size x3 : Nat)) ∧ 
       (okAt h100 ⟨h4.size, 2, none⟩ 1 ∧ ∀ h102 : Heap, h102 = hputs h100 ⟨h4.size, 2, none⟩ 0 [.int .i64 (IntKind.wrap .i64 ((IntKind.wrap .i64 (10 * x101)) + (IntKind.wrap .i64 (IntKind.wrap .u8 ((byteAt x3 (Int.toNat x_99) : Int) - 48)))))] → 
       (∃ m103, m103 < m98 ∧ I96 (IntKind.wrap .i64 (x_99 + 1)) h102 m103))))) 
       ((∃ x104 : Int, ∃ x105 : ByteArray, ∃ x106 : Int, ∃ x107 : Int, atC h100 ⟨h4.size, 0, none⟩ [.int .i64 x104, .string x105, .int .i64 x106, .int .i64 x107] ∧ 
       (okAt h100 ⟨h.size, 0, none⟩ 4 ∧ ∀ h108 : Heap, h108 = hputs h100 ⟨h.size, 0, none⟩ 0 [.int .i64 x104, .string x105, .int .i64 x106, .int .i64 x107] → 
       (∃ x109 : Int, ∃ x110 : ByteArray, ∃ x111 : Int, ∃ x112 : Int, atC h108 ⟨h.size, 0, none⟩ [.int .i64 x109, .string x110, .int .i64 x111, .int .i64 x112] ∧ 
       R (.tuple ⟨[.agg ⟨[.int .i64 x109, .string x110, .int .i64 x111, .int .i64 x112]⟩, .int .i64 0]⟩) h108))))))))))))))))))))
theorem vc28e (p0 : Addr) (h : Heap) (R : Value → Heap → Prop) : W28 p0 h R = fnW Try.prog 28 (.s .z (.s .z (.s .z (.s .z (.s .z (.s (.s .z (.b (.l [(49, .one (.int .i64))] .z))) .z)))))) #[.pointer (some p0)] h R := by kernel_rfl
theorem vc28 (p0 : Addr) (h : Heap) (R : Value → Heap → Prop) (H : W28 p0 h R) : Fn Try.prog 28 #[.pointer (some p0)] h R := fnI (vc28e p0 h R) H

/- (*farandole/lex.scanner).text
   join rrlrborlbrr: x_51:Int
   loop rrlrb: b_7:Sl -/
def W29 (p0 : Addr) (h : Heap) (R : Value → Heap → Prop) : Prop :=
  (∀ h1 : Heap, h1 = h.push (.cells ⟨[.int .i64 0, .string ⟨#[]⟩, .int .i64 0, .int .i64 0]⟩ 34) → 
  (∃ x2 : Int, hc h1 ⟨p0.block, p0.off + 1, none⟩ = some (.int .i64 x2) ∧ 
  (okAt h1 ⟨p0.block, p0.off + 1, none⟩ 1 ∧ ∀ h3 : Heap, h3 = hputs h1 ⟨p0.block, p0.off + 1, none⟩ 0 [.int .i64 (IntKind.wrap .i64 (x2 + 1))] → 
  (∃ I4 : Sl → Heap → Nat → Prop, (∃ m5, I4 ⟨none, 0, 0⟩ h3 m5) ∧ 
  (∀ (_ : Env) (b_7 : Sl) (h8 : Heap) (m6 : Nat), I4 b_7 h8 m6 → 
  (∃ x9 : Int, hc h8 ⟨p0.block, p0.off + 1, none⟩ = some (.int .i64 x9) ∧ 
   (∃ x10 : ByteArray, hc h8 p0 = some (.string x10) ∧ 
   (sB (decide (x9 < (ByteArray.size x10 : Int))) 
    ((∃ x11 : ByteArray, hc h8 p0 = some (.string x11) ∧ 
    (∃ x12 : Int, hc h8 ⟨p0.block, p0.off + 1, none⟩ = some (.int .i64 x12) ∧ 
    ((0 ≤ (x12 : Int) ∧ (x12 : Int) < (ByteArray.size x11 : Nat)) ∧ 
    (sB ((byteAt x11 (Int.toNat x12) : Int) == 34) 
     ((∃ x13 : Int, hc h8 ⟨p0.block, p0.off + 1, none⟩ = some (.int .i64 x13) ∧ 
     (okAt h8 ⟨p0.block, p0.off + 1, none⟩ 1 ∧ ∀ h14 : Heap, h14 = hputs h8 ⟨p0.block, p0.off + 1, none⟩ 0 [.int .i64 (IntKind.wrap .i64 (x13 + 1))] → 
     (sB (decide ((b_7.n : Int) > 40)) 
      ((okAt h14 ⟨h.size, 0, none⟩ 4 ∧ ∀ h15 : Heap, h15 = hputs h14 ⟨h.size, 0, none⟩ 0 [.int .i64 0, .string ⟨#[]⟩, .int .i64 0, .int .i64 0] → 
      (∃ x16 : Int, ∃ x17 : ByteArray, ∃ x18 : Int, ∃ x19 : Int, atC h15 ⟨h.size, 0, none⟩ [.int .i64 x16, .string x17, .int .i64 x18, .int .i64 x19] ∧ 
      R (.tuple ⟨[.agg ⟨[.int .i64 x16, .string x17, .int .i64 x18, .int .i64 x19]⟩, .int .i64 6]⟩) h15))) 
      ((RunW Try.prog (Go.convert 56 9 (.slice b_7.a b_7.n b_7.c)) h14 
      (fun v20 h22 => ∃ x21 : ByteArray, v20 = .string x21 ∧ 
      (okAt h22 ⟨h.size, 0, none⟩ 4 ∧ ∀ h23 : Heap, h23 = hputs h22 ⟨h.size, 0, none⟩ 0 [.int .i64 3, .string x21, .int .i64 0, .int .i64 0] → 
      (∃ x24 : Int, ∃ x25 : ByteArray, ∃ x26 : Int, ∃ x27 : Int, atC h23 ⟨h.size, 0, none⟩ [.int .i64 x24, .string x25, .int .i64 x26, .int .i64 x27] ∧ 
      R (.tuple ⟨[.agg ⟨[.int .i64 x24, .string x25, .int .i64 x26, .int .i64 x27]⟩, .int .i64 0]⟩) h23))))))))) 
     ((∃ J28 : Int → Heap → Prop, 
     ((sB ((byteAt x11 (Int.toNat x12) : Int) == 92) 
       ((∃ x29 : Int, hc h8 ⟨p0.block, p0.off + 1, none⟩ = some (.int .i64 x29) ∧ 
       (okAt h8 ⟨p0.block, p0.off + 1, none⟩ 1 ∧ ∀ h30 : Heap, h30 = hputs h8 ⟨p0.block, p0.off + 1, none⟩ 0 [.int .i64 (IntKind.wrap .i64 (x29 + 1))] → 
       (∃ x31 : Int, hc h30 ⟨p0.block, p0.off + 1, none⟩ = some (.int .i64 x31) ∧ 
       (∃ x32 : ByteArray, hc h30 p0 = some (.string x32) ∧ 
       (sB (x31 == (ByteArray.size x32 : Int)) 
        ((okAt h30 ⟨h.size, 0, none⟩ 4 ∧ ∀ h33 : Heap, h33 = hputs h30 ⟨h.size, 0, none⟩ 0 [.int .i64 0, .string ⟨#[]⟩, .int .i64 0, .int .i64 0] → 
        (∃ x34 : Int, ∃ x35 : ByteArray, ∃ x36 : Int, ∃ x37 : Int, atC h33 ⟨h.size, 0, none⟩ [.int .i64 x34, .string x35, .int .i64 x36, .int .i64 x37] ∧ 
        R (.tuple ⟨[.agg ⟨[.int .i64 x34, .string x35, .int .i64 x36, .int .i64 x37]⟩, .int .i64 3]⟩) h33))) 
        ((∃ x38 : ByteArray, hc h30 p0 = some (.string x38) ∧ 
        (∃ x39 : Int, hc h30 ⟨p0.block, p0.off + 1, none⟩ = some (.int .i64 x39) ∧ 
        ((0 ≤ (x39 : Int) ∧ (x39 : Int) < (ByteArray.size x38 : Nat)) ∧ 
        (sB ((byteAt x38 (Int.toNat x39) : Int) != 34) 
         ((∃ x40 : ByteArray, hc h30 p0 = some (.string x40) ∧ 
         (∃ x41 : Int, hc h30 ⟨p0.block, p0.off + 1, none⟩ = some (.int .i64 x41) ∧ 
         ((0 ≤ (x41 : Int) ∧ (x41 : Int) < (ByteArray.size x40 : Nat)) ∧ 
         (sB ((byteAt x40 (Int.toNat x41) : Int) != 92) 
          ((okAt h30 ⟨h.size, 0, none⟩ 4 ∧ ∀ h42 : Heap, h42 = hputs h30 ⟨h.size, 0, none⟩ 0 [.int .i64 0, .string ⟨#[]⟩, .int .i64 0, .int .i64 0] → 
          (∃ x43 : Int, ∃ x44 : ByteArray, ∃ x45 : Int, ∃ x46 : Int, atC h42 ⟨h.size, 0, none⟩ [.int .i64 x43, .string x44, .int .i64 x45, .int .i64 x46] ∧ 
          R (.tuple ⟨[.agg ⟨[.int .i64 x43, .string x44, .int .i64 x45, .int .i64 x46]⟩, .int .i64 3]⟩) h42))) 
          ((∃ x47 : ByteArray, hc h30 p0 = some (.string x47) ∧ 
          (∃ x48 : Int, hc h30 ⟨p0.block, p0.off + 1, none⟩ = some (.int .i64 x48) ∧ 
          ((0 ≤ (x48 : Int) ∧ (x48 : Int) < (ByteArray.size x47 : Nat)) ∧ 
          (J28 (byteAt x47 (Int.toNat x48) : Int) h30)))))))))) 
         ((∃ x49 : ByteArray, hc h30 p0 = some (.string x49) ∧ 
         (∃ x50 : Int, hc h30 ⟨p0.block, p0.off + 1, none⟩ = some (.int .i64 x50) ∧ 
         ((0 ≤ (x50 : Int) ∧ (x50 : Int) < (ByteArray.size x49 : Nat)) ∧ 
         (J28 (byteAt x49 (Int.toNat x50) : Int) h30)))))))))))))))) 
       ((J28 (byteAt x11 (Int.toNat x12) : Int) h8)))) ∧ 
     (∀ (_ : Env) (x_51 : Int) (h52 : Heap), J28 x_51 h52 → 
     (sB (decide (x_51 < 32)) 
       ((okAt h52 ⟨h.size, 0, none⟩ 4 ∧ ∀ h53 : Heap, h53 = hputs h52 ⟨h.size, 0, none⟩ 0 [.int .i64 0, .string ⟨#[]⟩, .int .i64 0, .int .i64 0] → 
       (∃ x54 : Int, ∃ x55 : ByteArray, ∃ x56 : Int, ∃ x57 : Int, atC h53 ⟨h.size, 0, none⟩ [.int .i64 x54, .string x55, .int .i64 x56, .int .i64 x57] ∧ 
       R (.tuple ⟨[.agg ⟨[.int .i64 x54, .string x55, .int .i64 x56, .int .i64 x57]⟩, .int .i64 3]⟩) h53))) 
       ((sB (decide (x_51 > 126)) 
        ((okAt h52 ⟨h.size, 0, none⟩ 4 ∧ ∀ h58 : Heap, h58 = hputs h52 ⟨h.size, 0, none⟩ 0 [.int .i64 0, .string ⟨#[]⟩, .int .i64 0, .int .i64 0] → 
        (∃ x59 : Int, ∃ x60 : ByteArray, ∃ x61 : Int, ∃ x62 : Int, atC h58 ⟨h.size, 0, none⟩ [.int .i64 x59, .string x60, .int .i64 x61, .int .i64 x62] ∧ 
        R (.tuple ⟨[.agg ⟨[.int .i64 x59, .string x60, .int .i64 x61, .int .i64 x62]⟩, .int .i64 3]⟩) h58))) 
        ((∀ h63 : Heap, h63 = h52.push (.cells ⟨[.int .u8 x_51]⟩ 5) → 
        (App Try.prog 56 56 (.slice b_7.a b_7.n b_7.c) (.slice (some ⟨h52.size, 0, none⟩) 1 1) h63 fun s64 h65 => 
        (∃ x66 : Int, hc h65 ⟨p0.block, p0.off + 1, none⟩ = some (.int .i64 x66) ∧ 
        (okAt h65 ⟨p0.block, p0.off + 1, none⟩ 1 ∧ ∀ h67 : Heap, h67 = hputs h65 ⟨p0.block, p0.off + 1, none⟩ 0 [.int .i64 (IntKind.wrap .i64 (x66 + 1))] → 
        (∃ m68, m68 < m6 ∧ I4 s64 h67 m68))))))))))))))))) 
    ((okAt h8 ⟨h.size, 0, none⟩ 4 ∧ ∀ h69 : Heap, h69 = hputs h8 ⟨h.size, 0, none⟩ 0 [.int .i64 0, .string ⟨#[]⟩, .int .i64 0, .int .i64 0] → 
    (∃ x70 : Int, ∃ x71 : ByteArray, ∃ x72 : Int, ∃ x73 : Int, atC h69 ⟨h.size, 0, none⟩ [.int .i64 x70, .string x71, .int .i64 x72, .int .i64 x73] ∧ 
    R (.tuple ⟨[.agg ⟨[.int .i64 x70, .string x71, .int .i64 x72, .int .i64 x73]⟩, .int .i64 3]⟩) h69)))))))))))
theorem vc29e (p0 : Addr) (h : Heap) (R : Value → Heap → Prop) : W29 p0 h R = fnW Try.prog 29 (.s .z (.s .z (.s (.s .z (.b (.l [(4, .one (.slice))] (.s .z (.s (.b (.s .z (.s .z (.j [(5, .one (.int .u8))] .z .z)))) .z))))) .z))) #[.pointer (some p0)] h R := by kernel_rfl
theorem vc29 (p0 : Addr) (h : Heap) (R : Value → Heap → Prop) (H : W29 p0 h R) : Fn Try.prog 29 #[.pointer (some p0)] h R := fnI (vc29e p0 h R) H

/- farandole/farandoleref09.skip
   loop rlborbbrertb: at_13:Int
   loop rlb: at_4:Int -/
def W30 (p0 : ByteArray) (p1 : Int) (h : Heap) (R : Value → Heap → Prop) : Prop :=
  (∃ I1 : Int → Heap → Nat → Prop, (∃ m2, I1 p1 h m2) ∧ 
  (∀ (_ : Env) (at_4 : Int) (h5 : Heap) (m3 : Nat), I1 at_4 h5 m3 → 
  (sB (decide (at_4 < (ByteArray.size p0 : Int))) 
    (((0 ≤ (at_4 : Int) ∧ (at_4 : Int) < (ByteArray.size p0 : Nat)) ∧ 
    (sB ((byteAt p0 (Int.toNat at_4) : Int) == 32) 
     ((∃ m6, m6 < m3 ∧ I1 (IntKind.wrap .i64 (at_4 + 1)) h5 m6)) 
     (((0 ≤ (at_4 : Int) ∧ (at_4 : Int) < (ByteArray.size p0 : Nat)) ∧ 
     (sB ((byteAt p0 (Int.toNat at_4) : Int) == 9) 
      ((∃ m7, m7 < m3 ∧ I1 (IntKind.wrap .i64 (at_4 + 1)) h5 m7)) 
      (((0 ≤ (at_4 : Int) ∧ (at_4 : Int) < (ByteArray.size p0 : Nat)) ∧ 
      (sB ((byteAt p0 (Int.toNat at_4) : Int) == 10) 
       ((∃ m8, m8 < m3 ∧ I1 (IntKind.wrap .i64 (at_4 + 1)) h5 m8)) 
       (((0 ≤ (at_4 : Int) ∧ (at_4 : Int) < (ByteArray.size p0 : Nat)) ∧ 
       (sB ((byteAt p0 (Int.toNat at_4) : Int) == 13) 
        ((∃ m9, m9 < m3 ∧ I1 (IntKind.wrap .i64 (at_4 + 1)) h5 m9)) 
        (((0 ≤ (at_4 : Int) ∧ (at_4 : Int) < (ByteArray.size p0 : Nat)) ∧ 
        (sB ((byteAt p0 (Int.toNat at_4) : Int) == 47) 
         ((sB (decide ((IntKind.wrap .i64 (at_4 + 1)) < (ByteArray.size p0 : Int))) 
          (((0 ≤ ((IntKind.wrap .i64 (at_4 + 1)) : Int) ∧ ((IntKind.wrap .i64 (at_4 + 1)) : Int) < (ByteArray.size p0 : Nat)) ∧ 
          (sB ((byteAt p0 (Int.toNat (IntKind.wrap .i64 (at_4 + 1))) : Int) == 47) 
           ((∃ I10 : Int → Heap → Nat → Prop, (∃ m11, I10 at_4 h5 m11) ∧ 
           (∀ (_ : Env) (at_13 : Int) (h14 : Heap) (m12 : Nat), I10 at_13 h14 m12 → 
           (sB (decide (at_13 < (ByteArray.size p0 : Int))) 
             (((0 ≤ (at_13 : Int) ∧ (at_13 : Int) < (ByteArray.size p0 : Nat)) ∧ 
             (sB ((byteAt p0 (Int.toNat at_13) : Int) != 10) 
              ((∃ m15, m15 < m12 ∧ I10 (IntKind.wrap .i64 (at_13 + 1)) h14 m15)) 
              ((∃ m16, m16 < m3 ∧ I1 at_13 h14 m16))))) 
             ((∃ m17, m17 < m3 ∧ I1 at_13 h14 m17)))))) 
           (R (.int .i64 at_4) h5)))) 
          (R (.int .i64 at_4) h5))) 
         (R (.int .i64 at_4) h5)))))))))))))))) 
    (R (.int .i64 at_4) h5))))
theorem vc30e (p0 : ByteArray) (p1 : Int) (h : Heap) (R : Value → Heap → Prop) : W30 p0 p1 h R = fnW Try.prog 30 (.s .z (.s (.b (.l [(1, .one (.int .i64))] (.s .z (.b (.b (.s .z (.c .z (.s .z (.c (.b (.l [(1, .one (.int .i64))] .z)) .z))))))))) .z)) #[.string p0, .int .i64 p1] h R := by kernel_rfl
theorem vc30 (p0 : ByteArray) (p1 : Int) (h : Heap) (R : Value → Heap → Prop) (H : W30 p0 p1 h R) : Fn Try.prog 30 #[.string p0, .int .i64 p1] h R := fnI (vc30e p0 p1 h R) H

/- farandole/farandoleref09.token
   loop rlbrtrlb: n_8:Int -/
def W31 (p0 : ByteArray) (h : Heap) (R : Value → Heap → Prop) : Prop :=
  (∀ h1 : Heap, h1 = h.push (.cells ⟨[.int .i64 0, .string ⟨#[]⟩, .int .i64 0, .int .i64 0]⟩ 37) → 
  ((0 ≤ (0 : Int) ∧ (0 : Int) < (ByteArray.size p0 : Nat)) ∧ 
  (Fn Try.prog 35 #[.int .u8 (byteAt p0 (Int.toNat 0) : Int)] h1 
  (fun v2 h4 => ∃ x3 : Bool, v2 = .bool x3 ∧ 
  (sB x3 
   ((∃ I5 : Int → Heap → Nat → Prop, (∃ m6, I5 1 h4 m6) ∧ 
   (∀ (_ : Env) (n_8 : Int) (h9 : Heap) (m7 : Nat), I5 n_8 h9 m7 → 
   (sB (decide (n_8 < (ByteArray.size p0 : Int))) 
     (((0 ≤ (n_8 : Int) ∧ (n_8 : Int) < (ByteArray.size p0 : Nat)) ∧ 
     (Fn Try.prog 36 #[.int .u8 (byteAt p0 (Int.toNat n_8) : Int)] h9 
     (fun v10 h12 => ∃ x11 : Bool, v10 = .bool x11 ∧ 
     (sB x11 
      ((∃ m13, m13 < m7 ∧ I5 (IntKind.wrap .i64 (n_8 + 1)) h12 m13)) 
      ((sB (decide (n_8 > 16)) 
       ((okAt h12 ⟨h.size, 0, none⟩ 4 ∧ ∀ h14 : Heap, h14 = hputs h12 ⟨h.size, 0, none⟩ 0 [.int .i64 0, .string ⟨#[]⟩, .int .i64 0, .int .i64 0] → 
       (∃ x15 : Int, ∃ x16 : ByteArray, ∃ x17 : Int, ∃ x18 : Int, atC h14 ⟨h.size, 0, none⟩ [.int .i64 x15, .string x16, .int .i64 x17, .int .i64 x18] ∧ 
       R (.tuple ⟨[.agg ⟨[.int .i64 x15, .string x16, .int .i64 x17, .int .i64 x18]⟩, .int .i64 0, .int .i64 6]⟩) h14))) 
       ((((0 : Int) ≤ (0 : Int) ∧ (0 : Int) ≤ (n_8 : Int) ∧ (n_8 : Int) ≤ (ByteArray.size p0 : Nat)) ∧ 
       (okAt h12 ⟨h.size, 0, none⟩ 4 ∧ ∀ h19 : Heap, h19 = hputs h12 ⟨h.size, 0, none⟩ 0 [.int .i64 1, .string (ByteArray.extract p0 (Int.toNat 0) (Int.toNat n_8)), .int .i64 0, .int .i64 0] → 
       (∃ x20 : Int, ∃ x21 : ByteArray, ∃ x22 : Int, ∃ x23 : Int, atC h19 ⟨h.size, 0, none⟩ [.int .i64 x20, .string x21, .int .i64 x22, .int .i64 x23] ∧ 
       R (.tuple ⟨[.agg ⟨[.int .i64 x20, .string x21, .int .i64 x22, .int .i64 x23]⟩, .int .i64 n_8, .int .i64 0]⟩) h19))))))))))) 
     ((sB (decide (n_8 > 16)) 
      ((okAt h9 ⟨h.size, 0, none⟩ 4 ∧ ∀ h24 : Heap, h24 = hputs h9 ⟨h.size, 0, none⟩ 0 [.int .i64 0, .string ⟨#[]⟩, .int .i64 0, .int .i64 0] → 
      (∃ x25 : Int, ∃ x26 : ByteArray, ∃ x27 : Int, ∃ x28 : Int, atC h24 ⟨h.size, 0, none⟩ [.int .i64 x25, .string x26, .int .i64 x27, .int .i64 x28] ∧ 
      R (.tuple ⟨[.agg ⟨[.int .i64 x25, .string x26, .int .i64 x27, .int .i64 x28]⟩, .int .i64 0, .int .i64 6]⟩) h24))) 
      ((((0 : Int) ≤ (0 : Int) ∧ (0 : Int) ≤ (n_8 : Int) ∧ (n_8 : Int) ≤ (ByteArray.size p0 : Nat)) ∧ 
      (okAt h9 ⟨h.size, 0, none⟩ 4 ∧ ∀ h29 : Heap, h29 = hputs h9 ⟨h.size, 0, none⟩ 0 [.int .i64 1, .string (ByteArray.extract p0 (Int.toNat 0) (Int.toNat n_8)), .int .i64 0, .int .i64 0] → 
      (∃ x30 : Int, ∃ x31 : ByteArray, ∃ x32 : Int, ∃ x33 : Int, atC h29 ⟨h.size, 0, none⟩ [.int .i64 x30, .string x31, .int .i64 x32, .int .i64 x33] ∧ 
      R (.tuple ⟨[.agg ⟨[.int .i64 x30, .string x31, .int .i64 x32, .int .i64 x33]⟩, .int .i64 n_8, .int .i64 0]⟩) h29)))))))))) 
   (((0 ≤ (0 : Int) ∧ (0 : Int) < (ByteArray.size p0 : Nat)) ∧ 
   (Fn Try.prog 45 #[.int .u8 (byteAt p0 (Int.toNat 0) : Int)] h4 
   (fun v34 h36 => ∃ x35 : Bool, v34 = .bool x35 ∧ 
   (sB x35 
    ((Fn Try.prog 46 #[.string p0] h36 
    (fun v37 h44 => ∃ x38 : Int, ∃ x39 : ByteArray, ∃ x40 : Int, ∃ x41 : Int, ∃ x42 : Int, ∃ x43 : Int, v37 = .tuple ⟨[.agg ⟨[.int .i64 x38, .string x39, .int .i64 x40, .int .i64 x41]⟩, .int .i64 x42, .int .i64 x43]⟩ ∧ 
    (okAt h44 ⟨h.size, 0, none⟩ 4 ∧ ∀ h45 : Heap, h45 = hputs h44 ⟨h.size, 0, none⟩ 0 [.int .i64 x38, .string x39, .int .i64 x40, .int .i64 x41] → 
    (∃ x46 : Int, ∃ x47 : ByteArray, ∃ x48 : Int, ∃ x49 : Int, atC h45 ⟨h.size, 0, none⟩ [.int .i64 x46, .string x47, .int .i64 x48, .int .i64 x49] ∧ 
    R (.tuple ⟨[.agg ⟨[.int .i64 x46, .string x47, .int .i64 x48, .int .i64 x49]⟩, .int .i64 x42, .int .i64 x43]⟩) h45))))) 
    (((0 ≤ (0 : Int) ∧ (0 : Int) < (ByteArray.size p0 : Nat)) ∧ 
    (sB ((byteAt p0 (Int.toNat 0) : Int) == 34) 
     ((Fn Try.prog 47 #[.string p0] h36 
     (fun v50 h53 => ∃ x51 : ByteArray, ∃ x52 : Int, v50 = .tuple ⟨[.string x51, .int .i64 x52]⟩ ∧ 
     (sB (x52 == 0) 
      ((okAt h53 ⟨h.size, 0, none⟩ 4 ∧ ∀ h54 : Heap, h54 = hputs h53 ⟨h.size, 0, none⟩ 0 [.int .i64 0, .string ⟨#[]⟩, .int .i64 0, .int .i64 0] → 
      (∃ x55 : Int, ∃ x56 : ByteArray, ∃ x57 : Int, ∃ x58 : Int, atC h54 ⟨h.size, 0, none⟩ [.int .i64 x55, .string x56, .int .i64 x57, .int .i64 x58] ∧ 
      R (.tuple ⟨[.agg ⟨[.int .i64 x55, .string x56, .int .i64 x57, .int .i64 x58]⟩, .int .i64 0, .int .i64 3]⟩) h54))) 
      ((sB (decide ((ByteArray.size x51 : Int) > 40)) 
       ((okAt h53 ⟨h.size, 0, none⟩ 4 ∧ ∀ h59 : Heap, h59 = hputs h53 ⟨h.size, 0, none⟩ 0 [.int .i64 0, .string ⟨#[]⟩, .int .i64 0, .int .i64 0] → 
       (∃ x60 : Int, ∃ x61 : ByteArray, ∃ x62 : Int, ∃ x63 : Int, atC h59 ⟨h.size, 0, none⟩ [.int .i64 x60, .string x61, .int .i64 x62, .int .i64 x63] ∧ 
       R (.tuple ⟨[.agg ⟨[.int .i64 x60, .string x61, .int .i64 x62, .int .i64 x63]⟩, .int .i64 0, .int .i64 6]⟩) h59))) 
       ((okAt h53 ⟨h.size, 0, none⟩ 4 ∧ ∀ h64 : Heap, h64 = hputs h53 ⟨h.size, 0, none⟩ 0 [.int .i64 3, .string x51, .int .i64 0, .int .i64 0] → 
       (∃ x65 : Int, ∃ x66 : ByteArray, ∃ x67 : Int, ∃ x68 : Int, atC h64 ⟨h.size, 0, none⟩ [.int .i64 x65, .string x66, .int .i64 x67, .int .i64 x68] ∧ 
       R (.tuple ⟨[.agg ⟨[.int .i64 x65, .string x66, .int .i64 x67, .int .i64 x68]⟩, .int .i64 x52, .int .i64 0]⟩) h64))))))))) 
     ((sB (decide ((ByteArray.size p0 : Int) > 1)) 
      ((∀ h69 : Heap, h69 = h36.push (.cells ⟨[.string ⟨#[45, 62]⟩, .string ⟨#[46, 46]⟩, .string ⟨#[60, 61]⟩, .string ⟨#[62, 61]⟩, .string ⟨#[61, 61]⟩, .string ⟨#[33, 61]⟩, .string ⟨#[38, 38]⟩, .string ⟨#[124, 124]⟩]⟩ 9) → 
      (((0 : Int) ≤ (0 : Int) ∧ (0 : Int) ≤ (2 : Int) ∧ (2 : Int) ≤ (ByteArray.size p0 : Nat)) ∧ 
      (Fn Try.prog 37 #[.slice (some ⟨h36.size, 0, none⟩) 8 8, .string (ByteArray.extract p0 (Int.toNat 0) (Int.toNat 2))] h69 
      (fun v70 h72 => ∃ x71 : Bool, v70 = .bool x71 ∧ 
      (sB x71 
       ((((0 : Int) ≤ (0 : Int) ∧ (0 : Int) ≤ (2 : Int) ∧ (2 : Int) ≤ (ByteArray.size p0 : Nat)) ∧ 
       (okAt h72 ⟨h.size, 0, none⟩ 4 ∧ ∀ h73 : Heap, h73 = hputs h72 ⟨h.size, 0, none⟩ 0 [.int .i64 4, .string (ByteArray.extract p0 (Int.toNat 0) (Int.toNat 2)), .int .i64 0, .int .i64 0] → 
       (∃ x74 : Int, ∃ x75 : ByteArray, ∃ x76 : Int, ∃ x77 : Int, atC h73 ⟨h.size, 0, none⟩ [.int .i64 x74, .string x75, .int .i64 x76, .int .i64 x77] ∧ 
       R (.tuple ⟨[.agg ⟨[.int .i64 x74, .string x75, .int .i64 x76, .int .i64 x77]⟩, .int .i64 2, .int .i64 0]⟩) h73)))) 
       ((∀ h78 : Heap, h78 = h72.push (.cells ⟨[.string ⟨#[40]⟩, .string ⟨#[41]⟩, .string ⟨#[123]⟩, .string ⟨#[125]⟩, .string ⟨#[44]⟩, .string ⟨#[59]⟩, .string ⟨#[58]⟩, .string ⟨#[46]⟩, .string ⟨#[43]⟩, .string ⟨#[45]⟩, .string ⟨#[42]⟩, .string ⟨#[47]⟩, .string ⟨#[37]⟩, .string ⟨#[60]⟩, .string ⟨#[62]⟩, .string ⟨#[61]⟩, .string ⟨#[33]⟩]⟩ 9) → 
       (((0 : Int) ≤ (0 : Int) ∧ (0 : Int) ≤ (1 : Int) ∧ (1 : Int) ≤ (ByteArray.size p0 : Nat)) ∧ 
       (Fn Try.prog 37 #[.slice (some ⟨h72.size, 0, none⟩) 17 17, .string (ByteArray.extract p0 (Int.toNat 0) (Int.toNat 1))] h78 
       (fun v79 h81 => ∃ x80 : Bool, v79 = .bool x80 ∧ 
       (sB x80 
        ((((0 : Int) ≤ (0 : Int) ∧ (0 : Int) ≤ (1 : Int) ∧ (1 : Int) ≤ (ByteArray.size p0 : Nat)) ∧ 
        (okAt h81 ⟨h.size, 0, none⟩ 4 ∧ ∀ h82 : Heap, h82 = hputs h81 ⟨h.size, 0, none⟩ 0 [.int .i64 4, .string (ByteArray.extract p0 (Int.toNat 0) (Int.toNat 1)), .int .i64 0, .int .i64 0] → 
        (∃ x83 : Int, ∃ x84 : ByteArray, ∃ x85 : Int, ∃ x86 : Int, atC h82 ⟨h.size, 0, none⟩ [.int .i64 x83, .string x84, .int .i64 x85, .int .i64 x86] ∧ 
        R (.tuple ⟨[.agg ⟨[.int .i64 x83, .string x84, .int .i64 x85, .int .i64 x86]⟩, .int .i64 1, .int .i64 0]⟩) h82)))) 
        ((okAt h81 ⟨h.size, 0, none⟩ 4 ∧ ∀ h87 : Heap, h87 = hputs h81 ⟨h.size, 0, none⟩ 0 [.int .i64 0, .string ⟨#[]⟩, .int .i64 0, .int .i64 0] → 
        (∃ x88 : Int, ∃ x89 : ByteArray, ∃ x90 : Int, ∃ x91 : Int, atC h87 ⟨h.size, 0, none⟩ [.int .i64 x88, .string x89, .int .i64 x90, .int .i64 x91] ∧ 
        R (.tuple ⟨[.agg ⟨[.int .i64 x88, .string x89, .int .i64 x90, .int .i64 x91]⟩, .int .i64 0, .int .i64 3]⟩) h87))))))))))))))) 
      ((∀ h92 : Heap, h92 = h36.push (.cells ⟨[.string ⟨#[40]⟩, .string ⟨#[41]⟩, .string ⟨#[123]⟩, .string ⟨#[125]⟩, .string ⟨#[44]⟩, .string ⟨#[59]⟩, .string ⟨#[58]⟩, .string ⟨#[46]⟩, .string ⟨#[43]⟩, .string ⟨#[45]⟩, .string ⟨#[42]⟩, .string ⟨#[47]⟩, .string ⟨#[37]⟩, .string ⟨#[60]⟩, .string ⟨#[62]⟩, .string ⟨#[61]⟩, .string ⟨#[33]⟩]⟩ 9) → 
      (((0 : Int) ≤ (0 : Int) ∧ (0 : Int) ≤ (1 : Int) ∧ (1 : Int) ≤ (ByteArray.size p0 : Nat)) ∧ 
      (Fn Try.prog 37 #[.slice (some ⟨h36.size, 0, none⟩) 17 17, .string (ByteArray.extract p0 (Int.toNat 0) (Int.toNat 1))] h92 
      (fun v93 h95 => ∃ x94 : Bool, v93 = .bool x94 ∧ 
      (sB x94 
       ((((0 : Int) ≤ (0 : Int) ∧ (0 : Int) ≤ (1 : Int) ∧ (1 : Int) ≤ (ByteArray.size p0 : Nat)) ∧ 
       (okAt h95 ⟨h.size, 0, none⟩ 4 ∧ ∀ h96 : Heap, h96 = hputs h95 ⟨h.size, 0, none⟩ 0 [.int .i64 4, .string (ByteArray.extract p0 (Int.toNat 0) (Int.toNat 1)), .int .i64 0, .int .i64 0] → 
       (∃ x97 : Int, ∃ x98 : ByteArray, ∃ x99 : Int, ∃ x100 : Int, atC h96 ⟨h.size, 0, none⟩ [.int .i64 x97, .string x98, .int .i64 x99, .int .i64 x100] ∧ 
       R (.tuple ⟨[.agg ⟨[.int .i64 x97, .string x98, .int .i64 x99, .int .i64 x100]⟩, .int .i64 1, .int .i64 0]⟩) h96)))) 
       ((okAt h95 ⟨h.size, 0, none⟩ 4 ∧ ∀ h101 : Heap, h101 = hputs h95 ⟨h.size, 0, none⟩ 0 [.int .i64 0, .string ⟨#[]⟩, .int .i64 0, .int .i64 0] → 
       (∃ x102 : Int, ∃ x103 : ByteArray, ∃ x104 : Int, ∃ x105 : Int, atC h101 ⟨h.size, 0, none⟩ [.int .i64 x102, .string x103, .int .i64 x104, .int .i64 x105] ∧ 
       R (.tuple ⟨[.agg ⟨[.int .i64 x102, .string x103, .int .i64 x104, .int .i64 x105]⟩, .int .i64 0, .int .i64 3]⟩) h101))))))))))))))))))))))))
theorem vc31e (p0 : ByteArray) (h : Heap) (R : Value → Heap → Prop) : W31 p0 h R = fnW Try.prog 31 (.s .z (.s (.b (.s .z (.c (.s .z (.s (.b (.l [(5, .one (.int .i64))] .z)) .z)) .z))) .z)) #[.string p0] h R := by kernel_rfl
theorem vc31 (p0 : ByteArray) (h : Heap) (R : Value → Heap → Prop) (H : W31 p0 h R) : Fn Try.prog 31 #[.string p0] h R := fnI (vc31e p0 h R) H

/- farandole/lex.inner -/
def W33 (p0 : Int) (h : Heap) (R : Value → Heap → Prop) : Prop :=
  (Fn Try.prog 25 #[.int .u8 p0] h 
  (fun v1 h3 => ∃ x2 : Bool, v1 = .bool x2 ∧ 
  (sB x2 
   (R (.bool true) h3) 
   ((Fn Try.prog 27 #[.int .u8 p0] h3 
   (fun v4 h6 => ∃ x5 : Bool, v4 = .bool x5 ∧ 
   (sB x5 
    (R (.bool true) h6) 
    (R (.bool (p0 == 95)) h6))))))))
theorem vc33e (p0 : Int) (h : Heap) (R : Value → Heap → Prop) : W33 p0 h R = fnW Try.prog 33 .z #[.int .u8 p0] h R := by kernel_rfl
theorem vc33 (p0 : Int) (h : Heap) (R : Value → Heap → Prop) (H : W33 p0 h R) : Fn Try.prog 33 #[.int .u8 p0] h R := fnI (vc33e p0 h R) H

/- slices.Contains[[]string,string] -/
def W34 (p0 : Sl) (p1 : ByteArray) (h : Heap) (R : Value → Heap → Prop) : Prop :=
  (Fn Try.prog 48 #[.slice p0.a p0.n p0.c, .string p1] h 
  (fun v1 h3 => ∃ x2 : Int, v1 = .int .i64 x2 ∧ 
  R (.bool (decide (x2 ≥ 0))) h3))
theorem vc34e (p0 : Sl) (p1 : ByteArray) (h : Heap) (R : Value → Heap → Prop) : W34 p0 p1 h R = fnW Try.prog 34 .z #[.slice p0.a p0.n p0.c, .string p1] h R := by kernel_rfl
theorem vc34 (p0 : Sl) (p1 : ByteArray) (h : Heap) (R : Value → Heap → Prop) (H : W34 p0 p1 h R) : Fn Try.prog 34 #[.slice p0.a p0.n p0.c, .string p1] h R := fnI (vc34e p0 p1 h R) H

/- farandole/farandoleref09.letter -/
def W35 (p0 : Int) (h : Heap) (R : Value → Heap → Prop) : Prop :=
  (sB (decide (p0 ≥ 97)) 
   ((sB (decide (p0 ≤ 122)) 
    (R (.bool true) h) 
    ((sB (decide (p0 ≥ 65)) 
     (R (.bool (decide (p0 ≤ 90))) h) 
     (R (.bool false) h))))) 
   ((sB (decide (p0 ≥ 65)) 
    (R (.bool (decide (p0 ≤ 90))) h) 
    (R (.bool false) h))))
theorem vc35e (p0 : Int) (h : Heap) (R : Value → Heap → Prop) : W35 p0 h R = fnW Try.prog 35 .z #[.int .u8 p0] h R := by kernel_rfl
theorem vc35 (p0 : Int) (h : Heap) (R : Value → Heap → Prop) (H : W35 p0 h R) : Fn Try.prog 35 #[.int .u8 p0] h R := fnI (vc35e p0 h R) H

/- farandole/farandoleref09.inner -/
def W36 (p0 : Int) (h : Heap) (R : Value → Heap → Prop) : Prop :=
  (Fn Try.prog 35 #[.int .u8 p0] h 
  (fun v1 h3 => ∃ x2 : Bool, v1 = .bool x2 ∧ 
  (sB x2 
   (R (.bool true) h3) 
   ((Fn Try.prog 45 #[.int .u8 p0] h3 
   (fun v4 h6 => ∃ x5 : Bool, v4 = .bool x5 ∧ 
   (sB x5 
    (R (.bool true) h6) 
    (R (.bool (p0 == 95)) h6))))))))
theorem vc36e (p0 : Int) (h : Heap) (R : Value → Heap → Prop) : W36 p0 h R = fnW Try.prog 36 .z #[.int .u8 p0] h R := by kernel_rfl
theorem vc36 (p0 : Int) (h : Heap) (R : Value → Heap → Prop) (H : W36 p0 h R) : Fn Try.prog 36 #[.int .u8 p0] h R := fnI (vc36e p0 h R) H

/- farandole/farandoleref09.in
   loop rlrb: i_4:Int -/
def W37 (p0 : Sl) (p1 : ByteArray) (h : Heap) (R : Value → Heap → Prop) : Prop :=
  (∃ I1 : Int → Heap → Nat → Prop, (∃ m2, I1 0 h m2) ∧ 
  (∀ (_ : Env) (i_4 : Int) (h5 : Heap) (m3 : Nat), I1 i_4 h5 m3 → 
  (sB (decide (i_4 < (p0.n : Int))) 
    ((NB p0.a fun b6 o7 => ((0 ≤ (i_4 : Int) ∧ (i_4 : Int) < (p0.n : Nat)) ∧ 
    (∃ x8 : ByteArray, hc h5 ⟨b6, o7 + Int.toNat i_4 * 1, none⟩ = some (.string x8) ∧ 
    (sB ((ByteArray.toList x8) == (ByteArray.toList p1)) 
     (R (.bool true) h5) 
     ((∃ m9, m9 < m3 ∧ I1 (IntKind.wrap .i64 (i_4 + 1)) h5 m9))))))) 
    (R (.bool false) h5))))
theorem vc37e (p0 : Sl) (p1 : ByteArray) (h : Heap) (R : Value → Heap → Prop) : W37 p0 p1 h R = fnW Try.prog 37 (.s .z (.s (.s .z (.b (.l [(5, .one (.int .i64))] .z))) .z)) #[.slice p0.a p0.n p0.c, .string p1] h R := by kernel_rfl
theorem vc37 (p0 : Sl) (p1 : ByteArray) (h : Heap) (R : Value → Heap → Prop) (H : W37 p0 p1 h R) : Fn Try.prog 37 #[.slice p0.a p0.n p0.c, .string p1] h R := fnI (vc37e p0 p1 h R) H

/- strings.ContainsRune -/
def W40 (p0 : ByteArray) (p1 : Int) (h : Heap) (R : Value → Heap → Prop) : Prop :=
  (Fn Try.prog 50 #[.string p0, .int .i32 p1] h 
  (fun v1 h3 => ∃ x2 : Int, v1 = .int .i64 x2 ∧ 
  R (.bool (decide (x2 ≥ 0))) h3))
theorem vc40e (p0 : ByteArray) (p1 : Int) (h : Heap) (R : Value → Heap → Prop) : W40 p0 p1 h R = fnW Try.prog 40 .z #[.string p0, .int .i32 p1] h R := by kernel_rfl
theorem vc40 (p0 : ByteArray) (p1 : Int) (h : Heap) (R : Value → Heap → Prop) (H : W40 p0 p1 h R) : Fn Try.prog 40 #[.string p0, .int .i32 p1] h R := fnI (vc40e p0 p1 h R) H

/- farandole/farandoleref09.digit -/
def W45 (p0 : Int) (h : Heap) (R : Value → Heap → Prop) : Prop :=
  (sB (decide (p0 ≥ 48)) 
   (R (.bool (decide (p0 ≤ 57))) h) 
   (R (.bool false) h))
theorem vc45e (p0 : Int) (h : Heap) (R : Value → Heap → Prop) : W45 p0 h R = fnW Try.prog 45 .z #[.int .u8 p0] h R := by kernel_rfl
theorem vc45 (p0 : Int) (h : Heap) (R : Value → Heap → Prop) (H : W45 p0 h R) : Fn Try.prog 45 #[.int .u8 p0] h R := fnI (vc45e p0 h R) H

/- farandole/farandoleref09.number
   loop rrlb: n_5:Int, v_6:Int -/
def W46 (p0 : ByteArray) (h : Heap) (R : Value → Heap → Prop) : Prop :=
  (∀ h1 : Heap, h1 = h.push (.cells ⟨[.int .i64 0, .string ⟨#[]⟩, .int .i64 0, .int .i64 0]⟩ 37) → 
  (∃ I2 : Int → Int → Heap → Nat → Prop, (∃ m3, I2 0 0 h1 m3) ∧ 
  (∀ (_ : Env) (n_5 : Int) (v_6 : Int) (h7 : Heap) (m4 : Nat), I2 n_5 v_6 h7 m4 → 
  (sB (decide (n_5 < (ByteArray.size p0 : Int))) 
    (((0 ≤ (n_5 : Int) ∧ (n_5 : Int) < (ByteArray.size p0 : Nat)) ∧ 
    (Fn Try.prog 45 #[.int .u8 (byteAt p0 (Int.toNat n_5) : Int)] h7 
    (fun v8 h10 => ∃ x9 : Bool, v8 = .bool x9 ∧ 
    (sB x9 
     (((0 ≤ (n_5 : Int) ∧ (n_5 : Int) < (ByteArray.size p0 : Nat)) ∧ 
     (∃ m11, m11 < m4 ∧ I2 (IntKind.wrap .i64 (n_5 + 1)) (imin (IntKind.wrap .i64 ((IntKind.wrap .i64 (10 * v_6)) + (IntKind.wrap .i64 (IntKind.wrap .u8 ((byteAt p0 (Int.toNat n_5) : Int) - 48))))) 1099511627776) h10 m11))) 
     ((sB (decide (n_5 < (ByteArray.size p0 : Int))) 
      (((0 ≤ (n_5 : Int) ∧ (n_5 : Int) < (ByteArray.size p0 : Nat)) ∧ 
      (Fn Try.prog 36 #[.int .u8 (byteAt p0 (Int.toNat n_5) : Int)] h10 
      (fun v12 h14 => ∃ x13 : Bool, v12 = .bool x13 ∧ 
      (sB x13 
       ((okAt h14 ⟨h.size, 0, none⟩ 4 ∧ ∀ h15 : Heap, h15 = hputs h14 ⟨h.size, 0, none⟩ 0 [.int .i64 0, .string ⟨#[]⟩, .int .i64 0, .int .i64 0] → 
       (∃ x16 : Int, ∃ x17 : ByteArray, ∃ x18 : Int, ∃ x19 : Int, atC h15 ⟨h.size, 0, none⟩ [.int .i64 x16, .string x17, .int .i64 x18, .int .i64 x19] ∧ 
       R (.tuple ⟨[.agg ⟨[.int .i64 x16, .string x17, .int .i64 x18, .int .i64 x19]⟩, .int .i64 0, .int .i64 3]⟩) h15))) 
       ((sB (decide (n_5 > 6)) 
        ((okAt h14 ⟨h.size, 0, none⟩ 4 ∧ ∀ h20 : Heap, h20 = hputs h14 ⟨h.size, 0, none⟩ 0 [.int .i64 0, .string ⟨#[]⟩, .int .i64 0, .int .i64 0] → 
        (∃ x21 : Int, ∃ x22 : ByteArray, ∃ x23 : Int, ∃ x24 : Int, atC h20 ⟨h.size, 0, none⟩ [.int .i64 x21, .string x22, .int .i64 x23, .int .i64 x24] ∧ 
        R (.tuple ⟨[.agg ⟨[.int .i64 x21, .string x22, .int .i64 x23, .int .i64 x24]⟩, .int .i64 0, .int .i64 2]⟩) h20))) 
        ((sB (decide (n_5 > 1)) 
         (((0 ≤ (0 : Int) ∧ (0 : Int) < (ByteArray.size p0 : Nat)) ∧ 
         (sB ((byteAt p0 (Int.toNat 0) : Int) == 48) 
          ((okAt h14 ⟨h.size, 0, none⟩ 4 ∧ ∀ h25 : Heap, h25 = hputs h14 ⟨h.size, 0, none⟩ 0 [.int .i64 0, .string ⟨#[]⟩, .int .i64 0, .int .i64 0] → 
          (∃ x26 : Int, ∃ x27 : ByteArray, ∃ x28 : Int, ∃ x29 : Int, atC h25 ⟨h.size, 0, none⟩ [.int .i64 x26, .string x27, .int .i64 x28, .int .i64 x29] ∧ 
          R (.tuple ⟨[.agg ⟨[.int .i64 x26, .string x27, .int .i64 x28, .int .i64 x29]⟩, .int .i64 0, .int .i64 2]⟩) h25))) 
          ((okAt h14 ⟨h.size, 0, none⟩ 4 ∧ ∀ h30 : Heap, h30 = hputs h14 ⟨h.size, 0, none⟩ 0 [.int .i64 2, .string ⟨#[]⟩, .int .i64 v_6, .int .i64 0] → 
          (∃ x31 : Int, ∃ x32 : ByteArray, ∃ x33 : Int, ∃ x34 : Int, atC h30 ⟨h.size, 0, none⟩ [.int .i64 x31, .string x32, .int .i64 x33, .int .i64 x34] ∧ 
          R (.tuple ⟨[.agg ⟨[.int .i64 x31, .string x32, .int .i64 x33, .int .i64 x34]⟩, .int .i64 n_5, .int .i64 0]⟩) h30)))))) 
         ((okAt h14 ⟨h.size, 0, none⟩ 4 ∧ ∀ h35 : Heap, h35 = hputs h14 ⟨h.size, 0, none⟩ 0 [.int .i64 2, .string ⟨#[]⟩, .int .i64 v_6, .int .i64 0] → 
         (∃ x36 : Int, ∃ x37 : ByteArray, ∃ x38 : Int, ∃ x39 : Int, atC h35 ⟨h.size, 0, none⟩ [.int .i64 x36, .string x37, .int .i64 x38, .int .i64 x39] ∧ 
         R (.tuple ⟨[.agg ⟨[.int .i64 x36, .string x37, .int .i64 x38, .int .i64 x39]⟩, .int .i64 n_5, .int .i64 0]⟩) h35)))))))))))) 
      ((sB (decide (n_5 > 6)) 
       ((okAt h10 ⟨h.size, 0, none⟩ 4 ∧ ∀ h40 : Heap, h40 = hputs h10 ⟨h.size, 0, none⟩ 0 [.int .i64 0, .string ⟨#[]⟩, .int .i64 0, .int .i64 0] → 
       (∃ x41 : Int, ∃ x42 : ByteArray, ∃ x43 : Int, ∃ x44 : Int, atC h40 ⟨h.size, 0, none⟩ [.int .i64 x41, .string x42, .int .i64 x43, .int .i64 x44] ∧ 
       R (.tuple ⟨[.agg ⟨[.int .i64 x41, .string x42, .int .i64 x43, .int .i64 x44]⟩, .int .i64 0, .int .i64 2]⟩) h40))) 
       ((sB (decide (n_5 > 1)) 
        (((0 ≤ (0 : Int) ∧ (0 : Int) < (ByteArray.size p0 : Nat)) ∧ 
        (sB ((byteAt p0 (Int.toNat 0) : Int) == 48) 
         ((okAt h10 ⟨h.size, 0, none⟩ 4 ∧ ∀ h45 : Heap, h45 = hputs h10 ⟨h.size, 0, none⟩ 0 [.int .i64 0, .string ⟨#[]⟩, .int .i64 0, .int .i64 0] → 
         (∃ x46 : Int, ∃ x47 : ByteArray, ∃ x48 : Int, ∃ x49 : Int, atC h45 ⟨h.size, 0, none⟩ [.int .i64 x46, .string x47, .int .i64 x48, .int .i64 x49] ∧ 
         R (.tuple ⟨[.agg ⟨[.int .i64 x46, .string x47, .int .i64 x48, .int .i64 x49]⟩, .int .i64 0, .int .i64 2]⟩) h45))) 
         ((okAt h10 ⟨h.size, 0, none⟩ 4 ∧ ∀ h50 : Heap, h50 = hputs h10 ⟨h.size, 0, none⟩ 0 [.int .i64 2, .string ⟨#[]⟩, .int .i64 v_6, .int .i64 0] → 
         (∃ x51 : Int, ∃ x52 : ByteArray, ∃ x53 : Int, ∃ x54 : Int, atC h50 ⟨h.size, 0, none⟩ [.int .i64 x51, .string x52, .int .i64 x53, .int .i64 x54] ∧ 
         R (.tuple ⟨[.agg ⟨[.int .i64 x51, .string x52, .int .i64 x53, .int .i64 x54]⟩, .int .i64 n_5, .int .i64 0]⟩) h50)))))) 
        ((okAt h10 ⟨h.size, 0, none⟩ 4 ∧ ∀ h55 : Heap, h55 = hputs h10 ⟨h.size, 0, none⟩ 0 [.int .i64 2, .string ⟨#[]⟩, .int .i64 v_6, .int .i64 0] → 
        (∃ x56 : Int, ∃ x57 : ByteArray, ∃ x58 : Int, ∃ x59 : Int, atC h55 ⟨h.size, 0, none⟩ [.int .i64 x56, .string x57, .int .i64 x58, .int .i64 x59] ∧ 
        R (.tuple ⟨[.agg ⟨[.int .i64 x56, .string x57, .int .i64 x58, .int .i64 x59]⟩, .int .i64 n_5, .int .i64 0]⟩) h55)))))))))))))) 
    ((sB (decide (n_5 < (ByteArray.size p0 : Int))) 
     (((0 ≤ (n_5 : Int) ∧ (n_5 : Int) < (ByteArray.size p0 : Nat)) ∧ 
     (Fn Try.prog 36 #[.int .u8 (byteAt p0 (Int.toNat n_5) : Int)] h7 
     (fun v60 h62 => ∃ x61 : Bool, v60 = .bool x61 ∧ 
     (sB x61 
      ((okAt h62 ⟨h.size, 0, none⟩ 4 ∧ ∀ h63 : Heap, h63 = hputs h62 ⟨h.size, 0, none⟩ 0 [.int .i64 0, .string ⟨#[]⟩, .int .i64 0, .int .i64 0] → 
      (∃ x64 : Int, ∃ x65 : ByteArray, ∃ x66 : Int, ∃ x67 : Int, atC h63 ⟨h.size, 0, none⟩ [.int .i64 x64, .string x65, .int .i64 x66, .int .i64 x67] ∧ 
      R (.tuple ⟨[.agg ⟨[.int .i64 x64, .string x65, .int .i64 x66, .int .i64 x67]⟩, .int .i64 0, .int .i64 3]⟩) h63))) 
      ((sB (decide (n_5 > 6)) 
       ((okAt h62 ⟨h.size, 0, none⟩ 4 ∧ ∀ h68 : Heap, h68 = hputs h62 ⟨h.size, 0, none⟩ 0 [.int .i64 0, .string ⟨#[]⟩, .int .i64 0, .int .i64 0] → 
       (∃ x69 : Int, ∃ x70 : ByteArray, ∃ x71 : Int, ∃ x72 : Int, atC h68 ⟨h.size, 0, none⟩ [.int .i64 x69, .string x70, .int .i64 x71, .int .i64 x72] ∧ 
       R (.tuple ⟨[.agg ⟨[.int .i64 x69, .string x70, .int .i64 x71, .int .i64 x72]⟩, .int .i64 0, .int .i64 2]⟩) h68))) 
       ((sB (decide (n_5 > 1)) 
        (((0 ≤ (0 : Int) ∧ (0 : Int) < (ByteArray.size p0 : Nat)) ∧ 
        (sB ((byteAt p0 (Int.toNat 0) : Int) == 48) 
         ((okAt h62 ⟨h.size, 0, none⟩ 4 ∧ ∀ h73 : Heap, h73 = hputs h62 ⟨h.size, 0, none⟩ 0 [.int .i64 0, .string ⟨#[]⟩, .int .i64 0, .int .i64 0] → 
         (∃ x74 : Int, ∃ x75 : ByteArray, ∃ x76 : Int, ∃ x77 : Int, atC h73 ⟨h.size, 0, none⟩ [.int .i64 x74, .string x75, .int .i64 x76, .int .i64 x77] ∧ 
         R (.tuple ⟨[.agg ⟨[.int .i64 x74, .string x75, .int .i64 x76, .int .i64 x77]⟩, .int .i64 0, .int .i64 2]⟩) h73))) 
         ((okAt h62 ⟨h.size, 0, none⟩ 4 ∧ ∀ h78 : Heap, h78 = hputs h62 ⟨h.size, 0, none⟩ 0 [.int .i64 2, .string ⟨#[]⟩, .int .i64 v_6, .int .i64 0] → 
         (∃ x79 : Int, ∃ x80 : ByteArray, ∃ x81 : Int, ∃ x82 : Int, atC h78 ⟨h.size, 0, none⟩ [.int .i64 x79, .string x80, .int .i64 x81, .int .i64 x82] ∧ 
         R (.tuple ⟨[.agg ⟨[.int .i64 x79, .string x80, .int .i64 x81, .int .i64 x82]⟩, .int .i64 n_5, .int .i64 0]⟩) h78)))))) 
        ((okAt h62 ⟨h.size, 0, none⟩ 4 ∧ ∀ h83 : Heap, h83 = hputs h62 ⟨h.size, 0, none⟩ 0 [.int .i64 2, .string ⟨#[]⟩, .int .i64 v_6, .int .i64 0] → 
        (∃ x84 : Int, ∃ x85 : ByteArray, ∃ x86 : Int, ∃ x87 : Int, atC h83 ⟨h.size, 0, none⟩ [.int .i64 x84, .string x85, .int .i64 x86, .int .i64 x87] ∧ 
        R (.tuple ⟨[.agg ⟨[.int .i64 x84, .string x85, .int .i64 x86, .int .i64 x87]⟩, .int .i64 n_5, .int .i64 0]⟩) h83)))))))))))) 
     ((sB (decide (n_5 > 6)) 
      ((okAt h7 ⟨h.size, 0, none⟩ 4 ∧ ∀ h88 : Heap, h88 = hputs h7 ⟨h.size, 0, none⟩ 0 [.int .i64 0, .string ⟨#[]⟩, .int .i64 0, .int .i64 0] → 
      (∃ x89 : Int, ∃ x90 : ByteArray, ∃ x91 : Int, ∃ x92 : Int, atC h88 ⟨h.size, 0, none⟩ [.int .i64 x89, .string x90, .int .i64 x91, .int .i64 x92] ∧ 
      R (.tuple ⟨[.agg ⟨[.int .i64 x89, .string x90, .int .i64 x91, .int .i64 x92]⟩, .int .i64 0, .int .i64 2]⟩) h88))) 
      ((sB (decide (n_5 > 1)) 
       (((0 ≤ (0 : Int) ∧ (0 : Int) < (ByteArray.size p0 : Nat)) ∧ 
       (sB ((byteAt p0 (Int.toNat 0) : Int) == 48) 
        ((okAt h7 ⟨h.size, 0, none⟩ 4 ∧ ∀ h93 : Heap, h93 = hputs h7 ⟨h.size, 0, none⟩ 0 [.int .i64 0, .string ⟨#[]⟩, .int .i64 0, .int .i64 0] → 
        (∃ x94 : Int, ∃ x95 : ByteArray, ∃ x96 : Int, ∃ x97 : Int, atC h93 ⟨h.size, 0, none⟩ [.int .i64 x94, .string x95, .int .i64 x96, .int .i64 x97] ∧ 
        R (.tuple ⟨[.agg ⟨[.int .i64 x94, .string x95, .int .i64 x96, .int .i64 x97]⟩, .int .i64 0, .int .i64 2]⟩) h93))) 
        ((okAt h7 ⟨h.size, 0, none⟩ 4 ∧ ∀ h98 : Heap, h98 = hputs h7 ⟨h.size, 0, none⟩ 0 [.int .i64 2, .string ⟨#[]⟩, .int .i64 v_6, .int .i64 0] → 
        (∃ x99 : Int, ∃ x100 : ByteArray, ∃ x101 : Int, ∃ x102 : Int, atC h98 ⟨h.size, 0, none⟩ [.int .i64 x99, .string x100, .int .i64 x101, .int .i64 x102] ∧ 
        R (.tuple ⟨[.agg ⟨[.int .i64 x99, .string x100, .int .i64 x101, .int .i64 x102]⟩, .int .i64 n_5, .int .i64 0]⟩) h98)))))) 
       ((okAt h7 ⟨h.size, 0, none⟩ 4 ∧ ∀ h103 : Heap, h103 = hputs h7 ⟨h.size, 0, none⟩ 0 [.int .i64 2, .string ⟨#[]⟩, .int .i64 v_6, .int .i64 0] → 
       (∃ x104 : Int, ∃ x105 : ByteArray, ∃ x106 : Int, ∃ x107 : Int, atC h103 ⟨h.size, 0, none⟩ [.int .i64 x104, .string x105, .int .i64 x106, .int .i64 x107] ∧ 
       R (.tuple ⟨[.agg ⟨[.int .i64 x104, .string x105, .int .i64 x106, .int .i64 x107]⟩, .int .i64 n_5, .int .i64 0]⟩) h103)))))))))))))
theorem vc46e (p0 : ByteArray) (h : Heap) (R : Value → Heap → Prop) : W46 p0 h R = fnW Try.prog 46 (.s .z (.s .z (.s (.b (.l [(5, .one (.int .i64)), (6, .one (.int .i64))] .z)) .z))) #[.string p0] h R := by kernel_rfl
theorem vc46 (p0 : ByteArray) (h : Heap) (R : Value → Heap → Prop) (H : W46 p0 h R) : Fn Try.prog 46 #[.string p0] h R := fnI (vc46e p0 h R) H

/- farandole/farandoleref09.text
   loop rrlrb: out_4:ByteArray, i_5:Int -/
def W47 (p0 : ByteArray) (h : Heap) (R : Value → Heap → Prop) : Prop :=
  (∃ I1 : ByteArray → Int → Heap → Nat → Prop, (∃ m2, I1 ⟨#[]⟩ 1 h m2) ∧ 
  (∀ (_ : Env) (out_4 : ByteArray) (i_5 : Int) (h6 : Heap) (m3 : Nat), I1 out_4 i_5 h6 m3 → 
  (sB (decide (i_5 < (ByteArray.size p0 : Int))) 
    (((0 ≤ (i_5 : Int) ∧ (i_5 : Int) < (ByteArray.size p0 : Nat)) ∧ 
    (sB ((byteAt p0 (Int.toNat i_5) : Int) == 34) 
     (R (.tuple ⟨[.string out_4, .int .i64 (IntKind.wrap .i64 (i_5 + 1))]⟩) h6) 
     (((0 ≤ (i_5 : Int) ∧ (i_5 : Int) < (ByteArray.size p0 : Nat)) ∧ 
     (sB ((byteAt p0 (Int.toNat i_5) : Int) == 92) 
      ((sB (decide ((IntKind.wrap .i64 (i_5 + 1)) < (ByteArray.size p0 : Int))) 
       (((0 ≤ ((IntKind.wrap .i64 (i_5 + 1)) : Int) ∧ ((IntKind.wrap .i64 (i_5 + 1)) : Int) < (ByteArray.size p0 : Nat)) ∧ 
       (sB ((byteAt p0 (Int.toNat (IntKind.wrap .i64 (i_5 + 1))) : Int) == 34) 
        ((((0 : Int) ≤ ((IntKind.wrap .i64 (i_5 + 1)) : Int) ∧ ((IntKind.wrap .i64 (i_5 + 1)) : Int) ≤ ((IntKind.wrap .i64 ((IntKind.wrap .i64 (i_5 + 1)) + 1)) : Int) ∧ ((IntKind.wrap .i64 ((IntKind.wrap .i64 (i_5 + 1)) + 1)) : Int) ≤ (ByteArray.size p0 : Nat)) ∧ 
        (((ByteArray.size out_4) + (ByteArray.size (ByteArray.extract p0 (Int.toNat (IntKind.wrap .i64 (i_5 + 1))) (Int.toNat (IntKind.wrap .i64 ((IntKind.wrap .i64 (i_5 + 1)) + 1))))) : Nat) ≤ 9223372036854775807 ∧ (∃ m7, m7 < m3 ∧ I1 (out_4 ++ (ByteArray.extract p0 (Int.toNat (IntKind.wrap .i64 (i_5 + 1))) (Int.toNat (IntKind.wrap .i64 ((IntKind.wrap .i64 (i_5 + 1)) + 1))))) (IntKind.wrap .i64 ((IntKind.wrap .i64 (i_5 + 1)) + 1)) h6 m7)))) 
        (((0 ≤ ((IntKind.wrap .i64 (i_5 + 1)) : Int) ∧ ((IntKind.wrap .i64 (i_5 + 1)) : Int) < (ByteArray.size p0 : Nat)) ∧ 
        (sB ((byteAt p0 (Int.toNat (IntKind.wrap .i64 (i_5 + 1))) : Int) == 92) 
         ((((0 : Int) ≤ ((IntKind.wrap .i64 (i_5 + 1)) : Int) ∧ ((IntKind.wrap .i64 (i_5 + 1)) : Int) ≤ ((IntKind.wrap .i64 ((IntKind.wrap .i64 (i_5 + 1)) + 1)) : Int) ∧ ((IntKind.wrap .i64 ((IntKind.wrap .i64 (i_5 + 1)) + 1)) : Int) ≤ (ByteArray.size p0 : Nat)) ∧ 
         (((ByteArray.size out_4) + (ByteArray.size (ByteArray.extract p0 (Int.toNat (IntKind.wrap .i64 (i_5 + 1))) (Int.toNat (IntKind.wrap .i64 ((IntKind.wrap .i64 (i_5 + 1)) + 1))))) : Nat) ≤ 9223372036854775807 ∧ (∃ m8, m8 < m3 ∧ I1 (out_4 ++ (ByteArray.extract p0 (Int.toNat (IntKind.wrap .i64 (i_5 + 1))) (Int.toNat (IntKind.wrap .i64 ((IntKind.wrap .i64 (i_5 + 1)) + 1))))) (IntKind.wrap .i64 ((IntKind.wrap .i64 (i_5 + 1)) + 1)) h6 m8)))) 
         (((0 ≤ (i_5 : Int) ∧ (i_5 : Int) < (ByteArray.size p0 : Nat)) ∧ 
         (sB ((byteAt p0 (Int.toNat i_5) : Int) == 92) 
          (R (.tuple ⟨[.string ⟨#[]⟩, .int .i64 0]⟩) h6) 
          (((0 ≤ (i_5 : Int) ∧ (i_5 : Int) < (ByteArray.size p0 : Nat)) ∧ 
          (sB (decide ((byteAt p0 (Int.toNat i_5) : Int) < 32)) 
           (R (.tuple ⟨[.string ⟨#[]⟩, .int .i64 0]⟩) h6) 
           (((0 ≤ (i_5 : Int) ∧ (i_5 : Int) < (ByteArray.size p0 : Nat)) ∧ 
           (sB (decide ((byteAt p0 (Int.toNat i_5) : Int) > 126)) 
            (R (.tuple ⟨[.string ⟨#[]⟩, .int .i64 0]⟩) h6) 
            ((((0 : Int) ≤ (i_5 : Int) ∧ (i_5 : Int) ≤ ((IntKind.wrap .i64 (i_5 + 1)) : Int) ∧ ((IntKind.wrap .i64 (i_5 + 1)) : Int) ≤ (ByteArray.size p0 : Nat)) ∧ 
            (((ByteArray.size out_4) + (ByteArray.size (ByteArray.extract p0 (Int.toNat i_5) (Int.toNat (IntKind.wrap .i64 (i_5 + 1))))) : Nat) ≤ 9223372036854775807 ∧ (∃ m9, m9 < m3 ∧ I1 (out_4 ++ (ByteArray.extract p0 (Int.toNat i_5) (Int.toNat (IntKind.wrap .i64 (i_5 + 1))))) (IntKind.wrap .i64 (i_5 + 1)) h6 m9))))))))))))))))))) 
       (((0 ≤ (i_5 : Int) ∧ (i_5 : Int) < (ByteArray.size p0 : Nat)) ∧ 
       (sB ((byteAt p0 (Int.toNat i_5) : Int) == 92) 
        (R (.tuple ⟨[.string ⟨#[]⟩, .int .i64 0]⟩) h6) 
        (((0 ≤ (i_5 : Int) ∧ (i_5 : Int) < (ByteArray.size p0 : Nat)) ∧ 
        (sB (decide ((byteAt p0 (Int.toNat i_5) : Int) < 32)) 
         (R (.tuple ⟨[.string ⟨#[]⟩, .int .i64 0]⟩) h6) 
         (((0 ≤ (i_5 : Int) ∧ (i_5 : Int) < (ByteArray.size p0 : Nat)) ∧ 
         (sB (decide ((byteAt p0 (Int.toNat i_5) : Int) > 126)) 
          (R (.tuple ⟨[.string ⟨#[]⟩, .int .i64 0]⟩) h6) 
          ((((0 : Int) ≤ (i_5 : Int) ∧ (i_5 : Int) ≤ ((IntKind.wrap .i64 (i_5 + 1)) : Int) ∧ ((IntKind.wrap .i64 (i_5 + 1)) : Int) ≤ (ByteArray.size p0 : Nat)) ∧ 
          (((ByteArray.size out_4) + (ByteArray.size (ByteArray.extract p0 (Int.toNat i_5) (Int.toNat (IntKind.wrap .i64 (i_5 + 1))))) : Nat) ≤ 9223372036854775807 ∧ (∃ m10, m10 < m3 ∧ I1 (out_4 ++ (ByteArray.extract p0 (Int.toNat i_5) (Int.toNat (IntKind.wrap .i64 (i_5 + 1))))) (IntKind.wrap .i64 (i_5 + 1)) h6 m10))))))))))))))) 
      (((0 ≤ (i_5 : Int) ∧ (i_5 : Int) < (ByteArray.size p0 : Nat)) ∧ 
      (sB ((byteAt p0 (Int.toNat i_5) : Int) == 92) 
       (R (.tuple ⟨[.string ⟨#[]⟩, .int .i64 0]⟩) h6) 
       (((0 ≤ (i_5 : Int) ∧ (i_5 : Int) < (ByteArray.size p0 : Nat)) ∧ 
       (sB (decide ((byteAt p0 (Int.toNat i_5) : Int) < 32)) 
        (R (.tuple ⟨[.string ⟨#[]⟩, .int .i64 0]⟩) h6) 
        (((0 ≤ (i_5 : Int) ∧ (i_5 : Int) < (ByteArray.size p0 : Nat)) ∧ 
        (sB (decide ((byteAt p0 (Int.toNat i_5) : Int) > 126)) 
         (R (.tuple ⟨[.string ⟨#[]⟩, .int .i64 0]⟩) h6) 
         ((((0 : Int) ≤ (i_5 : Int) ∧ (i_5 : Int) ≤ ((IntKind.wrap .i64 (i_5 + 1)) : Int) ∧ ((IntKind.wrap .i64 (i_5 + 1)) : Int) ≤ (ByteArray.size p0 : Nat)) ∧ 
         (((ByteArray.size out_4) + (ByteArray.size (ByteArray.extract p0 (Int.toNat i_5) (Int.toNat (IntKind.wrap .i64 (i_5 + 1))))) : Nat) ≤ 9223372036854775807 ∧ (∃ m11, m11 < m3 ∧ I1 (out_4 ++ (ByteArray.extract p0 (Int.toNat i_5) (Int.toNat (IntKind.wrap .i64 (i_5 + 1))))) (IntKind.wrap .i64 (i_5 + 1)) h6 m11))))))))))))))))))) 
    (R (.tuple ⟨[.string ⟨#[]⟩, .int .i64 0]⟩) h6))))
theorem vc47e (p0 : ByteArray) (h : Heap) (R : Value → Heap → Prop) : W47 p0 h R = fnW Try.prog 47 (.s .z (.s .z (.s (.s .z (.b (.l [(4, .one (.str)), (5, .one (.int .i64))] .z))) .z))) #[.string p0] h R := by kernel_rfl
theorem vc47 (p0 : ByteArray) (h : Heap) (R : Value → Heap → Prop) (H : W47 p0 h R) : Fn Try.prog 47 #[.string p0] h R := fnI (vc47e p0 h R) H

/- slices.Index[[]string,string]
   loop rlrb: x_4:Int -/
def W48 (p0 : Sl) (p1 : ByteArray) (h : Heap) (R : Value → Heap → Prop) : Prop :=
  (∃ I1 : Int → Heap → Nat → Prop, (∃ m2, I1 0 h m2) ∧ 
  (∀ (_ : Env) (x_4 : Int) (h5 : Heap) (m3 : Nat), I1 x_4 h5 m3 → 
  (sB (decide (x_4 < (p0.n : Int))) 
    ((NB p0.a fun b6 o7 => ((0 ≤ (x_4 : Int) ∧ (x_4 : Int) < (p0.n : Nat)) ∧ 
    (∃ x8 : ByteArray, hc h5 ⟨b6, o7 + Int.toNat x_4 * 1, none⟩ = some (.string x8) ∧ 
    (sB ((ByteArray.toList p1) == (ByteArray.toList x8)) 
     (R (.int .i64 x_4) h5) 
     ((∃ m9, m9 < m3 ∧ I1 (IntKind.wrap .i64 (x_4 + 1)) h5 m9))))))) 
    (R (.int .i64 (-1)) h5))))
theorem vc48e (p0 : Sl) (p1 : ByteArray) (h : Heap) (R : Value → Heap → Prop) : W48 p0 p1 h R = fnW Try.prog 48 (.s .z (.s (.s .z (.b (.l [(8, .one (.int .i64))] .z))) .z)) #[.slice p0.a p0.n p0.c, .string p1] h R := by kernel_rfl
theorem vc48 (p0 : Sl) (p1 : ByteArray) (h : Heap) (R : Value → Heap → Prop) (H : W48 p0 p1 h R) : Fn Try.prog 48 #[.slice p0.a p0.n p0.c, .string p1] h R := fnI (vc48e p0 p1 h R) H

/- strings.IndexRune
   loop rbrertlrb: 
   loop rbrererebrrrrlborbbrlrb: j_36:Int
   join rbrererebrrrrlborbb: i_31:Int
   loop rbrererebrrrrlb: i_25:Int
   loop rbrertlrb: 
   loop rbrererebrrrrlborbbrlrb: j_71:Int
   join rbrererebrrrrlborbb: i_66:Int
   loop rbrererebrrrrlb: i_60:Int -/
def W50 (p0 : ByteArray) (p1 : Int) (h : Heap) (R : Value → Heap → Prop) : Prop :=
  (sB (decide ((0 : Int) ≤ p1)) 
   ((sB (decide (p1 < 128)) 
    ((Fn Try.prog 42 #[.string p0, .int .u8 (IntKind.wrap .u8 p1)] h 
    (fun v1 h3 => ∃ x2 : Int, v1 = .int .i64 x2 ∧ 
    R (.int .i64 x2) h3))) 
    ((sB (p1 == 65533) 
     ((RunW Try.prog (Instr.range 9 (.string p0)) h (fun v4 h5 => ∃ a6 : Addr, v4 = .pointer (some a6) ∧ 
     (∃ I7 : Heap → Nat → Prop, (∃ m8, I7 h5 m8) ∧ 
     (∀ (_ : Env) (h10 : Heap) (m9 : Nat), I7 h10 m9 → 
     (RunW Try.prog (Instr.next (.pointer (some a6)) true 0) h10 (fun v11 h12 => (v11 = .tuple ⟨[.bool false]⟩ ∧ 
      R (.int .i64 (-1)) h12) ∨ 
      (∃ x13 : Int, ∃ x14 : Int, v11 = .tuple ⟨[.bool true, .int .i64 x13, .int .i32 x14]⟩ ∧ 
      (sB (x14 == 65533) 
       (R (.int .i64 x13) h12) 
       ((∃ m15, m15 < m9 ∧ I7 h12 m15))))))))))) 
     ((Fn Try.prog 55 #[.int .i32 p1] h 
     (fun v16 h18 => ∃ x17 : Bool, v16 = .bool x17 ∧ 
     (sB (!x17) 
      (R (.int .i64 (-1)) h18) 
      ((RunW Try.prog (Go.convert 21 9 (.int .i32 p1)) h18 
      (fun v19 h21 => ∃ x20 : ByteArray, v19 = .string x20 ∧ 
      (∃ I22 : Int → Heap → Nat → Prop, (∃ m23, I22 (IntKind.wrap .i64 ((ByteArray.size x20 : Int) - 1)) h21 m23) ∧ 
      (∀ (_ : Env) (i_25 : Int) (h26 : Heap) (m24 : Nat), I22 i_25 h26 m24 → 
      (sB (decide (i_25 < (ByteArray.size p0 : Int))) 
        ((∃ J27 : Int → Heap → Prop, 
        (((0 ≤ (i_25 : Int) ∧ (i_25 : Int) < (ByteArray.size p0 : Nat)) ∧ 
         ((0 ≤ ((IntKind.wrap .i64 ((ByteArray.size x20 : Int) - 1)) : Int) ∧ ((IntKind.wrap .i64 ((ByteArray.size x20 : Int) - 1)) : Int) < (ByteArray.size x20 : Nat)) ∧ 
         (sB ((byteAt p0 (Int.toNat i_25) : Int) != (byteAt x20 (Int.toNat (IntKind.wrap .i64 ((ByteArray.size x20 : Int) - 1))) : Int)) 
          ((((0 : Int) ≤ ((IntKind.wrap .i64 (i_25 + 1)) : Int) ∧ ((IntKind.wrap .i64 (i_25 + 1)) : Int) ≤ ((ByteArray.size p0) : Int) ∧ ((ByteArray.size p0) : Int) ≤ (ByteArray.size p0 : Nat)) ∧ 
          ((0 ≤ ((IntKind.wrap .i64 ((ByteArray.size x20 : Int) - 1)) : Int) ∧ ((IntKind.wrap .i64 ((ByteArray.size x20 : Int) - 1)) : Int) < (ByteArray.size x20 : Nat)) ∧ 
          (Fn Try.prog 42 #[.string (ByteArray.extract p0 (Int.toNat (IntKind.wrap .i64 (i_25 + 1))) (Int.toNat (ByteArray.size p0))), .int .u8 (byteAt x20 (Int.toNat (IntKind.wrap .i64 ((ByteArray.size x20 : Int) - 1))) : Int)] h26 
          (fun v28 h30 => ∃ x29 : Int, v28 = .int .i64 x29 ∧ 
          (sB (decide (x29 < 0)) 
           (R (.int .i64 (-1)) h30) 
           ((J27 (IntKind.wrap .i64 (i_25 + (IntKind.wrap .i64 (x29 + 1)))) h30)))))))) 
          ((J27 i_25 h26)))))) ∧ 
        (∀ (_ : Env) (i_31 : Int) (h32 : Heap), J27 i_31 h32 → 
        (∃ I33 : Int → Heap → Nat → Prop, (∃ m34, I33 1 h32 m34) ∧ 
         (∀ (_ : Env) (j_36 : Int) (h37 : Heap) (m35 : Nat), I33 j_36 h37 m35 → 
         (sB (decide (j_36 < (ByteArray.size x20 : Int))) 
           (((0 ≤ ((IntKind.wrap .i64 (i_31 - j_36)) : Int) ∧ ((IntKind.wrap .i64 (i_31 - j_36)) : Int) < (ByteArray.size p0 : Nat)) ∧ 
           ((0 ≤ ((IntKind.wrap .i64 ((IntKind.wrap .i64 ((ByteArray.size x20 : Int) - 1)) - j_36)) : Int) ∧ ((IntKind.wrap .i64 ((IntKind.wrap .i64 ((ByteArray.size x20 : Int) - 1)) - j_36)) : Int) < (ByteArray.size x20 : Nat)) ∧ 
           (sB ((byteAt p0 (Int.toNat (IntKind.wrap .i64 (i_31 - j_36))) : Int) != (byteAt x20 (Int.toNat (IntKind.wrap .i64 ((IntKind.wrap .i64 ((ByteArray.size x20 : Int) - 1)) - j_36))) : Int)) 
            (False) 
            ((∃ m38, m38 < m35 ∧ I33 (IntKind.wrap .i64 (j_36 + 1)) h37 m38)))))) 
           (R (.int .i64 (IntKind.wrap .i64 (i_31 - (IntKind.wrap .i64 ((ByteArray.size x20 : Int) - 1))))) h37))))))) 
        (R (.int .i64 (-1)) h26))))))))))))))) 
   ((sB (p1 == 65533) 
    ((RunW Try.prog (Instr.range 9 (.string p0)) h (fun v39 h40 => ∃ a41 : Addr, v39 = .pointer (some a41) ∧ 
    (∃ I42 : Heap → Nat → Prop, (∃ m43, I42 h40 m43) ∧ 
    (∀ (_ : Env) (h45 : Heap) (m44 : Nat), I42 h45 m44 → 
    (RunW Try.prog (Instr.next (.pointer (some a41)) true 0) h45 (fun v46 h47 => (v46 = .tuple ⟨[.bool false]⟩ ∧ 
     R (.int .i64 (-1)) h47) ∨ 
     (∃ x48 : Int, ∃ x49 : Int, v46 = .tuple ⟨[.bool true, .int .i64 x48, .int .i32 x49]⟩ ∧ 
     (sB (x49 == 65533) 
      (R (.int .i64 x48) h47) 
      ((∃ m50, m50 < m44 ∧ I42 h47 m50))))))))))) 
    ((Fn Try.prog 55 #[.int .i32 p1] h 
    (fun v51 h53 => ∃ x52 : Bool, v51 = .bool x52 ∧ 
    (sB (!x52) 
     (R (.int .i64 (-1)) h53) 
     ((RunW Try.prog (Go.convert 21 9 (.int .i32 p1)) h53 
     (fun v54 h56 => ∃ x55 : ByteArray, v54 = .string x55 ∧ 
     (∃ I57 : Int → Heap → Nat → Prop, (∃ m58, I57 (IntKind.wrap .i64 ((ByteArray.size x55 : Int) - 1)) h56 m58) ∧ 
     (∀ (_ : Env) (i_60 : Int) (h61 : Heap) (m59 : Nat), I57 i_60 h61 m59 → 
     (sB (decide (i_60 < (ByteArray.size p0 : Int))) 
       ((∃ J62 : Int → Heap → Prop, 
       (((0 ≤ (i_60 : Int) ∧ (i_60 : Int) < (ByteArray.size p0 : Nat)) ∧ 
        ((0 ≤ ((IntKind.wrap .i64 ((ByteArray.size x55 : Int) - 1)) : Int) ∧ ((IntKind.wrap .i64 ((ByteArray.size x55 : Int) - 1)) : Int) < (ByteArray.size x55 : Nat)) ∧ 
        (sB ((byteAt p0 (Int.toNat i_60) : Int) != (byteAt x55 (Int.toNat (IntKind.wrap .i64 ((ByteArray.size x55 : Int) - 1))) : Int)) 
         ((((0 : Int) ≤ ((IntKind.wrap .i64 (i_60 + 1)) : Int) ∧ ((IntKind.wrap .i64 (i_60 + 1)) : Int) ≤ ((ByteArray.size p0) : Int) ∧ ((ByteArray.size p0) : Int) ≤ (ByteArray.size p0 : Nat)) ∧ 
         ((0 ≤ ((IntKind.wrap .i64 ((ByteArray.size x55 : Int) - 1)) : Int) ∧ ((IntKind.wrap .i64 ((ByteArray.size x55 : Int) - 1)) : Int) < (ByteArray.size x55 : Nat)) ∧ 
         (Fn Try.prog 42 #[.string (ByteArray.extract p0 (Int.toNat (IntKind.wrap .i64 (i_60 + 1))) (Int.toNat (ByteArray.size p0))), .int .u8 (byteAt x55 (Int.toNat (IntKind.wrap .i64 ((ByteArray.size x55 : Int) - 1))) : Int)] h61 
         (fun v63 h65 => ∃ x64 : Int, v63 = .int .i64 x64 ∧ 
         (sB (decide (x64 < 0)) 
          (R (.int .i64 (-1)) h65) 
          ((J62 (IntKind.wrap .i64 (i_60 + (IntKind.wrap .i64 (x64 + 1)))) h65)))))))) 
         ((J62 i_60 h61)))))) ∧ 
       (∀ (_ : Env) (i_66 : Int) (h67 : Heap), J62 i_66 h67 → 
       (∃ I68 : Int → Heap → Nat → Prop, (∃ m69, I68 1 h67 m69) ∧ 
        (∀ (_ : Env) (j_71 : Int) (h72 : Heap) (m70 : Nat), I68 j_71 h72 m70 → 
        (sB (decide (j_71 < (ByteArray.size x55 : Int))) 
          (((0 ≤ ((IntKind.wrap .i64 (i_66 - j_71)) : Int) ∧ ((IntKind.wrap .i64 (i_66 - j_71)) : Int) < (ByteArray.size p0 : Nat)) ∧ 
          ((0 ≤ ((IntKind.wrap .i64 ((IntKind.wrap .i64 ((ByteArray.size x55 : Int) - 1)) - j_71)) : Int) ∧ ((IntKind.wrap .i64 ((IntKind.wrap .i64 ((ByteArray.size x55 : Int) - 1)) - j_71)) : Int) < (ByteArray.size x55 : Nat)) ∧ 
          (sB ((byteAt p0 (Int.toNat (IntKind.wrap .i64 (i_66 - j_71))) : Int) != (byteAt x55 (Int.toNat (IntKind.wrap .i64 ((IntKind.wrap .i64 ((ByteArray.size x55 : Int) - 1)) - j_71))) : Int)) 
           (False) 
           ((∃ m73, m73 < m70 ∧ I68 (IntKind.wrap .i64 (j_71 + 1)) h72 m73)))))) 
          (R (.int .i64 (IntKind.wrap .i64 (i_66 - (IntKind.wrap .i64 ((ByteArray.size x55 : Int) - 1))))) h72))))))) 
       (R (.int .i64 (-1)) h61))))))))))))))
theorem vc50e (p0 : ByteArray) (p1 : Int) (h : Heap) (R : Value → Heap → Prop) : W50 p0 p1 h R = fnW Try.prog 50 (.s .z (.b (.s .z (.c .z (.s .z (.c (.s (.s .z (.b (.l [] .z))) .z) (.s .z (.c .z (.b (.s .z (.s .z (.s .z (.s .z (.s (.b (.l [(9, .one (.int .i64))] (.s .z (.b (.b (.j [(9, .one (.int .i64))] .z (.s (.s .z (.b (.l [(12, .one (.int .i64))] .z))) .z))))))) .z)))))))))))))) #[.string p0, .int .i32 p1] h R := by kernel_rfl
theorem vc50 (p0 : ByteArray) (p1 : Int) (h : Heap) (R : Value → Heap → Prop) (H : W50 p0 p1 h R) : Fn Try.prog 50 #[.string p0, .int .i32 p1] h R := fnI (vc50e p0 p1 h R) H

end Go.VC
