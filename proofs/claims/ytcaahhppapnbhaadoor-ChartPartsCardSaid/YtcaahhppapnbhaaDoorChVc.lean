import Derived.Test.YtcaahhppapnbhaaDoorVcLib
import Derived.Test.YtcaahhppapnbhaaDoorChVcA
import Derived.Test.YtcaahhppapnbhaaDoorProg
import Derived.KernelRfl
set_option linter.unusedVariables false
set_option linter.unusedSimpArgs false

namespace Go.VC
open Go.Proofs
set_option maxRecDepth 100000
set_option linter.unusedVariables false

/- farandole/farandoleref42.Same
   loop rrlrb: i_4:Int -/
def W13 (p0 : Sl) (p1 : Sl) (h : Heap) (R : Value → Heap → Prop) : Prop :=
  (sB ((p0.n : Int) != (p1.n : Int)) 
   (R (.bool false) h) 
   ((∃ I1 : Int → Heap → Nat → Prop, (∃ m2, I1 0 h m2) ∧ 
   (∀ (_ : Env) (i_4 : Int) (h5 : Heap) (m3 : Nat), I1 i_4 h5 m3 → 
   (sB (decide (i_4 < (p0.n : Int))) 
     ((NB p0.a fun b6 o7 => ((0 ≤ (i_4 : Int) ∧ (i_4 : Int) < (p0.n : Nat)) ∧ 
     (∃ x8 : ByteArray, hc h5 ⟨b6, o7 + Int.toNat i_4 * 1, none⟩ = some (.string x8) ∧ 
     (NB p1.a fun b9 o10 => ((0 ≤ (i_4 : Int) ∧ (i_4 : Int) < (p1.n : Nat)) ∧ 
     (∃ x11 : ByteArray, hc h5 ⟨b9, o10 + Int.toNat i_4 * 1, none⟩ = some (.string x11) ∧ 
     (sB (!((ByteArray.toList x8) == (ByteArray.toList x11))) 
      (R (.bool false) h5) 
      ((∃ m12, m12 < m3 ∧ I1 (IntKind.wrap .i64 (i_4 + 1)) h5 m12)))))))))) 
     (R (.bool true) h5))))))
theorem vc13e (p0 : Sl) (p1 : Sl) (h : Heap) (R : Value → Heap → Prop) : W13 p0 p1 h R = fnW Tryd.prog 13 (.s .z (.s .z (.s (.s .z (.b (.l [(5, .one (.int .i64))] .z))) .z))) #[.slice p0.a p0.n p0.c, .slice p1.a p1.n p1.c] h R := by kernel_rfl
theorem vc13 (p0 : Sl) (p1 : Sl) (h : Heap) (R : Value → Heap → Prop) (H : W13 p0 p1 h R) : Fn Tryd.prog 13 #[.slice p0.a p0.n p0.c, .slice p1.a p1.n p1.c] h R := fnI (vc13e p0 p1 h R) H

/- farandole/chart.Width
   loop rrrrlrb: n_35:Int, x_36:Int
   loop rrrlrb: n_25:Int, x_26:Int -/
def W14 (p0_1 : ByteArray) (p0_2 : Sl) (p0_3 : Sl) (p0_4 : Int) (p0_5 : Int) (p0_6 : Int) (p0_7 : Sl) (p0_8 : Sl) (p1 : Sl) (h : Heap) (R : Value → Heap → Prop) : Prop :=
  (∀ h9 : Heap, h9 = h.push (.cells ⟨[.string p0_1, .slice p0_2.a p0_2.n p0_2.c, .slice p0_3.a p0_3.n p0_3.c, .int .i64 p0_4, .int .i64 p0_5, .int .i64 p0_6, .slice p0_7.a p0_7.n p0_7.c, .slice p0_8.a p0_8.n p0_8.c]⟩ 27) → 
  (∃ x10 : ByteArray, ∃ x11 : Sl, ∃ x12 : Sl, ∃ x13 : Int, ∃ x14 : Int, ∃ x15 : Int, ∃ x16 : Sl, ∃ x17 : Sl, atC h9 ⟨h.size, 0, none⟩ [.string x10, .slice x11.a x11.n x11.c, .slice x12.a x12.n x12.c, .int .i64 x13, .int .i64 x14, .int .i64 x15, .slice x16.a x16.n x16.c, .slice x17.a x17.n x17.c] ∧ 
  (Fn Tryd.prog 19 #[.agg ⟨[.string x10, .slice x11.a x11.n x11.c, .slice x12.a x12.n x12.c, .int .i64 x13, .int .i64 x14, .int .i64 x15, .slice x16.a x16.n x16.c, .slice x17.a x17.n x17.c]⟩, .slice p1.a p1.n p1.c] h9 
  (fun v18 h20 => ∃ x19 : Bool, v18 = .bool x19 ∧ 
  (sB (!x19) 
   (R (.int .i64 0) h20) 
   ((∃ x21 : Sl, hc h20 ⟨h.size, 1, none⟩ = some (.slice x21.a x21.n x21.c) ∧ 
   (∃ I22 : Int → Int → Heap → Nat → Prop, (∃ m23, I22 0 0 h20 m23) ∧ 
   (∀ (_ : Env) (n_25 : Int) (x_26 : Int) (h27 : Heap) (m24 : Nat), I22 n_25 x_26 h27 m24 → 
   (sB (decide (x_26 < (x21.n : Int))) 
     ((NB x21.a fun b28 o29 => ((0 ≤ (x_26 : Int) ∧ (x_26 : Int) < (x21.n : Nat)) ∧ 
     (∃ x30 : ByteArray, hc h27 ⟨b28, o29 + Int.toNat x_26 * 1, none⟩ = some (.string x30) ∧ 
     (∃ m31, m31 < m24 ∧ I22 (imax n_25 (ByteArray.size x30 : Int)) (IntKind.wrap .i64 (x_26 + 1)) h27 m31))))) 
     ((∃ I32 : Int → Int → Heap → Nat → Prop, (∃ m33, I32 n_25 0 h27 m33) ∧ 
     (∀ (_ : Env) (n_35 : Int) (x_36 : Int) (h37 : Heap) (m34 : Nat), I32 n_35 x_36 h37 m34 → 
     (sB (decide (x_36 < (p1.n : Int))) 
       ((NB p1.a fun b38 o39 => ((0 ≤ (x_36 : Int) ∧ (x_36 : Int) < (p1.n : Nat)) ∧ 
       (∃ x40 : Int, ∃ x41 : Int, ∃ x42 : Int, atC h37 ⟨b38, o39 + Int.toNat x_36 * 3, none⟩ [.int .i64 x40, .int .i64 x41, .int .i64 x42] ∧ 
       (∀ h43 : Heap, h43 = h37.push (.cells ⟨[.int .i64 0, .int .i64 0, .int .i64 0]⟩ 43) → 
       (okAt h43 ⟨h37.size, 0, none⟩ 3 ∧ ∀ h44 : Heap, h44 = hputs h43 ⟨h37.size, 0, none⟩ 0 [.int .i64 x40, .int .i64 x41, .int .i64 x42] → 
       (∃ x45 : Sl, hc h44 ⟨h.size, 2, none⟩ = some (.slice x45.a x45.n x45.c) ∧ 
       (∃ x46 : Int, hc h44 ⟨h37.size, 2, none⟩ = some (.int .i64 x46) ∧ 
       (NB x45.a fun b47 o48 => ((0 ≤ (x46 : Int) ∧ (x46 : Int) < (x45.n : Nat)) ∧ 
       (∃ x49 : ByteArray, hc h44 ⟨b47, o48 + Int.toNat x46 * 5, none⟩ = some (.string x49) ∧ 
       (∃ m50, m50 < m34 ∧ I32 (imax n_35 (ByteArray.size x49 : Int)) (IntKind.wrap .i64 (x_36 + 1)) h44 m50)))))))))))) 
       (R (.int .i64 (IntKind.wrap .i64 (n_35 + 4))) h37)))))))))))))))
theorem vc14e (p0_1 : ByteArray) (p0_2 : Sl) (p0_3 : Sl) (p0_4 : Int) (p0_5 : Int) (p0_6 : Int) (p0_7 : Sl) (p0_8 : Sl) (p1 : Sl) (h : Heap) (R : Value → Heap → Prop) : W14 p0_1 p0_2 p0_3 p0_4 p0_5 p0_6 p0_7 p0_8 p1 h R = fnW Tryd.prog 14 (.s .z (.s .z (.s .z (.s (.s .z (.b (.l [(5, .one (.int .i64)), (17, .one (.int .i64))] .z))) (.s (.s .z (.b (.l [(5, .one (.int .i64)), (28, .one (.int .i64))] .z))) .z))))) #[.agg ⟨[.string p0_1, .slice p0_2.a p0_2.n p0_2.c, .slice p0_3.a p0_3.n p0_3.c, .int .i64 p0_4, .int .i64 p0_5, .int .i64 p0_6, .slice p0_7.a p0_7.n p0_7.c, .slice p0_8.a p0_8.n p0_8.c]⟩, .slice p1.a p1.n p1.c] h R := by kernel_rfl
theorem vc14 (p0_1 : ByteArray) (p0_2 : Sl) (p0_3 : Sl) (p0_4 : Int) (p0_5 : Int) (p0_6 : Int) (p0_7 : Sl) (p0_8 : Sl) (p1 : Sl) (h : Heap) (R : Value → Heap → Prop) (H : W14 p0_1 p0_2 p0_3 p0_4 p0_5 p0_6 p0_7 p0_8 p1 h R) : Fn Tryd.prog 14 #[.agg ⟨[.string p0_1, .slice p0_2.a p0_2.n p0_2.c, .slice p0_3.a p0_3.n p0_3.c, .int .i64 p0_4, .int .i64 p0_5, .int .i64 p0_6, .slice p0_7.a p0_7.n p0_7.c, .slice p0_8.a p0_8.n p0_8.c]⟩, .slice p1.a p1.n p1.c] h R := fnI (vc14e p0_1 p0_2 p0_3 p0_4 p0_5 p0_6 p0_7 p0_8 p1 h R) H

/- farandole/farandoleref42.Width
   loop rrrrlrb: n_36:Int, i_37:Int
   loop rrrlrb: n_24:Int, i_25:Int -/
def W15 (p0_1 : ByteArray) (p0_2 : Sl) (p0_3 : Sl) (p0_4 : Int) (p0_5 : Int) (p0_6 : Int) (p0_7 : Sl) (p0_8 : Sl) (p1 : Sl) (h : Heap) (R : Value → Heap → Prop) : Prop :=
  (∀ h9 : Heap, h9 = h.push (.cells ⟨[.string p0_1, .slice p0_2.a p0_2.n p0_2.c, .slice p0_3.a p0_3.n p0_3.c, .int .i64 p0_4, .int .i64 p0_5, .int .i64 p0_6, .slice p0_7.a p0_7.n p0_7.c, .slice p0_8.a p0_8.n p0_8.c]⟩ 27) → 
  (∃ x10 : ByteArray, ∃ x11 : Sl, ∃ x12 : Sl, ∃ x13 : Int, ∃ x14 : Int, ∃ x15 : Int, ∃ x16 : Sl, ∃ x17 : Sl, atC h9 ⟨h.size, 0, none⟩ [.string x10, .slice x11.a x11.n x11.c, .slice x12.a x12.n x12.c, .int .i64 x13, .int .i64 x14, .int .i64 x15, .slice x16.a x16.n x16.c, .slice x17.a x17.n x17.c] ∧ 
  (Fn Tryd.prog 22 #[.agg ⟨[.string x10, .slice x11.a x11.n x11.c, .slice x12.a x12.n x12.c, .int .i64 x13, .int .i64 x14, .int .i64 x15, .slice x16.a x16.n x16.c, .slice x17.a x17.n x17.c]⟩, .slice p1.a p1.n p1.c] h9 
  (fun v18 h20 => ∃ x19 : Bool, v18 = .bool x19 ∧ 
  (sB (!x19) 
   (R (.int .i64 0) h20) 
   ((∃ I21 : Int → Int → Heap → Nat → Prop, (∃ m22, I21 0 0 h20 m22) ∧ 
   (∀ (_ : Env) (n_24 : Int) (i_25 : Int) (h26 : Heap) (m23 : Nat), I21 n_24 i_25 h26 m23 → 
   (∃ x27 : Sl, hc h26 ⟨h.size, 1, none⟩ = some (.slice x27.a x27.n x27.c) ∧ 
    (sB (decide (i_25 < (x27.n : Int))) 
     ((∃ x28 : Sl, hc h26 ⟨h.size, 1, none⟩ = some (.slice x28.a x28.n x28.c) ∧ 
     (NB x28.a fun b29 o30 => ((0 ≤ (i_25 : Int) ∧ (i_25 : Int) < (x28.n : Nat)) ∧ 
     (∃ x31 : ByteArray, hc h26 ⟨b29, o30 + Int.toNat i_25 * 1, none⟩ = some (.string x31) ∧ 
     (∃ m32, m32 < m23 ∧ I21 (imax n_24 (ByteArray.size x31 : Int)) (IntKind.wrap .i64 (i_25 + 1)) h26 m32)))))) 
     ((∃ I33 : Int → Int → Heap → Nat → Prop, (∃ m34, I33 n_24 0 h26 m34) ∧ 
     (∀ (_ : Env) (n_36 : Int) (i_37 : Int) (h38 : Heap) (m35 : Nat), I33 n_36 i_37 h38 m35 → 
     (sB (decide (i_37 < (p1.n : Int))) 
       ((∃ x39 : Sl, hc h38 ⟨h.size, 2, none⟩ = some (.slice x39.a x39.n x39.c) ∧ 
       (NB p1.a fun b40 o41 => ((0 ≤ (i_37 : Int) ∧ (i_37 : Int) < (p1.n : Nat)) ∧ 
       (∃ x42 : Int, hc h38 ⟨b40, o41 + Int.toNat i_37 * 3 + 2, none⟩ = some (.int .i64 x42) ∧ 
       (NB x39.a fun b43 o44 => ((0 ≤ (x42 : Int) ∧ (x42 : Int) < (x39.n : Nat)) ∧ 
       (∃ x45 : ByteArray, hc h38 ⟨b43, o44 + Int.toNat x42 * 5, none⟩ = some (.string x45) ∧ 
       (∃ m46, m46 < m35 ∧ I33 (imax n_36 (ByteArray.size x45 : Int)) (IntKind.wrap .i64 (i_37 + 1)) h38 m46))))))))) 
       (R (.int .i64 (IntKind.wrap .i64 (n_36 + 4))) h38)))))))))))))))
theorem vc15e (p0_1 : ByteArray) (p0_2 : Sl) (p0_3 : Sl) (p0_4 : Int) (p0_5 : Int) (p0_6 : Int) (p0_7 : Sl) (p0_8 : Sl) (p1 : Sl) (h : Heap) (R : Value → Heap → Prop) : W15 p0_1 p0_2 p0_3 p0_4 p0_5 p0_6 p0_7 p0_8 p1 h R = fnW Tryd.prog 15 (.s .z (.s .z (.s .z (.s (.s .z (.b (.l [(5, .one (.int .i64)), (6, .one (.int .i64))] .z))) (.s (.s .z (.b (.l [(5, .one (.int .i64)), (7, .one (.int .i64))] .z))) .z))))) #[.agg ⟨[.string p0_1, .slice p0_2.a p0_2.n p0_2.c, .slice p0_3.a p0_3.n p0_3.c, .int .i64 p0_4, .int .i64 p0_5, .int .i64 p0_6, .slice p0_7.a p0_7.n p0_7.c, .slice p0_8.a p0_8.n p0_8.c]⟩, .slice p1.a p1.n p1.c] h R := by kernel_rfl
theorem vc15 (p0_1 : ByteArray) (p0_2 : Sl) (p0_3 : Sl) (p0_4 : Int) (p0_5 : Int) (p0_6 : Int) (p0_7 : Sl) (p0_8 : Sl) (p1 : Sl) (h : Heap) (R : Value → Heap → Prop) (H : W15 p0_1 p0_2 p0_3 p0_4 p0_5 p0_6 p0_7 p0_8 p1 h R) : Fn Tryd.prog 15 #[.agg ⟨[.string p0_1, .slice p0_2.a p0_2.n p0_2.c, .slice p0_3.a p0_3.n p0_3.c, .int .i64 p0_4, .int .i64 p0_5, .int .i64 p0_6, .slice p0_7.a p0_7.n p0_7.c, .slice p0_8.a p0_8.n p0_8.c]⟩, .slice p1.a p1.n p1.c] h R := fnI (vc15e p0_1 p0_2 p0_3 p0_4 p0_5 p0_6 p0_7 p0_8 p1 h R) H

/- farandole/farandoleref19.SameWord
   loop rrlrb: i_4:Int -/
def W18 (p0 : Sl) (p1 : Sl) (h : Heap) (R : Value → Heap → Prop) : Prop :=
  (sB ((p0.n : Int) != (p1.n : Int)) 
   (R (.bool false) h) 
   ((∃ I1 : Int → Heap → Nat → Prop, (∃ m2, I1 0 h m2) ∧ 
   (∀ (_ : Env) (i_4 : Int) (h5 : Heap) (m3 : Nat), I1 i_4 h5 m3 → 
   (sB (decide (i_4 < (p0.n : Int))) 
     ((NB p0.a fun b6 o7 => ((0 ≤ (i_4 : Int) ∧ (i_4 : Int) < (p0.n : Nat)) ∧ 
     (∃ x8 : Int, ∃ x9 : Int, ∃ x10 : Int, atC h5 ⟨b6, o7 + Int.toNat i_4 * 3, none⟩ [.int .i64 x8, .int .i64 x9, .int .i64 x10] ∧ 
     (NB p1.a fun b11 o12 => ((0 ≤ (i_4 : Int) ∧ (i_4 : Int) < (p1.n : Nat)) ∧ 
     (∃ x13 : Int, ∃ x14 : Int, ∃ x15 : Int, atC h5 ⟨b11, o12 + Int.toNat i_4 * 3, none⟩ [.int .i64 x13, .int .i64 x14, .int .i64 x15] ∧ 
     (sB (!((x8 == x13) && ((x9 == x14) && ((x10 == x15) && true)))) 
      (R (.bool false) h5) 
      ((∃ m16, m16 < m3 ∧ I1 (IntKind.wrap .i64 (i_4 + 1)) h5 m16)))))))))) 
     (R (.bool true) h5))))))
theorem vc18e (p0 : Sl) (p1 : Sl) (h : Heap) (R : Value → Heap → Prop) : W18 p0 p1 h R = fnW Tryd.prog 18 (.s .z (.s .z (.s (.s .z (.b (.l [(5, .one (.int .i64))] .z))) .z))) #[.slice p0.a p0.n p0.c, .slice p1.a p1.n p1.c] h R := by kernel_rfl
theorem vc18 (p0 : Sl) (p1 : Sl) (h : Heap) (R : Value → Heap → Prop) (H : W18 p0 p1 h R) : Fn Tryd.prog 18 #[.slice p0.a p0.n p0.c, .slice p1.a p1.n p1.c] h R := fnI (vc18e p0 p1 h R) H

/- farandole/chart.all -/
def W19 (p0_1 : ByteArray) (p0_2 : Sl) (p0_3 : Sl) (p0_4 : Int) (p0_5 : Int) (p0_6 : Int) (p0_7 : Sl) (p0_8 : Sl) (p1 : Sl) (h : Heap) (R : Value → Heap → Prop) : Prop :=
  (∀ h9 : Heap, h9 = h.push (.cells ⟨[.string p0_1, .slice p0_2.a p0_2.n p0_2.c, .slice p0_3.a p0_3.n p0_3.c, .int .i64 p0_4, .int .i64 p0_5, .int .i64 p0_6, .slice p0_7.a p0_7.n p0_7.c, .slice p0_8.a p0_8.n p0_8.c]⟩ 27) → 
  (∃ x10 : ByteArray, ∃ x11 : Sl, ∃ x12 : Sl, ∃ x13 : Int, ∃ x14 : Int, ∃ x15 : Int, ∃ x16 : Sl, ∃ x17 : Sl, atC h9 ⟨h.size, 0, none⟩ [.string x10, .slice x11.a x11.n x11.c, .slice x12.a x12.n x12.c, .int .i64 x13, .int .i64 x14, .int .i64 x15, .slice x16.a x16.n x16.c, .slice x17.a x17.n x17.c] ∧ 
  (Fn Tryd.prog 24 #[.agg ⟨[.string x10, .slice x11.a x11.n x11.c, .slice x12.a x12.n x12.c, .int .i64 x13, .int .i64 x14, .int .i64 x15, .slice x16.a x16.n x16.c, .slice x17.a x17.n x17.c]⟩] h9 
  (fun v18 h20 => ∃ x19 : Bool, v18 = .bool x19 ∧ 
  (sB x19 
   ((Fn Tryd.prog 31 #[.slice p1.a p1.n p1.c, .func (.func 32) #[] #[.pointer (some ⟨h.size, 0, none⟩)]] h20 
   (fun v21 h23 => ∃ x22 : Bool, v21 = .bool x22 ∧ 
   R (.bool (!x22)) h23))) 
   (R (.bool false) h20))))))
theorem vc19e (p0_1 : ByteArray) (p0_2 : Sl) (p0_3 : Sl) (p0_4 : Int) (p0_5 : Int) (p0_6 : Int) (p0_7 : Sl) (p0_8 : Sl) (p1 : Sl) (h : Heap) (R : Value → Heap → Prop) : W19 p0_1 p0_2 p0_3 p0_4 p0_5 p0_6 p0_7 p0_8 p1 h R = fnW Tryd.prog 19 .z #[.agg ⟨[.string p0_1, .slice p0_2.a p0_2.n p0_2.c, .slice p0_3.a p0_3.n p0_3.c, .int .i64 p0_4, .int .i64 p0_5, .int .i64 p0_6, .slice p0_7.a p0_7.n p0_7.c, .slice p0_8.a p0_8.n p0_8.c]⟩, .slice p1.a p1.n p1.c] h R := by kernel_rfl
theorem vc19 (p0_1 : ByteArray) (p0_2 : Sl) (p0_3 : Sl) (p0_4 : Int) (p0_5 : Int) (p0_6 : Int) (p0_7 : Sl) (p0_8 : Sl) (p1 : Sl) (h : Heap) (R : Value → Heap → Prop) (H : W19 p0_1 p0_2 p0_3 p0_4 p0_5 p0_6 p0_7 p0_8 p1 h R) : Fn Tryd.prog 19 #[.agg ⟨[.string p0_1, .slice p0_2.a p0_2.n p0_2.c, .slice p0_3.a p0_3.n p0_3.c, .int .i64 p0_4, .int .i64 p0_5, .int .i64 p0_6, .slice p0_7.a p0_7.n p0_7.c, .slice p0_8.a p0_8.n p0_8.c]⟩, .slice p1.a p1.n p1.c] h R := fnI (vc19e p0_1 p0_2 p0_3 p0_4 p0_5 p0_6 p0_7 p0_8 p1 h R) H

/- farandole/chart.heading
   loop rrlrb: x_5:Int -/
def W20 (p0 : Sl) (p1 : Int) (h : Heap) (R : Value → Heap → Prop) : Prop :=
  (∀ h1 : Heap, h1 = h.push (.cells ⟨[.pointer none, .slice none 0 0]⟩ 67) → 
  (∃ I2 : Int → Heap → Nat → Prop, (∃ m3, I2 0 h1 m3) ∧ 
  (∀ (_ : Env) (x_5 : Int) (h6 : Heap) (m4 : Nat), I2 x_5 h6 m4 → 
  (sB (decide (x_5 < (p0.n : Int))) 
    ((NB p0.a fun b7 o8 => ((0 ≤ (x_5 : Int) ∧ (x_5 : Int) < (p0.n : Nat)) ∧ 
    (∃ x9 : ByteArray, hc h6 ⟨b7, o8 + Int.toNat x_5 * 1, none⟩ = some (.string x9) ∧ 
    (Fn Tryd.prog 36 #[.pointer (some ⟨h.size, 0, none⟩)] h6 
    (fun v10 h12 => ∃ x11 : Int, v10 = .int .i64 x11 ∧ 
    (Fn Tryd.prog 35 #[.string ⟨#[32]⟩, .int .i64 (IntKind.wrap .i64 ((IntKind.wrap .i64 (x_5 * p1)) - x11))] h12 
    (fun v13 h15 => ∃ x14 : ByteArray, v13 = .string x14 ∧ 
    (Fn Tryd.prog 34 #[.pointer (some ⟨h.size, 0, none⟩), .string x14] h15 
    (fun v16 h19 => ∃ x17 : Int, ∃ x18 : Value, v16 = .tuple ⟨[.int .i64 x17, x18]⟩ ∧ 
    (Fn Tryd.prog 34 #[.pointer (some ⟨h.size, 0, none⟩), .string x9] h19 
    (fun v20 h23 => ∃ x21 : Int, ∃ x22 : Value, v20 = .tuple ⟨[.int .i64 x21, x22]⟩ ∧ 
    (∃ m24, m24 < m4 ∧ I2 (IntKind.wrap .i64 (x_5 + 1)) h23 m24))))))))))))) 
    ((Fn Tryd.prog 37 #[.pointer (some ⟨h.size, 0, none⟩)] h6 
    (fun v25 h27 => ∃ x26 : ByteArray, v25 = .string x26 ∧ 
    R (.string x26) h27)))))))
theorem vc20e (p0 : Sl) (p1 : Int) (h : Heap) (R : Value → Heap → Prop) : W20 p0 p1 h R = fnW Tryd.prog 20 (.s .z (.s .z (.s (.s .z (.b (.l [(10, .one (.int .i64))] .z))) .z))) #[.slice p0.a p0.n p0.c, .int .i64 p1] h R := by kernel_rfl
theorem vc20 (p0 : Sl) (p1 : Int) (h : Heap) (R : Value → Heap → Prop) (H : W20 p0 p1 h R) : Fn Tryd.prog 20 #[.slice p0.a p0.n p0.c, .int .i64 p1] h R := fnI (vc20e p0 p1 h R) H

/- farandole/chart.line
   loop rrrrlrb: i_36:Int
   loop rrlrb: x_23:Int -/
def W21 (p0_1 : ByteArray) (p0_2 : Sl) (p0_3 : Sl) (p0_4 : Int) (p0_5 : Int) (p0_6 : Int) (p0_7 : Sl) (p0_8 : Sl) (p1 : Int) (p2_9 : Int) (p2_10 : Int) (p2_11 : Int) (h : Heap) (R : Value → Heap → Prop) : Prop :=
  (∀ h12 : Heap, h12 = h.push (.cells ⟨[.string p0_1, .slice p0_2.a p0_2.n p0_2.c, .slice p0_3.a p0_3.n p0_3.c, .int .i64 p0_4, .int .i64 p0_5, .int .i64 p0_6, .slice p0_7.a p0_7.n p0_7.c, .slice p0_8.a p0_8.n p0_8.c]⟩ 27) → 
  (∀ h13 : Heap, h13 = h12.push (.cells ⟨[.int .i64 p2_9, .int .i64 p2_10, .int .i64 p2_11]⟩ 43) → 
  (∀ h14 : Heap, h14 = h13.push (.cells ⟨[.int .u8 32]⟩ 5) → 
  (∃ x15 : Sl, hc h14 ⟨h.size, 1, none⟩ = some (.slice x15.a x15.n x15.c) ∧ 
  (Fn Tryd.prog 38 #[.slice (some ⟨h13.size, 0, none⟩) 1 1, .int .i64 (IntKind.wrap .i64 ((IntKind.wrap .i64 ((IntKind.wrap .i64 ((x15.n : Int) - 1)) * p1)) + 1))] h14 
  (fun v16 h18 => ∃ x17 : Sl, v16 = .slice x17.a x17.n x17.c ∧ 
  (∃ x19 : Sl, hc h18 ⟨h.size, 1, none⟩ = some (.slice x19.a x19.n x19.c) ∧ 
  (∃ I20 : Int → Heap → Nat → Prop, (∃ m21, I20 0 h18 m21) ∧ 
  (∀ (_ : Env) (x_23 : Int) (h24 : Heap) (m22 : Nat), I20 x_23 h24 m22 → 
  (sB (decide (x_23 < (x19.n : Int))) 
    ((NB x17.a fun b25 o26 => ((0 ≤ ((IntKind.wrap .i64 (x_23 * p1)) : Int) ∧ ((IntKind.wrap .i64 (x_23 * p1)) : Int) < (x17.n : Nat)) ∧ 
    (okAt h24 ⟨b25, o26 + Int.toNat (IntKind.wrap .i64 (x_23 * p1)) * 1, none⟩ 1 ∧ ∀ h27 : Heap, h27 = hputs h24 ⟨b25, o26 + Int.toNat (IntKind.wrap .i64 (x_23 * p1)) * 1, none⟩ 0 [.int .u8 124] → 
    (∃ m28, m28 < m22 ∧ I20 (IntKind.wrap .i64 (x_23 + 1)) h27 m28))))) 
    ((∃ x29 : Int, hc h24 ⟨h12.size, 0, none⟩ = some (.int .i64 x29) ∧ 
    (∃ x30 : Int, hc h24 ⟨h12.size, 1, none⟩ = some (.int .i64 x30) ∧ 
    (∃ x31 : Int, hc h24 ⟨h12.size, 0, none⟩ = some (.int .i64 x31) ∧ 
    (∃ x32 : Int, hc h24 ⟨h12.size, 1, none⟩ = some (.int .i64 x32) ∧ 
    (∃ I33 : Int → Heap → Nat → Prop, (∃ m34, I33 (IntKind.wrap .i64 ((IntKind.wrap .i64 ((imin x29 x30) * p1)) + 1)) h24 m34) ∧ 
    (∀ (_ : Env) (i_36 : Int) (h37 : Heap) (m35 : Nat), I33 i_36 h37 m35 → 
    (sB (decide (i_36 < (IntKind.wrap .i64 ((imax x31 x32) * p1)))) 
      ((NB x17.a fun b38 o39 => ((0 ≤ (i_36 : Int) ∧ (i_36 : Int) < (x17.n : Nat)) ∧ 
      (okAt h37 ⟨b38, o39 + Int.toNat i_36 * 1, none⟩ 1 ∧ ∀ h40 : Heap, h40 = hputs h37 ⟨b38, o39 + Int.toNat i_36 * 1, none⟩ 0 [.int .u8 45] → 
      (∃ m41, m41 < m35 ∧ I33 (IntKind.wrap .i64 (i_36 + 1)) h40 m41))))) 
      ((((0 : Int) ≤ ((IntKind.wrap .i64 ((IntKind.wrap .i64 ((imin x29 x30) * p1)) + 2)) : Int) ∧ ((IntKind.wrap .i64 ((IntKind.wrap .i64 ((imin x29 x30) * p1)) + 2)) : Int) ≤ ((x17.n : Nat) : Int) ∧ ((x17.n : Nat) : Int) ≤ (x17.c : Nat)) ∧ 
      (∃ x42 : Sl, hc h37 ⟨h.size, 2, none⟩ = some (.slice x42.a x42.n x42.c) ∧ 
      (∃ x43 : Int, hc h37 ⟨h12.size, 2, none⟩ = some (.int .i64 x43) ∧ 
      (NB x42.a fun b44 o45 => ((0 ≤ (x43 : Int) ∧ (x43 : Int) < (x42.n : Nat)) ∧ 
      (∃ x46 : ByteArray, hc h37 ⟨b44, o45 + Int.toNat x43 * 5, none⟩ = some (.string x46) ∧ 
      (Cpy Tryd.prog 65 9 (.slice (subA x17.a (Int.toNat (IntKind.wrap .i64 ((IntKind.wrap .i64 ((imin x29 x30) * p1)) + 2))) x17.c 1) (Int.toNat (x17.n : Nat) - Int.toNat (IntKind.wrap .i64 ((IntKind.wrap .i64 ((imin x29 x30) * p1)) + 2))) (x17.c - Int.toNat (IntKind.wrap .i64 ((IntKind.wrap .i64 ((imin x29 x30) * p1)) + 2)))) (.string x46) h37 fun n47 h48 => 
      (∃ x49 : Int, hc h48 ⟨h12.size, 1, none⟩ = some (.int .i64 x49) ∧ 
      (∃ x50 : Int, hc h48 ⟨h12.size, 0, none⟩ = some (.int .i64 x50) ∧ 
      (sB (decide (x49 > x50)) 
       ((NB x17.a fun b51 o52 => ((0 ≤ ((IntKind.wrap .i64 ((IntKind.wrap .i64 ((imax x31 x32) * p1)) - 1)) : Int) ∧ ((IntKind.wrap .i64 ((IntKind.wrap .i64 ((imax x31 x32) * p1)) - 1)) : Int) < (x17.n : Nat)) ∧ 
       (okAt h48 ⟨b51, o52 + Int.toNat (IntKind.wrap .i64 ((IntKind.wrap .i64 ((imax x31 x32) * p1)) - 1)) * 1, none⟩ 1 ∧ ∀ h53 : Heap, h53 = hputs h48 ⟨b51, o52 + Int.toNat (IntKind.wrap .i64 ((IntKind.wrap .i64 ((imax x31 x32) * p1)) - 1)) * 1, none⟩ 0 [.int .u8 62] → 
       (RunW Tryd.prog (Go.convert 65 9 (.slice x17.a x17.n x17.c)) h53 
       (fun v54 h56 => ∃ x55 : ByteArray, v54 = .string x55 ∧ 
       R (.string x55) h56)))))) 
       ((NB x17.a fun b57 o58 => ((0 ≤ ((IntKind.wrap .i64 ((IntKind.wrap .i64 ((imin x29 x30) * p1)) + 1)) : Int) ∧ ((IntKind.wrap .i64 ((IntKind.wrap .i64 ((imin x29 x30) * p1)) + 1)) : Int) < (x17.n : Nat)) ∧ 
       (okAt h48 ⟨b57, o58 + Int.toNat (IntKind.wrap .i64 ((IntKind.wrap .i64 ((imin x29 x30) * p1)) + 1)) * 1, none⟩ 1 ∧ ∀ h59 : Heap, h59 = hputs h48 ⟨b57, o58 + Int.toNat (IntKind.wrap .i64 ((IntKind.wrap .i64 ((imin x29 x30) * p1)) + 1)) * 1, none⟩ 0 [.int .u8 60] → 
       (RunW Tryd.prog (Go.convert 65 9 (.slice x17.a x17.n x17.c)) h59 
       (fun v60 h62 => ∃ x61 : ByteArray, v60 = .string x61 ∧ 
       R (.string x61) h62)))))))))))))))))))))))))))))))))))
theorem vc21e (p0_1 : ByteArray) (p0_2 : Sl) (p0_3 : Sl) (p0_4 : Int) (p0_5 : Int) (p0_6 : Int) (p0_7 : Sl) (p0_8 : Sl) (p1 : Int) (p2_9 : Int) (p2_10 : Int) (p2_11 : Int) (h : Heap) (R : Value → Heap → Prop) : W21 p0_1 p0_2 p0_3 p0_4 p0_5 p0_6 p0_7 p0_8 p1 p2_9 p2_10 p2_11 h R = fnW Tryd.prog 21 (.s .z (.s .z (.s (.s .z (.b (.l [(24, .one (.int .i64))] .z))) (.s .z (.s (.s .z (.b (.l [(11, .one (.int .i64))] .z))) .z))))) #[.agg ⟨[.string p0_1, .slice p0_2.a p0_2.n p0_2.c, .slice p0_3.a p0_3.n p0_3.c, .int .i64 p0_4, .int .i64 p0_5, .int .i64 p0_6, .slice p0_7.a p0_7.n p0_7.c, .slice p0_8.a p0_8.n p0_8.c]⟩, .int .i64 p1, .agg ⟨[.int .i64 p2_9, .int .i64 p2_10, .int .i64 p2_11]⟩] h R := by kernel_rfl
theorem vc21 (p0_1 : ByteArray) (p0_2 : Sl) (p0_3 : Sl) (p0_4 : Int) (p0_5 : Int) (p0_6 : Int) (p0_7 : Sl) (p0_8 : Sl) (p1 : Int) (p2_9 : Int) (p2_10 : Int) (p2_11 : Int) (h : Heap) (R : Value → Heap → Prop) (H : W21 p0_1 p0_2 p0_3 p0_4 p0_5 p0_6 p0_7 p0_8 p1 p2_9 p2_10 p2_11 h R) : Fn Tryd.prog 21 #[.agg ⟨[.string p0_1, .slice p0_2.a p0_2.n p0_2.c, .slice p0_3.a p0_3.n p0_3.c, .int .i64 p0_4, .int .i64 p0_5, .int .i64 p0_6, .slice p0_7.a p0_7.n p0_7.c, .slice p0_8.a p0_8.n p0_8.c]⟩, .int .i64 p1, .agg ⟨[.int .i64 p2_9, .int .i64 p2_10, .int .i64 p2_11]⟩] h R := fnI (vc21e p0_1 p0_2 p0_3 p0_4 p0_5 p0_6 p0_7 p0_8 p1 p2_9 p2_10 p2_11 h R) H

/- farandole/farandoleref42.can
   loop rlrb: i_13:Int -/
def W22 (p0_1 : ByteArray) (p0_2 : Sl) (p0_3 : Sl) (p0_4 : Int) (p0_5 : Int) (p0_6 : Int) (p0_7 : Sl) (p0_8 : Sl) (p1 : Sl) (h : Heap) (R : Value → Heap → Prop) : Prop :=
  (∀ h9 : Heap, h9 = h.push (.cells ⟨[.string p0_1, .slice p0_2.a p0_2.n p0_2.c, .slice p0_3.a p0_3.n p0_3.c, .int .i64 p0_4, .int .i64 p0_5, .int .i64 p0_6, .slice p0_7.a p0_7.n p0_7.c, .slice p0_8.a p0_8.n p0_8.c]⟩ 27) → 
  (∃ I10 : Int → Heap → Nat → Prop, (∃ m11, I10 0 h9 m11) ∧ 
  (∀ (_ : Env) (i_13 : Int) (h14 : Heap) (m12 : Nat), I10 i_13 h14 m12 → 
  (sB (decide (i_13 < (p1.n : Int))) 
    ((NB p1.a fun b15 o16 => ((0 ≤ (i_13 : Int) ∧ (i_13 : Int) < (p1.n : Nat)) ∧ 
    (∃ x17 : Int, ∃ x18 : Int, ∃ x19 : Int, atC h14 ⟨b15, o16 + Int.toNat i_13 * 3, none⟩ [.int .i64 x17, .int .i64 x18, .int .i64 x19] ∧ 
    (∀ h20 : Heap, h20 = h14.push (.cells ⟨[.int .i64 0, .int .i64 0, .int .i64 0]⟩ 43) → 
    (okAt h20 ⟨h14.size, 0, none⟩ 3 ∧ ∀ h21 : Heap, h21 = hputs h20 ⟨h14.size, 0, none⟩ 0 [.int .i64 x17, .int .i64 x18, .int .i64 x19] → 
    (∃ x22 : Int, hc h21 ⟨h14.size, 0, none⟩ = some (.int .i64 x22) ∧ 
    (sB (decide (x22 < 0)) 
     (R (.bool false) h21) 
     ((∃ x23 : Int, hc h21 ⟨h14.size, 0, none⟩ = some (.int .i64 x23) ∧ 
     (∃ x24 : Sl, hc h21 ⟨h.size, 1, none⟩ = some (.slice x24.a x24.n x24.c) ∧ 
     (sB (decide (x23 ≥ (x24.n : Int))) 
      (R (.bool false) h21) 
      ((∃ x25 : Int, hc h21 ⟨h14.size, 1, none⟩ = some (.int .i64 x25) ∧ 
      (sB (decide (x25 < 0)) 
       (R (.bool false) h21) 
       ((∃ x26 : Int, hc h21 ⟨h14.size, 1, none⟩ = some (.int .i64 x26) ∧ 
       (∃ x27 : Sl, hc h21 ⟨h.size, 1, none⟩ = some (.slice x27.a x27.n x27.c) ∧ 
       (sB (decide (x26 ≥ (x27.n : Int))) 
        (R (.bool false) h21) 
        ((∃ x28 : Int, hc h21 ⟨h14.size, 0, none⟩ = some (.int .i64 x28) ∧ 
        (∃ x29 : Int, hc h21 ⟨h14.size, 1, none⟩ = some (.int .i64 x29) ∧ 
        (sB (x28 == x29) 
         (R (.bool false) h21) 
         ((∃ x30 : Int, hc h21 ⟨h14.size, 2, none⟩ = some (.int .i64 x30) ∧ 
         (sB (decide (x30 < 0)) 
          (R (.bool false) h21) 
          ((∃ x31 : Int, hc h21 ⟨h14.size, 2, none⟩ = some (.int .i64 x31) ∧ 
          (∃ x32 : Sl, hc h21 ⟨h.size, 2, none⟩ = some (.slice x32.a x32.n x32.c) ∧ 
          (sB (decide (x31 ≥ (x32.n : Int))) 
           (R (.bool false) h21) 
           ((∃ m33, m33 < m12 ∧ I10 (IntKind.wrap .i64 (i_13 + 1)) h21 m33)))))))))))))))))))))))))))))))) 
    ((∃ x34 : ByteArray, ∃ x35 : Sl, ∃ x36 : Sl, ∃ x37 : Int, ∃ x38 : Int, ∃ x39 : Int, ∃ x40 : Sl, ∃ x41 : Sl, atC h14 ⟨h.size, 0, none⟩ [.string x34, .slice x35.a x35.n x35.c, .slice x36.a x36.n x36.c, .int .i64 x37, .int .i64 x38, .int .i64 x39, .slice x40.a x40.n x40.c, .slice x41.a x41.n x41.c] ∧ 
    (Fn Tryd.prog 29 #[.agg ⟨[.string x34, .slice x35.a x35.n x35.c, .slice x36.a x36.n x36.c, .int .i64 x37, .int .i64 x38, .int .i64 x39, .slice x40.a x40.n x40.c, .slice x41.a x41.n x41.c]⟩] h14 
    (fun v42 h44 => ∃ x43 : Bool, v42 = .bool x43 ∧ 
    R (.bool x43) h44))))))))
theorem vc22e (p0_1 : ByteArray) (p0_2 : Sl) (p0_3 : Sl) (p0_4 : Int) (p0_5 : Int) (p0_6 : Int) (p0_7 : Sl) (p0_8 : Sl) (p1 : Sl) (h : Heap) (R : Value → Heap → Prop) : W22 p0_1 p0_2 p0_3 p0_4 p0_5 p0_6 p0_7 p0_8 p1 h R = fnW Tryd.prog 22 (.s .z (.s (.s .z (.b (.l [(5, .one (.int .i64))] .z))) .z)) #[.agg ⟨[.string p0_1, .slice p0_2.a p0_2.n p0_2.c, .slice p0_3.a p0_3.n p0_3.c, .int .i64 p0_4, .int .i64 p0_5, .int .i64 p0_6, .slice p0_7.a p0_7.n p0_7.c, .slice p0_8.a p0_8.n p0_8.c]⟩, .slice p1.a p1.n p1.c] h R := by kernel_rfl
theorem vc22 (p0_1 : ByteArray) (p0_2 : Sl) (p0_3 : Sl) (p0_4 : Int) (p0_5 : Int) (p0_6 : Int) (p0_7 : Sl) (p0_8 : Sl) (p1 : Sl) (h : Heap) (R : Value → Heap → Prop) (H : W22 p0_1 p0_2 p0_3 p0_4 p0_5 p0_6 p0_7 p0_8 p1 h R) : Fn Tryd.prog 22 #[.agg ⟨[.string p0_1, .slice p0_2.a p0_2.n p0_2.c, .slice p0_3.a p0_3.n p0_3.c, .int .i64 p0_4, .int .i64 p0_5, .int .i64 p0_6, .slice p0_7.a p0_7.n p0_7.c, .slice p0_8.a p0_8.n p0_8.c]⟩, .slice p1.a p1.n p1.c] h R := fnI (vc22e p0_1 p0_2 p0_3 p0_4 p0_5 p0_6 p0_7 p0_8 p1 h R) H

/- farandole/chart.drawable -/
def W24 (p0_1 : ByteArray) (p0_2 : Sl) (p0_3 : Sl) (p0_4 : Int) (p0_5 : Int) (p0_6 : Int) (p0_7 : Sl) (p0_8 : Sl) (h : Heap) (R : Value → Heap → Prop) : Prop :=
  (∀ h9 : Heap, h9 = h.push (.cells ⟨[.string p0_1, .slice p0_2.a p0_2.n p0_2.c, .slice p0_3.a p0_3.n p0_3.c, .int .i64 p0_4, .int .i64 p0_5, .int .i64 p0_6, .slice p0_7.a p0_7.n p0_7.c, .slice p0_8.a p0_8.n p0_8.c]⟩ 27) → 
  (∃ x10 : ByteArray, ∃ x11 : Sl, ∃ x12 : Sl, ∃ x13 : Int, ∃ x14 : Int, ∃ x15 : Int, ∃ x16 : Sl, ∃ x17 : Sl, atC h9 ⟨h.size, 0, none⟩ [.string x10, .slice x11.a x11.n x11.c, .slice x12.a x12.n x12.c, .int .i64 x13, .int .i64 x14, .int .i64 x15, .slice x16.a x16.n x16.c, .slice x17.a x17.n x17.c] ∧ 
  (Fn Tryd.prog 39 #[.agg ⟨[.string x10, .slice x11.a x11.n x11.c, .slice x12.a x12.n x12.c, .int .i64 x13, .int .i64 x14, .int .i64 x15, .slice x16.a x16.n x16.c, .slice x17.a x17.n x17.c]⟩] h9 
  (fun v18 h20 => ∃ x19 : Sl, v18 = .slice x19.a x19.n x19.c ∧ 
  (∃ x21 : Sl, hc h20 ⟨h.size, 1, none⟩ = some (.slice x21.a x21.n x21.c) ∧ 
  (sB (decide ((x21.n : Int) < 1)) 
   (R (.bool false) h20) 
   ((∃ x22 : Sl, hc h20 ⟨h.size, 1, none⟩ = some (.slice x22.a x22.n x22.c) ∧ 
   (sB (decide ((x22.n : Int) > 6)) 
    (R (.bool false) h20) 
    ((sB (decide ((x19.n : Int) > 40)) 
     (R (.bool false) h20) 
     ((∃ x23 : Sl, hc h20 ⟨h.size, 1, none⟩ = some (.slice x23.a x23.n x23.c) ∧ 
     (Fn Tryd.prog 44 #[.slice x23.a x23.n x23.c] h20 
     (fun v24 h26 => ∃ x25 : Bool, v24 = .bool x25 ∧ 
     (sB (!x25) 
      (R (.bool false) h26) 
      ((Fn Tryd.prog 44 #[.slice x19.a x19.n x19.c] h26 
      (fun v27 h29 => ∃ x28 : Bool, v27 = .bool x28 ∧ 
      (sB (!x28) 
       (R (.bool false) h29) 
       ((Fn Tryd.prog 45 #[.slice x19.a x19.n x19.c, .func (.func 40) #[] #[]] h29 
       (fun v30 h32 => ∃ x31 : Bool, v30 = .bool x31 ∧ 
       (sB x31 
        (R (.bool false) h32) 
        ((∃ x33 : Sl, hc h32 ⟨h.size, 1, none⟩ = some (.slice x33.a x33.n x33.c) ∧ 
        (Fn Tryd.prog 45 #[.slice x33.a x33.n x33.c, .func (.func 46) #[] #[]] h32 
        (fun v34 h36 => ∃ x35 : Bool, v34 = .bool x35 ∧ 
        R (.bool (!x35)) h36))))))))))))))))))))))))))))
theorem vc24e (p0_1 : ByteArray) (p0_2 : Sl) (p0_3 : Sl) (p0_4 : Int) (p0_5 : Int) (p0_6 : Int) (p0_7 : Sl) (p0_8 : Sl) (h : Heap) (R : Value → Heap → Prop) : W24 p0_1 p0_2 p0_3 p0_4 p0_5 p0_6 p0_7 p0_8 h R = fnW Tryd.prog 24 .z #[.agg ⟨[.string p0_1, .slice p0_2.a p0_2.n p0_2.c, .slice p0_3.a p0_3.n p0_3.c, .int .i64 p0_4, .int .i64 p0_5, .int .i64 p0_6, .slice p0_7.a p0_7.n p0_7.c, .slice p0_8.a p0_8.n p0_8.c]⟩] h R := by kernel_rfl
theorem vc24 (p0_1 : ByteArray) (p0_2 : Sl) (p0_3 : Sl) (p0_4 : Int) (p0_5 : Int) (p0_6 : Int) (p0_7 : Sl) (p0_8 : Sl) (h : Heap) (R : Value → Heap → Prop) (H : W24 p0_1 p0_2 p0_3 p0_4 p0_5 p0_6 p0_7 p0_8 h R) : Fn Tryd.prog 24 #[.agg ⟨[.string p0_1, .slice p0_2.a p0_2.n p0_2.c, .slice p0_3.a p0_3.n p0_3.c, .int .i64 p0_4, .int .i64 p0_5, .int .i64 p0_6, .slice p0_7.a p0_7.n p0_7.c, .slice p0_8.a p0_8.n p0_8.c]⟩] h R := fnI (vc24e p0_1 p0_2 p0_3 p0_4 p0_5 p0_6 p0_7 p0_8 h R) H

/- farandole/chart.columns -/
def W25 (p0_1 : ByteArray) (p0_2 : Sl) (p0_3 : Sl) (p0_4 : Int) (p0_5 : Int) (p0_6 : Int) (p0_7 : Sl) (p0_8 : Sl) (p1 : ByteArray) (h : Heap) (R : Value → Heap → Prop) : Prop :=
  (∀ h9 : Heap, h9 = h.push (.cells ⟨[.string p0_1, .slice p0_2.a p0_2.n p0_2.c, .slice p0_3.a p0_3.n p0_3.c, .int .i64 p0_4, .int .i64 p0_5, .int .i64 p0_6, .slice p0_7.a p0_7.n p0_7.c, .slice p0_8.a p0_8.n p0_8.c]⟩ 27) → 
  (∃ x10 : Sl, hc h9 ⟨h.size, 1, none⟩ = some (.slice x10.a x10.n x10.c) ∧ 
  (sB (decide ((x10.n : Int) < 2)) 
   (R (.int .i64 0) h9) 
   ((∃ x11 : Sl, hc h9 ⟨h.size, 1, none⟩ = some (.slice x11.a x11.n x11.c) ∧ 
   (NB x11.a fun b12 o13 => ((0 ≤ (0 : Int) ∧ (0 : Int) < (x11.n : Nat)) ∧ 
   (∃ x14 : ByteArray, hc h9 ⟨b12, o13 + Int.toNat 0 * 1, none⟩ = some (.string x14) ∧ 
   (Fn Tryd.prog 48 #[.string p1, .string x14] h9 
   (fun v15 h18 => ∃ x16 : ByteArray, ∃ x17 : Bool, v15 = .tuple ⟨[.string x16, .bool x17]⟩ ∧ 
   (Fn Tryd.prog 49 #[.string x16, .string ⟨#[32]⟩] h18 
   (fun v19 h21 => ∃ x20 : ByteArray, v19 = .string x20 ∧ 
   (sB (!x17) 
    (R (.int .i64 0) h21) 
    ((sB ((IntKind.wrap .i64 ((ByteArray.size x16 : Int) - (ByteArray.size x20 : Int))) == 0) 
     (R (.int .i64 0) h21) 
     ((∃ x22 : Sl, hc h21 ⟨h.size, 1, none⟩ = some (.slice x22.a x22.n x22.c) ∧ 
     (NB x22.a fun b23 o24 => ((0 ≤ (0 : Int) ∧ (0 : Int) < (x22.n : Nat)) ∧ 
     (∃ x25 : ByteArray, hc h21 ⟨b23, o24 + Int.toNat 0 * 1, none⟩ = some (.string x25) ∧ 
     R (.int .i64 (IntKind.wrap .i64 ((ByteArray.size x25 : Int) + (IntKind.wrap .i64 ((ByteArray.size x16 : Int) - (ByteArray.size x20 : Int)))))) h21))))))))))))))))))))
theorem vc25e (p0_1 : ByteArray) (p0_2 : Sl) (p0_3 : Sl) (p0_4 : Int) (p0_5 : Int) (p0_6 : Int) (p0_7 : Sl) (p0_8 : Sl) (p1 : ByteArray) (h : Heap) (R : Value → Heap → Prop) : W25 p0_1 p0_2 p0_3 p0_4 p0_5 p0_6 p0_7 p0_8 p1 h R = fnW Tryd.prog 25 .z #[.agg ⟨[.string p0_1, .slice p0_2.a p0_2.n p0_2.c, .slice p0_3.a p0_3.n p0_3.c, .int .i64 p0_4, .int .i64 p0_5, .int .i64 p0_6, .slice p0_7.a p0_7.n p0_7.c, .slice p0_8.a p0_8.n p0_8.c]⟩, .string p1] h R := by kernel_rfl
theorem vc25 (p0_1 : ByteArray) (p0_2 : Sl) (p0_3 : Sl) (p0_4 : Int) (p0_5 : Int) (p0_6 : Int) (p0_7 : Sl) (p0_8 : Sl) (p1 : ByteArray) (h : Heap) (R : Value → Heap → Prop) (H : W25 p0_1 p0_2 p0_3 p0_4 p0_5 p0_6 p0_7 p0_8 p1 h R) : Fn Tryd.prog 25 #[.agg ⟨[.string p0_1, .slice p0_2.a p0_2.n p0_2.c, .slice p0_3.a p0_3.n p0_3.c, .int .i64 p0_4, .int .i64 p0_5, .int .i64 p0_6, .slice p0_7.a p0_7.n p0_7.c, .slice p0_8.a p0_8.n p0_8.c]⟩, .string p1] h R := fnI (vc25e p0_1 p0_2 p0_3 p0_4 p0_5 p0_6 p0_7 p0_8 p1 h R) H

/- farandole/chart.fits -/
def W26 (p0_1 : ByteArray) (p0_2 : Sl) (p0_3 : Sl) (p0_4 : Int) (p0_5 : Int) (p0_6 : Int) (p0_7 : Sl) (p0_8 : Sl) (p1 : ByteArray) (p2 : Int) (h : Heap) (R : Value → Heap → Prop) : Prop :=
  (∀ h9 : Heap, h9 = h.push (.cells ⟨[.string p0_1, .slice p0_2.a p0_2.n p0_2.c, .slice p0_3.a p0_3.n p0_3.c, .int .i64 p0_4, .int .i64 p0_5, .int .i64 p0_6, .slice p0_7.a p0_7.n p0_7.c, .slice p0_8.a p0_8.n p0_8.c]⟩ 27) → 
  (Fn Tryd.prog 50 #[.string p1] h9 
  (fun v10 h12 => ∃ x11 : ByteArray, v10 = .string x11 ∧ 
  R (.bool (decide ((ByteArray.size x11 : Int) ≤ (IntKind.wrap .i64 (p2 - 4))))) h12)))
theorem vc26e (p0_1 : ByteArray) (p0_2 : Sl) (p0_3 : Sl) (p0_4 : Int) (p0_5 : Int) (p0_6 : Int) (p0_7 : Sl) (p0_8 : Sl) (p1 : ByteArray) (p2 : Int) (h : Heap) (R : Value → Heap → Prop) : W26 p0_1 p0_2 p0_3 p0_4 p0_5 p0_6 p0_7 p0_8 p1 p2 h R = fnW Tryd.prog 26 .z #[.agg ⟨[.string p0_1, .slice p0_2.a p0_2.n p0_2.c, .slice p0_3.a p0_3.n p0_3.c, .int .i64 p0_4, .int .i64 p0_5, .int .i64 p0_6, .slice p0_7.a p0_7.n p0_7.c, .slice p0_8.a p0_8.n p0_8.c]⟩, .string p1, .int .i64 p2] h R := by kernel_rfl
theorem vc26 (p0_1 : ByteArray) (p0_2 : Sl) (p0_3 : Sl) (p0_4 : Int) (p0_5 : Int) (p0_6 : Int) (p0_7 : Sl) (p0_8 : Sl) (p1 : ByteArray) (p2 : Int) (h : Heap) (R : Value → Heap → Prop) (H : W26 p0_1 p0_2 p0_3 p0_4 p0_5 p0_6 p0_7 p0_8 p1 p2 h R) : Fn Tryd.prog 26 #[.agg ⟨[.string p0_1, .slice p0_2.a p0_2.n p0_2.c, .slice p0_3.a p0_3.n p0_3.c, .int .i64 p0_4, .int .i64 p0_5, .int .i64 p0_6, .slice p0_7.a p0_7.n p0_7.c, .slice p0_8.a p0_8.n p0_8.c]⟩, .string p1, .int .i64 p2] h R := fnI (vc26e p0_1 p0_2 p0_3 p0_4 p0_5 p0_6 p0_7 p0_8 p1 p2 h R) H

/- farandole/chart.find
   loop rrrlrborrlbrrb: x_57:Int
   loop rrrlrb: x_50:Int -/
def W27 (p0_1 : ByteArray) (p0_2 : Sl) (p0_3 : Sl) (p0_4 : Int) (p0_5 : Int) (p0_6 : Int) (p0_7 : Sl) (p0_8 : Sl) (p1 : Int) (p2 : ByteArray) (h : Heap) (R : Value → Heap → Prop) : Prop :=
  (∀ h9 : Heap, h9 = h.push (.cells ⟨[.string p0_1, .slice p0_2.a p0_2.n p0_2.c, .slice p0_3.a p0_3.n p0_3.c, .int .i64 p0_4, .int .i64 p0_5, .int .i64 p0_6, .slice p0_7.a p0_7.n p0_7.c, .slice p0_8.a p0_8.n p0_8.c]⟩ 27) → 
  (∀ h10 : Heap, h10 = h9.push (.cells ⟨[.int .i64 0, .int .i64 0, .int .i64 0]⟩ 43) → 
  (∃ x11 : ByteArray, ∃ x12 : Sl, ∃ x13 : Sl, ∃ x14 : Int, ∃ x15 : Int, ∃ x16 : Int, ∃ x17 : Sl, ∃ x18 : Sl, atC h10 ⟨h.size, 0, none⟩ [.string x11, .slice x12.a x12.n x12.c, .slice x13.a x13.n x13.c, .int .i64 x14, .int .i64 x15, .int .i64 x16, .slice x17.a x17.n x17.c, .slice x18.a x18.n x18.c] ∧ 
  (Fn Tryd.prog 39 #[.agg ⟨[.string x11, .slice x12.a x12.n x12.c, .slice x13.a x13.n x13.c, .int .i64 x14, .int .i64 x15, .int .i64 x16, .slice x17.a x17.n x17.c, .slice x18.a x18.n x18.c]⟩] h10 
  (fun v19 h21 => ∃ x20 : Sl, v19 = .slice x20.a x20.n x20.c ∧ 
  (Fn Tryd.prog 50 #[.string p2] h21 
  (fun v22 h24 => ∃ x23 : ByteArray, v22 = .string x23 ∧ 
  (Fn Tryd.prog 51 #[.slice x20.a x20.n x20.c, .string x23] h24 
  (fun v25 h27 => ∃ x26 : Int, v25 = .int .i64 x26 ∧ 
  (∀ h28 : Heap, h28 = h27.push (.cells ⟨[.int .i64 0, .int .i64 0, .int .i64 0]⟩ 43) → 
  (okAt h28 ⟨h27.size, 0, none⟩ 3 ∧ ∀ h29 : Heap, h29 = hputs h28 ⟨h27.size, 0, none⟩ 0 [.int .i64 0, .int .i64 0, .int .i64 x26] → 
  (∃ x30 : Int, hc h29 ⟨h27.size, 2, none⟩ = some (.int .i64 x30) ∧ 
  (sB (decide (x30 < 0)) 
   ((∃ x31 : Int, ∃ x32 : Int, ∃ x33 : Int, atC h29 ⟨h27.size, 0, none⟩ [.int .i64 x31, .int .i64 x32, .int .i64 x33] ∧ 
   (okAt h29 ⟨h9.size, 0, none⟩ 3 ∧ ∀ h34 : Heap, h34 = hputs h29 ⟨h9.size, 0, none⟩ 0 [.int .i64 x31, .int .i64 x32, .int .i64 x33] → 
   (∃ x35 : Int, ∃ x36 : Int, ∃ x37 : Int, atC h34 ⟨h9.size, 0, none⟩ [.int .i64 x35, .int .i64 x36, .int .i64 x37] ∧ 
   R (.tuple ⟨[.agg ⟨[.int .i64 x35, .int .i64 x36, .int .i64 x37]⟩, .bool false]⟩) h34)))) 
   ((∃ x38 : Sl, hc h29 ⟨h.size, 1, none⟩ = some (.slice x38.a x38.n x38.c) ∧ 
   (sB ((ByteArray.size p2 : Int) != (IntKind.wrap .i64 ((IntKind.wrap .i64 ((IntKind.wrap .i64 ((x38.n : Int) - 1)) * p1)) + 1))) 
    ((∃ x39 : Int, ∃ x40 : Int, ∃ x41 : Int, atC h29 ⟨h27.size, 0, none⟩ [.int .i64 x39, .int .i64 x40, .int .i64 x41] ∧ 
    (okAt h29 ⟨h9.size, 0, none⟩ 3 ∧ ∀ h42 : Heap, h42 = hputs h29 ⟨h9.size, 0, none⟩ 0 [.int .i64 x39, .int .i64 x40, .int .i64 x41] → 
    (∃ x43 : Int, ∃ x44 : Int, ∃ x45 : Int, atC h42 ⟨h9.size, 0, none⟩ [.int .i64 x43, .int .i64 x44, .int .i64 x45] ∧ 
    R (.tuple ⟨[.agg ⟨[.int .i64 x43, .int .i64 x44, .int .i64 x45]⟩, .bool false]⟩) h42)))) 
    ((∃ x46 : Sl, hc h29 ⟨h.size, 1, none⟩ = some (.slice x46.a x46.n x46.c) ∧ 
    (∃ I47 : Int → Heap → Nat → Prop, (∃ m48, I47 0 h29 m48) ∧ 
    (∀ (_ : Env) (x_50 : Int) (h51 : Heap) (m49 : Nat), I47 x_50 h51 m49 → 
    (sB (decide (x_50 < (x46.n : Int))) 
      ((okAt h51 ⟨h27.size, 0, none⟩ 1 ∧ ∀ h52 : Heap, h52 = hputs h51 ⟨h27.size, 0, none⟩ 0 [.int .i64 x_50] → 
      (∃ x53 : Sl, hc h52 ⟨h.size, 1, none⟩ = some (.slice x53.a x53.n x53.c) ∧ 
      (∃ I54 : Int → Heap → Nat → Prop, (∃ m55, I54 0 h52 m55) ∧ 
      (∀ (_ : Env) (x_57 : Int) (h58 : Heap) (m56 : Nat), I54 x_57 h58 m56 → 
      (sB (decide (x_57 < (x53.n : Int))) 
        ((okAt h58 ⟨h27.size, 1, none⟩ 1 ∧ ∀ h59 : Heap, h59 = hputs h58 ⟨h27.size, 1, none⟩ 0 [.int .i64 x_57] → 
        (∃ x60 : Int, hc h59 ⟨h27.size, 0, none⟩ = some (.int .i64 x60) ∧ 
        (∃ x61 : Int, hc h59 ⟨h27.size, 1, none⟩ = some (.int .i64 x61) ∧ 
        (sB (x60 != x61) 
         ((∃ x62 : ByteArray, ∃ x63 : Sl, ∃ x64 : Sl, ∃ x65 : Int, ∃ x66 : Int, ∃ x67 : Int, ∃ x68 : Sl, ∃ x69 : Sl, atC h59 ⟨h.size, 0, none⟩ [.string x62, .slice x63.a x63.n x63.c, .slice x64.a x64.n x64.c, .int .i64 x65, .int .i64 x66, .int .i64 x67, .slice x68.a x68.n x68.c, .slice x69.a x69.n x69.c] ∧ 
         (∃ x70 : Int, ∃ x71 : Int, ∃ x72 : Int, atC h59 ⟨h27.size, 0, none⟩ [.int .i64 x70, .int .i64 x71, .int .i64 x72] ∧ 
         (Fn Tryd.prog 21 #[.agg ⟨[.string x62, .slice x63.a x63.n x63.c, .slice x64.a x64.n x64.c, .int .i64 x65, .int .i64 x66, .int .i64 x67, .slice x68.a x68.n x68.c, .slice x69.a x69.n x69.c]⟩, .int .i64 p1, .agg ⟨[.int .i64 x70, .int .i64 x71, .int .i64 x72]⟩] h59 
         (fun v73 h75 => ∃ x74 : ByteArray, v73 = .string x74 ∧ 
         (sB ((ByteArray.toList x74) == (ByteArray.toList p2)) 
          ((∃ x76 : Int, ∃ x77 : Int, ∃ x78 : Int, atC h75 ⟨h27.size, 0, none⟩ [.int .i64 x76, .int .i64 x77, .int .i64 x78] ∧ 
          (okAt h75 ⟨h9.size, 0, none⟩ 3 ∧ ∀ h79 : Heap, h79 = hputs h75 ⟨h9.size, 0, none⟩ 0 [.int .i64 x76, .int .i64 x77, .int .i64 x78] → 
          (∃ x80 : Int, ∃ x81 : Int, ∃ x82 : Int, atC h79 ⟨h9.size, 0, none⟩ [.int .i64 x80, .int .i64 x81, .int .i64 x82] ∧ 
          R (.tuple ⟨[.agg ⟨[.int .i64 x80, .int .i64 x81, .int .i64 x82]⟩, .bool true]⟩) h79)))) 
          ((∃ m83, m83 < m56 ∧ I54 (IntKind.wrap .i64 (x_57 + 1)) h75 m83)))))))) 
         ((∃ m84, m84 < m56 ∧ I54 (IntKind.wrap .i64 (x_57 + 1)) h59 m84))))))) 
        ((∃ m85, m85 < m49 ∧ I47 (IntKind.wrap .i64 (x_50 + 1)) h58 m85)))))))) 
      ((∃ x86 : Int, ∃ x87 : Int, ∃ x88 : Int, atC h51 ⟨h27.size, 0, none⟩ [.int .i64 x86, .int .i64 x87, .int .i64 x88] ∧ 
      (okAt h51 ⟨h9.size, 0, none⟩ 3 ∧ ∀ h89 : Heap, h89 = hputs h51 ⟨h9.size, 0, none⟩ 0 [.int .i64 x86, .int .i64 x87, .int .i64 x88] → 
      (∃ x90 : Int, ∃ x91 : Int, ∃ x92 : Int, atC h89 ⟨h9.size, 0, none⟩ [.int .i64 x90, .int .i64 x91, .int .i64 x92] ∧ 
      R (.tuple ⟨[.agg ⟨[.int .i64 x90, .int .i64 x91, .int .i64 x92]⟩, .bool false]⟩) h89)))))))))))))))))))))))))
theorem vc27e (p0_1 : ByteArray) (p0_2 : Sl) (p0_3 : Sl) (p0_4 : Int) (p0_5 : Int) (p0_6 : Int) (p0_7 : Sl) (p0_8 : Sl) (p1 : Int) (p2 : ByteArray) (h : Heap) (R : Value → Heap → Prop) : W27 p0_1 p0_2 p0_3 p0_4 p0_5 p0_6 p0_7 p0_8 p1 p2 h R = fnW Tryd.prog 27 (.s .z (.s .z (.s .z (.s (.s .z (.b (.l [(34, .one (.int .i64))] (.s .z (.s .z (.s (.b (.s .z (.s .z (.b (.l [(41, .one (.int .i64))] .z))))) .z)))))) .z)))) #[.agg ⟨[.string p0_1, .slice p0_2.a p0_2.n p0_2.c, .slice p0_3.a p0_3.n p0_3.c, .int .i64 p0_4, .int .i64 p0_5, .int .i64 p0_6, .slice p0_7.a p0_7.n p0_7.c, .slice p0_8.a p0_8.n p0_8.c]⟩, .int .i64 p1, .string p2] h R := by kernel_rfl
theorem vc27 (p0_1 : ByteArray) (p0_2 : Sl) (p0_3 : Sl) (p0_4 : Int) (p0_5 : Int) (p0_6 : Int) (p0_7 : Sl) (p0_8 : Sl) (p1 : Int) (p2 : ByteArray) (h : Heap) (R : Value → Heap → Prop) (H : W27 p0_1 p0_2 p0_3 p0_4 p0_5 p0_6 p0_7 p0_8 p1 p2 h R) : Fn Tryd.prog 27 #[.agg ⟨[.string p0_1, .slice p0_2.a p0_2.n p0_2.c, .slice p0_3.a p0_3.n p0_3.c, .int .i64 p0_4, .int .i64 p0_5, .int .i64 p0_6, .slice p0_7.a p0_7.n p0_7.c, .slice p0_8.a p0_8.n p0_8.c]⟩, .int .i64 p1, .string p2] h R := fnI (vc27e p0_1 p0_2 p0_3 p0_4 p0_5 p0_6 p0_7 p0_8 p1 p2 h R) H

/- slices.Equal[[]string,string]
   loop rrlrb: x_4:Int -/
def W28 (p0 : Sl) (p1 : Sl) (h : Heap) (R : Value → Heap → Prop) : Prop :=
  (sB ((p0.n : Int) != (p1.n : Int)) 
   (R (.bool false) h) 
   ((∃ I1 : Int → Heap → Nat → Prop, (∃ m2, I1 0 h m2) ∧ 
   (∀ (_ : Env) (x_4 : Int) (h5 : Heap) (m3 : Nat), I1 x_4 h5 m3 → 
   (sB (decide (x_4 < (p0.n : Int))) 
     ((NB p0.a fun b6 o7 => ((0 ≤ (x_4 : Int) ∧ (x_4 : Int) < (p0.n : Nat)) ∧ 
     (∃ x8 : ByteArray, hc h5 ⟨b6, o7 + Int.toNat x_4 * 1, none⟩ = some (.string x8) ∧ 
     (NB p1.a fun b9 o10 => ((0 ≤ (x_4 : Int) ∧ (x_4 : Int) < (p1.n : Nat)) ∧ 
     (∃ x11 : ByteArray, hc h5 ⟨b9, o10 + Int.toNat x_4 * 1, none⟩ = some (.string x11) ∧ 
     (sB (!((ByteArray.toList x8) == (ByteArray.toList x11))) 
      (R (.bool false) h5) 
      ((∃ m12, m12 < m3 ∧ I1 (IntKind.wrap .i64 (x_4 + 1)) h5 m12)))))))))) 
     (R (.bool true) h5))))))
theorem vc28e (p0 : Sl) (p1 : Sl) (h : Heap) (R : Value → Heap → Prop) : W28 p0 p1 h R = fnW Tryd.prog 28 (.s .z (.s .z (.s (.s .z (.b (.l [(13, .one (.int .i64))] .z))) .z))) #[.slice p0.a p0.n p0.c, .slice p1.a p1.n p1.c] h R := by kernel_rfl
theorem vc28 (p0 : Sl) (p1 : Sl) (h : Heap) (R : Value → Heap → Prop) (H : W28 p0 p1 h R) : Fn Tryd.prog 28 #[.slice p0.a p0.n p0.c, .slice p1.a p1.n p1.c] h R := fnI (vc28e p0 p1 h R) H

/- farandole/farandoleref42.names
   loop rrlrborlbrrb: k_29:Int
   loop rrrlrborlbrrrrb: k_63:Int
   loop rrrlrborlbrrlrb: k_54:Int
   loop rrrlrb: i_44:Int
   loop rrlrb: i_16:Int -/
def W29 (p0_1 : ByteArray) (p0_2 : Sl) (p0_3 : Sl) (p0_4 : Int) (p0_5 : Int) (p0_6 : Int) (p0_7 : Sl) (p0_8 : Sl) (h : Heap) (R : Value → Heap → Prop) : Prop :=
  (∀ h9 : Heap, h9 = h.push (.cells ⟨[.string p0_1, .slice p0_2.a p0_2.n p0_2.c, .slice p0_3.a p0_3.n p0_3.c, .int .i64 p0_4, .int .i64 p0_5, .int .i64 p0_6, .slice p0_7.a p0_7.n p0_7.c, .slice p0_8.a p0_8.n p0_8.c]⟩ 27) → 
  (∃ x10 : Sl, hc h9 ⟨h.size, 1, none⟩ = some (.slice x10.a x10.n x10.c) ∧ 
  (sB (decide ((x10.n : Int) < 1)) 
   (R (.bool false) h9) 
   ((∃ x11 : Sl, hc h9 ⟨h.size, 1, none⟩ = some (.slice x11.a x11.n x11.c) ∧ 
   (sB (decide ((x11.n : Int) > 6)) 
    (R (.bool false) h9) 
    ((∃ x12 : Sl, hc h9 ⟨h.size, 2, none⟩ = some (.slice x12.a x12.n x12.c) ∧ 
    (sB (decide ((x12.n : Int) > 40)) 
     (R (.bool false) h9) 
     ((∃ I13 : Int → Heap → Nat → Prop, (∃ m14, I13 0 h9 m14) ∧ 
     (∀ (_ : Env) (i_16 : Int) (h17 : Heap) (m15 : Nat), I13 i_16 h17 m15 → 
     (∃ x18 : Sl, hc h17 ⟨h.size, 1, none⟩ = some (.slice x18.a x18.n x18.c) ∧ 
      (sB (decide (i_16 < (x18.n : Int))) 
       ((∃ x19 : Sl, hc h17 ⟨h.size, 1, none⟩ = some (.slice x19.a x19.n x19.c) ∧ 
       (NB x19.a fun b20 o21 => ((0 ≤ (i_16 : Int) ∧ (i_16 : Int) < (x19.n : Nat)) ∧ 
       (∃ x22 : ByteArray, hc h17 ⟨b20, o21 + Int.toNat i_16 * 1, none⟩ = some (.string x22) ∧ 
       (Fn Tryd.prog 52 #[.string x22] h17 
       (fun v23 h25 => ∃ x24 : Bool, v23 = .bool x24 ∧ 
       (sB (!x24) 
        (R (.bool false) h25) 
        ((∃ I26 : Int → Heap → Nat → Prop, (∃ m27, I26 0 h25 m27) ∧ 
        (∀ (_ : Env) (k_29 : Int) (h30 : Heap) (m28 : Nat), I26 k_29 h30 m28 → 
        (sB (decide (k_29 < i_16)) 
          ((∃ x31 : Sl, hc h30 ⟨h.size, 1, none⟩ = some (.slice x31.a x31.n x31.c) ∧ 
          (NB x31.a fun b32 o33 => ((0 ≤ (k_29 : Int) ∧ (k_29 : Int) < (x31.n : Nat)) ∧ 
          (∃ x34 : ByteArray, hc h30 ⟨b32, o33 + Int.toNat k_29 * 1, none⟩ = some (.string x34) ∧ 
          (∃ x35 : Sl, hc h30 ⟨h.size, 1, none⟩ = some (.slice x35.a x35.n x35.c) ∧ 
          (NB x35.a fun b36 o37 => ((0 ≤ (i_16 : Int) ∧ (i_16 : Int) < (x35.n : Nat)) ∧ 
          (∃ x38 : ByteArray, hc h30 ⟨b36, o37 + Int.toNat i_16 * 1, none⟩ = some (.string x38) ∧ 
          (sB ((ByteArray.toList x34) == (ByteArray.toList x38)) 
           (R (.bool false) h30) 
           ((∃ m39, m39 < m28 ∧ I26 (IntKind.wrap .i64 (k_29 + 1)) h30 m39)))))))))))) 
          ((∃ m40, m40 < m15 ∧ I13 (IntKind.wrap .i64 (i_16 + 1)) h30 m40)))))))))))))) 
       ((∃ I41 : Int → Heap → Nat → Prop, (∃ m42, I41 0 h17 m42) ∧ 
       (∀ (_ : Env) (i_44 : Int) (h45 : Heap) (m43 : Nat), I41 i_44 h45 m43 → 
       (∃ x46 : Sl, hc h45 ⟨h.size, 2, none⟩ = some (.slice x46.a x46.n x46.c) ∧ 
        (sB (decide (i_44 < (x46.n : Int))) 
         ((∃ x47 : Sl, hc h45 ⟨h.size, 2, none⟩ = some (.slice x47.a x47.n x47.c) ∧ 
         (NB x47.a fun b48 o49 => ((0 ≤ (i_44 : Int) ∧ (i_44 : Int) < (x47.n : Nat)) ∧ 
         (∃ x50 : ByteArray, hc h45 ⟨b48, o49 + Int.toNat i_44 * 5, none⟩ = some (.string x50) ∧ 
         (sB ((ByteArray.toList x50) == (ByteArray.toList ⟨#[]⟩)) 
          (R (.bool false) h45) 
          ((sB (decide ((ByteArray.size x50 : Int) > 50)) 
           (R (.bool false) h45) 
           ((∃ I51 : Int → Heap → Nat → Prop, (∃ m52, I51 0 h45 m52) ∧ 
           (∀ (_ : Env) (k_54 : Int) (h55 : Heap) (m53 : Nat), I51 k_54 h55 m53 → 
           (sB (decide (k_54 < (ByteArray.size x50 : Int))) 
             (((0 ≤ (k_54 : Int) ∧ (k_54 : Int) < (ByteArray.size x50 : Nat)) ∧ 
             (Fn Tryd.prog 53 #[.int .u8 (byteAt x50 (Int.toNat k_54) : Int)] h55 
             (fun v56 h58 => ∃ x57 : Bool, v56 = .bool x57 ∧ 
             (sB (!x57) 
              (R (.bool false) h58) 
              ((∃ m59, m59 < m53 ∧ I51 (IntKind.wrap .i64 (k_54 + 1)) h58 m59))))))) 
             ((∃ I60 : Int → Heap → Nat → Prop, (∃ m61, I60 0 h55 m61) ∧ 
             (∀ (_ : Env) (k_63 : Int) (h64 : Heap) (m62 : Nat), I60 k_63 h64 m62 → 
             (sB (decide (k_63 < i_44)) 
               ((∃ x65 : Sl, hc h64 ⟨h.size, 2, none⟩ = some (.slice x65.a x65.n x65.c) ∧ 
               (NB x65.a fun b66 o67 => ((0 ≤ (k_63 : Int) ∧ (k_63 : Int) < (x65.n : Nat)) ∧ 
               (∃ x68 : ByteArray, hc h64 ⟨b66, o67 + Int.toNat k_63 * 5, none⟩ = some (.string x68) ∧ 
               (sB ((ByteArray.toList x68) == (ByteArray.toList x50)) 
                (R (.bool false) h64) 
                ((∃ m69, m69 < m62 ∧ I60 (IntKind.wrap .i64 (k_63 + 1)) h64 m69)))))))) 
               ((∃ m70, m70 < m43 ∧ I41 (IntKind.wrap .i64 (i_44 + 1)) h64 m70)))))))))))))))))) 
         (R (.bool true) h45))))))))))))))))))))
theorem vc29e (p0_1 : ByteArray) (p0_2 : Sl) (p0_3 : Sl) (p0_4 : Int) (p0_5 : Int) (p0_6 : Int) (p0_7 : Sl) (p0_8 : Sl) (h : Heap) (R : Value → Heap → Prop) : W29 p0_1 p0_2 p0_3 p0_4 p0_5 p0_6 p0_7 p0_8 h R = fnW Tryd.prog 29 (.s .z (.s .z (.s (.s .z (.b (.l [(3, .one (.int .i64))] (.s .z (.s (.b (.s .z (.s .z (.b (.l [(4, .one (.int .i64))] .z))))) .z))))) (.s (.s .z (.b (.l [(5, .one (.int .i64))] (.s .z (.s (.b (.s .z (.s .z (.s (.s .z (.b (.l [(7, .one (.int .i64))] .z))) (.s .z (.b (.l [(8, .one (.int .i64))] .z))))))) .z))))) .z)))) #[.agg ⟨[.string p0_1, .slice p0_2.a p0_2.n p0_2.c, .slice p0_3.a p0_3.n p0_3.c, .int .i64 p0_4, .int .i64 p0_5, .int .i64 p0_6, .slice p0_7.a p0_7.n p0_7.c, .slice p0_8.a p0_8.n p0_8.c]⟩] h R := by kernel_rfl
theorem vc29 (p0_1 : ByteArray) (p0_2 : Sl) (p0_3 : Sl) (p0_4 : Int) (p0_5 : Int) (p0_6 : Int) (p0_7 : Sl) (p0_8 : Sl) (h : Heap) (R : Value → Heap → Prop) (H : W29 p0_1 p0_2 p0_3 p0_4 p0_5 p0_6 p0_7 p0_8 h R) : Fn Tryd.prog 29 #[.agg ⟨[.string p0_1, .slice p0_2.a p0_2.n p0_2.c, .slice p0_3.a p0_3.n p0_3.c, .int .i64 p0_4, .int .i64 p0_5, .int .i64 p0_6, .slice p0_7.a p0_7.n p0_7.c, .slice p0_8.a p0_8.n p0_8.c]⟩] h R := fnI (vc29e p0_1 p0_2 p0_3 p0_4 p0_5 p0_6 p0_7 p0_8 h R) H

/- farandole/farandoleref42.find
   loop rlrborlbrborlbrb: label_26:Int
   loop rlrborlbrb: to_20:Int
   loop rlrb: from_14:Int -/
def W30 (p0_1 : ByteArray) (p0_2 : Sl) (p0_3 : Sl) (p0_4 : Int) (p0_5 : Int) (p0_6 : Int) (p0_7 : Sl) (p0_8 : Sl) (p1 : ByteArray) (p2 : Int) (h : Heap) (R : Value → Heap → Prop) : Prop :=
  (∀ h9 : Heap, h9 = h.push (.cells ⟨[.string p0_1, .slice p0_2.a p0_2.n p0_2.c, .slice p0_3.a p0_3.n p0_3.c, .int .i64 p0_4, .int .i64 p0_5, .int .i64 p0_6, .slice p0_7.a p0_7.n p0_7.c, .slice p0_8.a p0_8.n p0_8.c]⟩ 27) → 
  (∀ h10 : Heap, h10 = h9.push (.cells ⟨[.int .i64 0, .int .i64 0, .int .i64 0]⟩ 43) → 
  (∃ I11 : Int → Heap → Nat → Prop, (∃ m12, I11 0 h10 m12) ∧ 
  (∀ (_ : Env) (from_14 : Int) (h15 : Heap) (m13 : Nat), I11 from_14 h15 m13 → 
  (∃ x16 : Sl, hc h15 ⟨h.size, 1, none⟩ = some (.slice x16.a x16.n x16.c) ∧ 
   (sB (decide (from_14 < (x16.n : Int))) 
    ((∃ I17 : Int → Heap → Nat → Prop, (∃ m18, I17 0 h15 m18) ∧ 
    (∀ (_ : Env) (to_20 : Int) (h21 : Heap) (m19 : Nat), I17 to_20 h21 m19 → 
    (∃ x22 : Sl, hc h21 ⟨h.size, 1, none⟩ = some (.slice x22.a x22.n x22.c) ∧ 
     (sB (decide (to_20 < (x22.n : Int))) 
      ((∃ I23 : Int → Heap → Nat → Prop, (∃ m24, I23 0 h21 m24) ∧ 
      (∀ (_ : Env) (label_26 : Int) (h27 : Heap) (m25 : Nat), I23 label_26 h27 m25 → 
      (∃ x28 : Sl, hc h27 ⟨h.size, 2, none⟩ = some (.slice x28.a x28.n x28.c) ∧ 
       (sB (decide (label_26 < (x28.n : Int))) 
        ((sB (from_14 != to_20) 
         ((∀ h29 : Heap, h29 = h27.push (.cells ⟨[.int .i64 0, .int .i64 0, .int .i64 0]⟩ 43) → 
         (okAt h29 ⟨h27.size, 0, none⟩ 3 ∧ ∀ h30 : Heap, h30 = hputs h29 ⟨h27.size, 0, none⟩ 0 [.int .i64 from_14, .int .i64 to_20, .int .i64 label_26] → 
         (∃ x31 : Sl, hc h30 ⟨h.size, 2, none⟩ = some (.slice x31.a x31.n x31.c) ∧ 
         (NB x31.a fun b32 o33 => ((0 ≤ (label_26 : Int) ∧ (label_26 : Int) < (x31.n : Nat)) ∧ 
         (∃ x34 : ByteArray, hc h30 ⟨b32, o33 + Int.toNat label_26 * 5, none⟩ = some (.string x34) ∧ 
         (sB (decide ((IntKind.wrap .i64 ((ByteArray.size x34 : Int) + 4)) ≤ p2)) 
          ((∃ x35 : ByteArray, ∃ x36 : Sl, ∃ x37 : Sl, ∃ x38 : Int, ∃ x39 : Int, ∃ x40 : Int, ∃ x41 : Sl, ∃ x42 : Sl, atC h30 ⟨h.size, 0, none⟩ [.string x35, .slice x36.a x36.n x36.c, .slice x37.a x37.n x37.c, .int .i64 x38, .int .i64 x39, .int .i64 x40, .slice x41.a x41.n x41.c, .slice x42.a x42.n x42.c] ∧ 
          (∃ x43 : Int, ∃ x44 : Int, ∃ x45 : Int, atC h30 ⟨h27.size, 0, none⟩ [.int .i64 x43, .int .i64 x44, .int .i64 x45] ∧ 
          (Fn Tryd.prog 23 #[.agg ⟨[.string x35, .slice x36.a x36.n x36.c, .slice x37.a x37.n x37.c, .int .i64 x38, .int .i64 x39, .int .i64 x40, .slice x41.a x41.n x41.c, .slice x42.a x42.n x42.c]⟩, .agg ⟨[.int .i64 x43, .int .i64 x44, .int .i64 x45]⟩, .int .i64 p2] h30 
          (fun v46 h48 => ∃ x47 : ByteArray, v46 = .string x47 ∧ 
          (sB ((ByteArray.toList x47) == (ByteArray.toList p1)) 
           ((∃ x49 : Int, ∃ x50 : Int, ∃ x51 : Int, atC h48 ⟨h27.size, 0, none⟩ [.int .i64 x49, .int .i64 x50, .int .i64 x51] ∧ 
           (okAt h48 ⟨h9.size, 0, none⟩ 3 ∧ ∀ h52 : Heap, h52 = hputs h48 ⟨h9.size, 0, none⟩ 0 [.int .i64 x49, .int .i64 x50, .int .i64 x51] → 
           (∃ x53 : Int, ∃ x54 : Int, ∃ x55 : Int, atC h52 ⟨h9.size, 0, none⟩ [.int .i64 x53, .int .i64 x54, .int .i64 x55] ∧ 
           R (.tuple ⟨[.agg ⟨[.int .i64 x53, .int .i64 x54, .int .i64 x55]⟩, .bool true]⟩) h52)))) 
           ((∃ m56, m56 < m25 ∧ I23 (IntKind.wrap .i64 (label_26 + 1)) h48 m56)))))))) 
          ((∃ m57, m57 < m25 ∧ I23 (IntKind.wrap .i64 (label_26 + 1)) h30 m57)))))))))) 
         ((∃ m58, m58 < m19 ∧ I17 (IntKind.wrap .i64 (to_20 + 1)) h27 m58)))) 
        ((∃ m59, m59 < m19 ∧ I17 (IntKind.wrap .i64 (to_20 + 1)) h27 m59))))))) 
      ((∃ m60, m60 < m13 ∧ I11 (IntKind.wrap .i64 (from_14 + 1)) h21 m60))))))) 
    ((okAt h15 ⟨h9.size, 0, none⟩ 3 ∧ ∀ h61 : Heap, h61 = hputs h15 ⟨h9.size, 0, none⟩ 0 [.int .i64 0, .int .i64 0, .int .i64 0] → 
    (∃ x62 : Int, ∃ x63 : Int, ∃ x64 : Int, atC h61 ⟨h9.size, 0, none⟩ [.int .i64 x62, .int .i64 x63, .int .i64 x64] ∧ 
    R (.tuple ⟨[.agg ⟨[.int .i64 x62, .int .i64 x63, .int .i64 x64]⟩, .bool false]⟩) h61)))))))))
theorem vc30e (p0_1 : ByteArray) (p0_2 : Sl) (p0_3 : Sl) (p0_4 : Int) (p0_5 : Int) (p0_6 : Int) (p0_7 : Sl) (p0_8 : Sl) (p1 : ByteArray) (p2 : Int) (h : Heap) (R : Value → Heap → Prop) : W30 p0_1 p0_2 p0_3 p0_4 p0_5 p0_6 p0_7 p0_8 p1 p2 h R = fnW Tryd.prog 30 (.s .z (.s (.s .z (.b (.l [(8, .one (.int .i64))] (.s .z (.s (.b (.s .z (.b (.l [(9, .one (.int .i64))] (.s .z (.s (.b (.s .z (.b (.l [(10, .one (.int .i64))] .z)))) .z)))))) .z))))) .z)) #[.agg ⟨[.string p0_1, .slice p0_2.a p0_2.n p0_2.c, .slice p0_3.a p0_3.n p0_3.c, .int .i64 p0_4, .int .i64 p0_5, .int .i64 p0_6, .slice p0_7.a p0_7.n p0_7.c, .slice p0_8.a p0_8.n p0_8.c]⟩, .string p1, .int .i64 p2] h R := by kernel_rfl
theorem vc30 (p0_1 : ByteArray) (p0_2 : Sl) (p0_3 : Sl) (p0_4 : Int) (p0_5 : Int) (p0_6 : Int) (p0_7 : Sl) (p0_8 : Sl) (p1 : ByteArray) (p2 : Int) (h : Heap) (R : Value → Heap → Prop) (H : W30 p0_1 p0_2 p0_3 p0_4 p0_5 p0_6 p0_7 p0_8 p1 p2 h R) : Fn Tryd.prog 30 #[.agg ⟨[.string p0_1, .slice p0_2.a p0_2.n p0_2.c, .slice p0_3.a p0_3.n p0_3.c, .int .i64 p0_4, .int .i64 p0_5, .int .i64 p0_6, .slice p0_7.a p0_7.n p0_7.c, .slice p0_8.a p0_8.n p0_8.c]⟩, .string p1, .int .i64 p2] h R := fnI (vc30e p0_1 p0_2 p0_3 p0_4 p0_5 p0_6 p0_7 p0_8 p1 p2 h R) H

/- slices.ContainsFunc[[]farandole/api.Interaction,farandole/api.Interaction] -/
def W31 (p0 : Sl) (p1 : FuncId) (p1c : Option Addr) (h : Heap) (R : Value → Heap → Prop) : Prop :=
  (Fn Tryd.prog 54 #[.slice p0.a p0.n p0.c, .func (.func p1) #[] #[.pointer p1c]] h 
  (fun v1 h3 => ∃ x2 : Int, v1 = .int .i64 x2 ∧ 
  R (.bool (decide (x2 ≥ 0))) h3))
theorem vc31e (p0 : Sl) (p1 : FuncId) (p1c : Option Addr) (h : Heap) (R : Value → Heap → Prop) : W31 p0 p1 p1c h R = fnW Tryd.prog 31 .z #[.slice p0.a p0.n p0.c, .func (.func p1) #[] #[.pointer p1c]] h R := by kernel_rfl
theorem vc31 (p0 : Sl) (p1 : FuncId) (p1c : Option Addr) (h : Heap) (R : Value → Heap → Prop) (H : W31 p0 p1 p1c h R) : Fn Tryd.prog 31 #[.slice p0.a p0.n p0.c, .func (.func p1) #[] #[.pointer p1c]] h R := fnI (vc31e p0 p1 p1c h R) H

/- farandole/chart.all$1 -/
def W32 (p0_1 : Int) (p0_2 : Int) (p0_3 : Int) (c0 : Addr) (h : Heap) (R : Value → Heap → Prop) : Prop :=
  (∀ h4 : Heap, h4 = h.push (.cells ⟨[.int .i64 p0_1, .int .i64 p0_2, .int .i64 p0_3]⟩ 43) → 
  (∃ x5 : ByteArray, ∃ x6 : Sl, ∃ x7 : Sl, ∃ x8 : Int, ∃ x9 : Int, ∃ x10 : Int, ∃ x11 : Sl, ∃ x12 : Sl, atC h4 c0 [.string x5, .slice x6.a x6.n x6.c, .slice x7.a x7.n x7.c, .int .i64 x8, .int .i64 x9, .int .i64 x10, .slice x11.a x11.n x11.c, .slice x12.a x12.n x12.c] ∧ 
  (∃ x13 : Int, ∃ x14 : Int, ∃ x15 : Int, atC h4 ⟨h.size, 0, none⟩ [.int .i64 x13, .int .i64 x14, .int .i64 x15] ∧ 
  (Fn Tryd.prog 33 #[.agg ⟨[.string x5, .slice x6.a x6.n x6.c, .slice x7.a x7.n x7.c, .int .i64 x8, .int .i64 x9, .int .i64 x10, .slice x11.a x11.n x11.c, .slice x12.a x12.n x12.c]⟩, .agg ⟨[.int .i64 x13, .int .i64 x14, .int .i64 x15]⟩] h4 
  (fun v16 h18 => ∃ x17 : Bool, v16 = .bool x17 ∧ 
  R (.bool (!x17)) h18)))))
theorem vc32e (p0_1 : Int) (p0_2 : Int) (p0_3 : Int) (c0 : Addr) (h : Heap) (R : Value → Heap → Prop) : W32 p0_1 p0_2 p0_3 c0 h R = fnW Tryd.prog 32 .z #[.agg ⟨[.int .i64 p0_1, .int .i64 p0_2, .int .i64 p0_3]⟩, .pointer (some c0)] h R := by kernel_rfl
theorem vc32 (p0_1 : Int) (p0_2 : Int) (p0_3 : Int) (c0 : Addr) (h : Heap) (R : Value → Heap → Prop) (H : W32 p0_1 p0_2 p0_3 c0 h R) : Fn Tryd.prog 32 #[.agg ⟨[.int .i64 p0_1, .int .i64 p0_2, .int .i64 p0_3]⟩, .pointer (some c0)] h R := fnI (vc32e p0_1 p0_2 p0_3 c0 h R) H

/- farandole/chart.proper -/
def W33 (p0_1 : ByteArray) (p0_2 : Sl) (p0_3 : Sl) (p0_4 : Int) (p0_5 : Int) (p0_6 : Int) (p0_7 : Sl) (p0_8 : Sl) (p1_9 : Int) (p1_10 : Int) (p1_11 : Int) (h : Heap) (R : Value → Heap → Prop) : Prop :=
  (∀ h12 : Heap, h12 = h.push (.cells ⟨[.string p0_1, .slice p0_2.a p0_2.n p0_2.c, .slice p0_3.a p0_3.n p0_3.c, .int .i64 p0_4, .int .i64 p0_5, .int .i64 p0_6, .slice p0_7.a p0_7.n p0_7.c, .slice p0_8.a p0_8.n p0_8.c]⟩ 27) → 
  (∀ h13 : Heap, h13 = h12.push (.cells ⟨[.int .i64 p1_9, .int .i64 p1_10, .int .i64 p1_11]⟩ 43) → 
  (∃ x14 : Int, hc h13 ⟨h12.size, 0, none⟩ = some (.int .i64 x14) ∧ 
  (Fn Tryd.prog 55 #[.int .i64 x14, .pointer (some ⟨h.size, 0, none⟩)] h13 
  (fun v15 h17 => ∃ x16 : Bool, v15 = .bool x16 ∧ 
  (sB x16 
   ((∃ x18 : Int, hc h17 ⟨h12.size, 1, none⟩ = some (.int .i64 x18) ∧ 
   (Fn Tryd.prog 55 #[.int .i64 x18, .pointer (some ⟨h.size, 0, none⟩)] h17 
   (fun v19 h21 => ∃ x20 : Bool, v19 = .bool x20 ∧ 
   (sB x20 
    ((∃ x22 : Int, hc h21 ⟨h12.size, 0, none⟩ = some (.int .i64 x22) ∧ 
    (∃ x23 : Int, hc h21 ⟨h12.size, 1, none⟩ = some (.int .i64 x23) ∧ 
    (sB (x22 != x23) 
     ((∃ x24 : Int, hc h21 ⟨h12.size, 2, none⟩ = some (.int .i64 x24) ∧ 
     (sB (decide (x24 ≥ 0)) 
      ((∃ x25 : Int, hc h21 ⟨h12.size, 2, none⟩ = some (.int .i64 x25) ∧ 
      (∃ x26 : Sl, hc h21 ⟨h.size, 2, none⟩ = some (.slice x26.a x26.n x26.c) ∧ 
      R (.bool (decide (x25 < (x26.n : Int)))) h21))) 
      (R (.bool false) h21)))) 
     (R (.bool false) h21))))) 
    (R (.bool false) h21)))))) 
   (R (.bool false) h17)))))))
theorem vc33e (p0_1 : ByteArray) (p0_2 : Sl) (p0_3 : Sl) (p0_4 : Int) (p0_5 : Int) (p0_6 : Int) (p0_7 : Sl) (p0_8 : Sl) (p1_9 : Int) (p1_10 : Int) (p1_11 : Int) (h : Heap) (R : Value → Heap → Prop) : W33 p0_1 p0_2 p0_3 p0_4 p0_5 p0_6 p0_7 p0_8 p1_9 p1_10 p1_11 h R = fnW Tryd.prog 33 .z #[.agg ⟨[.string p0_1, .slice p0_2.a p0_2.n p0_2.c, .slice p0_3.a p0_3.n p0_3.c, .int .i64 p0_4, .int .i64 p0_5, .int .i64 p0_6, .slice p0_7.a p0_7.n p0_7.c, .slice p0_8.a p0_8.n p0_8.c]⟩, .agg ⟨[.int .i64 p1_9, .int .i64 p1_10, .int .i64 p1_11]⟩] h R := by kernel_rfl
theorem vc33 (p0_1 : ByteArray) (p0_2 : Sl) (p0_3 : Sl) (p0_4 : Int) (p0_5 : Int) (p0_6 : Int) (p0_7 : Sl) (p0_8 : Sl) (p1_9 : Int) (p1_10 : Int) (p1_11 : Int) (h : Heap) (R : Value → Heap → Prop) (H : W33 p0_1 p0_2 p0_3 p0_4 p0_5 p0_6 p0_7 p0_8 p1_9 p1_10 p1_11 h R) : Fn Tryd.prog 33 #[.agg ⟨[.string p0_1, .slice p0_2.a p0_2.n p0_2.c, .slice p0_3.a p0_3.n p0_3.c, .int .i64 p0_4, .int .i64 p0_5, .int .i64 p0_6, .slice p0_7.a p0_7.n p0_7.c, .slice p0_8.a p0_8.n p0_8.c]⟩, .agg ⟨[.int .i64 p1_9, .int .i64 p1_10, .int .i64 p1_11]⟩] h R := fnI (vc33e p0_1 p0_2 p0_3 p0_4 p0_5 p0_6 p0_7 p0_8 p1_9 p1_10 p1_11 h R) H

/- (*strings.Builder).WriteString -/
def W34 (p0 : Addr) (p1 : ByteArray) (h : Heap) (R : Value → Heap → Prop) : Prop :=
  (Fn Tryd.prog 56 #[.pointer (some p0)] h 
  (fun v1 h2 => v1 = .tuple ⟨[]⟩ ∧ 
  (∃ x3 : Sl, hc h2 ⟨p0.block, p0.off + 1, none⟩ = some (.slice x3.a x3.n x3.c) ∧ 
  (App Tryd.prog 65 9 (.slice x3.a x3.n x3.c) (.string p1) h2 fun s4 h5 => 
  (okAt h5 ⟨p0.block, p0.off + 1, none⟩ 1 ∧ ∀ h6 : Heap, h6 = hputs h5 ⟨p0.block, p0.off + 1, none⟩ 0 [.slice s4.a s4.n s4.c] → 
  R (.tuple ⟨[.int .i64 (ByteArray.size p1 : Int), .nilIface]⟩) h6)))))
theorem vc34e (p0 : Addr) (p1 : ByteArray) (h : Heap) (R : Value → Heap → Prop) : W34 p0 p1 h R = fnW Tryd.prog 34 .z #[.pointer (some p0), .string p1] h R := by kernel_rfl
theorem vc34 (p0 : Addr) (p1 : ByteArray) (h : Heap) (R : Value → Heap → Prop) (H : W34 p0 p1 h R) : Fn Tryd.prog 34 #[.pointer (some p0), .string p1] h R := fnI (vc34e p0 p1 h R) H

/- (*strings.Builder).Len -/
def W36 (p0 : Addr) (h : Heap) (R : Value → Heap → Prop) : Prop :=
  (∃ x1 : Sl, hc h ⟨p0.block, p0.off + 1, none⟩ = some (.slice x1.a x1.n x1.c) ∧ 
  R (.int .i64 (x1.n : Int)) h)
theorem vc36e (p0 : Addr) (h : Heap) (R : Value → Heap → Prop) : W36 p0 h R = fnW Tryd.prog 36 .z #[.pointer (some p0)] h R := by kernel_rfl
theorem vc36 (p0 : Addr) (h : Heap) (R : Value → Heap → Prop) (H : W36 p0 h R) : Fn Tryd.prog 36 #[.pointer (some p0)] h R := fnI (vc36e p0 h R) H

/- bytes.Repeat
   loop rrrrrrrrrrrlb: bp_22:Int
   join rrrrrrrr: chunkMax_12:Int
   join rrrr: 
   join rr:  -/
def W38 (p0 : Sl) (p1 : Int) (h : Heap) (R : Value → Heap → Prop) : Prop :=
  (sB (p1 == 0) 
   ((∀ h1 : Heap, h1 = h.push (.cells ⟨[]⟩ 5) → 
   R (.slice (some ⟨h.size, 0, none⟩) 0 0) h1)) 
   ((∃ J2 : Heap → Prop, 
   ((sB (decide (p1 < 0)) 
     (False) 
     ((J2 h)))) ∧ 
   (∀ (_ : Env) (h3 : Heap), J2 h3 → 
   (Fn Tryd.prog 57 #[.int .u64 (IntKind.wrap .u64 (p0.n : Int)), .int .u64 (IntKind.wrap .u64 p1)] h3 
    (fun v4 h7 => ∃ x5 : Int, ∃ x6 : Int, v4 = .tuple ⟨[.int .u64 x5, .int .u64 x6]⟩ ∧ 
    (∃ J8 : Heap → Prop, 
    ((sB (decide (x5 > 0)) 
      (False) 
      ((sB (decide (x6 > 9223372036854775807)) 
       (False) 
       ((J8 h7)))))) ∧ 
    (∀ (_ : Env) (h9 : Heap), J8 h9 → 
    (sB ((p0.n : Int) == 0) 
      ((∀ h10 : Heap, h10 = h9.push (.cells ⟨[]⟩ 5) → 
      R (.slice (some ⟨h9.size, 0, none⟩) 0 0) h10)) 
      ((∃ J11 : Int → Heap → Prop, 
      ((sB (decide ((IntKind.wrap .i64 x6) > 8192)) 
        (((p0.n : Int) ≠ 0 ∧ (sB ((IntKind.wrap .i64 ((IntKind.wrap .i64 (Int.tdiv 8192 (p0.n : Int))) * (p0.n : Int))) == 0) 
         ((J11 (p0.n : Int) h9)) 
         ((J11 (IntKind.wrap .i64 ((IntKind.wrap .i64 (Int.tdiv 8192 (p0.n : Int))) * (p0.n : Int))) h9))))) 
        ((J11 (IntKind.wrap .i64 x6) h9)))) ∧ 
      (∀ (_ : Env) (chunkMax_12 : Int) (h13 : Heap), J11 chunkMax_12 h13 → 
      (ExtW Tryd.prog 60 #[.int .i64 (IntKind.wrap .i64 x6)] h13 
       (fun v14 h16 => ∃ x15 : Sl, v14 = .slice x15.a x15.n x15.c ∧ 
       (((0 : Int) ≤ (0 : Int) ∧ (0 : Int) ≤ ((IntKind.wrap .i64 x6) : Int) ∧ ((IntKind.wrap .i64 x6) : Int) ≤ ((IntKind.wrap .i64 x6) : Int) ∧ ((IntKind.wrap .i64 x6) : Int) ≤ (x15.c : Nat)) ∧ 
       (Cpy Tryd.prog 65 65 (.slice (subA x15.a (Int.toNat 0) (Int.toNat (IntKind.wrap .i64 x6)) 1) (Int.toNat (IntKind.wrap .i64 x6) - Int.toNat 0) (Int.toNat (IntKind.wrap .i64 x6) - Int.toNat 0)) (.slice p0.a p0.n p0.c) h16 fun n17 h18 => 
       (∃ I19 : Int → Heap → Nat → Prop, (∃ m20, I19 n17 h18 m20) ∧ 
       (∀ (_ : Env) (bp_22 : Int) (h23 : Heap) (m21 : Nat), I19 bp_22 h23 m21 → 
       (sB (decide (bp_22 < (IntKind.wrap .i64 x6))) 
         ((((0 : Int) ≤ (bp_22 : Int) ∧ (bp_22 : Int) ≤ (((Int.toNat (IntKind.wrap .i64 x6) - Int.toNat 0) : Nat) : Int) ∧ (((Int.toNat (IntKind.wrap .i64 x6) - Int.toNat 0) : Nat) : Int) ≤ ((Int.toNat (IntKind.wrap .i64 x6) - Int.toNat 0) : Nat)) ∧ 
         (((0 : Int) ≤ (0 : Int) ∧ (0 : Int) ≤ ((imin bp_22 chunkMax_12) : Int) ∧ ((imin bp_22 chunkMax_12) : Int) ≤ ((Int.toNat (IntKind.wrap .i64 x6) - Int.toNat 0) : Nat)) ∧ 
         (Cpy Tryd.prog 65 65 (.slice (subA (subA x15.a (Int.toNat 0) (Int.toNat (IntKind.wrap .i64 x6)) 1) (Int.toNat bp_22) (Int.toNat (IntKind.wrap .i64 x6) - Int.toNat 0) 1) (Int.toNat ((Int.toNat (IntKind.wrap .i64 x6) - Int.toNat 0) : Nat) - Int.toNat bp_22) ((Int.toNat (IntKind.wrap .i64 x6) - Int.toNat 0) - Int.toNat bp_22)) (.slice (subA (subA x15.a (Int.toNat 0) (Int.toNat (IntKind.wrap .i64 x6)) 1) (Int.toNat 0) (Int.toNat (IntKind.wrap .i64 x6) - Int.toNat 0) 1) (Int.toNat (imin bp_22 chunkMax_12) - Int.toNat 0) ((Int.toNat (IntKind.wrap .i64 x6) - Int.toNat 0) - Int.toNat 0)) h23 fun n24 h25 => 
         (∃ m26, m26 < m21 ∧ I19 (IntKind.wrap .i64 (bp_22 + n24)) h25 m26))))) 
         (R (.slice (subA x15.a (Int.toNat 0) (Int.toNat (IntKind.wrap .i64 x6)) 1) (Int.toNat (IntKind.wrap .i64 x6) - Int.toNat 0) (Int.toNat (IntKind.wrap .i64 x6) - Int.toNat 0)) h23))))))))))))))))))))
theorem vc38e (p0 : Sl) (p1 : Int) (h : Heap) (R : Value → Heap → Prop) : W38 p0 p1 h R = fnW Tryd.prog 38 (.s .z (.s .z (.j [] .z (.s .z (.j [] .z (.s .z (.s .z (.s .z (.j [(8, .one (.int .i64))] .z (.s .z (.s .z (.s (.b (.l [(10, .one (.int .i64))] .z)) .z)))))))))))) #[.slice p0.a p0.n p0.c, .int .i64 p1] h R := by kernel_rfl
theorem vc38 (p0 : Sl) (p1 : Int) (h : Heap) (R : Value → Heap → Prop) (H : W38 p0 p1 h R) : Fn Tryd.prog 38 #[.slice p0.a p0.n p0.c, .int .i64 p1] h R := fnI (vc38e p0 p1 h R) H

/- farandole/chart.labels
   loop rrlrb: out_14:Sl, x_15:Int -/
def W39 (p0_1 : ByteArray) (p0_2 : Sl) (p0_3 : Sl) (p0_4 : Int) (p0_5 : Int) (p0_6 : Int) (p0_7 : Sl) (p0_8 : Sl) (h : Heap) (R : Value → Heap → Prop) : Prop :=
  (∀ h9 : Heap, h9 = h.push (.cells ⟨[.string p0_1, .slice p0_2.a p0_2.n p0_2.c, .slice p0_3.a p0_3.n p0_3.c, .int .i64 p0_4, .int .i64 p0_5, .int .i64 p0_6, .slice p0_7.a p0_7.n p0_7.c, .slice p0_8.a p0_8.n p0_8.c]⟩ 27) → 
  (∃ x10 : Sl, hc h9 ⟨h.size, 2, none⟩ = some (.slice x10.a x10.n x10.c) ∧ 
  (∃ I11 : Sl → Int → Heap → Nat → Prop, (∃ m12, I11 ⟨none, 0, 0⟩ 0 h9 m12) ∧ 
  (∀ (_ : Env) (out_14 : Sl) (x_15 : Int) (h16 : Heap) (m13 : Nat), I11 out_14 x_15 h16 m13 → 
  (sB (decide (x_15 < (x10.n : Int))) 
    ((NB x10.a fun b17 o18 => ((0 ≤ (x_15 : Int) ∧ (x_15 : Int) < (x10.n : Nat)) ∧ 
    (∃ x19 : ByteArray, ∃ x20 : Sl, ∃ x21 : Int, ∃ x22 : Sl, ∃ x23 : Sl, atC h16 ⟨b17, o18 + Int.toNat x_15 * 5, none⟩ [.string x19, .slice x20.a x20.n x20.c, .int .i64 x21, .slice x22.a x22.n x22.c, .slice x23.a x23.n x23.c] ∧ 
    (∀ h24 : Heap, h24 = h16.push (.cells ⟨[.string ⟨#[]⟩, .slice none 0 0, .int .i64 0, .slice none 0 0, .slice none 0 0]⟩ 51) → 
    (okAt h24 ⟨h16.size, 0, none⟩ 5 ∧ ∀ h25 : Heap, h25 = hputs h24 ⟨h16.size, 0, none⟩ 0 [.string x19, .slice x20.a x20.n x20.c, .int .i64 x21, .slice x22.a x22.n x22.c, .slice x23.a x23.n x23.c] → 
    (∃ x26 : ByteArray, hc h25 ⟨h16.size, 0, none⟩ = some (.string x26) ∧ 
    (∀ h27 : Heap, h27 = h25.push (.cells ⟨[.string x26]⟩ 9) → 
    (App Tryd.prog 22 22 (.slice out_14.a out_14.n out_14.c) (.slice (some ⟨h25.size, 0, none⟩) 1 1) h27 fun s28 h29 => 
    (∃ m30, m30 < m13 ∧ I11 s28 (IntKind.wrap .i64 (x_15 + 1)) h29 m30)))))))))) 
    (R (.slice out_14.a out_14.n out_14.c) h16))))))
theorem vc39e (p0_1 : ByteArray) (p0_2 : Sl) (p0_3 : Sl) (p0_4 : Int) (p0_5 : Int) (p0_6 : Int) (p0_7 : Sl) (p0_8 : Sl) (h : Heap) (R : Value → Heap → Prop) : W39 p0_1 p0_2 p0_3 p0_4 p0_5 p0_6 p0_7 p0_8 h R = fnW Tryd.prog 39 (.s .z (.s .z (.s (.s .z (.b (.l [(3, .one (.slice)), (9, .one (.int .i64))] .z))) .z))) #[.agg ⟨[.string p0_1, .slice p0_2.a p0_2.n p0_2.c, .slice p0_3.a p0_3.n p0_3.c, .int .i64 p0_4, .int .i64 p0_5, .int .i64 p0_6, .slice p0_7.a p0_7.n p0_7.c, .slice p0_8.a p0_8.n p0_8.c]⟩] h R := by kernel_rfl
theorem vc39 (p0_1 : ByteArray) (p0_2 : Sl) (p0_3 : Sl) (p0_4 : Int) (p0_5 : Int) (p0_6 : Int) (p0_7 : Sl) (p0_8 : Sl) (h : Heap) (R : Value → Heap → Prop) (H : W39 p0_1 p0_2 p0_3 p0_4 p0_5 p0_6 p0_7 p0_8 h R) : Fn Tryd.prog 39 #[.agg ⟨[.string p0_1, .slice p0_2.a p0_2.n p0_2.c, .slice p0_3.a p0_3.n p0_3.c, .int .i64 p0_4, .int .i64 p0_5, .int .i64 p0_6, .slice p0_7.a p0_7.n p0_7.c, .slice p0_8.a p0_8.n p0_8.c]⟩] h R := fnI (vc39e p0_1 p0_2 p0_3 p0_4 p0_5 p0_6 p0_7 p0_8 h R) H

/- farandole/chart.drawable$1 -/
def W40 (p0 : ByteArray) (h : Heap) (R : Value → Heap → Prop) : Prop :=
  (sB ((ByteArray.toList p0) == (ByteArray.toList ⟨#[]⟩)) 
   (R (.bool true) h) 
   ((sB (decide ((ByteArray.size p0 : Int) > 50)) 
    (R (.bool true) h) 
    ((RunW Tryd.prog (Go.convert 9 65 (.string p0)) h 
    (fun v1 h3 => ∃ x2 : Sl, v1 = .slice x2.a x2.n x2.c ∧ 
    (Fn Tryd.prog 41 #[.slice x2.a x2.n x2.c, .func (.func 42) #[] #[]] h3 
    (fun v4 h6 => ∃ x5 : Bool, v4 = .bool x5 ∧ 
    R (.bool x5) h6))))))))
theorem vc40e (p0 : ByteArray) (h : Heap) (R : Value → Heap → Prop) : W40 p0 h R = fnW Tryd.prog 40 .z #[.string p0] h R := by kernel_rfl
theorem vc40 (p0 : ByteArray) (h : Heap) (R : Value → Heap → Prop) (H : W40 p0 h R) : Fn Tryd.prog 40 #[.string p0] h R := fnI (vc40e p0 h R) H

/- slices.ContainsFunc[[]byte,byte] -/
def W41 (p0 : Sl) (p1 : FuncId) (h : Heap) (R : Value → Heap → Prop) : Prop :=
  (Fn Tryd.prog 61 #[.slice p0.a p0.n p0.c, .func (.func p1) #[] #[]] h 
  (fun v1 h3 => ∃ x2 : Int, v1 = .int .i64 x2 ∧ 
  R (.bool (decide (x2 ≥ 0))) h3))
theorem vc41e (p0 : Sl) (p1 : FuncId) (h : Heap) (R : Value → Heap → Prop) : W41 p0 p1 h R = fnW Tryd.prog 41 .z #[.slice p0.a p0.n p0.c, .func (.func p1) #[] #[]] h R := by kernel_rfl
theorem vc41 (p0 : Sl) (p1 : FuncId) (h : Heap) (R : Value → Heap → Prop) (H : W41 p0 p1 h R) : Fn Tryd.prog 41 #[.slice p0.a p0.n p0.c, .func (.func p1) #[] #[]] h R := fnI (vc41e p0 p1 h R) H

/- farandole/chart.drawable$1$1 -/
def W42 (p0 : Int) (h : Heap) (R : Value → Heap → Prop) : Prop :=
  (Fn Tryd.prog 43 #[.int .u8 p0] h 
  (fun v1 h3 => ∃ x2 : Bool, v1 = .bool x2 ∧ 
  R (.bool (!x2)) h3))
theorem vc42e (p0 : Int) (h : Heap) (R : Value → Heap → Prop) : W42 p0 h R = fnW Tryd.prog 42 .z #[.int .u8 p0] h R := by kernel_rfl
theorem vc42 (p0 : Int) (h : Heap) (R : Value → Heap → Prop) (H : W42 p0 h R) : Fn Tryd.prog 42 #[.int .u8 p0] h R := fnI (vc42e p0 h R) H

/- farandole/chart.letter -/
def W43 (p0 : Int) (h : Heap) (R : Value → Heap → Prop) : Prop :=
  (sB (decide (p0 ≥ 97)) 
   ((sB (decide (p0 ≤ 122)) 
    (R (.bool true) h) 
    ((sB (decide (p0 ≥ 65)) 
     ((sB (decide (p0 ≤ 90)) 
      (R (.bool true) h) 
      ((sB (decide (p0 ≥ 48)) 
       ((sB (decide (p0 ≤ 57)) 
        (R (.bool true) h) 
        ((sB (p0 == 46) 
         (R (.bool true) h) 
         (R (.bool (p0 == 95)) h))))) 
       ((sB (p0 == 46) 
        (R (.bool true) h) 
        (R (.bool (p0 == 95)) h))))))) 
     ((sB (decide (p0 ≥ 48)) 
      ((sB (decide (p0 ≤ 57)) 
       (R (.bool true) h) 
       ((sB (p0 == 46) 
        (R (.bool true) h) 
        (R (.bool (p0 == 95)) h))))) 
      ((sB (p0 == 46) 
       (R (.bool true) h) 
       (R (.bool (p0 == 95)) h))))))))) 
   ((sB (decide (p0 ≥ 65)) 
    ((sB (decide (p0 ≤ 90)) 
     (R (.bool true) h) 
     ((sB (decide (p0 ≥ 48)) 
      ((sB (decide (p0 ≤ 57)) 
       (R (.bool true) h) 
       ((sB (p0 == 46) 
        (R (.bool true) h) 
        (R (.bool (p0 == 95)) h))))) 
      ((sB (p0 == 46) 
       (R (.bool true) h) 
       (R (.bool (p0 == 95)) h))))))) 
    ((sB (decide (p0 ≥ 48)) 
     ((sB (decide (p0 ≤ 57)) 
      (R (.bool true) h) 
      ((sB (p0 == 46) 
       (R (.bool true) h) 
       (R (.bool (p0 == 95)) h))))) 
     ((sB (p0 == 46) 
      (R (.bool true) h) 
      (R (.bool (p0 == 95)) h))))))))
theorem vc43e (p0 : Int) (h : Heap) (R : Value → Heap → Prop) : W43 p0 h R = fnW Tryd.prog 43 .z #[.int .u8 p0] h R := by kernel_rfl
theorem vc43 (p0 : Int) (h : Heap) (R : Value → Heap → Prop) (H : W43 p0 h R) : Fn Tryd.prog 43 #[.int .u8 p0] h R := fnI (vc43e p0 h R) H

/- farandole/chart.distinct
   loop rlrb: x_4:Int -/
def W44 (p0 : Sl) (h : Heap) (R : Value → Heap → Prop) : Prop :=
  (∃ I1 : Int → Heap → Nat → Prop, (∃ m2, I1 0 h m2) ∧ 
  (∀ (_ : Env) (x_4 : Int) (h5 : Heap) (m3 : Nat), I1 x_4 h5 m3 → 
  (sB (decide (x_4 < (p0.n : Int))) 
    ((NB p0.a fun b6 o7 => ((0 ≤ (x_4 : Int) ∧ (x_4 : Int) < (p0.n : Nat)) ∧ 
    (∃ x8 : ByteArray, hc h5 ⟨b6, o7 + Int.toNat x_4 * 1, none⟩ = some (.string x8) ∧ 
    (((0 : Int) ≤ (0 : Int) ∧ (0 : Int) ≤ (x_4 : Int) ∧ (x_4 : Int) ≤ (p0.c : Nat)) ∧ 
    (Fn Tryd.prog 62 #[.slice (subA p0.a (Int.toNat 0) p0.c 1) (Int.toNat x_4 - Int.toNat 0) (p0.c - Int.toNat 0), .string x8] h5 
    (fun v9 h11 => ∃ x10 : Bool, v9 = .bool x10 ∧ 
    (sB x10 
     (R (.bool false) h11) 
     ((∃ m12, m12 < m3 ∧ I1 (IntKind.wrap .i64 (x_4 + 1)) h11 m12)))))))))) 
    (R (.bool true) h5))))
theorem vc44e (p0 : Sl) (h : Heap) (R : Value → Heap → Prop) : W44 p0 h R = fnW Tryd.prog 44 (.s .z (.s (.s .z (.b (.l [(7, .one (.int .i64))] .z))) .z)) #[.slice p0.a p0.n p0.c] h R := by kernel_rfl
theorem vc44 (p0 : Sl) (h : Heap) (R : Value → Heap → Prop) (H : W44 p0 h R) : Fn Tryd.prog 44 #[.slice p0.a p0.n p0.c] h R := fnI (vc44e p0 h R) H

/- slices.ContainsFunc[[]string,string] -/
def W45 (p0 : Sl) (p1 : FuncId) (h : Heap) (R : Value → Heap → Prop) : Prop :=
  (Fn Tryd.prog 63 #[.slice p0.a p0.n p0.c, .func (.func p1) #[] #[]] h 
  (fun v1 h3 => ∃ x2 : Int, v1 = .int .i64 x2 ∧ 
  R (.bool (decide (x2 ≥ 0))) h3))
theorem vc45e (p0 : Sl) (p1 : FuncId) (h : Heap) (R : Value → Heap → Prop) : W45 p0 p1 h R = fnW Tryd.prog 45 .z #[.slice p0.a p0.n p0.c, .func (.func p1) #[] #[]] h R := by kernel_rfl
theorem vc45 (p0 : Sl) (p1 : FuncId) (h : Heap) (R : Value → Heap → Prop) (H : W45 p0 p1 h R) : Fn Tryd.prog 45 #[.slice p0.a p0.n p0.c, .func (.func p1) #[] #[]] h R := fnI (vc45e p0 p1 h R) H

/- farandole/chart.drawable$2 -/
def W46 (p0 : ByteArray) (h : Heap) (R : Value → Heap → Prop) : Prop :=
  (Fn Tryd.prog 47 #[.string p0] h 
  (fun v1 h3 => ∃ x2 : Bool, v1 = .bool x2 ∧ 
  R (.bool (!x2)) h3))
theorem vc46e (p0 : ByteArray) (h : Heap) (R : Value → Heap → Prop) : W46 p0 h R = fnW Tryd.prog 46 .z #[.string p0] h R := by kernel_rfl
theorem vc46 (p0 : ByteArray) (h : Heap) (R : Value → Heap → Prop) (H : W46 p0 h R) : Fn Tryd.prog 46 #[.string p0] h R := fnI (vc46e p0 h R) H

/- farandole/lex.IsName
   loop rrlrb: x_7:Int -/
def W47 (p0 : ByteArray) (h : Heap) (R : Value → Heap → Prop) : Prop :=
  (sB ((ByteArray.toList p0) == (ByteArray.toList ⟨#[]⟩)) 
   (R (.bool false) h) 
   ((sB (decide ((ByteArray.size p0 : Int) > 16)) 
    (R (.bool false) h) 
    (((0 ≤ (0 : Int) ∧ (0 : Int) < (ByteArray.size p0 : Nat)) ∧ 
    (Fn Tryd.prog 64 #[.int .u8 (byteAt p0 (Int.toNat 0) : Int)] h 
    (fun v1 h3 => ∃ x2 : Bool, v1 = .bool x2 ∧ 
    (sB (!x2) 
     (R (.bool false) h3) 
     ((∃ I4 : Int → Heap → Nat → Prop, (∃ m5, I4 0 h3 m5) ∧ 
     (∀ (_ : Env) (x_7 : Int) (h8 : Heap) (m6 : Nat), I4 x_7 h8 m6 → 
     (sB (decide (x_7 < (ByteArray.size p0 : Int))) 
       (((0 ≤ (x_7 : Int) ∧ (x_7 : Int) < (ByteArray.size p0 : Nat)) ∧ 
       (Fn Tryd.prog 65 #[.int .u8 (byteAt p0 (Int.toNat x_7) : Int)] h8 
       (fun v9 h11 => ∃ x10 : Bool, v9 = .bool x10 ∧ 
       (sB (!x10) 
        (R (.bool false) h11) 
        ((∃ m12, m12 < m6 ∧ I4 (IntKind.wrap .i64 (x_7 + 1)) h11 m12))))))) 
       (R (.bool true) h8)))))))))))))
theorem vc47e (p0 : ByteArray) (h : Heap) (R : Value → Heap → Prop) : W47 p0 h R = fnW Tryd.prog 47 (.s .z (.s .z (.s (.s .z (.b (.l [(19, .one (.int .i64))] .z))) .z))) #[.string p0] h R := by kernel_rfl
theorem vc47 (p0 : ByteArray) (h : Heap) (R : Value → Heap → Prop) (H : W47 p0 h R) : Fn Tryd.prog 47 #[.string p0] h R := fnI (vc47e p0 h R) H

/- strings.CutPrefix -/
def W48 (p0 : ByteArray) (p1 : ByteArray) (h : Heap) (R : Value → Heap → Prop) : Prop :=
  (Fn Tryd.prog 66 #[.string p0, .string p1] h 
  (fun v1 h4 => ∃ x2 : ByteArray, ∃ x3 : Bool, v1 = .tuple ⟨[.string x2, .bool x3]⟩ ∧ 
  R (.tuple ⟨[.string x2, .bool x3]⟩) h4))
theorem vc48e (p0 : ByteArray) (p1 : ByteArray) (h : Heap) (R : Value → Heap → Prop) : W48 p0 p1 h R = fnW Tryd.prog 48 .z #[.string p0, .string p1] h R := by kernel_rfl
theorem vc48 (p0 : ByteArray) (p1 : ByteArray) (h : Heap) (R : Value → Heap → Prop) (H : W48 p0 p1 h R) : Fn Tryd.prog 48 #[.string p0, .string p1] h R := fnI (vc48e p0 p1 h R) H

/- farandole/chart.label
   loop rrrrlb: to_7:Int -/
def W50 (p0 : ByteArray) (h : Heap) (R : Value → Heap → Prop) : Prop :=
  (Fn Tryd.prog 71 #[.string p0, .func (.func 72) #[] #[]] h 
  (fun v1 h3 => ∃ x2 : Int, v1 = .int .i64 x2 ∧ 
  (sB (decide (x2 < 0)) 
   (R (.string ⟨#[]⟩) h3) 
   ((∃ I4 : Int → Heap → Nat → Prop, (∃ m5, I4 x2 h3 m5) ∧ 
   (∀ (_ : Env) (to_7 : Int) (h8 : Heap) (m6 : Nat), I4 to_7 h8 m6 → 
   (sB (decide (to_7 < (ByteArray.size p0 : Int))) 
     (((0 ≤ (to_7 : Int) ∧ (to_7 : Int) < (ByteArray.size p0 : Nat)) ∧ 
     (Fn Tryd.prog 43 #[.int .u8 (byteAt p0 (Int.toNat to_7) : Int)] h8 
     (fun v9 h11 => ∃ x10 : Bool, v9 = .bool x10 ∧ 
     (sB x10 
      ((∃ m12, m12 < m6 ∧ I4 (IntKind.wrap .i64 (to_7 + 1)) h11 m12)) 
      ((((0 : Int) ≤ (x2 : Int) ∧ (x2 : Int) ≤ (to_7 : Int) ∧ (to_7 : Int) ≤ (ByteArray.size p0 : Nat)) ∧ 
      R (.string (ByteArray.extract p0 (Int.toNat x2) (Int.toNat to_7))) h11))))))) 
     ((((0 : Int) ≤ (x2 : Int) ∧ (x2 : Int) ≤ (to_7 : Int) ∧ (to_7 : Int) ≤ (ByteArray.size p0 : Nat)) ∧ 
     R (.string (ByteArray.extract p0 (Int.toNat x2) (Int.toNat to_7))) h8)))))))))
theorem vc50e (p0 : ByteArray) (h : Heap) (R : Value → Heap → Prop) : W50 p0 h R = fnW Tryd.prog 50 (.s .z (.s .z (.s .z (.s .z (.s (.b (.l [(4, .one (.int .i64))] .z)) .z))))) #[.string p0] h R := by kernel_rfl
theorem vc50 (p0 : ByteArray) (h : Heap) (R : Value → Heap → Prop) (H : W50 p0 h R) : Fn Tryd.prog 50 #[.string p0] h R := fnI (vc50e p0 h R) H

/- slices.Index[[]string,string]
   loop rlrb: x_4:Int -/
def W51 (p0 : Sl) (p1 : ByteArray) (h : Heap) (R : Value → Heap → Prop) : Prop :=
  (∃ I1 : Int → Heap → Nat → Prop, (∃ m2, I1 0 h m2) ∧ 
  (∀ (_ : Env) (x_4 : Int) (h5 : Heap) (m3 : Nat), I1 x_4 h5 m3 → 
  (sB (decide (x_4 < (p0.n : Int))) 
    ((NB p0.a fun b6 o7 => ((0 ≤ (x_4 : Int) ∧ (x_4 : Int) < (p0.n : Nat)) ∧ 
    (∃ x8 : ByteArray, hc h5 ⟨b6, o7 + Int.toNat x_4 * 1, none⟩ = some (.string x8) ∧ 
    (sB ((ByteArray.toList p1) == (ByteArray.toList x8)) 
     (R (.int .i64 x_4) h5) 
     ((∃ m9, m9 < m3 ∧ I1 (IntKind.wrap .i64 (x_4 + 1)) h5 m9))))))) 
    (R (.int .i64 (-1)) h5))))
theorem vc51e (p0 : Sl) (p1 : ByteArray) (h : Heap) (R : Value → Heap → Prop) : W51 p0 p1 h R = fnW Tryd.prog 51 (.s .z (.s (.s .z (.b (.l [(8, .one (.int .i64))] .z))) .z)) #[.slice p0.a p0.n p0.c, .string p1] h R := by kernel_rfl
theorem vc51 (p0 : Sl) (p1 : ByteArray) (h : Heap) (R : Value → Heap → Prop) (H : W51 p0 p1 h R) : Fn Tryd.prog 51 #[.slice p0.a p0.n p0.c, .string p1] h R := fnI (vc51e p0 p1 h R) H

/- farandole/farandoleref09.IsName
   loop rrlrb: i_7:Int -/
def W52 (p0 : ByteArray) (h : Heap) (R : Value → Heap → Prop) : Prop :=
  (sB ((ByteArray.toList p0) == (ByteArray.toList ⟨#[]⟩)) 
   (R (.bool false) h) 
   (((0 ≤ (0 : Int) ∧ (0 : Int) < (ByteArray.size p0 : Nat)) ∧ 
   (Fn Tryd.prog 73 #[.int .u8 (byteAt p0 (Int.toNat 0) : Int)] h 
   (fun v1 h3 => ∃ x2 : Bool, v1 = .bool x2 ∧ 
   (sB (!x2) 
    (R (.bool false) h3) 
    ((sB (decide ((ByteArray.size p0 : Int) > 16)) 
     (R (.bool false) h3) 
     ((∃ I4 : Int → Heap → Nat → Prop, (∃ m5, I4 0 h3 m5) ∧ 
     (∀ (_ : Env) (i_7 : Int) (h8 : Heap) (m6 : Nat), I4 i_7 h8 m6 → 
     (sB (decide (i_7 < (ByteArray.size p0 : Int))) 
       (((0 ≤ (i_7 : Int) ∧ (i_7 : Int) < (ByteArray.size p0 : Nat)) ∧ 
       (Fn Tryd.prog 74 #[.int .u8 (byteAt p0 (Int.toNat i_7) : Int)] h8 
       (fun v9 h11 => ∃ x10 : Bool, v9 = .bool x10 ∧ 
       (sB (!x10) 
        (R (.bool false) h11) 
        ((∃ m12, m12 < m6 ∧ I4 (IntKind.wrap .i64 (i_7 + 1)) h11 m12))))))) 
       (R (.bool true) h8)))))))))))))
theorem vc52e (p0 : ByteArray) (h : Heap) (R : Value → Heap → Prop) : W52 p0 h R = fnW Tryd.prog 52 (.s .z (.s .z (.s (.s .z (.b (.l [(3, .one (.int .i64))] .z))) .z))) #[.string p0] h R := by kernel_rfl
theorem vc52 (p0 : ByteArray) (h : Heap) (R : Value → Heap → Prop) (H : W52 p0 h R) : Fn Tryd.prog 52 #[.string p0] h R := fnI (vc52e p0 h R) H

/- farandole/farandoleref42.inner -/
def W53 (p0 : Int) (h : Heap) (R : Value → Heap → Prop) : Prop :=
  (sB (decide (p0 ≥ 97)) 
   ((sB (decide (p0 ≤ 122)) 
    (R (.bool true) h) 
    ((sB (decide (p0 ≥ 65)) 
     ((sB (decide (p0 ≤ 90)) 
      (R (.bool true) h) 
      ((sB (decide (p0 ≥ 48)) 
       ((sB (decide (p0 ≤ 57)) 
        (R (.bool true) h) 
        ((sB (p0 == 95) 
         (R (.bool true) h) 
         (R (.bool (p0 == 46)) h))))) 
       ((sB (p0 == 95) 
        (R (.bool true) h) 
        (R (.bool (p0 == 46)) h))))))) 
     ((sB (decide (p0 ≥ 48)) 
      ((sB (decide (p0 ≤ 57)) 
       (R (.bool true) h) 
       ((sB (p0 == 95) 
        (R (.bool true) h) 
        (R (.bool (p0 == 46)) h))))) 
      ((sB (p0 == 95) 
       (R (.bool true) h) 
       (R (.bool (p0 == 46)) h))))))))) 
   ((sB (decide (p0 ≥ 65)) 
    ((sB (decide (p0 ≤ 90)) 
     (R (.bool true) h) 
     ((sB (decide (p0 ≥ 48)) 
      ((sB (decide (p0 ≤ 57)) 
       (R (.bool true) h) 
       ((sB (p0 == 95) 
        (R (.bool true) h) 
        (R (.bool (p0 == 46)) h))))) 
      ((sB (p0 == 95) 
       (R (.bool true) h) 
       (R (.bool (p0 == 46)) h))))))) 
    ((sB (decide (p0 ≥ 48)) 
     ((sB (decide (p0 ≤ 57)) 
      (R (.bool true) h) 
      ((sB (p0 == 95) 
       (R (.bool true) h) 
       (R (.bool (p0 == 46)) h))))) 
     ((sB (p0 == 95) 
      (R (.bool true) h) 
      (R (.bool (p0 == 46)) h))))))))
theorem vc53e (p0 : Int) (h : Heap) (R : Value → Heap → Prop) : W53 p0 h R = fnW Tryd.prog 53 .z #[.int .u8 p0] h R := by kernel_rfl
theorem vc53 (p0 : Int) (h : Heap) (R : Value → Heap → Prop) (H : W53 p0 h R) : Fn Tryd.prog 53 #[.int .u8 p0] h R := fnI (vc53e p0 h R) H

/- slices.IndexFunc[[]farandole/api.Interaction,farandole/api.Interaction]
   loop rlrb: x_4:Int -/
def W54 (p0 : Sl) (p1 : FuncId) (p1c : Option Addr) (h : Heap) (R : Value → Heap → Prop) : Prop :=
  (∃ I1 : Int → Heap → Nat → Prop, (∃ m2, I1 0 h m2) ∧ 
  (∀ (_ : Env) (x_4 : Int) (h5 : Heap) (m3 : Nat), I1 x_4 h5 m3 → 
  (sB (decide (x_4 < (p0.n : Int))) 
    ((NB p0.a fun b6 o7 => ((0 ≤ (x_4 : Int) ∧ (x_4 : Int) < (p0.n : Nat)) ∧ 
    (∃ x8 : Int, ∃ x9 : Int, ∃ x10 : Int, atC h5 ⟨b6, o7 + Int.toNat x_4 * 3, none⟩ [.int .i64 x8, .int .i64 x9, .int .i64 x10] ∧ 
    (bif callable Tryd.prog p1 then Fn Tryd.prog p1 #[.agg ⟨[.int .i64 x8, .int .i64 x9, .int .i64 x10]⟩, .pointer p1c] h5 
    (fun v11 h13 => ∃ x12 : Bool, v11 = .bool x12 ∧ 
    (sB x12 
     (R (.int .i64 x_4) h13) 
     ((∃ m14, m14 < m3 ∧ I1 (IntKind.wrap .i64 (x_4 + 1)) h13 m14)))) else ExtW Tryd.prog p1 #[.agg ⟨[.int .i64 x8, .int .i64 x9, .int .i64 x10]⟩, .pointer p1c] h5 
    (fun v11 h13 => ∃ x12 : Bool, v11 = .bool x12 ∧ 
    (sB x12 
     (R (.int .i64 x_4) h13) 
     ((∃ m14, m14 < m3 ∧ I1 (IntKind.wrap .i64 (x_4 + 1)) h13 m14))))))))) 
    (R (.int .i64 (-1)) h5))))
theorem vc54e (p0 : Sl) (p1 : FuncId) (p1c : Option Addr) (h : Heap) (R : Value → Heap → Prop) : W54 p0 p1 p1c h R = fnW Tryd.prog 54 (.s .z (.s (.s .z (.b (.l [(8, .one (.int .i64))] .z))) .z)) #[.slice p0.a p0.n p0.c, .func (.func p1) #[] #[.pointer p1c]] h R := by kernel_rfl
theorem vc54 (p0 : Sl) (p1 : FuncId) (p1c : Option Addr) (h : Heap) (R : Value → Heap → Prop) (H : W54 p0 p1 p1c h R) : Fn Tryd.prog 54 #[.slice p0.a p0.n p0.c, .func (.func p1) #[] #[.pointer p1c]] h R := fnI (vc54e p0 p1 p1c h R) H

/- farandole/chart.proper$1 -/
def W55 (p0 : Int) (c0 : Addr) (h : Heap) (R : Value → Heap → Prop) : Prop :=
  (sB (decide (p0 ≥ 0)) 
   ((∃ x1 : Sl, hc h ⟨c0.block, c0.off + 1, none⟩ = some (.slice x1.a x1.n x1.c) ∧ 
   R (.bool (decide (p0 < (x1.n : Int)))) h)) 
   (R (.bool false) h))
theorem vc55e (p0 : Int) (c0 : Addr) (h : Heap) (R : Value → Heap → Prop) : W55 p0 c0 h R = fnW Tryd.prog 55 .z #[.int .i64 p0, .pointer (some c0)] h R := by kernel_rfl
theorem vc55 (p0 : Int) (c0 : Addr) (h : Heap) (R : Value → Heap → Prop) (H : W55 p0 c0 h R) : Fn Tryd.prog 55 #[.int .i64 p0, .pointer (some c0)] h R := fnI (vc55e p0 c0 h R) H

/- strings.HasPrefix -/
def W58 (p0 : ByteArray) (p1 : ByteArray) (h : Heap) (R : Value → Heap → Prop) : Prop :=
  (Fn Tryd.prog 78 #[.string p0, .string p1] h 
  (fun v1 h3 => ∃ x2 : Bool, v1 = .bool x2 ∧ 
  R (.bool x2) h3))
theorem vc58e (p0 : ByteArray) (p1 : ByteArray) (h : Heap) (R : Value → Heap → Prop) : W58 p0 p1 h R = fnW Tryd.prog 58 .z #[.string p0, .string p1] h R := by kernel_rfl
theorem vc58 (p0 : ByteArray) (p1 : ByteArray) (h : Heap) (R : Value → Heap → Prop) (H : W58 p0 p1 h R) : Fn Tryd.prog 58 #[.string p0, .string p1] h R := fnI (vc58e p0 p1 h R) H

/- (*strings.Builder).Grow
   join r:  -/
def W59 (p0 : Addr) (p1 : Int) (h : Heap) (R : Value → Heap → Prop) : Prop :=
  (Fn Tryd.prog 56 #[.pointer (some p0)] h 
  (fun v1 h2 => v1 = .tuple ⟨[]⟩ ∧ 
  (∃ J3 : Heap → Prop, 
  ((sB (decide (p1 < 0)) 
    (False) 
    ((J3 h2)))) ∧ 
  (∀ (_ : Env) (h4 : Heap), J3 h4 → 
  (∃ x5 : Sl, hc h4 ⟨p0.block, p0.off + 1, none⟩ = some (.slice x5.a x5.n x5.c) ∧ 
   (∃ x6 : Sl, hc h4 ⟨p0.block, p0.off + 1, none⟩ = some (.slice x6.a x6.n x6.c) ∧ 
   (sB (decide ((IntKind.wrap .i64 ((x5.c : Int) - (x6.n : Int))) < p1)) 
    ((Fn Tryd.prog 79 #[.pointer (some p0), .int .i64 p1] h4 
    (fun v7 h8 => v7 = .tuple ⟨[]⟩ ∧ 
    R (.tuple ⟨[]⟩) h8))) 
    (R (.tuple ⟨[]⟩) h4))))))))
theorem vc59e (p0 : Addr) (p1 : Int) (h : Heap) (R : Value → Heap → Prop) : W59 p0 p1 h R = fnW Tryd.prog 59 (.s .z (.j [] .z .z)) #[.pointer (some p0), .int .i64 p1] h R := by kernel_rfl
theorem vc59 (p0 : Addr) (p1 : Int) (h : Heap) (R : Value → Heap → Prop) (H : W59 p0 p1 h R) : Fn Tryd.prog 59 #[.pointer (some p0), .int .i64 p1] h R := fnI (vc59e p0 p1 h R) H

/- slices.IndexFunc[[]byte,byte]
   loop rlrb: x_4:Int -/
def W61 (p0 : Sl) (p1 : FuncId) (h : Heap) (R : Value → Heap → Prop) : Prop :=
  (∃ I1 : Int → Heap → Nat → Prop, (∃ m2, I1 0 h m2) ∧ 
  (∀ (_ : Env) (x_4 : Int) (h5 : Heap) (m3 : Nat), I1 x_4 h5 m3 → 
  (sB (decide (x_4 < (p0.n : Int))) 
    ((NB p0.a fun b6 o7 => ((0 ≤ (x_4 : Int) ∧ (x_4 : Int) < (p0.n : Nat)) ∧ 
    (∃ x8 : Int, hc h5 ⟨b6, o7 + Int.toNat x_4 * 1, none⟩ = some (.int .u8 x8) ∧ 
    (bif callable Tryd.prog p1 then Fn Tryd.prog p1 #[.int .u8 x8] h5 
    (fun v9 h11 => ∃ x10 : Bool, v9 = .bool x10 ∧ 
    (sB x10 
     (R (.int .i64 x_4) h11) 
     ((∃ m12, m12 < m3 ∧ I1 (IntKind.wrap .i64 (x_4 + 1)) h11 m12)))) else ExtW Tryd.prog p1 #[.int .u8 x8] h5 
    (fun v9 h11 => ∃ x10 : Bool, v9 = .bool x10 ∧ 
    (sB x10 
     (R (.int .i64 x_4) h11) 
     ((∃ m12, m12 < m3 ∧ I1 (IntKind.wrap .i64 (x_4 + 1)) h11 m12))))))))) 
    (R (.int .i64 (-1)) h5))))
theorem vc61e (p0 : Sl) (p1 : FuncId) (h : Heap) (R : Value → Heap → Prop) : W61 p0 p1 h R = fnW Tryd.prog 61 (.s .z (.s (.s .z (.b (.l [(8, .one (.int .i64))] .z))) .z)) #[.slice p0.a p0.n p0.c, .func (.func p1) #[] #[]] h R := by kernel_rfl
theorem vc61 (p0 : Sl) (p1 : FuncId) (h : Heap) (R : Value → Heap → Prop) (H : W61 p0 p1 h R) : Fn Tryd.prog 61 #[.slice p0.a p0.n p0.c, .func (.func p1) #[] #[]] h R := fnI (vc61e p0 p1 h R) H

/- slices.Contains[[]string,string] -/
def W62 (p0 : Sl) (p1 : ByteArray) (h : Heap) (R : Value → Heap → Prop) : Prop :=
  (Fn Tryd.prog 51 #[.slice p0.a p0.n p0.c, .string p1] h 
  (fun v1 h3 => ∃ x2 : Int, v1 = .int .i64 x2 ∧ 
  R (.bool (decide (x2 ≥ 0))) h3))
theorem vc62e (p0 : Sl) (p1 : ByteArray) (h : Heap) (R : Value → Heap → Prop) : W62 p0 p1 h R = fnW Tryd.prog 62 .z #[.slice p0.a p0.n p0.c, .string p1] h R := by kernel_rfl
theorem vc62 (p0 : Sl) (p1 : ByteArray) (h : Heap) (R : Value → Heap → Prop) (H : W62 p0 p1 h R) : Fn Tryd.prog 62 #[.slice p0.a p0.n p0.c, .string p1] h R := fnI (vc62e p0 p1 h R) H

/- slices.IndexFunc[[]string,string]
   loop rlrb: x_4:Int -/
def W63 (p0 : Sl) (p1 : FuncId) (h : Heap) (R : Value → Heap → Prop) : Prop :=
  (∃ I1 : Int → Heap → Nat → Prop, (∃ m2, I1 0 h m2) ∧ 
  (∀ (_ : Env) (x_4 : Int) (h5 : Heap) (m3 : Nat), I1 x_4 h5 m3 → 
  (sB (decide (x_4 < (p0.n : Int))) 
    ((NB p0.a fun b6 o7 => ((0 ≤ (x_4 : Int) ∧ (x_4 : Int) < (p0.n : Nat)) ∧ 
    (∃ x8 : ByteArray, hc h5 ⟨b6, o7 + Int.toNat x_4 * 1, none⟩ = some (.string x8) ∧ 
    (bif callable Tryd.prog p1 then Fn Tryd.prog p1 #[.string x8] h5 
    (fun v9 h11 => ∃ x10 : Bool, v9 = .bool x10 ∧ 
    (sB x10 
     (R (.int .i64 x_4) h11) 
     ((∃ m12, m12 < m3 ∧ I1 (IntKind.wrap .i64 (x_4 + 1)) h11 m12)))) else ExtW Tryd.prog p1 #[.string x8] h5 
    (fun v9 h11 => ∃ x10 : Bool, v9 = .bool x10 ∧ 
    (sB x10 
     (R (.int .i64 x_4) h11) 
     ((∃ m12, m12 < m3 ∧ I1 (IntKind.wrap .i64 (x_4 + 1)) h11 m12))))))))) 
    (R (.int .i64 (-1)) h5))))
theorem vc63e (p0 : Sl) (p1 : FuncId) (h : Heap) (R : Value → Heap → Prop) : W63 p0 p1 h R = fnW Tryd.prog 63 (.s .z (.s (.s .z (.b (.l [(8, .one (.int .i64))] .z))) .z)) #[.slice p0.a p0.n p0.c, .func (.func p1) #[] #[]] h R := by kernel_rfl
theorem vc63 (p0 : Sl) (p1 : FuncId) (h : Heap) (R : Value → Heap → Prop) (H : W63 p0 p1 h R) : Fn Tryd.prog 63 #[.slice p0.a p0.n p0.c, .func (.func p1) #[] #[]] h R := fnI (vc63e p0 p1 h R) H

/- farandole/lex.letter -/
def W64 (p0 : Int) (h : Heap) (R : Value → Heap → Prop) : Prop :=
  (sB (decide ((97 : Int) ≤ p0)) 
   ((sB (decide (p0 ≤ 122)) 
    (R (.bool true) h) 
    ((sB (decide ((65 : Int) ≤ p0)) 
     (R (.bool (decide (p0 ≤ 90))) h) 
     (R (.bool false) h))))) 
   ((sB (decide ((65 : Int) ≤ p0)) 
    (R (.bool (decide (p0 ≤ 90))) h) 
    (R (.bool false) h))))
theorem vc64e (p0 : Int) (h : Heap) (R : Value → Heap → Prop) : W64 p0 h R = fnW Tryd.prog 64 .z #[.int .u8 p0] h R := by kernel_rfl
theorem vc64 (p0 : Int) (h : Heap) (R : Value → Heap → Prop) (H : W64 p0 h R) : Fn Tryd.prog 64 #[.int .u8 p0] h R := fnI (vc64e p0 h R) H

/- farandole/lex.inner -/
def W65 (p0 : Int) (h : Heap) (R : Value → Heap → Prop) : Prop :=
  (Fn Tryd.prog 64 #[.int .u8 p0] h 
  (fun v1 h3 => ∃ x2 : Bool, v1 = .bool x2 ∧ 
  (sB x2 
   (R (.bool true) h3) 
   ((Fn Tryd.prog 80 #[.int .u8 p0] h3 
   (fun v4 h6 => ∃ x5 : Bool, v4 = .bool x5 ∧ 
   (sB x5 
    (R (.bool true) h6) 
    (R (.bool (p0 == 95)) h6))))))))
theorem vc65e (p0 : Int) (h : Heap) (R : Value → Heap → Prop) : W65 p0 h R = fnW Tryd.prog 65 .z #[.int .u8 p0] h R := by kernel_rfl
theorem vc65 (p0 : Int) (h : Heap) (R : Value → Heap → Prop) (H : W65 p0 h R) : Fn Tryd.prog 65 #[.int .u8 p0] h R := fnI (vc65e p0 h R) H

/- internal/stringslite.CutPrefix -/
def W66 (p0 : ByteArray) (p1 : ByteArray) (h : Heap) (R : Value → Heap → Prop) : Prop :=
  (Fn Tryd.prog 78 #[.string p0, .string p1] h 
  (fun v1 h3 => ∃ x2 : Bool, v1 = .bool x2 ∧ 
  (sB (!x2) 
   (R (.tuple ⟨[.string p0, .bool false]⟩) h3) 
   ((((0 : Int) ≤ ((ByteArray.size p1 : Int) : Int) ∧ ((ByteArray.size p1 : Int) : Int) ≤ ((ByteArray.size p0) : Int) ∧ ((ByteArray.size p0) : Int) ≤ (ByteArray.size p0 : Nat)) ∧ 
   R (.tuple ⟨[.string (ByteArray.extract p0 (Int.toNat (ByteArray.size p1 : Int)) (Int.toNat (ByteArray.size p0))), .bool true]⟩) h3)))))
theorem vc66e (p0 : ByteArray) (p1 : ByteArray) (h : Heap) (R : Value → Heap → Prop) : W66 p0 p1 h R = fnW Tryd.prog 66 .z #[.string p0, .string p1] h R := by kernel_rfl
theorem vc66 (p0 : ByteArray) (p1 : ByteArray) (h : Heap) (R : Value → Heap → Prop) (H : W66 p0 p1 h R) : Fn Tryd.prog 66 #[.string p0, .string p1] h R := fnI (vc66e p0 p1 h R) H

/- strings.IndexFunc -/
def W71 (p0 : ByteArray) (p1 : FuncId) (h : Heap) (R : Value → Heap → Prop) : Prop :=
  (Fn Tryd.prog 84 #[.string p0, .func (.func p1) #[] #[], .bool true] h 
  (fun v1 h3 => ∃ x2 : Int, v1 = .int .i64 x2 ∧ 
  R (.int .i64 x2) h3))
theorem vc71e (p0 : ByteArray) (p1 : FuncId) (h : Heap) (R : Value → Heap → Prop) : W71 p0 p1 h R = fnW Tryd.prog 71 .z #[.string p0, .func (.func p1) #[] #[]] h R := by kernel_rfl
theorem vc71 (p0 : ByteArray) (p1 : FuncId) (h : Heap) (R : Value → Heap → Prop) (H : W71 p0 p1 h R) : Fn Tryd.prog 71 #[.string p0, .func (.func p1) #[] #[]] h R := fnI (vc71e p0 p1 h R) H

/- farandole/chart.label$1 -/
def W72 (p0 : Int) (h : Heap) (R : Value → Heap → Prop) : Prop :=
  (sB (decide (p0 < 128)) 
   ((Fn Tryd.prog 43 #[.int .u8 (IntKind.wrap .u8 p0)] h 
   (fun v1 h3 => ∃ x2 : Bool, v1 = .bool x2 ∧ 
   R (.bool x2) h3))) 
   (R (.bool false) h))
theorem vc72e (p0 : Int) (h : Heap) (R : Value → Heap → Prop) : W72 p0 h R = fnW Tryd.prog 72 .z #[.int .i32 p0] h R := by kernel_rfl
theorem vc72 (p0 : Int) (h : Heap) (R : Value → Heap → Prop) (H : W72 p0 h R) : Fn Tryd.prog 72 #[.int .i32 p0] h R := fnI (vc72e p0 h R) H

/- farandole/farandoleref09.letter -/
def W73 (p0 : Int) (h : Heap) (R : Value → Heap → Prop) : Prop :=
  (sB (decide (p0 ≥ 97)) 
   ((sB (decide (p0 ≤ 122)) 
    (R (.bool true) h) 
    ((sB (decide (p0 ≥ 65)) 
     (R (.bool (decide (p0 ≤ 90))) h) 
     (R (.bool false) h))))) 
   ((sB (decide (p0 ≥ 65)) 
    (R (.bool (decide (p0 ≤ 90))) h) 
    (R (.bool false) h))))
theorem vc73e (p0 : Int) (h : Heap) (R : Value → Heap → Prop) : W73 p0 h R = fnW Tryd.prog 73 .z #[.int .u8 p0] h R := by kernel_rfl
theorem vc73 (p0 : Int) (h : Heap) (R : Value → Heap → Prop) (H : W73 p0 h R) : Fn Tryd.prog 73 #[.int .u8 p0] h R := fnI (vc73e p0 h R) H

/- farandole/farandoleref09.inner -/
def W74 (p0 : Int) (h : Heap) (R : Value → Heap → Prop) : Prop :=
  (Fn Tryd.prog 73 #[.int .u8 p0] h 
  (fun v1 h3 => ∃ x2 : Bool, v1 = .bool x2 ∧ 
  (sB x2 
   (R (.bool true) h3) 
   ((Fn Tryd.prog 85 #[.int .u8 p0] h3 
   (fun v4 h6 => ∃ x5 : Bool, v4 = .bool x5 ∧ 
   (sB x5 
    (R (.bool true) h6) 
    (R (.bool (p0 == 95)) h6))))))))
theorem vc74e (p0 : Int) (h : Heap) (R : Value → Heap → Prop) : W74 p0 h R = fnW Tryd.prog 74 .z #[.int .u8 p0] h R := by kernel_rfl
theorem vc74 (p0 : Int) (h : Heap) (R : Value → Heap → Prop) (H : W74 p0 h R) : Fn Tryd.prog 74 #[.int .u8 p0] h R := fnI (vc74e p0 h R) H

/- internal/stringslite.HasPrefix -/
def W78 (p0 : ByteArray) (p1 : ByteArray) (h : Heap) (R : Value → Heap → Prop) : Prop :=
  (sB (decide ((ByteArray.size p0 : Int) ≥ (ByteArray.size p1 : Int))) 
   ((((0 : Int) ≤ (0 : Int) ∧ (0 : Int) ≤ ((ByteArray.size p1 : Int) : Int) ∧ ((ByteArray.size p1 : Int) : Int) ≤ (ByteArray.size p0 : Nat)) ∧ 
   R (.bool ((ByteArray.toList (ByteArray.extract p0 (Int.toNat 0) (Int.toNat (ByteArray.size p1 : Int)))) == (ByteArray.toList p1))) h)) 
   (R (.bool false) h))
theorem vc78e (p0 : ByteArray) (p1 : ByteArray) (h : Heap) (R : Value → Heap → Prop) : W78 p0 p1 h R = fnW Tryd.prog 78 .z #[.string p0, .string p1] h R := by kernel_rfl
theorem vc78 (p0 : ByteArray) (p1 : ByteArray) (h : Heap) (R : Value → Heap → Prop) (H : W78 p0 p1 h R) : Fn Tryd.prog 78 #[.string p0, .string p1] h R := fnI (vc78e p0 p1 h R) H

/- farandole/lex.digit -/
def W80 (p0 : Int) (h : Heap) (R : Value → Heap → Prop) : Prop :=
  (sB (decide ((48 : Int) ≤ p0)) 
   (R (.bool (decide (p0 ≤ 57))) h) 
   (R (.bool false) h))
theorem vc80e (p0 : Int) (h : Heap) (R : Value → Heap → Prop) : W80 p0 h R = fnW Tryd.prog 80 .z #[.int .u8 p0] h R := by kernel_rfl
theorem vc80 (p0 : Int) (h : Heap) (R : Value → Heap → Prop) (H : W80 p0 h R) : Fn Tryd.prog 80 #[.int .u8 p0] h R := fnI (vc80e p0 h R) H

/- strings.indexFunc
   loop rlrb:  -/
def W84 (p0 : ByteArray) (p1 : FuncId) (p2 : Bool) (h : Heap) (R : Value → Heap → Prop) : Prop :=
  (RunW Tryd.prog (Instr.range 9 (.string p0)) h (fun v1 h2 => ∃ a3 : Addr, v1 = .pointer (some a3) ∧ 
  (∃ I4 : Heap → Nat → Prop, (∃ m5, I4 h2 m5) ∧ 
  (∀ (_ : Env) (h7 : Heap) (m6 : Nat), I4 h7 m6 → 
  (RunW Tryd.prog (Instr.next (.pointer (some a3)) true 0) h7 (fun v8 h9 => (v8 = .tuple ⟨[.bool false]⟩ ∧ 
   R (.int .i64 (-1)) h9) ∨ 
   (∃ x10 : Int, ∃ x11 : Int, v8 = .tuple ⟨[.bool true, .int .i64 x10, .int .i32 x11]⟩ ∧ 
   (bif callable Tryd.prog p1 then Fn Tryd.prog p1 #[.int .i32 x11] h9 
   (fun v12 h14 => ∃ x13 : Bool, v12 = .bool x13 ∧ 
   (sB (x13 == p2) 
    (R (.int .i64 x10) h14) 
    ((∃ m15, m15 < m6 ∧ I4 h14 m15)))) else ExtW Tryd.prog p1 #[.int .i32 x11] h9 
   (fun v12 h14 => ∃ x13 : Bool, v12 = .bool x13 ∧ 
   (sB (x13 == p2) 
    (R (.int .i64 x10) h14) 
    ((∃ m15, m15 < m6 ∧ I4 h14 m15))))))))))))
theorem vc84e (p0 : ByteArray) (p1 : FuncId) (p2 : Bool) (h : Heap) (R : Value → Heap → Prop) : W84 p0 p1 p2 h R = fnW Tryd.prog 84 (.s .z (.s (.s .z (.b (.l [] .z))) .z)) #[.string p0, .func (.func p1) #[] #[], .bool p2] h R := by kernel_rfl
theorem vc84 (p0 : ByteArray) (p1 : FuncId) (p2 : Bool) (h : Heap) (R : Value → Heap → Prop) (H : W84 p0 p1 p2 h R) : Fn Tryd.prog 84 #[.string p0, .func (.func p1) #[] #[], .bool p2] h R := fnI (vc84e p0 p1 p2 h R) H

/- farandole/farandoleref09.digit -/
def W85 (p0 : Int) (h : Heap) (R : Value → Heap → Prop) : Prop :=
  (sB (decide (p0 ≥ 48)) 
   (R (.bool (decide (p0 ≤ 57))) h) 
   (R (.bool false) h))
theorem vc85e (p0 : Int) (h : Heap) (R : Value → Heap → Prop) : W85 p0 h R = fnW Tryd.prog 85 .z #[.int .u8 p0] h R := by kernel_rfl
theorem vc85 (p0 : Int) (h : Heap) (R : Value → Heap → Prop) (H : W85 p0 h R) : Fn Tryd.prog 85 #[.int .u8 p0] h R := fnI (vc85e p0 h R) H

/- strings.Repeat
   join rrrrrrrlrb: x_11:Bool
   loop rrrrrrrrrrrrrlb: 
   join rrrrrrrrr: chunkMax_108:Int
   join rrrrrrr: 
   join rrrr: 
   join rr:  -/
def W35 (p0 : ByteArray) (p1 : Int) (h : Heap) (R : Value → Heap → Prop) : Prop :=
  (sB (p1 == 0) 
   (R (.string ⟨#[]⟩) h) 
   ((sB (p1 == 1) 
    (R (.string p0) h) 
    ((∃ J1 : Heap → Prop, 
    ((sB (decide (p1 < 0)) 
      (False) 
      ((J1 h)))) ∧ 
    (∀ (_ : Env) (h2 : Heap), J1 h2 → 
    (Fn Tryd.prog 57 #[.int .u64 (IntKind.wrap .u64 (ByteArray.size p0 : Int)), .int .u64 (IntKind.wrap .u64 p1)] h2 
     (fun v3 h6 => ∃ x4 : Int, ∃ x5 : Int, v3 = .tuple ⟨[.int .u64 x4, .int .u64 x5]⟩ ∧ 
     (∃ J7 : Heap → Prop, 
     ((sB (decide (x4 > 0)) 
       (False) 
       ((sB (decide (x5 > 9223372036854775807)) 
        (False) 
        ((J7 h6)))))) ∧ 
     (∀ (_ : Env) (h8 : Heap), J7 h8 → 
     (sB ((ByteArray.size p0 : Int) == 0) 
       (R (.string ⟨#[]⟩) h8) 
       ((∃ J9 : Heap → Prop, 
       (((0 ≤ (0 : Int) ∧ (0 : Int) < (ByteArray.size p0 : Nat)) ∧ 
        (∃ J10 : Bool → Heap → Prop, 
        ((sB ((byteAt p0 (Int.toNat 0) : Int) == 32) 
          ((J10 ((byteAt p0 (Int.toNat 0) : Int) == 32) h8)) 
          ((sB ((byteAt p0 (Int.toNat 0) : Int) == 45) 
           ((J10 ((byteAt p0 (Int.toNat 0) : Int) == 45) h8)) 
           ((sB ((byteAt p0 (Int.toNat 0) : Int) == 48) 
            ((J10 ((byteAt p0 (Int.toNat 0) : Int) == 48) h8)) 
            ((sB ((byteAt p0 (Int.toNat 0) : Int) == 61) 
             ((J10 ((byteAt p0 (Int.toNat 0) : Int) == 61) h8)) 
             ((J10 ((byteAt p0 (Int.toNat 0) : Int) == 9) h8)))))))))) ∧ 
        (∀ (_ : Env) (x_11 : Bool) (h12 : Heap), J10 x_11 h12 → 
        (sB x_11 
          ((sB (decide ((IntKind.wrap .i64 x5) ≤ 128)) 
           ((Fn Tryd.prog 58 #[.string ⟨#[32, 32, 32, 32, 32, 32, 32, 32, 32, 32, 32, 32, 32, 32, 32, 32, 32, 32, 32, 32, 32, 32, 32, 32, 32, 32, 32, 32, 32, 32, 32, 32, 32, 32, 32, 32, 32, 32, 32, 32, 32, 32, 32, 32, 32, 32, 32, 32, 32, 32, 32, 32, 32, 32, 32, 32, 32, 32, 32, 32, 32, 32, 32, 32, 32, 32, 32, 32, 32, 32, 32, 32, 32, 32, 32, 32, 32, 32, 32, 32, 32, 32, 32, 32, 32, 32, 32, 32, 32, 32, 32, 32, 32, 32, 32, 32, 32, 32, 32, 32, 32, 32, 32, 32, 32, 32, 32, 32, 32, 32, 32, 32, 32, 32, 32, 32, 32, 32, 32, 32, 32, 32, 32, 32, 32, 32, 32, 32]⟩, .string p0] h12 
           (fun v13 h15 => ∃ x14 : Bool, v13 = .bool x14 ∧ 
           (sB x14 
            ((((0 : Int) ≤ (0 : Int) ∧ (0 : Int) ≤ ((IntKind.wrap .i64 x5) : Int) ∧ ((IntKind.wrap .i64 x5) : Int) ≤ (ByteArray.size ⟨#[32, 32, 32, 32, 32, 32, 32, 32, 32, 32, 32, 32, 32, 32, 32, 32, 32, 32, 32, 32, 32, 32, 32, 32, 32, 32, 32, 32, 32, 32, 32, 32, 32, 32, 32, 32, 32, 32, 32, 32, 32, 32, 32, 32, 32, 32, 32, 32, 32, 32, 32, 32, 32, 32, 32, 32, 32, 32, 32, 32, 32, 32, 32, 32, 32, 32, 32, 32, 32, 32, 32, 32, 32, 32, 32, 32, 32, 32, 32, 32, 32, 32, 32, 32, 32, 32, 32, 32, 32, 32, 32, 32, 32, 32, 32, 32, 32, 32, 32, 32, 32, 32, 32, 32, 32, 32, 32, 32, 32, 32, 32, 32, 32, 32, 32, 32, 32, 32, 32, 32, 32, 32, 32, 32, 32, 32, 32, 32]⟩ : Nat)) ∧ 
            R (.string (ByteArray.extract ⟨#[32, 32, 32, 32, 32, 32, 32, 32, 32, 32, 32, 32, 32, 32, 32, 32, 32, 32, 32, 32, 32, 32, 32, 32, 32, 32, 32, 32, 32, 32, 32, 32, 32, 32, 32, 32, 32, 32, 32, 32, 32, 32, 32, 32, 32, 32, 32, 32, 32, 32, 32, 32, 32, 32, 32, 32, 32, 32, 32, 32, 32, 32, 32, 32, 32, 32, 32, 32, 32, 32, 32, 32, 32, 32, 32, 32, 32, 32, 32, 32, 32, 32, 32, 32, 32, 32, 32, 32, 32, 32, 32, 32, 32, 32, 32, 32, 32, 32, 32, 32, 32, 32, 32, 32, 32, 32, 32, 32, 32, 32, 32, 32, 32, 32, 32, 32, 32, 32, 32, 32, 32, 32, 32, 32, 32, 32, 32, 32]⟩ (Int.toNat 0) (Int.toNat (IntKind.wrap .i64 x5)))) h15)) 
            ((sB (decide ((IntKind.wrap .i64 x5) ≤ 128)) 
             ((Fn Tryd.prog 58 #[.string ⟨#[45, 45, 45, 45, 45, 45, 45, 45, 45, 45, 45, 45, 45, 45, 45, 45, 45, 45, 45, 45, 45, 45, 45, 45, 45, 45, 45, 45, 45, 45, 45, 45, 45, 45, 45, 45, 45, 45, 45, 45, 45, 45, 45, 45, 45, 45, 45, 45, 45, 45, 45, 45, 45, 45, 45, 45, 45, 45, 45, 45, 45, 45, 45, 45, 45, 45, 45, 45, 45, 45, 45, 45, 45, 45, 45, 45, 45, 45, 45, 45, 45, 45, 45, 45, 45, 45, 45, 45, 45, 45, 45, 45, 45, 45, 45, 45, 45, 45, 45, 45, 45, 45, 45, 45, 45, 45, 45, 45, 45, 45, 45, 45, 45, 45, 45, 45, 45, 45, 45, 45, 45, 45, 45, 45, 45, 45, 45, 45]⟩, .string p0] h15 
             (fun v16 h18 => ∃ x17 : Bool, v16 = .bool x17 ∧ 
             (sB x17 
              ((((0 : Int) ≤ (0 : Int) ∧ (0 : Int) ≤ ((IntKind.wrap .i64 x5) : Int) ∧ ((IntKind.wrap .i64 x5) : Int) ≤ (ByteArray.size ⟨#[45, 45, 45, 45, 45, 45, 45, 45, 45, 45, 45, 45, 45, 45, 45, 45, 45, 45, 45, 45, 45, 45, 45, 45, 45, 45, 45, 45, 45, 45, 45, 45, 45, 45, 45, 45, 45, 45, 45, 45, 45, 45, 45, 45, 45, 45, 45, 45, 45, 45, 45, 45, 45, 45, 45, 45, 45, 45, 45, 45, 45, 45, 45, 45, 45, 45, 45, 45, 45, 45, 45, 45, 45, 45, 45, 45, 45, 45, 45, 45, 45, 45, 45, 45, 45, 45, 45, 45, 45, 45, 45, 45, 45, 45, 45, 45, 45, 45, 45, 45, 45, 45, 45, 45, 45, 45, 45, 45, 45, 45, 45, 45, 45, 45, 45, 45, 45, 45, 45, 45, 45, 45, 45, 45, 45, 45, 45, 45]⟩ : Nat)) ∧ 
              R (.string (ByteArray.extract ⟨#[45, 45, 45, 45, 45, 45, 45, 45, 45, 45, 45, 45, 45, 45, 45, 45, 45, 45, 45, 45, 45, 45, 45, 45, 45, 45, 45, 45, 45, 45, 45, 45, 45, 45, 45, 45, 45, 45, 45, 45, 45, 45, 45, 45, 45, 45, 45, 45, 45, 45, 45, 45, 45, 45, 45, 45, 45, 45, 45, 45, 45, 45, 45, 45, 45, 45, 45, 45, 45, 45, 45, 45, 45, 45, 45, 45, 45, 45, 45, 45, 45, 45, 45, 45, 45, 45, 45, 45, 45, 45, 45, 45, 45, 45, 45, 45, 45, 45, 45, 45, 45, 45, 45, 45, 45, 45, 45, 45, 45, 45, 45, 45, 45, 45, 45, 45, 45, 45, 45, 45, 45, 45, 45, 45, 45, 45, 45, 45]⟩ (Int.toNat 0) (Int.toNat (IntKind.wrap .i64 x5)))) h18)) 
              ((sB (decide ((IntKind.wrap .i64 x5) ≤ 64)) 
               ((Fn Tryd.prog 58 #[.string ⟨#[48, 48, 48, 48, 48, 48, 48, 48, 48, 48, 48, 48, 48, 48, 48, 48, 48, 48, 48, 48, 48, 48, 48, 48, 48, 48, 48, 48, 48, 48, 48, 48, 48, 48, 48, 48, 48, 48, 48, 48, 48, 48, 48, 48, 48, 48, 48, 48, 48, 48, 48, 48, 48, 48, 48, 48, 48, 48, 48, 48, 48, 48, 48, 48]⟩, .string p0] h18 
               (fun v19 h21 => ∃ x20 : Bool, v19 = .bool x20 ∧ 
               (sB x20 
                ((((0 : Int) ≤ (0 : Int) ∧ (0 : Int) ≤ ((IntKind.wrap .i64 x5) : Int) ∧ ((IntKind.wrap .i64 x5) : Int) ≤ (ByteArray.size ⟨#[48, 48, 48, 48, 48, 48, 48, 48, 48, 48, 48, 48, 48, 48, 48, 48, 48, 48, 48, 48, 48, 48, 48, 48, 48, 48, 48, 48, 48, 48, 48, 48, 48, 48, 48, 48, 48, 48, 48, 48, 48, 48, 48, 48, 48, 48, 48, 48, 48, 48, 48, 48, 48, 48, 48, 48, 48, 48, 48, 48, 48, 48, 48, 48]⟩ : Nat)) ∧ 
                R (.string (ByteArray.extract ⟨#[48, 48, 48, 48, 48, 48, 48, 48, 48, 48, 48, 48, 48, 48, 48, 48, 48, 48, 48, 48, 48, 48, 48, 48, 48, 48, 48, 48, 48, 48, 48, 48, 48, 48, 48, 48, 48, 48, 48, 48, 48, 48, 48, 48, 48, 48, 48, 48, 48, 48, 48, 48, 48, 48, 48, 48, 48, 48, 48, 48, 48, 48, 48, 48]⟩ (Int.toNat 0) (Int.toNat (IntKind.wrap .i64 x5)))) h21)) 
                ((sB (decide ((IntKind.wrap .i64 x5) ≤ 128)) 
                 ((Fn Tryd.prog 58 #[.string ⟨#[61, 61, 61, 61, 61, 61, 61, 61, 61, 61, 61, 61, 61, 61, 61, 61, 61, 61, 61, 61, 61, 61, 61, 61, 61, 61, 61, 61, 61, 61, 61, 61, 61, 61, 61, 61, 61, 61, 61, 61, 61, 61, 61, 61, 61, 61, 61, 61, 61, 61, 61, 61, 61, 61, 61, 61, 61, 61, 61, 61, 61, 61, 61, 61, 61, 61, 61, 61, 61, 61, 61, 61, 61, 61, 61, 61, 61, 61, 61, 61, 61, 61, 61, 61, 61, 61, 61, 61, 61, 61, 61, 61, 61, 61, 61, 61, 61, 61, 61, 61, 61, 61, 61, 61, 61, 61, 61, 61, 61, 61, 61, 61, 61, 61, 61, 61, 61, 61, 61, 61, 61, 61, 61, 61, 61, 61, 61, 61]⟩, .string p0] h21 
                 (fun v22 h24 => ∃ x23 : Bool, v22 = .bool x23 ∧ 
                 (sB x23 
                  ((((0 : Int) ≤ (0 : Int) ∧ (0 : Int) ≤ ((IntKind.wrap .i64 x5) : Int) ∧ ((IntKind.wrap .i64 x5) : Int) ≤ (ByteArray.size ⟨#[61, 61, 61, 61, 61, 61, 61, 61, 61, 61, 61, 61, 61, 61, 61, 61, 61, 61, 61, 61, 61, 61, 61, 61, 61, 61, 61, 61, 61, 61, 61, 61, 61, 61, 61, 61, 61, 61, 61, 61, 61, 61, 61, 61, 61, 61, 61, 61, 61, 61, 61, 61, 61, 61, 61, 61, 61, 61, 61, 61, 61, 61, 61, 61, 61, 61, 61, 61, 61, 61, 61, 61, 61, 61, 61, 61, 61, 61, 61, 61, 61, 61, 61, 61, 61, 61, 61, 61, 61, 61, 61, 61, 61, 61, 61, 61, 61, 61, 61, 61, 61, 61, 61, 61, 61, 61, 61, 61, 61, 61, 61, 61, 61, 61, 61, 61, 61, 61, 61, 61, 61, 61, 61, 61, 61, 61, 61, 61]⟩ : Nat)) ∧ 
                  R (.string (ByteArray.extract ⟨#[61, 61, 61, 61, 61, 61, 61, 61, 61, 61, 61, 61, 61, 61, 61, 61, 61, 61, 61, 61, 61, 61, 61, 61, 61, 61, 61, 61, 61, 61, 61, 61, 61, 61, 61, 61, 61, 61, 61, 61, 61, 61, 61, 61, 61, 61, 61, 61, 61, 61, 61, 61, 61, 61, 61, 61, 61, 61, 61, 61, 61, 61, 61, 61, 61, 61, 61, 61, 61, 61, 61, 61, 61, 61, 61, 61, 61, 61, 61, 61, 61, 61, 61, 61, 61, 61, 61, 61, 61, 61, 61, 61, 61, 61, 61, 61, 61, 61, 61, 61, 61, 61, 61, 61, 61, 61, 61, 61, 61, 61, 61, 61, 61, 61, 61, 61, 61, 61, 61, 61, 61, 61, 61, 61, 61, 61, 61, 61]⟩ (Int.toNat 0) (Int.toNat (IntKind.wrap .i64 x5)))) h24)) 
                  ((sB (decide ((IntKind.wrap .i64 x5) ≤ 64)) 
                   ((Fn Tryd.prog 58 #[.string ⟨#[9, 9, 9, 9, 9, 9, 9, 9, 9, 9, 9, 9, 9, 9, 9, 9, 9, 9, 9, 9, 9, 9, 9, 9, 9, 9, 9, 9, 9, 9, 9, 9, 9, 9, 9, 9, 9, 9, 9, 9, 9, 9, 9, 9, 9, 9, 9, 9, 9, 9, 9, 9, 9, 9, 9, 9, 9, 9, 9, 9, 9, 9, 9, 9]⟩, .string p0] h24 
                   (fun v25 h27 => ∃ x26 : Bool, v25 = .bool x26 ∧ 
                   (sB x26 
                    ((((0 : Int) ≤ (0 : Int) ∧ (0 : Int) ≤ ((IntKind.wrap .i64 x5) : Int) ∧ ((IntKind.wrap .i64 x5) : Int) ≤ (ByteArray.size ⟨#[9, 9, 9, 9, 9, 9, 9, 9, 9, 9, 9, 9, 9, 9, 9, 9, 9, 9, 9, 9, 9, 9, 9, 9, 9, 9, 9, 9, 9, 9, 9, 9, 9, 9, 9, 9, 9, 9, 9, 9, 9, 9, 9, 9, 9, 9, 9, 9, 9, 9, 9, 9, 9, 9, 9, 9, 9, 9, 9, 9, 9, 9, 9, 9]⟩ : Nat)) ∧ 
                    R (.string (ByteArray.extract ⟨#[9, 9, 9, 9, 9, 9, 9, 9, 9, 9, 9, 9, 9, 9, 9, 9, 9, 9, 9, 9, 9, 9, 9, 9, 9, 9, 9, 9, 9, 9, 9, 9, 9, 9, 9, 9, 9, 9, 9, 9, 9, 9, 9, 9, 9, 9, 9, 9, 9, 9, 9, 9, 9, 9, 9, 9, 9, 9, 9, 9, 9, 9, 9, 9]⟩ (Int.toNat 0) (Int.toNat (IntKind.wrap .i64 x5)))) h27)) 
                    ((J9 h27)))))) 
                   ((J9 h24)))))))) 
                 ((sB (decide ((IntKind.wrap .i64 x5) ≤ 64)) 
                  ((Fn Tryd.prog 58 #[.string ⟨#[9, 9, 9, 9, 9, 9, 9, 9, 9, 9, 9, 9, 9, 9, 9, 9, 9, 9, 9, 9, 9, 9, 9, 9, 9, 9, 9, 9, 9, 9, 9, 9, 9, 9, 9, 9, 9, 9, 9, 9, 9, 9, 9, 9, 9, 9, 9, 9, 9, 9, 9, 9, 9, 9, 9, 9, 9, 9, 9, 9, 9, 9, 9, 9]⟩, .string p0] h21 
                  (fun v28 h30 => ∃ x29 : Bool, v28 = .bool x29 ∧ 
                  (sB x29 
                   ((((0 : Int) ≤ (0 : Int) ∧ (0 : Int) ≤ ((IntKind.wrap .i64 x5) : Int) ∧ ((IntKind.wrap .i64 x5) : Int) ≤ (ByteArray.size ⟨#[9, 9, 9, 9, 9, 9, 9, 9, 9, 9, 9, 9, 9, 9, 9, 9, 9, 9, 9, 9, 9, 9, 9, 9, 9, 9, 9, 9, 9, 9, 9, 9, 9, 9, 9, 9, 9, 9, 9, 9, 9, 9, 9, 9, 9, 9, 9, 9, 9, 9, 9, 9, 9, 9, 9, 9, 9, 9, 9, 9, 9, 9, 9, 9]⟩ : Nat)) ∧ 
                   R (.string (ByteArray.extract ⟨#[9, 9, 9, 9, 9, 9, 9, 9, 9, 9, 9, 9, 9, 9, 9, 9, 9, 9, 9, 9, 9, 9, 9, 9, 9, 9, 9, 9, 9, 9, 9, 9, 9, 9, 9, 9, 9, 9, 9, 9, 9, 9, 9, 9, 9, 9, 9, 9, 9, 9, 9, 9, 9, 9, 9, 9, 9, 9, 9, 9, 9, 9, 9, 9]⟩ (Int.toNat 0) (Int.toNat (IntKind.wrap .i64 x5)))) h30)) 
                   ((J9 h30)))))) 
                  ((J9 h21)))))))))) 
               ((sB (decide ((IntKind.wrap .i64 x5) ≤ 128)) 
                ((Fn Tryd.prog 58 #[.string ⟨#[61, 61, 61, 61, 61, 61, 61, 61, 61, 61, 61, 61, 61, 61, 61, 61, 61, 61, 61, 61, 61, 61, 61, 61, 61, 61, 61, 61, 61, 61, 61, 61, 61, 61, 61, 61, 61, 61, 61, 61, 61, 61, 61, 61, 61, 61, 61, 61, 61, 61, 61, 61, 61, 61, 61, 61, 61, 61, 61, 61, 61, 61, 61, 61, 61, 61, 61, 61, 61, 61, 61, 61, 61, 61, 61, 61, 61, 61, 61, 61, 61, 61, 61, 61, 61, 61, 61, 61, 61, 61, 61, 61, 61, 61, 61, 61, 61, 61, 61, 61, 61, 61, 61, 61, 61, 61, 61, 61, 61, 61, 61, 61, 61, 61, 61, 61, 61, 61, 61, 61, 61, 61, 61, 61, 61, 61, 61, 61]⟩, .string p0] h18 
                (fun v31 h33 => ∃ x32 : Bool, v31 = .bool x32 ∧ 
                (sB x32 
                 ((((0 : Int) ≤ (0 : Int) ∧ (0 : Int) ≤ ((IntKind.wrap .i64 x5) : Int) ∧ ((IntKind.wrap .i64 x5) : Int) ≤ (ByteArray.size ⟨#[61, 61, 61, 61, 61, 61, 61, 61, 61, 61, 61, 61, 61, 61, 61, 61, 61, 61, 61, 61, 61, 61, 61, 61, 61, 61, 61, 61, 61, 61, 61, 61, 61, 61, 61, 61, 61, 61, 61, 61, 61, 61, 61, 61, 61, 61, 61, 61, 61, 61, 61, 61, 61, 61, 61, 61, 61, 61, 61, 61, 61, 61, 61, 61, 61, 61, 61, 61, 61, 61, 61, 61, 61, 61, 61, 61, 61, 61, 61, 61, 61, 61, 61, 61, 61, 61, 61, 61, 61, 61, 61, 61, 61, 61, 61, 61, 61, 61, 61, 61, 61, 61, 61, 61, 61, 61, 61, 61, 61, 61, 61, 61, 61, 61, 61, 61, 61, 61, 61, 61, 61, 61, 61, 61, 61, 61, 61, 61]⟩ : Nat)) ∧ 
                 R (.string (ByteArray.extract ⟨#[61, 61, 61, 61, 61, 61, 61, 61, 61, 61, 61, 61, 61, 61, 61, 61, 61, 61, 61, 61, 61, 61, 61, 61, 61, 61, 61, 61, 61, 61, 61, 61, 61, 61, 61, 61, 61, 61, 61, 61, 61, 61, 61, 61, 61, 61, 61, 61, 61, 61, 61, 61, 61, 61, 61, 61, 61, 61, 61, 61, 61, 61, 61, 61, 61, 61, 61, 61, 61, 61, 61, 61, 61, 61, 61, 61, 61, 61, 61, 61, 61, 61, 61, 61, 61, 61, 61, 61, 61, 61, 61, 61, 61, 61, 61, 61, 61, 61, 61, 61, 61, 61, 61, 61, 61, 61, 61, 61, 61, 61, 61, 61, 61, 61, 61, 61, 61, 61, 61, 61, 61, 61, 61, 61, 61, 61, 61, 61]⟩ (Int.toNat 0) (Int.toNat (IntKind.wrap .i64 x5)))) h33)) 
                 ((sB (decide ((IntKind.wrap .i64 x5) ≤ 64)) 
                  ((Fn Tryd.prog 58 #[.string ⟨#[9, 9, 9, 9, 9, 9, 9, 9, 9, 9, 9, 9, 9, 9, 9, 9, 9, 9, 9, 9, 9, 9, 9, 9, 9, 9, 9, 9, 9, 9, 9, 9, 9, 9, 9, 9, 9, 9, 9, 9, 9, 9, 9, 9, 9, 9, 9, 9, 9, 9, 9, 9, 9, 9, 9, 9, 9, 9, 9, 9, 9, 9, 9, 9]⟩, .string p0] h33 
                  (fun v34 h36 => ∃ x35 : Bool, v34 = .bool x35 ∧ 
                  (sB x35 
                   ((((0 : Int) ≤ (0 : Int) ∧ (0 : Int) ≤ ((IntKind.wrap .i64 x5) : Int) ∧ ((IntKind.wrap .i64 x5) : Int) ≤ (ByteArray.size ⟨#[9, 9, 9, 9, 9, 9, 9, 9, 9, 9, 9, 9, 9, 9, 9, 9, 9, 9, 9, 9, 9, 9, 9, 9, 9, 9, 9, 9, 9, 9, 9, 9, 9, 9, 9, 9, 9, 9, 9, 9, 9, 9, 9, 9, 9, 9, 9, 9, 9, 9, 9, 9, 9, 9, 9, 9, 9, 9, 9, 9, 9, 9, 9, 9]⟩ : Nat)) ∧ 
                   R (.string (ByteArray.extract ⟨#[9, 9, 9, 9, 9, 9, 9, 9, 9, 9, 9, 9, 9, 9, 9, 9, 9, 9, 9, 9, 9, 9, 9, 9, 9, 9, 9, 9, 9, 9, 9, 9, 9, 9, 9, 9, 9, 9, 9, 9, 9, 9, 9, 9, 9, 9, 9, 9, 9, 9, 9, 9, 9, 9, 9, 9, 9, 9, 9, 9, 9, 9, 9, 9]⟩ (Int.toNat 0) (Int.toNat (IntKind.wrap .i64 x5)))) h36)) 
                   ((J9 h36)))))) 
                  ((J9 h33)))))))) 
                ((sB (decide ((IntKind.wrap .i64 x5) ≤ 64)) 
                 ((Fn Tryd.prog 58 #[.string ⟨#[9, 9, 9, 9, 9, 9, 9, 9, 9, 9, 9, 9, 9, 9, 9, 9, 9, 9, 9, 9, 9, 9, 9, 9, 9, 9, 9, 9, 9, 9, 9, 9, 9, 9, 9, 9, 9, 9, 9, 9, 9, 9, 9, 9, 9, 9, 9, 9, 9, 9, 9, 9, 9, 9, 9, 9, 9, 9, 9, 9, 9, 9, 9, 9]⟩, .string p0] h18 
                 (fun v37 h39 => ∃ x38 : Bool, v37 = .bool x38 ∧ 
                 (sB x38 
                  ((((0 : Int) ≤ (0 : Int) ∧ (0 : Int) ≤ ((IntKind.wrap .i64 x5) : Int) ∧ ((IntKind.wrap .i64 x5) : Int) ≤ (ByteArray.size ⟨#[9, 9, 9, 9, 9, 9, 9, 9, 9, 9, 9, 9, 9, 9, 9, 9, 9, 9, 9, 9, 9, 9, 9, 9, 9, 9, 9, 9, 9, 9, 9, 9, 9, 9, 9, 9, 9, 9, 9, 9, 9, 9, 9, 9, 9, 9, 9, 9, 9, 9, 9, 9, 9, 9, 9, 9, 9, 9, 9, 9, 9, 9, 9, 9]⟩ : Nat)) ∧ 
                  R (.string (ByteArray.extract ⟨#[9, 9, 9, 9, 9, 9, 9, 9, 9, 9, 9, 9, 9, 9, 9, 9, 9, 9, 9, 9, 9, 9, 9, 9, 9, 9, 9, 9, 9, 9, 9, 9, 9, 9, 9, 9, 9, 9, 9, 9, 9, 9, 9, 9, 9, 9, 9, 9, 9, 9, 9, 9, 9, 9, 9, 9, 9, 9, 9, 9, 9, 9, 9, 9]⟩ (Int.toNat 0) (Int.toNat (IntKind.wrap .i64 x5)))) h39)) 
                  ((J9 h39)))))) 
                 ((J9 h18)))))))))))) 
             ((sB (decide ((IntKind.wrap .i64 x5) ≤ 64)) 
              ((Fn Tryd.prog 58 #[.string ⟨#[48, 48, 48, 48, 48, 48, 48, 48, 48, 48, 48, 48, 48, 48, 48, 48, 48, 48, 48, 48, 48, 48, 48, 48, 48, 48, 48, 48, 48, 48, 48, 48, 48, 48, 48, 48, 48, 48, 48, 48, 48, 48, 48, 48, 48, 48, 48, 48, 48, 48, 48, 48, 48, 48, 48, 48, 48, 48, 48, 48, 48, 48, 48, 48]⟩, .string p0] h15 
              (fun v40 h42 => ∃ x41 : Bool, v40 = .bool x41 ∧ 
              (sB x41 
               ((((0 : Int) ≤ (0 : Int) ∧ (0 : Int) ≤ ((IntKind.wrap .i64 x5) : Int) ∧ ((IntKind.wrap .i64 x5) : Int) ≤ (ByteArray.size ⟨#[48, 48, 48, 48, 48, 48, 48, 48, 48, 48, 48, 48, 48, 48, 48, 48, 48, 48, 48, 48, 48, 48, 48, 48, 48, 48, 48, 48, 48, 48, 48, 48, 48, 48, 48, 48, 48, 48, 48, 48, 48, 48, 48, 48, 48, 48, 48, 48, 48, 48, 48, 48, 48, 48, 48, 48, 48, 48, 48, 48, 48, 48, 48, 48]⟩ : Nat)) ∧ 
               R (.string (ByteArray.extract ⟨#[48, 48, 48, 48, 48, 48, 48, 48, 48, 48, 48, 48, 48, 48, 48, 48, 48, 48, 48, 48, 48, 48, 48, 48, 48, 48, 48, 48, 48, 48, 48, 48, 48, 48, 48, 48, 48, 48, 48, 48, 48, 48, 48, 48, 48, 48, 48, 48, 48, 48, 48, 48, 48, 48, 48, 48, 48, 48, 48, 48, 48, 48, 48, 48]⟩ (Int.toNat 0) (Int.toNat (IntKind.wrap .i64 x5)))) h42)) 
               ((sB (decide ((IntKind.wrap .i64 x5) ≤ 128)) 
                ((Fn Tryd.prog 58 #[.string ⟨#[61, 61, 61, 61, 61, 61, 61, 61, 61, 61, 61, 61, 61, 61, 61, 61, 61, 61, 61, 61, 61, 61, 61, 61, 61, 61, 61, 61, 61, 61, 61, 61, 61, 61, 61, 61, 61, 61, 61, 61, 61, 61, 61, 61, 61, 61, 61, 61, 61, 61, 61, 61, 61, 61, 61, 61, 61, 61, 61, 61, 61, 61, 61, 61, 61, 61, 61, 61, 61, 61, 61, 61, 61, 61, 61, 61, 61, 61, 61, 61, 61, 61, 61, 61, 61, 61, 61, 61, 61, 61, 61, 61, 61, 61, 61, 61, 61, 61, 61, 61, 61, 61, 61, 61, 61, 61, 61, 61, 61, 61, 61, 61, 61, 61, 61, 61, 61, 61, 61, 61, 61, 61, 61, 61, 61, 61, 61, 61]⟩, .string p0] h42 
                (fun v43 h45 => ∃ x44 : Bool, v43 = .bool x44 ∧ 
                (sB x44 
                 ((((0 : Int) ≤ (0 : Int) ∧ (0 : Int) ≤ ((IntKind.wrap .i64 x5) : Int) ∧ ((IntKind.wrap .i64 x5) : Int) ≤ (ByteArray.size ⟨#[61, 61, 61, 61, 61, 61, 61, 61, 61, 61, 61, 61, 61, 61, 61, 61, 61, 61, 61, 61, 61, 61, 61, 61, 61, 61, 61, 61, 61, 61, 61, 61, 61, 61, 61, 61, 61, 61, 61, 61, 61, 61, 61, 61, 61, 61, 61, 61, 61, 61, 61, 61, 61, 61, 61, 61, 61, 61, 61, 61, 61, 61, 61, 61, 61, 61, 61, 61, 61, 61, 61, 61, 61, 61, 61, 61, 61, 61, 61, 61, 61, 61, 61, 61, 61, 61, 61, 61, 61, 61, 61, 61, 61, 61, 61, 61, 61, 61, 61, 61, 61, 61, 61, 61, 61, 61, 61, 61, 61, 61, 61, 61, 61, 61, 61, 61, 61, 61, 61, 61, 61, 61, 61, 61, 61, 61, 61, 61]⟩ : Nat)) ∧ 
                 R (.string (ByteArray.extract ⟨#[61, 61, 61, 61, 61, 61, 61, 61, 61, 61, 61, 61, 61, 61, 61, 61, 61, 61, 61, 61, 61, 61, 61, 61, 61, 61, 61, 61, 61, 61, 61, 61, 61, 61, 61, 61, 61, 61, 61, 61, 61, 61, 61, 61, 61, 61, 61, 61, 61, 61, 61, 61, 61, 61, 61, 61, 61, 61, 61, 61, 61, 61, 61, 61, 61, 61, 61, 61, 61, 61, 61, 61, 61, 61, 61, 61, 61, 61, 61, 61, 61, 61, 61, 61, 61, 61, 61, 61, 61, 61, 61, 61, 61, 61, 61, 61, 61, 61, 61, 61, 61, 61, 61, 61, 61, 61, 61, 61, 61, 61, 61, 61, 61, 61, 61, 61, 61, 61, 61, 61, 61, 61, 61, 61, 61, 61, 61, 61]⟩ (Int.toNat 0) (Int.toNat (IntKind.wrap .i64 x5)))) h45)) 
                 ((sB (decide ((IntKind.wrap .i64 x5) ≤ 64)) 
                  ((Fn Tryd.prog 58 #[.string ⟨#[9, 9, 9, 9, 9, 9, 9, 9, 9, 9, 9, 9, 9, 9, 9, 9, 9, 9, 9, 9, 9, 9, 9, 9, 9, 9, 9, 9, 9, 9, 9, 9, 9, 9, 9, 9, 9, 9, 9, 9, 9, 9, 9, 9, 9, 9, 9, 9, 9, 9, 9, 9, 9, 9, 9, 9, 9, 9, 9, 9, 9, 9, 9, 9]⟩, .string p0] h45 
                  (fun v46 h48 => ∃ x47 : Bool, v46 = .bool x47 ∧ 
                  (sB x47 
                   ((((0 : Int) ≤ (0 : Int) ∧ (0 : Int) ≤ ((IntKind.wrap .i64 x5) : Int) ∧ ((IntKind.wrap .i64 x5) : Int) ≤ (ByteArray.size ⟨#[9, 9, 9, 9, 9, 9, 9, 9, 9, 9, 9, 9, 9, 9, 9, 9, 9, 9, 9, 9, 9, 9, 9, 9, 9, 9, 9, 9, 9, 9, 9, 9, 9, 9, 9, 9, 9, 9, 9, 9, 9, 9, 9, 9, 9, 9, 9, 9, 9, 9, 9, 9, 9, 9, 9, 9, 9, 9, 9, 9, 9, 9, 9, 9]⟩ : Nat)) ∧ 
                   R (.string (ByteArray.extract ⟨#[9, 9, 9, 9, 9, 9, 9, 9, 9, 9, 9, 9, 9, 9, 9, 9, 9, 9, 9, 9, 9, 9, 9, 9, 9, 9, 9, 9, 9, 9, 9, 9, 9, 9, 9, 9, 9, 9, 9, 9, 9, 9, 9, 9, 9, 9, 9, 9, 9, 9, 9, 9, 9, 9, 9, 9, 9, 9, 9, 9, 9, 9, 9, 9]⟩ (Int.toNat 0) (Int.toNat (IntKind.wrap .i64 x5)))) h48)) 
                   ((J9 h48)))))) 
                  ((J9 h45)))))))) 
                ((sB (decide ((IntKind.wrap .i64 x5) ≤ 64)) 
                 ((Fn Tryd.prog 58 #[.string ⟨#[9, 9, 9, 9, 9, 9, 9, 9, 9, 9, 9, 9, 9, 9, 9, 9, 9, 9, 9, 9, 9, 9, 9, 9, 9, 9, 9, 9, 9, 9, 9, 9, 9, 9, 9, 9, 9, 9, 9, 9, 9, 9, 9, 9, 9, 9, 9, 9, 9, 9, 9, 9, 9, 9, 9, 9, 9, 9, 9, 9, 9, 9, 9, 9]⟩, .string p0] h42 
                 (fun v49 h51 => ∃ x50 : Bool, v49 = .bool x50 ∧ 
                 (sB x50 
                  ((((0 : Int) ≤ (0 : Int) ∧ (0 : Int) ≤ ((IntKind.wrap .i64 x5) : Int) ∧ ((IntKind.wrap .i64 x5) : Int) ≤ (ByteArray.size ⟨#[9, 9, 9, 9, 9, 9, 9, 9, 9, 9, 9, 9, 9, 9, 9, 9, 9, 9, 9, 9, 9, 9, 9, 9, 9, 9, 9, 9, 9, 9, 9, 9, 9, 9, 9, 9, 9, 9, 9, 9, 9, 9, 9, 9, 9, 9, 9, 9, 9, 9, 9, 9, 9, 9, 9, 9, 9, 9, 9, 9, 9, 9, 9, 9]⟩ : Nat)) ∧ 
                  R (.string (ByteArray.extract ⟨#[9, 9, 9, 9, 9, 9, 9, 9, 9, 9, 9, 9, 9, 9, 9, 9, 9, 9, 9, 9, 9, 9, 9, 9, 9, 9, 9, 9, 9, 9, 9, 9, 9, 9, 9, 9, 9, 9, 9, 9, 9, 9, 9, 9, 9, 9, 9, 9, 9, 9, 9, 9, 9, 9, 9, 9, 9, 9, 9, 9, 9, 9, 9, 9]⟩ (Int.toNat 0) (Int.toNat (IntKind.wrap .i64 x5)))) h51)) 
                  ((J9 h51)))))) 
                 ((J9 h42)))))))))) 
              ((sB (decide ((IntKind.wrap .i64 x5) ≤ 128)) 
               ((Fn Tryd.prog 58 #[.string ⟨#[61, 61, 61, 61, 61, 61, 61, 61, 61, 61, 61, 61, 61, 61, 61, 61, 61, 61, 61, 61, 61, 61, 61, 61, 61, 61, 61, 61, 61, 61, 61, 61, 61, 61, 61, 61, 61, 61, 61, 61, 61, 61, 61, 61, 61, 61, 61, 61, 61, 61, 61, 61, 61, 61, 61, 61, 61, 61, 61, 61, 61, 61, 61, 61, 61, 61, 61, 61, 61, 61, 61, 61, 61, 61, 61, 61, 61, 61, 61, 61, 61, 61, 61, 61, 61, 61, 61, 61, 61, 61, 61, 61, 61, 61, 61, 61, 61, 61, 61, 61, 61, 61, 61, 61, 61, 61, 61, 61, 61, 61, 61, 61, 61, 61, 61, 61, 61, 61, 61, 61, 61, 61, 61, 61, 61, 61, 61, 61]⟩, .string p0] h15 
               (fun v52 h54 => ∃ x53 : Bool, v52 = .bool x53 ∧ 
               (sB x53 
                ((((0 : Int) ≤ (0 : Int) ∧ (0 : Int) ≤ ((IntKind.wrap .i64 x5) : Int) ∧ ((IntKind.wrap .i64 x5) : Int) ≤ (ByteArray.size ⟨#[61, 61, 61, 61, 61, 61, 61, 61, 61, 61, 61, 61, 61, 61, 61, 61, 61, 61, 61, 61, 61, 61, 61, 61, 61, 61, 61, 61, 61, 61, 61, 61, 61, 61, 61, 61, 61, 61, 61, 61, 61, 61, 61, 61, 61, 61, 61, 61, 61, 61, 61, 61, 61, 61, 61, 61, 61, 61, 61, 61, 61, 61, 61, 61, 61, 61, 61, 61, 61, 61, 61, 61, 61, 61, 61, 61, 61, 61, 61, 61, 61, 61, 61, 61, 61, 61, 61, 61, 61, 61, 61, 61, 61, 61, 61, 61, 61, 61, 61, 61, 61, 61, 61, 61, 61, 61, 61, 61, 61, 61, 61, 61, 61, 61, 61, 61, 61, 61, 61, 61, 61, 61, 61, 61, 61, 61, 61, 61]⟩ : Nat)) ∧ 
                R (.string (ByteArray.extract ⟨#[61, 61, 61, 61, 61, 61, 61, 61, 61, 61, 61, 61, 61, 61, 61, 61, 61, 61, 61, 61, 61, 61, 61, 61, 61, 61, 61, 61, 61, 61, 61, 61, 61, 61, 61, 61, 61, 61, 61, 61, 61, 61, 61, 61, 61, 61, 61, 61, 61, 61, 61, 61, 61, 61, 61, 61, 61, 61, 61, 61, 61, 61, 61, 61, 61, 61, 61, 61, 61, 61, 61, 61, 61, 61, 61, 61, 61, 61, 61, 61, 61, 61, 61, 61, 61, 61, 61, 61, 61, 61, 61, 61, 61, 61, 61, 61, 61, 61, 61, 61, 61, 61, 61, 61, 61, 61, 61, 61, 61, 61, 61, 61, 61, 61, 61, 61, 61, 61, 61, 61, 61, 61, 61, 61, 61, 61, 61, 61]⟩ (Int.toNat 0) (Int.toNat (IntKind.wrap .i64 x5)))) h54)) 
                ((sB (decide ((IntKind.wrap .i64 x5) ≤ 64)) 
                 ((Fn Tryd.prog 58 #[.string ⟨#[9, 9, 9, 9, 9, 9, 9, 9, 9, 9, 9, 9, 9, 9, 9, 9, 9, 9, 9, 9, 9, 9, 9, 9, 9, 9, 9, 9, 9, 9, 9, 9, 9, 9, 9, 9, 9, 9, 9, 9, 9, 9, 9, 9, 9, 9, 9, 9, 9, 9, 9, 9, 9, 9, 9, 9, 9, 9, 9, 9, 9, 9, 9, 9]⟩, .string p0] h54 
                 (fun v55 h57 => ∃ x56 : Bool, v55 = .bool x56 ∧ 
                 (sB x56 
                  ((((0 : Int) ≤ (0 : Int) ∧ (0 : Int) ≤ ((IntKind.wrap .i64 x5) : Int) ∧ ((IntKind.wrap .i64 x5) : Int) ≤ (ByteArray.size ⟨#[9, 9, 9, 9, 9, 9, 9, 9, 9, 9, 9, 9, 9, 9, 9, 9, 9, 9, 9, 9, 9, 9, 9, 9, 9, 9, 9, 9, 9, 9, 9, 9, 9, 9, 9, 9, 9, 9, 9, 9, 9, 9, 9, 9, 9, 9, 9, 9, 9, 9, 9, 9, 9, 9, 9, 9, 9, 9, 9, 9, 9, 9, 9, 9]⟩ : Nat)) ∧ 
                  R (.string (ByteArray.extract ⟨#[9, 9, 9, 9, 9, 9, 9, 9, 9, 9, 9, 9, 9, 9, 9, 9, 9, 9, 9, 9, 9, 9, 9, 9, 9, 9, 9, 9, 9, 9, 9, 9, 9, 9, 9, 9, 9, 9, 9, 9, 9, 9, 9, 9, 9, 9, 9, 9, 9, 9, 9, 9, 9, 9, 9, 9, 9, 9, 9, 9, 9, 9, 9, 9]⟩ (Int.toNat 0) (Int.toNat (IntKind.wrap .i64 x5)))) h57)) 
                  ((J9 h57)))))) 
                 ((J9 h54)))))))) 
               ((sB (decide ((IntKind.wrap .i64 x5) ≤ 64)) 
                ((Fn Tryd.prog 58 #[.string ⟨#[9, 9, 9, 9, 9, 9, 9, 9, 9, 9, 9, 9, 9, 9, 9, 9, 9, 9, 9, 9, 9, 9, 9, 9, 9, 9, 9, 9, 9, 9, 9, 9, 9, 9, 9, 9, 9, 9, 9, 9, 9, 9, 9, 9, 9, 9, 9, 9, 9, 9, 9, 9, 9, 9, 9, 9, 9, 9, 9, 9, 9, 9, 9, 9]⟩, .string p0] h15 
                (fun v58 h60 => ∃ x59 : Bool, v58 = .bool x59 ∧ 
                (sB x59 
                 ((((0 : Int) ≤ (0 : Int) ∧ (0 : Int) ≤ ((IntKind.wrap .i64 x5) : Int) ∧ ((IntKind.wrap .i64 x5) : Int) ≤ (ByteArray.size ⟨#[9, 9, 9, 9, 9, 9, 9, 9, 9, 9, 9, 9, 9, 9, 9, 9, 9, 9, 9, 9, 9, 9, 9, 9, 9, 9, 9, 9, 9, 9, 9, 9, 9, 9, 9, 9, 9, 9, 9, 9, 9, 9, 9, 9, 9, 9, 9, 9, 9, 9, 9, 9, 9, 9, 9, 9, 9, 9, 9, 9, 9, 9, 9, 9]⟩ : Nat)) ∧ 
                 R (.string (ByteArray.extract ⟨#[9, 9, 9, 9, 9, 9, 9, 9, 9, 9, 9, 9, 9, 9, 9, 9, 9, 9, 9, 9, 9, 9, 9, 9, 9, 9, 9, 9, 9, 9, 9, 9, 9, 9, 9, 9, 9, 9, 9, 9, 9, 9, 9, 9, 9, 9, 9, 9, 9, 9, 9, 9, 9, 9, 9, 9, 9, 9, 9, 9, 9, 9, 9, 9]⟩ (Int.toNat 0) (Int.toNat (IntKind.wrap .i64 x5)))) h60)) 
                 ((J9 h60)))))) 
                ((J9 h15)))))))))))))) 
           ((sB (decide ((IntKind.wrap .i64 x5) ≤ 128)) 
            ((Fn Tryd.prog 58 #[.string ⟨#[45, 45, 45, 45, 45, 45, 45, 45, 45, 45, 45, 45, 45, 45, 45, 45, 45, 45, 45, 45, 45, 45, 45, 45, 45, 45, 45, 45, 45, 45, 45, 45, 45, 45, 45, 45, 45, 45, 45, 45, 45, 45, 45, 45, 45, 45, 45, 45, 45, 45, 45, 45, 45, 45, 45, 45, 45, 45, 45, 45, 45, 45, 45, 45, 45, 45, 45, 45, 45, 45, 45, 45, 45, 45, 45, 45, 45, 45, 45, 45, 45, 45, 45, 45, 45, 45, 45, 45, 45, 45, 45, 45, 45, 45, 45, 45, 45, 45, 45, 45, 45, 45, 45, 45, 45, 45, 45, 45, 45, 45, 45, 45, 45, 45, 45, 45, 45, 45, 45, 45, 45, 45, 45, 45, 45, 45, 45, 45]⟩, .string p0] h12 
            (fun v61 h63 => ∃ x62 : Bool, v61 = .bool x62 ∧ 
            (sB x62 
             ((((0 : Int) ≤ (0 : Int) ∧ (0 : Int) ≤ ((IntKind.wrap .i64 x5) : Int) ∧ ((IntKind.wrap .i64 x5) : Int) ≤ (ByteArray.size ⟨#[45, 45, 45, 45, 45, 45, 45, 45, 45, 45, 45, 45, 45, 45, 45, 45, 45, 45, 45, 45, 45, 45, 45, 45, 45, 45, 45, 45, 45, 45, 45, 45, 45, 45, 45, 45, 45, 45, 45, 45, 45, 45, 45, 45, 45, 45, 45, 45, 45, 45, 45, 45, 45, 45, 45, 45, 45, 45, 45, 45, 45, 45, 45, 45, 45, 45, 45, 45, 45, 45, 45, 45, 45, 45, 45, 45, 45, 45, 45, 45, 45, 45, 45, 45, 45, 45, 45, 45, 45, 45, 45, 45, 45, 45, 45, 45, 45, 45, 45, 45, 45, 45, 45, 45, 45, 45, 45, 45, 45, 45, 45, 45, 45, 45, 45, 45, 45, 45, 45, 45, 45, 45, 45, 45, 45, 45, 45, 45]⟩ : Nat)) ∧ 
             R (.string (ByteArray.extract ⟨#[45, 45, 45, 45, 45, 45, 45, 45, 45, 45, 45, 45, 45, 45, 45, 45, 45, 45, 45, 45, 45, 45, 45, 45, 45, 45, 45, 45, 45, 45, 45, 45, 45, 45, 45, 45, 45, 45, 45, 45, 45, 45, 45, 45, 45, 45, 45, 45, 45, 45, 45, 45, 45, 45, 45, 45, 45, 45, 45, 45, 45, 45, 45, 45, 45, 45, 45, 45, 45, 45, 45, 45, 45, 45, 45, 45, 45, 45, 45, 45, 45, 45, 45, 45, 45, 45, 45, 45, 45, 45, 45, 45, 45, 45, 45, 45, 45, 45, 45, 45, 45, 45, 45, 45, 45, 45, 45, 45, 45, 45, 45, 45, 45, 45, 45, 45, 45, 45, 45, 45, 45, 45, 45, 45, 45, 45, 45, 45]⟩ (Int.toNat 0) (Int.toNat (IntKind.wrap .i64 x5)))) h63)) 
             ((sB (decide ((IntKind.wrap .i64 x5) ≤ 64)) 
              ((Fn Tryd.prog 58 #[.string ⟨#[48, 48, 48, 48, 48, 48, 48, 48, 48, 48, 48, 48, 48, 48, 48, 48, 48, 48, 48, 48, 48, 48, 48, 48, 48, 48, 48, 48, 48, 48, 48, 48, 48, 48, 48, 48, 48, 48, 48, 48, 48, 48, 48, 48, 48, 48, 48, 48, 48, 48, 48, 48, 48, 48, 48, 48, 48, 48, 48, 48, 48, 48, 48, 48]⟩, .string p0] h63 
              (fun v64 h66 => ∃ x65 : Bool, v64 = .bool x65 ∧ 
              (sB x65 
               ((((0 : Int) ≤ (0 : Int) ∧ (0 : Int) ≤ ((IntKind.wrap .i64 x5) : Int) ∧ ((IntKind.wrap .i64 x5) : Int) ≤ (ByteArray.size ⟨#[48, 48, 48, 48, 48, 48, 48, 48, 48, 48, 48, 48, 48, 48, 48, 48, 48, 48, 48, 48, 48, 48, 48, 48, 48, 48, 48, 48, 48, 48, 48, 48, 48, 48, 48, 48, 48, 48, 48, 48, 48, 48, 48, 48, 48, 48, 48, 48, 48, 48, 48, 48, 48, 48, 48, 48, 48, 48, 48, 48, 48, 48, 48, 48]⟩ : Nat)) ∧ 
               R (.string (ByteArray.extract ⟨#[48, 48, 48, 48, 48, 48, 48, 48, 48, 48, 48, 48, 48, 48, 48, 48, 48, 48, 48, 48, 48, 48, 48, 48, 48, 48, 48, 48, 48, 48, 48, 48, 48, 48, 48, 48, 48, 48, 48, 48, 48, 48, 48, 48, 48, 48, 48, 48, 48, 48, 48, 48, 48, 48, 48, 48, 48, 48, 48, 48, 48, 48, 48, 48]⟩ (Int.toNat 0) (Int.toNat (IntKind.wrap .i64 x5)))) h66)) 
               ((sB (decide ((IntKind.wrap .i64 x5) ≤ 128)) 
                ((Fn Tryd.prog 58 #[.string ⟨#[61, 61, 61, 61, 61, 61, 61, 61, 61, 61, 61, 61, 61, 61, 61, 61, 61, 61, 61, 61, 61, 61, 61, 61, 61, 61, 61, 61, 61, 61, 61, 61, 61, 61, 61, 61, 61, 61, 61, 61, 61, 61, 61, 61, 61, 61, 61, 61, 61, 61, 61, 61, 61, 61, 61, 61, 61, 61, 61, 61, 61, 61, 61, 61, 61, 61, 61, 61, 61, 61, 61, 61, 61, 61, 61, 61, 61, 61, 61, 61, 61, 61, 61, 61, 61, 61, 61, 61, 61, 61, 61, 61, 61, 61, 61, 61, 61, 61, 61, 61, 61, 61, 61, 61, 61, 61, 61, 61, 61, 61, 61, 61, 61, 61, 61, 61, 61, 61, 61, 61, 61, 61, 61, 61, 61, 61, 61, 61]⟩, .string p0] h66 
                (fun v67 h69 => ∃ x68 : Bool, v67 = .bool x68 ∧ 
                (sB x68 
                 ((((0 : Int) ≤ (0 : Int) ∧ (0 : Int) ≤ ((IntKind.wrap .i64 x5) : Int) ∧ ((IntKind.wrap .i64 x5) : Int) ≤ (ByteArray.size ⟨#[61, 61, 61, 61, 61, 61, 61, 61, 61, 61, 61, 61, 61, 61, 61, 61, 61, 61, 61, 61, 61, 61, 61, 61, 61, 61, 61, 61, 61, 61, 61, 61, 61, 61, 61, 61, 61, 61, 61, 61, 61, 61, 61, 61, 61, 61, 61, 61, 61, 61, 61, 61, 61, 61, 61, 61, 61, 61, 61, 61, 61, 61, 61, 61, 61, 61, 61, 61, 61, 61, 61, 61, 61, 61, 61, 61, 61, 61, 61, 61, 61, 61, 61, 61, 61, 61, 61, 61, 61, 61, 61, 61, 61, 61, 61, 61, 61, 61, 61, 61, 61, 61, 61, 61, 61, 61, 61, 61, 61, 61, 61, 61, 61, 61, 61, 61, 61, 61, 61, 61, 61, 61, 61, 61, 61, 61, 61, 61]⟩ : Nat)) ∧ 
                 R (.string (ByteArray.extract ⟨#[61, 61, 61, 61, 61, 61, 61, 61, 61, 61, 61, 61, 61, 61, 61, 61, 61, 61, 61, 61, 61, 61, 61, 61, 61, 61, 61, 61, 61, 61, 61, 61, 61, 61, 61, 61, 61, 61, 61, 61, 61, 61, 61, 61, 61, 61, 61, 61, 61, 61, 61, 61, 61, 61, 61, 61, 61, 61, 61, 61, 61, 61, 61, 61, 61, 61, 61, 61, 61, 61, 61, 61, 61, 61, 61, 61, 61, 61, 61, 61, 61, 61, 61, 61, 61, 61, 61, 61, 61, 61, 61, 61, 61, 61, 61, 61, 61, 61, 61, 61, 61, 61, 61, 61, 61, 61, 61, 61, 61, 61, 61, 61, 61, 61, 61, 61, 61, 61, 61, 61, 61, 61, 61, 61, 61, 61, 61, 61]⟩ (Int.toNat 0) (Int.toNat (IntKind.wrap .i64 x5)))) h69)) 
                 ((sB (decide ((IntKind.wrap .i64 x5) ≤ 64)) 
                  ((Fn Tryd.prog 58 #[.string ⟨#[9, 9, 9, 9, 9, 9, 9, 9, 9, 9, 9, 9, 9, 9, 9, 9, 9, 9, 9, 9, 9, 9, 9, 9, 9, 9, 9, 9, 9, 9, 9, 9, 9, 9, 9, 9, 9, 9, 9, 9, 9, 9, 9, 9, 9, 9, 9, 9, 9, 9, 9, 9, 9, 9, 9, 9, 9, 9, 9, 9, 9, 9, 9, 9]⟩, .string p0] h69 
                  (fun v70 h72 => ∃ x71 : Bool, v70 = .bool x71 ∧ 
                  (sB x71 
                   ((((0 : Int) ≤ (0 : Int) ∧ (0 : Int) ≤ ((IntKind.wrap .i64 x5) : Int) ∧ ((IntKind.wrap .i64 x5) : Int) ≤ (ByteArray.size ⟨#[9, 9, 9, 9, 9, 9, 9, 9, 9, 9, 9, 9, 9, 9, 9, 9, 9, 9, 9, 9, 9, 9, 9, 9, 9, 9, 9, 9, 9, 9, 9, 9, 9, 9, 9, 9, 9, 9, 9, 9, 9, 9, 9, 9, 9, 9, 9, 9, 9, 9, 9, 9, 9, 9, 9, 9, 9, 9, 9, 9, 9, 9, 9, 9]⟩ : Nat)) ∧ 
                   R (.string (ByteArray.extract ⟨#[9, 9, 9, 9, 9, 9, 9, 9, 9, 9, 9, 9, 9, 9, 9, 9, 9, 9, 9, 9, 9, 9, 9, 9, 9, 9, 9, 9, 9, 9, 9, 9, 9, 9, 9, 9, 9, 9, 9, 9, 9, 9, 9, 9, 9, 9, 9, 9, 9, 9, 9, 9, 9, 9, 9, 9, 9, 9, 9, 9, 9, 9, 9, 9]⟩ (Int.toNat 0) (Int.toNat (IntKind.wrap .i64 x5)))) h72)) 
                   ((J9 h72)))))) 
                  ((J9 h69)))))))) 
                ((sB (decide ((IntKind.wrap .i64 x5) ≤ 64)) 
                 ((Fn Tryd.prog 58 #[.string ⟨#[9, 9, 9, 9, 9, 9, 9, 9, 9, 9, 9, 9, 9, 9, 9, 9, 9, 9, 9, 9, 9, 9, 9, 9, 9, 9, 9, 9, 9, 9, 9, 9, 9, 9, 9, 9, 9, 9, 9, 9, 9, 9, 9, 9, 9, 9, 9, 9, 9, 9, 9, 9, 9, 9, 9, 9, 9, 9, 9, 9, 9, 9, 9, 9]⟩, .string p0] h66 
                 (fun v73 h75 => ∃ x74 : Bool, v73 = .bool x74 ∧ 
                 (sB x74 
                  ((((0 : Int) ≤ (0 : Int) ∧ (0 : Int) ≤ ((IntKind.wrap .i64 x5) : Int) ∧ ((IntKind.wrap .i64 x5) : Int) ≤ (ByteArray.size ⟨#[9, 9, 9, 9, 9, 9, 9, 9, 9, 9, 9, 9, 9, 9, 9, 9, 9, 9, 9, 9, 9, 9, 9, 9, 9, 9, 9, 9, 9, 9, 9, 9, 9, 9, 9, 9, 9, 9, 9, 9, 9, 9, 9, 9, 9, 9, 9, 9, 9, 9, 9, 9, 9, 9, 9, 9, 9, 9, 9, 9, 9, 9, 9, 9]⟩ : Nat)) ∧ 
                  R (.string (ByteArray.extract ⟨#[9, 9, 9, 9, 9, 9, 9, 9, 9, 9, 9, 9, 9, 9, 9, 9, 9, 9, 9, 9, 9, 9, 9, 9, 9, 9, 9, 9, 9, 9, 9, 9, 9, 9, 9, 9, 9, 9, 9, 9, 9, 9, 9, 9, 9, 9, 9, 9, 9, 9, 9, 9, 9, 9, 9, 9, 9, 9, 9, 9, 9, 9, 9, 9]⟩ (Int.toNat 0) (Int.toNat (IntKind.wrap .i64 x5)))) h75)) 
                  ((J9 h75)))))) 
                 ((J9 h66)))))))))) 
              ((sB (decide ((IntKind.wrap .i64 x5) ≤ 128)) 
               ((Fn Tryd.prog 58 #[.string ⟨#[61, 61, 61, 61, 61, 61, 61, 61, 61, 61, 61, 61, 61, 61, 61, 61, 61, 61, 61, 61, 61, 61, 61, 61, 61, 61, 61, 61, 61, 61, 61, 61, 61, 61, 61, 61, 61, 61, 61, 61, 61, 61, 61, 61, 61, 61, 61, 61, 61, 61, 61, 61, 61, 61, 61, 61, 61, 61, 61, 61, 61, 61, 61, 61, 61, 61, 61, 61, 61, 61, 61, 61, 61, 61, 61, 61, 61, 61, 61, 61, 61, 61, 61, 61, 61, 61, 61, 61, 61, 61, 61, 61, 61, 61, 61, 61, 61, 61, 61, 61, 61, 61, 61, 61, 61, 61, 61, 61, 61, 61, 61, 61, 61, 61, 61, 61, 61, 61, 61, 61, 61, 61, 61, 61, 61, 61, 61, 61]⟩, .string p0] h63 
               (fun v76 h78 => ∃ x77 : Bool, v76 = .bool x77 ∧ 
               (sB x77 
                ((((0 : Int) ≤ (0 : Int) ∧ (0 : Int) ≤ ((IntKind.wrap .i64 x5) : Int) ∧ ((IntKind.wrap .i64 x5) : Int) ≤ (ByteArray.size ⟨#[61, 61, 61, 61, 61, 61, 61, 61, 61, 61, 61, 61, 61, 61, 61, 61, 61, 61, 61, 61, 61, 61, 61, 61, 61, 61, 61, 61, 61, 61, 61, 61, 61, 61, 61, 61, 61, 61, 61, 61, 61, 61, 61, 61, 61, 61, 61, 61, 61, 61, 61, 61, 61, 61, 61, 61, 61, 61, 61, 61, 61, 61, 61, 61, 61, 61, 61, 61, 61, 61, 61, 61, 61, 61, 61, 61, 61, 61, 61, 61, 61, 61, 61, 61, 61, 61, 61, 61, 61, 61, 61, 61, 61, 61, 61, 61, 61, 61, 61, 61, 61, 61, 61, 61, 61, 61, 61, 61, 61, 61, 61, 61, 61, 61, 61, 61, 61, 61, 61, 61, 61, 61, 61, 61, 61, 61, 61, 61]⟩ : Nat)) ∧ 
                R (.string (ByteArray.extract ⟨#[61, 61, 61, 61, 61, 61, 61, 61, 61, 61, 61, 61, 61, 61, 61, 61, 61, 61, 61, 61, 61, 61, 61, 61, 61, 61, 61, 61, 61, 61, 61, 61, 61, 61, 61, 61, 61, 61, 61, 61, 61, 61, 61, 61, 61, 61, 61, 61, 61, 61, 61, 61, 61, 61, 61, 61, 61, 61, 61, 61, 61, 61, 61, 61, 61, 61, 61, 61, 61, 61, 61, 61, 61, 61, 61, 61, 61, 61, 61, 61, 61, 61, 61, 61, 61, 61, 61, 61, 61, 61, 61, 61, 61, 61, 61, 61, 61, 61, 61, 61, 61, 61, 61, 61, 61, 61, 61, 61, 61, 61, 61, 61, 61, 61, 61, 61, 61, 61, 61, 61, 61, 61, 61, 61, 61, 61, 61, 61]⟩ (Int.toNat 0) (Int.toNat (IntKind.wrap .i64 x5)))) h78)) 
                ((sB (decide ((IntKind.wrap .i64 x5) ≤ 64)) 
                 ((Fn Tryd.prog 58 #[.string ⟨#[9, 9, 9, 9, 9, 9, 9, 9, 9, 9, 9, 9, 9, 9, 9, 9, 9, 9, 9, 9, 9, 9, 9, 9, 9, 9, 9, 9, 9, 9, 9, 9, 9, 9, 9, 9, 9, 9, 9, 9, 9, 9, 9, 9, 9, 9, 9, 9, 9, 9, 9, 9, 9, 9, 9, 9, 9, 9, 9, 9, 9, 9, 9, 9]⟩, .string p0] h78 
                 (fun v79 h81 => ∃ x80 : Bool, v79 = .bool x80 ∧ 
                 (sB x80 
                  ((((0 : Int) ≤ (0 : Int) ∧ (0 : Int) ≤ ((IntKind.wrap .i64 x5) : Int) ∧ ((IntKind.wrap .i64 x5) : Int) ≤ (ByteArray.size ⟨#[9, 9, 9, 9, 9, 9, 9, 9, 9, 9, 9, 9, 9, 9, 9, 9, 9, 9, 9, 9, 9, 9, 9, 9, 9, 9, 9, 9, 9, 9, 9, 9, 9, 9, 9, 9, 9, 9, 9, 9, 9, 9, 9, 9, 9, 9, 9, 9, 9, 9, 9, 9, 9, 9, 9, 9, 9, 9, 9, 9, 9, 9, 9, 9]⟩ : Nat)) ∧ 
                  R (.string (ByteArray.extract ⟨#[9, 9, 9, 9, 9, 9, 9, 9, 9, 9, 9, 9, 9, 9, 9, 9, 9, 9, 9, 9, 9, 9, 9, 9, 9, 9, 9, 9, 9, 9, 9, 9, 9, 9, 9, 9, 9, 9, 9, 9, 9, 9, 9, 9, 9, 9, 9, 9, 9, 9, 9, 9, 9, 9, 9, 9, 9, 9, 9, 9, 9, 9, 9, 9]⟩ (Int.toNat 0) (Int.toNat (IntKind.wrap .i64 x5)))) h81)) 
                  ((J9 h81)))))) 
                 ((J9 h78)))))))) 
               ((sB (decide ((IntKind.wrap .i64 x5) ≤ 64)) 
                ((Fn Tryd.prog 58 #[.string ⟨#[9, 9, 9, 9, 9, 9, 9, 9, 9, 9, 9, 9, 9, 9, 9, 9, 9, 9, 9, 9, 9, 9, 9, 9, 9, 9, 9, 9, 9, 9, 9, 9, 9, 9, 9, 9, 9, 9, 9, 9, 9, 9, 9, 9, 9, 9, 9, 9, 9, 9, 9, 9, 9, 9, 9, 9, 9, 9, 9, 9, 9, 9, 9, 9]⟩, .string p0] h63 
                (fun v82 h84 => ∃ x83 : Bool, v82 = .bool x83 ∧ 
                (sB x83 
                 ((((0 : Int) ≤ (0 : Int) ∧ (0 : Int) ≤ ((IntKind.wrap .i64 x5) : Int) ∧ ((IntKind.wrap .i64 x5) : Int) ≤ (ByteArray.size ⟨#[9, 9, 9, 9, 9, 9, 9, 9, 9, 9, 9, 9, 9, 9, 9, 9, 9, 9, 9, 9, 9, 9, 9, 9, 9, 9, 9, 9, 9, 9, 9, 9, 9, 9, 9, 9, 9, 9, 9, 9, 9, 9, 9, 9, 9, 9, 9, 9, 9, 9, 9, 9, 9, 9, 9, 9, 9, 9, 9, 9, 9, 9, 9, 9]⟩ : Nat)) ∧ 
                 R (.string (ByteArray.extract ⟨#[9, 9, 9, 9, 9, 9, 9, 9, 9, 9, 9, 9, 9, 9, 9, 9, 9, 9, 9, 9, 9, 9, 9, 9, 9, 9, 9, 9, 9, 9, 9, 9, 9, 9, 9, 9, 9, 9, 9, 9, 9, 9, 9, 9, 9, 9, 9, 9, 9, 9, 9, 9, 9, 9, 9, 9, 9, 9, 9, 9, 9, 9, 9, 9]⟩ (Int.toNat 0) (Int.toNat (IntKind.wrap .i64 x5)))) h84)) 
                 ((J9 h84)))))) 
                ((J9 h63)))))))))))) 
            ((sB (decide ((IntKind.wrap .i64 x5) ≤ 64)) 
             ((Fn Tryd.prog 58 #[.string ⟨#[48, 48, 48, 48, 48, 48, 48, 48, 48, 48, 48, 48, 48, 48, 48, 48, 48, 48, 48, 48, 48, 48, 48, 48, 48, 48, 48, 48, 48, 48, 48, 48, 48, 48, 48, 48, 48, 48, 48, 48, 48, 48, 48, 48, 48, 48, 48, 48, 48, 48, 48, 48, 48, 48, 48, 48, 48, 48, 48, 48, 48, 48, 48, 48]⟩, .string p0] h12 
             (fun v85 h87 => ∃ x86 : Bool, v85 = .bool x86 ∧ 
             (sB x86 
              ((((0 : Int) ≤ (0 : Int) ∧ (0 : Int) ≤ ((IntKind.wrap .i64 x5) : Int) ∧ ((IntKind.wrap .i64 x5) : Int) ≤ (ByteArray.size ⟨#[48, 48, 48, 48, 48, 48, 48, 48, 48, 48, 48, 48, 48, 48, 48, 48, 48, 48, 48, 48, 48, 48, 48, 48, 48, 48, 48, 48, 48, 48, 48, 48, 48, 48, 48, 48, 48, 48, 48, 48, 48, 48, 48, 48, 48, 48, 48, 48, 48, 48, 48, 48, 48, 48, 48, 48, 48, 48, 48, 48, 48, 48, 48, 48]⟩ : Nat)) ∧ 
              R (.string (ByteArray.extract ⟨#[48, 48, 48, 48, 48, 48, 48, 48, 48, 48, 48, 48, 48, 48, 48, 48, 48, 48, 48, 48, 48, 48, 48, 48, 48, 48, 48, 48, 48, 48, 48, 48, 48, 48, 48, 48, 48, 48, 48, 48, 48, 48, 48, 48, 48, 48, 48, 48, 48, 48, 48, 48, 48, 48, 48, 48, 48, 48, 48, 48, 48, 48, 48, 48]⟩ (Int.toNat 0) (Int.toNat (IntKind.wrap .i64 x5)))) h87)) 
              ((sB (decide ((IntKind.wrap .i64 x5) ≤ 128)) 
               ((Fn Tryd.prog 58 #[.string ⟨#[61, 61, 61, 61, 61, 61, 61, 61, 61, 61, 61, 61, 61, 61, 61, 61, 61, 61, 61, 61, 61, 61, 61, 61, 61, 61, 61, 61, 61, 61, 61, 61, 61, 61, 61, 61, 61, 61, 61, 61, 61, 61, 61, 61, 61, 61, 61, 61, 61, 61, 61, 61, 61, 61, 61, 61, 61, 61, 61, 61, 61, 61, 61, 61, 61, 61, 61, 61, 61, 61, 61, 61, 61, 61, 61, 61, 61, 61, 61, 61, 61, 61, 61, 61, 61, 61, 61, 61, 61, 61, 61, 61, 61, 61, 61, 61, 61, 61, 61, 61, 61, 61, 61, 61, 61, 61, 61, 61, 61, 61, 61, 61, 61, 61, 61, 61, 61, 61, 61, 61, 61, 61, 61, 61, 61, 61, 61, 61]⟩, .string p0] h87 
               (fun v88 h90 => ∃ x89 : Bool, v88 = .bool x89 ∧ 
               (sB x89 
                ((((0 : Int) ≤ (0 : Int) ∧ (0 : Int) ≤ ((IntKind.wrap .i64 x5) : Int) ∧ ((IntKind.wrap .i64 x5) : Int) ≤ (ByteArray.size ⟨#[61, 61, 61, 61, 61, 61, 61, 61, 61, 61, 61, 61, 61, 61, 61, 61, 61, 61, 61, 61, 61, 61, 61, 61, 61, 61, 61, 61, 61, 61, 61, 61, 61, 61, 61, 61, 61, 61, 61, 61, 61, 61, 61, 61, 61, 61, 61, 61, 61, 61, 61, 61, 61, 61, 61, 61, 61, 61, 61, 61, 61, 61, 61, 61, 61, 61, 61, 61, 61, 61, 61, 61, 61, 61, 61, 61, 61, 61, 61, 61, 61, 61, 61, 61, 61, 61, 61, 61, 61, 61, 61, 61, 61, 61, 61, 61, 61, 61, 61, 61, 61, 61, 61, 61, 61, 61, 61, 61, 61, 61, 61, 61, 61, 61, 61, 61, 61, 61, 61, 61, 61, 61, 61, 61, 61, 61, 61, 61]⟩ : Nat)) ∧ 
                R (.string (ByteArray.extract ⟨#[61, 61, 61, 61, 61, 61, 61, 61, 61, 61, 61, 61, 61, 61, 61, 61, 61, 61, 61, 61, 61, 61, 61, 61, 61, 61, 61, 61, 61, 61, 61, 61, 61, 61, 61, 61, 61, 61, 61, 61, 61, 61, 61, 61, 61, 61, 61, 61, 61, 61, 61, 61, 61, 61, 61, 61, 61, 61, 61, 61, 61, 61, 61, 61, 61, 61, 61, 61, 61, 61, 61, 61, 61, 61, 61, 61, 61, 61, 61, 61, 61, 61, 61, 61, 61, 61, 61, 61, 61, 61, 61, 61, 61, 61, 61, 61, 61, 61, 61, 61, 61, 61, 61, 61, 61, 61, 61, 61, 61, 61, 61, 61, 61, 61, 61, 61, 61, 61, 61, 61, 61, 61, 61, 61, 61, 61, 61, 61]⟩ (Int.toNat 0) (Int.toNat (IntKind.wrap .i64 x5)))) h90)) 
                ((sB (decide ((IntKind.wrap .i64 x5) ≤ 64)) 
                 ((Fn Tryd.prog 58 #[.string ⟨#[9, 9, 9, 9, 9, 9, 9, 9, 9, 9, 9, 9, 9, 9, 9, 9, 9, 9, 9, 9, 9, 9, 9, 9, 9, 9, 9, 9, 9, 9, 9, 9, 9, 9, 9, 9, 9, 9, 9, 9, 9, 9, 9, 9, 9, 9, 9, 9, 9, 9, 9, 9, 9, 9, 9, 9, 9, 9, 9, 9, 9, 9, 9, 9]⟩, .string p0] h90 
                 (fun v91 h93 => ∃ x92 : Bool, v91 = .bool x92 ∧ 
                 (sB x92 
                  ((((0 : Int) ≤ (0 : Int) ∧ (0 : Int) ≤ ((IntKind.wrap .i64 x5) : Int) ∧ ((IntKind.wrap .i64 x5) : Int) ≤ (ByteArray.size ⟨#[9, 9, 9, 9, 9, 9, 9, 9, 9, 9, 9, 9, 9, 9, 9, 9, 9, 9, 9, 9, 9, 9, 9, 9, 9, 9, 9, 9, 9, 9, 9, 9, 9, 9, 9, 9, 9, 9, 9, 9, 9, 9, 9, 9, 9, 9, 9, 9, 9, 9, 9, 9, 9, 9, 9, 9, 9, 9, 9, 9, 9, 9, 9, 9]⟩ : Nat)) ∧ 
                  R (.string (ByteArray.extract ⟨#[9, 9, 9, 9, 9, 9, 9, 9, 9, 9, 9, 9, 9, 9, 9, 9, 9, 9, 9, 9, 9, 9, 9, 9, 9, 9, 9, 9, 9, 9, 9, 9, 9, 9, 9, 9, 9, 9, 9, 9, 9, 9, 9, 9, 9, 9, 9, 9, 9, 9, 9, 9, 9, 9, 9, 9, 9, 9, 9, 9, 9, 9, 9, 9]⟩ (Int.toNat 0) (Int.toNat (IntKind.wrap .i64 x5)))) h93)) 
                  ((J9 h93)))))) 
                 ((J9 h90)))))))) 
               ((sB (decide ((IntKind.wrap .i64 x5) ≤ 64)) 
                ((Fn Tryd.prog 58 #[.string ⟨#[9, 9, 9, 9, 9, 9, 9, 9, 9, 9, 9, 9, 9, 9, 9, 9, 9, 9, 9, 9, 9, 9, 9, 9, 9, 9, 9, 9, 9, 9, 9, 9, 9, 9, 9, 9, 9, 9, 9, 9, 9, 9, 9, 9, 9, 9, 9, 9, 9, 9, 9, 9, 9, 9, 9, 9, 9, 9, 9, 9, 9, 9, 9, 9]⟩, .string p0] h87 
                (fun v94 h96 => ∃ x95 : Bool, v94 = .bool x95 ∧ 
                (sB x95 
                 ((((0 : Int) ≤ (0 : Int) ∧ (0 : Int) ≤ ((IntKind.wrap .i64 x5) : Int) ∧ ((IntKind.wrap .i64 x5) : Int) ≤ (ByteArray.size ⟨#[9, 9, 9, 9, 9, 9, 9, 9, 9, 9, 9, 9, 9, 9, 9, 9, 9, 9, 9, 9, 9, 9, 9, 9, 9, 9, 9, 9, 9, 9, 9, 9, 9, 9, 9, 9, 9, 9, 9, 9, 9, 9, 9, 9, 9, 9, 9, 9, 9, 9, 9, 9, 9, 9, 9, 9, 9, 9, 9, 9, 9, 9, 9, 9]⟩ : Nat)) ∧ 
                 R (.string (ByteArray.extract ⟨#[9, 9, 9, 9, 9, 9, 9, 9, 9, 9, 9, 9, 9, 9, 9, 9, 9, 9, 9, 9, 9, 9, 9, 9, 9, 9, 9, 9, 9, 9, 9, 9, 9, 9, 9, 9, 9, 9, 9, 9, 9, 9, 9, 9, 9, 9, 9, 9, 9, 9, 9, 9, 9, 9, 9, 9, 9, 9, 9, 9, 9, 9, 9, 9]⟩ (Int.toNat 0) (Int.toNat (IntKind.wrap .i64 x5)))) h96)) 
                 ((J9 h96)))))) 
                ((J9 h87)))))))))) 
             ((sB (decide ((IntKind.wrap .i64 x5) ≤ 128)) 
              ((Fn Tryd.prog 58 #[.string ⟨#[61, 61, 61, 61, 61, 61, 61, 61, 61, 61, 61, 61, 61, 61, 61, 61, 61, 61, 61, 61, 61, 61, 61, 61, 61, 61, 61, 61, 61, 61, 61, 61, 61, 61, 61, 61, 61, 61, 61, 61, 61, 61, 61, 61, 61, 61, 61, 61, 61, 61, 61, 61, 61, 61, 61, 61, 61, 61, 61, 61, 61, 61, 61, 61, 61, 61, 61, 61, 61, 61, 61, 61, 61, 61, 61, 61, 61, 61, 61, 61, 61, 61, 61, 61, 61, 61, 61, 61, 61, 61, 61, 61, 61, 61, 61, 61, 61, 61, 61, 61, 61, 61, 61, 61, 61, 61, 61, 61, 61, 61, 61, 61, 61, 61, 61, 61, 61, 61, 61, 61, 61, 61, 61, 61, 61, 61, 61, 61]⟩, .string p0] h12 
              (fun v97 h99 => ∃ x98 : Bool, v97 = .bool x98 ∧ 
              (sB x98 
               ((((0 : Int) ≤ (0 : Int) ∧ (0 : Int) ≤ ((IntKind.wrap .i64 x5) : Int) ∧ ((IntKind.wrap .i64 x5) : Int) ≤ (ByteArray.size ⟨#[61, 61, 61, 61, 61, 61, 61, 61, 61, 61, 61, 61, 61, 61, 61, 61, 61, 61, 61, 61, 61, 61, 61, 61, 61, 61, 61, 61, 61, 61, 61, 61, 61, 61, 61, 61, 61, 61, 61, 61, 61, 61, 61, 61, 61, 61, 61, 61, 61, 61, 61, 61, 61, 61, 61, 61, 61, 61, 61, 61, 61, 61, 61, 61, 61, 61, 61, 61, 61, 61, 61, 61, 61, 61, 61, 61, 61, 61, 61, 61, 61, 61, 61, 61, 61, 61, 61, 61, 61, 61, 61, 61, 61, 61, 61, 61, 61, 61, 61, 61, 61, 61, 61, 61, 61, 61, 61, 61, 61, 61, 61, 61, 61, 61, 61, 61, 61, 61, 61, 61, 61, 61, 61, 61, 61, 61, 61, 61]⟩ : Nat)) ∧ 
               R (.string (ByteArray.extract ⟨#[61, 61, 61, 61, 61, 61, 61, 61, 61, 61, 61, 61, 61, 61, 61, 61, 61, 61, 61, 61, 61, 61, 61, 61, 61, 61, 61, 61, 61, 61, 61, 61, 61, 61, 61, 61, 61, 61, 61, 61, 61, 61, 61, 61, 61, 61, 61, 61, 61, 61, 61, 61, 61, 61, 61, 61, 61, 61, 61, 61, 61, 61, 61, 61, 61, 61, 61, 61, 61, 61, 61, 61, 61, 61, 61, 61, 61, 61, 61, 61, 61, 61, 61, 61, 61, 61, 61, 61, 61, 61, 61, 61, 61, 61, 61, 61, 61, 61, 61, 61, 61, 61, 61, 61, 61, 61, 61, 61, 61, 61, 61, 61, 61, 61, 61, 61, 61, 61, 61, 61, 61, 61, 61, 61, 61, 61, 61, 61]⟩ (Int.toNat 0) (Int.toNat (IntKind.wrap .i64 x5)))) h99)) 
               ((sB (decide ((IntKind.wrap .i64 x5) ≤ 64)) 
                ((Fn Tryd.prog 58 #[.string ⟨#[9, 9, 9, 9, 9, 9, 9, 9, 9, 9, 9, 9, 9, 9, 9, 9, 9, 9, 9, 9, 9, 9, 9, 9, 9, 9, 9, 9, 9, 9, 9, 9, 9, 9, 9, 9, 9, 9, 9, 9, 9, 9, 9, 9, 9, 9, 9, 9, 9, 9, 9, 9, 9, 9, 9, 9, 9, 9, 9, 9, 9, 9, 9, 9]⟩, .string p0] h99 
                (fun v100 h102 => ∃ x101 : Bool, v100 = .bool x101 ∧ 
                (sB x101 
                 ((((0 : Int) ≤ (0 : Int) ∧ (0 : Int) ≤ ((IntKind.wrap .i64 x5) : Int) ∧ ((IntKind.wrap .i64 x5) : Int) ≤ (ByteArray.size ⟨#[9, 9, 9, 9, 9, 9, 9, 9, 9, 9, 9, 9, 9, 9, 9, 9, 9, 9, 9, 9, 9, 9, 9, 9, 9, 9, 9, 9, 9, 9, 9, 9, 9, 9, 9, 9, 9, 9, 9, 9, 9, 9, 9, 9, 9, 9, 9, 9, 9, 9, 9, 9, 9, 9, 9, 9, 9, 9, 9, 9, 9, 9, 9, 9]⟩ : Nat)) ∧ 
                 R (.string (ByteArray.extract ⟨#[9, 9, 9, 9, 9, 9, 9, 9, 9, 9, 9, 9, 9, 9, 9, 9, 9, 9, 9, 9, 9, 9, 9, 9, 9, 9, 9, 9, 9, 9, 9, 9, 9, 9, 9, 9, 9, 9, 9, 9, 9, 9, 9, 9, 9, 9, 9, 9, 9, 9, 9, 9, 9, 9, 9, 9, 9, 9, 9, 9, 9, 9, 9, 9]⟩ (Int.toNat 0) (Int.toNat (IntKind.wrap .i64 x5)))) h102)) 
                 ((J9 h102)))))) 
                ((J9 h99)))))))) 
              ((sB (decide ((IntKind.wrap .i64 x5) ≤ 64)) 
               ((Fn Tryd.prog 58 #[.string ⟨#[9, 9, 9, 9, 9, 9, 9, 9, 9, 9, 9, 9, 9, 9, 9, 9, 9, 9, 9, 9, 9, 9, 9, 9, 9, 9, 9, 9, 9, 9, 9, 9, 9, 9, 9, 9, 9, 9, 9, 9, 9, 9, 9, 9, 9, 9, 9, 9, 9, 9, 9, 9, 9, 9, 9, 9, 9, 9, 9, 9, 9, 9, 9, 9]⟩, .string p0] h12 
               (fun v103 h105 => ∃ x104 : Bool, v103 = .bool x104 ∧ 
               (sB x104 
                ((((0 : Int) ≤ (0 : Int) ∧ (0 : Int) ≤ ((IntKind.wrap .i64 x5) : Int) ∧ ((IntKind.wrap .i64 x5) : Int) ≤ (ByteArray.size ⟨#[9, 9, 9, 9, 9, 9, 9, 9, 9, 9, 9, 9, 9, 9, 9, 9, 9, 9, 9, 9, 9, 9, 9, 9, 9, 9, 9, 9, 9, 9, 9, 9, 9, 9, 9, 9, 9, 9, 9, 9, 9, 9, 9, 9, 9, 9, 9, 9, 9, 9, 9, 9, 9, 9, 9, 9, 9, 9, 9, 9, 9, 9, 9, 9]⟩ : Nat)) ∧ 
                R (.string (ByteArray.extract ⟨#[9, 9, 9, 9, 9, 9, 9, 9, 9, 9, 9, 9, 9, 9, 9, 9, 9, 9, 9, 9, 9, 9, 9, 9, 9, 9, 9, 9, 9, 9, 9, 9, 9, 9, 9, 9, 9, 9, 9, 9, 9, 9, 9, 9, 9, 9, 9, 9, 9, 9, 9, 9, 9, 9, 9, 9, 9, 9, 9, 9, 9, 9, 9, 9]⟩ (Int.toNat 0) (Int.toNat (IntKind.wrap .i64 x5)))) h105)) 
                ((J9 h105)))))) 
               ((J9 h12)))))))))))) 
          ((J9 h12))))))) ∧ 
       (∀ (_ : Env) (h106 : Heap), J9 h106 → 
       (∃ J107 : Int → Heap → Prop, 
        ((sB (decide ((IntKind.wrap .i64 x5) > 8192)) 
          (((ByteArray.size p0 : Int) ≠ 0 ∧ (sB ((IntKind.wrap .i64 ((IntKind.wrap .i64 (Int.tdiv 8192 (ByteArray.size p0 : Int))) * (ByteArray.size p0 : Int))) == 0) 
           ((J107 (ByteArray.size p0 : Int) h106)) 
           ((J107 (IntKind.wrap .i64 ((IntKind.wrap .i64 (Int.tdiv 8192 (ByteArray.size p0 : Int))) * (ByteArray.size p0 : Int))) h106))))) 
          ((J107 (IntKind.wrap .i64 x5) h106)))) ∧ 
        (∀ (_ : Env) (chunkMax_108 : Int) (h109 : Heap), J107 chunkMax_108 h109 → 
        (∀ h110 : Heap, h110 = h109.push (.cells ⟨[.pointer none, .slice none 0 0]⟩ 67) → 
         (Fn Tryd.prog 59 #[.pointer (some ⟨h109.size, 0, none⟩), .int .i64 (IntKind.wrap .i64 x5)] h110 
         (fun v111 h112 => v111 = .tuple ⟨[]⟩ ∧ 
         (Fn Tryd.prog 34 #[.pointer (some ⟨h109.size, 0, none⟩), .string p0] h112 
         (fun v113 h116 => ∃ x114 : Int, ∃ x115 : Value, v113 = .tuple ⟨[.int .i64 x114, x115]⟩ ∧ 
         (∃ I117 : Heap → Nat → Prop, (∃ m118, I117 h116 m118) ∧ 
         (∀ (_ : Env) (h120 : Heap) (m119 : Nat), I117 h120 m119 → 
         (Fn Tryd.prog 36 #[.pointer (some ⟨h109.size, 0, none⟩)] h120 
          (fun v121 h123 => ∃ x122 : Int, v121 = .int .i64 x122 ∧ 
          (sB (decide (x122 < (IntKind.wrap .i64 x5))) 
           ((Fn Tryd.prog 36 #[.pointer (some ⟨h109.size, 0, none⟩)] h123 
           (fun v124 h126 => ∃ x125 : Int, v124 = .int .i64 x125 ∧ 
           (Fn Tryd.prog 36 #[.pointer (some ⟨h109.size, 0, none⟩)] h126 
           (fun v127 h129 => ∃ x128 : Int, v127 = .int .i64 x128 ∧ 
           (Fn Tryd.prog 37 #[.pointer (some ⟨h109.size, 0, none⟩)] h129 
           (fun v130 h132 => ∃ x131 : ByteArray, v130 = .string x131 ∧ 
           (((0 : Int) ≤ (0 : Int) ∧ (0 : Int) ≤ ((imin (imin (IntKind.wrap .i64 ((IntKind.wrap .i64 x5) - x125)) x128) chunkMax_108) : Int) ∧ ((imin (imin (IntKind.wrap .i64 ((IntKind.wrap .i64 x5) - x125)) x128) chunkMax_108) : Int) ≤ (ByteArray.size x131 : Nat)) ∧ 
           (Fn Tryd.prog 34 #[.pointer (some ⟨h109.size, 0, none⟩), .string (ByteArray.extract x131 (Int.toNat 0) (Int.toNat (imin (imin (IntKind.wrap .i64 ((IntKind.wrap .i64 x5) - x125)) x128) chunkMax_108)))] h132 
           (fun v133 h136 => ∃ x134 : Int, ∃ x135 : Value, v133 = .tuple ⟨[.int .i64 x134, x135]⟩ ∧ 
           (∃ m137, m137 < m119 ∧ I117 h136 m137))))))))))) 
           ((Fn Tryd.prog 37 #[.pointer (some ⟨h109.size, 0, none⟩)] h123 
           (fun v138 h140 => ∃ x139 : ByteArray, v138 = .string x139 ∧ 
           R (.string x139) h140)))))))))))))))))))))))))))))
theorem vc35e (p0 : ByteArray) (p1 : Int) (h : Heap) (R : Value → Heap → Prop) : W35 p0 p1 h R = fnW Tryd.prog 35 (.s .z (.s .z (.j [] .z (.s .z (.j [] .z (.s .z (.s .z (.j [] (.s .z (.b (.j [(43, .one (.bool))] .z .z))) (.s .z (.j [(8, .one (.int .i64))] .z (.s .z (.s .z (.s .z (.s (.b (.l [] .z)) .z)))))))))))))) #[.string p0, .int .i64 p1] h R := by kernel_rfl
theorem vc35 (p0 : ByteArray) (p1 : Int) (h : Heap) (R : Value → Heap → Prop) (H : W35 p0 p1 h R) : Fn Tryd.prog 35 #[.string p0, .int .i64 p1] h R := fnI (vc35e p0 p1 h R) H

/- farandole/farandoleref42.line
   loop rrrrlrb: out_26:ByteArray, i_27:Int -/
def W23 (p0_1 : ByteArray) (p0_2 : Sl) (p0_3 : Sl) (p0_4 : Int) (p0_5 : Int) (p0_6 : Int) (p0_7 : Sl) (p0_8 : Sl) (p1_9 : Int) (p1_10 : Int) (p1_11 : Int) (p2 : Int) (h : Heap) (R : Value → Heap → Prop) : Prop :=
  (∀ h12 : Heap, h12 = h.push (.cells ⟨[.string p0_1, .slice p0_2.a p0_2.n p0_2.c, .slice p0_3.a p0_3.n p0_3.c, .int .i64 p0_4, .int .i64 p0_5, .int .i64 p0_6, .slice p0_7.a p0_7.n p0_7.c, .slice p0_8.a p0_8.n p0_8.c]⟩ 27) → 
  (∀ h13 : Heap, h13 = h12.push (.cells ⟨[.int .i64 p1_9, .int .i64 p1_10, .int .i64 p1_11]⟩ 43) → 
  (∃ x14 : Int, hc h13 ⟨h12.size, 0, none⟩ = some (.int .i64 x14) ∧ 
  (∃ x15 : Int, hc h13 ⟨h12.size, 1, none⟩ = some (.int .i64 x15) ∧ 
  (∃ x16 : Int, hc h13 ⟨h12.size, 0, none⟩ = some (.int .i64 x16) ∧ 
  (∃ x17 : Int, hc h13 ⟨h12.size, 1, none⟩ = some (.int .i64 x17) ∧ 
  (∃ x18 : Sl, hc h13 ⟨h.size, 2, none⟩ = some (.slice x18.a x18.n x18.c) ∧ 
  (∃ x19 : Int, hc h13 ⟨h12.size, 2, none⟩ = some (.int .i64 x19) ∧ 
  (NB x18.a fun b20 o21 => ((0 ≤ (x19 : Int) ∧ (x19 : Int) < (x18.n : Nat)) ∧ 
  (∃ x22 : ByteArray, hc h13 ⟨b20, o21 + Int.toNat x19 * 5, none⟩ = some (.string x22) ∧ 
  (∃ I23 : ByteArray → Int → Heap → Nat → Prop, (∃ m24, I23 ⟨#[]⟩ 0 h13 m24) ∧ 
  (∀ (_ : Env) (out_26 : ByteArray) (i_27 : Int) (h28 : Heap) (m25 : Nat), I23 out_26 i_27 h28 m25 → 
  (∃ x29 : Sl, hc h28 ⟨h.size, 1, none⟩ = some (.slice x29.a x29.n x29.c) ∧ 
   (sB (decide (i_27 ≤ (IntKind.wrap .i64 ((IntKind.wrap .i64 ((x29.n : Int) - 1)) * p2)))) 
    ((sB (decide (i_27 > (IntKind.wrap .i64 ((imin x14 x15) * p2)))) 
     ((sB (decide (i_27 < (IntKind.wrap .i64 ((imax x16 x17) * p2)))) 
      ((∃ x30 : Int, hc h28 ⟨h12.size, 1, none⟩ = some (.int .i64 x30) ∧ 
      (∃ x31 : Int, hc h28 ⟨h12.size, 0, none⟩ = some (.int .i64 x31) ∧ 
      (sB (decide (x30 > x31)) 
       ((sB (i_27 == (IntKind.wrap .i64 ((IntKind.wrap .i64 ((imax x16 x17) * p2)) - 1))) 
        ((((ByteArray.size out_26) + (ByteArray.size ⟨#[62]⟩) : Nat) ≤ 9223372036854775807 ∧ (∃ m32, m32 < m25 ∧ I23 (out_26 ++ ⟨#[62]⟩) (IntKind.wrap .i64 (i_27 + 1)) h28 m32))) 
        ((sB (decide (i_27 > (IntKind.wrap .i64 ((imin x14 x15) * p2)))) 
         ((sB (decide (i_27 < (IntKind.wrap .i64 ((imax x16 x17) * p2)))) 
          ((∃ x33 : Int, hc h28 ⟨h12.size, 1, none⟩ = some (.int .i64 x33) ∧ 
          (∃ x34 : Int, hc h28 ⟨h12.size, 0, none⟩ = some (.int .i64 x34) ∧ 
          (sB (decide (x33 < x34)) 
           ((sB (i_27 == (IntKind.wrap .i64 ((IntKind.wrap .i64 ((imin x14 x15) * p2)) + 1))) 
            ((((ByteArray.size out_26) + (ByteArray.size ⟨#[60]⟩) : Nat) ≤ 9223372036854775807 ∧ (∃ m35, m35 < m25 ∧ I23 (out_26 ++ ⟨#[60]⟩) (IntKind.wrap .i64 (i_27 + 1)) h28 m35))) 
            ((sB (decide (i_27 > (IntKind.wrap .i64 ((imin x14 x15) * p2)))) 
             ((sB (decide (i_27 < (IntKind.wrap .i64 ((imax x16 x17) * p2)))) 
              ((sB (decide (i_27 ≥ (IntKind.wrap .i64 ((IntKind.wrap .i64 ((imin x14 x15) * p2)) + 2)))) 
               ((sB (decide (i_27 < (IntKind.wrap .i64 ((IntKind.wrap .i64 ((IntKind.wrap .i64 ((imin x14 x15) * p2)) + 2)) + (ByteArray.size x22 : Int))))) 
                ((((0 : Int) ≤ ((IntKind.wrap .i64 ((IntKind.wrap .i64 (i_27 - (IntKind.wrap .i64 ((imin x14 x15) * p2)))) - 2)) : Int) ∧ ((IntKind.wrap .i64 ((IntKind.wrap .i64 (i_27 - (IntKind.wrap .i64 ((imin x14 x15) * p2)))) - 2)) : Int) ≤ ((IntKind.wrap .i64 ((IntKind.wrap .i64 (i_27 - (IntKind.wrap .i64 ((imin x14 x15) * p2)))) - 1)) : Int) ∧ ((IntKind.wrap .i64 ((IntKind.wrap .i64 (i_27 - (IntKind.wrap .i64 ((imin x14 x15) * p2)))) - 1)) : Int) ≤ (ByteArray.size x22 : Nat)) ∧ 
                (((ByteArray.size out_26) + (ByteArray.size (ByteArray.extract x22 (Int.toNat (IntKind.wrap .i64 ((IntKind.wrap .i64 (i_27 - (IntKind.wrap .i64 ((imin x14 x15) * p2)))) - 2))) (Int.toNat (IntKind.wrap .i64 ((IntKind.wrap .i64 (i_27 - (IntKind.wrap .i64 ((imin x14 x15) * p2)))) - 1))))) : Nat) ≤ 9223372036854775807 ∧ (∃ m36, m36 < m25 ∧ I23 (out_26 ++ (ByteArray.extract x22 (Int.toNat (IntKind.wrap .i64 ((IntKind.wrap .i64 (i_27 - (IntKind.wrap .i64 ((imin x14 x15) * p2)))) - 2))) (Int.toNat (IntKind.wrap .i64 ((IntKind.wrap .i64 (i_27 - (IntKind.wrap .i64 ((imin x14 x15) * p2)))) - 1))))) (IntKind.wrap .i64 (i_27 + 1)) h28 m36)))) 
                ((sB (decide (i_27 > (IntKind.wrap .i64 ((imin x14 x15) * p2)))) 
                 ((sB (decide (i_27 < (IntKind.wrap .i64 ((imax x16 x17) * p2)))) 
                  ((((ByteArray.size out_26) + (ByteArray.size ⟨#[45]⟩) : Nat) ≤ 9223372036854775807 ∧ (∃ m37, m37 < m25 ∧ I23 (out_26 ++ ⟨#[45]⟩) (IntKind.wrap .i64 (i_27 + 1)) h28 m37))) 
                  ((p2 ≠ 0 ∧ (sB ((Int.tmod i_27 p2) == 0) 
                   ((((ByteArray.size out_26) + (ByteArray.size ⟨#[124]⟩) : Nat) ≤ 9223372036854775807 ∧ (∃ m38, m38 < m25 ∧ I23 (out_26 ++ ⟨#[124]⟩) (IntKind.wrap .i64 (i_27 + 1)) h28 m38))) 
                   ((((ByteArray.size out_26) + (ByteArray.size ⟨#[32]⟩) : Nat) ≤ 9223372036854775807 ∧ (∃ m39, m39 < m25 ∧ I23 (out_26 ++ ⟨#[32]⟩) (IntKind.wrap .i64 (i_27 + 1)) h28 m39)))))))) 
                 ((p2 ≠ 0 ∧ (sB ((Int.tmod i_27 p2) == 0) 
                  ((((ByteArray.size out_26) + (ByteArray.size ⟨#[124]⟩) : Nat) ≤ 9223372036854775807 ∧ (∃ m40, m40 < m25 ∧ I23 (out_26 ++ ⟨#[124]⟩) (IntKind.wrap .i64 (i_27 + 1)) h28 m40))) 
                  ((((ByteArray.size out_26) + (ByteArray.size ⟨#[32]⟩) : Nat) ≤ 9223372036854775807 ∧ (∃ m41, m41 < m25 ∧ I23 (out_26 ++ ⟨#[32]⟩) (IntKind.wrap .i64 (i_27 + 1)) h28 m41)))))))))) 
               ((sB (decide (i_27 > (IntKind.wrap .i64 ((imin x14 x15) * p2)))) 
                ((sB (decide (i_27 < (IntKind.wrap .i64 ((imax x16 x17) * p2)))) 
                 ((((ByteArray.size out_26) + (ByteArray.size ⟨#[45]⟩) : Nat) ≤ 9223372036854775807 ∧ (∃ m42, m42 < m25 ∧ I23 (out_26 ++ ⟨#[45]⟩) (IntKind.wrap .i64 (i_27 + 1)) h28 m42))) 
                 ((p2 ≠ 0 ∧ (sB ((Int.tmod i_27 p2) == 0) 
                  ((((ByteArray.size out_26) + (ByteArray.size ⟨#[124]⟩) : Nat) ≤ 9223372036854775807 ∧ (∃ m43, m43 < m25 ∧ I23 (out_26 ++ ⟨#[124]⟩) (IntKind.wrap .i64 (i_27 + 1)) h28 m43))) 
                  ((((ByteArray.size out_26) + (ByteArray.size ⟨#[32]⟩) : Nat) ≤ 9223372036854775807 ∧ (∃ m44, m44 < m25 ∧ I23 (out_26 ++ ⟨#[32]⟩) (IntKind.wrap .i64 (i_27 + 1)) h28 m44)))))))) 
                ((p2 ≠ 0 ∧ (sB ((Int.tmod i_27 p2) == 0) 
                 ((((ByteArray.size out_26) + (ByteArray.size ⟨#[124]⟩) : Nat) ≤ 9223372036854775807 ∧ (∃ m45, m45 < m25 ∧ I23 (out_26 ++ ⟨#[124]⟩) (IntKind.wrap .i64 (i_27 + 1)) h28 m45))) 
                 ((((ByteArray.size out_26) + (ByteArray.size ⟨#[32]⟩) : Nat) ≤ 9223372036854775807 ∧ (∃ m46, m46 < m25 ∧ I23 (out_26 ++ ⟨#[32]⟩) (IntKind.wrap .i64 (i_27 + 1)) h28 m46)))))))))) 
              ((sB (decide (i_27 > (IntKind.wrap .i64 ((imin x14 x15) * p2)))) 
               ((sB (decide (i_27 < (IntKind.wrap .i64 ((imax x16 x17) * p2)))) 
                ((((ByteArray.size out_26) + (ByteArray.size ⟨#[45]⟩) : Nat) ≤ 9223372036854775807 ∧ (∃ m47, m47 < m25 ∧ I23 (out_26 ++ ⟨#[45]⟩) (IntKind.wrap .i64 (i_27 + 1)) h28 m47))) 
                ((p2 ≠ 0 ∧ (sB ((Int.tmod i_27 p2) == 0) 
                 ((((ByteArray.size out_26) + (ByteArray.size ⟨#[124]⟩) : Nat) ≤ 9223372036854775807 ∧ (∃ m48, m48 < m25 ∧ I23 (out_26 ++ ⟨#[124]⟩) (IntKind.wrap .i64 (i_27 + 1)) h28 m48))) 
                 ((((ByteArray.size out_26) + (ByteArray.size ⟨#[32]⟩) : Nat) ≤ 9223372036854775807 ∧ (∃ m49, m49 < m25 ∧ I23 (out_26 ++ ⟨#[32]⟩) (IntKind.wrap .i64 (i_27 + 1)) h28 m49)))))))) 
               ((p2 ≠ 0 ∧ (sB ((Int.tmod i_27 p2) == 0) 
                ((((ByteArray.size out_26) + (ByteArray.size ⟨#[124]⟩) : Nat) ≤ 9223372036854775807 ∧ (∃ m50, m50 < m25 ∧ I23 (out_26 ++ ⟨#[124]⟩) (IntKind.wrap .i64 (i_27 + 1)) h28 m50))) 
                ((((ByteArray.size out_26) + (ByteArray.size ⟨#[32]⟩) : Nat) ≤ 9223372036854775807 ∧ (∃ m51, m51 < m25 ∧ I23 (out_26 ++ ⟨#[32]⟩) (IntKind.wrap .i64 (i_27 + 1)) h28 m51)))))))))) 
             ((sB (decide (i_27 > (IntKind.wrap .i64 ((imin x14 x15) * p2)))) 
              ((sB (decide (i_27 < (IntKind.wrap .i64 ((imax x16 x17) * p2)))) 
               ((((ByteArray.size out_26) + (ByteArray.size ⟨#[45]⟩) : Nat) ≤ 9223372036854775807 ∧ (∃ m52, m52 < m25 ∧ I23 (out_26 ++ ⟨#[45]⟩) (IntKind.wrap .i64 (i_27 + 1)) h28 m52))) 
               ((p2 ≠ 0 ∧ (sB ((Int.tmod i_27 p2) == 0) 
                ((((ByteArray.size out_26) + (ByteArray.size ⟨#[124]⟩) : Nat) ≤ 9223372036854775807 ∧ (∃ m53, m53 < m25 ∧ I23 (out_26 ++ ⟨#[124]⟩) (IntKind.wrap .i64 (i_27 + 1)) h28 m53))) 
                ((((ByteArray.size out_26) + (ByteArray.size ⟨#[32]⟩) : Nat) ≤ 9223372036854775807 ∧ (∃ m54, m54 < m25 ∧ I23 (out_26 ++ ⟨#[32]⟩) (IntKind.wrap .i64 (i_27 + 1)) h28 m54)))))))) 
              ((p2 ≠ 0 ∧ (sB ((Int.tmod i_27 p2) == 0) 
               ((((ByteArray.size out_26) + (ByteArray.size ⟨#[124]⟩) : Nat) ≤ 9223372036854775807 ∧ (∃ m55, m55 < m25 ∧ I23 (out_26 ++ ⟨#[124]⟩) (IntKind.wrap .i64 (i_27 + 1)) h28 m55))) 
               ((((ByteArray.size out_26) + (ByteArray.size ⟨#[32]⟩) : Nat) ≤ 9223372036854775807 ∧ (∃ m56, m56 < m25 ∧ I23 (out_26 ++ ⟨#[32]⟩) (IntKind.wrap .i64 (i_27 + 1)) h28 m56)))))))))))) 
           ((sB (decide (i_27 > (IntKind.wrap .i64 ((imin x14 x15) * p2)))) 
            ((sB (decide (i_27 < (IntKind.wrap .i64 ((imax x16 x17) * p2)))) 
             ((sB (decide (i_27 ≥ (IntKind.wrap .i64 ((IntKind.wrap .i64 ((imin x14 x15) * p2)) + 2)))) 
              ((sB (decide (i_27 < (IntKind.wrap .i64 ((IntKind.wrap .i64 ((IntKind.wrap .i64 ((imin x14 x15) * p2)) + 2)) + (ByteArray.size x22 : Int))))) 
               ((((0 : Int) ≤ ((IntKind.wrap .i64 ((IntKind.wrap .i64 (i_27 - (IntKind.wrap .i64 ((imin x14 x15) * p2)))) - 2)) : Int) ∧ ((IntKind.wrap .i64 ((IntKind.wrap .i64 (i_27 - (IntKind.wrap .i64 ((imin x14 x15) * p2)))) - 2)) : Int) ≤ ((IntKind.wrap .i64 ((IntKind.wrap .i64 (i_27 - (IntKind.wrap .i64 ((imin x14 x15) * p2)))) - 1)) : Int) ∧ ((IntKind.wrap .i64 ((IntKind.wrap .i64 (i_27 - (IntKind.wrap .i64 ((imin x14 x15) * p2)))) - 1)) : Int) ≤ (ByteArray.size x22 : Nat)) ∧ 
               (((ByteArray.size out_26) + (ByteArray.size (ByteArray.extract x22 (Int.toNat (IntKind.wrap .i64 ((IntKind.wrap .i64 (i_27 - (IntKind.wrap .i64 ((imin x14 x15) * p2)))) - 2))) (Int.toNat (IntKind.wrap .i64 ((IntKind.wrap .i64 (i_27 - (IntKind.wrap .i64 ((imin x14 x15) * p2)))) - 1))))) : Nat) ≤ 9223372036854775807 ∧ (∃ m57, m57 < m25 ∧ I23 (out_26 ++ (ByteArray.extract x22 (Int.toNat (IntKind.wrap .i64 ((IntKind.wrap .i64 (i_27 - (IntKind.wrap .i64 ((imin x14 x15) * p2)))) - 2))) (Int.toNat (IntKind.wrap .i64 ((IntKind.wrap .i64 (i_27 - (IntKind.wrap .i64 ((imin x14 x15) * p2)))) - 1))))) (IntKind.wrap .i64 (i_27 + 1)) h28 m57)))) 
               ((sB (decide (i_27 > (IntKind.wrap .i64 ((imin x14 x15) * p2)))) 
                ((sB (decide (i_27 < (IntKind.wrap .i64 ((imax x16 x17) * p2)))) 
                 ((((ByteArray.size out_26) + (ByteArray.size ⟨#[45]⟩) : Nat) ≤ 9223372036854775807 ∧ (∃ m58, m58 < m25 ∧ I23 (out_26 ++ ⟨#[45]⟩) (IntKind.wrap .i64 (i_27 + 1)) h28 m58))) 
                 ((p2 ≠ 0 ∧ (sB ((Int.tmod i_27 p2) == 0) 
                  ((((ByteArray.size out_26) + (ByteArray.size ⟨#[124]⟩) : Nat) ≤ 9223372036854775807 ∧ (∃ m59, m59 < m25 ∧ I23 (out_26 ++ ⟨#[124]⟩) (IntKind.wrap .i64 (i_27 + 1)) h28 m59))) 
                  ((((ByteArray.size out_26) + (ByteArray.size ⟨#[32]⟩) : Nat) ≤ 9223372036854775807 ∧ (∃ m60, m60 < m25 ∧ I23 (out_26 ++ ⟨#[32]⟩) (IntKind.wrap .i64 (i_27 + 1)) h28 m60)))))))) 
                ((p2 ≠ 0 ∧ (sB ((Int.tmod i_27 p2) == 0) 
                 ((((ByteArray.size out_26) + (ByteArray.size ⟨#[124]⟩) : Nat) ≤ 9223372036854775807 ∧ (∃ m61, m61 < m25 ∧ I23 (out_26 ++ ⟨#[124]⟩) (IntKind.wrap .i64 (i_27 + 1)) h28 m61))) 
                 ((((ByteArray.size out_26) + (ByteArray.size ⟨#[32]⟩) : Nat) ≤ 9223372036854775807 ∧ (∃ m62, m62 < m25 ∧ I23 (out_26 ++ ⟨#[32]⟩) (IntKind.wrap .i64 (i_27 + 1)) h28 m62)))))))))) 
              ((sB (decide (i_27 > (IntKind.wrap .i64 ((imin x14 x15) * p2)))) 
               ((sB (decide (i_27 < (IntKind.wrap .i64 ((imax x16 x17) * p2)))) 
                ((((ByteArray.size out_26) + (ByteArray.size ⟨#[45]⟩) : Nat) ≤ 9223372036854775807 ∧ (∃ m63, m63 < m25 ∧ I23 (out_26 ++ ⟨#[45]⟩) (IntKind.wrap .i64 (i_27 + 1)) h28 m63))) 
                ((p2 ≠ 0 ∧ (sB ((Int.tmod i_27 p2) == 0) 
                 ((((ByteArray.size out_26) + (ByteArray.size ⟨#[124]⟩) : Nat) ≤ 9223372036854775807 ∧ (∃ m64, m64 < m25 ∧ I23 (out_26 ++ ⟨#[124]⟩) (IntKind.wrap .i64 (i_27 + 1)) h28 m64))) 
                 ((((ByteArray.size out_26) + (ByteArray.size ⟨#[32]⟩) : Nat) ≤ 9223372036854775807 ∧ (∃ m65, m65 < m25 ∧ I23 (out_26 ++ ⟨#[32]⟩) (IntKind.wrap .i64 (i_27 + 1)) h28 m65)))))))) 
               ((p2 ≠ 0 ∧ (sB ((Int.tmod i_27 p2) == 0) 
                ((((ByteArray.size out_26) + (ByteArray.size ⟨#[124]⟩) : Nat) ≤ 9223372036854775807 ∧ (∃ m66, m66 < m25 ∧ I23 (out_26 ++ ⟨#[124]⟩) (IntKind.wrap .i64 (i_27 + 1)) h28 m66))) 
                ((((ByteArray.size out_26) + (ByteArray.size ⟨#[32]⟩) : Nat) ≤ 9223372036854775807 ∧ (∃ m67, m67 < m25 ∧ I23 (out_26 ++ ⟨#[32]⟩) (IntKind.wrap .i64 (i_27 + 1)) h28 m67)))))))))) 
             ((sB (decide (i_27 > (IntKind.wrap .i64 ((imin x14 x15) * p2)))) 
              ((sB (decide (i_27 < (IntKind.wrap .i64 ((imax x16 x17) * p2)))) 
               ((((ByteArray.size out_26) + (ByteArray.size ⟨#[45]⟩) : Nat) ≤ 9223372036854775807 ∧ (∃ m68, m68 < m25 ∧ I23 (out_26 ++ ⟨#[45]⟩) (IntKind.wrap .i64 (i_27 + 1)) h28 m68))) 
               ((p2 ≠ 0 ∧ (sB ((Int.tmod i_27 p2) == 0) 
                ((((ByteArray.size out_26) + (ByteArray.size ⟨#[124]⟩) : Nat) ≤ 9223372036854775807 ∧ (∃ m69, m69 < m25 ∧ I23 (out_26 ++ ⟨#[124]⟩) (IntKind.wrap .i64 (i_27 + 1)) h28 m69))) 
                ((((ByteArray.size out_26) + (ByteArray.size ⟨#[32]⟩) : Nat) ≤ 9223372036854775807 ∧ (∃ m70, m70 < m25 ∧ I23 (out_26 ++ ⟨#[32]⟩) (IntKind.wrap .i64 (i_27 + 1)) h28 m70)))))))) 
              ((p2 ≠ 0 ∧ (sB ((Int.tmod i_27 p2) == 0) 
               ((((ByteArray.size out_26) + (ByteArray.size ⟨#[124]⟩) : Nat) ≤ 9223372036854775807 ∧ (∃ m71, m71 < m25 ∧ I23 (out_26 ++ ⟨#[124]⟩) (IntKind.wrap .i64 (i_27 + 1)) h28 m71))) 
               ((((ByteArray.size out_26) + (ByteArray.size ⟨#[32]⟩) : Nat) ≤ 9223372036854775807 ∧ (∃ m72, m72 < m25 ∧ I23 (out_26 ++ ⟨#[32]⟩) (IntKind.wrap .i64 (i_27 + 1)) h28 m72)))))))))) 
            ((sB (decide (i_27 > (IntKind.wrap .i64 ((imin x14 x15) * p2)))) 
             ((sB (decide (i_27 < (IntKind.wrap .i64 ((imax x16 x17) * p2)))) 
              ((((ByteArray.size out_26) + (ByteArray.size ⟨#[45]⟩) : Nat) ≤ 9223372036854775807 ∧ (∃ m73, m73 < m25 ∧ I23 (out_26 ++ ⟨#[45]⟩) (IntKind.wrap .i64 (i_27 + 1)) h28 m73))) 
              ((p2 ≠ 0 ∧ (sB ((Int.tmod i_27 p2) == 0) 
               ((((ByteArray.size out_26) + (ByteArray.size ⟨#[124]⟩) : Nat) ≤ 9223372036854775807 ∧ (∃ m74, m74 < m25 ∧ I23 (out_26 ++ ⟨#[124]⟩) (IntKind.wrap .i64 (i_27 + 1)) h28 m74))) 
               ((((ByteArray.size out_26) + (ByteArray.size ⟨#[32]⟩) : Nat) ≤ 9223372036854775807 ∧ (∃ m75, m75 < m25 ∧ I23 (out_26 ++ ⟨#[32]⟩) (IntKind.wrap .i64 (i_27 + 1)) h28 m75)))))))) 
             ((p2 ≠ 0 ∧ (sB ((Int.tmod i_27 p2) == 0) 
              ((((ByteArray.size out_26) + (ByteArray.size ⟨#[124]⟩) : Nat) ≤ 9223372036854775807 ∧ (∃ m76, m76 < m25 ∧ I23 (out_26 ++ ⟨#[124]⟩) (IntKind.wrap .i64 (i_27 + 1)) h28 m76))) 
              ((((ByteArray.size out_26) + (ByteArray.size ⟨#[32]⟩) : Nat) ≤ 9223372036854775807 ∧ (∃ m77, m77 < m25 ∧ I23 (out_26 ++ ⟨#[32]⟩) (IntKind.wrap .i64 (i_27 + 1)) h28 m77)))))))))))))) 
          ((sB (decide (i_27 > (IntKind.wrap .i64 ((imin x14 x15) * p2)))) 
           ((sB (decide (i_27 < (IntKind.wrap .i64 ((imax x16 x17) * p2)))) 
            ((sB (decide (i_27 ≥ (IntKind.wrap .i64 ((IntKind.wrap .i64 ((imin x14 x15) * p2)) + 2)))) 
             ((sB (decide (i_27 < (IntKind.wrap .i64 ((IntKind.wrap .i64 ((IntKind.wrap .i64 ((imin x14 x15) * p2)) + 2)) + (ByteArray.size x22 : Int))))) 
              ((((0 : Int) ≤ ((IntKind.wrap .i64 ((IntKind.wrap .i64 (i_27 - (IntKind.wrap .i64 ((imin x14 x15) * p2)))) - 2)) : Int) ∧ ((IntKind.wrap .i64 ((IntKind.wrap .i64 (i_27 - (IntKind.wrap .i64 ((imin x14 x15) * p2)))) - 2)) : Int) ≤ ((IntKind.wrap .i64 ((IntKind.wrap .i64 (i_27 - (IntKind.wrap .i64 ((imin x14 x15) * p2)))) - 1)) : Int) ∧ ((IntKind.wrap .i64 ((IntKind.wrap .i64 (i_27 - (IntKind.wrap .i64 ((imin x14 x15) * p2)))) - 1)) : Int) ≤ (ByteArray.size x22 : Nat)) ∧ 
              (((ByteArray.size out_26) + (ByteArray.size (ByteArray.extract x22 (Int.toNat (IntKind.wrap .i64 ((IntKind.wrap .i64 (i_27 - (IntKind.wrap .i64 ((imin x14 x15) * p2)))) - 2))) (Int.toNat (IntKind.wrap .i64 ((IntKind.wrap .i64 (i_27 - (IntKind.wrap .i64 ((imin x14 x15) * p2)))) - 1))))) : Nat) ≤ 9223372036854775807 ∧ (∃ m78, m78 < m25 ∧ I23 (out_26 ++ (ByteArray.extract x22 (Int.toNat (IntKind.wrap .i64 ((IntKind.wrap .i64 (i_27 - (IntKind.wrap .i64 ((imin x14 x15) * p2)))) - 2))) (Int.toNat (IntKind.wrap .i64 ((IntKind.wrap .i64 (i_27 - (IntKind.wrap .i64 ((imin x14 x15) * p2)))) - 1))))) (IntKind.wrap .i64 (i_27 + 1)) h28 m78)))) 
              ((sB (decide (i_27 > (IntKind.wrap .i64 ((imin x14 x15) * p2)))) 
               ((sB (decide (i_27 < (IntKind.wrap .i64 ((imax x16 x17) * p2)))) 
                ((((ByteArray.size out_26) + (ByteArray.size ⟨#[45]⟩) : Nat) ≤ 9223372036854775807 ∧ (∃ m79, m79 < m25 ∧ I23 (out_26 ++ ⟨#[45]⟩) (IntKind.wrap .i64 (i_27 + 1)) h28 m79))) 
                ((p2 ≠ 0 ∧ (sB ((Int.tmod i_27 p2) == 0) 
                 ((((ByteArray.size out_26) + (ByteArray.size ⟨#[124]⟩) : Nat) ≤ 9223372036854775807 ∧ (∃ m80, m80 < m25 ∧ I23 (out_26 ++ ⟨#[124]⟩) (IntKind.wrap .i64 (i_27 + 1)) h28 m80))) 
                 ((((ByteArray.size out_26) + (ByteArray.size ⟨#[32]⟩) : Nat) ≤ 9223372036854775807 ∧ (∃ m81, m81 < m25 ∧ I23 (out_26 ++ ⟨#[32]⟩) (IntKind.wrap .i64 (i_27 + 1)) h28 m81)))))))) 
               ((p2 ≠ 0 ∧ (sB ((Int.tmod i_27 p2) == 0) 
                ((((ByteArray.size out_26) + (ByteArray.size ⟨#[124]⟩) : Nat) ≤ 9223372036854775807 ∧ (∃ m82, m82 < m25 ∧ I23 (out_26 ++ ⟨#[124]⟩) (IntKind.wrap .i64 (i_27 + 1)) h28 m82))) 
                ((((ByteArray.size out_26) + (ByteArray.size ⟨#[32]⟩) : Nat) ≤ 9223372036854775807 ∧ (∃ m83, m83 < m25 ∧ I23 (out_26 ++ ⟨#[32]⟩) (IntKind.wrap .i64 (i_27 + 1)) h28 m83)))))))))) 
             ((sB (decide (i_27 > (IntKind.wrap .i64 ((imin x14 x15) * p2)))) 
              ((sB (decide (i_27 < (IntKind.wrap .i64 ((imax x16 x17) * p2)))) 
               ((((ByteArray.size out_26) + (ByteArray.size ⟨#[45]⟩) : Nat) ≤ 9223372036854775807 ∧ (∃ m84, m84 < m25 ∧ I23 (out_26 ++ ⟨#[45]⟩) (IntKind.wrap .i64 (i_27 + 1)) h28 m84))) 
               ((p2 ≠ 0 ∧ (sB ((Int.tmod i_27 p2) == 0) 
                ((((ByteArray.size out_26) + (ByteArray.size ⟨#[124]⟩) : Nat) ≤ 9223372036854775807 ∧ (∃ m85, m85 < m25 ∧ I23 (out_26 ++ ⟨#[124]⟩) (IntKind.wrap .i64 (i_27 + 1)) h28 m85))) 
                ((((ByteArray.size out_26) + (ByteArray.size ⟨#[32]⟩) : Nat) ≤ 9223372036854775807 ∧ (∃ m86, m86 < m25 ∧ I23 (out_26 ++ ⟨#[32]⟩) (IntKind.wrap .i64 (i_27 + 1)) h28 m86)))))))) 
              ((p2 ≠ 0 ∧ (sB ((Int.tmod i_27 p2) == 0) 
               ((((ByteArray.size out_26) + (ByteArray.size ⟨#[124]⟩) : Nat) ≤ 9223372036854775807 ∧ (∃ m87, m87 < m25 ∧ I23 (out_26 ++ ⟨#[124]⟩) (IntKind.wrap .i64 (i_27 + 1)) h28 m87))) 
               ((((ByteArray.size out_26) + (ByteArray.size ⟨#[32]⟩) : Nat) ≤ 9223372036854775807 ∧ (∃ m88, m88 < m25 ∧ I23 (out_26 ++ ⟨#[32]⟩) (IntKind.wrap .i64 (i_27 + 1)) h28 m88)))))))))) 
            ((sB (decide (i_27 > (IntKind.wrap .i64 ((imin x14 x15) * p2)))) 
             ((sB (decide (i_27 < (IntKind.wrap .i64 ((imax x16 x17) * p2)))) 
              ((((ByteArray.size out_26) + (ByteArray.size ⟨#[45]⟩) : Nat) ≤ 9223372036854775807 ∧ (∃ m89, m89 < m25 ∧ I23 (out_26 ++ ⟨#[45]⟩) (IntKind.wrap .i64 (i_27 + 1)) h28 m89))) 
              ((p2 ≠ 0 ∧ (sB ((Int.tmod i_27 p2) == 0) 
               ((((ByteArray.size out_26) + (ByteArray.size ⟨#[124]⟩) : Nat) ≤ 9223372036854775807 ∧ (∃ m90, m90 < m25 ∧ I23 (out_26 ++ ⟨#[124]⟩) (IntKind.wrap .i64 (i_27 + 1)) h28 m90))) 
               ((((ByteArray.size out_26) + (ByteArray.size ⟨#[32]⟩) : Nat) ≤ 9223372036854775807 ∧ (∃ m91, m91 < m25 ∧ I23 (out_26 ++ ⟨#[32]⟩) (IntKind.wrap .i64 (i_27 + 1)) h28 m91)))))))) 
             ((p2 ≠ 0 ∧ (sB ((Int.tmod i_27 p2) == 0) 
              ((((ByteArray.size out_26) + (ByteArray.size ⟨#[124]⟩) : Nat) ≤ 9223372036854775807 ∧ (∃ m92, m92 < m25 ∧ I23 (out_26 ++ ⟨#[124]⟩) (IntKind.wrap .i64 (i_27 + 1)) h28 m92))) 
              ((((ByteArray.size out_26) + (ByteArray.size ⟨#[32]⟩) : Nat) ≤ 9223372036854775807 ∧ (∃ m93, m93 < m25 ∧ I23 (out_26 ++ ⟨#[32]⟩) (IntKind.wrap .i64 (i_27 + 1)) h28 m93)))))))))) 
           ((sB (decide (i_27 > (IntKind.wrap .i64 ((imin x14 x15) * p2)))) 
            ((sB (decide (i_27 < (IntKind.wrap .i64 ((imax x16 x17) * p2)))) 
             ((((ByteArray.size out_26) + (ByteArray.size ⟨#[45]⟩) : Nat) ≤ 9223372036854775807 ∧ (∃ m94, m94 < m25 ∧ I23 (out_26 ++ ⟨#[45]⟩) (IntKind.wrap .i64 (i_27 + 1)) h28 m94))) 
             ((p2 ≠ 0 ∧ (sB ((Int.tmod i_27 p2) == 0) 
              ((((ByteArray.size out_26) + (ByteArray.size ⟨#[124]⟩) : Nat) ≤ 9223372036854775807 ∧ (∃ m95, m95 < m25 ∧ I23 (out_26 ++ ⟨#[124]⟩) (IntKind.wrap .i64 (i_27 + 1)) h28 m95))) 
              ((((ByteArray.size out_26) + (ByteArray.size ⟨#[32]⟩) : Nat) ≤ 9223372036854775807 ∧ (∃ m96, m96 < m25 ∧ I23 (out_26 ++ ⟨#[32]⟩) (IntKind.wrap .i64 (i_27 + 1)) h28 m96)))))))) 
            ((p2 ≠ 0 ∧ (sB ((Int.tmod i_27 p2) == 0) 
             ((((ByteArray.size out_26) + (ByteArray.size ⟨#[124]⟩) : Nat) ≤ 9223372036854775807 ∧ (∃ m97, m97 < m25 ∧ I23 (out_26 ++ ⟨#[124]⟩) (IntKind.wrap .i64 (i_27 + 1)) h28 m97))) 
             ((((ByteArray.size out_26) + (ByteArray.size ⟨#[32]⟩) : Nat) ≤ 9223372036854775807 ∧ (∃ m98, m98 < m25 ∧ I23 (out_26 ++ ⟨#[32]⟩) (IntKind.wrap .i64 (i_27 + 1)) h28 m98)))))))))))) 
         ((sB (decide (i_27 > (IntKind.wrap .i64 ((imin x14 x15) * p2)))) 
          ((sB (decide (i_27 < (IntKind.wrap .i64 ((imax x16 x17) * p2)))) 
           ((sB (decide (i_27 ≥ (IntKind.wrap .i64 ((IntKind.wrap .i64 ((imin x14 x15) * p2)) + 2)))) 
            ((sB (decide (i_27 < (IntKind.wrap .i64 ((IntKind.wrap .i64 ((IntKind.wrap .i64 ((imin x14 x15) * p2)) + 2)) + (ByteArray.size x22 : Int))))) 
             ((((0 : Int) ≤ ((IntKind.wrap .i64 ((IntKind.wrap .i64 (i_27 - (IntKind.wrap .i64 ((imin x14 x15) * p2)))) - 2)) : Int) ∧ ((IntKind.wrap .i64 ((IntKind.wrap .i64 (i_27 - (IntKind.wrap .i64 ((imin x14 x15) * p2)))) - 2)) : Int) ≤ ((IntKind.wrap .i64 ((IntKind.wrap .i64 (i_27 - (IntKind.wrap .i64 ((imin x14 x15) * p2)))) - 1)) : Int) ∧ ((IntKind.wrap .i64 ((IntKind.wrap .i64 (i_27 - (IntKind.wrap .i64 ((imin x14 x15) * p2)))) - 1)) : Int) ≤ (ByteArray.size x22 : Nat)) ∧ 
             (((ByteArray.size out_26) + (ByteArray.size (ByteArray.extract x22 (Int.toNat (IntKind.wrap .i64 ((IntKind.wrap .i64 (i_27 - (IntKind.wrap .i64 ((imin x14 x15) * p2)))) - 2))) (Int.toNat (IntKind.wrap .i64 ((IntKind.wrap .i64 (i_27 - (IntKind.wrap .i64 ((imin x14 x15) * p2)))) - 1))))) : Nat) ≤ 9223372036854775807 ∧ (∃ m99, m99 < m25 ∧ I23 (out_26 ++ (ByteArray.extract x22 (Int.toNat (IntKind.wrap .i64 ((IntKind.wrap .i64 (i_27 - (IntKind.wrap .i64 ((imin x14 x15) * p2)))) - 2))) (Int.toNat (IntKind.wrap .i64 ((IntKind.wrap .i64 (i_27 - (IntKind.wrap .i64 ((imin x14 x15) * p2)))) - 1))))) (IntKind.wrap .i64 (i_27 + 1)) h28 m99)))) 
             ((sB (decide (i_27 > (IntKind.wrap .i64 ((imin x14 x15) * p2)))) 
              ((sB (decide (i_27 < (IntKind.wrap .i64 ((imax x16 x17) * p2)))) 
               ((((ByteArray.size out_26) + (ByteArray.size ⟨#[45]⟩) : Nat) ≤ 9223372036854775807 ∧ (∃ m100, m100 < m25 ∧ I23 (out_26 ++ ⟨#[45]⟩) (IntKind.wrap .i64 (i_27 + 1)) h28 m100))) 
               ((p2 ≠ 0 ∧ (sB ((Int.tmod i_27 p2) == 0) 
                ((((ByteArray.size out_26) + (ByteArray.size ⟨#[124]⟩) : Nat) ≤ 9223372036854775807 ∧ (∃ m101, m101 < m25 ∧ I23 (out_26 ++ ⟨#[124]⟩) (IntKind.wrap .i64 (i_27 + 1)) h28 m101))) 
                ((((ByteArray.size out_26) + (ByteArray.size ⟨#[32]⟩) : Nat) ≤ 9223372036854775807 ∧ (∃ m102, m102 < m25 ∧ I23 (out_26 ++ ⟨#[32]⟩) (IntKind.wrap .i64 (i_27 + 1)) h28 m102)))))))) 
              ((p2 ≠ 0 ∧ (sB ((Int.tmod i_27 p2) == 0) 
               ((((ByteArray.size out_26) + (ByteArray.size ⟨#[124]⟩) : Nat) ≤ 9223372036854775807 ∧ (∃ m103, m103 < m25 ∧ I23 (out_26 ++ ⟨#[124]⟩) (IntKind.wrap .i64 (i_27 + 1)) h28 m103))) 
               ((((ByteArray.size out_26) + (ByteArray.size ⟨#[32]⟩) : Nat) ≤ 9223372036854775807 ∧ (∃ m104, m104 < m25 ∧ I23 (out_26 ++ ⟨#[32]⟩) (IntKind.wrap .i64 (i_27 + 1)) h28 m104)))))))))) 
            ((sB (decide (i_27 > (IntKind.wrap .i64 ((imin x14 x15) * p2)))) 
             ((sB (decide (i_27 < (IntKind.wrap .i64 ((imax x16 x17) * p2)))) 
              ((((ByteArray.size out_26) + (ByteArray.size ⟨#[45]⟩) : Nat) ≤ 9223372036854775807 ∧ (∃ m105, m105 < m25 ∧ I23 (out_26 ++ ⟨#[45]⟩) (IntKind.wrap .i64 (i_27 + 1)) h28 m105))) 
              ((p2 ≠ 0 ∧ (sB ((Int.tmod i_27 p2) == 0) 
               ((((ByteArray.size out_26) + (ByteArray.size ⟨#[124]⟩) : Nat) ≤ 9223372036854775807 ∧ (∃ m106, m106 < m25 ∧ I23 (out_26 ++ ⟨#[124]⟩) (IntKind.wrap .i64 (i_27 + 1)) h28 m106))) 
               ((((ByteArray.size out_26) + (ByteArray.size ⟨#[32]⟩) : Nat) ≤ 9223372036854775807 ∧ (∃ m107, m107 < m25 ∧ I23 (out_26 ++ ⟨#[32]⟩) (IntKind.wrap .i64 (i_27 + 1)) h28 m107)))))))) 
             ((p2 ≠ 0 ∧ (sB ((Int.tmod i_27 p2) == 0) 
              ((((ByteArray.size out_26) + (ByteArray.size ⟨#[124]⟩) : Nat) ≤ 9223372036854775807 ∧ (∃ m108, m108 < m25 ∧ I23 (out_26 ++ ⟨#[124]⟩) (IntKind.wrap .i64 (i_27 + 1)) h28 m108))) 
              ((((ByteArray.size out_26) + (ByteArray.size ⟨#[32]⟩) : Nat) ≤ 9223372036854775807 ∧ (∃ m109, m109 < m25 ∧ I23 (out_26 ++ ⟨#[32]⟩) (IntKind.wrap .i64 (i_27 + 1)) h28 m109)))))))))) 
           ((sB (decide (i_27 > (IntKind.wrap .i64 ((imin x14 x15) * p2)))) 
            ((sB (decide (i_27 < (IntKind.wrap .i64 ((imax x16 x17) * p2)))) 
             ((((ByteArray.size out_26) + (ByteArray.size ⟨#[45]⟩) : Nat) ≤ 9223372036854775807 ∧ (∃ m110, m110 < m25 ∧ I23 (out_26 ++ ⟨#[45]⟩) (IntKind.wrap .i64 (i_27 + 1)) h28 m110))) 
             ((p2 ≠ 0 ∧ (sB ((Int.tmod i_27 p2) == 0) 
              ((((ByteArray.size out_26) + (ByteArray.size ⟨#[124]⟩) : Nat) ≤ 9223372036854775807 ∧ (∃ m111, m111 < m25 ∧ I23 (out_26 ++ ⟨#[124]⟩) (IntKind.wrap .i64 (i_27 + 1)) h28 m111))) 
              ((((ByteArray.size out_26) + (ByteArray.size ⟨#[32]⟩) : Nat) ≤ 9223372036854775807 ∧ (∃ m112, m112 < m25 ∧ I23 (out_26 ++ ⟨#[32]⟩) (IntKind.wrap .i64 (i_27 + 1)) h28 m112)))))))) 
            ((p2 ≠ 0 ∧ (sB ((Int.tmod i_27 p2) == 0) 
             ((((ByteArray.size out_26) + (ByteArray.size ⟨#[124]⟩) : Nat) ≤ 9223372036854775807 ∧ (∃ m113, m113 < m25 ∧ I23 (out_26 ++ ⟨#[124]⟩) (IntKind.wrap .i64 (i_27 + 1)) h28 m113))) 
             ((((ByteArray.size out_26) + (ByteArray.size ⟨#[32]⟩) : Nat) ≤ 9223372036854775807 ∧ (∃ m114, m114 < m25 ∧ I23 (out_26 ++ ⟨#[32]⟩) (IntKind.wrap .i64 (i_27 + 1)) h28 m114)))))))))) 
          ((sB (decide (i_27 > (IntKind.wrap .i64 ((imin x14 x15) * p2)))) 
           ((sB (decide (i_27 < (IntKind.wrap .i64 ((imax x16 x17) * p2)))) 
            ((((ByteArray.size out_26) + (ByteArray.size ⟨#[45]⟩) : Nat) ≤ 9223372036854775807 ∧ (∃ m115, m115 < m25 ∧ I23 (out_26 ++ ⟨#[45]⟩) (IntKind.wrap .i64 (i_27 + 1)) h28 m115))) 
            ((p2 ≠ 0 ∧ (sB ((Int.tmod i_27 p2) == 0) 
             ((((ByteArray.size out_26) + (ByteArray.size ⟨#[124]⟩) : Nat) ≤ 9223372036854775807 ∧ (∃ m116, m116 < m25 ∧ I23 (out_26 ++ ⟨#[124]⟩) (IntKind.wrap .i64 (i_27 + 1)) h28 m116))) 
             ((((ByteArray.size out_26) + (ByteArray.size ⟨#[32]⟩) : Nat) ≤ 9223372036854775807 ∧ (∃ m117, m117 < m25 ∧ I23 (out_26 ++ ⟨#[32]⟩) (IntKind.wrap .i64 (i_27 + 1)) h28 m117)))))))) 
           ((p2 ≠ 0 ∧ (sB ((Int.tmod i_27 p2) == 0) 
            ((((ByteArray.size out_26) + (ByteArray.size ⟨#[124]⟩) : Nat) ≤ 9223372036854775807 ∧ (∃ m118, m118 < m25 ∧ I23 (out_26 ++ ⟨#[124]⟩) (IntKind.wrap .i64 (i_27 + 1)) h28 m118))) 
            ((((ByteArray.size out_26) + (ByteArray.size ⟨#[32]⟩) : Nat) ≤ 9223372036854775807 ∧ (∃ m119, m119 < m25 ∧ I23 (out_26 ++ ⟨#[32]⟩) (IntKind.wrap .i64 (i_27 + 1)) h28 m119)))))))))))))) 
       ((sB (decide (i_27 > (IntKind.wrap .i64 ((imin x14 x15) * p2)))) 
        ((sB (decide (i_27 < (IntKind.wrap .i64 ((imax x16 x17) * p2)))) 
         ((∃ x120 : Int, hc h28 ⟨h12.size, 1, none⟩ = some (.int .i64 x120) ∧ 
         (∃ x121 : Int, hc h28 ⟨h12.size, 0, none⟩ = some (.int .i64 x121) ∧ 
         (sB (decide (x120 < x121)) 
          ((sB (i_27 == (IntKind.wrap .i64 ((IntKind.wrap .i64 ((imin x14 x15) * p2)) + 1))) 
           ((((ByteArray.size out_26) + (ByteArray.size ⟨#[60]⟩) : Nat) ≤ 9223372036854775807 ∧ (∃ m122, m122 < m25 ∧ I23 (out_26 ++ ⟨#[60]⟩) (IntKind.wrap .i64 (i_27 + 1)) h28 m122))) 
           ((sB (decide (i_27 > (IntKind.wrap .i64 ((imin x14 x15) * p2)))) 
            ((sB (decide (i_27 < (IntKind.wrap .i64 ((imax x16 x17) * p2)))) 
             ((sB (decide (i_27 ≥ (IntKind.wrap .i64 ((IntKind.wrap .i64 ((imin x14 x15) * p2)) + 2)))) 
              ((sB (decide (i_27 < (IntKind.wrap .i64 ((IntKind.wrap .i64 ((IntKind.wrap .i64 ((imin x14 x15) * p2)) + 2)) + (ByteArray.size x22 : Int))))) 
               ((((0 : Int) ≤ ((IntKind.wrap .i64 ((IntKind.wrap .i64 (i_27 - (IntKind.wrap .i64 ((imin x14 x15) * p2)))) - 2)) : Int) ∧ ((IntKind.wrap .i64 ((IntKind.wrap .i64 (i_27 - (IntKind.wrap .i64 ((imin x14 x15) * p2)))) - 2)) : Int) ≤ ((IntKind.wrap .i64 ((IntKind.wrap .i64 (i_27 - (IntKind.wrap .i64 ((imin x14 x15) * p2)))) - 1)) : Int) ∧ ((IntKind.wrap .i64 ((IntKind.wrap .i64 (i_27 - (IntKind.wrap .i64 ((imin x14 x15) * p2)))) - 1)) : Int) ≤ (ByteArray.size x22 : Nat)) ∧ 
               (((ByteArray.size out_26) + (ByteArray.size (ByteArray.extract x22 (Int.toNat (IntKind.wrap .i64 ((IntKind.wrap .i64 (i_27 - (IntKind.wrap .i64 ((imin x14 x15) * p2)))) - 2))) (Int.toNat (IntKind.wrap .i64 ((IntKind.wrap .i64 (i_27 - (IntKind.wrap .i64 ((imin x14 x15) * p2)))) - 1))))) : Nat) ≤ 9223372036854775807 ∧ (∃ m123, m123 < m25 ∧ I23 (out_26 ++ (ByteArray.extract x22 (Int.toNat (IntKind.wrap .i64 ((IntKind.wrap .i64 (i_27 - (IntKind.wrap .i64 ((imin x14 x15) * p2)))) - 2))) (Int.toNat (IntKind.wrap .i64 ((IntKind.wrap .i64 (i_27 - (IntKind.wrap .i64 ((imin x14 x15) * p2)))) - 1))))) (IntKind.wrap .i64 (i_27 + 1)) h28 m123)))) 
               ((sB (decide (i_27 > (IntKind.wrap .i64 ((imin x14 x15) * p2)))) 
                ((sB (decide (i_27 < (IntKind.wrap .i64 ((imax x16 x17) * p2)))) 
                 ((((ByteArray.size out_26) + (ByteArray.size ⟨#[45]⟩) : Nat) ≤ 9223372036854775807 ∧ (∃ m124, m124 < m25 ∧ I23 (out_26 ++ ⟨#[45]⟩) (IntKind.wrap .i64 (i_27 + 1)) h28 m124))) 
                 ((p2 ≠ 0 ∧ (sB ((Int.tmod i_27 p2) == 0) 
                  ((((ByteArray.size out_26) + (ByteArray.size ⟨#[124]⟩) : Nat) ≤ 9223372036854775807 ∧ (∃ m125, m125 < m25 ∧ I23 (out_26 ++ ⟨#[124]⟩) (IntKind.wrap .i64 (i_27 + 1)) h28 m125))) 
                  ((((ByteArray.size out_26) + (ByteArray.size ⟨#[32]⟩) : Nat) ≤ 9223372036854775807 ∧ (∃ m126, m126 < m25 ∧ I23 (out_26 ++ ⟨#[32]⟩) (IntKind.wrap .i64 (i_27 + 1)) h28 m126)))))))) 
                ((p2 ≠ 0 ∧ (sB ((Int.tmod i_27 p2) == 0) 
                 ((((ByteArray.size out_26) + (ByteArray.size ⟨#[124]⟩) : Nat) ≤ 9223372036854775807 ∧ (∃ m127, m127 < m25 ∧ I23 (out_26 ++ ⟨#[124]⟩) (IntKind.wrap .i64 (i_27 + 1)) h28 m127))) 
                 ((((ByteArray.size out_26) + (ByteArray.size ⟨#[32]⟩) : Nat) ≤ 9223372036854775807 ∧ (∃ m128, m128 < m25 ∧ I23 (out_26 ++ ⟨#[32]⟩) (IntKind.wrap .i64 (i_27 + 1)) h28 m128)))))))))) 
              ((sB (decide (i_27 > (IntKind.wrap .i64 ((imin x14 x15) * p2)))) 
               ((sB (decide (i_27 < (IntKind.wrap .i64 ((imax x16 x17) * p2)))) 
                ((((ByteArray.size out_26) + (ByteArray.size ⟨#[45]⟩) : Nat) ≤ 9223372036854775807 ∧ (∃ m129, m129 < m25 ∧ I23 (out_26 ++ ⟨#[45]⟩) (IntKind.wrap .i64 (i_27 + 1)) h28 m129))) 
                ((p2 ≠ 0 ∧ (sB ((Int.tmod i_27 p2) == 0) 
                 ((((ByteArray.size out_26) + (ByteArray.size ⟨#[124]⟩) : Nat) ≤ 9223372036854775807 ∧ (∃ m130, m130 < m25 ∧ I23 (out_26 ++ ⟨#[124]⟩) (IntKind.wrap .i64 (i_27 + 1)) h28 m130))) 
                 ((((ByteArray.size out_26) + (ByteArray.size ⟨#[32]⟩) : Nat) ≤ 9223372036854775807 ∧ (∃ m131, m131 < m25 ∧ I23 (out_26 ++ ⟨#[32]⟩) (IntKind.wrap .i64 (i_27 + 1)) h28 m131)))))))) 
               ((p2 ≠ 0 ∧ (sB ((Int.tmod i_27 p2) == 0) 
                ((((ByteArray.size out_26) + (ByteArray.size ⟨#[124]⟩) : Nat) ≤ 9223372036854775807 ∧ (∃ m132, m132 < m25 ∧ I23 (out_26 ++ ⟨#[124]⟩) (IntKind.wrap .i64 (i_27 + 1)) h28 m132))) 
                ((((ByteArray.size out_26) + (ByteArray.size ⟨#[32]⟩) : Nat) ≤ 9223372036854775807 ∧ (∃ m133, m133 < m25 ∧ I23 (out_26 ++ ⟨#[32]⟩) (IntKind.wrap .i64 (i_27 + 1)) h28 m133)))))))))) 
             ((sB (decide (i_27 > (IntKind.wrap .i64 ((imin x14 x15) * p2)))) 
              ((sB (decide (i_27 < (IntKind.wrap .i64 ((imax x16 x17) * p2)))) 
               ((((ByteArray.size out_26) + (ByteArray.size ⟨#[45]⟩) : Nat) ≤ 9223372036854775807 ∧ (∃ m134, m134 < m25 ∧ I23 (out_26 ++ ⟨#[45]⟩) (IntKind.wrap .i64 (i_27 + 1)) h28 m134))) 
               ((p2 ≠ 0 ∧ (sB ((Int.tmod i_27 p2) == 0) 
                ((((ByteArray.size out_26) + (ByteArray.size ⟨#[124]⟩) : Nat) ≤ 9223372036854775807 ∧ (∃ m135, m135 < m25 ∧ I23 (out_26 ++ ⟨#[124]⟩) (IntKind.wrap .i64 (i_27 + 1)) h28 m135))) 
                ((((ByteArray.size out_26) + (ByteArray.size ⟨#[32]⟩) : Nat) ≤ 9223372036854775807 ∧ (∃ m136, m136 < m25 ∧ I23 (out_26 ++ ⟨#[32]⟩) (IntKind.wrap .i64 (i_27 + 1)) h28 m136)))))))) 
              ((p2 ≠ 0 ∧ (sB ((Int.tmod i_27 p2) == 0) 
               ((((ByteArray.size out_26) + (ByteArray.size ⟨#[124]⟩) : Nat) ≤ 9223372036854775807 ∧ (∃ m137, m137 < m25 ∧ I23 (out_26 ++ ⟨#[124]⟩) (IntKind.wrap .i64 (i_27 + 1)) h28 m137))) 
               ((((ByteArray.size out_26) + (ByteArray.size ⟨#[32]⟩) : Nat) ≤ 9223372036854775807 ∧ (∃ m138, m138 < m25 ∧ I23 (out_26 ++ ⟨#[32]⟩) (IntKind.wrap .i64 (i_27 + 1)) h28 m138)))))))))) 
            ((sB (decide (i_27 > (IntKind.wrap .i64 ((imin x14 x15) * p2)))) 
             ((sB (decide (i_27 < (IntKind.wrap .i64 ((imax x16 x17) * p2)))) 
              ((((ByteArray.size out_26) + (ByteArray.size ⟨#[45]⟩) : Nat) ≤ 9223372036854775807 ∧ (∃ m139, m139 < m25 ∧ I23 (out_26 ++ ⟨#[45]⟩) (IntKind.wrap .i64 (i_27 + 1)) h28 m139))) 
              ((p2 ≠ 0 ∧ (sB ((Int.tmod i_27 p2) == 0) 
               ((((ByteArray.size out_26) + (ByteArray.size ⟨#[124]⟩) : Nat) ≤ 9223372036854775807 ∧ (∃ m140, m140 < m25 ∧ I23 (out_26 ++ ⟨#[124]⟩) (IntKind.wrap .i64 (i_27 + 1)) h28 m140))) 
               ((((ByteArray.size out_26) + (ByteArray.size ⟨#[32]⟩) : Nat) ≤ 9223372036854775807 ∧ (∃ m141, m141 < m25 ∧ I23 (out_26 ++ ⟨#[32]⟩) (IntKind.wrap .i64 (i_27 + 1)) h28 m141)))))))) 
             ((p2 ≠ 0 ∧ (sB ((Int.tmod i_27 p2) == 0) 
              ((((ByteArray.size out_26) + (ByteArray.size ⟨#[124]⟩) : Nat) ≤ 9223372036854775807 ∧ (∃ m142, m142 < m25 ∧ I23 (out_26 ++ ⟨#[124]⟩) (IntKind.wrap .i64 (i_27 + 1)) h28 m142))) 
              ((((ByteArray.size out_26) + (ByteArray.size ⟨#[32]⟩) : Nat) ≤ 9223372036854775807 ∧ (∃ m143, m143 < m25 ∧ I23 (out_26 ++ ⟨#[32]⟩) (IntKind.wrap .i64 (i_27 + 1)) h28 m143)))))))))))) 
          ((sB (decide (i_27 > (IntKind.wrap .i64 ((imin x14 x15) * p2)))) 
           ((sB (decide (i_27 < (IntKind.wrap .i64 ((imax x16 x17) * p2)))) 
            ((sB (decide (i_27 ≥ (IntKind.wrap .i64 ((IntKind.wrap .i64 ((imin x14 x15) * p2)) + 2)))) 
             ((sB (decide (i_27 < (IntKind.wrap .i64 ((IntKind.wrap .i64 ((IntKind.wrap .i64 ((imin x14 x15) * p2)) + 2)) + (ByteArray.size x22 : Int))))) 
              ((((0 : Int) ≤ ((IntKind.wrap .i64 ((IntKind.wrap .i64 (i_27 - (IntKind.wrap .i64 ((imin x14 x15) * p2)))) - 2)) : Int) ∧ ((IntKind.wrap .i64 ((IntKind.wrap .i64 (i_27 - (IntKind.wrap .i64 ((imin x14 x15) * p2)))) - 2)) : Int) ≤ ((IntKind.wrap .i64 ((IntKind.wrap .i64 (i_27 - (IntKind.wrap .i64 ((imin x14 x15) * p2)))) - 1)) : Int) ∧ ((IntKind.wrap .i64 ((IntKind.wrap .i64 (i_27 - (IntKind.wrap .i64 ((imin x14 x15) * p2)))) - 1)) : Int) ≤ (ByteArray.size x22 : Nat)) ∧ 
              (((ByteArray.size out_26) + (ByteArray.size (ByteArray.extract x22 (Int.toNat (IntKind.wrap .i64 ((IntKind.wrap .i64 (i_27 - (IntKind.wrap .i64 ((imin x14 x15) * p2)))) - 2))) (Int.toNat (IntKind.wrap .i64 ((IntKind.wrap .i64 (i_27 - (IntKind.wrap .i64 ((imin x14 x15) * p2)))) - 1))))) : Nat) ≤ 9223372036854775807 ∧ (∃ m144, m144 < m25 ∧ I23 (out_26 ++ (ByteArray.extract x22 (Int.toNat (IntKind.wrap .i64 ((IntKind.wrap .i64 (i_27 - (IntKind.wrap .i64 ((imin x14 x15) * p2)))) - 2))) (Int.toNat (IntKind.wrap .i64 ((IntKind.wrap .i64 (i_27 - (IntKind.wrap .i64 ((imin x14 x15) * p2)))) - 1))))) (IntKind.wrap .i64 (i_27 + 1)) h28 m144)))) 
              ((sB (decide (i_27 > (IntKind.wrap .i64 ((imin x14 x15) * p2)))) 
               ((sB (decide (i_27 < (IntKind.wrap .i64 ((imax x16 x17) * p2)))) 
                ((((ByteArray.size out_26) + (ByteArray.size ⟨#[45]⟩) : Nat) ≤ 9223372036854775807 ∧ (∃ m145, m145 < m25 ∧ I23 (out_26 ++ ⟨#[45]⟩) (IntKind.wrap .i64 (i_27 + 1)) h28 m145))) 
                ((p2 ≠ 0 ∧ (sB ((Int.tmod i_27 p2) == 0) 
                 ((((ByteArray.size out_26) + (ByteArray.size ⟨#[124]⟩) : Nat) ≤ 9223372036854775807 ∧ (∃ m146, m146 < m25 ∧ I23 (out_26 ++ ⟨#[124]⟩) (IntKind.wrap .i64 (i_27 + 1)) h28 m146))) 
                 ((((ByteArray.size out_26) + (ByteArray.size ⟨#[32]⟩) : Nat) ≤ 9223372036854775807 ∧ (∃ m147, m147 < m25 ∧ I23 (out_26 ++ ⟨#[32]⟩) (IntKind.wrap .i64 (i_27 + 1)) h28 m147)))))))) 
               ((p2 ≠ 0 ∧ (sB ((Int.tmod i_27 p2) == 0) 
                ((((ByteArray.size out_26) + (ByteArray.size ⟨#[124]⟩) : Nat) ≤ 9223372036854775807 ∧ (∃ m148, m148 < m25 ∧ I23 (out_26 ++ ⟨#[124]⟩) (IntKind.wrap .i64 (i_27 + 1)) h28 m148))) 
                ((((ByteArray.size out_26) + (ByteArray.size ⟨#[32]⟩) : Nat) ≤ 9223372036854775807 ∧ (∃ m149, m149 < m25 ∧ I23 (out_26 ++ ⟨#[32]⟩) (IntKind.wrap .i64 (i_27 + 1)) h28 m149)))))))))) 
             ((sB (decide (i_27 > (IntKind.wrap .i64 ((imin x14 x15) * p2)))) 
              ((sB (decide (i_27 < (IntKind.wrap .i64 ((imax x16 x17) * p2)))) 
               ((((ByteArray.size out_26) + (ByteArray.size ⟨#[45]⟩) : Nat) ≤ 9223372036854775807 ∧ (∃ m150, m150 < m25 ∧ I23 (out_26 ++ ⟨#[45]⟩) (IntKind.wrap .i64 (i_27 + 1)) h28 m150))) 
               ((p2 ≠ 0 ∧ (sB ((Int.tmod i_27 p2) == 0) 
                ((((ByteArray.size out_26) + (ByteArray.size ⟨#[124]⟩) : Nat) ≤ 9223372036854775807 ∧ (∃ m151, m151 < m25 ∧ I23 (out_26 ++ ⟨#[124]⟩) (IntKind.wrap .i64 (i_27 + 1)) h28 m151))) 
                ((((ByteArray.size out_26) + (ByteArray.size ⟨#[32]⟩) : Nat) ≤ 9223372036854775807 ∧ (∃ m152, m152 < m25 ∧ I23 (out_26 ++ ⟨#[32]⟩) (IntKind.wrap .i64 (i_27 + 1)) h28 m152)))))))) 
              ((p2 ≠ 0 ∧ (sB ((Int.tmod i_27 p2) == 0) 
               ((((ByteArray.size out_26) + (ByteArray.size ⟨#[124]⟩) : Nat) ≤ 9223372036854775807 ∧ (∃ m153, m153 < m25 ∧ I23 (out_26 ++ ⟨#[124]⟩) (IntKind.wrap .i64 (i_27 + 1)) h28 m153))) 
               ((((ByteArray.size out_26) + (ByteArray.size ⟨#[32]⟩) : Nat) ≤ 9223372036854775807 ∧ (∃ m154, m154 < m25 ∧ I23 (out_26 ++ ⟨#[32]⟩) (IntKind.wrap .i64 (i_27 + 1)) h28 m154)))))))))) 
            ((sB (decide (i_27 > (IntKind.wrap .i64 ((imin x14 x15) * p2)))) 
             ((sB (decide (i_27 < (IntKind.wrap .i64 ((imax x16 x17) * p2)))) 
              ((((ByteArray.size out_26) + (ByteArray.size ⟨#[45]⟩) : Nat) ≤ 9223372036854775807 ∧ (∃ m155, m155 < m25 ∧ I23 (out_26 ++ ⟨#[45]⟩) (IntKind.wrap .i64 (i_27 + 1)) h28 m155))) 
              ((p2 ≠ 0 ∧ (sB ((Int.tmod i_27 p2) == 0) 
               ((((ByteArray.size out_26) + (ByteArray.size ⟨#[124]⟩) : Nat) ≤ 9223372036854775807 ∧ (∃ m156, m156 < m25 ∧ I23 (out_26 ++ ⟨#[124]⟩) (IntKind.wrap .i64 (i_27 + 1)) h28 m156))) 
               ((((ByteArray.size out_26) + (ByteArray.size ⟨#[32]⟩) : Nat) ≤ 9223372036854775807 ∧ (∃ m157, m157 < m25 ∧ I23 (out_26 ++ ⟨#[32]⟩) (IntKind.wrap .i64 (i_27 + 1)) h28 m157)))))))) 
             ((p2 ≠ 0 ∧ (sB ((Int.tmod i_27 p2) == 0) 
              ((((ByteArray.size out_26) + (ByteArray.size ⟨#[124]⟩) : Nat) ≤ 9223372036854775807 ∧ (∃ m158, m158 < m25 ∧ I23 (out_26 ++ ⟨#[124]⟩) (IntKind.wrap .i64 (i_27 + 1)) h28 m158))) 
              ((((ByteArray.size out_26) + (ByteArray.size ⟨#[32]⟩) : Nat) ≤ 9223372036854775807 ∧ (∃ m159, m159 < m25 ∧ I23 (out_26 ++ ⟨#[32]⟩) (IntKind.wrap .i64 (i_27 + 1)) h28 m159)))))))))) 
           ((sB (decide (i_27 > (IntKind.wrap .i64 ((imin x14 x15) * p2)))) 
            ((sB (decide (i_27 < (IntKind.wrap .i64 ((imax x16 x17) * p2)))) 
             ((((ByteArray.size out_26) + (ByteArray.size ⟨#[45]⟩) : Nat) ≤ 9223372036854775807 ∧ (∃ m160, m160 < m25 ∧ I23 (out_26 ++ ⟨#[45]⟩) (IntKind.wrap .i64 (i_27 + 1)) h28 m160))) 
             ((p2 ≠ 0 ∧ (sB ((Int.tmod i_27 p2) == 0) 
              ((((ByteArray.size out_26) + (ByteArray.size ⟨#[124]⟩) : Nat) ≤ 9223372036854775807 ∧ (∃ m161, m161 < m25 ∧ I23 (out_26 ++ ⟨#[124]⟩) (IntKind.wrap .i64 (i_27 + 1)) h28 m161))) 
              ((((ByteArray.size out_26) + (ByteArray.size ⟨#[32]⟩) : Nat) ≤ 9223372036854775807 ∧ (∃ m162, m162 < m25 ∧ I23 (out_26 ++ ⟨#[32]⟩) (IntKind.wrap .i64 (i_27 + 1)) h28 m162)))))))) 
            ((p2 ≠ 0 ∧ (sB ((Int.tmod i_27 p2) == 0) 
             ((((ByteArray.size out_26) + (ByteArray.size ⟨#[124]⟩) : Nat) ≤ 9223372036854775807 ∧ (∃ m163, m163 < m25 ∧ I23 (out_26 ++ ⟨#[124]⟩) (IntKind.wrap .i64 (i_27 + 1)) h28 m163))) 
             ((((ByteArray.size out_26) + (ByteArray.size ⟨#[32]⟩) : Nat) ≤ 9223372036854775807 ∧ (∃ m164, m164 < m25 ∧ I23 (out_26 ++ ⟨#[32]⟩) (IntKind.wrap .i64 (i_27 + 1)) h28 m164)))))))))))))) 
         ((sB (decide (i_27 > (IntKind.wrap .i64 ((imin x14 x15) * p2)))) 
          ((sB (decide (i_27 < (IntKind.wrap .i64 ((imax x16 x17) * p2)))) 
           ((sB (decide (i_27 ≥ (IntKind.wrap .i64 ((IntKind.wrap .i64 ((imin x14 x15) * p2)) + 2)))) 
            ((sB (decide (i_27 < (IntKind.wrap .i64 ((IntKind.wrap .i64 ((IntKind.wrap .i64 ((imin x14 x15) * p2)) + 2)) + (ByteArray.size x22 : Int))))) 
             ((((0 : Int) ≤ ((IntKind.wrap .i64 ((IntKind.wrap .i64 (i_27 - (IntKind.wrap .i64 ((imin x14 x15) * p2)))) - 2)) : Int) ∧ ((IntKind.wrap .i64 ((IntKind.wrap .i64 (i_27 - (IntKind.wrap .i64 ((imin x14 x15) * p2)))) - 2)) : Int) ≤ ((IntKind.wrap .i64 ((IntKind.wrap .i64 (i_27 - (IntKind.wrap .i64 ((imin x14 x15) * p2)))) - 1)) : Int) ∧ ((IntKind.wrap .i64 ((IntKind.wrap .i64 (i_27 - (IntKind.wrap .i64 ((imin x14 x15) * p2)))) - 1)) : Int) ≤ (ByteArray.size x22 : Nat)) ∧ 
             (((ByteArray.size out_26) + (ByteArray.size (ByteArray.extract x22 (Int.toNat (IntKind.wrap .i64 ((IntKind.wrap .i64 (i_27 - (IntKind.wrap .i64 ((imin x14 x15) * p2)))) - 2))) (Int.toNat (IntKind.wrap .i64 ((IntKind.wrap .i64 (i_27 - (IntKind.wrap .i64 ((imin x14 x15) * p2)))) - 1))))) : Nat) ≤ 9223372036854775807 ∧ (∃ m165, m165 < m25 ∧ I23 (out_26 ++ (ByteArray.extract x22 (Int.toNat (IntKind.wrap .i64 ((IntKind.wrap .i64 (i_27 - (IntKind.wrap .i64 ((imin x14 x15) * p2)))) - 2))) (Int.toNat (IntKind.wrap .i64 ((IntKind.wrap .i64 (i_27 - (IntKind.wrap .i64 ((imin x14 x15) * p2)))) - 1))))) (IntKind.wrap .i64 (i_27 + 1)) h28 m165)))) 
             ((sB (decide (i_27 > (IntKind.wrap .i64 ((imin x14 x15) * p2)))) 
              ((sB (decide (i_27 < (IntKind.wrap .i64 ((imax x16 x17) * p2)))) 
               ((((ByteArray.size out_26) + (ByteArray.size ⟨#[45]⟩) : Nat) ≤ 9223372036854775807 ∧ (∃ m166, m166 < m25 ∧ I23 (out_26 ++ ⟨#[45]⟩) (IntKind.wrap .i64 (i_27 + 1)) h28 m166))) 
               ((p2 ≠ 0 ∧ (sB ((Int.tmod i_27 p2) == 0) 
                ((((ByteArray.size out_26) + (ByteArray.size ⟨#[124]⟩) : Nat) ≤ 9223372036854775807 ∧ (∃ m167, m167 < m25 ∧ I23 (out_26 ++ ⟨#[124]⟩) (IntKind.wrap .i64 (i_27 + 1)) h28 m167))) 
                ((((ByteArray.size out_26) + (ByteArray.size ⟨#[32]⟩) : Nat) ≤ 9223372036854775807 ∧ (∃ m168, m168 < m25 ∧ I23 (out_26 ++ ⟨#[32]⟩) (IntKind.wrap .i64 (i_27 + 1)) h28 m168)))))))) 
              ((p2 ≠ 0 ∧ (sB ((Int.tmod i_27 p2) == 0) 
               ((((ByteArray.size out_26) + (ByteArray.size ⟨#[124]⟩) : Nat) ≤ 9223372036854775807 ∧ (∃ m169, m169 < m25 ∧ I23 (out_26 ++ ⟨#[124]⟩) (IntKind.wrap .i64 (i_27 + 1)) h28 m169))) 
               ((((ByteArray.size out_26) + (ByteArray.size ⟨#[32]⟩) : Nat) ≤ 9223372036854775807 ∧ (∃ m170, m170 < m25 ∧ I23 (out_26 ++ ⟨#[32]⟩) (IntKind.wrap .i64 (i_27 + 1)) h28 m170)))))))))) 
            ((sB (decide (i_27 > (IntKind.wrap .i64 ((imin x14 x15) * p2)))) 
             ((sB (decide (i_27 < (IntKind.wrap .i64 ((imax x16 x17) * p2)))) 
              ((((ByteArray.size out_26) + (ByteArray.size ⟨#[45]⟩) : Nat) ≤ 9223372036854775807 ∧ (∃ m171, m171 < m25 ∧ I23 (out_26 ++ ⟨#[45]⟩) (IntKind.wrap .i64 (i_27 + 1)) h28 m171))) 
              ((p2 ≠ 0 ∧ (sB ((Int.tmod i_27 p2) == 0) 
               ((((ByteArray.size out_26) + (ByteArray.size ⟨#[124]⟩) : Nat) ≤ 9223372036854775807 ∧ (∃ m172, m172 < m25 ∧ I23 (out_26 ++ ⟨#[124]⟩) (IntKind.wrap .i64 (i_27 + 1)) h28 m172))) 
               ((((ByteArray.size out_26) + (ByteArray.size ⟨#[32]⟩) : Nat) ≤ 9223372036854775807 ∧ (∃ m173, m173 < m25 ∧ I23 (out_26 ++ ⟨#[32]⟩) (IntKind.wrap .i64 (i_27 + 1)) h28 m173)))))))) 
             ((p2 ≠ 0 ∧ (sB ((Int.tmod i_27 p2) == 0) 
              ((((ByteArray.size out_26) + (ByteArray.size ⟨#[124]⟩) : Nat) ≤ 9223372036854775807 ∧ (∃ m174, m174 < m25 ∧ I23 (out_26 ++ ⟨#[124]⟩) (IntKind.wrap .i64 (i_27 + 1)) h28 m174))) 
              ((((ByteArray.size out_26) + (ByteArray.size ⟨#[32]⟩) : Nat) ≤ 9223372036854775807 ∧ (∃ m175, m175 < m25 ∧ I23 (out_26 ++ ⟨#[32]⟩) (IntKind.wrap .i64 (i_27 + 1)) h28 m175)))))))))) 
           ((sB (decide (i_27 > (IntKind.wrap .i64 ((imin x14 x15) * p2)))) 
            ((sB (decide (i_27 < (IntKind.wrap .i64 ((imax x16 x17) * p2)))) 
             ((((ByteArray.size out_26) + (ByteArray.size ⟨#[45]⟩) : Nat) ≤ 9223372036854775807 ∧ (∃ m176, m176 < m25 ∧ I23 (out_26 ++ ⟨#[45]⟩) (IntKind.wrap .i64 (i_27 + 1)) h28 m176))) 
             ((p2 ≠ 0 ∧ (sB ((Int.tmod i_27 p2) == 0) 
              ((((ByteArray.size out_26) + (ByteArray.size ⟨#[124]⟩) : Nat) ≤ 9223372036854775807 ∧ (∃ m177, m177 < m25 ∧ I23 (out_26 ++ ⟨#[124]⟩) (IntKind.wrap .i64 (i_27 + 1)) h28 m177))) 
              ((((ByteArray.size out_26) + (ByteArray.size ⟨#[32]⟩) : Nat) ≤ 9223372036854775807 ∧ (∃ m178, m178 < m25 ∧ I23 (out_26 ++ ⟨#[32]⟩) (IntKind.wrap .i64 (i_27 + 1)) h28 m178)))))))) 
            ((p2 ≠ 0 ∧ (sB ((Int.tmod i_27 p2) == 0) 
             ((((ByteArray.size out_26) + (ByteArray.size ⟨#[124]⟩) : Nat) ≤ 9223372036854775807 ∧ (∃ m179, m179 < m25 ∧ I23 (out_26 ++ ⟨#[124]⟩) (IntKind.wrap .i64 (i_27 + 1)) h28 m179))) 
             ((((ByteArray.size out_26) + (ByteArray.size ⟨#[32]⟩) : Nat) ≤ 9223372036854775807 ∧ (∃ m180, m180 < m25 ∧ I23 (out_26 ++ ⟨#[32]⟩) (IntKind.wrap .i64 (i_27 + 1)) h28 m180)))))))))) 
          ((sB (decide (i_27 > (IntKind.wrap .i64 ((imin x14 x15) * p2)))) 
           ((sB (decide (i_27 < (IntKind.wrap .i64 ((imax x16 x17) * p2)))) 
            ((((ByteArray.size out_26) + (ByteArray.size ⟨#[45]⟩) : Nat) ≤ 9223372036854775807 ∧ (∃ m181, m181 < m25 ∧ I23 (out_26 ++ ⟨#[45]⟩) (IntKind.wrap .i64 (i_27 + 1)) h28 m181))) 
            ((p2 ≠ 0 ∧ (sB ((Int.tmod i_27 p2) == 0) 
             ((((ByteArray.size out_26) + (ByteArray.size ⟨#[124]⟩) : Nat) ≤ 9223372036854775807 ∧ (∃ m182, m182 < m25 ∧ I23 (out_26 ++ ⟨#[124]⟩) (IntKind.wrap .i64 (i_27 + 1)) h28 m182))) 
             ((((ByteArray.size out_26) + (ByteArray.size ⟨#[32]⟩) : Nat) ≤ 9223372036854775807 ∧ (∃ m183, m183 < m25 ∧ I23 (out_26 ++ ⟨#[32]⟩) (IntKind.wrap .i64 (i_27 + 1)) h28 m183)))))))) 
           ((p2 ≠ 0 ∧ (sB ((Int.tmod i_27 p2) == 0) 
            ((((ByteArray.size out_26) + (ByteArray.size ⟨#[124]⟩) : Nat) ≤ 9223372036854775807 ∧ (∃ m184, m184 < m25 ∧ I23 (out_26 ++ ⟨#[124]⟩) (IntKind.wrap .i64 (i_27 + 1)) h28 m184))) 
            ((((ByteArray.size out_26) + (ByteArray.size ⟨#[32]⟩) : Nat) ≤ 9223372036854775807 ∧ (∃ m185, m185 < m25 ∧ I23 (out_26 ++ ⟨#[32]⟩) (IntKind.wrap .i64 (i_27 + 1)) h28 m185)))))))))))) 
        ((sB (decide (i_27 > (IntKind.wrap .i64 ((imin x14 x15) * p2)))) 
         ((sB (decide (i_27 < (IntKind.wrap .i64 ((imax x16 x17) * p2)))) 
          ((sB (decide (i_27 ≥ (IntKind.wrap .i64 ((IntKind.wrap .i64 ((imin x14 x15) * p2)) + 2)))) 
           ((sB (decide (i_27 < (IntKind.wrap .i64 ((IntKind.wrap .i64 ((IntKind.wrap .i64 ((imin x14 x15) * p2)) + 2)) + (ByteArray.size x22 : Int))))) 
            ((((0 : Int) ≤ ((IntKind.wrap .i64 ((IntKind.wrap .i64 (i_27 - (IntKind.wrap .i64 ((imin x14 x15) * p2)))) - 2)) : Int) ∧ ((IntKind.wrap .i64 ((IntKind.wrap .i64 (i_27 - (IntKind.wrap .i64 ((imin x14 x15) * p2)))) - 2)) : Int) ≤ ((IntKind.wrap .i64 ((IntKind.wrap .i64 (i_27 - (IntKind.wrap .i64 ((imin x14 x15) * p2)))) - 1)) : Int) ∧ ((IntKind.wrap .i64 ((IntKind.wrap .i64 (i_27 - (IntKind.wrap .i64 ((imin x14 x15) * p2)))) - 1)) : Int) ≤ (ByteArray.size x22 : Nat)) ∧ 
            (((ByteArray.size out_26) + (ByteArray.size (ByteArray.extract x22 (Int.toNat (IntKind.wrap .i64 ((IntKind.wrap .i64 (i_27 - (IntKind.wrap .i64 ((imin x14 x15) * p2)))) - 2))) (Int.toNat (IntKind.wrap .i64 ((IntKind.wrap .i64 (i_27 - (IntKind.wrap .i64 ((imin x14 x15) * p2)))) - 1))))) : Nat) ≤ 9223372036854775807 ∧ (∃ m186, m186 < m25 ∧ I23 (out_26 ++ (ByteArray.extract x22 (Int.toNat (IntKind.wrap .i64 ((IntKind.wrap .i64 (i_27 - (IntKind.wrap .i64 ((imin x14 x15) * p2)))) - 2))) (Int.toNat (IntKind.wrap .i64 ((IntKind.wrap .i64 (i_27 - (IntKind.wrap .i64 ((imin x14 x15) * p2)))) - 1))))) (IntKind.wrap .i64 (i_27 + 1)) h28 m186)))) 
            ((sB (decide (i_27 > (IntKind.wrap .i64 ((imin x14 x15) * p2)))) 
             ((sB (decide (i_27 < (IntKind.wrap .i64 ((imax x16 x17) * p2)))) 
              ((((ByteArray.size out_26) + (ByteArray.size ⟨#[45]⟩) : Nat) ≤ 9223372036854775807 ∧ (∃ m187, m187 < m25 ∧ I23 (out_26 ++ ⟨#[45]⟩) (IntKind.wrap .i64 (i_27 + 1)) h28 m187))) 
              ((p2 ≠ 0 ∧ (sB ((Int.tmod i_27 p2) == 0) 
               ((((ByteArray.size out_26) + (ByteArray.size ⟨#[124]⟩) : Nat) ≤ 9223372036854775807 ∧ (∃ m188, m188 < m25 ∧ I23 (out_26 ++ ⟨#[124]⟩) (IntKind.wrap .i64 (i_27 + 1)) h28 m188))) 
               ((((ByteArray.size out_26) + (ByteArray.size ⟨#[32]⟩) : Nat) ≤ 9223372036854775807 ∧ (∃ m189, m189 < m25 ∧ I23 (out_26 ++ ⟨#[32]⟩) (IntKind.wrap .i64 (i_27 + 1)) h28 m189)))))))) 
             ((p2 ≠ 0 ∧ (sB ((Int.tmod i_27 p2) == 0) 
              ((((ByteArray.size out_26) + (ByteArray.size ⟨#[124]⟩) : Nat) ≤ 9223372036854775807 ∧ (∃ m190, m190 < m25 ∧ I23 (out_26 ++ ⟨#[124]⟩) (IntKind.wrap .i64 (i_27 + 1)) h28 m190))) 
              ((((ByteArray.size out_26) + (ByteArray.size ⟨#[32]⟩) : Nat) ≤ 9223372036854775807 ∧ (∃ m191, m191 < m25 ∧ I23 (out_26 ++ ⟨#[32]⟩) (IntKind.wrap .i64 (i_27 + 1)) h28 m191)))))))))) 
           ((sB (decide (i_27 > (IntKind.wrap .i64 ((imin x14 x15) * p2)))) 
            ((sB (decide (i_27 < (IntKind.wrap .i64 ((imax x16 x17) * p2)))) 
             ((((ByteArray.size out_26) + (ByteArray.size ⟨#[45]⟩) : Nat) ≤ 9223372036854775807 ∧ (∃ m192, m192 < m25 ∧ I23 (out_26 ++ ⟨#[45]⟩) (IntKind.wrap .i64 (i_27 + 1)) h28 m192))) 
             ((p2 ≠ 0 ∧ (sB ((Int.tmod i_27 p2) == 0) 
              ((((ByteArray.size out_26) + (ByteArray.size ⟨#[124]⟩) : Nat) ≤ 9223372036854775807 ∧ (∃ m193, m193 < m25 ∧ I23 (out_26 ++ ⟨#[124]⟩) (IntKind.wrap .i64 (i_27 + 1)) h28 m193))) 
              ((((ByteArray.size out_26) + (ByteArray.size ⟨#[32]⟩) : Nat) ≤ 9223372036854775807 ∧ (∃ m194, m194 < m25 ∧ I23 (out_26 ++ ⟨#[32]⟩) (IntKind.wrap .i64 (i_27 + 1)) h28 m194)))))))) 
            ((p2 ≠ 0 ∧ (sB ((Int.tmod i_27 p2) == 0) 
             ((((ByteArray.size out_26) + (ByteArray.size ⟨#[124]⟩) : Nat) ≤ 9223372036854775807 ∧ (∃ m195, m195 < m25 ∧ I23 (out_26 ++ ⟨#[124]⟩) (IntKind.wrap .i64 (i_27 + 1)) h28 m195))) 
             ((((ByteArray.size out_26) + (ByteArray.size ⟨#[32]⟩) : Nat) ≤ 9223372036854775807 ∧ (∃ m196, m196 < m25 ∧ I23 (out_26 ++ ⟨#[32]⟩) (IntKind.wrap .i64 (i_27 + 1)) h28 m196)))))))))) 
          ((sB (decide (i_27 > (IntKind.wrap .i64 ((imin x14 x15) * p2)))) 
           ((sB (decide (i_27 < (IntKind.wrap .i64 ((imax x16 x17) * p2)))) 
            ((((ByteArray.size out_26) + (ByteArray.size ⟨#[45]⟩) : Nat) ≤ 9223372036854775807 ∧ (∃ m197, m197 < m25 ∧ I23 (out_26 ++ ⟨#[45]⟩) (IntKind.wrap .i64 (i_27 + 1)) h28 m197))) 
            ((p2 ≠ 0 ∧ (sB ((Int.tmod i_27 p2) == 0) 
             ((((ByteArray.size out_26) + (ByteArray.size ⟨#[124]⟩) : Nat) ≤ 9223372036854775807 ∧ (∃ m198, m198 < m25 ∧ I23 (out_26 ++ ⟨#[124]⟩) (IntKind.wrap .i64 (i_27 + 1)) h28 m198))) 
             ((((ByteArray.size out_26) + (ByteArray.size ⟨#[32]⟩) : Nat) ≤ 9223372036854775807 ∧ (∃ m199, m199 < m25 ∧ I23 (out_26 ++ ⟨#[32]⟩) (IntKind.wrap .i64 (i_27 + 1)) h28 m199)))))))) 
           ((p2 ≠ 0 ∧ (sB ((Int.tmod i_27 p2) == 0) 
            ((((ByteArray.size out_26) + (ByteArray.size ⟨#[124]⟩) : Nat) ≤ 9223372036854775807 ∧ (∃ m200, m200 < m25 ∧ I23 (out_26 ++ ⟨#[124]⟩) (IntKind.wrap .i64 (i_27 + 1)) h28 m200))) 
            ((((ByteArray.size out_26) + (ByteArray.size ⟨#[32]⟩) : Nat) ≤ 9223372036854775807 ∧ (∃ m201, m201 < m25 ∧ I23 (out_26 ++ ⟨#[32]⟩) (IntKind.wrap .i64 (i_27 + 1)) h28 m201)))))))))) 
         ((sB (decide (i_27 > (IntKind.wrap .i64 ((imin x14 x15) * p2)))) 
          ((sB (decide (i_27 < (IntKind.wrap .i64 ((imax x16 x17) * p2)))) 
           ((((ByteArray.size out_26) + (ByteArray.size ⟨#[45]⟩) : Nat) ≤ 9223372036854775807 ∧ (∃ m202, m202 < m25 ∧ I23 (out_26 ++ ⟨#[45]⟩) (IntKind.wrap .i64 (i_27 + 1)) h28 m202))) 
           ((p2 ≠ 0 ∧ (sB ((Int.tmod i_27 p2) == 0) 
            ((((ByteArray.size out_26) + (ByteArray.size ⟨#[124]⟩) : Nat) ≤ 9223372036854775807 ∧ (∃ m203, m203 < m25 ∧ I23 (out_26 ++ ⟨#[124]⟩) (IntKind.wrap .i64 (i_27 + 1)) h28 m203))) 
            ((((ByteArray.size out_26) + (ByteArray.size ⟨#[32]⟩) : Nat) ≤ 9223372036854775807 ∧ (∃ m204, m204 < m25 ∧ I23 (out_26 ++ ⟨#[32]⟩) (IntKind.wrap .i64 (i_27 + 1)) h28 m204)))))))) 
          ((p2 ≠ 0 ∧ (sB ((Int.tmod i_27 p2) == 0) 
           ((((ByteArray.size out_26) + (ByteArray.size ⟨#[124]⟩) : Nat) ≤ 9223372036854775807 ∧ (∃ m205, m205 < m25 ∧ I23 (out_26 ++ ⟨#[124]⟩) (IntKind.wrap .i64 (i_27 + 1)) h28 m205))) 
           ((((ByteArray.size out_26) + (ByteArray.size ⟨#[32]⟩) : Nat) ≤ 9223372036854775807 ∧ (∃ m206, m206 < m25 ∧ I23 (out_26 ++ ⟨#[32]⟩) (IntKind.wrap .i64 (i_27 + 1)) h28 m206)))))))))))))))) 
      ((sB (decide (i_27 > (IntKind.wrap .i64 ((imin x14 x15) * p2)))) 
       ((sB (decide (i_27 < (IntKind.wrap .i64 ((imax x16 x17) * p2)))) 
        ((∃ x207 : Int, hc h28 ⟨h12.size, 1, none⟩ = some (.int .i64 x207) ∧ 
        (∃ x208 : Int, hc h28 ⟨h12.size, 0, none⟩ = some (.int .i64 x208) ∧ 
        (sB (decide (x207 < x208)) 
         ((sB (i_27 == (IntKind.wrap .i64 ((IntKind.wrap .i64 ((imin x14 x15) * p2)) + 1))) 
          ((((ByteArray.size out_26) + (ByteArray.size ⟨#[60]⟩) : Nat) ≤ 9223372036854775807 ∧ (∃ m209, m209 < m25 ∧ I23 (out_26 ++ ⟨#[60]⟩) (IntKind.wrap .i64 (i_27 + 1)) h28 m209))) 
          ((sB (decide (i_27 > (IntKind.wrap .i64 ((imin x14 x15) * p2)))) 
           ((sB (decide (i_27 < (IntKind.wrap .i64 ((imax x16 x17) * p2)))) 
            ((sB (decide (i_27 ≥ (IntKind.wrap .i64 ((IntKind.wrap .i64 ((imin x14 x15) * p2)) + 2)))) 
             ((sB (decide (i_27 < (IntKind.wrap .i64 ((IntKind.wrap .i64 ((IntKind.wrap .i64 ((imin x14 x15) * p2)) + 2)) + (ByteArray.size x22 : Int))))) 
              ((((0 : Int) ≤ ((IntKind.wrap .i64 ((IntKind.wrap .i64 (i_27 - (IntKind.wrap .i64 ((imin x14 x15) * p2)))) - 2)) : Int) ∧ ((IntKind.wrap .i64 ((IntKind.wrap .i64 (i_27 - (IntKind.wrap .i64 ((imin x14 x15) * p2)))) - 2)) : Int) ≤ ((IntKind.wrap .i64 ((IntKind.wrap .i64 (i_27 - (IntKind.wrap .i64 ((imin x14 x15) * p2)))) - 1)) : Int) ∧ ((IntKind.wrap .i64 ((IntKind.wrap .i64 (i_27 - (IntKind.wrap .i64 ((imin x14 x15) * p2)))) - 1)) : Int) ≤ (ByteArray.size x22 : Nat)) ∧ 
              (((ByteArray.size out_26) + (ByteArray.size (ByteArray.extract x22 (Int.toNat (IntKind.wrap .i64 ((IntKind.wrap .i64 (i_27 - (IntKind.wrap .i64 ((imin x14 x15) * p2)))) - 2))) (Int.toNat (IntKind.wrap .i64 ((IntKind.wrap .i64 (i_27 - (IntKind.wrap .i64 ((imin x14 x15) * p2)))) - 1))))) : Nat) ≤ 9223372036854775807 ∧ (∃ m210, m210 < m25 ∧ I23 (out_26 ++ (ByteArray.extract x22 (Int.toNat (IntKind.wrap .i64 ((IntKind.wrap .i64 (i_27 - (IntKind.wrap .i64 ((imin x14 x15) * p2)))) - 2))) (Int.toNat (IntKind.wrap .i64 ((IntKind.wrap .i64 (i_27 - (IntKind.wrap .i64 ((imin x14 x15) * p2)))) - 1))))) (IntKind.wrap .i64 (i_27 + 1)) h28 m210)))) 
              ((sB (decide (i_27 > (IntKind.wrap .i64 ((imin x14 x15) * p2)))) 
               ((sB (decide (i_27 < (IntKind.wrap .i64 ((imax x16 x17) * p2)))) 
                ((((ByteArray.size out_26) + (ByteArray.size ⟨#[45]⟩) : Nat) ≤ 9223372036854775807 ∧ (∃ m211, m211 < m25 ∧ I23 (out_26 ++ ⟨#[45]⟩) (IntKind.wrap .i64 (i_27 + 1)) h28 m211))) 
                ((p2 ≠ 0 ∧ (sB ((Int.tmod i_27 p2) == 0) 
                 ((((ByteArray.size out_26) + (ByteArray.size ⟨#[124]⟩) : Nat) ≤ 9223372036854775807 ∧ (∃ m212, m212 < m25 ∧ I23 (out_26 ++ ⟨#[124]⟩) (IntKind.wrap .i64 (i_27 + 1)) h28 m212))) 
                 ((((ByteArray.size out_26) + (ByteArray.size ⟨#[32]⟩) : Nat) ≤ 9223372036854775807 ∧ (∃ m213, m213 < m25 ∧ I23 (out_26 ++ ⟨#[32]⟩) (IntKind.wrap .i64 (i_27 + 1)) h28 m213)))))))) 
               ((p2 ≠ 0 ∧ (sB ((Int.tmod i_27 p2) == 0) 
                ((((ByteArray.size out_26) + (ByteArray.size ⟨#[124]⟩) : Nat) ≤ 9223372036854775807 ∧ (∃ m214, m214 < m25 ∧ I23 (out_26 ++ ⟨#[124]⟩) (IntKind.wrap .i64 (i_27 + 1)) h28 m214))) 
                ((((ByteArray.size out_26) + (ByteArray.size ⟨#[32]⟩) : Nat) ≤ 9223372036854775807 ∧ (∃ m215, m215 < m25 ∧ I23 (out_26 ++ ⟨#[32]⟩) (IntKind.wrap .i64 (i_27 + 1)) h28 m215)))))))))) 
             ((sB (decide (i_27 > (IntKind.wrap .i64 ((imin x14 x15) * p2)))) 
              ((sB (decide (i_27 < (IntKind.wrap .i64 ((imax x16 x17) * p2)))) 
               ((((ByteArray.size out_26) + (ByteArray.size ⟨#[45]⟩) : Nat) ≤ 9223372036854775807 ∧ (∃ m216, m216 < m25 ∧ I23 (out_26 ++ ⟨#[45]⟩) (IntKind.wrap .i64 (i_27 + 1)) h28 m216))) 
               ((p2 ≠ 0 ∧ (sB ((Int.tmod i_27 p2) == 0) 
                ((((ByteArray.size out_26) + (ByteArray.size ⟨#[124]⟩) : Nat) ≤ 9223372036854775807 ∧ (∃ m217, m217 < m25 ∧ I23 (out_26 ++ ⟨#[124]⟩) (IntKind.wrap .i64 (i_27 + 1)) h28 m217))) 
                ((((ByteArray.size out_26) + (ByteArray.size ⟨#[32]⟩) : Nat) ≤ 9223372036854775807 ∧ (∃ m218, m218 < m25 ∧ I23 (out_26 ++ ⟨#[32]⟩) (IntKind.wrap .i64 (i_27 + 1)) h28 m218)))))))) 
              ((p2 ≠ 0 ∧ (sB ((Int.tmod i_27 p2) == 0) 
               ((((ByteArray.size out_26) + (ByteArray.size ⟨#[124]⟩) : Nat) ≤ 9223372036854775807 ∧ (∃ m219, m219 < m25 ∧ I23 (out_26 ++ ⟨#[124]⟩) (IntKind.wrap .i64 (i_27 + 1)) h28 m219))) 
               ((((ByteArray.size out_26) + (ByteArray.size ⟨#[32]⟩) : Nat) ≤ 9223372036854775807 ∧ (∃ m220, m220 < m25 ∧ I23 (out_26 ++ ⟨#[32]⟩) (IntKind.wrap .i64 (i_27 + 1)) h28 m220)))))))))) 
            ((sB (decide (i_27 > (IntKind.wrap .i64 ((imin x14 x15) * p2)))) 
             ((sB (decide (i_27 < (IntKind.wrap .i64 ((imax x16 x17) * p2)))) 
              ((((ByteArray.size out_26) + (ByteArray.size ⟨#[45]⟩) : Nat) ≤ 9223372036854775807 ∧ (∃ m221, m221 < m25 ∧ I23 (out_26 ++ ⟨#[45]⟩) (IntKind.wrap .i64 (i_27 + 1)) h28 m221))) 
              ((p2 ≠ 0 ∧ (sB ((Int.tmod i_27 p2) == 0) 
               ((((ByteArray.size out_26) + (ByteArray.size ⟨#[124]⟩) : Nat) ≤ 9223372036854775807 ∧ (∃ m222, m222 < m25 ∧ I23 (out_26 ++ ⟨#[124]⟩) (IntKind.wrap .i64 (i_27 + 1)) h28 m222))) 
               ((((ByteArray.size out_26) + (ByteArray.size ⟨#[32]⟩) : Nat) ≤ 9223372036854775807 ∧ (∃ m223, m223 < m25 ∧ I23 (out_26 ++ ⟨#[32]⟩) (IntKind.wrap .i64 (i_27 + 1)) h28 m223)))))))) 
             ((p2 ≠ 0 ∧ (sB ((Int.tmod i_27 p2) == 0) 
              ((((ByteArray.size out_26) + (ByteArray.size ⟨#[124]⟩) : Nat) ≤ 9223372036854775807 ∧ (∃ m224, m224 < m25 ∧ I23 (out_26 ++ ⟨#[124]⟩) (IntKind.wrap .i64 (i_27 + 1)) h28 m224))) 
              ((((ByteArray.size out_26) + (ByteArray.size ⟨#[32]⟩) : Nat) ≤ 9223372036854775807 ∧ (∃ m225, m225 < m25 ∧ I23 (out_26 ++ ⟨#[32]⟩) (IntKind.wrap .i64 (i_27 + 1)) h28 m225)))))))))) 
           ((sB (decide (i_27 > (IntKind.wrap .i64 ((imin x14 x15) * p2)))) 
            ((sB (decide (i_27 < (IntKind.wrap .i64 ((imax x16 x17) * p2)))) 
             ((((ByteArray.size out_26) + (ByteArray.size ⟨#[45]⟩) : Nat) ≤ 9223372036854775807 ∧ (∃ m226, m226 < m25 ∧ I23 (out_26 ++ ⟨#[45]⟩) (IntKind.wrap .i64 (i_27 + 1)) h28 m226))) 
             ((p2 ≠ 0 ∧ (sB ((Int.tmod i_27 p2) == 0) 
              ((((ByteArray.size out_26) + (ByteArray.size ⟨#[124]⟩) : Nat) ≤ 9223372036854775807 ∧ (∃ m227, m227 < m25 ∧ I23 (out_26 ++ ⟨#[124]⟩) (IntKind.wrap .i64 (i_27 + 1)) h28 m227))) 
              ((((ByteArray.size out_26) + (ByteArray.size ⟨#[32]⟩) : Nat) ≤ 9223372036854775807 ∧ (∃ m228, m228 < m25 ∧ I23 (out_26 ++ ⟨#[32]⟩) (IntKind.wrap .i64 (i_27 + 1)) h28 m228)))))))) 
            ((p2 ≠ 0 ∧ (sB ((Int.tmod i_27 p2) == 0) 
             ((((ByteArray.size out_26) + (ByteArray.size ⟨#[124]⟩) : Nat) ≤ 9223372036854775807 ∧ (∃ m229, m229 < m25 ∧ I23 (out_26 ++ ⟨#[124]⟩) (IntKind.wrap .i64 (i_27 + 1)) h28 m229))) 
             ((((ByteArray.size out_26) + (ByteArray.size ⟨#[32]⟩) : Nat) ≤ 9223372036854775807 ∧ (∃ m230, m230 < m25 ∧ I23 (out_26 ++ ⟨#[32]⟩) (IntKind.wrap .i64 (i_27 + 1)) h28 m230)))))))))))) 
         ((sB (decide (i_27 > (IntKind.wrap .i64 ((imin x14 x15) * p2)))) 
          ((sB (decide (i_27 < (IntKind.wrap .i64 ((imax x16 x17) * p2)))) 
           ((sB (decide (i_27 ≥ (IntKind.wrap .i64 ((IntKind.wrap .i64 ((imin x14 x15) * p2)) + 2)))) 
            ((sB (decide (i_27 < (IntKind.wrap .i64 ((IntKind.wrap .i64 ((IntKind.wrap .i64 ((imin x14 x15) * p2)) + 2)) + (ByteArray.size x22 : Int))))) 
             ((((0 : Int) ≤ ((IntKind.wrap .i64 ((IntKind.wrap .i64 (i_27 - (IntKind.wrap .i64 ((imin x14 x15) * p2)))) - 2)) : Int) ∧ ((IntKind.wrap .i64 ((IntKind.wrap .i64 (i_27 - (IntKind.wrap .i64 ((imin x14 x15) * p2)))) - 2)) : Int) ≤ ((IntKind.wrap .i64 ((IntKind.wrap .i64 (i_27 - (IntKind.wrap .i64 ((imin x14 x15) * p2)))) - 1)) : Int) ∧ ((IntKind.wrap .i64 ((IntKind.wrap .i64 (i_27 - (IntKind.wrap .i64 ((imin x14 x15) * p2)))) - 1)) : Int) ≤ (ByteArray.size x22 : Nat)) ∧ 
             (((ByteArray.size out_26) + (ByteArray.size (ByteArray.extract x22 (Int.toNat (IntKind.wrap .i64 ((IntKind.wrap .i64 (i_27 - (IntKind.wrap .i64 ((imin x14 x15) * p2)))) - 2))) (Int.toNat (IntKind.wrap .i64 ((IntKind.wrap .i64 (i_27 - (IntKind.wrap .i64 ((imin x14 x15) * p2)))) - 1))))) : Nat) ≤ 9223372036854775807 ∧ (∃ m231, m231 < m25 ∧ I23 (out_26 ++ (ByteArray.extract x22 (Int.toNat (IntKind.wrap .i64 ((IntKind.wrap .i64 (i_27 - (IntKind.wrap .i64 ((imin x14 x15) * p2)))) - 2))) (Int.toNat (IntKind.wrap .i64 ((IntKind.wrap .i64 (i_27 - (IntKind.wrap .i64 ((imin x14 x15) * p2)))) - 1))))) (IntKind.wrap .i64 (i_27 + 1)) h28 m231)))) 
             ((sB (decide (i_27 > (IntKind.wrap .i64 ((imin x14 x15) * p2)))) 
              ((sB (decide (i_27 < (IntKind.wrap .i64 ((imax x16 x17) * p2)))) 
               ((((ByteArray.size out_26) + (ByteArray.size ⟨#[45]⟩) : Nat) ≤ 9223372036854775807 ∧ (∃ m232, m232 < m25 ∧ I23 (out_26 ++ ⟨#[45]⟩) (IntKind.wrap .i64 (i_27 + 1)) h28 m232))) 
               ((p2 ≠ 0 ∧ (sB ((Int.tmod i_27 p2) == 0) 
                ((((ByteArray.size out_26) + (ByteArray.size ⟨#[124]⟩) : Nat) ≤ 9223372036854775807 ∧ (∃ m233, m233 < m25 ∧ I23 (out_26 ++ ⟨#[124]⟩) (IntKind.wrap .i64 (i_27 + 1)) h28 m233))) 
                ((((ByteArray.size out_26) + (ByteArray.size ⟨#[32]⟩) : Nat) ≤ 9223372036854775807 ∧ (∃ m234, m234 < m25 ∧ I23 (out_26 ++ ⟨#[32]⟩) (IntKind.wrap .i64 (i_27 + 1)) h28 m234)))))))) 
              ((p2 ≠ 0 ∧ (sB ((Int.tmod i_27 p2) == 0) 
               ((((ByteArray.size out_26) + (ByteArray.size ⟨#[124]⟩) : Nat) ≤ 9223372036854775807 ∧ (∃ m235, m235 < m25 ∧ I23 (out_26 ++ ⟨#[124]⟩) (IntKind.wrap .i64 (i_27 + 1)) h28 m235))) 
               ((((ByteArray.size out_26) + (ByteArray.size ⟨#[32]⟩) : Nat) ≤ 9223372036854775807 ∧ (∃ m236, m236 < m25 ∧ I23 (out_26 ++ ⟨#[32]⟩) (IntKind.wrap .i64 (i_27 + 1)) h28 m236)))))))))) 
            ((sB (decide (i_27 > (IntKind.wrap .i64 ((imin x14 x15) * p2)))) 
             ((sB (decide (i_27 < (IntKind.wrap .i64 ((imax x16 x17) * p2)))) 
              ((((ByteArray.size out_26) + (ByteArray.size ⟨#[45]⟩) : Nat) ≤ 9223372036854775807 ∧ (∃ m237, m237 < m25 ∧ I23 (out_26 ++ ⟨#[45]⟩) (IntKind.wrap .i64 (i_27 + 1)) h28 m237))) 
              ((p2 ≠ 0 ∧ (sB ((Int.tmod i_27 p2) == 0) 
               ((((ByteArray.size out_26) + (ByteArray.size ⟨#[124]⟩) : Nat) ≤ 9223372036854775807 ∧ (∃ m238, m238 < m25 ∧ I23 (out_26 ++ ⟨#[124]⟩) (IntKind.wrap .i64 (i_27 + 1)) h28 m238))) 
               ((((ByteArray.size out_26) + (ByteArray.size ⟨#[32]⟩) : Nat) ≤ 9223372036854775807 ∧ (∃ m239, m239 < m25 ∧ I23 (out_26 ++ ⟨#[32]⟩) (IntKind.wrap .i64 (i_27 + 1)) h28 m239)))))))) 
             ((p2 ≠ 0 ∧ (sB ((Int.tmod i_27 p2) == 0) 
              ((((ByteArray.size out_26) + (ByteArray.size ⟨#[124]⟩) : Nat) ≤ 9223372036854775807 ∧ (∃ m240, m240 < m25 ∧ I23 (out_26 ++ ⟨#[124]⟩) (IntKind.wrap .i64 (i_27 + 1)) h28 m240))) 
              ((((ByteArray.size out_26) + (ByteArray.size ⟨#[32]⟩) : Nat) ≤ 9223372036854775807 ∧ (∃ m241, m241 < m25 ∧ I23 (out_26 ++ ⟨#[32]⟩) (IntKind.wrap .i64 (i_27 + 1)) h28 m241)))))))))) 
           ((sB (decide (i_27 > (IntKind.wrap .i64 ((imin x14 x15) * p2)))) 
            ((sB (decide (i_27 < (IntKind.wrap .i64 ((imax x16 x17) * p2)))) 
             ((((ByteArray.size out_26) + (ByteArray.size ⟨#[45]⟩) : Nat) ≤ 9223372036854775807 ∧ (∃ m242, m242 < m25 ∧ I23 (out_26 ++ ⟨#[45]⟩) (IntKind.wrap .i64 (i_27 + 1)) h28 m242))) 
             ((p2 ≠ 0 ∧ (sB ((Int.tmod i_27 p2) == 0) 
              ((((ByteArray.size out_26) + (ByteArray.size ⟨#[124]⟩) : Nat) ≤ 9223372036854775807 ∧ (∃ m243, m243 < m25 ∧ I23 (out_26 ++ ⟨#[124]⟩) (IntKind.wrap .i64 (i_27 + 1)) h28 m243))) 
              ((((ByteArray.size out_26) + (ByteArray.size ⟨#[32]⟩) : Nat) ≤ 9223372036854775807 ∧ (∃ m244, m244 < m25 ∧ I23 (out_26 ++ ⟨#[32]⟩) (IntKind.wrap .i64 (i_27 + 1)) h28 m244)))))))) 
            ((p2 ≠ 0 ∧ (sB ((Int.tmod i_27 p2) == 0) 
             ((((ByteArray.size out_26) + (ByteArray.size ⟨#[124]⟩) : Nat) ≤ 9223372036854775807 ∧ (∃ m245, m245 < m25 ∧ I23 (out_26 ++ ⟨#[124]⟩) (IntKind.wrap .i64 (i_27 + 1)) h28 m245))) 
             ((((ByteArray.size out_26) + (ByteArray.size ⟨#[32]⟩) : Nat) ≤ 9223372036854775807 ∧ (∃ m246, m246 < m25 ∧ I23 (out_26 ++ ⟨#[32]⟩) (IntKind.wrap .i64 (i_27 + 1)) h28 m246)))))))))) 
          ((sB (decide (i_27 > (IntKind.wrap .i64 ((imin x14 x15) * p2)))) 
           ((sB (decide (i_27 < (IntKind.wrap .i64 ((imax x16 x17) * p2)))) 
            ((((ByteArray.size out_26) + (ByteArray.size ⟨#[45]⟩) : Nat) ≤ 9223372036854775807 ∧ (∃ m247, m247 < m25 ∧ I23 (out_26 ++ ⟨#[45]⟩) (IntKind.wrap .i64 (i_27 + 1)) h28 m247))) 
            ((p2 ≠ 0 ∧ (sB ((Int.tmod i_27 p2) == 0) 
             ((((ByteArray.size out_26) + (ByteArray.size ⟨#[124]⟩) : Nat) ≤ 9223372036854775807 ∧ (∃ m248, m248 < m25 ∧ I23 (out_26 ++ ⟨#[124]⟩) (IntKind.wrap .i64 (i_27 + 1)) h28 m248))) 
             ((((ByteArray.size out_26) + (ByteArray.size ⟨#[32]⟩) : Nat) ≤ 9223372036854775807 ∧ (∃ m249, m249 < m25 ∧ I23 (out_26 ++ ⟨#[32]⟩) (IntKind.wrap .i64 (i_27 + 1)) h28 m249)))))))) 
           ((p2 ≠ 0 ∧ (sB ((Int.tmod i_27 p2) == 0) 
            ((((ByteArray.size out_26) + (ByteArray.size ⟨#[124]⟩) : Nat) ≤ 9223372036854775807 ∧ (∃ m250, m250 < m25 ∧ I23 (out_26 ++ ⟨#[124]⟩) (IntKind.wrap .i64 (i_27 + 1)) h28 m250))) 
            ((((ByteArray.size out_26) + (ByteArray.size ⟨#[32]⟩) : Nat) ≤ 9223372036854775807 ∧ (∃ m251, m251 < m25 ∧ I23 (out_26 ++ ⟨#[32]⟩) (IntKind.wrap .i64 (i_27 + 1)) h28 m251)))))))))))))) 
        ((sB (decide (i_27 > (IntKind.wrap .i64 ((imin x14 x15) * p2)))) 
         ((sB (decide (i_27 < (IntKind.wrap .i64 ((imax x16 x17) * p2)))) 
          ((sB (decide (i_27 ≥ (IntKind.wrap .i64 ((IntKind.wrap .i64 ((imin x14 x15) * p2)) + 2)))) 
           ((sB (decide (i_27 < (IntKind.wrap .i64 ((IntKind.wrap .i64 ((IntKind.wrap .i64 ((imin x14 x15) * p2)) + 2)) + (ByteArray.size x22 : Int))))) 
            ((((0 : Int) ≤ ((IntKind.wrap .i64 ((IntKind.wrap .i64 (i_27 - (IntKind.wrap .i64 ((imin x14 x15) * p2)))) - 2)) : Int) ∧ ((IntKind.wrap .i64 ((IntKind.wrap .i64 (i_27 - (IntKind.wrap .i64 ((imin x14 x15) * p2)))) - 2)) : Int) ≤ ((IntKind.wrap .i64 ((IntKind.wrap .i64 (i_27 - (IntKind.wrap .i64 ((imin x14 x15) * p2)))) - 1)) : Int) ∧ ((IntKind.wrap .i64 ((IntKind.wrap .i64 (i_27 - (IntKind.wrap .i64 ((imin x14 x15) * p2)))) - 1)) : Int) ≤ (ByteArray.size x22 : Nat)) ∧ 
            (((ByteArray.size out_26) + (ByteArray.size (ByteArray.extract x22 (Int.toNat (IntKind.wrap .i64 ((IntKind.wrap .i64 (i_27 - (IntKind.wrap .i64 ((imin x14 x15) * p2)))) - 2))) (Int.toNat (IntKind.wrap .i64 ((IntKind.wrap .i64 (i_27 - (IntKind.wrap .i64 ((imin x14 x15) * p2)))) - 1))))) : Nat) ≤ 9223372036854775807 ∧ (∃ m252, m252 < m25 ∧ I23 (out_26 ++ (ByteArray.extract x22 (Int.toNat (IntKind.wrap .i64 ((IntKind.wrap .i64 (i_27 - (IntKind.wrap .i64 ((imin x14 x15) * p2)))) - 2))) (Int.toNat (IntKind.wrap .i64 ((IntKind.wrap .i64 (i_27 - (IntKind.wrap .i64 ((imin x14 x15) * p2)))) - 1))))) (IntKind.wrap .i64 (i_27 + 1)) h28 m252)))) 
            ((sB (decide (i_27 > (IntKind.wrap .i64 ((imin x14 x15) * p2)))) 
             ((sB (decide (i_27 < (IntKind.wrap .i64 ((imax x16 x17) * p2)))) 
              ((((ByteArray.size out_26) + (ByteArray.size ⟨#[45]⟩) : Nat) ≤ 9223372036854775807 ∧ (∃ m253, m253 < m25 ∧ I23 (out_26 ++ ⟨#[45]⟩) (IntKind.wrap .i64 (i_27 + 1)) h28 m253))) 
              ((p2 ≠ 0 ∧ (sB ((Int.tmod i_27 p2) == 0) 
               ((((ByteArray.size out_26) + (ByteArray.size ⟨#[124]⟩) : Nat) ≤ 9223372036854775807 ∧ (∃ m254, m254 < m25 ∧ I23 (out_26 ++ ⟨#[124]⟩) (IntKind.wrap .i64 (i_27 + 1)) h28 m254))) 
               ((((ByteArray.size out_26) + (ByteArray.size ⟨#[32]⟩) : Nat) ≤ 9223372036854775807 ∧ (∃ m255, m255 < m25 ∧ I23 (out_26 ++ ⟨#[32]⟩) (IntKind.wrap .i64 (i_27 + 1)) h28 m255)))))))) 
             ((p2 ≠ 0 ∧ (sB ((Int.tmod i_27 p2) == 0) 
              ((((ByteArray.size out_26) + (ByteArray.size ⟨#[124]⟩) : Nat) ≤ 9223372036854775807 ∧ (∃ m256, m256 < m25 ∧ I23 (out_26 ++ ⟨#[124]⟩) (IntKind.wrap .i64 (i_27 + 1)) h28 m256))) 
              ((((ByteArray.size out_26) + (ByteArray.size ⟨#[32]⟩) : Nat) ≤ 9223372036854775807 ∧ (∃ m257, m257 < m25 ∧ I23 (out_26 ++ ⟨#[32]⟩) (IntKind.wrap .i64 (i_27 + 1)) h28 m257)))))))))) 
           ((sB (decide (i_27 > (IntKind.wrap .i64 ((imin x14 x15) * p2)))) 
            ((sB (decide (i_27 < (IntKind.wrap .i64 ((imax x16 x17) * p2)))) 
             ((((ByteArray.size out_26) + (ByteArray.size ⟨#[45]⟩) : Nat) ≤ 9223372036854775807 ∧ (∃ m258, m258 < m25 ∧ I23 (out_26 ++ ⟨#[45]⟩) (IntKind.wrap .i64 (i_27 + 1)) h28 m258))) 
             ((p2 ≠ 0 ∧ (sB ((Int.tmod i_27 p2) == 0) 
              ((((ByteArray.size out_26) + (ByteArray.size ⟨#[124]⟩) : Nat) ≤ 9223372036854775807 ∧ (∃ m259, m259 < m25 ∧ I23 (out_26 ++ ⟨#[124]⟩) (IntKind.wrap .i64 (i_27 + 1)) h28 m259))) 
              ((((ByteArray.size out_26) + (ByteArray.size ⟨#[32]⟩) : Nat) ≤ 9223372036854775807 ∧ (∃ m260, m260 < m25 ∧ I23 (out_26 ++ ⟨#[32]⟩) (IntKind.wrap .i64 (i_27 + 1)) h28 m260)))))))) 
            ((p2 ≠ 0 ∧ (sB ((Int.tmod i_27 p2) == 0) 
             ((((ByteArray.size out_26) + (ByteArray.size ⟨#[124]⟩) : Nat) ≤ 9223372036854775807 ∧ (∃ m261, m261 < m25 ∧ I23 (out_26 ++ ⟨#[124]⟩) (IntKind.wrap .i64 (i_27 + 1)) h28 m261))) 
             ((((ByteArray.size out_26) + (ByteArray.size ⟨#[32]⟩) : Nat) ≤ 9223372036854775807 ∧ (∃ m262, m262 < m25 ∧ I23 (out_26 ++ ⟨#[32]⟩) (IntKind.wrap .i64 (i_27 + 1)) h28 m262)))))))))) 
          ((sB (decide (i_27 > (IntKind.wrap .i64 ((imin x14 x15) * p2)))) 
           ((sB (decide (i_27 < (IntKind.wrap .i64 ((imax x16 x17) * p2)))) 
            ((((ByteArray.size out_26) + (ByteArray.size ⟨#[45]⟩) : Nat) ≤ 9223372036854775807 ∧ (∃ m263, m263 < m25 ∧ I23 (out_26 ++ ⟨#[45]⟩) (IntKind.wrap .i64 (i_27 + 1)) h28 m263))) 
            ((p2 ≠ 0 ∧ (sB ((Int.tmod i_27 p2) == 0) 
             ((((ByteArray.size out_26) + (ByteArray.size ⟨#[124]⟩) : Nat) ≤ 9223372036854775807 ∧ (∃ m264, m264 < m25 ∧ I23 (out_26 ++ ⟨#[124]⟩) (IntKind.wrap .i64 (i_27 + 1)) h28 m264))) 
             ((((ByteArray.size out_26) + (ByteArray.size ⟨#[32]⟩) : Nat) ≤ 9223372036854775807 ∧ (∃ m265, m265 < m25 ∧ I23 (out_26 ++ ⟨#[32]⟩) (IntKind.wrap .i64 (i_27 + 1)) h28 m265)))))))) 
           ((p2 ≠ 0 ∧ (sB ((Int.tmod i_27 p2) == 0) 
            ((((ByteArray.size out_26) + (ByteArray.size ⟨#[124]⟩) : Nat) ≤ 9223372036854775807 ∧ (∃ m266, m266 < m25 ∧ I23 (out_26 ++ ⟨#[124]⟩) (IntKind.wrap .i64 (i_27 + 1)) h28 m266))) 
            ((((ByteArray.size out_26) + (ByteArray.size ⟨#[32]⟩) : Nat) ≤ 9223372036854775807 ∧ (∃ m267, m267 < m25 ∧ I23 (out_26 ++ ⟨#[32]⟩) (IntKind.wrap .i64 (i_27 + 1)) h28 m267)))))))))) 
         ((sB (decide (i_27 > (IntKind.wrap .i64 ((imin x14 x15) * p2)))) 
          ((sB (decide (i_27 < (IntKind.wrap .i64 ((imax x16 x17) * p2)))) 
           ((((ByteArray.size out_26) + (ByteArray.size ⟨#[45]⟩) : Nat) ≤ 9223372036854775807 ∧ (∃ m268, m268 < m25 ∧ I23 (out_26 ++ ⟨#[45]⟩) (IntKind.wrap .i64 (i_27 + 1)) h28 m268))) 
           ((p2 ≠ 0 ∧ (sB ((Int.tmod i_27 p2) == 0) 
            ((((ByteArray.size out_26) + (ByteArray.size ⟨#[124]⟩) : Nat) ≤ 9223372036854775807 ∧ (∃ m269, m269 < m25 ∧ I23 (out_26 ++ ⟨#[124]⟩) (IntKind.wrap .i64 (i_27 + 1)) h28 m269))) 
            ((((ByteArray.size out_26) + (ByteArray.size ⟨#[32]⟩) : Nat) ≤ 9223372036854775807 ∧ (∃ m270, m270 < m25 ∧ I23 (out_26 ++ ⟨#[32]⟩) (IntKind.wrap .i64 (i_27 + 1)) h28 m270)))))))) 
          ((p2 ≠ 0 ∧ (sB ((Int.tmod i_27 p2) == 0) 
           ((((ByteArray.size out_26) + (ByteArray.size ⟨#[124]⟩) : Nat) ≤ 9223372036854775807 ∧ (∃ m271, m271 < m25 ∧ I23 (out_26 ++ ⟨#[124]⟩) (IntKind.wrap .i64 (i_27 + 1)) h28 m271))) 
           ((((ByteArray.size out_26) + (ByteArray.size ⟨#[32]⟩) : Nat) ≤ 9223372036854775807 ∧ (∃ m272, m272 < m25 ∧ I23 (out_26 ++ ⟨#[32]⟩) (IntKind.wrap .i64 (i_27 + 1)) h28 m272)))))))))))) 
       ((sB (decide (i_27 > (IntKind.wrap .i64 ((imin x14 x15) * p2)))) 
        ((sB (decide (i_27 < (IntKind.wrap .i64 ((imax x16 x17) * p2)))) 
         ((sB (decide (i_27 ≥ (IntKind.wrap .i64 ((IntKind.wrap .i64 ((imin x14 x15) * p2)) + 2)))) 
          ((sB (decide (i_27 < (IntKind.wrap .i64 ((IntKind.wrap .i64 ((IntKind.wrap .i64 ((imin x14 x15) * p2)) + 2)) + (ByteArray.size x22 : Int))))) 
           ((((0 : Int) ≤ ((IntKind.wrap .i64 ((IntKind.wrap .i64 (i_27 - (IntKind.wrap .i64 ((imin x14 x15) * p2)))) - 2)) : Int) ∧ ((IntKind.wrap .i64 ((IntKind.wrap .i64 (i_27 - (IntKind.wrap .i64 ((imin x14 x15) * p2)))) - 2)) : Int) ≤ ((IntKind.wrap .i64 ((IntKind.wrap .i64 (i_27 - (IntKind.wrap .i64 ((imin x14 x15) * p2)))) - 1)) : Int) ∧ ((IntKind.wrap .i64 ((IntKind.wrap .i64 (i_27 - (IntKind.wrap .i64 ((imin x14 x15) * p2)))) - 1)) : Int) ≤ (ByteArray.size x22 : Nat)) ∧ 
           (((ByteArray.size out_26) + (ByteArray.size (ByteArray.extract x22 (Int.toNat (IntKind.wrap .i64 ((IntKind.wrap .i64 (i_27 - (IntKind.wrap .i64 ((imin x14 x15) * p2)))) - 2))) (Int.toNat (IntKind.wrap .i64 ((IntKind.wrap .i64 (i_27 - (IntKind.wrap .i64 ((imin x14 x15) * p2)))) - 1))))) : Nat) ≤ 9223372036854775807 ∧ (∃ m273, m273 < m25 ∧ I23 (out_26 ++ (ByteArray.extract x22 (Int.toNat (IntKind.wrap .i64 ((IntKind.wrap .i64 (i_27 - (IntKind.wrap .i64 ((imin x14 x15) * p2)))) - 2))) (Int.toNat (IntKind.wrap .i64 ((IntKind.wrap .i64 (i_27 - (IntKind.wrap .i64 ((imin x14 x15) * p2)))) - 1))))) (IntKind.wrap .i64 (i_27 + 1)) h28 m273)))) 
           ((sB (decide (i_27 > (IntKind.wrap .i64 ((imin x14 x15) * p2)))) 
            ((sB (decide (i_27 < (IntKind.wrap .i64 ((imax x16 x17) * p2)))) 
             ((((ByteArray.size out_26) + (ByteArray.size ⟨#[45]⟩) : Nat) ≤ 9223372036854775807 ∧ (∃ m274, m274 < m25 ∧ I23 (out_26 ++ ⟨#[45]⟩) (IntKind.wrap .i64 (i_27 + 1)) h28 m274))) 
             ((p2 ≠ 0 ∧ (sB ((Int.tmod i_27 p2) == 0) 
              ((((ByteArray.size out_26) + (ByteArray.size ⟨#[124]⟩) : Nat) ≤ 9223372036854775807 ∧ (∃ m275, m275 < m25 ∧ I23 (out_26 ++ ⟨#[124]⟩) (IntKind.wrap .i64 (i_27 + 1)) h28 m275))) 
              ((((ByteArray.size out_26) + (ByteArray.size ⟨#[32]⟩) : Nat) ≤ 9223372036854775807 ∧ (∃ m276, m276 < m25 ∧ I23 (out_26 ++ ⟨#[32]⟩) (IntKind.wrap .i64 (i_27 + 1)) h28 m276)))))))) 
            ((p2 ≠ 0 ∧ (sB ((Int.tmod i_27 p2) == 0) 
             ((((ByteArray.size out_26) + (ByteArray.size ⟨#[124]⟩) : Nat) ≤ 9223372036854775807 ∧ (∃ m277, m277 < m25 ∧ I23 (out_26 ++ ⟨#[124]⟩) (IntKind.wrap .i64 (i_27 + 1)) h28 m277))) 
             ((((ByteArray.size out_26) + (ByteArray.size ⟨#[32]⟩) : Nat) ≤ 9223372036854775807 ∧ (∃ m278, m278 < m25 ∧ I23 (out_26 ++ ⟨#[32]⟩) (IntKind.wrap .i64 (i_27 + 1)) h28 m278)))))))))) 
          ((sB (decide (i_27 > (IntKind.wrap .i64 ((imin x14 x15) * p2)))) 
           ((sB (decide (i_27 < (IntKind.wrap .i64 ((imax x16 x17) * p2)))) 
            ((((ByteArray.size out_26) + (ByteArray.size ⟨#[45]⟩) : Nat) ≤ 9223372036854775807 ∧ (∃ m279, m279 < m25 ∧ I23 (out_26 ++ ⟨#[45]⟩) (IntKind.wrap .i64 (i_27 + 1)) h28 m279))) 
            ((p2 ≠ 0 ∧ (sB ((Int.tmod i_27 p2) == 0) 
             ((((ByteArray.size out_26) + (ByteArray.size ⟨#[124]⟩) : Nat) ≤ 9223372036854775807 ∧ (∃ m280, m280 < m25 ∧ I23 (out_26 ++ ⟨#[124]⟩) (IntKind.wrap .i64 (i_27 + 1)) h28 m280))) 
             ((((ByteArray.size out_26) + (ByteArray.size ⟨#[32]⟩) : Nat) ≤ 9223372036854775807 ∧ (∃ m281, m281 < m25 ∧ I23 (out_26 ++ ⟨#[32]⟩) (IntKind.wrap .i64 (i_27 + 1)) h28 m281)))))))) 
           ((p2 ≠ 0 ∧ (sB ((Int.tmod i_27 p2) == 0) 
            ((((ByteArray.size out_26) + (ByteArray.size ⟨#[124]⟩) : Nat) ≤ 9223372036854775807 ∧ (∃ m282, m282 < m25 ∧ I23 (out_26 ++ ⟨#[124]⟩) (IntKind.wrap .i64 (i_27 + 1)) h28 m282))) 
            ((((ByteArray.size out_26) + (ByteArray.size ⟨#[32]⟩) : Nat) ≤ 9223372036854775807 ∧ (∃ m283, m283 < m25 ∧ I23 (out_26 ++ ⟨#[32]⟩) (IntKind.wrap .i64 (i_27 + 1)) h28 m283)))))))))) 
         ((sB (decide (i_27 > (IntKind.wrap .i64 ((imin x14 x15) * p2)))) 
          ((sB (decide (i_27 < (IntKind.wrap .i64 ((imax x16 x17) * p2)))) 
           ((((ByteArray.size out_26) + (ByteArray.size ⟨#[45]⟩) : Nat) ≤ 9223372036854775807 ∧ (∃ m284, m284 < m25 ∧ I23 (out_26 ++ ⟨#[45]⟩) (IntKind.wrap .i64 (i_27 + 1)) h28 m284))) 
           ((p2 ≠ 0 ∧ (sB ((Int.tmod i_27 p2) == 0) 
            ((((ByteArray.size out_26) + (ByteArray.size ⟨#[124]⟩) : Nat) ≤ 9223372036854775807 ∧ (∃ m285, m285 < m25 ∧ I23 (out_26 ++ ⟨#[124]⟩) (IntKind.wrap .i64 (i_27 + 1)) h28 m285))) 
            ((((ByteArray.size out_26) + (ByteArray.size ⟨#[32]⟩) : Nat) ≤ 9223372036854775807 ∧ (∃ m286, m286 < m25 ∧ I23 (out_26 ++ ⟨#[32]⟩) (IntKind.wrap .i64 (i_27 + 1)) h28 m286)))))))) 
          ((p2 ≠ 0 ∧ (sB ((Int.tmod i_27 p2) == 0) 
           ((((ByteArray.size out_26) + (ByteArray.size ⟨#[124]⟩) : Nat) ≤ 9223372036854775807 ∧ (∃ m287, m287 < m25 ∧ I23 (out_26 ++ ⟨#[124]⟩) (IntKind.wrap .i64 (i_27 + 1)) h28 m287))) 
           ((((ByteArray.size out_26) + (ByteArray.size ⟨#[32]⟩) : Nat) ≤ 9223372036854775807 ∧ (∃ m288, m288 < m25 ∧ I23 (out_26 ++ ⟨#[32]⟩) (IntKind.wrap .i64 (i_27 + 1)) h28 m288)))))))))) 
        ((sB (decide (i_27 > (IntKind.wrap .i64 ((imin x14 x15) * p2)))) 
         ((sB (decide (i_27 < (IntKind.wrap .i64 ((imax x16 x17) * p2)))) 
          ((((ByteArray.size out_26) + (ByteArray.size ⟨#[45]⟩) : Nat) ≤ 9223372036854775807 ∧ (∃ m289, m289 < m25 ∧ I23 (out_26 ++ ⟨#[45]⟩) (IntKind.wrap .i64 (i_27 + 1)) h28 m289))) 
          ((p2 ≠ 0 ∧ (sB ((Int.tmod i_27 p2) == 0) 
           ((((ByteArray.size out_26) + (ByteArray.size ⟨#[124]⟩) : Nat) ≤ 9223372036854775807 ∧ (∃ m290, m290 < m25 ∧ I23 (out_26 ++ ⟨#[124]⟩) (IntKind.wrap .i64 (i_27 + 1)) h28 m290))) 
           ((((ByteArray.size out_26) + (ByteArray.size ⟨#[32]⟩) : Nat) ≤ 9223372036854775807 ∧ (∃ m291, m291 < m25 ∧ I23 (out_26 ++ ⟨#[32]⟩) (IntKind.wrap .i64 (i_27 + 1)) h28 m291)))))))) 
         ((p2 ≠ 0 ∧ (sB ((Int.tmod i_27 p2) == 0) 
          ((((ByteArray.size out_26) + (ByteArray.size ⟨#[124]⟩) : Nat) ≤ 9223372036854775807 ∧ (∃ m292, m292 < m25 ∧ I23 (out_26 ++ ⟨#[124]⟩) (IntKind.wrap .i64 (i_27 + 1)) h28 m292))) 
          ((((ByteArray.size out_26) + (ByteArray.size ⟨#[32]⟩) : Nat) ≤ 9223372036854775807 ∧ (∃ m293, m293 < m25 ∧ I23 (out_26 ++ ⟨#[32]⟩) (IntKind.wrap .i64 (i_27 + 1)) h28 m293)))))))))))))) 
     ((sB (decide (i_27 > (IntKind.wrap .i64 ((imin x14 x15) * p2)))) 
      ((sB (decide (i_27 < (IntKind.wrap .i64 ((imax x16 x17) * p2)))) 
       ((∃ x294 : Int, hc h28 ⟨h12.size, 1, none⟩ = some (.int .i64 x294) ∧ 
       (∃ x295 : Int, hc h28 ⟨h12.size, 0, none⟩ = some (.int .i64 x295) ∧ 
       (sB (decide (x294 < x295)) 
        ((sB (i_27 == (IntKind.wrap .i64 ((IntKind.wrap .i64 ((imin x14 x15) * p2)) + 1))) 
         ((((ByteArray.size out_26) + (ByteArray.size ⟨#[60]⟩) : Nat) ≤ 9223372036854775807 ∧ (∃ m296, m296 < m25 ∧ I23 (out_26 ++ ⟨#[60]⟩) (IntKind.wrap .i64 (i_27 + 1)) h28 m296))) 
         ((sB (decide (i_27 > (IntKind.wrap .i64 ((imin x14 x15) * p2)))) 
          ((sB (decide (i_27 < (IntKind.wrap .i64 ((imax x16 x17) * p2)))) 
           ((sB (decide (i_27 ≥ (IntKind.wrap .i64 ((IntKind.wrap .i64 ((imin x14 x15) * p2)) + 2)))) 
            ((sB (decide (i_27 < (IntKind.wrap .i64 ((IntKind.wrap .i64 ((IntKind.wrap .i64 ((imin x14 x15) * p2)) + 2)) + (ByteArray.size x22 : Int))))) 
             ((((0 : Int) ≤ ((IntKind.wrap .i64 ((IntKind.wrap .i64 (i_27 - (IntKind.wrap .i64 ((imin x14 x15) * p2)))) - 2)) : Int) ∧ ((IntKind.wrap .i64 ((IntKind.wrap .i64 (i_27 - (IntKind.wrap .i64 ((imin x14 x15) * p2)))) - 2)) : Int) ≤ ((IntKind.wrap .i64 ((IntKind.wrap .i64 (i_27 - (IntKind.wrap .i64 ((imin x14 x15) * p2)))) - 1)) : Int) ∧ ((IntKind.wrap .i64 ((IntKind.wrap .i64 (i_27 - (IntKind.wrap .i64 ((imin x14 x15) * p2)))) - 1)) : Int) ≤ (ByteArray.size x22 : Nat)) ∧ 
             (((ByteArray.size out_26) + (ByteArray.size (ByteArray.extract x22 (Int.toNat (IntKind.wrap .i64 ((IntKind.wrap .i64 (i_27 - (IntKind.wrap .i64 ((imin x14 x15) * p2)))) - 2))) (Int.toNat (IntKind.wrap .i64 ((IntKind.wrap .i64 (i_27 - (IntKind.wrap .i64 ((imin x14 x15) * p2)))) - 1))))) : Nat) ≤ 9223372036854775807 ∧ (∃ m297, m297 < m25 ∧ I23 (out_26 ++ (ByteArray.extract x22 (Int.toNat (IntKind.wrap .i64 ((IntKind.wrap .i64 (i_27 - (IntKind.wrap .i64 ((imin x14 x15) * p2)))) - 2))) (Int.toNat (IntKind.wrap .i64 ((IntKind.wrap .i64 (i_27 - (IntKind.wrap .i64 ((imin x14 x15) * p2)))) - 1))))) (IntKind.wrap .i64 (i_27 + 1)) h28 m297)))) 
             ((sB (decide (i_27 > (IntKind.wrap .i64 ((imin x14 x15) * p2)))) 
              ((sB (decide (i_27 < (IntKind.wrap .i64 ((imax x16 x17) * p2)))) 
               ((((ByteArray.size out_26) + (ByteArray.size ⟨#[45]⟩) : Nat) ≤ 9223372036854775807 ∧ (∃ m298, m298 < m25 ∧ I23 (out_26 ++ ⟨#[45]⟩) (IntKind.wrap .i64 (i_27 + 1)) h28 m298))) 
               ((p2 ≠ 0 ∧ (sB ((Int.tmod i_27 p2) == 0) 
                ((((ByteArray.size out_26) + (ByteArray.size ⟨#[124]⟩) : Nat) ≤ 9223372036854775807 ∧ (∃ m299, m299 < m25 ∧ I23 (out_26 ++ ⟨#[124]⟩) (IntKind.wrap .i64 (i_27 + 1)) h28 m299))) 
                ((((ByteArray.size out_26) + (ByteArray.size ⟨#[32]⟩) : Nat) ≤ 9223372036854775807 ∧ (∃ m300, m300 < m25 ∧ I23 (out_26 ++ ⟨#[32]⟩) (IntKind.wrap .i64 (i_27 + 1)) h28 m300)))))))) 
              ((p2 ≠ 0 ∧ (sB ((Int.tmod i_27 p2) == 0) 
               ((((ByteArray.size out_26) + (ByteArray.size ⟨#[124]⟩) : Nat) ≤ 9223372036854775807 ∧ (∃ m301, m301 < m25 ∧ I23 (out_26 ++ ⟨#[124]⟩) (IntKind.wrap .i64 (i_27 + 1)) h28 m301))) 
               ((((ByteArray.size out_26) + (ByteArray.size ⟨#[32]⟩) : Nat) ≤ 9223372036854775807 ∧ (∃ m302, m302 < m25 ∧ I23 (out_26 ++ ⟨#[32]⟩) (IntKind.wrap .i64 (i_27 + 1)) h28 m302)))))))))) 
            ((sB (decide (i_27 > (IntKind.wrap .i64 ((imin x14 x15) * p2)))) 
             ((sB (decide (i_27 < (IntKind.wrap .i64 ((imax x16 x17) * p2)))) 
              ((((ByteArray.size out_26) + (ByteArray.size ⟨#[45]⟩) : Nat) ≤ 9223372036854775807 ∧ (∃ m303, m303 < m25 ∧ I23 (out_26 ++ ⟨#[45]⟩) (IntKind.wrap .i64 (i_27 + 1)) h28 m303))) 
              ((p2 ≠ 0 ∧ (sB ((Int.tmod i_27 p2) == 0) 
               ((((ByteArray.size out_26) + (ByteArray.size ⟨#[124]⟩) : Nat) ≤ 9223372036854775807 ∧ (∃ m304, m304 < m25 ∧ I23 (out_26 ++ ⟨#[124]⟩) (IntKind.wrap .i64 (i_27 + 1)) h28 m304))) 
               ((((ByteArray.size out_26) + (ByteArray.size ⟨#[32]⟩) : Nat) ≤ 9223372036854775807 ∧ (∃ m305, m305 < m25 ∧ I23 (out_26 ++ ⟨#[32]⟩) (IntKind.wrap .i64 (i_27 + 1)) h28 m305)))))))) 
             ((p2 ≠ 0 ∧ (sB ((Int.tmod i_27 p2) == 0) 
              ((((ByteArray.size out_26) + (ByteArray.size ⟨#[124]⟩) : Nat) ≤ 9223372036854775807 ∧ (∃ m306, m306 < m25 ∧ I23 (out_26 ++ ⟨#[124]⟩) (IntKind.wrap .i64 (i_27 + 1)) h28 m306))) 
              ((((ByteArray.size out_26) + (ByteArray.size ⟨#[32]⟩) : Nat) ≤ 9223372036854775807 ∧ (∃ m307, m307 < m25 ∧ I23 (out_26 ++ ⟨#[32]⟩) (IntKind.wrap .i64 (i_27 + 1)) h28 m307)))))))))) 
           ((sB (decide (i_27 > (IntKind.wrap .i64 ((imin x14 x15) * p2)))) 
            ((sB (decide (i_27 < (IntKind.wrap .i64 ((imax x16 x17) * p2)))) 
             ((((ByteArray.size out_26) + (ByteArray.size ⟨#[45]⟩) : Nat) ≤ 9223372036854775807 ∧ (∃ m308, m308 < m25 ∧ I23 (out_26 ++ ⟨#[45]⟩) (IntKind.wrap .i64 (i_27 + 1)) h28 m308))) 
             ((p2 ≠ 0 ∧ (sB ((Int.tmod i_27 p2) == 0) 
              ((((ByteArray.size out_26) + (ByteArray.size ⟨#[124]⟩) : Nat) ≤ 9223372036854775807 ∧ (∃ m309, m309 < m25 ∧ I23 (out_26 ++ ⟨#[124]⟩) (IntKind.wrap .i64 (i_27 + 1)) h28 m309))) 
              ((((ByteArray.size out_26) + (ByteArray.size ⟨#[32]⟩) : Nat) ≤ 9223372036854775807 ∧ (∃ m310, m310 < m25 ∧ I23 (out_26 ++ ⟨#[32]⟩) (IntKind.wrap .i64 (i_27 + 1)) h28 m310)))))))) 
            ((p2 ≠ 0 ∧ (sB ((Int.tmod i_27 p2) == 0) 
             ((((ByteArray.size out_26) + (ByteArray.size ⟨#[124]⟩) : Nat) ≤ 9223372036854775807 ∧ (∃ m311, m311 < m25 ∧ I23 (out_26 ++ ⟨#[124]⟩) (IntKind.wrap .i64 (i_27 + 1)) h28 m311))) 
             ((((ByteArray.size out_26) + (ByteArray.size ⟨#[32]⟩) : Nat) ≤ 9223372036854775807 ∧ (∃ m312, m312 < m25 ∧ I23 (out_26 ++ ⟨#[32]⟩) (IntKind.wrap .i64 (i_27 + 1)) h28 m312)))))))))) 
          ((sB (decide (i_27 > (IntKind.wrap .i64 ((imin x14 x15) * p2)))) 
           ((sB (decide (i_27 < (IntKind.wrap .i64 ((imax x16 x17) * p2)))) 
            ((((ByteArray.size out_26) + (ByteArray.size ⟨#[45]⟩) : Nat) ≤ 9223372036854775807 ∧ (∃ m313, m313 < m25 ∧ I23 (out_26 ++ ⟨#[45]⟩) (IntKind.wrap .i64 (i_27 + 1)) h28 m313))) 
            ((p2 ≠ 0 ∧ (sB ((Int.tmod i_27 p2) == 0) 
             ((((ByteArray.size out_26) + (ByteArray.size ⟨#[124]⟩) : Nat) ≤ 9223372036854775807 ∧ (∃ m314, m314 < m25 ∧ I23 (out_26 ++ ⟨#[124]⟩) (IntKind.wrap .i64 (i_27 + 1)) h28 m314))) 
             ((((ByteArray.size out_26) + (ByteArray.size ⟨#[32]⟩) : Nat) ≤ 9223372036854775807 ∧ (∃ m315, m315 < m25 ∧ I23 (out_26 ++ ⟨#[32]⟩) (IntKind.wrap .i64 (i_27 + 1)) h28 m315)))))))) 
           ((p2 ≠ 0 ∧ (sB ((Int.tmod i_27 p2) == 0) 
            ((((ByteArray.size out_26) + (ByteArray.size ⟨#[124]⟩) : Nat) ≤ 9223372036854775807 ∧ (∃ m316, m316 < m25 ∧ I23 (out_26 ++ ⟨#[124]⟩) (IntKind.wrap .i64 (i_27 + 1)) h28 m316))) 
            ((((ByteArray.size out_26) + (ByteArray.size ⟨#[32]⟩) : Nat) ≤ 9223372036854775807 ∧ (∃ m317, m317 < m25 ∧ I23 (out_26 ++ ⟨#[32]⟩) (IntKind.wrap .i64 (i_27 + 1)) h28 m317)))))))))))) 
        ((sB (decide (i_27 > (IntKind.wrap .i64 ((imin x14 x15) * p2)))) 
         ((sB (decide (i_27 < (IntKind.wrap .i64 ((imax x16 x17) * p2)))) 
          ((sB (decide (i_27 ≥ (IntKind.wrap .i64 ((IntKind.wrap .i64 ((imin x14 x15) * p2)) + 2)))) 
           ((sB (decide (i_27 < (IntKind.wrap .i64 ((IntKind.wrap .i64 ((IntKind.wrap .i64 ((imin x14 x15) * p2)) + 2)) + (ByteArray.size x22 : Int))))) 
            ((((0 : Int) ≤ ((IntKind.wrap .i64 ((IntKind.wrap .i64 (i_27 - (IntKind.wrap .i64 ((imin x14 x15) * p2)))) - 2)) : Int) ∧ ((IntKind.wrap .i64 ((IntKind.wrap .i64 (i_27 - (IntKind.wrap .i64 ((imin x14 x15) * p2)))) - 2)) : Int) ≤ ((IntKind.wrap .i64 ((IntKind.wrap .i64 (i_27 - (IntKind.wrap .i64 ((imin x14 x15) * p2)))) - 1)) : Int) ∧ ((IntKind.wrap .i64 ((IntKind.wrap .i64 (i_27 - (IntKind.wrap .i64 ((imin x14 x15) * p2)))) - 1)) : Int) ≤ (ByteArray.size x22 : Nat)) ∧ 
            (((ByteArray.size out_26) + (ByteArray.size (ByteArray.extract x22 (Int.toNat (IntKind.wrap .i64 ((IntKind.wrap .i64 (i_27 - (IntKind.wrap .i64 ((imin x14 x15) * p2)))) - 2))) (Int.toNat (IntKind.wrap .i64 ((IntKind.wrap .i64 (i_27 - (IntKind.wrap .i64 ((imin x14 x15) * p2)))) - 1))))) : Nat) ≤ 9223372036854775807 ∧ (∃ m318, m318 < m25 ∧ I23 (out_26 ++ (ByteArray.extract x22 (Int.toNat (IntKind.wrap .i64 ((IntKind.wrap .i64 (i_27 - (IntKind.wrap .i64 ((imin x14 x15) * p2)))) - 2))) (Int.toNat (IntKind.wrap .i64 ((IntKind.wrap .i64 (i_27 - (IntKind.wrap .i64 ((imin x14 x15) * p2)))) - 1))))) (IntKind.wrap .i64 (i_27 + 1)) h28 m318)))) 
            ((sB (decide (i_27 > (IntKind.wrap .i64 ((imin x14 x15) * p2)))) 
             ((sB (decide (i_27 < (IntKind.wrap .i64 ((imax x16 x17) * p2)))) 
              ((((ByteArray.size out_26) + (ByteArray.size ⟨#[45]⟩) : Nat) ≤ 9223372036854775807 ∧ (∃ m319, m319 < m25 ∧ I23 (out_26 ++ ⟨#[45]⟩) (IntKind.wrap .i64 (i_27 + 1)) h28 m319))) 
              ((p2 ≠ 0 ∧ (sB ((Int.tmod i_27 p2) == 0) 
               ((((ByteArray.size out_26) + (ByteArray.size ⟨#[124]⟩) : Nat) ≤ 9223372036854775807 ∧ (∃ m320, m320 < m25 ∧ I23 (out_26 ++ ⟨#[124]⟩) (IntKind.wrap .i64 (i_27 + 1)) h28 m320))) 
               ((((ByteArray.size out_26) + (ByteArray.size ⟨#[32]⟩) : Nat) ≤ 9223372036854775807 ∧ (∃ m321, m321 < m25 ∧ I23 (out_26 ++ ⟨#[32]⟩) (IntKind.wrap .i64 (i_27 + 1)) h28 m321)))))))) 
             ((p2 ≠ 0 ∧ (sB ((Int.tmod i_27 p2) == 0) 
              ((((ByteArray.size out_26) + (ByteArray.size ⟨#[124]⟩) : Nat) ≤ 9223372036854775807 ∧ (∃ m322, m322 < m25 ∧ I23 (out_26 ++ ⟨#[124]⟩) (IntKind.wrap .i64 (i_27 + 1)) h28 m322))) 
              ((((ByteArray.size out_26) + (ByteArray.size ⟨#[32]⟩) : Nat) ≤ 9223372036854775807 ∧ (∃ m323, m323 < m25 ∧ I23 (out_26 ++ ⟨#[32]⟩) (IntKind.wrap .i64 (i_27 + 1)) h28 m323)))))))))) 
           ((sB (decide (i_27 > (IntKind.wrap .i64 ((imin x14 x15) * p2)))) 
            ((sB (decide (i_27 < (IntKind.wrap .i64 ((imax x16 x17) * p2)))) 
             ((((ByteArray.size out_26) + (ByteArray.size ⟨#[45]⟩) : Nat) ≤ 9223372036854775807 ∧ (∃ m324, m324 < m25 ∧ I23 (out_26 ++ ⟨#[45]⟩) (IntKind.wrap .i64 (i_27 + 1)) h28 m324))) 
             ((p2 ≠ 0 ∧ (sB ((Int.tmod i_27 p2) == 0) 
              ((((ByteArray.size out_26) + (ByteArray.size ⟨#[124]⟩) : Nat) ≤ 9223372036854775807 ∧ (∃ m325, m325 < m25 ∧ I23 (out_26 ++ ⟨#[124]⟩) (IntKind.wrap .i64 (i_27 + 1)) h28 m325))) 
              ((((ByteArray.size out_26) + (ByteArray.size ⟨#[32]⟩) : Nat) ≤ 9223372036854775807 ∧ (∃ m326, m326 < m25 ∧ I23 (out_26 ++ ⟨#[32]⟩) (IntKind.wrap .i64 (i_27 + 1)) h28 m326)))))))) 
            ((p2 ≠ 0 ∧ (sB ((Int.tmod i_27 p2) == 0) 
             ((((ByteArray.size out_26) + (ByteArray.size ⟨#[124]⟩) : Nat) ≤ 9223372036854775807 ∧ (∃ m327, m327 < m25 ∧ I23 (out_26 ++ ⟨#[124]⟩) (IntKind.wrap .i64 (i_27 + 1)) h28 m327))) 
             ((((ByteArray.size out_26) + (ByteArray.size ⟨#[32]⟩) : Nat) ≤ 9223372036854775807 ∧ (∃ m328, m328 < m25 ∧ I23 (out_26 ++ ⟨#[32]⟩) (IntKind.wrap .i64 (i_27 + 1)) h28 m328)))))))))) 
          ((sB (decide (i_27 > (IntKind.wrap .i64 ((imin x14 x15) * p2)))) 
           ((sB (decide (i_27 < (IntKind.wrap .i64 ((imax x16 x17) * p2)))) 
            ((((ByteArray.size out_26) + (ByteArray.size ⟨#[45]⟩) : Nat) ≤ 9223372036854775807 ∧ (∃ m329, m329 < m25 ∧ I23 (out_26 ++ ⟨#[45]⟩) (IntKind.wrap .i64 (i_27 + 1)) h28 m329))) 
            ((p2 ≠ 0 ∧ (sB ((Int.tmod i_27 p2) == 0) 
             ((((ByteArray.size out_26) + (ByteArray.size ⟨#[124]⟩) : Nat) ≤ 9223372036854775807 ∧ (∃ m330, m330 < m25 ∧ I23 (out_26 ++ ⟨#[124]⟩) (IntKind.wrap .i64 (i_27 + 1)) h28 m330))) 
             ((((ByteArray.size out_26) + (ByteArray.size ⟨#[32]⟩) : Nat) ≤ 9223372036854775807 ∧ (∃ m331, m331 < m25 ∧ I23 (out_26 ++ ⟨#[32]⟩) (IntKind.wrap .i64 (i_27 + 1)) h28 m331)))))))) 
           ((p2 ≠ 0 ∧ (sB ((Int.tmod i_27 p2) == 0) 
            ((((ByteArray.size out_26) + (ByteArray.size ⟨#[124]⟩) : Nat) ≤ 9223372036854775807 ∧ (∃ m332, m332 < m25 ∧ I23 (out_26 ++ ⟨#[124]⟩) (IntKind.wrap .i64 (i_27 + 1)) h28 m332))) 
            ((((ByteArray.size out_26) + (ByteArray.size ⟨#[32]⟩) : Nat) ≤ 9223372036854775807 ∧ (∃ m333, m333 < m25 ∧ I23 (out_26 ++ ⟨#[32]⟩) (IntKind.wrap .i64 (i_27 + 1)) h28 m333)))))))))) 
         ((sB (decide (i_27 > (IntKind.wrap .i64 ((imin x14 x15) * p2)))) 
          ((sB (decide (i_27 < (IntKind.wrap .i64 ((imax x16 x17) * p2)))) 
           ((((ByteArray.size out_26) + (ByteArray.size ⟨#[45]⟩) : Nat) ≤ 9223372036854775807 ∧ (∃ m334, m334 < m25 ∧ I23 (out_26 ++ ⟨#[45]⟩) (IntKind.wrap .i64 (i_27 + 1)) h28 m334))) 
           ((p2 ≠ 0 ∧ (sB ((Int.tmod i_27 p2) == 0) 
            ((((ByteArray.size out_26) + (ByteArray.size ⟨#[124]⟩) : Nat) ≤ 9223372036854775807 ∧ (∃ m335, m335 < m25 ∧ I23 (out_26 ++ ⟨#[124]⟩) (IntKind.wrap .i64 (i_27 + 1)) h28 m335))) 
            ((((ByteArray.size out_26) + (ByteArray.size ⟨#[32]⟩) : Nat) ≤ 9223372036854775807 ∧ (∃ m336, m336 < m25 ∧ I23 (out_26 ++ ⟨#[32]⟩) (IntKind.wrap .i64 (i_27 + 1)) h28 m336)))))))) 
          ((p2 ≠ 0 ∧ (sB ((Int.tmod i_27 p2) == 0) 
           ((((ByteArray.size out_26) + (ByteArray.size ⟨#[124]⟩) : Nat) ≤ 9223372036854775807 ∧ (∃ m337, m337 < m25 ∧ I23 (out_26 ++ ⟨#[124]⟩) (IntKind.wrap .i64 (i_27 + 1)) h28 m337))) 
           ((((ByteArray.size out_26) + (ByteArray.size ⟨#[32]⟩) : Nat) ≤ 9223372036854775807 ∧ (∃ m338, m338 < m25 ∧ I23 (out_26 ++ ⟨#[32]⟩) (IntKind.wrap .i64 (i_27 + 1)) h28 m338)))))))))))))) 
       ((sB (decide (i_27 > (IntKind.wrap .i64 ((imin x14 x15) * p2)))) 
        ((sB (decide (i_27 < (IntKind.wrap .i64 ((imax x16 x17) * p2)))) 
         ((sB (decide (i_27 ≥ (IntKind.wrap .i64 ((IntKind.wrap .i64 ((imin x14 x15) * p2)) + 2)))) 
          ((sB (decide (i_27 < (IntKind.wrap .i64 ((IntKind.wrap .i64 ((IntKind.wrap .i64 ((imin x14 x15) * p2)) + 2)) + (ByteArray.size x22 : Int))))) 
           ((((0 : Int) ≤ ((IntKind.wrap .i64 ((IntKind.wrap .i64 (i_27 - (IntKind.wrap .i64 ((imin x14 x15) * p2)))) - 2)) : Int) ∧ ((IntKind.wrap .i64 ((IntKind.wrap .i64 (i_27 - (IntKind.wrap .i64 ((imin x14 x15) * p2)))) - 2)) : Int) ≤ ((IntKind.wrap .i64 ((IntKind.wrap .i64 (i_27 - (IntKind.wrap .i64 ((imin x14 x15) * p2)))) - 1)) : Int) ∧ ((IntKind.wrap .i64 ((IntKind.wrap .i64 (i_27 - (IntKind.wrap .i64 ((imin x14 x15) * p2)))) - 1)) : Int) ≤ (ByteArray.size x22 : Nat)) ∧ 
           (((ByteArray.size out_26) + (ByteArray.size (ByteArray.extract x22 (Int.toNat (IntKind.wrap .i64 ((IntKind.wrap .i64 (i_27 - (IntKind.wrap .i64 ((imin x14 x15) * p2)))) - 2))) (Int.toNat (IntKind.wrap .i64 ((IntKind.wrap .i64 (i_27 - (IntKind.wrap .i64 ((imin x14 x15) * p2)))) - 1))))) : Nat) ≤ 9223372036854775807 ∧ (∃ m339, m339 < m25 ∧ I23 (out_26 ++ (ByteArray.extract x22 (Int.toNat (IntKind.wrap .i64 ((IntKind.wrap .i64 (i_27 - (IntKind.wrap .i64 ((imin x14 x15) * p2)))) - 2))) (Int.toNat (IntKind.wrap .i64 ((IntKind.wrap .i64 (i_27 - (IntKind.wrap .i64 ((imin x14 x15) * p2)))) - 1))))) (IntKind.wrap .i64 (i_27 + 1)) h28 m339)))) 
           ((sB (decide (i_27 > (IntKind.wrap .i64 ((imin x14 x15) * p2)))) 
            ((sB (decide (i_27 < (IntKind.wrap .i64 ((imax x16 x17) * p2)))) 
             ((((ByteArray.size out_26) + (ByteArray.size ⟨#[45]⟩) : Nat) ≤ 9223372036854775807 ∧ (∃ m340, m340 < m25 ∧ I23 (out_26 ++ ⟨#[45]⟩) (IntKind.wrap .i64 (i_27 + 1)) h28 m340))) 
             ((p2 ≠ 0 ∧ (sB ((Int.tmod i_27 p2) == 0) 
              ((((ByteArray.size out_26) + (ByteArray.size ⟨#[124]⟩) : Nat) ≤ 9223372036854775807 ∧ (∃ m341, m341 < m25 ∧ I23 (out_26 ++ ⟨#[124]⟩) (IntKind.wrap .i64 (i_27 + 1)) h28 m341))) 
              ((((ByteArray.size out_26) + (ByteArray.size ⟨#[32]⟩) : Nat) ≤ 9223372036854775807 ∧ (∃ m342, m342 < m25 ∧ I23 (out_26 ++ ⟨#[32]⟩) (IntKind.wrap .i64 (i_27 + 1)) h28 m342)))))))) 
            ((p2 ≠ 0 ∧ (sB ((Int.tmod i_27 p2) == 0) 
             ((((ByteArray.size out_26) + (ByteArray.size ⟨#[124]⟩) : Nat) ≤ 9223372036854775807 ∧ (∃ m343, m343 < m25 ∧ I23 (out_26 ++ ⟨#[124]⟩) (IntKind.wrap .i64 (i_27 + 1)) h28 m343))) 
             ((((ByteArray.size out_26) + (ByteArray.size ⟨#[32]⟩) : Nat) ≤ 9223372036854775807 ∧ (∃ m344, m344 < m25 ∧ I23 (out_26 ++ ⟨#[32]⟩) (IntKind.wrap .i64 (i_27 + 1)) h28 m344)))))))))) 
          ((sB (decide (i_27 > (IntKind.wrap .i64 ((imin x14 x15) * p2)))) 
           ((sB (decide (i_27 < (IntKind.wrap .i64 ((imax x16 x17) * p2)))) 
            ((((ByteArray.size out_26) + (ByteArray.size ⟨#[45]⟩) : Nat) ≤ 9223372036854775807 ∧ (∃ m345, m345 < m25 ∧ I23 (out_26 ++ ⟨#[45]⟩) (IntKind.wrap .i64 (i_27 + 1)) h28 m345))) 
            ((p2 ≠ 0 ∧ (sB ((Int.tmod i_27 p2) == 0) 
             ((((ByteArray.size out_26) + (ByteArray.size ⟨#[124]⟩) : Nat) ≤ 9223372036854775807 ∧ (∃ m346, m346 < m25 ∧ I23 (out_26 ++ ⟨#[124]⟩) (IntKind.wrap .i64 (i_27 + 1)) h28 m346))) 
             ((((ByteArray.size out_26) + (ByteArray.size ⟨#[32]⟩) : Nat) ≤ 9223372036854775807 ∧ (∃ m347, m347 < m25 ∧ I23 (out_26 ++ ⟨#[32]⟩) (IntKind.wrap .i64 (i_27 + 1)) h28 m347)))))))) 
           ((p2 ≠ 0 ∧ (sB ((Int.tmod i_27 p2) == 0) 
            ((((ByteArray.size out_26) + (ByteArray.size ⟨#[124]⟩) : Nat) ≤ 9223372036854775807 ∧ (∃ m348, m348 < m25 ∧ I23 (out_26 ++ ⟨#[124]⟩) (IntKind.wrap .i64 (i_27 + 1)) h28 m348))) 
            ((((ByteArray.size out_26) + (ByteArray.size ⟨#[32]⟩) : Nat) ≤ 9223372036854775807 ∧ (∃ m349, m349 < m25 ∧ I23 (out_26 ++ ⟨#[32]⟩) (IntKind.wrap .i64 (i_27 + 1)) h28 m349)))))))))) 
         ((sB (decide (i_27 > (IntKind.wrap .i64 ((imin x14 x15) * p2)))) 
          ((sB (decide (i_27 < (IntKind.wrap .i64 ((imax x16 x17) * p2)))) 
           ((((ByteArray.size out_26) + (ByteArray.size ⟨#[45]⟩) : Nat) ≤ 9223372036854775807 ∧ (∃ m350, m350 < m25 ∧ I23 (out_26 ++ ⟨#[45]⟩) (IntKind.wrap .i64 (i_27 + 1)) h28 m350))) 
           ((p2 ≠ 0 ∧ (sB ((Int.tmod i_27 p2) == 0) 
            ((((ByteArray.size out_26) + (ByteArray.size ⟨#[124]⟩) : Nat) ≤ 9223372036854775807 ∧ (∃ m351, m351 < m25 ∧ I23 (out_26 ++ ⟨#[124]⟩) (IntKind.wrap .i64 (i_27 + 1)) h28 m351))) 
            ((((ByteArray.size out_26) + (ByteArray.size ⟨#[32]⟩) : Nat) ≤ 9223372036854775807 ∧ (∃ m352, m352 < m25 ∧ I23 (out_26 ++ ⟨#[32]⟩) (IntKind.wrap .i64 (i_27 + 1)) h28 m352)))))))) 
          ((p2 ≠ 0 ∧ (sB ((Int.tmod i_27 p2) == 0) 
           ((((ByteArray.size out_26) + (ByteArray.size ⟨#[124]⟩) : Nat) ≤ 9223372036854775807 ∧ (∃ m353, m353 < m25 ∧ I23 (out_26 ++ ⟨#[124]⟩) (IntKind.wrap .i64 (i_27 + 1)) h28 m353))) 
           ((((ByteArray.size out_26) + (ByteArray.size ⟨#[32]⟩) : Nat) ≤ 9223372036854775807 ∧ (∃ m354, m354 < m25 ∧ I23 (out_26 ++ ⟨#[32]⟩) (IntKind.wrap .i64 (i_27 + 1)) h28 m354)))))))))) 
        ((sB (decide (i_27 > (IntKind.wrap .i64 ((imin x14 x15) * p2)))) 
         ((sB (decide (i_27 < (IntKind.wrap .i64 ((imax x16 x17) * p2)))) 
          ((((ByteArray.size out_26) + (ByteArray.size ⟨#[45]⟩) : Nat) ≤ 9223372036854775807 ∧ (∃ m355, m355 < m25 ∧ I23 (out_26 ++ ⟨#[45]⟩) (IntKind.wrap .i64 (i_27 + 1)) h28 m355))) 
          ((p2 ≠ 0 ∧ (sB ((Int.tmod i_27 p2) == 0) 
           ((((ByteArray.size out_26) + (ByteArray.size ⟨#[124]⟩) : Nat) ≤ 9223372036854775807 ∧ (∃ m356, m356 < m25 ∧ I23 (out_26 ++ ⟨#[124]⟩) (IntKind.wrap .i64 (i_27 + 1)) h28 m356))) 
           ((((ByteArray.size out_26) + (ByteArray.size ⟨#[32]⟩) : Nat) ≤ 9223372036854775807 ∧ (∃ m357, m357 < m25 ∧ I23 (out_26 ++ ⟨#[32]⟩) (IntKind.wrap .i64 (i_27 + 1)) h28 m357)))))))) 
         ((p2 ≠ 0 ∧ (sB ((Int.tmod i_27 p2) == 0) 
          ((((ByteArray.size out_26) + (ByteArray.size ⟨#[124]⟩) : Nat) ≤ 9223372036854775807 ∧ (∃ m358, m358 < m25 ∧ I23 (out_26 ++ ⟨#[124]⟩) (IntKind.wrap .i64 (i_27 + 1)) h28 m358))) 
          ((((ByteArray.size out_26) + (ByteArray.size ⟨#[32]⟩) : Nat) ≤ 9223372036854775807 ∧ (∃ m359, m359 < m25 ∧ I23 (out_26 ++ ⟨#[32]⟩) (IntKind.wrap .i64 (i_27 + 1)) h28 m359)))))))))))) 
      ((sB (decide (i_27 > (IntKind.wrap .i64 ((imin x14 x15) * p2)))) 
       ((sB (decide (i_27 < (IntKind.wrap .i64 ((imax x16 x17) * p2)))) 
        ((sB (decide (i_27 ≥ (IntKind.wrap .i64 ((IntKind.wrap .i64 ((imin x14 x15) * p2)) + 2)))) 
         ((sB (decide (i_27 < (IntKind.wrap .i64 ((IntKind.wrap .i64 ((IntKind.wrap .i64 ((imin x14 x15) * p2)) + 2)) + (ByteArray.size x22 : Int))))) 
          ((((0 : Int) ≤ ((IntKind.wrap .i64 ((IntKind.wrap .i64 (i_27 - (IntKind.wrap .i64 ((imin x14 x15) * p2)))) - 2)) : Int) ∧ ((IntKind.wrap .i64 ((IntKind.wrap .i64 (i_27 - (IntKind.wrap .i64 ((imin x14 x15) * p2)))) - 2)) : Int) ≤ ((IntKind.wrap .i64 ((IntKind.wrap .i64 (i_27 - (IntKind.wrap .i64 ((imin x14 x15) * p2)))) - 1)) : Int) ∧ ((IntKind.wrap .i64 ((IntKind.wrap .i64 (i_27 - (IntKind.wrap .i64 ((imin x14 x15) * p2)))) - 1)) : Int) ≤ (ByteArray.size x22 : Nat)) ∧ 
          (((ByteArray.size out_26) + (ByteArray.size (ByteArray.extract x22 (Int.toNat (IntKind.wrap .i64 ((IntKind.wrap .i64 (i_27 - (IntKind.wrap .i64 ((imin x14 x15) * p2)))) - 2))) (Int.toNat (IntKind.wrap .i64 ((IntKind.wrap .i64 (i_27 - (IntKind.wrap .i64 ((imin x14 x15) * p2)))) - 1))))) : Nat) ≤ 9223372036854775807 ∧ (∃ m360, m360 < m25 ∧ I23 (out_26 ++ (ByteArray.extract x22 (Int.toNat (IntKind.wrap .i64 ((IntKind.wrap .i64 (i_27 - (IntKind.wrap .i64 ((imin x14 x15) * p2)))) - 2))) (Int.toNat (IntKind.wrap .i64 ((IntKind.wrap .i64 (i_27 - (IntKind.wrap .i64 ((imin x14 x15) * p2)))) - 1))))) (IntKind.wrap .i64 (i_27 + 1)) h28 m360)))) 
          ((sB (decide (i_27 > (IntKind.wrap .i64 ((imin x14 x15) * p2)))) 
           ((sB (decide (i_27 < (IntKind.wrap .i64 ((imax x16 x17) * p2)))) 
            ((((ByteArray.size out_26) + (ByteArray.size ⟨#[45]⟩) : Nat) ≤ 9223372036854775807 ∧ (∃ m361, m361 < m25 ∧ I23 (out_26 ++ ⟨#[45]⟩) (IntKind.wrap .i64 (i_27 + 1)) h28 m361))) 
            ((p2 ≠ 0 ∧ (sB ((Int.tmod i_27 p2) == 0) 
             ((((ByteArray.size out_26) + (ByteArray.size ⟨#[124]⟩) : Nat) ≤ 9223372036854775807 ∧ (∃ m362, m362 < m25 ∧ I23 (out_26 ++ ⟨#[124]⟩) (IntKind.wrap .i64 (i_27 + 1)) h28 m362))) 
             ((((ByteArray.size out_26) + (ByteArray.size ⟨#[32]⟩) : Nat) ≤ 9223372036854775807 ∧ (∃ m363, m363 < m25 ∧ I23 (out_26 ++ ⟨#[32]⟩) (IntKind.wrap .i64 (i_27 + 1)) h28 m363)))))))) 
           ((p2 ≠ 0 ∧ (sB ((Int.tmod i_27 p2) == 0) 
            ((((ByteArray.size out_26) + (ByteArray.size ⟨#[124]⟩) : Nat) ≤ 9223372036854775807 ∧ (∃ m364, m364 < m25 ∧ I23 (out_26 ++ ⟨#[124]⟩) (IntKind.wrap .i64 (i_27 + 1)) h28 m364))) 
            ((((ByteArray.size out_26) + (ByteArray.size ⟨#[32]⟩) : Nat) ≤ 9223372036854775807 ∧ (∃ m365, m365 < m25 ∧ I23 (out_26 ++ ⟨#[32]⟩) (IntKind.wrap .i64 (i_27 + 1)) h28 m365)))))))))) 
         ((sB (decide (i_27 > (IntKind.wrap .i64 ((imin x14 x15) * p2)))) 
          ((sB (decide (i_27 < (IntKind.wrap .i64 ((imax x16 x17) * p2)))) 
           ((((ByteArray.size out_26) + (ByteArray.size ⟨#[45]⟩) : Nat) ≤ 9223372036854775807 ∧ (∃ m366, m366 < m25 ∧ I23 (out_26 ++ ⟨#[45]⟩) (IntKind.wrap .i64 (i_27 + 1)) h28 m366))) 
           ((p2 ≠ 0 ∧ (sB ((Int.tmod i_27 p2) == 0) 
            ((((ByteArray.size out_26) + (ByteArray.size ⟨#[124]⟩) : Nat) ≤ 9223372036854775807 ∧ (∃ m367, m367 < m25 ∧ I23 (out_26 ++ ⟨#[124]⟩) (IntKind.wrap .i64 (i_27 + 1)) h28 m367))) 
            ((((ByteArray.size out_26) + (ByteArray.size ⟨#[32]⟩) : Nat) ≤ 9223372036854775807 ∧ (∃ m368, m368 < m25 ∧ I23 (out_26 ++ ⟨#[32]⟩) (IntKind.wrap .i64 (i_27 + 1)) h28 m368)))))))) 
          ((p2 ≠ 0 ∧ (sB ((Int.tmod i_27 p2) == 0) 
           ((((ByteArray.size out_26) + (ByteArray.size ⟨#[124]⟩) : Nat) ≤ 9223372036854775807 ∧ (∃ m369, m369 < m25 ∧ I23 (out_26 ++ ⟨#[124]⟩) (IntKind.wrap .i64 (i_27 + 1)) h28 m369))) 
           ((((ByteArray.size out_26) + (ByteArray.size ⟨#[32]⟩) : Nat) ≤ 9223372036854775807 ∧ (∃ m370, m370 < m25 ∧ I23 (out_26 ++ ⟨#[32]⟩) (IntKind.wrap .i64 (i_27 + 1)) h28 m370)))))))))) 
        ((sB (decide (i_27 > (IntKind.wrap .i64 ((imin x14 x15) * p2)))) 
         ((sB (decide (i_27 < (IntKind.wrap .i64 ((imax x16 x17) * p2)))) 
          ((((ByteArray.size out_26) + (ByteArray.size ⟨#[45]⟩) : Nat) ≤ 9223372036854775807 ∧ (∃ m371, m371 < m25 ∧ I23 (out_26 ++ ⟨#[45]⟩) (IntKind.wrap .i64 (i_27 + 1)) h28 m371))) 
          ((p2 ≠ 0 ∧ (sB ((Int.tmod i_27 p2) == 0) 
           ((((ByteArray.size out_26) + (ByteArray.size ⟨#[124]⟩) : Nat) ≤ 9223372036854775807 ∧ (∃ m372, m372 < m25 ∧ I23 (out_26 ++ ⟨#[124]⟩) (IntKind.wrap .i64 (i_27 + 1)) h28 m372))) 
           ((((ByteArray.size out_26) + (ByteArray.size ⟨#[32]⟩) : Nat) ≤ 9223372036854775807 ∧ (∃ m373, m373 < m25 ∧ I23 (out_26 ++ ⟨#[32]⟩) (IntKind.wrap .i64 (i_27 + 1)) h28 m373)))))))) 
         ((p2 ≠ 0 ∧ (sB ((Int.tmod i_27 p2) == 0) 
          ((((ByteArray.size out_26) + (ByteArray.size ⟨#[124]⟩) : Nat) ≤ 9223372036854775807 ∧ (∃ m374, m374 < m25 ∧ I23 (out_26 ++ ⟨#[124]⟩) (IntKind.wrap .i64 (i_27 + 1)) h28 m374))) 
          ((((ByteArray.size out_26) + (ByteArray.size ⟨#[32]⟩) : Nat) ≤ 9223372036854775807 ∧ (∃ m375, m375 < m25 ∧ I23 (out_26 ++ ⟨#[32]⟩) (IntKind.wrap .i64 (i_27 + 1)) h28 m375)))))))))) 
       ((sB (decide (i_27 > (IntKind.wrap .i64 ((imin x14 x15) * p2)))) 
        ((sB (decide (i_27 < (IntKind.wrap .i64 ((imax x16 x17) * p2)))) 
         ((((ByteArray.size out_26) + (ByteArray.size ⟨#[45]⟩) : Nat) ≤ 9223372036854775807 ∧ (∃ m376, m376 < m25 ∧ I23 (out_26 ++ ⟨#[45]⟩) (IntKind.wrap .i64 (i_27 + 1)) h28 m376))) 
         ((p2 ≠ 0 ∧ (sB ((Int.tmod i_27 p2) == 0) 
          ((((ByteArray.size out_26) + (ByteArray.size ⟨#[124]⟩) : Nat) ≤ 9223372036854775807 ∧ (∃ m377, m377 < m25 ∧ I23 (out_26 ++ ⟨#[124]⟩) (IntKind.wrap .i64 (i_27 + 1)) h28 m377))) 
          ((((ByteArray.size out_26) + (ByteArray.size ⟨#[32]⟩) : Nat) ≤ 9223372036854775807 ∧ (∃ m378, m378 < m25 ∧ I23 (out_26 ++ ⟨#[32]⟩) (IntKind.wrap .i64 (i_27 + 1)) h28 m378)))))))) 
        ((p2 ≠ 0 ∧ (sB ((Int.tmod i_27 p2) == 0) 
         ((((ByteArray.size out_26) + (ByteArray.size ⟨#[124]⟩) : Nat) ≤ 9223372036854775807 ∧ (∃ m379, m379 < m25 ∧ I23 (out_26 ++ ⟨#[124]⟩) (IntKind.wrap .i64 (i_27 + 1)) h28 m379))) 
         ((((ByteArray.size out_26) + (ByteArray.size ⟨#[32]⟩) : Nat) ≤ 9223372036854775807 ∧ (∃ m380, m380 < m25 ∧ I23 (out_26 ++ ⟨#[32]⟩) (IntKind.wrap .i64 (i_27 + 1)) h28 m380)))))))))))))) 
    (R (.string out_26) h28))))))))))))))))
theorem vc23e (p0_1 : ByteArray) (p0_2 : Sl) (p0_3 : Sl) (p0_4 : Int) (p0_5 : Int) (p0_6 : Int) (p0_7 : Sl) (p0_8 : Sl) (p1_9 : Int) (p1_10 : Int) (p1_11 : Int) (p2 : Int) (h : Heap) (R : Value → Heap → Prop) : W23 p0_1 p0_2 p0_3 p0_4 p0_5 p0_6 p0_7 p0_8 p1_9 p1_10 p1_11 p2 h R = fnW Tryd.prog 23 (.s .z (.s .z (.s .z (.s .z (.s (.s .z (.b (.l [(10, .one (.str)), (11, .one (.int .i64))] .z))) .z))))) #[.agg ⟨[.string p0_1, .slice p0_2.a p0_2.n p0_2.c, .slice p0_3.a p0_3.n p0_3.c, .int .i64 p0_4, .int .i64 p0_5, .int .i64 p0_6, .slice p0_7.a p0_7.n p0_7.c, .slice p0_8.a p0_8.n p0_8.c]⟩, .agg ⟨[.int .i64 p1_9, .int .i64 p1_10, .int .i64 p1_11]⟩, .int .i64 p2] h R := by kernel_rfl
theorem vc23 (p0_1 : ByteArray) (p0_2 : Sl) (p0_3 : Sl) (p0_4 : Int) (p0_5 : Int) (p0_6 : Int) (p0_7 : Sl) (p0_8 : Sl) (p1_9 : Int) (p1_10 : Int) (p1_11 : Int) (p2 : Int) (h : Heap) (R : Value → Heap → Prop) (H : W23 p0_1 p0_2 p0_3 p0_4 p0_5 p0_6 p0_7 p0_8 p1_9 p1_10 p1_11 p2 h R) : Fn Tryd.prog 23 #[.agg ⟨[.string p0_1, .slice p0_2.a p0_2.n p0_2.c, .slice p0_3.a p0_3.n p0_3.c, .int .i64 p0_4, .int .i64 p0_5, .int .i64 p0_6, .slice p0_7.a p0_7.n p0_7.c, .slice p0_8.a p0_8.n p0_8.c]⟩, .agg ⟨[.int .i64 p1_9, .int .i64 p1_10, .int .i64 p1_11]⟩, .int .i64 p2] h R := fnI (vc23e p0_1 p0_2 p0_3 p0_4 p0_5 p0_6 p0_7 p0_8 p1_9 p1_10 p1_11 p2 h R) H

end Go.VC
