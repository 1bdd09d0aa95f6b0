import Derived.Test.YtcaahhppapnbhaaDoorVcLib
import Derived.Test.YtcaahhppapnbhaaDoorProg
import Derived.KernelRfl
set_option linter.unusedVariables false
set_option linter.unusedSimpArgs false

namespace Go.VC
open Go.Proofs
set_option maxRecDepth 100000
set_option linter.unusedVariables false

/- farandole/farandolelaw42.ChartDraw -/
def W3 (p0_1 : ByteArray) (p0_2 : Sl) (p0_3 : Sl) (p0_4 : Int) (p0_5 : Int) (p0_6 : Int) (p0_7 : Sl) (p0_8 : Sl) (p1 : Sl) (h : Heap) (R : Value → Heap → Prop) : Prop :=
  (∀ h9 : Heap, h9 = h.push (.cells ⟨[.string p0_1, .slice p0_2.a p0_2.n p0_2.c, .slice p0_3.a p0_3.n p0_3.c, .int .i64 p0_4, .int .i64 p0_5, .int .i64 p0_6, .slice p0_7.a p0_7.n p0_7.c, .slice p0_8.a p0_8.n p0_8.c]⟩ 27) → 
  (Fn Tryd.prog 9 #[] h9 
  (fun v10 h12 => ∃ x11 : Bool, v10 = .bool x11 ∧ 
  (sB (!x11) 
   (R (.bool false) h12) 
   ((∃ x13 : ByteArray, ∃ x14 : Sl, ∃ x15 : Sl, ∃ x16 : Int, ∃ x17 : Int, ∃ x18 : Int, ∃ x19 : Sl, ∃ x20 : Sl, atC h12 ⟨h.size, 0, none⟩ [.string x13, .slice x14.a x14.n x14.c, .slice x15.a x15.n x15.c, .int .i64 x16, .int .i64 x17, .int .i64 x18, .slice x19.a x19.n x19.c, .slice x20.a x20.n x20.c] ∧ 
   (Fn Tryd.prog 10 #[.agg ⟨[.string x13, .slice x14.a x14.n x14.c, .slice x15.a x15.n x15.c, .int .i64 x16, .int .i64 x17, .int .i64 x18, .slice x19.a x19.n x19.c, .slice x20.a x20.n x20.c]⟩, .slice p1.a p1.n p1.c] h12 
   (fun v21 h23 => ∃ x22 : Bool, v21 = .bool x22 ∧ 
   (sB (!x22) 
    (R (.bool true) h23) 
    ((∃ x24 : ByteArray, ∃ x25 : Sl, ∃ x26 : Sl, ∃ x27 : Int, ∃ x28 : Int, ∃ x29 : Int, ∃ x30 : Sl, ∃ x31 : Sl, atC h23 ⟨h.size, 0, none⟩ [.string x24, .slice x25.a x25.n x25.c, .slice x26.a x26.n x26.c, .int .i64 x27, .int .i64 x28, .int .i64 x29, .slice x30.a x30.n x30.c, .slice x31.a x31.n x31.c] ∧ 
    (Fn Tryd.prog 11 #[.agg ⟨[.string x24, .slice x25.a x25.n x25.c, .slice x26.a x26.n x26.c, .int .i64 x27, .int .i64 x28, .int .i64 x29, .slice x30.a x30.n x30.c, .slice x31.a x31.n x31.c]⟩, .slice p1.a p1.n p1.c] h23 
    (fun v32 h35 => ∃ x33 : Sl, ∃ x34 : Int, v32 = .tuple ⟨[.slice x33.a x33.n x33.c, .int .i64 x34]⟩ ∧ 
    (∃ x36 : ByteArray, ∃ x37 : Sl, ∃ x38 : Sl, ∃ x39 : Int, ∃ x40 : Int, ∃ x41 : Int, ∃ x42 : Sl, ∃ x43 : Sl, atC h35 ⟨h.size, 0, none⟩ [.string x36, .slice x37.a x37.n x37.c, .slice x38.a x38.n x38.c, .int .i64 x39, .int .i64 x40, .int .i64 x41, .slice x42.a x42.n x42.c, .slice x43.a x43.n x43.c] ∧ 
    (Fn Tryd.prog 12 #[.agg ⟨[.string x36, .slice x37.a x37.n x37.c, .slice x38.a x38.n x38.c, .int .i64 x39, .int .i64 x40, .int .i64 x41, .slice x42.a x42.n x42.c, .slice x43.a x43.n x43.c]⟩, .slice p1.a p1.n p1.c] h35 
    (fun v44 h47 => ∃ x45 : Sl, ∃ x46 : Int, v44 = .tuple ⟨[.slice x45.a x45.n x45.c, .int .i64 x46]⟩ ∧ 
    (Fn Tryd.prog 13 #[.slice x33.a x33.n x33.c, .slice x45.a x45.n x45.c] h47 
    (fun v48 h50 => ∃ x49 : Bool, v48 = .bool x49 ∧ 
    (sB x49 
     ((sB (x34 == x46) 
      ((∃ x51 : ByteArray, ∃ x52 : Sl, ∃ x53 : Sl, ∃ x54 : Int, ∃ x55 : Int, ∃ x56 : Int, ∃ x57 : Sl, ∃ x58 : Sl, atC h50 ⟨h.size, 0, none⟩ [.string x51, .slice x52.a x52.n x52.c, .slice x53.a x53.n x53.c, .int .i64 x54, .int .i64 x55, .int .i64 x56, .slice x57.a x57.n x57.c, .slice x58.a x58.n x58.c] ∧ 
      (∃ x59 : ByteArray, ∃ x60 : Sl, ∃ x61 : Sl, ∃ x62 : Int, ∃ x63 : Int, ∃ x64 : Int, ∃ x65 : Sl, ∃ x66 : Sl, atC h50 ⟨h.size, 0, none⟩ [.string x59, .slice x60.a x60.n x60.c, .slice x61.a x61.n x61.c, .int .i64 x62, .int .i64 x63, .int .i64 x64, .slice x65.a x65.n x65.c, .slice x66.a x66.n x66.c] ∧ 
      (Fn Tryd.prog 14 #[.agg ⟨[.string x51, .slice x52.a x52.n x52.c, .slice x53.a x53.n x53.c, .int .i64 x54, .int .i64 x55, .int .i64 x56, .slice x57.a x57.n x57.c, .slice x58.a x58.n x58.c]⟩, .slice p1.a p1.n p1.c] h50 
      (fun v67 h69 => ∃ x68 : Int, v67 = .int .i64 x68 ∧ 
      (Sm [⟨h.size, 0, none⟩] h50 h69 ∧ 
      (Fn Tryd.prog 15 #[.agg ⟨[.string x59, .slice x60.a x60.n x60.c, .slice x61.a x61.n x61.c, .int .i64 x62, .int .i64 x63, .int .i64 x64, .slice x65.a x65.n x65.c, .slice x66.a x66.n x66.c]⟩, .slice p1.a p1.n p1.c] h69 
      (fun v70 h72 => ∃ x71 : Int, v70 = .int .i64 x71 ∧ 
      (Sm [⟨h.size, 0, none⟩] h69 h72 ∧ 
      R (.bool (x68 == x71)) h72))))))))) 
      (R (.bool false) h50))) 
     (R (.bool false) h50))))))))))))))))))))
theorem vc3e (p0_1 : ByteArray) (p0_2 : Sl) (p0_3 : Sl) (p0_4 : Int) (p0_5 : Int) (p0_6 : Int) (p0_7 : Sl) (p0_8 : Sl) (p1 : Sl) (h : Heap) (R : Value → Heap → Prop) : W3 p0_1 p0_2 p0_3 p0_4 p0_5 p0_6 p0_7 p0_8 p1 h R = fnW Tryd.prog 3 .z #[.agg ⟨[.string p0_1, .slice p0_2.a p0_2.n p0_2.c, .slice p0_3.a p0_3.n p0_3.c, .int .i64 p0_4, .int .i64 p0_5, .int .i64 p0_6, .slice p0_7.a p0_7.n p0_7.c, .slice p0_8.a p0_8.n p0_8.c]⟩, .slice p1.a p1.n p1.c] h R := by kernel_rfl
theorem vc3 (p0_1 : ByteArray) (p0_2 : Sl) (p0_3 : Sl) (p0_4 : Int) (p0_5 : Int) (p0_6 : Int) (p0_7 : Sl) (p0_8 : Sl) (p1 : Sl) (h : Heap) (R : Value → Heap → Prop) (H : W3 p0_1 p0_2 p0_3 p0_4 p0_5 p0_6 p0_7 p0_8 p1 h R) : Fn Tryd.prog 3 #[.agg ⟨[.string p0_1, .slice p0_2.a p0_2.n p0_2.c, .slice p0_3.a p0_3.n p0_3.c, .int .i64 p0_4, .int .i64 p0_5, .int .i64 p0_6, .slice p0_7.a p0_7.n p0_7.c, .slice p0_8.a p0_8.n p0_8.c]⟩, .slice p1.a p1.n p1.c] h R := fnI (vc3e p0_1 p0_2 p0_3 p0_4 p0_5 p0_6 p0_7 p0_8 p1 h R) H

/- farandole/farandolelaw42.ChartRead
   loop rrrlrb: i_27:Int -/
def W4 (p0_1 : ByteArray) (p0_2 : Sl) (p0_3 : Sl) (p0_4 : Int) (p0_5 : Int) (p0_6 : Int) (p0_7 : Sl) (p0_8 : Sl) (p1 : Sl) (h : Heap) (R : Value → Heap → Prop) : Prop :=
  (∀ h9 : Heap, h9 = h.push (.cells ⟨[.string p0_1, .slice p0_2.a p0_2.n p0_2.c, .slice p0_3.a p0_3.n p0_3.c, .int .i64 p0_4, .int .i64 p0_5, .int .i64 p0_6, .slice p0_7.a p0_7.n p0_7.c, .slice p0_8.a p0_8.n p0_8.c]⟩ 27) → 
  (Fn Tryd.prog 9 #[] h9 
  (fun v10 h12 => ∃ x11 : Bool, v10 = .bool x11 ∧ 
  (sB (!x11) 
   (R (.bool false) h12) 
   ((∃ x13 : ByteArray, ∃ x14 : Sl, ∃ x15 : Sl, ∃ x16 : Int, ∃ x17 : Int, ∃ x18 : Int, ∃ x19 : Sl, ∃ x20 : Sl, atC h12 ⟨h.size, 0, none⟩ [.string x13, .slice x14.a x14.n x14.c, .slice x15.a x15.n x15.c, .int .i64 x16, .int .i64 x17, .int .i64 x18, .slice x19.a x19.n x19.c, .slice x20.a x20.n x20.c] ∧ 
   (Fn Tryd.prog 10 #[.agg ⟨[.string x13, .slice x14.a x14.n x14.c, .slice x15.a x15.n x15.c, .int .i64 x16, .int .i64 x17, .int .i64 x18, .slice x19.a x19.n x19.c, .slice x20.a x20.n x20.c]⟩, .slice none 0 0] h12 
   (fun v21 h23 => ∃ x22 : Bool, v21 = .bool x22 ∧ 
   (sB (!x22) 
    (R (.bool true) h23) 
    ((sB (decide ((p1.n : Int) > 13)) 
     (R (.bool true) h23) 
     ((∃ I24 : Int → Heap → Nat → Prop, (∃ m25, I24 0 h23 m25) ∧ 
     (∀ (_ : Env) (i_27 : Int) (h28 : Heap) (m26 : Nat), I24 i_27 h28 m26 → 
     (sB (decide (i_27 < (p1.n : Int))) 
       ((NB p1.a fun b29 o30 => ((0 ≤ (i_27 : Int) ∧ (i_27 : Int) < (p1.n : Nat)) ∧ 
       (∃ x31 : ByteArray, hc h28 ⟨b29, o30 + Int.toNat i_27 * 1, none⟩ = some (.string x31) ∧ 
       (sB (decide ((ByteArray.size x31 : Int) > 400)) 
        (R (.bool true) h28) 
        ((∃ m32, m32 < m26 ∧ I24 (IntKind.wrap .i64 (i_27 + 1)) h28 m32))))))) 
       ((∃ x33 : ByteArray, ∃ x34 : Sl, ∃ x35 : Sl, ∃ x36 : Int, ∃ x37 : Int, ∃ x38 : Int, ∃ x39 : Sl, ∃ x40 : Sl, atC h28 ⟨h.size, 0, none⟩ [.string x33, .slice x34.a x34.n x34.c, .slice x35.a x35.n x35.c, .int .i64 x36, .int .i64 x37, .int .i64 x38, .slice x39.a x39.n x39.c, .slice x40.a x40.n x40.c] ∧ 
       (Fn Tryd.prog 16 #[.agg ⟨[.string x33, .slice x34.a x34.n x34.c, .slice x35.a x35.n x35.c, .int .i64 x36, .int .i64 x37, .int .i64 x38, .slice x39.a x39.n x39.c, .slice x40.a x40.n x40.c]⟩, .slice p1.a p1.n p1.c] h28 
       (fun v41 h44 => ∃ x42 : Sl, ∃ x43 : Int, v41 = .tuple ⟨[.slice x42.a x42.n x42.c, .int .i64 x43]⟩ ∧ 
       (∃ x45 : ByteArray, ∃ x46 : Sl, ∃ x47 : Sl, ∃ x48 : Int, ∃ x49 : Int, ∃ x50 : Int, ∃ x51 : Sl, ∃ x52 : Sl, atC h44 ⟨h.size, 0, none⟩ [.string x45, .slice x46.a x46.n x46.c, .slice x47.a x47.n x47.c, .int .i64 x48, .int .i64 x49, .int .i64 x50, .slice x51.a x51.n x51.c, .slice x52.a x52.n x52.c] ∧ 
       (Fn Tryd.prog 17 #[.agg ⟨[.string x45, .slice x46.a x46.n x46.c, .slice x47.a x47.n x47.c, .int .i64 x48, .int .i64 x49, .int .i64 x50, .slice x51.a x51.n x51.c, .slice x52.a x52.n x52.c]⟩, .slice p1.a p1.n p1.c] h44 
       (fun v53 h56 => ∃ x54 : Sl, ∃ x55 : Int, v53 = .tuple ⟨[.slice x54.a x54.n x54.c, .int .i64 x55]⟩ ∧ 
       (Fn Tryd.prog 18 #[.slice x42.a x42.n x42.c, .slice x54.a x54.n x54.c] h56 
       (fun v57 h59 => ∃ x58 : Bool, v57 = .bool x58 ∧ 
       (sB (!x58) 
        (R (.bool false) h59) 
        ((sB (x43 != x55) 
         (R (.bool false) h59) 
         ((sB (x43 != 0) 
          (R (.bool ((x42.n : Int) == 0)) h59) 
          ((∃ x60 : ByteArray, ∃ x61 : Sl, ∃ x62 : Sl, ∃ x63 : Int, ∃ x64 : Int, ∃ x65 : Int, ∃ x66 : Sl, ∃ x67 : Sl, atC h59 ⟨h.size, 0, none⟩ [.string x60, .slice x61.a x61.n x61.c, .slice x62.a x62.n x62.c, .int .i64 x63, .int .i64 x64, .int .i64 x65, .slice x66.a x66.n x66.c, .slice x67.a x67.n x67.c] ∧ 
          (Fn Tryd.prog 11 #[.agg ⟨[.string x60, .slice x61.a x61.n x61.c, .slice x62.a x62.n x62.c, .int .i64 x63, .int .i64 x64, .int .i64 x65, .slice x66.a x66.n x66.c, .slice x67.a x67.n x67.c]⟩, .slice x42.a x42.n x42.c] h59 
          (fun v68 h71 => ∃ x69 : Sl, ∃ x70 : Int, v68 = .tuple ⟨[.slice x69.a x69.n x69.c, .int .i64 x70]⟩ ∧ 
          (sB (x70 == 0) 
           ((Fn Tryd.prog 13 #[.slice x69.a x69.n x69.c, .slice p1.a p1.n p1.c] h71 
           (fun v72 h74 => ∃ x73 : Bool, v72 = .bool x73 ∧ 
           R (.bool x73) h74))) 
           (R (.bool false) h71)))))))))))))))))))))))))))))))))))
theorem vc4e (p0_1 : ByteArray) (p0_2 : Sl) (p0_3 : Sl) (p0_4 : Int) (p0_5 : Int) (p0_6 : Int) (p0_7 : Sl) (p0_8 : Sl) (p1 : Sl) (h : Heap) (R : Value → Heap → Prop) : W4 p0_1 p0_2 p0_3 p0_4 p0_5 p0_6 p0_7 p0_8 p1 h R = fnW Tryd.prog 4 (.s .z (.s .z (.s .z (.s (.s .z (.b (.l [(5, .one (.int .i64))] .z))) .z)))) #[.agg ⟨[.string p0_1, .slice p0_2.a p0_2.n p0_2.c, .slice p0_3.a p0_3.n p0_3.c, .int .i64 p0_4, .int .i64 p0_5, .int .i64 p0_6, .slice p0_7.a p0_7.n p0_7.c, .slice p0_8.a p0_8.n p0_8.c]⟩, .slice p1.a p1.n p1.c] h R := by kernel_rfl
theorem vc4 (p0_1 : ByteArray) (p0_2 : Sl) (p0_3 : Sl) (p0_4 : Int) (p0_5 : Int) (p0_6 : Int) (p0_7 : Sl) (p0_8 : Sl) (p1 : Sl) (h : Heap) (R : Value → Heap → Prop) (H : W4 p0_1 p0_2 p0_3 p0_4 p0_5 p0_6 p0_7 p0_8 p1 h R) : Fn Tryd.prog 4 #[.agg ⟨[.string p0_1, .slice p0_2.a p0_2.n p0_2.c, .slice p0_3.a p0_3.n p0_3.c, .int .i64 p0_4, .int .i64 p0_5, .int .i64 p0_6, .slice p0_7.a p0_7.n p0_7.c, .slice p0_8.a p0_8.n p0_8.c]⟩, .slice p1.a p1.n p1.c] h R := fnI (vc4e p0_1 p0_2 p0_3 p0_4 p0_5 p0_6 p0_7 p0_8 p1 h R) H

/- farandole/farandolelaw42.ChartInverse
   loop rrrrrrrlrb: i_65:Int -/
def W5 (p0_1 : ByteArray) (p0_2 : Sl) (p0_3 : Sl) (p0_4 : Int) (p0_5 : Int) (p0_6 : Int) (p0_7 : Sl) (p0_8 : Sl) (p1 : Sl) (h : Heap) (R : Value → Heap → Prop) : Prop :=
  (∀ h9 : Heap, h9 = h.push (.cells ⟨[.string p0_1, .slice p0_2.a p0_2.n p0_2.c, .slice p0_3.a p0_3.n p0_3.c, .int .i64 p0_4, .int .i64 p0_5, .int .i64 p0_6, .slice p0_7.a p0_7.n p0_7.c, .slice p0_8.a p0_8.n p0_8.c]⟩ 27) → 
  (Fn Tryd.prog 9 #[] h9 
  (fun v10 h12 => ∃ x11 : Bool, v10 = .bool x11 ∧ 
  (sB (!x11) 
   (R (.bool false) h12) 
   ((∃ x13 : ByteArray, ∃ x14 : Sl, ∃ x15 : Sl, ∃ x16 : Int, ∃ x17 : Int, ∃ x18 : Int, ∃ x19 : Sl, ∃ x20 : Sl, atC h12 ⟨h.size, 0, none⟩ [.string x13, .slice x14.a x14.n x14.c, .slice x15.a x15.n x15.c, .int .i64 x16, .int .i64 x17, .int .i64 x18, .slice x19.a x19.n x19.c, .slice x20.a x20.n x20.c] ∧ 
   (Fn Tryd.prog 10 #[.agg ⟨[.string x13, .slice x14.a x14.n x14.c, .slice x15.a x15.n x15.c, .int .i64 x16, .int .i64 x17, .int .i64 x18, .slice x19.a x19.n x19.c, .slice x20.a x20.n x20.c]⟩, .slice p1.a p1.n p1.c] h12 
   (fun v21 h23 => ∃ x22 : Bool, v21 = .bool x22 ∧ 
   (sB (!x22) 
    (R (.bool true) h23) 
    ((∃ x24 : ByteArray, ∃ x25 : Sl, ∃ x26 : Sl, ∃ x27 : Int, ∃ x28 : Int, ∃ x29 : Int, ∃ x30 : Sl, ∃ x31 : Sl, atC h23 ⟨h.size, 0, none⟩ [.string x24, .slice x25.a x25.n x25.c, .slice x26.a x26.n x26.c, .int .i64 x27, .int .i64 x28, .int .i64 x29, .slice x30.a x30.n x30.c, .slice x31.a x31.n x31.c] ∧ 
    (Fn Tryd.prog 11 #[.agg ⟨[.string x24, .slice x25.a x25.n x25.c, .slice x26.a x26.n x26.c, .int .i64 x27, .int .i64 x28, .int .i64 x29, .slice x30.a x30.n x30.c, .slice x31.a x31.n x31.c]⟩, .slice p1.a p1.n p1.c] h23 
    (fun v32 h35 => ∃ x33 : Sl, ∃ x34 : Int, v32 = .tuple ⟨[.slice x33.a x33.n x33.c, .int .i64 x34]⟩ ∧ 
    (sB (x34 != 0) 
     ((sB ((x33.n : Int) == 0) 
      ((∃ x36 : ByteArray, ∃ x37 : Sl, ∃ x38 : Sl, ∃ x39 : Int, ∃ x40 : Int, ∃ x41 : Int, ∃ x42 : Sl, ∃ x43 : Sl, atC h35 ⟨h.size, 0, none⟩ [.string x36, .slice x37.a x37.n x37.c, .slice x38.a x38.n x38.c, .int .i64 x39, .int .i64 x40, .int .i64 x41, .slice x42.a x42.n x42.c, .slice x43.a x43.n x43.c] ∧ 
      (Fn Tryd.prog 14 #[.agg ⟨[.string x36, .slice x37.a x37.n x37.c, .slice x38.a x38.n x38.c, .int .i64 x39, .int .i64 x40, .int .i64 x41, .slice x42.a x42.n x42.c, .slice x43.a x43.n x43.c]⟩, .slice p1.a p1.n p1.c] h35 
      (fun v44 h46 => ∃ x45 : Int, v44 = .int .i64 x45 ∧ 
      R (.bool (x45 == 0)) h46)))) 
      (R (.bool false) h35))) 
     ((∃ x47 : ByteArray, ∃ x48 : Sl, ∃ x49 : Sl, ∃ x50 : Int, ∃ x51 : Int, ∃ x52 : Int, ∃ x53 : Sl, ∃ x54 : Sl, atC h35 ⟨h.size, 0, none⟩ [.string x47, .slice x48.a x48.n x48.c, .slice x49.a x49.n x49.c, .int .i64 x50, .int .i64 x51, .int .i64 x52, .slice x53.a x53.n x53.c, .slice x54.a x54.n x54.c] ∧ 
     (Fn Tryd.prog 16 #[.agg ⟨[.string x47, .slice x48.a x48.n x48.c, .slice x49.a x49.n x49.c, .int .i64 x50, .int .i64 x51, .int .i64 x52, .slice x53.a x53.n x53.c, .slice x54.a x54.n x54.c]⟩, .slice x33.a x33.n x33.c] h35 
     (fun v55 h58 => ∃ x56 : Sl, ∃ x57 : Int, v55 = .tuple ⟨[.slice x56.a x56.n x56.c, .int .i64 x57]⟩ ∧ 
     (sB (x57 != 0) 
      (R (.bool false) h58) 
      ((Fn Tryd.prog 18 #[.slice x56.a x56.n x56.c, .slice p1.a p1.n p1.c] h58 
      (fun v59 h61 => ∃ x60 : Bool, v59 = .bool x60 ∧ 
      (sB (!x60) 
       (R (.bool false) h61) 
       ((sB ((x33.n : Int) != (IntKind.wrap .i64 ((p1.n : Int) + 1))) 
        (R (.bool false) h61) 
        ((∃ I62 : Int → Heap → Nat → Prop, (∃ m63, I62 1 h61 m63) ∧ 
        (∀ (_ : Env) (i_65 : Int) (h66 : Heap) (m64 : Nat), I62 i_65 h66 m64 → 
        (sB (decide (i_65 < (x33.n : Int))) 
          ((NB x33.a fun b67 o68 => ((0 ≤ (i_65 : Int) ∧ (i_65 : Int) < (x33.n : Nat)) ∧ 
          (∃ x69 : ByteArray, hc h66 ⟨b67, o68 + Int.toNat i_65 * 1, none⟩ = some (.string x69) ∧ 
          (∃ x70 : Sl, hc h66 ⟨h.size, 1, none⟩ = some (.slice x70.a x70.n x70.c) ∧ 
          (∃ x71 : ByteArray, ∃ x72 : Sl, ∃ x73 : Sl, ∃ x74 : Int, ∃ x75 : Int, ∃ x76 : Int, ∃ x77 : Sl, ∃ x78 : Sl, atC h66 ⟨h.size, 0, none⟩ [.string x71, .slice x72.a x72.n x72.c, .slice x73.a x73.n x73.c, .int .i64 x74, .int .i64 x75, .int .i64 x76, .slice x77.a x77.n x77.c, .slice x78.a x78.n x78.c] ∧ 
          (Fn Tryd.prog 14 #[.agg ⟨[.string x71, .slice x72.a x72.n x72.c, .slice x73.a x73.n x73.c, .int .i64 x74, .int .i64 x75, .int .i64 x76, .slice x77.a x77.n x77.c, .slice x78.a x78.n x78.c]⟩, .slice p1.a p1.n p1.c] h66 
          (fun v79 h81 => ∃ x80 : Int, v79 = .int .i64 x80 ∧ 
          (Sm [⟨h.size, 1, none⟩, ⟨b67, o68 + Int.toNat i_65 * 1, none⟩] h66 h81 ∧ 
          (sB ((ByteArray.size x69 : Int) != (IntKind.wrap .i64 ((IntKind.wrap .i64 ((IntKind.wrap .i64 ((x70.n : Int) - 1)) * x80)) + 1))) 
           (R (.bool false) h81) 
           ((∃ m82, m82 < m64 ∧ I62 (IntKind.wrap .i64 (i_65 + 1)) h81 m82)))))))))))) 
          (R (.bool true) h66))))))))))))))))))))))))))))))
theorem vc5e (p0_1 : ByteArray) (p0_2 : Sl) (p0_3 : Sl) (p0_4 : Int) (p0_5 : Int) (p0_6 : Int) (p0_7 : Sl) (p0_8 : Sl) (p1 : Sl) (h : Heap) (R : Value → Heap → Prop) : W5 p0_1 p0_2 p0_3 p0_4 p0_5 p0_6 p0_7 p0_8 p1 h R = fnW Tryd.prog 5 (.s .z (.s .z (.s .z (.s .z (.s .z (.s .z (.s .z (.s (.s .z (.b (.l [(9, .one (.int .i64))] .z))) .z)))))))) #[.agg ⟨[.string p0_1, .slice p0_2.a p0_2.n p0_2.c, .slice p0_3.a p0_3.n p0_3.c, .int .i64 p0_4, .int .i64 p0_5, .int .i64 p0_6, .slice p0_7.a p0_7.n p0_7.c, .slice p0_8.a p0_8.n p0_8.c]⟩, .slice p1.a p1.n p1.c] h R := by kernel_rfl
theorem vc5 (p0_1 : ByteArray) (p0_2 : Sl) (p0_3 : Sl) (p0_4 : Int) (p0_5 : Int) (p0_6 : Int) (p0_7 : Sl) (p0_8 : Sl) (p1 : Sl) (h : Heap) (R : Value → Heap → Prop) (H : W5 p0_1 p0_2 p0_3 p0_4 p0_5 p0_6 p0_7 p0_8 p1 h R) : Fn Tryd.prog 5 #[.agg ⟨[.string p0_1, .slice p0_2.a p0_2.n p0_2.c, .slice p0_3.a p0_3.n p0_3.c, .int .i64 p0_4, .int .i64 p0_5, .int .i64 p0_6, .slice p0_7.a p0_7.n p0_7.c, .slice p0_8.a p0_8.n p0_8.c]⟩, .slice p1.a p1.n p1.c] h R := fnI (vc5e p0_1 p0_2 p0_3 p0_4 p0_5 p0_6 p0_7 p0_8 p1 h R) H

/- farandole/farandolelaw42.ChartParts -/
def W6 (p0_1 : ByteArray) (p0_2 : Sl) (p0_3 : Sl) (p0_4 : Int) (p0_5 : Int) (p0_6 : Int) (p0_7 : Sl) (p0_8 : Sl) (p1 : Sl) (p2 : Sl) (h : Heap) (R : Value → Heap → Prop) : Prop :=
  (∀ h9 : Heap, h9 = h.push (.cells ⟨[.string p0_1, .slice p0_2.a p0_2.n p0_2.c, .slice p0_3.a p0_3.n p0_3.c, .int .i64 p0_4, .int .i64 p0_5, .int .i64 p0_6, .slice p0_7.a p0_7.n p0_7.c, .slice p0_8.a p0_8.n p0_8.c]⟩ 27) → 
  (Fn Tryd.prog 9 #[] h9 
  (fun v10 h12 => ∃ x11 : Bool, v10 = .bool x11 ∧ 
  (sB (!x11) 
   (R (.bool false) h12) 
   ((∃ x13 : ByteArray, ∃ x14 : Sl, ∃ x15 : Sl, ∃ x16 : Int, ∃ x17 : Int, ∃ x18 : Int, ∃ x19 : Sl, ∃ x20 : Sl, atC h12 ⟨h.size, 0, none⟩ [.string x13, .slice x14.a x14.n x14.c, .slice x15.a x15.n x15.c, .int .i64 x16, .int .i64 x17, .int .i64 x18, .slice x19.a x19.n x19.c, .slice x20.a x20.n x20.c] ∧ 
   (Fn Tryd.prog 10 #[.agg ⟨[.string x13, .slice x14.a x14.n x14.c, .slice x15.a x15.n x15.c, .int .i64 x16, .int .i64 x17, .int .i64 x18, .slice x19.a x19.n x19.c, .slice x20.a x20.n x20.c]⟩, .slice p1.a p1.n p1.c] h12 
   (fun v21 h23 => ∃ x22 : Bool, v21 = .bool x22 ∧ 
   (sB (!x22) 
    (R (.bool true) h23) 
    ((∃ x24 : ByteArray, ∃ x25 : Sl, ∃ x26 : Sl, ∃ x27 : Int, ∃ x28 : Int, ∃ x29 : Int, ∃ x30 : Sl, ∃ x31 : Sl, atC h23 ⟨h.size, 0, none⟩ [.string x24, .slice x25.a x25.n x25.c, .slice x26.a x26.n x26.c, .int .i64 x27, .int .i64 x28, .int .i64 x29, .slice x30.a x30.n x30.c, .slice x31.a x31.n x31.c] ∧ 
    (Fn Tryd.prog 10 #[.agg ⟨[.string x24, .slice x25.a x25.n x25.c, .slice x26.a x26.n x26.c, .int .i64 x27, .int .i64 x28, .int .i64 x29, .slice x30.a x30.n x30.c, .slice x31.a x31.n x31.c]⟩, .slice p2.a p2.n p2.c] h23 
    (fun v32 h34 => ∃ x33 : Bool, v32 = .bool x33 ∧ 
    (Sm [⟨h.size, 0, none⟩] h23 h34 ∧ 
    (sB (!x33) 
     (R (.bool true) h34) 
     ((∃ x35 : ByteArray, ∃ x36 : Sl, ∃ x37 : Sl, ∃ x38 : Int, ∃ x39 : Int, ∃ x40 : Int, ∃ x41 : Sl, ∃ x42 : Sl, atC h34 ⟨h.size, 0, none⟩ [.string x35, .slice x36.a x36.n x36.c, .slice x37.a x37.n x37.c, .int .i64 x38, .int .i64 x39, .int .i64 x40, .slice x41.a x41.n x41.c, .slice x42.a x42.n x42.c] ∧ 
     (∃ x43 : ByteArray, ∃ x44 : Sl, ∃ x45 : Sl, ∃ x46 : Int, ∃ x47 : Int, ∃ x48 : Int, ∃ x49 : Sl, ∃ x50 : Sl, atC h34 ⟨h.size, 0, none⟩ [.string x43, .slice x44.a x44.n x44.c, .slice x45.a x45.n x45.c, .int .i64 x46, .int .i64 x47, .int .i64 x48, .slice x49.a x49.n x49.c, .slice x50.a x50.n x50.c] ∧ 
     (Fn Tryd.prog 14 #[.agg ⟨[.string x35, .slice x36.a x36.n x36.c, .slice x37.a x37.n x37.c, .int .i64 x38, .int .i64 x39, .int .i64 x40, .slice x41.a x41.n x41.c, .slice x42.a x42.n x42.c]⟩, .slice p1.a p1.n p1.c] h34 
     (fun v51 h53 => ∃ x52 : Int, v51 = .int .i64 x52 ∧ 
     (Sm [⟨h.size, 0, none⟩, ⟨h.size, 0, none⟩, ⟨h.size, 0, none⟩] h34 h53 ∧ 
     (Fn Tryd.prog 14 #[.agg ⟨[.string x43, .slice x44.a x44.n x44.c, .slice x45.a x45.n x45.c, .int .i64 x46, .int .i64 x47, .int .i64 x48, .slice x49.a x49.n x49.c, .slice x50.a x50.n x50.c]⟩, .slice p2.a p2.n p2.c] h53 
     (fun v54 h56 => ∃ x55 : Int, v54 = .int .i64 x55 ∧ 
     (Sm [⟨h.size, 0, none⟩, ⟨h.size, 0, none⟩, ⟨h.size, 0, none⟩] h53 h56 ∧ 
     (sB (x52 != x55) 
      (R (.bool true) h56) 
      ((∃ x57 : ByteArray, ∃ x58 : Sl, ∃ x59 : Sl, ∃ x60 : Int, ∃ x61 : Int, ∃ x62 : Int, ∃ x63 : Sl, ∃ x64 : Sl, atC h56 ⟨h.size, 0, none⟩ [.string x57, .slice x58.a x58.n x58.c, .slice x59.a x59.n x59.c, .int .i64 x60, .int .i64 x61, .int .i64 x62, .slice x63.a x63.n x63.c, .slice x64.a x64.n x64.c] ∧ 
      (Fn Tryd.prog 11 #[.agg ⟨[.string x57, .slice x58.a x58.n x58.c, .slice x59.a x59.n x59.c, .int .i64 x60, .int .i64 x61, .int .i64 x62, .slice x63.a x63.n x63.c, .slice x64.a x64.n x64.c]⟩, .slice p1.a p1.n p1.c] h56 
      (fun v65 h68 => ∃ x66 : Sl, ∃ x67 : Int, v65 = .tuple ⟨[.slice x66.a x66.n x66.c, .int .i64 x67]⟩ ∧ 
      (∃ x69 : ByteArray, ∃ x70 : Sl, ∃ x71 : Sl, ∃ x72 : Int, ∃ x73 : Int, ∃ x74 : Int, ∃ x75 : Sl, ∃ x76 : Sl, atC h68 ⟨h.size, 0, none⟩ [.string x69, .slice x70.a x70.n x70.c, .slice x71.a x71.n x71.c, .int .i64 x72, .int .i64 x73, .int .i64 x74, .slice x75.a x75.n x75.c, .slice x76.a x76.n x76.c] ∧ 
      (Fn Tryd.prog 11 #[.agg ⟨[.string x69, .slice x70.a x70.n x70.c, .slice x71.a x71.n x71.c, .int .i64 x72, .int .i64 x73, .int .i64 x74, .slice x75.a x75.n x75.c, .slice x76.a x76.n x76.c]⟩, .slice p2.a p2.n p2.c] h68 
      (fun v77 h80 => ∃ x78 : Sl, ∃ x79 : Int, v77 = .tuple ⟨[.slice x78.a x78.n x78.c, .int .i64 x79]⟩ ∧ 
      (sB (x67 != 0) 
       (R (.bool (x67 == x79)) h80) 
       ((sB (x79 != 0) 
        (R (.bool (x67 == x79)) h80) 
        ((∃ x81 : ByteArray, ∃ x82 : Sl, ∃ x83 : Sl, ∃ x84 : Int, ∃ x85 : Int, ∃ x86 : Int, ∃ x87 : Sl, ∃ x88 : Sl, atC h80 ⟨h.size, 0, none⟩ [.string x81, .slice x82.a x82.n x82.c, .slice x83.a x83.n x83.c, .int .i64 x84, .int .i64 x85, .int .i64 x86, .slice x87.a x87.n x87.c, .slice x88.a x88.n x88.c] ∧ 
        (∀ h89 : Heap, h89 = h80.push (.cells ⟨[]⟩ 43) → 
        (Sm [⟨h.size, 0, none⟩] h80 h89 ∧ 
        (App Tryd.prog 28 28 (.slice (some ⟨h80.size, 0, none⟩) 0 0) (.slice p1.a p1.n p1.c) h89 fun s90 h91 => 
        (Sm [⟨h.size, 0, none⟩] h89 h91 ∧ 
        (App Tryd.prog 28 28 (.slice s90.a s90.n s90.c) (.slice p2.a p2.n p2.c) h91 fun s92 h93 => 
        (Sm [⟨h.size, 0, none⟩] h91 h93 ∧ 
        (Fn Tryd.prog 11 #[.agg ⟨[.string x81, .slice x82.a x82.n x82.c, .slice x83.a x83.n x83.c, .int .i64 x84, .int .i64 x85, .int .i64 x86, .slice x87.a x87.n x87.c, .slice x88.a x88.n x88.c]⟩, .slice s92.a s92.n s92.c] h93 
        (fun v94 h97 => ∃ x95 : Sl, ∃ x96 : Int, v94 = .tuple ⟨[.slice x95.a x95.n x95.c, .int .i64 x96]⟩ ∧ 
        (sB (x96 == 0) 
         ((sB (decide ((x78.n : Int) > 0)) 
          ((((0 : Int) ≤ (1 : Int) ∧ (1 : Int) ≤ ((x78.n : Nat) : Int) ∧ ((x78.n : Nat) : Int) ≤ (x78.c : Nat)) ∧ 
          (∀ h98 : Heap, h98 = h97.push (.cells ⟨[]⟩ 9) → 
          (App Tryd.prog 22 22 (.slice (some ⟨h97.size, 0, none⟩) 0 0) (.slice x66.a x66.n x66.c) h98 fun s99 h100 => 
          (App Tryd.prog 22 22 (.slice s99.a s99.n s99.c) (.slice (subA x78.a (Int.toNat 1) x78.c 1) (Int.toNat (x78.n : Nat) - Int.toNat 1) (x78.c - Int.toNat 1)) h100 fun s101 h102 => 
          (Fn Tryd.prog 13 #[.slice x95.a x95.n x95.c, .slice s101.a s101.n s101.c] h102 
          (fun v103 h105 => ∃ x104 : Bool, v103 = .bool x104 ∧ 
          R (.bool x104) h105))))))) 
          (R (.bool false) h97))) 
         (R (.bool false) h97)))))))))))))))))))))))))))))))))))))))))))))))
theorem vc6e (p0_1 : ByteArray) (p0_2 : Sl) (p0_3 : Sl) (p0_4 : Int) (p0_5 : Int) (p0_6 : Int) (p0_7 : Sl) (p0_8 : Sl) (p1 : Sl) (p2 : Sl) (h : Heap) (R : Value → Heap → Prop) : W6 p0_1 p0_2 p0_3 p0_4 p0_5 p0_6 p0_7 p0_8 p1 p2 h R = fnW Tryd.prog 6 .z #[.agg ⟨[.string p0_1, .slice p0_2.a p0_2.n p0_2.c, .slice p0_3.a p0_3.n p0_3.c, .int .i64 p0_4, .int .i64 p0_5, .int .i64 p0_6, .slice p0_7.a p0_7.n p0_7.c, .slice p0_8.a p0_8.n p0_8.c]⟩, .slice p1.a p1.n p1.c, .slice p2.a p2.n p2.c] h R := by kernel_rfl
theorem vc6 (p0_1 : ByteArray) (p0_2 : Sl) (p0_3 : Sl) (p0_4 : Int) (p0_5 : Int) (p0_6 : Int) (p0_7 : Sl) (p0_8 : Sl) (p1 : Sl) (p2 : Sl) (h : Heap) (R : Value → Heap → Prop) (H : W6 p0_1 p0_2 p0_3 p0_4 p0_5 p0_6 p0_7 p0_8 p1 p2 h R) : Fn Tryd.prog 6 #[.agg ⟨[.string p0_1, .slice p0_2.a p0_2.n p0_2.c, .slice p0_3.a p0_3.n p0_3.c, .int .i64 p0_4, .int .i64 p0_5, .int .i64 p0_6, .slice p0_7.a p0_7.n p0_7.c, .slice p0_8.a p0_8.n p0_8.c]⟩, .slice p1.a p1.n p1.c, .slice p2.a p2.n p2.c] h R := fnI (vc6e p0_1 p0_2 p0_3 p0_4 p0_5 p0_6 p0_7 p0_8 p1 p2 h R) H

/- farandole/farandolelaw42.ChartExchange -/
def W7 (p0_1 : ByteArray) (p0_2 : Sl) (p0_3 : Sl) (p0_4 : Int) (p0_5 : Int) (p0_6 : Int) (p0_7 : Sl) (p0_8 : Sl) (p1 : Sl) (p2_9 : Int) (p2_10 : Int) (h : Heap) (R : Value → Heap → Prop) : Prop :=
  (∀ h11 : Heap, h11 = h.push (.cells ⟨[.string p0_1, .slice p0_2.a p0_2.n p0_2.c, .slice p0_3.a p0_3.n p0_3.c, .int .i64 p0_4, .int .i64 p0_5, .int .i64 p0_6, .slice p0_7.a p0_7.n p0_7.c, .slice p0_8.a p0_8.n p0_8.c]⟩ 27) → 
  (∀ h12 : Heap, h12 = h11.push (.cells ⟨[.int .u8 p2_9, .int .u8 p2_10]⟩ 41) → 
  (Fn Tryd.prog 9 #[] h12 
  (fun v13 h15 => ∃ x14 : Bool, v13 = .bool x14 ∧ 
  (sB (!x14) 
   (R (.bool false) h15) 
   ((∃ x16 : ByteArray, ∃ x17 : Sl, ∃ x18 : Sl, ∃ x19 : Int, ∃ x20 : Int, ∃ x21 : Int, ∃ x22 : Sl, ∃ x23 : Sl, atC h15 ⟨h.size, 0, none⟩ [.string x16, .slice x17.a x17.n x17.c, .slice x18.a x18.n x18.c, .int .i64 x19, .int .i64 x20, .int .i64 x21, .slice x22.a x22.n x22.c, .slice x23.a x23.n x23.c] ∧ 
   (Fn Tryd.prog 10 #[.agg ⟨[.string x16, .slice x17.a x17.n x17.c, .slice x18.a x18.n x18.c, .int .i64 x19, .int .i64 x20, .int .i64 x21, .slice x22.a x22.n x22.c, .slice x23.a x23.n x23.c]⟩, .slice p1.a p1.n p1.c] h15 
   (fun v24 h26 => ∃ x25 : Bool, v24 = .bool x25 ∧ 
   (sB (!x25) 
    (R (.bool true) h26) 
    ((sB ((p1.n : Int) == 0) 
     (R (.bool true) h26) 
     (((0 ≤ (0 : Int) ∧ (0 : Int) < (2 : Nat)) ∧ 
     (∃ x27 : Int, hc h26 ⟨h11.size, 0 + Int.toNat 0 * 1, none⟩ = some (.int .u8 x27) ∧ 
     ((p1.n : Int) ≠ 0 ∧ ((0 ≤ (1 : Int) ∧ (1 : Int) < (2 : Nat)) ∧ 
     (∃ x28 : Int, hc h26 ⟨h11.size, 0 + Int.toNat 1 * 1, none⟩ = some (.int .u8 x28) ∧ 
     ((p1.n : Int) ≠ 0 ∧ (∀ h29 : Heap, h29 = h26.push (.cells ⟨[]⟩ 43) → 
     (App Tryd.prog 28 28 (.slice (some ⟨h26.size, 0, none⟩) 0 0) (.slice p1.a p1.n p1.c) h29 fun s30 h31 => 
     (NB s30.a fun b32 o33 => ((0 ≤ ((Int.tmod (IntKind.wrap .i64 x28) (p1.n : Int)) : Int) ∧ ((Int.tmod (IntKind.wrap .i64 x28) (p1.n : Int)) : Int) < (s30.n : Nat)) ∧ 
     (∃ x34 : Int, ∃ x35 : Int, ∃ x36 : Int, atC h31 ⟨b32, o33 + Int.toNat (Int.tmod (IntKind.wrap .i64 x28) (p1.n : Int)) * 3, none⟩ [.int .i64 x34, .int .i64 x35, .int .i64 x36] ∧ 
     (NB s30.a fun b37 o38 => ((0 ≤ ((Int.tmod (IntKind.wrap .i64 x27) (p1.n : Int)) : Int) ∧ ((Int.tmod (IntKind.wrap .i64 x27) (p1.n : Int)) : Int) < (s30.n : Nat)) ∧ 
     (∃ x39 : Int, ∃ x40 : Int, ∃ x41 : Int, atC h31 ⟨b37, o38 + Int.toNat (Int.tmod (IntKind.wrap .i64 x27) (p1.n : Int)) * 3, none⟩ [.int .i64 x39, .int .i64 x40, .int .i64 x41] ∧ 
     (NB s30.a fun b42 o43 => ((0 ≤ ((Int.tmod (IntKind.wrap .i64 x27) (p1.n : Int)) : Int) ∧ ((Int.tmod (IntKind.wrap .i64 x27) (p1.n : Int)) : Int) < (s30.n : Nat)) ∧ 
     (okAt h31 ⟨b42, o43 + Int.toNat (Int.tmod (IntKind.wrap .i64 x27) (p1.n : Int)) * 3, none⟩ 3 ∧ ∀ h44 : Heap, h44 = hputs h31 ⟨b42, o43 + Int.toNat (Int.tmod (IntKind.wrap .i64 x27) (p1.n : Int)) * 3, none⟩ 0 [.int .i64 x34, .int .i64 x35, .int .i64 x36] → 
     (NB s30.a fun b45 o46 => ((0 ≤ ((Int.tmod (IntKind.wrap .i64 x28) (p1.n : Int)) : Int) ∧ ((Int.tmod (IntKind.wrap .i64 x28) (p1.n : Int)) : Int) < (s30.n : Nat)) ∧ 
     (okAt h44 ⟨b45, o46 + Int.toNat (Int.tmod (IntKind.wrap .i64 x28) (p1.n : Int)) * 3, none⟩ 3 ∧ ∀ h47 : Heap, h47 = hputs h44 ⟨b45, o46 + Int.toNat (Int.tmod (IntKind.wrap .i64 x28) (p1.n : Int)) * 3, none⟩ 0 [.int .i64 x39, .int .i64 x40, .int .i64 x41] → 
     (∃ x48 : ByteArray, ∃ x49 : Sl, ∃ x50 : Sl, ∃ x51 : Int, ∃ x52 : Int, ∃ x53 : Int, ∃ x54 : Sl, ∃ x55 : Sl, atC h47 ⟨h.size, 0, none⟩ [.string x48, .slice x49.a x49.n x49.c, .slice x50.a x50.n x50.c, .int .i64 x51, .int .i64 x52, .int .i64 x53, .slice x54.a x54.n x54.c, .slice x55.a x55.n x55.c] ∧ 
     (Fn Tryd.prog 11 #[.agg ⟨[.string x48, .slice x49.a x49.n x49.c, .slice x50.a x50.n x50.c, .int .i64 x51, .int .i64 x52, .int .i64 x53, .slice x54.a x54.n x54.c, .slice x55.a x55.n x55.c]⟩, .slice p1.a p1.n p1.c] h47 
     (fun v56 h59 => ∃ x57 : Sl, ∃ x58 : Int, v56 = .tuple ⟨[.slice x57.a x57.n x57.c, .int .i64 x58]⟩ ∧ 
     (∃ x60 : ByteArray, ∃ x61 : Sl, ∃ x62 : Sl, ∃ x63 : Int, ∃ x64 : Int, ∃ x65 : Int, ∃ x66 : Sl, ∃ x67 : Sl, atC h59 ⟨h.size, 0, none⟩ [.string x60, .slice x61.a x61.n x61.c, .slice x62.a x62.n x62.c, .int .i64 x63, .int .i64 x64, .int .i64 x65, .slice x66.a x66.n x66.c, .slice x67.a x67.n x67.c] ∧ 
     (Fn Tryd.prog 11 #[.agg ⟨[.string x60, .slice x61.a x61.n x61.c, .slice x62.a x62.n x62.c, .int .i64 x63, .int .i64 x64, .int .i64 x65, .slice x66.a x66.n x66.c, .slice x67.a x67.n x67.c]⟩, .slice s30.a s30.n s30.c] h59 
     (fun v68 h71 => ∃ x69 : Sl, ∃ x70 : Int, v68 = .tuple ⟨[.slice x69.a x69.n x69.c, .int .i64 x70]⟩ ∧ 
     (sB (x58 != 0) 
      (R (.bool (x58 == x70)) h71) 
      ((sB (x70 != 0) 
       (R (.bool (x58 == x70)) h71) 
       ((sB ((x57.n : Int) != (IntKind.wrap .i64 ((p1.n : Int) + 1))) 
        (R (.bool false) h71) 
        ((NB x57.a fun b72 o73 => ((0 ≤ ((IntKind.wrap .i64 ((Int.tmod (IntKind.wrap .i64 x28) (p1.n : Int)) + 1)) : Int) ∧ ((IntKind.wrap .i64 ((Int.tmod (IntKind.wrap .i64 x28) (p1.n : Int)) + 1)) : Int) < (x57.n : Nat)) ∧ 
        (∃ x74 : ByteArray, hc h71 ⟨b72, o73 + Int.toNat (IntKind.wrap .i64 ((Int.tmod (IntKind.wrap .i64 x28) (p1.n : Int)) + 1)) * 1, none⟩ = some (.string x74) ∧ 
        (NB x57.a fun b75 o76 => ((0 ≤ ((IntKind.wrap .i64 ((Int.tmod (IntKind.wrap .i64 x27) (p1.n : Int)) + 1)) : Int) ∧ ((IntKind.wrap .i64 ((Int.tmod (IntKind.wrap .i64 x27) (p1.n : Int)) + 1)) : Int) < (x57.n : Nat)) ∧ 
        (∃ x77 : ByteArray, hc h71 ⟨b75, o76 + Int.toNat (IntKind.wrap .i64 ((Int.tmod (IntKind.wrap .i64 x27) (p1.n : Int)) + 1)) * 1, none⟩ = some (.string x77) ∧ 
        (NB x57.a fun b78 o79 => ((0 ≤ ((IntKind.wrap .i64 ((Int.tmod (IntKind.wrap .i64 x27) (p1.n : Int)) + 1)) : Int) ∧ ((IntKind.wrap .i64 ((Int.tmod (IntKind.wrap .i64 x27) (p1.n : Int)) + 1)) : Int) < (x57.n : Nat)) ∧ 
        (okAt h71 ⟨b78, o79 + Int.toNat (IntKind.wrap .i64 ((Int.tmod (IntKind.wrap .i64 x27) (p1.n : Int)) + 1)) * 1, none⟩ 1 ∧ ∀ h80 : Heap, h80 = hputs h71 ⟨b78, o79 + Int.toNat (IntKind.wrap .i64 ((Int.tmod (IntKind.wrap .i64 x27) (p1.n : Int)) + 1)) * 1, none⟩ 0 [.string x74] → 
        (NB x57.a fun b81 o82 => ((0 ≤ ((IntKind.wrap .i64 ((Int.tmod (IntKind.wrap .i64 x28) (p1.n : Int)) + 1)) : Int) ∧ ((IntKind.wrap .i64 ((Int.tmod (IntKind.wrap .i64 x28) (p1.n : Int)) + 1)) : Int) < (x57.n : Nat)) ∧ 
        (okAt h80 ⟨b81, o82 + Int.toNat (IntKind.wrap .i64 ((Int.tmod (IntKind.wrap .i64 x28) (p1.n : Int)) + 1)) * 1, none⟩ 1 ∧ ∀ h83 : Heap, h83 = hputs h80 ⟨b81, o82 + Int.toNat (IntKind.wrap .i64 ((Int.tmod (IntKind.wrap .i64 x28) (p1.n : Int)) + 1)) * 1, none⟩ 0 [.string x77] → 
        (Fn Tryd.prog 13 #[.slice x57.a x57.n x57.c, .slice x69.a x69.n x69.c] h83 
        (fun v84 h86 => ∃ x85 : Bool, v84 = .bool x85 ∧ 
        R (.bool x85) h86)))))))))))))))))))))))))))))))))))))))))))))))))))))))))))
theorem vc7e (p0_1 : ByteArray) (p0_2 : Sl) (p0_3 : Sl) (p0_4 : Int) (p0_5 : Int) (p0_6 : Int) (p0_7 : Sl) (p0_8 : Sl) (p1 : Sl) (p2_9 : Int) (p2_10 : Int) (h : Heap) (R : Value → Heap → Prop) : W7 p0_1 p0_2 p0_3 p0_4 p0_5 p0_6 p0_7 p0_8 p1 p2_9 p2_10 h R = fnW Tryd.prog 7 .z #[.agg ⟨[.string p0_1, .slice p0_2.a p0_2.n p0_2.c, .slice p0_3.a p0_3.n p0_3.c, .int .i64 p0_4, .int .i64 p0_5, .int .i64 p0_6, .slice p0_7.a p0_7.n p0_7.c, .slice p0_8.a p0_8.n p0_8.c]⟩, .slice p1.a p1.n p1.c, .agg ⟨[.int .u8 p2_9, .int .u8 p2_10]⟩] h R := by kernel_rfl
theorem vc7 (p0_1 : ByteArray) (p0_2 : Sl) (p0_3 : Sl) (p0_4 : Int) (p0_5 : Int) (p0_6 : Int) (p0_7 : Sl) (p0_8 : Sl) (p1 : Sl) (p2_9 : Int) (p2_10 : Int) (h : Heap) (R : Value → Heap → Prop) (H : W7 p0_1 p0_2 p0_3 p0_4 p0_5 p0_6 p0_7 p0_8 p1 p2_9 p2_10 h R) : Fn Tryd.prog 7 #[.agg ⟨[.string p0_1, .slice p0_2.a p0_2.n p0_2.c, .slice p0_3.a p0_3.n p0_3.c, .int .i64 p0_4, .int .i64 p0_5, .int .i64 p0_6, .slice p0_7.a p0_7.n p0_7.c, .slice p0_8.a p0_8.n p0_8.c]⟩, .slice p1.a p1.n p1.c, .agg ⟨[.int .u8 p2_9, .int .u8 p2_10]⟩] h R := fnI (vc7e p0_1 p0_2 p0_3 p0_4 p0_5 p0_6 p0_7 p0_8 p1 p2_9 p2_10 h R) H

/- farandole/farandolelaw42.ChartMarks
   loop rrrrrrlrborlbrrrrrlrb: heads_75:Int, bars_76:Int, k_77:Int
   loop rrrrrrlrb: i_50:Int -/
def W8 (p0_1 : ByteArray) (p0_2 : Sl) (p0_3 : Sl) (p0_4 : Int) (p0_5 : Int) (p0_6 : Int) (p0_7 : Sl) (p0_8 : Sl) (p1 : Sl) (h : Heap) (R : Value → Heap → Prop) : Prop :=
  (∀ h9 : Heap, h9 = h.push (.cells ⟨[.string p0_1, .slice p0_2.a p0_2.n p0_2.c, .slice p0_3.a p0_3.n p0_3.c, .int .i64 p0_4, .int .i64 p0_5, .int .i64 p0_6, .slice p0_7.a p0_7.n p0_7.c, .slice p0_8.a p0_8.n p0_8.c]⟩ 27) → 
  (Fn Tryd.prog 9 #[] h9 
  (fun v10 h12 => ∃ x11 : Bool, v10 = .bool x11 ∧ 
  (sB (!x11) 
   (R (.bool false) h12) 
   ((∃ x13 : ByteArray, ∃ x14 : Sl, ∃ x15 : Sl, ∃ x16 : Int, ∃ x17 : Int, ∃ x18 : Int, ∃ x19 : Sl, ∃ x20 : Sl, atC h12 ⟨h.size, 0, none⟩ [.string x13, .slice x14.a x14.n x14.c, .slice x15.a x15.n x15.c, .int .i64 x16, .int .i64 x17, .int .i64 x18, .slice x19.a x19.n x19.c, .slice x20.a x20.n x20.c] ∧ 
   (Fn Tryd.prog 10 #[.agg ⟨[.string x13, .slice x14.a x14.n x14.c, .slice x15.a x15.n x15.c, .int .i64 x16, .int .i64 x17, .int .i64 x18, .slice x19.a x19.n x19.c, .slice x20.a x20.n x20.c]⟩, .slice p1.a p1.n p1.c] h12 
   (fun v21 h23 => ∃ x22 : Bool, v21 = .bool x22 ∧ 
   (sB (!x22) 
    (R (.bool true) h23) 
    ((∃ x24 : ByteArray, ∃ x25 : Sl, ∃ x26 : Sl, ∃ x27 : Int, ∃ x28 : Int, ∃ x29 : Int, ∃ x30 : Sl, ∃ x31 : Sl, atC h23 ⟨h.size, 0, none⟩ [.string x24, .slice x25.a x25.n x25.c, .slice x26.a x26.n x26.c, .int .i64 x27, .int .i64 x28, .int .i64 x29, .slice x30.a x30.n x30.c, .slice x31.a x31.n x31.c] ∧ 
    (Fn Tryd.prog 11 #[.agg ⟨[.string x24, .slice x25.a x25.n x25.c, .slice x26.a x26.n x26.c, .int .i64 x27, .int .i64 x28, .int .i64 x29, .slice x30.a x30.n x30.c, .slice x31.a x31.n x31.c]⟩, .slice p1.a p1.n p1.c] h23 
    (fun v32 h35 => ∃ x33 : Sl, ∃ x34 : Int, v32 = .tuple ⟨[.slice x33.a x33.n x33.c, .int .i64 x34]⟩ ∧ 
    (sB (x34 != 0) 
     (R (.bool ((x33.n : Int) == 0)) h35) 
     ((∃ x36 : ByteArray, ∃ x37 : Sl, ∃ x38 : Sl, ∃ x39 : Int, ∃ x40 : Int, ∃ x41 : Int, ∃ x42 : Sl, ∃ x43 : Sl, atC h35 ⟨h.size, 0, none⟩ [.string x36, .slice x37.a x37.n x37.c, .slice x38.a x38.n x38.c, .int .i64 x39, .int .i64 x40, .int .i64 x41, .slice x42.a x42.n x42.c, .slice x43.a x43.n x43.c] ∧ 
     (Fn Tryd.prog 14 #[.agg ⟨[.string x36, .slice x37.a x37.n x37.c, .slice x38.a x38.n x38.c, .int .i64 x39, .int .i64 x40, .int .i64 x41, .slice x42.a x42.n x42.c, .slice x43.a x43.n x43.c]⟩, .slice p1.a p1.n p1.c] h35 
     (fun v44 h46 => ∃ x45 : Int, v44 = .int .i64 x45 ∧ 
     (∃ I47 : Int → Heap → Nat → Prop, (∃ m48, I47 0 h46 m48) ∧ 
     (∀ (_ : Env) (i_50 : Int) (h51 : Heap) (m49 : Nat), I47 i_50 h51 m49 → 
     (sB (decide (i_50 < (p1.n : Int))) 
       ((sB (decide ((IntKind.wrap .i64 (i_50 + 1)) < (x33.n : Int))) 
        ((NB p1.a fun b52 o53 => ((0 ≤ (i_50 : Int) ∧ (i_50 : Int) < (p1.n : Nat)) ∧ 
        (∃ x54 : Int, ∃ x55 : Int, ∃ x56 : Int, atC h51 ⟨b52, o53 + Int.toNat i_50 * 3, none⟩ [.int .i64 x54, .int .i64 x55, .int .i64 x56] ∧ 
        (NB x33.a fun b57 o58 => ((0 ≤ ((IntKind.wrap .i64 (i_50 + 1)) : Int) ∧ ((IntKind.wrap .i64 (i_50 + 1)) : Int) < (x33.n : Nat)) ∧ 
        (∃ x59 : ByteArray, hc h51 ⟨b57, o58 + Int.toNat (IntKind.wrap .i64 (i_50 + 1)) * 1, none⟩ = some (.string x59) ∧ 
        (∀ h60 : Heap, h60 = h51.push (.cells ⟨[.int .i64 0, .int .i64 0, .int .i64 0]⟩ 43) → 
        (Sm [⟨b57, o58 + Int.toNat (IntKind.wrap .i64 (i_50 + 1)) * 1, none⟩, ⟨b52, o53 + Int.toNat i_50 * 3, none⟩] h51 h60 ∧ 
        (okAt h60 ⟨h51.size, 0, none⟩ 3 ∧ ∀ h61 : Heap, h61 = hputs h60 ⟨h51.size, 0, none⟩ 0 [.int .i64 x54, .int .i64 x55, .int .i64 x56] → 
        (Sm [⟨b57, o58 + Int.toNat (IntKind.wrap .i64 (i_50 + 1)) * 1, none⟩] h60 h61 ∧ 
        (∃ x62 : Sl, hc h61 ⟨h.size, 2, none⟩ = some (.slice x62.a x62.n x62.c) ∧ 
        (∃ x63 : Int, hc h61 ⟨h51.size, 2, none⟩ = some (.int .i64 x63) ∧ 
        (NB x62.a fun b64 o65 => ((0 ≤ (x63 : Int) ∧ (x63 : Int) < (x62.n : Nat)) ∧ 
        (∃ x66 : ByteArray, hc h61 ⟨b64, o65 + Int.toNat x63 * 5, none⟩ = some (.string x66) ∧ 
        (∃ x67 : Int, hc h61 ⟨h51.size, 0, none⟩ = some (.int .i64 x67) ∧ 
        (∃ x68 : Int, hc h61 ⟨h51.size, 1, none⟩ = some (.int .i64 x68) ∧ 
        (∃ x69 : Int, hc h61 ⟨h51.size, 0, none⟩ = some (.int .i64 x69) ∧ 
        (∃ x70 : Int, hc h61 ⟨h51.size, 1, none⟩ = some (.int .i64 x70) ∧ 
        (∃ x71 : Sl, hc h61 ⟨h.size, 1, none⟩ = some (.slice x71.a x71.n x71.c) ∧ 
        (sB ((ByteArray.size x59 : Int) != (IntKind.wrap .i64 ((IntKind.wrap .i64 ((IntKind.wrap .i64 ((x71.n : Int) - 1)) * x45)) + 1))) 
         (R (.bool false) h61) 
         ((((0 : Int) ≤ ((IntKind.wrap .i64 ((IntKind.wrap .i64 ((imin x67 x68) * x45)) + 2)) : Int) ∧ ((IntKind.wrap .i64 ((IntKind.wrap .i64 ((imin x67 x68) * x45)) + 2)) : Int) ≤ ((IntKind.wrap .i64 ((IntKind.wrap .i64 ((IntKind.wrap .i64 ((imin x67 x68) * x45)) + 2)) + (ByteArray.size x66 : Int))) : Int) ∧ ((IntKind.wrap .i64 ((IntKind.wrap .i64 ((IntKind.wrap .i64 ((imin x67 x68) * x45)) + 2)) + (ByteArray.size x66 : Int))) : Int) ≤ (ByteArray.size x59 : Nat)) ∧ 
         (sB (!((ByteArray.toList (ByteArray.extract x59 (Int.toNat (IntKind.wrap .i64 ((IntKind.wrap .i64 ((imin x67 x68) * x45)) + 2))) (Int.toNat (IntKind.wrap .i64 ((IntKind.wrap .i64 ((IntKind.wrap .i64 ((imin x67 x68) * x45)) + 2)) + (ByteArray.size x66 : Int)))))) == (ByteArray.toList x66))) 
          (R (.bool false) h61) 
          ((∃ I72 : Int → Int → Int → Heap → Nat → Prop, (∃ m73, I72 0 0 0 h61 m73) ∧ 
          (∀ (_ : Env) (heads_75 : Int) (bars_76 : Int) (k_77 : Int) (h78 : Heap) (m74 : Nat), I72 heads_75 bars_76 k_77 h78 m74 → 
          (sB (decide (k_77 < (ByteArray.size x59 : Int))) 
            (((0 ≤ (k_77 : Int) ∧ (k_77 : Int) < (ByteArray.size x59 : Nat)) ∧ 
            (sB ((byteAt x59 (Int.toNat k_77) : Int) == 60) 
             (((0 ≤ (k_77 : Int) ∧ (k_77 : Int) < (ByteArray.size x59 : Nat)) ∧ 
             (sB ((byteAt x59 (Int.toNat k_77) : Int) == 124) 
              ((∃ m79, m79 < m74 ∧ I72 (IntKind.wrap .i64 (heads_75 + 1)) (IntKind.wrap .i64 (bars_76 + 1)) (IntKind.wrap .i64 (k_77 + 1)) h78 m79)) 
              ((∃ m80, m80 < m74 ∧ I72 (IntKind.wrap .i64 (heads_75 + 1)) bars_76 (IntKind.wrap .i64 (k_77 + 1)) h78 m80))))) 
             (((0 ≤ (k_77 : Int) ∧ (k_77 : Int) < (ByteArray.size x59 : Nat)) ∧ 
             (sB ((byteAt x59 (Int.toNat k_77) : Int) == 62) 
              (((0 ≤ (k_77 : Int) ∧ (k_77 : Int) < (ByteArray.size x59 : Nat)) ∧ 
              (sB ((byteAt x59 (Int.toNat k_77) : Int) == 124) 
               ((∃ m81, m81 < m74 ∧ I72 (IntKind.wrap .i64 (heads_75 + 1)) (IntKind.wrap .i64 (bars_76 + 1)) (IntKind.wrap .i64 (k_77 + 1)) h78 m81)) 
               ((∃ m82, m82 < m74 ∧ I72 (IntKind.wrap .i64 (heads_75 + 1)) bars_76 (IntKind.wrap .i64 (k_77 + 1)) h78 m82))))) 
              (((0 ≤ (k_77 : Int) ∧ (k_77 : Int) < (ByteArray.size x59 : Nat)) ∧ 
              (sB ((byteAt x59 (Int.toNat k_77) : Int) == 124) 
               ((∃ m83, m83 < m74 ∧ I72 heads_75 (IntKind.wrap .i64 (bars_76 + 1)) (IntKind.wrap .i64 (k_77 + 1)) h78 m83)) 
               ((∃ m84, m84 < m74 ∧ I72 heads_75 bars_76 (IntKind.wrap .i64 (k_77 + 1)) h78 m84))))))))))) 
            ((sB (heads_75 != 1) 
             (R (.bool false) h78) 
             ((∃ x85 : Sl, hc h78 ⟨h.size, 1, none⟩ = some (.slice x85.a x85.n x85.c) ∧ 
             (sB (bars_76 != (IntKind.wrap .i64 ((x85.n : Int) - (IntKind.wrap .i64 ((IntKind.wrap .i64 ((imax x69 x70) - (imin x67 x68))) - 1))))) 
              (R (.bool false) h78) 
              ((∃ x86 : Int, hc h78 ⟨h51.size, 1, none⟩ = some (.int .i64 x86) ∧ 
              (∃ x87 : Int, hc h78 ⟨h51.size, 0, none⟩ = some (.int .i64 x87) ∧ 
              (sB (decide (x86 > x87)) 
               (((0 ≤ ((IntKind.wrap .i64 ((IntKind.wrap .i64 ((imax x69 x70) * x45)) - 1)) : Int) ∧ ((IntKind.wrap .i64 ((IntKind.wrap .i64 ((imax x69 x70) * x45)) - 1)) : Int) < (ByteArray.size x59 : Nat)) ∧ 
               (sB ((byteAt x59 (Int.toNat (IntKind.wrap .i64 ((IntKind.wrap .i64 ((imax x69 x70) * x45)) - 1))) : Int) != 62) 
                (R (.bool false) h78) 
                ((∃ x88 : Int, hc h78 ⟨h51.size, 1, none⟩ = some (.int .i64 x88) ∧ 
                (∃ x89 : Int, hc h78 ⟨h51.size, 0, none⟩ = some (.int .i64 x89) ∧ 
                (sB (decide (x88 < x89)) 
                 (((0 ≤ ((IntKind.wrap .i64 ((IntKind.wrap .i64 ((imin x67 x68) * x45)) + 1)) : Int) ∧ ((IntKind.wrap .i64 ((IntKind.wrap .i64 ((imin x67 x68) * x45)) + 1)) : Int) < (ByteArray.size x59 : Nat)) ∧ 
                 (sB ((byteAt x59 (Int.toNat (IntKind.wrap .i64 ((IntKind.wrap .i64 ((imin x67 x68) * x45)) + 1))) : Int) != 60) 
                  (R (.bool false) h78) 
                  ((∃ m90, m90 < m49 ∧ I47 (IntKind.wrap .i64 (i_50 + 1)) h78 m90))))) 
                 ((∃ m91, m91 < m49 ∧ I47 (IntKind.wrap .i64 (i_50 + 1)) h78 m91))))))))) 
               ((∃ x92 : Int, hc h78 ⟨h51.size, 1, none⟩ = some (.int .i64 x92) ∧ 
               (∃ x93 : Int, hc h78 ⟨h51.size, 0, none⟩ = some (.int .i64 x93) ∧ 
               (sB (decide (x92 < x93)) 
                (((0 ≤ ((IntKind.wrap .i64 ((IntKind.wrap .i64 ((imin x67 x68) * x45)) + 1)) : Int) ∧ ((IntKind.wrap .i64 ((IntKind.wrap .i64 ((imin x67 x68) * x45)) + 1)) : Int) < (ByteArray.size x59 : Nat)) ∧ 
                (sB ((byteAt x59 (Int.toNat (IntKind.wrap .i64 ((IntKind.wrap .i64 ((imin x67 x68) * x45)) + 1))) : Int) != 60) 
                 (R (.bool false) h78) 
                 ((∃ m94, m94 < m49 ∧ I47 (IntKind.wrap .i64 (i_50 + 1)) h78 m94))))) 
                ((∃ m95, m95 < m49 ∧ I47 (IntKind.wrap .i64 (i_50 + 1)) h78 m95)))))))))))))))))))))))))))))))))))))))))))) 
        (R (.bool ((x33.n : Int) == (IntKind.wrap .i64 ((p1.n : Int) + 1)))) h51))) 
       (R (.bool ((x33.n : Int) == (IntKind.wrap .i64 ((p1.n : Int) + 1)))) h51))))))))))))))))))))))
theorem vc8e (p0_1 : ByteArray) (p0_2 : Sl) (p0_3 : Sl) (p0_4 : Int) (p0_5 : Int) (p0_6 : Int) (p0_7 : Sl) (p0_8 : Sl) (p1 : Sl) (h : Heap) (R : Value → Heap → Prop) : W8 p0_1 p0_2 p0_3 p0_4 p0_5 p0_6 p0_7 p0_8 p1 h R = fnW Tryd.prog 8 (.s .z (.s .z (.s .z (.s .z (.s .z (.s .z (.s (.s .z (.b (.l [(8, .one (.int .i64))] (.s .z (.s (.b (.s .z (.s .z (.s .z (.s .z (.s .z (.s (.s .z (.b (.l [(14, .one (.int .i64)), (15, .one (.int .i64)), (16, .one (.int .i64))] .z))) .z))))))) .z))))) .z))))))) #[.agg ⟨[.string p0_1, .slice p0_2.a p0_2.n p0_2.c, .slice p0_3.a p0_3.n p0_3.c, .int .i64 p0_4, .int .i64 p0_5, .int .i64 p0_6, .slice p0_7.a p0_7.n p0_7.c, .slice p0_8.a p0_8.n p0_8.c]⟩, .slice p1.a p1.n p1.c] h R := by kernel_rfl
theorem vc8 (p0_1 : ByteArray) (p0_2 : Sl) (p0_3 : Sl) (p0_4 : Int) (p0_5 : Int) (p0_6 : Int) (p0_7 : Sl) (p0_8 : Sl) (p1 : Sl) (h : Heap) (R : Value → Heap → Prop) (H : W8 p0_1 p0_2 p0_3 p0_4 p0_5 p0_6 p0_7 p0_8 p1 h R) : Fn Tryd.prog 8 #[.agg ⟨[.string p0_1, .slice p0_2.a p0_2.n p0_2.c, .slice p0_3.a p0_3.n p0_3.c, .int .i64 p0_4, .int .i64 p0_5, .int .i64 p0_6, .slice p0_7.a p0_7.n p0_7.c, .slice p0_8.a p0_8.n p0_8.c]⟩, .slice p1.a p1.n p1.c] h R := fnI (vc8e p0_1 p0_2 p0_3 p0_4 p0_5 p0_6 p0_7 p0_8 p1 h R) H

/- farandole/farandolelaw42.awake -/
def W9  (h : Heap) (R : Value → Heap → Prop) : Prop :=
  (∀ h1 : Heap, h1 = h.push (.cells ⟨[.string ⟨#[97]⟩, .string ⟨#[98]⟩]⟩ 9) → 
  (∀ h2 : Heap, h2 = h1.push (.cells ⟨[.string ⟨#[120]⟩, .slice none 0 0, .int .i64 0, .slice none 0 0, .slice none 0 0, .string ⟨#[121]⟩, .slice none 0 0, .int .i64 0, .slice none 0 0, .slice none 0 0]⟩ 51) → 
  (∀ h3 : Heap, h3 = h2.push (.cells ⟨[.string ⟨#[]⟩, .slice none 0 0, .slice none 0 0, .int .i64 0, .int .i64 0, .int .i64 0, .slice none 0 0, .slice none 0 0]⟩ 27) → 
  (okAt h3 ⟨h2.size, 0, none⟩ 8 ∧ ∀ h4 : Heap, h4 = hputs h3 ⟨h2.size, 0, none⟩ 0 [.string ⟨#[]⟩, .slice (some ⟨h.size, 0, none⟩) 2 2, .slice (some ⟨h1.size, 0, none⟩) 2 2, .int .i64 0, .int .i64 0, .int .i64 0, .slice none 0 0, .slice none 0 0] → 
  (∀ h5 : Heap, h5 = h4.push (.cells ⟨[.int .i64 0, .int .i64 1, .int .i64 0, .int .i64 1, .int .i64 0, .int .i64 1]⟩ 43) → 
  (∃ x6 : ByteArray, ∃ x7 : Sl, ∃ x8 : Sl, ∃ x9 : Int, ∃ x10 : Int, ∃ x11 : Int, ∃ x12 : Sl, ∃ x13 : Sl, atC h5 ⟨h2.size, 0, none⟩ [.string x6, .slice x7.a x7.n x7.c, .slice x8.a x8.n x8.c, .int .i64 x9, .int .i64 x10, .int .i64 x11, .slice x12.a x12.n x12.c, .slice x13.a x13.n x13.c] ∧ 
  (Fn Tryd.prog 11 #[.agg ⟨[.string x6, .slice x7.a x7.n x7.c, .slice x8.a x8.n x8.c, .int .i64 x9, .int .i64 x10, .int .i64 x11, .slice x12.a x12.n x12.c, .slice x13.a x13.n x13.c]⟩, .slice (some ⟨h4.size, 0, none⟩) 2 2] h5 
  (fun v14 h17 => ∃ x15 : Sl, ∃ x16 : Int, v14 = .tuple ⟨[.slice x15.a x15.n x15.c, .int .i64 x16]⟩ ∧ 
  (∃ x18 : ByteArray, ∃ x19 : Sl, ∃ x20 : Sl, ∃ x21 : Int, ∃ x22 : Int, ∃ x23 : Int, ∃ x24 : Sl, ∃ x25 : Sl, atC h17 ⟨h2.size, 0, none⟩ [.string x18, .slice x19.a x19.n x19.c, .slice x20.a x20.n x20.c, .int .i64 x21, .int .i64 x22, .int .i64 x23, .slice x24.a x24.n x24.c, .slice x25.a x25.n x25.c] ∧ 
  (Fn Tryd.prog 16 #[.agg ⟨[.string x18, .slice x19.a x19.n x19.c, .slice x20.a x20.n x20.c, .int .i64 x21, .int .i64 x22, .int .i64 x23, .slice x24.a x24.n x24.c, .slice x25.a x25.n x25.c]⟩, .slice x15.a x15.n x15.c] h17 
  (fun v26 h29 => ∃ x27 : Sl, ∃ x28 : Int, v26 = .tuple ⟨[.slice x27.a x27.n x27.c, .int .i64 x28]⟩ ∧ 
  (sB (x16 == 0) 
   ((sB (x28 == 0) 
    ((∀ h30 : Heap, h30 = h29.push (.cells ⟨[.string ⟨#[97, 32, 32, 32, 32, 98]⟩, .string ⟨#[124, 45, 120, 45, 62, 124]⟩, .string ⟨#[124, 60, 121, 45, 45, 124]⟩]⟩ 9) → 
    (Fn Tryd.prog 13 #[.slice x15.a x15.n x15.c, .slice (some ⟨h29.size, 0, none⟩) 3 3] h30 
    (fun v31 h33 => ∃ x32 : Bool, v31 = .bool x32 ∧ 
    (sB x32 
     ((Fn Tryd.prog 18 #[.slice x27.a x27.n x27.c, .slice (some ⟨h4.size, 0, none⟩) 2 2] h33 
     (fun v34 h36 => ∃ x35 : Bool, v34 = .bool x35 ∧ 
     (sB x35 
      ((∃ x37 : ByteArray, ∃ x38 : Sl, ∃ x39 : Sl, ∃ x40 : Int, ∃ x41 : Int, ∃ x42 : Int, ∃ x43 : Sl, ∃ x44 : Sl, atC h36 ⟨h2.size, 0, none⟩ [.string x37, .slice x38.a x38.n x38.c, .slice x39.a x39.n x39.c, .int .i64 x40, .int .i64 x41, .int .i64 x42, .slice x43.a x43.n x43.c, .slice x44.a x44.n x44.c] ∧ 
      (Fn Tryd.prog 14 #[.agg ⟨[.string x37, .slice x38.a x38.n x38.c, .slice x39.a x39.n x39.c, .int .i64 x40, .int .i64 x41, .int .i64 x42, .slice x43.a x43.n x43.c, .slice x44.a x44.n x44.c]⟩, .slice (some ⟨h4.size, 0, none⟩) 2 2] h36 
      (fun v45 h47 => ∃ x46 : Int, v45 = .int .i64 x46 ∧ 
      R (.bool (x46 == 5)) h47)))) 
      (R (.bool false) h36))))) 
     (R (.bool false) h33)))))) 
    (R (.bool false) h29))) 
   (R (.bool false) h29)))))))))))))
theorem vc9e  (h : Heap) (R : Value → Heap → Prop) : W9  h R = fnW Tryd.prog 9 .z #[] h R := by kernel_rfl
theorem vc9  (h : Heap) (R : Value → Heap → Prop) (H : W9  h R) : Fn Tryd.prog 9 #[] h R := fnI (vc9e  h R) H

/- farandole/farandoleref42.Few
   loop rrlrb: i_24:Int
   loop rlrb: i_13:Int -/
def W10 (p0_1 : ByteArray) (p0_2 : Sl) (p0_3 : Sl) (p0_4 : Int) (p0_5 : Int) (p0_6 : Int) (p0_7 : Sl) (p0_8 : Sl) (p1 : Sl) (h : Heap) (R : Value → Heap → Prop) : Prop :=
  (∀ h9 : Heap, h9 = h.push (.cells ⟨[.string p0_1, .slice p0_2.a p0_2.n p0_2.c, .slice p0_3.a p0_3.n p0_3.c, .int .i64 p0_4, .int .i64 p0_5, .int .i64 p0_6, .slice p0_7.a p0_7.n p0_7.c, .slice p0_8.a p0_8.n p0_8.c]⟩ 27) → 
  (∃ I10 : Int → Heap → Nat → Prop, (∃ m11, I10 0 h9 m11) ∧ 
  (∀ (_ : Env) (i_13 : Int) (h14 : Heap) (m12 : Nat), I10 i_13 h14 m12 → 
  (∃ x15 : Sl, hc h14 ⟨h.size, 1, none⟩ = some (.slice x15.a x15.n x15.c) ∧ 
   (sB (decide (i_13 < (x15.n : Int))) 
    ((∃ x16 : Sl, hc h14 ⟨h.size, 1, none⟩ = some (.slice x16.a x16.n x16.c) ∧ 
    (NB x16.a fun b17 o18 => ((0 ≤ (i_13 : Int) ∧ (i_13 : Int) < (x16.n : Nat)) ∧ 
    (∃ x19 : ByteArray, hc h14 ⟨b17, o18 + Int.toNat i_13 * 1, none⟩ = some (.string x19) ∧ 
    (sB (decide ((ByteArray.size x19 : Int) > 100)) 
     (R (.bool false) h14) 
     ((∃ m20, m20 < m12 ∧ I10 (IntKind.wrap .i64 (i_13 + 1)) h14 m20)))))))) 
    ((∃ I21 : Int → Heap → Nat → Prop, (∃ m22, I21 0 h14 m22) ∧ 
    (∀ (_ : Env) (i_24 : Int) (h25 : Heap) (m23 : Nat), I21 i_24 h25 m23 → 
    (∃ x26 : Sl, hc h25 ⟨h.size, 2, none⟩ = some (.slice x26.a x26.n x26.c) ∧ 
     (sB (decide (i_24 < (x26.n : Int))) 
      ((∃ x27 : Sl, hc h25 ⟨h.size, 2, none⟩ = some (.slice x27.a x27.n x27.c) ∧ 
      (NB x27.a fun b28 o29 => ((0 ≤ (i_24 : Int) ∧ (i_24 : Int) < (x27.n : Nat)) ∧ 
      (∃ x30 : ByteArray, hc h25 ⟨b28, o29 + Int.toNat i_24 * 5, none⟩ = some (.string x30) ∧ 
      (sB (decide ((ByteArray.size x30 : Int) > 100)) 
       (R (.bool false) h25) 
       ((∃ m31, m31 < m23 ∧ I21 (IntKind.wrap .i64 (i_24 + 1)) h25 m31)))))))) 
      ((∃ x32 : Sl, hc h25 ⟨h.size, 1, none⟩ = some (.slice x32.a x32.n x32.c) ∧ 
      (sB (decide ((x32.n : Int) ≤ 10)) 
       ((∃ x33 : Sl, hc h25 ⟨h.size, 2, none⟩ = some (.slice x33.a x33.n x33.c) ∧ 
       (sB (decide ((x33.n : Int) ≤ 10)) 
        (R (.bool (decide ((p1.n : Int) ≤ 12))) h25) 
        (R (.bool false) h25)))) 
       (R (.bool false) h25))))))))))))))
theorem vc10e (p0_1 : ByteArray) (p0_2 : Sl) (p0_3 : Sl) (p0_4 : Int) (p0_5 : Int) (p0_6 : Int) (p0_7 : Sl) (p0_8 : Sl) (p1 : Sl) (h : Heap) (R : Value → Heap → Prop) : W10 p0_1 p0_2 p0_3 p0_4 p0_5 p0_6 p0_7 p0_8 p1 h R = fnW Tryd.prog 10 (.s .z (.s (.s .z (.b (.l [(5, .one (.int .i64))] .z))) (.s (.s .z (.b (.l [(6, .one (.int .i64))] .z))) .z))) #[.agg ⟨[.string p0_1, .slice p0_2.a p0_2.n p0_2.c, .slice p0_3.a p0_3.n p0_3.c, .int .i64 p0_4, .int .i64 p0_5, .int .i64 p0_6, .slice p0_7.a p0_7.n p0_7.c, .slice p0_8.a p0_8.n p0_8.c]⟩, .slice p1.a p1.n p1.c] h R := by kernel_rfl
theorem vc10 (p0_1 : ByteArray) (p0_2 : Sl) (p0_3 : Sl) (p0_4 : Int) (p0_5 : Int) (p0_6 : Int) (p0_7 : Sl) (p0_8 : Sl) (p1 : Sl) (h : Heap) (R : Value → Heap → Prop) (H : W10 p0_1 p0_2 p0_3 p0_4 p0_5 p0_6 p0_7 p0_8 p1 h R) : Fn Tryd.prog 10 #[.agg ⟨[.string p0_1, .slice p0_2.a p0_2.n p0_2.c, .slice p0_3.a p0_3.n p0_3.c, .int .i64 p0_4, .int .i64 p0_5, .int .i64 p0_6, .slice p0_7.a p0_7.n p0_7.c, .slice p0_8.a p0_8.n p0_8.c]⟩, .slice p1.a p1.n p1.c] h R := fnI (vc10e p0_1 p0_2 p0_3 p0_4 p0_5 p0_6 p0_7 p0_8 p1 h R) H

/- farandole/chart.Draw
   loop rrrrlrb: out_40:Sl, x_41:Int -/
def W11 (p0_1 : ByteArray) (p0_2 : Sl) (p0_3 : Sl) (p0_4 : Int) (p0_5 : Int) (p0_6 : Int) (p0_7 : Sl) (p0_8 : Sl) (p1 : Sl) (h : Heap) (R : Value → Heap → Prop) : Prop :=
  (∀ h9 : Heap, h9 = h.push (.cells ⟨[.string p0_1, .slice p0_2.a p0_2.n p0_2.c, .slice p0_3.a p0_3.n p0_3.c, .int .i64 p0_4, .int .i64 p0_5, .int .i64 p0_6, .slice p0_7.a p0_7.n p0_7.c, .slice p0_8.a p0_8.n p0_8.c]⟩ 27) → 
  (∃ x10 : ByteArray, ∃ x11 : Sl, ∃ x12 : Sl, ∃ x13 : Int, ∃ x14 : Int, ∃ x15 : Int, ∃ x16 : Sl, ∃ x17 : Sl, atC h9 ⟨h.size, 0, none⟩ [.string x10, .slice x11.a x11.n x11.c, .slice x12.a x12.n x12.c, .int .i64 x13, .int .i64 x14, .int .i64 x15, .slice x16.a x16.n x16.c, .slice x17.a x17.n x17.c] ∧ 
  (Fn Tryd.prog 19 #[.agg ⟨[.string x10, .slice x11.a x11.n x11.c, .slice x12.a x12.n x12.c, .int .i64 x13, .int .i64 x14, .int .i64 x15, .slice x16.a x16.n x16.c, .slice x17.a x17.n x17.c]⟩, .slice p1.a p1.n p1.c] h9 
  (fun v18 h20 => ∃ x19 : Bool, v18 = .bool x19 ∧ 
  (sB (!x19) 
   (R (.tuple ⟨[.slice none 0 0, .int .i64 1]⟩) h20) 
   ((sB (decide ((p1.n : Int) > 1000)) 
    (R (.tuple ⟨[.slice none 0 0, .int .i64 1]⟩) h20) 
    ((∃ x21 : ByteArray, ∃ x22 : Sl, ∃ x23 : Sl, ∃ x24 : Int, ∃ x25 : Int, ∃ x26 : Int, ∃ x27 : Sl, ∃ x28 : Sl, atC h20 ⟨h.size, 0, none⟩ [.string x21, .slice x22.a x22.n x22.c, .slice x23.a x23.n x23.c, .int .i64 x24, .int .i64 x25, .int .i64 x26, .slice x27.a x27.n x27.c, .slice x28.a x28.n x28.c] ∧ 
    (Fn Tryd.prog 14 #[.agg ⟨[.string x21, .slice x22.a x22.n x22.c, .slice x23.a x23.n x23.c, .int .i64 x24, .int .i64 x25, .int .i64 x26, .slice x27.a x27.n x27.c, .slice x28.a x28.n x28.c]⟩, .slice p1.a p1.n p1.c] h20 
    (fun v29 h31 => ∃ x30 : Int, v29 = .int .i64 x30 ∧ 
    (∃ x32 : Sl, hc h31 ⟨h.size, 1, none⟩ = some (.slice x32.a x32.n x32.c) ∧ 
    (Fn Tryd.prog 20 #[.slice x32.a x32.n x32.c, .int .i64 x30] h31 
    (fun v33 h35 => ∃ x34 : ByteArray, v33 = .string x34 ∧ 
    (∀ h36 : Heap, h36 = h35.push (.cells ⟨[.string x34]⟩ 9) → 
    (∃ I37 : Sl → Int → Heap → Nat → Prop, (∃ m38, I37 ⟨(some ⟨h35.size, 0, none⟩), 1, 1⟩ 0 h36 m38) ∧ 
    (∀ (_ : Env) (out_40 : Sl) (x_41 : Int) (h42 : Heap) (m39 : Nat), I37 out_40 x_41 h42 m39 → 
    (sB (decide (x_41 < (p1.n : Int))) 
      ((NB p1.a fun b43 o44 => ((0 ≤ (x_41 : Int) ∧ (x_41 : Int) < (p1.n : Nat)) ∧ 
      (∃ x45 : Int, ∃ x46 : Int, ∃ x47 : Int, atC h42 ⟨b43, o44 + Int.toNat x_41 * 3, none⟩ [.int .i64 x45, .int .i64 x46, .int .i64 x47] ∧ 
      (∀ h48 : Heap, h48 = h42.push (.cells ⟨[.int .i64 0, .int .i64 0, .int .i64 0]⟩ 43) → 
      (okAt h48 ⟨h42.size, 0, none⟩ 3 ∧ ∀ h49 : Heap, h49 = hputs h48 ⟨h42.size, 0, none⟩ 0 [.int .i64 x45, .int .i64 x46, .int .i64 x47] → 
      (∃ x50 : ByteArray, ∃ x51 : Sl, ∃ x52 : Sl, ∃ x53 : Int, ∃ x54 : Int, ∃ x55 : Int, ∃ x56 : Sl, ∃ x57 : Sl, atC h49 ⟨h.size, 0, none⟩ [.string x50, .slice x51.a x51.n x51.c, .slice x52.a x52.n x52.c, .int .i64 x53, .int .i64 x54, .int .i64 x55, .slice x56.a x56.n x56.c, .slice x57.a x57.n x57.c] ∧ 
      (∃ x58 : Int, ∃ x59 : Int, ∃ x60 : Int, atC h49 ⟨h42.size, 0, none⟩ [.int .i64 x58, .int .i64 x59, .int .i64 x60] ∧ 
      (Fn Tryd.prog 21 #[.agg ⟨[.string x50, .slice x51.a x51.n x51.c, .slice x52.a x52.n x52.c, .int .i64 x53, .int .i64 x54, .int .i64 x55, .slice x56.a x56.n x56.c, .slice x57.a x57.n x57.c]⟩, .int .i64 x30, .agg ⟨[.int .i64 x58, .int .i64 x59, .int .i64 x60]⟩] h49 
      (fun v61 h63 => ∃ x62 : ByteArray, v61 = .string x62 ∧ 
      (∀ h64 : Heap, h64 = h63.push (.cells ⟨[.string x62]⟩ 9) → 
      (App Tryd.prog 22 22 (.slice out_40.a out_40.n out_40.c) (.slice (some ⟨h63.size, 0, none⟩) 1 1) h64 fun s65 h66 => 
      (∃ m67, m67 < m39 ∧ I37 s65 (IntKind.wrap .i64 (x_41 + 1)) h66 m67))))))))))))) 
      (R (.tuple ⟨[.slice out_40.a out_40.n out_40.c, .int .i64 0]⟩) h42)))))))))))))))))))
theorem vc11e (p0_1 : ByteArray) (p0_2 : Sl) (p0_3 : Sl) (p0_4 : Int) (p0_5 : Int) (p0_6 : Int) (p0_7 : Sl) (p0_8 : Sl) (p1 : Sl) (h : Heap) (R : Value → Heap → Prop) : W11 p0_1 p0_2 p0_3 p0_4 p0_5 p0_6 p0_7 p0_8 p1 h R = fnW Tryd.prog 11 (.s .z (.s .z (.s .z (.s .z (.s (.s .z (.b (.l [(7, .one (.slice)), (29, .one (.int .i64))] .z))) .z))))) #[.agg ⟨[.string p0_1, .slice p0_2.a p0_2.n p0_2.c, .slice p0_3.a p0_3.n p0_3.c, .int .i64 p0_4, .int .i64 p0_5, .int .i64 p0_6, .slice p0_7.a p0_7.n p0_7.c, .slice p0_8.a p0_8.n p0_8.c]⟩, .slice p1.a p1.n p1.c] h R := by kernel_rfl
theorem vc11 (p0_1 : ByteArray) (p0_2 : Sl) (p0_3 : Sl) (p0_4 : Int) (p0_5 : Int) (p0_6 : Int) (p0_7 : Sl) (p0_8 : Sl) (p1 : Sl) (h : Heap) (R : Value → Heap → Prop) (H : W11 p0_1 p0_2 p0_3 p0_4 p0_5 p0_6 p0_7 p0_8 p1 h R) : Fn Tryd.prog 11 #[.agg ⟨[.string p0_1, .slice p0_2.a p0_2.n p0_2.c, .slice p0_3.a p0_3.n p0_3.c, .int .i64 p0_4, .int .i64 p0_5, .int .i64 p0_6, .slice p0_7.a p0_7.n p0_7.c, .slice p0_8.a p0_8.n p0_8.c]⟩, .slice p1.a p1.n p1.c] h R := fnI (vc11e p0_1 p0_2 p0_3 p0_4 p0_5 p0_6 p0_7 p0_8 p1 h R) H

/- farandole/farandoleref42.Draw
   loop rrrrlrborlblb: head_42:ByteArray
   loop rrrrrrlrb: out_54:Sl, i_55:Int
   loop rrrrlrb: head_35:ByteArray, i_36:Int -/
def W12 (p0_1 : ByteArray) (p0_2 : Sl) (p0_3 : Sl) (p0_4 : Int) (p0_5 : Int) (p0_6 : Int) (p0_7 : Sl) (p0_8 : Sl) (p1 : Sl) (h : Heap) (R : Value → Heap → Prop) : Prop :=
  (∀ h9 : Heap, h9 = h.push (.cells ⟨[.string p0_1, .slice p0_2.a p0_2.n p0_2.c, .slice p0_3.a p0_3.n p0_3.c, .int .i64 p0_4, .int .i64 p0_5, .int .i64 p0_6, .slice p0_7.a p0_7.n p0_7.c, .slice p0_8.a p0_8.n p0_8.c]⟩ 27) → 
  (∃ x10 : ByteArray, ∃ x11 : Sl, ∃ x12 : Sl, ∃ x13 : Int, ∃ x14 : Int, ∃ x15 : Int, ∃ x16 : Sl, ∃ x17 : Sl, atC h9 ⟨h.size, 0, none⟩ [.string x10, .slice x11.a x11.n x11.c, .slice x12.a x12.n x12.c, .int .i64 x13, .int .i64 x14, .int .i64 x15, .slice x16.a x16.n x16.c, .slice x17.a x17.n x17.c] ∧ 
  (Fn Tryd.prog 22 #[.agg ⟨[.string x10, .slice x11.a x11.n x11.c, .slice x12.a x12.n x12.c, .int .i64 x13, .int .i64 x14, .int .i64 x15, .slice x16.a x16.n x16.c, .slice x17.a x17.n x17.c]⟩, .slice p1.a p1.n p1.c] h9 
  (fun v18 h20 => ∃ x19 : Bool, v18 = .bool x19 ∧ 
  (sB (!x19) 
   (R (.tuple ⟨[.slice none 0 0, .int .i64 1]⟩) h20) 
   ((sB (decide ((p1.n : Int) > 1000)) 
    (R (.tuple ⟨[.slice none 0 0, .int .i64 1]⟩) h20) 
    ((∃ x21 : ByteArray, ∃ x22 : Sl, ∃ x23 : Sl, ∃ x24 : Int, ∃ x25 : Int, ∃ x26 : Int, ∃ x27 : Sl, ∃ x28 : Sl, atC h20 ⟨h.size, 0, none⟩ [.string x21, .slice x22.a x22.n x22.c, .slice x23.a x23.n x23.c, .int .i64 x24, .int .i64 x25, .int .i64 x26, .slice x27.a x27.n x27.c, .slice x28.a x28.n x28.c] ∧ 
    (Fn Tryd.prog 15 #[.agg ⟨[.string x21, .slice x22.a x22.n x22.c, .slice x23.a x23.n x23.c, .int .i64 x24, .int .i64 x25, .int .i64 x26, .slice x27.a x27.n x27.c, .slice x28.a x28.n x28.c]⟩, .slice p1.a p1.n p1.c] h20 
    (fun v29 h31 => ∃ x30 : Int, v29 = .int .i64 x30 ∧ 
    (∃ I32 : ByteArray → Int → Heap → Nat → Prop, (∃ m33, I32 ⟨#[]⟩ 0 h31 m33) ∧ 
    (∀ (_ : Env) (head_35 : ByteArray) (i_36 : Int) (h37 : Heap) (m34 : Nat), I32 head_35 i_36 h37 m34 → 
    (∃ x38 : Sl, hc h37 ⟨h.size, 1, none⟩ = some (.slice x38.a x38.n x38.c) ∧ 
     (sB (decide (i_36 < (x38.n : Int))) 
      ((∃ I39 : ByteArray → Heap → Nat → Prop, (∃ m40, I39 head_35 h37 m40) ∧ 
      (∀ (_ : Env) (head_42 : ByteArray) (h43 : Heap) (m41 : Nat), I39 head_42 h43 m41 → 
      (sB (decide ((ByteArray.size head_42 : Int) < (IntKind.wrap .i64 (i_36 * x30)))) 
        ((((ByteArray.size head_42) + (ByteArray.size ⟨#[32]⟩) : Nat) ≤ 9223372036854775807 ∧ (∃ m44, m44 < m41 ∧ I39 (head_42 ++ ⟨#[32]⟩) h43 m44))) 
        ((∃ x45 : Sl, hc h43 ⟨h.size, 1, none⟩ = some (.slice x45.a x45.n x45.c) ∧ 
        (NB x45.a fun b46 o47 => ((0 ≤ (i_36 : Int) ∧ (i_36 : Int) < (x45.n : Nat)) ∧ 
        (∃ x48 : ByteArray, hc h43 ⟨b46, o47 + Int.toNat i_36 * 1, none⟩ = some (.string x48) ∧ 
        (((ByteArray.size head_42) + (ByteArray.size x48) : Nat) ≤ 9223372036854775807 ∧ (∃ m49, m49 < m34 ∧ I32 (head_42 ++ x48) (IntKind.wrap .i64 (i_36 + 1)) h43 m49))))))))))) 
      ((∀ h50 : Heap, h50 = h37.push (.cells ⟨[.string head_35]⟩ 9) → 
      (∃ I51 : Sl → Int → Heap → Nat → Prop, (∃ m52, I51 ⟨(some ⟨h37.size, 0, none⟩), 1, 1⟩ 0 h50 m52) ∧ 
      (∀ (_ : Env) (out_54 : Sl) (i_55 : Int) (h56 : Heap) (m53 : Nat), I51 out_54 i_55 h56 m53 → 
      (sB (decide (i_55 < (p1.n : Int))) 
        ((∃ x57 : ByteArray, ∃ x58 : Sl, ∃ x59 : Sl, ∃ x60 : Int, ∃ x61 : Int, ∃ x62 : Int, ∃ x63 : Sl, ∃ x64 : Sl, atC h56 ⟨h.size, 0, none⟩ [.string x57, .slice x58.a x58.n x58.c, .slice x59.a x59.n x59.c, .int .i64 x60, .int .i64 x61, .int .i64 x62, .slice x63.a x63.n x63.c, .slice x64.a x64.n x64.c] ∧ 
        (NB p1.a fun b65 o66 => ((0 ≤ (i_55 : Int) ∧ (i_55 : Int) < (p1.n : Nat)) ∧ 
        (∃ x67 : Int, ∃ x68 : Int, ∃ x69 : Int, atC h56 ⟨b65, o66 + Int.toNat i_55 * 3, none⟩ [.int .i64 x67, .int .i64 x68, .int .i64 x69] ∧ 
        (Fn Tryd.prog 23 #[.agg ⟨[.string x57, .slice x58.a x58.n x58.c, .slice x59.a x59.n x59.c, .int .i64 x60, .int .i64 x61, .int .i64 x62, .slice x63.a x63.n x63.c, .slice x64.a x64.n x64.c]⟩, .agg ⟨[.int .i64 x67, .int .i64 x68, .int .i64 x69]⟩, .int .i64 x30] h56 
        (fun v70 h72 => ∃ x71 : ByteArray, v70 = .string x71 ∧ 
        (∀ h73 : Heap, h73 = h72.push (.cells ⟨[.string x71]⟩ 9) → 
        (App Tryd.prog 22 22 (.slice out_54.a out_54.n out_54.c) (.slice (some ⟨h72.size, 0, none⟩) 1 1) h73 fun s74 h75 => 
        (∃ m76, m76 < m53 ∧ I51 s74 (IntKind.wrap .i64 (i_55 + 1)) h75 m76)))))))))) 
        (R (.tuple ⟨[.slice out_54.a out_54.n out_54.c, .int .i64 0]⟩) h56)))))))))))))))))))))
theorem vc12e (p0_1 : ByteArray) (p0_2 : Sl) (p0_3 : Sl) (p0_4 : Int) (p0_5 : Int) (p0_6 : Int) (p0_7 : Sl) (p0_8 : Sl) (p1 : Sl) (h : Heap) (R : Value → Heap → Prop) : W12 p0_1 p0_2 p0_3 p0_4 p0_5 p0_6 p0_7 p0_8 p1 h R = fnW Tryd.prog 12 (.s .z (.s .z (.s .z (.s .z (.s (.s .z (.b (.l [(7, .one (.str)), (8, .one (.int .i64))] (.s .z (.s (.b (.s (.b (.l [(7, .one (.str))] .z)) .z)) .z))))) (.s .z (.s (.s .z (.b (.l [(9, .one (.slice)), (10, .one (.int .i64))] .z))) .z))))))) #[.agg ⟨[.string p0_1, .slice p0_2.a p0_2.n p0_2.c, .slice p0_3.a p0_3.n p0_3.c, .int .i64 p0_4, .int .i64 p0_5, .int .i64 p0_6, .slice p0_7.a p0_7.n p0_7.c, .slice p0_8.a p0_8.n p0_8.c]⟩, .slice p1.a p1.n p1.c] h R := by kernel_rfl
theorem vc12 (p0_1 : ByteArray) (p0_2 : Sl) (p0_3 : Sl) (p0_4 : Int) (p0_5 : Int) (p0_6 : Int) (p0_7 : Sl) (p0_8 : Sl) (p1 : Sl) (h : Heap) (R : Value → Heap → Prop) (H : W12 p0_1 p0_2 p0_3 p0_4 p0_5 p0_6 p0_7 p0_8 p1 h R) : Fn Tryd.prog 12 #[.agg ⟨[.string p0_1, .slice p0_2.a p0_2.n p0_2.c, .slice p0_3.a p0_3.n p0_3.c, .int .i64 p0_4, .int .i64 p0_5, .int .i64 p0_6, .slice p0_7.a p0_7.n p0_7.c, .slice p0_8.a p0_8.n p0_8.c]⟩, .slice p1.a p1.n p1.c] h R := fnI (vc12e p0_1 p0_2 p0_3 p0_4 p0_5 p0_6 p0_7 p0_8 p1 h R) H

/- farandole/chart.Read
   loop rrrlrrtrb: word_39:Sl, x_40:Int
   join rrr: word_79:Sl -/
def W16 (p0_1 : ByteArray) (p0_2 : Sl) (p0_3 : Sl) (p0_4 : Int) (p0_5 : Int) (p0_6 : Int) (p0_7 : Sl) (p0_8 : Sl) (p1 : Sl) (h : Heap) (R : Value → Heap → Prop) : Prop :=
  (∀ h9 : Heap, h9 = h.push (.cells ⟨[.string p0_1, .slice p0_2.a p0_2.n p0_2.c, .slice p0_3.a p0_3.n p0_3.c, .int .i64 p0_4, .int .i64 p0_5, .int .i64 p0_6, .slice p0_7.a p0_7.n p0_7.c, .slice p0_8.a p0_8.n p0_8.c]⟩ 27) → 
  (∃ x10 : ByteArray, ∃ x11 : Sl, ∃ x12 : Sl, ∃ x13 : Int, ∃ x14 : Int, ∃ x15 : Int, ∃ x16 : Sl, ∃ x17 : Sl, atC h9 ⟨h.size, 0, none⟩ [.string x10, .slice x11.a x11.n x11.c, .slice x12.a x12.n x12.c, .int .i64 x13, .int .i64 x14, .int .i64 x15, .slice x16.a x16.n x16.c, .slice x17.a x17.n x17.c] ∧ 
  (Fn Tryd.prog 24 #[.agg ⟨[.string x10, .slice x11.a x11.n x11.c, .slice x12.a x12.n x12.c, .int .i64 x13, .int .i64 x14, .int .i64 x15, .slice x16.a x16.n x16.c, .slice x17.a x17.n x17.c]⟩] h9 
  (fun v18 h20 => ∃ x19 : Bool, v18 = .bool x19 ∧ 
  (sB (!x19) 
   (R (.tuple ⟨[.slice none 0 0, .int .i64 4]⟩) h20) 
   ((sB ((p1.n : Int) == 0) 
    (R (.tuple ⟨[.slice none 0 0, .int .i64 4]⟩) h20) 
    ((sB (decide ((p1.n : Int) > 1001)) 
     (R (.tuple ⟨[.slice none 0 0, .int .i64 4]⟩) h20) 
     ((∃ J21 : Sl → Heap → Prop, 
     ((∃ x22 : ByteArray, ∃ x23 : Sl, ∃ x24 : Sl, ∃ x25 : Int, ∃ x26 : Int, ∃ x27 : Int, ∃ x28 : Sl, ∃ x29 : Sl, atC h20 ⟨h.size, 0, none⟩ [.string x22, .slice x23.a x23.n x23.c, .slice x24.a x24.n x24.c, .int .i64 x25, .int .i64 x26, .int .i64 x27, .slice x28.a x28.n x28.c, .slice x29.a x29.n x29.c] ∧ 
      (NB p1.a fun b30 o31 => ((0 ≤ (0 : Int) ∧ (0 : Int) < (p1.n : Nat)) ∧ 
      (∃ x32 : ByteArray, hc h20 ⟨b30, o31 + Int.toNat 0 * 1, none⟩ = some (.string x32) ∧ 
      (Fn Tryd.prog 25 #[.agg ⟨[.string x22, .slice x23.a x23.n x23.c, .slice x24.a x24.n x24.c, .int .i64 x25, .int .i64 x26, .int .i64 x27, .slice x28.a x28.n x28.c, .slice x29.a x29.n x29.c]⟩, .string x32] h20 
      (fun v33 h35 => ∃ x34 : Int, v33 = .int .i64 x34 ∧ 
      (sB (decide (x34 ≥ 4)) 
       ((((0 : Int) ≤ (1 : Int) ∧ (1 : Int) ≤ ((p1.n : Nat) : Int) ∧ ((p1.n : Nat) : Int) ≤ (p1.c : Nat)) ∧ 
       (∃ I36 : Sl → Int → Heap → Nat → Prop, (∃ m37, I36 ⟨none, 0, 0⟩ 0 h35 m37) ∧ 
       (∀ (_ : Env) (word_39 : Sl) (x_40 : Int) (h41 : Heap) (m38 : Nat), I36 word_39 x_40 h41 m38 → 
       (sB (decide (x_40 < (((Int.toNat (p1.n : Nat) - Int.toNat 1) : Nat) : Int))) 
         ((NB (subA p1.a (Int.toNat 1) p1.c 1) fun b42 o43 => ((0 ≤ (x_40 : Int) ∧ (x_40 : Int) < ((Int.toNat (p1.n : Nat) - Int.toNat 1) : Nat)) ∧ 
         (∃ x44 : ByteArray, hc h41 ⟨b42, o43 + Int.toNat x_40 * 1, none⟩ = some (.string x44) ∧ 
         (∃ x45 : ByteArray, ∃ x46 : Sl, ∃ x47 : Sl, ∃ x48 : Int, ∃ x49 : Int, ∃ x50 : Int, ∃ x51 : Sl, ∃ x52 : Sl, atC h41 ⟨h.size, 0, none⟩ [.string x45, .slice x46.a x46.n x46.c, .slice x47.a x47.n x47.c, .int .i64 x48, .int .i64 x49, .int .i64 x50, .slice x51.a x51.n x51.c, .slice x52.a x52.n x52.c] ∧ 
         (Fn Tryd.prog 26 #[.agg ⟨[.string x45, .slice x46.a x46.n x46.c, .slice x47.a x47.n x47.c, .int .i64 x48, .int .i64 x49, .int .i64 x50, .slice x51.a x51.n x51.c, .slice x52.a x52.n x52.c]⟩, .string x44, .int .i64 x34] h41 
         (fun v53 h55 => ∃ x54 : Bool, v53 = .bool x54 ∧ 
         (sB (!x54) 
          (R (.tuple ⟨[.slice none 0 0, .int .i64 4]⟩) h55) 
          ((∃ x56 : ByteArray, ∃ x57 : Sl, ∃ x58 : Sl, ∃ x59 : Int, ∃ x60 : Int, ∃ x61 : Int, ∃ x62 : Sl, ∃ x63 : Sl, atC h55 ⟨h.size, 0, none⟩ [.string x56, .slice x57.a x57.n x57.c, .slice x58.a x58.n x58.c, .int .i64 x59, .int .i64 x60, .int .i64 x61, .slice x62.a x62.n x62.c, .slice x63.a x63.n x63.c] ∧ 
          (Fn Tryd.prog 27 #[.agg ⟨[.string x56, .slice x57.a x57.n x57.c, .slice x58.a x58.n x58.c, .int .i64 x59, .int .i64 x60, .int .i64 x61, .slice x62.a x62.n x62.c, .slice x63.a x63.n x63.c]⟩, .int .i64 x34, .string x44] h55 
          (fun v64 h69 => ∃ x65 : Int, ∃ x66 : Int, ∃ x67 : Int, ∃ x68 : Bool, v64 = .tuple ⟨[.agg ⟨[.int .i64 x65, .int .i64 x66, .int .i64 x67]⟩, .bool x68]⟩ ∧ 
          (∀ h70 : Heap, h70 = h69.push (.cells ⟨[.int .i64 0, .int .i64 0, .int .i64 0]⟩ 43) → 
          (okAt h70 ⟨h69.size, 0, none⟩ 3 ∧ ∀ h71 : Heap, h71 = hputs h70 ⟨h69.size, 0, none⟩ 0 [.int .i64 x65, .int .i64 x66, .int .i64 x67] → 
          (sB (!x68) 
           (R (.tuple ⟨[.slice none 0 0, .int .i64 4]⟩) h71) 
           ((∃ x72 : Int, ∃ x73 : Int, ∃ x74 : Int, atC h71 ⟨h69.size, 0, none⟩ [.int .i64 x72, .int .i64 x73, .int .i64 x74] ∧ 
           (∀ h75 : Heap, h75 = h71.push (.cells ⟨[.int .i64 x72, .int .i64 x73, .int .i64 x74]⟩ 43) → 
           (App Tryd.prog 28 28 (.slice word_39.a word_39.n word_39.c) (.slice (some ⟨h71.size, 0, none⟩) 1 1) h75 fun s76 h77 => 
           (∃ m78, m78 < m38 ∧ I36 s76 (IntKind.wrap .i64 (x_40 + 1)) h77 m78)))))))))))))))))))) 
         ((J21 word_39 h41))))))) 
       ((J21 ⟨none, 0, 0⟩ h35)))))))))) ∧ 
     (∀ (_ : Env) (word_79 : Sl) (h80 : Heap), J21 word_79 h80 → 
     (∃ x81 : ByteArray, ∃ x82 : Sl, ∃ x83 : Sl, ∃ x84 : Int, ∃ x85 : Int, ∃ x86 : Int, ∃ x87 : Sl, ∃ x88 : Sl, atC h80 ⟨h.size, 0, none⟩ [.string x81, .slice x82.a x82.n x82.c, .slice x83.a x83.n x83.c, .int .i64 x84, .int .i64 x85, .int .i64 x86, .slice x87.a x87.n x87.c, .slice x88.a x88.n x88.c] ∧ 
      (Fn Tryd.prog 11 #[.agg ⟨[.string x81, .slice x82.a x82.n x82.c, .slice x83.a x83.n x83.c, .int .i64 x84, .int .i64 x85, .int .i64 x86, .slice x87.a x87.n x87.c, .slice x88.a x88.n x88.c]⟩, .slice word_79.a word_79.n word_79.c] h80 
      (fun v89 h92 => ∃ x90 : Sl, ∃ x91 : Int, v89 = .tuple ⟨[.slice x90.a x90.n x90.c, .int .i64 x91]⟩ ∧ 
      (sB (x91 != 0) 
       (R (.tuple ⟨[.slice none 0 0, .int .i64 4]⟩) h92) 
       ((Fn Tryd.prog 28 #[.slice x90.a x90.n x90.c, .slice p1.a p1.n p1.c] h92 
       (fun v93 h95 => ∃ x94 : Bool, v93 = .bool x94 ∧ 
       (sB (!x94) 
        (R (.tuple ⟨[.slice none 0 0, .int .i64 4]⟩) h95) 
        (R (.tuple ⟨[.slice word_79.a word_79.n word_79.c, .int .i64 0]⟩) h95)))))))))))))))))))))
theorem vc16e (p0_1 : ByteArray) (p0_2 : Sl) (p0_3 : Sl) (p0_4 : Int) (p0_5 : Int) (p0_6 : Int) (p0_7 : Sl) (p0_8 : Sl) (p1 : Sl) (h : Heap) (R : Value → Heap → Prop) : W16 p0_1 p0_2 p0_3 p0_4 p0_5 p0_6 p0_7 p0_8 p1 h R = fnW Tryd.prog 16 (.s .z (.s .z (.s .z (.j [(6, .one (.slice))] (.s .z (.s .z (.c (.s .z (.b (.l [(6, .one (.slice)), (37, .one (.int .i64))] .z))) .z))) .z)))) #[.agg ⟨[.string p0_1, .slice p0_2.a p0_2.n p0_2.c, .slice p0_3.a p0_3.n p0_3.c, .int .i64 p0_4, .int .i64 p0_5, .int .i64 p0_6, .slice p0_7.a p0_7.n p0_7.c, .slice p0_8.a p0_8.n p0_8.c]⟩, .slice p1.a p1.n p1.c] h R := by kernel_rfl
theorem vc16 (p0_1 : ByteArray) (p0_2 : Sl) (p0_3 : Sl) (p0_4 : Int) (p0_5 : Int) (p0_6 : Int) (p0_7 : Sl) (p0_8 : Sl) (p1 : Sl) (h : Heap) (R : Value → Heap → Prop) (H : W16 p0_1 p0_2 p0_3 p0_4 p0_5 p0_6 p0_7 p0_8 p1 h R) : Fn Tryd.prog 16 #[.agg ⟨[.string p0_1, .slice p0_2.a p0_2.n p0_2.c, .slice p0_3.a p0_3.n p0_3.c, .int .i64 p0_4, .int .i64 p0_5, .int .i64 p0_6, .slice p0_7.a p0_7.n p0_7.c, .slice p0_8.a p0_8.n p0_8.c]⟩, .slice p1.a p1.n p1.c] h R := fnI (vc16e p0_1 p0_2 p0_3 p0_4 p0_5 p0_6 p0_7 p0_8 p1 h R) H

/- farandole/farandoleref42.Read
   loop rrlrborlbrrlrb: word_29:Sl, ok_30:Bool, i_31:Int
   loop rrlrb: width_24:Int -/
def W17 (p0_1 : ByteArray) (p0_2 : Sl) (p0_3 : Sl) (p0_4 : Int) (p0_5 : Int) (p0_6 : Int) (p0_7 : Sl) (p0_8 : Sl) (p1 : Sl) (h : Heap) (R : Value → Heap → Prop) : Prop :=
  (∀ h9 : Heap, h9 = h.push (.cells ⟨[.string p0_1, .slice p0_2.a p0_2.n p0_2.c, .slice p0_3.a p0_3.n p0_3.c, .int .i64 p0_4, .int .i64 p0_5, .int .i64 p0_6, .slice p0_7.a p0_7.n p0_7.c, .slice p0_8.a p0_8.n p0_8.c]⟩ 27) → 
  (∃ x10 : ByteArray, ∃ x11 : Sl, ∃ x12 : Sl, ∃ x13 : Int, ∃ x14 : Int, ∃ x15 : Int, ∃ x16 : Sl, ∃ x17 : Sl, atC h9 ⟨h.size, 0, none⟩ [.string x10, .slice x11.a x11.n x11.c, .slice x12.a x12.n x12.c, .int .i64 x13, .int .i64 x14, .int .i64 x15, .slice x16.a x16.n x16.c, .slice x17.a x17.n x17.c] ∧ 
  (Fn Tryd.prog 29 #[.agg ⟨[.string x10, .slice x11.a x11.n x11.c, .slice x12.a x12.n x12.c, .int .i64 x13, .int .i64 x14, .int .i64 x15, .slice x16.a x16.n x16.c, .slice x17.a x17.n x17.c]⟩] h9 
  (fun v18 h20 => ∃ x19 : Bool, v18 = .bool x19 ∧ 
  (sB (!x19) 
   (R (.tuple ⟨[.slice none 0 0, .int .i64 4]⟩) h20) 
   ((sB ((p1.n : Int) == 0) 
    (R (.tuple ⟨[.slice none 0 0, .int .i64 4]⟩) h20) 
    ((sB (decide ((p1.n : Int) > 1001)) 
     (R (.tuple ⟨[.slice none 0 0, .int .i64 4]⟩) h20) 
     ((∃ I21 : Int → Heap → Nat → Prop, (∃ m22, I21 5 h20 m22) ∧ 
     (∀ (_ : Env) (width_24 : Int) (h25 : Heap) (m23 : Nat), I21 width_24 h25 m23 → 
     (sB (decide (width_24 ≤ 54)) 
       ((∃ I26 : Sl → Bool → Int → Heap → Nat → Prop, (∃ m27, I26 ⟨none, 0, 0⟩ true 1 h25 m27) ∧ 
       (∀ (_ : Env) (word_29 : Sl) (ok_30 : Bool) (i_31 : Int) (h32 : Heap) (m28 : Nat), I26 word_29 ok_30 i_31 h32 m28 → 
       (sB (decide (i_31 < (p1.n : Int))) 
         ((sB ok_30 
          ((∃ x33 : ByteArray, ∃ x34 : Sl, ∃ x35 : Sl, ∃ x36 : Int, ∃ x37 : Int, ∃ x38 : Int, ∃ x39 : Sl, ∃ x40 : Sl, atC h32 ⟨h.size, 0, none⟩ [.string x33, .slice x34.a x34.n x34.c, .slice x35.a x35.n x35.c, .int .i64 x36, .int .i64 x37, .int .i64 x38, .slice x39.a x39.n x39.c, .slice x40.a x40.n x40.c] ∧ 
          (NB p1.a fun b41 o42 => ((0 ≤ (i_31 : Int) ∧ (i_31 : Int) < (p1.n : Nat)) ∧ 
          (∃ x43 : ByteArray, hc h32 ⟨b41, o42 + Int.toNat i_31 * 1, none⟩ = some (.string x43) ∧ 
          ((Fn Tryd.prog 30 #[.agg ⟨[.string x33, .slice x34.a x34.n x34.c, .slice x35.a x35.n x35.c, .int .i64 x36, .int .i64 x37, .int .i64 x38, .slice x39.a x39.n x39.c, .slice x40.a x40.n x40.c]⟩, .string x43, .int .i64 width_24] h32 
          (fun v44 h49 => ∃ x45 : Int, ∃ x46 : Int, ∃ x47 : Int, ∃ x48 : Bool, v44 = .tuple ⟨[.agg ⟨[.int .i64 x45, .int .i64 x46, .int .i64 x47]⟩, .bool x48]⟩ ∧ 
          (∀ h50 : Heap, h50 = h49.push (.cells ⟨[.int .i64 0, .int .i64 0, .int .i64 0]⟩ 43) → 
          (Sm [⟨b41, o42 + Int.toNat i_31 * 1, none⟩, ⟨h.size, 0, none⟩] h49 h50 ∧ 
          (okAt h50 ⟨h49.size, 0, none⟩ 3 ∧ ∀ h51 : Heap, h51 = hputs h50 ⟨h49.size, 0, none⟩ 0 [.int .i64 x45, .int .i64 x46, .int .i64 x47] → 
          (∃ x52 : Int, ∃ x53 : Int, ∃ x54 : Int, atC h51 ⟨h49.size, 0, none⟩ [.int .i64 x52, .int .i64 x53, .int .i64 x54] ∧ 
          (∀ h55 : Heap, h55 = h51.push (.cells ⟨[.int .i64 x52, .int .i64 x53, .int .i64 x54]⟩ 43) → 
          (App Tryd.prog 28 28 (.slice word_29.a word_29.n word_29.c) (.slice (some ⟨h51.size, 0, none⟩) 1 1) h55 fun s56 h57 => 
          (∃ m58, m58 < m28 ∧ I26 s56 x48 (IntKind.wrap .i64 (i_31 + 1)) h57 m58)))))))))) ∧ ((∀ h59 : Heap, h59 = h32.push (.cells ⟨[.int .i64 0, .int .i64 0, .int .i64 0]⟩ 43) → 
          (Sm [⟨b41, o42 + Int.toNat i_31 * 1, none⟩, ⟨h.size, 0, none⟩] h32 h59 ∧ 
          (Fn Tryd.prog 30 #[.agg ⟨[.string x33, .slice x34.a x34.n x34.c, .slice x35.a x35.n x35.c, .int .i64 x36, .int .i64 x37, .int .i64 x38, .slice x39.a x39.n x39.c, .slice x40.a x40.n x40.c]⟩, .string x43, .int .i64 width_24] h59 
          (fun v60 h65 => ∃ x61 : Int, ∃ x62 : Int, ∃ x63 : Int, ∃ x64 : Bool, v60 = .tuple ⟨[.agg ⟨[.int .i64 x61, .int .i64 x62, .int .i64 x63]⟩, .bool x64]⟩ ∧ 
          (okAt h65 ⟨h32.size, 0, none⟩ 3 ∧ ∀ h66 : Heap, h66 = hputs h65 ⟨h32.size, 0, none⟩ 0 [.int .i64 x61, .int .i64 x62, .int .i64 x63] → 
          (∃ x67 : Int, ∃ x68 : Int, ∃ x69 : Int, atC h66 ⟨h32.size, 0, none⟩ [.int .i64 x67, .int .i64 x68, .int .i64 x69] ∧ 
          (∀ h70 : Heap, h70 = h66.push (.cells ⟨[.int .i64 x67, .int .i64 x68, .int .i64 x69]⟩ 43) → 
          (App Tryd.prog 28 28 (.slice word_29.a word_29.n word_29.c) (.slice (some ⟨h66.size, 0, none⟩) 1 1) h70 fun s71 h72 => 
          (∃ m73, m73 < m28 ∧ I26 s71 x64 (IntKind.wrap .i64 (i_31 + 1)) h72 m73))))))))))))))) 
          ((sB (!ok_30) 
           ((∃ m74, m74 < m23 ∧ I21 (IntKind.wrap .i64 (width_24 + 1)) h32 m74)) 
           ((∃ x75 : ByteArray, ∃ x76 : Sl, ∃ x77 : Sl, ∃ x78 : Int, ∃ x79 : Int, ∃ x80 : Int, ∃ x81 : Sl, ∃ x82 : Sl, atC h32 ⟨h.size, 0, none⟩ [.string x75, .slice x76.a x76.n x76.c, .slice x77.a x77.n x77.c, .int .i64 x78, .int .i64 x79, .int .i64 x80, .slice x81.a x81.n x81.c, .slice x82.a x82.n x82.c] ∧ 
           (Fn Tryd.prog 12 #[.agg ⟨[.string x75, .slice x76.a x76.n x76.c, .slice x77.a x77.n x77.c, .int .i64 x78, .int .i64 x79, .int .i64 x80, .slice x81.a x81.n x81.c, .slice x82.a x82.n x82.c]⟩, .slice word_29.a word_29.n word_29.c] h32 
           (fun v83 h86 => ∃ x84 : Sl, ∃ x85 : Int, v83 = .tuple ⟨[.slice x84.a x84.n x84.c, .int .i64 x85]⟩ ∧ 
           (sB (x85 == 0) 
            ((Fn Tryd.prog 13 #[.slice x84.a x84.n x84.c, .slice p1.a p1.n p1.c] h86 
            (fun v87 h89 => ∃ x88 : Bool, v87 = .bool x88 ∧ 
            (sB x88 
             (R (.tuple ⟨[.slice word_29.a word_29.n word_29.c, .int .i64 0]⟩) h89) 
             ((∃ m90, m90 < m23 ∧ I21 (IntKind.wrap .i64 (width_24 + 1)) h89 m90)))))) 
            ((∃ m91, m91 < m23 ∧ I21 (IntKind.wrap .i64 (width_24 + 1)) h86 m91))))))))))) 
         ((sB (!ok_30) 
          ((∃ m92, m92 < m23 ∧ I21 (IntKind.wrap .i64 (width_24 + 1)) h32 m92)) 
          ((∃ x93 : ByteArray, ∃ x94 : Sl, ∃ x95 : Sl, ∃ x96 : Int, ∃ x97 : Int, ∃ x98 : Int, ∃ x99 : Sl, ∃ x100 : Sl, atC h32 ⟨h.size, 0, none⟩ [.string x93, .slice x94.a x94.n x94.c, .slice x95.a x95.n x95.c, .int .i64 x96, .int .i64 x97, .int .i64 x98, .slice x99.a x99.n x99.c, .slice x100.a x100.n x100.c] ∧ 
          (Fn Tryd.prog 12 #[.agg ⟨[.string x93, .slice x94.a x94.n x94.c, .slice x95.a x95.n x95.c, .int .i64 x96, .int .i64 x97, .int .i64 x98, .slice x99.a x99.n x99.c, .slice x100.a x100.n x100.c]⟩, .slice word_29.a word_29.n word_29.c] h32 
          (fun v101 h104 => ∃ x102 : Sl, ∃ x103 : Int, v101 = .tuple ⟨[.slice x102.a x102.n x102.c, .int .i64 x103]⟩ ∧ 
          (sB (x103 == 0) 
           ((Fn Tryd.prog 13 #[.slice x102.a x102.n x102.c, .slice p1.a p1.n p1.c] h104 
           (fun v105 h107 => ∃ x106 : Bool, v105 = .bool x106 ∧ 
           (sB x106 
            (R (.tuple ⟨[.slice word_29.a word_29.n word_29.c, .int .i64 0]⟩) h107) 
            ((∃ m108, m108 < m23 ∧ I21 (IntKind.wrap .i64 (width_24 + 1)) h107 m108)))))) 
           ((∃ m109, m109 < m23 ∧ I21 (IntKind.wrap .i64 (width_24 + 1)) h104 m109))))))))))))) 
       (R (.tuple ⟨[.slice none 0 0, .int .i64 4]⟩) h25))))))))))))))
theorem vc17e (p0_1 : ByteArray) (p0_2 : Sl) (p0_3 : Sl) (p0_4 : Int) (p0_5 : Int) (p0_6 : Int) (p0_7 : Sl) (p0_8 : Sl) (p1 : Sl) (h : Heap) (R : Value → Heap → Prop) : W17 p0_1 p0_2 p0_3 p0_4 p0_5 p0_6 p0_7 p0_8 p1 h R = fnW Tryd.prog 17 (.s .z (.s .z (.s (.s .z (.b (.l [(6, .one (.int .i64))] (.s .z (.s (.b (.s .z (.s .z (.s (.s .z (.b (.l [(7, .one (.slice)), (8, .one (.bool)), (9, .one (.int .i64))] .z))) .z)))) .z))))) .z))) #[.agg ⟨[.string p0_1, .slice p0_2.a p0_2.n p0_2.c, .slice p0_3.a p0_3.n p0_3.c, .int .i64 p0_4, .int .i64 p0_5, .int .i64 p0_6, .slice p0_7.a p0_7.n p0_7.c, .slice p0_8.a p0_8.n p0_8.c]⟩, .slice p1.a p1.n p1.c] h R := by kernel_rfl
theorem vc17 (p0_1 : ByteArray) (p0_2 : Sl) (p0_3 : Sl) (p0_4 : Int) (p0_5 : Int) (p0_6 : Int) (p0_7 : Sl) (p0_8 : Sl) (p1 : Sl) (h : Heap) (R : Value → Heap → Prop) (H : W17 p0_1 p0_2 p0_3 p0_4 p0_5 p0_6 p0_7 p0_8 p1 h R) : Fn Tryd.prog 17 #[.agg ⟨[.string p0_1, .slice p0_2.a p0_2.n p0_2.c, .slice p0_3.a p0_3.n p0_3.c, .int .i64 p0_4, .int .i64 p0_5, .int .i64 p0_6, .slice p0_7.a p0_7.n p0_7.c, .slice p0_8.a p0_8.n p0_8.c]⟩, .slice p1.a p1.n p1.c] h R := fnI (vc17e p0_1 p0_2 p0_3 p0_4 p0_5 p0_6 p0_7 p0_8 p1 h R) H

end Go.VC
