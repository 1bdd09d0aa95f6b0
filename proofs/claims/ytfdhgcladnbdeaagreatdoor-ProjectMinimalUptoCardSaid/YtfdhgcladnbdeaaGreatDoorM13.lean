/- Texts of this claim, joined: PjVcH, PjY, PjZ, PjVcI, PjMa, PjMb. -/
import Derived.Test.YtfdhgcladnbdeaaGreatDoorM02
import Derived.Test.YtfdhgcladnbdeaaGreatDoorProg
import Derived.KernelRfl
import Derived.Test.YtfdhgcladnbdeaaGreatDoorM12
set_option linter.unusedVariables false
set_option linter.unusedSimpArgs false

section
namespace Go.VC
open Go.Proofs
set_option maxRecDepth 100000
set_option linter.unusedVariables false

/- farandole/farandolelaw25.awake -/
def W10  (h : Heap) (R : Value → Heap → Prop) : Prop :=
  (Fn Tryz.prog 34 #[.bool true] h 
  (fun v1 h10 => ∃ x2 : ByteArray, ∃ x3 : Sl, ∃ x4 : Sl, ∃ x5 : Int, ∃ x6 : Int, ∃ x7 : Int, ∃ x8 : Sl, ∃ x9 : Sl, v1 = .agg ⟨[.string x2, .slice x3.a x3.n x3.c, .slice x4.a x4.n x4.c, .int .i64 x5, .int .i64 x6, .int .i64 x7, .slice x8.a x8.n x8.c, .slice x9.a x9.n x9.c]⟩ ∧ 
  (Fn Tryz.prog 12 #[.agg ⟨[.string x2, .slice x3.a x3.n x3.c, .slice x4.a x4.n x4.c, .int .i64 x5, .int .i64 x6, .int .i64 x7, .slice x8.a x8.n x8.c, .slice x9.a x9.n x9.c]⟩, .int .i64 2] h10 
  (fun v11 h19 => ∃ x12 : Int, ∃ x13 : Int, ∃ x14 : Int, ∃ x15 : Sl, ∃ x16 : Sl, ∃ x17 : Sl, ∃ x18 : Int, v11 = .tuple ⟨[.agg ⟨[.int .i64 x12, .int .i64 x13, .int .i64 x14, .slice x15.a x15.n x15.c, .slice x16.a x16.n x16.c, .slice x17.a x17.n x17.c]⟩, .int .i64 x18]⟩ ∧ 
  (∀ h20 : Heap, h20 = h19.push (.cells ⟨[.int .i64 0, .int .i64 0, .int .i64 0, .slice none 0 0, .slice none 0 0, .slice none 0 0]⟩ 33) → 
  (okAt h20 ⟨h19.size, 0, none⟩ 6 ∧ ∀ h21 : Heap, h21 = hputs h20 ⟨h19.size, 0, none⟩ 0 [.int .i64 x12, .int .i64 x13, .int .i64 x14, .slice x15.a x15.n x15.c, .slice x16.a x16.n x16.c, .slice x17.a x17.n x17.c] → 
  (Fn Tryz.prog 34 #[.bool false] h21 
  (fun v22 h31 => ∃ x23 : ByteArray, ∃ x24 : Sl, ∃ x25 : Sl, ∃ x26 : Int, ∃ x27 : Int, ∃ x28 : Int, ∃ x29 : Sl, ∃ x30 : Sl, v22 = .agg ⟨[.string x23, .slice x24.a x24.n x24.c, .slice x25.a x25.n x25.c, .int .i64 x26, .int .i64 x27, .int .i64 x28, .slice x29.a x29.n x29.c, .slice x30.a x30.n x30.c]⟩ ∧ 
  (Fn Tryz.prog 12 #[.agg ⟨[.string x23, .slice x24.a x24.n x24.c, .slice x25.a x25.n x25.c, .int .i64 x26, .int .i64 x27, .int .i64 x28, .slice x29.a x29.n x29.c, .slice x30.a x30.n x30.c]⟩, .int .i64 2] h31 
  (fun v32 h40 => ∃ x33 : Int, ∃ x34 : Int, ∃ x35 : Int, ∃ x36 : Sl, ∃ x37 : Sl, ∃ x38 : Sl, ∃ x39 : Int, v32 = .tuple ⟨[.agg ⟨[.int .i64 x33, .int .i64 x34, .int .i64 x35, .slice x36.a x36.n x36.c, .slice x37.a x37.n x37.c, .slice x38.a x38.n x38.c]⟩, .int .i64 x39]⟩ ∧ 
  (∀ h41 : Heap, h41 = h40.push (.cells ⟨[.int .i64 0, .int .i64 0, .int .i64 0, .slice none 0 0, .slice none 0 0, .slice none 0 0]⟩ 33) → 
  (okAt h41 ⟨h40.size, 0, none⟩ 6 ∧ ∀ h42 : Heap, h42 = hputs h41 ⟨h40.size, 0, none⟩ 0 [.int .i64 x33, .int .i64 x34, .int .i64 x35, .slice x36.a x36.n x36.c, .slice x37.a x37.n x37.c, .slice x38.a x38.n x38.c] → 
  (sB (x18 == 0) 
   ((sB (x39 == 18) 
    ((∃ x43 : Int, hc h42 ⟨h19.size, 1, none⟩ = some (.int .i64 x43) ∧ 
    (sB (x43 == 4) 
     ((∃ x44 : Sl, hc h42 ⟨h19.size, 4, none⟩ = some (.slice x44.a x44.n x44.c) ∧ 
     (sB ((x44.n : Int) == 4) 
      ((∃ x45 : Sl, hc h42 ⟨h19.size, 4, none⟩ = some (.slice x45.a x45.n x45.c) ∧ 
      (NB x45.a fun b46 o47 => ((0 ≤ (3 : Int) ∧ (3 : Int) < (x45.n : Nat)) ∧ 
      (∃ x48 : Int, ∃ x49 : Bool, ∃ x50 : Int, ∃ x51 : Int, ∃ x52 : Int, ∃ x53 : Bool, atC h42 ⟨b46, o47 + Int.toNat 3 * 6, none⟩ [.int .i64 x48, .bool x49, .int .i64 x50, .int .i64 x51, .int .i64 x52, .bool x53] ∧ 
      (sB ((x48 == 2) && ((x49 == true) && ((x50 == 1) && ((x51 == 3) && ((x52 == 3) && ((x53 == false) && true)))))) 
       ((∃ x54 : Sl, hc h42 ⟨h19.size, 3, none⟩ = some (.slice x54.a x54.n x54.c) ∧ 
       (NB x54.a fun b55 o56 => ((0 ≤ (3 : Int) ∧ (3 : Int) < (x54.n : Nat)) ∧ 
       (∃ x57 : Bool, hc h42 ⟨b55, o56 + Int.toNat 3 * 1, none⟩ = some (.bool x57) ∧ 
       R (.bool x57) h42))))) 
       (R (.bool false) h42))))))) 
      (R (.bool false) h42)))) 
     (R (.bool false) h42)))) 
    (R (.bool false) h42))) 
   (R (.bool false) h42))))))))))))))
theorem vc10e  (h : Heap) (R : Value → Heap → Prop) : W10  h R = fnW Tryz.prog 10 .z #[] h R := by kernel_rfl
theorem vc10  (h : Heap) (R : Value → Heap → Prop) (H : W10  h R) : Fn Tryz.prog 10 #[] h R := fnI (vc10e  h R) H

/- farandole/farandolelaw23.Example -/
def W34 (p0 : Bool) (h : Heap) (R : Value → Heap → Prop) : Prop :=
  (∀ h1 : Heap, h1 = h.push (.cells ⟨[.string ⟨#[]⟩, .slice none 0 0, .slice none 0 0, .int .i64 0, .int .i64 0, .int .i64 0, .slice none 0 0, .slice none 0 0]⟩ 27) → 
  (∀ h2 : Heap, h2 = h1.push (.cells ⟨[.string ⟨#[112]⟩, .string ⟨#[113]⟩, .string ⟨#[114]⟩]⟩ 9) → 
  (∀ h3 : Heap, h3 = h2.push (.cells ⟨[.string ⟨#[97]⟩, .slice none 0 0, .int .i64 0, .slice none 0 0, .slice none 0 0, .string ⟨#[98]⟩, .slice none 0 0, .int .i64 0, .slice none 0 0, .slice none 0 0, .string ⟨#[99]⟩, .slice none 0 0, .int .i64 0, .slice none 0 0, .slice none 0 0, .string ⟨#[100]⟩, .slice none 0 0, .int .i64 0, .slice none 0 0, .slice none 0 0]⟩ 136) → 
  (∀ h4 : Heap, h4 = h3.push (.cells ⟨[.string ⟨#[]⟩, .slice none 0 0, .slice none 0 0, .int .i64 0, .int .i64 0, .int .i64 0, .slice none 0 0, .slice none 0 0]⟩ 27) → 
  (okAt h4 ⟨h3.size, 0, none⟩ 8 ∧ ∀ h5 : Heap, h5 = hputs h4 ⟨h3.size, 0, none⟩ 0 [.string ⟨#[101]⟩, .slice (some ⟨h1.size, 0, none⟩) 3 3, .slice (some ⟨h2.size, 0, none⟩) 4 4, .int .i64 4, .int .i64 0, .int .i64 3, .slice none 0 0, .slice none 0 0] → 
  (Fn Tryz.prog 70 #[.int .i64 0, .int .i64 0, .int .i64 1, .int .i64 0, .int .i64 1] h5 
  (fun v6 h13 => ∃ x7 : Int, ∃ x8 : Int, ∃ x9 : Int, ∃ x10 : Int, ∃ x11 : Int, ∃ x12 : Bool, v6 = .agg ⟨[.int .i64 x7, .int .i64 x8, .int .i64 x9, .int .i64 x10, .int .i64 x11, .bool x12]⟩ ∧ 
  (Fn Tryz.prog 70 #[.int .i64 0, .int .i64 0, .int .i64 1, .int .i64 1, .int .i64 2] h13 
  (fun v14 h21 => ∃ x15 : Int, ∃ x16 : Int, ∃ x17 : Int, ∃ x18 : Int, ∃ x19 : Int, ∃ x20 : Bool, v14 = .agg ⟨[.int .i64 x15, .int .i64 x16, .int .i64 x17, .int .i64 x18, .int .i64 x19, .bool x20]⟩ ∧ 
  (Fn Tryz.prog 70 #[.int .i64 1, .int .i64 2, .int .i64 1, .int .i64 2, .int .i64 3] h21 
  (fun v22 h29 => ∃ x23 : Int, ∃ x24 : Int, ∃ x25 : Int, ∃ x26 : Int, ∃ x27 : Int, ∃ x28 : Bool, v22 = .agg ⟨[.int .i64 x23, .int .i64 x24, .int .i64 x25, .int .i64 x26, .int .i64 x27, .bool x28]⟩ ∧ 
  (Fn Tryz.prog 70 #[.int .i64 2, .int .i64 2, .int .i64 1, .int .i64 3, .int .i64 3] h29 
  (fun v30 h37 => ∃ x31 : Int, ∃ x32 : Int, ∃ x33 : Int, ∃ x34 : Int, ∃ x35 : Int, ∃ x36 : Bool, v30 = .agg ⟨[.int .i64 x31, .int .i64 x32, .int .i64 x33, .int .i64 x34, .int .i64 x35, .bool x36]⟩ ∧ 
  (∀ h38 : Heap, h38 = h37.push (.cells ⟨[.int .i64 x7, .int .i64 x8, .int .i64 x9, .int .i64 x10, .int .i64 x11, .bool x12, .int .i64 x15, .int .i64 x16, .int .i64 x17, .int .i64 x18, .int .i64 x19, .bool x20, .int .i64 x23, .int .i64 x24, .int .i64 x25, .int .i64 x26, .int .i64 x27, .bool x28, .int .i64 x31, .int .i64 x32, .int .i64 x33, .int .i64 x34, .int .i64 x35, .bool x36]⟩ 55) → 
  (okAt h38 ⟨h3.size, 6, none⟩ 1 ∧ ∀ h39 : Heap, h39 = hputs h38 ⟨h3.size, 6, none⟩ 0 [.slice (some ⟨h37.size, 0, none⟩) 4 4] → 
  (sB p0 
   ((okAt h39 ⟨h3.size, 3, none⟩ 1 ∧ ∀ h40 : Heap, h40 = hputs h39 ⟨h3.size, 3, none⟩ 0 [.int .i64 6] → 
   (okAt h40 ⟨h3.size, 5, none⟩ 1 ∧ ∀ h41 : Heap, h41 = hputs h40 ⟨h3.size, 5, none⟩ 0 [.int .i64 5] → 
   (Fn Tryz.prog 70 #[.int .i64 0, .int .i64 0, .int .i64 1, .int .i64 0, .int .i64 1] h41 
   (fun v42 h49 => ∃ x43 : Int, ∃ x44 : Int, ∃ x45 : Int, ∃ x46 : Int, ∃ x47 : Int, ∃ x48 : Bool, v42 = .agg ⟨[.int .i64 x43, .int .i64 x44, .int .i64 x45, .int .i64 x46, .int .i64 x47, .bool x48]⟩ ∧ 
   (Fn Tryz.prog 70 #[.int .i64 0, .int .i64 0, .int .i64 1, .int .i64 1, .int .i64 2] h49 
   (fun v50 h57 => ∃ x51 : Int, ∃ x52 : Int, ∃ x53 : Int, ∃ x54 : Int, ∃ x55 : Int, ∃ x56 : Bool, v50 = .agg ⟨[.int .i64 x51, .int .i64 x52, .int .i64 x53, .int .i64 x54, .int .i64 x55, .bool x56]⟩ ∧ 
   (Fn Tryz.prog 70 #[.int .i64 1, .int .i64 1, .int .i64 2, .int .i64 0, .int .i64 3] h57 
   (fun v58 h65 => ∃ x59 : Int, ∃ x60 : Int, ∃ x61 : Int, ∃ x62 : Int, ∃ x63 : Int, ∃ x64 : Bool, v58 = .agg ⟨[.int .i64 x59, .int .i64 x60, .int .i64 x61, .int .i64 x62, .int .i64 x63, .bool x64]⟩ ∧ 
   (Fn Tryz.prog 70 #[.int .i64 2, .int .i64 1, .int .i64 2, .int .i64 1, .int .i64 4] h65 
   (fun v66 h73 => ∃ x67 : Int, ∃ x68 : Int, ∃ x69 : Int, ∃ x70 : Int, ∃ x71 : Int, ∃ x72 : Bool, v66 = .agg ⟨[.int .i64 x67, .int .i64 x68, .int .i64 x69, .int .i64 x70, .int .i64 x71, .bool x72]⟩ ∧ 
   (Fn Tryz.prog 70 #[.int .i64 3, .int .i64 2, .int .i64 1, .int .i64 2, .int .i64 5] h73 
   (fun v74 h81 => ∃ x75 : Int, ∃ x76 : Int, ∃ x77 : Int, ∃ x78 : Int, ∃ x79 : Int, ∃ x80 : Bool, v74 = .agg ⟨[.int .i64 x75, .int .i64 x76, .int .i64 x77, .int .i64 x78, .int .i64 x79, .bool x80]⟩ ∧ 
   (Fn Tryz.prog 70 #[.int .i64 4, .int .i64 2, .int .i64 1, .int .i64 3, .int .i64 5] h81 
   (fun v82 h89 => ∃ x83 : Int, ∃ x84 : Int, ∃ x85 : Int, ∃ x86 : Int, ∃ x87 : Int, ∃ x88 : Bool, v82 = .agg ⟨[.int .i64 x83, .int .i64 x84, .int .i64 x85, .int .i64 x86, .int .i64 x87, .bool x88]⟩ ∧ 
   (∀ h90 : Heap, h90 = h89.push (.cells ⟨[.int .i64 x43, .int .i64 x44, .int .i64 x45, .int .i64 x46, .int .i64 x47, .bool x48, .int .i64 x51, .int .i64 x52, .int .i64 x53, .int .i64 x54, .int .i64 x55, .bool x56, .int .i64 x59, .int .i64 x60, .int .i64 x61, .int .i64 x62, .int .i64 x63, .bool x64, .int .i64 x67, .int .i64 x68, .int .i64 x69, .int .i64 x70, .int .i64 x71, .bool x72, .int .i64 x75, .int .i64 x76, .int .i64 x77, .int .i64 x78, .int .i64 x79, .bool x80, .int .i64 x83, .int .i64 x84, .int .i64 x85, .int .i64 x86, .int .i64 x87, .bool x88]⟩ 55) → 
   (okAt h90 ⟨h3.size, 6, none⟩ 1 ∧ ∀ h91 : Heap, h91 = hputs h90 ⟨h3.size, 6, none⟩ 0 [.slice (some ⟨h89.size, 0, none⟩) 6 6] → 
   (∃ x92 : ByteArray, ∃ x93 : Sl, ∃ x94 : Sl, ∃ x95 : Int, ∃ x96 : Int, ∃ x97 : Int, ∃ x98 : Sl, ∃ x99 : Sl, atC h91 ⟨h3.size, 0, none⟩ [.string x92, .slice x93.a x93.n x93.c, .slice x94.a x94.n x94.c, .int .i64 x95, .int .i64 x96, .int .i64 x97, .slice x98.a x98.n x98.c, .slice x99.a x99.n x99.c] ∧ 
   (okAt h91 ⟨h.size, 0, none⟩ 8 ∧ ∀ h100 : Heap, h100 = hputs h91 ⟨h.size, 0, none⟩ 0 [.string x92, .slice x93.a x93.n x93.c, .slice x94.a x94.n x94.c, .int .i64 x95, .int .i64 x96, .int .i64 x97, .slice x98.a x98.n x98.c, .slice x99.a x99.n x99.c] → 
   (∃ x101 : ByteArray, ∃ x102 : Sl, ∃ x103 : Sl, ∃ x104 : Int, ∃ x105 : Int, ∃ x106 : Int, ∃ x107 : Sl, ∃ x108 : Sl, atC h100 ⟨h.size, 0, none⟩ [.string x101, .slice x102.a x102.n x102.c, .slice x103.a x103.n x103.c, .int .i64 x104, .int .i64 x105, .int .i64 x106, .slice x107.a x107.n x107.c, .slice x108.a x108.n x108.c] ∧ 
   R (.agg ⟨[.string x101, .slice x102.a x102.n x102.c, .slice x103.a x103.n x103.c, .int .i64 x104, .int .i64 x105, .int .i64 x106, .slice x107.a x107.n x107.c, .slice x108.a x108.n x108.c]⟩) h100)))))))))))))))))))) 
   ((∃ x109 : ByteArray, ∃ x110 : Sl, ∃ x111 : Sl, ∃ x112 : Int, ∃ x113 : Int, ∃ x114 : Int, ∃ x115 : Sl, ∃ x116 : Sl, atC h39 ⟨h3.size, 0, none⟩ [.string x109, .slice x110.a x110.n x110.c, .slice x111.a x111.n x111.c, .int .i64 x112, .int .i64 x113, .int .i64 x114, .slice x115.a x115.n x115.c, .slice x116.a x116.n x116.c] ∧ 
   (okAt h39 ⟨h.size, 0, none⟩ 8 ∧ ∀ h117 : Heap, h117 = hputs h39 ⟨h.size, 0, none⟩ 0 [.string x109, .slice x110.a x110.n x110.c, .slice x111.a x111.n x111.c, .int .i64 x112, .int .i64 x113, .int .i64 x114, .slice x115.a x115.n x115.c, .slice x116.a x116.n x116.c] → 
   (∃ x118 : ByteArray, ∃ x119 : Sl, ∃ x120 : Sl, ∃ x121 : Int, ∃ x122 : Int, ∃ x123 : Int, ∃ x124 : Sl, ∃ x125 : Sl, atC h117 ⟨h.size, 0, none⟩ [.string x118, .slice x119.a x119.n x119.c, .slice x120.a x120.n x120.c, .int .i64 x121, .int .i64 x122, .int .i64 x123, .slice x124.a x124.n x124.c, .slice x125.a x125.n x125.c] ∧ 
   R (.agg ⟨[.string x118, .slice x119.a x119.n x119.c, .slice x120.a x120.n x120.c, .int .i64 x121, .int .i64 x122, .int .i64 x123, .slice x124.a x124.n x124.c, .slice x125.a x125.n x125.c]⟩) h117))))))))))))))))))))
theorem vc34e (p0 : Bool) (h : Heap) (R : Value → Heap → Prop) : W34 p0 h R = fnW Tryz.prog 34 .z #[.bool p0] h R := by kernel_rfl
theorem vc34 (p0 : Bool) (h : Heap) (R : Value → Heap → Prop) (H : W34 p0 h R) : Fn Tryz.prog 34 #[.bool p0] h R := fnI (vc34e p0 h R) H

/- farandole/farandolelaw23.Example$1 -/
def W70 (p0 : Int) (p1 : Int) (p2 : Int) (p3 : Int) (p4 : Int) (h : Heap) (R : Value → Heap → Prop) : Prop :=
  (∀ h1 : Heap, h1 = h.push (.cells ⟨[.int .i64 0, .int .i64 0, .int .i64 0, .int .i64 0, .int .i64 0, .bool false]⟩ 55) → 
  (okAt h1 ⟨h.size, 0, none⟩ 6 ∧ ∀ h2 : Heap, h2 = hputs h1 ⟨h.size, 0, none⟩ 0 [.int .i64 p0, .int .i64 p1, .int .i64 p2, .int .i64 p3, .int .i64 p4, .bool false] → 
  (∃ x3 : Int, ∃ x4 : Int, ∃ x5 : Int, ∃ x6 : Int, ∃ x7 : Int, ∃ x8 : Bool, atC h2 ⟨h.size, 0, none⟩ [.int .i64 x3, .int .i64 x4, .int .i64 x5, .int .i64 x6, .int .i64 x7, .bool x8] ∧ 
  R (.agg ⟨[.int .i64 x3, .int .i64 x4, .int .i64 x5, .int .i64 x6, .int .i64 x7, .bool x8]⟩) h2)))
theorem vc70e (p0 : Int) (p1 : Int) (p2 : Int) (p3 : Int) (p4 : Int) (h : Heap) (R : Value → Heap → Prop) : W70 p0 p1 p2 p3 p4 h R = fnW Tryz.prog 70 .z #[.int .i64 p0, .int .i64 p1, .int .i64 p2, .int .i64 p3, .int .i64 p4] h R := by kernel_rfl
theorem vc70 (p0 : Int) (p1 : Int) (p2 : Int) (p3 : Int) (p4 : Int) (h : Heap) (R : Value → Heap → Prop) (H : W70 p0 p1 p2 p3 p4 h R) : Fn Tryz.prog 70 #[.int .i64 p0, .int .i64 p1, .int .i64 p2, .int .i64 p3, .int .i64 p4] h R := fnI (vc70e p0 p1 p2 p3 p4 h R) H

/- farandole/farandoleref23.Few -/
def W11 (p0_1 : ByteArray) (p0_2 : Sl) (p0_3 : Sl) (p0_4 : Int) (p0_5 : Int) (p0_6 : Int) (p0_7 : Sl) (p0_8 : Sl) (h : Heap) (R : Value → Heap → Prop) : Prop :=
  (∀ h9 : Heap, h9 = h.push (.cells ⟨[.string p0_1, .slice p0_2.a p0_2.n p0_2.c, .slice p0_3.a p0_3.n p0_3.c, .int .i64 p0_4, .int .i64 p0_5, .int .i64 p0_6, .slice p0_7.a p0_7.n p0_7.c, .slice p0_8.a p0_8.n p0_8.c]⟩ 27) → 
  (∃ x10 : ByteArray, ∃ x11 : Sl, ∃ x12 : Sl, ∃ x13 : Int, ∃ x14 : Int, ∃ x15 : Int, ∃ x16 : Sl, ∃ x17 : Sl, atC h9 ⟨h.size, 0, none⟩ [.string x10, .slice x11.a x11.n x11.c, .slice x12.a x12.n x12.c, .int .i64 x13, .int .i64 x14, .int .i64 x15, .slice x16.a x16.n x16.c, .slice x17.a x17.n x17.c] ∧ 
  (Fn Tryz.prog 35 #[.agg ⟨[.string x10, .slice x11.a x11.n x11.c, .slice x12.a x12.n x12.c, .int .i64 x13, .int .i64 x14, .int .i64 x15, .slice x16.a x16.n x16.c, .slice x17.a x17.n x17.c]⟩] h9 
  (fun v18 h20 => ∃ x19 : Bool, v18 = .bool x19 ∧ 
  (sB x19 
   ((∃ x21 : Int, hc h20 ⟨h.size, 3, none⟩ = some (.int .i64 x21) ∧ 
   R (.bool (decide (x21 ≤ 25))) h20)) 
   (R (.bool false) h20))))))
theorem vc11e (p0_1 : ByteArray) (p0_2 : Sl) (p0_3 : Sl) (p0_4 : Int) (p0_5 : Int) (p0_6 : Int) (p0_7 : Sl) (p0_8 : Sl) (h : Heap) (R : Value → Heap → Prop) : W11 p0_1 p0_2 p0_3 p0_4 p0_5 p0_6 p0_7 p0_8 h R = fnW Tryz.prog 11 .z #[.agg ⟨[.string p0_1, .slice p0_2.a p0_2.n p0_2.c, .slice p0_3.a p0_3.n p0_3.c, .int .i64 p0_4, .int .i64 p0_5, .int .i64 p0_6, .slice p0_7.a p0_7.n p0_7.c, .slice p0_8.a p0_8.n p0_8.c]⟩] h R := by kernel_rfl
theorem vc11 (p0_1 : ByteArray) (p0_2 : Sl) (p0_3 : Sl) (p0_4 : Int) (p0_5 : Int) (p0_6 : Int) (p0_7 : Sl) (p0_8 : Sl) (h : Heap) (R : Value → Heap → Prop) (H : W11 p0_1 p0_2 p0_3 p0_4 p0_5 p0_6 p0_7 p0_8 h R) : Fn Tryz.prog 11 #[.agg ⟨[.string p0_1, .slice p0_2.a p0_2.n p0_2.c, .slice p0_3.a p0_3.n p0_3.c, .int .i64 p0_4, .int .i64 p0_5, .int .i64 p0_6, .slice p0_7.a p0_7.n p0_7.c, .slice p0_8.a p0_8.n p0_8.c]⟩] h R := fnI (vc11e p0_1 p0_2 p0_3 p0_4 p0_5 p0_6 p0_7 p0_8 h R) H

/- farandole/farandolelaw25.right
   loop rrrlrb: x_41:Int
   loop rrlrb: x_18:Int -/
def W17 (p0_1 : Int) (p0_2 : Int) (p0_3 : Int) (p0_4 : Sl) (p0_5 : Sl) (p0_6 : Sl) (h : Heap) (R : Value → Heap → Prop) : Prop :=
  (∀ h7 : Heap, h7 = h.push (.cells ⟨[.int .i64 p0_1, .int .i64 p0_2, .int .i64 p0_3, .slice p0_4.a p0_4.n p0_4.c, .slice p0_5.a p0_5.n p0_5.c, .slice p0_6.a p0_6.n p0_6.c]⟩ 33) → 
  (∃ x8 : Int, hc h7 ⟨h.size, 1, none⟩ = some (.int .i64 x8) ∧ 
  (sB (decide (x8 < 1)) 
   (R (.bool false) h7) 
   ((∃ x9 : Sl, hc h7 ⟨h.size, 3, none⟩ = some (.slice x9.a x9.n x9.c) ∧ 
   (∃ x10 : Int, hc h7 ⟨h.size, 1, none⟩ = some (.int .i64 x10) ∧ 
   (sB ((x9.n : Int) != x10) 
    (R (.bool false) h7) 
    ((∃ x11 : Int, hc h7 ⟨h.size, 2, none⟩ = some (.int .i64 x11) ∧ 
    (sB (decide (x11 < 0)) 
     (R (.bool false) h7) 
     ((∃ x12 : Int, hc h7 ⟨h.size, 2, none⟩ = some (.int .i64 x12) ∧ 
     (∃ x13 : Int, hc h7 ⟨h.size, 1, none⟩ = some (.int .i64 x13) ∧ 
     (sB (decide (x12 ≥ x13)) 
      (R (.bool false) h7) 
      ((∃ x14 : Sl, hc h7 ⟨h.size, 4, none⟩ = some (.slice x14.a x14.n x14.c) ∧ 
      (∃ I15 : Int → Heap → Nat → Prop, (∃ m16, I15 0 h7 m16) ∧ 
      (∀ (_ : Env) (x_18 : Int) (h19 : Heap) (m17 : Nat), I15 x_18 h19 m17 → 
      (sB (decide (x_18 < (x14.n : Int))) 
        ((NB x14.a fun b20 o21 => ((0 ≤ (x_18 : Int) ∧ (x_18 : Int) < (x14.n : Nat)) ∧ 
        (∃ x22 : Int, ∃ x23 : Bool, ∃ x24 : Int, ∃ x25 : Int, ∃ x26 : Int, ∃ x27 : Bool, atC h19 ⟨b20, o21 + Int.toNat x_18 * 6, none⟩ [.int .i64 x22, .bool x23, .int .i64 x24, .int .i64 x25, .int .i64 x26, .bool x27] ∧ 
        (∀ h28 : Heap, h28 = h19.push (.cells ⟨[.int .i64 0, .bool false, .int .i64 0, .int .i64 0, .int .i64 0, .bool false]⟩ 45) → 
        (okAt h28 ⟨h19.size, 0, none⟩ 6 ∧ ∀ h29 : Heap, h29 = hputs h28 ⟨h19.size, 0, none⟩ 0 [.int .i64 x22, .bool x23, .int .i64 x24, .int .i64 x25, .int .i64 x26, .bool x27] → 
        (∃ x30 : Int, hc h29 ⟨h19.size, 0, none⟩ = some (.int .i64 x30) ∧ 
        (sB (decide (x30 < 0)) 
         (R (.bool false) h29) 
         ((∃ x31 : Int, hc h29 ⟨h19.size, 0, none⟩ = some (.int .i64 x31) ∧ 
         (∃ x32 : Int, hc h29 ⟨h.size, 1, none⟩ = some (.int .i64 x32) ∧ 
         (sB (decide (x31 ≥ x32)) 
          (R (.bool false) h29) 
          ((∃ x33 : Int, hc h29 ⟨h19.size, 4, none⟩ = some (.int .i64 x33) ∧ 
          (sB (decide (x33 < 0)) 
           (R (.bool false) h29) 
           ((∃ x34 : Int, hc h29 ⟨h19.size, 4, none⟩ = some (.int .i64 x34) ∧ 
           (∃ x35 : Int, hc h29 ⟨h.size, 1, none⟩ = some (.int .i64 x35) ∧ 
           (sB (decide (x34 ≥ x35)) 
            (R (.bool false) h29) 
            ((∃ m36, m36 < m17 ∧ I15 (IntKind.wrap .i64 (x_18 + 1)) h29 m36))))))))))))))))))))) 
        ((∃ x37 : Sl, hc h19 ⟨h.size, 5, none⟩ = some (.slice x37.a x37.n x37.c) ∧ 
        (∃ I38 : Int → Heap → Nat → Prop, (∃ m39, I38 0 h19 m39) ∧ 
        (∀ (_ : Env) (x_41 : Int) (h42 : Heap) (m40 : Nat), I38 x_41 h42 m40 → 
        (sB (decide (x_41 < (x37.n : Int))) 
          ((NB x37.a fun b43 o44 => ((0 ≤ (x_41 : Int) ∧ (x_41 : Int) < (x37.n : Nat)) ∧ 
          (∃ x45 : Int, ∃ x46 : Int, ∃ x47 : Int, atC h42 ⟨b43, o44 + Int.toNat x_41 * 3, none⟩ [.int .i64 x45, .int .i64 x46, .int .i64 x47] ∧ 
          (∀ h48 : Heap, h48 = h42.push (.cells ⟨[.int .i64 0, .int .i64 0, .int .i64 0]⟩ 63) → 
          (okAt h48 ⟨h42.size, 0, none⟩ 3 ∧ ∀ h49 : Heap, h49 = hputs h48 ⟨h42.size, 0, none⟩ 0 [.int .i64 x45, .int .i64 x46, .int .i64 x47] → 
          (∃ x50 : Int, hc h49 ⟨h42.size, 0, none⟩ = some (.int .i64 x50) ∧ 
          (sB (decide (x50 < 0)) 
           (R (.bool false) h49) 
           ((∃ x51 : Int, hc h49 ⟨h42.size, 0, none⟩ = some (.int .i64 x51) ∧ 
           (∃ x52 : Int, hc h49 ⟨h.size, 1, none⟩ = some (.int .i64 x52) ∧ 
           (sB (decide (x51 ≥ x52)) 
            (R (.bool false) h49) 
            ((∃ x53 : Int, hc h49 ⟨h42.size, 2, none⟩ = some (.int .i64 x53) ∧ 
            (sB (decide (x53 < 0)) 
             (R (.bool false) h49) 
             ((∃ x54 : Int, hc h49 ⟨h42.size, 2, none⟩ = some (.int .i64 x54) ∧ 
             (∃ x55 : Sl, hc h49 ⟨h.size, 4, none⟩ = some (.slice x55.a x55.n x55.c) ∧ 
             (sB (decide (x54 ≥ (x55.n : Int))) 
              (R (.bool false) h49) 
              ((∃ x56 : Sl, hc h49 ⟨h.size, 4, none⟩ = some (.slice x56.a x56.n x56.c) ∧ 
              (∃ x57 : Int, hc h49 ⟨h42.size, 2, none⟩ = some (.int .i64 x57) ∧ 
              (NB x56.a fun b58 o59 => ((0 ≤ (x57 : Int) ∧ (x57 : Int) < (x56.n : Nat)) ∧ 
              (∃ x60 : Int, hc h49 ⟨b58, o59 + Int.toNat x57 * 6, none⟩ = some (.int .i64 x60) ∧ 
              (∃ x61 : Int, hc h49 ⟨h42.size, 0, none⟩ = some (.int .i64 x61) ∧ 
              (sB (x60 != x61) 
               (R (.bool false) h49) 
               ((∃ m62, m62 < m40 ∧ I38 (IntKind.wrap .i64 (x_41 + 1)) h49 m62))))))))))))))))))))))))))))) 
          (R (.bool true) h42)))))))))))))))))))))))))
theorem vc17e (p0_1 : Int) (p0_2 : Int) (p0_3 : Int) (p0_4 : Sl) (p0_5 : Sl) (p0_6 : Sl) (h : Heap) (R : Value → Heap → Prop) : W17 p0_1 p0_2 p0_3 p0_4 p0_5 p0_6 h R = fnW Tryz.prog 17 (.s .z (.s .z (.s (.s .z (.b (.l [(33, .one (.int .i64))] .z))) (.s (.s .z (.b (.l [(63, .one (.int .i64))] .z))) .z)))) #[.agg ⟨[.int .i64 p0_1, .int .i64 p0_2, .int .i64 p0_3, .slice p0_4.a p0_4.n p0_4.c, .slice p0_5.a p0_5.n p0_5.c, .slice p0_6.a p0_6.n p0_6.c]⟩] h R := by kernel_rfl
theorem vc17 (p0_1 : Int) (p0_2 : Int) (p0_3 : Int) (p0_4 : Sl) (p0_5 : Sl) (p0_6 : Sl) (h : Heap) (R : Value → Heap → Prop) (H : W17 p0_1 p0_2 p0_3 p0_4 p0_5 p0_6 h R) : Fn Tryz.prog 17 #[.agg ⟨[.int .i64 p0_1, .int .i64 p0_2, .int .i64 p0_3, .slice p0_4.a p0_4.n p0_4.c, .slice p0_5.a p0_5.n p0_5.c, .slice p0_6.a p0_6.n p0_6.c]⟩] h R := fnI (vc17e p0_1 p0_2 p0_3 p0_4 p0_5 p0_6 h R) H

/- farandole/farandoleref25.SameLimit -/
def W18 (p0_1 : Int) (p0_2 : Int) (p0_3 : Int) (p0_4 : Sl) (p0_5 : Sl) (p0_6 : Sl) (p1 : Int) (p2 : Int) (h : Heap) (R : Value → Heap → Prop) : Prop :=
  (∀ h7 : Heap, h7 = h.push (.cells ⟨[.int .i64 p0_1, .int .i64 p0_2, .int .i64 p0_3, .slice p0_4.a p0_4.n p0_4.c, .slice p0_5.a p0_5.n p0_5.c, .slice p0_6.a p0_6.n p0_6.c]⟩ 33) → 
  (∃ x8 : Int, ∃ x9 : Int, ∃ x10 : Int, ∃ x11 : Sl, ∃ x12 : Sl, ∃ x13 : Sl, atC h7 ⟨h.size, 0, none⟩ [.int .i64 x8, .int .i64 x9, .int .i64 x10, .slice x11.a x11.n x11.c, .slice x12.a x12.n x12.c, .slice x13.a x13.n x13.c] ∧ 
  (∃ x14 : Int, ∃ x15 : Int, ∃ x16 : Int, ∃ x17 : Sl, ∃ x18 : Sl, ∃ x19 : Sl, atC h7 ⟨h.size, 0, none⟩ [.int .i64 x14, .int .i64 x15, .int .i64 x16, .slice x17.a x17.n x17.c, .slice x18.a x18.n x18.c, .slice x19.a x19.n x19.c] ∧ 
  (Fn Tryz.prog 48 #[.agg ⟨[.int .i64 x8, .int .i64 x9, .int .i64 x10, .slice x11.a x11.n x11.c, .slice x12.a x12.n x12.c, .slice x13.a x13.n x13.c]⟩, .int .i64 p1] h7 
  (fun v20 h22 => ∃ x21 : Int, v20 = .int .i64 x21 ∧ 
  (Sm [⟨h.size, 0, none⟩] h7 h22 ∧ 
  (Fn Tryz.prog 48 #[.agg ⟨[.int .i64 x14, .int .i64 x15, .int .i64 x16, .slice x17.a x17.n x17.c, .slice x18.a x18.n x18.c, .slice x19.a x19.n x19.c]⟩, .int .i64 p2] h22 
  (fun v23 h25 => ∃ x24 : Int, v23 = .int .i64 x24 ∧ 
  (Sm [⟨h.size, 0, none⟩] h22 h25 ∧ 
  (sB (decide (x21 < 0)) 
   ((sB (decide (x21 < 0)) 
    (R (.bool (decide (x24 < 0))) h25) 
    (R (.bool false) h25))) 
   ((sB (decide (x24 < 0)) 
    ((sB (decide (x21 < 0)) 
     (R (.bool (decide (x24 < 0))) h25) 
     (R (.bool false) h25))) 
    ((∃ x26 : Sl, hc h25 ⟨h.size, 5, none⟩ = some (.slice x26.a x26.n x26.c) ∧ 
    (NB x26.a fun b27 o28 => ((0 ≤ (x21 : Int) ∧ (x21 : Int) < (x26.n : Nat)) ∧ 
    (∃ x29 : Int, ∃ x30 : Int, ∃ x31 : Int, atC h25 ⟨b27, o28 + Int.toNat x21 * 3, none⟩ [.int .i64 x29, .int .i64 x30, .int .i64 x31] ∧ 
    (∃ x32 : Sl, hc h25 ⟨h.size, 5, none⟩ = some (.slice x32.a x32.n x32.c) ∧ 
    (NB x32.a fun b33 o34 => ((0 ≤ (x24 : Int) ∧ (x24 : Int) < (x32.n : Nat)) ∧ 
    (∃ x35 : Int, ∃ x36 : Int, ∃ x37 : Int, atC h25 ⟨b33, o34 + Int.toNat x24 * 3, none⟩ [.int .i64 x35, .int .i64 x36, .int .i64 x37] ∧ 
    ((∀ h38 : Heap, h38 = h25.push (.cells ⟨[.int .i64 0, .int .i64 0, .int .i64 0]⟩ 63) → 
    (Sm [⟨b33, o34 + Int.toNat x24 * 3, none⟩, ⟨h.size, 5, none⟩, ⟨b27, o28 + Int.toNat x21 * 3, none⟩, ⟨h.size, 5, none⟩] h25 h38 ∧ 
    (∀ h39 : Heap, h39 = h38.push (.cells ⟨[.int .i64 0, .int .i64 0, .int .i64 0]⟩ 63) → 
    (Sm [⟨b33, o34 + Int.toNat x24 * 3, none⟩, ⟨h.size, 5, none⟩, ⟨b27, o28 + Int.toNat x21 * 3, none⟩, ⟨h.size, 5, none⟩] h38 h39 ∧ 
    (okAt h39 ⟨h25.size, 0, none⟩ 3 ∧ ∀ h40 : Heap, h40 = hputs h39 ⟨h25.size, 0, none⟩ 0 [.int .i64 x29, .int .i64 x30, .int .i64 x31] → 
    (Sm [⟨b33, o34 + Int.toNat x24 * 3, none⟩, ⟨h.size, 5, none⟩] h39 h40 ∧ 
    (okAt h40 ⟨h38.size, 0, none⟩ 3 ∧ ∀ h41 : Heap, h41 = hputs h40 ⟨h38.size, 0, none⟩ 0 [.int .i64 x35, .int .i64 x36, .int .i64 x37] → 
    (∃ x42 : Int, hc h41 ⟨h25.size, 1, none⟩ = some (.int .i64 x42) ∧ 
    (∃ x43 : Int, hc h41 ⟨h38.size, 1, none⟩ = some (.int .i64 x43) ∧ 
    (sB (x42 == x43) 
     ((∃ x44 : Sl, hc h41 ⟨h.size, 4, none⟩ = some (.slice x44.a x44.n x44.c) ∧ 
     (∃ x45 : Int, hc h41 ⟨h25.size, 2, none⟩ = some (.int .i64 x45) ∧ 
     (NB x44.a fun b46 o47 => ((0 ≤ (x45 : Int) ∧ (x45 : Int) < (x44.n : Nat)) ∧ 
     (∃ x48 : Int, ∃ x49 : Bool, ∃ x50 : Int, ∃ x51 : Int, ∃ x52 : Int, ∃ x53 : Bool, atC h41 ⟨b46, o47 + Int.toNat x45 * 6, none⟩ [.int .i64 x48, .bool x49, .int .i64 x50, .int .i64 x51, .int .i64 x52, .bool x53] ∧ 
     (∃ x54 : Sl, hc h41 ⟨h.size, 4, none⟩ = some (.slice x54.a x54.n x54.c) ∧ 
     (∃ x55 : Int, hc h41 ⟨h38.size, 2, none⟩ = some (.int .i64 x55) ∧ 
     (NB x54.a fun b56 o57 => ((0 ≤ (x55 : Int) ∧ (x55 : Int) < (x54.n : Nat)) ∧ 
     (∃ x58 : Int, ∃ x59 : Bool, ∃ x60 : Int, ∃ x61 : Int, ∃ x62 : Int, ∃ x63 : Bool, atC h41 ⟨b56, o57 + Int.toNat x55 * 6, none⟩ [.int .i64 x58, .bool x59, .int .i64 x60, .int .i64 x61, .int .i64 x62, .bool x63] ∧ 
     (Fn Tryz.prog 20 #[.agg ⟨[.int .i64 x48, .bool x49, .int .i64 x50, .int .i64 x51, .int .i64 x52, .bool x53]⟩, .agg ⟨[.int .i64 x58, .bool x59, .int .i64 x60, .int .i64 x61, .int .i64 x62, .bool x63]⟩] h41 
     (fun v64 h66 => ∃ x65 : Bool, v64 = .bool x65 ∧ 
     (Sm [⟨h38.size, 1, none⟩, ⟨h25.size, 1, none⟩] h41 h66 ∧ 
     R (.bool x65) h66)))))))))))))) 
     (R (.bool false) h41)))))))))))) ∧ ((∀ h67 : Heap, h67 = h25.push (.cells ⟨[.int .i64 0, .int .i64 0, .int .i64 0]⟩ 63) → 
    (Sm [⟨b33, o34 + Int.toNat x24 * 3, none⟩, ⟨h.size, 5, none⟩, ⟨b27, o28 + Int.toNat x21 * 3, none⟩, ⟨h.size, 5, none⟩] h25 h67 ∧ 
    (∀ h68 : Heap, h68 = h67.push (.cells ⟨[.int .i64 0, .int .i64 0, .int .i64 0]⟩ 63) → 
    (Sm [⟨b33, o34 + Int.toNat x24 * 3, none⟩, ⟨h.size, 5, none⟩, ⟨b27, o28 + Int.toNat x21 * 3, none⟩, ⟨h.size, 5, none⟩] h67 h68 ∧ 
    (okAt h68 ⟨h67.size, 0, none⟩ 3 ∧ ∀ h69 : Heap, h69 = hputs h68 ⟨h67.size, 0, none⟩ 0 [.int .i64 x29, .int .i64 x30, .int .i64 x31] → 
    (Sm [⟨b33, o34 + Int.toNat x24 * 3, none⟩, ⟨h.size, 5, none⟩] h68 h69 ∧ 
    (okAt h69 ⟨h25.size, 0, none⟩ 3 ∧ ∀ h70 : Heap, h70 = hputs h69 ⟨h25.size, 0, none⟩ 0 [.int .i64 x35, .int .i64 x36, .int .i64 x37] → 
    (∃ x71 : Int, hc h70 ⟨h67.size, 1, none⟩ = some (.int .i64 x71) ∧ 
    (∃ x72 : Int, hc h70 ⟨h25.size, 1, none⟩ = some (.int .i64 x72) ∧ 
    (sB (x71 == x72) 
     ((∃ x73 : Sl, hc h70 ⟨h.size, 4, none⟩ = some (.slice x73.a x73.n x73.c) ∧ 
     (∃ x74 : Int, hc h70 ⟨h67.size, 2, none⟩ = some (.int .i64 x74) ∧ 
     (NB x73.a fun b75 o76 => ((0 ≤ (x74 : Int) ∧ (x74 : Int) < (x73.n : Nat)) ∧ 
     (∃ x77 : Int, ∃ x78 : Bool, ∃ x79 : Int, ∃ x80 : Int, ∃ x81 : Int, ∃ x82 : Bool, atC h70 ⟨b75, o76 + Int.toNat x74 * 6, none⟩ [.int .i64 x77, .bool x78, .int .i64 x79, .int .i64 x80, .int .i64 x81, .bool x82] ∧ 
     (∃ x83 : Sl, hc h70 ⟨h.size, 4, none⟩ = some (.slice x83.a x83.n x83.c) ∧ 
     (∃ x84 : Int, hc h70 ⟨h25.size, 2, none⟩ = some (.int .i64 x84) ∧ 
     (NB x83.a fun b85 o86 => ((0 ≤ (x84 : Int) ∧ (x84 : Int) < (x83.n : Nat)) ∧ 
     (∃ x87 : Int, ∃ x88 : Bool, ∃ x89 : Int, ∃ x90 : Int, ∃ x91 : Int, ∃ x92 : Bool, atC h70 ⟨b85, o86 + Int.toNat x84 * 6, none⟩ [.int .i64 x87, .bool x88, .int .i64 x89, .int .i64 x90, .int .i64 x91, .bool x92] ∧ 
     (Fn Tryz.prog 20 #[.agg ⟨[.int .i64 x77, .bool x78, .int .i64 x79, .int .i64 x80, .int .i64 x81, .bool x82]⟩, .agg ⟨[.int .i64 x87, .bool x88, .int .i64 x89, .int .i64 x90, .int .i64 x91, .bool x92]⟩] h70 
     (fun v93 h95 => ∃ x94 : Bool, v93 = .bool x94 ∧ 
     (Sm [⟨h25.size, 1, none⟩, ⟨h67.size, 1, none⟩] h70 h95 ∧ 
     R (.bool x94) h95)))))))))))))) 
     (R (.bool false) h70)))))))))))))))))))))))))))))))))
theorem vc18e (p0_1 : Int) (p0_2 : Int) (p0_3 : Int) (p0_4 : Sl) (p0_5 : Sl) (p0_6 : Sl) (p1 : Int) (p2 : Int) (h : Heap) (R : Value → Heap → Prop) : W18 p0_1 p0_2 p0_3 p0_4 p0_5 p0_6 p1 p2 h R = fnW Tryz.prog 18 .z #[.agg ⟨[.int .i64 p0_1, .int .i64 p0_2, .int .i64 p0_3, .slice p0_4.a p0_4.n p0_4.c, .slice p0_5.a p0_5.n p0_5.c, .slice p0_6.a p0_6.n p0_6.c]⟩, .int .i64 p1, .int .i64 p2] h R := by kernel_rfl
theorem vc18 (p0_1 : Int) (p0_2 : Int) (p0_3 : Int) (p0_4 : Sl) (p0_5 : Sl) (p0_6 : Sl) (p1 : Int) (p2 : Int) (h : Heap) (R : Value → Heap → Prop) (H : W18 p0_1 p0_2 p0_3 p0_4 p0_5 p0_6 p1 p2 h R) : Fn Tryz.prog 18 #[.agg ⟨[.int .i64 p0_1, .int .i64 p0_2, .int .i64 p0_3, .slice p0_4.a p0_4.n p0_4.c, .slice p0_5.a p0_5.n p0_5.c, .slice p0_6.a p0_6.n p0_6.c]⟩, .int .i64 p1, .int .i64 p2] h R := fnI (vc18e p0_1 p0_2 p0_3 p0_4 p0_5 p0_6 p1 p2 h R) H

/- farandole/farandoleref25.Out
   loop rrlrborlbrrlb: k_23:Int
   loop rrlrb: out_11:Sl, i_12:Int -/
def W19 (p0_1 : Int) (p0_2 : Int) (p0_3 : Int) (p0_4 : Sl) (p0_5 : Sl) (p0_6 : Sl) (p1 : Int) (h : Heap) (R : Value → Heap → Prop) : Prop :=
  (∀ h7 : Heap, h7 = h.push (.cells ⟨[.int .i64 p0_1, .int .i64 p0_2, .int .i64 p0_3, .slice p0_4.a p0_4.n p0_4.c, .slice p0_5.a p0_5.n p0_5.c, .slice p0_6.a p0_6.n p0_6.c]⟩ 33) → 
  (∃ I8 : Sl → Int → Heap → Nat → Prop, (∃ m9, I8 ⟨none, 0, 0⟩ 0 h7 m9) ∧ 
  (∀ (_ : Env) (out_11 : Sl) (i_12 : Int) (h13 : Heap) (m10 : Nat), I8 out_11 i_12 h13 m10 → 
  (∃ x14 : Sl, hc h13 ⟨h.size, 4, none⟩ = some (.slice x14.a x14.n x14.c) ∧ 
   (sB (decide (i_12 < (x14.n : Int))) 
    ((∃ x15 : Sl, hc h13 ⟨h.size, 4, none⟩ = some (.slice x15.a x15.n x15.c) ∧ 
    (NB x15.a fun b16 o17 => ((0 ≤ (i_12 : Int) ∧ (i_12 : Int) < (x15.n : Nat)) ∧ 
    (∃ x18 : Int, hc h13 ⟨b16, o17 + Int.toNat i_12 * 6, none⟩ = some (.int .i64 x18) ∧ 
    (sB (x18 != p1) 
     ((∃ m19, m19 < m10 ∧ I8 out_11 (IntKind.wrap .i64 (i_12 + 1)) h13 m19)) 
     ((∃ I20 : Int → Heap → Nat → Prop, (∃ m21, I20 0 h13 m21) ∧ 
     (∀ (_ : Env) (k_23 : Int) (h24 : Heap) (m22 : Nat), I20 k_23 h24 m22 → 
     (sB (decide (k_23 < (out_11.n : Int))) 
       ((∃ x25 : Sl, hc h24 ⟨h.size, 4, none⟩ = some (.slice x25.a x25.n x25.c) ∧ 
       (NB x25.a fun b26 o27 => ((0 ≤ (i_12 : Int) ∧ (i_12 : Int) < (x25.n : Nat)) ∧ 
       (∃ x28 : Int, ∃ x29 : Bool, ∃ x30 : Int, ∃ x31 : Int, ∃ x32 : Int, ∃ x33 : Bool, atC h24 ⟨b26, o27 + Int.toNat i_12 * 6, none⟩ [.int .i64 x28, .bool x29, .int .i64 x30, .int .i64 x31, .int .i64 x32, .bool x33] ∧ 
       (∃ x34 : Sl, hc h24 ⟨h.size, 4, none⟩ = some (.slice x34.a x34.n x34.c) ∧ 
       (NB out_11.a fun b35 o36 => ((0 ≤ (k_23 : Int) ∧ (k_23 : Int) < (out_11.n : Nat)) ∧ 
       (∃ x37 : Int, hc h24 ⟨b35, o36 + Int.toNat k_23 * 1, none⟩ = some (.int .i64 x37) ∧ 
       (NB x34.a fun b38 o39 => ((0 ≤ (x37 : Int) ∧ (x37 : Int) < (x34.n : Nat)) ∧ 
       (∃ x40 : Int, ∃ x41 : Bool, ∃ x42 : Int, ∃ x43 : Int, ∃ x44 : Int, ∃ x45 : Bool, atC h24 ⟨b38, o39 + Int.toNat x37 * 6, none⟩ [.int .i64 x40, .bool x41, .int .i64 x42, .int .i64 x43, .int .i64 x44, .bool x45] ∧ 
       (Fn Tryz.prog 26 #[.agg ⟨[.int .i64 x28, .bool x29, .int .i64 x30, .int .i64 x31, .int .i64 x32, .bool x33]⟩, .agg ⟨[.int .i64 x40, .bool x41, .int .i64 x42, .int .i64 x43, .int .i64 x44, .bool x45]⟩] h24 
       (fun v46 h48 => ∃ x47 : Bool, v46 = .bool x47 ∧ 
       (sB (!x47) 
        ((∃ m49, m49 < m22 ∧ I20 (IntKind.wrap .i64 (k_23 + 1)) h48 m49)) 
        ((((0 : Int) ≤ (0 : Int) ∧ (0 : Int) ≤ (k_23 : Int) ∧ (k_23 : Int) ≤ (out_11.c : Nat)) ∧ 
        (((0 : Int) ≤ (k_23 : Int) ∧ (k_23 : Int) ≤ ((out_11.n : Nat) : Int) ∧ ((out_11.n : Nat) : Int) ≤ (out_11.c : Nat)) ∧ 
        ((∀ h50 : Heap, h50 = h48.push (.cells ⟨[]⟩ 3) → 
        ((App Tryz.prog 42 42 (.slice (some ⟨h48.size, 0, none⟩) 0 0) (.slice (subA out_11.a (Int.toNat 0) out_11.c 1) (Int.toNat k_23 - Int.toNat 0) (out_11.c - Int.toNat 0)) h50 fun s51 h52 => 
        (∀ h53 : Heap, h53 = h52.push (.cells ⟨[.int .i64 i_12]⟩ 3) → 
        (App Tryz.prog 42 42 (.slice s51.a s51.n s51.c) (.slice (some ⟨h52.size, 0, none⟩) 1 1) h53 fun s54 h55 => 
        (App Tryz.prog 42 42 (.slice s54.a s54.n s54.c) (.slice (subA out_11.a (Int.toNat k_23) out_11.c 1) (Int.toNat (out_11.n : Nat) - Int.toNat k_23) (out_11.c - Int.toNat k_23)) h55 fun s56 h57 => 
        (∃ m58, m58 < m10 ∧ I8 s56 (IntKind.wrap .i64 (i_12 + 1)) h57 m58)))))) ∧ ((∀ h59 : Heap, h59 = h50.push (.cells ⟨[.int .i64 i_12]⟩ 3) → 
        (App Tryz.prog 42 42 (.slice (some ⟨h48.size, 0, none⟩) 0 0) (.slice (subA out_11.a (Int.toNat 0) out_11.c 1) (Int.toNat k_23 - Int.toNat 0) (out_11.c - Int.toNat 0)) h59 fun s60 h61 => 
        (App Tryz.prog 42 42 (.slice s60.a s60.n s60.c) (.slice (some ⟨h50.size, 0, none⟩) 1 1) h61 fun s62 h63 => 
        (App Tryz.prog 42 42 (.slice s62.a s62.n s62.c) (.slice (subA out_11.a (Int.toNat k_23) out_11.c 1) (Int.toNat (out_11.n : Nat) - Int.toNat k_23) (out_11.c - Int.toNat k_23)) h63 fun s64 h65 => 
        (∃ m66, m66 < m10 ∧ I8 s64 (IntKind.wrap .i64 (i_12 + 1)) h65 m66)))))))) ∧ ((∀ h67 : Heap, h67 = h48.push (.cells ⟨[.int .i64 i_12]⟩ 3) → 
        (∀ h68 : Heap, h68 = h67.push (.cells ⟨[]⟩ 3) → 
        (App Tryz.prog 42 42 (.slice (some ⟨h67.size, 0, none⟩) 0 0) (.slice (subA out_11.a (Int.toNat 0) out_11.c 1) (Int.toNat k_23 - Int.toNat 0) (out_11.c - Int.toNat 0)) h68 fun s69 h70 => 
        (App Tryz.prog 42 42 (.slice s69.a s69.n s69.c) (.slice (some ⟨h48.size, 0, none⟩) 1 1) h70 fun s71 h72 => 
        (App Tryz.prog 42 42 (.slice s71.a s71.n s71.c) (.slice (subA out_11.a (Int.toNat k_23) out_11.c 1) (Int.toNat (out_11.n : Nat) - Int.toNat k_23) (out_11.c - Int.toNat k_23)) h72 fun s73 h74 => 
        (∃ m75, m75 < m10 ∧ I8 s73 (IntKind.wrap .i64 (i_12 + 1)) h74 m75))))))))))))))))))))))))) 
       ((((0 : Int) ≤ (0 : Int) ∧ (0 : Int) ≤ (k_23 : Int) ∧ (k_23 : Int) ≤ (out_11.c : Nat)) ∧ 
       (((0 : Int) ≤ (k_23 : Int) ∧ (k_23 : Int) ≤ ((out_11.n : Nat) : Int) ∧ ((out_11.n : Nat) : Int) ≤ (out_11.c : Nat)) ∧ 
       ((∀ h76 : Heap, h76 = h24.push (.cells ⟨[]⟩ 3) → 
       ((App Tryz.prog 42 42 (.slice (some ⟨h24.size, 0, none⟩) 0 0) (.slice (subA out_11.a (Int.toNat 0) out_11.c 1) (Int.toNat k_23 - Int.toNat 0) (out_11.c - Int.toNat 0)) h76 fun s77 h78 => 
       (∀ h79 : Heap, h79 = h78.push (.cells ⟨[.int .i64 i_12]⟩ 3) → 
       (App Tryz.prog 42 42 (.slice s77.a s77.n s77.c) (.slice (some ⟨h78.size, 0, none⟩) 1 1) h79 fun s80 h81 => 
       (App Tryz.prog 42 42 (.slice s80.a s80.n s80.c) (.slice (subA out_11.a (Int.toNat k_23) out_11.c 1) (Int.toNat (out_11.n : Nat) - Int.toNat k_23) (out_11.c - Int.toNat k_23)) h81 fun s82 h83 => 
       (∃ m84, m84 < m10 ∧ I8 s82 (IntKind.wrap .i64 (i_12 + 1)) h83 m84)))))) ∧ ((∀ h85 : Heap, h85 = h76.push (.cells ⟨[.int .i64 i_12]⟩ 3) → 
       (App Tryz.prog 42 42 (.slice (some ⟨h24.size, 0, none⟩) 0 0) (.slice (subA out_11.a (Int.toNat 0) out_11.c 1) (Int.toNat k_23 - Int.toNat 0) (out_11.c - Int.toNat 0)) h85 fun s86 h87 => 
       (App Tryz.prog 42 42 (.slice s86.a s86.n s86.c) (.slice (some ⟨h76.size, 0, none⟩) 1 1) h87 fun s88 h89 => 
       (App Tryz.prog 42 42 (.slice s88.a s88.n s88.c) (.slice (subA out_11.a (Int.toNat k_23) out_11.c 1) (Int.toNat (out_11.n : Nat) - Int.toNat k_23) (out_11.c - Int.toNat k_23)) h89 fun s90 h91 => 
       (∃ m92, m92 < m10 ∧ I8 s90 (IntKind.wrap .i64 (i_12 + 1)) h91 m92)))))))) ∧ ((∀ h93 : Heap, h93 = h24.push (.cells ⟨[.int .i64 i_12]⟩ 3) → 
       (∀ h94 : Heap, h94 = h93.push (.cells ⟨[]⟩ 3) → 
       (App Tryz.prog 42 42 (.slice (some ⟨h93.size, 0, none⟩) 0 0) (.slice (subA out_11.a (Int.toNat 0) out_11.c 1) (Int.toNat k_23 - Int.toNat 0) (out_11.c - Int.toNat 0)) h94 fun s95 h96 => 
       (App Tryz.prog 42 42 (.slice s95.a s95.n s95.c) (.slice (some ⟨h24.size, 0, none⟩) 1 1) h96 fun s97 h98 => 
       (App Tryz.prog 42 42 (.slice s97.a s97.n s97.c) (.slice (subA out_11.a (Int.toNat k_23) out_11.c 1) (Int.toNat (out_11.n : Nat) - Int.toNat k_23) (out_11.c - Int.toNat k_23)) h98 fun s99 h100 => 
       (∃ m101, m101 < m10 ∧ I8 s99 (IntKind.wrap .i64 (i_12 + 1)) h100 m101)))))))))))))))))))) 
    (R (.slice out_11.a out_11.n out_11.c) h13))))))
theorem vc19e (p0_1 : Int) (p0_2 : Int) (p0_3 : Int) (p0_4 : Sl) (p0_5 : Sl) (p0_6 : Sl) (p1 : Int) (h : Heap) (R : Value → Heap → Prop) : W19 p0_1 p0_2 p0_3 p0_4 p0_5 p0_6 p1 h R = fnW Tryz.prog 19 (.s .z (.s .z (.s (.s .z (.b (.l [(5, .one (.slice)), (6, .one (.int .i64))] (.s .z (.s (.b (.s .z (.s .z (.s (.b (.l [(7, .one (.int .i64))] .z)) .z)))) .z))))) .z))) #[.agg ⟨[.int .i64 p0_1, .int .i64 p0_2, .int .i64 p0_3, .slice p0_4.a p0_4.n p0_4.c, .slice p0_5.a p0_5.n p0_5.c, .slice p0_6.a p0_6.n p0_6.c]⟩, .int .i64 p1] h R := by kernel_rfl
theorem vc19 (p0_1 : Int) (p0_2 : Int) (p0_3 : Int) (p0_4 : Sl) (p0_5 : Sl) (p0_6 : Sl) (p1 : Int) (h : Heap) (R : Value → Heap → Prop) (H : W19 p0_1 p0_2 p0_3 p0_4 p0_5 p0_6 p1 h R) : Fn Tryz.prog 19 #[.agg ⟨[.int .i64 p0_1, .int .i64 p0_2, .int .i64 p0_3, .slice p0_4.a p0_4.n p0_4.c, .slice p0_5.a p0_5.n p0_5.c, .slice p0_6.a p0_6.n p0_6.c]⟩, .int .i64 p1] h R := fnI (vc19e p0_1 p0_2 p0_3 p0_4 p0_5 p0_6 p1 h R) H

/- farandole/farandoleref25.SameMove -/
def W20 (p0_1 : Int) (p0_2 : Bool) (p0_3 : Int) (p0_4 : Int) (p0_5 : Int) (p0_6 : Bool) (p1_7 : Int) (p1_8 : Bool) (p1_9 : Int) (p1_10 : Int) (p1_11 : Int) (p1_12 : Bool) (h : Heap) (R : Value → Heap → Prop) : Prop :=
  (∀ h13 : Heap, h13 = h.push (.cells ⟨[.int .i64 p0_1, .bool p0_2, .int .i64 p0_3, .int .i64 p0_4, .int .i64 p0_5, .bool p0_6]⟩ 45) → 
  (∀ h14 : Heap, h14 = h13.push (.cells ⟨[.int .i64 p1_7, .bool p1_8, .int .i64 p1_9, .int .i64 p1_10, .int .i64 p1_11, .bool p1_12]⟩ 45) → 
  (∃ x15 : Bool, hc h14 ⟨h.size, 1, none⟩ = some (.bool x15) ∧ 
  (∃ x16 : Bool, hc h14 ⟨h13.size, 1, none⟩ = some (.bool x16) ∧ 
  (sB (x15 == x16) 
   ((∃ x17 : Int, hc h14 ⟨h.size, 2, none⟩ = some (.int .i64 x17) ∧ 
   (∃ x18 : Int, hc h14 ⟨h13.size, 2, none⟩ = some (.int .i64 x18) ∧ 
   (sB (x17 == x18) 
    ((∃ x19 : Int, hc h14 ⟨h.size, 3, none⟩ = some (.int .i64 x19) ∧ 
    (∃ x20 : Int, hc h14 ⟨h13.size, 3, none⟩ = some (.int .i64 x20) ∧ 
    (sB (x19 == x20) 
     ((∃ x21 : Bool, hc h14 ⟨h.size, 5, none⟩ = some (.bool x21) ∧ 
     (∃ x22 : Bool, hc h14 ⟨h13.size, 5, none⟩ = some (.bool x22) ∧ 
     R (.bool (x21 == x22)) h14))) 
     (R (.bool false) h14))))) 
    (R (.bool false) h14))))) 
   (R (.bool false) h14))))))
theorem vc20e (p0_1 : Int) (p0_2 : Bool) (p0_3 : Int) (p0_4 : Int) (p0_5 : Int) (p0_6 : Bool) (p1_7 : Int) (p1_8 : Bool) (p1_9 : Int) (p1_10 : Int) (p1_11 : Int) (p1_12 : Bool) (h : Heap) (R : Value → Heap → Prop) : W20 p0_1 p0_2 p0_3 p0_4 p0_5 p0_6 p1_7 p1_8 p1_9 p1_10 p1_11 p1_12 h R = fnW Tryz.prog 20 .z #[.agg ⟨[.int .i64 p0_1, .bool p0_2, .int .i64 p0_3, .int .i64 p0_4, .int .i64 p0_5, .bool p0_6]⟩, .agg ⟨[.int .i64 p1_7, .bool p1_8, .int .i64 p1_9, .int .i64 p1_10, .int .i64 p1_11, .bool p1_12]⟩] h R := by kernel_rfl
theorem vc20 (p0_1 : Int) (p0_2 : Bool) (p0_3 : Int) (p0_4 : Int) (p0_5 : Int) (p0_6 : Bool) (p1_7 : Int) (p1_8 : Bool) (p1_9 : Int) (p1_10 : Int) (p1_11 : Int) (p1_12 : Bool) (h : Heap) (R : Value → Heap → Prop) (H : W20 p0_1 p0_2 p0_3 p0_4 p0_5 p0_6 p1_7 p1_8 p1_9 p1_10 p1_11 p1_12 h R) : Fn Tryz.prog 20 #[.agg ⟨[.int .i64 p0_1, .bool p0_2, .int .i64 p0_3, .int .i64 p0_4, .int .i64 p0_5, .bool p0_6]⟩, .agg ⟨[.int .i64 p1_7, .bool p1_8, .int .i64 p1_9, .int .i64 p1_10, .int .i64 p1_11, .bool p1_12]⟩] h R := fnI (vc20e p0_1 p0_2 p0_3 p0_4 p0_5 p0_6 p1_7 p1_8 p1_9 p1_10 p1_11 p1_12 h R) H

/- farandole/farandoleref25.Before -/
def W26 (p0_1 : Int) (p0_2 : Bool) (p0_3 : Int) (p0_4 : Int) (p0_5 : Int) (p0_6 : Bool) (p1_7 : Int) (p1_8 : Bool) (p1_9 : Int) (p1_10 : Int) (p1_11 : Int) (p1_12 : Bool) (h : Heap) (R : Value → Heap → Prop) : Prop :=
  (∀ h13 : Heap, h13 = h.push (.cells ⟨[.int .i64 p0_1, .bool p0_2, .int .i64 p0_3, .int .i64 p0_4, .int .i64 p0_5, .bool p0_6]⟩ 45) → 
  (∀ h14 : Heap, h14 = h13.push (.cells ⟨[.int .i64 p1_7, .bool p1_8, .int .i64 p1_9, .int .i64 p1_10, .int .i64 p1_11, .bool p1_12]⟩ 45) → 
  (∃ x15 : Bool, hc h14 ⟨h.size, 1, none⟩ = some (.bool x15) ∧ 
  (∃ x16 : Bool, hc h14 ⟨h13.size, 1, none⟩ = some (.bool x16) ∧ 
  (sB (!(x15 == x16)) 
   ((∃ x17 : Bool, hc h14 ⟨h.size, 1, none⟩ = some (.bool x17) ∧ 
   R (.bool x17) h14)) 
   ((∃ x18 : Int, hc h14 ⟨h.size, 2, none⟩ = some (.int .i64 x18) ∧ 
   (∃ x19 : Int, hc h14 ⟨h13.size, 2, none⟩ = some (.int .i64 x19) ∧ 
   (sB (x18 != x19) 
    ((∃ x20 : Int, hc h14 ⟨h.size, 2, none⟩ = some (.int .i64 x20) ∧ 
    (∃ x21 : Int, hc h14 ⟨h13.size, 2, none⟩ = some (.int .i64 x21) ∧ 
    R (.bool (decide (x20 < x21))) h14))) 
    ((∃ x22 : Int, hc h14 ⟨h.size, 3, none⟩ = some (.int .i64 x22) ∧ 
    (∃ x23 : Int, hc h14 ⟨h13.size, 3, none⟩ = some (.int .i64 x23) ∧ 
    R (.bool (decide (x22 < x23))) h14))))))))))))
theorem vc26e (p0_1 : Int) (p0_2 : Bool) (p0_3 : Int) (p0_4 : Int) (p0_5 : Int) (p0_6 : Bool) (p1_7 : Int) (p1_8 : Bool) (p1_9 : Int) (p1_10 : Int) (p1_11 : Int) (p1_12 : Bool) (h : Heap) (R : Value → Heap → Prop) : W26 p0_1 p0_2 p0_3 p0_4 p0_5 p0_6 p1_7 p1_8 p1_9 p1_10 p1_11 p1_12 h R = fnW Tryz.prog 26 .z #[.agg ⟨[.int .i64 p0_1, .bool p0_2, .int .i64 p0_3, .int .i64 p0_4, .int .i64 p0_5, .bool p0_6]⟩, .agg ⟨[.int .i64 p1_7, .bool p1_8, .int .i64 p1_9, .int .i64 p1_10, .int .i64 p1_11, .bool p1_12]⟩] h R := by kernel_rfl
theorem vc26 (p0_1 : Int) (p0_2 : Bool) (p0_3 : Int) (p0_4 : Int) (p0_5 : Int) (p0_6 : Bool) (p1_7 : Int) (p1_8 : Bool) (p1_9 : Int) (p1_10 : Int) (p1_11 : Int) (p1_12 : Bool) (h : Heap) (R : Value → Heap → Prop) (H : W26 p0_1 p0_2 p0_3 p0_4 p0_5 p0_6 p1_7 p1_8 p1_9 p1_10 p1_11 p1_12 h R) : Fn Tryz.prog 26 #[.agg ⟨[.int .i64 p0_1, .bool p0_2, .int .i64 p0_3, .int .i64 p0_4, .int .i64 p0_5, .bool p0_6]⟩, .agg ⟨[.int .i64 p1_7, .bool p1_8, .int .i64 p1_9, .int .i64 p1_10, .int .i64 p1_11, .bool p1_12]⟩] h R := fnI (vc26e p0_1 p0_2 p0_3 p0_4 p0_5 p0_6 p1_7 p1_8 p1_9 p1_10 p1_11 p1_12 h R) H

/- farandole/farandoleref25.Limit
   loop rlrb: i_11:Int -/
def W48 (p0_1 : Int) (p0_2 : Int) (p0_3 : Int) (p0_4 : Sl) (p0_5 : Sl) (p0_6 : Sl) (p1 : Int) (h : Heap) (R : Value → Heap → Prop) : Prop :=
  (∀ h7 : Heap, h7 = h.push (.cells ⟨[.int .i64 p0_1, .int .i64 p0_2, .int .i64 p0_3, .slice p0_4.a p0_4.n p0_4.c, .slice p0_5.a p0_5.n p0_5.c, .slice p0_6.a p0_6.n p0_6.c]⟩ 33) → 
  (∃ I8 : Int → Heap → Nat → Prop, (∃ m9, I8 0 h7 m9) ∧ 
  (∀ (_ : Env) (i_11 : Int) (h12 : Heap) (m10 : Nat), I8 i_11 h12 m10 → 
  (∃ x13 : Sl, hc h12 ⟨h.size, 5, none⟩ = some (.slice x13.a x13.n x13.c) ∧ 
   (sB (decide (i_11 < (x13.n : Int))) 
    ((∃ x14 : Sl, hc h12 ⟨h.size, 5, none⟩ = some (.slice x14.a x14.n x14.c) ∧ 
    (NB x14.a fun b15 o16 => ((0 ≤ (i_11 : Int) ∧ (i_11 : Int) < (x14.n : Nat)) ∧ 
    (∃ x17 : Int, hc h12 ⟨b15, o16 + Int.toNat i_11 * 3, none⟩ = some (.int .i64 x17) ∧ 
    (sB (x17 == p1) 
     (R (.int .i64 i_11) h12) 
     ((∃ m18, m18 < m10 ∧ I8 (IntKind.wrap .i64 (i_11 + 1)) h12 m18)))))))) 
    (R (.int .i64 (-1)) h12))))))
theorem vc48e (p0_1 : Int) (p0_2 : Int) (p0_3 : Int) (p0_4 : Sl) (p0_5 : Sl) (p0_6 : Sl) (p1 : Int) (h : Heap) (R : Value → Heap → Prop) : W48 p0_1 p0_2 p0_3 p0_4 p0_5 p0_6 p1 h R = fnW Tryz.prog 48 (.s .z (.s (.s .z (.b (.l [(5, .one (.int .i64))] .z))) .z)) #[.agg ⟨[.int .i64 p0_1, .int .i64 p0_2, .int .i64 p0_3, .slice p0_4.a p0_4.n p0_4.c, .slice p0_5.a p0_5.n p0_5.c, .slice p0_6.a p0_6.n p0_6.c]⟩, .int .i64 p1] h R := by kernel_rfl
theorem vc48 (p0_1 : Int) (p0_2 : Int) (p0_3 : Int) (p0_4 : Sl) (p0_5 : Sl) (p0_6 : Sl) (p1 : Int) (h : Heap) (R : Value → Heap → Prop) (H : W48 p0_1 p0_2 p0_3 p0_4 p0_5 p0_6 p1 h R) : Fn Tryz.prog 48 #[.agg ⟨[.int .i64 p0_1, .int .i64 p0_2, .int .i64 p0_3, .slice p0_4.a p0_4.n p0_4.c, .slice p0_5.a p0_5.n p0_5.c, .slice p0_6.a p0_6.n p0_6.c]⟩, .int .i64 p1] h R := fnI (vc48e p0_1 p0_2 p0_3 p0_4 p0_5 p0_6 p1 h R) H

/- farandole/farandolelaw25.ProjectMinimal
   loop rrrrrrrlrborrlbrrrb: x_67:Int
   loop rrrrrrrrlrborbrrborrlbrrborrlbrrrrlrb: ok_140:Bool, j_141:Int
   loop rrrrrrrrlrborbrrborrlbrrb: changed_111:Bool, x_112:Int
   loop rrrrrrrrlrborbrrb: changed_104:Bool, x_105:Int
   loop rrrrrrrrrlrborrlbrrb: x_244:Int
   loop rrrrrrrrrlrb: x_238:Int
   loop rrrrrrrrlrb: changed_99:Bool
   loop rrrrrrrlrb: x_58:Int -/
def W4 (p0_1 : ByteArray) (p0_2 : Sl) (p0_3 : Sl) (p0_4 : Int) (p0_5 : Int) (p0_6 : Int) (p0_7 : Sl) (p0_8 : Sl) (p1 : Int) (h : Heap) (R : Value → Heap → Prop) : Prop :=
  (∀ h9 : Heap, h9 = h.push (.cells ⟨[.string p0_1, .slice p0_2.a p0_2.n p0_2.c, .slice p0_3.a p0_3.n p0_3.c, .int .i64 p0_4, .int .i64 p0_5, .int .i64 p0_6, .slice p0_7.a p0_7.n p0_7.c, .slice p0_8.a p0_8.n p0_8.c]⟩ 27) → 
  (Fn Tryz.prog 10 #[] h9 
  (fun v10 h12 => ∃ x11 : Bool, v10 = .bool x11 ∧ 
  (sB (!x11) 
   (R (.bool false) h12) 
   ((∃ x13 : ByteArray, ∃ x14 : Sl, ∃ x15 : Sl, ∃ x16 : Int, ∃ x17 : Int, ∃ x18 : Int, ∃ x19 : Sl, ∃ x20 : Sl, atC h12 ⟨h.size, 0, none⟩ [.string x13, .slice x14.a x14.n x14.c, .slice x15.a x15.n x15.c, .int .i64 x16, .int .i64 x17, .int .i64 x18, .slice x19.a x19.n x19.c, .slice x20.a x20.n x20.c] ∧ 
   (Fn Tryz.prog 11 #[.agg ⟨[.string x13, .slice x14.a x14.n x14.c, .slice x15.a x15.n x15.c, .int .i64 x16, .int .i64 x17, .int .i64 x18, .slice x19.a x19.n x19.c, .slice x20.a x20.n x20.c]⟩] h12 
   (fun v21 h23 => ∃ x22 : Bool, v21 = .bool x22 ∧ 
   (sB (!x22) 
    (R (.bool true) h23) 
    ((∃ x24 : ByteArray, ∃ x25 : Sl, ∃ x26 : Sl, ∃ x27 : Int, ∃ x28 : Int, ∃ x29 : Int, ∃ x30 : Sl, ∃ x31 : Sl, atC h23 ⟨h.size, 0, none⟩ [.string x24, .slice x25.a x25.n x25.c, .slice x26.a x26.n x26.c, .int .i64 x27, .int .i64 x28, .int .i64 x29, .slice x30.a x30.n x30.c, .slice x31.a x31.n x31.c] ∧ 
    (Fn Tryz.prog 12 #[.agg ⟨[.string x24, .slice x25.a x25.n x25.c, .slice x26.a x26.n x26.c, .int .i64 x27, .int .i64 x28, .int .i64 x29, .slice x30.a x30.n x30.c, .slice x31.a x31.n x31.c]⟩, .int .i64 p1] h23 
    (fun v32 h40 => ∃ x33 : Int, ∃ x34 : Int, ∃ x35 : Int, ∃ x36 : Sl, ∃ x37 : Sl, ∃ x38 : Sl, ∃ x39 : Int, v32 = .tuple ⟨[.agg ⟨[.int .i64 x33, .int .i64 x34, .int .i64 x35, .slice x36.a x36.n x36.c, .slice x37.a x37.n x37.c, .slice x38.a x38.n x38.c]⟩, .int .i64 x39]⟩ ∧ 
    (∀ h41 : Heap, h41 = h40.push (.cells ⟨[.int .i64 0, .int .i64 0, .int .i64 0, .slice none 0 0, .slice none 0 0, .slice none 0 0]⟩ 33) → 
    (okAt h41 ⟨h40.size, 0, none⟩ 6 ∧ ∀ h42 : Heap, h42 = hputs h41 ⟨h40.size, 0, none⟩ 0 [.int .i64 x33, .int .i64 x34, .int .i64 x35, .slice x36.a x36.n x36.c, .slice x37.a x37.n x37.c, .slice x38.a x38.n x38.c] → 
    (sB (x39 != 0) 
     ((∃ x43 : Sl, hc h42 ⟨h40.size, 4, none⟩ = some (.slice x43.a x43.n x43.c) ∧ 
     R (.bool ((x43.n : Int) == 0)) h42)) 
     ((∃ x44 : Int, ∃ x45 : Int, ∃ x46 : Int, ∃ x47 : Sl, ∃ x48 : Sl, ∃ x49 : Sl, atC h42 ⟨h40.size, 0, none⟩ [.int .i64 x44, .int .i64 x45, .int .i64 x46, .slice x47.a x47.n x47.c, .slice x48.a x48.n x48.c, .slice x49.a x49.n x49.c] ∧ 
     (Fn Tryz.prog 17 #[.agg ⟨[.int .i64 x44, .int .i64 x45, .int .i64 x46, .slice x47.a x47.n x47.c, .slice x48.a x48.n x48.c, .slice x49.a x49.n x49.c]⟩] h42 
     (fun v50 h52 => ∃ x51 : Bool, v50 = .bool x51 ∧ 
     (sB (!x51) 
      (R (.bool false) h52) 
      ((∃ x53 : Int, hc h52 ⟨h40.size, 1, none⟩ = some (.int .i64 x53) ∧ 
      (((0 : Int) ≤ x53 ∧ (x53 : Int) ≤ x53 ∧ ((24 : Nat) : Int) * x53 ≤ 140737488355328) ∧ ∀ h54 : Heap, h54 = h52.push (.cells ⟨madeL Tryz.prog 30 (Int.toNat x53)⟩ 30) → 
      (∃ I55 : Int → Heap → Nat → Prop, (∃ m56, I55 0 h54 m56) ∧ 
      (∀ (_ : Env) (x_58 : Int) (h59 : Heap) (m57 : Nat), I55 x_58 h59 m57 → 
      (sB (decide (x_58 < ((Int.toNat x53) : Int))) 
        ((∃ x60 : Int, hc h59 ⟨h40.size, 1, none⟩ = some (.int .i64 x60) ∧ 
        (((0 : Int) ≤ x60 ∧ (x60 : Int) ≤ x60 ∧ ((1 : Nat) : Int) * x60 ≤ 140737488355328) ∧ ∀ h61 : Heap, h61 = h59.push (.cells ⟨madeL Tryz.prog 4 (Int.toNat x60)⟩ 4) → 
        ((0 ≤ (x_58 : Int) ∧ (x_58 : Int) < ((Int.toNat x53) : Nat)) ∧ 
        (okAt h61 ⟨h52.size, 0 + Int.toNat x_58 * 1, none⟩ 1 ∧ ∀ h62 : Heap, h62 = hputs h61 ⟨h52.size, 0 + Int.toNat x_58 * 1, none⟩ 0 [.slice (some ⟨h59.size, 0, none⟩) (Int.toNat x60) (Int.toNat x60)] → 
        ((0 ≤ (x_58 : Int) ∧ (x_58 : Int) < ((Int.toNat x53) : Nat)) ∧ 
        (∃ x63 : Sl, hc h62 ⟨h52.size, 0 + Int.toNat x_58 * 1, none⟩ = some (.slice x63.a x63.n x63.c) ∧ 
        (∃ I64 : Int → Heap → Nat → Prop, (∃ m65, I64 0 h62 m65) ∧ 
        (∀ (_ : Env) (x_67 : Int) (h68 : Heap) (m66 : Nat), I64 x_67 h68 m66 → 
        (sB (decide (x_67 < (x63.n : Int))) 
          (((0 ≤ (x_58 : Int) ∧ (x_58 : Int) < ((Int.toNat x53) : Nat)) ∧ 
          (∃ x69 : Sl, hc h68 ⟨h52.size, 0 + Int.toNat x_58 * 1, none⟩ = some (.slice x69.a x69.n x69.c) ∧ 
          (∃ x70 : Sl, hc h68 ⟨h40.size, 3, none⟩ = some (.slice x70.a x70.n x70.c) ∧ 
          (NB x70.a fun b71 o72 => ((0 ≤ (x_58 : Int) ∧ (x_58 : Int) < (x70.n : Nat)) ∧ 
          (∃ x73 : Bool, hc h68 ⟨b71, o72 + Int.toNat x_58 * 1, none⟩ = some (.bool x73) ∧ 
          (∃ x74 : Sl, hc h68 ⟨h40.size, 3, none⟩ = some (.slice x74.a x74.n x74.c) ∧ 
          (NB x74.a fun b75 o76 => ((0 ≤ (x_67 : Int) ∧ (x_67 : Int) < (x74.n : Nat)) ∧ 
          (∃ x77 : Bool, hc h68 ⟨b75, o76 + Int.toNat x_67 * 1, none⟩ = some (.bool x77) ∧ 
          (sB (x73 == x77) 
           ((∃ x78 : Int, ∃ x79 : Int, ∃ x80 : Int, ∃ x81 : Sl, ∃ x82 : Sl, ∃ x83 : Sl, atC h68 ⟨h40.size, 0, none⟩ [.int .i64 x78, .int .i64 x79, .int .i64 x80, .slice x81.a x81.n x81.c, .slice x82.a x82.n x82.c, .slice x83.a x83.n x83.c] ∧ 
           (Fn Tryz.prog 18 #[.agg ⟨[.int .i64 x78, .int .i64 x79, .int .i64 x80, .slice x81.a x81.n x81.c, .slice x82.a x82.n x82.c, .slice x83.a x83.n x83.c]⟩, .int .i64 x_58, .int .i64 x_67] h68 
           (fun v84 h86 => ∃ x85 : Bool, v84 = .bool x85 ∧ 
           (Sm [⟨b75, o76 + Int.toNat x_67 * 1, none⟩, ⟨h40.size, 3, none⟩, ⟨b71, o72 + Int.toNat x_58 * 1, none⟩, ⟨h40.size, 3, none⟩, ⟨h52.size, 0 + Int.toNat x_58 * 1, none⟩] h68 h86 ∧ 
           (NB x69.a fun b87 o88 => ((0 ≤ (x_67 : Int) ∧ (x_67 : Int) < (x69.n : Nat)) ∧ 
           (okAt h86 ⟨b87, o88 + Int.toNat x_67 * 1, none⟩ 1 ∧ ∀ h89 : Heap, h89 = hputs h86 ⟨b87, o88 + Int.toNat x_67 * 1, none⟩ 0 [.bool x85] → 
           (∃ m90, m90 < m66 ∧ I64 (IntKind.wrap .i64 (x_67 + 1)) h89 m90))))))))) 
           ((NB x69.a fun b91 o92 => ((0 ≤ (x_67 : Int) ∧ (x_67 : Int) < (x69.n : Nat)) ∧ 
           (okAt h68 ⟨b91, o92 + Int.toNat x_67 * 1, none⟩ 1 ∧ ∀ h93 : Heap, h93 = hputs h68 ⟨b91, o92 + Int.toNat x_67 * 1, none⟩ 0 [.bool false] → 
           (∃ m94, m94 < m66 ∧ I64 (IntKind.wrap .i64 (x_67 + 1)) h93 m94))))))))))))))))) 
          ((∃ m95, m95 < m57 ∧ I55 (IntKind.wrap .i64 (x_58 + 1)) h68 m95)))))))))))) 
        ((∃ I96 : Bool → Heap → Nat → Prop, (∃ m97, I96 true h59 m97) ∧ 
        (∀ (_ : Env) (changed_99 : Bool) (h100 : Heap) (m98 : Nat), I96 changed_99 h100 m98 → 
        (sB changed_99 
          ((∃ I101 : Bool → Int → Heap → Nat → Prop, (∃ m102, I101 false 0 h100 m102) ∧ 
          (∀ (_ : Env) (changed_104 : Bool) (x_105 : Int) (h106 : Heap) (m103 : Nat), I101 changed_104 x_105 h106 m103 → 
          (sB (decide (x_105 < ((Int.toNat x53) : Int))) 
            (((0 ≤ (x_105 : Int) ∧ (x_105 : Int) < ((Int.toNat x53) : Nat)) ∧ 
            (∃ x107 : Sl, hc h106 ⟨h52.size, 0 + Int.toNat x_105 * 1, none⟩ = some (.slice x107.a x107.n x107.c) ∧ 
            (∃ I108 : Bool → Int → Heap → Nat → Prop, (∃ m109, I108 changed_104 0 h106 m109) ∧ 
            (∀ (_ : Env) (changed_111 : Bool) (x_112 : Int) (h113 : Heap) (m110 : Nat), I108 changed_111 x_112 h113 m110 → 
            (sB (decide (x_112 < (x107.n : Int))) 
              (((0 ≤ (x_105 : Int) ∧ (x_105 : Int) < ((Int.toNat x53) : Nat)) ∧ 
              (∃ x114 : Sl, hc h113 ⟨h52.size, 0 + Int.toNat x_105 * 1, none⟩ = some (.slice x114.a x114.n x114.c) ∧ 
              (NB x114.a fun b115 o116 => ((0 ≤ (x_112 : Int) ∧ (x_112 : Int) < (x114.n : Nat)) ∧ 
              (∃ x117 : Bool, hc h113 ⟨b115, o116 + Int.toNat x_112 * 1, none⟩ = some (.bool x117) ∧ 
              (sB (!x117) 
               ((∃ m118, m118 < m110 ∧ I108 changed_111 (IntKind.wrap .i64 (x_112 + 1)) h113 m118)) 
               ((∃ x119 : Int, ∃ x120 : Int, ∃ x121 : Int, ∃ x122 : Sl, ∃ x123 : Sl, ∃ x124 : Sl, atC h113 ⟨h40.size, 0, none⟩ [.int .i64 x119, .int .i64 x120, .int .i64 x121, .slice x122.a x122.n x122.c, .slice x123.a x123.n x123.c, .slice x124.a x124.n x124.c] ∧ 
               (∃ x125 : Int, ∃ x126 : Int, ∃ x127 : Int, ∃ x128 : Sl, ∃ x129 : Sl, ∃ x130 : Sl, atC h113 ⟨h40.size, 0, none⟩ [.int .i64 x125, .int .i64 x126, .int .i64 x127, .slice x128.a x128.n x128.c, .slice x129.a x129.n x129.c, .slice x130.a x130.n x130.c] ∧ 
               (Fn Tryz.prog 19 #[.agg ⟨[.int .i64 x119, .int .i64 x120, .int .i64 x121, .slice x122.a x122.n x122.c, .slice x123.a x123.n x123.c, .slice x124.a x124.n x124.c]⟩, .int .i64 x_105] h113 
               (fun v131 h133 => ∃ x132 : Sl, v131 = .slice x132.a x132.n x132.c ∧ 
               (Sm [⟨h40.size, 0, none⟩] h113 h133 ∧ 
               (Fn Tryz.prog 19 #[.agg ⟨[.int .i64 x125, .int .i64 x126, .int .i64 x127, .slice x128.a x128.n x128.c, .slice x129.a x129.n x129.c, .slice x130.a x130.n x130.c]⟩, .int .i64 x_112] h133 
               (fun v134 h136 => ∃ x135 : Sl, v134 = .slice x135.a x135.n x135.c ∧ 
               (Sm [⟨h40.size, 0, none⟩] h133 h136 ∧ 
               (∃ I137 : Bool → Int → Heap → Nat → Prop, (∃ m138, I137 ((x132.n : Int) == (x135.n : Int)) 0 h136 m138) ∧ 
               (∀ (_ : Env) (ok_140 : Bool) (j_141 : Int) (h142 : Heap) (m139 : Nat), I137 ok_140 j_141 h142 m139 → 
               (sB ok_140 
                 ((sB (decide (j_141 < (x132.n : Int))) 
                  ((∃ x143 : Sl, hc h142 ⟨h40.size, 4, none⟩ = some (.slice x143.a x143.n x143.c) ∧ 
                  (NB x132.a fun b144 o145 => ((0 ≤ (j_141 : Int) ∧ (j_141 : Int) < (x132.n : Nat)) ∧ 
                  (∃ x146 : Int, hc h142 ⟨b144, o145 + Int.toNat j_141 * 1, none⟩ = some (.int .i64 x146) ∧ 
                  (NB x143.a fun b147 o148 => ((0 ≤ (x146 : Int) ∧ (x146 : Int) < (x143.n : Nat)) ∧ 
                  (∃ x149 : Int, ∃ x150 : Bool, ∃ x151 : Int, ∃ x152 : Int, ∃ x153 : Int, ∃ x154 : Bool, atC h142 ⟨b147, o148 + Int.toNat x146 * 6, none⟩ [.int .i64 x149, .bool x150, .int .i64 x151, .int .i64 x152, .int .i64 x153, .bool x154] ∧ 
                  (∃ x155 : Sl, hc h142 ⟨h40.size, 4, none⟩ = some (.slice x155.a x155.n x155.c) ∧ 
                  (NB x135.a fun b156 o157 => ((0 ≤ (j_141 : Int) ∧ (j_141 : Int) < (x135.n : Nat)) ∧ 
                  (∃ x158 : Int, hc h142 ⟨b156, o157 + Int.toNat j_141 * 1, none⟩ = some (.int .i64 x158) ∧ 
                  (NB x155.a fun b159 o160 => ((0 ≤ (x158 : Int) ∧ (x158 : Int) < (x155.n : Nat)) ∧ 
                  (∃ x161 : Int, ∃ x162 : Bool, ∃ x163 : Int, ∃ x164 : Int, ∃ x165 : Int, ∃ x166 : Bool, atC h142 ⟨b159, o160 + Int.toNat x158 * 6, none⟩ [.int .i64 x161, .bool x162, .int .i64 x163, .int .i64 x164, .int .i64 x165, .bool x166] ∧ 
                  ((∀ h167 : Heap, h167 = h142.push (.cells ⟨[.int .i64 0, .bool false, .int .i64 0, .int .i64 0, .int .i64 0, .bool false]⟩ 45) → 
                  (Sm [⟨b159, o160 + Int.toNat x158 * 6, none⟩, ⟨b156, o157 + Int.toNat j_141 * 1, none⟩, ⟨h40.size, 4, none⟩, ⟨b147, o148 + Int.toNat x146 * 6, none⟩, ⟨b144, o145 + Int.toNat j_141 * 1, none⟩, ⟨h40.size, 4, none⟩] h142 h167 ∧ 
                  (∀ h168 : Heap, h168 = h167.push (.cells ⟨[.int .i64 0, .bool false, .int .i64 0, .int .i64 0, .int .i64 0, .bool false]⟩ 45) → 
                  (Sm [⟨b159, o160 + Int.toNat x158 * 6, none⟩, ⟨b156, o157 + Int.toNat j_141 * 1, none⟩, ⟨h40.size, 4, none⟩, ⟨b147, o148 + Int.toNat x146 * 6, none⟩, ⟨b144, o145 + Int.toNat j_141 * 1, none⟩, ⟨h40.size, 4, none⟩] h167 h168 ∧ 
                  (okAt h168 ⟨h142.size, 0, none⟩ 6 ∧ ∀ h169 : Heap, h169 = hputs h168 ⟨h142.size, 0, none⟩ 0 [.int .i64 x149, .bool x150, .int .i64 x151, .int .i64 x152, .int .i64 x153, .bool x154] → 
                  (Sm [⟨b159, o160 + Int.toNat x158 * 6, none⟩, ⟨b156, o157 + Int.toNat j_141 * 1, none⟩, ⟨h40.size, 4, none⟩] h168 h169 ∧ 
                  (okAt h169 ⟨h167.size, 0, none⟩ 6 ∧ ∀ h170 : Heap, h170 = hputs h169 ⟨h167.size, 0, none⟩ 0 [.int .i64 x161, .bool x162, .int .i64 x163, .int .i64 x164, .int .i64 x165, .bool x166] → 
                  (∃ x171 : Int, ∃ x172 : Bool, ∃ x173 : Int, ∃ x174 : Int, ∃ x175 : Int, ∃ x176 : Bool, atC h170 ⟨h142.size, 0, none⟩ [.int .i64 x171, .bool x172, .int .i64 x173, .int .i64 x174, .int .i64 x175, .bool x176] ∧ 
                  (∃ x177 : Int, ∃ x178 : Bool, ∃ x179 : Int, ∃ x180 : Int, ∃ x181 : Int, ∃ x182 : Bool, atC h170 ⟨h167.size, 0, none⟩ [.int .i64 x177, .bool x178, .int .i64 x179, .int .i64 x180, .int .i64 x181, .bool x182] ∧ 
                  (Fn Tryz.prog 20 #[.agg ⟨[.int .i64 x171, .bool x172, .int .i64 x173, .int .i64 x174, .int .i64 x175, .bool x176]⟩, .agg ⟨[.int .i64 x177, .bool x178, .int .i64 x179, .int .i64 x180, .int .i64 x181, .bool x182]⟩] h170 
                  (fun v183 h185 => ∃ x184 : Bool, v183 = .bool x184 ∧ 
                  (sB x184 
                   ((∃ x186 : Int, hc h185 ⟨h142.size, 4, none⟩ = some (.int .i64 x186) ∧ 
                   ((0 ≤ (x186 : Int) ∧ (x186 : Int) < ((Int.toNat x53) : Nat)) ∧ 
                   (∃ x187 : Sl, hc h185 ⟨h52.size, 0 + Int.toNat x186 * 1, none⟩ = some (.slice x187.a x187.n x187.c) ∧ 
                   (∃ x188 : Int, hc h185 ⟨h167.size, 4, none⟩ = some (.int .i64 x188) ∧ 
                   (NB x187.a fun b189 o190 => ((0 ≤ (x188 : Int) ∧ (x188 : Int) < (x187.n : Nat)) ∧ 
                   (∃ x191 : Bool, hc h185 ⟨b189, o190 + Int.toNat x188 * 1, none⟩ = some (.bool x191) ∧ 
                   (∃ m192, m192 < m139 ∧ I137 x191 (IntKind.wrap .i64 (j_141 + 1)) h185 m192))))))))) 
                   ((∃ m193, m193 < m139 ∧ I137 false (IntKind.wrap .i64 (j_141 + 1)) h185 m193))))))))))))))) ∧ ((∀ h194 : Heap, h194 = h142.push (.cells ⟨[.int .i64 0, .bool false, .int .i64 0, .int .i64 0, .int .i64 0, .bool false]⟩ 45) → 
                  (Sm [⟨b159, o160 + Int.toNat x158 * 6, none⟩, ⟨b156, o157 + Int.toNat j_141 * 1, none⟩, ⟨h40.size, 4, none⟩, ⟨b147, o148 + Int.toNat x146 * 6, none⟩, ⟨b144, o145 + Int.toNat j_141 * 1, none⟩, ⟨h40.size, 4, none⟩] h142 h194 ∧ 
                  (∀ h195 : Heap, h195 = h194.push (.cells ⟨[.int .i64 0, .bool false, .int .i64 0, .int .i64 0, .int .i64 0, .bool false]⟩ 45) → 
                  (Sm [⟨b159, o160 + Int.toNat x158 * 6, none⟩, ⟨b156, o157 + Int.toNat j_141 * 1, none⟩, ⟨h40.size, 4, none⟩, ⟨b147, o148 + Int.toNat x146 * 6, none⟩, ⟨b144, o145 + Int.toNat j_141 * 1, none⟩, ⟨h40.size, 4, none⟩] h194 h195 ∧ 
                  (okAt h195 ⟨h194.size, 0, none⟩ 6 ∧ ∀ h196 : Heap, h196 = hputs h195 ⟨h194.size, 0, none⟩ 0 [.int .i64 x149, .bool x150, .int .i64 x151, .int .i64 x152, .int .i64 x153, .bool x154] → 
                  (Sm [⟨b159, o160 + Int.toNat x158 * 6, none⟩, ⟨b156, o157 + Int.toNat j_141 * 1, none⟩, ⟨h40.size, 4, none⟩] h195 h196 ∧ 
                  (okAt h196 ⟨h142.size, 0, none⟩ 6 ∧ ∀ h197 : Heap, h197 = hputs h196 ⟨h142.size, 0, none⟩ 0 [.int .i64 x161, .bool x162, .int .i64 x163, .int .i64 x164, .int .i64 x165, .bool x166] → 
                  (∃ x198 : Int, ∃ x199 : Bool, ∃ x200 : Int, ∃ x201 : Int, ∃ x202 : Int, ∃ x203 : Bool, atC h197 ⟨h194.size, 0, none⟩ [.int .i64 x198, .bool x199, .int .i64 x200, .int .i64 x201, .int .i64 x202, .bool x203] ∧ 
                  (∃ x204 : Int, ∃ x205 : Bool, ∃ x206 : Int, ∃ x207 : Int, ∃ x208 : Int, ∃ x209 : Bool, atC h197 ⟨h142.size, 0, none⟩ [.int .i64 x204, .bool x205, .int .i64 x206, .int .i64 x207, .int .i64 x208, .bool x209] ∧ 
                  (Fn Tryz.prog 20 #[.agg ⟨[.int .i64 x198, .bool x199, .int .i64 x200, .int .i64 x201, .int .i64 x202, .bool x203]⟩, .agg ⟨[.int .i64 x204, .bool x205, .int .i64 x206, .int .i64 x207, .int .i64 x208, .bool x209]⟩] h197 
                  (fun v210 h212 => ∃ x211 : Bool, v210 = .bool x211 ∧ 
                  (sB x211 
                   ((∃ x213 : Int, hc h212 ⟨h194.size, 4, none⟩ = some (.int .i64 x213) ∧ 
                   ((0 ≤ (x213 : Int) ∧ (x213 : Int) < ((Int.toNat x53) : Nat)) ∧ 
                   (∃ x214 : Sl, hc h212 ⟨h52.size, 0 + Int.toNat x213 * 1, none⟩ = some (.slice x214.a x214.n x214.c) ∧ 
                   (∃ x215 : Int, hc h212 ⟨h142.size, 4, none⟩ = some (.int .i64 x215) ∧ 
                   (NB x214.a fun b216 o217 => ((0 ≤ (x215 : Int) ∧ (x215 : Int) < (x214.n : Nat)) ∧ 
                   (∃ x218 : Bool, hc h212 ⟨b216, o217 + Int.toNat x215 * 1, none⟩ = some (.bool x218) ∧ 
                   (∃ m219, m219 < m139 ∧ I137 x218 (IntKind.wrap .i64 (j_141 + 1)) h212 m219))))))))) 
                   ((∃ m220, m220 < m139 ∧ I137 false (IntKind.wrap .i64 (j_141 + 1)) h212 m220)))))))))))))))))))))))))))))) 
                  ((sB (!ok_140) 
                   (((0 ≤ (x_105 : Int) ∧ (x_105 : Int) < ((Int.toNat x53) : Nat)) ∧ 
                   (∃ x221 : Sl, hc h142 ⟨h52.size, 0 + Int.toNat x_105 * 1, none⟩ = some (.slice x221.a x221.n x221.c) ∧ 
                   (NB x221.a fun b222 o223 => ((0 ≤ (x_112 : Int) ∧ (x_112 : Int) < (x221.n : Nat)) ∧ 
                   (okAt h142 ⟨b222, o223 + Int.toNat x_112 * 1, none⟩ 1 ∧ ∀ h224 : Heap, h224 = hputs h142 ⟨b222, o223 + Int.toNat x_112 * 1, none⟩ 0 [.bool false] → 
                   (∃ m225, m225 < m110 ∧ I108 true (IntKind.wrap .i64 (x_112 + 1)) h224 m225))))))) 
                   ((∃ m226, m226 < m110 ∧ I108 changed_111 (IntKind.wrap .i64 (x_112 + 1)) h142 m226)))))) 
                 ((sB (!ok_140) 
                  (((0 ≤ (x_105 : Int) ∧ (x_105 : Int) < ((Int.toNat x53) : Nat)) ∧ 
                  (∃ x227 : Sl, hc h142 ⟨h52.size, 0 + Int.toNat x_105 * 1, none⟩ = some (.slice x227.a x227.n x227.c) ∧ 
                  (NB x227.a fun b228 o229 => ((0 ≤ (x_112 : Int) ∧ (x_112 : Int) < (x227.n : Nat)) ∧ 
                  (okAt h142 ⟨b228, o229 + Int.toNat x_112 * 1, none⟩ 1 ∧ ∀ h230 : Heap, h230 = hputs h142 ⟨b228, o229 + Int.toNat x_112 * 1, none⟩ 0 [.bool false] → 
                  (∃ m231, m231 < m110 ∧ I108 true (IntKind.wrap .i64 (x_112 + 1)) h230 m231))))))) 
                  ((∃ m232, m232 < m110 ∧ I108 changed_111 (IntKind.wrap .i64 (x_112 + 1)) h142 m232))))))))))))))))))))))) 
              ((∃ m233, m233 < m103 ∧ I101 changed_111 (IntKind.wrap .i64 (x_105 + 1)) h113 m233)))))))) 
            ((∃ m234, m234 < m98 ∧ I96 changed_104 h106 m234)))))) 
          ((∃ I235 : Int → Heap → Nat → Prop, (∃ m236, I235 0 h100 m236) ∧ 
          (∀ (_ : Env) (x_238 : Int) (h239 : Heap) (m237 : Nat), I235 x_238 h239 m237 → 
          (sB (decide (x_238 < ((Int.toNat x53) : Int))) 
            (((0 ≤ (x_238 : Int) ∧ (x_238 : Int) < ((Int.toNat x53) : Nat)) ∧ 
            (∃ x240 : Sl, hc h239 ⟨h52.size, 0 + Int.toNat x_238 * 1, none⟩ = some (.slice x240.a x240.n x240.c) ∧ 
            (∃ I241 : Int → Heap → Nat → Prop, (∃ m242, I241 0 h239 m242) ∧ 
            (∀ (_ : Env) (x_244 : Int) (h245 : Heap) (m243 : Nat), I241 x_244 h245 m243 → 
            (sB (decide (x_244 < (x240.n : Int))) 
              (((0 ≤ (x_238 : Int) ∧ (x_238 : Int) < ((Int.toNat x53) : Nat)) ∧ 
              (∃ x246 : Sl, hc h245 ⟨h52.size, 0 + Int.toNat x_238 * 1, none⟩ = some (.slice x246.a x246.n x246.c) ∧ 
              (NB x246.a fun b247 o248 => ((0 ≤ (x_244 : Int) ∧ (x_244 : Int) < (x246.n : Nat)) ∧ 
              (∃ x249 : Bool, hc h245 ⟨b247, o248 + Int.toNat x_244 * 1, none⟩ = some (.bool x249) ∧ 
              (sB (!(x249 == (x_238 == x_244))) 
               (R (.bool false) h245) 
               ((∃ m250, m250 < m243 ∧ I241 (IntKind.wrap .i64 (x_244 + 1)) h245 m250))))))))) 
              ((∃ m251, m251 < m237 ∧ I235 (IntKind.wrap .i64 (x_238 + 1)) h245 m251)))))))) 
            (R (.bool true) h239))))))))))))))))))))))))))))))))))))
theorem vc4e (p0_1 : ByteArray) (p0_2 : Sl) (p0_3 : Sl) (p0_4 : Int) (p0_5 : Int) (p0_6 : Int) (p0_7 : Sl) (p0_8 : Sl) (p1 : Int) (h : Heap) (R : Value → Heap → Prop) : W4 p0_1 p0_2 p0_3 p0_4 p0_5 p0_6 p0_7 p0_8 p1 h R = fnW Tryz.prog 4 (.s .z (.s .z (.s .z (.s .z (.s .z (.s .z (.s .z (.s (.s .z (.b (.l [(46, .one (.int .i64))] (.s .z (.s .z (.s (.b (.s .z (.s .z (.s .z (.b (.l [(60, .one (.int .i64))] .z)))))) .z)))))) (.s (.s .z (.b (.l [(10, .one (.bool))] (.s .z (.b (.s .z (.s .z (.b (.l [(10, .one (.bool)), (91, .one (.int .i64))] (.s .z (.s .z (.s (.b (.s .z (.s .z (.b (.l [(10, .one (.bool)), (99, .one (.int .i64))] (.s .z (.s .z (.s (.b (.s .z (.s .z (.s .z (.s .z (.s (.s .z (.b (.l [(15, .one (.bool)), (16, .one (.int .i64))] .z))) .z)))))) .z)))))))) .z)))))))))))) (.s (.s .z (.b (.l [(172, .one (.int .i64))] (.s .z (.s .z (.s (.b (.s .z (.s .z (.b (.l [(180, .one (.int .i64))] .z))))) .z)))))) .z)))))))))) #[.agg ⟨[.string p0_1, .slice p0_2.a p0_2.n p0_2.c, .slice p0_3.a p0_3.n p0_3.c, .int .i64 p0_4, .int .i64 p0_5, .int .i64 p0_6, .slice p0_7.a p0_7.n p0_7.c, .slice p0_8.a p0_8.n p0_8.c]⟩, .int .i64 p1] h R := by kernel_rfl
theorem vc4 (p0_1 : ByteArray) (p0_2 : Sl) (p0_3 : Sl) (p0_4 : Int) (p0_5 : Int) (p0_6 : Int) (p0_7 : Sl) (p0_8 : Sl) (p1 : Int) (h : Heap) (R : Value → Heap → Prop) (H : W4 p0_1 p0_2 p0_3 p0_4 p0_5 p0_6 p0_7 p0_8 p1 h R) : Fn Tryz.prog 4 #[.agg ⟨[.string p0_1, .slice p0_2.a p0_2.n p0_2.c, .slice p0_3.a p0_3.n p0_3.c, .int .i64 p0_4, .int .i64 p0_5, .int .i64 p0_6, .slice p0_7.a p0_7.n p0_7.c, .slice p0_8.a p0_8.n p0_8.c]⟩, .int .i64 p1] h R := fnI (vc4e p0_1 p0_2 p0_3 p0_4 p0_5 p0_6 p0_7 p0_8 p1 h R) H

end Go.VC
end

section
/- The example, and that the laws are awake. -/
namespace Go.VC
open Go.Proofs Go.LexS
set_option maxRecDepth 100000

def exD (x : Nm) : Dc := ⟨x, ⟨none, 0, 0⟩, 0, ⟨none, 0, 0⟩, ⟨none, 0, 0⟩, [], [], []⟩
def exEs : Bool → List Ed
  | true => [⟨0, 0, 1, 0, 1, false⟩, ⟨0, 0, 1, 1, 2, false⟩, ⟨1, 1, 2, 0, 3, false⟩, ⟨2, 1, 2, 1, 4, false⟩, ⟨3, 2, 1, 2, 5, false⟩, ⟨4, 2, 1, 3, 5, false⟩]
  | false => [⟨0, 0, 1, 0, 1, false⟩, ⟨0, 0, 1, 1, 2, false⟩, ⟨1, 2, 1, 2, 3, false⟩, ⟨2, 2, 1, 3, 3, false⟩]
def exGl (b : Bool) (hr hd he ht : Sl) : Gl := ⟨[101], hr, hd, if b then 6 else 4, 0, if b then 5 else 3, he, ht, [[112], [113], [114]], [exD [97], exD [98], exD [99], exD [100]], exEs b, []⟩
theorem edge70 (p0 p1 p2 p3 p4 : Int) (h : Heap) : Fn Tryz.prog 70 #[.int .i64 p0, .int .i64 p1, .int .i64 p2, .int .i64 p3, .int .i64 p4] h fun v h' => v = .agg ⟨Ed.cs ⟨p0, p1, p2, p3, p4, false⟩⟩ ∧ Ext h h' := by
  apply vc70; unfold W70
  have hs := St.refl h
  refine hs.newput (vs := Ed.cs ⟨p0, p1, p2, p3, p4, false⟩) rfl rfl fun h2 hs => ?_
  exact ⟨_, _, _, _, _, _, hs.at 0 rfl (n := 6) rfl, rfl, hs.ext⟩
theorem RL.none_ {α : Type} {h : Heap} {k : Nat} {cs : α → List Value} : RL h k ⟨none, 0, 0⟩ cs [] := ⟨Rw.nil, Nat.le_refl _, fun _ => ⟨rfl, rfl⟩, Nat.zero_le _⟩
theorem St.rl {α : Type} {h0 h : Heap} {L : List It} (hs : St h0 h L) (k : Nat) {s : Sl} {e : TypeId} {n : Nat} {cs : α → List Value} {l : List α} (hk : L[k]? = some (.sl s e n (l.map cs))) (hn : 0 < n) (hl : l.length ≤ 1048576) : RL h n s cs l := by
  have := hs.len k hk hn
  exact ⟨hs.rows k hk hn, this.2.1, this.2.2, hl⟩
theorem nmrows (L : List Nm) : ∀ r ∈ L.map nmC, r.length = 1 := fun r hr => by obtain ⟨x, _, rfl⟩ := List.mem_map.1 hr; rfl
theorem dcrows (L : List Dc) : ∀ r ∈ L.map Dc.cs, r.length = 5 := fun r hr => by obtain ⟨x, _, rfl⟩ := List.mem_map.1 hr; rfl
theorem edrows (L : List Ed) : ∀ r ∈ L.map Ed.cs, r.length = 6 := fun r hr => by obtain ⟨x, _, rfl⟩ := List.mem_map.1 hr; rfl
set_option maxHeartbeats 1000000 in
theorem example34 (b : Bool) (h : Heap) : Fn Tryz.prog 34 #[.bool b] h fun v h' => Ext h h' ∧ ∃ hr hd he : Sl, v = (exGl b hr hd he ⟨none, 0, 0⟩).v ∧ GI h' (exGl b hr hd he ⟨none, 0, 0⟩) := by
  apply vc34; unfold W34
  have hs := St.refl h
  refine hs.newb fun h1 hs => ?_
  refine hs.newb fun h2 hs => ?_
  have hs := hs.blkS 3 1 ([[112], [113], [114]].map nmC) rfl (nmrows _) rfl (by decide)
  refine hs.newb fun h3 hs => ?_
  have hs := hs.blkS 4 5 ([exD [97], exD [98], exD [99], exD [100]].map Dc.cs) rfl (dcrows _) rfl (by decide)
  refine hs.newput (vs := [.string (bs [101]), .slice (some ⟨h1.size, 0, none⟩) 3 3, .slice (some ⟨h2.size, 0, none⟩) 4 4, .int .i64 4, .int .i64 0, .int .i64 3, .slice none 0 0, .slice none 0 0]) rfl rfl fun h5 hs => ?_
  refine (edge70 _ _ _ _ _ _).mono ?_
  rintro _ _ ⟨rfl, E⟩
  replace hs := hs.step E
  clear E
  refine ⟨_, _, _, _, _, _, rfl, ?_⟩
  refine (edge70 _ _ _ _ _ _).mono ?_
  rintro _ _ ⟨rfl, E⟩
  replace hs := hs.step E
  clear E
  refine ⟨_, _, _, _, _, _, rfl, ?_⟩
  refine (edge70 _ _ _ _ _ _).mono ?_
  rintro _ _ ⟨rfl, E⟩
  replace hs := hs.step E
  clear E
  refine ⟨_, _, _, _, _, _, rfl, ?_⟩
  refine (edge70 _ _ _ _ _ _).mono ?_
  rintro _ _ ⟨rfl, E⟩
  replace hs := hs.step E
  clear E
  refine ⟨_, _, _, _, _, _, rfl, ?_⟩
  refine hs.newb fun h38 hs => ?_
  have hs := hs.blkS 4 6 ((exEs false).map Ed.cs) rfl (edrows _) rfl (by decide)
  refine hs.put 1 rfl (o := 6) (vs := [.slice (some ⟨_, 0, none⟩) 4 4]) rfl (show 7 ≤ 8 by decide) fun h39 hs => ?_
  cases b
  · refine sB_f rfl ?_
    refine ⟨_, ⟨some ⟨h1.size, 0, none⟩, 3, 3⟩, ⟨some ⟨h2.size, 0, none⟩, 4, 4⟩, _, _, _, ⟨some ⟨_, 0, none⟩, 4, 4⟩, ⟨none, 0, 0⟩, hs.at 1 rfl (n := 8) rfl, ?_⟩
    refine hs.put 4 rfl (o := 0) (vs := (exGl false ⟨some ⟨h1.size, 0, none⟩, 3, 3⟩ ⟨some ⟨h2.size, 0, none⟩, 4, 4⟩ ⟨some ⟨_, 0, none⟩, 4, 4⟩ ⟨none, 0, 0⟩).cs) rfl (show 8 ≤ 8 by decide) fun h117 hs => ?_
    refine ⟨_, ⟨some ⟨h1.size, 0, none⟩, 3, 3⟩, ⟨some ⟨h2.size, 0, none⟩, 4, 4⟩, _, _, _, ⟨some ⟨_, 0, none⟩, 4, 4⟩, ⟨none, 0, 0⟩, hs.at 4 rfl (n := 8) rfl, hs.ext, _, _, _, rfl, ?_⟩
    refine ⟨hs.rl 3 rfl (by decide) (show 3 ≤ 1048576 by decide), ⟨hs.rl 2 rfl (by decide) (show 4 ≤ 1048576 by decide), fun d hd => ?_⟩, hs.rl 0 rfl (by decide) (show 4 ≤ 1048576 by decide), RL.none_⟩
    have hd : d ∈ [exD [97], exD [98], exD [99], exD [100]] := hd
    simp only [List.mem_cons, List.not_mem_nil, or_false] at hd
    rcases hd with rfl | rfl | rfl | rfl <;> exact ⟨RL.none_, RL.none_, RL.none_⟩
  · refine sB_t rfl ?_
    refine hs.put 1 rfl (o := 3) (vs := [.int .i64 6]) rfl (show 4 ≤ 8 by decide) fun h40 hs => ?_
    refine hs.put 1 rfl (o := 5) (vs := [.int .i64 5]) rfl (show 6 ≤ 8 by decide) fun h41 hs => ?_
    refine (edge70 _ _ _ _ _ _).mono ?_
    rintro _ _ ⟨rfl, E⟩
    replace hs := hs.step E
    clear E
    refine ⟨_, _, _, _, _, _, rfl, ?_⟩
    refine (edge70 _ _ _ _ _ _).mono ?_
    rintro _ _ ⟨rfl, E⟩
    replace hs := hs.step E
    clear E
    refine ⟨_, _, _, _, _, _, rfl, ?_⟩
    refine (edge70 _ _ _ _ _ _).mono ?_
    rintro _ _ ⟨rfl, E⟩
    replace hs := hs.step E
    clear E
    refine ⟨_, _, _, _, _, _, rfl, ?_⟩
    refine (edge70 _ _ _ _ _ _).mono ?_
    rintro _ _ ⟨rfl, E⟩
    replace hs := hs.step E
    clear E
    refine ⟨_, _, _, _, _, _, rfl, ?_⟩
    refine (edge70 _ _ _ _ _ _).mono ?_
    rintro _ _ ⟨rfl, E⟩
    replace hs := hs.step E
    clear E
    refine ⟨_, _, _, _, _, _, rfl, ?_⟩
    refine (edge70 _ _ _ _ _ _).mono ?_
    rintro _ _ ⟨rfl, E⟩
    replace hs := hs.step E
    clear E
    refine ⟨_, _, _, _, _, _, rfl, ?_⟩
    refine hs.newb fun h90 hs => ?_
    have hs := hs.blkS 6 6 ((exEs true).map Ed.cs) rfl (edrows _) rfl (by decide)
    refine hs.put 2 rfl (o := 6) (vs := [.slice (some ⟨_, 0, none⟩) 6 6]) rfl (show 7 ≤ 8 by decide) fun h91 hs => ?_
    refine ⟨_, ⟨some ⟨h1.size, 0, none⟩, 3, 3⟩, ⟨some ⟨h2.size, 0, none⟩, 4, 4⟩, _, _, _, ⟨some ⟨_, 0, none⟩, 6, 6⟩, ⟨none, 0, 0⟩, hs.at 2 rfl (n := 8) rfl, ?_⟩
    refine hs.put 5 rfl (o := 0) (vs := (exGl true ⟨some ⟨h1.size, 0, none⟩, 3, 3⟩ ⟨some ⟨h2.size, 0, none⟩, 4, 4⟩ ⟨some ⟨_, 0, none⟩, 6, 6⟩ ⟨none, 0, 0⟩).cs) rfl (show 8 ≤ 8 by decide) fun h117 hs => ?_
    refine ⟨_, ⟨some ⟨h1.size, 0, none⟩, 3, 3⟩, ⟨some ⟨h2.size, 0, none⟩, 4, 4⟩, _, _, _, ⟨some ⟨_, 0, none⟩, 6, 6⟩, ⟨none, 0, 0⟩, hs.at 5 rfl (n := 8) rfl, hs.ext, _, _, _, rfl, ?_⟩
    refine ⟨hs.rl 4 rfl (by decide) (show 3 ≤ 1048576 by decide), ⟨hs.rl 3 rfl (by decide) (show 4 ≤ 1048576 by decide), fun d hd => ?_⟩, hs.rl 0 rfl (by decide) (show 6 ≤ 1048576 by decide), RL.none_⟩
    have hd : d ∈ [exD [97], exD [98], exD [99], exD [100]] := hd
    simp only [List.mem_cons, List.not_mem_nil, or_false] at hd
    rcases hd with rfl | rfl | rfl | rfl <;> exact ⟨RL.none_, RL.none_, RL.none_⟩

deriving instance DecidableEq for Ed
theorem isW {l : Nm} (h : isWord l = true) : isWord l = true := h
theorem ex_valid (b : Bool) (hr hd he ht : Sl) : ValidS (exGl b hr hd he ht) := by
  have hrs : (exGl b hr hd he ht).rs = [[112], [113], [114]] := rfl
  have hds : (exGl b hr hd he ht).ds = [exD [97], exD [98], exD [99], exD [100]] := rfl
  have hes : (exGl b hr hd he ht).es = exEs b := rfl
  have hall : allF [exD [97], exD [98], exD [99], exD [100]] = [] := rfl
  have get3 : ∀ {α : Type} {P : Nat → α → Prop} {l : List α}, (∀ i (hi : i < l.length), P i l[i]) → ∀ i x, l[i]? = some x → P i x := by
    intro α P l h i x hx
    obtain ⟨h1, h2⟩ := List.getElem?_eq_some_iff.1 hx
    rw [← h2]; exact h i h1
  refine ⟨⟨by rfl, by rw [hrs]; decide, by rw [hrs]; decide, ?_⟩, ⟨?_, ?_, ?_⟩, ?_, ⟨?_, ?_, ?_⟩, ?_, ?_, ?_⟩
  · rw [hrs]
    refine get3 (P := fun i s => isWord s = true ∧ s ∉ List.take i [[112], [113], [114]]) fun i hi => ?_
    have hi : i < 3 := hi
    match i, hi with
    | 0, _ => exact of_decide_eq_true rfl
    | 1, _ => exact of_decide_eq_true rfl
    | 2, _ => exact of_decide_eq_true rfl
  · cases b <;> exact ⟨of_decide_eq_true rfl, of_decide_eq_true rfl, of_decide_eq_true rfl, of_decide_eq_true rfl, of_decide_eq_true rfl, of_decide_eq_true rfl⟩
  · rw [hes]; cases b <;> decide
  · rw [hes]
    unfold EdS
    rw [hrs, hds]
    cases b
    · show ∀ x ∈ exEs false, 0 ≤ x.f ∧ 0 ≤ x.t ∧ 0 ≤ x.a ∧ 0 ≤ x.b ∧ 0 ≤ x.l ∧ x.f < 4 ∧ x.t < 4 ∧ x.a < ((3 : Nat) : Int) ∧ x.b < ((3 : Nat) : Int) ∧ x.a ≠ x.b ∧ x.l < ((4 : Nat) : Int)
      decide
    · show ∀ x ∈ exEs true, 0 ≤ x.f ∧ 0 ≤ x.t ∧ 0 ≤ x.a ∧ 0 ≤ x.b ∧ 0 ≤ x.l ∧ x.f < 6 ∧ x.t < 6 ∧ x.a < ((3 : Nat) : Int) ∧ x.b < ((3 : Nat) : Int) ∧ x.a ≠ x.b ∧ x.l < ((4 : Nat) : Int)
      decide
  · rw [hds]
    refine ⟨by decide, by rw [hall]; decide, ?_⟩
    refine get3 (P := fun i d => DcS [exD [97], exD [98], exD [99], exD [100]] i d) fun i hi => ?_
    have hi : i < 4 := hi
    have hg : GuardS [] [] [] := ⟨by decide, by decide, fun x hx => (by cases hx), fun x hx => (by cases hx)⟩
    match i, hi with
    | 0, _ => exact ⟨by rfl, of_decide_eq_true rfl, of_decide_eq_true rfl, by rfl, fun k f hf => (by cases hf), by rw [hall]; exact hg⟩
    | 1, _ => exact ⟨by rfl, of_decide_eq_true rfl, of_decide_eq_true rfl, by rfl, fun k f hf => (by cases hf), by rw [hall]; exact hg⟩
    | 2, _ => exact ⟨by rfl, of_decide_eq_true rfl, of_decide_eq_true rfl, by rfl, fun k f hf => (by cases hf), by rw [hall]; exact hg⟩
    | 3, _ => exact ⟨by rfl, of_decide_eq_true rfl, of_decide_eq_true rfl, by rfl, fun k f hf => (by cases hf), by rw [hall]; exact hg⟩
  · rw [hes]; cases b
    · show ∀ x ∈ exEs false, x.f ≠ 3
      decide
    · show ∀ x ∈ exEs true, x.f ≠ 5
      decide
  · rw [hes]; cases b
    · show ∀ x ∈ exEs false, x.ag = true → x.f ≠ 0
      decide
    · show ∀ x ∈ exEs true, x.ag = true → x.f ≠ 0
      decide
  · rw [hes]
    have key : ((exEs b).zipIdx.all fun p => (exEs b).zipIdx.all fun q => !decide ((p.2 ≠ q.2 ∧ p.1.f = q.1.f ∧ ((p.1.a = q.1.a ∧ p.1.b = q.1.b ∧ p.1.l = q.1.l) ∨ p.1.a ≠ q.1.a ∨ p.1.ag = true)) ∨ (p.1.ag = true ∧ q.1.t = p.1.f ∧ (p.1.a ≠ q.1.a ∨ p.1.l ≠ q.1.l)))) = true := by
      cases b <;> decide
    intro i x hx k y hy hbad
    have h1 := List.all_eq_true.1 key (x, i) (List.mem_iff_getElem?.2 ⟨i, by rw [List.getElem?_zipIdx, hx]; simp⟩)
    have h2 := List.all_eq_true.1 h1 (y, k) (List.mem_iff_getElem?.2 ⟨k, by rw [List.getElem?_zipIdx, hy]; simp⟩)
    have h3 := of_decide_eq_false (Bool.not_eq_true' _ ▸ h2)
    exact h3 hbad
  · intro i t ht; exact absurd ht (by show ([] : List To)[i]? ≠ some t; simp)
  · intro v h0 h1
    rw [hes]
    cases b
    · have h1 : v < 4 := h1
      show Rch (exEs false) false 0 v
      have s0 : Rch (exEs false) false 0 0 := .refl
      have s1 : Rch (exEs false) false 0 1 := .step s0 ⟨⟨0, 0, 1, 0, 1, false⟩, by decide, rfl, rfl⟩
      have s2 : Rch (exEs false) false 0 2 := .step s0 ⟨⟨0, 0, 1, 1, 2, false⟩, by decide, rfl, rfl⟩
      have s3 : Rch (exEs false) false 0 3 := .step s1 ⟨⟨1, 2, 1, 2, 3, false⟩, by decide, rfl, rfl⟩
      have : v = 0 ∨ v = 1 ∨ v = 2 ∨ v = 3 := by omega
      rcases this with rfl | rfl | rfl | rfl <;> assumption
    · have h1 : v < 6 := h1
      show Rch (exEs true) false 0 v
      have s0 : Rch (exEs true) false 0 0 := .refl
      have s1 : Rch (exEs true) false 0 1 := .step s0 ⟨⟨0, 0, 1, 0, 1, false⟩, by decide, rfl, rfl⟩
      have s2 : Rch (exEs true) false 0 2 := .step s0 ⟨⟨0, 0, 1, 1, 2, false⟩, by decide, rfl, rfl⟩
      have s3 : Rch (exEs true) false 0 3 := .step s1 ⟨⟨1, 1, 2, 0, 3, false⟩, by decide, rfl, rfl⟩
      have s4 : Rch (exEs true) false 0 4 := .step s2 ⟨⟨2, 1, 2, 1, 4, false⟩, by decide, rfl, rfl⟩
      have s5 : Rch (exEs true) false 0 5 := .step s3 ⟨⟨3, 2, 1, 2, 5, false⟩, by decide, rfl, rfl⟩
      have : v = 0 ∨ v = 1 ∨ v = 2 ∨ v = 3 ∨ v = 4 ∨ v = 5 := by omega
      rcases this with rfl | rfl | rfl | rfl | rfl | rfl <;> assumption
  · intro v h0 h1
    rw [hes]
    cases b
    · have h1 : v < 4 := h1
      show Rch (exEs false) true 3 v
      have s3 : Rch (exEs false) true 3 3 := .refl
      have s1 : Rch (exEs false) true 3 1 := .step s3 ⟨⟨1, 2, 1, 2, 3, false⟩, by decide, rfl, rfl⟩
      have s2 : Rch (exEs false) true 3 2 := .step s3 ⟨⟨2, 2, 1, 3, 3, false⟩, by decide, rfl, rfl⟩
      have s0 : Rch (exEs false) true 3 0 := .step s1 ⟨⟨0, 0, 1, 0, 1, false⟩, by decide, rfl, rfl⟩
      have : v = 0 ∨ v = 1 ∨ v = 2 ∨ v = 3 := by omega
      rcases this with rfl | rfl | rfl | rfl <;> assumption
    · have h1 : v < 6 := h1
      show Rch (exEs true) true 5 v
      have s5 : Rch (exEs true) true 5 5 := .refl
      have s3 : Rch (exEs true) true 5 3 := .step s5 ⟨⟨3, 2, 1, 2, 5, false⟩, by decide, rfl, rfl⟩
      have s4 : Rch (exEs true) true 5 4 := .step s5 ⟨⟨4, 2, 1, 3, 5, false⟩, by decide, rfl, rfl⟩
      have s1 : Rch (exEs true) true 5 1 := .step s3 ⟨⟨1, 1, 2, 0, 3, false⟩, by decide, rfl, rfl⟩
      have s2 : Rch (exEs true) true 5 2 := .step s4 ⟨⟨2, 1, 2, 1, 4, false⟩, by decide, rfl, rfl⟩
      have s0 : Rch (exEs true) true 5 0 := .step s1 ⟨⟨0, 0, 1, 0, 1, false⟩, by decide, rfl, rfl⟩
      have : v = 0 ∨ v = 1 ∨ v = 2 ∨ v = 3 ∨ v = 4 ∨ v = 5 := by omega
      rcases this with rfl | rfl | rfl | rfl | rfl | rfl <;> assumption
end Go.VC
end

section
/- Contract: the laws of layer 25 are awake. -/
namespace Go.VC
open Go.Proofs Go.LexS
set_option maxRecDepth 100000

def exM : Mch := ⟨2, 4, 0, [false, false, false, true], [⟨0, false, 1, 0, 1, false⟩, ⟨0, false, 1, 1, 2, false⟩, ⟨1, true, 1, 2, 3, false⟩, ⟨2, true, 1, 3, 3, false⟩], []⟩
theorem ex_raw_true (hr hd he ht : Sl) : rawC (exGl true hr hd he ht) 2 = some (some exM, 0) := by kernel_rfl
theorem ex_raw_false (hr hd he ht : Sl) : rawC (exGl false hr hd he ht) 2 = some (none, 18) := by kernel_rfl
theorem ex_min : minF exM = exM := by kernel_rfl
theorem ex_true (hr hd he ht : Sl) : proj (exGl true hr hd he ht) 2 = (some exM, 0) := by
  have := rawC_ok (ex_valid true hr hd he ht) (by decide) (show (2 : Int) < ((3 : Nat) : Int) by decide) (ex_raw_true hr hd he ht)
  unfold proj
  rw [this]
  show (some (minF exM), 0) = _
  rw [ex_min]
theorem ex_false (hr hd he ht : Sl) : proj (exGl false hr hd he ht) 2 = (none, 18) := by
  have := rawC_ok (ex_valid false hr hd he ht) (by decide) (show (2 : Int) < ((3 : Nat) : Int) by decide) (ex_raw_false hr hd he ht)
  unfold proj
  rw [this]
theorem awake10 (h : Heap) (hx : Gx h) : Fn Tryz.prog 10 #[] h fun v h' => v = .bool true ∧ Ext h h' := by
  apply vc10; unfold W10
  have hs := St.refl h
  refine (example34 true h).mono ?_
  rintro _ h10 ⟨E10, hr, hd, he, rfl, hg⟩
  replace hs := hs.step E10
  refine ⟨_, hr, hd, _, _, _, he, ⟨none, 0, 0⟩, rfl, ?_⟩
  refine (project12 _ 2 h10 hg (hx.ext hs.ext)).mono ?_
  rintro _ h19 ⟨E19, hm⟩
  rw [ex_true] at hm
  cases hm with
  | err he0 _ => cases he0
  | @ok m sf sm sl he0 hs2 =>
    cases he0
    have hs := (hs.step (E19)).ext
    have hs := (St.refl h).step hs
    have hs1 : St h h19 (mL exM sf sm sl) := by
      have := (St.step (St.refl h) E10).join hs2
      exact this
    refine ⟨_, _, _, sf, sm, sl, 0, rfl, ?_⟩
    refine hs1.newput (vs := mC exM sf sm sl) rfl rfl fun h21 hs => ?_
    refine (example34 false h21).mono ?_
    rintro _ h31 ⟨E31, hr2, hd2, he2, rfl, hg2⟩
    replace hs := hs.step E31
    refine ⟨_, hr2, hd2, _, _, _, he2, ⟨none, 0, 0⟩, rfl, ?_⟩
    refine (project12 _ 2 h31 hg2 (hx.ext hs.ext)).mono ?_
    rintro _ h40 ⟨E40, hm2⟩
    rw [ex_false] at hm2
    replace hs := hs.step E40
    cases hm2 with
    | ok he1 _ => cases he1
    | @err e he1 h0 =>
      cases he1
      refine ⟨0, 0, 0, ⟨none, 0, 0⟩, ⟨none, 0, 0⟩, ⟨none, 0, 0⟩, 18, rfl, ?_⟩
      refine hs.newput (vs := m0) rfl rfl fun h42 hs => ?_
      refine sB_t rfl (sB_t rfl ?_)
      refine ⟨_, hs.rd 1 rfl rfl, ?_⟩
      refine sB_t rfl ?_
      have hmn := (hs.rows 3 (s := sm) (cs := Mv.cs) rfl (by omega)).ln
      have hfn := (hs.rows 2 (s := sf) (cs := bC) rfl (by omega)).ln
      have hmn : sm.n = 4 := hmn
      have hfn : sf.n = 4 := hfn
      refine ⟨sm, hs.rd 1 rfl rfl, ?_⟩
      refine sBe (fun _ => ?_) (fun c => absurd (by rw [hmn]; rfl) c)
      refine ⟨sm, hs.rd 1 rfl rfl, ?_⟩
      refine (hs.rows 3 (s := sm) (cs := Mv.cs) rfl (by omega)).nbI (by decide) (by rw [hmn]; decide) fun b46 o47 x g46 t46 => ?_
      cases g46
      refine ⟨_, _, _, _, _, _, t46, ?_⟩
      refine sB_t rfl ?_
      refine ⟨sf, hs.rd 1 rfl rfl, ?_⟩
      refine (hs.rows 2 (s := sf) (cs := bC) rfl (by omega)).nbI (by decide) (by rw [hfn]; decide) fun b55 o56 x g55 t55 => ?_
      cases g55
      exact ⟨_, t55.hd, rfl, hs.ext⟩
end Go.VC
end

section
namespace Go.VC
open Go.Proofs
set_option maxRecDepth 100000
set_option linter.unusedVariables false

/- farandole/farandoleref21.Few -/
def W35 (p0_1 : ByteArray) (p0_2 : Sl) (p0_3 : Sl) (p0_4 : Int) (p0_5 : Int) (p0_6 : Int) (p0_7 : Sl) (p0_8 : Sl) (h : Heap) (R : Value → Heap → Prop) : Prop :=
  (∀ h9 : Heap, h9 = h.push (.cells ⟨[.string p0_1, .slice p0_2.a p0_2.n p0_2.c, .slice p0_3.a p0_3.n p0_3.c, .int .i64 p0_4, .int .i64 p0_5, .int .i64 p0_6, .slice p0_7.a p0_7.n p0_7.c, .slice p0_8.a p0_8.n p0_8.c]⟩ 27) → 
  (∃ x10 : Sl, hc h9 ⟨h.size, 6, none⟩ = some (.slice x10.a x10.n x10.c) ∧ 
  (sB (decide ((x10.n : Int) ≤ 50)) 
   ((∃ x11 : Sl, hc h9 ⟨h.size, 1, none⟩ = some (.slice x11.a x11.n x11.c) ∧ 
   (sB (decide ((x11.n : Int) ≤ 6)) 
    ((∃ x12 : Sl, hc h9 ⟨h.size, 2, none⟩ = some (.slice x12.a x12.n x12.c) ∧ 
    (sB (decide ((x12.n : Int) ≤ 40)) 
     ((∃ x13 : Sl, hc h9 ⟨h.size, 7, none⟩ = some (.slice x13.a x13.n x13.c) ∧ 
     R (.bool (decide ((x13.n : Int) ≤ 50))) h9)) 
     (R (.bool false) h9)))) 
    (R (.bool false) h9)))) 
   (R (.bool false) h9))))
theorem vc35e (p0_1 : ByteArray) (p0_2 : Sl) (p0_3 : Sl) (p0_4 : Int) (p0_5 : Int) (p0_6 : Int) (p0_7 : Sl) (p0_8 : Sl) (h : Heap) (R : Value → Heap → Prop) : W35 p0_1 p0_2 p0_3 p0_4 p0_5 p0_6 p0_7 p0_8 h R = fnW Tryz.prog 35 .z #[.agg ⟨[.string p0_1, .slice p0_2.a p0_2.n p0_2.c, .slice p0_3.a p0_3.n p0_3.c, .int .i64 p0_4, .int .i64 p0_5, .int .i64 p0_6, .slice p0_7.a p0_7.n p0_7.c, .slice p0_8.a p0_8.n p0_8.c]⟩] h R := by kernel_rfl
theorem vc35 (p0_1 : ByteArray) (p0_2 : Sl) (p0_3 : Sl) (p0_4 : Int) (p0_5 : Int) (p0_6 : Int) (p0_7 : Sl) (p0_8 : Sl) (h : Heap) (R : Value → Heap → Prop) (H : W35 p0_1 p0_2 p0_3 p0_4 p0_5 p0_6 p0_7 p0_8 h R) : Fn Tryz.prog 35 #[.agg ⟨[.string p0_1, .slice p0_2.a p0_2.n p0_2.c, .slice p0_3.a p0_3.n p0_3.c, .int .i64 p0_4, .int .i64 p0_5, .int .i64 p0_6, .slice p0_7.a p0_7.n p0_7.c, .slice p0_8.a p0_8.n p0_8.c]⟩] h R := fnI (vc35e p0_1 p0_2 p0_3 p0_4 p0_5 p0_6 p0_7 p0_8 h R) H

end Go.VC
end

section
/- Contracts of the reference's small functions over machines. -/
namespace Go.VC
open Go.Proofs Go.LexS
set_option maxRecDepth 100000

def sameMv (x y : Mv) : Bool := decide (x.send = y.send ∧ x.peer = y.peer ∧ x.label = y.label ∧ x.ag = y.ag)
theorem sameMove20 (x y : Mv) (h : Heap) : Fn Tryz.prog 20 #[.agg ⟨x.cs⟩, .agg ⟨y.cs⟩] h fun v h' => v = .bool (sameMv x y) ∧ Ext h h' := by
  apply vc20 x.f x.send x.peer x.label x.t x.ag y.f y.send y.peer y.label y.t y.ag; unfold W20
  have hs := St.refl h
  refine hs.newb fun h13 hs => ?_
  refine hs.newb fun h14 hs => ?_
  unfold sameMv
  refine ⟨_, hs.rd 1 rfl rfl, _, hs.rd 0 rfl rfl, ?_⟩
  refine sB_intro (fun c1 => ?_) (fun c1 => ⟨dF fun hc => by rw [hc.1] at c1; simp at c1, hs.ext⟩)
  have c1 : x.send = y.send := by simpa using c1
  refine ⟨_, hs.rd 1 rfl rfl, _, hs.rd 0 rfl rfl, ?_⟩
  refine sBe (fun c2 => ?_) (fun c2 => ⟨dF fun hc => c2 hc.2.1, hs.ext⟩)
  refine ⟨_, hs.rd 1 rfl rfl, _, hs.rd 0 rfl rfl, ?_⟩
  refine sBe (fun c3 => ?_) (fun c3 => ⟨dF fun hc => c3 hc.2.2.1, hs.ext⟩)
  refine ⟨_, hs.rd 1 rfl rfl, _, hs.rd 0 rfl rfl, ?_, hs.ext⟩
  congr 1
  cases hx : x.ag <;> cases hy : y.ag <;> simp [c1, c2, c3]
theorem before26 (x y : Mv) (h : Heap) : Fn Tryz.prog 26 #[.agg ⟨x.cs⟩, .agg ⟨y.cs⟩] h fun v h' => v = .bool (decide (evLt x.ev y.ev)) ∧ Ext h h' := by
  apply vc26 x.f x.send x.peer x.label x.t x.ag y.f y.send y.peer y.label y.t y.ag; unfold W26
  have hs := St.refl h
  refine hs.newb fun h13 hs => ?_
  refine hs.newb fun h14 hs => ?_
  refine ⟨_, hs.rd 1 rfl rfl, _, hs.rd 0 rfl rfl, ?_⟩
  have hev : evLt x.ev y.ev ↔ (x.send = true ∧ y.send = false) ∨ (x.send = y.send ∧ (x.peer < y.peer ∨ (x.peer = y.peer ∧ x.label < y.label))) := Iff.rfl
  refine sB_intro (fun c1 => ?_) (fun c1 => ?_)
  · have c1 : x.send ≠ y.send := by simpa using c1
    refine ⟨_, hs.rd 1 rfl rfl, ?_, hs.ext⟩
    congr 1
    cases hx : x.send <;> cases hy : y.send <;> simp [hx, hy] at c1 hev ⊢ <;> simp [hev]
  · have c1 : x.send = y.send := by simpa using c1
    refine ⟨_, hs.rd 1 rfl rfl, _, hs.rd 0 rfl rfl, ?_⟩
    refine sBn (fun c2 => ?_) (fun c2 => ?_)
    · refine ⟨_, hs.rd 1 rfl rfl, _, hs.rd 0 rfl rfl, ?_, hs.ext⟩
      congr 1
      rw [decide_eq_decide, hev, c1]
      constructor
      · intro h; exact .inr ⟨rfl, .inl h⟩
      · rintro (⟨h1, h2⟩ | ⟨_, h | ⟨h, _⟩⟩)
        · rw [h1] at h2; cases h2
        · exact h
        · exact absurd h c2
    · refine ⟨_, hs.rd 1 rfl rfl, _, hs.rd 0 rfl rfl, ?_, hs.ext⟩
      congr 1
      rw [decide_eq_decide, hev, c1]
      constructor
      · intro h; exact .inr ⟨rfl, .inr ⟨c2, h⟩⟩
      · rintro (⟨h1, h2⟩ | ⟨_, h | ⟨_, h⟩⟩)
        · rw [h1] at h2; cases h2
        · omega
        · exact h
def limI (li : List To) (s : Int) : Option Nat := li.findIdx? fun t => decide (t.s = s)
theorem limit48 (m : Mch) (sf sm sl : Sl) (s : Int) (h : Heap) (hM : MI h m sf sm sl) :
    Fn Tryz.prog 48 #[.agg ⟨mC m sf sm sl⟩, .int .i64 s] h fun v h' => v = .int .i64 (match limI m.li s with | some i => (i : Int) | none => -1) ∧ Ext h h' := by
  apply vc48 m.role m.n m.s sf sm sl; unfold W48
  have hs := St.refl h
  have hn := hM.pl.ln
  have hb := hM.pl.sm
  refine hs.newb fun h7 hs => ?_
  refine up_loopS (n := m.li.length) hs (fun i => ∀ (j : Nat) (t : To), j < i → m.li[j]? = some t → t.s ≠ s) (fun j t hj => by omega) ?_
  rintro - i h12 hi ⟨hs, hq⟩
  refine ⟨sl, hs.rd 0 rfl rfl, ?_⟩
  refine sBi (fun c1 => ?_) (fun c1 => ?_)
  · refine ⟨sl, hs.rd 0 rfl rfl, ?_⟩
    refine (hM.pl.ext hs.ext).rw.nbI (by omega) (by omega) fun b15 o16 t g15 t15 => ?_
    replace g15 : m.li[i]? = some t := g15
    refine ⟨_, t15.hd, ?_⟩
    refine sBe (fun c2 => ?_) (fun c2 => ?_)
    · have : limI m.li s = some i := by
        unfold limI
        obtain ⟨h1, h2⟩ := List.getElem?_eq_some_iff.1 g15
        rw [List.findIdx?_eq_some_iff_getElem]
        refine ⟨h1, by rw [h2]; simpa using c2, fun j hj => ?_⟩
        have := hq j m.li[j] hj (List.getElem?_eq_getElem (by omega))
        simpa using this
      exact ⟨by rw [this], hs.ext⟩
    · refine Up.next (by omega) (by omega) ⟨hs, fun j t' hj ht' => ?_⟩
      by_cases e : j = i
      · subst e; rw [g15] at ht'; cases ht'; exact c2
      · exact hq j t' (by omega) ht'
  · have : limI m.li s = none := by
      unfold limI
      rw [List.findIdx?_eq_none_iff]
      intro t ht
      obtain ⟨j, hj⟩ := List.mem_iff_getElem?.1 ht
      have := hq j t (by have := (List.getElem?_eq_some_iff.1 hj).1; omega) hj
      simpa using this
    exact ⟨by rw [this], hs.ext⟩
def sameLim (m : Mch) (a b : Int) : Bool := match limI m.li a, limI m.li b with
  | none, none => true
  | some i, some k => match m.li[i]?, m.li[k]? with
    | some x, some y => match m.mv[x.e.toNat]?, m.mv[y.e.toNat]? with
      | some p, some q => decide (x.k = y.k) && sameMv p q
      | _, _ => false
    | _, _ => false
  | _, _ => false
theorem limI_lt {li : List To} {s : Int} {i : Nat} (h : limI li s = some i) : ∃ t, li[i]? = some t ∧ t.s = s := by
  unfold limI at h
  rw [List.findIdx?_eq_some_iff_getElem] at h
  obtain ⟨h1, h2, _⟩ := h
  exact ⟨_, List.getElem?_eq_getElem h1, by simpa using h2⟩
theorem hc_blk {h : Heap} {a : Addr} {v : Value} (hv : hc h a = some v) : a.block < h.size := by
  rcases Nat.lt_or_ge a.block h.size with h1 | h1
  · exact h1
  · unfold VC.hc at hv
    simp [Array.getElem?_eq_none h1] at hv
end Go.VC
end

section
/- Contracts: equal time limits, right machines, the moves of a state, small automata. -/
namespace Go.VC
open Go.Proofs Go.LexS
set_option maxRecDepth 100000

/-- what a machine of Project is like -/
structure MGood (m : Mch) : Prop where
  n : 1 ≤ m.n ∧ m.n ≤ 200
  s : 0 ≤ m.s ∧ m.s < m.n
  fl : m.fin.length = m.n.toNat
  mv : ∀ x ∈ m.mv, 0 ≤ x.f ∧ x.f < m.n ∧ 0 ≤ x.t ∧ x.t < m.n
  li : ∀ t ∈ m.li, 0 ≤ t.s ∧ t.s < m.n ∧ 0 ≤ t.e ∧ t.e < m.mv.length ∧ ∃ y, m.mv[t.e.toNat]? = some y ∧ y.f = t.s
  so : m.mv.Pairwise mvLt
set_option maxHeartbeats 1000000 in
theorem sameLim18 (m : Mch) (sf sm sl : Sl) (a b : Int) (h : Heap) (hM : MI h m sf sm sl) (hG : MGood m) :
    Fn Tryz.prog 18 #[.agg ⟨mC m sf sm sl⟩, .int .i64 a, .int .i64 b] h fun v h' => v = .bool (sameLim m a b) ∧ Ext h h' := by
  apply vc18 m.role m.n m.s sf sm sl; unfold W18
  have hs := St.refl h
  have hn := hM.pl.ln
  have hmn := hM.pm.ln
  refine hs.newb fun h7 hs => ?_
  refine ⟨_, _, _, sf, sm, sl, hs.at 0 rfl (n := 6) rfl, _, _, _, sf, sm, sl, hs.at 0 rfl (n := 6) rfl, ?_⟩
  refine (limit48 m sf sm sl a h7 (hM.ext hs.ext)).mono ?_
  rintro _ h22 ⟨rfl, E22⟩
  replace hs := hs.step E22
  refine ⟨_, rfl, E22.sm, ?_⟩
  refine (limit48 m sf sm sl b h22 (hM.ext hs.ext)).mono ?_
  rintro _ h25 ⟨rfl, E25⟩
  replace hs := hs.step E25
  refine ⟨_, rfl, E25.sm, ?_⟩
  cases ha : limI m.li a with
  | none =>
    refine sB_t rfl (sB_t rfl ?_)
    cases hb : limI m.li b with
    | none => exact ⟨by unfold sameLim; rw [ha, hb]; rfl, hs.ext⟩
    | some k => exact ⟨by unfold sameLim; rw [ha, hb]; exact congrArg Value.bool (decide_eq_false (show ¬ ((k : Int) < 0) by omega)), hs.ext⟩
  | some i =>
    refine sB_f (decide_eq_false (show ¬ ((i : Int) < 0) by omega)) ?_
    cases hb : limI m.li b with
    | none => exact sB_t rfl (sB_f (decide_eq_false (show ¬ ((i : Int) < 0) by omega)) ⟨by unfold sameLim; rw [ha, hb], hs.ext⟩)
    | some k =>
      refine sB_f (decide_eq_false (show ¬ ((k : Int) < 0) by omega)) ?_
      obtain ⟨x, hx, hxs⟩ := limI_lt ha
      obtain ⟨y, hy, hys⟩ := limI_lt hb
      have hil := (List.getElem?_eq_some_iff.1 hx).1
      have hkl := (List.getElem?_eq_some_iff.1 hy).1
      obtain ⟨_, _, hx3, hx4, p, hp, _⟩ := hG.li x (List.mem_of_getElem? hx)
      obtain ⟨_, _, hy3, hy4, q, hq, _⟩ := hG.li y (List.mem_of_getElem? hy)
      have hsl : sameLim m a b = (decide (x.k = y.k) && sameMv p q) := by unfold sameLim; simp only [ha, hb, hx, hy, hp, hq]
      refine ⟨sl, hs.rd 0 rfl rfl, ?_⟩
      refine hM.pl.rw.nbI (x := (i : Int)) (by omega) (by omega) fun b27 o28 x' g27 t27 => ?_
      rw [Int.toNat_natCast, hx] at g27; cases g27
      refine ⟨_, _, _, atC_ext hs.ext t27, sl, hs.rd 0 rfl rfl, ?_⟩
      refine hM.pl.rw.nbI (x := (k : Int)) (by omega) (by omega) fun b33 o34 y' g33 t33 => ?_
      rw [Int.toNat_natCast, hy] at g33; cases g33
      refine ⟨_, _, _, atC_ext hs.ext t33, ?_⟩
      have hb33 : b33 < h.size := hc_blk t33.hd
      refine ⟨?_, ?_⟩
      · refine hs.newbE fun h38 E38 hs => ⟨E38.sm, ?_⟩
        refine hs.newbE fun h39 E39 hs => ⟨E39.sm, ?_⟩
        refine hs.put 1 rfl (o := 0) (vs := x.cs) rfl (show 3 ≤ 3 by decide) fun h40 hs2 => ?_
        refine ⟨sm_cons (hs.oldb hs2 hb33) (sm_cons (hs.same hs2 2 2 rfl rfl) sm_nil), ?_⟩
        refine hs2.put 0 rfl (o := 0) (vs := y.cs) rfl (show 3 ≤ 3 by decide) fun h41 hs => ?_
        refine ⟨_, hs.rd 1 rfl rfl, _, hs.rd 0 rfl rfl, ?_⟩
        refine sBe (fun c3 => ?_) (fun c3 => ⟨by rw [hsl, decide_eq_false c3]; rfl, hs.ext⟩)
        refine ⟨sm, hs.rd 2 rfl rfl, _, hs.rd 1 rfl rfl, ?_⟩
        refine (hM.pm.ext hs.ext).rw.nbI hx3 (by omega) fun b46 o47 p g46 t46 => ?_
        rw [hp] at g46; cases g46
        refine ⟨_, _, _, _, _, _, t46, sm, hs.rd 2 rfl rfl, _, hs.rd 0 rfl rfl, ?_⟩
        refine (hM.pm.ext hs.ext).rw.nbI hy3 (by omega) fun b56 o57 q g56 t56 => ?_
        rw [hq] at g56; cases g56
        refine ⟨_, _, _, _, _, _, t56, ?_⟩
        refine (sameMove20 _ _ _).mono ?_
        rintro _ h66 ⟨rfl, E66⟩
        exact ⟨_, rfl, E66.sm, by rw [hsl, decide_eq_true c3, Bool.true_and], hs.ext.trans E66⟩
      · refine hs.newbE fun h38 E38 hs => ⟨E38.sm, ?_⟩
        refine hs.newbE fun h39 E39 hs => ⟨E39.sm, ?_⟩
        refine hs.put 0 rfl (o := 0) (vs := x.cs) rfl (show 3 ≤ 3 by decide) fun h40 hs2 => ?_
        refine ⟨sm_cons (hs.oldb hs2 hb33) (sm_cons (hs.same hs2 2 2 rfl rfl) sm_nil), ?_⟩
        refine hs2.put 1 rfl (o := 0) (vs := y.cs) rfl (show 3 ≤ 3 by decide) fun h41 hs => ?_
        refine ⟨_, hs.rd 0 rfl rfl, _, hs.rd 1 rfl rfl, ?_⟩
        refine sBe (fun c3 => ?_) (fun c3 => ⟨by rw [hsl, decide_eq_false c3]; rfl, hs.ext⟩)
        refine ⟨sm, hs.rd 2 rfl rfl, _, hs.rd 0 rfl rfl, ?_⟩
        refine (hM.pm.ext hs.ext).rw.nbI hx3 (by omega) fun b46 o47 p g46 t46 => ?_
        rw [hp] at g46; cases g46
        refine ⟨_, _, _, _, _, _, t46, sm, hs.rd 2 rfl rfl, _, hs.rd 1 rfl rfl, ?_⟩
        refine (hM.pm.ext hs.ext).rw.nbI hy3 (by omega) fun b56 o57 q g56 t56 => ?_
        rw [hq] at g56; cases g56
        refine ⟨_, _, _, _, _, _, t56, ?_⟩
        refine (sameMove20 _ _ _).mono ?_
        rintro _ h66 ⟨rfl, E66⟩
        exact ⟨_, rfl, E66.sm, by rw [hsl, decide_eq_true c3, Bool.true_and], hs.ext.trans E66⟩
set_option maxHeartbeats 1000000 in
theorem right17 (m : Mch) (sf sm sl : Sl) (h : Heap) (hM : MI h m sf sm sl) (hG : MGood m) :
    Fn Tryz.prog 17 #[.agg ⟨mC m sf sm sl⟩] h fun v h' => v = .bool true ∧ Ext h h' := by
  apply vc17 m.role m.n m.s sf sm sl; unfold W17
  have hs := St.refl h
  have hln := hM.pl.ln
  have hmn := hM.pm.ln
  have hfn := hM.pf.ln
  have hlb := hM.pl.sm
  have hmb := hM.pm.sm
  obtain ⟨hG1, hG2, hG3, hG4, hG5, _⟩ := hG
  refine hs.newb fun h7 hs => ?_
  refine ⟨_, hs.rd 0 rfl rfl, sBi (fun c => by omega) fun _ => ?_⟩
  refine ⟨sf, hs.rd 0 rfl rfl, _, hs.rd 0 rfl rfl, sBn (fun c => by omega) fun _ => ?_⟩
  refine ⟨_, hs.rd 0 rfl rfl, sBi (fun c => by omega) fun _ => ?_⟩
  refine ⟨_, hs.rd 0 rfl rfl, _, hs.rd 0 rfl rfl, sBi (fun c => by omega) fun _ => ?_⟩
  refine ⟨sm, hs.rd 0 rfl rfl, ?_⟩
  refine up_loopS (n := sm.n) hs (fun _ => True) trivial ?_
  clear hs
  rintro - i h19 hi ⟨hs, _⟩
  refine sBi (fun c1 => ?_) (fun c1 => ?_)
  · refine (hM.pm.ext hs.ext).rw.nbI (by omega) (by omega) fun b20 o21 x g20 t20 => ?_
    obtain ⟨hx1, hx2, hx3, hx4⟩ := hG4 x (List.mem_of_getElem? g20)
    refine ⟨_, _, _, _, _, _, t20, ?_⟩
    refine hs.newput (vs := x.cs) rfl rfl fun h29 hs => ?_
    refine ⟨_, hs.rd 0 rfl rfl, sBi (fun c => by omega) fun _ => ?_⟩
    refine ⟨_, hs.rd 0 rfl rfl, _, hs.rd 1 rfl rfl, sBi (fun c => by omega) fun _ => ?_⟩
    refine ⟨_, hs.rd 0 rfl rfl, sBi (fun c => by omega) fun _ => ?_⟩
    refine ⟨_, hs.rd 0 rfl rfl, _, hs.rd 1 rfl rfl, sBi (fun c => by omega) fun _ => ?_⟩
    exact Up.next (by omega) (by omega) ⟨hs.drop 1, trivial⟩
  · refine ⟨sl, hs.rd 0 rfl rfl, ?_⟩
    refine up_loopS (n := sl.n) hs (fun _ => True) trivial ?_
    clear hs
    rintro - i h42 hi ⟨hs, _⟩
    refine sBi (fun c2 => ?_) (fun c2 => ?_)
    · refine (hM.pl.ext hs.ext).rw.nbI (by omega) (by omega) fun b43 o44 t g43 t43 => ?_
      obtain ⟨ht1, ht2, ht3, ht4, y, hy, hyf⟩ := hG5 t (List.mem_of_getElem? g43)
      refine ⟨_, _, _, t43, ?_⟩
      refine hs.newput (vs := t.cs) rfl rfl fun h49 hs => ?_
      refine ⟨_, hs.rd 0 rfl rfl, sBi (fun c => by omega) fun _ => ?_⟩
      refine ⟨_, hs.rd 0 rfl rfl, _, hs.rd 1 rfl rfl, sBi (fun c => by omega) fun _ => ?_⟩
      refine ⟨_, hs.rd 0 rfl rfl, sBi (fun c => by omega) fun _ => ?_⟩
      refine ⟨_, hs.rd 0 rfl rfl, sm, hs.rd 1 rfl rfl, sBi (fun c => by omega) fun _ => ?_⟩
      refine ⟨sm, hs.rd 1 rfl rfl, _, hs.rd 0 rfl rfl, ?_⟩
      refine (hM.pm.ext hs.ext).rw.nbI (by omega) (by omega) fun b58 o59 y' g58 t58 => ?_
      rw [hy] at g58; cases g58
      refine ⟨_, t58.hd, _, hs.rd 0 rfl rfl, sBn (fun c => absurd hyf c) fun _ => ?_⟩
      exact Up.next (by omega) (by omega) ⟨hs.drop 1, trivial⟩
    · exact ⟨rfl, hs.ext⟩
def FewS (g : Gl) : Prop := g.es.length ≤ 50 ∧ g.rs.length ≤ 6 ∧ g.ds.length ≤ 40 ∧ g.ts.length ≤ 50
instance (g : Gl) : Decidable (FewS g) := by unfold FewS; infer_instance
theorem few35 (g : Gl) (h : Heap) (hg : GI h g) : Fn Tryz.prog 35 #[g.v] h fun v h' => v = .bool (decide (FewS g)) ∧ Ext h h' := by
  apply vc35 (bs g.nm) g.hr g.hd g.n g.s g.e g.he g.ht; unfold W35
  have hs := St.refl h
  have h1 := hg.e.ln
  have h2 := hg.r.ln
  have h3 := hg.d.r.ln
  have h4 := hg.t.ln
  refine hs.newb fun h9 hs => ?_
  refine ⟨_, hs.rd 0 rfl rfl, ?_⟩
  refine sBi (fun c1 => ?_) (fun c1 => ⟨dF fun hc => by unfold FewS at hc; omega, hs.ext⟩)
  refine ⟨_, hs.rd 0 rfl rfl, ?_⟩
  refine sBi (fun c2 => ?_) (fun c2 => ⟨dF fun hc => by unfold FewS at hc; omega, hs.ext⟩)
  refine ⟨_, hs.rd 0 rfl rfl, ?_⟩
  refine sBi (fun c3 => ?_) (fun c3 => ⟨dF fun hc => by unfold FewS at hc; omega, hs.ext⟩)
  refine ⟨_, hs.rd 0 rfl rfl, ?_, hs.ext⟩
  congr 1
  rw [decide_eq_decide]
  unfold FewS
  omega
theorem few11 (g : Gl) (h : Heap) (hg : GI h g) : Fn Tryz.prog 11 #[g.v] h fun v h' => v = .bool (decide (FewS g ∧ g.n ≤ 25)) ∧ Ext h h' := by
  apply vc11 (bs g.nm) g.hr g.hd g.n g.s g.e g.he g.ht; unfold W11
  have hs := St.refl h
  refine hs.newb fun h9 hs => ?_
  refine ⟨_, _, _, _, _, _, _, _, hs.at 0 rfl (n := 8) rfl, ?_⟩
  refine (few35 g h9 (hg.ext hs.ext)).mono ?_
  rintro _ h20 ⟨rfl, E20⟩
  replace hs := hs.step E20
  refine ⟨_, rfl, ?_⟩
  refine sBi (fun c1 => ?_) (fun c1 => ⟨dF fun hc => c1 hc.1, hs.ext⟩)
  refine ⟨_, hs.rd 0 rfl rfl, ?_, hs.ext⟩
  congr 1
  rw [decide_eq_decide]
  exact ⟨fun h => ⟨c1, h⟩, fun h => h.2⟩
end Go.VC
end
