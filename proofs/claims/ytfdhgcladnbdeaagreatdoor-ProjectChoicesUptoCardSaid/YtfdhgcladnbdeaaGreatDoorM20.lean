/- Texts of this claim, joined: PjVcH, PjY, PjZ, PjVcI, PjMa, PjMb, PjMc, PjMd, PjMe, PjNa, PjNb, PjNc, PjNd, PjNe. -/
import Derived.Test.YtfdhgcladnbdeaaGreatDoorM02
import Derived.Test.YtfdhgcladnbdeaaGreatDoorProg
import Derived.KernelRfl
import Derived.Test.YtfdhgcladnbdeaaGreatDoorM19
set_option linter.unusedVariables false
set_option linter.unusedSimpArgs false

section
namespace Go.VC
open Go.Proofs
set_option maxRecDepth 100000
set_option linter.unusedVariables false

def W10  (h : Heap) (R : Value → Heap → Prop) : Prop :=
 (Fn Tryz.prog 34 #[.bool true] h
 (fun v1 h10 => ∃ (x2 : ByteArray) (x3 x4 : Sl) (x5 x6 x7 : Int) (x8 x9 : Sl), v1 = .agg ⟨[.string x2, .slice x3.a x3.n x3.c, .slice x4.a x4.n x4.c, .int .i64 x5, .int .i64 x6, .int .i64 x7, .slice x8.a x8.n x8.c, .slice x9.a x9.n x9.c]⟩ ∧
 (Fn Tryz.prog 12 #[.agg ⟨[.string x2, .slice x3.a x3.n x3.c, .slice x4.a x4.n x4.c, .int .i64 x5, .int .i64 x6, .int .i64 x7, .slice x8.a x8.n x8.c, .slice x9.a x9.n x9.c]⟩, .int .i64 2] h10
 (fun v11 h19 => ∃ (x12 x13 x14 : Int) (x15 x16 x17 : Sl) (x18 : Int), v11 = .tuple ⟨[.agg ⟨[.int .i64 x12, .int .i64 x13, .int .i64 x14, .slice x15.a x15.n x15.c, .slice x16.a x16.n x16.c, .slice x17.a x17.n x17.c]⟩, .int .i64 x18]⟩ ∧
 (∀ h20 : Heap, h20 = h19.push (.cells ⟨[.int .i64 0, .int .i64 0, .int .i64 0, .slice none 0 0, .slice none 0 0, .slice none 0 0]⟩ 33) →
 (okAt h20 ⟨h19.size, 0, none⟩ 6 ∧ ∀ h21 : Heap, h21 = hputs h20 ⟨h19.size, 0, none⟩ 0 [.int .i64 x12, .int .i64 x13, .int .i64 x14, .slice x15.a x15.n x15.c, .slice x16.a x16.n x16.c, .slice x17.a x17.n x17.c] →
 (Fn Tryz.prog 34 #[.bool false] h21
 (fun v22 h31 => ∃ (x23 : ByteArray) (x24 x25 : Sl) (x26 x27 x28 : Int) (x29 x30 : Sl), v22 = .agg ⟨[.string x23, .slice x24.a x24.n x24.c, .slice x25.a x25.n x25.c, .int .i64 x26, .int .i64 x27, .int .i64 x28, .slice x29.a x29.n x29.c, .slice x30.a x30.n x30.c]⟩ ∧
 (Fn Tryz.prog 12 #[.agg ⟨[.string x23, .slice x24.a x24.n x24.c, .slice x25.a x25.n x25.c, .int .i64 x26, .int .i64 x27, .int .i64 x28, .slice x29.a x29.n x29.c, .slice x30.a x30.n x30.c]⟩, .int .i64 2] h31
 (fun v32 h40 => ∃ (x33 x34 x35 : Int) (x36 x37 x38 : Sl) (x39 : Int), v32 = .tuple ⟨[.agg ⟨[.int .i64 x33, .int .i64 x34, .int .i64 x35, .slice x36.a x36.n x36.c, .slice x37.a x37.n x37.c, .slice x38.a x38.n x38.c]⟩, .int .i64 x39]⟩ ∧
 (∀ h41 : Heap, h41 = h40.push (.cells ⟨[.int .i64 0, .int .i64 0, .int .i64 0, .slice none 0 0, .slice none 0 0, .slice none 0 0]⟩ 33) →
 (okAt h41 ⟨h40.size, 0, none⟩ 6 ∧ ∀ h42 : Heap, h42 = hputs h41 ⟨h40.size, 0, none⟩ 0 [.int .i64 x33, .int .i64 x34, .int .i64 x35, .slice x36.a x36.n x36.c, .slice x37.a x37.n x37.c, .slice x38.a x38.n x38.c] →
 (sB (x18 == 0)
 ((sB (x39 == 18)
 ((∃ x43 : Int, hc h42 ⟨h19.size, 1, none⟩ = some (.int .i64 x43) ∧
 (sB (x43 == 4)
 ((∃ x44 : Sl, hc h42 ⟨h19.size, 4, none⟩ = some (.slice x44.a x44.n x44.c) ∧
 (sB ((x44.n : Int) == 4)
 ((∃ x45 : Sl, hc h42 ⟨h19.size, 4, none⟩ = some (.slice x45.a x45.n x45.c) ∧
 (NB x45.a fun b46 o47 => ((0 ≤ (3 : Int) ∧ (3 : Int) < (x45.n : Nat)) ∧
 (∃ (x48 : Int) (x49 : Bool) (x50 x51 x52 : Int) (x53 : Bool), atC h42 ⟨b46, o47 + Int.toNat 3 * 6, none⟩ [.int .i64 x48, .bool x49, .int .i64 x50, .int .i64 x51, .int .i64 x52, .bool x53] ∧
 (sB ((x48 == 2) && ((x49 == true) && ((x50 == 1) && ((x51 == 3) && ((x52 == 3) && ((x53 == false) && true))))))
 ((∃ x54 : Sl, hc h42 ⟨h19.size, 3, none⟩ = some (.slice x54.a x54.n x54.c) ∧
 (NB x54.a fun b55 o56 => ((0 ≤ (3 : Int) ∧ (3 : Int) < (x54.n : Nat)) ∧
 (∃ x57 : Bool, hc h42 ⟨b55, o56 + Int.toNat 3 * 1, none⟩ = some (.bool x57) ∧
 R (.bool x57) h42)))))
 (R (.bool false) h42)))))))
 (R (.bool false) h42))))
 (R (.bool false) h42))))
 (R (.bool false) h42)))
 (R (.bool false) h42))))))))))))))
theorem vc10e  (h : Heap) (R : Value → Heap → Prop) : W10  h R = fnW Tryz.prog 10 .z #[] h R := by kernel_rfl
theorem vc10  (h : Heap) (R : Value → Heap → Prop) (H : W10  h R) : Fn Tryz.prog 10 #[] h R := fnI (vc10e  h R) H

def W34 (p0 : Bool) (h : Heap) (R : Value → Heap → Prop) : Prop :=
 (∀ h1 : Heap, h1 = h.push (.cells ⟨[.string ⟨#[]⟩, .slice none 0 0, .slice none 0 0, .int .i64 0, .int .i64 0, .int .i64 0, .slice none 0 0, .slice none 0 0]⟩ 27) →
 (∀ h2 : Heap, h2 = h1.push (.cells ⟨[.string ⟨#[112]⟩, .string ⟨#[113]⟩, .string ⟨#[114]⟩]⟩ 9) →
 (∀ h3 : Heap, h3 = h2.push (.cells ⟨[.string ⟨#[97]⟩, .slice none 0 0, .int .i64 0, .slice none 0 0, .slice none 0 0, .string ⟨#[98]⟩, .slice none 0 0, .int .i64 0, .slice none 0 0, .slice none 0 0, .string ⟨#[99]⟩, .slice none 0 0, .int .i64 0, .slice none 0 0, .slice none 0 0, .string ⟨#[100]⟩, .slice none 0 0, .int .i64 0, .slice none 0 0, .slice none 0 0]⟩ 136) →
 (∀ h4 : Heap, h4 = h3.push (.cells ⟨[.string ⟨#[]⟩, .slice none 0 0, .slice none 0 0, .int .i64 0, .int .i64 0, .int .i64 0, .slice none 0 0, .slice none 0 0]⟩ 27) →
 (okAt h4 ⟨h3.size, 0, none⟩ 8 ∧ ∀ h5 : Heap, h5 = hputs h4 ⟨h3.size, 0, none⟩ 0 [.string ⟨#[101]⟩, .slice (some ⟨h1.size, 0, none⟩) 3 3, .slice (some ⟨h2.size, 0, none⟩) 4 4, .int .i64 4, .int .i64 0, .int .i64 3, .slice none 0 0, .slice none 0 0] →
 (Fn Tryz.prog 70 #[.int .i64 0, .int .i64 0, .int .i64 1, .int .i64 0, .int .i64 1] h5
 (fun v6 h13 => ∃ (x7 x8 x9 x10 x11 : Int) (x12 : Bool), v6 = .agg ⟨[.int .i64 x7, .int .i64 x8, .int .i64 x9, .int .i64 x10, .int .i64 x11, .bool x12]⟩ ∧
 (Fn Tryz.prog 70 #[.int .i64 0, .int .i64 0, .int .i64 1, .int .i64 1, .int .i64 2] h13
 (fun v14 h21 => ∃ (x15 x16 x17 x18 x19 : Int) (x20 : Bool), v14 = .agg ⟨[.int .i64 x15, .int .i64 x16, .int .i64 x17, .int .i64 x18, .int .i64 x19, .bool x20]⟩ ∧
 (Fn Tryz.prog 70 #[.int .i64 1, .int .i64 2, .int .i64 1, .int .i64 2, .int .i64 3] h21
 (fun v22 h29 => ∃ (x23 x24 x25 x26 x27 : Int) (x28 : Bool), v22 = .agg ⟨[.int .i64 x23, .int .i64 x24, .int .i64 x25, .int .i64 x26, .int .i64 x27, .bool x28]⟩ ∧
 (Fn Tryz.prog 70 #[.int .i64 2, .int .i64 2, .int .i64 1, .int .i64 3, .int .i64 3] h29
 (fun v30 h37 => ∃ (x31 x32 x33 x34 x35 : Int) (x36 : Bool), v30 = .agg ⟨[.int .i64 x31, .int .i64 x32, .int .i64 x33, .int .i64 x34, .int .i64 x35, .bool x36]⟩ ∧
 (∀ h38 : Heap, h38 = h37.push (.cells ⟨[.int .i64 x7, .int .i64 x8, .int .i64 x9, .int .i64 x10, .int .i64 x11, .bool x12, .int .i64 x15, .int .i64 x16, .int .i64 x17, .int .i64 x18, .int .i64 x19, .bool x20, .int .i64 x23, .int .i64 x24, .int .i64 x25, .int .i64 x26, .int .i64 x27, .bool x28, .int .i64 x31, .int .i64 x32, .int .i64 x33, .int .i64 x34, .int .i64 x35, .bool x36]⟩ 55) →
 (okAt h38 ⟨h3.size, 6, none⟩ 1 ∧ ∀ h39 : Heap, h39 = hputs h38 ⟨h3.size, 6, none⟩ 0 [.slice (some ⟨h37.size, 0, none⟩) 4 4] →
 (sB p0
 ((okAt h39 ⟨h3.size, 3, none⟩ 1 ∧ ∀ h40 : Heap, h40 = hputs h39 ⟨h3.size, 3, none⟩ 0 [.int .i64 6] →
 (okAt h40 ⟨h3.size, 5, none⟩ 1 ∧ ∀ h41 : Heap, h41 = hputs h40 ⟨h3.size, 5, none⟩ 0 [.int .i64 5] →
 (Fn Tryz.prog 70 #[.int .i64 0, .int .i64 0, .int .i64 1, .int .i64 0, .int .i64 1] h41
 (fun v42 h49 => ∃ (x43 x44 x45 x46 x47 : Int) (x48 : Bool), v42 = .agg ⟨[.int .i64 x43, .int .i64 x44, .int .i64 x45, .int .i64 x46, .int .i64 x47, .bool x48]⟩ ∧
 (Fn Tryz.prog 70 #[.int .i64 0, .int .i64 0, .int .i64 1, .int .i64 1, .int .i64 2] h49
 (fun v50 h57 => ∃ (x51 x52 x53 x54 x55 : Int) (x56 : Bool), v50 = .agg ⟨[.int .i64 x51, .int .i64 x52, .int .i64 x53, .int .i64 x54, .int .i64 x55, .bool x56]⟩ ∧
 (Fn Tryz.prog 70 #[.int .i64 1, .int .i64 1, .int .i64 2, .int .i64 0, .int .i64 3] h57
 (fun v58 h65 => ∃ (x59 x60 x61 x62 x63 : Int) (x64 : Bool), v58 = .agg ⟨[.int .i64 x59, .int .i64 x60, .int .i64 x61, .int .i64 x62, .int .i64 x63, .bool x64]⟩ ∧
 (Fn Tryz.prog 70 #[.int .i64 2, .int .i64 1, .int .i64 2, .int .i64 1, .int .i64 4] h65
 (fun v66 h73 => ∃ (x67 x68 x69 x70 x71 : Int) (x72 : Bool), v66 = .agg ⟨[.int .i64 x67, .int .i64 x68, .int .i64 x69, .int .i64 x70, .int .i64 x71, .bool x72]⟩ ∧
 (Fn Tryz.prog 70 #[.int .i64 3, .int .i64 2, .int .i64 1, .int .i64 2, .int .i64 5] h73
 (fun v74 h81 => ∃ (x75 x76 x77 x78 x79 : Int) (x80 : Bool), v74 = .agg ⟨[.int .i64 x75, .int .i64 x76, .int .i64 x77, .int .i64 x78, .int .i64 x79, .bool x80]⟩ ∧
 (Fn Tryz.prog 70 #[.int .i64 4, .int .i64 2, .int .i64 1, .int .i64 3, .int .i64 5] h81
 (fun v82 h89 => ∃ (x83 x84 x85 x86 x87 : Int) (x88 : Bool), v82 = .agg ⟨[.int .i64 x83, .int .i64 x84, .int .i64 x85, .int .i64 x86, .int .i64 x87, .bool x88]⟩ ∧
 (∀ h90 : Heap, h90 = h89.push (.cells ⟨[.int .i64 x43, .int .i64 x44, .int .i64 x45, .int .i64 x46, .int .i64 x47, .bool x48, .int .i64 x51, .int .i64 x52, .int .i64 x53, .int .i64 x54, .int .i64 x55, .bool x56, .int .i64 x59, .int .i64 x60, .int .i64 x61, .int .i64 x62, .int .i64 x63, .bool x64, .int .i64 x67, .int .i64 x68, .int .i64 x69, .int .i64 x70, .int .i64 x71, .bool x72, .int .i64 x75, .int .i64 x76, .int .i64 x77, .int .i64 x78, .int .i64 x79, .bool x80, .int .i64 x83, .int .i64 x84, .int .i64 x85, .int .i64 x86, .int .i64 x87, .bool x88]⟩ 55) →
 (okAt h90 ⟨h3.size, 6, none⟩ 1 ∧ ∀ h91 : Heap, h91 = hputs h90 ⟨h3.size, 6, none⟩ 0 [.slice (some ⟨h89.size, 0, none⟩) 6 6] →
 (∃ (x92 : ByteArray) (x93 x94 : Sl) (x95 x96 x97 : Int) (x98 x99 : Sl), atC h91 ⟨h3.size, 0, none⟩ [.string x92, .slice x93.a x93.n x93.c, .slice x94.a x94.n x94.c, .int .i64 x95, .int .i64 x96, .int .i64 x97, .slice x98.a x98.n x98.c, .slice x99.a x99.n x99.c] ∧
 (okAt h91 ⟨h.size, 0, none⟩ 8 ∧ ∀ h100 : Heap, h100 = hputs h91 ⟨h.size, 0, none⟩ 0 [.string x92, .slice x93.a x93.n x93.c, .slice x94.a x94.n x94.c, .int .i64 x95, .int .i64 x96, .int .i64 x97, .slice x98.a x98.n x98.c, .slice x99.a x99.n x99.c] →
 (∃ (x101 : ByteArray) (x102 x103 : Sl) (x104 x105 x106 : Int) (x107 x108 : Sl), atC h100 ⟨h.size, 0, none⟩ [.string x101, .slice x102.a x102.n x102.c, .slice x103.a x103.n x103.c, .int .i64 x104, .int .i64 x105, .int .i64 x106, .slice x107.a x107.n x107.c, .slice x108.a x108.n x108.c] ∧
 R (.agg ⟨[.string x101, .slice x102.a x102.n x102.c, .slice x103.a x103.n x103.c, .int .i64 x104, .int .i64 x105, .int .i64 x106, .slice x107.a x107.n x107.c, .slice x108.a x108.n x108.c]⟩) h100))))))))))))))))))))
 ((∃ (x109 : ByteArray) (x110 x111 : Sl) (x112 x113 x114 : Int) (x115 x116 : Sl), atC h39 ⟨h3.size, 0, none⟩ [.string x109, .slice x110.a x110.n x110.c, .slice x111.a x111.n x111.c, .int .i64 x112, .int .i64 x113, .int .i64 x114, .slice x115.a x115.n x115.c, .slice x116.a x116.n x116.c] ∧
 (okAt h39 ⟨h.size, 0, none⟩ 8 ∧ ∀ h117 : Heap, h117 = hputs h39 ⟨h.size, 0, none⟩ 0 [.string x109, .slice x110.a x110.n x110.c, .slice x111.a x111.n x111.c, .int .i64 x112, .int .i64 x113, .int .i64 x114, .slice x115.a x115.n x115.c, .slice x116.a x116.n x116.c] →
 (∃ (x118 : ByteArray) (x119 x120 : Sl) (x121 x122 x123 : Int) (x124 x125 : Sl), atC h117 ⟨h.size, 0, none⟩ [.string x118, .slice x119.a x119.n x119.c, .slice x120.a x120.n x120.c, .int .i64 x121, .int .i64 x122, .int .i64 x123, .slice x124.a x124.n x124.c, .slice x125.a x125.n x125.c] ∧
 R (.agg ⟨[.string x118, .slice x119.a x119.n x119.c, .slice x120.a x120.n x120.c, .int .i64 x121, .int .i64 x122, .int .i64 x123, .slice x124.a x124.n x124.c, .slice x125.a x125.n x125.c]⟩) h117))))))))))))))))))))
theorem vc34 (p0 : Bool) (h : Heap) (R : Value → Heap → Prop) (H : W34 p0 h R) : Fn Tryz.prog 34 #[.bool p0] h R := fnI (A := .z) (by kernel_rfl) H

def W70 (p0 p1 p2 p3 p4 : Int) (h : Heap) (R : Value → Heap → Prop) : Prop :=
 (∀ h1 : Heap, h1 = h.push (.cells ⟨[.int .i64 0, .int .i64 0, .int .i64 0, .int .i64 0, .int .i64 0, .bool false]⟩ 55) →
 (okAt h1 ⟨h.size, 0, none⟩ 6 ∧ ∀ h2 : Heap, h2 = hputs h1 ⟨h.size, 0, none⟩ 0 [.int .i64 p0, .int .i64 p1, .int .i64 p2, .int .i64 p3, .int .i64 p4, .bool false] →
 (∃ (x3 x4 x5 x6 x7 : Int) (x8 : Bool), atC h2 ⟨h.size, 0, none⟩ [.int .i64 x3, .int .i64 x4, .int .i64 x5, .int .i64 x6, .int .i64 x7, .bool x8] ∧
 R (.agg ⟨[.int .i64 x3, .int .i64 x4, .int .i64 x5, .int .i64 x6, .int .i64 x7, .bool x8]⟩) h2)))
theorem vc70 (p0 p1 p2 p3 p4 : Int) (h : Heap) (R : Value → Heap → Prop) (H : W70 p0 p1 p2 p3 p4 h R) : Fn Tryz.prog 70 #[.int .i64 p0, .int .i64 p1, .int .i64 p2, .int .i64 p3, .int .i64 p4] h R := fnI (A := .z) (by kernel_rfl) H

def W11 (p0_1 : ByteArray) (p0_2 p0_3 : Sl) (p0_4 p0_5 p0_6 : Int) (p0_7 p0_8 : Sl) (h : Heap) (R : Value → Heap → Prop) : Prop :=
 (∀ h9 : Heap, h9 = h.push (.cells ⟨[.string p0_1, .slice p0_2.a p0_2.n p0_2.c, .slice p0_3.a p0_3.n p0_3.c, .int .i64 p0_4, .int .i64 p0_5, .int .i64 p0_6, .slice p0_7.a p0_7.n p0_7.c, .slice p0_8.a p0_8.n p0_8.c]⟩ 27) →
 (∃ (x10 : ByteArray) (x11 x12 : Sl) (x13 x14 x15 : Int) (x16 x17 : Sl), atC h9 ⟨h.size, 0, none⟩ [.string x10, .slice x11.a x11.n x11.c, .slice x12.a x12.n x12.c, .int .i64 x13, .int .i64 x14, .int .i64 x15, .slice x16.a x16.n x16.c, .slice x17.a x17.n x17.c] ∧
 (Fn Tryz.prog 35 #[.agg ⟨[.string x10, .slice x11.a x11.n x11.c, .slice x12.a x12.n x12.c, .int .i64 x13, .int .i64 x14, .int .i64 x15, .slice x16.a x16.n x16.c, .slice x17.a x17.n x17.c]⟩] h9
 (fun v18 h20 => ∃ x19 : Bool, v18 = .bool x19 ∧
 (sB x19
 ((∃ x21 : Int, hc h20 ⟨h.size, 3, none⟩ = some (.int .i64 x21) ∧
 R (.bool (decide (x21 ≤ 25))) h20))
 (R (.bool false) h20))))))
theorem vc11 (p0_1 : ByteArray) (p0_2 p0_3 : Sl) (p0_4 p0_5 p0_6 : Int) (p0_7 p0_8 : Sl) (h : Heap) (R : Value → Heap → Prop) (H : W11 p0_1 p0_2 p0_3 p0_4 p0_5 p0_6 p0_7 p0_8 h R) : Fn Tryz.prog 11 #[.agg ⟨[.string p0_1, .slice p0_2.a p0_2.n p0_2.c, .slice p0_3.a p0_3.n p0_3.c, .int .i64 p0_4, .int .i64 p0_5, .int .i64 p0_6, .slice p0_7.a p0_7.n p0_7.c, .slice p0_8.a p0_8.n p0_8.c]⟩] h R := fnI (A := .z) (by kernel_rfl) H

/- farandole/farandolelaw25.right
 loop rrrlrb: x_41:Int
 loop rrlrb: x_18:Int -/
def W17 (p0_1 p0_2 p0_3 : Int) (p0_4 p0_5 p0_6 : Sl) (h : Heap) (R : Value → Heap → Prop) : Prop :=
 (∀ h7 : Heap, h7 = h.push (.cells ⟨[.int .i64 p0_1, .int .i64 p0_2, .int .i64 p0_3, .slice p0_4.a p0_4.n p0_4.c, .slice p0_5.a p0_5.n p0_5.c, .slice p0_6.a p0_6.n p0_6.c]⟩ 33) →
 (∃ x8 : Int, hc h7 ⟨h.size, 1, none⟩ = some (.int .i64 x8) ∧
 (sB (decide (x8 < 1))
 (R (.bool false) h7)
 ((∃ x9 : Sl, hc h7 ⟨h.size, 3, none⟩ = some (.slice x9.a x9.n x9.c) ∧
 (∃ x10 : Int, hc h7 ⟨h.size, 1, none⟩ = some (.int .i64 x10) ∧
 (sB ((x9.n : Int) != x10)
 (R (.bool false) h7)
 ((∃ x11 : Int, hc h7 ⟨h.size, 2, none⟩ = some (.int .i64 x11) ∧
 (sB (decide (x11 < 0))
 (R (.bool false) h7)
 ((∃ x12 : Int, hc h7 ⟨h.size, 2, none⟩ = some (.int .i64 x12) ∧
 (∃ x13 : Int, hc h7 ⟨h.size, 1, none⟩ = some (.int .i64 x13) ∧
 (sB (decide (x12 ≥ x13))
 (R (.bool false) h7)
 ((∃ x14 : Sl, hc h7 ⟨h.size, 4, none⟩ = some (.slice x14.a x14.n x14.c) ∧
 (∃ I15 : Int → Heap → Nat → Prop, (∃ m16, I15 0 h7 m16) ∧
 (∀ (_ : Env) (x_18 : Int) (h19 : Heap) (m17 : Nat), I15 x_18 h19 m17 →
 (sB (decide (x_18 < (x14.n : Int)))
 ((NB x14.a fun b20 o21 => ((0 ≤ (x_18 : Int) ∧ (x_18 : Int) < (x14.n : Nat)) ∧
 (∃ (x22 : Int) (x23 : Bool) (x24 x25 x26 : Int) (x27 : Bool), atC h19 ⟨b20, o21 + Int.toNat x_18 * 6, none⟩ [.int .i64 x22, .bool x23, .int .i64 x24, .int .i64 x25, .int .i64 x26, .bool x27] ∧
 (∀ h28 : Heap, h28 = h19.push (.cells ⟨[.int .i64 0, .bool false, .int .i64 0, .int .i64 0, .int .i64 0, .bool false]⟩ 45) →
 (okAt h28 ⟨h19.size, 0, none⟩ 6 ∧ ∀ h29 : Heap, h29 = hputs h28 ⟨h19.size, 0, none⟩ 0 [.int .i64 x22, .bool x23, .int .i64 x24, .int .i64 x25, .int .i64 x26, .bool x27] →
 (∃ x30 : Int, hc h29 ⟨h19.size, 0, none⟩ = some (.int .i64 x30) ∧
 (sB (decide (x30 < 0))
 (R (.bool false) h29)
 ((∃ x31 : Int, hc h29 ⟨h19.size, 0, none⟩ = some (.int .i64 x31) ∧
 (∃ x32 : Int, hc h29 ⟨h.size, 1, none⟩ = some (.int .i64 x32) ∧
 (sB (decide (x31 ≥ x32))
 (R (.bool false) h29)
 ((∃ x33 : Int, hc h29 ⟨h19.size, 4, none⟩ = some (.int .i64 x33) ∧
 (sB (decide (x33 < 0))
 (R (.bool false) h29)
 ((∃ x34 : Int, hc h29 ⟨h19.size, 4, none⟩ = some (.int .i64 x34) ∧
 (∃ x35 : Int, hc h29 ⟨h.size, 1, none⟩ = some (.int .i64 x35) ∧
 (sB (decide (x34 ≥ x35))
 (R (.bool false) h29)
 ((∃ m36, m36 < m17 ∧ I15 (IntKind.wrap .i64 (x_18 + 1)) h29 m36)))))))))))))))))))))
 ((∃ x37 : Sl, hc h19 ⟨h.size, 5, none⟩ = some (.slice x37.a x37.n x37.c) ∧
 (∃ I38 : Int → Heap → Nat → Prop, (∃ m39, I38 0 h19 m39) ∧
 (∀ (_ : Env) (x_41 : Int) (h42 : Heap) (m40 : Nat), I38 x_41 h42 m40 →
 (sB (decide (x_41 < (x37.n : Int)))
 ((NB x37.a fun b43 o44 => ((0 ≤ (x_41 : Int) ∧ (x_41 : Int) < (x37.n : Nat)) ∧
 (∃ (x45 x46 x47 : Int), atC h42 ⟨b43, o44 + Int.toNat x_41 * 3, none⟩ [.int .i64 x45, .int .i64 x46, .int .i64 x47] ∧
 (∀ h48 : Heap, h48 = h42.push (.cells ⟨[.int .i64 0, .int .i64 0, .int .i64 0]⟩ 63) →
 (okAt h48 ⟨h42.size, 0, none⟩ 3 ∧ ∀ h49 : Heap, h49 = hputs h48 ⟨h42.size, 0, none⟩ 0 [.int .i64 x45, .int .i64 x46, .int .i64 x47] →
 (∃ x50 : Int, hc h49 ⟨h42.size, 0, none⟩ = some (.int .i64 x50) ∧
 (sB (decide (x50 < 0))
 (R (.bool false) h49)
 ((∃ x51 : Int, hc h49 ⟨h42.size, 0, none⟩ = some (.int .i64 x51) ∧
 (∃ x52 : Int, hc h49 ⟨h.size, 1, none⟩ = some (.int .i64 x52) ∧
 (sB (decide (x51 ≥ x52))
 (R (.bool false) h49)
 ((∃ x53 : Int, hc h49 ⟨h42.size, 2, none⟩ = some (.int .i64 x53) ∧
 (sB (decide (x53 < 0))
 (R (.bool false) h49)
 ((∃ x54 : Int, hc h49 ⟨h42.size, 2, none⟩ = some (.int .i64 x54) ∧
 (∃ x55 : Sl, hc h49 ⟨h.size, 4, none⟩ = some (.slice x55.a x55.n x55.c) ∧
 (sB (decide (x54 ≥ (x55.n : Int)))
 (R (.bool false) h49)
 ((∃ x56 : Sl, hc h49 ⟨h.size, 4, none⟩ = some (.slice x56.a x56.n x56.c) ∧
 (∃ x57 : Int, hc h49 ⟨h42.size, 2, none⟩ = some (.int .i64 x57) ∧
 (NB x56.a fun b58 o59 => ((0 ≤ (x57 : Int) ∧ (x57 : Int) < (x56.n : Nat)) ∧
 (∃ x60 : Int, hc h49 ⟨b58, o59 + Int.toNat x57 * 6, none⟩ = some (.int .i64 x60) ∧
 (∃ x61 : Int, hc h49 ⟨h42.size, 0, none⟩ = some (.int .i64 x61) ∧
 (sB (x60 != x61)
 (R (.bool false) h49)
 ((∃ m62, m62 < m40 ∧ I38 (IntKind.wrap .i64 (x_41 + 1)) h49 m62)))))))))))))))))))))))))))))
 (R (.bool true) h42)))))))))))))))))))))))))
theorem vc17 (p0_1 p0_2 p0_3 : Int) (p0_4 p0_5 p0_6 : Sl) (h : Heap) (R : Value → Heap → Prop) (H : W17 p0_1 p0_2 p0_3 p0_4 p0_5 p0_6 h R) : Fn Tryz.prog 17 #[.agg ⟨[.int .i64 p0_1, .int .i64 p0_2, .int .i64 p0_3, .slice p0_4.a p0_4.n p0_4.c, .slice p0_5.a p0_5.n p0_5.c, .slice p0_6.a p0_6.n p0_6.c]⟩] h R := fnI (A := (.s .z (.s .z (.s (.s .z (.b (.l [(33, .one (.int .i64))] .z))) (.s (.s .z (.b (.l [(63, .one (.int .i64))] .z))) .z))))) (by kernel_rfl) H

/- farandole/farandoleref25.Out
 loop rrlrborlbrrlb: k_23:Int
 loop rrlrb: out_11:Sl, i_12:Int -/
def W19 (p0_1 p0_2 p0_3 : Int) (p0_4 p0_5 p0_6 : Sl) (p1 : Int) (h : Heap) (R : Value → Heap → Prop) : Prop :=
 (∀ h7 : Heap, h7 = h.push (.cells ⟨[.int .i64 p0_1, .int .i64 p0_2, .int .i64 p0_3, .slice p0_4.a p0_4.n p0_4.c, .slice p0_5.a p0_5.n p0_5.c, .slice p0_6.a p0_6.n p0_6.c]⟩ 33) →
 (∃ I8 : Sl → Int → Heap → Nat → Prop, (∃ m9, I8 ⟨none, 0, 0⟩ 0 h7 m9) ∧
 (∀ (_ : Env) (out_11 : Sl) (i_12 : Int) (h13 : Heap) (m10 : Nat), I8 out_11 i_12 h13 m10 →
 (∃ x14 : Sl, hc h13 ⟨h.size, 4, none⟩ = some (.slice x14.a x14.n x14.c) ∧
 (sB (decide (i_12 < (x14.n : Int)))
 ((∃ x15 : Sl, hc h13 ⟨h.size, 4, none⟩ = some (.slice x15.a x15.n x15.c) ∧
 (NB x15.a fun b16 o17 => ((0 ≤ (i_12 : Int) ∧ (i_12 : Int) < (x15.n : Nat)) ∧
 (∃ x18 : Int, hc h13 ⟨b16, o17 + Int.toNat i_12 * 6, none⟩ = some (.int .i64 x18) ∧
 (sB (x18 != p1)
 ((∃ m19, m19 < m10 ∧ I8 out_11 (IntKind.wrap .i64 (i_12 + 1)) h13 m19))
 ((∃ I20 : Int → Heap → Nat → Prop, (∃ m21, I20 0 h13 m21) ∧
 (∀ (_ : Env) (k_23 : Int) (h24 : Heap) (m22 : Nat), I20 k_23 h24 m22 →
 (sB (decide (k_23 < (out_11.n : Int)))
 ((∃ x25 : Sl, hc h24 ⟨h.size, 4, none⟩ = some (.slice x25.a x25.n x25.c) ∧
 (NB x25.a fun b26 o27 => ((0 ≤ (i_12 : Int) ∧ (i_12 : Int) < (x25.n : Nat)) ∧
 (∃ (x28 : Int) (x29 : Bool) (x30 x31 x32 : Int) (x33 : Bool), atC h24 ⟨b26, o27 + Int.toNat i_12 * 6, none⟩ [.int .i64 x28, .bool x29, .int .i64 x30, .int .i64 x31, .int .i64 x32, .bool x33] ∧
 (∃ x34 : Sl, hc h24 ⟨h.size, 4, none⟩ = some (.slice x34.a x34.n x34.c) ∧
 (NB out_11.a fun b35 o36 => ((0 ≤ (k_23 : Int) ∧ (k_23 : Int) < (out_11.n : Nat)) ∧
 (∃ x37 : Int, hc h24 ⟨b35, o36 + Int.toNat k_23 * 1, none⟩ = some (.int .i64 x37) ∧
 (NB x34.a fun b38 o39 => ((0 ≤ (x37 : Int) ∧ (x37 : Int) < (x34.n : Nat)) ∧
 (∃ (x40 : Int) (x41 : Bool) (x42 x43 x44 : Int) (x45 : Bool), atC h24 ⟨b38, o39 + Int.toNat x37 * 6, none⟩ [.int .i64 x40, .bool x41, .int .i64 x42, .int .i64 x43, .int .i64 x44, .bool x45] ∧
 (Fn Tryz.prog 26 #[.agg ⟨[.int .i64 x28, .bool x29, .int .i64 x30, .int .i64 x31, .int .i64 x32, .bool x33]⟩, .agg ⟨[.int .i64 x40, .bool x41, .int .i64 x42, .int .i64 x43, .int .i64 x44, .bool x45]⟩] h24
 (fun v46 h48 => ∃ x47 : Bool, v46 = .bool x47 ∧
 (sB (!x47)
 ((∃ m49, m49 < m22 ∧ I20 (IntKind.wrap .i64 (k_23 + 1)) h48 m49))
 ((((0 : Int) ≤ (0 : Int) ∧ (0 : Int) ≤ (k_23 : Int) ∧ (k_23 : Int) ≤ (out_11.c : Nat)) ∧
 (((0 : Int) ≤ (k_23 : Int) ∧ (k_23 : Int) ≤ ((out_11.n : Nat) : Int) ∧ ((out_11.n : Nat) : Int) ≤ (out_11.c : Nat)) ∧
 ((∀ h50 : Heap, h50 = h48.push (.cells ⟨[]⟩ 3) →
 ((App Tryz.prog 42 42 (.slice (some ⟨h48.size, 0, none⟩) 0 0) (.slice (subA out_11.a (Int.toNat 0) out_11.c 1) (Int.toNat k_23 - Int.toNat 0) (out_11.c - Int.toNat 0)) h50 fun s51 h52 =>
 (∀ h53 : Heap, h53 = h52.push (.cells ⟨[.int .i64 i_12]⟩ 3) →
 (App Tryz.prog 42 42 (.slice s51.a s51.n s51.c) (.slice (some ⟨h52.size, 0, none⟩) 1 1) h53 fun s54 h55 =>
 (App Tryz.prog 42 42 (.slice s54.a s54.n s54.c) (.slice (subA out_11.a (Int.toNat k_23) out_11.c 1) (Int.toNat (out_11.n : Nat) - Int.toNat k_23) (out_11.c - Int.toNat k_23)) h55 fun s56 h57 =>
 (∃ m58, m58 < m10 ∧ I8 s56 (IntKind.wrap .i64 (i_12 + 1)) h57 m58)))))) ∧ ((∀ h59 : Heap, h59 = h50.push (.cells ⟨[.int .i64 i_12]⟩ 3) →
 (App Tryz.prog 42 42 (.slice (some ⟨h48.size, 0, none⟩) 0 0) (.slice (subA out_11.a (Int.toNat 0) out_11.c 1) (Int.toNat k_23 - Int.toNat 0) (out_11.c - Int.toNat 0)) h59 fun s60 h61 =>
 (App Tryz.prog 42 42 (.slice s60.a s60.n s60.c) (.slice (some ⟨h50.size, 0, none⟩) 1 1) h61 fun s62 h63 =>
 (App Tryz.prog 42 42 (.slice s62.a s62.n s62.c) (.slice (subA out_11.a (Int.toNat k_23) out_11.c 1) (Int.toNat (out_11.n : Nat) - Int.toNat k_23) (out_11.c - Int.toNat k_23)) h63 fun s64 h65 =>
 (∃ m66, m66 < m10 ∧ I8 s64 (IntKind.wrap .i64 (i_12 + 1)) h65 m66)))))))) ∧ ((∀ h67 : Heap, h67 = h48.push (.cells ⟨[.int .i64 i_12]⟩ 3) →
 (∀ h68 : Heap, h68 = h67.push (.cells ⟨[]⟩ 3) →
 (App Tryz.prog 42 42 (.slice (some ⟨h67.size, 0, none⟩) 0 0) (.slice (subA out_11.a (Int.toNat 0) out_11.c 1) (Int.toNat k_23 - Int.toNat 0) (out_11.c - Int.toNat 0)) h68 fun s69 h70 =>
 (App Tryz.prog 42 42 (.slice s69.a s69.n s69.c) (.slice (some ⟨h48.size, 0, none⟩) 1 1) h70 fun s71 h72 =>
 (App Tryz.prog 42 42 (.slice s71.a s71.n s71.c) (.slice (subA out_11.a (Int.toNat k_23) out_11.c 1) (Int.toNat (out_11.n : Nat) - Int.toNat k_23) (out_11.c - Int.toNat k_23)) h72 fun s73 h74 =>
 (∃ m75, m75 < m10 ∧ I8 s73 (IntKind.wrap .i64 (i_12 + 1)) h74 m75)))))))))))))))))))))))))
 ((((0 : Int) ≤ (0 : Int) ∧ (0 : Int) ≤ (k_23 : Int) ∧ (k_23 : Int) ≤ (out_11.c : Nat)) ∧
 (((0 : Int) ≤ (k_23 : Int) ∧ (k_23 : Int) ≤ ((out_11.n : Nat) : Int) ∧ ((out_11.n : Nat) : Int) ≤ (out_11.c : Nat)) ∧
 ((∀ h76 : Heap, h76 = h24.push (.cells ⟨[]⟩ 3) →
 ((App Tryz.prog 42 42 (.slice (some ⟨h24.size, 0, none⟩) 0 0) (.slice (subA out_11.a (Int.toNat 0) out_11.c 1) (Int.toNat k_23 - Int.toNat 0) (out_11.c - Int.toNat 0)) h76 fun s77 h78 =>
 (∀ h79 : Heap, h79 = h78.push (.cells ⟨[.int .i64 i_12]⟩ 3) →
 (App Tryz.prog 42 42 (.slice s77.a s77.n s77.c) (.slice (some ⟨h78.size, 0, none⟩) 1 1) h79 fun s80 h81 =>
 (App Tryz.prog 42 42 (.slice s80.a s80.n s80.c) (.slice (subA out_11.a (Int.toNat k_23) out_11.c 1) (Int.toNat (out_11.n : Nat) - Int.toNat k_23) (out_11.c - Int.toNat k_23)) h81 fun s82 h83 =>
 (∃ m84, m84 < m10 ∧ I8 s82 (IntKind.wrap .i64 (i_12 + 1)) h83 m84)))))) ∧ ((∀ h85 : Heap, h85 = h76.push (.cells ⟨[.int .i64 i_12]⟩ 3) →
 (App Tryz.prog 42 42 (.slice (some ⟨h24.size, 0, none⟩) 0 0) (.slice (subA out_11.a (Int.toNat 0) out_11.c 1) (Int.toNat k_23 - Int.toNat 0) (out_11.c - Int.toNat 0)) h85 fun s86 h87 =>
 (App Tryz.prog 42 42 (.slice s86.a s86.n s86.c) (.slice (some ⟨h76.size, 0, none⟩) 1 1) h87 fun s88 h89 =>
 (App Tryz.prog 42 42 (.slice s88.a s88.n s88.c) (.slice (subA out_11.a (Int.toNat k_23) out_11.c 1) (Int.toNat (out_11.n : Nat) - Int.toNat k_23) (out_11.c - Int.toNat k_23)) h89 fun s90 h91 =>
 (∃ m92, m92 < m10 ∧ I8 s90 (IntKind.wrap .i64 (i_12 + 1)) h91 m92)))))))) ∧ ((∀ h93 : Heap, h93 = h24.push (.cells ⟨[.int .i64 i_12]⟩ 3) →
 (∀ h94 : Heap, h94 = h93.push (.cells ⟨[]⟩ 3) →
 (App Tryz.prog 42 42 (.slice (some ⟨h93.size, 0, none⟩) 0 0) (.slice (subA out_11.a (Int.toNat 0) out_11.c 1) (Int.toNat k_23 - Int.toNat 0) (out_11.c - Int.toNat 0)) h94 fun s95 h96 =>
 (App Tryz.prog 42 42 (.slice s95.a s95.n s95.c) (.slice (some ⟨h24.size, 0, none⟩) 1 1) h96 fun s97 h98 =>
 (App Tryz.prog 42 42 (.slice s97.a s97.n s97.c) (.slice (subA out_11.a (Int.toNat k_23) out_11.c 1) (Int.toNat (out_11.n : Nat) - Int.toNat k_23) (out_11.c - Int.toNat k_23)) h98 fun s99 h100 =>
 (∃ m101, m101 < m10 ∧ I8 s99 (IntKind.wrap .i64 (i_12 + 1)) h100 m101))))))))))))))))))))
 (R (.slice out_11.a out_11.n out_11.c) h13))))))
theorem vc19 (p0_1 p0_2 p0_3 : Int) (p0_4 p0_5 p0_6 : Sl) (p1 : Int) (h : Heap) (R : Value → Heap → Prop) (H : W19 p0_1 p0_2 p0_3 p0_4 p0_5 p0_6 p1 h R) : Fn Tryz.prog 19 #[.agg ⟨[.int .i64 p0_1, .int .i64 p0_2, .int .i64 p0_3, .slice p0_4.a p0_4.n p0_4.c, .slice p0_5.a p0_5.n p0_5.c, .slice p0_6.a p0_6.n p0_6.c]⟩, .int .i64 p1] h R := fnI (A := (.s .z (.s .z (.s (.s .z (.b (.l [(5, .one (.slice)), (6, .one (.int .i64))] (.s .z (.s (.b (.s .z (.s .z (.s (.b (.l [(7, .one (.int .i64))] .z)) .z)))) .z))))) .z)))) (by kernel_rfl) H

def W26 (p0_1 : Int) (p0_2 : Bool) (p0_3 p0_4 p0_5 : Int) (p0_6 : Bool) (p1_7 : Int) (p1_8 : Bool) (p1_9 p1_10 p1_11 : Int) (p1_12 : Bool) (h : Heap) (R : Value → Heap → Prop) : Prop :=
 (∀ h13 : Heap, h13 = h.push (.cells ⟨[.int .i64 p0_1, .bool p0_2, .int .i64 p0_3, .int .i64 p0_4, .int .i64 p0_5, .bool p0_6]⟩ 45) →
 (∀ h14 : Heap, h14 = h13.push (.cells ⟨[.int .i64 p1_7, .bool p1_8, .int .i64 p1_9, .int .i64 p1_10, .int .i64 p1_11, .bool p1_12]⟩ 45) →
 (∃ x15 : Bool, hc h14 ⟨h.size, 1, none⟩ = some (.bool x15) ∧
 (∃ x16 : Bool, hc h14 ⟨h13.size, 1, none⟩ = some (.bool x16) ∧
 (sB (!(x15 == x16))
 ((∃ x17 : Bool, hc h14 ⟨h.size, 1, none⟩ = some (.bool x17) ∧
 R (.bool x17) h14))
 ((∃ x18 : Int, hc h14 ⟨h.size, 2, none⟩ = some (.int .i64 x18) ∧
 (∃ x19 : Int, hc h14 ⟨h13.size, 2, none⟩ = some (.int .i64 x19) ∧
 (sB (x18 != x19)
 ((∃ x20 : Int, hc h14 ⟨h.size, 2, none⟩ = some (.int .i64 x20) ∧
 (∃ x21 : Int, hc h14 ⟨h13.size, 2, none⟩ = some (.int .i64 x21) ∧
 R (.bool (decide (x20 < x21))) h14)))
 ((∃ x22 : Int, hc h14 ⟨h.size, 3, none⟩ = some (.int .i64 x22) ∧
 (∃ x23 : Int, hc h14 ⟨h13.size, 3, none⟩ = some (.int .i64 x23) ∧
 R (.bool (decide (x22 < x23))) h14))))))))))))
theorem vc26 (p0_1 : Int) (p0_2 : Bool) (p0_3 p0_4 p0_5 : Int) (p0_6 : Bool) (p1_7 : Int) (p1_8 : Bool) (p1_9 p1_10 p1_11 : Int) (p1_12 : Bool) (h : Heap) (R : Value → Heap → Prop) (H : W26 p0_1 p0_2 p0_3 p0_4 p0_5 p0_6 p1_7 p1_8 p1_9 p1_10 p1_11 p1_12 h R) : Fn Tryz.prog 26 #[.agg ⟨[.int .i64 p0_1, .bool p0_2, .int .i64 p0_3, .int .i64 p0_4, .int .i64 p0_5, .bool p0_6]⟩, .agg ⟨[.int .i64 p1_7, .bool p1_8, .int .i64 p1_9, .int .i64 p1_10, .int .i64 p1_11, .bool p1_12]⟩] h R := fnI (A := .z) (by kernel_rfl) H

/- farandole/farandoleref25.Limit
 loop rlrb: i_11:Int -/
/- farandole/farandolelaw25.ProjectMinimal
 loop rrrrrrrlrborrlbrrrb: x_67:Int
 loop rrrrrrrrlrborbrrborrlbrrborrlbrrrrlrb: ok_140:Bool, j_141:Int
 loop rrrrrrrrlrborbrrborrlbrrb: changed_111:Bool, x_112:Int
 loop rrrrrrrrlrborbrrb: changed_104:Bool, x_105:Int
 loop rrrrrrrrrlrborrlbrrb: x_244:Int
 loop rrrrrrrrrlrb: x_238:Int
 loop rrrrrrrrlrb: changed_99:Bool
 loop rrrrrrrlrb: x_58:Int -/
end Go.VC
end

section
/- The example, and that the laws are awake. -/
namespace Go.VC
open Go.Proofs Go.LexS
set_option maxRecDepth 100000

def exD (x : Nm) : Dc := ⟨x, ⟨none, 0, 0⟩, 0, ⟨none, 0, 0⟩, ⟨none, 0, 0⟩, [], [], []⟩
def exEs : Bool → List Ed
  | true => [⟨0, 0, 1, 0, 1, false⟩, ⟨0, 0, 1, 1, 2, false⟩, ⟨1, 1, 2, 0, 3, false⟩, ⟨2, 1, 2, 1, 4, false⟩, ⟨3, 2, 1, 2, 5, false⟩, ⟨4, 2, 1, 3, 5, false⟩]
  | false => [⟨0, 0, 1, 0, 1, false⟩, ⟨0, 0, 1, 1, 2, false⟩, ⟨1, 2, 1, 2, 3, false⟩, ⟨2, 2, 1, 3, 3, false⟩]
def exGl (b : Bool) (hr hd he ht : Sl) : Gl := ⟨[101], hr, hd, if b then 6 else 4, 0, if b then 5 else 3, he, ht, [[112], [113], [114]], [exD [97], exD [98], exD [99], exD [100]], exEs b, []⟩
theorem edge70 (p0 p1 p2 p3 p4 : Int) (h : Heap) : Fn Tryz.prog 70 #[.int .i64 p0, .int .i64 p1, .int .i64 p2, .int .i64 p3, .int .i64 p4] h fun v h' => v = .agg ⟨Ed.cs ⟨p0, p1, p2, p3, p4, false⟩⟩ ∧ Ext h h' := by
  apply vc70; unfold W70
  have hs := St.refl h
  refine hs.newput (vs := Ed.cs ⟨p0, p1, p2, p3, p4, false⟩) rfl rfl fun h2 hs => ?_
  exact ⟨_, _, _, _, _, _, hs.at 0 rfl (n := 6) rfl, rfl, hs.ext⟩
theorem RL.none_ {α : Type} {h : Heap} {k : Nat} {cs : α → List Value} : RL h k ⟨none, 0, 0⟩ cs [] := ⟨Rw.nil, Nat.le_refl _, fun _ => ⟨rfl, rfl⟩, Nat.zero_le _⟩
theorem St.rl {α : Type} {h0 h : Heap} {L : List It} (hs : St h0 h L) (k : Nat) {s : Sl} {e : TypeId} {n : Nat} {cs : α → List Value} {l : List α} (hk : L[k]? = some (.sl s e n (l.map cs))) (hn : 0 < n) (hl : l.length ≤ 1048576) : RL h n s cs l := by
  have := hs.len k hk hn
  exact ⟨hs.rows k hk hn, this.2.1, this.2.2, hl⟩
theorem nmrows (L : List Nm) : ∀ r ∈ L.map nmC, r.length = 1 := fun r hr => by obtain ⟨x, _, rfl⟩ := List.mem_map.1 hr; rfl
theorem dcrows (L : List Dc) : ∀ r ∈ L.map Dc.cs, r.length = 5 := fun r hr => by obtain ⟨x, _, rfl⟩ := List.mem_map.1 hr; rfl
theorem edrows (L : List Ed) : ∀ r ∈ L.map Ed.cs, r.length = 6 := fun r hr => by obtain ⟨x, _, rfl⟩ := List.mem_map.1 hr; rfl
set_option maxHeartbeats 1000000 in
theorem example34 (b : Bool) (h : Heap) : Fn Tryz.prog 34 #[.bool b] h fun v h' => Ext h h' ∧ ∃ hr hd he : Sl, v = (exGl b hr hd he ⟨none, 0, 0⟩).v ∧ GI h' (exGl b hr hd he ⟨none, 0, 0⟩) := by
  apply vc34; unfold W34
  have hs := St.refl h
  refine hs.newb fun h1 hs => ?_
  refine hs.newb fun h2 hs => ?_
  have hs := hs.blkS 3 1 ([[112], [113], [114]].map nmC) rfl (nmrows _) rfl (by decide)
  refine hs.newb fun h3 hs => ?_
  have hs := hs.blkS 4 5 ([exD [97], exD [98], exD [99], exD [100]].map Dc.cs) rfl (dcrows _) rfl (by decide)
  refine hs.newput (vs := [.string (bs [101]), .slice (some ⟨h1.size, 0, none⟩) 3 3, .slice (some ⟨h2.size, 0, none⟩) 4 4, .int .i64 4, .int .i64 0, .int .i64 3, .slice none 0 0, .slice none 0 0]) rfl rfl fun h5 hs => ?_
  refine (edge70 _ _ _ _ _ _).mono ?_
  rintro _ _ ⟨rfl, E⟩
  replace hs := hs.step E
  clear E
  refine ⟨_, _, _, _, _, _, rfl, ?_⟩
  refine (edge70 _ _ _ _ _ _).mono ?_
  rintro _ _ ⟨rfl, E⟩
  replace hs := hs.step E
  clear E
  refine ⟨_, _, _, _, _, _, rfl, ?_⟩
  refine (edge70 _ _ _ _ _ _).mono ?_
  rintro _ _ ⟨rfl, E⟩
  replace hs := hs.step E
  clear E
  refine ⟨_, _, _, _, _, _, rfl, ?_⟩
  refine (edge70 _ _ _ _ _ _).mono ?_
  rintro _ _ ⟨rfl, E⟩
  replace hs := hs.step E
  clear E
  refine ⟨_, _, _, _, _, _, rfl, ?_⟩
  refine hs.newb fun h38 hs => ?_
  have hs := hs.blkS 4 6 ((exEs false).map Ed.cs) rfl (edrows _) rfl (by decide)
  refine hs.put 1 rfl (o := 6) (vs := [.slice (some ⟨_, 0, none⟩) 4 4]) rfl (show 7 ≤ 8 by decide) fun h39 hs => ?_
  cases b
  · refine sB_f rfl ?_
    refine ⟨_, ⟨some ⟨h1.size, 0, none⟩, 3, 3⟩, ⟨some ⟨h2.size, 0, none⟩, 4, 4⟩, _, _, _, ⟨some ⟨_, 0, none⟩, 4, 4⟩, ⟨none, 0, 0⟩, hs.at 1 rfl (n := 8) rfl, ?_⟩
    refine hs.put 4 rfl (o := 0) (vs := (exGl false ⟨some ⟨h1.size, 0, none⟩, 3, 3⟩ ⟨some ⟨h2.size, 0, none⟩, 4, 4⟩ ⟨some ⟨_, 0, none⟩, 4, 4⟩ ⟨none, 0, 0⟩).cs) rfl (show 8 ≤ 8 by decide) fun h117 hs => ?_
    refine ⟨_, ⟨some ⟨h1.size, 0, none⟩, 3, 3⟩, ⟨some ⟨h2.size, 0, none⟩, 4, 4⟩, _, _, _, ⟨some ⟨_, 0, none⟩, 4, 4⟩, ⟨none, 0, 0⟩, hs.at 4 rfl (n := 8) rfl, hs.ext, _, _, _, rfl, ?_⟩
    refine ⟨hs.rl 3 rfl (by decide) (show 3 ≤ 1048576 by decide), ⟨hs.rl 2 rfl (by decide) (show 4 ≤ 1048576 by decide), fun d hd => ?_⟩, hs.rl 0 rfl (by decide) (show 4 ≤ 1048576 by decide), RL.none_⟩
    have hd : d ∈ [exD [97], exD [98], exD [99], exD [100]] := hd
    simp only [List.mem_cons, List.not_mem_nil, or_false] at hd
    rcases hd with rfl | rfl | rfl | rfl <;> exact ⟨RL.none_, RL.none_, RL.none_⟩
  · refine sB_t rfl ?_
    refine hs.put 1 rfl (o := 3) (vs := [.int .i64 6]) rfl (show 4 ≤ 8 by decide) fun h40 hs => ?_
    refine hs.put 1 rfl (o := 5) (vs := [.int .i64 5]) rfl (show 6 ≤ 8 by decide) fun h41 hs => ?_
    refine (edge70 _ _ _ _ _ _).mono ?_
    rintro _ _ ⟨rfl, E⟩
    replace hs := hs.step E
    clear E
    refine ⟨_, _, _, _, _, _, rfl, ?_⟩
    refine (edge70 _ _ _ _ _ _).mono ?_
    rintro _ _ ⟨rfl, E⟩
    replace hs := hs.step E
    clear E
    refine ⟨_, _, _, _, _, _, rfl, ?_⟩
    refine (edge70 _ _ _ _ _ _).mono ?_
    rintro _ _ ⟨rfl, E⟩
    replace hs := hs.step E
    clear E
    refine ⟨_, _, _, _, _, _, rfl, ?_⟩
    refine (edge70 _ _ _ _ _ _).mono ?_
    rintro _ _ ⟨rfl, E⟩
    replace hs := hs.step E
    clear E
    refine ⟨_, _, _, _, _, _, rfl, ?_⟩
    refine (edge70 _ _ _ _ _ _).mono ?_
    rintro _ _ ⟨rfl, E⟩
    replace hs := hs.step E
    clear E
    refine ⟨_, _, _, _, _, _, rfl, ?_⟩
    refine (edge70 _ _ _ _ _ _).mono ?_
    rintro _ _ ⟨rfl, E⟩
    replace hs := hs.step E
    clear E
    refine ⟨_, _, _, _, _, _, rfl, ?_⟩
    refine hs.newb fun h90 hs => ?_
    have hs := hs.blkS 6 6 ((exEs true).map Ed.cs) rfl (edrows _) rfl (by decide)
    refine hs.put 2 rfl (o := 6) (vs := [.slice (some ⟨_, 0, none⟩) 6 6]) rfl (show 7 ≤ 8 by decide) fun h91 hs => ?_
    refine ⟨_, ⟨some ⟨h1.size, 0, none⟩, 3, 3⟩, ⟨some ⟨h2.size, 0, none⟩, 4, 4⟩, _, _, _, ⟨some ⟨_, 0, none⟩, 6, 6⟩, ⟨none, 0, 0⟩, hs.at 2 rfl (n := 8) rfl, ?_⟩
    refine hs.put 5 rfl (o := 0) (vs := (exGl true ⟨some ⟨h1.size, 0, none⟩, 3, 3⟩ ⟨some ⟨h2.size, 0, none⟩, 4, 4⟩ ⟨some ⟨_, 0, none⟩, 6, 6⟩ ⟨none, 0, 0⟩).cs) rfl (show 8 ≤ 8 by decide) fun h117 hs => ?_
    refine ⟨_, ⟨some ⟨h1.size, 0, none⟩, 3, 3⟩, ⟨some ⟨h2.size, 0, none⟩, 4, 4⟩, _, _, _, ⟨some ⟨_, 0, none⟩, 6, 6⟩, ⟨none, 0, 0⟩, hs.at 5 rfl (n := 8) rfl, hs.ext, _, _, _, rfl, ?_⟩
    refine ⟨hs.rl 4 rfl (by decide) (show 3 ≤ 1048576 by decide), ⟨hs.rl 3 rfl (by decide) (show 4 ≤ 1048576 by decide), fun d hd => ?_⟩, hs.rl 0 rfl (by decide) (show 6 ≤ 1048576 by decide), RL.none_⟩
    have hd : d ∈ [exD [97], exD [98], exD [99], exD [100]] := hd
    simp only [List.mem_cons, List.not_mem_nil, or_false] at hd
    rcases hd with rfl | rfl | rfl | rfl <;> exact ⟨RL.none_, RL.none_, RL.none_⟩

deriving instance DecidableEq for Ed
theorem ex_valid (b : Bool) (hr hd he ht : Sl) : ValidS (exGl b hr hd he ht) := by
  have hrs : (exGl b hr hd he ht).rs = [[112], [113], [114]] := rfl
  have hds : (exGl b hr hd he ht).ds = [exD [97], exD [98], exD [99], exD [100]] := rfl
  have hes : (exGl b hr hd he ht).es = exEs b := rfl
  have hall : allF [exD [97], exD [98], exD [99], exD [100]] = [] := rfl
  have get3 : ∀ {α : Type} {P : Nat → α → Prop} {l : List α}, (∀ i (hi : i < l.length), P i l[i]) → ∀ i x, l[i]? = some x → P i x := by
    intro α P l h i x hx
    obtain ⟨h1, h2⟩ := List.getElem?_eq_some_iff.1 hx
    rw [← h2]; exact h i h1
  refine ⟨⟨by rfl, by rw [hrs]; decide, by rw [hrs]; decide, ?_⟩, ⟨?_, ?_, ?_⟩, ?_, ⟨?_, ?_, ?_⟩, ?_, ?_, ?_⟩
  · rw [hrs]
    refine get3 (P := fun i s => isWord s = true ∧ s ∉ List.take i [[112], [113], [114]]) fun i hi => ?_
    have hi : i < 3 := hi
    match i, hi with
    | 0, _ => exact of_decide_eq_true rfl
    | 1, _ => exact of_decide_eq_true rfl
    | 2, _ => exact of_decide_eq_true rfl
  · cases b <;> exact ⟨of_decide_eq_true rfl, of_decide_eq_true rfl, of_decide_eq_true rfl, of_decide_eq_true rfl, of_decide_eq_true rfl, of_decide_eq_true rfl⟩
  · rw [hes]; cases b <;> decide
  · rw [hes]
    unfold EdS
    rw [hrs, hds]
    cases b
    · show ∀ x ∈ exEs false, 0 ≤ x.f ∧ 0 ≤ x.t ∧ 0 ≤ x.a ∧ 0 ≤ x.b ∧ 0 ≤ x.l ∧ x.f < 4 ∧ x.t < 4 ∧ x.a < ((3 : Nat) : Int) ∧ x.b < ((3 : Nat) : Int) ∧ x.a ≠ x.b ∧ x.l < ((4 : Nat) : Int)
      decide
    · show ∀ x ∈ exEs true, 0 ≤ x.f ∧ 0 ≤ x.t ∧ 0 ≤ x.a ∧ 0 ≤ x.b ∧ 0 ≤ x.l ∧ x.f < 6 ∧ x.t < 6 ∧ x.a < ((3 : Nat) : Int) ∧ x.b < ((3 : Nat) : Int) ∧ x.a ≠ x.b ∧ x.l < ((4 : Nat) : Int)
      decide
  · rw [hds]
    refine ⟨by decide, by rw [hall]; decide, ?_⟩
    refine get3 (P := fun i d => DcS [exD [97], exD [98], exD [99], exD [100]] i d) fun i hi => ?_
    have hi : i < 4 := hi
    have hg : GuardS [] [] [] := ⟨by decide, by decide, fun x hx => (by cases hx), fun x hx => (by cases hx)⟩
    match i, hi with
    | 0, _ => exact ⟨by rfl, of_decide_eq_true rfl, of_decide_eq_true rfl, by rfl, fun k f hf => (by cases hf), by rw [hall]; exact hg⟩
    | 1, _ => exact ⟨by rfl, of_decide_eq_true rfl, of_decide_eq_true rfl, by rfl, fun k f hf => (by cases hf), by rw [hall]; exact hg⟩
    | 2, _ => exact ⟨by rfl, of_decide_eq_true rfl, of_decide_eq_true rfl, by rfl, fun k f hf => (by cases hf), by rw [hall]; exact hg⟩
    | 3, _ => exact ⟨by rfl, of_decide_eq_true rfl, of_decide_eq_true rfl, by rfl, fun k f hf => (by cases hf), by rw [hall]; exact hg⟩
  · rw [hes]; cases b
    · show ∀ x ∈ exEs false, x.f ≠ 3
      decide
    · show ∀ x ∈ exEs true, x.f ≠ 5
      decide
  · rw [hes]; cases b
    · show ∀ x ∈ exEs false, x.ag = true → x.f ≠ 0
      decide
    · show ∀ x ∈ exEs true, x.ag = true → x.f ≠ 0
      decide
  · rw [hes]
    have key : ((exEs b).zipIdx.all fun p => (exEs b).zipIdx.all fun q => !decide ((p.2 ≠ q.2 ∧ p.1.f = q.1.f ∧ ((p.1.a = q.1.a ∧ p.1.b = q.1.b ∧ p.1.l = q.1.l) ∨ p.1.a ≠ q.1.a ∨ p.1.ag = true)) ∨ (p.1.ag = true ∧ q.1.t = p.1.f ∧ (p.1.a ≠ q.1.a ∨ p.1.l ≠ q.1.l)))) = true := by
      cases b <;> decide
    intro i x hx k y hy hbad
    have h1 := List.all_eq_true.1 key (x, i) (List.mem_iff_getElem?.2 ⟨i, by rw [List.getElem?_zipIdx, hx]; simp⟩)
    have h2 := List.all_eq_true.1 h1 (y, k) (List.mem_iff_getElem?.2 ⟨k, by rw [List.getElem?_zipIdx, hy]; simp⟩)
    have h3 := of_decide_eq_false (Bool.not_eq_true' _ ▸ h2)
    exact h3 hbad
  · intro i t ht; exact absurd ht (by show ([] : List To)[i]? ≠ some t; simp)
  · intro v h0 h1
    rw [hes]
    cases b
    · have h1 : v < 4 := h1
      show Rch (exEs false) false 0 v
      have s0 : Rch (exEs false) false 0 0 := .refl
      have s1 : Rch (exEs false) false 0 1 := .step s0 ⟨⟨0, 0, 1, 0, 1, false⟩, by decide, rfl, rfl⟩
      have s2 : Rch (exEs false) false 0 2 := .step s0 ⟨⟨0, 0, 1, 1, 2, false⟩, by decide, rfl, rfl⟩
      have s3 : Rch (exEs false) false 0 3 := .step s1 ⟨⟨1, 2, 1, 2, 3, false⟩, by decide, rfl, rfl⟩
      have : v = 0 ∨ v = 1 ∨ v = 2 ∨ v = 3 := by omega
      rcases this with rfl | rfl | rfl | rfl <;> assumption
    · have h1 : v < 6 := h1
      show Rch (exEs true) false 0 v
      have s0 : Rch (exEs true) false 0 0 := .refl
      have s1 : Rch (exEs true) false 0 1 := .step s0 ⟨⟨0, 0, 1, 0, 1, false⟩, by decide, rfl, rfl⟩
      have s2 : Rch (exEs true) false 0 2 := .step s0 ⟨⟨0, 0, 1, 1, 2, false⟩, by decide, rfl, rfl⟩
      have s3 : Rch (exEs true) false 0 3 := .step s1 ⟨⟨1, 1, 2, 0, 3, false⟩, by decide, rfl, rfl⟩
      have s4 : Rch (exEs true) false 0 4 := .step s2 ⟨⟨2, 1, 2, 1, 4, false⟩, by decide, rfl, rfl⟩
      have s5 : Rch (exEs true) false 0 5 := .step s3 ⟨⟨3, 2, 1, 2, 5, false⟩, by decide, rfl, rfl⟩
      have : v = 0 ∨ v = 1 ∨ v = 2 ∨ v = 3 ∨ v = 4 ∨ v = 5 := by omega
      rcases this with rfl | rfl | rfl | rfl | rfl | rfl <;> assumption
  · intro v h0 h1
    rw [hes]
    cases b
    · have h1 : v < 4 := h1
      show Rch (exEs false) true 3 v
      have s3 : Rch (exEs false) true 3 3 := .refl
      have s1 : Rch (exEs false) true 3 1 := .step s3 ⟨⟨1, 2, 1, 2, 3, false⟩, by decide, rfl, rfl⟩
      have s2 : Rch (exEs false) true 3 2 := .step s3 ⟨⟨2, 2, 1, 3, 3, false⟩, by decide, rfl, rfl⟩
      have s0 : Rch (exEs false) true 3 0 := .step s1 ⟨⟨0, 0, 1, 0, 1, false⟩, by decide, rfl, rfl⟩
      have : v = 0 ∨ v = 1 ∨ v = 2 ∨ v = 3 := by omega
      rcases this with rfl | rfl | rfl | rfl <;> assumption
    · have h1 : v < 6 := h1
      show Rch (exEs true) true 5 v
      have s5 : Rch (exEs true) true 5 5 := .refl
      have s3 : Rch (exEs true) true 5 3 := .step s5 ⟨⟨3, 2, 1, 2, 5, false⟩, by decide, rfl, rfl⟩
      have s4 : Rch (exEs true) true 5 4 := .step s5 ⟨⟨4, 2, 1, 3, 5, false⟩, by decide, rfl, rfl⟩
      have s1 : Rch (exEs true) true 5 1 := .step s3 ⟨⟨1, 1, 2, 0, 3, false⟩, by decide, rfl, rfl⟩
      have s2 : Rch (exEs true) true 5 2 := .step s4 ⟨⟨2, 1, 2, 1, 4, false⟩, by decide, rfl, rfl⟩
      have s0 : Rch (exEs true) true 5 0 := .step s1 ⟨⟨0, 0, 1, 0, 1, false⟩, by decide, rfl, rfl⟩
      have : v = 0 ∨ v = 1 ∨ v = 2 ∨ v = 3 ∨ v = 4 ∨ v = 5 := by omega
      rcases this with rfl | rfl | rfl | rfl | rfl | rfl <;> assumption
end Go.VC
end

section
/- Contract: the laws of layer 25 are awake. -/
namespace Go.VC
open Go.Proofs Go.LexS
set_option maxRecDepth 100000

def exM : Mch := ⟨2, 4, 0, [false, false, false, true], [⟨0, false, 1, 0, 1, false⟩, ⟨0, false, 1, 1, 2, false⟩, ⟨1, true, 1, 2, 3, false⟩, ⟨2, true, 1, 3, 3, false⟩], []⟩
theorem ex_raw_true (hr hd he ht : Sl) : rawC (exGl true hr hd he ht) 2 = some (some exM, 0) := by kernel_rfl
theorem ex_raw_false (hr hd he ht : Sl) : rawC (exGl false hr hd he ht) 2 = some (none, 18) := by kernel_rfl
theorem ex_min : minF exM = exM := by kernel_rfl
theorem ex_true (hr hd he ht : Sl) : proj (exGl true hr hd he ht) 2 = (some exM, 0) := by
  have := rawC_ok (ex_valid true hr hd he ht) (by decide) (show (2 : Int) < ((3 : Nat) : Int) by decide) (ex_raw_true hr hd he ht)
  unfold proj
  rw [this]
  show (some (minF exM), 0) = _
  rw [ex_min]
theorem ex_false (hr hd he ht : Sl) : proj (exGl false hr hd he ht) 2 = (none, 18) := by
  have := rawC_ok (ex_valid false hr hd he ht) (by decide) (show (2 : Int) < ((3 : Nat) : Int) by decide) (ex_raw_false hr hd he ht)
  unfold proj
  rw [this]
theorem awake10 (h : Heap) (hx : Gx h) : Fn Tryz.prog 10 #[] h fun v h' => v = .bool true ∧ Ext h h' := by
  apply vc10; unfold W10
  have hs := St.refl h
  refine (example34 true h).mono ?_
  rintro _ h10 ⟨E10, hr, hd, he, rfl, hg⟩
  replace hs := hs.step E10
  refine ⟨_, hr, hd, _, _, _, he, ⟨none, 0, 0⟩, rfl, ?_⟩
  refine (project12 _ 2 h10 hg (hx.ext hs.ext)).mono ?_
  rintro _ h19 ⟨E19, hm⟩
  rw [ex_true] at hm
  cases hm with
  | err he0 _ => cases he0
  | @ok m sf sm sl he0 hs2 =>
    cases he0
    have hs := (hs.step (E19)).ext
    have hs := (St.refl h).step hs
    have hs1 : St h h19 (mL exM sf sm sl) := by
      have := (St.step (St.refl h) E10).join hs2
      exact this
    refine ⟨_, _, _, sf, sm, sl, 0, rfl, ?_⟩
    refine hs1.newput (vs := mC exM sf sm sl) rfl rfl fun h21 hs => ?_
    refine (example34 false h21).mono ?_
    rintro _ h31 ⟨E31, hr2, hd2, he2, rfl, hg2⟩
    replace hs := hs.step E31
    refine ⟨_, hr2, hd2, _, _, _, he2, ⟨none, 0, 0⟩, rfl, ?_⟩
    refine (project12 _ 2 h31 hg2 (hx.ext hs.ext)).mono ?_
    rintro _ h40 ⟨E40, hm2⟩
    rw [ex_false] at hm2
    replace hs := hs.step E40
    cases hm2 with
    | ok he1 _ => cases he1
    | @err e he1 h0 =>
      cases he1
      refine ⟨0, 0, 0, ⟨none, 0, 0⟩, ⟨none, 0, 0⟩, ⟨none, 0, 0⟩, 18, rfl, ?_⟩
      refine hs.newput (vs := m0) rfl rfl fun h42 hs => ?_
      refine sB_t rfl (sB_t rfl ?_)
      refine ⟨_, hs.rd 1 rfl rfl, ?_⟩
      refine sB_t rfl ?_
      have hmn := (hs.rows 3 (s := sm) (cs := Mv.cs) rfl (by omega)).ln
      have hfn := (hs.rows 2 (s := sf) (cs := bC) rfl (by omega)).ln
      have hmn : sm.n = 4 := hmn
      have hfn : sf.n = 4 := hfn
      refine ⟨sm, hs.rd 1 rfl rfl, ?_⟩
      refine sBe (fun _ => ?_) (fun c => absurd (by rw [hmn]; rfl) c)
      refine ⟨sm, hs.rd 1 rfl rfl, ?_⟩
      refine (hs.rows 3 (s := sm) (cs := Mv.cs) rfl (by omega)).nbI (by decide) (by rw [hmn]; decide) fun b46 o47 x g46 t46 => ?_
      cases g46
      refine ⟨_, _, _, _, _, _, t46, ?_⟩
      refine sB_t rfl ?_
      refine ⟨sf, hs.rd 1 rfl rfl, ?_⟩
      refine (hs.rows 2 (s := sf) (cs := bC) rfl (by omega)).nbI (by decide) (by rw [hfn]; decide) fun b55 o56 x g55 t55 => ?_
      cases g55
      exact ⟨_, t55.hd, rfl, hs.ext⟩
end Go.VC
end

section
namespace Go.VC
open Go.Proofs
set_option maxRecDepth 100000
set_option linter.unusedVariables false

def W35 (p0_1 : ByteArray) (p0_2 p0_3 : Sl) (p0_4 p0_5 p0_6 : Int) (p0_7 p0_8 : Sl) (h : Heap) (R : Value → Heap → Prop) : Prop :=
 (∀ h9 : Heap, h9 = h.push (.cells ⟨[.string p0_1, .slice p0_2.a p0_2.n p0_2.c, .slice p0_3.a p0_3.n p0_3.c, .int .i64 p0_4, .int .i64 p0_5, .int .i64 p0_6, .slice p0_7.a p0_7.n p0_7.c, .slice p0_8.a p0_8.n p0_8.c]⟩ 27) →
 (∃ x10 : Sl, hc h9 ⟨h.size, 6, none⟩ = some (.slice x10.a x10.n x10.c) ∧
 (sB (decide ((x10.n : Int) ≤ 50))
 ((∃ x11 : Sl, hc h9 ⟨h.size, 1, none⟩ = some (.slice x11.a x11.n x11.c) ∧
 (sB (decide ((x11.n : Int) ≤ 6))
 ((∃ x12 : Sl, hc h9 ⟨h.size, 2, none⟩ = some (.slice x12.a x12.n x12.c) ∧
 (sB (decide ((x12.n : Int) ≤ 40))
 ((∃ x13 : Sl, hc h9 ⟨h.size, 7, none⟩ = some (.slice x13.a x13.n x13.c) ∧
 R (.bool (decide ((x13.n : Int) ≤ 50))) h9))
 (R (.bool false) h9))))
 (R (.bool false) h9))))
 (R (.bool false) h9))))
theorem vc35 (p0_1 : ByteArray) (p0_2 p0_3 : Sl) (p0_4 p0_5 p0_6 : Int) (p0_7 p0_8 : Sl) (h : Heap) (R : Value → Heap → Prop) (H : W35 p0_1 p0_2 p0_3 p0_4 p0_5 p0_6 p0_7 p0_8 h R) : Fn Tryz.prog 35 #[.agg ⟨[.string p0_1, .slice p0_2.a p0_2.n p0_2.c, .slice p0_3.a p0_3.n p0_3.c, .int .i64 p0_4, .int .i64 p0_5, .int .i64 p0_6, .slice p0_7.a p0_7.n p0_7.c, .slice p0_8.a p0_8.n p0_8.c]⟩] h R := fnI (A := .z) (by kernel_rfl) H

end Go.VC
end

section
/- Contracts of the reference's small functions over machines. -/
namespace Go.VC
open Go.Proofs Go.LexS
set_option maxRecDepth 100000

def sameMv (x y : Mv) : Bool := decide (x.send = y.send ∧ x.peer = y.peer ∧ x.label = y.label ∧ x.ag = y.ag)
theorem before26 (x y : Mv) (h : Heap) : Fn Tryz.prog 26 #[.agg ⟨x.cs⟩, .agg ⟨y.cs⟩] h fun v h' => v = .bool (decide (evLt x.ev y.ev)) ∧ Ext h h' := by
  apply vc26 x.f x.send x.peer x.label x.t x.ag y.f y.send y.peer y.label y.t y.ag; unfold W26
  have hs := St.refl h
  refine hs.newb fun h13 hs => ?_
  refine hs.newb fun h14 hs => ?_
  refine ⟨_, hs.rd 1 rfl rfl, _, hs.rd 0 rfl rfl, ?_⟩
  have hev : evLt x.ev y.ev ↔ (x.send = true ∧ y.send = false) ∨ (x.send = y.send ∧ (x.peer < y.peer ∨ (x.peer = y.peer ∧ x.label < y.label))) := Iff.rfl
  refine sB_intro (fun c1 => ?_) (fun c1 => ?_)
  · have c1 : x.send ≠ y.send := by simpa using c1
    refine ⟨_, hs.rd 1 rfl rfl, ?_, hs.ext⟩
    congr 1
    cases hx : x.send <;> cases hy : y.send <;> simp [hx, hy] at c1 hev ⊢ <;> simp [hev]
  · have c1 : x.send = y.send := by simpa using c1
    refine ⟨_, hs.rd 1 rfl rfl, _, hs.rd 0 rfl rfl, ?_⟩
    refine sBn (fun c2 => ?_) (fun c2 => ?_)
    · refine ⟨_, hs.rd 1 rfl rfl, _, hs.rd 0 rfl rfl, ?_, hs.ext⟩
      congr 1
      rw [decide_eq_decide, hev, c1]
      constructor
      · intro h; exact .inr ⟨rfl, .inl h⟩
      · rintro (⟨h1, h2⟩ | ⟨_, h | ⟨h, _⟩⟩)
        · rw [h1] at h2; cases h2
        · exact h
        · exact absurd h c2
    · refine ⟨_, hs.rd 1 rfl rfl, _, hs.rd 0 rfl rfl, ?_, hs.ext⟩
      congr 1
      rw [decide_eq_decide, hev, c1]
      constructor
      · intro h; exact .inr ⟨rfl, .inr ⟨c2, h⟩⟩
      · rintro (⟨h1, h2⟩ | ⟨_, h | ⟨_, h⟩⟩)
        · rw [h1] at h2; cases h2
        · omega
        · exact h
def limI (li : List To) (s : Int) : Option Nat := li.findIdx? fun t => decide (t.s = s)
def sameLim (m : Mch) (a b : Int) : Bool := match limI m.li a, limI m.li b with
  | none, none => true
  | some i, some k => match m.li[i]?, m.li[k]? with
    | some x, some y => match m.mv[x.e.toNat]?, m.mv[y.e.toNat]? with
      | some p, some q => decide (x.k = y.k) && sameMv p q
      | _, _ => false
    | _, _ => false
  | _, _ => false
theorem hc_blk {h : Heap} {a : Addr} {v : Value} (hv : hc h a = some v) : a.block < h.size := by
  rcases Nat.lt_or_ge a.block h.size with h1 | h1
  · exact h1
  · unfold VC.hc at hv
    simp [Array.getElem?_eq_none h1] at hv
end Go.VC
end

section
/- Contracts: equal time limits, right machines, the moves of a state, small automata. -/
namespace Go.VC
open Go.Proofs Go.LexS
set_option maxRecDepth 100000

structure MGood (m : Mch) : Prop where
  n : 1 ≤ m.n ∧ m.n ≤ 200
  s : 0 ≤ m.s ∧ m.s < m.n
  fl : m.fin.length = m.n.toNat
  mv : ∀ x ∈ m.mv, 0 ≤ x.f ∧ x.f < m.n ∧ 0 ≤ x.t ∧ x.t < m.n
  li : ∀ t ∈ m.li, 0 ≤ t.s ∧ t.s < m.n ∧ 0 ≤ t.e ∧ t.e < m.mv.length ∧ ∃ y, m.mv[t.e.toNat]? = some y ∧ y.f = t.s
  so : m.mv.Pairwise mvLt
set_option maxHeartbeats 1000000 in
theorem right17 (m : Mch) (sf sm sl : Sl) (h : Heap) (hM : MI h m sf sm sl) (hG : MGood m) :
    Fn Tryz.prog 17 #[.agg ⟨mC m sf sm sl⟩] h fun v h' => v = .bool true ∧ Ext h h' := by
  apply vc17 m.role m.n m.s sf sm sl; unfold W17
  have hs := St.refl h
  have hln := hM.pl.ln
  have hmn := hM.pm.ln
  have hfn := hM.pf.ln
  have hlb := hM.pl.sm
  have hmb := hM.pm.sm
  obtain ⟨hG1, hG2, hG3, hG4, hG5, _⟩ := hG
  refine hs.newb fun h7 hs => ?_
  refine ⟨_, hs.rd 0 rfl rfl, sBi (fun c => by omega) fun _ => ?_⟩
  refine ⟨sf, hs.rd 0 rfl rfl, _, hs.rd 0 rfl rfl, sBn (fun c => by omega) fun _ => ?_⟩
  refine ⟨_, hs.rd 0 rfl rfl, sBi (fun c => by omega) fun _ => ?_⟩
  refine ⟨_, hs.rd 0 rfl rfl, _, hs.rd 0 rfl rfl, sBi (fun c => by omega) fun _ => ?_⟩
  refine ⟨sm, hs.rd 0 rfl rfl, ?_⟩
  refine up_loopS (n := sm.n) hs (fun _ => True) trivial ?_
  clear hs
  rintro - i h19 hi ⟨hs, _⟩
  refine sBi (fun c1 => ?_) (fun c1 => ?_)
  · refine (hM.pm.ext hs.ext).rw.nbI (by omega) (by omega) fun b20 o21 x g20 t20 => ?_
    obtain ⟨hx1, hx2, hx3, hx4⟩ := hG4 x (List.mem_of_getElem? g20)
    refine ⟨_, _, _, _, _, _, t20, ?_⟩
    refine hs.newput (vs := x.cs) rfl rfl fun h29 hs => ?_
    refine ⟨_, hs.rd 0 rfl rfl, sBi (fun c => by omega) fun _ => ?_⟩
    refine ⟨_, hs.rd 0 rfl rfl, _, hs.rd 1 rfl rfl, sBi (fun c => by omega) fun _ => ?_⟩
    refine ⟨_, hs.rd 0 rfl rfl, sBi (fun c => by omega) fun _ => ?_⟩
    refine ⟨_, hs.rd 0 rfl rfl, _, hs.rd 1 rfl rfl, sBi (fun c => by omega) fun _ => ?_⟩
    exact Up.next (by omega) (by omega) ⟨hs.drop 1, trivial⟩
  · refine ⟨sl, hs.rd 0 rfl rfl, ?_⟩
    refine up_loopS (n := sl.n) hs (fun _ => True) trivial ?_
    clear hs
    rintro - i h42 hi ⟨hs, _⟩
    refine sBi (fun c2 => ?_) (fun c2 => ?_)
    · refine (hM.pl.ext hs.ext).rw.nbI (by omega) (by omega) fun b43 o44 t g43 t43 => ?_
      obtain ⟨ht1, ht2, ht3, ht4, y, hy, hyf⟩ := hG5 t (List.mem_of_getElem? g43)
      refine ⟨_, _, _, t43, ?_⟩
      refine hs.newput (vs := t.cs) rfl rfl fun h49 hs => ?_
      refine ⟨_, hs.rd 0 rfl rfl, sBi (fun c => by omega) fun _ => ?_⟩
      refine ⟨_, hs.rd 0 rfl rfl, _, hs.rd 1 rfl rfl, sBi (fun c => by omega) fun _ => ?_⟩
      refine ⟨_, hs.rd 0 rfl rfl, sBi (fun c => by omega) fun _ => ?_⟩
      refine ⟨_, hs.rd 0 rfl rfl, sm, hs.rd 1 rfl rfl, sBi (fun c => by omega) fun _ => ?_⟩
      refine ⟨sm, hs.rd 1 rfl rfl, _, hs.rd 0 rfl rfl, ?_⟩
      refine (hM.pm.ext hs.ext).rw.nbI (by omega) (by omega) fun b58 o59 y' g58 t58 => ?_
      rw [hy] at g58; cases g58
      refine ⟨_, t58.hd, _, hs.rd 0 rfl rfl, sBn (fun c => absurd hyf c) fun _ => ?_⟩
      exact Up.next (by omega) (by omega) ⟨hs.drop 1, trivial⟩
    · exact ⟨rfl, hs.ext⟩
def FewS (g : Gl) : Prop := g.es.length ≤ 50 ∧ g.rs.length ≤ 6 ∧ g.ds.length ≤ 40 ∧ g.ts.length ≤ 50
instance (g : Gl) : Decidable (FewS g) := by unfold FewS; infer_instance
theorem few35 (g : Gl) (h : Heap) (hg : GI h g) : Fn Tryz.prog 35 #[g.v] h fun v h' => v = .bool (decide (FewS g)) ∧ Ext h h' := by
  apply vc35 (bs g.nm) g.hr g.hd g.n g.s g.e g.he g.ht; unfold W35
  have hs := St.refl h
  have h1 := hg.e.ln
  have h2 := hg.r.ln
  have h3 := hg.d.r.ln
  have h4 := hg.t.ln
  refine hs.newb fun h9 hs => ?_
  refine ⟨_, hs.rd 0 rfl rfl, ?_⟩
  refine sBi (fun c1 => ?_) (fun c1 => ⟨dF fun hc => by unfold FewS at hc; omega, hs.ext⟩)
  refine ⟨_, hs.rd 0 rfl rfl, ?_⟩
  refine sBi (fun c2 => ?_) (fun c2 => ⟨dF fun hc => by unfold FewS at hc; omega, hs.ext⟩)
  refine ⟨_, hs.rd 0 rfl rfl, ?_⟩
  refine sBi (fun c3 => ?_) (fun c3 => ⟨dF fun hc => by unfold FewS at hc; omega, hs.ext⟩)
  refine ⟨_, hs.rd 0 rfl rfl, ?_, hs.ext⟩
  congr 1
  rw [decide_eq_decide]
  unfold FewS
  omega
theorem few11 (g : Gl) (h : Heap) (hg : GI h g) : Fn Tryz.prog 11 #[g.v] h fun v h' => v = .bool (decide (FewS g ∧ g.n ≤ 25)) ∧ Ext h h' := by
  apply vc11 (bs g.nm) g.hr g.hd g.n g.s g.e g.he g.ht; unfold W11
  have hs := St.refl h
  refine hs.newb fun h9 hs => ?_
  refine ⟨_, _, _, _, _, _, _, _, hs.at 0 rfl (n := 8) rfl, ?_⟩
  refine (few35 g h9 (hg.ext hs.ext)).mono ?_
  rintro _ h20 ⟨rfl, E20⟩
  replace hs := hs.step E20
  refine ⟨_, rfl, ?_⟩
  refine sBi (fun c1 => ?_) (fun c1 => ⟨dF fun hc => c1 hc.1, hs.ext⟩)
  refine ⟨_, hs.rd 0 rfl rfl, ?_, hs.ext⟩
  congr 1
  rw [decide_eq_decide]
  exact ⟨fun h => ⟨c1, h⟩, fun h => h.2⟩
end Go.VC
end

section
/- Contract: the moves of a state. -/
namespace Go.VC
open Go.Proofs Go.LexS
set_option maxRecDepth 100000

def outP (m : Mch) (s : Int) (i : Nat) : Bool := match m.mv[i]? with | some x => decide (x.f = s) | none => false
def outIx (m : Mch) (s : Int) : List Nat := (List.range m.mv.length).filter (outP m s)
theorem mvLt_get {l : List Mv} (hS : l.Pairwise mvLt) {i j : Nat} {x y : Mv} (hij : i < j) (hx : l[i]? = some x) (hy : l[j]? = some y) : mvLt x y := by
  obtain ⟨h1, h2⟩ := List.getElem?_eq_some_iff.1 hx
  obtain ⟨h3, h4⟩ := List.getElem?_eq_some_iff.1 hy
  have := List.pairwise_iff_getElem.1 hS i j h1 h3 hij
  rwa [h2, h4] at this
set_option maxHeartbeats 1000000 in
theorem out19 (m : Mch) (sf sm sl : Sl) (s : Int) (h : Heap) (hM : MI h m sf sm sl) (hS : m.mv.Pairwise mvLt) :
    Fn Tryz.prog 19 #[.agg ⟨mC m sf sm sl⟩, .int .i64 s] h fun v h' => ∃ r : Sl, v = .slice r.a r.n r.c ∧ St h h' [.sl r 3 1 ((natI (outIx m s)).map inC)] := by
  apply vc19 m.role m.n m.s sf sm sl; unfold W19
  have hs := St.refl h
  have hmn := hM.pm.ln
  have hmb := hM.pm.sm
  refine hs.newb fun h7 hs => ?_
  have hs := hs.nil_ 3 1
  refine up_loopA (n := m.mv.length) hs (fun i rows => rows = (natI ((List.range i).filter (outP m s))).map inC) rfl ?_
  clear hs
  rintro - i out h13 rows hi hs rfl
  have holn := (hs.rows 0 (cs := inC) rfl (by omega)).ln
  have hocap := hs.len 0 (s := out) (e := 3) (n := 1) rfl (by omega)
  rw [show (natI ((List.range i).filter (outP m s))).length = ((List.range i).filter (outP m s)).length from List.length_map _] at holn
  have hol : ((List.range i).filter (outP m s)).length ≤ i := Nat.le_trans (List.length_filter_le _ _) (by rw [List.length_range]; exact Nat.le_refl _)
  refine ⟨sm, hs.rd 1 rfl rfl, ?_⟩
  refine sBi (fun c1 => ?_) (fun c1 => ?_)
  · have him : i < m.mv.length := by omega
    refine ⟨sm, hs.rd 1 rfl rfl, ?_⟩
    refine (hM.pm.ext hs.ext).rw.nbI (by omega) (by omega) fun b16 o17 x g16 t16 => ?_
    replace g16 : m.mv[i]? = some x := g16
    refine ⟨_, t16.hd, ?_⟩
    have hrs : (List.range (i + 1)).filter (outP m s) = if x.f = s then (List.range i).filter (outP m s) ++ [i] else (List.range i).filter (outP m s) := by
      rw [List.range_succ, List.filter_append]
      have hp : outP m s i = decide (x.f = s) := by unfold outP; rw [g16]
      by_cases e : x.f = s
      · rw [if_pos e, List.filter_cons_of_pos (by rw [hp]; exact decide_eq_true e)]; rfl
      · rw [if_neg e, List.filter_cons_of_neg (by rw [hp, decide_eq_false e]; simp)]; simp
    refine sBn (fun c2 => ?_) (fun c2 => ?_)
    · exact UpA.next him (by omega) ⟨_, hs, by rw [hrs, if_neg c2]⟩
    · rw [if_pos c2] at hrs
      generalize hO : (List.range i).filter (outP m s) = O at *
      have hOm : ∀ (k j : Nat), O[k]? = some j → j < i ∧ ∃ y, m.mv[j]? = some y ∧ y.f = s := fun k j hk => by
        have := List.mem_of_getElem? hk
        rw [← hO, List.mem_filter, List.mem_range] at this
        obtain ⟨y, hy⟩ := get_some (l := m.mv) (i := j) (by omega)
        refine ⟨this.1, y, hy, ?_⟩
        have h2 := this.2
        unfold outP at h2
        rw [hy] at h2
        exact of_decide_eq_true h2
      clear hO
      refine up_loopS (n := out.n) hs (fun _ => True) trivial ?_
      clear hs
      rintro - k h24 hk ⟨hs, _⟩
      refine sBi (fun c3 => ?_) (fun c3 => ?_)
      · refine ⟨sm, hs.rd 1 rfl rfl, ?_⟩
        refine (hM.pm.ext hs.ext).rw.nbI (by omega) (by omega) fun b26 o27 x' g26 t26 => ?_
        rw [Int.toNat_natCast, g16] at g26; cases g26
        refine ⟨_, _, _, _, _, _, t26, sm, hs.rd 1 rfl rfl, ?_⟩
        refine (hs.rows 0 (cs := inC) rfl (by omega)).nbI (by omega) (by omega) fun b35 o36 d g35 t35 => ?_
        obtain ⟨j, hj, rfl⟩ := natI_get g35
        obtain ⟨hji, y, hy, hys⟩ := hOm _ _ hj
        refine ⟨_, t35.hd, ?_⟩
        refine (hM.pm.ext hs.ext).rw.nbI (by omega) (by omega) fun b38 o39 y' g38 t38 => ?_
        rw [Int.toNat_natCast, hy] at g38; cases g38
        refine ⟨_, _, _, _, _, _, t38, ?_⟩
        refine (before26 x y h24).mono ?_
        rintro _ h48 ⟨rfl, E48⟩
        refine ⟨_, rfl, ?_⟩
        have hlt : ¬ evLt x.ev y.ev := by
          intro hc
          rcases mvLt_get hS hji hy g16 with h1 | ⟨_, h1⟩
          · omega
          · exact evLt_irr _ (evLt_trans h1 hc)
        rw [decide_eq_false hlt]
        refine sB_t rfl ?_
        exact Up.next (by omega) (by omega) ⟨hs.step E48, trivial⟩
      · have hkn : k = out.n := by omega
        subst hkn
        have hor := hs.rows 0 (s := out) (cs := inC) (l := natI O) rfl (by omega)
        have e0 : subA out.a (Int.toNat 0) out.c 1 = out.a := subA_zero _ _ _
        have eN : (⟨subA out.a (Int.toNat 0) out.c 1, Int.toNat (out.n : Int) - Int.toNat 0, out.c - Int.toNat 0⟩ : Sl) = out := by rw [e0]; rfl
        have hsub0 : ∀ h', Rw h' 1 (⟨subA out.a (Int.toNat (out.n : Int)) out.c 1, Int.toNat (out.n : Nat) - Int.toNat (out.n : Int), out.c - Int.toNat (out.n : Int)⟩ : Sl) [] := fun _ => ⟨by show Int.toNat (out.n : Int) - Int.toNat (out.n : Int) = 0; omega, fun hp => absurd hp (by simp)⟩
        have hnil0 : (⟨subA out.a (Int.toNat (out.n : Int)) out.c 1, Int.toNat (out.n : Nat) - Int.toNat (out.n : Int), out.c - Int.toNat (out.n : Int)⟩ : Sl).a = none → (⟨subA out.a (Int.toNat (out.n : Int)) out.c 1, Int.toNat (out.n : Nat) - Int.toNat (out.n : Int), out.c - Int.toNat (out.n : Int)⟩ : Sl).n = 0 ∧ (⟨subA out.a (Int.toNat (out.n : Int)) out.c 1, Int.toNat (out.n : Nat) - Int.toNat (out.n : Int), out.c - Int.toNat (out.n : Int)⟩ : Sl).c = 0 := by
          intro hn
          have hn : subA out.a (Int.toNat (out.n : Int)) out.c 1 = none := hn
          have ha : out.a = none := by
            unfold subA at hn
            split at hn
            · exact hn
            · simpa using hn
          have := hocap.2.2 ha
          exact ⟨by show Int.toNat (out.n : Int) - Int.toNat (out.n : Int) = 0; omega, by show out.c - Int.toNat (out.n : Int) = 0; omega⟩
        have fin : ∀ {h' : Heap} {r : Sl}, St h h' [.sl r 3 1 ((natI O).map inC ++ [[.int .i64 (i : Nat)]] ++ []), .blk h.size (mC m sf sm sl) 33] → ∃ m', m' < m.mv.length - i ∧ UpA m.mv.length (fun i s_1 h' => ∃ rows, St h h' (.sl s_1 3 1 rows :: [.blk h.size (mC m sf sm sl) 33]) ∧ rows = (natI ((List.range i).filter (outP m s))).map inC) r (IntKind.wrap .i64 ((i : Int) + 1)) h' m' := by
          intro h' r h1
          refine UpA.next him (by omega) ⟨_, h1, ?_⟩
          rw [hrs, natI_snoc, List.map_append, List.append_nil]; rfl
        refine ⟨⟨by omega, by omega, by omega⟩, ⟨by omega, by omega, by omega⟩, ?_, ?_⟩
        · refine hs.newb fun h76 hs => ?_
          have hs := hs.blkS 0 1 [] rfl (by simp) rfl (by decide)
          refine ⟨?_, ?_⟩
          · refine hs.appRw 0 (rows := []) (news := (natI O).map inC) rfl app42 (y := ⟨subA out.a (Int.toNat 0) out.c 1, Int.toNat (out.n : Int) - Int.toNat 0, out.c - Int.toNat 0⟩) (by rw [eN]; exact hs.rows 1 (s := out) (cs := inC) (l := natI O) rfl (by omega)) (inrows _) (by rw [eN]; exact hocap.2.2) (flat_oneB (fun _ => rfl) _) (by show (0 + (Int.toNat (out.n : Int) - Int.toNat 0)) * 8 ≤ _; omega) (by show 0 + (Int.toNat (out.n : Int) - Int.toNat 0) ≤ _; simp only [maxLen]; omega) fun s77 h78 n77 hs => ?_
            replace n77 : s77.n = out.n := by rw [n77, eN]; show 0 + out.n = out.n; omega
            refine hs.app 0 rfl app42 (m := 1) [[.int .i64 (i : Nat)]] rfl rfl (by simp) rfl (by omega) (by simp only [maxLen]; omega) fun s80 h81 n80 hs => ?_
            refine hs.appRw 0 (rows := (natI O).map inC ++ [[.int .i64 (i : Nat)]]) (news := []) rfl app42 (y := ⟨subA out.a (Int.toNat (out.n : Int)) out.c 1, Int.toNat (out.n : Nat) - Int.toNat (out.n : Int), out.c - Int.toNat (out.n : Int)⟩) (hsub0 _) (by simp) hnil0 rfl (by show (_ + (Int.toNat (out.n : Int) - Int.toNat (out.n : Int))) * 8 ≤ _; omega) (by show _ + (Int.toNat (out.n : Int) - Int.toNat (out.n : Int)) ≤ _; simp only [maxLen]; omega) fun s82 h83 n82 hs => ?_
            refine fin (hs.sub ?_)
            exact .cons_cons _ (.cons _ (.cons_cons _ .slnil))
          · refine hs.newb fun h85 hs => ?_
            refine hs.appRw 1 (rows := []) (news := (natI O).map inC) rfl app42 (y := ⟨subA out.a (Int.toNat 0) out.c 1, Int.toNat (out.n : Int) - Int.toNat 0, out.c - Int.toNat 0⟩) (by rw [eN]; exact hs.rows 2 (s := out) (cs := inC) (l := natI O) rfl (by omega)) (inrows _) (by rw [eN]; exact hocap.2.2) (flat_oneB (fun _ => rfl) _) (by show (0 + (Int.toNat (out.n : Int) - Int.toNat 0)) * 8 ≤ _; omega) (by show 0 + (Int.toNat (out.n : Int) - Int.toNat 0) ≤ _; simp only [maxLen]; omega) fun s77 h78 n77 hs => ?_
            replace n77 : s77.n = out.n := by rw [n77, eN]; show 0 + out.n = out.n; omega
            refine hs.appended 1 (rows := (natI O).map inC) rfl app42 (m := 1) (news := [[.int .i64 (i : Nat)]]) (hs.at 0 rfl (n := 1) rfl) rfl (by simp) rfl (by omega) (by simp only [maxLen]; omega) fun s80 h81 n80 hs => ?_
            refine hs.appRw 1 (rows := (natI O).map inC ++ [[.int .i64 (i : Nat)]]) (news := []) rfl app42 (y := ⟨subA out.a (Int.toNat (out.n : Int)) out.c 1, Int.toNat (out.n : Nat) - Int.toNat (out.n : Int), out.c - Int.toNat (out.n : Int)⟩) (hsub0 _) (by simp) hnil0 rfl (by show (_ + (Int.toNat (out.n : Int) - Int.toNat (out.n : Int))) * 8 ≤ _; omega) (by show _ + (Int.toNat (out.n : Int) - Int.toNat (out.n : Int)) ≤ _; simp only [maxLen]; omega) fun s82 h83 n82 hs => ?_
            refine fin (hs.sub ?_)
            exact .cons _ (.cons_cons _ (.cons _ (.cons_cons _ .slnil)))
        · refine hs.newb fun h93 hs => ?_
          refine hs.newb fun h94 hs => ?_
          have hs := hs.blkS 0 1 [] rfl (by simp) rfl (by decide)
          refine hs.appRw 0 (rows := []) (news := (natI O).map inC) rfl app42 (y := ⟨subA out.a (Int.toNat 0) out.c 1, Int.toNat (out.n : Int) - Int.toNat 0, out.c - Int.toNat 0⟩) (by rw [eN]; exact hs.rows 2 (s := out) (cs := inC) (l := natI O) rfl (by omega)) (inrows _) (by rw [eN]; exact hocap.2.2) (flat_oneB (fun _ => rfl) _) (by show (0 + (Int.toNat (out.n : Int) - Int.toNat 0)) * 8 ≤ _; omega) (by show 0 + (Int.toNat (out.n : Int) - Int.toNat 0) ≤ _; simp only [maxLen]; omega) fun s77 h78 n77 hs => ?_
          replace n77 : s77.n = out.n := by rw [n77, eN]; show 0 + out.n = out.n; omega
          refine hs.appended 0 (rows := (natI O).map inC) rfl app42 (m := 1) (news := [[.int .i64 (i : Nat)]]) (hs.at 1 rfl (n := 1) rfl) rfl (by simp) rfl (by omega) (by simp only [maxLen]; omega) fun s80 h81 n80 hs => ?_
          refine hs.appRw 0 (rows := (natI O).map inC ++ [[.int .i64 (i : Nat)]]) (news := []) rfl app42 (y := ⟨subA out.a (Int.toNat (out.n : Int)) out.c 1, Int.toNat (out.n : Nat) - Int.toNat (out.n : Int), out.c - Int.toNat (out.n : Int)⟩) (hsub0 _) (by simp) hnil0 rfl (by show (_ + (Int.toNat (out.n : Int) - Int.toNat (out.n : Int))) * 8 ≤ _; omega) (by show _ + (Int.toNat (out.n : Int) - Int.toNat (out.n : Int)) ≤ _; simp only [maxLen]; omega) fun s82 h83 n82 hs => ?_
          refine fin (hs.sub ?_)
          exact .cons_cons _ (.cons _ (.cons _ (.cons_cons _ .slnil)))
  · rw [show i = m.mv.length by omega] at hs
    exact ⟨out, rfl, hs.sub (.cons_cons _ (.cons _ .slnil))⟩
end Go.VC
end

section
/- Contract: the law of minimal machines (over what Project's machines are). -/
namespace Go.VC
open Go.Proofs Go.LexS
set_option maxRecDepth 100000

def base (m : Mch) (i k : Nat) : Bool := decide (m.fin.getD i false = m.fin.getD k false) && sameLim m i k
end Go.VC
end

section
/- Contract: ProjectMinimal, over what Project's machines are. -/
namespace Go.VC
open Go.Proofs Go.LexS
set_option maxRecDepth 100000

end Go.VC
end

section
/- The classes are stable, and rounds. No program here. -/
namespace Go.VC
open Go.LexS

def itC (m : Mch) : Nat → List Nat
  | 0 => List.replicate m.n.toNat 0
  | k + 1 => canonL (clsK m (itC m k))
theorem itC_len (m : Mch) : ∀ k, (itC m k).length = m.n.toNat
  | 0 => List.length_replicate
  | k + 1 => by rw [itC, canonL_len, clsK_len]
theorem clsN_it {m : Mch} (hO : MOk m) : ∀ (f N : Nat), 202 ≤ f + (if N = 0 then 0 else (dedF (itC m N)).length) → ∃ N', N ≤ N' ∧ (clsN m f (itC m N) (if N = 0 then 0 else (dedF (itC m N)).length)).1 = itC m (N' + 1) ∧ (dedF (clsK m (itC m N'))).length = (if N' = 0 then 0 else (dedF (itC m N')).length)
  | 0, N, h => by
    have hn := hO.n
    exfalso
    split at h
    · omega
    · have := dedF_len_le (itC m N)
      rw [itC_len] at this
      omega
  | f + 1, N, h => by
    rw [clsN]
    have hn := hO.n
    have hge := clsK_ge (itC_len m N)
    by_cases e : (dedF (clsK m (itC m N))).length = if N = 0 then 0 else (dedF (itC m N)).length
    · rw [if_pos e]
      exact ⟨N, Nat.le_refl _, rfl, e⟩
    · rw [if_neg e]
      have e1 : (dedF (clsK m (itC m N))).length = if N + 1 = 0 then 0 else (dedF (itC m (N + 1))).length := by
        rw [if_neg (by omega), itC, dedF_canon]
      have hlt : (if N = 0 then 0 else (dedF (itC m N)).length) < (dedF (clsK m (itC m N))).length := by
        split at e
        · rename_i h0
          subst h0
          rw [if_pos rfl]; omega
        · rename_i h0
          rw [if_neg h0]; omega
      have ih := clsN_it hO f (N + 1) (by rw [← e1]; omega)
      rw [← e1] at ih
      obtain ⟨N', h1, h2, h3⟩ := ih
      exact ⟨N', by omega, h2, h3⟩
theorem ded_inj {K K' : Type} [DecidableEq K] [DecidableEq K'] {l : List K} {f : K → K'} (h : (dedF (l.map f)).length = (dedF l).length) {a b : K} (ha : a ∈ l) (hb : b ∈ l) (hab : f a = f b) : a = b := by
  by_cases e : a = b
  · exact e
  exfalso
  have h1 := List.Nodup.length_le_of_subset (dedF_nodup (l.map f)) (l₂ := ((dedF l).filter fun x => decide (x ≠ b)).map f) fun y hy => by
    rw [dedF_mem] at hy
    obtain ⟨x, hx, rfl⟩ := List.mem_map.1 hy
    by_cases ex : x = b
    · subst ex
      exact List.mem_map.2 ⟨a, List.mem_filter.2 ⟨(dedF_mem _ _).2 ha, by simpa using e⟩, hab⟩
    · exact List.mem_map.2 ⟨x, List.mem_filter.2 ⟨(dedF_mem _ _).2 hx, by simpa using ex⟩, rfl⟩
  rw [List.length_map, h] at h1
  have h2 : ((dedF l).filter fun x => decide (x ≠ b)).length < (dedF l).length := by
    rcases Nat.lt_or_ge ((dedF l).filter fun x => decide (x ≠ b)).length (dedF l).length with h3 | h3
    · exact h3
    · have := List.filter_eq_self.1 ((List.filter_sublist (l := dedF l) (p := fun x => decide (x ≠ b))).eq_of_length_le h3) b ((dedF_mem _ _).2 hb)
      simp at this
  omega
theorem clsK_map {m : Mch} {C : List Nat} (hC : C.length = m.n.toNat) : C = (clsK m C).map fun k => match k.getLast? with | some s => s.b.toNat | none => 0 := by
  apply List.ext_getElem?
  intro i
  unfold clsK
  rw [List.map_map, List.getElem?_map]
  by_cases hi : i < m.n.toNat
  · rw [List.getElem?_range hi]
    obtain ⟨c, hc⟩ := get_some (l := C) (i := i) (by omega)
    rw [hc]
    show _ = some (match (keyS m C i).getLast? with | some s => s.b.toNat | none => 0)
    have : (keyS m C i).getLast? = some (sgB C m.fin i) := by
      unfold keyS keyH
      rw [← List.append_assoc, List.getLast?_append]; rfl
    rw [this]
    unfold sgB
    simp [List.getD_eq_getElem?_getD, hc]
  · rw [List.getElem?_eq_none (by omega), List.getElem?_eq_none (by rw [List.length_range]; omega)]; rfl
theorem clsK_get {m : Mch} {C : List Nat} {i : Nat} (hi : i < m.n.toNat) : (clsK m C)[i]? = some (keyS m C i) := by unfold clsK; rw [List.getElem?_map, List.getElem?_range hi]; rfl
theorem keyS_b {m : Mch} {C : List Nat} (hC : C.length = m.n.toNat) {x y : Nat} (hx : x < m.n.toNat) (hy : y < m.n.toNat) (h : keyS m C x = keyS m C y) : C[x]? = C[y]? := by
  have e := clsK_map hC
  generalize hf : (fun k : List Sg => match k.getLast? with | some s => s.b.toNat | none => 0) = f at e
  rw [e, List.getElem?_map, List.getElem?_map, clsK_get hx, clsK_get hy, h]
theorem cls_stable {m : Mch} (hO : MOk m) : ∃ N, (cls m).1 = itC m (N + 1) ∧ (∀ x y : Nat, x < m.n.toNat → y < m.n.toNat → ((cls m).1[x]? = (cls m).1[y]? ↔ (itC m N)[x]? = (itC m N)[y]?)) ∧ ∀ x y : Nat, x < m.n.toNat → y < m.n.toNat → (cls m).1[x]? = (cls m).1[y]? → keyS m (itC m N) x = keyS m (itC m N) y := by
  have hn := hO.n
  obtain ⟨N, _, h2, h3⟩ := clsN_it hO 202 0 (by rw [if_pos rfl]; omega)
  rw [if_pos rfl] at h2
  replace h2 : (cls m).1 = itC m (N + 1) := h2
  have hpos : 0 < (dedF (clsK m (itC m N))).length := by
    have : keyS m (itC m N) 0 ∈ dedF (clsK m (itC m N)) := (dedF_mem _ _).2 (List.mem_of_getElem? (clsK_get (i := 0) (by omega)))
    exact List.length_pos_of_mem this
  have hN : N ≠ 0 := fun h => by rw [if_pos h] at h3; omega
  rw [if_neg hN] at h3
  have hmap := clsK_map (itC_len m N)
  have key : ∀ x y : Nat, x < m.n.toNat → y < m.n.toNat → (itC m N)[x]? = (itC m N)[y]? → keyS m (itC m N) x = keyS m (itC m N) y := by
    intro x y hx hy h
    generalize hf : (fun k : List Sg => match k.getLast? with | some s => s.b.toNat | none => 0) = f at hmap
    refine ded_inj (l := clsK m (itC m N)) (f := f) (by rw [← hmap]; exact h3.symm) (List.mem_of_getElem? (clsK_get hx)) (List.mem_of_getElem? (clsK_get hy)) ?_
    have h1 : ((clsK m (itC m N)).map f)[x]? = ((clsK m (itC m N)).map f)[y]? := by rw [← hmap]; exact h
    rw [List.getElem?_map, List.getElem?_map, clsK_get hx, clsK_get hy] at h1
    exact Option.some.inj h1
  have hfin : ∀ x y : Nat, x < m.n.toNat → y < m.n.toNat → ((cls m).1[x]? = (cls m).1[y]? ↔ keyS m (itC m N) x = keyS m (itC m N) y) := by
    intro x y hx hy
    rw [h2, itC]
    exact canonL_eq (clsK_get hx) (clsK_get hy)
  refine ⟨N, h2, fun x y hx hy => ?_, fun x y hx hy h => (hfin x y hx hy).1 h⟩
  rw [hfin x y hx hy]
  exact ⟨keyS_b (itC_len m N) hx hy, key x y hx hy⟩
end Go.VC
end

section
/- What the canonical machine is made of. No program here. -/
namespace Go.VC
open Go.LexS

theorem foldl_ind {α β : Type} {f : β → α → β} {P : Nat → β → Prop} {l : List α} {b : β} (h0 : P 0 b) (hs : ∀ (j : Nat) (x : α) (st : β), l[j]? = some x → P j st → P (j + 1) (f st x)) : P l.length (l.foldl f b) := by
  have key : ∀ n, n ≤ l.length → P n ((l.take n).foldl f b) := by
    intro n
    induction n with
    | zero => intro _; exact h0
    | succ n ih =>
      intro hn
      obtain ⟨x, hx⟩ := get_some (l := l) (i := n) (by omega)
      rw [foldl_snoc hx]
      exact hs n x _ hx (ih (by omega))
  have := key l.length (Nat.le_refl _)
  rwa [List.take_length] at this
def mvQ (C Q : List Nat) (i : Nat) (x : Mv) : Mv := ⟨(i : Nat), x.send, x.peer, x.label, (idxF Q (C.getD x.t.toNat 0) : Nat), x.ag⟩
def repQ (C Q : List Nat) (i : Nat) : Nat := idxF C (Q.getD i 0)
theorem mvQ_ext {C Q E : List Nat} {i : Nat} {x : Mv} (h : C.getD x.t.toNat 0 ∈ Q) : mvQ C (Q ++ E) i x = mvQ C Q i x := by unfold mvQ; rw [idxF_mem h]
theorem repQ_ext {C Q E : List Nat} {i : Nat} (h : i < Q.length) : repQ C (Q ++ E) i = repQ C Q i := by
  unfold repQ
  rw [List.getD_eq_getElem?_getD, List.getD_eq_getElem?_getD, List.getElem?_append_left h]
theorem addQ_ext (Q : List Nat) (c : Nat) : ∃ E, addQ Q c = Q ++ E := by
  unfold addQ; split
  · exact ⟨[], by simp⟩
  · exact ⟨[c], rfl⟩
def LimOf (r : Mch) (C Q : List Nat) (mv : List Mv) (t : To) (i : Nat) (x : Mv) : Prop := t.s = (i : Int) ∧ x ∈ outM r (repQ C Q i) ∧ 0 ≤ t.e ∧ mv[t.e.toNat]? = some (mvQ C Q i x) ∧ ∃ t0 y, mget (limM r.li) (repQ C Q i : Nat) = some t0 ∧ r.mv[t0.e.toNat]? = some y ∧ t.k = t0.k ∧ x.ev = y.ev
structure CanI (r : Mch) (C : List Nat) (cnt hd : Nat) (Q : List Nat) (fin : List Bool) (mv : List Mv) (li : List To) : Prop where
  pq : QOk Q cnt
  ph : hd ≤ Q.length
  pf : fin = (List.range hd).map fun i => r.fin.getD (repQ C Q i) false
  pm : mv = (List.range hd).flatMap fun i => (outM r (repQ C Q i)).map (mvQ C Q i)
  pt : ∀ i, i < hd → ∀ x ∈ outM r (repQ C Q i), C.getD x.t.toNat 0 ∈ Q
  p1 : ∀ t ∈ li, ∃ i x, i < hd ∧ LimOf r C Q mv t i x
  p2 : ∀ i, i < hd → ∀ t0 y, mget (limM r.li) (repQ C Q i : Nat) = some t0 → r.mv[t0.e.toNat]? = some y → (∃ x ∈ outM r (repQ C Q i), x.ev = y.ev) → ∃ t ∈ li, t.s = (i : Int)
structure RowI (r : Mch) (C : List Nat) (cnt hd : Nat) (Q : List Nat) (mv : List Mv) (li : List To) (j : Nat) (st : List Nat × List Mv × List To) : Prop where
  pe : ∃ E, st.1 = Q ++ E
  pq : QOk st.1 cnt
  pt : ∀ x ∈ (outM r (repQ C Q hd)).take j, C.getD x.t.toNat 0 ∈ st.1
  pm : st.2.1 = mv ++ ((outM r (repQ C Q hd)).take j).map (mvQ C st.1 hd)
  p1 : ∀ t ∈ st.2.2, t ∈ li ∨ ∃ x ∈ (outM r (repQ C Q hd)).take j, LimOf r C st.1 st.2.1 t hd x
  p0 : ∀ t ∈ li, t ∈ st.2.2
  p2 : ∀ t0 y, mget (limM r.li) (repQ C Q hd : Nat) = some t0 → r.mv[t0.e.toNat]? = some y → (∃ x ∈ (outM r (repQ C Q hd)).take j, x.ev = y.ev) → ∃ t ∈ st.2.2, t.s = (hd : Int)
theorem LimOf.ext {r : Mch} {C Q E : List Nat} {mv mv' : List Mv} {t : To} {i : Nat} {x : Mv} (h : LimOf r C Q mv t i x) (hi : i < Q.length) (hx : C.getD x.t.toNat 0 ∈ Q) (hm : mv' = mv ++ mv'.drop mv.length) : LimOf r C (Q ++ E) mv' t i x := by
  obtain ⟨h1, h2, h3, h4, t0, y, h5, h6, h7, h8⟩ := h
  have hr := repQ_ext (C := C) (E := E) hi
  refine ⟨h1, by rw [hr]; exact h2, h3, ?_, t0, y, by rw [hr]; exact h5, h6, h7, h8⟩
  rw [hm, List.getElem?_append_left (List.getElem?_eq_some_iff.1 h4).1, h4, mvQ_ext hx]
theorem row_step {r : Mch} {C : List Nat} {cnt hd : Nat} {Q : List Nat} {mv : List Mv} {li : List To} (hO : MOk r) (hCl : C.length = r.n.toNat) (hCb : ∀ c ∈ C, c < cnt) (hhd : hd < Q.length) {j : Nat} {x : Mv} {st : List Nat × List Mv × List To} (hx : (outM r (repQ C Q hd))[j]? = some x) (h : RowI r C cnt hd Q mv li j st) :
    RowI r C cnt hd Q mv li (j + 1) (minX r C hd (mget (limM r.li) (repQ C Q hd : Nat)) st x) := by
  have hxm : x ∈ outM r (repQ C Q hd) := List.mem_of_getElem? hx
  have hxr : x ∈ r.mv := (List.mem_filter.1 hxm).1
  have hxo := hO.mv x hxr
  obtain ⟨cx, hcx⟩ := get_some (l := C) (i := x.t.toNat) (by omega)
  have hcg : C.getD x.t.toNat 0 = cx := getD_some hcx
  have hcb := hCb cx (List.mem_of_getElem? hcx)
  obtain ⟨E, hE⟩ := h.pe
  obtain ⟨E2, hE2⟩ := addQ_ext st.1 cx
  have hlt : hd < st.1.length := by rw [hE, List.length_append]; omega
  have hm1 : (minX r C hd (mget (limM r.li) (repQ C Q hd : Nat)) st x).1 = st.1 ++ E2 := by unfold minX; rw [hcg]; exact hE2
  have hm2 : (minX r C hd (mget (limM r.li) (repQ C Q hd : Nat)) st x).2.1 = st.2.1 ++ [mvQ C (st.1 ++ E2) hd x] := by unfold minX mvQ; rw [hcg, hE2]
  have htk : (outM r (repQ C Q hd)).take (j + 1) = (outM r (repQ C Q hd)).take j ++ [x] := take_snoc hx
  have hin : cx ∈ st.1 ++ E2 := by rw [← hE2]; exact addQ_mem
  have hrep : repQ C (st.1 ++ E2) hd = repQ C Q hd := by rw [repQ_ext hlt, hE, repQ_ext hhd]
  have hrep1 : repQ C st.1 hd = repQ C Q hd := by rw [hE, repQ_ext hhd]
  have hdrop : (minX r C hd (mget (limM r.li) (repQ C Q hd : Nat)) st x).2.1 = st.2.1 ++ ((minX r C hd (mget (limM r.li) (repQ C Q hd : Nat)) st x).2.1).drop st.2.1.length := by rw [hm2, List.drop_append_of_le_length (Nat.le_refl _), List.drop_length, List.nil_append]
  have hnew : (st.2.1 ++ [mvQ C (st.1 ++ E2) hd x])[st.2.1.length]? = some (mvQ C (st.1 ++ E2) hd x) := by rw [List.getElem?_append_right (Nat.le_refl _), Nat.sub_self]; rfl
  refine ⟨⟨E ++ E2, by rw [hm1, hE, List.append_assoc]⟩, by rw [hm1, ← hE2]; exact h.pq.add hcb, fun y hy => ?_, ?_, fun t ht => ?_, fun t ht => ?_, fun t0 y h1 h2 h3 => ?_⟩
  · rw [htk, List.mem_append, List.mem_singleton] at hy
    rw [hm1]
    rcases hy with hy | rfl
    · exact List.mem_append.2 (.inl (h.pt y hy))
    · rw [hcg]; exact hin
  · rw [hm1, hm2, h.pm, htk, List.map_append, List.append_assoc]
    congr 1
    congr 1
    apply List.map_congr_left
    intro y hy
    exact (mvQ_ext (h.pt y hy)).symm
  · unfold minX at ht
    rcases List.mem_append.1 ht with ht | ht
    · rcases h.p1 t ht with h4 | ⟨x', hx'm, h4⟩
      · exact .inl h4
      · refine .inr ⟨x', by rw [htk]; exact List.mem_append.2 (.inl hx'm), ?_⟩
        rw [hm1]
        exact h4.ext hlt (h.pt x' hx'm) hdrop
    · split at ht
      · cases ht
      · rename_i t0 h0
        split at ht
        · rename_i y hy
          split at ht
          · rename_i hev
            rw [List.mem_singleton] at ht
            subst ht
            refine .inr ⟨x, by rw [htk]; exact List.mem_append.2 (.inr (List.mem_singleton.2 rfl)), ?_⟩
            rw [hm1, hm2]
            refine ⟨rfl, by rw [hrep]; exact hxm, by show 0 ≤ ((st.2.1.length : Nat) : Int); omega, ?_, t0, y, by rw [hrep]; exact h0, hy, rfl, hev⟩
            show (st.2.1 ++ _)[((st.2.1.length : Nat) : Int).toNat]? = _
            rw [Int.toNat_natCast]; exact hnew
          · cases ht
        · cases ht
  · unfold minX
    exact List.mem_append.2 (.inl (h.p0 t ht))
  · rw [htk] at h3
    obtain ⟨x', hx', hev⟩ := h3
    rw [List.mem_append, List.mem_singleton] at hx'
    rcases hx' with hx' | rfl
    · obtain ⟨t, ht, hts⟩ := h.p2 t0 y h1 h2 ⟨x', hx', hev⟩
      exact ⟨t, by unfold minX; exact List.mem_append.2 (.inl ht), hts⟩
    · refine ⟨⟨(hd : Nat), t0.k, (st.2.1.length : Nat)⟩, ?_, rfl⟩
      unfold minX
      rw [h1]
      simp only [h2]
      rw [if_pos hev]
      exact List.mem_append.2 (.inr (List.mem_singleton.2 rfl))
theorem flatMap_congr' {α β : Type} {f g : α → List β} : ∀ {l : List α}, (∀ x ∈ l, f x = g x) → l.flatMap f = l.flatMap g
  | [], _ => rfl
  | a :: l, h => by rw [List.flatMap_cons, List.flatMap_cons, h a (List.mem_cons_self ..), flatMap_congr' fun x hx => h x (List.mem_cons_of_mem _ hx)]
theorem can_step {r : Mch} {C : List Nat} {cnt hd : Nat} {Q : List Nat} {fin : List Bool} {mv : List Mv} {li : List To} (hO : MOk r) (hCl : C.length = r.n.toNat) (hCb : ∀ c ∈ C, c < cnt) (hhd : hd < Q.length) (h : CanI r C cnt hd Q fin mv li) :
    CanI r C cnt (hd + 1) ((outM r (repQ C Q hd)).foldl (minX r C hd (mget (limM r.li) (repQ C Q hd : Nat))) (Q, mv, li)).1 (fin ++ [r.fin.getD (repQ C Q hd) false]) ((outM r (repQ C Q hd)).foldl (minX r C hd (mget (limM r.li) (repQ C Q hd : Nat))) (Q, mv, li)).2.1 ((outM r (repQ C Q hd)).foldl (minX r C hd (mget (limM r.li) (repQ C Q hd : Nat))) (Q, mv, li)).2.2 := by
  have key := foldl_ind (f := minX r C hd (mget (limM r.li) (repQ C Q hd : Nat))) (l := outM r (repQ C Q hd)) (b := (Q, mv, li)) (P := RowI r C cnt hd Q mv li)
    ⟨⟨[], by simp⟩, h.pq, fun x hx => (by rw [List.take_zero] at hx; cases hx), by rw [List.take_zero, List.map_nil, List.append_nil], fun t ht => .inl ht, fun t ht => ht, fun t0 y _ _ h3 => (by obtain ⟨x, hx, _⟩ := h3; rw [List.take_zero] at hx; cases hx)⟩
    (fun j x st hx hr => row_step hO hCl hCb hhd hx hr)
  generalize (outM r (repQ C Q hd)).foldl (minX r C hd (mget (limM r.li) (repQ C Q hd : Nat))) (Q, mv, li) = st at *
  obtain ⟨⟨E, hE⟩, kq, kt, km, k1, k0, k2⟩ := key
  rw [List.take_length] at kt km k2
  have hrep : ∀ i, i < Q.length → repQ C st.1 i = repQ C Q i := fun i hi => by rw [hE, repQ_ext hi]
  have hph := h.ph
  refine ⟨kq, by rw [hE, List.length_append]; omega, ?_, ?_, fun i hi x hx => ?_, fun t ht => ?_, fun i hi t0 y h1 h2 h3 => ?_⟩
  · rw [List.range_succ, List.map_append, h.pf]
    congr 1
    · apply List.map_congr_left
      intro i hi
      have := List.mem_range.1 hi
      rw [hrep i (by omega)]
    · show _ = [r.fin.getD (repQ C st.1 hd) false]
      rw [hrep hd hhd]
  · rw [List.range_succ, List.flatMap_append, km, h.pm]
    congr 1
    · refine flatMap_congr' fun i hi => ?_
      have hi := List.mem_range.1 hi
      rw [hrep i (by omega)]
      apply List.map_congr_left
      intro x hx
      rw [hE, mvQ_ext (h.pt i hi x hx)]
    · rw [List.flatMap_singleton, hrep hd hhd]
  · by_cases e : i = hd
    · subst e; rw [hrep i hhd] at hx; exact kt x hx
    · rw [hrep i (by omega)] at hx
      rw [hE]
      exact List.mem_append.2 (.inl (h.pt i (by omega) x hx))
  · rcases k1 t ht with h4 | ⟨x, hx, h4⟩
    · obtain ⟨i, x, hi, h5⟩ := h.p1 t h4
      refine ⟨i, x, by omega, ?_⟩
      rw [hE]
      refine h5.ext (by omega) (h.pt i hi x h5.2.1) ?_
      rw [km, List.drop_append_of_le_length (Nat.le_refl _), List.drop_length, List.nil_append]
    · exact ⟨hd, x, by omega, h4⟩
  · by_cases e : i = hd
    · subst e
      rw [hrep i hhd] at h1 h3
      exact k2 t0 y h1 h2 h3
    · rw [hrep i (by omega)] at h1 h3
      obtain ⟨t, ht, hts⟩ := h.p2 i (by omega) t0 y h1 h2 h3
      exact ⟨t, k0 t ht, hts⟩
theorem minN_can {r : Mch} {C : List Nat} {cnt : Nat} (hO : MOk r) (hCl : C.length = r.n.toNat) (hCb : ∀ c ∈ C, c < cnt) : ∀ (f hd : Nat) (Q : List Nat) (fin : List Bool) (mv : List Mv) (li : List To), cnt < f + hd → CanI r C cnt hd Q fin mv li →
    ∃ Q', (minN r C f hd Q fin mv li).n = (Q'.length : Nat) ∧ (minN r C f hd Q fin mv li).s = 0 ∧ CanI r C cnt Q'.length Q' (minN r C f hd Q fin mv li).fin (minN r C f hd Q fin mv li).mv (minN r C f hd Q fin mv li).li ∧ ∃ E, Q' = Q ++ E
  | 0, hd, Q, fin, mv, li, hf, h => by
    exfalso
    have := h.ph
    have := h.pq.le
    omega
  | f + 1, hd, Q, fin, mv, li, hf, h => by
    rw [minN]
    cases hq : Q[hd]? with
    | none =>
      have : hd = Q.length := by have := List.getElem?_eq_none_iff.1 hq; have := h.ph; omega
      subst this
      exact ⟨Q, rfl, rfl, h, [], by simp⟩
    | some c =>
      have hhd := (List.getElem?_eq_some_iff.1 hq).1
      have hrep : repQ C Q hd = idxF C c := by unfold repQ; rw [getD_some hq]
      have hst := can_step hO hCl hCb hhd h
      rw [hrep] at hst
      have hE : ∃ E, ((outM r (idxF C c)).foldl (minX r C hd (mget (limM r.li) (idxF C c : Nat))) (Q, mv, li)).1 = Q ++ E := by
        suffices hh : ∀ (l : List Mv) (st : List Nat × List Mv × List To), ∃ E, (l.foldl (minX r C hd (mget (limM r.li) (idxF C c : Nat))) st).1 = st.1 ++ E from hh _ _
        intro l
        induction l with
        | nil => intro st; exact ⟨[], by simp⟩
        | cons a l ih =>
          intro st
          rw [List.foldl_cons]
          obtain ⟨E1, h1⟩ := ih (minX r C hd (mget (limM r.li) (idxF C c : Nat)) st a)
          obtain ⟨E2, h2⟩ := addQ_ext st.1 (C.getD a.t.toNat 0)
          refine ⟨E2 ++ E1, ?_⟩
          rw [h1]
          show addQ st.1 (C.getD a.t.toNat 0) ++ E1 = _
          rw [h2, List.append_assoc]
      obtain ⟨Q', h1, h2, h3, E', h4⟩ := minN_can hO hCl hCb f (hd + 1) _ _ _ _ (by omega) hst
      obtain ⟨E, hE⟩ := hE
      exact ⟨Q', h1, h2, h3, E ++ E', by rw [h4, hE, List.append_assoc]⟩
theorem minF_can {r : Mch} (hO : MOk r) : ∃ Q, (minF r).n = (Q.length : Nat) ∧ (minF r).s = 0 ∧ 1 ≤ Q.length ∧ Q.length ≤ r.n.toNat ∧ CanI r (cls r).1 (cls r).2 Q.length Q (minF r).fin (minF r).mv (minF r).li := by
  have hC := cls_ok hO
  have hs := hO.s
  obtain ⟨c0, hc0⟩ := get_some (l := (cls r).1) (i := r.s.toNat) (by have := hC.cl; omega)
  have hc0b := hC.cb c0 (List.mem_of_getElem? hc0)
  have h0 : CanI r (cls r).1 (cls r).2 0 [c0] [] [] [] := ⟨⟨by simp, fun c hc => by rw [List.mem_singleton] at hc; omega⟩, by simp, rfl, rfl, fun i hi => (by omega), fun t ht => (by cases ht), fun i hi => (by omega)⟩
  have hn := hO.n
  have hcc := hC.cc
  obtain ⟨Q, h1, h2, h3, E, h4⟩ := minN_can hO hC.cl hC.cb 202 0 [c0] [] [] [] (by omega) h0
  unfold minF
  rw [getD_some hc0]
  refine ⟨Q, h1, h2, by rw [h4]; simp, Nat.le_trans h3.pq.le hcc, h3⟩
end Go.VC
end

section
/- Project's machines are good and minimal. No program here. -/
namespace Go.VC
open Go.LexS

theorem mget_mset {α β : Type} [DecidableEq α] (a : α) (b : β) (s : α) : ∀ l : List (α × β), mget (mset l a b) s = if a = s then some b else mget l s
  | [] => rfl
  | (x, y) :: r => by
    rw [mset]
    split
    · rename_i e
      subst e
      rw [mget, mget]
      split <;> rfl
    · rename_i e
      rw [mget, mget, mget_mset a b s r]
      by_cases h : x = s
      · rw [if_pos h, if_pos h, if_neg (fun h2 => e (h.trans h2.symm))]
      · rw [if_neg h, if_neg h]
theorem limM_get (li : List To) (s : Int) : mget (limM li) s = (li.filter fun t => t.s = s).getLast? := by
  have key : ∀ n, n ≤ li.length → mget (limM (li.take n)) s = ((li.take n).filter fun t => t.s = s).getLast? := by
    intro n
    induction n with
    | zero => intro _; rfl
    | succ n ih =>
      intro hn
      obtain ⟨t, ht⟩ := get_some (l := li) (i := n) (by omega)
      rw [limM_snoc ht, mget_mset, take_snoc ht, List.filter_append, ih (by omega)]
      by_cases e : t.s = s
      · rw [if_pos e, List.filter_cons_of_pos (by simpa using e)]; simp
      · rw [if_neg e, List.filter_cons_of_neg (by simpa using e)]; simp
  have := key li.length (Nat.le_refl _)
  rwa [List.take_length] at this
structure MRaw (r : Mch) : Prop where
  ok : MOk r
  so : r.mv.Pairwise mvLt
  l1 : ∀ t ∈ r.li, ∃ y, r.mv[t.e.toNat]? = some y ∧ y.f = t.s
  l2 : (r.li.map (·.s)).Nodup
theorem MRaw.one {r : Mch} (h : MRaw r) (s : Int) : (r.li.filter fun t => t.s = s) = match mget (limM r.li) s with | some t => [t] | none => [] := by
  rw [limM_get]
  have hsub : ((r.li.filter fun t => t.s = s).map (·.s)).Nodup := h.l2.sublist (List.filter_sublist.map _)
  have hall : ∀ t ∈ r.li.filter (fun t => t.s = s), t.s = s := fun t ht => by simpa using (List.mem_filter.1 ht).2
  generalize r.li.filter (fun t => t.s = s) = l at *
  match l, hsub, hall with
  | [], _, _ => rfl
  | [t], _, _ => rfl
  | a :: b :: l, hsub, hall =>
    exfalso
    rw [List.map_cons, List.nodup_cons] at hsub
    exact hsub.1 (by rw [hall a (List.mem_cons_self ..)]; exact List.mem_map.2 ⟨b, by simp, hall b (by simp)⟩)
theorem outIx_get {m : Mch} {s : Int} : (outIx m s).map (fun a => m.mv[a]?) = (m.mv.filter fun x => x.f = s).map some := by
  have key : ∀ n, n ≤ m.mv.length → ((List.range n).filter (outP m s)).map (fun a => m.mv[a]?) = ((m.mv.take n).filter fun x => x.f = s).map some := by
    intro n
    induction n with
    | zero => intro _; rfl
    | succ n ih =>
      intro hn
      obtain ⟨x, hx⟩ := get_some (l := m.mv) (i := n) (by omega)
      have hp : outP m s n = decide (x.f = s) := by unfold outP; rw [hx]
      rw [List.range_succ, List.filter_append, List.map_append, ih (by omega), take_snoc hx, List.filter_append, List.map_append]
      congr 1
      by_cases e : x.f = s
      · rw [List.filter_cons_of_pos (by rw [hp]; exact decide_eq_true e), List.filter_cons_of_pos (by simpa using e)]
        simp [hx]
      · rw [List.filter_cons_of_neg (by rw [hp, decide_eq_false e]; simp), List.filter_cons_of_neg (by simpa using e)]
        simp
  have := key m.mv.length (Nat.le_refl _)
  rw [List.take_length] at this
  exact this
theorem outIx_len {m : Mch} {s : Int} : (outIx m s).length = (m.mv.filter fun x => x.f = s).length := by
  have := congrArg List.length (outIx_get (m := m) (s := s))
  rwa [List.length_map, List.length_map] at this
theorem flat_filter {rows : Nat → List Mv} (h : ∀ k, ∀ y ∈ rows k, y.f = (k : Int)) (i : Nat) : ∀ n, ((List.range n).flatMap rows).filter (fun y => y.f = (i : Int)) = if i < n then rows i else []
  | 0 => rfl
  | n + 1 => by
    rw [List.range_succ, List.flatMap_append, List.filter_append, flat_filter h i n, List.flatMap_singleton]
    by_cases e : i = n
    · subst e
      rw [if_neg (by omega), if_pos (by omega), List.nil_append, List.filter_eq_self.2 fun y hy => by simpa using h i y hy]
    · have : (rows n).filter (fun y => y.f = (i : Int)) = [] := by
        rw [List.filter_eq_nil_iff]
        intro y hy
        have := h n y hy
        simp only [decide_eq_true_eq]
        omega
      rw [this, List.append_nil]
      by_cases e2 : i < n
      · rw [if_pos e2, if_pos (by omega)]
      · rw [if_neg e2, if_neg (by omega)]
theorem filter_k {l : List Sg} {k : Int} (h : ∀ s ∈ l, s.k = k) (k' : Int) : l.filter (fun s => s.k = k') = if k = k' then l else [] := by
  by_cases e : k = k'
  · rw [if_pos e, List.filter_eq_self]
    intro s hs; have := h s hs; simp [this, e]
  · rw [if_neg e, List.filter_eq_nil_iff]
    intro s hs; have := h s hs; simp [this, e]
theorem keyS_parts {m : Mch} {D D' : List Nat} {x y : Nat} (h : keyS m D x = keyS m D' y) : (outM m x).map (sgM D) = (outM m y).map (sgM D') ∧ ((m.li.filter fun t => t.s = (x : Int)).map (sgL m.mv)) = ((m.li.filter fun t => t.s = (y : Int)).map (sgL m.mv)) ∧ sgB D m.fin x = sgB D' m.fin y := by
  have h2 : ∀ (D : List Nat) (x : Nat), ∀ s ∈ ((m.mv.filter fun y => y.f = (x : Int)).map (sgM D)).reverse, s.k = 2 := fun D x s hs => by
    rw [List.mem_reverse] at hs; obtain ⟨_, _, rfl⟩ := List.mem_map.1 hs; rfl
  have h1 : ∀ (x : Nat), ∀ s ∈ ((m.li.filter fun t => t.s = (x : Int)).map (sgL m.mv)).reverse, s.k = 1 := fun x s hs => by
    rw [List.mem_reverse] at hs; obtain ⟨_, _, rfl⟩ := List.mem_map.1 hs; rfl
  have h0 : ∀ (D : List Nat) (x : Nat), ∀ s ∈ [sgB D m.fin x], s.k = 0 := fun D x s hs => by
    rw [List.mem_singleton] at hs; subst hs; rfl
  have cut : ∀ (D : List Nat) (x : Nat) (k : Int), (keyS m D x).filter (fun s => s.k = k) = (if (2 : Int) = k then ((m.mv.filter fun y => y.f = (x : Int)).map (sgM D)).reverse else []) ++ ((if (1 : Int) = k then ((m.li.filter fun t => t.s = (x : Int)).map (sgL m.mv)).reverse else []) ++ (if (0 : Int) = k then [sgB D m.fin x] else [])) := by
    intro D x k
    unfold keyS keyH
    rw [List.filter_append, List.filter_append, filter_k (h2 D x), filter_k (h1 x), filter_k (h0 D x)]
  refine ⟨?_, ?_, ?_⟩
  · have := congrArg (List.filter fun s => s.k = (2 : Int)) h
    rw [cut, cut] at this
    simpa [outM] using this
  · have := congrArg (List.filter fun s => s.k = (1 : Int)) h
    rw [cut, cut] at this
    simpa using this
  · have := congrArg (List.filter fun s => s.k = (0 : Int)) h
    rw [cut, cut] at this
    simpa using this
end Go.VC
end

section
/- Project's machines are good and minimal. No program here. -/
namespace Go.VC
open Go.LexS

theorem outM_sorted {r : Mch} (hS : r.mv.Pairwise mvLt) (s : Nat) : (outM r s).Pairwise mvLt := hS.filter _
theorem outM_f {r : Mch} {s : Nat} {x : Mv} (h : x ∈ outM r s) : x ∈ r.mv ∧ x.f = (s : Int) := by
  unfold outM at h
  rw [List.mem_filter] at h
  exact ⟨h.1, by simpa using h.2⟩
theorem can_row {r : Mch} {C : List Nat} {cnt : Nat} {Q : List Nat} {fin : List Bool} {mv : List Mv} {li : List To} (h : CanI r C cnt Q.length Q fin mv li) {i : Nat} (hi : i < Q.length) : mv.filter (fun y => y.f = (i : Int)) = (outM r (repQ C Q i)).map (mvQ C Q i) := by
  rw [h.pm, flat_filter (fun k y hy => by obtain ⟨x, _, rfl⟩ := List.mem_map.1 hy; rfl) i, if_pos hi]
theorem mgood {r : Mch} (hR : MRaw r) : MGood (minF r) := by
  obtain ⟨Q, h1, h2, h3, h4, hc⟩ := minF_can hR.ok
  have hn := hR.ok.n
  refine ⟨by rw [h1]; omega, by rw [h1, h2]; omega, by rw [hc.pf, List.length_map, List.length_range, h1]; omega, fun x hx => ?_, fun t ht => ?_, ?_⟩
  · rw [hc.pm] at hx
    obtain ⟨i, hi, h5⟩ := List.mem_flatMap.1 hx
    have hi := List.mem_range.1 hi
    obtain ⟨y, hy, rfl⟩ := List.mem_map.1 h5
    have := idxF_lt (hc.pt i hi y hy)
    rw [h1]
    unfold mvQ
    simp only
    omega
  · obtain ⟨i, x, hi, h5, h6, h7, h8, t0, y, h9, h10, h11, h12⟩ := hc.p1 t ht
    have := (List.getElem?_eq_some_iff.1 h8).1
    refine ⟨by omega, by rw [h1]; omega, h7, by omega, _, h8, ?_⟩
    rw [h5]; rfl
  · rw [hc.pm, List.pairwise_flatMap]
    refine ⟨fun i hi => ?_, ?_⟩
    · rw [List.pairwise_map]
      refine (List.Pairwise.imp_of_mem ?_ (outM_sorted hR.so (repQ (cls r).1 Q i)))
      intro a b ha hb hab
      have fa := (outM_f ha).2
      have fb := (outM_f hb).2
      rcases hab with h | ⟨_, h⟩
      · omega
      · exact .inr ⟨rfl, h⟩
    · refine List.Pairwise.imp ?_ (List.pairwise_lt_range (n := Q.length))
      intro i k hik x hx y hy
      obtain ⟨x', _, rfl⟩ := List.mem_map.1 hx
      obtain ⟨y', _, rfl⟩ := List.mem_map.1 hy
      exact .inl (show (i : Int) < (k : Int) by omega)
end Go.VC
end

section
/- The law of minimal machines. -/
namespace Go.VC
open Go.Proofs Go.LexS

theorem limR_facts {n : Nat} {o : Ti} {M : List Mv} (hM : M.Pairwise mvLt) : (limR n o M).length ≤ 1 ∧ ∀ t ∈ limR n o M, t.s = (n : Int) ∧ ∃ y, M[t.e.toNat]? = some y ∧ y.f = (n : Int) := by
  have hmem : ∀ t ∈ limR n o M, t.s = (n : Int) ∧ ∃ (i : Nat) (y : Mv), t.e = (i : Int) ∧ M[i]? = some y ∧ y.f = (n : Int) ∧ y.ev = o.x := by
    intro t ht
    unfold limR at ht
    obtain ⟨q, hq, h2⟩ := List.mem_filterMap.1 ht
    obtain ⟨y, i⟩ := q
    rw [List.mem_zipIdx_iff_getElem?] at hq
    unfold limC at h2
    split at h2
    · rename_i hc
      cases h2
      refine ⟨rfl, i, y, rfl, hq, hc.1, ?_⟩
      rw [hc.2.2.2]
      exact ev_ext hc.2.1 rfl rfl
    · cases h2
  refine ⟨?_, fun t ht => ?_⟩
  · have key : ∀ k, k ≤ M.length → ((M.take k).zipIdx.filterMap (limC n o)).length ≤ 1 ∧ ((∃ i y, i < k ∧ M[i]? = some y ∧ limC n o (y, i) ≠ none) ∨ (M.take k).zipIdx.filterMap (limC n o) = []) := by
      intro k
      induction k with
      | zero => intro _; exact ⟨by simp, .inr rfl⟩
      | succ k ih =>
        intro hk
        obtain ⟨y, hy⟩ := get_some (l := M) (i := k) (by omega)
        obtain ⟨h1, h2⟩ := ih (by omega)
        rw [zip_snoc hy, List.filterMap_append]
        cases hl : limC n o (y, k) with
        | none =>
          have e : [(y, k)].filterMap (limC n o) = [] := by simp [hl]
          rw [e, List.append_nil]
          refine ⟨h1, ?_⟩
          rcases h2 with ⟨i, z, hi, h3, h4⟩ | h2
          · exact .inl ⟨i, z, by omega, h3, h4⟩
          · exact .inr h2
        | some t =>
          have e : [(y, k)].filterMap (limC n o) = [t] := by simp [hl]
          rw [e]
          rcases h2 with ⟨i, z, hi, h3, h4⟩ | h2
          · exfalso
            have hz : z.f = (n : Int) ∧ z.ev = o.x := by
              unfold limC at h4
              split at h4
              · rename_i hc; exact ⟨hc.1, by rw [hc.2.2.2]; exact ev_ext hc.2.1 rfl rfl⟩
              · exact absurd rfl h4
            have hyy : y.f = (n : Int) ∧ y.ev = o.x := by
              unfold limC at hl
              split at hl
              · rename_i hc; exact ⟨hc.1, by rw [hc.2.2.2]; exact ev_ext hc.2.1 rfl rfl⟩
              · cases hl
            rcases mvLt_get hM hi h3 hy with h5 | ⟨_, h5⟩
            · omega
            · rw [hz.2, hyy.2] at h5; exact evLt_irr _ h5
          · rw [h2]
            exact ⟨by simp, .inl ⟨k, y, by omega, hy, by rw [hl]; simp⟩⟩
    have := (key M.length (Nat.le_refl _)).1
    rw [List.take_length] at this
    exact this
  · obtain ⟨h1, i, y, h2, h3, h4, _⟩ := hmem t ht
    exact ⟨h1, y, by rw [h2, Int.toNat_natCast]; exact h3, h4⟩
theorem rawL_lims {vw : List Nat → Option Ti} : ∀ (n : Nat) (S : List PSet) (M : List Mv) (L : List To) {M' : List Mv} {L' : List To}, M.Pairwise mvLt → (L.map (·.s)).Nodup → (∀ t ∈ L, t.s < (n : Int) ∧ ∃ y, M[t.e.toNat]? = some y ∧ y.f = t.s) → rawL vw n S M L = some (M', L') →
    (L'.map (·.s)).Nodup ∧ ∀ t ∈ L', ∃ y, M'[t.e.toNat]? = some y ∧ y.f = t.s
  | n, [], M, L, M', L', _, hL, hl, h => by cases h; exact ⟨hL, fun t ht => (hl t ht).2⟩
  | n, p :: S, M, L, M', L', hM, hL, hl, h => by
    rw [rawL] at h
    cases hv : vw (elems p) with
    | none => rw [hv] at h; cases h
    | some o =>
      rw [hv] at h
      replace h : rawL vw (n + 1) S (M.map (updR n o)) (L ++ limR n o M) = some (M', L') := h
      have hup : ∀ x, (updR n o x).f = x.f ∧ (updR n o x).ev = x.ev := fun x => by
        obtain ⟨h1, h2, h3, h4, h5⟩ := updR_same n o x
        exact ⟨h1, by unfold Mv.ev; rw [h2, h3, h4]⟩
      obtain ⟨f1, f2⟩ := limR_facts (n := n) (o := o) hM
      refine rawL_lims (n + 1) S (M.map (updR n o)) (L ++ limR n o M) ?_ ?_ ?_ h
      · rw [List.pairwise_map]
        refine hM.imp fun {a b} hab => ?_
        unfold mvLt at hab ⊢
        rw [(hup a).1, (hup b).1, (hup a).2, (hup b).2]; exact hab
      · rw [List.map_append, List.nodup_append]
        refine ⟨hL, ?_, fun a ha b hb e => ?_⟩
        · generalize limR n o M = l at f1
          match l, f1 with
          | [], _ => simp
          | [a], _ => simp
        · obtain ⟨t, ht, rfl⟩ := List.mem_map.1 ha
          obtain ⟨u, hu, rfl⟩ := List.mem_map.1 hb
          have h5 := (hl t ht).1
          have h6 := (f2 u hu).1
          omega
      · intro t ht
        have get : ∀ {i : Nat} {y : Mv}, M[i]? = some y → (M.map (updR n o))[i]? = some (updR n o y) := fun h => by rw [List.getElem?_map, h]; rfl
        rcases List.mem_append.1 ht with ht | ht
        · obtain ⟨h5, y, h6, h7⟩ := hl t ht
          exact ⟨by omega, _, get h6, by rw [(hup y).1]; exact h7⟩
        · obtain ⟨h5, y, h6, h7⟩ := f2 t ht
          exact ⟨by omega, _, get h6, by rw [(hup y).1, h7, h5]⟩
theorem raw_raw {g : Gl} {role : Int} {m : Mch} (hr : g.rs.length ≤ 1048576) (hd : g.ds.length ≤ 1048576) (h : raw g role = (some m, 0)) : MRaw m := by
  obtain ⟨hO, hS⟩ := raw_ok hr hd h
  refine ⟨hO, hS, ?_, ?_⟩
  all_goals
    unfold raw at h
    split at h
    · cases h
    · rename_i hv
      obtain ⟨hV, hr0, hr1⟩ := Decidable.not_not.1 hv
      cases hw : views g role with
      | none => rw [hw] at h; cases h
      | some q =>
        obtain ⟨S, M⟩ := q
        rw [hw] at h
        replace h : (if M.length > 400 then ((none, 6) : Option Mch × Int) else
          match rawL (vwG g role) 0 S M [] with
          | none => (none, 18)
          | some (M', L) => (some ⟨role, S.length, 0, S.map (fun p => p g.e.toNat), M', L⟩, 0)) = (some m, 0) := h
        split at h
        · cases h
        · cases hl : rawL (vwG g role) 0 S M [] with
          | none => rw [hl] at h; cases h
          | some q =>
            obtain ⟨M', L⟩ := q
            rw [hl] at h
            cases h
            have := rawL_lims 0 S M [] (views_vi hV hw).1.so List.nodup_nil (fun t ht => by cases ht) hl
            first | exact this.2 | exact this.1
theorem minF_lens {r : Mch} (hR : MRaw r) : (minF r).mv.length ≤ 1048576 ∧ (minF r).li.length ≤ 1048576 := by
  have key : ∀ (f hd : Nat) (Q : List Nat) (fin : List Bool) (mv : List Mv) (li : List To), mv.length ≤ hd * 400 → li.length ≤ hd * 400 → hd ≤ 202 - f → f ≤ 202 → (minN r (cls r).1 f hd Q fin mv li).mv.length ≤ 80800 ∧ (minN r (cls r).1 f hd Q fin mv li).li.length ≤ 80800 := by
    intro f
    induction f with
    | zero => intro hd Q fin mv li h1 h2 h3 _; rw [minN]; have : hd * 400 ≤ 80800 := (by omega); exact ⟨Nat.le_trans h1 this, Nat.le_trans h2 this⟩
    | succ f ih =>
      intro hd Q fin mv li h1 h2 h3 hf
      rw [minN]
      cases hq : Q[hd]? with
      | none => have : hd * 400 ≤ 80800 := (by omega); exact ⟨Nat.le_trans h1 this, Nat.le_trans h2 this⟩
      | some c =>
        have hfold : ∀ (l : List Mv) (tl : Option To) (st : List Nat × List Mv × List To), (l.foldl (minX r (cls r).1 hd tl) st).2.1.length = st.2.1.length + l.length ∧ (l.foldl (minX r (cls r).1 hd tl) st).2.2.length ≤ st.2.2.length + l.length := by
          intro l tl
          induction l with
          | nil => intro st; exact ⟨rfl, Nat.le_refl _⟩
          | cons a l ih2 =>
            intro st
            rw [List.foldl_cons, List.length_cons]
            have h4 := ih2 (minX r (cls r).1 hd tl st a)
            have h5 := minX_len r (cls r).1 hd tl st a
            omega
        have hout : (outM r (idxF (cls r).1 c)).length ≤ 400 := Nat.le_trans (List.length_filter_le _ _) hR.ok.ml
        have h6 := hfold (outM r (idxF (cls r).1 c)) (mget (limM r.li) (idxF (cls r).1 c : Nat)) (Q, mv, li)
        simp only at h6
        exact ih (hd + 1) _ _ _ _ (by omega) (by omega) (by omega) (by omega)
  have := key 202 0 [(cls r).1.getD r.s.toNat 0] [] [] [] (by simp) (by simp) (by omega) (by omega)
  unfold minF
  omega
end Go.VC
end
