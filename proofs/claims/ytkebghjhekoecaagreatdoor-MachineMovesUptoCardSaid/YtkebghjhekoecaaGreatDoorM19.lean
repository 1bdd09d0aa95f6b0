/- Texts of this claim, joined: QjVcH, QjY, QjRp, QjVcI, QjMa, RjVcD, RjVcC. -/
import Derived.Test.YtkebghjhekoecaaGreatDoorM02
import Derived.Test.YtkebghjhekoecaaGreatDoorProg
import Derived.KernelRfl
import Derived.Test.YtkebghjhekoecaaGreatDoorM18
import Derived.Test.YtkebghjhekoecaaGreatDoorM13
set_option linter.unusedVariables false
set_option linter.unusedSimpArgs false

section
namespace Go.VC
open Go.Proofs
set_option maxRecDepth 100000
set_option linter.unusedVariables false

def W46 (p0 : Bool) (h : Heap) (R : Value → Heap → Prop) : Prop :=
 (∀ h1 : Heap, h1 = h.push (.cells ⟨[.string ⟨#[]⟩, .slice none 0 0, .slice none 0 0, .int .i64 0, .int .i64 0, .int .i64 0, .slice none 0 0, .slice none 0 0]⟩ 59) →
 (∀ h2 : Heap, h2 = h1.push (.cells ⟨[.string ⟨#[112]⟩, .string ⟨#[113]⟩, .string ⟨#[114]⟩]⟩ 9) →
 (∀ h3 : Heap, h3 = h2.push (.cells ⟨[.string ⟨#[97]⟩, .slice none 0 0, .int .i64 0, .slice none 0 0, .slice none 0 0, .string ⟨#[98]⟩, .slice none 0 0, .int .i64 0, .slice none 0 0, .slice none 0 0, .string ⟨#[99]⟩, .slice none 0 0, .int .i64 0, .slice none 0 0, .slice none 0 0, .string ⟨#[100]⟩, .slice none 0 0, .int .i64 0, .slice none 0 0, .slice none 0 0]⟩ 153) →
 (∀ h4 : Heap, h4 = h3.push (.cells ⟨[.string ⟨#[]⟩, .slice none 0 0, .slice none 0 0, .int .i64 0, .int .i64 0, .int .i64 0, .slice none 0 0, .slice none 0 0]⟩ 59) →
 (okAt h4 ⟨h3.size, 0, none⟩ 8 ∧ ∀ h5 : Heap, h5 = hputs h4 ⟨h3.size, 0, none⟩ 0 [.string ⟨#[101]⟩, .slice (some ⟨h1.size, 0, none⟩) 3 3, .slice (some ⟨h2.size, 0, none⟩) 4 4, .int .i64 4, .int .i64 0, .int .i64 3, .slice none 0 0, .slice none 0 0] →
 (Fn Tryz.prog 95 #[.int .i64 0, .int .i64 0, .int .i64 1, .int .i64 0, .int .i64 1] h5
 (fun v6 h13 => ∃ (x7 x8 x9 x10 x11 : Int) (x12 : Bool), v6 = .agg ⟨[.int .i64 x7, .int .i64 x8, .int .i64 x9, .int .i64 x10, .int .i64 x11, .bool x12]⟩ ∧
 (Fn Tryz.prog 95 #[.int .i64 0, .int .i64 0, .int .i64 1, .int .i64 1, .int .i64 2] h13
 (fun v14 h21 => ∃ (x15 x16 x17 x18 x19 : Int) (x20 : Bool), v14 = .agg ⟨[.int .i64 x15, .int .i64 x16, .int .i64 x17, .int .i64 x18, .int .i64 x19, .bool x20]⟩ ∧
 (Fn Tryz.prog 95 #[.int .i64 1, .int .i64 2, .int .i64 1, .int .i64 2, .int .i64 3] h21
 (fun v22 h29 => ∃ (x23 x24 x25 x26 x27 : Int) (x28 : Bool), v22 = .agg ⟨[.int .i64 x23, .int .i64 x24, .int .i64 x25, .int .i64 x26, .int .i64 x27, .bool x28]⟩ ∧
 (Fn Tryz.prog 95 #[.int .i64 2, .int .i64 2, .int .i64 1, .int .i64 3, .int .i64 3] h29
 (fun v30 h37 => ∃ (x31 x32 x33 x34 x35 : Int) (x36 : Bool), v30 = .agg ⟨[.int .i64 x31, .int .i64 x32, .int .i64 x33, .int .i64 x34, .int .i64 x35, .bool x36]⟩ ∧
 (∀ h38 : Heap, h38 = h37.push (.cells ⟨[.int .i64 x7, .int .i64 x8, .int .i64 x9, .int .i64 x10, .int .i64 x11, .bool x12, .int .i64 x15, .int .i64 x16, .int .i64 x17, .int .i64 x18, .int .i64 x19, .bool x20, .int .i64 x23, .int .i64 x24, .int .i64 x25, .int .i64 x26, .int .i64 x27, .bool x28, .int .i64 x31, .int .i64 x32, .int .i64 x33, .int .i64 x34, .int .i64 x35, .bool x36]⟩ 145) →
 (okAt h38 ⟨h3.size, 6, none⟩ 1 ∧ ∀ h39 : Heap, h39 = hputs h38 ⟨h3.size, 6, none⟩ 0 [.slice (some ⟨h37.size, 0, none⟩) 4 4] →
 (sB p0
 ((okAt h39 ⟨h3.size, 3, none⟩ 1 ∧ ∀ h40 : Heap, h40 = hputs h39 ⟨h3.size, 3, none⟩ 0 [.int .i64 6] →
 (okAt h40 ⟨h3.size, 5, none⟩ 1 ∧ ∀ h41 : Heap, h41 = hputs h40 ⟨h3.size, 5, none⟩ 0 [.int .i64 5] →
 (Fn Tryz.prog 95 #[.int .i64 0, .int .i64 0, .int .i64 1, .int .i64 0, .int .i64 1] h41
 (fun v42 h49 => ∃ (x43 x44 x45 x46 x47 : Int) (x48 : Bool), v42 = .agg ⟨[.int .i64 x43, .int .i64 x44, .int .i64 x45, .int .i64 x46, .int .i64 x47, .bool x48]⟩ ∧
 (Fn Tryz.prog 95 #[.int .i64 0, .int .i64 0, .int .i64 1, .int .i64 1, .int .i64 2] h49
 (fun v50 h57 => ∃ (x51 x52 x53 x54 x55 : Int) (x56 : Bool), v50 = .agg ⟨[.int .i64 x51, .int .i64 x52, .int .i64 x53, .int .i64 x54, .int .i64 x55, .bool x56]⟩ ∧
 (Fn Tryz.prog 95 #[.int .i64 1, .int .i64 1, .int .i64 2, .int .i64 0, .int .i64 3] h57
 (fun v58 h65 => ∃ (x59 x60 x61 x62 x63 : Int) (x64 : Bool), v58 = .agg ⟨[.int .i64 x59, .int .i64 x60, .int .i64 x61, .int .i64 x62, .int .i64 x63, .bool x64]⟩ ∧
 (Fn Tryz.prog 95 #[.int .i64 2, .int .i64 1, .int .i64 2, .int .i64 1, .int .i64 4] h65
 (fun v66 h73 => ∃ (x67 x68 x69 x70 x71 : Int) (x72 : Bool), v66 = .agg ⟨[.int .i64 x67, .int .i64 x68, .int .i64 x69, .int .i64 x70, .int .i64 x71, .bool x72]⟩ ∧
 (Fn Tryz.prog 95 #[.int .i64 3, .int .i64 2, .int .i64 1, .int .i64 2, .int .i64 5] h73
 (fun v74 h81 => ∃ (x75 x76 x77 x78 x79 : Int) (x80 : Bool), v74 = .agg ⟨[.int .i64 x75, .int .i64 x76, .int .i64 x77, .int .i64 x78, .int .i64 x79, .bool x80]⟩ ∧
 (Fn Tryz.prog 95 #[.int .i64 4, .int .i64 2, .int .i64 1, .int .i64 3, .int .i64 5] h81
 (fun v82 h89 => ∃ (x83 x84 x85 x86 x87 : Int) (x88 : Bool), v82 = .agg ⟨[.int .i64 x83, .int .i64 x84, .int .i64 x85, .int .i64 x86, .int .i64 x87, .bool x88]⟩ ∧
 (∀ h90 : Heap, h90 = h89.push (.cells ⟨[.int .i64 x43, .int .i64 x44, .int .i64 x45, .int .i64 x46, .int .i64 x47, .bool x48, .int .i64 x51, .int .i64 x52, .int .i64 x53, .int .i64 x54, .int .i64 x55, .bool x56, .int .i64 x59, .int .i64 x60, .int .i64 x61, .int .i64 x62, .int .i64 x63, .bool x64, .int .i64 x67, .int .i64 x68, .int .i64 x69, .int .i64 x70, .int .i64 x71, .bool x72, .int .i64 x75, .int .i64 x76, .int .i64 x77, .int .i64 x78, .int .i64 x79, .bool x80, .int .i64 x83, .int .i64 x84, .int .i64 x85, .int .i64 x86, .int .i64 x87, .bool x88]⟩ 145) →
 (okAt h90 ⟨h3.size, 6, none⟩ 1 ∧ ∀ h91 : Heap, h91 = hputs h90 ⟨h3.size, 6, none⟩ 0 [.slice (some ⟨h89.size, 0, none⟩) 6 6] →
 (∃ (x92 : ByteArray) (x93 x94 : Sl) (x95 x96 x97 : Int) (x98 x99 : Sl), atC h91 ⟨h3.size, 0, none⟩ [.string x92, .slice x93.a x93.n x93.c, .slice x94.a x94.n x94.c, .int .i64 x95, .int .i64 x96, .int .i64 x97, .slice x98.a x98.n x98.c, .slice x99.a x99.n x99.c] ∧
 (okAt h91 ⟨h.size, 0, none⟩ 8 ∧ ∀ h100 : Heap, h100 = hputs h91 ⟨h.size, 0, none⟩ 0 [.string x92, .slice x93.a x93.n x93.c, .slice x94.a x94.n x94.c, .int .i64 x95, .int .i64 x96, .int .i64 x97, .slice x98.a x98.n x98.c, .slice x99.a x99.n x99.c] →
 (∃ (x101 : ByteArray) (x102 x103 : Sl) (x104 x105 x106 : Int) (x107 x108 : Sl), atC h100 ⟨h.size, 0, none⟩ [.string x101, .slice x102.a x102.n x102.c, .slice x103.a x103.n x103.c, .int .i64 x104, .int .i64 x105, .int .i64 x106, .slice x107.a x107.n x107.c, .slice x108.a x108.n x108.c] ∧
 R (.agg ⟨[.string x101, .slice x102.a x102.n x102.c, .slice x103.a x103.n x103.c, .int .i64 x104, .int .i64 x105, .int .i64 x106, .slice x107.a x107.n x107.c, .slice x108.a x108.n x108.c]⟩) h100))))))))))))))))))))
 ((∃ (x109 : ByteArray) (x110 x111 : Sl) (x112 x113 x114 : Int) (x115 x116 : Sl), atC h39 ⟨h3.size, 0, none⟩ [.string x109, .slice x110.a x110.n x110.c, .slice x111.a x111.n x111.c, .int .i64 x112, .int .i64 x113, .int .i64 x114, .slice x115.a x115.n x115.c, .slice x116.a x116.n x116.c] ∧
 (okAt h39 ⟨h.size, 0, none⟩ 8 ∧ ∀ h117 : Heap, h117 = hputs h39 ⟨h.size, 0, none⟩ 0 [.string x109, .slice x110.a x110.n x110.c, .slice x111.a x111.n x111.c, .int .i64 x112, .int .i64 x113, .int .i64 x114, .slice x115.a x115.n x115.c, .slice x116.a x116.n x116.c] →
 (∃ (x118 : ByteArray) (x119 x120 : Sl) (x121 x122 x123 : Int) (x124 x125 : Sl), atC h117 ⟨h.size, 0, none⟩ [.string x118, .slice x119.a x119.n x119.c, .slice x120.a x120.n x120.c, .int .i64 x121, .int .i64 x122, .int .i64 x123, .slice x124.a x124.n x124.c, .slice x125.a x125.n x125.c] ∧
 R (.agg ⟨[.string x118, .slice x119.a x119.n x119.c, .slice x120.a x120.n x120.c, .int .i64 x121, .int .i64 x122, .int .i64 x123, .slice x124.a x124.n x124.c, .slice x125.a x125.n x125.c]⟩) h117))))))))))))))))))))
theorem vc46 (p0 : Bool) (h : Heap) (R : Value → Heap → Prop) (H : W46 p0 h R) : Fn Tryz.prog 46 #[.bool p0] h R := fnI (A := .z) (by kernel_rfl) H

def W95 (p0 p1 p2 p3 p4 : Int) (h : Heap) (R : Value → Heap → Prop) : Prop :=
 (∀ h1 : Heap, h1 = h.push (.cells ⟨[.int .i64 0, .int .i64 0, .int .i64 0, .int .i64 0, .int .i64 0, .bool false]⟩ 145) →
 (okAt h1 ⟨h.size, 0, none⟩ 6 ∧ ∀ h2 : Heap, h2 = hputs h1 ⟨h.size, 0, none⟩ 0 [.int .i64 p0, .int .i64 p1, .int .i64 p2, .int .i64 p3, .int .i64 p4, .bool false] →
 (∃ (x3 x4 x5 x6 x7 : Int) (x8 : Bool), atC h2 ⟨h.size, 0, none⟩ [.int .i64 x3, .int .i64 x4, .int .i64 x5, .int .i64 x6, .int .i64 x7, .bool x8] ∧
 R (.agg ⟨[.int .i64 x3, .int .i64 x4, .int .i64 x5, .int .i64 x6, .int .i64 x7, .bool x8]⟩) h2)))
theorem vc95 (p0 p1 p2 p3 p4 : Int) (h : Heap) (R : Value → Heap → Prop) (H : W95 p0 p1 p2 p3 p4 h R) : Fn Tryz.prog 95 #[.int .i64 p0, .int .i64 p1, .int .i64 p2, .int .i64 p3, .int .i64 p4] h R := fnI (A := .z) (by kernel_rfl) H

/- farandole/farandoleref25.Out
 loop rrlrborlbrrlb: k_23:Int
 loop rrlrb: out_11:Sl, i_12:Int -/
def W62 (p0_1 p0_2 p0_3 : Int) (p0_4 p0_5 p0_6 : Sl) (p1 : Int) (h : Heap) (R : Value → Heap → Prop) : Prop :=
 (∀ h7 : Heap, h7 = h.push (.cells ⟨[.int .i64 p0_1, .int .i64 p0_2, .int .i64 p0_3, .slice p0_4.a p0_4.n p0_4.c, .slice p0_5.a p0_5.n p0_5.c, .slice p0_6.a p0_6.n p0_6.c]⟩ 26) →
 (∃ I8 : Sl → Int → Heap → Nat → Prop, (∃ m9, I8 ⟨none, 0, 0⟩ 0 h7 m9) ∧
 (∀ (_ : Env) (out_11 : Sl) (i_12 : Int) (h13 : Heap) (m10 : Nat), I8 out_11 i_12 h13 m10 →
 (∃ x14 : Sl, hc h13 ⟨h.size, 4, none⟩ = some (.slice x14.a x14.n x14.c) ∧
 (sB (decide (i_12 < (x14.n : Int)))
 ((∃ x15 : Sl, hc h13 ⟨h.size, 4, none⟩ = some (.slice x15.a x15.n x15.c) ∧
 (NB x15.a fun b16 o17 => ((0 ≤ (i_12 : Int) ∧ (i_12 : Int) < (x15.n : Nat)) ∧
 (∃ x18 : Int, hc h13 ⟨b16, o17 + Int.toNat i_12 * 6, none⟩ = some (.int .i64 x18) ∧
 (sB (x18 != p1)
 ((∃ m19, m19 < m10 ∧ I8 out_11 (IntKind.wrap .i64 (i_12 + 1)) h13 m19))
 ((∃ I20 : Int → Heap → Nat → Prop, (∃ m21, I20 0 h13 m21) ∧
 (∀ (_ : Env) (k_23 : Int) (h24 : Heap) (m22 : Nat), I20 k_23 h24 m22 →
 (sB (decide (k_23 < (out_11.n : Int)))
 ((∃ x25 : Sl, hc h24 ⟨h.size, 4, none⟩ = some (.slice x25.a x25.n x25.c) ∧
 (NB x25.a fun b26 o27 => ((0 ≤ (i_12 : Int) ∧ (i_12 : Int) < (x25.n : Nat)) ∧
 (∃ (x28 : Int) (x29 : Bool) (x30 x31 x32 : Int) (x33 : Bool), atC h24 ⟨b26, o27 + Int.toNat i_12 * 6, none⟩ [.int .i64 x28, .bool x29, .int .i64 x30, .int .i64 x31, .int .i64 x32, .bool x33] ∧
 (∃ x34 : Sl, hc h24 ⟨h.size, 4, none⟩ = some (.slice x34.a x34.n x34.c) ∧
 (NB out_11.a fun b35 o36 => ((0 ≤ (k_23 : Int) ∧ (k_23 : Int) < (out_11.n : Nat)) ∧
 (∃ x37 : Int, hc h24 ⟨b35, o36 + Int.toNat k_23 * 1, none⟩ = some (.int .i64 x37) ∧
 (NB x34.a fun b38 o39 => ((0 ≤ (x37 : Int) ∧ (x37 : Int) < (x34.n : Nat)) ∧
 (∃ (x40 : Int) (x41 : Bool) (x42 x43 x44 : Int) (x45 : Bool), atC h24 ⟨b38, o39 + Int.toNat x37 * 6, none⟩ [.int .i64 x40, .bool x41, .int .i64 x42, .int .i64 x43, .int .i64 x44, .bool x45] ∧
 (Fn Tryz.prog 107 #[.agg ⟨[.int .i64 x28, .bool x29, .int .i64 x30, .int .i64 x31, .int .i64 x32, .bool x33]⟩, .agg ⟨[.int .i64 x40, .bool x41, .int .i64 x42, .int .i64 x43, .int .i64 x44, .bool x45]⟩] h24
 (fun v46 h48 => ∃ x47 : Bool, v46 = .bool x47 ∧
 (sB (!x47)
 ((∃ m49, m49 < m22 ∧ I20 (IntKind.wrap .i64 (k_23 + 1)) h48 m49))
 ((((0 : Int) ≤ (0 : Int) ∧ (0 : Int) ≤ (k_23 : Int) ∧ (k_23 : Int) ≤ (out_11.c : Nat)) ∧
 (((0 : Int) ≤ (k_23 : Int) ∧ (k_23 : Int) ≤ ((out_11.n : Nat) : Int) ∧ ((out_11.n : Nat) : Int) ≤ (out_11.c : Nat)) ∧
 ((∀ h50 : Heap, h50 = h48.push (.cells ⟨[]⟩ 3) →
 ((App Tryz.prog 49 49 (.slice (some ⟨h48.size, 0, none⟩) 0 0) (.slice (subA out_11.a (Int.toNat 0) out_11.c 1) (Int.toNat k_23 - Int.toNat 0) (out_11.c - Int.toNat 0)) h50 fun s51 h52 =>
 (∀ h53 : Heap, h53 = h52.push (.cells ⟨[.int .i64 i_12]⟩ 3) →
 (App Tryz.prog 49 49 (.slice s51.a s51.n s51.c) (.slice (some ⟨h52.size, 0, none⟩) 1 1) h53 fun s54 h55 =>
 (App Tryz.prog 49 49 (.slice s54.a s54.n s54.c) (.slice (subA out_11.a (Int.toNat k_23) out_11.c 1) (Int.toNat (out_11.n : Nat) - Int.toNat k_23) (out_11.c - Int.toNat k_23)) h55 fun s56 h57 =>
 (∃ m58, m58 < m10 ∧ I8 s56 (IntKind.wrap .i64 (i_12 + 1)) h57 m58)))))) ∧ ((∀ h59 : Heap, h59 = h50.push (.cells ⟨[.int .i64 i_12]⟩ 3) →
 (App Tryz.prog 49 49 (.slice (some ⟨h48.size, 0, none⟩) 0 0) (.slice (subA out_11.a (Int.toNat 0) out_11.c 1) (Int.toNat k_23 - Int.toNat 0) (out_11.c - Int.toNat 0)) h59 fun s60 h61 =>
 (App Tryz.prog 49 49 (.slice s60.a s60.n s60.c) (.slice (some ⟨h50.size, 0, none⟩) 1 1) h61 fun s62 h63 =>
 (App Tryz.prog 49 49 (.slice s62.a s62.n s62.c) (.slice (subA out_11.a (Int.toNat k_23) out_11.c 1) (Int.toNat (out_11.n : Nat) - Int.toNat k_23) (out_11.c - Int.toNat k_23)) h63 fun s64 h65 =>
 (∃ m66, m66 < m10 ∧ I8 s64 (IntKind.wrap .i64 (i_12 + 1)) h65 m66)))))))) ∧ ((∀ h67 : Heap, h67 = h48.push (.cells ⟨[.int .i64 i_12]⟩ 3) →
 (∀ h68 : Heap, h68 = h67.push (.cells ⟨[]⟩ 3) →
 (App Tryz.prog 49 49 (.slice (some ⟨h67.size, 0, none⟩) 0 0) (.slice (subA out_11.a (Int.toNat 0) out_11.c 1) (Int.toNat k_23 - Int.toNat 0) (out_11.c - Int.toNat 0)) h68 fun s69 h70 =>
 (App Tryz.prog 49 49 (.slice s69.a s69.n s69.c) (.slice (some ⟨h48.size, 0, none⟩) 1 1) h70 fun s71 h72 =>
 (App Tryz.prog 49 49 (.slice s71.a s71.n s71.c) (.slice (subA out_11.a (Int.toNat k_23) out_11.c 1) (Int.toNat (out_11.n : Nat) - Int.toNat k_23) (out_11.c - Int.toNat k_23)) h72 fun s73 h74 =>
 (∃ m75, m75 < m10 ∧ I8 s73 (IntKind.wrap .i64 (i_12 + 1)) h74 m75)))))))))))))))))))))))))
 ((((0 : Int) ≤ (0 : Int) ∧ (0 : Int) ≤ (k_23 : Int) ∧ (k_23 : Int) ≤ (out_11.c : Nat)) ∧
 (((0 : Int) ≤ (k_23 : Int) ∧ (k_23 : Int) ≤ ((out_11.n : Nat) : Int) ∧ ((out_11.n : Nat) : Int) ≤ (out_11.c : Nat)) ∧
 ((∀ h76 : Heap, h76 = h24.push (.cells ⟨[]⟩ 3) →
 ((App Tryz.prog 49 49 (.slice (some ⟨h24.size, 0, none⟩) 0 0) (.slice (subA out_11.a (Int.toNat 0) out_11.c 1) (Int.toNat k_23 - Int.toNat 0) (out_11.c - Int.toNat 0)) h76 fun s77 h78 =>
 (∀ h79 : Heap, h79 = h78.push (.cells ⟨[.int .i64 i_12]⟩ 3) →
 (App Tryz.prog 49 49 (.slice s77.a s77.n s77.c) (.slice (some ⟨h78.size, 0, none⟩) 1 1) h79 fun s80 h81 =>
 (App Tryz.prog 49 49 (.slice s80.a s80.n s80.c) (.slice (subA out_11.a (Int.toNat k_23) out_11.c 1) (Int.toNat (out_11.n : Nat) - Int.toNat k_23) (out_11.c - Int.toNat k_23)) h81 fun s82 h83 =>
 (∃ m84, m84 < m10 ∧ I8 s82 (IntKind.wrap .i64 (i_12 + 1)) h83 m84)))))) ∧ ((∀ h85 : Heap, h85 = h76.push (.cells ⟨[.int .i64 i_12]⟩ 3) →
 (App Tryz.prog 49 49 (.slice (some ⟨h24.size, 0, none⟩) 0 0) (.slice (subA out_11.a (Int.toNat 0) out_11.c 1) (Int.toNat k_23 - Int.toNat 0) (out_11.c - Int.toNat 0)) h85 fun s86 h87 =>
 (App Tryz.prog 49 49 (.slice s86.a s86.n s86.c) (.slice (some ⟨h76.size, 0, none⟩) 1 1) h87 fun s88 h89 =>
 (App Tryz.prog 49 49 (.slice s88.a s88.n s88.c) (.slice (subA out_11.a (Int.toNat k_23) out_11.c 1) (Int.toNat (out_11.n : Nat) - Int.toNat k_23) (out_11.c - Int.toNat k_23)) h89 fun s90 h91 =>
 (∃ m92, m92 < m10 ∧ I8 s90 (IntKind.wrap .i64 (i_12 + 1)) h91 m92)))))))) ∧ ((∀ h93 : Heap, h93 = h24.push (.cells ⟨[.int .i64 i_12]⟩ 3) →
 (∀ h94 : Heap, h94 = h93.push (.cells ⟨[]⟩ 3) →
 (App Tryz.prog 49 49 (.slice (some ⟨h93.size, 0, none⟩) 0 0) (.slice (subA out_11.a (Int.toNat 0) out_11.c 1) (Int.toNat k_23 - Int.toNat 0) (out_11.c - Int.toNat 0)) h94 fun s95 h96 =>
 (App Tryz.prog 49 49 (.slice s95.a s95.n s95.c) (.slice (some ⟨h24.size, 0, none⟩) 1 1) h96 fun s97 h98 =>
 (App Tryz.prog 49 49 (.slice s97.a s97.n s97.c) (.slice (subA out_11.a (Int.toNat k_23) out_11.c 1) (Int.toNat (out_11.n : Nat) - Int.toNat k_23) (out_11.c - Int.toNat k_23)) h98 fun s99 h100 =>
 (∃ m101, m101 < m10 ∧ I8 s99 (IntKind.wrap .i64 (i_12 + 1)) h100 m101))))))))))))))))))))
 (R (.slice out_11.a out_11.n out_11.c) h13))))))
theorem vc62 (p0_1 p0_2 p0_3 : Int) (p0_4 p0_5 p0_6 : Sl) (p1 : Int) (h : Heap) (R : Value → Heap → Prop) (H : W62 p0_1 p0_2 p0_3 p0_4 p0_5 p0_6 p1 h R) : Fn Tryz.prog 62 #[.agg ⟨[.int .i64 p0_1, .int .i64 p0_2, .int .i64 p0_3, .slice p0_4.a p0_4.n p0_4.c, .slice p0_5.a p0_5.n p0_5.c, .slice p0_6.a p0_6.n p0_6.c]⟩, .int .i64 p1] h R := fnI (A := (.s .z (.s .z (.s (.s .z (.b (.l [(5, .one (.slice)), (6, .one (.int .i64))] (.s .z (.s (.b (.s .z (.s .z (.s (.b (.l [(7, .one (.int .i64))] .z)) .z)))) .z))))) .z)))) (by kernel_rfl) H

def W107 (p0_1 : Int) (p0_2 : Bool) (p0_3 p0_4 p0_5 : Int) (p0_6 : Bool) (p1_7 : Int) (p1_8 : Bool) (p1_9 p1_10 p1_11 : Int) (p1_12 : Bool) (h : Heap) (R : Value → Heap → Prop) : Prop :=
 (∀ h13 : Heap, h13 = h.push (.cells ⟨[.int .i64 p0_1, .bool p0_2, .int .i64 p0_3, .int .i64 p0_4, .int .i64 p0_5, .bool p0_6]⟩ 81) →
 (∀ h14 : Heap, h14 = h13.push (.cells ⟨[.int .i64 p1_7, .bool p1_8, .int .i64 p1_9, .int .i64 p1_10, .int .i64 p1_11, .bool p1_12]⟩ 81) →
 (∃ x15 : Bool, hc h14 ⟨h.size, 1, none⟩ = some (.bool x15) ∧
 (∃ x16 : Bool, hc h14 ⟨h13.size, 1, none⟩ = some (.bool x16) ∧
 (sB (!(x15 == x16))
 ((∃ x17 : Bool, hc h14 ⟨h.size, 1, none⟩ = some (.bool x17) ∧
 R (.bool x17) h14))
 ((∃ x18 : Int, hc h14 ⟨h.size, 2, none⟩ = some (.int .i64 x18) ∧
 (∃ x19 : Int, hc h14 ⟨h13.size, 2, none⟩ = some (.int .i64 x19) ∧
 (sB (x18 != x19)
 ((∃ x20 : Int, hc h14 ⟨h.size, 2, none⟩ = some (.int .i64 x20) ∧
 (∃ x21 : Int, hc h14 ⟨h13.size, 2, none⟩ = some (.int .i64 x21) ∧
 R (.bool (decide (x20 < x21))) h14)))
 ((∃ x22 : Int, hc h14 ⟨h.size, 3, none⟩ = some (.int .i64 x22) ∧
 (∃ x23 : Int, hc h14 ⟨h13.size, 3, none⟩ = some (.int .i64 x23) ∧
 R (.bool (decide (x22 < x23))) h14))))))))))))
theorem vc107 (p0_1 : Int) (p0_2 : Bool) (p0_3 p0_4 p0_5 : Int) (p0_6 : Bool) (p1_7 : Int) (p1_8 : Bool) (p1_9 p1_10 p1_11 : Int) (p1_12 : Bool) (h : Heap) (R : Value → Heap → Prop) (H : W107 p0_1 p0_2 p0_3 p0_4 p0_5 p0_6 p1_7 p1_8 p1_9 p1_10 p1_11 p1_12 h R) : Fn Tryz.prog 107 #[.agg ⟨[.int .i64 p0_1, .bool p0_2, .int .i64 p0_3, .int .i64 p0_4, .int .i64 p0_5, .bool p0_6]⟩, .agg ⟨[.int .i64 p1_7, .bool p1_8, .int .i64 p1_9, .int .i64 p1_10, .int .i64 p1_11, .bool p1_12]⟩] h R := fnI (A := .z) (by kernel_rfl) H

/- farandole/farandoleref25.Limit
 loop rlrb: i_11:Int -/
def W57 (p0_1 p0_2 p0_3 : Int) (p0_4 p0_5 p0_6 : Sl) (p1 : Int) (h : Heap) (R : Value → Heap → Prop) : Prop :=
 (∀ h7 : Heap, h7 = h.push (.cells ⟨[.int .i64 p0_1, .int .i64 p0_2, .int .i64 p0_3, .slice p0_4.a p0_4.n p0_4.c, .slice p0_5.a p0_5.n p0_5.c, .slice p0_6.a p0_6.n p0_6.c]⟩ 26) →
 (∃ I8 : Int → Heap → Nat → Prop, (∃ m9, I8 0 h7 m9) ∧
 (∀ (_ : Env) (i_11 : Int) (h12 : Heap) (m10 : Nat), I8 i_11 h12 m10 →
 (∃ x13 : Sl, hc h12 ⟨h.size, 5, none⟩ = some (.slice x13.a x13.n x13.c) ∧
 (sB (decide (i_11 < (x13.n : Int)))
 ((∃ x14 : Sl, hc h12 ⟨h.size, 5, none⟩ = some (.slice x14.a x14.n x14.c) ∧
 (NB x14.a fun b15 o16 => ((0 ≤ (i_11 : Int) ∧ (i_11 : Int) < (x14.n : Nat)) ∧
 (∃ x17 : Int, hc h12 ⟨b15, o16 + Int.toNat i_11 * 3, none⟩ = some (.int .i64 x17) ∧
 (sB (x17 == p1)
 (R (.int .i64 i_11) h12)
 ((∃ m18, m18 < m10 ∧ I8 (IntKind.wrap .i64 (i_11 + 1)) h12 m18))))))))
 (R (.int .i64 (-1)) h12))))))
theorem vc57 (p0_1 p0_2 p0_3 : Int) (p0_4 p0_5 p0_6 : Sl) (p1 : Int) (h : Heap) (R : Value → Heap → Prop) (H : W57 p0_1 p0_2 p0_3 p0_4 p0_5 p0_6 p1 h R) : Fn Tryz.prog 57 #[.agg ⟨[.int .i64 p0_1, .int .i64 p0_2, .int .i64 p0_3, .slice p0_4.a p0_4.n p0_4.c, .slice p0_5.a p0_5.n p0_5.c, .slice p0_6.a p0_6.n p0_6.c]⟩, .int .i64 p1] h R := fnI (A := (.s .z (.s (.s .z (.b (.l [(5, .one (.int .i64))] .z))) .z))) (by kernel_rfl) H

end Go.VC
end

section
/- The example, and that the laws are awake. -/
namespace Go.VC
open Go.Proofs Go.LexS
set_option maxRecDepth 100000

def exD (x : Nm) : Dc := ⟨x, ⟨none, 0, 0⟩, 0, ⟨none, 0, 0⟩, ⟨none, 0, 0⟩, [], [], []⟩
def exEs : Bool → List Ed
  | true => [⟨0, 0, 1, 0, 1, false⟩, ⟨0, 0, 1, 1, 2, false⟩, ⟨1, 1, 2, 0, 3, false⟩, ⟨2, 1, 2, 1, 4, false⟩, ⟨3, 2, 1, 2, 5, false⟩, ⟨4, 2, 1, 3, 5, false⟩]
  | false => [⟨0, 0, 1, 0, 1, false⟩, ⟨0, 0, 1, 1, 2, false⟩, ⟨1, 2, 1, 2, 3, false⟩, ⟨2, 2, 1, 3, 3, false⟩]
def exGl (b : Bool) (hr hd he ht : Sl) : Gl := ⟨[101], hr, hd, if b then 6 else 4, 0, if b then 5 else 3, he, ht, [[112], [113], [114]], [exD [97], exD [98], exD [99], exD [100]], exEs b, []⟩
theorem edge70 (p0 p1 p2 p3 p4 : Int) (h : Heap) : Fn Tryz.prog 95 #[.int .i64 p0, .int .i64 p1, .int .i64 p2, .int .i64 p3, .int .i64 p4] h fun v h' => v = .agg ⟨Ed.cs ⟨p0, p1, p2, p3, p4, false⟩⟩ ∧ Ext h h' := by
  apply vc95; unfold W95
  have hs := St.refl h
  refine hs.newput (vs := Ed.cs ⟨p0, p1, p2, p3, p4, false⟩) rfl rfl fun h2 hs => ?_
  exact ⟨_, _, _, _, _, _, hs.at 0 rfl (n := 6) rfl, rfl, hs.ext⟩
theorem RL.none_ {α : Type} {h : Heap} {k : Nat} {cs : α → List Value} : RL h k ⟨none, 0, 0⟩ cs [] := ⟨Rw.nil, Nat.le_refl _, fun _ => ⟨rfl, rfl⟩, Nat.zero_le _⟩
theorem St.rl {α : Type} {h0 h : Heap} {L : List It} (hs : St h0 h L) (k : Nat) {s : Sl} {e : TypeId} {n : Nat} {cs : α → List Value} {l : List α} (hk : L[k]? = some (.sl s e n (l.map cs))) (hn : 0 < n) (hl : l.length ≤ 1048576) : RL h n s cs l := by
  have := hs.len k hk hn
  exact ⟨hs.rows k hk hn, this.2.1, this.2.2, hl⟩
theorem nmrows (L : List Nm) : ∀ r ∈ L.map nmC, r.length = 1 := fun r hr => by obtain ⟨x, _, rfl⟩ := List.mem_map.1 hr; rfl
theorem dcrows (L : List Dc) : ∀ r ∈ L.map Dc.cs, r.length = 5 := fun r hr => by obtain ⟨x, _, rfl⟩ := List.mem_map.1 hr; rfl
theorem edrows (L : List Ed) : ∀ r ∈ L.map Ed.cs, r.length = 6 := fun r hr => by obtain ⟨x, _, rfl⟩ := List.mem_map.1 hr; rfl
set_option maxHeartbeats 1000000 in
theorem example34 (b : Bool) (h : Heap) : Fn Tryz.prog 46 #[.bool b] h fun v h' => Ext h h' ∧ ∃ hr hd he : Sl, v = (exGl b hr hd he ⟨none, 0, 0⟩).v ∧ GI h' (exGl b hr hd he ⟨none, 0, 0⟩) := by
  apply vc46; unfold W46
  have hs := St.refl h
  refine hs.newb fun h1 hs => ?_
  refine hs.newb fun h2 hs => ?_
  have hs := hs.blkS 3 1 ([[112], [113], [114]].map nmC) rfl (nmrows _) rfl (by decide)
  refine hs.newb fun h3 hs => ?_
  have hs := hs.blkS 4 5 ([exD [97], exD [98], exD [99], exD [100]].map Dc.cs) rfl (dcrows _) rfl (by decide)
  refine hs.newput (vs := [.string (bs [101]), .slice (some ⟨h1.size, 0, none⟩) 3 3, .slice (some ⟨h2.size, 0, none⟩) 4 4, .int .i64 4, .int .i64 0, .int .i64 3, .slice none 0 0, .slice none 0 0]) rfl rfl fun h5 hs => ?_
  refine (edge70 _ _ _ _ _ _).mono ?_
  rintro _ _ ⟨rfl, E⟩
  replace hs := hs.step E
  clear E
  refine ⟨_, _, _, _, _, _, rfl, ?_⟩
  refine (edge70 _ _ _ _ _ _).mono ?_
  rintro _ _ ⟨rfl, E⟩
  replace hs := hs.step E
  clear E
  refine ⟨_, _, _, _, _, _, rfl, ?_⟩
  refine (edge70 _ _ _ _ _ _).mono ?_
  rintro _ _ ⟨rfl, E⟩
  replace hs := hs.step E
  clear E
  refine ⟨_, _, _, _, _, _, rfl, ?_⟩
  refine (edge70 _ _ _ _ _ _).mono ?_
  rintro _ _ ⟨rfl, E⟩
  replace hs := hs.step E
  clear E
  refine ⟨_, _, _, _, _, _, rfl, ?_⟩
  refine hs.newb fun h38 hs => ?_
  have hs := hs.blkS 4 6 ((exEs false).map Ed.cs) rfl (edrows _) rfl (by decide)
  refine hs.put 1 rfl (o := 6) (vs := [.slice (some ⟨_, 0, none⟩) 4 4]) rfl (show 7 ≤ 8 by decide) fun h39 hs => ?_
  cases b
  · refine sB_f rfl ?_
    refine ⟨_, ⟨some ⟨h1.size, 0, none⟩, 3, 3⟩, ⟨some ⟨h2.size, 0, none⟩, 4, 4⟩, _, _, _, ⟨some ⟨_, 0, none⟩, 4, 4⟩, ⟨none, 0, 0⟩, hs.at 1 rfl (n := 8) rfl, ?_⟩
    refine hs.put 4 rfl (o := 0) (vs := (exGl false ⟨some ⟨h1.size, 0, none⟩, 3, 3⟩ ⟨some ⟨h2.size, 0, none⟩, 4, 4⟩ ⟨some ⟨_, 0, none⟩, 4, 4⟩ ⟨none, 0, 0⟩).cs) rfl (show 8 ≤ 8 by decide) fun h117 hs => ?_
    refine ⟨_, ⟨some ⟨h1.size, 0, none⟩, 3, 3⟩, ⟨some ⟨h2.size, 0, none⟩, 4, 4⟩, _, _, _, ⟨some ⟨_, 0, none⟩, 4, 4⟩, ⟨none, 0, 0⟩, hs.at 4 rfl (n := 8) rfl, hs.ext, _, _, _, rfl, ?_⟩
    refine ⟨hs.rl 3 rfl (by decide) (show 3 ≤ 1048576 by decide), ⟨hs.rl 2 rfl (by decide) (show 4 ≤ 1048576 by decide), fun d hd => ?_⟩, hs.rl 0 rfl (by decide) (show 4 ≤ 1048576 by decide), RL.none_⟩
    have hd : d ∈ [exD [97], exD [98], exD [99], exD [100]] := hd
    simp only [List.mem_cons, List.not_mem_nil, or_false] at hd
    rcases hd with rfl | rfl | rfl | rfl <;> exact ⟨RL.none_, RL.none_, RL.none_⟩
  · refine sB_t rfl ?_
    refine hs.put 1 rfl (o := 3) (vs := [.int .i64 6]) rfl (show 4 ≤ 8 by decide) fun h40 hs => ?_
    refine hs.put 1 rfl (o := 5) (vs := [.int .i64 5]) rfl (show 6 ≤ 8 by decide) fun h41 hs => ?_
    refine (edge70 _ _ _ _ _ _).mono ?_
    rintro _ _ ⟨rfl, E⟩
    replace hs := hs.step E
    clear E
    refine ⟨_, _, _, _, _, _, rfl, ?_⟩
    refine (edge70 _ _ _ _ _ _).mono ?_
    rintro _ _ ⟨rfl, E⟩
    replace hs := hs.step E
    clear E
    refine ⟨_, _, _, _, _, _, rfl, ?_⟩
    refine (edge70 _ _ _ _ _ _).mono ?_
    rintro _ _ ⟨rfl, E⟩
    replace hs := hs.step E
    clear E
    refine ⟨_, _, _, _, _, _, rfl, ?_⟩
    refine (edge70 _ _ _ _ _ _).mono ?_
    rintro _ _ ⟨rfl, E⟩
    replace hs := hs.step E
    clear E
    refine ⟨_, _, _, _, _, _, rfl, ?_⟩
    refine (edge70 _ _ _ _ _ _).mono ?_
    rintro _ _ ⟨rfl, E⟩
    replace hs := hs.step E
    clear E
    refine ⟨_, _, _, _, _, _, rfl, ?_⟩
    refine (edge70 _ _ _ _ _ _).mono ?_
    rintro _ _ ⟨rfl, E⟩
    replace hs := hs.step E
    clear E
    refine ⟨_, _, _, _, _, _, rfl, ?_⟩
    refine hs.newb fun h90 hs => ?_
    have hs := hs.blkS 6 6 ((exEs true).map Ed.cs) rfl (edrows _) rfl (by decide)
    refine hs.put 2 rfl (o := 6) (vs := [.slice (some ⟨_, 0, none⟩) 6 6]) rfl (show 7 ≤ 8 by decide) fun h91 hs => ?_
    refine ⟨_, ⟨some ⟨h1.size, 0, none⟩, 3, 3⟩, ⟨some ⟨h2.size, 0, none⟩, 4, 4⟩, _, _, _, ⟨some ⟨_, 0, none⟩, 6, 6⟩, ⟨none, 0, 0⟩, hs.at 2 rfl (n := 8) rfl, ?_⟩
    refine hs.put 5 rfl (o := 0) (vs := (exGl true ⟨some ⟨h1.size, 0, none⟩, 3, 3⟩ ⟨some ⟨h2.size, 0, none⟩, 4, 4⟩ ⟨some ⟨_, 0, none⟩, 6, 6⟩ ⟨none, 0, 0⟩).cs) rfl (show 8 ≤ 8 by decide) fun h117 hs => ?_
    refine ⟨_, ⟨some ⟨h1.size, 0, none⟩, 3, 3⟩, ⟨some ⟨h2.size, 0, none⟩, 4, 4⟩, _, _, _, ⟨some ⟨_, 0, none⟩, 6, 6⟩, ⟨none, 0, 0⟩, hs.at 5 rfl (n := 8) rfl, hs.ext, _, _, _, rfl, ?_⟩
    refine ⟨hs.rl 4 rfl (by decide) (show 3 ≤ 1048576 by decide), ⟨hs.rl 3 rfl (by decide) (show 4 ≤ 1048576 by decide), fun d hd => ?_⟩, hs.rl 0 rfl (by decide) (show 6 ≤ 1048576 by decide), RL.none_⟩
    have hd : d ∈ [exD [97], exD [98], exD [99], exD [100]] := hd
    simp only [List.mem_cons, List.not_mem_nil, or_false] at hd
    rcases hd with rfl | rfl | rfl | rfl <;> exact ⟨RL.none_, RL.none_, RL.none_⟩

deriving instance DecidableEq for Ed
theorem ex_valid (b : Bool) (hr hd he ht : Sl) : ValidS (exGl b hr hd he ht) := by
  have hrs : (exGl b hr hd he ht).rs = [[112], [113], [114]] := rfl
  have hds : (exGl b hr hd he ht).ds = [exD [97], exD [98], exD [99], exD [100]] := rfl
  have hes : (exGl b hr hd he ht).es = exEs b := rfl
  have hall : allF [exD [97], exD [98], exD [99], exD [100]] = [] := rfl
  have get3 : ∀ {α : Type} {P : Nat → α → Prop} {l : List α}, (∀ i (hi : i < l.length), P i l[i]) → ∀ i x, l[i]? = some x → P i x := by
    intro α P l h i x hx
    obtain ⟨h1, h2⟩ := List.getElem?_eq_some_iff.1 hx
    rw [← h2]; exact h i h1
  refine ⟨⟨by rfl, by rw [hrs]; decide, by rw [hrs]; decide, ?_⟩, ⟨?_, ?_, ?_⟩, ?_, ⟨?_, ?_, ?_⟩, ?_, ?_, ?_⟩
  · rw [hrs]
    refine get3 (P := fun i s => isWord s = true ∧ s ∉ List.take i [[112], [113], [114]]) fun i hi => ?_
    have hi : i < 3 := hi
    match i, hi with
    | 0, _ => exact of_decide_eq_true rfl
    | 1, _ => exact of_decide_eq_true rfl
    | 2, _ => exact of_decide_eq_true rfl
  · cases b <;> exact ⟨of_decide_eq_true rfl, of_decide_eq_true rfl, of_decide_eq_true rfl, of_decide_eq_true rfl, of_decide_eq_true rfl, of_decide_eq_true rfl⟩
  · rw [hes]; cases b <;> decide
  · rw [hes]
    unfold EdS
    rw [hrs, hds]
    cases b
    · show ∀ x ∈ exEs false, 0 ≤ x.f ∧ 0 ≤ x.t ∧ 0 ≤ x.a ∧ 0 ≤ x.b ∧ 0 ≤ x.l ∧ x.f < 4 ∧ x.t < 4 ∧ x.a < ((3 : Nat) : Int) ∧ x.b < ((3 : Nat) : Int) ∧ x.a ≠ x.b ∧ x.l < ((4 : Nat) : Int)
      decide
    · show ∀ x ∈ exEs true, 0 ≤ x.f ∧ 0 ≤ x.t ∧ 0 ≤ x.a ∧ 0 ≤ x.b ∧ 0 ≤ x.l ∧ x.f < 6 ∧ x.t < 6 ∧ x.a < ((3 : Nat) : Int) ∧ x.b < ((3 : Nat) : Int) ∧ x.a ≠ x.b ∧ x.l < ((4 : Nat) : Int)
      decide
  · rw [hds]
    refine ⟨by decide, by rw [hall]; decide, ?_⟩
    refine get3 (P := fun i d => DcS [exD [97], exD [98], exD [99], exD [100]] i d) fun i hi => ?_
    have hi : i < 4 := hi
    have hg : GuardS [] [] [] := ⟨by decide, by decide, fun x hx => (by cases hx), fun x hx => (by cases hx)⟩
    match i, hi with
    | 0, _ => exact ⟨by rfl, of_decide_eq_true rfl, of_decide_eq_true rfl, by rfl, fun k f hf => (by cases hf), by rw [hall]; exact hg⟩
    | 1, _ => exact ⟨by rfl, of_decide_eq_true rfl, of_decide_eq_true rfl, by rfl, fun k f hf => (by cases hf), by rw [hall]; exact hg⟩
    | 2, _ => exact ⟨by rfl, of_decide_eq_true rfl, of_decide_eq_true rfl, by rfl, fun k f hf => (by cases hf), by rw [hall]; exact hg⟩
    | 3, _ => exact ⟨by rfl, of_decide_eq_true rfl, of_decide_eq_true rfl, by rfl, fun k f hf => (by cases hf), by rw [hall]; exact hg⟩
  · rw [hes]; cases b
    · show ∀ x ∈ exEs false, x.f ≠ 3
      decide
    · show ∀ x ∈ exEs true, x.f ≠ 5
      decide
  · rw [hes]; cases b
    · show ∀ x ∈ exEs false, x.ag = true → x.f ≠ 0
      decide
    · show ∀ x ∈ exEs true, x.ag = true → x.f ≠ 0
      decide
  · rw [hes]
    have key : ((exEs b).zipIdx.all fun p => (exEs b).zipIdx.all fun q => !decide ((p.2 ≠ q.2 ∧ p.1.f = q.1.f ∧ ((p.1.a = q.1.a ∧ p.1.b = q.1.b ∧ p.1.l = q.1.l) ∨ p.1.a ≠ q.1.a ∨ p.1.ag = true)) ∨ (p.1.ag = true ∧ q.1.t = p.1.f ∧ (p.1.a ≠ q.1.a ∨ p.1.l ≠ q.1.l)))) = true := by
      cases b <;> decide
    intro i x hx k y hy hbad
    have h1 := List.all_eq_true.1 key (x, i) (List.mem_iff_getElem?.2 ⟨i, by rw [List.getElem?_zipIdx, hx]; simp⟩)
    have h2 := List.all_eq_true.1 h1 (y, k) (List.mem_iff_getElem?.2 ⟨k, by rw [List.getElem?_zipIdx, hy]; simp⟩)
    have h3 := of_decide_eq_false (Bool.not_eq_true' _ ▸ h2)
    exact h3 hbad
  · intro i t ht; exact absurd ht (by show ([] : List To)[i]? ≠ some t; simp)
  · intro v h0 h1
    rw [hes]
    cases b
    · have h1 : v < 4 := h1
      show Rch (exEs false) false 0 v
      have s0 : Rch (exEs false) false 0 0 := .refl
      have s1 : Rch (exEs false) false 0 1 := .step s0 ⟨⟨0, 0, 1, 0, 1, false⟩, by decide, rfl, rfl⟩
      have s2 : Rch (exEs false) false 0 2 := .step s0 ⟨⟨0, 0, 1, 1, 2, false⟩, by decide, rfl, rfl⟩
      have s3 : Rch (exEs false) false 0 3 := .step s1 ⟨⟨1, 2, 1, 2, 3, false⟩, by decide, rfl, rfl⟩
      have : v = 0 ∨ v = 1 ∨ v = 2 ∨ v = 3 := by omega
      rcases this with rfl | rfl | rfl | rfl <;> assumption
    · have h1 : v < 6 := h1
      show Rch (exEs true) false 0 v
      have s0 : Rch (exEs true) false 0 0 := .refl
      have s1 : Rch (exEs true) false 0 1 := .step s0 ⟨⟨0, 0, 1, 0, 1, false⟩, by decide, rfl, rfl⟩
      have s2 : Rch (exEs true) false 0 2 := .step s0 ⟨⟨0, 0, 1, 1, 2, false⟩, by decide, rfl, rfl⟩
      have s3 : Rch (exEs true) false 0 3 := .step s1 ⟨⟨1, 1, 2, 0, 3, false⟩, by decide, rfl, rfl⟩
      have s4 : Rch (exEs true) false 0 4 := .step s2 ⟨⟨2, 1, 2, 1, 4, false⟩, by decide, rfl, rfl⟩
      have s5 : Rch (exEs true) false 0 5 := .step s3 ⟨⟨3, 2, 1, 2, 5, false⟩, by decide, rfl, rfl⟩
      have : v = 0 ∨ v = 1 ∨ v = 2 ∨ v = 3 ∨ v = 4 ∨ v = 5 := by omega
      rcases this with rfl | rfl | rfl | rfl | rfl | rfl <;> assumption
  · intro v h0 h1
    rw [hes]
    cases b
    · have h1 : v < 4 := h1
      show Rch (exEs false) true 3 v
      have s3 : Rch (exEs false) true 3 3 := .refl
      have s1 : Rch (exEs false) true 3 1 := .step s3 ⟨⟨1, 2, 1, 2, 3, false⟩, by decide, rfl, rfl⟩
      have s2 : Rch (exEs false) true 3 2 := .step s3 ⟨⟨2, 2, 1, 3, 3, false⟩, by decide, rfl, rfl⟩
      have s0 : Rch (exEs false) true 3 0 := .step s1 ⟨⟨0, 0, 1, 0, 1, false⟩, by decide, rfl, rfl⟩
      have : v = 0 ∨ v = 1 ∨ v = 2 ∨ v = 3 := by omega
      rcases this with rfl | rfl | rfl | rfl <;> assumption
    · have h1 : v < 6 := h1
      show Rch (exEs true) true 5 v
      have s5 : Rch (exEs true) true 5 5 := .refl
      have s3 : Rch (exEs true) true 5 3 := .step s5 ⟨⟨3, 2, 1, 2, 5, false⟩, by decide, rfl, rfl⟩
      have s4 : Rch (exEs true) true 5 4 := .step s5 ⟨⟨4, 2, 1, 3, 5, false⟩, by decide, rfl, rfl⟩
      have s1 : Rch (exEs true) true 5 1 := .step s3 ⟨⟨1, 1, 2, 0, 3, false⟩, by decide, rfl, rfl⟩
      have s2 : Rch (exEs true) true 5 2 := .step s4 ⟨⟨2, 1, 2, 1, 4, false⟩, by decide, rfl, rfl⟩
      have s0 : Rch (exEs true) true 5 0 := .step s1 ⟨⟨0, 0, 1, 0, 1, false⟩, by decide, rfl, rfl⟩
      have : v = 0 ∨ v = 1 ∨ v = 2 ∨ v = 3 ∨ v = 4 ∨ v = 5 := by omega
      rcases this with rfl | rfl | rfl | rfl | rfl | rfl <;> assumption
end Go.VC
end

section
/- A bool that says p. For every program. -/
namespace Go.VC
open Go.Proofs Go.LexS
set_option maxRecDepth 100000
theorem Ext.rfl' {h : Heap} : Ext h h := ⟨Nat.le_refl _, fun _ _ => rfl⟩
/-- a bool that says p, and nothing that lay has turned -/
def RP (p : Prop) (h : Heap) (v : Value) (h' : Heap) : Prop := (∃ b : Bool, v = .bool b ∧ (b = true ↔ p)) ∧ Ext h h'
theorem RP.t {p : Prop} {h h' : Heap} (hp : p) (E : Ext h h') : RP p h (.bool true) h' := ⟨⟨true, rfl, iff_of_true rfl hp⟩, E⟩
theorem RP.f {p : Prop} {h h' : Heap} (hp : ¬ p) (E : Ext h h') : RP p h (.bool false) h' := ⟨⟨false, rfl, iff_of_false (by decide) hp⟩, E⟩
theorem RP.e {p : Prop} {h h' : Heap} {b : Bool} (hb : b = true ↔ p) (E : Ext h h') : RP p h (.bool b) h' := ⟨⟨b, rfl, hb⟩, E⟩
theorem iff_f {p : Prop} {b : Bool} (hp : b = true ↔ p) (c : b = false) : ¬ p := fun hq => by
  rw [hp.2 hq] at c; cases c
theorem smx {al : List Addr} {h h' : Heap} (E : Ext h h') : Sm al h h' := fun _ _ _ _ hv => hc_ext E hv
theorem Sm_but {al : List Addr} {h h' : Heap} {b : Nat} (hB : But b h h') (hn : ∀ a ∈ al, a.block ≠ b) : Sm al h h' := fun a ha k v hv => by
  rw [hc_of_block (hB.2 _ (by rw [addk_block']; exact hn a ha))]; exact hv
theorem hc_blk {h : Heap} {a : Addr} {v : Value} (hv : hc h a = some v) : a.block < h.size := by
  rcases Nat.lt_or_ge a.block h.size with h1 | h1
  · exact h1
  · unfold VC.hc at hv
    simp [Array.getElem?_eq_none h1] at hv
end Go.VC
end

section
namespace Go.VC
open Go.Proofs
set_option maxRecDepth 100000
set_option linter.unusedVariables false

end Go.VC
end

section
/- Contracts of the reference's small functions over machines. -/
namespace Go.VC
open Go.Proofs Go.LexS
set_option maxRecDepth 100000

theorem before26 (x y : Mv) (h : Heap) : Fn Tryz.prog 107 #[.agg ⟨x.cs⟩, .agg ⟨y.cs⟩] h fun v h' => v = .bool (decide (evLt x.ev y.ev)) ∧ Ext h h' := by
  apply vc107 x.f x.send x.peer x.label x.t x.ag y.f y.send y.peer y.label y.t y.ag; unfold W107
  have hs := St.refl h
  refine hs.newb fun h13 hs => ?_
  refine hs.newb fun h14 hs => ?_
  refine ⟨_, hs.rd 1 rfl rfl, _, hs.rd 0 rfl rfl, ?_⟩
  have hev : evLt x.ev y.ev ↔ (x.send = true ∧ y.send = false) ∨ (x.send = y.send ∧ (x.peer < y.peer ∨ (x.peer = y.peer ∧ x.label < y.label))) := Iff.rfl
  refine sB_intro (fun c1 => ?_) (fun c1 => ?_)
  · have c1 : x.send ≠ y.send := by simpa using c1
    refine ⟨_, hs.rd 1 rfl rfl, ?_, hs.ext⟩
    congr 1
    cases hx : x.send <;> cases hy : y.send <;> simp [hx, hy] at c1 hev ⊢ <;> simp [hev]
  · have c1 : x.send = y.send := by simpa using c1
    refine ⟨_, hs.rd 1 rfl rfl, _, hs.rd 0 rfl rfl, ?_⟩
    refine sBn (fun c2 => ?_) (fun c2 => ?_)
    · refine ⟨_, hs.rd 1 rfl rfl, _, hs.rd 0 rfl rfl, ?_, hs.ext⟩
      congr 1
      rw [decide_eq_decide, hev, c1]
      constructor
      · intro h; exact .inr ⟨rfl, .inl h⟩
      · rintro (⟨h1, h2⟩ | ⟨_, h | ⟨h, _⟩⟩)
        · rw [h1] at h2; cases h2
        · exact h
        · exact absurd h c2
    · refine ⟨_, hs.rd 1 rfl rfl, _, hs.rd 0 rfl rfl, ?_, hs.ext⟩
      congr 1
      rw [decide_eq_decide, hev, c1]
      constructor
      · intro h; exact .inr ⟨rfl, .inr ⟨c2, h⟩⟩
      · rintro (⟨h1, h2⟩ | ⟨_, h | ⟨_, h⟩⟩)
        · rw [h1] at h2; cases h2
        · omega
        · exact h
def limI (li : List To) (s : Int) : Option Nat := li.findIdx? fun t => decide (t.s = s)
theorem limit48 (m : Mch) (sf sm sl : Sl) (s : Int) (h : Heap) (hM : MI h m sf sm sl) :
    Fn Tryz.prog 57 #[.agg ⟨mC m sf sm sl⟩, .int .i64 s] h fun v h' => v = .int .i64 (match limI m.li s with | some i => (i : Int) | none => -1) ∧ Ext h h' := by
  apply vc57 m.role m.n m.s sf sm sl; unfold W57
  have hs := St.refl h
  have hn := hM.pl.ln
  have hb := hM.pl.sm
  refine hs.newb fun h7 hs => ?_
  refine up_loopS (n := m.li.length) hs (fun i => ∀ (j : Nat) (t : To), j < i → m.li[j]? = some t → t.s ≠ s) (fun j t hj => by omega) ?_
  rintro - i h12 hi ⟨hs, hq⟩
  refine ⟨sl, hs.rd 0 rfl rfl, ?_⟩
  refine sBi (fun c1 => ?_) (fun c1 => ?_)
  · refine ⟨sl, hs.rd 0 rfl rfl, ?_⟩
    refine (hM.pl.ext hs.ext).rw.nbI (by omega) (by omega) fun b15 o16 t g15 t15 => ?_
    replace g15 : m.li[i]? = some t := g15
    refine ⟨_, t15.hd, ?_⟩
    refine sBe (fun c2 => ?_) (fun c2 => ?_)
    · have : limI m.li s = some i := by
        unfold limI
        obtain ⟨h1, h2⟩ := List.getElem?_eq_some_iff.1 g15
        rw [List.findIdx?_eq_some_iff_getElem]
        refine ⟨h1, by rw [h2]; simpa using c2, fun j hj => ?_⟩
        have := hq j m.li[j] hj (List.getElem?_eq_getElem (by omega))
        simpa using this
      exact ⟨by rw [this], hs.ext⟩
    · refine Up.next (by omega) (by omega) ⟨hs, fun j t' hj ht' => ?_⟩
      by_cases e : j = i
      · subst e; rw [g15] at ht'; cases ht'; exact c2
      · exact hq j t' (by omega) ht'
  · have : limI m.li s = none := by
      unfold limI
      rw [List.findIdx?_eq_none_iff]
      intro t ht
      obtain ⟨j, hj⟩ := List.mem_iff_getElem?.1 ht
      have := hq j t (by have := (List.getElem?_eq_some_iff.1 hj).1; omega) hj
      simpa using this
    exact ⟨by rw [this], hs.ext⟩
theorem limI_lt {li : List To} {s : Int} {i : Nat} (h : limI li s = some i) : ∃ t, li[i]? = some t ∧ t.s = s := by
  unfold limI at h
  rw [List.findIdx?_eq_some_iff_getElem] at h
  obtain ⟨h1, h2, _⟩ := h
  exact ⟨_, List.getElem?_eq_getElem h1, by simpa using h2⟩
end Go.VC
end

section
namespace Go.VC
open Go.Proofs
set_option maxRecDepth 100000
set_option linter.unusedVariables false

/- farandole/farandoleref03.Has
 loop rlrb: i_4:Int -/
def W105 (p0 : Sl) (p1 : Int) (h : Heap) (R : Value → Heap → Prop) : Prop :=
 (∃ I1 : Int → Heap → Nat → Prop, (∃ m2, I1 0 h m2) ∧
 (∀ (_ : Env) (i_4 : Int) (h5 : Heap) (m3 : Nat), I1 i_4 h5 m3 →
 (sB (decide (i_4 < (p0.n : Int)))
 ((NB p0.a fun b6 o7 => ((0 ≤ (i_4 : Int) ∧ (i_4 : Int) < (p0.n : Nat)) ∧
 (∃ x8 : Int, hc h5 ⟨b6, o7 + Int.toNat i_4 * 1, none⟩ = some (.int .i64 x8) ∧
 (sB (x8 == p1)
 (R (.bool true) h5)
 ((∃ m9, m9 < m3 ∧ I1 (IntKind.wrap .i64 (i_4 + 1)) h5 m9)))))))
 (R (.bool false) h5))))
theorem vc105 (p0 : Sl) (p1 : Int) (h : Heap) (R : Value → Heap → Prop) (H : W105 p0 p1 h R) : Fn Tryz.prog 105 #[.slice p0.a p0.n p0.c, .int .i64 p1] h R := fnI (A := (.s .z (.s (.s .z (.b (.l [(5, .one (.int .i64))] .z))) .z))) (by kernel_rfl) H

/- farandole/farandoleref03.With
 loop rrrlrb: out_4:Sl, done_5:Bool, i_6:Int -/
def W106 (p0 : Sl) (p1 : Int) (h : Heap) (R : Value → Heap → Prop) : Prop :=
 (∃ I1 : Sl → Bool → Int → Heap → Nat → Prop, (∃ m2, I1 ⟨none, 0, 0⟩ false 0 h m2) ∧
 (∀ (_ : Env) (out_4 : Sl) (done_5 : Bool) (i_6 : Int) (h7 : Heap) (m3 : Nat), I1 out_4 done_5 i_6 h7 m3 →
 (sB (decide (i_6 < (p0.n : Int)))
 ((sB (!done_5)
 ((NB p0.a fun b8 o9 => ((0 ≤ (i_6 : Int) ∧ (i_6 : Int) < (p0.n : Nat)) ∧
 (∃ x10 : Int, hc h7 ⟨b8, o9 + Int.toNat i_6 * 1, none⟩ = some (.int .i64 x10) ∧
 (sB (decide (x10 ≥ p1))
 ((NB p0.a fun b11 o12 => ((0 ≤ (i_6 : Int) ∧ (i_6 : Int) < (p0.n : Nat)) ∧
 (∃ x13 : Int, hc h7 ⟨b11, o12 + Int.toNat i_6 * 1, none⟩ = some (.int .i64 x13) ∧
 (sB (decide (x13 > p1))
 ((∀ h14 : Heap, h14 = h7.push (.cells ⟨[.int .i64 p1]⟩ 3) →
 (App Tryz.prog 49 49 (.slice out_4.a out_4.n out_4.c) (.slice (some ⟨h7.size, 0, none⟩) 1 1) h14 fun s15 h16 =>
 (NB p0.a fun b17 o18 => ((0 ≤ (i_6 : Int) ∧ (i_6 : Int) < (p0.n : Nat)) ∧
 (∃ x19 : Int, hc h16 ⟨b17, o18 + Int.toNat i_6 * 1, none⟩ = some (.int .i64 x19) ∧
 (∀ h20 : Heap, h20 = h16.push (.cells ⟨[.int .i64 x19]⟩ 3) →
 (App Tryz.prog 49 49 (.slice s15.a s15.n s15.c) (.slice (some ⟨h16.size, 0, none⟩) 1 1) h20 fun s21 h22 =>
 (∃ m23, m23 < m3 ∧ I1 s21 true (IntKind.wrap .i64 (i_6 + 1)) h22 m23)))))))))
 ((NB p0.a fun b24 o25 => ((0 ≤ (i_6 : Int) ∧ (i_6 : Int) < (p0.n : Nat)) ∧
 (∃ x26 : Int, hc h7 ⟨b24, o25 + Int.toNat i_6 * 1, none⟩ = some (.int .i64 x26) ∧
 (∀ h27 : Heap, h27 = h7.push (.cells ⟨[.int .i64 x26]⟩ 3) →
 (App Tryz.prog 49 49 (.slice out_4.a out_4.n out_4.c) (.slice (some ⟨h7.size, 0, none⟩) 1 1) h27 fun s28 h29 =>
 (∃ m30, m30 < m3 ∧ I1 s28 true (IntKind.wrap .i64 (i_6 + 1)) h29 m30))))))))))))
 ((NB p0.a fun b31 o32 => ((0 ≤ (i_6 : Int) ∧ (i_6 : Int) < (p0.n : Nat)) ∧
 (∃ x33 : Int, hc h7 ⟨b31, o32 + Int.toNat i_6 * 1, none⟩ = some (.int .i64 x33) ∧
 (∀ h34 : Heap, h34 = h7.push (.cells ⟨[.int .i64 x33]⟩ 3) →
 (App Tryz.prog 49 49 (.slice out_4.a out_4.n out_4.c) (.slice (some ⟨h7.size, 0, none⟩) 1 1) h34 fun s35 h36 =>
 (∃ m37, m37 < m3 ∧ I1 s35 done_5 (IntKind.wrap .i64 (i_6 + 1)) h36 m37))))))))))))
 ((NB p0.a fun b38 o39 => ((0 ≤ (i_6 : Int) ∧ (i_6 : Int) < (p0.n : Nat)) ∧
 (∃ x40 : Int, hc h7 ⟨b38, o39 + Int.toNat i_6 * 1, none⟩ = some (.int .i64 x40) ∧
 (∀ h41 : Heap, h41 = h7.push (.cells ⟨[.int .i64 x40]⟩ 3) →
 (App Tryz.prog 49 49 (.slice out_4.a out_4.n out_4.c) (.slice (some ⟨h7.size, 0, none⟩) 1 1) h41 fun s42 h43 =>
 (∃ m44, m44 < m3 ∧ I1 s42 done_5 (IntKind.wrap .i64 (i_6 + 1)) h43 m44)))))))))
 ((sB (!done_5)
 ((∀ h45 : Heap, h45 = h7.push (.cells ⟨[.int .i64 p1]⟩ 3) →
 (App Tryz.prog 49 49 (.slice out_4.a out_4.n out_4.c) (.slice (some ⟨h7.size, 0, none⟩) 1 1) h45 fun s46 h47 =>
 R (.slice s46.a s46.n s46.c) h47)))
 (R (.slice out_4.a out_4.n out_4.c) h7))))))
theorem vc106 (p0 : Sl) (p1 : Int) (h : Heap) (R : Value → Heap → Prop) (H : W106 p0 p1 h R) : Fn Tryz.prog 106 #[.slice p0.a p0.n p0.c, .int .i64 p1] h R := fnI (A := (.s .z (.s .z (.s .z (.s (.s .z (.b (.l [(5, .one (.slice)), (6, .one (.bool)), (7, .one (.int .i64))] .z))) .z))))) (by kernel_rfl) H

def W5 (p0_1 p0_2 p0_3 : Int) (p0_4 p0_5 p0_6 : Sl) (p1_7 : Int) (p1_8 : Bool) (p1_9 p1_10 : Int) (h : Heap) (R : Value → Heap → Prop) : Prop :=
 (∀ h11 : Heap, h11 = h.push (.cells ⟨[.int .i64 p0_1, .int .i64 p0_2, .int .i64 p0_3, .slice p0_4.a p0_4.n p0_4.c, .slice p0_5.a p0_5.n p0_5.c, .slice p0_6.a p0_6.n p0_6.c]⟩ 26) →
 (∀ h12 : Heap, h12 = h11.push (.cells ⟨[.int .i64 p1_7, .bool p1_8, .int .i64 p1_9, .int .i64 p1_10]⟩ 42) →
 (Fn Tryz.prog 12 #[] h12
 (fun v13 h15 => ∃ x14 : Bool, v13 = .bool x14 ∧
 (sB (!x14)
 (R (.bool false) h15)
 ((∃ (x16 x17 x18 : Int) (x19 x20 x21 : Sl), atC h15 ⟨h.size, 0, none⟩ [.int .i64 x16, .int .i64 x17, .int .i64 x18, .slice x19.a x19.n x19.c, .slice x20.a x20.n x20.c, .slice x21.a x21.n x21.c] ∧
 (Fn Tryz.prog 13 #[.agg ⟨[.int .i64 x16, .int .i64 x17, .int .i64 x18, .slice x19.a x19.n x19.c, .slice x20.a x20.n x20.c, .slice x21.a x21.n x21.c]⟩] h15
 (fun v22 h24 => ∃ x23 : Bool, v22 = .bool x23 ∧
 (sB (!x23)
 (R (.bool true) h24)
 ((∃ (x25 x26 x27 : Int) (x28 x29 x30 : Sl), atC h24 ⟨h.size, 0, none⟩ [.int .i64 x25, .int .i64 x26, .int .i64 x27, .slice x28.a x28.n x28.c, .slice x29.a x29.n x29.c, .slice x30.a x30.n x30.c] ∧
 (∃ x31 : Int, hc h24 ⟨h11.size, 0, none⟩ = some (.int .i64 x31) ∧
 (∃ x32 : Bool, hc h24 ⟨h11.size, 1, none⟩ = some (.bool x32) ∧
 (∃ x33 : Int, hc h24 ⟨h11.size, 2, none⟩ = some (.int .i64 x33) ∧
 (∃ x34 : Int, hc h24 ⟨h11.size, 3, none⟩ = some (.int .i64 x34) ∧
 (Fn Tryz.prog 19 #[.agg ⟨[.int .i64 x25, .int .i64 x26, .int .i64 x27, .slice x28.a x28.n x28.c, .slice x29.a x29.n x29.c, .slice x30.a x30.n x30.c]⟩, .int .i64 x31, .bool x32, .int .i64 x33, .int .i64 x34] h24
 (fun v35 h38 => ∃ (x36 : Int) (x37 : Bool), v35 = .tuple ⟨[.int .i64 x36, .bool x37]⟩ ∧
 (∃ (x39 x40 x41 : Int) (x42 x43 x44 : Sl), atC h38 ⟨h.size, 0, none⟩ [.int .i64 x39, .int .i64 x40, .int .i64 x41, .slice x42.a x42.n x42.c, .slice x43.a x43.n x43.c, .slice x44.a x44.n x44.c] ∧
 (∃ x45 : Int, hc h38 ⟨h11.size, 0, none⟩ = some (.int .i64 x45) ∧
 (∃ x46 : Bool, hc h38 ⟨h11.size, 1, none⟩ = some (.bool x46) ∧
 (∃ x47 : Int, hc h38 ⟨h11.size, 2, none⟩ = some (.int .i64 x47) ∧
 (∃ x48 : Int, hc h38 ⟨h11.size, 3, none⟩ = some (.int .i64 x48) ∧
 (Fn Tryz.prog 20 #[.agg ⟨[.int .i64 x39, .int .i64 x40, .int .i64 x41, .slice x42.a x42.n x42.c, .slice x43.a x43.n x43.c, .slice x44.a x44.n x44.c]⟩, .int .i64 x45, .bool x46, .int .i64 x47, .int .i64 x48] h38
 (fun v49 h52 => ∃ (x50 : Int) (x51 : Bool), v49 = .tuple ⟨[.int .i64 x50, .bool x51]⟩ ∧
 (∃ (x53 x54 x55 : Int) (x56 x57 x58 : Sl), atC h52 ⟨h.size, 0, none⟩ [.int .i64 x53, .int .i64 x54, .int .i64 x55, .slice x56.a x56.n x56.c, .slice x57.a x57.n x57.c, .slice x58.a x58.n x58.c] ∧
 (∃ x59 : Int, hc h52 ⟨h11.size, 0, none⟩ = some (.int .i64 x59) ∧
 (Fn Tryz.prog 21 #[.agg ⟨[.int .i64 x53, .int .i64 x54, .int .i64 x55, .slice x56.a x56.n x56.c, .slice x57.a x57.n x57.c, .slice x58.a x58.n x58.c]⟩, .int .i64 x59] h52
 (fun v60 h65 => ∃ (x61 x62 x63 : Int) (x64 : Bool), v60 = .tuple ⟨[.agg ⟨[.int .i64 x61, .int .i64 x62, .int .i64 x63]⟩, .bool x64]⟩ ∧
 (∀ h66 : Heap, h66 = h65.push (.cells ⟨[.int .i64 0, .int .i64 0, .int .i64 0]⟩ 44) →
 (okAt h66 ⟨h65.size, 0, none⟩ 3 ∧ ∀ h67 : Heap, h67 = hputs h66 ⟨h65.size, 0, none⟩ 0 [.int .i64 x61, .int .i64 x62, .int .i64 x63] →
 (∃ (x68 x69 x70 : Int) (x71 x72 x73 : Sl), atC h67 ⟨h.size, 0, none⟩ [.int .i64 x68, .int .i64 x69, .int .i64 x70, .slice x71.a x71.n x71.c, .slice x72.a x72.n x72.c, .slice x73.a x73.n x73.c] ∧
 (∃ x74 : Int, hc h67 ⟨h11.size, 0, none⟩ = some (.int .i64 x74) ∧
 (Fn Tryz.prog 22 #[.agg ⟨[.int .i64 x68, .int .i64 x69, .int .i64 x70, .slice x71.a x71.n x71.c, .slice x72.a x72.n x72.c, .slice x73.a x73.n x73.c]⟩, .int .i64 x74] h67
 (fun v75 h80 => ∃ (x76 x77 x78 : Int) (x79 : Bool), v75 = .tuple ⟨[.agg ⟨[.int .i64 x76, .int .i64 x77, .int .i64 x78]⟩, .bool x79]⟩ ∧
 (∀ h81 : Heap, h81 = h80.push (.cells ⟨[.int .i64 0, .int .i64 0, .int .i64 0]⟩ 44) →
 (okAt h81 ⟨h80.size, 0, none⟩ 3 ∧ ∀ h82 : Heap, h82 = hputs h81 ⟨h80.size, 0, none⟩ 0 [.int .i64 x76, .int .i64 x77, .int .i64 x78] →
 (∃ (x83 x84 x85 : Int) (x86 x87 x88 : Sl), atC h82 ⟨h.size, 0, none⟩ [.int .i64 x83, .int .i64 x84, .int .i64 x85, .slice x86.a x86.n x86.c, .slice x87.a x87.n x87.c, .slice x88.a x88.n x88.c] ∧
 (∃ (x89 x90 x91 : Int) (x92 x93 x94 : Sl), atC h82 ⟨h.size, 0, none⟩ [.int .i64 x89, .int .i64 x90, .int .i64 x91, .slice x92.a x92.n x92.c, .slice x93.a x93.n x93.c, .slice x94.a x94.n x94.c] ∧
 (Fn Tryz.prog 23 #[.agg ⟨[.int .i64 x83, .int .i64 x84, .int .i64 x85, .slice x86.a x86.n x86.c, .slice x87.a x87.n x87.c, .slice x88.a x88.n x88.c]⟩] h82
 (fun v95 h97 => ∃ x96 : Bool, v95 = .bool x96 ∧
 (Sm [⟨h.size, 0, none⟩] h82 h97 ∧
 (Fn Tryz.prog 24 #[.agg ⟨[.int .i64 x89, .int .i64 x90, .int .i64 x91, .slice x92.a x92.n x92.c, .slice x93.a x93.n x93.c, .slice x94.a x94.n x94.c]⟩] h97
 (fun v98 h100 => ∃ x99 : Bool, v98 = .bool x99 ∧
 (Sm [⟨h.size, 0, none⟩] h97 h100 ∧
 (sB (x96 == x99)
 ((sB (x36 == x50)
 ((sB (x37 == x51)
 ((∃ (x101 x102 x103 : Int), atC h100 ⟨h65.size, 0, none⟩ [.int .i64 x101, .int .i64 x102, .int .i64 x103] ∧
 (∃ (x104 x105 x106 : Int), atC h100 ⟨h80.size, 0, none⟩ [.int .i64 x104, .int .i64 x105, .int .i64 x106] ∧
 (sB ((x101 == x104) && ((x102 == x105) && ((x103 == x106) && true)))
 ((sB (x64 == x79)
 ((∃ (x107 x108 x109 : Int) (x110 x111 x112 : Sl), atC h100 ⟨h.size, 0, none⟩ [.int .i64 x107, .int .i64 x108, .int .i64 x109, .slice x110.a x110.n x110.c, .slice x111.a x111.n x111.c, .slice x112.a x112.n x112.c] ∧
 (∃ x113 : Int, hc h100 ⟨h11.size, 0, none⟩ = some (.int .i64 x113) ∧
 (∃ (x114 x115 x116 : Int) (x117 x118 x119 : Sl), atC h100 ⟨h.size, 0, none⟩ [.int .i64 x114, .int .i64 x115, .int .i64 x116, .slice x117.a x117.n x117.c, .slice x118.a x118.n x118.c, .slice x119.a x119.n x119.c] ∧
 (∃ x120 : Int, hc h100 ⟨h11.size, 0, none⟩ = some (.int .i64 x120) ∧
 (Fn Tryz.prog 25 #[.agg ⟨[.int .i64 x107, .int .i64 x108, .int .i64 x109, .slice x110.a x110.n x110.c, .slice x111.a x111.n x111.c, .slice x112.a x112.n x112.c]⟩, .int .i64 x113] h100
 (fun v121 h123 => ∃ x122 : Bool, v121 = .bool x122 ∧
 (Sm [⟨h11.size, 0, none⟩, ⟨h.size, 0, none⟩, ⟨h80.size, 0, none⟩, ⟨h65.size, 0, none⟩, ⟨h.size, 0, none⟩, ⟨h.size, 0, none⟩] h100 h123 ∧
 (Fn Tryz.prog 26 #[.agg ⟨[.int .i64 x114, .int .i64 x115, .int .i64 x116, .slice x117.a x117.n x117.c, .slice x118.a x118.n x118.c, .slice x119.a x119.n x119.c]⟩, .int .i64 x120] h123
 (fun v124 h126 => ∃ x125 : Bool, v124 = .bool x125 ∧
 (Sm [⟨h11.size, 0, none⟩, ⟨h.size, 0, none⟩, ⟨h80.size, 0, none⟩, ⟨h65.size, 0, none⟩, ⟨h.size, 0, none⟩, ⟨h.size, 0, none⟩] h123 h126 ∧
 (sB (x122 == x125)
 ((∃ (x127 x128 x129 : Int) (x130 x131 x132 : Sl), atC h126 ⟨h.size, 0, none⟩ [.int .i64 x127, .int .i64 x128, .int .i64 x129, .slice x130.a x130.n x130.c, .slice x131.a x131.n x131.c, .slice x132.a x132.n x132.c] ∧
 (∃ x133 : Int, hc h126 ⟨h11.size, 0, none⟩ = some (.int .i64 x133) ∧
 (∃ (x134 x135 x136 : Int) (x137 x138 x139 : Sl), atC h126 ⟨h.size, 0, none⟩ [.int .i64 x134, .int .i64 x135, .int .i64 x136, .slice x137.a x137.n x137.c, .slice x138.a x138.n x138.c, .slice x139.a x139.n x139.c] ∧
 (∃ x140 : Int, hc h126 ⟨h11.size, 0, none⟩ = some (.int .i64 x140) ∧
 (Fn Tryz.prog 28 #[.agg ⟨[.int .i64 x127, .int .i64 x128, .int .i64 x129, .slice x130.a x130.n x130.c, .slice x131.a x131.n x131.c, .slice x132.a x132.n x132.c]⟩, .int .i64 x133] h126
 (fun v141 h143 => ∃ x142 : Sl, v141 = .slice x142.a x142.n x142.c ∧
 (Sm [⟨h11.size, 0, none⟩, ⟨h.size, 0, none⟩, ⟨h11.size, 0, none⟩, ⟨h.size, 0, none⟩, ⟨h11.size, 0, none⟩, ⟨h.size, 0, none⟩, ⟨h80.size, 0, none⟩, ⟨h65.size, 0, none⟩, ⟨h.size, 0, none⟩, ⟨h.size, 0, none⟩] h126 h143 ∧
 (Fn Tryz.prog 29 #[.agg ⟨[.int .i64 x134, .int .i64 x135, .int .i64 x136, .slice x137.a x137.n x137.c, .slice x138.a x138.n x138.c, .slice x139.a x139.n x139.c]⟩, .int .i64 x140] h143
 (fun v144 h146 => ∃ x145 : Sl, v144 = .slice x145.a x145.n x145.c ∧
 (Sm [⟨h11.size, 0, none⟩, ⟨h.size, 0, none⟩, ⟨h11.size, 0, none⟩, ⟨h.size, 0, none⟩, ⟨h11.size, 0, none⟩, ⟨h.size, 0, none⟩, ⟨h80.size, 0, none⟩, ⟨h65.size, 0, none⟩, ⟨h.size, 0, none⟩, ⟨h.size, 0, none⟩] h143 h146 ∧
 (Fn Tryz.prog 27 #[.slice x142.a x142.n x142.c, .slice x145.a x145.n x145.c] h146
 (fun v147 h149 => ∃ x148 : Bool, v147 = .bool x148 ∧
 (Sm [⟨h11.size, 0, none⟩, ⟨h.size, 0, none⟩, ⟨h11.size, 0, none⟩, ⟨h.size, 0, none⟩, ⟨h80.size, 0, none⟩, ⟨h65.size, 0, none⟩, ⟨h.size, 0, none⟩, ⟨h.size, 0, none⟩] h146 h149 ∧
 R (.bool x148) h149))))))))))))))
 (R (.bool false) h126)))))))))))))
 (R (.bool false) h100)))
 (R (.bool false) h100)))))
 (R (.bool false) h100)))
 (R (.bool false) h100)))
 (R (.bool false) h100)))))))))))))))))))))))))))))))))))))))))))))))
theorem vc5 (p0_1 p0_2 p0_3 : Int) (p0_4 p0_5 p0_6 : Sl) (p1_7 : Int) (p1_8 : Bool) (p1_9 p1_10 : Int) (h : Heap) (R : Value → Heap → Prop) (H : W5 p0_1 p0_2 p0_3 p0_4 p0_5 p0_6 p1_7 p1_8 p1_9 p1_10 h R) : Fn Tryz.prog 5 #[.agg ⟨[.int .i64 p0_1, .int .i64 p0_2, .int .i64 p0_3, .slice p0_4.a p0_4.n p0_4.c, .slice p0_5.a p0_5.n p0_5.c, .slice p0_6.a p0_6.n p0_6.c]⟩, .agg ⟨[.int .i64 p1_7, .bool p1_8, .int .i64 p1_9, .int .i64 p1_10]⟩] h R := fnI (A := .z) (by kernel_rfl) H

def W53 (p0_1 p0_2 p0_3 : Int) (p0_4 p0_5 p0_6 : Sl) (p1 : Int) (h : Heap) (R : Value → Heap → Prop) : Prop :=
 (∀ h7 : Heap, h7 = h.push (.cells ⟨[.int .i64 p0_1, .int .i64 p0_2, .int .i64 p0_3, .slice p0_4.a p0_4.n p0_4.c, .slice p0_5.a p0_5.n p0_5.c, .slice p0_6.a p0_6.n p0_6.c]⟩ 26) →
 (∃ (x8 x9 x10 : Int) (x11 x12 x13 : Sl), atC h7 ⟨h.size, 0, none⟩ [.int .i64 x8, .int .i64 x9, .int .i64 x10, .slice x11.a x11.n x11.c, .slice x12.a x12.n x12.c, .slice x13.a x13.n x13.c] ∧
 (Fn Tryz.prog 24 #[.agg ⟨[.int .i64 x8, .int .i64 x9, .int .i64 x10, .slice x11.a x11.n x11.c, .slice x12.a x12.n x12.c, .slice x13.a x13.n x13.c]⟩] h7
 (fun v14 h16 => ∃ x15 : Bool, v14 = .bool x15 ∧
 (sB x15
 ((sB (decide (p1 ≥ 0))
 ((∃ x17 : Int, hc h16 ⟨h.size, 1, none⟩ = some (.int .i64 x17) ∧
 R (.bool (decide (p1 < x17))) h16))
 (R (.bool false) h16)))
 (R (.bool false) h16))))))
theorem vc53 (p0_1 p0_2 p0_3 : Int) (p0_4 p0_5 p0_6 : Sl) (p1 : Int) (h : Heap) (R : Value → Heap → Prop) (H : W53 p0_1 p0_2 p0_3 p0_4 p0_5 p0_6 p1 h R) : Fn Tryz.prog 53 #[.agg ⟨[.int .i64 p0_1, .int .i64 p0_2, .int .i64 p0_3, .slice p0_4.a p0_4.n p0_4.c, .slice p0_5.a p0_5.n p0_5.c, .slice p0_6.a p0_6.n p0_6.c]⟩, .int .i64 p1] h R := fnI (A := .z) (by kernel_rfl) H

def W20 (p0_1 p0_2 p0_3 : Int) (p0_4 p0_5 p0_6 : Sl) (p1 : Int) (p2 : Bool) (p3 p4 : Int) (h : Heap) (R : Value → Heap → Prop) : Prop :=
 (∀ h7 : Heap, h7 = h.push (.cells ⟨[.int .i64 p0_1, .int .i64 p0_2, .int .i64 p0_3, .slice p0_4.a p0_4.n p0_4.c, .slice p0_5.a p0_5.n p0_5.c, .slice p0_6.a p0_6.n p0_6.c]⟩ 26) →
 (∃ (x8 x9 x10 : Int) (x11 x12 x13 : Sl), atC h7 ⟨h.size, 0, none⟩ [.int .i64 x8, .int .i64 x9, .int .i64 x10, .slice x11.a x11.n x11.c, .slice x12.a x12.n x12.c, .slice x13.a x13.n x13.c] ∧
 (Fn Tryz.prog 53 #[.agg ⟨[.int .i64 x8, .int .i64 x9, .int .i64 x10, .slice x11.a x11.n x11.c, .slice x12.a x12.n x12.c, .slice x13.a x13.n x13.c]⟩, .int .i64 p1] h7
 (fun v14 h16 => ∃ x15 : Bool, v14 = .bool x15 ∧
 (sB (!x15)
 (R (.tuple ⟨[.int .i64 0, .bool false]⟩) h16)
 ((∃ (x17 x18 x19 : Int) (x20 x21 x22 : Sl), atC h16 ⟨h.size, 0, none⟩ [.int .i64 x17, .int .i64 x18, .int .i64 x19, .slice x20.a x20.n x20.c, .slice x21.a x21.n x21.c, .slice x22.a x22.n x22.c] ∧
 (∃ x23 : Int, hc h16 ⟨h.size, 0, none⟩ = some (.int .i64 x23) ∧
 (Fn Tryz.prog 54 #[.agg ⟨[.int .i64 x17, .int .i64 x18, .int .i64 x19, .slice x20.a x20.n x20.c, .slice x21.a x21.n x21.c, .slice x22.a x22.n x22.c]⟩, .int .i64 p1, .agg ⟨[.int .i64 x23, .bool p2, .int .i64 p3, .int .i64 p4, .slice none 0 0]⟩] h16
 (fun v24 h26 => ∃ x25 : Int, v24 = .int .i64 x25 ∧
 (sB (decide (x25 ≥ 0))
 (R (.tuple ⟨[.int .i64 x25, .bool true]⟩) h26)
 (R (.tuple ⟨[.int .i64 0, .bool false]⟩) h26))))))))))))
theorem vc20 (p0_1 p0_2 p0_3 : Int) (p0_4 p0_5 p0_6 : Sl) (p1 : Int) (p2 : Bool) (p3 p4 : Int) (h : Heap) (R : Value → Heap → Prop) (H : W20 p0_1 p0_2 p0_3 p0_4 p0_5 p0_6 p1 p2 p3 p4 h R) : Fn Tryz.prog 20 #[.agg ⟨[.int .i64 p0_1, .int .i64 p0_2, .int .i64 p0_3, .slice p0_4.a p0_4.n p0_4.c, .slice p0_5.a p0_5.n p0_5.c, .slice p0_6.a p0_6.n p0_6.c]⟩, .int .i64 p1, .bool p2, .int .i64 p3, .int .i64 p4] h R := fnI (A := .z) (by kernel_rfl) H

def W22 (p0_1 p0_2 p0_3 : Int) (p0_4 p0_5 p0_6 : Sl) (p1 : Int) (h : Heap) (R : Value → Heap → Prop) : Prop :=
 (∀ h7 : Heap, h7 = h.push (.cells ⟨[.int .i64 p0_1, .int .i64 p0_2, .int .i64 p0_3, .slice p0_4.a p0_4.n p0_4.c, .slice p0_5.a p0_5.n p0_5.c, .slice p0_6.a p0_6.n p0_6.c]⟩ 26) →
 (∀ h8 : Heap, h8 = h7.push (.cells ⟨[.int .i64 0, .int .i64 0, .int .i64 0]⟩ 44) →
 (∃ (x9 x10 x11 : Int) (x12 x13 x14 : Sl), atC h8 ⟨h.size, 0, none⟩ [.int .i64 x9, .int .i64 x10, .int .i64 x11, .slice x12.a x12.n x12.c, .slice x13.a x13.n x13.c, .slice x14.a x14.n x14.c] ∧
 (Fn Tryz.prog 53 #[.agg ⟨[.int .i64 x9, .int .i64 x10, .int .i64 x11, .slice x12.a x12.n x12.c, .slice x13.a x13.n x13.c, .slice x14.a x14.n x14.c]⟩, .int .i64 p1] h8
 (fun v15 h17 => ∃ x16 : Bool, v15 = .bool x16 ∧
 (sB (!x16)
 ((okAt h17 ⟨h7.size, 0, none⟩ 3 ∧ ∀ h18 : Heap, h18 = hputs h17 ⟨h7.size, 0, none⟩ 0 [.int .i64 0, .int .i64 0, .int .i64 0] →
 (∃ (x19 x20 x21 : Int), atC h18 ⟨h7.size, 0, none⟩ [.int .i64 x19, .int .i64 x20, .int .i64 x21] ∧
 R (.tuple ⟨[.agg ⟨[.int .i64 x19, .int .i64 x20, .int .i64 x21]⟩, .bool false]⟩) h18)))
 ((∃ (x22 x23 x24 : Int) (x25 x26 x27 : Sl), atC h17 ⟨h.size, 0, none⟩ [.int .i64 x22, .int .i64 x23, .int .i64 x24, .slice x25.a x25.n x25.c, .slice x26.a x26.n x26.c, .slice x27.a x27.n x27.c] ∧
 (Fn Tryz.prog 57 #[.agg ⟨[.int .i64 x22, .int .i64 x23, .int .i64 x24, .slice x25.a x25.n x25.c, .slice x26.a x26.n x26.c, .slice x27.a x27.n x27.c]⟩, .int .i64 p1] h17
 (fun v28 h30 => ∃ x29 : Int, v28 = .int .i64 x29 ∧
 (sB (decide (x29 ≥ 0))
 ((∃ x31 : Sl, hc h30 ⟨h.size, 5, none⟩ = some (.slice x31.a x31.n x31.c) ∧
 (NB x31.a fun b32 o33 => ((0 ≤ (x29 : Int) ∧ (x29 : Int) < (x31.n : Nat)) ∧
 (∃ (x34 x35 x36 : Int), atC h30 ⟨b32, o33 + Int.toNat x29 * 3, none⟩ [.int .i64 x34, .int .i64 x35, .int .i64 x36] ∧
 (okAt h30 ⟨h7.size, 0, none⟩ 3 ∧ ∀ h37 : Heap, h37 = hputs h30 ⟨h7.size, 0, none⟩ 0 [.int .i64 x34, .int .i64 x35, .int .i64 x36] →
 (∃ (x38 x39 x40 : Int), atC h37 ⟨h7.size, 0, none⟩ [.int .i64 x38, .int .i64 x39, .int .i64 x40] ∧
 R (.tuple ⟨[.agg ⟨[.int .i64 x38, .int .i64 x39, .int .i64 x40]⟩, .bool true]⟩) h37)))))))
 ((okAt h30 ⟨h7.size, 0, none⟩ 3 ∧ ∀ h41 : Heap, h41 = hputs h30 ⟨h7.size, 0, none⟩ 0 [.int .i64 0, .int .i64 0, .int .i64 0] →
 (∃ (x42 x43 x44 : Int), atC h41 ⟨h7.size, 0, none⟩ [.int .i64 x42, .int .i64 x43, .int .i64 x44] ∧
 R (.tuple ⟨[.agg ⟨[.int .i64 x42, .int .i64 x43, .int .i64 x44]⟩, .bool false]⟩) h41))))))))))))))
theorem vc22 (p0_1 p0_2 p0_3 : Int) (p0_4 p0_5 p0_6 : Sl) (p1 : Int) (h : Heap) (R : Value → Heap → Prop) (H : W22 p0_1 p0_2 p0_3 p0_4 p0_5 p0_6 p1 h R) : Fn Tryz.prog 22 #[.agg ⟨[.int .i64 p0_1, .int .i64 p0_2, .int .i64 p0_3, .slice p0_4.a p0_4.n p0_4.c, .slice p0_5.a p0_5.n p0_5.c, .slice p0_6.a p0_6.n p0_6.c]⟩, .int .i64 p1] h R := fnI (A := .z) (by kernel_rfl) H

def W26 (p0_1 p0_2 p0_3 : Int) (p0_4 p0_5 p0_6 : Sl) (p1 : Int) (h : Heap) (R : Value → Heap → Prop) : Prop :=
 (∀ h7 : Heap, h7 = h.push (.cells ⟨[.int .i64 p0_1, .int .i64 p0_2, .int .i64 p0_3, .slice p0_4.a p0_4.n p0_4.c, .slice p0_5.a p0_5.n p0_5.c, .slice p0_6.a p0_6.n p0_6.c]⟩ 26) →
 (∃ (x8 x9 x10 : Int) (x11 x12 x13 : Sl), atC h7 ⟨h.size, 0, none⟩ [.int .i64 x8, .int .i64 x9, .int .i64 x10, .slice x11.a x11.n x11.c, .slice x12.a x12.n x12.c, .slice x13.a x13.n x13.c] ∧
 (Fn Tryz.prog 29 #[.agg ⟨[.int .i64 x8, .int .i64 x9, .int .i64 x10, .slice x11.a x11.n x11.c, .slice x12.a x12.n x12.c, .slice x13.a x13.n x13.c]⟩, .int .i64 p1] h7
 (fun v14 h16 => ∃ x15 : Sl, v14 = .slice x15.a x15.n x15.c ∧
 (sB (decide ((x15.n : Int) > 0))
 ((∃ x17 : Sl, hc h16 ⟨h.size, 4, none⟩ = some (.slice x17.a x17.n x17.c) ∧
 (NB x15.a fun b18 o19 => ((0 ≤ (0 : Int) ∧ (0 : Int) < (x15.n : Nat)) ∧
 (∃ x20 : Int, hc h16 ⟨b18, o19 + Int.toNat 0 * 1, none⟩ = some (.int .i64 x20) ∧
 (NB x17.a fun b21 o22 => ((0 ≤ (x20 : Int) ∧ (x20 : Int) < (x17.n : Nat)) ∧
 (∃ x23 : Bool, hc h16 ⟨b21, o22 + Int.toNat x20 * 6 + 1, none⟩ = some (.bool x23) ∧
 R (.bool x23) h16))))))))
 (R (.bool false) h16))))))
theorem vc26 (p0_1 p0_2 p0_3 : Int) (p0_4 p0_5 p0_6 : Sl) (p1 : Int) (h : Heap) (R : Value → Heap → Prop) (H : W26 p0_1 p0_2 p0_3 p0_4 p0_5 p0_6 p1 h R) : Fn Tryz.prog 26 #[.agg ⟨[.int .i64 p0_1, .int .i64 p0_2, .int .i64 p0_3, .slice p0_4.a p0_4.n p0_4.c, .slice p0_5.a p0_5.n p0_5.c, .slice p0_6.a p0_6.n p0_6.c]⟩, .int .i64 p1] h R := fnI (A := .z) (by kernel_rfl) H

def W29 (p0_1 p0_2 p0_3 : Int) (p0_4 p0_5 p0_6 : Sl) (p1 : Int) (h : Heap) (R : Value → Heap → Prop) : Prop :=
 (∀ h7 : Heap, h7 = h.push (.cells ⟨[.int .i64 p0_1, .int .i64 p0_2, .int .i64 p0_3, .slice p0_4.a p0_4.n p0_4.c, .slice p0_5.a p0_5.n p0_5.c, .slice p0_6.a p0_6.n p0_6.c]⟩ 26) →
 (∃ (x8 x9 x10 : Int) (x11 x12 x13 : Sl), atC h7 ⟨h.size, 0, none⟩ [.int .i64 x8, .int .i64 x9, .int .i64 x10, .slice x11.a x11.n x11.c, .slice x12.a x12.n x12.c, .slice x13.a x13.n x13.c] ∧
 (Fn Tryz.prog 53 #[.agg ⟨[.int .i64 x8, .int .i64 x9, .int .i64 x10, .slice x11.a x11.n x11.c, .slice x12.a x12.n x12.c, .slice x13.a x13.n x13.c]⟩, .int .i64 p1] h7
 (fun v14 h16 => ∃ x15 : Bool, v14 = .bool x15 ∧
 (sB (!x15)
 (R (.slice none 0 0) h16)
 ((∃ (x17 x18 x19 : Int) (x20 x21 x22 : Sl), atC h16 ⟨h.size, 0, none⟩ [.int .i64 x17, .int .i64 x18, .int .i64 x19, .slice x20.a x20.n x20.c, .slice x21.a x21.n x21.c, .slice x22.a x22.n x22.c] ∧
 (Fn Tryz.prog 62 #[.agg ⟨[.int .i64 x17, .int .i64 x18, .int .i64 x19, .slice x20.a x20.n x20.c, .slice x21.a x21.n x21.c, .slice x22.a x22.n x22.c]⟩, .int .i64 p1] h16
 (fun v23 h25 => ∃ x24 : Sl, v23 = .slice x24.a x24.n x24.c ∧
 R (.slice x24.a x24.n x24.c) h25)))))))))
theorem vc29 (p0_1 p0_2 p0_3 : Int) (p0_4 p0_5 p0_6 : Sl) (p1 : Int) (h : Heap) (R : Value → Heap → Prop) (H : W29 p0_1 p0_2 p0_3 p0_4 p0_5 p0_6 p1 h R) : Fn Tryz.prog 29 #[.agg ⟨[.int .i64 p0_1, .int .i64 p0_2, .int .i64 p0_3, .slice p0_4.a p0_4.n p0_4.c, .slice p0_5.a p0_5.n p0_5.c, .slice p0_6.a p0_6.n p0_6.c]⟩, .int .i64 p1] h R := fnI (A := .z) (by kernel_rfl) H

/- farandole/farandolelaw26.sameInts
 loop rrlrb: x_4:Int -/
def W27 (p0 p1 : Sl) (h : Heap) (R : Value → Heap → Prop) : Prop :=
 (sB ((p0.n : Int) != (p1.n : Int))
 (R (.bool false) h)
 ((∃ I1 : Int → Heap → Nat → Prop, (∃ m2, I1 0 h m2) ∧
 (∀ (_ : Env) (x_4 : Int) (h5 : Heap) (m3 : Nat), I1 x_4 h5 m3 →
 (sB (decide (x_4 < (p0.n : Int)))
 ((NB p0.a fun b6 o7 => ((0 ≤ (x_4 : Int) ∧ (x_4 : Int) < (p0.n : Nat)) ∧
 (∃ x8 : Int, hc h5 ⟨b6, o7 + Int.toNat x_4 * 1, none⟩ = some (.int .i64 x8) ∧
 (NB p1.a fun b9 o10 => ((0 ≤ (x_4 : Int) ∧ (x_4 : Int) < (p1.n : Nat)) ∧
 (∃ x11 : Int, hc h5 ⟨b9, o10 + Int.toNat x_4 * 1, none⟩ = some (.int .i64 x11) ∧
 (sB (x8 != x11)
 (R (.bool false) h5)
 ((∃ m12, m12 < m3 ∧ I1 (IntKind.wrap .i64 (x_4 + 1)) h5 m12))))))))))
 (R (.bool true) h5))))))
theorem vc27 (p0 p1 : Sl) (h : Heap) (R : Value → Heap → Prop) (H : W27 p0 p1 h R) : Fn Tryz.prog 27 #[.slice p0.a p0.n p0.c, .slice p1.a p1.n p1.c] h R := fnI (A := (.s .z (.s .z (.s (.s .z (.b (.l [(13, .one (.int .i64))] .z))) .z)))) (by kernel_rfl) H

end Go.VC
end

section
namespace Go.VC
open Go.Proofs
set_option maxRecDepth 100000
set_option linter.unusedVariables false

def W24 (p0_1 p0_2 p0_3 : Int) (p0_4 p0_5 p0_6 : Sl) (h : Heap) (R : Value → Heap → Prop) : Prop :=
 (∀ h7 : Heap, h7 = h.push (.cells ⟨[.int .i64 p0_1, .int .i64 p0_2, .int .i64 p0_3, .slice p0_4.a p0_4.n p0_4.c, .slice p0_5.a p0_5.n p0_5.c, .slice p0_6.a p0_6.n p0_6.c]⟩ 26) →
 (∃ (x8 x9 x10 : Int) (x11 x12 x13 : Sl), atC h7 ⟨h.size, 0, none⟩ [.int .i64 x8, .int .i64 x9, .int .i64 x10, .slice x11.a x11.n x11.c, .slice x12.a x12.n x12.c, .slice x13.a x13.n x13.c] ∧
 (Fn Tryz.prog 58 #[.agg ⟨[.int .i64 x8, .int .i64 x9, .int .i64 x10, .slice x11.a x11.n x11.c, .slice x12.a x12.n x12.c, .slice x13.a x13.n x13.c]⟩] h7
 (fun v14 h16 => ∃ x15 : Bool, v14 = .bool x15 ∧
 (sB x15
 ((∃ (x17 x18 x19 : Int) (x20 x21 x22 : Sl), atC h16 ⟨h.size, 0, none⟩ [.int .i64 x17, .int .i64 x18, .int .i64 x19, .slice x20.a x20.n x20.c, .slice x21.a x21.n x21.c, .slice x22.a x22.n x22.c] ∧
 (Fn Tryz.prog 59 #[.agg ⟨[.int .i64 x17, .int .i64 x18, .int .i64 x19, .slice x20.a x20.n x20.c, .slice x21.a x21.n x21.c, .slice x22.a x22.n x22.c]⟩] h16
 (fun v23 h25 => ∃ x24 : Bool, v23 = .bool x24 ∧
 (Sm [⟨h.size, 0, none⟩] h16 h25 ∧
 (sB x24
 ((∃ (x26 x27 x28 : Int) (x29 x30 x31 : Sl), atC h25 ⟨h.size, 0, none⟩ [.int .i64 x26, .int .i64 x27, .int .i64 x28, .slice x29.a x29.n x29.c, .slice x30.a x30.n x30.c, .slice x31.a x31.n x31.c] ∧
 (Fn Tryz.prog 60 #[.agg ⟨[.int .i64 x26, .int .i64 x27, .int .i64 x28, .slice x29.a x29.n x29.c, .slice x30.a x30.n x30.c, .slice x31.a x31.n x31.c]⟩] h25
 (fun v32 h34 => ∃ x33 : Bool, v32 = .bool x33 ∧
 (Sm [⟨h.size, 0, none⟩, ⟨h.size, 0, none⟩] h25 h34 ∧
 (sB x33
 ((∃ (x35 x36 x37 : Int) (x38 x39 x40 : Sl), atC h34 ⟨h.size, 0, none⟩ [.int .i64 x35, .int .i64 x36, .int .i64 x37, .slice x38.a x38.n x38.c, .slice x39.a x39.n x39.c, .slice x40.a x40.n x40.c] ∧
 (∃ x41 : Int, hc h34 ⟨h.size, 1, none⟩ = some (.int .i64 x41) ∧
 (Fn Tryz.prog 61 #[.agg ⟨[.int .i64 x35, .int .i64 x36, .int .i64 x37, .slice x38.a x38.n x38.c, .slice x39.a x39.n x39.c, .slice x40.a x40.n x40.c]⟩] h34
 (fun v42 h44 => ∃ x43 : Sl, v42 = .slice x43.a x43.n x43.c ∧
 (Sm [⟨h.size, 1, none⟩, ⟨h.size, 0, none⟩, ⟨h.size, 0, none⟩, ⟨h.size, 0, none⟩] h34 h44 ∧
 R (.bool ((x43.n : Int) == x41)) h44))))))
 (R (.bool false) h34)))))))
 (R (.bool false) h25)))))))
 (R (.bool false) h16))))))
theorem vc24 (p0_1 p0_2 p0_3 : Int) (p0_4 p0_5 p0_6 : Sl) (h : Heap) (R : Value → Heap → Prop) (H : W24 p0_1 p0_2 p0_3 p0_4 p0_5 p0_6 h R) : Fn Tryz.prog 24 #[.agg ⟨[.int .i64 p0_1, .int .i64 p0_2, .int .i64 p0_3, .slice p0_4.a p0_4.n p0_4.c, .slice p0_5.a p0_5.n p0_5.c, .slice p0_6.a p0_6.n p0_6.c]⟩] h R := fnI (A := .z) (by kernel_rfl) H

/- farandole/farandoleref26.numbers
 loop rrlrb: i_21:Int -/
def W58 (p0_1 p0_2 p0_3 : Int) (p0_4 p0_5 p0_6 : Sl) (h : Heap) (R : Value → Heap → Prop) : Prop :=
 (∀ h7 : Heap, h7 = h.push (.cells ⟨[.int .i64 p0_1, .int .i64 p0_2, .int .i64 p0_3, .slice p0_4.a p0_4.n p0_4.c, .slice p0_5.a p0_5.n p0_5.c, .slice p0_6.a p0_6.n p0_6.c]⟩ 26) →
 (∃ x8 : Int, hc h7 ⟨h.size, 0, none⟩ = some (.int .i64 x8) ∧
 (sB (decide (x8 < 0))
 (R (.bool false) h7)
 ((∃ x9 : Int, hc h7 ⟨h.size, 0, none⟩ = some (.int .i64 x9) ∧
 (sB (decide (x9 ≥ 6))
 (R (.bool false) h7)
 ((∃ x10 : Int, hc h7 ⟨h.size, 1, none⟩ = some (.int .i64 x10) ∧
 (sB (decide (x10 < 1))
 (R (.bool false) h7)
 ((∃ x11 : Int, hc h7 ⟨h.size, 1, none⟩ = some (.int .i64 x11) ∧
 (sB (decide (x11 > 200))
 (R (.bool false) h7)
 ((∃ x12 : Int, hc h7 ⟨h.size, 2, none⟩ = some (.int .i64 x12) ∧
 (sB (decide (x12 < 0))
 (R (.bool false) h7)
 ((∃ x13 : Int, hc h7 ⟨h.size, 2, none⟩ = some (.int .i64 x13) ∧
 (∃ x14 : Int, hc h7 ⟨h.size, 1, none⟩ = some (.int .i64 x14) ∧
 (sB (decide (x13 ≥ x14))
 (R (.bool false) h7)
 ((∃ x15 : Sl, hc h7 ⟨h.size, 3, none⟩ = some (.slice x15.a x15.n x15.c) ∧
 (∃ x16 : Int, hc h7 ⟨h.size, 1, none⟩ = some (.int .i64 x16) ∧
 (sB ((x15.n : Int) != x16)
 (R (.bool false) h7)
 ((∃ x17 : Sl, hc h7 ⟨h.size, 4, none⟩ = some (.slice x17.a x17.n x17.c) ∧
 (sB (decide ((x17.n : Int) > 400))
 (R (.bool false) h7)
 ((∃ I18 : Int → Heap → Nat → Prop, (∃ m19, I18 0 h7 m19) ∧
 (∀ (_ : Env) (i_21 : Int) (h22 : Heap) (m20 : Nat), I18 i_21 h22 m20 →
 (∃ x23 : Sl, hc h22 ⟨h.size, 4, none⟩ = some (.slice x23.a x23.n x23.c) ∧
 (sB (decide (i_21 < (x23.n : Int)))
 ((∃ x24 : Sl, hc h22 ⟨h.size, 4, none⟩ = some (.slice x24.a x24.n x24.c) ∧
 (NB x24.a fun b25 o26 => ((0 ≤ (i_21 : Int) ∧ (i_21 : Int) < (x24.n : Nat)) ∧
 (∃ (x27 : Int) (x28 : Bool) (x29 x30 x31 : Int) (x32 : Bool), atC h22 ⟨b25, o26 + Int.toNat i_21 * 6, none⟩ [.int .i64 x27, .bool x28, .int .i64 x29, .int .i64 x30, .int .i64 x31, .bool x32] ∧
 (∀ h33 : Heap, h33 = h22.push (.cells ⟨[.int .i64 0, .bool false, .int .i64 0, .int .i64 0, .int .i64 0, .bool false]⟩ 81) →
 (okAt h33 ⟨h22.size, 0, none⟩ 6 ∧ ∀ h34 : Heap, h34 = hputs h33 ⟨h22.size, 0, none⟩ 0 [.int .i64 x27, .bool x28, .int .i64 x29, .int .i64 x30, .int .i64 x31, .bool x32] →
 (∃ x35 : Int, hc h34 ⟨h22.size, 0, none⟩ = some (.int .i64 x35) ∧
 (sB (decide (x35 < 0))
 (R (.bool false) h34)
 ((∃ x36 : Int, hc h34 ⟨h22.size, 0, none⟩ = some (.int .i64 x36) ∧
 (∃ x37 : Int, hc h34 ⟨h.size, 1, none⟩ = some (.int .i64 x37) ∧
 (sB (decide (x36 ≥ x37))
 (R (.bool false) h34)
 ((∃ x38 : Int, hc h34 ⟨h22.size, 4, none⟩ = some (.int .i64 x38) ∧
 (sB (decide (x38 < 0))
 (R (.bool false) h34)
 ((∃ x39 : Int, hc h34 ⟨h22.size, 4, none⟩ = some (.int .i64 x39) ∧
 (∃ x40 : Int, hc h34 ⟨h.size, 1, none⟩ = some (.int .i64 x40) ∧
 (sB (decide (x39 ≥ x40))
 (R (.bool false) h34)
 ((∃ x41 : Int, hc h34 ⟨h22.size, 2, none⟩ = some (.int .i64 x41) ∧
 (sB (decide (x41 < 0))
 (R (.bool false) h34)
 ((∃ x42 : Int, hc h34 ⟨h22.size, 2, none⟩ = some (.int .i64 x42) ∧
 (sB (decide (x42 ≥ 6))
 (R (.bool false) h34)
 ((∃ x43 : Int, hc h34 ⟨h22.size, 2, none⟩ = some (.int .i64 x43) ∧
 (∃ x44 : Int, hc h34 ⟨h.size, 0, none⟩ = some (.int .i64 x44) ∧
 (sB (x43 == x44)
 (R (.bool false) h34)
 ((∃ x45 : Int, hc h34 ⟨h22.size, 3, none⟩ = some (.int .i64 x45) ∧
 (sB (decide (x45 < 0))
 (R (.bool false) h34)
 ((∃ x46 : Int, hc h34 ⟨h22.size, 3, none⟩ = some (.int .i64 x46) ∧
 (sB (decide (x46 ≥ 40))
 (R (.bool false) h34)
 ((∃ m47, m47 < m20 ∧ I18 (IntKind.wrap .i64 (i_21 + 1)) h34 m47))))))))))))))))))))))))))))))))))))))
 (R (.bool true) h22))))))))))))))))))))))))))))))))
theorem vc58 (p0_1 p0_2 p0_3 : Int) (p0_4 p0_5 p0_6 : Sl) (h : Heap) (R : Value → Heap → Prop) (H : W58 p0_1 p0_2 p0_3 p0_4 p0_5 p0_6 h R) : Fn Tryz.prog 58 #[.agg ⟨[.int .i64 p0_1, .int .i64 p0_2, .int .i64 p0_3, .slice p0_4.a p0_4.n p0_4.c, .slice p0_5.a p0_5.n p0_5.c, .slice p0_6.a p0_6.n p0_6.c]⟩] h R := fnI (A := (.s .z (.s .z (.s (.s .z (.b (.l [(3, .one (.int .i64))] .z))) .z)))) (by kernel_rfl) H

/- farandole/farandoleref26.apart
 loop rlrborlbrrrb: k_37:Int
 loop rlrborlbrrrb: k_101:Int
 loop rlrb: i_11:Int -/
def W59 (p0_1 p0_2 p0_3 : Int) (p0_4 p0_5 p0_6 : Sl) (h : Heap) (R : Value → Heap → Prop) : Prop :=
 (∀ h7 : Heap, h7 = h.push (.cells ⟨[.int .i64 p0_1, .int .i64 p0_2, .int .i64 p0_3, .slice p0_4.a p0_4.n p0_4.c, .slice p0_5.a p0_5.n p0_5.c, .slice p0_6.a p0_6.n p0_6.c]⟩ 26) →
 (∃ I8 : Int → Heap → Nat → Prop, (∃ m9, I8 0 h7 m9) ∧
 (∀ (_ : Env) (i_11 : Int) (h12 : Heap) (m10 : Nat), I8 i_11 h12 m10 →
 (∃ x13 : Sl, hc h12 ⟨h.size, 4, none⟩ = some (.slice x13.a x13.n x13.c) ∧
 (sB (decide (i_11 < (x13.n : Int)))
 ((∃ x14 : Sl, hc h12 ⟨h.size, 4, none⟩ = some (.slice x14.a x14.n x14.c) ∧
 (NB x14.a fun b15 o16 => ((0 ≤ (i_11 : Int) ∧ (i_11 : Int) < (x14.n : Nat)) ∧
 (∃ (x17 : Int) (x18 : Bool) (x19 x20 x21 : Int) (x22 : Bool), atC h12 ⟨b15, o16 + Int.toNat i_11 * 6, none⟩ [.int .i64 x17, .bool x18, .int .i64 x19, .int .i64 x20, .int .i64 x21, .bool x22] ∧
 (∀ h23 : Heap, h23 = h12.push (.cells ⟨[.int .i64 0, .bool false, .int .i64 0, .int .i64 0, .int .i64 0, .bool false]⟩ 81) →
 (okAt h23 ⟨h12.size, 0, none⟩ 6 ∧ ∀ h24 : Heap, h24 = hputs h23 ⟨h12.size, 0, none⟩ 0 [.int .i64 x17, .bool x18, .int .i64 x19, .int .i64 x20, .int .i64 x21, .bool x22] →
 (∃ x25 : Bool, hc h24 ⟨h12.size, 5, none⟩ = some (.bool x25) ∧
 (sB x25
 ((∃ x26 : Bool, hc h24 ⟨h12.size, 1, none⟩ = some (.bool x26) ∧
 (sB (!x26)
 (R (.bool false) h24)
 ((∃ x27 : Int, hc h24 ⟨h12.size, 0, none⟩ = some (.int .i64 x27) ∧
 (∃ x28 : Int, hc h24 ⟨h.size, 2, none⟩ = some (.int .i64 x28) ∧
 (sB (x27 == x28)
 (R (.bool false) h24)
 ((∃ x29 : Sl, hc h24 ⟨h.size, 3, none⟩ = some (.slice x29.a x29.n x29.c) ∧
 (∃ x30 : Int, hc h24 ⟨h12.size, 0, none⟩ = some (.int .i64 x30) ∧
 (NB x29.a fun b31 o32 => ((0 ≤ (x30 : Int) ∧ (x30 : Int) < (x29.n : Nat)) ∧
 (∃ x33 : Bool, hc h24 ⟨b31, o32 + Int.toNat x30 * 1, none⟩ = some (.bool x33) ∧
 (sB x33
 (R (.bool false) h24)
 ((∃ I34 : Int → Heap → Nat → Prop, (∃ m35, I34 0 h24 m35) ∧
 (∀ (_ : Env) (k_37 : Int) (h38 : Heap) (m36 : Nat), I34 k_37 h38 m36 →
 (∃ x39 : Sl, hc h38 ⟨h.size, 4, none⟩ = some (.slice x39.a x39.n x39.c) ∧
 (sB (decide (k_37 < (x39.n : Int)))
 ((∃ x40 : Sl, hc h38 ⟨h.size, 4, none⟩ = some (.slice x40.a x40.n x40.c) ∧
 (NB x40.a fun b41 o42 => ((0 ≤ (k_37 : Int) ∧ (k_37 : Int) < (x40.n : Nat)) ∧
 (∃ (x43 : Int) (x44 : Bool) (x45 x46 x47 : Int) (x48 : Bool), atC h38 ⟨b41, o42 + Int.toNat k_37 * 6, none⟩ [.int .i64 x43, .bool x44, .int .i64 x45, .int .i64 x46, .int .i64 x47, .bool x48] ∧
 (∀ h49 : Heap, h49 = h38.push (.cells ⟨[.int .i64 0, .bool false, .int .i64 0, .int .i64 0, .int .i64 0, .bool false]⟩ 81) →
 (okAt h49 ⟨h38.size, 0, none⟩ 6 ∧ ∀ h50 : Heap, h50 = hputs h49 ⟨h38.size, 0, none⟩ 0 [.int .i64 x43, .bool x44, .int .i64 x45, .int .i64 x46, .int .i64 x47, .bool x48] →
 (sB (k_37 != i_11)
 ((∃ x51 : Int, hc h50 ⟨h12.size, 0, none⟩ = some (.int .i64 x51) ∧
 (∃ x52 : Int, hc h50 ⟨h38.size, 0, none⟩ = some (.int .i64 x52) ∧
 (sB (x51 == x52)
 ((∃ x53 : Bool, hc h50 ⟨h12.size, 1, none⟩ = some (.bool x53) ∧
 (∃ x54 : Bool, hc h50 ⟨h38.size, 1, none⟩ = some (.bool x54) ∧
 (sB (!(x53 == x54))
 (R (.bool false) h50)
 ((∃ x55 : Int, hc h50 ⟨h12.size, 2, none⟩ = some (.int .i64 x55) ∧
 (∃ x56 : Int, hc h50 ⟨h38.size, 2, none⟩ = some (.int .i64 x56) ∧
 (sB (x55 == x56)
 ((∃ x57 : Int, hc h50 ⟨h12.size, 3, none⟩ = some (.int .i64 x57) ∧
 (∃ x58 : Int, hc h50 ⟨h38.size, 3, none⟩ = some (.int .i64 x58) ∧
 (sB (x57 == x58)
 (R (.bool false) h50)
 ((∃ x59 : Bool, hc h50 ⟨h12.size, 5, none⟩ = some (.bool x59) ∧
 (sB x59
 (R (.bool false) h50)
 ((∃ x60 : Bool, hc h50 ⟨h12.size, 5, none⟩ = some (.bool x60) ∧
 (sB x60
 ((∃ x61 : Int, hc h50 ⟨h38.size, 4, none⟩ = some (.int .i64 x61) ∧
 (∃ x62 : Int, hc h50 ⟨h12.size, 0, none⟩ = some (.int .i64 x62) ∧
 (sB (x61 == x62)
 ((∃ x63 : Bool, hc h50 ⟨h38.size, 1, none⟩ = some (.bool x63) ∧
 (sB (!x63)
 (R (.bool false) h50)
 ((∃ x64 : Int, hc h50 ⟨h38.size, 3, none⟩ = some (.int .i64 x64) ∧
 (∃ x65 : Int, hc h50 ⟨h12.size, 3, none⟩ = some (.int .i64 x65) ∧
 (sB (x64 != x65)
 (R (.bool false) h50)
 ((∃ m66, m66 < m36 ∧ I34 (IntKind.wrap .i64 (k_37 + 1)) h50 m66)))))))))
 ((∃ m67, m67 < m36 ∧ I34 (IntKind.wrap .i64 (k_37 + 1)) h50 m67))))))
 ((∃ m68, m68 < m36 ∧ I34 (IntKind.wrap .i64 (k_37 + 1)) h50 m68))))))))))))
 ((∃ x69 : Bool, hc h50 ⟨h12.size, 5, none⟩ = some (.bool x69) ∧
 (sB x69
 (R (.bool false) h50)
 ((∃ x70 : Bool, hc h50 ⟨h12.size, 5, none⟩ = some (.bool x70) ∧
 (sB x70
 ((∃ x71 : Int, hc h50 ⟨h38.size, 4, none⟩ = some (.int .i64 x71) ∧
 (∃ x72 : Int, hc h50 ⟨h12.size, 0, none⟩ = some (.int .i64 x72) ∧
 (sB (x71 == x72)
 ((∃ x73 : Bool, hc h50 ⟨h38.size, 1, none⟩ = some (.bool x73) ∧
 (sB (!x73)
 (R (.bool false) h50)
 ((∃ x74 : Int, hc h50 ⟨h38.size, 3, none⟩ = some (.int .i64 x74) ∧
 (∃ x75 : Int, hc h50 ⟨h12.size, 3, none⟩ = some (.int .i64 x75) ∧
 (sB (x74 != x75)
 (R (.bool false) h50)
 ((∃ m76, m76 < m36 ∧ I34 (IntKind.wrap .i64 (k_37 + 1)) h50 m76)))))))))
 ((∃ m77, m77 < m36 ∧ I34 (IntKind.wrap .i64 (k_37 + 1)) h50 m77))))))
 ((∃ m78, m78 < m36 ∧ I34 (IntKind.wrap .i64 (k_37 + 1)) h50 m78))))))))))))))))
 ((∃ x79 : Bool, hc h50 ⟨h12.size, 5, none⟩ = some (.bool x79) ∧
 (sB x79
 ((∃ x80 : Int, hc h50 ⟨h38.size, 4, none⟩ = some (.int .i64 x80) ∧
 (∃ x81 : Int, hc h50 ⟨h12.size, 0, none⟩ = some (.int .i64 x81) ∧
 (sB (x80 == x81)
 ((∃ x82 : Bool, hc h50 ⟨h38.size, 1, none⟩ = some (.bool x82) ∧
 (sB (!x82)
 (R (.bool false) h50)
 ((∃ x83 : Int, hc h50 ⟨h38.size, 3, none⟩ = some (.int .i64 x83) ∧
 (∃ x84 : Int, hc h50 ⟨h12.size, 3, none⟩ = some (.int .i64 x84) ∧
 (sB (x83 != x84)
 (R (.bool false) h50)
 ((∃ m85, m85 < m36 ∧ I34 (IntKind.wrap .i64 (k_37 + 1)) h50 m85)))))))))
 ((∃ m86, m86 < m36 ∧ I34 (IntKind.wrap .i64 (k_37 + 1)) h50 m86))))))
 ((∃ m87, m87 < m36 ∧ I34 (IntKind.wrap .i64 (k_37 + 1)) h50 m87)))))))))
 ((∃ x88 : Bool, hc h50 ⟨h12.size, 5, none⟩ = some (.bool x88) ∧
 (sB x88
 ((∃ x89 : Int, hc h50 ⟨h38.size, 4, none⟩ = some (.int .i64 x89) ∧
 (∃ x90 : Int, hc h50 ⟨h12.size, 0, none⟩ = some (.int .i64 x90) ∧
 (sB (x89 == x90)
 ((∃ x91 : Bool, hc h50 ⟨h38.size, 1, none⟩ = some (.bool x91) ∧
 (sB (!x91)
 (R (.bool false) h50)
 ((∃ x92 : Int, hc h50 ⟨h38.size, 3, none⟩ = some (.int .i64 x92) ∧
 (∃ x93 : Int, hc h50 ⟨h12.size, 3, none⟩ = some (.int .i64 x93) ∧
 (sB (x92 != x93)
 (R (.bool false) h50)
 ((∃ m94, m94 < m36 ∧ I34 (IntKind.wrap .i64 (k_37 + 1)) h50 m94)))))))))
 ((∃ m95, m95 < m36 ∧ I34 (IntKind.wrap .i64 (k_37 + 1)) h50 m95))))))
 ((∃ m96, m96 < m36 ∧ I34 (IntKind.wrap .i64 (k_37 + 1)) h50 m96)))))))))))))
 ((∃ m97, m97 < m10 ∧ I8 (IntKind.wrap .i64 (i_11 + 1)) h38 m97)))))))))))))))))))))
 ((∃ I98 : Int → Heap → Nat → Prop, (∃ m99, I98 0 h24 m99) ∧
 (∀ (_ : Env) (k_101 : Int) (h102 : Heap) (m100 : Nat), I98 k_101 h102 m100 →
 (∃ x103 : Sl, hc h102 ⟨h.size, 4, none⟩ = some (.slice x103.a x103.n x103.c) ∧
 (sB (decide (k_101 < (x103.n : Int)))
 ((∃ x104 : Sl, hc h102 ⟨h.size, 4, none⟩ = some (.slice x104.a x104.n x104.c) ∧
 (NB x104.a fun b105 o106 => ((0 ≤ (k_101 : Int) ∧ (k_101 : Int) < (x104.n : Nat)) ∧
 (∃ (x107 : Int) (x108 : Bool) (x109 x110 x111 : Int) (x112 : Bool), atC h102 ⟨b105, o106 + Int.toNat k_101 * 6, none⟩ [.int .i64 x107, .bool x108, .int .i64 x109, .int .i64 x110, .int .i64 x111, .bool x112] ∧
 (∀ h113 : Heap, h113 = h102.push (.cells ⟨[.int .i64 0, .bool false, .int .i64 0, .int .i64 0, .int .i64 0, .bool false]⟩ 81) →
 (okAt h113 ⟨h102.size, 0, none⟩ 6 ∧ ∀ h114 : Heap, h114 = hputs h113 ⟨h102.size, 0, none⟩ 0 [.int .i64 x107, .bool x108, .int .i64 x109, .int .i64 x110, .int .i64 x111, .bool x112] →
 (sB (k_101 != i_11)
 ((∃ x115 : Int, hc h114 ⟨h12.size, 0, none⟩ = some (.int .i64 x115) ∧
 (∃ x116 : Int, hc h114 ⟨h102.size, 0, none⟩ = some (.int .i64 x116) ∧
 (sB (x115 == x116)
 ((∃ x117 : Bool, hc h114 ⟨h12.size, 1, none⟩ = some (.bool x117) ∧
 (∃ x118 : Bool, hc h114 ⟨h102.size, 1, none⟩ = some (.bool x118) ∧
 (sB (!(x117 == x118))
 (R (.bool false) h114)
 ((∃ x119 : Int, hc h114 ⟨h12.size, 2, none⟩ = some (.int .i64 x119) ∧
 (∃ x120 : Int, hc h114 ⟨h102.size, 2, none⟩ = some (.int .i64 x120) ∧
 (sB (x119 == x120)
 ((∃ x121 : Int, hc h114 ⟨h12.size, 3, none⟩ = some (.int .i64 x121) ∧
 (∃ x122 : Int, hc h114 ⟨h102.size, 3, none⟩ = some (.int .i64 x122) ∧
 (sB (x121 == x122)
 (R (.bool false) h114)
 ((∃ x123 : Bool, hc h114 ⟨h12.size, 5, none⟩ = some (.bool x123) ∧
 (sB x123
 (R (.bool false) h114)
 ((∃ x124 : Bool, hc h114 ⟨h12.size, 5, none⟩ = some (.bool x124) ∧
 (sB x124
 ((∃ x125 : Int, hc h114 ⟨h102.size, 4, none⟩ = some (.int .i64 x125) ∧
 (∃ x126 : Int, hc h114 ⟨h12.size, 0, none⟩ = some (.int .i64 x126) ∧
 (sB (x125 == x126)
 ((∃ x127 : Bool, hc h114 ⟨h102.size, 1, none⟩ = some (.bool x127) ∧
 (sB (!x127)
 (R (.bool false) h114)
 ((∃ x128 : Int, hc h114 ⟨h102.size, 3, none⟩ = some (.int .i64 x128) ∧
 (∃ x129 : Int, hc h114 ⟨h12.size, 3, none⟩ = some (.int .i64 x129) ∧
 (sB (x128 != x129)
 (R (.bool false) h114)
 ((∃ m130, m130 < m100 ∧ I98 (IntKind.wrap .i64 (k_101 + 1)) h114 m130)))))))))
 ((∃ m131, m131 < m100 ∧ I98 (IntKind.wrap .i64 (k_101 + 1)) h114 m131))))))
 ((∃ m132, m132 < m100 ∧ I98 (IntKind.wrap .i64 (k_101 + 1)) h114 m132))))))))))))
 ((∃ x133 : Bool, hc h114 ⟨h12.size, 5, none⟩ = some (.bool x133) ∧
 (sB x133
 (R (.bool false) h114)
 ((∃ x134 : Bool, hc h114 ⟨h12.size, 5, none⟩ = some (.bool x134) ∧
 (sB x134
 ((∃ x135 : Int, hc h114 ⟨h102.size, 4, none⟩ = some (.int .i64 x135) ∧
 (∃ x136 : Int, hc h114 ⟨h12.size, 0, none⟩ = some (.int .i64 x136) ∧
 (sB (x135 == x136)
 ((∃ x137 : Bool, hc h114 ⟨h102.size, 1, none⟩ = some (.bool x137) ∧
 (sB (!x137)
 (R (.bool false) h114)
 ((∃ x138 : Int, hc h114 ⟨h102.size, 3, none⟩ = some (.int .i64 x138) ∧
 (∃ x139 : Int, hc h114 ⟨h12.size, 3, none⟩ = some (.int .i64 x139) ∧
 (sB (x138 != x139)
 (R (.bool false) h114)
 ((∃ m140, m140 < m100 ∧ I98 (IntKind.wrap .i64 (k_101 + 1)) h114 m140)))))))))
 ((∃ m141, m141 < m100 ∧ I98 (IntKind.wrap .i64 (k_101 + 1)) h114 m141))))))
 ((∃ m142, m142 < m100 ∧ I98 (IntKind.wrap .i64 (k_101 + 1)) h114 m142))))))))))))))))
 ((∃ x143 : Bool, hc h114 ⟨h12.size, 5, none⟩ = some (.bool x143) ∧
 (sB x143
 ((∃ x144 : Int, hc h114 ⟨h102.size, 4, none⟩ = some (.int .i64 x144) ∧
 (∃ x145 : Int, hc h114 ⟨h12.size, 0, none⟩ = some (.int .i64 x145) ∧
 (sB (x144 == x145)
 ((∃ x146 : Bool, hc h114 ⟨h102.size, 1, none⟩ = some (.bool x146) ∧
 (sB (!x146)
 (R (.bool false) h114)
 ((∃ x147 : Int, hc h114 ⟨h102.size, 3, none⟩ = some (.int .i64 x147) ∧
 (∃ x148 : Int, hc h114 ⟨h12.size, 3, none⟩ = some (.int .i64 x148) ∧
 (sB (x147 != x148)
 (R (.bool false) h114)
 ((∃ m149, m149 < m100 ∧ I98 (IntKind.wrap .i64 (k_101 + 1)) h114 m149)))))))))
 ((∃ m150, m150 < m100 ∧ I98 (IntKind.wrap .i64 (k_101 + 1)) h114 m150))))))
 ((∃ m151, m151 < m100 ∧ I98 (IntKind.wrap .i64 (k_101 + 1)) h114 m151)))))))))
 ((∃ x152 : Bool, hc h114 ⟨h12.size, 5, none⟩ = some (.bool x152) ∧
 (sB x152
 ((∃ x153 : Int, hc h114 ⟨h102.size, 4, none⟩ = some (.int .i64 x153) ∧
 (∃ x154 : Int, hc h114 ⟨h12.size, 0, none⟩ = some (.int .i64 x154) ∧
 (sB (x153 == x154)
 ((∃ x155 : Bool, hc h114 ⟨h102.size, 1, none⟩ = some (.bool x155) ∧
 (sB (!x155)
 (R (.bool false) h114)
 ((∃ x156 : Int, hc h114 ⟨h102.size, 3, none⟩ = some (.int .i64 x156) ∧
 (∃ x157 : Int, hc h114 ⟨h12.size, 3, none⟩ = some (.int .i64 x157) ∧
 (sB (x156 != x157)
 (R (.bool false) h114)
 ((∃ m158, m158 < m100 ∧ I98 (IntKind.wrap .i64 (k_101 + 1)) h114 m158)))))))))
 ((∃ m159, m159 < m100 ∧ I98 (IntKind.wrap .i64 (k_101 + 1)) h114 m159))))))
 ((∃ m160, m160 < m100 ∧ I98 (IntKind.wrap .i64 (k_101 + 1)) h114 m160)))))))))))))
 ((∃ m161, m161 < m10 ∧ I8 (IntKind.wrap .i64 (i_11 + 1)) h102 m161))))))))))))))))
 (R (.bool true) h12))))))
theorem vc59 (p0_1 p0_2 p0_3 : Int) (p0_4 p0_5 p0_6 : Sl) (h : Heap) (R : Value → Heap → Prop) (H : W59 p0_1 p0_2 p0_3 p0_4 p0_5 p0_6 h R) : Fn Tryz.prog 59 #[.agg ⟨[.int .i64 p0_1, .int .i64 p0_2, .int .i64 p0_3, .slice p0_4.a p0_4.n p0_4.c, .slice p0_5.a p0_5.n p0_5.c, .slice p0_6.a p0_6.n p0_6.c]⟩] h R := fnI (A := (.s .z (.s (.s .z (.b (.l [(3, .one (.int .i64))] (.s .z (.s (.b (.s .z (.s .z (.s .z (.b (.l [(5, .one (.int .i64))] .z)))))) .z))))) .z))) (by kernel_rfl) H

/- farandole/farandoleref26.timed
 loop rlrb: i_11:Int -/
def W60 (p0_1 p0_2 p0_3 : Int) (p0_4 p0_5 p0_6 : Sl) (h : Heap) (R : Value → Heap → Prop) : Prop :=
 (∀ h7 : Heap, h7 = h.push (.cells ⟨[.int .i64 p0_1, .int .i64 p0_2, .int .i64 p0_3, .slice p0_4.a p0_4.n p0_4.c, .slice p0_5.a p0_5.n p0_5.c, .slice p0_6.a p0_6.n p0_6.c]⟩ 26) →
 (∃ I8 : Int → Heap → Nat → Prop, (∃ m9, I8 0 h7 m9) ∧
 (∀ (_ : Env) (i_11 : Int) (h12 : Heap) (m10 : Nat), I8 i_11 h12 m10 →
 (∃ x13 : Sl, hc h12 ⟨h.size, 5, none⟩ = some (.slice x13.a x13.n x13.c) ∧
 (sB (decide (i_11 < (x13.n : Int)))
 ((∃ x14 : Sl, hc h12 ⟨h.size, 5, none⟩ = some (.slice x14.a x14.n x14.c) ∧
 (NB x14.a fun b15 o16 => ((0 ≤ (i_11 : Int) ∧ (i_11 : Int) < (x14.n : Nat)) ∧
 (∃ (x17 x18 x19 : Int), atC h12 ⟨b15, o16 + Int.toNat i_11 * 3, none⟩ [.int .i64 x17, .int .i64 x18, .int .i64 x19] ∧
 (∀ h20 : Heap, h20 = h12.push (.cells ⟨[.int .i64 0, .int .i64 0, .int .i64 0]⟩ 44) →
 (okAt h20 ⟨h12.size, 0, none⟩ 3 ∧ ∀ h21 : Heap, h21 = hputs h20 ⟨h12.size, 0, none⟩ 0 [.int .i64 x17, .int .i64 x18, .int .i64 x19] →
 (∃ x22 : Int, hc h21 ⟨h12.size, 1, none⟩ = some (.int .i64 x22) ∧
 (sB (decide (x22 < 1))
 (R (.bool false) h21)
 ((∃ x23 : Int, hc h21 ⟨h12.size, 1, none⟩ = some (.int .i64 x23) ∧
 (sB (decide (x23 > 1000))
 (R (.bool false) h21)
 ((∃ x24 : Int, hc h21 ⟨h12.size, 2, none⟩ = some (.int .i64 x24) ∧
 (sB (decide (x24 < 0))
 (R (.bool false) h21)
 ((∃ x25 : Int, hc h21 ⟨h12.size, 2, none⟩ = some (.int .i64 x25) ∧
 (∃ x26 : Sl, hc h21 ⟨h.size, 4, none⟩ = some (.slice x26.a x26.n x26.c) ∧
 (sB (decide (x25 ≥ (x26.n : Int)))
 (R (.bool false) h21)
 ((sB (decide (i_11 > 0))
 ((∃ x27 : Int, hc h21 ⟨h12.size, 0, none⟩ = some (.int .i64 x27) ∧
 (∃ x28 : Sl, hc h21 ⟨h.size, 5, none⟩ = some (.slice x28.a x28.n x28.c) ∧
 (NB x28.a fun b29 o30 => ((0 ≤ ((IntKind.wrap .i64 (i_11 - 1)) : Int) ∧ ((IntKind.wrap .i64 (i_11 - 1)) : Int) < (x28.n : Nat)) ∧
 (∃ x31 : Int, hc h21 ⟨b29, o30 + Int.toNat (IntKind.wrap .i64 (i_11 - 1)) * 3, none⟩ = some (.int .i64 x31) ∧
 (sB (decide (x27 ≤ x31))
 (R (.bool false) h21)
 ((∃ x32 : Sl, hc h21 ⟨h.size, 4, none⟩ = some (.slice x32.a x32.n x32.c) ∧
 (∃ x33 : Int, hc h21 ⟨h12.size, 2, none⟩ = some (.int .i64 x33) ∧
 (NB x32.a fun b34 o35 => ((0 ≤ (x33 : Int) ∧ (x33 : Int) < (x32.n : Nat)) ∧
 (∃ (x36 : Int) (x37 : Bool) (x38 x39 x40 : Int) (x41 : Bool), atC h21 ⟨b34, o35 + Int.toNat x33 * 6, none⟩ [.int .i64 x36, .bool x37, .int .i64 x38, .int .i64 x39, .int .i64 x40, .bool x41] ∧
 (∀ h42 : Heap, h42 = h21.push (.cells ⟨[.int .i64 0, .bool false, .int .i64 0, .int .i64 0, .int .i64 0, .bool false]⟩ 81) →
 (okAt h42 ⟨h21.size, 0, none⟩ 6 ∧ ∀ h43 : Heap, h43 = hputs h42 ⟨h21.size, 0, none⟩ 0 [.int .i64 x36, .bool x37, .int .i64 x38, .int .i64 x39, .int .i64 x40, .bool x41] →
 (∃ x44 : Int, hc h43 ⟨h21.size, 0, none⟩ = some (.int .i64 x44) ∧
 (∃ x45 : Int, hc h43 ⟨h12.size, 0, none⟩ = some (.int .i64 x45) ∧
 (sB (x44 != x45)
 (R (.bool false) h43)
 ((∃ x46 : Bool, hc h43 ⟨h21.size, 1, none⟩ = some (.bool x46) ∧
 (sB (!x46)
 (R (.bool false) h43)
 ((∃ x47 : Bool, hc h43 ⟨h21.size, 5, none⟩ = some (.bool x47) ∧
 (sB x47
 (R (.bool false) h43)
 ((∃ m48, m48 < m10 ∧ I8 (IntKind.wrap .i64 (i_11 + 1)) h43 m48))))))))))))))))))))))))))
 ((∃ x49 : Sl, hc h21 ⟨h.size, 4, none⟩ = some (.slice x49.a x49.n x49.c) ∧
 (∃ x50 : Int, hc h21 ⟨h12.size, 2, none⟩ = some (.int .i64 x50) ∧
 (NB x49.a fun b51 o52 => ((0 ≤ (x50 : Int) ∧ (x50 : Int) < (x49.n : Nat)) ∧
 (∃ (x53 : Int) (x54 : Bool) (x55 x56 x57 : Int) (x58 : Bool), atC h21 ⟨b51, o52 + Int.toNat x50 * 6, none⟩ [.int .i64 x53, .bool x54, .int .i64 x55, .int .i64 x56, .int .i64 x57, .bool x58] ∧
 (∀ h59 : Heap, h59 = h21.push (.cells ⟨[.int .i64 0, .bool false, .int .i64 0, .int .i64 0, .int .i64 0, .bool false]⟩ 81) →
 (okAt h59 ⟨h21.size, 0, none⟩ 6 ∧ ∀ h60 : Heap, h60 = hputs h59 ⟨h21.size, 0, none⟩ 0 [.int .i64 x53, .bool x54, .int .i64 x55, .int .i64 x56, .int .i64 x57, .bool x58] →
 (∃ x61 : Int, hc h60 ⟨h21.size, 0, none⟩ = some (.int .i64 x61) ∧
 (∃ x62 : Int, hc h60 ⟨h12.size, 0, none⟩ = some (.int .i64 x62) ∧
 (sB (x61 != x62)
 (R (.bool false) h60)
 ((∃ x63 : Bool, hc h60 ⟨h21.size, 1, none⟩ = some (.bool x63) ∧
 (sB (!x63)
 (R (.bool false) h60)
 ((∃ x64 : Bool, hc h60 ⟨h21.size, 5, none⟩ = some (.bool x64) ∧
 (sB x64
 (R (.bool false) h60)
 ((∃ m65, m65 < m10 ∧ I8 (IntKind.wrap .i64 (i_11 + 1)) h60 m65))))))))))))))))))))))))))))))))))))))))
 (R (.bool true) h12))))))
theorem vc60 (p0_1 p0_2 p0_3 : Int) (p0_4 p0_5 p0_6 : Sl) (h : Heap) (R : Value → Heap → Prop) (H : W60 p0_1 p0_2 p0_3 p0_4 p0_5 p0_6 h R) : Fn Tryz.prog 60 #[.agg ⟨[.int .i64 p0_1, .int .i64 p0_2, .int .i64 p0_3, .slice p0_4.a p0_4.n p0_4.c, .slice p0_5.a p0_5.n p0_5.c, .slice p0_6.a p0_6.n p0_6.c]⟩] h R := fnI (A := (.s .z (.s (.s .z (.b (.l [(3, .one (.int .i64))] .z))) .z))) (by kernel_rfl) H

/- farandole/farandoleref26.Reached
 loop rrlrborlbrb: out_20:Sl, i_21:Int
 loop rrlrb: out_13:Sl, n_14:Int -/
def W61 (p0_1 p0_2 p0_3 : Int) (p0_4 p0_5 p0_6 : Sl) (h : Heap) (R : Value → Heap → Prop) : Prop :=
 (∀ h7 : Heap, h7 = h.push (.cells ⟨[.int .i64 p0_1, .int .i64 p0_2, .int .i64 p0_3, .slice p0_4.a p0_4.n p0_4.c, .slice p0_5.a p0_5.n p0_5.c, .slice p0_6.a p0_6.n p0_6.c]⟩ 26) →
 (∃ x8 : Int, hc h7 ⟨h.size, 2, none⟩ = some (.int .i64 x8) ∧
 (∀ h9 : Heap, h9 = h7.push (.cells ⟨[.int .i64 x8]⟩ 3) →
 (∃ I10 : Sl → Int → Heap → Nat → Prop, (∃ m11, I10 ⟨(some ⟨h7.size, 0, none⟩), 1, 1⟩ 0 h9 m11) ∧
 (∀ (_ : Env) (out_13 : Sl) (n_14 : Int) (h15 : Heap) (m12 : Nat), I10 out_13 n_14 h15 m12 →
 (∃ x16 : Int, hc h15 ⟨h.size, 1, none⟩ = some (.int .i64 x16) ∧
 (sB (decide (n_14 < x16))
 ((∃ I17 : Sl → Int → Heap → Nat → Prop, (∃ m18, I17 out_13 0 h15 m18) ∧
 (∀ (_ : Env) (out_20 : Sl) (i_21 : Int) (h22 : Heap) (m19 : Nat), I17 out_20 i_21 h22 m19 →
 (∃ x23 : Sl, hc h22 ⟨h.size, 4, none⟩ = some (.slice x23.a x23.n x23.c) ∧
 (sB (decide (i_21 < (x23.n : Int)))
 ((∃ x24 : Sl, hc h22 ⟨h.size, 4, none⟩ = some (.slice x24.a x24.n x24.c) ∧
 (NB x24.a fun b25 o26 => ((0 ≤ (i_21 : Int) ∧ (i_21 : Int) < (x24.n : Nat)) ∧
 (∃ x27 : Int, hc h22 ⟨b25, o26 + Int.toNat i_21 * 6, none⟩ = some (.int .i64 x27) ∧
 (Fn Tryz.prog 105 #[.slice out_20.a out_20.n out_20.c, .int .i64 x27] h22
 (fun v28 h30 => ∃ x29 : Bool, v28 = .bool x29 ∧
 (sB x29
 ((∃ x31 : Sl, hc h30 ⟨h.size, 4, none⟩ = some (.slice x31.a x31.n x31.c) ∧
 (NB x31.a fun b32 o33 => ((0 ≤ (i_21 : Int) ∧ (i_21 : Int) < (x31.n : Nat)) ∧
 (∃ x34 : Int, hc h30 ⟨b32, o33 + Int.toNat i_21 * 6 + 4, none⟩ = some (.int .i64 x34) ∧
 (Fn Tryz.prog 106 #[.slice out_20.a out_20.n out_20.c, .int .i64 x34] h30
 (fun v35 h37 => ∃ x36 : Sl, v35 = .slice x36.a x36.n x36.c ∧
 (∃ m38, m38 < m19 ∧ I17 x36 (IntKind.wrap .i64 (i_21 + 1)) h37 m38))))))))
 ((∃ m39, m39 < m19 ∧ I17 out_20 (IntKind.wrap .i64 (i_21 + 1)) h30 m39))))))))))
 ((∃ m40, m40 < m12 ∧ I10 out_20 (IntKind.wrap .i64 (n_14 + 1)) h22 m40)))))))
 (R (.slice out_13.a out_13.n out_13.c) h15))))))))
theorem vc61 (p0_1 p0_2 p0_3 : Int) (p0_4 p0_5 p0_6 : Sl) (h : Heap) (R : Value → Heap → Prop) (H : W61 p0_1 p0_2 p0_3 p0_4 p0_5 p0_6 h R) : Fn Tryz.prog 61 #[.agg ⟨[.int .i64 p0_1, .int .i64 p0_2, .int .i64 p0_3, .slice p0_4.a p0_4.n p0_4.c, .slice p0_5.a p0_5.n p0_5.c, .slice p0_6.a p0_6.n p0_6.c]⟩] h R := fnI (A := (.s .z (.s .z (.s (.s .z (.b (.l [(3, .one (.slice)), (4, .one (.int .i64))] (.s .z (.s (.b (.s .z (.b (.l [(3, .one (.slice)), (5, .one (.int .i64))] .z)))) .z))))) .z)))) (by kernel_rfl) H

def W13 (p0_1 p0_2 p0_3 : Int) (p0_4 p0_5 p0_6 : Sl) (h : Heap) (R : Value → Heap → Prop) : Prop :=
 (∀ h7 : Heap, h7 = h.push (.cells ⟨[.int .i64 p0_1, .int .i64 p0_2, .int .i64 p0_3, .slice p0_4.a p0_4.n p0_4.c, .slice p0_5.a p0_5.n p0_5.c, .slice p0_6.a p0_6.n p0_6.c]⟩ 26) →
 (∃ x8 : Int, hc h7 ⟨h.size, 1, none⟩ = some (.int .i64 x8) ∧
 (sB (decide (x8 ≤ 40))
 ((∃ x9 : Sl, hc h7 ⟨h.size, 3, none⟩ = some (.slice x9.a x9.n x9.c) ∧
 (sB (decide ((x9.n : Int) ≤ 45))
 ((∃ x10 : Sl, hc h7 ⟨h.size, 4, none⟩ = some (.slice x10.a x10.n x10.c) ∧
 (sB (decide ((x10.n : Int) ≤ 80))
 ((∃ x11 : Sl, hc h7 ⟨h.size, 5, none⟩ = some (.slice x11.a x11.n x11.c) ∧
 R (.bool (decide ((x11.n : Int) ≤ 45))) h7))
 (R (.bool false) h7))))
 (R (.bool false) h7))))
 (R (.bool false) h7))))
theorem vc13 (p0_1 p0_2 p0_3 : Int) (p0_4 p0_5 p0_6 : Sl) (h : Heap) (R : Value → Heap → Prop) (H : W13 p0_1 p0_2 p0_3 p0_4 p0_5 p0_6 h R) : Fn Tryz.prog 13 #[.agg ⟨[.int .i64 p0_1, .int .i64 p0_2, .int .i64 p0_3, .slice p0_4.a p0_4.n p0_4.c, .slice p0_5.a p0_5.n p0_5.c, .slice p0_6.a p0_6.n p0_6.c]⟩] h R := fnI (A := .z) (by kernel_rfl) H

def W12  (h : Heap) (R : Value → Heap → Prop) : Prop :=
 (Fn Tryz.prog 46 #[.bool true] h
 (fun v1 h10 => ∃ (x2 : ByteArray) (x3 x4 : Sl) (x5 x6 x7 : Int) (x8 x9 : Sl), v1 = .agg ⟨[.string x2, .slice x3.a x3.n x3.c, .slice x4.a x4.n x4.c, .int .i64 x5, .int .i64 x6, .int .i64 x7, .slice x8.a x8.n x8.c, .slice x9.a x9.n x9.c]⟩ ∧
 (Fn Tryz.prog 35 #[.agg ⟨[.string x2, .slice x3.a x3.n x3.c, .slice x4.a x4.n x4.c, .int .i64 x5, .int .i64 x6, .int .i64 x7, .slice x8.a x8.n x8.c, .slice x9.a x9.n x9.c]⟩, .int .i64 2] h10
 (fun v11 h19 => ∃ (x12 x13 x14 : Int) (x15 x16 x17 : Sl) (x18 : Int), v11 = .tuple ⟨[.agg ⟨[.int .i64 x12, .int .i64 x13, .int .i64 x14, .slice x15.a x15.n x15.c, .slice x16.a x16.n x16.c, .slice x17.a x17.n x17.c]⟩, .int .i64 x18]⟩ ∧
 (∀ h20 : Heap, h20 = h19.push (.cells ⟨[.int .i64 0, .int .i64 0, .int .i64 0, .slice none 0 0, .slice none 0 0, .slice none 0 0]⟩ 26) →
 (okAt h20 ⟨h19.size, 0, none⟩ 6 ∧ ∀ h21 : Heap, h21 = hputs h20 ⟨h19.size, 0, none⟩ 0 [.int .i64 x12, .int .i64 x13, .int .i64 x14, .slice x15.a x15.n x15.c, .slice x16.a x16.n x16.c, .slice x17.a x17.n x17.c] →
 (∀ h22 : Heap, h22 = h21.push (.cells ⟨[.int .i64 0, .bool false, .int .i64 0, .int .i64 0, .slice none 0 0]⟩ 37) →
 (∀ h23 : Heap, h23 = h22.push (.cells ⟨[.int .i64 0, .bool false, .int .i64 0, .int .i64 0, .slice none 0 0]⟩ 37) →
 (okAt h23 ⟨h21.size, 0, none⟩ 5 ∧ ∀ h24 : Heap, h24 = hputs h23 ⟨h21.size, 0, none⟩ 0 [.int .i64 2, .bool false, .int .i64 1, .int .i64 0, .slice none 0 0] →
 (okAt h24 ⟨h22.size, 0, none⟩ 5 ∧ ∀ h25 : Heap, h25 = hputs h24 ⟨h22.size, 0, none⟩ 0 [.int .i64 2, .bool true, .int .i64 1, .int .i64 2, .slice none 0 0] →
 (∃ (x26 x27 x28 : Int) (x29 x30 x31 : Sl), atC h25 ⟨h19.size, 0, none⟩ [.int .i64 x26, .int .i64 x27, .int .i64 x28, .slice x29.a x29.n x29.c, .slice x30.a x30.n x30.c, .slice x31.a x31.n x31.c] ∧
 (∃ (x32 : Int) (x33 : Bool) (x34 x35 : Int) (x36 : Sl), atC h25 ⟨h21.size, 0, none⟩ [.int .i64 x32, .bool x33, .int .i64 x34, .int .i64 x35, .slice x36.a x36.n x36.c] ∧
 (∃ (x37 : Int) (x38 : Bool) (x39 x40 : Int) (x41 : Sl), atC h25 ⟨h22.size, 0, none⟩ [.int .i64 x37, .bool x38, .int .i64 x39, .int .i64 x40, .slice x41.a x41.n x41.c] ∧
 (∀ h42 : Heap, h42 = h25.push (.cells ⟨[.int .i64 x32, .bool x33, .int .i64 x34, .int .i64 x35, .slice x36.a x36.n x36.c, .int .i64 x37, .bool x38, .int .i64 x39, .int .i64 x40, .slice x41.a x41.n x41.c]⟩ 37) →
 (Fn Tryz.prog 14 #[.agg ⟨[.int .i64 x26, .int .i64 x27, .int .i64 x28, .slice x29.a x29.n x29.c, .slice x30.a x30.n x30.c, .slice x31.a x31.n x31.c]⟩, .slice (some ⟨h25.size, 0, none⟩) 2 2] h42
 (fun v43 h47 => ∃ (x44 x45 x46 : Int), v43 = .tuple ⟨[.int .i64 x44, .int .i64 x45, .int .i64 x46]⟩ ∧
 (okAt h47 ⟨h21.size, 3, none⟩ 1 ∧ ∀ h48 : Heap, h48 = hputs h47 ⟨h21.size, 3, none⟩ 0 [.int .i64 1] →
 (∃ (x49 x50 x51 : Int) (x52 x53 x54 : Sl), atC h48 ⟨h19.size, 0, none⟩ [.int .i64 x49, .int .i64 x50, .int .i64 x51, .slice x52.a x52.n x52.c, .slice x53.a x53.n x53.c, .slice x54.a x54.n x54.c] ∧
 (∃ (x55 : Int) (x56 : Bool) (x57 x58 : Int) (x59 : Sl), atC h48 ⟨h21.size, 0, none⟩ [.int .i64 x55, .bool x56, .int .i64 x57, .int .i64 x58, .slice x59.a x59.n x59.c] ∧
 (∃ (x60 : Int) (x61 : Bool) (x62 x63 : Int) (x64 : Sl), atC h48 ⟨h22.size, 0, none⟩ [.int .i64 x60, .bool x61, .int .i64 x62, .int .i64 x63, .slice x64.a x64.n x64.c] ∧
 (∀ h65 : Heap, h65 = h48.push (.cells ⟨[.int .i64 x55, .bool x56, .int .i64 x57, .int .i64 x58, .slice x59.a x59.n x59.c, .int .i64 x60, .bool x61, .int .i64 x62, .int .i64 x63, .slice x64.a x64.n x64.c]⟩ 37) →
 (Fn Tryz.prog 14 #[.agg ⟨[.int .i64 x49, .int .i64 x50, .int .i64 x51, .slice x52.a x52.n x52.c, .slice x53.a x53.n x53.c, .slice x54.a x54.n x54.c]⟩, .slice (some ⟨h48.size, 0, none⟩) 2 2] h65
 (fun v66 h70 => ∃ (x67 x68 x69 : Int), v66 = .tuple ⟨[.int .i64 x67, .int .i64 x68, .int .i64 x69]⟩ ∧
 (sB (x18 == 0)
 ((sB (x46 == 0)
 ((sB (x45 == 2)
 ((sB (x69 == 23)
 ((sB (x68 == 1)
 ((∃ (x71 x72 x73 : Int) (x74 x75 x76 : Sl), atC h70 ⟨h19.size, 0, none⟩ [.int .i64 x71, .int .i64 x72, .int .i64 x73, .slice x74.a x74.n x74.c, .slice x75.a x75.n x75.c, .slice x76.a x76.n x76.c] ∧
 (Fn Tryz.prog 23 #[.agg ⟨[.int .i64 x71, .int .i64 x72, .int .i64 x73, .slice x74.a x74.n x74.c, .slice x75.a x75.n x75.c, .slice x76.a x76.n x76.c]⟩] h70
 (fun v77 h79 => ∃ x78 : Bool, v77 = .bool x78 ∧
 R (.bool x78) h79))))
 (R (.bool false) h70)))
 (R (.bool false) h70)))
 (R (.bool false) h70)))
 (R (.bool false) h70)))
 (R (.bool false) h70)))))))))))))))))))))))))
theorem vc12e  (h : Heap) (R : Value → Heap → Prop) : W12  h R = fnW Tryz.prog 12 .z #[] h R := by kernel_rfl
theorem vc12  (h : Heap) (R : Value → Heap → Prop) (H : W12  h R) : Fn Tryz.prog 12 #[] h R := fnI (vc12e  h R) H

/- farandole/farandolelaw26.MachineSteps
 loop rrrrlrb: s_24:Int, x_25:Int -/
end Go.VC
end
