/- Texts of this claim, joined: PjVcL. -/
import Derived.Test.YtfdhgcladnbdeaaGreatDoorM02
import Derived.Test.YtfdhgcladnbdeaaGreatDoorProg
import Derived.KernelRfl
set_option linter.unusedVariables false
set_option linter.unusedSimpArgs false

section
namespace Go.VC
open Go.Proofs
set_option maxRecDepth 100000
set_option linter.unusedVariables false

/- farandole/farandolelaw25.ProjectHistories
 loop rrrrrrrlrb: at_56:Int, n_57:Int -/
def W7 (p0_1 : ByteArray) (p0_2 p0_3 : Sl) (p0_4 p0_5 p0_6 : Int) (p0_7 p0_8 : Sl) (p1 : Int) (p2 : Sl) (h : Heap) (R : Value → Heap → Prop) : Prop :=
 (∀ h9 : Heap, h9 = h.push (.cells ⟨[.string p0_1, .slice p0_2.a p0_2.n p0_2.c, .slice p0_3.a p0_3.n p0_3.c, .int .i64 p0_4, .int .i64 p0_5, .int .i64 p0_6, .slice p0_7.a p0_7.n p0_7.c, .slice p0_8.a p0_8.n p0_8.c]⟩ 27) →
 (Fn Tryz.prog 10 #[] h9
 (fun v10 h12 => ∃ x11 : Bool, v10 = .bool x11 ∧
 (sB (!x11)
 (R (.bool false) h12)
 ((∃ (x13 : ByteArray) (x14 x15 : Sl) (x16 x17 x18 : Int) (x19 x20 : Sl), atC h12 ⟨h.size, 0, none⟩ [.string x13, .slice x14.a x14.n x14.c, .slice x15.a x15.n x15.c, .int .i64 x16, .int .i64 x17, .int .i64 x18, .slice x19.a x19.n x19.c, .slice x20.a x20.n x20.c] ∧
 (Fn Tryz.prog 21 #[.agg ⟨[.string x13, .slice x14.a x14.n x14.c, .slice x15.a x15.n x15.c, .int .i64 x16, .int .i64 x17, .int .i64 x18, .slice x19.a x19.n x19.c, .slice x20.a x20.n x20.c]⟩, .int .i64 p1] h12
 (fun v21 h23 => ∃ x22 : Bool, v21 = .bool x22 ∧
 (sB (!x22)
 (R (.bool true) h23)
 ((sB (decide ((p2.n : Int) > 20))
 (R (.bool true) h23)
 ((∃ (x24 : ByteArray) (x25 x26 : Sl) (x27 x28 x29 : Int) (x30 x31 : Sl), atC h23 ⟨h.size, 0, none⟩ [.string x24, .slice x25.a x25.n x25.c, .slice x26.a x26.n x26.c, .int .i64 x27, .int .i64 x28, .int .i64 x29, .slice x30.a x30.n x30.c, .slice x31.a x31.n x31.c] ∧
 (Fn Tryz.prog 12 #[.agg ⟨[.string x24, .slice x25.a x25.n x25.c, .slice x26.a x26.n x26.c, .int .i64 x27, .int .i64 x28, .int .i64 x29, .slice x30.a x30.n x30.c, .slice x31.a x31.n x31.c]⟩, .int .i64 p1] h23
 (fun v32 h40 => ∃ (x33 x34 x35 : Int) (x36 x37 x38 : Sl) (x39 : Int), v32 = .tuple ⟨[.agg ⟨[.int .i64 x33, .int .i64 x34, .int .i64 x35, .slice x36.a x36.n x36.c, .slice x37.a x37.n x37.c, .slice x38.a x38.n x38.c]⟩, .int .i64 x39]⟩ ∧
 (∀ h41 : Heap, h41 = h40.push (.cells ⟨[.int .i64 0, .int .i64 0, .int .i64 0, .slice none 0 0, .slice none 0 0, .slice none 0 0]⟩ 33) →
 (okAt h41 ⟨h40.size, 0, none⟩ 6 ∧ ∀ h42 : Heap, h42 = hputs h41 ⟨h40.size, 0, none⟩ 0 [.int .i64 x33, .int .i64 x34, .int .i64 x35, .slice x36.a x36.n x36.c, .slice x37.a x37.n x37.c, .slice x38.a x38.n x38.c] →
 (sB (x39 != 0)
 ((sB (x39 == 18)
 (R (.bool true) h42)
 (R (.bool (x39 == 6)) h42)))
 ((∃ (x43 x44 x45 : Int) (x46 x47 x48 : Sl), atC h42 ⟨h40.size, 0, none⟩ [.int .i64 x43, .int .i64 x44, .int .i64 x45, .slice x46.a x46.n x46.c, .slice x47.a x47.n x47.c, .slice x48.a x48.n x48.c] ∧
 (Fn Tryz.prog 17 #[.agg ⟨[.int .i64 x43, .int .i64 x44, .int .i64 x45, .slice x46.a x46.n x46.c, .slice x47.a x47.n x47.c, .slice x48.a x48.n x48.c]⟩] h42
 (fun v49 h51 => ∃ x50 : Bool, v49 = .bool x50 ∧
 (sB (!x50)
 (R (.bool false) h51)
 ((∃ x52 : Int, hc h51 ⟨h40.size, 2, none⟩ = some (.int .i64 x52) ∧
 (∃ I53 : Int → Int → Heap → Nat → Prop, (∃ m54, I53 x52 0 h51 m54) ∧
 (∀ (_ : Env) (at_56 n_57 : Int) (h58 : Heap) (m55 : Nat), I53 at_56 n_57 h58 m55 →
 (sB (decide (n_57 ≤ (p2.n : Int)))
 ((∃ (x59 : ByteArray) (x60 x61 : Sl) (x62 x63 x64 : Int) (x65 x66 : Sl), atC h58 ⟨h.size, 0, none⟩ [.string x59, .slice x60.a x60.n x60.c, .slice x61.a x61.n x61.c, .int .i64 x62, .int .i64 x63, .int .i64 x64, .slice x65.a x65.n x65.c, .slice x66.a x66.n x66.c] ∧
 (((0 : Int) ≤ (0 : Int) ∧ (0 : Int) ≤ (n_57 : Int) ∧ (n_57 : Int) ≤ (p2.c : Nat)) ∧
 (Fn Tryz.prog 27 #[.agg ⟨[.string x59, .slice x60.a x60.n x60.c, .slice x61.a x61.n x61.c, .int .i64 x62, .int .i64 x63, .int .i64 x64, .slice x65.a x65.n x65.c, .slice x66.a x66.n x66.c]⟩, .int .i64 p1, .slice (subA p2.a (Int.toNat 0) p2.c 5) (Int.toNat n_57 - Int.toNat 0) (p2.c - Int.toNat 0)] h58
 (fun v67 h70 => ∃ (x68 : Sl) (x69 : Int), v67 = .tuple ⟨[.slice x68.a x68.n x68.c, .int .i64 x69]⟩ ∧
 (sB (x69 != 0)
 (R (.bool false) h70)
 ((Fn Tryz.prog 28 #[.slice x68.a x68.n x68.c] h70
 (fun v71 h73 => ∃ x72 : Int, v71 = .int .i64 x72 ∧
 (sB (!((decide (at_56 ≥ 0)) == (decide (x72 > 0))))
 (R (.bool false) h73)
 ((sB (decide (at_56 ≥ 0))
 ((∃ x74 : Sl, hc h73 ⟨h40.size, 3, none⟩ = some (.slice x74.a x74.n x74.c) ∧
 (NB x74.a fun b75 o76 => ((0 ≤ (at_56 : Int) ∧ (at_56 : Int) < (x74.n : Nat)) ∧
 (∃ x77 : Bool, hc h73 ⟨b75, o76 + Int.toNat at_56 * 1, none⟩ = some (.bool x77) ∧
 (∃ x78 : Int, hc h73 ⟨h.size, 5, none⟩ = some (.int .i64 x78) ∧
 (Fn Tryz.prog 29 #[.slice x68.a x68.n x68.c, .int .i64 x78] h73
 (fun v79 h81 => ∃ x80 : Bool, v79 = .bool x80 ∧
 (Sm [⟨b75, o76 + Int.toNat at_56 * 1, none⟩, ⟨h40.size, 3, none⟩] h73 h81 ∧
 (sB (!(x77 == x80))
 (R (.bool false) h81)
 ((sB (decide (n_57 < (p2.n : Int)))
 ((sB (decide (at_56 ≥ 0))
 ((∃ (x82 x83 x84 : Int) (x85 x86 x87 : Sl), atC h81 ⟨h40.size, 0, none⟩ [.int .i64 x82, .int .i64 x83, .int .i64 x84, .slice x85.a x85.n x85.c, .slice x86.a x86.n x86.c, .slice x87.a x87.n x87.c] ∧
 (NB p2.a fun b88 o89 => ((0 ≤ (n_57 : Int) ∧ (n_57 : Int) < (p2.n : Nat)) ∧
 (∃ (x90 : Int) (x91 : Bool) (x92 x93 : Int) (x94 : Sl), atC h81 ⟨b88, o89 + Int.toNat n_57 * 5, none⟩ [.int .i64 x90, .bool x91, .int .i64 x92, .int .i64 x93, .slice x94.a x94.n x94.c] ∧
 (Fn Tryz.prog 25 #[.agg ⟨[.int .i64 x82, .int .i64 x83, .int .i64 x84, .slice x85.a x85.n x85.c, .slice x86.a x86.n x86.c, .slice x87.a x87.n x87.c]⟩, .int .i64 at_56, .agg ⟨[.int .i64 x90, .bool x91, .int .i64 x92, .int .i64 x93, .slice x94.a x94.n x94.c]⟩] h81
 (fun v95 h97 => ∃ x96 : Int, v95 = .int .i64 x96 ∧
 (∃ m98, m98 < m55 ∧ I53 x96 (IntKind.wrap .i64 (n_57 + 1)) h97 m98))))))))
 ((∃ m99, m99 < m55 ∧ I53 at_56 (IntKind.wrap .i64 (n_57 + 1)) h81 m99))))
 ((∃ m100, m100 < m55 ∧ I53 at_56 (IntKind.wrap .i64 (n_57 + 1)) h81 m100))))))))))))))
 ((sB (decide (n_57 < (p2.n : Int)))
 ((sB (decide (at_56 ≥ 0))
 ((∃ (x101 x102 x103 : Int) (x104 x105 x106 : Sl), atC h73 ⟨h40.size, 0, none⟩ [.int .i64 x101, .int .i64 x102, .int .i64 x103, .slice x104.a x104.n x104.c, .slice x105.a x105.n x105.c, .slice x106.a x106.n x106.c] ∧
 (NB p2.a fun b107 o108 => ((0 ≤ (n_57 : Int) ∧ (n_57 : Int) < (p2.n : Nat)) ∧
 (∃ (x109 : Int) (x110 : Bool) (x111 x112 : Int) (x113 : Sl), atC h73 ⟨b107, o108 + Int.toNat n_57 * 5, none⟩ [.int .i64 x109, .bool x110, .int .i64 x111, .int .i64 x112, .slice x113.a x113.n x113.c] ∧
 (Fn Tryz.prog 25 #[.agg ⟨[.int .i64 x101, .int .i64 x102, .int .i64 x103, .slice x104.a x104.n x104.c, .slice x105.a x105.n x105.c, .slice x106.a x106.n x106.c]⟩, .int .i64 at_56, .agg ⟨[.int .i64 x109, .bool x110, .int .i64 x111, .int .i64 x112, .slice x113.a x113.n x113.c]⟩] h73
 (fun v114 h116 => ∃ x115 : Int, v114 = .int .i64 x115 ∧
 (∃ m117, m117 < m55 ∧ I53 x115 (IntKind.wrap .i64 (n_57 + 1)) h116 m117))))))))
 ((∃ m118, m118 < m55 ∧ I53 at_56 (IntKind.wrap .i64 (n_57 + 1)) h73 m118))))
 ((∃ m119, m119 < m55 ∧ I53 at_56 (IntKind.wrap .i64 (n_57 + 1)) h73 m119))))))))))))))))
 (R (.bool true) h58)))))))))))))))))))))))))))))
theorem vc7e (p0_1 : ByteArray) (p0_2 p0_3 : Sl) (p0_4 p0_5 p0_6 : Int) (p0_7 p0_8 : Sl) (p1 : Int) (p2 : Sl) (h : Heap) (R : Value → Heap → Prop) : W7 p0_1 p0_2 p0_3 p0_4 p0_5 p0_6 p0_7 p0_8 p1 p2 h R = fnW Tryz.prog 7 (.s .z (.s .z (.s .z (.s .z (.s .z (.s .z (.s .z (.s (.s .z (.b (.l [(9, .one (.int .i64)), (10, .one (.int .i64))] .z))) .z)))))))) #[.agg ⟨[.string p0_1, .slice p0_2.a p0_2.n p0_2.c, .slice p0_3.a p0_3.n p0_3.c, .int .i64 p0_4, .int .i64 p0_5, .int .i64 p0_6, .slice p0_7.a p0_7.n p0_7.c, .slice p0_8.a p0_8.n p0_8.c]⟩, .int .i64 p1, .slice p2.a p2.n p2.c] h R := by kernel_rfl
theorem vc7 (p0_1 : ByteArray) (p0_2 p0_3 : Sl) (p0_4 p0_5 p0_6 : Int) (p0_7 p0_8 : Sl) (p1 : Int) (p2 : Sl) (h : Heap) (R : Value → Heap → Prop) (H : W7 p0_1 p0_2 p0_3 p0_4 p0_5 p0_6 p0_7 p0_8 p1 p2 h R) : Fn Tryz.prog 7 #[.agg ⟨[.string p0_1, .slice p0_2.a p0_2.n p0_2.c, .slice p0_3.a p0_3.n p0_3.c, .int .i64 p0_4, .int .i64 p0_5, .int .i64 p0_6, .slice p0_7.a p0_7.n p0_7.c, .slice p0_8.a p0_8.n p0_8.c]⟩, .int .i64 p1, .slice p2.a p2.n p2.c] h R := fnI (vc7e p0_1 p0_2 p0_3 p0_4 p0_5 p0_6 p0_7 p0_8 p1 p2 h R) H

/- farandole/view.Behind
 loop rrrrlrb: s_30:Sl, x_31:Int -/
def W27 (p0_1 : ByteArray) (p0_2 p0_3 : Sl) (p0_4 p0_5 p0_6 : Int) (p0_7 p0_8 : Sl) (p1 : Int) (p2 : Sl) (h : Heap) (R : Value → Heap → Prop) : Prop :=
 (∀ h9 : Heap, h9 = h.push (.cells ⟨[.string p0_1, .slice p0_2.a p0_2.n p0_2.c, .slice p0_3.a p0_3.n p0_3.c, .int .i64 p0_4, .int .i64 p0_5, .int .i64 p0_6, .slice p0_7.a p0_7.n p0_7.c, .slice p0_8.a p0_8.n p0_8.c]⟩ 27) →
 (∃ (x10 : ByteArray) (x11 x12 : Sl) (x13 x14 x15 : Int) (x16 x17 : Sl), atC h9 ⟨h.size, 0, none⟩ [.string x10, .slice x11.a x11.n x11.c, .slice x12.a x12.n x12.c, .int .i64 x13, .int .i64 x14, .int .i64 x15, .slice x16.a x16.n x16.c, .slice x17.a x17.n x17.c] ∧
 (Fn Tryz.prog 52 #[.agg ⟨[.string x10, .slice x11.a x11.n x11.c, .slice x12.a x12.n x12.c, .int .i64 x13, .int .i64 x14, .int .i64 x15, .slice x16.a x16.n x16.c, .slice x17.a x17.n x17.c]⟩, .int .i64 p1] h9
 (fun v18 h21 => ∃ x19 : Option Addr, ∃ x20 : Int, v18 = .tuple ⟨[.pointer x19, .int .i64 x20]⟩ ∧
 (sB (x20 != 0)
 (R (.tuple ⟨[.slice none 0 0, .int .i64 x20]⟩) h21)
 ((∃ x22 : Int, hc h21 ⟨h.size, 4, none⟩ = some (.int .i64 x22) ∧
 (∀ h23 : Heap, h23 = h21.push (.cells ⟨[.int .i64 x22]⟩ 3) →
 (Fn Tryz.prog 53 #[.pointer x19, .slice (some ⟨h21.size, 0, none⟩) 1 1] h23
 (fun v24 h26 => ∃ x25 : Sl, v24 = .slice x25.a x25.n x25.c ∧
 (∃ I27 : Sl → Int → Heap → Nat → Prop, (∃ m28, I27 x25 0 h26 m28) ∧
 (∀ (_ : Env) (s_30 : Sl) (x_31 : Int) (h32 : Heap) (m29 : Nat), I27 s_30 x_31 h32 m29 →
 (sB (decide (x_31 < (p2.n : Int)))
 ((NB p2.a fun b33 o34 => ((0 ≤ (x_31 : Int) ∧ (x_31 : Int) < (p2.n : Nat)) ∧
 (∃ (x35 : Int) (x36 : Bool) (x37 x38 : Int) (x39 : Sl), atC h32 ⟨b33, o34 + Int.toNat x_31 * 5, none⟩ [.int .i64 x35, .bool x36, .int .i64 x37, .int .i64 x38, .slice x39.a x39.n x39.c] ∧
 (∀ h40 : Heap, h40 = h32.push (.cells ⟨[.int .i64 0, .bool false, .int .i64 0, .int .i64 0, .slice none 0 0]⟩ 60) →
 (okAt h40 ⟨h32.size, 0, none⟩ 5 ∧ ∀ h41 : Heap, h41 = hputs h40 ⟨h32.size, 0, none⟩ 0 [.int .i64 x35, .bool x36, .int .i64 x37, .int .i64 x38, .slice x39.a x39.n x39.c] →
 (∃ (x42 : Int) (x43 : Bool) (x44 x45 : Int) (x46 : Sl), atC h41 ⟨h32.size, 0, none⟩ [.int .i64 x42, .bool x43, .int .i64 x44, .int .i64 x45, .slice x46.a x46.n x46.c] ∧
 (Fn Tryz.prog 54 #[.pointer x19, .agg ⟨[.int .i64 x42, .bool x43, .int .i64 x44, .int .i64 x45, .slice x46.a x46.n x46.c]⟩] h41
 (fun v47 h52 => ∃ (x48 : Bool) (x49 x50 : Int) (x51 : Bool), v47 = .tuple ⟨[.agg ⟨[.bool x48, .int .i64 x49, .int .i64 x50]⟩, .bool x51]⟩ ∧
 (∀ h53 : Heap, h53 = h52.push (.cells ⟨[.bool false, .int .i64 0, .int .i64 0]⟩ 116) →
 (okAt h53 ⟨h52.size, 0, none⟩ 3 ∧ ∀ h54 : Heap, h54 = hputs h53 ⟨h52.size, 0, none⟩ 0 [.bool x48, .int .i64 x49, .int .i64 x50] →
 (sB (!x51)
 ((Fn Tryz.prog 55 #[.slice none 0 0] h54
 (fun v55 h57 => ∃ x56 : Sl, v55 = .slice x56.a x56.n x56.c ∧
 R (.tuple ⟨[.slice x56.a x56.n x56.c, .int .i64 0]⟩) h57)))
 ((∃ (x58 : Bool) (x59 x60 : Int), atC h54 ⟨h52.size, 0, none⟩ [.bool x58, .int .i64 x59, .int .i64 x60] ∧
 (Fn Tryz.prog 56 #[.pointer x19, .slice s_30.a s_30.n s_30.c, .agg ⟨[.bool x58, .int .i64 x59, .int .i64 x60]⟩] h54
 (fun v61 h63 => ∃ x62 : Sl, v61 = .slice x62.a x62.n x62.c ∧
 (∃ m64, m64 < m29 ∧ I27 x62 (IntKind.wrap .i64 (x_31 + 1)) h63 m64)))))))))))))))))
 (R (.tuple ⟨[.slice s_30.a s_30.n s_30.c, .int .i64 0]⟩) h32))))))))))))))
theorem vc27e (p0_1 : ByteArray) (p0_2 p0_3 : Sl) (p0_4 p0_5 p0_6 : Int) (p0_7 p0_8 : Sl) (p1 : Int) (p2 : Sl) (h : Heap) (R : Value → Heap → Prop) : W27 p0_1 p0_2 p0_3 p0_4 p0_5 p0_6 p0_7 p0_8 p1 p2 h R = fnW Tryz.prog 27 (.s .z (.s .z (.s .z (.s .z (.s (.s .z (.b (.l [(10, .one (.slice)), (31, .one (.int .i64))] .z))) .z))))) #[.agg ⟨[.string p0_1, .slice p0_2.a p0_2.n p0_2.c, .slice p0_3.a p0_3.n p0_3.c, .int .i64 p0_4, .int .i64 p0_5, .int .i64 p0_6, .slice p0_7.a p0_7.n p0_7.c, .slice p0_8.a p0_8.n p0_8.c]⟩, .int .i64 p1, .slice p2.a p2.n p2.c] h R := by kernel_rfl
theorem vc27 (p0_1 : ByteArray) (p0_2 p0_3 : Sl) (p0_4 p0_5 p0_6 : Int) (p0_7 p0_8 : Sl) (p1 : Int) (p2 : Sl) (h : Heap) (R : Value → Heap → Prop) (H : W27 p0_1 p0_2 p0_3 p0_4 p0_5 p0_6 p0_7 p0_8 p1 p2 h R) : Fn Tryz.prog 27 #[.agg ⟨[.string p0_1, .slice p0_2.a p0_2.n p0_2.c, .slice p0_3.a p0_3.n p0_3.c, .int .i64 p0_4, .int .i64 p0_5, .int .i64 p0_6, .slice p0_7.a p0_7.n p0_7.c, .slice p0_8.a p0_8.n p0_8.c]⟩, .int .i64 p1, .slice p2.a p2.n p2.c] h R := fnI (vc27e p0_1 p0_2 p0_3 p0_4 p0_5 p0_6 p0_7 p0_8 p1 p2 h R) H

/- farandole/bits.Len
 loop rrlrb: n_4:Int, x_5:Int -/
def W28 (p0 : Sl) (h : Heap) (R : Value → Heap → Prop) : Prop :=
 (∃ I1 : Int → Int → Heap → Nat → Prop, (∃ m2, I1 0 0 h m2) ∧
 (∀ (_ : Env) (n_4 x_5 : Int) (h6 : Heap) (m3 : Nat), I1 n_4 x_5 h6 m3 →
 (sB (decide (x_5 < (imin (p0.n : Int) 64)))
 ((NB p0.a fun b7 o8 => ((0 ≤ (x_5 : Int) ∧ (x_5 : Int) < (p0.n : Nat)) ∧
 (∃ x9 : Int, hc h6 ⟨b7, o8 + Int.toNat x_5 * 1, none⟩ = some (.int .u64 x9) ∧
 (Fn Tryz.prog 57 #[.int .u64 x9] h6
 (fun v10 h12 => ∃ x11 : Int, v10 = .int .i64 x11 ∧
 (∃ m13, m13 < m3 ∧ I1 (IntKind.wrap .i64 (n_4 + x11)) (IntKind.wrap .i64 (x_5 + 1)) h12 m13)))))))
 (R (.int .i64 n_4) h6))))
theorem vc28e (p0 : Sl) (h : Heap) (R : Value → Heap → Prop) : W28 p0 h R = fnW Tryz.prog 28 (.s .z (.s .z (.s (.s .z (.b (.l [(3, .one (.int .i64)), (8, .one (.int .i64))] .z))) .z))) #[.slice p0.a p0.n p0.c] h R := by kernel_rfl
theorem vc28 (p0 : Sl) (h : Heap) (R : Value → Heap → Prop) (H : W28 p0 h R) : Fn Tryz.prog 28 #[.slice p0.a p0.n p0.c] h R := fnI (vc28e p0 h R) H

def W54 (p0 : Addr) (p1_1 : Int) (p1_2 : Bool) (p1_3 p1_4 : Int) (p1_5 : Sl) (h : Heap) (R : Value → Heap → Prop) : Prop :=
 (∀ h6 : Heap, h6 = h.push (.cells ⟨[.int .i64 p1_1, .bool p1_2, .int .i64 p1_3, .int .i64 p1_4, .slice p1_5.a p1_5.n p1_5.c]⟩ 60) →
 (∀ h7 : Heap, h7 = h6.push (.cells ⟨[.bool false, .int .i64 0, .int .i64 0]⟩ 116) →
 (∃ x8 : Bool, hc h7 ⟨h.size, 1, none⟩ = some (.bool x8) ∧
 (∃ x9 : Int, hc h7 ⟨h.size, 2, none⟩ = some (.int .i64 x9) ∧
 (∃ x10 : Int, hc h7 ⟨h.size, 3, none⟩ = some (.int .i64 x10) ∧
 (∃ x11 : Int, hc h7 ⟨h.size, 0, none⟩ = some (.int .i64 x11) ∧
 (∃ x12 : Int, hc h7 ⟨p0.block, p0.off + 8, none⟩ = some (.int .i64 x12) ∧
 (okAt h7 ⟨h6.size, 0, none⟩ 3 ∧ ∀ h13 : Heap, h13 = hputs h7 ⟨h6.size, 0, none⟩ 0 [.bool x8, .int .i64 x9, .int .i64 x10] →
 (Sm [⟨p0.block, p0.off + 8, none⟩, ⟨h.size, 0, none⟩] h7 h13 ∧
 (∃ (x14 : Bool) (x15 x16 : Int), atC h13 ⟨h6.size, 0, none⟩ [.bool x14, .int .i64 x15, .int .i64 x16] ∧
 R (.tuple ⟨[.agg ⟨[.bool x14, .int .i64 x15, .int .i64 x16]⟩, .bool (x11 == x12)]⟩) h13))))))))))
theorem vc54e (p0 : Addr) (p1_1 : Int) (p1_2 : Bool) (p1_3 p1_4 : Int) (p1_5 : Sl) (h : Heap) (R : Value → Heap → Prop) : W54 p0 p1_1 p1_2 p1_3 p1_4 p1_5 h R = fnW Tryz.prog 54 .z #[.pointer (some p0), .agg ⟨[.int .i64 p1_1, .bool p1_2, .int .i64 p1_3, .int .i64 p1_4, .slice p1_5.a p1_5.n p1_5.c]⟩] h R := by kernel_rfl
theorem vc54 (p0 : Addr) (p1_1 : Int) (p1_2 : Bool) (p1_3 p1_4 : Int) (p1_5 : Sl) (h : Heap) (R : Value → Heap → Prop) (H : W54 p0 p1_1 p1_2 p1_3 p1_4 p1_5 h R) : Fn Tryz.prog 54 #[.pointer (some p0), .agg ⟨[.int .i64 p1_1, .bool p1_2, .int .i64 p1_3, .int .i64 p1_4, .slice p1_5.a p1_5.n p1_5.c]⟩] h R := fnI (vc54e p0 p1_1 p1_2 p1_3 p1_4 p1_5 h R) H

def W57 (p0 : Int) (h : Heap) (R : Value → Heap → Prop) : Prop :=
 (0 ≤ (1 : Int) ∧ (0 ≤ (2 : Int) ∧ (0 ≤ (4 : Int) ∧ (0 ≤ (8 : Int) ∧ (0 ≤ (16 : Int) ∧ (0 ≤ (32 : Int) ∧ R (.int .i64 (andI .i64 (IntKind.wrap .i64 (IntKind.wrap .u64 ((IntKind.wrap .u64 ((IntKind.wrap .u64 ((andI .u64 (IntKind.wrap .u64 ((shrI .u64 (IntKind.wrap .u64 ((andI .u64 (shrI .u64 (IntKind.wrap .u64 ((andI .u64 (shrI .u64 p0 1) 6148914691236517205) + (andI .u64 p0 6148914691236517205))) 2) 3689348814741910323) + (andI .u64 (IntKind.wrap .u64 ((andI .u64 (shrI .u64 p0 1) 6148914691236517205) + (andI .u64 p0 6148914691236517205))) 3689348814741910323))) 4) + (IntKind.wrap .u64 ((andI .u64 (shrI .u64 (IntKind.wrap .u64 ((andI .u64 (shrI .u64 p0 1) 6148914691236517205) + (andI .u64 p0 6148914691236517205))) 2) 3689348814741910323) + (andI .u64 (IntKind.wrap .u64 ((andI .u64 (shrI .u64 p0 1) 6148914691236517205) + (andI .u64 p0 6148914691236517205))) 3689348814741910323))))) 1085102592571150095) + (shrI .u64 (andI .u64 (IntKind.wrap .u64 ((shrI .u64 (IntKind.wrap .u64 ((andI .u64 (shrI .u64 (IntKind.wrap .u64 ((andI .u64 (shrI .u64 p0 1) 6148914691236517205) + (andI .u64 p0 6148914691236517205))) 2) 3689348814741910323) + (andI .u64 (IntKind.wrap .u64 ((andI .u64 (shrI .u64 p0 1) 6148914691236517205) + (andI .u64 p0 6148914691236517205))) 3689348814741910323))) 4) + (IntKind.wrap .u64 ((andI .u64 (shrI .u64 (IntKind.wrap .u64 ((andI .u64 (shrI .u64 p0 1) 6148914691236517205) + (andI .u64 p0 6148914691236517205))) 2) 3689348814741910323) + (andI .u64 (IntKind.wrap .u64 ((andI .u64 (shrI .u64 p0 1) 6148914691236517205) + (andI .u64 p0 6148914691236517205))) 3689348814741910323))))) 1085102592571150095) 8))) + (shrI .u64 (IntKind.wrap .u64 ((andI .u64 (IntKind.wrap .u64 ((shrI .u64 (IntKind.wrap .u64 ((andI .u64 (shrI .u64 (IntKind.wrap .u64 ((andI .u64 (shrI .u64 p0 1) 6148914691236517205) + (andI .u64 p0 6148914691236517205))) 2) 3689348814741910323) + (andI .u64 (IntKind.wrap .u64 ((andI .u64 (shrI .u64 p0 1) 6148914691236517205) + (andI .u64 p0 6148914691236517205))) 3689348814741910323))) 4) + (IntKind.wrap .u64 ((andI .u64 (shrI .u64 (IntKind.wrap .u64 ((andI .u64 (shrI .u64 p0 1) 6148914691236517205) + (andI .u64 p0 6148914691236517205))) 2) 3689348814741910323) + (andI .u64 (IntKind.wrap .u64 ((andI .u64 (shrI .u64 p0 1) 6148914691236517205) + (andI .u64 p0 6148914691236517205))) 3689348814741910323))))) 1085102592571150095) + (shrI .u64 (andI .u64 (IntKind.wrap .u64 ((shrI .u64 (IntKind.wrap .u64 ((andI .u64 (shrI .u64 (IntKind.wrap .u64 ((andI .u64 (shrI .u64 p0 1) 6148914691236517205) + (andI .u64 p0 6148914691236517205))) 2) 3689348814741910323) + (andI .u64 (IntKind.wrap .u64 ((andI .u64 (shrI .u64 p0 1) 6148914691236517205) + (andI .u64 p0 6148914691236517205))) 3689348814741910323))) 4) + (IntKind.wrap .u64 ((andI .u64 (shrI .u64 (IntKind.wrap .u64 ((andI .u64 (shrI .u64 p0 1) 6148914691236517205) + (andI .u64 p0 6148914691236517205))) 2) 3689348814741910323) + (andI .u64 (IntKind.wrap .u64 ((andI .u64 (shrI .u64 p0 1) 6148914691236517205) + (andI .u64 p0 6148914691236517205))) 3689348814741910323))))) 1085102592571150095) 8))) 16))) + (shrI .u64 (IntKind.wrap .u64 ((IntKind.wrap .u64 ((andI .u64 (IntKind.wrap .u64 ((shrI .u64 (IntKind.wrap .u64 ((andI .u64 (shrI .u64 (IntKind.wrap .u64 ((andI .u64 (shrI .u64 p0 1) 6148914691236517205) + (andI .u64 p0 6148914691236517205))) 2) 3689348814741910323) + (andI .u64 (IntKind.wrap .u64 ((andI .u64 (shrI .u64 p0 1) 6148914691236517205) + (andI .u64 p0 6148914691236517205))) 3689348814741910323))) 4) + (IntKind.wrap .u64 ((andI .u64 (shrI .u64 (IntKind.wrap .u64 ((andI .u64 (shrI .u64 p0 1) 6148914691236517205) + (andI .u64 p0 6148914691236517205))) 2) 3689348814741910323) + (andI .u64 (IntKind.wrap .u64 ((andI .u64 (shrI .u64 p0 1) 6148914691236517205) + (andI .u64 p0 6148914691236517205))) 3689348814741910323))))) 1085102592571150095) + (shrI .u64 (andI .u64 (IntKind.wrap .u64 ((shrI .u64 (IntKind.wrap .u64 ((andI .u64 (shrI .u64 (IntKind.wrap .u64 ((andI .u64 (shrI .u64 p0 1) 6148914691236517205) + (andI .u64 p0 6148914691236517205))) 2) 3689348814741910323) + (andI .u64 (IntKind.wrap .u64 ((andI .u64 (shrI .u64 p0 1) 6148914691236517205) + (andI .u64 p0 6148914691236517205))) 3689348814741910323))) 4) + (IntKind.wrap .u64 ((andI .u64 (shrI .u64 (IntKind.wrap .u64 ((andI .u64 (shrI .u64 p0 1) 6148914691236517205) + (andI .u64 p0 6148914691236517205))) 2) 3689348814741910323) + (andI .u64 (IntKind.wrap .u64 ((andI .u64 (shrI .u64 p0 1) 6148914691236517205) + (andI .u64 p0 6148914691236517205))) 3689348814741910323))))) 1085102592571150095) 8))) + (shrI .u64 (IntKind.wrap .u64 ((andI .u64 (IntKind.wrap .u64 ((shrI .u64 (IntKind.wrap .u64 ((andI .u64 (shrI .u64 (IntKind.wrap .u64 ((andI .u64 (shrI .u64 p0 1) 6148914691236517205) + (andI .u64 p0 6148914691236517205))) 2) 3689348814741910323) + (andI .u64 (IntKind.wrap .u64 ((andI .u64 (shrI .u64 p0 1) 6148914691236517205) + (andI .u64 p0 6148914691236517205))) 3689348814741910323))) 4) + (IntKind.wrap .u64 ((andI .u64 (shrI .u64 (IntKind.wrap .u64 ((andI .u64 (shrI .u64 p0 1) 6148914691236517205) + (andI .u64 p0 6148914691236517205))) 2) 3689348814741910323) + (andI .u64 (IntKind.wrap .u64 ((andI .u64 (shrI .u64 p0 1) 6148914691236517205) + (andI .u64 p0 6148914691236517205))) 3689348814741910323))))) 1085102592571150095) + (shrI .u64 (andI .u64 (IntKind.wrap .u64 ((shrI .u64 (IntKind.wrap .u64 ((andI .u64 (shrI .u64 (IntKind.wrap .u64 ((andI .u64 (shrI .u64 p0 1) 6148914691236517205) + (andI .u64 p0 6148914691236517205))) 2) 3689348814741910323) + (andI .u64 (IntKind.wrap .u64 ((andI .u64 (shrI .u64 p0 1) 6148914691236517205) + (andI .u64 p0 6148914691236517205))) 3689348814741910323))) 4) + (IntKind.wrap .u64 ((andI .u64 (shrI .u64 (IntKind.wrap .u64 ((andI .u64 (shrI .u64 p0 1) 6148914691236517205) + (andI .u64 p0 6148914691236517205))) 2) 3689348814741910323) + (andI .u64 (IntKind.wrap .u64 ((andI .u64 (shrI .u64 p0 1) 6148914691236517205) + (andI .u64 p0 6148914691236517205))) 3689348814741910323))))) 1085102592571150095) 8))) 16))) 32)))) 127)) h))))))
theorem vc57e (p0 : Int) (h : Heap) (R : Value → Heap → Prop) : W57 p0 h R = fnW Tryz.prog 57 .z #[.int .u64 p0] h R := by kernel_rfl
theorem vc57 (p0 : Int) (h : Heap) (R : Value → Heap → Prop) (H : W57 p0 h R) : Fn Tryz.prog 57 #[.int .u64 p0] h R := fnI (vc57e p0 h R) H

end Go.VC
end
