/- Texts of this claim, joined: PjVcK, PjRa. -/
import Derived.Test.YtfdhgcladnbdeaaGreatDoorM02
import Derived.Test.YtfdhgcladnbdeaaGreatDoorProg
import Derived.KernelRfl
import Derived.Test.YtfdhgcladnbdeaaGreatDoorM14
set_option linter.unusedVariables false
set_option linter.unusedSimpArgs false

section
namespace Go.VC
open Go.Proofs
set_option maxRecDepth 100000
set_option linter.unusedVariables false

/- farandole/farandolelaw25.ProjectCanonical
 join rrrrrrrrrrrrlrborrlbrr: b_210:Int
 join rrrrrrrrrrrrlrborrlbr: a_193:Int
 loop rrrrrrrrrrrrlrb: a_165:Int, b_166:Int, x_167:Int
 loop rrrrrrrrrrlrb: i_148:Int
 loop rrrrrrrrrlrb: next_89:Int, x_90:Int -/
def W21 (p0_1 : ByteArray) (p0_2 p0_3 : Sl) (p0_4 p0_5 p0_6 : Int) (p0_7 p0_8 : Sl) (p1 : Int) (h : Heap) (R : Value → Heap → Prop) : Prop :=
 (∀ h9 : Heap, h9 = h.push (.cells ⟨[.string p0_1, .slice p0_2.a p0_2.n p0_2.c, .slice p0_3.a p0_3.n p0_3.c, .int .i64 p0_4, .int .i64 p0_5, .int .i64 p0_6, .slice p0_7.a p0_7.n p0_7.c, .slice p0_8.a p0_8.n p0_8.c]⟩ 27) →
 (∃ (x10 : ByteArray) (x11 x12 : Sl) (x13 x14 x15 : Int) (x16 x17 : Sl), atC h9 ⟨h.size, 0, none⟩ [.string x10, .slice x11.a x11.n x11.c, .slice x12.a x12.n x12.c, .int .i64 x13, .int .i64 x14, .int .i64 x15, .slice x16.a x16.n x16.c, .slice x17.a x17.n x17.c] ∧
 (Fn Tryz.prog 11 #[.agg ⟨[.string x10, .slice x11.a x11.n x11.c, .slice x12.a x12.n x12.c, .int .i64 x13, .int .i64 x14, .int .i64 x15, .slice x16.a x16.n x16.c, .slice x17.a x17.n x17.c]⟩] h9
 (fun v18 h20 => ∃ x19 : Bool, v18 = .bool x19 ∧
 (sB x19
 ((∃ (x21 : ByteArray) (x22 x23 : Sl) (x24 x25 x26 : Int) (x27 x28 : Sl), atC h20 ⟨h.size, 0, none⟩ [.string x21, .slice x22.a x22.n x22.c, .slice x23.a x23.n x23.c, .int .i64 x24, .int .i64 x25, .int .i64 x26, .slice x27.a x27.n x27.c, .slice x28.a x28.n x28.c] ∧
 (Fn Tryz.prog 49 #[.agg ⟨[.string x21, .slice x22.a x22.n x22.c, .slice x23.a x23.n x23.c, .int .i64 x24, .int .i64 x25, .int .i64 x26, .slice x27.a x27.n x27.c, .slice x28.a x28.n x28.c]⟩, .int .i64 p1] h20
 (fun v29 h31 => ∃ x30 : Bool, v29 = .bool x30 ∧
 R (.bool x30) h31))))
 (R (.bool false) h20))))))
theorem vc21 (p0_1 : ByteArray) (p0_2 p0_3 : Sl) (p0_4 p0_5 p0_6 : Int) (p0_7 p0_8 : Sl) (p1 : Int) (h : Heap) (R : Value → Heap → Prop) (H : W21 p0_1 p0_2 p0_3 p0_4 p0_5 p0_6 p0_7 p0_8 p1 h R) : Fn Tryz.prog 21 #[.agg ⟨[.string p0_1, .slice p0_2.a p0_2.n p0_2.c, .slice p0_3.a p0_3.n p0_3.c, .int .i64 p0_4, .int .i64 p0_5, .int .i64 p0_6, .slice p0_7.a p0_7.n p0_7.c, .slice p0_8.a p0_8.n p0_8.c]⟩, .int .i64 p1] h R := fnI (A := .z) (by kernel_rfl) H

/- farandole/farandoleref25.Next
 loop rlrb: i_17:Int -/
def W25 (p0_1 p0_2 p0_3 : Int) (p0_4 p0_5 p0_6 : Sl) (p1 p2_7 : Int) (p2_8 : Bool) (p2_9 p2_10 : Int) (p2_11 : Sl) (h : Heap) (R : Value → Heap → Prop) : Prop :=
 (∀ h12 : Heap, h12 = h.push (.cells ⟨[.int .i64 p0_1, .int .i64 p0_2, .int .i64 p0_3, .slice p0_4.a p0_4.n p0_4.c, .slice p0_5.a p0_5.n p0_5.c, .slice p0_6.a p0_6.n p0_6.c]⟩ 33) →
 (∀ h13 : Heap, h13 = h12.push (.cells ⟨[.int .i64 p2_7, .bool p2_8, .int .i64 p2_9, .int .i64 p2_10, .slice p2_11.a p2_11.n p2_11.c]⟩ 60) →
 (∃ I14 : Int → Heap → Nat → Prop, (∃ m15, I14 0 h13 m15) ∧
 (∀ (_ : Env) (i_17 : Int) (h18 : Heap) (m16 : Nat), I14 i_17 h18 m16 →
 (∃ x19 : Sl, hc h18 ⟨h.size, 4, none⟩ = some (.slice x19.a x19.n x19.c) ∧
 (sB (decide (i_17 < (x19.n : Int)))
 ((∃ x20 : Sl, hc h18 ⟨h.size, 4, none⟩ = some (.slice x20.a x20.n x20.c) ∧
 (NB x20.a fun b21 o22 => ((0 ≤ (i_17 : Int) ∧ (i_17 : Int) < (x20.n : Nat)) ∧
 (∃ (x23 : Int) (x24 : Bool) (x25 x26 x27 : Int) (x28 : Bool), atC h18 ⟨b21, o22 + Int.toNat i_17 * 6, none⟩ [.int .i64 x23, .bool x24, .int .i64 x25, .int .i64 x26, .int .i64 x27, .bool x28] ∧
 (∀ h29 : Heap, h29 = h18.push (.cells ⟨[.int .i64 0, .bool false, .int .i64 0, .int .i64 0, .int .i64 0, .bool false]⟩ 45) →
 (okAt h29 ⟨h18.size, 0, none⟩ 6 ∧ ∀ h30 : Heap, h30 = hputs h29 ⟨h18.size, 0, none⟩ 0 [.int .i64 x23, .bool x24, .int .i64 x25, .int .i64 x26, .int .i64 x27, .bool x28] →
 (∃ x31 : Int, hc h30 ⟨h12.size, 0, none⟩ = some (.int .i64 x31) ∧
 (∃ x32 : Int, hc h30 ⟨h.size, 0, none⟩ = some (.int .i64 x32) ∧
 (sB (x31 == x32)
 ((∃ x33 : Int, hc h30 ⟨h18.size, 0, none⟩ = some (.int .i64 x33) ∧
 (sB (x33 == p1)
 ((∃ x34 : Bool, hc h30 ⟨h18.size, 1, none⟩ = some (.bool x34) ∧
 (∃ x35 : Bool, hc h30 ⟨h12.size, 1, none⟩ = some (.bool x35) ∧
 (sB (x34 == x35)
 ((∃ x36 : Int, hc h30 ⟨h18.size, 2, none⟩ = some (.int .i64 x36) ∧
 (∃ x37 : Int, hc h30 ⟨h12.size, 2, none⟩ = some (.int .i64 x37) ∧
 (sB (x36 == x37)
 ((∃ x38 : Int, hc h30 ⟨h18.size, 3, none⟩ = some (.int .i64 x38) ∧
 (∃ x39 : Int, hc h30 ⟨h12.size, 3, none⟩ = some (.int .i64 x39) ∧
 (sB (x38 == x39)
 ((∃ x40 : Int, hc h30 ⟨h18.size, 4, none⟩ = some (.int .i64 x40) ∧
 R (.int .i64 x40) h30))
 ((∃ m41, m41 < m16 ∧ I14 (IntKind.wrap .i64 (i_17 + 1)) h30 m41))))))
 ((∃ m42, m42 < m16 ∧ I14 (IntKind.wrap .i64 (i_17 + 1)) h30 m42))))))
 ((∃ m43, m43 < m16 ∧ I14 (IntKind.wrap .i64 (i_17 + 1)) h30 m43))))))
 ((∃ m44, m44 < m16 ∧ I14 (IntKind.wrap .i64 (i_17 + 1)) h30 m44)))))
 ((∃ m45, m45 < m16 ∧ I14 (IntKind.wrap .i64 (i_17 + 1)) h30 m45))))))))))))
 (R (.int .i64 (-1)) h18)))))))
theorem vc25 (p0_1 p0_2 p0_3 : Int) (p0_4 p0_5 p0_6 : Sl) (p1 p2_7 : Int) (p2_8 : Bool) (p2_9 p2_10 : Int) (p2_11 : Sl) (h : Heap) (R : Value → Heap → Prop) (H : W25 p0_1 p0_2 p0_3 p0_4 p0_5 p0_6 p1 p2_7 p2_8 p2_9 p2_10 p2_11 h R) : Fn Tryz.prog 25 #[.agg ⟨[.int .i64 p0_1, .int .i64 p0_2, .int .i64 p0_3, .slice p0_4.a p0_4.n p0_4.c, .slice p0_5.a p0_5.n p0_5.c, .slice p0_6.a p0_6.n p0_6.c]⟩, .int .i64 p1, .agg ⟨[.int .i64 p2_7, .bool p2_8, .int .i64 p2_9, .int .i64 p2_10, .slice p2_11.a p2_11.n p2_11.c]⟩] h R := fnI (A := (.s .z (.s (.s .z (.b (.l [(7, .one (.int .i64))] .z))) .z))) (by kernel_rfl) H

def W31 (p0_1 : ByteArray) (p0_2 p0_3 : Sl) (p0_4 p0_5 p0_6 : Int) (p0_7 p0_8 : Sl) (h : Heap) (R : Value → Heap → Prop) : Prop :=
 (∀ h9 : Heap, h9 = h.push (.cells ⟨[.string p0_1, .slice p0_2.a p0_2.n p0_2.c, .slice p0_3.a p0_3.n p0_3.c, .int .i64 p0_4, .int .i64 p0_5, .int .i64 p0_6, .slice p0_7.a p0_7.n p0_7.c, .slice p0_8.a p0_8.n p0_8.c]⟩ 27) →
 (∃ (x10 : ByteArray) (x11 x12 : Sl) (x13 x14 x15 : Int) (x16 x17 : Sl), atC h9 ⟨h.size, 0, none⟩ [.string x10, .slice x11.a x11.n x11.c, .slice x12.a x12.n x12.c, .int .i64 x13, .int .i64 x14, .int .i64 x15, .slice x16.a x16.n x16.c, .slice x17.a x17.n x17.c] ∧
 (Fn Tryz.prog 64 #[.agg ⟨[.string x10, .slice x11.a x11.n x11.c, .slice x12.a x12.n x12.c, .int .i64 x13, .int .i64 x14, .int .i64 x15, .slice x16.a x16.n x16.c, .slice x17.a x17.n x17.c]⟩] h9
 (fun v18 h20 => ∃ x19 : Bool, v18 = .bool x19 ∧
 (sB x19
 ((∃ (x21 : ByteArray) (x22 x23 : Sl) (x24 x25 x26 : Int) (x27 x28 : Sl), atC h20 ⟨h.size, 0, none⟩ [.string x21, .slice x22.a x22.n x22.c, .slice x23.a x23.n x23.c, .int .i64 x24, .int .i64 x25, .int .i64 x26, .slice x27.a x27.n x27.c, .slice x28.a x28.n x28.c] ∧
 (Fn Tryz.prog 65 #[.agg ⟨[.string x21, .slice x22.a x22.n x22.c, .slice x23.a x23.n x23.c, .int .i64 x24, .int .i64 x25, .int .i64 x26, .slice x27.a x27.n x27.c, .slice x28.a x28.n x28.c]⟩] h20
 (fun v29 h31 => ∃ x30 : Bool, v29 = .bool x30 ∧
 (sB x30
 ((∃ (x32 : ByteArray) (x33 x34 : Sl) (x35 x36 x37 : Int) (x38 x39 : Sl), atC h31 ⟨h.size, 0, none⟩ [.string x32, .slice x33.a x33.n x33.c, .slice x34.a x34.n x34.c, .int .i64 x35, .int .i64 x36, .int .i64 x37, .slice x38.a x38.n x38.c, .slice x39.a x39.n x39.c] ∧
 (Fn Tryz.prog 66 #[.agg ⟨[.string x32, .slice x33.a x33.n x33.c, .slice x34.a x34.n x34.c, .int .i64 x35, .int .i64 x36, .int .i64 x37, .slice x38.a x38.n x38.c, .slice x39.a x39.n x39.c]⟩] h31
 (fun v40 h42 => ∃ x41 : Bool, v40 = .bool x41 ∧
 (sB x41
 ((∃ (x43 : ByteArray) (x44 x45 : Sl) (x46 x47 x48 : Int) (x49 x50 : Sl), atC h42 ⟨h.size, 0, none⟩ [.string x43, .slice x44.a x44.n x44.c, .slice x45.a x45.n x45.c, .int .i64 x46, .int .i64 x47, .int .i64 x48, .slice x49.a x49.n x49.c, .slice x50.a x50.n x50.c] ∧
 (Fn Tryz.prog 67 #[.agg ⟨[.string x43, .slice x44.a x44.n x44.c, .slice x45.a x45.n x45.c, .int .i64 x46, .int .i64 x47, .int .i64 x48, .slice x49.a x49.n x49.c, .slice x50.a x50.n x50.c]⟩] h42
 (fun v51 h53 => ∃ x52 : Bool, v51 = .bool x52 ∧
 (sB x52
 ((∃ (x54 : ByteArray) (x55 x56 : Sl) (x57 x58 x59 : Int) (x60 x61 : Sl), atC h53 ⟨h.size, 0, none⟩ [.string x54, .slice x55.a x55.n x55.c, .slice x56.a x56.n x56.c, .int .i64 x57, .int .i64 x58, .int .i64 x59, .slice x60.a x60.n x60.c, .slice x61.a x61.n x61.c] ∧
 (Fn Tryz.prog 68 #[.agg ⟨[.string x54, .slice x55.a x55.n x55.c, .slice x56.a x56.n x56.c, .int .i64 x57, .int .i64 x58, .int .i64 x59, .slice x60.a x60.n x60.c, .slice x61.a x61.n x61.c]⟩] h53
 (fun v62 h64 => ∃ x63 : Bool, v62 = .bool x63 ∧
 R (.bool x63) h64))))
 (R (.bool false) h53))))))
 (R (.bool false) h42))))))
 (R (.bool false) h31))))))
 (R (.bool false) h20))))))
theorem vc31 (p0_1 : ByteArray) (p0_2 p0_3 : Sl) (p0_4 p0_5 p0_6 : Int) (p0_7 p0_8 : Sl) (h : Heap) (R : Value → Heap → Prop) (H : W31 p0_1 p0_2 p0_3 p0_4 p0_5 p0_6 p0_7 p0_8 h R) : Fn Tryz.prog 31 #[.agg ⟨[.string p0_1, .slice p0_2.a p0_2.n p0_2.c, .slice p0_3.a p0_3.n p0_3.c, .int .i64 p0_4, .int .i64 p0_5, .int .i64 p0_6, .slice p0_7.a p0_7.n p0_7.c, .slice p0_8.a p0_8.n p0_8.c]⟩] h R := fnI (A := .z) (by kernel_rfl) H

def W49 (p0_1 : ByteArray) (p0_2 p0_3 : Sl) (p0_4 p0_5 p0_6 : Int) (p0_7 p0_8 : Sl) (p1 : Int) (h : Heap) (R : Value → Heap → Prop) : Prop :=
 (∀ h9 : Heap, h9 = h.push (.cells ⟨[.string p0_1, .slice p0_2.a p0_2.n p0_2.c, .slice p0_3.a p0_3.n p0_3.c, .int .i64 p0_4, .int .i64 p0_5, .int .i64 p0_6, .slice p0_7.a p0_7.n p0_7.c, .slice p0_8.a p0_8.n p0_8.c]⟩ 27) →
 (∃ (x10 : ByteArray) (x11 x12 : Sl) (x13 x14 x15 : Int) (x16 x17 : Sl), atC h9 ⟨h.size, 0, none⟩ [.string x10, .slice x11.a x11.n x11.c, .slice x12.a x12.n x12.c, .int .i64 x13, .int .i64 x14, .int .i64 x15, .slice x16.a x16.n x16.c, .slice x17.a x17.n x17.c] ∧
 (Fn Tryz.prog 31 #[.agg ⟨[.string x10, .slice x11.a x11.n x11.c, .slice x12.a x12.n x12.c, .int .i64 x13, .int .i64 x14, .int .i64 x15, .slice x16.a x16.n x16.c, .slice x17.a x17.n x17.c]⟩] h9
 (fun v18 h20 => ∃ x19 : Bool, v18 = .bool x19 ∧
 (sB x19
 ((sB (decide (p1 ≥ 0))
 ((∃ x21 : Sl, hc h20 ⟨h.size, 1, none⟩ = some (.slice x21.a x21.n x21.c) ∧
 R (.bool (decide (p1 < (x21.n : Int)))) h20))
 (R (.bool false) h20)))
 (R (.bool false) h20))))))
theorem vc49 (p0_1 : ByteArray) (p0_2 p0_3 : Sl) (p0_4 p0_5 p0_6 : Int) (p0_7 p0_8 : Sl) (p1 : Int) (h : Heap) (R : Value → Heap → Prop) (H : W49 p0_1 p0_2 p0_3 p0_4 p0_5 p0_6 p0_7 p0_8 p1 h R) : Fn Tryz.prog 49 #[.agg ⟨[.string p0_1, .slice p0_2.a p0_2.n p0_2.c, .slice p0_3.a p0_3.n p0_3.c, .int .i64 p0_4, .int .i64 p0_5, .int .i64 p0_6, .slice p0_7.a p0_7.n p0_7.c, .slice p0_8.a p0_8.n p0_8.c]⟩, .int .i64 p1] h R := fnI (A := .z) (by kernel_rfl) H

/- farandole/farandoleref18.names
 loop rlrb: i_13:Int -/
def W64 (p0_1 : ByteArray) (p0_2 p0_3 : Sl) (p0_4 p0_5 p0_6 : Int) (p0_7 p0_8 : Sl) (h : Heap) (R : Value → Heap → Prop) : Prop :=
 (∀ h9 : Heap, h9 = h.push (.cells ⟨[.string p0_1, .slice p0_2.a p0_2.n p0_2.c, .slice p0_3.a p0_3.n p0_3.c, .int .i64 p0_4, .int .i64 p0_5, .int .i64 p0_6, .slice p0_7.a p0_7.n p0_7.c, .slice p0_8.a p0_8.n p0_8.c]⟩ 27) →
 (∃ I10 : Int → Heap → Nat → Prop, (∃ m11, I10 0 h9 m11) ∧
 (∀ (_ : Env) (i_13 : Int) (h14 : Heap) (m12 : Nat), I10 i_13 h14 m12 →
 (∃ x15 : Sl, hc h14 ⟨h.size, 1, none⟩ = some (.slice x15.a x15.n x15.c) ∧
 (sB (decide (i_13 < (x15.n : Int)))
 ((∃ x16 : Sl, hc h14 ⟨h.size, 1, none⟩ = some (.slice x16.a x16.n x16.c) ∧
 (NB x16.a fun b17 o18 => ((0 ≤ (i_13 : Int) ∧ (i_13 : Int) < (x16.n : Nat)) ∧
 (∃ x19 : ByteArray, hc h14 ⟨b17, o18 + Int.toNat i_13 * 1, none⟩ = some (.string x19) ∧
 (Fn Tryz.prog 111 #[.string x19] h14
 (fun v20 h22 => ∃ x21 : Bool, v20 = .bool x21 ∧
 (sB (!x21)
 (R (.bool false) h22)
 ((∃ x23 : Sl, hc h22 ⟨h.size, 1, none⟩ = some (.slice x23.a x23.n x23.c) ∧
 (∃ x24 : Sl, hc h22 ⟨h.size, 1, none⟩ = some (.slice x24.a x24.n x24.c) ∧
 (NB x24.a fun b25 o26 => ((0 ≤ (i_13 : Int) ∧ (i_13 : Int) < (x24.n : Nat)) ∧
 (∃ x27 : ByteArray, hc h22 ⟨b25, o26 + Int.toNat i_13 * 1, none⟩ = some (.string x27) ∧
 (Fn Tryz.prog 112 #[.slice x23.a x23.n x23.c, .string x27] h22
 (fun v28 h30 => ∃ x29 : Int, v28 = .int .i64 x29 ∧
 (Sm [⟨b17, o18 + Int.toNat i_13 * 1, none⟩, ⟨h.size, 1, none⟩] h22 h30 ∧
 (sB (decide (x29 < i_13))
 (R (.bool false) h30)
 ((∃ m31, m31 < m12 ∧ I10 (IntKind.wrap .i64 (i_13 + 1)) h30 m31))))))))))))))))))))
 ((∃ x32 : ByteArray, hc h14 ⟨h.size, 0, none⟩ = some (.string x32) ∧
 (Fn Tryz.prog 111 #[.string x32] h14
 (fun v33 h35 => ∃ x34 : Bool, v33 = .bool x34 ∧
 (sB x34
 ((∃ x36 : Sl, hc h35 ⟨h.size, 1, none⟩ = some (.slice x36.a x36.n x36.c) ∧
 (sB (decide ((x36.n : Int) ≥ 1))
 ((∃ x37 : Sl, hc h35 ⟨h.size, 1, none⟩ = some (.slice x37.a x37.n x37.c) ∧
 (sB (decide ((x37.n : Int) ≤ 6))
 ((∃ x38 : Sl, hc h35 ⟨h.size, 2, none⟩ = some (.slice x38.a x38.n x38.c) ∧
 (Fn Tryz.prog 113 #[.slice x38.a x38.n x38.c] h35
 (fun v39 h41 => ∃ x40 : Bool, v39 = .bool x40 ∧
 R (.bool x40) h41))))
 (R (.bool false) h35))))
 (R (.bool false) h35))))
 (R (.bool false) h35)))))))))))
theorem vc64 (p0_1 : ByteArray) (p0_2 p0_3 : Sl) (p0_4 p0_5 p0_6 : Int) (p0_7 p0_8 : Sl) (h : Heap) (R : Value → Heap → Prop) (H : W64 p0_1 p0_2 p0_3 p0_4 p0_5 p0_6 p0_7 p0_8 h R) : Fn Tryz.prog 64 #[.agg ⟨[.string p0_1, .slice p0_2.a p0_2.n p0_2.c, .slice p0_3.a p0_3.n p0_3.c, .int .i64 p0_4, .int .i64 p0_5, .int .i64 p0_6, .slice p0_7.a p0_7.n p0_7.c, .slice p0_8.a p0_8.n p0_8.c]⟩] h R := fnI (A := (.s .z (.s (.s .z (.b (.l [(3, .one (.int .i64))] .z))) .z))) (by kernel_rfl) H

/- farandole/farandoleref18.numbers
 loop rlrb: i_13:Int -/
def W65 (p0_1 : ByteArray) (p0_2 p0_3 : Sl) (p0_4 p0_5 p0_6 : Int) (p0_7 p0_8 : Sl) (h : Heap) (R : Value → Heap → Prop) : Prop :=
 (∀ h9 : Heap, h9 = h.push (.cells ⟨[.string p0_1, .slice p0_2.a p0_2.n p0_2.c, .slice p0_3.a p0_3.n p0_3.c, .int .i64 p0_4, .int .i64 p0_5, .int .i64 p0_6, .slice p0_7.a p0_7.n p0_7.c, .slice p0_8.a p0_8.n p0_8.c]⟩ 27) →
 (∃ I10 : Int → Heap → Nat → Prop, (∃ m11, I10 0 h9 m11) ∧
 (∀ (_ : Env) (i_13 : Int) (h14 : Heap) (m12 : Nat), I10 i_13 h14 m12 →
 (∃ x15 : Sl, hc h14 ⟨h.size, 6, none⟩ = some (.slice x15.a x15.n x15.c) ∧
 (sB (decide (i_13 < (x15.n : Int)))
 ((∃ x16 : Sl, hc h14 ⟨h.size, 6, none⟩ = some (.slice x16.a x16.n x16.c) ∧
 (NB x16.a fun b17 o18 => ((0 ≤ (i_13 : Int) ∧ (i_13 : Int) < (x16.n : Nat)) ∧
 (∃ (x19 x20 x21 x22 x23 : Int) (x24 : Bool), atC h14 ⟨b17, o18 + Int.toNat i_13 * 6, none⟩ [.int .i64 x19, .int .i64 x20, .int .i64 x21, .int .i64 x22, .int .i64 x23, .bool x24] ∧
 (∀ h25 : Heap, h25 = h14.push (.cells ⟨[.int .i64 0, .int .i64 0, .int .i64 0, .int .i64 0, .int .i64 0, .bool false]⟩ 55) →
 (okAt h25 ⟨h14.size, 0, none⟩ 6 ∧ ∀ h26 : Heap, h26 = hputs h25 ⟨h14.size, 0, none⟩ 0 [.int .i64 x19, .int .i64 x20, .int .i64 x21, .int .i64 x22, .int .i64 x23, .bool x24] →
 (∃ (x27 : ByteArray) (x28 x29 : Sl) (x30 x31 x32 : Int) (x33 x34 : Sl), atC h26 ⟨h.size, 0, none⟩ [.string x27, .slice x28.a x28.n x28.c, .slice x29.a x29.n x29.c, .int .i64 x30, .int .i64 x31, .int .i64 x32, .slice x33.a x33.n x33.c, .slice x34.a x34.n x34.c] ∧
 (∃ x35 : Int, hc h26 ⟨h14.size, 0, none⟩ = some (.int .i64 x35) ∧
 (Fn Tryz.prog 114 #[.agg ⟨[.string x27, .slice x28.a x28.n x28.c, .slice x29.a x29.n x29.c, .int .i64 x30, .int .i64 x31, .int .i64 x32, .slice x33.a x33.n x33.c, .slice x34.a x34.n x34.c]⟩, .int .i64 x35] h26
 (fun v36 h38 => ∃ x37 : Bool, v36 = .bool x37 ∧
 (sB (!x37)
 (R (.bool false) h38)
 ((∃ (x39 : ByteArray) (x40 x41 : Sl) (x42 x43 x44 : Int) (x45 x46 : Sl), atC h38 ⟨h.size, 0, none⟩ [.string x39, .slice x40.a x40.n x40.c, .slice x41.a x41.n x41.c, .int .i64 x42, .int .i64 x43, .int .i64 x44, .slice x45.a x45.n x45.c, .slice x46.a x46.n x46.c] ∧
 (∃ x47 : Int, hc h38 ⟨h14.size, 4, none⟩ = some (.int .i64 x47) ∧
 (Fn Tryz.prog 114 #[.agg ⟨[.string x39, .slice x40.a x40.n x40.c, .slice x41.a x41.n x41.c, .int .i64 x42, .int .i64 x43, .int .i64 x44, .slice x45.a x45.n x45.c, .slice x46.a x46.n x46.c]⟩, .int .i64 x47] h38
 (fun v48 h50 => ∃ x49 : Bool, v48 = .bool x49 ∧
 (sB (!x49)
 (R (.bool false) h50)
 ((∃ x51 : Int, hc h50 ⟨h14.size, 1, none⟩ = some (.int .i64 x51) ∧
 (sB (decide (x51 < 0))
 (R (.bool false) h50)
 ((∃ x52 : Int, hc h50 ⟨h14.size, 1, none⟩ = some (.int .i64 x52) ∧
 (∃ x53 : Sl, hc h50 ⟨h.size, 1, none⟩ = some (.slice x53.a x53.n x53.c) ∧
 (sB (decide (x52 ≥ (x53.n : Int)))
 (R (.bool false) h50)
 ((∃ x54 : Int, hc h50 ⟨h14.size, 1 + 1, none⟩ = some (.int .i64 x54) ∧
 (sB (decide (x54 < 0))
 (R (.bool false) h50)
 ((∃ x55 : Int, hc h50 ⟨h14.size, 1 + 1, none⟩ = some (.int .i64 x55) ∧
 (∃ x56 : Sl, hc h50 ⟨h.size, 1, none⟩ = some (.slice x56.a x56.n x56.c) ∧
 (sB (decide (x55 ≥ (x56.n : Int)))
 (R (.bool false) h50)
 ((∃ x57 : Int, hc h50 ⟨h14.size, 1, none⟩ = some (.int .i64 x57) ∧
 (∃ x58 : Int, hc h50 ⟨h14.size, 1 + 1, none⟩ = some (.int .i64 x58) ∧
 (sB (x57 == x58)
 (R (.bool false) h50)
 ((∃ x59 : Int, hc h50 ⟨h14.size, 1 + 2, none⟩ = some (.int .i64 x59) ∧
 (sB (decide (x59 < 0))
 (R (.bool false) h50)
 ((∃ x60 : Int, hc h50 ⟨h14.size, 1 + 2, none⟩ = some (.int .i64 x60) ∧
 (∃ x61 : Sl, hc h50 ⟨h.size, 2, none⟩ = some (.slice x61.a x61.n x61.c) ∧
 (sB (decide (x60 ≥ (x61.n : Int)))
 (R (.bool false) h50)
 ((∃ m62, m62 < m12 ∧ I10 (IntKind.wrap .i64 (i_13 + 1)) h50 m62)))))))))))))))))))))))))))))))))))))))))))))
 ((∃ x63 : Int, hc h14 ⟨h.size, 3, none⟩ = some (.int .i64 x63) ∧
 (sB (decide (x63 ≥ 1))
 ((∃ x64 : Int, hc h14 ⟨h.size, 3, none⟩ = some (.int .i64 x64) ∧
 (sB (decide (x64 ≤ 200))
 ((∃ (x65 : ByteArray) (x66 x67 : Sl) (x68 x69 x70 : Int) (x71 x72 : Sl), atC h14 ⟨h.size, 0, none⟩ [.string x65, .slice x66.a x66.n x66.c, .slice x67.a x67.n x67.c, .int .i64 x68, .int .i64 x69, .int .i64 x70, .slice x71.a x71.n x71.c, .slice x72.a x72.n x72.c] ∧
 (∃ x73 : Int, hc h14 ⟨h.size, 4, none⟩ = some (.int .i64 x73) ∧
 (Fn Tryz.prog 114 #[.agg ⟨[.string x65, .slice x66.a x66.n x66.c, .slice x67.a x67.n x67.c, .int .i64 x68, .int .i64 x69, .int .i64 x70, .slice x71.a x71.n x71.c, .slice x72.a x72.n x72.c]⟩, .int .i64 x73] h14
 (fun v74 h76 => ∃ x75 : Bool, v74 = .bool x75 ∧
 (sB x75
 ((∃ (x77 : ByteArray) (x78 x79 : Sl) (x80 x81 x82 : Int) (x83 x84 : Sl), atC h76 ⟨h.size, 0, none⟩ [.string x77, .slice x78.a x78.n x78.c, .slice x79.a x79.n x79.c, .int .i64 x80, .int .i64 x81, .int .i64 x82, .slice x83.a x83.n x83.c, .slice x84.a x84.n x84.c] ∧
 (∃ x85 : Int, hc h76 ⟨h.size, 5, none⟩ = some (.int .i64 x85) ∧
 (Fn Tryz.prog 114 #[.agg ⟨[.string x77, .slice x78.a x78.n x78.c, .slice x79.a x79.n x79.c, .int .i64 x80, .int .i64 x81, .int .i64 x82, .slice x83.a x83.n x83.c, .slice x84.a x84.n x84.c]⟩, .int .i64 x85] h76
 (fun v86 h88 => ∃ x87 : Bool, v86 = .bool x87 ∧
 (sB x87
 ((∃ x89 : Sl, hc h88 ⟨h.size, 6, none⟩ = some (.slice x89.a x89.n x89.c) ∧
 R (.bool (decide ((x89.n : Int) ≤ 400))) h88))
 (R (.bool false) h88)))))))
 (R (.bool false) h76)))))))
 (R (.bool false) h14))))
 (R (.bool false) h14)))))))))
theorem vc65 (p0_1 : ByteArray) (p0_2 p0_3 : Sl) (p0_4 p0_5 p0_6 : Int) (p0_7 p0_8 : Sl) (h : Heap) (R : Value → Heap → Prop) (H : W65 p0_1 p0_2 p0_3 p0_4 p0_5 p0_6 p0_7 p0_8 h R) : Fn Tryz.prog 65 #[.agg ⟨[.string p0_1, .slice p0_2.a p0_2.n p0_2.c, .slice p0_3.a p0_3.n p0_3.c, .int .i64 p0_4, .int .i64 p0_5, .int .i64 p0_6, .slice p0_7.a p0_7.n p0_7.c, .slice p0_8.a p0_8.n p0_8.c]⟩] h R := fnI (A := (.s .z (.s (.s .z (.b (.l [(3, .one (.int .i64))] .z))) .z))) (by kernel_rfl) H

/- farandole/farandoleref18.apart
 loop rlrborlbrrrb: k_33:Int
 loop rlrborlbrrrb: k_92:Int
 loop rlrb: i_13:Int -/
def W66 (p0_1 : ByteArray) (p0_2 p0_3 : Sl) (p0_4 p0_5 p0_6 : Int) (p0_7 p0_8 : Sl) (h : Heap) (R : Value → Heap → Prop) : Prop :=
 (∀ h9 : Heap, h9 = h.push (.cells ⟨[.string p0_1, .slice p0_2.a p0_2.n p0_2.c, .slice p0_3.a p0_3.n p0_3.c, .int .i64 p0_4, .int .i64 p0_5, .int .i64 p0_6, .slice p0_7.a p0_7.n p0_7.c, .slice p0_8.a p0_8.n p0_8.c]⟩ 27) →
 (∃ I10 : Int → Heap → Nat → Prop, (∃ m11, I10 0 h9 m11) ∧
 (∀ (_ : Env) (i_13 : Int) (h14 : Heap) (m12 : Nat), I10 i_13 h14 m12 →
 (∃ x15 : Sl, hc h14 ⟨h.size, 6, none⟩ = some (.slice x15.a x15.n x15.c) ∧
 (sB (decide (i_13 < (x15.n : Int)))
 ((∃ x16 : Sl, hc h14 ⟨h.size, 6, none⟩ = some (.slice x16.a x16.n x16.c) ∧
 (NB x16.a fun b17 o18 => ((0 ≤ (i_13 : Int) ∧ (i_13 : Int) < (x16.n : Nat)) ∧
 (∃ (x19 x20 x21 x22 x23 : Int) (x24 : Bool), atC h14 ⟨b17, o18 + Int.toNat i_13 * 6, none⟩ [.int .i64 x19, .int .i64 x20, .int .i64 x21, .int .i64 x22, .int .i64 x23, .bool x24] ∧
 (∀ h25 : Heap, h25 = h14.push (.cells ⟨[.int .i64 0, .int .i64 0, .int .i64 0, .int .i64 0, .int .i64 0, .bool false]⟩ 55) →
 (okAt h25 ⟨h14.size, 0, none⟩ 6 ∧ ∀ h26 : Heap, h26 = hputs h25 ⟨h14.size, 0, none⟩ 0 [.int .i64 x19, .int .i64 x20, .int .i64 x21, .int .i64 x22, .int .i64 x23, .bool x24] →
 (∃ x27 : Bool, hc h26 ⟨h14.size, 5, none⟩ = some (.bool x27) ∧
 (sB x27
 ((∃ x28 : Int, hc h26 ⟨h14.size, 0, none⟩ = some (.int .i64 x28) ∧
 (∃ x29 : Int, hc h26 ⟨h.size, 4, none⟩ = some (.int .i64 x29) ∧
 (sB (x28 == x29)
 (R (.bool false) h26)
 ((∃ I30 : Int → Heap → Nat → Prop, (∃ m31, I30 0 h26 m31) ∧
 (∀ (_ : Env) (k_33 : Int) (h34 : Heap) (m32 : Nat), I30 k_33 h34 m32 →
 (∃ x35 : Sl, hc h34 ⟨h.size, 6, none⟩ = some (.slice x35.a x35.n x35.c) ∧
 (sB (decide (k_33 < (x35.n : Int)))
 ((∃ x36 : Sl, hc h34 ⟨h.size, 6, none⟩ = some (.slice x36.a x36.n x36.c) ∧
 (NB x36.a fun b37 o38 => ((0 ≤ (k_33 : Int) ∧ (k_33 : Int) < (x36.n : Nat)) ∧
 (∃ (x39 x40 x41 x42 x43 : Int) (x44 : Bool), atC h34 ⟨b37, o38 + Int.toNat k_33 * 6, none⟩ [.int .i64 x39, .int .i64 x40, .int .i64 x41, .int .i64 x42, .int .i64 x43, .bool x44] ∧
 (∀ h45 : Heap, h45 = h34.push (.cells ⟨[.int .i64 0, .int .i64 0, .int .i64 0, .int .i64 0, .int .i64 0, .bool false]⟩ 55) →
 (okAt h45 ⟨h34.size, 0, none⟩ 6 ∧ ∀ h46 : Heap, h46 = hputs h45 ⟨h34.size, 0, none⟩ 0 [.int .i64 x39, .int .i64 x40, .int .i64 x41, .int .i64 x42, .int .i64 x43, .bool x44] →
 (sB (k_33 != i_13)
 ((∃ x47 : Int, hc h46 ⟨h14.size, 0, none⟩ = some (.int .i64 x47) ∧
 (∃ x48 : Int, hc h46 ⟨h34.size, 0, none⟩ = some (.int .i64 x48) ∧
 (sB (x47 == x48)
 ((∃ (x49 x50 x51 : Int), atC h46 ⟨h14.size, 1, none⟩ [.int .i64 x49, .int .i64 x50, .int .i64 x51] ∧
 (∃ (x52 x53 x54 : Int), atC h46 ⟨h34.size, 1, none⟩ [.int .i64 x52, .int .i64 x53, .int .i64 x54] ∧
 (sB ((x49 == x52) && ((x50 == x53) && ((x51 == x54) && true)))
 (R (.bool false) h46)
 ((∃ x55 : Int, hc h46 ⟨h14.size, 1, none⟩ = some (.int .i64 x55) ∧
 (∃ x56 : Int, hc h46 ⟨h34.size, 1, none⟩ = some (.int .i64 x56) ∧
 (sB (x55 != x56)
 (R (.bool false) h46)
 ((∃ x57 : Bool, hc h46 ⟨h14.size, 5, none⟩ = some (.bool x57) ∧
 (sB x57
 (R (.bool false) h46)
 ((∃ x58 : Bool, hc h46 ⟨h14.size, 5, none⟩ = some (.bool x58) ∧
 (sB x58
 ((∃ x59 : Int, hc h46 ⟨h34.size, 4, none⟩ = some (.int .i64 x59) ∧
 (∃ x60 : Int, hc h46 ⟨h14.size, 0, none⟩ = some (.int .i64 x60) ∧
 (sB (x59 == x60)
 ((∃ x61 : Int, hc h46 ⟨h34.size, 1, none⟩ = some (.int .i64 x61) ∧
 (∃ x62 : Int, hc h46 ⟨h14.size, 1, none⟩ = some (.int .i64 x62) ∧
 (sB (x61 != x62)
 (R (.bool false) h46)
 ((∃ x63 : Int, hc h46 ⟨h34.size, 1 + 2, none⟩ = some (.int .i64 x63) ∧
 (∃ x64 : Int, hc h46 ⟨h14.size, 1 + 2, none⟩ = some (.int .i64 x64) ∧
 (sB (x63 != x64)
 (R (.bool false) h46)
 ((∃ m65, m65 < m32 ∧ I30 (IntKind.wrap .i64 (k_33 + 1)) h46 m65))))))))))
 ((∃ m66, m66 < m32 ∧ I30 (IntKind.wrap .i64 (k_33 + 1)) h46 m66))))))
 ((∃ m67, m67 < m32 ∧ I30 (IntKind.wrap .i64 (k_33 + 1)) h46 m67))))))))))))))))
 ((∃ x68 : Bool, hc h46 ⟨h14.size, 5, none⟩ = some (.bool x68) ∧
 (sB x68
 ((∃ x69 : Int, hc h46 ⟨h34.size, 4, none⟩ = some (.int .i64 x69) ∧
 (∃ x70 : Int, hc h46 ⟨h14.size, 0, none⟩ = some (.int .i64 x70) ∧
 (sB (x69 == x70)
 ((∃ x71 : Int, hc h46 ⟨h34.size, 1, none⟩ = some (.int .i64 x71) ∧
 (∃ x72 : Int, hc h46 ⟨h14.size, 1, none⟩ = some (.int .i64 x72) ∧
 (sB (x71 != x72)
 (R (.bool false) h46)
 ((∃ x73 : Int, hc h46 ⟨h34.size, 1 + 2, none⟩ = some (.int .i64 x73) ∧
 (∃ x74 : Int, hc h46 ⟨h14.size, 1 + 2, none⟩ = some (.int .i64 x74) ∧
 (sB (x73 != x74)
 (R (.bool false) h46)
 ((∃ m75, m75 < m32 ∧ I30 (IntKind.wrap .i64 (k_33 + 1)) h46 m75))))))))))
 ((∃ m76, m76 < m32 ∧ I30 (IntKind.wrap .i64 (k_33 + 1)) h46 m76))))))
 ((∃ m77, m77 < m32 ∧ I30 (IntKind.wrap .i64 (k_33 + 1)) h46 m77)))))))))
 ((∃ x78 : Bool, hc h46 ⟨h14.size, 5, none⟩ = some (.bool x78) ∧
 (sB x78
 ((∃ x79 : Int, hc h46 ⟨h34.size, 4, none⟩ = some (.int .i64 x79) ∧
 (∃ x80 : Int, hc h46 ⟨h14.size, 0, none⟩ = some (.int .i64 x80) ∧
 (sB (x79 == x80)
 ((∃ x81 : Int, hc h46 ⟨h34.size, 1, none⟩ = some (.int .i64 x81) ∧
 (∃ x82 : Int, hc h46 ⟨h14.size, 1, none⟩ = some (.int .i64 x82) ∧
 (sB (x81 != x82)
 (R (.bool false) h46)
 ((∃ x83 : Int, hc h46 ⟨h34.size, 1 + 2, none⟩ = some (.int .i64 x83) ∧
 (∃ x84 : Int, hc h46 ⟨h14.size, 1 + 2, none⟩ = some (.int .i64 x84) ∧
 (sB (x83 != x84)
 (R (.bool false) h46)
 ((∃ m85, m85 < m32 ∧ I30 (IntKind.wrap .i64 (k_33 + 1)) h46 m85))))))))))
 ((∃ m86, m86 < m32 ∧ I30 (IntKind.wrap .i64 (k_33 + 1)) h46 m86))))))
 ((∃ m87, m87 < m32 ∧ I30 (IntKind.wrap .i64 (k_33 + 1)) h46 m87)))))))))))))
 ((∃ m88, m88 < m12 ∧ I10 (IntKind.wrap .i64 (i_13 + 1)) h34 m88)))))))))))
 ((∃ I89 : Int → Heap → Nat → Prop, (∃ m90, I89 0 h26 m90) ∧
 (∀ (_ : Env) (k_92 : Int) (h93 : Heap) (m91 : Nat), I89 k_92 h93 m91 →
 (∃ x94 : Sl, hc h93 ⟨h.size, 6, none⟩ = some (.slice x94.a x94.n x94.c) ∧
 (sB (decide (k_92 < (x94.n : Int)))
 ((∃ x95 : Sl, hc h93 ⟨h.size, 6, none⟩ = some (.slice x95.a x95.n x95.c) ∧
 (NB x95.a fun b96 o97 => ((0 ≤ (k_92 : Int) ∧ (k_92 : Int) < (x95.n : Nat)) ∧
 (∃ (x98 x99 x100 x101 x102 : Int) (x103 : Bool), atC h93 ⟨b96, o97 + Int.toNat k_92 * 6, none⟩ [.int .i64 x98, .int .i64 x99, .int .i64 x100, .int .i64 x101, .int .i64 x102, .bool x103] ∧
 (∀ h104 : Heap, h104 = h93.push (.cells ⟨[.int .i64 0, .int .i64 0, .int .i64 0, .int .i64 0, .int .i64 0, .bool false]⟩ 55) →
 (okAt h104 ⟨h93.size, 0, none⟩ 6 ∧ ∀ h105 : Heap, h105 = hputs h104 ⟨h93.size, 0, none⟩ 0 [.int .i64 x98, .int .i64 x99, .int .i64 x100, .int .i64 x101, .int .i64 x102, .bool x103] →
 (sB (k_92 != i_13)
 ((∃ x106 : Int, hc h105 ⟨h14.size, 0, none⟩ = some (.int .i64 x106) ∧
 (∃ x107 : Int, hc h105 ⟨h93.size, 0, none⟩ = some (.int .i64 x107) ∧
 (sB (x106 == x107)
 ((∃ (x108 x109 x110 : Int), atC h105 ⟨h14.size, 1, none⟩ [.int .i64 x108, .int .i64 x109, .int .i64 x110] ∧
 (∃ (x111 x112 x113 : Int), atC h105 ⟨h93.size, 1, none⟩ [.int .i64 x111, .int .i64 x112, .int .i64 x113] ∧
 (sB ((x108 == x111) && ((x109 == x112) && ((x110 == x113) && true)))
 (R (.bool false) h105)
 ((∃ x114 : Int, hc h105 ⟨h14.size, 1, none⟩ = some (.int .i64 x114) ∧
 (∃ x115 : Int, hc h105 ⟨h93.size, 1, none⟩ = some (.int .i64 x115) ∧
 (sB (x114 != x115)
 (R (.bool false) h105)
 ((∃ x116 : Bool, hc h105 ⟨h14.size, 5, none⟩ = some (.bool x116) ∧
 (sB x116
 (R (.bool false) h105)
 ((∃ x117 : Bool, hc h105 ⟨h14.size, 5, none⟩ = some (.bool x117) ∧
 (sB x117
 ((∃ x118 : Int, hc h105 ⟨h93.size, 4, none⟩ = some (.int .i64 x118) ∧
 (∃ x119 : Int, hc h105 ⟨h14.size, 0, none⟩ = some (.int .i64 x119) ∧
 (sB (x118 == x119)
 ((∃ x120 : Int, hc h105 ⟨h93.size, 1, none⟩ = some (.int .i64 x120) ∧
 (∃ x121 : Int, hc h105 ⟨h14.size, 1, none⟩ = some (.int .i64 x121) ∧
 (sB (x120 != x121)
 (R (.bool false) h105)
 ((∃ x122 : Int, hc h105 ⟨h93.size, 1 + 2, none⟩ = some (.int .i64 x122) ∧
 (∃ x123 : Int, hc h105 ⟨h14.size, 1 + 2, none⟩ = some (.int .i64 x123) ∧
 (sB (x122 != x123)
 (R (.bool false) h105)
 ((∃ m124, m124 < m91 ∧ I89 (IntKind.wrap .i64 (k_92 + 1)) h105 m124))))))))))
 ((∃ m125, m125 < m91 ∧ I89 (IntKind.wrap .i64 (k_92 + 1)) h105 m125))))))
 ((∃ m126, m126 < m91 ∧ I89 (IntKind.wrap .i64 (k_92 + 1)) h105 m126))))))))))))))))
 ((∃ x127 : Bool, hc h105 ⟨h14.size, 5, none⟩ = some (.bool x127) ∧
 (sB x127
 ((∃ x128 : Int, hc h105 ⟨h93.size, 4, none⟩ = some (.int .i64 x128) ∧
 (∃ x129 : Int, hc h105 ⟨h14.size, 0, none⟩ = some (.int .i64 x129) ∧
 (sB (x128 == x129)
 ((∃ x130 : Int, hc h105 ⟨h93.size, 1, none⟩ = some (.int .i64 x130) ∧
 (∃ x131 : Int, hc h105 ⟨h14.size, 1, none⟩ = some (.int .i64 x131) ∧
 (sB (x130 != x131)
 (R (.bool false) h105)
 ((∃ x132 : Int, hc h105 ⟨h93.size, 1 + 2, none⟩ = some (.int .i64 x132) ∧
 (∃ x133 : Int, hc h105 ⟨h14.size, 1 + 2, none⟩ = some (.int .i64 x133) ∧
 (sB (x132 != x133)
 (R (.bool false) h105)
 ((∃ m134, m134 < m91 ∧ I89 (IntKind.wrap .i64 (k_92 + 1)) h105 m134))))))))))
 ((∃ m135, m135 < m91 ∧ I89 (IntKind.wrap .i64 (k_92 + 1)) h105 m135))))))
 ((∃ m136, m136 < m91 ∧ I89 (IntKind.wrap .i64 (k_92 + 1)) h105 m136)))))))))
 ((∃ x137 : Bool, hc h105 ⟨h14.size, 5, none⟩ = some (.bool x137) ∧
 (sB x137
 ((∃ x138 : Int, hc h105 ⟨h93.size, 4, none⟩ = some (.int .i64 x138) ∧
 (∃ x139 : Int, hc h105 ⟨h14.size, 0, none⟩ = some (.int .i64 x139) ∧
 (sB (x138 == x139)
 ((∃ x140 : Int, hc h105 ⟨h93.size, 1, none⟩ = some (.int .i64 x140) ∧
 (∃ x141 : Int, hc h105 ⟨h14.size, 1, none⟩ = some (.int .i64 x141) ∧
 (sB (x140 != x141)
 (R (.bool false) h105)
 ((∃ x142 : Int, hc h105 ⟨h93.size, 1 + 2, none⟩ = some (.int .i64 x142) ∧
 (∃ x143 : Int, hc h105 ⟨h14.size, 1 + 2, none⟩ = some (.int .i64 x143) ∧
 (sB (x142 != x143)
 (R (.bool false) h105)
 ((∃ m144, m144 < m91 ∧ I89 (IntKind.wrap .i64 (k_92 + 1)) h105 m144))))))))))
 ((∃ m145, m145 < m91 ∧ I89 (IntKind.wrap .i64 (k_92 + 1)) h105 m145))))))
 ((∃ m146, m146 < m91 ∧ I89 (IntKind.wrap .i64 (k_92 + 1)) h105 m146)))))))))))))
 ((∃ m147, m147 < m12 ∧ I10 (IntKind.wrap .i64 (i_13 + 1)) h93 m147))))))))))))))))
 (R (.bool true) h14))))))
theorem vc66 (p0_1 : ByteArray) (p0_2 p0_3 : Sl) (p0_4 p0_5 p0_6 : Int) (p0_7 p0_8 : Sl) (h : Heap) (R : Value → Heap → Prop) (H : W66 p0_1 p0_2 p0_3 p0_4 p0_5 p0_6 p0_7 p0_8 h R) : Fn Tryz.prog 66 #[.agg ⟨[.string p0_1, .slice p0_2.a p0_2.n p0_2.c, .slice p0_3.a p0_3.n p0_3.c, .int .i64 p0_4, .int .i64 p0_5, .int .i64 p0_6, .slice p0_7.a p0_7.n p0_7.c, .slice p0_8.a p0_8.n p0_8.c]⟩] h R := fnI (A := (.s .z (.s (.s .z (.b (.l [(3, .one (.int .i64))] (.s .z (.s (.b (.s .z (.s .z (.s .z (.b (.l [(5, .one (.int .i64))] .z)))))) .z))))) .z))) (by kernel_rfl) H

/- farandole/farandoleref18.connected
 loop rrrlrborlbrb: i_23:Int
 loop rrrrrlrb: s_59:Int
 loop rrrlrb: n_17:Int -/
def W67 (p0_1 : ByteArray) (p0_2 p0_3 : Sl) (p0_4 p0_5 p0_6 : Int) (p0_7 p0_8 : Sl) (h : Heap) (R : Value → Heap → Prop) : Prop :=
 (∀ h9 : Heap, h9 = h.push (.cells ⟨[.string p0_1, .slice p0_2.a p0_2.n p0_2.c, .slice p0_3.a p0_3.n p0_3.c, .int .i64 p0_4, .int .i64 p0_5, .int .i64 p0_6, .slice p0_7.a p0_7.n p0_7.c, .slice p0_8.a p0_8.n p0_8.c]⟩ 27) →
 (∃ x10 : Int, hc h9 ⟨h.size, 3, none⟩ = some (.int .i64 x10) ∧
 (((0 : Int) ≤ x10 ∧ (x10 : Int) ≤ x10 ∧ ((1 : Nat) : Int) * x10 ≤ 140737488355328) ∧ ∀ h11 : Heap, h11 = h9.push (.cells ⟨madeL Tryz.prog 4 (Int.toNat x10)⟩ 4) →
 (∃ x12 : Int, hc h11 ⟨h.size, 4, none⟩ = some (.int .i64 x12) ∧
 ((0 ≤ (x12 : Int) ∧ (x12 : Int) < ((Int.toNat x10) : Nat)) ∧
 (okAt h11 ⟨h9.size, 0 + Int.toNat x12 * 1, none⟩ 1 ∧ ∀ h13 : Heap, h13 = hputs h11 ⟨h9.size, 0 + Int.toNat x12 * 1, none⟩ 0 [.bool true] →
 (∃ I14 : Int → Heap → Nat → Prop, (∃ m15, I14 0 h13 m15) ∧
 (∀ (_ : Env) (n_17 : Int) (h18 : Heap) (m16 : Nat), I14 n_17 h18 m16 →
 (∃ x19 : Int, hc h18 ⟨h.size, 3, none⟩ = some (.int .i64 x19) ∧
 (sB (decide (n_17 < x19))
 ((∃ I20 : Int → Heap → Nat → Prop, (∃ m21, I20 0 h18 m21) ∧
 (∀ (_ : Env) (i_23 : Int) (h24 : Heap) (m22 : Nat), I20 i_23 h24 m22 →
 (∃ x25 : Sl, hc h24 ⟨h.size, 6, none⟩ = some (.slice x25.a x25.n x25.c) ∧
 (sB (decide (i_23 < (x25.n : Int)))
 ((∃ x26 : Sl, hc h24 ⟨h.size, 6, none⟩ = some (.slice x26.a x26.n x26.c) ∧
 (NB x26.a fun b27 o28 => ((0 ≤ (i_23 : Int) ∧ (i_23 : Int) < (x26.n : Nat)) ∧
 (∃ x29 : Int, hc h24 ⟨b27, o28 + Int.toNat i_23 * 6 + 4, none⟩ = some (.int .i64 x29) ∧
 (∃ x30 : Sl, hc h24 ⟨h.size, 6, none⟩ = some (.slice x30.a x30.n x30.c) ∧
 (NB x30.a fun b31 o32 => ((0 ≤ (i_23 : Int) ∧ (i_23 : Int) < (x30.n : Nat)) ∧
 (∃ x33 : Int, hc h24 ⟨b31, o32 + Int.toNat i_23 * 6 + 4, none⟩ = some (.int .i64 x33) ∧
 ((0 ≤ (x33 : Int) ∧ (x33 : Int) < ((Int.toNat x10) : Nat)) ∧
 (∃ x34 : Bool, hc h24 ⟨h9.size, 0 + Int.toNat x33 * 1, none⟩ = some (.bool x34) ∧
 (sB x34
 (((0 ≤ (x29 : Int) ∧ (x29 : Int) < ((Int.toNat x10) : Nat)) ∧
 (okAt h24 ⟨h9.size, 0 + Int.toNat x29 * 1, none⟩ 1 ∧ ∀ h35 : Heap, h35 = hputs h24 ⟨h9.size, 0 + Int.toNat x29 * 1, none⟩ 0 [.bool true] →
 (∃ m36, m36 < m22 ∧ I20 (IntKind.wrap .i64 (i_23 + 1)) h35 m36))))
 ((∃ x37 : Sl, hc h24 ⟨h.size, 6, none⟩ = some (.slice x37.a x37.n x37.c) ∧
 (NB x37.a fun b38 o39 => ((0 ≤ (i_23 : Int) ∧ (i_23 : Int) < (x37.n : Nat)) ∧
 (∃ x40 : Int, hc h24 ⟨b38, o39 + Int.toNat i_23 * 6, none⟩ = some (.int .i64 x40) ∧
 ((0 ≤ (x40 : Int) ∧ (x40 : Int) < ((Int.toNat x10) : Nat)) ∧
 (∃ x41 : Bool, hc h24 ⟨h9.size, 0 + Int.toNat x40 * 1, none⟩ = some (.bool x41) ∧
 ((0 ≤ (x29 : Int) ∧ (x29 : Int) < ((Int.toNat x10) : Nat)) ∧
 (okAt h24 ⟨h9.size, 0 + Int.toNat x29 * 1, none⟩ 1 ∧ ∀ h42 : Heap, h42 = hputs h24 ⟨h9.size, 0 + Int.toNat x29 * 1, none⟩ 0 [.bool x41] →
 (∃ m43, m43 < m22 ∧ I20 (IntKind.wrap .i64 (i_23 + 1)) h42 m43))))))))))))))))))))))
 ((∃ m44, m44 < m16 ∧ I14 (IntKind.wrap .i64 (n_17 + 1)) h24 m44)))))))
 ((∃ (x45 : ByteArray) (x46 x47 : Sl) (x48 x49 x50 : Int) (x51 x52 : Sl), atC h18 ⟨h.size, 0, none⟩ [.string x45, .slice x46.a x46.n x46.c, .slice x47.a x47.n x47.c, .int .i64 x48, .int .i64 x49, .int .i64 x50, .slice x51.a x51.n x51.c, .slice x52.a x52.n x52.c] ∧
 (Fn Tryz.prog 115 #[.agg ⟨[.string x45, .slice x46.a x46.n x46.c, .slice x47.a x47.n x47.c, .int .i64 x48, .int .i64 x49, .int .i64 x50, .slice x51.a x51.n x51.c, .slice x52.a x52.n x52.c]⟩] h18
 (fun v53 h55 => ∃ x54 : Sl, v53 = .slice x54.a x54.n x54.c ∧
 (∃ I56 : Int → Heap → Nat → Prop, (∃ m57, I56 0 h55 m57) ∧
 (∀ (_ : Env) (s_59 : Int) (h60 : Heap) (m58 : Nat), I56 s_59 h60 m58 →
 (∃ x61 : Int, hc h60 ⟨h.size, 3, none⟩ = some (.int .i64 x61) ∧
 (sB (decide (s_59 < x61))
 (((0 ≤ (s_59 : Int) ∧ (s_59 : Int) < ((Int.toNat x10) : Nat)) ∧
 (∃ x62 : Bool, hc h60 ⟨h9.size, 0 + Int.toNat s_59 * 1, none⟩ = some (.bool x62) ∧
 (sB (!x62)
 (R (.bool false) h60)
 ((NB x54.a fun b63 o64 => ((0 ≤ (s_59 : Int) ∧ (s_59 : Int) < (x54.n : Nat)) ∧
 (∃ x65 : Int, hc h60 ⟨b63, o64 + Int.toNat s_59 * 1, none⟩ = some (.int .i64 x65) ∧
 (sB (decide (x65 < 0))
 (R (.bool false) h60)
 ((∃ m66, m66 < m58 ∧ I56 (IntKind.wrap .i64 (s_59 + 1)) h60 m66)))))))))))
 ((∃ (x67 : ByteArray) (x68 x69 : Sl) (x70 x71 x72 : Int) (x73 x74 : Sl), atC h60 ⟨h.size, 0, none⟩ [.string x67, .slice x68.a x68.n x68.c, .slice x69.a x69.n x69.c, .int .i64 x70, .int .i64 x71, .int .i64 x72, .slice x73.a x73.n x73.c, .slice x74.a x74.n x74.c] ∧
 (∃ x75 : Int, hc h60 ⟨h.size, 5, none⟩ = some (.int .i64 x75) ∧
 (Fn Tryz.prog 116 #[.agg ⟨[.string x67, .slice x68.a x68.n x68.c, .slice x69.a x69.n x69.c, .int .i64 x70, .int .i64 x71, .int .i64 x72, .slice x73.a x73.n x73.c, .slice x74.a x74.n x74.c]⟩, .int .i64 x75] h60
 (fun v76 h78 => ∃ x77 : Sl, v76 = .slice x77.a x77.n x77.c ∧
 R (.bool ((x77.n : Int) == 0)) h78)))))))))))))))))))))))
theorem vc67 (p0_1 : ByteArray) (p0_2 p0_3 : Sl) (p0_4 p0_5 p0_6 : Int) (p0_7 p0_8 : Sl) (h : Heap) (R : Value → Heap → Prop) (H : W67 p0_1 p0_2 p0_3 p0_4 p0_5 p0_6 p0_7 p0_8 h R) : Fn Tryz.prog 67 #[.agg ⟨[.string p0_1, .slice p0_2.a p0_2.n p0_2.c, .slice p0_3.a p0_3.n p0_3.c, .int .i64 p0_4, .int .i64 p0_5, .int .i64 p0_6, .slice p0_7.a p0_7.n p0_7.c, .slice p0_8.a p0_8.n p0_8.c]⟩] h R := fnI (A := (.s .z (.s .z (.s .z (.s (.s .z (.b (.l [(4, .one (.int .i64))] (.s .z (.s (.b (.s .z (.b (.l [(5, .one (.int .i64))] .z)))) .z))))) (.s .z (.s (.s .z (.b (.l [(7, .one (.int .i64))] .z))) .z))))))) (by kernel_rfl) H

/- farandole/farandoleref18.timed
 loop rlrb: i_13:Int -/
def W68 (p0_1 : ByteArray) (p0_2 p0_3 : Sl) (p0_4 p0_5 p0_6 : Int) (p0_7 p0_8 : Sl) (h : Heap) (R : Value → Heap → Prop) : Prop :=
 (∀ h9 : Heap, h9 = h.push (.cells ⟨[.string p0_1, .slice p0_2.a p0_2.n p0_2.c, .slice p0_3.a p0_3.n p0_3.c, .int .i64 p0_4, .int .i64 p0_5, .int .i64 p0_6, .slice p0_7.a p0_7.n p0_7.c, .slice p0_8.a p0_8.n p0_8.c]⟩ 27) →
 (∃ I10 : Int → Heap → Nat → Prop, (∃ m11, I10 0 h9 m11) ∧
 (∀ (_ : Env) (i_13 : Int) (h14 : Heap) (m12 : Nat), I10 i_13 h14 m12 →
 (∃ x15 : Sl, hc h14 ⟨h.size, 7, none⟩ = some (.slice x15.a x15.n x15.c) ∧
 (sB (decide (i_13 < (x15.n : Int)))
 ((∃ x16 : Sl, hc h14 ⟨h.size, 7, none⟩ = some (.slice x16.a x16.n x16.c) ∧
 (NB x16.a fun b17 o18 => ((0 ≤ (i_13 : Int) ∧ (i_13 : Int) < (x16.n : Nat)) ∧
 (∃ (x19 x20 x21 : Int), atC h14 ⟨b17, o18 + Int.toNat i_13 * 3, none⟩ [.int .i64 x19, .int .i64 x20, .int .i64 x21] ∧
 (∀ h22 : Heap, h22 = h14.push (.cells ⟨[.int .i64 0, .int .i64 0, .int .i64 0]⟩ 63) →
 (okAt h22 ⟨h14.size, 0, none⟩ 3 ∧ ∀ h23 : Heap, h23 = hputs h22 ⟨h14.size, 0, none⟩ 0 [.int .i64 x19, .int .i64 x20, .int .i64 x21] →
 (∃ (x24 : ByteArray) (x25 x26 : Sl) (x27 x28 x29 : Int) (x30 x31 : Sl), atC h23 ⟨h.size, 0, none⟩ [.string x24, .slice x25.a x25.n x25.c, .slice x26.a x26.n x26.c, .int .i64 x27, .int .i64 x28, .int .i64 x29, .slice x30.a x30.n x30.c, .slice x31.a x31.n x31.c] ∧
 (∃ x32 : Int, hc h23 ⟨h14.size, 0, none⟩ = some (.int .i64 x32) ∧
 (Fn Tryz.prog 114 #[.agg ⟨[.string x24, .slice x25.a x25.n x25.c, .slice x26.a x26.n x26.c, .int .i64 x27, .int .i64 x28, .int .i64 x29, .slice x30.a x30.n x30.c, .slice x31.a x31.n x31.c]⟩, .int .i64 x32] h23
 (fun v33 h35 => ∃ x34 : Bool, v33 = .bool x34 ∧
 (sB (!x34)
 (R (.bool false) h35)
 ((sB (decide (i_13 > 0))
 ((∃ x36 : Int, hc h35 ⟨h14.size, 0, none⟩ = some (.int .i64 x36) ∧
 (∃ x37 : Sl, hc h35 ⟨h.size, 7, none⟩ = some (.slice x37.a x37.n x37.c) ∧
 (NB x37.a fun b38 o39 => ((0 ≤ ((IntKind.wrap .i64 (i_13 - 1)) : Int) ∧ ((IntKind.wrap .i64 (i_13 - 1)) : Int) < (x37.n : Nat)) ∧
 (∃ x40 : Int, hc h35 ⟨b38, o39 + Int.toNat (IntKind.wrap .i64 (i_13 - 1)) * 3, none⟩ = some (.int .i64 x40) ∧
 (sB (decide (x36 ≤ x40))
 (R (.bool false) h35)
 ((∃ x41 : Int, hc h35 ⟨h14.size, 1, none⟩ = some (.int .i64 x41) ∧
 (sB (decide (x41 < 1))
 (R (.bool false) h35)
 ((∃ x42 : Int, hc h35 ⟨h14.size, 1, none⟩ = some (.int .i64 x42) ∧
 (sB (decide (x42 > 1000))
 (R (.bool false) h35)
 ((∃ x43 : Int, hc h35 ⟨h14.size, 2, none⟩ = some (.int .i64 x43) ∧
 (sB (decide (x43 < 0))
 (R (.bool false) h35)
 ((∃ x44 : Int, hc h35 ⟨h14.size, 2, none⟩ = some (.int .i64 x44) ∧
 (∃ x45 : Sl, hc h35 ⟨h.size, 6, none⟩ = some (.slice x45.a x45.n x45.c) ∧
 (sB (decide (x44 ≥ (x45.n : Int)))
 (R (.bool false) h35)
 ((∃ x46 : Sl, hc h35 ⟨h.size, 6, none⟩ = some (.slice x46.a x46.n x46.c) ∧
 (∃ x47 : Int, hc h35 ⟨h14.size, 2, none⟩ = some (.int .i64 x47) ∧
 (NB x46.a fun b48 o49 => ((0 ≤ (x47 : Int) ∧ (x47 : Int) < (x46.n : Nat)) ∧
 (∃ x50 : Int, hc h35 ⟨b48, o49 + Int.toNat x47 * 6, none⟩ = some (.int .i64 x50) ∧
 (∃ x51 : Int, hc h35 ⟨h14.size, 0, none⟩ = some (.int .i64 x51) ∧
 (sB (x50 != x51)
 (R (.bool false) h35)
 ((∃ x52 : Sl, hc h35 ⟨h.size, 6, none⟩ = some (.slice x52.a x52.n x52.c) ∧
 (∃ x53 : Int, hc h35 ⟨h14.size, 2, none⟩ = some (.int .i64 x53) ∧
 (NB x52.a fun b54 o55 => ((0 ≤ (x53 : Int) ∧ (x53 : Int) < (x52.n : Nat)) ∧
 (∃ x56 : Bool, hc h35 ⟨b54, o55 + Int.toNat x53 * 6 + 5, none⟩ = some (.bool x56) ∧
 (sB x56
 (R (.bool false) h35)
 ((∃ m57, m57 < m12 ∧ I10 (IntKind.wrap .i64 (i_13 + 1)) h35 m57)))))))))))))))))))))))))))))))))))))
 ((∃ x58 : Int, hc h35 ⟨h14.size, 1, none⟩ = some (.int .i64 x58) ∧
 (sB (decide (x58 < 1))
 (R (.bool false) h35)
 ((∃ x59 : Int, hc h35 ⟨h14.size, 1, none⟩ = some (.int .i64 x59) ∧
 (sB (decide (x59 > 1000))
 (R (.bool false) h35)
 ((∃ x60 : Int, hc h35 ⟨h14.size, 2, none⟩ = some (.int .i64 x60) ∧
 (sB (decide (x60 < 0))
 (R (.bool false) h35)
 ((∃ x61 : Int, hc h35 ⟨h14.size, 2, none⟩ = some (.int .i64 x61) ∧
 (∃ x62 : Sl, hc h35 ⟨h.size, 6, none⟩ = some (.slice x62.a x62.n x62.c) ∧
 (sB (decide (x61 ≥ (x62.n : Int)))
 (R (.bool false) h35)
 ((∃ x63 : Sl, hc h35 ⟨h.size, 6, none⟩ = some (.slice x63.a x63.n x63.c) ∧
 (∃ x64 : Int, hc h35 ⟨h14.size, 2, none⟩ = some (.int .i64 x64) ∧
 (NB x63.a fun b65 o66 => ((0 ≤ (x64 : Int) ∧ (x64 : Int) < (x63.n : Nat)) ∧
 (∃ x67 : Int, hc h35 ⟨b65, o66 + Int.toNat x64 * 6, none⟩ = some (.int .i64 x67) ∧
 (∃ x68 : Int, hc h35 ⟨h14.size, 0, none⟩ = some (.int .i64 x68) ∧
 (sB (x67 != x68)
 (R (.bool false) h35)
 ((∃ x69 : Sl, hc h35 ⟨h.size, 6, none⟩ = some (.slice x69.a x69.n x69.c) ∧
 (∃ x70 : Int, hc h35 ⟨h14.size, 2, none⟩ = some (.int .i64 x70) ∧
 (NB x69.a fun b71 o72 => ((0 ≤ (x70 : Int) ∧ (x70 : Int) < (x69.n : Nat)) ∧
 (∃ x73 : Bool, hc h35 ⟨b71, o72 + Int.toNat x70 * 6 + 5, none⟩ = some (.bool x73) ∧
 (sB x73
 (R (.bool false) h35)
 ((∃ m74, m74 < m12 ∧ I10 (IntKind.wrap .i64 (i_13 + 1)) h35 m74))))))))))))))))))))))))))))))))))))))))))))
 (R (.bool true) h14))))))
theorem vc68 (p0_1 : ByteArray) (p0_2 p0_3 : Sl) (p0_4 p0_5 p0_6 : Int) (p0_7 p0_8 : Sl) (h : Heap) (R : Value → Heap → Prop) (H : W68 p0_1 p0_2 p0_3 p0_4 p0_5 p0_6 p0_7 p0_8 h R) : Fn Tryz.prog 68 #[.agg ⟨[.string p0_1, .slice p0_2.a p0_2.n p0_2.c, .slice p0_3.a p0_3.n p0_3.c, .int .i64 p0_4, .int .i64 p0_5, .int .i64 p0_6, .slice p0_7.a p0_7.n p0_7.c, .slice p0_8.a p0_8.n p0_8.c]⟩] h R := fnI (A := (.s .z (.s (.s .z (.b (.l [(3, .one (.int .i64))] .z))) .z))) (by kernel_rfl) H

def W111 (p0 : ByteArray) (h : Heap) (R : Value → Heap → Prop) : Prop :=
 (Fn Tryz.prog 152 #[.string p0] h
 (fun v1 h3 => ∃ x2 : Bool, v1 = .bool x2 ∧
 (sB x2
 ((Fn Tryz.prog 154 #[] h3
 (fun v4 h6 => ∃ x5 : Sl, v4 = .slice x5.a x5.n x5.c ∧
 (Fn Tryz.prog 153 #[.slice x5.a x5.n x5.c, .string p0] h6
 (fun v7 h9 => ∃ x8 : Bool, v7 = .bool x8 ∧
 R (.bool (!x8)) h9)))))
 (R (.bool false) h3))))
theorem vc111 (p0 : ByteArray) (h : Heap) (R : Value → Heap → Prop) (H : W111 p0 h R) : Fn Tryz.prog 111 #[.string p0] h R := fnI (A := .z) (by kernel_rfl) H

/- farandole/farandoleref18.index
 loop rlrb: i_4:Int -/
def W112 (p0 : Sl) (p1 : ByteArray) (h : Heap) (R : Value → Heap → Prop) : Prop :=
 (∃ I1 : Int → Heap → Nat → Prop, (∃ m2, I1 0 h m2) ∧
 (∀ (_ : Env) (i_4 : Int) (h5 : Heap) (m3 : Nat), I1 i_4 h5 m3 →
 (sB (decide (i_4 < (p0.n : Int)))
 ((NB p0.a fun b6 o7 => ((0 ≤ (i_4 : Int) ∧ (i_4 : Int) < (p0.n : Nat)) ∧
 (∃ x8 : ByteArray, hc h5 ⟨b6, o7 + Int.toNat i_4 * 1, none⟩ = some (.string x8) ∧
 (sB ((ByteArray.toList x8) == (ByteArray.toList p1))
 (R (.int .i64 i_4) h5)
 ((∃ m9, m9 < m3 ∧ I1 (IntKind.wrap .i64 (i_4 + 1)) h5 m9)))))))
 (R (.int .i64 (-1)) h5))))
theorem vc112 (p0 : Sl) (p1 : ByteArray) (h : Heap) (R : Value → Heap → Prop) (H : W112 p0 p1 h R) : Fn Tryz.prog 112 #[.slice p0.a p0.n p0.c, .string p1] h R := fnI (A := (.s .z (.s (.s .z (.b (.l [(5, .one (.int .i64))] .z))) .z))) (by kernel_rfl) H

/- farandole/farandoleref14.Valid
 loop rrrlrborlbrrlrborlbrrb: j_54:Int
 loop rrrlrborlbrrlrb: k_32:Int
 loop rrrlrborlbrlrb: k_22:Int
 loop rrrlrb: first_7:Int, i_8:Int -/
def W113 (p0 : Sl) (h : Heap) (R : Value → Heap → Prop) : Prop :=
 (sB (decide ((p0.n : Int) > 40))
 (R (.bool false) h)
 ((Fn Tryz.prog 155 #[.slice p0.a p0.n p0.c] h
 (fun v1 h3 => ∃ x2 : Int, v1 = .int .i64 x2 ∧
 (sB (decide (x2 > 24))
 (R (.bool false) h3)
 ((∃ I4 : Int → Int → Heap → Nat → Prop, (∃ m5, I4 0 0 h3 m5) ∧
 (∀ (_ : Env) (first_7 i_8 : Int) (h9 : Heap) (m6 : Nat), I4 first_7 i_8 h9 m6 →
 (sB (decide (i_8 < (p0.n : Int)))
 ((NB p0.a fun b10 o11 => ((0 ≤ (i_8 : Int) ∧ (i_8 : Int) < (p0.n : Nat)) ∧
 (∃ (x12 : ByteArray) (x13 : Sl) (x14 : Int) (x15 x16 : Sl), atC h9 ⟨b10, o11 + Int.toNat i_8 * 5, none⟩ [.string x12, .slice x13.a x13.n x13.c, .int .i64 x14, .slice x15.a x15.n x15.c, .slice x16.a x16.n x16.c] ∧
 (∀ h17 : Heap, h17 = h9.push (.cells ⟨[.string ⟨#[]⟩, .slice none 0 0, .int .i64 0, .slice none 0 0, .slice none 0 0]⟩ 136) →
 (okAt h17 ⟨h9.size, 0, none⟩ 5 ∧ ∀ h18 : Heap, h18 = hputs h17 ⟨h9.size, 0, none⟩ 0 [.string x12, .slice x13.a x13.n x13.c, .int .i64 x14, .slice x15.a x15.n x15.c, .slice x16.a x16.n x16.c] →
 (∃ I19 : Int → Heap → Nat → Prop, (∃ m20, I19 0 h18 m20) ∧
 (∀ (_ : Env) (k_22 : Int) (h23 : Heap) (m21 : Nat), I19 k_22 h23 m21 →
 (sB (decide (k_22 < i_8))
 ((NB p0.a fun b24 o25 => ((0 ≤ (k_22 : Int) ∧ (k_22 : Int) < (p0.n : Nat)) ∧
 (∃ x26 : ByteArray, hc h23 ⟨b24, o25 + Int.toNat k_22 * 5, none⟩ = some (.string x26) ∧
 (∃ x27 : ByteArray, hc h23 ⟨h9.size, 0, none⟩ = some (.string x27) ∧
 (sB ((ByteArray.toList x26) == (ByteArray.toList x27))
 (R (.bool false) h23)
 ((∃ m28, m28 < m21 ∧ I19 (IntKind.wrap .i64 (k_22 + 1)) h23 m28))))))))
 ((∃ I29 : Int → Heap → Nat → Prop, (∃ m30, I29 0 h23 m30) ∧
 (∀ (_ : Env) (k_32 : Int) (h33 : Heap) (m31 : Nat), I29 k_32 h33 m31 →
 (∃ x34 : Sl, hc h33 ⟨h9.size, 1, none⟩ = some (.slice x34.a x34.n x34.c) ∧
 (sB (decide (k_32 < (x34.n : Int)))
 ((∃ x35 : Sl, hc h33 ⟨h9.size, 1, none⟩ = some (.slice x35.a x35.n x35.c) ∧
 (NB x35.a fun b36 o37 => ((0 ≤ (k_32 : Int) ∧ (k_32 : Int) < (x35.n : Nat)) ∧
 (∃ (x38 x39 x40 : Int), atC h33 ⟨b36, o37 + Int.toNat k_32 * 4 + 1, none⟩ [.int .i64 x38, .int .i64 x39, .int .i64 x40] ∧
 (Fn Tryz.prog 156 #[.agg ⟨[.int .i64 x38, .int .i64 x39, .int .i64 x40]⟩] h33
 (fun v41 h43 => ∃ x42 : Bool, v41 = .bool x42 ∧
 (sB (!x42)
 (R (.bool false) h43)
 ((∃ x44 : Sl, hc h43 ⟨h9.size, 1, none⟩ = some (.slice x44.a x44.n x44.c) ∧
 (NB x44.a fun b45 o46 => ((0 ≤ (k_32 : Int) ∧ (k_32 : Int) < (x44.n : Nat)) ∧
 (∃ x47 : ByteArray, hc h43 ⟨b45, o46 + Int.toNat k_32 * 4, none⟩ = some (.string x47) ∧
 (Fn Tryz.prog 111 #[.string x47] h43
 (fun v48 h50 => ∃ x49 : Bool, v48 = .bool x49 ∧
 (sB (!x49)
 (R (.bool false) h50)
 ((∃ I51 : Int → Heap → Nat → Prop, (∃ m52, I51 0 h50 m52) ∧
 (∀ (_ : Env) (j_54 : Int) (h55 : Heap) (m53 : Nat), I51 j_54 h55 m53 →
 (sB (decide (j_54 < k_32))
 ((∃ x56 : Sl, hc h55 ⟨h9.size, 1, none⟩ = some (.slice x56.a x56.n x56.c) ∧
 (NB x56.a fun b57 o58 => ((0 ≤ (j_54 : Int) ∧ (j_54 : Int) < (x56.n : Nat)) ∧
 (∃ x59 : ByteArray, hc h55 ⟨b57, o58 + Int.toNat j_54 * 4, none⟩ = some (.string x59) ∧
 (∃ x60 : Sl, hc h55 ⟨h9.size, 1, none⟩ = some (.slice x60.a x60.n x60.c) ∧
 (NB x60.a fun b61 o62 => ((0 ≤ (k_32 : Int) ∧ (k_32 : Int) < (x60.n : Nat)) ∧
 (∃ x63 : ByteArray, hc h55 ⟨b61, o62 + Int.toNat k_32 * 4, none⟩ = some (.string x63) ∧
 (sB ((ByteArray.toList x59) == (ByteArray.toList x63))
 (R (.bool false) h55)
 ((∃ m64, m64 < m53 ∧ I51 (IntKind.wrap .i64 (j_54 + 1)) h55 m64))))))))))))
 ((∃ m65, m65 < m31 ∧ I29 (IntKind.wrap .i64 (k_32 + 1)) h55 m65))))))))))))))))))))))
 ((∃ x66 : ByteArray, hc h33 ⟨h9.size, 0, none⟩ = some (.string x66) ∧
 (Fn Tryz.prog 157 #[.string x66] h33
 (fun v67 h69 => ∃ x68 : Bool, v67 = .bool x68 ∧
 (sB (!x68)
 (R (.bool false) h69)
 ((∃ x70 : Sl, hc h69 ⟨h9.size, 1, none⟩ = some (.slice x70.a x70.n x70.c) ∧
 (sB (decide ((x70.n : Int) > 4))
 (R (.bool false) h69)
 ((∃ x71 : Int, hc h69 ⟨h9.size, 2, none⟩ = some (.int .i64 x71) ∧
 (sB (x71 != first_7)
 (R (.bool false) h69)
 ((∃ (x72 x73 : Sl), atC h69 ⟨h9.size, 3, none⟩ [.slice x72.a x72.n x72.c, .slice x73.a x73.n x73.c] ∧
 (Fn Tryz.prog 158 #[.slice p0.a p0.n p0.c, .agg ⟨[.slice x72.a x72.n x72.c, .slice x73.a x73.n x73.c]⟩] h69
 (fun v74 h76 => ∃ x75 : Bool, v74 = .bool x75 ∧
 (sB (!x75)
 (R (.bool false) h76)
 ((∃ x77 : Sl, hc h76 ⟨h9.size, 1, none⟩ = some (.slice x77.a x77.n x77.c) ∧
 (∃ m78, m78 < m6 ∧ I4 (IntKind.wrap .i64 (first_7 + (x77.n : Int))) (IntKind.wrap .i64 (i_8 + 1)) h76 m78)))))))))))))))))))))))))))))))))
 (R (.bool true) h9))))))))))
theorem vc113 (p0 : Sl) (h : Heap) (R : Value → Heap → Prop) (H : W113 p0 h R) : Fn Tryz.prog 113 #[.slice p0.a p0.n p0.c] h R := fnI (A := (.s .z (.s .z (.s .z (.s (.s .z (.b (.l [(3, .one (.int .i64)), (4, .one (.int .i64))] (.s .z (.s (.b (.s .z (.s (.s .z (.b (.l [(6, .one (.int .i64))] .z))) (.s (.s .z (.b (.l [(7, .one (.int .i64))] (.s .z (.s (.b (.s .z (.s .z (.b (.l [(8, .one (.int .i64))] .z))))) .z))))) .z)))) .z))))) .z))))) (by kernel_rfl) H

def W114 (p0_1 : ByteArray) (p0_2 p0_3 : Sl) (p0_4 p0_5 p0_6 : Int) (p0_7 p0_8 : Sl) (p1 : Int) (h : Heap) (R : Value → Heap → Prop) : Prop :=
 (∀ h9 : Heap, h9 = h.push (.cells ⟨[.string p0_1, .slice p0_2.a p0_2.n p0_2.c, .slice p0_3.a p0_3.n p0_3.c, .int .i64 p0_4, .int .i64 p0_5, .int .i64 p0_6, .slice p0_7.a p0_7.n p0_7.c, .slice p0_8.a p0_8.n p0_8.c]⟩ 27) →
 (sB (decide (p1 ≥ 0))
 ((∃ x10 : Int, hc h9 ⟨h.size, 3, none⟩ = some (.int .i64 x10) ∧
 R (.bool (decide (p1 < x10))) h9))
 (R (.bool false) h9)))
theorem vc114 (p0_1 : ByteArray) (p0_2 p0_3 : Sl) (p0_4 p0_5 p0_6 : Int) (p0_7 p0_8 : Sl) (p1 : Int) (h : Heap) (R : Value → Heap → Prop) (H : W114 p0_1 p0_2 p0_3 p0_4 p0_5 p0_6 p0_7 p0_8 p1 h R) : Fn Tryz.prog 114 #[.agg ⟨[.string p0_1, .slice p0_2.a p0_2.n p0_2.c, .slice p0_3.a p0_3.n p0_3.c, .int .i64 p0_4, .int .i64 p0_5, .int .i64 p0_6, .slice p0_7.a p0_7.n p0_7.c, .slice p0_8.a p0_8.n p0_8.c]⟩, .int .i64 p1] h R := fnI (A := .z) (by kernel_rfl) H

/- farandole/farandoleref18.ends
 loop rrrrlrborlbrb: i_31:Int
 loop rrrrlrb: n_25:Int
 loop rrlrb: s_15:Int -/
def W115 (p0_1 : ByteArray) (p0_2 p0_3 : Sl) (p0_4 p0_5 p0_6 : Int) (p0_7 p0_8 : Sl) (h : Heap) (R : Value → Heap → Prop) : Prop :=
 (∀ h9 : Heap, h9 = h.push (.cells ⟨[.string p0_1, .slice p0_2.a p0_2.n p0_2.c, .slice p0_3.a p0_3.n p0_3.c, .int .i64 p0_4, .int .i64 p0_5, .int .i64 p0_6, .slice p0_7.a p0_7.n p0_7.c, .slice p0_8.a p0_8.n p0_8.c]⟩ 27) →
 (∃ x10 : Int, hc h9 ⟨h.size, 3, none⟩ = some (.int .i64 x10) ∧
 (((0 : Int) ≤ x10 ∧ (x10 : Int) ≤ x10 ∧ ((8 : Nat) : Int) * x10 ≤ 140737488355328) ∧ ∀ h11 : Heap, h11 = h9.push (.cells ⟨madeL Tryz.prog 3 (Int.toNat x10)⟩ 3) →
 (∃ I12 : Int → Heap → Nat → Prop, (∃ m13, I12 0 h11 m13) ∧
 (∀ (_ : Env) (s_15 : Int) (h16 : Heap) (m14 : Nat), I12 s_15 h16 m14 →
 (∃ x17 : Int, hc h16 ⟨h.size, 3, none⟩ = some (.int .i64 x17) ∧
 (sB (decide (s_15 < x17))
 (((0 ≤ (s_15 : Int) ∧ (s_15 : Int) < ((Int.toNat x10) : Nat)) ∧
 (okAt h16 ⟨h9.size, 0 + Int.toNat s_15 * 1, none⟩ 1 ∧ ∀ h18 : Heap, h18 = hputs h16 ⟨h9.size, 0 + Int.toNat s_15 * 1, none⟩ 0 [.int .i64 (-1)] →
 (∃ m19, m19 < m14 ∧ I12 (IntKind.wrap .i64 (s_15 + 1)) h18 m19))))
 ((∃ x20 : Int, hc h16 ⟨h.size, 5, none⟩ = some (.int .i64 x20) ∧
 ((0 ≤ (x20 : Int) ∧ (x20 : Int) < ((Int.toNat x10) : Nat)) ∧
 (okAt h16 ⟨h9.size, 0 + Int.toNat x20 * 1, none⟩ 1 ∧ ∀ h21 : Heap, h21 = hputs h16 ⟨h9.size, 0 + Int.toNat x20 * 1, none⟩ 0 [.int .i64 0] →
 (∃ I22 : Int → Heap → Nat → Prop, (∃ m23, I22 0 h21 m23) ∧
 (∀ (_ : Env) (n_25 : Int) (h26 : Heap) (m24 : Nat), I22 n_25 h26 m24 →
 (∃ x27 : Int, hc h26 ⟨h.size, 3, none⟩ = some (.int .i64 x27) ∧
 (sB (decide (n_25 < x27))
 ((∃ I28 : Int → Heap → Nat → Prop, (∃ m29, I28 0 h26 m29) ∧
 (∀ (_ : Env) (i_31 : Int) (h32 : Heap) (m30 : Nat), I28 i_31 h32 m30 →
 (∃ x33 : Sl, hc h32 ⟨h.size, 6, none⟩ = some (.slice x33.a x33.n x33.c) ∧
 (sB (decide (i_31 < (x33.n : Int)))
 ((∃ x34 : Sl, hc h32 ⟨h.size, 6, none⟩ = some (.slice x34.a x34.n x34.c) ∧
 (NB x34.a fun b35 o36 => ((0 ≤ (i_31 : Int) ∧ (i_31 : Int) < (x34.n : Nat)) ∧
 (∃ (x37 x38 x39 x40 x41 : Int) (x42 : Bool), atC h32 ⟨b35, o36 + Int.toNat i_31 * 6, none⟩ [.int .i64 x37, .int .i64 x38, .int .i64 x39, .int .i64 x40, .int .i64 x41, .bool x42] ∧
 (∀ h43 : Heap, h43 = h32.push (.cells ⟨[.int .i64 0, .int .i64 0, .int .i64 0, .int .i64 0, .int .i64 0, .bool false]⟩ 55) →
 (okAt h43 ⟨h32.size, 0, none⟩ 6 ∧ ∀ h44 : Heap, h44 = hputs h43 ⟨h32.size, 0, none⟩ 0 [.int .i64 x37, .int .i64 x38, .int .i64 x39, .int .i64 x40, .int .i64 x41, .bool x42] →
 (∃ x45 : Int, hc h44 ⟨h32.size, 4, none⟩ = some (.int .i64 x45) ∧
 ((0 ≤ (x45 : Int) ∧ (x45 : Int) < ((Int.toNat x10) : Nat)) ∧
 (∃ x46 : Int, hc h44 ⟨h9.size, 0 + Int.toNat x45 * 1, none⟩ = some (.int .i64 x46) ∧
 (sB (x46 == n_25)
 ((∃ x47 : Int, hc h44 ⟨h32.size, 0, none⟩ = some (.int .i64 x47) ∧
 ((0 ≤ (x47 : Int) ∧ (x47 : Int) < ((Int.toNat x10) : Nat)) ∧
 (∃ x48 : Int, hc h44 ⟨h9.size, 0 + Int.toNat x47 * 1, none⟩ = some (.int .i64 x48) ∧
 (sB (decide (x48 < 0))
 ((∃ x49 : Int, hc h44 ⟨h32.size, 0, none⟩ = some (.int .i64 x49) ∧
 ((0 ≤ (x49 : Int) ∧ (x49 : Int) < ((Int.toNat x10) : Nat)) ∧
 (okAt h44 ⟨h9.size, 0 + Int.toNat x49 * 1, none⟩ 1 ∧ ∀ h50 : Heap, h50 = hputs h44 ⟨h9.size, 0 + Int.toNat x49 * 1, none⟩ 0 [.int .i64 (IntKind.wrap .i64 (n_25 + 1))] →
 (∃ m51, m51 < m30 ∧ I28 (IntKind.wrap .i64 (i_31 + 1)) h50 m51)))))
 ((∃ m52, m52 < m30 ∧ I28 (IntKind.wrap .i64 (i_31 + 1)) h44 m52)))))))
 ((∃ m53, m53 < m30 ∧ I28 (IntKind.wrap .i64 (i_31 + 1)) h44 m53)))))))))))))
 ((∃ m54, m54 < m24 ∧ I22 (IntKind.wrap .i64 (n_25 + 1)) h32 m54)))))))
 (R (.slice (some ⟨h9.size, 0, none⟩) (Int.toNat x10) (Int.toNat x10)) h26))))))))))))))))
theorem vc115 (p0_1 : ByteArray) (p0_2 p0_3 : Sl) (p0_4 p0_5 p0_6 : Int) (p0_7 p0_8 : Sl) (h : Heap) (R : Value → Heap → Prop) (H : W115 p0_1 p0_2 p0_3 p0_4 p0_5 p0_6 p0_7 p0_8 h R) : Fn Tryz.prog 115 #[.agg ⟨[.string p0_1, .slice p0_2.a p0_2.n p0_2.c, .slice p0_3.a p0_3.n p0_3.c, .int .i64 p0_4, .int .i64 p0_5, .int .i64 p0_6, .slice p0_7.a p0_7.n p0_7.c, .slice p0_8.a p0_8.n p0_8.c]⟩] h R := fnI (A := (.s .z (.s .z (.s (.s .z (.b (.l [(4, .one (.int .i64))] .z))) (.s .z (.s (.s .z (.b (.l [(5, .one (.int .i64))] (.s .z (.s (.b (.s .z (.b (.l [(6, .one (.int .i64))] .z)))) .z))))) .z)))))) (by kernel_rfl) H

/- farandole/farandoleref18.Edges
 loop rrlrborlbrrlb: at_25:Int
 loop rrlrb: out_13:Sl, i_14:Int -/
def W116 (p0_1 : ByteArray) (p0_2 p0_3 : Sl) (p0_4 p0_5 p0_6 : Int) (p0_7 p0_8 : Sl) (p1 : Int) (h : Heap) (R : Value → Heap → Prop) : Prop :=
 (∀ h9 : Heap, h9 = h.push (.cells ⟨[.string p0_1, .slice p0_2.a p0_2.n p0_2.c, .slice p0_3.a p0_3.n p0_3.c, .int .i64 p0_4, .int .i64 p0_5, .int .i64 p0_6, .slice p0_7.a p0_7.n p0_7.c, .slice p0_8.a p0_8.n p0_8.c]⟩ 27) →
 (∃ I10 : Sl → Int → Heap → Nat → Prop, (∃ m11, I10 ⟨none, 0, 0⟩ 0 h9 m11) ∧
 (∀ (_ : Env) (out_13 : Sl) (i_14 : Int) (h15 : Heap) (m12 : Nat), I10 out_13 i_14 h15 m12 →
 (∃ x16 : Sl, hc h15 ⟨h.size, 6, none⟩ = some (.slice x16.a x16.n x16.c) ∧
 (sB (decide (i_14 < (x16.n : Int)))
 ((∃ x17 : Sl, hc h15 ⟨h.size, 6, none⟩ = some (.slice x17.a x17.n x17.c) ∧
 (NB x17.a fun b18 o19 => ((0 ≤ (i_14 : Int) ∧ (i_14 : Int) < (x17.n : Nat)) ∧
 (∃ x20 : Int, hc h15 ⟨b18, o19 + Int.toNat i_14 * 6, none⟩ = some (.int .i64 x20) ∧
 (sB (x20 != p1)
 ((∃ m21, m21 < m12 ∧ I10 out_13 (IntKind.wrap .i64 (i_14 + 1)) h15 m21))
 ((∃ I22 : Int → Heap → Nat → Prop, (∃ m23, I22 0 h15 m23) ∧
 (∀ (_ : Env) (at_25 : Int) (h26 : Heap) (m24 : Nat), I22 at_25 h26 m24 →
 (sB (decide (at_25 < (out_13.n : Int)))
 ((∃ (x27 : ByteArray) (x28 x29 : Sl) (x30 x31 x32 : Int) (x33 x34 : Sl), atC h26 ⟨h.size, 0, none⟩ [.string x27, .slice x28.a x28.n x28.c, .slice x29.a x29.n x29.c, .int .i64 x30, .int .i64 x31, .int .i64 x32, .slice x33.a x33.n x33.c, .slice x34.a x34.n x34.c] ∧
 (NB out_13.a fun b35 o36 => ((0 ≤ (at_25 : Int) ∧ (at_25 : Int) < (out_13.n : Nat)) ∧
 (∃ x37 : Int, hc h26 ⟨b35, o36 + Int.toNat at_25 * 1, none⟩ = some (.int .i64 x37) ∧
 (Fn Tryz.prog 159 #[.agg ⟨[.string x27, .slice x28.a x28.n x28.c, .slice x29.a x29.n x29.c, .int .i64 x30, .int .i64 x31, .int .i64 x32, .slice x33.a x33.n x33.c, .slice x34.a x34.n x34.c]⟩, .int .i64 x37, .int .i64 i_14] h26
 (fun v38 h40 => ∃ x39 : Bool, v38 = .bool x39 ∧
 (sB x39
 ((∃ m41, m41 < m24 ∧ I22 (IntKind.wrap .i64 (at_25 + 1)) h40 m41))
 ((((0 : Int) ≤ (0 : Int) ∧ (0 : Int) ≤ (at_25 : Int) ∧ (at_25 : Int) ≤ (out_13.c : Nat)) ∧
 (((0 : Int) ≤ (at_25 : Int) ∧ (at_25 : Int) ≤ ((out_13.n : Nat) : Int) ∧ ((out_13.n : Nat) : Int) ≤ (out_13.c : Nat)) ∧
 (∀ h42 : Heap, h42 = h40.push (.cells ⟨[.int .i64 i_14]⟩ 3) →
 (App Tryz.prog 42 42 (.slice (some ⟨h40.size, 0, none⟩) 1 1) (.slice (subA out_13.a (Int.toNat at_25) out_13.c 1) (Int.toNat (out_13.n : Nat) - Int.toNat at_25) (out_13.c - Int.toNat at_25)) h42 fun s43 h44 =>
 (App Tryz.prog 42 42 (.slice (subA out_13.a (Int.toNat 0) out_13.c 1) (Int.toNat at_25 - Int.toNat 0) (out_13.c - Int.toNat 0)) (.slice s43.a s43.n s43.c) h44 fun s45 h46 =>
 (∃ m47, m47 < m12 ∧ I10 s45 (IntKind.wrap .i64 (i_14 + 1)) h46 m47)))))))))))))))
 ((((0 : Int) ≤ (0 : Int) ∧ (0 : Int) ≤ (at_25 : Int) ∧ (at_25 : Int) ≤ (out_13.c : Nat)) ∧
 (((0 : Int) ≤ (at_25 : Int) ∧ (at_25 : Int) ≤ ((out_13.n : Nat) : Int) ∧ ((out_13.n : Nat) : Int) ≤ (out_13.c : Nat)) ∧
 (∀ h48 : Heap, h48 = h26.push (.cells ⟨[.int .i64 i_14]⟩ 3) →
 (App Tryz.prog 42 42 (.slice (some ⟨h26.size, 0, none⟩) 1 1) (.slice (subA out_13.a (Int.toNat at_25) out_13.c 1) (Int.toNat (out_13.n : Nat) - Int.toNat at_25) (out_13.c - Int.toNat at_25)) h48 fun s49 h50 =>
 (App Tryz.prog 42 42 (.slice (subA out_13.a (Int.toNat 0) out_13.c 1) (Int.toNat at_25 - Int.toNat 0) (out_13.c - Int.toNat 0)) (.slice s49.a s49.n s49.c) h50 fun s51 h52 =>
 (∃ m53, m53 < m12 ∧ I10 s51 (IntKind.wrap .i64 (i_14 + 1)) h52 m53)))))))))))))))))
 (R (.slice out_13.a out_13.n out_13.c) h15))))))
theorem vc116 (p0_1 : ByteArray) (p0_2 p0_3 : Sl) (p0_4 p0_5 p0_6 : Int) (p0_7 p0_8 : Sl) (p1 : Int) (h : Heap) (R : Value → Heap → Prop) (H : W116 p0_1 p0_2 p0_3 p0_4 p0_5 p0_6 p0_7 p0_8 p1 h R) : Fn Tryz.prog 116 #[.agg ⟨[.string p0_1, .slice p0_2.a p0_2.n p0_2.c, .slice p0_3.a p0_3.n p0_3.c, .int .i64 p0_4, .int .i64 p0_5, .int .i64 p0_6, .slice p0_7.a p0_7.n p0_7.c, .slice p0_8.a p0_8.n p0_8.c]⟩, .int .i64 p1] h R := fnI (A := (.s .z (.s .z (.s (.s .z (.b (.l [(5, .one (.slice)), (6, .one (.int .i64))] (.s .z (.s (.b (.s .z (.s .z (.s (.b (.l [(7, .one (.int .i64))] .z)) .z)))) .z))))) .z)))) (by kernel_rfl) H

/- farandole/farandoleref09.IsName
 loop rrlrb: i_7:Int -/
def W152 (p0 : ByteArray) (h : Heap) (R : Value → Heap → Prop) : Prop :=
 (sB ((ByteArray.toList p0) == (ByteArray.toList ⟨#[]⟩))
 (R (.bool false) h)
 (((0 ≤ (0 : Int) ∧ (0 : Int) < (ByteArray.size p0 : Nat)) ∧
 (Fn Tryz.prog 199 #[.int .u8 (byteAt p0 (Int.toNat 0) : Int)] h
 (fun v1 h3 => ∃ x2 : Bool, v1 = .bool x2 ∧
 (sB (!x2)
 (R (.bool false) h3)
 ((sB (decide ((ByteArray.size p0 : Int) > 16))
 (R (.bool false) h3)
 ((∃ I4 : Int → Heap → Nat → Prop, (∃ m5, I4 0 h3 m5) ∧
 (∀ (_ : Env) (i_7 : Int) (h8 : Heap) (m6 : Nat), I4 i_7 h8 m6 →
 (sB (decide (i_7 < (ByteArray.size p0 : Int)))
 (((0 ≤ (i_7 : Int) ∧ (i_7 : Int) < (ByteArray.size p0 : Nat)) ∧
 (Fn Tryz.prog 200 #[.int .u8 (byteAt p0 (Int.toNat i_7) : Int)] h8
 (fun v9 h11 => ∃ x10 : Bool, v9 = .bool x10 ∧
 (sB (!x10)
 (R (.bool false) h11)
 ((∃ m12, m12 < m6 ∧ I4 (IntKind.wrap .i64 (i_7 + 1)) h11 m12)))))))
 (R (.bool true) h8)))))))))))))
theorem vc152 (p0 : ByteArray) (h : Heap) (R : Value → Heap → Prop) (H : W152 p0 h R) : Fn Tryz.prog 152 #[.string p0] h R := fnI (A := (.s .z (.s .z (.s (.s .z (.b (.l [(3, .one (.int .i64))] .z))) .z)))) (by kernel_rfl) H

/- farandole/farandoleref09.in
 loop rlrb: i_4:Int -/
def W153 (p0 : Sl) (p1 : ByteArray) (h : Heap) (R : Value → Heap → Prop) : Prop :=
 (∃ I1 : Int → Heap → Nat → Prop, (∃ m2, I1 0 h m2) ∧
 (∀ (_ : Env) (i_4 : Int) (h5 : Heap) (m3 : Nat), I1 i_4 h5 m3 →
 (sB (decide (i_4 < (p0.n : Int)))
 ((NB p0.a fun b6 o7 => ((0 ≤ (i_4 : Int) ∧ (i_4 : Int) < (p0.n : Nat)) ∧
 (∃ x8 : ByteArray, hc h5 ⟨b6, o7 + Int.toNat i_4 * 1, none⟩ = some (.string x8) ∧
 (sB ((ByteArray.toList x8) == (ByteArray.toList p1))
 (R (.bool true) h5)
 ((∃ m9, m9 < m3 ∧ I1 (IntKind.wrap .i64 (i_4 + 1)) h5 m9)))))))
 (R (.bool false) h5))))
theorem vc153 (p0 : Sl) (p1 : ByteArray) (h : Heap) (R : Value → Heap → Prop) (H : W153 p0 p1 h R) : Fn Tryz.prog 153 #[.slice p0.a p0.n p0.c, .string p1] h R := fnI (A := (.s .z (.s (.s .z (.b (.l [(5, .one (.int .i64))] .z))) .z))) (by kernel_rfl) H

def W154  (h : Heap) (R : Value → Heap → Prop) : Prop :=
 (∀ h1 : Heap, h1 = h.push (.cells ⟨[.string ⟨#[97, 103, 97, 105, 110]⟩, .string ⟨#[97, 110, 100]⟩, .string ⟨#[97, 115]⟩, .string ⟨#[97, 116]⟩, .string ⟨#[99, 97, 108, 108]⟩, .string ⟨#[99, 104, 111, 105, 99, 101]⟩, .string ⟨#[101, 108, 115, 101]⟩, .string ⟨#[102, 114, 111, 109]⟩, .string ⟨#[105, 102]⟩, .string ⟨#[105, 110, 116]⟩, .string ⟨#[108, 101, 110]⟩, .string ⟨#[108, 111, 111, 112]⟩, .string ⟨#[109, 101, 115, 115, 97, 103, 101]⟩, .string ⟨#[111, 102]⟩, .string ⟨#[111, 102, 102, 101, 114]⟩, .string ⟨#[111, 110]⟩, .string ⟨#[111, 114]⟩, .string ⟨#[112, 97, 114]⟩, .string ⟨#[112, 108, 97, 121, 115]⟩, .string ⟨#[112, 114, 111, 116, 111, 99, 111, 108]⟩, .string ⟨#[115, 101, 114, 118, 105, 99, 101]⟩, .string ⟨#[116, 101, 120, 116]⟩, .string ⟨#[116, 105, 109, 101, 115]⟩, .string ⟨#[116, 111]⟩, .string ⟨#[118, 97, 114]⟩, .string ⟨#[119, 104, 101, 114, 101]⟩, .string ⟨#[119, 104, 105, 108, 101]⟩, .string ⟨#[119, 105, 116, 104, 105, 110]⟩]⟩ 9) →
 R (.slice (some ⟨h.size, 0, none⟩) 28 28) h1)
theorem vc154e  (h : Heap) (R : Value → Heap → Prop) : W154  h R = fnW Tryz.prog 154 .z #[] h R := by kernel_rfl
theorem vc154  (h : Heap) (R : Value → Heap → Prop) (H : W154  h R) : Fn Tryz.prog 154 #[] h R := fnI (vc154e  h R) H

/- farandole/farandoleref14.Vars
 loop rrlrb: n_4:Int, i_5:Int -/
def W155 (p0 : Sl) (h : Heap) (R : Value → Heap → Prop) : Prop :=
 (∃ I1 : Int → Int → Heap → Nat → Prop, (∃ m2, I1 0 0 h m2) ∧
 (∀ (_ : Env) (n_4 i_5 : Int) (h6 : Heap) (m3 : Nat), I1 n_4 i_5 h6 m3 →
 (sB (decide (i_5 < (p0.n : Int)))
 ((NB p0.a fun b7 o8 => ((0 ≤ (i_5 : Int) ∧ (i_5 : Int) < (p0.n : Nat)) ∧
 (∃ x9 : Sl, hc h6 ⟨b7, o8 + Int.toNat i_5 * 5 + 1, none⟩ = some (.slice x9.a x9.n x9.c) ∧
 (∃ m10, m10 < m3 ∧ I1 (IntKind.wrap .i64 (n_4 + (x9.n : Int))) (IntKind.wrap .i64 (i_5 + 1)) h6 m10)))))
 (R (.int .i64 n_4) h6))))
theorem vc155 (p0 : Sl) (h : Heap) (R : Value → Heap → Prop) (H : W155 p0 h R) : Fn Tryz.prog 155 #[.slice p0.a p0.n p0.c] h R := fnI (A := (.s .z (.s .z (.s (.s .z (.b (.l [(3, .one (.int .i64)), (4, .one (.int .i64))] .z))) .z)))) (by kernel_rfl) H

/- farandole/farandoleref14.goodSort
 join rr: least_7:Int, most_8:Int -/
def W156 (p0_1 p0_2 p0_3 : Int) (h : Heap) (R : Value → Heap → Prop) : Prop :=
 (∀ h4 : Heap, h4 = h.push (.cells ⟨[.int .i64 p0_1, .int .i64 p0_2, .int .i64 p0_3]⟩ 182) →
 (∃ J5 : Int → Int → Heap → Prop,
 ((∃ x6 : Int, hc h4 ⟨h.size, 0, none⟩ = some (.int .i64 x6) ∧
 (sB (x6 == 2)
 ((J5 0 40 h4))
 ((J5 (-1000) 1000 h4))))) ∧
 (∀ (_ : Env) (least_7 most_8 : Int) (h9 : Heap), J5 least_7 most_8 h9 →
 (∃ x10 : Int, hc h9 ⟨h.size, 0, none⟩ = some (.int .i64 x10) ∧
 (sB (x10 == 1)
 ((∃ x11 : Int, hc h9 ⟨h.size, 1, none⟩ = some (.int .i64 x11) ∧
 (sB (decide (x11 ≥ least_7))
 ((∃ x12 : Int, hc h9 ⟨h.size, 2, none⟩ = some (.int .i64 x12) ∧
 (sB (decide (x12 ≤ most_8))
 ((∃ x13 : Int, hc h9 ⟨h.size, 1, none⟩ = some (.int .i64 x13) ∧
 (∃ x14 : Int, hc h9 ⟨h.size, 2, none⟩ = some (.int .i64 x14) ∧
 R (.bool (decide (x13 ≤ x14))) h9)))
 (R (.bool false) h9))))
 (R (.bool false) h9))))
 ((∃ x15 : Int, hc h9 ⟨h.size, 0, none⟩ = some (.int .i64 x15) ∧
 (sB (x15 == 2)
 ((∃ x16 : Int, hc h9 ⟨h.size, 1, none⟩ = some (.int .i64 x16) ∧
 (sB (decide (x16 ≥ least_7))
 ((∃ x17 : Int, hc h9 ⟨h.size, 2, none⟩ = some (.int .i64 x17) ∧
 (sB (decide (x17 ≤ most_8))
 ((∃ x18 : Int, hc h9 ⟨h.size, 1, none⟩ = some (.int .i64 x18) ∧
 (∃ x19 : Int, hc h9 ⟨h.size, 2, none⟩ = some (.int .i64 x19) ∧
 R (.bool (decide (x18 ≤ x19))) h9)))
 (R (.bool false) h9))))
 (R (.bool false) h9))))
 (R (.bool false) h9)))))))))
theorem vc156 (p0_1 p0_2 p0_3 : Int) (h : Heap) (R : Value → Heap → Prop) (H : W156 p0_1 p0_2 p0_3 h R) : Fn Tryz.prog 156 #[.agg ⟨[.int .i64 p0_1, .int .i64 p0_2, .int .i64 p0_3]⟩] h R := fnI (A := (.s .z (.s .z (.j [(3, .one (.int .i64)), (4, .one (.int .i64))] .z .z)))) (by kernel_rfl) H

/- farandole/farandoleref10.IsPath
 loop rrlrb: from_4:Int, i_5:Int -/
def W157 (p0 : ByteArray) (h : Heap) (R : Value → Heap → Prop) : Prop :=
 (∃ I1 : Int → Int → Heap → Nat → Prop, (∃ m2, I1 0 0 h m2) ∧
 (∀ (_ : Env) (from_4 i_5 : Int) (h6 : Heap) (m3 : Nat), I1 from_4 i_5 h6 m3 →
 (sB (decide (i_5 ≤ (ByteArray.size p0 : Int)))
 ((sB (i_5 == (ByteArray.size p0 : Int))
 ((((0 : Int) ≤ (from_4 : Int) ∧ (from_4 : Int) ≤ (i_5 : Int) ∧ (i_5 : Int) ≤ (ByteArray.size p0 : Nat)) ∧
 (Fn Tryz.prog 201 #[.string (ByteArray.extract p0 (Int.toNat from_4) (Int.toNat i_5))] h6
 (fun v7 h9 => ∃ x8 : Bool, v7 = .bool x8 ∧
 (sB (!x8)
 (R (.bool false) h9)
 ((∃ m10, m10 < m3 ∧ I1 (IntKind.wrap .i64 (i_5 + 1)) (IntKind.wrap .i64 (i_5 + 1)) h9 m10)))))))
 (((0 ≤ (i_5 : Int) ∧ (i_5 : Int) < (ByteArray.size p0 : Nat)) ∧
 (sB ((byteAt p0 (Int.toNat i_5) : Int) == 46)
 ((((0 : Int) ≤ (from_4 : Int) ∧ (from_4 : Int) ≤ (i_5 : Int) ∧ (i_5 : Int) ≤ (ByteArray.size p0 : Nat)) ∧
 (Fn Tryz.prog 201 #[.string (ByteArray.extract p0 (Int.toNat from_4) (Int.toNat i_5))] h6
 (fun v11 h13 => ∃ x12 : Bool, v11 = .bool x12 ∧
 (sB (!x12)
 (R (.bool false) h13)
 ((∃ m14, m14 < m3 ∧ I1 (IntKind.wrap .i64 (i_5 + 1)) (IntKind.wrap .i64 (i_5 + 1)) h13 m14)))))))
 ((∃ m15, m15 < m3 ∧ I1 from_4 (IntKind.wrap .i64 (i_5 + 1)) h6 m15)))))))
 (R (.bool (decide ((ByteArray.size p0 : Int) ≤ 50))) h6))))
theorem vc157 (p0 : ByteArray) (h : Heap) (R : Value → Heap → Prop) (H : W157 p0 h R) : Fn Tryz.prog 157 #[.string p0] h R := fnI (A := (.s .z (.s .z (.s (.s .z (.b (.l [(3, .one (.int .i64)), (4, .one (.int .i64))] .z))) .z)))) (by kernel_rfl) H

/- farandole/farandoleref14.goodGuard
 loop rrrlrb: i_31:Int
 loop rrlrb: i_10:Int -/
def W158 (p0 p1_1 p1_2 : Sl) (h : Heap) (R : Value → Heap → Prop) : Prop :=
 (∀ h3 : Heap, h3 = h.push (.cells ⟨[.slice p1_1.a p1_1.n p1_1.c, .slice p1_2.a p1_2.n p1_2.c]⟩ 134) →
 (Fn Tryz.prog 155 #[.slice p0.a p0.n p0.c] h3
 (fun v4 h6 => ∃ x5 : Int, v4 = .int .i64 x5 ∧
 (∃ I7 : Int → Heap → Nat → Prop, (∃ m8, I7 0 h6 m8) ∧
 (∀ (_ : Env) (i_10 : Int) (h11 : Heap) (m9 : Nat), I7 i_10 h11 m9 →
 (∃ x12 : Sl, hc h11 ⟨h.size, 0, none⟩ = some (.slice x12.a x12.n x12.c) ∧
 (sB (decide (i_10 < (x12.n : Int)))
 ((∃ x13 : Sl, hc h11 ⟨h.size, 0, none⟩ = some (.slice x13.a x13.n x13.c) ∧
 (NB x13.a fun b14 o15 => ((0 ≤ (i_10 : Int) ∧ (i_10 : Int) < (x13.n : Nat)) ∧
 (∃ (x16 x17 x18 : Int), atC h11 ⟨b14, o15 + Int.toNat i_10 * 3, none⟩ [.int .i64 x16, .int .i64 x17, .int .i64 x18] ∧
 (∀ h19 : Heap, h19 = h11.push (.cells ⟨[.int .i64 0, .int .i64 0, .int .i64 0]⟩ 187) →
 (okAt h19 ⟨h11.size, 0, none⟩ 3 ∧ ∀ h20 : Heap, h20 = hputs h19 ⟨h11.size, 0, none⟩ 0 [.int .i64 x16, .int .i64 x17, .int .i64 x18] →
 (∃ x21 : Int, hc h20 ⟨h11.size, 0, none⟩ = some (.int .i64 x21) ∧
 (sB (decide (x21 < (-1)))
 (R (.bool false) h20)
 ((∃ x22 : Int, hc h20 ⟨h11.size, 0, none⟩ = some (.int .i64 x22) ∧
 (sB (decide (x22 ≥ x5))
 (R (.bool false) h20)
 ((∃ x23 : Int, hc h20 ⟨h11.size, 1, none⟩ = some (.int .i64 x23) ∧
 (sB (decide (x23 < (-1)))
 (R (.bool false) h20)
 ((∃ x24 : Int, hc h20 ⟨h11.size, 1, none⟩ = some (.int .i64 x24) ∧
 (sB (decide (x24 ≥ x5))
 (R (.bool false) h20)
 ((∃ x25 : Int, hc h20 ⟨h11.size, 2, none⟩ = some (.int .i64 x25) ∧
 (sB (decide (x25 < (-20000)))
 (R (.bool false) h20)
 ((∃ x26 : Int, hc h20 ⟨h11.size, 2, none⟩ = some (.int .i64 x26) ∧
 (sB (decide (x26 > 20000))
 (R (.bool false) h20)
 ((∃ m27, m27 < m9 ∧ I7 (IntKind.wrap .i64 (i_10 + 1)) h20 m27))))))))))))))))))))))))))
 ((∃ I28 : Int → Heap → Nat → Prop, (∃ m29, I28 0 h11 m29) ∧
 (∀ (_ : Env) (i_31 : Int) (h32 : Heap) (m30 : Nat), I28 i_31 h32 m30 →
 (∃ x33 : Sl, hc h32 ⟨h.size, 1, none⟩ = some (.slice x33.a x33.n x33.c) ∧
 (sB (decide (i_31 < (x33.n : Int)))
 ((∃ x34 : Sl, hc h32 ⟨h.size, 1, none⟩ = some (.slice x34.a x34.n x34.c) ∧
 (NB x34.a fun b35 o36 => ((0 ≤ (i_31 : Int) ∧ (i_31 : Int) < (x34.n : Nat)) ∧
 ((0 ≤ (0 : Int) ∧ (0 : Int) < (2 : Nat)) ∧
 (∃ x37 : Int, hc h32 ⟨b35, o36 + Int.toNat i_31 * 2 + Int.toNat 0 * 1, none⟩ = some (.int .i64 x37) ∧
 (Fn Tryz.prog 202 #[.slice p0.a p0.n p0.c, .int .i64 x37] h32
 (fun v38 h40 => ∃ x39 : Bool, v38 = .bool x39 ∧
 (sB (!x39)
 (R (.bool false) h40)
 ((∃ x41 : Sl, hc h40 ⟨h.size, 1, none⟩ = some (.slice x41.a x41.n x41.c) ∧
 (NB x41.a fun b42 o43 => ((0 ≤ (i_31 : Int) ∧ (i_31 : Int) < (x41.n : Nat)) ∧
 ((0 ≤ (1 : Int) ∧ (1 : Int) < (2 : Nat)) ∧
 (∃ x44 : Int, hc h40 ⟨b42, o43 + Int.toNat i_31 * 2 + Int.toNat 1 * 1, none⟩ = some (.int .i64 x44) ∧
 (Fn Tryz.prog 202 #[.slice p0.a p0.n p0.c, .int .i64 x44] h40
 (fun v45 h47 => ∃ x46 : Bool, v45 = .bool x46 ∧
 (sB (!x46)
 (R (.bool false) h47)
 ((∃ m48, m48 < m30 ∧ I28 (IntKind.wrap .i64 (i_31 + 1)) h47 m48))))))))))))))))))))
 ((∃ x49 : Sl, hc h32 ⟨h.size, 0, none⟩ = some (.slice x49.a x49.n x49.c) ∧
 (sB (decide ((x49.n : Int) ≤ 20))
 ((∃ x50 : Sl, hc h32 ⟨h.size, 1, none⟩ = some (.slice x50.a x50.n x50.c) ∧
 R (.bool (decide ((x50.n : Int) ≤ 20))) h32))
 (R (.bool false) h32))))))))))))))))
theorem vc158 (p0 p1_1 p1_2 : Sl) (h : Heap) (R : Value → Heap → Prop) (H : W158 p0 p1_1 p1_2 h R) : Fn Tryz.prog 158 #[.slice p0.a p0.n p0.c, .agg ⟨[.slice p1_1.a p1_1.n p1_1.c, .slice p1_2.a p1_2.n p1_2.c]⟩] h R := fnI (A := (.s .z (.s .z (.s (.s .z (.b (.l [(6, .one (.int .i64))] .z))) (.s (.s .z (.b (.l [(8, .one (.int .i64))] .z))) .z))))) (by kernel_rfl) H

def W159 (p0_1 : ByteArray) (p0_2 p0_3 : Sl) (p0_4 p0_5 p0_6 : Int) (p0_7 p0_8 : Sl) (p1 p2 : Int) (h : Heap) (R : Value → Heap → Prop) : Prop :=
 (∀ h9 : Heap, h9 = h.push (.cells ⟨[.string p0_1, .slice p0_2.a p0_2.n p0_2.c, .slice p0_3.a p0_3.n p0_3.c, .int .i64 p0_4, .int .i64 p0_5, .int .i64 p0_6, .slice p0_7.a p0_7.n p0_7.c, .slice p0_8.a p0_8.n p0_8.c]⟩ 27) →
 (∃ x10 : Sl, hc h9 ⟨h.size, 6, none⟩ = some (.slice x10.a x10.n x10.c) ∧
 (NB x10.a fun b11 o12 => ((0 ≤ (p1 : Int) ∧ (p1 : Int) < (x10.n : Nat)) ∧
 (∃ (x13 x14 x15 : Int), atC h9 ⟨b11, o12 + Int.toNat p1 * 6 + 1, none⟩ [.int .i64 x13, .int .i64 x14, .int .i64 x15] ∧
 (∃ x16 : Sl, hc h9 ⟨h.size, 6, none⟩ = some (.slice x16.a x16.n x16.c) ∧
 (NB x16.a fun b17 o18 => ((0 ≤ (p2 : Int) ∧ (p2 : Int) < (x16.n : Nat)) ∧
 (∃ (x19 x20 x21 : Int), atC h9 ⟨b17, o18 + Int.toNat p2 * 6 + 1, none⟩ [.int .i64 x19, .int .i64 x20, .int .i64 x21] ∧
 ((∀ h22 : Heap, h22 = h9.push (.cells ⟨[.int .i64 0, .int .i64 0, .int .i64 0]⟩ 53) →
 (Sm [⟨b17, o18 + Int.toNat p2 * 6 + 1, none⟩, ⟨h.size, 6, none⟩, ⟨b11, o12 + Int.toNat p1 * 6 + 1, none⟩, ⟨h.size, 6, none⟩] h9 h22 ∧
 (∀ h23 : Heap, h23 = h22.push (.cells ⟨[.int .i64 0, .int .i64 0, .int .i64 0]⟩ 53) →
 (Sm [⟨b17, o18 + Int.toNat p2 * 6 + 1, none⟩, ⟨h.size, 6, none⟩, ⟨b11, o12 + Int.toNat p1 * 6 + 1, none⟩, ⟨h.size, 6, none⟩] h22 h23 ∧
 (okAt h23 ⟨h9.size, 0, none⟩ 3 ∧ ∀ h24 : Heap, h24 = hputs h23 ⟨h9.size, 0, none⟩ 0 [.int .i64 x13, .int .i64 x14, .int .i64 x15] →
 (Sm [⟨b17, o18 + Int.toNat p2 * 6 + 1, none⟩, ⟨h.size, 6, none⟩] h23 h24 ∧
 (okAt h24 ⟨h22.size, 0, none⟩ 3 ∧ ∀ h25 : Heap, h25 = hputs h24 ⟨h22.size, 0, none⟩ 0 [.int .i64 x19, .int .i64 x20, .int .i64 x21] →
 (∃ x26 : Int, hc h25 ⟨h9.size, 1, none⟩ = some (.int .i64 x26) ∧
 (∃ x27 : Int, hc h25 ⟨h22.size, 1, none⟩ = some (.int .i64 x27) ∧
 (sB (x26 != x27)
 ((∃ x28 : Int, hc h25 ⟨h9.size, 1, none⟩ = some (.int .i64 x28) ∧
 (∃ x29 : Int, hc h25 ⟨h22.size, 1, none⟩ = some (.int .i64 x29) ∧
 R (.bool (decide (x28 < x29))) h25)))
 ((∃ x30 : Int, hc h25 ⟨h9.size, 2, none⟩ = some (.int .i64 x30) ∧
 (∃ x31 : Int, hc h25 ⟨h22.size, 2, none⟩ = some (.int .i64 x31) ∧
 (sB (x30 != x31)
 ((∃ x32 : Int, hc h25 ⟨h9.size, 2, none⟩ = some (.int .i64 x32) ∧
 (∃ x33 : Int, hc h25 ⟨h22.size, 2, none⟩ = some (.int .i64 x33) ∧
 R (.bool (decide (x32 < x33))) h25)))
 (R (.bool (decide (p1 < p2))) h25)))))))))))))))) ∧ ((∀ h34 : Heap, h34 = h9.push (.cells ⟨[.int .i64 0, .int .i64 0, .int .i64 0]⟩ 53) →
 (Sm [⟨b17, o18 + Int.toNat p2 * 6 + 1, none⟩, ⟨h.size, 6, none⟩, ⟨b11, o12 + Int.toNat p1 * 6 + 1, none⟩, ⟨h.size, 6, none⟩] h9 h34 ∧
 (∀ h35 : Heap, h35 = h34.push (.cells ⟨[.int .i64 0, .int .i64 0, .int .i64 0]⟩ 53) →
 (Sm [⟨b17, o18 + Int.toNat p2 * 6 + 1, none⟩, ⟨h.size, 6, none⟩, ⟨b11, o12 + Int.toNat p1 * 6 + 1, none⟩, ⟨h.size, 6, none⟩] h34 h35 ∧
 (okAt h35 ⟨h34.size, 0, none⟩ 3 ∧ ∀ h36 : Heap, h36 = hputs h35 ⟨h34.size, 0, none⟩ 0 [.int .i64 x13, .int .i64 x14, .int .i64 x15] →
 (Sm [⟨b17, o18 + Int.toNat p2 * 6 + 1, none⟩, ⟨h.size, 6, none⟩] h35 h36 ∧
 (okAt h36 ⟨h9.size, 0, none⟩ 3 ∧ ∀ h37 : Heap, h37 = hputs h36 ⟨h9.size, 0, none⟩ 0 [.int .i64 x19, .int .i64 x20, .int .i64 x21] →
 (∃ x38 : Int, hc h37 ⟨h34.size, 1, none⟩ = some (.int .i64 x38) ∧
 (∃ x39 : Int, hc h37 ⟨h9.size, 1, none⟩ = some (.int .i64 x39) ∧
 (sB (x38 != x39)
 ((∃ x40 : Int, hc h37 ⟨h34.size, 1, none⟩ = some (.int .i64 x40) ∧
 (∃ x41 : Int, hc h37 ⟨h9.size, 1, none⟩ = some (.int .i64 x41) ∧
 R (.bool (decide (x40 < x41))) h37)))
 ((∃ x42 : Int, hc h37 ⟨h34.size, 2, none⟩ = some (.int .i64 x42) ∧
 (∃ x43 : Int, hc h37 ⟨h9.size, 2, none⟩ = some (.int .i64 x43) ∧
 (sB (x42 != x43)
 ((∃ x44 : Int, hc h37 ⟨h34.size, 2, none⟩ = some (.int .i64 x44) ∧
 (∃ x45 : Int, hc h37 ⟨h9.size, 2, none⟩ = some (.int .i64 x45) ∧
 R (.bool (decide (x44 < x45))) h37)))
 (R (.bool (decide (p1 < p2))) h37)))))))))))))))))))))))))
theorem vc159 (p0_1 : ByteArray) (p0_2 p0_3 : Sl) (p0_4 p0_5 p0_6 : Int) (p0_7 p0_8 : Sl) (p1 p2 : Int) (h : Heap) (R : Value → Heap → Prop) (H : W159 p0_1 p0_2 p0_3 p0_4 p0_5 p0_6 p0_7 p0_8 p1 p2 h R) : Fn Tryz.prog 159 #[.agg ⟨[.string p0_1, .slice p0_2.a p0_2.n p0_2.c, .slice p0_3.a p0_3.n p0_3.c, .int .i64 p0_4, .int .i64 p0_5, .int .i64 p0_6, .slice p0_7.a p0_7.n p0_7.c, .slice p0_8.a p0_8.n p0_8.c]⟩, .int .i64 p1, .int .i64 p2] h R := fnI (A := .z) (by kernel_rfl) H

def W199 (p0 : Int) (h : Heap) (R : Value → Heap → Prop) : Prop :=
 (sB (decide (p0 ≥ 97))
 ((sB (decide (p0 ≤ 122))
 (R (.bool true) h)
 ((sB (decide (p0 ≥ 65))
 (R (.bool (decide (p0 ≤ 90))) h)
 (R (.bool false) h)))))
 ((sB (decide (p0 ≥ 65))
 (R (.bool (decide (p0 ≤ 90))) h)
 (R (.bool false) h))))
theorem vc199 (p0 : Int) (h : Heap) (R : Value → Heap → Prop) (H : W199 p0 h R) : Fn Tryz.prog 199 #[.int .u8 p0] h R := fnI (A := .z) (by kernel_rfl) H

def W200 (p0 : Int) (h : Heap) (R : Value → Heap → Prop) : Prop :=
 (Fn Tryz.prog 199 #[.int .u8 p0] h
 (fun v1 h3 => ∃ x2 : Bool, v1 = .bool x2 ∧
 (sB x2
 (R (.bool true) h3)
 ((Fn Tryz.prog 240 #[.int .u8 p0] h3
 (fun v4 h6 => ∃ x5 : Bool, v4 = .bool x5 ∧
 (sB x5
 (R (.bool true) h6)
 (R (.bool (p0 == 95)) h6))))))))
theorem vc200 (p0 : Int) (h : Heap) (R : Value → Heap → Prop) (H : W200 p0 h R) : Fn Tryz.prog 200 #[.int .u8 p0] h R := fnI (A := .z) (by kernel_rfl) H

def W201 (p0 : ByteArray) (h : Heap) (R : Value → Heap → Prop) : Prop :=
 (Fn Tryz.prog 111 #[.string p0] h
 (fun v1 h3 => ∃ x2 : Bool, v1 = .bool x2 ∧
 R (.bool x2) h3))
theorem vc201 (p0 : ByteArray) (h : Heap) (R : Value → Heap → Prop) (H : W201 p0 h R) : Fn Tryz.prog 201 #[.string p0] h R := fnI (A := .z) (by kernel_rfl) H

def W202 (p0 : Sl) (p1 : Int) (h : Heap) (R : Value → Heap → Prop) : Prop :=
 (sB (decide (p1 ≥ 0))
 ((Fn Tryz.prog 155 #[.slice p0.a p0.n p0.c] h
 (fun v1 h3 => ∃ x2 : Int, v1 = .int .i64 x2 ∧
 (sB (decide (p1 < x2))
 ((Fn Tryz.prog 241 #[.slice p0.a p0.n p0.c, .int .i64 p1] h3
 (fun v4 h9 => ∃ (x5 : ByteArray) (x6 x7 x8 : Int), v4 = .agg ⟨[.string x5, .int .i64 x6, .int .i64 x7, .int .i64 x8]⟩ ∧
 R (.bool (x6 == 2)) h9)))
 (R (.bool false) h3)))))
 (R (.bool false) h))
theorem vc202 (p0 : Sl) (p1 : Int) (h : Heap) (R : Value → Heap → Prop) (H : W202 p0 p1 h R) : Fn Tryz.prog 202 #[.slice p0.a p0.n p0.c, .int .i64 p1] h R := fnI (A := .z) (by kernel_rfl) H

def W240 (p0 : Int) (h : Heap) (R : Value → Heap → Prop) : Prop :=
 (sB (decide (p0 ≥ 48))
 (R (.bool (decide (p0 ≤ 57))) h)
 (R (.bool false) h))
theorem vc240 (p0 : Int) (h : Heap) (R : Value → Heap → Prop) (H : W240 p0 h R) : Fn Tryz.prog 240 #[.int .u8 p0] h R := fnI (A := .z) (by kernel_rfl) H

/- farandole/farandoleref14.Field
 loop rlrb: x_5:Int, i_6:Int -/
def W241 (p0 : Sl) (p1 : Int) (h : Heap) (R : Value → Heap → Prop) : Prop :=
 (∀ h1 : Heap, h1 = h.push (.cells ⟨[.string ⟨#[]⟩, .int .i64 0, .int .i64 0, .int .i64 0]⟩ 184) →
 (∃ I2 : Int → Int → Heap → Nat → Prop, (∃ m3, I2 p1 0 h1 m3) ∧
 (∀ (_ : Env) (x_5 i_6 : Int) (h7 : Heap) (m4 : Nat), I2 x_5 i_6 h7 m4 →
 (sB (decide (i_6 < (p0.n : Int)))
 ((NB p0.a fun b8 o9 => ((0 ≤ (i_6 : Int) ∧ (i_6 : Int) < (p0.n : Nat)) ∧
 (∃ x10 : Sl, hc h7 ⟨b8, o9 + Int.toNat i_6 * 5 + 1, none⟩ = some (.slice x10.a x10.n x10.c) ∧
 (sB (decide (x_5 < (x10.n : Int)))
 ((NB p0.a fun b11 o12 => ((0 ≤ (i_6 : Int) ∧ (i_6 : Int) < (p0.n : Nat)) ∧
 (∃ x13 : Sl, hc h7 ⟨b11, o12 + Int.toNat i_6 * 5 + 1, none⟩ = some (.slice x13.a x13.n x13.c) ∧
 (NB x13.a fun b14 o15 => ((0 ≤ (x_5 : Int) ∧ (x_5 : Int) < (x13.n : Nat)) ∧
 (∃ (x16 : ByteArray) (x17 x18 x19 : Int), atC h7 ⟨b14, o15 + Int.toNat x_5 * 4, none⟩ [.string x16, .int .i64 x17, .int .i64 x18, .int .i64 x19] ∧
 (okAt h7 ⟨h.size, 0, none⟩ 4 ∧ ∀ h20 : Heap, h20 = hputs h7 ⟨h.size, 0, none⟩ 0 [.string x16, .int .i64 x17, .int .i64 x18, .int .i64 x19] →
 (∃ (x21 : ByteArray) (x22 x23 x24 : Int), atC h20 ⟨h.size, 0, none⟩ [.string x21, .int .i64 x22, .int .i64 x23, .int .i64 x24] ∧
 R (.agg ⟨[.string x21, .int .i64 x22, .int .i64 x23, .int .i64 x24]⟩) h20)))))))))
 ((NB p0.a fun b25 o26 => ((0 ≤ (i_6 : Int) ∧ (i_6 : Int) < (p0.n : Nat)) ∧
 (∃ x27 : Sl, hc h7 ⟨b25, o26 + Int.toNat i_6 * 5 + 1, none⟩ = some (.slice x27.a x27.n x27.c) ∧
 (∃ m28, m28 < m4 ∧ I2 (IntKind.wrap .i64 (x_5 - (x27.n : Int))) (IntKind.wrap .i64 (i_6 + 1)) h7 m28))))))))))
 ((okAt h7 ⟨h.size, 0, none⟩ 4 ∧ ∀ h29 : Heap, h29 = hputs h7 ⟨h.size, 0, none⟩ 0 [.string ⟨#[]⟩, .int .i64 0, .int .i64 0, .int .i64 0] →
 (∃ (x30 : ByteArray) (x31 x32 x33 : Int), atC h29 ⟨h.size, 0, none⟩ [.string x30, .int .i64 x31, .int .i64 x32, .int .i64 x33] ∧
 R (.agg ⟨[.string x30, .int .i64 x31, .int .i64 x32, .int .i64 x33]⟩) h29)))))))
theorem vc241 (p0 : Sl) (p1 : Int) (h : Heap) (R : Value → Heap → Prop) (H : W241 p0 p1 h R) : Fn Tryz.prog 241 #[.slice p0.a p0.n p0.c, .int .i64 p1] h R := fnI (A := (.s .z (.s (.s .z (.b (.l [(1, .one (.int .i64)), (5, .one (.int .i64))] .z))) .z))) (by kernel_rfl) H

end Go.VC
end

section
/- Contracts: the reference of validity: words, sorts, numbers of variables; each answers exactly. -/
namespace Go.VC
open Go.Proofs Go.LexS
set_option maxRecDepth 100000
def RBo (h : Heap) (v : Value) (h' : Heap) : Prop := (∃ b : Bool, v = .bool b) ∧ Ext h h'
theorem RBo.mk {h h' : Heap} {b : Bool} (E : Ext h h') : RBo h (.bool b) h' := ⟨⟨b, rfl⟩, E⟩
theorem Ext.rfl' {h : Heap} : Ext h h := ⟨Nat.le_refl _, fun _ _ => rfl⟩
def RP (p : Prop) (h : Heap) (v : Value) (h' : Heap) : Prop := (∃ b : Bool, v = .bool b ∧ (b = true ↔ p)) ∧ Ext h h'
theorem RP.t {p : Prop} {h h' : Heap} (hp : p) (E : Ext h h') : RP p h (.bool true) h' := ⟨⟨true, rfl, iff_of_true rfl hp⟩, E⟩
theorem RP.f {p : Prop} {h h' : Heap} (hp : ¬ p) (E : Ext h h') : RP p h (.bool false) h' := ⟨⟨false, rfl, iff_of_false (by decide) hp⟩, E⟩
theorem RP.e {p : Prop} {h h' : Heap} {b : Bool} (hb : b = true ↔ p) (E : Ext h h') : RP p h (.bool b) h' := ⟨⟨b, rfl, hb⟩, E⟩
theorem iff_f {p : Prop} {b : Bool} (hp : b = true ↔ p) (c : b = false) : ¬ p := fun hq => by
  rw [hp.2 hq] at c; cases c
theorem letter199 (b : UInt8) (h : Heap) : Fn Tryz.prog 199 #[.int .u8 b.toNat] h fun v h' => v = .bool (lt b) ∧ h' = h := by
  apply vc199; unfold W199
  unfold lt isLetter
  generalize (b.toNat : Int) = n
  repeat' first
    | refine sBi (fun _ => ?_) (fun _ => ?_)
  all_goals
    refine ⟨?_, rfl⟩
    congr 1
    rw [Bool.eq_iff_iff]
    simp only [Bool.or_eq_true, Bool.and_eq_true, decide_eq_true_eq, Bool.false_eq_true, true_iff, false_iff]
    omega
theorem digit240 (b : UInt8) (h : Heap) : Fn Tryz.prog 240 #[.int .u8 b.toNat] h fun v h' => v = .bool (dg b) ∧ h' = h := by
  apply vc240; unfold W240
  unfold dg isDigit
  refine sBi (fun c => ⟨?_, rfl⟩) (fun c => ⟨?_, rfl⟩)
  · rw [decide_eq_true (p := (48 : Int) ≤ b.toNat) c, Bool.true_and]
  · rw [decide_eq_false (p := (48 : Int) ≤ b.toNat) c, Bool.false_and]
theorem inner200 (b : UInt8) (h : Heap) : Fn Tryz.prog 200 #[.int .u8 b.toNat] h fun v h' => v = .bool (inn b) ∧ h' = h := by
  apply vc200; unfold W200
  refine (letter199 b h).mono ?_
  rintro _ h3 ⟨rfl, rfl⟩
  refine ⟨_, rfl, sB_intro (fun c => ?_) (fun c => ?_)⟩
  · exact ⟨by rw [show inn b = (lt b || dg b || ((b.toNat : Int) == 95)) from rfl, c]; rfl, rfl⟩
  · refine (digit240 b _).mono ?_
    rintro _ h6 ⟨rfl, rfl⟩
    refine ⟨_, rfl, sB_intro (fun d => ?_) (fun d => ?_)⟩
    · exact ⟨by rw [show inn b = (lt b || dg b || ((b.toNat : Int) == 95)) from rfl, c, d]; rfl, rfl⟩
    · exact ⟨by rw [show inn b = (lt b || dg b || ((b.toNat : Int) == 95)) from rfl, c, d]; rfl, rfl⟩
theorem isName152 (s : ByteArray) (h : Heap) : Fn Tryz.prog 152 #[.string s] h fun v h' => v = .bool (isName s.data.toList) ∧ h' = h := by
  apply vc152; unfold W152
  have hsz := size_len s
  rw [strEq]
  generalize hL : s.data.toList = L at *
  refine sB_intro (fun he => ?_) (fun he => ?_)
  · have : L = [] := of_decide_eq_true he
    subst this
    exact ⟨rfl, rfl⟩
  · have hne : L ≠ [] := of_decide_eq_false he
    have hpos : 0 < L.length := List.length_pos_iff.2 hne
    obtain ⟨b, hb, hby⟩ := byte_get (s := s) (i := 0) (by omega)
    rw [hL] at hb
    have hcons : L = b :: L.drop 1 := by have := drop_cons hb; rwa [List.drop_zero] at this
    have hdef : isName L = (decide (L.length ≤ 16) && lt b && L.all inn) := by
      conv => lhs; rw [hcons]
      rw [isName, ← hcons]
    rw [hdef]
    refine ⟨⟨by omega, by omega⟩, ?_⟩
    rw [show Int.toNat 0 = 0 from rfl, hby]
    refine (letter199 _ _).mono ?_
    rintro v h3 ⟨rfl, rfl⟩
    refine ⟨_, rfl, sB_intro (fun hlet => ?_) (fun hlet => ?_)⟩
    · refine ⟨?_, rfl⟩
      rw [show lt b = false from by rw [Bool.not_eq_true'] at hlet; exact hlet, Bool.and_false]; rfl
    rw [show lt b = true from by rw [Bool.not_eq_false'] at hlet; exact hlet]
    refine sB_intro (fun hgt => ?_) (fun hgt => ?_)
    · refine ⟨?_, rfl⟩
      rw [decide_eq_false (by have := of_decide_eq_true hgt; omega)]; rfl
    · have h16 : L.length ≤ 16 := by have := of_decide_eq_false hgt; omega
      rw [decide_eq_true h16]
      refine up_loop (n := s.size) (fun i h' => h' = h3 ∧ ∀ (j : Nat) (b : UInt8), j < i → L[j]? = some b → (!inn b) = false) ⟨rfl, fun j b hj => by omega⟩ ?_
      rintro - i h8 hi ⟨rfl, hd⟩
      refine sB_intro (fun hlt => ?_) (fun hge => ?_)
      · have hlt' := lt_t hlt
        obtain ⟨y, hy, hby2⟩ := byte_get hlt'
        rw [hL] at hy
        refine ⟨⟨by omega, by omega⟩, ?_⟩
        rw [show Int.toNat (i : Int) = i from rfl, hby2]
        refine (inner200 _ _).mono ?_
        rintro v h11 ⟨rfl, rfl⟩
        refine ⟨_, rfl, sB_intro (fun hp => ?_) (fun hp => ?_)⟩
        · refine ⟨?_, rfl⟩
          have : L.all inn = false := by
            rw [← Bool.not_eq_true, all_split]
            intro hh
            have := hh y i hy
            rw [Bool.not_eq_true'] at hp
            rw [show inn y = false from hp] at this; cases this
          rw [this]; rfl
        · exact Up.next hlt' (by omega) ⟨rfl, scan_next (p := fun b => !inn b) hy hp hd⟩
      · have hge' := lt_f hge
        refine ⟨?_, rfl⟩
        rw [(all_split inn L).2 fun b j hb => by simpa using hd j b (by have := (List.getElem?_eq_some_iff.1 hb).1; omega) hb]; rfl
theorem in153 (l : List Nm) (s : Sl) (x : ByteArray) (h : Heap) (hr : Rw h 1 s (l.map nmC)) (hm : l.length ≤ 1048576) : Fn Tryz.prog 153 #[.slice s.a s.n s.c, .string x] h fun v h' => v = .bool (decide (x.data.toList ∈ l)) ∧ h' = h := by
  apply vc153; unfold W153
  have hn := hr.ln
  refine up_loop (n := s.n) (fun i h' => h' = h ∧ x.data.toList ∉ l.take i) ⟨rfl, fun e => by simp at e⟩ ?_
  rintro - i h8 hi ⟨rfl, hd⟩
  refine sB_intro (fun c => ?_) (fun c => ?_)
  · replace c := lt_t c
    refine hr.nbI (by omega) (by omega) fun b o d g t => ?_
    replace g : l[i]? = some d := g
    refine ⟨_, t.hd, ?_⟩
    rw [strEq, bs_list]
    refine sB_intro (fun he => ?_) (fun hne => ?_)
    · replace he := of_decide_eq_true he
      exact ⟨by rw [decide_eq_true (by first | (rw [he]; exact List.mem_of_getElem? g) | (rw [← he]; exact List.mem_of_getElem? g))], rfl⟩
    · replace hne := of_decide_eq_false hne
      refine Up.next c (by omega) ⟨rfl, fun hm2 => ?_⟩
      rw [List.take_add_one, g] at hm2
      rcases List.mem_append.1 hm2 with hm2 | hm2
      · exact hd hm2
      · first | exact hne (List.mem_singleton.1 hm2) | exact hne (List.mem_singleton.1 hm2).symm
  · replace c := lt_f c
    refine ⟨?_, rfl⟩
    rw [List.take_of_length_le (by omega)] at hd
    rw [decide_eq_false hd]
theorem index112 (l : List Nm) (s : Sl) (x : ByteArray) (h : Heap) (hr : Rw h 1 s (l.map nmC)) (hm : l.length ≤ 1048576) : Fn Tryz.prog 112 #[.slice s.a s.n s.c, .string x] h fun v h' => (∃ k : Int, v = .int .i64 k ∧ (∀ i : Nat, i < l.length → (k < (i : Int) ↔ x.data.toList ∈ l.take i ∨ x.data.toList ∉ l))) ∧ h' = h := by
  apply vc112; unfold W112
  have hn := hr.ln
  refine up_loop (n := s.n) (fun i h' => h' = h ∧ x.data.toList ∉ l.take i) ⟨rfl, fun e => by simp at e⟩ ?_
  rintro - i h8 hi ⟨rfl, hd⟩
  refine sB_intro (fun c => ?_) (fun c => ?_)
  · replace c := lt_t c
    refine hr.nbI (by omega) (by omega) fun b o d g t => ?_
    replace g : l[i]? = some d := g
    refine ⟨_, t.hd, ?_⟩
    rw [strEq, bs_list]
    refine sB_intro (fun he => ?_) (fun hne => ?_)
    · replace he := of_decide_eq_true he
      have he2 : x.data.toList = d := by first | exact he | exact he.symm
      have hmem : x.data.toList ∈ l := by rw [he2]; exact List.mem_of_getElem? g
      refine ⟨⟨_, rfl, fun k hk => ⟨fun hik => .inl ?_, fun hor => ?_⟩⟩, rfl⟩
      · have : l[i]? = some x.data.toList := by rw [he2]; exact g
        exact List.mem_of_getElem? (i := i) (by rw [List.getElem?_take, if_pos (by omega)]; exact this)
      · rcases hor with hor | hor
        · apply Classical.byContradiction
          intro hki
          have : l.take k = (l.take i).take k := by rw [List.take_take, Nat.min_eq_left (by omega)]
          rw [this] at hor
          exact hd (List.mem_of_mem_take hor)
        · exact absurd hmem hor
    · replace hne := of_decide_eq_false hne
      refine Up.next c (by omega) ⟨rfl, fun hm2 => ?_⟩
      rw [List.take_add_one, g] at hm2
      rcases List.mem_append.1 hm2 with hm2 | hm2
      · exact hd hm2
      · first | exact hne (List.mem_singleton.1 hm2) | exact hne (List.mem_singleton.1 hm2).symm
  · replace c := lt_f c
    rw [List.take_of_length_le (by omega)] at hd
    exact ⟨⟨_, rfl, fun k hk => ⟨fun _ => .inr hd, fun _ => by omega⟩⟩, rfl⟩
def kwB : List ByteArray := [⟨#[97, 103, 97, 105, 110]⟩, ⟨#[97, 110, 100]⟩, ⟨#[97, 115]⟩, ⟨#[97, 116]⟩, ⟨#[99, 97, 108, 108]⟩, ⟨#[99, 104, 111, 105, 99, 101]⟩, ⟨#[101, 108, 115, 101]⟩, ⟨#[102, 114, 111, 109]⟩, ⟨#[105, 102]⟩, ⟨#[105, 110, 116]⟩, ⟨#[108, 101, 110]⟩, ⟨#[108, 111, 111, 112]⟩, ⟨#[109, 101, 115, 115, 97, 103, 101]⟩, ⟨#[111, 102]⟩, ⟨#[111, 102, 102, 101, 114]⟩, ⟨#[111, 110]⟩, ⟨#[111, 114]⟩, ⟨#[112, 97, 114]⟩, ⟨#[112, 108, 97, 121, 115]⟩, ⟨#[112, 114, 111, 116, 111, 99, 111, 108]⟩, ⟨#[115, 101, 114, 118, 105, 99, 101]⟩, ⟨#[116, 101, 120, 116]⟩, ⟨#[116, 105, 109, 101, 115]⟩, ⟨#[116, 111]⟩, ⟨#[118, 97, 114]⟩, ⟨#[119, 104, 101, 114, 101]⟩, ⟨#[119, 104, 105, 108, 101]⟩, ⟨#[119, 105, 116, 104, 105, 110]⟩]
theorem kwB_eq : (kwB.map fun b => b.data.toList) = keywords := rfl
theorem keywords154 (h : Heap) : Fn Tryz.prog 154 #[] h fun v h' => Ext h h' ∧ ∃ s : Sl, v = .slice s.a s.n s.c ∧ Rw h' 1 s (keywords.map nmC) := by
  apply vc154; unfold W154
  intro h1 e
  have ho : Own h1 h.size (kwB.map Value.string) 9 := by rw [e]; exact Own.push
  have hl : kwB.length = 28 := rfl
  rw [← kwB_eq]
  refine ⟨by rw [e]; exact Ext.push _ _, ⟨some ⟨h.size, 0, none⟩, 28, 28⟩, rfl, by rw [List.length_map, List.length_map, hl], fun _ => ⟨h.size, 0, rfl, fun i row hi => ?_⟩⟩
  rw [List.map_map, List.getElem?_map] at hi
  obtain ⟨x, hx1, hx2⟩ := Option.map_eq_some_iff.1 hi
  subst hx2
  refine ho.atC fun j v hj => ?_
  match j, hj with
  | 0, hj => cases hj; rw [show 0 + i * 1 + 0 = i by omega, List.getElem?_map, hx1]; rfl
theorem isWord111 (s : ByteArray) (h : Heap) : Fn Tryz.prog 111 #[.string s] h fun v h' => v = .bool (isWord s.data.toList) ∧ Ext h h' := by
  apply vc111; unfold W111
  refine (isName152 s h).mono ?_
  rintro _ h3 ⟨rfl, rfl⟩
  refine ⟨_, rfl, sB_intro (fun c => ?_) (fun c => ?_)⟩
  · refine (keywords154 h3).mono ?_
    rintro _ h6 ⟨E2, k, rfl, hk⟩
    refine ⟨_, rfl, ?_⟩
    refine (in153 _ k s h6 hk (by decide)).mono ?_
    rintro _ h9 ⟨rfl, rfl⟩
    exact ⟨_, rfl, by rw [isWord, c]; rfl, E2⟩
  · exact ⟨by rw [isWord, c]; rfl, .rfl'⟩
theorem word201 (s : ByteArray) (h : Heap) : Fn Tryz.prog 201 #[.string s] h fun v h' => v = .bool (isWord s.data.toList) ∧ Ext h h' := by
  apply vc201; unfold W201
  refine (isWord111 s h).mono ?_
  rintro _ h3 ⟨rfl, E⟩
  exact ⟨_, rfl, rfl, E⟩
theorem ix_one {l : Nm} : Lib.index l [46] = Lib.indexByte l 46 := Lib.index_one l 46
theorem pieces_none {l : Nm} (hn : ∀ k : Nat, l[k]? ≠ some 46) : pieces l = [l] := by
  have h1 : Lib.index l [46] = -1 := by
    have h0 := Lib.index_ge l [46]
    apply Classical.byContradiction
    intro h2
    obtain ⟨o, ho⟩ : ∃ o : Nat, Lib.index l [46] = o := ⟨(Lib.index l [46]).toNat, by omega⟩
    rw [ix_one] at ho
    exact hn o (Lib.indexByte_some ho).1
  unfold pieces Lib.split
  rw [Lib.count_miss h1]; rfl
theorem pieces_hit {l : Nm} {i : Nat} (hi : l[i]? = some 46) (hn : ∀ k : Nat, k < i → l[k]? ≠ some 46) : pieces l = l.take i :: pieces (l.drop (i + 1)) := by
  have h1 : Lib.index l [46] = (i : Int) := by
    have h0 := Lib.index_ge l [46]
    have h2 : Lib.index l [46] ≠ -1 := fun h2 => by rw [ix_one] at h2; exact Lib.indexByte_none h2 i hi
    obtain ⟨o, ho⟩ : ∃ o : Nat, Lib.index l [46] = o := ⟨(Lib.index l [46]).toNat, by omega⟩
    have h3 := Lib.indexByte_some (ix_one (l := l) ▸ ho)
    have : o = i := by
      rcases Nat.lt_trichotomy o i with h | h | h
      · exact absurd h3.1 (hn o h)
      · exact h
      · exact absurd hi (h3.2 i h)
    rw [ho, this]
  unfold pieces Lib.split
  rw [Lib.count_hit (i := i) (by decide) h1, Nat.add_comm 1, Lib.splitK, if_neg (by rw [h1]; intro e; have := eq_of_beq e; omega), h1]
  rfl
theorem isPath157 (s : ByteArray) (h : Heap) (hs : s.size ≤ 1048576) : Fn Tryz.prog 157 #[.string s] h fun v h' => v = .bool (isPath s.data.toList) ∧ Ext h h' := by
  apply vc157; unfold W157
  have hsz := size_len s
  generalize hL : s.data.toList = L at *
  refine ⟨fun f i h' m => ∃ a b : Nat, f = a ∧ i = b ∧ a ≤ b ∧ b ≤ s.size + 1 ∧ m = s.size + 1 - b ∧ Ext h h' ∧ (b ≤ s.size → (∀ k : Nat, a ≤ k → k < b → L[k]? ≠ some 46) ∧ (pieces L).all isWord = (pieces (L.drop a)).all isWord) ∧ (s.size < b → (pieces L).all isWord = true), ⟨_, 0, 0, rfl, rfl, Nat.le_refl _, by omega, rfl, .rfl', fun _ => ⟨fun k _ hk => by omega, rfl⟩, fun hb => by omega⟩, ?_⟩
  rintro - _ _ h6 m ⟨a, b, rfl, rfl, hab, hb, rfl, E, hq, hz⟩
  refine sB_intro (fun c => ?_) (fun c => ?_)
  · replace c := of_decide_eq_true c
    have hbs : b ≤ s.size := by omega
    obtain ⟨q1, q2⟩ := hq hbs
    have hw : IntKind.wrap .i64 ((b : Int) + 1) = ((b + 1 : Nat) : Int) := by rw [w64 (by omega) (by omega)]; omega
    have hsl : (s.extract (Int.toNat (a : Int)) (Int.toNat (b : Int))).data.toList = (L.drop a).take (b - a) := by
      rw [show Int.toNat (a : Int) = a from rfl, show Int.toNat (b : Int) = b from rfl, ext_data, hL]
    refine sB_intro (fun c2 => ?_) (fun c2 => ?_)
    · have hbe : b = s.size := by
        have : (b : Int) = s.size := by simpa using c2
        omega
      have hp : pieces (L.drop a) = [L.drop a] := pieces_none fun k hk => by
        rw [List.getElem?_drop] at hk
        exact q1 (a + k) (by omega) (by have := (List.getElem?_eq_some_iff.1 hk).1; omega) hk
      have hta : (L.drop a).take (b - a) = L.drop a := List.take_of_length_le (by rw [List.length_drop]; omega)
      refine ⟨⟨by omega, by omega, by omega⟩, ?_⟩
      refine (word201 _ h6).mono ?_
      rintro _ h9 ⟨rfl, E2⟩
      rw [hsl, hta]
      rw [hp, List.all_cons, List.all_nil, Bool.and_true] at q2
      refine ⟨_, rfl, sB_intro (fun c3 => ?_) (fun c3 => ⟨_, by omega, b + 1, b + 1, hw, hw, by omega, by omega, rfl, E.trans E2, fun hb2 => by omega, fun _ => ?_⟩)⟩
      · refine ⟨?_, E.trans E2⟩
        rw [isPath, q2, bF c3, Bool.and_false]
      · rw [q2, bT c3]
    · have hne : (b : Int) ≠ s.size := by simpa using c2
      obtain ⟨y, hy, hby⟩ := byte_get (s := s) (i := b) (by omega)
      rw [hL] at hy
      refine ⟨⟨by omega, by omega⟩, ?_⟩
      rw [show Int.toNat (b : Int) = b from rfl] at *
      rw [hby]
      refine sB_intro (fun c3 => ?_) (fun c3 => ⟨_, by omega, a, b + 1, rfl, hw, by omega, by omega, rfl, E, fun _ => ⟨fun k hk1 hk2 => ?_, q2⟩, fun hb2 => by omega⟩)
      · have hy46 : y = 46 := by
          have h4 : (y.toNat : Int) = 46 := by simpa using c3
          exact UInt8.toNat_inj.1 (by rw [show (46 : UInt8).toNat = 46 from rfl]; omega)
        subst hy46
        have hp : pieces (L.drop a) = (L.drop a).take (b - a) :: pieces ((L.drop a).drop (b - a + 1)) := pieces_hit (by rw [List.getElem?_drop, show a + (b - a) = b by omega]; exact hy) fun k hk => by
          rw [List.getElem?_drop]; exact q1 (a + k) (by omega) (by omega)
        rw [List.drop_drop, show a + (b - a + 1) = b + 1 by omega] at hp
        rw [hp, List.all_cons] at q2
        refine ⟨⟨by omega, by omega, by omega⟩, ?_⟩
        refine (word201 _ h6).mono ?_
        rintro _ h9 ⟨rfl, E2⟩
        rw [hsl]
        refine ⟨_, rfl, sB_intro (fun c4 => ?_) (fun c4 => ⟨_, by omega, b + 1, b + 1, hw, hw, by omega, by omega, rfl, E.trans E2, fun hb2 => ⟨fun k _ _ => by omega, ?_⟩, fun hb2 => by omega⟩)⟩
        · refine ⟨?_, E.trans E2⟩
          rw [isPath, q2, bF c4, Bool.false_and, Bool.and_false]
        · rw [q2, bT c4, Bool.true_and]
      · by_cases hkb : k = b
        · subst hkb
          rw [hy]
          intro e
          cases e
          simp at c3
        · exact q1 k hk1 (by omega)
  · replace c := of_decide_eq_false c
    refine ⟨?_, E⟩
    rw [isPath, hz (by omega), Bool.and_true]
    first | rfl | (congr 1; rw [decide_eq_decide]; omega)
theorem vars155 (ds : List Dc) (s : Sl) (h : Heap) (hd : DL h s ds) : Fn Tryz.prog 155 #[.slice s.a s.n s.c] h fun v h' => v = .int .i64 ((allF ds).length : Nat) ∧ (allF ds).length ≤ 1099511627776 ∧ h' = h := by
  apply vc155; unfold W155
  have hn := hd.r.ln
  have hm := hd.r.sm
  have hle : ∀ i, i ≤ ds.length → (allF (ds.take i)).length ≤ i * 1048576 := fun i hi => by
    have := allF_le (ds.take i) fun d hd2 => (hd.i d (List.mem_of_mem_take hd2)).pf.sm
    rw [List.length_take, Nat.min_eq_left hi] at this; exact this
  have hmx : ∀ i, i ≤ ds.length → (allF (ds.take i)).length ≤ 1099511627776 := fun i hi => by
    have := hle i hi
    have : i * 1048576 ≤ 1048576 * 1048576 := Nat.mul_le_mul_right _ (by omega)
    omega
  refine ⟨fun q i h' m => ∃ b : Nat, i = b ∧ b ≤ s.n ∧ m = s.n - b ∧ h' = h ∧ q = ((allF (ds.take b)).length : Nat), ⟨_, 0, rfl, by omega, rfl, rfl, rfl⟩, ?_⟩
  rintro - nn _ h6 m ⟨b, rfl, hb, rfl, rfl, rfl⟩
  refine sB_intro (fun c => ?_) (fun c => ?_)
  · replace c := lt_t c
    refine hd.r.rw.nbI (by omega) (by omega) fun b7 o8 d g t => ?_
    replace g : ds[b]? = some d := g
    have hfn := (hd.i d (List.mem_of_getElem? g)).pf.ln
    refine ⟨_, t.nth 1 rfl, _, ?_, b + 1, by rw [w64 (by omega) (by omega)]; omega, by omega, rfl, rfl, ?_⟩
    · omega
    · have h1 := hmx (b + 1) (by omega)
      rw [List.take_add_one, g, Option.toList_some, allF_snoc, List.length_append] at h1 ⊢
      rw [w64 (by omega) (by omega)]; omega
  · replace c := lt_f c
    have h1 := hmx ds.length (Nat.le_refl _)
    rw [List.take_length] at h1
    rw [List.take_of_length_le (by omega)]
    exact ⟨rfl, h1, rfl⟩
theorem goodSort156 (a b c : Int) (h : Heap) : Fn Tryz.prog 156 #[.agg ⟨[.int .i64 a, .int .i64 b, .int .i64 c]⟩] h (RP (SortS a b c) h) := by
  apply vc156; unfold W156
  refine (St.refl h).newb fun h4 hs => ?_
  refine ⟨fun l m h' => h' = h4 ∧ ((a = 2 ∧ l = 0 ∧ m = 40) ∨ (a ≠ 2 ∧ l = -1000 ∧ m = 1000)), ⟨_, hs.rd 0 rfl rfl, sBi (fun c => ⟨rfl, .inl ⟨by simpa using c, rfl, rfl⟩⟩) (fun c => ⟨rfl, .inr ⟨by simpa using c, rfl, rfl⟩⟩)⟩, ?_⟩
  rintro - l m _ ⟨rfl, hlm⟩
  repeat' (first
    | (refine ⟨_, hs.rd 0 rfl rfl, ?_⟩)
    | (refine sBi (fun _ => ?_) (fun _ => ?_)))
  all_goals
    refine RP.e ?_ hs.ext
    unfold SortS
    simp only [Bool.false_eq_true, decide_eq_true_eq, beq_iff_eq, false_iff, true_iff] at *
    omega
end Go.VC
end
