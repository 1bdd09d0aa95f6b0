/- Texts of this claim, joined: RjVcA, RjVcJ, RjA, RjB. -/
import Derived.Test.YtkebghjhekoecaaGreatDoorM02
import Derived.Test.YtkebghjhekoecaaGreatDoorProg
import Derived.KernelRfl
import Derived.Test.YtkebghjhekoecaaGreatDoorM09
import Derived.Test.YtkebghjhekoecaaGreatDoorM06
import Derived.Test.YtkebghjhekoecaaGreatDoorM19
import Derived.Test.YtkebghjhekoecaaGreatDoorM18
set_option linter.unusedVariables false
set_option linter.unusedSimpArgs false

section
namespace Go.VC
open Go.Proofs
set_option maxRecDepth 100000
set_option linter.unusedVariables false

def W63 (p0_1 : Int) (p0_2 : Bool) (p0_3 p0_4 p0_5 : Int) (p0_6 : Bool) (h : Heap) (R : Value → Heap → Prop) : Prop :=
 (∀ h7 : Heap, h7 = h.push (.cells ⟨[.int .i64 p0_1, .bool p0_2, .int .i64 p0_3, .int .i64 p0_4, .int .i64 p0_5, .bool p0_6]⟩ 81) →
 (∀ h8 : Heap, h8 = h7.push (.cells ⟨[.bool false, .int .i64 0, .int .i64 0]⟩ 79) →
 (∃ x9 : Bool, hc h8 ⟨h.size, 1, none⟩ = some (.bool x9) ∧
 (∃ x10 : Int, hc h8 ⟨h.size, 2, none⟩ = some (.int .i64 x10) ∧
 (∃ x11 : Int, hc h8 ⟨h.size, 3, none⟩ = some (.int .i64 x11) ∧
 (okAt h8 ⟨h7.size, 0, none⟩ 3 ∧ ∀ h12 : Heap, h12 = hputs h8 ⟨h7.size, 0, none⟩ 0 [.bool x9, .int .i64 x10, .int .i64 x11] →
 (∃ (x13 : Bool) (x14 x15 : Int), atC h12 ⟨h7.size, 0, none⟩ [.bool x13, .int .i64 x14, .int .i64 x15] ∧
 R (.agg ⟨[.bool x13, .int .i64 x14, .int .i64 x15]⟩) h12)))))))
theorem vc63 (p0_1 : Int) (p0_2 : Bool) (p0_3 p0_4 p0_5 : Int) (p0_6 : Bool) (h : Heap) (R : Value → Heap → Prop) (H : W63 p0_1 p0_2 p0_3 p0_4 p0_5 p0_6 h R) : Fn Tryz.prog 63 #[.agg ⟨[.int .i64 p0_1, .bool p0_2, .int .i64 p0_3, .int .i64 p0_4, .int .i64 p0_5, .bool p0_6]⟩] h R := fnI (A := .z) (by kernel_rfl) H

def W104 (p0_1 : Bool) (p0_2 p0_3 : Int) (p1_4 : Bool) (p1_5 p1_6 : Int) (h : Heap) (R : Value → Heap → Prop) : Prop :=
 (∀ h7 : Heap, h7 = h.push (.cells ⟨[.bool p0_1, .int .i64 p0_2, .int .i64 p0_3]⟩ 79) →
 (∀ h8 : Heap, h8 = h7.push (.cells ⟨[.bool p1_4, .int .i64 p1_5, .int .i64 p1_6]⟩ 79) →
 (∃ x9 : Bool, hc h8 ⟨h.size, 0, none⟩ = some (.bool x9) ∧
 (∃ x10 : Bool, hc h8 ⟨h7.size, 0, none⟩ = some (.bool x10) ∧
 (sB (!(x9 == x10))
 ((∃ x11 : Bool, hc h8 ⟨h.size, 0, none⟩ = some (.bool x11) ∧
 (sB x11
 (R (.int .i64 (-1)) h8)
 (R (.int .i64 1) h8))))
 ((∃ x12 : Int, hc h8 ⟨h.size, 1, none⟩ = some (.int .i64 x12) ∧
 (∃ x13 : Int, hc h8 ⟨h7.size, 1, none⟩ = some (.int .i64 x13) ∧
 (∃ x14 : Int, hc h8 ⟨h.size, 2, none⟩ = some (.int .i64 x14) ∧
 (∃ x15 : Int, hc h8 ⟨h7.size, 2, none⟩ = some (.int .i64 x15) ∧
 (Fn Tryz.prog 155 #[.int .i64 x12, .int .i64 x13] h8
 (fun v16 h18 => ∃ x17 : Int, v16 = .int .i64 x17 ∧
 (Sm [⟨h7.size, 2, none⟩, ⟨h.size, 2, none⟩] h8 h18 ∧
 (Fn Tryz.prog 155 #[.int .i64 x14, .int .i64 x15] h18
 (fun v19 h21 => ∃ x20 : Int, v19 = .int .i64 x20 ∧
 (Sm [⟨h7.size, 1, none⟩, ⟨h.size, 1, none⟩] h18 h21 ∧
 (∀ h22 : Heap, h22 = h21.push (.cells ⟨[.int .i64 x17, .int .i64 x20]⟩ 3) →
 (Fn Tryz.prog 154 #[.slice (some ⟨h21.size, 0, none⟩) 2 2] h22
 (fun v23 h25 => ∃ x24 : Int, v23 = .int .i64 x24 ∧
 R (.int .i64 x24) h25)))))))))))))))))))
theorem vc104 (p0_1 : Bool) (p0_2 p0_3 : Int) (p1_4 : Bool) (p1_5 p1_6 : Int) (h : Heap) (R : Value → Heap → Prop) (H : W104 p0_1 p0_2 p0_3 p1_4 p1_5 p1_6 h R) : Fn Tryz.prog 104 #[.agg ⟨[.bool p0_1, .int .i64 p0_2, .int .i64 p0_3]⟩, .agg ⟨[.bool p1_4, .int .i64 p1_5, .int .i64 p1_6]⟩] h R := fnI (A := .z) (by kernel_rfl) H

def W151 (p0_1 p0_2 p0_3 : Int) (p0_4 p0_5 p0_6 : Sl) (p1 : Int) (h : Heap) (R : Value → Heap → Prop) : Prop :=
 (∀ h7 : Heap, h7 = h.push (.cells ⟨[.int .i64 p0_1, .int .i64 p0_2, .int .i64 p0_3, .slice p0_4.a p0_4.n p0_4.c, .slice p0_5.a p0_5.n p0_5.c, .slice p0_6.a p0_6.n p0_6.c]⟩ 26) →
 (sB (decide (p1 ≥ 0))
 ((∃ x8 : Int, hc h7 ⟨h.size, 1, none⟩ = some (.int .i64 x8) ∧
 R (.bool (decide (p1 < x8))) h7))
 (R (.bool false) h7)))
theorem vc151 (p0_1 p0_2 p0_3 : Int) (p0_4 p0_5 p0_6 : Sl) (p1 : Int) (h : Heap) (R : Value → Heap → Prop) (H : W151 p0_1 p0_2 p0_3 p0_4 p0_5 p0_6 p1 h R) : Fn Tryz.prog 151 #[.agg ⟨[.int .i64 p0_1, .int .i64 p0_2, .int .i64 p0_3, .slice p0_4.a p0_4.n p0_4.c, .slice p0_5.a p0_5.n p0_5.c, .slice p0_6.a p0_6.n p0_6.c]⟩, .int .i64 p1] h R := fnI (A := .z) (by kernel_rfl) H

/- farandole/machine.numbers
 loop rrlrb: x_29:Int -/
def W96 (p0_1 p0_2 p0_3 : Int) (p0_4 p0_5 p0_6 : Sl) (h : Heap) (R : Value → Heap → Prop) : Prop :=
 (∀ h7 : Heap, h7 = h.push (.cells ⟨[.int .i64 p0_1, .int .i64 p0_2, .int .i64 p0_3, .slice p0_4.a p0_4.n p0_4.c, .slice p0_5.a p0_5.n p0_5.c, .slice p0_6.a p0_6.n p0_6.c]⟩ 26) →
 (∃ x8 : Int, hc h7 ⟨h.size, 0, none⟩ = some (.int .i64 x8) ∧
 (sB (decide (x8 < 0))
 (R (.bool false) h7)
 ((∃ x9 : Int, hc h7 ⟨h.size, 0, none⟩ = some (.int .i64 x9) ∧
 (sB (decide (x9 ≥ 6))
 (R (.bool false) h7)
 ((∃ x10 : Int, hc h7 ⟨h.size, 1, none⟩ = some (.int .i64 x10) ∧
 (sB (decide (x10 < 1))
 (R (.bool false) h7)
 ((∃ x11 : Int, hc h7 ⟨h.size, 1, none⟩ = some (.int .i64 x11) ∧
 (sB (decide (x11 > 200))
 (R (.bool false) h7)
 ((∃ (x12 x13 x14 : Int) (x15 x16 x17 : Sl), atC h7 ⟨h.size, 0, none⟩ [.int .i64 x12, .int .i64 x13, .int .i64 x14, .slice x15.a x15.n x15.c, .slice x16.a x16.n x16.c, .slice x17.a x17.n x17.c] ∧
 (∃ x18 : Int, hc h7 ⟨h.size, 2, none⟩ = some (.int .i64 x18) ∧
 (Fn Tryz.prog 151 #[.agg ⟨[.int .i64 x12, .int .i64 x13, .int .i64 x14, .slice x15.a x15.n x15.c, .slice x16.a x16.n x16.c, .slice x17.a x17.n x17.c]⟩, .int .i64 x18] h7
 (fun v19 h21 => ∃ x20 : Bool, v19 = .bool x20 ∧
 (sB (!x20)
 (R (.bool false) h21)
 ((∃ x22 : Sl, hc h21 ⟨h.size, 3, none⟩ = some (.slice x22.a x22.n x22.c) ∧
 (∃ x23 : Int, hc h21 ⟨h.size, 1, none⟩ = some (.int .i64 x23) ∧
 (sB ((x22.n : Int) != x23)
 (R (.bool false) h21)
 ((∃ x24 : Sl, hc h21 ⟨h.size, 4, none⟩ = some (.slice x24.a x24.n x24.c) ∧
 (sB (decide ((x24.n : Int) > 400))
 (R (.bool false) h21)
 ((∃ x25 : Sl, hc h21 ⟨h.size, 4, none⟩ = some (.slice x25.a x25.n x25.c) ∧
 (∃ I26 : Int → Heap → Nat → Prop, (∃ m27, I26 0 h21 m27) ∧
 (∀ (_ : Env) (x_29 : Int) (h30 : Heap) (m28 : Nat), I26 x_29 h30 m28 →
 (sB (decide (x_29 < (x25.n : Int)))
 ((NB x25.a fun b31 o32 => ((0 ≤ (x_29 : Int) ∧ (x_29 : Int) < (x25.n : Nat)) ∧
 (∃ (x33 : Int) (x34 : Bool) (x35 x36 x37 : Int) (x38 : Bool), atC h30 ⟨b31, o32 + Int.toNat x_29 * 6, none⟩ [.int .i64 x33, .bool x34, .int .i64 x35, .int .i64 x36, .int .i64 x37, .bool x38] ∧
 (∀ h39 : Heap, h39 = h30.push (.cells ⟨[.int .i64 0, .bool false, .int .i64 0, .int .i64 0, .int .i64 0, .bool false]⟩ 81) →
 (okAt h39 ⟨h30.size, 0, none⟩ 6 ∧ ∀ h40 : Heap, h40 = hputs h39 ⟨h30.size, 0, none⟩ 0 [.int .i64 x33, .bool x34, .int .i64 x35, .int .i64 x36, .int .i64 x37, .bool x38] →
 (∃ (x41 x42 x43 : Int) (x44 x45 x46 : Sl), atC h40 ⟨h.size, 0, none⟩ [.int .i64 x41, .int .i64 x42, .int .i64 x43, .slice x44.a x44.n x44.c, .slice x45.a x45.n x45.c, .slice x46.a x46.n x46.c] ∧
 (∃ x47 : Int, hc h40 ⟨h30.size, 0, none⟩ = some (.int .i64 x47) ∧
 (Fn Tryz.prog 151 #[.agg ⟨[.int .i64 x41, .int .i64 x42, .int .i64 x43, .slice x44.a x44.n x44.c, .slice x45.a x45.n x45.c, .slice x46.a x46.n x46.c]⟩, .int .i64 x47] h40
 (fun v48 h50 => ∃ x49 : Bool, v48 = .bool x49 ∧
 (sB (!x49)
 (R (.bool false) h50)
 ((∃ (x51 x52 x53 : Int) (x54 x55 x56 : Sl), atC h50 ⟨h.size, 0, none⟩ [.int .i64 x51, .int .i64 x52, .int .i64 x53, .slice x54.a x54.n x54.c, .slice x55.a x55.n x55.c, .slice x56.a x56.n x56.c] ∧
 (∃ x57 : Int, hc h50 ⟨h30.size, 4, none⟩ = some (.int .i64 x57) ∧
 (Fn Tryz.prog 151 #[.agg ⟨[.int .i64 x51, .int .i64 x52, .int .i64 x53, .slice x54.a x54.n x54.c, .slice x55.a x55.n x55.c, .slice x56.a x56.n x56.c]⟩, .int .i64 x57] h50
 (fun v58 h60 => ∃ x59 : Bool, v58 = .bool x59 ∧
 (sB (!x59)
 (R (.bool false) h60)
 ((∃ x61 : Int, hc h60 ⟨h30.size, 2, none⟩ = some (.int .i64 x61) ∧
 (sB (decide (x61 < 0))
 (R (.bool false) h60)
 ((∃ x62 : Int, hc h60 ⟨h30.size, 2, none⟩ = some (.int .i64 x62) ∧
 (sB (decide (x62 ≥ 6))
 (R (.bool false) h60)
 ((∃ x63 : Int, hc h60 ⟨h30.size, 2, none⟩ = some (.int .i64 x63) ∧
 (∃ x64 : Int, hc h60 ⟨h.size, 0, none⟩ = some (.int .i64 x64) ∧
 (sB (x63 == x64)
 (R (.bool false) h60)
 ((∃ x65 : Int, hc h60 ⟨h30.size, 3, none⟩ = some (.int .i64 x65) ∧
 (sB (decide (x65 < 0))
 (R (.bool false) h60)
 ((∃ x66 : Int, hc h60 ⟨h30.size, 3, none⟩ = some (.int .i64 x66) ∧
 (sB (decide (x66 ≥ 40))
 (R (.bool false) h60)
 ((∃ m67, m67 < m28 ∧ I26 (IntKind.wrap .i64 (x_29 + 1)) h60 m67)))))))))))))))))))))))))))))))))))
 (R (.bool true) h30)))))))))))))))))))))))))))))))
theorem vc96 (p0_1 p0_2 p0_3 : Int) (p0_4 p0_5 p0_6 : Sl) (h : Heap) (R : Value → Heap → Prop) (H : W96 p0_1 p0_2 p0_3 p0_4 p0_5 p0_6 h R) : Fn Tryz.prog 96 #[.agg ⟨[.int .i64 p0_1, .int .i64 p0_2, .int .i64 p0_3, .slice p0_4.a p0_4.n p0_4.c, .slice p0_5.a p0_5.n p0_5.c, .slice p0_6.a p0_6.n p0_6.c]⟩] h R := fnI (A := (.s .z (.s .z (.s (.s .z (.b (.l [(47, .one (.int .i64))] .z))) .z)))) (by kernel_rfl) H

/- farandole/machine.sorted
 loop rrrlrb: x_51:Int
 loop rrlrb: x_21:Int -/
def W97 (p0_1 p0_2 p0_3 : Int) (p0_4 p0_5 p0_6 : Sl) (h : Heap) (R : Value → Heap → Prop) : Prop :=
 (∀ h7 : Heap, h7 = h.push (.cells ⟨[.int .i64 p0_1, .int .i64 p0_2, .int .i64 p0_3, .slice p0_4.a p0_4.n p0_4.c, .slice p0_5.a p0_5.n p0_5.c, .slice p0_6.a p0_6.n p0_6.c]⟩ 26) →
 (∃ (x8 x9 x10 : Int) (x11 x12 x13 : Sl), atC h7 ⟨h.size, 0, none⟩ [.int .i64 x8, .int .i64 x9, .int .i64 x10, .slice x11.a x11.n x11.c, .slice x12.a x12.n x12.c, .slice x13.a x13.n x13.c] ∧
 (∃ x14 : Int, hc h7 ⟨h.size, 1, none⟩ = some (.int .i64 x14) ∧
 (((0 : Int) ≤ x14 ∧ (x14 : Int) ≤ x14 ∧ ((24 : Nat) : Int) * x14 ≤ 140737488355328) ∧ ∀ h15 : Heap, h15 = h7.push (.cells ⟨madeL Tryz.prog 49 (Int.toNat x14)⟩ 49) →
 (Sm [⟨h.size, 0, none⟩] h7 h15 ∧
 (∀ h16 : Heap, h16 = h15.push (.cells ⟨[.int .i64 x8, .int .i64 x9, .int .i64 x10, .slice x11.a x11.n x11.c, .slice x12.a x12.n x12.c, .slice x13.a x13.n x13.c, .slice (some ⟨h7.size, 0, none⟩) (Int.toNat x14) (Int.toNat x14)]⟩ 93) →
 (∃ x17 : Sl, hc h16 ⟨h.size, 4, none⟩ = some (.slice x17.a x17.n x17.c) ∧
 (∃ I18 : Int → Heap → Nat → Prop, (∃ m19, I18 0 h16 m19) ∧
 (∀ (_ : Env) (x_21 : Int) (h22 : Heap) (m20 : Nat), I18 x_21 h22 m20 →
 (sB (decide (x_21 < (x17.n : Int)))
 ((NB x17.a fun b23 o24 => ((0 ≤ (x_21 : Int) ∧ (x_21 : Int) < (x17.n : Nat)) ∧
 (∃ (x25 : Int) (x26 : Bool) (x27 x28 x29 : Int) (x30 : Bool), atC h22 ⟨b23, o24 + Int.toNat x_21 * 6, none⟩ [.int .i64 x25, .bool x26, .int .i64 x27, .int .i64 x28, .int .i64 x29, .bool x30] ∧
 (∀ h31 : Heap, h31 = h22.push (.cells ⟨[.int .i64 0, .bool false, .int .i64 0, .int .i64 0, .int .i64 0, .bool false]⟩ 81) →
 (okAt h31 ⟨h22.size, 0, none⟩ 6 ∧ ∀ h32 : Heap, h32 = hputs h31 ⟨h22.size, 0, none⟩ 0 [.int .i64 x25, .bool x26, .int .i64 x27, .int .i64 x28, .int .i64 x29, .bool x30] →
 (∃ x33 : Sl, hc h32 ⟨h15.size, 6, none⟩ = some (.slice x33.a x33.n x33.c) ∧
 (∃ x34 : Int, hc h32 ⟨h22.size, 0, none⟩ = some (.int .i64 x34) ∧
 (∃ x35 : Sl, hc h32 ⟨h15.size, 6, none⟩ = some (.slice x35.a x35.n x35.c) ∧
 (∃ x36 : Int, hc h32 ⟨h22.size, 0, none⟩ = some (.int .i64 x36) ∧
 (NB x35.a fun b37 o38 => ((0 ≤ (x36 : Int) ∧ (x36 : Int) < (x35.n : Nat)) ∧
 (∃ x39 : Sl, hc h32 ⟨b37, o38 + Int.toNat x36 * 1, none⟩ = some (.slice x39.a x39.n x39.c) ∧
 (∀ h40 : Heap, h40 = h32.push (.cells ⟨[.int .i64 x_21]⟩ 3) →
 (Sm [⟨b37, o38 + Int.toNat x36 * 1, none⟩, ⟨h22.size, 0, none⟩, ⟨h15.size, 6, none⟩, ⟨h22.size, 0, none⟩, ⟨h15.size, 6, none⟩] h32 h40 ∧
 (App Tryz.prog 49 49 (.slice x39.a x39.n x39.c) (.slice (some ⟨h32.size, 0, none⟩) 1 1) h40 fun s41 h42 =>
 (Sm [⟨h22.size, 0, none⟩, ⟨h15.size, 6, none⟩] h40 h42 ∧
 (NB x33.a fun b43 o44 => ((0 ≤ (x34 : Int) ∧ (x34 : Int) < (x33.n : Nat)) ∧
 (okAt h42 ⟨b43, o44 + Int.toNat x34 * 1, none⟩ 1 ∧ ∀ h45 : Heap, h45 = hputs h42 ⟨b43, o44 + Int.toNat x34 * 1, none⟩ 0 [.slice s41.a s41.n s41.c] →
 (∃ m46, m46 < m20 ∧ I18 (IntKind.wrap .i64 (x_21 + 1)) h45 m46)))))))))))))))))))))
 ((∃ x47 : Sl, hc h22 ⟨h15.size, 6, none⟩ = some (.slice x47.a x47.n x47.c) ∧
 (∃ I48 : Int → Heap → Nat → Prop, (∃ m49, I48 0 h22 m49) ∧
 (∀ (_ : Env) (x_51 : Int) (h52 : Heap) (m50 : Nat), I48 x_51 h52 m50 →
 (sB (decide (x_51 < (x47.n : Int)))
 ((NB x47.a fun b53 o54 => ((0 ≤ (x_51 : Int) ∧ (x_51 : Int) < (x47.n : Nat)) ∧
 (∃ x55 : Sl, hc h52 ⟨b53, o54 + Int.toNat x_51 * 1, none⟩ = some (.slice x55.a x55.n x55.c) ∧
 (Fn Tryz.prog 152 #[.slice x55.a x55.n x55.c, .func (.func 153) #[] #[.pointer (some ⟨h.size, 0, none⟩)]] h52
 (fun v56 h57 => v56 = .tuple ⟨[]⟩ ∧
 (∃ m58, m58 < m50 ∧ I48 (IntKind.wrap .i64 (x_51 + 1)) h57 m58)))))))
 (R (.pointer (some ⟨h15.size, 0, none⟩)) h52))))))))))))))))
theorem vc97 (p0_1 p0_2 p0_3 : Int) (p0_4 p0_5 p0_6 : Sl) (h : Heap) (R : Value → Heap → Prop) (H : W97 p0_1 p0_2 p0_3 p0_4 p0_5 p0_6 h R) : Fn Tryz.prog 97 #[.agg ⟨[.int .i64 p0_1, .int .i64 p0_2, .int .i64 p0_3, .slice p0_4.a p0_4.n p0_4.c, .slice p0_5.a p0_5.n p0_5.c, .slice p0_6.a p0_6.n p0_6.c]⟩] h R := fnI (A := (.s .z (.s .z (.s (.s .z (.b (.l [(17, .one (.int .i64))] .z))) (.s (.s .z (.b (.l [(46, .one (.int .i64))] .z))) .z))))) (by kernel_rfl) H

def W153 (p0 p1 : Int) (c0 : Addr) (h : Heap) (R : Value → Heap → Prop) : Prop :=
 (∃ x1 : Sl, hc h ⟨c0.block, c0.off + 4, none⟩ = some (.slice x1.a x1.n x1.c) ∧
 (NB x1.a fun b2 o3 => ((0 ≤ (p0 : Int) ∧ (p0 : Int) < (x1.n : Nat)) ∧
 (∃ (x4 : Int) (x5 : Bool) (x6 x7 x8 : Int) (x9 : Bool), atC h ⟨b2, o3 + Int.toNat p0 * 6, none⟩ [.int .i64 x4, .bool x5, .int .i64 x6, .int .i64 x7, .int .i64 x8, .bool x9] ∧
 (∃ x10 : Sl, hc h ⟨c0.block, c0.off + 4, none⟩ = some (.slice x10.a x10.n x10.c) ∧
 (NB x10.a fun b11 o12 => ((0 ≤ (p1 : Int) ∧ (p1 : Int) < (x10.n : Nat)) ∧
 (∃ (x13 : Int) (x14 : Bool) (x15 x16 x17 : Int) (x18 : Bool), atC h ⟨b11, o12 + Int.toNat p1 * 6, none⟩ [.int .i64 x13, .bool x14, .int .i64 x15, .int .i64 x16, .int .i64 x17, .bool x18] ∧
 (Fn Tryz.prog 63 #[.agg ⟨[.int .i64 x4, .bool x5, .int .i64 x6, .int .i64 x7, .int .i64 x8, .bool x9]⟩] h
 (fun v19 h23 => ∃ (x20 : Bool) (x21 x22 : Int), v19 = .agg ⟨[.bool x20, .int .i64 x21, .int .i64 x22]⟩ ∧
 (Sm [⟨b11, o12 + Int.toNat p1 * 6, none⟩, ⟨c0.block, c0.off + 4, none⟩] h h23 ∧
 (Fn Tryz.prog 63 #[.agg ⟨[.int .i64 x13, .bool x14, .int .i64 x15, .int .i64 x16, .int .i64 x17, .bool x18]⟩] h23
 (fun v24 h28 => ∃ (x25 : Bool) (x26 x27 : Int), v24 = .agg ⟨[.bool x25, .int .i64 x26, .int .i64 x27]⟩ ∧
 (Sm [⟨b2, o3 + Int.toNat p0 * 6, none⟩, ⟨c0.block, c0.off + 4, none⟩] h23 h28 ∧
 (Fn Tryz.prog 104 #[.agg ⟨[.bool x20, .int .i64 x21, .int .i64 x22]⟩, .agg ⟨[.bool x25, .int .i64 x26, .int .i64 x27]⟩] h28
 (fun v29 h31 => ∃ x30 : Int, v29 = .int .i64 x30 ∧
 R (.int .i64 x30) h31))))))))))))))))
theorem vc153 (p0 p1 : Int) (c0 : Addr) (h : Heap) (R : Value → Heap → Prop) (H : W153 p0 p1 c0 h R) : Fn Tryz.prog 153 #[.int .i64 p0, .int .i64 p1, .pointer (some c0)] h R := fnI (A := .z) (by kernel_rfl) H

/- (*farandole/machine.table).deterministic
 loop rlrborrlbrrb: i_13:Int
 loop rlrb: x_5:Int -/
def W98 (p0 : Addr) (h : Heap) (R : Value → Heap → Prop) : Prop :=
 (∃ x1 : Sl, hc h ⟨p0.block, p0.off + 6, none⟩ = some (.slice x1.a x1.n x1.c) ∧
 (∃ I2 : Int → Heap → Nat → Prop, (∃ m3, I2 0 h m3) ∧
 (∀ (_ : Env) (x_5 : Int) (h6 : Heap) (m4 : Nat), I2 x_5 h6 m4 →
 (sB (decide (x_5 < (x1.n : Int)))
 ((NB x1.a fun b7 o8 => ((0 ≤ (x_5 : Int) ∧ (x_5 : Int) < (x1.n : Nat)) ∧
 (∃ x9 : Sl, hc h6 ⟨b7, o8 + Int.toNat x_5 * 1, none⟩ = some (.slice x9.a x9.n x9.c) ∧
 (∃ I10 : Int → Heap → Nat → Prop, (∃ m11, I10 1 h6 m11) ∧
 (∀ (_ : Env) (i_13 : Int) (h14 : Heap) (m12 : Nat), I10 i_13 h14 m12 →
 (sB (decide (i_13 < (x9.n : Int)))
 ((∃ x15 : Sl, hc h14 ⟨p0.block, p0.off + 4, none⟩ = some (.slice x15.a x15.n x15.c) ∧
 (NB x9.a fun b16 o17 => ((0 ≤ ((IntKind.wrap .i64 (i_13 - 1)) : Int) ∧ ((IntKind.wrap .i64 (i_13 - 1)) : Int) < (x9.n : Nat)) ∧
 (∃ x18 : Int, hc h14 ⟨b16, o17 + Int.toNat (IntKind.wrap .i64 (i_13 - 1)) * 1, none⟩ = some (.int .i64 x18) ∧
 (NB x15.a fun b19 o20 => ((0 ≤ (x18 : Int) ∧ (x18 : Int) < (x15.n : Nat)) ∧
 (∃ (x21 : Int) (x22 : Bool) (x23 x24 x25 : Int) (x26 : Bool), atC h14 ⟨b19, o20 + Int.toNat x18 * 6, none⟩ [.int .i64 x21, .bool x22, .int .i64 x23, .int .i64 x24, .int .i64 x25, .bool x26] ∧
 (∃ x27 : Sl, hc h14 ⟨p0.block, p0.off + 4, none⟩ = some (.slice x27.a x27.n x27.c) ∧
 (NB x9.a fun b28 o29 => ((0 ≤ (i_13 : Int) ∧ (i_13 : Int) < (x9.n : Nat)) ∧
 (∃ x30 : Int, hc h14 ⟨b28, o29 + Int.toNat i_13 * 1, none⟩ = some (.int .i64 x30) ∧
 (NB x27.a fun b31 o32 => ((0 ≤ (x30 : Int) ∧ (x30 : Int) < (x27.n : Nat)) ∧
 (∃ (x33 : Int) (x34 : Bool) (x35 x36 x37 : Int) (x38 : Bool), atC h14 ⟨b31, o32 + Int.toNat x30 * 6, none⟩ [.int .i64 x33, .bool x34, .int .i64 x35, .int .i64 x36, .int .i64 x37, .bool x38] ∧
 ((∀ h39 : Heap, h39 = h14.push (.cells ⟨[.int .i64 0, .bool false, .int .i64 0, .int .i64 0, .int .i64 0, .bool false]⟩ 81) →
 (Sm [⟨b31, o32 + Int.toNat x30 * 6, none⟩, ⟨b28, o29 + Int.toNat i_13 * 1, none⟩, ⟨p0.block, p0.off + 4, none⟩, ⟨b19, o20 + Int.toNat x18 * 6, none⟩, ⟨b16, o17 + Int.toNat (IntKind.wrap .i64 (i_13 - 1)) * 1, none⟩, ⟨p0.block, p0.off + 4, none⟩] h14 h39 ∧
 (∀ h40 : Heap, h40 = h39.push (.cells ⟨[.int .i64 0, .bool false, .int .i64 0, .int .i64 0, .int .i64 0, .bool false]⟩ 81) →
 (Sm [⟨b31, o32 + Int.toNat x30 * 6, none⟩, ⟨b28, o29 + Int.toNat i_13 * 1, none⟩, ⟨p0.block, p0.off + 4, none⟩, ⟨b19, o20 + Int.toNat x18 * 6, none⟩, ⟨b16, o17 + Int.toNat (IntKind.wrap .i64 (i_13 - 1)) * 1, none⟩, ⟨p0.block, p0.off + 4, none⟩] h39 h40 ∧
 (okAt h40 ⟨h14.size, 0, none⟩ 6 ∧ ∀ h41 : Heap, h41 = hputs h40 ⟨h14.size, 0, none⟩ 0 [.int .i64 x21, .bool x22, .int .i64 x23, .int .i64 x24, .int .i64 x25, .bool x26] →
 (Sm [⟨b31, o32 + Int.toNat x30 * 6, none⟩, ⟨b28, o29 + Int.toNat i_13 * 1, none⟩, ⟨p0.block, p0.off + 4, none⟩] h40 h41 ∧
 (okAt h41 ⟨h39.size, 0, none⟩ 6 ∧ ∀ h42 : Heap, h42 = hputs h41 ⟨h39.size, 0, none⟩ 0 [.int .i64 x33, .bool x34, .int .i64 x35, .int .i64 x36, .int .i64 x37, .bool x38] →
 (∃ (x43 : Int) (x44 : Bool) (x45 x46 x47 : Int) (x48 : Bool), atC h42 ⟨h14.size, 0, none⟩ [.int .i64 x43, .bool x44, .int .i64 x45, .int .i64 x46, .int .i64 x47, .bool x48] ∧
 (∃ (x49 : Int) (x50 : Bool) (x51 x52 x53 : Int) (x54 : Bool), atC h42 ⟨h39.size, 0, none⟩ [.int .i64 x49, .bool x50, .int .i64 x51, .int .i64 x52, .int .i64 x53, .bool x54] ∧
 (Fn Tryz.prog 63 #[.agg ⟨[.int .i64 x43, .bool x44, .int .i64 x45, .int .i64 x46, .int .i64 x47, .bool x48]⟩] h42
 (fun v55 h59 => ∃ (x56 : Bool) (x57 x58 : Int), v55 = .agg ⟨[.bool x56, .int .i64 x57, .int .i64 x58]⟩ ∧
 (Sm [⟨h39.size, 0, none⟩] h42 h59 ∧
 (Fn Tryz.prog 63 #[.agg ⟨[.int .i64 x49, .bool x50, .int .i64 x51, .int .i64 x52, .int .i64 x53, .bool x54]⟩] h59
 (fun v60 h64 => ∃ (x61 : Bool) (x62 x63 : Int), v60 = .agg ⟨[.bool x61, .int .i64 x62, .int .i64 x63]⟩ ∧
 (Sm [⟨h14.size, 0, none⟩] h59 h64 ∧
 (sB ((x56 == x61) && ((x57 == x62) && ((x58 == x63) && true)))
 (R (.bool false) h64)
 ((∃ x65 : Bool, hc h64 ⟨h14.size, 1, none⟩ = some (.bool x65) ∧
 (∃ x66 : Bool, hc h64 ⟨h39.size, 1, none⟩ = some (.bool x66) ∧
 (sB (!(x65 == x66))
 (R (.bool false) h64)
 ((∃ m67, m67 < m12 ∧ I10 (IntKind.wrap .i64 (i_13 + 1)) h64 m67))))))))))))))))))))))) ∧ ((∀ h68 : Heap, h68 = h14.push (.cells ⟨[.int .i64 0, .bool false, .int .i64 0, .int .i64 0, .int .i64 0, .bool false]⟩ 81) →
 (Sm [⟨b31, o32 + Int.toNat x30 * 6, none⟩, ⟨b28, o29 + Int.toNat i_13 * 1, none⟩, ⟨p0.block, p0.off + 4, none⟩, ⟨b19, o20 + Int.toNat x18 * 6, none⟩, ⟨b16, o17 + Int.toNat (IntKind.wrap .i64 (i_13 - 1)) * 1, none⟩, ⟨p0.block, p0.off + 4, none⟩] h14 h68 ∧
 (∀ h69 : Heap, h69 = h68.push (.cells ⟨[.int .i64 0, .bool false, .int .i64 0, .int .i64 0, .int .i64 0, .bool false]⟩ 81) →
 (Sm [⟨b31, o32 + Int.toNat x30 * 6, none⟩, ⟨b28, o29 + Int.toNat i_13 * 1, none⟩, ⟨p0.block, p0.off + 4, none⟩, ⟨b19, o20 + Int.toNat x18 * 6, none⟩, ⟨b16, o17 + Int.toNat (IntKind.wrap .i64 (i_13 - 1)) * 1, none⟩, ⟨p0.block, p0.off + 4, none⟩] h68 h69 ∧
 (okAt h69 ⟨h68.size, 0, none⟩ 6 ∧ ∀ h70 : Heap, h70 = hputs h69 ⟨h68.size, 0, none⟩ 0 [.int .i64 x21, .bool x22, .int .i64 x23, .int .i64 x24, .int .i64 x25, .bool x26] →
 (Sm [⟨b31, o32 + Int.toNat x30 * 6, none⟩, ⟨b28, o29 + Int.toNat i_13 * 1, none⟩, ⟨p0.block, p0.off + 4, none⟩] h69 h70 ∧
 (okAt h70 ⟨h14.size, 0, none⟩ 6 ∧ ∀ h71 : Heap, h71 = hputs h70 ⟨h14.size, 0, none⟩ 0 [.int .i64 x33, .bool x34, .int .i64 x35, .int .i64 x36, .int .i64 x37, .bool x38] →
 (∃ (x72 : Int) (x73 : Bool) (x74 x75 x76 : Int) (x77 : Bool), atC h71 ⟨h68.size, 0, none⟩ [.int .i64 x72, .bool x73, .int .i64 x74, .int .i64 x75, .int .i64 x76, .bool x77] ∧
 (∃ (x78 : Int) (x79 : Bool) (x80 x81 x82 : Int) (x83 : Bool), atC h71 ⟨h14.size, 0, none⟩ [.int .i64 x78, .bool x79, .int .i64 x80, .int .i64 x81, .int .i64 x82, .bool x83] ∧
 (Fn Tryz.prog 63 #[.agg ⟨[.int .i64 x72, .bool x73, .int .i64 x74, .int .i64 x75, .int .i64 x76, .bool x77]⟩] h71
 (fun v84 h88 => ∃ (x85 : Bool) (x86 x87 : Int), v84 = .agg ⟨[.bool x85, .int .i64 x86, .int .i64 x87]⟩ ∧
 (Sm [⟨h14.size, 0, none⟩] h71 h88 ∧
 (Fn Tryz.prog 63 #[.agg ⟨[.int .i64 x78, .bool x79, .int .i64 x80, .int .i64 x81, .int .i64 x82, .bool x83]⟩] h88
 (fun v89 h93 => ∃ (x90 : Bool) (x91 x92 : Int), v89 = .agg ⟨[.bool x90, .int .i64 x91, .int .i64 x92]⟩ ∧
 (Sm [⟨h68.size, 0, none⟩] h88 h93 ∧
 (sB ((x85 == x90) && ((x86 == x91) && ((x87 == x92) && true)))
 (R (.bool false) h93)
 ((∃ x94 : Bool, hc h93 ⟨h68.size, 1, none⟩ = some (.bool x94) ∧
 (∃ x95 : Bool, hc h93 ⟨h14.size, 1, none⟩ = some (.bool x95) ∧
 (sB (!(x94 == x95))
 (R (.bool false) h93)
 ((∃ m96, m96 < m12 ∧ I10 (IntKind.wrap .i64 (i_13 + 1)) h93 m96))))))))))))))))))))))))))))))))))))))
 ((∃ m97, m97 < m4 ∧ I2 (IntKind.wrap .i64 (x_5 + 1)) h14 m97)))))))))
 (R (.bool true) h6)))))
theorem vc98 (p0 : Addr) (h : Heap) (R : Value → Heap → Prop) (H : W98 p0 h R) : Fn Tryz.prog 98 #[.pointer (some p0)] h R := fnI (A := (.s .z (.s (.s .z (.b (.l [(13, .one (.int .i64))] (.s .z (.s .z (.s (.b (.s .z (.s .z (.b (.l [(5, .one (.int .i64))] .z))))) .z)))))) .z))) (by kernel_rfl) H

/- (*farandole/machine.table).reached
 loop rrrrlrborlbrb: todo_23:Sl, x_24:Int
 loop rrrrlrb: todo_10:Sl, head_11:Int -/
def W99 (p0 : Addr) (h : Heap) (R : Value → Heap → Prop) : Prop :=
 (∃ x1 : Int, hc h ⟨p0.block, p0.off + 1, none⟩ = some (.int .i64 x1) ∧
 (((0 : Int) ≤ x1 ∧ (x1 : Int) ≤ x1 ∧ ((1 : Nat) : Int) * x1 ≤ 140737488355328) ∧ ∀ h2 : Heap, h2 = h.push (.cells ⟨madeL Tryz.prog 4 (Int.toNat x1)⟩ 4) →
 (∃ x3 : Int, hc h2 ⟨p0.block, p0.off + 2, none⟩ = some (.int .i64 x3) ∧
 ((0 ≤ (x3 : Int) ∧ (x3 : Int) < ((Int.toNat x1) : Nat)) ∧
 (okAt h2 ⟨h.size, 0 + Int.toNat x3 * 1, none⟩ 1 ∧ ∀ h4 : Heap, h4 = hputs h2 ⟨h.size, 0 + Int.toNat x3 * 1, none⟩ 0 [.bool true] →
 (∃ x5 : Int, hc h4 ⟨p0.block, p0.off + 2, none⟩ = some (.int .i64 x5) ∧
 (∀ h6 : Heap, h6 = h4.push (.cells ⟨[.int .i64 x5]⟩ 3) →
 (∃ I7 : Sl → Int → Heap → Nat → Prop, (∃ m8, I7 ⟨(some ⟨h4.size, 0, none⟩), 1, 1⟩ 0 h6 m8) ∧
 (∀ (_ : Env) (todo_10 : Sl) (head_11 : Int) (h12 : Heap) (m9 : Nat), I7 todo_10 head_11 h12 m9 →
 (sB (decide (head_11 < (todo_10.n : Int)))
 ((∃ x13 : Sl, hc h12 ⟨p0.block, p0.off + 6, none⟩ = some (.slice x13.a x13.n x13.c) ∧
 (NB todo_10.a fun b14 o15 => ((0 ≤ (head_11 : Int) ∧ (head_11 : Int) < (todo_10.n : Nat)) ∧
 (∃ x16 : Int, hc h12 ⟨b14, o15 + Int.toNat head_11 * 1, none⟩ = some (.int .i64 x16) ∧
 (NB x13.a fun b17 o18 => ((0 ≤ (x16 : Int) ∧ (x16 : Int) < (x13.n : Nat)) ∧
 (∃ x19 : Sl, hc h12 ⟨b17, o18 + Int.toNat x16 * 1, none⟩ = some (.slice x19.a x19.n x19.c) ∧
 (∃ I20 : Sl → Int → Heap → Nat → Prop, (∃ m21, I20 todo_10 0 h12 m21) ∧
 (∀ (_ : Env) (todo_23 : Sl) (x_24 : Int) (h25 : Heap) (m22 : Nat), I20 todo_23 x_24 h25 m22 →
 (sB (decide (x_24 < (x19.n : Int)))
 ((NB x19.a fun b26 o27 => ((0 ≤ (x_24 : Int) ∧ (x_24 : Int) < (x19.n : Nat)) ∧
 (∃ x28 : Int, hc h25 ⟨b26, o27 + Int.toNat x_24 * 1, none⟩ = some (.int .i64 x28) ∧
 (∃ x29 : Sl, hc h25 ⟨p0.block, p0.off + 4, none⟩ = some (.slice x29.a x29.n x29.c) ∧
 (NB x29.a fun b30 o31 => ((0 ≤ (x28 : Int) ∧ (x28 : Int) < (x29.n : Nat)) ∧
 (∃ x32 : Int, hc h25 ⟨b30, o31 + Int.toNat x28 * 6 + 4, none⟩ = some (.int .i64 x32) ∧
 ((0 ≤ (x32 : Int) ∧ (x32 : Int) < ((Int.toNat x1) : Nat)) ∧
 (∃ x33 : Bool, hc h25 ⟨h.size, 0 + Int.toNat x32 * 1, none⟩ = some (.bool x33) ∧
 (sB (!x33)
 (((0 ≤ (x32 : Int) ∧ (x32 : Int) < ((Int.toNat x1) : Nat)) ∧
 (okAt h25 ⟨h.size, 0 + Int.toNat x32 * 1, none⟩ 1 ∧ ∀ h34 : Heap, h34 = hputs h25 ⟨h.size, 0 + Int.toNat x32 * 1, none⟩ 0 [.bool true] →
 (∀ h35 : Heap, h35 = h34.push (.cells ⟨[.int .i64 x32]⟩ 3) →
 (App Tryz.prog 49 49 (.slice todo_23.a todo_23.n todo_23.c) (.slice (some ⟨h34.size, 0, none⟩) 1 1) h35 fun s36 h37 =>
 (∃ m38, m38 < m22 ∧ I20 s36 (IntKind.wrap .i64 (x_24 + 1)) h37 m38))))))
 ((∃ m39, m39 < m22 ∧ I20 todo_23 (IntKind.wrap .i64 (x_24 + 1)) h25 m39)))))))))))))
 ((∃ m40, m40 < m9 ∧ I7 todo_23 (IntKind.wrap .i64 (head_11 + 1)) h25 m40)))))))))))))
 ((∃ x41 : Int, hc h12 ⟨p0.block, p0.off + 1, none⟩ = some (.int .i64 x41) ∧
 R (.bool ((todo_10.n : Int) == x41)) h12))))))))))))
theorem vc99 (p0 : Addr) (h : Heap) (R : Value → Heap → Prop) (H : W99 p0 h R) : Fn Tryz.prog 99 #[.pointer (some p0)] h R := fnI (A := (.s .z (.s .z (.s .z (.s .z (.s (.s .z (.b (.l [(4, .one (.slice)), (5, .one (.int .i64))] (.s .z (.s (.b (.s .z (.b (.l [(4, .one (.slice)), (45, .one (.int .i64))] .z)))) .z))))) .z)))))) (by kernel_rfl) H

/- (*farandole/machine.table).again
 loop rlrborrlbrrrrb: x_36:Int
 loop rlrb: x_5:Int -/
def W100 (p0 : Addr) (h : Heap) (R : Value → Heap → Prop) : Prop :=
 (∃ x1 : Sl, hc h ⟨p0.block, p0.off + 4, none⟩ = some (.slice x1.a x1.n x1.c) ∧
 (∃ I2 : Int → Heap → Nat → Prop, (∃ m3, I2 0 h m3) ∧
 (∀ (_ : Env) (x_5 : Int) (h6 : Heap) (m4 : Nat), I2 x_5 h6 m4 →
 (sB (decide (x_5 < (x1.n : Int)))
 ((NB x1.a fun b7 o8 => ((0 ≤ (x_5 : Int) ∧ (x_5 : Int) < (x1.n : Nat)) ∧
 (∃ (x9 : Int) (x10 : Bool) (x11 x12 x13 : Int) (x14 : Bool), atC h6 ⟨b7, o8 + Int.toNat x_5 * 6, none⟩ [.int .i64 x9, .bool x10, .int .i64 x11, .int .i64 x12, .int .i64 x13, .bool x14] ∧
 (∀ h15 : Heap, h15 = h6.push (.cells ⟨[.int .i64 0, .bool false, .int .i64 0, .int .i64 0, .int .i64 0, .bool false]⟩ 81) →
 (okAt h15 ⟨h6.size, 0, none⟩ 6 ∧ ∀ h16 : Heap, h16 = hputs h15 ⟨h6.size, 0, none⟩ 0 [.int .i64 x9, .bool x10, .int .i64 x11, .int .i64 x12, .int .i64 x13, .bool x14] →
 (∃ x17 : Bool, hc h16 ⟨h6.size, 5, none⟩ = some (.bool x17) ∧
 (sB (!x17)
 ((∃ m18, m18 < m4 ∧ I2 (IntKind.wrap .i64 (x_5 + 1)) h16 m18))
 ((∃ x19 : Bool, hc h16 ⟨h6.size, 1, none⟩ = some (.bool x19) ∧
 (sB (!x19)
 (R (.bool false) h16)
 ((∃ x20 : Sl, hc h16 ⟨p0.block, p0.off + 6, none⟩ = some (.slice x20.a x20.n x20.c) ∧
 (∃ x21 : Int, hc h16 ⟨h6.size, 0, none⟩ = some (.int .i64 x21) ∧
 (NB x20.a fun b22 o23 => ((0 ≤ (x21 : Int) ∧ (x21 : Int) < (x20.n : Nat)) ∧
 (∃ x24 : Sl, hc h16 ⟨b22, o23 + Int.toNat x21 * 1, none⟩ = some (.slice x24.a x24.n x24.c) ∧
 (sB ((x24.n : Int) != 1)
 (R (.bool false) h16)
 ((∃ x25 : Int, hc h16 ⟨h6.size, 0, none⟩ = some (.int .i64 x25) ∧
 (∃ x26 : Int, hc h16 ⟨p0.block, p0.off + 2, none⟩ = some (.int .i64 x26) ∧
 (sB (x25 == x26)
 (R (.bool false) h16)
 ((∃ x27 : Sl, hc h16 ⟨p0.block, p0.off + 3, none⟩ = some (.slice x27.a x27.n x27.c) ∧
 (∃ x28 : Int, hc h16 ⟨h6.size, 0, none⟩ = some (.int .i64 x28) ∧
 (NB x27.a fun b29 o30 => ((0 ≤ (x28 : Int) ∧ (x28 : Int) < (x27.n : Nat)) ∧
 (∃ x31 : Bool, hc h16 ⟨b29, o30 + Int.toNat x28 * 1, none⟩ = some (.bool x31) ∧
 (sB x31
 (R (.bool false) h16)
 ((∃ x32 : Sl, hc h16 ⟨p0.block, p0.off + 4, none⟩ = some (.slice x32.a x32.n x32.c) ∧
 (∃ I33 : Int → Heap → Nat → Prop, (∃ m34, I33 0 h16 m34) ∧
 (∀ (_ : Env) (x_36 : Int) (h37 : Heap) (m35 : Nat), I33 x_36 h37 m35 →
 (sB (decide (x_36 < (x32.n : Int)))
 ((NB x32.a fun b38 o39 => ((0 ≤ (x_36 : Int) ∧ (x_36 : Int) < (x32.n : Nat)) ∧
 (∃ (x40 : Int) (x41 : Bool) (x42 x43 x44 : Int) (x45 : Bool), atC h37 ⟨b38, o39 + Int.toNat x_36 * 6, none⟩ [.int .i64 x40, .bool x41, .int .i64 x42, .int .i64 x43, .int .i64 x44, .bool x45] ∧
 (∀ h46 : Heap, h46 = h37.push (.cells ⟨[.int .i64 0, .bool false, .int .i64 0, .int .i64 0, .int .i64 0, .bool false]⟩ 81) →
 (okAt h46 ⟨h37.size, 0, none⟩ 6 ∧ ∀ h47 : Heap, h47 = hputs h46 ⟨h37.size, 0, none⟩ 0 [.int .i64 x40, .bool x41, .int .i64 x42, .int .i64 x43, .int .i64 x44, .bool x45] →
 (∃ x48 : Int, hc h47 ⟨h37.size, 4, none⟩ = some (.int .i64 x48) ∧
 (∃ x49 : Int, hc h47 ⟨h6.size, 0, none⟩ = some (.int .i64 x49) ∧
 (sB (x48 == x49)
 ((∃ x50 : Bool, hc h47 ⟨h37.size, 1, none⟩ = some (.bool x50) ∧
 (sB (!x50)
 (R (.bool false) h47)
 ((∃ x51 : Int, hc h47 ⟨h37.size, 3, none⟩ = some (.int .i64 x51) ∧
 (∃ x52 : Int, hc h47 ⟨h6.size, 3, none⟩ = some (.int .i64 x52) ∧
 (sB (x51 != x52)
 (R (.bool false) h47)
 ((∃ m53, m53 < m35 ∧ I33 (IntKind.wrap .i64 (x_36 + 1)) h47 m53)))))))))
 ((∃ m54, m54 < m35 ∧ I33 (IntKind.wrap .i64 (x_36 + 1)) h47 m54)))))))))))
 ((∃ m55, m55 < m4 ∧ I2 (IntKind.wrap .i64 (x_5 + 1)) h37 m55))))))))))))))))))))))))))))))))))))
 (R (.bool true) h6)))))
theorem vc100 (p0 : Addr) (h : Heap) (R : Value → Heap → Prop) (H : W100 p0 h R) : Fn Tryz.prog 100 #[.pointer (some p0)] h R := fnI (A := (.s .z (.s (.s .z (.b (.l [(13, .one (.int .i64))] (.s .z (.s .z (.s (.b (.s .z (.s .z (.s .z (.s .z (.b (.l [(62, .one (.int .i64))] .z))))))) .z)))))) .z))) (by kernel_rfl) H

/- (*farandole/machine.table).timed
 loop rlrb: x_5:Int -/
def W101 (p0 : Addr) (h : Heap) (R : Value → Heap → Prop) : Prop :=
 (∃ x1 : Sl, hc h ⟨p0.block, p0.off + 5, none⟩ = some (.slice x1.a x1.n x1.c) ∧
 (∃ I2 : Int → Heap → Nat → Prop, (∃ m3, I2 0 h m3) ∧
 (∀ (_ : Env) (x_5 : Int) (h6 : Heap) (m4 : Nat), I2 x_5 h6 m4 →
 (sB (decide (x_5 < (x1.n : Int)))
 ((NB x1.a fun b7 o8 => ((0 ≤ (x_5 : Int) ∧ (x_5 : Int) < (x1.n : Nat)) ∧
 (∃ (x9 x10 x11 : Int), atC h6 ⟨b7, o8 + Int.toNat x_5 * 3, none⟩ [.int .i64 x9, .int .i64 x10, .int .i64 x11] ∧
 (∀ h12 : Heap, h12 = h6.push (.cells ⟨[.int .i64 0, .int .i64 0, .int .i64 0]⟩ 44) →
 (okAt h12 ⟨h6.size, 0, none⟩ 3 ∧ ∀ h13 : Heap, h13 = hputs h12 ⟨h6.size, 0, none⟩ 0 [.int .i64 x9, .int .i64 x10, .int .i64 x11] →
 (sB (decide (x_5 > 0))
 ((∃ x14 : Sl, hc h13 ⟨p0.block, p0.off + 5, none⟩ = some (.slice x14.a x14.n x14.c) ∧
 (NB x14.a fun b15 o16 => ((0 ≤ ((IntKind.wrap .i64 (x_5 - 1)) : Int) ∧ ((IntKind.wrap .i64 (x_5 - 1)) : Int) < (x14.n : Nat)) ∧
 (∃ x17 : Int, hc h13 ⟨b15, o16 + Int.toNat (IntKind.wrap .i64 (x_5 - 1)) * 3, none⟩ = some (.int .i64 x17) ∧
 (∃ x18 : Int, hc h13 ⟨h6.size, 0, none⟩ = some (.int .i64 x18) ∧
 (sB (decide (x17 ≥ x18))
 (R (.bool false) h13)
 ((∃ x19 : Int, hc h13 ⟨h6.size, 1, none⟩ = some (.int .i64 x19) ∧
 (sB (decide (x19 < 1))
 (R (.bool false) h13)
 ((∃ x20 : Int, hc h13 ⟨h6.size, 1, none⟩ = some (.int .i64 x20) ∧
 (sB (decide (x20 > 1000))
 (R (.bool false) h13)
 ((∃ x21 : Int, hc h13 ⟨h6.size, 2, none⟩ = some (.int .i64 x21) ∧
 (sB (decide (x21 < 0))
 (R (.bool false) h13)
 ((∃ x22 : Int, hc h13 ⟨h6.size, 2, none⟩ = some (.int .i64 x22) ∧
 (∃ x23 : Sl, hc h13 ⟨p0.block, p0.off + 4, none⟩ = some (.slice x23.a x23.n x23.c) ∧
 (sB (decide (x22 ≥ (x23.n : Int)))
 (R (.bool false) h13)
 ((∃ x24 : Sl, hc h13 ⟨p0.block, p0.off + 4, none⟩ = some (.slice x24.a x24.n x24.c) ∧
 (∃ x25 : Int, hc h13 ⟨h6.size, 2, none⟩ = some (.int .i64 x25) ∧
 (NB x24.a fun b26 o27 => ((0 ≤ (x25 : Int) ∧ (x25 : Int) < (x24.n : Nat)) ∧
 (∃ (x28 : Int) (x29 : Bool) (x30 x31 x32 : Int) (x33 : Bool), atC h13 ⟨b26, o27 + Int.toNat x25 * 6, none⟩ [.int .i64 x28, .bool x29, .int .i64 x30, .int .i64 x31, .int .i64 x32, .bool x33] ∧
 (∀ h34 : Heap, h34 = h13.push (.cells ⟨[.int .i64 0, .bool false, .int .i64 0, .int .i64 0, .int .i64 0, .bool false]⟩ 81) →
 (Sm [⟨b26, o27 + Int.toNat x25 * 6, none⟩, ⟨h6.size, 2, none⟩, ⟨p0.block, p0.off + 4, none⟩] h13 h34 ∧
 (okAt h34 ⟨h13.size, 0, none⟩ 6 ∧ ∀ h35 : Heap, h35 = hputs h34 ⟨h13.size, 0, none⟩ 0 [.int .i64 x28, .bool x29, .int .i64 x30, .int .i64 x31, .int .i64 x32, .bool x33] →
 (∃ x36 : Int, hc h35 ⟨h13.size, 0, none⟩ = some (.int .i64 x36) ∧
 (∃ x37 : Int, hc h35 ⟨h6.size, 0, none⟩ = some (.int .i64 x37) ∧
 (sB (x36 != x37)
 (R (.bool false) h35)
 ((∃ x38 : Bool, hc h35 ⟨h13.size, 1, none⟩ = some (.bool x38) ∧
 (sB (!x38)
 (R (.bool false) h35)
 ((∃ x39 : Bool, hc h35 ⟨h13.size, 5, none⟩ = some (.bool x39) ∧
 (sB x39
 (R (.bool false) h35)
 ((∃ m40, m40 < m4 ∧ I2 (IntKind.wrap .i64 (x_5 + 1)) h35 m40))))))))))))))))))))))))))))))))))))))))
 ((∃ x41 : Int, hc h13 ⟨h6.size, 1, none⟩ = some (.int .i64 x41) ∧
 (sB (decide (x41 < 1))
 (R (.bool false) h13)
 ((∃ x42 : Int, hc h13 ⟨h6.size, 1, none⟩ = some (.int .i64 x42) ∧
 (sB (decide (x42 > 1000))
 (R (.bool false) h13)
 ((∃ x43 : Int, hc h13 ⟨h6.size, 2, none⟩ = some (.int .i64 x43) ∧
 (sB (decide (x43 < 0))
 (R (.bool false) h13)
 ((∃ x44 : Int, hc h13 ⟨h6.size, 2, none⟩ = some (.int .i64 x44) ∧
 (∃ x45 : Sl, hc h13 ⟨p0.block, p0.off + 4, none⟩ = some (.slice x45.a x45.n x45.c) ∧
 (sB (decide (x44 ≥ (x45.n : Int)))
 (R (.bool false) h13)
 ((∃ x46 : Sl, hc h13 ⟨p0.block, p0.off + 4, none⟩ = some (.slice x46.a x46.n x46.c) ∧
 (∃ x47 : Int, hc h13 ⟨h6.size, 2, none⟩ = some (.int .i64 x47) ∧
 (NB x46.a fun b48 o49 => ((0 ≤ (x47 : Int) ∧ (x47 : Int) < (x46.n : Nat)) ∧
 (∃ (x50 : Int) (x51 : Bool) (x52 x53 x54 : Int) (x55 : Bool), atC h13 ⟨b48, o49 + Int.toNat x47 * 6, none⟩ [.int .i64 x50, .bool x51, .int .i64 x52, .int .i64 x53, .int .i64 x54, .bool x55] ∧
 (∀ h56 : Heap, h56 = h13.push (.cells ⟨[.int .i64 0, .bool false, .int .i64 0, .int .i64 0, .int .i64 0, .bool false]⟩ 81) →
 (Sm [⟨b48, o49 + Int.toNat x47 * 6, none⟩, ⟨h6.size, 2, none⟩, ⟨p0.block, p0.off + 4, none⟩] h13 h56 ∧
 (okAt h56 ⟨h13.size, 0, none⟩ 6 ∧ ∀ h57 : Heap, h57 = hputs h56 ⟨h13.size, 0, none⟩ 0 [.int .i64 x50, .bool x51, .int .i64 x52, .int .i64 x53, .int .i64 x54, .bool x55] →
 (∃ x58 : Int, hc h57 ⟨h13.size, 0, none⟩ = some (.int .i64 x58) ∧
 (∃ x59 : Int, hc h57 ⟨h6.size, 0, none⟩ = some (.int .i64 x59) ∧
 (sB (x58 != x59)
 (R (.bool false) h57)
 ((∃ x60 : Bool, hc h57 ⟨h13.size, 1, none⟩ = some (.bool x60) ∧
 (sB (!x60)
 (R (.bool false) h57)
 ((∃ x61 : Bool, hc h57 ⟨h13.size, 5, none⟩ = some (.bool x61) ∧
 (sB x61
 (R (.bool false) h57)
 ((∃ m62, m62 < m4 ∧ I2 (IntKind.wrap .i64 (x_5 + 1)) h57 m62))))))))))))))))))))))))))))))))))))))))
 (R (.bool true) h6)))))
theorem vc101 (p0 : Addr) (h : Heap) (R : Value → Heap → Prop) (H : W101 p0 h R) : Fn Tryz.prog 101 #[.pointer (some p0)] h R := fnI (A := (.s .z (.s (.s .z (.b (.l [(12, .one (.int .i64))] .z))) .z))) (by kernel_rfl) H

def W47 (p0_1 p0_2 p0_3 : Int) (p0_4 p0_5 p0_6 : Sl) (h : Heap) (R : Value → Heap → Prop) : Prop :=
 (∀ h7 : Heap, h7 = h.push (.cells ⟨[.int .i64 p0_1, .int .i64 p0_2, .int .i64 p0_3, .slice p0_4.a p0_4.n p0_4.c, .slice p0_5.a p0_5.n p0_5.c, .slice p0_6.a p0_6.n p0_6.c]⟩ 26) →
 (∃ (x8 x9 x10 : Int) (x11 x12 x13 : Sl), atC h7 ⟨h.size, 0, none⟩ [.int .i64 x8, .int .i64 x9, .int .i64 x10, .slice x11.a x11.n x11.c, .slice x12.a x12.n x12.c, .slice x13.a x13.n x13.c] ∧
 (Fn Tryz.prog 96 #[.agg ⟨[.int .i64 x8, .int .i64 x9, .int .i64 x10, .slice x11.a x11.n x11.c, .slice x12.a x12.n x12.c, .slice x13.a x13.n x13.c]⟩] h7
 (fun v14 h16 => ∃ x15 : Bool, v14 = .bool x15 ∧
 (sB (!x15)
 (R (.tuple ⟨[.pointer none, .bool false]⟩) h16)
 ((∃ (x17 x18 x19 : Int) (x20 x21 x22 : Sl), atC h16 ⟨h.size, 0, none⟩ [.int .i64 x17, .int .i64 x18, .int .i64 x19, .slice x20.a x20.n x20.c, .slice x21.a x21.n x21.c, .slice x22.a x22.n x22.c] ∧
 (Fn Tryz.prog 97 #[.agg ⟨[.int .i64 x17, .int .i64 x18, .int .i64 x19, .slice x20.a x20.n x20.c, .slice x21.a x21.n x21.c, .slice x22.a x22.n x22.c]⟩] h16
 (fun v23 h25 => ∃ x24 : Option Addr, v23 = .pointer x24 ∧
 (Fn Tryz.prog 98 #[.pointer x24] h25
 (fun v26 h28 => ∃ x27 : Bool, v26 = .bool x27 ∧
 (sB x27
 ((Fn Tryz.prog 99 #[.pointer x24] h28
 (fun v29 h31 => ∃ x30 : Bool, v29 = .bool x30 ∧
 (sB x30
 ((Fn Tryz.prog 100 #[.pointer x24] h31
 (fun v32 h34 => ∃ x33 : Bool, v32 = .bool x33 ∧
 (sB x33
 ((Fn Tryz.prog 101 #[.pointer x24] h34
 (fun v35 h37 => ∃ x36 : Bool, v35 = .bool x36 ∧
 R (.tuple ⟨[.pointer x24, .bool x36]⟩) h37)))
 (R (.tuple ⟨[.pointer x24, .bool false]⟩) h34)))))
 (R (.tuple ⟨[.pointer x24, .bool false]⟩) h31)))))
 (R (.tuple ⟨[.pointer x24, .bool false]⟩) h28)))))))))))))
theorem vc47 (p0_1 p0_2 p0_3 : Int) (p0_4 p0_5 p0_6 : Sl) (h : Heap) (R : Value → Heap → Prop) (H : W47 p0_1 p0_2 p0_3 p0_4 p0_5 p0_6 h R) : Fn Tryz.prog 47 #[.agg ⟨[.int .i64 p0_1, .int .i64 p0_2, .int .i64 p0_3, .slice p0_4.a p0_4.n p0_4.c, .slice p0_5.a p0_5.n p0_5.c, .slice p0_6.a p0_6.n p0_6.c]⟩] h R := fnI (A := .z) (by kernel_rfl) H

def W23 (p0_1 p0_2 p0_3 : Int) (p0_4 p0_5 p0_6 : Sl) (h : Heap) (R : Value → Heap → Prop) : Prop :=
 (∀ h7 : Heap, h7 = h.push (.cells ⟨[.int .i64 p0_1, .int .i64 p0_2, .int .i64 p0_3, .slice p0_4.a p0_4.n p0_4.c, .slice p0_5.a p0_5.n p0_5.c, .slice p0_6.a p0_6.n p0_6.c]⟩ 26) →
 (∃ (x8 x9 x10 : Int) (x11 x12 x13 : Sl), atC h7 ⟨h.size, 0, none⟩ [.int .i64 x8, .int .i64 x9, .int .i64 x10, .slice x11.a x11.n x11.c, .slice x12.a x12.n x12.c, .slice x13.a x13.n x13.c] ∧
 (Fn Tryz.prog 47 #[.agg ⟨[.int .i64 x8, .int .i64 x9, .int .i64 x10, .slice x11.a x11.n x11.c, .slice x12.a x12.n x12.c, .slice x13.a x13.n x13.c]⟩] h7
 (fun v14 h17 => ∃ x15 : Option Addr, ∃ x16 : Bool, v14 = .tuple ⟨[.pointer x15, .bool x16]⟩ ∧
 R (.bool x16) h17))))
theorem vc23 (p0_1 p0_2 p0_3 : Int) (p0_4 p0_5 p0_6 : Sl) (h : Heap) (R : Value → Heap → Prop) (H : W23 p0_1 p0_2 p0_3 p0_4 p0_5 p0_6 h R) : Fn Tryz.prog 23 #[.agg ⟨[.int .i64 p0_1, .int .i64 p0_2, .int .i64 p0_3, .slice p0_4.a p0_4.n p0_4.c, .slice p0_5.a p0_5.n p0_5.c, .slice p0_6.a p0_6.n p0_6.c]⟩] h R := fnI (A := .z) (by kernel_rfl) H

end Go.VC
end

section
namespace Go.VC
open Go.Proofs
set_option maxRecDepth 100000
set_option linter.unusedVariables false
variable [Mono]
namespace M

def W63 (p0_1 : Int) (p0_2 : Bool) (p0_3 p0_4 p0_5 : Int) (p0_6 : Bool) (h : Heap) (R : Value → Heap → Prop) : Prop :=
 (∀ h7 : Heap, h7 = h.push (.cells ⟨[.int .i64 p0_1, .bool p0_2, .int .i64 p0_3, .int .i64 p0_4, .int .i64 p0_5, .bool p0_6]⟩ 81) →
 (∀ h8 : Heap, h8 = h7.push (.cells ⟨[.bool false, .int .i64 0, .int .i64 0]⟩ 79) →
 (∃ x9 : Bool, hc h8 ⟨h.size, 1, none⟩ = some (.bool x9) ∧
 (∃ x10 : Int, hc h8 ⟨h.size, 2, none⟩ = some (.int .i64 x10) ∧
 (∃ x11 : Int, hc h8 ⟨h.size, 3, none⟩ = some (.int .i64 x11) ∧
 (okAt h8 ⟨h7.size, 0, none⟩ 3 ∧ ∀ h12 : Heap, h12 = hputs h8 ⟨h7.size, 0, none⟩ 0 [.bool x9, .int .i64 x10, .int .i64 x11] →
 (∃ (x13 : Bool) (x14 x15 : Int), atC h12 ⟨h7.size, 0, none⟩ [.bool x13, .int .i64 x14, .int .i64 x15] ∧
 R (.agg ⟨[.bool x13, .int .i64 x14, .int .i64 x15]⟩) h12)))))))
theorem vc63 (p0_1 : Int) (p0_2 : Bool) (p0_3 p0_4 p0_5 : Int) (p0_6 : Bool) (h : Heap) (R : Value → Heap → Prop) (H : W63 p0_1 p0_2 p0_3 p0_4 p0_5 p0_6 h R) : Fn Tryz.prog 63 #[.agg ⟨[.int .i64 p0_1, .bool p0_2, .int .i64 p0_3, .int .i64 p0_4, .int .i64 p0_5, .bool p0_6]⟩] h R := fnI (A := .z) (by kernel_rfl) H

def W104 (p0_1 : Bool) (p0_2 p0_3 : Int) (p1_4 : Bool) (p1_5 p1_6 : Int) (h : Heap) (R : Value → Heap → Prop) : Prop :=
 (∀ h7 : Heap, h7 = h.push (.cells ⟨[.bool p0_1, .int .i64 p0_2, .int .i64 p0_3]⟩ 79) →
 (∀ h8 : Heap, h8 = h7.push (.cells ⟨[.bool p1_4, .int .i64 p1_5, .int .i64 p1_6]⟩ 79) →
 (∃ x9 : Bool, hc h8 ⟨h.size, 0, none⟩ = some (.bool x9) ∧
 (∃ x10 : Bool, hc h8 ⟨h7.size, 0, none⟩ = some (.bool x10) ∧
 (sB (!(x9 == x10))
 ((∃ x11 : Bool, hc h8 ⟨h.size, 0, none⟩ = some (.bool x11) ∧
 (sB x11
 (R (.int .i64 (-1)) h8)
 (R (.int .i64 1) h8))))
 ((∃ x12 : Int, hc h8 ⟨h.size, 1, none⟩ = some (.int .i64 x12) ∧
 (∃ x13 : Int, hc h8 ⟨h7.size, 1, none⟩ = some (.int .i64 x13) ∧
 (∃ x14 : Int, hc h8 ⟨h.size, 2, none⟩ = some (.int .i64 x14) ∧
 (∃ x15 : Int, hc h8 ⟨h7.size, 2, none⟩ = some (.int .i64 x15) ∧
 (Fn Tryz.prog 155 #[.int .i64 x12, .int .i64 x13] h8
 (fun v16 h18 => ∃ x17 : Int, v16 = .int .i64 x17 ∧
 (Sm [⟨h7.size, 2, none⟩, ⟨h.size, 2, none⟩] h8 h18 ∧
 (Fn Tryz.prog 155 #[.int .i64 x14, .int .i64 x15] h18
 (fun v19 h21 => ∃ x20 : Int, v19 = .int .i64 x20 ∧
 (Sm [⟨h7.size, 1, none⟩, ⟨h.size, 1, none⟩] h18 h21 ∧
 (∀ h22 : Heap, h22 = h21.push (.cells ⟨[.int .i64 x17, .int .i64 x20]⟩ 3) →
 (Fn Tryz.prog 154 #[.slice (some ⟨h21.size, 0, none⟩) 2 2] h22
 (fun v23 h25 => ∃ x24 : Int, v23 = .int .i64 x24 ∧
 R (.int .i64 x24) h25)))))))))))))))))))
theorem vc104 (p0_1 : Bool) (p0_2 p0_3 : Int) (p1_4 : Bool) (p1_5 p1_6 : Int) (h : Heap) (R : Value → Heap → Prop) (H : W104 p0_1 p0_2 p0_3 p1_4 p1_5 p1_6 h R) : Fn Tryz.prog 104 #[.agg ⟨[.bool p0_1, .int .i64 p0_2, .int .i64 p0_3]⟩, .agg ⟨[.bool p1_4, .int .i64 p1_5, .int .i64 p1_6]⟩] h R := fnI (A := .z) (by kernel_rfl) H

def W153 (p0 p1 : Int) (c0 : Addr) (h : Heap) (R : Value → Heap → Prop) : Prop :=
 (∃ x1 : Sl, hc h ⟨c0.block, c0.off + 4, none⟩ = some (.slice x1.a x1.n x1.c) ∧
 (NB x1.a fun b2 o3 => ((0 ≤ (p0 : Int) ∧ (p0 : Int) < (x1.n : Nat)) ∧
 (∃ (x4 : Int) (x5 : Bool) (x6 x7 x8 : Int) (x9 : Bool), atC h ⟨b2, o3 + Int.toNat p0 * 6, none⟩ [.int .i64 x4, .bool x5, .int .i64 x6, .int .i64 x7, .int .i64 x8, .bool x9] ∧
 (∃ x10 : Sl, hc h ⟨c0.block, c0.off + 4, none⟩ = some (.slice x10.a x10.n x10.c) ∧
 (NB x10.a fun b11 o12 => ((0 ≤ (p1 : Int) ∧ (p1 : Int) < (x10.n : Nat)) ∧
 (∃ (x13 : Int) (x14 : Bool) (x15 x16 x17 : Int) (x18 : Bool), atC h ⟨b11, o12 + Int.toNat p1 * 6, none⟩ [.int .i64 x13, .bool x14, .int .i64 x15, .int .i64 x16, .int .i64 x17, .bool x18] ∧
 (Fn Tryz.prog 63 #[.agg ⟨[.int .i64 x4, .bool x5, .int .i64 x6, .int .i64 x7, .int .i64 x8, .bool x9]⟩] h
 (fun v19 h23 => ∃ (x20 : Bool) (x21 x22 : Int), v19 = .agg ⟨[.bool x20, .int .i64 x21, .int .i64 x22]⟩ ∧
 (Sm [⟨b11, o12 + Int.toNat p1 * 6, none⟩, ⟨c0.block, c0.off + 4, none⟩] h h23 ∧
 (Fn Tryz.prog 63 #[.agg ⟨[.int .i64 x13, .bool x14, .int .i64 x15, .int .i64 x16, .int .i64 x17, .bool x18]⟩] h23
 (fun v24 h28 => ∃ (x25 : Bool) (x26 x27 : Int), v24 = .agg ⟨[.bool x25, .int .i64 x26, .int .i64 x27]⟩ ∧
 (Sm [⟨b2, o3 + Int.toNat p0 * 6, none⟩, ⟨c0.block, c0.off + 4, none⟩] h23 h28 ∧
 (Fn Tryz.prog 104 #[.agg ⟨[.bool x20, .int .i64 x21, .int .i64 x22]⟩, .agg ⟨[.bool x25, .int .i64 x26, .int .i64 x27]⟩] h28
 (fun v29 h31 => ∃ x30 : Int, v29 = .int .i64 x30 ∧
 R (.int .i64 x30) h31))))))))))))))))
theorem vc153 (p0 p1 : Int) (c0 : Addr) (h : Heap) (R : Value → Heap → Prop) (H : W153 p0 p1 c0 h R) : Fn Tryz.prog 153 #[.int .i64 p0, .int .i64 p1, .pointer (some c0)] h R := fnI (A := .z) (by kernel_rfl) H

end M
end Go.VC
end

section
/- Contracts: events of moves, their order, the order of a machine's moves; over every relation of worlds. (Numbers of layer 26's seat.) -/
namespace Go.VC
open Go.Proofs Go.LexS
set_option maxRecDepth 100000
variable [Mono]
namespace M
theorem of63 (x : Mv) (h : Heap) : Fn Tryz.prog 63 #[.agg ⟨x.cs⟩] h fun v h' => v = .agg ⟨x.ev.cs⟩ ∧ Ext h h' := by
  apply vc63 x.f x.send x.peer x.label x.t x.ag; unfold W63
  refine (St.refl h).newb fun h7 hs => ?_
  refine hs.newb fun h8 hs => ?_
  refine ⟨_, hs.rd 1 rfl rfl, _, hs.rd 1 rfl rfl, _, hs.rd 1 rfl rfl, ?_⟩
  refine hs.put 0 rfl (o := 0) (vs := x.ev.cs) rfl (show 3 ≤ 3 by decide) fun h12 hs => ?_
  exact ⟨_, _, _, hs.at 0 rfl (o := 0) (n := 3) rfl, rfl, hs.ext⟩
theorem compare104 (x y : Ev) (h : Heap) : Fn Tryz.prog 104 #[.agg ⟨x.cs⟩, .agg ⟨y.cs⟩] h fun v h' => v = .int .i64 (cmpE x y) ∧ Ext h h' := by
  apply vc104 x.send x.peer x.label y.send y.peer y.label; unfold W104
  have hs := St.refl h
  refine hs.newb fun h7 hs => ?_
  refine hs.newb fun h8 hs => ?_
  refine ⟨_, hs.rd 1 rfl rfl, ?_⟩
  refine ⟨_, hs.rd 0 rfl rfl, ?_⟩
  refine sB_intro (fun c => ?_) (fun c => ?_)
  · have hne : x.send ≠ y.send := by simpa using c
    refine ⟨_, hs.rd 1 rfl rfl, ?_⟩
    unfold cmpE
    rw [if_pos hne]
    refine sB_intro (fun d => ?_) (fun d => ?_)
    · exact ⟨by rw [if_pos d], hs.ext⟩
    · exact ⟨by rw [if_neg (by rw [d]; simp)], hs.ext⟩
  · have he : x.send = y.send := by simpa using c
    refine ⟨_, hs.rd 1 rfl rfl, _, hs.rd 0 rfl rfl, _, hs.rd 1 rfl rfl, _, hs.rd 0 rfl rfl, ?_⟩
    refine (cmp110 _ _ _).mono ?_
    rintro _ _ ⟨rfl, rfl⟩
    refine ⟨_, rfl, fun _ _ _ _ hv => hv, ?_⟩
    refine (cmp110 _ _ _).mono ?_
    rintro _ _ ⟨rfl, rfl⟩
    refine ⟨_, rfl, fun _ _ _ _ hv => hv, ?_⟩
    refine hs.newb fun h22 hs => ?_
    have hs2 := hs.blkS 2 1 ([cmpI x.peer y.peer, cmpI x.label y.label].map inC) rfl (inrows _) rfl (by decide)
    refine (or109 [cmpI x.peer y.peer, cmpI x.label y.label] _ h22 (hs2.rows 0 rfl (by omega)) (show 2 ≤ 1048576 by decide)).mono ?_
    rintro _ _ ⟨rfl, rfl⟩
    refine ⟨_, rfl, ?_, hs.ext⟩
    unfold cmpE
    rw [if_neg (by simpa using he)]
    show Value.int .i64 (orI3 _ (orI3 _ 0)) = _
    congr 1
    unfold orI3
    split
    · rfl
    · split <;> omega
theorem order153 (mv : List Mv) (sm : Sl) (a : Addr) (i k : Nat) (x y : Mv) (h : Heap) (ha : hc h ⟨a.block, a.off + 4, none⟩ = some (.slice sm.a sm.n sm.c)) (hr : Rw h 6 sm (mv.map Mv.cs)) (hx : mv[i]? = some x) (hy : mv[k]? = some y) :
    Fn Tryz.prog 153 #[.int .i64 (i : Nat), .int .i64 (k : Nat), .pointer (some a)] h fun v h' => v = .int .i64 (cmpE x.ev y.ev) ∧ Ext h h' := by
  apply vc153; unfold W153
  have hn := hr.ln
  have hxl := (List.getElem?_eq_some_iff.1 hx).1
  have hyl := (List.getElem?_eq_some_iff.1 hy).1
  refine ⟨sm, ha, ?_⟩
  refine hr.nbI (by omega) (by omega) fun b o x' gx t => ?_
  replace gx : mv[i]? = some x' := gx
  rw [hx] at gx; cases gx
  refine ⟨_, _, _, _, _, _, t, sm, ha, ?_⟩
  refine hr.nbI (by omega) (by omega) fun b2 o2 y' gy t2 => ?_
  replace gy : mv[k]? = some y' := gy
  rw [hy] at gy; cases gy
  refine ⟨_, _, _, _, _, _, t2, ?_⟩
  refine (of63 x h).mono ?_
  rintro _ h23 ⟨rfl, E⟩
  refine ⟨_, _, _, rfl, fun _ _ _ _ hv => hc_ext E hv, ?_⟩
  refine (of63 y h23).mono ?_
  rintro _ h28 ⟨rfl, E2⟩
  refine ⟨_, _, _, rfl, fun _ _ _ _ hv => hc_ext E2 hv, ?_⟩
  refine (compare104 x.ev y.ev h28).mono ?_
  rintro _ h31 ⟨rfl, E3⟩
  exact ⟨_, rfl, rfl, (E.trans E2).trans E3⟩
end M
end Go.VC
end

section
/- Contracts: the numbers of a machine; its table, the moves of each state sorted. (Numbers of layer 26's seat.) -/
namespace Go.VC
open Go.Proofs Go.LexS
set_option maxRecDepth 100000
structure NumM (m : Mch) : Prop where
  r : 0 ≤ m.role ∧ m.role < 6
  n : 1 ≤ m.n ∧ m.n ≤ 200
  s : 0 ≤ m.s ∧ m.s < m.n
  fl : (m.fin.length : Int) = m.n
  ml : m.mv.length ≤ 400
  mv : ∀ x ∈ m.mv, 0 ≤ x.f ∧ x.f < m.n ∧ 0 ≤ x.t ∧ x.t < m.n ∧ 0 ≤ x.peer ∧ x.peer < 6 ∧ x.peer ≠ m.role ∧ 0 ≤ x.label ∧ x.label < 40
theorem state151 (m : Mch) (sf sm sl : Sl) (p : Int) (h : Heap) : Fn Tryz.prog 151 #[.agg ⟨mC m sf sm sl⟩, .int .i64 p] h (RP (0 ≤ p ∧ p < m.n) h) := by
  apply vc151 m.role m.n m.s sf sm sl; unfold W151
  refine (St.refl h).newb fun h7 hs => ?_
  refine sBi (fun c => ⟨_, hs.rd 0 rfl rfl, RP.e ?_ hs.ext⟩) (fun c => RP.f (by omega) hs.ext)
  rw [decide_eq_true_eq]; omega
theorem numbers96 (m : Mch) (sf sm sl : Sl) (h : Heap) (hM : MI h m sf sm sl) : Fn Tryz.prog 96 #[.agg ⟨mC m sf sm sl⟩] h (RP (NumM m) h) := by
  apply vc96 m.role m.n m.s sf sm sl; unfold W96
  have hfn := hM.pf.ln
  have hmn := hM.pm.ln
  have hmm := hM.pm.sm
  refine (St.refl h).newb fun h7 hs => ?_
  refine ⟨_, hs.rd 0 rfl rfl, sBi (fun c => RP.f (fun hG => by have := hG.r; omega) hs.ext) (fun c1 => ?_)⟩
  refine ⟨_, hs.rd 0 rfl rfl, sBi (fun c => RP.f (fun hG => by have := hG.r; omega) hs.ext) (fun c2 => ?_)⟩
  refine ⟨_, hs.rd 0 rfl rfl, sBi (fun c => RP.f (fun hG => by have := hG.n; omega) hs.ext) (fun c3 => ?_)⟩
  refine ⟨_, hs.rd 0 rfl rfl, sBi (fun c => RP.f (fun hG => by have := hG.n; omega) hs.ext) (fun c4 => ?_)⟩
  refine ⟨_, _, _, sf, sm, sl, hs.at 0 rfl (o := 0) (n := 6) rfl, _, hs.rd 0 rfl rfl, ?_⟩
  refine (state151 m sf sm sl m.s h7).mono ?_
  rintro _ h21 ⟨⟨b1, rfl, hb1⟩, E⟩
  have hs := hs.step E
  refine ⟨_, rfl, sB_intro (fun c => RP.f (fun hG => iff_f hb1 (bF c) hG.s) hs.ext) (fun c5 => ?_)⟩
  have f5 := hb1.1 (bT c5)
  refine ⟨sf, hs.rd 0 rfl rfl, _, hs.rd 0 rfl rfl, sBn (fun c => RP.f (fun hG => by have := hG.fl; omega) hs.ext) (fun c6 => ?_)⟩
  refine ⟨sm, hs.rd 0 rfl rfl, sBi (fun c => RP.f (fun hG => by have := hG.ml; omega) hs.ext) (fun c7 => ?_)⟩
  refine ⟨sm, hs.rd 0 rfl rfl, ?_⟩
  refine up_loopS (n := sm.n) hs (fun i => ∀ (j : Nat) (x : Mv), j < i → m.mv[j]? = some x → 0 ≤ x.f ∧ x.f < m.n ∧ 0 ≤ x.t ∧ x.t < m.n ∧ 0 ≤ x.peer ∧ x.peer < 6 ∧ x.peer ≠ m.role ∧ 0 ≤ x.label ∧ x.label < 40) (fun j x hj => by omega) ?_
  rintro - i h30 hi ⟨hs, hq⟩
  refine sB_intro (fun c => ?_) (fun c => RP.t ⟨by omega, by omega, f5, by omega, by omega, fun x hx => ?_⟩ hs.ext)
  · replace c := lt_t c
    refine (hM.pm.rw.ext hs.ext).nbI (by omega) (by omega) fun b o x gx t => ?_
    replace gx : m.mv[i]? = some x := gx
    have hxm := List.mem_of_getElem? gx
    refine ⟨_, _, _, _, _, _, t, ?_⟩
    refine hs.newput (vs := x.cs) rfl rfl fun h40 hs => ?_
    refine ⟨_, _, _, sf, sm, sl, hs.at 1 rfl (o := 0) (n := 6) rfl, _, hs.rd 0 rfl rfl, ?_⟩
    refine (state151 m sf sm sl x.f h40).mono ?_
    rintro _ h50 ⟨⟨b2, rfl, hb2⟩, E⟩
    have hs := hs.step E
    refine ⟨_, rfl, sB_intro (fun c => RP.f (fun hG => iff_f hb2 (bF c) (by have := hG.mv x hxm; omega)) hs.ext) (fun d1 => ?_)⟩
    refine ⟨_, _, _, sf, sm, sl, hs.at 1 rfl (o := 0) (n := 6) rfl, _, hs.rd 0 rfl rfl, ?_⟩
    refine (state151 m sf sm sl x.t h50).mono ?_
    rintro _ h60 ⟨⟨b3, rfl, hb3⟩, E⟩
    have hs := hs.step E
    refine ⟨_, rfl, sB_intro (fun c => RP.f (fun hG => iff_f hb3 (bF c) (by have := hG.mv x hxm; omega)) hs.ext) (fun d2 => ?_)⟩
    have g1 := hb2.1 (bT d1)
    have g2 := hb3.1 (bT d2)
    repeat' (first
        | (refine ⟨_, hs.rd 0 rfl rfl, ?_⟩)
        | (refine ⟨_, hs.rd 1 rfl rfl, ?_⟩)
        | (refine sBi (fun _ => ?_) (fun _ => ?_))
        | (refine sBe (fun _ => ?_) (fun _ => ?_))
        | (refine sBn (fun _ => ?_) (fun _ => ?_)))
    all_goals first
      | exact RP.f (fun hG => by have := hG.mv x hxm; omega) hs.ext
      | (refine Up.next c (by omega) ⟨hs.drop 1, fun j y hj hy => ?_⟩
         by_cases e : j = i
         · subst e; rw [gx] at hy; cases hy; omega
         · exact hq j y (by omega) hy)
  · replace c := lt_f c
    obtain ⟨j, hj⟩ := List.mem_iff_getElem?.1 hx
    exact hq j x (by have := (List.getElem?_eq_some_iff.1 hj).1; omega) hj
def outP (m : Mch) (s : Int) (i : Nat) : Bool := match m.mv[i]? with | some x => decide (x.f = s) | none => false
def outIx (m : Mch) (s : Int) : List Nat := (List.range m.mv.length).filter (outP m s)
theorem outIx_mem {m : Mch} {s : Int} {k : Nat} : k ∈ outIx m s ↔ ∃ x, m.mv[k]? = some x ∧ x.f = s := by
  unfold outIx
  rw [List.mem_filter, List.mem_range]
  constructor
  · rintro ⟨h1, h2⟩
    unfold outP at h2
    rw [List.getElem?_eq_getElem h1] at h2
    exact ⟨_, List.getElem?_eq_getElem h1, of_decide_eq_true h2⟩
  · rintro ⟨x, hx, hf⟩
    refine ⟨(List.getElem?_eq_some_iff.1 hx).1, ?_⟩
    unfold outP
    rw [hx]; exact decide_eq_true hf
def evI (m : Mch) (i : Nat) : Ev := match m.mv[i]? with | some x => x.ev | none => ⟨false, 0, 0⟩
/-- a state's moves, sorted -/
structure SrtM (m : Mch) (s : Nat) (l : List Nat) : Prop where
  p : l.Perm (outIx m (s : Int))
  s : l.Pairwise fun a b => ¬ evLt (evI m b) (evI m a)
/-- a table in memory -/
structure TbI (h : Heap) (a : Addr) (m : Mch) (sf sm sl : Sl) (S : Nat → List Nat) : Prop where
  ex : ∃ (ho : Sl) (qs : Nat → Sl), a.spot = none ∧ atC h a (mC m sf sm sl ++ [.slice ho.a ho.n ho.c]) ∧ ho.n = m.n.toNat ∧
    Rw h 1 ho ((List.range m.n.toNat).map fun i => slC (qs i)) ∧ ∀ i, i < m.n.toNat → Rw h 1 (qs i) ((natI (S i)).map inC)
  so : ∀ i, i < m.n.toNat → SrtM m i (S i)
theorem TbI.ext {h h' : Heap} {a : Addr} {m : Mch} {sf sm sl : Sl} {S : Nat → List Nat} (hl : TbI h a m sf sm sl S) (E : Ext h h') : TbI h' a m sf sm sl S := by
  obtain ⟨ho, qs, h0, h1, h2, h3, h4⟩ := hl.ex
  exact ⟨⟨ho, qs, h0, atC_ext E h1, h2, h3.ext E, fun i hi => (h4 i hi).ext E⟩, hl.so⟩
/-- slices.SortFunc at lists of numbers of moves, by the order of their events -/
def Sort152 : Prop := ∀ (m : Mch) (sm : Sl) (a : Addr) {h0 h : Heap} {Ls : List It}, St h0 h Ls → ∀ (i : Nat) {s : Sl} {l : List Nat}, Ls[i]? = some (.sl s 3 1 ((natI l).map inC)) → (∀ x ∈ l, x < m.mv.length) → (l = [] → s.a = none) → m.mv.length ≤ 1048576 → l.length ≤ 1048576 →
  (∀ h' : Heap, h.size ≤ h'.size → (∀ c, c < h.size → s.a.map (·.block) ≠ some c → h'[c]? = h[c]?) → hc h' ⟨a.block, a.off + 4, none⟩ = some (.slice sm.a sm.n sm.c) ∧ Rw h' 6 sm (m.mv.map Mv.cs)) →
  Fn Tryz.prog 152 #[.slice s.a s.n s.c, .func (.func 153) #[] #[.pointer (some a)]] h fun v h' => v = .tuple ⟨[]⟩ ∧ ∃ l' : List Nat, l'.Perm l ∧ l'.Pairwise (fun a b => ¬ evLt (evI m b) (evI m a)) ∧ St h0 h' (Ls.set i (.sl s 3 1 ((natI l').map inC)))
end Go.VC
end
