/- Texts of this claim, joined: RjVcH, RjVcK. -/
import Derived.Test.YtkebghjhekoecaaGreatDoorM02
import Derived.Test.YtkebghjhekoecaaGreatDoorProg
import Derived.KernelRfl
set_option linter.unusedVariables false
set_option linter.unusedSimpArgs false

section
namespace Go.VC
open Go.Proofs
set_option maxRecDepth 100000
set_option linter.unusedVariables false

def W7 (p0_1 p0_2 p0_3 : Int) (p0_4 p0_5 p0_6 : Sl) (p1_7 p1_8 p1_9 : Int) (p1_10 p1_11 p1_12 p2 : Sl) (h : Heap) (R : Value → Heap → Prop) : Prop :=
 (∀ h13 : Heap, h13 = h.push (.cells ⟨[.int .i64 p0_1, .int .i64 p0_2, .int .i64 p0_3, .slice p0_4.a p0_4.n p0_4.c, .slice p0_5.a p0_5.n p0_5.c, .slice p0_6.a p0_6.n p0_6.c]⟩ 26) →
 (∀ h14 : Heap, h14 = h13.push (.cells ⟨[.int .i64 p1_7, .int .i64 p1_8, .int .i64 p1_9, .slice p1_10.a p1_10.n p1_10.c, .slice p1_11.a p1_11.n p1_11.c, .slice p1_12.a p1_12.n p1_12.c]⟩ 26) →
 (Fn Tryz.prog 12 #[] h14
 (fun v15 h17 => ∃ x16 : Bool, v15 = .bool x16 ∧
 (sB (!x16)
 (R (.bool false) h17)
 ((∃ (x18 x19 x20 : Int) (x21 x22 x23 : Sl), atC h17 ⟨h.size, 0, none⟩ [.int .i64 x18, .int .i64 x19, .int .i64 x20, .slice x21.a x21.n x21.c, .slice x22.a x22.n x22.c, .slice x23.a x23.n x23.c] ∧
 (Fn Tryz.prog 18 #[.agg ⟨[.int .i64 x18, .int .i64 x19, .int .i64 x20, .slice x21.a x21.n x21.c, .slice x22.a x22.n x22.c, .slice x23.a x23.n x23.c]⟩] h17
 (fun v24 h26 => ∃ x25 : Bool, v24 = .bool x25 ∧
 (sB (!x25)
 (R (.bool true) h26)
 ((∃ (x27 x28 x29 : Int) (x30 x31 x32 : Sl), atC h26 ⟨h13.size, 0, none⟩ [.int .i64 x27, .int .i64 x28, .int .i64 x29, .slice x30.a x30.n x30.c, .slice x31.a x31.n x31.c, .slice x32.a x32.n x32.c] ∧
 (Fn Tryz.prog 18 #[.agg ⟨[.int .i64 x27, .int .i64 x28, .int .i64 x29, .slice x30.a x30.n x30.c, .slice x31.a x31.n x31.c, .slice x32.a x32.n x32.c]⟩] h26
 (fun v33 h35 => ∃ x34 : Bool, v33 = .bool x34 ∧
 (sB (!x34)
 (R (.bool true) h35)
 ((∃ x36 : Int, hc h35 ⟨h.size, 0, none⟩ = some (.int .i64 x36) ∧
 (∃ x37 : Int, hc h35 ⟨h13.size, 0, none⟩ = some (.int .i64 x37) ∧
 (sB (x36 != x37)
 (R (.bool true) h35)
 ((sB (decide ((p2.n : Int) > 30))
 (R (.bool true) h35)
 ((∃ (x38 x39 x40 : Int) (x41 x42 x43 : Sl), atC h35 ⟨h.size, 0, none⟩ [.int .i64 x38, .int .i64 x39, .int .i64 x40, .slice x41.a x41.n x41.c, .slice x42.a x42.n x42.c, .slice x43.a x43.n x43.c] ∧
 (∃ (x44 x45 x46 : Int) (x47 x48 x49 : Sl), atC h35 ⟨h13.size, 0, none⟩ [.int .i64 x44, .int .i64 x45, .int .i64 x46, .slice x47.a x47.n x47.c, .slice x48.a x48.n x48.c, .slice x49.a x49.n x49.c] ∧
 (Fn Tryz.prog 30 #[.agg ⟨[.int .i64 x38, .int .i64 x39, .int .i64 x40, .slice x41.a x41.n x41.c, .slice x42.a x42.n x42.c, .slice x43.a x43.n x43.c]⟩, .agg ⟨[.int .i64 x44, .int .i64 x45, .int .i64 x46, .slice x47.a x47.n x47.c, .slice x48.a x48.n x48.c, .slice x49.a x49.n x49.c]⟩] h35
 (fun v50 h54 => ∃ (x51 : Sl) (x52 : Bool) (x53 : Int), v50 = .tuple ⟨[.slice x51.a x51.n x51.c, .bool x52, .int .i64 x53]⟩ ∧
 (∃ (x55 x56 x57 : Int) (x58 x59 x60 : Sl), atC h54 ⟨h.size, 0, none⟩ [.int .i64 x55, .int .i64 x56, .int .i64 x57, .slice x58.a x58.n x58.c, .slice x59.a x59.n x59.c, .slice x60.a x60.n x60.c] ∧
 (Fn Tryz.prog 14 #[.agg ⟨[.int .i64 x55, .int .i64 x56, .int .i64 x57, .slice x58.a x58.n x58.c, .slice x59.a x59.n x59.c, .slice x60.a x60.n x60.c]⟩, .slice p2.a p2.n p2.c] h54
 (fun v61 h65 => ∃ (x62 x63 x64 : Int), v61 = .tuple ⟨[.int .i64 x62, .int .i64 x63, .int .i64 x64]⟩ ∧
 (∃ (x66 x67 x68 : Int) (x69 x70 x71 : Sl), atC h65 ⟨h13.size, 0, none⟩ [.int .i64 x66, .int .i64 x67, .int .i64 x68, .slice x69.a x69.n x69.c, .slice x70.a x70.n x70.c, .slice x71.a x71.n x71.c] ∧
 (Fn Tryz.prog 14 #[.agg ⟨[.int .i64 x66, .int .i64 x67, .int .i64 x68, .slice x69.a x69.n x69.c, .slice x70.a x70.n x70.c, .slice x71.a x71.n x71.c]⟩, .slice p2.a p2.n p2.c] h65
 (fun v72 h76 => ∃ (x73 x74 x75 : Int), v72 = .tuple ⟨[.int .i64 x73, .int .i64 x74, .int .i64 x75]⟩ ∧
 (sB (x53 != 0)
 (R (.bool false) h76)
 ((sB x52
 ((sB ((x51.n : Int) == 0)
 ((sB (x64 != 0)
 (R (.bool true) h76)
 (R (.bool (x75 == 0)) h76)))
 (R (.bool false) h76)))
 ((∃ (x77 x78 x79 : Int) (x80 x81 x82 : Sl), atC h76 ⟨h.size, 0, none⟩ [.int .i64 x77, .int .i64 x78, .int .i64 x79, .slice x80.a x80.n x80.c, .slice x81.a x81.n x81.c, .slice x82.a x82.n x82.c] ∧
 (Fn Tryz.prog 14 #[.agg ⟨[.int .i64 x77, .int .i64 x78, .int .i64 x79, .slice x80.a x80.n x80.c, .slice x81.a x81.n x81.c, .slice x82.a x82.n x82.c]⟩, .slice x51.a x51.n x51.c] h76
 (fun v83 h87 => ∃ (x84 x85 x86 : Int), v83 = .tuple ⟨[.int .i64 x84, .int .i64 x85, .int .i64 x86]⟩ ∧
 (∃ (x88 x89 x90 : Int) (x91 x92 x93 : Sl), atC h87 ⟨h13.size, 0, none⟩ [.int .i64 x88, .int .i64 x89, .int .i64 x90, .slice x91.a x91.n x91.c, .slice x92.a x92.n x92.c, .slice x93.a x93.n x93.c] ∧
 (Fn Tryz.prog 14 #[.agg ⟨[.int .i64 x88, .int .i64 x89, .int .i64 x90, .slice x91.a x91.n x91.c, .slice x92.a x92.n x92.c, .slice x93.a x93.n x93.c]⟩, .slice x51.a x51.n x51.c] h87
 (fun v94 h98 => ∃ (x95 x96 x97 : Int), v94 = .tuple ⟨[.int .i64 x95, .int .i64 x96, .int .i64 x97]⟩ ∧
 (sB (x86 == 0)
 ((sB (x97 == 23)
 ((sB (x96 == (IntKind.wrap .i64 ((x51.n : Int) - 1)))
 ((sB (x64 != 0)
 (R (.bool true) h98)
 ((sB (x75 == 0)
 (R (.bool true) h98)
 (R (.bool (decide ((x51.n : Int) ≤ (IntKind.wrap .i64 (x74 + 1))))) h98)))))
 (R (.bool false) h98)))
 (R (.bool false) h98)))
 (R (.bool false) h98))))))))))))))))))))))))))))))))))))))))))))
theorem vc7 (p0_1 p0_2 p0_3 : Int) (p0_4 p0_5 p0_6 : Sl) (p1_7 p1_8 p1_9 : Int) (p1_10 p1_11 p1_12 p2 : Sl) (h : Heap) (R : Value → Heap → Prop) (H : W7 p0_1 p0_2 p0_3 p0_4 p0_5 p0_6 p1_7 p1_8 p1_9 p1_10 p1_11 p1_12 p2 h R) : Fn Tryz.prog 7 #[.agg ⟨[.int .i64 p0_1, .int .i64 p0_2, .int .i64 p0_3, .slice p0_4.a p0_4.n p0_4.c, .slice p0_5.a p0_5.n p0_5.c, .slice p0_6.a p0_6.n p0_6.c]⟩, .agg ⟨[.int .i64 p1_7, .int .i64 p1_8, .int .i64 p1_9, .slice p1_10.a p1_10.n p1_10.c, .slice p1_11.a p1_11.n p1_11.c, .slice p1_12.a p1_12.n p1_12.c]⟩, .slice p2.a p2.n p2.c] h R := fnI (A := .z) (by kernel_rfl) H

/- farandole/farandoleref21.SameEvents
 loop rrlrb: i_4:Int -/
/- slices.Reverse[[]farandole/machine.event,farandole/machine.event]
 loop rb: i_4:Int, j_5:Int -/
def W64 (p0 : Sl) (h : Heap) (R : Value → Heap → Prop) : Prop :=
 (∃ I1 : Int → Int → Heap → Nat → Prop, (∃ m2, I1 0 (IntKind.wrap .i64 ((p0.n : Int) - 1)) h m2) ∧
 (∀ (_ : Env) (i_4 j_5 : Int) (h6 : Heap) (m3 : Nat), I1 i_4 j_5 h6 m3 →
 (sB (decide (i_4 < j_5))
 ((NB p0.a fun b7 o8 => ((0 ≤ (j_5 : Int) ∧ (j_5 : Int) < (p0.n : Nat)) ∧
 (∃ (x9 : Bool) (x10 x11 : Int), atC h6 ⟨b7, o8 + Int.toNat j_5 * 3, none⟩ [.bool x9, .int .i64 x10, .int .i64 x11] ∧
 (NB p0.a fun b12 o13 => ((0 ≤ (i_4 : Int) ∧ (i_4 : Int) < (p0.n : Nat)) ∧
 (∃ (x14 : Bool) (x15 x16 : Int), atC h6 ⟨b12, o13 + Int.toNat i_4 * 3, none⟩ [.bool x14, .int .i64 x15, .int .i64 x16] ∧
 (NB p0.a fun b17 o18 => ((0 ≤ (i_4 : Int) ∧ (i_4 : Int) < (p0.n : Nat)) ∧
 (okAt h6 ⟨b17, o18 + Int.toNat i_4 * 3, none⟩ 3 ∧ ∀ h19 : Heap, h19 = hputs h6 ⟨b17, o18 + Int.toNat i_4 * 3, none⟩ 0 [.bool x9, .int .i64 x10, .int .i64 x11] →
 (NB p0.a fun b20 o21 => ((0 ≤ (j_5 : Int) ∧ (j_5 : Int) < (p0.n : Nat)) ∧
 (okAt h19 ⟨b20, o21 + Int.toNat j_5 * 3, none⟩ 3 ∧ ∀ h22 : Heap, h22 = hputs h19 ⟨b20, o21 + Int.toNat j_5 * 3, none⟩ 0 [.bool x14, .int .i64 x15, .int .i64 x16] →
 (∃ m23, m23 < m3 ∧ I1 (IntKind.wrap .i64 (i_4 + 1)) (IntKind.wrap .i64 (j_5 - 1)) h22 m23))))))))))))))
 (R (.tuple ⟨[]⟩) h6))))
theorem vc64 (p0 : Sl) (h : Heap) (R : Value → Heap → Prop) (H : W64 p0 h R) : Fn Tryz.prog 64 #[.slice p0.a p0.n p0.c] h R := fnI (A := (.s .z (.b (.l [(2, .one (.int .i64)), (3, .one (.int .i64))] .z)))) (by kernel_rfl) H

end Go.VC
end

section
namespace Go.VC
open Go.Proofs
set_option maxRecDepth 100000
set_option linter.unusedVariables false

/- farandole/machine.Included
 loop rrrrrrlrborlbrrborrlbrrrlrtrrrlrb: history_132:Sl, x_133:Int
 loop rrrrrrlrborlbrrborrlbrrrlrtrlrb: l_109:Sl, n_110:Int
 loop rrrrrrlrborlbrrb: history_72:Sl, queue_73:Sl, x_74:Int
 loop rrrrrrlrb: history_49:Sl, queue_50:Sl, head_51:Int -/
def W30 (p0_1 p0_2 p0_3 : Int) (p0_4 p0_5 p0_6 : Sl) (p1_7 p1_8 p1_9 : Int) (p1_10 p1_11 p1_12 : Sl) (h : Heap) (R : Value → Heap → Prop) : Prop :=
 (∀ h13 : Heap, h13 = h.push (.cells ⟨[.int .i64 p0_1, .int .i64 p0_2, .int .i64 p0_3, .slice p0_4.a p0_4.n p0_4.c, .slice p0_5.a p0_5.n p0_5.c, .slice p0_6.a p0_6.n p0_6.c]⟩ 26) →
 (∀ h14 : Heap, h14 = h13.push (.cells ⟨[.int .i64 p1_7, .int .i64 p1_8, .int .i64 p1_9, .slice p1_10.a p1_10.n p1_10.c, .slice p1_11.a p1_11.n p1_11.c, .slice p1_12.a p1_12.n p1_12.c]⟩ 26) →
 (∃ (x15 x16 x17 : Int) (x18 x19 x20 : Sl), atC h14 ⟨h.size, 0, none⟩ [.int .i64 x15, .int .i64 x16, .int .i64 x17, .slice x18.a x18.n x18.c, .slice x19.a x19.n x19.c, .slice x20.a x20.n x20.c] ∧
 (Fn Tryz.prog 47 #[.agg ⟨[.int .i64 x15, .int .i64 x16, .int .i64 x17, .slice x18.a x18.n x18.c, .slice x19.a x19.n x19.c, .slice x20.a x20.n x20.c]⟩] h14
 (fun v21 h24 => ∃ x22 : Option Addr, ∃ x23 : Bool, v21 = .tuple ⟨[.pointer x22, .bool x23]⟩ ∧
 (∃ (x25 x26 x27 : Int) (x28 x29 x30 : Sl), atC h24 ⟨h13.size, 0, none⟩ [.int .i64 x25, .int .i64 x26, .int .i64 x27, .slice x28.a x28.n x28.c, .slice x29.a x29.n x29.c, .slice x30.a x30.n x30.c] ∧
 (Fn Tryz.prog 47 #[.agg ⟨[.int .i64 x25, .int .i64 x26, .int .i64 x27, .slice x28.a x28.n x28.c, .slice x29.a x29.n x29.c, .slice x30.a x30.n x30.c]⟩] h24
 (fun v31 h34 => ∃ x32 : Option Addr, ∃ x33 : Bool, v31 = .tuple ⟨[.pointer x32, .bool x33]⟩ ∧
 (sB (!x23)
 (R (.tuple ⟨[.slice none 0 0, .bool false, .int .i64 1]⟩) h34)
 ((sB (!x33)
 (R (.tuple ⟨[.slice none 0 0, .bool false, .int .i64 1]⟩) h34)
 ((∃ x35 : Int, hc h34 ⟨h.size, 0, none⟩ = some (.int .i64 x35) ∧
 (∃ x36 : Int, hc h34 ⟨h13.size, 0, none⟩ = some (.int .i64 x36) ∧
 (sB (x35 != x36)
 (R (.tuple ⟨[.slice none 0 0, .bool false, .int .i64 12]⟩) h34)
 ((RunW Tryz.prog (Instr.makeMap 95 (none)) h34
 (fun v37 h39 => ∃ x38 : Option Nat, v37 = .map x38 ∧
 (∃ x40 : Int, hc h39 ⟨h.size, 2, none⟩ = some (.int .i64 x40) ∧
 (∃ x41 : Int, hc h39 ⟨h13.size, 2, none⟩ = some (.int .i64 x41) ∧
 (RunW Tryz.prog (Instr.mapUpdate 95 (.map x38) (.agg ⟨[.int .i64 x40, .int .i64 x41]⟩) (.bool true)) h39 (fun _ h42 =>
 (∃ x43 : Int, hc h42 ⟨h.size, 2, none⟩ = some (.int .i64 x43) ∧
 (∃ x44 : Int, hc h42 ⟨h13.size, 2, none⟩ = some (.int .i64 x44) ∧
 (∀ h45 : Heap, h45 = h42.push (.cells ⟨[.int .i64 x43, .int .i64 x44, .int .i64 (-1), .bool false, .int .i64 0, .int .i64 0]⟩ 97) →
 (∃ I46 : Sl → Sl → Int → Heap → Nat → Prop, (∃ m47, I46 ⟨none, 0, 0⟩ ⟨(some ⟨h42.size, 0, none⟩), 1, 1⟩ 0 h45 m47) ∧
 (∀ (_ : Env) (history_49 queue_50 : Sl) (head_51 : Int) (h52 : Heap) (m48 : Nat), I46 history_49 queue_50 head_51 h52 m48 →
 (sB (decide (head_51 < (queue_50.n : Int)))
 ((NB queue_50.a fun b53 o54 => ((0 ≤ (head_51 : Int) ∧ (head_51 : Int) < (queue_50.n : Nat)) ∧
 (∃ (x55 x56 x57 : Int) (x58 : Bool) (x59 x60 : Int), atC h52 ⟨b53, o54 + Int.toNat head_51 * 6, none⟩ [.int .i64 x55, .int .i64 x56, .int .i64 x57, .bool x58, .int .i64 x59, .int .i64 x60] ∧
 (∀ h61 : Heap, h61 = h52.push (.cells ⟨[.int .i64 0, .int .i64 0, .int .i64 0, .bool false, .int .i64 0, .int .i64 0]⟩ 97) →
 (okAt h61 ⟨h52.size, 0, none⟩ 6 ∧ ∀ h62 : Heap, h62 = hputs h61 ⟨h52.size, 0, none⟩ 0 [.int .i64 x55, .int .i64 x56, .int .i64 x57, .bool x58, .int .i64 x59, .int .i64 x60] →
 (NC x22 fun a63 => (∃ x64 : Sl, hc h62 ⟨a63.block, a63.off + 6, none⟩ = some (.slice x64.a x64.n x64.c) ∧
 (∃ x65 : Int, hc h62 ⟨h52.size, 0, none⟩ = some (.int .i64 x65) ∧
 (NB x64.a fun b66 o67 => ((0 ≤ (x65 : Int) ∧ (x65 : Int) < (x64.n : Nat)) ∧
 (∃ x68 : Sl, hc h62 ⟨b66, o67 + Int.toNat x65 * 1, none⟩ = some (.slice x68.a x68.n x68.c) ∧
 (∃ I69 : Sl → Sl → Int → Heap → Nat → Prop, (∃ m70, I69 history_49 queue_50 0 h62 m70) ∧
 (∀ (_ : Env) (history_72 queue_73 : Sl) (x_74 : Int) (h75 : Heap) (m71 : Nat), I69 history_72 queue_73 x_74 h75 m71 →
 (sB (decide (x_74 < (x68.n : Int)))
 ((NB x68.a fun b76 o77 => ((0 ≤ (x_74 : Int) ∧ (x_74 : Int) < (x68.n : Nat)) ∧
 (∃ x78 : Int, hc h75 ⟨b76, o77 + Int.toNat x_74 * 1, none⟩ = some (.int .i64 x78) ∧
 (∃ x79 : Sl, hc h75 ⟨h.size, 4, none⟩ = some (.slice x79.a x79.n x79.c) ∧
 (NB x79.a fun b80 o81 => ((0 ≤ (x78 : Int) ∧ (x78 : Int) < (x79.n : Nat)) ∧
 (∃ (x82 : Int) (x83 : Bool) (x84 x85 x86 : Int) (x87 : Bool), atC h75 ⟨b80, o81 + Int.toNat x78 * 6, none⟩ [.int .i64 x82, .bool x83, .int .i64 x84, .int .i64 x85, .int .i64 x86, .bool x87] ∧
 (Fn Tryz.prog 63 #[.agg ⟨[.int .i64 x82, .bool x83, .int .i64 x84, .int .i64 x85, .int .i64 x86, .bool x87]⟩] h75
 (fun v88 h92 => ∃ (x89 : Bool) (x90 x91 : Int), v88 = .agg ⟨[.bool x89, .int .i64 x90, .int .i64 x91]⟩ ∧
 (∀ h93 : Heap, h93 = h92.push (.cells ⟨[.bool false, .int .i64 0, .int .i64 0]⟩ 79) →
 (okAt h93 ⟨h92.size, 0, none⟩ 3 ∧ ∀ h94 : Heap, h94 = hputs h93 ⟨h92.size, 0, none⟩ 0 [.bool x89, .int .i64 x90, .int .i64 x91] →
 (∃ x95 : Int, hc h94 ⟨h52.size, 1, none⟩ = some (.int .i64 x95) ∧
 (∃ (x96 : Bool) (x97 x98 : Int), atC h94 ⟨h92.size, 0, none⟩ [.bool x96, .int .i64 x97, .int .i64 x98] ∧
 (Fn Tryz.prog 48 #[.pointer x32, .int .i64 x95, .agg ⟨[.bool x96, .int .i64 x97, .int .i64 x98]⟩] h94
 (fun v99 h101 => ∃ x100 : Int, v99 = .int .i64 x100 ∧
 (sB (decide (x100 < 0))
 ((∃ (x102 : Bool) (x103 x104 : Int), atC h101 ⟨h92.size, 0, none⟩ [.bool x102, .int .i64 x103, .int .i64 x104] ∧
 (∀ h105 : Heap, h105 = h101.push (.cells ⟨[.bool x102, .int .i64 x103, .int .i64 x104]⟩ 79) →
 (∃ I106 : Sl → Int → Heap → Nat → Prop, (∃ m107, I106 ⟨(some ⟨h101.size, 0, none⟩), 1, 1⟩ head_51 h105 m107) ∧
 (∀ (_ : Env) (l_109 : Sl) (n_110 : Int) (h111 : Heap) (m108 : Nat), I106 l_109 n_110 h111 m108 →
 (NB queue_73.a fun b112 o113 => ((0 ≤ (n_110 : Int) ∧ (n_110 : Int) < (queue_73.n : Nat)) ∧
 (∃ x114 : Int, hc h111 ⟨b112, o113 + Int.toNat n_110 * 6 + 2, none⟩ = some (.int .i64 x114) ∧
 (sB (decide (x114 ≥ 0))
 ((NB queue_73.a fun b115 o116 => ((0 ≤ (n_110 : Int) ∧ (n_110 : Int) < (queue_73.n : Nat)) ∧
 (∃ (x117 : Bool) (x118 x119 : Int), atC h111 ⟨b115, o116 + Int.toNat n_110 * 6 + 3, none⟩ [.bool x117, .int .i64 x118, .int .i64 x119] ∧
 (∀ h120 : Heap, h120 = h111.push (.cells ⟨[.bool x117, .int .i64 x118, .int .i64 x119]⟩ 79) →
 (App Tryz.prog 100 100 (.slice l_109.a l_109.n l_109.c) (.slice (some ⟨h111.size, 0, none⟩) 1 1) h120 fun s121 h122 =>
 (NB queue_73.a fun b123 o124 => ((0 ≤ (n_110 : Int) ∧ (n_110 : Int) < (queue_73.n : Nat)) ∧
 (∃ x125 : Int, hc h122 ⟨b123, o124 + Int.toNat n_110 * 6 + 2, none⟩ = some (.int .i64 x125) ∧
 (∃ m126, m126 < m108 ∧ I106 s121 x125 h122 m126))))))))))
 ((Fn Tryz.prog 64 #[.slice l_109.a l_109.n l_109.c] h111
 (fun v127 h128 => v127 = .tuple ⟨[]⟩ ∧
 (∃ I129 : Sl → Int → Heap → Nat → Prop, (∃ m130, I129 history_72 0 h128 m130) ∧
 (∀ (_ : Env) (history_132 : Sl) (x_133 : Int) (h134 : Heap) (m131 : Nat), I129 history_132 x_133 h134 m131 →
 (sB (decide (x_133 < (l_109.n : Int)))
 ((NB l_109.a fun b135 o136 => ((0 ≤ (x_133 : Int) ∧ (x_133 : Int) < (l_109.n : Nat)) ∧
 (∃ (x137 : Bool) (x138 x139 : Int), atC h134 ⟨b135, o136 + Int.toNat x_133 * 3, none⟩ [.bool x137, .int .i64 x138, .int .i64 x139] ∧
 (∀ h140 : Heap, h140 = h134.push (.cells ⟨[.bool false, .int .i64 0, .int .i64 0]⟩ 79) →
 (okAt h140 ⟨h134.size, 0, none⟩ 3 ∧ ∀ h141 : Heap, h141 = hputs h140 ⟨h134.size, 0, none⟩ 0 [.bool x137, .int .i64 x138, .int .i64 x139] →
 (∃ x142 : Int, hc h141 ⟨h.size, 0, none⟩ = some (.int .i64 x142) ∧
 (∃ x143 : Bool, hc h141 ⟨h134.size, 0, none⟩ = some (.bool x143) ∧
 (∃ x144 : Int, hc h141 ⟨h134.size, 1, none⟩ = some (.int .i64 x144) ∧
 (∃ x145 : Int, hc h141 ⟨h134.size, 2, none⟩ = some (.int .i64 x145) ∧
 (∀ h146 : Heap, h146 = h141.push (.cells ⟨[.int .i64 x142, .bool x143, .int .i64 x144, .int .i64 x145, .slice none 0 0]⟩ 37) →
 (App Tryz.prog 27 27 (.slice history_132.a history_132.n history_132.c) (.slice (some ⟨h141.size, 0, none⟩) 1 1) h146 fun s147 h148 =>
 (∃ m149, m149 < m131 ∧ I129 s147 (IntKind.wrap .i64 (x_133 + 1)) h148 m149)))))))))))))
 (R (.tuple ⟨[.slice history_132.a history_132.n history_132.c, .bool false, .int .i64 0]⟩) h134))))))))))))))))
 ((∃ x150 : Sl, hc h101 ⟨h.size, 4, none⟩ = some (.slice x150.a x150.n x150.c) ∧
 (NB x150.a fun b151 o152 => ((0 ≤ (x78 : Int) ∧ (x78 : Int) < (x150.n : Nat)) ∧
 (∃ x153 : Int, hc h101 ⟨b151, o152 + Int.toNat x78 * 6 + 4, none⟩ = some (.int .i64 x153) ∧
 (∃ x154 : Sl, hc h101 ⟨h13.size, 4, none⟩ = some (.slice x154.a x154.n x154.c) ∧
 (NB x154.a fun b155 o156 => ((0 ≤ (x100 : Int) ∧ (x100 : Int) < (x154.n : Nat)) ∧
 (∃ x157 : Int, hc h101 ⟨b155, o156 + Int.toNat x100 * 6 + 4, none⟩ = some (.int .i64 x157) ∧
 (∀ h158 : Heap, h158 = h101.push (.cells ⟨[.int .i64 0, .int .i64 0]⟩ 94) →
 (Sm [⟨b155, o156 + Int.toNat x100 * 6 + 4, none⟩, ⟨h13.size, 4, none⟩, ⟨b151, o152 + Int.toNat x78 * 6 + 4, none⟩, ⟨h.size, 4, none⟩] h101 h158 ∧
 (okAt h158 ⟨h101.size, 0, none⟩ 2 ∧ ∀ h159 : Heap, h159 = hputs h158 ⟨h101.size, 0, none⟩ 0 [.int .i64 x153, .int .i64 x157] →
 (∃ (x160 x161 : Int), atC h159 ⟨h101.size, 0, none⟩ [.int .i64 x160, .int .i64 x161] ∧
 (RunW Tryz.prog (Instr.lookup 95 (.map x38) (.agg ⟨[.int .i64 x160, .int .i64 x161]⟩) false) h159
 (fun v162 h164 => ∃ x163 : Bool, v162 = .bool x163 ∧
 (sB (!x163)
 ((∃ (x165 x166 : Int), atC h164 ⟨h101.size, 0, none⟩ [.int .i64 x165, .int .i64 x166] ∧
 (RunW Tryz.prog (Instr.mapUpdate 95 (.map x38) (.agg ⟨[.int .i64 x165, .int .i64 x166]⟩) (.bool true)) h164 (fun _ h167 =>
 ((0 ≤ (0 : Int) ∧ (0 : Int) < (2 : Nat)) ∧
 (∃ x168 : Int, hc h167 ⟨h101.size, 0 + Int.toNat 0 * 1, none⟩ = some (.int .i64 x168) ∧
 ((0 ≤ (1 : Int) ∧ (1 : Int) < (2 : Nat)) ∧
 (∃ x169 : Int, hc h167 ⟨h101.size, 0 + Int.toNat 1 * 1, none⟩ = some (.int .i64 x169) ∧
 (∃ (x170 : Bool) (x171 x172 : Int), atC h167 ⟨h92.size, 0, none⟩ [.bool x170, .int .i64 x171, .int .i64 x172] ∧
 (∀ h173 : Heap, h173 = h167.push (.cells ⟨[.int .i64 x168, .int .i64 x169, .int .i64 head_51, .bool x170, .int .i64 x171, .int .i64 x172]⟩ 97) →
 (App Tryz.prog 98 98 (.slice queue_73.a queue_73.n queue_73.c) (.slice (some ⟨h167.size, 0, none⟩) 1 1) h173 fun s174 h175 =>
 (∃ m176, m176 < m71 ∧ I69 history_72 s174 (IntKind.wrap .i64 (x_74 + 1)) h175 m176))))))))))))
 ((∃ m177, m177 < m71 ∧ I69 history_72 queue_73 (IntKind.wrap .i64 (x_74 + 1)) h164 m177)))))))))))))))))))))))))))))))))))
 ((∃ m178, m178 < m48 ∧ I46 history_72 queue_73 (IntKind.wrap .i64 (head_51 + 1)) h75 m178)))))))))))))))))
 (R (.tuple ⟨[.slice none 0 0, .bool true, .int .i64 0]⟩) h52)))))))))))))))))))))))))))))
theorem vc30 (p0_1 p0_2 p0_3 : Int) (p0_4 p0_5 p0_6 : Sl) (p1_7 p1_8 p1_9 : Int) (p1_10 p1_11 p1_12 : Sl) (h : Heap) (R : Value → Heap → Prop) (H : W30 p0_1 p0_2 p0_3 p0_4 p0_5 p0_6 p1_7 p1_8 p1_9 p1_10 p1_11 p1_12 h R) : Fn Tryz.prog 30 #[.agg ⟨[.int .i64 p0_1, .int .i64 p0_2, .int .i64 p0_3, .slice p0_4.a p0_4.n p0_4.c, .slice p0_5.a p0_5.n p0_5.c, .slice p0_6.a p0_6.n p0_6.c]⟩, .agg ⟨[.int .i64 p1_7, .int .i64 p1_8, .int .i64 p1_9, .slice p1_10.a p1_10.n p1_10.c, .slice p1_11.a p1_11.n p1_11.c, .slice p1_12.a p1_12.n p1_12.c]⟩] h R := fnI (A := (.s .z (.s .z (.s .z (.s .z (.s .z (.s .z (.s (.s .z (.b (.l [(4, .one (.slice)), (12, .one (.slice)), (13, .one (.int .i64))] (.s .z (.s (.b (.s .z (.s .z (.b (.l [(4, .one (.slice)), (12, .one (.slice)), (79, .one (.int .i64))] (.s .z (.s .z (.s (.b (.s .z (.s .z (.s .z (.s (.s .z (.c (.s .z (.s (.s .z (.b (.l [(19, .one (.slice)), (20, .one (.int .i64))] .z))) (.s .z (.s (.s .z (.b (.l [(4, .one (.slice)), (122, .one (.int .i64))] .z))) .z)))) .z)) .z))))) .z)))))))) .z))))) .z)))))))) (by kernel_rfl) H

end Go.VC
end
