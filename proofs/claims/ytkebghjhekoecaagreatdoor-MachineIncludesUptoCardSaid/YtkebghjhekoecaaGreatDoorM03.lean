/- RjVcH RjVcK. -/
import Derived.Test.YtkebghjhekoecaaGreatDoorM02
import Derived.Test.YtkebghjhekoecaaGreatDoorProg
import Derived.KernelRfl
import Derived.Test.YtkebghjhekoecaaGreatDoorM01
set_option linter.unusedVariables false
set_option linter.unusedSimpArgs false
set_option maxRecDepth 100000

section
namespace Go.VC
open Go.Proofs

def W6 (p0_1 p0_2 p0_3 : Int) (p0_4 p0_5 p0_6 : Sl) (p1_7 p1_8 p1_9 : Int) (p1_10 p1_11 p1_12 : Sl) (h : Heap) (R : Value -> Heap -> Prop) : Prop :=
 (Wn h (L0 p0_1 p0_2 p0_3 p0_4 p0_5 p0_6) 26 fun h13 =>
 (Wn h13 (L0 p1_7 p1_8 p1_9 p1_10 p1_11 p1_12) 26 fun h14 =>
 (Fn Pz 12 #[] h14
 (fun v15 h17 => ∃ x16, iB v15 x16 /\
 (sB (!x16)
 (R (.bool false) h17)
 ((∃ x18 x19 x20 x21 x22 x23, aL0 h17 (aS h 0) x18 x19 x20 x21 x22 x23 /\
 (Fn Pz 13 #[.agg ⟨(L0 x18 x19 x20 x21 x22 x23)⟩] h17
 (fun v24 h26 => ∃ x25, iB v24 x25 /\
 (sB (!x25)
 (R (.bool true) h26)
 ((∃ x27 x28 x29 x30 x31 x32, aL0 h26 (aS h13 0) x27 x28 x29 x30 x31 x32 /\
 (Fn Pz 13 #[.agg ⟨(L0 x27 x28 x29 x30 x31 x32)⟩] h26
 (fun v33 h35 => ∃ x34, iB v33 x34 /\
 (sB (!x34)
 (R (.bool true) h35)
 ((∃ x36 x37 x38 x39 x40 x41, aL0 h35 (aS h 0) x36 x37 x38 x39 x40 x41 /\
 (∃ x42 x43 x44 x45 x46 x47, aL0 h35 (aS h13 0) x42 x43 x44 x45 x46 x47 /\
 (Fn Pz 30 #[.agg ⟨(L0 x36 x37 x38 x39 x40 x41)⟩, .agg ⟨(L0 x42 x43 x44 x45 x46 x47)⟩] h35
 (fun v48 h52 => ∃ (x49 : Sl) (x50 : Bool) (x51 : Int), v48 = .tuple ⟨(L12 x49 x50 x51)⟩ /\
 (∃ x53 x54 x55 x56 x57 x58, aL0 h52 (aS h 0) x53 x54 x55 x56 x57 x58 /\
 (∃ x59 x60 x61 x62 x63 x64, aL0 h52 (aS h13 0) x59 x60 x61 x62 x63 x64 /\
 (Fn Pz 31 #[.agg ⟨(L0 x53 x54 x55 x56 x57 x58)⟩, .agg ⟨(L0 x59 x60 x61 x62 x63 x64)⟩] h52
 (fun v65 h69 => ∃ (x66 : Sl) (x67 : Bool) (x68 : Int), v65 = .tuple ⟨(L12 x66 x67 x68)⟩ /\
 (sB (x51 == x68)
 ((sB (x50 == x67)
 ((Fn Pz 32 #[vS x49, vS x66] h69
 (fun v70 h72 => ∃ x71, iB v70 x71 /\
 R (.bool x71) h72)))
 (R (.bool false) h69)))
 (R (.bool false) h69))))))))))))))))))))))))))
theorem vc6 (p0_1 p0_2 p0_3 : Int) (p0_4 p0_5 p0_6 : Sl) (p1_7 p1_8 p1_9 : Int) (p1_10 p1_11 p1_12 : Sl) (h : Heap) (R : Value -> Heap -> Prop) (H : W6 p0_1 p0_2 p0_3 p0_4 p0_5 p0_6 p1_7 p1_8 p1_9 p1_10 p1_11 p1_12 h R) : Fn Pz 6 #[.agg ⟨(L0 p0_1 p0_2 p0_3 p0_4 p0_5 p0_6)⟩, .agg ⟨(L0 p1_7 p1_8 p1_9 p1_10 p1_11 p1_12)⟩] h R := fnI (A := .z) (by kernel_rfl) H

def W32 (p0 p1 : Sl) (h : Heap) (R : Value -> Heap -> Prop) : Prop :=
 (sB ((p0.n : Int) != (p1.n : Int))
 (R (.bool false) h)
 ((QI 0 h fun I1 i_4 h5 m3 => (
 (sB (decide (i_4 < (p0.n : Int)))
 ((NB p0.a fun b6 o7 => (Ib i_4 p0.n /\
 (∃ x8 x9 x10 x11 x12, aL5 h5 ⟨b6, o7 + Int.toNat i_4 * 5, none⟩ x8 x9 x10 x11 x12 /\
 (NB p1.a fun b13 o14 => (Ib i_4 p1.n /\
 (∃ x15 x16 x17 x18 x19, aL5 h5 ⟨b13, o14 + Int.toNat i_4 * 5, none⟩ x15 x16 x17 x18 x19 /\
 (Fn Pz 65 #[.agg ⟨(L5 x8 x9 x10 x11 x12)⟩, .agg ⟨(L5 x15 x16 x17 x18 x19)⟩] h5
 (fun v20 h22 => ∃ x21, iB v20 x21 /\
 (sB (!x21)
 (R (.bool false) h22)
 ((∃ m23, m23 < m3 /\ I1 (IntKind.wrap .i64 (i_4 + 1)) h22 m23))))))))))))
 (R (.bool true) h5))))))
theorem vc32 (p0 p1 : Sl) (h : Heap) (R : Value -> Heap -> Prop) (H : W32 p0 p1 h R) : Fn Pz 32 #[vS p0, vS p1] h R := fnI (A := (.s .z (.s .z (.s (.s .z (.b (.l [(5, .one (.int .i64))] .z))) .z)))) (by kernel_rfl) H

def W64 (p0 : Sl) (h : Heap) (R : Value -> Heap -> Prop) : Prop :=
 (QII 0 (IntKind.wrap .i64 ((p0.n : Int) - 1)) h fun I1 i_4 j_5 h6 m3 => (
 (sB (decide (i_4 < j_5))
 ((NB p0.a fun b7 o8 => (Ib j_5 p0.n /\
 (∃ x9 x10 x11, aL2 h6 ⟨b7, o8 + Int.toNat j_5 * 3, none⟩ x9 x10 x11 /\
 (NB p0.a fun b12 o13 => (Ib i_4 p0.n /\
 (∃ x14 x15 x16, aL2 h6 ⟨b12, o13 + Int.toNat i_4 * 3, none⟩ x14 x15 x16 /\
 (NB p0.a fun b17 o18 => (Ib i_4 p0.n /\
 (Wp h6 ⟨b17, o18 + Int.toNat i_4 * 3, none⟩ 3 (L2 x9 x10 x11) fun h19 =>
 (NB p0.a fun b20 o21 => (Ib j_5 p0.n /\
 (Wp h19 ⟨b20, o21 + Int.toNat j_5 * 3, none⟩ 3 (L2 x14 x15 x16) fun h22 =>
 (∃ m23, m23 < m3 /\ I1 (IntKind.wrap .i64 (i_4 + 1)) (IntKind.wrap .i64 (j_5 - 1)) h22 m23))))))))))))))
 (R (.tuple ⟨[]⟩) h6))))
theorem vc64 (p0 : Sl) (h : Heap) (R : Value -> Heap -> Prop) (H : W64 p0 h R) : Fn Pz 64 #[vS p0] h R := fnI (A := (.s .z (.b (.l [(2, .one (.int .i64)), (3, .one (.int .i64))] .z)))) (by kernel_rfl) H

def W65 (p0_1 : Int) (p0_2 : Bool) (p0_3 p0_4 : Int) (p0_5 : Sl) (p1_6 : Int) (p1_7 : Bool) (p1_8 p1_9 : Int) (p1_10 : Sl) (h : Heap) (R : Value -> Heap -> Prop) : Prop :=
 (Wn h (L5 p0_1 p0_2 p0_3 p0_4 p0_5) 37 fun h11 =>
 (Wn h11 (L5 p1_6 p1_7 p1_8 p1_9 p1_10) 37 fun h12 =>
 (∃ x13, rI h12 (aS h 0) x13 /\
 (∃ x14, rI h12 (aS h11 0) x14 /\
 (sB (x13 == x14)
 ((∃ x15, rB h12 (aS h 1) x15 /\
 (∃ x16, rB h12 (aS h11 1) x16 /\
 (sB (x15 == x16)
 ((∃ x17, rI h12 (aS h 2) x17 /\
 (∃ x18, rI h12 (aS h11 2) x18 /\
 (sB (x17 == x18)
 ((∃ x19, rI h12 (aS h 3) x19 /\
 (∃ x20, rI h12 (aS h11 3) x20 /\
 R (.bool (x19 == x20)) h12)))
 (R (.bool false) h12)))))
 (R (.bool false) h12)))))
 (R (.bool false) h12))))))
theorem vc65 (p0_1 : Int) (p0_2 : Bool) (p0_3 p0_4 : Int) (p0_5 : Sl) (p1_6 : Int) (p1_7 : Bool) (p1_8 p1_9 : Int) (p1_10 : Sl) (h : Heap) (R : Value -> Heap -> Prop) (H : W65 p0_1 p0_2 p0_3 p0_4 p0_5 p1_6 p1_7 p1_8 p1_9 p1_10 h R) : Fn Pz 65 #[.agg ⟨(L5 p0_1 p0_2 p0_3 p0_4 p0_5)⟩, .agg ⟨(L5 p1_6 p1_7 p1_8 p1_9 p1_10)⟩] h R := fnI (A := .z) (by kernel_rfl) H

end Go.VC
end

section
namespace Go.VC
open Go.Proofs

def W30 (p0_1 p0_2 p0_3 : Int) (p0_4 p0_5 p0_6 : Sl) (p1_7 p1_8 p1_9 : Int) (p1_10 p1_11 p1_12 : Sl) (h : Heap) (R : Value -> Heap -> Prop) : Prop :=
 (Wn h (L0 p0_1 p0_2 p0_3 p0_4 p0_5 p0_6) 26 fun h13 =>
 (Wn h13 (L0 p1_7 p1_8 p1_9 p1_10 p1_11 p1_12) 26 fun h14 =>
 (∃ x15 x16 x17 x18 x19 x20, aL0 h14 (aS h 0) x15 x16 x17 x18 x19 x20 /\
 (Fn Pz 47 #[.agg ⟨(L0 x15 x16 x17 x18 x19 x20)⟩] h14
 (fun v21 h24 => ∃ x22 : Option Addr, ∃ x23 : Bool, v21 = .tuple ⟨[.pointer x22, .bool x23]⟩ /\
 (∃ x25 x26 x27 x28 x29 x30, aL0 h24 (aS h13 0) x25 x26 x27 x28 x29 x30 /\
 (Fn Pz 47 #[.agg ⟨(L0 x25 x26 x27 x28 x29 x30)⟩] h24
 (fun v31 h34 => ∃ x32 : Option Addr, ∃ x33 : Bool, v31 = .tuple ⟨[.pointer x32, .bool x33]⟩ /\
 (sB (!x23)
 (R (.tuple ⟨[.slice none 0 0, .bool false, vI 1]⟩) h34)
 ((sB (!x33)
 (R (.tuple ⟨[.slice none 0 0, .bool false, vI 1]⟩) h34)
 ((∃ x35, rI h34 (aS h 0) x35 /\
 (∃ x36, rI h34 (aS h13 0) x36 /\
 (sB (x35 != x36)
 (R (.tuple ⟨[.slice none 0 0, .bool false, vI 12]⟩) h34)
 ((RunW Pz (Instr.makeMap 95 (none)) h34
 (fun v37 h39 => ∃ x38 : Option Nat, v37 = .map x38 /\
 (∃ x40, rI h39 (aS h 2) x40 /\
 (∃ x41, rI h39 (aS h13 2) x41 /\
 (RunW Pz (Instr.mapUpdate 95 (.map x38) (.agg ⟨[vI x40, vI x41]⟩) (.bool true)) h39 (fun _ h42 =>
 (∃ x43, rI h42 (aS h 2) x43 /\
 (∃ x44, rI h42 (aS h13 2) x44 /\
 (Wn h42 [vI x43, vI x44, vI (-1), .bool false, vI 0, vI 0] 97 fun h45 =>
 (QSSI ⟨none, 0, 0⟩ ⟨(some (aS h42 0)), 1, 1⟩ 0 h45 fun I46 history_49 queue_50 head_51 h52 m48 => (
 (sB (decide (head_51 < (queue_50.n : Int)))
 ((NB queue_50.a fun b53 o54 => (Ib head_51 queue_50.n /\
 (∃ (x55 x56 x57 : Int) (x58 : Bool) (x59 x60 : Int), atC h52 ⟨b53, o54 + Int.toNat head_51 * 6, none⟩ [vI x55, vI x56, vI x57, .bool x58, vI x59, vI x60] /\
 (Wn h52 [vI 0, vI 0, vI 0, .bool false, vI 0, vI 0] 97 fun h61 =>
 (Wp h61 (aS h52 0) 6 [vI x55, vI x56, vI x57, .bool x58, vI x59, vI x60] fun h62 =>
 (NC x22 fun a63 => (∃ x64, rS h62 ⟨a63.block, a63.off + 6, none⟩ x64 /\
 (∃ x65, rI h62 (aS h52 0) x65 /\
 (NB x64.a fun b66 o67 => (Ib x65 x64.n /\
 (∃ x68, rS h62 ⟨b66, o67 + Int.toNat x65 * 1, none⟩ x68 /\
 (QSSI history_49 queue_50 0 h62 fun I69 history_72 queue_73 x_74 h75 m71 => (
 (sB (decide (x_74 < (x68.n : Int)))
 ((NB x68.a fun b76 o77 => (Ib x_74 x68.n /\
 (∃ x78, rI h75 ⟨b76, o77 + Int.toNat x_74 * 1, none⟩ x78 /\
 (∃ x79, rS h75 (aS h 4) x79 /\
 (NB x79.a fun b80 o81 => (Ib x78 x79.n /\
 (∃ x82 x83 x84 x85 x86 x87, aL1 h75 ⟨b80, o81 + Int.toNat x78 * 6, none⟩ x82 x83 x84 x85 x86 x87 /\
 (Fn Pz 63 #[.agg ⟨(L1 x82 x83 x84 x85 x86 x87)⟩] h75
 (fun v88 h92 => ∃ (x89 : Bool) (x90 x91 : Int), v88 = .agg ⟨(L2 x89 x90 x91)⟩ /\
 (Wn h92 [.bool false, vI 0, vI 0] 79 fun h93 =>
 (Wp h93 (aS h92 0) 3 (L2 x89 x90 x91) fun h94 =>
 (∃ x95, rI h94 (aS h52 1) x95 /\
 (∃ x96 x97 x98, aL2 h94 (aS h92 0) x96 x97 x98 /\
 (Fn Pz 48 #[.pointer x32, vI x95, .agg ⟨(L2 x96 x97 x98)⟩] h94
 (fun v99 h101 => ∃ x100, iI v99 x100 /\
 (sB (decide (x100 < 0))
 ((∃ x102 x103 x104, aL2 h101 (aS h92 0) x102 x103 x104 /\
 (Wn h101 (L2 x102 x103 x104) 79 fun h105 =>
 (QSI ⟨(some (aS h101 0)), 1, 1⟩ head_51 h105 fun I106 l_109 n_110 h111 m108 => (
 (NB queue_73.a fun b112 o113 => (Ib n_110 queue_73.n /\
 (∃ x114, rI h111 ⟨b112, o113 + Int.toNat n_110 * 6 + 2, none⟩ x114 /\
 (sB (decide (x114 >= 0))
 ((NB queue_73.a fun b115 o116 => (Ib n_110 queue_73.n /\
 (∃ x117 x118 x119, aL2 h111 ⟨b115, o116 + Int.toNat n_110 * 6 + 3, none⟩ x117 x118 x119 /\
 (Wn h111 (L2 x117 x118 x119) 79 fun h120 =>
 (App Pz 100 100 (vS l_109) (.slice (some (aS h111 0)) 1 1) h120 fun s121 h122 =>
 (NB queue_73.a fun b123 o124 => (Ib n_110 queue_73.n /\
 (∃ x125, rI h122 ⟨b123, o124 + Int.toNat n_110 * 6 + 2, none⟩ x125 /\
 (∃ m126, m126 < m108 /\ I106 s121 x125 h122 m126))))))))))
 ((Fn Pz 64 #[vS l_109] h111
 (fun v127 h128 => v127 = .tuple ⟨[]⟩ /\
 (QSI history_72 0 h128 fun I129 history_132 x_133 h134 m131 => (
 (sB (decide (x_133 < (l_109.n : Int)))
 ((NB l_109.a fun b135 o136 => (Ib x_133 l_109.n /\
 (∃ x137 x138 x139, aL2 h134 ⟨b135, o136 + Int.toNat x_133 * 3, none⟩ x137 x138 x139 /\
 (Wn h134 [.bool false, vI 0, vI 0] 79 fun h140 =>
 (Wp h140 (aS h134 0) 3 (L2 x137 x138 x139) fun h141 =>
 (∃ x142, rI h141 (aS h 0) x142 /\
 (∃ x143, rB h141 (aS h134 0) x143 /\
 (∃ x144, rI h141 (aS h134 1) x144 /\
 (∃ x145, rI h141 (aS h134 2) x145 /\
 (Wn h141 [vI x142, .bool x143, vI x144, vI x145, .slice none 0 0] 37 fun h146 =>
 (App Pz 27 27 (vS history_132) (.slice (some (aS h141 0)) 1 1) h146 fun s147 h148 =>
 (∃ m149, m149 < m131 /\ I129 s147 (IntKind.wrap .i64 (x_133 + 1)) h148 m149)))))))))))))
 (R (.tuple ⟨[vS history_132, .bool false, vI 0]⟩) h134))))))))))))))))
 ((∃ x150, rS h101 (aS h 4) x150 /\
 (NB x150.a fun b151 o152 => (Ib x78 x150.n /\
 (∃ x153, rI h101 ⟨b151, o152 + Int.toNat x78 * 6 + 4, none⟩ x153 /\
 (∃ x154, rS h101 (aS h13 4) x154 /\
 (NB x154.a fun b155 o156 => (Ib x100 x154.n /\
 (∃ x157, rI h101 ⟨b155, o156 + Int.toNat x100 * 6 + 4, none⟩ x157 /\
 (Wn h101 [vI 0, vI 0] 94 fun h158 =>
 (Sm [⟨b155, o156 + Int.toNat x100 * 6 + 4, none⟩, (aS h13 4), ⟨b151, o152 + Int.toNat x78 * 6 + 4, none⟩, (aS h 4)] h101 h158 /\
 (Wp h158 (aS h101 0) 2 [vI x153, vI x157] fun h159 =>
 (∃ (x160 x161 : Int), atC h159 (aS h101 0) [vI x160, vI x161] /\
 (RunW Pz (Instr.lookup 95 (.map x38) (.agg ⟨[vI x160, vI x161]⟩) false) h159
 (fun v162 h164 => ∃ x163, iB v162 x163 /\
 (sB (!x163)
 ((∃ (x165 x166 : Int), atC h164 (aS h101 0) [vI x165, vI x166] /\
 (RunW Pz (Instr.mapUpdate 95 (.map x38) (.agg ⟨[vI x165, vI x166]⟩) (.bool true)) h164 (fun _ h167 =>
 (Ib 0 2 /\
 (∃ x168, rI h167 (aS h101 (0 + Int.toNat 0 * 1)) x168 /\
 (Ib 1 2 /\
 (∃ x169, rI h167 (aS h101 (0 + Int.toNat 1 * 1)) x169 /\
 (∃ x170 x171 x172, aL2 h167 (aS h92 0) x170 x171 x172 /\
 (Wn h167 [vI x168, vI x169, vI head_51, .bool x170, vI x171, vI x172] 97 fun h173 =>
 (App Pz 98 98 (vS queue_73) (.slice (some (aS h167 0)) 1 1) h173 fun s174 h175 =>
 (∃ m176, m176 < m71 /\ I69 history_72 s174 (IntKind.wrap .i64 (x_74 + 1)) h175 m176))))))))))))
 ((∃ m177, m177 < m71 /\ I69 history_72 queue_73 (IntKind.wrap .i64 (x_74 + 1)) h164 m177)))))))))))))))))))))))))))))))))))
 ((∃ m178, m178 < m48 /\ I46 history_72 queue_73 (IntKind.wrap .i64 (head_51 + 1)) h75 m178)))))))))))))))))
 (R (.tuple ⟨[.slice none 0 0, .bool true, vI 0]⟩) h52)))))))))))))))))))))))))))))
theorem vc30 (p0_1 p0_2 p0_3 : Int) (p0_4 p0_5 p0_6 : Sl) (p1_7 p1_8 p1_9 : Int) (p1_10 p1_11 p1_12 : Sl) (h : Heap) (R : Value -> Heap -> Prop) (H : W30 p0_1 p0_2 p0_3 p0_4 p0_5 p0_6 p1_7 p1_8 p1_9 p1_10 p1_11 p1_12 h R) : Fn Pz 30 #[.agg ⟨(L0 p0_1 p0_2 p0_3 p0_4 p0_5 p0_6)⟩, .agg ⟨(L0 p1_7 p1_8 p1_9 p1_10 p1_11 p1_12)⟩] h R := fnI (A := (.s .z (.s .z (.s .z (.s .z (.s .z (.s .z (.s (.s .z (.b (.l [(4, .one (.slice)), (12, .one (.slice)), (13, .one (.int .i64))] (.s .z (.s (.b (.s .z (.s .z (.b (.l [(4, .one (.slice)), (12, .one (.slice)), (79, .one (.int .i64))] (.s .z (.s .z (.s (.b (.s .z (.s .z (.s .z (.s (.s .z (.c (.s .z (.s (.s .z (.b (.l [(19, .one (.slice)), (20, .one (.int .i64))] .z))) (.s .z (.s (.s .z (.b (.l [(4, .one (.slice)), (122, .one (.int .i64))] .z))) .z)))) .z)) .z))))) .z)))))))) .z))))) .z)))))))) (by kernel_rfl) H

end Go.VC
end
