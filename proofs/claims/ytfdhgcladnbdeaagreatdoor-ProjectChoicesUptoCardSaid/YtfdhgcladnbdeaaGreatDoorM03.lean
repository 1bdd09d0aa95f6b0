/- Texts of this claim, joined: PjVcM. -/
import Derived.Test.YtfdhgcladnbdeaaGreatDoorM02
import Derived.Test.YtfdhgcladnbdeaaGreatDoorProg
import Derived.KernelRfl
set_option linter.unusedVariables false
set_option linter.unusedSimpArgs false

section
namespace Go.VC
open Go.Proofs
set_option maxRecDepth 100000
set_option linter.unusedVariables false

/- farandole/farandolelaw25.ProjectChoices
 loop rrrrrrrrrrrrrrrrrrrlrborrlbrrrlrb: found_212:Bool, x_213:Int
 loop rrrrrrrrrrrrrrrrrrrlrb: x_193:Int
 loop rrrrrrrrrrrrrrrrrrlrb: own_159:Int, x_160:Int
 loop rrrrrrrrrrrrrrrrlrb: ticks_133:Int, x_134:Int
 loop rrrrrrrrrrrlrb: s_90:Int, x_91:Int -/
def W5 (p0_1 : ByteArray) (p0_2 p0_3 : Sl) (p0_4 p0_5 p0_6 : Int) (p0_7 p0_8 p1 : Sl) (h : Heap) (R : Value → Heap → Prop) : Prop :=
 (∀ h9 : Heap, h9 = h.push (.cells ⟨[.string p0_1, .slice p0_2.a p0_2.n p0_2.c, .slice p0_3.a p0_3.n p0_3.c, .int .i64 p0_4, .int .i64 p0_5, .int .i64 p0_6, .slice p0_7.a p0_7.n p0_7.c, .slice p0_8.a p0_8.n p0_8.c]⟩ 27) →
 (Fn Tryz.prog 10 #[] h9
 (fun v10 h12 => ∃ x11 : Bool, v10 = .bool x11 ∧
 (sB (!x11)
 (R (.bool false) h12)
 ((∃ (x13 : ByteArray) (x14 x15 : Sl) (x16 x17 x18 : Int) (x19 x20 : Sl), atC h12 ⟨h.size, 0, none⟩ [.string x13, .slice x14.a x14.n x14.c, .slice x15.a x15.n x15.c, .int .i64 x16, .int .i64 x17, .int .i64 x18, .slice x19.a x19.n x19.c, .slice x20.a x20.n x20.c] ∧
 (Fn Tryz.prog 21 #[.agg ⟨[.string x13, .slice x14.a x14.n x14.c, .slice x15.a x15.n x15.c, .int .i64 x16, .int .i64 x17, .int .i64 x18, .slice x19.a x19.n x19.c, .slice x20.a x20.n x20.c]⟩, .int .i64 0] h12
 (fun v21 h23 => ∃ x22 : Bool, v21 = .bool x22 ∧
 (sB (!x22)
 (R (.bool true) h23)
 ((sB (decide ((p1.n : Int) > 30))
 (R (.bool true) h23)
 ((∃ (x24 : ByteArray) (x25 x26 : Sl) (x27 x28 x29 : Int) (x30 x31 : Sl), atC h23 ⟨h.size, 0, none⟩ [.string x24, .slice x25.a x25.n x25.c, .slice x26.a x26.n x26.c, .int .i64 x27, .int .i64 x28, .int .i64 x29, .slice x30.a x30.n x30.c, .slice x31.a x31.n x31.c] ∧
 (Fn Tryz.prog 22 #[.agg ⟨[.string x24, .slice x25.a x25.n x25.c, .slice x26.a x26.n x26.c, .int .i64 x27, .int .i64 x28, .int .i64 x29, .slice x30.a x30.n x30.c, .slice x31.a x31.n x31.c]⟩, .slice p1.a p1.n p1.c] h23
 (fun v32 h35 => ∃ (x33 : Sl) (x34 : Int), v32 = .tuple ⟨[.slice x33.a x33.n x33.c, .int .i64 x34]⟩ ∧
 (∃ (x36 : ByteArray) (x37 x38 : Sl) (x39 x40 x41 : Int) (x42 x43 : Sl), atC h35 ⟨h.size, 0, none⟩ [.string x36, .slice x37.a x37.n x37.c, .slice x38.a x38.n x38.c, .int .i64 x39, .int .i64 x40, .int .i64 x41, .slice x42.a x42.n x42.c, .slice x43.a x43.n x43.c] ∧
 (Fn Tryz.prog 23 #[.agg ⟨[.string x36, .slice x37.a x37.n x37.c, .slice x38.a x38.n x38.c, .int .i64 x39, .int .i64 x40, .int .i64 x41, .slice x42.a x42.n x42.c, .slice x43.a x43.n x43.c]⟩, .int .i64 x34] h35
 (fun v44 h46 => ∃ x45 : Sl, v44 = .slice x45.a x45.n x45.c ∧
 (sB ((x45.n : Int) == 0)
 ((∃ x47 : Int, hc h46 ⟨h.size, 5, none⟩ = some (.int .i64 x47) ∧
 R (.bool (x34 == x47)) h46))
 ((∃ x48 : Sl, hc h46 ⟨h.size, 6, none⟩ = some (.slice x48.a x48.n x48.c) ∧
 (NB x45.a fun b49 o50 => ((0 ≤ (0 : Int) ∧ (0 : Int) < (x45.n : Nat)) ∧
 (∃ x51 : Int, hc h46 ⟨b49, o50 + Int.toNat 0 * 1, none⟩ = some (.int .i64 x51) ∧
 (NB x48.a fun b52 o53 => ((0 ≤ (x51 : Int) ∧ (x51 : Int) < (x48.n : Nat)) ∧
 (∃ x54 : Int, hc h46 ⟨b52, o53 + Int.toNat x51 * 6 + 1, none⟩ = some (.int .i64 x54) ∧
 (∃ (x55 : ByteArray) (x56 x57 : Sl) (x58 x59 x60 : Int) (x61 x62 : Sl), atC h46 ⟨h.size, 0, none⟩ [.string x55, .slice x56.a x56.n x56.c, .slice x57.a x57.n x57.c, .int .i64 x58, .int .i64 x59, .int .i64 x60, .slice x61.a x61.n x61.c, .slice x62.a x62.n x62.c] ∧
 (Fn Tryz.prog 12 #[.agg ⟨[.string x55, .slice x56.a x56.n x56.c, .slice x57.a x57.n x57.c, .int .i64 x58, .int .i64 x59, .int .i64 x60, .slice x61.a x61.n x61.c, .slice x62.a x62.n x62.c]⟩, .int .i64 x54] h46
 (fun v63 h71 => ∃ (x64 x65 x66 : Int) (x67 x68 x69 : Sl) (x70 : Int), v63 = .tuple ⟨[.agg ⟨[.int .i64 x64, .int .i64 x65, .int .i64 x66, .slice x67.a x67.n x67.c, .slice x68.a x68.n x68.c, .slice x69.a x69.n x69.c]⟩, .int .i64 x70]⟩ ∧
 (∀ h72 : Heap, h72 = h71.push (.cells ⟨[.int .i64 0, .int .i64 0, .int .i64 0, .slice none 0 0, .slice none 0 0, .slice none 0 0]⟩ 33) →
 (okAt h72 ⟨h71.size, 0, none⟩ 6 ∧ ∀ h73 : Heap, h73 = hputs h72 ⟨h71.size, 0, none⟩ 0 [.int .i64 x64, .int .i64 x65, .int .i64 x66, .slice x67.a x67.n x67.c, .slice x68.a x68.n x68.c, .slice x69.a x69.n x69.c] →
 (sB (x70 != 0)
 ((sB (x70 == 18)
 (R (.bool true) h73)
 (R (.bool (x70 == 6)) h73)))
 ((∃ (x74 x75 x76 : Int) (x77 x78 x79 : Sl), atC h73 ⟨h71.size, 0, none⟩ [.int .i64 x74, .int .i64 x75, .int .i64 x76, .slice x77.a x77.n x77.c, .slice x78.a x78.n x78.c, .slice x79.a x79.n x79.c] ∧
 (Fn Tryz.prog 17 #[.agg ⟨[.int .i64 x74, .int .i64 x75, .int .i64 x76, .slice x77.a x77.n x77.c, .slice x78.a x78.n x78.c, .slice x79.a x79.n x79.c]⟩] h73
 (fun v80 h82 => ∃ x81 : Bool, v80 = .bool x81 ∧
 (sB (!x81)
 (R (.bool false) h82)
 ((∃ x83 : Int, hc h82 ⟨h71.size, 2, none⟩ = some (.int .i64 x83) ∧
 (Fn Tryz.prog 24 #[.slice x33.a x33.n x33.c, .int .i64 x54] h82
 (fun v84 h86 => ∃ x85 : Sl, v84 = .slice x85.a x85.n x85.c ∧
 (∃ I87 : Int → Int → Heap → Nat → Prop, (∃ m88, I87 x83 0 h86 m88) ∧
 (∀ (_ : Env) (s_90 x_91 : Int) (h92 : Heap) (m89 : Nat), I87 s_90 x_91 h92 m89 →
 (sB (decide (x_91 < (x85.n : Int)))
 ((NB x85.a fun b93 o94 => ((0 ≤ (x_91 : Int) ∧ (x_91 : Int) < (x85.n : Nat)) ∧
 (∃ (x95 : Int) (x96 : Bool) (x97 x98 : Int) (x99 : Sl), atC h92 ⟨b93, o94 + Int.toNat x_91 * 5, none⟩ [.int .i64 x95, .bool x96, .int .i64 x97, .int .i64 x98, .slice x99.a x99.n x99.c] ∧
 (∀ h100 : Heap, h100 = h92.push (.cells ⟨[.int .i64 0, .bool false, .int .i64 0, .int .i64 0, .slice none 0 0]⟩ 60) →
 (okAt h100 ⟨h92.size, 0, none⟩ 5 ∧ ∀ h101 : Heap, h101 = hputs h100 ⟨h92.size, 0, none⟩ 0 [.int .i64 x95, .bool x96, .int .i64 x97, .int .i64 x98, .slice x99.a x99.n x99.c] →
 (sB (decide (s_90 ≥ 0))
 ((∃ (x102 x103 x104 : Int) (x105 x106 x107 : Sl), atC h101 ⟨h71.size, 0, none⟩ [.int .i64 x102, .int .i64 x103, .int .i64 x104, .slice x105.a x105.n x105.c, .slice x106.a x106.n x106.c, .slice x107.a x107.n x107.c] ∧
 (∃ (x108 : Int) (x109 : Bool) (x110 x111 : Int) (x112 : Sl), atC h101 ⟨h92.size, 0, none⟩ [.int .i64 x108, .bool x109, .int .i64 x110, .int .i64 x111, .slice x112.a x112.n x112.c] ∧
 (Fn Tryz.prog 25 #[.agg ⟨[.int .i64 x102, .int .i64 x103, .int .i64 x104, .slice x105.a x105.n x105.c, .slice x106.a x106.n x106.c, .slice x107.a x107.n x107.c]⟩, .int .i64 s_90, .agg ⟨[.int .i64 x108, .bool x109, .int .i64 x110, .int .i64 x111, .slice x112.a x112.n x112.c]⟩] h101
 (fun v113 h115 => ∃ x114 : Int, v113 = .int .i64 x114 ∧
 (∃ m116, m116 < m89 ∧ I87 x114 (IntKind.wrap .i64 (x_91 + 1)) h115 m116))))))
 ((∃ m117, m117 < m89 ∧ I87 s_90 (IntKind.wrap .i64 (x_91 + 1)) h101 m117)))))))))
 ((sB (decide (s_90 < 0))
 (R (.bool false) h92)
 ((∃ (x118 x119 x120 : Int) (x121 x122 x123 : Sl), atC h92 ⟨h71.size, 0, none⟩ [.int .i64 x118, .int .i64 x119, .int .i64 x120, .slice x121.a x121.n x121.c, .slice x122.a x122.n x122.c, .slice x123.a x123.n x123.c] ∧
 (Fn Tryz.prog 19 #[.agg ⟨[.int .i64 x118, .int .i64 x119, .int .i64 x120, .slice x121.a x121.n x121.c, .slice x122.a x122.n x122.c, .slice x123.a x123.n x123.c]⟩, .int .i64 s_90] h92
 (fun v124 h126 => ∃ x125 : Sl, v124 = .slice x125.a x125.n x125.c ∧
 (sB ((x125.n : Int) != (x45.n : Int))
 (R (.bool false) h126)
 ((∀ h127 : Heap, h127 = h126.push (.cells ⟨[.int .i64 0, .int .i64 0, .int .i64 0]⟩ 53) →
 (okAt h127 ⟨h126.size, 0, none⟩ 3 ∧ ∀ h128 : Heap, h128 = hputs h127 ⟨h126.size, 0, none⟩ 0 [.int .i64 0, .int .i64 0, .int .i64 0] →
 (∃ x129 : Sl, hc h128 ⟨h.size, 7, none⟩ = some (.slice x129.a x129.n x129.c) ∧
 (∃ I130 : Int → Int → Heap → Nat → Prop, (∃ m131, I130 0 0 h128 m131) ∧
 (∀ (_ : Env) (ticks_133 x_134 : Int) (h135 : Heap) (m132 : Nat), I130 ticks_133 x_134 h135 m132 →
 (sB (decide (x_134 < (x129.n : Int)))
 ((NB x129.a fun b136 o137 => ((0 ≤ (x_134 : Int) ∧ (x_134 : Int) < (x129.n : Nat)) ∧
 (∃ (x138 x139 x140 : Int), atC h135 ⟨b136, o137 + Int.toNat x_134 * 3, none⟩ [.int .i64 x138, .int .i64 x139, .int .i64 x140] ∧
 (∀ h141 : Heap, h141 = h135.push (.cells ⟨[.int .i64 0, .int .i64 0, .int .i64 0]⟩ 63) →
 (okAt h141 ⟨h135.size, 0, none⟩ 3 ∧ ∀ h142 : Heap, h142 = hputs h141 ⟨h135.size, 0, none⟩ 0 [.int .i64 x138, .int .i64 x139, .int .i64 x140] →
 (∃ x143 : Int, hc h142 ⟨h135.size, 0, none⟩ = some (.int .i64 x143) ∧
 (sB (x143 == x34)
 ((∃ x144 : Int, hc h142 ⟨h135.size, 1, none⟩ = some (.int .i64 x144) ∧
 (∃ x145 : Sl, hc h142 ⟨h.size, 6, none⟩ = some (.slice x145.a x145.n x145.c) ∧
 (∃ x146 : Int, hc h142 ⟨h135.size, 2, none⟩ = some (.int .i64 x146) ∧
 (NB x145.a fun b147 o148 => ((0 ≤ (x146 : Int) ∧ (x146 : Int) < (x145.n : Nat)) ∧
 (∃ (x149 x150 x151 : Int), atC h142 ⟨b147, o148 + Int.toNat x146 * 6 + 1, none⟩ [.int .i64 x149, .int .i64 x150, .int .i64 x151] ∧
 (okAt h142 ⟨h126.size, 0, none⟩ 3 ∧ ∀ h152 : Heap, h152 = hputs h142 ⟨h126.size, 0, none⟩ 0 [.int .i64 x149, .int .i64 x150, .int .i64 x151] →
 (∃ m153, m153 < m132 ∧ I130 x144 (IntKind.wrap .i64 (x_134 + 1)) h152 m153)))))))))
 ((∃ m154, m154 < m132 ∧ I130 ticks_133 (IntKind.wrap .i64 (x_134 + 1)) h142 m154))))))))))
 ((∃ x155 : Sl, hc h135 ⟨h71.size, 5, none⟩ = some (.slice x155.a x155.n x155.c) ∧
 (∃ I156 : Int → Int → Heap → Nat → Prop, (∃ m157, I156 0 0 h135 m157) ∧
 (∀ (_ : Env) (own_159 x_160 : Int) (h161 : Heap) (m158 : Nat), I156 own_159 x_160 h161 m158 →
 (sB (decide (x_160 < (x155.n : Int)))
 ((NB x155.a fun b162 o163 => ((0 ≤ (x_160 : Int) ∧ (x_160 : Int) < (x155.n : Nat)) ∧
 (∃ (x164 x165 x166 : Int), atC h161 ⟨b162, o163 + Int.toNat x_160 * 3, none⟩ [.int .i64 x164, .int .i64 x165, .int .i64 x166] ∧
 (∀ h167 : Heap, h167 = h161.push (.cells ⟨[.int .i64 0, .int .i64 0, .int .i64 0]⟩ 63) →
 (okAt h167 ⟨h161.size, 0, none⟩ 3 ∧ ∀ h168 : Heap, h168 = hputs h167 ⟨h161.size, 0, none⟩ 0 [.int .i64 x164, .int .i64 x165, .int .i64 x166] →
 (∃ x169 : Int, hc h168 ⟨h161.size, 0, none⟩ = some (.int .i64 x169) ∧
 (sB (x169 == s_90)
 ((∃ x170 : Int, hc h168 ⟨h161.size, 1, none⟩ = some (.int .i64 x170) ∧
 (∃ x171 : Sl, hc h168 ⟨h71.size, 4, none⟩ = some (.slice x171.a x171.n x171.c) ∧
 (∃ x172 : Int, hc h168 ⟨h161.size, 2, none⟩ = some (.int .i64 x172) ∧
 (NB x171.a fun b173 o174 => ((0 ≤ (x172 : Int) ∧ (x172 : Int) < (x171.n : Nat)) ∧
 (∃ (x175 : Int) (x176 : Bool) (x177 x178 x179 : Int) (x180 : Bool), atC h168 ⟨b173, o174 + Int.toNat x172 * 6, none⟩ [.int .i64 x175, .bool x176, .int .i64 x177, .int .i64 x178, .int .i64 x179, .bool x180] ∧
 (∀ h181 : Heap, h181 = h168.push (.cells ⟨[.int .i64 0, .bool false, .int .i64 0, .int .i64 0, .int .i64 0, .bool false]⟩ 45) →
 (okAt h181 ⟨h168.size, 0, none⟩ 6 ∧ ∀ h182 : Heap, h182 = hputs h181 ⟨h168.size, 0, none⟩ 0 [.int .i64 x175, .bool x176, .int .i64 x177, .int .i64 x178, .int .i64 x179, .bool x180] →
 (∃ x183 : Bool, hc h182 ⟨h168.size, 1, none⟩ = some (.bool x183) ∧
 (sB (!x183)
 (R (.bool false) h182)
 ((∃ x184 : Int, hc h182 ⟨h168.size, 2, none⟩ = some (.int .i64 x184) ∧
 (∃ x185 : Int, hc h182 ⟨h126.size, 1, none⟩ = some (.int .i64 x185) ∧
 (sB (x184 != x185)
 (R (.bool false) h182)
 ((∃ x186 : Int, hc h182 ⟨h168.size, 3, none⟩ = some (.int .i64 x186) ∧
 (∃ x187 : Int, hc h182 ⟨h126.size, 2, none⟩ = some (.int .i64 x187) ∧
 (sB (x186 != x187)
 (R (.bool false) h182)
 ((∃ m188, m188 < m158 ∧ I156 x170 (IntKind.wrap .i64 (x_160 + 1)) h182 m188)))))))))))))))))))))
 ((∃ m189, m189 < m158 ∧ I156 own_159 (IntKind.wrap .i64 (x_160 + 1)) h168 m189))))))))))
 ((∃ I190 : Int → Heap → Nat → Prop, (∃ m191, I190 0 h161 m191) ∧
 (∀ (_ : Env) (x_193 : Int) (h194 : Heap) (m192 : Nat), I190 x_193 h194 m192 →
 (sB (decide (x_193 < (x45.n : Int)))
 ((NB x45.a fun b195 o196 => ((0 ≤ (x_193 : Int) ∧ (x_193 : Int) < (x45.n : Nat)) ∧
 (∃ x197 : Int, hc h194 ⟨b195, o196 + Int.toNat x_193 * 1, none⟩ = some (.int .i64 x197) ∧
 (∃ x198 : Sl, hc h194 ⟨h.size, 6, none⟩ = some (.slice x198.a x198.n x198.c) ∧
 (NB x198.a fun b199 o200 => ((0 ≤ (x197 : Int) ∧ (x197 : Int) < (x198.n : Nat)) ∧
 (∃ (x201 x202 x203 x204 x205 : Int) (x206 : Bool), atC h194 ⟨b199, o200 + Int.toNat x197 * 6, none⟩ [.int .i64 x201, .int .i64 x202, .int .i64 x203, .int .i64 x204, .int .i64 x205, .bool x206] ∧
 (∀ h207 : Heap, h207 = h194.push (.cells ⟨[.int .i64 0, .int .i64 0, .int .i64 0, .int .i64 0, .int .i64 0, .bool false]⟩ 55) →
 (okAt h207 ⟨h194.size, 0, none⟩ 6 ∧ ∀ h208 : Heap, h208 = hputs h207 ⟨h194.size, 0, none⟩ 0 [.int .i64 x201, .int .i64 x202, .int .i64 x203, .int .i64 x204, .int .i64 x205, .bool x206] →
 (∃ I209 : Bool → Int → Heap → Nat → Prop, (∃ m210, I209 false 0 h208 m210) ∧
 (∀ (_ : Env) (found_212 : Bool) (x_213 : Int) (h214 : Heap) (m211 : Nat), I209 found_212 x_213 h214 m211 →
 (sB (decide (x_213 < (x125.n : Int)))
 ((NB x125.a fun b215 o216 => ((0 ≤ (x_213 : Int) ∧ (x_213 : Int) < (x125.n : Nat)) ∧
 (∃ x217 : Int, hc h214 ⟨b215, o216 + Int.toNat x_213 * 1, none⟩ = some (.int .i64 x217) ∧
 (∃ x218 : Sl, hc h214 ⟨h71.size, 4, none⟩ = some (.slice x218.a x218.n x218.c) ∧
 (NB x218.a fun b219 o220 => ((0 ≤ (x217 : Int) ∧ (x217 : Int) < (x218.n : Nat)) ∧
 (∃ (x221 : Int) (x222 : Bool) (x223 x224 x225 : Int) (x226 : Bool), atC h214 ⟨b219, o220 + Int.toNat x217 * 6, none⟩ [.int .i64 x221, .bool x222, .int .i64 x223, .int .i64 x224, .int .i64 x225, .bool x226] ∧
 (∀ h227 : Heap, h227 = h214.push (.cells ⟨[.int .i64 0, .bool false, .int .i64 0, .int .i64 0, .int .i64 0, .bool false]⟩ 45) →
 (okAt h227 ⟨h214.size, 0, none⟩ 6 ∧ ∀ h228 : Heap, h228 = hputs h227 ⟨h214.size, 0, none⟩ 0 [.int .i64 x221, .bool x222, .int .i64 x223, .int .i64 x224, .int .i64 x225, .bool x226] →
 (sB found_212
 ((∃ m229, m229 < m211 ∧ I209 true (IntKind.wrap .i64 (x_213 + 1)) h228 m229))
 ((∃ x230 : Bool, hc h228 ⟨h214.size, 1, none⟩ = some (.bool x230) ∧
 (sB x230
 ((∃ x231 : Int, hc h228 ⟨h214.size, 2, none⟩ = some (.int .i64 x231) ∧
 (∃ x232 : Int, hc h228 ⟨h194.size, 1 + 1, none⟩ = some (.int .i64 x232) ∧
 (sB (x231 == x232)
 ((∃ x233 : Int, hc h228 ⟨h214.size, 3, none⟩ = some (.int .i64 x233) ∧
 (∃ x234 : Int, hc h228 ⟨h194.size, 1 + 2, none⟩ = some (.int .i64 x234) ∧
 (sB (x233 == x234)
 ((∃ x235 : Bool, hc h228 ⟨h214.size, 5, none⟩ = some (.bool x235) ∧
 (∃ x236 : Bool, hc h228 ⟨h194.size, 5, none⟩ = some (.bool x236) ∧
 (∃ m237, m237 < m211 ∧ I209 (x235 == x236) (IntKind.wrap .i64 (x_213 + 1)) h228 m237))))
 ((∃ m238, m238 < m211 ∧ I209 false (IntKind.wrap .i64 (x_213 + 1)) h228 m238))))))
 ((∃ m239, m239 < m211 ∧ I209 false (IntKind.wrap .i64 (x_213 + 1)) h228 m239))))))
 ((∃ m240, m240 < m211 ∧ I209 false (IntKind.wrap .i64 (x_213 + 1)) h228 m240))))))))))))))))
 ((sB (!found_212)
 (R (.bool false) h214)
 ((∃ m241, m241 < m192 ∧ I190 (IntKind.wrap .i64 (x_193 + 1)) h214 m241)))))))))))))))))
 (R (.bool (own_159 == ticks_133)) h194)))))))))))))))))))))))))))))))))))))))))))))))))))))))))))))))))))))
theorem vc5 (p0_1 : ByteArray) (p0_2 p0_3 : Sl) (p0_4 p0_5 p0_6 : Int) (p0_7 p0_8 p1 : Sl) (h : Heap) (R : Value → Heap → Prop) (H : W5 p0_1 p0_2 p0_3 p0_4 p0_5 p0_6 p0_7 p0_8 p1 h R) : Fn Tryz.prog 5 #[.agg ⟨[.string p0_1, .slice p0_2.a p0_2.n p0_2.c, .slice p0_3.a p0_3.n p0_3.c, .int .i64 p0_4, .int .i64 p0_5, .int .i64 p0_6, .slice p0_7.a p0_7.n p0_7.c, .slice p0_8.a p0_8.n p0_8.c]⟩, .slice p1.a p1.n p1.c] h R := fnI (A := (.s .z (.s .z (.s .z (.s .z (.s .z (.s .z (.s .z (.s .z (.s .z (.s .z (.s .z (.s (.s .z (.b (.l [(11, .one (.int .i64)), (88, .one (.int .i64))] .z))) (.s .z (.s .z (.s .z (.s .z (.s (.s .z (.b (.l [(15, .one (.int .i64)), (113, .one (.int .i64))] .z))) (.s .z (.s (.s .z (.b (.l [(19, .one (.int .i64)), (134, .one (.int .i64))] .z))) (.s (.s .z (.b (.l [(170, .one (.int .i64))] (.s .z (.s .z (.s (.b (.s .z (.s .z (.s .z (.s (.s .z (.b (.l [(26, .one (.bool)), (181, .one (.int .i64))] .z))) .z))))) .z)))))) .z))))))))))))))))))))) (by kernel_rfl) H

/- farandole/farandoleref21.Word
 loop rrrlrb: out_14:Sl, at_15:Int, i_16:Int -/
def W22 (p0_1 : ByteArray) (p0_2 p0_3 : Sl) (p0_4 p0_5 p0_6 : Int) (p0_7 p0_8 p1 : Sl) (h : Heap) (R : Value → Heap → Prop) : Prop :=
 (∀ h9 : Heap, h9 = h.push (.cells ⟨[.string p0_1, .slice p0_2.a p0_2.n p0_2.c, .slice p0_3.a p0_3.n p0_3.c, .int .i64 p0_4, .int .i64 p0_5, .int .i64 p0_6, .slice p0_7.a p0_7.n p0_7.c, .slice p0_8.a p0_8.n p0_8.c]⟩ 27) →
 (∃ x10 : Int, hc h9 ⟨h.size, 4, none⟩ = some (.int .i64 x10) ∧
 (∃ I11 : Sl → Int → Int → Heap → Nat → Prop, (∃ m12, I11 ⟨none, 0, 0⟩ x10 0 h9 m12) ∧
 (∀ (_ : Env) (out_14 : Sl) (at_15 i_16 : Int) (h17 : Heap) (m13 : Nat), I11 out_14 at_15 i_16 h17 m13 →
 (sB (decide (i_16 < (p1.n : Int)))
 ((∃ (x18 : ByteArray) (x19 x20 : Sl) (x21 x22 x23 : Int) (x24 x25 : Sl), atC h17 ⟨h.size, 0, none⟩ [.string x18, .slice x19.a x19.n x19.c, .slice x20.a x20.n x20.c, .int .i64 x21, .int .i64 x22, .int .i64 x23, .slice x24.a x24.n x24.c, .slice x25.a x25.n x25.c] ∧
 (Fn Tryz.prog 23 #[.agg ⟨[.string x18, .slice x19.a x19.n x19.c, .slice x20.a x20.n x20.c, .int .i64 x21, .int .i64 x22, .int .i64 x23, .slice x24.a x24.n x24.c, .slice x25.a x25.n x25.c]⟩, .int .i64 at_15] h17
 (fun v26 h28 => ∃ x27 : Sl, v26 = .slice x27.a x27.n x27.c ∧
 (sB ((x27.n : Int) == 0)
 (R (.tuple ⟨[.slice out_14.a out_14.n out_14.c, .int .i64 at_15]⟩) h28)
 ((∃ x29 : Sl, hc h28 ⟨h.size, 6, none⟩ = some (.slice x29.a x29.n x29.c) ∧
 (NB p1.a fun b30 o31 => ((0 ≤ (i_16 : Int) ∧ (i_16 : Int) < (p1.n : Nat)) ∧
 (∃ x32 : Int, hc h28 ⟨b30, o31 + Int.toNat i_16 * 1, none⟩ = some (.int .u8 x32) ∧
 ((x27.n : Int) ≠ 0 ∧ (NB x27.a fun b33 o34 => ((0 ≤ ((Int.tmod (IntKind.wrap .i64 x32) (x27.n : Int)) : Int) ∧ ((Int.tmod (IntKind.wrap .i64 x32) (x27.n : Int)) : Int) < (x27.n : Nat)) ∧
 (∃ x35 : Int, hc h28 ⟨b33, o34 + Int.toNat (Int.tmod (IntKind.wrap .i64 x32) (x27.n : Int)) * 1, none⟩ = some (.int .i64 x35) ∧
 (NB x29.a fun b36 o37 => ((0 ≤ (x35 : Int) ∧ (x35 : Int) < (x29.n : Nat)) ∧
 (∃ (x38 x39 x40 x41 x42 : Int) (x43 : Bool), atC h28 ⟨b36, o37 + Int.toNat x35 * 6, none⟩ [.int .i64 x38, .int .i64 x39, .int .i64 x40, .int .i64 x41, .int .i64 x42, .bool x43] ∧
 (∀ h44 : Heap, h44 = h28.push (.cells ⟨[.int .i64 0, .int .i64 0, .int .i64 0, .int .i64 0, .int .i64 0, .bool false]⟩ 55) →
 (Sm [⟨b36, o37 + Int.toNat x35 * 6, none⟩, ⟨b33, o34 + Int.toNat (Int.tmod (IntKind.wrap .i64 x32) (x27.n : Int)) * 1, none⟩, ⟨b30, o31 + Int.toNat i_16 * 1, none⟩, ⟨h.size, 6, none⟩] h28 h44 ∧
 (okAt h44 ⟨h28.size, 0, none⟩ 6 ∧ ∀ h45 : Heap, h45 = hputs h44 ⟨h28.size, 0, none⟩ 0 [.int .i64 x38, .int .i64 x39, .int .i64 x40, .int .i64 x41, .int .i64 x42, .bool x43] →
 (∃ (x46 x47 x48 : Int), atC h45 ⟨h28.size, 1, none⟩ [.int .i64 x46, .int .i64 x47, .int .i64 x48] ∧
 (∀ h49 : Heap, h49 = h45.push (.cells ⟨[.int .i64 x46, .int .i64 x47, .int .i64 x48]⟩ 53) →
 (App Tryz.prog 48 48 (.slice out_14.a out_14.n out_14.c) (.slice (some ⟨h45.size, 0, none⟩) 1 1) h49 fun s50 h51 =>
 (∃ x52 : Int, hc h51 ⟨h28.size, 4, none⟩ = some (.int .i64 x52) ∧
 (∃ m53, m53 < m13 ∧ I11 s50 x52 (IntKind.wrap .i64 (i_16 + 1)) h51 m53)))))))))))))))))))))))))
 (R (.tuple ⟨[.slice out_14.a out_14.n out_14.c, .int .i64 at_15]⟩) h17))))))
theorem vc22 (p0_1 : ByteArray) (p0_2 p0_3 : Sl) (p0_4 p0_5 p0_6 : Int) (p0_7 p0_8 p1 : Sl) (h : Heap) (R : Value → Heap → Prop) (H : W22 p0_1 p0_2 p0_3 p0_4 p0_5 p0_6 p0_7 p0_8 p1 h R) : Fn Tryz.prog 22 #[.agg ⟨[.string p0_1, .slice p0_2.a p0_2.n p0_2.c, .slice p0_3.a p0_3.n p0_3.c, .int .i64 p0_4, .int .i64 p0_5, .int .i64 p0_6, .slice p0_7.a p0_7.n p0_7.c, .slice p0_8.a p0_8.n p0_8.c]⟩, .slice p1.a p1.n p1.c] h R := fnI (A := (.s .z (.s .z (.s .z (.s (.s .z (.b (.l [(6, .one (.slice)), (7, .one (.int .i64)), (8, .one (.int .i64))] .z))) .z))))) (by kernel_rfl) H

/- farandole/farandoleref21.Out
 loop rrlrb: out_13:Sl, i_14:Int -/
def W23 (p0_1 : ByteArray) (p0_2 p0_3 : Sl) (p0_4 p0_5 p0_6 : Int) (p0_7 p0_8 : Sl) (p1 : Int) (h : Heap) (R : Value → Heap → Prop) : Prop :=
 (∀ h9 : Heap, h9 = h.push (.cells ⟨[.string p0_1, .slice p0_2.a p0_2.n p0_2.c, .slice p0_3.a p0_3.n p0_3.c, .int .i64 p0_4, .int .i64 p0_5, .int .i64 p0_6, .slice p0_7.a p0_7.n p0_7.c, .slice p0_8.a p0_8.n p0_8.c]⟩ 27) →
 (∃ I10 : Sl → Int → Heap → Nat → Prop, (∃ m11, I10 ⟨none, 0, 0⟩ 0 h9 m11) ∧
 (∀ (_ : Env) (out_13 : Sl) (i_14 : Int) (h15 : Heap) (m12 : Nat), I10 out_13 i_14 h15 m12 →
 (∃ x16 : Sl, hc h15 ⟨h.size, 6, none⟩ = some (.slice x16.a x16.n x16.c) ∧
 (sB (decide (i_14 < (x16.n : Int)))
 ((∃ x17 : Sl, hc h15 ⟨h.size, 6, none⟩ = some (.slice x17.a x17.n x17.c) ∧
 (NB x17.a fun b18 o19 => ((0 ≤ (i_14 : Int) ∧ (i_14 : Int) < (x17.n : Nat)) ∧
 (∃ x20 : Int, hc h15 ⟨b18, o19 + Int.toNat i_14 * 6, none⟩ = some (.int .i64 x20) ∧
 (sB (x20 == p1)
 ((∀ h21 : Heap, h21 = h15.push (.cells ⟨[.int .i64 i_14]⟩ 3) →
 (App Tryz.prog 42 42 (.slice out_13.a out_13.n out_13.c) (.slice (some ⟨h15.size, 0, none⟩) 1 1) h21 fun s22 h23 =>
 (∃ m24, m24 < m12 ∧ I10 s22 (IntKind.wrap .i64 (i_14 + 1)) h23 m24))))
 ((∃ m25, m25 < m12 ∧ I10 out_13 (IntKind.wrap .i64 (i_14 + 1)) h15 m25))))))))
 (R (.slice out_13.a out_13.n out_13.c) h15))))))
theorem vc23 (p0_1 : ByteArray) (p0_2 p0_3 : Sl) (p0_4 p0_5 p0_6 : Int) (p0_7 p0_8 : Sl) (p1 : Int) (h : Heap) (R : Value → Heap → Prop) (H : W23 p0_1 p0_2 p0_3 p0_4 p0_5 p0_6 p0_7 p0_8 p1 h R) : Fn Tryz.prog 23 #[.agg ⟨[.string p0_1, .slice p0_2.a p0_2.n p0_2.c, .slice p0_3.a p0_3.n p0_3.c, .int .i64 p0_4, .int .i64 p0_5, .int .i64 p0_6, .slice p0_7.a p0_7.n p0_7.c, .slice p0_8.a p0_8.n p0_8.c]⟩, .int .i64 p1] h R := fnI (A := (.s .z (.s .z (.s (.s .z (.b (.l [(5, .one (.slice)), (6, .one (.int .i64))] .z))) .z)))) (by kernel_rfl) H

/- farandole/farandoleref21.Project
 loop rrlrb: out_4:Sl, i_5:Int -/
def W24 (p0 : Sl) (p1 : Int) (h : Heap) (R : Value → Heap → Prop) : Prop :=
 (∃ I1 : Sl → Int → Heap → Nat → Prop, (∃ m2, I1 ⟨none, 0, 0⟩ 0 h m2) ∧
 (∀ (_ : Env) (out_4 : Sl) (i_5 : Int) (h6 : Heap) (m3 : Nat), I1 out_4 i_5 h6 m3 →
 (sB (decide (i_5 < (p0.n : Int)))
 ((NB p0.a fun b7 o8 => ((0 ≤ (i_5 : Int) ∧ (i_5 : Int) < (p0.n : Nat)) ∧
 (∃ (x9 x10 x11 : Int), atC h6 ⟨b7, o8 + Int.toNat i_5 * 3, none⟩ [.int .i64 x9, .int .i64 x10, .int .i64 x11] ∧
 (∀ h12 : Heap, h12 = h6.push (.cells ⟨[.int .i64 0, .int .i64 0, .int .i64 0, .int .i64 0, .int .i64 0, .bool false]⟩ 55) →
 (okAt h12 ⟨h6.size, 0, none⟩ 6 ∧ ∀ h13 : Heap, h13 = hputs h12 ⟨h6.size, 0, none⟩ 0 [.int .i64 0, .int .i64 x9, .int .i64 x10, .int .i64 x11, .int .i64 0, .bool false] →
 (∃ (x14 x15 x16 x17 x18 : Int) (x19 : Bool), atC h13 ⟨h6.size, 0, none⟩ [.int .i64 x14, .int .i64 x15, .int .i64 x16, .int .i64 x17, .int .i64 x18, .bool x19] ∧
 (Fn Tryz.prog 50 #[.agg ⟨[.int .i64 x14, .int .i64 x15, .int .i64 x16, .int .i64 x17, .int .i64 x18, .bool x19]⟩, .int .i64 p1] h13
 (fun v20 h22 => ∃ x21 : Bool, v20 = .bool x21 ∧
 (sB x21
 ((∃ (x23 x24 x25 x26 x27 : Int) (x28 : Bool), atC h22 ⟨h6.size, 0, none⟩ [.int .i64 x23, .int .i64 x24, .int .i64 x25, .int .i64 x26, .int .i64 x27, .bool x28] ∧
 (Fn Tryz.prog 51 #[.agg ⟨[.int .i64 x23, .int .i64 x24, .int .i64 x25, .int .i64 x26, .int .i64 x27, .bool x28]⟩, .int .i64 p1] h22
 (fun v29 h35 => ∃ (x30 : Int) (x31 : Bool) (x32 x33 : Int) (x34 : Sl), v29 = .agg ⟨[.int .i64 x30, .bool x31, .int .i64 x32, .int .i64 x33, .slice x34.a x34.n x34.c]⟩ ∧
 (∀ h36 : Heap, h36 = h35.push (.cells ⟨[.int .i64 x30, .bool x31, .int .i64 x32, .int .i64 x33, .slice x34.a x34.n x34.c]⟩ 60) →
 (App Tryz.prog 56 56 (.slice out_4.a out_4.n out_4.c) (.slice (some ⟨h35.size, 0, none⟩) 1 1) h36 fun s37 h38 =>
 (∃ m39, m39 < m3 ∧ I1 s37 (IntKind.wrap .i64 (i_5 + 1)) h38 m39)))))))
 ((∃ m40, m40 < m3 ∧ I1 out_4 (IntKind.wrap .i64 (i_5 + 1)) h22 m40))))))))))))
 (R (.slice out_4.a out_4.n out_4.c) h6))))
theorem vc24 (p0 : Sl) (p1 : Int) (h : Heap) (R : Value → Heap → Prop) (H : W24 p0 p1 h R) : Fn Tryz.prog 24 #[.slice p0.a p0.n p0.c, .int .i64 p1] h R := fnI (A := (.s .z (.s .z (.s (.s .z (.b (.l [(5, .one (.slice)), (6, .one (.int .i64))] .z))) .z)))) (by kernel_rfl) H

def W50 (p0_1 p0_2 p0_3 p0_4 p0_5 : Int) (p0_6 : Bool) (p1 : Int) (h : Heap) (R : Value → Heap → Prop) : Prop :=
 (∀ h7 : Heap, h7 = h.push (.cells ⟨[.int .i64 p0_1, .int .i64 p0_2, .int .i64 p0_3, .int .i64 p0_4, .int .i64 p0_5, .bool p0_6]⟩ 55) →
 (∃ x8 : Int, hc h7 ⟨h.size, 1, none⟩ = some (.int .i64 x8) ∧
 (sB (x8 == p1)
 (R (.bool true) h7)
 ((∃ x9 : Int, hc h7 ⟨h.size, 1 + 1, none⟩ = some (.int .i64 x9) ∧
 R (.bool (x9 == p1)) h7)))))
theorem vc50 (p0_1 p0_2 p0_3 p0_4 p0_5 : Int) (p0_6 : Bool) (p1 : Int) (h : Heap) (R : Value → Heap → Prop) (H : W50 p0_1 p0_2 p0_3 p0_4 p0_5 p0_6 p1 h R) : Fn Tryz.prog 50 #[.agg ⟨[.int .i64 p0_1, .int .i64 p0_2, .int .i64 p0_3, .int .i64 p0_4, .int .i64 p0_5, .bool p0_6]⟩, .int .i64 p1] h R := fnI (A := .z) (by kernel_rfl) H

def W51 (p0_1 p0_2 p0_3 p0_4 p0_5 : Int) (p0_6 : Bool) (p1 : Int) (h : Heap) (R : Value → Heap → Prop) : Prop :=
 (∀ h7 : Heap, h7 = h.push (.cells ⟨[.int .i64 p0_1, .int .i64 p0_2, .int .i64 p0_3, .int .i64 p0_4, .int .i64 p0_5, .bool p0_6]⟩ 55) →
 (∀ h8 : Heap, h8 = h7.push (.cells ⟨[.int .i64 0, .bool false, .int .i64 0, .int .i64 0, .slice none 0 0]⟩ 60) →
 (∃ x9 : Int, hc h8 ⟨h.size, 1, none⟩ = some (.int .i64 x9) ∧
 (sB (x9 == p1)
 ((∃ x10 : Int, hc h8 ⟨h.size, 1 + 1, none⟩ = some (.int .i64 x10) ∧
 (∃ x11 : Int, hc h8 ⟨h.size, 1 + 2, none⟩ = some (.int .i64 x11) ∧
 (okAt h8 ⟨h7.size, 0, none⟩ 5 ∧ ∀ h12 : Heap, h12 = hputs h8 ⟨h7.size, 0, none⟩ 0 [.int .i64 p1, .bool true, .int .i64 x10, .int .i64 x11, .slice none 0 0] →
 (∃ (x13 : Int) (x14 : Bool) (x15 x16 : Int) (x17 : Sl), atC h12 ⟨h7.size, 0, none⟩ [.int .i64 x13, .bool x14, .int .i64 x15, .int .i64 x16, .slice x17.a x17.n x17.c] ∧
 R (.agg ⟨[.int .i64 x13, .bool x14, .int .i64 x15, .int .i64 x16, .slice x17.a x17.n x17.c]⟩) h12)))))
 ((∃ x18 : Int, hc h8 ⟨h.size, 1, none⟩ = some (.int .i64 x18) ∧
 (∃ x19 : Int, hc h8 ⟨h.size, 1 + 2, none⟩ = some (.int .i64 x19) ∧
 (okAt h8 ⟨h7.size, 0, none⟩ 5 ∧ ∀ h20 : Heap, h20 = hputs h8 ⟨h7.size, 0, none⟩ 0 [.int .i64 p1, .bool false, .int .i64 x18, .int .i64 x19, .slice none 0 0] →
 (∃ (x21 : Int) (x22 : Bool) (x23 x24 : Int) (x25 : Sl), atC h20 ⟨h7.size, 0, none⟩ [.int .i64 x21, .bool x22, .int .i64 x23, .int .i64 x24, .slice x25.a x25.n x25.c] ∧
 R (.agg ⟨[.int .i64 x21, .bool x22, .int .i64 x23, .int .i64 x24, .slice x25.a x25.n x25.c]⟩) h20)))))))))
theorem vc51 (p0_1 p0_2 p0_3 p0_4 p0_5 : Int) (p0_6 : Bool) (p1 : Int) (h : Heap) (R : Value → Heap → Prop) (H : W51 p0_1 p0_2 p0_3 p0_4 p0_5 p0_6 p1 h R) : Fn Tryz.prog 51 #[.agg ⟨[.int .i64 p0_1, .int .i64 p0_2, .int .i64 p0_3, .int .i64 p0_4, .int .i64 p0_5, .bool p0_6]⟩, .int .i64 p1] h R := fnI (A := .z) (by kernel_rfl) H

end Go.VC
end
