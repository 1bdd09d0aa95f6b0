/- Texts of this claim, joined: QjVcF, QjStA, QjVcB, QjG0, QjStB. -/
import Derived.Test.YtkebghjhekoecaaGreatDoorM02
import Derived.Test.YtkebghjhekoecaaGreatDoorProg
import Derived.KernelRfl
import Derived.Test.YtkebghjhekoecaaGreatDoorM11
import Derived.Test.YtkebghjhekoecaaGreatDoorM08
import Derived.Test.YtkebghjhekoecaaGreatDoorM05
import Derived.Test.YtkebghjhekoecaaGreatDoorM10
set_option linter.unusedVariables false
set_option linter.unusedSimpArgs false

section
namespace Go.VC
open Go.Proofs
set_option maxRecDepth 100000
set_option linter.unusedVariables false

/- slices.Compact[[]farandole/view.event,farandole/view.event]
 loop rrlrborlbrtrlrb: k_19:Int, x_20:Int
 loop rrlrb: k_4:Int -/
def W177 (p0 : Sl) (h : Heap) (R : Value → Heap → Prop) : Prop :=
 (sB (decide ((p0.n : Int) < 2))
 (R (.slice p0.a p0.n p0.c) h)
 ((∃ I1 : Int → Heap → Nat → Prop, (∃ m2, I1 1 h m2) ∧
 (∀ (_ : Env) (k_4 : Int) (h5 : Heap) (m3 : Nat), I1 k_4 h5 m3 →
 (sB (decide (k_4 < (p0.n : Int)))
 ((NB p0.a fun b6 o7 => ((0 ≤ (k_4 : Int) ∧ (k_4 : Int) < (p0.n : Nat)) ∧
 (∃ (x8 : Bool) (x9 x10 : Int), atC h5 ⟨b6, o7 + Int.toNat k_4 * 3, none⟩ [.bool x8, .int .i64 x9, .int .i64 x10] ∧
 (NB p0.a fun b11 o12 => ((0 ≤ ((IntKind.wrap .i64 (k_4 - 1)) : Int) ∧ ((IntKind.wrap .i64 (k_4 - 1)) : Int) < (p0.n : Nat)) ∧
 (∃ (x13 : Bool) (x14 x15 : Int), atC h5 ⟨b11, o12 + Int.toNat (IntKind.wrap .i64 (k_4 - 1)) * 3, none⟩ [.bool x13, .int .i64 x14, .int .i64 x15] ∧
 (sB ((x8 == x13) && ((x9 == x14) && ((x10 == x15) && true)))
 ((((0 : Int) ≤ (k_4 : Int) ∧ (k_4 : Int) ≤ ((p0.n : Nat) : Int) ∧ ((p0.n : Nat) : Int) ≤ (p0.c : Nat)) ∧
 (∃ I16 : Int → Int → Heap → Nat → Prop, (∃ m17, I16 k_4 1 h5 m17) ∧
 (∀ (_ : Env) (k_19 x_20 : Int) (h21 : Heap) (m18 : Nat), I16 k_19 x_20 h21 m18 →
 (sB (decide (x_20 < (((Int.toNat (p0.n : Nat) - Int.toNat k_4) : Nat) : Int)))
 ((NB (subA p0.a (Int.toNat k_4) p0.c 3) fun b22 o23 => ((0 ≤ (x_20 : Int) ∧ (x_20 : Int) < ((Int.toNat (p0.n : Nat) - Int.toNat k_4) : Nat)) ∧
 (∃ (x24 : Bool) (x25 x26 : Int), atC h21 ⟨b22, o23 + Int.toNat x_20 * 3, none⟩ [.bool x24, .int .i64 x25, .int .i64 x26] ∧
 (NB (subA p0.a (Int.toNat k_4) p0.c 3) fun b27 o28 => ((0 ≤ ((IntKind.wrap .i64 (x_20 - 1)) : Int) ∧ ((IntKind.wrap .i64 (x_20 - 1)) : Int) < ((Int.toNat (p0.n : Nat) - Int.toNat k_4) : Nat)) ∧
 (∃ (x29 : Bool) (x30 x31 : Int), atC h21 ⟨b27, o28 + Int.toNat (IntKind.wrap .i64 (x_20 - 1)) * 3, none⟩ [.bool x29, .int .i64 x30, .int .i64 x31] ∧
 (sB (!((x24 == x29) && ((x25 == x30) && ((x26 == x31) && true))))
 ((NB (subA p0.a (Int.toNat k_4) p0.c 3) fun b32 o33 => ((0 ≤ (x_20 : Int) ∧ (x_20 : Int) < ((Int.toNat (p0.n : Nat) - Int.toNat k_4) : Nat)) ∧
 (∃ (x34 : Bool) (x35 x36 : Int), atC h21 ⟨b32, o33 + Int.toNat x_20 * 3, none⟩ [.bool x34, .int .i64 x35, .int .i64 x36] ∧
 (NB p0.a fun b37 o38 => ((0 ≤ (k_19 : Int) ∧ (k_19 : Int) < (p0.n : Nat)) ∧
 (okAt h21 ⟨b37, o38 + Int.toNat k_19 * 3, none⟩ 3 ∧ ∀ h39 : Heap, h39 = hputs h21 ⟨b37, o38 + Int.toNat k_19 * 3, none⟩ 0 [.bool x34, .int .i64 x35, .int .i64 x36] →
 (∃ m40, m40 < m18 ∧ I16 (IntKind.wrap .i64 (k_19 + 1)) (IntKind.wrap .i64 (x_20 + 1)) h39 m40))))))))
 ((∃ m41, m41 < m18 ∧ I16 k_19 (IntKind.wrap .i64 (x_20 + 1)) h21 m41))))))))))
 ((((0 : Int) ≤ (k_19 : Int) ∧ (k_19 : Int) ≤ ((p0.n : Nat) : Int) ∧ ((p0.n : Nat) : Int) ≤ (p0.c : Nat)) ∧
 (RunW Tryz.prog (Builtin.clear_ #[176] 0 #[.slice (subA p0.a (Int.toNat k_19) p0.c 3) (Int.toNat (p0.n : Nat) - Int.toNat k_19) (p0.c - Int.toNat k_19)]) h21 (fun v43 h42 =>
 (((0 : Int) ≤ (0 : Int) ∧ (0 : Int) ≤ (k_19 : Int) ∧ (k_19 : Int) ≤ (p0.c : Nat)) ∧
 R (.slice (subA p0.a (Int.toNat 0) p0.c 3) (Int.toNat k_19 - Int.toNat 0) (p0.c - Int.toNat 0)) h42))))))))))
 ((∃ m44, m44 < m3 ∧ I1 (IntKind.wrap .i64 (k_4 + 1)) h5 m44))))))))))
 (R (.slice p0.a p0.n p0.c) h5))))))
theorem vc177 (p0 : Sl) (h : Heap) (R : Value → Heap → Prop) (H : W177 p0 h R) : Fn Tryz.prog 177 #[.slice p0.a p0.n p0.c] h R := fnI (A := (.s .z (.s .z (.s (.s .z (.b (.l [(3, .one (.int .i64))] (.s .z (.s (.b (.s .z (.c (.s .z (.s (.s .z (.b (.l [(3, .one (.int .i64)), (5, .one (.int .i64))] .z))) .z)) .z))) .z))))) .z)))) (by kernel_rfl) H

/- (*farandole/project.states).view
 loop rrrlrborrlbrlrrtrrb: x_64:Int
 join rrrlrborrlbr:
 loop rrrlrb: known_6:Bool, x_7:Int -/
def W72 (p0 : Addr) (p1 : Sl) (h : Heap) (R : Value → Heap → Prop) : Prop :=
 (∀ h1 : Heap, h1 = h.push (.cells ⟨[.bool false, .int .i64 0, .bool false, .int .i64 0, .int .i64 0]⟩ 119) →
 (∀ h2 : Heap, h2 = h1.push (.cells ⟨[.bool false, .int .i64 0, .bool false, .int .i64 0, .int .i64 0]⟩ 119) →
 (∃ I3 : Bool → Int → Heap → Nat → Prop, (∃ m4, I3 false 0 h2 m4) ∧
 (∀ (_ : Env) (known_6 : Bool) (x_7 : Int) (h8 : Heap) (m5 : Nat), I3 known_6 x_7 h8 m5 →
 (sB (decide (x_7 < (p1.n : Int)))
 ((NB p1.a fun b9 o10 => ((0 ≤ (x_7 : Int) ∧ (x_7 : Int) < (p1.n : Nat)) ∧
 (∃ x11 : Int, hc h8 ⟨b9, o10 + Int.toNat x_7 * 1, none⟩ = some (.int .i64 x11) ∧
 (∃ J12 : Heap → Prop,
 ((∃ x13 : Sl, hc h8 p0 = some (.slice x13.a x13.n x13.c) ∧
 (NB x13.a fun b14 o15 => ((0 ≤ (x11 : Int) ∧ (x11 : Int) < (x13.n : Nat)) ∧
 (∃ x16 : Sl, hc h8 ⟨b14, o15 + Int.toNat x11 * 1, none⟩ = some (.slice x16.a x16.n x16.c) ∧
 (sB (decide ((x16.n : Int) > 0))
 ((∃ x17 : Sl, hc h8 p0 = some (.slice x17.a x17.n x17.c) ∧
 (NB x17.a fun b18 o19 => ((0 ≤ (x11 : Int) ∧ (x11 : Int) < (x17.n : Nat)) ∧
 (∃ x20 : Sl, hc h8 ⟨b18, o19 + Int.toNat x11 * 1, none⟩ = some (.slice x20.a x20.n x20.c) ∧
 (NB x20.a fun b21 o22 => ((0 ≤ (0 : Int) ∧ (0 : Int) < (x20.n : Nat)) ∧
 (∃ x23 : Bool, hc h8 ⟨b21, o22 + Int.toNat 0 * 3, none⟩ = some (.bool x23) ∧
 (sB x23
 ((∃ x24 : Sl, hc h8 ⟨p0.block, p0.off + 1, none⟩ = some (.slice x24.a x24.n x24.c) ∧
 (NB x24.a fun b25 o26 => ((0 ≤ (x11 : Int) ∧ (x11 : Int) < (x24.n : Nat)) ∧
 (∃ x27 : Bool, hc h8 ⟨b25, o26 + Int.toNat x11 * 1, none⟩ = some (.bool x27) ∧
 (sB x27
 ((∃ (x28 : Bool) (x29 : Int) (x30 : Bool) (x31 x32 : Int), atC h8 ⟨h1.size, 0, none⟩ [.bool x28, .int .i64 x29, .bool x30, .int .i64 x31, .int .i64 x32] ∧
 (okAt h8 ⟨h.size, 0, none⟩ 5 ∧ ∀ h33 : Heap, h33 = hputs h8 ⟨h.size, 0, none⟩ 0 [.bool x28, .int .i64 x29, .bool x30, .int .i64 x31, .int .i64 x32] →
 (∃ (x34 : Bool) (x35 : Int) (x36 : Bool) (x37 x38 : Int), atC h33 ⟨h.size, 0, none⟩ [.bool x34, .int .i64 x35, .bool x36, .int .i64 x37, .int .i64 x38] ∧
 R (.tuple ⟨[.agg ⟨[.bool x34, .int .i64 x35, .bool x36, .int .i64 x37, .int .i64 x38]⟩, .bool false]⟩) h33))))
 ((∃ x39 : Sl, hc h8 p0 = some (.slice x39.a x39.n x39.c) ∧
 (NB x39.a fun b40 o41 => ((0 ≤ (x11 : Int) ∧ (x11 : Int) < (x39.n : Nat)) ∧
 (∃ x42 : Sl, hc h8 ⟨b40, o41 + Int.toNat x11 * 1, none⟩ = some (.slice x42.a x42.n x42.c) ∧
 (∃ x43 : Sl, hc h8 p0 = some (.slice x43.a x43.n x43.c) ∧
 (NB x43.a fun b44 o45 => ((0 ≤ (x11 : Int) ∧ (x11 : Int) < (x43.n : Nat)) ∧
 (∃ x46 : Sl, hc h8 ⟨b44, o45 + Int.toNat x11 * 1, none⟩ = some (.slice x46.a x46.n x46.c) ∧
 (NB x42.a fun b47 o48 => ((0 ≤ ((IntKind.wrap .i64 ((x46.n : Int) - 1)) : Int) ∧ ((IntKind.wrap .i64 ((x46.n : Int) - 1)) : Int) < (x42.n : Nat)) ∧
 (∃ x49 : Bool, hc h8 ⟨b47, o48 + Int.toNat (IntKind.wrap .i64 ((x46.n : Int) - 1)) * 3, none⟩ = some (.bool x49) ∧
 (sB (!x49)
 ((∃ (x50 : Bool) (x51 : Int) (x52 : Bool) (x53 x54 : Int), atC h8 ⟨h1.size, 0, none⟩ [.bool x50, .int .i64 x51, .bool x52, .int .i64 x53, .int .i64 x54] ∧
 (okAt h8 ⟨h.size, 0, none⟩ 5 ∧ ∀ h55 : Heap, h55 = hputs h8 ⟨h.size, 0, none⟩ 0 [.bool x50, .int .i64 x51, .bool x52, .int .i64 x53, .int .i64 x54] →
 (∃ (x56 : Bool) (x57 : Int) (x58 : Bool) (x59 x60 : Int), atC h55 ⟨h.size, 0, none⟩ [.bool x56, .int .i64 x57, .bool x58, .int .i64 x59, .int .i64 x60] ∧
 R (.tuple ⟨[.agg ⟨[.bool x56, .int .i64 x57, .bool x58, .int .i64 x59, .int .i64 x60]⟩, .bool false]⟩) h55))))
 ((∃ I61 : Int → Heap → Nat → Prop, (∃ m62, I61 0 h8 m62) ∧
 (∀ (_ : Env) (x_64 : Int) (h65 : Heap) (m63 : Nat), I61 x_64 h65 m63 →
 (sB (decide (x_64 < (p1.n : Int)))
 ((NB p1.a fun b66 o67 => ((0 ≤ (x_64 : Int) ∧ (x_64 : Int) < (p1.n : Nat)) ∧
 (∃ x68 : Int, hc h65 ⟨b66, o67 + Int.toNat x_64 * 1, none⟩ = some (.int .i64 x68) ∧
 (∃ x69 : Sl, hc h65 ⟨p0.block, p0.off + 1, none⟩ = some (.slice x69.a x69.n x69.c) ∧
 (NB x69.a fun b70 o71 => ((0 ≤ (x68 : Int) ∧ (x68 : Int) < (x69.n : Nat)) ∧
 (∃ x72 : Bool, hc h65 ⟨b70, o71 + Int.toNat x68 * 1, none⟩ = some (.bool x72) ∧
 (sB x72
 ((∃ (x73 : Bool) (x74 : Int) (x75 : Bool) (x76 x77 : Int), atC h65 ⟨h1.size, 0, none⟩ [.bool x73, .int .i64 x74, .bool x75, .int .i64 x76, .int .i64 x77] ∧
 (okAt h65 ⟨h.size, 0, none⟩ 5 ∧ ∀ h78 : Heap, h78 = hputs h65 ⟨h.size, 0, none⟩ 0 [.bool x73, .int .i64 x74, .bool x75, .int .i64 x76, .int .i64 x77] →
 (∃ (x79 : Bool) (x80 : Int) (x81 : Bool) (x82 x83 : Int), atC h78 ⟨h.size, 0, none⟩ [.bool x79, .int .i64 x80, .bool x81, .int .i64 x82, .int .i64 x83] ∧
 R (.tuple ⟨[.agg ⟨[.bool x79, .int .i64 x80, .bool x81, .int .i64 x82, .int .i64 x83]⟩, .bool false]⟩) h78))))
 ((∃ x84 : Sl, hc h65 p0 = some (.slice x84.a x84.n x84.c) ∧
 (NB x84.a fun b85 o86 => ((0 ≤ (x11 : Int) ∧ (x11 : Int) < (x84.n : Nat)) ∧
 (∃ x87 : Sl, hc h65 ⟨b85, o86 + Int.toNat x11 * 1, none⟩ = some (.slice x87.a x87.n x87.c) ∧
 (∃ x88 : Sl, hc h65 p0 = some (.slice x88.a x88.n x88.c) ∧
 (NB x88.a fun b89 o90 => ((0 ≤ (x68 : Int) ∧ (x68 : Int) < (x88.n : Nat)) ∧
 (∃ x91 : Sl, hc h65 ⟨b89, o90 + Int.toNat x68 * 1, none⟩ = some (.slice x91.a x91.n x91.c) ∧
 (Fn Tryz.prog 133 #[.slice x87.a x87.n x87.c, .slice x91.a x91.n x91.c] h65
 (fun v92 h94 => ∃ x93 : Bool, v92 = .bool x93 ∧
 (Sm [⟨b70, o71 + Int.toNat x68 * 1, none⟩, ⟨p0.block, p0.off + 1, none⟩] h65 h94 ∧
 (sB (!x93)
 ((∃ (x95 : Bool) (x96 : Int) (x97 : Bool) (x98 x99 : Int), atC h94 ⟨h1.size, 0, none⟩ [.bool x95, .int .i64 x96, .bool x97, .int .i64 x98, .int .i64 x99] ∧
 (okAt h94 ⟨h.size, 0, none⟩ 5 ∧ ∀ h100 : Heap, h100 = hputs h94 ⟨h.size, 0, none⟩ 0 [.bool x95, .int .i64 x96, .bool x97, .int .i64 x98, .int .i64 x99] →
 (∃ (x101 : Bool) (x102 : Int) (x103 : Bool) (x104 x105 : Int), atC h100 ⟨h.size, 0, none⟩ [.bool x101, .int .i64 x102, .bool x103, .int .i64 x104, .int .i64 x105] ∧
 R (.tuple ⟨[.agg ⟨[.bool x101, .int .i64 x102, .bool x103, .int .i64 x104, .int .i64 x105]⟩, .bool false]⟩) h100))))
 ((∃ m106, m106 < m63 ∧ I61 (IntKind.wrap .i64 (x_64 + 1)) h94 m106))))))))))))))))))))))))
 ((J12 h65)))))))))))))))))))))))))
 ((J12 h8)))))))))))
 ((J12 h8)))))))) ∧
 (∀ (_ : Env) (h107 : Heap), J12 h107 →
 (∃ x108 : Sl, hc h107 ⟨p0.block, p0.off + 2, none⟩ = some (.slice x108.a x108.n x108.c) ∧
 (NB x108.a fun b109 o110 => ((0 ≤ (x11 : Int) ∧ (x11 : Int) < (x108.n : Nat)) ∧
 (∃ x111 : Bool, hc h107 ⟨b109, o110 + Int.toNat x11 * 1, none⟩ = some (.bool x111) ∧
 (sB (!x111)
 ((∃ m112, m112 < m5 ∧ I3 known_6 (IntKind.wrap .i64 (x_7 + 1)) h107 m112))
 ((sB known_6
 ((∃ x113 : Sl, hc h107 ⟨p0.block, p0.off + 3, none⟩ = some (.slice x113.a x113.n x113.c) ∧
 (NB x113.a fun b114 o115 => ((0 ≤ (x11 : Int) ∧ (x11 : Int) < (x113.n : Nat)) ∧
 (∃ (x116 : Bool) (x117 : Int) (x118 : Bool) (x119 x120 : Int), atC h107 ⟨b114, o115 + Int.toNat x11 * 5, none⟩ [.bool x116, .int .i64 x117, .bool x118, .int .i64 x119, .int .i64 x120] ∧
 (∃ (x121 : Bool) (x122 : Int) (x123 : Bool) (x124 x125 : Int), atC h107 ⟨h1.size, 0, none⟩ [.bool x121, .int .i64 x122, .bool x123, .int .i64 x124, .int .i64 x125] ∧
 (sB (!((x116 == x121) && ((x117 == x122) && (((x118 == x123) && ((x119 == x124) && ((x120 == x125) && true))) && true))))
 ((∃ (x126 : Bool) (x127 : Int) (x128 : Bool) (x129 x130 : Int), atC h107 ⟨h1.size, 0, none⟩ [.bool x126, .int .i64 x127, .bool x128, .int .i64 x129, .int .i64 x130] ∧
 (okAt h107 ⟨h.size, 0, none⟩ 5 ∧ ∀ h131 : Heap, h131 = hputs h107 ⟨h.size, 0, none⟩ 0 [.bool x126, .int .i64 x127, .bool x128, .int .i64 x129, .int .i64 x130] →
 (∃ (x132 : Bool) (x133 : Int) (x134 : Bool) (x135 x136 : Int), atC h131 ⟨h.size, 0, none⟩ [.bool x132, .int .i64 x133, .bool x134, .int .i64 x135, .int .i64 x136] ∧
 R (.tuple ⟨[.agg ⟨[.bool x132, .int .i64 x133, .bool x134, .int .i64 x135, .int .i64 x136]⟩, .bool false]⟩) h131))))
 ((∃ x137 : Sl, hc h107 ⟨p0.block, p0.off + 3, none⟩ = some (.slice x137.a x137.n x137.c) ∧
 (NB x137.a fun b138 o139 => ((0 ≤ (x11 : Int) ∧ (x11 : Int) < (x137.n : Nat)) ∧
 (∃ (x140 : Bool) (x141 : Int) (x142 : Bool) (x143 x144 : Int), atC h107 ⟨b138, o139 + Int.toNat x11 * 5, none⟩ [.bool x140, .int .i64 x141, .bool x142, .int .i64 x143, .int .i64 x144] ∧
 (okAt h107 ⟨h1.size, 0, none⟩ 5 ∧ ∀ h145 : Heap, h145 = hputs h107 ⟨h1.size, 0, none⟩ 0 [.bool x140, .int .i64 x141, .bool x142, .int .i64 x143, .int .i64 x144] →
 (∃ m146, m146 < m5 ∧ I3 true (IntKind.wrap .i64 (x_7 + 1)) h145 m146))))))))))))))
 ((∃ x147 : Sl, hc h107 ⟨p0.block, p0.off + 3, none⟩ = some (.slice x147.a x147.n x147.c) ∧
 (NB x147.a fun b148 o149 => ((0 ≤ (x11 : Int) ∧ (x11 : Int) < (x147.n : Nat)) ∧
 (∃ (x150 : Bool) (x151 : Int) (x152 : Bool) (x153 x154 : Int), atC h107 ⟨b148, o149 + Int.toNat x11 * 5, none⟩ [.bool x150, .int .i64 x151, .bool x152, .int .i64 x153, .int .i64 x154] ∧
 (okAt h107 ⟨h1.size, 0, none⟩ 5 ∧ ∀ h155 : Heap, h155 = hputs h107 ⟨h1.size, 0, none⟩ 0 [.bool x150, .int .i64 x151, .bool x152, .int .i64 x153, .int .i64 x154] →
 (∃ m156, m156 < m5 ∧ I3 true (IntKind.wrap .i64 (x_7 + 1)) h155 m156))))))))))))))))))))
 ((∃ (x157 : Bool) (x158 : Int) (x159 : Bool) (x160 x161 : Int), atC h8 ⟨h1.size, 0, none⟩ [.bool x157, .int .i64 x158, .bool x159, .int .i64 x160, .int .i64 x161] ∧
 (okAt h8 ⟨h.size, 0, none⟩ 5 ∧ ∀ h162 : Heap, h162 = hputs h8 ⟨h.size, 0, none⟩ 0 [.bool x157, .int .i64 x158, .bool x159, .int .i64 x160, .int .i64 x161] →
 (∃ (x163 : Bool) (x164 : Int) (x165 : Bool) (x166 x167 : Int), atC h162 ⟨h.size, 0, none⟩ [.bool x163, .int .i64 x164, .bool x165, .int .i64 x166, .int .i64 x167] ∧
 R (.tuple ⟨[.agg ⟨[.bool x163, .int .i64 x164, .bool x165, .int .i64 x166, .int .i64 x167]⟩, .bool true]⟩) h162)))))))))
theorem vc72 (p0 : Addr) (p1 : Sl) (h : Heap) (R : Value → Heap → Prop) (H : W72 p0 p1 h R) : Fn Tryz.prog 72 #[.pointer (some p0), .slice p1.a p1.n p1.c] h R := fnI (A := (.s .z (.s .z (.s .z (.s (.s .z (.b (.l [(7, .one (.bool)), (15, .one (.int .i64))] (.s .z (.s .z (.s (.b (.s .z (.j [] (.s .z (.s .z (.c (.s .z (.s .z (.b (.l [(73, .one (.int .i64))] .z)))) .z))) .z))) .z)))))) .z))))) (by kernel_rfl) H

end Go.VC
end

section
/- Contract: slices.Compact at events. -/
namespace Go.VC
open Go.Proofs Go.LexS
set_option maxRecDepth 100000

theorem compactL_ne {l : List Ev} (h : l ≠ []) : compactL l ≠ [] := by
  cases l with
  | nil => exact absurd rfl h
  | cons a r =>
    intro e
    have := (compactL_mem (a :: r) a).2 (by simp)
    rw [e] at this; cases this
theorem compactL_snoc : ∀ (l : List Ev) (x : Ev), compactL (l ++ [x]) = if l.getLast? = some x then compactL l else compactL l ++ [x]
  | [], x => by simp [compactL]
  | a :: r, x => by
    have ih := compactL_snoc r x
    cases r with
    | nil =>
      by_cases h : a = x
      · subst h; simp [compactL]
      · simp [compactL, h]
    | cons b r' =>
      have hne := compactL_ne (l := b :: r') (by simp)
      have hl : (a :: b :: r').getLast? = (b :: r').getLast? := by simp [List.getLast?_cons_cons]
      rw [List.cons_append, compactL, ih, hl]
      by_cases h : (b :: r').getLast? = some x
      · rw [if_pos h, if_pos h]
        conv => rhs; rw [compactL]
      · rw [if_neg h, if_neg h]
        conv => rhs; rw [compactL]
        cases hc : compactL (b :: r') with
        | nil => exact absurd hc hne
        | cons y t =>
          simp only [List.cons_append]
          split <;> rfl
theorem compactL_step {l : List Ev} {k : Nat} {x y : Ev} (hx : l[k]? = some x) (hk : 1 ≤ k) (hy : l[k - 1]? = some y) : compactL (l.take (k + 1)) = if x = y then compactL (l.take k) else compactL (l.take k) ++ [x] := by
  rw [take_snoc hx, compactL_snoc]
  have hl : (l.take k).getLast? = some y := by
    have hkl := (List.getElem?_eq_some_iff.1 hx).1
    rw [List.getLast?_eq_getElem?, List.length_take, Nat.min_eq_left (by omega), List.getElem?_take, if_pos (by omega)]
    exact hy
  rw [hl]
  by_cases e : x = y
  · rw [if_pos e, if_pos (by rw [e])]
  · rw [if_neg e, if_neg (fun h => e (by cases h; rfl))]
theorem evEq (x y : Ev) : ((x.send == y.send) && ((x.peer == y.peer) && ((x.label == y.label) && true))) = decide (x = y) := by
  obtain ⟨a, b, c⟩ := x
  obtain ⟨d, e, f⟩ := y
  rw [Bool.eq_iff_iff]
  simp
theorem und151 : Tryz.prog.underlying 176 = some (.slice 179) := by kernel_rfl
theorem zero116 (w : World) : (zeroValue 179).run Tryz.prog w = .ok (.agg #[.bool false, .int .i64 0, .int .i64 0]) w := by
  have hi : (Tryz.prog.info? 179).bind (·.zero) = some (.agg #[.bool false, .int .i64 0, .int .i64 0]) := by kernel_rfl
  cases h : Tryz.prog.info? 179 with
  | none => rw [h] at hi; cases hi
  | some i => rw [h] at hi; simp only [Option.bind_some] at hi; simp [zeroValue, typeInfo, h, hi]
theorem compact139 {h0 h : Heap} {L : List It} (hs : St h0 h L) (k : Nat) {s : Sl} {l : List Ev} (hk : L[k]? = some (.sl s 179 3 (l.map Ev.cs))) (hm : l.length ≤ 1048576) :
    Fn Tryz.prog 177 #[.slice s.a s.n s.c] h fun v h' => ∃ r : Sl, v = .slice r.a r.n r.c ∧ St h0 h' (L.set k (.sl r 179 3 ((compactL l).map Ev.cs))) := by
  apply vc177 s; unfold W177
  have hlen := hs.len k hk (by omega)
  have hn : s.n = l.length := by rw [hlen.1, List.length_map]
  have hkl : k < L.length := (List.getElem?_eq_some_iff.1 hk).1
  have hset : L.set k (.sl s 179 3 (l.map Ev.cs)) = L := by
    obtain ⟨a, b⟩ := List.getElem?_eq_some_iff.1 hk
    rw [← b]; exact List.set_getElem_self a
  have hself : compactL l = l → (∃ r : Sl, Value.slice s.a s.n s.c = .slice r.a r.n r.c ∧ St h0 h (L.set k (.sl r 179 3 ((compactL l).map Ev.cs)))) := fun e => ⟨s, rfl, by rw [e, hset]; exact hs⟩
  refine sB_intro (fun c => ?_) (fun c => ?_)
  · have : l.length < 2 := by have := of_decide_eq_true c; omega
    refine hself ?_
    match l, this with
    | [], _ => rfl
    | [a], _ => rfl
  · have h2 : 2 ≤ l.length := by have := of_decide_eq_false c; omega
    refine ⟨fun x h' m => ∃ i : Nat, x = i ∧ 1 ≤ i ∧ i ≤ l.length ∧ m = l.length - i ∧ h' = h ∧ compactL (l.take i) = l.take i, ⟨_, 1, rfl, by omega, by omega, rfl, rfl, ?_⟩, ?_⟩
    · match l, h2 with
      | a :: r, _ => rfl
    rintro - x h5 m ⟨i, rfl, hi1, hin, rfl, rfl, hcc⟩
    refine sB_intro (fun l2 => ?_) (fun l2 => ?_)
    · replace l2 := lt_t l2
      have hrw := hs.rows k hk (by omega)
      refine hrw.nbI (by omega) (by omega) fun b o x1 g t => ?_
      replace g : l[i]? = some x1 := g
      refine ⟨_, _, _, t, ?_⟩
      have hw1 : IntKind.wrap .i64 ((i : Int) - 1) = ((i - 1 : Nat) : Int) := by rw [w64 (by omega) (by omega)]; omega
      rw [hw1]
      refine hrw.nbI (x := ((i - 1 : Nat) : Int)) (by omega) (by omega) fun b' o' y1 g' t' => ?_
      replace g' : l[i - 1]? = some y1 := g'
      refine ⟨_, _, _, t', ?_⟩
      rw [evEq]
      have hstep := compactL_step g hi1 g'
      refine sB_intro (fun e => ?_) (fun e => ?_)
      · replace e := of_decide_eq_true e
        rw [if_pos e, hcc] at hstep
        have hcap := hlen.2.1
        refine ⟨⟨by omega, by omega, by omega⟩, ?_⟩
        refine ⟨fun kk x h' m => ∃ (q j : Nat) (cl : List Ev), kk = q ∧ x = j ∧ 1 ≤ j ∧ i + j ≤ l.length ∧ q ≤ i + j - 1 ∧ m = l.length - j ∧ cl.length = l.length ∧ cl.take q = compactL (l.take (i + j)) ∧ (∀ a, i + j - 1 ≤ a → cl[a]? = l[a]?) ∧ St h0 h' (L.set k (.sl s 179 3 (cl.map Ev.cs))),
          ⟨_, i, 1, l, rfl, rfl, by omega, by omega, by omega, rfl, rfl, hstep.symm, fun _ _ => rfl, by rw [hset]; exact hs⟩, ?_⟩
        rintro - kk x h21 m' ⟨q, j, cl, rfl, rfl, hj1, hjn, hq, rfl, hcl, hct, hun, hs⟩
        have hkI : (L.set k (.sl s 179 3 (cl.map Ev.cs)))[k]? = some (.sl s 179 3 (cl.map Ev.cs)) := by rw [List.getElem?_set_self hkl]
        have hfrom := (hs.rows k hkI (by omega)).from (i := i) (by omega) (by omega)
        rw [← List.map_drop] at hfrom
        have hti : Int.toNat ((s.n : Nat) : Int) - Int.toNat ((i : Nat) : Int) = s.n - i := by simp
        have htI : Int.toNat ((i : Nat) : Int) = i := by simp
        refine sB_intro (fun c2 => ?_) (fun c2 => ?_)
        · have hjl : i + j < l.length := by have := of_decide_eq_true c2; rw [hti] at this; omega
          rw [hti, htI]
          refine hfrom.nbI (x := (j : Int)) (by omega) (by show (j : Int) < ((s.n - i : Nat) : Int); omega) fun b2 o2 x2 g2 t2 => ?_
          replace g2 : (cl.drop i)[j]? = some x2 := g2
          rw [List.getElem?_drop, hun _ (by omega)] at g2
          refine ⟨_, _, _, t2, ?_⟩
          have hw2 : IntKind.wrap .i64 ((j : Int) - 1) = ((j - 1 : Nat) : Int) := by rw [w64 (by omega) (by omega)]; omega
          rw [hw2]
          refine hfrom.nbI (x := ((j - 1 : Nat) : Int)) (by omega) (by show ((j - 1 : Nat) : Int) < ((s.n - i : Nat) : Int); omega) fun b3 o3 y2 g3 t3 => ?_
          replace g3 : (cl.drop i)[j - 1]? = some y2 := g3
          rw [List.getElem?_drop, show i + (j - 1) = i + j - 1 by omega, hun _ (by omega)] at g3
          refine ⟨_, _, _, t3, ?_⟩
          rw [evEq]
          have hst2 := compactL_step g2 (by omega) g3
          have hwj : IntKind.wrap .i64 ((j : Int) + 1) = ((j + 1 : Nat) : Int) := by rw [w64 (by omega) (by omega)]; omega
          have hwq : IntKind.wrap .i64 ((q : Int) + 1) = ((q + 1 : Nat) : Int) := by rw [w64 (by omega) (by omega)]; omega
          refine sB_intro (fun e2 => ?_) (fun e2 => ?_)
          · have hne : x2 ≠ y2 := by simpa using e2
            rw [if_neg hne] at hst2
            refine hfrom.nbI (x := (j : Int)) (by omega) (by show (j : Int) < ((s.n - i : Nat) : Int); omega) fun b4 o4 x3 g4 t4 => ?_
            replace g4 : (cl.drop i)[j]? = some x3 := g4
            rw [List.getElem?_drop, hun _ (by omega)] at g4
            rw [g2] at g4
            cases g4
            refine ⟨_, _, _, t4, ?_⟩
            refine hs.set k hkI (by omega) (x := (q : Int)) (by omega) (by omega) x2 rfl rfl (fun b5 o5 h39 hs => ?_) rfl
            rw [List.set_set] at hs
            refine ⟨l.length - (j + 1), by omega, q + 1, j + 1, cl.set q x2, hwq, hwj, by omega, by omega, by omega, rfl, by rw [List.length_set]; exact hcl, ?_, ?_, hs⟩
            · rw [show i + (j + 1) = i + j + 1 by omega, hst2, ← hct, take_snoc (x := x2) (by rw [List.getElem?_set_self (by omega)]), List.take_set_of_le (Nat.le_refl _)]
            · intro a ha
              rw [List.getElem?_set_ne (by omega)]
              exact hun a (by omega)
          · have heq : x2 = y2 := by simpa using e2
            rw [if_pos heq] at hst2
            refine ⟨l.length - (j + 1), by omega, q, j + 1, cl, rfl, hwj, by omega, by omega, by omega, rfl, hcl, ?_, fun a ha => hun a (by omega), hs⟩
            rw [show i + (j + 1) = i + j + 1 by omega, hst2]; exact hct
        · have hjl : i + j = l.length := by have := of_decide_eq_false c2; rw [hti] at this; omega
          refine ⟨⟨by omega, by omega, by omega⟩, ?_⟩
          have htq : Int.toNat ((q : Nat) : Int) = q := by simp
          have htn : Int.toNat ((s.n : Nat) : Int) = s.n := by simp
          rw [htq, htn]
          refine hs.clear k hkI (by omega) q (by omega) und151 zero116 rfl rfl fun v h42 hs => ?_
          refine ⟨⟨by omega, by omega, by omega⟩, ⟨s.a, q, s.c⟩, ?_, ?_⟩
          · rw [show Int.toNat 0 = 0 from rfl, subA_zero]; rfl
          · rw [List.set_set, ← List.map_take, hct, hjl, List.take_length] at hs
            exact hs
      · replace e := of_decide_eq_false e
        rw [if_neg e, hcc] at hstep
        refine ⟨l.length - (i + 1), by omega, i + 1, by rw [w64 (by omega) (by omega)]; omega, by omega, by omega, rfl, rfl, ?_⟩
        rw [hstep, take_snoc g]
    · replace l2 := lt_f l2
      rw [List.take_of_length_le (by omega)] at hcc
      exact hself hcc
end Go.VC
end

section
namespace Go.VC
open Go.Proofs
set_option maxRecDepth 100000
set_option linter.unusedVariables false

/- farandole/global.named
 loop rrlrb: x_20:Int -/
def W116 (p0_1 : ByteArray) (p0_2 p0_3 : Sl) (p0_4 p0_5 p0_6 : Int) (p0_7 p0_8 : Sl) (h : Heap) (R : Value → Heap → Prop) : Prop :=
 (∀ h9 : Heap, h9 = h.push (.cells ⟨[.string p0_1, .slice p0_2.a p0_2.n p0_2.c, .slice p0_3.a p0_3.n p0_3.c, .int .i64 p0_4, .int .i64 p0_5, .int .i64 p0_6, .slice p0_7.a p0_7.n p0_7.c, .slice p0_8.a p0_8.n p0_8.c]⟩ 59) →
 (∃ x10 : ByteArray, hc h9 ⟨h.size, 0, none⟩ = some (.string x10) ∧
 (Fn Tryz.prog 167 #[.string x10] h9
 (fun v11 h13 => ∃ x12 : Bool, v11 = .bool x12 ∧
 (sB (!x12)
 (R (.bool false) h13)
 ((∃ x14 : Sl, hc h13 ⟨h.size, 1, none⟩ = some (.slice x14.a x14.n x14.c) ∧
 (sB (decide ((x14.n : Int) < 1))
 (R (.bool false) h13)
 ((∃ x15 : Sl, hc h13 ⟨h.size, 1, none⟩ = some (.slice x15.a x15.n x15.c) ∧
 (sB (decide ((x15.n : Int) > 6))
 (R (.bool false) h13)
 ((∃ x16 : Sl, hc h13 ⟨h.size, 1, none⟩ = some (.slice x16.a x16.n x16.c) ∧
 (∃ I17 : Int → Heap → Nat → Prop, (∃ m18, I17 0 h13 m18) ∧
 (∀ (_ : Env) (x_20 : Int) (h21 : Heap) (m19 : Nat), I17 x_20 h21 m19 →
 (sB (decide (x_20 < (x16.n : Int)))
 ((NB x16.a fun b22 o23 => ((0 ≤ (x_20 : Int) ∧ (x_20 : Int) < (x16.n : Nat)) ∧
 (∃ x24 : ByteArray, hc h21 ⟨b22, o23 + Int.toNat x_20 * 1, none⟩ = some (.string x24) ∧
 (Fn Tryz.prog 167 #[.string x24] h21
 (fun v25 h27 => ∃ x26 : Bool, v25 = .bool x26 ∧
 (sB (!x26)
 (R (.bool false) h27)
 ((∃ x28 : Sl, hc h27 ⟨h.size, 1, none⟩ = some (.slice x28.a x28.n x28.c) ∧
 (((0 : Int) ≤ (0 : Int) ∧ (0 : Int) ≤ (x_20 : Int) ∧ (x_20 : Int) ≤ (x28.c : Nat)) ∧
 (Fn Tryz.prog 168 #[.slice (subA x28.a (Int.toNat 0) x28.c 1) (Int.toNat x_20 - Int.toNat 0) (x28.c - Int.toNat 0), .string x24] h27
 (fun v29 h31 => ∃ x30 : Bool, v29 = .bool x30 ∧
 (sB x30
 (R (.bool false) h31)
 ((∃ m32, m32 < m19 ∧ I17 (IntKind.wrap .i64 (x_20 + 1)) h31 m32)))))))))))))))
 (R (.bool true) h21)))))))))))))))))
theorem vc116 (p0_1 : ByteArray) (p0_2 p0_3 : Sl) (p0_4 p0_5 p0_6 : Int) (p0_7 p0_8 : Sl) (h : Heap) (R : Value → Heap → Prop) (H : W116 p0_1 p0_2 p0_3 p0_4 p0_5 p0_6 p0_7 p0_8 h R) : Fn Tryz.prog 116 #[.agg ⟨[.string p0_1, .slice p0_2.a p0_2.n p0_2.c, .slice p0_3.a p0_3.n p0_3.c, .int .i64 p0_4, .int .i64 p0_5, .int .i64 p0_6, .slice p0_7.a p0_7.n p0_7.c, .slice p0_8.a p0_8.n p0_8.c]⟩] h R := fnI (A := (.s .z (.s .z (.s (.s .z (.b (.l [(24, .one (.int .i64))] .z))) .z)))) (by kernel_rfl) H

/- farandole/global.numbered
 loop rrlrb: x_22:Int -/
def W117 (p0_1 : ByteArray) (p0_2 p0_3 : Sl) (p0_4 p0_5 p0_6 : Int) (p0_7 p0_8 : Sl) (h : Heap) (R : Value → Heap → Prop) : Prop :=
 (∀ h9 : Heap, h9 = h.push (.cells ⟨[.string p0_1, .slice p0_2.a p0_2.n p0_2.c, .slice p0_3.a p0_3.n p0_3.c, .int .i64 p0_4, .int .i64 p0_5, .int .i64 p0_6, .slice p0_7.a p0_7.n p0_7.c, .slice p0_8.a p0_8.n p0_8.c]⟩ 59) →
 (∃ x10 : Int, hc h9 ⟨h.size, 3, none⟩ = some (.int .i64 x10) ∧
 (sB (decide (x10 < 1))
 (R (.bool false) h9)
 ((∃ x11 : Int, hc h9 ⟨h.size, 3, none⟩ = some (.int .i64 x11) ∧
 (sB (decide (x11 > 200))
 (R (.bool false) h9)
 ((∃ x12 : Int, hc h9 ⟨h.size, 4, none⟩ = some (.int .i64 x12) ∧
 (∃ x13 : Int, hc h9 ⟨h.size, 5, none⟩ = some (.int .i64 x13) ∧
 (sB (decide ((imin x12 x13) < 0))
 (R (.bool false) h9)
 ((∃ x14 : Int, hc h9 ⟨h.size, 4, none⟩ = some (.int .i64 x14) ∧
 (∃ x15 : Int, hc h9 ⟨h.size, 5, none⟩ = some (.int .i64 x15) ∧
 (∃ x16 : Int, hc h9 ⟨h.size, 3, none⟩ = some (.int .i64 x16) ∧
 (sB (decide ((imax x14 x15) ≥ x16))
 (R (.bool false) h9)
 ((∃ x17 : Sl, hc h9 ⟨h.size, 6, none⟩ = some (.slice x17.a x17.n x17.c) ∧
 (sB (decide ((x17.n : Int) > 400))
 (R (.bool false) h9)
 ((∃ x18 : Sl, hc h9 ⟨h.size, 6, none⟩ = some (.slice x18.a x18.n x18.c) ∧
 (∃ I19 : Int → Heap → Nat → Prop, (∃ m20, I19 0 h9 m20) ∧
 (∀ (_ : Env) (x_22 : Int) (h23 : Heap) (m21 : Nat), I19 x_22 h23 m21 →
 (sB (decide (x_22 < (x18.n : Int)))
 ((NB x18.a fun b24 o25 => ((0 ≤ (x_22 : Int) ∧ (x_22 : Int) < (x18.n : Nat)) ∧
 (∃ (x26 x27 x28 x29 x30 : Int) (x31 : Bool), atC h23 ⟨b24, o25 + Int.toNat x_22 * 6, none⟩ [.int .i64 x26, .int .i64 x27, .int .i64 x28, .int .i64 x29, .int .i64 x30, .bool x31] ∧
 (∀ h32 : Heap, h32 = h23.push (.cells ⟨[.int .i64 0, .int .i64 0, .int .i64 0, .int .i64 0, .int .i64 0, .bool false]⟩ 145) →
 (okAt h32 ⟨h23.size, 0, none⟩ 6 ∧ ∀ h33 : Heap, h33 = hputs h32 ⟨h23.size, 0, none⟩ 0 [.int .i64 x26, .int .i64 x27, .int .i64 x28, .int .i64 x29, .int .i64 x30, .bool x31] →
 (∃ (x34 x35 x36 : Int), atC h33 ⟨h23.size, 1, none⟩ [.int .i64 x34, .int .i64 x35, .int .i64 x36] ∧
 (∀ h37 : Heap, h37 = h33.push (.cells ⟨[.int .i64 0, .int .i64 0, .int .i64 0]⟩ 143) →
 (okAt h37 ⟨h33.size, 0, none⟩ 3 ∧ ∀ h38 : Heap, h38 = hputs h37 ⟨h33.size, 0, none⟩ 0 [.int .i64 x34, .int .i64 x35, .int .i64 x36] →
 (∃ x39 : Int, hc h38 ⟨h23.size, 0, none⟩ = some (.int .i64 x39) ∧
 (∃ x40 : Int, hc h38 ⟨h23.size, 4, none⟩ = some (.int .i64 x40) ∧
 (∃ x41 : Int, hc h38 ⟨h33.size, 0, none⟩ = some (.int .i64 x41) ∧
 (∃ x42 : Int, hc h38 ⟨h33.size, 1, none⟩ = some (.int .i64 x42) ∧
 (∃ x43 : Int, hc h38 ⟨h33.size, 2, none⟩ = some (.int .i64 x43) ∧
 (sB (decide ((imin (imin (imin (imin x39 x40) x41) x42) x43) < 0))
 (R (.bool false) h38)
 ((∃ x44 : Int, hc h38 ⟨h23.size, 0, none⟩ = some (.int .i64 x44) ∧
 (∃ x45 : Int, hc h38 ⟨h23.size, 4, none⟩ = some (.int .i64 x45) ∧
 (∃ x46 : Int, hc h38 ⟨h.size, 3, none⟩ = some (.int .i64 x46) ∧
 (sB (decide ((imax x44 x45) ≥ x46))
 (R (.bool false) h38)
 ((∃ x47 : Int, hc h38 ⟨h33.size, 0, none⟩ = some (.int .i64 x47) ∧
 (∃ x48 : Int, hc h38 ⟨h33.size, 1, none⟩ = some (.int .i64 x48) ∧
 (∃ x49 : Sl, hc h38 ⟨h.size, 1, none⟩ = some (.slice x49.a x49.n x49.c) ∧
 (sB (decide ((imax x47 x48) ≥ (x49.n : Int)))
 (R (.bool false) h38)
 ((∃ x50 : Int, hc h38 ⟨h33.size, 0, none⟩ = some (.int .i64 x50) ∧
 (∃ x51 : Int, hc h38 ⟨h33.size, 1, none⟩ = some (.int .i64 x51) ∧
 (sB (x50 == x51)
 (R (.bool false) h38)
 ((∃ x52 : Int, hc h38 ⟨h33.size, 2, none⟩ = some (.int .i64 x52) ∧
 (∃ x53 : Sl, hc h38 ⟨h.size, 2, none⟩ = some (.slice x53.a x53.n x53.c) ∧
 (sB (decide (x52 ≥ (x53.n : Int)))
 (R (.bool false) h38)
 ((∃ m54, m54 < m21 ∧ I19 (IntKind.wrap .i64 (x_22 + 1)) h38 m54)))))))))))))))))))))))))))))))))))
 (R (.bool true) h23))))))))))))))))))))))))
theorem vc117 (p0_1 : ByteArray) (p0_2 p0_3 : Sl) (p0_4 p0_5 p0_6 : Int) (p0_7 p0_8 : Sl) (h : Heap) (R : Value → Heap → Prop) (H : W117 p0_1 p0_2 p0_3 p0_4 p0_5 p0_6 p0_7 p0_8 h R) : Fn Tryz.prog 117 #[.agg ⟨[.string p0_1, .slice p0_2.a p0_2.n p0_2.c, .slice p0_3.a p0_3.n p0_3.c, .int .i64 p0_4, .int .i64 p0_5, .int .i64 p0_6, .slice p0_7.a p0_7.n p0_7.c, .slice p0_8.a p0_8.n p0_8.c]⟩] h R := fnI (A := (.s .z (.s .z (.s (.s .z (.b (.l [(41, .one (.int .i64))] .z))) .z)))) (by kernel_rfl) H

def W118 (p0 : Sl) (h : Heap) (R : Value → Heap → Prop) : Prop :=
 (sB ((p0.n : Int) == 0)
 (R (.bool true) h)
 ((Fn Tryz.prog 169 #[.slice p0.a p0.n p0.c, .int .i64 0] h
 (fun v1 h4 => ∃ (x2 : Sl) (x3 : Int), v1 = .tuple ⟨[.slice x2.a x2.n x2.c, .int .i64 x3]⟩ ∧
 R (.bool (x3 == 0)) h4))))
theorem vc118 (p0 : Sl) (h : Heap) (R : Value → Heap → Prop) (H : W118 p0 h R) : Fn Tryz.prog 118 #[.slice p0.a p0.n p0.c] h R := fnI (A := .z) (by kernel_rfl) H

/- farandole/global.ordered
 loop rlrborrlbrrrb: x_35:Int
 loop rlrborrlbrrrb: x_93:Int
 loop rlrb: x_14:Int -/
def W119 (p0_1 : ByteArray) (p0_2 p0_3 : Sl) (p0_4 p0_5 p0_6 : Int) (p0_7 p0_8 : Sl) (h : Heap) (R : Value → Heap → Prop) : Prop :=
 (∀ h9 : Heap, h9 = h.push (.cells ⟨[.string p0_1, .slice p0_2.a p0_2.n p0_2.c, .slice p0_3.a p0_3.n p0_3.c, .int .i64 p0_4, .int .i64 p0_5, .int .i64 p0_6, .slice p0_7.a p0_7.n p0_7.c, .slice p0_8.a p0_8.n p0_8.c]⟩ 59) →
 (∃ x10 : Sl, hc h9 ⟨h.size, 6, none⟩ = some (.slice x10.a x10.n x10.c) ∧
 (∃ I11 : Int → Heap → Nat → Prop, (∃ m12, I11 0 h9 m12) ∧
 (∀ (_ : Env) (x_14 : Int) (h15 : Heap) (m13 : Nat), I11 x_14 h15 m13 →
 (sB (decide (x_14 < (x10.n : Int)))
 ((NB x10.a fun b16 o17 => ((0 ≤ (x_14 : Int) ∧ (x_14 : Int) < (x10.n : Nat)) ∧
 (∃ (x18 x19 x20 x21 x22 : Int) (x23 : Bool), atC h15 ⟨b16, o17 + Int.toNat x_14 * 6, none⟩ [.int .i64 x18, .int .i64 x19, .int .i64 x20, .int .i64 x21, .int .i64 x22, .bool x23] ∧
 (∀ h24 : Heap, h24 = h15.push (.cells ⟨[.int .i64 0, .int .i64 0, .int .i64 0, .int .i64 0, .int .i64 0, .bool false]⟩ 145) →
 (okAt h24 ⟨h15.size, 0, none⟩ 6 ∧ ∀ h25 : Heap, h25 = hputs h24 ⟨h15.size, 0, none⟩ 0 [.int .i64 x18, .int .i64 x19, .int .i64 x20, .int .i64 x21, .int .i64 x22, .bool x23] →
 (∃ x26 : Int, hc h25 ⟨h15.size, 0, none⟩ = some (.int .i64 x26) ∧
 (∃ x27 : Int, hc h25 ⟨h.size, 5, none⟩ = some (.int .i64 x27) ∧
 (sB (x26 == x27)
 (R (.bool false) h25)
 ((∃ x28 : Bool, hc h25 ⟨h15.size, 5, none⟩ = some (.bool x28) ∧
 (sB x28
 ((∃ x29 : Int, hc h25 ⟨h15.size, 0, none⟩ = some (.int .i64 x29) ∧
 (∃ x30 : Int, hc h25 ⟨h.size, 4, none⟩ = some (.int .i64 x30) ∧
 (sB (x29 == x30)
 (R (.bool false) h25)
 ((∃ x31 : Sl, hc h25 ⟨h.size, 6, none⟩ = some (.slice x31.a x31.n x31.c) ∧
 (∃ I32 : Int → Heap → Nat → Prop, (∃ m33, I32 0 h25 m33) ∧
 (∀ (_ : Env) (x_35 : Int) (h36 : Heap) (m34 : Nat), I32 x_35 h36 m34 →
 (sB (decide (x_35 < (x31.n : Int)))
 ((NB x31.a fun b37 o38 => ((0 ≤ (x_35 : Int) ∧ (x_35 : Int) < (x31.n : Nat)) ∧
 (∃ (x39 x40 x41 x42 x43 : Int) (x44 : Bool), atC h36 ⟨b37, o38 + Int.toNat x_35 * 6, none⟩ [.int .i64 x39, .int .i64 x40, .int .i64 x41, .int .i64 x42, .int .i64 x43, .bool x44] ∧
 (∀ h45 : Heap, h45 = h36.push (.cells ⟨[.int .i64 0, .int .i64 0, .int .i64 0, .int .i64 0, .int .i64 0, .bool false]⟩ 145) →
 (okAt h45 ⟨h36.size, 0, none⟩ 6 ∧ ∀ h46 : Heap, h46 = hputs h45 ⟨h36.size, 0, none⟩ 0 [.int .i64 x39, .int .i64 x40, .int .i64 x41, .int .i64 x42, .int .i64 x43, .bool x44] →
 (sB (x_14 != x_35)
 ((∃ x47 : Int, hc h46 ⟨h15.size, 0, none⟩ = some (.int .i64 x47) ∧
 (∃ x48 : Int, hc h46 ⟨h36.size, 0, none⟩ = some (.int .i64 x48) ∧
 (sB (x47 == x48)
 ((∃ (x49 x50 x51 : Int), atC h46 ⟨h15.size, 1, none⟩ [.int .i64 x49, .int .i64 x50, .int .i64 x51] ∧
 (∃ (x52 x53 x54 : Int), atC h46 ⟨h36.size, 1, none⟩ [.int .i64 x52, .int .i64 x53, .int .i64 x54] ∧
 (sB ((x49 == x52) && ((x50 == x53) && ((x51 == x54) && true)))
 (R (.bool false) h46)
 ((∃ x55 : Int, hc h46 ⟨h15.size, 1, none⟩ = some (.int .i64 x55) ∧
 (∃ x56 : Int, hc h46 ⟨h36.size, 1, none⟩ = some (.int .i64 x56) ∧
 (sB (x55 != x56)
 (R (.bool false) h46)
 ((∃ x57 : Bool, hc h46 ⟨h15.size, 5, none⟩ = some (.bool x57) ∧
 (sB x57
 (R (.bool false) h46)
 ((∃ x58 : Bool, hc h46 ⟨h15.size, 5, none⟩ = some (.bool x58) ∧
 (sB x58
 ((∃ x59 : Int, hc h46 ⟨h36.size, 4, none⟩ = some (.int .i64 x59) ∧
 (∃ x60 : Int, hc h46 ⟨h15.size, 0, none⟩ = some (.int .i64 x60) ∧
 (sB (x59 == x60)
 ((∃ x61 : Int, hc h46 ⟨h15.size, 1, none⟩ = some (.int .i64 x61) ∧
 (∃ x62 : Int, hc h46 ⟨h36.size, 1, none⟩ = some (.int .i64 x62) ∧
 (sB (x61 != x62)
 (R (.bool false) h46)
 ((∃ x63 : Int, hc h46 ⟨h15.size, 1 + 2, none⟩ = some (.int .i64 x63) ∧
 (∃ x64 : Int, hc h46 ⟨h36.size, 1 + 2, none⟩ = some (.int .i64 x64) ∧
 (sB (x63 != x64)
 (R (.bool false) h46)
 ((∃ m65, m65 < m34 ∧ I32 (IntKind.wrap .i64 (x_35 + 1)) h46 m65))))))))))
 ((∃ m66, m66 < m34 ∧ I32 (IntKind.wrap .i64 (x_35 + 1)) h46 m66))))))
 ((∃ m67, m67 < m34 ∧ I32 (IntKind.wrap .i64 (x_35 + 1)) h46 m67))))))))))))))))
 ((∃ x68 : Bool, hc h46 ⟨h15.size, 5, none⟩ = some (.bool x68) ∧
 (sB x68
 ((∃ x69 : Int, hc h46 ⟨h36.size, 4, none⟩ = some (.int .i64 x69) ∧
 (∃ x70 : Int, hc h46 ⟨h15.size, 0, none⟩ = some (.int .i64 x70) ∧
 (sB (x69 == x70)
 ((∃ x71 : Int, hc h46 ⟨h15.size, 1, none⟩ = some (.int .i64 x71) ∧
 (∃ x72 : Int, hc h46 ⟨h36.size, 1, none⟩ = some (.int .i64 x72) ∧
 (sB (x71 != x72)
 (R (.bool false) h46)
 ((∃ x73 : Int, hc h46 ⟨h15.size, 1 + 2, none⟩ = some (.int .i64 x73) ∧
 (∃ x74 : Int, hc h46 ⟨h36.size, 1 + 2, none⟩ = some (.int .i64 x74) ∧
 (sB (x73 != x74)
 (R (.bool false) h46)
 ((∃ m75, m75 < m34 ∧ I32 (IntKind.wrap .i64 (x_35 + 1)) h46 m75))))))))))
 ((∃ m76, m76 < m34 ∧ I32 (IntKind.wrap .i64 (x_35 + 1)) h46 m76))))))
 ((∃ m77, m77 < m34 ∧ I32 (IntKind.wrap .i64 (x_35 + 1)) h46 m77)))))))))
 ((∃ x78 : Bool, hc h46 ⟨h15.size, 5, none⟩ = some (.bool x78) ∧
 (sB x78
 ((∃ x79 : Int, hc h46 ⟨h36.size, 4, none⟩ = some (.int .i64 x79) ∧
 (∃ x80 : Int, hc h46 ⟨h15.size, 0, none⟩ = some (.int .i64 x80) ∧
 (sB (x79 == x80)
 ((∃ x81 : Int, hc h46 ⟨h15.size, 1, none⟩ = some (.int .i64 x81) ∧
 (∃ x82 : Int, hc h46 ⟨h36.size, 1, none⟩ = some (.int .i64 x82) ∧
 (sB (x81 != x82)
 (R (.bool false) h46)
 ((∃ x83 : Int, hc h46 ⟨h15.size, 1 + 2, none⟩ = some (.int .i64 x83) ∧
 (∃ x84 : Int, hc h46 ⟨h36.size, 1 + 2, none⟩ = some (.int .i64 x84) ∧
 (sB (x83 != x84)
 (R (.bool false) h46)
 ((∃ m85, m85 < m34 ∧ I32 (IntKind.wrap .i64 (x_35 + 1)) h46 m85))))))))))
 ((∃ m86, m86 < m34 ∧ I32 (IntKind.wrap .i64 (x_35 + 1)) h46 m86))))))
 ((∃ m87, m87 < m34 ∧ I32 (IntKind.wrap .i64 (x_35 + 1)) h46 m87))))))))))))
 ((∃ m88, m88 < m13 ∧ I11 (IntKind.wrap .i64 (x_14 + 1)) h36 m88)))))))))))
 ((∃ x89 : Sl, hc h25 ⟨h.size, 6, none⟩ = some (.slice x89.a x89.n x89.c) ∧
 (∃ I90 : Int → Heap → Nat → Prop, (∃ m91, I90 0 h25 m91) ∧
 (∀ (_ : Env) (x_93 : Int) (h94 : Heap) (m92 : Nat), I90 x_93 h94 m92 →
 (sB (decide (x_93 < (x89.n : Int)))
 ((NB x89.a fun b95 o96 => ((0 ≤ (x_93 : Int) ∧ (x_93 : Int) < (x89.n : Nat)) ∧
 (∃ (x97 x98 x99 x100 x101 : Int) (x102 : Bool), atC h94 ⟨b95, o96 + Int.toNat x_93 * 6, none⟩ [.int .i64 x97, .int .i64 x98, .int .i64 x99, .int .i64 x100, .int .i64 x101, .bool x102] ∧
 (∀ h103 : Heap, h103 = h94.push (.cells ⟨[.int .i64 0, .int .i64 0, .int .i64 0, .int .i64 0, .int .i64 0, .bool false]⟩ 145) →
 (okAt h103 ⟨h94.size, 0, none⟩ 6 ∧ ∀ h104 : Heap, h104 = hputs h103 ⟨h94.size, 0, none⟩ 0 [.int .i64 x97, .int .i64 x98, .int .i64 x99, .int .i64 x100, .int .i64 x101, .bool x102] →
 (sB (x_14 != x_93)
 ((∃ x105 : Int, hc h104 ⟨h15.size, 0, none⟩ = some (.int .i64 x105) ∧
 (∃ x106 : Int, hc h104 ⟨h94.size, 0, none⟩ = some (.int .i64 x106) ∧
 (sB (x105 == x106)
 ((∃ (x107 x108 x109 : Int), atC h104 ⟨h15.size, 1, none⟩ [.int .i64 x107, .int .i64 x108, .int .i64 x109] ∧
 (∃ (x110 x111 x112 : Int), atC h104 ⟨h94.size, 1, none⟩ [.int .i64 x110, .int .i64 x111, .int .i64 x112] ∧
 (sB ((x107 == x110) && ((x108 == x111) && ((x109 == x112) && true)))
 (R (.bool false) h104)
 ((∃ x113 : Int, hc h104 ⟨h15.size, 1, none⟩ = some (.int .i64 x113) ∧
 (∃ x114 : Int, hc h104 ⟨h94.size, 1, none⟩ = some (.int .i64 x114) ∧
 (sB (x113 != x114)
 (R (.bool false) h104)
 ((∃ x115 : Bool, hc h104 ⟨h15.size, 5, none⟩ = some (.bool x115) ∧
 (sB x115
 (R (.bool false) h104)
 ((∃ x116 : Bool, hc h104 ⟨h15.size, 5, none⟩ = some (.bool x116) ∧
 (sB x116
 ((∃ x117 : Int, hc h104 ⟨h94.size, 4, none⟩ = some (.int .i64 x117) ∧
 (∃ x118 : Int, hc h104 ⟨h15.size, 0, none⟩ = some (.int .i64 x118) ∧
 (sB (x117 == x118)
 ((∃ x119 : Int, hc h104 ⟨h15.size, 1, none⟩ = some (.int .i64 x119) ∧
 (∃ x120 : Int, hc h104 ⟨h94.size, 1, none⟩ = some (.int .i64 x120) ∧
 (sB (x119 != x120)
 (R (.bool false) h104)
 ((∃ x121 : Int, hc h104 ⟨h15.size, 1 + 2, none⟩ = some (.int .i64 x121) ∧
 (∃ x122 : Int, hc h104 ⟨h94.size, 1 + 2, none⟩ = some (.int .i64 x122) ∧
 (sB (x121 != x122)
 (R (.bool false) h104)
 ((∃ m123, m123 < m92 ∧ I90 (IntKind.wrap .i64 (x_93 + 1)) h104 m123))))))))))
 ((∃ m124, m124 < m92 ∧ I90 (IntKind.wrap .i64 (x_93 + 1)) h104 m124))))))
 ((∃ m125, m125 < m92 ∧ I90 (IntKind.wrap .i64 (x_93 + 1)) h104 m125))))))))))))))))
 ((∃ x126 : Bool, hc h104 ⟨h15.size, 5, none⟩ = some (.bool x126) ∧
 (sB x126
 ((∃ x127 : Int, hc h104 ⟨h94.size, 4, none⟩ = some (.int .i64 x127) ∧
 (∃ x128 : Int, hc h104 ⟨h15.size, 0, none⟩ = some (.int .i64 x128) ∧
 (sB (x127 == x128)
 ((∃ x129 : Int, hc h104 ⟨h15.size, 1, none⟩ = some (.int .i64 x129) ∧
 (∃ x130 : Int, hc h104 ⟨h94.size, 1, none⟩ = some (.int .i64 x130) ∧
 (sB (x129 != x130)
 (R (.bool false) h104)
 ((∃ x131 : Int, hc h104 ⟨h15.size, 1 + 2, none⟩ = some (.int .i64 x131) ∧
 (∃ x132 : Int, hc h104 ⟨h94.size, 1 + 2, none⟩ = some (.int .i64 x132) ∧
 (sB (x131 != x132)
 (R (.bool false) h104)
 ((∃ m133, m133 < m92 ∧ I90 (IntKind.wrap .i64 (x_93 + 1)) h104 m133))))))))))
 ((∃ m134, m134 < m92 ∧ I90 (IntKind.wrap .i64 (x_93 + 1)) h104 m134))))))
 ((∃ m135, m135 < m92 ∧ I90 (IntKind.wrap .i64 (x_93 + 1)) h104 m135)))))))))
 ((∃ x136 : Bool, hc h104 ⟨h15.size, 5, none⟩ = some (.bool x136) ∧
 (sB x136
 ((∃ x137 : Int, hc h104 ⟨h94.size, 4, none⟩ = some (.int .i64 x137) ∧
 (∃ x138 : Int, hc h104 ⟨h15.size, 0, none⟩ = some (.int .i64 x138) ∧
 (sB (x137 == x138)
 ((∃ x139 : Int, hc h104 ⟨h15.size, 1, none⟩ = some (.int .i64 x139) ∧
 (∃ x140 : Int, hc h104 ⟨h94.size, 1, none⟩ = some (.int .i64 x140) ∧
 (sB (x139 != x140)
 (R (.bool false) h104)
 ((∃ x141 : Int, hc h104 ⟨h15.size, 1 + 2, none⟩ = some (.int .i64 x141) ∧
 (∃ x142 : Int, hc h104 ⟨h94.size, 1 + 2, none⟩ = some (.int .i64 x142) ∧
 (sB (x141 != x142)
 (R (.bool false) h104)
 ((∃ m143, m143 < m92 ∧ I90 (IntKind.wrap .i64 (x_93 + 1)) h104 m143))))))))))
 ((∃ m144, m144 < m92 ∧ I90 (IntKind.wrap .i64 (x_93 + 1)) h104 m144))))))
 ((∃ m145, m145 < m92 ∧ I90 (IntKind.wrap .i64 (x_93 + 1)) h104 m145))))))))))))
 ((∃ m146, m146 < m13 ∧ I11 (IntKind.wrap .i64 (x_14 + 1)) h94 m146)))))))))))))))))))
 (R (.bool true) h15))))))
theorem vc119 (p0_1 : ByteArray) (p0_2 p0_3 : Sl) (p0_4 p0_5 p0_6 : Int) (p0_7 p0_8 : Sl) (h : Heap) (R : Value → Heap → Prop) (H : W119 p0_1 p0_2 p0_3 p0_4 p0_5 p0_6 p0_7 p0_8 h R) : Fn Tryz.prog 119 #[.agg ⟨[.string p0_1, .slice p0_2.a p0_2.n p0_2.c, .slice p0_3.a p0_3.n p0_3.c, .int .i64 p0_4, .int .i64 p0_5, .int .i64 p0_6, .slice p0_7.a p0_7.n p0_7.c, .slice p0_8.a p0_8.n p0_8.c]⟩] h R := fnI (A := (.s .z (.s (.s .z (.b (.l [(10, .one (.int .i64))] (.s .z (.s .z (.s (.b (.s .z (.s .z (.s .z (.b (.l [(34, .one (.int .i64))] .z)))))) .z)))))) .z))) (by kernel_rfl) H

/- farandole/global.timed
 loop rrlrb: last_14:Int, x_15:Int -/
def W120 (p0_1 : ByteArray) (p0_2 p0_3 : Sl) (p0_4 p0_5 p0_6 : Int) (p0_7 p0_8 : Sl) (h : Heap) (R : Value → Heap → Prop) : Prop :=
 (∀ h9 : Heap, h9 = h.push (.cells ⟨[.string p0_1, .slice p0_2.a p0_2.n p0_2.c, .slice p0_3.a p0_3.n p0_3.c, .int .i64 p0_4, .int .i64 p0_5, .int .i64 p0_6, .slice p0_7.a p0_7.n p0_7.c, .slice p0_8.a p0_8.n p0_8.c]⟩ 59) →
 (∃ x10 : Sl, hc h9 ⟨h.size, 7, none⟩ = some (.slice x10.a x10.n x10.c) ∧
 (∃ I11 : Int → Int → Heap → Nat → Prop, (∃ m12, I11 (-1) 0 h9 m12) ∧
 (∀ (_ : Env) (last_14 x_15 : Int) (h16 : Heap) (m13 : Nat), I11 last_14 x_15 h16 m13 →
 (sB (decide (x_15 < (x10.n : Int)))
 ((NB x10.a fun b17 o18 => ((0 ≤ (x_15 : Int) ∧ (x_15 : Int) < (x10.n : Nat)) ∧
 (∃ (x19 x20 x21 : Int), atC h16 ⟨b17, o18 + Int.toNat x_15 * 3, none⟩ [.int .i64 x19, .int .i64 x20, .int .i64 x21] ∧
 (∀ h22 : Heap, h22 = h16.push (.cells ⟨[.int .i64 0, .int .i64 0, .int .i64 0]⟩ 44) →
 (okAt h22 ⟨h16.size, 0, none⟩ 3 ∧ ∀ h23 : Heap, h23 = hputs h22 ⟨h16.size, 0, none⟩ 0 [.int .i64 x19, .int .i64 x20, .int .i64 x21] →
 (∃ x24 : Int, hc h23 ⟨h16.size, 0, none⟩ = some (.int .i64 x24) ∧
 (sB (decide (x24 ≤ last_14))
 (R (.bool false) h23)
 ((∃ x25 : Int, hc h23 ⟨h16.size, 1, none⟩ = some (.int .i64 x25) ∧
 (sB (decide (x25 < 1))
 (R (.bool false) h23)
 ((∃ x26 : Int, hc h23 ⟨h16.size, 1, none⟩ = some (.int .i64 x26) ∧
 (sB (decide (x26 > 1000))
 (R (.bool false) h23)
 ((∃ x27 : Int, hc h23 ⟨h16.size, 2, none⟩ = some (.int .i64 x27) ∧
 (sB (decide (x27 < 0))
 (R (.bool false) h23)
 ((∃ x28 : Int, hc h23 ⟨h16.size, 2, none⟩ = some (.int .i64 x28) ∧
 (∃ x29 : Sl, hc h23 ⟨h.size, 6, none⟩ = some (.slice x29.a x29.n x29.c) ∧
 (sB (decide (x28 ≥ (x29.n : Int)))
 (R (.bool false) h23)
 ((∃ x30 : Sl, hc h23 ⟨h.size, 6, none⟩ = some (.slice x30.a x30.n x30.c) ∧
 (∃ x31 : Int, hc h23 ⟨h16.size, 2, none⟩ = some (.int .i64 x31) ∧
 (NB x30.a fun b32 o33 => ((0 ≤ (x31 : Int) ∧ (x31 : Int) < (x30.n : Nat)) ∧
 (∃ x34 : Int, hc h23 ⟨b32, o33 + Int.toNat x31 * 6, none⟩ = some (.int .i64 x34) ∧
 (∃ x35 : Int, hc h23 ⟨h16.size, 0, none⟩ = some (.int .i64 x35) ∧
 (sB (x34 != x35)
 (R (.bool false) h23)
 ((∃ x36 : Sl, hc h23 ⟨h.size, 6, none⟩ = some (.slice x36.a x36.n x36.c) ∧
 (∃ x37 : Int, hc h23 ⟨h16.size, 2, none⟩ = some (.int .i64 x37) ∧
 (NB x36.a fun b38 o39 => ((0 ≤ (x37 : Int) ∧ (x37 : Int) < (x36.n : Nat)) ∧
 (∃ x40 : Bool, hc h23 ⟨b38, o39 + Int.toNat x37 * 6 + 5, none⟩ = some (.bool x40) ∧
 (sB x40
 (R (.bool false) h23)
 ((∃ x41 : Int, hc h23 ⟨h16.size, 0, none⟩ = some (.int .i64 x41) ∧
 (∃ m42, m42 < m13 ∧ I11 x41 (IntKind.wrap .i64 (x_15 + 1)) h23 m42)))))))))))))))))))))))))))))))))))))))
 (R (.bool true) h16))))))
theorem vc120 (p0_1 : ByteArray) (p0_2 p0_3 : Sl) (p0_4 p0_5 p0_6 : Int) (p0_7 p0_8 : Sl) (h : Heap) (R : Value → Heap → Prop) (H : W120 p0_1 p0_2 p0_3 p0_4 p0_5 p0_6 p0_7 p0_8 h R) : Fn Tryz.prog 120 #[.agg ⟨[.string p0_1, .slice p0_2.a p0_2.n p0_2.c, .slice p0_3.a p0_3.n p0_3.c, .int .i64 p0_4, .int .i64 p0_5, .int .i64 p0_6, .slice p0_7.a p0_7.n p0_7.c, .slice p0_8.a p0_8.n p0_8.c]⟩] h R := fnI (A := (.s .z (.s .z (.s (.s .z (.b (.l [(3, .one (.int .i64)), (9, .one (.int .i64))] .z))) .z)))) (by kernel_rfl) H

/- slices.Index[[]int,int]
 loop rlrb: x_4:Int -/
def W170 (p0 : Sl) (p1 : Int) (h : Heap) (R : Value → Heap → Prop) : Prop :=
 (∃ I1 : Int → Heap → Nat → Prop, (∃ m2, I1 0 h m2) ∧
 (∀ (_ : Env) (x_4 : Int) (h5 : Heap) (m3 : Nat), I1 x_4 h5 m3 →
 (sB (decide (x_4 < (p0.n : Int)))
 ((NB p0.a fun b6 o7 => ((0 ≤ (x_4 : Int) ∧ (x_4 : Int) < (p0.n : Nat)) ∧
 (∃ x8 : Int, hc h5 ⟨b6, o7 + Int.toNat x_4 * 1, none⟩ = some (.int .i64 x8) ∧
 (sB (p1 == x8)
 (R (.int .i64 x_4) h5)
 ((∃ m9, m9 < m3 ∧ I1 (IntKind.wrap .i64 (x_4 + 1)) h5 m9)))))))
 (R (.int .i64 (-1)) h5))))
theorem vc170 (p0 : Sl) (p1 : Int) (h : Heap) (R : Value → Heap → Prop) (H : W170 p0 p1 h R) : Fn Tryz.prog 170 #[.slice p0.a p0.n p0.c, .int .i64 p1] h R := fnI (A := (.s .z (.s (.s .z (.b (.l [(8, .one (.int .i64))] .z))) .z))) (by kernel_rfl) H

def W121 (p0 : Sl) (p1 : Int) (h : Heap) (R : Value → Heap → Prop) : Prop :=
 (Fn Tryz.prog 170 #[.slice p0.a p0.n p0.c, .int .i64 p1] h
 (fun v1 h3 => ∃ x2 : Int, v1 = .int .i64 x2 ∧
 R (.bool (decide (x2 ≥ 0))) h3))
theorem vc121 (p0 : Sl) (p1 : Int) (h : Heap) (R : Value → Heap → Prop) (H : W121 p0 p1 h R) : Fn Tryz.prog 121 #[.slice p0.a p0.n p0.c, .int .i64 p1] h R := fnI (A := .z) (by kernel_rfl) H

/- slices.Repeat[[]int,int]
 loop rrrrrrlb: n_15:Int
 join rrr:
 join r:  -/
def W171 (p0 : Sl) (p1 : Int) (h : Heap) (R : Value → Heap → Prop) : Prop :=
 (∃ J1 : Heap → Prop,
 ((sB (decide (p1 < 0))
 (False)
 ((J1 h)))) ∧
 (∀ (_ : Env) (h2 : Heap), J1 h2 →
 (Fn Tryz.prog 208 #[.int .u64 (IntKind.wrap .u64 (p0.n : Int)), .int .u64 (IntKind.wrap .u64 p1)] h2
 (fun v3 h6 => ∃ (x4 x5 : Int), v3 = .tuple ⟨[.int .u64 x4, .int .u64 x5]⟩ ∧
 (∃ J7 : Heap → Prop,
 ((sB (decide (x4 > 0))
 (False)
 ((sB (decide (x5 > 9223372036854775807))
 (False)
 ((J7 h6)))))) ∧
 (∀ (_ : Env) (h8 : Heap), J7 h8 →
 (((0 : Int) ≤ (IntKind.wrap .i64 x5) ∧ ((IntKind.wrap .i64 x5) : Int) ≤ (IntKind.wrap .i64 x5) ∧ ((8 : Nat) : Int) * (IntKind.wrap .i64 x5) ≤ 140737488355328) ∧ ∀ h9 : Heap, h9 = h8.push (.cells ⟨madeL Tryz.prog 3 (Int.toNat (IntKind.wrap .i64 x5))⟩ 3) →
 (Cpy Tryz.prog 49 49 (.slice (some ⟨h8.size, 0, none⟩) (Int.toNat (IntKind.wrap .i64 x5)) (Int.toNat (IntKind.wrap .i64 x5))) (.slice p0.a p0.n p0.c) h9 fun n10 h11 =>
 (∃ I12 : Int → Heap → Nat → Prop, (∃ m13, I12 n10 h11 m13) ∧
 (∀ (_ : Env) (n_15 : Int) (h16 : Heap) (m14 : Nat), I12 n_15 h16 m14 →
 (sB (decide (n_15 < ((Int.toNat (IntKind.wrap .i64 x5)) : Int)))
 ((((0 : Int) ≤ (n_15 : Int) ∧ (n_15 : Int) ≤ (((Int.toNat (IntKind.wrap .i64 x5)) : Nat) : Int) ∧ (((Int.toNat (IntKind.wrap .i64 x5)) : Nat) : Int) ≤ ((Int.toNat (IntKind.wrap .i64 x5)) : Nat)) ∧
 (((0 : Int) ≤ (0 : Int) ∧ (0 : Int) ≤ (n_15 : Int) ∧ (n_15 : Int) ≤ ((Int.toNat (IntKind.wrap .i64 x5)) : Nat)) ∧
 (Cpy Tryz.prog 49 49 (.slice (subA (some ⟨h8.size, 0, none⟩) (Int.toNat n_15) (Int.toNat (IntKind.wrap .i64 x5)) 1) (Int.toNat ((Int.toNat (IntKind.wrap .i64 x5)) : Nat) - Int.toNat n_15) ((Int.toNat (IntKind.wrap .i64 x5)) - Int.toNat n_15)) (.slice (subA (some ⟨h8.size, 0, none⟩) (Int.toNat 0) (Int.toNat (IntKind.wrap .i64 x5)) 1) (Int.toNat n_15 - Int.toNat 0) ((Int.toNat (IntKind.wrap .i64 x5)) - Int.toNat 0)) h16 fun n17 h18 =>
 (∃ m19, m19 < m14 ∧ I12 (IntKind.wrap .i64 (n_15 + n17)) h18 m19)))))
 (R (.slice (some ⟨h8.size, 0, none⟩) (Int.toNat (IntKind.wrap .i64 x5)) (Int.toNat (IntKind.wrap .i64 x5))) h16))))))))))))
theorem vc171 (p0 : Sl) (p1 : Int) (h : Heap) (R : Value → Heap → Prop) (H : W171 p0 p1 h R) : Fn Tryz.prog 171 #[.slice p0.a p0.n p0.c, .int .i64 p1] h R := fnI (A := (.s .z (.j [] .z (.s .z (.j [] .z (.s .z (.s .z (.s (.b (.l [(8, .one (.int .i64))] .z)) .z)))))))) (by kernel_rfl) H

/- farandole/global.spread
 join rrrlrborlbrborrlbrr: a_44:Int, b_45:Int
 loop rrrlrborlbrb: todo_28:Sl, x_29:Int
 loop rrrlrb: todo_22:Sl -/
def W122 (p0_1 : ByteArray) (p0_2 p0_3 : Sl) (p0_4 p0_5 p0_6 : Int) (p0_7 p0_8 : Sl) (p1 : Int) (p2 : Bool) (h : Heap) (R : Value → Heap → Prop) : Prop :=
 (∀ h9 : Heap, h9 = h.push (.cells ⟨[.string p0_1, .slice p0_2.a p0_2.n p0_2.c, .slice p0_3.a p0_3.n p0_3.c, .int .i64 p0_4, .int .i64 p0_5, .int .i64 p0_6, .slice p0_7.a p0_7.n p0_7.c, .slice p0_8.a p0_8.n p0_8.c]⟩ 59) →
 (∀ h10 : Heap, h10 = h9.push (.cells ⟨[.int .i64 (-1)]⟩ 3) →
 (∃ x11 : Int, hc h10 ⟨h.size, 3, none⟩ = some (.int .i64 x11) ∧
 (Fn Tryz.prog 171 #[.slice (some ⟨h9.size, 0, none⟩) 1 1, .int .i64 x11] h10
 (fun v12 h14 => ∃ x13 : Sl, v12 = .slice x13.a x13.n x13.c ∧
 (NB x13.a fun b15 o16 => ((0 ≤ (p1 : Int) ∧ (p1 : Int) < (x13.n : Nat)) ∧
 (okAt h14 ⟨b15, o16 + Int.toNat p1 * 1, none⟩ 1 ∧ ∀ h17 : Heap, h17 = hputs h14 ⟨b15, o16 + Int.toNat p1 * 1, none⟩ 0 [.int .i64 0] →
 (∀ h18 : Heap, h18 = h17.push (.cells ⟨[.int .i64 p1]⟩ 3) →
 (∃ I19 : Sl → Heap → Nat → Prop, (∃ m20, I19 ⟨(some ⟨h17.size, 0, none⟩), 1, 1⟩ h18 m20) ∧
 (∀ (_ : Env) (todo_22 : Sl) (h23 : Heap) (m21 : Nat), I19 todo_22 h23 m21 →
 (sB (decide ((todo_22.n : Int) > 0))
 ((∃ x24 : Sl, hc h23 ⟨h.size, 6, none⟩ = some (.slice x24.a x24.n x24.c) ∧
 (∃ I25 : Sl → Int → Heap → Nat → Prop, (∃ m26, I25 todo_22 0 h23 m26) ∧
 (∀ (_ : Env) (todo_28 : Sl) (x_29 : Int) (h30 : Heap) (m27 : Nat), I25 todo_28 x_29 h30 m27 →
 (sB (decide (x_29 < (x24.n : Int)))
 ((NB x24.a fun b31 o32 => ((0 ≤ (x_29 : Int) ∧ (x_29 : Int) < (x24.n : Nat)) ∧
 (∃ (x33 x34 x35 x36 x37 : Int) (x38 : Bool), atC h30 ⟨b31, o32 + Int.toNat x_29 * 6, none⟩ [.int .i64 x33, .int .i64 x34, .int .i64 x35, .int .i64 x36, .int .i64 x37, .bool x38] ∧
 (∀ h39 : Heap, h39 = h30.push (.cells ⟨[.int .i64 0, .int .i64 0, .int .i64 0, .int .i64 0, .int .i64 0, .bool false]⟩ 145) →
 (okAt h39 ⟨h30.size, 0, none⟩ 6 ∧ ∀ h40 : Heap, h40 = hputs h39 ⟨h30.size, 0, none⟩ 0 [.int .i64 x33, .int .i64 x34, .int .i64 x35, .int .i64 x36, .int .i64 x37, .bool x38] →
 (∃ x41 : Int, hc h40 ⟨h30.size, 0, none⟩ = some (.int .i64 x41) ∧
 (∃ x42 : Int, hc h40 ⟨h30.size, 4, none⟩ = some (.int .i64 x42) ∧
 (∃ J43 : Int → Int → Heap → Prop,
 ((sB p2
 ((J43 x42 x41 h40))
 ((J43 x41 x42 h40)))) ∧
 (∀ (_ : Env) (a_44 b_45 : Int) (h46 : Heap), J43 a_44 b_45 h46 →
 (NB todo_28.a fun b47 o48 => ((0 ≤ (0 : Int) ∧ (0 : Int) < (todo_28.n : Nat)) ∧
 (∃ x49 : Int, hc h46 ⟨b47, o48 + Int.toNat 0 * 1, none⟩ = some (.int .i64 x49) ∧
 (sB (a_44 == x49)
 ((NB x13.a fun b50 o51 => ((0 ≤ (b_45 : Int) ∧ (b_45 : Int) < (x13.n : Nat)) ∧
 (∃ x52 : Int, hc h46 ⟨b50, o51 + Int.toNat b_45 * 1, none⟩ = some (.int .i64 x52) ∧
 (sB (decide (x52 < 0))
 ((NB x13.a fun b53 o54 => ((0 ≤ (a_44 : Int) ∧ (a_44 : Int) < (x13.n : Nat)) ∧
 (∃ x55 : Int, hc h46 ⟨b53, o54 + Int.toNat a_44 * 1, none⟩ = some (.int .i64 x55) ∧
 (NB x13.a fun b56 o57 => ((0 ≤ (b_45 : Int) ∧ (b_45 : Int) < (x13.n : Nat)) ∧
 (okAt h46 ⟨b56, o57 + Int.toNat b_45 * 1, none⟩ 1 ∧ ∀ h58 : Heap, h58 = hputs h46 ⟨b56, o57 + Int.toNat b_45 * 1, none⟩ 0 [.int .i64 (IntKind.wrap .i64 (x55 + 1))] →
 (∀ h59 : Heap, h59 = h58.push (.cells ⟨[.int .i64 b_45]⟩ 3) →
 (App Tryz.prog 49 49 (.slice todo_28.a todo_28.n todo_28.c) (.slice (some ⟨h58.size, 0, none⟩) 1 1) h59 fun s60 h61 =>
 (∃ m62, m62 < m27 ∧ I25 s60 (IntKind.wrap .i64 (x_29 + 1)) h61 m62))))))))))
 ((∃ m63, m63 < m27 ∧ I25 todo_28 (IntKind.wrap .i64 (x_29 + 1)) h46 m63)))))))
 ((∃ m64, m64 < m27 ∧ I25 todo_28 (IntKind.wrap .i64 (x_29 + 1)) h46 m64))))))))))))))))
 ((((0 : Int) ≤ (1 : Int) ∧ (1 : Int) ≤ ((todo_28.n : Nat) : Int) ∧ ((todo_28.n : Nat) : Int) ≤ (todo_28.c : Nat)) ∧
 (∃ m65, m65 < m21 ∧ I19 ⟨(subA todo_28.a (Int.toNat 1) todo_28.c 1), (Int.toNat (todo_28.n : Nat) - Int.toNat 1), (todo_28.c - Int.toNat 1)⟩ h30 m65))))))))
 (R (.slice x13.a x13.n x13.c) h23)))))))))))))
theorem vc122 (p0_1 : ByteArray) (p0_2 p0_3 : Sl) (p0_4 p0_5 p0_6 : Int) (p0_7 p0_8 : Sl) (p1 : Int) (p2 : Bool) (h : Heap) (R : Value → Heap → Prop) (H : W122 p0_1 p0_2 p0_3 p0_4 p0_5 p0_6 p0_7 p0_8 p1 p2 h R) : Fn Tryz.prog 122 #[.agg ⟨[.string p0_1, .slice p0_2.a p0_2.n p0_2.c, .slice p0_3.a p0_3.n p0_3.c, .int .i64 p0_4, .int .i64 p0_5, .int .i64 p0_6, .slice p0_7.a p0_7.n p0_7.c, .slice p0_8.a p0_8.n p0_8.c]⟩, .int .i64 p1, .bool p2] h R := fnI (A := (.s .z (.s .z (.s .z (.s (.s .z (.b (.l [(8, .one (.slice))] (.s .z (.s (.b (.s .z (.b (.l [(8, .one (.slice)), (30, .one (.int .i64))] (.s .z (.s .z (.s (.b (.s .z (.s .z (.j [(11, .one (.int .i64)), (12, .one (.int .i64))] .z .z)))) .z))))))) .z))))) .z))))) (by kernel_rfl) H

def W69 (p0_1 : ByteArray) (p0_2 p0_3 : Sl) (p0_4 p0_5 p0_6 : Int) (p0_7 p0_8 : Sl) (h : Heap) (R : Value → Heap → Prop) : Prop :=
 (∀ h9 : Heap, h9 = h.push (.cells ⟨[.string p0_1, .slice p0_2.a p0_2.n p0_2.c, .slice p0_3.a p0_3.n p0_3.c, .int .i64 p0_4, .int .i64 p0_5, .int .i64 p0_6, .slice p0_7.a p0_7.n p0_7.c, .slice p0_8.a p0_8.n p0_8.c]⟩ 59) →
 (∃ (x10 : ByteArray) (x11 x12 : Sl) (x13 x14 x15 : Int) (x16 x17 : Sl), atC h9 ⟨h.size, 0, none⟩ [.string x10, .slice x11.a x11.n x11.c, .slice x12.a x12.n x12.c, .int .i64 x13, .int .i64 x14, .int .i64 x15, .slice x16.a x16.n x16.c, .slice x17.a x17.n x17.c] ∧
 (Fn Tryz.prog 116 #[.agg ⟨[.string x10, .slice x11.a x11.n x11.c, .slice x12.a x12.n x12.c, .int .i64 x13, .int .i64 x14, .int .i64 x15, .slice x16.a x16.n x16.c, .slice x17.a x17.n x17.c]⟩] h9
 (fun v18 h20 => ∃ x19 : Bool, v18 = .bool x19 ∧
 (sB x19
 ((∃ (x21 : ByteArray) (x22 x23 : Sl) (x24 x25 x26 : Int) (x27 x28 : Sl), atC h20 ⟨h.size, 0, none⟩ [.string x21, .slice x22.a x22.n x22.c, .slice x23.a x23.n x23.c, .int .i64 x24, .int .i64 x25, .int .i64 x26, .slice x27.a x27.n x27.c, .slice x28.a x28.n x28.c] ∧
 (Fn Tryz.prog 117 #[.agg ⟨[.string x21, .slice x22.a x22.n x22.c, .slice x23.a x23.n x23.c, .int .i64 x24, .int .i64 x25, .int .i64 x26, .slice x27.a x27.n x27.c, .slice x28.a x28.n x28.c]⟩] h20
 (fun v29 h31 => ∃ x30 : Bool, v29 = .bool x30 ∧
 (sB x30
 ((∃ x32 : Sl, hc h31 ⟨h.size, 2, none⟩ = some (.slice x32.a x32.n x32.c) ∧
 (Fn Tryz.prog 118 #[.slice x32.a x32.n x32.c] h31
 (fun v33 h35 => ∃ x34 : Bool, v33 = .bool x34 ∧
 (sB x34
 ((∃ (x36 : ByteArray) (x37 x38 : Sl) (x39 x40 x41 : Int) (x42 x43 : Sl), atC h35 ⟨h.size, 0, none⟩ [.string x36, .slice x37.a x37.n x37.c, .slice x38.a x38.n x38.c, .int .i64 x39, .int .i64 x40, .int .i64 x41, .slice x42.a x42.n x42.c, .slice x43.a x43.n x43.c] ∧
 (Fn Tryz.prog 119 #[.agg ⟨[.string x36, .slice x37.a x37.n x37.c, .slice x38.a x38.n x38.c, .int .i64 x39, .int .i64 x40, .int .i64 x41, .slice x42.a x42.n x42.c, .slice x43.a x43.n x43.c]⟩] h35
 (fun v44 h46 => ∃ x45 : Bool, v44 = .bool x45 ∧
 (sB x45
 ((∃ (x47 : ByteArray) (x48 x49 : Sl) (x50 x51 x52 : Int) (x53 x54 : Sl), atC h46 ⟨h.size, 0, none⟩ [.string x47, .slice x48.a x48.n x48.c, .slice x49.a x49.n x49.c, .int .i64 x50, .int .i64 x51, .int .i64 x52, .slice x53.a x53.n x53.c, .slice x54.a x54.n x54.c] ∧
 (Fn Tryz.prog 120 #[.agg ⟨[.string x47, .slice x48.a x48.n x48.c, .slice x49.a x49.n x49.c, .int .i64 x50, .int .i64 x51, .int .i64 x52, .slice x53.a x53.n x53.c, .slice x54.a x54.n x54.c]⟩] h46
 (fun v55 h57 => ∃ x56 : Bool, v55 = .bool x56 ∧
 (sB x56
 ((∃ (x58 : ByteArray) (x59 x60 : Sl) (x61 x62 x63 : Int) (x64 x65 : Sl), atC h57 ⟨h.size, 0, none⟩ [.string x58, .slice x59.a x59.n x59.c, .slice x60.a x60.n x60.c, .int .i64 x61, .int .i64 x62, .int .i64 x63, .slice x64.a x64.n x64.c, .slice x65.a x65.n x65.c] ∧
 (∃ x66 : Int, hc h57 ⟨h.size, 4, none⟩ = some (.int .i64 x66) ∧
 (Fn Tryz.prog 122 #[.agg ⟨[.string x58, .slice x59.a x59.n x59.c, .slice x60.a x60.n x60.c, .int .i64 x61, .int .i64 x62, .int .i64 x63, .slice x64.a x64.n x64.c, .slice x65.a x65.n x65.c]⟩, .int .i64 x66, .bool false] h57
 (fun v67 h69 => ∃ x68 : Sl, v67 = .slice x68.a x68.n x68.c ∧
 (Fn Tryz.prog 121 #[.slice x68.a x68.n x68.c, .int .i64 (-1)] h69
 (fun v70 h72 => ∃ x71 : Bool, v70 = .bool x71 ∧
 (sB (!x71)
 ((∃ (x73 : ByteArray) (x74 x75 : Sl) (x76 x77 x78 : Int) (x79 x80 : Sl), atC h72 ⟨h.size, 0, none⟩ [.string x73, .slice x74.a x74.n x74.c, .slice x75.a x75.n x75.c, .int .i64 x76, .int .i64 x77, .int .i64 x78, .slice x79.a x79.n x79.c, .slice x80.a x80.n x80.c] ∧
 (∃ x81 : Int, hc h72 ⟨h.size, 5, none⟩ = some (.int .i64 x81) ∧
 (Fn Tryz.prog 122 #[.agg ⟨[.string x73, .slice x74.a x74.n x74.c, .slice x75.a x75.n x75.c, .int .i64 x76, .int .i64 x77, .int .i64 x78, .slice x79.a x79.n x79.c, .slice x80.a x80.n x80.c]⟩, .int .i64 x81, .bool true] h72
 (fun v82 h84 => ∃ x83 : Sl, v82 = .slice x83.a x83.n x83.c ∧
 (Fn Tryz.prog 121 #[.slice x83.a x83.n x83.c, .int .i64 (-1)] h84
 (fun v85 h87 => ∃ x86 : Bool, v85 = .bool x86 ∧
 R (.bool (!x86)) h87)))))))
 (R (.bool false) h72)))))))))
 (R (.bool false) h57))))))
 (R (.bool false) h46))))))
 (R (.bool false) h35))))))
 (R (.bool false) h31))))))
 (R (.bool false) h20))))))
theorem vc69 (p0_1 : ByteArray) (p0_2 p0_3 : Sl) (p0_4 p0_5 p0_6 : Int) (p0_7 p0_8 : Sl) (h : Heap) (R : Value → Heap → Prop) (H : W69 p0_1 p0_2 p0_3 p0_4 p0_5 p0_6 p0_7 p0_8 h R) : Fn Tryz.prog 69 #[.agg ⟨[.string p0_1, .slice p0_2.a p0_2.n p0_2.c, .slice p0_3.a p0_3.n p0_3.c, .int .i64 p0_4, .int .i64 p0_5, .int .i64 p0_6, .slice p0_7.a p0_7.n p0_7.c, .slice p0_8.a p0_8.n p0_8.c]⟩] h R := fnI (A := .z) (by kernel_rfl) H

end Go.VC
end

section
/- Breadth-first search, on lists. No program here. -/
namespace Go.VC

def src_ (bk : Bool) (x : Ed) : Int := if bk then x.t else x.f
def dst_ (bk : Bool) (x : Ed) : Int := if bk then x.f else x.t
def Adj (es : List Ed) (bk : Bool) (a b : Int) : Prop := ∃ x ∈ es, src_ bk x = a ∧ dst_ bk x = b
inductive Rch (es : List Ed) (bk : Bool) (a : Int) : Int → Prop where
  | refl : Rch es bk a a
  | step {b c : Int} : Rch es bk a b → Adj es bk b c → Rch es bk a c
def Vis (D : List Int) (v : Int) : Prop := 0 ≤ v ∧ ∃ d, D[v.toNat]? = some d ∧ 0 ≤ d
structure BF (es : List Ed) (bk : Bool) (n : Nat) (s : Int) (D T : List Int) : Prop where
  len : D.length = n
  src : Vis D s
  r : ∀ v, Vis D v → Rch es bk s v
  t : ∀ t ∈ T, Vis D t
  c : ∀ v w, Vis D v → v ∉ T → Adj es bk v w → Vis D w
  b : ∀ d ∈ D, -1 ≤ d ∧ d + D.count (-1) ≤ 200
theorem vis_set {D : List Int} {b d v : Int} (hb0 : 0 ≤ b) (hb : b < D.length) (hd : 0 ≤ d) : Vis (D.set b.toNat d) v ↔ v = b ∨ Vis D v := by
  unfold Vis
  constructor
  · rintro ⟨h0, e, he, h1⟩
    by_cases hvb : v = b
    · exact .inl hvb
    · rw [List.getElem?_set_ne (by omega)] at he
      exact .inr ⟨h0, e, he, h1⟩
  · rintro (rfl | ⟨h0, e, he, h1⟩)
    · exact ⟨hb0, d, by rw [List.getElem?_set_self (by omega)], hd⟩
    · by_cases hvb : v = b
      · subst hvb; exact ⟨hb0, d, by rw [List.getElem?_set_self (by omega)], hd⟩
      · exact ⟨h0, e, by rw [List.getElem?_set_ne (by omega)]; exact he, h1⟩
theorem BF.push {es : List Ed} {bk : Bool} {n : Nat} {s : Int} {D T : List Int} (h : BF es bk n s D T) {a b da db : Int} (ha : Vis D a) (hda : D[a.toNat]? = some da) (hb0 : 0 ≤ b) (hb : D[b.toNat]? = some db) (hneg : db < 0) (hab : Adj es bk a b) :
    BF es bk n s (D.set b.toNat (da + 1)) (T ++ [b]) ∧ (D.set b.toNat (da + 1)).count (-1) + 1 = D.count (-1) ∧ 0 ≤ da ∧ da + 1 ≤ 200 := by
  have hbl := (List.getElem?_eq_some_iff.1 hb).1
  have hbe := (List.getElem?_eq_some_iff.1 hb).2
  have hda0 : 0 ≤ da := by
    obtain ⟨_, e, he, h1⟩ := ha
    rw [hda] at he; cases he; exact h1
  have hdb : db = -1 := by have := (h.b db (List.mem_of_getElem? hb)).1; omega
  subst hdb
  have hvs : ∀ v, Vis (D.set b.toNat (da + 1)) v ↔ v = b ∨ Vis D v := fun v => vis_set hb0 (by omega) (by omega)
  have hpos : 0 < D.count (-1) := List.count_pos_iff.2 (List.mem_of_getElem? hb)
  have hcnt : (D.set b.toNat (da + 1)).count (-1) + 1 = D.count (-1) := by
    rw [List.count_set hbl, hbe]
    have : ((da + 1) == (-1 : Int)) = false := by simp; omega
    rw [this]
    simp; omega
  have hub := (h.b da (List.mem_of_getElem? hda)).2
  refine ⟨⟨by rw [List.length_set]; exact h.len, (hvs s).2 (.inr h.src), fun v hv => ?_, fun t ht => ?_, fun v w hv hn hvw => ?_, fun d hd => ?_⟩, hcnt, hda0, by omega⟩
  · rcases (hvs v).1 hv with rfl | hv
    · exact (h.r a ha).step hab
    · exact h.r v hv
  · rcases List.mem_append.1 ht with ht | ht
    · exact (hvs t).2 (.inr (h.t t ht))
    · rw [List.mem_singleton] at ht; exact (hvs t).2 (.inl ht)
  · rw [List.mem_append, List.mem_singleton, not_or] at hn
    rcases (hvs v).1 hv with rfl | hv
    · exact absurd rfl hn.2
    · exact (hvs w).2 (.inr (h.c v w hv hn.1 hvw))
  · rcases List.mem_or_eq_of_mem_set hd with hd | rfl
    · have := h.b d hd; omega
    · omega
theorem BF.start {es : List Ed} {bk : Bool} {n : Nat} {s : Int} (h0 : 0 ≤ s) (h1 : s < n) (hn : n ≤ 200) : BF es bk n s ((List.replicate n (-1 : Int)).set s.toNat 0) [s] := by
  have hl : s < (List.replicate n (-1 : Int)).length := by rw [List.length_replicate]; exact h1
  have hv : ∀ v, Vis ((List.replicate n (-1 : Int)).set s.toNat 0) v ↔ v = s := fun v => by
    rw [vis_set h0 hl (by omega)]
    refine ⟨fun h => h.elim id fun h => ?_, .inl⟩
    obtain ⟨_, d, hd, h2⟩ := h
    have := List.eq_of_mem_replicate (List.mem_of_getElem? hd)
    omega
  have hc : ((List.replicate n (-1 : Int)).set s.toNat 0).count (-1) ≤ 200 := Nat.le_trans List.count_le_length (by rw [List.length_set, List.length_replicate]; exact hn)
  refine ⟨by rw [List.length_set, List.length_replicate], (hv s).2 rfl, fun v h => ?_, fun t ht => ?_, fun v w h hn => ?_, fun d hd => ?_⟩
  · rw [(hv v).1 h]; exact .refl
  · rw [List.mem_singleton] at ht; exact (hv t).2 ht
  · rw [(hv v).1 h] at hn; exact absurd (List.mem_singleton.2 rfl) hn
  · rcases List.mem_or_eq_of_mem_set hd with hd | rfl
    · rw [List.eq_of_mem_replicate hd]; omega
    · omega
theorem BF.end_ {es : List Ed} {bk : Bool} {n : Nat} {s : Int} {D : List Int} (h : BF es bk n s D []) (v : Int) : Vis D v ↔ Rch es bk s v := by
  refine ⟨h.r v, fun hr => ?_⟩
  induction hr with
  | refl => exact h.src
  | step _ hbc ih => exact h.c _ _ ih (by simp) hbc
theorem BF.all {es : List Ed} {bk : Bool} {n : Nat} {s : Int} {D : List Int} (h : BF es bk n s D []) : (-1 : Int) ∈ D ↔ ¬ ∀ v : Int, 0 ≤ v → v < n → Rch es bk s v := by
  constructor
  · intro hm hall
    obtain ⟨j, hj⟩ := List.mem_iff_getElem?.1 hm
    have hl := (List.getElem?_eq_some_iff.1 hj).1
    obtain ⟨_, d, hd, h0⟩ := (h.end_ (j : Int)).2 (hall j (by omega) (by have := h.len; omega))
    rw [show ((j : Int)).toNat = j from rfl, hj] at hd; cases hd; omega
  · intro hn
    apply Classical.byContradiction
    intro hm
    apply hn
    intro v h0 hv
    have hl : v.toNat < D.length := by have := h.len; omega
    refine (h.end_ v).1 ⟨h0, D[v.toNat], List.getElem?_eq_getElem hl, ?_⟩
    have h1 := (h.b _ (List.getElem_mem hl)).1
    have h2 : D[v.toNat] ≠ -1 := fun e => hm (e ▸ List.getElem_mem hl)
    omega
end Go.VC
end

section
/- Contract: slices.Repeat of -1. -/
namespace Go.VC
open Go.Proofs Go.LexS
set_option maxRecDepth 100000

theorem und42 : Tryz.prog.underlying 49 = some (.slice 3) := by kernel_rfl
theorem size3 : (Tryz.prog.info? 3).map (·.size) = some 1 := by kernel_rfl
theorem made3 (n : Nat) : madeL Tryz.prog 3 n = List.replicate n (.int .i64 0) := by
  have hz : zeroC Tryz.prog 3 = [.int .i64 0] := by kernel_rfl
  unfold madeL
  rw [hz]
  induction n with
  | zero => rfl
  | succ n ih => rw [List.replicate_succ, List.flatten_cons, ih]; rfl
theorem rep_of {xs : List Value} {n : Nat} (hl : xs.length = n) (h : ∀ j, j < n → xs[j]? = some (.int .i64 (-1))) : xs = ((List.replicate n (-1 : Int)).map inC).flatten := by
  subst hl
  induction xs with
  | nil => rfl
  | cons a r ih =>
    have h0 := h 0 (by simp)
    simp only [List.getElem?_cons_zero, Option.some.injEq] at h0
    rw [List.length_cons, List.replicate_succ, List.map_cons, List.flatten_cons, ← ih fun j hj => by have := h (j + 1) (by simpa using hj); simpa using this, h0]
    rfl
theorem wu64b {n : Int} (h0 : 0 ≤ n) (h1 : n < 18446744073709551616) : IntKind.wrap .u64 n = n := by
  simp [IntKind.wrap, IntKind.signed, IntKind.bits]; omega
theorem splice_rep {xs : List Value} {o m : Nat} (hm : o + m ≤ xs.length) (h : ∀ j, j < o → xs[j]? = some (.int .i64 (-1))) : (splice xs o (List.replicate m (.int .i64 (-1)))).length = xs.length ∧ ∀ j, j < o + m → (splice xs o (List.replicate m (.int .i64 (-1))))[j]? = some (.int .i64 (-1)) := by
  unfold splice
  refine ⟨by simp only [List.length_append, List.length_take, List.length_drop, List.length_replicate]; omega, fun j hj => ?_⟩
  by_cases hjo : j < o
  · rw [List.append_assoc, List.getElem?_append_left (by rw [List.length_take]; omega), List.getElem?_take, if_pos hjo]; exact h j hjo
  · rw [List.getElem?_append_left (by simp only [List.length_append, List.length_take, List.length_replicate]; omega), List.getElem?_append_right (by rw [List.length_take]; omega), List.length_take, List.getElem?_replicate, if_pos (by omega)]
theorem ext_but {h h1 h2 : Heap} {b : Nat} (E : Ext h h1) (B : But b h1 h2) (hb : h.size ≤ b) : Ext h h2 := ⟨by rw [B.1]; exact E.1, fun k hk => (B.2 k (by omega)).trans (E.2 k hk)⟩
theorem repeat60 (n : Int) (h0 : 0 ≤ n) (h1 : n ≤ 200) (b : Nat) (h : Heap) (hb : hc h ⟨b, 0, none⟩ = some (.int .i64 (-1))) :
    Fn Tryz.prog 171 #[.slice (some ⟨b, 0, none⟩) 1 1, .int .i64 n] h fun v h' => Ext h h' ∧ ∃ s : Sl, v = .slice s.a s.n s.c ∧ OwnS h' h.size 3 1 s ((List.replicate n.toNat (-1)).map inC).flatten := by
  obtain ⟨N, rfl⟩ : ∃ N : Nat, n = N := ⟨n.toNat, by omega⟩
  have hN : N ≤ 200 := by omega
  have hbl : b < h.size := by
    rcases Nat.lt_or_ge b h.size with hlt | hge
    · exact hlt
    · unfold hc at hb
      rw [Array.getElem?_eq_none (by simpa using hge)] at hb
      cases hb
  apply vc171 ⟨some ⟨b, 0, none⟩, 1, 1⟩; unfold W171
  refine ⟨fun h' => h' = h, sB_f (decide_eq_false (by omega)) rfl, ?_⟩
  rintro - _ rfl
  rw [show IntKind.wrap .u64 (((1 : Nat) : Int)) = ((1 : Nat) : Int) from wu64b (by omega) (by omega), show IntKind.wrap .u64 (N : Int) = ((N : Nat) : Int) from wu64b (by omega) (by omega)]
  refine (mul106 1 N (by omega) (by omega) _).mono ?_
  rintro _ h6 ⟨rfl, rfl⟩
  rw [show 1 * N / 18446744073709551616 = 0 by omega, show 1 * N % 18446744073709551616 = N by omega]
  refine ⟨_, _, rfl, fun h' => h' = h6, sB_f rfl (sB_f (decide_eq_false (by omega)) rfl), ?_⟩
  rintro - h8 rfl
  rw [show IntKind.wrap .i64 ((N : Nat) : Int) = N from w64 (by omega) (by omega)]
  refine ⟨⟨by omega, by omega, by omega⟩, ?_⟩
  rw [Int.toNat_natCast, made3]
  intro h9 hh9
  have o9 : Own h9 h8.size (List.replicate N (.int .i64 0)) 3 := by rw [hh9]; exact Own.push
  have E9 : Ext h8 h9 := by rw [hh9]; exact Ext.push _ _
  have hb9 : hc h9 ⟨b, 0, none⟩ = some (.int .i64 (-1)) := by rw [E9.hc hbl]; exact hb
  refine Cpy_row und42 size3 o9 (g2 := b) (o2 := 0) (l := List.replicate (min 1 N) (.int .i64 (-1))) (by simp) ?_ (by simp; omega) (fun v hv => by rw [List.eq_of_mem_replicate hv]; rfl) fun h11 B11 o11 => ?_
  · intro j c hj
    rw [List.getElem?_replicate] at hj
    split at hj
    · cases hj; rw [show 0 + j = 0 by omega]; exact hb9
    · cases hj
  obtain ⟨e1, e2⟩ := splice_rep (xs := List.replicate N (.int .i64 0)) (o := 0) (m := min 1 N) (by simp; omega) (fun j hj => by omega)
  generalize hxs : splice (List.replicate N (Value.int .i64 0)) 0 (List.replicate (min 1 N) (.int .i64 (-1))) = xs at o11 e1 e2
  rw [List.length_replicate] at e1
  have E11 := ext_but E9 B11 (Nat.le_refl _)
  clear hxs B11 o9
  rw [List.length_replicate]
  refine ⟨fun x h' m => ∃ (i : Nat) (xs : List Value), x = i ∧ i ≤ N ∧ (1 ≤ i ∨ N = 0) ∧ m = N - i ∧ Own h' h8.size xs 3 ∧ xs.length = N ∧ (∀ j, j < i → xs[j]? = some (.int .i64 (-1))) ∧ Ext h8 h',
    ⟨_, min 1 N, xs, rfl, by omega, by omega, rfl, o11, e1, fun j hj => e2 j (by omega), E11⟩, ?_⟩
  rintro - x h16 m ⟨i, xs, rfl, hi, hi1, rfl, o16, hl, hall, E16⟩
  refine sB_intro (fun c => ?_) (fun c => ?_)
  · replace c := lt_t c
    refine ⟨⟨by omega, by omega, by omega⟩, ⟨by omega, by omega, by omega⟩, ?_⟩
    rw [show Int.toNat ((i : Nat) : Int) = i from Int.toNat_natCast i, show Int.toNat ((N : Nat) : Int) = N from Int.toNat_natCast N, show Int.toNat 0 = 0 from rfl, subA_zero, subA_some c]
    refine Cpy_row und42 size3 o16 (g2 := h8.size) (o2 := 0) (l := List.replicate (min i (N - i)) (.int .i64 (-1))) (by simp) ?_ (by simp; omega) (fun v hv => by rw [List.eq_of_mem_replicate hv]; rfl) fun h18 B18 o18 => ?_
    · intro j c hj
      rw [List.getElem?_replicate] at hj
      split at hj
      · cases hj; rw [o16.hc]; exact hall _ (by omega)
      · cases hj
    obtain ⟨e3, e4⟩ := splice_rep (xs := xs) (o := 0 + i * 1) (m := min i (N - i)) (by omega) (fun j hj => hall j (by omega))
    rw [List.length_replicate]
    refine ⟨N - (i + min i (N - i)), by omega, i + min i (N - i), _, by rw [w64 (by omega) (by omega)]; omega, by omega, by omega, rfl, o18, by rw [e3]; exact hl, fun j hj => e4 j (by omega), ext_but E16 B18 (Nat.le_refl _)⟩
  · replace c := lt_f c
    have hiN : i = N := by omega
    subst hiN
    refine ⟨E16, ⟨some ⟨h8.size, 0, none⟩, i, i⟩, rfl, ?_, .inr ⟨h8.size, ⟨xs⟩, rfl, Nat.le_refl _, o16, Nat.le_refl _, ?_, ?_, ?_⟩⟩
    · rw [← rep_of hl hall]; show xs.length = i * 1; omega
    · show i ≤ 9223372036854775807; omega
    · show xs.length = i * 1; omega
    · show xs.take (i * 1) = _
      rw [List.take_of_length_le (by omega)]; exact rep_of hl hall
end Go.VC
end
