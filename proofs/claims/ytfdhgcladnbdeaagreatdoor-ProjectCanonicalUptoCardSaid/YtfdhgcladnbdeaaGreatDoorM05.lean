/- Texts of this claim, joined: PjVcA, PjA, VcMono, VcSort, PjVcJ, PjCa, PjShelf, PjSh, VcClr. -/
import Derived.Test.YtfdhgcladnbdeaaGreatDoorM02
import Derived.Test.YtfdhgcladnbdeaaGreatDoorProg
import Derived.KernelRfl
import Derived.Test.YtfdhgcladnbdeaaGreatDoorM03
import Derived.Lib.Split
import Derived.Shelf.SlSortCmp.NoneTotal
import Derived.Test.YtfdhgcladnbdeaaGreatDoorM04
import Derived.Shelf.Strings.Split
import Derived.Shelf.Bits.Mul64
import Derived.Shelf.Spec.TrailingZeros
import Derived.Shelf.SlLaysF0
import Derived.Ground.NamesProg
import Derived.Ground.Names7Prog
import Derived.Ground.SlsfProg
set_option linter.unusedVariables false
set_option linter.unusedSimpArgs false

section
namespace Go.VC
open Go.Proofs
set_option maxRecDepth 100000
set_option linter.unusedVariables false

/- farandole/lex.IsName
 loop rrlrb: x_7:Int -/
def W189 (p0 : ByteArray) (h : Heap) (R : Value → Heap → Prop) : Prop :=
 (sB ((ByteArray.toList p0) == (ByteArray.toList ⟨#[]⟩))
 (R (.bool false) h)
 ((sB (decide ((ByteArray.size p0 : Int) > 16))
 (R (.bool false) h)
 (((0 ≤ (0 : Int) ∧ (0 : Int) < (ByteArray.size p0 : Nat)) ∧
 (Fn Tryz.prog 221 #[.int .u8 (byteAt p0 (Int.toNat 0) : Int)] h
 (fun v1 h3 => ∃ x2 : Bool, v1 = .bool x2 ∧
 (sB (!x2)
 (R (.bool false) h3)
 ((∃ I4 : Int → Heap → Nat → Prop, (∃ m5, I4 0 h3 m5) ∧
 (∀ (_ : Env) (x_7 : Int) (h8 : Heap) (m6 : Nat), I4 x_7 h8 m6 →
 (sB (decide (x_7 < (ByteArray.size p0 : Int)))
 (((0 ≤ (x_7 : Int) ∧ (x_7 : Int) < (ByteArray.size p0 : Nat)) ∧
 (Fn Tryz.prog 222 #[.int .u8 (byteAt p0 (Int.toNat x_7) : Int)] h8
 (fun v9 h11 => ∃ x10 : Bool, v9 = .bool x10 ∧
 (sB (!x10)
 (R (.bool false) h11)
 ((∃ m12, m12 < m6 ∧ I4 (IntKind.wrap .i64 (x_7 + 1)) h11 m12)))))))
 (R (.bool true) h8)))))))))))))
theorem vc189e (p0 : ByteArray) (h : Heap) (R : Value → Heap → Prop) : W189 p0 h R = fnW Tryz.prog 189 (.s .z (.s .z (.s (.s .z (.b (.l [(19, .one (.int .i64))] .z))) .z))) #[.string p0] h R := by kernel_rfl
theorem vc189 (p0 : ByteArray) (h : Heap) (R : Value → Heap → Prop) (H : W189 p0 h R) : Fn Tryz.prog 189 #[.string p0] h R := fnI (vc189e p0 h R) H

def W132 (p0 : ByteArray) (h : Heap) (R : Value → Heap → Prop) : Prop :=
 (∀ h1 : Heap, h1 = h.push (.cells ⟨[.string ⟨#[]⟩, .string ⟨#[]⟩, .string ⟨#[]⟩, .string ⟨#[]⟩, .string ⟨#[]⟩, .string ⟨#[]⟩, .string ⟨#[]⟩, .string ⟨#[]⟩, .string ⟨#[]⟩, .string ⟨#[]⟩, .string ⟨#[]⟩, .string ⟨#[]⟩, .string ⟨#[]⟩, .string ⟨#[]⟩, .string ⟨#[]⟩, .string ⟨#[]⟩, .string ⟨#[]⟩, .string ⟨#[]⟩, .string ⟨#[]⟩, .string ⟨#[]⟩, .string ⟨#[]⟩, .string ⟨#[]⟩, .string ⟨#[]⟩, .string ⟨#[]⟩, .string ⟨#[]⟩, .string ⟨#[]⟩, .string ⟨#[]⟩, .string ⟨#[]⟩]⟩ 300) →
 (okAt h1 ⟨h.size, 0, none⟩ 28 ∧ ∀ h2 : Heap, h2 = hputs h1 ⟨h.size, 0, none⟩ 0 [.string ⟨#[97, 103, 97, 105, 110]⟩, .string ⟨#[97, 110, 100]⟩, .string ⟨#[97, 115]⟩, .string ⟨#[97, 116]⟩, .string ⟨#[99, 97, 108, 108]⟩, .string ⟨#[99, 104, 111, 105, 99, 101]⟩, .string ⟨#[101, 108, 115, 101]⟩, .string ⟨#[102, 114, 111, 109]⟩, .string ⟨#[105, 102]⟩, .string ⟨#[105, 110, 116]⟩, .string ⟨#[108, 101, 110]⟩, .string ⟨#[108, 111, 111, 112]⟩, .string ⟨#[109, 101, 115, 115, 97, 103, 101]⟩, .string ⟨#[111, 102]⟩, .string ⟨#[111, 102, 102, 101, 114]⟩, .string ⟨#[111, 110]⟩, .string ⟨#[111, 114]⟩, .string ⟨#[112, 97, 114]⟩, .string ⟨#[112, 108, 97, 121, 115]⟩, .string ⟨#[112, 114, 111, 116, 111, 99, 111, 108]⟩, .string ⟨#[115, 101, 114, 118, 105, 99, 101]⟩, .string ⟨#[116, 101, 120, 116]⟩, .string ⟨#[116, 105, 109, 101, 115]⟩, .string ⟨#[116, 111]⟩, .string ⟨#[118, 97, 114]⟩, .string ⟨#[119, 104, 101, 114, 101]⟩, .string ⟨#[119, 104, 105, 108, 101]⟩, .string ⟨#[119, 105, 116, 104, 105, 110]⟩] →
 (Fn Tryz.prog 189 #[.string p0] h2
 (fun v3 h5 => ∃ x4 : Bool, v3 = .bool x4 ∧
 (sB x4
 ((((0 : Int) ≤ (0 : Int) ∧ (0 : Int) ≤ ((28 : Nat) : Int) ∧ ((28 : Nat) : Int) ≤ (28 : Nat)) ∧
 (Fn Tryz.prog 133 #[.slice (subA (some ⟨h.size, 0, none⟩) (Int.toNat 0) 28 1) (Int.toNat (28 : Nat) - Int.toNat 0) (28 - Int.toNat 0), .string p0] h5
 (fun v6 h8 => ∃ x7 : Bool, v6 = .bool x7 ∧
 R (.bool (!x7)) h8))))
 (R (.bool false) h5))))))
theorem vc132e (p0 : ByteArray) (h : Heap) (R : Value → Heap → Prop) : W132 p0 h R = fnW Tryz.prog 132 .z #[.string p0] h R := by kernel_rfl
theorem vc132 (p0 : ByteArray) (h : Heap) (R : Value → Heap → Prop) (H : W132 p0 h R) : Fn Tryz.prog 132 #[.string p0] h R := fnI (vc132e p0 h R) H

def W221 (p0 : Int) (h : Heap) (R : Value → Heap → Prop) : Prop :=
 (sB (decide ((97 : Int) ≤ p0))
 ((sB (decide (p0 ≤ 122))
 (R (.bool true) h)
 ((sB (decide ((65 : Int) ≤ p0))
 (R (.bool (decide (p0 ≤ 90))) h)
 (R (.bool false) h)))))
 ((sB (decide ((65 : Int) ≤ p0))
 (R (.bool (decide (p0 ≤ 90))) h)
 (R (.bool false) h))))
theorem vc221e (p0 : Int) (h : Heap) (R : Value → Heap → Prop) : W221 p0 h R = fnW Tryz.prog 221 .z #[.int .u8 p0] h R := by kernel_rfl
theorem vc221 (p0 : Int) (h : Heap) (R : Value → Heap → Prop) (H : W221 p0 h R) : Fn Tryz.prog 221 #[.int .u8 p0] h R := fnI (vc221e p0 h R) H

def W222 (p0 : Int) (h : Heap) (R : Value → Heap → Prop) : Prop :=
 (Fn Tryz.prog 221 #[.int .u8 p0] h
 (fun v1 h3 => ∃ x2 : Bool, v1 = .bool x2 ∧
 (sB x2
 (R (.bool true) h3)
 ((Fn Tryz.prog 253 #[.int .u8 p0] h3
 (fun v4 h6 => ∃ x5 : Bool, v4 = .bool x5 ∧
 (sB x5
 (R (.bool true) h6)
 (R (.bool (p0 == 95)) h6))))))))
theorem vc222e (p0 : Int) (h : Heap) (R : Value → Heap → Prop) : W222 p0 h R = fnW Tryz.prog 222 .z #[.int .u8 p0] h R := by kernel_rfl
theorem vc222 (p0 : Int) (h : Heap) (R : Value → Heap → Prop) (H : W222 p0 h R) : Fn Tryz.prog 222 #[.int .u8 p0] h R := fnI (vc222e p0 h R) H

def W253 (p0 : Int) (h : Heap) (R : Value → Heap → Prop) : Prop :=
 (sB (decide ((48 : Int) ≤ p0))
 (R (.bool (decide (p0 ≤ 57))) h)
 (R (.bool false) h))
theorem vc253e (p0 : Int) (h : Heap) (R : Value → Heap → Prop) : W253 p0 h R = fnW Tryz.prog 253 .z #[.int .u8 p0] h R := by kernel_rfl
theorem vc253 (p0 : Int) (h : Heap) (R : Value → Heap → Prop) (H : W253 p0 h R) : Fn Tryz.prog 253 #[.int .u8 p0] h R := fnI (vc253e p0 h R) H

/- slices.Index[[]string,string]
 loop rlrb: x_4:Int -/
def W190 (p0 : Sl) (p1 : ByteArray) (h : Heap) (R : Value → Heap → Prop) : Prop :=
 (∃ I1 : Int → Heap → Nat → Prop, (∃ m2, I1 0 h m2) ∧
 (∀ (_ : Env) (x_4 : Int) (h5 : Heap) (m3 : Nat), I1 x_4 h5 m3 →
 (sB (decide (x_4 < (p0.n : Int)))
 ((NB p0.a fun b6 o7 => ((0 ≤ (x_4 : Int) ∧ (x_4 : Int) < (p0.n : Nat)) ∧
 (∃ x8 : ByteArray, hc h5 ⟨b6, o7 + Int.toNat x_4 * 1, none⟩ = some (.string x8) ∧
 (sB ((ByteArray.toList p1) == (ByteArray.toList x8))
 (R (.int .i64 x_4) h5)
 ((∃ m9, m9 < m3 ∧ I1 (IntKind.wrap .i64 (x_4 + 1)) h5 m9)))))))
 (R (.int .i64 (-1)) h5))))
theorem vc190e (p0 : Sl) (p1 : ByteArray) (h : Heap) (R : Value → Heap → Prop) : W190 p0 p1 h R = fnW Tryz.prog 190 (.s .z (.s (.s .z (.b (.l [(8, .one (.int .i64))] .z))) .z)) #[.slice p0.a p0.n p0.c, .string p1] h R := by kernel_rfl
theorem vc190 (p0 : Sl) (p1 : ByteArray) (h : Heap) (R : Value → Heap → Prop) (H : W190 p0 p1 h R) : Fn Tryz.prog 190 #[.slice p0.a p0.n p0.c, .string p1] h R := fnI (vc190e p0 p1 h R) H

def W133 (p0 : Sl) (p1 : ByteArray) (h : Heap) (R : Value → Heap → Prop) : Prop :=
 (Fn Tryz.prog 190 #[.slice p0.a p0.n p0.c, .string p1] h
 (fun v1 h3 => ∃ x2 : Int, v1 = .int .i64 x2 ∧
 R (.bool (decide (x2 ≥ 0))) h3))
theorem vc133e (p0 : Sl) (p1 : ByteArray) (h : Heap) (R : Value → Heap → Prop) : W133 p0 p1 h R = fnW Tryz.prog 133 .z #[.slice p0.a p0.n p0.c, .string p1] h R := by kernel_rfl
theorem vc133 (p0 : Sl) (p1 : ByteArray) (h : Heap) (R : Value → Heap → Prop) (H : W133 p0 p1 h R) : Fn Tryz.prog 133 #[.slice p0.a p0.n p0.c, .string p1] h R := fnI (vc133e p0 p1 h R) H

/- slices.IndexFunc[[]string,string]
 loop rlrb: x_4:Int -/
def W281 (p0 : Sl) (p1 : FuncId) (h : Heap) (R : Value → Heap → Prop) : Prop :=
 (∃ I1 : Int → Heap → Nat → Prop, (∃ m2, I1 0 h m2) ∧
 (∀ (_ : Env) (x_4 : Int) (h5 : Heap) (m3 : Nat), I1 x_4 h5 m3 →
 (sB (decide (x_4 < (p0.n : Int)))
 ((NB p0.a fun b6 o7 => ((0 ≤ (x_4 : Int) ∧ (x_4 : Int) < (p0.n : Nat)) ∧
 (∃ x8 : ByteArray, hc h5 ⟨b6, o7 + Int.toNat x_4 * 1, none⟩ = some (.string x8) ∧
 (bif callable Tryz.prog p1 then Fn Tryz.prog p1 #[.string x8] h5
 (fun v9 h11 => ∃ x10 : Bool, v9 = .bool x10 ∧
 (sB x10
 (R (.int .i64 x_4) h11)
 ((∃ m12, m12 < m3 ∧ I1 (IntKind.wrap .i64 (x_4 + 1)) h11 m12)))) else ExtW Tryz.prog p1 #[.string x8] h5
 (fun v9 h11 => ∃ x10 : Bool, v9 = .bool x10 ∧
 (sB x10
 (R (.int .i64 x_4) h11)
 ((∃ m12, m12 < m3 ∧ I1 (IntKind.wrap .i64 (x_4 + 1)) h11 m12)))))))))
 (R (.int .i64 (-1)) h5))))
theorem vc281e (p0 : Sl) (p1 : FuncId) (h : Heap) (R : Value → Heap → Prop) : W281 p0 p1 h R = fnW Tryz.prog 281 (.s .z (.s (.s .z (.b (.l [(8, .one (.int .i64))] .z))) .z)) #[.slice p0.a p0.n p0.c, .func (.func p1) #[] #[]] h R := by kernel_rfl
theorem vc281 (p0 : Sl) (p1 : FuncId) (h : Heap) (R : Value → Heap → Prop) (H : W281 p0 p1 h R) : Fn Tryz.prog 281 #[.slice p0.a p0.n p0.c, .func (.func p1) #[] #[]] h R := fnI (vc281e p0 p1 h R) H

def W254 (p0 : Sl) (p1 : Value) (h : Heap) (R : Value → Heap → Prop) : Prop :=
 (Fn Tryz.prog 281 #[.slice p0.a p0.n p0.c, p1] h
 (fun v1 h3 => ∃ x2 : Int, v1 = .int .i64 x2 ∧
 R (.bool (decide (x2 ≥ 0))) h3))
theorem vc254e (p0 : Sl) (p1 : Value) (h : Heap) (R : Value → Heap → Prop) : W254 p0 p1 h R = fnW Tryz.prog 254 .z #[.slice p0.a p0.n p0.c, p1] h R := by kernel_rfl
theorem vc254 (p0 : Sl) (p1 : Value) (h : Heap) (R : Value → Heap → Prop) (H : W254 p0 p1 h R) : Fn Tryz.prog 254 #[.slice p0.a p0.n p0.c, p1] h R := fnI (vc254e p0 p1 h R) H

def W256 (p0 : ByteArray) (h : Heap) (R : Value → Heap → Prop) : Prop :=
 (Fn Tryz.prog 132 #[.string p0] h
 (fun v1 h3 => ∃ x2 : Bool, v1 = .bool x2 ∧
 R (.bool (!x2)) h3))
theorem vc256e (p0 : ByteArray) (h : Heap) (R : Value → Heap → Prop) : W256 p0 h R = fnW Tryz.prog 256 .z #[.string p0] h R := by kernel_rfl
theorem vc256 (p0 : ByteArray) (h : Heap) (R : Value → Heap → Prop) (H : W256 p0 h R) : Fn Tryz.prog 256 #[.string p0] h R := fnI (vc256e p0 h R) H

def W224 (p0 : ByteArray) (h : Heap) (R : Value → Heap → Prop) : Prop :=
 (sB (decide ((ByteArray.size p0 : Int) ≤ 50))
 ((Fn Tryz.prog 255 #[.string p0, .string ⟨#[46]⟩] h
 (fun v1 h3 => ∃ x2 : Sl, v1 = .slice x2.a x2.n x2.c ∧
 (Fn Tryz.prog 254 #[.slice x2.a x2.n x2.c, .func (.func 256) #[] #[]] h3
 (fun v4 h6 => ∃ x5 : Bool, v4 = .bool x5 ∧
 R (.bool (!x5)) h6)))))
 (R (.bool false) h))
theorem vc224e (p0 : ByteArray) (h : Heap) (R : Value → Heap → Prop) : W224 p0 h R = fnW Tryz.prog 224 .z #[.string p0] h R := by kernel_rfl
theorem vc224 (p0 : ByteArray) (h : Heap) (R : Value → Heap → Prop) (H : W224 p0 h R) : Fn Tryz.prog 224 #[.string p0] h R := fnI (vc224e p0 h R) H

/- farandole/guard.fields
 loop rrlrb: out_4:Sl, x_5:Int -/
def W223 (p0 : Sl) (h : Heap) (R : Value → Heap → Prop) : Prop :=
 (∃ I1 : Sl → Int → Heap → Nat → Prop, (∃ m2, I1 ⟨none, 0, 0⟩ 0 h m2) ∧
 (∀ (_ : Env) (out_4 : Sl) (x_5 : Int) (h6 : Heap) (m3 : Nat), I1 out_4 x_5 h6 m3 →
 (sB (decide (x_5 < (p0.n : Int)))
 ((NB p0.a fun b7 o8 => ((0 ≤ (x_5 : Int) ∧ (x_5 : Int) < (p0.n : Nat)) ∧
 (∃ x9 : ByteArray, ∃ x10 : Sl, ∃ x11 : Int, ∃ x12 : Sl, ∃ x13 : Sl, atC h6 ⟨b7, o8 + Int.toNat x_5 * 5, none⟩ [.string x9, .slice x10.a x10.n x10.c, .int .i64 x11, .slice x12.a x12.n x12.c, .slice x13.a x13.n x13.c] ∧
 (∀ h14 : Heap, h14 = h6.push (.cells ⟨[.string ⟨#[]⟩, .slice none 0 0, .int .i64 0, .slice none 0 0, .slice none 0 0]⟩ 136) →
 (okAt h14 ⟨h6.size, 0, none⟩ 5 ∧ ∀ h15 : Heap, h15 = hputs h14 ⟨h6.size, 0, none⟩ 0 [.string x9, .slice x10.a x10.n x10.c, .int .i64 x11, .slice x12.a x12.n x12.c, .slice x13.a x13.n x13.c] →
 (∃ x16 : Sl, hc h15 ⟨h6.size, 1, none⟩ = some (.slice x16.a x16.n x16.c) ∧
 (App Tryz.prog 130 130 (.slice out_4.a out_4.n out_4.c) (.slice x16.a x16.n x16.c) h15 fun s17 h18 =>
 (∃ m19, m19 < m3 ∧ I1 s17 (IntKind.wrap .i64 (x_5 + 1)) h18 m19)))))))))
 (R (.slice out_4.a out_4.n out_4.c) h6))))
theorem vc223e (p0 : Sl) (h : Heap) (R : Value → Heap → Prop) : W223 p0 h R = fnW Tryz.prog 223 (.s .z (.s .z (.s (.s .z (.b (.l [(3, .one (.slice)), (8, .one (.int .i64))] .z))) .z))) #[.slice p0.a p0.n p0.c] h R := by kernel_rfl
theorem vc223 (p0 : Sl) (h : Heap) (R : Value → Heap → Prop) (H : W223 p0 h R) : Fn Tryz.prog 223 #[.slice p0.a p0.n p0.c] h R := fnI (vc223e p0 h R) H

def W226 (p0_1 : ByteArray) (p0_2 : Sl) (p0_3 : Int) (p0_4 : Sl) (p0_5 : Sl) (c0 : Addr) (h : Heap) (R : Value → Heap → Prop) : Prop :=
 (∀ h6 : Heap, h6 = h.push (.cells ⟨[.string p0_1, .slice p0_2.a p0_2.n p0_2.c, .int .i64 p0_3, .slice p0_4.a p0_4.n p0_4.c, .slice p0_5.a p0_5.n p0_5.c]⟩ 136) →
 (∃ x7 : ByteArray, hc h6 ⟨h.size, 0, none⟩ = some (.string x7) ∧
 (∃ x8 : ByteArray, hc h6 c0 = some (.string x8) ∧
 R (.bool ((ByteArray.toList x7) == (ByteArray.toList x8))) h6)))
theorem vc226e (p0_1 : ByteArray) (p0_2 : Sl) (p0_3 : Int) (p0_4 : Sl) (p0_5 : Sl) (c0 : Addr) (h : Heap) (R : Value → Heap → Prop) : W226 p0_1 p0_2 p0_3 p0_4 p0_5 c0 h R = fnW Tryz.prog 226 .z #[.agg ⟨[.string p0_1, .slice p0_2.a p0_2.n p0_2.c, .int .i64 p0_3, .slice p0_4.a p0_4.n p0_4.c, .slice p0_5.a p0_5.n p0_5.c]⟩, .pointer (some c0)] h R := by kernel_rfl
theorem vc226 (p0_1 : ByteArray) (p0_2 : Sl) (p0_3 : Int) (p0_4 : Sl) (p0_5 : Sl) (c0 : Addr) (h : Heap) (R : Value → Heap → Prop) (H : W226 p0_1 p0_2 p0_3 p0_4 p0_5 c0 h R) : Fn Tryz.prog 226 #[.agg ⟨[.string p0_1, .slice p0_2.a p0_2.n p0_2.c, .int .i64 p0_3, .slice p0_4.a p0_4.n p0_4.c, .slice p0_5.a p0_5.n p0_5.c]⟩, .pointer (some c0)] h R := fnI (vc226e p0_1 p0_2 p0_3 p0_4 p0_5 c0 h R) H

def W229 (p0_1 : ByteArray) (p0_2 : Int) (p0_3 : Int) (p0_4 : Int) (c0 : Addr) (h : Heap) (R : Value → Heap → Prop) : Prop :=
 (∀ h5 : Heap, h5 = h.push (.cells ⟨[.string p0_1, .int .i64 p0_2, .int .i64 p0_3, .int .i64 p0_4]⟩ 184) →
 (∃ x6 : ByteArray, hc h5 ⟨h.size, 0, none⟩ = some (.string x6) ∧
 (∃ x7 : ByteArray, hc h5 c0 = some (.string x7) ∧
 R (.bool ((ByteArray.toList x6) == (ByteArray.toList x7))) h5)))
theorem vc229e (p0_1 : ByteArray) (p0_2 : Int) (p0_3 : Int) (p0_4 : Int) (c0 : Addr) (h : Heap) (R : Value → Heap → Prop) : W229 p0_1 p0_2 p0_3 p0_4 c0 h R = fnW Tryz.prog 229 .z #[.agg ⟨[.string p0_1, .int .i64 p0_2, .int .i64 p0_3, .int .i64 p0_4]⟩, .pointer (some c0)] h R := by kernel_rfl
theorem vc229 (p0_1 : ByteArray) (p0_2 : Int) (p0_3 : Int) (p0_4 : Int) (c0 : Addr) (h : Heap) (R : Value → Heap → Prop) (H : W229 p0_1 p0_2 p0_3 p0_4 c0 h R) : Fn Tryz.prog 229 #[.agg ⟨[.string p0_1, .int .i64 p0_2, .int .i64 p0_3, .int .i64 p0_4]⟩, .pointer (some c0)] h R := fnI (vc229e p0_1 p0_2 p0_3 p0_4 c0 h R) H

def W227 (p0_1 : Int) (p0_2 : Int) (p0_3 : Int) (h : Heap) (R : Value → Heap → Prop) : Prop :=
 (∀ h4 : Heap, h4 = h.push (.cells ⟨[.int .i64 p0_1, .int .i64 p0_2, .int .i64 p0_3]⟩ 182) →
 (∃ x5 : Int, hc h4 ⟨h.size, 0, none⟩ = some (.int .i64 x5) ∧
 (sB (x5 == 1)
 ((∃ x6 : Int, hc h4 ⟨h.size, 1, none⟩ = some (.int .i64 x6) ∧
 (sB (decide (x6 ≥ (-1000)))
 ((∃ x7 : Int, hc h4 ⟨h.size, 1, none⟩ = some (.int .i64 x7) ∧
 (∃ x8 : Int, hc h4 ⟨h.size, 2, none⟩ = some (.int .i64 x8) ∧
 (sB (decide (x7 ≤ x8))
 ((∃ x9 : Int, hc h4 ⟨h.size, 2, none⟩ = some (.int .i64 x9) ∧
 R (.bool (decide (x9 ≤ 1000))) h4))
 (R (.bool false) h4)))))
 (R (.bool false) h4))))
 ((sB (x5 == 2)
 ((∃ x10 : Int, hc h4 ⟨h.size, 1, none⟩ = some (.int .i64 x10) ∧
 (sB (decide (x10 ≥ 0))
 ((∃ x11 : Int, hc h4 ⟨h.size, 1, none⟩ = some (.int .i64 x11) ∧
 (∃ x12 : Int, hc h4 ⟨h.size, 2, none⟩ = some (.int .i64 x12) ∧
 (sB (decide (x11 ≤ x12))
 ((∃ x13 : Int, hc h4 ⟨h.size, 2, none⟩ = some (.int .i64 x13) ∧
 R (.bool (decide (x13 ≤ 40))) h4))
 (R (.bool false) h4)))))
 (R (.bool false) h4))))
 (R (.bool false) h4))))))
theorem vc227e (p0_1 : Int) (p0_2 : Int) (p0_3 : Int) (h : Heap) (R : Value → Heap → Prop) : W227 p0_1 p0_2 p0_3 h R = fnW Tryz.prog 227 .z #[.agg ⟨[.int .i64 p0_1, .int .i64 p0_2, .int .i64 p0_3]⟩] h R := by kernel_rfl
theorem vc227 (p0_1 : Int) (p0_2 : Int) (p0_3 : Int) (h : Heap) (R : Value → Heap → Prop) (H : W227 p0_1 p0_2 p0_3 h R) : Fn Tryz.prog 227 #[.agg ⟨[.int .i64 p0_1, .int .i64 p0_2, .int .i64 p0_3]⟩] h R := fnI (vc227e p0_1 p0_2 p0_3 h R) H

/- slices.IndexFunc[[]farandole/api.Decl,farandole/api.Decl]
 loop rlrb: x_4:Int -/
def W257 (p0 : Sl) (p1 : FuncId) (p1c : Option Addr) (h : Heap) (R : Value → Heap → Prop) : Prop :=
 (∃ I1 : Int → Heap → Nat → Prop, (∃ m2, I1 0 h m2) ∧
 (∀ (_ : Env) (x_4 : Int) (h5 : Heap) (m3 : Nat), I1 x_4 h5 m3 →
 (sB (decide (x_4 < (p0.n : Int)))
 ((NB p0.a fun b6 o7 => ((0 ≤ (x_4 : Int) ∧ (x_4 : Int) < (p0.n : Nat)) ∧
 (∃ x8 : ByteArray, ∃ x9 : Sl, ∃ x10 : Int, ∃ x11 : Sl, ∃ x12 : Sl, atC h5 ⟨b6, o7 + Int.toNat x_4 * 5, none⟩ [.string x8, .slice x9.a x9.n x9.c, .int .i64 x10, .slice x11.a x11.n x11.c, .slice x12.a x12.n x12.c] ∧
 (bif callable Tryz.prog p1 then Fn Tryz.prog p1 #[.agg ⟨[.string x8, .slice x9.a x9.n x9.c, .int .i64 x10, .slice x11.a x11.n x11.c, .slice x12.a x12.n x12.c]⟩, .pointer p1c] h5
 (fun v13 h15 => ∃ x14 : Bool, v13 = .bool x14 ∧
 (sB x14
 (R (.int .i64 x_4) h15)
 ((∃ m16, m16 < m3 ∧ I1 (IntKind.wrap .i64 (x_4 + 1)) h15 m16)))) else ExtW Tryz.prog p1 #[.agg ⟨[.string x8, .slice x9.a x9.n x9.c, .int .i64 x10, .slice x11.a x11.n x11.c, .slice x12.a x12.n x12.c]⟩, .pointer p1c] h5
 (fun v13 h15 => ∃ x14 : Bool, v13 = .bool x14 ∧
 (sB x14
 (R (.int .i64 x_4) h15)
 ((∃ m16, m16 < m3 ∧ I1 (IntKind.wrap .i64 (x_4 + 1)) h15 m16)))))))))
 (R (.int .i64 (-1)) h5))))
theorem vc257e (p0 : Sl) (p1 : FuncId) (p1c : Option Addr) (h : Heap) (R : Value → Heap → Prop) : W257 p0 p1 p1c h R = fnW Tryz.prog 257 (.s .z (.s (.s .z (.b (.l [(8, .one (.int .i64))] .z))) .z)) #[.slice p0.a p0.n p0.c, .func (.func p1) #[] #[.pointer p1c]] h R := by kernel_rfl
theorem vc257 (p0 : Sl) (p1 : FuncId) (p1c : Option Addr) (h : Heap) (R : Value → Heap → Prop) (H : W257 p0 p1 p1c h R) : Fn Tryz.prog 257 #[.slice p0.a p0.n p0.c, .func (.func p1) #[] #[.pointer p1c]] h R := fnI (vc257e p0 p1 p1c h R) H

/- slices.IndexFunc[[]farandole/api.Field,farandole/api.Field]
 loop rlrb: x_4:Int -/
def W258 (p0 : Sl) (p1 : FuncId) (p1c : Option Addr) (h : Heap) (R : Value → Heap → Prop) : Prop :=
 (∃ I1 : Int → Heap → Nat → Prop, (∃ m2, I1 0 h m2) ∧
 (∀ (_ : Env) (x_4 : Int) (h5 : Heap) (m3 : Nat), I1 x_4 h5 m3 →
 (sB (decide (x_4 < (p0.n : Int)))
 ((NB p0.a fun b6 o7 => ((0 ≤ (x_4 : Int) ∧ (x_4 : Int) < (p0.n : Nat)) ∧
 (∃ x8 : ByteArray, ∃ x9 : Int, ∃ x10 : Int, ∃ x11 : Int, atC h5 ⟨b6, o7 + Int.toNat x_4 * 4, none⟩ [.string x8, .int .i64 x9, .int .i64 x10, .int .i64 x11] ∧
 (bif callable Tryz.prog p1 then Fn Tryz.prog p1 #[.agg ⟨[.string x8, .int .i64 x9, .int .i64 x10, .int .i64 x11]⟩, .pointer p1c] h5
 (fun v12 h14 => ∃ x13 : Bool, v12 = .bool x13 ∧
 (sB x13
 (R (.int .i64 x_4) h14)
 ((∃ m15, m15 < m3 ∧ I1 (IntKind.wrap .i64 (x_4 + 1)) h14 m15)))) else ExtW Tryz.prog p1 #[.agg ⟨[.string x8, .int .i64 x9, .int .i64 x10, .int .i64 x11]⟩, .pointer p1c] h5
 (fun v12 h14 => ∃ x13 : Bool, v12 = .bool x13 ∧
 (sB x13
 (R (.int .i64 x_4) h14)
 ((∃ m15, m15 < m3 ∧ I1 (IntKind.wrap .i64 (x_4 + 1)) h14 m15)))))))))
 (R (.int .i64 (-1)) h5))))
theorem vc258e (p0 : Sl) (p1 : FuncId) (p1c : Option Addr) (h : Heap) (R : Value → Heap → Prop) : W258 p0 p1 p1c h R = fnW Tryz.prog 258 (.s .z (.s (.s .z (.b (.l [(8, .one (.int .i64))] .z))) .z)) #[.slice p0.a p0.n p0.c, .func (.func p1) #[] #[.pointer p1c]] h R := by kernel_rfl
theorem vc258 (p0 : Sl) (p1 : FuncId) (p1c : Option Addr) (h : Heap) (R : Value → Heap → Prop) (H : W258 p0 p1 p1c h R) : Fn Tryz.prog 258 #[.slice p0.a p0.n p0.c, .func (.func p1) #[] #[.pointer p1c]] h R := fnI (vc258e p0 p1 p1c h R) H

def W225 (p0 : Sl) (p1 : Value) (h : Heap) (R : Value → Heap → Prop) : Prop :=
 (Fn Tryz.prog 257 #[.slice p0.a p0.n p0.c, p1] h
 (fun v1 h3 => ∃ x2 : Int, v1 = .int .i64 x2 ∧
 R (.bool (decide (x2 ≥ 0))) h3))
theorem vc225e (p0 : Sl) (p1 : Value) (h : Heap) (R : Value → Heap → Prop) : W225 p0 p1 h R = fnW Tryz.prog 225 .z #[.slice p0.a p0.n p0.c, p1] h R := by kernel_rfl
theorem vc225 (p0 : Sl) (p1 : Value) (h : Heap) (R : Value → Heap → Prop) (H : W225 p0 p1 h R) : Fn Tryz.prog 225 #[.slice p0.a p0.n p0.c, p1] h R := fnI (vc225e p0 p1 h R) H

def W228 (p0 : Sl) (p1 : Value) (h : Heap) (R : Value → Heap → Prop) : Prop :=
 (Fn Tryz.prog 258 #[.slice p0.a p0.n p0.c, p1] h
 (fun v1 h3 => ∃ x2 : Int, v1 = .int .i64 x2 ∧
 R (.bool (decide (x2 ≥ 0))) h3))
theorem vc228e (p0 : Sl) (p1 : Value) (h : Heap) (R : Value → Heap → Prop) : W228 p0 p1 h R = fnW Tryz.prog 228 .z #[.slice p0.a p0.n p0.c, p1] h R := by kernel_rfl
theorem vc228 (p0 : Sl) (p1 : Value) (h : Heap) (R : Value → Heap → Prop) (H : W228 p0 p1 h R) : Fn Tryz.prog 228 #[.slice p0.a p0.n p0.c, p1] h R := fnI (vc228e p0 p1 h R) H

/- farandole/guard.guarded
 loop rrrlrborrlbrrb: x_43:Int
 loop rrrlrb: x_30:Int
 loop rrlrb: x_10:Int -/
def W230 (p0_1 : Sl) (p0_2 : Sl) (p1 : Sl) (h : Heap) (R : Value → Heap → Prop) : Prop :=
 (∀ h3 : Heap, h3 = h.push (.cells ⟨[.slice p0_1.a p0_1.n p0_1.c, .slice p0_2.a p0_2.n p0_2.c]⟩ 134) →
 (∃ x4 : Sl, hc h3 ⟨h.size, 0, none⟩ = some (.slice x4.a x4.n x4.c) ∧
 (sB (decide ((x4.n : Int) > 20))
 (R (.bool false) h3)
 ((∃ x5 : Sl, hc h3 ⟨h.size, 1, none⟩ = some (.slice x5.a x5.n x5.c) ∧
 (sB (decide ((x5.n : Int) > 20))
 (R (.bool false) h3)
 ((∃ x6 : Sl, hc h3 ⟨h.size, 0, none⟩ = some (.slice x6.a x6.n x6.c) ∧
 (∃ I7 : Int → Heap → Nat → Prop, (∃ m8, I7 0 h3 m8) ∧
 (∀ (_ : Env) (x_10 : Int) (h11 : Heap) (m9 : Nat), I7 x_10 h11 m9 →
 (sB (decide (x_10 < (x6.n : Int)))
 ((NB x6.a fun b12 o13 => ((0 ≤ (x_10 : Int) ∧ (x_10 : Int) < (x6.n : Nat)) ∧
 (∃ x14 : Int, ∃ x15 : Int, ∃ x16 : Int, atC h11 ⟨b12, o13 + Int.toNat x_10 * 3, none⟩ [.int .i64 x14, .int .i64 x15, .int .i64 x16] ∧
 (∀ h17 : Heap, h17 = h11.push (.cells ⟨[.int .i64 0, .int .i64 0, .int .i64 0]⟩ 187) →
 (okAt h17 ⟨h11.size, 0, none⟩ 3 ∧ ∀ h18 : Heap, h18 = hputs h17 ⟨h11.size, 0, none⟩ 0 [.int .i64 x14, .int .i64 x15, .int .i64 x16] →
 (∃ x19 : Int, hc h18 ⟨h11.size, 0, none⟩ = some (.int .i64 x19) ∧
 (∃ x20 : Int, hc h18 ⟨h11.size, 1, none⟩ = some (.int .i64 x20) ∧
 (sB (decide ((imin x19 x20) < (-1)))
 (R (.bool false) h18)
 ((∃ x21 : Int, hc h18 ⟨h11.size, 0, none⟩ = some (.int .i64 x21) ∧
 (∃ x22 : Int, hc h18 ⟨h11.size, 1, none⟩ = some (.int .i64 x22) ∧
 (sB (decide ((imax x21 x22) ≥ (p1.n : Int)))
 (R (.bool false) h18)
 ((∃ x23 : Int, hc h18 ⟨h11.size, 2, none⟩ = some (.int .i64 x23) ∧
 (sB (decide (x23 < (-20000)))
 (R (.bool false) h18)
 ((∃ x24 : Int, hc h18 ⟨h11.size, 2, none⟩ = some (.int .i64 x24) ∧
 (sB (decide (x24 > 20000))
 (R (.bool false) h18)
 ((∃ m25, m25 < m9 ∧ I7 (IntKind.wrap .i64 (x_10 + 1)) h18 m25)))))))))))))))))))))
 ((∃ x26 : Sl, hc h11 ⟨h.size, 1, none⟩ = some (.slice x26.a x26.n x26.c) ∧
 (∃ I27 : Int → Heap → Nat → Prop, (∃ m28, I27 0 h11 m28) ∧
 (∀ (_ : Env) (x_30 : Int) (h31 : Heap) (m29 : Nat), I27 x_30 h31 m29 →
 (sB (decide (x_30 < (x26.n : Int)))
 ((NB x26.a fun b32 o33 => ((0 ≤ (x_30 : Int) ∧ (x_30 : Int) < (x26.n : Nat)) ∧
 (∃ x34 : Int, ∃ x35 : Int, atC h31 ⟨b32, o33 + Int.toNat x_30 * 2, none⟩ [.int .i64 x34, .int .i64 x35] ∧
 (∀ h36 : Heap, h36 = h31.push (.cells ⟨[.int .i64 0, .int .i64 0]⟩ 189) →
 (okAt h36 ⟨h31.size, 0, none⟩ 2 ∧ ∀ h37 : Heap, h37 = hputs h36 ⟨h31.size, 0, none⟩ 0 [.int .i64 x34, .int .i64 x35] →
 (∃ x38 : Int, ∃ x39 : Int, atC h37 ⟨h31.size, 0, none⟩ [.int .i64 x38, .int .i64 x39] ∧
 (∃ I40 : Int → Heap → Nat → Prop, (∃ m41, I40 0 h37 m41) ∧
 (∀ (_ : Env) (x_43 : Int) (h44 : Heap) (m42 : Nat), I40 x_43 h44 m42 →
 (sB (decide (x_43 < 2))
 (((0 ≤ (x_43 : Int) ∧ (x_43 : Int) < (2 : Nat)) ∧ ∃ x45 : Int, List.take 1 (List.drop (Int.toNat x_43 * 1) ([.int .i64 x38, .int .i64 x39] : List Value)) = [.int .i64 x45] ∧
 (sB (decide (x45 < 0))
 (R (.bool false) h44)
 ((sB (decide (x45 ≥ (p1.n : Int)))
 (R (.bool false) h44)
 ((NB p1.a fun b46 o47 => ((0 ≤ (x45 : Int) ∧ (x45 : Int) < (p1.n : Nat)) ∧
 (∃ x48 : Int, hc h44 ⟨b46, o47 + Int.toNat x45 * 4 + 1, none⟩ = some (.int .i64 x48) ∧
 (sB (x48 != 2)
 (R (.bool false) h44)
 ((∃ m49, m49 < m42 ∧ I40 (IntKind.wrap .i64 (x_43 + 1)) h44 m49))))))))))))
 ((∃ m50, m50 < m29 ∧ I27 (IntKind.wrap .i64 (x_30 + 1)) h44 m50))))))))))))
 (R (.bool true) h31)))))))))))))))))
theorem vc230e (p0_1 : Sl) (p0_2 : Sl) (p1 : Sl) (h : Heap) (R : Value → Heap → Prop) : W230 p0_1 p0_2 p1 h R = fnW Tryz.prog 230 (.s .z (.s .z (.s (.s .z (.b (.l [(24, .one (.int .i64))] .z))) (.s (.s .z (.b (.l [(58, .one (.int .i64))] (.s .z (.s .z (.s (.b (.s .z (.s .z (.b (.l [(63, .one (.int .i64))] .z))))) .z)))))) .z)))) #[.agg ⟨[.slice p0_1.a p0_1.n p0_1.c, .slice p0_2.a p0_2.n p0_2.c]⟩, .slice p1.a p1.n p1.c] h R := by kernel_rfl
theorem vc230 (p0_1 : Sl) (p0_2 : Sl) (p1 : Sl) (h : Heap) (R : Value → Heap → Prop) (H : W230 p0_1 p0_2 p1 h R) : Fn Tryz.prog 230 #[.agg ⟨[.slice p0_1.a p0_1.n p0_1.c, .slice p0_2.a p0_2.n p0_2.c]⟩, .slice p1.a p1.n p1.c] h R := fnI (vc230e p0_1 p0_2 p1 h R) H

/- farandole/guard.valid
 loop rrrrrlrborrlbrrrlrb: x_33:Int
 loop rrrrrlrb: at_7:Int, x_8:Int -/
def W191 (p0 : Sl) (h : Heap) (R : Value → Heap → Prop) : Prop :=
 (sB (decide ((p0.n : Int) > 40))
 (R (.bool false) h)
 ((Fn Tryz.prog 223 #[.slice p0.a p0.n p0.c] h
 (fun v1 h3 => ∃ x2 : Sl, v1 = .slice x2.a x2.n x2.c ∧
 (sB (decide ((x2.n : Int) > 24))
 (R (.bool false) h3)
 ((∃ I4 : Int → Int → Heap → Nat → Prop, (∃ m5, I4 0 0 h3 m5) ∧
 (∀ (_ : Env) (at_7 : Int) (x_8 : Int) (h9 : Heap) (m6 : Nat), I4 at_7 x_8 h9 m6 →
 (sB (decide (x_8 < (p0.n : Int)))
 ((NB p0.a fun b10 o11 => ((0 ≤ (x_8 : Int) ∧ (x_8 : Int) < (p0.n : Nat)) ∧
 (∃ x12 : ByteArray, ∃ x13 : Sl, ∃ x14 : Int, ∃ x15 : Sl, ∃ x16 : Sl, atC h9 ⟨b10, o11 + Int.toNat x_8 * 5, none⟩ [.string x12, .slice x13.a x13.n x13.c, .int .i64 x14, .slice x15.a x15.n x15.c, .slice x16.a x16.n x16.c] ∧
 (∀ h17 : Heap, h17 = h9.push (.cells ⟨[.string ⟨#[]⟩, .slice none 0 0, .int .i64 0, .slice none 0 0, .slice none 0 0]⟩ 136) →
 (okAt h17 ⟨h9.size, 0, none⟩ 5 ∧ ∀ h18 : Heap, h18 = hputs h17 ⟨h9.size, 0, none⟩ 0 [.string x12, .slice x13.a x13.n x13.c, .int .i64 x14, .slice x15.a x15.n x15.c, .slice x16.a x16.n x16.c] →
 (∃ x19 : ByteArray, hc h18 ⟨h9.size, 0, none⟩ = some (.string x19) ∧
 (Fn Tryz.prog 224 #[.string x19] h18
 (fun v20 h22 => ∃ x21 : Bool, v20 = .bool x21 ∧
 (sB (!x21)
 (R (.bool false) h22)
 ((∃ x23 : Sl, hc h22 ⟨h9.size, 1, none⟩ = some (.slice x23.a x23.n x23.c) ∧
 (sB (decide ((x23.n : Int) > 4))
 (R (.bool false) h22)
 ((∃ x24 : Int, hc h22 ⟨h9.size, 2, none⟩ = some (.int .i64 x24) ∧
 (sB (x24 != at_7)
 (R (.bool false) h22)
 ((((0 : Int) ≤ (0 : Int) ∧ (0 : Int) ≤ (x_8 : Int) ∧ (x_8 : Int) ≤ (p0.c : Nat)) ∧
 (Fn Tryz.prog 225 #[.slice (subA p0.a (Int.toNat 0) p0.c 5) (Int.toNat x_8 - Int.toNat 0) (p0.c - Int.toNat 0), .func (.func 226) #[] #[.pointer (some ⟨h9.size, 0, none⟩)]] h22
 (fun v25 h27 => ∃ x26 : Bool, v25 = .bool x26 ∧
 (sB x26
 (R (.bool false) h27)
 ((∃ x28 : Sl, hc h27 ⟨h9.size, 1, none⟩ = some (.slice x28.a x28.n x28.c) ∧
 (∃ x29 : Sl, hc h27 ⟨h9.size, 1, none⟩ = some (.slice x29.a x29.n x29.c) ∧
 (∃ I30 : Int → Heap → Nat → Prop, (∃ m31, I30 0 h27 m31) ∧
 (∀ (_ : Env) (x_33 : Int) (h34 : Heap) (m32 : Nat), I30 x_33 h34 m32 →
 (sB (decide (x_33 < (x29.n : Int)))
 ((NB x29.a fun b35 o36 => ((0 ≤ (x_33 : Int) ∧ (x_33 : Int) < (x29.n : Nat)) ∧
 (∃ x37 : ByteArray, ∃ x38 : Int, ∃ x39 : Int, ∃ x40 : Int, atC h34 ⟨b35, o36 + Int.toNat x_33 * 4, none⟩ [.string x37, .int .i64 x38, .int .i64 x39, .int .i64 x40] ∧
 (∀ h41 : Heap, h41 = h34.push (.cells ⟨[.string ⟨#[]⟩, .int .i64 0, .int .i64 0, .int .i64 0]⟩ 184) →
 (okAt h41 ⟨h34.size, 0, none⟩ 4 ∧ ∀ h42 : Heap, h42 = hputs h41 ⟨h34.size, 0, none⟩ 0 [.string x37, .int .i64 x38, .int .i64 x39, .int .i64 x40] →
 (∃ x43 : ByteArray, hc h42 ⟨h34.size, 0, none⟩ = some (.string x43) ∧
 (Fn Tryz.prog 132 #[.string x43] h42
 (fun v44 h46 => ∃ x45 : Bool, v44 = .bool x45 ∧
 (sB (!x45)
 (R (.bool false) h46)
 ((∃ x47 : Int, ∃ x48 : Int, ∃ x49 : Int, atC h46 ⟨h34.size, 1, none⟩ [.int .i64 x47, .int .i64 x48, .int .i64 x49] ∧
 (Fn Tryz.prog 227 #[.agg ⟨[.int .i64 x47, .int .i64 x48, .int .i64 x49]⟩] h46
 (fun v50 h52 => ∃ x51 : Bool, v50 = .bool x51 ∧
 (sB (!x51)
 (R (.bool false) h52)
 ((∃ x53 : Sl, hc h52 ⟨h9.size, 1, none⟩ = some (.slice x53.a x53.n x53.c) ∧
 (((0 : Int) ≤ (0 : Int) ∧ (0 : Int) ≤ (x_33 : Int) ∧ (x_33 : Int) ≤ (x53.c : Nat)) ∧
 (Fn Tryz.prog 228 #[.slice (subA x53.a (Int.toNat 0) x53.c 4) (Int.toNat x_33 - Int.toNat 0) (x53.c - Int.toNat 0), .func (.func 229) #[] #[.pointer (some ⟨h34.size, 0, none⟩)]] h52
 (fun v54 h56 => ∃ x55 : Bool, v54 = .bool x55 ∧
 (sB x55
 (R (.bool false) h56)
 ((∃ m57, m57 < m32 ∧ I30 (IntKind.wrap .i64 (x_33 + 1)) h56 m57)))))))))))))))))))))))
 ((∃ x58 : Sl, ∃ x59 : Sl, atC h34 ⟨h9.size, 3, none⟩ [.slice x58.a x58.n x58.c, .slice x59.a x59.n x59.c] ∧
 (Fn Tryz.prog 230 #[.agg ⟨[.slice x58.a x58.n x58.c, .slice x59.a x59.n x59.c]⟩, .slice x2.a x2.n x2.c] h34
 (fun v60 h62 => ∃ x61 : Bool, v60 = .bool x61 ∧
 (sB (!x61)
 (R (.bool false) h62)
 ((∃ m63, m63 < m6 ∧ I4 (IntKind.wrap .i64 (at_7 + (x28.n : Int))) (IntKind.wrap .i64 (x_8 + 1)) h62 m63))))))))))))))))))))))))))))))))))
 (R (.bool true) h9))))))))))
theorem vc191e (p0 : Sl) (h : Heap) (R : Value → Heap → Prop) : W191 p0 h R = fnW Tryz.prog 191 (.s .z (.s .z (.s .z (.s .z (.s .z (.s (.s .z (.b (.l [(4, .one (.int .i64)), (19, .one (.int .i64))] (.s .z (.s .z (.s (.b (.s .z (.s .z (.s .z (.s (.s .z (.b (.l [(55, .one (.int .i64))] .z))) .z))))) .z)))))) .z)))))) #[.slice p0.a p0.n p0.c] h R := by kernel_rfl
theorem vc191 (p0 : Sl) (h : Heap) (R : Value → Heap → Prop) (H : W191 p0 h R) : Fn Tryz.prog 191 #[.slice p0.a p0.n p0.c] h R := fnI (vc191e p0 h R) H

/- farandole/guard.bounds
 loop rrrrlrb: out_37:Sl, x_38:Int
 loop rrlrb: out_11:Sl, x_12:Int -/
def W192 (p0_1 : ByteArray) (p0_2 : Sl) (p0_3 : Int) (p0_4 : Sl) (p0_5 : Sl) (h : Heap) (R : Value → Heap → Prop) : Prop :=
 (∀ h6 : Heap, h6 = h.push (.cells ⟨[.string p0_1, .slice p0_2.a p0_2.n p0_2.c, .int .i64 p0_3, .slice p0_4.a p0_4.n p0_4.c, .slice p0_5.a p0_5.n p0_5.c]⟩ 136) →
 (∃ x7 : Sl, hc h6 ⟨h.size, 1, none⟩ = some (.slice x7.a x7.n x7.c) ∧
 (∃ I8 : Sl → Int → Heap → Nat → Prop, (∃ m9, I8 ⟨none, 0, 0⟩ 0 h6 m9) ∧
 (∀ (_ : Env) (out_11 : Sl) (x_12 : Int) (h13 : Heap) (m10 : Nat), I8 out_11 x_12 h13 m10 →
 (sB (decide (x_12 < (x7.n : Int)))
 ((NB x7.a fun b14 o15 => ((0 ≤ (x_12 : Int) ∧ (x_12 : Int) < (x7.n : Nat)) ∧
 (∃ x16 : ByteArray, ∃ x17 : Int, ∃ x18 : Int, ∃ x19 : Int, atC h13 ⟨b14, o15 + Int.toNat x_12 * 4, none⟩ [.string x16, .int .i64 x17, .int .i64 x18, .int .i64 x19] ∧
 (∀ h20 : Heap, h20 = h13.push (.cells ⟨[.string ⟨#[]⟩, .int .i64 0, .int .i64 0, .int .i64 0]⟩ 184) →
 (okAt h20 ⟨h13.size, 0, none⟩ 4 ∧ ∀ h21 : Heap, h21 = hputs h20 ⟨h13.size, 0, none⟩ 0 [.string x16, .int .i64 x17, .int .i64 x18, .int .i64 x19] →
 (∃ x22 : Int, hc h21 ⟨h.size, 2, none⟩ = some (.int .i64 x22) ∧
 (∃ x23 : Int, hc h21 ⟨h13.size, 1 + 2, none⟩ = some (.int .i64 x23) ∧
 (∃ x24 : Int, hc h21 ⟨h.size, 2, none⟩ = some (.int .i64 x24) ∧
 (∃ x25 : Int, hc h21 ⟨h13.size, 1 + 1, none⟩ = some (.int .i64 x25) ∧
 (∀ h26 : Heap, h26 = h21.push (.cells ⟨[.int .i64 (IntKind.wrap .i64 (x22 + x_12)), .int .i64 (-1), .int .i64 x23, .int .i64 (-1), .int .i64 (IntKind.wrap .i64 (x24 + x_12)), .int .i64 (IntKind.wrap .i64 (0 - x25))]⟩ 187) →
 (App Tryz.prog 131 131 (.slice out_11.a out_11.n out_11.c) (.slice (some ⟨h21.size, 0, none⟩) 2 2) h26 fun s27 h28 =>
 (∃ m29, m29 < m10 ∧ I8 s27 (IntKind.wrap .i64 (x_12 + 1)) h28 m29)))))))))))))
 ((∃ x30 : Sl, hc h13 ⟨h.size, 3, none⟩ = some (.slice x30.a x30.n x30.c) ∧
 (App Tryz.prog 131 131 (.slice out_11.a out_11.n out_11.c) (.slice x30.a x30.n x30.c) h13 fun s31 h32 =>
 (∃ x33 : Sl, hc h32 ⟨h.size, 3 + 1, none⟩ = some (.slice x33.a x33.n x33.c) ∧
 (∃ I34 : Sl → Int → Heap → Nat → Prop, (∃ m35, I34 s31 0 h32 m35) ∧
 (∀ (_ : Env) (out_37 : Sl) (x_38 : Int) (h39 : Heap) (m36 : Nat), I34 out_37 x_38 h39 m36 →
 (sB (decide (x_38 < (x33.n : Int)))
 ((NB x33.a fun b40 o41 => ((0 ≤ (x_38 : Int) ∧ (x_38 : Int) < (x33.n : Nat)) ∧
 (∃ x42 : Int, ∃ x43 : Int, atC h39 ⟨b40, o41 + Int.toNat x_38 * 2, none⟩ [.int .i64 x42, .int .i64 x43] ∧
 (∀ h44 : Heap, h44 = h39.push (.cells ⟨[.int .i64 0, .int .i64 0]⟩ 189) →
 (okAt h44 ⟨h39.size, 0, none⟩ 2 ∧ ∀ h45 : Heap, h45 = hputs h44 ⟨h39.size, 0, none⟩ 0 [.int .i64 x42, .int .i64 x43] →
 ((0 ≤ (0 : Int) ∧ (0 : Int) < (2 : Nat)) ∧
 (∃ x46 : Int, hc h45 ⟨h39.size, 0 + Int.toNat 0 * 1, none⟩ = some (.int .i64 x46) ∧
 ((0 ≤ (1 : Int) ∧ (1 : Int) < (2 : Nat)) ∧
 (∃ x47 : Int, hc h45 ⟨h39.size, 0 + Int.toNat 1 * 1, none⟩ = some (.int .i64 x47) ∧
 ((0 ≤ (1 : Int) ∧ (1 : Int) < (2 : Nat)) ∧
 (∃ x48 : Int, hc h45 ⟨h39.size, 0 + Int.toNat 1 * 1, none⟩ = some (.int .i64 x48) ∧
 ((0 ≤ (0 : Int) ∧ (0 : Int) < (2 : Nat)) ∧
 (∃ x49 : Int, hc h45 ⟨h39.size, 0 + Int.toNat 0 * 1, none⟩ = some (.int .i64 x49) ∧
 (∀ h50 : Heap, h50 = h45.push (.cells ⟨[.int .i64 x46, .int .i64 x47, .int .i64 0, .int .i64 x48, .int .i64 x49, .int .i64 0]⟩ 187) →
 (App Tryz.prog 131 131 (.slice out_37.a out_37.n out_37.c) (.slice (some ⟨h45.size, 0, none⟩) 2 2) h50 fun s51 h52 =>
 (∃ m53, m53 < m36 ∧ I34 s51 (IntKind.wrap .i64 (x_38 + 1)) h52 m53)))))))))))))))))
 (R (.slice out_37.a out_37.n out_37.c) h39)))))))))))))
theorem vc192e (p0_1 : ByteArray) (p0_2 : Sl) (p0_3 : Int) (p0_4 : Sl) (p0_5 : Sl) (h : Heap) (R : Value → Heap → Prop) : W192 p0_1 p0_2 p0_3 p0_4 p0_5 h R = fnW Tryz.prog 192 (.s .z (.s .z (.s (.s .z (.b (.l [(3, .one (.slice)), (11, .one (.int .i64))] .z))) (.s .z (.s (.s .z (.b (.l [(3, .one (.slice)), (46, .one (.int .i64))] .z))) .z))))) #[.agg ⟨[.string p0_1, .slice p0_2.a p0_2.n p0_2.c, .int .i64 p0_3, .slice p0_4.a p0_4.n p0_4.c, .slice p0_5.a p0_5.n p0_5.c]⟩] h R := by kernel_rfl
theorem vc192 (p0_1 : ByteArray) (p0_2 : Sl) (p0_3 : Int) (p0_4 : Sl) (p0_5 : Sl) (h : Heap) (R : Value → Heap → Prop) (H : W192 p0_1 p0_2 p0_3 p0_4 p0_5 h R) : Fn Tryz.prog 192 #[.agg ⟨[.string p0_1, .slice p0_2.a p0_2.n p0_2.c, .int .i64 p0_3, .slice p0_4.a p0_4.n p0_4.c, .slice p0_5.a p0_5.n p0_5.c]⟩] h R := fnI (vc192e p0_1 p0_2 p0_3 p0_4 p0_5 h R) H

def W134 (p0 : Sl) (p1 : Int) (h : Heap) (R : Value → Heap → Prop) : Prop :=
 (sB (decide (p1 < 0))
 (R (.tuple ⟨[.slice none 0 0, .int .i64 1]⟩) h)
 ((sB (decide (p1 ≥ (p0.n : Int)))
 (R (.tuple ⟨[.slice none 0 0, .int .i64 1]⟩) h)
 ((Fn Tryz.prog 191 #[.slice p0.a p0.n p0.c] h
 (fun v1 h3 => ∃ x2 : Bool, v1 = .bool x2 ∧
 (sB (!x2)
 (R (.tuple ⟨[.slice none 0 0, .int .i64 1]⟩) h3)
 ((NB p0.a fun b4 o5 => ((0 ≤ (p1 : Int) ∧ (p1 : Int) < (p0.n : Nat)) ∧
 (∃ x6 : ByteArray, ∃ x7 : Sl, ∃ x8 : Int, ∃ x9 : Sl, ∃ x10 : Sl, atC h3 ⟨b4, o5 + Int.toNat p1 * 5, none⟩ [.string x6, .slice x7.a x7.n x7.c, .int .i64 x8, .slice x9.a x9.n x9.c, .slice x10.a x10.n x10.c] ∧
 (Fn Tryz.prog 192 #[.agg ⟨[.string x6, .slice x7.a x7.n x7.c, .int .i64 x8, .slice x9.a x9.n x9.c, .slice x10.a x10.n x10.c]⟩] h3
 (fun v11 h13 => ∃ x12 : Sl, v11 = .slice x12.a x12.n x12.c ∧
 R (.tuple ⟨[.slice x12.a x12.n x12.c, .int .i64 0]⟩) h13)))))))))))))
theorem vc134e (p0 : Sl) (p1 : Int) (h : Heap) (R : Value → Heap → Prop) : W134 p0 p1 h R = fnW Tryz.prog 134 .z #[.slice p0.a p0.n p0.c, .int .i64 p1] h R := by kernel_rfl
theorem vc134 (p0 : Sl) (p1 : Int) (h : Heap) (R : Value → Heap → Prop) (H : W134 p0 p1 h R) : Fn Tryz.prog 134 #[.slice p0.a p0.n p0.c, .int .i64 p1] h R := fnI (vc134e p0 p1 h R) H

end Go.VC
end

section
/- Contracts: names, words, paths. -/
namespace Go.VC
open Go.Proofs Go.LexS
set_option maxRecDepth 100000

theorem letter221 (b : UInt8) (h : Heap) : Fn Tryz.prog 221 #[.int .u8 b.toNat] h fun v h' => v = .bool (lt b) ∧ h' = h := by
  apply vc221; unfold W221
  unfold lt isLetter
  generalize (b.toNat : Int) = n
  repeat' first
    | refine sBi (fun _ => ?_) (fun _ => ?_)
  all_goals
    refine ⟨?_, rfl⟩
    congr 1
    rw [Bool.eq_iff_iff]
    simp only [Bool.or_eq_true, Bool.and_eq_true, decide_eq_true_eq, Bool.false_eq_true, true_iff, false_iff]
    omega
theorem digit253 (b : UInt8) (h : Heap) : Fn Tryz.prog 253 #[.int .u8 b.toNat] h fun v h' => v = .bool (dg b) ∧ h' = h := by
  apply vc253; unfold W253
  unfold dg isDigit
  refine sBi (fun c => ⟨?_, rfl⟩) (fun c => ⟨?_, rfl⟩)
  · rw [decide_eq_true (p := (48 : Int) ≤ b.toNat) c, Bool.true_and]
  · rw [decide_eq_false (p := (48 : Int) ≤ b.toNat) c, Bool.false_and]
theorem inner222 (b : UInt8) (h : Heap) : Fn Tryz.prog 222 #[.int .u8 b.toNat] h fun v h' => v = .bool (inn b) ∧ h' = h := by
  apply vc222; unfold W222
  refine (letter221 b h).mono ?_
  rintro _ h3 ⟨rfl, rfl⟩
  refine ⟨_, rfl, sB_intro (fun c => ?_) (fun c => ?_)⟩
  · exact ⟨by rw [show inn b = (lt b || dg b || ((b.toNat : Int) == 95)) from rfl, c]; rfl, rfl⟩
  · refine (digit253 b _).mono ?_
    rintro _ h6 ⟨rfl, rfl⟩
    refine ⟨_, rfl, sB_intro (fun d => ?_) (fun d => ?_)⟩
    · exact ⟨by rw [show inn b = (lt b || dg b || ((b.toNat : Int) == 95)) from rfl, c, d]; rfl, rfl⟩
    · exact ⟨by rw [show inn b = (lt b || dg b || ((b.toNat : Int) == 95)) from rfl, c, d]; rfl, rfl⟩
theorem isname189 (s : ByteArray) (h : Heap) : Fn Tryz.prog 189 #[.string s] h fun v h' => v = .bool (isName s.data.toList) ∧ h' = h := by
  apply vc189; unfold W189
  have hsz := size_len s
  rw [strEq]
  generalize hL : s.data.toList = L at *
  refine sB_intro (fun he => ?_) (fun he => ?_)
  · have : L = [] := of_decide_eq_true he
    subst this
    exact ⟨rfl, rfl⟩
  · have hne : L ≠ [] := of_decide_eq_false he
    have hpos : 0 < L.length := List.length_pos_iff.2 hne
    obtain ⟨b, hb, hby⟩ := byte_get (s := s) (i := 0) (by omega)
    rw [hL] at hb
    have hcons : L = b :: L.drop 1 := by have := drop_cons hb; rwa [List.drop_zero] at this
    have hdef : isName L = (decide (L.length ≤ 16) && lt b && L.all inn) := by
      conv => lhs; rw [hcons]
      rw [isName, ← hcons]
    rw [hdef]
    refine sB_intro (fun hgt => ?_) (fun hgt => ?_)
    · refine ⟨?_, rfl⟩
      rw [decide_eq_false (by have := of_decide_eq_true hgt; omega)]; rfl
    · have h16 : L.length ≤ 16 := by have := of_decide_eq_false hgt; omega
      rw [decide_eq_true h16]
      refine ⟨⟨by omega, by omega⟩, ?_⟩
      rw [show Int.toNat 0 = 0 from rfl, hby]
      refine (letter221 _ _).mono ?_
      rintro v h3 ⟨rfl, rfl⟩
      refine ⟨_, rfl, sB_intro (fun hlet => ?_) (fun hlet => ?_)⟩
      · refine ⟨?_, rfl⟩
        rw [show lt b = false from by rw [Bool.not_eq_true'] at hlet; exact hlet]; rfl
      · rw [show lt b = true from by rw [Bool.not_eq_false'] at hlet; exact hlet]
        refine up_loop (n := s.size) (fun i h' => h' = h3 ∧ ∀ (j : Nat) (b : UInt8), j < i → L[j]? = some b → (!inn b) = false) ⟨rfl, fun j b hj => by omega⟩ ?_
        rintro - i h8 hi ⟨rfl, hd⟩
        refine sB_intro (fun hlt => ?_) (fun hge => ?_)
        · have hlt' := lt_t hlt
          obtain ⟨y, hy, hby2⟩ := byte_get hlt'
          rw [hL] at hy
          refine ⟨⟨by omega, by omega⟩, ?_⟩
          rw [show Int.toNat (i : Int) = i from rfl, hby2]
          refine (inner222 _ _).mono ?_
          rintro v h11 ⟨rfl, rfl⟩
          refine ⟨_, rfl, sB_intro (fun hp => ?_) (fun hp => ?_)⟩
          · refine ⟨?_, rfl⟩
            have : L.all inn = false := by
              rw [← Bool.not_eq_true, all_split]
              intro hh
              have := hh y i hy
              rw [Bool.not_eq_true'] at hp
              rw [show inn y = false from hp] at this; cases this
            rw [this]; rfl
          · exact Up.next hlt' (by omega) ⟨rfl, scan_next (p := fun b => !inn b) hy hp hd⟩
        · have hge' := lt_f hge
          refine ⟨?_, rfl⟩
          rw [(all_split inn L).2 fun b j hb => by simpa using hd j b (by have := (List.getElem?_eq_some_iff.1 hb).1; omega) hb]; rfl
theorem index190 (L : List Nm) (x : ByteArray) (s : Sl) (h : Heap) (hr : RL h 1 s nmC L) :
    Fn Tryz.prog 190 #[.slice s.a s.n s.c, .string x] h fun v h' => (∃ k : Int, v = .int .i64 k ∧ decide (k ≥ 0) = decide (x.data.toList ∈ L)) ∧ h' = h := by
  apply vc190; unfold W190
  have hn := hr.ln
  have hm := hr.sm
  refine up_loop (n := s.n) (fun i h' => h' = h ∧ ∀ (j : Nat) (y : Nm), j < i → L[j]? = some y → decide (x.data.toList = y) = false) ⟨rfl, fun j y hj => by omega⟩ ?_
  rintro - i h5 hi ⟨rfl, hd⟩
  refine sB_intro (fun l => ?_) (fun l => ?_)
  · replace l := lt_t l
    refine hr.rw.nbI (by omega) (by omega) fun b o d g t => ?_
    replace g : L[i]? = some d := g
    refine ⟨_, t.hd, ?_⟩
    rw [strEq, bs_list]
    refine sB_intro (fun he => ?_) (fun hne => ?_)
    · have := of_decide_eq_true he
      exact ⟨⟨_, rfl, by rw [decide_eq_true (show (i : Int) ≥ 0 by omega), decide_eq_true (by rw [this]; exact List.mem_of_getElem? g)]⟩, rfl⟩
    · exact Up.next l (by omega) ⟨rfl, scan_next (p := fun y => decide (x.data.toList = y)) g hne hd⟩
  · replace l := lt_f l
    refine ⟨⟨_, rfl, ?_⟩, rfl⟩
    rw [decide_eq_false (show ¬ ((-1 : Int) ≥ 0) by omega), decide_eq_false]
    intro hm
    obtain ⟨j, hj⟩ := List.mem_iff_getElem?.1 hm
    exact of_decide_eq_false (hd j _ (by have := (List.getElem?_eq_some_iff.1 hj).1; omega) hj) rfl
theorem has133 (L : List Nm) (x : ByteArray) (s : Sl) (h : Heap) (hr : RL h 1 s nmC L) :
    Fn Tryz.prog 133 #[.slice s.a s.n s.c, .string x] h fun v h' => v = .bool (decide (x.data.toList ∈ L)) ∧ h' = h := by
  apply vc133; unfold W133
  refine (index190 L x s h hr).mono ?_
  rintro v h3 ⟨⟨k, rfl, hk⟩, rfl⟩
  exact ⟨_, rfl, by rw [hk], rfl⟩
theorem own_rl {α : Type} {h : Heap} {b : Nat} {e : TypeId} {k : Nat} {cs : α → List Value} {L : List α} {xs : List Value} (hx : xs = (L.map cs).flatten) (ho : Own h b xs e) (hk : ∀ x, (cs x).length = k) (hl : L.length ≤ 1048576) {n c : Nat} (hn : n = L.length) (hc : n ≤ c) : RL h k ⟨some ⟨b, 0, none⟩, n, c⟩ cs L := by
  subst hx
  refine ⟨⟨by rw [List.length_map]; exact hn, fun _ => ⟨b, 0, rfl, fun i row hi j v hj => ?_⟩⟩, hc, fun e => by (cases e), hl⟩
  have hr : ∀ r ∈ L.map cs, r.length = k := fun r hr => by obtain ⟨x, _, rfl⟩ := List.mem_map.1 hr; exact hk x
  have hjl := (List.getElem?_eq_some_iff.1 hj).1
  rw [hr row (List.mem_of_getElem? hi)] at hjl
  rw [addk_at, Nat.zero_add, ho.hc, getElem?_flatten _ i j row hr hi hjl]; exact hj
theorem isword132 (s : ByteArray) (h : Heap) : Fn Tryz.prog 132 #[.string s] h fun v h' => v = .bool (isWord s.data.toList) ∧ Ext h h' := by
  apply vc132; unfold W132
  refine newput (vs := (keywords.map nmC).flatten) rfl fun h2 E o => ?_
  refine (isname189 s h2).mono ?_
  rintro _ h5 ⟨rfl, rfl⟩
  refine ⟨_, rfl, sB_intro (fun c => ?_) (fun c => ?_)⟩
  · refine ⟨by decide, ?_⟩
    refine (has133 keywords s ⟨subA (some ⟨h.size, 0, none⟩) (Int.toNat 0) 28 1, Int.toNat (28 : Nat) - Int.toNat 0, 28 - Int.toNat 0⟩ h5 (own_rl rfl o (fun _ => rfl) (by decide) rfl (by decide))).mono ?_
    rintro _ h8 ⟨rfl, rfl⟩
    exact ⟨_, rfl, by rw [show isWord s.data.toList = (isName s.data.toList && !decide (s.data.toList ∈ keywords)) from rfl, c]; rfl, E⟩
  · exact ⟨by rw [show isWord s.data.toList = (isName s.data.toList && !decide (s.data.toList ∈ keywords)) from rfl, c]; rfl, E⟩
end Go.VC
end

section
/- For every program: no run takes a draw back; the sharper relation of worlds. -/
namespace Go.VC
theorem ask_drawn {α : Type} : ∀ (q : Ask α) (w : World), w.drawn ≤ (w.ask q).2.drawn := by
  intro q
  induction q with
  | done a => intro w; exact Nat.le_refl _
  | ask what range k ih =>
    intro w
    unfold World.ask
    simp only
    split
    · exact ih _ w
    · exact Nat.le_trans (Nat.le_succ _) (ih _ { w with drawn := w.drawn + 1 })
theorem sys_drawn (w : World) (c : Sys) : w.drawn ≤ (w.sys c).2.drawn := by
  have h := ask_drawn (Kernel.perform c w.os) w
  unfold World.sys
  generalize w.ask (Kernel.perform c w.os) = r at h
  obtain ⟨⟨a, os⟩, w'⟩ := r
  split
  · exact Nat.le_refl _
  · rename_i e; cases e; exact h
theorem viewStore_drawn {p : Program} {w : World} {at_ : Addr} {u : TypeId} {k : Addr} {v : Value} {b : Bool} {w' : World} {l : List Addr} (h : w.viewStore p at_ u k v b = .ok (w', l)) : w'.drawn = w.drawn := by
  unfold World.viewStore at h
  simp only [bind, Except.bind, pure, Except.pure] at h
  repeat' split at h
  all_goals first | (cases h; done) | (cases h; rfl) | skip
theorem farStore_drawn {p : Program} {w : World} {a : Addr} {v : Value} {b : Bool} {w' : World} {l : List Addr} (h : w.farStore p a v b = .ok (w', l)) : w'.drawn = w.drawn := by
  unfold World.farStore at h
  repeat' split at h
  all_goals first | (cases h; done) | skip
  rename_i r hr
  cases h
  exact viewStore_drawn hr
theorem run_drawn {α : Type} (s : Sem α) (P : Program) : ∀ (w : World) (v : α) (w' : World), s.run P w = .ok v w' → w.drawn ≤ w'.drawn := by
  induction s with
  | pure a => intro w v w' h; cases h; exact Nat.le_refl _
  | load m a k ih =>
    intro w v w' h
    unfold Sem.run at h
    repeat' split at h
    all_goals first | exact ih _ w v w' h | (cases h; done)
  | store m a u k ih =>
    intro w v w' h
    cases u <;> simp only [Sem.run] at h <;> (first | (cases h; done) | skip) <;> (repeat' split at h) <;>
      first
        | (cases h; done)
        | exact ih (w.setCell a _) v w' h
        | (rename_i hf; exact (farStore_drawn hf) ▸ ih _ v w' h)
  | new o k ih => intro w v w' h; exact ih _ { w with heap := w.heap.push o } v w' h
  | shape r k ih => intro w v w' h; exact ih _ w v w' h
  | freeze a n k ih =>
    intro w v w' h
    have := ih (w.freeze a n) v w' h
    unfold World.freeze at this
    split at this <;> exact this
  | frozen a k ih => intro w v w' h; exact ih _ w v w' h
  | getObj r k ih =>
    intro w v w' h
    unfold Sem.run at h
    repeat' split at h
    all_goals first | exact ih _ w v w' h | (cases h; done)
  | setObj r o k ih =>
    intro w v w' h
    unfold Sem.run at h
    repeat' split at h
    all_goals first | exact ih { w with heap := w.heap.setIfInBounds r o } v w' h | (cases h; done)
  | choose q k ih =>
    intro w v w' h
    unfold Sem.run at h
    split at h
    · exact ih _ w v w' h
    · exact Nat.le_trans (Nat.le_succ _) (ih _ { w with drawn := w.drawn + 1 } v w' h)
  | sys c k ih =>
    intro w v w' h
    exact Nat.le_trans (sys_drawn w c) (ih _ (w.sys c).2 v w' h)
  | program k ih => intro w v w' h; exact ih _ w v w' h
  | mark m k ih => intro w v w' h; exact ih w v w' h
  | halt h0 => intro w v w' h; cases h
/-- the sharper relation: no draw is taken back -/
abbrev monoDrawn : Mono := ⟨fun w w' => w.drawn ≤ w'.drawn, fun _ => Nat.le_refl _, Nat.le_trans, fun _ _ => Nat.le_refl _, fun _ => Nat.le_succ _, fun s P w v w' h => run_drawn s P w v w' h⟩
end Go.VC
end

section
/- For every program: slices.SortFunc at a row of structs of the call's own, from the kit's contract. -/
namespace Go.VC
open Go.Proofs Go.Shelf Go.RowKit Go.Lib Go.Sort
/-- a comparison that lays blocks and draws, but takes nothing back -/
theorem cmp_calls {P : Program} {g : FuncId} {args : Array Value} {v : Value} {W : World}
    (hc : @Fn monoDrawn P g args W.heap fun u h' => u = v ∧ Ext W.heap h') :
    Calls P g args W fun e w' => e = .returned v ∧ ∃ q os', w' = grow (W.drewN q) os' := by
  refine (hc W rfl).mono ?_
  rintro e w' ⟨_, rfl, ⟨rfl, hE⟩, h1, h2, h3, h4⟩
  refine ⟨rfl, w'.drawn - W.drawn, w'.heap.extract W.heap.size w'.heap.size, ?_⟩
  replace h4 : W.drawn ≤ w'.drawn := h4
  obtain ⟨hp, tp, dr, os, ou⟩ := w'
  obtain ⟨hp0, tp0, dr0, os0, ou0⟩ := W
  simp only at h1 h2 h3 h4 hE
  subst h1 h2 h3
  unfold Sort.grow World.drewN
  simp only [World.mk.injEq, and_true, true_and]
  refine ⟨?_, by omega⟩
  apply Array.ext_getElem?
  intro i
  rw [Array.getElem?_append]
  by_cases hi : i < hp0.size
  · rw [if_pos hi]; exact hE.2 i hi
  · rw [if_neg hi, Array.getElem?_extract]
    by_cases hj : i < hp.size
    · rw [if_pos (by omega)]; congr 1; omega
    · rw [if_neg (by omega)]; exact Array.getElem?_eq_none (by omega)
theorem rows_get {α : Type} [Inhabited α] {enc : α → List Value} {k : Nat} (l : List α) {t : Nat} (ht : t < l.length * k) (hl : ∀ x, (enc x).length = k) :
    (l.map enc).flatten[t]? = some ((enc l.toArray[t / k]!)[t % k]!) := by
  have hk : 0 < k := by rcases Nat.eq_zero_or_pos k with h | h; (subst h; simp at ht); exact h
  have hi : t / k < l.length := Nat.div_lt_of_lt_mul (by rwa [Nat.mul_comm] at ht)
  have hm : t % k < k := Nat.mod_lt _ hk
  have he : l.toArray[t / k]! = l[t / k] := by simp [hi]
  have h1 := getElem?_flatten (k := k) (l.map enc) (t / k) (t % k) (enc l[t / k]) (fun r hr => by obtain ⟨x, _, rfl⟩ := List.mem_map.1 hr; exact hl x) (by rw [List.getElem?_map, List.getElem?_eq_getElem hi]; rfl) hm
  rw [show t / k * k + t % k = t by rw [Nat.mul_comm]; exact Nat.div_add_mod t k] at h1
  rw [h1, he, List.getElem?_eq_getElem (by rw [hl]; exact hm), getElem!_pos _ _ (by rw [hl]; exact hm)]
theorem sorted_pair {α : Type} [Inhabited α] {lt : α → α → Bool} {d : Array α} (h : SortedIn lt 0 d.size d) : d.toList.Pairwise fun a b => lt b a = false := by
  rw [List.pairwise_iff_getElem]
  intro i j hi hj hij
  have := h i j (Nat.zero_le _) hij (by simpa using hj)
  rw [getElem!_pos d i (by simpa using hi), getElem!_pos d j (by simpa using hj)] at this
  simpa using this
theorem sort_own {P : Program} {ρ : Ren} {α : Type} [Inhabited α] (L : SlLaysF0.n6 P ρ) (k : Nat) (e : TypeId) (aE : ∀ w, (isAgg (ρ.t 24)).run P w = .ok true w) (zE : ∀ w, (Go.sizeOf (ρ.t 24)).run P w = .ok k w)
    (enc : α → List Value) (hl : ∀ x, (enc x).length = k) (h1 : ∀ x, ∀ v ∈ enc x, v.oneCell' = true) (cf : α → α → Int) (hO : SWO (ltOf cf)) (g : Nat)
    (eg : ∀ args w, (callFunc g args).run P w = .ok (.enter g args) w)
    (hcmp : ∀ (x y : α) (h : Heap), @Fn monoDrawn P g #[.agg ⟨enc x⟩, .agg ⟨enc y⟩] h fun v h' => v = .int .i64 (cf x y) ∧ Ext h h')
    {h0 h : Heap} {Ls : List It} (hs : St h0 h Ls) (i : Nat) {s : Sl} {l : List α} (hi : Ls[i]? = some (.sl s e k (l.map enc))) (hk0 : 0 < k) (hm : l.length < 4611686018427387904) :
    Fn P (ρ.f 6) #[.slice s.a s.n s.c, .func (.func g) #[] #[]] h fun v h' => v = .tuple ⟨[]⟩ ∧ ∃ l' : List α, l'.Perm l ∧ l'.Pairwise (fun a b => ltOf cf b a = false) ∧ St h0 h' (Ls.set i (.sl s e k (l'.map enc))) := by
  intro w hw
  subst hw
  have hget := hs.get hi
  have hrw := hs.rw i hi hk0
  have hn : s.n = l.length := by have := hrw.1; simpa using this
  have hset : Ls.set i (.sl s e k (l.map enc)) = Ls := by
    obtain ⟨a, b⟩ := List.getElem?_eq_some_iff.1 hi
    rw [← b]; exact List.set_getElem_self a
  rcases hget.1.2 with ⟨ha, hn0, hc0⟩ | ⟨b, cur, ha, hb0, hh, hnc, hcm, hsz, htk⟩
  · have hl0 : l = [] := List.length_eq_zero_iff.1 (by omega)
    rw [ha, hn0, hc0]
    refine (AnyF.slices_SortFunc_none L none ((0 : Nat) : Nat) (.func (.func g) #[] #[]) w).mono ?_
    rintro e' w' ⟨rfl, rfl⟩
    refine ⟨_, rfl, ⟨rfl, l, List.Perm.refl _, by rw [hl0]; exact List.Pairwise.nil, ?_⟩, rfl, rfl, rfl, trivial⟩
    rw [hset]; exact hs
  · have hblk : b < w.heap.size := (Array.getElem?_eq_some_iff.1 hh).1
    have hkm : s.n * k ≤ s.c * k := Nat.mul_le_mul_right _ hnc
    have hcell : ∀ t, t < s.n * k → cur[t]? = some ((enc l.toArray[t / k]!)[t % k]!) := by
      intro t ht
      have h2 := rows_get (enc := enc) (k := k) l (t := t) (by rw [← hn]; exact ht) hl
      rw [← htk, List.getElem?_take, if_pos ht] at h2
      simpa using h2
    have hH : HoldsK enc k w b 0 l.toArray := by
      intro t ht
      rw [size_flatK] at ht
      have ht' : t < s.n * k := by rw [hn]; simpa using ht
      refine ⟨?_, ?_⟩
      · rw [get_flatK _ _ _ _ ht]
        unfold World.cell?
        simp only [hh, Nat.zero_add]
        rw [hcell t ht']; rfl
      · unfold World.frozen?
        simp only [hh]
        simp
    have hcon := AnyQ.slices_SortFunc L k aE zE enc hl h1 cf hO g #[] b 0 s.c l.toArray w eg
      (fun m os dk _ x y => by
        have := cmp_calls (P := P) (g := g) (args := #[.agg (enc x).toArray, .agg (enc y).toArray] ++ #[]) (W := sortWorldK enc k w b 0 m dk os) (v := .int .i64 (cf x y)) (by simpa using hcmp x y _)
        exact this) hH hblk (by simpa using hm)
    have harg : (l.toArray.size : Nat) = s.n := by rw [hn]; simp
    rw [harg] at hcon
    rw [ha]
    refine hcon.mono ?_
    rintro e' w' ⟨rfl, d', n, os, hp, hsd, rfl⟩
    have hsz' : d'.size = s.n := by rw [hp.1]; exact harg
    have hperm : d'.toList.Perm l := by
      have h2 := hp.2.2
      rw [← harg, show d'.extract 0 l.toArray.size = d' by rw [← hp.1]; simp, show l.toArray.extract 0 l.toArray.size = l.toArray by simp] at h2
      exact h2
    have hlen' : d'.toList.length = s.n := by simpa using hsz'
    refine ⟨_, rfl, ⟨rfl, d'.toList, hperm, sorted_pair (by rw [hsz']; exact hsd), ?_⟩, rfl, rfl, rfl, trivial⟩
    have hb' : (sortWorldK enc k w b 0 n d' os).heap[b]? = some (.cells (putCells id 0 (flatK enc k d') cur) e (0, 0)) := by
      unfold sortWorldK Sort.grow putRowK putRow mapBlock
      show ((w.heap.modify b _) ++ os)[b]? = _
      rw [Array.getElem?_append_left (by simpa using hblk), Array.getElem?_modify, if_pos rfl, hh]
      rfl
    have hother : ∀ c, c < w.heap.size → c ≠ b → (sortWorldK enc k w b 0 n d' os).heap[c]? = w.heap[c]? := by
      intro c hc hne
      unfold sortWorldK Sort.grow putRowK putRow mapBlock
      show ((w.heap.modify b _) ++ os)[c]? = _
      rw [Array.getElem?_append_left (by simpa using hc), Array.getElem?_modify, if_neg (fun e => hne e.symm)]
    refine hs.turn hi (by
        unfold sortWorldK Sort.grow putRowK putRow mapBlock
        show _ ≤ ((w.heap.modify b _) ++ os).size
        rw [Array.size_append, Array.size_modify]
        exact Nat.le_add_right _ _) (j := .sl s e k (d'.toList.map enc)) ?_ (fun c hc => .inr hc) (fun c hc hne => hother c hc fun e => hne (by subst e; show s.a.map (·.block) = _; rw [ha]; rfl))
    refine ⟨⟨?_, .inr ⟨b, _, ha, Nat.zero_le _, hb', hnc, hcm, by rw [← hsz]; simp [putCells], ?_⟩⟩, fun r hr => by obtain ⟨x, _, rfl⟩ := List.mem_map.1 hr; exact hl x⟩
    · rw [flatten_len (k := k) _ (fun r hr => by obtain ⟨x, _, rfl⟩ := List.mem_map.1 hr; exact hl x), List.length_map, hlen']
    · apply List.ext_getElem?
      intro t
      rw [List.getElem?_take]
      by_cases ht : t < s.n * k
      · rw [if_pos ht, rows_get d'.toList (by rw [hlen']; exact ht) hl]
        have hc := hcell t ht
        simp only [putCells, Array.getElem?_toList, Array.getElem?_mapIdx, hc, Option.map_some]
        rw [if_pos ⟨Nat.zero_le _, by rw [size_flatK, hsz']; omega⟩, Nat.sub_zero, get_flatK _ _ _ _ (by rw [hsz']; exact ht)]
        rfl
      · rw [if_neg ht, List.getElem?_eq_none (by rw [flatten_len (k := k) _ (fun r hr => by obtain ⟨x, _, rfl⟩ := List.mem_map.1 hr; exact hl x), List.length_map, hlen']; omega)]
end Go.VC
end

section
namespace Go.VC
open Go.Proofs
set_option maxRecDepth 100000
set_option linter.unusedVariables false
variable [Mono]
namespace M

def W151 (p0 : Int) (h : Heap) (R : Value → Heap → Prop) : Prop :=
 R (.bool (p0 != p0)) h
theorem vc151e (p0 : Int) (h : Heap) (R : Value → Heap → Prop) : W151 p0 h R = fnW Tryz.prog 151 .z #[.int .i64 p0] h R := by kernel_rfl
theorem vc151 (p0 : Int) (h : Heap) (R : Value → Heap → Prop) (H : W151 p0 h R) : Fn Tryz.prog 151 #[.int .i64 p0] h R := fnI (vc151e p0 h R) H

def W110 (p0 : Int) (p1 : Int) (h : Heap) (R : Value → Heap → Prop) : Prop :=
 (Fn Tryz.prog 151 #[.int .i64 p0] h
 (fun v1 h3 => ∃ x2 : Bool, v1 = .bool x2 ∧
 (Fn Tryz.prog 151 #[.int .i64 p1] h3
 (fun v4 h6 => ∃ x5 : Bool, v4 = .bool x5 ∧
 (sB x2
 ((sB x5
 (R (.int .i64 0) h6)
 (R (.int .i64 (-1)) h6)))
 ((sB x5
 (R (.int .i64 1) h6)
 ((sB (decide (p0 < p1))
 (R (.int .i64 (-1)) h6)
 ((sB (decide (p0 > p1))
 (R (.int .i64 1) h6)
 (R (.int .i64 0) h6))))))))))))
theorem vc110e (p0 : Int) (p1 : Int) (h : Heap) (R : Value → Heap → Prop) : W110 p0 p1 h R = fnW Tryz.prog 110 .z #[.int .i64 p0, .int .i64 p1] h R := by kernel_rfl
theorem vc110 (p0 : Int) (p1 : Int) (h : Heap) (R : Value → Heap → Prop) (H : W110 p0 p1 h R) : Fn Tryz.prog 110 #[.int .i64 p0, .int .i64 p1] h R := fnI (vc110e p0 p1 h R) H

/- cmp.Or[int]
 loop rrlrb: x_4:Int -/
def W109 (p0 : Sl) (h : Heap) (R : Value → Heap → Prop) : Prop :=
 (∃ I1 : Int → Heap → Nat → Prop, (∃ m2, I1 0 h m2) ∧
 (∀ (_ : Env) (x_4 : Int) (h5 : Heap) (m3 : Nat), I1 x_4 h5 m3 →
 (sB (decide (x_4 < (p0.n : Int)))
 ((NB p0.a fun b6 o7 => ((0 ≤ (x_4 : Int) ∧ (x_4 : Int) < (p0.n : Nat)) ∧
 (∃ x8 : Int, hc h5 ⟨b6, o7 + Int.toNat x_4 * 1, none⟩ = some (.int .i64 x8) ∧
 (sB (x8 != 0)
 (R (.int .i64 x8) h5)
 ((∃ m9, m9 < m3 ∧ I1 (IntKind.wrap .i64 (x_4 + 1)) h5 m9)))))))
 (R (.int .i64 0) h5))))
theorem vc109e (p0 : Sl) (h : Heap) (R : Value → Heap → Prop) : W109 p0 h R = fnW Tryz.prog 109 (.s .z (.s .z (.s (.s .z (.b (.l [(8, .one (.int .i64))] .z))) .z))) #[.slice p0.a p0.n p0.c] h R := by kernel_rfl
theorem vc109 (p0 : Sl) (h : Heap) (R : Value → Heap → Prop) (H : W109 p0 h R) : Fn Tryz.prog 109 #[.slice p0.a p0.n p0.c] h R := fnI (vc109e p0 h R) H

def W138 (p0_1 : Bool) (p0_2 : Int) (p0_3 : Int) (p1_4 : Bool) (p1_5 : Int) (p1_6 : Int) (h : Heap) (R : Value → Heap → Prop) : Prop :=
 (∀ h7 : Heap, h7 = h.push (.cells ⟨[.bool p0_1, .int .i64 p0_2, .int .i64 p0_3]⟩ 116) →
 (∀ h8 : Heap, h8 = h7.push (.cells ⟨[.bool p1_4, .int .i64 p1_5, .int .i64 p1_6]⟩ 116) →
 (∃ x9 : Bool, hc h8 ⟨h.size, 0, none⟩ = some (.bool x9) ∧
 (∃ x10 : Bool, hc h8 ⟨h7.size, 0, none⟩ = some (.bool x10) ∧
 (sB (!(x9 == x10))
 ((∃ x11 : Bool, hc h8 ⟨h.size, 0, none⟩ = some (.bool x11) ∧
 (sB x11
 (R (.int .i64 (-1)) h8)
 (R (.int .i64 1) h8))))
 ((∃ x12 : Int, hc h8 ⟨h.size, 1, none⟩ = some (.int .i64 x12) ∧
 (∃ x13 : Int, hc h8 ⟨h7.size, 1, none⟩ = some (.int .i64 x13) ∧
 (∃ x14 : Int, hc h8 ⟨h.size, 2, none⟩ = some (.int .i64 x14) ∧
 (∃ x15 : Int, hc h8 ⟨h7.size, 2, none⟩ = some (.int .i64 x15) ∧
 (Fn Tryz.prog 110 #[.int .i64 x12, .int .i64 x13] h8
 (fun v16 h18 => ∃ x17 : Int, v16 = .int .i64 x17 ∧
 (Sm [⟨h7.size, 2, none⟩, ⟨h.size, 2, none⟩] h8 h18 ∧
 (Fn Tryz.prog 110 #[.int .i64 x14, .int .i64 x15] h18
 (fun v19 h21 => ∃ x20 : Int, v19 = .int .i64 x20 ∧
 (Sm [⟨h7.size, 1, none⟩, ⟨h.size, 1, none⟩] h18 h21 ∧
 (∀ h22 : Heap, h22 = h21.push (.cells ⟨[.int .i64 x17, .int .i64 x20]⟩ 3) →
 (Fn Tryz.prog 109 #[.slice (some ⟨h21.size, 0, none⟩) 2 2] h22
 (fun v23 h25 => ∃ x24 : Int, v23 = .int .i64 x24 ∧
 R (.int .i64 x24) h25)))))))))))))))))))
theorem vc138e (p0_1 : Bool) (p0_2 : Int) (p0_3 : Int) (p1_4 : Bool) (p1_5 : Int) (p1_6 : Int) (h : Heap) (R : Value → Heap → Prop) : W138 p0_1 p0_2 p0_3 p1_4 p1_5 p1_6 h R = fnW Tryz.prog 138 .z #[.agg ⟨[.bool p0_1, .int .i64 p0_2, .int .i64 p0_3]⟩, .agg ⟨[.bool p1_4, .int .i64 p1_5, .int .i64 p1_6]⟩] h R := by kernel_rfl
theorem vc138 (p0_1 : Bool) (p0_2 : Int) (p0_3 : Int) (p1_4 : Bool) (p1_5 : Int) (p1_6 : Int) (h : Heap) (R : Value → Heap → Prop) (H : W138 p0_1 p0_2 p0_3 p1_4 p1_5 p1_6 h R) : Fn Tryz.prog 138 #[.agg ⟨[.bool p0_1, .int .i64 p0_2, .int .i64 p0_3]⟩, .agg ⟨[.bool p1_4, .int .i64 p1_5, .int .i64 p1_6]⟩] h R := fnI (vc138e p0_1 p0_2 p0_3 p1_4 p1_5 p1_6 h R) H

def W129 (p0_1 : Int) (p0_2 : Bool) (p0_3 : Int) (p0_4 : Int) (p0_5 : Int) (p0_6 : Bool) (h : Heap) (R : Value → Heap → Prop) : Prop :=
 (∀ h7 : Heap, h7 = h.push (.cells ⟨[.int .i64 p0_1, .bool p0_2, .int .i64 p0_3, .int .i64 p0_4, .int .i64 p0_5, .bool p0_6]⟩ 45) →
 (∃ x8 : Bool, hc h7 ⟨h.size, 1, none⟩ = some (.bool x8) ∧
 (sB x8
 (R (.int .i64 0) h7)
 (R (.int .i64 1) h7))))
theorem vc129e (p0_1 : Int) (p0_2 : Bool) (p0_3 : Int) (p0_4 : Int) (p0_5 : Int) (p0_6 : Bool) (h : Heap) (R : Value → Heap → Prop) : W129 p0_1 p0_2 p0_3 p0_4 p0_5 p0_6 h R = fnW Tryz.prog 129 .z #[.agg ⟨[.int .i64 p0_1, .bool p0_2, .int .i64 p0_3, .int .i64 p0_4, .int .i64 p0_5, .bool p0_6]⟩] h R := by kernel_rfl
theorem vc129 (p0_1 : Int) (p0_2 : Bool) (p0_3 : Int) (p0_4 : Int) (p0_5 : Int) (p0_6 : Bool) (h : Heap) (R : Value → Heap → Prop) (H : W129 p0_1 p0_2 p0_3 p0_4 p0_5 p0_6 h R) : Fn Tryz.prog 129 #[.agg ⟨[.int .i64 p0_1, .bool p0_2, .int .i64 p0_3, .int .i64 p0_4, .int .i64 p0_5, .bool p0_6]⟩] h R := fnI (vc129e p0_1 p0_2 p0_3 p0_4 p0_5 p0_6 h R) H

def W73 (p0_1 : Int) (p0_2 : Bool) (p0_3 : Int) (p0_4 : Int) (p0_5 : Int) (p0_6 : Bool) (p1_7 : Int) (p1_8 : Bool) (p1_9 : Int) (p1_10 : Int) (p1_11 : Int) (p1_12 : Bool) (h : Heap) (R : Value → Heap → Prop) : Prop :=
 (∀ h13 : Heap, h13 = h.push (.cells ⟨[.int .i64 p0_1, .bool p0_2, .int .i64 p0_3, .int .i64 p0_4, .int .i64 p0_5, .bool p0_6]⟩ 45) →
 (∀ h14 : Heap, h14 = h13.push (.cells ⟨[.int .i64 p1_7, .bool p1_8, .int .i64 p1_9, .int .i64 p1_10, .int .i64 p1_11, .bool p1_12]⟩ 45) →
 (∃ x15 : Int, hc h14 ⟨h.size, 0, none⟩ = some (.int .i64 x15) ∧
 (∃ x16 : Int, hc h14 ⟨h13.size, 0, none⟩ = some (.int .i64 x16) ∧
 (∃ x17 : Int, ∃ x18 : Bool, ∃ x19 : Int, ∃ x20 : Int, ∃ x21 : Int, ∃ x22 : Bool, atC h14 ⟨h.size, 0, none⟩ [.int .i64 x17, .bool x18, .int .i64 x19, .int .i64 x20, .int .i64 x21, .bool x22] ∧
 (∃ x23 : Int, ∃ x24 : Bool, ∃ x25 : Int, ∃ x26 : Int, ∃ x27 : Int, ∃ x28 : Bool, atC h14 ⟨h13.size, 0, none⟩ [.int .i64 x23, .bool x24, .int .i64 x25, .int .i64 x26, .int .i64 x27, .bool x28] ∧
 (∃ x29 : Int, hc h14 ⟨h.size, 2, none⟩ = some (.int .i64 x29) ∧
 (∃ x30 : Int, hc h14 ⟨h13.size, 2, none⟩ = some (.int .i64 x30) ∧
 (∃ x31 : Int, hc h14 ⟨h.size, 3, none⟩ = some (.int .i64 x31) ∧
 (∃ x32 : Int, hc h14 ⟨h13.size, 3, none⟩ = some (.int .i64 x32) ∧
 (Fn Tryz.prog 110 #[.int .i64 x15, .int .i64 x16] h14
 (fun v33 h35 => ∃ x34 : Int, v33 = .int .i64 x34 ∧
 (Sm [⟨h13.size, 3, none⟩, ⟨h.size, 3, none⟩, ⟨h13.size, 2, none⟩, ⟨h.size, 2, none⟩, ⟨h13.size, 0, none⟩, ⟨h.size, 0, none⟩] h14 h35 ∧
 (Fn Tryz.prog 129 #[.agg ⟨[.int .i64 x17, .bool x18, .int .i64 x19, .int .i64 x20, .int .i64 x21, .bool x22]⟩] h35
 (fun v36 h38 => ∃ x37 : Int, v36 = .int .i64 x37 ∧
 (Sm [⟨h13.size, 3, none⟩, ⟨h.size, 3, none⟩, ⟨h13.size, 2, none⟩, ⟨h.size, 2, none⟩, ⟨h13.size, 0, none⟩, ⟨h13.size, 0, none⟩, ⟨h.size, 0, none⟩] h35 h38 ∧
 (Fn Tryz.prog 129 #[.agg ⟨[.int .i64 x23, .bool x24, .int .i64 x25, .int .i64 x26, .int .i64 x27, .bool x28]⟩] h38
 (fun v39 h41 => ∃ x40 : Int, v39 = .int .i64 x40 ∧
 (Sm [⟨h13.size, 3, none⟩, ⟨h.size, 3, none⟩, ⟨h13.size, 2, none⟩, ⟨h.size, 2, none⟩, ⟨h.size, 0, none⟩, ⟨h13.size, 0, none⟩, ⟨h.size, 0, none⟩] h38 h41 ∧
 (Fn Tryz.prog 110 #[.int .i64 x37, .int .i64 x40] h41
 (fun v42 h44 => ∃ x43 : Int, v42 = .int .i64 x43 ∧
 (Sm [⟨h13.size, 3, none⟩, ⟨h.size, 3, none⟩, ⟨h13.size, 2, none⟩, ⟨h.size, 2, none⟩, ⟨h13.size, 0, none⟩, ⟨h.size, 0, none⟩] h41 h44 ∧
 (Fn Tryz.prog 110 #[.int .i64 x29, .int .i64 x30] h44
 (fun v45 h47 => ∃ x46 : Int, v45 = .int .i64 x46 ∧
 (Sm [⟨h13.size, 3, none⟩, ⟨h.size, 3, none⟩, ⟨h13.size, 0, none⟩, ⟨h.size, 0, none⟩, ⟨h13.size, 0, none⟩, ⟨h.size, 0, none⟩] h44 h47 ∧
 (Fn Tryz.prog 110 #[.int .i64 x31, .int .i64 x32] h47
 (fun v48 h50 => ∃ x49 : Int, v48 = .int .i64 x49 ∧
 (Sm [⟨h13.size, 2, none⟩, ⟨h.size, 2, none⟩, ⟨h13.size, 0, none⟩, ⟨h.size, 0, none⟩, ⟨h13.size, 0, none⟩, ⟨h.size, 0, none⟩] h47 h50 ∧
 (∀ h51 : Heap, h51 = h50.push (.cells ⟨[.int .i64 x34, .int .i64 x43, .int .i64 x46, .int .i64 x49]⟩ 3) →
 (Fn Tryz.prog 109 #[.slice (some ⟨h50.size, 0, none⟩) 4 4] h51
 (fun v52 h54 => ∃ x53 : Int, v52 = .int .i64 x53 ∧
 R (.int .i64 x53) h54)))))))))))))))))))))))))))))))
theorem vc73e (p0_1 : Int) (p0_2 : Bool) (p0_3 : Int) (p0_4 : Int) (p0_5 : Int) (p0_6 : Bool) (p1_7 : Int) (p1_8 : Bool) (p1_9 : Int) (p1_10 : Int) (p1_11 : Int) (p1_12 : Bool) (h : Heap) (R : Value → Heap → Prop) : W73 p0_1 p0_2 p0_3 p0_4 p0_5 p0_6 p1_7 p1_8 p1_9 p1_10 p1_11 p1_12 h R = fnW Tryz.prog 73 .z #[.agg ⟨[.int .i64 p0_1, .bool p0_2, .int .i64 p0_3, .int .i64 p0_4, .int .i64 p0_5, .bool p0_6]⟩, .agg ⟨[.int .i64 p1_7, .bool p1_8, .int .i64 p1_9, .int .i64 p1_10, .int .i64 p1_11, .bool p1_12]⟩] h R := by kernel_rfl
theorem vc73 (p0_1 : Int) (p0_2 : Bool) (p0_3 : Int) (p0_4 : Int) (p0_5 : Int) (p0_6 : Bool) (p1_7 : Int) (p1_8 : Bool) (p1_9 : Int) (p1_10 : Int) (p1_11 : Int) (p1_12 : Bool) (h : Heap) (R : Value → Heap → Prop) (H : W73 p0_1 p0_2 p0_3 p0_4 p0_5 p0_6 p1_7 p1_8 p1_9 p1_10 p1_11 p1_12 h R) : Fn Tryz.prog 73 #[.agg ⟨[.int .i64 p0_1, .bool p0_2, .int .i64 p0_3, .int .i64 p0_4, .int .i64 p0_5, .bool p0_6]⟩, .agg ⟨[.int .i64 p1_7, .bool p1_8, .int .i64 p1_9, .int .i64 p1_10, .int .i64 p1_11, .bool p1_12]⟩] h R := fnI (vc73e p0_1 p0_2 p0_3 p0_4 p0_5 p0_6 p1_7 p1_8 p1_9 p1_10 p1_11 p1_12 h R) H

end M
end Go.VC
end

section
/- The comparisons of events and of moves, over every relation of worlds. -/
namespace Go.VC
open Go.Proofs Go.LexS
set_option maxRecDepth 100000
def sideM (x : Mv) : Int := if x.send then 0 else 1
def cmpM (x y : Mv) : Int := orI3 (cmpI x.f y.f) (orI3 (cmpI (sideM x) (sideM y)) (orI3 (cmpI x.peer y.peer) (cmpI x.label y.label)))
theorem cmpM_neg {x y : Mv} : cmpM x y < 0 ↔ mvLt x y := by
  unfold cmpM mvLt evLt orI3 cmpI sideM Mv.ev
  obtain ⟨f, s, p, l, t, a⟩ := x
  obtain ⟨f', s', p', l', t', a'⟩ := y
  cases s <;> cases s' <;> simp <;> (repeat' split) <;> omega
namespace M
theorem inrows (L : List Int) : ∀ r ∈ L.map inC, r.length = 1 := fun r hr => by obtain ⟨x, _, rfl⟩ := List.mem_map.1 hr; rfl
end M
variable [Mono]
namespace M
theorem nan151 (x : Int) (h : Heap) : Fn Tryz.prog 151 #[.int .i64 x] h fun v h' => v = .bool false ∧ h' = h := by
  apply vc151; unfold W151
  exact ⟨by rw [bne_self_eq_false], rfl⟩
theorem cmp110 (x y : Int) (h : Heap) : Fn Tryz.prog 110 #[.int .i64 x, .int .i64 y] h fun v h' => v = .int .i64 (cmpI x y) ∧ h' = h := by
  apply vc110; unfold W110
  refine (nan151 x h).mono ?_
  rintro _ _ ⟨rfl, rfl⟩
  refine ⟨_, rfl, ?_⟩
  refine (nan151 y _).mono ?_
  rintro _ _ ⟨rfl, rfl⟩
  refine ⟨_, rfl, ?_⟩
  refine sB_f rfl (sB_f rfl ?_)
  unfold cmpI
  refine sBi (fun c => ?_) (fun c => sBi (fun d => ?_) (fun d => ?_))
  · exact ⟨by rw [if_pos c], rfl⟩
  · exact ⟨by rw [if_neg c, if_pos d], rfl⟩
  · exact ⟨by rw [if_neg c, if_neg d], rfl⟩
theorem or109 (l : List Int) (s : Sl) (h : Heap) (hr : Rw h 1 s (l.map inC)) (hm : l.length ≤ 1048576) :
    Fn Tryz.prog 109 #[.slice s.a s.n s.c] h fun v h' => v = .int .i64 (l.foldr orI3 0) ∧ h' = h := by
  apply vc109; unfold W109
  have hn := hr.ln
  refine up_loop (n := s.n) (fun i h' => h' = h ∧ l.foldr orI3 0 = (l.drop i).foldr orI3 0) ⟨rfl, rfl⟩ ?_
  rintro - i h5 hi ⟨rfl, hq⟩
  refine sB_intro (fun l2 => ?_) (fun l2 => ?_)
  · replace l2 := lt_t l2
    refine hr.nbI (by omega) (by omega) fun b o d g t => ?_
    replace g : l[i]? = some d := g
    have hd : l.drop i = d :: l.drop (i + 1) := by
      obtain ⟨hl, he⟩ := List.getElem?_eq_some_iff.1 g
      rw [List.drop_eq_getElem_cons hl, he]
    rw [hd, List.foldr_cons] at hq
    refine ⟨_, t.hd, ?_⟩
    refine sBn (fun c => ?_) (fun c => ?_)
    · refine ⟨?_, rfl⟩
      rw [hq]; unfold orI3; rw [if_pos c]
    · refine Up.next l2 (by omega) ⟨rfl, ?_⟩
      rw [hq]; unfold orI3; rw [if_neg (by omega)]
  · replace l2 := lt_f l2
    rw [List.drop_eq_nil_of_le (by omega)] at hq
    exact ⟨by rw [hq]; rfl, rfl⟩
theorem compare138 (x y : Ev) (h : Heap) : Fn Tryz.prog 138 #[.agg ⟨x.cs⟩, .agg ⟨y.cs⟩] h fun v h' => v = .int .i64 (cmpE x y) ∧ Ext h h' := by
  apply vc138 x.send x.peer x.label y.send y.peer y.label; unfold W138
  have hs := St.refl h
  refine hs.newb fun h7 hs => ?_
  refine hs.newb fun h8 hs => ?_
  refine ⟨_, hs.rd 1 rfl rfl, ?_⟩
  refine ⟨_, hs.rd 0 rfl rfl, ?_⟩
  refine sB_intro (fun c => ?_) (fun c => ?_)
  · have hne : x.send ≠ y.send := by simpa using c
    refine ⟨_, hs.rd 1 rfl rfl, ?_⟩
    unfold cmpE
    rw [if_pos hne]
    refine sB_intro (fun d => ?_) (fun d => ?_)
    · exact ⟨by rw [if_pos d], hs.ext⟩
    · exact ⟨by rw [if_neg (by rw [d]; simp)], hs.ext⟩
  · have he : x.send = y.send := by simpa using c
    refine ⟨_, hs.rd 1 rfl rfl, _, hs.rd 0 rfl rfl, _, hs.rd 1 rfl rfl, _, hs.rd 0 rfl rfl, ?_⟩
    refine (cmp110 _ _ _).mono ?_
    rintro _ _ ⟨rfl, rfl⟩
    refine ⟨_, rfl, fun _ _ _ _ hv => hv, ?_⟩
    refine (cmp110 _ _ _).mono ?_
    rintro _ _ ⟨rfl, rfl⟩
    refine ⟨_, rfl, fun _ _ _ _ hv => hv, ?_⟩
    refine hs.newb fun h22 hs => ?_
    have hs2 := hs.blkS 2 1 ([cmpI x.peer y.peer, cmpI x.label y.label].map inC) rfl (inrows _) rfl (by decide)
    refine (or109 [cmpI x.peer y.peer, cmpI x.label y.label] _ h22 (hs2.rows 0 rfl (by omega)) (show 2 ≤ 1048576 by decide)).mono ?_
    rintro _ _ ⟨rfl, rfl⟩
    refine ⟨_, rfl, ?_, hs.ext⟩
    unfold cmpE
    rw [if_neg (by simpa using he)]
    show Value.int .i64 (orI3 _ (orI3 _ 0)) = _
    congr 1
    unfold orI3
    split
    · rfl
    · split <;> omega
theorem side129 (x : Mv) (h : Heap) : Fn Tryz.prog 129 #[.agg ⟨x.cs⟩] h fun v h' => v = .int .i64 (sideM x) ∧ Ext h h' := by
  apply vc129 x.f x.send x.peer x.label x.t x.ag; unfold W129
  have hs := St.refl h
  refine hs.newb fun h7 hs => ?_
  refine ⟨_, hs.rd 0 rfl rfl, ?_⟩
  unfold sideM
  refine sB_intro (fun c => ?_) (fun c => ?_)
  · exact ⟨by rw [if_pos c], hs.ext⟩
  · exact ⟨by rw [if_neg (by rw [c]; simp)], hs.ext⟩
theorem Sm_ext {al : List Addr} {h h' : Heap} (E : Ext h h') : Sm al h h' := fun _ _ _ _ hv => hc_ext E hv
theorem order73 (x y : Mv) (h : Heap) : Fn Tryz.prog 73 #[.agg ⟨x.cs⟩, .agg ⟨y.cs⟩] h fun v h' => v = .int .i64 (cmpM x y) ∧ Ext h h' := by
  apply vc73 x.f x.send x.peer x.label x.t x.ag y.f y.send y.peer y.label y.t y.ag; unfold W73
  have hs := St.refl h
  refine hs.newb fun h13 hs => ?_
  refine hs.newb fun h14 hs => ?_
  refine ⟨_, hs.rd 1 rfl rfl, _, hs.rd 0 rfl rfl, _, _, _, _, _, _, hs.at 1 rfl (o := 0) (n := 6) rfl, _, _, _, _, _, _, hs.at 0 rfl (o := 0) (n := 6) rfl, _, hs.rd 1 rfl rfl, _, hs.rd 0 rfl rfl, _, hs.rd 1 rfl rfl, _, hs.rd 0 rfl rfl, ?_⟩
  refine (cmp110 _ _ _).mono ?_
  rintro _ _ ⟨rfl, rfl⟩
  refine ⟨_, rfl, fun _ _ _ _ hv => hv, ?_⟩
  refine (side129 x _).mono ?_
  rintro _ h38 ⟨rfl, E1⟩
  refine ⟨_, rfl, Sm_ext E1, ?_⟩
  have hs := hs.step E1
  refine (side129 y _).mono ?_
  rintro _ h41 ⟨rfl, E2⟩
  refine ⟨_, rfl, Sm_ext E2, ?_⟩
  have hs := hs.step E2
  refine (cmp110 _ _ _).mono ?_
  rintro _ _ ⟨rfl, rfl⟩
  refine ⟨_, rfl, fun _ _ _ _ hv => hv, ?_⟩
  refine (cmp110 _ _ _).mono ?_
  rintro _ _ ⟨rfl, rfl⟩
  refine ⟨_, rfl, fun _ _ _ _ hv => hv, ?_⟩
  refine (cmp110 _ _ _).mono ?_
  rintro _ _ ⟨rfl, rfl⟩
  refine ⟨_, rfl, fun _ _ _ _ hv => hv, ?_⟩
  refine hs.newb fun h51 hs => ?_
  have hs2 := hs.blkS 4 1 ([cmpI x.f y.f, cmpI (sideM x) (sideM y), cmpI x.peer y.peer, cmpI x.label y.label].map inC) rfl (inrows _) rfl (by decide)
  refine (or109 [cmpI x.f y.f, cmpI (sideM x) (sideM y), cmpI x.peer y.peer, cmpI x.label y.label] _ h51 (hs2.rows 0 rfl (by omega)) (show 4 ≤ 1048576 by decide)).mono ?_
  rintro _ _ ⟨rfl, rfl⟩
  refine ⟨_, rfl, ?_, hs.ext⟩
  unfold cmpM
  show Value.int .i64 (orI3 _ (orI3 _ (orI3 _ (orI3 _ 0)))) = _
  congr 3
  unfold orI3
  split
  · rfl
  · omega
end M
end Go.VC
end

section
/-
  DERIVED: THE SHELF's CONTRACTS AT THIS DUMP, IN PLAIN WORDS (tools/lay-plain.mjs out of 'PjShelfT.lean', which tools/lay-shelf.mjs wrote): THE SAME DECLARATIONS UNDER THE SAME NAMES: 'import', 'namespace', 'open', 'def', 'theorem' AND NOTHING ELSE: no command of the shelf's: FOR A HAND-IN. Each laying: the table of numbers ('.._ren') and one theorem, a field a fact of the dump's own or the kernel's comparison; each contract: ONE APPLICATION.
-/
namespace Go.Proofs
open Go.Shelf
def Tryz.lays146_ren : Go.Shelf.Ren := ⟨fun | 146 => 255 | 221 => 282 | 268 => 298 | 138 => 299 | 143 => 300 | 195 => 306 | 197 => 307 | 218 => 308 | 219 => 309 | 260 => 311 | 217 => 312 | 225 => 313 | 224 => 314 | 267 => 315 | 266 => 316 | 314 => 317 | n => n, fun | 9 => 9 | 31 => 22 | 3 => 3 | 4 => 4 | 0 => 0 | 105 => 402 | 21 => 21 | 5 => 5 | 46 => 178 | 119 => 407 | 139 => 410 | 138 => 409 | 146 => 237 | 51 => 236 | n => n, fun | 1 => 1 | 3 => 2 | 4 => 3 | n => n⟩
theorem Tryz.lays146 : Go.Proofs.Lays.n146 Tryz.prog Tryz.lays146_ren := {
  mixed := by kernel_rfl
  f138 := Tryz.func299.trans (congrArg some (by kernel_rfl))
  f143 := Tryz.func300.trans (congrArg some (by kernel_rfl))
  f146 := Tryz.func255.trans (congrArg some (by kernel_rfl))
  f195 := Tryz.func306.trans (congrArg some (by kernel_rfl))
  f197 := Tryz.func307.trans (congrArg some (by kernel_rfl))
  f217 := Tryz.func312.trans (congrArg some (by kernel_rfl))
  f218 := Tryz.func308.trans (congrArg some (by kernel_rfl))
  f219 := Tryz.func309.trans (congrArg some (by kernel_rfl))
  f221 := Tryz.func282.trans (congrArg some (by kernel_rfl))
  f224 := Tryz.func314.trans (congrArg some (by kernel_rfl))
  f225 := Tryz.func313.trans (congrArg some (by kernel_rfl))
  f260 := Tryz.func311.trans (congrArg some (by kernel_rfl))
  f266 := Tryz.func316.trans (congrArg some (by kernel_rfl))
  f267 := Tryz.func315.trans (congrArg some (by kernel_rfl))
  f268 := Tryz.func298.trans (congrArg some (by kernel_rfl))
  f314 := Tryz.func317.trans (congrArg some (by kernel_rfl))
  t0 := Tryz.underlying0
  a0 := Tryz.isAgg0
  z0 := Tryz.sizeOf0
  v0 := Tryz.zeroValue0
  t3 := Tryz.underlying3
  a3 := Tryz.isAgg3
  z3 := Tryz.sizeOf3
  v3 := Tryz.zeroValue3
  t4 := Tryz.underlying4
  a4 := Tryz.isAgg4
  z4 := Tryz.sizeOf4
  v4 := Tryz.zeroValue4
  t5 := Tryz.underlying5
  a5 := Tryz.isAgg5
  z5 := Tryz.sizeOf5
  v5 := Tryz.zeroValue5
  t9 := Tryz.underlying9
  a9 := Tryz.isAgg9
  z9 := Tryz.sizeOf9
  v9 := Tryz.zeroValue9
  t21 := Tryz.underlying21
  a21 := Tryz.isAgg21
  z21 := Tryz.sizeOf21
  v21 := Tryz.zeroValue21
  t31 := Tryz.underlying22
  a31 := Tryz.isAgg22
  z31 := Tryz.sizeOf22
  v31 := Tryz.zeroValue22
  t46 := Tryz.underlying178
  a46 := Tryz.isAgg178
  z46 := Tryz.sizeOf178
  v46 := Tryz.zeroValue178
  t51 := Tryz.underlying236
  a51 := Tryz.isAgg236
  z51 := Tryz.sizeOf236
  v51 := Tryz.zeroValue236
  t105 := Tryz.underlying402
  a105 := Tryz.isAgg402
  z105 := Tryz.sizeOf402
  v105 := Tryz.zeroValue402
  t119 := Tryz.underlying407
  a119 := Tryz.isAgg407
  z119 := Tryz.sizeOf407
  t138 := Tryz.underlying409
  a138 := Tryz.isAgg409
  z138 := Tryz.sizeOf409
  v138 := Tryz.zeroValue409
  t139 := Tryz.underlying410
  a139 := Tryz.isAgg410
  z139 := Tryz.sizeOf410
  v139 := Tryz.zeroValue410
  t146 := Tryz.underlying237
  a146 := Tryz.isAgg237
  z146 := Tryz.sizeOf237
  v146 := Tryz.zeroValue237
  g1 := by kernel_rfl
  g3 := by kernel_rfl
  g4 := by kernel_rfl }
def Tryz.lays212_ren : Go.Shelf.Ren := ⟨fun | 212 => 106 | 263 => 148 | 264 => 149 | n => n, fun | 46 => 178 | 51 => 236 | 146 => 237 | 53 => 121 | 148 => 239 | n => n, fun | n => n⟩
theorem Tryz.lays212 : Go.Proofs.Lays.n212 Tryz.prog Tryz.lays212_ren := {
  mixed := by kernel_rfl
  f212 := Tryz.func106.trans (congrArg some (by kernel_rfl))
  f263 := Tryz.func148.trans (congrArg some (by kernel_rfl))
  f264 := Tryz.func149.trans (congrArg some (by kernel_rfl))
  t46 := Tryz.underlying178
  a46 := Tryz.isAgg178
  z46 := Tryz.sizeOf178
  v46 := Tryz.zeroValue178
  t51 := Tryz.underlying236
  a51 := Tryz.isAgg236
  z51 := Tryz.sizeOf236
  v51 := Tryz.zeroValue236
  t53 := Tryz.underlying121
  a53 := Tryz.isAgg121
  z53 := Tryz.sizeOf121
  v53 := Tryz.zeroValue121
  t146 := Tryz.underlying237
  a146 := Tryz.isAgg237
  z146 := Tryz.sizeOf237
  v146 := Tryz.zeroValue237
  t148 := Tryz.underlying239
  a148 := Tryz.isAgg239
  z148 := Tryz.sizeOf239
  v148 := Tryz.zeroValue239 }
def Tryz.lays7_29_ren : Go.Shelf.Ren := ⟨fun | 29 => 141 | n => n, fun | 22 => 121 | 3 => 3 | 4 => 4 | 25 => 178 | 54 => 304 | 0 => 0 | 5 => 5 | n => n, fun | 1 => 0 | n => n⟩
theorem Tryz.lays7_29 : Go.Proofs.Lays7.n29 Tryz.prog Tryz.lays7_29_ren := {
  mixed := by kernel_rfl
  f29 := Tryz.func141.trans (congrArg some (by kernel_rfl))
  t0 := Tryz.underlying0
  a0 := Tryz.isAgg0
  z0 := Tryz.sizeOf0
  v0 := Tryz.zeroValue0
  i0 := by kernel_rfl
  t3 := Tryz.underlying3
  a3 := Tryz.isAgg3
  z3 := Tryz.sizeOf3
  v3 := Tryz.zeroValue3
  i3 := by kernel_rfl
  t4 := Tryz.underlying4
  a4 := Tryz.isAgg4
  z4 := Tryz.sizeOf4
  v4 := Tryz.zeroValue4
  i4 := by kernel_rfl
  t5 := Tryz.underlying5
  a5 := Tryz.isAgg5
  z5 := Tryz.sizeOf5
  v5 := Tryz.zeroValue5
  i5 := by kernel_rfl
  t22 := Tryz.underlying121
  a22 := Tryz.isAgg121
  z22 := Tryz.sizeOf121
  v22 := Tryz.zeroValue121
  i22 := by kernel_rfl
  t25 := Tryz.underlying178
  a25 := Tryz.isAgg178
  z25 := Tryz.sizeOf178
  v25 := Tryz.zeroValue178
  i25 := by kernel_rfl
  t54 := Tryz.underlying304
  a54 := Tryz.isAgg304
  z54 := Tryz.sizeOf304
  g1 := by kernel_rfl }
def Tryz.sortL137_ren : Go.Shelf.Ren := ⟨fun | 6 => 137 | 15 => 128 | 14 => 193 | 28 => 187 | 29 => 188 | 20 => 231 | 21 => 232 | 22 => 233 | 23 => 234 | 24 => 235 | 25 => 236 | 26 => 237 | 27 => 238 | 46 => 259 | 47 => 217 | 48 => 218 | 49 => 260 | 50 => 261 | 57 => 283 | n => n, fun | 22 => 151 | 24 => 116 | 25 => 225 | 3 => 3 | 39 => 178 | 0 => 0 | 53 => 236 | 55 => 121 | 4 => 4 | 46 => 294 | 45 => 293 | 50 => 213 | 5 => 5 | 9 => 9 | 66 => 327 | 70 => 331 | 76 => 362 | 77 => 363 | n => n, fun | n => n⟩
theorem Tryz.sortL137 : Go.Proofs.SlLaysF0.n6 Tryz.prog Tryz.sortL137_ren := {
  mixed := by kernel_rfl
  f6 := ⟨Tryz.f137.name, by decide, Tryz.func137.trans (congrArg some (by kernel_rfl))⟩
  f14 := ⟨Tryz.f193.name, by decide, Tryz.func193.trans (congrArg some (by kernel_rfl))⟩
  f15 := Tryz.func128.trans (congrArg some (by kernel_rfl))
  f20 := ⟨Tryz.f231.name, by decide, Tryz.func231.trans (congrArg some (by kernel_rfl))⟩
  f21 := ⟨Tryz.f232.name, by decide, Tryz.func232.trans (congrArg some (by kernel_rfl))⟩
  f22 := ⟨Tryz.f233.name, by decide, Tryz.func233.trans (congrArg some (by kernel_rfl))⟩
  f23 := ⟨Tryz.f234.name, by decide, Tryz.func234.trans (congrArg some (by kernel_rfl))⟩
  f24 := ⟨Tryz.f235.name, by decide, Tryz.func235.trans (congrArg some (by kernel_rfl))⟩
  f25 := ⟨Tryz.f236.name, by decide, Tryz.func236.trans (congrArg some (by kernel_rfl))⟩
  f26 := ⟨Tryz.f237.name, by decide, Tryz.func237.trans (congrArg some (by kernel_rfl))⟩
  f27 := ⟨Tryz.f238.name, by decide, Tryz.func238.trans (congrArg some (by kernel_rfl))⟩
  f28 := Tryz.func187.trans (congrArg some (by kernel_rfl))
  f29 := Tryz.func188.trans (congrArg some (by kernel_rfl))
  f46 := ⟨Tryz.f259.name, by decide, Tryz.func259.trans (congrArg some (by kernel_rfl))⟩
  f47 := Tryz.func217.trans (congrArg some (by kernel_rfl))
  f48 := Tryz.func218.trans (congrArg some (by kernel_rfl))
  f49 := ⟨Tryz.f260.name, by decide, Tryz.func260.trans (congrArg some (by kernel_rfl))⟩
  f50 := ⟨Tryz.f261.name, by decide, Tryz.func261.trans (congrArg some (by kernel_rfl))⟩
  f57 := ⟨Tryz.f283.name, by decide, Tryz.func283.trans (congrArg some (by kernel_rfl))⟩
  t0 := Tryz.underlying0
  a0 := Tryz.isAgg0
  z0 := Tryz.sizeOf0
  v0 := Tryz.zeroValue0
  t3 := Tryz.underlying3
  a3 := Tryz.isAgg3
  z3 := Tryz.sizeOf3
  v3 := Tryz.zeroValue3
  t4 := Tryz.underlying4
  a4 := Tryz.isAgg4
  z4 := Tryz.sizeOf4
  v4 := Tryz.zeroValue4
  t5 := Tryz.underlying5
  a5 := Tryz.isAgg5
  z5 := Tryz.sizeOf5
  v5 := Tryz.zeroValue5
  t9 := Tryz.underlying9
  a9 := Tryz.isAgg9
  z9 := Tryz.sizeOf9
  v9 := Tryz.zeroValue9
  t22 := Tryz.underlying151
  a22 := Tryz.isAgg151
  z22 := Tryz.sizeOf151
  v22 := Tryz.zeroValue151
  t25 := Tryz.underlying225
  a25 := Tryz.isAgg225
  z25 := Tryz.sizeOf225
  v25 := Tryz.zeroValue225
  t39 := Tryz.underlying178
  a39 := Tryz.isAgg178
  z39 := Tryz.sizeOf178
  v39 := Tryz.zeroValue178
  t45 := Tryz.underlying293
  a45 := Tryz.isAgg293
  z45 := Tryz.sizeOf293
  v45 := Tryz.zeroValue293
  t46 := Tryz.underlying294
  a46 := Tryz.isAgg294
  z46 := Tryz.sizeOf294
  v46 := Tryz.zeroValue294
  t50 := Tryz.underlying213
  a50 := Tryz.isAgg213
  z50 := Tryz.sizeOf213
  v50 := Tryz.zeroValue213
  t53 := Tryz.underlying236
  a53 := Tryz.isAgg236
  z53 := Tryz.sizeOf236
  v53 := Tryz.zeroValue236
  t55 := Tryz.underlying121
  a55 := Tryz.isAgg121
  z55 := Tryz.sizeOf121
  v55 := Tryz.zeroValue121
  t66 := Tryz.underlying327
  a66 := Tryz.isAgg327
  z66 := Tryz.sizeOf327
  v66 := Tryz.zeroValue327
  t70 := Tryz.underlying331
  a70 := Tryz.isAgg331
  z70 := Tryz.sizeOf331
  v70 := Tryz.zeroValue331
  t76 := Tryz.underlying362
  a76 := Tryz.isAgg362
  z76 := Tryz.sizeOf362
  v76 := Tryz.zeroValue362
  t77 := Tryz.underlying363
  a77 := Tryz.isAgg363
  z77 := Tryz.sizeOf363
  v77 := Tryz.zeroValue363 }
def Tryz.sortL72_ren : Go.Shelf.Ren := ⟨fun | 6 => 72 | 15 => 128 | 14 => 127 | 28 => 187 | 29 => 188 | 20 => 179 | 21 => 180 | 22 => 181 | 23 => 182 | 24 => 183 | 25 => 184 | 26 => 185 | 27 => 186 | 46 => 216 | 47 => 217 | 48 => 218 | 49 => 219 | 50 => 220 | 57 => 252 | n => n, fun | 22 => 31 | 24 => 45 | 25 => 142 | 3 => 3 | 39 => 178 | 0 => 0 | 53 => 236 | 55 => 121 | 4 => 4 | 46 => 294 | 45 => 293 | 50 => 213 | 5 => 5 | 9 => 9 | 66 => 327 | 70 => 331 | 76 => 362 | 77 => 363 | n => n, fun | n => n⟩
theorem Tryz.sortL72 : Go.Proofs.SlLaysF0.n6 Tryz.prog Tryz.sortL72_ren := {
  mixed := by kernel_rfl
  f6 := ⟨Tryz.f72.name, by decide, Tryz.func72.trans (congrArg some (by kernel_rfl))⟩
  f14 := ⟨Tryz.f127.name, by decide, Tryz.func127.trans (congrArg some (by kernel_rfl))⟩
  f15 := Tryz.func128.trans (congrArg some (by kernel_rfl))
  f20 := ⟨Tryz.f179.name, by decide, Tryz.func179.trans (congrArg some (by kernel_rfl))⟩
  f21 := ⟨Tryz.f180.name, by decide, Tryz.func180.trans (congrArg some (by kernel_rfl))⟩
  f22 := ⟨Tryz.f181.name, by decide, Tryz.func181.trans (congrArg some (by kernel_rfl))⟩
  f23 := ⟨Tryz.f182.name, by decide, Tryz.func182.trans (congrArg some (by kernel_rfl))⟩
  f24 := ⟨Tryz.f183.name, by decide, Tryz.func183.trans (congrArg some (by kernel_rfl))⟩
  f25 := ⟨Tryz.f184.name, by decide, Tryz.func184.trans (congrArg some (by kernel_rfl))⟩
  f26 := ⟨Tryz.f185.name, by decide, Tryz.func185.trans (congrArg some (by kernel_rfl))⟩
  f27 := ⟨Tryz.f186.name, by decide, Tryz.func186.trans (congrArg some (by kernel_rfl))⟩
  f28 := Tryz.func187.trans (congrArg some (by kernel_rfl))
  f29 := Tryz.func188.trans (congrArg some (by kernel_rfl))
  f46 := ⟨Tryz.f216.name, by decide, Tryz.func216.trans (congrArg some (by kernel_rfl))⟩
  f47 := Tryz.func217.trans (congrArg some (by kernel_rfl))
  f48 := Tryz.func218.trans (congrArg some (by kernel_rfl))
  f49 := ⟨Tryz.f219.name, by decide, Tryz.func219.trans (congrArg some (by kernel_rfl))⟩
  f50 := ⟨Tryz.f220.name, by decide, Tryz.func220.trans (congrArg some (by kernel_rfl))⟩
  f57 := ⟨Tryz.f252.name, by decide, Tryz.func252.trans (congrArg some (by kernel_rfl))⟩
  t0 := Tryz.underlying0
  a0 := Tryz.isAgg0
  z0 := Tryz.sizeOf0
  v0 := Tryz.zeroValue0
  t3 := Tryz.underlying3
  a3 := Tryz.isAgg3
  z3 := Tryz.sizeOf3
  v3 := Tryz.zeroValue3
  t4 := Tryz.underlying4
  a4 := Tryz.isAgg4
  z4 := Tryz.sizeOf4
  v4 := Tryz.zeroValue4
  t5 := Tryz.underlying5
  a5 := Tryz.isAgg5
  z5 := Tryz.sizeOf5
  v5 := Tryz.zeroValue5
  t9 := Tryz.underlying9
  a9 := Tryz.isAgg9
  z9 := Tryz.sizeOf9
  v9 := Tryz.zeroValue9
  t22 := Tryz.underlying31
  a22 := Tryz.isAgg31
  z22 := Tryz.sizeOf31
  v22 := Tryz.zeroValue31
  t25 := Tryz.underlying142
  a25 := Tryz.isAgg142
  z25 := Tryz.sizeOf142
  v25 := Tryz.zeroValue142
  t39 := Tryz.underlying178
  a39 := Tryz.isAgg178
  z39 := Tryz.sizeOf178
  v39 := Tryz.zeroValue178
  t45 := Tryz.underlying293
  a45 := Tryz.isAgg293
  z45 := Tryz.sizeOf293
  v45 := Tryz.zeroValue293
  t46 := Tryz.underlying294
  a46 := Tryz.isAgg294
  z46 := Tryz.sizeOf294
  v46 := Tryz.zeroValue294
  t50 := Tryz.underlying213
  a50 := Tryz.isAgg213
  z50 := Tryz.sizeOf213
  v50 := Tryz.zeroValue213
  t53 := Tryz.underlying236
  a53 := Tryz.isAgg236
  z53 := Tryz.sizeOf236
  v53 := Tryz.zeroValue236
  t55 := Tryz.underlying121
  a55 := Tryz.isAgg121
  z55 := Tryz.sizeOf121
  v55 := Tryz.zeroValue121
  t66 := Tryz.underlying327
  a66 := Tryz.isAgg327
  z66 := Tryz.sizeOf327
  v66 := Tryz.zeroValue327
  t70 := Tryz.underlying331
  a70 := Tryz.isAgg331
  z70 := Tryz.sizeOf331
  v70 := Tryz.zeroValue331
  t76 := Tryz.underlying362
  a76 := Tryz.isAgg362
  z76 := Tryz.sizeOf362
  v76 := Tryz.zeroValue362
  t77 := Tryz.underlying363
  a77 := Tryz.isAgg363
  z77 := Tryz.sizeOf363
  v77 := Tryz.zeroValue363 }
end Go.Proofs
end

section
/- Contracts of the library taken from the kit's shelf. -/
namespace Go.VC
open Go.Proofs Go.LexS Go.Shelf
/-- what the named variables of the library hold -/
structure Gx (h : Heap) : Prop where
  m : ∃ m : Int, hc h ⟨1, 0, none⟩ = some (.int .i64 m)
  t : ∀ j, j < Lib.deBruijn64tab.length → hc h ⟨0, j, none⟩ = some (.int .u8 (Lib.deBruijn64tab.getD j 0))
theorem Gx.ext {h h' : Heap} (hx : Gx h) (E : Ext h h') : Gx h' := by
  obtain ⟨m, hm⟩ := hx.m
  exact ⟨⟨m, hc_ext E hm⟩, fun j hj => hc_ext E (hx.t j hj)⟩
theorem mul106 (x y : Nat) (hx : x < 18446744073709551616) (hy : y < 18446744073709551616) (h : Heap) : Fn Tryz.prog 106 #[.int .u64 x, .int .u64 y] h fun v h' => v = .tuple ⟨[.int .u64 ((x * y / 18446744073709551616 : Nat) : Int), .int .u64 ((x * y % 18446744073709551616 : Nat) : Int)]⟩ ∧ h' = h :=
  Fn.of_same fun w => Any.bits_Mul Tryz.lays212 x y hx hy w
def pieces (l : Nm) : List Nm := Go.Lib.split l [46]
theorem split255 (l : Nm) (h : Heap) (hx : Gx h) (hl : l.length ≤ 50) : Fn Tryz.prog 255 #[.string (bs l), .string (bs [46])] h fun v h' => Ext h h' ∧ ∃ s : Sl, v = .slice s.a s.n s.c ∧ RL h' 1 s nmC (pieces l) := by
  intro w hw
  subst hw
  obtain ⟨m, hm⟩ := hx.m
  have hle := Lib.countB_le (bs [46]) (by decide) (bs l).size (bs l) (Nat.le_refl _)
  have hlen := Lib.splitB_all (bs [46]) (by decide) 0 _ (bs l) rfl
  have hdat := Lib.splitB_data (bs [46]) 0 (Lib.countB (bs l) (bs [46])) (bs l)
  have hp : pieces l = (Lib.splitB (bs [46]) 0 (Lib.countB (bs l) (bs [46])) (bs l)).map (·.data.toList) := hdat.symm
  have hcells : (Lib.splitB (bs [46]) 0 (Lib.countB (bs l) (bs [46])) (bs l)).map Value.string = (pieces l).map fun x => Value.string (bs x) := by
    rw [hp, List.map_map]; rfl
  have hpl : (pieces l).length = Lib.countB (bs l) (bs [46]) + 1 := by rw [hp, List.length_map, hlen]
  rw [bs_size] at hle
  refine (Any.strings_Split Tryz.lays146 (by kernel_rfl) (bs l) (bs [46]) m w (by rw [bs_size]; omega) hm (by decide)).mono ?_
  rintro e w' ⟨rfl, rfl⟩
  rw [hcells]
  have ho : Own (w.alloc (.cells ((pieces l).map fun x => Value.string (bs x)).toArray (Tryz.lays146_ren.t 9))).heap w.heap.size ((pieces l).map fun x => Value.string (bs x)) (Tryz.lays146_ren.t 9) := Own.push
  refine ⟨_, rfl, ⟨Ext.push _ _, ⟨some ⟨w.heap.size, 0, none⟩, Lib.countB (bs l) (bs [46]) + 1, Lib.countB (bs l) (bs [46]) + 1⟩, rfl, ⟨⟨by rw [List.length_map, hpl], fun _ => ⟨w.heap.size, 0, rfl, fun i row hi => ?_⟩⟩, Nat.le_refl _, (fun e => by cases e), by rw [hpl]; omega⟩⟩, rfl, rfl, rfl, trivial⟩
  rw [List.getElem?_map] at hi
  obtain ⟨x, hx1, hx2⟩ := Option.map_eq_some_iff.1 hi
  subst hx2
  refine ho.atC fun j v hj => ?_
  match j, hj with
  | 0, hj => cases hj; rw [show 0 + i * 1 + 0 = i by omega, List.getElem?_map, hx1]; rfl
theorem swoE : Go.Sort.SWO (ltOf cmpE) where
  irrefl x := by unfold ltOf; rw [decide_eq_false_iff_not, cmpE_neg]; exact evLt_irr x
  trans x y z h1 h2 := by unfold ltOf at *; rw [decide_eq_true_eq, cmpE_neg] at *; exact evLt_trans h1 h2
  ntrans x y z h1 h2 := by
    unfold ltOf at *
    rw [decide_eq_false_iff_not, cmpE_neg] at *
    obtain ⟨a, b, c⟩ := x
    obtain ⟨a', b', c'⟩ := y
    obtain ⟨a'', b'', c''⟩ := z
    unfold evLt at *
    cases a <;> cases a' <;> cases a'' <;> simp at * <;> omega
theorem swoM : Go.Sort.SWO (ltOf cmpM) where
  irrefl x := by unfold ltOf; rw [decide_eq_false_iff_not, cmpM_neg]; exact mvLt_irr x
  trans x y z h1 h2 := by unfold ltOf at *; rw [decide_eq_true_eq, cmpM_neg] at *; exact mvLt_trans h1 h2
  ntrans x y z h1 h2 := by
    unfold ltOf at *
    rw [decide_eq_false_iff_not, cmpM_neg] at *
    obtain ⟨f, a, b, c, t, g⟩ := x
    obtain ⟨f', a', b', c', t', g'⟩ := y
    obtain ⟨f'', a'', b'', c'', t'', g''⟩ := z
    unfold mvLt evLt Mv.ev at *
    cases a <;> cases a' <;> cases a'' <;> simp at * <;> omega
instance : Inhabited Ev := ⟨⟨false, 0, 0⟩⟩
instance : Inhabited Mv := ⟨⟨0, false, 0, 0, 0, false⟩⟩
theorem sort137 {h0 h : Heap} {L : List It} (hs : St h0 h L) (k : Nat) {s : Sl} {l : List Ev} (hk : L[k]? = some (.sl s 116 3 (l.map Ev.cs))) (hm : l.length ≤ 1048576) :
    Fn Tryz.prog 137 #[.slice s.a s.n s.c, .func (.func 138) #[] #[]] h fun v h' => v = .tuple ⟨[]⟩ ∧ ∃ l' : List Ev, l'.Perm l ∧ l'.Pairwise (fun a b => ¬ evLt b a) ∧ St h0 h' (L.set k (.sl s 116 3 (l'.map Ev.cs))) := by
  refine Fn.mono (sort_own Tryz.sortL137 3 116 Tryz.isAgg116 Tryz.sizeOf116 Ev.cs (fun _ => rfl) (fun x v hv => by simp [Ev.cs] at hv; rcases hv with rfl | rfl | rfl <;> rfl) cmpE swoE 138 (enters_of Tryz.func138 (by kernel_rfl) rfl) (fun x y h => @M.compare138 monoDrawn x y h) hs k hk (by omega) (by omega)) ?_
  rintro v h' ⟨rfl, l', hp, hw, hs'⟩
  exact ⟨rfl, l', hp, hw.imp fun {a b} hab => by unfold ltOf at hab; rw [decide_eq_false_iff_not, cmpE_neg] at hab; exact hab, hs'⟩
theorem sort72 {h0 h : Heap} {L : List It} (hs : St h0 h L) (k : Nat) {s : Sl} {l : List Mv} (hk : L[k]? = some (.sl s 45 6 (l.map Mv.cs))) (hm : l.length ≤ 1048576) :
    Fn Tryz.prog 72 #[.slice s.a s.n s.c, .func (.func 73) #[] #[]] h fun v h' => v = .tuple ⟨[]⟩ ∧ ∃ l' : List Mv, l'.Perm l ∧ l'.Pairwise (fun a b => ¬ mvLt b a) ∧ St h0 h' (L.set k (.sl s 45 6 (l'.map Mv.cs))) := by
  refine Fn.mono (sort_own Tryz.sortL72 6 45 Tryz.isAgg45 Tryz.sizeOf45 Mv.cs (fun _ => rfl) (fun x v hv => by simp [Mv.cs] at hv; rcases hv with rfl | rfl | rfl | rfl | rfl | rfl <;> rfl) cmpM swoM 73 (enters_of Tryz.func73 (by kernel_rfl) rfl) (fun x y h => @M.order73 monoDrawn x y h) hs k hk (by omega) (by omega)) ?_
  rintro v h' ⟨rfl, l', hp, hw, hs'⟩
  exact ⟨rfl, l', hp, hw.imp fun {a b} hab => by unfold ltOf at hab; rw [decide_eq_false_iff_not, cmpM_neg] at hab; exact hab, hs'⟩
end Go.VC
end

section
/- For every program: the rest of a slice read as a slice; clear of the rest of a slice of the call's own; a copy of cells. -/
namespace Go.VC
open Go.RowKit
theorem subA_some {b o i c k : Nat} (h : i < c) : subA (some ⟨b, o, none⟩) i c k = some ⟨b, o + i * k, none⟩ := by
  unfold subA
  rw [if_neg (by omega)]
  show some ((⟨b, o, none⟩ : Addr).add (i * k)) = _
  rw [show (⟨b, o, none⟩ : Addr).add (i * k) = ⟨b, o + i * k, none⟩ from add_n _ _ _]
theorem Rw.from {h : Heap} {k : Nat} {s : Sl} {rows : List (List Value)} (hr : Rw h k s rows) {i : Nat} (hc : s.n ≤ s.c) (hi : i < s.n) : Rw h k ⟨subA s.a i s.c k, s.n - i, s.c - i⟩ (rows.drop i) := by
  obtain ⟨h1, h2⟩ := hr
  refine ⟨by rw [List.length_drop]; show s.n - i = _; omega, fun _ => ?_⟩
  obtain ⟨b, o, ha, hat⟩ := h2 (by omega)
  refine ⟨b, o + i * k, by rw [ha]; exact subA_some (by omega), fun j row hj => ?_⟩
  rw [List.getElem?_drop] at hj
  have := hat (i + j) row hj
  rw [Nat.add_mul, ← Nat.add_assoc] at this
  exact this
theorem zeroCells_len (z : Array Value) (n : Nat) : (Builtin.zeroCells z n).toList.length = n * z.size := by
  simp [Builtin.zeroCells]
theorem zeroCells_mem {z : Array Value} {n : Nat} {v : Value} (h : v ∈ (Builtin.zeroCells z n).toList) (hz : 0 < z.size) : v ∈ z.toList := by
  simp only [Builtin.zeroCells] at h
  simp only [Array.mem_toList_iff, Array.mem_map] at h
  obtain ⟨i, _, rfl⟩ := h
  rw [getElem!_pos z _ (Nat.mod_lt _ hz)]
  simp
theorem St.clear {P : Program} {h0 h : Heap} {L : List It} (hs : St h0 h L) (k : Nat) {s : Sl} {e : TypeId} {n : Nat} {rows : List (List Value)} (hk : L[k]? = some (.sl s e n rows)) (hn : 0 < n) (i : Nat) (hi : i ≤ s.n) {t ty e2 : TypeId} {z : Value}
    (hu : P.underlying t = some (.slice e2)) (hz : ∀ w, (zeroValue e2).run P w = .ok z w) (hzn : z.cells.size = n) (hz1 : z.cells.toList.all oneB = true) {K : Value → Heap → Prop}
    (hK : ∀ v h', St h0 h' (L.set k (.sl ⟨s.a, i, s.c⟩ e n (rows.take i))) → K v h') : RunW P (Builtin.clear_ #[t] ty #[.slice (subA s.a i s.c n) (s.n - i) (s.c - i)]) h K := by
  intro w hw
  subst hw
  have hget := hs.get hk
  have hln := (hs.rw k hk hn).1
  have hcap := hget.1.cap
  by_cases hin : i = s.n
  · refine ⟨.tuple #[], w, ?_, hK _ _ ?_, rfl, rfl, rfl⟩
    · rw [show s.n - i = 0 by omega]
      cases subA s.a i s.c n <;> simp [Builtin.clear_, run_underlying hu]
    · have e1 : rows.take i = rows := List.take_of_length_le (by omega)
      have e2 : (⟨s.a, i, s.c⟩ : Sl) = s := by rw [hin]
      rw [e1, e2]
      obtain ⟨a, b⟩ := List.getElem?_eq_some_iff.1 hk
      rw [← b, List.set_getElem_self a]; exact hs
  · have hlt : i < s.n := by omega
    rcases hget.1.2 with ⟨_, hn0, _⟩ | ⟨g, cur, ha, hb0, hh, hnc, hcm, hsz, htk⟩
    · omega
    · have hm : (s.n - i) * n + i * n = s.n * n := by rw [← Nat.add_mul]; congr 1; omega
      have hmc : s.n * n ≤ s.c * n := Nat.mul_le_mul_right _ hnc
      have hsub : subA s.a i s.c n = some ⟨g, 0 + i * n, none⟩ := by rw [ha]; exact subA_some (by omega)
      have hlen := zeroCells_len z.cells (s.n - i)
      rw [hzn] at hlen
      have hone : (Builtin.zeroCells z.cells (s.n - i)).toList.all oneB = true := by
        rw [List.all_eq_true] at hz1 ⊢
        exact fun v hv => hz1 v (zeroCells_mem hv (by omega))
      have hown : Own w.heap g cur.toList e := by unfold Own; rw [hh]
      have hok := hown.okAt (o := 0 + i * n) (n := (Builtin.zeroCells z.cells (s.n - i)).toList.length) (by rw [hlen]; simp; omega)
      obtain ⟨w', hr, hh', hf⟩ := storeCells_run (P := P) (a := ⟨g, 0 + i * n, none⟩) (Builtin.zeroCells z.cells (s.n - i)).toList 0 w hone (fun j hj => by rw [show 0 + j = j from Nat.zero_add j]; exact hok j hj)
      have hown' := Own.hputs (o := 0 + i * n) (Builtin.zeroCells z.cells (s.n - i)).toList 0 w.heap cur.toList hown (by rw [hlen]; simp; omega)
      have hbut := But.hputs (a := ⟨g, 0 + i * n, none⟩) (Builtin.zeroCells z.cells (s.n - i)).toList 0 w.heap
      rw [← hh'] at hown' hbut
      refine ⟨.tuple #[], w', ?_, hK _ _ ?_, hf.1, hf.2.1, hf.2.2.1⟩
      · rw [hsub]
        obtain ⟨m, hm⟩ : ∃ m, s.n - i = m + 1 := ⟨s.n - i - 1, by omega⟩
        rw [hm] at hr ⊢
        simp only [Nat.zero_add] at hr
        simp [Builtin.clear_, run_underlying hu, hz, hr]
      · refine hs.turn hk (by rw [hbut.1]; exact Nat.le_refl _) (j := .sl ⟨s.a, i, s.c⟩ e n (rows.take i)) ?_ (fun b hb => .inr hb) (fun b hb hne => hbut.2 b fun e => hne (by subst e; show s.a.map (·.block) = _; rw [ha]; rfl))
        have hrl : ∀ r ∈ rows.take i, r.length = n := fun r hr => hget.2 r (List.mem_of_mem_take hr)
        refine ⟨⟨by rw [flatten_len _ hrl, List.length_take]; show min i rows.length * n = i * n; rw [Nat.min_eq_left (by omega)], .inr ⟨g, _, ha, Nat.zero_le _, hown', by show i ≤ s.c; omega, hcm, ?_, ?_⟩⟩, hrl⟩
        · show (splice _ _ _).length = s.c * n
          rw [← hsz]
          have : 0 + i * n + 0 + (Builtin.zeroCells z.cells (s.n - i)).toList.length ≤ cur.toList.length := by rw [hlen]; simp; omega
          unfold splice
          simp only [List.length_append, List.length_take, List.length_drop, Array.length_toList] at this ⊢
          omega
        · show (splice cur.toList (0 + i * n + 0) _).take (i * n) = _
          have h3 : (rows.take i).flatten = rows.flatten.take (i * n) := by
            have h5 : rows = rows.take i ++ rows.drop i := (List.take_append_drop i rows).symm
            rw [congrArg List.flatten h5, List.flatten_append, List.take_append_of_le_length (by rw [flatten_len _ hrl, List.length_take, Nat.min_eq_left (by omega)]; exact Nat.le_refl _)]
            rw [List.take_of_length_le (l := (rows.take i).flatten) (by rw [flatten_len _ hrl, List.length_take, Nat.min_eq_left (by omega)]; exact Nat.le_refl _)]
          rw [h3, ← htk, List.take_take, Nat.min_eq_left (by omega)]
          unfold splice
          rw [List.append_assoc, List.take_append_of_le_length (by rw [List.length_take, Array.length_toList]; omega), List.take_take, Nat.min_eq_left (by omega)]
/-- a copy of cells into a block of the call's own -/
theorem Cpy_row {P : Program} {t u e : TypeId} (hu : P.underlying t = some (.slice e)) (hs : (P.info? e).map (·.size) = some 1) {h : Heap} {b o dLen dCap : Nat} {xs : List Value} {ty : TypeId} (ho : Own h b xs ty)
    {g2 o2 sLen sCap : Nat} {l : List Value} (hn : l.length = min sLen dLen) (hsrc : ∀ (j : Nat) (c : Value), l[j]? = some c → hc h ⟨g2, o2 + j, none⟩ = some c) (hfit : o + l.length ≤ xs.length) (h1 : ∀ v ∈ l, v.oneCell' = true)
    {K : Int → Heap → Prop} (hK : ∀ h', But b h h' → Own h' b (splice xs o l) ty → K l.length h') :
    Cpy P t u (.slice (some ⟨b, o, none⟩) dLen dCap) (.slice (some ⟨g2, o2, none⟩) sLen sCap) h K := by
  intro ty' w hw
  subst hw
  have hrun := run_copy_row (P := P) w t u ty' e b o dLen dCap ⟨g2, o2, none⟩ sLen sCap ⟨xs⟩ ty l hu hs ho hn
    (fun j v hj => by
      have e : (⟨g2, o2, none⟩ : Addr).add j = ⟨g2, o2 + j, none⟩ := add_n _ _ _
      rw [e]; exact hsrc j v hj)
    (by simp; omega) h1
  obtain ⟨h2, h3⟩ := setRow_own (ys := splice xs o l) ho
  exact ⟨_, _, hrun, ⟨l.length, rfl, hK _ h3 h2⟩, rfl, rfl, rfl⟩
end Go.VC
end
