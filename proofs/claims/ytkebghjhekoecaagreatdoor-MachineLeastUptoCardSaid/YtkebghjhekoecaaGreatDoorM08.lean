/- Texts of this claim, joined: QjVcA, QjA. -/
import Derived.Test.YtkebghjhekoecaaGreatDoorM02
import Derived.Test.YtkebghjhekoecaaGreatDoorProg
import Derived.KernelRfl
import Derived.Test.YtkebghjhekoecaaGreatDoorM05
import Derived.Lib.Split
set_option linter.unusedVariables false
set_option linter.unusedSimpArgs false

section
namespace Go.VC
open Go.Proofs
set_option maxRecDepth 100000
set_option linter.unusedVariables false

/- farandole/lex.IsName
 loop rrlrb: x_7:Int -/
def W204 (p0 : ByteArray) (h : Heap) (R : Value → Heap → Prop) : Prop :=
 (sB ((ByteArray.toList p0) == (ByteArray.toList ⟨#[]⟩))
 (R (.bool false) h)
 ((sB (decide ((ByteArray.size p0 : Int) > 16))
 (R (.bool false) h)
 (((0 ≤ (0 : Int) ∧ (0 : Int) < (ByteArray.size p0 : Nat)) ∧
 (Fn Tryz.prog 232 #[.int .u8 (byteAt p0 (Int.toNat 0) : Int)] h
 (fun v1 h3 => ∃ x2 : Bool, v1 = .bool x2 ∧
 (sB (!x2)
 (R (.bool false) h3)
 ((∃ I4 : Int → Heap → Nat → Prop, (∃ m5, I4 0 h3 m5) ∧
 (∀ (_ : Env) (x_7 : Int) (h8 : Heap) (m6 : Nat), I4 x_7 h8 m6 →
 (sB (decide (x_7 < (ByteArray.size p0 : Int)))
 (((0 ≤ (x_7 : Int) ∧ (x_7 : Int) < (ByteArray.size p0 : Nat)) ∧
 (Fn Tryz.prog 233 #[.int .u8 (byteAt p0 (Int.toNat x_7) : Int)] h8
 (fun v9 h11 => ∃ x10 : Bool, v9 = .bool x10 ∧
 (sB (!x10)
 (R (.bool false) h11)
 ((∃ m12, m12 < m6 ∧ I4 (IntKind.wrap .i64 (x_7 + 1)) h11 m12)))))))
 (R (.bool true) h8)))))))))))))
theorem vc204 (p0 : ByteArray) (h : Heap) (R : Value → Heap → Prop) (H : W204 p0 h R) : Fn Tryz.prog 204 #[.string p0] h R := fnI (A := (.s .z (.s .z (.s (.s .z (.b (.l [(19, .one (.int .i64))] .z))) .z)))) (by kernel_rfl) H

def W167 (p0 : ByteArray) (h : Heap) (R : Value → Heap → Prop) : Prop :=
 (∀ h1 : Heap, h1 = h.push (.cells ⟨[.string ⟨#[]⟩, .string ⟨#[]⟩, .string ⟨#[]⟩, .string ⟨#[]⟩, .string ⟨#[]⟩, .string ⟨#[]⟩, .string ⟨#[]⟩, .string ⟨#[]⟩, .string ⟨#[]⟩, .string ⟨#[]⟩, .string ⟨#[]⟩, .string ⟨#[]⟩, .string ⟨#[]⟩, .string ⟨#[]⟩, .string ⟨#[]⟩, .string ⟨#[]⟩, .string ⟨#[]⟩, .string ⟨#[]⟩, .string ⟨#[]⟩, .string ⟨#[]⟩, .string ⟨#[]⟩, .string ⟨#[]⟩, .string ⟨#[]⟩, .string ⟨#[]⟩, .string ⟨#[]⟩, .string ⟨#[]⟩, .string ⟨#[]⟩, .string ⟨#[]⟩]⟩ 260) →
 (okAt h1 ⟨h.size, 0, none⟩ 28 ∧ ∀ h2 : Heap, h2 = hputs h1 ⟨h.size, 0, none⟩ 0 [.string ⟨#[97, 103, 97, 105, 110]⟩, .string ⟨#[97, 110, 100]⟩, .string ⟨#[97, 115]⟩, .string ⟨#[97, 116]⟩, .string ⟨#[99, 97, 108, 108]⟩, .string ⟨#[99, 104, 111, 105, 99, 101]⟩, .string ⟨#[101, 108, 115, 101]⟩, .string ⟨#[102, 114, 111, 109]⟩, .string ⟨#[105, 102]⟩, .string ⟨#[105, 110, 116]⟩, .string ⟨#[108, 101, 110]⟩, .string ⟨#[108, 111, 111, 112]⟩, .string ⟨#[109, 101, 115, 115, 97, 103, 101]⟩, .string ⟨#[111, 102]⟩, .string ⟨#[111, 102, 102, 101, 114]⟩, .string ⟨#[111, 110]⟩, .string ⟨#[111, 114]⟩, .string ⟨#[112, 97, 114]⟩, .string ⟨#[112, 108, 97, 121, 115]⟩, .string ⟨#[112, 114, 111, 116, 111, 99, 111, 108]⟩, .string ⟨#[115, 101, 114, 118, 105, 99, 101]⟩, .string ⟨#[116, 101, 120, 116]⟩, .string ⟨#[116, 105, 109, 101, 115]⟩, .string ⟨#[116, 111]⟩, .string ⟨#[118, 97, 114]⟩, .string ⟨#[119, 104, 101, 114, 101]⟩, .string ⟨#[119, 104, 105, 108, 101]⟩, .string ⟨#[119, 105, 116, 104, 105, 110]⟩] →
 (Fn Tryz.prog 204 #[.string p0] h2
 (fun v3 h5 => ∃ x4 : Bool, v3 = .bool x4 ∧
 (sB x4
 ((((0 : Int) ≤ (0 : Int) ∧ (0 : Int) ≤ ((28 : Nat) : Int) ∧ ((28 : Nat) : Int) ≤ (28 : Nat)) ∧
 (Fn Tryz.prog 168 #[.slice (subA (some ⟨h.size, 0, none⟩) (Int.toNat 0) 28 1) (Int.toNat (28 : Nat) - Int.toNat 0) (28 - Int.toNat 0), .string p0] h5
 (fun v6 h8 => ∃ x7 : Bool, v6 = .bool x7 ∧
 R (.bool (!x7)) h8))))
 (R (.bool false) h5))))))
theorem vc167 (p0 : ByteArray) (h : Heap) (R : Value → Heap → Prop) (H : W167 p0 h R) : Fn Tryz.prog 167 #[.string p0] h R := fnI (A := .z) (by kernel_rfl) H

def W232 (p0 : Int) (h : Heap) (R : Value → Heap → Prop) : Prop :=
 (sB (decide ((97 : Int) ≤ p0))
 ((sB (decide (p0 ≤ 122))
 (R (.bool true) h)
 ((sB (decide ((65 : Int) ≤ p0))
 (R (.bool (decide (p0 ≤ 90))) h)
 (R (.bool false) h)))))
 ((sB (decide ((65 : Int) ≤ p0))
 (R (.bool (decide (p0 ≤ 90))) h)
 (R (.bool false) h))))
theorem vc232 (p0 : Int) (h : Heap) (R : Value → Heap → Prop) (H : W232 p0 h R) : Fn Tryz.prog 232 #[.int .u8 p0] h R := fnI (A := .z) (by kernel_rfl) H

def W233 (p0 : Int) (h : Heap) (R : Value → Heap → Prop) : Prop :=
 (Fn Tryz.prog 232 #[.int .u8 p0] h
 (fun v1 h3 => ∃ x2 : Bool, v1 = .bool x2 ∧
 (sB x2
 (R (.bool true) h3)
 ((Fn Tryz.prog 258 #[.int .u8 p0] h3
 (fun v4 h6 => ∃ x5 : Bool, v4 = .bool x5 ∧
 (sB x5
 (R (.bool true) h6)
 (R (.bool (p0 == 95)) h6))))))))
theorem vc233 (p0 : Int) (h : Heap) (R : Value → Heap → Prop) (H : W233 p0 h R) : Fn Tryz.prog 233 #[.int .u8 p0] h R := fnI (A := .z) (by kernel_rfl) H

def W258 (p0 : Int) (h : Heap) (R : Value → Heap → Prop) : Prop :=
 (sB (decide ((48 : Int) ≤ p0))
 (R (.bool (decide (p0 ≤ 57))) h)
 (R (.bool false) h))
theorem vc258 (p0 : Int) (h : Heap) (R : Value → Heap → Prop) (H : W258 p0 h R) : Fn Tryz.prog 258 #[.int .u8 p0] h R := fnI (A := .z) (by kernel_rfl) H

/- slices.Index[[]string,string]
 loop rlrb: x_4:Int -/
def W205 (p0 : Sl) (p1 : ByteArray) (h : Heap) (R : Value → Heap → Prop) : Prop :=
 (∃ I1 : Int → Heap → Nat → Prop, (∃ m2, I1 0 h m2) ∧
 (∀ (_ : Env) (x_4 : Int) (h5 : Heap) (m3 : Nat), I1 x_4 h5 m3 →
 (sB (decide (x_4 < (p0.n : Int)))
 ((NB p0.a fun b6 o7 => ((0 ≤ (x_4 : Int) ∧ (x_4 : Int) < (p0.n : Nat)) ∧
 (∃ x8 : ByteArray, hc h5 ⟨b6, o7 + Int.toNat x_4 * 1, none⟩ = some (.string x8) ∧
 (sB ((ByteArray.toList p1) == (ByteArray.toList x8))
 (R (.int .i64 x_4) h5)
 ((∃ m9, m9 < m3 ∧ I1 (IntKind.wrap .i64 (x_4 + 1)) h5 m9)))))))
 (R (.int .i64 (-1)) h5))))
theorem vc205 (p0 : Sl) (p1 : ByteArray) (h : Heap) (R : Value → Heap → Prop) (H : W205 p0 p1 h R) : Fn Tryz.prog 205 #[.slice p0.a p0.n p0.c, .string p1] h R := fnI (A := (.s .z (.s (.s .z (.b (.l [(8, .one (.int .i64))] .z))) .z))) (by kernel_rfl) H

def W168 (p0 : Sl) (p1 : ByteArray) (h : Heap) (R : Value → Heap → Prop) : Prop :=
 (Fn Tryz.prog 205 #[.slice p0.a p0.n p0.c, .string p1] h
 (fun v1 h3 => ∃ x2 : Int, v1 = .int .i64 x2 ∧
 R (.bool (decide (x2 ≥ 0))) h3))
theorem vc168 (p0 : Sl) (p1 : ByteArray) (h : Heap) (R : Value → Heap → Prop) (H : W168 p0 p1 h R) : Fn Tryz.prog 168 #[.slice p0.a p0.n p0.c, .string p1] h R := fnI (A := .z) (by kernel_rfl) H

/- slices.IndexFunc[[]string,string]
 loop rlrb: x_4:Int -/
def W268 (p0 : Sl) (p1 : FuncId) (h : Heap) (R : Value → Heap → Prop) : Prop :=
 (∃ I1 : Int → Heap → Nat → Prop, (∃ m2, I1 0 h m2) ∧
 (∀ (_ : Env) (x_4 : Int) (h5 : Heap) (m3 : Nat), I1 x_4 h5 m3 →
 (sB (decide (x_4 < (p0.n : Int)))
 ((NB p0.a fun b6 o7 => ((0 ≤ (x_4 : Int) ∧ (x_4 : Int) < (p0.n : Nat)) ∧
 (∃ x8 : ByteArray, hc h5 ⟨b6, o7 + Int.toNat x_4 * 1, none⟩ = some (.string x8) ∧
 (bif callable Tryz.prog p1 then Fn Tryz.prog p1 #[.string x8] h5
 (fun v9 h11 => ∃ x10 : Bool, v9 = .bool x10 ∧
 (sB x10
 (R (.int .i64 x_4) h11)
 ((∃ m12, m12 < m3 ∧ I1 (IntKind.wrap .i64 (x_4 + 1)) h11 m12)))) else ExtW Tryz.prog p1 #[.string x8] h5
 (fun v9 h11 => ∃ x10 : Bool, v9 = .bool x10 ∧
 (sB x10
 (R (.int .i64 x_4) h11)
 ((∃ m12, m12 < m3 ∧ I1 (IntKind.wrap .i64 (x_4 + 1)) h11 m12)))))))))
 (R (.int .i64 (-1)) h5))))
theorem vc268 (p0 : Sl) (p1 : FuncId) (h : Heap) (R : Value → Heap → Prop) (H : W268 p0 p1 h R) : Fn Tryz.prog 268 #[.slice p0.a p0.n p0.c, .func (.func p1) #[] #[]] h R := fnI (A := (.s .z (.s (.s .z (.b (.l [(8, .one (.int .i64))] .z))) .z))) (by kernel_rfl) H

def W259 (p0 : Sl) (p1 : Value) (h : Heap) (R : Value → Heap → Prop) : Prop :=
 (Fn Tryz.prog 268 #[.slice p0.a p0.n p0.c, p1] h
 (fun v1 h3 => ∃ x2 : Int, v1 = .int .i64 x2 ∧
 R (.bool (decide (x2 ≥ 0))) h3))
theorem vc259 (p0 : Sl) (p1 : Value) (h : Heap) (R : Value → Heap → Prop) (H : W259 p0 p1 h R) : Fn Tryz.prog 259 #[.slice p0.a p0.n p0.c, p1] h R := fnI (A := .z) (by kernel_rfl) H

def W261 (p0 : ByteArray) (h : Heap) (R : Value → Heap → Prop) : Prop :=
 (Fn Tryz.prog 167 #[.string p0] h
 (fun v1 h3 => ∃ x2 : Bool, v1 = .bool x2 ∧
 R (.bool (!x2)) h3))
theorem vc261 (p0 : ByteArray) (h : Heap) (R : Value → Heap → Prop) (H : W261 p0 h R) : Fn Tryz.prog 261 #[.string p0] h R := fnI (A := .z) (by kernel_rfl) H

def W235 (p0 : ByteArray) (h : Heap) (R : Value → Heap → Prop) : Prop :=
 (sB (decide ((ByteArray.size p0 : Int) ≤ 50))
 ((Fn Tryz.prog 260 #[.string p0, .string ⟨#[46]⟩] h
 (fun v1 h3 => ∃ x2 : Sl, v1 = .slice x2.a x2.n x2.c ∧
 (Fn Tryz.prog 259 #[.slice x2.a x2.n x2.c, .func (.func 261) #[] #[]] h3
 (fun v4 h6 => ∃ x5 : Bool, v4 = .bool x5 ∧
 R (.bool (!x5)) h6)))))
 (R (.bool false) h))
theorem vc235 (p0 : ByteArray) (h : Heap) (R : Value → Heap → Prop) (H : W235 p0 h R) : Fn Tryz.prog 235 #[.string p0] h R := fnI (A := .z) (by kernel_rfl) H

/- farandole/guard.fields
 loop rrlrb: out_4:Sl, x_5:Int -/
def W234 (p0 : Sl) (h : Heap) (R : Value → Heap → Prop) : Prop :=
 (∃ I1 : Sl → Int → Heap → Nat → Prop, (∃ m2, I1 ⟨none, 0, 0⟩ 0 h m2) ∧
 (∀ (_ : Env) (out_4 : Sl) (x_5 : Int) (h6 : Heap) (m3 : Nat), I1 out_4 x_5 h6 m3 →
 (sB (decide (x_5 < (p0.n : Int)))
 ((NB p0.a fun b7 o8 => ((0 ≤ (x_5 : Int) ∧ (x_5 : Int) < (p0.n : Nat)) ∧
 (∃ (x9 : ByteArray) (x10 : Sl) (x11 : Int) (x12 x13 : Sl), atC h6 ⟨b7, o8 + Int.toNat x_5 * 5, none⟩ [.string x9, .slice x10.a x10.n x10.c, .int .i64 x11, .slice x12.a x12.n x12.c, .slice x13.a x13.n x13.c] ∧
 (∀ h14 : Heap, h14 = h6.push (.cells ⟨[.string ⟨#[]⟩, .slice none 0 0, .int .i64 0, .slice none 0 0, .slice none 0 0]⟩ 153) →
 (okAt h14 ⟨h6.size, 0, none⟩ 5 ∧ ∀ h15 : Heap, h15 = hputs h14 ⟨h6.size, 0, none⟩ 0 [.string x9, .slice x10.a x10.n x10.c, .int .i64 x11, .slice x12.a x12.n x12.c, .slice x13.a x13.n x13.c] →
 (∃ x16 : Sl, hc h15 ⟨h6.size, 1, none⟩ = some (.slice x16.a x16.n x16.c) ∧
 (App Tryz.prog 147 147 (.slice out_4.a out_4.n out_4.c) (.slice x16.a x16.n x16.c) h15 fun s17 h18 =>
 (∃ m19, m19 < m3 ∧ I1 s17 (IntKind.wrap .i64 (x_5 + 1)) h18 m19)))))))))
 (R (.slice out_4.a out_4.n out_4.c) h6))))
theorem vc234 (p0 : Sl) (h : Heap) (R : Value → Heap → Prop) (H : W234 p0 h R) : Fn Tryz.prog 234 #[.slice p0.a p0.n p0.c] h R := fnI (A := (.s .z (.s .z (.s (.s .z (.b (.l [(3, .one (.slice)), (8, .one (.int .i64))] .z))) .z)))) (by kernel_rfl) H

def W237 (p0_1 : ByteArray) (p0_2 : Sl) (p0_3 : Int) (p0_4 p0_5 : Sl) (c0 : Addr) (h : Heap) (R : Value → Heap → Prop) : Prop :=
 (∀ h6 : Heap, h6 = h.push (.cells ⟨[.string p0_1, .slice p0_2.a p0_2.n p0_2.c, .int .i64 p0_3, .slice p0_4.a p0_4.n p0_4.c, .slice p0_5.a p0_5.n p0_5.c]⟩ 153) →
 (∃ x7 : ByteArray, hc h6 ⟨h.size, 0, none⟩ = some (.string x7) ∧
 (∃ x8 : ByteArray, hc h6 c0 = some (.string x8) ∧
 R (.bool ((ByteArray.toList x7) == (ByteArray.toList x8))) h6)))
theorem vc237 (p0_1 : ByteArray) (p0_2 : Sl) (p0_3 : Int) (p0_4 p0_5 : Sl) (c0 : Addr) (h : Heap) (R : Value → Heap → Prop) (H : W237 p0_1 p0_2 p0_3 p0_4 p0_5 c0 h R) : Fn Tryz.prog 237 #[.agg ⟨[.string p0_1, .slice p0_2.a p0_2.n p0_2.c, .int .i64 p0_3, .slice p0_4.a p0_4.n p0_4.c, .slice p0_5.a p0_5.n p0_5.c]⟩, .pointer (some c0)] h R := fnI (A := .z) (by kernel_rfl) H

def W240 (p0_1 : ByteArray) (p0_2 p0_3 p0_4 : Int) (c0 : Addr) (h : Heap) (R : Value → Heap → Prop) : Prop :=
 (∀ h5 : Heap, h5 = h.push (.cells ⟨[.string p0_1, .int .i64 p0_2, .int .i64 p0_3, .int .i64 p0_4]⟩ 248) →
 (∃ x6 : ByteArray, hc h5 ⟨h.size, 0, none⟩ = some (.string x6) ∧
 (∃ x7 : ByteArray, hc h5 c0 = some (.string x7) ∧
 R (.bool ((ByteArray.toList x6) == (ByteArray.toList x7))) h5)))
theorem vc240 (p0_1 : ByteArray) (p0_2 p0_3 p0_4 : Int) (c0 : Addr) (h : Heap) (R : Value → Heap → Prop) (H : W240 p0_1 p0_2 p0_3 p0_4 c0 h R) : Fn Tryz.prog 240 #[.agg ⟨[.string p0_1, .int .i64 p0_2, .int .i64 p0_3, .int .i64 p0_4]⟩, .pointer (some c0)] h R := fnI (A := .z) (by kernel_rfl) H

def W238 (p0_1 p0_2 p0_3 : Int) (h : Heap) (R : Value → Heap → Prop) : Prop :=
 (∀ h4 : Heap, h4 = h.push (.cells ⟨[.int .i64 p0_1, .int .i64 p0_2, .int .i64 p0_3]⟩ 246) →
 (∃ x5 : Int, hc h4 ⟨h.size, 0, none⟩ = some (.int .i64 x5) ∧
 (sB (x5 == 1)
 ((∃ x6 : Int, hc h4 ⟨h.size, 1, none⟩ = some (.int .i64 x6) ∧
 (sB (decide (x6 ≥ (-1000)))
 ((∃ x7 : Int, hc h4 ⟨h.size, 1, none⟩ = some (.int .i64 x7) ∧
 (∃ x8 : Int, hc h4 ⟨h.size, 2, none⟩ = some (.int .i64 x8) ∧
 (sB (decide (x7 ≤ x8))
 ((∃ x9 : Int, hc h4 ⟨h.size, 2, none⟩ = some (.int .i64 x9) ∧
 R (.bool (decide (x9 ≤ 1000))) h4))
 (R (.bool false) h4)))))
 (R (.bool false) h4))))
 ((sB (x5 == 2)
 ((∃ x10 : Int, hc h4 ⟨h.size, 1, none⟩ = some (.int .i64 x10) ∧
 (sB (decide (x10 ≥ 0))
 ((∃ x11 : Int, hc h4 ⟨h.size, 1, none⟩ = some (.int .i64 x11) ∧
 (∃ x12 : Int, hc h4 ⟨h.size, 2, none⟩ = some (.int .i64 x12) ∧
 (sB (decide (x11 ≤ x12))
 ((∃ x13 : Int, hc h4 ⟨h.size, 2, none⟩ = some (.int .i64 x13) ∧
 R (.bool (decide (x13 ≤ 40))) h4))
 (R (.bool false) h4)))))
 (R (.bool false) h4))))
 (R (.bool false) h4))))))
theorem vc238 (p0_1 p0_2 p0_3 : Int) (h : Heap) (R : Value → Heap → Prop) (H : W238 p0_1 p0_2 p0_3 h R) : Fn Tryz.prog 238 #[.agg ⟨[.int .i64 p0_1, .int .i64 p0_2, .int .i64 p0_3]⟩] h R := fnI (A := .z) (by kernel_rfl) H

/- slices.IndexFunc[[]farandole/api.Decl,farandole/api.Decl]
 loop rlrb: x_4:Int -/
def W262 (p0 : Sl) (p1 : FuncId) (p1c : Option Addr) (h : Heap) (R : Value → Heap → Prop) : Prop :=
 (∃ I1 : Int → Heap → Nat → Prop, (∃ m2, I1 0 h m2) ∧
 (∀ (_ : Env) (x_4 : Int) (h5 : Heap) (m3 : Nat), I1 x_4 h5 m3 →
 (sB (decide (x_4 < (p0.n : Int)))
 ((NB p0.a fun b6 o7 => ((0 ≤ (x_4 : Int) ∧ (x_4 : Int) < (p0.n : Nat)) ∧
 (∃ (x8 : ByteArray) (x9 : Sl) (x10 : Int) (x11 x12 : Sl), atC h5 ⟨b6, o7 + Int.toNat x_4 * 5, none⟩ [.string x8, .slice x9.a x9.n x9.c, .int .i64 x10, .slice x11.a x11.n x11.c, .slice x12.a x12.n x12.c] ∧
 (bif callable Tryz.prog p1 then Fn Tryz.prog p1 #[.agg ⟨[.string x8, .slice x9.a x9.n x9.c, .int .i64 x10, .slice x11.a x11.n x11.c, .slice x12.a x12.n x12.c]⟩, .pointer p1c] h5
 (fun v13 h15 => ∃ x14 : Bool, v13 = .bool x14 ∧
 (sB x14
 (R (.int .i64 x_4) h15)
 ((∃ m16, m16 < m3 ∧ I1 (IntKind.wrap .i64 (x_4 + 1)) h15 m16)))) else ExtW Tryz.prog p1 #[.agg ⟨[.string x8, .slice x9.a x9.n x9.c, .int .i64 x10, .slice x11.a x11.n x11.c, .slice x12.a x12.n x12.c]⟩, .pointer p1c] h5
 (fun v13 h15 => ∃ x14 : Bool, v13 = .bool x14 ∧
 (sB x14
 (R (.int .i64 x_4) h15)
 ((∃ m16, m16 < m3 ∧ I1 (IntKind.wrap .i64 (x_4 + 1)) h15 m16)))))))))
 (R (.int .i64 (-1)) h5))))
theorem vc262 (p0 : Sl) (p1 : FuncId) (p1c : Option Addr) (h : Heap) (R : Value → Heap → Prop) (H : W262 p0 p1 p1c h R) : Fn Tryz.prog 262 #[.slice p0.a p0.n p0.c, .func (.func p1) #[] #[.pointer p1c]] h R := fnI (A := (.s .z (.s (.s .z (.b (.l [(8, .one (.int .i64))] .z))) .z))) (by kernel_rfl) H

/- slices.IndexFunc[[]farandole/api.Field,farandole/api.Field]
 loop rlrb: x_4:Int -/
def W263 (p0 : Sl) (p1 : FuncId) (p1c : Option Addr) (h : Heap) (R : Value → Heap → Prop) : Prop :=
 (∃ I1 : Int → Heap → Nat → Prop, (∃ m2, I1 0 h m2) ∧
 (∀ (_ : Env) (x_4 : Int) (h5 : Heap) (m3 : Nat), I1 x_4 h5 m3 →
 (sB (decide (x_4 < (p0.n : Int)))
 ((NB p0.a fun b6 o7 => ((0 ≤ (x_4 : Int) ∧ (x_4 : Int) < (p0.n : Nat)) ∧
 (∃ (x8 : ByteArray) (x9 x10 x11 : Int), atC h5 ⟨b6, o7 + Int.toNat x_4 * 4, none⟩ [.string x8, .int .i64 x9, .int .i64 x10, .int .i64 x11] ∧
 (bif callable Tryz.prog p1 then Fn Tryz.prog p1 #[.agg ⟨[.string x8, .int .i64 x9, .int .i64 x10, .int .i64 x11]⟩, .pointer p1c] h5
 (fun v12 h14 => ∃ x13 : Bool, v12 = .bool x13 ∧
 (sB x13
 (R (.int .i64 x_4) h14)
 ((∃ m15, m15 < m3 ∧ I1 (IntKind.wrap .i64 (x_4 + 1)) h14 m15)))) else ExtW Tryz.prog p1 #[.agg ⟨[.string x8, .int .i64 x9, .int .i64 x10, .int .i64 x11]⟩, .pointer p1c] h5
 (fun v12 h14 => ∃ x13 : Bool, v12 = .bool x13 ∧
 (sB x13
 (R (.int .i64 x_4) h14)
 ((∃ m15, m15 < m3 ∧ I1 (IntKind.wrap .i64 (x_4 + 1)) h14 m15)))))))))
 (R (.int .i64 (-1)) h5))))
theorem vc263 (p0 : Sl) (p1 : FuncId) (p1c : Option Addr) (h : Heap) (R : Value → Heap → Prop) (H : W263 p0 p1 p1c h R) : Fn Tryz.prog 263 #[.slice p0.a p0.n p0.c, .func (.func p1) #[] #[.pointer p1c]] h R := fnI (A := (.s .z (.s (.s .z (.b (.l [(8, .one (.int .i64))] .z))) .z))) (by kernel_rfl) H

def W236 (p0 : Sl) (p1 : Value) (h : Heap) (R : Value → Heap → Prop) : Prop :=
 (Fn Tryz.prog 262 #[.slice p0.a p0.n p0.c, p1] h
 (fun v1 h3 => ∃ x2 : Int, v1 = .int .i64 x2 ∧
 R (.bool (decide (x2 ≥ 0))) h3))
theorem vc236 (p0 : Sl) (p1 : Value) (h : Heap) (R : Value → Heap → Prop) (H : W236 p0 p1 h R) : Fn Tryz.prog 236 #[.slice p0.a p0.n p0.c, p1] h R := fnI (A := .z) (by kernel_rfl) H

def W239 (p0 : Sl) (p1 : Value) (h : Heap) (R : Value → Heap → Prop) : Prop :=
 (Fn Tryz.prog 263 #[.slice p0.a p0.n p0.c, p1] h
 (fun v1 h3 => ∃ x2 : Int, v1 = .int .i64 x2 ∧
 R (.bool (decide (x2 ≥ 0))) h3))
theorem vc239 (p0 : Sl) (p1 : Value) (h : Heap) (R : Value → Heap → Prop) (H : W239 p0 p1 h R) : Fn Tryz.prog 239 #[.slice p0.a p0.n p0.c, p1] h R := fnI (A := .z) (by kernel_rfl) H

/- farandole/guard.guarded
 loop rrrlrborrlbrrb: x_43:Int
 loop rrrlrb: x_30:Int
 loop rrlrb: x_10:Int -/
def W241 (p0_1 p0_2 p1 : Sl) (h : Heap) (R : Value → Heap → Prop) : Prop :=
 (∀ h3 : Heap, h3 = h.push (.cells ⟨[.slice p0_1.a p0_1.n p0_1.c, .slice p0_2.a p0_2.n p0_2.c]⟩ 151) →
 (∃ x4 : Sl, hc h3 ⟨h.size, 0, none⟩ = some (.slice x4.a x4.n x4.c) ∧
 (sB (decide ((x4.n : Int) > 20))
 (R (.bool false) h3)
 ((∃ x5 : Sl, hc h3 ⟨h.size, 1, none⟩ = some (.slice x5.a x5.n x5.c) ∧
 (sB (decide ((x5.n : Int) > 20))
 (R (.bool false) h3)
 ((∃ x6 : Sl, hc h3 ⟨h.size, 0, none⟩ = some (.slice x6.a x6.n x6.c) ∧
 (∃ I7 : Int → Heap → Nat → Prop, (∃ m8, I7 0 h3 m8) ∧
 (∀ (_ : Env) (x_10 : Int) (h11 : Heap) (m9 : Nat), I7 x_10 h11 m9 →
 (sB (decide (x_10 < (x6.n : Int)))
 ((NB x6.a fun b12 o13 => ((0 ≤ (x_10 : Int) ∧ (x_10 : Int) < (x6.n : Nat)) ∧
 (∃ (x14 x15 x16 : Int), atC h11 ⟨b12, o13 + Int.toNat x_10 * 3, none⟩ [.int .i64 x14, .int .i64 x15, .int .i64 x16] ∧
 (∀ h17 : Heap, h17 = h11.push (.cells ⟨[.int .i64 0, .int .i64 0, .int .i64 0]⟩ 277) →
 (okAt h17 ⟨h11.size, 0, none⟩ 3 ∧ ∀ h18 : Heap, h18 = hputs h17 ⟨h11.size, 0, none⟩ 0 [.int .i64 x14, .int .i64 x15, .int .i64 x16] →
 (∃ x19 : Int, hc h18 ⟨h11.size, 0, none⟩ = some (.int .i64 x19) ∧
 (∃ x20 : Int, hc h18 ⟨h11.size, 1, none⟩ = some (.int .i64 x20) ∧
 (sB (decide ((imin x19 x20) < (-1)))
 (R (.bool false) h18)
 ((∃ x21 : Int, hc h18 ⟨h11.size, 0, none⟩ = some (.int .i64 x21) ∧
 (∃ x22 : Int, hc h18 ⟨h11.size, 1, none⟩ = some (.int .i64 x22) ∧
 (sB (decide ((imax x21 x22) ≥ (p1.n : Int)))
 (R (.bool false) h18)
 ((∃ x23 : Int, hc h18 ⟨h11.size, 2, none⟩ = some (.int .i64 x23) ∧
 (sB (decide (x23 < (-20000)))
 (R (.bool false) h18)
 ((∃ x24 : Int, hc h18 ⟨h11.size, 2, none⟩ = some (.int .i64 x24) ∧
 (sB (decide (x24 > 20000))
 (R (.bool false) h18)
 ((∃ m25, m25 < m9 ∧ I7 (IntKind.wrap .i64 (x_10 + 1)) h18 m25)))))))))))))))))))))
 ((∃ x26 : Sl, hc h11 ⟨h.size, 1, none⟩ = some (.slice x26.a x26.n x26.c) ∧
 (∃ I27 : Int → Heap → Nat → Prop, (∃ m28, I27 0 h11 m28) ∧
 (∀ (_ : Env) (x_30 : Int) (h31 : Heap) (m29 : Nat), I27 x_30 h31 m29 →
 (sB (decide (x_30 < (x26.n : Int)))
 ((NB x26.a fun b32 o33 => ((0 ≤ (x_30 : Int) ∧ (x_30 : Int) < (x26.n : Nat)) ∧
 (∃ (x34 x35 : Int), atC h31 ⟨b32, o33 + Int.toNat x_30 * 2, none⟩ [.int .i64 x34, .int .i64 x35] ∧
 (∀ h36 : Heap, h36 = h31.push (.cells ⟨[.int .i64 0, .int .i64 0]⟩ 94) →
 (okAt h36 ⟨h31.size, 0, none⟩ 2 ∧ ∀ h37 : Heap, h37 = hputs h36 ⟨h31.size, 0, none⟩ 0 [.int .i64 x34, .int .i64 x35] →
 (∃ (x38 x39 : Int), atC h37 ⟨h31.size, 0, none⟩ [.int .i64 x38, .int .i64 x39] ∧
 (∃ I40 : Int → Heap → Nat → Prop, (∃ m41, I40 0 h37 m41) ∧
 (∀ (_ : Env) (x_43 : Int) (h44 : Heap) (m42 : Nat), I40 x_43 h44 m42 →
 (sB (decide (x_43 < 2))
 (((0 ≤ (x_43 : Int) ∧ (x_43 : Int) < (2 : Nat)) ∧ ∃ x45 : Int, List.take 1 (List.drop (Int.toNat x_43 * 1) ([.int .i64 x38, .int .i64 x39] : List Value)) = [.int .i64 x45] ∧
 (sB (decide (x45 < 0))
 (R (.bool false) h44)
 ((sB (decide (x45 ≥ (p1.n : Int)))
 (R (.bool false) h44)
 ((NB p1.a fun b46 o47 => ((0 ≤ (x45 : Int) ∧ (x45 : Int) < (p1.n : Nat)) ∧
 (∃ x48 : Int, hc h44 ⟨b46, o47 + Int.toNat x45 * 4 + 1, none⟩ = some (.int .i64 x48) ∧
 (sB (x48 != 2)
 (R (.bool false) h44)
 ((∃ m49, m49 < m42 ∧ I40 (IntKind.wrap .i64 (x_43 + 1)) h44 m49))))))))))))
 ((∃ m50, m50 < m29 ∧ I27 (IntKind.wrap .i64 (x_30 + 1)) h44 m50))))))))))))
 (R (.bool true) h31)))))))))))))))))
theorem vc241 (p0_1 p0_2 p1 : Sl) (h : Heap) (R : Value → Heap → Prop) (H : W241 p0_1 p0_2 p1 h R) : Fn Tryz.prog 241 #[.agg ⟨[.slice p0_1.a p0_1.n p0_1.c, .slice p0_2.a p0_2.n p0_2.c]⟩, .slice p1.a p1.n p1.c] h R := fnI (A := (.s .z (.s .z (.s (.s .z (.b (.l [(24, .one (.int .i64))] .z))) (.s (.s .z (.b (.l [(58, .one (.int .i64))] (.s .z (.s .z (.s (.b (.s .z (.s .z (.b (.l [(63, .one (.int .i64))] .z))))) .z)))))) .z))))) (by kernel_rfl) H

/- farandole/guard.valid
 loop rrrrrlrborrlbrrrlrb: x_33:Int
 loop rrrrrlrb: at_7:Int, x_8:Int -/
def W206 (p0 : Sl) (h : Heap) (R : Value → Heap → Prop) : Prop :=
 (sB (decide ((p0.n : Int) > 40))
 (R (.bool false) h)
 ((Fn Tryz.prog 234 #[.slice p0.a p0.n p0.c] h
 (fun v1 h3 => ∃ x2 : Sl, v1 = .slice x2.a x2.n x2.c ∧
 (sB (decide ((x2.n : Int) > 24))
 (R (.bool false) h3)
 ((∃ I4 : Int → Int → Heap → Nat → Prop, (∃ m5, I4 0 0 h3 m5) ∧
 (∀ (_ : Env) (at_7 x_8 : Int) (h9 : Heap) (m6 : Nat), I4 at_7 x_8 h9 m6 →
 (sB (decide (x_8 < (p0.n : Int)))
 ((NB p0.a fun b10 o11 => ((0 ≤ (x_8 : Int) ∧ (x_8 : Int) < (p0.n : Nat)) ∧
 (∃ (x12 : ByteArray) (x13 : Sl) (x14 : Int) (x15 x16 : Sl), atC h9 ⟨b10, o11 + Int.toNat x_8 * 5, none⟩ [.string x12, .slice x13.a x13.n x13.c, .int .i64 x14, .slice x15.a x15.n x15.c, .slice x16.a x16.n x16.c] ∧
 (∀ h17 : Heap, h17 = h9.push (.cells ⟨[.string ⟨#[]⟩, .slice none 0 0, .int .i64 0, .slice none 0 0, .slice none 0 0]⟩ 153) →
 (okAt h17 ⟨h9.size, 0, none⟩ 5 ∧ ∀ h18 : Heap, h18 = hputs h17 ⟨h9.size, 0, none⟩ 0 [.string x12, .slice x13.a x13.n x13.c, .int .i64 x14, .slice x15.a x15.n x15.c, .slice x16.a x16.n x16.c] →
 (∃ x19 : ByteArray, hc h18 ⟨h9.size, 0, none⟩ = some (.string x19) ∧
 (Fn Tryz.prog 235 #[.string x19] h18
 (fun v20 h22 => ∃ x21 : Bool, v20 = .bool x21 ∧
 (sB (!x21)
 (R (.bool false) h22)
 ((∃ x23 : Sl, hc h22 ⟨h9.size, 1, none⟩ = some (.slice x23.a x23.n x23.c) ∧
 (sB (decide ((x23.n : Int) > 4))
 (R (.bool false) h22)
 ((∃ x24 : Int, hc h22 ⟨h9.size, 2, none⟩ = some (.int .i64 x24) ∧
 (sB (x24 != at_7)
 (R (.bool false) h22)
 ((((0 : Int) ≤ (0 : Int) ∧ (0 : Int) ≤ (x_8 : Int) ∧ (x_8 : Int) ≤ (p0.c : Nat)) ∧
 (Fn Tryz.prog 236 #[.slice (subA p0.a (Int.toNat 0) p0.c 5) (Int.toNat x_8 - Int.toNat 0) (p0.c - Int.toNat 0), .func (.func 237) #[] #[.pointer (some ⟨h9.size, 0, none⟩)]] h22
 (fun v25 h27 => ∃ x26 : Bool, v25 = .bool x26 ∧
 (sB x26
 (R (.bool false) h27)
 ((∃ x28 : Sl, hc h27 ⟨h9.size, 1, none⟩ = some (.slice x28.a x28.n x28.c) ∧
 (∃ x29 : Sl, hc h27 ⟨h9.size, 1, none⟩ = some (.slice x29.a x29.n x29.c) ∧
 (∃ I30 : Int → Heap → Nat → Prop, (∃ m31, I30 0 h27 m31) ∧
 (∀ (_ : Env) (x_33 : Int) (h34 : Heap) (m32 : Nat), I30 x_33 h34 m32 →
 (sB (decide (x_33 < (x29.n : Int)))
 ((NB x29.a fun b35 o36 => ((0 ≤ (x_33 : Int) ∧ (x_33 : Int) < (x29.n : Nat)) ∧
 (∃ (x37 : ByteArray) (x38 x39 x40 : Int), atC h34 ⟨b35, o36 + Int.toNat x_33 * 4, none⟩ [.string x37, .int .i64 x38, .int .i64 x39, .int .i64 x40] ∧
 (∀ h41 : Heap, h41 = h34.push (.cells ⟨[.string ⟨#[]⟩, .int .i64 0, .int .i64 0, .int .i64 0]⟩ 248) →
 (okAt h41 ⟨h34.size, 0, none⟩ 4 ∧ ∀ h42 : Heap, h42 = hputs h41 ⟨h34.size, 0, none⟩ 0 [.string x37, .int .i64 x38, .int .i64 x39, .int .i64 x40] →
 (∃ x43 : ByteArray, hc h42 ⟨h34.size, 0, none⟩ = some (.string x43) ∧
 (Fn Tryz.prog 167 #[.string x43] h42
 (fun v44 h46 => ∃ x45 : Bool, v44 = .bool x45 ∧
 (sB (!x45)
 (R (.bool false) h46)
 ((∃ (x47 x48 x49 : Int), atC h46 ⟨h34.size, 1, none⟩ [.int .i64 x47, .int .i64 x48, .int .i64 x49] ∧
 (Fn Tryz.prog 238 #[.agg ⟨[.int .i64 x47, .int .i64 x48, .int .i64 x49]⟩] h46
 (fun v50 h52 => ∃ x51 : Bool, v50 = .bool x51 ∧
 (sB (!x51)
 (R (.bool false) h52)
 ((∃ x53 : Sl, hc h52 ⟨h9.size, 1, none⟩ = some (.slice x53.a x53.n x53.c) ∧
 (((0 : Int) ≤ (0 : Int) ∧ (0 : Int) ≤ (x_33 : Int) ∧ (x_33 : Int) ≤ (x53.c : Nat)) ∧
 (Fn Tryz.prog 239 #[.slice (subA x53.a (Int.toNat 0) x53.c 4) (Int.toNat x_33 - Int.toNat 0) (x53.c - Int.toNat 0), .func (.func 240) #[] #[.pointer (some ⟨h34.size, 0, none⟩)]] h52
 (fun v54 h56 => ∃ x55 : Bool, v54 = .bool x55 ∧
 (sB x55
 (R (.bool false) h56)
 ((∃ m57, m57 < m32 ∧ I30 (IntKind.wrap .i64 (x_33 + 1)) h56 m57)))))))))))))))))))))))
 ((∃ (x58 x59 : Sl), atC h34 ⟨h9.size, 3, none⟩ [.slice x58.a x58.n x58.c, .slice x59.a x59.n x59.c] ∧
 (Fn Tryz.prog 241 #[.agg ⟨[.slice x58.a x58.n x58.c, .slice x59.a x59.n x59.c]⟩, .slice x2.a x2.n x2.c] h34
 (fun v60 h62 => ∃ x61 : Bool, v60 = .bool x61 ∧
 (sB (!x61)
 (R (.bool false) h62)
 ((∃ m63, m63 < m6 ∧ I4 (IntKind.wrap .i64 (at_7 + (x28.n : Int))) (IntKind.wrap .i64 (x_8 + 1)) h62 m63))))))))))))))))))))))))))))))))))
 (R (.bool true) h9))))))))))
theorem vc206 (p0 : Sl) (h : Heap) (R : Value → Heap → Prop) (H : W206 p0 h R) : Fn Tryz.prog 206 #[.slice p0.a p0.n p0.c] h R := fnI (A := (.s .z (.s .z (.s .z (.s .z (.s .z (.s (.s .z (.b (.l [(4, .one (.int .i64)), (19, .one (.int .i64))] (.s .z (.s .z (.s (.b (.s .z (.s .z (.s .z (.s (.s .z (.b (.l [(55, .one (.int .i64))] .z))) .z))))) .z)))))) .z))))))) (by kernel_rfl) H

/- farandole/guard.bounds
 loop rrrrlrb: out_37:Sl, x_38:Int
 loop rrlrb: out_11:Sl, x_12:Int -/
def W207 (p0_1 : ByteArray) (p0_2 : Sl) (p0_3 : Int) (p0_4 p0_5 : Sl) (h : Heap) (R : Value → Heap → Prop) : Prop :=
 (∀ h6 : Heap, h6 = h.push (.cells ⟨[.string p0_1, .slice p0_2.a p0_2.n p0_2.c, .int .i64 p0_3, .slice p0_4.a p0_4.n p0_4.c, .slice p0_5.a p0_5.n p0_5.c]⟩ 153) →
 (∃ x7 : Sl, hc h6 ⟨h.size, 1, none⟩ = some (.slice x7.a x7.n x7.c) ∧
 (∃ I8 : Sl → Int → Heap → Nat → Prop, (∃ m9, I8 ⟨none, 0, 0⟩ 0 h6 m9) ∧
 (∀ (_ : Env) (out_11 : Sl) (x_12 : Int) (h13 : Heap) (m10 : Nat), I8 out_11 x_12 h13 m10 →
 (sB (decide (x_12 < (x7.n : Int)))
 ((NB x7.a fun b14 o15 => ((0 ≤ (x_12 : Int) ∧ (x_12 : Int) < (x7.n : Nat)) ∧
 (∃ (x16 : ByteArray) (x17 x18 x19 : Int), atC h13 ⟨b14, o15 + Int.toNat x_12 * 4, none⟩ [.string x16, .int .i64 x17, .int .i64 x18, .int .i64 x19] ∧
 (∀ h20 : Heap, h20 = h13.push (.cells ⟨[.string ⟨#[]⟩, .int .i64 0, .int .i64 0, .int .i64 0]⟩ 248) →
 (okAt h20 ⟨h13.size, 0, none⟩ 4 ∧ ∀ h21 : Heap, h21 = hputs h20 ⟨h13.size, 0, none⟩ 0 [.string x16, .int .i64 x17, .int .i64 x18, .int .i64 x19] →
 (∃ x22 : Int, hc h21 ⟨h.size, 2, none⟩ = some (.int .i64 x22) ∧
 (∃ x23 : Int, hc h21 ⟨h13.size, 1 + 2, none⟩ = some (.int .i64 x23) ∧
 (∃ x24 : Int, hc h21 ⟨h.size, 2, none⟩ = some (.int .i64 x24) ∧
 (∃ x25 : Int, hc h21 ⟨h13.size, 1 + 1, none⟩ = some (.int .i64 x25) ∧
 (∀ h26 : Heap, h26 = h21.push (.cells ⟨[.int .i64 (IntKind.wrap .i64 (x22 + x_12)), .int .i64 (-1), .int .i64 x23, .int .i64 (-1), .int .i64 (IntKind.wrap .i64 (x24 + x_12)), .int .i64 (IntKind.wrap .i64 (0 - x25))]⟩ 277) →
 (App Tryz.prog 148 148 (.slice out_11.a out_11.n out_11.c) (.slice (some ⟨h21.size, 0, none⟩) 2 2) h26 fun s27 h28 =>
 (∃ m29, m29 < m10 ∧ I8 s27 (IntKind.wrap .i64 (x_12 + 1)) h28 m29)))))))))))))
 ((∃ x30 : Sl, hc h13 ⟨h.size, 3, none⟩ = some (.slice x30.a x30.n x30.c) ∧
 (App Tryz.prog 148 148 (.slice out_11.a out_11.n out_11.c) (.slice x30.a x30.n x30.c) h13 fun s31 h32 =>
 (∃ x33 : Sl, hc h32 ⟨h.size, 3 + 1, none⟩ = some (.slice x33.a x33.n x33.c) ∧
 (∃ I34 : Sl → Int → Heap → Nat → Prop, (∃ m35, I34 s31 0 h32 m35) ∧
 (∀ (_ : Env) (out_37 : Sl) (x_38 : Int) (h39 : Heap) (m36 : Nat), I34 out_37 x_38 h39 m36 →
 (sB (decide (x_38 < (x33.n : Int)))
 ((NB x33.a fun b40 o41 => ((0 ≤ (x_38 : Int) ∧ (x_38 : Int) < (x33.n : Nat)) ∧
 (∃ (x42 x43 : Int), atC h39 ⟨b40, o41 + Int.toNat x_38 * 2, none⟩ [.int .i64 x42, .int .i64 x43] ∧
 (∀ h44 : Heap, h44 = h39.push (.cells ⟨[.int .i64 0, .int .i64 0]⟩ 94) →
 (okAt h44 ⟨h39.size, 0, none⟩ 2 ∧ ∀ h45 : Heap, h45 = hputs h44 ⟨h39.size, 0, none⟩ 0 [.int .i64 x42, .int .i64 x43] →
 ((0 ≤ (0 : Int) ∧ (0 : Int) < (2 : Nat)) ∧
 (∃ x46 : Int, hc h45 ⟨h39.size, 0 + Int.toNat 0 * 1, none⟩ = some (.int .i64 x46) ∧
 ((0 ≤ (1 : Int) ∧ (1 : Int) < (2 : Nat)) ∧
 (∃ x47 : Int, hc h45 ⟨h39.size, 0 + Int.toNat 1 * 1, none⟩ = some (.int .i64 x47) ∧
 ((0 ≤ (1 : Int) ∧ (1 : Int) < (2 : Nat)) ∧
 (∃ x48 : Int, hc h45 ⟨h39.size, 0 + Int.toNat 1 * 1, none⟩ = some (.int .i64 x48) ∧
 ((0 ≤ (0 : Int) ∧ (0 : Int) < (2 : Nat)) ∧
 (∃ x49 : Int, hc h45 ⟨h39.size, 0 + Int.toNat 0 * 1, none⟩ = some (.int .i64 x49) ∧
 (∀ h50 : Heap, h50 = h45.push (.cells ⟨[.int .i64 x46, .int .i64 x47, .int .i64 0, .int .i64 x48, .int .i64 x49, .int .i64 0]⟩ 277) →
 (App Tryz.prog 148 148 (.slice out_37.a out_37.n out_37.c) (.slice (some ⟨h45.size, 0, none⟩) 2 2) h50 fun s51 h52 =>
 (∃ m53, m53 < m36 ∧ I34 s51 (IntKind.wrap .i64 (x_38 + 1)) h52 m53)))))))))))))))))
 (R (.slice out_37.a out_37.n out_37.c) h39)))))))))))))
theorem vc207 (p0_1 : ByteArray) (p0_2 : Sl) (p0_3 : Int) (p0_4 p0_5 : Sl) (h : Heap) (R : Value → Heap → Prop) (H : W207 p0_1 p0_2 p0_3 p0_4 p0_5 h R) : Fn Tryz.prog 207 #[.agg ⟨[.string p0_1, .slice p0_2.a p0_2.n p0_2.c, .int .i64 p0_3, .slice p0_4.a p0_4.n p0_4.c, .slice p0_5.a p0_5.n p0_5.c]⟩] h R := fnI (A := (.s .z (.s .z (.s (.s .z (.b (.l [(3, .one (.slice)), (11, .one (.int .i64))] .z))) (.s .z (.s (.s .z (.b (.l [(3, .one (.slice)), (46, .one (.int .i64))] .z))) .z)))))) (by kernel_rfl) H

def W169 (p0 : Sl) (p1 : Int) (h : Heap) (R : Value → Heap → Prop) : Prop :=
 (sB (decide (p1 < 0))
 (R (.tuple ⟨[.slice none 0 0, .int .i64 1]⟩) h)
 ((sB (decide (p1 ≥ (p0.n : Int)))
 (R (.tuple ⟨[.slice none 0 0, .int .i64 1]⟩) h)
 ((Fn Tryz.prog 206 #[.slice p0.a p0.n p0.c] h
 (fun v1 h3 => ∃ x2 : Bool, v1 = .bool x2 ∧
 (sB (!x2)
 (R (.tuple ⟨[.slice none 0 0, .int .i64 1]⟩) h3)
 ((NB p0.a fun b4 o5 => ((0 ≤ (p1 : Int) ∧ (p1 : Int) < (p0.n : Nat)) ∧
 (∃ (x6 : ByteArray) (x7 : Sl) (x8 : Int) (x9 x10 : Sl), atC h3 ⟨b4, o5 + Int.toNat p1 * 5, none⟩ [.string x6, .slice x7.a x7.n x7.c, .int .i64 x8, .slice x9.a x9.n x9.c, .slice x10.a x10.n x10.c] ∧
 (Fn Tryz.prog 207 #[.agg ⟨[.string x6, .slice x7.a x7.n x7.c, .int .i64 x8, .slice x9.a x9.n x9.c, .slice x10.a x10.n x10.c]⟩] h3
 (fun v11 h13 => ∃ x12 : Sl, v11 = .slice x12.a x12.n x12.c ∧
 R (.tuple ⟨[.slice x12.a x12.n x12.c, .int .i64 0]⟩) h13)))))))))))))
theorem vc169 (p0 : Sl) (p1 : Int) (h : Heap) (R : Value → Heap → Prop) (H : W169 p0 p1 h R) : Fn Tryz.prog 169 #[.slice p0.a p0.n p0.c, .int .i64 p1] h R := fnI (A := .z) (by kernel_rfl) H

end Go.VC
end

section
/- Contracts: names, words, paths. -/
namespace Go.VC
open Go.Proofs Go.LexS
set_option maxRecDepth 100000

theorem letter221 (b : UInt8) (h : Heap) : Fn Tryz.prog 232 #[.int .u8 b.toNat] h fun v h' => v = .bool (lt b) ∧ h' = h := by
  apply vc232; unfold W232
  unfold lt isLetter
  generalize (b.toNat : Int) = n
  repeat' first
    | refine sBi (fun _ => ?_) (fun _ => ?_)
  all_goals
    refine ⟨?_, rfl⟩
    congr 1
    rw [Bool.eq_iff_iff]
    simp only [Bool.or_eq_true, Bool.and_eq_true, decide_eq_true_eq, Bool.false_eq_true, true_iff, false_iff]
    omega
theorem digit253 (b : UInt8) (h : Heap) : Fn Tryz.prog 258 #[.int .u8 b.toNat] h fun v h' => v = .bool (dg b) ∧ h' = h := by
  apply vc258; unfold W258
  unfold dg isDigit
  refine sBi (fun c => ⟨?_, rfl⟩) (fun c => ⟨?_, rfl⟩)
  · rw [decide_eq_true (p := (48 : Int) ≤ b.toNat) c, Bool.true_and]
  · rw [decide_eq_false (p := (48 : Int) ≤ b.toNat) c, Bool.false_and]
theorem inner222 (b : UInt8) (h : Heap) : Fn Tryz.prog 233 #[.int .u8 b.toNat] h fun v h' => v = .bool (inn b) ∧ h' = h := by
  apply vc233; unfold W233
  refine (letter221 b h).mono ?_
  rintro _ h3 ⟨rfl, rfl⟩
  refine ⟨_, rfl, sB_intro (fun c => ?_) (fun c => ?_)⟩
  · exact ⟨by rw [show inn b = (lt b || dg b || ((b.toNat : Int) == 95)) from rfl, c]; rfl, rfl⟩
  · refine (digit253 b _).mono ?_
    rintro _ h6 ⟨rfl, rfl⟩
    refine ⟨_, rfl, sB_intro (fun d => ?_) (fun d => ?_)⟩
    · exact ⟨by rw [show inn b = (lt b || dg b || ((b.toNat : Int) == 95)) from rfl, c, d]; rfl, rfl⟩
    · exact ⟨by rw [show inn b = (lt b || dg b || ((b.toNat : Int) == 95)) from rfl, c, d]; rfl, rfl⟩
theorem isname189 (s : ByteArray) (h : Heap) : Fn Tryz.prog 204 #[.string s] h fun v h' => v = .bool (isName s.data.toList) ∧ h' = h := by
  apply vc204; unfold W204
  have hsz := size_len s
  rw [strEq]
  generalize hL : s.data.toList = L at *
  refine sB_intro (fun he => ?_) (fun he => ?_)
  · have : L = [] := of_decide_eq_true he
    subst this
    exact ⟨rfl, rfl⟩
  · have hne : L ≠ [] := of_decide_eq_false he
    have hpos : 0 < L.length := List.length_pos_iff.2 hne
    obtain ⟨b, hb, hby⟩ := byte_get (s := s) (i := 0) (by omega)
    rw [hL] at hb
    have hcons : L = b :: L.drop 1 := by have := drop_cons hb; rwa [List.drop_zero] at this
    have hdef : isName L = (decide (L.length ≤ 16) && lt b && L.all inn) := by
      conv => lhs; rw [hcons]
      rw [isName, ← hcons]
    rw [hdef]
    refine sB_intro (fun hgt => ?_) (fun hgt => ?_)
    · refine ⟨?_, rfl⟩
      rw [decide_eq_false (by have := of_decide_eq_true hgt; omega)]; rfl
    · have h16 : L.length ≤ 16 := by have := of_decide_eq_false hgt; omega
      rw [decide_eq_true h16]
      refine ⟨⟨by omega, by omega⟩, ?_⟩
      rw [show Int.toNat 0 = 0 from rfl, hby]
      refine (letter221 _ _).mono ?_
      rintro v h3 ⟨rfl, rfl⟩
      refine ⟨_, rfl, sB_intro (fun hlet => ?_) (fun hlet => ?_)⟩
      · refine ⟨?_, rfl⟩
        rw [show lt b = false from by rw [Bool.not_eq_true'] at hlet; exact hlet]; rfl
      · rw [show lt b = true from by rw [Bool.not_eq_false'] at hlet; exact hlet]
        refine up_loop (n := s.size) (fun i h' => h' = h3 ∧ ∀ (j : Nat) (b : UInt8), j < i → L[j]? = some b → (!inn b) = false) ⟨rfl, fun j b hj => by omega⟩ ?_
        rintro - i h8 hi ⟨rfl, hd⟩
        refine sB_intro (fun hlt => ?_) (fun hge => ?_)
        · have hlt' := lt_t hlt
          obtain ⟨y, hy, hby2⟩ := byte_get hlt'
          rw [hL] at hy
          refine ⟨⟨by omega, by omega⟩, ?_⟩
          rw [show Int.toNat (i : Int) = i from rfl, hby2]
          refine (inner222 _ _).mono ?_
          rintro v h11 ⟨rfl, rfl⟩
          refine ⟨_, rfl, sB_intro (fun hp => ?_) (fun hp => ?_)⟩
          · refine ⟨?_, rfl⟩
            have : L.all inn = false := by
              rw [← Bool.not_eq_true, all_split]
              intro hh
              have := hh y i hy
              rw [Bool.not_eq_true'] at hp
              rw [show inn y = false from hp] at this; cases this
            rw [this]; rfl
          · exact Up.next hlt' (by omega) ⟨rfl, scan_next (p := fun b => !inn b) hy hp hd⟩
        · have hge' := lt_f hge
          refine ⟨?_, rfl⟩
          rw [(all_split inn L).2 fun b j hb => by simpa using hd j b (by have := (List.getElem?_eq_some_iff.1 hb).1; omega) hb]; rfl
theorem index190 (L : List Nm) (x : ByteArray) (s : Sl) (h : Heap) (hr : RL h 1 s nmC L) :
    Fn Tryz.prog 205 #[.slice s.a s.n s.c, .string x] h fun v h' => (∃ k : Int, v = .int .i64 k ∧ decide (k ≥ 0) = decide (x.data.toList ∈ L)) ∧ h' = h := by
  apply vc205; unfold W205
  have hn := hr.ln
  have hm := hr.sm
  refine up_loop (n := s.n) (fun i h' => h' = h ∧ ∀ (j : Nat) (y : Nm), j < i → L[j]? = some y → decide (x.data.toList = y) = false) ⟨rfl, fun j y hj => by omega⟩ ?_
  rintro - i h5 hi ⟨rfl, hd⟩
  refine sB_intro (fun l => ?_) (fun l => ?_)
  · replace l := lt_t l
    refine hr.rw.nbI (by omega) (by omega) fun b o d g t => ?_
    replace g : L[i]? = some d := g
    refine ⟨_, t.hd, ?_⟩
    rw [strEq, bs_list]
    refine sB_intro (fun he => ?_) (fun hne => ?_)
    · have := of_decide_eq_true he
      exact ⟨⟨_, rfl, by rw [decide_eq_true (show (i : Int) ≥ 0 by omega), decide_eq_true (by rw [this]; exact List.mem_of_getElem? g)]⟩, rfl⟩
    · exact Up.next l (by omega) ⟨rfl, scan_next (p := fun y => decide (x.data.toList = y)) g hne hd⟩
  · replace l := lt_f l
    refine ⟨⟨_, rfl, ?_⟩, rfl⟩
    rw [decide_eq_false (show ¬ ((-1 : Int) ≥ 0) by omega), decide_eq_false]
    intro hm
    obtain ⟨j, hj⟩ := List.mem_iff_getElem?.1 hm
    exact of_decide_eq_false (hd j _ (by have := (List.getElem?_eq_some_iff.1 hj).1; omega) hj) rfl
theorem has133 (L : List Nm) (x : ByteArray) (s : Sl) (h : Heap) (hr : RL h 1 s nmC L) :
    Fn Tryz.prog 168 #[.slice s.a s.n s.c, .string x] h fun v h' => v = .bool (decide (x.data.toList ∈ L)) ∧ h' = h := by
  apply vc168; unfold W168
  refine (index190 L x s h hr).mono ?_
  rintro v h3 ⟨⟨k, rfl, hk⟩, rfl⟩
  exact ⟨_, rfl, by rw [hk], rfl⟩
theorem own_rl {α : Type} {h : Heap} {b : Nat} {e : TypeId} {k : Nat} {cs : α → List Value} {L : List α} {xs : List Value} (hx : xs = (L.map cs).flatten) (ho : Own h b xs e) (hk : ∀ x, (cs x).length = k) (hl : L.length ≤ 1048576) {n c : Nat} (hn : n = L.length) (hc : n ≤ c) : RL h k ⟨some ⟨b, 0, none⟩, n, c⟩ cs L := by
  subst hx
  refine ⟨⟨by rw [List.length_map]; exact hn, fun _ => ⟨b, 0, rfl, fun i row hi j v hj => ?_⟩⟩, hc, fun e => by (cases e), hl⟩
  have hr : ∀ r ∈ L.map cs, r.length = k := fun r hr => by obtain ⟨x, _, rfl⟩ := List.mem_map.1 hr; exact hk x
  have hjl := (List.getElem?_eq_some_iff.1 hj).1
  rw [hr row (List.mem_of_getElem? hi)] at hjl
  rw [addk_at, Nat.zero_add, ho.hc, getElem?_flatten _ i j row hr hi hjl]; exact hj
theorem isword132 (s : ByteArray) (h : Heap) : Fn Tryz.prog 167 #[.string s] h fun v h' => v = .bool (isWord s.data.toList) ∧ Ext h h' := by
  apply vc167; unfold W167
  refine newput (vs := (keywords.map nmC).flatten) rfl fun h2 E o => ?_
  refine (isname189 s h2).mono ?_
  rintro _ h5 ⟨rfl, rfl⟩
  refine ⟨_, rfl, sB_intro (fun c => ?_) (fun c => ?_)⟩
  · refine ⟨by decide, ?_⟩
    refine (has133 keywords s ⟨subA (some ⟨h.size, 0, none⟩) (Int.toNat 0) 28 1, Int.toNat (28 : Nat) - Int.toNat 0, 28 - Int.toNat 0⟩ h5 (own_rl rfl o (fun _ => rfl) (by decide) rfl (by decide))).mono ?_
    rintro _ h8 ⟨rfl, rfl⟩
    exact ⟨_, rfl, by rw [show isWord s.data.toList = (isName s.data.toList && !decide (s.data.toList ∈ keywords)) from rfl, c]; rfl, E⟩
  · exact ⟨by rw [show isWord s.data.toList = (isName s.data.toList && !decide (s.data.toList ∈ keywords)) from rfl, c]; rfl, E⟩
end Go.VC
end
