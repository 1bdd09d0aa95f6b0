/- Texts of this claim, joined: PjVcD, PjVcA, PjA, VcMono. -/
import Derived.Test.YtfdhgcladnbdeaaGreatDoorM02
import Derived.Test.YtfdhgcladnbdeaaGreatDoorProg
import Derived.KernelRfl
import Derived.Test.YtfdhgcladnbdeaaGreatDoorM03
import Derived.Lib.Split
set_option linter.unusedVariables false
set_option linter.unusedSimpArgs false

section
namespace Go.VC
open Go.Proofs
set_option maxRecDepth 100000
set_option linter.unusedVariables false

/- farandole/view.look
   loop rrrlrb: x_39:Int
   loop rrrlrb: x_109:Int -/
def W52 (p0_1 : ByteArray) (p0_2 : Sl) (p0_3 : Sl) (p0_4 : Int) (p0_5 : Int) (p0_6 : Int) (p0_7 : Sl) (p0_8 : Sl) (p1 : Int) (h : Heap) (R : Value → Heap → Prop) : Prop :=
  (∀ h9 : Heap, h9 = h.push (.cells ⟨[.string p0_1, .slice p0_2.a p0_2.n p0_2.c, .slice p0_3.a p0_3.n p0_3.c, .int .i64 p0_4, .int .i64 p0_5, .int .i64 p0_6, .slice p0_7.a p0_7.n p0_7.c, .slice p0_8.a p0_8.n p0_8.c]⟩ 27) → 
  (∃ x10 : ByteArray, ∃ x11 : Sl, ∃ x12 : Sl, ∃ x13 : Int, ∃ x14 : Int, ∃ x15 : Int, ∃ x16 : Sl, ∃ x17 : Sl, atC h9 ⟨h.size, 0, none⟩ [.string x10, .slice x11.a x11.n x11.c, .slice x12.a x12.n x12.c, .int .i64 x13, .int .i64 x14, .int .i64 x15, .slice x16.a x16.n x16.c, .slice x17.a x17.n x17.c] ∧ 
  (Fn Tryz.prog 38 #[.agg ⟨[.string x10, .slice x11.a x11.n x11.c, .slice x12.a x12.n x12.c, .int .i64 x13, .int .i64 x14, .int .i64 x15, .slice x16.a x16.n x16.c, .slice x17.a x17.n x17.c]⟩] h9 
  (fun v18 h20 => ∃ x19 : Bool, v18 = .bool x19 ∧ 
  (sB (!x19) 
   (R (.tuple ⟨[.pointer none, .int .i64 1]⟩) h20) 
   ((sB (decide (p1 < 0)) 
    (R (.tuple ⟨[.pointer none, .int .i64 1]⟩) h20) 
    ((∃ x21 : Sl, hc h20 ⟨h.size, 1, none⟩ = some (.slice x21.a x21.n x21.c) ∧ 
    (sB (decide (p1 ≥ (x21.n : Int))) 
     (R (.tuple ⟨[.pointer none, .int .i64 1]⟩) h20) 
     ((∃ x22 : ByteArray, ∃ x23 : Sl, ∃ x24 : Sl, ∃ x25 : Int, ∃ x26 : Int, ∃ x27 : Int, ∃ x28 : Sl, ∃ x29 : Sl, atC h20 ⟨h.size, 0, none⟩ [.string x22, .slice x23.a x23.n x23.c, .slice x24.a x24.n x24.c, .int .i64 x25, .int .i64 x26, .int .i64 x27, .slice x28.a x28.n x28.c, .slice x29.a x29.n x29.c] ∧ 
     (∃ x30 : Int, hc h20 ⟨h.size, 3, none⟩ = some (.int .i64 x30) ∧ 
     (∃ x31 : Int, hc h20 ⟨h.size, 3, none⟩ = some (.int .i64 x31) ∧ 
     ((((0 : Int) ≤ x30 ∧ (x30 : Int) ≤ x30 ∧ ((24 : Nat) : Int) * x30 ≤ 140737488355328) ∧ ∀ h32 : Heap, h32 = h20.push (.cells ⟨madeL Tryz.prog 42 (Int.toNat x30)⟩ 42) → 
     (Sm [⟨h.size, 3, none⟩, ⟨h.size, 0, none⟩] h20 h32 ∧ 
     (((0 : Int) ≤ x31 ∧ (x31 : Int) ≤ x31 ∧ ((24 : Nat) : Int) * x31 ≤ 140737488355328) ∧ ∀ h33 : Heap, h33 = h32.push (.cells ⟨madeL Tryz.prog 173 (Int.toNat x31)⟩ 173) → 
     (Sm [⟨h.size, 3, none⟩, ⟨h.size, 0, none⟩] h32 h33 ∧ 
     (∀ h34 : Heap, h34 = h33.push (.cells ⟨[.string x22, .slice x23.a x23.n x23.c, .slice x24.a x24.n x24.c, .int .i64 x25, .int .i64 x26, .int .i64 x27, .slice x28.a x28.n x28.c, .slice x29.a x29.n x29.c, .int .i64 p1, .slice (some ⟨h20.size, 0, none⟩) (Int.toNat x30) (Int.toNat x30), .slice (some ⟨h32.size, 0, none⟩) (Int.toNat x31) (Int.toNat x31)]⟩ 172) → 
     (∃ x35 : Sl, hc h34 ⟨h.size, 6, none⟩ = some (.slice x35.a x35.n x35.c) ∧ 
     (∃ I36 : Int → Heap → Nat → Prop, (∃ m37, I36 0 h34 m37) ∧ 
     (∀ (_ : Env) (x_39 : Int) (h40 : Heap) (m38 : Nat), I36 x_39 h40 m38 → 
     (sB (decide (x_39 < (x35.n : Int))) 
       ((NB x35.a fun b41 o42 => ((0 ≤ (x_39 : Int) ∧ (x_39 : Int) < (x35.n : Nat)) ∧ 
       (∃ x43 : Int, ∃ x44 : Int, ∃ x45 : Int, ∃ x46 : Int, ∃ x47 : Int, ∃ x48 : Bool, atC h40 ⟨b41, o42 + Int.toNat x_39 * 6, none⟩ [.int .i64 x43, .int .i64 x44, .int .i64 x45, .int .i64 x46, .int .i64 x47, .bool x48] ∧ 
       (∀ h49 : Heap, h49 = h40.push (.cells ⟨[.int .i64 0, .int .i64 0, .int .i64 0, .int .i64 0, .int .i64 0, .bool false]⟩ 55) → 
       (okAt h49 ⟨h40.size, 0, none⟩ 6 ∧ ∀ h50 : Heap, h50 = hputs h49 ⟨h40.size, 0, none⟩ 0 [.int .i64 x43, .int .i64 x44, .int .i64 x45, .int .i64 x46, .int .i64 x47, .bool x48] → 
       (∃ x51 : Int, hc h50 ⟨h40.size, 1, none⟩ = some (.int .i64 x51) ∧ 
       (sB (p1 == x51) 
        ((∃ x52 : Sl, hc h50 ⟨h33.size, 10, none⟩ = some (.slice x52.a x52.n x52.c) ∧ 
        (∃ x53 : Int, hc h50 ⟨h40.size, 0, none⟩ = some (.int .i64 x53) ∧ 
        (∃ x54 : Sl, hc h50 ⟨h33.size, 10, none⟩ = some (.slice x54.a x54.n x54.c) ∧ 
        (∃ x55 : Int, hc h50 ⟨h40.size, 0, none⟩ = some (.int .i64 x55) ∧ 
        (NB x54.a fun b56 o57 => ((0 ≤ (x55 : Int) ∧ (x55 : Int) < (x54.n : Nat)) ∧ 
        (∃ x58 : Sl, hc h50 ⟨b56, o57 + Int.toNat x55 * 1, none⟩ = some (.slice x58.a x58.n x58.c) ∧ 
        (∃ x59 : Int, hc h50 ⟨h40.size, 1 + 1, none⟩ = some (.int .i64 x59) ∧ 
        (∃ x60 : Int, hc h50 ⟨h40.size, 1 + 2, none⟩ = some (.int .i64 x60) ∧ 
        (∃ x61 : Int, hc h50 ⟨h40.size, 4, none⟩ = some (.int .i64 x61) ∧ 
        (∀ h62 : Heap, h62 = h50.push (.cells ⟨[.bool true, .int .i64 x59, .int .i64 x60, .int .i64 x61]⟩ 175) → 
        (Sm [⟨b56, o57 + Int.toNat x55 * 1, none⟩, ⟨h40.size, 0, none⟩, ⟨h33.size, 10, none⟩, ⟨h40.size, 0, none⟩, ⟨h33.size, 10, none⟩] h50 h62 ∧ 
        (App Tryz.prog 173 173 (.slice x58.a x58.n x58.c) (.slice (some ⟨h50.size, 0, none⟩) 1 1) h62 fun s63 h64 => 
        (Sm [⟨h40.size, 0, none⟩, ⟨h33.size, 10, none⟩] h62 h64 ∧ 
        (NB x52.a fun b65 o66 => ((0 ≤ (x53 : Int) ∧ (x53 : Int) < (x52.n : Nat)) ∧ 
        (okAt h64 ⟨b65, o66 + Int.toNat x53 * 1, none⟩ 1 ∧ ∀ h67 : Heap, h67 = hputs h64 ⟨b65, o66 + Int.toNat x53 * 1, none⟩ 0 [.slice s63.a s63.n s63.c] → 
        (∃ m68, m68 < m38 ∧ I36 (IntKind.wrap .i64 (x_39 + 1)) h67 m68))))))))))))))))))) 
        ((∃ x69 : Int, hc h50 ⟨h40.size, 1 + 1, none⟩ = some (.int .i64 x69) ∧ 
        (sB (p1 == x69) 
         ((∃ x70 : Sl, hc h50 ⟨h33.size, 10, none⟩ = some (.slice x70.a x70.n x70.c) ∧ 
         (∃ x71 : Int, hc h50 ⟨h40.size, 0, none⟩ = some (.int .i64 x71) ∧ 
         (∃ x72 : Sl, hc h50 ⟨h33.size, 10, none⟩ = some (.slice x72.a x72.n x72.c) ∧ 
         (∃ x73 : Int, hc h50 ⟨h40.size, 0, none⟩ = some (.int .i64 x73) ∧ 
         (NB x72.a fun b74 o75 => ((0 ≤ (x73 : Int) ∧ (x73 : Int) < (x72.n : Nat)) ∧ 
         (∃ x76 : Sl, hc h50 ⟨b74, o75 + Int.toNat x73 * 1, none⟩ = some (.slice x76.a x76.n x76.c) ∧ 
         (∃ x77 : Int, hc h50 ⟨h40.size, 1, none⟩ = some (.int .i64 x77) ∧ 
         (∃ x78 : Int, hc h50 ⟨h40.size, 1 + 2, none⟩ = some (.int .i64 x78) ∧ 
         (∃ x79 : Int, hc h50 ⟨h40.size, 4, none⟩ = some (.int .i64 x79) ∧ 
         (∀ h80 : Heap, h80 = h50.push (.cells ⟨[.bool false, .int .i64 x77, .int .i64 x78, .int .i64 x79]⟩ 175) → 
         (Sm [⟨b74, o75 + Int.toNat x73 * 1, none⟩, ⟨h40.size, 0, none⟩, ⟨h33.size, 10, none⟩, ⟨h40.size, 0, none⟩, ⟨h33.size, 10, none⟩] h50 h80 ∧ 
         (App Tryz.prog 173 173 (.slice x76.a x76.n x76.c) (.slice (some ⟨h50.size, 0, none⟩) 1 1) h80 fun s81 h82 => 
         (Sm [⟨h40.size, 0, none⟩, ⟨h33.size, 10, none⟩] h80 h82 ∧ 
         (NB x70.a fun b83 o84 => ((0 ≤ (x71 : Int) ∧ (x71 : Int) < (x70.n : Nat)) ∧ 
         (okAt h82 ⟨b83, o84 + Int.toNat x71 * 1, none⟩ 1 ∧ ∀ h85 : Heap, h85 = hputs h82 ⟨b83, o84 + Int.toNat x71 * 1, none⟩ 0 [.slice s81.a s81.n s81.c] → 
         (∃ m86, m86 < m38 ∧ I36 (IntKind.wrap .i64 (x_39 + 1)) h85 m86))))))))))))))))))) 
         ((∃ x87 : Sl, hc h50 ⟨h33.size, 9, none⟩ = some (.slice x87.a x87.n x87.c) ∧ 
         (∃ x88 : Int, hc h50 ⟨h40.size, 0, none⟩ = some (.int .i64 x88) ∧ 
         (∃ x89 : Sl, hc h50 ⟨h33.size, 9, none⟩ = some (.slice x89.a x89.n x89.c) ∧ 
         (∃ x90 : Int, hc h50 ⟨h40.size, 0, none⟩ = some (.int .i64 x90) ∧ 
         (NB x89.a fun b91 o92 => ((0 ≤ (x90 : Int) ∧ (x90 : Int) < (x89.n : Nat)) ∧ 
         (∃ x93 : Sl, hc h50 ⟨b91, o92 + Int.toNat x90 * 1, none⟩ = some (.slice x93.a x93.n x93.c) ∧ 
         (∃ x94 : Int, hc h50 ⟨h40.size, 4, none⟩ = some (.int .i64 x94) ∧ 
         (∀ h95 : Heap, h95 = h50.push (.cells ⟨[.int .i64 x94]⟩ 3) → 
         (Sm [⟨b91, o92 + Int.toNat x90 * 1, none⟩, ⟨h40.size, 0, none⟩, ⟨h33.size, 9, none⟩, ⟨h40.size, 0, none⟩, ⟨h33.size, 9, none⟩] h50 h95 ∧ 
         (App Tryz.prog 42 42 (.slice x93.a x93.n x93.c) (.slice (some ⟨h50.size, 0, none⟩) 1 1) h95 fun s96 h97 => 
         (Sm [⟨h40.size, 0, none⟩, ⟨h33.size, 9, none⟩] h95 h97 ∧ 
         (NB x87.a fun b98 o99 => ((0 ≤ (x88 : Int) ∧ (x88 : Int) < (x87.n : Nat)) ∧ 
         (okAt h97 ⟨b98, o99 + Int.toNat x88 * 1, none⟩ 1 ∧ ∀ h100 : Heap, h100 = hputs h97 ⟨b98, o99 + Int.toNat x88 * 1, none⟩ 0 [.slice s96.a s96.n s96.c] → 
         (∃ m101, m101 < m38 ∧ I36 (IntKind.wrap .i64 (x_39 + 1)) h100 m101)))))))))))))))))))))))))))) 
       (R (.tuple ⟨[.pointer (some ⟨h33.size, 0, none⟩), .int .i64 0]⟩) h40))))))))))) ∧ ((((0 : Int) ≤ x31 ∧ (x31 : Int) ≤ x31 ∧ ((24 : Nat) : Int) * x31 ≤ 140737488355328) ∧ ∀ h102 : Heap, h102 = h20.push (.cells ⟨madeL Tryz.prog 173 (Int.toNat x31)⟩ 173) → 
     (Sm [⟨h.size, 3, none⟩, ⟨h.size, 0, none⟩] h20 h102 ∧ 
     (((0 : Int) ≤ x30 ∧ (x30 : Int) ≤ x30 ∧ ((24 : Nat) : Int) * x30 ≤ 140737488355328) ∧ ∀ h103 : Heap, h103 = h102.push (.cells ⟨madeL Tryz.prog 42 (Int.toNat x30)⟩ 42) → 
     (Sm [⟨h.size, 3, none⟩, ⟨h.size, 0, none⟩] h102 h103 ∧ 
     (∀ h104 : Heap, h104 = h103.push (.cells ⟨[.string x22, .slice x23.a x23.n x23.c, .slice x24.a x24.n x24.c, .int .i64 x25, .int .i64 x26, .int .i64 x27, .slice x28.a x28.n x28.c, .slice x29.a x29.n x29.c, .int .i64 p1, .slice (some ⟨h102.size, 0, none⟩) (Int.toNat x30) (Int.toNat x30), .slice (some ⟨h20.size, 0, none⟩) (Int.toNat x31) (Int.toNat x31)]⟩ 172) → 
     (∃ x105 : Sl, hc h104 ⟨h.size, 6, none⟩ = some (.slice x105.a x105.n x105.c) ∧ 
     (∃ I106 : Int → Heap → Nat → Prop, (∃ m107, I106 0 h104 m107) ∧ 
     (∀ (_ : Env) (x_109 : Int) (h110 : Heap) (m108 : Nat), I106 x_109 h110 m108 → 
     (sB (decide (x_109 < (x105.n : Int))) 
       ((NB x105.a fun b111 o112 => ((0 ≤ (x_109 : Int) ∧ (x_109 : Int) < (x105.n : Nat)) ∧ 
       (∃ x113 : Int, ∃ x114 : Int, ∃ x115 : Int, ∃ x116 : Int, ∃ x117 : Int, ∃ x118 : Bool, atC h110 ⟨b111, o112 + Int.toNat x_109 * 6, none⟩ [.int .i64 x113, .int .i64 x114, .int .i64 x115, .int .i64 x116, .int .i64 x117, .bool x118] ∧ 
       (∀ h119 : Heap, h119 = h110.push (.cells ⟨[.int .i64 0, .int .i64 0, .int .i64 0, .int .i64 0, .int .i64 0, .bool false]⟩ 55) → 
       (okAt h119 ⟨h110.size, 0, none⟩ 6 ∧ ∀ h120 : Heap, h120 = hputs h119 ⟨h110.size, 0, none⟩ 0 [.int .i64 x113, .int .i64 x114, .int .i64 x115, .int .i64 x116, .int .i64 x117, .bool x118] → 
       (∃ x121 : Int, hc h120 ⟨h110.size, 1, none⟩ = some (.int .i64 x121) ∧ 
       (sB (p1 == x121) 
        ((∃ x122 : Sl, hc h120 ⟨h103.size, 10, none⟩ = some (.slice x122.a x122.n x122.c) ∧ 
        (∃ x123 : Int, hc h120 ⟨h110.size, 0, none⟩ = some (.int .i64 x123) ∧ 
        (∃ x124 : Sl, hc h120 ⟨h103.size, 10, none⟩ = some (.slice x124.a x124.n x124.c) ∧ 
        (∃ x125 : Int, hc h120 ⟨h110.size, 0, none⟩ = some (.int .i64 x125) ∧ 
        (NB x124.a fun b126 o127 => ((0 ≤ (x125 : Int) ∧ (x125 : Int) < (x124.n : Nat)) ∧ 
        (∃ x128 : Sl, hc h120 ⟨b126, o127 + Int.toNat x125 * 1, none⟩ = some (.slice x128.a x128.n x128.c) ∧ 
        (∃ x129 : Int, hc h120 ⟨h110.size, 1 + 1, none⟩ = some (.int .i64 x129) ∧ 
        (∃ x130 : Int, hc h120 ⟨h110.size, 1 + 2, none⟩ = some (.int .i64 x130) ∧ 
        (∃ x131 : Int, hc h120 ⟨h110.size, 4, none⟩ = some (.int .i64 x131) ∧ 
        (∀ h132 : Heap, h132 = h120.push (.cells ⟨[.bool true, .int .i64 x129, .int .i64 x130, .int .i64 x131]⟩ 175) → 
        (Sm [⟨b126, o127 + Int.toNat x125 * 1, none⟩, ⟨h110.size, 0, none⟩, ⟨h103.size, 10, none⟩, ⟨h110.size, 0, none⟩, ⟨h103.size, 10, none⟩] h120 h132 ∧ 
        (App Tryz.prog 173 173 (.slice x128.a x128.n x128.c) (.slice (some ⟨h120.size, 0, none⟩) 1 1) h132 fun s133 h134 => 
        (Sm [⟨h110.size, 0, none⟩, ⟨h103.size, 10, none⟩] h132 h134 ∧ 
        (NB x122.a fun b135 o136 => ((0 ≤ (x123 : Int) ∧ (x123 : Int) < (x122.n : Nat)) ∧ 
        (okAt h134 ⟨b135, o136 + Int.toNat x123 * 1, none⟩ 1 ∧ ∀ h137 : Heap, h137 = hputs h134 ⟨b135, o136 + Int.toNat x123 * 1, none⟩ 0 [.slice s133.a s133.n s133.c] → 
        (∃ m138, m138 < m108 ∧ I106 (IntKind.wrap .i64 (x_109 + 1)) h137 m138))))))))))))))))))) 
        ((∃ x139 : Int, hc h120 ⟨h110.size, 1 + 1, none⟩ = some (.int .i64 x139) ∧ 
        (sB (p1 == x139) 
         ((∃ x140 : Sl, hc h120 ⟨h103.size, 10, none⟩ = some (.slice x140.a x140.n x140.c) ∧ 
         (∃ x141 : Int, hc h120 ⟨h110.size, 0, none⟩ = some (.int .i64 x141) ∧ 
         (∃ x142 : Sl, hc h120 ⟨h103.size, 10, none⟩ = some (.slice x142.a x142.n x142.c) ∧ 
         (∃ x143 : Int, hc h120 ⟨h110.size, 0, none⟩ = some (.int .i64 x143) ∧ 
         (NB x142.a fun b144 o145 => ((0 ≤ (x143 : Int) ∧ (x143 : Int) < (x142.n : Nat)) ∧ 
         (∃ x146 : Sl, hc h120 ⟨b144, o145 + Int.toNat x143 * 1, none⟩ = some (.slice x146.a x146.n x146.c) ∧ 
         (∃ x147 : Int, hc h120 ⟨h110.size, 1, none⟩ = some (.int .i64 x147) ∧ 
         (∃ x148 : Int, hc h120 ⟨h110.size, 1 + 2, none⟩ = some (.int .i64 x148) ∧ 
         (∃ x149 : Int, hc h120 ⟨h110.size, 4, none⟩ = some (.int .i64 x149) ∧ 
         (∀ h150 : Heap, h150 = h120.push (.cells ⟨[.bool false, .int .i64 x147, .int .i64 x148, .int .i64 x149]⟩ 175) → 
         (Sm [⟨b144, o145 + Int.toNat x143 * 1, none⟩, ⟨h110.size, 0, none⟩, ⟨h103.size, 10, none⟩, ⟨h110.size, 0, none⟩, ⟨h103.size, 10, none⟩] h120 h150 ∧ 
         (App Tryz.prog 173 173 (.slice x146.a x146.n x146.c) (.slice (some ⟨h120.size, 0, none⟩) 1 1) h150 fun s151 h152 => 
         (Sm [⟨h110.size, 0, none⟩, ⟨h103.size, 10, none⟩] h150 h152 ∧ 
         (NB x140.a fun b153 o154 => ((0 ≤ (x141 : Int) ∧ (x141 : Int) < (x140.n : Nat)) ∧ 
         (okAt h152 ⟨b153, o154 + Int.toNat x141 * 1, none⟩ 1 ∧ ∀ h155 : Heap, h155 = hputs h152 ⟨b153, o154 + Int.toNat x141 * 1, none⟩ 0 [.slice s151.a s151.n s151.c] → 
         (∃ m156, m156 < m108 ∧ I106 (IntKind.wrap .i64 (x_109 + 1)) h155 m156))))))))))))))))))) 
         ((∃ x157 : Sl, hc h120 ⟨h103.size, 9, none⟩ = some (.slice x157.a x157.n x157.c) ∧ 
         (∃ x158 : Int, hc h120 ⟨h110.size, 0, none⟩ = some (.int .i64 x158) ∧ 
         (∃ x159 : Sl, hc h120 ⟨h103.size, 9, none⟩ = some (.slice x159.a x159.n x159.c) ∧ 
         (∃ x160 : Int, hc h120 ⟨h110.size, 0, none⟩ = some (.int .i64 x160) ∧ 
         (NB x159.a fun b161 o162 => ((0 ≤ (x160 : Int) ∧ (x160 : Int) < (x159.n : Nat)) ∧ 
         (∃ x163 : Sl, hc h120 ⟨b161, o162 + Int.toNat x160 * 1, none⟩ = some (.slice x163.a x163.n x163.c) ∧ 
         (∃ x164 : Int, hc h120 ⟨h110.size, 4, none⟩ = some (.int .i64 x164) ∧ 
         (∀ h165 : Heap, h165 = h120.push (.cells ⟨[.int .i64 x164]⟩ 3) → 
         (Sm [⟨b161, o162 + Int.toNat x160 * 1, none⟩, ⟨h110.size, 0, none⟩, ⟨h103.size, 9, none⟩, ⟨h110.size, 0, none⟩, ⟨h103.size, 9, none⟩] h120 h165 ∧ 
         (App Tryz.prog 42 42 (.slice x163.a x163.n x163.c) (.slice (some ⟨h120.size, 0, none⟩) 1 1) h165 fun s166 h167 => 
         (Sm [⟨h110.size, 0, none⟩, ⟨h103.size, 9, none⟩] h165 h167 ∧ 
         (NB x157.a fun b168 o169 => ((0 ≤ (x158 : Int) ∧ (x158 : Int) < (x157.n : Nat)) ∧ 
         (okAt h167 ⟨b168, o169 + Int.toNat x158 * 1, none⟩ 1 ∧ ∀ h170 : Heap, h170 = hputs h167 ⟨b168, o169 + Int.toNat x158 * 1, none⟩ 0 [.slice s166.a s166.n s166.c] → 
         (∃ m171, m171 < m108 ∧ I106 (IntKind.wrap .i64 (x_109 + 1)) h170 m171)))))))))))))))))))))))))))) 
       (R (.tuple ⟨[.pointer (some ⟨h103.size, 0, none⟩), .int .i64 0]⟩) h110)))))))))))))))))))))))))
theorem vc52e (p0_1 : ByteArray) (p0_2 : Sl) (p0_3 : Sl) (p0_4 : Int) (p0_5 : Int) (p0_6 : Int) (p0_7 : Sl) (p0_8 : Sl) (p1 : Int) (h : Heap) (R : Value → Heap → Prop) : W52 p0_1 p0_2 p0_3 p0_4 p0_5 p0_6 p0_7 p0_8 p1 h R = fnW Tryz.prog 52 (.s .z (.s .z (.s .z (.s (.s .z (.b (.l [(36, .one (.int .i64))] .z))) .z)))) #[.agg ⟨[.string p0_1, .slice p0_2.a p0_2.n p0_2.c, .slice p0_3.a p0_3.n p0_3.c, .int .i64 p0_4, .int .i64 p0_5, .int .i64 p0_6, .slice p0_7.a p0_7.n p0_7.c, .slice p0_8.a p0_8.n p0_8.c]⟩, .int .i64 p1] h R := by kernel_rfl
theorem vc52 (p0_1 : ByteArray) (p0_2 : Sl) (p0_3 : Sl) (p0_4 : Int) (p0_5 : Int) (p0_6 : Int) (p0_7 : Sl) (p0_8 : Sl) (p1 : Int) (h : Heap) (R : Value → Heap → Prop) (H : W52 p0_1 p0_2 p0_3 p0_4 p0_5 p0_6 p0_7 p0_8 p1 h R) : Fn Tryz.prog 52 #[.agg ⟨[.string p0_1, .slice p0_2.a p0_2.n p0_2.c, .slice p0_3.a p0_3.n p0_3.c, .int .i64 p0_4, .int .i64 p0_5, .int .i64 p0_6, .slice p0_7.a p0_7.n p0_7.c, .slice p0_8.a p0_8.n p0_8.c]⟩, .int .i64 p1] h R := fnI (vc52e p0_1 p0_2 p0_3 p0_4 p0_5 p0_6 p0_7 p0_8 p1 h R) H

/- (*farandole/view.looker).closed
   loop rrrrlrborlbrb: todo_35:Sl, x_36:Int
   loop rrrrlrb: todo_22:Sl, head_23:Int
   loop rrrlrb: todo_6:Sl, x_7:Int -/
def W53 (p0 : Addr) (p1 : Sl) (h : Heap) (R : Value → Heap → Prop) : Prop :=
  (∃ x1 : Int, hc h ⟨p0.block, p0.off + 3, none⟩ = some (.int .i64 x1) ∧ 
  (((0 : Int) ≤ x1 ∧ (x1 : Int) ≤ x1 ∧ ((1 : Nat) : Int) * x1 ≤ 140737488355328) ∧ ∀ h2 : Heap, h2 = h.push (.cells ⟨madeL Tryz.prog 4 (Int.toNat x1)⟩ 4) → 
  (∃ I3 : Sl → Int → Heap → Nat → Prop, (∃ m4, I3 ⟨none, 0, 0⟩ 0 h2 m4) ∧ 
  (∀ (_ : Env) (todo_6 : Sl) (x_7 : Int) (h8 : Heap) (m5 : Nat), I3 todo_6 x_7 h8 m5 → 
  (sB (decide (x_7 < (p1.n : Int))) 
    ((NB p1.a fun b9 o10 => ((0 ≤ (x_7 : Int) ∧ (x_7 : Int) < (p1.n : Nat)) ∧ 
    (∃ x11 : Int, hc h8 ⟨b9, o10 + Int.toNat x_7 * 1, none⟩ = some (.int .i64 x11) ∧ 
    ((0 ≤ (x11 : Int) ∧ (x11 : Int) < ((Int.toNat x1) : Nat)) ∧ 
    (∃ x12 : Bool, hc h8 ⟨h.size, 0 + Int.toNat x11 * 1, none⟩ = some (.bool x12) ∧ 
    (sB (!x12) 
     (((0 ≤ (x11 : Int) ∧ (x11 : Int) < ((Int.toNat x1) : Nat)) ∧ 
     (okAt h8 ⟨h.size, 0 + Int.toNat x11 * 1, none⟩ 1 ∧ ∀ h13 : Heap, h13 = hputs h8 ⟨h.size, 0 + Int.toNat x11 * 1, none⟩ 0 [.bool true] → 
     (∀ h14 : Heap, h14 = h13.push (.cells ⟨[.int .i64 x11]⟩ 3) → 
     (App Tryz.prog 42 42 (.slice todo_6.a todo_6.n todo_6.c) (.slice (some ⟨h13.size, 0, none⟩) 1 1) h14 fun s15 h16 => 
     (∃ m17, m17 < m5 ∧ I3 s15 (IntKind.wrap .i64 (x_7 + 1)) h16 m17)))))) 
     ((∃ m18, m18 < m5 ∧ I3 todo_6 (IntKind.wrap .i64 (x_7 + 1)) h8 m18))))))))) 
    ((∃ I19 : Sl → Int → Heap → Nat → Prop, (∃ m20, I19 todo_6 0 h8 m20) ∧ 
    (∀ (_ : Env) (todo_22 : Sl) (head_23 : Int) (h24 : Heap) (m21 : Nat), I19 todo_22 head_23 h24 m21 → 
    (sB (decide (head_23 < (todo_22.n : Int))) 
      ((∃ x25 : Sl, hc h24 ⟨p0.block, p0.off + 9, none⟩ = some (.slice x25.a x25.n x25.c) ∧ 
      (NB todo_22.a fun b26 o27 => ((0 ≤ (head_23 : Int) ∧ (head_23 : Int) < (todo_22.n : Nat)) ∧ 
      (∃ x28 : Int, hc h24 ⟨b26, o27 + Int.toNat head_23 * 1, none⟩ = some (.int .i64 x28) ∧ 
      (NB x25.a fun b29 o30 => ((0 ≤ (x28 : Int) ∧ (x28 : Int) < (x25.n : Nat)) ∧ 
      (∃ x31 : Sl, hc h24 ⟨b29, o30 + Int.toNat x28 * 1, none⟩ = some (.slice x31.a x31.n x31.c) ∧ 
      (∃ I32 : Sl → Int → Heap → Nat → Prop, (∃ m33, I32 todo_22 0 h24 m33) ∧ 
      (∀ (_ : Env) (todo_35 : Sl) (x_36 : Int) (h37 : Heap) (m34 : Nat), I32 todo_35 x_36 h37 m34 → 
      (sB (decide (x_36 < (x31.n : Int))) 
        ((NB x31.a fun b38 o39 => ((0 ≤ (x_36 : Int) ∧ (x_36 : Int) < (x31.n : Nat)) ∧ 
        (∃ x40 : Int, hc h37 ⟨b38, o39 + Int.toNat x_36 * 1, none⟩ = some (.int .i64 x40) ∧ 
        ((0 ≤ (x40 : Int) ∧ (x40 : Int) < ((Int.toNat x1) : Nat)) ∧ 
        (∃ x41 : Bool, hc h37 ⟨h.size, 0 + Int.toNat x40 * 1, none⟩ = some (.bool x41) ∧ 
        (sB (!x41) 
         (((0 ≤ (x40 : Int) ∧ (x40 : Int) < ((Int.toNat x1) : Nat)) ∧ 
         (okAt h37 ⟨h.size, 0 + Int.toNat x40 * 1, none⟩ 1 ∧ ∀ h42 : Heap, h42 = hputs h37 ⟨h.size, 0 + Int.toNat x40 * 1, none⟩ 0 [.bool true] → 
         (∀ h43 : Heap, h43 = h42.push (.cells ⟨[.int .i64 x40]⟩ 3) → 
         (App Tryz.prog 42 42 (.slice todo_35.a todo_35.n todo_35.c) (.slice (some ⟨h42.size, 0, none⟩) 1 1) h43 fun s44 h45 => 
         (∃ m46, m46 < m34 ∧ I32 s44 (IntKind.wrap .i64 (x_36 + 1)) h45 m46)))))) 
         ((∃ m47, m47 < m34 ∧ I32 todo_35 (IntKind.wrap .i64 (x_36 + 1)) h37 m47))))))))) 
        ((∃ m48, m48 < m21 ∧ I19 todo_35 (IntKind.wrap .i64 (head_23 + 1)) h37 m48))))))))))))) 
      ((Fn Tryz.prog 55 #[.slice todo_22.a todo_22.n todo_22.c] h24 
      (fun v49 h51 => ∃ x50 : Sl, v49 = .slice x50.a x50.n x50.c ∧ 
      R (.slice x50.a x50.n x50.c) h51))))))))))))
theorem vc53e (p0 : Addr) (p1 : Sl) (h : Heap) (R : Value → Heap → Prop) : W53 p0 p1 h R = fnW Tryz.prog 53 (.s .z (.s .z (.s .z (.s (.s .z (.b (.l [(6, .one (.slice)), (20, .one (.int .i64))] .z))) (.s (.s .z (.b (.l [(6, .one (.slice)), (9, .one (.int .i64))] (.s .z (.s (.b (.s .z (.b (.l [(6, .one (.slice)), (54, .one (.int .i64))] .z)))) .z))))) .z))))) #[.pointer (some p0), .slice p1.a p1.n p1.c] h R := by kernel_rfl
theorem vc53 (p0 : Addr) (p1 : Sl) (h : Heap) (R : Value → Heap → Prop) (H : W53 p0 p1 h R) : Fn Tryz.prog 53 #[.pointer (some p0), .slice p1.a p1.n p1.c] h R := fnI (vc53e p0 p1 h R) H

/- (*farandole/view.looker).after
   loop rrlrborrlbrrb: to_24:Sl, x_25:Int
   loop rrlrb: to_11:Sl, x_12:Int -/
def W56 (p0 : Addr) (p1 : Sl) (p2_1 : Bool) (p2_2 : Int) (p2_3 : Int) (h : Heap) (R : Value → Heap → Prop) : Prop :=
  (∀ h4 : Heap, h4 = h.push (.cells ⟨[.bool p2_1, .int .i64 p2_2, .int .i64 p2_3]⟩ 116) → 
  (Fn Tryz.prog 42 #[.slice p1.a p1.n p1.c] h4 
  (fun v5 h7 => ∃ x6 : Sl, v5 = .slice x6.a x6.n x6.c ∧ 
  (∃ I8 : Sl → Int → Heap → Nat → Prop, (∃ m9, I8 ⟨none, 0, 0⟩ 0 h7 m9) ∧ 
  (∀ (_ : Env) (to_11 : Sl) (x_12 : Int) (h13 : Heap) (m10 : Nat), I8 to_11 x_12 h13 m10 → 
  (sB (decide (x_12 < (x6.n : Int))) 
    ((NB x6.a fun b14 o15 => ((0 ≤ (x_12 : Int) ∧ (x_12 : Int) < (x6.n : Nat)) ∧ 
    (∃ x16 : Int, hc h13 ⟨b14, o15 + Int.toNat x_12 * 1, none⟩ = some (.int .i64 x16) ∧ 
    (∃ x17 : Sl, hc h13 ⟨p0.block, p0.off + 10, none⟩ = some (.slice x17.a x17.n x17.c) ∧ 
    (NB x17.a fun b18 o19 => ((0 ≤ (x16 : Int) ∧ (x16 : Int) < (x17.n : Nat)) ∧ 
    (∃ x20 : Sl, hc h13 ⟨b18, o19 + Int.toNat x16 * 1, none⟩ = some (.slice x20.a x20.n x20.c) ∧ 
    (∃ I21 : Sl → Int → Heap → Nat → Prop, (∃ m22, I21 to_11 0 h13 m22) ∧ 
    (∀ (_ : Env) (to_24 : Sl) (x_25 : Int) (h26 : Heap) (m23 : Nat), I21 to_24 x_25 h26 m23 → 
    (sB (decide (x_25 < (x20.n : Int))) 
      ((NB x20.a fun b27 o28 => ((0 ≤ (x_25 : Int) ∧ (x_25 : Int) < (x20.n : Nat)) ∧ 
      (∃ x29 : Bool, ∃ x30 : Int, ∃ x31 : Int, ∃ x32 : Int, atC h26 ⟨b27, o28 + Int.toNat x_25 * 4, none⟩ [.bool x29, .int .i64 x30, .int .i64 x31, .int .i64 x32] ∧ 
      (∀ h33 : Heap, h33 = h26.push (.cells ⟨[.bool false, .int .i64 0, .int .i64 0, .int .i64 0]⟩ 175) → 
      (okAt h33 ⟨h26.size, 0, none⟩ 4 ∧ ∀ h34 : Heap, h34 = hputs h33 ⟨h26.size, 0, none⟩ 0 [.bool x29, .int .i64 x30, .int .i64 x31, .int .i64 x32] → 
      (∃ x35 : Bool, ∃ x36 : Int, ∃ x37 : Int, atC h34 ⟨h26.size, 0, none⟩ [.bool x35, .int .i64 x36, .int .i64 x37] ∧ 
      (∃ x38 : Bool, ∃ x39 : Int, ∃ x40 : Int, atC h34 ⟨h.size, 0, none⟩ [.bool x38, .int .i64 x39, .int .i64 x40] ∧ 
      (sB ((x35 == x38) && ((x36 == x39) && ((x37 == x40) && true))) 
       ((∃ x41 : Int, hc h34 ⟨h26.size, 3, none⟩ = some (.int .i64 x41) ∧ 
       (∀ h42 : Heap, h42 = h34.push (.cells ⟨[.int .i64 x41]⟩ 3) → 
       (App Tryz.prog 42 42 (.slice to_24.a to_24.n to_24.c) (.slice (some ⟨h34.size, 0, none⟩) 1 1) h42 fun s43 h44 => 
       (∃ m45, m45 < m23 ∧ I21 s43 (IntKind.wrap .i64 (x_25 + 1)) h44 m45))))) 
       ((∃ m46, m46 < m23 ∧ I21 to_24 (IntKind.wrap .i64 (x_25 + 1)) h34 m46))))))))))) 
      ((∃ m47, m47 < m10 ∧ I8 to_24 (IntKind.wrap .i64 (x_12 + 1)) h26 m47))))))))))))) 
    ((Fn Tryz.prog 53 #[.pointer (some p0), .slice to_11.a to_11.n to_11.c] h13 
    (fun v48 h50 => ∃ x49 : Sl, v48 = .slice x49.a x49.n x49.c ∧ 
    R (.slice x49.a x49.n x49.c) h50)))))))))
theorem vc56e (p0 : Addr) (p1 : Sl) (p2_1 : Bool) (p2_2 : Int) (p2_3 : Int) (h : Heap) (R : Value → Heap → Prop) : W56 p0 p1 p2_1 p2_2 p2_3 h R = fnW Tryz.prog 56 (.s .z (.s .z (.s (.s .z (.b (.l [(7, .one (.slice)), (15, .one (.int .i64))] (.s .z (.s .z (.s (.b (.s .z (.s .z (.b (.l [(7, .one (.slice)), (27, .one (.int .i64))] .z))))) .z)))))) .z))) #[.pointer (some p0), .slice p1.a p1.n p1.c, .agg ⟨[.bool p2_1, .int .i64 p2_2, .int .i64 p2_3]⟩] h R := by kernel_rfl
theorem vc56 (p0 : Addr) (p1 : Sl) (p2_1 : Bool) (p2_2 : Int) (p2_3 : Int) (h : Heap) (R : Value → Heap → Prop) (H : W56 p0 p1 p2_1 p2_2 p2_3 h R) : Fn Tryz.prog 56 #[.pointer (some p0), .slice p1.a p1.n p1.c, .agg ⟨[.bool p2_1, .int .i64 p2_2, .int .i64 p2_3]⟩] h R := fnI (vc56e p0 p1 p2_1 p2_2 p2_3 h R) H

/- (*farandole/view.looker).events
   loop rrlrborrlbrrb: out_20:Sl, x_21:Int
   loop rrlrb: out_7:Sl, x_8:Int -/
def W87 (p0 : Addr) (p1 : Sl) (h : Heap) (R : Value → Heap → Prop) : Prop :=
  (Fn Tryz.prog 42 #[.slice p1.a p1.n p1.c] h 
  (fun v1 h3 => ∃ x2 : Sl, v1 = .slice x2.a x2.n x2.c ∧ 
  (∃ I4 : Sl → Int → Heap → Nat → Prop, (∃ m5, I4 ⟨none, 0, 0⟩ 0 h3 m5) ∧ 
  (∀ (_ : Env) (out_7 : Sl) (x_8 : Int) (h9 : Heap) (m6 : Nat), I4 out_7 x_8 h9 m6 → 
  (sB (decide (x_8 < (x2.n : Int))) 
    ((NB x2.a fun b10 o11 => ((0 ≤ (x_8 : Int) ∧ (x_8 : Int) < (x2.n : Nat)) ∧ 
    (∃ x12 : Int, hc h9 ⟨b10, o11 + Int.toNat x_8 * 1, none⟩ = some (.int .i64 x12) ∧ 
    (∃ x13 : Sl, hc h9 ⟨p0.block, p0.off + 10, none⟩ = some (.slice x13.a x13.n x13.c) ∧ 
    (NB x13.a fun b14 o15 => ((0 ≤ (x12 : Int) ∧ (x12 : Int) < (x13.n : Nat)) ∧ 
    (∃ x16 : Sl, hc h9 ⟨b14, o15 + Int.toNat x12 * 1, none⟩ = some (.slice x16.a x16.n x16.c) ∧ 
    (∃ I17 : Sl → Int → Heap → Nat → Prop, (∃ m18, I17 out_7 0 h9 m18) ∧ 
    (∀ (_ : Env) (out_20 : Sl) (x_21 : Int) (h22 : Heap) (m19 : Nat), I17 out_20 x_21 h22 m19 → 
    (sB (decide (x_21 < (x16.n : Int))) 
      ((NB x16.a fun b23 o24 => ((0 ≤ (x_21 : Int) ∧ (x_21 : Int) < (x16.n : Nat)) ∧ 
      (∃ x25 : Bool, ∃ x26 : Int, ∃ x27 : Int, ∃ x28 : Int, atC h22 ⟨b23, o24 + Int.toNat x_21 * 4, none⟩ [.bool x25, .int .i64 x26, .int .i64 x27, .int .i64 x28] ∧ 
      (∀ h29 : Heap, h29 = h22.push (.cells ⟨[.bool false, .int .i64 0, .int .i64 0, .int .i64 0]⟩ 175) → 
      (okAt h29 ⟨h22.size, 0, none⟩ 4 ∧ ∀ h30 : Heap, h30 = hputs h29 ⟨h22.size, 0, none⟩ 0 [.bool x25, .int .i64 x26, .int .i64 x27, .int .i64 x28] → 
      (∃ x31 : Bool, ∃ x32 : Int, ∃ x33 : Int, atC h30 ⟨h22.size, 0, none⟩ [.bool x31, .int .i64 x32, .int .i64 x33] ∧ 
      (∀ h34 : Heap, h34 = h30.push (.cells ⟨[.bool x31, .int .i64 x32, .int .i64 x33]⟩ 116) → 
      (App Tryz.prog 151 151 (.slice out_20.a out_20.n out_20.c) (.slice (some ⟨h30.size, 0, none⟩) 1 1) h34 fun s35 h36 => 
      (∃ m37, m37 < m19 ∧ I17 s35 (IntKind.wrap .i64 (x_21 + 1)) h36 m37)))))))))) 
      ((∃ m38, m38 < m6 ∧ I4 out_20 (IntKind.wrap .i64 (x_8 + 1)) h22 m38))))))))))))) 
    ((Fn Tryz.prog 137 #[.slice out_7.a out_7.n out_7.c, .func (.func 138) #[] #[]] h9 
    (fun v39 h40 => v39 = .tuple ⟨[]⟩ ∧ 
    (Fn Tryz.prog 139 #[.slice out_7.a out_7.n out_7.c] h40 
    (fun v41 h43 => ∃ x42 : Sl, v41 = .slice x42.a x42.n x42.c ∧ 
    R (.slice x42.a x42.n x42.c) h43))))))))))
theorem vc87e (p0 : Addr) (p1 : Sl) (h : Heap) (R : Value → Heap → Prop) : W87 p0 p1 h R = fnW Tryz.prog 87 (.s .z (.s .z (.s (.s .z (.b (.l [(5, .one (.slice)), (13, .one (.int .i64))] (.s .z (.s .z (.s (.b (.s .z (.s .z (.b (.l [(5, .one (.slice)), (25, .one (.int .i64))] .z))))) .z)))))) .z))) #[.pointer (some p0), .slice p1.a p1.n p1.c] h R := by kernel_rfl
theorem vc87 (p0 : Addr) (p1 : Sl) (h : Heap) (R : Value → Heap → Prop) (H : W87 p0 p1 h R) : Fn Tryz.prog 87 #[.pointer (some p0), .slice p1.a p1.n p1.c] h R := fnI (vc87e p0 p1 h R) H

/- (farandole/view.event).compare -/
def W138 (p0_1 : Bool) (p0_2 : Int) (p0_3 : Int) (p1_4 : Bool) (p1_5 : Int) (p1_6 : Int) (h : Heap) (R : Value → Heap → Prop) : Prop :=
  (∀ h7 : Heap, h7 = h.push (.cells ⟨[.bool p0_1, .int .i64 p0_2, .int .i64 p0_3]⟩ 116) → 
  (∀ h8 : Heap, h8 = h7.push (.cells ⟨[.bool p1_4, .int .i64 p1_5, .int .i64 p1_6]⟩ 116) → 
  (∃ x9 : Bool, hc h8 ⟨h.size, 0, none⟩ = some (.bool x9) ∧ 
  (∃ x10 : Bool, hc h8 ⟨h7.size, 0, none⟩ = some (.bool x10) ∧ 
  (sB (!(x9 == x10)) 
   ((∃ x11 : Bool, hc h8 ⟨h.size, 0, none⟩ = some (.bool x11) ∧ 
   (sB x11 
    (R (.int .i64 (-1)) h8) 
    (R (.int .i64 1) h8)))) 
   ((∃ x12 : Int, hc h8 ⟨h.size, 1, none⟩ = some (.int .i64 x12) ∧ 
   (∃ x13 : Int, hc h8 ⟨h7.size, 1, none⟩ = some (.int .i64 x13) ∧ 
   (∃ x14 : Int, hc h8 ⟨h.size, 2, none⟩ = some (.int .i64 x14) ∧ 
   (∃ x15 : Int, hc h8 ⟨h7.size, 2, none⟩ = some (.int .i64 x15) ∧ 
   (Fn Tryz.prog 110 #[.int .i64 x12, .int .i64 x13] h8 
   (fun v16 h18 => ∃ x17 : Int, v16 = .int .i64 x17 ∧ 
   (Sm [⟨h7.size, 2, none⟩, ⟨h.size, 2, none⟩] h8 h18 ∧ 
   (Fn Tryz.prog 110 #[.int .i64 x14, .int .i64 x15] h18 
   (fun v19 h21 => ∃ x20 : Int, v19 = .int .i64 x20 ∧ 
   (Sm [⟨h7.size, 1, none⟩, ⟨h.size, 1, none⟩] h18 h21 ∧ 
   (∀ h22 : Heap, h22 = h21.push (.cells ⟨[.int .i64 x17, .int .i64 x20]⟩ 3) → 
   (Fn Tryz.prog 109 #[.slice (some ⟨h21.size, 0, none⟩) 2 2] h22 
   (fun v23 h25 => ∃ x24 : Int, v23 = .int .i64 x24 ∧ 
   R (.int .i64 x24) h25)))))))))))))))))))
theorem vc138e (p0_1 : Bool) (p0_2 : Int) (p0_3 : Int) (p1_4 : Bool) (p1_5 : Int) (p1_6 : Int) (h : Heap) (R : Value → Heap → Prop) : W138 p0_1 p0_2 p0_3 p1_4 p1_5 p1_6 h R = fnW Tryz.prog 138 .z #[.agg ⟨[.bool p0_1, .int .i64 p0_2, .int .i64 p0_3]⟩, .agg ⟨[.bool p1_4, .int .i64 p1_5, .int .i64 p1_6]⟩] h R := by kernel_rfl
theorem vc138 (p0_1 : Bool) (p0_2 : Int) (p0_3 : Int) (p1_4 : Bool) (p1_5 : Int) (p1_6 : Int) (h : Heap) (R : Value → Heap → Prop) (H : W138 p0_1 p0_2 p0_3 p1_4 p1_5 p1_6 h R) : Fn Tryz.prog 138 #[.agg ⟨[.bool p0_1, .int .i64 p0_2, .int .i64 p0_3]⟩, .agg ⟨[.bool p1_4, .int .i64 p1_5, .int .i64 p1_6]⟩] h R := fnI (vc138e p0_1 p0_2 p0_3 p1_4 p1_5 p1_6 h R) H

/- (*farandole/view.looker).full
   loop rrlrb: out_4:Sl, x_5:Int -/
def W140 (p0 : Addr) (p1 : Sl) (h : Heap) (R : Value → Heap → Prop) : Prop :=
  (∃ I1 : Sl → Int → Heap → Nat → Prop, (∃ m2, I1 ⟨none, 0, 0⟩ 0 h m2) ∧ 
  (∀ (_ : Env) (out_4 : Sl) (x_5 : Int) (h6 : Heap) (m3 : Nat), I1 out_4 x_5 h6 m3 → 
  (sB (decide (x_5 < (p1.n : Int))) 
    ((NB p1.a fun b7 o8 => ((0 ≤ (x_5 : Int) ∧ (x_5 : Int) < (p1.n : Nat)) ∧ 
    (∃ x9 : Bool, ∃ x10 : Int, ∃ x11 : Int, atC h6 ⟨b7, o8 + Int.toNat x_5 * 3, none⟩ [.bool x9, .int .i64 x10, .int .i64 x11] ∧ 
    (∀ h12 : Heap, h12 = h6.push (.cells ⟨[.bool false, .int .i64 0, .int .i64 0]⟩ 116) → 
    (okAt h12 ⟨h6.size, 0, none⟩ 3 ∧ ∀ h13 : Heap, h13 = hputs h12 ⟨h6.size, 0, none⟩ 0 [.bool x9, .int .i64 x10, .int .i64 x11] → 
    (∃ x14 : Bool, ∃ x15 : Int, ∃ x16 : Int, atC h13 ⟨h6.size, 0, none⟩ [.bool x14, .int .i64 x15, .int .i64 x16] ∧ 
    (∃ x17 : Int, hc h13 ⟨p0.block, p0.off + 8, none⟩ = some (.int .i64 x17) ∧ 
    (Fn Tryz.prog 194 #[.agg ⟨[.bool x14, .int .i64 x15, .int .i64 x16]⟩, .int .i64 x17] h13 
    (fun v18 h24 => ∃ x19 : Int, ∃ x20 : Bool, ∃ x21 : Int, ∃ x22 : Int, ∃ x23 : Sl, v18 = .agg ⟨[.int .i64 x19, .bool x20, .int .i64 x21, .int .i64 x22, .slice x23.a x23.n x23.c]⟩ ∧ 
    (∀ h25 : Heap, h25 = h24.push (.cells ⟨[.int .i64 x19, .bool x20, .int .i64 x21, .int .i64 x22, .slice x23.a x23.n x23.c]⟩ 60) → 
    (App Tryz.prog 56 56 (.slice out_4.a out_4.n out_4.c) (.slice (some ⟨h24.size, 0, none⟩) 1 1) h25 fun s26 h27 => 
    (∃ m28, m28 < m3 ∧ I1 s26 (IntKind.wrap .i64 (x_5 + 1)) h27 m28))))))))))))) 
    (R (.slice out_4.a out_4.n out_4.c) h6))))
theorem vc140e (p0 : Addr) (p1 : Sl) (h : Heap) (R : Value → Heap → Prop) : W140 p0 p1 h R = fnW Tryz.prog 140 (.s .z (.s .z (.s (.s .z (.b (.l [(5, .one (.slice)), (10, .one (.int .i64))] .z))) .z))) #[.pointer (some p0), .slice p1.a p1.n p1.c] h R := by kernel_rfl
theorem vc140 (p0 : Addr) (p1 : Sl) (h : Heap) (R : Value → Heap → Prop) (H : W140 p0 p1 h R) : Fn Tryz.prog 140 #[.pointer (some p0), .slice p1.a p1.n p1.c] h R := fnI (vc140e p0 p1 h R) H

/- (farandole/view.event).full -/
def W194 (p0_1 : Bool) (p0_2 : Int) (p0_3 : Int) (p1 : Int) (h : Heap) (R : Value → Heap → Prop) : Prop :=
  (∀ h4 : Heap, h4 = h.push (.cells ⟨[.bool p0_1, .int .i64 p0_2, .int .i64 p0_3]⟩ 116) → 
  (∀ h5 : Heap, h5 = h4.push (.cells ⟨[.int .i64 0, .bool false, .int .i64 0, .int .i64 0, .slice none 0 0]⟩ 60) → 
  (∃ x6 : Bool, hc h5 ⟨h.size, 0, none⟩ = some (.bool x6) ∧ 
  (∃ x7 : Int, hc h5 ⟨h.size, 1, none⟩ = some (.int .i64 x7) ∧ 
  (∃ x8 : Int, hc h5 ⟨h.size, 2, none⟩ = some (.int .i64 x8) ∧ 
  (okAt h5 ⟨h4.size, 0, none⟩ 5 ∧ ∀ h9 : Heap, h9 = hputs h5 ⟨h4.size, 0, none⟩ 0 [.int .i64 p1, .bool x6, .int .i64 x7, .int .i64 x8, .slice none 0 0] → 
  (∃ x10 : Int, ∃ x11 : Bool, ∃ x12 : Int, ∃ x13 : Int, ∃ x14 : Sl, atC h9 ⟨h4.size, 0, none⟩ [.int .i64 x10, .bool x11, .int .i64 x12, .int .i64 x13, .slice x14.a x14.n x14.c] ∧ 
  R (.agg ⟨[.int .i64 x10, .bool x11, .int .i64 x12, .int .i64 x13, .slice x14.a x14.n x14.c]⟩) h9)))))))
theorem vc194e (p0_1 : Bool) (p0_2 : Int) (p0_3 : Int) (p1 : Int) (h : Heap) (R : Value → Heap → Prop) : W194 p0_1 p0_2 p0_3 p1 h R = fnW Tryz.prog 194 .z #[.agg ⟨[.bool p0_1, .int .i64 p0_2, .int .i64 p0_3]⟩, .int .i64 p1] h R := by kernel_rfl
theorem vc194 (p0_1 : Bool) (p0_2 : Int) (p0_3 : Int) (p1 : Int) (h : Heap) (R : Value → Heap → Prop) (H : W194 p0_1 p0_2 p0_3 p1 h R) : Fn Tryz.prog 194 #[.agg ⟨[.bool p0_1, .int .i64 p0_2, .int .i64 p0_3]⟩, .int .i64 p1] h R := fnI (vc194e p0_1 p0_2 p0_3 p1 h R) H

/- farandole/view.First -/
def W88 (p0_1 : ByteArray) (p0_2 : Sl) (p0_3 : Sl) (p0_4 : Int) (p0_5 : Int) (p0_6 : Int) (p0_7 : Sl) (p0_8 : Sl) (p1 : Int) (p2 : Int) (h : Heap) (R : Value → Heap → Prop) : Prop :=
  (∀ h9 : Heap, h9 = h.push (.cells ⟨[.string p0_1, .slice p0_2.a p0_2.n p0_2.c, .slice p0_3.a p0_3.n p0_3.c, .int .i64 p0_4, .int .i64 p0_5, .int .i64 p0_6, .slice p0_7.a p0_7.n p0_7.c, .slice p0_8.a p0_8.n p0_8.c]⟩ 27) → 
  (∃ x10 : ByteArray, ∃ x11 : Sl, ∃ x12 : Sl, ∃ x13 : Int, ∃ x14 : Int, ∃ x15 : Int, ∃ x16 : Sl, ∃ x17 : Sl, atC h9 ⟨h.size, 0, none⟩ [.string x10, .slice x11.a x11.n x11.c, .slice x12.a x12.n x12.c, .int .i64 x13, .int .i64 x14, .int .i64 x15, .slice x16.a x16.n x16.c, .slice x17.a x17.n x17.c] ∧ 
  (Fn Tryz.prog 52 #[.agg ⟨[.string x10, .slice x11.a x11.n x11.c, .slice x12.a x12.n x12.c, .int .i64 x13, .int .i64 x14, .int .i64 x15, .slice x16.a x16.n x16.c, .slice x17.a x17.n x17.c]⟩, .int .i64 p1] h9 
  (fun v18 h21 => ∃ x19 : Option Addr, ∃ x20 : Int, v18 = .tuple ⟨[.pointer x19, .int .i64 x20]⟩ ∧ 
  (sB (x20 != 0) 
   (R (.tuple ⟨[.slice none 0 0, .bool false, .int .i64 x20]⟩) h21) 
   ((sB (decide (p2 < 0)) 
    (R (.tuple ⟨[.slice none 0 0, .bool false, .int .i64 2]⟩) h21) 
    ((∃ x22 : Int, hc h21 ⟨h.size, 3, none⟩ = some (.int .i64 x22) ∧ 
    (sB (decide (p2 ≥ x22)) 
     (R (.tuple ⟨[.slice none 0 0, .bool false, .int .i64 2]⟩) h21) 
     ((∀ h23 : Heap, h23 = h21.push (.cells ⟨[.int .i64 p2]⟩ 3) → 
     (Fn Tryz.prog 53 #[.pointer x19, .slice (some ⟨h21.size, 0, none⟩) 1 1] h23 
     (fun v24 h26 => ∃ x25 : Sl, v24 = .slice x25.a x25.n x25.c ∧ 
     (∃ x27 : Int, hc h26 ⟨h.size, 5, none⟩ = some (.int .i64 x27) ∧ 
     (Fn Tryz.prog 87 #[.pointer x19, .slice x25.a x25.n x25.c] h26 
     (fun v28 h30 => ∃ x29 : Sl, v28 = .slice x29.a x29.n x29.c ∧ 
     (Sm [⟨h.size, 5, none⟩] h26 h30 ∧ 
     (Fn Tryz.prog 140 #[.pointer x19, .slice x29.a x29.n x29.c] h30 
     (fun v31 h33 => ∃ x32 : Sl, v31 = .slice x32.a x32.n x32.c ∧ 
     (Sm [⟨h.size, 5, none⟩] h30 h33 ∧ 
     (Fn Tryz.prog 29 #[.slice x25.a x25.n x25.c, .int .i64 x27] h33 
     (fun v34 h36 => ∃ x35 : Bool, v34 = .bool x35 ∧ 
     R (.tuple ⟨[.slice x32.a x32.n x32.c, .bool x35, .int .i64 0]⟩) h36)))))))))))))))))))))))
theorem vc88e (p0_1 : ByteArray) (p0_2 : Sl) (p0_3 : Sl) (p0_4 : Int) (p0_5 : Int) (p0_6 : Int) (p0_7 : Sl) (p0_8 : Sl) (p1 : Int) (p2 : Int) (h : Heap) (R : Value → Heap → Prop) : W88 p0_1 p0_2 p0_3 p0_4 p0_5 p0_6 p0_7 p0_8 p1 p2 h R = fnW Tryz.prog 88 .z #[.agg ⟨[.string p0_1, .slice p0_2.a p0_2.n p0_2.c, .slice p0_3.a p0_3.n p0_3.c, .int .i64 p0_4, .int .i64 p0_5, .int .i64 p0_6, .slice p0_7.a p0_7.n p0_7.c, .slice p0_8.a p0_8.n p0_8.c]⟩, .int .i64 p1, .int .i64 p2] h R := by kernel_rfl
theorem vc88 (p0_1 : ByteArray) (p0_2 : Sl) (p0_3 : Sl) (p0_4 : Int) (p0_5 : Int) (p0_6 : Int) (p0_7 : Sl) (p0_8 : Sl) (p1 : Int) (p2 : Int) (h : Heap) (R : Value → Heap → Prop) (H : W88 p0_1 p0_2 p0_3 p0_4 p0_5 p0_6 p0_7 p0_8 p1 p2 h R) : Fn Tryz.prog 88 #[.agg ⟨[.string p0_1, .slice p0_2.a p0_2.n p0_2.c, .slice p0_3.a p0_3.n p0_3.c, .int .i64 p0_4, .int .i64 p0_5, .int .i64 p0_6, .slice p0_7.a p0_7.n p0_7.c, .slice p0_8.a p0_8.n p0_8.c]⟩, .int .i64 p1, .int .i64 p2] h R := fnI (vc88e p0_1 p0_2 p0_3 p0_4 p0_5 p0_6 p0_7 p0_8 p1 p2 h R) H

/- slices.IndexFunc[[]farandole/bits.Set,farandole/bits.Set]
   loop rlrb: x_4:Int -/
def W84 (p0 : Sl) (p1 : FuncId) (p1c : Option Addr) (h : Heap) (R : Value → Heap → Prop) : Prop :=
  (∃ I1 : Int → Heap → Nat → Prop, (∃ m2, I1 0 h m2) ∧ 
  (∀ (_ : Env) (x_4 : Int) (h5 : Heap) (m3 : Nat), I1 x_4 h5 m3 → 
  (sB (decide (x_4 < (p0.n : Int))) 
    ((NB p0.a fun b6 o7 => ((0 ≤ (x_4 : Int) ∧ (x_4 : Int) < (p0.n : Nat)) ∧ 
    (∃ x8 : Sl, hc h5 ⟨b6, o7 + Int.toNat x_4 * 1, none⟩ = some (.slice x8.a x8.n x8.c) ∧ 
    (bif callable Tryz.prog p1 then Fn Tryz.prog p1 #[.slice x8.a x8.n x8.c, .pointer p1c] h5 
    (fun v9 h11 => ∃ x10 : Bool, v9 = .bool x10 ∧ 
    (sB x10 
     (R (.int .i64 x_4) h11) 
     ((∃ m12, m12 < m3 ∧ I1 (IntKind.wrap .i64 (x_4 + 1)) h11 m12)))) else ExtW Tryz.prog p1 #[.slice x8.a x8.n x8.c, .pointer p1c] h5 
    (fun v9 h11 => ∃ x10 : Bool, v9 = .bool x10 ∧ 
    (sB x10 
     (R (.int .i64 x_4) h11) 
     ((∃ m12, m12 < m3 ∧ I1 (IntKind.wrap .i64 (x_4 + 1)) h11 m12))))))))) 
    (R (.int .i64 (-1)) h5))))
theorem vc84e (p0 : Sl) (p1 : FuncId) (p1c : Option Addr) (h : Heap) (R : Value → Heap → Prop) : W84 p0 p1 p1c h R = fnW Tryz.prog 84 (.s .z (.s (.s .z (.b (.l [(8, .one (.int .i64))] .z))) .z)) #[.slice p0.a p0.n p0.c, .func (.func p1) #[] #[.pointer p1c]] h R := by kernel_rfl
theorem vc84 (p0 : Sl) (p1 : FuncId) (p1c : Option Addr) (h : Heap) (R : Value → Heap → Prop) (H : W84 p0 p1 p1c h R) : Fn Tryz.prog 84 #[.slice p0.a p0.n p0.c, .func (.func p1) #[] #[.pointer p1c]] h R := fnI (vc84e p0 p1 p1c h R) H

/- farandole/view.Views$1$1 -/
def W85 (p0 : Sl) (c0 : Addr) (h : Heap) (R : Value → Heap → Prop) : Prop :=
  (∃ x1 : Sl, hc h c0 = some (.slice x1.a x1.n x1.c) ∧ 
  (Fn Tryz.prog 86 #[.slice p0.a p0.n p0.c, .slice x1.a x1.n x1.c] h 
  (fun v2 h4 => ∃ x3 : Bool, v2 = .bool x3 ∧ 
  R (.bool x3) h4)))
theorem vc85e (p0 : Sl) (c0 : Addr) (h : Heap) (R : Value → Heap → Prop) : W85 p0 c0 h R = fnW Tryz.prog 85 .z #[.slice p0.a p0.n p0.c, .pointer (some c0)] h R := by kernel_rfl
theorem vc85 (p0 : Sl) (c0 : Addr) (h : Heap) (R : Value → Heap → Prop) (H : W85 p0 c0 h R) : Fn Tryz.prog 85 #[.slice p0.a p0.n p0.c, .pointer (some c0)] h R := fnI (vc85e p0 c0 h R) H

/- farandole/view.Views$1 -/
def W83 (p0 : Sl) (c0 : Addr) (c1 : Addr) (h : Heap) (R : Value → Heap → Prop) : Prop :=
  (∀ h1 : Heap, h1 = h.push (.cells ⟨[.slice p0.a p0.n p0.c]⟩ 67) → 
  (∃ x2 : Sl, hc h1 c0 = some (.slice x2.a x2.n x2.c) ∧ 
  (Fn Tryz.prog 84 #[.slice x2.a x2.n x2.c, .func (.func 85) #[] #[.pointer (some ⟨h.size, 0, none⟩)]] h1 
  (fun v3 h5 => ∃ x4 : Int, v3 = .int .i64 x4 ∧ 
  (sB (decide (x4 ≥ 0)) 
   (R (.int .i64 x4) h5) 
   ((∃ x6 : Sl, hc h5 c0 = some (.slice x6.a x6.n x6.c) ∧ 
   (∃ x7 : Sl, hc h5 ⟨h.size, 0, none⟩ = some (.slice x7.a x7.n x7.c) ∧ 
   (∃ x8 : Sl, hc h5 ⟨c0.block, c0.off + 1, none⟩ = some (.slice x8.a x8.n x8.c) ∧ 
   (∃ x9 : Sl, hc h5 ⟨h.size, 0, none⟩ = some (.slice x9.a x9.n x9.c) ∧ 
   (∃ x10 : Int, hc h5 ⟨c1.block, c1.off + 5, none⟩ = some (.int .i64 x10) ∧ 
   (∀ h11 : Heap, h11 = h5.push (.cells ⟨[.slice x7.a x7.n x7.c]⟩ 67) → 
   (Sm [⟨c1.block, c1.off + 5, none⟩, ⟨h.size, 0, none⟩, ⟨c0.block, c0.off + 1, none⟩, c0] h5 h11 ∧ 
   (App Tryz.prog 83 83 (.slice x6.a x6.n x6.c) (.slice (some ⟨h5.size, 0, none⟩) 1 1) h11 fun s12 h13 => 
   (Sm [⟨c1.block, c1.off + 5, none⟩, ⟨h.size, 0, none⟩, ⟨c0.block, c0.off + 1, none⟩] h11 h13 ∧ 
   (Fn Tryz.prog 29 #[.slice x9.a x9.n x9.c, .int .i64 x10] h13 
   (fun v14 h16 => ∃ x15 : Bool, v14 = .bool x15 ∧ 
   (Sm [⟨c0.block, c0.off + 1, none⟩, ⟨h.size, 0, none⟩, c0] h13 h16 ∧ 
   (∀ h17 : Heap, h17 = h16.push (.cells ⟨[.bool x15]⟩ 4) → 
   (Sm [⟨c0.block, c0.off + 1, none⟩, ⟨h.size, 0, none⟩, c0] h16 h17 ∧ 
   (App Tryz.prog 30 30 (.slice x8.a x8.n x8.c) (.slice (some ⟨h16.size, 0, none⟩) 1 1) h17 fun s18 h19 => 
   (Sm [⟨h.size, 0, none⟩, c0] h17 h19 ∧ 
   (okAt h19 c0 1 ∧ ∀ h20 : Heap, h20 = hputs h19 c0 0 [.slice s12.a s12.n s12.c] → 
   (Sm [⟨c1.block, c1.off + 5, none⟩, ⟨h.size, 0, none⟩] h19 h20 ∧ 
   (okAt h20 ⟨c0.block, c0.off + 1, none⟩ 1 ∧ ∀ h21 : Heap, h21 = hputs h20 ⟨c0.block, c0.off + 1, none⟩ 0 [.slice s18.a s18.n s18.c] → 
   (∃ x22 : Sl, hc h21 c0 = some (.slice x22.a x22.n x22.c) ∧ 
   R (.int .i64 (IntKind.wrap .i64 ((x22.n : Int) - 1))) h21))))))))))))))))))))))))))
theorem vc83e (p0 : Sl) (c0 : Addr) (c1 : Addr) (h : Heap) (R : Value → Heap → Prop) : W83 p0 c0 c1 h R = fnW Tryz.prog 83 .z #[.slice p0.a p0.n p0.c, .pointer (some c0), .pointer (some c1)] h R := by kernel_rfl
theorem vc83 (p0 : Sl) (c0 : Addr) (c1 : Addr) (h : Heap) (R : Value → Heap → Prop) (H : W83 p0 c0 c1 h R) : Fn Tryz.prog 83 #[.slice p0.a p0.n p0.c, .pointer (some c0), .pointer (some c1)] h R := fnI (vc83e p0 c0 c1 h R) H

/- farandole/view.Views
   loop rrrrrrlrborlblrb: x_52:Int
   loop rrrrrrlrb: i_39:Int -/
def W39 (p0_1 : ByteArray) (p0_2 : Sl) (p0_3 : Sl) (p0_4 : Int) (p0_5 : Int) (p0_6 : Int) (p0_7 : Sl) (p0_8 : Sl) (p1 : Int) (h : Heap) (R : Value → Heap → Prop) : Prop :=
  (∀ h9 : Heap, h9 = h.push (.cells ⟨[.string p0_1, .slice p0_2.a p0_2.n p0_2.c, .slice p0_3.a p0_3.n p0_3.c, .int .i64 p0_4, .int .i64 p0_5, .int .i64 p0_6, .slice p0_7.a p0_7.n p0_7.c, .slice p0_8.a p0_8.n p0_8.c]⟩ 27) → 
  (∀ h10 : Heap, h10 = h9.push (.cells ⟨[.slice none 0 0, .slice none 0 0, .slice none 0 0]⟩ 85) → 
  (∃ x11 : ByteArray, ∃ x12 : Sl, ∃ x13 : Sl, ∃ x14 : Int, ∃ x15 : Int, ∃ x16 : Int, ∃ x17 : Sl, ∃ x18 : Sl, atC h10 ⟨h.size, 0, none⟩ [.string x11, .slice x12.a x12.n x12.c, .slice x13.a x13.n x13.c, .int .i64 x14, .int .i64 x15, .int .i64 x16, .slice x17.a x17.n x17.c, .slice x18.a x18.n x18.c] ∧ 
  (Fn Tryz.prog 52 #[.agg ⟨[.string x11, .slice x12.a x12.n x12.c, .slice x13.a x13.n x13.c, .int .i64 x14, .int .i64 x15, .int .i64 x16, .slice x17.a x17.n x17.c, .slice x18.a x18.n x18.c]⟩, .int .i64 p1] h10 
  (fun v19 h22 => ∃ x20 : Option Addr, ∃ x21 : Int, v19 = .tuple ⟨[.pointer x20, .int .i64 x21]⟩ ∧ 
  (sB (x21 != 0) 
   ((okAt h22 ⟨h9.size, 0, none⟩ 3 ∧ ∀ h23 : Heap, h23 = hputs h22 ⟨h9.size, 0, none⟩ 0 [.slice none 0 0, .slice none 0 0, .slice none 0 0] → 
   (∃ x24 : Sl, ∃ x25 : Sl, ∃ x26 : Sl, atC h23 ⟨h9.size, 0, none⟩ [.slice x24.a x24.n x24.c, .slice x25.a x25.n x25.c, .slice x26.a x26.n x26.c] ∧ 
   R (.tuple ⟨[.agg ⟨[.slice x24.a x24.n x24.c, .slice x25.a x25.n x25.c, .slice x26.a x26.n x26.c]⟩, .int .i64 x21]⟩) h23))) 
   ((∀ h27 : Heap, h27 = h22.push (.cells ⟨[.slice none 0 0, .slice none 0 0, .slice none 0 0]⟩ 85) → 
   (∃ x28 : Int, hc h27 ⟨h.size, 4, none⟩ = some (.int .i64 x28) ∧ 
   (∀ h29 : Heap, h29 = h27.push (.cells ⟨[.int .i64 x28]⟩ 3) → 
   (Fn Tryz.prog 53 #[.pointer x20, .slice (some ⟨h27.size, 0, none⟩) 1 1] h29 
   (fun v30 h32 => ∃ x31 : Sl, v30 = .slice x31.a x31.n x31.c ∧ 
   (Fn Tryz.prog 83 #[.slice x31.a x31.n x31.c, .pointer (some ⟨h22.size, 0, none⟩), .pointer (some ⟨h.size, 0, none⟩)] h32 
   (fun v33 h35 => ∃ x34 : Int, v33 = .int .i64 x34 ∧ 
   (∃ I36 : Int → Heap → Nat → Prop, (∃ m37, I36 0 h35 m37) ∧ 
   (∀ (_ : Env) (i_39 : Int) (h40 : Heap) (m38 : Nat), I36 i_39 h40 m38 → 
   (∃ x41 : Sl, hc h40 ⟨h22.size, 0, none⟩ = some (.slice x41.a x41.n x41.c) ∧ 
    (sB (decide (i_39 < (x41.n : Int))) 
     ((∃ x42 : Sl, hc h40 ⟨h22.size, 0, none⟩ = some (.slice x42.a x42.n x42.c) ∧ 
     (NB x42.a fun b43 o44 => ((0 ≤ (i_39 : Int) ∧ (i_39 : Int) < (x42.n : Nat)) ∧ 
     (∃ x45 : Sl, hc h40 ⟨b43, o44 + Int.toNat i_39 * 1, none⟩ = some (.slice x45.a x45.n x45.c) ∧ 
     (Fn Tryz.prog 87 #[.pointer x20, .slice x45.a x45.n x45.c] h40 
     (fun v46 h48 => ∃ x47 : Sl, v46 = .slice x47.a x47.n x47.c ∧ 
     (∃ I49 : Int → Heap → Nat → Prop, (∃ m50, I49 0 h48 m50) ∧ 
     (∀ (_ : Env) (x_52 : Int) (h53 : Heap) (m51 : Nat), I49 x_52 h53 m51 → 
     (sB (decide (x_52 < (x47.n : Int))) 
       ((NB x47.a fun b54 o55 => ((0 ≤ (x_52 : Int) ∧ (x_52 : Int) < (x47.n : Nat)) ∧ 
       (∃ x56 : Bool, ∃ x57 : Int, ∃ x58 : Int, atC h53 ⟨b54, o55 + Int.toNat x_52 * 3, none⟩ [.bool x56, .int .i64 x57, .int .i64 x58] ∧ 
       (∀ h59 : Heap, h59 = h53.push (.cells ⟨[.bool false, .int .i64 0, .int .i64 0]⟩ 116) → 
       (okAt h59 ⟨h53.size, 0, none⟩ 3 ∧ ∀ h60 : Heap, h60 = hputs h59 ⟨h53.size, 0, none⟩ 0 [.bool x56, .int .i64 x57, .int .i64 x58] → 
       (∃ x61 : Sl, hc h60 ⟨h22.size, 0, none⟩ = some (.slice x61.a x61.n x61.c) ∧ 
       (NB x61.a fun b62 o63 => ((0 ≤ (i_39 : Int) ∧ (i_39 : Int) < (x61.n : Nat)) ∧ 
       (∃ x64 : Sl, hc h60 ⟨b62, o63 + Int.toNat i_39 * 1, none⟩ = some (.slice x64.a x64.n x64.c) ∧ 
       (∃ x65 : Bool, ∃ x66 : Int, ∃ x67 : Int, atC h60 ⟨h53.size, 0, none⟩ [.bool x65, .int .i64 x66, .int .i64 x67] ∧ 
       (Fn Tryz.prog 56 #[.pointer x20, .slice x64.a x64.n x64.c, .agg ⟨[.bool x65, .int .i64 x66, .int .i64 x67]⟩] h60 
       (fun v68 h70 => ∃ x69 : Sl, v68 = .slice x69.a x69.n x69.c ∧ 
       (Fn Tryz.prog 83 #[.slice x69.a x69.n x69.c, .pointer (some ⟨h22.size, 0, none⟩), .pointer (some ⟨h.size, 0, none⟩)] h70 
       (fun v71 h73 => ∃ x72 : Int, v71 = .int .i64 x72 ∧ 
       (∃ x74 : Sl, hc h73 ⟨h22.size, 2, none⟩ = some (.slice x74.a x74.n x74.c) ∧ 
       (∃ x75 : Bool, hc h73 ⟨h53.size, 0, none⟩ = some (.bool x75) ∧ 
       (∃ x76 : Int, hc h73 ⟨h53.size, 1, none⟩ = some (.int .i64 x76) ∧ 
       (∃ x77 : Int, hc h73 ⟨h53.size, 2, none⟩ = some (.int .i64 x77) ∧ 
       (∀ h78 : Heap, h78 = h73.push (.cells ⟨[.int .i64 i_39, .bool x75, .int .i64 x76, .int .i64 x77, .int .i64 x72, .bool false]⟩ 45) → 
       (App Tryz.prog 31 31 (.slice x74.a x74.n x74.c) (.slice (some ⟨h73.size, 0, none⟩) 1 1) h78 fun s79 h80 => 
       (okAt h80 ⟨h22.size, 2, none⟩ 1 ∧ ∀ h81 : Heap, h81 = hputs h80 ⟨h22.size, 2, none⟩ 0 [.slice s79.a s79.n s79.c] → 
       (∃ m82, m82 < m51 ∧ I49 (IntKind.wrap .i64 (x_52 + 1)) h81 m82))))))))))))))))))))))) 
       ((∃ x83 : Sl, hc h53 ⟨h22.size, 0, none⟩ = some (.slice x83.a x83.n x83.c) ∧ 
       (sB (decide ((x83.n : Int) > 200)) 
        ((okAt h53 ⟨h9.size, 0, none⟩ 3 ∧ ∀ h84 : Heap, h84 = hputs h53 ⟨h9.size, 0, none⟩ 0 [.slice none 0 0, .slice none 0 0, .slice none 0 0] → 
        (∃ x85 : Sl, ∃ x86 : Sl, ∃ x87 : Sl, atC h84 ⟨h9.size, 0, none⟩ [.slice x85.a x85.n x85.c, .slice x86.a x86.n x86.c, .slice x87.a x87.n x87.c] ∧ 
        R (.tuple ⟨[.agg ⟨[.slice x85.a x85.n x85.c, .slice x86.a x86.n x86.c, .slice x87.a x87.n x87.c]⟩, .int .i64 6]⟩) h84))) 
        ((∃ m88, m88 < m38 ∧ I36 (IntKind.wrap .i64 (i_39 + 1)) h53 m88))))))))))))))) 
     ((∃ x89 : Sl, ∃ x90 : Sl, ∃ x91 : Sl, atC h40 ⟨h22.size, 0, none⟩ [.slice x89.a x89.n x89.c, .slice x90.a x90.n x90.c, .slice x91.a x91.n x91.c] ∧ 
     (okAt h40 ⟨h9.size, 0, none⟩ 3 ∧ ∀ h92 : Heap, h92 = hputs h40 ⟨h9.size, 0, none⟩ 0 [.slice x89.a x89.n x89.c, .slice x90.a x90.n x90.c, .slice x91.a x91.n x91.c] → 
     (∃ x93 : Sl, ∃ x94 : Sl, ∃ x95 : Sl, atC h92 ⟨h9.size, 0, none⟩ [.slice x93.a x93.n x93.c, .slice x94.a x94.n x94.c, .slice x95.a x95.n x95.c] ∧ 
     R (.tuple ⟨[.agg ⟨[.slice x93.a x93.n x93.c, .slice x94.a x94.n x94.c, .slice x95.a x95.n x95.c]⟩, .int .i64 0]⟩) h92))))))))))))))))))))))
theorem vc39e (p0_1 : ByteArray) (p0_2 : Sl) (p0_3 : Sl) (p0_4 : Int) (p0_5 : Int) (p0_6 : Int) (p0_7 : Sl) (p0_8 : Sl) (p1 : Int) (h : Heap) (R : Value → Heap → Prop) : W39 p0_1 p0_2 p0_3 p0_4 p0_5 p0_6 p0_7 p0_8 p1 h R = fnW Tryz.prog 39 (.s .z (.s .z (.s .z (.s .z (.s .z (.s .z (.s (.s .z (.b (.l [(10, .one (.int .i64))] (.s .z (.s (.b (.s (.s .z (.b (.l [(47, .one (.int .i64))] .z))) .z)) .z))))) .z))))))) #[.agg ⟨[.string p0_1, .slice p0_2.a p0_2.n p0_2.c, .slice p0_3.a p0_3.n p0_3.c, .int .i64 p0_4, .int .i64 p0_5, .int .i64 p0_6, .slice p0_7.a p0_7.n p0_7.c, .slice p0_8.a p0_8.n p0_8.c]⟩, .int .i64 p1] h R := by kernel_rfl
theorem vc39 (p0_1 : ByteArray) (p0_2 : Sl) (p0_3 : Sl) (p0_4 : Int) (p0_5 : Int) (p0_6 : Int) (p0_7 : Sl) (p0_8 : Sl) (p1 : Int) (h : Heap) (R : Value → Heap → Prop) (H : W39 p0_1 p0_2 p0_3 p0_4 p0_5 p0_6 p0_7 p0_8 p1 h R) : Fn Tryz.prog 39 #[.agg ⟨[.string p0_1, .slice p0_2.a p0_2.n p0_2.c, .slice p0_3.a p0_3.n p0_3.c, .int .i64 p0_4, .int .i64 p0_5, .int .i64 p0_6, .slice p0_7.a p0_7.n p0_7.c, .slice p0_8.a p0_8.n p0_8.c]⟩, .int .i64 p1] h R := fnI (vc39e p0_1 p0_2 p0_3 p0_4 p0_5 p0_6 p0_7 p0_8 p1 h R) H

/- cmp.Or[int]
   loop rrlrb: x_4:Int -/
def W109 (p0 : Sl) (h : Heap) (R : Value → Heap → Prop) : Prop :=
  (∃ I1 : Int → Heap → Nat → Prop, (∃ m2, I1 0 h m2) ∧ 
  (∀ (_ : Env) (x_4 : Int) (h5 : Heap) (m3 : Nat), I1 x_4 h5 m3 → 
  (sB (decide (x_4 < (p0.n : Int))) 
    ((NB p0.a fun b6 o7 => ((0 ≤ (x_4 : Int) ∧ (x_4 : Int) < (p0.n : Nat)) ∧ 
    (∃ x8 : Int, hc h5 ⟨b6, o7 + Int.toNat x_4 * 1, none⟩ = some (.int .i64 x8) ∧ 
    (sB (x8 != 0) 
     (R (.int .i64 x8) h5) 
     ((∃ m9, m9 < m3 ∧ I1 (IntKind.wrap .i64 (x_4 + 1)) h5 m9))))))) 
    (R (.int .i64 0) h5))))
theorem vc109e (p0 : Sl) (h : Heap) (R : Value → Heap → Prop) : W109 p0 h R = fnW Tryz.prog 109 (.s .z (.s .z (.s (.s .z (.b (.l [(8, .one (.int .i64))] .z))) .z))) #[.slice p0.a p0.n p0.c] h R := by kernel_rfl
theorem vc109 (p0 : Sl) (h : Heap) (R : Value → Heap → Prop) (H : W109 p0 h R) : Fn Tryz.prog 109 #[.slice p0.a p0.n p0.c] h R := fnI (vc109e p0 h R) H

/- cmp.Compare[int] -/
def W110 (p0 : Int) (p1 : Int) (h : Heap) (R : Value → Heap → Prop) : Prop :=
  (Fn Tryz.prog 151 #[.int .i64 p0] h 
  (fun v1 h3 => ∃ x2 : Bool, v1 = .bool x2 ∧ 
  (Fn Tryz.prog 151 #[.int .i64 p1] h3 
  (fun v4 h6 => ∃ x5 : Bool, v4 = .bool x5 ∧ 
  (sB x2 
   ((sB x5 
    (R (.int .i64 0) h6) 
    (R (.int .i64 (-1)) h6))) 
   ((sB x5 
    (R (.int .i64 1) h6) 
    ((sB (decide (p0 < p1)) 
     (R (.int .i64 (-1)) h6) 
     ((sB (decide (p0 > p1)) 
      (R (.int .i64 1) h6) 
      (R (.int .i64 0) h6))))))))))))
theorem vc110e (p0 : Int) (p1 : Int) (h : Heap) (R : Value → Heap → Prop) : W110 p0 p1 h R = fnW Tryz.prog 110 .z #[.int .i64 p0, .int .i64 p1] h R := by kernel_rfl
theorem vc110 (p0 : Int) (p1 : Int) (h : Heap) (R : Value → Heap → Prop) (H : W110 p0 p1 h R) : Fn Tryz.prog 110 #[.int .i64 p0, .int .i64 p1] h R := fnI (vc110e p0 p1 h R) H

/- cmp.isNaN[int] -/
def W151 (p0 : Int) (h : Heap) (R : Value → Heap → Prop) : Prop :=
  R (.bool (p0 != p0)) h
theorem vc151e (p0 : Int) (h : Heap) (R : Value → Heap → Prop) : W151 p0 h R = fnW Tryz.prog 151 .z #[.int .i64 p0] h R := by kernel_rfl
theorem vc151 (p0 : Int) (h : Heap) (R : Value → Heap → Prop) (H : W151 p0 h R) : Fn Tryz.prog 151 #[.int .i64 p0] h R := fnI (vc151e p0 h R) H

end Go.VC
end

section
namespace Go.VC
open Go.Proofs
set_option maxRecDepth 100000
set_option linter.unusedVariables false

/- farandole/lex.IsName
   loop rrlrb: x_7:Int -/
def W189 (p0 : ByteArray) (h : Heap) (R : Value → Heap → Prop) : Prop :=
  (sB ((ByteArray.toList p0) == (ByteArray.toList ⟨#[]⟩)) 
   (R (.bool false) h) 
   ((sB (decide ((ByteArray.size p0 : Int) > 16)) 
    (R (.bool false) h) 
    (((0 ≤ (0 : Int) ∧ (0 : Int) < (ByteArray.size p0 : Nat)) ∧ 
    (Fn Tryz.prog 221 #[.int .u8 (byteAt p0 (Int.toNat 0) : Int)] h 
    (fun v1 h3 => ∃ x2 : Bool, v1 = .bool x2 ∧ 
    (sB (!x2) 
     (R (.bool false) h3) 
     ((∃ I4 : Int → Heap → Nat → Prop, (∃ m5, I4 0 h3 m5) ∧ 
     (∀ (_ : Env) (x_7 : Int) (h8 : Heap) (m6 : Nat), I4 x_7 h8 m6 → 
     (sB (decide (x_7 < (ByteArray.size p0 : Int))) 
       (((0 ≤ (x_7 : Int) ∧ (x_7 : Int) < (ByteArray.size p0 : Nat)) ∧ 
       (Fn Tryz.prog 222 #[.int .u8 (byteAt p0 (Int.toNat x_7) : Int)] h8 
       (fun v9 h11 => ∃ x10 : Bool, v9 = .bool x10 ∧ 
       (sB (!x10) 
        (R (.bool false) h11) 
        ((∃ m12, m12 < m6 ∧ I4 (IntKind.wrap .i64 (x_7 + 1)) h11 m12))))))) 
       (R (.bool true) h8)))))))))))))
theorem vc189e (p0 : ByteArray) (h : Heap) (R : Value → Heap → Prop) : W189 p0 h R = fnW Tryz.prog 189 (.s .z (.s .z (.s (.s .z (.b (.l [(19, .one (.int .i64))] .z))) .z))) #[.string p0] h R := by kernel_rfl
theorem vc189 (p0 : ByteArray) (h : Heap) (R : Value → Heap → Prop) (H : W189 p0 h R) : Fn Tryz.prog 189 #[.string p0] h R := fnI (vc189e p0 h R) H

/- farandole/lex.IsWord -/
def W132 (p0 : ByteArray) (h : Heap) (R : Value → Heap → Prop) : Prop :=
  (∀ h1 : Heap, h1 = h.push (.cells ⟨[.string ⟨#[]⟩, .string ⟨#[]⟩, .string ⟨#[]⟩, .string ⟨#[]⟩, .string ⟨#[]⟩, .string ⟨#[]⟩, .string ⟨#[]⟩, .string ⟨#[]⟩, .string ⟨#[]⟩, .string ⟨#[]⟩, .string ⟨#[]⟩, .string ⟨#[]⟩, .string ⟨#[]⟩, .string ⟨#[]⟩, .string ⟨#[]⟩, .string ⟨#[]⟩, .string ⟨#[]⟩, .string ⟨#[]⟩, .string ⟨#[]⟩, .string ⟨#[]⟩, .string ⟨#[]⟩, .string ⟨#[]⟩, .string ⟨#[]⟩, .string ⟨#[]⟩, .string ⟨#[]⟩, .string ⟨#[]⟩, .string ⟨#[]⟩, .string ⟨#[]⟩]⟩ 300) → 
  (okAt h1 ⟨h.size, 0, none⟩ 28 ∧ ∀ h2 : Heap, h2 = hputs h1 ⟨h.size, 0, none⟩ 0 [.string ⟨#[97, 103, 97, 105, 110]⟩, .string ⟨#[97, 110, 100]⟩, .string ⟨#[97, 115]⟩, .string ⟨#[97, 116]⟩, .string ⟨#[99, 97, 108, 108]⟩, .string ⟨#[99, 104, 111, 105, 99, 101]⟩, .string ⟨#[101, 108, 115, 101]⟩, .string ⟨#[102, 114, 111, 109]⟩, .string ⟨#[105, 102]⟩, .string ⟨#[105, 110, 116]⟩, .string ⟨#[108, 101, 110]⟩, .string ⟨#[108, 111, 111, 112]⟩, .string ⟨#[109, 101, 115, 115, 97, 103, 101]⟩, .string ⟨#[111, 102]⟩, .string ⟨#[111, 102, 102, 101, 114]⟩, .string ⟨#[111, 110]⟩, .string ⟨#[111, 114]⟩, .string ⟨#[112, 97, 114]⟩, .string ⟨#[112, 108, 97, 121, 115]⟩, .string ⟨#[112, 114, 111, 116, 111, 99, 111, 108]⟩, .string ⟨#[115, 101, 114, 118, 105, 99, 101]⟩, .string ⟨#[116, 101, 120, 116]⟩, .string ⟨#[116, 105, 109, 101, 115]⟩, .string ⟨#[116, 111]⟩, .string ⟨#[118, 97, 114]⟩, .string ⟨#[119, 104, 101, 114, 101]⟩, .string ⟨#[119, 104, 105, 108, 101]⟩, .string ⟨#[119, 105, 116, 104, 105, 110]⟩] → 
  (Fn Tryz.prog 189 #[.string p0] h2 
  (fun v3 h5 => ∃ x4 : Bool, v3 = .bool x4 ∧ 
  (sB x4 
   ((((0 : Int) ≤ (0 : Int) ∧ (0 : Int) ≤ ((28 : Nat) : Int) ∧ ((28 : Nat) : Int) ≤ (28 : Nat)) ∧ 
   (Fn Tryz.prog 133 #[.slice (subA (some ⟨h.size, 0, none⟩) (Int.toNat 0) 28 1) (Int.toNat (28 : Nat) - Int.toNat 0) (28 - Int.toNat 0), .string p0] h5 
   (fun v6 h8 => ∃ x7 : Bool, v6 = .bool x7 ∧ 
   R (.bool (!x7)) h8)))) 
   (R (.bool false) h5))))))
theorem vc132e (p0 : ByteArray) (h : Heap) (R : Value → Heap → Prop) : W132 p0 h R = fnW Tryz.prog 132 .z #[.string p0] h R := by kernel_rfl
theorem vc132 (p0 : ByteArray) (h : Heap) (R : Value → Heap → Prop) (H : W132 p0 h R) : Fn Tryz.prog 132 #[.string p0] h R := fnI (vc132e p0 h R) H

/- farandole/lex.letter -/
def W221 (p0 : Int) (h : Heap) (R : Value → Heap → Prop) : Prop :=
  (sB (decide ((97 : Int) ≤ p0)) 
   ((sB (decide (p0 ≤ 122)) 
    (R (.bool true) h) 
    ((sB (decide ((65 : Int) ≤ p0)) 
     (R (.bool (decide (p0 ≤ 90))) h) 
     (R (.bool false) h))))) 
   ((sB (decide ((65 : Int) ≤ p0)) 
    (R (.bool (decide (p0 ≤ 90))) h) 
    (R (.bool false) h))))
theorem vc221e (p0 : Int) (h : Heap) (R : Value → Heap → Prop) : W221 p0 h R = fnW Tryz.prog 221 .z #[.int .u8 p0] h R := by kernel_rfl
theorem vc221 (p0 : Int) (h : Heap) (R : Value → Heap → Prop) (H : W221 p0 h R) : Fn Tryz.prog 221 #[.int .u8 p0] h R := fnI (vc221e p0 h R) H

/- farandole/lex.inner -/
def W222 (p0 : Int) (h : Heap) (R : Value → Heap → Prop) : Prop :=
  (Fn Tryz.prog 221 #[.int .u8 p0] h 
  (fun v1 h3 => ∃ x2 : Bool, v1 = .bool x2 ∧ 
  (sB x2 
   (R (.bool true) h3) 
   ((Fn Tryz.prog 253 #[.int .u8 p0] h3 
   (fun v4 h6 => ∃ x5 : Bool, v4 = .bool x5 ∧ 
   (sB x5 
    (R (.bool true) h6) 
    (R (.bool (p0 == 95)) h6))))))))
theorem vc222e (p0 : Int) (h : Heap) (R : Value → Heap → Prop) : W222 p0 h R = fnW Tryz.prog 222 .z #[.int .u8 p0] h R := by kernel_rfl
theorem vc222 (p0 : Int) (h : Heap) (R : Value → Heap → Prop) (H : W222 p0 h R) : Fn Tryz.prog 222 #[.int .u8 p0] h R := fnI (vc222e p0 h R) H

/- farandole/lex.digit -/
def W253 (p0 : Int) (h : Heap) (R : Value → Heap → Prop) : Prop :=
  (sB (decide ((48 : Int) ≤ p0)) 
   (R (.bool (decide (p0 ≤ 57))) h) 
   (R (.bool false) h))
theorem vc253e (p0 : Int) (h : Heap) (R : Value → Heap → Prop) : W253 p0 h R = fnW Tryz.prog 253 .z #[.int .u8 p0] h R := by kernel_rfl
theorem vc253 (p0 : Int) (h : Heap) (R : Value → Heap → Prop) (H : W253 p0 h R) : Fn Tryz.prog 253 #[.int .u8 p0] h R := fnI (vc253e p0 h R) H

/- slices.Index[[]string,string]
   loop rlrb: x_4:Int -/
def W190 (p0 : Sl) (p1 : ByteArray) (h : Heap) (R : Value → Heap → Prop) : Prop :=
  (∃ I1 : Int → Heap → Nat → Prop, (∃ m2, I1 0 h m2) ∧ 
  (∀ (_ : Env) (x_4 : Int) (h5 : Heap) (m3 : Nat), I1 x_4 h5 m3 → 
  (sB (decide (x_4 < (p0.n : Int))) 
    ((NB p0.a fun b6 o7 => ((0 ≤ (x_4 : Int) ∧ (x_4 : Int) < (p0.n : Nat)) ∧ 
    (∃ x8 : ByteArray, hc h5 ⟨b6, o7 + Int.toNat x_4 * 1, none⟩ = some (.string x8) ∧ 
    (sB ((ByteArray.toList p1) == (ByteArray.toList x8)) 
     (R (.int .i64 x_4) h5) 
     ((∃ m9, m9 < m3 ∧ I1 (IntKind.wrap .i64 (x_4 + 1)) h5 m9))))))) 
    (R (.int .i64 (-1)) h5))))
theorem vc190e (p0 : Sl) (p1 : ByteArray) (h : Heap) (R : Value → Heap → Prop) : W190 p0 p1 h R = fnW Tryz.prog 190 (.s .z (.s (.s .z (.b (.l [(8, .one (.int .i64))] .z))) .z)) #[.slice p0.a p0.n p0.c, .string p1] h R := by kernel_rfl
theorem vc190 (p0 : Sl) (p1 : ByteArray) (h : Heap) (R : Value → Heap → Prop) (H : W190 p0 p1 h R) : Fn Tryz.prog 190 #[.slice p0.a p0.n p0.c, .string p1] h R := fnI (vc190e p0 p1 h R) H

/- slices.Contains[[]string,string] -/
def W133 (p0 : Sl) (p1 : ByteArray) (h : Heap) (R : Value → Heap → Prop) : Prop :=
  (Fn Tryz.prog 190 #[.slice p0.a p0.n p0.c, .string p1] h 
  (fun v1 h3 => ∃ x2 : Int, v1 = .int .i64 x2 ∧ 
  R (.bool (decide (x2 ≥ 0))) h3))
theorem vc133e (p0 : Sl) (p1 : ByteArray) (h : Heap) (R : Value → Heap → Prop) : W133 p0 p1 h R = fnW Tryz.prog 133 .z #[.slice p0.a p0.n p0.c, .string p1] h R := by kernel_rfl
theorem vc133 (p0 : Sl) (p1 : ByteArray) (h : Heap) (R : Value → Heap → Prop) (H : W133 p0 p1 h R) : Fn Tryz.prog 133 #[.slice p0.a p0.n p0.c, .string p1] h R := fnI (vc133e p0 p1 h R) H

/- slices.IndexFunc[[]string,string]
   loop rlrb: x_4:Int -/
def W281 (p0 : Sl) (p1 : FuncId) (h : Heap) (R : Value → Heap → Prop) : Prop :=
  (∃ I1 : Int → Heap → Nat → Prop, (∃ m2, I1 0 h m2) ∧ 
  (∀ (_ : Env) (x_4 : Int) (h5 : Heap) (m3 : Nat), I1 x_4 h5 m3 → 
  (sB (decide (x_4 < (p0.n : Int))) 
    ((NB p0.a fun b6 o7 => ((0 ≤ (x_4 : Int) ∧ (x_4 : Int) < (p0.n : Nat)) ∧ 
    (∃ x8 : ByteArray, hc h5 ⟨b6, o7 + Int.toNat x_4 * 1, none⟩ = some (.string x8) ∧ 
    (bif callable Tryz.prog p1 then Fn Tryz.prog p1 #[.string x8] h5 
    (fun v9 h11 => ∃ x10 : Bool, v9 = .bool x10 ∧ 
    (sB x10 
     (R (.int .i64 x_4) h11) 
     ((∃ m12, m12 < m3 ∧ I1 (IntKind.wrap .i64 (x_4 + 1)) h11 m12)))) else ExtW Tryz.prog p1 #[.string x8] h5 
    (fun v9 h11 => ∃ x10 : Bool, v9 = .bool x10 ∧ 
    (sB x10 
     (R (.int .i64 x_4) h11) 
     ((∃ m12, m12 < m3 ∧ I1 (IntKind.wrap .i64 (x_4 + 1)) h11 m12))))))))) 
    (R (.int .i64 (-1)) h5))))
theorem vc281e (p0 : Sl) (p1 : FuncId) (h : Heap) (R : Value → Heap → Prop) : W281 p0 p1 h R = fnW Tryz.prog 281 (.s .z (.s (.s .z (.b (.l [(8, .one (.int .i64))] .z))) .z)) #[.slice p0.a p0.n p0.c, .func (.func p1) #[] #[]] h R := by kernel_rfl
theorem vc281 (p0 : Sl) (p1 : FuncId) (h : Heap) (R : Value → Heap → Prop) (H : W281 p0 p1 h R) : Fn Tryz.prog 281 #[.slice p0.a p0.n p0.c, .func (.func p1) #[] #[]] h R := fnI (vc281e p0 p1 h R) H

/- slices.ContainsFunc[[]string,string] -/
def W254 (p0 : Sl) (p1 : Value) (h : Heap) (R : Value → Heap → Prop) : Prop :=
  (Fn Tryz.prog 281 #[.slice p0.a p0.n p0.c, p1] h 
  (fun v1 h3 => ∃ x2 : Int, v1 = .int .i64 x2 ∧ 
  R (.bool (decide (x2 ≥ 0))) h3))
theorem vc254e (p0 : Sl) (p1 : Value) (h : Heap) (R : Value → Heap → Prop) : W254 p0 p1 h R = fnW Tryz.prog 254 .z #[.slice p0.a p0.n p0.c, p1] h R := by kernel_rfl
theorem vc254 (p0 : Sl) (p1 : Value) (h : Heap) (R : Value → Heap → Prop) (H : W254 p0 p1 h R) : Fn Tryz.prog 254 #[.slice p0.a p0.n p0.c, p1] h R := fnI (vc254e p0 p1 h R) H

/- farandole/syntax.IsPath$1 -/
def W256 (p0 : ByteArray) (h : Heap) (R : Value → Heap → Prop) : Prop :=
  (Fn Tryz.prog 132 #[.string p0] h 
  (fun v1 h3 => ∃ x2 : Bool, v1 = .bool x2 ∧ 
  R (.bool (!x2)) h3))
theorem vc256e (p0 : ByteArray) (h : Heap) (R : Value → Heap → Prop) : W256 p0 h R = fnW Tryz.prog 256 .z #[.string p0] h R := by kernel_rfl
theorem vc256 (p0 : ByteArray) (h : Heap) (R : Value → Heap → Prop) (H : W256 p0 h R) : Fn Tryz.prog 256 #[.string p0] h R := fnI (vc256e p0 h R) H

/- farandole/syntax.IsPath -/
def W224 (p0 : ByteArray) (h : Heap) (R : Value → Heap → Prop) : Prop :=
  (sB (decide ((ByteArray.size p0 : Int) ≤ 50)) 
   ((Fn Tryz.prog 255 #[.string p0, .string ⟨#[46]⟩] h 
   (fun v1 h3 => ∃ x2 : Sl, v1 = .slice x2.a x2.n x2.c ∧ 
   (Fn Tryz.prog 254 #[.slice x2.a x2.n x2.c, .func (.func 256) #[] #[]] h3 
   (fun v4 h6 => ∃ x5 : Bool, v4 = .bool x5 ∧ 
   R (.bool (!x5)) h6))))) 
   (R (.bool false) h))
theorem vc224e (p0 : ByteArray) (h : Heap) (R : Value → Heap → Prop) : W224 p0 h R = fnW Tryz.prog 224 .z #[.string p0] h R := by kernel_rfl
theorem vc224 (p0 : ByteArray) (h : Heap) (R : Value → Heap → Prop) (H : W224 p0 h R) : Fn Tryz.prog 224 #[.string p0] h R := fnI (vc224e p0 h R) H

/- farandole/guard.fields
   loop rrlrb: out_4:Sl, x_5:Int -/
def W223 (p0 : Sl) (h : Heap) (R : Value → Heap → Prop) : Prop :=
  (∃ I1 : Sl → Int → Heap → Nat → Prop, (∃ m2, I1 ⟨none, 0, 0⟩ 0 h m2) ∧ 
  (∀ (_ : Env) (out_4 : Sl) (x_5 : Int) (h6 : Heap) (m3 : Nat), I1 out_4 x_5 h6 m3 → 
  (sB (decide (x_5 < (p0.n : Int))) 
    ((NB p0.a fun b7 o8 => ((0 ≤ (x_5 : Int) ∧ (x_5 : Int) < (p0.n : Nat)) ∧ 
    (∃ x9 : ByteArray, ∃ x10 : Sl, ∃ x11 : Int, ∃ x12 : Sl, ∃ x13 : Sl, atC h6 ⟨b7, o8 + Int.toNat x_5 * 5, none⟩ [.string x9, .slice x10.a x10.n x10.c, .int .i64 x11, .slice x12.a x12.n x12.c, .slice x13.a x13.n x13.c] ∧ 
    (∀ h14 : Heap, h14 = h6.push (.cells ⟨[.string ⟨#[]⟩, .slice none 0 0, .int .i64 0, .slice none 0 0, .slice none 0 0]⟩ 136) → 
    (okAt h14 ⟨h6.size, 0, none⟩ 5 ∧ ∀ h15 : Heap, h15 = hputs h14 ⟨h6.size, 0, none⟩ 0 [.string x9, .slice x10.a x10.n x10.c, .int .i64 x11, .slice x12.a x12.n x12.c, .slice x13.a x13.n x13.c] → 
    (∃ x16 : Sl, hc h15 ⟨h6.size, 1, none⟩ = some (.slice x16.a x16.n x16.c) ∧ 
    (App Tryz.prog 130 130 (.slice out_4.a out_4.n out_4.c) (.slice x16.a x16.n x16.c) h15 fun s17 h18 => 
    (∃ m19, m19 < m3 ∧ I1 s17 (IntKind.wrap .i64 (x_5 + 1)) h18 m19))))))))) 
    (R (.slice out_4.a out_4.n out_4.c) h6))))
theorem vc223e (p0 : Sl) (h : Heap) (R : Value → Heap → Prop) : W223 p0 h R = fnW Tryz.prog 223 (.s .z (.s .z (.s (.s .z (.b (.l [(3, .one (.slice)), (8, .one (.int .i64))] .z))) .z))) #[.slice p0.a p0.n p0.c] h R := by kernel_rfl
theorem vc223 (p0 : Sl) (h : Heap) (R : Value → Heap → Prop) (H : W223 p0 h R) : Fn Tryz.prog 223 #[.slice p0.a p0.n p0.c] h R := fnI (vc223e p0 h R) H

/- farandole/guard.valid$1 -/
def W226 (p0_1 : ByteArray) (p0_2 : Sl) (p0_3 : Int) (p0_4 : Sl) (p0_5 : Sl) (c0 : Addr) (h : Heap) (R : Value → Heap → Prop) : Prop :=
  (∀ h6 : Heap, h6 = h.push (.cells ⟨[.string p0_1, .slice p0_2.a p0_2.n p0_2.c, .int .i64 p0_3, .slice p0_4.a p0_4.n p0_4.c, .slice p0_5.a p0_5.n p0_5.c]⟩ 136) → 
  (∃ x7 : ByteArray, hc h6 ⟨h.size, 0, none⟩ = some (.string x7) ∧ 
  (∃ x8 : ByteArray, hc h6 c0 = some (.string x8) ∧ 
  R (.bool ((ByteArray.toList x7) == (ByteArray.toList x8))) h6)))
theorem vc226e (p0_1 : ByteArray) (p0_2 : Sl) (p0_3 : Int) (p0_4 : Sl) (p0_5 : Sl) (c0 : Addr) (h : Heap) (R : Value → Heap → Prop) : W226 p0_1 p0_2 p0_3 p0_4 p0_5 c0 h R = fnW Tryz.prog 226 .z #[.agg ⟨[.string p0_1, .slice p0_2.a p0_2.n p0_2.c, .int .i64 p0_3, .slice p0_4.a p0_4.n p0_4.c, .slice p0_5.a p0_5.n p0_5.c]⟩, .pointer (some c0)] h R := by kernel_rfl
theorem vc226 (p0_1 : ByteArray) (p0_2 : Sl) (p0_3 : Int) (p0_4 : Sl) (p0_5 : Sl) (c0 : Addr) (h : Heap) (R : Value → Heap → Prop) (H : W226 p0_1 p0_2 p0_3 p0_4 p0_5 c0 h R) : Fn Tryz.prog 226 #[.agg ⟨[.string p0_1, .slice p0_2.a p0_2.n p0_2.c, .int .i64 p0_3, .slice p0_4.a p0_4.n p0_4.c, .slice p0_5.a p0_5.n p0_5.c]⟩, .pointer (some c0)] h R := fnI (vc226e p0_1 p0_2 p0_3 p0_4 p0_5 c0 h R) H

/- farandole/guard.valid$2 -/
def W229 (p0_1 : ByteArray) (p0_2 : Int) (p0_3 : Int) (p0_4 : Int) (c0 : Addr) (h : Heap) (R : Value → Heap → Prop) : Prop :=
  (∀ h5 : Heap, h5 = h.push (.cells ⟨[.string p0_1, .int .i64 p0_2, .int .i64 p0_3, .int .i64 p0_4]⟩ 184) → 
  (∃ x6 : ByteArray, hc h5 ⟨h.size, 0, none⟩ = some (.string x6) ∧ 
  (∃ x7 : ByteArray, hc h5 c0 = some (.string x7) ∧ 
  R (.bool ((ByteArray.toList x6) == (ByteArray.toList x7))) h5)))
theorem vc229e (p0_1 : ByteArray) (p0_2 : Int) (p0_3 : Int) (p0_4 : Int) (c0 : Addr) (h : Heap) (R : Value → Heap → Prop) : W229 p0_1 p0_2 p0_3 p0_4 c0 h R = fnW Tryz.prog 229 .z #[.agg ⟨[.string p0_1, .int .i64 p0_2, .int .i64 p0_3, .int .i64 p0_4]⟩, .pointer (some c0)] h R := by kernel_rfl
theorem vc229 (p0_1 : ByteArray) (p0_2 : Int) (p0_3 : Int) (p0_4 : Int) (c0 : Addr) (h : Heap) (R : Value → Heap → Prop) (H : W229 p0_1 p0_2 p0_3 p0_4 c0 h R) : Fn Tryz.prog 229 #[.agg ⟨[.string p0_1, .int .i64 p0_2, .int .i64 p0_3, .int .i64 p0_4]⟩, .pointer (some c0)] h R := fnI (vc229e p0_1 p0_2 p0_3 p0_4 c0 h R) H

/- farandole/guard.sorted -/
def W227 (p0_1 : Int) (p0_2 : Int) (p0_3 : Int) (h : Heap) (R : Value → Heap → Prop) : Prop :=
  (∀ h4 : Heap, h4 = h.push (.cells ⟨[.int .i64 p0_1, .int .i64 p0_2, .int .i64 p0_3]⟩ 182) → 
  (∃ x5 : Int, hc h4 ⟨h.size, 0, none⟩ = some (.int .i64 x5) ∧ 
  (sB (x5 == 1) 
   ((∃ x6 : Int, hc h4 ⟨h.size, 1, none⟩ = some (.int .i64 x6) ∧ 
   (sB (decide (x6 ≥ (-1000))) 
    ((∃ x7 : Int, hc h4 ⟨h.size, 1, none⟩ = some (.int .i64 x7) ∧ 
    (∃ x8 : Int, hc h4 ⟨h.size, 2, none⟩ = some (.int .i64 x8) ∧ 
    (sB (decide (x7 ≤ x8)) 
     ((∃ x9 : Int, hc h4 ⟨h.size, 2, none⟩ = some (.int .i64 x9) ∧ 
     R (.bool (decide (x9 ≤ 1000))) h4)) 
     (R (.bool false) h4))))) 
    (R (.bool false) h4)))) 
   ((sB (x5 == 2) 
    ((∃ x10 : Int, hc h4 ⟨h.size, 1, none⟩ = some (.int .i64 x10) ∧ 
    (sB (decide (x10 ≥ 0)) 
     ((∃ x11 : Int, hc h4 ⟨h.size, 1, none⟩ = some (.int .i64 x11) ∧ 
     (∃ x12 : Int, hc h4 ⟨h.size, 2, none⟩ = some (.int .i64 x12) ∧ 
     (sB (decide (x11 ≤ x12)) 
      ((∃ x13 : Int, hc h4 ⟨h.size, 2, none⟩ = some (.int .i64 x13) ∧ 
      R (.bool (decide (x13 ≤ 40))) h4)) 
      (R (.bool false) h4))))) 
     (R (.bool false) h4)))) 
    (R (.bool false) h4))))))
theorem vc227e (p0_1 : Int) (p0_2 : Int) (p0_3 : Int) (h : Heap) (R : Value → Heap → Prop) : W227 p0_1 p0_2 p0_3 h R = fnW Tryz.prog 227 .z #[.agg ⟨[.int .i64 p0_1, .int .i64 p0_2, .int .i64 p0_3]⟩] h R := by kernel_rfl
theorem vc227 (p0_1 : Int) (p0_2 : Int) (p0_3 : Int) (h : Heap) (R : Value → Heap → Prop) (H : W227 p0_1 p0_2 p0_3 h R) : Fn Tryz.prog 227 #[.agg ⟨[.int .i64 p0_1, .int .i64 p0_2, .int .i64 p0_3]⟩] h R := fnI (vc227e p0_1 p0_2 p0_3 h R) H

/- slices.IndexFunc[[]farandole/api.Decl,farandole/api.Decl]
   loop rlrb: x_4:Int -/
def W257 (p0 : Sl) (p1 : FuncId) (p1c : Option Addr) (h : Heap) (R : Value → Heap → Prop) : Prop :=
  (∃ I1 : Int → Heap → Nat → Prop, (∃ m2, I1 0 h m2) ∧ 
  (∀ (_ : Env) (x_4 : Int) (h5 : Heap) (m3 : Nat), I1 x_4 h5 m3 → 
  (sB (decide (x_4 < (p0.n : Int))) 
    ((NB p0.a fun b6 o7 => ((0 ≤ (x_4 : Int) ∧ (x_4 : Int) < (p0.n : Nat)) ∧ 
    (∃ x8 : ByteArray, ∃ x9 : Sl, ∃ x10 : Int, ∃ x11 : Sl, ∃ x12 : Sl, atC h5 ⟨b6, o7 + Int.toNat x_4 * 5, none⟩ [.string x8, .slice x9.a x9.n x9.c, .int .i64 x10, .slice x11.a x11.n x11.c, .slice x12.a x12.n x12.c] ∧ 
    (bif callable Tryz.prog p1 then Fn Tryz.prog p1 #[.agg ⟨[.string x8, .slice x9.a x9.n x9.c, .int .i64 x10, .slice x11.a x11.n x11.c, .slice x12.a x12.n x12.c]⟩, .pointer p1c] h5 
    (fun v13 h15 => ∃ x14 : Bool, v13 = .bool x14 ∧ 
    (sB x14 
     (R (.int .i64 x_4) h15) 
     ((∃ m16, m16 < m3 ∧ I1 (IntKind.wrap .i64 (x_4 + 1)) h15 m16)))) else ExtW Tryz.prog p1 #[.agg ⟨[.string x8, .slice x9.a x9.n x9.c, .int .i64 x10, .slice x11.a x11.n x11.c, .slice x12.a x12.n x12.c]⟩, .pointer p1c] h5 
    (fun v13 h15 => ∃ x14 : Bool, v13 = .bool x14 ∧ 
    (sB x14 
     (R (.int .i64 x_4) h15) 
     ((∃ m16, m16 < m3 ∧ I1 (IntKind.wrap .i64 (x_4 + 1)) h15 m16))))))))) 
    (R (.int .i64 (-1)) h5))))
theorem vc257e (p0 : Sl) (p1 : FuncId) (p1c : Option Addr) (h : Heap) (R : Value → Heap → Prop) : W257 p0 p1 p1c h R = fnW Tryz.prog 257 (.s .z (.s (.s .z (.b (.l [(8, .one (.int .i64))] .z))) .z)) #[.slice p0.a p0.n p0.c, .func (.func p1) #[] #[.pointer p1c]] h R := by kernel_rfl
theorem vc257 (p0 : Sl) (p1 : FuncId) (p1c : Option Addr) (h : Heap) (R : Value → Heap → Prop) (H : W257 p0 p1 p1c h R) : Fn Tryz.prog 257 #[.slice p0.a p0.n p0.c, .func (.func p1) #[] #[.pointer p1c]] h R := fnI (vc257e p0 p1 p1c h R) H

/- slices.IndexFunc[[]farandole/api.Field,farandole/api.Field]
   loop rlrb: x_4:Int -/
def W258 (p0 : Sl) (p1 : FuncId) (p1c : Option Addr) (h : Heap) (R : Value → Heap → Prop) : Prop :=
  (∃ I1 : Int → Heap → Nat → Prop, (∃ m2, I1 0 h m2) ∧ 
  (∀ (_ : Env) (x_4 : Int) (h5 : Heap) (m3 : Nat), I1 x_4 h5 m3 → 
  (sB (decide (x_4 < (p0.n : Int))) 
    ((NB p0.a fun b6 o7 => ((0 ≤ (x_4 : Int) ∧ (x_4 : Int) < (p0.n : Nat)) ∧ 
    (∃ x8 : ByteArray, ∃ x9 : Int, ∃ x10 : Int, ∃ x11 : Int, atC h5 ⟨b6, o7 + Int.toNat x_4 * 4, none⟩ [.string x8, .int .i64 x9, .int .i64 x10, .int .i64 x11] ∧ 
    (bif callable Tryz.prog p1 then Fn Tryz.prog p1 #[.agg ⟨[.string x8, .int .i64 x9, .int .i64 x10, .int .i64 x11]⟩, .pointer p1c] h5 
    (fun v12 h14 => ∃ x13 : Bool, v12 = .bool x13 ∧ 
    (sB x13 
     (R (.int .i64 x_4) h14) 
     ((∃ m15, m15 < m3 ∧ I1 (IntKind.wrap .i64 (x_4 + 1)) h14 m15)))) else ExtW Tryz.prog p1 #[.agg ⟨[.string x8, .int .i64 x9, .int .i64 x10, .int .i64 x11]⟩, .pointer p1c] h5 
    (fun v12 h14 => ∃ x13 : Bool, v12 = .bool x13 ∧ 
    (sB x13 
     (R (.int .i64 x_4) h14) 
     ((∃ m15, m15 < m3 ∧ I1 (IntKind.wrap .i64 (x_4 + 1)) h14 m15))))))))) 
    (R (.int .i64 (-1)) h5))))
theorem vc258e (p0 : Sl) (p1 : FuncId) (p1c : Option Addr) (h : Heap) (R : Value → Heap → Prop) : W258 p0 p1 p1c h R = fnW Tryz.prog 258 (.s .z (.s (.s .z (.b (.l [(8, .one (.int .i64))] .z))) .z)) #[.slice p0.a p0.n p0.c, .func (.func p1) #[] #[.pointer p1c]] h R := by kernel_rfl
theorem vc258 (p0 : Sl) (p1 : FuncId) (p1c : Option Addr) (h : Heap) (R : Value → Heap → Prop) (H : W258 p0 p1 p1c h R) : Fn Tryz.prog 258 #[.slice p0.a p0.n p0.c, .func (.func p1) #[] #[.pointer p1c]] h R := fnI (vc258e p0 p1 p1c h R) H

/- slices.ContainsFunc[[]farandole/api.Decl,farandole/api.Decl] -/
def W225 (p0 : Sl) (p1 : Value) (h : Heap) (R : Value → Heap → Prop) : Prop :=
  (Fn Tryz.prog 257 #[.slice p0.a p0.n p0.c, p1] h 
  (fun v1 h3 => ∃ x2 : Int, v1 = .int .i64 x2 ∧ 
  R (.bool (decide (x2 ≥ 0))) h3))
theorem vc225e (p0 : Sl) (p1 : Value) (h : Heap) (R : Value → Heap → Prop) : W225 p0 p1 h R = fnW Tryz.prog 225 .z #[.slice p0.a p0.n p0.c, p1] h R := by kernel_rfl
theorem vc225 (p0 : Sl) (p1 : Value) (h : Heap) (R : Value → Heap → Prop) (H : W225 p0 p1 h R) : Fn Tryz.prog 225 #[.slice p0.a p0.n p0.c, p1] h R := fnI (vc225e p0 p1 h R) H

/- slices.ContainsFunc[[]farandole/api.Field,farandole/api.Field] -/
def W228 (p0 : Sl) (p1 : Value) (h : Heap) (R : Value → Heap → Prop) : Prop :=
  (Fn Tryz.prog 258 #[.slice p0.a p0.n p0.c, p1] h 
  (fun v1 h3 => ∃ x2 : Int, v1 = .int .i64 x2 ∧ 
  R (.bool (decide (x2 ≥ 0))) h3))
theorem vc228e (p0 : Sl) (p1 : Value) (h : Heap) (R : Value → Heap → Prop) : W228 p0 p1 h R = fnW Tryz.prog 228 .z #[.slice p0.a p0.n p0.c, p1] h R := by kernel_rfl
theorem vc228 (p0 : Sl) (p1 : Value) (h : Heap) (R : Value → Heap → Prop) (H : W228 p0 p1 h R) : Fn Tryz.prog 228 #[.slice p0.a p0.n p0.c, p1] h R := fnI (vc228e p0 p1 h R) H

/- farandole/guard.guarded
   loop rrrlrborrlbrrb: x_43:Int
   loop rrrlrb: x_30:Int
   loop rrlrb: x_10:Int -/
def W230 (p0_1 : Sl) (p0_2 : Sl) (p1 : Sl) (h : Heap) (R : Value → Heap → Prop) : Prop :=
  (∀ h3 : Heap, h3 = h.push (.cells ⟨[.slice p0_1.a p0_1.n p0_1.c, .slice p0_2.a p0_2.n p0_2.c]⟩ 134) → 
  (∃ x4 : Sl, hc h3 ⟨h.size, 0, none⟩ = some (.slice x4.a x4.n x4.c) ∧ 
  (sB (decide ((x4.n : Int) > 20)) 
   (R (.bool false) h3) 
   ((∃ x5 : Sl, hc h3 ⟨h.size, 1, none⟩ = some (.slice x5.a x5.n x5.c) ∧ 
   (sB (decide ((x5.n : Int) > 20)) 
    (R (.bool false) h3) 
    ((∃ x6 : Sl, hc h3 ⟨h.size, 0, none⟩ = some (.slice x6.a x6.n x6.c) ∧ 
    (∃ I7 : Int → Heap → Nat → Prop, (∃ m8, I7 0 h3 m8) ∧ 
    (∀ (_ : Env) (x_10 : Int) (h11 : Heap) (m9 : Nat), I7 x_10 h11 m9 → 
    (sB (decide (x_10 < (x6.n : Int))) 
      ((NB x6.a fun b12 o13 => ((0 ≤ (x_10 : Int) ∧ (x_10 : Int) < (x6.n : Nat)) ∧ 
      (∃ x14 : Int, ∃ x15 : Int, ∃ x16 : Int, atC h11 ⟨b12, o13 + Int.toNat x_10 * 3, none⟩ [.int .i64 x14, .int .i64 x15, .int .i64 x16] ∧ 
      (∀ h17 : Heap, h17 = h11.push (.cells ⟨[.int .i64 0, .int .i64 0, .int .i64 0]⟩ 187) → 
      (okAt h17 ⟨h11.size, 0, none⟩ 3 ∧ ∀ h18 : Heap, h18 = hputs h17 ⟨h11.size, 0, none⟩ 0 [.int .i64 x14, .int .i64 x15, .int .i64 x16] → 
      (∃ x19 : Int, hc h18 ⟨h11.size, 0, none⟩ = some (.int .i64 x19) ∧ 
      (∃ x20 : Int, hc h18 ⟨h11.size, 1, none⟩ = some (.int .i64 x20) ∧ 
      (sB (decide ((imin x19 x20) < (-1))) 
       (R (.bool false) h18) 
       ((∃ x21 : Int, hc h18 ⟨h11.size, 0, none⟩ = some (.int .i64 x21) ∧ 
       (∃ x22 : Int, hc h18 ⟨h11.size, 1, none⟩ = some (.int .i64 x22) ∧ 
       (sB (decide ((imax x21 x22) ≥ (p1.n : Int))) 
        (R (.bool false) h18) 
        ((∃ x23 : Int, hc h18 ⟨h11.size, 2, none⟩ = some (.int .i64 x23) ∧ 
        (sB (decide (x23 < (-20000))) 
         (R (.bool false) h18) 
         ((∃ x24 : Int, hc h18 ⟨h11.size, 2, none⟩ = some (.int .i64 x24) ∧ 
         (sB (decide (x24 > 20000)) 
          (R (.bool false) h18) 
          ((∃ m25, m25 < m9 ∧ I7 (IntKind.wrap .i64 (x_10 + 1)) h18 m25))))))))))))))))))))) 
      ((∃ x26 : Sl, hc h11 ⟨h.size, 1, none⟩ = some (.slice x26.a x26.n x26.c) ∧ 
      (∃ I27 : Int → Heap → Nat → Prop, (∃ m28, I27 0 h11 m28) ∧ 
      (∀ (_ : Env) (x_30 : Int) (h31 : Heap) (m29 : Nat), I27 x_30 h31 m29 → 
      (sB (decide (x_30 < (x26.n : Int))) 
        ((NB x26.a fun b32 o33 => ((0 ≤ (x_30 : Int) ∧ (x_30 : Int) < (x26.n : Nat)) ∧ 
        (∃ x34 : Int, ∃ x35 : Int, atC h31 ⟨b32, o33 + Int.toNat x_30 * 2, none⟩ [.int .i64 x34, .int .i64 x35] ∧ 
        (∀ h36 : Heap, h36 = h31.push (.cells ⟨[.int .i64 0, .int .i64 0]⟩ 189) → 
        (okAt h36 ⟨h31.size, 0, none⟩ 2 ∧ ∀ h37 : Heap, h37 = hputs h36 ⟨h31.size, 0, none⟩ 0 [.int .i64 x34, .int .i64 x35] → 
        (∃ x38 : Int, ∃ x39 : Int, atC h37 ⟨h31.size, 0, none⟩ [.int .i64 x38, .int .i64 x39] ∧ 
        (∃ I40 : Int → Heap → Nat → Prop, (∃ m41, I40 0 h37 m41) ∧ 
        (∀ (_ : Env) (x_43 : Int) (h44 : Heap) (m42 : Nat), I40 x_43 h44 m42 → 
        (sB (decide (x_43 < 2)) 
          (((0 ≤ (x_43 : Int) ∧ (x_43 : Int) < (2 : Nat)) ∧ ∃ x45 : Int, List.take 1 (List.drop (Int.toNat x_43 * 1) ([.int .i64 x38, .int .i64 x39] : List Value)) = [.int .i64 x45] ∧ 
          (sB (decide (x45 < 0)) 
           (R (.bool false) h44) 
           ((sB (decide (x45 ≥ (p1.n : Int))) 
            (R (.bool false) h44) 
            ((NB p1.a fun b46 o47 => ((0 ≤ (x45 : Int) ∧ (x45 : Int) < (p1.n : Nat)) ∧ 
            (∃ x48 : Int, hc h44 ⟨b46, o47 + Int.toNat x45 * 4 + 1, none⟩ = some (.int .i64 x48) ∧ 
            (sB (x48 != 2) 
             (R (.bool false) h44) 
             ((∃ m49, m49 < m42 ∧ I40 (IntKind.wrap .i64 (x_43 + 1)) h44 m49)))))))))))) 
          ((∃ m50, m50 < m29 ∧ I27 (IntKind.wrap .i64 (x_30 + 1)) h44 m50)))))))))))) 
        (R (.bool true) h31)))))))))))))))))
theorem vc230e (p0_1 : Sl) (p0_2 : Sl) (p1 : Sl) (h : Heap) (R : Value → Heap → Prop) : W230 p0_1 p0_2 p1 h R = fnW Tryz.prog 230 (.s .z (.s .z (.s (.s .z (.b (.l [(24, .one (.int .i64))] .z))) (.s (.s .z (.b (.l [(58, .one (.int .i64))] (.s .z (.s .z (.s (.b (.s .z (.s .z (.b (.l [(63, .one (.int .i64))] .z))))) .z)))))) .z)))) #[.agg ⟨[.slice p0_1.a p0_1.n p0_1.c, .slice p0_2.a p0_2.n p0_2.c]⟩, .slice p1.a p1.n p1.c] h R := by kernel_rfl
theorem vc230 (p0_1 : Sl) (p0_2 : Sl) (p1 : Sl) (h : Heap) (R : Value → Heap → Prop) (H : W230 p0_1 p0_2 p1 h R) : Fn Tryz.prog 230 #[.agg ⟨[.slice p0_1.a p0_1.n p0_1.c, .slice p0_2.a p0_2.n p0_2.c]⟩, .slice p1.a p1.n p1.c] h R := fnI (vc230e p0_1 p0_2 p1 h R) H

/- farandole/guard.valid
   loop rrrrrlrborrlbrrrlrb: x_33:Int
   loop rrrrrlrb: at_7:Int, x_8:Int -/
def W191 (p0 : Sl) (h : Heap) (R : Value → Heap → Prop) : Prop :=
  (sB (decide ((p0.n : Int) > 40)) 
   (R (.bool false) h) 
   ((Fn Tryz.prog 223 #[.slice p0.a p0.n p0.c] h 
   (fun v1 h3 => ∃ x2 : Sl, v1 = .slice x2.a x2.n x2.c ∧ 
   (sB (decide ((x2.n : Int) > 24)) 
    (R (.bool false) h3) 
    ((∃ I4 : Int → Int → Heap → Nat → Prop, (∃ m5, I4 0 0 h3 m5) ∧ 
    (∀ (_ : Env) (at_7 : Int) (x_8 : Int) (h9 : Heap) (m6 : Nat), I4 at_7 x_8 h9 m6 → 
    (sB (decide (x_8 < (p0.n : Int))) 
      ((NB p0.a fun b10 o11 => ((0 ≤ (x_8 : Int) ∧ (x_8 : Int) < (p0.n : Nat)) ∧ 
      (∃ x12 : ByteArray, ∃ x13 : Sl, ∃ x14 : Int, ∃ x15 : Sl, ∃ x16 : Sl, atC h9 ⟨b10, o11 + Int.toNat x_8 * 5, none⟩ [.string x12, .slice x13.a x13.n x13.c, .int .i64 x14, .slice x15.a x15.n x15.c, .slice x16.a x16.n x16.c] ∧ 
      (∀ h17 : Heap, h17 = h9.push (.cells ⟨[.string ⟨#[]⟩, .slice none 0 0, .int .i64 0, .slice none 0 0, .slice none 0 0]⟩ 136) → 
      (okAt h17 ⟨h9.size, 0, none⟩ 5 ∧ ∀ h18 : Heap, h18 = hputs h17 ⟨h9.size, 0, none⟩ 0 [.string x12, .slice x13.a x13.n x13.c, .int .i64 x14, .slice x15.a x15.n x15.c, .slice x16.a x16.n x16.c] → 
      (∃ x19 : ByteArray, hc h18 ⟨h9.size, 0, none⟩ = some (.string x19) ∧ 
      (Fn Tryz.prog 224 #[.string x19] h18 
      (fun v20 h22 => ∃ x21 : Bool, v20 = .bool x21 ∧ 
      (sB (!x21) 
       (R (.bool false) h22) 
       ((∃ x23 : Sl, hc h22 ⟨h9.size, 1, none⟩ = some (.slice x23.a x23.n x23.c) ∧ 
       (sB (decide ((x23.n : Int) > 4)) 
        (R (.bool false) h22) 
        ((∃ x24 : Int, hc h22 ⟨h9.size, 2, none⟩ = some (.int .i64 x24) ∧ 
        (sB (x24 != at_7) 
         (R (.bool false) h22) 
         ((((0 : Int) ≤ (0 : Int) ∧ (0 : Int) ≤ (x_8 : Int) ∧ (x_8 : Int) ≤ (p0.c : Nat)) ∧ 
         (Fn Tryz.prog 225 #[.slice (subA p0.a (Int.toNat 0) p0.c 5) (Int.toNat x_8 - Int.toNat 0) (p0.c - Int.toNat 0), .func (.func 226) #[] #[.pointer (some ⟨h9.size, 0, none⟩)]] h22 
         (fun v25 h27 => ∃ x26 : Bool, v25 = .bool x26 ∧ 
         (sB x26 
          (R (.bool false) h27) 
          ((∃ x28 : Sl, hc h27 ⟨h9.size, 1, none⟩ = some (.slice x28.a x28.n x28.c) ∧ 
          (∃ x29 : Sl, hc h27 ⟨h9.size, 1, none⟩ = some (.slice x29.a x29.n x29.c) ∧ 
          (∃ I30 : Int → Heap → Nat → Prop, (∃ m31, I30 0 h27 m31) ∧ 
          (∀ (_ : Env) (x_33 : Int) (h34 : Heap) (m32 : Nat), I30 x_33 h34 m32 → 
          (sB (decide (x_33 < (x29.n : Int))) 
            ((NB x29.a fun b35 o36 => ((0 ≤ (x_33 : Int) ∧ (x_33 : Int) < (x29.n : Nat)) ∧ 
            (∃ x37 : ByteArray, ∃ x38 : Int, ∃ x39 : Int, ∃ x40 : Int, atC h34 ⟨b35, o36 + Int.toNat x_33 * 4, none⟩ [.string x37, .int .i64 x38, .int .i64 x39, .int .i64 x40] ∧ 
            (∀ h41 : Heap, h41 = h34.push (.cells ⟨[.string ⟨#[]⟩, .int .i64 0, .int .i64 0, .int .i64 0]⟩ 184) → 
            (okAt h41 ⟨h34.size, 0, none⟩ 4 ∧ ∀ h42 : Heap, h42 = hputs h41 ⟨h34.size, 0, none⟩ 0 [.string x37, .int .i64 x38, .int .i64 x39, .int .i64 x40] → 
            (∃ x43 : ByteArray, hc h42 ⟨h34.size, 0, none⟩ = some (.string x43) ∧ 
            (Fn Tryz.prog 132 #[.string x43] h42 
            (fun v44 h46 => ∃ x45 : Bool, v44 = .bool x45 ∧ 
            (sB (!x45) 
             (R (.bool false) h46) 
             ((∃ x47 : Int, ∃ x48 : Int, ∃ x49 : Int, atC h46 ⟨h34.size, 1, none⟩ [.int .i64 x47, .int .i64 x48, .int .i64 x49] ∧ 
             (Fn Tryz.prog 227 #[.agg ⟨[.int .i64 x47, .int .i64 x48, .int .i64 x49]⟩] h46 
             (fun v50 h52 => ∃ x51 : Bool, v50 = .bool x51 ∧ 
             (sB (!x51) 
              (R (.bool false) h52) 
              ((∃ x53 : Sl, hc h52 ⟨h9.size, 1, none⟩ = some (.slice x53.a x53.n x53.c) ∧ 
              (((0 : Int) ≤ (0 : Int) ∧ (0 : Int) ≤ (x_33 : Int) ∧ (x_33 : Int) ≤ (x53.c : Nat)) ∧ 
              (Fn Tryz.prog 228 #[.slice (subA x53.a (Int.toNat 0) x53.c 4) (Int.toNat x_33 - Int.toNat 0) (x53.c - Int.toNat 0), .func (.func 229) #[] #[.pointer (some ⟨h34.size, 0, none⟩)]] h52 
              (fun v54 h56 => ∃ x55 : Bool, v54 = .bool x55 ∧ 
              (sB x55 
               (R (.bool false) h56) 
               ((∃ m57, m57 < m32 ∧ I30 (IntKind.wrap .i64 (x_33 + 1)) h56 m57))))))))))))))))))))))) 
            ((∃ x58 : Sl, ∃ x59 : Sl, atC h34 ⟨h9.size, 3, none⟩ [.slice x58.a x58.n x58.c, .slice x59.a x59.n x59.c] ∧ 
            (Fn Tryz.prog 230 #[.agg ⟨[.slice x58.a x58.n x58.c, .slice x59.a x59.n x59.c]⟩, .slice x2.a x2.n x2.c] h34 
            (fun v60 h62 => ∃ x61 : Bool, v60 = .bool x61 ∧ 
            (sB (!x61) 
             (R (.bool false) h62) 
             ((∃ m63, m63 < m6 ∧ I4 (IntKind.wrap .i64 (at_7 + (x28.n : Int))) (IntKind.wrap .i64 (x_8 + 1)) h62 m63)))))))))))))))))))))))))))))))))) 
      (R (.bool true) h9))))))))))
theorem vc191e (p0 : Sl) (h : Heap) (R : Value → Heap → Prop) : W191 p0 h R = fnW Tryz.prog 191 (.s .z (.s .z (.s .z (.s .z (.s .z (.s (.s .z (.b (.l [(4, .one (.int .i64)), (19, .one (.int .i64))] (.s .z (.s .z (.s (.b (.s .z (.s .z (.s .z (.s (.s .z (.b (.l [(55, .one (.int .i64))] .z))) .z))))) .z)))))) .z)))))) #[.slice p0.a p0.n p0.c] h R := by kernel_rfl
theorem vc191 (p0 : Sl) (h : Heap) (R : Value → Heap → Prop) (H : W191 p0 h R) : Fn Tryz.prog 191 #[.slice p0.a p0.n p0.c] h R := fnI (vc191e p0 h R) H

/- farandole/guard.bounds
   loop rrrrlrb: out_37:Sl, x_38:Int
   loop rrlrb: out_11:Sl, x_12:Int -/
def W192 (p0_1 : ByteArray) (p0_2 : Sl) (p0_3 : Int) (p0_4 : Sl) (p0_5 : Sl) (h : Heap) (R : Value → Heap → Prop) : Prop :=
  (∀ h6 : Heap, h6 = h.push (.cells ⟨[.string p0_1, .slice p0_2.a p0_2.n p0_2.c, .int .i64 p0_3, .slice p0_4.a p0_4.n p0_4.c, .slice p0_5.a p0_5.n p0_5.c]⟩ 136) → 
  (∃ x7 : Sl, hc h6 ⟨h.size, 1, none⟩ = some (.slice x7.a x7.n x7.c) ∧ 
  (∃ I8 : Sl → Int → Heap → Nat → Prop, (∃ m9, I8 ⟨none, 0, 0⟩ 0 h6 m9) ∧ 
  (∀ (_ : Env) (out_11 : Sl) (x_12 : Int) (h13 : Heap) (m10 : Nat), I8 out_11 x_12 h13 m10 → 
  (sB (decide (x_12 < (x7.n : Int))) 
    ((NB x7.a fun b14 o15 => ((0 ≤ (x_12 : Int) ∧ (x_12 : Int) < (x7.n : Nat)) ∧ 
    (∃ x16 : ByteArray, ∃ x17 : Int, ∃ x18 : Int, ∃ x19 : Int, atC h13 ⟨b14, o15 + Int.toNat x_12 * 4, none⟩ [.string x16, .int .i64 x17, .int .i64 x18, .int .i64 x19] ∧ 
    (∀ h20 : Heap, h20 = h13.push (.cells ⟨[.string ⟨#[]⟩, .int .i64 0, .int .i64 0, .int .i64 0]⟩ 184) → 
    (okAt h20 ⟨h13.size, 0, none⟩ 4 ∧ ∀ h21 : Heap, h21 = hputs h20 ⟨h13.size, 0, none⟩ 0 [.string x16, .int .i64 x17, .int .i64 x18, .int .i64 x19] → 
    (∃ x22 : Int, hc h21 ⟨h.size, 2, none⟩ = some (.int .i64 x22) ∧ 
    (∃ x23 : Int, hc h21 ⟨h13.size, 1 + 2, none⟩ = some (.int .i64 x23) ∧ 
    (∃ x24 : Int, hc h21 ⟨h.size, 2, none⟩ = some (.int .i64 x24) ∧ 
    (∃ x25 : Int, hc h21 ⟨h13.size, 1 + 1, none⟩ = some (.int .i64 x25) ∧ 
    (∀ h26 : Heap, h26 = h21.push (.cells ⟨[.int .i64 (IntKind.wrap .i64 (x22 + x_12)), .int .i64 (-1), .int .i64 x23, .int .i64 (-1), .int .i64 (IntKind.wrap .i64 (x24 + x_12)), .int .i64 (IntKind.wrap .i64 (0 - x25))]⟩ 187) → 
    (App Tryz.prog 131 131 (.slice out_11.a out_11.n out_11.c) (.slice (some ⟨h21.size, 0, none⟩) 2 2) h26 fun s27 h28 => 
    (∃ m29, m29 < m10 ∧ I8 s27 (IntKind.wrap .i64 (x_12 + 1)) h28 m29))))))))))))) 
    ((∃ x30 : Sl, hc h13 ⟨h.size, 3, none⟩ = some (.slice x30.a x30.n x30.c) ∧ 
    (App Tryz.prog 131 131 (.slice out_11.a out_11.n out_11.c) (.slice x30.a x30.n x30.c) h13 fun s31 h32 => 
    (∃ x33 : Sl, hc h32 ⟨h.size, 3 + 1, none⟩ = some (.slice x33.a x33.n x33.c) ∧ 
    (∃ I34 : Sl → Int → Heap → Nat → Prop, (∃ m35, I34 s31 0 h32 m35) ∧ 
    (∀ (_ : Env) (out_37 : Sl) (x_38 : Int) (h39 : Heap) (m36 : Nat), I34 out_37 x_38 h39 m36 → 
    (sB (decide (x_38 < (x33.n : Int))) 
      ((NB x33.a fun b40 o41 => ((0 ≤ (x_38 : Int) ∧ (x_38 : Int) < (x33.n : Nat)) ∧ 
      (∃ x42 : Int, ∃ x43 : Int, atC h39 ⟨b40, o41 + Int.toNat x_38 * 2, none⟩ [.int .i64 x42, .int .i64 x43] ∧ 
      (∀ h44 : Heap, h44 = h39.push (.cells ⟨[.int .i64 0, .int .i64 0]⟩ 189) → 
      (okAt h44 ⟨h39.size, 0, none⟩ 2 ∧ ∀ h45 : Heap, h45 = hputs h44 ⟨h39.size, 0, none⟩ 0 [.int .i64 x42, .int .i64 x43] → 
      ((0 ≤ (0 : Int) ∧ (0 : Int) < (2 : Nat)) ∧ 
      (∃ x46 : Int, hc h45 ⟨h39.size, 0 + Int.toNat 0 * 1, none⟩ = some (.int .i64 x46) ∧ 
      ((0 ≤ (1 : Int) ∧ (1 : Int) < (2 : Nat)) ∧ 
      (∃ x47 : Int, hc h45 ⟨h39.size, 0 + Int.toNat 1 * 1, none⟩ = some (.int .i64 x47) ∧ 
      ((0 ≤ (1 : Int) ∧ (1 : Int) < (2 : Nat)) ∧ 
      (∃ x48 : Int, hc h45 ⟨h39.size, 0 + Int.toNat 1 * 1, none⟩ = some (.int .i64 x48) ∧ 
      ((0 ≤ (0 : Int) ∧ (0 : Int) < (2 : Nat)) ∧ 
      (∃ x49 : Int, hc h45 ⟨h39.size, 0 + Int.toNat 0 * 1, none⟩ = some (.int .i64 x49) ∧ 
      (∀ h50 : Heap, h50 = h45.push (.cells ⟨[.int .i64 x46, .int .i64 x47, .int .i64 0, .int .i64 x48, .int .i64 x49, .int .i64 0]⟩ 187) → 
      (App Tryz.prog 131 131 (.slice out_37.a out_37.n out_37.c) (.slice (some ⟨h45.size, 0, none⟩) 2 2) h50 fun s51 h52 => 
      (∃ m53, m53 < m36 ∧ I34 s51 (IntKind.wrap .i64 (x_38 + 1)) h52 m53))))))))))))))))) 
      (R (.slice out_37.a out_37.n out_37.c) h39)))))))))))))
theorem vc192e (p0_1 : ByteArray) (p0_2 : Sl) (p0_3 : Int) (p0_4 : Sl) (p0_5 : Sl) (h : Heap) (R : Value → Heap → Prop) : W192 p0_1 p0_2 p0_3 p0_4 p0_5 h R = fnW Tryz.prog 192 (.s .z (.s .z (.s (.s .z (.b (.l [(3, .one (.slice)), (11, .one (.int .i64))] .z))) (.s .z (.s (.s .z (.b (.l [(3, .one (.slice)), (46, .one (.int .i64))] .z))) .z))))) #[.agg ⟨[.string p0_1, .slice p0_2.a p0_2.n p0_2.c, .int .i64 p0_3, .slice p0_4.a p0_4.n p0_4.c, .slice p0_5.a p0_5.n p0_5.c]⟩] h R := by kernel_rfl
theorem vc192 (p0_1 : ByteArray) (p0_2 : Sl) (p0_3 : Int) (p0_4 : Sl) (p0_5 : Sl) (h : Heap) (R : Value → Heap → Prop) (H : W192 p0_1 p0_2 p0_3 p0_4 p0_5 h R) : Fn Tryz.prog 192 #[.agg ⟨[.string p0_1, .slice p0_2.a p0_2.n p0_2.c, .int .i64 p0_3, .slice p0_4.a p0_4.n p0_4.c, .slice p0_5.a p0_5.n p0_5.c]⟩] h R := fnI (vc192e p0_1 p0_2 p0_3 p0_4 p0_5 h R) H

/- farandole/guard.Bounds -/
def W134 (p0 : Sl) (p1 : Int) (h : Heap) (R : Value → Heap → Prop) : Prop :=
  (sB (decide (p1 < 0)) 
   (R (.tuple ⟨[.slice none 0 0, .int .i64 1]⟩) h) 
   ((sB (decide (p1 ≥ (p0.n : Int))) 
    (R (.tuple ⟨[.slice none 0 0, .int .i64 1]⟩) h) 
    ((Fn Tryz.prog 191 #[.slice p0.a p0.n p0.c] h 
    (fun v1 h3 => ∃ x2 : Bool, v1 = .bool x2 ∧ 
    (sB (!x2) 
     (R (.tuple ⟨[.slice none 0 0, .int .i64 1]⟩) h3) 
     ((NB p0.a fun b4 o5 => ((0 ≤ (p1 : Int) ∧ (p1 : Int) < (p0.n : Nat)) ∧ 
     (∃ x6 : ByteArray, ∃ x7 : Sl, ∃ x8 : Int, ∃ x9 : Sl, ∃ x10 : Sl, atC h3 ⟨b4, o5 + Int.toNat p1 * 5, none⟩ [.string x6, .slice x7.a x7.n x7.c, .int .i64 x8, .slice x9.a x9.n x9.c, .slice x10.a x10.n x10.c] ∧ 
     (Fn Tryz.prog 192 #[.agg ⟨[.string x6, .slice x7.a x7.n x7.c, .int .i64 x8, .slice x9.a x9.n x9.c, .slice x10.a x10.n x10.c]⟩] h3 
     (fun v11 h13 => ∃ x12 : Sl, v11 = .slice x12.a x12.n x12.c ∧ 
     R (.tuple ⟨[.slice x12.a x12.n x12.c, .int .i64 0]⟩) h13)))))))))))))
theorem vc134e (p0 : Sl) (p1 : Int) (h : Heap) (R : Value → Heap → Prop) : W134 p0 p1 h R = fnW Tryz.prog 134 .z #[.slice p0.a p0.n p0.c, .int .i64 p1] h R := by kernel_rfl
theorem vc134 (p0 : Sl) (p1 : Int) (h : Heap) (R : Value → Heap → Prop) (H : W134 p0 p1 h R) : Fn Tryz.prog 134 #[.slice p0.a p0.n p0.c, .int .i64 p1] h R := fnI (vc134e p0 p1 h R) H

end Go.VC
end

section
/- Contracts: names, words, paths. -/
namespace Go.VC
open Go.Proofs Go.LexS
set_option maxRecDepth 100000

theorem letter221 (b : UInt8) (h : Heap) : Fn Tryz.prog 221 #[.int .u8 b.toNat] h fun v h' => v = .bool (lt b) ∧ h' = h := by
  apply vc221; unfold W221
  unfold lt isLetter
  generalize (b.toNat : Int) = n
  repeat' first
    | refine sBi (fun _ => ?_) (fun _ => ?_)
  all_goals
    refine ⟨?_, rfl⟩
    congr 1
    rw [Bool.eq_iff_iff]
    simp only [Bool.or_eq_true, Bool.and_eq_true, decide_eq_true_eq, Bool.false_eq_true, true_iff, false_iff]
    omega
theorem digit253 (b : UInt8) (h : Heap) : Fn Tryz.prog 253 #[.int .u8 b.toNat] h fun v h' => v = .bool (dg b) ∧ h' = h := by
  apply vc253; unfold W253
  unfold dg isDigit
  refine sBi (fun c => ⟨?_, rfl⟩) (fun c => ⟨?_, rfl⟩)
  · rw [decide_eq_true (p := (48 : Int) ≤ b.toNat) c, Bool.true_and]
  · rw [decide_eq_false (p := (48 : Int) ≤ b.toNat) c, Bool.false_and]
theorem inner222 (b : UInt8) (h : Heap) : Fn Tryz.prog 222 #[.int .u8 b.toNat] h fun v h' => v = .bool (inn b) ∧ h' = h := by
  apply vc222; unfold W222
  refine (letter221 b h).mono ?_
  rintro _ h3 ⟨rfl, rfl⟩
  refine ⟨_, rfl, sB_intro (fun c => ?_) (fun c => ?_)⟩
  · exact ⟨by rw [show inn b = (lt b || dg b || ((b.toNat : Int) == 95)) from rfl, c]; rfl, rfl⟩
  · refine (digit253 b _).mono ?_
    rintro _ h6 ⟨rfl, rfl⟩
    refine ⟨_, rfl, sB_intro (fun d => ?_) (fun d => ?_)⟩
    · exact ⟨by rw [show inn b = (lt b || dg b || ((b.toNat : Int) == 95)) from rfl, c, d]; rfl, rfl⟩
    · exact ⟨by rw [show inn b = (lt b || dg b || ((b.toNat : Int) == 95)) from rfl, c, d]; rfl, rfl⟩
theorem isname189 (s : ByteArray) (h : Heap) : Fn Tryz.prog 189 #[.string s] h fun v h' => v = .bool (isName s.data.toList) ∧ h' = h := by
  apply vc189; unfold W189
  have hsz := size_len s
  rw [strEq]
  generalize hL : s.data.toList = L at *
  refine sB_intro (fun he => ?_) (fun he => ?_)
  · have : L = [] := of_decide_eq_true he
    subst this
    exact ⟨rfl, rfl⟩
  · have hne : L ≠ [] := of_decide_eq_false he
    have hpos : 0 < L.length := List.length_pos_iff.2 hne
    obtain ⟨b, hb, hby⟩ := byte_get (s := s) (i := 0) (by omega)
    rw [hL] at hb
    have hcons : L = b :: L.drop 1 := by have := drop_cons hb; rwa [List.drop_zero] at this
    have hdef : isName L = (decide (L.length ≤ 16) && lt b && L.all inn) := by
      conv => lhs; rw [hcons]
      rw [isName, ← hcons]
    rw [hdef]
    refine sB_intro (fun hgt => ?_) (fun hgt => ?_)
    · refine ⟨?_, rfl⟩
      rw [decide_eq_false (by have := of_decide_eq_true hgt; omega)]; rfl
    · have h16 : L.length ≤ 16 := by have := of_decide_eq_false hgt; omega
      rw [decide_eq_true h16]
      refine ⟨⟨by omega, by omega⟩, ?_⟩
      rw [show Int.toNat 0 = 0 from rfl, hby]
      refine (letter221 _ _).mono ?_
      rintro v h3 ⟨rfl, rfl⟩
      refine ⟨_, rfl, sB_intro (fun hlet => ?_) (fun hlet => ?_)⟩
      · refine ⟨?_, rfl⟩
        rw [show lt b = false from by rw [Bool.not_eq_true'] at hlet; exact hlet]; rfl
      · rw [show lt b = true from by rw [Bool.not_eq_false'] at hlet; exact hlet]
        refine up_loop (n := s.size) (fun i h' => h' = h3 ∧ ∀ (j : Nat) (b : UInt8), j < i → L[j]? = some b → (!inn b) = false) ⟨rfl, fun j b hj => by omega⟩ ?_
        rintro - i h8 hi ⟨rfl, hd⟩
        refine sB_intro (fun hlt => ?_) (fun hge => ?_)
        · have hlt' := lt_t hlt
          obtain ⟨y, hy, hby2⟩ := byte_get hlt'
          rw [hL] at hy
          refine ⟨⟨by omega, by omega⟩, ?_⟩
          rw [show Int.toNat (i : Int) = i from rfl, hby2]
          refine (inner222 _ _).mono ?_
          rintro v h11 ⟨rfl, rfl⟩
          refine ⟨_, rfl, sB_intro (fun hp => ?_) (fun hp => ?_)⟩
          · refine ⟨?_, rfl⟩
            have : L.all inn = false := by
              rw [← Bool.not_eq_true, all_split]
              intro hh
              have := hh y i hy
              rw [Bool.not_eq_true'] at hp
              rw [show inn y = false from hp] at this; cases this
            rw [this]; rfl
          · exact Up.next hlt' (by omega) ⟨rfl, scan_next (p := fun b => !inn b) hy hp hd⟩
        · have hge' := lt_f hge
          refine ⟨?_, rfl⟩
          rw [(all_split inn L).2 fun b j hb => by simpa using hd j b (by have := (List.getElem?_eq_some_iff.1 hb).1; omega) hb]; rfl
theorem index190 (L : List Nm) (x : ByteArray) (s : Sl) (h : Heap) (hr : RL h 1 s nmC L) :
    Fn Tryz.prog 190 #[.slice s.a s.n s.c, .string x] h fun v h' => (∃ k : Int, v = .int .i64 k ∧ decide (k ≥ 0) = decide (x.data.toList ∈ L)) ∧ h' = h := by
  apply vc190; unfold W190
  have hn := hr.ln
  have hm := hr.sm
  refine up_loop (n := s.n) (fun i h' => h' = h ∧ ∀ (j : Nat) (y : Nm), j < i → L[j]? = some y → decide (x.data.toList = y) = false) ⟨rfl, fun j y hj => by omega⟩ ?_
  rintro - i h5 hi ⟨rfl, hd⟩
  refine sB_intro (fun l => ?_) (fun l => ?_)
  · replace l := lt_t l
    refine hr.rw.nbI (by omega) (by omega) fun b o d g t => ?_
    replace g : L[i]? = some d := g
    refine ⟨_, t.hd, ?_⟩
    rw [strEq, bs_list]
    refine sB_intro (fun he => ?_) (fun hne => ?_)
    · have := of_decide_eq_true he
      exact ⟨⟨_, rfl, by rw [decide_eq_true (show (i : Int) ≥ 0 by omega), decide_eq_true (by rw [this]; exact List.mem_of_getElem? g)]⟩, rfl⟩
    · exact Up.next l (by omega) ⟨rfl, scan_next (p := fun y => decide (x.data.toList = y)) g hne hd⟩
  · replace l := lt_f l
    refine ⟨⟨_, rfl, ?_⟩, rfl⟩
    rw [decide_eq_false (show ¬ ((-1 : Int) ≥ 0) by omega), decide_eq_false]
    intro hm
    obtain ⟨j, hj⟩ := List.mem_iff_getElem?.1 hm
    exact of_decide_eq_false (hd j _ (by have := (List.getElem?_eq_some_iff.1 hj).1; omega) hj) rfl
theorem has133 (L : List Nm) (x : ByteArray) (s : Sl) (h : Heap) (hr : RL h 1 s nmC L) :
    Fn Tryz.prog 133 #[.slice s.a s.n s.c, .string x] h fun v h' => v = .bool (decide (x.data.toList ∈ L)) ∧ h' = h := by
  apply vc133; unfold W133
  refine (index190 L x s h hr).mono ?_
  rintro v h3 ⟨⟨k, rfl, hk⟩, rfl⟩
  exact ⟨_, rfl, by rw [hk], rfl⟩
theorem own_rl {α : Type} {h : Heap} {b : Nat} {e : TypeId} {k : Nat} {cs : α → List Value} {L : List α} {xs : List Value} (hx : xs = (L.map cs).flatten) (ho : Own h b xs e) (hk : ∀ x, (cs x).length = k) (hl : L.length ≤ 1048576) {n c : Nat} (hn : n = L.length) (hc : n ≤ c) : RL h k ⟨some ⟨b, 0, none⟩, n, c⟩ cs L := by
  subst hx
  refine ⟨⟨by rw [List.length_map]; exact hn, fun _ => ⟨b, 0, rfl, fun i row hi j v hj => ?_⟩⟩, hc, fun e => by (cases e), hl⟩
  have hr : ∀ r ∈ L.map cs, r.length = k := fun r hr => by obtain ⟨x, _, rfl⟩ := List.mem_map.1 hr; exact hk x
  have hjl := (List.getElem?_eq_some_iff.1 hj).1
  rw [hr row (List.mem_of_getElem? hi)] at hjl
  rw [addk_at, Nat.zero_add, ho.hc, getElem?_flatten _ i j row hr hi hjl]; exact hj
theorem isword132 (s : ByteArray) (h : Heap) : Fn Tryz.prog 132 #[.string s] h fun v h' => v = .bool (isWord s.data.toList) ∧ Ext h h' := by
  apply vc132; unfold W132
  refine newput (vs := (keywords.map nmC).flatten) rfl fun h2 E o => ?_
  refine (isname189 s h2).mono ?_
  rintro _ h5 ⟨rfl, rfl⟩
  refine ⟨_, rfl, sB_intro (fun c => ?_) (fun c => ?_)⟩
  · refine ⟨by decide, ?_⟩
    refine (has133 keywords s ⟨subA (some ⟨h.size, 0, none⟩) (Int.toNat 0) 28 1, Int.toNat (28 : Nat) - Int.toNat 0, 28 - Int.toNat 0⟩ h5 (own_rl rfl o (fun _ => rfl) (by decide) rfl (by decide))).mono ?_
    rintro _ h8 ⟨rfl, rfl⟩
    exact ⟨_, rfl, by rw [show isWord s.data.toList = (isName s.data.toList && !decide (s.data.toList ∈ keywords)) from rfl, c]; rfl, E⟩
  · exact ⟨by rw [show isWord s.data.toList = (isName s.data.toList && !decide (s.data.toList ∈ keywords)) from rfl, c]; rfl, E⟩
end Go.VC
end

section
/- For every program: no run takes a draw back; the sharper relation of worlds. -/
namespace Go.VC
theorem ask_drawn {α : Type} : ∀ (q : Ask α) (w : World), w.drawn ≤ (w.ask q).2.drawn := by
  intro q
  induction q with
  | done a => intro w; exact Nat.le_refl _
  | ask what range k ih =>
    intro w
    unfold World.ask
    simp only
    split
    · exact ih _ w
    · exact Nat.le_trans (Nat.le_succ _) (ih _ { w with drawn := w.drawn + 1 })
theorem sys_drawn (w : World) (c : Sys) : w.drawn ≤ (w.sys c).2.drawn := by
  have h := ask_drawn (Kernel.perform c w.os) w
  unfold World.sys
  generalize w.ask (Kernel.perform c w.os) = r at h
  obtain ⟨⟨a, os⟩, w'⟩ := r
  split
  · exact Nat.le_refl _
  · rename_i e; cases e; exact h
theorem viewStore_drawn {p : Program} {w : World} {at_ : Addr} {u : TypeId} {k : Addr} {v : Value} {b : Bool} {w' : World} {l : List Addr} (h : w.viewStore p at_ u k v b = .ok (w', l)) : w'.drawn = w.drawn := by
  unfold World.viewStore at h
  simp only [bind, Except.bind, pure, Except.pure] at h
  repeat' split at h
  all_goals first | (cases h; done) | (cases h; rfl) | skip
theorem farStore_drawn {p : Program} {w : World} {a : Addr} {v : Value} {b : Bool} {w' : World} {l : List Addr} (h : w.farStore p a v b = .ok (w', l)) : w'.drawn = w.drawn := by
  unfold World.farStore at h
  repeat' split at h
  all_goals first | (cases h; done) | skip
  rename_i r hr
  cases h
  exact viewStore_drawn hr
theorem run_drawn {α : Type} (s : Sem α) (P : Program) : ∀ (w : World) (v : α) (w' : World), s.run P w = .ok v w' → w.drawn ≤ w'.drawn := by
  induction s with
  | pure a => intro w v w' h; cases h; exact Nat.le_refl _
  | load m a k ih =>
    intro w v w' h
    unfold Sem.run at h
    repeat' split at h
    all_goals first | exact ih _ w v w' h | (cases h; done)
  | store m a u k ih =>
    intro w v w' h
    cases u <;> simp only [Sem.run] at h <;> (first | (cases h; done) | skip) <;> (repeat' split at h) <;>
      first
        | (cases h; done)
        | exact ih (w.setCell a _) v w' h
        | (rename_i hf; exact (farStore_drawn hf) ▸ ih _ v w' h)
  | new o k ih => intro w v w' h; exact ih _ { w with heap := w.heap.push o } v w' h
  | shape r k ih => intro w v w' h; exact ih _ w v w' h
  | freeze a n k ih =>
    intro w v w' h
    have := ih (w.freeze a n) v w' h
    unfold World.freeze at this
    split at this <;> exact this
  | frozen a k ih => intro w v w' h; exact ih _ w v w' h
  | getObj r k ih =>
    intro w v w' h
    unfold Sem.run at h
    repeat' split at h
    all_goals first | exact ih _ w v w' h | (cases h; done)
  | setObj r o k ih =>
    intro w v w' h
    unfold Sem.run at h
    repeat' split at h
    all_goals first | exact ih { w with heap := w.heap.setIfInBounds r o } v w' h | (cases h; done)
  | choose q k ih =>
    intro w v w' h
    unfold Sem.run at h
    split at h
    · exact ih _ w v w' h
    · exact Nat.le_trans (Nat.le_succ _) (ih _ { w with drawn := w.drawn + 1 } v w' h)
  | sys c k ih =>
    intro w v w' h
    exact Nat.le_trans (sys_drawn w c) (ih _ (w.sys c).2 v w' h)
  | program k ih => intro w v w' h; exact ih _ w v w' h
  | mark m k ih => intro w v w' h; exact ih w v w' h
  | halt h0 => intro w v w' h; cases h
/-- the sharper relation: no draw is taken back -/
abbrev monoDrawn : Mono := ⟨fun w w' => w.drawn ≤ w'.drawn, fun _ => Nat.le_refl _, Nat.le_trans, fun _ _ => Nat.le_refl _, fun _ => Nat.le_succ _, fun s P w v w' h => run_drawn s P w v w' h⟩
end Go.VC
end
