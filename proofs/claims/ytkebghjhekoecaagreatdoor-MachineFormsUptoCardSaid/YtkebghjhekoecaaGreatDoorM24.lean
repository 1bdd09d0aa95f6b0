/- Texts of this claim, joined: RjI, RjJ, RjVcE, RjVcF, QjVcK, RjK, RjVcG, RjL, RjM, RjN, RjO, RjS, RjVcM, RjVcO, RjT, RjVcN. -/
import Derived.Test.YtkebghjhekoecaaGreatDoorM22
import Derived.Test.YtkebghjhekoecaaGreatDoorM23
import Derived.Test.YtkebghjhekoecaaGreatDoorM01
import Derived.Test.YtkebghjhekoecaaGreatDoorM02
import Derived.Test.YtkebghjhekoecaaGreatDoorProg
import Derived.KernelRfl
set_option linter.unusedVariables false
set_option linter.unusedSimpArgs false
set_option maxRecDepth 100000

section
/- Contract: the laws of layer 26 are awake. -/
namespace Go.VC
open Go.Proofs Go.LexS
def exM : Mch := ⟨2, 4, 0, [false, false, false, true], [⟨0, false, 1, 0, 1, false⟩, ⟨0, false, 1, 1, 2, false⟩, ⟨1, true, 1, 2, 3, false⟩, ⟨2, true, 1, 3, 3, false⟩], []⟩
theorem ex_raw_true (hr hd he ht : Sl) : rawC (exGl true hr hd he ht) 2 = some (some exM, 0) := by kernel_rfl
theorem ex_min : minF exM = exM := by kernel_rfl
theorem ex_true (hr hd he ht : Sl) : proj (exGl true hr hd he ht) 2 = (some exM, 0) := by
 have := rawC_ok (ex_valid true hr hd he ht) (by decide) (show (2 : Int) < ((3 : Nat) : Int) by decide) (ex_raw_true hr hd he ht)
 unfold proj
 rw [this]
 show (some (minF exM), 0) = _
 rw [ex_min]
theorem exM_get (i : Nat) (x : Mv) (h : exM.mv[i]? = some x) : (i = 0 /\ x = ⟨0, false, 1, 0, 1, false⟩) \/ (i = 1 /\ x = ⟨0, false, 1, 1, 2, false⟩) \/ (i = 2 /\ x = ⟨1, true, 1, 2, 3, false⟩) \/ (i = 3 /\ x = ⟨2, true, 1, 3, 3, false⟩) := by
 match i, h with
 | 0, h => exact .inl ⟨rfl, (Option.some.inj h).symm⟩
 | 1, h => exact .inr (.inl ⟨rfl, (Option.some.inj h).symm⟩)
 | 2, h => exact .inr (.inr (.inl ⟨rfl, (Option.some.inj h).symm⟩))
 | 3, h => exact .inr (.inr (.inr ⟨rfl, (Option.some.inj h).symm⟩))
 | n + 4, h => exact absurd h (by simp [exM])
theorem exM_mem (x : Mv) (h : x ∈ exM.mv) : x = ⟨0, false, 1, 0, 1, false⟩ \/ x = ⟨0, false, 1, 1, 2, false⟩ \/ x = ⟨1, true, 1, 2, 3, false⟩ \/ x = ⟨2, true, 1, 3, 3, false⟩ := by
 obtain ⟨i, hi⟩ := Yf.1 h
 rcases exM_get i x hi with ⟨_, e⟩ | ⟨_, e⟩ | ⟨_, e⟩ | ⟨_, e⟩
 ·
  exact .inl e
 ·
  exact .inr (.inl e)
 ·
  exact .inr (.inr (.inl e))
 ·
  exact .inr (.inr (.inr e))
theorem exM_ag (x : Mv) (h : x ∈ exM.mv) : x.ag = false := by
 rcases exM_mem x h with rfl | rfl | rfl | rfl <;> rfl
theorem exVM : VM exM := by
 refine ⟨⟨⟨by decide, by decide⟩, ⟨by decide, by decide⟩, ⟨by decide, by decide⟩, rfl, by decide, fun x hx => ?_⟩, fun i k x y hx hy hne hf => ?_, fun v h0 h1 => ?_, ⟨fun x hx ha => ?_, fun x hx ha => ?_, fun x hx ha => ?_, fun x hx ha => ?_, fun x hx ha => ?_⟩, fun i t h => ?_⟩
 ·
  rcases exM_mem x hx with rfl | rfl | rfl | rfl <;> decide
 ·
  rcases exM_get i x hx with ⟨rfl, rfl⟩ | ⟨rfl, rfl⟩ | ⟨rfl, rfl⟩ | ⟨rfl, rfl⟩ <;> rcases exM_get k y hy with ⟨rfl, rfl⟩ | ⟨rfl, rfl⟩ | ⟨rfl, rfl⟩ | ⟨rfl, rfl⟩ <;> first
   | exact absurd rfl hne
   | exact absurd hf (by decide)
   | exact ⟨fun e => absurd (congrArg Ev.label e) (by decide), rfl⟩
 ·
  have q0 : Qr (meds exM) (-1) [exM.s] 0 := .base (Ye.2 rfl)
  have q1 : Qr (meds exM) (-1) [exM.s] 1 := .step q0 ⟨⟨0, 0, 0, 0, 1, false⟩, Yp.2 ⟨⟨0, false, 1, 0, 1, false⟩, by simp [exM], rfl⟩, rfl, rfl, rfl⟩
  have q2 : Qr (meds exM) (-1) [exM.s] 2 := .step q0 ⟨⟨0, 0, 0, 0, 2, false⟩, Yp.2 ⟨⟨0, false, 1, 1, 2, false⟩, by simp [exM], rfl⟩, rfl, rfl, rfl⟩
  have q3 : Qr (meds exM) (-1) [exM.s] 3 := .step q1 ⟨⟨1, 0, 0, 0, 3, false⟩, Yp.2 ⟨⟨1, true, 1, 2, 3, false⟩, by simp [exM], rfl⟩, rfl, rfl, rfl⟩
  have h1 : v < 4 := h1
  have : v = 0 \/ v = 1 \/ v = 2 \/ v = 3 := by omega
  rcases this with rfl | rfl | rfl | rfl
  ·
   exact q0
  ·
   exact q1
  ·
   exact q2
  ·
   exact q3
 ·
  rw [exM_ag x hx] at ha; cases ha
 ·
  rw [exM_ag x hx] at ha; cases ha
 ·
  rw [exM_ag x hx] at ha; cases ha
 ·
  rw [exM_ag x hx] at ha; cases ha
 ·
  rw [exM_ag x hx] at ha; cases ha
 ·
  simp [exM] at h
def evA (l : Int) : Hv := ⟨2, false, 1, l, ⟨none, 0, 0⟩⟩
def evB : Hv := ⟨2, true, 1, 2, ⟨none, 0, 0⟩⟩
theorem ex_run0 : runN exM exM.s 0 [evA 0, evB] = (3, 2, 0) := by kernel_rfl
theorem ex_run1 : runN exM exM.s 0 [evA 1, evB] = (2, 1, 23) := by kernel_rfl
theorem hvrows (L : List Hv) : ∀ r ∈ L.map Hv.cs, r.length = 5 := fun r hr => by obtain ⟨x, _, rfl⟩ := Yp.1 hr; rfl
set_option maxHeartbeats 1600000 in
theorem awake12 (h : Heap) (hx : Gx h) : Fn Pz 12 #[] h fun v h' => v = .bool true /\ Ext h h' := by
 apply vc12; unfold W12
 have hs := St.refl h
 refine (example34 true h).mono ?_
 rintro _ h10 ⟨E10, hr, hd, he, rfl, hg⟩
 refine ⟨_, hr, hd, _, _, _, he, ⟨none, 0, 0⟩, rfl, ?_⟩
 refine (project12 _ 2 h10 hg (hx.ext E10)).mono ?_
 rintro _ h19 ⟨E19, hm⟩
 rw [ex_true] at hm
 cases hm with
 | err he0 _ => cases he0
 | @ok m sf sm sl he0 hs2 =>
  cases he0
  have hM : MI h19 exM sf sm sl := ⟨hs2.rl 0 rfl (by omega) (by decide), hs2.rl 1 rfl (by omega) (by decide), hs2.rl 2 rfl (by omega) (by decide)⟩
  have E0 : Ext h h19 := E10.trans E19
  refine ⟨_, _, _, sf, sm, sl, 0, rfl, ?_⟩
  refine (St.refl h19).newput (vs := mC exM sf sm sl) rfl rfl fun h21 hs => ?_
  refine hs.newb fun h22 hs => ?_
  refine hs.newb fun h23 hs => ?_
  refine hs.put 1 rfl (o := 0) (vs := (evA 0).cs) rfl (show 5 <= 5 by decide) fun h24 hs => ?_
  refine hs.put 0 rfl (o := 0) (vs := evB.cs) rfl (show 5 <= 5 by decide) fun h25 hs => ?_
  refine ⟨_, _, _, sf, sm, sl, hs.at 2 rfl (o := 0) (n := 6) rfl, _, _, _, _, ⟨none, 0, 0⟩, hs.at 1 rfl (o := 0) (n := 5) rfl, _, _, _, _, ⟨none, 0, 0⟩, hs.at 0 rfl (o := 0) (n := 5) rfl, ?_⟩
  refine hs.newb fun h42 hs => ?_
  have hs := hs.blkS 2 5 ([evA 0, evB].map Hv.cs) rfl (hvrows _) rfl (by decide)
  refine (run14 exM sf sm sl [evA 0, evB] _ h42 (hM.ext hs.ext) (hs.rows 0 rfl (by omega)) (by decide)).mono ?_
  rintro _ h47 ⟨rfl, E⟩
  have hs := hs.step E
  rw [if_pos exVM, ex_run0]
  refine ⟨_, _, _, rfl, ?_⟩
  refine hs.put 2 rfl (o := 3) (vs := [.int .i64 1]) rfl (show 3 + 1 <= 5 by decide) fun h48 hs => ?_
  refine ⟨_, _, _, sf, sm, sl, hs.at 3 rfl (o := 0) (n := 6) rfl, _, _, _, _, ⟨none, 0, 0⟩, hs.at 2 rfl (o := 0) (n := 5) rfl, _, _, _, _, ⟨none, 0, 0⟩, hs.at 1 rfl (o := 0) (n := 5) rfl, ?_⟩
  refine hs.newb fun h65 hs => ?_
  have hs := hs.blkS 2 5 ([evA 1, evB].map Hv.cs) rfl (hvrows _) rfl (by decide)
  refine (run14 exM sf sm sl [evA 1, evB] _ h65 (hM.ext hs.ext) (hs.rows 0 rfl (by omega)) (by decide)).mono ?_
  rintro _ h70 ⟨rfl, E⟩
  have hs := hs.step E
  rw [if_pos exVM, ex_run1]
  refine ⟨_, _, _, rfl, ?_⟩
  refine sB_t rfl (sB_t rfl (sB_t rfl (sB_t rfl (sB_t rfl ?_))))
  refine ⟨_, _, _, sf, sm, sl, hs.at 4 rfl (o := 0) (n := 6) rfl, ?_⟩
  refine (valid23 exM sf sm sl h70 (hM.ext hs.ext)).mono ?_
  rintro _ h79 ⟨⟨b, rfl, hb⟩, E⟩
  exact ⟨_, rfl, by rw [hb.2 exVM], E0.trans (hs.step E).ext⟩
end Go.VC
end

section
/- The walk of the law of histories step by step. (Numbers of layer 26's seat.) -/
namespace Go.VC
open Go.Proofs Go.LexS
theorem Rw.prefix {h : Heap} {k : Nat} {s : Sl} {rows : List (List Value)} (hr : Rw h k s rows) {i c : Nat} (hi : i <= s.n) : Rw h k ⟨s.a, i, c⟩ (rows.take i) := by
 have hn := hr.1
 refine ⟨by rw [Yu]; show i = _; omega, fun hp => ?_⟩
 rw [Yu] at hp
 obtain ⟨b, o, ha, hall⟩ := hr.2 (by omega)
 refine ⟨b, o, ha, fun j row hj => hall j row ?_⟩
 rw [Yyf] at hj
 split at hj
 ·
  exact hj
 ·
  cases hj
end Go.VC
end

section
namespace Go.VC
open Go.Proofs

def W3 (p0_1 p0_2 p0_3 : Int) (p0_4 p0_5 p0_6 : Sl) (p1_7 p1_8 p1_9 : Int) (p1_10 p1_11 p1_12 p2 : Sl) (h : Heap) (R : Value -> Heap -> Prop) : Prop :=
 (Wn h (L0 p0_1 p0_2 p0_3 p0_4 p0_5 p0_6) 26 fun h13 =>
 (Wn h13 (L0 p1_7 p1_8 p1_9 p1_10 p1_11 p1_12) 26 fun h14 =>
 (Fn Pz 12 #[] h14
 (fun v15 h17 => ∃ x16, iB v15 x16 /\
 (sB (!x16)
 (R (.bool false) h17)
 ((∃ x18 x19 x20 x21 x22 x23, aL0 h17 (aS h 0) x18 x19 x20 x21 x22 x23 /\
 (Fn Pz 13 #[.agg ⟨(L0 x18 x19 x20 x21 x22 x23)⟩] h17
 (fun v24 h26 => ∃ x25, iB v24 x25 /\
 (sB (!x25)
 (R (.bool true) h26)
 ((∃ x27 x28 x29 x30 x31 x32, aL0 h26 (aS h13 0) x27 x28 x29 x30 x31 x32 /\
 (Fn Pz 13 #[.agg ⟨(L0 x27 x28 x29 x30 x31 x32)⟩] h26
 (fun v33 h35 => ∃ x34, iB v33 x34 /\
 (sB (!x34)
 (R (.bool true) h35)
 ((sB (decide ((p2.n : Int) > 30))
 (R (.bool true) h35)
 ((∃ x36 x37 x38 x39 x40 x41, aL0 h35 (aS h 0) x36 x37 x38 x39 x40 x41 /\
 (Fn Pz 14 #[.agg ⟨(L0 x36 x37 x38 x39 x40 x41)⟩, vS p2] h35
 (fun v42 h46 => ∃ (x43 x44 x45 : Int), v42 = .tuple ⟨(L4 x43 x44 x45)⟩ /\
 (∃ x47 x48 x49 x50 x51 x52, aL0 h46 (aS h 0) x47 x48 x49 x50 x51 x52 /\
 (Fn Pz 15 #[.agg ⟨(L0 x47 x48 x49 x50 x51 x52)⟩, vS p2] h46
 (fun v53 h57 => ∃ (x54 x55 x56 : Int), v53 = .tuple ⟨(L4 x54 x55 x56)⟩ /\
 (sB (x43 == x54)
 ((sB (x44 == x55)
 ((sB (x45 == x56)
 ((∃ x58 x59 x60 x61 x62 x63, aL0 h57 (aS h 0) x58 x59 x60 x61 x62 x63 /\
 (∃ x64 x65 x66 x67 x68 x69, aL0 h57 (aS h13 0) x64 x65 x66 x67 x68 x69 /\
 (∃ x70 x71 x72 x73 x74 x75, aL0 h57 (aS h 0) x70 x71 x72 x73 x74 x75 /\
 (∃ x76 x77 x78 x79 x80 x81, aL0 h57 (aS h13 0) x76 x77 x78 x79 x80 x81 /\
 (Fn Pz 16 #[.agg ⟨(L0 x58 x59 x60 x61 x62 x63)⟩, .agg ⟨(L0 x64 x65 x66 x67 x68 x69)⟩] h57
 (fun v82 h84 => ∃ x83, iB v82 x83 /\
 (Sm [(aS h13 0), (aS h 0)] h57 h84 /\
 (Fn Pz 17 #[.agg ⟨(L0 x70 x71 x72 x73 x74 x75)⟩, .agg ⟨(L0 x76 x77 x78 x79 x80 x81)⟩] h84
 (fun v85 h87 => ∃ x86, iB v85 x86 /\
 (Sm [(aS h13 0), (aS h 0)] h84 h87 /\
 (sB (x83 == x86)
 ((∃ x88 x89 x90 x91 x92 x93, aL0 h87 (aS h 0) x88 x89 x90 x91 x92 x93 /\
 (∃ x94 x95 x96 x97 x98 x99, aL0 h87 (aS h 0) x94 x95 x96 x97 x98 x99 /\
 (Fn Pz 16 #[.agg ⟨(L0 x88 x89 x90 x91 x92 x93)⟩, .agg ⟨(L0 x94 x95 x96 x97 x98 x99)⟩] h87
 (fun v100 h102 => ∃ x101, iB v100 x101 /\
 (Sm [(aS h13 0), (aS h 0), (aS h13 0), (aS h 0)] h87 h102 /\
 R (.bool x101) h102))))))
 (R (.bool false) h87)))))))))))))
 (R (.bool false) h57)))
 (R (.bool false) h57)))
 (R (.bool false) h57))))))))))))))))))))))))))
def W17 (p0_1 p0_2 p0_3 : Int) (p0_4 p0_5 p0_6 : Sl) (p1_7 p1_8 p1_9 : Int) (p1_10 p1_11 p1_12 : Sl) (h : Heap) (R : Value -> Heap -> Prop) : Prop :=
 (Wn h (L0 p0_1 p0_2 p0_3 p0_4 p0_5 p0_6) 26 fun h13 =>
 (Wn h13 (L0 p1_7 p1_8 p1_9 p1_10 p1_11 p1_12) 26 fun h14 =>
 (∃ x15, rI h14 (aS h 0) x15 /\
 (∃ x16, rI h14 (aS h13 0) x16 /\
 (sB (x15 != x16)
 (R (.bool false) h14)
 ((∃ x17, rI h14 (aS h 1) x17 /\
 (∃ x18, rI h14 (aS h13 1) x18 /\
 (sB (x17 != x18)
 (R (.bool false) h14)
 ((∃ x19, rI h14 (aS h 2) x19 /\
 (∃ x20, rI h14 (aS h13 2) x20 /\
 (sB (x19 != x20)
 (R (.bool false) h14)
 ((∃ x21, rS h14 (aS h 3) x21 /\
 (∃ x22, rS h14 (aS h13 3) x22 /\
 (sB ((x21.n : Int) != (x22.n : Int))
 (R (.bool false) h14)
 ((∃ x23, rS h14 (aS h 4) x23 /\
 (∃ x24, rS h14 (aS h13 4) x24 /\
 (sB ((x23.n : Int) != (x24.n : Int))
 (R (.bool false) h14)
 ((∃ x25, rS h14 (aS h 5) x25 /\
 (∃ x26, rS h14 (aS h13 5) x26 /\
 (sB ((x25.n : Int) != (x26.n : Int))
 (R (.bool false) h14)
 ((QI 0 h14 fun I27 i_30 h31 m29 => (
 (∃ x32, rS h31 (aS h 3) x32 /\
 (sB (decide (i_30 < (x32.n : Int)))
 ((∃ x33, rS h31 (aS h 3) x33 /\
 (NB x33.a fun b34 o35 => (Ib i_30 x33.n /\
 (∃ x36, rB h31 ⟨b34, o35 + Int.toNat i_30 * 1, none⟩ x36 /\
 (∃ x37, rS h31 (aS h13 3) x37 /\
 (NB x37.a fun b38 o39 => (Ib i_30 x37.n /\
 (∃ x40, rB h31 ⟨b38, o39 + Int.toNat i_30 * 1, none⟩ x40 /\
 (sB (!(x36 == x40))
 (R (.bool false) h31)
 ((∃ m41, m41 < m29 /\ I27 (IntKind.wrap .i64 (i_30 + 1)) h31 m41))))))))))))
 ((QI 0 h31 fun I42 i_45 h46 m44 => (
 (∃ x47, rS h46 (aS h 4) x47 /\
 (sB (decide (i_45 < (x47.n : Int)))
 ((∃ x48, rS h46 (aS h 4) x48 /\
 (NB x48.a fun b49 o50 => (Ib i_45 x48.n /\
 (∃ x51 x52 x53 x54 x55 x56, aL1 h46 ⟨b49, o50 + Int.toNat i_45 * 6, none⟩ x51 x52 x53 x54 x55 x56 /\
 (∃ x57, rS h46 (aS h13 4) x57 /\
 (NB x57.a fun b58 o59 => (Ib i_45 x57.n /\
 (∃ x60 x61 x62 x63 x64 x65, aL1 h46 ⟨b58, o59 + Int.toNat i_45 * 6, none⟩ x60 x61 x62 x63 x64 x65 /\
 (sB (!((x51 == x60) && ((x52 == x61) && ((x53 == x62) && ((x54 == x63) && ((x55 == x64) && ((x56 == x65) && true)))))))
 (R (.bool false) h46)
 ((∃ m66, m66 < m44 /\ I42 (IntKind.wrap .i64 (i_45 + 1)) h46 m66))))))))))))
 ((QI 0 h46 fun I67 i_70 h71 m69 => (
 (∃ x72, rS h71 (aS h 5) x72 /\
 (sB (decide (i_70 < (x72.n : Int)))
 ((∃ x73, rS h71 (aS h 5) x73 /\
 (NB x73.a fun b74 o75 => (Ib i_70 x73.n /\
 (∃ x76 x77 x78, aL4 h71 ⟨b74, o75 + Int.toNat i_70 * 3, none⟩ x76 x77 x78 /\
 (∃ x79, rS h71 (aS h13 5) x79 /\
 (NB x79.a fun b80 o81 => (Ib i_70 x79.n /\
 (∃ x82 x83 x84, aL4 h71 ⟨b80, o81 + Int.toNat i_70 * 3, none⟩ x82 x83 x84 /\
 (sB (!((x76 == x82) && ((x77 == x83) && ((x78 == x84) && true))))
 (R (.bool false) h71)
 ((∃ m85, m85 < m69 /\ I67 (IntKind.wrap .i64 (i_70 + 1)) h71 m85))))))))))))
 (R (.bool true) h71)))))))))))))))))))))))))))))))))))))))))
theorem vc17 (p0_1 p0_2 p0_3 : Int) (p0_4 p0_5 p0_6 : Sl) (p1_7 p1_8 p1_9 : Int) (p1_10 p1_11 p1_12 : Sl) (h : Heap) (R : Value -> Heap -> Prop) (H : W17 p0_1 p0_2 p0_3 p0_4 p0_5 p0_6 p1_7 p1_8 p1_9 p1_10 p1_11 p1_12 h R) : Fn Pz 17 #[.agg ⟨(L0 p0_1 p0_2 p0_3 p0_4 p0_5 p0_6)⟩, .agg ⟨(L0 p1_7 p1_8 p1_9 p1_10 p1_11 p1_12)⟩] h R := fnI (A := (.s .z (.s .z (.s (.s .z (.b (.l [(5, .one (.int .i64))] .z))) (.s (.s .z (.b (.l [(6, .one (.int .i64))] .z))) (.s (.s .z (.b (.l [(7, .one (.int .i64))] .z))) .z)))))) (by kernel_rfl) H

end Go.VC
end

section
namespace Go.VC
open Go.Proofs

end Go.VC
end

section
namespace Go.VC
open Go.Proofs

end Go.VC
end

section
/- Contracts: the reference's Next and Run; equality of machines on both sides; the walk of the law of runs. (Numbers of layer 26's seat.) -/
namespace Go.VC
open Go.Proofs Go.LexS
namespace M
theorem first_hit {α : Type} {p : α -> Bool} : ∀ (l : List α) (i : Nat) (y : α), l[i]? = some y -> p y = true -> (∀ (j : Nat) z, j < i -> l[j]? = some z -> p z = false) -> l.find? p = some y
 | [], i, y, h, _, _ => by simp at h
 | a :: l, 0, y, h, hp, _ => by simp at h; subst h; rw [List.find?_cons, hp]
 | a :: l, i + 1, y, h, hp, hn => by
  rw [List.find?_cons, hn 0 a (by omega) rfl]
  exact first_hit l i y (by simpa using h) hp fun j z hj hz => hn (j + 1) z (by omega) (by simpa using hz)
end M
theorem mv_ext {x y : Mv} (c : ((x.f == y.f) && ((x.send == y.send) && ((x.peer == y.peer) && ((x.label == y.label) && ((x.t == y.t) && ((x.ag == y.ag) && true)))))) = true) : x = y := by
 cases x; cases y
 simp only [Bool.and_true, Yt, beq_iff_eq] at c
 obtain ⟨h1, h2, h3, h4, h5, h6⟩ := c
 simp only [Mv.mk.injEq]
 exact ⟨h1, h2, h3, h4, h5, h6⟩
theorem to_ext {x y : To} (c : ((x.s == y.s) && ((x.k == y.k) && ((x.e == y.e) && true))) = true) : x = y := by
 cases x; cases y
 simp only [Bool.and_true, Yt, beq_iff_eq] at c
 obtain ⟨h1, h2, h3⟩ := c
 simp only [To.mk.injEq]
 exact ⟨h1, h2, h3⟩
theorem mch_ext {m k : Mch} (h1 : m.role = k.role) (h2 : m.n = k.n) (h3 : m.s = k.s) (h4 : m.fin = k.fin) (h5 : m.mv = k.mv) (h6 : m.li = k.li) : m = k := by
 cases m; cases k
 simp only [Mch.mk.injEq]
 exact ⟨h1, h2, h3, h4, h5, h6⟩
theorem same17 (m k : Mch) (sf sm sl tf tm tl : Sl) (h : Heap) (hM : MI h m sf sm sl) (hK : MI h k tf tm tl) :
  Fn Pz 17 #[.agg ⟨mC m sf sm sl⟩, .agg ⟨mC k tf tm tl⟩] h (RP (m = k) h) := by
 apply vc17 m.role m.n m.s sf sm sl k.role k.n k.s tf tm tl; unfold W17
 have f1 := hM.pf.ln; have f2 := hK.pf.ln
 have m1 := hM.pm.ln; have m2 := hK.pm.ln
 have l1 := hM.pl.ln; have l2 := hK.pl.ln
 have f3 := hM.pf.sm; have m3 := hM.pm.sm; have l3 := hM.pl.sm
 refine (St.refl h).newb fun h13 hs => ?_
 refine hs.newb fun h14 hs => ?_
 refine ⟨_, hs.rd 1 rfl rfl, _, hs.rd 0 rfl rfl, sBn (fun c1 => RP.f (fun e => c1 (by rw [e])) hs.ext) (fun c1 => ?_)⟩
 refine ⟨_, hs.rd 1 rfl rfl, _, hs.rd 0 rfl rfl, sBn (fun c2 => RP.f (fun e => c2 (by rw [e])) hs.ext) (fun c2 => ?_)⟩
 refine ⟨_, hs.rd 1 rfl rfl, _, hs.rd 0 rfl rfl, sBn (fun c3 => RP.f (fun e => c3 (by rw [e])) hs.ext) (fun c3 => ?_)⟩
 refine ⟨sf, hs.rd 1 rfl rfl, tf, hs.rd 0 rfl rfl, sBn (fun c4 => RP.f (fun e => by rw [<- e] at f2; omega) hs.ext) (fun c4 => ?_)⟩
 refine ⟨sm, hs.rd 1 rfl rfl, tm, hs.rd 0 rfl rfl, sBn (fun c5 => RP.f (fun e => by rw [<- e] at m2; omega) hs.ext) (fun c5 => ?_)⟩
 refine ⟨sl, hs.rd 1 rfl rfl, tl, hs.rd 0 rfl rfl, sBn (fun c6 => RP.f (fun e => by rw [<- e] at l2; omega) hs.ext) (fun c6 => ?_)⟩
 have allEq : ∀ {α : Type} {L K : List α} {n : Nat}, n = L.length -> n = K.length -> (∀ (j : Nat) x y, j < n -> L[j]? = some x -> K[j]? = some y -> x = y) -> L = K := fun {α L K n} e1 e2 hq => by
  refine List.ext_getElem? fun i => ?_
  by_cases hil : i < n
  ·
   obtain ⟨x, hx⟩ := get_some (l := L) (i := i) (by omega)
   obtain ⟨y, hy⟩ := get_some (l := K) (i := i) (by omega)
   rw [hx, hy, hq i x y (by omega) hx hy]
  ·
   rw [Yl (by omega), Yl (by omega)]
 refine up_loopS (n := sf.n) hs (fun i => ∀ (j : Nat) x y, j < i -> m.fin[j]? = some x -> k.fin[j]? = some y -> x = y) (fun j x y hj => by omega) ?_
 clear hs
 rintro - i h31 hi ⟨hs, hq⟩
 refine ⟨sf, hs.rd 1 rfl rfl, sB_intro (fun d => ?_) (fun d => ?_)⟩
 ·
  replace d := lt_t d
  refine ⟨sf, hs.rd 1 rfl rfl, ?_⟩
  refine (hM.pf.rw.ext hs.ext).nbI (by omega) (by omega) fun b34 o35 x gx t => ?_
  replace gx : m.fin[i]? = some x := gx
  refine ⟨_, t.hd, tf, hs.rd 0 rfl rfl, ?_⟩
  refine (hK.pf.rw.ext hs.ext).nbI (by omega) (by omega) fun b38 o39 y gy t2 => ?_
  replace gy : k.fin[i]? = some y := gy
  refine ⟨_, t2.hd, sB_intro (fun c => RP.f (fun e => by rw [<- e, gx] at gy; cases gy; simp at c) hs.ext) (fun c => Up.next d (by omega) ⟨hs, fun j x' y' hj hx hy => ?_⟩)⟩
  by_cases e : j = i
  ·
   subst e; rw [gx] at hx; rw [gy] at hy; cases hx; cases hy
   simpa using c
  ·
   exact hq j x' y' (by omega) hx hy
 have hF : m.fin = k.fin := allEq f1 (by omega) fun j x y hj => hq j x y (by have := lt_f d; omega)
 clear hq
 refine up_loopS (n := sm.n) hs (fun i => ∀ (j : Nat) x y, j < i -> m.mv[j]? = some x -> k.mv[j]? = some y -> x = y) (fun j x y hj => by omega) ?_
 clear hs
 rintro - i h46 hi ⟨hs, hq⟩
 refine ⟨sm, hs.rd 1 rfl rfl, sB_intro (fun d => ?_) (fun d => ?_)⟩
 ·
  replace d := lt_t d
  refine ⟨sm, hs.rd 1 rfl rfl, ?_⟩
  refine (hM.pm.rw.ext hs.ext).nbI (by omega) (by omega) fun b34 o35 x gx t => ?_
  replace gx : m.mv[i]? = some x := gx
  refine ⟨_, _, _, _, _, _, t, tm, hs.rd 0 rfl rfl, ?_⟩
  refine (hK.pm.rw.ext hs.ext).nbI (by omega) (by omega) fun b38 o39 y gy t2 => ?_
  replace gy : k.mv[i]? = some y := gy
  refine ⟨_, _, _, _, _, _, t2, sB_intro (fun c => RP.f (fun e => by rw [<- e, gx] at gy; cases gy; simp at c) hs.ext) (fun c => Up.next d (by omega) ⟨hs, fun j x' y' hj hx hy => ?_⟩)⟩
  by_cases e : j = i
  ·
   subst e; rw [gx] at hx; rw [gy] at hy; cases hx; cases hy
   exact mv_ext (bT c)
  ·
   exact hq j x' y' (by omega) hx hy
 have hG : m.mv = k.mv := allEq m1 (by omega) fun j x y hj => hq j x y (by have := lt_f d; omega)
 clear hq
 refine up_loopS (n := sl.n) hs (fun i => ∀ (j : Nat) x y, j < i -> m.li[j]? = some x -> k.li[j]? = some y -> x = y) (fun j x y hj => by omega) ?_
 clear hs
 rintro - i h71 hi ⟨hs, hq⟩
 refine ⟨sl, hs.rd 1 rfl rfl, sB_intro (fun d => ?_) (fun d => ?_)⟩
 ·
  replace d := lt_t d
  refine ⟨sl, hs.rd 1 rfl rfl, ?_⟩
  refine (hM.pl.rw.ext hs.ext).nbI (by omega) (by omega) fun b34 o35 x gx t => ?_
  replace gx : m.li[i]? = some x := gx
  refine ⟨_, _, _, t, tl, hs.rd 0 rfl rfl, ?_⟩
  refine (hK.pl.rw.ext hs.ext).nbI (by omega) (by omega) fun b38 o39 y gy t2 => ?_
  replace gy : k.li[i]? = some y := gy
  refine ⟨_, _, _, t2, sB_intro (fun c => RP.f (fun e => by rw [<- e, gx] at gy; cases gy; simp at c) hs.ext) (fun c => Up.next d (by omega) ⟨hs, fun j x' y' hj hx hy => ?_⟩)⟩
  by_cases e : j = i
  ·
   subst e; rw [gx] at hx; rw [gy] at hy; cases hx; cases hy
   exact to_ext (bT c)
  ·
   exact hq j x' y' (by omega) hx hy
 have hH : m.li = k.li := allEq l1 (by omega) fun j x y hj => hq j x y (by have := lt_f d; omega)
 exact RP.t (mch_ext c1 c2 c3 hF hG hH) hs.ext
end Go.VC
end

section
namespace Go.VC
open Go.Proofs

end Go.VC
end

section
/- Contract: the reference's moves of a state, sorted. (Numbers of layer 26's seat.) -/
namespace Go.VC
open Go.Proofs Go.LexS
namespace M
theorem intrw {h : Heap} {s : Sl} {L : List Int} (hr : Rw h 1 s (L.map inC)) (hc : s.n <= s.c) {i : Nat} (hi : i <= s.n) : Rw h 1 ⟨subA s.a i s.c 1, s.n - i, s.c - i⟩ ((L.drop i).map inC) := by
 have hn := hr.ln
 rw [List.map_drop]
 by_cases h0 : i = s.n
 ·
  rw [List.drop_eq_nil_of_le (by rw [Yc]; omega)]
  exact Rw.empty (by show s.n - i = 0; omega)
 ·
  exact hr.from hc (by omega)
theorem subA_nil {s : Sl} {i : Nat} (hna : s.a = none -> s.n = 0 /\ s.c = 0) (h : subA s.a i s.c 1 = none) : s.n - i = 0 /\ s.c - i = 0 := by
 unfold subA at h
 split at h
 ·
  have := hna h; omega
 ·
  cases ha : s.a with
  | none => have := hna ha; omega
  | some a => rw [ha] at h; cases h
end M
theorem ins_ok {m : Mch} {s : Int} {O : List Nat} {i k : Nat} (hP : O.Perm ((List.range i).filter (outP m s))) (hS : O.Pairwise fun a b => ¬ evLt (evI m b) (evI m a)) (hx : outP m s i = true)
  (hb : ∀ (j a : Nat), j < k -> O[j]? = some a -> ¬ evLt (evI m i) (evI m a)) (ha : ∀ c, O[k]? = some c -> evLt (evI m i) (evI m c)) :
  (O.take k ++ [i] ++ O.drop k).Perm ((List.range (i + 1)).filter (outP m s)) /\ (O.take k ++ [i] ++ O.drop k).Pairwise fun a b => ¬ evLt (evI m b) (evI m a) := by
 constructor
 ·
  rw [List.range_succ, List.filter_append, List.filter_cons_of_pos hx, List.filter_nil]
  refine List.Perm.trans ?_ (hP.append_right [i])
  rw [Yz]
  refine List.Perm.trans (List.Perm.append_left _ List.perm_append_comm) ?_
  rw [<- Yz, List.take_append_drop]
 ·
  have hS' := hS
  rw [<- List.take_append_drop k O, List.pairwise_append] at hS'
  rw [Yz, List.pairwise_append]
  have hdr : ∀ b ∈ O.drop k, ¬ evLt (evI m b) (evI m i) := fun b hbm hlt => by
   cases hd : O.drop k with
   | nil => rw [hd] at hbm; cases hbm
   | cons c l =>
    have hc : O[k]? = some c := by
     have := List.getElem?_drop (xs := O) (i := k) (j := 0)
     rw [hd] at this
     simpa using this.symm
    have h1 := ha c hc
    have h2 := hS'.2.1
    rw [hd] at hbm h2
    rcases Yr.1 hbm with rfl | hbm
    ·
     exact evLt_irr _ (evLt_trans h1 hlt)
    ·
     exact (List.pairwise_cons.1 h2).1 b hbm (evLt_trans hlt h1)
  refine ⟨hS'.1, ?_, fun a ham b hbm => ?_⟩
  ·
   rw [List.singleton_append, List.pairwise_cons]
   exact ⟨hdr, hS'.2.1⟩
  ·
   rcases Yk.1 hbm with hbm | hbm
   ·
    rw [Ye.1 hbm]
    obtain ⟨j, hj⟩ := Yf.1 ham
    rw [Yyf] at hj
    split at hj
    ·
     exact hb j a (by assumption) hj
    ·
     cases hj
   ·
    exact hS'.2.2 a ham b hbm
set_option maxHeartbeats 3200000 in
theorem refOut62S (m : Mch) (sf sm sl : Sl) (s : Int) (h : Heap) (hM : MI h m sf sm sl) :
  Fn Pz 62 #[.agg ⟨mC m sf sm sl⟩, .int .i64 s] h fun v h' => ∃ (r : Sl) (O : List Nat), v = .slice r.a r.n r.c /\ St h h' [.sl r 3 1 ((natI O).map inC)] /\ O.Perm (outIx m s) /\ O.Pairwise fun a b => ¬ evLt (evI m b) (evI m a) := by
 apply vc62 m.role m.n m.s sf sm sl; unfold W62
 have hs := St.refl h
 have hmn := hM.pm.ln
 have hmb := hM.pm.sm
 refine hs.newb fun h7 hs => ?_
 have hs := hs.nil_ 3 1
 refine up_loopA (n := m.mv.length) hs (fun i rows => ∃ O : List Nat, rows = (natI O).map inC /\ O.Perm ((List.range i).filter (outP m s)) /\ O.Pairwise fun a b => ¬ evLt (evI m b) (evI m a)) ⟨[], rfl, List.Perm.refl _, List.Pairwise.nil⟩ ?_
 clear hs
 rintro - i out h13 _ hi hs ⟨O, rfl, hP, hSo⟩
 have holn := (hs.rows 0 (cs := inC) rfl (by omega)).ln
 have hocap := hs.len 0 (s := out) (e := 3) (n := 1) rfl (by omega)
 rw [show (natI O).length = O.length from Yc _] at holn
 have hol : O.length <= i := by rw [hP.length_eq]; exact Nat.le_trans (List.length_filter_le _ _) (by rw [Yyd]; exact Nat.le_refl _)
 refine ⟨sm, hs.rd 1 rfl rfl, ?_⟩
 refine sBi (fun c1 => ?_) (fun c1 => ?_)
 ·
  have him : i < m.mv.length := by omega
  refine ⟨sm, hs.rd 1 rfl rfl, ?_⟩
  refine (hM.pm.ext hs.ext).rw.nbI (by omega) (by omega) fun b16 o17 x g16 t16 => ?_
  replace g16 : m.mv[i]? = some x := g16
  refine ⟨_, t16.hd, ?_⟩
  have hp : outP m s i = decide (x.f = s) := by unfold outP; rw [g16]
  refine sBn (fun c2 => ?_) (fun c2 => ?_)
  ·
   refine UpA.next him (by omega) ⟨_, hs, O, rfl, ?_, hSo⟩
   rw [List.range_succ, List.filter_append, List.filter_cons_of_neg (by rw [hp, decide_eq_false c2]; simp), List.filter_nil, Yw]
   exact hP
  ·
   have hxi : outP m s i = true := by rw [hp]; exact decide_eq_true c2
   have hevi : evI m i = x.ev := evI_of g16
   have hOm : ∀ (k j : Nat), O[k]? = some j -> ∃ y, m.mv[j]? = some y := fun k j hk => by
    have := hP.mem_iff.1 (Yb hk)
    rw [List.mem_filter, List.mem_range] at this
    exact get_some (by omega)
   refine up_loopS (n := out.n) hs (fun k => ∀ (j a : Nat), j < k -> O[j]? = some a -> ¬ evLt (evI m i) (evI m a)) (fun j a hj => by omega) ?_
   clear hs
   rintro - k h24 hko ⟨hs, hq⟩
   refine sBi (fun c3 => ?_) (fun c3 => ?_)
   ·
    refine ⟨sm, hs.rd 1 rfl rfl, ?_⟩
    refine (hM.pm.ext hs.ext).rw.nbI (by omega) (by omega) fun b26 o27 x' g26 t26 => ?_
    rw [Ys, g16] at g26; cases g26
    refine ⟨_, _, _, _, _, _, t26, sm, hs.rd 1 rfl rfl, ?_⟩
    refine (hs.rows 0 (cs := inC) rfl (by omega)).nbI (by omega) (by omega) fun b35 o36 d g35 t35 => ?_
    obtain ⟨j, hj, rfl⟩ := natI_get g35
    replace hj : O[k]? = some j := hj
    obtain ⟨y, hy⟩ := hOm _ _ hj
    have hyl := (Ya.1 hy).1
    have hevj : evI m j = y.ev := evI_of hy
    refine ⟨_, t35.hd, ?_⟩
    refine (hM.pm.ext hs.ext).rw.nbI (by omega) (by omega) fun b38 o39 y' g38 t38 => ?_
    rw [Ys, hy] at g38; cases g38
    refine ⟨_, _, _, _, _, _, t38, ?_⟩
    refine (before26 x y h24).mono ?_
    rintro _ h48 ⟨rfl, E48⟩
    have hs := hs.step E48
    refine ⟨_, rfl, sB_intro (fun c4 => ?_) (fun c4 => ?_)⟩
    ·
     have hnl : ¬ evLt x.ev y.ev := of_decide_eq_false (bF c4)
     refine Up.next (by omega) (by omega) ⟨hs, fun j' a hj' ha => ?_⟩
     by_cases e : j' = k
     ·
      subst e; rw [hj] at ha; cases ha; rw [hevi, hevj]; exact hnl
     ·
      exact hq j' a (by omega) ha
    ·
     have hlt : evLt x.ev y.ev := of_decide_eq_true (bT c4)
     have hat : ∀ c, O[k]? = some c -> evLt (evI m i) (evI m c) := fun c hc => by rw [hj] at hc; cases hc; rw [hevi, hevj]; exact hlt
     have fin : ∀ {h' : Heap} {r : Sl}, St h h' [.sl r 3 1 ((natI (O.take k)).map inC ++ [[.int .i64 (i : Nat)]] ++ (natI (O.drop k)).map inC), .blk h.size (mC m sf sm sl) 26] -> ∃ m', m' < m.mv.length - i /\ UpA m.mv.length (fun i s_1 h' => ∃ rows, St h h' (.sl s_1 3 1 rows :: [.blk h.size (mC m sf sm sl) 26]) /\ ∃ O : List Nat, rows = (natI O).map inC /\ O.Perm ((List.range i).filter (outP m s)) /\ O.Pairwise fun a b => ¬ evLt (evI m b) (evI m a)) r (IntKind.wrap .i64 ((i : Int) + 1)) h' m' := by
      intro h' r h1
      have hok := ins_ok hP hSo hxi hq hat
      refine UpA.next him (by omega) ⟨_, h1, O.take k ++ [i] ++ O.drop k, ?_, hok.1, hok.2⟩
      unfold natI
      rw [Ym, Ym, Ym, Ym]; rfl
     have e0 : subA out.a (Int.toNat 0) out.c 1 = out.a := subA_zero _ _ _
     have hpre : ∀ {h' : Heap}, Rw h' 1 out ((natI O).map inC) -> Rw h' 1 (⟨subA out.a (Int.toNat 0) out.c 1, Int.toNat (k : Int) - Int.toNat 0, out.c - Int.toNat 0⟩ : Sl) ((natI (O.take k)).map inC) := fun {h'} hr => by
      have h1 := hr.prefix (i := k) (c := out.c - Int.toNat 0) hko
      rw [e0]
      unfold natI at h1 ⊢
      rw [List.map_take, List.map_take]
      exact h1
     have hsuf : ∀ {h' : Heap}, Rw h' 1 out ((natI O).map inC) -> Rw h' 1 (⟨subA out.a (Int.toNat (k : Int)) out.c 1, Int.toNat (out.n : Nat) - Int.toNat (k : Int), out.c - Int.toNat (k : Int)⟩ : Sl) ((natI (O.drop k)).map inC) := fun {h'} hr => by
      have h1 := M.intrw hr hocap.2.1 (i := k) hko
      unfold natI at h1 ⊢
      rw [List.map_drop]
      exact h1
     have hnilp : (⟨subA out.a (Int.toNat 0) out.c 1, Int.toNat (k : Int) - Int.toNat 0, out.c - Int.toNat 0⟩ : Sl).a = none -> (⟨subA out.a (Int.toNat 0) out.c 1, Int.toNat (k : Int) - Int.toNat 0, out.c - Int.toNat 0⟩ : Sl).n = 0 /\ (⟨subA out.a (Int.toNat 0) out.c 1, Int.toNat (k : Int) - Int.toNat 0, out.c - Int.toNat 0⟩ : Sl).c = 0 := by
      intro hn
      have hn : subA out.a (Int.toNat 0) out.c 1 = none := hn
      rw [e0] at hn
      have := hocap.2.2 hn
      exact ⟨by show Int.toNat (k : Int) - Int.toNat 0 = 0; omega, by show out.c - Int.toNat 0 = 0; omega⟩
     have hnils : (⟨subA out.a (Int.toNat (k : Int)) out.c 1, Int.toNat (out.n : Nat) - Int.toNat (k : Int), out.c - Int.toNat (k : Int)⟩ : Sl).a = none -> (⟨subA out.a (Int.toNat (k : Int)) out.c 1, Int.toNat (out.n : Nat) - Int.toNat (k : Int), out.c - Int.toNat (k : Int)⟩ : Sl).n = 0 /\ (⟨subA out.a (Int.toNat (k : Int)) out.c 1, Int.toNat (out.n : Nat) - Int.toNat (k : Int), out.c - Int.toNat (k : Int)⟩ : Sl).c = 0 := fun hn => M.subA_nil hocap.2.2 hn
     refine ⟨⟨by omega, by omega, by omega⟩, ⟨by omega, by omega, by omega⟩, ?_, ?_⟩
     ·
      refine hs.newb fun h76 hs => ?_
      have hs := hs.blkS 0 1 [] rfl (by simp) rfl (by decide)
      refine ⟨?_, ?_⟩
      ·
       refine hs.appRw 0 (rows := []) (news := (natI (O.take k)).map inC) rfl app42 (y := ⟨subA out.a (Int.toNat 0) out.c 1, Int.toNat (k : Int) - Int.toNat 0, out.c - Int.toNat 0⟩) (hpre (hs.rows 1 (s := out) (cs := inC) (l := natI O) rfl (by omega))) (inrows _) hnilp (flat_oneB (fun _ => rfl) _) (by show (0 + (Int.toNat (k : Int) - Int.toNat 0)) * 8 <= _; omega) (by show 0 + (Int.toNat (k : Int) - Int.toNat 0) <= _; simp only [maxLen]; omega) fun s77 h78 n77 hs => ?_
       replace n77 : s77.n = k := by rw [n77]; show 0 + (Int.toNat (k : Int) - Int.toNat 0) = k; omega
       refine hs.app 0 rfl app42 (m := 1) [[.int .i64 (i : Nat)]] rfl rfl (by simp) rfl (by omega) (by simp only [maxLen]; omega) fun s80 h81 n80 hs => ?_
       refine hs.appRw 0 (rows := (natI (O.take k)).map inC ++ [[.int .i64 (i : Nat)]]) (news := (natI (O.drop k)).map inC) rfl app42 (y := ⟨subA out.a (Int.toNat (k : Int)) out.c 1, Int.toNat (out.n : Nat) - Int.toNat (k : Int), out.c - Int.toNat (k : Int)⟩) (hsuf (hs.rows 1 (s := out) (cs := inC) (l := natI O) rfl (by omega))) (inrows _) hnils (flat_oneB (fun _ => rfl) _) (by show (_ + (Int.toNat (out.n : Nat) - Int.toNat (k : Int))) * 8 <= _; omega) (by show _ + (Int.toNat (out.n : Nat) - Int.toNat (k : Int)) <= _; simp only [maxLen]; omega) fun s82 h83 n82 hs => ?_
       refine fin (hs.sub ?_)
       exact .cons_cons _ (.cons _ (.cons_cons _ .slnil))
      ·
       refine hs.newb fun h85 hs => ?_
       refine hs.appRw 1 (rows := []) (news := (natI (O.take k)).map inC) rfl app42 (y := ⟨subA out.a (Int.toNat 0) out.c 1, Int.toNat (k : Int) - Int.toNat 0, out.c - Int.toNat 0⟩) (hpre (hs.rows 2 (s := out) (cs := inC) (l := natI O) rfl (by omega))) (inrows _) hnilp (flat_oneB (fun _ => rfl) _) (by show (0 + (Int.toNat (k : Int) - Int.toNat 0)) * 8 <= _; omega) (by show 0 + (Int.toNat (k : Int) - Int.toNat 0) <= _; simp only [maxLen]; omega) fun s77 h78 n77 hs => ?_
       replace n77 : s77.n = k := by rw [n77]; show 0 + (Int.toNat (k : Int) - Int.toNat 0) = k; omega
       refine hs.appended 1 (rows := (natI (O.take k)).map inC) rfl app42 (m := 1) (news := [[.int .i64 (i : Nat)]]) (hs.at 0 rfl (n := 1) rfl) rfl (by simp) rfl (by omega) (by simp only [maxLen]; omega) fun s80 h81 n80 hs => ?_
       refine hs.appRw 1 (rows := (natI (O.take k)).map inC ++ [[.int .i64 (i : Nat)]]) (news := (natI (O.drop k)).map inC) rfl app42 (y := ⟨subA out.a (Int.toNat (k : Int)) out.c 1, Int.toNat (out.n : Nat) - Int.toNat (k : Int), out.c - Int.toNat (k : Int)⟩) (hsuf (hs.rows 2 (s := out) (cs := inC) (l := natI O) rfl (by omega))) (inrows _) hnils (flat_oneB (fun _ => rfl) _) (by show (_ + (Int.toNat (out.n : Nat) - Int.toNat (k : Int))) * 8 <= _; omega) (by show _ + (Int.toNat (out.n : Nat) - Int.toNat (k : Int)) <= _; simp only [maxLen]; omega) fun s82 h83 n82 hs => ?_
       refine fin (hs.sub ?_)
       exact .cons _ (.cons_cons _ (.cons _ (.cons_cons _ .slnil)))
     ·
      refine hs.newb fun h93 hs => ?_
      refine hs.newb fun h94 hs => ?_
      have hs := hs.blkS 0 1 [] rfl (by simp) rfl (by decide)
      refine hs.appRw 0 (rows := []) (news := (natI (O.take k)).map inC) rfl app42 (y := ⟨subA out.a (Int.toNat 0) out.c 1, Int.toNat (k : Int) - Int.toNat 0, out.c - Int.toNat 0⟩) (hpre (hs.rows 2 (s := out) (cs := inC) (l := natI O) rfl (by omega))) (inrows _) hnilp (flat_oneB (fun _ => rfl) _) (by show (0 + (Int.toNat (k : Int) - Int.toNat 0)) * 8 <= _; omega) (by show 0 + (Int.toNat (k : Int) - Int.toNat 0) <= _; simp only [maxLen]; omega) fun s77 h78 n77 hs => ?_
      replace n77 : s77.n = k := by rw [n77]; show 0 + (Int.toNat (k : Int) - Int.toNat 0) = k; omega
      refine hs.appended 0 (rows := (natI (O.take k)).map inC) rfl app42 (m := 1) (news := [[.int .i64 (i : Nat)]]) (hs.at 1 rfl (n := 1) rfl) rfl (by simp) rfl (by omega) (by simp only [maxLen]; omega) fun s80 h81 n80 hs => ?_
      refine hs.appRw 0 (rows := (natI (O.take k)).map inC ++ [[.int .i64 (i : Nat)]]) (news := (natI (O.drop k)).map inC) rfl app42 (y := ⟨subA out.a (Int.toNat (k : Int)) out.c 1, Int.toNat (out.n : Nat) - Int.toNat (k : Int), out.c - Int.toNat (k : Int)⟩) (hsuf (hs.rows 2 (s := out) (cs := inC) (l := natI O) rfl (by omega))) (inrows _) hnils (flat_oneB (fun _ => rfl) _) (by show (_ + (Int.toNat (out.n : Nat) - Int.toNat (k : Int))) * 8 <= _; omega) (by show _ + (Int.toNat (out.n : Nat) - Int.toNat (k : Int)) <= _; simp only [maxLen]; omega) fun s82 h83 n82 hs => ?_
      refine fin (hs.sub ?_)
      exact .cons_cons _ (.cons _ (.cons _ (.cons_cons _ .slnil)))
   ·
    have hat : ∀ c, O[k]? = some c -> evLt (evI m i) (evI m c) := fun c hc => by have := (Ya.1 hc).1; omega
    have fin : ∀ {h' : Heap} {r : Sl}, St h h' [.sl r 3 1 ((natI (O.take k)).map inC ++ [[.int .i64 (i : Nat)]] ++ (natI (O.drop k)).map inC), .blk h.size (mC m sf sm sl) 26] -> ∃ m', m' < m.mv.length - i /\ UpA m.mv.length (fun i s_1 h' => ∃ rows, St h h' (.sl s_1 3 1 rows :: [.blk h.size (mC m sf sm sl) 26]) /\ ∃ O : List Nat, rows = (natI O).map inC /\ O.Perm ((List.range i).filter (outP m s)) /\ O.Pairwise fun a b => ¬ evLt (evI m b) (evI m a)) r (IntKind.wrap .i64 ((i : Int) + 1)) h' m' := by
     intro h' r h1
     have hok := ins_ok hP hSo hxi hq hat
     refine UpA.next him (by omega) ⟨_, h1, O.take k ++ [i] ++ O.drop k, ?_, hok.1, hok.2⟩
     unfold natI
     rw [Ym, Ym, Ym, Ym]; rfl
    have e0 : subA out.a (Int.toNat 0) out.c 1 = out.a := subA_zero _ _ _
    have hpre : ∀ {h' : Heap}, Rw h' 1 out ((natI O).map inC) -> Rw h' 1 (⟨subA out.a (Int.toNat 0) out.c 1, Int.toNat (k : Int) - Int.toNat 0, out.c - Int.toNat 0⟩ : Sl) ((natI (O.take k)).map inC) := fun {h'} hr => by
     have h1 := hr.prefix (i := k) (c := out.c - Int.toNat 0) hko
     rw [e0]
     unfold natI at h1 ⊢
     rw [List.map_take, List.map_take]
     exact h1
    have hsuf : ∀ {h' : Heap}, Rw h' 1 out ((natI O).map inC) -> Rw h' 1 (⟨subA out.a (Int.toNat (k : Int)) out.c 1, Int.toNat (out.n : Nat) - Int.toNat (k : Int), out.c - Int.toNat (k : Int)⟩ : Sl) ((natI (O.drop k)).map inC) := fun {h'} hr => by
     have h1 := M.intrw hr hocap.2.1 (i := k) hko
     unfold natI at h1 ⊢
     rw [List.map_drop]
     exact h1
    have hnilp : (⟨subA out.a (Int.toNat 0) out.c 1, Int.toNat (k : Int) - Int.toNat 0, out.c - Int.toNat 0⟩ : Sl).a = none -> (⟨subA out.a (Int.toNat 0) out.c 1, Int.toNat (k : Int) - Int.toNat 0, out.c - Int.toNat 0⟩ : Sl).n = 0 /\ (⟨subA out.a (Int.toNat 0) out.c 1, Int.toNat (k : Int) - Int.toNat 0, out.c - Int.toNat 0⟩ : Sl).c = 0 := by
     intro hn
     have hn : subA out.a (Int.toNat 0) out.c 1 = none := hn
     rw [e0] at hn
     have := hocap.2.2 hn
     exact ⟨by show Int.toNat (k : Int) - Int.toNat 0 = 0; omega, by show out.c - Int.toNat 0 = 0; omega⟩
    have hnils : (⟨subA out.a (Int.toNat (k : Int)) out.c 1, Int.toNat (out.n : Nat) - Int.toNat (k : Int), out.c - Int.toNat (k : Int)⟩ : Sl).a = none -> (⟨subA out.a (Int.toNat (k : Int)) out.c 1, Int.toNat (out.n : Nat) - Int.toNat (k : Int), out.c - Int.toNat (k : Int)⟩ : Sl).n = 0 /\ (⟨subA out.a (Int.toNat (k : Int)) out.c 1, Int.toNat (out.n : Nat) - Int.toNat (k : Int), out.c - Int.toNat (k : Int)⟩ : Sl).c = 0 := fun hn => M.subA_nil hocap.2.2 hn
    refine ⟨⟨by omega, by omega, by omega⟩, ⟨by omega, by omega, by omega⟩, ?_, ?_⟩
    ·
     refine hs.newb fun h76 hs => ?_
     have hs := hs.blkS 0 1 [] rfl (by simp) rfl (by decide)
     refine ⟨?_, ?_⟩
     ·
      refine hs.appRw 0 (rows := []) (news := (natI (O.take k)).map inC) rfl app42 (y := ⟨subA out.a (Int.toNat 0) out.c 1, Int.toNat (k : Int) - Int.toNat 0, out.c - Int.toNat 0⟩) (hpre (hs.rows 1 (s := out) (cs := inC) (l := natI O) rfl (by omega))) (inrows _) hnilp (flat_oneB (fun _ => rfl) _) (by show (0 + (Int.toNat (k : Int) - Int.toNat 0)) * 8 <= _; omega) (by show 0 + (Int.toNat (k : Int) - Int.toNat 0) <= _; simp only [maxLen]; omega) fun s77 h78 n77 hs => ?_
      replace n77 : s77.n = k := by rw [n77]; show 0 + (Int.toNat (k : Int) - Int.toNat 0) = k; omega
      refine hs.app 0 rfl app42 (m := 1) [[.int .i64 (i : Nat)]] rfl rfl (by simp) rfl (by omega) (by simp only [maxLen]; omega) fun s80 h81 n80 hs => ?_
      refine hs.appRw 0 (rows := (natI (O.take k)).map inC ++ [[.int .i64 (i : Nat)]]) (news := (natI (O.drop k)).map inC) rfl app42 (y := ⟨subA out.a (Int.toNat (k : Int)) out.c 1, Int.toNat (out.n : Nat) - Int.toNat (k : Int), out.c - Int.toNat (k : Int)⟩) (hsuf (hs.rows 1 (s := out) (cs := inC) (l := natI O) rfl (by omega))) (inrows _) hnils (flat_oneB (fun _ => rfl) _) (by show (_ + (Int.toNat (out.n : Nat) - Int.toNat (k : Int))) * 8 <= _; omega) (by show _ + (Int.toNat (out.n : Nat) - Int.toNat (k : Int)) <= _; simp only [maxLen]; omega) fun s82 h83 n82 hs => ?_
      refine fin (hs.sub ?_)
      exact .cons_cons _ (.cons _ (.cons_cons _ .slnil))
     ·
      refine hs.newb fun h85 hs => ?_
      refine hs.appRw 1 (rows := []) (news := (natI (O.take k)).map inC) rfl app42 (y := ⟨subA out.a (Int.toNat 0) out.c 1, Int.toNat (k : Int) - Int.toNat 0, out.c - Int.toNat 0⟩) (hpre (hs.rows 2 (s := out) (cs := inC) (l := natI O) rfl (by omega))) (inrows _) hnilp (flat_oneB (fun _ => rfl) _) (by show (0 + (Int.toNat (k : Int) - Int.toNat 0)) * 8 <= _; omega) (by show 0 + (Int.toNat (k : Int) - Int.toNat 0) <= _; simp only [maxLen]; omega) fun s77 h78 n77 hs => ?_
      replace n77 : s77.n = k := by rw [n77]; show 0 + (Int.toNat (k : Int) - Int.toNat 0) = k; omega
      refine hs.appended 1 (rows := (natI (O.take k)).map inC) rfl app42 (m := 1) (news := [[.int .i64 (i : Nat)]]) (hs.at 0 rfl (n := 1) rfl) rfl (by simp) rfl (by omega) (by simp only [maxLen]; omega) fun s80 h81 n80 hs => ?_
      refine hs.appRw 1 (rows := (natI (O.take k)).map inC ++ [[.int .i64 (i : Nat)]]) (news := (natI (O.drop k)).map inC) rfl app42 (y := ⟨subA out.a (Int.toNat (k : Int)) out.c 1, Int.toNat (out.n : Nat) - Int.toNat (k : Int), out.c - Int.toNat (k : Int)⟩) (hsuf (hs.rows 2 (s := out) (cs := inC) (l := natI O) rfl (by omega))) (inrows _) hnils (flat_oneB (fun _ => rfl) _) (by show (_ + (Int.toNat (out.n : Nat) - Int.toNat (k : Int))) * 8 <= _; omega) (by show _ + (Int.toNat (out.n : Nat) - Int.toNat (k : Int)) <= _; simp only [maxLen]; omega) fun s82 h83 n82 hs => ?_
      refine fin (hs.sub ?_)
      exact .cons _ (.cons_cons _ (.cons _ (.cons_cons _ .slnil)))
    ·
     refine hs.newb fun h93 hs => ?_
     refine hs.newb fun h94 hs => ?_
     have hs := hs.blkS 0 1 [] rfl (by simp) rfl (by decide)
     refine hs.appRw 0 (rows := []) (news := (natI (O.take k)).map inC) rfl app42 (y := ⟨subA out.a (Int.toNat 0) out.c 1, Int.toNat (k : Int) - Int.toNat 0, out.c - Int.toNat 0⟩) (hpre (hs.rows 2 (s := out) (cs := inC) (l := natI O) rfl (by omega))) (inrows _) hnilp (flat_oneB (fun _ => rfl) _) (by show (0 + (Int.toNat (k : Int) - Int.toNat 0)) * 8 <= _; omega) (by show 0 + (Int.toNat (k : Int) - Int.toNat 0) <= _; simp only [maxLen]; omega) fun s77 h78 n77 hs => ?_
     replace n77 : s77.n = k := by rw [n77]; show 0 + (Int.toNat (k : Int) - Int.toNat 0) = k; omega
     refine hs.appended 0 (rows := (natI (O.take k)).map inC) rfl app42 (m := 1) (news := [[.int .i64 (i : Nat)]]) (hs.at 1 rfl (n := 1) rfl) rfl (by simp) rfl (by omega) (by simp only [maxLen]; omega) fun s80 h81 n80 hs => ?_
     refine hs.appRw 0 (rows := (natI (O.take k)).map inC ++ [[.int .i64 (i : Nat)]]) (news := (natI (O.drop k)).map inC) rfl app42 (y := ⟨subA out.a (Int.toNat (k : Int)) out.c 1, Int.toNat (out.n : Nat) - Int.toNat (k : Int), out.c - Int.toNat (k : Int)⟩) (hsuf (hs.rows 2 (s := out) (cs := inC) (l := natI O) rfl (by omega))) (inrows _) hnils (flat_oneB (fun _ => rfl) _) (by show (_ + (Int.toNat (out.n : Nat) - Int.toNat (k : Int))) * 8 <= _; omega) (by show _ + (Int.toNat (out.n : Nat) - Int.toNat (k : Int)) <= _; simp only [maxLen]; omega) fun s82 h83 n82 hs => ?_
     refine fin (hs.sub ?_)
     exact .cons_cons _ (.cons _ (.cons _ (.cons_cons _ .slnil)))
 ·
  refine ⟨out, O, rfl, hs.sub (.cons_cons _ (.cons _ .slnil)), ?_, hSo⟩
  rw [show i = m.mv.length by omega] at hP
  exact hP
theorem refOut62 (m : Mch) (sf sm sl : Sl) (s : Int) (h : Heap) (hM : MI h m sf sm sl) :
  Fn Pz 62 #[.agg ⟨mC m sf sm sl⟩, .int .i64 s] h fun v h' => Ext h h' /\ ∃ (r : Sl) (O : List Nat), v = .slice r.a r.n r.c /\ Rw h' 1 r ((natI O).map inC) /\ O.Perm (outIx m s) /\ O.Pairwise fun a b => ¬ evLt (evI m b) (evI m a) := by
 refine (refOut62S m sf sm sl s h hM).mono ?_
 rintro _ h' ⟨r, O, rfl, hs, hP, hSo⟩
 exact ⟨hs.ext, r, O, rfl, hs.rows 0 rfl (by omega), hP, hSo⟩
end Go.VC
end

section
/- Contracts: Moves, Sends and Timeout on both sides; the walk of the law of moves. (Numbers of layer 26's seat.) -/
namespace Go.VC
open Go.Proofs Go.LexS
def t0 : To := ⟨0, 0, 0⟩
end Go.VC
end

section
/- Plain: the search for a history that one machine makes and another one cannot; it is a shortest one. -/
namespace Go.VC
open Go.Proofs Go.LexS
structure Vs where
 a : Int
 b : Int
 h : List Ev
def Vs.p (v : Vs) : Int × Int := (v.a, v.b)
theorem nodup_le : ∀ (n : Nat) (l : List Nat), l.Nodup -> (∀ x ∈ l, x < n) -> l.length <= n
 | 0, l, _, h => by
  cases l with
  | nil => exact Nat.le_refl _
  | cons a l => have := h a Yx; omega
 | n + 1, l, hn, h => by
  by_cases hm : n ∈ l
  ·
   have h1 := nodup_le n (l.erase n) (hn.erase n) fun x hx => by
    have := (hn.mem_erase_iff).1 hx
    have h2 := h x this.2
    have h3 : x ≠ n := this.1
    omega
   rw [List.length_erase_of_mem hm] at h1; omega
  ·
   have h1 := nodup_le n l hn fun x hx => by
    have h2 := h x hx
    have h3 : x ≠ n := fun e => hm (e ▸ hx)
    omega
   omega
def MvsOk (m : Mch) (S : Int -> List Nat) : Prop := ∀ s i, i ∈ S s ↔ ∃ x, m.mv[i]? = some x /\ x.f = s
end Go.VC
end

section
/- Contract: the search of inclusion. (Numbers of layer 26's seat.) -/
namespace Go.VC
open Go.Proofs Go.LexS Go.Maps
def pk (p : Int × Int) : Value := .agg ⟨[.int .i64 p.1, .int .i64 p.2]⟩
/-! ### slices.Reverse -/
/-! ### the moves of a state, in the one order -/
theorem srt_uniq {m : Mch} (hD : DetM m) {s : Int} {O Q : List Nat} (p1 : O.Perm (outIx m s)) (s1 : O.Pairwise fun a b => ¬ evLt (evI m b) (evI m a)) (p2 : Q.Perm (outIx m s)) (s2 : Q.Pairwise fun a b => ¬ evLt (evI m b) (evI m a)) : O = Q := by
 refine List.Perm.eq_of_pairwise (le := fun a b => ¬ evLt (evI m b) (evI m a)) (fun a b ha hb h3 h4 => ?_) s1 s2 (p1.trans p2.symm)
 obtain ⟨x, hx, hxf⟩ := outIx_mem.1 (p1.mem_iff.1 ha)
 obtain ⟨y, hy, hyf⟩ := outIx_mem.1 (p2.mem_iff.1 hb)
 by_cases e : a = b
 ·
  exact e
 ·
  have := (hD a b x y hx hy e (by rw [hxf, hyf])).1
  rw [evI_of hx, evI_of hy] at h3 h4
  exact absurd (evLt_of h3 this) h4
open Classical in
noncomputable def mvS (m : Mch) (s : Int) : List Nat := if h : ∃ O : List Nat, O.Perm (outIx m s) /\ O.Pairwise fun a b => ¬ evLt (evI m b) (evI m a) then Classical.choose h else outIx m s
theorem mvS_eq {m : Mch} (hD : DetM m) {s : Int} {O : List Nat} (p1 : O.Perm (outIx m s)) (s1 : O.Pairwise fun a b => ¬ evLt (evI m b) (evI m a)) : mvS m s = O := by
 unfold mvS
 have h : ∃ O : List Nat, O.Perm (outIx m s) /\ O.Pairwise fun a b => ¬ evLt (evI m b) (evI m a) := ⟨O, p1, s1⟩
 rw [dif_pos h]
 have := Classical.choose_spec h
 exact srt_uniq hD this.1 this.2 p1 s1
theorem mvS_ok (m : Mch) : MvsOk m (mvS m) := fun s i => by
 rw [<- outIx_mem]
 unfold mvS
 by_cases h : ∃ O : List Nat, O.Perm (outIx m s) /\ O.Pairwise fun a b => ¬ evLt (evI m b) (evI m a)
 ·
  rw [dif_pos h]
  exact (Classical.choose_spec h).1.mem_iff
 ·
  rw [dif_neg h]
/-! ### the queue -/
structure Vt where
 a : Int
 b : Int
 ahead : Int
 x : Ev
def Vt.cs (v : Vt) : List Value := [.int .i64 v.a, .int .i64 v.b, .int .i64 v.ahead, .bool v.x.send, .int .i64 v.x.peer, .int .i64 v.x.label]
end Go.VC
end

section
/- Plain: a valid machine with its moves sorted. No program here. -/
namespace Go.VC
open Go.LexS
structure WM (m : Mch) : Prop where
 n : NumM m
 d : DetM m
 t : TimM m
theorem VM.w {m : Mch} (h : VM m) : WM m := ⟨h.n, h.d, h.t⟩
theorem evLt_nt {a b c : Ev} (h1 : ¬ evLt b a) (h2 : ¬ evLt c b) : ¬ evLt c a := fun h => by
 rcases evLt_tri a b with h3 | h3 | h3
 ·
  rcases evLt_tri b c with h4 | h4 | h4
  ·
   exact evLt_irr _ (evLt_trans (evLt_trans h3 h4) h)
  ·
   subst h4; exact evLt_irr _ (evLt_trans h3 h)
  ·
   exact h2 h4
 ·
  subst h3; exact h2 h
 ·
  exact h1 h3
theorem mvS_srt (m : Mch) (s : Int) : (mvS m s).Perm (outIx m s) /\ (mvS m s).Pairwise fun a b => ¬ evLt (evI m b) (evI m a) := by
 have hex : ∃ O : List Nat, O.Perm (outIx m s) /\ O.Pairwise fun a b => ¬ evLt (evI m b) (evI m a) := by
  refine ⟨(outIx m s).mergeSort (fun a b => !decide (evLt (evI m b) (evI m a))), List.mergeSort_perm _ _, ?_⟩
  have h := List.pairwise_mergeSort (le := fun a b => !decide (evLt (evI m b) (evI m a))) (fun a b c h1 h2 => by
   simp only [Bool.not_eq_true', decide_eq_false_iff_not] at h1 h2 ⊢
   exact evLt_nt h1 h2) (fun a b => by
   simp only [Bool.or_eq_true, Bool.not_eq_true', decide_eq_false_iff_not]
   rcases evLt_tri (evI m a) (evI m b) with h3 | h3 | h3
   ·
    exact .inl fun h => evLt_irr _ (evLt_trans h3 h)
   ·
    exact .inl fun h => by rw [h3] at h; exact evLt_irr _ h
   ·
    exact .inr fun h => evLt_irr _ (evLt_trans h3 h)) (outIx m s)
  exact h.imp fun h => by simpa using h
 unfold mvS
 rw [dif_pos hex]
 exact Classical.choose_spec hex
theorem fmap_some {α β : Type} {f : α -> Option β} : ∀ {l : List α}, (∀ i ∈ l, ∃ x, f i = some x) -> l.map f = (l.filterMap f).map some
 | [], _ => rfl
 | a :: l, h => by
  obtain ⟨x, hx⟩ := h a Yx
  rw [Yyl, List.filterMap_cons, hx, Yyl, fmap_some fun i hi => h i (Yn _ hi)]
noncomputable def rwS (m : Mch) (s : Nat) : List Mv := (mvS m (s : Int)).filterMap fun i => m.mv[i]?
theorem rwS_map (m : Mch) (s : Nat) : (mvS m (s : Int)).map (fun i => m.mv[i]?) = (rwS m s).map some := fmap_some fun i hi => by
 obtain ⟨x, hx, _⟩ := (mvS_ok m (s : Int) i).1 hi
 exact ⟨x, hx⟩
theorem rwS_len (m : Mch) (s : Nat) : (rwS m s).length = (mvS m (s : Int)).length := by
 have := congrArg List.length (rwS_map m s)
 rw [Yc, Yc] at this; exact this.symm
theorem rwS_get {m : Mch} {s j i : Nat} {x : Mv} (h : (mvS m (s : Int))[j]? = some i) (hx : m.mv[i]? = some x) : (rwS m s)[j]? = some x := by
 have := congrArg (fun l => l[j]?) (rwS_map m s)
 simp only [Yd, h, Option.map_some, hx] at this
 cases hr : (rwS m s)[j]? with
 | none => rw [hr] at this; cases this
 | some y => rw [hr] at this; simpa using this.symm
theorem rwS_of {m : Mch} {s j : Nat} {x : Mv} (h : (rwS m s)[j]? = some x) : ∃ i, (mvS m (s : Int))[j]? = some i /\ m.mv[i]? = some x /\ x.f = (s : Int) := by
 have hj := (Ya.1 h).1
 rw [rwS_len] at hj
 obtain ⟨i, hi⟩ := get_some hj
 obtain ⟨y, hy, hyf⟩ := (mvS_ok m (s : Int) i).1 (Yb hi)
 have := rwS_get hi hy
 rw [h] at this; cases this
 exact ⟨i, hi, hy, hyf⟩
theorem rwS_mem {m : Mch} {s : Nat} {x : Mv} : x ∈ rwS m s ↔ x ∈ m.mv /\ x.f = (s : Int) := by
 constructor
 ·
  intro h
  obtain ⟨j, hj⟩ := Yf.1 h
  obtain ⟨i, _, h2, h3⟩ := rwS_of hj
  exact ⟨Yb h2, h3⟩
 ·
  rintro ⟨h1, h2⟩
  obtain ⟨i, hi⟩ := Yf.1 h1
  have := (mvS_ok m (s : Int) i).2 ⟨x, hi, h2⟩
  obtain ⟨j, hj⟩ := Yf.1 this
  exact Yb (rwS_get hj hi)
theorem pair_get {α : Type} {R : α -> α -> Prop} {l : List α} (h : l.Pairwise R) {i j : Nat} {a b : α} (hij : i < j) (ha : l[i]? = some a) (hb : l[j]? = some b) : R a b := by
 obtain ⟨h1, h2⟩ := Ya.1 ha
 obtain ⟨h3, h4⟩ := Ya.1 hb
 rw [<- h2, <- h4]
 exact List.pairwise_iff_getElem.1 h i j h1 h3 hij
theorem pair_of {α : Type} {R : α -> α -> Prop} {l : List α} (h : ∀ (i j : Nat) a b, i < j -> l[i]? = some a -> l[j]? = some b -> R a b) : l.Pairwise R :=
 List.pairwise_iff_getElem.2 fun i j hi hj hij => h i j _ _ hij (Yi hi) (Yi hj)
theorem rwS_lt {m : Mch} (hD : DetM m) (s : Nat) : (rwS m s).Pairwise fun a b => evLt a.ev b.ev := pair_of fun i j a b hij ha hb => by
 obtain ⟨p, hp, hpa, hf⟩ := rwS_of ha
 obtain ⟨q, hq, hqb, hg⟩ := rwS_of hb
 obtain ⟨s1, s2⟩ := mvS_srt m (s : Int)
 have h1 := pair_get s2 hij hp hq
 rw [evI_of hpa, evI_of hqb] at h1
 have hnd : (mvS m (s : Int)).Nodup := (s1.nodup_iff).2 (outIx_nodup m s)
 have hne : p ≠ q := pair_get hnd hij hp hq
 exact evLt_of h1 (hD p q a b hpa hqb hne (by rw [hf, hg])).1
noncomputable def srtV (m : Mch) : List Mv := (List.range m.n.toNat).flatMap (rwS m)
noncomputable def srtE (m : Mch) (t : To) : To := ⟨t.s, t.k, (idxF (srtV m) (m.mv.getD t.e.toNat ⟨0, false, 0, 0, 0, false⟩) : Nat)⟩
noncomputable def srtM (m : Mch) : Mch := ⟨m.role, m.n, m.s, m.fin, srtV m, m.li.map (srtE m)⟩
theorem srtV_mem {m : Mch} (hN : NumM m) {x : Mv} : x ∈ srtV m ↔ x ∈ m.mv := by
 unfold srtV
 rw [List.mem_flatMap]
 constructor
 ·
  rintro ⟨s, _, hs⟩
  exact (rwS_mem.1 hs).1
 ·
  intro h
  have := hN.mv x h
  exact ⟨x.f.toNat, List.mem_range.2 (by omega), rwS_mem.2 ⟨h, by omega⟩⟩
theorem srtV_lt {m : Mch} (hD : DetM m) : (srtV m).Pairwise mvLt := by
 unfold srtV
 rw [List.pairwise_flatMap]
 refine ⟨fun s hs => List.Pairwise.imp_of_mem ?_ (rwS_lt hD s), ?_⟩
 ·
  intro a b ha hb hab
  exact .inr ⟨by rw [(rwS_mem.1 ha).2, (rwS_mem.1 hb).2], hab⟩
 ·
  refine List.Pairwise.imp ?_ (List.pairwise_lt_range (n := m.n.toNat))
  intro i k hik x hx y hy
  exact .inl (by rw [(rwS_mem.1 hx).2, (rwS_mem.1 hy).2]; omega)
theorem li_lt {m : Mch} (hT : TimM m) : m.li.Pairwise fun a b => a.s < b.s := by
 have key : ∀ (d i : Nat) (a b : To), m.li[i]? = some a -> m.li[i + 1 + d]? = some b -> a.s < b.s := by
  intro d
  induction d with
  | zero => exact fun i a b ha hb => (hT (i + 1) b hb).o a (by omega) ha
  | succ d ih =>
   intro i a b ha hb
   have hl := (Ya.1 hb).1
   obtain ⟨c, hc⟩ := get_some (l := m.li) (i := i + 1 + d) (by omega)
   have h1 := ih i a c ha hc
   have h2 := (hT (i + 1 + (d + 1)) b hb).o c (by omega) hc
   omega
 exact pair_of fun i j a b hij ha hb => key (j - i - 1) i a b ha (by rw [show i + 1 + (j - i - 1) = j by omega]; exact hb)
theorem li_in {m : Mch} (hV : WM m) {t : To} (ht : t ∈ m.li) : (1 <= t.k /\ t.k <= 1000) /\ ∃ y, m.mv[t.e.toNat]? = some y /\ y.f = t.s /\ y.send = true /\ y.ag = false /\ 0 <= t.s /\ t.s < m.n /\ (srtV m)[(srtE m t).e.toNat]? = some y := by
 obtain ⟨i, hi⟩ := Yf.1 ht
 have h := hV.t i t hi
 obtain ⟨_, y, hy, h1, h2, h3⟩ := h.e
 have hym := Yb hy
 have hyr := hV.n.mv y hym
 refine ⟨h.k, y, hy, h1, h2, h3, by omega, by omega, ?_⟩
 show (srtV m)[Int.toNat ((idxF (srtV m) (m.mv.getD t.e.toNat ⟨0, false, 0, 0, 0, false⟩) : Nat) : Int)]? = some y
 rw [getD_some hy, Ys]
 exact idxF_get ((srtV_mem hV.n).2 hym)
theorem li_len {m : Mch} (hV : WM m) : m.li.length <= 200 := by
 have hn := hV.n.n
 have h1 := nodup_le 200 (m.li.map fun t => t.s.toNat) ?_ ?_
 ·
  rwa [Yc] at h1
 ·
  rw [List.nodup_iff_pairwise_ne, List.pairwise_map]
  refine List.Pairwise.imp_of_mem ?_ (li_lt hV.t)
  intro a b ha hb hab
  obtain ⟨_, _, _, _, _, _, ha0, _⟩ := li_in hV ha
  obtain ⟨_, _, _, _, _, _, hb0, _⟩ := li_in hV hb
  omega
 ·
  intro x hx
  obtain ⟨t, ht, rfl⟩ := Yp.1 hx
  obtain ⟨_, _, _, _, _, _, ha0, ha1, _⟩ := li_in hV ht
  omega
theorem srtM_raw {m : Mch} (hV : WM m) : MRaw (srtM m) := by
 have hN := hV.n
 have hn := hN.n
 have hlen : (srtV m).length <= m.mv.length := by
  refine List.Nodup.length_le_of_subset ?_ fun x hx => (srtV_mem hN).1 hx
  exact (srtV_lt hV.d).imp fun {a b} hab (e : a = b) => mvLt_irr b (by rw [e] at hab; exact hab)
 refine ⟨⟨hn, hN.s, by show m.fin.length = m.n.toNat; have := hN.fl; omega, Nat.le_trans hlen hN.ml, by show (m.li.map (srtE m)).length <= _; rw [Yc]; have := li_len hV; omega, fun x hx => ?_, fun t ht => ?_⟩, srtV_lt hV.d, fun t ht => ?_, ?_⟩
 ·
  have := hN.mv x ((srtV_mem hN).1 hx)
  show 0 <= x.f /\ x.f < m.n /\ 0 <= x.t /\ x.t < m.n /\ _
  omega
 ·
  obtain ⟨t, ht2, rfl⟩ := Yp.1 ht
  obtain ⟨hk, y, _, _, _, _, h0, h1, h2⟩ := li_in hV ht2
  have := (Ya.1 h2).1
  have e1 : (srtE m t).s = t.s := rfl
  have e2 : (srtE m t).k = t.k := rfl
  have e3 : 0 <= (srtE m t).e := Int.natCast_nonneg _
  refine ⟨by rw [e1]; exact h0, by rw [e1]; exact h1, e3, ?_, by rw [e2]; omega⟩
  show (srtE m t).e < ((srtV m).length : Int)
  omega
 ·
  obtain ⟨t, ht2, rfl⟩ := Yp.1 ht
  obtain ⟨_, y, _, h1, _, _, _, _, h2⟩ := li_in hV ht2
  exact ⟨y, h2, h1⟩
 ·
  show ((m.li.map (srtE m)).map (·.s)).Nodup
  rw [List.map_map, List.nodup_iff_pairwise_ne, List.pairwise_map]
  exact (li_lt hV.t).imp fun {a b} hab => by show a.s ≠ b.s; omega
theorem outM_srt {m : Mch} {s : Nat} (hs : s < m.n.toNat) : outM (srtM m) s = rwS m s := by
 have := flat_filter (rows := rwS m) (fun k y hy => (rwS_mem.1 hy).2) s m.n.toNat
 rw [if_pos hs] at this
 exact this
def limT (m : Mch) (s : Int) : Option To := m.li.find? fun t => decide (t.s = s)
theorem filter_one {α : Type} {p : α -> Bool} : ∀ {l : List α}, (l.Pairwise fun a b => ¬ (p a = true /\ p b = true)) -> l.filter p = (l.find? p).toList
 | [], _ => rfl
 | a :: l, h => by
  rw [List.pairwise_cons] at h
  rw [List.find?_cons]
  cases hp : p a with
  | true =>
   rw [List.filter_cons_of_pos hp]
   have : l.filter p = [] := List.filter_eq_nil_iff.2 fun b hb hpb => h.1 b hb ⟨hp, hpb⟩
   rw [this]; rfl
  | false =>
   rw [List.filter_cons_of_neg (by rw [hp]; simp)]
   exact filter_one h.2
theorem limT_filter {m : Mch} (hT : TimM m) (s : Int) : (m.li.filter fun t => decide (t.s = s)) = (limT m s).toList :=
 filter_one ((li_lt hT).imp fun {a b} hab h => by
  have h1 := of_decide_eq_true h.1
  have h2 := of_decide_eq_true h.2
  omega)
theorem limT_mem {m : Mch} {s : Int} {t : To} (h : limT m s = some t) : t ∈ m.li /\ t.s = s := ⟨List.mem_of_find?_eq_some h, of_decide_eq_true (p := t.s = s) (by have := List.find?_some (p := fun t : To => decide (t.s = s)) h; exact this)⟩
theorem srt_filter {m : Mch} (hT : TimM m) (s : Int) : ((srtM m).li.filter fun t => decide (t.s = s)) = ((limT m s).map (srtE m)).toList := by
 show (m.li.map (srtE m)).filter _ = _
 rw [List.filter_map]
 have e : ((fun t : To => decide (t.s = s)) ∘ srtE m) = fun t : To => decide (t.s = s) := rfl
 rw [e, limT_filter hT]
 cases limT m s <;> rfl
theorem lim_srt {m : Mch} (hT : TimM m) (s : Int) : mget (limM (srtM m).li) s = (limT m s).map (srtE m) := by
 rw [limM_get, srt_filter hT]
 cases limT m s <;> rfl
/-! ### what tells states apart, al the table tells it -/
def sgT (m : Mch) (s : Nat) : Sg := match limT m (s : Int) with
 | some t => ⟨0, 1, evI m t.e.toNat, false, t.k⟩
 | none => ⟨0, 1, ev0, false, 0⟩
noncomputable def keyT (m : Mch) (C : List Nat) (s : Nat) : List Sg := ((rwS m s).map (sgM C)).reverse ++ [sgT m s, sgB C m.fin s]
noncomputable def clsT (m : Mch) (C : List Nat) : List (List Sg) := (List.range m.n.toNat).map (keyT m C)
theorem sgL_srt {m : Mch} (hV : WM m) {t : To} (ht : t ∈ m.li) : sgL (srtM m).mv (srtE m t) = ⟨0, 1, evI m t.e.toNat, false, t.k⟩ := by
 obtain ⟨_, y, hy, _, _, _, _, _, h2⟩ := li_in hV ht
 unfold sgL
 rw [show (srtM m).mv = srtV m from rfl, h2, evI_of hy]; rfl
theorem keyT_iff {m : Mch} (hV : WM m) {C : List Nat} {x y : Nat} (hx : x < m.n.toNat) (hy : y < m.n.toNat) : keyT m C x = keyT m C y ↔ keyS (srtM m) C x = keyS (srtM m) C y := by
 have hl : ∀ s : Nat, ((srtM m).li.filter fun t => t.s = (s : Int)).map (sgL (srtM m).mv) = match limT m (s : Int) with | some t => [⟨0, 1, evI m t.e.toNat, false, t.k⟩] | none => [] := fun s => by
  rw [srt_filter hV.t]
  cases hs : limT m (s : Int) with
  | none => rfl
  | some t =>
   show [sgL (srtM m).mv (srtE m t)] = _
   rw [sgL_srt hV (limT_mem hs).1]
 have ht : sgT m x = sgT m y ↔ ((srtM m).li.filter fun t => t.s = (x : Int)).map (sgL (srtM m).mv) = ((srtM m).li.filter fun t => t.s = (y : Int)).map (sgL (srtM m).mv) := by
  rw [hl, hl]
  unfold sgT
  cases h1 : limT m (x : Int) with
  | none =>
   cases h2 : limT m (y : Int) with
   | none => exact iff_of_true rfl rfl
   | some t =>
    have := (li_in hV (limT_mem h2).1).1
    refine iff_of_false (fun e => ?_) (fun e => by cases e)
    have := congrArg Sg.num e
    have : (0 : Int) = t.k := this
    omega
  | some t =>
   cases h2 : limT m (y : Int) with
   | none =>
    have := (li_in hV (limT_mem h1).1).1
    refine iff_of_false (fun e => ?_) (fun e => by cases e)
    have := congrArg Sg.num e
    have : t.k = (0 : Int) := this
    omega
   | some t' => exact ⟨fun e => congrArg (fun z => [z]) e, fun e => (List.cons.inj e).1⟩
 constructor
 ·
  intro h
  unfold keyT at h
  obtain ⟨h1, h2⟩ := List.append_inj' h rfl
  have h1 := List.reverse_inj.1 h1
  simp only [List.cons.injEq, and_true] at h2
  refine keyS_mk ?_ (ht.1 h2.1) h2.2
  rw [outM_srt hx, outM_srt hy]; exact h1
 ·
  intro h
  obtain ⟨h1, h2, h3⟩ := keyS_parts h
  rw [outM_srt hx, outM_srt hy] at h1
  have h3 : sgB C m.fin x = sgB C m.fin y := h3
  unfold keyT
  rw [h1, ht.2 h2, h3]
theorem clsT_eq {m : Mch} (hV : WM m) (C : List Nat) : canonL (clsT m C) = canonL (clsK (srtM m) C) /\ (dedF (clsT m C)).length = (dedF (clsK (srtM m) C)).length := by
 refine canon_eq (by rw [clsK_len]; unfold clsT; rw [Yc, Yyd]; rfl) fun i j a b a' b' h1 h2 h3 h4 => ?_
 have hi := (Ya.1 h1).1
 have hj := (Ya.1 h2).1
 unfold clsT at h1 h2 hi hj
 rw [Yc, Yyd] at hi hj
 rw [Yd, Yyb hi] at h1
 rw [Yd, Yyb hj] at h2
 rw [clsK_get (show i < (srtM m).n.toNat from hi)] at h3
 rw [clsK_get (show j < (srtM m).n.toNat from hj)] at h4
 cases h1; cases h2; cases h3; cases h4
 exact keyT_iff hV hi hj
end Go.VC
end

section
namespace Go.VC
open Go.Proofs

def W135 (p0 : Addr) (p1 : Int) (h : Heap) (R : Value -> Heap -> Prop) : Prop :=
 (Wn h [.bool false, vI 0, vI 0] 79 fun h1 =>
 (∃ x2, rS h1 ⟨p0.block, p0.off + 5, none⟩ x2 /\
 (QI 0 h1 fun I3 x_6 h7 m5 => (
 (sB (decide (x_6 < (x2.n : Int)))
 ((NB x2.a fun b8 o9 => (Ib x_6 x2.n /\
 (∃ x10 x11 x12, aL4 h7 ⟨b8, o9 + Int.toNat x_6 * 3, none⟩ x10 x11 x12 /\
 (Wn h7 [vI 0, vI 0, vI 0] 44 fun h13 =>
 (Wp h13 (aS h7 0) 3 (L4 x10 x11 x12) fun h14 =>
 (∃ x15, rI h14 (aS h7 0) x15 /\
 (sB (x15 == p1)
 ((∃ x16, rI h14 (aS h7 1) x16 /\
 (∃ x17, rS h14 ⟨p0.block, p0.off + 4, none⟩ x17 /\
 (∃ x18, rI h14 (aS h7 2) x18 /\
 (NB x17.a fun b19 o20 => (Ib x18 x17.n /\
 (∃ x21 x22 x23 x24 x25 x26, aL1 h14 ⟨b19, o20 + Int.toNat x18 * 6, none⟩ x21 x22 x23 x24 x25 x26 /\
 (Fn Pz 63 #[.agg ⟨(L1 x21 x22 x23 x24 x25 x26)⟩] h14
 (fun v27 h31 => ∃ (x28 : Bool) (x29 x30 : Int), v27 = .agg ⟨(L2 x28 x29 x30)⟩ /\
 (Sm [(aS h7 1)] h14 h31 /\
 (Wp h31 (aS h 0) 3 (L2 x28 x29 x30) fun h32 =>
 (∃ x33 x34 x35, aL2 h32 (aS h 0) x33 x34 x35 /\
 R (.tuple ⟨[vI x16, .agg ⟨(L2 x33 x34 x35)⟩]⟩) h32))))))))))))
 ((∃ m36, m36 < m5 /\ I3 (IntKind.wrap .i64 (x_6 + 1)) h14 m36))))))))))
 ((Wp h7 (aS h 0) 3 [.bool false, vI 0, vI 0] fun h37 =>
 (∃ x38 x39 x40, aL2 h37 (aS h 0) x38 x39 x40 /\
 R (.tuple ⟨[vI 0, .agg ⟨(L2 x38 x39 x40)⟩]⟩) h37))))))))
theorem vc135 (p0 : Addr) (p1 : Int) (h : Heap) (R : Value -> Heap -> Prop) (H : W135 p0 p1 h R) : Fn Pz 135 #[.pointer (some p0), vI p1] h R := fnI (A := (.s .z (.s (.s .z (.b (.l [(14, .one (.int .i64))] .z))) .z))) (by kernel_rfl) H

def W136 (p0_1 p0_2 p0_3 : Int) (p0_4 : Bool) (p0_5 p0_6 : Int) (p0_7 : Bool) (c0 : Addr) (c1 : Addr) (h : Heap) (R : Value -> Heap -> Prop) : Prop :=
 (Wn h (L12 p0_1 p0_2 p0_3 p0_4 p0_5 p0_6 p0_7) 193 fun h8 =>
 (∃ x9 : Option Nat, hc h8 c0 = some (.map x9) /\
 (∃ x10 x11 x12 x13 x14 x15 x16, aL12 h8 (aS h 0) x10 x11 x12 x13 x14 x15 x16 /\
 (RunW Pz (Instr.lookup 191 (.map x9) (.agg ⟨(L12 x10 x11 x12 x13 x14 x15 x16)⟩) true) h8
 (fun v17 h20 => ∃ (x18 : Int) (x19 : Bool), v17 = .tuple ⟨[vI x18, .bool x19]⟩ /\
 (sB (!x19)
 ((∃ x21 : Option Nat, hc h20 c0 = some (.map x21) /\
 (∃ x22 : Option Addr, hc h20 c1 = some (.pointer x22) /\
 (NC x22 fun a23 => (∃ x24, rI h20 ⟨a23.block, a23.off + 1, none⟩ x24 /\
 (RunW Pz (Builtin.len_ #[191] 3 #[.map x21]) h20
 (fun v25 h27 => ∃ x26, iI v25 x26 /\
 (Sm [⟨a23.block, a23.off + 1, none⟩, c1] h20 h27 /\
 (∃ x28 : Option Nat, hc h27 c0 = some (.map x28) /\
 (∃ x29 x30 x31 x32 x33 x34 x35, aL12 h27 (aS h 0) x29 x30 x31 x32 x33 x34 x35 /\
 (RunW Pz (Instr.mapUpdate 191 (.map x28) (.agg ⟨(L12 x29 x30 x31 x32 x33 x34 x35)⟩) (vI (IntKind.wrap .i64 ((IntKind.wrap .i64 (x26 + x24)) + 2)))) h27 (fun _ h36 =>
 R (vI (IntKind.wrap .i64 ((IntKind.wrap .i64 (x26 + x24)) + 2))) h36))))))))))))
 (R (vI x18) h20)))))))
theorem vc136 (p0_1 p0_2 p0_3 : Int) (p0_4 : Bool) (p0_5 p0_6 : Int) (p0_7 : Bool) (c0 : Addr) (c1 : Addr) (h : Heap) (R : Value -> Heap -> Prop) (H : W136 p0_1 p0_2 p0_3 p0_4 p0_5 p0_6 p0_7 c0 c1 h R) : Fn Pz 136 #[.agg ⟨(L12 p0_1 p0_2 p0_3 p0_4 p0_5 p0_6 p0_7)⟩, .pointer (some c0), .pointer (some c1)] h R := fnI (A := .z) (by kernel_rfl) H

def W38 (p0_1 p0_2 p0_3 : Int) (p0_4 p0_5 p0_6 : Sl) (h : Heap) (R : Value -> Heap -> Prop) : Prop :=
 (Wn h (L0 p0_1 p0_2 p0_3 p0_4 p0_5 p0_6) 26 fun h7 =>
 (Wn h7 [vI 0, vI 0, vI 0, .slice none 0 0, .slice none 0 0, .slice none 0 0] 26 fun h8 =>
 (∃ x9 x10 x11 x12 x13 x14, aL0 h8 (aS h 0) x9 x10 x11 x12 x13 x14 /\
 (Fn Pz 47 #[.agg ⟨(L0 x9 x10 x11 x12 x13 x14)⟩] h8
 (fun v15 h18 => ∃ x16 : Option Addr, ∃ x17 : Bool, v15 = .tuple ⟨[.pointer x16, .bool x17]⟩ /\
 (sB (!x17)
 ((Wp h18 (aS h7 0) 6 [vI 0, vI 0, vI 0, .slice none 0 0, .slice none 0 0, .slice none 0 0] fun h19 =>
 (∃ x20 x21 x22 x23 x24 x25, aL0 h19 (aS h7 0) x20 x21 x22 x23 x24 x25 /\
 R (.tuple ⟨[.agg ⟨(L0 x20 x21 x22 x23 x24 x25)⟩, vI 1]⟩) h19)))
 ((∃ x26, rI h18 (aS h 1) x26 /\
 (Mk x26 x26 8 /\ Wn h18 (madeL Pz 3 (Int.toNat x26)) 3 fun h27 =>
 (QI 0 h27 fun I28 x_31 h32 m30 => (
 (sB (decide (x_31 < ((Int.toNat x26) : Int)))
 (((0 <= (x_31 : Int) /\ (x_31 : Int) < ((Int.toNat x26) : Nat)) /\
 (Wp h32 (aS h18 (0 + Int.toNat x_31 * 1)) 1 [vI x_31] fun h33 =>
 (∃ m34, m34 < m30 /\ I28 (IntKind.wrap .i64 (x_31 + 1)) h33 m34))))
 ((∃ x35, rI h32 (aS h 1) x35 /\
 (Fn Pz 74 #[.pointer x16, .slice (some (aS h18 0)) (Int.toNat x26) (Int.toNat x26), vI x35] h32
 (fun v36 h43 => ∃ (x37 x38 x39 : Int) (x40 x41 x42 : Sl), v36 = .agg ⟨(L0 x37 x38 x39 x40 x41 x42)⟩ /\
 (Wp h43 (aS h7 0) 6 (L0 x37 x38 x39 x40 x41 x42) fun h44 =>
 (∃ x45 x46 x47 x48 x49 x50, aL0 h44 (aS h7 0) x45 x46 x47 x48 x49 x50 /\
 R (.tuple ⟨[.agg ⟨(L0 x45 x46 x47 x48 x49 x50)⟩, vI 0]⟩) h44))))))))))))))))))
theorem vc38 (p0_1 p0_2 p0_3 : Int) (p0_4 p0_5 p0_6 : Sl) (h : Heap) (R : Value -> Heap -> Prop) (H : W38 p0_1 p0_2 p0_3 p0_4 p0_5 p0_6 h R) : Fn Pz 38 #[.agg ⟨(L0 p0_1 p0_2 p0_3 p0_4 p0_5 p0_6)⟩] h R := fnI (A := (.s .z (.s .z (.s .z (.s .z (.s (.s .z (.b (.l [(21, .one (.int .i64))] .z))) .z)))))) (by kernel_rfl) H

def W37 (p0_1 p0_2 p0_3 : Int) (p0_4 p0_5 p0_6 : Sl) (h : Heap) (R : Value -> Heap -> Prop) : Prop :=
 (Wn h (L0 p0_1 p0_2 p0_3 p0_4 p0_5 p0_6) 26 fun h7 =>
 (Wn h7 [vI 0, vI 0, vI 0, .slice none 0 0, .slice none 0 0, .slice none 0 0] 26 fun h8 =>
 (∃ x9 x10 x11 x12 x13 x14, aL0 h8 (aS h 0) x9 x10 x11 x12 x13 x14 /\
 (Fn Pz 47 #[.agg ⟨(L0 x9 x10 x11 x12 x13 x14)⟩] h8
 (fun v15 h18 => ∃ x16 : Option Addr, ∃ x17 : Bool, v15 = .tuple ⟨[.pointer x16, .bool x17]⟩ /\
 (sB (!x17)
 ((Wp h18 (aS h7 0) 6 [vI 0, vI 0, vI 0, .slice none 0 0, .slice none 0 0, .slice none 0 0] fun h19 =>
 (∃ x20 x21 x22 x23 x24 x25, aL0 h19 (aS h7 0) x20 x21 x22 x23 x24 x25 /\
 R (.tuple ⟨[.agg ⟨(L0 x20 x21 x22 x23 x24 x25)⟩, vI 1]⟩) h19)))
 ((Fn Pz 75 #[.pointer x16] h18
 (fun v26 h29 => ∃ (x27 : Sl) (x28 : Int), v26 = .tuple ⟨[vS x27, vI x28]⟩ /\
 (Fn Pz 74 #[.pointer x16, vS x27, vI x28] h29
 (fun v30 h37 => ∃ (x31 x32 x33 : Int) (x34 x35 x36 : Sl), v30 = .agg ⟨(L0 x31 x32 x33 x34 x35 x36)⟩ /\
 (Wp h37 (aS h7 0) 6 (L0 x31 x32 x33 x34 x35 x36) fun h38 =>
 (∃ x39 x40 x41 x42 x43 x44, aL0 h38 (aS h7 0) x39 x40 x41 x42 x43 x44 /\
 R (.tuple ⟨[.agg ⟨(L0 x39 x40 x41 x42 x43 x44)⟩, vI 0]⟩) h38)))))))))))))
theorem vc37 (p0_1 p0_2 p0_3 : Int) (p0_4 p0_5 p0_6 : Sl) (h : Heap) (R : Value -> Heap -> Prop) (H : W37 p0_1 p0_2 p0_3 p0_4 p0_5 p0_6 h R) : Fn Pz 37 #[.agg ⟨(L0 p0_1 p0_2 p0_3 p0_4 p0_5 p0_6)⟩] h R := fnI (A := .z) (by kernel_rfl) H

def W40 (p0_1 p0_2 p0_3 : Int) (p0_4 p0_5 p0_6 : Sl) (h : Heap) (R : Value -> Heap -> Prop) : Prop :=
 (Wn h (L0 p0_1 p0_2 p0_3 p0_4 p0_5 p0_6) 26 fun h7 =>
 (Wn h7 [vI 0, vI 0, vI 0, .slice none 0 0, .slice none 0 0, .slice none 0 0] 26 fun h8 =>
 (∃ x9 x10 x11 x12 x13 x14, aL0 h8 (aS h 0) x9 x10 x11 x12 x13 x14 /\
 (Fn Pz 24 #[.agg ⟨(L0 x9 x10 x11 x12 x13 x14)⟩] h8
 (fun v15 h17 => ∃ x16, iB v15 x16 /\
 (sB (!x16)
 ((Wp h17 (aS h7 0) 6 [vI 0, vI 0, vI 0, .slice none 0 0, .slice none 0 0, .slice none 0 0] fun h18 =>
 (∃ x19 x20 x21 x22 x23 x24, aL0 h18 (aS h7 0) x19 x20 x21 x22 x23 x24 /\
 R (.tuple ⟨[.agg ⟨(L0 x19 x20 x21 x22 x23 x24)⟩, vI 1]⟩) h18)))
 ((∃ x25 x26 x27 x28 x29 x30, aL0 h17 (aS h 0) x25 x26 x27 x28 x29 x30 /\
 (Fn Pz 77 #[.agg ⟨(L0 x25 x26 x27 x28 x29 x30)⟩] h17
 (fun v31 h38 => ∃ (x32 x33 x34 : Int) (x35 x36 x37 : Sl), v31 = .agg ⟨(L0 x32 x33 x34 x35 x36 x37)⟩ /\
 (Wp h38 (aS h7 0) 6 (L0 x32 x33 x34 x35 x36 x37) fun h39 =>
 (∃ x40 x41 x42 x43 x44 x45, aL0 h39 (aS h7 0) x40 x41 x42 x43 x44 x45 /\
 R (.tuple ⟨[.agg ⟨(L0 x40 x41 x42 x43 x44 x45)⟩, vI 0]⟩) h39))))))))))))
theorem vc40 (p0_1 p0_2 p0_3 : Int) (p0_4 p0_5 p0_6 : Sl) (h : Heap) (R : Value -> Heap -> Prop) (H : W40 p0_1 p0_2 p0_3 p0_4 p0_5 p0_6 h R) : Fn Pz 40 #[.agg ⟨(L0 p0_1 p0_2 p0_3 p0_4 p0_5 p0_6)⟩] h R := fnI (A := .z) (by kernel_rfl) H

def W39 (p0_1 p0_2 p0_3 : Int) (p0_4 p0_5 p0_6 : Sl) (h : Heap) (R : Value -> Heap -> Prop) : Prop :=
 (Wn h (L0 p0_1 p0_2 p0_3 p0_4 p0_5 p0_6) 26 fun h7 =>
 (Wn h7 [vI 0, vI 0, vI 0, .slice none 0 0, .slice none 0 0, .slice none 0 0] 26 fun h8 =>
 (∃ x9 x10 x11 x12 x13 x14, aL0 h8 (aS h 0) x9 x10 x11 x12 x13 x14 /\
 (Fn Pz 24 #[.agg ⟨(L0 x9 x10 x11 x12 x13 x14)⟩] h8
 (fun v15 h17 => ∃ x16, iB v15 x16 /\
 (sB (!x16)
 ((Wp h17 (aS h7 0) 6 [vI 0, vI 0, vI 0, .slice none 0 0, .slice none 0 0, .slice none 0 0] fun h18 =>
 (∃ x19 x20 x21 x22 x23 x24, aL0 h18 (aS h7 0) x19 x20 x21 x22 x23 x24 /\
 R (.tuple ⟨[.agg ⟨(L0 x19 x20 x21 x22 x23 x24)⟩, vI 1]⟩) h18)))
 ((∃ x25 x26 x27 x28 x29 x30, aL0 h17 (aS h 0) x25 x26 x27 x28 x29 x30 /\
 (Fn Pz 76 #[.agg ⟨(L0 x25 x26 x27 x28 x29 x30)⟩] h17
 (fun v31 h38 => ∃ (x32 x33 x34 : Int) (x35 x36 x37 : Sl), v31 = .agg ⟨(L0 x32 x33 x34 x35 x36 x37)⟩ /\
 (Wp h38 (aS h7 0) 6 (L0 x32 x33 x34 x35 x36 x37) fun h39 =>
 (∃ x40 x41 x42 x43 x44 x45, aL0 h39 (aS h7 0) x40 x41 x42 x43 x44 x45 /\
 R (.tuple ⟨[.agg ⟨(L0 x40 x41 x42 x43 x44 x45)⟩, vI 0]⟩) h39))))))))))))
theorem vc39 (p0_1 p0_2 p0_3 : Int) (p0_4 p0_5 p0_6 : Sl) (h : Heap) (R : Value -> Heap -> Prop) (H : W39 p0_1 p0_2 p0_3 p0_4 p0_5 p0_6 h R) : Fn Pz 39 #[.agg ⟨(L0 p0_1 p0_2 p0_3 p0_4 p0_5 p0_6)⟩] h R := fnI (A := .z) (by kernel_rfl) H

end Go.VC
end

section
namespace Go.VC
open Go.Proofs

def W75 (p0 : Addr) (h : Heap) (R : Value -> Heap -> Prop) : Prop :=
 (Wn h [.pointer (some p0)] 74 fun h1 =>
 (∃ x2 : Option Addr, hc h1 (aS h 0) = some (.pointer x2) /\
 (NC x2 fun a3 => (∃ x4, rI h1 ⟨a3.block, a3.off + 1, none⟩ x4 /\
 (Mk x4 x4 8 /\ Wn h1 (madeL Pz 3 (Int.toNat x4)) 3 fun h5 =>
 (QSI ⟨(some (aS h1 0)), (Int.toNat x4), (Int.toNat x4)⟩ 0 h5 fun I6 class_9 count_10 h11 m8 => (
 (RunW Pz (Instr.makeMap 191 (none)) h11
 (fun v12 h14 => ∃ x13 : Option Nat, v12 = .map x13 /\
 (Wn h14 [.map none] 191 fun h15 =>
 (Wp h15 (aS h14 0) 1 [.map x13] fun h16 =>
 (RunW Pz (Instr.makeMap 195 (none)) h16
 (fun v17 h19 => ∃ x18 : Option Nat, v17 = .map x18 /\
 (∃ x20 : Option Addr, hc h19 (aS h 0) = some (.pointer x20) /\
 (NC x20 fun a21 => (∃ x22, rI h19 ⟨a21.block, a21.off + 1, none⟩ x22 /\
 (Mk x22 x22 8 /\ Wn h19 (madeL Pz 3 (Int.toNat x22)) 3 fun h23 =>
 (QI 0 h23 fun I24 x_27 h28 m26 => (
 (sB (decide (x_27 < ((Int.toNat x22) : Int)))
 ((∃ x29 : Option Addr, hc h28 (aS h 0) = some (.pointer x29) /\
 (Fn Pz 135 #[.pointer x29, vI x_27] h28
 (fun v30 h35 => ∃ (x31 : Int) (x32 : Bool) (x33 x34 : Int), v30 = .tuple ⟨[vI x31, .agg ⟨(L2 x32 x33 x34)⟩]⟩ /\
 (Wn h35 [.bool false, vI 0, vI 0] 79 fun h36 =>
 (Wp h36 (aS h35 0) 3 (L2 x32 x33 x34) fun h37 =>
 (NB class_9.a fun b38 o39 => (Ib x_27 class_9.n /\
 (∃ x40, rI h37 ⟨b38, o39 + Int.toNat x_27 * 1, none⟩ x40 /\
 (∃ x41 : Option Addr, hc h37 (aS h 0) = some (.pointer x41) /\
 (NC x41 fun a42 => (∃ x43, rS h37 ⟨a42.block, a42.off + 3, none⟩ x43 /\
 (NB x43.a fun b44 o45 => (Ib x_27 x43.n /\
 (∃ x46, rB h37 ⟨b44, o45 + Int.toNat x_27 * 1, none⟩ x46 /\
 (Fn Pz 136 #[.agg ⟨[vI x40, vI 0, vI 0, .bool false, vI 0, vI 0, .bool x46]⟩, .pointer (some (aS h14 0)), .pointer (some (aS h 0))] h37
 (fun v47 h49 => ∃ x48, iI v47 x48 /\
 (∃ x50 x51 x52, aL2 h49 (aS h35 0) x50 x51 x52 /\
 (Fn Pz 136 #[.agg ⟨[vI x48, vI 1, vI x31, .bool x50, vI x51, vI x52, .bool false]⟩, .pointer (some (aS h14 0)), .pointer (some (aS h 0))] h49
 (fun v53 h55 => ∃ x54, iI v53 x54 /\
 (∃ x56 : Option Addr, hc h55 (aS h 0) = some (.pointer x56) /\
 (NC x56 fun a57 => (∃ x58, rS h55 ⟨a57.block, a57.off + 6, none⟩ x58 /\
 (NB x58.a fun b59 o60 => (Ib x_27 x58.n /\
 (∃ x61, rS h55 ⟨b59, o60 + Int.toNat x_27 * 1, none⟩ x61 /\
 (QII x54 0 h55 fun I62 at_65 x_66 h67 m64 => (
 (sB (decide (x_66 < (x61.n : Int)))
 ((NB x61.a fun b68 o69 => (Ib x_66 x61.n /\
 (∃ x70, rI h67 ⟨b68, o69 + Int.toNat x_66 * 1, none⟩ x70 /\
 (∃ x71 : Option Addr, hc h67 (aS h 0) = some (.pointer x71) /\
 (NC x71 fun a72 => (∃ x73, rS h67 ⟨a72.block, a72.off + 4, none⟩ x73 /\
 (NB x73.a fun b74 o75 => (Ib x70 x73.n /\
 (∃ x76 x77 x78 x79 x80 x81, aL1 h67 ⟨b74, o75 + Int.toNat x70 * 6, none⟩ x76 x77 x78 x79 x80 x81 /\
 (Wn h67 [vI 0, .bool false, vI 0, vI 0, vI 0, .bool false] 81 fun h82 =>
 (Wp h82 (aS h67 0) 6 (L1 x76 x77 x78 x79 x80 x81) fun h83 =>
 (∃ x84, rI h83 (aS h67 4) x84 /\
 (NB class_9.a fun b85 o86 => (Ib x84 class_9.n /\
 (∃ x87, rI h83 ⟨b85, o86 + Int.toNat x84 * 1, none⟩ x87 /\
 (∃ x88 x89 x90 x91 x92 x93, aL1 h83 (aS h67 0) x88 x89 x90 x91 x92 x93 /\
 (∃ x94, rB h83 (aS h67 5) x94 /\
 (Fn Pz 63 #[.agg ⟨(L1 x88 x89 x90 x91 x92 x93)⟩] h83
 (fun v95 h99 => ∃ (x96 : Bool) (x97 x98 : Int), v95 = .agg ⟨(L2 x96 x97 x98)⟩ /\
 (Sm [(aS h67 5), ⟨b85, o86 + Int.toNat x84 * 1, none⟩, (aS h67 4)] h83 h99 /\
 (Fn Pz 136 #[.agg ⟨[vI at_65, vI 2, vI x87, .bool x96, vI x97, vI x98, .bool x94]⟩, .pointer (some (aS h14 0)), .pointer (some (aS h 0))] h99
 (fun v100 h102 => ∃ x101, iI v100 x101 /\
 (∃ m103, m103 < m64 /\ I62 x101 (IntKind.wrap .i64 (x_66 + 1)) h102 m103))))))))))))))))))))))))
 ((RunW Pz (Instr.lookup 195 (.map x18) (vI at_65) true) h67
 (fun v104 h107 => ∃ (x105 : Int) (x106 : Bool), v104 = .tuple ⟨[vI x105, .bool x106]⟩ /\
 (sB (!x106)
 ((RunW Pz (Builtin.len_ #[195] 3 #[.map x18]) h107
 (fun v108 h110 => ∃ x109, iI v108 x109 /\
 (RunW Pz (Instr.mapUpdate 195 (.map x18) (vI at_65) (vI x109)) h110 (fun _ h111 =>
 (RunW Pz (Instr.lookup 195 (.map x18) (vI at_65) false) h111
 (fun v112 h114 => ∃ x113, iI v112 x113 /\
 ((0 <= (x_27 : Int) /\ (x_27 : Int) < ((Int.toNat x22) : Nat)) /\
 (Wp h114 (aS h19 (0 + Int.toNat x_27 * 1)) 1 [vI x113] fun h115 =>
 (∃ m116, m116 < m26 /\ I24 (IntKind.wrap .i64 (x_27 + 1)) h115 m116))))))))))
 ((RunW Pz (Instr.lookup 195 (.map x18) (vI at_65) false) h107
 (fun v117 h119 => ∃ x118, iI v117 x118 /\
 ((0 <= (x_27 : Int) /\ (x_27 : Int) < ((Int.toNat x22) : Nat)) /\
 (Wp h119 (aS h19 (0 + Int.toNat x_27 * 1)) 1 [vI x118] fun h120 =>
 (∃ m121, m121 < m26 /\ I24 (IntKind.wrap .i64 (x_27 + 1)) h120 m121)))))))))))))))))))))))))))))))))))))))
 ((RunW Pz (Builtin.len_ #[195] 3 #[.map x18]) h28
 (fun v122 h124 => ∃ x123, iI v122 x123 /\
 (sB (x123 == count_10)
 (R (.tuple ⟨[.slice (some (aS h19 0)) (Int.toNat x22) (Int.toNat x22), vI count_10]⟩) h124)
 ((RunW Pz (Builtin.len_ #[195] 3 #[.map x18]) h124
 (fun v125 h127 => ∃ x126, iI v125 x126 /\
 (∃ m128, m128 < m8 /\ I6 ⟨(some (aS h19 0)), (Int.toNat x22), (Int.toNat x22)⟩ x126 h127 m128))))))))))))))))))))))))))))
theorem vc75 (p0 : Addr) (h : Heap) (R : Value -> Heap -> Prop) (H : W75 p0 h R) : Fn Pz 75 #[.pointer (some p0)] h R := fnI (A := (.s .z (.s .z (.s .z (.b (.l [(4, .one (.slice)), (5, .one (.int .i64))] (.b (.s .z (.s .z (.s .z (.s .z (.s (.s .z (.b (.l [(36, .one (.int .i64))] (.s .z (.s .z (.s (.b (.s .z (.s .z (.s .z (.s .z (.s (.s .z (.b (.l [(13, .one (.int .i64)), (74, .one (.int .i64))] .z))) .z)))))) .z)))))) .z)))))))))))) (by kernel_rfl) H

end Go.VC
end

section
/- Contracts: the timeout of a state; the classes of the states of a machine. (Numbers of layer 26's seat.) -/
namespace Go.VC
open Go.Proofs Go.LexS Go.Maps
/-! ### the types of the maps -/
namespace M
theorem s79 : ∃ fs, Pz.underlying 79 = some (.struct fs) /\ fs.all (·.name != "_") = true /\ fs.toList.map (fun f => (f.type, f.offset)) = [(4, 0), (3, 1), (3, 2)] := su (by kernel_rfl)
theorem s193 : ∃ fs, Pz.underlying 193 = some (.struct fs) /\ fs.all (·.name != "_") = true /\ fs.toList.map (fun f => (f.type, f.offset)) = [(3, 0), (3, 1), (3, 2), (79, 3), (4, 6)] := su (by kernel_rfl)
theorem c79 : Pz.cellsOf 79 = 3 := by kernel_rfl
theorem c193 : Pz.cellsOf 193 = 7 := by kernel_rfl
theorem lits_ev (x : Ev) (h1 : inR x.peer) (h2 : inR x.label) (d : Nat) : ∃ r, Pz.keyLits (d + 2) 79 x.cs = some r := by
 obtain ⟨fs, hu, hn, hf⟩ := s79
 refine ⟨_, kl_struct hu (by rw [c79]; rfl) hn hf (r := [[.bool x.send], [.int .i64 x.peer], [.int .i64 x.label]]) ?_⟩
 simp only [List.mapM_cons, List.mapM_nil, c3, c4, Ev.cs, List.drop_zero, List.take_succ_cons, Yyk, List.drop_succ_cons, kl_bool u4, kl_int u3 h1.wf, kl_int u3 h2.wf]
 rfl
end M
def SgW (s : Sg) : Value := .agg ⟨[.int .i64 s.b, .int .i64 s.k, .int .i64 s.num, .bool s.x.send, .int .i64 s.x.peer, .int .i64 s.x.label, .bool s.ag]⟩
theorem SgW_inj (a b : Sg) (h : SgW a = SgW b) : a = b := by
 obtain ⟨a1, a2, ⟨a3, a4, a5⟩, a6, a7⟩ := a
 obtain ⟨b1, b2, ⟨b3, b4, b5⟩, b6, b7⟩ := b
 unfold SgW at h
 simp at h
 simp [h]
theorem key_sgW (s : Sg) (h : kokS s) : ∃ l, keyOf Pz 193 (SgW s) = some l := by
 obtain ⟨fs, hu, hn, hf⟩ := M.s193
 obtain ⟨h1, h2, h3, h4, h5⟩ := h
 have hsz : ∃ n, Pz.types.size + 1 = n + 3 := ⟨Pz.types.size - 2, by
  have : 2 <= Pz.types.size := of_decide_eq_true (by kernel_rfl)
  omega⟩
 obtain ⟨n, hsz⟩ := hsz
 obtain ⟨r, hr⟩ := M.lits_ev s.x h3 h4 n
 have hl : Pz.keyLits (n + 3) 193 [.int .i64 s.b, .int .i64 s.k, .int .i64 s.num, .bool s.x.send, .int .i64 s.x.peer, .int .i64 s.x.label, .bool s.ag] = some [[.int .i64 s.b], [.int .i64 s.k], [.int .i64 s.num], r, [.bool s.ag]].flatten := by
  refine kl_struct hu (by rw [M.c193]; rfl) hn hf ?_
  simp only [List.mapM_cons, List.mapM_nil, c3, c4, M.c79, List.drop_zero, List.take_succ_cons, Yyk, List.drop_succ_cons, kl_bool u4, kl_int u3 h1.wf, kl_int u3 h2.wf, kl_int u3 h5.wf]
  unfold Ev.cs at hr
  rw [hr]; rfl
 have hkt : Pz.keyType 193 = true := by kernel_rfl
 have hfo : (SgW s).formed Pz 193 = true := by
  unfold SgW Value.formed
  simp only [hu, M.c193]; rfl
 have e : keyOf Pz 193 (SgW s) = (Pz.keyLits (n + 3) 193 [.int .i64 s.b, .int .i64 s.k, .int .i64 s.num, .bool s.x.send, .int .i64 s.x.peer, .int .i64 s.x.label, .bool s.ag]).map fun ls => .string (keyBytes ls) := by
  unfold keyOf
  simp only [hu, hkt, hfo, Bool.and_self, if_true, hsz]
  rfl
 rw [e, hl]
 exact ⟨_, rfl⟩
theorem M191 : MT Pz 191 193 3 SgW kokS (.int .i64 0) where
 K := Keyed.of_law (deep_law_laid laid25 (m := 3) (by omega) (of_decide_eq_true (by kernel_rfl)) (by kernel_rfl) (by kernel_rfl))
 ht := by kernel_rfl
 key := key_sgW
 inj := SgW_inj
 z := fun w => by kernel_rfl
theorem M195 : MT Pz 195 3 3 iv inR (.int .i64 0) where
 K := int_keyed u3
 ht := by kernel_rfl
 key := key_int
 inj := iv_inj
 z := fun w => by kernel_rfl
/-! ### timeout -/
def tmK (m : Mch) (s : Int) : Int := match limT m s with | some t => t.k | none => 0
def tmE (m : Mch) (s : Int) : Ev := match limT m s with | some t => evI m t.e.toNat | none => ev0
theorem timeout135 (m : Mch) (sf sm sl : Sl) (b : Nat) (S : Nat -> List Nat) (h : Heap) (hM : MI h m sf sm sl) (hV : TimM m) (hT : TbI h ⟨b, 0, none⟩ m sf sm sl S) (s : Int) :
  Fn Pz 135 #[.pointer (some ⟨b, 0, none⟩), .int .i64 s] h fun v h' => v = .tuple ⟨[.int .i64 (tmK m s), .agg ⟨(tmE m s).cs⟩]⟩ /\ Ext h h' := by
 apply vc135; unfold W135
 obtain ⟨ho, qs, _, hat, hhn, hho, hqs⟩ := hT.ex
 have hmn := hM.pm.ln
 have hmm := hM.pm.sm
 have hln := hM.pl.ln
 have hlm := hM.pl.sm
 refine (St.refl h).newb fun h1 hs => ?_
 refine ⟨sl, (atC_ext hs.ext hat).nth 5 rfl, ?_⟩
 refine up_loopS (n := sl.n) hs (fun i => ∀ (j : Nat) y, j < i -> m.li[j]? = some y -> y.s ≠ s) (fun j y hj => by omega) ?_
 clear hs
 rintro - i h7 hi ⟨hs, hq⟩
 refine sB_intro (fun c => ?_) (fun c => ?_)
 ·
  replace c := lt_t c
  refine (hM.pl.rw.ext hs.ext).nbI (by omega) (by omega) fun b8 o9 t g8 t8 => ?_
  replace g8 : m.li[i]? = some t := g8
  refine ⟨_, _, _, t8, ?_⟩
  refine hs.newput (vs := t.cs) rfl rfl fun h14 hs => ?_
  refine ⟨_, hs.rd 0 rfl (i := 0) rfl, sBe (fun c1 => ?_) (fun c1 => ?_)⟩
  ·
   obtain ⟨h0, y, hy, _⟩ := (hV i t g8).e
   have hyl := (Ya.1 hy).1
   have hlim : limT m s = some t := M.first_hit m.li i t g8 (decide_eq_true c1) fun j z hj hz => decide_eq_false (hq j z hj hz)
   refine ⟨_, hs.rd 0 rfl (i := 1) rfl, sm, (atC_ext hs.ext hat).nth 4 rfl, _, hs.rd 0 rfl (i := 2) rfl, ?_⟩
   refine (hM.pm.rw.ext hs.ext).nbI (by omega) (by omega) fun b19 o20 y' gy t19 => ?_
   rw [hy] at gy; cases gy
   refine ⟨_, _, _, _, _, _, t19, ?_⟩
   refine (M.of63 y h14).mono ?_
   rintro _ h31 ⟨rfl, E⟩
   have hs := hs.step E
   refine ⟨_, _, _, rfl, E.sm, ?_⟩
   refine hs.put 1 rfl (o := 0) (vs := y.ev.cs) rfl (show 3 <= 3 by decide) fun h32 hs => ?_
   refine ⟨_, _, _, hs.at 1 rfl (o := 0) (n := 3) rfl, ?_, hs.ext⟩
   unfold tmK tmE
   rw [hlim]
   show _ = Value.tuple ⟨[.int .i64 t.k, .agg ⟨(evI m t.e.toNat).cs⟩]⟩
   rw [evI_of hy]; rfl
  ·
   refine Up.next c (by omega) ⟨hs.drop 1, fun j z hj hz => ?_⟩
   by_cases e : j = i
   ·
    subst e; rw [g8] at hz; cases hz; exact c1
   ·
    exact hq j z (by omega) hz
 ·
  replace c := lt_f c
  refine hs.put 0 rfl (o := 0) (vs := ev0.cs) rfl (show 3 <= 3 by decide) fun h37 hs => ?_
  refine ⟨_, _, _, hs.at 0 rfl (o := 0) (n := 3) rfl, ?_, hs.ext⟩
  have hlim : limT m s = none := List.find?_eq_none.2 fun t ht => by
   obtain ⟨j, hj⟩ := Yf.1 ht
   have := hq j t (by have := (Ya.1 hj).1; omega) hj
   simpa using this
  unfold tmK tmE
  rw [hlim]; rfl
theorem sgT_eq (m : Mch) (s : Nat) : sgT m s = ⟨0, 1, tmE m (s : Int), false, tmK m (s : Int)⟩ := by
 unfold sgT tmE tmK
 cases limT m (s : Int) <;> rfl
theorem tm_ranges {m : Mch} (hV : WM m) (s : Int) : inR (tmK m s) /\ inR (tmE m s).peer /\ inR (tmE m s).label := by
 unfold tmK tmE
 cases h : limT m s with
 | none => exact ⟨inR0, inR0, inR0⟩
 | some t =>
  obtain ⟨hk, y, hy, _⟩ := li_in hV (limT_mem h).1
  have hyr := hV.n.mv y (Yb hy)
  show inR t.k /\ inR (evI m t.e.toNat).peer /\ inR (evI m t.e.toNat).label
  rw [evI_of hy]
  exact ⟨⟨by omega, by omega⟩, ⟨by show _ <= y.peer; omega, by show y.peer <= _; omega⟩, by show _ <= y.label; omega, by show y.label <= _; omega⟩
/-! ### a step of the classes -/
def Nw (N : List (Sg × Int)) : List (Value × Value) := N.map fun q => (SgW q.1, iv q.2)
theorem step136 {h0 h : Heap} {L : List It} (hs : St h0 h L) (k1 k2 k3 : Nat) {nb b tb : Nat} {p : Addr} {n : Int} {N : List (Sg × Int)} (hk1 : L[k1]? = some (.blk nb [.map (some b)] 191)) (hk2 : L[k2]? = some (.mp b (Nw N))) (hk3 : L[k3]? = some (.blk tb [.pointer (some p)] 74))
  (hn : hc h ⟨p.block, p.off + 1, none⟩ = some (.int .i64 n)) (hn0 : 0 <= n /\ n <= 200) (hN : NOk n N) (hok : ∀ q ∈ N, kokS q.1) (s : Sg) (hsk : kokS s) (hl : N.length <= 1048576) :
  Fn Pz 136 #[SgW s, .pointer (some ⟨nb, 0, none⟩), .pointer (some ⟨tb, 0, none⟩)] h fun v h' => v = .int .i64 (nextF n N s).1 /\ St h0 h' (L.set k2 (.mp b (Nw (nextF n N s).2))) := by
 apply vc136 s.b s.k s.num s.x.send s.x.peer s.x.label s.ag; unfold W136
 refine hs.newbE fun h8 E8 hs => ?_
 refine ⟨_, hs.rd (k1 + 1) hk1 rfl, ?_⟩
 refine ⟨_, _, _, _, _, _, _, hs.at 0 rfl (n := 7) rfl, ?_⟩
 refine hs.mlook (ck := SgW) (cv := iv) M191 (k2 + 1) (l := N) hk2 hok hN.nd (a := s) hsk true ?_
 unfold nextF
 cases hg : mget N s with
 | some v =>
  refine ⟨v, true, rfl, ?_⟩
  refine sB_f rfl ?_
  refine ⟨rfl, ?_⟩
  show St h0 h8 (L.set k2 (.mp b (Nw N)))
  rw [list_set_self hk2]; exact hs.drop 1
 | none =>
  refine ⟨0, false, rfl, ?_⟩
  refine sB_t rfl ?_
  refine ⟨_, hs.rd (k1 + 1) hk1 rfl, _, hs.rd (k3 + 1) hk3 rfl, n, hc_ext E8 hn, ?_⟩
  refine hs.mlen (ck := SgW) (cv := iv) M191 (k2 + 1) (l := N) hk2 ?_
  refine ⟨_, rfl, Ext.rfl'.sm, ?_⟩
  refine ⟨_, hs.rd (k1 + 1) hk1 rfl, _, _, _, _, _, _, _, hs.at 0 rfl (n := 7) rfl, ?_⟩
  have ew : IntKind.wrap .i64 (IntKind.wrap .i64 ((N.length : Int) + n) + 2) = (N.length : Int) + n + 2 := by rw [w64 (n := (N.length : Int) + n) (by omega) (by omega), w64 (by omega) (by omega)]
  rw [ew]
  refine hs.mput (ck := SgW) (cv := iv) M191 (k2 + 1) (l := N) hk2 hok hN.nd (a := s) hsk ((N.length : Int) + n + 2) fun h34 hs => ?_
  rw [mset_none (mget_not hg)] at hs
  exact ⟨rfl, hs.drop 1⟩
theorem map_natV_put {A : List Nat} {n i c : Nat} (hA : A.length = i) (hi : i < n) : splice ((A ++ List.replicate (n - i) 0).map natV) i [natV c] = (A ++ [c] ++ List.replicate (n - (i + 1)) 0).map natV := by
 have hl : (A ++ List.replicate (n - i) 0).length = n := by rw [Yh, Yg]; omega
 rw [map_splice natV (by omega)]
 congr 1
 subst hA
 rw [List.set_append_right _ _ (Nat.le_refl _), Nat.sub_self, show n - A.length = (n - (A.length + 1)) + 1 by omega, List.replicate_succ, List.set_cons_zero, Yz]; rfl
theorem nums_snoc {A : List Int} (a : Int) : (A ++ [a]).map (idxF (dedF (A ++ [a]))) = A.map (idxF (dedF A)) ++ [idxF (dedF (A ++ [a])) a] := by
 rw [Ym]
 congr 1
 refine List.map_congr_left fun x hx => ?_
 have hx' := (dedF_mem A x).2 hx
 rw [dedF_snoc]
 split
 ·
  rfl
 ·
  rw [idxF_mem hx']
def ctL (nx fm nb mb : Nat) (tb b : Nat) (cl : Sl) (n : Nat) (A : List Int) (N : List (Sg × Int)) (C : List Nat) : List It :=
 [.blk nx ((A.map (idxF (dedF A)) ++ List.replicate (n - A.length) 0).map natV) 3, .mp fm (Fv (zipI (dedF A) 0)), .blk nb [.map (some mb)] 191, .mp mb (Nw N), .sl cl 3 1 ((natI C).map inC), .blk tb [.pointer (some ⟨b, 0, none⟩)] 74]
set_option maxHeartbeats 8000000 in
theorem classes75 (m : Mch) (sf sm sl : Sl) (b : Nat) (S : Nat -> List Nat) (h : Heap) (hM : MI h m sf sm sl) (hV : WM m) (hT : TbI h ⟨b, 0, none⟩ m sf sm sl S) :
  Fn Pz 75 #[.pointer (some ⟨b, 0, none⟩)] h fun v h' => ∃ sc : Sl, v = .tuple ⟨[.slice sc.a sc.n sc.c, .int .i64 ((cls (srtM m)).2 : Nat)]⟩ /\ St h h' [.sl sc 3 1 ((natI (cls (srtM m)).1).map inC)] := by
 apply vc75; unfold W75
 obtain ⟨ho, qs, _, hat, hhn, hho, hqs⟩ := hT.ex
 have hn := hV.n.n
 have hfl := hV.n.fl
 have hml := hV.n.ml
 have hmn := hM.pm.ln
 have hfn := hM.pf.ln
 have hsr : (srtM m).n.toNat = m.n.toNat := rfl
 have hSq : ∀ s : Nat, s < m.n.toNat -> mvS m (s : Int) = S s := fun s hs => mvS_eq hV.d (hT.so s hs).p (hT.so s hs).s
 refine (St.refl h).newb fun h1 hs => ?_
 refine ⟨_, hs.rd 0 rfl rfl, _, (atC_ext hs.ext hat).nth 1 rfl, by omega, ?_⟩
 refine hs.newb fun h5 hs => ?_
 have hs := hs.blkS m.n.toNat 1 ((natI (List.replicate m.n.toNat 0)).map inC) (by rw [made3n]; exact natflat _) (inrows _) (by rw [Yc]; show (List.map _ _).length = _; rw [Yc, Yg]) (by simp only [maxLen]; omega)
 refine ⟨fun cl count h' μ => ∃ (C : List Nat) (c f : Nat), count = (c : Int) /\ μ = 201 - c /\ c <= 200 /\ 202 <= f + c /\ C.length = m.n.toNat /\ (∀ x ∈ C, x <= 200) /\ (c = 0 \/ (dedF C).length = c) /\ cls (srtM m) = clsN (srtM m) f C c /\ St h h' [.sl cl 3 1 ((natI C).map inC), .blk h.size [.pointer (some ⟨b, 0, none⟩)] 74],
  ⟨_, List.replicate m.n.toNat 0, 0, 202, rfl, rfl, by omega, by omega, Yg, fun x hx => (by rw [List.mem_replicate] at hx; omega), .inl rfl, rfl, hs⟩, ?_⟩
 clear hs
 rintro - cl _ h11 μ ⟨C, c, f, rfl, rfl, hc, hf, hCl, hCb, hcd, hcls, hs⟩
 have hcln := (hs.rows 0 (s := cl) (cs := inC) rfl (by omega)).ln
 rw [show (natI C).length = C.length from Yc _] at hcln
 refine hs.mmake 191 fun h14 E14 hs => ?_
 refine ⟨_, rfl, ?_⟩
 refine hs.newput (vs := [.map (some h11.size)]) rfl rfl fun h16 hs => ?_
 refine hs.mmake 195 fun h19 E19 hs => ?_
 refine ⟨_, rfl, _, hs.rd 4 rfl rfl, _, (atC_ext hs.ext hat).nth 1 rfl, by omega, ?_⟩
 rw [made3n]
 refine hs.newb fun h23 hs => ?_
 have hs : St h h23 (ctL h19.size h16.size h14.size h11.size h.size b cl m.n.toNat [] [] C) := hs
 refine ⟨fun x h' μ => ∃ (i : Nat) (N : List (Sg × Int)) (A : List Int), x = i /\ μ = m.n.toNat - i /\ i <= m.n.toNat /\ A.length = i /\ NOk m.n.toNat N /\ (∀ q ∈ N, kokS q.1) /\ N.length <= i * 402 /\ (∀ (s : Nat) v, A[s]? = some v -> HsN N v (keyT m C s)) /\ St h h' (ctL h19.size h16.size h14.size h11.size h.size b cl m.n.toNat A N C),
  ⟨_, 0, [], [], rfl, rfl, Nat.zero_le _, rfl, .nil _, fun q hq => (by cases hq), Nat.le_refl _, fun s v hv => (by simp at hv), hs⟩, ?_⟩
 clear hs
 rintro - _ h28 μ ⟨i, N, A, rfl, rfl, hi, hAl, hN, hok, hNl, hA, hs⟩
 have hAr : ∀ a ∈ A, inR a := fun a ha => by
  obtain ⟨i, hi⟩ := Yf.1 ha
  have := (hA i a hi).bound hN
  exact ⟨by omega, by omega⟩
 have hDr : ∀ q ∈ zipI (dedF A) 0, inR q.1 := fun q hq => by
  have : q.1 ∈ (zipI (dedF A) 0).map Prod.fst := Yp.2 ⟨q, hq, rfl⟩
  rw [zipI_fst, dedF_mem] at this
  exact hAr _ this
 have hDn : ((zipI (dedF A) 0).map Prod.fst).Nodup := by rw [zipI_fst]; exact dedF_nodup _
 refine sBi (fun c1 => ?_) (fun c1 => ?_)
 ·
  have him : i < m.n.toNat := by omega
  obtain ⟨ci, hci⟩ := get_some (l := C) (i := i) (by omega)
  have hcb : ci <= 200 := hCb ci (Yb hci)
  obtain ⟨hk0, hk1, hk2⟩ := tm_ranges hV (i : Int)
  refine ⟨_, hs.rd 5 rfl rfl, ?_⟩
  refine (timeout135 m sf sm sl b S h28 (hM.ext hs.ext) hV.t (hT.ext hs.ext) i).mono ?_
  rintro _ h35 ⟨rfl, E35⟩
  have hs := hs.step E35
  refine ⟨_, _, _, _, rfl, ?_⟩
  refine hs.newput (vs := (tmE m i).cs) rfl rfl fun h37 hs => ?_
  refine (hs.rows 5 (s := cl) (cs := inC) (l := natI C) rfl (by omega)).nbI (by omega) (by omega) fun b38 o39 d g38 t38 => ?_
  replace g38 : (natI C)[i]? = some d := g38
  obtain ⟨ci', hci', rfl⟩ := natI_get g38
  rw [hci] at hci'; cases hci'
  refine ⟨_, t38.hd, _, hs.rd 6 rfl rfl, sf, (atC_ext hs.ext hat).nth 3 rfl, ?_⟩
  refine (hM.pf.rw.ext hs.ext).nbI (by omega) (by omega) fun b44 o45 bf g44 t44 => ?_
  replace g44 : m.fin[i]? = some bf := g44
  refine ⟨_, t44.hd, ?_⟩
  have hsg : sgB C m.fin i = ⟨(ci : Int), 0, ev0, bf, 0⟩ := by unfold sgB; rw [getD_some hci, getD_some g44]
  have hkk : kokS ⟨(ci : Int), 0, ev0, bf, 0⟩ := ⟨inRn (n := (ci : Int)) (by omega) (by omega), inR0, inR0, inR0, inR0⟩
  refine Fn.mono (step136 hs 3 4 6 (n := ((m.n.toNat : Nat) : Int)) rfl rfl rfl (by rw [show ((m.n.toNat : Nat) : Int) = m.n by omega]; exact (atC_ext hs.ext hat).nth 1 rfl) (by omega) hN hok ⟨(ci : Int), 0, ev0, bf, 0⟩ hkk (by omega)) ?_
  rintro _ h49 ⟨rfl, hs⟩
  rw [<- hsg] at hs hkk ⊢
  obtain ⟨e1, e2, e3, e4, e5⟩ := nextF_spec hN (sgB C m.fin i)
  have hok1 : ∀ q ∈ (nextF m.n.toNat N (sgB C m.fin i)).2, kokS q.1 := fun q hq => by
   rcases e5 q hq with h | h
   ·
    exact hok q h
   ·
    rw [h]; exact hkk
  have hH1 : HsN (nextF m.n.toNat N (sgB C m.fin i)).2 (nextF m.n.toNat N (sgB C m.fin i)).1 [sgB C m.fin i] := .base e3 rfl
  have hA1 : ∀ (s : Nat) v, A[s]? = some v -> HsN (nextF m.n.toNat N (sgB C m.fin i)).2 v (keyT m C s) := fun s v hv => (hA s v hv).mono e2
  generalize (nextF m.n.toNat N (sgB C m.fin i)).1 = v1 at *
  generalize (nextF m.n.toNat N (sgB C m.fin i)).2 = N1 at *
  have hv1 := hH1.bound e1
  refine ⟨_, rfl, _, _, _, hs.at 0 rfl (o := 0) (n := 3) rfl, ?_⟩
  have hkk2 : kokS ⟨v1, 1, tmE m i, false, tmK m i⟩ := ⟨inRn (n := v1) (by omega) (by omega), inR1, hk1, hk2, hk0⟩
  refine Fn.mono (step136 hs 3 4 6 (n := ((m.n.toNat : Nat) : Int)) rfl rfl rfl (by rw [show ((m.n.toNat : Nat) : Int) = m.n by omega]; exact (atC_ext hs.ext hat).nth 1 rfl) (by omega) e1 hok1 ⟨v1, 1, tmE m i, false, tmK m i⟩ hkk2 (by omega)) ?_
  rintro _ h55 ⟨rfl, hs⟩
  obtain ⟨f1, f2, f3, f4, f5⟩ := nextF_spec e1 ⟨v1, 1, tmE m i, false, tmK m i⟩
  have hok2 : ∀ q ∈ (nextF m.n.toNat N1 ⟨v1, 1, tmE m i, false, tmK m i⟩).2, kokS q.1 := fun q hq => by
   rcases f5 q hq with h | h
   ·
    exact hok1 q h
   ·
    rw [h]; exact hkk2
  have hH2 : HsN (nextF m.n.toNat N1 ⟨v1, 1, tmE m i, false, tmK m i⟩).2 (nextF m.n.toNat N1 ⟨v1, 1, tmE m i, false, tmK m i⟩).1 [sgT m i, sgB C m.fin i] := by
   rw [sgT_eq]
   exact .step f3 (show (1 : Int) ≠ 0 by decide) (hH1.mono f2)
  have hA2 : ∀ (s : Nat) v, A[s]? = some v -> HsN (nextF m.n.toNat N1 ⟨v1, 1, tmE m i, false, tmK m i⟩).2 v (keyT m C s) := fun s v hv => (hA1 s v hv).mono f2
  generalize (nextF m.n.toNat N1 ⟨v1, 1, tmE m i, false, tmK m i⟩).1 = v2 at *
  generalize (nextF m.n.toNat N1 ⟨v1, 1, tmE m i, false, tmK m i⟩).2 = N2 at *
  refine ⟨_, rfl, _, hs.rd 6 rfl rfl, ho, (atC_ext hs.ext hat).nth 6 rfl, ?_⟩
  refine (hho.ext hs.ext).nbI (by omega) (by omega) fun b59 o60 k gk t59 => ?_
  have hk : k = i := by rw [Ys, Yyb him] at gk; exact (Option.some.inj gk).symm
  subst hk
  have hS := hSq k him
  have hrow := hqs k him
  have hrn := hrow.ln
  rw [show (natI (S k)).length = (S k).length from Yc _] at hrn
  have hrl : (rwS m k).length = (S k).length := by rw [rwS_len, hS]
  have hSl : (S k).length <= 400 := by
   rw [(hT.so k him).p.length_eq]
   unfold outIx
   exact Nat.le_trans (List.length_filter_le _ _) (by rw [Yyd]; exact hml)
  refine ⟨_, t59.hd, ?_⟩
  have hN2l : N2.length <= k * 402 + 2 := by omega
  refine ⟨fun at_ x h' μ => ∃ (j : Nat) (N' : List (Sg × Int)), x = j /\ μ = (S k).length - j /\ j <= (S k).length /\ NOk m.n.toNat N' /\ (∀ q ∈ N', kokS q.1) /\ N'.length <= k * 402 + 2 + j /\ (∀ (s : Nat) v, A[s]? = some v -> HsN N' v (keyT m C s)) /\ HsN N' at_ ((((rwS m k).take j).map (sgM C)).reverse ++ [sgT m k, sgB C m.fin k]) /\ St h h' (ctL h19.size h16.size h14.size h11.size h.size b cl m.n.toNat A N' C),
   ⟨_, 0, N2, rfl, rfl, Nat.zero_le _, f1, hok2, by omega, hA2, hH2, hs.drop 1⟩, ?_⟩
  clear hs hN hok hNl hA e1 e2 e3 e4 e5 f1 f2 f3 f4 f5 hok1 hok2 hH1 hH2 hA1 hA2 hN2l hkk hkk2
  rintro - at_ _ h67 μ ⟨j, N', rfl, rfl, hj, hN, hok, hNl, hA, hH, hs⟩
  have hatb := hH.bound hN
  refine sBi (fun c2 => ?_) (fun c2 => ?_)
  ·
   obtain ⟨jn, hjn⟩ := get_some (l := S k) (i := j) (by omega)
   obtain ⟨x, hx, hxf⟩ := (mvS_ok m (k : Int) jn).1 (by rw [hS]; exact Yb hjn)
   have hxl := (Ya.1 hx).1
   have hxr := hV.n.mv x (Yb hx)
   have hrj : (rwS m k)[j]? = some x := rwS_get (by rw [hS]; exact hjn) hx
   refine (hrow.ext hs.ext).nbI (by omega) (by omega) fun b68 o69 d gd t68 => ?_
   replace gd : (natI (S k))[j]? = some d := gd
   obtain ⟨jn', hjn', rfl⟩ := natI_get gd
   rw [hjn] at hjn'; cases hjn'
   refine ⟨_, t68.hd, _, hs.rd 5 rfl rfl, sm, (atC_ext hs.ext hat).nth 4 rfl, ?_⟩
   refine (hM.pm.rw.ext hs.ext).nbI (by omega) (by omega) fun b74 o75 x' gx t74 => ?_
   replace gx : m.mv[jn]? = some x' := gx
   rw [hx] at gx; cases gx
   refine ⟨_, _, _, _, _, _, t74, ?_⟩
   refine hs.newput (vs := x.cs) rfl rfl fun h83 hs => ?_
   refine ⟨_, hs.rd 0 rfl (i := 4) rfl, ?_⟩
   refine (hs.rows 5 (s := cl) (cs := inC) (l := natI C) rfl (by omega)).nbI (by omega) (by omega) fun b85 o86 d g85 t85 => ?_
   obtain ⟨ct, hct, rfl⟩ := natI_get g85
   have hctb : ct <= 200 := hCb ct (Yb hct)
   refine ⟨_, t85.hd, _, _, _, _, _, _, hs.at 0 rfl (o := 0) (n := 6) rfl, _, hs.rd 0 rfl (i := 5) rfl, ?_⟩
   refine (M.of63 x h83).mono ?_
   rintro _ h99 ⟨rfl, E99⟩
   have hs := hs.step E99
   refine ⟨_, _, _, rfl, E99.sm, ?_⟩
   have hkk : kokS ⟨at_, 2, x.ev, x.ag, (ct : Int)⟩ := ⟨inRn (n := at_) (by omega) (by omega), inR2, ⟨by show _ <= x.peer; omega, by show x.peer <= _; omega⟩, ⟨by show _ <= x.label; omega, by show x.label <= _; omega⟩, inRn (n := (ct : Int)) (by omega) (by omega)⟩
   refine Fn.mono (step136 hs 3 4 6 (n := ((m.n.toNat : Nat) : Int)) rfl rfl rfl (by rw [show ((m.n.toNat : Nat) : Int) = m.n by omega]; exact (atC_ext hs.ext hat).nth 1 rfl) (by omega) hN hok ⟨at_, 2, x.ev, x.ag, (ct : Int)⟩ hkk (by omega)) ?_
   rintro _ h102 ⟨rfl, hs⟩
   obtain ⟨f1, f2, f3, f4, f5⟩ := nextF_spec hN ⟨at_, 2, x.ev, x.ag, (ct : Int)⟩
   refine ⟨_, rfl, (S k).length - (j + 1), by omega, j + 1, _, by rw [w64 (by omega) (by omega)]; omega, rfl, by omega, f1, fun q hq => ?_, by omega, fun s v hv => (hA s v hv).mono f2, ?_, hs.drop 1⟩
   ·
    rcases f5 q hq with h | h
    ·
     exact hok q h
    ·
     rw [h]; exact hkk
   ·
    have e : sgM C x = ⟨0, 2, x.ev, x.ag, (ct : Int)⟩ := by unfold sgM; rw [getD_some hct]
    rw [take_snoc hrj, Ym, List.reverse_append, List.map_singleton, List.reverse_singleton, List.singleton_append, List.cons_append, e]
    exact .step f3 (show (2 : Int) ≠ 0 by decide) (hH.mono f2)
  ·
   have hjn : j = (rwS m k).length := by omega
   subst hjn
   rw [Yye] at hH
   replace hH : HsN N' at_ (keyT m C k) := hH
   have har : inR at_ := ⟨by omega, by omega⟩
   have hlast : ∀ {h' : Heap}, St h h' (ctL h19.size h16.size h14.size h11.size h.size b cl m.n.toNat (A ++ [at_]) N' C) -> ∃ μ, μ < m.n.toNat - k /\ ∃ (i : Nat) (N : List (Sg × Int)) (A : List Int), IntKind.wrap .i64 ((k : Int) + 1) = i /\ μ = m.n.toNat - i /\ i <= m.n.toNat /\ A.length = i /\ NOk m.n.toNat N /\ (∀ q ∈ N, kokS q.1) /\ N.length <= i * 402 /\ (∀ (s : Nat) v, A[s]? = some v -> HsN N v (keyT m C s)) /\ St h h' (ctL h19.size h16.size h14.size h11.size h.size b cl m.n.toNat A N C) := fun {h'} hs =>
    ⟨_, by omega, k + 1, N', A ++ [at_], by rw [w64 (by omega) (by omega)]; omega, rfl, by omega, by rw [Yh, hAl]; rfl, hN, hok, by omega, fun s v hv => by
     by_cases hsk : s < A.length
     ·
      rw [Yyi hsk] at hv; exact hA s v hv
     ·
      have hsl := (Ya.1 hv).1
      rw [Yh, Yv] at hsl
      have e : s = A.length := by omega
      subst e
      rw [Yyc (Nat.le_refl _), Nat.sub_self] at hv
      cases hv
      rw [hAl]; exact hH, hs⟩
   have hnums : ∀ c : Nat, c = idxF (dedF (A ++ [at_])) at_ -> splice ((A.map (idxF (dedF A)) ++ List.replicate (m.n.toNat - A.length) 0).map natV) k [natV c] = (((A ++ [at_]).map (idxF (dedF (A ++ [at_]))) ++ List.replicate (m.n.toNat - (A ++ [at_]).length) 0)).map natV := fun c hc => by
    rw [hAl, map_natV_put (by rw [Yc]; exact hAl) him, nums_snoc, hc, Yh, hAl]; rfl
   refine hs.mlook (ck := iv) (cv := iv) M195 1 rfl hDr hDn (a := at_) har true ?_
   rw [mget_zipI]
   have hD := dedF_snoc A at_
   by_cases hm : at_ ∈ dedF A
   ·
    rw [if_pos hm] at hD ⊢
    refine ⟨_, true, rfl, ?_⟩
    refine sB_f rfl ?_
    refine hs.mlook (ck := iv) (cv := iv) M195 1 rfl hDr hDn (a := at_) har false ?_
    rw [mget_zipI, if_pos hm]
    refine ⟨_, rfl, ⟨by omega, by omega⟩, ?_⟩
    rw [show 0 + Int.toNat (k : Int) * 1 = k by omega]
    refine hs.put 0 rfl (o := k) (vs := [natV (idxF (dedF A) at_)]) rfl (by rw [Yc, Yh, Yc, Yg, Yv]; omega) fun h134 hs => ?_
    refine hlast ?_
    rw [hnums _ (by rw [hD])] at hs
    unfold ctL
    rw [hD] at hs ⊢
    exact hs
   ·
    rw [if_neg hm] at hD ⊢
    have hnone : ∀ q ∈ zipI (dedF A) 0, q.1 ≠ at_ := fun q hq e => hm (by
     have h1 : q.1 ∈ (zipI (dedF A) 0).map Prod.fst := Yp.2 ⟨q, hq, rfl⟩
     rwa [zipI_fst, e] at h1)
    refine ⟨0, false, rfl, ?_⟩
    refine sB_t rfl ?_
    refine hs.mlen (ck := iv) (cv := iv) M195 1 rfl ?_
    refine ⟨_, rfl, ?_⟩
    refine hs.mput (ck := iv) (cv := iv) M195 1 rfl hDr hDn (a := at_) har (((zipI (dedF A) 0).length : Nat) : Int) fun h125 hs => ?_
    rw [mset_none hnone, zipI_len, <- zipI_snoc, <- hD] at hs
    have hDr' : ∀ q ∈ zipI (dedF (A ++ [at_])) 0, inR q.1 := fun q hq => by
     have : q.1 ∈ (zipI (dedF (A ++ [at_])) 0).map Prod.fst := Yp.2 ⟨q, hq, rfl⟩
     rw [zipI_fst, dedF_mem, Yk, Ye] at this
     rcases this with h | h
     ·
      exact hAr _ h
     ·
      rw [h]; exact har
    have hDn' : ((zipI (dedF (A ++ [at_])) 0).map Prod.fst).Nodup := by rw [zipI_fst]; exact dedF_nodup _
    refine hs.mlook (ck := iv) (cv := iv) M195 1 rfl hDr' hDn' (a := at_) har false ?_
    rw [mget_zipI, if_pos (by rw [hD, Yk]; exact .inr (Ye.2 rfl))]
    refine ⟨_, rfl, ⟨by omega, by omega⟩, ?_⟩
    rw [show 0 + Int.toNat (k : Int) * 1 = k by omega]
    refine hs.put 0 rfl (o := k) (vs := [natV (idxF (dedF (A ++ [at_])) at_)]) rfl (by rw [Yc, Yh, Yc, Yg, Yv]; omega) fun h134 hs => ?_
    refine hlast ?_
    rw [hnums _ rfl] at hs
    exact hs
 ·
  have hin : i = m.n.toNat := by omega
  subst hin
  have hpat : canonL A = canonL (clsT m C) /\ (dedF A).length = (dedF (clsT m C)).length := by
   refine canon_eq (by unfold clsT; rw [Yc, Yyd, hAl]) fun i j a b a' b' h1 h2 h3 h4 => ?_
   have hi := (Ya.1 h1).1
   have hj := (Ya.1 h2).1
   unfold clsT at h3 h4
   rw [Yd, Yyb (by omega)] at h3 h4
   cases h3; cases h4
   constructor
   ·
    intro e; subst e; exact HsN.func hN (hA i a h1) (hA j a h2)
   ·
    intro e; exact HsN.inj hN (hA i a h1) (by rw [show keyT m C i = _ from e]; exact hA j b h2)
  have hpat2 := clsT_eq hV C
  have hcl2 : A.map (idxF (dedF A)) = canonL (clsK (srtM m) C) := hpat.1.trans hpat2.1
  have hdl : (dedF A).length = (dedF (clsK (srtM m) C)).length := hpat.2.trans hpat2.2
  have hle := dedF_len_le (clsK (srtM m) C)
  rw [clsK_len, hsr] at hle
  have hge := clsK_ge (m := srtM m) (C := C) (by rw [hsr]; exact hCl)
  obtain ⟨f', rfl⟩ : ∃ f', f = f' + 1 := ⟨f - 1, by omega⟩
  rw [clsN] at hcls
  have hfin : ∀ {h' : Heap}, St h h' (ctL h19.size h16.size h14.size h11.size h.size b cl m.n.toNat A N C) -> St h h' [.sl ⟨some ⟨h19.size, 0, none⟩, m.n.toNat, m.n.toNat⟩ 3 1 ((natI (canonL (clsK (srtM m) C))).map inC), .blk h.size [.pointer (some ⟨b, 0, none⟩)] 74] := fun {h'} hs => by
   have hs1 : St h h' [.blk h19.size ((canonL (clsK (srtM m) C)).map natV) 3, .blk h.size [.pointer (some ⟨b, 0, none⟩)] 74] := by
    have h2 := hs.sub (L' := [_, _]) (.cons_cons _ (.cons _ (.cons _ (.cons _ (.cons _ (.cons_cons _ .slnil))))))
    rw [hAl, Nat.sub_self, List.replicate_zero, Yw, hcl2] at h2
    exact h2
   exact hs1.blkS m.n.toNat 1 _ (natflat _) (inrows _) (by unfold natI; rw [Yc, Yc, canonL_len, clsK_len]; exact hsr) (by simp only [maxLen]; omega)
  refine hs.mlen (ck := iv) (cv := iv) M195 1 rfl ?_
  refine ⟨_, rfl, ?_⟩
  rw [zipI_len, hdl]
  refine sBe (fun c3 => ?_) (fun c3 => ?_)
  ·
   rw [if_pos (by omega)] at hcls
   rw [hcls]
   exact ⟨_, rfl, (hfin hs).sub (.cons_cons _ (.cons _ .slnil))⟩
  ·
   refine hs.mlen (ck := iv) (cv := iv) M195 1 rfl ?_
   refine ⟨_, rfl, ?_⟩
   rw [zipI_len, hdl]
   rw [if_neg (by omega)] at hcls
   refine ⟨_, ?_, canonL (clsK (srtM m) C), (dedF (clsK (srtM m) C)).length, f', rfl, rfl, by omega, by omega, by rw [canonL_len, clsK_len]; exact hsr, fun x hx => by have := canonL_lt hx; omega, .inr (dedF_canon _), hcls, hfin hs⟩
   rcases hcd with h0 | h0 <;> omega
end Go.VC
end

section
namespace Go.VC
open Go.Proofs

def W74 (p0 : Addr) (p1 : Sl) (p2 : Int) (h : Heap) (R : Value -> Heap -> Prop) : Prop :=
 (Wn h [vI 0, vI 0, vI 0, .slice none 0 0, .slice none 0 0, .slice none 0 0] 26 fun h1 =>
 (Mk p2 p2 8 /\ Wn h1 (madeL Pz 3 (Int.toNat p2)) 3 fun h2 =>
 (Mk p2 p2 8 /\ Wn h2 (madeL Pz 3 (Int.toNat p2)) 3 fun h3 =>
 (∃ x4, rI h3 ⟨p0.block, p0.off + 1, none⟩ x4 /\
 (QI (IntKind.wrap .i64 (x4 - 1)) h3 fun I5 s_8 h9 m7 => (
 (sB (decide (s_8 >= 0))
 ((NB p1.a fun b10 o11 => (Ib s_8 p1.n /\
 (∃ x12, rI h9 ⟨b10, o11 + Int.toNat s_8 * 1, none⟩ x12 /\
 (NB p1.a fun b13 o14 => (Ib s_8 p1.n /\
 (∃ x15, rI h9 ⟨b13, o14 + Int.toNat s_8 * 1, none⟩ x15 /\
 ((0 <= (x12 : Int) /\ (x12 : Int) < ((Int.toNat p2) : Nat)) /\
 (Wp h9 (aS h1 (0 + Int.toNat x12 * 1)) 1 [vI s_8] fun h16 =>
 ((0 <= (x15 : Int) /\ (x15 : Int) < ((Int.toNat p2) : Nat)) /\
 (Wp h16 (aS h2 (0 + Int.toNat x15 * 1)) 1 [vI (-1)] fun h17 =>
 (∃ m18, m18 < m7 /\ I5 (IntKind.wrap .i64 (s_8 - 1)) h17 m18))))))))))))
 ((∃ x19, rI h9 ⟨p0.block, p0.off + 2, none⟩ x19 /\
 (NB p1.a fun b20 o21 => (Ib x19 p1.n /\
 (∃ x22, rI h9 ⟨b20, o21 + Int.toNat x19 * 1, none⟩ x22 /\
 (Wn h9 [vI x22] 3 fun h23 =>
 (Ib 0 1 /\
 (∃ x24, rI h23 (aS h9 (0 + Int.toNat 0 * 1)) x24 /\
 ((0 <= (x24 : Int) /\ (x24 : Int) < ((Int.toNat p2) : Nat)) /\
 (Wp h23 (aS h2 (0 + Int.toNat x24 * 1)) 1 [vI 0] fun h25 =>
 (∃ x26, rI h25 p0 x26 /\
 (Wn h25 [vI 0, vI 0, vI 0, .slice none 0 0, .slice none 0 0, .slice none 0 0] 26 fun h27 =>
 (Wp h27 (aS h25 0) 6 [vI x26, vI 0, vI 0, .slice none 0 0, .slice none 0 0, .slice none 0 0] fun h28 =>
 (QSI ⟨(some (aS h9 0)), 1, 1⟩ 0 h28 fun I29 queue_32 head_33 h34 m31 => (
 (sB (decide (head_33 < (queue_32.n : Int)))
 ((NB queue_32.a fun b35 o36 => (Ib head_33 queue_32.n /\
 (∃ x37, rI h34 ⟨b35, o36 + Int.toNat head_33 * 1, none⟩ x37 /\
 ((0 <= (x37 : Int) /\ (x37 : Int) < ((Int.toNat p2) : Nat)) /\
 (∃ x38, rI h34 (aS h1 (0 + Int.toNat x37 * 1)) x38 /\
 (∃ x39, rS h34 (aS h25 3) x39 /\
 (∃ x40, rS h34 ⟨p0.block, p0.off + 3, none⟩ x40 /\
 (NB x40.a fun b41 o42 => (Ib x38 x40.n /\
 (∃ x43, rB h34 ⟨b41, o42 + Int.toNat x38 * 1, none⟩ x43 /\
 (Wn h34 [.bool x43] 4 fun h44 =>
 (Sm [(aS h25 3)] h34 h44 /\
 (App Pz 22 22 (vS x39) (.slice (some (aS h34 0)) 1 1) h44 fun s45 h46 =>
 (Wp h46 (aS h25 3) 1 [vS s45] fun h47 =>
 (Fn Pz 135 #[.pointer (some p0), vI x38] h47
 (fun v48 h53 => ∃ (x49 : Int) (x50 : Bool) (x51 x52 : Int), v48 = .tuple ⟨[vI x49, .agg ⟨(L2 x50 x51 x52)⟩]⟩ /\
 (Wn h53 [.bool false, vI 0, vI 0] 79 fun h54 =>
 (Wp h54 (aS h53 0) 3 (L2 x50 x51 x52) fun h55 =>
 (∃ x56, rS h55 ⟨p0.block, p0.off + 6, none⟩ x56 /\
 (NB x56.a fun b57 o58 => (Ib x38 x56.n /\
 (∃ x59, rS h55 ⟨b57, o58 + Int.toNat x38 * 1, none⟩ x59 /\
 (QSI queue_32 0 h55 fun I60 queue_63 x_64 h65 m62 => (
 (sB (decide (x_64 < (x59.n : Int)))
 ((NB x59.a fun b66 o67 => (Ib x_64 x59.n /\
 (∃ x68, rI h65 ⟨b66, o67 + Int.toNat x_64 * 1, none⟩ x68 /\
 (∃ x69, rS h65 ⟨p0.block, p0.off + 4, none⟩ x69 /\
 (NB x69.a fun b70 o71 => (Ib x68 x69.n /\
 (∃ x72 x73 x74 x75 x76 x77, aL1 h65 ⟨b70, o71 + Int.toNat x68 * 6, none⟩ x72 x73 x74 x75 x76 x77 /\
 (Wn h65 [vI 0, .bool false, vI 0, vI 0, vI 0, .bool false] 81 fun h78 =>
 (Wp h78 (aS h65 0) 6 (L1 x72 x73 x74 x75 x76 x77) fun h79 =>
 (∃ x80, rI h79 (aS h65 4) x80 /\
 (NB p1.a fun b81 o82 => (Ib x80 p1.n /\
 (∃ x83, rI h79 ⟨b81, o82 + Int.toNat x80 * 1, none⟩ x83 /\
 (∃ J84 : Sl -> Heap -> Prop,
 (((0 <= (x83 : Int) /\ (x83 : Int) < ((Int.toNat p2) : Nat)) /\
 (∃ x85, rI h79 (aS h2 (0 + Int.toNat x83 * 1)) x85 /\
 (sB (decide (x85 < 0))
 (((0 <= (x83 : Int) /\ (x83 : Int) < ((Int.toNat p2) : Nat)) /\
 (Wp h79 (aS h2 (0 + Int.toNat x83 * 1)) 1 [vI (queue_63.n : Int)] fun h86 =>
 (Wn h86 [vI x83] 3 fun h87 =>
 (App Pz 49 49 (vS queue_63) (.slice (some (aS h86 0)) 1 1) h87 fun s88 h89 =>
 (J84 s88 h89))))))
 ((J84 queue_63 h79)))))) /\
 (∀ (_ : Env) (queue_90 : Sl) (h91 : Heap), J84 queue_90 h91 ->
 (∃ J92 : Heap -> Prop,
 ((sB (decide (x49 > 0))
 ((∃ x93 x94 x95 x96 x97 x98, aL1 h91 (aS h65 0) x93 x94 x95 x96 x97 x98 /\
 (∃ x99 x100 x101, aL2 h91 (aS h53 0) x99 x100 x101 /\
 (Fn Pz 63 #[.agg ⟨(L1 x93 x94 x95 x96 x97 x98)⟩] h91
 (fun v102 h106 => ∃ (x103 : Bool) (x104 x105 : Int), v102 = .agg ⟨(L2 x103 x104 x105)⟩ /\
 (Sm [(aS h53 0)] h91 h106 /\
 (sB ((x103 == x99) && ((x104 == x100) && ((x105 == x101) && true)))
 ((∃ x107, rS h106 (aS h25 5) x107 /\
 (∃ x108, rS h106 (aS h25 4) x108 /\
 (Wn h106 [vI head_33, vI x49, vI (x108.n : Int)] 44 fun h109 =>
 (App Pz 24 24 (vS x107) (.slice (some (aS h106 0)) 1 1) h109 fun s110 h111 =>
 (Wp h111 (aS h25 5) 1 [vS s110] fun h112 =>
 (J92 h112)))))))
 ((J92 h106)))))))))
 ((J92 h91)))) /\
 (∀ (_ : Env) (h113 : Heap), J92 h113 ->
 ((0 <= (x83 : Int) /\ (x83 : Int) < ((Int.toNat p2) : Nat)) /\
 (∃ x114, rI h113 (aS h2 (0 + Int.toNat x83 * 1)) x114 /\
 (Wp h113 (aS h65 0) 1 [vI head_33] fun h115 =>
 (Sm [(aS h2 (0 + Int.toNat x83 * 1))] h113 h115 /\
 (Wp h115 (aS h65 4) 1 [vI x114] fun h116 =>
 (∃ x117, rS h116 (aS h25 4) x117 /\
 (∃ x118 x119 x120 x121 x122 x123, aL1 h116 (aS h65 0) x118 x119 x120 x121 x122 x123 /\
 (Wn h116 (L1 x118 x119 x120 x121 x122 x123) 81 fun h124 =>
 (App Pz 23 23 (vS x117) (.slice (some (aS h116 0)) 1 1) h124 fun s125 h126 =>
 (Wp h126 (aS h25 4) 1 [vS s125] fun h127 =>
 (∃ m128, m128 < m62 /\ I60 queue_90 (IntKind.wrap .i64 (x_64 + 1)) h127 m128)))))))))))))))))))))))))))))
 ((∃ m129, m129 < m31 /\ I29 queue_63 (IntKind.wrap .i64 (head_33 + 1)) h65 m129))))))))))))))))))))))))))))
 ((Wp h34 (aS h25 1) 1 [vI (queue_32.n : Int)] fun h130 =>
 (∃ x131 x132 x133 x134 x135 x136, aL0 h130 (aS h25 0) x131 x132 x133 x134 x135 x136 /\
 (Wp h130 (aS h 0) 6 (L0 x131 x132 x133 x134 x135 x136) fun h137 =>
 (∃ x138 x139 x140 x141 x142 x143, aL0 h137 (aS h 0) x138 x139 x140 x141 x142 x143 /\
 R (.agg ⟨(L0 x138 x139 x140 x141 x142 x143)⟩) h137))))))))))))))))))))))))))))
theorem vc74 (p0 : Addr) (p1 : Sl) (p2 : Int) (h : Heap) (R : Value -> Heap -> Prop) (H : W74 p0 p1 p2 h R) : Fn Pz 74 #[.pointer (some p0), vS p1, vI p2] h R := fnI (A := (.s .z (.s .z (.s .z (.s (.s .z (.b (.l [(9, .one (.int .i64))] .z))) (.s .z (.s .z (.s .z (.s (.s .z (.b (.l [(10, .one (.slice)), (12, .one (.int .i64))] (.s .z (.s (.b (.s .z (.s .z (.s .z (.s .z (.b (.l [(10, .one (.slice)), (107, .one (.int .i64))] (.s .z (.s .z (.s (.b (.s .z (.s .z (.s .z (.j [(10, .one (.slice))] .z (.j [] .z .z)))))) .z)))))))))) .z))))) .z))))))))) (by kernel_rfl) H

end Go.VC
end
