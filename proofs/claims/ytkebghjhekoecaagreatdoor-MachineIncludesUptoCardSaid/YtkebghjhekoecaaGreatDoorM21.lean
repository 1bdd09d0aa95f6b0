/- RjI RjJ RjVcE RjVcF QjVcK RjK RjVcG RjL RjM RjN RjO RjVcL. -/
import Derived.Test.YtkebghjhekoecaaGreatDoorM20
import Derived.Test.YtkebghjhekoecaaGreatDoorM18
import Derived.Test.YtkebghjhekoecaaGreatDoorM01
import Derived.Test.YtkebghjhekoecaaGreatDoorM02
import Derived.Test.YtkebghjhekoecaaGreatDoorProg
import Derived.KernelRfl
import Derived.Test.YtkebghjhekoecaaGreatDoorM03
set_option linter.unusedVariables false
set_option linter.unusedSimpArgs false
set_option maxRecDepth 100000

section
/- Contract: the laws of layer 26 are awake. -/
namespace Go.VC
open Go.Proofs Go.LexS
def exM : Mch := ⟨2, 4, 0, [false, false, false, true], [⟨0, false, 1, 0, 1, false⟩, ⟨0, false, 1, 1, 2, false⟩, ⟨1, true, 1, 2, 3, false⟩, ⟨2, true, 1, 3, 3, false⟩], []⟩
theorem ex_raw_true (hr hd he ht : Sl) : rawC (exGl true hr hd he ht) 2 = some (some exM, 0) := by kernel_rfl
theorem ex_min : minF exM = exM := by kernel_rfl
theorem ex_true (hr hd he ht : Sl) : proj (exGl true hr hd he ht) 2 = (some exM, 0) := by
 have := rawC_ok (ex_valid true hr hd he ht) (by decide) (show (2 : Int) < ((3 : Nat) : Int) by decide) (ex_raw_true hr hd he ht)
 unfold proj
 rw [this]
 show (some (minF exM), 0) = _
 rw [ex_min]
theorem exM_get (i : Nat) (x : Mv) (h : exM.mv[i]? = some x) : (i = 0 /\ x = ⟨0, false, 1, 0, 1, false⟩) \/ (i = 1 /\ x = ⟨0, false, 1, 1, 2, false⟩) \/ (i = 2 /\ x = ⟨1, true, 1, 2, 3, false⟩) \/ (i = 3 /\ x = ⟨2, true, 1, 3, 3, false⟩) := by
 match i, h with
 | 0, h => exact .inl ⟨rfl, (Option.some.inj h).symm⟩
 | 1, h => exact .inr (.inl ⟨rfl, (Option.some.inj h).symm⟩)
 | 2, h => exact .inr (.inr (.inl ⟨rfl, (Option.some.inj h).symm⟩))
 | 3, h => exact .inr (.inr (.inr ⟨rfl, (Option.some.inj h).symm⟩))
 | n + 4, h => exact absurd h (by simp [exM])
theorem exM_mem (x : Mv) (h : x ∈ exM.mv) : x = ⟨0, false, 1, 0, 1, false⟩ \/ x = ⟨0, false, 1, 1, 2, false⟩ \/ x = ⟨1, true, 1, 2, 3, false⟩ \/ x = ⟨2, true, 1, 3, 3, false⟩ := by
 obtain ⟨i, hi⟩ := Yf.1 h
 rcases exM_get i x hi with ⟨_, e⟩ | ⟨_, e⟩ | ⟨_, e⟩ | ⟨_, e⟩
 ·
  exact .inl e
 ·
  exact .inr (.inl e)
 ·
  exact .inr (.inr (.inl e))
 ·
  exact .inr (.inr (.inr e))
theorem exM_ag (x : Mv) (h : x ∈ exM.mv) : x.ag = false := by
 rcases exM_mem x h with rfl | rfl | rfl | rfl <;> rfl
theorem exVM : VM exM := by
 refine ⟨⟨⟨by decide, by decide⟩, ⟨by decide, by decide⟩, ⟨by decide, by decide⟩, rfl, by decide, fun x hx => ?_⟩, fun i k x y hx hy hne hf => ?_, fun v h0 h1 => ?_, ⟨fun x hx ha => ?_, fun x hx ha => ?_, fun x hx ha => ?_, fun x hx ha => ?_, fun x hx ha => ?_⟩, fun i t h => ?_⟩
 ·
  rcases exM_mem x hx with rfl | rfl | rfl | rfl <;> decide
 ·
  rcases exM_get i x hx with ⟨rfl, rfl⟩ | ⟨rfl, rfl⟩ | ⟨rfl, rfl⟩ | ⟨rfl, rfl⟩ <;> rcases exM_get k y hy with ⟨rfl, rfl⟩ | ⟨rfl, rfl⟩ | ⟨rfl, rfl⟩ | ⟨rfl, rfl⟩ <;> first
   | exact absurd rfl hne
   | exact absurd hf (by decide)
   | exact ⟨fun e => absurd (congrArg Ev.label e) (by decide), rfl⟩
 ·
  have q0 : Qr (meds exM) (-1) [exM.s] 0 := .base (Ye.2 rfl)
  have q1 : Qr (meds exM) (-1) [exM.s] 1 := .step q0 ⟨⟨0, 0, 0, 0, 1, false⟩, Yp.2 ⟨⟨0, false, 1, 0, 1, false⟩, by simp [exM], rfl⟩, rfl, rfl, rfl⟩
  have q2 : Qr (meds exM) (-1) [exM.s] 2 := .step q0 ⟨⟨0, 0, 0, 0, 2, false⟩, Yp.2 ⟨⟨0, false, 1, 1, 2, false⟩, by simp [exM], rfl⟩, rfl, rfl, rfl⟩
  have q3 : Qr (meds exM) (-1) [exM.s] 3 := .step q1 ⟨⟨1, 0, 0, 0, 3, false⟩, Yp.2 ⟨⟨1, true, 1, 2, 3, false⟩, by simp [exM], rfl⟩, rfl, rfl, rfl⟩
  have h1 : v < 4 := h1
  have : v = 0 \/ v = 1 \/ v = 2 \/ v = 3 := by omega
  rcases this with rfl | rfl | rfl | rfl
  ·
   exact q0
  ·
   exact q1
  ·
   exact q2
  ·
   exact q3
 ·
  rw [exM_ag x hx] at ha; cases ha
 ·
  rw [exM_ag x hx] at ha; cases ha
 ·
  rw [exM_ag x hx] at ha; cases ha
 ·
  rw [exM_ag x hx] at ha; cases ha
 ·
  rw [exM_ag x hx] at ha; cases ha
 ·
  simp [exM] at h
def evA (l : Int) : Hv := ⟨2, false, 1, l, ⟨none, 0, 0⟩⟩
def evB : Hv := ⟨2, true, 1, 2, ⟨none, 0, 0⟩⟩
theorem ex_run0 : runN exM exM.s 0 [evA 0, evB] = (3, 2, 0) := by kernel_rfl
theorem ex_run1 : runN exM exM.s 0 [evA 1, evB] = (2, 1, 23) := by kernel_rfl
theorem hvrows (L : List Hv) : ∀ r ∈ L.map Hv.cs, r.length = 5 := fun r hr => by obtain ⟨x, _, rfl⟩ := Yp.1 hr; rfl
set_option maxHeartbeats 1600000 in
theorem awake12 (h : Heap) (hx : Gx h) : Fn Pz 12 #[] h fun v h' => v = .bool true /\ Ext h h' := by
 apply vc12; unfold W12
 have hs := St.refl h
 refine (example34 true h).mono ?_
 rintro _ h10 ⟨E10, hr, hd, he, rfl, hg⟩
 refine ⟨_, hr, hd, _, _, _, he, ⟨none, 0, 0⟩, rfl, ?_⟩
 refine (project12 _ 2 h10 hg (hx.ext E10)).mono ?_
 rintro _ h19 ⟨E19, hm⟩
 rw [ex_true] at hm
 cases hm with
 | err he0 _ => cases he0
 | @ok m sf sm sl he0 hs2 =>
  cases he0
  have hM : MI h19 exM sf sm sl := ⟨hs2.rl 0 rfl (by omega) (by decide), hs2.rl 1 rfl (by omega) (by decide), hs2.rl 2 rfl (by omega) (by decide)⟩
  have E0 : Ext h h19 := E10.trans E19
  refine ⟨_, _, _, sf, sm, sl, 0, rfl, ?_⟩
  refine (St.refl h19).newput (vs := mC exM sf sm sl) rfl rfl fun h21 hs => ?_
  refine hs.newb fun h22 hs => ?_
  refine hs.newb fun h23 hs => ?_
  refine hs.put 1 rfl (o := 0) (vs := (evA 0).cs) rfl (show 5 <= 5 by decide) fun h24 hs => ?_
  refine hs.put 0 rfl (o := 0) (vs := evB.cs) rfl (show 5 <= 5 by decide) fun h25 hs => ?_
  refine ⟨_, _, _, sf, sm, sl, hs.at 2 rfl (o := 0) (n := 6) rfl, _, _, _, _, ⟨none, 0, 0⟩, hs.at 1 rfl (o := 0) (n := 5) rfl, _, _, _, _, ⟨none, 0, 0⟩, hs.at 0 rfl (o := 0) (n := 5) rfl, ?_⟩
  refine hs.newb fun h42 hs => ?_
  have hs := hs.blkS 2 5 ([evA 0, evB].map Hv.cs) rfl (hvrows _) rfl (by decide)
  refine (run14 exM sf sm sl [evA 0, evB] _ h42 (hM.ext hs.ext) (hs.rows 0 rfl (by omega)) (by decide)).mono ?_
  rintro _ h47 ⟨rfl, E⟩
  have hs := hs.step E
  rw [if_pos exVM, ex_run0]
  refine ⟨_, _, _, rfl, ?_⟩
  refine hs.put 2 rfl (o := 3) (vs := [.int .i64 1]) rfl (show 3 + 1 <= 5 by decide) fun h48 hs => ?_
  refine ⟨_, _, _, sf, sm, sl, hs.at 3 rfl (o := 0) (n := 6) rfl, _, _, _, _, ⟨none, 0, 0⟩, hs.at 2 rfl (o := 0) (n := 5) rfl, _, _, _, _, ⟨none, 0, 0⟩, hs.at 1 rfl (o := 0) (n := 5) rfl, ?_⟩
  refine hs.newb fun h65 hs => ?_
  have hs := hs.blkS 2 5 ([evA 1, evB].map Hv.cs) rfl (hvrows _) rfl (by decide)
  refine (run14 exM sf sm sl [evA 1, evB] _ h65 (hM.ext hs.ext) (hs.rows 0 rfl (by omega)) (by decide)).mono ?_
  rintro _ h70 ⟨rfl, E⟩
  have hs := hs.step E
  rw [if_pos exVM, ex_run1]
  refine ⟨_, _, _, rfl, ?_⟩
  refine sB_t rfl (sB_t rfl (sB_t rfl (sB_t rfl (sB_t rfl ?_))))
  refine ⟨_, _, _, sf, sm, sl, hs.at 4 rfl (o := 0) (n := 6) rfl, ?_⟩
  refine (valid23 exM sf sm sl h70 (hM.ext hs.ext)).mono ?_
  rintro _ h79 ⟨⟨b, rfl, hb⟩, E⟩
  exact ⟨_, rfl, by rw [hb.2 exVM], E0.trans (hs.step E).ext⟩
end Go.VC
end

section
/- The walk of the law of histories step by step. (Numbers of layer 26's seat.) -/
namespace Go.VC
open Go.Proofs Go.LexS
theorem Rw.prefix {h : Heap} {k : Nat} {s : Sl} {rows : List (List Value)} (hr : Rw h k s rows) {i c : Nat} (hi : i <= s.n) : Rw h k ⟨s.a, i, c⟩ (rows.take i) := by
 have hn := hr.1
 refine ⟨by rw [Yu]; show i = _; omega, fun hp => ?_⟩
 rw [Yu] at hp
 obtain ⟨b, o, ha, hall⟩ := hr.2 (by omega)
 refine ⟨b, o, ha, fun j row hj => hall j row ?_⟩
 rw [Yyf] at hj
 split at hj
 ·
  exact hj
 ·
  cases hj
theorem nxE_range {m : Mch} {s : Int} {e : Ev} (h : 0 <= nxE m s e) : ∃ y ∈ m.mv, nxE m s e = y.t := by
 unfold nxE at h ⊢
 cases hq : m.mv.find? fun y => decide (y.f = s /\ y.ev = e) with
 | none => rw [hq] at h; exact absurd h (by show ¬ ((0 : Int) <= -1); decide)
 | some y => exact ⟨y, List.mem_of_find?_eq_some hq, rfl⟩
end Go.VC
end

section
namespace Go.VC
open Go.Proofs

def W3 (p0_1 p0_2 p0_3 : Int) (p0_4 p0_5 p0_6 : Sl) (p1_7 p1_8 p1_9 : Int) (p1_10 p1_11 p1_12 p2 : Sl) (h : Heap) (R : Value -> Heap -> Prop) : Prop :=
 (Wn h (L0 p0_1 p0_2 p0_3 p0_4 p0_5 p0_6) 26 fun h13 =>
 (Wn h13 (L0 p1_7 p1_8 p1_9 p1_10 p1_11 p1_12) 26 fun h14 =>
 (Fn Pz 12 #[] h14
 (fun v15 h17 => ∃ x16, iB v15 x16 /\
 (sB (!x16)
 (R (.bool false) h17)
 ((∃ x18 x19 x20 x21 x22 x23, aL0 h17 (aS h 0) x18 x19 x20 x21 x22 x23 /\
 (Fn Pz 13 #[.agg ⟨(L0 x18 x19 x20 x21 x22 x23)⟩] h17
 (fun v24 h26 => ∃ x25, iB v24 x25 /\
 (sB (!x25)
 (R (.bool true) h26)
 ((∃ x27 x28 x29 x30 x31 x32, aL0 h26 (aS h13 0) x27 x28 x29 x30 x31 x32 /\
 (Fn Pz 13 #[.agg ⟨(L0 x27 x28 x29 x30 x31 x32)⟩] h26
 (fun v33 h35 => ∃ x34, iB v33 x34 /\
 (sB (!x34)
 (R (.bool true) h35)
 ((sB (decide ((p2.n : Int) > 30))
 (R (.bool true) h35)
 ((∃ x36 x37 x38 x39 x40 x41, aL0 h35 (aS h 0) x36 x37 x38 x39 x40 x41 /\
 (Fn Pz 14 #[.agg ⟨(L0 x36 x37 x38 x39 x40 x41)⟩, vS p2] h35
 (fun v42 h46 => ∃ (x43 x44 x45 : Int), v42 = .tuple ⟨(L4 x43 x44 x45)⟩ /\
 (∃ x47 x48 x49 x50 x51 x52, aL0 h46 (aS h 0) x47 x48 x49 x50 x51 x52 /\
 (Fn Pz 15 #[.agg ⟨(L0 x47 x48 x49 x50 x51 x52)⟩, vS p2] h46
 (fun v53 h57 => ∃ (x54 x55 x56 : Int), v53 = .tuple ⟨(L4 x54 x55 x56)⟩ /\
 (sB (x43 == x54)
 ((sB (x44 == x55)
 ((sB (x45 == x56)
 ((∃ x58 x59 x60 x61 x62 x63, aL0 h57 (aS h 0) x58 x59 x60 x61 x62 x63 /\
 (∃ x64 x65 x66 x67 x68 x69, aL0 h57 (aS h13 0) x64 x65 x66 x67 x68 x69 /\
 (∃ x70 x71 x72 x73 x74 x75, aL0 h57 (aS h 0) x70 x71 x72 x73 x74 x75 /\
 (∃ x76 x77 x78 x79 x80 x81, aL0 h57 (aS h13 0) x76 x77 x78 x79 x80 x81 /\
 (Fn Pz 16 #[.agg ⟨(L0 x58 x59 x60 x61 x62 x63)⟩, .agg ⟨(L0 x64 x65 x66 x67 x68 x69)⟩] h57
 (fun v82 h84 => ∃ x83, iB v82 x83 /\
 (Sm [(aS h13 0), (aS h 0)] h57 h84 /\
 (Fn Pz 17 #[.agg ⟨(L0 x70 x71 x72 x73 x74 x75)⟩, .agg ⟨(L0 x76 x77 x78 x79 x80 x81)⟩] h84
 (fun v85 h87 => ∃ x86, iB v85 x86 /\
 (Sm [(aS h13 0), (aS h 0)] h84 h87 /\
 (sB (x83 == x86)
 ((∃ x88 x89 x90 x91 x92 x93, aL0 h87 (aS h 0) x88 x89 x90 x91 x92 x93 /\
 (∃ x94 x95 x96 x97 x98 x99, aL0 h87 (aS h 0) x94 x95 x96 x97 x98 x99 /\
 (Fn Pz 16 #[.agg ⟨(L0 x88 x89 x90 x91 x92 x93)⟩, .agg ⟨(L0 x94 x95 x96 x97 x98 x99)⟩] h87
 (fun v100 h102 => ∃ x101, iB v100 x101 /\
 (Sm [(aS h13 0), (aS h 0), (aS h13 0), (aS h 0)] h87 h102 /\
 R (.bool x101) h102))))))
 (R (.bool false) h87)))))))))))))
 (R (.bool false) h57)))
 (R (.bool false) h57)))
 (R (.bool false) h57))))))))))))))))))))))))))
end Go.VC
end

section
namespace Go.VC
open Go.Proofs

end Go.VC
end

section
namespace Go.VC
open Go.Proofs

def W54 (p0_1 p0_2 p0_3 : Int) (p0_4 p0_5 p0_6 : Sl) (p1 p2_7 : Int) (p2_8 : Bool) (p2_9 p2_10 : Int) (p2_11 : Sl) (h : Heap) (R : Value -> Heap -> Prop) : Prop :=
 (Wn h (L0 p0_1 p0_2 p0_3 p0_4 p0_5 p0_6) 26 fun h12 =>
 (Wn h12 (L5 p2_7 p2_8 p2_9 p2_10 p2_11) 37 fun h13 =>
 (QI 0 h13 fun I14 i_17 h18 m16 => (
 (∃ x19, rS h18 (aS h 4) x19 /\
 (sB (decide (i_17 < (x19.n : Int)))
 ((∃ x20, rS h18 (aS h 4) x20 /\
 (NB x20.a fun b21 o22 => (Ib i_17 x20.n /\
 (∃ x23 x24 x25 x26 x27 x28, aL1 h18 ⟨b21, o22 + Int.toNat i_17 * 6, none⟩ x23 x24 x25 x26 x27 x28 /\
 (Wn h18 [vI 0, .bool false, vI 0, vI 0, vI 0, .bool false] 81 fun h29 =>
 (Wp h29 (aS h18 0) 6 (L1 x23 x24 x25 x26 x27 x28) fun h30 =>
 (∃ x31, rI h30 (aS h12 0) x31 /\
 (∃ x32, rI h30 (aS h 0) x32 /\
 (sB (x31 == x32)
 ((∃ x33, rI h30 (aS h18 0) x33 /\
 (sB (x33 == p1)
 ((∃ x34, rB h30 (aS h18 1) x34 /\
 (∃ x35, rB h30 (aS h12 1) x35 /\
 (sB (x34 == x35)
 ((∃ x36, rI h30 (aS h18 2) x36 /\
 (∃ x37, rI h30 (aS h12 2) x37 /\
 (sB (x36 == x37)
 ((∃ x38, rI h30 (aS h18 3) x38 /\
 (∃ x39, rI h30 (aS h12 3) x39 /\
 (sB (x38 == x39)
 ((∃ x40, rI h30 (aS h18 4) x40 /\
 R (vI x40) h30))
 ((∃ m41, m41 < m16 /\ I14 (IntKind.wrap .i64 (i_17 + 1)) h30 m41))))))
 ((∃ m42, m42 < m16 /\ I14 (IntKind.wrap .i64 (i_17 + 1)) h30 m42))))))
 ((∃ m43, m43 < m16 /\ I14 (IntKind.wrap .i64 (i_17 + 1)) h30 m43))))))
 ((∃ m44, m44 < m16 /\ I14 (IntKind.wrap .i64 (i_17 + 1)) h30 m44)))))
 ((∃ m45, m45 < m16 /\ I14 (IntKind.wrap .i64 (i_17 + 1)) h30 m45))))))))))))
 (R (vI (-1)) h18)))))))
theorem vc54 (p0_1 p0_2 p0_3 : Int) (p0_4 p0_5 p0_6 : Sl) (p1 p2_7 : Int) (p2_8 : Bool) (p2_9 p2_10 : Int) (p2_11 : Sl) (h : Heap) (R : Value -> Heap -> Prop) (H : W54 p0_1 p0_2 p0_3 p0_4 p0_5 p0_6 p1 p2_7 p2_8 p2_9 p2_10 p2_11 h R) : Fn Pz 54 #[.agg ⟨(L0 p0_1 p0_2 p0_3 p0_4 p0_5 p0_6)⟩, vI p1, .agg ⟨(L5 p2_7 p2_8 p2_9 p2_10 p2_11)⟩] h R := fnI (A := (.s .z (.s (.s .z (.b (.l [(7, .one (.int .i64))] .z))) .z))) (by kernel_rfl) H

end Go.VC
end

section
/- Contracts: the reference's Next and Run; equality of machines on both sides; the walk of the law of runs. (Numbers of layer 26's seat.) -/
namespace Go.VC
open Go.Proofs Go.LexS
namespace M
theorem first_hit {α : Type} {p : α -> Bool} : ∀ (l : List α) (i : Nat) (y : α), l[i]? = some y -> p y = true -> (∀ (j : Nat) z, j < i -> l[j]? = some z -> p z = false) -> l.find? p = some y
 | [], i, y, h, _, _ => by simp at h
 | a :: l, 0, y, h, hp, _ => by simp at h; subst h; rw [List.find?_cons, hp]
 | a :: l, i + 1, y, h, hp, hn => by
  rw [List.find?_cons, hn 0 a (by omega) rfl]
  exact first_hit l i y (by simpa using h) hp fun j z hj hz => hn (j + 1) z (by omega) (by simpa using hz)
end M
theorem refNext54 (m : Mch) (sf sm sl : Sl) (s : Int) (x : Hv) (h : Heap) (hM : MI h m sf sm sl) :
  Fn Pz 54 #[.agg ⟨mC m sf sm sl⟩, .int .i64 s, .agg ⟨x.cs⟩] h fun v h' => v = .int .i64 (nxH m s x) /\ Ext h h' := by
 apply vc54 m.role m.n m.s sf sm sl s x.role x.send x.peer x.label x.vs; unfold W54
 have hmn := hM.pm.ln
 have hmb := hM.pm.sm
 refine (St.refl h).newb fun h12 hs => ?_
 refine hs.newb fun h13 hs => ?_
 refine up_loopS (n := sm.n) hs (fun i => ∀ (j : Nat) y, j < i -> m.mv[j]? = some y -> ¬ (x.role = m.role /\ y.f = s /\ y.ev = x.ev)) (fun j y hj => by omega) ?_
 rintro - i h18 hi ⟨hs, hq⟩
 refine ⟨sm, hs.rd 1 rfl rfl, sB_intro (fun c => ?_) (fun c => ?_)⟩
 ·
  replace c := lt_t c
  refine ⟨sm, hs.rd 1 rfl rfl, ?_⟩
  refine (hM.pm.rw.ext hs.ext).nbI (by omega) (by omega) fun b o y gy t => ?_
  replace gy : m.mv[i]? = some y := gy
  refine ⟨_, _, _, _, _, _, t, ?_⟩
  refine hs.newput (vs := y.cs) rfl rfl fun h30 hs => ?_
  have miss : ¬ (x.role = m.role /\ y.f = s /\ y.ev = x.ev) -> ∃ m41, m41 < sm.n - i /\ Up sm.n (fun i h' => St h h' [.blk h12.size x.cs 37, .blk h.size (mC m sf sm sl) 26] /\ ∀ (j : Nat) y, j < i -> m.mv[j]? = some y -> ¬ (x.role = m.role /\ y.f = s /\ y.ev = x.ev)) (IntKind.wrap .i64 ((i : Int) + 1)) h30 m41 := fun hn =>
   Up.next c (by omega) ⟨hs.drop 1, fun j z hj hz => by
    by_cases e : j = i
    ·
     subst e; rw [gy] at hz; cases hz; exact hn
    ·
     exact hq j z (by omega) hz⟩
  refine ⟨_, hs.rd 1 rfl rfl, _, hs.rd 2 rfl rfl, sBe (fun c1 => ?_) (fun c1 => miss fun e => c1 e.1)⟩
  refine ⟨_, hs.rd 0 rfl rfl, sBe (fun c2 => ?_) (fun c2 => miss fun e => c2 e.2.1)⟩
  refine ⟨_, hs.rd 0 rfl rfl, _, hs.rd 1 rfl rfl, sB_intro (fun c3 => ?_) (fun c3 => miss fun e => by have := congrArg Ev.send e.2.2; rw [show y.send = x.send from this] at c3; simp at c3)⟩
  refine ⟨_, hs.rd 0 rfl rfl, _, hs.rd 1 rfl rfl, sBe (fun c4 => ?_) (fun c4 => miss fun e => c4 (congrArg Ev.peer e.2.2))⟩
  refine ⟨_, hs.rd 0 rfl rfl, _, hs.rd 1 rfl rfl, sBe (fun c5 => ?_) (fun c5 => miss fun e => c5 (congrArg Ev.label e.2.2))⟩
  refine ⟨_, hs.rd 0 rfl rfl, ?_, hs.ext⟩
  have c3' : y.send = x.send := by simpa using c3
  have hev : y.ev = x.ev := ev_ext c3' c4 c5
  unfold nxH nxE
  rw [if_pos c1, M.first_hit m.mv i y gy (decide_eq_true ⟨c2, hev⟩) fun j z hj hz => decide_eq_false fun e => hq j z hj hz ⟨c1, e.1, e.2⟩]
 ·
  replace c := lt_f c
  refine ⟨?_, hs.ext⟩
  unfold nxH
  split
  ·
   rename_i hr
   rw [nxE_none fun y hy hf he => ?_]
   obtain ⟨j, hj⟩ := Yf.1 hy
   exact hq j y (by have := (Ya.1 hj).1; omega) hj ⟨hr, hf, he⟩
  ·
   rfl
end Go.VC
end

section
namespace Go.VC
open Go.Proofs

end Go.VC
end

section
/- Contract: the reference's moves of a state, sorted. (Numbers of layer 26's seat.) -/
namespace Go.VC
open Go.Proofs Go.LexS
namespace M
theorem intrw {h : Heap} {s : Sl} {L : List Int} (hr : Rw h 1 s (L.map inC)) (hc : s.n <= s.c) {i : Nat} (hi : i <= s.n) : Rw h 1 ⟨subA s.a i s.c 1, s.n - i, s.c - i⟩ ((L.drop i).map inC) := by
 have hn := hr.ln
 rw [List.map_drop]
 by_cases h0 : i = s.n
 ·
  rw [List.drop_eq_nil_of_le (by rw [Yc]; omega)]
  exact Rw.empty (by show s.n - i = 0; omega)
 ·
  exact hr.from hc (by omega)
theorem subA_nil {s : Sl} {i : Nat} (hna : s.a = none -> s.n = 0 /\ s.c = 0) (h : subA s.a i s.c 1 = none) : s.n - i = 0 /\ s.c - i = 0 := by
 unfold subA at h
 split at h
 ·
  have := hna h; omega
 ·
  cases ha : s.a with
  | none => have := hna ha; omega
  | some a => rw [ha] at h; cases h
end M
theorem ins_ok {m : Mch} {s : Int} {O : List Nat} {i k : Nat} (hP : O.Perm ((List.range i).filter (outP m s))) (hS : O.Pairwise fun a b => ¬ evLt (evI m b) (evI m a)) (hx : outP m s i = true)
  (hb : ∀ (j a : Nat), j < k -> O[j]? = some a -> ¬ evLt (evI m i) (evI m a)) (ha : ∀ c, O[k]? = some c -> evLt (evI m i) (evI m c)) :
  (O.take k ++ [i] ++ O.drop k).Perm ((List.range (i + 1)).filter (outP m s)) /\ (O.take k ++ [i] ++ O.drop k).Pairwise fun a b => ¬ evLt (evI m b) (evI m a) := by
 constructor
 ·
  rw [List.range_succ, List.filter_append, List.filter_cons_of_pos hx, List.filter_nil]
  refine List.Perm.trans ?_ (hP.append_right [i])
  rw [Yz]
  refine List.Perm.trans (List.Perm.append_left _ List.perm_append_comm) ?_
  rw [<- Yz, List.take_append_drop]
 ·
  have hS' := hS
  rw [<- List.take_append_drop k O, List.pairwise_append] at hS'
  rw [Yz, List.pairwise_append]
  have hdr : ∀ b ∈ O.drop k, ¬ evLt (evI m b) (evI m i) := fun b hbm hlt => by
   cases hd : O.drop k with
   | nil => rw [hd] at hbm; cases hbm
   | cons c l =>
    have hc : O[k]? = some c := by
     have := List.getElem?_drop (xs := O) (i := k) (j := 0)
     rw [hd] at this
     simpa using this.symm
    have h1 := ha c hc
    have h2 := hS'.2.1
    rw [hd] at hbm h2
    rcases Yr.1 hbm with rfl | hbm
    ·
     exact evLt_irr _ (evLt_trans h1 hlt)
    ·
     exact (List.pairwise_cons.1 h2).1 b hbm (evLt_trans hlt h1)
  refine ⟨hS'.1, ?_, fun a ham b hbm => ?_⟩
  ·
   rw [List.singleton_append, List.pairwise_cons]
   exact ⟨hdr, hS'.2.1⟩
  ·
   rcases Yk.1 hbm with hbm | hbm
   ·
    rw [Ye.1 hbm]
    obtain ⟨j, hj⟩ := Yf.1 ham
    rw [Yyf] at hj
    split at hj
    ·
     exact hb j a (by assumption) hj
    ·
     cases hj
   ·
    exact hS'.2.2 a ham b hbm
set_option maxHeartbeats 3200000 in
theorem refOut62S (m : Mch) (sf sm sl : Sl) (s : Int) (h : Heap) (hM : MI h m sf sm sl) :
  Fn Pz 62 #[.agg ⟨mC m sf sm sl⟩, .int .i64 s] h fun v h' => ∃ (r : Sl) (O : List Nat), v = .slice r.a r.n r.c /\ St h h' [.sl r 3 1 ((natI O).map inC)] /\ O.Perm (outIx m s) /\ O.Pairwise fun a b => ¬ evLt (evI m b) (evI m a) := by
 apply vc62 m.role m.n m.s sf sm sl; unfold W62
 have hs := St.refl h
 have hmn := hM.pm.ln
 have hmb := hM.pm.sm
 refine hs.newb fun h7 hs => ?_
 have hs := hs.nil_ 3 1
 refine up_loopA (n := m.mv.length) hs (fun i rows => ∃ O : List Nat, rows = (natI O).map inC /\ O.Perm ((List.range i).filter (outP m s)) /\ O.Pairwise fun a b => ¬ evLt (evI m b) (evI m a)) ⟨[], rfl, List.Perm.refl _, List.Pairwise.nil⟩ ?_
 clear hs
 rintro - i out h13 _ hi hs ⟨O, rfl, hP, hSo⟩
 have holn := (hs.rows 0 (cs := inC) rfl (by omega)).ln
 have hocap := hs.len 0 (s := out) (e := 3) (n := 1) rfl (by omega)
 rw [show (natI O).length = O.length from Yc _] at holn
 have hol : O.length <= i := by rw [hP.length_eq]; exact Nat.le_trans (List.length_filter_le _ _) (by rw [Yyd]; exact Nat.le_refl _)
 refine ⟨sm, hs.rd 1 rfl rfl, ?_⟩
 refine sBi (fun c1 => ?_) (fun c1 => ?_)
 ·
  have him : i < m.mv.length := by omega
  refine ⟨sm, hs.rd 1 rfl rfl, ?_⟩
  refine (hM.pm.ext hs.ext).rw.nbI (by omega) (by omega) fun b16 o17 x g16 t16 => ?_
  replace g16 : m.mv[i]? = some x := g16
  refine ⟨_, t16.hd, ?_⟩
  have hp : outP m s i = decide (x.f = s) := by unfold outP; rw [g16]
  refine sBn (fun c2 => ?_) (fun c2 => ?_)
  ·
   refine UpA.next him (by omega) ⟨_, hs, O, rfl, ?_, hSo⟩
   rw [List.range_succ, List.filter_append, List.filter_cons_of_neg (by rw [hp, decide_eq_false c2]; simp), List.filter_nil, Yw]
   exact hP
  ·
   have hxi : outP m s i = true := by rw [hp]; exact decide_eq_true c2
   have hevi : evI m i = x.ev := evI_of g16
   have hOm : ∀ (k j : Nat), O[k]? = some j -> ∃ y, m.mv[j]? = some y := fun k j hk => by
    have := hP.mem_iff.1 (Yb hk)
    rw [List.mem_filter, List.mem_range] at this
    exact get_some (by omega)
   refine up_loopS (n := out.n) hs (fun k => ∀ (j a : Nat), j < k -> O[j]? = some a -> ¬ evLt (evI m i) (evI m a)) (fun j a hj => by omega) ?_
   clear hs
   rintro - k h24 hko ⟨hs, hq⟩
   refine sBi (fun c3 => ?_) (fun c3 => ?_)
   ·
    refine ⟨sm, hs.rd 1 rfl rfl, ?_⟩
    refine (hM.pm.ext hs.ext).rw.nbI (by omega) (by omega) fun b26 o27 x' g26 t26 => ?_
    rw [Ys, g16] at g26; cases g26
    refine ⟨_, _, _, _, _, _, t26, sm, hs.rd 1 rfl rfl, ?_⟩
    refine (hs.rows 0 (cs := inC) rfl (by omega)).nbI (by omega) (by omega) fun b35 o36 d g35 t35 => ?_
    obtain ⟨j, hj, rfl⟩ := natI_get g35
    replace hj : O[k]? = some j := hj
    obtain ⟨y, hy⟩ := hOm _ _ hj
    have hyl := (Ya.1 hy).1
    have hevj : evI m j = y.ev := evI_of hy
    refine ⟨_, t35.hd, ?_⟩
    refine (hM.pm.ext hs.ext).rw.nbI (by omega) (by omega) fun b38 o39 y' g38 t38 => ?_
    rw [Ys, hy] at g38; cases g38
    refine ⟨_, _, _, _, _, _, t38, ?_⟩
    refine (before26 x y h24).mono ?_
    rintro _ h48 ⟨rfl, E48⟩
    have hs := hs.step E48
    refine ⟨_, rfl, sB_intro (fun c4 => ?_) (fun c4 => ?_)⟩
    ·
     have hnl : ¬ evLt x.ev y.ev := of_decide_eq_false (bF c4)
     refine Up.next (by omega) (by omega) ⟨hs, fun j' a hj' ha => ?_⟩
     by_cases e : j' = k
     ·
      subst e; rw [hj] at ha; cases ha; rw [hevi, hevj]; exact hnl
     ·
      exact hq j' a (by omega) ha
    ·
     have hlt : evLt x.ev y.ev := of_decide_eq_true (bT c4)
     have hat : ∀ c, O[k]? = some c -> evLt (evI m i) (evI m c) := fun c hc => by rw [hj] at hc; cases hc; rw [hevi, hevj]; exact hlt
     have fin : ∀ {h' : Heap} {r : Sl}, St h h' [.sl r 3 1 ((natI (O.take k)).map inC ++ [[.int .i64 (i : Nat)]] ++ (natI (O.drop k)).map inC), .blk h.size (mC m sf sm sl) 26] -> ∃ m', m' < m.mv.length - i /\ UpA m.mv.length (fun i s_1 h' => ∃ rows, St h h' (.sl s_1 3 1 rows :: [.blk h.size (mC m sf sm sl) 26]) /\ ∃ O : List Nat, rows = (natI O).map inC /\ O.Perm ((List.range i).filter (outP m s)) /\ O.Pairwise fun a b => ¬ evLt (evI m b) (evI m a)) r (IntKind.wrap .i64 ((i : Int) + 1)) h' m' := by
      intro h' r h1
      have hok := ins_ok hP hSo hxi hq hat
      refine UpA.next him (by omega) ⟨_, h1, O.take k ++ [i] ++ O.drop k, ?_, hok.1, hok.2⟩
      unfold natI
      rw [Ym, Ym, Ym, Ym]; rfl
     have e0 : subA out.a (Int.toNat 0) out.c 1 = out.a := subA_zero _ _ _
     have hpre : ∀ {h' : Heap}, Rw h' 1 out ((natI O).map inC) -> Rw h' 1 (⟨subA out.a (Int.toNat 0) out.c 1, Int.toNat (k : Int) - Int.toNat 0, out.c - Int.toNat 0⟩ : Sl) ((natI (O.take k)).map inC) := fun {h'} hr => by
      have h1 := hr.prefix (i := k) (c := out.c - Int.toNat 0) hko
      rw [e0]
      unfold natI at h1 ⊢
      rw [List.map_take, List.map_take]
      exact h1
     have hsuf : ∀ {h' : Heap}, Rw h' 1 out ((natI O).map inC) -> Rw h' 1 (⟨subA out.a (Int.toNat (k : Int)) out.c 1, Int.toNat (out.n : Nat) - Int.toNat (k : Int), out.c - Int.toNat (k : Int)⟩ : Sl) ((natI (O.drop k)).map inC) := fun {h'} hr => by
      have h1 := M.intrw hr hocap.2.1 (i := k) hko
      unfold natI at h1 ⊢
      rw [List.map_drop]
      exact h1
     have hnilp : (⟨subA out.a (Int.toNat 0) out.c 1, Int.toNat (k : Int) - Int.toNat 0, out.c - Int.toNat 0⟩ : Sl).a = none -> (⟨subA out.a (Int.toNat 0) out.c 1, Int.toNat (k : Int) - Int.toNat 0, out.c - Int.toNat 0⟩ : Sl).n = 0 /\ (⟨subA out.a (Int.toNat 0) out.c 1, Int.toNat (k : Int) - Int.toNat 0, out.c - Int.toNat 0⟩ : Sl).c = 0 := by
      intro hn
      have hn : subA out.a (Int.toNat 0) out.c 1 = none := hn
      rw [e0] at hn
      have := hocap.2.2 hn
      exact ⟨by show Int.toNat (k : Int) - Int.toNat 0 = 0; omega, by show out.c - Int.toNat 0 = 0; omega⟩
     have hnils : (⟨subA out.a (Int.toNat (k : Int)) out.c 1, Int.toNat (out.n : Nat) - Int.toNat (k : Int), out.c - Int.toNat (k : Int)⟩ : Sl).a = none -> (⟨subA out.a (Int.toNat (k : Int)) out.c 1, Int.toNat (out.n : Nat) - Int.toNat (k : Int), out.c - Int.toNat (k : Int)⟩ : Sl).n = 0 /\ (⟨subA out.a (Int.toNat (k : Int)) out.c 1, Int.toNat (out.n : Nat) - Int.toNat (k : Int), out.c - Int.toNat (k : Int)⟩ : Sl).c = 0 := fun hn => M.subA_nil hocap.2.2 hn
     refine ⟨⟨by omega, by omega, by omega⟩, ⟨by omega, by omega, by omega⟩, ?_, ?_⟩
     ·
      refine hs.newb fun h76 hs => ?_
      have hs := hs.blkS 0 1 [] rfl (by simp) rfl (by decide)
      refine ⟨?_, ?_⟩
      ·
       refine hs.appRw 0 (rows := []) (news := (natI (O.take k)).map inC) rfl app42 (y := ⟨subA out.a (Int.toNat 0) out.c 1, Int.toNat (k : Int) - Int.toNat 0, out.c - Int.toNat 0⟩) (hpre (hs.rows 1 (s := out) (cs := inC) (l := natI O) rfl (by omega))) (inrows _) hnilp (flat_oneB (fun _ => rfl) _) (by show (0 + (Int.toNat (k : Int) - Int.toNat 0)) * 8 <= _; omega) (by show 0 + (Int.toNat (k : Int) - Int.toNat 0) <= _; simp only [maxLen]; omega) fun s77 h78 n77 hs => ?_
       replace n77 : s77.n = k := by rw [n77]; show 0 + (Int.toNat (k : Int) - Int.toNat 0) = k; omega
       refine hs.app 0 rfl app42 (m := 1) [[.int .i64 (i : Nat)]] rfl rfl (by simp) rfl (by omega) (by simp only [maxLen]; omega) fun s80 h81 n80 hs => ?_
       refine hs.appRw 0 (rows := (natI (O.take k)).map inC ++ [[.int .i64 (i : Nat)]]) (news := (natI (O.drop k)).map inC) rfl app42 (y := ⟨subA out.a (Int.toNat (k : Int)) out.c 1, Int.toNat (out.n : Nat) - Int.toNat (k : Int), out.c - Int.toNat (k : Int)⟩) (hsuf (hs.rows 1 (s := out) (cs := inC) (l := natI O) rfl (by omega))) (inrows _) hnils (flat_oneB (fun _ => rfl) _) (by show (_ + (Int.toNat (out.n : Nat) - Int.toNat (k : Int))) * 8 <= _; omega) (by show _ + (Int.toNat (out.n : Nat) - Int.toNat (k : Int)) <= _; simp only [maxLen]; omega) fun s82 h83 n82 hs => ?_
       refine fin (hs.sub ?_)
       exact .cons_cons _ (.cons _ (.cons_cons _ .slnil))
      ·
       refine hs.newb fun h85 hs => ?_
       refine hs.appRw 1 (rows := []) (news := (natI (O.take k)).map inC) rfl app42 (y := ⟨subA out.a (Int.toNat 0) out.c 1, Int.toNat (k : Int) - Int.toNat 0, out.c - Int.toNat 0⟩) (hpre (hs.rows 2 (s := out) (cs := inC) (l := natI O) rfl (by omega))) (inrows _) hnilp (flat_oneB (fun _ => rfl) _) (by show (0 + (Int.toNat (k : Int) - Int.toNat 0)) * 8 <= _; omega) (by show 0 + (Int.toNat (k : Int) - Int.toNat 0) <= _; simp only [maxLen]; omega) fun s77 h78 n77 hs => ?_
       replace n77 : s77.n = k := by rw [n77]; show 0 + (Int.toNat (k : Int) - Int.toNat 0) = k; omega
       refine hs.appended 1 (rows := (natI (O.take k)).map inC) rfl app42 (m := 1) (news := [[.int .i64 (i : Nat)]]) (hs.at 0 rfl (n := 1) rfl) rfl (by simp) rfl (by omega) (by simp only [maxLen]; omega) fun s80 h81 n80 hs => ?_
       refine hs.appRw 1 (rows := (natI (O.take k)).map inC ++ [[.int .i64 (i : Nat)]]) (news := (natI (O.drop k)).map inC) rfl app42 (y := ⟨subA out.a (Int.toNat (k : Int)) out.c 1, Int.toNat (out.n : Nat) - Int.toNat (k : Int), out.c - Int.toNat (k : Int)⟩) (hsuf (hs.rows 2 (s := out) (cs := inC) (l := natI O) rfl (by omega))) (inrows _) hnils (flat_oneB (fun _ => rfl) _) (by show (_ + (Int.toNat (out.n : Nat) - Int.toNat (k : Int))) * 8 <= _; omega) (by show _ + (Int.toNat (out.n : Nat) - Int.toNat (k : Int)) <= _; simp only [maxLen]; omega) fun s82 h83 n82 hs => ?_
       refine fin (hs.sub ?_)
       exact .cons _ (.cons_cons _ (.cons _ (.cons_cons _ .slnil)))
     ·
      refine hs.newb fun h93 hs => ?_
      refine hs.newb fun h94 hs => ?_
      have hs := hs.blkS 0 1 [] rfl (by simp) rfl (by decide)
      refine hs.appRw 0 (rows := []) (news := (natI (O.take k)).map inC) rfl app42 (y := ⟨subA out.a (Int.toNat 0) out.c 1, Int.toNat (k : Int) - Int.toNat 0, out.c - Int.toNat 0⟩) (hpre (hs.rows 2 (s := out) (cs := inC) (l := natI O) rfl (by omega))) (inrows _) hnilp (flat_oneB (fun _ => rfl) _) (by show (0 + (Int.toNat (k : Int) - Int.toNat 0)) * 8 <= _; omega) (by show 0 + (Int.toNat (k : Int) - Int.toNat 0) <= _; simp only [maxLen]; omega) fun s77 h78 n77 hs => ?_
      replace n77 : s77.n = k := by rw [n77]; show 0 + (Int.toNat (k : Int) - Int.toNat 0) = k; omega
      refine hs.appended 0 (rows := (natI (O.take k)).map inC) rfl app42 (m := 1) (news := [[.int .i64 (i : Nat)]]) (hs.at 1 rfl (n := 1) rfl) rfl (by simp) rfl (by omega) (by simp only [maxLen]; omega) fun s80 h81 n80 hs => ?_
      refine hs.appRw 0 (rows := (natI (O.take k)).map inC ++ [[.int .i64 (i : Nat)]]) (news := (natI (O.drop k)).map inC) rfl app42 (y := ⟨subA out.a (Int.toNat (k : Int)) out.c 1, Int.toNat (out.n : Nat) - Int.toNat (k : Int), out.c - Int.toNat (k : Int)⟩) (hsuf (hs.rows 2 (s := out) (cs := inC) (l := natI O) rfl (by omega))) (inrows _) hnils (flat_oneB (fun _ => rfl) _) (by show (_ + (Int.toNat (out.n : Nat) - Int.toNat (k : Int))) * 8 <= _; omega) (by show _ + (Int.toNat (out.n : Nat) - Int.toNat (k : Int)) <= _; simp only [maxLen]; omega) fun s82 h83 n82 hs => ?_
      refine fin (hs.sub ?_)
      exact .cons_cons _ (.cons _ (.cons _ (.cons_cons _ .slnil)))
   ·
    have hat : ∀ c, O[k]? = some c -> evLt (evI m i) (evI m c) := fun c hc => by have := (Ya.1 hc).1; omega
    have fin : ∀ {h' : Heap} {r : Sl}, St h h' [.sl r 3 1 ((natI (O.take k)).map inC ++ [[.int .i64 (i : Nat)]] ++ (natI (O.drop k)).map inC), .blk h.size (mC m sf sm sl) 26] -> ∃ m', m' < m.mv.length - i /\ UpA m.mv.length (fun i s_1 h' => ∃ rows, St h h' (.sl s_1 3 1 rows :: [.blk h.size (mC m sf sm sl) 26]) /\ ∃ O : List Nat, rows = (natI O).map inC /\ O.Perm ((List.range i).filter (outP m s)) /\ O.Pairwise fun a b => ¬ evLt (evI m b) (evI m a)) r (IntKind.wrap .i64 ((i : Int) + 1)) h' m' := by
     intro h' r h1
     have hok := ins_ok hP hSo hxi hq hat
     refine UpA.next him (by omega) ⟨_, h1, O.take k ++ [i] ++ O.drop k, ?_, hok.1, hok.2⟩
     unfold natI
     rw [Ym, Ym, Ym, Ym]; rfl
    have e0 : subA out.a (Int.toNat 0) out.c 1 = out.a := subA_zero _ _ _
    have hpre : ∀ {h' : Heap}, Rw h' 1 out ((natI O).map inC) -> Rw h' 1 (⟨subA out.a (Int.toNat 0) out.c 1, Int.toNat (k : Int) - Int.toNat 0, out.c - Int.toNat 0⟩ : Sl) ((natI (O.take k)).map inC) := fun {h'} hr => by
     have h1 := hr.prefix (i := k) (c := out.c - Int.toNat 0) hko
     rw [e0]
     unfold natI at h1 ⊢
     rw [List.map_take, List.map_take]
     exact h1
    have hsuf : ∀ {h' : Heap}, Rw h' 1 out ((natI O).map inC) -> Rw h' 1 (⟨subA out.a (Int.toNat (k : Int)) out.c 1, Int.toNat (out.n : Nat) - Int.toNat (k : Int), out.c - Int.toNat (k : Int)⟩ : Sl) ((natI (O.drop k)).map inC) := fun {h'} hr => by
     have h1 := M.intrw hr hocap.2.1 (i := k) hko
     unfold natI at h1 ⊢
     rw [List.map_drop]
     exact h1
    have hnilp : (⟨subA out.a (Int.toNat 0) out.c 1, Int.toNat (k : Int) - Int.toNat 0, out.c - Int.toNat 0⟩ : Sl).a = none -> (⟨subA out.a (Int.toNat 0) out.c 1, Int.toNat (k : Int) - Int.toNat 0, out.c - Int.toNat 0⟩ : Sl).n = 0 /\ (⟨subA out.a (Int.toNat 0) out.c 1, Int.toNat (k : Int) - Int.toNat 0, out.c - Int.toNat 0⟩ : Sl).c = 0 := by
     intro hn
     have hn : subA out.a (Int.toNat 0) out.c 1 = none := hn
     rw [e0] at hn
     have := hocap.2.2 hn
     exact ⟨by show Int.toNat (k : Int) - Int.toNat 0 = 0; omega, by show out.c - Int.toNat 0 = 0; omega⟩
    have hnils : (⟨subA out.a (Int.toNat (k : Int)) out.c 1, Int.toNat (out.n : Nat) - Int.toNat (k : Int), out.c - Int.toNat (k : Int)⟩ : Sl).a = none -> (⟨subA out.a (Int.toNat (k : Int)) out.c 1, Int.toNat (out.n : Nat) - Int.toNat (k : Int), out.c - Int.toNat (k : Int)⟩ : Sl).n = 0 /\ (⟨subA out.a (Int.toNat (k : Int)) out.c 1, Int.toNat (out.n : Nat) - Int.toNat (k : Int), out.c - Int.toNat (k : Int)⟩ : Sl).c = 0 := fun hn => M.subA_nil hocap.2.2 hn
    refine ⟨⟨by omega, by omega, by omega⟩, ⟨by omega, by omega, by omega⟩, ?_, ?_⟩
    ·
     refine hs.newb fun h76 hs => ?_
     have hs := hs.blkS 0 1 [] rfl (by simp) rfl (by decide)
     refine ⟨?_, ?_⟩
     ·
      refine hs.appRw 0 (rows := []) (news := (natI (O.take k)).map inC) rfl app42 (y := ⟨subA out.a (Int.toNat 0) out.c 1, Int.toNat (k : Int) - Int.toNat 0, out.c - Int.toNat 0⟩) (hpre (hs.rows 1 (s := out) (cs := inC) (l := natI O) rfl (by omega))) (inrows _) hnilp (flat_oneB (fun _ => rfl) _) (by show (0 + (Int.toNat (k : Int) - Int.toNat 0)) * 8 <= _; omega) (by show 0 + (Int.toNat (k : Int) - Int.toNat 0) <= _; simp only [maxLen]; omega) fun s77 h78 n77 hs => ?_
      replace n77 : s77.n = k := by rw [n77]; show 0 + (Int.toNat (k : Int) - Int.toNat 0) = k; omega
      refine hs.app 0 rfl app42 (m := 1) [[.int .i64 (i : Nat)]] rfl rfl (by simp) rfl (by omega) (by simp only [maxLen]; omega) fun s80 h81 n80 hs => ?_
      refine hs.appRw 0 (rows := (natI (O.take k)).map inC ++ [[.int .i64 (i : Nat)]]) (news := (natI (O.drop k)).map inC) rfl app42 (y := ⟨subA out.a (Int.toNat (k : Int)) out.c 1, Int.toNat (out.n : Nat) - Int.toNat (k : Int), out.c - Int.toNat (k : Int)⟩) (hsuf (hs.rows 1 (s := out) (cs := inC) (l := natI O) rfl (by omega))) (inrows _) hnils (flat_oneB (fun _ => rfl) _) (by show (_ + (Int.toNat (out.n : Nat) - Int.toNat (k : Int))) * 8 <= _; omega) (by show _ + (Int.toNat (out.n : Nat) - Int.toNat (k : Int)) <= _; simp only [maxLen]; omega) fun s82 h83 n82 hs => ?_
      refine fin (hs.sub ?_)
      exact .cons_cons _ (.cons _ (.cons_cons _ .slnil))
     ·
      refine hs.newb fun h85 hs => ?_
      refine hs.appRw 1 (rows := []) (news := (natI (O.take k)).map inC) rfl app42 (y := ⟨subA out.a (Int.toNat 0) out.c 1, Int.toNat (k : Int) - Int.toNat 0, out.c - Int.toNat 0⟩) (hpre (hs.rows 2 (s := out) (cs := inC) (l := natI O) rfl (by omega))) (inrows _) hnilp (flat_oneB (fun _ => rfl) _) (by show (0 + (Int.toNat (k : Int) - Int.toNat 0)) * 8 <= _; omega) (by show 0 + (Int.toNat (k : Int) - Int.toNat 0) <= _; simp only [maxLen]; omega) fun s77 h78 n77 hs => ?_
      replace n77 : s77.n = k := by rw [n77]; show 0 + (Int.toNat (k : Int) - Int.toNat 0) = k; omega
      refine hs.appended 1 (rows := (natI (O.take k)).map inC) rfl app42 (m := 1) (news := [[.int .i64 (i : Nat)]]) (hs.at 0 rfl (n := 1) rfl) rfl (by simp) rfl (by omega) (by simp only [maxLen]; omega) fun s80 h81 n80 hs => ?_
      refine hs.appRw 1 (rows := (natI (O.take k)).map inC ++ [[.int .i64 (i : Nat)]]) (news := (natI (O.drop k)).map inC) rfl app42 (y := ⟨subA out.a (Int.toNat (k : Int)) out.c 1, Int.toNat (out.n : Nat) - Int.toNat (k : Int), out.c - Int.toNat (k : Int)⟩) (hsuf (hs.rows 2 (s := out) (cs := inC) (l := natI O) rfl (by omega))) (inrows _) hnils (flat_oneB (fun _ => rfl) _) (by show (_ + (Int.toNat (out.n : Nat) - Int.toNat (k : Int))) * 8 <= _; omega) (by show _ + (Int.toNat (out.n : Nat) - Int.toNat (k : Int)) <= _; simp only [maxLen]; omega) fun s82 h83 n82 hs => ?_
      refine fin (hs.sub ?_)
      exact .cons _ (.cons_cons _ (.cons _ (.cons_cons _ .slnil)))
    ·
     refine hs.newb fun h93 hs => ?_
     refine hs.newb fun h94 hs => ?_
     have hs := hs.blkS 0 1 [] rfl (by simp) rfl (by decide)
     refine hs.appRw 0 (rows := []) (news := (natI (O.take k)).map inC) rfl app42 (y := ⟨subA out.a (Int.toNat 0) out.c 1, Int.toNat (k : Int) - Int.toNat 0, out.c - Int.toNat 0⟩) (hpre (hs.rows 2 (s := out) (cs := inC) (l := natI O) rfl (by omega))) (inrows _) hnilp (flat_oneB (fun _ => rfl) _) (by show (0 + (Int.toNat (k : Int) - Int.toNat 0)) * 8 <= _; omega) (by show 0 + (Int.toNat (k : Int) - Int.toNat 0) <= _; simp only [maxLen]; omega) fun s77 h78 n77 hs => ?_
     replace n77 : s77.n = k := by rw [n77]; show 0 + (Int.toNat (k : Int) - Int.toNat 0) = k; omega
     refine hs.appended 0 (rows := (natI (O.take k)).map inC) rfl app42 (m := 1) (news := [[.int .i64 (i : Nat)]]) (hs.at 1 rfl (n := 1) rfl) rfl (by simp) rfl (by omega) (by simp only [maxLen]; omega) fun s80 h81 n80 hs => ?_
     refine hs.appRw 0 (rows := (natI (O.take k)).map inC ++ [[.int .i64 (i : Nat)]]) (news := (natI (O.drop k)).map inC) rfl app42 (y := ⟨subA out.a (Int.toNat (k : Int)) out.c 1, Int.toNat (out.n : Nat) - Int.toNat (k : Int), out.c - Int.toNat (k : Int)⟩) (hsuf (hs.rows 2 (s := out) (cs := inC) (l := natI O) rfl (by omega))) (inrows _) hnils (flat_oneB (fun _ => rfl) _) (by show (_ + (Int.toNat (out.n : Nat) - Int.toNat (k : Int))) * 8 <= _; omega) (by show _ + (Int.toNat (out.n : Nat) - Int.toNat (k : Int)) <= _; simp only [maxLen]; omega) fun s82 h83 n82 hs => ?_
     refine fin (hs.sub ?_)
     exact .cons_cons _ (.cons _ (.cons _ (.cons_cons _ .slnil)))
 ·
  refine ⟨out, O, rfl, hs.sub (.cons_cons _ (.cons _ .slnil)), ?_, hSo⟩
  rw [show i = m.mv.length by omega] at hP
  exact hP
end Go.VC
end

section
/- Contracts: Moves, Sends and Timeout on both sides; the walk of the law of moves. (Numbers of layer 26's seat.) -/
namespace Go.VC
open Go.Proofs Go.LexS
def t0 : To := ⟨0, 0, 0⟩
end Go.VC
end

section
/- Plain: the search for a history that one machine makes and another one cannot; it is a shortest one. -/
namespace Go.VC
open Go.Proofs Go.LexS
structure Vs where
 a : Int
 b : Int
 h : List Ev
def Vs.p (v : Vs) : Int × Int := (v.a, v.b)
def hvE (role : Int) (e : Ev) : Hv := ⟨role, e.send, e.peer, e.label, ⟨none, 0, 0⟩⟩
def incS (k : Mch) (v : Vs) (Q : List Vs) (x : Mv) : List Ev ⊕ List Vs :=
 if nxE k v.b x.ev < 0 then .inl (v.h ++ [x.ev]) else if (x.t, nxE k v.b x.ev) ∈ Q.map Vs.p then .inr Q else .inr (Q ++ [⟨x.t, nxE k v.b x.ev, v.h ++ [x.ev]⟩])
def incL (m k : Mch) (v : Vs) : List Vs -> List Nat -> List Ev ⊕ List Vs
 | Q, [] => .inr Q
 | Q, i :: o => match m.mv[i]? with
  | none => incL m k v Q o
  | some x => match incS k v Q x with
   | .inl h => .inl h
   | .inr Q' => incL m k v Q' o
inductive Inc (m k : Mch) (S : Int -> List Nat) : List Vs -> Nat -> List Ev × Bool -> Prop
 | done {Q : List Vs} {i : Nat} : Q.length <= i -> Inc m k S Q i ([], true)
 | stop {Q : List Vs} {i : Nat} {v : Vs} {h : List Ev} : Q[i]? = some v -> incL m k v Q (S v.a) = .inl h -> Inc m k S Q i (h, false)
 | next {Q Q' : List Vs} {i : Nat} {v : Vs} {r : List Ev × Bool} : Q[i]? = some v -> incL m k v Q (S v.a) = .inr Q' -> Inc m k S Q' (i + 1) r -> Inc m k S Q i r
theorem Inc.det {m k : Mch} {S : Int -> List Nat} {Q : List Vs} {i : Nat} {r r' : List Ev × Bool} (h1 : Inc m k S Q i r) (h2 : Inc m k S Q i r') : r = r' := by
 induction h1 with
 | done hl =>
  cases h2 with
  | done _ => rfl
  | stop hv _ => have := (Ya.1 hv).1; omega
  | next hv _ _ => have := (Ya.1 hv).1; omega
 | stop hv hi =>
  cases h2 with
  | done hl => have := (Ya.1 hv).1; omega
  | stop hv' hi' => rw [hv] at hv'; cases hv'; rw [hi] at hi'; cases hi'; rfl
  | next hv' hi' _ => rw [hv] at hv'; cases hv'; rw [hi] at hi'; cases hi'
 | next hv hi _ ih =>
  cases h2 with
  | done hl => have := (Ya.1 hv).1; omega
  | stop hv' hi' => rw [hv] at hv'; cases hv'; rw [hi] at hi'; cases hi'
  | next hv' hi' h' => rw [hv] at hv'; cases hv'; rw [hi] at hi'; cases hi'; exact ih h'
theorem nodup_le : ∀ (n : Nat) (l : List Nat), l.Nodup -> (∀ x ∈ l, x < n) -> l.length <= n
 | 0, l, _, h => by
  cases l with
  | nil => exact Nat.le_refl _
  | cons a l => have := h a Yx; omega
 | n + 1, l, hn, h => by
  by_cases hm : n ∈ l
  ·
   have h1 := nodup_le n (l.erase n) (hn.erase n) fun x hx => by
    have := (hn.mem_erase_iff).1 hx
    have h2 := h x this.2
    have h3 : x ≠ n := this.1
    omega
   rw [List.length_erase_of_mem hm] at h1; omega
  ·
   have h1 := nodup_le n l hn fun x hx => by
    have h2 := h x hx
    have h3 : x ≠ n := fun e => hm (e ▸ hx)
    omega
   omega
structure QPr (m k : Mch) (Q : List Vs) : Prop where
 r : ∀ v ∈ Q, (0 <= v.a /\ v.a < m.n) /\ 0 <= v.b /\ v.b < k.n
 d : (Q.map Vs.p).Nodup
theorem QPr.len {m k : Mch} {Q : List Vs} (h : QPr m k Q) (hm : m.n <= 200) (hk : k.n <= 200) : Q.length <= 40000 := by
 have h1 := nodup_le 40000 ((Q.map Vs.p).map fun p => p.1.toNat * 200 + p.2.toNat) ?_ ?_
 ·
  rwa [Yc, Yc] at h1
 ·
  rw [List.map_map]
  have hd := h.d
  rw [List.nodup_iff_pairwise_ne, List.pairwise_map] at hd ⊢
  refine List.Pairwise.imp_of_mem ?_ hd
  intro v w hv hw hne he
  apply hne
  have r1 := h.r v hv
  have r2 := h.r w hw
  have he : v.a.toNat * 200 + v.b.toNat = w.a.toNat * 200 + w.b.toNat := he
  have e1 : v.a = w.a := by omega
  have e2 : v.b = w.b := by omega
  unfold Vs.p
  rw [e1, e2]
 ·
  intro x hx
  rw [List.map_map] at hx
  obtain ⟨v, hv, rfl⟩ := Yp.1 hx
  have := h.r v hv
  show v.a.toNat * 200 + v.b.toNat < 40000
  omega
theorem QPr.push {m k : Mch} {Q : List Vs} (h : QPr m k Q) {w : Vs} (hr : (0 <= w.a /\ w.a < m.n) /\ 0 <= w.b /\ w.b < k.n) (hn : w.p ∉ Q.map Vs.p) : QPr m k (Q ++ [w]) := by
 refine ⟨fun v hv => ?_, ?_⟩
 ·
  rcases Yk.1 hv with hv | hv
  ·
   exact h.r v hv
  ·
   rw [Ye.1 hv]; exact hr
 ·
  rw [Ym, List.nodup_append]
  refine ⟨h.d, by simp, fun a ha b hb e => ?_⟩
  rw [List.map_singleton, Ye] at hb
  subst hb; subst e
  exact hn ha
theorem QPr.start {m k : Mch} (hm : VM m) (hk : VM k) : QPr m k [⟨m.s, k.s, []⟩] :=
 ⟨fun v hv => by rw [Ye.1 hv]; exact ⟨hm.n.s, hk.n.s⟩, by simp⟩
end Go.VC
end

section
/- Contract: the search of inclusion. (Numbers of layer 26's seat.) -/
namespace Go.VC
open Go.Proofs Go.LexS Go.Maps
theorem app100 : appB Pz 100 79 3 24 = true := by kernel_rfl
theorem app98 : appB Pz 98 97 6 48 = true := by kernel_rfl
theorem app27 : appB Pz 27 37 5 56 = true := by kernel_rfl
def pk (p : Int × Int) : Value := .agg ⟨[.int .i64 p.1, .int .i64 p.2]⟩
def bv (b : Bool) : Value := .bool b
def kokP (p : Int × Int) : Prop := inR p.1 /\ inR p.2
theorem u94 : Pz.underlying 94 = some (.array 2 3) := by kernel_rfl
theorem c94 : Pz.cellsOf 94 = 2 := by kernel_rfl
theorem kl_array {P : Program} {d t n : Nat} {e : TypeId} {cs : List Value} (hu : P.underlying t = some (.array n e)) (hl : cs.length = P.cellsOf t) {r : List (List Lit)}
  (hr : (List.range n).mapM (fun i => P.keyLits d e ((cs.drop (i * P.cellsOf e)).take (P.cellsOf e))) = some r) : P.keyLits (d + 1) t cs = some r.flatten := by
 unfold Program.keyLits
 simp only [hu]
 rw [if_pos hl, hr]; rfl
theorem key_pk (p : Int × Int) (h : kokP p) : ∃ l, keyOf Pz 94 (pk p) = some l := by
 obtain ⟨h1, h2⟩ := h
 have hsz : ∃ n, Pz.types.size + 1 = n + 2 := ⟨Pz.types.size - 1, by
  have : 1 <= Pz.types.size := of_decide_eq_true (by kernel_rfl)
  omega⟩
 obtain ⟨n, hsz⟩ := hsz
 have hl : Pz.keyLits (n + 2) 94 [.int .i64 p.1, .int .i64 p.2] = some [.int .i64 p.1, .int .i64 p.2] := by
  refine kl_array u94 (by rw [c94]; rfl) (r := [[.int .i64 p.1], [.int .i64 p.2]]) ?_
  simp only [List.range_succ, List.range_zero, List.nil_append, List.cons_append, List.mapM_cons, List.mapM_nil, c3, Nat.zero_mul, Nat.one_mul, Nat.mul_one, List.drop_zero, List.take_succ_cons, Yyk, List.drop_succ_cons, kl_int u3 h1.wf, kl_int u3 h2.wf]
  rfl
 have hkt : Pz.keyType 94 = true := by kernel_rfl
 have hfo : (pk p).formed Pz 94 = true := by
  unfold pk Value.formed
  simp only [u94, c94]; rfl
 have e : keyOf Pz 94 (pk p) = (Pz.keyLits (n + 2) 94 [.int .i64 p.1, .int .i64 p.2]).map fun ls => .string (keyBytes ls) := by
  unfold keyOf
  simp only [u94, hkt, hfo, Bool.and_self, if_true, hsz]
  rfl
 rw [e, hl]
 exact ⟨_, rfl⟩
theorem pk_inj (a b : Int × Int) (h : pk a = pk b) : a = b := by
 unfold pk at h
 have h2 : a.1 = b.1 /\ a.2 = b.2 := by simpa using h
 exact Prod.ext h2.1 h2.2
theorem M95 : MT Pz 95 94 4 pk kokP (.bool false) where
 K := Keyed.of_law (deep_law_laid laid25 (m := 2) (by omega) (of_decide_eq_true (by kernel_rfl)) (by kernel_rfl) (by kernel_rfl))
 ht := by kernel_rfl
 key := key_pk
 inj := pk_inj
 z := fun w => by kernel_rfl
/-! ### slices.Reverse -/
theorem reverse64 {h0 h : Heap} {L : List It} {s : Sl} {l : List Ev} (hs : St h0 h (.sl s 79 3 (l.map Ev.cs) :: L)) (hm : l.length <= 1048576) :
  Fn Pz 64 #[.slice s.a s.n s.c] h fun v h' => v = .tuple ⟨[]⟩ /\ St h0 h' (.sl s 79 3 (l.reverse.map Ev.cs) :: L) := by
 apply vc64 s; unfold W64
 have hn := (hs.rows 0 (cs := Ev.cs) rfl (by omega)).ln
 rw [w64 (by omega) (by omega)]
 refine ⟨fun x y h' μ => ∃ (i : Nat) (T : List Ev), x = i /\ y = (s.n : Int) - 1 - i /\ i <= s.n /\ μ = s.n - i /\ St h0 h' (.sl s 79 3 (T.map Ev.cs) :: L) /\ T.length = s.n /\ ∀ t, t < s.n -> T[t]? = if t < i \/ s.n <= t + i then l[s.n - 1 - t]? else l[t]?, ⟨_, 0, l, rfl, by omega, by omega, rfl, hs, hn.symm, fun t ht => by rw [if_neg (by omega)]⟩, ?_⟩
 clear hs
 rintro - _ _ h6 μ ⟨i, T, rfl, rfl, hi, rfl, hs, hT, hq⟩
 refine sBi (fun c => ?_) (fun c => ⟨rfl, ?_⟩)
 ·
  have hsn : (s.n : Int) - 1 - i = ((s.n - 1 - i : Nat) : Int) := by omega
  rw [hsn]
  obtain ⟨y, hy⟩ := get_some (l := T) (i := s.n - 1 - i) (by omega)
  obtain ⟨x, hx⟩ := get_some (l := T) (i := i) (by omega)
  refine (hs.rows 0 (cs := Ev.cs) rfl (by omega)).nbI (by omega) (by omega) fun b7 o8 y' gy t => ?_
  replace gy : T[s.n - 1 - i]? = some y' := gy
  rw [hy] at gy; cases gy
  refine ⟨_, _, _, t, ?_⟩
  refine (hs.rows 0 (cs := Ev.cs) rfl (by omega)).nbI (by omega) (by omega) fun b12 o13 x' gx t2 => ?_
  replace gx : T[i]? = some x' := gx
  rw [hx] at gx; cases gx
  refine ⟨_, _, _, t2, ?_⟩
  refine hs.set 0 (cs := Ev.cs) (l := T) rfl (by omega) (by omega) (by omega) y rfl rfl (fun b o h19 hs => ?_) rfl
  replace hs : St h0 h19 (.sl s 79 3 ((T.set i y).map Ev.cs) :: L) := hs
  refine hs.set 0 (cs := Ev.cs) (l := T.set i y) rfl (by omega) (by omega) (by omega) x rfl rfl (fun b o h22 hs => ?_) rfl
  replace hs : St h0 h22 (.sl s 79 3 (((T.set i y).set (s.n - 1 - i) x).map Ev.cs) :: L) := hs
  refine ⟨s.n - (i + 1), by omega, i + 1, (T.set i y).set (s.n - 1 - i) x, by rw [w64 (by omega) (by omega)]; omega, by rw [w64 (by omega) (by omega)]; omega, by omega, rfl, hs, by rw [Yyh, Yyh]; exact hT, fun t ht => ?_⟩
  have q1 := hq i (by omega)
  rw [if_neg (by omega), hx] at q1
  have q2 := hq (s.n - 1 - i) (by omega)
  rw [if_neg (by omega), hy] at q2
  by_cases e1 : t = s.n - 1 - i
  ·
   subst e1
   rw [Yq (by rw [Yyh]; omega), if_pos (by omega), show s.n - 1 - (s.n - 1 - i) = i by omega]
   exact q1
  ·
   rw [Yy (fun e => e1 e.symm)]
   by_cases e2 : t = i
   ·
    subst e2
    rw [Yq (by omega), if_pos (by omega)]
    exact q2
   ·
    rw [Yy (fun e => e2 e.symm), hq t ht]
    by_cases c3 : t < i \/ s.n <= t + i
    ·
     rw [if_pos c3, if_pos (by omega)]
    ·
     rw [if_neg c3, if_neg (by omega)]
 ·
  have : T = l.reverse := by
   refine List.ext_getElem? fun t => ?_
   by_cases ht : t < s.n
   ·
    rw [hq t ht, List.getElem?_reverse (by omega), <- hn]
    by_cases c3 : t < i \/ s.n <= t + i
    ·
     rw [if_pos c3]
    ·
     rw [if_neg c3, show s.n - 1 - t = t by omega]
   ·
    rw [Yl (by omega), Yl (by rw [List.length_reverse]; omega)]
  rw [<- this]; exact hs
/-! ### the moves of a state, in the one order -/
theorem srt_uniq {m : Mch} (hD : DetM m) {s : Int} {O Q : List Nat} (p1 : O.Perm (outIx m s)) (s1 : O.Pairwise fun a b => ¬ evLt (evI m b) (evI m a)) (p2 : Q.Perm (outIx m s)) (s2 : Q.Pairwise fun a b => ¬ evLt (evI m b) (evI m a)) : O = Q := by
 refine List.Perm.eq_of_pairwise (le := fun a b => ¬ evLt (evI m b) (evI m a)) (fun a b ha hb h3 h4 => ?_) s1 s2 (p1.trans p2.symm)
 obtain ⟨x, hx, hxf⟩ := outIx_mem.1 (p1.mem_iff.1 ha)
 obtain ⟨y, hy, hyf⟩ := outIx_mem.1 (p2.mem_iff.1 hb)
 by_cases e : a = b
 ·
  exact e
 ·
  have := (hD a b x y hx hy e (by rw [hxf, hyf])).1
  rw [evI_of hx, evI_of hy] at h3 h4
  exact absurd (evLt_of h3 this) h4
open Classical in
noncomputable def mvS (m : Mch) (s : Int) : List Nat := if h : ∃ O : List Nat, O.Perm (outIx m s) /\ O.Pairwise fun a b => ¬ evLt (evI m b) (evI m a) then Classical.choose h else outIx m s
theorem mvS_eq {m : Mch} (hD : DetM m) {s : Int} {O : List Nat} (p1 : O.Perm (outIx m s)) (s1 : O.Pairwise fun a b => ¬ evLt (evI m b) (evI m a)) : mvS m s = O := by
 unfold mvS
 have h : ∃ O : List Nat, O.Perm (outIx m s) /\ O.Pairwise fun a b => ¬ evLt (evI m b) (evI m a) := ⟨O, p1, s1⟩
 rw [dif_pos h]
 have := Classical.choose_spec h
 exact srt_uniq hD this.1 this.2 p1 s1
/-! ### the queue -/
structure Vt where
 a : Int
 b : Int
 ahead : Int
 x : Ev
def Vt.cs (v : Vt) : List Value := [.int .i64 v.a, .int .i64 v.b, .int .i64 v.ahead, .bool v.x.send, .int .i64 v.x.peer, .int .i64 v.x.label]
theorem vtrows (L : List Vt) : ∀ r ∈ L.map Vt.cs, r.length = 6 := fun r hr => by obtain ⟨x, _, rfl⟩ := Yp.1 hr; rfl
structure HV (V : List Vt) (Q : List Vs) : Prop where
 l : V.length = Q.length
 e : ∀ (j : Nat) v w, V[j]? = some v -> Q[j]? = some w -> v.a = w.a /\ v.b = w.b /\ w.h.length <= j /\ ((v.ahead = -1 /\ w.h = []) \/ ∃ p : Nat, p < j /\ v.ahead = (p : Int) /\ ∃ u, Q[p]? = some u /\ w.h = u.h ++ [v.x])
theorem HV.push {V : List Vt} {Q : List Vs} (h : HV V Q) {i : Nat} {v : Vs} (hv : Q[i]? = some v) (a b : Int) (x : Ev) : HV (V ++ [⟨a, b, i, x⟩]) (Q ++ [⟨a, b, v.h ++ [x]⟩]) := by
 have hil := (Ya.1 hv).1
 obtain ⟨v0, hv0⟩ := get_some (l := V) (i := i) (by rw [h.l]; exact hil)
 have hvl := (h.e i v0 v hv0 hv).2.2.1
 refine ⟨by rw [Yh, Yh, h.l]; rfl, fun j u w hu hw => ?_⟩
 by_cases hj : j < Q.length
 ·
  rw [Yyi (by rw [h.l]; exact hj)] at hu
  rw [Yyi hj] at hw
  obtain ⟨e1, e2, e3, e4⟩ := h.e j u w hu hw
  refine ⟨e1, e2, e3, ?_⟩
  rcases e4 with e4 | ⟨p, hp, e5, t, ht, e6⟩
  ·
   exact .inl e4
  ·
   exact .inr ⟨p, hp, e5, t, by rw [Yyi (by omega)]; exact ht, e6⟩
 ·
  have hjl := (Ya.1 hw).1
  rw [Yh, Yv] at hjl
  have hje : j = Q.length := by omega
  subst hje
  rw [Yyc (by omega), Nat.sub_self] at hw
  rw [Yyc (by rw [h.l]; exact Nat.le_refl _), h.l, Nat.sub_self] at hu
  cases hw; cases hu
  refine ⟨rfl, rfl, ?_, .inr ⟨i, hil, rfl, v, by rw [Yyi hil]; exact hv, rfl⟩⟩
  show (v.h ++ [x]).length <= _
  rw [Yh, Yv]; omega
def NQ (Q : List Vs) : List ((Int × Int) × Bool) := Q.map fun v => (v.p, true)
theorem NQ_fst (Q : List Vs) : (NQ Q).map Prod.fst = Q.map Vs.p := by unfold NQ; rw [List.map_map]; rfl
theorem NQ_mem {Q : List Vs} (hn : (Q.map Vs.p).Nodup) {p : Int × Int} (h : p ∈ Q.map Vs.p) : mget (NQ Q) p = some true := by
 obtain ⟨v, hv, rfl⟩ := Yp.1 h
 obtain ⟨j, hj⟩ := Yf.1 hv
 exact mget_some (by rw [NQ_fst]; exact hn) (show (NQ Q)[j]? = some (v.p, true) by unfold NQ; rw [Yd, hj]; rfl)
theorem NQ_not {Q : List Vs} {p : Int × Int} (h : p ∉ Q.map Vs.p) : ∀ q ∈ NQ Q, q.1 ≠ p := fun q hq e => by
 obtain ⟨v, hv, rfl⟩ := Yp.1 hq
 exact h (Yp.2 ⟨v, hv, e⟩)
theorem NQ_kok {m k : Mch} {Q : List Vs} (h : QPr m k Q) (hm : m.n <= 200) (hk : k.n <= 200) : ∀ q ∈ NQ Q, kokP q.1 := fun q hq => by
 obtain ⟨v, hv, rfl⟩ := Yp.1 hq
 have := h.r v hv
 exact ⟨⟨by show _ <= v.a; omega, by show v.a <= _; omega⟩, by show _ <= v.b; omega, by show v.b <= _; omega⟩
def mpN (mb : Nat) (Q : List Vs) : It := .mp mb ((NQ Q).map fun q => (pk q.1, bv q.2))
structure IncO (m k : Mch) (H : List Ev) (ok : Bool) (e : Int) : Prop where
 a : ¬ (VM m /\ VM k) -> H = [] /\ ok = false /\ e = 1
 r : VM m /\ VM k -> m.role ≠ k.role -> H = [] /\ ok = false /\ e = 12
 g : VM m /\ VM k -> m.role = k.role -> e = 0 /\ Inc m k (mvS m) [⟨m.s, k.s, []⟩] 0 (H, ok)
def IncV (m k : Mch) (h : Heap) (v : Value) (h' : Heap) : Prop := Ext h h' /\ ∃ (r : Sl) (H : List Ev) (ok : Bool) (e : Int), v = .tuple ⟨[.slice r.a r.n r.c, .bool ok, .int .i64 e]⟩ /\ Rw h' 5 r ((H.map (hvE m.role)).map Hv.cs) /\ H.length <= 1048576 /\ IncO m k H ok e
set_option maxHeartbeats 6400000 in
theorem included30 (m k : Mch) (sf sm sl tf tm tl : Sl) (h : Heap) (hM : MI h m sf sm sl) (hK : MI h k tf tm tl) :
  Fn Pz 30 #[.agg ⟨mC m sf sm sl⟩, .agg ⟨mC k tf tm tl⟩] h (IncV m k h) := by
 apply vc30 m.role m.n m.s sf sm sl k.role k.n k.s tf tm tl; unfold W30
 have hmn := hM.pm.ln
 have hmm := hM.pm.sm
 have hkn := hK.pm.ln
 have hkm := hK.pm.sm
 have empty : ∀ {h' : Heap} {e : Int} {ok : Bool}, Ext h h' -> IncO m k [] ok e -> IncV m k h (.tuple ⟨[.slice none 0 0, .bool ok, .int .i64 e]⟩) h' := fun E hI => ⟨E, ⟨none, 0, 0⟩, [], _, _, rfl, Rw.nil, Nat.zero_le _, hI⟩
 refine (St.refl h).newb fun h13 hs => ?_
 refine hs.newb fun h14 hs => ?_
 refine ⟨_, _, _, sf, sm, sl, hs.at 1 rfl (o := 0) (n := 6) rfl, ?_⟩
 refine (open47 m sf sm sl h14 (hM.ext hs.ext)).mono ?_
 rintro _ h24 ⟨E, p1, b1, rfl, hb1, hbT1⟩
 have hs := hs.step E
 refine ⟨_, _, rfl, ?_⟩
 refine ⟨_, _, _, tf, tm, tl, hs.at 0 rfl (o := 0) (n := 6) rfl, ?_⟩
 refine (open47 k tf tm tl h24 (hK.ext hs.ext)).mono ?_
 rintro _ h34 ⟨E2, p2, b2, rfl, hb2, hbT2⟩
 have hs := hs.step E2
 refine ⟨_, _, rfl, ?_⟩
 refine sB_intro (fun c => empty hs.ext ⟨fun _ => ⟨rfl, rfl, rfl⟩, fun hv => absurd hv.1 (iff_f hb1 (bF c)), fun hv => absurd hv.1 (iff_f hb1 (bF c))⟩) (fun c1 => ?_)
 refine sB_intro (fun c => empty hs.ext ⟨fun _ => ⟨rfl, rfl, rfl⟩, fun hv => absurd hv.2 (iff_f hb2 (bF c)), fun hv => absurd hv.2 (iff_f hb2 (bF c))⟩) (fun c2 => ?_)
 have hVm := hb1.1 (bT c1)
 have hVk := hb2.1 (bT c2)
 obtain ⟨b0, S0, rfl, hT⟩ := hbT1 (bT c1)
 obtain ⟨b3, U0, rfl, hU⟩ := hbT2 (bT c2)
 refine ⟨_, hs.rd 1 rfl rfl, _, hs.rd 0 rfl rfl, sBn (fun c => empty hs.ext ⟨fun hv => absurd ⟨hVm, hVk⟩ hv, fun _ _ => ⟨rfl, rfl, rfl⟩, fun _ hv => absurd hv c⟩) (fun hrole => ?_)⟩
 have hcA := hs.at 1 rfl (o := 0) (n := 6) (vs := mC m sf sm sl) rfl
 have hcB := hs.at 0 rfl (o := 0) (n := 6) (vs := mC k tf tm tl) rfl
 have E0 : Ext h h34 := hs.ext
 have hM := hM.ext E0
 have hK := hK.ext E0
 have hT := hT.ext E2
 have hmN := hVm.n.n
 have hkN := hVk.n.n
 have hms := hVm.n.s
 have hks := hVk.n.s
 have hSq : ∀ s : Int, 0 <= s -> s < m.n -> mvS m s = S0 s.toNat := fun s h0 h1 => by
  have hS := hT.so s.toNat (by omega)
  have hsi : ((s.toNat : Nat) : Int) = s := by omega
  have := hS.p
  rw [hsi] at this
  exact mvS_eq hVm.d this hS.s
 clear hs hbT1 hbT2 empty
 obtain ⟨ho, qs, _, hat, hhn, hho, hqs⟩ := hT.ex
 have hs := St.refl h34
 refine hs.mmake 95 fun h39 E39 hs => ?_
 refine ⟨_, rfl, _, (atC_ext hs.ext hcA).nth 2 rfl, _, (atC_ext hs.ext hcB).nth 2 rfl, ?_⟩
 refine hs.mput (ck := pk) (cv := bv) M95 0 (l := []) rfl (fun q hq => by cases hq) List.nodup_nil (a := (m.s, k.s)) ⟨⟨by show _ <= m.s; omega, by show m.s <= _; omega⟩, by show _ <= k.s; omega, by show k.s <= _; omega⟩ true fun h42 hs => ?_
 replace hs : St h34 h42 [mpN h34.size [⟨m.s, k.s, []⟩]] := hs
 refine ⟨_, (atC_ext hs.ext hcA).nth 2 rfl, _, (atC_ext hs.ext hcB).nth 2 rfl, ?_⟩
 refine hs.newb fun h45 hs => ?_
 have hs := hs.blkS 1 6 ([(⟨m.s, k.s, -1, ⟨false, 0, 0⟩⟩ : Vt)].map Vt.cs) rfl (vtrows _) rfl (by decide)
 refine ⟨fun hist queue x h' μ => ∃ (i : Nat) (Q : List Vs) (V : List Vt), x = i /\ hist = ⟨none, 0, 0⟩ /\ i <= Q.length /\ μ = 40001 - i /\ QPr m k Q /\ HV V Q /\ (∀ r, Inc m k (mvS m) Q i r -> Inc m k (mvS m) [⟨m.s, k.s, []⟩] 0 r) /\ St h34 h' [.sl queue 97 6 (V.map Vt.cs), mpN h34.size Q],
  ⟨_, 0, [⟨m.s, k.s, []⟩], [⟨m.s, k.s, -1, ⟨false, 0, 0⟩⟩], rfl, rfl, by simp, rfl, QPr.start hVm hVk, ⟨rfl, fun j v w hv hw => by
   have hj : j = 0 := by have := (Ya.1 hw).1; simpa using this
   subst hj; cases hv; cases hw
   exact ⟨rfl, rfl, Nat.le_refl _, .inl ⟨rfl, rfl⟩⟩⟩, fun r hr => hr, hs⟩, ?_⟩
 clear hs
 rintro - _ queue _ h52 μ ⟨i, Q, V, rfl, rfl, hi, rfl, hQ, hV, hInc, hs⟩
 have hqn := (hs.rows 0 (cs := Vt.cs) rfl (by omega)).ln
 have hQl := hQ.len hmN.2 hkN.2
 have hVl := hV.l
 refine sBi (fun c => ?_) (fun c => ?_)
 ·
  have hil : i < Q.length := by omega
  obtain ⟨v, hv⟩ := get_some hil
  refine (hs.rows 0 (cs := Vt.cs) rfl (by omega)).nbI (by omega) (by omega) fun b53 o54 vt gvt t => ?_
  replace gvt : V[i]? = some vt := gvt
  obtain ⟨hva, hvb, hvl, _⟩ := hV.e i vt v gvt hv
  have hvr := hQ.r v (Yb hv)
  refine ⟨_, _, _, _, _, _, t, ?_⟩
  refine hs.newput (vs := vt.cs) rfl rfl fun h62 hs => ?_
  refine ⟨ho, (atC_ext hs.ext hat).nth 6 rfl, _, hs.rd 0 rfl rfl, ?_⟩
  refine (hho.ext hs.ext).nbI (by omega) (by omega) fun b66 o67 n gn t67 => ?_
  have hvlt : v.a.toNat < m.n.toNat := (Int.toNat_lt_toNat (by omega)).2 hvr.1.2
  have hn : n = v.a.toNat := by rw [hva, Yyb hvlt] at gn; exact (Option.some.inj gn).symm
  subst hn
  have hrow := hqs v.a.toNat hvlt
  have hSv := hSq v.a hvr.1.1 hvr.1.2
  have hrn := hrow.ln
  rw [show (natI (S0 v.a.toNat)).length = (S0 v.a.toNat).length from Yc _] at hrn
  have hSlen : (S0 v.a.toNat).length <= 1048576 := by
   rw [(hT.so v.a.toNat hvlt).p.length_eq]
   unfold outIx
   exact Nat.le_trans (List.length_filter_le _ _) (by rw [Yyd]; exact hmm)
  have hSm : ∀ j ∈ S0 v.a.toNat, ∃ x, m.mv[j]? = some x /\ x.f = v.a := fun j hj => by
   obtain ⟨x, hx, hxf⟩ := outIx_mem.1 ((hT.so v.a.toNat hvlt).p.mem_iff.1 hj)
   exact ⟨x, hx, by omega⟩
  refine ⟨_, t67.hd, ?_⟩
  refine ⟨fun hist queue x h' μ => ∃ (j : Nat) (Q' : List Vs) (V' : List Vt), x = j /\ hist = ⟨none, 0, 0⟩ /\ j <= (S0 v.a.toNat).length /\ μ = (S0 v.a.toNat).length - j /\ QPr m k Q' /\ HV V' Q' /\ Q'[i]? = some v /\ incL m k v Q (mvS m v.a) = incL m k v Q' ((S0 v.a.toNat).drop j) /\ St h34 h' [.blk h52.size vt.cs 97, .sl queue 97 6 (V'.map Vt.cs), mpN h34.size Q'],
   ⟨_, 0, Q, V, rfl, rfl, Nat.zero_le _, rfl, hQ, hV, hv, by rw [hSv]; rfl, hs⟩, ?_⟩
  clear hs hqn
  rintro - _ queue _ h75 μ ⟨j, Q', V', rfl, rfl, hj, rfl, hQ', hV', hv', hinc, hs⟩
  have hqn := (hs.rows 1 (cs := Vt.cs) rfl (by omega)).ln
  have hQl' := hQ'.len hmN.2 hkN.2
  have hVl' := hV'.l
  have hil' := (Ya.1 hv').1
  refine sBi (fun c3 => ?_) (fun c3 => ?_)
  ·
   obtain ⟨jn, hjn⟩ := get_some (l := S0 v.a.toNat) (i := j) (by omega)
   obtain ⟨x, hx, hxf⟩ := hSm jn (Yb hjn)
   have hxl := (Ya.1 hx).1
   have hxr := hVm.n.mv x (Yb hx)
   rw [drop_get hjn, incL, hx] at hinc
   have hinc : incL m k v Q (mvS m v.a) = match incS k v Q' x with | .inl h => .inl h | .inr Q2 => incL m k v Q2 ((S0 v.a.toNat).drop (j + 1)) := hinc
   refine (hrow.ext hs.ext).nbI (by omega) (by omega) fun b76 o77 d gd t76 => ?_
   replace gd : (natI (S0 v.a.toNat))[j]? = some d := gd
   obtain ⟨jn', hjn', rfl⟩ := natI_get gd
   rw [hjn] at hjn'; cases hjn'
   refine ⟨_, t76.hd, sm, (atC_ext hs.ext hcA).nth 4 rfl, ?_⟩
   refine (hM.pm.rw.ext hs.ext).nbI (by omega) (by omega) fun b80 o81 x' gx t80 => ?_
   replace gx : m.mv[jn]? = some x' := gx
   rw [hx] at gx; cases gx
   refine ⟨_, _, _, _, _, _, t80, ?_⟩
   refine (M.of63 x h75).mono ?_
   rintro _ h92 ⟨rfl, E92⟩
   have hs := hs.step E92
   refine ⟨_, _, _, rfl, ?_⟩
   refine hs.newput (vs := x.ev.cs) rfl rfl fun h94 hs => ?_
   refine ⟨_, hs.rd 1 rfl rfl, _, _, _, hs.at 0 rfl (o := 0) (n := 3) rfl, ?_⟩
   rw [hvb]
   refine (find48 k tf tm tl b3 U0 v.b x.ev h94 (hK.ext hs.ext) hVk (hU.ext hs.ext) hvr.2.1 hvr.2.2).mono ?_
   rintro _ h101 ⟨E101, hfind⟩
   have hs := hs.step E101
   rcases hfind with ⟨rfl, hnx⟩ | ⟨kn, y, rfl, hy, hnx⟩
   ·
    refine ⟨_, rfl, sBi (fun _ => ?_) (fun c4 => absurd (by decide) c4)⟩
    have hinc2 : incL m k v Q (mvS m v.a) = .inl (v.h ++ [x.ev]) := by
     have e1 : incS k v Q' x = .inl (v.h ++ [x.ev]) := by unfold incS; rw [if_pos (by omega)]
     rw [hinc, e1]
    have hfin : Inc m k (mvS m) [⟨m.s, k.s, []⟩] 0 (v.h ++ [x.ev], false) := hInc _ (.stop hv hinc2)
    refine ⟨_, _, _, hs.at 0 rfl (o := 0) (n := 3) rfl, ?_⟩
    refine hs.newb fun h105 hs => ?_
    have hs := hs.blkS 1 3 ([x.ev].map Ev.cs) rfl (evrows _) rfl (by decide)
    refine ⟨fun l n h' μ => ∃ (p : Nat) (T : List Ev) (w : Vs), n = p /\ μ = p /\ Q'[p]? = some w /\ T ++ w.h.reverse = x.ev :: v.h.reverse /\ St h34 h' [.sl l 79 3 (T.map Ev.cs), .blk h92.size x.ev.cs 79, .blk h52.size vt.cs 97, .sl queue 97 6 (V'.map Vt.cs), mpN h34.size Q'],
     ⟨_, i, [x.ev], v, rfl, rfl, hv', rfl, hs⟩, ?_⟩
    clear hs
    rintro - l _ h111 p ⟨_, T, w, rfl, rfl, hw, hTw, hs⟩
    have hpl := (Ya.1 hw).1
    obtain ⟨wt, hwt⟩ := get_some (l := V') (i := p) (by omega)
    obtain ⟨_, _, hwl, hwd⟩ := hV'.e p wt w hwt hw
    have hTl : T.length + w.h.length = 1 + v.h.length := by
     have := congrArg List.length hTw
     rw [Yh, Yyj, List.length_reverse, List.length_reverse] at this; omega
    have hln := (hs.rows 0 (cs := Ev.cs) rfl (by omega)).ln
    refine (hs.rows 3 (cs := Vt.cs) rfl (by omega)).nbI (by omega) (by omega) fun b112 o113 wt' gw t112 => ?_
    replace gw : V'[p]? = some wt' := gw
    rw [hwt] at gw; cases gw
    refine ⟨_, t112.nth 2 rfl, ?_⟩
    rcases hwd with ⟨ha, hwn⟩ | ⟨p', hp', ha, u, hu, hwu⟩
    ·
     refine sBi (fun c5 => by rw [ha] at c5; exact absurd c5 (by decide)) (fun _ => ?_)
     rw [hwn, List.reverse_nil, Yw] at hTw
     subst hTw
     refine (reverse64 hs (by rw [Yyj, List.length_reverse]; omega)).mono ?_
     rintro _ h128 ⟨rfl, hs⟩
     have hrev : (x.ev :: v.h.reverse).reverse = v.h ++ [x.ev] := by rw [List.reverse_cons, List.reverse_reverse]
     rw [hrev] at hs
     have hHl : (v.h ++ [x.ev]).length = v.h.length + 1 := Yh
     have hln : l.n = (v.h ++ [x.ev]).length := (hs.rows 0 (cs := Ev.cs) rfl (by omega)).ln
     refine ⟨rfl, ?_⟩
     have hs0 := hs.nil_ 37 5
     refine ⟨fun hist n h' μ => ∃ i : Nat, n = i /\ i <= (v.h ++ [x.ev]).length /\ μ = (v.h ++ [x.ev]).length - i /\ St h34 h' [.sl hist 37 5 ((((v.h ++ [x.ev]).take i).map (hvE m.role)).map Hv.cs), .sl l 79 3 ((v.h ++ [x.ev]).map Ev.cs)], ⟨_, 0, rfl, Nat.zero_le _, rfl, hs0.sub (.cons_cons _ (.cons_cons _ (.cons _ (.cons _ (.cons _ (.cons _ .slnil))))))⟩, ?_⟩
     clear hs hs0
     rintro - hist _ h134 μ ⟨i2, rfl, hi2, rfl, hs⟩
     have hhn2 := (hs.rows 0 (cs := Hv.cs) rfl (by omega)).ln
     rw [Yc, Yu] at hhn2
     refine sBi (fun c6 => ?_) (fun c6 => ?_)
     ·
      obtain ⟨e, he⟩ := get_some (l := v.h ++ [x.ev]) (i := i2) (by omega)
      refine (hs.rows 1 (cs := Ev.cs) rfl (by omega)).nbI (by omega) (by omega) fun b135 o136 e' ge t135 => ?_
      replace ge : (v.h ++ [x.ev])[i2]? = some e' := ge
      rw [he] at ge; cases ge
      refine ⟨_, _, _, t135, ?_⟩
      refine hs.newput (vs := e.cs) rfl rfl fun h141 hs => ?_
      refine ⟨_, (atC_ext hs.ext hcA).nth 0 rfl, _, hs.rd 0 rfl rfl, _, hs.rd 0 rfl rfl, _, hs.rd 0 rfl rfl, ?_⟩
      refine hs.app 1 rfl app27 (m := 1) [(hvE m.role e).cs] rfl rfl (by simp [Hv.cs]) rfl (by omega) (by simp only [maxLen]; omega) fun s147 h148 n147 hs => ?_
      refine ⟨_, ?_, i2 + 1, by rw [w64 (by omega) (by omega)]; omega, by omega, rfl, ?_⟩
      ·
       omega
      ·
       rw [take_snoc he, Ym, Ym]
       exact hs.drop 1
     ·
      refine ⟨E0.trans hs.ext, hist, v.h ++ [x.ev], false, 0, rfl, ?_, by omega, fun hv => absurd ⟨hVm, hVk⟩ hv, fun _ hv => absurd hrole hv, fun _ _ => ⟨rfl, hfin⟩⟩
      have := hs.rows 0 (s := hist) (cs := Hv.cs) rfl (by omega)
      rwa [Yj (by omega)] at this
    ·
     refine sBi (fun _ => ?_) (fun c5 => by rw [ha] at c5; omega)
     refine (hs.rows 3 (cs := Vt.cs) rfl (by omega)).nbI (by omega) (by omega) fun b115 o116 wt' gw t115 => ?_
     replace gw : V'[p]? = some wt' := gw
     rw [hwt] at gw; cases gw
     refine ⟨_, _, _, t115.sub 3 3 rfl, ?_⟩
     refine hs.app 0 rfl app100 (m := 1) [wt.x.cs] rfl rfl (by simp [Ev.cs]) rfl (by omega) (by simp only [maxLen]; omega) fun s121 h122 n121 hs => ?_
     refine (hs.rows 3 (cs := Vt.cs) (s := queue) (l := V') rfl (by omega)).nbI (by omega) (by omega) fun b123 o124 wt' gw t123 => ?_
     replace gw : V'[p]? = some wt' := gw
     rw [hwt] at gw; cases gw
     refine ⟨_, t123.nth 2 rfl, p', hp', p', T ++ [wt.x], u, ha, rfl, hu, ?_, ?_⟩
     ·
      rw [<- hTw, hwu, List.reverse_append, Yz]; rfl
     ·
      rw [Ym]; exact hs
   ·
    have hyl := (Ya.1 hy).1
    have hyr := hVk.n.mv y (Yb hy)
    refine ⟨_, rfl, sBi (fun c4 => by omega) (fun _ => ?_)⟩
    refine ⟨sm, (atC_ext hs.ext hcA).nth 4 rfl, ?_⟩
    refine (hM.pm.rw.ext hs.ext).nbI (by omega) (by omega) fun b151 o152 x' gx t151 => ?_
    replace gx : m.mv[jn]? = some x' := gx
    rw [hx] at gx; cases gx
    refine ⟨_, t151.nth 4 rfl, tm, (atC_ext hs.ext hcB).nth 4 rfl, ?_⟩
    refine (hK.pm.rw.ext hs.ext).nbI (by omega) (by omega) fun b155 o156 y' gy t155 => ?_
    replace gy : k.mv[kn]? = some y' := gy
    rw [hy] at gy; cases gy
    refine ⟨_, t155.nth 4 rfl, ?_⟩
    refine hs.newbE fun h158 E158 hs => ⟨E158.sm, ?_⟩
    refine hs.put 0 rfl (o := 0) (vs := [.int .i64 x.t, .int .i64 y.t]) rfl (show 2 <= 2 by decide) fun h159 hs => ?_
    refine ⟨_, _, hs.at 0 rfl (o := 0) (n := 2) rfl, ?_⟩
    have hnn : ¬ nxE k v.b x.ev < 0 := by omega
    have hkp : kokP (x.t, y.t) := ⟨⟨by show _ <= x.t; omega, by show x.t <= _; omega⟩, by show _ <= y.t; omega, by show y.t <= _; omega⟩
    refine hs.mlook (ck := pk) (cv := bv) M95 4 (l := NQ Q') rfl (NQ_kok hQ' hmN.2 hkN.2) (by rw [NQ_fst]; exact hQ'.d) (a := (x.t, y.t)) hkp false ?_
    by_cases hmem : (x.t, y.t) ∈ Q'.map Vs.p
    ·
     rw [NQ_mem hQ'.d hmem]
     refine ⟨_, rfl, sB_f rfl ?_⟩
     refine ⟨(S0 v.a.toNat).length - (j + 1), by omega, j + 1, Q', V', by rw [w64 (by omega) (by omega)]; omega, rfl, by omega, rfl, hQ', hV', hv', ?_, hs.drop 2⟩
     have e1 : incS k v Q' x = .inr Q' := by unfold incS; rw [if_neg hnn, hnx, if_pos hmem]
     rw [hinc, e1]
    ·
     rw [mget_none (NQ_not hmem)]
     refine ⟨_, rfl, sB_t rfl ?_⟩
     refine ⟨_, _, hs.at 0 rfl (o := 0) (n := 2) rfl, ?_⟩
     refine hs.mput (ck := pk) (cv := bv) M95 4 (l := NQ Q') rfl (NQ_kok hQ' hmN.2 hkN.2) (by rw [NQ_fst]; exact hQ'.d) (a := (x.t, y.t)) hkp true fun h167 hs => ?_
     rw [mset_none (NQ_not hmem)] at hs
     refine ⟨by decide, _, hs.rd 0 rfl (i := 0) rfl, by decide, _, hs.rd 0 rfl (i := 1) rfl, _, _, _, hs.at 1 rfl (o := 0) (n := 3) rfl, ?_⟩
     refine hs.app 3 rfl app98 (m := 1) [Vt.cs ⟨x.t, y.t, i, x.ev⟩] rfl rfl (by simp [Vt.cs]) rfl (by omega) (by simp only [maxLen]; omega) fun s174 h175 n174 hs => ?_
     refine ⟨(S0 v.a.toNat).length - (j + 1), by omega, j + 1, Q' ++ [⟨x.t, y.t, v.h ++ [x.ev]⟩], V' ++ [⟨x.t, y.t, i, x.ev⟩], by rw [w64 (by omega) (by omega)]; omega, rfl, by omega, rfl, hQ'.push (w := ⟨x.t, y.t, v.h ++ [x.ev]⟩) ⟨⟨hxr.2.2.1, hxr.2.2.2.1⟩, hyr.2.2.1, hyr.2.2.2.1⟩ hmem, hV'.push hv' _ _ _, by rw [Yyi hil']; exact hv', ?_, ?_⟩
     ·
      have e1 : incS k v Q' x = .inr (Q' ++ [⟨x.t, y.t, v.h ++ [x.ev]⟩]) := by unfold incS; rw [if_neg hnn, hnx, if_neg hmem]
      rw [hinc, e1]
     ·
      have hs2 := hs.drop 2
      rw [Ym]
      unfold mpN NQ
      rw [Ym, Ym]
      unfold NQ at hs2
      rw [Ym] at hs2
      exact hs2
  ·
   have hjS : j = (S0 v.a.toNat).length := by omega
   rw [hjS, List.drop_eq_nil_of_le (Nat.le_refl _), incL] at hinc
   refine ⟨40001 - (i + 1), by omega, i + 1, Q', V', by rw [w64 (by omega) (by omega)]; omega, rfl, by omega, rfl, hQ', hV', fun r hr => hInc r (.next hv hinc hr), hs.drop 1⟩
 ·
  refine ⟨E0.trans hs.ext, ⟨none, 0, 0⟩, [], true, 0, rfl, Rw.nil, Nat.zero_le _, fun hv => absurd ⟨hVm, hVk⟩ hv, fun _ hv => absurd hrole hv, fun _ _ => ⟨rfl, hInc _ (.done (by omega))⟩⟩
end Go.VC
end

section
namespace Go.VC
open Go.Proofs

def W31 (p0_1 p0_2 p0_3 : Int) (p0_4 p0_5 p0_6 : Sl) (p1_7 p1_8 p1_9 : Int) (p1_10 p1_11 p1_12 : Sl) (h : Heap) (R : Value -> Heap -> Prop) : Prop :=
 (Wn h (L0 p0_1 p0_2 p0_3 p0_4 p0_5 p0_6) 26 fun h13 =>
 (Wn h13 (L0 p1_7 p1_8 p1_9 p1_10 p1_11 p1_12) 26 fun h14 =>
 (∃ x15 x16 x17 x18 x19 x20, aL0 h14 (aS h 0) x15 x16 x17 x18 x19 x20 /\
 (Fn Pz 24 #[.agg ⟨(L0 x15 x16 x17 x18 x19 x20)⟩] h14
 (fun v21 h23 => ∃ x22, iB v21 x22 /\
 (sB (!x22)
 (R (.tuple ⟨[.slice none 0 0, .bool false, vI 1]⟩) h23)
 ((∃ x24 x25 x26 x27 x28 x29, aL0 h23 (aS h13 0) x24 x25 x26 x27 x28 x29 /\
 (Fn Pz 24 #[.agg ⟨(L0 x24 x25 x26 x27 x28 x29)⟩] h23
 (fun v30 h32 => ∃ x31, iB v30 x31 /\
 (sB (!x31)
 (R (.tuple ⟨[.slice none 0 0, .bool false, vI 1]⟩) h32)
 ((∃ x33, rI h32 (aS h 0) x33 /\
 (∃ x34, rI h32 (aS h13 0) x34 /\
 (sB (x33 != x34)
 (R (.tuple ⟨[.slice none 0 0, .bool false, vI 12]⟩) h32)
 ((∃ x35, rI h32 (aS h 2) x35 /\
 (∃ x36, rI h32 (aS h13 2) x36 /\
 (Wn h32 [vI x35, vI x36, .slice none 0 0] 103 fun h37 =>
 (QSI ⟨(some (aS h32 0)), 1, 1⟩ 0 h37 fun I38 l_41 i_42 h43 m40 => (
 (sB (decide (i_42 < (l_41.n : Int)))
 ((∃ x44 x45 x46 x47 x48 x49, aL0 h43 (aS h 0) x44 x45 x46 x47 x48 x49 /\
 (NB l_41.a fun b50 o51 => (Ib i_42 l_41.n /\
 (∃ x52, rI h43 ⟨b50, o51 + Int.toNat i_42 * 3, none⟩ x52 /\
 (Fn Pz 62 #[.agg ⟨(L0 x44 x45 x46 x47 x48 x49)⟩, vI x52] h43
 (fun v53 h55 => ∃ x54, iS v53 x54 /\
 (QSI l_41 0 h55 fun I56 l_59 k_60 h61 m58 => (
 (sB (decide (k_60 < (x54.n : Int)))
 ((∃ x62, rS h61 (aS h 4) x62 /\
 (NB x54.a fun b63 o64 => (Ib k_60 x54.n /\
 (∃ x65, rI h61 ⟨b63, o64 + Int.toNat k_60 * 1, none⟩ x65 /\
 (NB x62.a fun b66 o67 => (Ib x65 x62.n /\
 (∃ x68 x69 x70 x71 x72 x73, aL1 h61 ⟨b66, o67 + Int.toNat x65 * 6, none⟩ x68 x69 x70 x71 x72 x73 /\
 (Wn h61 [vI 0, .bool false, vI 0, vI 0, vI 0, .bool false] 81 fun h74 =>
 (Sm [⟨b66, o67 + Int.toNat x65 * 6, none⟩, ⟨b63, o64 + Int.toNat k_60 * 1, none⟩, (aS h 4)] h61 h74 /\
 (Wp h74 (aS h61 0) 6 (L1 x68 x69 x70 x71 x72 x73) fun h75 =>
 (∃ x76, rI h75 (aS h 0) x76 /\
 (∃ x77, rB h75 (aS h61 1) x77 /\
 (∃ x78, rI h75 (aS h61 2) x78 /\
 (∃ x79, rI h75 (aS h61 3) x79 /\
 (Wn h75 [vI 0, .bool false, vI 0, vI 0, .slice none 0 0] 37 fun h80 =>
 (Wp h80 (aS h75 0) 5 [vI x76, .bool x77, vI x78, vI x79, .slice none 0 0] fun h81 =>
 (NB l_59.a fun b82 o83 => (Ib i_42 l_59.n /\
 (∃ x84, rS h81 ⟨b82, o83 + Int.toNat i_42 * 3 + 2, none⟩ x84 /\
 (∃ x85 x86 x87 x88 x89, aL5 h81 (aS h75 0) x85 x86 x87 x88 x89 /\
 ((Wn h81 [] 37 fun h90 =>
 (Sm [(aS h75 0), ⟨b82, o83 + Int.toNat i_42 * 3 + 2, none⟩] h81 h90 /\
 ((App Pz 27 27 (.slice (some (aS h81 0)) 0 0) (vS x84) h90 fun s91 h92 =>
 (Sm [(aS h75 0)] h90 h92 /\
 (Wn h92 (L5 x85 x86 x87 x88 x89) 37 fun h93 =>
 (Sm [⟨b82, o83 + Int.toNat i_42 * 3 + 2, none⟩] h92 h93 /\
 (App Pz 27 27 (vS s91) (.slice (some (aS h92 0)) 1 1) h93 fun s94 h95 =>
 (∃ x96 x97 x98 x99 x100 x101, aL0 h95 (aS h13 0) x96 x97 x98 x99 x100 x101 /\
 (NB l_59.a fun b102 o103 => (Ib i_42 l_59.n /\
 (∃ x104, rI h95 ⟨b102, o103 + Int.toNat i_42 * 3 + 1, none⟩ x104 /\
 (∃ x105 x106 x107 x108 x109, aL5 h95 (aS h75 0) x105 x106 x107 x108 x109 /\
 (Fn Pz 54 #[.agg ⟨(L0 x96 x97 x98 x99 x100 x101)⟩, vI x104, .agg ⟨(L5 x105 x106 x107 x108 x109)⟩] h95
 (fun v110 h112 => ∃ x111, iI v110 x111 /\
 (sB (decide (x111 < 0))
 (R (.tuple ⟨[vS s94, .bool false, vI 0]⟩) h112)
 ((QBI false 0 h112 fun I113 known_116 j_117 h118 m115 => (
 (sB (decide (j_117 < (l_59.n : Int)))
 ((sB known_116
 ((∃ m119, m119 < m115 /\ I113 true (IntKind.wrap .i64 (j_117 + 1)) h118 m119))
 ((NB l_59.a fun b120 o121 => (Ib j_117 l_59.n /\
 (∃ x122, rI h118 ⟨b120, o121 + Int.toNat j_117 * 3, none⟩ x122 /\
 (∃ x123, rI h118 (aS h61 4) x123 /\
 (sB (x122 == x123)
 ((NB l_59.a fun b124 o125 => (Ib j_117 l_59.n /\
 (∃ x126, rI h118 ⟨b124, o125 + Int.toNat j_117 * 3 + 1, none⟩ x126 /\
 (∃ m127, m127 < m115 /\ I113 (x126 == x111) (IntKind.wrap .i64 (j_117 + 1)) h118 m127)))))
 ((∃ m128, m128 < m115 /\ I113 false (IntKind.wrap .i64 (j_117 + 1)) h118 m128))))))))))
 ((sB (!known_116)
 ((∃ x129, rI h118 (aS h61 4) x129 /\
 (Wn h118 [vI x129, vI x111, vS s94] 103 fun h130 =>
 (App Pz 104 104 (vS l_59) (.slice (some (aS h118 0)) 1 1) h130 fun s131 h132 =>
 (∃ m133, m133 < m58 /\ I56 s131 (IntKind.wrap .i64 (k_60 + 1)) h132 m133)))))
 ((∃ m134, m134 < m58 /\ I56 l_59 (IntKind.wrap .i64 (k_60 + 1)) h118 m134)))))))))))))))))))))) /\ ((Wn h90 (L5 x85 x86 x87 x88 x89) 37 fun h135 =>
 (Sm [⟨b82, o83 + Int.toNat i_42 * 3 + 2, none⟩] h90 h135 /\
 (App Pz 27 27 (.slice (some (aS h81 0)) 0 0) (vS x84) h135 fun s136 h137 =>
 (Sm [(aS h75 0)] h135 h137 /\
 (App Pz 27 27 (vS s136) (.slice (some (aS h90 0)) 1 1) h137 fun s138 h139 =>
 (∃ x140 x141 x142 x143 x144 x145, aL0 h139 (aS h13 0) x140 x141 x142 x143 x144 x145 /\
 (NB l_59.a fun b146 o147 => (Ib i_42 l_59.n /\
 (∃ x148, rI h139 ⟨b146, o147 + Int.toNat i_42 * 3 + 1, none⟩ x148 /\
 (∃ x149 x150 x151 x152 x153, aL5 h139 (aS h75 0) x149 x150 x151 x152 x153 /\
 (Fn Pz 54 #[.agg ⟨(L0 x140 x141 x142 x143 x144 x145)⟩, vI x148, .agg ⟨(L5 x149 x150 x151 x152 x153)⟩] h139
 (fun v154 h156 => ∃ x155, iI v154 x155 /\
 (sB (decide (x155 < 0))
 (R (.tuple ⟨[vS s138, .bool false, vI 0]⟩) h156)
 ((QBI false 0 h156 fun I157 known_160 j_161 h162 m159 => (
 (sB (decide (j_161 < (l_59.n : Int)))
 ((sB known_160
 ((∃ m163, m163 < m159 /\ I157 true (IntKind.wrap .i64 (j_161 + 1)) h162 m163))
 ((NB l_59.a fun b164 o165 => (Ib j_161 l_59.n /\
 (∃ x166, rI h162 ⟨b164, o165 + Int.toNat j_161 * 3, none⟩ x166 /\
 (∃ x167, rI h162 (aS h61 4) x167 /\
 (sB (x166 == x167)
 ((NB l_59.a fun b168 o169 => (Ib j_161 l_59.n /\
 (∃ x170, rI h162 ⟨b168, o169 + Int.toNat j_161 * 3 + 1, none⟩ x170 /\
 (∃ m171, m171 < m159 /\ I157 (x170 == x155) (IntKind.wrap .i64 (j_161 + 1)) h162 m171)))))
 ((∃ m172, m172 < m159 /\ I157 false (IntKind.wrap .i64 (j_161 + 1)) h162 m172))))))))))
 ((sB (!known_160)
 ((∃ x173, rI h162 (aS h61 4) x173 /\
 (Wn h162 [vI x173, vI x155, vS s138] 103 fun h174 =>
 (App Pz 104 104 (vS l_59) (.slice (some (aS h162 0)) 1 1) h174 fun s175 h176 =>
 (∃ m177, m177 < m58 /\ I56 s175 (IntKind.wrap .i64 (k_60 + 1)) h176 m177)))))
 ((∃ m178, m178 < m58 /\ I56 l_59 (IntKind.wrap .i64 (k_60 + 1)) h162 m178))))))))))))))))))))))))) /\ ((Wn h81 (L5 x85 x86 x87 x88 x89) 37 fun h179 =>
 (Sm [⟨b82, o83 + Int.toNat i_42 * 3 + 2, none⟩] h81 h179 /\
 (Wn h179 [] 37 fun h180 =>
 (Sm [(aS h75 0), ⟨b82, o83 + Int.toNat i_42 * 3 + 2, none⟩] h179 h180 /\
 (App Pz 27 27 (.slice (some (aS h179 0)) 0 0) (vS x84) h180 fun s181 h182 =>
 (Sm [(aS h75 0)] h180 h182 /\
 (App Pz 27 27 (vS s181) (.slice (some (aS h81 0)) 1 1) h182 fun s183 h184 =>
 (∃ x185 x186 x187 x188 x189 x190, aL0 h184 (aS h13 0) x185 x186 x187 x188 x189 x190 /\
 (NB l_59.a fun b191 o192 => (Ib i_42 l_59.n /\
 (∃ x193, rI h184 ⟨b191, o192 + Int.toNat i_42 * 3 + 1, none⟩ x193 /\
 (∃ x194 x195 x196 x197 x198, aL5 h184 (aS h75 0) x194 x195 x196 x197 x198 /\
 (Fn Pz 54 #[.agg ⟨(L0 x185 x186 x187 x188 x189 x190)⟩, vI x193, .agg ⟨(L5 x194 x195 x196 x197 x198)⟩] h184
 (fun v199 h201 => ∃ x200, iI v199 x200 /\
 (sB (decide (x200 < 0))
 (R (.tuple ⟨[vS s183, .bool false, vI 0]⟩) h201)
 ((QBI false 0 h201 fun I202 known_205 j_206 h207 m204 => (
 (sB (decide (j_206 < (l_59.n : Int)))
 ((sB known_205
 ((∃ m208, m208 < m204 /\ I202 true (IntKind.wrap .i64 (j_206 + 1)) h207 m208))
 ((NB l_59.a fun b209 o210 => (Ib j_206 l_59.n /\
 (∃ x211, rI h207 ⟨b209, o210 + Int.toNat j_206 * 3, none⟩ x211 /\
 (∃ x212, rI h207 (aS h61 4) x212 /\
 (sB (x211 == x212)
 ((NB l_59.a fun b213 o214 => (Ib j_206 l_59.n /\
 (∃ x215, rI h207 ⟨b213, o214 + Int.toNat j_206 * 3 + 1, none⟩ x215 /\
 (∃ m216, m216 < m204 /\ I202 (x215 == x200) (IntKind.wrap .i64 (j_206 + 1)) h207 m216)))))
 ((∃ m217, m217 < m204 /\ I202 false (IntKind.wrap .i64 (j_206 + 1)) h207 m217))))))))))
 ((sB (!known_205)
 ((∃ x218, rI h207 (aS h61 4) x218 /\
 (Wn h207 [vI x218, vI x200, vS s183] 103 fun h219 =>
 (App Pz 104 104 (vS l_59) (.slice (some (aS h207 0)) 1 1) h219 fun s220 h221 =>
 (∃ m222, m222 < m58 /\ I56 s220 (IntKind.wrap .i64 (k_60 + 1)) h221 m222)))))
 ((∃ m223, m223 < m58 /\ I56 l_59 (IntKind.wrap .i64 (k_60 + 1)) h207 m223)))))))))))))))))))))))))))))))))))))))))))))
 ((∃ m224, m224 < m40 /\ I38 l_59 (IntKind.wrap .i64 (i_42 + 1)) h61 m224))))))))))))
 (R (.tuple ⟨[.slice none 0 0, .bool true, vI 0]⟩) h43)))))))))))))))))))))))
theorem vc31 (p0_1 p0_2 p0_3 : Int) (p0_4 p0_5 p0_6 : Sl) (p1_7 p1_8 p1_9 : Int) (p1_10 p1_11 p1_12 : Sl) (h : Heap) (R : Value -> Heap -> Prop) (H : W31 p0_1 p0_2 p0_3 p0_4 p0_5 p0_6 p1_7 p1_8 p1_9 p1_10 p1_11 p1_12 h R) : Fn Pz 31 #[.agg ⟨(L0 p0_1 p0_2 p0_3 p0_4 p0_5 p0_6)⟩, .agg ⟨(L0 p1_7 p1_8 p1_9 p1_10 p1_11 p1_12)⟩] h R := fnI (A := (.s .z (.s .z (.s .z (.s .z (.s (.s .z (.b (.l [(7, .one (.slice)), (8, .one (.int .i64))] (.s .z (.s (.b (.s .z (.s .z (.b (.l [(7, .one (.slice)), (10, .one (.int .i64))] (.s .z (.s (.b (.s .z (.s .z (.s .z (.s .z (.s .z (.s .z (.s (.s .z (.b (.l [(15, .one (.bool)), (16, .one (.int .i64))] .z))) .z)))))))) .z))))))) .z))))) .z)))))) (by kernel_rfl) H

end Go.VC
end
