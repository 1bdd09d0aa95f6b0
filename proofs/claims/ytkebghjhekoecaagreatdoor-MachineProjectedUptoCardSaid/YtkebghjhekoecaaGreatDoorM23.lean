/- QjY QjVcI QjMa RjVcB RjF RjI RjJ RjVcE RjVcF QjVcK RjK RjVcG RjL RjM RjN RjO. -/
import Derived.Test.YtkebghjhekoecaaGreatDoorM22
import Derived.Test.YtkebghjhekoecaaGreatDoorM01
import Derived.Test.YtkebghjhekoecaaGreatDoorM02
import Derived.Test.YtkebghjhekoecaaGreatDoorProg
import Derived.KernelRfl
import Derived.Test.YtkebghjhekoecaaGreatDoorM15
import Derived.Test.YtkebghjhekoecaaGreatDoorM16
set_option linter.unusedVariables false
set_option linter.unusedSimpArgs false
set_option maxRecDepth 100000

section
/- The example, and that the laws are awake. -/
namespace Go.VC
open Go.Proofs Go.LexS

def exD (x : Nm) : Dc := ⟨x, ⟨none, 0, 0⟩, 0, ⟨none, 0, 0⟩, ⟨none, 0, 0⟩, [], [], []⟩
def exEs : Bool -> List Ed
 | true => [⟨0, 0, 1, 0, 1, false⟩, ⟨0, 0, 1, 1, 2, false⟩, ⟨1, 1, 2, 0, 3, false⟩, ⟨2, 1, 2, 1, 4, false⟩, ⟨3, 2, 1, 2, 5, false⟩, ⟨4, 2, 1, 3, 5, false⟩]
 | false => [⟨0, 0, 1, 0, 1, false⟩, ⟨0, 0, 1, 1, 2, false⟩, ⟨1, 2, 1, 2, 3, false⟩, ⟨2, 2, 1, 3, 3, false⟩]
def exGl (b : Bool) (hr hd he ht : Sl) : Gl := ⟨[101], hr, hd, if b then 6 else 4, 0, if b then 5 else 3, he, ht, [[112], [113], [114]], [exD [97], exD [98], exD [99], exD [100]], exEs b, []⟩
theorem edge70 (p0 p1 p2 p3 p4 : Int) (h : Heap) : Fn Pz 95 #[.int .i64 p0, .int .i64 p1, .int .i64 p2, .int .i64 p3, .int .i64 p4] h fun v h' => v = .agg ⟨Ed.cs ⟨p0, p1, p2, p3, p4, false⟩⟩ /\ Ext h h' := by
 apply vc95; unfold W95
 have hs := St.refl h
 refine hs.newput (vs := Ed.cs ⟨p0, p1, p2, p3, p4, false⟩) rfl rfl fun h2 hs => ?_
 exact ⟨_, _, _, _, _, _, hs.at 0 rfl (n := 6) rfl, rfl, hs.ext⟩
theorem RL.none_ {α : Type} {h : Heap} {k : Nat} {cs : α -> List Value} : RL h k ⟨none, 0, 0⟩ cs [] := ⟨Rw.nil, Yyt _, fun _ => ⟨rfl, rfl⟩, Nat.zero_le _⟩
theorem St.rl {α : Type} {h0 h : Heap} {L : List It} (hs : St h0 h L) (k : Nat) {s : Sl} {e : TypeId} {n : Nat} {cs : α -> List Value} {l : List α} (hk : L[k]? = some (.sl s e n (l.map cs))) (hn : 0 < n) (hl : l.length <= 1048576) : RL h n s cs l := by
 have := hs.len k hk hn
 exact ⟨hs.rows k hk hn, this.2.1, this.2.2, hl⟩
theorem nmrows (L : List Nm) : ∀ r ∈ L.map nmC, r.length = 1 := fun r hr => by obtain ⟨x, _, rfl⟩ := Yp.1 hr; rfl
theorem dcrows (L : List Dc) : ∀ r ∈ L.map Dc.cs, r.length = 5 := fun r hr => by obtain ⟨x, _, rfl⟩ := Yp.1 hr; rfl
theorem edrows (L : List Ed) : ∀ r ∈ L.map Ed.cs, r.length = 6 := fun r hr => by obtain ⟨x, _, rfl⟩ := Yp.1 hr; rfl
set_option maxHeartbeats 1000000 in
theorem example34 (b : Bool) (h : Heap) : Fn Pz 46 #[.bool b] h fun v h' => Ext h h' /\ ∃ hr hd he : Sl, v = (exGl b hr hd he ⟨none, 0, 0⟩).v /\ GI h' (exGl b hr hd he ⟨none, 0, 0⟩) := by
 apply vc46; unfold W46
 have hs := St.refl h
 refine hs.newb fun h1 hs => ?_
 refine hs.newb fun h2 hs => ?_
 have hs := hs.blkS 3 1 ([[112], [113], [114]].map nmC) rfl (nmrows _) rfl (by decide)
 refine hs.newb fun h3 hs => ?_
 have hs := hs.blkS 4 5 ([exD [97], exD [98], exD [99], exD [100]].map Dc.cs) rfl (dcrows _) rfl (by decide)
 refine hs.newput (vs := [.string (bs [101]), .slice (some ⟨h1.size, 0, none⟩) 3 3, .slice (some ⟨h2.size, 0, none⟩) 4 4, .int .i64 4, .int .i64 0, .int .i64 3, .slice none 0 0, .slice none 0 0]) rfl rfl fun h5 hs => ?_
 refine (edge70 _ _ _ _ _ _).mono ?_
 rintro _ _ ⟨rfl, E⟩
 replace hs := hs.step E
 clear E
 refine ⟨_, _, _, _, _, _, rfl, ?_⟩
 refine (edge70 _ _ _ _ _ _).mono ?_
 rintro _ _ ⟨rfl, E⟩
 replace hs := hs.step E
 clear E
 refine ⟨_, _, _, _, _, _, rfl, ?_⟩
 refine (edge70 _ _ _ _ _ _).mono ?_
 rintro _ _ ⟨rfl, E⟩
 replace hs := hs.step E
 clear E
 refine ⟨_, _, _, _, _, _, rfl, ?_⟩
 refine (edge70 _ _ _ _ _ _).mono ?_
 rintro _ _ ⟨rfl, E⟩
 replace hs := hs.step E
 clear E
 refine ⟨_, _, _, _, _, _, rfl, ?_⟩
 refine hs.newb fun h38 hs => ?_
 have hs := hs.blkS 4 6 ((exEs false).map Ed.cs) rfl (edrows _) rfl (by decide)
 refine hs.put 1 rfl (o := 6) (vs := [.slice (some ⟨_, 0, none⟩) 4 4]) rfl (show 7 <= 8 by decide) fun h39 hs => ?_
 cases b
 ·
  refine sB_f rfl ?_
  refine ⟨_, ⟨some ⟨h1.size, 0, none⟩, 3, 3⟩, ⟨some ⟨h2.size, 0, none⟩, 4, 4⟩, _, _, _, ⟨some ⟨_, 0, none⟩, 4, 4⟩, ⟨none, 0, 0⟩, hs.at 1 rfl (n := 8) rfl, ?_⟩
  refine hs.put 4 rfl (o := 0) (vs := (exGl false ⟨some ⟨h1.size, 0, none⟩, 3, 3⟩ ⟨some ⟨h2.size, 0, none⟩, 4, 4⟩ ⟨some ⟨_, 0, none⟩, 4, 4⟩ ⟨none, 0, 0⟩).cs) rfl (show 8 <= 8 by decide) fun h117 hs => ?_
  refine ⟨_, ⟨some ⟨h1.size, 0, none⟩, 3, 3⟩, ⟨some ⟨h2.size, 0, none⟩, 4, 4⟩, _, _, _, ⟨some ⟨_, 0, none⟩, 4, 4⟩, ⟨none, 0, 0⟩, hs.at 4 rfl (n := 8) rfl, hs.ext, _, _, _, rfl, ?_⟩
  refine ⟨hs.rl 3 rfl (by decide) (show 3 <= 1048576 by decide), ⟨hs.rl 2 rfl (by decide) (show 4 <= 1048576 by decide), fun d hd => ?_⟩, hs.rl 0 rfl (by decide) (show 4 <= 1048576 by decide), RL.none_⟩
  have hd : d ∈ [exD [97], exD [98], exD [99], exD [100]] := hd
  simp only [Yr, List.not_mem_nil, or_false] at hd
  rcases hd with rfl | rfl | rfl | rfl <;> exact ⟨RL.none_, RL.none_, RL.none_⟩
 ·
  refine sB_t rfl ?_
  refine hs.put 1 rfl (o := 3) (vs := [.int .i64 6]) rfl (show 4 <= 8 by decide) fun h40 hs => ?_
  refine hs.put 1 rfl (o := 5) (vs := [.int .i64 5]) rfl (show 6 <= 8 by decide) fun h41 hs => ?_
  refine (edge70 _ _ _ _ _ _).mono ?_
  rintro _ _ ⟨rfl, E⟩
  replace hs := hs.step E
  clear E
  refine ⟨_, _, _, _, _, _, rfl, ?_⟩
  refine (edge70 _ _ _ _ _ _).mono ?_
  rintro _ _ ⟨rfl, E⟩
  replace hs := hs.step E
  clear E
  refine ⟨_, _, _, _, _, _, rfl, ?_⟩
  refine (edge70 _ _ _ _ _ _).mono ?_
  rintro _ _ ⟨rfl, E⟩
  replace hs := hs.step E
  clear E
  refine ⟨_, _, _, _, _, _, rfl, ?_⟩
  refine (edge70 _ _ _ _ _ _).mono ?_
  rintro _ _ ⟨rfl, E⟩
  replace hs := hs.step E
  clear E
  refine ⟨_, _, _, _, _, _, rfl, ?_⟩
  refine (edge70 _ _ _ _ _ _).mono ?_
  rintro _ _ ⟨rfl, E⟩
  replace hs := hs.step E
  clear E
  refine ⟨_, _, _, _, _, _, rfl, ?_⟩
  refine (edge70 _ _ _ _ _ _).mono ?_
  rintro _ _ ⟨rfl, E⟩
  replace hs := hs.step E
  clear E
  refine ⟨_, _, _, _, _, _, rfl, ?_⟩
  refine hs.newb fun h90 hs => ?_
  have hs := hs.blkS 6 6 ((exEs true).map Ed.cs) rfl (edrows _) rfl (by decide)
  refine hs.put 2 rfl (o := 6) (vs := [.slice (some ⟨_, 0, none⟩) 6 6]) rfl (show 7 <= 8 by decide) fun h91 hs => ?_
  refine ⟨_, ⟨some ⟨h1.size, 0, none⟩, 3, 3⟩, ⟨some ⟨h2.size, 0, none⟩, 4, 4⟩, _, _, _, ⟨some ⟨_, 0, none⟩, 6, 6⟩, ⟨none, 0, 0⟩, hs.at 2 rfl (n := 8) rfl, ?_⟩
  refine hs.put 5 rfl (o := 0) (vs := (exGl true ⟨some ⟨h1.size, 0, none⟩, 3, 3⟩ ⟨some ⟨h2.size, 0, none⟩, 4, 4⟩ ⟨some ⟨_, 0, none⟩, 6, 6⟩ ⟨none, 0, 0⟩).cs) rfl (show 8 <= 8 by decide) fun h117 hs => ?_
  refine ⟨_, ⟨some ⟨h1.size, 0, none⟩, 3, 3⟩, ⟨some ⟨h2.size, 0, none⟩, 4, 4⟩, _, _, _, ⟨some ⟨_, 0, none⟩, 6, 6⟩, ⟨none, 0, 0⟩, hs.at 5 rfl (n := 8) rfl, hs.ext, _, _, _, rfl, ?_⟩
  refine ⟨hs.rl 4 rfl (by decide) (show 3 <= 1048576 by decide), ⟨hs.rl 3 rfl (by decide) (show 4 <= 1048576 by decide), fun d hd => ?_⟩, hs.rl 0 rfl (by decide) (show 6 <= 1048576 by decide), RL.none_⟩
  have hd : d ∈ [exD [97], exD [98], exD [99], exD [100]] := hd
  simp only [Yr, List.not_mem_nil, or_false] at hd
  rcases hd with rfl | rfl | rfl | rfl <;> exact ⟨RL.none_, RL.none_, RL.none_⟩

deriving instance DecidableEq for Ed
theorem ex_valid (b : Bool) (hr hd he ht : Sl) : ValidS (exGl b hr hd he ht) := by
 have hrs : (exGl b hr hd he ht).rs = [[112], [113], [114]] := rfl
 have hds : (exGl b hr hd he ht).ds = [exD [97], exD [98], exD [99], exD [100]] := rfl
 have hes : (exGl b hr hd he ht).es = exEs b := rfl
 have hall : allF [exD [97], exD [98], exD [99], exD [100]] = [] := rfl
 have get3 : ∀ {α : Type} {P : Nat -> α -> Prop} {l : List α}, (∀ i (hi : i < l.length), P i l[i]) -> ∀ i x, l[i]? = some x -> P i x := by
  intro α P l h i x hx
  obtain ⟨h1, h2⟩ := Ya.1 hx
  rw [<- h2]; exact h i h1
 refine ⟨⟨by rfl, by rw [hrs]; decide, by rw [hrs]; decide, ?_⟩, ⟨?_, ?_, ?_⟩, ?_, ⟨?_, ?_, ?_⟩, ?_, ?_, ?_⟩
 ·
  rw [hrs]
  refine get3 (P := fun i s => isWord s = true /\ s ∉ List.take i [[112], [113], [114]]) fun i hi => ?_
  have hi : i < 3 := hi
  match i, hi with
  | 0, _ => exact Yyn rfl
  | 1, _ => exact Yyn rfl
  | 2, _ => exact Yyn rfl
 ·
  cases b <;> exact ⟨Yyn rfl, Yyn rfl, Yyn rfl, Yyn rfl, Yyn rfl, Yyn rfl⟩
 ·
  rw [hes]; cases b <;> decide
 ·
  rw [hes]
  unfold EdS
  rw [hrs, hds]
  cases b
  ·
   show ∀ x ∈ exEs false, 0 <= x.f /\ 0 <= x.t /\ 0 <= x.a /\ 0 <= x.b /\ 0 <= x.l /\ x.f < 4 /\ x.t < 4 /\ x.a < ((3 : Nat) : Int) /\ x.b < ((3 : Nat) : Int) /\ x.a ≠ x.b /\ x.l < ((4 : Nat) : Int)
   decide
  ·
   show ∀ x ∈ exEs true, 0 <= x.f /\ 0 <= x.t /\ 0 <= x.a /\ 0 <= x.b /\ 0 <= x.l /\ x.f < 6 /\ x.t < 6 /\ x.a < ((3 : Nat) : Int) /\ x.b < ((3 : Nat) : Int) /\ x.a ≠ x.b /\ x.l < ((4 : Nat) : Int)
   decide
 ·
  rw [hds]
  refine ⟨by decide, by rw [hall]; decide, ?_⟩
  refine get3 (P := fun i d => DcS [exD [97], exD [98], exD [99], exD [100]] i d) fun i hi => ?_
  have hi : i < 4 := hi
  have hg : GuardS [] [] [] := ⟨by decide, by decide, fun x hx => (by cases hx), fun x hx => (by cases hx)⟩
  match i, hi with
  | 0, _ => exact ⟨by rfl, Yyn rfl, Yyn rfl, by rfl, fun k f hf => (by cases hf), by rw [hall]; exact hg⟩
  | 1, _ => exact ⟨by rfl, Yyn rfl, Yyn rfl, by rfl, fun k f hf => (by cases hf), by rw [hall]; exact hg⟩
  | 2, _ => exact ⟨by rfl, Yyn rfl, Yyn rfl, by rfl, fun k f hf => (by cases hf), by rw [hall]; exact hg⟩
  | 3, _ => exact ⟨by rfl, Yyn rfl, Yyn rfl, by rfl, fun k f hf => (by cases hf), by rw [hall]; exact hg⟩
 ·
  rw [hes]; cases b
  ·
   show ∀ x ∈ exEs false, x.f ≠ 3
   decide
  ·
   show ∀ x ∈ exEs true, x.f ≠ 5
   decide
 ·
  rw [hes]; cases b
  ·
   show ∀ x ∈ exEs false, x.ag = true -> x.f ≠ 0
   decide
  ·
   show ∀ x ∈ exEs true, x.ag = true -> x.f ≠ 0
   decide
 ·
  rw [hes]
  have key : ((exEs b).zipIdx.all fun p => (exEs b).zipIdx.all fun q => !decide ((p.2 ≠ q.2 /\ p.1.f = q.1.f /\ ((p.1.a = q.1.a /\ p.1.b = q.1.b /\ p.1.l = q.1.l) \/ p.1.a ≠ q.1.a \/ p.1.ag = true)) \/ (p.1.ag = true /\ q.1.t = p.1.f /\ (p.1.a ≠ q.1.a \/ p.1.l ≠ q.1.l)))) = true := by
   cases b <;> decide
  intro i x hx k y hy hbad
  have h1 := List.all_eq_true.1 key (x, i) (Yf.2 ⟨i, by rw [List.getElem?_zipIdx, hx]; simp⟩)
  have h2 := List.all_eq_true.1 h1 (y, k) (Yf.2 ⟨k, by rw [List.getElem?_zipIdx, hy]; simp⟩)
  have h3 := Yyo (Bool.not_eq_true' _ ▸ h2)
  exact h3 hbad
 ·
  intro i t ht; exact absurd ht (by show ([] : List To)[i]? ≠ some t; simp)
 ·
  intro v h0 h1
  rw [hes]
  cases b
  ·
   have h1 : v < 4 := h1
   show Rch (exEs false) false 0 v
   have s0 : Rch (exEs false) false 0 0 := .refl
   have s1 : Rch (exEs false) false 0 1 := .step s0 ⟨⟨0, 0, 1, 0, 1, false⟩, by decide, rfl, rfl⟩
   have s2 : Rch (exEs false) false 0 2 := .step s0 ⟨⟨0, 0, 1, 1, 2, false⟩, by decide, rfl, rfl⟩
   have s3 : Rch (exEs false) false 0 3 := .step s1 ⟨⟨1, 2, 1, 2, 3, false⟩, by decide, rfl, rfl⟩
   have : v = 0 \/ v = 1 \/ v = 2 \/ v = 3 := by omega
   rcases this with rfl | rfl | rfl | rfl <;> assumption
  ·
   have h1 : v < 6 := h1
   show Rch (exEs true) false 0 v
   have s0 : Rch (exEs true) false 0 0 := .refl
   have s1 : Rch (exEs true) false 0 1 := .step s0 ⟨⟨0, 0, 1, 0, 1, false⟩, by decide, rfl, rfl⟩
   have s2 : Rch (exEs true) false 0 2 := .step s0 ⟨⟨0, 0, 1, 1, 2, false⟩, by decide, rfl, rfl⟩
   have s3 : Rch (exEs true) false 0 3 := .step s1 ⟨⟨1, 1, 2, 0, 3, false⟩, by decide, rfl, rfl⟩
   have s4 : Rch (exEs true) false 0 4 := .step s2 ⟨⟨2, 1, 2, 1, 4, false⟩, by decide, rfl, rfl⟩
   have s5 : Rch (exEs true) false 0 5 := .step s3 ⟨⟨3, 2, 1, 2, 5, false⟩, by decide, rfl, rfl⟩
   have : v = 0 \/ v = 1 \/ v = 2 \/ v = 3 \/ v = 4 \/ v = 5 := by omega
   rcases this with rfl | rfl | rfl | rfl | rfl | rfl <;> assumption
 ·
  intro v h0 h1
  rw [hes]
  cases b
  ·
   have h1 : v < 4 := h1
   show Rch (exEs false) true 3 v
   have s3 : Rch (exEs false) true 3 3 := .refl
   have s1 : Rch (exEs false) true 3 1 := .step s3 ⟨⟨1, 2, 1, 2, 3, false⟩, by decide, rfl, rfl⟩
   have s2 : Rch (exEs false) true 3 2 := .step s3 ⟨⟨2, 2, 1, 3, 3, false⟩, by decide, rfl, rfl⟩
   have s0 : Rch (exEs false) true 3 0 := .step s1 ⟨⟨0, 0, 1, 0, 1, false⟩, by decide, rfl, rfl⟩
   have : v = 0 \/ v = 1 \/ v = 2 \/ v = 3 := by omega
   rcases this with rfl | rfl | rfl | rfl <;> assumption
  ·
   have h1 : v < 6 := h1
   show Rch (exEs true) true 5 v
   have s5 : Rch (exEs true) true 5 5 := .refl
   have s3 : Rch (exEs true) true 5 3 := .step s5 ⟨⟨3, 2, 1, 2, 5, false⟩, by decide, rfl, rfl⟩
   have s4 : Rch (exEs true) true 5 4 := .step s5 ⟨⟨4, 2, 1, 3, 5, false⟩, by decide, rfl, rfl⟩
   have s1 : Rch (exEs true) true 5 1 := .step s3 ⟨⟨1, 1, 2, 0, 3, false⟩, by decide, rfl, rfl⟩
   have s2 : Rch (exEs true) true 5 2 := .step s4 ⟨⟨2, 1, 2, 1, 4, false⟩, by decide, rfl, rfl⟩
   have s0 : Rch (exEs true) true 5 0 := .step s1 ⟨⟨0, 0, 1, 0, 1, false⟩, by decide, rfl, rfl⟩
   have : v = 0 \/ v = 1 \/ v = 2 \/ v = 3 \/ v = 4 \/ v = 5 := by omega
   rcases this with rfl | rfl | rfl | rfl | rfl | rfl <;> assumption
end Go.VC
end

section
namespace Go.VC
open Go.Proofs

def W66 (p0_1 : ByteArray) (p0_2 p0_3 : Sl) (p0_4 p0_5 p0_6 : Int) (p0_7 p0_8 : Sl) (h : Heap) (R : Value -> Heap -> Prop) : Prop :=
 (Wn h (L1 p0_1 p0_2 p0_3 p0_4 p0_5 p0_6 p0_7 p0_8) 59 fun h9 =>
 (∃ x10, rS h9 (aS h 6) x10 /\
 (sB (decide ((x10.n : Int) <= 50))
 ((∃ x11, rS h9 (aS h 1) x11 /\
 (sB (decide ((x11.n : Int) <= 6))
 ((∃ x12, rS h9 (aS h 2) x12 /\
 (sB (decide ((x12.n : Int) <= 40))
 ((∃ x13, rS h9 (aS h 7) x13 /\
 R (.bool (decide ((x13.n : Int) <= 50))) h9))
 (R (.bool false) h9))))
 (R (.bool false) h9))))
 (R (.bool false) h9))))
theorem vc66 (p0_1 : ByteArray) (p0_2 p0_3 : Sl) (p0_4 p0_5 p0_6 : Int) (p0_7 p0_8 : Sl) (h : Heap) (R : Value -> Heap -> Prop) (H : W66 p0_1 p0_2 p0_3 p0_4 p0_5 p0_6 p0_7 p0_8 h R) : Fn Pz 66 #[.agg ⟨(L1 p0_1 p0_2 p0_3 p0_4 p0_5 p0_6 p0_7 p0_8)⟩] h R := fnI (A := .z) (by kernel_rfl) H

end Go.VC
end

section
/- Contracts of the reference's small functions over machines. -/
namespace Go.VC
open Go.Proofs Go.LexS

end Go.VC
end

section
namespace Go.VC
open Go.Proofs

def W48 (p0 : Addr) (p1 : Int) (p2_1 : Bool) (p2_2 p2_3 : Int) (h : Heap) (R : Value -> Heap -> Prop) : Prop :=
 (Wn h [.pointer (some p0)] 74 fun h4 =>
 (Wn h4 (L2 p2_1 p2_2 p2_3) 79 fun h5 =>
 (∃ x6 : Option Addr, hc h5 (aS h 0) = some (.pointer x6) /\
 (NC x6 fun a7 => (∃ x8, rS h5 ⟨a7.block, a7.off + 6, none⟩ x8 /\
 (NB x8.a fun b9 o10 => (Ib p1 x8.n /\
 (∃ x11, rS h5 ⟨b9, o10 + Int.toNat p1 * 1, none⟩ x11 /\
 (∃ x12 x13 x14, aL2 h5 (aS h4 0) x12 x13 x14 /\
 (Fn Pz 102 #[vS x11, .agg ⟨(L2 x12 x13 x14)⟩, .func (.func 103) #[] #[.pointer (some (aS h 0))]] h5
 (fun v15 h18 => ∃ (x16 : Int) (x17 : Bool), v15 = .tuple ⟨[vI x16, .bool x17]⟩ /\
 (sB (!x17)
 (R (vI (-1)) h18)
 ((∃ x19 : Option Addr, hc h18 (aS h 0) = some (.pointer x19) /\
 (NC x19 fun a20 => (∃ x21, rS h18 ⟨a20.block, a20.off + 6, none⟩ x21 /\
 (NB x21.a fun b22 o23 => (Ib p1 x21.n /\
 (∃ x24, rS h18 ⟨b22, o23 + Int.toNat p1 * 1, none⟩ x24 /\
 (NB x24.a fun b25 o26 => (Ib x16 x24.n /\
 (∃ x27, rI h18 ⟨b25, o26 + Int.toNat x16 * 1, none⟩ x27 /\
 R (vI x27) h18))))))))))))))))))))))
theorem vc48 (p0 : Addr) (p1 : Int) (p2_1 : Bool) (p2_2 p2_3 : Int) (h : Heap) (R : Value -> Heap -> Prop) (H : W48 p0 p1 p2_1 p2_2 p2_3 h R) : Fn Pz 48 #[.pointer (some p0), vI p1, .agg ⟨(L2 p2_1 p2_2 p2_3)⟩] h R := fnI (A := .z) (by kernel_rfl) H

def W102 (p0 : Sl) (p1_1 : Bool) (p1_2 p1_3 : Int) (p2 : FuncId) (p2c : Option Addr) (h : Heap) (R : Value -> Heap -> Prop) : Prop :=
 (Wn h (L2 p1_1 p1_2 p1_3) 79 fun h4 =>
 (QII 0 (p0.n : Int) h4 fun I5 i_8 j_9 h10 m7 => (
 (sB (decide (i_8 < j_9))
 ((0 <= (1 : Int) /\ (NB p0.a fun b11 o12 => ((0 <= ((IntKind.wrap .i64 (shrI .u64 (IntKind.wrap .u64 (IntKind.wrap .i64 (i_8 + j_9))) 1)) : Int) /\ ((IntKind.wrap .i64 (shrI .u64 (IntKind.wrap .u64 (IntKind.wrap .i64 (i_8 + j_9))) 1)) : Int) < (p0.n : Nat)) /\
 (∃ x13, rI h10 ⟨b11, o12 + Int.toNat (IntKind.wrap .i64 (shrI .u64 (IntKind.wrap .u64 (IntKind.wrap .i64 (i_8 + j_9))) 1)) * 1, none⟩ x13 /\
 (∃ x14 x15 x16, aL2 h10 (aS h 0) x14 x15 x16 /\
 (bif callable Pz p2 then Fn Pz p2 #[vI x13, .agg ⟨(L2 x14 x15 x16)⟩, .pointer p2c] h10
 (fun v17 h19 => ∃ x18, iI v17 x18 /\
 (sB (decide (x18 < 0))
 ((∃ m20, m20 < m7 /\ I5 (IntKind.wrap .i64 ((IntKind.wrap .i64 (shrI .u64 (IntKind.wrap .u64 (IntKind.wrap .i64 (i_8 + j_9))) 1)) + 1)) j_9 h19 m20))
 ((∃ m21, m21 < m7 /\ I5 i_8 (IntKind.wrap .i64 (shrI .u64 (IntKind.wrap .u64 (IntKind.wrap .i64 (i_8 + j_9))) 1)) h19 m21)))) else ExtW Pz p2 #[vI x13, .agg ⟨(L2 x14 x15 x16)⟩, .pointer p2c] h10
 (fun v17 h19 => ∃ x18, iI v17 x18 /\
 (sB (decide (x18 < 0))
 ((∃ m20, m20 < m7 /\ I5 (IntKind.wrap .i64 ((IntKind.wrap .i64 (shrI .u64 (IntKind.wrap .u64 (IntKind.wrap .i64 (i_8 + j_9))) 1)) + 1)) j_9 h19 m20))
 ((∃ m21, m21 < m7 /\ I5 i_8 (IntKind.wrap .i64 (shrI .u64 (IntKind.wrap .u64 (IntKind.wrap .i64 (i_8 + j_9))) 1)) h19 m21)))))))))))
 ((sB (decide (i_8 < (p0.n : Int)))
 ((NB p0.a fun b22 o23 => (Ib i_8 p0.n /\
 (∃ x24, rI h10 ⟨b22, o23 + Int.toNat i_8 * 1, none⟩ x24 /\
 (∃ x25 x26 x27, aL2 h10 (aS h 0) x25 x26 x27 /\
 (bif callable Pz p2 then Fn Pz p2 #[vI x24, .agg ⟨(L2 x25 x26 x27)⟩, .pointer p2c] h10
 (fun v28 h30 => ∃ x29, iI v28 x29 /\
 R (.tuple ⟨[vI i_8, .bool (x29 == 0)]⟩) h30) else ExtW Pz p2 #[vI x24, .agg ⟨(L2 x25 x26 x27)⟩, .pointer p2c] h10
 (fun v28 h30 => ∃ x29, iI v28 x29 /\
 R (.tuple ⟨[vI i_8, .bool (x29 == 0)]⟩) h30)))))))
 (R (.tuple ⟨[vI i_8, .bool false]⟩) h10)))))))
theorem vc102 (p0 : Sl) (p1_1 : Bool) (p1_2 p1_3 : Int) (p2 : FuncId) (p2c : Option Addr) (h : Heap) (R : Value -> Heap -> Prop) (H : W102 p0 p1_1 p1_2 p1_3 p2 p2c h R) : Fn Pz 102 #[vS p0, .agg ⟨(L2 p1_1 p1_2 p1_3)⟩, .func (.func p2) #[] #[.pointer p2c]] h R := fnI (A := (.s .z (.s .z (.s .z (.s (.b (.l [(9, .one (.int .i64)), (10, .one (.int .i64))] .z)) .z))))) (by kernel_rfl) H

def W103 (p0 : Int) (p1_1 : Bool) (p1_2 p1_3 : Int) (c0 : Addr) (h : Heap) (R : Value -> Heap -> Prop) : Prop :=
 (Wn h (L2 p1_1 p1_2 p1_3) 79 fun h4 =>
 (∃ x5 : Option Addr, hc h4 c0 = some (.pointer x5) /\
 (NC x5 fun a6 => (∃ x7, rS h4 ⟨a6.block, a6.off + 4, none⟩ x7 /\
 (NB x7.a fun b8 o9 => (Ib p0 x7.n /\
 (∃ x10 x11 x12 x13 x14 x15, aL3 h4 ⟨b8, o9 + Int.toNat p0 * 6, none⟩ x10 x11 x12 x13 x14 x15 /\
 (∃ x16 x17 x18, aL2 h4 (aS h 0) x16 x17 x18 /\
 (Fn Pz 63 #[.agg ⟨(L3 x10 x11 x12 x13 x14 x15)⟩] h4
 (fun v19 h23 => ∃ (x20 : Bool) (x21 x22 : Int), v19 = .agg ⟨(L2 x20 x21 x22)⟩ /\
 (Sm [(aS h 0)] h4 h23 /\
 (Fn Pz 104 #[.agg ⟨(L2 x20 x21 x22)⟩, .agg ⟨(L2 x16 x17 x18)⟩] h23
 (fun v24 h26 => ∃ x25, iI v24 x25 /\
 R (vI x25) h26)))))))))))))
theorem vc103 (p0 : Int) (p1_1 : Bool) (p1_2 p1_3 : Int) (c0 : Addr) (h : Heap) (R : Value -> Heap -> Prop) (H : W103 p0 p1_1 p1_2 p1_3 c0 h R) : Fn Pz 103 #[vI p0, .agg ⟨(L2 p1_1 p1_2 p1_3)⟩, .pointer (some c0)] h R := fnI (A := .z) (by kernel_rfl) H

def W14 (p0_1 p0_2 p0_3 : Int) (p0_4 p0_5 p0_6 p1 : Sl) (h : Heap) (R : Value -> Heap -> Prop) : Prop :=
 (Wn h (L0 p0_1 p0_2 p0_3 p0_4 p0_5 p0_6) 26 fun h7 =>
 (∃ x8 x9 x10 x11 x12 x13, aL0 h7 (aS h 0) x8 x9 x10 x11 x12 x13 /\
 (Fn Pz 47 #[.agg ⟨(L0 x8 x9 x10 x11 x12 x13)⟩] h7
 (fun v14 h17 => ∃ x15 : Option Addr, ∃ x16 : Bool, v14 = .tuple ⟨[.pointer x15, .bool x16]⟩ /\
 (sB (!x16)
 (R (.tuple ⟨[vI 0, vI 0, vI 1]⟩) h17)
 ((∃ x18, rI h17 (aS h 2) x18 /\
 (QII x18 0 h17 fun I19 at_22 x_23 h24 m21 => (
 (sB (decide (x_23 < (p1.n : Int)))
 ((NB p1.a fun b25 o26 => (Ib x_23 p1.n /\
 (∃ x27 x28 x29 x30 x31, aL9 h24 ⟨b25, o26 + Int.toNat x_23 * 5, none⟩ x27 x28 x29 x30 x31 /\
 (Wn h24 [vI 0, .bool false, vI 0, vI 0, .slice none 0 0] 37 fun h32 =>
 (Wp h32 (aS h24 0) 5 (L9 x27 x28 x29 x30 x31) fun h33 =>
 (∃ J34 : Int -> Heap -> Prop,
 ((∃ x35, rI h33 (aS h24 0) x35 /\
 (∃ x36, rI h33 (aS h 0) x36 /\
 (sB (x35 == x36)
 ((∃ x37, rB h33 (aS h24 1) x37 /\
 (∃ x38, rI h33 (aS h24 2) x38 /\
 (∃ x39, rI h33 (aS h24 3) x39 /\
 (Fn Pz 48 #[.pointer x15, vI at_22, .agg ⟨(L2 x37 x38 x39)⟩] h33
 (fun v40 h42 => ∃ x41, iI v40 x41 /\
 (J34 x41 h42)))))))
 ((J34 (-1) h33)))))) /\
 (∀ (_ : Env) (k_43 : Int) (h44 : Heap), J34 k_43 h44 ->
 (sB (decide (k_43 < 0))
 (R (.tuple ⟨[vI at_22, vI x_23, vI 23]⟩) h44)
 ((∃ x45, rS h44 (aS h 4) x45 /\
 (NB x45.a fun b46 o47 => (Ib k_43 x45.n /\
 (∃ x48, rI h44 ⟨b46, o47 + Int.toNat k_43 * 6 + 4, none⟩ x48 /\
 (∃ m49, m49 < m21 /\ I19 x48 (IntKind.wrap .i64 (x_23 + 1)) h44 m49)))))))))))))))
 (R (.tuple ⟨[vI at_22, vI (p1.n : Int), vI 0]⟩) h24)))))))))))
theorem vc14 (p0_1 p0_2 p0_3 : Int) (p0_4 p0_5 p0_6 p1 : Sl) (h : Heap) (R : Value -> Heap -> Prop) (H : W14 p0_1 p0_2 p0_3 p0_4 p0_5 p0_6 p1 h R) : Fn Pz 14 #[.agg ⟨(L0 p0_1 p0_2 p0_3 p0_4 p0_5 p0_6)⟩, vS p1] h R := fnI (A := (.s .z (.s .z (.s .z (.s .z (.s (.s .z (.b (.l [(9, .one (.int .i64)), (24, .one (.int .i64))] (.s .z (.s .z (.s (.b (.s .z (.s .z (.j [(12, .one (.int .i64))] .z .z)))) .z)))))) .z)))))) (by kernel_rfl) H

end Go.VC
end

section
/- Contracts: the move of a state with an event; Next and Run. (Numbers of layer 26's seat.) -/
namespace Go.VC
open Go.Proofs Go.LexS
structure Hv where
 role : Int
 send : Bool
 peer : Int
 label : Int
 vs : Sl
def Hv.cs (x : Hv) : List Value := [.int .i64 x.role, .bool x.send, .int .i64 x.peer, .int .i64 x.label, .slice x.vs.a x.vs.n x.vs.c]
def Hv.ev (x : Hv) : Ev := ⟨x.send, x.peer, x.label⟩
def nxE (m : Mch) (s : Int) (e : Ev) : Int := match m.mv.find? fun y => decide (y.f = s /\ y.ev = e) with | some y => y.t | none => -1
def nxH (m : Mch) (s : Int) (x : Hv) : Int := if x.role = m.role then nxE m s x.ev else -1
theorem nxE_none {m : Mch} {s : Int} {e : Ev} (h : ∀ x ∈ m.mv, x.f = s -> x.ev ≠ e) : nxE m s e = -1 := by
 unfold nxE
 have : (m.mv.find? fun y => decide (y.f = s /\ y.ev = e)) = none := by
  rw [List.find?_eq_none]
  intro x hx hd
  have := Yyn hd
  exact h x hx this.1 this.2
 rw [this]
theorem nxE_some {m : Mch} (hD : DetM m) {s : Int} {e : Ev} {k : Nat} {y : Mv} (hk : m.mv[k]? = some y) (hf : y.f = s) (he : y.ev = e) : nxE m s e = y.t := by
 unfold nxE
 cases hq : m.mv.find? fun y => decide (y.f = s /\ y.ev = e) with
 | none =>
  rw [List.find?_eq_none] at hq
  exact absurd (decide_eq_true ⟨hf, he⟩) (hq y (Yb hk))
 | some z =>
  have hz := List.find?_some hq
  obtain ⟨j, hj⟩ := Yf.1 (List.mem_of_find?_eq_some hq)
  have hz2 : z.f = s /\ z.ev = e := Yyn hz
  by_cases e1 : j = k
  ·
   subst e1; rw [hk] at hj; cases hj; rfl
  ·
   exact absurd (hz2.2.trans he.symm) (hD j k z y hj hk e1 (by rw [hz2.1, hf])).1
theorem order103 (m : Mch) (sm : Sl) (b k : Nat) (a : Addr) (x : Mv) (e : Ev) (h : Heap) (ha : hc h a = some (.pointer (some ⟨b, 0, none⟩))) (hb : hc h ⟨b, 0 + 4, none⟩ = some (.slice sm.a sm.n sm.c)) (hr : Rw h 6 sm (m.mv.map Mv.cs)) (hx : m.mv[k]? = some x) :
  Fn Pz 103 #[.int .i64 (k : Nat), .agg ⟨e.cs⟩, .pointer (some a)] h fun v h' => v = .int .i64 (cmpE x.ev e) /\ Ext h h' := by
 apply vc103 _ e.send e.peer e.label; unfold W103
 have hn := hr.ln
 have hxl := (Ya.1 hx).1
 refine (St.refl h).newb fun h4 hs => ?_
 refine ⟨_, hc_ext hs.ext ha, ?_⟩
 refine ⟨sm, hc_ext hs.ext hb, ?_⟩
 refine (hr.ext hs.ext).nbI (by omega) (by omega) fun b8 o9 x' gx t => ?_
 replace gx : m.mv[k]? = some x' := gx
 rw [hx] at gx; cases gx
 refine ⟨_, _, _, _, _, _, t, _, _, _, hs.at 0 rfl (o := 0) (n := 3) rfl, ?_⟩
 refine (M.of63 x h4).mono ?_
 rintro _ h23 ⟨rfl, E⟩
 have hs := hs.step E
 refine ⟨_, _, _, rfl, E.sm, ?_⟩
 refine (M.compare104 x.ev e h23).mono ?_
 rintro _ h26 ⟨rfl, E2⟩
 exact ⟨_, rfl, rfl, (hs.step E2).ext⟩
theorem cal103 : callable Pz 103 = true := by kernel_rfl
theorem mid_nat {i j : Nat} (hi : i <= 1048576) (hj : j <= 1048576) : IntKind.wrap .i64 (shrI .u64 (IntKind.wrap .u64 (IntKind.wrap .i64 ((i : Int) + (j : Int)))) 1) = (((i + j) / 2 : Nat) : Int) := by
 have e1 : IntKind.wrap .i64 ((i : Int) + (j : Int)) = ((i + j : Nat) : Int) := by rw [w64 (by omega) (by omega)]; omega
 have e2 : shrI .u64 ((i + j : Nat) : Int) 1 = (((i + j) / 2 ^ 1 : Nat) : Int) := shr_nat (k := 1) (by decide)
 rw [e1, wu64 (by omega) (by omega), e2, show (2 ^ 1 : Nat) = 2 from rfl, w64 (by omega) (by omega)]
theorem cmpE_zero {x y : Ev} (h : cmpE x y = 0) : x = y := by
 unfold cmpE at h
 split at h
 ·
  split at h <;> omega
 ·
  rename_i hs
  unfold orI3 at h
  split at h
  ·
   rename_i h1; exact absurd h h1
  ·
   rename_i h1
   exact ev_ext (Classical.not_not.1 hs) (cmpI_zero.1 (Classical.not_not.1 h1)) (cmpI_zero.1 h)
theorem search102 (m : Mch) (sm : Sl) (b c : Nat) (l : List Nat) (s : Sl) (e : Ev) (h : Heap) (ha : hc h ⟨c, 0, none⟩ = some (.pointer (some ⟨b, 0, none⟩))) (hb : hc h ⟨b, 0 + 4, none⟩ = some (.slice sm.a sm.n sm.c)) (hr : Rw h 6 sm (m.mv.map Mv.cs))
  (hl : Rw h 1 s ((natI l).map inC)) (hlm : ∀ k ∈ l, ∃ x, m.mv[k]? = some x) (hll : l.length <= 1048576) (hso : ∀ (j i : Nat) (a b : Nat), i < j -> l[i]? = some a -> l[j]? = some b -> evLt (evI m a) (evI m b)) :
  Fn Pz 102 #[.slice s.a s.n s.c, .agg ⟨e.cs⟩, .func (.func 103) #[] #[.pointer (some ⟨c, 0, none⟩)]] h fun v h' => Ext h h' /\ ∃ (i : Int) (f : Bool), v = .tuple ⟨[.int .i64 i, .bool f]⟩ /\ (f = true -> ∃ (j k : Nat), i = (j : Int) /\ l[j]? = some k /\ evI m k = e) /\ (f = false -> ∀ k ∈ l, evI m k ≠ e) := by
 apply vc102 s e.send e.peer e.label 103 (some ⟨c, 0, none⟩); unfold W102
 have hn := hl.ln
 rw [show (natI l).length = l.length from Yc _] at hn
 refine (St.refl h).newb fun h4 hs => ?_
 refine ⟨fun x y h' μ => ∃ i j : Nat, x = i /\ y = j /\ i <= j /\ j <= s.n /\ μ = j - i /\ St h h' [.blk h.size e.cs 79] /\ (∀ (t : Nat) k, t < i -> l[t]? = some k -> evLt (evI m k) e) /\ ∀ (t : Nat) k, j <= t -> l[t]? = some k -> ¬ evLt (evI m k) e,
  ⟨_, 0, s.n, rfl, rfl, by omega, Yyt _, rfl, hs, fun t k ht => by omega, fun t k ht hk => by have := (Ya.1 hk).1; omega⟩, ?_⟩
 clear hs
 rintro - _ _ h10 μ ⟨i, j, rfl, rfl, hij, hj, rfl, hs, hlo, hhi⟩
 refine sBi (fun c1 => ?_) (fun c1 => ?_)
 ·
  rw [mid_nat (by omega) (by omega)]
  refine ⟨by decide, ?_⟩
  refine (hl.ext hs.ext).nbI (by omega) (by omega) fun b11 o12 d gd t => ?_
  replace gd : (natI l)[(i + j) / 2]? = some d := gd
  obtain ⟨k, hk, rfl⟩ := natI_get gd
  obtain ⟨x, hx⟩ := hlm k (Yb hk)
  refine ⟨_, t.nth 0 rfl, _, _, _, hs.at 0 rfl (o := 0) (n := 3) rfl, ?_⟩
  rw [cal103, cond_true]
  refine (order103 m sm b k ⟨c, 0, none⟩ x e h10 (hc_ext hs.ext ha) (hc_ext hs.ext hb) (hr.ext hs.ext) hx).mono ?_
  rintro _ h19 ⟨rfl, E⟩
  have hs := hs.step E
  have hev : evI m k = x.ev := evI_of hx
  refine ⟨_, rfl, sBi (fun c2 => ?_) (fun c2 => ?_)⟩
  ·
   rw [cmpE_neg] at c2
   refine ⟨_, ?_, (i + j) / 2 + 1, j, by rw [w64 (by omega) (by omega)]; omega, rfl, by omega, hj, rfl, hs, fun t k' ht hk' => ?_, hhi⟩
   ·
    omega
   ·
    by_cases et : t = (i + j) / 2
    ·
     subst et; rw [hk] at hk'; cases hk'; rw [hev]; exact c2
    ·
     have h1 := hso ((i + j) / 2) t k' k (by omega) hk' hk
     rw [hev] at h1
     exact evLt_trans h1 c2
  ·
   rw [cmpE_neg] at c2
   refine ⟨_, ?_, i, (i + j) / 2, rfl, rfl, by omega, by omega, rfl, hs, hlo, fun t k' ht hk' => ?_⟩
   ·
    omega
   ·
    by_cases et : t = (i + j) / 2
    ·
     subst et; rw [hk] at hk'; cases hk'; rw [hev]; exact c2
    ·
     have h1 := hso t ((i + j) / 2) k k' (by omega) hk hk'
     rw [hev] at h1
     exact fun h2 => c2 (evLt_trans h1 h2)
 ·
  have hijj : i = j := by omega
  subst hijj
  refine sBi (fun c2 => ?_) (fun c2 => ⟨hs.ext, _, false, rfl, (fun hf => by cases hf), fun _ k hk he => ?_⟩)
  ·
   refine (hl.ext hs.ext).nbI (by omega) (by omega) fun b22 o23 d gd t => ?_
   replace gd : (natI l)[i]? = some d := gd
   obtain ⟨k, hk, rfl⟩ := natI_get gd
   obtain ⟨x, hx⟩ := hlm k (Yb hk)
   refine ⟨_, t.nth 0 rfl, _, _, _, hs.at 0 rfl (o := 0) (n := 3) rfl, ?_⟩
   rw [cal103, cond_true]
   refine (order103 m sm b k ⟨c, 0, none⟩ x e h10 (hc_ext hs.ext ha) (hc_ext hs.ext hb) (hr.ext hs.ext) hx).mono ?_
   rintro _ h30 ⟨rfl, E⟩
   have hev : evI m k = x.ev := evI_of hx
   refine ⟨_, rfl, (hs.step E).ext, _, _, rfl, fun hf => ⟨i, k, rfl, hk, ?_⟩, fun hf k' hk' he => ?_⟩
   ·
    have h0 : cmpE x.ev e = 0 := by simpa using hf
    rw [hev]
    exact cmpE_zero h0
   ·
    have h0 : cmpE x.ev e ≠ 0 := by simpa using hf
    obtain ⟨t, ht⟩ := Yf.1 hk'
    rcases Nat.lt_trichotomy t i with h1 | h1 | h1
    ·
     have := hlo t k' h1 ht
     rw [he] at this
     exact evLt_irr _ this
    ·
     subst h1
     rw [hk] at ht; cases ht
     rw [hev] at he
     apply h0
     rw [he]
     unfold cmpE orI3 cmpI
     simp
    ·
     have h2 := hso t i k k' h1 hk ht
     rw [he, hev] at h2
     exact hhi i k (Yyt _) hk (by rw [hev]; exact h2)
  ·
   obtain ⟨t, ht⟩ := Yf.1 hk
   have htl := (Ya.1 ht).1
   have := hlo t k (by omega) ht
   rw [he] at this
   exact evLt_irr _ this
theorem find48 (m : Mch) (sf sm sl : Sl) (b : Nat) (S : Nat -> List Nat) (s : Int) (e : Ev) (h : Heap) (hM : MI h m sf sm sl) (hV : VM m) (hT : TbI h ⟨b, 0, none⟩ m sf sm sl S) (h0 : 0 <= s) (h1 : s < m.n) :
  Fn Pz 48 #[.pointer (some ⟨b, 0, none⟩), .int .i64 s, .agg ⟨e.cs⟩] h fun v h' => Ext h h' /\ ((v = .int .i64 (-1) /\ nxE m s e = -1) \/ ∃ (k : Nat) (y : Mv), v = .int .i64 (k : Nat) /\ m.mv[k]? = some y /\ nxE m s e = y.t) := by
 apply vc48 ⟨b, 0, none⟩ s e.send e.peer e.label; unfold W48
 obtain ⟨ho, qs, _, hat, hhn, hho, hqs⟩ := hT.ex
 have hmn := hM.pm.ln
 have hmm := hM.pm.sm
 have hvl : s.toNat < m.n.toNat := by omega
 have hS := hT.so s.toNat hvl
 have hrow := hqs s.toNat hvl
 have hsi : ((s.toNat : Nat) : Int) = s := by omega
 refine (St.refl h).newb fun h4 hs => ?_
 refine hs.newb fun h5 hs => ?_
 refine ⟨_, hs.rd 1 rfl rfl, ?_⟩
 refine ⟨ho, (atC_ext hs.ext hat).nth 6 rfl, ?_⟩
 refine (hho.ext hs.ext).nbI (by omega) (by omega) fun b9 o10 v gv t => ?_
 have hv : v = s.toNat := by rw [Yyb hvl] at gv; exact (Yyp gv).symm
 subst hv
 have hlm : ∀ k ∈ S s.toNat, ∃ x, m.mv[k]? = some x /\ x.f = s := fun k hk => by
  obtain ⟨x, hx, hf⟩ := outIx_mem.1 (hS.p.mem_iff.1 hk)
  exact ⟨x, hx, by omega⟩
 have hll : (S s.toNat).length <= 1048576 := by
  rw [hS.p.length_eq]
  unfold outIx
  exact Yys (List.length_filter_le _ _) (by rw [Yyd]; omega)
 have hnd := hS.p.nodup_iff.2 (outIx_nodup m ((s.toNat : Nat) : Int))
 have hso : ∀ (j i : Nat) (a b : Nat), i < j -> (S s.toNat)[i]? = some a -> (S s.toNat)[j]? = some b -> evLt (evI m a) (evI m b) := by
  refine srt_lt hS fun j a b ha hb => ?_
  obtain ⟨x, hx, hxf⟩ := hlm a (Yb ha)
  obtain ⟨y, hy, hyf⟩ := hlm b (Yb hb)
  have hne : a ≠ b := fun e => by
   have h1 := (Ya.1 ha)
   have h2 := (Ya.1 hb)
   have h3 := (List.pairwise_iff_getElem.1 hnd) j (j + 1) h1.1 h2.1 (by omega)
   rw [h1.2, h2.2] at h3
   exact h3 e
  rw [evI_of hx, evI_of hy]
  exact (hV.d a b x y hx hy hne (by omega)).1
 refine ⟨_, t.hd, _, _, _, hs.at 0 rfl (o := 0) (n := 3) rfl, ?_⟩
 refine (search102 m sm b h.size (S s.toNat) (qs s.toNat) e h5 (hs.rd 1 rfl rfl) ((atC_ext hs.ext hat).nth 4 rfl) (hM.pm.rw.ext hs.ext) (hrow.ext hs.ext) (fun k hk => (hlm k hk).imp fun x hx => hx.1) hll hso).mono ?_
 rintro _ h18 ⟨E, i, f, rfl, hft, hff⟩
 have hs := hs.step E
 refine ⟨_, _, rfl, sB_intro (fun c => ?_) (fun c => ?_)⟩
 ·
  refine ⟨hs.ext, .inl ⟨rfl, nxE_none fun x hx hxf => ?_⟩⟩
  obtain ⟨k, hk⟩ := Yf.1 hx
  have := hff (bF c) k (hS.p.mem_iff.2 (outIx_mem.2 ⟨x, hk, by omega⟩))
  rwa [evI_of hk] at this
 ·
  obtain ⟨j, k, rfl, hjk, hev⟩ := hft (bT c)
  obtain ⟨x, hx, hxf⟩ := hlm k (Yb hjk)
  have hjl := (Ya.1 hjk).1
  refine ⟨_, hs.rd 1 rfl rfl, ho, (atC_ext hs.ext hat).nth 6 rfl, ?_⟩
  refine (hho.ext hs.ext).nbI (by omega) (by omega) fun b22 o23 v gv t => ?_
  have hv : v = s.toNat := by rw [Yyb hvl] at gv; exact (Yyp gv).symm
  subst hv
  have hrn := hrow.ln
  rw [show (natI (S s.toNat)).length = (S s.toNat).length from Yc _] at hrn
  refine ⟨_, t.hd, ?_⟩
  refine (hrow.ext hs.ext).nbI (by omega) (by omega) fun b25 o26 d gd t2 => ?_
  replace gd : (natI (S s.toNat))[j]? = some d := gd
  obtain ⟨k', hk', rfl⟩ := natI_get gd
  rw [hjk] at hk'; cases hk'
  refine ⟨_, t2.nth 0 rfl, hs.ext, .inr ⟨k, x, rfl, hx, nxE_some hV.d hx hxf ?_⟩⟩
  rw [<- evI_of hx]; exact hev
def runN (m : Mch) : Int -> Nat -> List Hv -> Int × Nat × Int
 | s, i, [] => (s, i, 0)
 | s, i, x :: l => if 0 <= nxH m s x then runN m (nxH m s x) (i + 1) l else (s, i, 23)
def runV (r : Int × Nat × Int) : Value := .tuple ⟨[.int .i64 r.1, .int .i64 (r.2.1 : Nat), .int .i64 r.2.2]⟩
theorem newput' {h0 h : Heap} {L : List It} {zs vs : List Value} {e : TypeId} {K : Heap -> Prop} {n : Nat} (hn : n = vs.length) (hl : zs.length = vs.length) (hs : St h0 h L) (hK : ∀ h3, Ext h h3 -> St h0 h3 (.blk h.size vs e :: L) -> K h3) :
  ∀ h2 : Heap, h2 = h.push (.cells ⟨zs⟩ e) -> okAt h2 ⟨h.size, 0, none⟩ n /\ ∀ h3 : Heap, h3 = hputs h2 ⟨h.size, 0, none⟩ 0 vs -> K h3 := by
 subst hn
 exact VC.newput hl fun h3 E o => hK h3 E (hs.more E (i := .blk h.size vs e) o fun b hb => by cases hb; exact Yyt _)
open Classical in
theorem run14 (m : Mch) (sf sm sl : Sl) (L : List Hv) (s : Sl) (h : Heap) (hM : MI h m sf sm sl) (hL : Rw h 5 s (L.map Hv.cs)) (hLm : L.length <= 1048576) :
  Fn Pz 14 #[.agg ⟨mC m sf sm sl⟩, .slice s.a s.n s.c] h fun v h' => v = runV (if VM m then runN m m.s 0 L else (0, 0, 1)) /\ Ext h h' := by
 apply vc14 m.role m.n m.s sf sm sl; unfold W14
 have hmn := hM.pm.ln
 have hsn := hL.ln
 refine (St.refl h).newb fun h7 hs => ?_
 refine ⟨_, _, _, sf, sm, sl, hs.at 0 rfl (o := 0) (n := 6) rfl, ?_⟩
 refine (open47 m sf sm sl h7 (hM.ext hs.ext)).mono ?_
 rintro _ h17 ⟨E, p, b, rfl, hb, hbT⟩
 have hs := hs.step E
 refine ⟨_, _, rfl, sB_intro (fun c => ⟨by rw [if_neg (iff_f hb (bF c))]; rfl, hs.ext⟩) (fun c => ?_)⟩
 obtain ⟨b0, S, rfl, hT⟩ := hbT (bT c)
 have hV := hb.1 (bT c)
 rw [if_pos hV]
 have hms := hV.n.s
 refine ⟨_, hs.rd 0 rfl rfl, ?_⟩
 refine ⟨fun a x h' μ => ∃ i : Nat, x = i /\ i <= s.n /\ μ = s.n - i /\ 0 <= a /\ a < m.n /\ runN m m.s 0 L = runN m a i (L.drop i) /\ St h h' [.blk h.size (mC m sf sm sl) 26] /\ TbI h' ⟨b0, 0, none⟩ m sf sm sl S, ⟨_, 0, rfl, by omega, rfl, hms.1, hms.2, rfl, hs, hT⟩, ?_⟩
 clear hs hT
 rintro - a _ h24 μ ⟨i, rfl, hi, rfl, ha0, ha1, hrun, hs, hT⟩
 refine sB_intro (fun c1 => ?_) (fun c1 => ?_)
 ·
  replace c1 := lt_t c1
  refine (hL.ext hs.ext).nbI (by omega) (by omega) fun b25 o26 x gx t => ?_
  replace gx : L[i]? = some x := gx
  have hdr : L.drop i = x :: L.drop (i + 1) := drop_get gx
  rw [hdr, runN] at hrun
  refine ⟨_, _, _, _, _, t, ?_⟩
  refine newput' (vs := x.cs) rfl rfl hs fun h33 E33 hs => ?_
  have hT := hT.ext E33
  refine ⟨fun k h' => St h h' [.blk h24.size x.cs 37, .blk h.size (mC m sf sm sl) 26] /\ TbI h' ⟨b0, 0, none⟩ m sf sm sl S /\ ((k = -1 /\ nxH m a x = -1) \/ ∃ (kn : Nat) (y : Mv), k = (kn : Int) /\ m.mv[kn]? = some y /\ nxH m a x = y.t), ?_, ?_⟩
  ·
   refine ⟨_, hs.rd 0 rfl rfl, _, hs.rd 1 rfl rfl, sBe (fun c2 => ?_) (fun c2 => ?_)⟩
   ·
    refine ⟨_, hs.rd 0 rfl rfl, _, hs.rd 0 rfl rfl, _, hs.rd 0 rfl rfl, ?_⟩
    refine (find48 m sf sm sl b0 S a x.ev h33 (hM.ext hs.ext) hV hT ha0 ha1).mono ?_
    rintro _ h42 ⟨E, hr⟩
    have hnx : nxH m a x = nxE m a x.ev := by unfold nxH; rw [if_pos c2]
    rcases hr with ⟨rfl, hn⟩ | ⟨k, y, rfl, hy, hn⟩
    ·
     exact ⟨_, rfl, hs.step E, hT.ext E, .inl ⟨rfl, by rw [hnx, hn]⟩⟩
    ·
     exact ⟨_, rfl, hs.step E, hT.ext E, .inr ⟨k, y, rfl, hy, by rw [hnx, hn]⟩⟩
   ·
    exact ⟨hs, hT, .inl ⟨rfl, by unfold nxH; rw [if_neg c2]⟩⟩
  ·
   clear hs hT
   rintro - k h44 ⟨hs, hT, hk⟩
   rcases hk with ⟨rfl, hn⟩ | ⟨kn, y, rfl, hy, hn⟩
   ·
    refine sBi (fun _ => ⟨?_, hs.ext⟩) (fun c3 => absurd (by decide) c3)
    rw [hrun, if_neg (by omega)]; rfl
   ·
    have hyl := (Ya.1 hy).1
    have hyr := hV.n.mv y (Yb hy)
    refine sBi (fun c3 => by omega) (fun _ => ?_)
    refine ⟨sm, hs.rd 1 rfl rfl, ?_⟩
    refine (hM.pm.rw.ext hs.ext).nbI (by omega) (by omega) fun b46 o47 y' gy t2 => ?_
    replace gy : m.mv[kn]? = some y' := gy
    rw [hy] at gy; cases gy
    refine ⟨_, t2.nth 4 rfl, s.n - (i + 1), by omega, i + 1, by rw [w64 (by omega) (by omega)]; omega, by omega, rfl, by omega, by omega, ?_, hs.drop 1, hT⟩
    rw [hrun, if_pos (by omega), hn]
 ·
  replace c1 := lt_f c1
  have his : i = s.n := by omega
  subst his
  refine ⟨?_, hs.ext⟩
  rw [hrun, List.drop_eq_nil_of_le (by omega)]; rfl
end Go.VC
end

section
/- Contract: the laws of layer 26 are awake. -/
namespace Go.VC
open Go.Proofs Go.LexS
def exM : Mch := ⟨2, 4, 0, [false, false, false, true], [⟨0, false, 1, 0, 1, false⟩, ⟨0, false, 1, 1, 2, false⟩, ⟨1, true, 1, 2, 3, false⟩, ⟨2, true, 1, 3, 3, false⟩], []⟩
theorem ex_raw_true (hr hd he ht : Sl) : rawC (exGl true hr hd he ht) 2 = some (some exM, 0) := by kernel_rfl
theorem ex_min : minF exM = exM := by kernel_rfl
theorem ex_true (hr hd he ht : Sl) : proj (exGl true hr hd he ht) 2 = (some exM, 0) := by
 have := rawC_ok (ex_valid true hr hd he ht) (by decide) (show (2 : Int) < ((3 : Nat) : Int) by decide) (ex_raw_true hr hd he ht)
 unfold proj
 rw [this]
 show (some (minF exM), 0) = _
 rw [ex_min]
theorem exM_get (i : Nat) (x : Mv) (h : exM.mv[i]? = some x) : (i = 0 /\ x = ⟨0, false, 1, 0, 1, false⟩) \/ (i = 1 /\ x = ⟨0, false, 1, 1, 2, false⟩) \/ (i = 2 /\ x = ⟨1, true, 1, 2, 3, false⟩) \/ (i = 3 /\ x = ⟨2, true, 1, 3, 3, false⟩) := by
 match i, h with
 | 0, h => exact .inl ⟨rfl, (Yyp h).symm⟩
 | 1, h => exact .inr (.inl ⟨rfl, (Yyp h).symm⟩)
 | 2, h => exact .inr (.inr (.inl ⟨rfl, (Yyp h).symm⟩))
 | 3, h => exact .inr (.inr (.inr ⟨rfl, (Yyp h).symm⟩))
 | n + 4, h => exact absurd h (by simp [exM])
theorem exM_mem (x : Mv) (h : x ∈ exM.mv) : x = ⟨0, false, 1, 0, 1, false⟩ \/ x = ⟨0, false, 1, 1, 2, false⟩ \/ x = ⟨1, true, 1, 2, 3, false⟩ \/ x = ⟨2, true, 1, 3, 3, false⟩ := by
 obtain ⟨i, hi⟩ := Yf.1 h
 rcases exM_get i x hi with ⟨_, e⟩ | ⟨_, e⟩ | ⟨_, e⟩ | ⟨_, e⟩
 ·
  exact .inl e
 ·
  exact .inr (.inl e)
 ·
  exact .inr (.inr (.inl e))
 ·
  exact .inr (.inr (.inr e))
theorem exM_ag (x : Mv) (h : x ∈ exM.mv) : x.ag = false := by
 rcases exM_mem x h with rfl | rfl | rfl | rfl <;> rfl
theorem exVM : VM exM := by
 refine ⟨⟨⟨by decide, by decide⟩, ⟨by decide, by decide⟩, ⟨by decide, by decide⟩, rfl, by decide, fun x hx => ?_⟩, fun i k x y hx hy hne hf => ?_, fun v h0 h1 => ?_, ⟨fun x hx ha => ?_, fun x hx ha => ?_, fun x hx ha => ?_, fun x hx ha => ?_, fun x hx ha => ?_⟩, fun i t h => ?_⟩
 ·
  rcases exM_mem x hx with rfl | rfl | rfl | rfl <;> decide
 ·
  rcases exM_get i x hx with ⟨rfl, rfl⟩ | ⟨rfl, rfl⟩ | ⟨rfl, rfl⟩ | ⟨rfl, rfl⟩ <;> rcases exM_get k y hy with ⟨rfl, rfl⟩ | ⟨rfl, rfl⟩ | ⟨rfl, rfl⟩ | ⟨rfl, rfl⟩ <;> first
   | exact absurd rfl hne
   | exact absurd hf (by decide)
   | exact ⟨fun e => absurd (congrArg Ev.label e) (by decide), rfl⟩
 ·
  have q0 : Qr (meds exM) (-1) [exM.s] 0 := .base (Ye.2 rfl)
  have q1 : Qr (meds exM) (-1) [exM.s] 1 := .step q0 ⟨⟨0, 0, 0, 0, 1, false⟩, Yp.2 ⟨⟨0, false, 1, 0, 1, false⟩, by simp [exM], rfl⟩, rfl, rfl, rfl⟩
  have q2 : Qr (meds exM) (-1) [exM.s] 2 := .step q0 ⟨⟨0, 0, 0, 0, 2, false⟩, Yp.2 ⟨⟨0, false, 1, 1, 2, false⟩, by simp [exM], rfl⟩, rfl, rfl, rfl⟩
  have q3 : Qr (meds exM) (-1) [exM.s] 3 := .step q1 ⟨⟨1, 0, 0, 0, 3, false⟩, Yp.2 ⟨⟨1, true, 1, 2, 3, false⟩, by simp [exM], rfl⟩, rfl, rfl, rfl⟩
  have h1 : v < 4 := h1
  have : v = 0 \/ v = 1 \/ v = 2 \/ v = 3 := by omega
  rcases this with rfl | rfl | rfl | rfl
  ·
   exact q0
  ·
   exact q1
  ·
   exact q2
  ·
   exact q3
 ·
  rw [exM_ag x hx] at ha; cases ha
 ·
  rw [exM_ag x hx] at ha; cases ha
 ·
  rw [exM_ag x hx] at ha; cases ha
 ·
  rw [exM_ag x hx] at ha; cases ha
 ·
  rw [exM_ag x hx] at ha; cases ha
 ·
  simp [exM] at h
def evA (l : Int) : Hv := ⟨2, false, 1, l, ⟨none, 0, 0⟩⟩
def evB : Hv := ⟨2, true, 1, 2, ⟨none, 0, 0⟩⟩
theorem ex_run0 : runN exM exM.s 0 [evA 0, evB] = (3, 2, 0) := by kernel_rfl
theorem ex_run1 : runN exM exM.s 0 [evA 1, evB] = (2, 1, 23) := by kernel_rfl
theorem hvrows (L : List Hv) : ∀ r ∈ L.map Hv.cs, r.length = 5 := fun r hr => by obtain ⟨x, _, rfl⟩ := Yp.1 hr; rfl
set_option maxHeartbeats 1600000 in
theorem awake12 (h : Heap) (hx : Gx h) : Fn Pz 12 #[] h fun v h' => v = .bool true /\ Ext h h' := by
 apply vc12; unfold W12
 have hs := St.refl h
 refine (example34 true h).mono ?_
 rintro _ h10 ⟨E10, hr, hd, he, rfl, hg⟩
 refine ⟨_, hr, hd, _, _, _, he, ⟨none, 0, 0⟩, rfl, ?_⟩
 refine (project12 _ 2 h10 hg (hx.ext E10)).mono ?_
 rintro _ h19 ⟨E19, hm⟩
 rw [ex_true] at hm
 cases hm with
 | err he0 _ => cases he0
 | @ok m sf sm sl he0 hs2 =>
  cases he0
  have hM : MI h19 exM sf sm sl := ⟨hs2.rl 0 rfl (by omega) (by decide), hs2.rl 1 rfl (by omega) (by decide), hs2.rl 2 rfl (by omega) (by decide)⟩
  have E0 : Ext h h19 := E10.trans E19
  refine ⟨_, _, _, sf, sm, sl, 0, rfl, ?_⟩
  refine (St.refl h19).newput (vs := mC exM sf sm sl) rfl rfl fun h21 hs => ?_
  refine hs.newb fun h22 hs => ?_
  refine hs.newb fun h23 hs => ?_
  refine hs.put 1 rfl (o := 0) (vs := (evA 0).cs) rfl (show 5 <= 5 by decide) fun h24 hs => ?_
  refine hs.put 0 rfl (o := 0) (vs := evB.cs) rfl (show 5 <= 5 by decide) fun h25 hs => ?_
  refine ⟨_, _, _, sf, sm, sl, hs.at 2 rfl (o := 0) (n := 6) rfl, _, _, _, _, ⟨none, 0, 0⟩, hs.at 1 rfl (o := 0) (n := 5) rfl, _, _, _, _, ⟨none, 0, 0⟩, hs.at 0 rfl (o := 0) (n := 5) rfl, ?_⟩
  refine hs.newb fun h42 hs => ?_
  have hs := hs.blkS 2 5 ([evA 0, evB].map Hv.cs) rfl (hvrows _) rfl (by decide)
  refine (run14 exM sf sm sl [evA 0, evB] _ h42 (hM.ext hs.ext) (hs.rows 0 rfl (by omega)) (by decide)).mono ?_
  rintro _ h47 ⟨rfl, E⟩
  have hs := hs.step E
  rw [if_pos exVM, ex_run0]
  refine ⟨_, _, _, rfl, ?_⟩
  refine hs.put 2 rfl (o := 3) (vs := [.int .i64 1]) rfl (show 3 + 1 <= 5 by decide) fun h48 hs => ?_
  refine ⟨_, _, _, sf, sm, sl, hs.at 3 rfl (o := 0) (n := 6) rfl, _, _, _, _, ⟨none, 0, 0⟩, hs.at 2 rfl (o := 0) (n := 5) rfl, _, _, _, _, ⟨none, 0, 0⟩, hs.at 1 rfl (o := 0) (n := 5) rfl, ?_⟩
  refine hs.newb fun h65 hs => ?_
  have hs := hs.blkS 2 5 ([evA 1, evB].map Hv.cs) rfl (hvrows _) rfl (by decide)
  refine (run14 exM sf sm sl [evA 1, evB] _ h65 (hM.ext hs.ext) (hs.rows 0 rfl (by omega)) (by decide)).mono ?_
  rintro _ h70 ⟨rfl, E⟩
  have hs := hs.step E
  rw [if_pos exVM, ex_run1]
  refine ⟨_, _, _, rfl, ?_⟩
  refine sB_t rfl (sB_t rfl (sB_t rfl (sB_t rfl (sB_t rfl ?_))))
  refine ⟨_, _, _, sf, sm, sl, hs.at 4 rfl (o := 0) (n := 6) rfl, ?_⟩
  refine (valid23 exM sf sm sl h70 (hM.ext hs.ext)).mono ?_
  rintro _ h79 ⟨⟨b, rfl, hb⟩, E⟩
  exact ⟨_, rfl, by rw [hb.2 exVM], E0.trans (hs.step E).ext⟩
end Go.VC
end

section
/- The walk of the law of histories step by step. (Numbers of layer 26's seat.) -/
namespace Go.VC
open Go.Proofs Go.LexS
end Go.VC
end

section
namespace Go.VC
open Go.Proofs

def W3 (p0_1 p0_2 p0_3 : Int) (p0_4 p0_5 p0_6 : Sl) (p1_7 p1_8 p1_9 : Int) (p1_10 p1_11 p1_12 p2 : Sl) (h : Heap) (R : Value -> Heap -> Prop) : Prop :=
 (Wn h (L0 p0_1 p0_2 p0_3 p0_4 p0_5 p0_6) 26 fun h13 =>
 (Wn h13 (L0 p1_7 p1_8 p1_9 p1_10 p1_11 p1_12) 26 fun h14 =>
 (Fn Pz 12 #[] h14
 (fun v15 h17 => ∃ x16, iB v15 x16 /\
 (sB (!x16)
 (R (.bool false) h17)
 ((∃ x18 x19 x20 x21 x22 x23, aL0 h17 (aS h 0) x18 x19 x20 x21 x22 x23 /\
 (Fn Pz 13 #[.agg ⟨(L0 x18 x19 x20 x21 x22 x23)⟩] h17
 (fun v24 h26 => ∃ x25, iB v24 x25 /\
 (sB (!x25)
 (R (.bool true) h26)
 ((∃ x27 x28 x29 x30 x31 x32, aL0 h26 (aS h13 0) x27 x28 x29 x30 x31 x32 /\
 (Fn Pz 13 #[.agg ⟨(L0 x27 x28 x29 x30 x31 x32)⟩] h26
 (fun v33 h35 => ∃ x34, iB v33 x34 /\
 (sB (!x34)
 (R (.bool true) h35)
 ((sB (decide ((p2.n : Int) > 30))
 (R (.bool true) h35)
 ((∃ x36 x37 x38 x39 x40 x41, aL0 h35 (aS h 0) x36 x37 x38 x39 x40 x41 /\
 (Fn Pz 14 #[.agg ⟨(L0 x36 x37 x38 x39 x40 x41)⟩, vS p2] h35
 (fun v42 h46 => ∃ (x43 x44 x45 : Int), v42 = .tuple ⟨(L4 x43 x44 x45)⟩ /\
 (∃ x47 x48 x49 x50 x51 x52, aL0 h46 (aS h 0) x47 x48 x49 x50 x51 x52 /\
 (Fn Pz 15 #[.agg ⟨(L0 x47 x48 x49 x50 x51 x52)⟩, vS p2] h46
 (fun v53 h57 => ∃ (x54 x55 x56 : Int), v53 = .tuple ⟨(L4 x54 x55 x56)⟩ /\
 (sB (x43 == x54)
 ((sB (x44 == x55)
 ((sB (x45 == x56)
 ((∃ x58 x59 x60 x61 x62 x63, aL0 h57 (aS h 0) x58 x59 x60 x61 x62 x63 /\
 (∃ x64 x65 x66 x67 x68 x69, aL0 h57 (aS h13 0) x64 x65 x66 x67 x68 x69 /\
 (∃ x70 x71 x72 x73 x74 x75, aL0 h57 (aS h 0) x70 x71 x72 x73 x74 x75 /\
 (∃ x76 x77 x78 x79 x80 x81, aL0 h57 (aS h13 0) x76 x77 x78 x79 x80 x81 /\
 (Fn Pz 16 #[.agg ⟨(L0 x58 x59 x60 x61 x62 x63)⟩, .agg ⟨(L0 x64 x65 x66 x67 x68 x69)⟩] h57
 (fun v82 h84 => ∃ x83, iB v82 x83 /\
 (Sm [(aS h13 0), (aS h 0)] h57 h84 /\
 (Fn Pz 17 #[.agg ⟨(L0 x70 x71 x72 x73 x74 x75)⟩, .agg ⟨(L0 x76 x77 x78 x79 x80 x81)⟩] h84
 (fun v85 h87 => ∃ x86, iB v85 x86 /\
 (Sm [(aS h13 0), (aS h 0)] h84 h87 /\
 (sB (x83 == x86)
 ((∃ x88 x89 x90 x91 x92 x93, aL0 h87 (aS h 0) x88 x89 x90 x91 x92 x93 /\
 (∃ x94 x95 x96 x97 x98 x99, aL0 h87 (aS h 0) x94 x95 x96 x97 x98 x99 /\
 (Fn Pz 16 #[.agg ⟨(L0 x88 x89 x90 x91 x92 x93)⟩, .agg ⟨(L0 x94 x95 x96 x97 x98 x99)⟩] h87
 (fun v100 h102 => ∃ x101, iB v100 x101 /\
 (Sm [(aS h13 0), (aS h 0), (aS h13 0), (aS h 0)] h87 h102 /\
 R (.bool x101) h102))))))
 (R (.bool false) h87)))))))))))))
 (R (.bool false) h57)))
 (R (.bool false) h57)))
 (R (.bool false) h57))))))))))))))))))))))))))
def W16 (p0_1 p0_2 p0_3 : Int) (p0_4 p0_5 p0_6 : Sl) (p1_7 p1_8 p1_9 : Int) (p1_10 p1_11 p1_12 : Sl) (h : Heap) (R : Value -> Heap -> Prop) : Prop :=
 (Wn h (L0 p0_1 p0_2 p0_3 p0_4 p0_5 p0_6) 26 fun h13 =>
 (Wn h13 (L0 p1_7 p1_8 p1_9 p1_10 p1_11 p1_12) 26 fun h14 =>
 (∃ x15, rI h14 (aS h 0) x15 /\
 (∃ x16, rI h14 (aS h13 0) x16 /\
 (sB (x15 == x16)
 ((∃ x17, rI h14 (aS h 1) x17 /\
 (∃ x18, rI h14 (aS h13 1) x18 /\
 (sB (x17 == x18)
 ((∃ x19, rI h14 (aS h 2) x19 /\
 (∃ x20, rI h14 (aS h13 2) x20 /\
 (sB (x19 == x20)
 ((∃ x21, rS h14 (aS h 3) x21 /\
 (∃ x22, rS h14 (aS h13 3) x22 /\
 (Fn Pz 50 #[vS x21, vS x22] h14
 (fun v23 h25 => ∃ x24, iB v23 x24 /\
 (sB x24
 ((∃ x26, rS h25 (aS h 4) x26 /\
 (∃ x27, rS h25 (aS h13 4) x27 /\
 (Fn Pz 51 #[vS x26, vS x27] h25
 (fun v28 h30 => ∃ x29, iB v28 x29 /\
 (sB x29
 ((∃ x31, rS h30 (aS h 5) x31 /\
 (∃ x32, rS h30 (aS h13 5) x32 /\
 (Fn Pz 52 #[vS x31, vS x32] h30
 (fun v33 h35 => ∃ x34, iB v33 x34 /\
 R (.bool x34) h35)))))
 (R (.bool false) h30)))))))
 (R (.bool false) h25)))))))
 (R (.bool false) h14)))))
 (R (.bool false) h14)))))
 (R (.bool false) h14))))))
theorem vc16 (p0_1 p0_2 p0_3 : Int) (p0_4 p0_5 p0_6 : Sl) (p1_7 p1_8 p1_9 : Int) (p1_10 p1_11 p1_12 : Sl) (h : Heap) (R : Value -> Heap -> Prop) (H : W16 p0_1 p0_2 p0_3 p0_4 p0_5 p0_6 p1_7 p1_8 p1_9 p1_10 p1_11 p1_12 h R) : Fn Pz 16 #[.agg ⟨(L0 p0_1 p0_2 p0_3 p0_4 p0_5 p0_6)⟩, .agg ⟨(L0 p1_7 p1_8 p1_9 p1_10 p1_11 p1_12)⟩] h R := fnI (A := .z) (by kernel_rfl) H

end Go.VC
end

section
namespace Go.VC
open Go.Proofs

def W50 (p0 p1 : Sl) (h : Heap) (R : Value -> Heap -> Prop) : Prop :=
 (sB ((p0.n : Int) != (p1.n : Int))
 (R (.bool false) h)
 ((QI 0 h fun I1 x_4 h5 m3 => (
 (sB (decide (x_4 < (p0.n : Int)))
 ((NB p0.a fun b6 o7 => (Ib x_4 p0.n /\
 (∃ x8, rB h5 ⟨b6, o7 + Int.toNat x_4 * 1, none⟩ x8 /\
 (NB p1.a fun b9 o10 => (Ib x_4 p1.n /\
 (∃ x11, rB h5 ⟨b9, o10 + Int.toNat x_4 * 1, none⟩ x11 /\
 (sB (!(x8 == x11))
 (R (.bool false) h5)
 ((∃ m12, m12 < m3 /\ I1 (IntKind.wrap .i64 (x_4 + 1)) h5 m12))))))))))
 (R (.bool true) h5))))))
theorem vc50 (p0 p1 : Sl) (h : Heap) (R : Value -> Heap -> Prop) (H : W50 p0 p1 h R) : Fn Pz 50 #[vS p0, vS p1] h R := fnI (A := (.s .z (.s .z (.s (.s .z (.b (.l [(13, .one (.int .i64))] .z))) .z)))) (by kernel_rfl) H

def W51 (p0 p1 : Sl) (h : Heap) (R : Value -> Heap -> Prop) : Prop :=
 (sB ((p0.n : Int) != (p1.n : Int))
 (R (.bool false) h)
 ((QI 0 h fun I1 x_4 h5 m3 => (
 (sB (decide (x_4 < (p0.n : Int)))
 ((NB p0.a fun b6 o7 => (Ib x_4 p0.n /\
 (∃ x8 x9 x10 x11 x12 x13, aL3 h5 ⟨b6, o7 + Int.toNat x_4 * 6, none⟩ x8 x9 x10 x11 x12 x13 /\
 (NB p1.a fun b14 o15 => (Ib x_4 p1.n /\
 (∃ x16 x17 x18 x19 x20 x21, aL3 h5 ⟨b14, o15 + Int.toNat x_4 * 6, none⟩ x16 x17 x18 x19 x20 x21 /\
 (sB (!((x8 == x16) && ((x9 == x17) && ((x10 == x18) && ((x11 == x19) && ((x12 == x20) && ((x13 == x21) && true)))))))
 (R (.bool false) h5)
 ((∃ m22, m22 < m3 /\ I1 (IntKind.wrap .i64 (x_4 + 1)) h5 m22))))))))))
 (R (.bool true) h5))))))
theorem vc51 (p0 p1 : Sl) (h : Heap) (R : Value -> Heap -> Prop) (H : W51 p0 p1 h R) : Fn Pz 51 #[vS p0, vS p1] h R := fnI (A := (.s .z (.s .z (.s (.s .z (.b (.l [(13, .one (.int .i64))] .z))) .z)))) (by kernel_rfl) H

def W52 (p0 p1 : Sl) (h : Heap) (R : Value -> Heap -> Prop) : Prop :=
 (sB ((p0.n : Int) != (p1.n : Int))
 (R (.bool false) h)
 ((QI 0 h fun I1 x_4 h5 m3 => (
 (sB (decide (x_4 < (p0.n : Int)))
 ((NB p0.a fun b6 o7 => (Ib x_4 p0.n /\
 (∃ x8 x9 x10, aL4 h5 ⟨b6, o7 + Int.toNat x_4 * 3, none⟩ x8 x9 x10 /\
 (NB p1.a fun b11 o12 => (Ib x_4 p1.n /\
 (∃ x13 x14 x15, aL4 h5 ⟨b11, o12 + Int.toNat x_4 * 3, none⟩ x13 x14 x15 /\
 (sB (!((x8 == x13) && ((x9 == x14) && ((x10 == x15) && true))))
 (R (.bool false) h5)
 ((∃ m16, m16 < m3 /\ I1 (IntKind.wrap .i64 (x_4 + 1)) h5 m16))))))))))
 (R (.bool true) h5))))))
theorem vc52 (p0 p1 : Sl) (h : Heap) (R : Value -> Heap -> Prop) (H : W52 p0 p1 h R) : Fn Pz 52 #[vS p0, vS p1] h R := fnI (A := (.s .z (.s .z (.s (.s .z (.b (.l [(13, .one (.int .i64))] .z))) .z)))) (by kernel_rfl) H

end Go.VC
end

section
namespace Go.VC
open Go.Proofs

def W67 (p0_1 : ByteArray) (p0_2 p0_3 : Sl) (p0_4 p0_5 p0_6 : Int) (p0_7 p0_8 : Sl) (h : Heap) (R : Value -> Heap -> Prop) : Prop :=
 (Wn h (L1 p0_1 p0_2 p0_3 p0_4 p0_5 p0_6 p0_7 p0_8) 59 fun h9 =>
 (∃ x10 x11 x12 x13 x14 x15 x16 x17, aL1 h9 (aS h 0) x10 x11 x12 x13 x14 x15 x16 x17 /\
 (Fn Pz 108 #[.agg ⟨(L1 x10 x11 x12 x13 x14 x15 x16 x17)⟩] h9
 (fun v18 h20 => ∃ x19, iB v18 x19 /\
 (sB x19
 ((∃ x21 x22 x23 x24 x25 x26 x27 x28, aL1 h20 (aS h 0) x21 x22 x23 x24 x25 x26 x27 x28 /\
 (Fn Pz 109 #[.agg ⟨(L1 x21 x22 x23 x24 x25 x26 x27 x28)⟩] h20
 (fun v29 h31 => ∃ x30, iB v29 x30 /\
 (sB x30
 ((∃ x32 x33 x34 x35 x36 x37 x38 x39, aL1 h31 (aS h 0) x32 x33 x34 x35 x36 x37 x38 x39 /\
 (Fn Pz 110 #[.agg ⟨(L1 x32 x33 x34 x35 x36 x37 x38 x39)⟩] h31
 (fun v40 h42 => ∃ x41, iB v40 x41 /\
 (sB x41
 ((∃ x43 x44 x45 x46 x47 x48 x49 x50, aL1 h42 (aS h 0) x43 x44 x45 x46 x47 x48 x49 x50 /\
 (Fn Pz 111 #[.agg ⟨(L1 x43 x44 x45 x46 x47 x48 x49 x50)⟩] h42
 (fun v51 h53 => ∃ x52, iB v51 x52 /\
 (sB x52
 ((∃ x54 x55 x56 x57 x58 x59 x60 x61, aL1 h53 (aS h 0) x54 x55 x56 x57 x58 x59 x60 x61 /\
 (Fn Pz 112 #[.agg ⟨(L1 x54 x55 x56 x57 x58 x59 x60 x61)⟩] h53
 (fun v62 h64 => ∃ x63, iB v62 x63 /\
 R (.bool x63) h64))))
 (R (.bool false) h53))))))
 (R (.bool false) h42))))))
 (R (.bool false) h31))))))
 (R (.bool false) h20))))))
theorem vc67 (p0_1 : ByteArray) (p0_2 p0_3 : Sl) (p0_4 p0_5 p0_6 : Int) (p0_7 p0_8 : Sl) (h : Heap) (R : Value -> Heap -> Prop) (H : W67 p0_1 p0_2 p0_3 p0_4 p0_5 p0_6 p0_7 p0_8 h R) : Fn Pz 67 #[.agg ⟨(L1 p0_1 p0_2 p0_3 p0_4 p0_5 p0_6 p0_7 p0_8)⟩] h R := fnI (A := .z) (by kernel_rfl) H

def W34 (p0_1 : ByteArray) (p0_2 p0_3 : Sl) (p0_4 p0_5 p0_6 : Int) (p0_7 p0_8 : Sl) (p1 : Int) (h : Heap) (R : Value -> Heap -> Prop) : Prop :=
 (Wn h (L1 p0_1 p0_2 p0_3 p0_4 p0_5 p0_6 p0_7 p0_8) 59 fun h9 =>
 (∃ x10 x11 x12 x13 x14 x15 x16 x17, aL1 h9 (aS h 0) x10 x11 x12 x13 x14 x15 x16 x17 /\
 (Fn Pz 67 #[.agg ⟨(L1 x10 x11 x12 x13 x14 x15 x16 x17)⟩] h9
 (fun v18 h20 => ∃ x19, iB v18 x19 /\
 (sB x19
 ((sB (decide (p1 >= 0))
 ((∃ x21, rS h20 (aS h 1) x21 /\
 R (.bool (decide (p1 < (x21.n : Int)))) h20))
 (R (.bool false) h20)))
 (R (.bool false) h20))))))
theorem vc34 (p0_1 : ByteArray) (p0_2 p0_3 : Sl) (p0_4 p0_5 p0_6 : Int) (p0_7 p0_8 : Sl) (p1 : Int) (h : Heap) (R : Value -> Heap -> Prop) (H : W34 p0_1 p0_2 p0_3 p0_4 p0_5 p0_6 p0_7 p0_8 p1 h R) : Fn Pz 34 #[.agg ⟨(L1 p0_1 p0_2 p0_3 p0_4 p0_5 p0_6 p0_7 p0_8)⟩, vI p1] h R := fnI (A := .z) (by kernel_rfl) H

def W108 (p0_1 : ByteArray) (p0_2 p0_3 : Sl) (p0_4 p0_5 p0_6 : Int) (p0_7 p0_8 : Sl) (h : Heap) (R : Value -> Heap -> Prop) : Prop :=
 (Wn h (L1 p0_1 p0_2 p0_3 p0_4 p0_5 p0_6 p0_7 p0_8) 59 fun h9 =>
 (QI 0 h9 fun I10 i_13 h14 m12 => (
 (∃ x15, rS h14 (aS h 1) x15 /\
 (sB (decide (i_13 < (x15.n : Int)))
 ((∃ x16, rS h14 (aS h 1) x16 /\
 (NB x16.a fun b17 o18 => (Ib i_13 x16.n /\
 (∃ x19, rT h14 ⟨b17, o18 + Int.toNat i_13 * 1, none⟩ x19 /\
 (Fn Pz 156 #[.string x19] h14
 (fun v20 h22 => ∃ x21, iB v20 x21 /\
 (sB (!x21)
 (R (.bool false) h22)
 ((∃ x23, rS h22 (aS h 1) x23 /\
 (∃ x24, rS h22 (aS h 1) x24 /\
 (NB x24.a fun b25 o26 => (Ib i_13 x24.n /\
 (∃ x27, rT h22 ⟨b25, o26 + Int.toNat i_13 * 1, none⟩ x27 /\
 (Fn Pz 157 #[vS x23, .string x27] h22
 (fun v28 h30 => ∃ x29, iI v28 x29 /\
 (Sm [⟨b17, o18 + Int.toNat i_13 * 1, none⟩, (aS h 1)] h22 h30 /\
 (sB (decide (x29 < i_13))
 (R (.bool false) h30)
 ((∃ m31, m31 < m12 /\ I10 (IntKind.wrap .i64 (i_13 + 1)) h30 m31))))))))))))))))))))
 ((∃ x32, rT h14 (aS h 0) x32 /\
 (Fn Pz 156 #[.string x32] h14
 (fun v33 h35 => ∃ x34, iB v33 x34 /\
 (sB x34
 ((∃ x36, rS h35 (aS h 1) x36 /\
 (sB (decide ((x36.n : Int) >= 1))
 ((∃ x37, rS h35 (aS h 1) x37 /\
 (sB (decide ((x37.n : Int) <= 6))
 ((∃ x38, rS h35 (aS h 2) x38 /\
 (Fn Pz 158 #[vS x38] h35
 (fun v39 h41 => ∃ x40, iB v39 x40 /\
 R (.bool x40) h41))))
 (R (.bool false) h35))))
 (R (.bool false) h35))))
 (R (.bool false) h35)))))))))))
theorem vc108 (p0_1 : ByteArray) (p0_2 p0_3 : Sl) (p0_4 p0_5 p0_6 : Int) (p0_7 p0_8 : Sl) (h : Heap) (R : Value -> Heap -> Prop) (H : W108 p0_1 p0_2 p0_3 p0_4 p0_5 p0_6 p0_7 p0_8 h R) : Fn Pz 108 #[.agg ⟨(L1 p0_1 p0_2 p0_3 p0_4 p0_5 p0_6 p0_7 p0_8)⟩] h R := fnI (A := (.s .z (.s (.s .z (.b (.l [(3, .one (.int .i64))] .z))) .z))) (by kernel_rfl) H

def W109 (p0_1 : ByteArray) (p0_2 p0_3 : Sl) (p0_4 p0_5 p0_6 : Int) (p0_7 p0_8 : Sl) (h : Heap) (R : Value -> Heap -> Prop) : Prop :=
 (Wn h (L1 p0_1 p0_2 p0_3 p0_4 p0_5 p0_6 p0_7 p0_8) 59 fun h9 =>
 (QI 0 h9 fun I10 i_13 h14 m12 => (
 (∃ x15, rS h14 (aS h 6) x15 /\
 (sB (decide (i_13 < (x15.n : Int)))
 ((∃ x16, rS h14 (aS h 6) x16 /\
 (NB x16.a fun b17 o18 => (Ib i_13 x16.n /\
 (∃ x19 x20 x21 x22 x23 x24, aL5 h14 ⟨b17, o18 + Int.toNat i_13 * 6, none⟩ x19 x20 x21 x22 x23 x24 /\
 (Wn h14 [vI 0, vI 0, vI 0, vI 0, vI 0, .bool false] 145 fun h25 =>
 (Wp h25 (aS h14 0) 6 (L5 x19 x20 x21 x22 x23 x24) fun h26 =>
 (∃ x27 x28 x29 x30 x31 x32 x33 x34, aL1 h26 (aS h 0) x27 x28 x29 x30 x31 x32 x33 x34 /\
 (∃ x35, rI h26 (aS h14 0) x35 /\
 (Fn Pz 159 #[.agg ⟨(L1 x27 x28 x29 x30 x31 x32 x33 x34)⟩, vI x35] h26
 (fun v36 h38 => ∃ x37, iB v36 x37 /\
 (sB (!x37)
 (R (.bool false) h38)
 ((∃ x39 x40 x41 x42 x43 x44 x45 x46, aL1 h38 (aS h 0) x39 x40 x41 x42 x43 x44 x45 x46 /\
 (∃ x47, rI h38 (aS h14 4) x47 /\
 (Fn Pz 159 #[.agg ⟨(L1 x39 x40 x41 x42 x43 x44 x45 x46)⟩, vI x47] h38
 (fun v48 h50 => ∃ x49, iB v48 x49 /\
 (sB (!x49)
 (R (.bool false) h50)
 ((∃ x51, rI h50 (aS h14 1) x51 /\
 (sB (decide (x51 < 0))
 (R (.bool false) h50)
 ((∃ x52, rI h50 (aS h14 1) x52 /\
 (∃ x53, rS h50 (aS h 1) x53 /\
 (sB (decide (x52 >= (x53.n : Int)))
 (R (.bool false) h50)
 ((∃ x54, rI h50 (aS h14 (1 + 1)) x54 /\
 (sB (decide (x54 < 0))
 (R (.bool false) h50)
 ((∃ x55, rI h50 (aS h14 (1 + 1)) x55 /\
 (∃ x56, rS h50 (aS h 1) x56 /\
 (sB (decide (x55 >= (x56.n : Int)))
 (R (.bool false) h50)
 ((∃ x57, rI h50 (aS h14 1) x57 /\
 (∃ x58, rI h50 (aS h14 (1 + 1)) x58 /\
 (sB (x57 == x58)
 (R (.bool false) h50)
 ((∃ x59, rI h50 (aS h14 (1 + 2)) x59 /\
 (sB (decide (x59 < 0))
 (R (.bool false) h50)
 ((∃ x60, rI h50 (aS h14 (1 + 2)) x60 /\
 (∃ x61, rS h50 (aS h 2) x61 /\
 (sB (decide (x60 >= (x61.n : Int)))
 (R (.bool false) h50)
 ((∃ m62, m62 < m12 /\ I10 (IntKind.wrap .i64 (i_13 + 1)) h50 m62)))))))))))))))))))))))))))))))))))))))))))))
 ((∃ x63, rI h14 (aS h 3) x63 /\
 (sB (decide (x63 >= 1))
 ((∃ x64, rI h14 (aS h 3) x64 /\
 (sB (decide (x64 <= 200))
 ((∃ x65 x66 x67 x68 x69 x70 x71 x72, aL1 h14 (aS h 0) x65 x66 x67 x68 x69 x70 x71 x72 /\
 (∃ x73, rI h14 (aS h 4) x73 /\
 (Fn Pz 159 #[.agg ⟨(L1 x65 x66 x67 x68 x69 x70 x71 x72)⟩, vI x73] h14
 (fun v74 h76 => ∃ x75, iB v74 x75 /\
 (sB x75
 ((∃ x77 x78 x79 x80 x81 x82 x83 x84, aL1 h76 (aS h 0) x77 x78 x79 x80 x81 x82 x83 x84 /\
 (∃ x85, rI h76 (aS h 5) x85 /\
 (Fn Pz 159 #[.agg ⟨(L1 x77 x78 x79 x80 x81 x82 x83 x84)⟩, vI x85] h76
 (fun v86 h88 => ∃ x87, iB v86 x87 /\
 (sB x87
 ((∃ x89, rS h88 (aS h 6) x89 /\
 R (.bool (decide ((x89.n : Int) <= 400))) h88))
 (R (.bool false) h88)))))))
 (R (.bool false) h76)))))))
 (R (.bool false) h14))))
 (R (.bool false) h14)))))))))
theorem vc109 (p0_1 : ByteArray) (p0_2 p0_3 : Sl) (p0_4 p0_5 p0_6 : Int) (p0_7 p0_8 : Sl) (h : Heap) (R : Value -> Heap -> Prop) (H : W109 p0_1 p0_2 p0_3 p0_4 p0_5 p0_6 p0_7 p0_8 h R) : Fn Pz 109 #[.agg ⟨(L1 p0_1 p0_2 p0_3 p0_4 p0_5 p0_6 p0_7 p0_8)⟩] h R := fnI (A := (.s .z (.s (.s .z (.b (.l [(3, .one (.int .i64))] .z))) .z))) (by kernel_rfl) H

def W110 (p0_1 : ByteArray) (p0_2 p0_3 : Sl) (p0_4 p0_5 p0_6 : Int) (p0_7 p0_8 : Sl) (h : Heap) (R : Value -> Heap -> Prop) : Prop :=
 (Wn h (L1 p0_1 p0_2 p0_3 p0_4 p0_5 p0_6 p0_7 p0_8) 59 fun h9 =>
 (QI 0 h9 fun I10 i_13 h14 m12 => (
 (∃ x15, rS h14 (aS h 6) x15 /\
 (sB (decide (i_13 < (x15.n : Int)))
 ((∃ x16, rS h14 (aS h 6) x16 /\
 (NB x16.a fun b17 o18 => (Ib i_13 x16.n /\
 (∃ x19 x20 x21 x22 x23 x24, aL5 h14 ⟨b17, o18 + Int.toNat i_13 * 6, none⟩ x19 x20 x21 x22 x23 x24 /\
 (Wn h14 [vI 0, vI 0, vI 0, vI 0, vI 0, .bool false] 145 fun h25 =>
 (Wp h25 (aS h14 0) 6 (L5 x19 x20 x21 x22 x23 x24) fun h26 =>
 (∃ x27, rB h26 (aS h14 5) x27 /\
 (sB x27
 ((∃ x28, rI h26 (aS h14 0) x28 /\
 (∃ x29, rI h26 (aS h 4) x29 /\
 (sB (x28 == x29)
 (R (.bool false) h26)
 ((QI 0 h26 fun I30 k_33 h34 m32 => (
 (∃ x35, rS h34 (aS h 6) x35 /\
 (sB (decide (k_33 < (x35.n : Int)))
 ((∃ x36, rS h34 (aS h 6) x36 /\
 (NB x36.a fun b37 o38 => (Ib k_33 x36.n /\
 (∃ x39 x40 x41 x42 x43 x44, aL5 h34 ⟨b37, o38 + Int.toNat k_33 * 6, none⟩ x39 x40 x41 x42 x43 x44 /\
 (Wn h34 [vI 0, vI 0, vI 0, vI 0, vI 0, .bool false] 145 fun h45 =>
 (Wp h45 (aS h34 0) 6 (L5 x39 x40 x41 x42 x43 x44) fun h46 =>
 (sB (k_33 != i_13)
 ((∃ x47, rI h46 (aS h14 0) x47 /\
 (∃ x48, rI h46 (aS h34 0) x48 /\
 (sB (x47 == x48)
 ((∃ x49 x50 x51, aL4 h46 (aS h14 1) x49 x50 x51 /\
 (∃ x52 x53 x54, aL4 h46 (aS h34 1) x52 x53 x54 /\
 (sB ((x49 == x52) && ((x50 == x53) && ((x51 == x54) && true)))
 (R (.bool false) h46)
 ((∃ x55, rI h46 (aS h14 1) x55 /\
 (∃ x56, rI h46 (aS h34 1) x56 /\
 (sB (x55 != x56)
 (R (.bool false) h46)
 ((∃ x57, rB h46 (aS h14 5) x57 /\
 (sB x57
 (R (.bool false) h46)
 ((∃ x58, rB h46 (aS h14 5) x58 /\
 (sB x58
 ((∃ x59, rI h46 (aS h34 4) x59 /\
 (∃ x60, rI h46 (aS h14 0) x60 /\
 (sB (x59 == x60)
 ((∃ x61, rI h46 (aS h34 1) x61 /\
 (∃ x62, rI h46 (aS h14 1) x62 /\
 (sB (x61 != x62)
 (R (.bool false) h46)
 ((∃ x63, rI h46 (aS h34 (1 + 2)) x63 /\
 (∃ x64, rI h46 (aS h14 (1 + 2)) x64 /\
 (sB (x63 != x64)
 (R (.bool false) h46)
 ((∃ m65, m65 < m32 /\ I30 (IntKind.wrap .i64 (k_33 + 1)) h46 m65))))))))))
 ((∃ m66, m66 < m32 /\ I30 (IntKind.wrap .i64 (k_33 + 1)) h46 m66))))))
 ((∃ m67, m67 < m32 /\ I30 (IntKind.wrap .i64 (k_33 + 1)) h46 m67))))))))))))))))
 ((∃ x68, rB h46 (aS h14 5) x68 /\
 (sB x68
 ((∃ x69, rI h46 (aS h34 4) x69 /\
 (∃ x70, rI h46 (aS h14 0) x70 /\
 (sB (x69 == x70)
 ((∃ x71, rI h46 (aS h34 1) x71 /\
 (∃ x72, rI h46 (aS h14 1) x72 /\
 (sB (x71 != x72)
 (R (.bool false) h46)
 ((∃ x73, rI h46 (aS h34 (1 + 2)) x73 /\
 (∃ x74, rI h46 (aS h14 (1 + 2)) x74 /\
 (sB (x73 != x74)
 (R (.bool false) h46)
 ((∃ m75, m75 < m32 /\ I30 (IntKind.wrap .i64 (k_33 + 1)) h46 m75))))))))))
 ((∃ m76, m76 < m32 /\ I30 (IntKind.wrap .i64 (k_33 + 1)) h46 m76))))))
 ((∃ m77, m77 < m32 /\ I30 (IntKind.wrap .i64 (k_33 + 1)) h46 m77)))))))))
 ((∃ x78, rB h46 (aS h14 5) x78 /\
 (sB x78
 ((∃ x79, rI h46 (aS h34 4) x79 /\
 (∃ x80, rI h46 (aS h14 0) x80 /\
 (sB (x79 == x80)
 ((∃ x81, rI h46 (aS h34 1) x81 /\
 (∃ x82, rI h46 (aS h14 1) x82 /\
 (sB (x81 != x82)
 (R (.bool false) h46)
 ((∃ x83, rI h46 (aS h34 (1 + 2)) x83 /\
 (∃ x84, rI h46 (aS h14 (1 + 2)) x84 /\
 (sB (x83 != x84)
 (R (.bool false) h46)
 ((∃ m85, m85 < m32 /\ I30 (IntKind.wrap .i64 (k_33 + 1)) h46 m85))))))))))
 ((∃ m86, m86 < m32 /\ I30 (IntKind.wrap .i64 (k_33 + 1)) h46 m86))))))
 ((∃ m87, m87 < m32 /\ I30 (IntKind.wrap .i64 (k_33 + 1)) h46 m87)))))))))))))
 ((∃ m88, m88 < m12 /\ I10 (IntKind.wrap .i64 (i_13 + 1)) h34 m88)))))))))))
 ((QI 0 h26 fun I89 k_92 h93 m91 => (
 (∃ x94, rS h93 (aS h 6) x94 /\
 (sB (decide (k_92 < (x94.n : Int)))
 ((∃ x95, rS h93 (aS h 6) x95 /\
 (NB x95.a fun b96 o97 => (Ib k_92 x95.n /\
 (∃ x98 x99 x100 x101 x102 x103, aL5 h93 ⟨b96, o97 + Int.toNat k_92 * 6, none⟩ x98 x99 x100 x101 x102 x103 /\
 (Wn h93 [vI 0, vI 0, vI 0, vI 0, vI 0, .bool false] 145 fun h104 =>
 (Wp h104 (aS h93 0) 6 (L5 x98 x99 x100 x101 x102 x103) fun h105 =>
 (sB (k_92 != i_13)
 ((∃ x106, rI h105 (aS h14 0) x106 /\
 (∃ x107, rI h105 (aS h93 0) x107 /\
 (sB (x106 == x107)
 ((∃ x108 x109 x110, aL4 h105 (aS h14 1) x108 x109 x110 /\
 (∃ x111 x112 x113, aL4 h105 (aS h93 1) x111 x112 x113 /\
 (sB ((x108 == x111) && ((x109 == x112) && ((x110 == x113) && true)))
 (R (.bool false) h105)
 ((∃ x114, rI h105 (aS h14 1) x114 /\
 (∃ x115, rI h105 (aS h93 1) x115 /\
 (sB (x114 != x115)
 (R (.bool false) h105)
 ((∃ x116, rB h105 (aS h14 5) x116 /\
 (sB x116
 (R (.bool false) h105)
 ((∃ x117, rB h105 (aS h14 5) x117 /\
 (sB x117
 ((∃ x118, rI h105 (aS h93 4) x118 /\
 (∃ x119, rI h105 (aS h14 0) x119 /\
 (sB (x118 == x119)
 ((∃ x120, rI h105 (aS h93 1) x120 /\
 (∃ x121, rI h105 (aS h14 1) x121 /\
 (sB (x120 != x121)
 (R (.bool false) h105)
 ((∃ x122, rI h105 (aS h93 (1 + 2)) x122 /\
 (∃ x123, rI h105 (aS h14 (1 + 2)) x123 /\
 (sB (x122 != x123)
 (R (.bool false) h105)
 ((∃ m124, m124 < m91 /\ I89 (IntKind.wrap .i64 (k_92 + 1)) h105 m124))))))))))
 ((∃ m125, m125 < m91 /\ I89 (IntKind.wrap .i64 (k_92 + 1)) h105 m125))))))
 ((∃ m126, m126 < m91 /\ I89 (IntKind.wrap .i64 (k_92 + 1)) h105 m126))))))))))))))))
 ((∃ x127, rB h105 (aS h14 5) x127 /\
 (sB x127
 ((∃ x128, rI h105 (aS h93 4) x128 /\
 (∃ x129, rI h105 (aS h14 0) x129 /\
 (sB (x128 == x129)
 ((∃ x130, rI h105 (aS h93 1) x130 /\
 (∃ x131, rI h105 (aS h14 1) x131 /\
 (sB (x130 != x131)
 (R (.bool false) h105)
 ((∃ x132, rI h105 (aS h93 (1 + 2)) x132 /\
 (∃ x133, rI h105 (aS h14 (1 + 2)) x133 /\
 (sB (x132 != x133)
 (R (.bool false) h105)
 ((∃ m134, m134 < m91 /\ I89 (IntKind.wrap .i64 (k_92 + 1)) h105 m134))))))))))
 ((∃ m135, m135 < m91 /\ I89 (IntKind.wrap .i64 (k_92 + 1)) h105 m135))))))
 ((∃ m136, m136 < m91 /\ I89 (IntKind.wrap .i64 (k_92 + 1)) h105 m136)))))))))
 ((∃ x137, rB h105 (aS h14 5) x137 /\
 (sB x137
 ((∃ x138, rI h105 (aS h93 4) x138 /\
 (∃ x139, rI h105 (aS h14 0) x139 /\
 (sB (x138 == x139)
 ((∃ x140, rI h105 (aS h93 1) x140 /\
 (∃ x141, rI h105 (aS h14 1) x141 /\
 (sB (x140 != x141)
 (R (.bool false) h105)
 ((∃ x142, rI h105 (aS h93 (1 + 2)) x142 /\
 (∃ x143, rI h105 (aS h14 (1 + 2)) x143 /\
 (sB (x142 != x143)
 (R (.bool false) h105)
 ((∃ m144, m144 < m91 /\ I89 (IntKind.wrap .i64 (k_92 + 1)) h105 m144))))))))))
 ((∃ m145, m145 < m91 /\ I89 (IntKind.wrap .i64 (k_92 + 1)) h105 m145))))))
 ((∃ m146, m146 < m91 /\ I89 (IntKind.wrap .i64 (k_92 + 1)) h105 m146)))))))))))))
 ((∃ m147, m147 < m12 /\ I10 (IntKind.wrap .i64 (i_13 + 1)) h93 m147))))))))))))))))
 (R (.bool true) h14))))))
theorem vc110 (p0_1 : ByteArray) (p0_2 p0_3 : Sl) (p0_4 p0_5 p0_6 : Int) (p0_7 p0_8 : Sl) (h : Heap) (R : Value -> Heap -> Prop) (H : W110 p0_1 p0_2 p0_3 p0_4 p0_5 p0_6 p0_7 p0_8 h R) : Fn Pz 110 #[.agg ⟨(L1 p0_1 p0_2 p0_3 p0_4 p0_5 p0_6 p0_7 p0_8)⟩] h R := fnI (A := (.s .z (.s (.s .z (.b (.l [(3, .one (.int .i64))] (.s .z (.s (.b (.s .z (.s .z (.s .z (.b (.l [(5, .one (.int .i64))] .z)))))) .z))))) .z))) (by kernel_rfl) H

def W111 (p0_1 : ByteArray) (p0_2 p0_3 : Sl) (p0_4 p0_5 p0_6 : Int) (p0_7 p0_8 : Sl) (h : Heap) (R : Value -> Heap -> Prop) : Prop :=
 (Wn h (L1 p0_1 p0_2 p0_3 p0_4 p0_5 p0_6 p0_7 p0_8) 59 fun h9 =>
 (∃ x10, rI h9 (aS h 3) x10 /\
 (Mk x10 x10 1 /\ Wn h9 (madeL Pz 4 (Int.toNat x10)) 4 fun h11 =>
 (∃ x12, rI h11 (aS h 4) x12 /\
 ((0 <= (x12 : Int) /\ (x12 : Int) < ((Int.toNat x10) : Nat)) /\
 (Wp h11 (aS h9 (0 + Int.toNat x12 * 1)) 1 [.bool true] fun h13 =>
 (QI 0 h13 fun I14 n_17 h18 m16 => (
 (∃ x19, rI h18 (aS h 3) x19 /\
 (sB (decide (n_17 < x19))
 ((QI 0 h18 fun I20 i_23 h24 m22 => (
 (∃ x25, rS h24 (aS h 6) x25 /\
 (sB (decide (i_23 < (x25.n : Int)))
 ((∃ x26, rS h24 (aS h 6) x26 /\
 (NB x26.a fun b27 o28 => (Ib i_23 x26.n /\
 (∃ x29, rI h24 ⟨b27, o28 + Int.toNat i_23 * 6 + 4, none⟩ x29 /\
 (∃ x30, rS h24 (aS h 6) x30 /\
 (NB x30.a fun b31 o32 => (Ib i_23 x30.n /\
 (∃ x33, rI h24 ⟨b31, o32 + Int.toNat i_23 * 6 + 4, none⟩ x33 /\
 ((0 <= (x33 : Int) /\ (x33 : Int) < ((Int.toNat x10) : Nat)) /\
 (∃ x34, rB h24 (aS h9 (0 + Int.toNat x33 * 1)) x34 /\
 (sB x34
 (((0 <= (x29 : Int) /\ (x29 : Int) < ((Int.toNat x10) : Nat)) /\
 (Wp h24 (aS h9 (0 + Int.toNat x29 * 1)) 1 [.bool true] fun h35 =>
 (∃ m36, m36 < m22 /\ I20 (IntKind.wrap .i64 (i_23 + 1)) h35 m36))))
 ((∃ x37, rS h24 (aS h 6) x37 /\
 (NB x37.a fun b38 o39 => (Ib i_23 x37.n /\
 (∃ x40, rI h24 ⟨b38, o39 + Int.toNat i_23 * 6, none⟩ x40 /\
 ((0 <= (x40 : Int) /\ (x40 : Int) < ((Int.toNat x10) : Nat)) /\
 (∃ x41, rB h24 (aS h9 (0 + Int.toNat x40 * 1)) x41 /\
 ((0 <= (x29 : Int) /\ (x29 : Int) < ((Int.toNat x10) : Nat)) /\
 (Wp h24 (aS h9 (0 + Int.toNat x29 * 1)) 1 [.bool x41] fun h42 =>
 (∃ m43, m43 < m22 /\ I20 (IntKind.wrap .i64 (i_23 + 1)) h42 m43))))))))))))))))))))))
 ((∃ m44, m44 < m16 /\ I14 (IntKind.wrap .i64 (n_17 + 1)) h24 m44)))))))
 ((∃ x45 x46 x47 x48 x49 x50 x51 x52, aL1 h18 (aS h 0) x45 x46 x47 x48 x49 x50 x51 x52 /\
 (Fn Pz 160 #[.agg ⟨(L1 x45 x46 x47 x48 x49 x50 x51 x52)⟩] h18
 (fun v53 h55 => ∃ x54, iS v53 x54 /\
 (QI 0 h55 fun I56 s_59 h60 m58 => (
 (∃ x61, rI h60 (aS h 3) x61 /\
 (sB (decide (s_59 < x61))
 (((0 <= (s_59 : Int) /\ (s_59 : Int) < ((Int.toNat x10) : Nat)) /\
 (∃ x62, rB h60 (aS h9 (0 + Int.toNat s_59 * 1)) x62 /\
 (sB (!x62)
 (R (.bool false) h60)
 ((NB x54.a fun b63 o64 => (Ib s_59 x54.n /\
 (∃ x65, rI h60 ⟨b63, o64 + Int.toNat s_59 * 1, none⟩ x65 /\
 (sB (decide (x65 < 0))
 (R (.bool false) h60)
 ((∃ m66, m66 < m58 /\ I56 (IntKind.wrap .i64 (s_59 + 1)) h60 m66)))))))))))
 ((∃ x67 x68 x69 x70 x71 x72 x73 x74, aL1 h60 (aS h 0) x67 x68 x69 x70 x71 x72 x73 x74 /\
 (∃ x75, rI h60 (aS h 5) x75 /\
 (Fn Pz 161 #[.agg ⟨(L1 x67 x68 x69 x70 x71 x72 x73 x74)⟩, vI x75] h60
 (fun v76 h78 => ∃ x77, iS v76 x77 /\
 R (.bool ((x77.n : Int) == 0)) h78)))))))))))))))))))))))
theorem vc111 (p0_1 : ByteArray) (p0_2 p0_3 : Sl) (p0_4 p0_5 p0_6 : Int) (p0_7 p0_8 : Sl) (h : Heap) (R : Value -> Heap -> Prop) (H : W111 p0_1 p0_2 p0_3 p0_4 p0_5 p0_6 p0_7 p0_8 h R) : Fn Pz 111 #[.agg ⟨(L1 p0_1 p0_2 p0_3 p0_4 p0_5 p0_6 p0_7 p0_8)⟩] h R := fnI (A := (.s .z (.s .z (.s .z (.s (.s .z (.b (.l [(4, .one (.int .i64))] (.s .z (.s (.b (.s .z (.b (.l [(5, .one (.int .i64))] .z)))) .z))))) (.s .z (.s (.s .z (.b (.l [(7, .one (.int .i64))] .z))) .z))))))) (by kernel_rfl) H

def W112 (p0_1 : ByteArray) (p0_2 p0_3 : Sl) (p0_4 p0_5 p0_6 : Int) (p0_7 p0_8 : Sl) (h : Heap) (R : Value -> Heap -> Prop) : Prop :=
 (Wn h (L1 p0_1 p0_2 p0_3 p0_4 p0_5 p0_6 p0_7 p0_8) 59 fun h9 =>
 (QI 0 h9 fun I10 i_13 h14 m12 => (
 (∃ x15, rS h14 (aS h 7) x15 /\
 (sB (decide (i_13 < (x15.n : Int)))
 ((∃ x16, rS h14 (aS h 7) x16 /\
 (NB x16.a fun b17 o18 => (Ib i_13 x16.n /\
 (∃ x19 x20 x21, aL4 h14 ⟨b17, o18 + Int.toNat i_13 * 3, none⟩ x19 x20 x21 /\
 (Wn h14 [vI 0, vI 0, vI 0] 44 fun h22 =>
 (Wp h22 (aS h14 0) 3 (L4 x19 x20 x21) fun h23 =>
 (∃ x24 x25 x26 x27 x28 x29 x30 x31, aL1 h23 (aS h 0) x24 x25 x26 x27 x28 x29 x30 x31 /\
 (∃ x32, rI h23 (aS h14 0) x32 /\
 (Fn Pz 159 #[.agg ⟨(L1 x24 x25 x26 x27 x28 x29 x30 x31)⟩, vI x32] h23
 (fun v33 h35 => ∃ x34, iB v33 x34 /\
 (sB (!x34)
 (R (.bool false) h35)
 ((sB (decide (i_13 > 0))
 ((∃ x36, rI h35 (aS h14 0) x36 /\
 (∃ x37, rS h35 (aS h 7) x37 /\
 (NB x37.a fun b38 o39 => ((0 <= ((IntKind.wrap .i64 (i_13 - 1)) : Int) /\ ((IntKind.wrap .i64 (i_13 - 1)) : Int) < (x37.n : Nat)) /\
 (∃ x40, rI h35 ⟨b38, o39 + Int.toNat (IntKind.wrap .i64 (i_13 - 1)) * 3, none⟩ x40 /\
 (sB (decide (x36 <= x40))
 (R (.bool false) h35)
 ((∃ x41, rI h35 (aS h14 1) x41 /\
 (sB (decide (x41 < 1))
 (R (.bool false) h35)
 ((∃ x42, rI h35 (aS h14 1) x42 /\
 (sB (decide (x42 > 1000))
 (R (.bool false) h35)
 ((∃ x43, rI h35 (aS h14 2) x43 /\
 (sB (decide (x43 < 0))
 (R (.bool false) h35)
 ((∃ x44, rI h35 (aS h14 2) x44 /\
 (∃ x45, rS h35 (aS h 6) x45 /\
 (sB (decide (x44 >= (x45.n : Int)))
 (R (.bool false) h35)
 ((∃ x46, rS h35 (aS h 6) x46 /\
 (∃ x47, rI h35 (aS h14 2) x47 /\
 (NB x46.a fun b48 o49 => (Ib x47 x46.n /\
 (∃ x50, rI h35 ⟨b48, o49 + Int.toNat x47 * 6, none⟩ x50 /\
 (∃ x51, rI h35 (aS h14 0) x51 /\
 (sB (x50 != x51)
 (R (.bool false) h35)
 ((∃ x52, rS h35 (aS h 6) x52 /\
 (∃ x53, rI h35 (aS h14 2) x53 /\
 (NB x52.a fun b54 o55 => (Ib x53 x52.n /\
 (∃ x56, rB h35 ⟨b54, o55 + Int.toNat x53 * 6 + 5, none⟩ x56 /\
 (sB x56
 (R (.bool false) h35)
 ((∃ m57, m57 < m12 /\ I10 (IntKind.wrap .i64 (i_13 + 1)) h35 m57)))))))))))))))))))))))))))))))))))))
 ((∃ x58, rI h35 (aS h14 1) x58 /\
 (sB (decide (x58 < 1))
 (R (.bool false) h35)
 ((∃ x59, rI h35 (aS h14 1) x59 /\
 (sB (decide (x59 > 1000))
 (R (.bool false) h35)
 ((∃ x60, rI h35 (aS h14 2) x60 /\
 (sB (decide (x60 < 0))
 (R (.bool false) h35)
 ((∃ x61, rI h35 (aS h14 2) x61 /\
 (∃ x62, rS h35 (aS h 6) x62 /\
 (sB (decide (x61 >= (x62.n : Int)))
 (R (.bool false) h35)
 ((∃ x63, rS h35 (aS h 6) x63 /\
 (∃ x64, rI h35 (aS h14 2) x64 /\
 (NB x63.a fun b65 o66 => (Ib x64 x63.n /\
 (∃ x67, rI h35 ⟨b65, o66 + Int.toNat x64 * 6, none⟩ x67 /\
 (∃ x68, rI h35 (aS h14 0) x68 /\
 (sB (x67 != x68)
 (R (.bool false) h35)
 ((∃ x69, rS h35 (aS h 6) x69 /\
 (∃ x70, rI h35 (aS h14 2) x70 /\
 (NB x69.a fun b71 o72 => (Ib x70 x69.n /\
 (∃ x73, rB h35 ⟨b71, o72 + Int.toNat x70 * 6 + 5, none⟩ x73 /\
 (sB x73
 (R (.bool false) h35)
 ((∃ m74, m74 < m12 /\ I10 (IntKind.wrap .i64 (i_13 + 1)) h35 m74))))))))))))))))))))))))))))))))))))))))))))
 (R (.bool true) h14))))))
theorem vc112 (p0_1 : ByteArray) (p0_2 p0_3 : Sl) (p0_4 p0_5 p0_6 : Int) (p0_7 p0_8 : Sl) (h : Heap) (R : Value -> Heap -> Prop) (H : W112 p0_1 p0_2 p0_3 p0_4 p0_5 p0_6 p0_7 p0_8 h R) : Fn Pz 112 #[.agg ⟨(L1 p0_1 p0_2 p0_3 p0_4 p0_5 p0_6 p0_7 p0_8)⟩] h R := fnI (A := (.s .z (.s (.s .z (.b (.l [(3, .one (.int .i64))] .z))) .z))) (by kernel_rfl) H

def W156 (p0 : ByteArray) (h : Heap) (R : Value -> Heap -> Prop) : Prop :=
 (Fn Pz 186 #[.string p0] h
 (fun v1 h3 => ∃ x2, iB v1 x2 /\
 (sB x2
 ((Fn Pz 188 #[] h3
 (fun v4 h6 => ∃ x5, iS v4 x5 /\
 (Fn Pz 187 #[vS x5, .string p0] h6
 (fun v7 h9 => ∃ x8, iB v7 x8 /\
 R (.bool (!x8)) h9)))))
 (R (.bool false) h3))))
theorem vc156 (p0 : ByteArray) (h : Heap) (R : Value -> Heap -> Prop) (H : W156 p0 h R) : Fn Pz 156 #[.string p0] h R := fnI (A := .z) (by kernel_rfl) H

def W157 (p0 : Sl) (p1 : ByteArray) (h : Heap) (R : Value -> Heap -> Prop) : Prop :=
 (QI 0 h fun I1 i_4 h5 m3 => (
 (sB (decide (i_4 < (p0.n : Int)))
 ((NB p0.a fun b6 o7 => (Ib i_4 p0.n /\
 (∃ x8, rT h5 ⟨b6, o7 + Int.toNat i_4 * 1, none⟩ x8 /\
 (sB ((ByteArray.toList x8) == (ByteArray.toList p1))
 (R (vI i_4) h5)
 ((∃ m9, m9 < m3 /\ I1 (IntKind.wrap .i64 (i_4 + 1)) h5 m9)))))))
 (R (vI (-1)) h5))))
theorem vc157 (p0 : Sl) (p1 : ByteArray) (h : Heap) (R : Value -> Heap -> Prop) (H : W157 p0 p1 h R) : Fn Pz 157 #[vS p0, .string p1] h R := fnI (A := (.s .z (.s (.s .z (.b (.l [(5, .one (.int .i64))] .z))) .z))) (by kernel_rfl) H

def W158 (p0 : Sl) (h : Heap) (R : Value -> Heap -> Prop) : Prop :=
 (sB (decide ((p0.n : Int) > 40))
 (R (.bool false) h)
 ((Fn Pz 189 #[vS p0] h
 (fun v1 h3 => ∃ x2, iI v1 x2 /\
 (sB (decide (x2 > 24))
 (R (.bool false) h3)
 ((QII 0 0 h3 fun I4 first_7 i_8 h9 m6 => (
 (sB (decide (i_8 < (p0.n : Int)))
 ((NB p0.a fun b10 o11 => (Ib i_8 p0.n /\
 (∃ x12 x13 x14 x15 x16, aL8 h9 ⟨b10, o11 + Int.toNat i_8 * 5, none⟩ x12 x13 x14 x15 x16 /\
 (Wn h9 [.string ⟨#[]⟩, .slice none 0 0, vI 0, .slice none 0 0, .slice none 0 0] 153 fun h17 =>
 (Wp h17 (aS h9 0) 5 (L8 x12 x13 x14 x15 x16) fun h18 =>
 (QI 0 h18 fun I19 k_22 h23 m21 => (
 (sB (decide (k_22 < i_8))
 ((NB p0.a fun b24 o25 => (Ib k_22 p0.n /\
 (∃ x26, rT h23 ⟨b24, o25 + Int.toNat k_22 * 5, none⟩ x26 /\
 (∃ x27, rT h23 (aS h9 0) x27 /\
 (sB ((ByteArray.toList x26) == (ByteArray.toList x27))
 (R (.bool false) h23)
 ((∃ m28, m28 < m21 /\ I19 (IntKind.wrap .i64 (k_22 + 1)) h23 m28))))))))
 ((QI 0 h23 fun I29 k_32 h33 m31 => (
 (∃ x34, rS h33 (aS h9 1) x34 /\
 (sB (decide (k_32 < (x34.n : Int)))
 ((∃ x35, rS h33 (aS h9 1) x35 /\
 (NB x35.a fun b36 o37 => (Ib k_32 x35.n /\
 (∃ x38 x39 x40, aL4 h33 ⟨b36, o37 + Int.toNat k_32 * 4 + 1, none⟩ x38 x39 x40 /\
 (Fn Pz 190 #[.agg ⟨(L4 x38 x39 x40)⟩] h33
 (fun v41 h43 => ∃ x42, iB v41 x42 /\
 (sB (!x42)
 (R (.bool false) h43)
 ((∃ x44, rS h43 (aS h9 1) x44 /\
 (NB x44.a fun b45 o46 => (Ib k_32 x44.n /\
 (∃ x47, rT h43 ⟨b45, o46 + Int.toNat k_32 * 4, none⟩ x47 /\
 (Fn Pz 156 #[.string x47] h43
 (fun v48 h50 => ∃ x49, iB v48 x49 /\
 (sB (!x49)
 (R (.bool false) h50)
 ((QI 0 h50 fun I51 j_54 h55 m53 => (
 (sB (decide (j_54 < k_32))
 ((∃ x56, rS h55 (aS h9 1) x56 /\
 (NB x56.a fun b57 o58 => (Ib j_54 x56.n /\
 (∃ x59, rT h55 ⟨b57, o58 + Int.toNat j_54 * 4, none⟩ x59 /\
 (∃ x60, rS h55 (aS h9 1) x60 /\
 (NB x60.a fun b61 o62 => (Ib k_32 x60.n /\
 (∃ x63, rT h55 ⟨b61, o62 + Int.toNat k_32 * 4, none⟩ x63 /\
 (sB ((ByteArray.toList x59) == (ByteArray.toList x63))
 (R (.bool false) h55)
 ((∃ m64, m64 < m53 /\ I51 (IntKind.wrap .i64 (j_54 + 1)) h55 m64))))))))))))
 ((∃ m65, m65 < m31 /\ I29 (IntKind.wrap .i64 (k_32 + 1)) h55 m65))))))))))))))))))))))
 ((∃ x66, rT h33 (aS h9 0) x66 /\
 (Fn Pz 191 #[.string x66] h33
 (fun v67 h69 => ∃ x68, iB v67 x68 /\
 (sB (!x68)
 (R (.bool false) h69)
 ((∃ x70, rS h69 (aS h9 1) x70 /\
 (sB (decide ((x70.n : Int) > 4))
 (R (.bool false) h69)
 ((∃ x71, rI h69 (aS h9 2) x71 /\
 (sB (x71 != first_7)
 (R (.bool false) h69)
 ((∃ (x72 x73 : Sl), atC h69 (aS h9 3) [vS x72, vS x73] /\
 (Fn Pz 192 #[vS p0, .agg ⟨[vS x72, vS x73]⟩] h69
 (fun v74 h76 => ∃ x75, iB v74 x75 /\
 (sB (!x75)
 (R (.bool false) h76)
 ((∃ x77, rS h76 (aS h9 1) x77 /\
 (∃ m78, m78 < m6 /\ I4 (IntKind.wrap .i64 (first_7 + (x77.n : Int))) (IntKind.wrap .i64 (i_8 + 1)) h76 m78)))))))))))))))))))))))))))))))))
 (R (.bool true) h9))))))))))
theorem vc158 (p0 : Sl) (h : Heap) (R : Value -> Heap -> Prop) (H : W158 p0 h R) : Fn Pz 158 #[vS p0] h R := fnI (A := (.s .z (.s .z (.s .z (.s (.s .z (.b (.l [(3, .one (.int .i64)), (4, .one (.int .i64))] (.s .z (.s (.b (.s .z (.s (.s .z (.b (.l [(6, .one (.int .i64))] .z))) (.s (.s .z (.b (.l [(7, .one (.int .i64))] (.s .z (.s (.b (.s .z (.s .z (.b (.l [(8, .one (.int .i64))] .z))))) .z))))) .z)))) .z))))) .z))))) (by kernel_rfl) H

def W159 (p0_1 : ByteArray) (p0_2 p0_3 : Sl) (p0_4 p0_5 p0_6 : Int) (p0_7 p0_8 : Sl) (p1 : Int) (h : Heap) (R : Value -> Heap -> Prop) : Prop :=
 (Wn h (L1 p0_1 p0_2 p0_3 p0_4 p0_5 p0_6 p0_7 p0_8) 59 fun h9 =>
 (sB (decide (p1 >= 0))
 ((∃ x10, rI h9 (aS h 3) x10 /\
 R (.bool (decide (p1 < x10))) h9))
 (R (.bool false) h9)))
theorem vc159 (p0_1 : ByteArray) (p0_2 p0_3 : Sl) (p0_4 p0_5 p0_6 : Int) (p0_7 p0_8 : Sl) (p1 : Int) (h : Heap) (R : Value -> Heap -> Prop) (H : W159 p0_1 p0_2 p0_3 p0_4 p0_5 p0_6 p0_7 p0_8 p1 h R) : Fn Pz 159 #[.agg ⟨(L1 p0_1 p0_2 p0_3 p0_4 p0_5 p0_6 p0_7 p0_8)⟩, vI p1] h R := fnI (A := .z) (by kernel_rfl) H

def W160 (p0_1 : ByteArray) (p0_2 p0_3 : Sl) (p0_4 p0_5 p0_6 : Int) (p0_7 p0_8 : Sl) (h : Heap) (R : Value -> Heap -> Prop) : Prop :=
 (Wn h (L1 p0_1 p0_2 p0_3 p0_4 p0_5 p0_6 p0_7 p0_8) 59 fun h9 =>
 (∃ x10, rI h9 (aS h 3) x10 /\
 (Mk x10 x10 8 /\ Wn h9 (madeL Pz 3 (Int.toNat x10)) 3 fun h11 =>
 (QI 0 h11 fun I12 s_15 h16 m14 => (
 (∃ x17, rI h16 (aS h 3) x17 /\
 (sB (decide (s_15 < x17))
 (((0 <= (s_15 : Int) /\ (s_15 : Int) < ((Int.toNat x10) : Nat)) /\
 (Wp h16 (aS h9 (0 + Int.toNat s_15 * 1)) 1 [vI (-1)] fun h18 =>
 (∃ m19, m19 < m14 /\ I12 (IntKind.wrap .i64 (s_15 + 1)) h18 m19))))
 ((∃ x20, rI h16 (aS h 5) x20 /\
 ((0 <= (x20 : Int) /\ (x20 : Int) < ((Int.toNat x10) : Nat)) /\
 (Wp h16 (aS h9 (0 + Int.toNat x20 * 1)) 1 [vI 0] fun h21 =>
 (QI 0 h21 fun I22 n_25 h26 m24 => (
 (∃ x27, rI h26 (aS h 3) x27 /\
 (sB (decide (n_25 < x27))
 ((QI 0 h26 fun I28 i_31 h32 m30 => (
 (∃ x33, rS h32 (aS h 6) x33 /\
 (sB (decide (i_31 < (x33.n : Int)))
 ((∃ x34, rS h32 (aS h 6) x34 /\
 (NB x34.a fun b35 o36 => (Ib i_31 x34.n /\
 (∃ x37 x38 x39 x40 x41 x42, aL5 h32 ⟨b35, o36 + Int.toNat i_31 * 6, none⟩ x37 x38 x39 x40 x41 x42 /\
 (Wn h32 [vI 0, vI 0, vI 0, vI 0, vI 0, .bool false] 145 fun h43 =>
 (Wp h43 (aS h32 0) 6 (L5 x37 x38 x39 x40 x41 x42) fun h44 =>
 (∃ x45, rI h44 (aS h32 4) x45 /\
 ((0 <= (x45 : Int) /\ (x45 : Int) < ((Int.toNat x10) : Nat)) /\
 (∃ x46, rI h44 (aS h9 (0 + Int.toNat x45 * 1)) x46 /\
 (sB (x46 == n_25)
 ((∃ x47, rI h44 (aS h32 0) x47 /\
 ((0 <= (x47 : Int) /\ (x47 : Int) < ((Int.toNat x10) : Nat)) /\
 (∃ x48, rI h44 (aS h9 (0 + Int.toNat x47 * 1)) x48 /\
 (sB (decide (x48 < 0))
 ((∃ x49, rI h44 (aS h32 0) x49 /\
 ((0 <= (x49 : Int) /\ (x49 : Int) < ((Int.toNat x10) : Nat)) /\
 (Wp h44 (aS h9 (0 + Int.toNat x49 * 1)) 1 [vI (IntKind.wrap .i64 (n_25 + 1))] fun h50 =>
 (∃ m51, m51 < m30 /\ I28 (IntKind.wrap .i64 (i_31 + 1)) h50 m51)))))
 ((∃ m52, m52 < m30 /\ I28 (IntKind.wrap .i64 (i_31 + 1)) h44 m52)))))))
 ((∃ m53, m53 < m30 /\ I28 (IntKind.wrap .i64 (i_31 + 1)) h44 m53)))))))))))))
 ((∃ m54, m54 < m24 /\ I22 (IntKind.wrap .i64 (n_25 + 1)) h32 m54)))))))
 (R (.slice (some (aS h9 0)) (Int.toNat x10) (Int.toNat x10)) h26))))))))))))))))
theorem vc160 (p0_1 : ByteArray) (p0_2 p0_3 : Sl) (p0_4 p0_5 p0_6 : Int) (p0_7 p0_8 : Sl) (h : Heap) (R : Value -> Heap -> Prop) (H : W160 p0_1 p0_2 p0_3 p0_4 p0_5 p0_6 p0_7 p0_8 h R) : Fn Pz 160 #[.agg ⟨(L1 p0_1 p0_2 p0_3 p0_4 p0_5 p0_6 p0_7 p0_8)⟩] h R := fnI (A := (.s .z (.s .z (.s (.s .z (.b (.l [(4, .one (.int .i64))] .z))) (.s .z (.s (.s .z (.b (.l [(5, .one (.int .i64))] (.s .z (.s (.b (.s .z (.b (.l [(6, .one (.int .i64))] .z)))) .z))))) .z)))))) (by kernel_rfl) H

def W161 (p0_1 : ByteArray) (p0_2 p0_3 : Sl) (p0_4 p0_5 p0_6 : Int) (p0_7 p0_8 : Sl) (p1 : Int) (h : Heap) (R : Value -> Heap -> Prop) : Prop :=
 (Wn h (L1 p0_1 p0_2 p0_3 p0_4 p0_5 p0_6 p0_7 p0_8) 59 fun h9 =>
 (QSI ⟨none, 0, 0⟩ 0 h9 fun I10 out_13 i_14 h15 m12 => (
 (∃ x16, rS h15 (aS h 6) x16 /\
 (sB (decide (i_14 < (x16.n : Int)))
 ((∃ x17, rS h15 (aS h 6) x17 /\
 (NB x17.a fun b18 o19 => (Ib i_14 x17.n /\
 (∃ x20, rI h15 ⟨b18, o19 + Int.toNat i_14 * 6, none⟩ x20 /\
 (sB (x20 != p1)
 ((∃ m21, m21 < m12 /\ I10 out_13 (IntKind.wrap .i64 (i_14 + 1)) h15 m21))
 ((QI 0 h15 fun I22 at_25 h26 m24 => (
 (sB (decide (at_25 < (out_13.n : Int)))
 ((∃ x27 x28 x29 x30 x31 x32 x33 x34, aL1 h26 (aS h 0) x27 x28 x29 x30 x31 x32 x33 x34 /\
 (NB out_13.a fun b35 o36 => (Ib at_25 out_13.n /\
 (∃ x37, rI h26 ⟨b35, o36 + Int.toNat at_25 * 1, none⟩ x37 /\
 (Fn Pz 193 #[.agg ⟨(L1 x27 x28 x29 x30 x31 x32 x33 x34)⟩, vI x37, vI i_14] h26
 (fun v38 h40 => ∃ x39, iB v38 x39 /\
 (sB x39
 ((∃ m41, m41 < m24 /\ I22 (IntKind.wrap .i64 (at_25 + 1)) h40 m41))
 ((((0 : Int) <= (0 : Int) /\ (0 : Int) <= (at_25 : Int) /\ (at_25 : Int) <= (out_13.c : Nat)) /\
 (((0 : Int) <= (at_25 : Int) /\ (at_25 : Int) <= ((out_13.n : Nat) : Int) /\ ((out_13.n : Nat) : Int) <= (out_13.c : Nat)) /\
 (Wn h40 [vI i_14] 3 fun h42 =>
 (App Pz 49 49 (.slice (some (aS h40 0)) 1 1) (.slice (subA out_13.a (Int.toNat at_25) out_13.c 1) (Int.toNat (out_13.n : Nat) - Int.toNat at_25) (out_13.c - Int.toNat at_25)) h42 fun s43 h44 =>
 (App Pz 49 49 (.slice (subA out_13.a (Int.toNat 0) out_13.c 1) (Int.toNat at_25 - Int.toNat 0) (out_13.c - Int.toNat 0)) (vS s43) h44 fun s45 h46 =>
 (∃ m47, m47 < m12 /\ I10 s45 (IntKind.wrap .i64 (i_14 + 1)) h46 m47)))))))))))))))
 ((((0 : Int) <= (0 : Int) /\ (0 : Int) <= (at_25 : Int) /\ (at_25 : Int) <= (out_13.c : Nat)) /\
 (((0 : Int) <= (at_25 : Int) /\ (at_25 : Int) <= ((out_13.n : Nat) : Int) /\ ((out_13.n : Nat) : Int) <= (out_13.c : Nat)) /\
 (Wn h26 [vI i_14] 3 fun h48 =>
 (App Pz 49 49 (.slice (some (aS h26 0)) 1 1) (.slice (subA out_13.a (Int.toNat at_25) out_13.c 1) (Int.toNat (out_13.n : Nat) - Int.toNat at_25) (out_13.c - Int.toNat at_25)) h48 fun s49 h50 =>
 (App Pz 49 49 (.slice (subA out_13.a (Int.toNat 0) out_13.c 1) (Int.toNat at_25 - Int.toNat 0) (out_13.c - Int.toNat 0)) (vS s49) h50 fun s51 h52 =>
 (∃ m53, m53 < m12 /\ I10 s51 (IntKind.wrap .i64 (i_14 + 1)) h52 m53)))))))))))))))))
 (R (vS out_13) h15))))))
theorem vc161 (p0_1 : ByteArray) (p0_2 p0_3 : Sl) (p0_4 p0_5 p0_6 : Int) (p0_7 p0_8 : Sl) (p1 : Int) (h : Heap) (R : Value -> Heap -> Prop) (H : W161 p0_1 p0_2 p0_3 p0_4 p0_5 p0_6 p0_7 p0_8 p1 h R) : Fn Pz 161 #[.agg ⟨(L1 p0_1 p0_2 p0_3 p0_4 p0_5 p0_6 p0_7 p0_8)⟩, vI p1] h R := fnI (A := (.s .z (.s .z (.s (.s .z (.b (.l [(5, .one (.slice)), (6, .one (.int .i64))] (.s .z (.s (.b (.s .z (.s .z (.s (.b (.l [(7, .one (.int .i64))] .z)) .z)))) .z))))) .z)))) (by kernel_rfl) H

def W186 (p0 : ByteArray) (h : Heap) (R : Value -> Heap -> Prop) : Prop :=
 (sB ((ByteArray.toList p0) == (ByteArray.toList ⟨#[]⟩))
 (R (.bool false) h)
 (((0 <= (0 : Int) /\ (0 : Int) < (ByteArray.size p0 : Nat)) /\
 (Fn Pz 223 #[.int .u8 (byteAt p0 (Int.toNat 0) : Int)] h
 (fun v1 h3 => ∃ x2, iB v1 x2 /\
 (sB (!x2)
 (R (.bool false) h3)
 ((sB (decide ((ByteArray.size p0 : Int) > 16))
 (R (.bool false) h3)
 ((QI 0 h3 fun I4 i_7 h8 m6 => (
 (sB (decide (i_7 < (ByteArray.size p0 : Int)))
 (((0 <= (i_7 : Int) /\ (i_7 : Int) < (ByteArray.size p0 : Nat)) /\
 (Fn Pz 224 #[.int .u8 (byteAt p0 (Int.toNat i_7) : Int)] h8
 (fun v9 h11 => ∃ x10, iB v9 x10 /\
 (sB (!x10)
 (R (.bool false) h11)
 ((∃ m12, m12 < m6 /\ I4 (IntKind.wrap .i64 (i_7 + 1)) h11 m12)))))))
 (R (.bool true) h8)))))))))))))
theorem vc186 (p0 : ByteArray) (h : Heap) (R : Value -> Heap -> Prop) (H : W186 p0 h R) : Fn Pz 186 #[.string p0] h R := fnI (A := (.s .z (.s .z (.s (.s .z (.b (.l [(3, .one (.int .i64))] .z))) .z)))) (by kernel_rfl) H

def W187 (p0 : Sl) (p1 : ByteArray) (h : Heap) (R : Value -> Heap -> Prop) : Prop :=
 (QI 0 h fun I1 i_4 h5 m3 => (
 (sB (decide (i_4 < (p0.n : Int)))
 ((NB p0.a fun b6 o7 => (Ib i_4 p0.n /\
 (∃ x8, rT h5 ⟨b6, o7 + Int.toNat i_4 * 1, none⟩ x8 /\
 (sB ((ByteArray.toList x8) == (ByteArray.toList p1))
 (R (.bool true) h5)
 ((∃ m9, m9 < m3 /\ I1 (IntKind.wrap .i64 (i_4 + 1)) h5 m9)))))))
 (R (.bool false) h5))))
theorem vc187 (p0 : Sl) (p1 : ByteArray) (h : Heap) (R : Value -> Heap -> Prop) (H : W187 p0 p1 h R) : Fn Pz 187 #[vS p0, .string p1] h R := fnI (A := (.s .z (.s (.s .z (.b (.l [(5, .one (.int .i64))] .z))) .z))) (by kernel_rfl) H

def W188  (h : Heap) (R : Value -> Heap -> Prop) : Prop :=
 (Wn h [.string ⟨#[97, 103, 97, 105, 110]⟩, .string ⟨#[97, 110, 100]⟩, .string ⟨#[97, 115]⟩, .string ⟨#[97, 116]⟩, .string ⟨#[99, 97, 108, 108]⟩, .string ⟨#[99, 104, 111, 105, 99, 101]⟩, .string ⟨#[101, 108, 115, 101]⟩, .string ⟨#[102, 114, 111, 109]⟩, .string ⟨#[105, 102]⟩, .string ⟨#[105, 110, 116]⟩, .string ⟨#[108, 101, 110]⟩, .string ⟨#[108, 111, 111, 112]⟩, .string ⟨#[109, 101, 115, 115, 97, 103, 101]⟩, .string ⟨#[111, 102]⟩, .string ⟨#[111, 102, 102, 101, 114]⟩, .string ⟨#[111, 110]⟩, .string ⟨#[111, 114]⟩, .string ⟨#[112, 97, 114]⟩, .string ⟨#[112, 108, 97, 121, 115]⟩, .string ⟨#[112, 114, 111, 116, 111, 99, 111, 108]⟩, .string ⟨#[115, 101, 114, 118, 105, 99, 101]⟩, .string ⟨#[116, 101, 120, 116]⟩, .string ⟨#[116, 105, 109, 101, 115]⟩, .string ⟨#[116, 111]⟩, .string ⟨#[118, 97, 114]⟩, .string ⟨#[119, 104, 101, 114, 101]⟩, .string ⟨#[119, 104, 105, 108, 101]⟩, .string ⟨#[119, 105, 116, 104, 105, 110]⟩] 9 fun h1 =>
 R (.slice (some (aS h 0)) 28 28) h1)
theorem vc188e  (h : Heap) (R : Value -> Heap -> Prop) : W188  h R = fnW Pz 188 .z #[] h R := by kernel_rfl
theorem vc188  (h : Heap) (R : Value -> Heap -> Prop) (H : W188  h R) : Fn Pz 188 #[] h R := fnI (vc188e  h R) H

def W189 (p0 : Sl) (h : Heap) (R : Value -> Heap -> Prop) : Prop :=
 (QII 0 0 h fun I1 n_4 i_5 h6 m3 => (
 (sB (decide (i_5 < (p0.n : Int)))
 ((NB p0.a fun b7 o8 => (Ib i_5 p0.n /\
 (∃ x9, rS h6 ⟨b7, o8 + Int.toNat i_5 * 5 + 1, none⟩ x9 /\
 (∃ m10, m10 < m3 /\ I1 (IntKind.wrap .i64 (n_4 + (x9.n : Int))) (IntKind.wrap .i64 (i_5 + 1)) h6 m10)))))
 (R (vI n_4) h6))))
theorem vc189 (p0 : Sl) (h : Heap) (R : Value -> Heap -> Prop) (H : W189 p0 h R) : Fn Pz 189 #[vS p0] h R := fnI (A := (.s .z (.s .z (.s (.s .z (.b (.l [(3, .one (.int .i64)), (4, .one (.int .i64))] .z))) .z)))) (by kernel_rfl) H

def W190 (p0_1 p0_2 p0_3 : Int) (h : Heap) (R : Value -> Heap -> Prop) : Prop :=
 (Wn h (L4 p0_1 p0_2 p0_3) 246 fun h4 =>
 (∃ J5 : Int -> Int -> Heap -> Prop,
 ((∃ x6, rI h4 (aS h 0) x6 /\
 (sB (x6 == 2)
 ((J5 0 40 h4))
 ((J5 (-1000) 1000 h4))))) /\
 (∀ (_ : Env) (least_7 most_8 : Int) (h9 : Heap), J5 least_7 most_8 h9 ->
 (∃ x10, rI h9 (aS h 0) x10 /\
 (sB (x10 == 1)
 ((∃ x11, rI h9 (aS h 1) x11 /\
 (sB (decide (x11 >= least_7))
 ((∃ x12, rI h9 (aS h 2) x12 /\
 (sB (decide (x12 <= most_8))
 ((∃ x13, rI h9 (aS h 1) x13 /\
 (∃ x14, rI h9 (aS h 2) x14 /\
 R (.bool (decide (x13 <= x14))) h9)))
 (R (.bool false) h9))))
 (R (.bool false) h9))))
 ((∃ x15, rI h9 (aS h 0) x15 /\
 (sB (x15 == 2)
 ((∃ x16, rI h9 (aS h 1) x16 /\
 (sB (decide (x16 >= least_7))
 ((∃ x17, rI h9 (aS h 2) x17 /\
 (sB (decide (x17 <= most_8))
 ((∃ x18, rI h9 (aS h 1) x18 /\
 (∃ x19, rI h9 (aS h 2) x19 /\
 R (.bool (decide (x18 <= x19))) h9)))
 (R (.bool false) h9))))
 (R (.bool false) h9))))
 (R (.bool false) h9)))))))))
theorem vc190 (p0_1 p0_2 p0_3 : Int) (h : Heap) (R : Value -> Heap -> Prop) (H : W190 p0_1 p0_2 p0_3 h R) : Fn Pz 190 #[.agg ⟨(L4 p0_1 p0_2 p0_3)⟩] h R := fnI (A := (.s .z (.s .z (.j [(3, .one (.int .i64)), (4, .one (.int .i64))] .z .z)))) (by kernel_rfl) H

def W191 (p0 : ByteArray) (h : Heap) (R : Value -> Heap -> Prop) : Prop :=
 (QII 0 0 h fun I1 from_4 i_5 h6 m3 => (
 (sB (decide (i_5 <= (ByteArray.size p0 : Int)))
 ((sB (i_5 == (ByteArray.size p0 : Int))
 ((((0 : Int) <= (from_4 : Int) /\ (from_4 : Int) <= (i_5 : Int) /\ (i_5 : Int) <= (ByteArray.size p0 : Nat)) /\
 (Fn Pz 225 #[.string (ByteArray.extract p0 (Int.toNat from_4) (Int.toNat i_5))] h6
 (fun v7 h9 => ∃ x8, iB v7 x8 /\
 (sB (!x8)
 (R (.bool false) h9)
 ((∃ m10, m10 < m3 /\ I1 (IntKind.wrap .i64 (i_5 + 1)) (IntKind.wrap .i64 (i_5 + 1)) h9 m10)))))))
 (((0 <= (i_5 : Int) /\ (i_5 : Int) < (ByteArray.size p0 : Nat)) /\
 (sB ((byteAt p0 (Int.toNat i_5) : Int) == 46)
 ((((0 : Int) <= (from_4 : Int) /\ (from_4 : Int) <= (i_5 : Int) /\ (i_5 : Int) <= (ByteArray.size p0 : Nat)) /\
 (Fn Pz 225 #[.string (ByteArray.extract p0 (Int.toNat from_4) (Int.toNat i_5))] h6
 (fun v11 h13 => ∃ x12, iB v11 x12 /\
 (sB (!x12)
 (R (.bool false) h13)
 ((∃ m14, m14 < m3 /\ I1 (IntKind.wrap .i64 (i_5 + 1)) (IntKind.wrap .i64 (i_5 + 1)) h13 m14)))))))
 ((∃ m15, m15 < m3 /\ I1 from_4 (IntKind.wrap .i64 (i_5 + 1)) h6 m15)))))))
 (R (.bool (decide ((ByteArray.size p0 : Int) <= 50))) h6))))
theorem vc191 (p0 : ByteArray) (h : Heap) (R : Value -> Heap -> Prop) (H : W191 p0 h R) : Fn Pz 191 #[.string p0] h R := fnI (A := (.s .z (.s .z (.s (.s .z (.b (.l [(3, .one (.int .i64)), (4, .one (.int .i64))] .z))) .z)))) (by kernel_rfl) H

def W192 (p0 p1_1 p1_2 : Sl) (h : Heap) (R : Value -> Heap -> Prop) : Prop :=
 (Wn h [vS p1_1, vS p1_2] 151 fun h3 =>
 (Fn Pz 189 #[vS p0] h3
 (fun v4 h6 => ∃ x5, iI v4 x5 /\
 (QI 0 h6 fun I7 i_10 h11 m9 => (
 (∃ x12, rS h11 (aS h 0) x12 /\
 (sB (decide (i_10 < (x12.n : Int)))
 ((∃ x13, rS h11 (aS h 0) x13 /\
 (NB x13.a fun b14 o15 => (Ib i_10 x13.n /\
 (∃ x16 x17 x18, aL4 h11 ⟨b14, o15 + Int.toNat i_10 * 3, none⟩ x16 x17 x18 /\
 (Wn h11 [vI 0, vI 0, vI 0] 277 fun h19 =>
 (Wp h19 (aS h11 0) 3 (L4 x16 x17 x18) fun h20 =>
 (∃ x21, rI h20 (aS h11 0) x21 /\
 (sB (decide (x21 < (-1)))
 (R (.bool false) h20)
 ((∃ x22, rI h20 (aS h11 0) x22 /\
 (sB (decide (x22 >= x5))
 (R (.bool false) h20)
 ((∃ x23, rI h20 (aS h11 1) x23 /\
 (sB (decide (x23 < (-1)))
 (R (.bool false) h20)
 ((∃ x24, rI h20 (aS h11 1) x24 /\
 (sB (decide (x24 >= x5))
 (R (.bool false) h20)
 ((∃ x25, rI h20 (aS h11 2) x25 /\
 (sB (decide (x25 < (-20000)))
 (R (.bool false) h20)
 ((∃ x26, rI h20 (aS h11 2) x26 /\
 (sB (decide (x26 > 20000))
 (R (.bool false) h20)
 ((∃ m27, m27 < m9 /\ I7 (IntKind.wrap .i64 (i_10 + 1)) h20 m27))))))))))))))))))))))))))
 ((QI 0 h11 fun I28 i_31 h32 m30 => (
 (∃ x33, rS h32 (aS h 1) x33 /\
 (sB (decide (i_31 < (x33.n : Int)))
 ((∃ x34, rS h32 (aS h 1) x34 /\
 (NB x34.a fun b35 o36 => (Ib i_31 x34.n /\
 (Ib 0 2 /\
 (∃ x37, rI h32 ⟨b35, o36 + Int.toNat i_31 * 2 + Int.toNat 0 * 1, none⟩ x37 /\
 (Fn Pz 226 #[vS p0, vI x37] h32
 (fun v38 h40 => ∃ x39, iB v38 x39 /\
 (sB (!x39)
 (R (.bool false) h40)
 ((∃ x41, rS h40 (aS h 1) x41 /\
 (NB x41.a fun b42 o43 => (Ib i_31 x41.n /\
 (Ib 1 2 /\
 (∃ x44, rI h40 ⟨b42, o43 + Int.toNat i_31 * 2 + Int.toNat 1 * 1, none⟩ x44 /\
 (Fn Pz 226 #[vS p0, vI x44] h40
 (fun v45 h47 => ∃ x46, iB v45 x46 /\
 (sB (!x46)
 (R (.bool false) h47)
 ((∃ m48, m48 < m30 /\ I28 (IntKind.wrap .i64 (i_31 + 1)) h47 m48))))))))))))))))))))
 ((∃ x49, rS h32 (aS h 0) x49 /\
 (sB (decide ((x49.n : Int) <= 20))
 ((∃ x50, rS h32 (aS h 1) x50 /\
 R (.bool (decide ((x50.n : Int) <= 20))) h32))
 (R (.bool false) h32))))))))))))))))
theorem vc192 (p0 p1_1 p1_2 : Sl) (h : Heap) (R : Value -> Heap -> Prop) (H : W192 p0 p1_1 p1_2 h R) : Fn Pz 192 #[vS p0, .agg ⟨[vS p1_1, vS p1_2]⟩] h R := fnI (A := (.s .z (.s .z (.s (.s .z (.b (.l [(6, .one (.int .i64))] .z))) (.s (.s .z (.b (.l [(8, .one (.int .i64))] .z))) .z))))) (by kernel_rfl) H

def W193 (p0_1 : ByteArray) (p0_2 p0_3 : Sl) (p0_4 p0_5 p0_6 : Int) (p0_7 p0_8 : Sl) (p1 p2 : Int) (h : Heap) (R : Value -> Heap -> Prop) : Prop :=
 (Wn h (L1 p0_1 p0_2 p0_3 p0_4 p0_5 p0_6 p0_7 p0_8) 59 fun h9 =>
 (∃ x10, rS h9 (aS h 6) x10 /\
 (NB x10.a fun b11 o12 => (Ib p1 x10.n /\
 (∃ x13 x14 x15, aL4 h9 ⟨b11, o12 + Int.toNat p1 * 6 + 1, none⟩ x13 x14 x15 /\
 (∃ x16, rS h9 (aS h 6) x16 /\
 (NB x16.a fun b17 o18 => (Ib p2 x16.n /\
 (∃ x19 x20 x21, aL4 h9 ⟨b17, o18 + Int.toNat p2 * 6 + 1, none⟩ x19 x20 x21 /\
 ((Wn h9 [vI 0, vI 0, vI 0] 143 fun h22 =>
 (Sm [⟨b17, o18 + Int.toNat p2 * 6 + 1, none⟩, (aS h 6), ⟨b11, o12 + Int.toNat p1 * 6 + 1, none⟩, (aS h 6)] h9 h22 /\
 (Wn h22 [vI 0, vI 0, vI 0] 143 fun h23 =>
 (Sm [⟨b17, o18 + Int.toNat p2 * 6 + 1, none⟩, (aS h 6), ⟨b11, o12 + Int.toNat p1 * 6 + 1, none⟩, (aS h 6)] h22 h23 /\
 (Wp h23 (aS h9 0) 3 (L4 x13 x14 x15) fun h24 =>
 (Sm [⟨b17, o18 + Int.toNat p2 * 6 + 1, none⟩, (aS h 6)] h23 h24 /\
 (Wp h24 (aS h22 0) 3 (L4 x19 x20 x21) fun h25 =>
 (∃ x26, rI h25 (aS h9 1) x26 /\
 (∃ x27, rI h25 (aS h22 1) x27 /\
 (sB (x26 != x27)
 ((∃ x28, rI h25 (aS h9 1) x28 /\
 (∃ x29, rI h25 (aS h22 1) x29 /\
 R (.bool (decide (x28 < x29))) h25)))
 ((∃ x30, rI h25 (aS h9 2) x30 /\
 (∃ x31, rI h25 (aS h22 2) x31 /\
 (sB (x30 != x31)
 ((∃ x32, rI h25 (aS h9 2) x32 /\
 (∃ x33, rI h25 (aS h22 2) x33 /\
 R (.bool (decide (x32 < x33))) h25)))
 (R (.bool (decide (p1 < p2))) h25)))))))))))))))) /\ ((Wn h9 [vI 0, vI 0, vI 0] 143 fun h34 =>
 (Sm [⟨b17, o18 + Int.toNat p2 * 6 + 1, none⟩, (aS h 6), ⟨b11, o12 + Int.toNat p1 * 6 + 1, none⟩, (aS h 6)] h9 h34 /\
 (Wn h34 [vI 0, vI 0, vI 0] 143 fun h35 =>
 (Sm [⟨b17, o18 + Int.toNat p2 * 6 + 1, none⟩, (aS h 6), ⟨b11, o12 + Int.toNat p1 * 6 + 1, none⟩, (aS h 6)] h34 h35 /\
 (Wp h35 (aS h34 0) 3 (L4 x13 x14 x15) fun h36 =>
 (Sm [⟨b17, o18 + Int.toNat p2 * 6 + 1, none⟩, (aS h 6)] h35 h36 /\
 (Wp h36 (aS h9 0) 3 (L4 x19 x20 x21) fun h37 =>
 (∃ x38, rI h37 (aS h34 1) x38 /\
 (∃ x39, rI h37 (aS h9 1) x39 /\
 (sB (x38 != x39)
 ((∃ x40, rI h37 (aS h34 1) x40 /\
 (∃ x41, rI h37 (aS h9 1) x41 /\
 R (.bool (decide (x40 < x41))) h37)))
 ((∃ x42, rI h37 (aS h34 2) x42 /\
 (∃ x43, rI h37 (aS h9 2) x43 /\
 (sB (x42 != x43)
 ((∃ x44, rI h37 (aS h34 2) x44 /\
 (∃ x45, rI h37 (aS h9 2) x45 /\
 R (.bool (decide (x44 < x45))) h37)))
 (R (.bool (decide (p1 < p2))) h37)))))))))))))))))))))))))
theorem vc193 (p0_1 : ByteArray) (p0_2 p0_3 : Sl) (p0_4 p0_5 p0_6 : Int) (p0_7 p0_8 : Sl) (p1 p2 : Int) (h : Heap) (R : Value -> Heap -> Prop) (H : W193 p0_1 p0_2 p0_3 p0_4 p0_5 p0_6 p0_7 p0_8 p1 p2 h R) : Fn Pz 193 #[.agg ⟨(L1 p0_1 p0_2 p0_3 p0_4 p0_5 p0_6 p0_7 p0_8)⟩, vI p1, vI p2] h R := fnI (A := .z) (by kernel_rfl) H

def W223 (p0 : Int) (h : Heap) (R : Value -> Heap -> Prop) : Prop :=
 (sB (decide (p0 >= 97))
 ((sB (decide (p0 <= 122))
 (R (.bool true) h)
 ((sB (decide (p0 >= 65))
 (R (.bool (decide (p0 <= 90))) h)
 (R (.bool false) h)))))
 ((sB (decide (p0 >= 65))
 (R (.bool (decide (p0 <= 90))) h)
 (R (.bool false) h))))
theorem vc223 (p0 : Int) (h : Heap) (R : Value -> Heap -> Prop) (H : W223 p0 h R) : Fn Pz 223 #[.int .u8 p0] h R := fnI (A := .z) (by kernel_rfl) H

def W224 (p0 : Int) (h : Heap) (R : Value -> Heap -> Prop) : Prop :=
 (Fn Pz 223 #[.int .u8 p0] h
 (fun v1 h3 => ∃ x2, iB v1 x2 /\
 (sB x2
 (R (.bool true) h3)
 ((Fn Pz 255 #[.int .u8 p0] h3
 (fun v4 h6 => ∃ x5, iB v4 x5 /\
 (sB x5
 (R (.bool true) h6)
 (R (.bool (p0 == 95)) h6))))))))
theorem vc224 (p0 : Int) (h : Heap) (R : Value -> Heap -> Prop) (H : W224 p0 h R) : Fn Pz 224 #[.int .u8 p0] h R := fnI (A := .z) (by kernel_rfl) H

def W225 (p0 : ByteArray) (h : Heap) (R : Value -> Heap -> Prop) : Prop :=
 (Fn Pz 156 #[.string p0] h
 (fun v1 h3 => ∃ x2, iB v1 x2 /\
 R (.bool x2) h3))
theorem vc225 (p0 : ByteArray) (h : Heap) (R : Value -> Heap -> Prop) (H : W225 p0 h R) : Fn Pz 225 #[.string p0] h R := fnI (A := .z) (by kernel_rfl) H

def W226 (p0 : Sl) (p1 : Int) (h : Heap) (R : Value -> Heap -> Prop) : Prop :=
 (sB (decide (p1 >= 0))
 ((Fn Pz 189 #[vS p0] h
 (fun v1 h3 => ∃ x2, iI v1 x2 /\
 (sB (decide (p1 < x2))
 ((Fn Pz 256 #[vS p0, vI p1] h3
 (fun v4 h9 => ∃ (x5 : ByteArray) (x6 x7 x8 : Int), v4 = .agg ⟨(L7 x5 x6 x7 x8)⟩ /\
 R (.bool (x6 == 2)) h9)))
 (R (.bool false) h3)))))
 (R (.bool false) h))
theorem vc226 (p0 : Sl) (p1 : Int) (h : Heap) (R : Value -> Heap -> Prop) (H : W226 p0 p1 h R) : Fn Pz 226 #[vS p0, vI p1] h R := fnI (A := .z) (by kernel_rfl) H

def W255 (p0 : Int) (h : Heap) (R : Value -> Heap -> Prop) : Prop :=
 (sB (decide (p0 >= 48))
 (R (.bool (decide (p0 <= 57))) h)
 (R (.bool false) h))
theorem vc255 (p0 : Int) (h : Heap) (R : Value -> Heap -> Prop) (H : W255 p0 h R) : Fn Pz 255 #[.int .u8 p0] h R := fnI (A := .z) (by kernel_rfl) H

def W256 (p0 : Sl) (p1 : Int) (h : Heap) (R : Value -> Heap -> Prop) : Prop :=
 (Wn h [.string ⟨#[]⟩, vI 0, vI 0, vI 0] 248 fun h1 =>
 (QII p1 0 h1 fun I2 x_5 i_6 h7 m4 => (
 (sB (decide (i_6 < (p0.n : Int)))
 ((NB p0.a fun b8 o9 => (Ib i_6 p0.n /\
 (∃ x10, rS h7 ⟨b8, o9 + Int.toNat i_6 * 5 + 1, none⟩ x10 /\
 (sB (decide (x_5 < (x10.n : Int)))
 ((NB p0.a fun b11 o12 => (Ib i_6 p0.n /\
 (∃ x13, rS h7 ⟨b11, o12 + Int.toNat i_6 * 5 + 1, none⟩ x13 /\
 (NB x13.a fun b14 o15 => (Ib x_5 x13.n /\
 (∃ x16 x17 x18 x19, aL7 h7 ⟨b14, o15 + Int.toNat x_5 * 4, none⟩ x16 x17 x18 x19 /\
 (Wp h7 (aS h 0) 4 (L7 x16 x17 x18 x19) fun h20 =>
 (∃ x21 x22 x23 x24, aL7 h20 (aS h 0) x21 x22 x23 x24 /\
 R (.agg ⟨(L7 x21 x22 x23 x24)⟩) h20)))))))))
 ((NB p0.a fun b25 o26 => (Ib i_6 p0.n /\
 (∃ x27, rS h7 ⟨b25, o26 + Int.toNat i_6 * 5 + 1, none⟩ x27 /\
 (∃ m28, m28 < m4 /\ I2 (IntKind.wrap .i64 (x_5 - (x27.n : Int))) (IntKind.wrap .i64 (i_6 + 1)) h7 m28))))))))))
 ((Wp h7 (aS h 0) 4 [.string ⟨#[]⟩, vI 0, vI 0, vI 0] fun h29 =>
 (∃ x30 x31 x32 x33, aL7 h29 (aS h 0) x30 x31 x32 x33 /\
 R (.agg ⟨(L7 x30 x31 x32 x33)⟩) h29)))))))
theorem vc256 (p0 : Sl) (p1 : Int) (h : Heap) (R : Value -> Heap -> Prop) (H : W256 p0 p1 h R) : Fn Pz 256 #[vS p0, vI p1] h R := fnI (A := (.s .z (.s (.s .z (.b (.l [(1, .one (.int .i64)), (5, .one (.int .i64))] .z))) .z))) (by kernel_rfl) H

end Go.VC
end

section
/- Contracts: the reference's Next and Run; equality of machines on both sides; the walk of the law of runs. (Numbers of layer 26's seat.) -/
namespace Go.VC
open Go.Proofs Go.LexS
namespace M
theorem first_hit {α : Type} {p : α -> Bool} : ∀ (l : List α) (i : Nat) (y : α), l[i]? = some y -> p y = true -> (∀ (j : Nat) z, j < i -> l[j]? = some z -> p z = false) -> l.find? p = some y
 | [], i, y, h, _, _ => by simp at h
 | a :: l, 0, y, h, hp, _ => by simp at h; subst h; rw [List.find?_cons, hp]
 | a :: l, i + 1, y, h, hp, hn => by
  rw [List.find?_cons, hn 0 a (by omega) rfl]
  exact first_hit l i y (by simpa using h) hp fun j z hj hz => hn (j + 1) z (by omega) (by simpa using hz)
end M
theorem eqB50 (L K : List Bool) (s s2 : Sl) (h : Heap) (hr : Rw h 1 s (L.map bC)) (hr2 : Rw h 1 s2 (K.map bC)) (hl : L.length <= 1048576) : Fn Pz 50 #[.slice s.a s.n s.c, .slice s2.a s2.n s2.c] h (RP (L = K) h) := by
 apply vc50 s s2; unfold W50
 have hn := hr.ln
 have hn2 := hr2.ln
 refine sBn (fun c => RP.f (fun e => by subst e; omega) .rfl') (fun c => ?_)
 refine up_loop (n := s.n) (fun i h' => Ext h h' /\ ∀ (j : Nat) x y, j < i -> L[j]? = some x -> K[j]? = some y -> x = y) ⟨.rfl', fun j x y hj => by omega⟩ ?_
 rintro - i h5 hi ⟨E, hq⟩
 refine sB_intro (fun c1 => ?_) (fun c1 => RP.t (Yyr fun i => ?_) E)
 ·
  replace c1 := lt_t c1
  refine (hr.ext E).nbI (by omega) (by omega) fun b6 o7 x gx t => ?_
  replace gx : L[i]? = some x := gx
  refine ⟨_, t.hd, ?_⟩
  refine (hr2.ext E).nbI (by omega) (by omega) fun b9 o10 y gy t2 => ?_
  replace gy : K[i]? = some y := gy
  refine ⟨_, t2.hd, sB_intro (fun c2 => RP.f (fun e => ?_) E) (fun c2 => Up.next c1 (by omega) ⟨E, fun j x' y' hj hx hy => ?_⟩)⟩
  ·
   subst e; rw [gx] at gy; cases gy; simp at c2
  ·
   by_cases e : j = i
   ·
    subst e; rw [gx] at hx; rw [gy] at hy; cases hx; cases hy
    simpa using c2
   ·
    exact hq j x' y' (by omega) hx hy
 ·
  replace c1 := lt_f c1
  by_cases hil : i < s.n
  ·
   obtain ⟨x, hx⟩ := get_some (l := L) (i := i) (by omega)
   obtain ⟨y, hy⟩ := get_some (l := K) (i := i) (by omega)
   rw [hx, hy, hq i x y (by omega) hx hy]
  ·
   rw [Yl (by omega), Yl (by omega)]
theorem mv_ext {x y : Mv} (c : ((x.f == y.f) && ((x.send == y.send) && ((x.peer == y.peer) && ((x.label == y.label) && ((x.t == y.t) && ((x.ag == y.ag) && true)))))) = true) : x = y := by
 cases x; cases y
 simp only [Bool.and_true, Yt, beq_iff_eq] at c
 obtain ⟨h1, h2, h3, h4, h5, h6⟩ := c
 simp only [Mv.mk.injEq]
 exact ⟨h1, h2, h3, h4, h5, h6⟩
theorem to_ext {x y : To} (c : ((x.s == y.s) && ((x.k == y.k) && ((x.e == y.e) && true))) = true) : x = y := by
 cases x; cases y
 simp only [Bool.and_true, Yt, beq_iff_eq] at c
 obtain ⟨h1, h2, h3⟩ := c
 simp only [To.mk.injEq]
 exact ⟨h1, h2, h3⟩
theorem eqM51 (L K : List Mv) (s s2 : Sl) (h : Heap) (hr : Rw h 6 s (L.map Mv.cs)) (hr2 : Rw h 6 s2 (K.map Mv.cs)) (hl : L.length <= 1048576) : Fn Pz 51 #[.slice s.a s.n s.c, .slice s2.a s2.n s2.c] h (RP (L = K) h) := by
 apply vc51 s s2; unfold W51
 have hn := hr.ln
 have hn2 := hr2.ln
 refine sBn (fun c => RP.f (fun e => by subst e; omega) .rfl') (fun c => ?_)
 refine up_loop (n := s.n) (fun i h' => Ext h h' /\ ∀ (j : Nat) x y, j < i -> L[j]? = some x -> K[j]? = some y -> x = y) ⟨.rfl', fun j x y hj => by omega⟩ ?_
 rintro - i h5 hi ⟨E, hq⟩
 refine sB_intro (fun c1 => ?_) (fun c1 => RP.t (Yyr fun i => ?_) E)
 ·
  replace c1 := lt_t c1
  refine (hr.ext E).nbI (by omega) (by omega) fun b6 o7 x gx t => ?_
  replace gx : L[i]? = some x := gx
  refine ⟨_, _, _, _, _, _, t, ?_⟩
  refine (hr2.ext E).nbI (by omega) (by omega) fun b9 o10 y gy t2 => ?_
  replace gy : K[i]? = some y := gy
  refine ⟨_, _, _, _, _, _, t2, sB_intro (fun c2 => RP.f (fun e => ?_) E) (fun c2 => Up.next c1 (by omega) ⟨E, fun j x' y' hj hx hy => ?_⟩)⟩
  ·
   subst e; rw [gx] at gy; cases gy; simp at c2
  ·
   by_cases e : j = i
   ·
    subst e; rw [gx] at hx; rw [gy] at hy; cases hx; cases hy
    exact mv_ext (bT c2)
   ·
    exact hq j x' y' (by omega) hx hy
 ·
  replace c1 := lt_f c1
  by_cases hil : i < s.n
  ·
   obtain ⟨x, hx⟩ := get_some (l := L) (i := i) (by omega)
   obtain ⟨y, hy⟩ := get_some (l := K) (i := i) (by omega)
   rw [hx, hy, hq i x y (by omega) hx hy]
  ·
   rw [Yl (by omega), Yl (by omega)]
theorem eqT52 (L K : List To) (s s2 : Sl) (h : Heap) (hr : Rw h 3 s (L.map To.cs)) (hr2 : Rw h 3 s2 (K.map To.cs)) (hl : L.length <= 1048576) : Fn Pz 52 #[.slice s.a s.n s.c, .slice s2.a s2.n s2.c] h (RP (L = K) h) := by
 apply vc52 s s2; unfold W52
 have hn := hr.ln
 have hn2 := hr2.ln
 refine sBn (fun c => RP.f (fun e => by subst e; omega) .rfl') (fun c => ?_)
 refine up_loop (n := s.n) (fun i h' => Ext h h' /\ ∀ (j : Nat) x y, j < i -> L[j]? = some x -> K[j]? = some y -> x = y) ⟨.rfl', fun j x y hj => by omega⟩ ?_
 rintro - i h5 hi ⟨E, hq⟩
 refine sB_intro (fun c1 => ?_) (fun c1 => RP.t (Yyr fun i => ?_) E)
 ·
  replace c1 := lt_t c1
  refine (hr.ext E).nbI (by omega) (by omega) fun b6 o7 x gx t => ?_
  replace gx : L[i]? = some x := gx
  refine ⟨_, _, _, t, ?_⟩
  refine (hr2.ext E).nbI (by omega) (by omega) fun b9 o10 y gy t2 => ?_
  replace gy : K[i]? = some y := gy
  refine ⟨_, _, _, t2, sB_intro (fun c2 => RP.f (fun e => ?_) E) (fun c2 => Up.next c1 (by omega) ⟨E, fun j x' y' hj hx hy => ?_⟩)⟩
  ·
   subst e; rw [gx] at gy; cases gy; simp at c2
  ·
   by_cases e : j = i
   ·
    subst e; rw [gx] at hx; rw [gy] at hy; cases hx; cases hy
    exact to_ext (bT c2)
   ·
    exact hq j x' y' (by omega) hx hy
 ·
  replace c1 := lt_f c1
  by_cases hil : i < s.n
  ·
   obtain ⟨x, hx⟩ := get_some (l := L) (i := i) (by omega)
   obtain ⟨y, hy⟩ := get_some (l := K) (i := i) (by omega)
   rw [hx, hy, hq i x y (by omega) hx hy]
  ·
   rw [Yl (by omega), Yl (by omega)]
theorem mch_ext {m k : Mch} (h1 : m.role = k.role) (h2 : m.n = k.n) (h3 : m.s = k.s) (h4 : m.fin = k.fin) (h5 : m.mv = k.mv) (h6 : m.li = k.li) : m = k := by
 cases m; cases k
 simp only [Mch.mk.injEq]
 exact ⟨h1, h2, h3, h4, h5, h6⟩
theorem equal16 (m k : Mch) (sf sm sl tf tm tl : Sl) (h : Heap) (hM : MI h m sf sm sl) (hK : MI h k tf tm tl) :
  Fn Pz 16 #[.agg ⟨mC m sf sm sl⟩, .agg ⟨mC k tf tm tl⟩] h (RP (m = k) h) := by
 apply vc16 m.role m.n m.s sf sm sl k.role k.n k.s tf tm tl; unfold W16
 refine (St.refl h).newb fun h13 hs => ?_
 refine hs.newb fun h14 hs => ?_
 refine ⟨_, hs.rd 1 rfl rfl, _, hs.rd 0 rfl rfl, sBe (fun c1 => ?_) (fun c1 => RP.f (fun e => c1 (by rw [e])) hs.ext)⟩
 refine ⟨_, hs.rd 1 rfl rfl, _, hs.rd 0 rfl rfl, sBe (fun c2 => ?_) (fun c2 => RP.f (fun e => c2 (by rw [e])) hs.ext)⟩
 refine ⟨_, hs.rd 1 rfl rfl, _, hs.rd 0 rfl rfl, sBe (fun c3 => ?_) (fun c3 => RP.f (fun e => c3 (by rw [e])) hs.ext)⟩
 refine ⟨sf, hs.rd 1 rfl rfl, tf, hs.rd 0 rfl rfl, ?_⟩
 refine (eqB50 m.fin k.fin sf tf h14 (hM.pf.rw.ext hs.ext) (hK.pf.rw.ext hs.ext) hM.pf.sm).mono ?_
 rintro _ h25 ⟨⟨b1, rfl, hb1⟩, E⟩
 have hs := hs.step E
 refine ⟨_, rfl, sB_intro (fun c4 => ?_) (fun c4 => RP.f (fun e => iff_f hb1 c4 (by rw [e])) hs.ext)⟩
 refine ⟨sm, hs.rd 1 rfl rfl, tm, hs.rd 0 rfl rfl, ?_⟩
 refine (eqM51 m.mv k.mv sm tm h25 (hM.pm.rw.ext hs.ext) (hK.pm.rw.ext hs.ext) hM.pm.sm).mono ?_
 rintro _ h30 ⟨⟨b2, rfl, hb2⟩, E⟩
 have hs := hs.step E
 refine ⟨_, rfl, sB_intro (fun c5 => ?_) (fun c5 => RP.f (fun e => iff_f hb2 c5 (by rw [e])) hs.ext)⟩
 refine ⟨sl, hs.rd 1 rfl rfl, tl, hs.rd 0 rfl rfl, ?_⟩
 refine (eqT52 m.li k.li sl tl h30 (hM.pl.rw.ext hs.ext) (hK.pl.rw.ext hs.ext) hM.pl.sm).mono ?_
 rintro _ h35 ⟨⟨b3, rfl, hb3⟩, E⟩
 have hs := hs.step E
 exact ⟨_, rfl, RP.e ⟨fun c6 => mch_ext c1 c2 c3 (hb1.1 c4) (hb2.1 c5) (hb3.1 c6), fun e => hb3.2 (by rw [e])⟩ hs.ext⟩
end Go.VC
end

section
namespace Go.VC
open Go.Proofs

end Go.VC
end

section
/- Contract: the reference's moves of a state, sorted. (Numbers of layer 26's seat.) -/
namespace Go.VC
open Go.Proofs Go.LexS
namespace M
theorem subA_nil {s : Sl} {i : Nat} (hna : s.a = none -> s.n = 0 /\ s.c = 0) (h : subA s.a i s.c 1 = none) : s.n - i = 0 /\ s.c - i = 0 := by
 unfold subA at h
 split at h
 ·
  have := hna h; omega
 ·
  cases ha : s.a with
  | none => have := hna ha; omega
  | some a => rw [ha] at h; cases h
end M
end Go.VC
end

section
/- Contracts: Moves, Sends and Timeout on both sides; the walk of the law of moves. (Numbers of layer 26's seat.) -/
namespace Go.VC
open Go.Proofs Go.LexS
def t0 : To := ⟨0, 0, 0⟩
end Go.VC
end

section
/- Plain: the search for a history that one machine makes and another one cannot; it is a shortest one. -/
namespace Go.VC
open Go.Proofs Go.LexS
structure Vs where
 a : Int
 b : Int
 h : List Ev
def Vs.p (v : Vs) : Int × Int := (v.a, v.b)
theorem nodup_le : ∀ (n : Nat) (l : List Nat), l.Nodup -> (∀ x ∈ l, x < n) -> l.length <= n
 | 0, l, _, h => by
  cases l with
  | nil => exact Yyt _
  | cons a l => have := h a Yx; omega
 | n + 1, l, hn, h => by
  by_cases hm : n ∈ l
  ·
   have h1 := nodup_le n (l.erase n) (hn.erase n) fun x hx => by
    have := (hn.mem_erase_iff).1 hx
    have h2 := h x this.2
    have h3 : x ≠ n := this.1
    omega
   rw [List.length_erase_of_mem hm] at h1; omega
  ·
   have h1 := nodup_le n l hn fun x hx => by
    have h2 := h x hx
    have h3 : x ≠ n := fun e => hm (e ▸ hx)
    omega
   omega
def MvsOk (m : Mch) (S : Int -> List Nat) : Prop := ∀ s i, i ∈ S s ↔ ∃ x, m.mv[i]? = some x /\ x.f = s
end Go.VC
end

section
/- Contract: the search of inclusion. (Numbers of layer 26's seat.) -/
namespace Go.VC
open Go.Proofs Go.LexS Go.Maps
def pk (p : Int × Int) : Value := .agg ⟨[.int .i64 p.1, .int .i64 p.2]⟩
/-! ### slices.Reverse -/
/-! ### the moves of a state, in the one order -/
theorem srt_uniq {m : Mch} (hD : DetM m) {s : Int} {O Q : List Nat} (p1 : O.Perm (outIx m s)) (s1 : O.Pairwise fun a b => ¬ evLt (evI m b) (evI m a)) (p2 : Q.Perm (outIx m s)) (s2 : Q.Pairwise fun a b => ¬ evLt (evI m b) (evI m a)) : O = Q := by
 refine List.Perm.eq_of_pairwise (le := fun a b => ¬ evLt (evI m b) (evI m a)) (fun a b ha hb h3 h4 => ?_) s1 s2 (p1.trans p2.symm)
 obtain ⟨x, hx, hxf⟩ := outIx_mem.1 (p1.mem_iff.1 ha)
 obtain ⟨y, hy, hyf⟩ := outIx_mem.1 (p2.mem_iff.1 hb)
 by_cases e : a = b
 ·
  exact e
 ·
  have := (hD a b x y hx hy e (by rw [hxf, hyf])).1
  rw [evI_of hx, evI_of hy] at h3 h4
  exact absurd (evLt_of h3 this) h4
open Classical in
noncomputable def mvS (m : Mch) (s : Int) : List Nat := if h : ∃ O : List Nat, O.Perm (outIx m s) /\ O.Pairwise fun a b => ¬ evLt (evI m b) (evI m a) then Classical.choose h else outIx m s
theorem mvS_eq {m : Mch} (hD : DetM m) {s : Int} {O : List Nat} (p1 : O.Perm (outIx m s)) (s1 : O.Pairwise fun a b => ¬ evLt (evI m b) (evI m a)) : mvS m s = O := by
 unfold mvS
 have h : ∃ O : List Nat, O.Perm (outIx m s) /\ O.Pairwise fun a b => ¬ evLt (evI m b) (evI m a) := ⟨O, p1, s1⟩
 rw [dif_pos h]
 have := Classical.choose_spec h
 exact srt_uniq hD this.1 this.2 p1 s1
theorem mvS_ok (m : Mch) : MvsOk m (mvS m) := fun s i => by
 rw [<- outIx_mem]
 unfold mvS
 by_cases h : ∃ O : List Nat, O.Perm (outIx m s) /\ O.Pairwise fun a b => ¬ evLt (evI m b) (evI m a)
 ·
  rw [dif_pos h]
  exact (Classical.choose_spec h).1.mem_iff
 ·
  rw [dif_neg h]
/-! ### the queue -/
structure Vt where
 a : Int
 b : Int
 ahead : Int
 x : Ev
def Vt.cs (v : Vt) : List Value := [.int .i64 v.a, .int .i64 v.b, .int .i64 v.ahead, .bool v.x.send, .int .i64 v.x.peer, .int .i64 v.x.label]
end Go.VC
end
