/- QjY QjRp QjVcI QjMa RjVcD RjVcC RjVcA RjVcJ RjA RjB. -/
import Derived.Test.YtkebghjhekoecaaGreatDoorM17
import Derived.Test.YtkebghjhekoecaaGreatDoorM01
import Derived.Test.YtkebghjhekoecaaGreatDoorM13
import Derived.Test.YtkebghjhekoecaaGreatDoorM02
import Derived.Test.YtkebghjhekoecaaGreatDoorProg
import Derived.KernelRfl
import Derived.Test.YtkebghjhekoecaaGreatDoorM09
import Derived.Test.YtkebghjhekoecaaGreatDoorM07
set_option linter.unusedVariables false
set_option linter.unusedSimpArgs false
set_option maxRecDepth 100000

section
/- The example, and that the laws are awake. -/
namespace Go.VC
open Go.Proofs Go.LexS

def exD (x : Nm) : Dc := ⟨x, ⟨none, 0, 0⟩, 0, ⟨none, 0, 0⟩, ⟨none, 0, 0⟩, [], [], []⟩
def exEs : Bool -> List Ed
 | true => [⟨0, 0, 1, 0, 1, false⟩, ⟨0, 0, 1, 1, 2, false⟩, ⟨1, 1, 2, 0, 3, false⟩, ⟨2, 1, 2, 1, 4, false⟩, ⟨3, 2, 1, 2, 5, false⟩, ⟨4, 2, 1, 3, 5, false⟩]
 | false => [⟨0, 0, 1, 0, 1, false⟩, ⟨0, 0, 1, 1, 2, false⟩, ⟨1, 2, 1, 2, 3, false⟩, ⟨2, 2, 1, 3, 3, false⟩]
def exGl (b : Bool) (hr hd he ht : Sl) : Gl := ⟨[101], hr, hd, if b then 6 else 4, 0, if b then 5 else 3, he, ht, [[112], [113], [114]], [exD [97], exD [98], exD [99], exD [100]], exEs b, []⟩
theorem edge70 (p0 p1 p2 p3 p4 : Int) (h : Heap) : Fn Pz 95 #[.int .i64 p0, .int .i64 p1, .int .i64 p2, .int .i64 p3, .int .i64 p4] h fun v h' => v = .agg ⟨Ed.cs ⟨p0, p1, p2, p3, p4, false⟩⟩ /\ Ext h h' := by
 apply vc95; unfold W95
 have hs := St.refl h
 refine hs.newput (vs := Ed.cs ⟨p0, p1, p2, p3, p4, false⟩) rfl rfl fun h2 hs => ?_
 exact ⟨_, _, _, _, _, _, hs.at 0 rfl (n := 6) rfl, rfl, hs.ext⟩
theorem RL.none_ {α : Type} {h : Heap} {k : Nat} {cs : α -> List Value} : RL h k ⟨none, 0, 0⟩ cs [] := ⟨Rw.nil, Nat.le_refl _, fun _ => ⟨rfl, rfl⟩, Nat.zero_le _⟩
theorem St.rl {α : Type} {h0 h : Heap} {L : List It} (hs : St h0 h L) (k : Nat) {s : Sl} {e : TypeId} {n : Nat} {cs : α -> List Value} {l : List α} (hk : L[k]? = some (.sl s e n (l.map cs))) (hn : 0 < n) (hl : l.length <= 1048576) : RL h n s cs l := by
 have := hs.len k hk hn
 exact ⟨hs.rows k hk hn, this.2.1, this.2.2, hl⟩
theorem nmrows (L : List Nm) : ∀ r ∈ L.map nmC, r.length = 1 := fun r hr => by obtain ⟨x, _, rfl⟩ := Yp.1 hr; rfl
theorem dcrows (L : List Dc) : ∀ r ∈ L.map Dc.cs, r.length = 5 := fun r hr => by obtain ⟨x, _, rfl⟩ := Yp.1 hr; rfl
theorem edrows (L : List Ed) : ∀ r ∈ L.map Ed.cs, r.length = 6 := fun r hr => by obtain ⟨x, _, rfl⟩ := Yp.1 hr; rfl
set_option maxHeartbeats 1000000 in
theorem example34 (b : Bool) (h : Heap) : Fn Pz 46 #[.bool b] h fun v h' => Ext h h' /\ ∃ hr hd he : Sl, v = (exGl b hr hd he ⟨none, 0, 0⟩).v /\ GI h' (exGl b hr hd he ⟨none, 0, 0⟩) := by
 apply vc46; unfold W46
 have hs := St.refl h
 refine hs.newb fun h1 hs => ?_
 refine hs.newb fun h2 hs => ?_
 have hs := hs.blkS 3 1 ([[112], [113], [114]].map nmC) rfl (nmrows _) rfl (by decide)
 refine hs.newb fun h3 hs => ?_
 have hs := hs.blkS 4 5 ([exD [97], exD [98], exD [99], exD [100]].map Dc.cs) rfl (dcrows _) rfl (by decide)
 refine hs.newput (vs := [.string (bs [101]), .slice (some ⟨h1.size, 0, none⟩) 3 3, .slice (some ⟨h2.size, 0, none⟩) 4 4, .int .i64 4, .int .i64 0, .int .i64 3, .slice none 0 0, .slice none 0 0]) rfl rfl fun h5 hs => ?_
 refine (edge70 _ _ _ _ _ _).mono ?_
 rintro _ _ ⟨rfl, E⟩
 replace hs := hs.step E
 clear E
 refine ⟨_, _, _, _, _, _, rfl, ?_⟩
 refine (edge70 _ _ _ _ _ _).mono ?_
 rintro _ _ ⟨rfl, E⟩
 replace hs := hs.step E
 clear E
 refine ⟨_, _, _, _, _, _, rfl, ?_⟩
 refine (edge70 _ _ _ _ _ _).mono ?_
 rintro _ _ ⟨rfl, E⟩
 replace hs := hs.step E
 clear E
 refine ⟨_, _, _, _, _, _, rfl, ?_⟩
 refine (edge70 _ _ _ _ _ _).mono ?_
 rintro _ _ ⟨rfl, E⟩
 replace hs := hs.step E
 clear E
 refine ⟨_, _, _, _, _, _, rfl, ?_⟩
 refine hs.newb fun h38 hs => ?_
 have hs := hs.blkS 4 6 ((exEs false).map Ed.cs) rfl (edrows _) rfl (by decide)
 refine hs.put 1 rfl (o := 6) (vs := [.slice (some ⟨_, 0, none⟩) 4 4]) rfl (show 7 <= 8 by decide) fun h39 hs => ?_
 cases b
 ·
  refine sB_f rfl ?_
  refine ⟨_, ⟨some ⟨h1.size, 0, none⟩, 3, 3⟩, ⟨some ⟨h2.size, 0, none⟩, 4, 4⟩, _, _, _, ⟨some ⟨_, 0, none⟩, 4, 4⟩, ⟨none, 0, 0⟩, hs.at 1 rfl (n := 8) rfl, ?_⟩
  refine hs.put 4 rfl (o := 0) (vs := (exGl false ⟨some ⟨h1.size, 0, none⟩, 3, 3⟩ ⟨some ⟨h2.size, 0, none⟩, 4, 4⟩ ⟨some ⟨_, 0, none⟩, 4, 4⟩ ⟨none, 0, 0⟩).cs) rfl (show 8 <= 8 by decide) fun h117 hs => ?_
  refine ⟨_, ⟨some ⟨h1.size, 0, none⟩, 3, 3⟩, ⟨some ⟨h2.size, 0, none⟩, 4, 4⟩, _, _, _, ⟨some ⟨_, 0, none⟩, 4, 4⟩, ⟨none, 0, 0⟩, hs.at 4 rfl (n := 8) rfl, hs.ext, _, _, _, rfl, ?_⟩
  refine ⟨hs.rl 3 rfl (by decide) (show 3 <= 1048576 by decide), ⟨hs.rl 2 rfl (by decide) (show 4 <= 1048576 by decide), fun d hd => ?_⟩, hs.rl 0 rfl (by decide) (show 4 <= 1048576 by decide), RL.none_⟩
  have hd : d ∈ [exD [97], exD [98], exD [99], exD [100]] := hd
  simp only [Yr, List.not_mem_nil, or_false] at hd
  rcases hd with rfl | rfl | rfl | rfl <;> exact ⟨RL.none_, RL.none_, RL.none_⟩
 ·
  refine sB_t rfl ?_
  refine hs.put 1 rfl (o := 3) (vs := [.int .i64 6]) rfl (show 4 <= 8 by decide) fun h40 hs => ?_
  refine hs.put 1 rfl (o := 5) (vs := [.int .i64 5]) rfl (show 6 <= 8 by decide) fun h41 hs => ?_
  refine (edge70 _ _ _ _ _ _).mono ?_
  rintro _ _ ⟨rfl, E⟩
  replace hs := hs.step E
  clear E
  refine ⟨_, _, _, _, _, _, rfl, ?_⟩
  refine (edge70 _ _ _ _ _ _).mono ?_
  rintro _ _ ⟨rfl, E⟩
  replace hs := hs.step E
  clear E
  refine ⟨_, _, _, _, _, _, rfl, ?_⟩
  refine (edge70 _ _ _ _ _ _).mono ?_
  rintro _ _ ⟨rfl, E⟩
  replace hs := hs.step E
  clear E
  refine ⟨_, _, _, _, _, _, rfl, ?_⟩
  refine (edge70 _ _ _ _ _ _).mono ?_
  rintro _ _ ⟨rfl, E⟩
  replace hs := hs.step E
  clear E
  refine ⟨_, _, _, _, _, _, rfl, ?_⟩
  refine (edge70 _ _ _ _ _ _).mono ?_
  rintro _ _ ⟨rfl, E⟩
  replace hs := hs.step E
  clear E
  refine ⟨_, _, _, _, _, _, rfl, ?_⟩
  refine (edge70 _ _ _ _ _ _).mono ?_
  rintro _ _ ⟨rfl, E⟩
  replace hs := hs.step E
  clear E
  refine ⟨_, _, _, _, _, _, rfl, ?_⟩
  refine hs.newb fun h90 hs => ?_
  have hs := hs.blkS 6 6 ((exEs true).map Ed.cs) rfl (edrows _) rfl (by decide)
  refine hs.put 2 rfl (o := 6) (vs := [.slice (some ⟨_, 0, none⟩) 6 6]) rfl (show 7 <= 8 by decide) fun h91 hs => ?_
  refine ⟨_, ⟨some ⟨h1.size, 0, none⟩, 3, 3⟩, ⟨some ⟨h2.size, 0, none⟩, 4, 4⟩, _, _, _, ⟨some ⟨_, 0, none⟩, 6, 6⟩, ⟨none, 0, 0⟩, hs.at 2 rfl (n := 8) rfl, ?_⟩
  refine hs.put 5 rfl (o := 0) (vs := (exGl true ⟨some ⟨h1.size, 0, none⟩, 3, 3⟩ ⟨some ⟨h2.size, 0, none⟩, 4, 4⟩ ⟨some ⟨_, 0, none⟩, 6, 6⟩ ⟨none, 0, 0⟩).cs) rfl (show 8 <= 8 by decide) fun h117 hs => ?_
  refine ⟨_, ⟨some ⟨h1.size, 0, none⟩, 3, 3⟩, ⟨some ⟨h2.size, 0, none⟩, 4, 4⟩, _, _, _, ⟨some ⟨_, 0, none⟩, 6, 6⟩, ⟨none, 0, 0⟩, hs.at 5 rfl (n := 8) rfl, hs.ext, _, _, _, rfl, ?_⟩
  refine ⟨hs.rl 4 rfl (by decide) (show 3 <= 1048576 by decide), ⟨hs.rl 3 rfl (by decide) (show 4 <= 1048576 by decide), fun d hd => ?_⟩, hs.rl 0 rfl (by decide) (show 6 <= 1048576 by decide), RL.none_⟩
  have hd : d ∈ [exD [97], exD [98], exD [99], exD [100]] := hd
  simp only [Yr, List.not_mem_nil, or_false] at hd
  rcases hd with rfl | rfl | rfl | rfl <;> exact ⟨RL.none_, RL.none_, RL.none_⟩

deriving instance DecidableEq for Ed
theorem ex_valid (b : Bool) (hr hd he ht : Sl) : ValidS (exGl b hr hd he ht) := by
 have hrs : (exGl b hr hd he ht).rs = [[112], [113], [114]] := rfl
 have hds : (exGl b hr hd he ht).ds = [exD [97], exD [98], exD [99], exD [100]] := rfl
 have hes : (exGl b hr hd he ht).es = exEs b := rfl
 have hall : allF [exD [97], exD [98], exD [99], exD [100]] = [] := rfl
 have get3 : ∀ {α : Type} {P : Nat -> α -> Prop} {l : List α}, (∀ i (hi : i < l.length), P i l[i]) -> ∀ i x, l[i]? = some x -> P i x := by
  intro α P l h i x hx
  obtain ⟨h1, h2⟩ := Ya.1 hx
  rw [<- h2]; exact h i h1
 refine ⟨⟨by rfl, by rw [hrs]; decide, by rw [hrs]; decide, ?_⟩, ⟨?_, ?_, ?_⟩, ?_, ⟨?_, ?_, ?_⟩, ?_, ?_, ?_⟩
 ·
  rw [hrs]
  refine get3 (P := fun i s => isWord s = true /\ s ∉ List.take i [[112], [113], [114]]) fun i hi => ?_
  have hi : i < 3 := hi
  match i, hi with
  | 0, _ => exact of_decide_eq_true rfl
  | 1, _ => exact of_decide_eq_true rfl
  | 2, _ => exact of_decide_eq_true rfl
 ·
  cases b <;> exact ⟨of_decide_eq_true rfl, of_decide_eq_true rfl, of_decide_eq_true rfl, of_decide_eq_true rfl, of_decide_eq_true rfl, of_decide_eq_true rfl⟩
 ·
  rw [hes]; cases b <;> decide
 ·
  rw [hes]
  unfold EdS
  rw [hrs, hds]
  cases b
  ·
   show ∀ x ∈ exEs false, 0 <= x.f /\ 0 <= x.t /\ 0 <= x.a /\ 0 <= x.b /\ 0 <= x.l /\ x.f < 4 /\ x.t < 4 /\ x.a < ((3 : Nat) : Int) /\ x.b < ((3 : Nat) : Int) /\ x.a ≠ x.b /\ x.l < ((4 : Nat) : Int)
   decide
  ·
   show ∀ x ∈ exEs true, 0 <= x.f /\ 0 <= x.t /\ 0 <= x.a /\ 0 <= x.b /\ 0 <= x.l /\ x.f < 6 /\ x.t < 6 /\ x.a < ((3 : Nat) : Int) /\ x.b < ((3 : Nat) : Int) /\ x.a ≠ x.b /\ x.l < ((4 : Nat) : Int)
   decide
 ·
  rw [hds]
  refine ⟨by decide, by rw [hall]; decide, ?_⟩
  refine get3 (P := fun i d => DcS [exD [97], exD [98], exD [99], exD [100]] i d) fun i hi => ?_
  have hi : i < 4 := hi
  have hg : GuardS [] [] [] := ⟨by decide, by decide, fun x hx => (by cases hx), fun x hx => (by cases hx)⟩
  match i, hi with
  | 0, _ => exact ⟨by rfl, of_decide_eq_true rfl, of_decide_eq_true rfl, by rfl, fun k f hf => (by cases hf), by rw [hall]; exact hg⟩
  | 1, _ => exact ⟨by rfl, of_decide_eq_true rfl, of_decide_eq_true rfl, by rfl, fun k f hf => (by cases hf), by rw [hall]; exact hg⟩
  | 2, _ => exact ⟨by rfl, of_decide_eq_true rfl, of_decide_eq_true rfl, by rfl, fun k f hf => (by cases hf), by rw [hall]; exact hg⟩
  | 3, _ => exact ⟨by rfl, of_decide_eq_true rfl, of_decide_eq_true rfl, by rfl, fun k f hf => (by cases hf), by rw [hall]; exact hg⟩
 ·
  rw [hes]; cases b
  ·
   show ∀ x ∈ exEs false, x.f ≠ 3
   decide
  ·
   show ∀ x ∈ exEs true, x.f ≠ 5
   decide
 ·
  rw [hes]; cases b
  ·
   show ∀ x ∈ exEs false, x.ag = true -> x.f ≠ 0
   decide
  ·
   show ∀ x ∈ exEs true, x.ag = true -> x.f ≠ 0
   decide
 ·
  rw [hes]
  have key : ((exEs b).zipIdx.all fun p => (exEs b).zipIdx.all fun q => !decide ((p.2 ≠ q.2 /\ p.1.f = q.1.f /\ ((p.1.a = q.1.a /\ p.1.b = q.1.b /\ p.1.l = q.1.l) \/ p.1.a ≠ q.1.a \/ p.1.ag = true)) \/ (p.1.ag = true /\ q.1.t = p.1.f /\ (p.1.a ≠ q.1.a \/ p.1.l ≠ q.1.l)))) = true := by
   cases b <;> decide
  intro i x hx k y hy hbad
  have h1 := List.all_eq_true.1 key (x, i) (Yf.2 ⟨i, by rw [List.getElem?_zipIdx, hx]; simp⟩)
  have h2 := List.all_eq_true.1 h1 (y, k) (Yf.2 ⟨k, by rw [List.getElem?_zipIdx, hy]; simp⟩)
  have h3 := of_decide_eq_false (Bool.not_eq_true' _ ▸ h2)
  exact h3 hbad
 ·
  intro i t ht; exact absurd ht (by show ([] : List To)[i]? ≠ some t; simp)
 ·
  intro v h0 h1
  rw [hes]
  cases b
  ·
   have h1 : v < 4 := h1
   show Rch (exEs false) false 0 v
   have s0 : Rch (exEs false) false 0 0 := .refl
   have s1 : Rch (exEs false) false 0 1 := .step s0 ⟨⟨0, 0, 1, 0, 1, false⟩, by decide, rfl, rfl⟩
   have s2 : Rch (exEs false) false 0 2 := .step s0 ⟨⟨0, 0, 1, 1, 2, false⟩, by decide, rfl, rfl⟩
   have s3 : Rch (exEs false) false 0 3 := .step s1 ⟨⟨1, 2, 1, 2, 3, false⟩, by decide, rfl, rfl⟩
   have : v = 0 \/ v = 1 \/ v = 2 \/ v = 3 := by omega
   rcases this with rfl | rfl | rfl | rfl <;> assumption
  ·
   have h1 : v < 6 := h1
   show Rch (exEs true) false 0 v
   have s0 : Rch (exEs true) false 0 0 := .refl
   have s1 : Rch (exEs true) false 0 1 := .step s0 ⟨⟨0, 0, 1, 0, 1, false⟩, by decide, rfl, rfl⟩
   have s2 : Rch (exEs true) false 0 2 := .step s0 ⟨⟨0, 0, 1, 1, 2, false⟩, by decide, rfl, rfl⟩
   have s3 : Rch (exEs true) false 0 3 := .step s1 ⟨⟨1, 1, 2, 0, 3, false⟩, by decide, rfl, rfl⟩
   have s4 : Rch (exEs true) false 0 4 := .step s2 ⟨⟨2, 1, 2, 1, 4, false⟩, by decide, rfl, rfl⟩
   have s5 : Rch (exEs true) false 0 5 := .step s3 ⟨⟨3, 2, 1, 2, 5, false⟩, by decide, rfl, rfl⟩
   have : v = 0 \/ v = 1 \/ v = 2 \/ v = 3 \/ v = 4 \/ v = 5 := by omega
   rcases this with rfl | rfl | rfl | rfl | rfl | rfl <;> assumption
 ·
  intro v h0 h1
  rw [hes]
  cases b
  ·
   have h1 : v < 4 := h1
   show Rch (exEs false) true 3 v
   have s3 : Rch (exEs false) true 3 3 := .refl
   have s1 : Rch (exEs false) true 3 1 := .step s3 ⟨⟨1, 2, 1, 2, 3, false⟩, by decide, rfl, rfl⟩
   have s2 : Rch (exEs false) true 3 2 := .step s3 ⟨⟨2, 2, 1, 3, 3, false⟩, by decide, rfl, rfl⟩
   have s0 : Rch (exEs false) true 3 0 := .step s1 ⟨⟨0, 0, 1, 0, 1, false⟩, by decide, rfl, rfl⟩
   have : v = 0 \/ v = 1 \/ v = 2 \/ v = 3 := by omega
   rcases this with rfl | rfl | rfl | rfl <;> assumption
  ·
   have h1 : v < 6 := h1
   show Rch (exEs true) true 5 v
   have s5 : Rch (exEs true) true 5 5 := .refl
   have s3 : Rch (exEs true) true 5 3 := .step s5 ⟨⟨3, 2, 1, 2, 5, false⟩, by decide, rfl, rfl⟩
   have s4 : Rch (exEs true) true 5 4 := .step s5 ⟨⟨4, 2, 1, 3, 5, false⟩, by decide, rfl, rfl⟩
   have s1 : Rch (exEs true) true 5 1 := .step s3 ⟨⟨1, 1, 2, 0, 3, false⟩, by decide, rfl, rfl⟩
   have s2 : Rch (exEs true) true 5 2 := .step s4 ⟨⟨2, 1, 2, 1, 4, false⟩, by decide, rfl, rfl⟩
   have s0 : Rch (exEs true) true 5 0 := .step s1 ⟨⟨0, 0, 1, 0, 1, false⟩, by decide, rfl, rfl⟩
   have : v = 0 \/ v = 1 \/ v = 2 \/ v = 3 \/ v = 4 \/ v = 5 := by omega
   rcases this with rfl | rfl | rfl | rfl | rfl | rfl <;> assumption
end Go.VC
end

section
/- A bool that says p. For every program. -/
namespace Go.VC
open Go.Proofs Go.LexS
theorem Ext.rfl' {h : Heap} : Ext h h := ⟨Nat.le_refl _, fun _ _ => rfl⟩
def RP (p : Prop) (h : Heap) (v : Value) (h' : Heap) : Prop := (∃ b : Bool, v = .bool b /\ (b = true ↔ p)) /\ Ext h h'
theorem RP.t {p : Prop} {h h' : Heap} (hp : p) (E : Ext h h') : RP p h (.bool true) h' := ⟨⟨true, rfl, iff_of_true rfl hp⟩, E⟩
theorem RP.f {p : Prop} {h h' : Heap} (hp : ¬ p) (E : Ext h h') : RP p h (.bool false) h' := ⟨⟨false, rfl, iff_of_false (by decide) hp⟩, E⟩
theorem RP.e {p : Prop} {h h' : Heap} {b : Bool} (hb : b = true ↔ p) (E : Ext h h') : RP p h (.bool b) h' := ⟨⟨b, rfl, hb⟩, E⟩
theorem iff_f {p : Prop} {b : Bool} (hp : b = true ↔ p) (c : b = false) : ¬ p := fun hq => by
 rw [hp.2 hq] at c; cases c
theorem smx {al : List Addr} {h h' : Heap} (E : Ext h h') : Sm al h h' := fun _ _ _ _ hv => hc_ext E hv
theorem Sm_but {al : List Addr} {h h' : Heap} {b : Nat} (hB : But b h h') (hn : ∀ a ∈ al, a.block ≠ b) : Sm al h h' := fun a ha k v hv => by
 rw [hc_of_block (hB.2 _ (by rw [addk_block']; exact hn a ha))]; exact hv
theorem hc_blk {h : Heap} {a : Addr} {v : Value} (hv : hc h a = some v) : a.block < h.size := by
 rcases Nat.lt_or_ge a.block h.size with h1 | h1
 ·
  exact h1
 ·
  unfold VC.hc at hv
  simp [Array.getElem?_eq_none h1] at hv
end Go.VC
end

section
namespace Go.VC
open Go.Proofs

end Go.VC
end

section
/- Contracts of the reference's small functions over machines. -/
namespace Go.VC
open Go.Proofs Go.LexS

theorem before26 (x y : Mv) (h : Heap) : Fn Pz 107 #[.agg ⟨x.cs⟩, .agg ⟨y.cs⟩] h fun v h' => v = .bool (decide (evLt x.ev y.ev)) /\ Ext h h' := by
 apply vc107 x.f x.send x.peer x.label x.t x.ag y.f y.send y.peer y.label y.t y.ag; unfold W107
 have hs := St.refl h
 refine hs.newb fun h13 hs => ?_
 refine hs.newb fun h14 hs => ?_
 refine ⟨_, hs.rd 1 rfl rfl, _, hs.rd 0 rfl rfl, ?_⟩
 have hev : evLt x.ev y.ev ↔ (x.send = true /\ y.send = false) \/ (x.send = y.send /\ (x.peer < y.peer \/ (x.peer = y.peer /\ x.label < y.label))) := Iff.rfl
 refine sB_intro (fun c1 => ?_) (fun c1 => ?_)
 ·
  have c1 : x.send ≠ y.send := by simpa using c1
  refine ⟨_, hs.rd 1 rfl rfl, ?_, hs.ext⟩
  congr 1
  cases hx : x.send <;> cases hy : y.send <;> simp [hx, hy] at c1 hev ⊢ <;> simp [hev]
 ·
  have c1 : x.send = y.send := by simpa using c1
  refine ⟨_, hs.rd 1 rfl rfl, _, hs.rd 0 rfl rfl, ?_⟩
  refine sBn (fun c2 => ?_) (fun c2 => ?_)
  ·
   refine ⟨_, hs.rd 1 rfl rfl, _, hs.rd 0 rfl rfl, ?_, hs.ext⟩
   congr 1
   rw [decide_eq_decide, hev, c1]
   constructor
   ·
    intro h; exact .inr ⟨rfl, .inl h⟩
   ·
    rintro (⟨h1, h2⟩ | ⟨_, h | ⟨h, _⟩⟩)
    ·
     rw [h1] at h2; cases h2
    ·
     exact h
    ·
     exact absurd h c2
  ·
   refine ⟨_, hs.rd 1 rfl rfl, _, hs.rd 0 rfl rfl, ?_, hs.ext⟩
   congr 1
   rw [decide_eq_decide, hev, c1]
   constructor
   ·
    intro h; exact .inr ⟨rfl, .inr ⟨c2, h⟩⟩
   ·
    rintro (⟨h1, h2⟩ | ⟨_, h | ⟨_, h⟩⟩)
    ·
     rw [h1] at h2; cases h2
    ·
     omega
    ·
     exact h
end Go.VC
end

section
namespace Go.VC
open Go.Proofs

def W105 (p0 : Sl) (p1 : Int) (h : Heap) (R : Value -> Heap -> Prop) : Prop :=
 (QI 0 h fun I1 i_4 h5 m3 => (
 (sB (decide (i_4 < (p0.n : Int)))
 ((NB p0.a fun b6 o7 => (Ib i_4 p0.n /\
 (∃ x8, rI h5 ⟨b6, o7 + Int.toNat i_4 * 1, none⟩ x8 /\
 (sB (x8 == p1)
 (R (.bool true) h5)
 ((∃ m9, m9 < m3 /\ I1 (IntKind.wrap .i64 (i_4 + 1)) h5 m9)))))))
 (R (.bool false) h5))))
theorem vc105 (p0 : Sl) (p1 : Int) (h : Heap) (R : Value -> Heap -> Prop) (H : W105 p0 p1 h R) : Fn Pz 105 #[vS p0, vI p1] h R := fnI (A := (.s .z (.s (.s .z (.b (.l [(5, .one (.int .i64))] .z))) .z))) (by kernel_rfl) H

def W106 (p0 : Sl) (p1 : Int) (h : Heap) (R : Value -> Heap -> Prop) : Prop :=
 (QSBI ⟨none, 0, 0⟩ false 0 h fun I1 out_4 done_5 i_6 h7 m3 => (
 (sB (decide (i_6 < (p0.n : Int)))
 ((sB (!done_5)
 ((NB p0.a fun b8 o9 => (Ib i_6 p0.n /\
 (∃ x10, rI h7 ⟨b8, o9 + Int.toNat i_6 * 1, none⟩ x10 /\
 (sB (decide (x10 >= p1))
 ((NB p0.a fun b11 o12 => (Ib i_6 p0.n /\
 (∃ x13, rI h7 ⟨b11, o12 + Int.toNat i_6 * 1, none⟩ x13 /\
 (sB (decide (x13 > p1))
 ((Wn h7 [vI p1] 3 fun h14 =>
 (App Pz 49 49 (vS out_4) (.slice (some (aS h7 0)) 1 1) h14 fun s15 h16 =>
 (NB p0.a fun b17 o18 => (Ib i_6 p0.n /\
 (∃ x19, rI h16 ⟨b17, o18 + Int.toNat i_6 * 1, none⟩ x19 /\
 (Wn h16 [vI x19] 3 fun h20 =>
 (App Pz 49 49 (vS s15) (.slice (some (aS h16 0)) 1 1) h20 fun s21 h22 =>
 (∃ m23, m23 < m3 /\ I1 s21 true (IntKind.wrap .i64 (i_6 + 1)) h22 m23)))))))))
 ((NB p0.a fun b24 o25 => (Ib i_6 p0.n /\
 (∃ x26, rI h7 ⟨b24, o25 + Int.toNat i_6 * 1, none⟩ x26 /\
 (Wn h7 [vI x26] 3 fun h27 =>
 (App Pz 49 49 (vS out_4) (.slice (some (aS h7 0)) 1 1) h27 fun s28 h29 =>
 (∃ m30, m30 < m3 /\ I1 s28 true (IntKind.wrap .i64 (i_6 + 1)) h29 m30))))))))))))
 ((NB p0.a fun b31 o32 => (Ib i_6 p0.n /\
 (∃ x33, rI h7 ⟨b31, o32 + Int.toNat i_6 * 1, none⟩ x33 /\
 (Wn h7 [vI x33] 3 fun h34 =>
 (App Pz 49 49 (vS out_4) (.slice (some (aS h7 0)) 1 1) h34 fun s35 h36 =>
 (∃ m37, m37 < m3 /\ I1 s35 done_5 (IntKind.wrap .i64 (i_6 + 1)) h36 m37))))))))))))
 ((NB p0.a fun b38 o39 => (Ib i_6 p0.n /\
 (∃ x40, rI h7 ⟨b38, o39 + Int.toNat i_6 * 1, none⟩ x40 /\
 (Wn h7 [vI x40] 3 fun h41 =>
 (App Pz 49 49 (vS out_4) (.slice (some (aS h7 0)) 1 1) h41 fun s42 h43 =>
 (∃ m44, m44 < m3 /\ I1 s42 done_5 (IntKind.wrap .i64 (i_6 + 1)) h43 m44)))))))))
 ((sB (!done_5)
 ((Wn h7 [vI p1] 3 fun h45 =>
 (App Pz 49 49 (vS out_4) (.slice (some (aS h7 0)) 1 1) h45 fun s46 h47 =>
 R (vS s46) h47)))
 (R (vS out_4) h7))))))
theorem vc106 (p0 : Sl) (p1 : Int) (h : Heap) (R : Value -> Heap -> Prop) (H : W106 p0 p1 h R) : Fn Pz 106 #[vS p0, vI p1] h R := fnI (A := (.s .z (.s .z (.s .z (.s (.s .z (.b (.l [(5, .one (.slice)), (6, .one (.bool)), (7, .one (.int .i64))] .z))) .z))))) (by kernel_rfl) H

end Go.VC
end

section
namespace Go.VC
open Go.Proofs

def W24 (p0_1 p0_2 p0_3 : Int) (p0_4 p0_5 p0_6 : Sl) (h : Heap) (R : Value -> Heap -> Prop) : Prop :=
 (Wn h (L0 p0_1 p0_2 p0_3 p0_4 p0_5 p0_6) 26 fun h7 =>
 (∃ x8 x9 x10 x11 x12 x13, aL0 h7 (aS h 0) x8 x9 x10 x11 x12 x13 /\
 (Fn Pz 58 #[.agg ⟨(L0 x8 x9 x10 x11 x12 x13)⟩] h7
 (fun v14 h16 => ∃ x15, iB v14 x15 /\
 (sB x15
 ((∃ x17 x18 x19 x20 x21 x22, aL0 h16 (aS h 0) x17 x18 x19 x20 x21 x22 /\
 (Fn Pz 59 #[.agg ⟨(L0 x17 x18 x19 x20 x21 x22)⟩] h16
 (fun v23 h25 => ∃ x24, iB v23 x24 /\
 (Sm [(aS h 0)] h16 h25 /\
 (sB x24
 ((∃ x26 x27 x28 x29 x30 x31, aL0 h25 (aS h 0) x26 x27 x28 x29 x30 x31 /\
 (Fn Pz 60 #[.agg ⟨(L0 x26 x27 x28 x29 x30 x31)⟩] h25
 (fun v32 h34 => ∃ x33, iB v32 x33 /\
 (Sm [(aS h 0), (aS h 0)] h25 h34 /\
 (sB x33
 ((∃ x35 x36 x37 x38 x39 x40, aL0 h34 (aS h 0) x35 x36 x37 x38 x39 x40 /\
 (∃ x41, rI h34 (aS h 1) x41 /\
 (Fn Pz 61 #[.agg ⟨(L0 x35 x36 x37 x38 x39 x40)⟩] h34
 (fun v42 h44 => ∃ x43, iS v42 x43 /\
 (Sm [(aS h 1), (aS h 0), (aS h 0), (aS h 0)] h34 h44 /\
 R (.bool ((x43.n : Int) == x41)) h44))))))
 (R (.bool false) h34)))))))
 (R (.bool false) h25)))))))
 (R (.bool false) h16))))))
theorem vc24 (p0_1 p0_2 p0_3 : Int) (p0_4 p0_5 p0_6 : Sl) (h : Heap) (R : Value -> Heap -> Prop) (H : W24 p0_1 p0_2 p0_3 p0_4 p0_5 p0_6 h R) : Fn Pz 24 #[.agg ⟨(L0 p0_1 p0_2 p0_3 p0_4 p0_5 p0_6)⟩] h R := fnI (A := .z) (by kernel_rfl) H

def W58 (p0_1 p0_2 p0_3 : Int) (p0_4 p0_5 p0_6 : Sl) (h : Heap) (R : Value -> Heap -> Prop) : Prop :=
 (Wn h (L0 p0_1 p0_2 p0_3 p0_4 p0_5 p0_6) 26 fun h7 =>
 (∃ x8, rI h7 (aS h 0) x8 /\
 (sB (decide (x8 < 0))
 (R (.bool false) h7)
 ((∃ x9, rI h7 (aS h 0) x9 /\
 (sB (decide (x9 >= 6))
 (R (.bool false) h7)
 ((∃ x10, rI h7 (aS h 1) x10 /\
 (sB (decide (x10 < 1))
 (R (.bool false) h7)
 ((∃ x11, rI h7 (aS h 1) x11 /\
 (sB (decide (x11 > 200))
 (R (.bool false) h7)
 ((∃ x12, rI h7 (aS h 2) x12 /\
 (sB (decide (x12 < 0))
 (R (.bool false) h7)
 ((∃ x13, rI h7 (aS h 2) x13 /\
 (∃ x14, rI h7 (aS h 1) x14 /\
 (sB (decide (x13 >= x14))
 (R (.bool false) h7)
 ((∃ x15, rS h7 (aS h 3) x15 /\
 (∃ x16, rI h7 (aS h 1) x16 /\
 (sB ((x15.n : Int) != x16)
 (R (.bool false) h7)
 ((∃ x17, rS h7 (aS h 4) x17 /\
 (sB (decide ((x17.n : Int) > 400))
 (R (.bool false) h7)
 ((QI 0 h7 fun I18 i_21 h22 m20 => (
 (∃ x23, rS h22 (aS h 4) x23 /\
 (sB (decide (i_21 < (x23.n : Int)))
 ((∃ x24, rS h22 (aS h 4) x24 /\
 (NB x24.a fun b25 o26 => (Ib i_21 x24.n /\
 (∃ x27 x28 x29 x30 x31 x32, aL1 h22 ⟨b25, o26 + Int.toNat i_21 * 6, none⟩ x27 x28 x29 x30 x31 x32 /\
 (Wn h22 [vI 0, .bool false, vI 0, vI 0, vI 0, .bool false] 81 fun h33 =>
 (Wp h33 (aS h22 0) 6 (L1 x27 x28 x29 x30 x31 x32) fun h34 =>
 (∃ x35, rI h34 (aS h22 0) x35 /\
 (sB (decide (x35 < 0))
 (R (.bool false) h34)
 ((∃ x36, rI h34 (aS h22 0) x36 /\
 (∃ x37, rI h34 (aS h 1) x37 /\
 (sB (decide (x36 >= x37))
 (R (.bool false) h34)
 ((∃ x38, rI h34 (aS h22 4) x38 /\
 (sB (decide (x38 < 0))
 (R (.bool false) h34)
 ((∃ x39, rI h34 (aS h22 4) x39 /\
 (∃ x40, rI h34 (aS h 1) x40 /\
 (sB (decide (x39 >= x40))
 (R (.bool false) h34)
 ((∃ x41, rI h34 (aS h22 2) x41 /\
 (sB (decide (x41 < 0))
 (R (.bool false) h34)
 ((∃ x42, rI h34 (aS h22 2) x42 /\
 (sB (decide (x42 >= 6))
 (R (.bool false) h34)
 ((∃ x43, rI h34 (aS h22 2) x43 /\
 (∃ x44, rI h34 (aS h 0) x44 /\
 (sB (x43 == x44)
 (R (.bool false) h34)
 ((∃ x45, rI h34 (aS h22 3) x45 /\
 (sB (decide (x45 < 0))
 (R (.bool false) h34)
 ((∃ x46, rI h34 (aS h22 3) x46 /\
 (sB (decide (x46 >= 40))
 (R (.bool false) h34)
 ((∃ m47, m47 < m20 /\ I18 (IntKind.wrap .i64 (i_21 + 1)) h34 m47))))))))))))))))))))))))))))))))))))))
 (R (.bool true) h22))))))))))))))))))))))))))))))))
theorem vc58 (p0_1 p0_2 p0_3 : Int) (p0_4 p0_5 p0_6 : Sl) (h : Heap) (R : Value -> Heap -> Prop) (H : W58 p0_1 p0_2 p0_3 p0_4 p0_5 p0_6 h R) : Fn Pz 58 #[.agg ⟨(L0 p0_1 p0_2 p0_3 p0_4 p0_5 p0_6)⟩] h R := fnI (A := (.s .z (.s .z (.s (.s .z (.b (.l [(3, .one (.int .i64))] .z))) .z)))) (by kernel_rfl) H

def W59 (p0_1 p0_2 p0_3 : Int) (p0_4 p0_5 p0_6 : Sl) (h : Heap) (R : Value -> Heap -> Prop) : Prop :=
 (Wn h (L0 p0_1 p0_2 p0_3 p0_4 p0_5 p0_6) 26 fun h7 =>
 (QI 0 h7 fun I8 i_11 h12 m10 => (
 (∃ x13, rS h12 (aS h 4) x13 /\
 (sB (decide (i_11 < (x13.n : Int)))
 ((∃ x14, rS h12 (aS h 4) x14 /\
 (NB x14.a fun b15 o16 => (Ib i_11 x14.n /\
 (∃ x17 x18 x19 x20 x21 x22, aL1 h12 ⟨b15, o16 + Int.toNat i_11 * 6, none⟩ x17 x18 x19 x20 x21 x22 /\
 (Wn h12 [vI 0, .bool false, vI 0, vI 0, vI 0, .bool false] 81 fun h23 =>
 (Wp h23 (aS h12 0) 6 (L1 x17 x18 x19 x20 x21 x22) fun h24 =>
 (∃ x25, rB h24 (aS h12 5) x25 /\
 (sB x25
 ((∃ x26, rB h24 (aS h12 1) x26 /\
 (sB (!x26)
 (R (.bool false) h24)
 ((∃ x27, rI h24 (aS h12 0) x27 /\
 (∃ x28, rI h24 (aS h 2) x28 /\
 (sB (x27 == x28)
 (R (.bool false) h24)
 ((∃ x29, rS h24 (aS h 3) x29 /\
 (∃ x30, rI h24 (aS h12 0) x30 /\
 (NB x29.a fun b31 o32 => (Ib x30 x29.n /\
 (∃ x33, rB h24 ⟨b31, o32 + Int.toNat x30 * 1, none⟩ x33 /\
 (sB x33
 (R (.bool false) h24)
 ((QI 0 h24 fun I34 k_37 h38 m36 => (
 (∃ x39, rS h38 (aS h 4) x39 /\
 (sB (decide (k_37 < (x39.n : Int)))
 ((∃ x40, rS h38 (aS h 4) x40 /\
 (NB x40.a fun b41 o42 => (Ib k_37 x40.n /\
 (∃ x43 x44 x45 x46 x47 x48, aL1 h38 ⟨b41, o42 + Int.toNat k_37 * 6, none⟩ x43 x44 x45 x46 x47 x48 /\
 (Wn h38 [vI 0, .bool false, vI 0, vI 0, vI 0, .bool false] 81 fun h49 =>
 (Wp h49 (aS h38 0) 6 (L1 x43 x44 x45 x46 x47 x48) fun h50 =>
 (sB (k_37 != i_11)
 ((∃ x51, rI h50 (aS h12 0) x51 /\
 (∃ x52, rI h50 (aS h38 0) x52 /\
 (sB (x51 == x52)
 ((∃ x53, rB h50 (aS h12 1) x53 /\
 (∃ x54, rB h50 (aS h38 1) x54 /\
 (sB (!(x53 == x54))
 (R (.bool false) h50)
 ((∃ x55, rI h50 (aS h12 2) x55 /\
 (∃ x56, rI h50 (aS h38 2) x56 /\
 (sB (x55 == x56)
 ((∃ x57, rI h50 (aS h12 3) x57 /\
 (∃ x58, rI h50 (aS h38 3) x58 /\
 (sB (x57 == x58)
 (R (.bool false) h50)
 ((∃ x59, rB h50 (aS h12 5) x59 /\
 (sB x59
 (R (.bool false) h50)
 ((∃ x60, rB h50 (aS h12 5) x60 /\
 (sB x60
 ((∃ x61, rI h50 (aS h38 4) x61 /\
 (∃ x62, rI h50 (aS h12 0) x62 /\
 (sB (x61 == x62)
 ((∃ x63, rB h50 (aS h38 1) x63 /\
 (sB (!x63)
 (R (.bool false) h50)
 ((∃ x64, rI h50 (aS h38 3) x64 /\
 (∃ x65, rI h50 (aS h12 3) x65 /\
 (sB (x64 != x65)
 (R (.bool false) h50)
 ((∃ m66, m66 < m36 /\ I34 (IntKind.wrap .i64 (k_37 + 1)) h50 m66)))))))))
 ((∃ m67, m67 < m36 /\ I34 (IntKind.wrap .i64 (k_37 + 1)) h50 m67))))))
 ((∃ m68, m68 < m36 /\ I34 (IntKind.wrap .i64 (k_37 + 1)) h50 m68))))))))))))
 ((∃ x69, rB h50 (aS h12 5) x69 /\
 (sB x69
 (R (.bool false) h50)
 ((∃ x70, rB h50 (aS h12 5) x70 /\
 (sB x70
 ((∃ x71, rI h50 (aS h38 4) x71 /\
 (∃ x72, rI h50 (aS h12 0) x72 /\
 (sB (x71 == x72)
 ((∃ x73, rB h50 (aS h38 1) x73 /\
 (sB (!x73)
 (R (.bool false) h50)
 ((∃ x74, rI h50 (aS h38 3) x74 /\
 (∃ x75, rI h50 (aS h12 3) x75 /\
 (sB (x74 != x75)
 (R (.bool false) h50)
 ((∃ m76, m76 < m36 /\ I34 (IntKind.wrap .i64 (k_37 + 1)) h50 m76)))))))))
 ((∃ m77, m77 < m36 /\ I34 (IntKind.wrap .i64 (k_37 + 1)) h50 m77))))))
 ((∃ m78, m78 < m36 /\ I34 (IntKind.wrap .i64 (k_37 + 1)) h50 m78))))))))))))))))
 ((∃ x79, rB h50 (aS h12 5) x79 /\
 (sB x79
 ((∃ x80, rI h50 (aS h38 4) x80 /\
 (∃ x81, rI h50 (aS h12 0) x81 /\
 (sB (x80 == x81)
 ((∃ x82, rB h50 (aS h38 1) x82 /\
 (sB (!x82)
 (R (.bool false) h50)
 ((∃ x83, rI h50 (aS h38 3) x83 /\
 (∃ x84, rI h50 (aS h12 3) x84 /\
 (sB (x83 != x84)
 (R (.bool false) h50)
 ((∃ m85, m85 < m36 /\ I34 (IntKind.wrap .i64 (k_37 + 1)) h50 m85)))))))))
 ((∃ m86, m86 < m36 /\ I34 (IntKind.wrap .i64 (k_37 + 1)) h50 m86))))))
 ((∃ m87, m87 < m36 /\ I34 (IntKind.wrap .i64 (k_37 + 1)) h50 m87)))))))))
 ((∃ x88, rB h50 (aS h12 5) x88 /\
 (sB x88
 ((∃ x89, rI h50 (aS h38 4) x89 /\
 (∃ x90, rI h50 (aS h12 0) x90 /\
 (sB (x89 == x90)
 ((∃ x91, rB h50 (aS h38 1) x91 /\
 (sB (!x91)
 (R (.bool false) h50)
 ((∃ x92, rI h50 (aS h38 3) x92 /\
 (∃ x93, rI h50 (aS h12 3) x93 /\
 (sB (x92 != x93)
 (R (.bool false) h50)
 ((∃ m94, m94 < m36 /\ I34 (IntKind.wrap .i64 (k_37 + 1)) h50 m94)))))))))
 ((∃ m95, m95 < m36 /\ I34 (IntKind.wrap .i64 (k_37 + 1)) h50 m95))))))
 ((∃ m96, m96 < m36 /\ I34 (IntKind.wrap .i64 (k_37 + 1)) h50 m96)))))))))))))
 ((∃ m97, m97 < m10 /\ I8 (IntKind.wrap .i64 (i_11 + 1)) h38 m97)))))))))))))))))))))
 ((QI 0 h24 fun I98 k_101 h102 m100 => (
 (∃ x103, rS h102 (aS h 4) x103 /\
 (sB (decide (k_101 < (x103.n : Int)))
 ((∃ x104, rS h102 (aS h 4) x104 /\
 (NB x104.a fun b105 o106 => (Ib k_101 x104.n /\
 (∃ x107 x108 x109 x110 x111 x112, aL1 h102 ⟨b105, o106 + Int.toNat k_101 * 6, none⟩ x107 x108 x109 x110 x111 x112 /\
 (Wn h102 [vI 0, .bool false, vI 0, vI 0, vI 0, .bool false] 81 fun h113 =>
 (Wp h113 (aS h102 0) 6 (L1 x107 x108 x109 x110 x111 x112) fun h114 =>
 (sB (k_101 != i_11)
 ((∃ x115, rI h114 (aS h12 0) x115 /\
 (∃ x116, rI h114 (aS h102 0) x116 /\
 (sB (x115 == x116)
 ((∃ x117, rB h114 (aS h12 1) x117 /\
 (∃ x118, rB h114 (aS h102 1) x118 /\
 (sB (!(x117 == x118))
 (R (.bool false) h114)
 ((∃ x119, rI h114 (aS h12 2) x119 /\
 (∃ x120, rI h114 (aS h102 2) x120 /\
 (sB (x119 == x120)
 ((∃ x121, rI h114 (aS h12 3) x121 /\
 (∃ x122, rI h114 (aS h102 3) x122 /\
 (sB (x121 == x122)
 (R (.bool false) h114)
 ((∃ x123, rB h114 (aS h12 5) x123 /\
 (sB x123
 (R (.bool false) h114)
 ((∃ x124, rB h114 (aS h12 5) x124 /\
 (sB x124
 ((∃ x125, rI h114 (aS h102 4) x125 /\
 (∃ x126, rI h114 (aS h12 0) x126 /\
 (sB (x125 == x126)
 ((∃ x127, rB h114 (aS h102 1) x127 /\
 (sB (!x127)
 (R (.bool false) h114)
 ((∃ x128, rI h114 (aS h102 3) x128 /\
 (∃ x129, rI h114 (aS h12 3) x129 /\
 (sB (x128 != x129)
 (R (.bool false) h114)
 ((∃ m130, m130 < m100 /\ I98 (IntKind.wrap .i64 (k_101 + 1)) h114 m130)))))))))
 ((∃ m131, m131 < m100 /\ I98 (IntKind.wrap .i64 (k_101 + 1)) h114 m131))))))
 ((∃ m132, m132 < m100 /\ I98 (IntKind.wrap .i64 (k_101 + 1)) h114 m132))))))))))))
 ((∃ x133, rB h114 (aS h12 5) x133 /\
 (sB x133
 (R (.bool false) h114)
 ((∃ x134, rB h114 (aS h12 5) x134 /\
 (sB x134
 ((∃ x135, rI h114 (aS h102 4) x135 /\
 (∃ x136, rI h114 (aS h12 0) x136 /\
 (sB (x135 == x136)
 ((∃ x137, rB h114 (aS h102 1) x137 /\
 (sB (!x137)
 (R (.bool false) h114)
 ((∃ x138, rI h114 (aS h102 3) x138 /\
 (∃ x139, rI h114 (aS h12 3) x139 /\
 (sB (x138 != x139)
 (R (.bool false) h114)
 ((∃ m140, m140 < m100 /\ I98 (IntKind.wrap .i64 (k_101 + 1)) h114 m140)))))))))
 ((∃ m141, m141 < m100 /\ I98 (IntKind.wrap .i64 (k_101 + 1)) h114 m141))))))
 ((∃ m142, m142 < m100 /\ I98 (IntKind.wrap .i64 (k_101 + 1)) h114 m142))))))))))))))))
 ((∃ x143, rB h114 (aS h12 5) x143 /\
 (sB x143
 ((∃ x144, rI h114 (aS h102 4) x144 /\
 (∃ x145, rI h114 (aS h12 0) x145 /\
 (sB (x144 == x145)
 ((∃ x146, rB h114 (aS h102 1) x146 /\
 (sB (!x146)
 (R (.bool false) h114)
 ((∃ x147, rI h114 (aS h102 3) x147 /\
 (∃ x148, rI h114 (aS h12 3) x148 /\
 (sB (x147 != x148)
 (R (.bool false) h114)
 ((∃ m149, m149 < m100 /\ I98 (IntKind.wrap .i64 (k_101 + 1)) h114 m149)))))))))
 ((∃ m150, m150 < m100 /\ I98 (IntKind.wrap .i64 (k_101 + 1)) h114 m150))))))
 ((∃ m151, m151 < m100 /\ I98 (IntKind.wrap .i64 (k_101 + 1)) h114 m151)))))))))
 ((∃ x152, rB h114 (aS h12 5) x152 /\
 (sB x152
 ((∃ x153, rI h114 (aS h102 4) x153 /\
 (∃ x154, rI h114 (aS h12 0) x154 /\
 (sB (x153 == x154)
 ((∃ x155, rB h114 (aS h102 1) x155 /\
 (sB (!x155)
 (R (.bool false) h114)
 ((∃ x156, rI h114 (aS h102 3) x156 /\
 (∃ x157, rI h114 (aS h12 3) x157 /\
 (sB (x156 != x157)
 (R (.bool false) h114)
 ((∃ m158, m158 < m100 /\ I98 (IntKind.wrap .i64 (k_101 + 1)) h114 m158)))))))))
 ((∃ m159, m159 < m100 /\ I98 (IntKind.wrap .i64 (k_101 + 1)) h114 m159))))))
 ((∃ m160, m160 < m100 /\ I98 (IntKind.wrap .i64 (k_101 + 1)) h114 m160)))))))))))))
 ((∃ m161, m161 < m10 /\ I8 (IntKind.wrap .i64 (i_11 + 1)) h102 m161))))))))))))))))
 (R (.bool true) h12))))))
theorem vc59 (p0_1 p0_2 p0_3 : Int) (p0_4 p0_5 p0_6 : Sl) (h : Heap) (R : Value -> Heap -> Prop) (H : W59 p0_1 p0_2 p0_3 p0_4 p0_5 p0_6 h R) : Fn Pz 59 #[.agg ⟨(L0 p0_1 p0_2 p0_3 p0_4 p0_5 p0_6)⟩] h R := fnI (A := (.s .z (.s (.s .z (.b (.l [(3, .one (.int .i64))] (.s .z (.s (.b (.s .z (.s .z (.s .z (.b (.l [(5, .one (.int .i64))] .z)))))) .z))))) .z))) (by kernel_rfl) H

def W60 (p0_1 p0_2 p0_3 : Int) (p0_4 p0_5 p0_6 : Sl) (h : Heap) (R : Value -> Heap -> Prop) : Prop :=
 (Wn h (L0 p0_1 p0_2 p0_3 p0_4 p0_5 p0_6) 26 fun h7 =>
 (QI 0 h7 fun I8 i_11 h12 m10 => (
 (∃ x13, rS h12 (aS h 5) x13 /\
 (sB (decide (i_11 < (x13.n : Int)))
 ((∃ x14, rS h12 (aS h 5) x14 /\
 (NB x14.a fun b15 o16 => (Ib i_11 x14.n /\
 (∃ x17 x18 x19, aL4 h12 ⟨b15, o16 + Int.toNat i_11 * 3, none⟩ x17 x18 x19 /\
 (Wn h12 [vI 0, vI 0, vI 0] 44 fun h20 =>
 (Wp h20 (aS h12 0) 3 (L4 x17 x18 x19) fun h21 =>
 (∃ x22, rI h21 (aS h12 1) x22 /\
 (sB (decide (x22 < 1))
 (R (.bool false) h21)
 ((∃ x23, rI h21 (aS h12 1) x23 /\
 (sB (decide (x23 > 1000))
 (R (.bool false) h21)
 ((∃ x24, rI h21 (aS h12 2) x24 /\
 (sB (decide (x24 < 0))
 (R (.bool false) h21)
 ((∃ x25, rI h21 (aS h12 2) x25 /\
 (∃ x26, rS h21 (aS h 4) x26 /\
 (sB (decide (x25 >= (x26.n : Int)))
 (R (.bool false) h21)
 ((sB (decide (i_11 > 0))
 ((∃ x27, rI h21 (aS h12 0) x27 /\
 (∃ x28, rS h21 (aS h 5) x28 /\
 (NB x28.a fun b29 o30 => ((0 <= ((IntKind.wrap .i64 (i_11 - 1)) : Int) /\ ((IntKind.wrap .i64 (i_11 - 1)) : Int) < (x28.n : Nat)) /\
 (∃ x31, rI h21 ⟨b29, o30 + Int.toNat (IntKind.wrap .i64 (i_11 - 1)) * 3, none⟩ x31 /\
 (sB (decide (x27 <= x31))
 (R (.bool false) h21)
 ((∃ x32, rS h21 (aS h 4) x32 /\
 (∃ x33, rI h21 (aS h12 2) x33 /\
 (NB x32.a fun b34 o35 => (Ib x33 x32.n /\
 (∃ x36 x37 x38 x39 x40 x41, aL1 h21 ⟨b34, o35 + Int.toNat x33 * 6, none⟩ x36 x37 x38 x39 x40 x41 /\
 (Wn h21 [vI 0, .bool false, vI 0, vI 0, vI 0, .bool false] 81 fun h42 =>
 (Wp h42 (aS h21 0) 6 (L1 x36 x37 x38 x39 x40 x41) fun h43 =>
 (∃ x44, rI h43 (aS h21 0) x44 /\
 (∃ x45, rI h43 (aS h12 0) x45 /\
 (sB (x44 != x45)
 (R (.bool false) h43)
 ((∃ x46, rB h43 (aS h21 1) x46 /\
 (sB (!x46)
 (R (.bool false) h43)
 ((∃ x47, rB h43 (aS h21 5) x47 /\
 (sB x47
 (R (.bool false) h43)
 ((∃ m48, m48 < m10 /\ I8 (IntKind.wrap .i64 (i_11 + 1)) h43 m48))))))))))))))))))))))))))
 ((∃ x49, rS h21 (aS h 4) x49 /\
 (∃ x50, rI h21 (aS h12 2) x50 /\
 (NB x49.a fun b51 o52 => (Ib x50 x49.n /\
 (∃ x53 x54 x55 x56 x57 x58, aL1 h21 ⟨b51, o52 + Int.toNat x50 * 6, none⟩ x53 x54 x55 x56 x57 x58 /\
 (Wn h21 [vI 0, .bool false, vI 0, vI 0, vI 0, .bool false] 81 fun h59 =>
 (Wp h59 (aS h21 0) 6 (L1 x53 x54 x55 x56 x57 x58) fun h60 =>
 (∃ x61, rI h60 (aS h21 0) x61 /\
 (∃ x62, rI h60 (aS h12 0) x62 /\
 (sB (x61 != x62)
 (R (.bool false) h60)
 ((∃ x63, rB h60 (aS h21 1) x63 /\
 (sB (!x63)
 (R (.bool false) h60)
 ((∃ x64, rB h60 (aS h21 5) x64 /\
 (sB x64
 (R (.bool false) h60)
 ((∃ m65, m65 < m10 /\ I8 (IntKind.wrap .i64 (i_11 + 1)) h60 m65))))))))))))))))))))))))))))))))))))))))
 (R (.bool true) h12))))))
theorem vc60 (p0_1 p0_2 p0_3 : Int) (p0_4 p0_5 p0_6 : Sl) (h : Heap) (R : Value -> Heap -> Prop) (H : W60 p0_1 p0_2 p0_3 p0_4 p0_5 p0_6 h R) : Fn Pz 60 #[.agg ⟨(L0 p0_1 p0_2 p0_3 p0_4 p0_5 p0_6)⟩] h R := fnI (A := (.s .z (.s (.s .z (.b (.l [(3, .one (.int .i64))] .z))) .z))) (by kernel_rfl) H

def W61 (p0_1 p0_2 p0_3 : Int) (p0_4 p0_5 p0_6 : Sl) (h : Heap) (R : Value -> Heap -> Prop) : Prop :=
 (Wn h (L0 p0_1 p0_2 p0_3 p0_4 p0_5 p0_6) 26 fun h7 =>
 (∃ x8, rI h7 (aS h 2) x8 /\
 (Wn h7 [vI x8] 3 fun h9 =>
 (QSI ⟨(some (aS h7 0)), 1, 1⟩ 0 h9 fun I10 out_13 n_14 h15 m12 => (
 (∃ x16, rI h15 (aS h 1) x16 /\
 (sB (decide (n_14 < x16))
 ((QSI out_13 0 h15 fun I17 out_20 i_21 h22 m19 => (
 (∃ x23, rS h22 (aS h 4) x23 /\
 (sB (decide (i_21 < (x23.n : Int)))
 ((∃ x24, rS h22 (aS h 4) x24 /\
 (NB x24.a fun b25 o26 => (Ib i_21 x24.n /\
 (∃ x27, rI h22 ⟨b25, o26 + Int.toNat i_21 * 6, none⟩ x27 /\
 (Fn Pz 105 #[vS out_20, vI x27] h22
 (fun v28 h30 => ∃ x29, iB v28 x29 /\
 (sB x29
 ((∃ x31, rS h30 (aS h 4) x31 /\
 (NB x31.a fun b32 o33 => (Ib i_21 x31.n /\
 (∃ x34, rI h30 ⟨b32, o33 + Int.toNat i_21 * 6 + 4, none⟩ x34 /\
 (Fn Pz 106 #[vS out_20, vI x34] h30
 (fun v35 h37 => ∃ x36, iS v35 x36 /\
 (∃ m38, m38 < m19 /\ I17 x36 (IntKind.wrap .i64 (i_21 + 1)) h37 m38))))))))
 ((∃ m39, m39 < m19 /\ I17 out_20 (IntKind.wrap .i64 (i_21 + 1)) h30 m39))))))))))
 ((∃ m40, m40 < m12 /\ I10 out_20 (IntKind.wrap .i64 (n_14 + 1)) h22 m40)))))))
 (R (vS out_13) h15))))))))
theorem vc61 (p0_1 p0_2 p0_3 : Int) (p0_4 p0_5 p0_6 : Sl) (h : Heap) (R : Value -> Heap -> Prop) (H : W61 p0_1 p0_2 p0_3 p0_4 p0_5 p0_6 h R) : Fn Pz 61 #[.agg ⟨(L0 p0_1 p0_2 p0_3 p0_4 p0_5 p0_6)⟩] h R := fnI (A := (.s .z (.s .z (.s (.s .z (.b (.l [(3, .one (.slice)), (4, .one (.int .i64))] (.s .z (.s (.b (.s .z (.b (.l [(3, .one (.slice)), (5, .one (.int .i64))] .z)))) .z))))) .z)))) (by kernel_rfl) H

def W13 (p0_1 p0_2 p0_3 : Int) (p0_4 p0_5 p0_6 : Sl) (h : Heap) (R : Value -> Heap -> Prop) : Prop :=
 (Wn h (L0 p0_1 p0_2 p0_3 p0_4 p0_5 p0_6) 26 fun h7 =>
 (∃ x8, rI h7 (aS h 1) x8 /\
 (sB (decide (x8 <= 40))
 ((∃ x9, rS h7 (aS h 3) x9 /\
 (sB (decide ((x9.n : Int) <= 45))
 ((∃ x10, rS h7 (aS h 4) x10 /\
 (sB (decide ((x10.n : Int) <= 80))
 ((∃ x11, rS h7 (aS h 5) x11 /\
 R (.bool (decide ((x11.n : Int) <= 45))) h7))
 (R (.bool false) h7))))
 (R (.bool false) h7))))
 (R (.bool false) h7))))
theorem vc13 (p0_1 p0_2 p0_3 : Int) (p0_4 p0_5 p0_6 : Sl) (h : Heap) (R : Value -> Heap -> Prop) (H : W13 p0_1 p0_2 p0_3 p0_4 p0_5 p0_6 h R) : Fn Pz 13 #[.agg ⟨(L0 p0_1 p0_2 p0_3 p0_4 p0_5 p0_6)⟩] h R := fnI (A := .z) (by kernel_rfl) H

def W12  (h : Heap) (R : Value -> Heap -> Prop) : Prop :=
 (Fn Pz 46 #[.bool true] h
 (fun v1 h10 => ∃ (x2 : ByteArray) (x3 x4 : Sl) (x5 x6 x7 : Int) (x8 x9 : Sl), v1 = .agg ⟨(L3 x2 x3 x4 x5 x6 x7 x8 x9)⟩ /\
 (Fn Pz 35 #[.agg ⟨(L3 x2 x3 x4 x5 x6 x7 x8 x9)⟩, vI 2] h10
 (fun v11 h19 => ∃ (x12 x13 x14 : Int) (x15 x16 x17 : Sl) (x18 : Int), v11 = .tuple ⟨[.agg ⟨(L0 x12 x13 x14 x15 x16 x17)⟩, vI x18]⟩ /\
 (Wn h19 [vI 0, vI 0, vI 0, .slice none 0 0, .slice none 0 0, .slice none 0 0] 26 fun h20 =>
 (Wp h20 (aS h19 0) 6 (L0 x12 x13 x14 x15 x16 x17) fun h21 =>
 (Wn h21 [vI 0, .bool false, vI 0, vI 0, .slice none 0 0] 37 fun h22 =>
 (Wn h22 [vI 0, .bool false, vI 0, vI 0, .slice none 0 0] 37 fun h23 =>
 (Wp h23 (aS h21 0) 5 [vI 2, .bool false, vI 1, vI 0, .slice none 0 0] fun h24 =>
 (Wp h24 (aS h22 0) 5 [vI 2, .bool true, vI 1, vI 2, .slice none 0 0] fun h25 =>
 (∃ x26 x27 x28 x29 x30 x31, aL0 h25 (aS h19 0) x26 x27 x28 x29 x30 x31 /\
 (∃ x32 x33 x34 x35 x36, aL5 h25 (aS h21 0) x32 x33 x34 x35 x36 /\
 (∃ x37 x38 x39 x40 x41, aL5 h25 (aS h22 0) x37 x38 x39 x40 x41 /\
 (Wn h25 [vI x32, .bool x33, vI x34, vI x35, vS x36, vI x37, .bool x38, vI x39, vI x40, vS x41] 37 fun h42 =>
 (Fn Pz 14 #[.agg ⟨(L0 x26 x27 x28 x29 x30 x31)⟩, .slice (some (aS h25 0)) 2 2] h42
 (fun v43 h47 => ∃ (x44 x45 x46 : Int), v43 = .tuple ⟨(L4 x44 x45 x46)⟩ /\
 (Wp h47 (aS h21 3) 1 [vI 1] fun h48 =>
 (∃ x49 x50 x51 x52 x53 x54, aL0 h48 (aS h19 0) x49 x50 x51 x52 x53 x54 /\
 (∃ x55 x56 x57 x58 x59, aL5 h48 (aS h21 0) x55 x56 x57 x58 x59 /\
 (∃ x60 x61 x62 x63 x64, aL5 h48 (aS h22 0) x60 x61 x62 x63 x64 /\
 (Wn h48 [vI x55, .bool x56, vI x57, vI x58, vS x59, vI x60, .bool x61, vI x62, vI x63, vS x64] 37 fun h65 =>
 (Fn Pz 14 #[.agg ⟨(L0 x49 x50 x51 x52 x53 x54)⟩, .slice (some (aS h48 0)) 2 2] h65
 (fun v66 h70 => ∃ (x67 x68 x69 : Int), v66 = .tuple ⟨(L4 x67 x68 x69)⟩ /\
 (sB (x18 == 0)
 ((sB (x46 == 0)
 ((sB (x45 == 2)
 ((sB (x69 == 23)
 ((sB (x68 == 1)
 ((∃ x71 x72 x73 x74 x75 x76, aL0 h70 (aS h19 0) x71 x72 x73 x74 x75 x76 /\
 (Fn Pz 23 #[.agg ⟨(L0 x71 x72 x73 x74 x75 x76)⟩] h70
 (fun v77 h79 => ∃ x78, iB v77 x78 /\
 R (.bool x78) h79))))
 (R (.bool false) h70)))
 (R (.bool false) h70)))
 (R (.bool false) h70)))
 (R (.bool false) h70)))
 (R (.bool false) h70)))))))))))))))))))))))))
theorem vc12e  (h : Heap) (R : Value -> Heap -> Prop) : W12  h R = fnW Pz 12 .z #[] h R := by kernel_rfl
theorem vc12  (h : Heap) (R : Value -> Heap -> Prop) (H : W12  h R) : Fn Pz 12 #[] h R := fnI (vc12e  h R) H

end Go.VC
end

section
namespace Go.VC
open Go.Proofs

def W63 (p0_1 : Int) (p0_2 : Bool) (p0_3 p0_4 p0_5 : Int) (p0_6 : Bool) (h : Heap) (R : Value -> Heap -> Prop) : Prop :=
 (Wn h (L1 p0_1 p0_2 p0_3 p0_4 p0_5 p0_6) 81 fun h7 =>
 (Wn h7 [.bool false, vI 0, vI 0] 79 fun h8 =>
 (∃ x9, rB h8 (aS h 1) x9 /\
 (∃ x10, rI h8 (aS h 2) x10 /\
 (∃ x11, rI h8 (aS h 3) x11 /\
 (Wp h8 (aS h7 0) 3 (L2 x9 x10 x11) fun h12 =>
 (∃ x13 x14 x15, aL2 h12 (aS h7 0) x13 x14 x15 /\
 R (.agg ⟨(L2 x13 x14 x15)⟩) h12)))))))
theorem vc63 (p0_1 : Int) (p0_2 : Bool) (p0_3 p0_4 p0_5 : Int) (p0_6 : Bool) (h : Heap) (R : Value -> Heap -> Prop) (H : W63 p0_1 p0_2 p0_3 p0_4 p0_5 p0_6 h R) : Fn Pz 63 #[.agg ⟨(L1 p0_1 p0_2 p0_3 p0_4 p0_5 p0_6)⟩] h R := fnI (A := .z) (by kernel_rfl) H

def W104 (p0_1 : Bool) (p0_2 p0_3 : Int) (p1_4 : Bool) (p1_5 p1_6 : Int) (h : Heap) (R : Value -> Heap -> Prop) : Prop :=
 (Wn h (L2 p0_1 p0_2 p0_3) 79 fun h7 =>
 (Wn h7 (L2 p1_4 p1_5 p1_6) 79 fun h8 =>
 (∃ x9, rB h8 (aS h 0) x9 /\
 (∃ x10, rB h8 (aS h7 0) x10 /\
 (sB (!(x9 == x10))
 ((∃ x11, rB h8 (aS h 0) x11 /\
 (sB x11
 (R (vI (-1)) h8)
 (R (vI 1) h8))))
 ((∃ x12, rI h8 (aS h 1) x12 /\
 (∃ x13, rI h8 (aS h7 1) x13 /\
 (∃ x14, rI h8 (aS h 2) x14 /\
 (∃ x15, rI h8 (aS h7 2) x15 /\
 (Fn Pz 155 #[vI x12, vI x13] h8
 (fun v16 h18 => ∃ x17, iI v16 x17 /\
 (Sm [(aS h7 2), (aS h 2)] h8 h18 /\
 (Fn Pz 155 #[vI x14, vI x15] h18
 (fun v19 h21 => ∃ x20, iI v19 x20 /\
 (Sm [(aS h7 1), (aS h 1)] h18 h21 /\
 (Wn h21 [vI x17, vI x20] 3 fun h22 =>
 (Fn Pz 154 #[.slice (some (aS h21 0)) 2 2] h22
 (fun v23 h25 => ∃ x24, iI v23 x24 /\
 R (vI x24) h25)))))))))))))))))))
theorem vc104 (p0_1 : Bool) (p0_2 p0_3 : Int) (p1_4 : Bool) (p1_5 p1_6 : Int) (h : Heap) (R : Value -> Heap -> Prop) (H : W104 p0_1 p0_2 p0_3 p1_4 p1_5 p1_6 h R) : Fn Pz 104 #[.agg ⟨(L2 p0_1 p0_2 p0_3)⟩, .agg ⟨(L2 p1_4 p1_5 p1_6)⟩] h R := fnI (A := .z) (by kernel_rfl) H

def W151 (p0_1 p0_2 p0_3 : Int) (p0_4 p0_5 p0_6 : Sl) (p1 : Int) (h : Heap) (R : Value -> Heap -> Prop) : Prop :=
 (Wn h (L0 p0_1 p0_2 p0_3 p0_4 p0_5 p0_6) 26 fun h7 =>
 (sB (decide (p1 >= 0))
 ((∃ x8, rI h7 (aS h 1) x8 /\
 R (.bool (decide (p1 < x8))) h7))
 (R (.bool false) h7)))
theorem vc151 (p0_1 p0_2 p0_3 : Int) (p0_4 p0_5 p0_6 : Sl) (p1 : Int) (h : Heap) (R : Value -> Heap -> Prop) (H : W151 p0_1 p0_2 p0_3 p0_4 p0_5 p0_6 p1 h R) : Fn Pz 151 #[.agg ⟨(L0 p0_1 p0_2 p0_3 p0_4 p0_5 p0_6)⟩, vI p1] h R := fnI (A := .z) (by kernel_rfl) H

def W96 (p0_1 p0_2 p0_3 : Int) (p0_4 p0_5 p0_6 : Sl) (h : Heap) (R : Value -> Heap -> Prop) : Prop :=
 (Wn h (L0 p0_1 p0_2 p0_3 p0_4 p0_5 p0_6) 26 fun h7 =>
 (∃ x8, rI h7 (aS h 0) x8 /\
 (sB (decide (x8 < 0))
 (R (.bool false) h7)
 ((∃ x9, rI h7 (aS h 0) x9 /\
 (sB (decide (x9 >= 6))
 (R (.bool false) h7)
 ((∃ x10, rI h7 (aS h 1) x10 /\
 (sB (decide (x10 < 1))
 (R (.bool false) h7)
 ((∃ x11, rI h7 (aS h 1) x11 /\
 (sB (decide (x11 > 200))
 (R (.bool false) h7)
 ((∃ x12 x13 x14 x15 x16 x17, aL0 h7 (aS h 0) x12 x13 x14 x15 x16 x17 /\
 (∃ x18, rI h7 (aS h 2) x18 /\
 (Fn Pz 151 #[.agg ⟨(L0 x12 x13 x14 x15 x16 x17)⟩, vI x18] h7
 (fun v19 h21 => ∃ x20, iB v19 x20 /\
 (sB (!x20)
 (R (.bool false) h21)
 ((∃ x22, rS h21 (aS h 3) x22 /\
 (∃ x23, rI h21 (aS h 1) x23 /\
 (sB ((x22.n : Int) != x23)
 (R (.bool false) h21)
 ((∃ x24, rS h21 (aS h 4) x24 /\
 (sB (decide ((x24.n : Int) > 400))
 (R (.bool false) h21)
 ((∃ x25, rS h21 (aS h 4) x25 /\
 (QI 0 h21 fun I26 x_29 h30 m28 => (
 (sB (decide (x_29 < (x25.n : Int)))
 ((NB x25.a fun b31 o32 => (Ib x_29 x25.n /\
 (∃ x33 x34 x35 x36 x37 x38, aL1 h30 ⟨b31, o32 + Int.toNat x_29 * 6, none⟩ x33 x34 x35 x36 x37 x38 /\
 (Wn h30 [vI 0, .bool false, vI 0, vI 0, vI 0, .bool false] 81 fun h39 =>
 (Wp h39 (aS h30 0) 6 (L1 x33 x34 x35 x36 x37 x38) fun h40 =>
 (∃ x41 x42 x43 x44 x45 x46, aL0 h40 (aS h 0) x41 x42 x43 x44 x45 x46 /\
 (∃ x47, rI h40 (aS h30 0) x47 /\
 (Fn Pz 151 #[.agg ⟨(L0 x41 x42 x43 x44 x45 x46)⟩, vI x47] h40
 (fun v48 h50 => ∃ x49, iB v48 x49 /\
 (sB (!x49)
 (R (.bool false) h50)
 ((∃ x51 x52 x53 x54 x55 x56, aL0 h50 (aS h 0) x51 x52 x53 x54 x55 x56 /\
 (∃ x57, rI h50 (aS h30 4) x57 /\
 (Fn Pz 151 #[.agg ⟨(L0 x51 x52 x53 x54 x55 x56)⟩, vI x57] h50
 (fun v58 h60 => ∃ x59, iB v58 x59 /\
 (sB (!x59)
 (R (.bool false) h60)
 ((∃ x61, rI h60 (aS h30 2) x61 /\
 (sB (decide (x61 < 0))
 (R (.bool false) h60)
 ((∃ x62, rI h60 (aS h30 2) x62 /\
 (sB (decide (x62 >= 6))
 (R (.bool false) h60)
 ((∃ x63, rI h60 (aS h30 2) x63 /\
 (∃ x64, rI h60 (aS h 0) x64 /\
 (sB (x63 == x64)
 (R (.bool false) h60)
 ((∃ x65, rI h60 (aS h30 3) x65 /\
 (sB (decide (x65 < 0))
 (R (.bool false) h60)
 ((∃ x66, rI h60 (aS h30 3) x66 /\
 (sB (decide (x66 >= 40))
 (R (.bool false) h60)
 ((∃ m67, m67 < m28 /\ I26 (IntKind.wrap .i64 (x_29 + 1)) h60 m67)))))))))))))))))))))))))))))))))))
 (R (.bool true) h30)))))))))))))))))))))))))))))))
theorem vc96 (p0_1 p0_2 p0_3 : Int) (p0_4 p0_5 p0_6 : Sl) (h : Heap) (R : Value -> Heap -> Prop) (H : W96 p0_1 p0_2 p0_3 p0_4 p0_5 p0_6 h R) : Fn Pz 96 #[.agg ⟨(L0 p0_1 p0_2 p0_3 p0_4 p0_5 p0_6)⟩] h R := fnI (A := (.s .z (.s .z (.s (.s .z (.b (.l [(47, .one (.int .i64))] .z))) .z)))) (by kernel_rfl) H

def W97 (p0_1 p0_2 p0_3 : Int) (p0_4 p0_5 p0_6 : Sl) (h : Heap) (R : Value -> Heap -> Prop) : Prop :=
 (Wn h (L0 p0_1 p0_2 p0_3 p0_4 p0_5 p0_6) 26 fun h7 =>
 (∃ x8 x9 x10 x11 x12 x13, aL0 h7 (aS h 0) x8 x9 x10 x11 x12 x13 /\
 (∃ x14, rI h7 (aS h 1) x14 /\
 (Mk x14 x14 24 /\ Wn h7 (madeL Pz 49 (Int.toNat x14)) 49 fun h15 =>
 (Sm [(aS h 0)] h7 h15 /\
 (Wn h15 [vI x8, vI x9, vI x10, vS x11, vS x12, vS x13, .slice (some (aS h7 0)) (Int.toNat x14) (Int.toNat x14)] 93 fun h16 =>
 (∃ x17, rS h16 (aS h 4) x17 /\
 (QI 0 h16 fun I18 x_21 h22 m20 => (
 (sB (decide (x_21 < (x17.n : Int)))
 ((NB x17.a fun b23 o24 => (Ib x_21 x17.n /\
 (∃ x25 x26 x27 x28 x29 x30, aL1 h22 ⟨b23, o24 + Int.toNat x_21 * 6, none⟩ x25 x26 x27 x28 x29 x30 /\
 (Wn h22 [vI 0, .bool false, vI 0, vI 0, vI 0, .bool false] 81 fun h31 =>
 (Wp h31 (aS h22 0) 6 (L1 x25 x26 x27 x28 x29 x30) fun h32 =>
 (∃ x33, rS h32 (aS h15 6) x33 /\
 (∃ x34, rI h32 (aS h22 0) x34 /\
 (∃ x35, rS h32 (aS h15 6) x35 /\
 (∃ x36, rI h32 (aS h22 0) x36 /\
 (NB x35.a fun b37 o38 => (Ib x36 x35.n /\
 (∃ x39, rS h32 ⟨b37, o38 + Int.toNat x36 * 1, none⟩ x39 /\
 (Wn h32 [vI x_21] 3 fun h40 =>
 (Sm [⟨b37, o38 + Int.toNat x36 * 1, none⟩, (aS h22 0), (aS h15 6), (aS h22 0), (aS h15 6)] h32 h40 /\
 (App Pz 49 49 (vS x39) (.slice (some (aS h32 0)) 1 1) h40 fun s41 h42 =>
 (Sm [(aS h22 0), (aS h15 6)] h40 h42 /\
 (NB x33.a fun b43 o44 => (Ib x34 x33.n /\
 (Wp h42 ⟨b43, o44 + Int.toNat x34 * 1, none⟩ 1 [vS s41] fun h45 =>
 (∃ m46, m46 < m20 /\ I18 (IntKind.wrap .i64 (x_21 + 1)) h45 m46)))))))))))))))))))))
 ((∃ x47, rS h22 (aS h15 6) x47 /\
 (QI 0 h22 fun I48 x_51 h52 m50 => (
 (sB (decide (x_51 < (x47.n : Int)))
 ((NB x47.a fun b53 o54 => (Ib x_51 x47.n /\
 (∃ x55, rS h52 ⟨b53, o54 + Int.toNat x_51 * 1, none⟩ x55 /\
 (Fn Pz 152 #[vS x55, .func (.func 153) #[] #[.pointer (some (aS h 0))]] h52
 (fun v56 h57 => v56 = .tuple ⟨[]⟩ /\
 (∃ m58, m58 < m50 /\ I48 (IntKind.wrap .i64 (x_51 + 1)) h57 m58)))))))
 (R (.pointer (some (aS h15 0))) h52))))))))))))))))
theorem vc97 (p0_1 p0_2 p0_3 : Int) (p0_4 p0_5 p0_6 : Sl) (h : Heap) (R : Value -> Heap -> Prop) (H : W97 p0_1 p0_2 p0_3 p0_4 p0_5 p0_6 h R) : Fn Pz 97 #[.agg ⟨(L0 p0_1 p0_2 p0_3 p0_4 p0_5 p0_6)⟩] h R := fnI (A := (.s .z (.s .z (.s (.s .z (.b (.l [(17, .one (.int .i64))] .z))) (.s (.s .z (.b (.l [(46, .one (.int .i64))] .z))) .z))))) (by kernel_rfl) H

def W153 (p0 p1 : Int) (c0 : Addr) (h : Heap) (R : Value -> Heap -> Prop) : Prop :=
 (∃ x1, rS h ⟨c0.block, c0.off + 4, none⟩ x1 /\
 (NB x1.a fun b2 o3 => (Ib p0 x1.n /\
 (∃ x4 x5 x6 x7 x8 x9, aL1 h ⟨b2, o3 + Int.toNat p0 * 6, none⟩ x4 x5 x6 x7 x8 x9 /\
 (∃ x10, rS h ⟨c0.block, c0.off + 4, none⟩ x10 /\
 (NB x10.a fun b11 o12 => (Ib p1 x10.n /\
 (∃ x13 x14 x15 x16 x17 x18, aL1 h ⟨b11, o12 + Int.toNat p1 * 6, none⟩ x13 x14 x15 x16 x17 x18 /\
 (Fn Pz 63 #[.agg ⟨(L1 x4 x5 x6 x7 x8 x9)⟩] h
 (fun v19 h23 => ∃ (x20 : Bool) (x21 x22 : Int), v19 = .agg ⟨(L2 x20 x21 x22)⟩ /\
 (Sm [⟨b11, o12 + Int.toNat p1 * 6, none⟩, ⟨c0.block, c0.off + 4, none⟩] h h23 /\
 (Fn Pz 63 #[.agg ⟨(L1 x13 x14 x15 x16 x17 x18)⟩] h23
 (fun v24 h28 => ∃ (x25 : Bool) (x26 x27 : Int), v24 = .agg ⟨(L2 x25 x26 x27)⟩ /\
 (Sm [⟨b2, o3 + Int.toNat p0 * 6, none⟩, ⟨c0.block, c0.off + 4, none⟩] h23 h28 /\
 (Fn Pz 104 #[.agg ⟨(L2 x20 x21 x22)⟩, .agg ⟨(L2 x25 x26 x27)⟩] h28
 (fun v29 h31 => ∃ x30, iI v29 x30 /\
 R (vI x30) h31))))))))))))))))
theorem vc153 (p0 p1 : Int) (c0 : Addr) (h : Heap) (R : Value -> Heap -> Prop) (H : W153 p0 p1 c0 h R) : Fn Pz 153 #[vI p0, vI p1, .pointer (some c0)] h R := fnI (A := .z) (by kernel_rfl) H

def W98 (p0 : Addr) (h : Heap) (R : Value -> Heap -> Prop) : Prop :=
 (∃ x1, rS h ⟨p0.block, p0.off + 6, none⟩ x1 /\
 (QI 0 h fun I2 x_5 h6 m4 => (
 (sB (decide (x_5 < (x1.n : Int)))
 ((NB x1.a fun b7 o8 => (Ib x_5 x1.n /\
 (∃ x9, rS h6 ⟨b7, o8 + Int.toNat x_5 * 1, none⟩ x9 /\
 (QI 1 h6 fun I10 i_13 h14 m12 => (
 (sB (decide (i_13 < (x9.n : Int)))
 ((∃ x15, rS h14 ⟨p0.block, p0.off + 4, none⟩ x15 /\
 (NB x9.a fun b16 o17 => ((0 <= ((IntKind.wrap .i64 (i_13 - 1)) : Int) /\ ((IntKind.wrap .i64 (i_13 - 1)) : Int) < (x9.n : Nat)) /\
 (∃ x18, rI h14 ⟨b16, o17 + Int.toNat (IntKind.wrap .i64 (i_13 - 1)) * 1, none⟩ x18 /\
 (NB x15.a fun b19 o20 => (Ib x18 x15.n /\
 (∃ x21 x22 x23 x24 x25 x26, aL1 h14 ⟨b19, o20 + Int.toNat x18 * 6, none⟩ x21 x22 x23 x24 x25 x26 /\
 (∃ x27, rS h14 ⟨p0.block, p0.off + 4, none⟩ x27 /\
 (NB x9.a fun b28 o29 => (Ib i_13 x9.n /\
 (∃ x30, rI h14 ⟨b28, o29 + Int.toNat i_13 * 1, none⟩ x30 /\
 (NB x27.a fun b31 o32 => (Ib x30 x27.n /\
 (∃ x33 x34 x35 x36 x37 x38, aL1 h14 ⟨b31, o32 + Int.toNat x30 * 6, none⟩ x33 x34 x35 x36 x37 x38 /\
 ((Wn h14 [vI 0, .bool false, vI 0, vI 0, vI 0, .bool false] 81 fun h39 =>
 (Sm [⟨b31, o32 + Int.toNat x30 * 6, none⟩, ⟨b28, o29 + Int.toNat i_13 * 1, none⟩, ⟨p0.block, p0.off + 4, none⟩, ⟨b19, o20 + Int.toNat x18 * 6, none⟩, ⟨b16, o17 + Int.toNat (IntKind.wrap .i64 (i_13 - 1)) * 1, none⟩, ⟨p0.block, p0.off + 4, none⟩] h14 h39 /\
 (Wn h39 [vI 0, .bool false, vI 0, vI 0, vI 0, .bool false] 81 fun h40 =>
 (Sm [⟨b31, o32 + Int.toNat x30 * 6, none⟩, ⟨b28, o29 + Int.toNat i_13 * 1, none⟩, ⟨p0.block, p0.off + 4, none⟩, ⟨b19, o20 + Int.toNat x18 * 6, none⟩, ⟨b16, o17 + Int.toNat (IntKind.wrap .i64 (i_13 - 1)) * 1, none⟩, ⟨p0.block, p0.off + 4, none⟩] h39 h40 /\
 (Wp h40 (aS h14 0) 6 (L1 x21 x22 x23 x24 x25 x26) fun h41 =>
 (Sm [⟨b31, o32 + Int.toNat x30 * 6, none⟩, ⟨b28, o29 + Int.toNat i_13 * 1, none⟩, ⟨p0.block, p0.off + 4, none⟩] h40 h41 /\
 (Wp h41 (aS h39 0) 6 (L1 x33 x34 x35 x36 x37 x38) fun h42 =>
 (∃ x43 x44 x45 x46 x47 x48, aL1 h42 (aS h14 0) x43 x44 x45 x46 x47 x48 /\
 (∃ x49 x50 x51 x52 x53 x54, aL1 h42 (aS h39 0) x49 x50 x51 x52 x53 x54 /\
 (Fn Pz 63 #[.agg ⟨(L1 x43 x44 x45 x46 x47 x48)⟩] h42
 (fun v55 h59 => ∃ (x56 : Bool) (x57 x58 : Int), v55 = .agg ⟨(L2 x56 x57 x58)⟩ /\
 (Sm [(aS h39 0)] h42 h59 /\
 (Fn Pz 63 #[.agg ⟨(L1 x49 x50 x51 x52 x53 x54)⟩] h59
 (fun v60 h64 => ∃ (x61 : Bool) (x62 x63 : Int), v60 = .agg ⟨(L2 x61 x62 x63)⟩ /\
 (Sm [(aS h14 0)] h59 h64 /\
 (sB ((x56 == x61) && ((x57 == x62) && ((x58 == x63) && true)))
 (R (.bool false) h64)
 ((∃ x65, rB h64 (aS h14 1) x65 /\
 (∃ x66, rB h64 (aS h39 1) x66 /\
 (sB (!(x65 == x66))
 (R (.bool false) h64)
 ((∃ m67, m67 < m12 /\ I10 (IntKind.wrap .i64 (i_13 + 1)) h64 m67))))))))))))))))))))))) /\ ((Wn h14 [vI 0, .bool false, vI 0, vI 0, vI 0, .bool false] 81 fun h68 =>
 (Sm [⟨b31, o32 + Int.toNat x30 * 6, none⟩, ⟨b28, o29 + Int.toNat i_13 * 1, none⟩, ⟨p0.block, p0.off + 4, none⟩, ⟨b19, o20 + Int.toNat x18 * 6, none⟩, ⟨b16, o17 + Int.toNat (IntKind.wrap .i64 (i_13 - 1)) * 1, none⟩, ⟨p0.block, p0.off + 4, none⟩] h14 h68 /\
 (Wn h68 [vI 0, .bool false, vI 0, vI 0, vI 0, .bool false] 81 fun h69 =>
 (Sm [⟨b31, o32 + Int.toNat x30 * 6, none⟩, ⟨b28, o29 + Int.toNat i_13 * 1, none⟩, ⟨p0.block, p0.off + 4, none⟩, ⟨b19, o20 + Int.toNat x18 * 6, none⟩, ⟨b16, o17 + Int.toNat (IntKind.wrap .i64 (i_13 - 1)) * 1, none⟩, ⟨p0.block, p0.off + 4, none⟩] h68 h69 /\
 (Wp h69 (aS h68 0) 6 (L1 x21 x22 x23 x24 x25 x26) fun h70 =>
 (Sm [⟨b31, o32 + Int.toNat x30 * 6, none⟩, ⟨b28, o29 + Int.toNat i_13 * 1, none⟩, ⟨p0.block, p0.off + 4, none⟩] h69 h70 /\
 (Wp h70 (aS h14 0) 6 (L1 x33 x34 x35 x36 x37 x38) fun h71 =>
 (∃ x72 x73 x74 x75 x76 x77, aL1 h71 (aS h68 0) x72 x73 x74 x75 x76 x77 /\
 (∃ x78 x79 x80 x81 x82 x83, aL1 h71 (aS h14 0) x78 x79 x80 x81 x82 x83 /\
 (Fn Pz 63 #[.agg ⟨(L1 x72 x73 x74 x75 x76 x77)⟩] h71
 (fun v84 h88 => ∃ (x85 : Bool) (x86 x87 : Int), v84 = .agg ⟨(L2 x85 x86 x87)⟩ /\
 (Sm [(aS h14 0)] h71 h88 /\
 (Fn Pz 63 #[.agg ⟨(L1 x78 x79 x80 x81 x82 x83)⟩] h88
 (fun v89 h93 => ∃ (x90 : Bool) (x91 x92 : Int), v89 = .agg ⟨(L2 x90 x91 x92)⟩ /\
 (Sm [(aS h68 0)] h88 h93 /\
 (sB ((x85 == x90) && ((x86 == x91) && ((x87 == x92) && true)))
 (R (.bool false) h93)
 ((∃ x94, rB h93 (aS h68 1) x94 /\
 (∃ x95, rB h93 (aS h14 1) x95 /\
 (sB (!(x94 == x95))
 (R (.bool false) h93)
 ((∃ m96, m96 < m12 /\ I10 (IntKind.wrap .i64 (i_13 + 1)) h93 m96))))))))))))))))))))))))))))))))))))))
 ((∃ m97, m97 < m4 /\ I2 (IntKind.wrap .i64 (x_5 + 1)) h14 m97)))))))))
 (R (.bool true) h6)))))
theorem vc98 (p0 : Addr) (h : Heap) (R : Value -> Heap -> Prop) (H : W98 p0 h R) : Fn Pz 98 #[.pointer (some p0)] h R := fnI (A := (.s .z (.s (.s .z (.b (.l [(13, .one (.int .i64))] (.s .z (.s .z (.s (.b (.s .z (.s .z (.b (.l [(5, .one (.int .i64))] .z))))) .z)))))) .z))) (by kernel_rfl) H

def W99 (p0 : Addr) (h : Heap) (R : Value -> Heap -> Prop) : Prop :=
 (∃ x1, rI h ⟨p0.block, p0.off + 1, none⟩ x1 /\
 (Mk x1 x1 1 /\ Wn h (madeL Pz 4 (Int.toNat x1)) 4 fun h2 =>
 (∃ x3, rI h2 ⟨p0.block, p0.off + 2, none⟩ x3 /\
 ((0 <= (x3 : Int) /\ (x3 : Int) < ((Int.toNat x1) : Nat)) /\
 (Wp h2 (aS h (0 + Int.toNat x3 * 1)) 1 [.bool true] fun h4 =>
 (∃ x5, rI h4 ⟨p0.block, p0.off + 2, none⟩ x5 /\
 (Wn h4 [vI x5] 3 fun h6 =>
 (QSI ⟨(some (aS h4 0)), 1, 1⟩ 0 h6 fun I7 todo_10 head_11 h12 m9 => (
 (sB (decide (head_11 < (todo_10.n : Int)))
 ((∃ x13, rS h12 ⟨p0.block, p0.off + 6, none⟩ x13 /\
 (NB todo_10.a fun b14 o15 => (Ib head_11 todo_10.n /\
 (∃ x16, rI h12 ⟨b14, o15 + Int.toNat head_11 * 1, none⟩ x16 /\
 (NB x13.a fun b17 o18 => (Ib x16 x13.n /\
 (∃ x19, rS h12 ⟨b17, o18 + Int.toNat x16 * 1, none⟩ x19 /\
 (QSI todo_10 0 h12 fun I20 todo_23 x_24 h25 m22 => (
 (sB (decide (x_24 < (x19.n : Int)))
 ((NB x19.a fun b26 o27 => (Ib x_24 x19.n /\
 (∃ x28, rI h25 ⟨b26, o27 + Int.toNat x_24 * 1, none⟩ x28 /\
 (∃ x29, rS h25 ⟨p0.block, p0.off + 4, none⟩ x29 /\
 (NB x29.a fun b30 o31 => (Ib x28 x29.n /\
 (∃ x32, rI h25 ⟨b30, o31 + Int.toNat x28 * 6 + 4, none⟩ x32 /\
 ((0 <= (x32 : Int) /\ (x32 : Int) < ((Int.toNat x1) : Nat)) /\
 (∃ x33, rB h25 (aS h (0 + Int.toNat x32 * 1)) x33 /\
 (sB (!x33)
 (((0 <= (x32 : Int) /\ (x32 : Int) < ((Int.toNat x1) : Nat)) /\
 (Wp h25 (aS h (0 + Int.toNat x32 * 1)) 1 [.bool true] fun h34 =>
 (Wn h34 [vI x32] 3 fun h35 =>
 (App Pz 49 49 (vS todo_23) (.slice (some (aS h34 0)) 1 1) h35 fun s36 h37 =>
 (∃ m38, m38 < m22 /\ I20 s36 (IntKind.wrap .i64 (x_24 + 1)) h37 m38))))))
 ((∃ m39, m39 < m22 /\ I20 todo_23 (IntKind.wrap .i64 (x_24 + 1)) h25 m39)))))))))))))
 ((∃ m40, m40 < m9 /\ I7 todo_23 (IntKind.wrap .i64 (head_11 + 1)) h25 m40)))))))))))))
 ((∃ x41, rI h12 ⟨p0.block, p0.off + 1, none⟩ x41 /\
 R (.bool ((todo_10.n : Int) == x41)) h12))))))))))))
theorem vc99 (p0 : Addr) (h : Heap) (R : Value -> Heap -> Prop) (H : W99 p0 h R) : Fn Pz 99 #[.pointer (some p0)] h R := fnI (A := (.s .z (.s .z (.s .z (.s .z (.s (.s .z (.b (.l [(4, .one (.slice)), (5, .one (.int .i64))] (.s .z (.s (.b (.s .z (.b (.l [(4, .one (.slice)), (45, .one (.int .i64))] .z)))) .z))))) .z)))))) (by kernel_rfl) H

def W100 (p0 : Addr) (h : Heap) (R : Value -> Heap -> Prop) : Prop :=
 (∃ x1, rS h ⟨p0.block, p0.off + 4, none⟩ x1 /\
 (QI 0 h fun I2 x_5 h6 m4 => (
 (sB (decide (x_5 < (x1.n : Int)))
 ((NB x1.a fun b7 o8 => (Ib x_5 x1.n /\
 (∃ x9 x10 x11 x12 x13 x14, aL1 h6 ⟨b7, o8 + Int.toNat x_5 * 6, none⟩ x9 x10 x11 x12 x13 x14 /\
 (Wn h6 [vI 0, .bool false, vI 0, vI 0, vI 0, .bool false] 81 fun h15 =>
 (Wp h15 (aS h6 0) 6 (L1 x9 x10 x11 x12 x13 x14) fun h16 =>
 (∃ x17, rB h16 (aS h6 5) x17 /\
 (sB (!x17)
 ((∃ m18, m18 < m4 /\ I2 (IntKind.wrap .i64 (x_5 + 1)) h16 m18))
 ((∃ x19, rB h16 (aS h6 1) x19 /\
 (sB (!x19)
 (R (.bool false) h16)
 ((∃ x20, rS h16 ⟨p0.block, p0.off + 6, none⟩ x20 /\
 (∃ x21, rI h16 (aS h6 0) x21 /\
 (NB x20.a fun b22 o23 => (Ib x21 x20.n /\
 (∃ x24, rS h16 ⟨b22, o23 + Int.toNat x21 * 1, none⟩ x24 /\
 (sB ((x24.n : Int) != 1)
 (R (.bool false) h16)
 ((∃ x25, rI h16 (aS h6 0) x25 /\
 (∃ x26, rI h16 ⟨p0.block, p0.off + 2, none⟩ x26 /\
 (sB (x25 == x26)
 (R (.bool false) h16)
 ((∃ x27, rS h16 ⟨p0.block, p0.off + 3, none⟩ x27 /\
 (∃ x28, rI h16 (aS h6 0) x28 /\
 (NB x27.a fun b29 o30 => (Ib x28 x27.n /\
 (∃ x31, rB h16 ⟨b29, o30 + Int.toNat x28 * 1, none⟩ x31 /\
 (sB x31
 (R (.bool false) h16)
 ((∃ x32, rS h16 ⟨p0.block, p0.off + 4, none⟩ x32 /\
 (QI 0 h16 fun I33 x_36 h37 m35 => (
 (sB (decide (x_36 < (x32.n : Int)))
 ((NB x32.a fun b38 o39 => (Ib x_36 x32.n /\
 (∃ x40 x41 x42 x43 x44 x45, aL1 h37 ⟨b38, o39 + Int.toNat x_36 * 6, none⟩ x40 x41 x42 x43 x44 x45 /\
 (Wn h37 [vI 0, .bool false, vI 0, vI 0, vI 0, .bool false] 81 fun h46 =>
 (Wp h46 (aS h37 0) 6 (L1 x40 x41 x42 x43 x44 x45) fun h47 =>
 (∃ x48, rI h47 (aS h37 4) x48 /\
 (∃ x49, rI h47 (aS h6 0) x49 /\
 (sB (x48 == x49)
 ((∃ x50, rB h47 (aS h37 1) x50 /\
 (sB (!x50)
 (R (.bool false) h47)
 ((∃ x51, rI h47 (aS h37 3) x51 /\
 (∃ x52, rI h47 (aS h6 3) x52 /\
 (sB (x51 != x52)
 (R (.bool false) h47)
 ((∃ m53, m53 < m35 /\ I33 (IntKind.wrap .i64 (x_36 + 1)) h47 m53)))))))))
 ((∃ m54, m54 < m35 /\ I33 (IntKind.wrap .i64 (x_36 + 1)) h47 m54)))))))))))
 ((∃ m55, m55 < m4 /\ I2 (IntKind.wrap .i64 (x_5 + 1)) h37 m55))))))))))))))))))))))))))))))))))))
 (R (.bool true) h6)))))
theorem vc100 (p0 : Addr) (h : Heap) (R : Value -> Heap -> Prop) (H : W100 p0 h R) : Fn Pz 100 #[.pointer (some p0)] h R := fnI (A := (.s .z (.s (.s .z (.b (.l [(13, .one (.int .i64))] (.s .z (.s .z (.s (.b (.s .z (.s .z (.s .z (.s .z (.b (.l [(62, .one (.int .i64))] .z))))))) .z)))))) .z))) (by kernel_rfl) H

def W101 (p0 : Addr) (h : Heap) (R : Value -> Heap -> Prop) : Prop :=
 (∃ x1, rS h ⟨p0.block, p0.off + 5, none⟩ x1 /\
 (QI 0 h fun I2 x_5 h6 m4 => (
 (sB (decide (x_5 < (x1.n : Int)))
 ((NB x1.a fun b7 o8 => (Ib x_5 x1.n /\
 (∃ x9 x10 x11, aL4 h6 ⟨b7, o8 + Int.toNat x_5 * 3, none⟩ x9 x10 x11 /\
 (Wn h6 [vI 0, vI 0, vI 0] 44 fun h12 =>
 (Wp h12 (aS h6 0) 3 (L4 x9 x10 x11) fun h13 =>
 (sB (decide (x_5 > 0))
 ((∃ x14, rS h13 ⟨p0.block, p0.off + 5, none⟩ x14 /\
 (NB x14.a fun b15 o16 => ((0 <= ((IntKind.wrap .i64 (x_5 - 1)) : Int) /\ ((IntKind.wrap .i64 (x_5 - 1)) : Int) < (x14.n : Nat)) /\
 (∃ x17, rI h13 ⟨b15, o16 + Int.toNat (IntKind.wrap .i64 (x_5 - 1)) * 3, none⟩ x17 /\
 (∃ x18, rI h13 (aS h6 0) x18 /\
 (sB (decide (x17 >= x18))
 (R (.bool false) h13)
 ((∃ x19, rI h13 (aS h6 1) x19 /\
 (sB (decide (x19 < 1))
 (R (.bool false) h13)
 ((∃ x20, rI h13 (aS h6 1) x20 /\
 (sB (decide (x20 > 1000))
 (R (.bool false) h13)
 ((∃ x21, rI h13 (aS h6 2) x21 /\
 (sB (decide (x21 < 0))
 (R (.bool false) h13)
 ((∃ x22, rI h13 (aS h6 2) x22 /\
 (∃ x23, rS h13 ⟨p0.block, p0.off + 4, none⟩ x23 /\
 (sB (decide (x22 >= (x23.n : Int)))
 (R (.bool false) h13)
 ((∃ x24, rS h13 ⟨p0.block, p0.off + 4, none⟩ x24 /\
 (∃ x25, rI h13 (aS h6 2) x25 /\
 (NB x24.a fun b26 o27 => (Ib x25 x24.n /\
 (∃ x28 x29 x30 x31 x32 x33, aL1 h13 ⟨b26, o27 + Int.toNat x25 * 6, none⟩ x28 x29 x30 x31 x32 x33 /\
 (Wn h13 [vI 0, .bool false, vI 0, vI 0, vI 0, .bool false] 81 fun h34 =>
 (Sm [⟨b26, o27 + Int.toNat x25 * 6, none⟩, (aS h6 2), ⟨p0.block, p0.off + 4, none⟩] h13 h34 /\
 (Wp h34 (aS h13 0) 6 (L1 x28 x29 x30 x31 x32 x33) fun h35 =>
 (∃ x36, rI h35 (aS h13 0) x36 /\
 (∃ x37, rI h35 (aS h6 0) x37 /\
 (sB (x36 != x37)
 (R (.bool false) h35)
 ((∃ x38, rB h35 (aS h13 1) x38 /\
 (sB (!x38)
 (R (.bool false) h35)
 ((∃ x39, rB h35 (aS h13 5) x39 /\
 (sB x39
 (R (.bool false) h35)
 ((∃ m40, m40 < m4 /\ I2 (IntKind.wrap .i64 (x_5 + 1)) h35 m40))))))))))))))))))))))))))))))))))))))))
 ((∃ x41, rI h13 (aS h6 1) x41 /\
 (sB (decide (x41 < 1))
 (R (.bool false) h13)
 ((∃ x42, rI h13 (aS h6 1) x42 /\
 (sB (decide (x42 > 1000))
 (R (.bool false) h13)
 ((∃ x43, rI h13 (aS h6 2) x43 /\
 (sB (decide (x43 < 0))
 (R (.bool false) h13)
 ((∃ x44, rI h13 (aS h6 2) x44 /\
 (∃ x45, rS h13 ⟨p0.block, p0.off + 4, none⟩ x45 /\
 (sB (decide (x44 >= (x45.n : Int)))
 (R (.bool false) h13)
 ((∃ x46, rS h13 ⟨p0.block, p0.off + 4, none⟩ x46 /\
 (∃ x47, rI h13 (aS h6 2) x47 /\
 (NB x46.a fun b48 o49 => (Ib x47 x46.n /\
 (∃ x50 x51 x52 x53 x54 x55, aL1 h13 ⟨b48, o49 + Int.toNat x47 * 6, none⟩ x50 x51 x52 x53 x54 x55 /\
 (Wn h13 [vI 0, .bool false, vI 0, vI 0, vI 0, .bool false] 81 fun h56 =>
 (Sm [⟨b48, o49 + Int.toNat x47 * 6, none⟩, (aS h6 2), ⟨p0.block, p0.off + 4, none⟩] h13 h56 /\
 (Wp h56 (aS h13 0) 6 (L1 x50 x51 x52 x53 x54 x55) fun h57 =>
 (∃ x58, rI h57 (aS h13 0) x58 /\
 (∃ x59, rI h57 (aS h6 0) x59 /\
 (sB (x58 != x59)
 (R (.bool false) h57)
 ((∃ x60, rB h57 (aS h13 1) x60 /\
 (sB (!x60)
 (R (.bool false) h57)
 ((∃ x61, rB h57 (aS h13 5) x61 /\
 (sB x61
 (R (.bool false) h57)
 ((∃ m62, m62 < m4 /\ I2 (IntKind.wrap .i64 (x_5 + 1)) h57 m62))))))))))))))))))))))))))))))))))))))))
 (R (.bool true) h6)))))
theorem vc101 (p0 : Addr) (h : Heap) (R : Value -> Heap -> Prop) (H : W101 p0 h R) : Fn Pz 101 #[.pointer (some p0)] h R := fnI (A := (.s .z (.s (.s .z (.b (.l [(12, .one (.int .i64))] .z))) .z))) (by kernel_rfl) H

def W47 (p0_1 p0_2 p0_3 : Int) (p0_4 p0_5 p0_6 : Sl) (h : Heap) (R : Value -> Heap -> Prop) : Prop :=
 (Wn h (L0 p0_1 p0_2 p0_3 p0_4 p0_5 p0_6) 26 fun h7 =>
 (∃ x8 x9 x10 x11 x12 x13, aL0 h7 (aS h 0) x8 x9 x10 x11 x12 x13 /\
 (Fn Pz 96 #[.agg ⟨(L0 x8 x9 x10 x11 x12 x13)⟩] h7
 (fun v14 h16 => ∃ x15, iB v14 x15 /\
 (sB (!x15)
 (R (.tuple ⟨[.pointer none, .bool false]⟩) h16)
 ((∃ x17 x18 x19 x20 x21 x22, aL0 h16 (aS h 0) x17 x18 x19 x20 x21 x22 /\
 (Fn Pz 97 #[.agg ⟨(L0 x17 x18 x19 x20 x21 x22)⟩] h16
 (fun v23 h25 => ∃ x24 : Option Addr, v23 = .pointer x24 /\
 (Fn Pz 98 #[.pointer x24] h25
 (fun v26 h28 => ∃ x27, iB v26 x27 /\
 (sB x27
 ((Fn Pz 99 #[.pointer x24] h28
 (fun v29 h31 => ∃ x30, iB v29 x30 /\
 (sB x30
 ((Fn Pz 100 #[.pointer x24] h31
 (fun v32 h34 => ∃ x33, iB v32 x33 /\
 (sB x33
 ((Fn Pz 101 #[.pointer x24] h34
 (fun v35 h37 => ∃ x36, iB v35 x36 /\
 R (.tuple ⟨[.pointer x24, .bool x36]⟩) h37)))
 (R (.tuple ⟨[.pointer x24, .bool false]⟩) h34)))))
 (R (.tuple ⟨[.pointer x24, .bool false]⟩) h31)))))
 (R (.tuple ⟨[.pointer x24, .bool false]⟩) h28)))))))))))))
theorem vc47 (p0_1 p0_2 p0_3 : Int) (p0_4 p0_5 p0_6 : Sl) (h : Heap) (R : Value -> Heap -> Prop) (H : W47 p0_1 p0_2 p0_3 p0_4 p0_5 p0_6 h R) : Fn Pz 47 #[.agg ⟨(L0 p0_1 p0_2 p0_3 p0_4 p0_5 p0_6)⟩] h R := fnI (A := .z) (by kernel_rfl) H

def W23 (p0_1 p0_2 p0_3 : Int) (p0_4 p0_5 p0_6 : Sl) (h : Heap) (R : Value -> Heap -> Prop) : Prop :=
 (Wn h (L0 p0_1 p0_2 p0_3 p0_4 p0_5 p0_6) 26 fun h7 =>
 (∃ x8 x9 x10 x11 x12 x13, aL0 h7 (aS h 0) x8 x9 x10 x11 x12 x13 /\
 (Fn Pz 47 #[.agg ⟨(L0 x8 x9 x10 x11 x12 x13)⟩] h7
 (fun v14 h17 => ∃ x15 : Option Addr, ∃ x16 : Bool, v14 = .tuple ⟨[.pointer x15, .bool x16]⟩ /\
 R (.bool x16) h17))))
theorem vc23 (p0_1 p0_2 p0_3 : Int) (p0_4 p0_5 p0_6 : Sl) (h : Heap) (R : Value -> Heap -> Prop) (H : W23 p0_1 p0_2 p0_3 p0_4 p0_5 p0_6 h R) : Fn Pz 23 #[.agg ⟨(L0 p0_1 p0_2 p0_3 p0_4 p0_5 p0_6)⟩] h R := fnI (A := .z) (by kernel_rfl) H

end Go.VC
end

section
namespace Go.VC
open Go.Proofs
variable [Mono]
namespace M

def W63 (p0_1 : Int) (p0_2 : Bool) (p0_3 p0_4 p0_5 : Int) (p0_6 : Bool) (h : Heap) (R : Value -> Heap -> Prop) : Prop :=
 (Wn h (L1 p0_1 p0_2 p0_3 p0_4 p0_5 p0_6) 81 fun h7 =>
 (Wn h7 [.bool false, vI 0, vI 0] 79 fun h8 =>
 (∃ x9, rB h8 (aS h 1) x9 /\
 (∃ x10, rI h8 (aS h 2) x10 /\
 (∃ x11, rI h8 (aS h 3) x11 /\
 (Wp h8 (aS h7 0) 3 (L2 x9 x10 x11) fun h12 =>
 (∃ x13 x14 x15, aL2 h12 (aS h7 0) x13 x14 x15 /\
 R (.agg ⟨(L2 x13 x14 x15)⟩) h12)))))))
theorem vc63 (p0_1 : Int) (p0_2 : Bool) (p0_3 p0_4 p0_5 : Int) (p0_6 : Bool) (h : Heap) (R : Value -> Heap -> Prop) (H : W63 p0_1 p0_2 p0_3 p0_4 p0_5 p0_6 h R) : Fn Pz 63 #[.agg ⟨(L1 p0_1 p0_2 p0_3 p0_4 p0_5 p0_6)⟩] h R := fnI (A := .z) (by kernel_rfl) H

def W104 (p0_1 : Bool) (p0_2 p0_3 : Int) (p1_4 : Bool) (p1_5 p1_6 : Int) (h : Heap) (R : Value -> Heap -> Prop) : Prop :=
 (Wn h (L2 p0_1 p0_2 p0_3) 79 fun h7 =>
 (Wn h7 (L2 p1_4 p1_5 p1_6) 79 fun h8 =>
 (∃ x9, rB h8 (aS h 0) x9 /\
 (∃ x10, rB h8 (aS h7 0) x10 /\
 (sB (!(x9 == x10))
 ((∃ x11, rB h8 (aS h 0) x11 /\
 (sB x11
 (R (vI (-1)) h8)
 (R (vI 1) h8))))
 ((∃ x12, rI h8 (aS h 1) x12 /\
 (∃ x13, rI h8 (aS h7 1) x13 /\
 (∃ x14, rI h8 (aS h 2) x14 /\
 (∃ x15, rI h8 (aS h7 2) x15 /\
 (Fn Pz 155 #[vI x12, vI x13] h8
 (fun v16 h18 => ∃ x17, iI v16 x17 /\
 (Sm [(aS h7 2), (aS h 2)] h8 h18 /\
 (Fn Pz 155 #[vI x14, vI x15] h18
 (fun v19 h21 => ∃ x20, iI v19 x20 /\
 (Sm [(aS h7 1), (aS h 1)] h18 h21 /\
 (Wn h21 [vI x17, vI x20] 3 fun h22 =>
 (Fn Pz 154 #[.slice (some (aS h21 0)) 2 2] h22
 (fun v23 h25 => ∃ x24, iI v23 x24 /\
 R (vI x24) h25)))))))))))))))))))
theorem vc104 (p0_1 : Bool) (p0_2 p0_3 : Int) (p1_4 : Bool) (p1_5 p1_6 : Int) (h : Heap) (R : Value -> Heap -> Prop) (H : W104 p0_1 p0_2 p0_3 p1_4 p1_5 p1_6 h R) : Fn Pz 104 #[.agg ⟨(L2 p0_1 p0_2 p0_3)⟩, .agg ⟨(L2 p1_4 p1_5 p1_6)⟩] h R := fnI (A := .z) (by kernel_rfl) H

def W153 (p0 p1 : Int) (c0 : Addr) (h : Heap) (R : Value -> Heap -> Prop) : Prop :=
 (∃ x1, rS h ⟨c0.block, c0.off + 4, none⟩ x1 /\
 (NB x1.a fun b2 o3 => (Ib p0 x1.n /\
 (∃ x4 x5 x6 x7 x8 x9, aL1 h ⟨b2, o3 + Int.toNat p0 * 6, none⟩ x4 x5 x6 x7 x8 x9 /\
 (∃ x10, rS h ⟨c0.block, c0.off + 4, none⟩ x10 /\
 (NB x10.a fun b11 o12 => (Ib p1 x10.n /\
 (∃ x13 x14 x15 x16 x17 x18, aL1 h ⟨b11, o12 + Int.toNat p1 * 6, none⟩ x13 x14 x15 x16 x17 x18 /\
 (Fn Pz 63 #[.agg ⟨(L1 x4 x5 x6 x7 x8 x9)⟩] h
 (fun v19 h23 => ∃ (x20 : Bool) (x21 x22 : Int), v19 = .agg ⟨(L2 x20 x21 x22)⟩ /\
 (Sm [⟨b11, o12 + Int.toNat p1 * 6, none⟩, ⟨c0.block, c0.off + 4, none⟩] h h23 /\
 (Fn Pz 63 #[.agg ⟨(L1 x13 x14 x15 x16 x17 x18)⟩] h23
 (fun v24 h28 => ∃ (x25 : Bool) (x26 x27 : Int), v24 = .agg ⟨(L2 x25 x26 x27)⟩ /\
 (Sm [⟨b2, o3 + Int.toNat p0 * 6, none⟩, ⟨c0.block, c0.off + 4, none⟩] h23 h28 /\
 (Fn Pz 104 #[.agg ⟨(L2 x20 x21 x22)⟩, .agg ⟨(L2 x25 x26 x27)⟩] h28
 (fun v29 h31 => ∃ x30, iI v29 x30 /\
 R (vI x30) h31))))))))))))))))
theorem vc153 (p0 p1 : Int) (c0 : Addr) (h : Heap) (R : Value -> Heap -> Prop) (H : W153 p0 p1 c0 h R) : Fn Pz 153 #[vI p0, vI p1, .pointer (some c0)] h R := fnI (A := .z) (by kernel_rfl) H

end M
end Go.VC
end

section
/- Contracts: events of moves, their order, the order of a machine's moves; over every relation of worlds. (Numbers of layer 26's seat.) -/
namespace Go.VC
open Go.Proofs Go.LexS
variable [Mono]
namespace M
theorem of63 (x : Mv) (h : Heap) : Fn Pz 63 #[.agg ⟨x.cs⟩] h fun v h' => v = .agg ⟨x.ev.cs⟩ /\ Ext h h' := by
 apply vc63 x.f x.send x.peer x.label x.t x.ag; unfold W63
 refine (St.refl h).newb fun h7 hs => ?_
 refine hs.newb fun h8 hs => ?_
 refine ⟨_, hs.rd 1 rfl rfl, _, hs.rd 1 rfl rfl, _, hs.rd 1 rfl rfl, ?_⟩
 refine hs.put 0 rfl (o := 0) (vs := x.ev.cs) rfl (show 3 <= 3 by decide) fun h12 hs => ?_
 exact ⟨_, _, _, hs.at 0 rfl (o := 0) (n := 3) rfl, rfl, hs.ext⟩
theorem compare104 (x y : Ev) (h : Heap) : Fn Pz 104 #[.agg ⟨x.cs⟩, .agg ⟨y.cs⟩] h fun v h' => v = .int .i64 (cmpE x y) /\ Ext h h' := by
 apply vc104 x.send x.peer x.label y.send y.peer y.label; unfold W104
 have hs := St.refl h
 refine hs.newb fun h7 hs => ?_
 refine hs.newb fun h8 hs => ?_
 refine ⟨_, hs.rd 1 rfl rfl, ?_⟩
 refine ⟨_, hs.rd 0 rfl rfl, ?_⟩
 refine sB_intro (fun c => ?_) (fun c => ?_)
 ·
  have hne : x.send ≠ y.send := by simpa using c
  refine ⟨_, hs.rd 1 rfl rfl, ?_⟩
  unfold cmpE
  rw [if_pos hne]
  refine sB_intro (fun d => ?_) (fun d => ?_)
  ·
   exact ⟨by rw [if_pos d], hs.ext⟩
  ·
   exact ⟨by rw [if_neg (by rw [d]; simp)], hs.ext⟩
 ·
  have he : x.send = y.send := by simpa using c
  refine ⟨_, hs.rd 1 rfl rfl, _, hs.rd 0 rfl rfl, _, hs.rd 1 rfl rfl, _, hs.rd 0 rfl rfl, ?_⟩
  refine (cmp110 _ _ _).mono ?_
  rintro _ _ ⟨rfl, rfl⟩
  refine ⟨_, rfl, fun _ _ _ _ hv => hv, ?_⟩
  refine (cmp110 _ _ _).mono ?_
  rintro _ _ ⟨rfl, rfl⟩
  refine ⟨_, rfl, fun _ _ _ _ hv => hv, ?_⟩
  refine hs.newb fun h22 hs => ?_
  have hs2 := hs.blkS 2 1 ([cmpI x.peer y.peer, cmpI x.label y.label].map inC) rfl (inrows _) rfl (by decide)
  refine (or109 [cmpI x.peer y.peer, cmpI x.label y.label] _ h22 (hs2.rows 0 rfl (by omega)) (show 2 <= 1048576 by decide)).mono ?_
  rintro _ _ ⟨rfl, rfl⟩
  refine ⟨_, rfl, ?_, hs.ext⟩
  unfold cmpE
  rw [if_neg (by simpa using he)]
  show Value.int .i64 (orI3 _ (orI3 _ 0)) = _
  congr 1
  unfold orI3
  split
  ·
   rfl
  ·
   split <;> omega
theorem order153 (mv : List Mv) (sm : Sl) (a : Addr) (i k : Nat) (x y : Mv) (h : Heap) (ha : hc h ⟨a.block, a.off + 4, none⟩ = some (.slice sm.a sm.n sm.c)) (hr : Rw h 6 sm (mv.map Mv.cs)) (hx : mv[i]? = some x) (hy : mv[k]? = some y) :
  Fn Pz 153 #[.int .i64 (i : Nat), .int .i64 (k : Nat), .pointer (some a)] h fun v h' => v = .int .i64 (cmpE x.ev y.ev) /\ Ext h h' := by
 apply vc153; unfold W153
 have hn := hr.ln
 have hxl := (Ya.1 hx).1
 have hyl := (Ya.1 hy).1
 refine ⟨sm, ha, ?_⟩
 refine hr.nbI (by omega) (by omega) fun b o x' gx t => ?_
 replace gx : mv[i]? = some x' := gx
 rw [hx] at gx; cases gx
 refine ⟨_, _, _, _, _, _, t, sm, ha, ?_⟩
 refine hr.nbI (by omega) (by omega) fun b2 o2 y' gy t2 => ?_
 replace gy : mv[k]? = some y' := gy
 rw [hy] at gy; cases gy
 refine ⟨_, _, _, _, _, _, t2, ?_⟩
 refine (of63 x h).mono ?_
 rintro _ h23 ⟨rfl, E⟩
 refine ⟨_, _, _, rfl, fun _ _ _ _ hv => hc_ext E hv, ?_⟩
 refine (of63 y h23).mono ?_
 rintro _ h28 ⟨rfl, E2⟩
 refine ⟨_, _, _, rfl, fun _ _ _ _ hv => hc_ext E2 hv, ?_⟩
 refine (compare104 x.ev y.ev h28).mono ?_
 rintro _ h31 ⟨rfl, E3⟩
 exact ⟨_, rfl, rfl, (E.trans E2).trans E3⟩
end M
end Go.VC
end

section
/- Contracts: the numbers of a machine; its table, the moves of each state sorted. (Numbers of layer 26's seat.) -/
namespace Go.VC
open Go.Proofs Go.LexS
structure NumM (m : Mch) : Prop where
 r : 0 <= m.role /\ m.role < 6
 n : 1 <= m.n /\ m.n <= 200
 s : 0 <= m.s /\ m.s < m.n
 fl : (m.fin.length : Int) = m.n
 ml : m.mv.length <= 400
 mv : ∀ x ∈ m.mv, 0 <= x.f /\ x.f < m.n /\ 0 <= x.t /\ x.t < m.n /\ 0 <= x.peer /\ x.peer < 6 /\ x.peer ≠ m.role /\ 0 <= x.label /\ x.label < 40
theorem state151 (m : Mch) (sf sm sl : Sl) (p : Int) (h : Heap) : Fn Pz 151 #[.agg ⟨mC m sf sm sl⟩, .int .i64 p] h (RP (0 <= p /\ p < m.n) h) := by
 apply vc151 m.role m.n m.s sf sm sl; unfold W151
 refine (St.refl h).newb fun h7 hs => ?_
 refine sBi (fun c => ⟨_, hs.rd 0 rfl rfl, RP.e ?_ hs.ext⟩) (fun c => RP.f (by omega) hs.ext)
 rw [decide_eq_true_eq]; omega
theorem numbers96 (m : Mch) (sf sm sl : Sl) (h : Heap) (hM : MI h m sf sm sl) : Fn Pz 96 #[.agg ⟨mC m sf sm sl⟩] h (RP (NumM m) h) := by
 apply vc96 m.role m.n m.s sf sm sl; unfold W96
 have hfn := hM.pf.ln
 have hmn := hM.pm.ln
 have hmm := hM.pm.sm
 refine (St.refl h).newb fun h7 hs => ?_
 refine ⟨_, hs.rd 0 rfl rfl, sBi (fun c => RP.f (fun hG => by have := hG.r; omega) hs.ext) (fun c1 => ?_)⟩
 refine ⟨_, hs.rd 0 rfl rfl, sBi (fun c => RP.f (fun hG => by have := hG.r; omega) hs.ext) (fun c2 => ?_)⟩
 refine ⟨_, hs.rd 0 rfl rfl, sBi (fun c => RP.f (fun hG => by have := hG.n; omega) hs.ext) (fun c3 => ?_)⟩
 refine ⟨_, hs.rd 0 rfl rfl, sBi (fun c => RP.f (fun hG => by have := hG.n; omega) hs.ext) (fun c4 => ?_)⟩
 refine ⟨_, _, _, sf, sm, sl, hs.at 0 rfl (o := 0) (n := 6) rfl, _, hs.rd 0 rfl rfl, ?_⟩
 refine (state151 m sf sm sl m.s h7).mono ?_
 rintro _ h21 ⟨⟨b1, rfl, hb1⟩, E⟩
 have hs := hs.step E
 refine ⟨_, rfl, sB_intro (fun c => RP.f (fun hG => iff_f hb1 (bF c) hG.s) hs.ext) (fun c5 => ?_)⟩
 have f5 := hb1.1 (bT c5)
 refine ⟨sf, hs.rd 0 rfl rfl, _, hs.rd 0 rfl rfl, sBn (fun c => RP.f (fun hG => by have := hG.fl; omega) hs.ext) (fun c6 => ?_)⟩
 refine ⟨sm, hs.rd 0 rfl rfl, sBi (fun c => RP.f (fun hG => by have := hG.ml; omega) hs.ext) (fun c7 => ?_)⟩
 refine ⟨sm, hs.rd 0 rfl rfl, ?_⟩
 refine up_loopS (n := sm.n) hs (fun i => ∀ (j : Nat) (x : Mv), j < i -> m.mv[j]? = some x -> 0 <= x.f /\ x.f < m.n /\ 0 <= x.t /\ x.t < m.n /\ 0 <= x.peer /\ x.peer < 6 /\ x.peer ≠ m.role /\ 0 <= x.label /\ x.label < 40) (fun j x hj => by omega) ?_
 rintro - i h30 hi ⟨hs, hq⟩
 refine sB_intro (fun c => ?_) (fun c => RP.t ⟨by omega, by omega, f5, by omega, by omega, fun x hx => ?_⟩ hs.ext)
 ·
  replace c := lt_t c
  refine (hM.pm.rw.ext hs.ext).nbI (by omega) (by omega) fun b o x gx t => ?_
  replace gx : m.mv[i]? = some x := gx
  have hxm := Yb gx
  refine ⟨_, _, _, _, _, _, t, ?_⟩
  refine hs.newput (vs := x.cs) rfl rfl fun h40 hs => ?_
  refine ⟨_, _, _, sf, sm, sl, hs.at 1 rfl (o := 0) (n := 6) rfl, _, hs.rd 0 rfl rfl, ?_⟩
  refine (state151 m sf sm sl x.f h40).mono ?_
  rintro _ h50 ⟨⟨b2, rfl, hb2⟩, E⟩
  have hs := hs.step E
  refine ⟨_, rfl, sB_intro (fun c => RP.f (fun hG => iff_f hb2 (bF c) (by have := hG.mv x hxm; omega)) hs.ext) (fun d1 => ?_)⟩
  refine ⟨_, _, _, sf, sm, sl, hs.at 1 rfl (o := 0) (n := 6) rfl, _, hs.rd 0 rfl rfl, ?_⟩
  refine (state151 m sf sm sl x.t h50).mono ?_
  rintro _ h60 ⟨⟨b3, rfl, hb3⟩, E⟩
  have hs := hs.step E
  refine ⟨_, rfl, sB_intro (fun c => RP.f (fun hG => iff_f hb3 (bF c) (by have := hG.mv x hxm; omega)) hs.ext) (fun d2 => ?_)⟩
  have g1 := hb2.1 (bT d1)
  have g2 := hb3.1 (bT d2)
  repeat' (first
    | (refine ⟨_, hs.rd 0 rfl rfl, ?_⟩)
    | (refine ⟨_, hs.rd 1 rfl rfl, ?_⟩)
    | (refine sBi (fun _ => ?_) (fun _ => ?_))
    | (refine sBe (fun _ => ?_) (fun _ => ?_))
    | (refine sBn (fun _ => ?_) (fun _ => ?_)))
  all_goals first
   | exact RP.f (fun hG => by have := hG.mv x hxm; omega) hs.ext
   | (refine Up.next c (by omega) ⟨hs.drop 1, fun j y hj hy => ?_⟩
      by_cases e : j = i
      ·
       subst e; rw [gx] at hy; cases hy; omega
      ·
       exact hq j y (by omega) hy)
 ·
  replace c := lt_f c
  obtain ⟨j, hj⟩ := Yf.1 hx
  exact hq j x (by have := (Ya.1 hj).1; omega) hj
def outP (m : Mch) (s : Int) (i : Nat) : Bool := match m.mv[i]? with | some x => decide (x.f = s) | none => false
def outIx (m : Mch) (s : Int) : List Nat := (List.range m.mv.length).filter (outP m s)
theorem outIx_mem {m : Mch} {s : Int} {k : Nat} : k ∈ outIx m s ↔ ∃ x, m.mv[k]? = some x /\ x.f = s := by
 unfold outIx
 rw [List.mem_filter, List.mem_range]
 constructor
 ·
  rintro ⟨h1, h2⟩
  unfold outP at h2
  rw [Yi h1] at h2
  exact ⟨_, Yi h1, of_decide_eq_true h2⟩
 ·
  rintro ⟨x, hx, hf⟩
  refine ⟨(Ya.1 hx).1, ?_⟩
  unfold outP
  rw [hx]; exact decide_eq_true hf
def evI (m : Mch) (i : Nat) : Ev := match m.mv[i]? with | some x => x.ev | none => ⟨false, 0, 0⟩
structure SrtM (m : Mch) (s : Nat) (l : List Nat) : Prop where
 p : l.Perm (outIx m (s : Int))
 s : l.Pairwise fun a b => ¬ evLt (evI m b) (evI m a)
structure TbI (h : Heap) (a : Addr) (m : Mch) (sf sm sl : Sl) (S : Nat -> List Nat) : Prop where
 ex : ∃ (ho : Sl) (qs : Nat -> Sl), a.spot = none /\ atC h a (mC m sf sm sl ++ [.slice ho.a ho.n ho.c]) /\ ho.n = m.n.toNat /\
  Rw h 1 ho ((List.range m.n.toNat).map fun i => slC (qs i)) /\ ∀ i, i < m.n.toNat -> Rw h 1 (qs i) ((natI (S i)).map inC)
 so : ∀ i, i < m.n.toNat -> SrtM m i (S i)
theorem TbI.ext {h h' : Heap} {a : Addr} {m : Mch} {sf sm sl : Sl} {S : Nat -> List Nat} (hl : TbI h a m sf sm sl S) (E : Ext h h') : TbI h' a m sf sm sl S := by
 obtain ⟨ho, qs, h0, h1, h2, h3, h4⟩ := hl.ex
 exact ⟨⟨ho, qs, h0, atC_ext E h1, h2, h3.ext E, fun i hi => (h4 i hi).ext E⟩, hl.so⟩
def Sort152 : Prop := ∀ (m : Mch) (sm : Sl) (a : Addr) {h0 h : Heap} {Ls : List It}, St h0 h Ls -> ∀ (i : Nat) {s : Sl} {l : List Nat}, Ls[i]? = some (.sl s 3 1 ((natI l).map inC)) -> (∀ x ∈ l, x < m.mv.length) -> (l = [] -> s.a = none) -> m.mv.length <= 1048576 -> l.length <= 1048576 ->
 (∀ h' : Heap, h.size <= h'.size -> (∀ c, c < h.size -> s.a.map (·.block) ≠ some c -> h'[c]? = h[c]?) -> hc h' ⟨a.block, a.off + 4, none⟩ = some (.slice sm.a sm.n sm.c) /\ Rw h' 6 sm (m.mv.map Mv.cs)) ->
 Fn Pz 152 #[.slice s.a s.n s.c, .func (.func 153) #[] #[.pointer (some a)]] h fun v h' => v = .tuple ⟨[]⟩ /\ ∃ l' : List Nat, l'.Perm l /\ l'.Pairwise (fun a b => ¬ evLt (evI m b) (evI m a)) /\ St h0 h' (Ls.set i (.sl s 3 1 ((natI l').map inC)))
end Go.VC
end
