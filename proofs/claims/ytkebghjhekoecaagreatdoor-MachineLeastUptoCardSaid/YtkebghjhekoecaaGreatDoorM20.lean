/- Texts of this claim, joined: QjY, QjRp, QjVcI, QjMa, RjVcD, RjVcC, RjVcA, RjVcJ, RjA. -/
import Derived.Test.YtkebghjhekoecaaGreatDoorM19
import Derived.Test.YtkebghjhekoecaaGreatDoorM14
import Derived.Test.YtkebghjhekoecaaGreatDoorM02
import Derived.Test.YtkebghjhekoecaaGreatDoorProg
import Derived.KernelRfl
import Derived.Test.YtkebghjhekoecaaGreatDoorM10
import Derived.Test.YtkebghjhekoecaaGreatDoorM07
set_option linter.unusedVariables false
set_option linter.unusedSimpArgs false

section
/- The example, and that the laws are awake. -/
namespace Go.VC
open Go.Proofs Go.LexS
set_option maxRecDepth 100000

def exD (x : Nm) : Dc := ⟨x, ⟨none, 0, 0⟩, 0, ⟨none, 0, 0⟩, ⟨none, 0, 0⟩, [], [], []⟩
def exEs : Bool → List Ed
  | true => [⟨0, 0, 1, 0, 1, false⟩, ⟨0, 0, 1, 1, 2, false⟩, ⟨1, 1, 2, 0, 3, false⟩, ⟨2, 1, 2, 1, 4, false⟩, ⟨3, 2, 1, 2, 5, false⟩, ⟨4, 2, 1, 3, 5, false⟩]
  | false => [⟨0, 0, 1, 0, 1, false⟩, ⟨0, 0, 1, 1, 2, false⟩, ⟨1, 2, 1, 2, 3, false⟩, ⟨2, 2, 1, 3, 3, false⟩]
def exGl (b : Bool) (hr hd he ht : Sl) : Gl := ⟨[101], hr, hd, if b then 6 else 4, 0, if b then 5 else 3, he, ht, [[112], [113], [114]], [exD [97], exD [98], exD [99], exD [100]], exEs b, []⟩
theorem edge70 (p0 p1 p2 p3 p4 : Int) (h : Heap) : Fn Tryz.prog 95 #[.int .i64 p0, .int .i64 p1, .int .i64 p2, .int .i64 p3, .int .i64 p4] h fun v h' => v = .agg ⟨Ed.cs ⟨p0, p1, p2, p3, p4, false⟩⟩ ∧ Ext h h' := by
  apply vc95; unfold W95
  have hs := St.refl h
  refine hs.newput (vs := Ed.cs ⟨p0, p1, p2, p3, p4, false⟩) rfl rfl fun h2 hs => ?_
  exact ⟨_, _, _, _, _, _, hs.at 0 rfl (n := 6) rfl, rfl, hs.ext⟩
theorem RL.none_ {α : Type} {h : Heap} {k : Nat} {cs : α → List Value} : RL h k ⟨none, 0, 0⟩ cs [] := ⟨Rw.nil, Nat.le_refl _, fun _ => ⟨rfl, rfl⟩, Nat.zero_le _⟩
theorem St.rl {α : Type} {h0 h : Heap} {L : List It} (hs : St h0 h L) (k : Nat) {s : Sl} {e : TypeId} {n : Nat} {cs : α → List Value} {l : List α} (hk : L[k]? = some (.sl s e n (l.map cs))) (hn : 0 < n) (hl : l.length ≤ 1048576) : RL h n s cs l := by
  have := hs.len k hk hn
  exact ⟨hs.rows k hk hn, this.2.1, this.2.2, hl⟩
theorem nmrows (L : List Nm) : ∀ r ∈ L.map nmC, r.length = 1 := fun r hr => by obtain ⟨x, _, rfl⟩ := List.mem_map.1 hr; rfl
theorem dcrows (L : List Dc) : ∀ r ∈ L.map Dc.cs, r.length = 5 := fun r hr => by obtain ⟨x, _, rfl⟩ := List.mem_map.1 hr; rfl
theorem edrows (L : List Ed) : ∀ r ∈ L.map Ed.cs, r.length = 6 := fun r hr => by obtain ⟨x, _, rfl⟩ := List.mem_map.1 hr; rfl
set_option maxHeartbeats 1000000 in
theorem example34 (b : Bool) (h : Heap) : Fn Tryz.prog 46 #[.bool b] h fun v h' => Ext h h' ∧ ∃ hr hd he : Sl, v = (exGl b hr hd he ⟨none, 0, 0⟩).v ∧ GI h' (exGl b hr hd he ⟨none, 0, 0⟩) := by
  apply vc46; unfold W46
  have hs := St.refl h
  refine hs.newb fun h1 hs => ?_
  refine hs.newb fun h2 hs => ?_
  have hs := hs.blkS 3 1 ([[112], [113], [114]].map nmC) rfl (nmrows _) rfl (by decide)
  refine hs.newb fun h3 hs => ?_
  have hs := hs.blkS 4 5 ([exD [97], exD [98], exD [99], exD [100]].map Dc.cs) rfl (dcrows _) rfl (by decide)
  refine hs.newput (vs := [.string (bs [101]), .slice (some ⟨h1.size, 0, none⟩) 3 3, .slice (some ⟨h2.size, 0, none⟩) 4 4, .int .i64 4, .int .i64 0, .int .i64 3, .slice none 0 0, .slice none 0 0]) rfl rfl fun h5 hs => ?_
  refine (edge70 _ _ _ _ _ _).mono ?_
  rintro _ _ ⟨rfl, E⟩
  replace hs := hs.step E
  clear E
  refine ⟨_, _, _, _, _, _, rfl, ?_⟩
  refine (edge70 _ _ _ _ _ _).mono ?_
  rintro _ _ ⟨rfl, E⟩
  replace hs := hs.step E
  clear E
  refine ⟨_, _, _, _, _, _, rfl, ?_⟩
  refine (edge70 _ _ _ _ _ _).mono ?_
  rintro _ _ ⟨rfl, E⟩
  replace hs := hs.step E
  clear E
  refine ⟨_, _, _, _, _, _, rfl, ?_⟩
  refine (edge70 _ _ _ _ _ _).mono ?_
  rintro _ _ ⟨rfl, E⟩
  replace hs := hs.step E
  clear E
  refine ⟨_, _, _, _, _, _, rfl, ?_⟩
  refine hs.newb fun h38 hs => ?_
  have hs := hs.blkS 4 6 ((exEs false).map Ed.cs) rfl (edrows _) rfl (by decide)
  refine hs.put 1 rfl (o := 6) (vs := [.slice (some ⟨_, 0, none⟩) 4 4]) rfl (show 7 ≤ 8 by decide) fun h39 hs => ?_
  cases b
  · refine sB_f rfl ?_
    refine ⟨_, ⟨some ⟨h1.size, 0, none⟩, 3, 3⟩, ⟨some ⟨h2.size, 0, none⟩, 4, 4⟩, _, _, _, ⟨some ⟨_, 0, none⟩, 4, 4⟩, ⟨none, 0, 0⟩, hs.at 1 rfl (n := 8) rfl, ?_⟩
    refine hs.put 4 rfl (o := 0) (vs := (exGl false ⟨some ⟨h1.size, 0, none⟩, 3, 3⟩ ⟨some ⟨h2.size, 0, none⟩, 4, 4⟩ ⟨some ⟨_, 0, none⟩, 4, 4⟩ ⟨none, 0, 0⟩).cs) rfl (show 8 ≤ 8 by decide) fun h117 hs => ?_
    refine ⟨_, ⟨some ⟨h1.size, 0, none⟩, 3, 3⟩, ⟨some ⟨h2.size, 0, none⟩, 4, 4⟩, _, _, _, ⟨some ⟨_, 0, none⟩, 4, 4⟩, ⟨none, 0, 0⟩, hs.at 4 rfl (n := 8) rfl, hs.ext, _, _, _, rfl, ?_⟩
    refine ⟨hs.rl 3 rfl (by decide) (show 3 ≤ 1048576 by decide), ⟨hs.rl 2 rfl (by decide) (show 4 ≤ 1048576 by decide), fun d hd => ?_⟩, hs.rl 0 rfl (by decide) (show 4 ≤ 1048576 by decide), RL.none_⟩
    have hd : d ∈ [exD [97], exD [98], exD [99], exD [100]] := hd
    simp only [List.mem_cons, List.not_mem_nil, or_false] at hd
    rcases hd with rfl | rfl | rfl | rfl <;> exact ⟨RL.none_, RL.none_, RL.none_⟩
  · refine sB_t rfl ?_
    refine hs.put 1 rfl (o := 3) (vs := [.int .i64 6]) rfl (show 4 ≤ 8 by decide) fun h40 hs => ?_
    refine hs.put 1 rfl (o := 5) (vs := [.int .i64 5]) rfl (show 6 ≤ 8 by decide) fun h41 hs => ?_
    refine (edge70 _ _ _ _ _ _).mono ?_
    rintro _ _ ⟨rfl, E⟩
    replace hs := hs.step E
    clear E
    refine ⟨_, _, _, _, _, _, rfl, ?_⟩
    refine (edge70 _ _ _ _ _ _).mono ?_
    rintro _ _ ⟨rfl, E⟩
    replace hs := hs.step E
    clear E
    refine ⟨_, _, _, _, _, _, rfl, ?_⟩
    refine (edge70 _ _ _ _ _ _).mono ?_
    rintro _ _ ⟨rfl, E⟩
    replace hs := hs.step E
    clear E
    refine ⟨_, _, _, _, _, _, rfl, ?_⟩
    refine (edge70 _ _ _ _ _ _).mono ?_
    rintro _ _ ⟨rfl, E⟩
    replace hs := hs.step E
    clear E
    refine ⟨_, _, _, _, _, _, rfl, ?_⟩
    refine (edge70 _ _ _ _ _ _).mono ?_
    rintro _ _ ⟨rfl, E⟩
    replace hs := hs.step E
    clear E
    refine ⟨_, _, _, _, _, _, rfl, ?_⟩
    refine (edge70 _ _ _ _ _ _).mono ?_
    rintro _ _ ⟨rfl, E⟩
    replace hs := hs.step E
    clear E
    refine ⟨_, _, _, _, _, _, rfl, ?_⟩
    refine hs.newb fun h90 hs => ?_
    have hs := hs.blkS 6 6 ((exEs true).map Ed.cs) rfl (edrows _) rfl (by decide)
    refine hs.put 2 rfl (o := 6) (vs := [.slice (some ⟨_, 0, none⟩) 6 6]) rfl (show 7 ≤ 8 by decide) fun h91 hs => ?_
    refine ⟨_, ⟨some ⟨h1.size, 0, none⟩, 3, 3⟩, ⟨some ⟨h2.size, 0, none⟩, 4, 4⟩, _, _, _, ⟨some ⟨_, 0, none⟩, 6, 6⟩, ⟨none, 0, 0⟩, hs.at 2 rfl (n := 8) rfl, ?_⟩
    refine hs.put 5 rfl (o := 0) (vs := (exGl true ⟨some ⟨h1.size, 0, none⟩, 3, 3⟩ ⟨some ⟨h2.size, 0, none⟩, 4, 4⟩ ⟨some ⟨_, 0, none⟩, 6, 6⟩ ⟨none, 0, 0⟩).cs) rfl (show 8 ≤ 8 by decide) fun h117 hs => ?_
    refine ⟨_, ⟨some ⟨h1.size, 0, none⟩, 3, 3⟩, ⟨some ⟨h2.size, 0, none⟩, 4, 4⟩, _, _, _, ⟨some ⟨_, 0, none⟩, 6, 6⟩, ⟨none, 0, 0⟩, hs.at 5 rfl (n := 8) rfl, hs.ext, _, _, _, rfl, ?_⟩
    refine ⟨hs.rl 4 rfl (by decide) (show 3 ≤ 1048576 by decide), ⟨hs.rl 3 rfl (by decide) (show 4 ≤ 1048576 by decide), fun d hd => ?_⟩, hs.rl 0 rfl (by decide) (show 6 ≤ 1048576 by decide), RL.none_⟩
    have hd : d ∈ [exD [97], exD [98], exD [99], exD [100]] := hd
    simp only [List.mem_cons, List.not_mem_nil, or_false] at hd
    rcases hd with rfl | rfl | rfl | rfl <;> exact ⟨RL.none_, RL.none_, RL.none_⟩

deriving instance DecidableEq for Ed
theorem ex_valid (b : Bool) (hr hd he ht : Sl) : ValidS (exGl b hr hd he ht) := by
  have hrs : (exGl b hr hd he ht).rs = [[112], [113], [114]] := rfl
  have hds : (exGl b hr hd he ht).ds = [exD [97], exD [98], exD [99], exD [100]] := rfl
  have hes : (exGl b hr hd he ht).es = exEs b := rfl
  have hall : allF [exD [97], exD [98], exD [99], exD [100]] = [] := rfl
  have get3 : ∀ {α : Type} {P : Nat → α → Prop} {l : List α}, (∀ i (hi : i < l.length), P i l[i]) → ∀ i x, l[i]? = some x → P i x := by
    intro α P l h i x hx
    obtain ⟨h1, h2⟩ := List.getElem?_eq_some_iff.1 hx
    rw [← h2]; exact h i h1
  refine ⟨⟨by rfl, by rw [hrs]; decide, by rw [hrs]; decide, ?_⟩, ⟨?_, ?_, ?_⟩, ?_, ⟨?_, ?_, ?_⟩, ?_, ?_, ?_⟩
  · rw [hrs]
    refine get3 (P := fun i s => isWord s = true ∧ s ∉ List.take i [[112], [113], [114]]) fun i hi => ?_
    have hi : i < 3 := hi
    match i, hi with
    | 0, _ => exact of_decide_eq_true rfl
    | 1, _ => exact of_decide_eq_true rfl
    | 2, _ => exact of_decide_eq_true rfl
  · cases b <;> exact ⟨of_decide_eq_true rfl, of_decide_eq_true rfl, of_decide_eq_true rfl, of_decide_eq_true rfl, of_decide_eq_true rfl, of_decide_eq_true rfl⟩
  · rw [hes]; cases b <;> decide
  · rw [hes]
    unfold EdS
    rw [hrs, hds]
    cases b
    · show ∀ x ∈ exEs false, 0 ≤ x.f ∧ 0 ≤ x.t ∧ 0 ≤ x.a ∧ 0 ≤ x.b ∧ 0 ≤ x.l ∧ x.f < 4 ∧ x.t < 4 ∧ x.a < ((3 : Nat) : Int) ∧ x.b < ((3 : Nat) : Int) ∧ x.a ≠ x.b ∧ x.l < ((4 : Nat) : Int)
      decide
    · show ∀ x ∈ exEs true, 0 ≤ x.f ∧ 0 ≤ x.t ∧ 0 ≤ x.a ∧ 0 ≤ x.b ∧ 0 ≤ x.l ∧ x.f < 6 ∧ x.t < 6 ∧ x.a < ((3 : Nat) : Int) ∧ x.b < ((3 : Nat) : Int) ∧ x.a ≠ x.b ∧ x.l < ((4 : Nat) : Int)
      decide
  · rw [hds]
    refine ⟨by decide, by rw [hall]; decide, ?_⟩
    refine get3 (P := fun i d => DcS [exD [97], exD [98], exD [99], exD [100]] i d) fun i hi => ?_
    have hi : i < 4 := hi
    have hg : GuardS [] [] [] := ⟨by decide, by decide, fun x hx => (by cases hx), fun x hx => (by cases hx)⟩
    match i, hi with
    | 0, _ => exact ⟨by rfl, of_decide_eq_true rfl, of_decide_eq_true rfl, by rfl, fun k f hf => (by cases hf), by rw [hall]; exact hg⟩
    | 1, _ => exact ⟨by rfl, of_decide_eq_true rfl, of_decide_eq_true rfl, by rfl, fun k f hf => (by cases hf), by rw [hall]; exact hg⟩
    | 2, _ => exact ⟨by rfl, of_decide_eq_true rfl, of_decide_eq_true rfl, by rfl, fun k f hf => (by cases hf), by rw [hall]; exact hg⟩
    | 3, _ => exact ⟨by rfl, of_decide_eq_true rfl, of_decide_eq_true rfl, by rfl, fun k f hf => (by cases hf), by rw [hall]; exact hg⟩
  · rw [hes]; cases b
    · show ∀ x ∈ exEs false, x.f ≠ 3
      decide
    · show ∀ x ∈ exEs true, x.f ≠ 5
      decide
  · rw [hes]; cases b
    · show ∀ x ∈ exEs false, x.ag = true → x.f ≠ 0
      decide
    · show ∀ x ∈ exEs true, x.ag = true → x.f ≠ 0
      decide
  · rw [hes]
    have key : ((exEs b).zipIdx.all fun p => (exEs b).zipIdx.all fun q => !decide ((p.2 ≠ q.2 ∧ p.1.f = q.1.f ∧ ((p.1.a = q.1.a ∧ p.1.b = q.1.b ∧ p.1.l = q.1.l) ∨ p.1.a ≠ q.1.a ∨ p.1.ag = true)) ∨ (p.1.ag = true ∧ q.1.t = p.1.f ∧ (p.1.a ≠ q.1.a ∨ p.1.l ≠ q.1.l)))) = true := by
      cases b <;> decide
    intro i x hx k y hy hbad
    have h1 := List.all_eq_true.1 key (x, i) (List.mem_iff_getElem?.2 ⟨i, by rw [List.getElem?_zipIdx, hx]; simp⟩)
    have h2 := List.all_eq_true.1 h1 (y, k) (List.mem_iff_getElem?.2 ⟨k, by rw [List.getElem?_zipIdx, hy]; simp⟩)
    have h3 := of_decide_eq_false (Bool.not_eq_true' _ ▸ h2)
    exact h3 hbad
  · intro i t ht; exact absurd ht (by show ([] : List To)[i]? ≠ some t; simp)
  · intro v h0 h1
    rw [hes]
    cases b
    · have h1 : v < 4 := h1
      show Rch (exEs false) false 0 v
      have s0 : Rch (exEs false) false 0 0 := .refl
      have s1 : Rch (exEs false) false 0 1 := .step s0 ⟨⟨0, 0, 1, 0, 1, false⟩, by decide, rfl, rfl⟩
      have s2 : Rch (exEs false) false 0 2 := .step s0 ⟨⟨0, 0, 1, 1, 2, false⟩, by decide, rfl, rfl⟩
      have s3 : Rch (exEs false) false 0 3 := .step s1 ⟨⟨1, 2, 1, 2, 3, false⟩, by decide, rfl, rfl⟩
      have : v = 0 ∨ v = 1 ∨ v = 2 ∨ v = 3 := by omega
      rcases this with rfl | rfl | rfl | rfl <;> assumption
    · have h1 : v < 6 := h1
      show Rch (exEs true) false 0 v
      have s0 : Rch (exEs true) false 0 0 := .refl
      have s1 : Rch (exEs true) false 0 1 := .step s0 ⟨⟨0, 0, 1, 0, 1, false⟩, by decide, rfl, rfl⟩
      have s2 : Rch (exEs true) false 0 2 := .step s0 ⟨⟨0, 0, 1, 1, 2, false⟩, by decide, rfl, rfl⟩
      have s3 : Rch (exEs true) false 0 3 := .step s1 ⟨⟨1, 1, 2, 0, 3, false⟩, by decide, rfl, rfl⟩
      have s4 : Rch (exEs true) false 0 4 := .step s2 ⟨⟨2, 1, 2, 1, 4, false⟩, by decide, rfl, rfl⟩
      have s5 : Rch (exEs true) false 0 5 := .step s3 ⟨⟨3, 2, 1, 2, 5, false⟩, by decide, rfl, rfl⟩
      have : v = 0 ∨ v = 1 ∨ v = 2 ∨ v = 3 ∨ v = 4 ∨ v = 5 := by omega
      rcases this with rfl | rfl | rfl | rfl | rfl | rfl <;> assumption
  · intro v h0 h1
    rw [hes]
    cases b
    · have h1 : v < 4 := h1
      show Rch (exEs false) true 3 v
      have s3 : Rch (exEs false) true 3 3 := .refl
      have s1 : Rch (exEs false) true 3 1 := .step s3 ⟨⟨1, 2, 1, 2, 3, false⟩, by decide, rfl, rfl⟩
      have s2 : Rch (exEs false) true 3 2 := .step s3 ⟨⟨2, 2, 1, 3, 3, false⟩, by decide, rfl, rfl⟩
      have s0 : Rch (exEs false) true 3 0 := .step s1 ⟨⟨0, 0, 1, 0, 1, false⟩, by decide, rfl, rfl⟩
      have : v = 0 ∨ v = 1 ∨ v = 2 ∨ v = 3 := by omega
      rcases this with rfl | rfl | rfl | rfl <;> assumption
    · have h1 : v < 6 := h1
      show Rch (exEs true) true 5 v
      have s5 : Rch (exEs true) true 5 5 := .refl
      have s3 : Rch (exEs true) true 5 3 := .step s5 ⟨⟨3, 2, 1, 2, 5, false⟩, by decide, rfl, rfl⟩
      have s4 : Rch (exEs true) true 5 4 := .step s5 ⟨⟨4, 2, 1, 3, 5, false⟩, by decide, rfl, rfl⟩
      have s1 : Rch (exEs true) true 5 1 := .step s3 ⟨⟨1, 1, 2, 0, 3, false⟩, by decide, rfl, rfl⟩
      have s2 : Rch (exEs true) true 5 2 := .step s4 ⟨⟨2, 1, 2, 1, 4, false⟩, by decide, rfl, rfl⟩
      have s0 : Rch (exEs true) true 5 0 := .step s1 ⟨⟨0, 0, 1, 0, 1, false⟩, by decide, rfl, rfl⟩
      have : v = 0 ∨ v = 1 ∨ v = 2 ∨ v = 3 ∨ v = 4 ∨ v = 5 := by omega
      rcases this with rfl | rfl | rfl | rfl | rfl | rfl <;> assumption
end Go.VC
end

section
/- A bool that says p. For every program. -/
namespace Go.VC
open Go.Proofs Go.LexS
set_option maxRecDepth 100000
theorem Ext.rfl' {h : Heap} : Ext h h := ⟨Nat.le_refl _, fun _ _ => rfl⟩
/-- a bool that says p, and nothing that lay has turned -/
def RP (p : Prop) (h : Heap) (v : Value) (h' : Heap) : Prop := (∃ b : Bool, v = .bool b ∧ (b = true ↔ p)) ∧ Ext h h'
theorem RP.t {p : Prop} {h h' : Heap} (hp : p) (E : Ext h h') : RP p h (.bool true) h' := ⟨⟨true, rfl, iff_of_true rfl hp⟩, E⟩
theorem RP.f {p : Prop} {h h' : Heap} (hp : ¬ p) (E : Ext h h') : RP p h (.bool false) h' := ⟨⟨false, rfl, iff_of_false (by decide) hp⟩, E⟩
theorem RP.e {p : Prop} {h h' : Heap} {b : Bool} (hb : b = true ↔ p) (E : Ext h h') : RP p h (.bool b) h' := ⟨⟨b, rfl, hb⟩, E⟩
theorem iff_f {p : Prop} {b : Bool} (hp : b = true ↔ p) (c : b = false) : ¬ p := fun hq => by
  rw [hp.2 hq] at c; cases c
theorem smx {al : List Addr} {h h' : Heap} (E : Ext h h') : Sm al h h' := fun _ _ _ _ hv => hc_ext E hv
theorem Sm_but {al : List Addr} {h h' : Heap} {b : Nat} (hB : But b h h') (hn : ∀ a ∈ al, a.block ≠ b) : Sm al h h' := fun a ha k v hv => by
  rw [hc_of_block (hB.2 _ (by rw [addk_block']; exact hn a ha))]; exact hv
theorem hc_blk {h : Heap} {a : Addr} {v : Value} (hv : hc h a = some v) : a.block < h.size := by
  rcases Nat.lt_or_ge a.block h.size with h1 | h1
  · exact h1
  · unfold VC.hc at hv
    simp [Array.getElem?_eq_none h1] at hv
end Go.VC
end

section
namespace Go.VC
open Go.Proofs
set_option maxRecDepth 100000
set_option linter.unusedVariables false

end Go.VC
end

section
/- Contracts of the reference's small functions over machines. -/
namespace Go.VC
open Go.Proofs Go.LexS
set_option maxRecDepth 100000

end Go.VC
end

section
namespace Go.VC
open Go.Proofs
set_option maxRecDepth 100000
set_option linter.unusedVariables false

/- farandole/farandoleref03.Has
 loop rlrb: i_4:Int -/
def W105 (p0 : Sl) (p1 : Int) (h : Heap) (R : Value → Heap → Prop) : Prop :=
 (∃ I1 : Int → Heap → Nat → Prop, (∃ m2, I1 0 h m2) ∧
 (∀ (_ : Env) (i_4 : Int) (h5 : Heap) (m3 : Nat), I1 i_4 h5 m3 →
 (sB (decide (i_4 < (p0.n : Int)))
 ((NB p0.a fun b6 o7 => ((0 ≤ (i_4 : Int) ∧ (i_4 : Int) < (p0.n : Nat)) ∧
 (∃ x8 : Int, hc h5 ⟨b6, o7 + Int.toNat i_4 * 1, none⟩ = some (.int .i64 x8) ∧
 (sB (x8 == p1)
 (R (.bool true) h5)
 ((∃ m9, m9 < m3 ∧ I1 (IntKind.wrap .i64 (i_4 + 1)) h5 m9)))))))
 (R (.bool false) h5))))
theorem vc105 (p0 : Sl) (p1 : Int) (h : Heap) (R : Value → Heap → Prop) (H : W105 p0 p1 h R) : Fn Tryz.prog 105 #[.slice p0.a p0.n p0.c, .int .i64 p1] h R := fnI (A := (.s .z (.s (.s .z (.b (.l [(5, .one (.int .i64))] .z))) .z))) (by kernel_rfl) H

/- farandole/farandoleref03.With
 loop rrrlrb: out_4:Sl, done_5:Bool, i_6:Int -/
def W106 (p0 : Sl) (p1 : Int) (h : Heap) (R : Value → Heap → Prop) : Prop :=
 (∃ I1 : Sl → Bool → Int → Heap → Nat → Prop, (∃ m2, I1 ⟨none, 0, 0⟩ false 0 h m2) ∧
 (∀ (_ : Env) (out_4 : Sl) (done_5 : Bool) (i_6 : Int) (h7 : Heap) (m3 : Nat), I1 out_4 done_5 i_6 h7 m3 →
 (sB (decide (i_6 < (p0.n : Int)))
 ((sB (!done_5)
 ((NB p0.a fun b8 o9 => ((0 ≤ (i_6 : Int) ∧ (i_6 : Int) < (p0.n : Nat)) ∧
 (∃ x10 : Int, hc h7 ⟨b8, o9 + Int.toNat i_6 * 1, none⟩ = some (.int .i64 x10) ∧
 (sB (decide (x10 ≥ p1))
 ((NB p0.a fun b11 o12 => ((0 ≤ (i_6 : Int) ∧ (i_6 : Int) < (p0.n : Nat)) ∧
 (∃ x13 : Int, hc h7 ⟨b11, o12 + Int.toNat i_6 * 1, none⟩ = some (.int .i64 x13) ∧
 (sB (decide (x13 > p1))
 ((∀ h14 : Heap, h14 = h7.push (.cells ⟨[.int .i64 p1]⟩ 3) →
 (App Tryz.prog 49 49 (.slice out_4.a out_4.n out_4.c) (.slice (some ⟨h7.size, 0, none⟩) 1 1) h14 fun s15 h16 =>
 (NB p0.a fun b17 o18 => ((0 ≤ (i_6 : Int) ∧ (i_6 : Int) < (p0.n : Nat)) ∧
 (∃ x19 : Int, hc h16 ⟨b17, o18 + Int.toNat i_6 * 1, none⟩ = some (.int .i64 x19) ∧
 (∀ h20 : Heap, h20 = h16.push (.cells ⟨[.int .i64 x19]⟩ 3) →
 (App Tryz.prog 49 49 (.slice s15.a s15.n s15.c) (.slice (some ⟨h16.size, 0, none⟩) 1 1) h20 fun s21 h22 =>
 (∃ m23, m23 < m3 ∧ I1 s21 true (IntKind.wrap .i64 (i_6 + 1)) h22 m23)))))))))
 ((NB p0.a fun b24 o25 => ((0 ≤ (i_6 : Int) ∧ (i_6 : Int) < (p0.n : Nat)) ∧
 (∃ x26 : Int, hc h7 ⟨b24, o25 + Int.toNat i_6 * 1, none⟩ = some (.int .i64 x26) ∧
 (∀ h27 : Heap, h27 = h7.push (.cells ⟨[.int .i64 x26]⟩ 3) →
 (App Tryz.prog 49 49 (.slice out_4.a out_4.n out_4.c) (.slice (some ⟨h7.size, 0, none⟩) 1 1) h27 fun s28 h29 =>
 (∃ m30, m30 < m3 ∧ I1 s28 true (IntKind.wrap .i64 (i_6 + 1)) h29 m30))))))))))))
 ((NB p0.a fun b31 o32 => ((0 ≤ (i_6 : Int) ∧ (i_6 : Int) < (p0.n : Nat)) ∧
 (∃ x33 : Int, hc h7 ⟨b31, o32 + Int.toNat i_6 * 1, none⟩ = some (.int .i64 x33) ∧
 (∀ h34 : Heap, h34 = h7.push (.cells ⟨[.int .i64 x33]⟩ 3) →
 (App Tryz.prog 49 49 (.slice out_4.a out_4.n out_4.c) (.slice (some ⟨h7.size, 0, none⟩) 1 1) h34 fun s35 h36 =>
 (∃ m37, m37 < m3 ∧ I1 s35 done_5 (IntKind.wrap .i64 (i_6 + 1)) h36 m37))))))))))))
 ((NB p0.a fun b38 o39 => ((0 ≤ (i_6 : Int) ∧ (i_6 : Int) < (p0.n : Nat)) ∧
 (∃ x40 : Int, hc h7 ⟨b38, o39 + Int.toNat i_6 * 1, none⟩ = some (.int .i64 x40) ∧
 (∀ h41 : Heap, h41 = h7.push (.cells ⟨[.int .i64 x40]⟩ 3) →
 (App Tryz.prog 49 49 (.slice out_4.a out_4.n out_4.c) (.slice (some ⟨h7.size, 0, none⟩) 1 1) h41 fun s42 h43 =>
 (∃ m44, m44 < m3 ∧ I1 s42 done_5 (IntKind.wrap .i64 (i_6 + 1)) h43 m44)))))))))
 ((sB (!done_5)
 ((∀ h45 : Heap, h45 = h7.push (.cells ⟨[.int .i64 p1]⟩ 3) →
 (App Tryz.prog 49 49 (.slice out_4.a out_4.n out_4.c) (.slice (some ⟨h7.size, 0, none⟩) 1 1) h45 fun s46 h47 =>
 R (.slice s46.a s46.n s46.c) h47)))
 (R (.slice out_4.a out_4.n out_4.c) h7))))))
theorem vc106 (p0 : Sl) (p1 : Int) (h : Heap) (R : Value → Heap → Prop) (H : W106 p0 p1 h R) : Fn Tryz.prog 106 #[.slice p0.a p0.n p0.c, .int .i64 p1] h R := fnI (A := (.s .z (.s .z (.s .z (.s (.s .z (.b (.l [(5, .one (.slice)), (6, .one (.bool)), (7, .one (.int .i64))] .z))) .z))))) (by kernel_rfl) H

/- farandole/farandolelaw26.sameInts
 loop rrlrb: x_4:Int -/
end Go.VC
end

section
namespace Go.VC
open Go.Proofs
set_option maxRecDepth 100000
set_option linter.unusedVariables false

def W24 (p0_1 p0_2 p0_3 : Int) (p0_4 p0_5 p0_6 : Sl) (h : Heap) (R : Value → Heap → Prop) : Prop :=
 (∀ h7 : Heap, h7 = h.push (.cells ⟨[.int .i64 p0_1, .int .i64 p0_2, .int .i64 p0_3, .slice p0_4.a p0_4.n p0_4.c, .slice p0_5.a p0_5.n p0_5.c, .slice p0_6.a p0_6.n p0_6.c]⟩ 26) →
 (∃ (x8 x9 x10 : Int) (x11 x12 x13 : Sl), atC h7 ⟨h.size, 0, none⟩ [.int .i64 x8, .int .i64 x9, .int .i64 x10, .slice x11.a x11.n x11.c, .slice x12.a x12.n x12.c, .slice x13.a x13.n x13.c] ∧
 (Fn Tryz.prog 58 #[.agg ⟨[.int .i64 x8, .int .i64 x9, .int .i64 x10, .slice x11.a x11.n x11.c, .slice x12.a x12.n x12.c, .slice x13.a x13.n x13.c]⟩] h7
 (fun v14 h16 => ∃ x15 : Bool, v14 = .bool x15 ∧
 (sB x15
 ((∃ (x17 x18 x19 : Int) (x20 x21 x22 : Sl), atC h16 ⟨h.size, 0, none⟩ [.int .i64 x17, .int .i64 x18, .int .i64 x19, .slice x20.a x20.n x20.c, .slice x21.a x21.n x21.c, .slice x22.a x22.n x22.c] ∧
 (Fn Tryz.prog 59 #[.agg ⟨[.int .i64 x17, .int .i64 x18, .int .i64 x19, .slice x20.a x20.n x20.c, .slice x21.a x21.n x21.c, .slice x22.a x22.n x22.c]⟩] h16
 (fun v23 h25 => ∃ x24 : Bool, v23 = .bool x24 ∧
 (Sm [⟨h.size, 0, none⟩] h16 h25 ∧
 (sB x24
 ((∃ (x26 x27 x28 : Int) (x29 x30 x31 : Sl), atC h25 ⟨h.size, 0, none⟩ [.int .i64 x26, .int .i64 x27, .int .i64 x28, .slice x29.a x29.n x29.c, .slice x30.a x30.n x30.c, .slice x31.a x31.n x31.c] ∧
 (Fn Tryz.prog 60 #[.agg ⟨[.int .i64 x26, .int .i64 x27, .int .i64 x28, .slice x29.a x29.n x29.c, .slice x30.a x30.n x30.c, .slice x31.a x31.n x31.c]⟩] h25
 (fun v32 h34 => ∃ x33 : Bool, v32 = .bool x33 ∧
 (Sm [⟨h.size, 0, none⟩, ⟨h.size, 0, none⟩] h25 h34 ∧
 (sB x33
 ((∃ (x35 x36 x37 : Int) (x38 x39 x40 : Sl), atC h34 ⟨h.size, 0, none⟩ [.int .i64 x35, .int .i64 x36, .int .i64 x37, .slice x38.a x38.n x38.c, .slice x39.a x39.n x39.c, .slice x40.a x40.n x40.c] ∧
 (∃ x41 : Int, hc h34 ⟨h.size, 1, none⟩ = some (.int .i64 x41) ∧
 (Fn Tryz.prog 61 #[.agg ⟨[.int .i64 x35, .int .i64 x36, .int .i64 x37, .slice x38.a x38.n x38.c, .slice x39.a x39.n x39.c, .slice x40.a x40.n x40.c]⟩] h34
 (fun v42 h44 => ∃ x43 : Sl, v42 = .slice x43.a x43.n x43.c ∧
 (Sm [⟨h.size, 1, none⟩, ⟨h.size, 0, none⟩, ⟨h.size, 0, none⟩, ⟨h.size, 0, none⟩] h34 h44 ∧
 R (.bool ((x43.n : Int) == x41)) h44))))))
 (R (.bool false) h34)))))))
 (R (.bool false) h25)))))))
 (R (.bool false) h16))))))
theorem vc24 (p0_1 p0_2 p0_3 : Int) (p0_4 p0_5 p0_6 : Sl) (h : Heap) (R : Value → Heap → Prop) (H : W24 p0_1 p0_2 p0_3 p0_4 p0_5 p0_6 h R) : Fn Tryz.prog 24 #[.agg ⟨[.int .i64 p0_1, .int .i64 p0_2, .int .i64 p0_3, .slice p0_4.a p0_4.n p0_4.c, .slice p0_5.a p0_5.n p0_5.c, .slice p0_6.a p0_6.n p0_6.c]⟩] h R := fnI (A := .z) (by kernel_rfl) H

/- farandole/farandoleref26.numbers
 loop rrlrb: i_21:Int -/
def W58 (p0_1 p0_2 p0_3 : Int) (p0_4 p0_5 p0_6 : Sl) (h : Heap) (R : Value → Heap → Prop) : Prop :=
 (∀ h7 : Heap, h7 = h.push (.cells ⟨[.int .i64 p0_1, .int .i64 p0_2, .int .i64 p0_3, .slice p0_4.a p0_4.n p0_4.c, .slice p0_5.a p0_5.n p0_5.c, .slice p0_6.a p0_6.n p0_6.c]⟩ 26) →
 (∃ x8 : Int, hc h7 ⟨h.size, 0, none⟩ = some (.int .i64 x8) ∧
 (sB (decide (x8 < 0))
 (R (.bool false) h7)
 ((∃ x9 : Int, hc h7 ⟨h.size, 0, none⟩ = some (.int .i64 x9) ∧
 (sB (decide (x9 ≥ 6))
 (R (.bool false) h7)
 ((∃ x10 : Int, hc h7 ⟨h.size, 1, none⟩ = some (.int .i64 x10) ∧
 (sB (decide (x10 < 1))
 (R (.bool false) h7)
 ((∃ x11 : Int, hc h7 ⟨h.size, 1, none⟩ = some (.int .i64 x11) ∧
 (sB (decide (x11 > 200))
 (R (.bool false) h7)
 ((∃ x12 : Int, hc h7 ⟨h.size, 2, none⟩ = some (.int .i64 x12) ∧
 (sB (decide (x12 < 0))
 (R (.bool false) h7)
 ((∃ x13 : Int, hc h7 ⟨h.size, 2, none⟩ = some (.int .i64 x13) ∧
 (∃ x14 : Int, hc h7 ⟨h.size, 1, none⟩ = some (.int .i64 x14) ∧
 (sB (decide (x13 ≥ x14))
 (R (.bool false) h7)
 ((∃ x15 : Sl, hc h7 ⟨h.size, 3, none⟩ = some (.slice x15.a x15.n x15.c) ∧
 (∃ x16 : Int, hc h7 ⟨h.size, 1, none⟩ = some (.int .i64 x16) ∧
 (sB ((x15.n : Int) != x16)
 (R (.bool false) h7)
 ((∃ x17 : Sl, hc h7 ⟨h.size, 4, none⟩ = some (.slice x17.a x17.n x17.c) ∧
 (sB (decide ((x17.n : Int) > 400))
 (R (.bool false) h7)
 ((∃ I18 : Int → Heap → Nat → Prop, (∃ m19, I18 0 h7 m19) ∧
 (∀ (_ : Env) (i_21 : Int) (h22 : Heap) (m20 : Nat), I18 i_21 h22 m20 →
 (∃ x23 : Sl, hc h22 ⟨h.size, 4, none⟩ = some (.slice x23.a x23.n x23.c) ∧
 (sB (decide (i_21 < (x23.n : Int)))
 ((∃ x24 : Sl, hc h22 ⟨h.size, 4, none⟩ = some (.slice x24.a x24.n x24.c) ∧
 (NB x24.a fun b25 o26 => ((0 ≤ (i_21 : Int) ∧ (i_21 : Int) < (x24.n : Nat)) ∧
 (∃ (x27 : Int) (x28 : Bool) (x29 x30 x31 : Int) (x32 : Bool), atC h22 ⟨b25, o26 + Int.toNat i_21 * 6, none⟩ [.int .i64 x27, .bool x28, .int .i64 x29, .int .i64 x30, .int .i64 x31, .bool x32] ∧
 (∀ h33 : Heap, h33 = h22.push (.cells ⟨[.int .i64 0, .bool false, .int .i64 0, .int .i64 0, .int .i64 0, .bool false]⟩ 81) →
 (okAt h33 ⟨h22.size, 0, none⟩ 6 ∧ ∀ h34 : Heap, h34 = hputs h33 ⟨h22.size, 0, none⟩ 0 [.int .i64 x27, .bool x28, .int .i64 x29, .int .i64 x30, .int .i64 x31, .bool x32] →
 (∃ x35 : Int, hc h34 ⟨h22.size, 0, none⟩ = some (.int .i64 x35) ∧
 (sB (decide (x35 < 0))
 (R (.bool false) h34)
 ((∃ x36 : Int, hc h34 ⟨h22.size, 0, none⟩ = some (.int .i64 x36) ∧
 (∃ x37 : Int, hc h34 ⟨h.size, 1, none⟩ = some (.int .i64 x37) ∧
 (sB (decide (x36 ≥ x37))
 (R (.bool false) h34)
 ((∃ x38 : Int, hc h34 ⟨h22.size, 4, none⟩ = some (.int .i64 x38) ∧
 (sB (decide (x38 < 0))
 (R (.bool false) h34)
 ((∃ x39 : Int, hc h34 ⟨h22.size, 4, none⟩ = some (.int .i64 x39) ∧
 (∃ x40 : Int, hc h34 ⟨h.size, 1, none⟩ = some (.int .i64 x40) ∧
 (sB (decide (x39 ≥ x40))
 (R (.bool false) h34)
 ((∃ x41 : Int, hc h34 ⟨h22.size, 2, none⟩ = some (.int .i64 x41) ∧
 (sB (decide (x41 < 0))
 (R (.bool false) h34)
 ((∃ x42 : Int, hc h34 ⟨h22.size, 2, none⟩ = some (.int .i64 x42) ∧
 (sB (decide (x42 ≥ 6))
 (R (.bool false) h34)
 ((∃ x43 : Int, hc h34 ⟨h22.size, 2, none⟩ = some (.int .i64 x43) ∧
 (∃ x44 : Int, hc h34 ⟨h.size, 0, none⟩ = some (.int .i64 x44) ∧
 (sB (x43 == x44)
 (R (.bool false) h34)
 ((∃ x45 : Int, hc h34 ⟨h22.size, 3, none⟩ = some (.int .i64 x45) ∧
 (sB (decide (x45 < 0))
 (R (.bool false) h34)
 ((∃ x46 : Int, hc h34 ⟨h22.size, 3, none⟩ = some (.int .i64 x46) ∧
 (sB (decide (x46 ≥ 40))
 (R (.bool false) h34)
 ((∃ m47, m47 < m20 ∧ I18 (IntKind.wrap .i64 (i_21 + 1)) h34 m47))))))))))))))))))))))))))))))))))))))
 (R (.bool true) h22))))))))))))))))))))))))))))))))
theorem vc58 (p0_1 p0_2 p0_3 : Int) (p0_4 p0_5 p0_6 : Sl) (h : Heap) (R : Value → Heap → Prop) (H : W58 p0_1 p0_2 p0_3 p0_4 p0_5 p0_6 h R) : Fn Tryz.prog 58 #[.agg ⟨[.int .i64 p0_1, .int .i64 p0_2, .int .i64 p0_3, .slice p0_4.a p0_4.n p0_4.c, .slice p0_5.a p0_5.n p0_5.c, .slice p0_6.a p0_6.n p0_6.c]⟩] h R := fnI (A := (.s .z (.s .z (.s (.s .z (.b (.l [(3, .one (.int .i64))] .z))) .z)))) (by kernel_rfl) H

/- farandole/farandoleref26.apart
 loop rlrborlbrrrb: k_37:Int
 loop rlrborlbrrrb: k_101:Int
 loop rlrb: i_11:Int -/
def W59 (p0_1 p0_2 p0_3 : Int) (p0_4 p0_5 p0_6 : Sl) (h : Heap) (R : Value → Heap → Prop) : Prop :=
 (∀ h7 : Heap, h7 = h.push (.cells ⟨[.int .i64 p0_1, .int .i64 p0_2, .int .i64 p0_3, .slice p0_4.a p0_4.n p0_4.c, .slice p0_5.a p0_5.n p0_5.c, .slice p0_6.a p0_6.n p0_6.c]⟩ 26) →
 (∃ I8 : Int → Heap → Nat → Prop, (∃ m9, I8 0 h7 m9) ∧
 (∀ (_ : Env) (i_11 : Int) (h12 : Heap) (m10 : Nat), I8 i_11 h12 m10 →
 (∃ x13 : Sl, hc h12 ⟨h.size, 4, none⟩ = some (.slice x13.a x13.n x13.c) ∧
 (sB (decide (i_11 < (x13.n : Int)))
 ((∃ x14 : Sl, hc h12 ⟨h.size, 4, none⟩ = some (.slice x14.a x14.n x14.c) ∧
 (NB x14.a fun b15 o16 => ((0 ≤ (i_11 : Int) ∧ (i_11 : Int) < (x14.n : Nat)) ∧
 (∃ (x17 : Int) (x18 : Bool) (x19 x20 x21 : Int) (x22 : Bool), atC h12 ⟨b15, o16 + Int.toNat i_11 * 6, none⟩ [.int .i64 x17, .bool x18, .int .i64 x19, .int .i64 x20, .int .i64 x21, .bool x22] ∧
 (∀ h23 : Heap, h23 = h12.push (.cells ⟨[.int .i64 0, .bool false, .int .i64 0, .int .i64 0, .int .i64 0, .bool false]⟩ 81) →
 (okAt h23 ⟨h12.size, 0, none⟩ 6 ∧ ∀ h24 : Heap, h24 = hputs h23 ⟨h12.size, 0, none⟩ 0 [.int .i64 x17, .bool x18, .int .i64 x19, .int .i64 x20, .int .i64 x21, .bool x22] →
 (∃ x25 : Bool, hc h24 ⟨h12.size, 5, none⟩ = some (.bool x25) ∧
 (sB x25
 ((∃ x26 : Bool, hc h24 ⟨h12.size, 1, none⟩ = some (.bool x26) ∧
 (sB (!x26)
 (R (.bool false) h24)
 ((∃ x27 : Int, hc h24 ⟨h12.size, 0, none⟩ = some (.int .i64 x27) ∧
 (∃ x28 : Int, hc h24 ⟨h.size, 2, none⟩ = some (.int .i64 x28) ∧
 (sB (x27 == x28)
 (R (.bool false) h24)
 ((∃ x29 : Sl, hc h24 ⟨h.size, 3, none⟩ = some (.slice x29.a x29.n x29.c) ∧
 (∃ x30 : Int, hc h24 ⟨h12.size, 0, none⟩ = some (.int .i64 x30) ∧
 (NB x29.a fun b31 o32 => ((0 ≤ (x30 : Int) ∧ (x30 : Int) < (x29.n : Nat)) ∧
 (∃ x33 : Bool, hc h24 ⟨b31, o32 + Int.toNat x30 * 1, none⟩ = some (.bool x33) ∧
 (sB x33
 (R (.bool false) h24)
 ((∃ I34 : Int → Heap → Nat → Prop, (∃ m35, I34 0 h24 m35) ∧
 (∀ (_ : Env) (k_37 : Int) (h38 : Heap) (m36 : Nat), I34 k_37 h38 m36 →
 (∃ x39 : Sl, hc h38 ⟨h.size, 4, none⟩ = some (.slice x39.a x39.n x39.c) ∧
 (sB (decide (k_37 < (x39.n : Int)))
 ((∃ x40 : Sl, hc h38 ⟨h.size, 4, none⟩ = some (.slice x40.a x40.n x40.c) ∧
 (NB x40.a fun b41 o42 => ((0 ≤ (k_37 : Int) ∧ (k_37 : Int) < (x40.n : Nat)) ∧
 (∃ (x43 : Int) (x44 : Bool) (x45 x46 x47 : Int) (x48 : Bool), atC h38 ⟨b41, o42 + Int.toNat k_37 * 6, none⟩ [.int .i64 x43, .bool x44, .int .i64 x45, .int .i64 x46, .int .i64 x47, .bool x48] ∧
 (∀ h49 : Heap, h49 = h38.push (.cells ⟨[.int .i64 0, .bool false, .int .i64 0, .int .i64 0, .int .i64 0, .bool false]⟩ 81) →
 (okAt h49 ⟨h38.size, 0, none⟩ 6 ∧ ∀ h50 : Heap, h50 = hputs h49 ⟨h38.size, 0, none⟩ 0 [.int .i64 x43, .bool x44, .int .i64 x45, .int .i64 x46, .int .i64 x47, .bool x48] →
 (sB (k_37 != i_11)
 ((∃ x51 : Int, hc h50 ⟨h12.size, 0, none⟩ = some (.int .i64 x51) ∧
 (∃ x52 : Int, hc h50 ⟨h38.size, 0, none⟩ = some (.int .i64 x52) ∧
 (sB (x51 == x52)
 ((∃ x53 : Bool, hc h50 ⟨h12.size, 1, none⟩ = some (.bool x53) ∧
 (∃ x54 : Bool, hc h50 ⟨h38.size, 1, none⟩ = some (.bool x54) ∧
 (sB (!(x53 == x54))
 (R (.bool false) h50)
 ((∃ x55 : Int, hc h50 ⟨h12.size, 2, none⟩ = some (.int .i64 x55) ∧
 (∃ x56 : Int, hc h50 ⟨h38.size, 2, none⟩ = some (.int .i64 x56) ∧
 (sB (x55 == x56)
 ((∃ x57 : Int, hc h50 ⟨h12.size, 3, none⟩ = some (.int .i64 x57) ∧
 (∃ x58 : Int, hc h50 ⟨h38.size, 3, none⟩ = some (.int .i64 x58) ∧
 (sB (x57 == x58)
 (R (.bool false) h50)
 ((∃ x59 : Bool, hc h50 ⟨h12.size, 5, none⟩ = some (.bool x59) ∧
 (sB x59
 (R (.bool false) h50)
 ((∃ x60 : Bool, hc h50 ⟨h12.size, 5, none⟩ = some (.bool x60) ∧
 (sB x60
 ((∃ x61 : Int, hc h50 ⟨h38.size, 4, none⟩ = some (.int .i64 x61) ∧
 (∃ x62 : Int, hc h50 ⟨h12.size, 0, none⟩ = some (.int .i64 x62) ∧
 (sB (x61 == x62)
 ((∃ x63 : Bool, hc h50 ⟨h38.size, 1, none⟩ = some (.bool x63) ∧
 (sB (!x63)
 (R (.bool false) h50)
 ((∃ x64 : Int, hc h50 ⟨h38.size, 3, none⟩ = some (.int .i64 x64) ∧
 (∃ x65 : Int, hc h50 ⟨h12.size, 3, none⟩ = some (.int .i64 x65) ∧
 (sB (x64 != x65)
 (R (.bool false) h50)
 ((∃ m66, m66 < m36 ∧ I34 (IntKind.wrap .i64 (k_37 + 1)) h50 m66)))))))))
 ((∃ m67, m67 < m36 ∧ I34 (IntKind.wrap .i64 (k_37 + 1)) h50 m67))))))
 ((∃ m68, m68 < m36 ∧ I34 (IntKind.wrap .i64 (k_37 + 1)) h50 m68))))))))))))
 ((∃ x69 : Bool, hc h50 ⟨h12.size, 5, none⟩ = some (.bool x69) ∧
 (sB x69
 (R (.bool false) h50)
 ((∃ x70 : Bool, hc h50 ⟨h12.size, 5, none⟩ = some (.bool x70) ∧
 (sB x70
 ((∃ x71 : Int, hc h50 ⟨h38.size, 4, none⟩ = some (.int .i64 x71) ∧
 (∃ x72 : Int, hc h50 ⟨h12.size, 0, none⟩ = some (.int .i64 x72) ∧
 (sB (x71 == x72)
 ((∃ x73 : Bool, hc h50 ⟨h38.size, 1, none⟩ = some (.bool x73) ∧
 (sB (!x73)
 (R (.bool false) h50)
 ((∃ x74 : Int, hc h50 ⟨h38.size, 3, none⟩ = some (.int .i64 x74) ∧
 (∃ x75 : Int, hc h50 ⟨h12.size, 3, none⟩ = some (.int .i64 x75) ∧
 (sB (x74 != x75)
 (R (.bool false) h50)
 ((∃ m76, m76 < m36 ∧ I34 (IntKind.wrap .i64 (k_37 + 1)) h50 m76)))))))))
 ((∃ m77, m77 < m36 ∧ I34 (IntKind.wrap .i64 (k_37 + 1)) h50 m77))))))
 ((∃ m78, m78 < m36 ∧ I34 (IntKind.wrap .i64 (k_37 + 1)) h50 m78))))))))))))))))
 ((∃ x79 : Bool, hc h50 ⟨h12.size, 5, none⟩ = some (.bool x79) ∧
 (sB x79
 ((∃ x80 : Int, hc h50 ⟨h38.size, 4, none⟩ = some (.int .i64 x80) ∧
 (∃ x81 : Int, hc h50 ⟨h12.size, 0, none⟩ = some (.int .i64 x81) ∧
 (sB (x80 == x81)
 ((∃ x82 : Bool, hc h50 ⟨h38.size, 1, none⟩ = some (.bool x82) ∧
 (sB (!x82)
 (R (.bool false) h50)
 ((∃ x83 : Int, hc h50 ⟨h38.size, 3, none⟩ = some (.int .i64 x83) ∧
 (∃ x84 : Int, hc h50 ⟨h12.size, 3, none⟩ = some (.int .i64 x84) ∧
 (sB (x83 != x84)
 (R (.bool false) h50)
 ((∃ m85, m85 < m36 ∧ I34 (IntKind.wrap .i64 (k_37 + 1)) h50 m85)))))))))
 ((∃ m86, m86 < m36 ∧ I34 (IntKind.wrap .i64 (k_37 + 1)) h50 m86))))))
 ((∃ m87, m87 < m36 ∧ I34 (IntKind.wrap .i64 (k_37 + 1)) h50 m87)))))))))
 ((∃ x88 : Bool, hc h50 ⟨h12.size, 5, none⟩ = some (.bool x88) ∧
 (sB x88
 ((∃ x89 : Int, hc h50 ⟨h38.size, 4, none⟩ = some (.int .i64 x89) ∧
 (∃ x90 : Int, hc h50 ⟨h12.size, 0, none⟩ = some (.int .i64 x90) ∧
 (sB (x89 == x90)
 ((∃ x91 : Bool, hc h50 ⟨h38.size, 1, none⟩ = some (.bool x91) ∧
 (sB (!x91)
 (R (.bool false) h50)
 ((∃ x92 : Int, hc h50 ⟨h38.size, 3, none⟩ = some (.int .i64 x92) ∧
 (∃ x93 : Int, hc h50 ⟨h12.size, 3, none⟩ = some (.int .i64 x93) ∧
 (sB (x92 != x93)
 (R (.bool false) h50)
 ((∃ m94, m94 < m36 ∧ I34 (IntKind.wrap .i64 (k_37 + 1)) h50 m94)))))))))
 ((∃ m95, m95 < m36 ∧ I34 (IntKind.wrap .i64 (k_37 + 1)) h50 m95))))))
 ((∃ m96, m96 < m36 ∧ I34 (IntKind.wrap .i64 (k_37 + 1)) h50 m96)))))))))))))
 ((∃ m97, m97 < m10 ∧ I8 (IntKind.wrap .i64 (i_11 + 1)) h38 m97)))))))))))))))))))))
 ((∃ I98 : Int → Heap → Nat → Prop, (∃ m99, I98 0 h24 m99) ∧
 (∀ (_ : Env) (k_101 : Int) (h102 : Heap) (m100 : Nat), I98 k_101 h102 m100 →
 (∃ x103 : Sl, hc h102 ⟨h.size, 4, none⟩ = some (.slice x103.a x103.n x103.c) ∧
 (sB (decide (k_101 < (x103.n : Int)))
 ((∃ x104 : Sl, hc h102 ⟨h.size, 4, none⟩ = some (.slice x104.a x104.n x104.c) ∧
 (NB x104.a fun b105 o106 => ((0 ≤ (k_101 : Int) ∧ (k_101 : Int) < (x104.n : Nat)) ∧
 (∃ (x107 : Int) (x108 : Bool) (x109 x110 x111 : Int) (x112 : Bool), atC h102 ⟨b105, o106 + Int.toNat k_101 * 6, none⟩ [.int .i64 x107, .bool x108, .int .i64 x109, .int .i64 x110, .int .i64 x111, .bool x112] ∧
 (∀ h113 : Heap, h113 = h102.push (.cells ⟨[.int .i64 0, .bool false, .int .i64 0, .int .i64 0, .int .i64 0, .bool false]⟩ 81) →
 (okAt h113 ⟨h102.size, 0, none⟩ 6 ∧ ∀ h114 : Heap, h114 = hputs h113 ⟨h102.size, 0, none⟩ 0 [.int .i64 x107, .bool x108, .int .i64 x109, .int .i64 x110, .int .i64 x111, .bool x112] →
 (sB (k_101 != i_11)
 ((∃ x115 : Int, hc h114 ⟨h12.size, 0, none⟩ = some (.int .i64 x115) ∧
 (∃ x116 : Int, hc h114 ⟨h102.size, 0, none⟩ = some (.int .i64 x116) ∧
 (sB (x115 == x116)
 ((∃ x117 : Bool, hc h114 ⟨h12.size, 1, none⟩ = some (.bool x117) ∧
 (∃ x118 : Bool, hc h114 ⟨h102.size, 1, none⟩ = some (.bool x118) ∧
 (sB (!(x117 == x118))
 (R (.bool false) h114)
 ((∃ x119 : Int, hc h114 ⟨h12.size, 2, none⟩ = some (.int .i64 x119) ∧
 (∃ x120 : Int, hc h114 ⟨h102.size, 2, none⟩ = some (.int .i64 x120) ∧
 (sB (x119 == x120)
 ((∃ x121 : Int, hc h114 ⟨h12.size, 3, none⟩ = some (.int .i64 x121) ∧
 (∃ x122 : Int, hc h114 ⟨h102.size, 3, none⟩ = some (.int .i64 x122) ∧
 (sB (x121 == x122)
 (R (.bool false) h114)
 ((∃ x123 : Bool, hc h114 ⟨h12.size, 5, none⟩ = some (.bool x123) ∧
 (sB x123
 (R (.bool false) h114)
 ((∃ x124 : Bool, hc h114 ⟨h12.size, 5, none⟩ = some (.bool x124) ∧
 (sB x124
 ((∃ x125 : Int, hc h114 ⟨h102.size, 4, none⟩ = some (.int .i64 x125) ∧
 (∃ x126 : Int, hc h114 ⟨h12.size, 0, none⟩ = some (.int .i64 x126) ∧
 (sB (x125 == x126)
 ((∃ x127 : Bool, hc h114 ⟨h102.size, 1, none⟩ = some (.bool x127) ∧
 (sB (!x127)
 (R (.bool false) h114)
 ((∃ x128 : Int, hc h114 ⟨h102.size, 3, none⟩ = some (.int .i64 x128) ∧
 (∃ x129 : Int, hc h114 ⟨h12.size, 3, none⟩ = some (.int .i64 x129) ∧
 (sB (x128 != x129)
 (R (.bool false) h114)
 ((∃ m130, m130 < m100 ∧ I98 (IntKind.wrap .i64 (k_101 + 1)) h114 m130)))))))))
 ((∃ m131, m131 < m100 ∧ I98 (IntKind.wrap .i64 (k_101 + 1)) h114 m131))))))
 ((∃ m132, m132 < m100 ∧ I98 (IntKind.wrap .i64 (k_101 + 1)) h114 m132))))))))))))
 ((∃ x133 : Bool, hc h114 ⟨h12.size, 5, none⟩ = some (.bool x133) ∧
 (sB x133
 (R (.bool false) h114)
 ((∃ x134 : Bool, hc h114 ⟨h12.size, 5, none⟩ = some (.bool x134) ∧
 (sB x134
 ((∃ x135 : Int, hc h114 ⟨h102.size, 4, none⟩ = some (.int .i64 x135) ∧
 (∃ x136 : Int, hc h114 ⟨h12.size, 0, none⟩ = some (.int .i64 x136) ∧
 (sB (x135 == x136)
 ((∃ x137 : Bool, hc h114 ⟨h102.size, 1, none⟩ = some (.bool x137) ∧
 (sB (!x137)
 (R (.bool false) h114)
 ((∃ x138 : Int, hc h114 ⟨h102.size, 3, none⟩ = some (.int .i64 x138) ∧
 (∃ x139 : Int, hc h114 ⟨h12.size, 3, none⟩ = some (.int .i64 x139) ∧
 (sB (x138 != x139)
 (R (.bool false) h114)
 ((∃ m140, m140 < m100 ∧ I98 (IntKind.wrap .i64 (k_101 + 1)) h114 m140)))))))))
 ((∃ m141, m141 < m100 ∧ I98 (IntKind.wrap .i64 (k_101 + 1)) h114 m141))))))
 ((∃ m142, m142 < m100 ∧ I98 (IntKind.wrap .i64 (k_101 + 1)) h114 m142))))))))))))))))
 ((∃ x143 : Bool, hc h114 ⟨h12.size, 5, none⟩ = some (.bool x143) ∧
 (sB x143
 ((∃ x144 : Int, hc h114 ⟨h102.size, 4, none⟩ = some (.int .i64 x144) ∧
 (∃ x145 : Int, hc h114 ⟨h12.size, 0, none⟩ = some (.int .i64 x145) ∧
 (sB (x144 == x145)
 ((∃ x146 : Bool, hc h114 ⟨h102.size, 1, none⟩ = some (.bool x146) ∧
 (sB (!x146)
 (R (.bool false) h114)
 ((∃ x147 : Int, hc h114 ⟨h102.size, 3, none⟩ = some (.int .i64 x147) ∧
 (∃ x148 : Int, hc h114 ⟨h12.size, 3, none⟩ = some (.int .i64 x148) ∧
 (sB (x147 != x148)
 (R (.bool false) h114)
 ((∃ m149, m149 < m100 ∧ I98 (IntKind.wrap .i64 (k_101 + 1)) h114 m149)))))))))
 ((∃ m150, m150 < m100 ∧ I98 (IntKind.wrap .i64 (k_101 + 1)) h114 m150))))))
 ((∃ m151, m151 < m100 ∧ I98 (IntKind.wrap .i64 (k_101 + 1)) h114 m151)))))))))
 ((∃ x152 : Bool, hc h114 ⟨h12.size, 5, none⟩ = some (.bool x152) ∧
 (sB x152
 ((∃ x153 : Int, hc h114 ⟨h102.size, 4, none⟩ = some (.int .i64 x153) ∧
 (∃ x154 : Int, hc h114 ⟨h12.size, 0, none⟩ = some (.int .i64 x154) ∧
 (sB (x153 == x154)
 ((∃ x155 : Bool, hc h114 ⟨h102.size, 1, none⟩ = some (.bool x155) ∧
 (sB (!x155)
 (R (.bool false) h114)
 ((∃ x156 : Int, hc h114 ⟨h102.size, 3, none⟩ = some (.int .i64 x156) ∧
 (∃ x157 : Int, hc h114 ⟨h12.size, 3, none⟩ = some (.int .i64 x157) ∧
 (sB (x156 != x157)
 (R (.bool false) h114)
 ((∃ m158, m158 < m100 ∧ I98 (IntKind.wrap .i64 (k_101 + 1)) h114 m158)))))))))
 ((∃ m159, m159 < m100 ∧ I98 (IntKind.wrap .i64 (k_101 + 1)) h114 m159))))))
 ((∃ m160, m160 < m100 ∧ I98 (IntKind.wrap .i64 (k_101 + 1)) h114 m160)))))))))))))
 ((∃ m161, m161 < m10 ∧ I8 (IntKind.wrap .i64 (i_11 + 1)) h102 m161))))))))))))))))
 (R (.bool true) h12))))))
theorem vc59 (p0_1 p0_2 p0_3 : Int) (p0_4 p0_5 p0_6 : Sl) (h : Heap) (R : Value → Heap → Prop) (H : W59 p0_1 p0_2 p0_3 p0_4 p0_5 p0_6 h R) : Fn Tryz.prog 59 #[.agg ⟨[.int .i64 p0_1, .int .i64 p0_2, .int .i64 p0_3, .slice p0_4.a p0_4.n p0_4.c, .slice p0_5.a p0_5.n p0_5.c, .slice p0_6.a p0_6.n p0_6.c]⟩] h R := fnI (A := (.s .z (.s (.s .z (.b (.l [(3, .one (.int .i64))] (.s .z (.s (.b (.s .z (.s .z (.s .z (.b (.l [(5, .one (.int .i64))] .z)))))) .z))))) .z))) (by kernel_rfl) H

/- farandole/farandoleref26.timed
 loop rlrb: i_11:Int -/
def W60 (p0_1 p0_2 p0_3 : Int) (p0_4 p0_5 p0_6 : Sl) (h : Heap) (R : Value → Heap → Prop) : Prop :=
 (∀ h7 : Heap, h7 = h.push (.cells ⟨[.int .i64 p0_1, .int .i64 p0_2, .int .i64 p0_3, .slice p0_4.a p0_4.n p0_4.c, .slice p0_5.a p0_5.n p0_5.c, .slice p0_6.a p0_6.n p0_6.c]⟩ 26) →
 (∃ I8 : Int → Heap → Nat → Prop, (∃ m9, I8 0 h7 m9) ∧
 (∀ (_ : Env) (i_11 : Int) (h12 : Heap) (m10 : Nat), I8 i_11 h12 m10 →
 (∃ x13 : Sl, hc h12 ⟨h.size, 5, none⟩ = some (.slice x13.a x13.n x13.c) ∧
 (sB (decide (i_11 < (x13.n : Int)))
 ((∃ x14 : Sl, hc h12 ⟨h.size, 5, none⟩ = some (.slice x14.a x14.n x14.c) ∧
 (NB x14.a fun b15 o16 => ((0 ≤ (i_11 : Int) ∧ (i_11 : Int) < (x14.n : Nat)) ∧
 (∃ (x17 x18 x19 : Int), atC h12 ⟨b15, o16 + Int.toNat i_11 * 3, none⟩ [.int .i64 x17, .int .i64 x18, .int .i64 x19] ∧
 (∀ h20 : Heap, h20 = h12.push (.cells ⟨[.int .i64 0, .int .i64 0, .int .i64 0]⟩ 44) →
 (okAt h20 ⟨h12.size, 0, none⟩ 3 ∧ ∀ h21 : Heap, h21 = hputs h20 ⟨h12.size, 0, none⟩ 0 [.int .i64 x17, .int .i64 x18, .int .i64 x19] →
 (∃ x22 : Int, hc h21 ⟨h12.size, 1, none⟩ = some (.int .i64 x22) ∧
 (sB (decide (x22 < 1))
 (R (.bool false) h21)
 ((∃ x23 : Int, hc h21 ⟨h12.size, 1, none⟩ = some (.int .i64 x23) ∧
 (sB (decide (x23 > 1000))
 (R (.bool false) h21)
 ((∃ x24 : Int, hc h21 ⟨h12.size, 2, none⟩ = some (.int .i64 x24) ∧
 (sB (decide (x24 < 0))
 (R (.bool false) h21)
 ((∃ x25 : Int, hc h21 ⟨h12.size, 2, none⟩ = some (.int .i64 x25) ∧
 (∃ x26 : Sl, hc h21 ⟨h.size, 4, none⟩ = some (.slice x26.a x26.n x26.c) ∧
 (sB (decide (x25 ≥ (x26.n : Int)))
 (R (.bool false) h21)
 ((sB (decide (i_11 > 0))
 ((∃ x27 : Int, hc h21 ⟨h12.size, 0, none⟩ = some (.int .i64 x27) ∧
 (∃ x28 : Sl, hc h21 ⟨h.size, 5, none⟩ = some (.slice x28.a x28.n x28.c) ∧
 (NB x28.a fun b29 o30 => ((0 ≤ ((IntKind.wrap .i64 (i_11 - 1)) : Int) ∧ ((IntKind.wrap .i64 (i_11 - 1)) : Int) < (x28.n : Nat)) ∧
 (∃ x31 : Int, hc h21 ⟨b29, o30 + Int.toNat (IntKind.wrap .i64 (i_11 - 1)) * 3, none⟩ = some (.int .i64 x31) ∧
 (sB (decide (x27 ≤ x31))
 (R (.bool false) h21)
 ((∃ x32 : Sl, hc h21 ⟨h.size, 4, none⟩ = some (.slice x32.a x32.n x32.c) ∧
 (∃ x33 : Int, hc h21 ⟨h12.size, 2, none⟩ = some (.int .i64 x33) ∧
 (NB x32.a fun b34 o35 => ((0 ≤ (x33 : Int) ∧ (x33 : Int) < (x32.n : Nat)) ∧
 (∃ (x36 : Int) (x37 : Bool) (x38 x39 x40 : Int) (x41 : Bool), atC h21 ⟨b34, o35 + Int.toNat x33 * 6, none⟩ [.int .i64 x36, .bool x37, .int .i64 x38, .int .i64 x39, .int .i64 x40, .bool x41] ∧
 (∀ h42 : Heap, h42 = h21.push (.cells ⟨[.int .i64 0, .bool false, .int .i64 0, .int .i64 0, .int .i64 0, .bool false]⟩ 81) →
 (okAt h42 ⟨h21.size, 0, none⟩ 6 ∧ ∀ h43 : Heap, h43 = hputs h42 ⟨h21.size, 0, none⟩ 0 [.int .i64 x36, .bool x37, .int .i64 x38, .int .i64 x39, .int .i64 x40, .bool x41] →
 (∃ x44 : Int, hc h43 ⟨h21.size, 0, none⟩ = some (.int .i64 x44) ∧
 (∃ x45 : Int, hc h43 ⟨h12.size, 0, none⟩ = some (.int .i64 x45) ∧
 (sB (x44 != x45)
 (R (.bool false) h43)
 ((∃ x46 : Bool, hc h43 ⟨h21.size, 1, none⟩ = some (.bool x46) ∧
 (sB (!x46)
 (R (.bool false) h43)
 ((∃ x47 : Bool, hc h43 ⟨h21.size, 5, none⟩ = some (.bool x47) ∧
 (sB x47
 (R (.bool false) h43)
 ((∃ m48, m48 < m10 ∧ I8 (IntKind.wrap .i64 (i_11 + 1)) h43 m48))))))))))))))))))))))))))
 ((∃ x49 : Sl, hc h21 ⟨h.size, 4, none⟩ = some (.slice x49.a x49.n x49.c) ∧
 (∃ x50 : Int, hc h21 ⟨h12.size, 2, none⟩ = some (.int .i64 x50) ∧
 (NB x49.a fun b51 o52 => ((0 ≤ (x50 : Int) ∧ (x50 : Int) < (x49.n : Nat)) ∧
 (∃ (x53 : Int) (x54 : Bool) (x55 x56 x57 : Int) (x58 : Bool), atC h21 ⟨b51, o52 + Int.toNat x50 * 6, none⟩ [.int .i64 x53, .bool x54, .int .i64 x55, .int .i64 x56, .int .i64 x57, .bool x58] ∧
 (∀ h59 : Heap, h59 = h21.push (.cells ⟨[.int .i64 0, .bool false, .int .i64 0, .int .i64 0, .int .i64 0, .bool false]⟩ 81) →
 (okAt h59 ⟨h21.size, 0, none⟩ 6 ∧ ∀ h60 : Heap, h60 = hputs h59 ⟨h21.size, 0, none⟩ 0 [.int .i64 x53, .bool x54, .int .i64 x55, .int .i64 x56, .int .i64 x57, .bool x58] →
 (∃ x61 : Int, hc h60 ⟨h21.size, 0, none⟩ = some (.int .i64 x61) ∧
 (∃ x62 : Int, hc h60 ⟨h12.size, 0, none⟩ = some (.int .i64 x62) ∧
 (sB (x61 != x62)
 (R (.bool false) h60)
 ((∃ x63 : Bool, hc h60 ⟨h21.size, 1, none⟩ = some (.bool x63) ∧
 (sB (!x63)
 (R (.bool false) h60)
 ((∃ x64 : Bool, hc h60 ⟨h21.size, 5, none⟩ = some (.bool x64) ∧
 (sB x64
 (R (.bool false) h60)
 ((∃ m65, m65 < m10 ∧ I8 (IntKind.wrap .i64 (i_11 + 1)) h60 m65))))))))))))))))))))))))))))))))))))))))
 (R (.bool true) h12))))))
theorem vc60 (p0_1 p0_2 p0_3 : Int) (p0_4 p0_5 p0_6 : Sl) (h : Heap) (R : Value → Heap → Prop) (H : W60 p0_1 p0_2 p0_3 p0_4 p0_5 p0_6 h R) : Fn Tryz.prog 60 #[.agg ⟨[.int .i64 p0_1, .int .i64 p0_2, .int .i64 p0_3, .slice p0_4.a p0_4.n p0_4.c, .slice p0_5.a p0_5.n p0_5.c, .slice p0_6.a p0_6.n p0_6.c]⟩] h R := fnI (A := (.s .z (.s (.s .z (.b (.l [(3, .one (.int .i64))] .z))) .z))) (by kernel_rfl) H

/- farandole/farandoleref26.Reached
 loop rrlrborlbrb: out_20:Sl, i_21:Int
 loop rrlrb: out_13:Sl, n_14:Int -/
def W61 (p0_1 p0_2 p0_3 : Int) (p0_4 p0_5 p0_6 : Sl) (h : Heap) (R : Value → Heap → Prop) : Prop :=
 (∀ h7 : Heap, h7 = h.push (.cells ⟨[.int .i64 p0_1, .int .i64 p0_2, .int .i64 p0_3, .slice p0_4.a p0_4.n p0_4.c, .slice p0_5.a p0_5.n p0_5.c, .slice p0_6.a p0_6.n p0_6.c]⟩ 26) →
 (∃ x8 : Int, hc h7 ⟨h.size, 2, none⟩ = some (.int .i64 x8) ∧
 (∀ h9 : Heap, h9 = h7.push (.cells ⟨[.int .i64 x8]⟩ 3) →
 (∃ I10 : Sl → Int → Heap → Nat → Prop, (∃ m11, I10 ⟨(some ⟨h7.size, 0, none⟩), 1, 1⟩ 0 h9 m11) ∧
 (∀ (_ : Env) (out_13 : Sl) (n_14 : Int) (h15 : Heap) (m12 : Nat), I10 out_13 n_14 h15 m12 →
 (∃ x16 : Int, hc h15 ⟨h.size, 1, none⟩ = some (.int .i64 x16) ∧
 (sB (decide (n_14 < x16))
 ((∃ I17 : Sl → Int → Heap → Nat → Prop, (∃ m18, I17 out_13 0 h15 m18) ∧
 (∀ (_ : Env) (out_20 : Sl) (i_21 : Int) (h22 : Heap) (m19 : Nat), I17 out_20 i_21 h22 m19 →
 (∃ x23 : Sl, hc h22 ⟨h.size, 4, none⟩ = some (.slice x23.a x23.n x23.c) ∧
 (sB (decide (i_21 < (x23.n : Int)))
 ((∃ x24 : Sl, hc h22 ⟨h.size, 4, none⟩ = some (.slice x24.a x24.n x24.c) ∧
 (NB x24.a fun b25 o26 => ((0 ≤ (i_21 : Int) ∧ (i_21 : Int) < (x24.n : Nat)) ∧
 (∃ x27 : Int, hc h22 ⟨b25, o26 + Int.toNat i_21 * 6, none⟩ = some (.int .i64 x27) ∧
 (Fn Tryz.prog 105 #[.slice out_20.a out_20.n out_20.c, .int .i64 x27] h22
 (fun v28 h30 => ∃ x29 : Bool, v28 = .bool x29 ∧
 (sB x29
 ((∃ x31 : Sl, hc h30 ⟨h.size, 4, none⟩ = some (.slice x31.a x31.n x31.c) ∧
 (NB x31.a fun b32 o33 => ((0 ≤ (i_21 : Int) ∧ (i_21 : Int) < (x31.n : Nat)) ∧
 (∃ x34 : Int, hc h30 ⟨b32, o33 + Int.toNat i_21 * 6 + 4, none⟩ = some (.int .i64 x34) ∧
 (Fn Tryz.prog 106 #[.slice out_20.a out_20.n out_20.c, .int .i64 x34] h30
 (fun v35 h37 => ∃ x36 : Sl, v35 = .slice x36.a x36.n x36.c ∧
 (∃ m38, m38 < m19 ∧ I17 x36 (IntKind.wrap .i64 (i_21 + 1)) h37 m38))))))))
 ((∃ m39, m39 < m19 ∧ I17 out_20 (IntKind.wrap .i64 (i_21 + 1)) h30 m39))))))))))
 ((∃ m40, m40 < m12 ∧ I10 out_20 (IntKind.wrap .i64 (n_14 + 1)) h22 m40)))))))
 (R (.slice out_13.a out_13.n out_13.c) h15))))))))
theorem vc61 (p0_1 p0_2 p0_3 : Int) (p0_4 p0_5 p0_6 : Sl) (h : Heap) (R : Value → Heap → Prop) (H : W61 p0_1 p0_2 p0_3 p0_4 p0_5 p0_6 h R) : Fn Tryz.prog 61 #[.agg ⟨[.int .i64 p0_1, .int .i64 p0_2, .int .i64 p0_3, .slice p0_4.a p0_4.n p0_4.c, .slice p0_5.a p0_5.n p0_5.c, .slice p0_6.a p0_6.n p0_6.c]⟩] h R := fnI (A := (.s .z (.s .z (.s (.s .z (.b (.l [(3, .one (.slice)), (4, .one (.int .i64))] (.s .z (.s (.b (.s .z (.b (.l [(3, .one (.slice)), (5, .one (.int .i64))] .z)))) .z))))) .z)))) (by kernel_rfl) H

def W13 (p0_1 p0_2 p0_3 : Int) (p0_4 p0_5 p0_6 : Sl) (h : Heap) (R : Value → Heap → Prop) : Prop :=
 (∀ h7 : Heap, h7 = h.push (.cells ⟨[.int .i64 p0_1, .int .i64 p0_2, .int .i64 p0_3, .slice p0_4.a p0_4.n p0_4.c, .slice p0_5.a p0_5.n p0_5.c, .slice p0_6.a p0_6.n p0_6.c]⟩ 26) →
 (∃ x8 : Int, hc h7 ⟨h.size, 1, none⟩ = some (.int .i64 x8) ∧
 (sB (decide (x8 ≤ 40))
 ((∃ x9 : Sl, hc h7 ⟨h.size, 3, none⟩ = some (.slice x9.a x9.n x9.c) ∧
 (sB (decide ((x9.n : Int) ≤ 45))
 ((∃ x10 : Sl, hc h7 ⟨h.size, 4, none⟩ = some (.slice x10.a x10.n x10.c) ∧
 (sB (decide ((x10.n : Int) ≤ 80))
 ((∃ x11 : Sl, hc h7 ⟨h.size, 5, none⟩ = some (.slice x11.a x11.n x11.c) ∧
 R (.bool (decide ((x11.n : Int) ≤ 45))) h7))
 (R (.bool false) h7))))
 (R (.bool false) h7))))
 (R (.bool false) h7))))
theorem vc13 (p0_1 p0_2 p0_3 : Int) (p0_4 p0_5 p0_6 : Sl) (h : Heap) (R : Value → Heap → Prop) (H : W13 p0_1 p0_2 p0_3 p0_4 p0_5 p0_6 h R) : Fn Tryz.prog 13 #[.agg ⟨[.int .i64 p0_1, .int .i64 p0_2, .int .i64 p0_3, .slice p0_4.a p0_4.n p0_4.c, .slice p0_5.a p0_5.n p0_5.c, .slice p0_6.a p0_6.n p0_6.c]⟩] h R := fnI (A := .z) (by kernel_rfl) H

def W18 (p0_1 p0_2 p0_3 : Int) (p0_4 p0_5 p0_6 : Sl) (h : Heap) (R : Value → Heap → Prop) : Prop :=
 (∀ h7 : Heap, h7 = h.push (.cells ⟨[.int .i64 p0_1, .int .i64 p0_2, .int .i64 p0_3, .slice p0_4.a p0_4.n p0_4.c, .slice p0_5.a p0_5.n p0_5.c, .slice p0_6.a p0_6.n p0_6.c]⟩ 26) →
 (∃ (x8 x9 x10 : Int) (x11 x12 x13 : Sl), atC h7 ⟨h.size, 0, none⟩ [.int .i64 x8, .int .i64 x9, .int .i64 x10, .slice x11.a x11.n x11.c, .slice x12.a x12.n x12.c, .slice x13.a x13.n x13.c] ∧
 (Fn Tryz.prog 13 #[.agg ⟨[.int .i64 x8, .int .i64 x9, .int .i64 x10, .slice x11.a x11.n x11.c, .slice x12.a x12.n x12.c, .slice x13.a x13.n x13.c]⟩] h7
 (fun v14 h16 => ∃ x15 : Bool, v14 = .bool x15 ∧
 (sB x15
 ((∃ (x17 x18 x19 : Int) (x20 x21 x22 : Sl), atC h16 ⟨h.size, 0, none⟩ [.int .i64 x17, .int .i64 x18, .int .i64 x19, .slice x20.a x20.n x20.c, .slice x21.a x21.n x21.c, .slice x22.a x22.n x22.c] ∧
 (Fn Tryz.prog 24 #[.agg ⟨[.int .i64 x17, .int .i64 x18, .int .i64 x19, .slice x20.a x20.n x20.c, .slice x21.a x21.n x21.c, .slice x22.a x22.n x22.c]⟩] h16
 (fun v23 h25 => ∃ x24 : Bool, v23 = .bool x24 ∧
 R (.bool x24) h25))))
 (R (.bool false) h16))))))
theorem vc18 (p0_1 p0_2 p0_3 : Int) (p0_4 p0_5 p0_6 : Sl) (h : Heap) (R : Value → Heap → Prop) (H : W18 p0_1 p0_2 p0_3 p0_4 p0_5 p0_6 h R) : Fn Tryz.prog 18 #[.agg ⟨[.int .i64 p0_1, .int .i64 p0_2, .int .i64 p0_3, .slice p0_4.a p0_4.n p0_4.c, .slice p0_5.a p0_5.n p0_5.c, .slice p0_6.a p0_6.n p0_6.c]⟩] h R := fnI (A := .z) (by kernel_rfl) H

def W12  (h : Heap) (R : Value → Heap → Prop) : Prop :=
 (Fn Tryz.prog 46 #[.bool true] h
 (fun v1 h10 => ∃ (x2 : ByteArray) (x3 x4 : Sl) (x5 x6 x7 : Int) (x8 x9 : Sl), v1 = .agg ⟨[.string x2, .slice x3.a x3.n x3.c, .slice x4.a x4.n x4.c, .int .i64 x5, .int .i64 x6, .int .i64 x7, .slice x8.a x8.n x8.c, .slice x9.a x9.n x9.c]⟩ ∧
 (Fn Tryz.prog 35 #[.agg ⟨[.string x2, .slice x3.a x3.n x3.c, .slice x4.a x4.n x4.c, .int .i64 x5, .int .i64 x6, .int .i64 x7, .slice x8.a x8.n x8.c, .slice x9.a x9.n x9.c]⟩, .int .i64 2] h10
 (fun v11 h19 => ∃ (x12 x13 x14 : Int) (x15 x16 x17 : Sl) (x18 : Int), v11 = .tuple ⟨[.agg ⟨[.int .i64 x12, .int .i64 x13, .int .i64 x14, .slice x15.a x15.n x15.c, .slice x16.a x16.n x16.c, .slice x17.a x17.n x17.c]⟩, .int .i64 x18]⟩ ∧
 (∀ h20 : Heap, h20 = h19.push (.cells ⟨[.int .i64 0, .int .i64 0, .int .i64 0, .slice none 0 0, .slice none 0 0, .slice none 0 0]⟩ 26) →
 (okAt h20 ⟨h19.size, 0, none⟩ 6 ∧ ∀ h21 : Heap, h21 = hputs h20 ⟨h19.size, 0, none⟩ 0 [.int .i64 x12, .int .i64 x13, .int .i64 x14, .slice x15.a x15.n x15.c, .slice x16.a x16.n x16.c, .slice x17.a x17.n x17.c] →
 (∀ h22 : Heap, h22 = h21.push (.cells ⟨[.int .i64 0, .bool false, .int .i64 0, .int .i64 0, .slice none 0 0]⟩ 37) →
 (∀ h23 : Heap, h23 = h22.push (.cells ⟨[.int .i64 0, .bool false, .int .i64 0, .int .i64 0, .slice none 0 0]⟩ 37) →
 (okAt h23 ⟨h21.size, 0, none⟩ 5 ∧ ∀ h24 : Heap, h24 = hputs h23 ⟨h21.size, 0, none⟩ 0 [.int .i64 2, .bool false, .int .i64 1, .int .i64 0, .slice none 0 0] →
 (okAt h24 ⟨h22.size, 0, none⟩ 5 ∧ ∀ h25 : Heap, h25 = hputs h24 ⟨h22.size, 0, none⟩ 0 [.int .i64 2, .bool true, .int .i64 1, .int .i64 2, .slice none 0 0] →
 (∃ (x26 x27 x28 : Int) (x29 x30 x31 : Sl), atC h25 ⟨h19.size, 0, none⟩ [.int .i64 x26, .int .i64 x27, .int .i64 x28, .slice x29.a x29.n x29.c, .slice x30.a x30.n x30.c, .slice x31.a x31.n x31.c] ∧
 (∃ (x32 : Int) (x33 : Bool) (x34 x35 : Int) (x36 : Sl), atC h25 ⟨h21.size, 0, none⟩ [.int .i64 x32, .bool x33, .int .i64 x34, .int .i64 x35, .slice x36.a x36.n x36.c] ∧
 (∃ (x37 : Int) (x38 : Bool) (x39 x40 : Int) (x41 : Sl), atC h25 ⟨h22.size, 0, none⟩ [.int .i64 x37, .bool x38, .int .i64 x39, .int .i64 x40, .slice x41.a x41.n x41.c] ∧
 (∀ h42 : Heap, h42 = h25.push (.cells ⟨[.int .i64 x32, .bool x33, .int .i64 x34, .int .i64 x35, .slice x36.a x36.n x36.c, .int .i64 x37, .bool x38, .int .i64 x39, .int .i64 x40, .slice x41.a x41.n x41.c]⟩ 37) →
 (Fn Tryz.prog 14 #[.agg ⟨[.int .i64 x26, .int .i64 x27, .int .i64 x28, .slice x29.a x29.n x29.c, .slice x30.a x30.n x30.c, .slice x31.a x31.n x31.c]⟩, .slice (some ⟨h25.size, 0, none⟩) 2 2] h42
 (fun v43 h47 => ∃ (x44 x45 x46 : Int), v43 = .tuple ⟨[.int .i64 x44, .int .i64 x45, .int .i64 x46]⟩ ∧
 (okAt h47 ⟨h21.size, 3, none⟩ 1 ∧ ∀ h48 : Heap, h48 = hputs h47 ⟨h21.size, 3, none⟩ 0 [.int .i64 1] →
 (∃ (x49 x50 x51 : Int) (x52 x53 x54 : Sl), atC h48 ⟨h19.size, 0, none⟩ [.int .i64 x49, .int .i64 x50, .int .i64 x51, .slice x52.a x52.n x52.c, .slice x53.a x53.n x53.c, .slice x54.a x54.n x54.c] ∧
 (∃ (x55 : Int) (x56 : Bool) (x57 x58 : Int) (x59 : Sl), atC h48 ⟨h21.size, 0, none⟩ [.int .i64 x55, .bool x56, .int .i64 x57, .int .i64 x58, .slice x59.a x59.n x59.c] ∧
 (∃ (x60 : Int) (x61 : Bool) (x62 x63 : Int) (x64 : Sl), atC h48 ⟨h22.size, 0, none⟩ [.int .i64 x60, .bool x61, .int .i64 x62, .int .i64 x63, .slice x64.a x64.n x64.c] ∧
 (∀ h65 : Heap, h65 = h48.push (.cells ⟨[.int .i64 x55, .bool x56, .int .i64 x57, .int .i64 x58, .slice x59.a x59.n x59.c, .int .i64 x60, .bool x61, .int .i64 x62, .int .i64 x63, .slice x64.a x64.n x64.c]⟩ 37) →
 (Fn Tryz.prog 14 #[.agg ⟨[.int .i64 x49, .int .i64 x50, .int .i64 x51, .slice x52.a x52.n x52.c, .slice x53.a x53.n x53.c, .slice x54.a x54.n x54.c]⟩, .slice (some ⟨h48.size, 0, none⟩) 2 2] h65
 (fun v66 h70 => ∃ (x67 x68 x69 : Int), v66 = .tuple ⟨[.int .i64 x67, .int .i64 x68, .int .i64 x69]⟩ ∧
 (sB (x18 == 0)
 ((sB (x46 == 0)
 ((sB (x45 == 2)
 ((sB (x69 == 23)
 ((sB (x68 == 1)
 ((∃ (x71 x72 x73 : Int) (x74 x75 x76 : Sl), atC h70 ⟨h19.size, 0, none⟩ [.int .i64 x71, .int .i64 x72, .int .i64 x73, .slice x74.a x74.n x74.c, .slice x75.a x75.n x75.c, .slice x76.a x76.n x76.c] ∧
 (Fn Tryz.prog 23 #[.agg ⟨[.int .i64 x71, .int .i64 x72, .int .i64 x73, .slice x74.a x74.n x74.c, .slice x75.a x75.n x75.c, .slice x76.a x76.n x76.c]⟩] h70
 (fun v77 h79 => ∃ x78 : Bool, v77 = .bool x78 ∧
 R (.bool x78) h79))))
 (R (.bool false) h70)))
 (R (.bool false) h70)))
 (R (.bool false) h70)))
 (R (.bool false) h70)))
 (R (.bool false) h70)))))))))))))))))))))))))
theorem vc12e  (h : Heap) (R : Value → Heap → Prop) : W12  h R = fnW Tryz.prog 12 .z #[] h R := by kernel_rfl
theorem vc12  (h : Heap) (R : Value → Heap → Prop) (H : W12  h R) : Fn Tryz.prog 12 #[] h R := fnI (vc12e  h R) H

/- farandole/farandolelaw26.MachineSteps
 loop rrrrlrb: s_24:Int, x_25:Int -/
end Go.VC
end

section
namespace Go.VC
open Go.Proofs
set_option maxRecDepth 100000
set_option linter.unusedVariables false

def W63 (p0_1 : Int) (p0_2 : Bool) (p0_3 p0_4 p0_5 : Int) (p0_6 : Bool) (h : Heap) (R : Value → Heap → Prop) : Prop :=
 (∀ h7 : Heap, h7 = h.push (.cells ⟨[.int .i64 p0_1, .bool p0_2, .int .i64 p0_3, .int .i64 p0_4, .int .i64 p0_5, .bool p0_6]⟩ 81) →
 (∀ h8 : Heap, h8 = h7.push (.cells ⟨[.bool false, .int .i64 0, .int .i64 0]⟩ 79) →
 (∃ x9 : Bool, hc h8 ⟨h.size, 1, none⟩ = some (.bool x9) ∧
 (∃ x10 : Int, hc h8 ⟨h.size, 2, none⟩ = some (.int .i64 x10) ∧
 (∃ x11 : Int, hc h8 ⟨h.size, 3, none⟩ = some (.int .i64 x11) ∧
 (okAt h8 ⟨h7.size, 0, none⟩ 3 ∧ ∀ h12 : Heap, h12 = hputs h8 ⟨h7.size, 0, none⟩ 0 [.bool x9, .int .i64 x10, .int .i64 x11] →
 (∃ (x13 : Bool) (x14 x15 : Int), atC h12 ⟨h7.size, 0, none⟩ [.bool x13, .int .i64 x14, .int .i64 x15] ∧
 R (.agg ⟨[.bool x13, .int .i64 x14, .int .i64 x15]⟩) h12)))))))
theorem vc63 (p0_1 : Int) (p0_2 : Bool) (p0_3 p0_4 p0_5 : Int) (p0_6 : Bool) (h : Heap) (R : Value → Heap → Prop) (H : W63 p0_1 p0_2 p0_3 p0_4 p0_5 p0_6 h R) : Fn Tryz.prog 63 #[.agg ⟨[.int .i64 p0_1, .bool p0_2, .int .i64 p0_3, .int .i64 p0_4, .int .i64 p0_5, .bool p0_6]⟩] h R := fnI (A := .z) (by kernel_rfl) H

def W104 (p0_1 : Bool) (p0_2 p0_3 : Int) (p1_4 : Bool) (p1_5 p1_6 : Int) (h : Heap) (R : Value → Heap → Prop) : Prop :=
 (∀ h7 : Heap, h7 = h.push (.cells ⟨[.bool p0_1, .int .i64 p0_2, .int .i64 p0_3]⟩ 79) →
 (∀ h8 : Heap, h8 = h7.push (.cells ⟨[.bool p1_4, .int .i64 p1_5, .int .i64 p1_6]⟩ 79) →
 (∃ x9 : Bool, hc h8 ⟨h.size, 0, none⟩ = some (.bool x9) ∧
 (∃ x10 : Bool, hc h8 ⟨h7.size, 0, none⟩ = some (.bool x10) ∧
 (sB (!(x9 == x10))
 ((∃ x11 : Bool, hc h8 ⟨h.size, 0, none⟩ = some (.bool x11) ∧
 (sB x11
 (R (.int .i64 (-1)) h8)
 (R (.int .i64 1) h8))))
 ((∃ x12 : Int, hc h8 ⟨h.size, 1, none⟩ = some (.int .i64 x12) ∧
 (∃ x13 : Int, hc h8 ⟨h7.size, 1, none⟩ = some (.int .i64 x13) ∧
 (∃ x14 : Int, hc h8 ⟨h.size, 2, none⟩ = some (.int .i64 x14) ∧
 (∃ x15 : Int, hc h8 ⟨h7.size, 2, none⟩ = some (.int .i64 x15) ∧
 (Fn Tryz.prog 155 #[.int .i64 x12, .int .i64 x13] h8
 (fun v16 h18 => ∃ x17 : Int, v16 = .int .i64 x17 ∧
 (Sm [⟨h7.size, 2, none⟩, ⟨h.size, 2, none⟩] h8 h18 ∧
 (Fn Tryz.prog 155 #[.int .i64 x14, .int .i64 x15] h18
 (fun v19 h21 => ∃ x20 : Int, v19 = .int .i64 x20 ∧
 (Sm [⟨h7.size, 1, none⟩, ⟨h.size, 1, none⟩] h18 h21 ∧
 (∀ h22 : Heap, h22 = h21.push (.cells ⟨[.int .i64 x17, .int .i64 x20]⟩ 3) →
 (Fn Tryz.prog 154 #[.slice (some ⟨h21.size, 0, none⟩) 2 2] h22
 (fun v23 h25 => ∃ x24 : Int, v23 = .int .i64 x24 ∧
 R (.int .i64 x24) h25)))))))))))))))))))
theorem vc104 (p0_1 : Bool) (p0_2 p0_3 : Int) (p1_4 : Bool) (p1_5 p1_6 : Int) (h : Heap) (R : Value → Heap → Prop) (H : W104 p0_1 p0_2 p0_3 p1_4 p1_5 p1_6 h R) : Fn Tryz.prog 104 #[.agg ⟨[.bool p0_1, .int .i64 p0_2, .int .i64 p0_3]⟩, .agg ⟨[.bool p1_4, .int .i64 p1_5, .int .i64 p1_6]⟩] h R := fnI (A := .z) (by kernel_rfl) H

def W151 (p0_1 p0_2 p0_3 : Int) (p0_4 p0_5 p0_6 : Sl) (p1 : Int) (h : Heap) (R : Value → Heap → Prop) : Prop :=
 (∀ h7 : Heap, h7 = h.push (.cells ⟨[.int .i64 p0_1, .int .i64 p0_2, .int .i64 p0_3, .slice p0_4.a p0_4.n p0_4.c, .slice p0_5.a p0_5.n p0_5.c, .slice p0_6.a p0_6.n p0_6.c]⟩ 26) →
 (sB (decide (p1 ≥ 0))
 ((∃ x8 : Int, hc h7 ⟨h.size, 1, none⟩ = some (.int .i64 x8) ∧
 R (.bool (decide (p1 < x8))) h7))
 (R (.bool false) h7)))
theorem vc151 (p0_1 p0_2 p0_3 : Int) (p0_4 p0_5 p0_6 : Sl) (p1 : Int) (h : Heap) (R : Value → Heap → Prop) (H : W151 p0_1 p0_2 p0_3 p0_4 p0_5 p0_6 p1 h R) : Fn Tryz.prog 151 #[.agg ⟨[.int .i64 p0_1, .int .i64 p0_2, .int .i64 p0_3, .slice p0_4.a p0_4.n p0_4.c, .slice p0_5.a p0_5.n p0_5.c, .slice p0_6.a p0_6.n p0_6.c]⟩, .int .i64 p1] h R := fnI (A := .z) (by kernel_rfl) H

/- farandole/machine.numbers
 loop rrlrb: x_29:Int -/
def W96 (p0_1 p0_2 p0_3 : Int) (p0_4 p0_5 p0_6 : Sl) (h : Heap) (R : Value → Heap → Prop) : Prop :=
 (∀ h7 : Heap, h7 = h.push (.cells ⟨[.int .i64 p0_1, .int .i64 p0_2, .int .i64 p0_3, .slice p0_4.a p0_4.n p0_4.c, .slice p0_5.a p0_5.n p0_5.c, .slice p0_6.a p0_6.n p0_6.c]⟩ 26) →
 (∃ x8 : Int, hc h7 ⟨h.size, 0, none⟩ = some (.int .i64 x8) ∧
 (sB (decide (x8 < 0))
 (R (.bool false) h7)
 ((∃ x9 : Int, hc h7 ⟨h.size, 0, none⟩ = some (.int .i64 x9) ∧
 (sB (decide (x9 ≥ 6))
 (R (.bool false) h7)
 ((∃ x10 : Int, hc h7 ⟨h.size, 1, none⟩ = some (.int .i64 x10) ∧
 (sB (decide (x10 < 1))
 (R (.bool false) h7)
 ((∃ x11 : Int, hc h7 ⟨h.size, 1, none⟩ = some (.int .i64 x11) ∧
 (sB (decide (x11 > 200))
 (R (.bool false) h7)
 ((∃ (x12 x13 x14 : Int) (x15 x16 x17 : Sl), atC h7 ⟨h.size, 0, none⟩ [.int .i64 x12, .int .i64 x13, .int .i64 x14, .slice x15.a x15.n x15.c, .slice x16.a x16.n x16.c, .slice x17.a x17.n x17.c] ∧
 (∃ x18 : Int, hc h7 ⟨h.size, 2, none⟩ = some (.int .i64 x18) ∧
 (Fn Tryz.prog 151 #[.agg ⟨[.int .i64 x12, .int .i64 x13, .int .i64 x14, .slice x15.a x15.n x15.c, .slice x16.a x16.n x16.c, .slice x17.a x17.n x17.c]⟩, .int .i64 x18] h7
 (fun v19 h21 => ∃ x20 : Bool, v19 = .bool x20 ∧
 (sB (!x20)
 (R (.bool false) h21)
 ((∃ x22 : Sl, hc h21 ⟨h.size, 3, none⟩ = some (.slice x22.a x22.n x22.c) ∧
 (∃ x23 : Int, hc h21 ⟨h.size, 1, none⟩ = some (.int .i64 x23) ∧
 (sB ((x22.n : Int) != x23)
 (R (.bool false) h21)
 ((∃ x24 : Sl, hc h21 ⟨h.size, 4, none⟩ = some (.slice x24.a x24.n x24.c) ∧
 (sB (decide ((x24.n : Int) > 400))
 (R (.bool false) h21)
 ((∃ x25 : Sl, hc h21 ⟨h.size, 4, none⟩ = some (.slice x25.a x25.n x25.c) ∧
 (∃ I26 : Int → Heap → Nat → Prop, (∃ m27, I26 0 h21 m27) ∧
 (∀ (_ : Env) (x_29 : Int) (h30 : Heap) (m28 : Nat), I26 x_29 h30 m28 →
 (sB (decide (x_29 < (x25.n : Int)))
 ((NB x25.a fun b31 o32 => ((0 ≤ (x_29 : Int) ∧ (x_29 : Int) < (x25.n : Nat)) ∧
 (∃ (x33 : Int) (x34 : Bool) (x35 x36 x37 : Int) (x38 : Bool), atC h30 ⟨b31, o32 + Int.toNat x_29 * 6, none⟩ [.int .i64 x33, .bool x34, .int .i64 x35, .int .i64 x36, .int .i64 x37, .bool x38] ∧
 (∀ h39 : Heap, h39 = h30.push (.cells ⟨[.int .i64 0, .bool false, .int .i64 0, .int .i64 0, .int .i64 0, .bool false]⟩ 81) →
 (okAt h39 ⟨h30.size, 0, none⟩ 6 ∧ ∀ h40 : Heap, h40 = hputs h39 ⟨h30.size, 0, none⟩ 0 [.int .i64 x33, .bool x34, .int .i64 x35, .int .i64 x36, .int .i64 x37, .bool x38] →
 (∃ (x41 x42 x43 : Int) (x44 x45 x46 : Sl), atC h40 ⟨h.size, 0, none⟩ [.int .i64 x41, .int .i64 x42, .int .i64 x43, .slice x44.a x44.n x44.c, .slice x45.a x45.n x45.c, .slice x46.a x46.n x46.c] ∧
 (∃ x47 : Int, hc h40 ⟨h30.size, 0, none⟩ = some (.int .i64 x47) ∧
 (Fn Tryz.prog 151 #[.agg ⟨[.int .i64 x41, .int .i64 x42, .int .i64 x43, .slice x44.a x44.n x44.c, .slice x45.a x45.n x45.c, .slice x46.a x46.n x46.c]⟩, .int .i64 x47] h40
 (fun v48 h50 => ∃ x49 : Bool, v48 = .bool x49 ∧
 (sB (!x49)
 (R (.bool false) h50)
 ((∃ (x51 x52 x53 : Int) (x54 x55 x56 : Sl), atC h50 ⟨h.size, 0, none⟩ [.int .i64 x51, .int .i64 x52, .int .i64 x53, .slice x54.a x54.n x54.c, .slice x55.a x55.n x55.c, .slice x56.a x56.n x56.c] ∧
 (∃ x57 : Int, hc h50 ⟨h30.size, 4, none⟩ = some (.int .i64 x57) ∧
 (Fn Tryz.prog 151 #[.agg ⟨[.int .i64 x51, .int .i64 x52, .int .i64 x53, .slice x54.a x54.n x54.c, .slice x55.a x55.n x55.c, .slice x56.a x56.n x56.c]⟩, .int .i64 x57] h50
 (fun v58 h60 => ∃ x59 : Bool, v58 = .bool x59 ∧
 (sB (!x59)
 (R (.bool false) h60)
 ((∃ x61 : Int, hc h60 ⟨h30.size, 2, none⟩ = some (.int .i64 x61) ∧
 (sB (decide (x61 < 0))
 (R (.bool false) h60)
 ((∃ x62 : Int, hc h60 ⟨h30.size, 2, none⟩ = some (.int .i64 x62) ∧
 (sB (decide (x62 ≥ 6))
 (R (.bool false) h60)
 ((∃ x63 : Int, hc h60 ⟨h30.size, 2, none⟩ = some (.int .i64 x63) ∧
 (∃ x64 : Int, hc h60 ⟨h.size, 0, none⟩ = some (.int .i64 x64) ∧
 (sB (x63 == x64)
 (R (.bool false) h60)
 ((∃ x65 : Int, hc h60 ⟨h30.size, 3, none⟩ = some (.int .i64 x65) ∧
 (sB (decide (x65 < 0))
 (R (.bool false) h60)
 ((∃ x66 : Int, hc h60 ⟨h30.size, 3, none⟩ = some (.int .i64 x66) ∧
 (sB (decide (x66 ≥ 40))
 (R (.bool false) h60)
 ((∃ m67, m67 < m28 ∧ I26 (IntKind.wrap .i64 (x_29 + 1)) h60 m67)))))))))))))))))))))))))))))))))))
 (R (.bool true) h30)))))))))))))))))))))))))))))))
theorem vc96 (p0_1 p0_2 p0_3 : Int) (p0_4 p0_5 p0_6 : Sl) (h : Heap) (R : Value → Heap → Prop) (H : W96 p0_1 p0_2 p0_3 p0_4 p0_5 p0_6 h R) : Fn Tryz.prog 96 #[.agg ⟨[.int .i64 p0_1, .int .i64 p0_2, .int .i64 p0_3, .slice p0_4.a p0_4.n p0_4.c, .slice p0_5.a p0_5.n p0_5.c, .slice p0_6.a p0_6.n p0_6.c]⟩] h R := fnI (A := (.s .z (.s .z (.s (.s .z (.b (.l [(47, .one (.int .i64))] .z))) .z)))) (by kernel_rfl) H

/- farandole/machine.sorted
 loop rrrlrb: x_51:Int
 loop rrlrb: x_21:Int -/
def W97 (p0_1 p0_2 p0_3 : Int) (p0_4 p0_5 p0_6 : Sl) (h : Heap) (R : Value → Heap → Prop) : Prop :=
 (∀ h7 : Heap, h7 = h.push (.cells ⟨[.int .i64 p0_1, .int .i64 p0_2, .int .i64 p0_3, .slice p0_4.a p0_4.n p0_4.c, .slice p0_5.a p0_5.n p0_5.c, .slice p0_6.a p0_6.n p0_6.c]⟩ 26) →
 (∃ (x8 x9 x10 : Int) (x11 x12 x13 : Sl), atC h7 ⟨h.size, 0, none⟩ [.int .i64 x8, .int .i64 x9, .int .i64 x10, .slice x11.a x11.n x11.c, .slice x12.a x12.n x12.c, .slice x13.a x13.n x13.c] ∧
 (∃ x14 : Int, hc h7 ⟨h.size, 1, none⟩ = some (.int .i64 x14) ∧
 (((0 : Int) ≤ x14 ∧ (x14 : Int) ≤ x14 ∧ ((24 : Nat) : Int) * x14 ≤ 140737488355328) ∧ ∀ h15 : Heap, h15 = h7.push (.cells ⟨madeL Tryz.prog 49 (Int.toNat x14)⟩ 49) →
 (Sm [⟨h.size, 0, none⟩] h7 h15 ∧
 (∀ h16 : Heap, h16 = h15.push (.cells ⟨[.int .i64 x8, .int .i64 x9, .int .i64 x10, .slice x11.a x11.n x11.c, .slice x12.a x12.n x12.c, .slice x13.a x13.n x13.c, .slice (some ⟨h7.size, 0, none⟩) (Int.toNat x14) (Int.toNat x14)]⟩ 93) →
 (∃ x17 : Sl, hc h16 ⟨h.size, 4, none⟩ = some (.slice x17.a x17.n x17.c) ∧
 (∃ I18 : Int → Heap → Nat → Prop, (∃ m19, I18 0 h16 m19) ∧
 (∀ (_ : Env) (x_21 : Int) (h22 : Heap) (m20 : Nat), I18 x_21 h22 m20 →
 (sB (decide (x_21 < (x17.n : Int)))
 ((NB x17.a fun b23 o24 => ((0 ≤ (x_21 : Int) ∧ (x_21 : Int) < (x17.n : Nat)) ∧
 (∃ (x25 : Int) (x26 : Bool) (x27 x28 x29 : Int) (x30 : Bool), atC h22 ⟨b23, o24 + Int.toNat x_21 * 6, none⟩ [.int .i64 x25, .bool x26, .int .i64 x27, .int .i64 x28, .int .i64 x29, .bool x30] ∧
 (∀ h31 : Heap, h31 = h22.push (.cells ⟨[.int .i64 0, .bool false, .int .i64 0, .int .i64 0, .int .i64 0, .bool false]⟩ 81) →
 (okAt h31 ⟨h22.size, 0, none⟩ 6 ∧ ∀ h32 : Heap, h32 = hputs h31 ⟨h22.size, 0, none⟩ 0 [.int .i64 x25, .bool x26, .int .i64 x27, .int .i64 x28, .int .i64 x29, .bool x30] →
 (∃ x33 : Sl, hc h32 ⟨h15.size, 6, none⟩ = some (.slice x33.a x33.n x33.c) ∧
 (∃ x34 : Int, hc h32 ⟨h22.size, 0, none⟩ = some (.int .i64 x34) ∧
 (∃ x35 : Sl, hc h32 ⟨h15.size, 6, none⟩ = some (.slice x35.a x35.n x35.c) ∧
 (∃ x36 : Int, hc h32 ⟨h22.size, 0, none⟩ = some (.int .i64 x36) ∧
 (NB x35.a fun b37 o38 => ((0 ≤ (x36 : Int) ∧ (x36 : Int) < (x35.n : Nat)) ∧
 (∃ x39 : Sl, hc h32 ⟨b37, o38 + Int.toNat x36 * 1, none⟩ = some (.slice x39.a x39.n x39.c) ∧
 (∀ h40 : Heap, h40 = h32.push (.cells ⟨[.int .i64 x_21]⟩ 3) →
 (Sm [⟨b37, o38 + Int.toNat x36 * 1, none⟩, ⟨h22.size, 0, none⟩, ⟨h15.size, 6, none⟩, ⟨h22.size, 0, none⟩, ⟨h15.size, 6, none⟩] h32 h40 ∧
 (App Tryz.prog 49 49 (.slice x39.a x39.n x39.c) (.slice (some ⟨h32.size, 0, none⟩) 1 1) h40 fun s41 h42 =>
 (Sm [⟨h22.size, 0, none⟩, ⟨h15.size, 6, none⟩] h40 h42 ∧
 (NB x33.a fun b43 o44 => ((0 ≤ (x34 : Int) ∧ (x34 : Int) < (x33.n : Nat)) ∧
 (okAt h42 ⟨b43, o44 + Int.toNat x34 * 1, none⟩ 1 ∧ ∀ h45 : Heap, h45 = hputs h42 ⟨b43, o44 + Int.toNat x34 * 1, none⟩ 0 [.slice s41.a s41.n s41.c] →
 (∃ m46, m46 < m20 ∧ I18 (IntKind.wrap .i64 (x_21 + 1)) h45 m46)))))))))))))))))))))
 ((∃ x47 : Sl, hc h22 ⟨h15.size, 6, none⟩ = some (.slice x47.a x47.n x47.c) ∧
 (∃ I48 : Int → Heap → Nat → Prop, (∃ m49, I48 0 h22 m49) ∧
 (∀ (_ : Env) (x_51 : Int) (h52 : Heap) (m50 : Nat), I48 x_51 h52 m50 →
 (sB (decide (x_51 < (x47.n : Int)))
 ((NB x47.a fun b53 o54 => ((0 ≤ (x_51 : Int) ∧ (x_51 : Int) < (x47.n : Nat)) ∧
 (∃ x55 : Sl, hc h52 ⟨b53, o54 + Int.toNat x_51 * 1, none⟩ = some (.slice x55.a x55.n x55.c) ∧
 (Fn Tryz.prog 152 #[.slice x55.a x55.n x55.c, .func (.func 153) #[] #[.pointer (some ⟨h.size, 0, none⟩)]] h52
 (fun v56 h57 => v56 = .tuple ⟨[]⟩ ∧
 (∃ m58, m58 < m50 ∧ I48 (IntKind.wrap .i64 (x_51 + 1)) h57 m58)))))))
 (R (.pointer (some ⟨h15.size, 0, none⟩)) h52))))))))))))))))
theorem vc97 (p0_1 p0_2 p0_3 : Int) (p0_4 p0_5 p0_6 : Sl) (h : Heap) (R : Value → Heap → Prop) (H : W97 p0_1 p0_2 p0_3 p0_4 p0_5 p0_6 h R) : Fn Tryz.prog 97 #[.agg ⟨[.int .i64 p0_1, .int .i64 p0_2, .int .i64 p0_3, .slice p0_4.a p0_4.n p0_4.c, .slice p0_5.a p0_5.n p0_5.c, .slice p0_6.a p0_6.n p0_6.c]⟩] h R := fnI (A := (.s .z (.s .z (.s (.s .z (.b (.l [(17, .one (.int .i64))] .z))) (.s (.s .z (.b (.l [(46, .one (.int .i64))] .z))) .z))))) (by kernel_rfl) H

def W153 (p0 p1 : Int) (c0 : Addr) (h : Heap) (R : Value → Heap → Prop) : Prop :=
 (∃ x1 : Sl, hc h ⟨c0.block, c0.off + 4, none⟩ = some (.slice x1.a x1.n x1.c) ∧
 (NB x1.a fun b2 o3 => ((0 ≤ (p0 : Int) ∧ (p0 : Int) < (x1.n : Nat)) ∧
 (∃ (x4 : Int) (x5 : Bool) (x6 x7 x8 : Int) (x9 : Bool), atC h ⟨b2, o3 + Int.toNat p0 * 6, none⟩ [.int .i64 x4, .bool x5, .int .i64 x6, .int .i64 x7, .int .i64 x8, .bool x9] ∧
 (∃ x10 : Sl, hc h ⟨c0.block, c0.off + 4, none⟩ = some (.slice x10.a x10.n x10.c) ∧
 (NB x10.a fun b11 o12 => ((0 ≤ (p1 : Int) ∧ (p1 : Int) < (x10.n : Nat)) ∧
 (∃ (x13 : Int) (x14 : Bool) (x15 x16 x17 : Int) (x18 : Bool), atC h ⟨b11, o12 + Int.toNat p1 * 6, none⟩ [.int .i64 x13, .bool x14, .int .i64 x15, .int .i64 x16, .int .i64 x17, .bool x18] ∧
 (Fn Tryz.prog 63 #[.agg ⟨[.int .i64 x4, .bool x5, .int .i64 x6, .int .i64 x7, .int .i64 x8, .bool x9]⟩] h
 (fun v19 h23 => ∃ (x20 : Bool) (x21 x22 : Int), v19 = .agg ⟨[.bool x20, .int .i64 x21, .int .i64 x22]⟩ ∧
 (Sm [⟨b11, o12 + Int.toNat p1 * 6, none⟩, ⟨c0.block, c0.off + 4, none⟩] h h23 ∧
 (Fn Tryz.prog 63 #[.agg ⟨[.int .i64 x13, .bool x14, .int .i64 x15, .int .i64 x16, .int .i64 x17, .bool x18]⟩] h23
 (fun v24 h28 => ∃ (x25 : Bool) (x26 x27 : Int), v24 = .agg ⟨[.bool x25, .int .i64 x26, .int .i64 x27]⟩ ∧
 (Sm [⟨b2, o3 + Int.toNat p0 * 6, none⟩, ⟨c0.block, c0.off + 4, none⟩] h23 h28 ∧
 (Fn Tryz.prog 104 #[.agg ⟨[.bool x20, .int .i64 x21, .int .i64 x22]⟩, .agg ⟨[.bool x25, .int .i64 x26, .int .i64 x27]⟩] h28
 (fun v29 h31 => ∃ x30 : Int, v29 = .int .i64 x30 ∧
 R (.int .i64 x30) h31))))))))))))))))
theorem vc153 (p0 p1 : Int) (c0 : Addr) (h : Heap) (R : Value → Heap → Prop) (H : W153 p0 p1 c0 h R) : Fn Tryz.prog 153 #[.int .i64 p0, .int .i64 p1, .pointer (some c0)] h R := fnI (A := .z) (by kernel_rfl) H

/- (*farandole/machine.table).deterministic
 loop rlrborrlbrrb: i_13:Int
 loop rlrb: x_5:Int -/
def W98 (p0 : Addr) (h : Heap) (R : Value → Heap → Prop) : Prop :=
 (∃ x1 : Sl, hc h ⟨p0.block, p0.off + 6, none⟩ = some (.slice x1.a x1.n x1.c) ∧
 (∃ I2 : Int → Heap → Nat → Prop, (∃ m3, I2 0 h m3) ∧
 (∀ (_ : Env) (x_5 : Int) (h6 : Heap) (m4 : Nat), I2 x_5 h6 m4 →
 (sB (decide (x_5 < (x1.n : Int)))
 ((NB x1.a fun b7 o8 => ((0 ≤ (x_5 : Int) ∧ (x_5 : Int) < (x1.n : Nat)) ∧
 (∃ x9 : Sl, hc h6 ⟨b7, o8 + Int.toNat x_5 * 1, none⟩ = some (.slice x9.a x9.n x9.c) ∧
 (∃ I10 : Int → Heap → Nat → Prop, (∃ m11, I10 1 h6 m11) ∧
 (∀ (_ : Env) (i_13 : Int) (h14 : Heap) (m12 : Nat), I10 i_13 h14 m12 →
 (sB (decide (i_13 < (x9.n : Int)))
 ((∃ x15 : Sl, hc h14 ⟨p0.block, p0.off + 4, none⟩ = some (.slice x15.a x15.n x15.c) ∧
 (NB x9.a fun b16 o17 => ((0 ≤ ((IntKind.wrap .i64 (i_13 - 1)) : Int) ∧ ((IntKind.wrap .i64 (i_13 - 1)) : Int) < (x9.n : Nat)) ∧
 (∃ x18 : Int, hc h14 ⟨b16, o17 + Int.toNat (IntKind.wrap .i64 (i_13 - 1)) * 1, none⟩ = some (.int .i64 x18) ∧
 (NB x15.a fun b19 o20 => ((0 ≤ (x18 : Int) ∧ (x18 : Int) < (x15.n : Nat)) ∧
 (∃ (x21 : Int) (x22 : Bool) (x23 x24 x25 : Int) (x26 : Bool), atC h14 ⟨b19, o20 + Int.toNat x18 * 6, none⟩ [.int .i64 x21, .bool x22, .int .i64 x23, .int .i64 x24, .int .i64 x25, .bool x26] ∧
 (∃ x27 : Sl, hc h14 ⟨p0.block, p0.off + 4, none⟩ = some (.slice x27.a x27.n x27.c) ∧
 (NB x9.a fun b28 o29 => ((0 ≤ (i_13 : Int) ∧ (i_13 : Int) < (x9.n : Nat)) ∧
 (∃ x30 : Int, hc h14 ⟨b28, o29 + Int.toNat i_13 * 1, none⟩ = some (.int .i64 x30) ∧
 (NB x27.a fun b31 o32 => ((0 ≤ (x30 : Int) ∧ (x30 : Int) < (x27.n : Nat)) ∧
 (∃ (x33 : Int) (x34 : Bool) (x35 x36 x37 : Int) (x38 : Bool), atC h14 ⟨b31, o32 + Int.toNat x30 * 6, none⟩ [.int .i64 x33, .bool x34, .int .i64 x35, .int .i64 x36, .int .i64 x37, .bool x38] ∧
 ((∀ h39 : Heap, h39 = h14.push (.cells ⟨[.int .i64 0, .bool false, .int .i64 0, .int .i64 0, .int .i64 0, .bool false]⟩ 81) →
 (Sm [⟨b31, o32 + Int.toNat x30 * 6, none⟩, ⟨b28, o29 + Int.toNat i_13 * 1, none⟩, ⟨p0.block, p0.off + 4, none⟩, ⟨b19, o20 + Int.toNat x18 * 6, none⟩, ⟨b16, o17 + Int.toNat (IntKind.wrap .i64 (i_13 - 1)) * 1, none⟩, ⟨p0.block, p0.off + 4, none⟩] h14 h39 ∧
 (∀ h40 : Heap, h40 = h39.push (.cells ⟨[.int .i64 0, .bool false, .int .i64 0, .int .i64 0, .int .i64 0, .bool false]⟩ 81) →
 (Sm [⟨b31, o32 + Int.toNat x30 * 6, none⟩, ⟨b28, o29 + Int.toNat i_13 * 1, none⟩, ⟨p0.block, p0.off + 4, none⟩, ⟨b19, o20 + Int.toNat x18 * 6, none⟩, ⟨b16, o17 + Int.toNat (IntKind.wrap .i64 (i_13 - 1)) * 1, none⟩, ⟨p0.block, p0.off + 4, none⟩] h39 h40 ∧
 (okAt h40 ⟨h14.size, 0, none⟩ 6 ∧ ∀ h41 : Heap, h41 = hputs h40 ⟨h14.size, 0, none⟩ 0 [.int .i64 x21, .bool x22, .int .i64 x23, .int .i64 x24, .int .i64 x25, .bool x26] →
 (Sm [⟨b31, o32 + Int.toNat x30 * 6, none⟩, ⟨b28, o29 + Int.toNat i_13 * 1, none⟩, ⟨p0.block, p0.off + 4, none⟩] h40 h41 ∧
 (okAt h41 ⟨h39.size, 0, none⟩ 6 ∧ ∀ h42 : Heap, h42 = hputs h41 ⟨h39.size, 0, none⟩ 0 [.int .i64 x33, .bool x34, .int .i64 x35, .int .i64 x36, .int .i64 x37, .bool x38] →
 (∃ (x43 : Int) (x44 : Bool) (x45 x46 x47 : Int) (x48 : Bool), atC h42 ⟨h14.size, 0, none⟩ [.int .i64 x43, .bool x44, .int .i64 x45, .int .i64 x46, .int .i64 x47, .bool x48] ∧
 (∃ (x49 : Int) (x50 : Bool) (x51 x52 x53 : Int) (x54 : Bool), atC h42 ⟨h39.size, 0, none⟩ [.int .i64 x49, .bool x50, .int .i64 x51, .int .i64 x52, .int .i64 x53, .bool x54] ∧
 (Fn Tryz.prog 63 #[.agg ⟨[.int .i64 x43, .bool x44, .int .i64 x45, .int .i64 x46, .int .i64 x47, .bool x48]⟩] h42
 (fun v55 h59 => ∃ (x56 : Bool) (x57 x58 : Int), v55 = .agg ⟨[.bool x56, .int .i64 x57, .int .i64 x58]⟩ ∧
 (Sm [⟨h39.size, 0, none⟩] h42 h59 ∧
 (Fn Tryz.prog 63 #[.agg ⟨[.int .i64 x49, .bool x50, .int .i64 x51, .int .i64 x52, .int .i64 x53, .bool x54]⟩] h59
 (fun v60 h64 => ∃ (x61 : Bool) (x62 x63 : Int), v60 = .agg ⟨[.bool x61, .int .i64 x62, .int .i64 x63]⟩ ∧
 (Sm [⟨h14.size, 0, none⟩] h59 h64 ∧
 (sB ((x56 == x61) && ((x57 == x62) && ((x58 == x63) && true)))
 (R (.bool false) h64)
 ((∃ x65 : Bool, hc h64 ⟨h14.size, 1, none⟩ = some (.bool x65) ∧
 (∃ x66 : Bool, hc h64 ⟨h39.size, 1, none⟩ = some (.bool x66) ∧
 (sB (!(x65 == x66))
 (R (.bool false) h64)
 ((∃ m67, m67 < m12 ∧ I10 (IntKind.wrap .i64 (i_13 + 1)) h64 m67))))))))))))))))))))))) ∧ ((∀ h68 : Heap, h68 = h14.push (.cells ⟨[.int .i64 0, .bool false, .int .i64 0, .int .i64 0, .int .i64 0, .bool false]⟩ 81) →
 (Sm [⟨b31, o32 + Int.toNat x30 * 6, none⟩, ⟨b28, o29 + Int.toNat i_13 * 1, none⟩, ⟨p0.block, p0.off + 4, none⟩, ⟨b19, o20 + Int.toNat x18 * 6, none⟩, ⟨b16, o17 + Int.toNat (IntKind.wrap .i64 (i_13 - 1)) * 1, none⟩, ⟨p0.block, p0.off + 4, none⟩] h14 h68 ∧
 (∀ h69 : Heap, h69 = h68.push (.cells ⟨[.int .i64 0, .bool false, .int .i64 0, .int .i64 0, .int .i64 0, .bool false]⟩ 81) →
 (Sm [⟨b31, o32 + Int.toNat x30 * 6, none⟩, ⟨b28, o29 + Int.toNat i_13 * 1, none⟩, ⟨p0.block, p0.off + 4, none⟩, ⟨b19, o20 + Int.toNat x18 * 6, none⟩, ⟨b16, o17 + Int.toNat (IntKind.wrap .i64 (i_13 - 1)) * 1, none⟩, ⟨p0.block, p0.off + 4, none⟩] h68 h69 ∧
 (okAt h69 ⟨h68.size, 0, none⟩ 6 ∧ ∀ h70 : Heap, h70 = hputs h69 ⟨h68.size, 0, none⟩ 0 [.int .i64 x21, .bool x22, .int .i64 x23, .int .i64 x24, .int .i64 x25, .bool x26] →
 (Sm [⟨b31, o32 + Int.toNat x30 * 6, none⟩, ⟨b28, o29 + Int.toNat i_13 * 1, none⟩, ⟨p0.block, p0.off + 4, none⟩] h69 h70 ∧
 (okAt h70 ⟨h14.size, 0, none⟩ 6 ∧ ∀ h71 : Heap, h71 = hputs h70 ⟨h14.size, 0, none⟩ 0 [.int .i64 x33, .bool x34, .int .i64 x35, .int .i64 x36, .int .i64 x37, .bool x38] →
 (∃ (x72 : Int) (x73 : Bool) (x74 x75 x76 : Int) (x77 : Bool), atC h71 ⟨h68.size, 0, none⟩ [.int .i64 x72, .bool x73, .int .i64 x74, .int .i64 x75, .int .i64 x76, .bool x77] ∧
 (∃ (x78 : Int) (x79 : Bool) (x80 x81 x82 : Int) (x83 : Bool), atC h71 ⟨h14.size, 0, none⟩ [.int .i64 x78, .bool x79, .int .i64 x80, .int .i64 x81, .int .i64 x82, .bool x83] ∧
 (Fn Tryz.prog 63 #[.agg ⟨[.int .i64 x72, .bool x73, .int .i64 x74, .int .i64 x75, .int .i64 x76, .bool x77]⟩] h71
 (fun v84 h88 => ∃ (x85 : Bool) (x86 x87 : Int), v84 = .agg ⟨[.bool x85, .int .i64 x86, .int .i64 x87]⟩ ∧
 (Sm [⟨h14.size, 0, none⟩] h71 h88 ∧
 (Fn Tryz.prog 63 #[.agg ⟨[.int .i64 x78, .bool x79, .int .i64 x80, .int .i64 x81, .int .i64 x82, .bool x83]⟩] h88
 (fun v89 h93 => ∃ (x90 : Bool) (x91 x92 : Int), v89 = .agg ⟨[.bool x90, .int .i64 x91, .int .i64 x92]⟩ ∧
 (Sm [⟨h68.size, 0, none⟩] h88 h93 ∧
 (sB ((x85 == x90) && ((x86 == x91) && ((x87 == x92) && true)))
 (R (.bool false) h93)
 ((∃ x94 : Bool, hc h93 ⟨h68.size, 1, none⟩ = some (.bool x94) ∧
 (∃ x95 : Bool, hc h93 ⟨h14.size, 1, none⟩ = some (.bool x95) ∧
 (sB (!(x94 == x95))
 (R (.bool false) h93)
 ((∃ m96, m96 < m12 ∧ I10 (IntKind.wrap .i64 (i_13 + 1)) h93 m96))))))))))))))))))))))))))))))))))))))
 ((∃ m97, m97 < m4 ∧ I2 (IntKind.wrap .i64 (x_5 + 1)) h14 m97)))))))))
 (R (.bool true) h6)))))
theorem vc98 (p0 : Addr) (h : Heap) (R : Value → Heap → Prop) (H : W98 p0 h R) : Fn Tryz.prog 98 #[.pointer (some p0)] h R := fnI (A := (.s .z (.s (.s .z (.b (.l [(13, .one (.int .i64))] (.s .z (.s .z (.s (.b (.s .z (.s .z (.b (.l [(5, .one (.int .i64))] .z))))) .z)))))) .z))) (by kernel_rfl) H

/- (*farandole/machine.table).reached
 loop rrrrlrborlbrb: todo_23:Sl, x_24:Int
 loop rrrrlrb: todo_10:Sl, head_11:Int -/
def W99 (p0 : Addr) (h : Heap) (R : Value → Heap → Prop) : Prop :=
 (∃ x1 : Int, hc h ⟨p0.block, p0.off + 1, none⟩ = some (.int .i64 x1) ∧
 (((0 : Int) ≤ x1 ∧ (x1 : Int) ≤ x1 ∧ ((1 : Nat) : Int) * x1 ≤ 140737488355328) ∧ ∀ h2 : Heap, h2 = h.push (.cells ⟨madeL Tryz.prog 4 (Int.toNat x1)⟩ 4) →
 (∃ x3 : Int, hc h2 ⟨p0.block, p0.off + 2, none⟩ = some (.int .i64 x3) ∧
 ((0 ≤ (x3 : Int) ∧ (x3 : Int) < ((Int.toNat x1) : Nat)) ∧
 (okAt h2 ⟨h.size, 0 + Int.toNat x3 * 1, none⟩ 1 ∧ ∀ h4 : Heap, h4 = hputs h2 ⟨h.size, 0 + Int.toNat x3 * 1, none⟩ 0 [.bool true] →
 (∃ x5 : Int, hc h4 ⟨p0.block, p0.off + 2, none⟩ = some (.int .i64 x5) ∧
 (∀ h6 : Heap, h6 = h4.push (.cells ⟨[.int .i64 x5]⟩ 3) →
 (∃ I7 : Sl → Int → Heap → Nat → Prop, (∃ m8, I7 ⟨(some ⟨h4.size, 0, none⟩), 1, 1⟩ 0 h6 m8) ∧
 (∀ (_ : Env) (todo_10 : Sl) (head_11 : Int) (h12 : Heap) (m9 : Nat), I7 todo_10 head_11 h12 m9 →
 (sB (decide (head_11 < (todo_10.n : Int)))
 ((∃ x13 : Sl, hc h12 ⟨p0.block, p0.off + 6, none⟩ = some (.slice x13.a x13.n x13.c) ∧
 (NB todo_10.a fun b14 o15 => ((0 ≤ (head_11 : Int) ∧ (head_11 : Int) < (todo_10.n : Nat)) ∧
 (∃ x16 : Int, hc h12 ⟨b14, o15 + Int.toNat head_11 * 1, none⟩ = some (.int .i64 x16) ∧
 (NB x13.a fun b17 o18 => ((0 ≤ (x16 : Int) ∧ (x16 : Int) < (x13.n : Nat)) ∧
 (∃ x19 : Sl, hc h12 ⟨b17, o18 + Int.toNat x16 * 1, none⟩ = some (.slice x19.a x19.n x19.c) ∧
 (∃ I20 : Sl → Int → Heap → Nat → Prop, (∃ m21, I20 todo_10 0 h12 m21) ∧
 (∀ (_ : Env) (todo_23 : Sl) (x_24 : Int) (h25 : Heap) (m22 : Nat), I20 todo_23 x_24 h25 m22 →
 (sB (decide (x_24 < (x19.n : Int)))
 ((NB x19.a fun b26 o27 => ((0 ≤ (x_24 : Int) ∧ (x_24 : Int) < (x19.n : Nat)) ∧
 (∃ x28 : Int, hc h25 ⟨b26, o27 + Int.toNat x_24 * 1, none⟩ = some (.int .i64 x28) ∧
 (∃ x29 : Sl, hc h25 ⟨p0.block, p0.off + 4, none⟩ = some (.slice x29.a x29.n x29.c) ∧
 (NB x29.a fun b30 o31 => ((0 ≤ (x28 : Int) ∧ (x28 : Int) < (x29.n : Nat)) ∧
 (∃ x32 : Int, hc h25 ⟨b30, o31 + Int.toNat x28 * 6 + 4, none⟩ = some (.int .i64 x32) ∧
 ((0 ≤ (x32 : Int) ∧ (x32 : Int) < ((Int.toNat x1) : Nat)) ∧
 (∃ x33 : Bool, hc h25 ⟨h.size, 0 + Int.toNat x32 * 1, none⟩ = some (.bool x33) ∧
 (sB (!x33)
 (((0 ≤ (x32 : Int) ∧ (x32 : Int) < ((Int.toNat x1) : Nat)) ∧
 (okAt h25 ⟨h.size, 0 + Int.toNat x32 * 1, none⟩ 1 ∧ ∀ h34 : Heap, h34 = hputs h25 ⟨h.size, 0 + Int.toNat x32 * 1, none⟩ 0 [.bool true] →
 (∀ h35 : Heap, h35 = h34.push (.cells ⟨[.int .i64 x32]⟩ 3) →
 (App Tryz.prog 49 49 (.slice todo_23.a todo_23.n todo_23.c) (.slice (some ⟨h34.size, 0, none⟩) 1 1) h35 fun s36 h37 =>
 (∃ m38, m38 < m22 ∧ I20 s36 (IntKind.wrap .i64 (x_24 + 1)) h37 m38))))))
 ((∃ m39, m39 < m22 ∧ I20 todo_23 (IntKind.wrap .i64 (x_24 + 1)) h25 m39)))))))))))))
 ((∃ m40, m40 < m9 ∧ I7 todo_23 (IntKind.wrap .i64 (head_11 + 1)) h25 m40)))))))))))))
 ((∃ x41 : Int, hc h12 ⟨p0.block, p0.off + 1, none⟩ = some (.int .i64 x41) ∧
 R (.bool ((todo_10.n : Int) == x41)) h12))))))))))))
theorem vc99 (p0 : Addr) (h : Heap) (R : Value → Heap → Prop) (H : W99 p0 h R) : Fn Tryz.prog 99 #[.pointer (some p0)] h R := fnI (A := (.s .z (.s .z (.s .z (.s .z (.s (.s .z (.b (.l [(4, .one (.slice)), (5, .one (.int .i64))] (.s .z (.s (.b (.s .z (.b (.l [(4, .one (.slice)), (45, .one (.int .i64))] .z)))) .z))))) .z)))))) (by kernel_rfl) H

/- (*farandole/machine.table).again
 loop rlrborrlbrrrrb: x_36:Int
 loop rlrb: x_5:Int -/
def W100 (p0 : Addr) (h : Heap) (R : Value → Heap → Prop) : Prop :=
 (∃ x1 : Sl, hc h ⟨p0.block, p0.off + 4, none⟩ = some (.slice x1.a x1.n x1.c) ∧
 (∃ I2 : Int → Heap → Nat → Prop, (∃ m3, I2 0 h m3) ∧
 (∀ (_ : Env) (x_5 : Int) (h6 : Heap) (m4 : Nat), I2 x_5 h6 m4 →
 (sB (decide (x_5 < (x1.n : Int)))
 ((NB x1.a fun b7 o8 => ((0 ≤ (x_5 : Int) ∧ (x_5 : Int) < (x1.n : Nat)) ∧
 (∃ (x9 : Int) (x10 : Bool) (x11 x12 x13 : Int) (x14 : Bool), atC h6 ⟨b7, o8 + Int.toNat x_5 * 6, none⟩ [.int .i64 x9, .bool x10, .int .i64 x11, .int .i64 x12, .int .i64 x13, .bool x14] ∧
 (∀ h15 : Heap, h15 = h6.push (.cells ⟨[.int .i64 0, .bool false, .int .i64 0, .int .i64 0, .int .i64 0, .bool false]⟩ 81) →
 (okAt h15 ⟨h6.size, 0, none⟩ 6 ∧ ∀ h16 : Heap, h16 = hputs h15 ⟨h6.size, 0, none⟩ 0 [.int .i64 x9, .bool x10, .int .i64 x11, .int .i64 x12, .int .i64 x13, .bool x14] →
 (∃ x17 : Bool, hc h16 ⟨h6.size, 5, none⟩ = some (.bool x17) ∧
 (sB (!x17)
 ((∃ m18, m18 < m4 ∧ I2 (IntKind.wrap .i64 (x_5 + 1)) h16 m18))
 ((∃ x19 : Bool, hc h16 ⟨h6.size, 1, none⟩ = some (.bool x19) ∧
 (sB (!x19)
 (R (.bool false) h16)
 ((∃ x20 : Sl, hc h16 ⟨p0.block, p0.off + 6, none⟩ = some (.slice x20.a x20.n x20.c) ∧
 (∃ x21 : Int, hc h16 ⟨h6.size, 0, none⟩ = some (.int .i64 x21) ∧
 (NB x20.a fun b22 o23 => ((0 ≤ (x21 : Int) ∧ (x21 : Int) < (x20.n : Nat)) ∧
 (∃ x24 : Sl, hc h16 ⟨b22, o23 + Int.toNat x21 * 1, none⟩ = some (.slice x24.a x24.n x24.c) ∧
 (sB ((x24.n : Int) != 1)
 (R (.bool false) h16)
 ((∃ x25 : Int, hc h16 ⟨h6.size, 0, none⟩ = some (.int .i64 x25) ∧
 (∃ x26 : Int, hc h16 ⟨p0.block, p0.off + 2, none⟩ = some (.int .i64 x26) ∧
 (sB (x25 == x26)
 (R (.bool false) h16)
 ((∃ x27 : Sl, hc h16 ⟨p0.block, p0.off + 3, none⟩ = some (.slice x27.a x27.n x27.c) ∧
 (∃ x28 : Int, hc h16 ⟨h6.size, 0, none⟩ = some (.int .i64 x28) ∧
 (NB x27.a fun b29 o30 => ((0 ≤ (x28 : Int) ∧ (x28 : Int) < (x27.n : Nat)) ∧
 (∃ x31 : Bool, hc h16 ⟨b29, o30 + Int.toNat x28 * 1, none⟩ = some (.bool x31) ∧
 (sB x31
 (R (.bool false) h16)
 ((∃ x32 : Sl, hc h16 ⟨p0.block, p0.off + 4, none⟩ = some (.slice x32.a x32.n x32.c) ∧
 (∃ I33 : Int → Heap → Nat → Prop, (∃ m34, I33 0 h16 m34) ∧
 (∀ (_ : Env) (x_36 : Int) (h37 : Heap) (m35 : Nat), I33 x_36 h37 m35 →
 (sB (decide (x_36 < (x32.n : Int)))
 ((NB x32.a fun b38 o39 => ((0 ≤ (x_36 : Int) ∧ (x_36 : Int) < (x32.n : Nat)) ∧
 (∃ (x40 : Int) (x41 : Bool) (x42 x43 x44 : Int) (x45 : Bool), atC h37 ⟨b38, o39 + Int.toNat x_36 * 6, none⟩ [.int .i64 x40, .bool x41, .int .i64 x42, .int .i64 x43, .int .i64 x44, .bool x45] ∧
 (∀ h46 : Heap, h46 = h37.push (.cells ⟨[.int .i64 0, .bool false, .int .i64 0, .int .i64 0, .int .i64 0, .bool false]⟩ 81) →
 (okAt h46 ⟨h37.size, 0, none⟩ 6 ∧ ∀ h47 : Heap, h47 = hputs h46 ⟨h37.size, 0, none⟩ 0 [.int .i64 x40, .bool x41, .int .i64 x42, .int .i64 x43, .int .i64 x44, .bool x45] →
 (∃ x48 : Int, hc h47 ⟨h37.size, 4, none⟩ = some (.int .i64 x48) ∧
 (∃ x49 : Int, hc h47 ⟨h6.size, 0, none⟩ = some (.int .i64 x49) ∧
 (sB (x48 == x49)
 ((∃ x50 : Bool, hc h47 ⟨h37.size, 1, none⟩ = some (.bool x50) ∧
 (sB (!x50)
 (R (.bool false) h47)
 ((∃ x51 : Int, hc h47 ⟨h37.size, 3, none⟩ = some (.int .i64 x51) ∧
 (∃ x52 : Int, hc h47 ⟨h6.size, 3, none⟩ = some (.int .i64 x52) ∧
 (sB (x51 != x52)
 (R (.bool false) h47)
 ((∃ m53, m53 < m35 ∧ I33 (IntKind.wrap .i64 (x_36 + 1)) h47 m53)))))))))
 ((∃ m54, m54 < m35 ∧ I33 (IntKind.wrap .i64 (x_36 + 1)) h47 m54)))))))))))
 ((∃ m55, m55 < m4 ∧ I2 (IntKind.wrap .i64 (x_5 + 1)) h37 m55))))))))))))))))))))))))))))))))))))
 (R (.bool true) h6)))))
theorem vc100 (p0 : Addr) (h : Heap) (R : Value → Heap → Prop) (H : W100 p0 h R) : Fn Tryz.prog 100 #[.pointer (some p0)] h R := fnI (A := (.s .z (.s (.s .z (.b (.l [(13, .one (.int .i64))] (.s .z (.s .z (.s (.b (.s .z (.s .z (.s .z (.s .z (.b (.l [(62, .one (.int .i64))] .z))))))) .z)))))) .z))) (by kernel_rfl) H

/- (*farandole/machine.table).timed
 loop rlrb: x_5:Int -/
def W101 (p0 : Addr) (h : Heap) (R : Value → Heap → Prop) : Prop :=
 (∃ x1 : Sl, hc h ⟨p0.block, p0.off + 5, none⟩ = some (.slice x1.a x1.n x1.c) ∧
 (∃ I2 : Int → Heap → Nat → Prop, (∃ m3, I2 0 h m3) ∧
 (∀ (_ : Env) (x_5 : Int) (h6 : Heap) (m4 : Nat), I2 x_5 h6 m4 →
 (sB (decide (x_5 < (x1.n : Int)))
 ((NB x1.a fun b7 o8 => ((0 ≤ (x_5 : Int) ∧ (x_5 : Int) < (x1.n : Nat)) ∧
 (∃ (x9 x10 x11 : Int), atC h6 ⟨b7, o8 + Int.toNat x_5 * 3, none⟩ [.int .i64 x9, .int .i64 x10, .int .i64 x11] ∧
 (∀ h12 : Heap, h12 = h6.push (.cells ⟨[.int .i64 0, .int .i64 0, .int .i64 0]⟩ 44) →
 (okAt h12 ⟨h6.size, 0, none⟩ 3 ∧ ∀ h13 : Heap, h13 = hputs h12 ⟨h6.size, 0, none⟩ 0 [.int .i64 x9, .int .i64 x10, .int .i64 x11] →
 (sB (decide (x_5 > 0))
 ((∃ x14 : Sl, hc h13 ⟨p0.block, p0.off + 5, none⟩ = some (.slice x14.a x14.n x14.c) ∧
 (NB x14.a fun b15 o16 => ((0 ≤ ((IntKind.wrap .i64 (x_5 - 1)) : Int) ∧ ((IntKind.wrap .i64 (x_5 - 1)) : Int) < (x14.n : Nat)) ∧
 (∃ x17 : Int, hc h13 ⟨b15, o16 + Int.toNat (IntKind.wrap .i64 (x_5 - 1)) * 3, none⟩ = some (.int .i64 x17) ∧
 (∃ x18 : Int, hc h13 ⟨h6.size, 0, none⟩ = some (.int .i64 x18) ∧
 (sB (decide (x17 ≥ x18))
 (R (.bool false) h13)
 ((∃ x19 : Int, hc h13 ⟨h6.size, 1, none⟩ = some (.int .i64 x19) ∧
 (sB (decide (x19 < 1))
 (R (.bool false) h13)
 ((∃ x20 : Int, hc h13 ⟨h6.size, 1, none⟩ = some (.int .i64 x20) ∧
 (sB (decide (x20 > 1000))
 (R (.bool false) h13)
 ((∃ x21 : Int, hc h13 ⟨h6.size, 2, none⟩ = some (.int .i64 x21) ∧
 (sB (decide (x21 < 0))
 (R (.bool false) h13)
 ((∃ x22 : Int, hc h13 ⟨h6.size, 2, none⟩ = some (.int .i64 x22) ∧
 (∃ x23 : Sl, hc h13 ⟨p0.block, p0.off + 4, none⟩ = some (.slice x23.a x23.n x23.c) ∧
 (sB (decide (x22 ≥ (x23.n : Int)))
 (R (.bool false) h13)
 ((∃ x24 : Sl, hc h13 ⟨p0.block, p0.off + 4, none⟩ = some (.slice x24.a x24.n x24.c) ∧
 (∃ x25 : Int, hc h13 ⟨h6.size, 2, none⟩ = some (.int .i64 x25) ∧
 (NB x24.a fun b26 o27 => ((0 ≤ (x25 : Int) ∧ (x25 : Int) < (x24.n : Nat)) ∧
 (∃ (x28 : Int) (x29 : Bool) (x30 x31 x32 : Int) (x33 : Bool), atC h13 ⟨b26, o27 + Int.toNat x25 * 6, none⟩ [.int .i64 x28, .bool x29, .int .i64 x30, .int .i64 x31, .int .i64 x32, .bool x33] ∧
 (∀ h34 : Heap, h34 = h13.push (.cells ⟨[.int .i64 0, .bool false, .int .i64 0, .int .i64 0, .int .i64 0, .bool false]⟩ 81) →
 (Sm [⟨b26, o27 + Int.toNat x25 * 6, none⟩, ⟨h6.size, 2, none⟩, ⟨p0.block, p0.off + 4, none⟩] h13 h34 ∧
 (okAt h34 ⟨h13.size, 0, none⟩ 6 ∧ ∀ h35 : Heap, h35 = hputs h34 ⟨h13.size, 0, none⟩ 0 [.int .i64 x28, .bool x29, .int .i64 x30, .int .i64 x31, .int .i64 x32, .bool x33] →
 (∃ x36 : Int, hc h35 ⟨h13.size, 0, none⟩ = some (.int .i64 x36) ∧
 (∃ x37 : Int, hc h35 ⟨h6.size, 0, none⟩ = some (.int .i64 x37) ∧
 (sB (x36 != x37)
 (R (.bool false) h35)
 ((∃ x38 : Bool, hc h35 ⟨h13.size, 1, none⟩ = some (.bool x38) ∧
 (sB (!x38)
 (R (.bool false) h35)
 ((∃ x39 : Bool, hc h35 ⟨h13.size, 5, none⟩ = some (.bool x39) ∧
 (sB x39
 (R (.bool false) h35)
 ((∃ m40, m40 < m4 ∧ I2 (IntKind.wrap .i64 (x_5 + 1)) h35 m40))))))))))))))))))))))))))))))))))))))))
 ((∃ x41 : Int, hc h13 ⟨h6.size, 1, none⟩ = some (.int .i64 x41) ∧
 (sB (decide (x41 < 1))
 (R (.bool false) h13)
 ((∃ x42 : Int, hc h13 ⟨h6.size, 1, none⟩ = some (.int .i64 x42) ∧
 (sB (decide (x42 > 1000))
 (R (.bool false) h13)
 ((∃ x43 : Int, hc h13 ⟨h6.size, 2, none⟩ = some (.int .i64 x43) ∧
 (sB (decide (x43 < 0))
 (R (.bool false) h13)
 ((∃ x44 : Int, hc h13 ⟨h6.size, 2, none⟩ = some (.int .i64 x44) ∧
 (∃ x45 : Sl, hc h13 ⟨p0.block, p0.off + 4, none⟩ = some (.slice x45.a x45.n x45.c) ∧
 (sB (decide (x44 ≥ (x45.n : Int)))
 (R (.bool false) h13)
 ((∃ x46 : Sl, hc h13 ⟨p0.block, p0.off + 4, none⟩ = some (.slice x46.a x46.n x46.c) ∧
 (∃ x47 : Int, hc h13 ⟨h6.size, 2, none⟩ = some (.int .i64 x47) ∧
 (NB x46.a fun b48 o49 => ((0 ≤ (x47 : Int) ∧ (x47 : Int) < (x46.n : Nat)) ∧
 (∃ (x50 : Int) (x51 : Bool) (x52 x53 x54 : Int) (x55 : Bool), atC h13 ⟨b48, o49 + Int.toNat x47 * 6, none⟩ [.int .i64 x50, .bool x51, .int .i64 x52, .int .i64 x53, .int .i64 x54, .bool x55] ∧
 (∀ h56 : Heap, h56 = h13.push (.cells ⟨[.int .i64 0, .bool false, .int .i64 0, .int .i64 0, .int .i64 0, .bool false]⟩ 81) →
 (Sm [⟨b48, o49 + Int.toNat x47 * 6, none⟩, ⟨h6.size, 2, none⟩, ⟨p0.block, p0.off + 4, none⟩] h13 h56 ∧
 (okAt h56 ⟨h13.size, 0, none⟩ 6 ∧ ∀ h57 : Heap, h57 = hputs h56 ⟨h13.size, 0, none⟩ 0 [.int .i64 x50, .bool x51, .int .i64 x52, .int .i64 x53, .int .i64 x54, .bool x55] →
 (∃ x58 : Int, hc h57 ⟨h13.size, 0, none⟩ = some (.int .i64 x58) ∧
 (∃ x59 : Int, hc h57 ⟨h6.size, 0, none⟩ = some (.int .i64 x59) ∧
 (sB (x58 != x59)
 (R (.bool false) h57)
 ((∃ x60 : Bool, hc h57 ⟨h13.size, 1, none⟩ = some (.bool x60) ∧
 (sB (!x60)
 (R (.bool false) h57)
 ((∃ x61 : Bool, hc h57 ⟨h13.size, 5, none⟩ = some (.bool x61) ∧
 (sB x61
 (R (.bool false) h57)
 ((∃ m62, m62 < m4 ∧ I2 (IntKind.wrap .i64 (x_5 + 1)) h57 m62))))))))))))))))))))))))))))))))))))))))
 (R (.bool true) h6)))))
theorem vc101 (p0 : Addr) (h : Heap) (R : Value → Heap → Prop) (H : W101 p0 h R) : Fn Tryz.prog 101 #[.pointer (some p0)] h R := fnI (A := (.s .z (.s (.s .z (.b (.l [(12, .one (.int .i64))] .z))) .z))) (by kernel_rfl) H

def W47 (p0_1 p0_2 p0_3 : Int) (p0_4 p0_5 p0_6 : Sl) (h : Heap) (R : Value → Heap → Prop) : Prop :=
 (∀ h7 : Heap, h7 = h.push (.cells ⟨[.int .i64 p0_1, .int .i64 p0_2, .int .i64 p0_3, .slice p0_4.a p0_4.n p0_4.c, .slice p0_5.a p0_5.n p0_5.c, .slice p0_6.a p0_6.n p0_6.c]⟩ 26) →
 (∃ (x8 x9 x10 : Int) (x11 x12 x13 : Sl), atC h7 ⟨h.size, 0, none⟩ [.int .i64 x8, .int .i64 x9, .int .i64 x10, .slice x11.a x11.n x11.c, .slice x12.a x12.n x12.c, .slice x13.a x13.n x13.c] ∧
 (Fn Tryz.prog 96 #[.agg ⟨[.int .i64 x8, .int .i64 x9, .int .i64 x10, .slice x11.a x11.n x11.c, .slice x12.a x12.n x12.c, .slice x13.a x13.n x13.c]⟩] h7
 (fun v14 h16 => ∃ x15 : Bool, v14 = .bool x15 ∧
 (sB (!x15)
 (R (.tuple ⟨[.pointer none, .bool false]⟩) h16)
 ((∃ (x17 x18 x19 : Int) (x20 x21 x22 : Sl), atC h16 ⟨h.size, 0, none⟩ [.int .i64 x17, .int .i64 x18, .int .i64 x19, .slice x20.a x20.n x20.c, .slice x21.a x21.n x21.c, .slice x22.a x22.n x22.c] ∧
 (Fn Tryz.prog 97 #[.agg ⟨[.int .i64 x17, .int .i64 x18, .int .i64 x19, .slice x20.a x20.n x20.c, .slice x21.a x21.n x21.c, .slice x22.a x22.n x22.c]⟩] h16
 (fun v23 h25 => ∃ x24 : Option Addr, v23 = .pointer x24 ∧
 (Fn Tryz.prog 98 #[.pointer x24] h25
 (fun v26 h28 => ∃ x27 : Bool, v26 = .bool x27 ∧
 (sB x27
 ((Fn Tryz.prog 99 #[.pointer x24] h28
 (fun v29 h31 => ∃ x30 : Bool, v29 = .bool x30 ∧
 (sB x30
 ((Fn Tryz.prog 100 #[.pointer x24] h31
 (fun v32 h34 => ∃ x33 : Bool, v32 = .bool x33 ∧
 (sB x33
 ((Fn Tryz.prog 101 #[.pointer x24] h34
 (fun v35 h37 => ∃ x36 : Bool, v35 = .bool x36 ∧
 R (.tuple ⟨[.pointer x24, .bool x36]⟩) h37)))
 (R (.tuple ⟨[.pointer x24, .bool false]⟩) h34)))))
 (R (.tuple ⟨[.pointer x24, .bool false]⟩) h31)))))
 (R (.tuple ⟨[.pointer x24, .bool false]⟩) h28)))))))))))))
theorem vc47 (p0_1 p0_2 p0_3 : Int) (p0_4 p0_5 p0_6 : Sl) (h : Heap) (R : Value → Heap → Prop) (H : W47 p0_1 p0_2 p0_3 p0_4 p0_5 p0_6 h R) : Fn Tryz.prog 47 #[.agg ⟨[.int .i64 p0_1, .int .i64 p0_2, .int .i64 p0_3, .slice p0_4.a p0_4.n p0_4.c, .slice p0_5.a p0_5.n p0_5.c, .slice p0_6.a p0_6.n p0_6.c]⟩] h R := fnI (A := .z) (by kernel_rfl) H

def W23 (p0_1 p0_2 p0_3 : Int) (p0_4 p0_5 p0_6 : Sl) (h : Heap) (R : Value → Heap → Prop) : Prop :=
 (∀ h7 : Heap, h7 = h.push (.cells ⟨[.int .i64 p0_1, .int .i64 p0_2, .int .i64 p0_3, .slice p0_4.a p0_4.n p0_4.c, .slice p0_5.a p0_5.n p0_5.c, .slice p0_6.a p0_6.n p0_6.c]⟩ 26) →
 (∃ (x8 x9 x10 : Int) (x11 x12 x13 : Sl), atC h7 ⟨h.size, 0, none⟩ [.int .i64 x8, .int .i64 x9, .int .i64 x10, .slice x11.a x11.n x11.c, .slice x12.a x12.n x12.c, .slice x13.a x13.n x13.c] ∧
 (Fn Tryz.prog 47 #[.agg ⟨[.int .i64 x8, .int .i64 x9, .int .i64 x10, .slice x11.a x11.n x11.c, .slice x12.a x12.n x12.c, .slice x13.a x13.n x13.c]⟩] h7
 (fun v14 h17 => ∃ x15 : Option Addr, ∃ x16 : Bool, v14 = .tuple ⟨[.pointer x15, .bool x16]⟩ ∧
 R (.bool x16) h17))))
theorem vc23 (p0_1 p0_2 p0_3 : Int) (p0_4 p0_5 p0_6 : Sl) (h : Heap) (R : Value → Heap → Prop) (H : W23 p0_1 p0_2 p0_3 p0_4 p0_5 p0_6 h R) : Fn Tryz.prog 23 #[.agg ⟨[.int .i64 p0_1, .int .i64 p0_2, .int .i64 p0_3, .slice p0_4.a p0_4.n p0_4.c, .slice p0_5.a p0_5.n p0_5.c, .slice p0_6.a p0_6.n p0_6.c]⟩] h R := fnI (A := .z) (by kernel_rfl) H

end Go.VC
end

section
namespace Go.VC
open Go.Proofs
set_option maxRecDepth 100000
set_option linter.unusedVariables false
variable [Mono]
namespace M

def W63 (p0_1 : Int) (p0_2 : Bool) (p0_3 p0_4 p0_5 : Int) (p0_6 : Bool) (h : Heap) (R : Value → Heap → Prop) : Prop :=
 (∀ h7 : Heap, h7 = h.push (.cells ⟨[.int .i64 p0_1, .bool p0_2, .int .i64 p0_3, .int .i64 p0_4, .int .i64 p0_5, .bool p0_6]⟩ 81) →
 (∀ h8 : Heap, h8 = h7.push (.cells ⟨[.bool false, .int .i64 0, .int .i64 0]⟩ 79) →
 (∃ x9 : Bool, hc h8 ⟨h.size, 1, none⟩ = some (.bool x9) ∧
 (∃ x10 : Int, hc h8 ⟨h.size, 2, none⟩ = some (.int .i64 x10) ∧
 (∃ x11 : Int, hc h8 ⟨h.size, 3, none⟩ = some (.int .i64 x11) ∧
 (okAt h8 ⟨h7.size, 0, none⟩ 3 ∧ ∀ h12 : Heap, h12 = hputs h8 ⟨h7.size, 0, none⟩ 0 [.bool x9, .int .i64 x10, .int .i64 x11] →
 (∃ (x13 : Bool) (x14 x15 : Int), atC h12 ⟨h7.size, 0, none⟩ [.bool x13, .int .i64 x14, .int .i64 x15] ∧
 R (.agg ⟨[.bool x13, .int .i64 x14, .int .i64 x15]⟩) h12)))))))
theorem vc63 (p0_1 : Int) (p0_2 : Bool) (p0_3 p0_4 p0_5 : Int) (p0_6 : Bool) (h : Heap) (R : Value → Heap → Prop) (H : W63 p0_1 p0_2 p0_3 p0_4 p0_5 p0_6 h R) : Fn Tryz.prog 63 #[.agg ⟨[.int .i64 p0_1, .bool p0_2, .int .i64 p0_3, .int .i64 p0_4, .int .i64 p0_5, .bool p0_6]⟩] h R := fnI (A := .z) (by kernel_rfl) H

def W104 (p0_1 : Bool) (p0_2 p0_3 : Int) (p1_4 : Bool) (p1_5 p1_6 : Int) (h : Heap) (R : Value → Heap → Prop) : Prop :=
 (∀ h7 : Heap, h7 = h.push (.cells ⟨[.bool p0_1, .int .i64 p0_2, .int .i64 p0_3]⟩ 79) →
 (∀ h8 : Heap, h8 = h7.push (.cells ⟨[.bool p1_4, .int .i64 p1_5, .int .i64 p1_6]⟩ 79) →
 (∃ x9 : Bool, hc h8 ⟨h.size, 0, none⟩ = some (.bool x9) ∧
 (∃ x10 : Bool, hc h8 ⟨h7.size, 0, none⟩ = some (.bool x10) ∧
 (sB (!(x9 == x10))
 ((∃ x11 : Bool, hc h8 ⟨h.size, 0, none⟩ = some (.bool x11) ∧
 (sB x11
 (R (.int .i64 (-1)) h8)
 (R (.int .i64 1) h8))))
 ((∃ x12 : Int, hc h8 ⟨h.size, 1, none⟩ = some (.int .i64 x12) ∧
 (∃ x13 : Int, hc h8 ⟨h7.size, 1, none⟩ = some (.int .i64 x13) ∧
 (∃ x14 : Int, hc h8 ⟨h.size, 2, none⟩ = some (.int .i64 x14) ∧
 (∃ x15 : Int, hc h8 ⟨h7.size, 2, none⟩ = some (.int .i64 x15) ∧
 (Fn Tryz.prog 155 #[.int .i64 x12, .int .i64 x13] h8
 (fun v16 h18 => ∃ x17 : Int, v16 = .int .i64 x17 ∧
 (Sm [⟨h7.size, 2, none⟩, ⟨h.size, 2, none⟩] h8 h18 ∧
 (Fn Tryz.prog 155 #[.int .i64 x14, .int .i64 x15] h18
 (fun v19 h21 => ∃ x20 : Int, v19 = .int .i64 x20 ∧
 (Sm [⟨h7.size, 1, none⟩, ⟨h.size, 1, none⟩] h18 h21 ∧
 (∀ h22 : Heap, h22 = h21.push (.cells ⟨[.int .i64 x17, .int .i64 x20]⟩ 3) →
 (Fn Tryz.prog 154 #[.slice (some ⟨h21.size, 0, none⟩) 2 2] h22
 (fun v23 h25 => ∃ x24 : Int, v23 = .int .i64 x24 ∧
 R (.int .i64 x24) h25)))))))))))))))))))
theorem vc104 (p0_1 : Bool) (p0_2 p0_3 : Int) (p1_4 : Bool) (p1_5 p1_6 : Int) (h : Heap) (R : Value → Heap → Prop) (H : W104 p0_1 p0_2 p0_3 p1_4 p1_5 p1_6 h R) : Fn Tryz.prog 104 #[.agg ⟨[.bool p0_1, .int .i64 p0_2, .int .i64 p0_3]⟩, .agg ⟨[.bool p1_4, .int .i64 p1_5, .int .i64 p1_6]⟩] h R := fnI (A := .z) (by kernel_rfl) H

def W153 (p0 p1 : Int) (c0 : Addr) (h : Heap) (R : Value → Heap → Prop) : Prop :=
 (∃ x1 : Sl, hc h ⟨c0.block, c0.off + 4, none⟩ = some (.slice x1.a x1.n x1.c) ∧
 (NB x1.a fun b2 o3 => ((0 ≤ (p0 : Int) ∧ (p0 : Int) < (x1.n : Nat)) ∧
 (∃ (x4 : Int) (x5 : Bool) (x6 x7 x8 : Int) (x9 : Bool), atC h ⟨b2, o3 + Int.toNat p0 * 6, none⟩ [.int .i64 x4, .bool x5, .int .i64 x6, .int .i64 x7, .int .i64 x8, .bool x9] ∧
 (∃ x10 : Sl, hc h ⟨c0.block, c0.off + 4, none⟩ = some (.slice x10.a x10.n x10.c) ∧
 (NB x10.a fun b11 o12 => ((0 ≤ (p1 : Int) ∧ (p1 : Int) < (x10.n : Nat)) ∧
 (∃ (x13 : Int) (x14 : Bool) (x15 x16 x17 : Int) (x18 : Bool), atC h ⟨b11, o12 + Int.toNat p1 * 6, none⟩ [.int .i64 x13, .bool x14, .int .i64 x15, .int .i64 x16, .int .i64 x17, .bool x18] ∧
 (Fn Tryz.prog 63 #[.agg ⟨[.int .i64 x4, .bool x5, .int .i64 x6, .int .i64 x7, .int .i64 x8, .bool x9]⟩] h
 (fun v19 h23 => ∃ (x20 : Bool) (x21 x22 : Int), v19 = .agg ⟨[.bool x20, .int .i64 x21, .int .i64 x22]⟩ ∧
 (Sm [⟨b11, o12 + Int.toNat p1 * 6, none⟩, ⟨c0.block, c0.off + 4, none⟩] h h23 ∧
 (Fn Tryz.prog 63 #[.agg ⟨[.int .i64 x13, .bool x14, .int .i64 x15, .int .i64 x16, .int .i64 x17, .bool x18]⟩] h23
 (fun v24 h28 => ∃ (x25 : Bool) (x26 x27 : Int), v24 = .agg ⟨[.bool x25, .int .i64 x26, .int .i64 x27]⟩ ∧
 (Sm [⟨b2, o3 + Int.toNat p0 * 6, none⟩, ⟨c0.block, c0.off + 4, none⟩] h23 h28 ∧
 (Fn Tryz.prog 104 #[.agg ⟨[.bool x20, .int .i64 x21, .int .i64 x22]⟩, .agg ⟨[.bool x25, .int .i64 x26, .int .i64 x27]⟩] h28
 (fun v29 h31 => ∃ x30 : Int, v29 = .int .i64 x30 ∧
 R (.int .i64 x30) h31))))))))))))))))
theorem vc153 (p0 p1 : Int) (c0 : Addr) (h : Heap) (R : Value → Heap → Prop) (H : W153 p0 p1 c0 h R) : Fn Tryz.prog 153 #[.int .i64 p0, .int .i64 p1, .pointer (some c0)] h R := fnI (A := .z) (by kernel_rfl) H

end M
end Go.VC
end

section
/- Contracts: events of moves, their order, the order of a machine's moves; over every relation of worlds. (Numbers of layer 26's seat.) -/
namespace Go.VC
open Go.Proofs Go.LexS
set_option maxRecDepth 100000
variable [Mono]
namespace M
theorem of63 (x : Mv) (h : Heap) : Fn Tryz.prog 63 #[.agg ⟨x.cs⟩] h fun v h' => v = .agg ⟨x.ev.cs⟩ ∧ Ext h h' := by
  apply vc63 x.f x.send x.peer x.label x.t x.ag; unfold W63
  refine (St.refl h).newb fun h7 hs => ?_
  refine hs.newb fun h8 hs => ?_
  refine ⟨_, hs.rd 1 rfl rfl, _, hs.rd 1 rfl rfl, _, hs.rd 1 rfl rfl, ?_⟩
  refine hs.put 0 rfl (o := 0) (vs := x.ev.cs) rfl (show 3 ≤ 3 by decide) fun h12 hs => ?_
  exact ⟨_, _, _, hs.at 0 rfl (o := 0) (n := 3) rfl, rfl, hs.ext⟩
theorem compare104 (x y : Ev) (h : Heap) : Fn Tryz.prog 104 #[.agg ⟨x.cs⟩, .agg ⟨y.cs⟩] h fun v h' => v = .int .i64 (cmpE x y) ∧ Ext h h' := by
  apply vc104 x.send x.peer x.label y.send y.peer y.label; unfold W104
  have hs := St.refl h
  refine hs.newb fun h7 hs => ?_
  refine hs.newb fun h8 hs => ?_
  refine ⟨_, hs.rd 1 rfl rfl, ?_⟩
  refine ⟨_, hs.rd 0 rfl rfl, ?_⟩
  refine sB_intro (fun c => ?_) (fun c => ?_)
  · have hne : x.send ≠ y.send := by simpa using c
    refine ⟨_, hs.rd 1 rfl rfl, ?_⟩
    unfold cmpE
    rw [if_pos hne]
    refine sB_intro (fun d => ?_) (fun d => ?_)
    · exact ⟨by rw [if_pos d], hs.ext⟩
    · exact ⟨by rw [if_neg (by rw [d]; simp)], hs.ext⟩
  · have he : x.send = y.send := by simpa using c
    refine ⟨_, hs.rd 1 rfl rfl, _, hs.rd 0 rfl rfl, _, hs.rd 1 rfl rfl, _, hs.rd 0 rfl rfl, ?_⟩
    refine (cmp110 _ _ _).mono ?_
    rintro _ _ ⟨rfl, rfl⟩
    refine ⟨_, rfl, fun _ _ _ _ hv => hv, ?_⟩
    refine (cmp110 _ _ _).mono ?_
    rintro _ _ ⟨rfl, rfl⟩
    refine ⟨_, rfl, fun _ _ _ _ hv => hv, ?_⟩
    refine hs.newb fun h22 hs => ?_
    have hs2 := hs.blkS 2 1 ([cmpI x.peer y.peer, cmpI x.label y.label].map inC) rfl (inrows _) rfl (by decide)
    refine (or109 [cmpI x.peer y.peer, cmpI x.label y.label] _ h22 (hs2.rows 0 rfl (by omega)) (show 2 ≤ 1048576 by decide)).mono ?_
    rintro _ _ ⟨rfl, rfl⟩
    refine ⟨_, rfl, ?_, hs.ext⟩
    unfold cmpE
    rw [if_neg (by simpa using he)]
    show Value.int .i64 (orI3 _ (orI3 _ 0)) = _
    congr 1
    unfold orI3
    split
    · rfl
    · split <;> omega
theorem order153 (mv : List Mv) (sm : Sl) (a : Addr) (i k : Nat) (x y : Mv) (h : Heap) (ha : hc h ⟨a.block, a.off + 4, none⟩ = some (.slice sm.a sm.n sm.c)) (hr : Rw h 6 sm (mv.map Mv.cs)) (hx : mv[i]? = some x) (hy : mv[k]? = some y) :
    Fn Tryz.prog 153 #[.int .i64 (i : Nat), .int .i64 (k : Nat), .pointer (some a)] h fun v h' => v = .int .i64 (cmpE x.ev y.ev) ∧ Ext h h' := by
  apply vc153; unfold W153
  have hn := hr.ln
  have hxl := (List.getElem?_eq_some_iff.1 hx).1
  have hyl := (List.getElem?_eq_some_iff.1 hy).1
  refine ⟨sm, ha, ?_⟩
  refine hr.nbI (by omega) (by omega) fun b o x' gx t => ?_
  replace gx : mv[i]? = some x' := gx
  rw [hx] at gx; cases gx
  refine ⟨_, _, _, _, _, _, t, sm, ha, ?_⟩
  refine hr.nbI (by omega) (by omega) fun b2 o2 y' gy t2 => ?_
  replace gy : mv[k]? = some y' := gy
  rw [hy] at gy; cases gy
  refine ⟨_, _, _, _, _, _, t2, ?_⟩
  refine (of63 x h).mono ?_
  rintro _ h23 ⟨rfl, E⟩
  refine ⟨_, _, _, rfl, fun _ _ _ _ hv => hc_ext E hv, ?_⟩
  refine (of63 y h23).mono ?_
  rintro _ h28 ⟨rfl, E2⟩
  refine ⟨_, _, _, rfl, fun _ _ _ _ hv => hc_ext E2 hv, ?_⟩
  refine (compare104 x.ev y.ev h28).mono ?_
  rintro _ h31 ⟨rfl, E3⟩
  exact ⟨_, rfl, rfl, (E.trans E2).trans E3⟩
end M
end Go.VC
end
