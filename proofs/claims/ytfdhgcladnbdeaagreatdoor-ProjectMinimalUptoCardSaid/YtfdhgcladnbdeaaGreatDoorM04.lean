/- Texts of this claim, joined: PjL0, PjO0, PjQ0, PjR0, VcMap, PjT0, PjX0. -/
import Derived.Test.YtfdhgcladnbdeaaGreatDoorM03
import Derived.Maps.Keyed
import Derived.ChangeMaps5
import Derived.Carry
set_option linter.unusedVariables false
set_option linter.unusedSimpArgs false

section
/- Events in order; what is visible from sets. No program here. -/
namespace Go.VC

def cmpI (x y : Int) : Int := if x < y then -1 else if x > y then 1 else 0
def orI3 (x y : Int) : Int := if x ≠ 0 then x else y
def cmpE (x y : Ev) : Int := if x.send ≠ y.send then (if x.send then -1 else 1) else orI3 (cmpI x.peer y.peer) (cmpI x.label y.label)
def evLt (x y : Ev) : Prop := (x.send = true ∧ y.send = false) ∨ (x.send = y.send ∧ (x.peer < y.peer ∨ (x.peer = y.peer ∧ x.label < y.label)))
instance (x y : Ev) : Decidable (evLt x y) := by unfold evLt; infer_instance
theorem cmpI_neg {x y : Int} : cmpI x y < 0 ↔ x < y := by unfold cmpI; split <;> (try split) <;> omega
theorem cmpI_zero {x y : Int} : cmpI x y = 0 ↔ x = y := by unfold cmpI; split <;> (try split) <;> omega
theorem cmpE_neg {x y : Ev} : cmpE x y < 0 ↔ evLt x y := by
  unfold cmpE evLt orI3 cmpI
  obtain ⟨s, p, l⟩ := x
  obtain ⟨t, q, m⟩ := y
  cases s <;> cases t <;> simp <;> (repeat' split) <;> omega
theorem ev_ext {x y : Ev} (h1 : x.send = y.send) (h2 : x.peer = y.peer) (h3 : x.label = y.label) : x = y := by
  obtain ⟨s, p, l⟩ := x
  obtain ⟨t, q, m⟩ := y
  simp_all
theorem evLt_irr (x : Ev) : ¬ evLt x x := by unfold evLt; intro h; rcases h with ⟨h1, h2⟩ | ⟨_, h | ⟨_, h⟩⟩ <;> first | (rw [h1] at h2; cases h2) | omega
theorem evLt_trans {x y z : Ev} (h1 : evLt x y) (h2 : evLt y z) : evLt x z := by
  unfold evLt at *
  obtain ⟨s, p, l⟩ := x
  obtain ⟨t, q, m⟩ := y
  obtain ⟨u, r, n⟩ := z
  cases s <;> cases t <;> cases u <;> simp_all <;> omega
theorem evLt_tri (x y : Ev) : evLt x y ∨ x = y ∨ evLt y x := by
  unfold evLt
  obtain ⟨s, p, l⟩ := x
  obtain ⟨t, q, m⟩ := y
  cases s <;> cases t <;> simp <;> omega
/-- consecutive equal ones are struck -/
def compactL : List Ev → List Ev
  | [] => []
  | x :: r => match compactL r with
    | [] => [x]
    | y :: t => if x = y then y :: t else x :: y :: t
theorem compactL_mem : ∀ (l : List Ev) (x : Ev), x ∈ compactL l ↔ x ∈ l
  | [], x => by simp [compactL]
  | a :: r, x => by
    have ih := compactL_mem r
    rw [compactL]
    split
    · rename_i h
      rw [h] at ih
      have := ih x
      simp_all
    · rename_i y t h
      rw [h] at ih
      have h1 := ih x
      split
      · rename_i e; subst e
        have h2 := (ih a).1 (by simp)
        rw [h1]; simp only [List.mem_cons]
        constructor
        · exact .inr
        · rintro (rfl | h)
          · exact h2
          · exact h
      · rw [List.mem_cons, h1, List.mem_cons]
theorem compactL_head : ∀ (l : List Ev) (y : Ev) (t : List Ev), compactL l = y :: t → ∃ r, l = y :: r
  | [], y, t, h => by simp [compactL] at h
  | a :: r, y, t, h => by
    rw [compactL] at h
    split at h
    · simp at h; exact ⟨r, by rw [h.1]⟩
    · split at h
      · rename_i e; simp at h; exact ⟨r, by rw [e, h.1]⟩
      · simp at h; exact ⟨r, by rw [h.1]⟩
theorem compactL_sorted : ∀ (l : List Ev), l.Pairwise (fun a b => ¬ evLt b a) → (compactL l).Pairwise evLt
  | [], _ => by simp [compactL]
  | a :: r, h => by
    obtain ⟨h1, h2⟩ := List.pairwise_cons.1 h
    have ih := compactL_sorted r h2
    rw [compactL]
    split
    · simp
    · rename_i y t hc
      rw [hc] at ih
      split
      · exact ih
      · rename_i hne
        refine List.pairwise_cons.2 ⟨fun z hz => ?_, ih⟩
        have hay : evLt a y := by
          have hy : y ∈ r := (compactL_mem r y).1 (by rw [hc]; simp)
          rcases evLt_tri a y with h3 | h3 | h3
          · exact h3
          · exact absurd h3 hne
          · exact absurd h3 (h1 y hy)
        rcases List.mem_cons.1 hz with rfl | hz
        · exact hay
        · exact evLt_trans hay ((List.pairwise_cons.1 ih).1 z hz)
/-- strictly sorted lists with the same members are equal -/
theorem sorted_ext : ∀ (l m : List Ev), l.Pairwise evLt → m.Pairwise evLt → (∀ x, x ∈ l ↔ x ∈ m) → l = m
  | [], [], _, _, _ => rfl
  | [], b :: m, _, _, h => absurd ((h b).2 (by simp)) (by simp)
  | a :: l, [], _, _, h => absurd ((h a).1 (by simp)) (by simp)
  | a :: l, b :: m, hl, hm, h => by
    obtain ⟨h1, h2⟩ := List.pairwise_cons.1 hl
    obtain ⟨h3, h4⟩ := List.pairwise_cons.1 hm
    have hab : a = b := by
      rcases List.mem_cons.1 ((h a).1 (by simp)) with e | ha
      · exact e
      · rcases List.mem_cons.1 ((h b).2 (by simp)) with e | hb
        · exact e.symm
        · exact absurd (evLt_trans (h1 b hb) (h3 a ha)) (evLt_irr a)
    subst hab
    congr 1
    refine sorted_ext l m h2 h4 fun x => ?_
    have hx := h x
    rw [List.mem_cons, List.mem_cons] at hx
    constructor
    · intro hm'
      rcases hx.1 (.inr hm') with rfl | h5
      · exact absurd (h1 x hm') (evLt_irr x)
      · exact h5
    · intro hm'
      rcases hx.2 (.inr hm') with rfl | h5
      · exact absurd (h3 x hm') (evLt_irr x)
      · exact h5
/-- an event is put into a list in order -/
def insE (x : Ev) : List Ev → List Ev
  | [] => [x]
  | y :: r => if evLt y x then y :: insE x r else if x = y then y :: r else x :: y :: r
theorem insE_mem (x z : Ev) : ∀ l : List Ev, z ∈ insE x l ↔ z = x ∨ z ∈ l
  | [] => by simp [insE]
  | y :: r => by
    rw [insE]
    split
    · rw [List.mem_cons, insE_mem x z r, List.mem_cons]
      constructor
      · rintro (h | h | h)
        · exact .inr (.inl h)
        · exact .inl h
        · exact .inr (.inr h)
      · rintro (h | h | h)
        · exact .inr (.inl h)
        · exact .inl h
        · exact .inr (.inr h)
    · split
      · rename_i e; subst e; simp
      · simp
theorem insE_sorted (x : Ev) : ∀ l : List Ev, l.Pairwise evLt → (insE x l).Pairwise evLt
  | [], _ => by simp [insE]
  | y :: r, h => by
    obtain ⟨h1, h2⟩ := List.pairwise_cons.1 h
    rw [insE]
    split
    · rename_i hyx
      refine List.pairwise_cons.2 ⟨fun z hz => ?_, insE_sorted x r h2⟩
      rcases (insE_mem x z r).1 hz with rfl | hz
      · exact hyx
      · exact h1 z hz
    · split
      · exact h
      · rename_i hyx hne
        have hxy : evLt x y := by
          rcases evLt_tri x y with h3 | h3 | h3
          · exact h3
          · exact absurd h3 hne
          · exact absurd h3 hyx
        refine List.pairwise_cons.2 ⟨fun z hz => ?_, h⟩
        rcases List.mem_cons.1 hz with rfl | hz
        · exact hxy
        · exact evLt_trans hxy (h1 z hz)
def sortE (l : List Ev) : List Ev := l.foldr insE []
theorem sortE_mem (l : List Ev) (x : Ev) : x ∈ sortE l ↔ x ∈ l := by
  unfold sortE
  induction l with
  | nil => simp
  | cons a l ih => rw [List.foldr_cons, insE_mem, ih, List.mem_cons]
theorem sortE_sorted (l : List Ev) : (sortE l).Pairwise evLt := by
  unfold sortE
  induction l with
  | nil => simp
  | cons a l ih => exact insE_sorted a _ ih
theorem compact_sortE {l l' : List Ev} (hp : l'.Perm l) (hs : l'.Pairwise fun a b => ¬ evLt b a) : compactL l' = sortE l :=
  sorted_ext _ _ (compactL_sorted l' hs) (sortE_sorted l) fun x => by rw [compactL_mem, sortE_mem, hp.mem_iff]
/-- the members of a set below 4096, in order -/
def elems (p : Nat → Bool) : List Nat := (List.range 4096).filter p
theorem elems_mem {p : Nat → Bool} {j : Nat} : j ∈ elems p ↔ j < 4096 ∧ p j = true := by unfold elems; rw [List.mem_filter, List.mem_range]
/-- where an event leads from a set -/
def toL (es : List Ed) (role : Int) (p : Nat → Bool) (x : Ev) : List Int := (elems p).flatMap fun n => (visL es role n).filterMap fun a => if a.x = x then some a.to else none
/-- the events of a set, in order -/
def evL (es : List Ed) (role : Int) (p : Nat → Bool) : List Ev := (elems p).flatMap fun n => (visL es role n).map (·.x)
def evs (es : List Ed) (role : Int) (p : Nat → Bool) : List Ev := sortE (evL es role p)
end Go.VC
end

section
/- The view table, on lists. No program here. -/
namespace Go.VC

structure Mv where
  f : Int
  send : Bool
  peer : Int
  label : Int
  t : Int
  ag : Bool
  deriving DecidableEq
def Mv.cs (m : Mv) : List Value := [.int .i64 m.f, .bool m.send, .int .i64 m.peer, .int .i64 m.label, .int .i64 m.t, .bool m.ag]
abbrev PSet := Nat → Bool
open Classical in
/-- the index of a set, or how many there are -/
noncomputable def rowI : List PSet → PSet → Nat
  | [], _ => 0
  | q :: r, p => if q = p then 0 else rowI r p + 1
open Classical in
noncomputable def rowS (S : List PSet) (p : PSet) : List PSet := if p ∈ S then S else S ++ [p]
theorem rowI_lt {S : List PSet} {p : PSet} : rowI S p < S.length ↔ p ∈ S := by
  induction S with
  | nil => simp [rowI]
  | cons q r ih =>
    rw [rowI, List.mem_cons]
    split
    · rename_i h; simp [h]
    · rename_i h
      rw [List.length_cons]
      constructor
      · intro h1; exact .inr (ih.1 (by omega))
      · rintro (h1 | h1)
        · exact absurd h1.symm h
        · have := ih.2 h1; omega
theorem rowI_of_not {S : List PSet} {p : PSet} (h : p ∉ S) : rowI S p = S.length := by
  induction S with
  | nil => rfl
  | cons q r ih =>
    rw [List.mem_cons, not_or] at h
    rw [rowI, if_neg (fun e => h.1 e.symm), ih h.2, List.length_cons]
theorem rowI_first {S : List PSet} {p : PSet} {i : Nat} (hi : S[i]? = some p) (h : ∀ (j : Nat) (q : PSet), j < i → S[j]? = some q → q ≠ p) : rowI S p = i := by
  induction S generalizing i with
  | nil => simp at hi
  | cons q r ih =>
    cases i with
    | zero => simp at hi; rw [rowI, if_pos hi]
    | succ i =>
      rw [rowI, if_neg (h 0 q (by omega) rfl), ih (by simpa using hi) fun j q' hj hq => h (j + 1) q' (by omega) (by simpa using hq)]
/-- the arcs of a row, and the sets that come up -/
noncomputable def arcsF (es : List Ed) (role : Int) (i : Nat) (p : PSet) : List Ev → List PSet → List Mv → List PSet × List Mv
  | [], S, M => (S, M)
  | x :: r, S, M => arcsF es role i p r (rowS S (clo es role (toL es role p x))) (M ++ [⟨i, x.send, x.peer, x.label, rowI S (clo es role (toL es role p x)), false⟩])
/-- the table: f rows are left to do -/
noncomputable def viewsF (es : List Ed) (role : Int) : Nat → Nat → List PSet → List Mv → Option (List PSet × List Mv)
  | 0, _, _, _ => none
  | f + 1, i, S, M => match S[i]? with
    | none => some (S, M)
    | some p => if (arcsF es role i p (evs es role p) S M).1.length > 200 then none else viewsF es role f (i + 1) (arcsF es role i p (evs es role p) S M).1 (arcsF es role i p (evs es role p) S M).2
noncomputable def views (g : Gl) (role : Int) : Option (List PSet × List Mv) := viewsF g.es role 202 0 [clo g.es role [g.s]] []
end Go.VC
end

section
/- What a role has to know in all states, on lists. No program here. -/
namespace Go.VC

/-- a timing -/
structure Ti where
  ag : Bool
  k : Int
  x : Ev
  deriving DecidableEq
def Ti.cs (t : Ti) : List Value := [.bool t.ag, .int .i64 t.k, .bool t.x.send, .int .i64 t.x.peer, .int .i64 t.x.label]
def ti0 : Ti := ⟨false, 0, ⟨false, 0, 0⟩⟩
def updT (T : List Ti) (n : Nat) (f : Ti → Ti) : List Ti := match T[n]? with | some t => T.set n (f t) | none => T
def own1 (role : Int) (s : List Bool × List Ti) (x : Ed) : List Bool × List Ti :=
  if x.a = role then (s.1.set x.f.toNat true, updT s.2 x.f.toNat fun t => { t with ag := x.ag }) else s
def own2 (es : List Ed) (O : List Bool) (T : List Ti) (t : To) : List Ti :=
  match O[t.s.toNat]?, es[t.e.toNat]? with
  | some true, some x => updT T t.s.toNat fun q => ⟨q.ag, t.k, ⟨true, x.b, x.l⟩⟩
  | _, _ => T
theorem updT_len (T : List Ti) (n : Nat) (f : Ti → Ti) : (updT T n f).length = T.length := by
  unfold updT; split
  · rw [List.length_set]
  · rfl
theorem own1_len (role : Int) (s : List Bool × List Ti) (x : Ed) : (own1 role s x).1.length = s.1.length ∧ (own1 role s x).2.length = s.2.length := by
  unfold own1; split
  · exact ⟨List.length_set, updT_len _ _ _⟩
  · exact ⟨rfl, rfl⟩
theorem own2_len (es : List Ed) (O : List Bool) (T : List Ti) (t : To) : (own2 es O T t).length = T.length := by
  unfold own2; split
  · exact updT_len _ _ _
  · rfl
/-- what is known of the states behind the edges es, and behind the time limits ts -/
def ownE (es : List Ed) (role : Int) (n : Nat) : List Bool × List Ti := es.foldl (own1 role) (List.replicate n false, List.replicate n ti0)
def ownT (es : List Ed) (ts : List To) (role : Int) (n : Nat) : List Ti := ts.foldl (own2 es (ownE es role n).1) (ownE es role n).2
theorem ownE_len (es : List Ed) (role : Int) (n : Nat) : (ownE es role n).1.length = n ∧ (ownE es role n).2.length = n := by
  unfold ownE
  suffices h : ∀ (l : List Ed) (s : List Bool × List Ti), (l.foldl (own1 role) s).1.length = s.1.length ∧ (l.foldl (own1 role) s).2.length = s.2.length by
    have := h es (List.replicate n false, List.replicate n ti0)
    simpa using this
  intro l
  induction l with
  | nil => intro s; exact ⟨rfl, rfl⟩
  | cons a l ih => intro s; rw [List.foldl_cons]; have h1 := ih (own1 role s a); have h2 := own1_len role s a; exact ⟨h1.1.trans h2.1, h1.2.trans h2.2⟩
theorem ownT_len (es : List Ed) (ts : List To) (role : Int) (n : Nat) : (ownT es ts role n).length = n := by
  unfold ownT
  suffices h : ∀ (l : List To) (T : List Ti), (l.foldl (own2 es (ownE es role n).1) T).length = T.length from (h ts _).trans (ownE_len es role n).2
  intro l
  induction l with
  | nil => intro s; rfl
  | cons a l ih => intro s; rw [List.foldl_cons, ih, own2_len]
theorem foldl_snoc {α β : Type} {f : β → α → β} {b : β} {l : List α} {i : Nat} {x : α} (h : l[i]? = some x) : (l.take (i + 1)).foldl f b = f ((l.take i).foldl f b) x := by
  rw [List.take_add_one, h, List.foldl_append]; rfl
/-- cells of a row of an own slice are written -/
theorem St.setf {α : Type} {h0 h : Heap} {L : List It} (hs : St h0 h L) (k : Nat) {s : Sl} {e : TypeId} {n : Nat} {cs : α → List Value} {l : List α} (hk : L[k]? = some (.sl s e n (l.map cs))) (hn : 0 < n) {x : Int} (hx0 : 0 ≤ x) (hx1 : x < (s.n : Nat)) (j : Nat) {y : α} (hy : l[x.toNat]? = some y) (y' : α) {vs : List Value} (hsp : splice (cs y) j vs = cs y')
    (hv : j + vs.length ≤ n) {m : Nat} (hm : m = vs.length) {K : Nat → Nat → Heap → Prop} (hK : ∀ b o h', St h0 h' (L.set k (.sl s e n ((l.set x.toNat y').map cs))) → K b o h') :
    NB s.a fun b o => (0 ≤ x ∧ x < (s.n : Nat)) ∧ (okAt h ⟨b, o + x.toNat * n + j, none⟩ m ∧ ∀ h', h' = hputs h ⟨b, o + x.toNat * n + j, none⟩ 0 vs → K b o h') := by
  refine hs.nbput k hk hn (i := x.toNat) (row := cs y) (by rw [List.getElem?_map, hy]; rfl) j hv (fun b o h' h1 => hK b o h' ?_) hm ⟨hx0, hx1⟩
  rw [hsp] at h1
  rw [List.map_set]
  exact h1
theorem updT_get {T : List Ti} {n : Nat} {f : Ti → Ti} {t : Ti} (h : T[n]? = some t) : updT T n f = T.set n (f t) := by unfold updT; rw [h]
end Go.VC
end

section
/- The timing of a view, on lists. No program here. -/
namespace Go.VC

def sndAt (L : List Ev) (i : Nat) : Bool := match L[i]? with | some x => x.send | none => false
/-- the sending conditions fail at n -/
def badV (F : Nat → List Ev) (en : Nat → Bool) (l : List Nat) (n : Nat) : Bool := sndAt (F n) 0 && (en n || !sndAt (F n) ((F n).length - 1) || l.any fun k => en k || decide (F n ≠ F k))
def stepV (F : Nat → List Ev) (en : Nat → Bool) (O : List Bool) (T : List Ti) (l : List Nat) (st : Option (Bool × Ti)) (n : Nat) : Option (Bool × Ti) :=
  match st with
  | none => none
  | some (k, o) => if badV F en l n then none else match O[n]?, T[n]? with
    | some true, some t => if k && decide (t ≠ o) then none else some (true, t)
    | _, _ => some (k, o)
def viewV (F : Nat → List Ev) (en : Nat → Bool) (O : List Bool) (T : List Ti) (l : List Nat) : Option Ti := (l.foldl (stepV F en O T l) (some (false, ti0))).map Prod.snd
theorem stepV_none (F : Nat → List Ev) (en : Nat → Bool) (O : List Bool) (T : List Ti) (l m : List Nat) : m.foldl (stepV F en O T l) none = none := by
  induction m with
  | nil => rfl
  | cons a m ih => rw [List.foldl_cons]; exact ih
theorem viewV_none {F : Nat → List Ev} {en : Nat → Bool} {O : List Bool} {T : List Ti} {l : List Nat} {i : Nat} {b : Option (Bool × Ti)} {n : Nat} (hb : (l.take i).foldl (stepV F en O T l) (some (false, ti0)) = b) (hn : l[i]? = some n) (h : stepV F en O T l b n = none) : viewV F en O T l = none := by
  unfold viewV
  have e : l = l.take i ++ (n :: l.drop (i + 1)) := by
    have := List.take_append_drop i l
    obtain ⟨h1, h2⟩ := List.getElem?_eq_some_iff.1 hn
    rw [List.drop_eq_getElem_cons h1, h2] at this
    exact this.symm
  have e2 : l.foldl (stepV F en O T l) (some (false, ti0)) = none := by
    have : ∀ m, m = l → m.foldl (stepV F en O T l) (some (false, ti0)) = none := by
      intro m hm
      rw [hm.trans e, List.foldl_append, hb, List.foldl_cons, h, stepV_none]
    exact this l rfl
  rw [e2]; rfl
theorem ti_eqb (x y : Ti) : (((x.ag == y.ag) && ((x.k == y.k) && (((x.x.send == y.x.send) && ((x.x.peer == y.x.peer) && ((x.x.label == y.x.label) && true))) && true))) : Bool) = decide (x = y) := by
  obtain ⟨a, k, ⟨s, p, l⟩⟩ := x
  obtain ⟨a', k', ⟨s', p', l'⟩⟩ := y
  simp [Bool.beq_eq_decide_eq, ← Bool.decide_and]
theorem Rw.atI {α : Type} {h : Heap} {k : Nat} {s : Sl} {cs : α → List Value} {L : List α} (hr : Rw h k s (L.map cs)) {b o : Nat} (ha : s.a = some ⟨b, o, none⟩) {i : Nat} {y : α} (hi : L[i]? = some y) : atC h ⟨b, o + i * k, none⟩ (cs y) := by
  obtain ⟨b', o', ha', hall⟩ := hr.2 (by rw [List.length_map]; have := (List.getElem?_eq_some_iff.1 hi).1; omega)
  rw [ha] at ha'
  cases ha'
  exact hall i (cs y) (by rw [List.getElem?_map, hi]; rfl)
/-- a row of an own slice is read, and cells of it are written later -/
theorem St.nbw {α : Type} {h0 h : Heap} {L : List It} (hs : St h0 h L) (k : Nat) {s : Sl} {e : TypeId} {n : Nat} {cs : α → List Value} {l : List α} (hk : L[k]? = some (.sl s e n (l.map cs))) (hn : 0 < n) {x : Int} (hx0 : 0 ≤ x) (hx1 : x < (s.n : Nat)) {F : Nat → Nat → Prop}
    (hF : ∀ b o y, l[x.toNat]? = some y → s.a = some ⟨b, o, none⟩ → atC h ⟨b, o + x.toNat * n, none⟩ (cs y) → (∀ (j : Nat) (y' : α) (vs : List Value), splice (cs y) j vs = cs y' → j + vs.length ≤ n → ∀ {m : Nat} (_ : m = vs.length) {K : Heap → Prop}, (∀ h', St h0 h' (L.set k (.sl s e n ((l.set x.toNat y').map cs))) → K h') →
      okAt h ⟨b, o + x.toNat * n + j, none⟩ m ∧ ∀ h', h' = hputs h ⟨b, o + x.toNat * n + j, none⟩ 0 vs → K h') → F b o) : NB s.a fun b o => (0 ≤ x ∧ x < (s.n : Nat)) ∧ F b o := by
  have hr := hs.rows k hk hn
  have hl := hr.ln
  have hlt : x.toNat < l.length := by omega
  have hg : l[x.toNat]? = some l[x.toNat] := List.getElem?_eq_getElem hlt
  refine hr.nb (i := x.toNat) (row := cs l[x.toNat]) (by rw [List.getElem?_map, hg]; rfl) fun b o ha hat => ⟨⟨hx0, hx1⟩, hF b o _ hg ha hat ?_⟩
  intro j y' vs hsp hv m hm K hK
  have h1 := hs.setf k hk hn hx0 hx1 j hg y' hsp hv hm (K := fun _ _ h' => K h') (fun _ _ h' h2 => hK h' h2)
  rw [ha, NB_some] at h1
  exact h1.2
/-- an endpoint machine -/
structure Mch where
  role : Int
  n : Int
  s : Int
  fin : List Bool
  mv : List Mv
  li : List To
def updR (n : Nat) (x : Ti) (y : Mv) : Mv := if y.f = n ∧ y.send = true then { y with ag := x.ag } else y
def limC (n : Nat) (x : Ti) (q : Mv × Nat) : Option To := if q.1.f = n ∧ q.1.send = true ∧ x.k > 0 ∧ x.x = ⟨true, q.1.peer, q.1.label⟩ then some ⟨n, x.k, q.2⟩ else none
def limR (n : Nat) (x : Ti) (M : List Mv) : List To := M.zipIdx.filterMap (limC n x)
def rawL (vw : List Nat → Option Ti) : Nat → List PSet → List Mv → List To → Option (List Mv × List To)
  | _, [], M, L => some (M, L)
  | n, p :: S, M, L => match vw (elems p) with
    | none => none
    | some x => rawL vw (n + 1) S (M.map (updR n x)) (L ++ limR n x M)
theorem updR_same (n : Nat) (x : Ti) (y : Mv) : (updR n x y).f = y.f ∧ (updR n x y).send = y.send ∧ (updR n x y).peer = y.peer ∧ (updR n x y).label = y.label ∧ (updR n x y).t = y.t := by
  unfold updR; split <;> exact ⟨rfl, rfl, rfl, rfl, rfl⟩
theorem limR_len (n : Nat) (x : Ti) (M : List Mv) : (limR n x M).length ≤ M.length := by
  unfold limR
  refine Nat.le_trans (List.length_filterMap_le _ _) ?_
  rw [List.length_zipIdx]; exact Nat.le_refl _
theorem zip_snoc {α : Type} {l : List α} {i : Nat} {x : α} (h : l[i]? = some x) : (l.take (i + 1)).zipIdx = (l.take i).zipIdx ++ [(x, i)] := by
  rw [take_snoc h, List.zipIdx_append, List.length_take, Nat.min_eq_left (Nat.le_of_lt (List.getElem?_eq_some_iff.1 h).1)]
  simp
theorem set_split {α : Type} {i : Nat} {x y : α} (f : α → α) {M : List α} (h : M[i]? = some x) (hy : f x = y) : ((M.take i).map f ++ M.drop i).set i y = (M.take (i + 1)).map f ++ M.drop (i + 1) := by
  obtain ⟨h1, h2⟩ := List.getElem?_eq_some_iff.1 h
  have hl : ((M.take i).map f).length = i := by rw [List.length_map, List.length_take]; omega
  rw [take_snoc h, List.map_append, List.drop_eq_getElem_cons h1, List.set_append_right _ _ (by omega), hl, Nat.sub_self, List.set_cons_zero, List.append_assoc, ← hy]
  rfl
theorem get_split {α : Type} {i : Nat} {f : α → α} {M : List α} : ((M.take i).map f ++ M.drop i)[i]? = M[i]? := by
  by_cases hi : i ≤ M.length
  · have hl : ((M.take i).map f).length = i := by rw [List.length_map, List.length_take]; omega
    rw [List.getElem?_append_right (by omega), hl, Nat.sub_self, List.getElem?_drop, Nat.add_zero]
  · rw [List.getElem?_eq_none (by rw [List.length_append, List.length_map, List.length_take, List.length_drop]; omega), List.getElem?_eq_none (by omega)]
end Go.VC
end

section
/- For every program: maps of the call's own, as lists of keys and elements. -/
namespace Go.VC
open Go.RowKit Go.Maps Go.ChangeMaps
set_option maxRecDepth 100000

def mget {α β : Type} [DecidableEq α] : List (α × β) → α → Option β
  | [], _ => none
  | (x, y) :: r, a => if x = a then some y else mget r a
def mset {α β : Type} [DecidableEq α] : List (α × β) → α → β → List (α × β)
  | [], a, b => [(a, b)]
  | (x, y) :: r, a, b => if x = a then (x, b) :: r else (x, y) :: mset r a b
theorem mget_none {α β : Type} [DecidableEq α] {a : α} : ∀ {l : List (α × β)}, (∀ q ∈ l, q.1 ≠ a) → mget l a = none
  | [], _ => rfl
  | (x, y) :: r, h => by rw [mget, if_neg (h (x, y) (by simp))]; exact mget_none fun q hq => h q (List.mem_cons_of_mem _ hq)
theorem mget_some {α β : Type} [DecidableEq α] {a : α} {y : β} : ∀ {l : List (α × β)} {j : Nat}, (l.map Prod.fst).Nodup → l[j]? = some (a, y) → mget l a = some y
  | [], j, _, h => by simp at h
  | (x, z) :: r, 0, _, h => by simp at h; rw [mget, if_pos h.1, h.2]
  | (x, z) :: r, j + 1, hn, h => by
    rw [List.getElem?_cons_succ] at h
    rw [List.map_cons, List.nodup_cons] at hn
    have : x ≠ a := fun e => hn.1 (by subst e; exact List.mem_map.2 ⟨_, List.mem_of_getElem? h, rfl⟩)
    rw [mget, if_neg this]
    exact mget_some hn.2 h
theorem mset_none {α β : Type} [DecidableEq α] {a : α} {b : β} : ∀ {l : List (α × β)}, (∀ q ∈ l, q.1 ≠ a) → mset l a b = l ++ [(a, b)]
  | [], _ => rfl
  | (x, y) :: r, h => by rw [mset, if_neg (h (x, y) (by simp)), mset_none fun q hq => h q (List.mem_cons_of_mem _ hq)]; rfl
theorem mset_some {α β : Type} [DecidableEq α] {a : α} {y b : β} : ∀ {l : List (α × β)} {j : Nat}, (l.map Prod.fst).Nodup → l[j]? = some (a, y) → mset l a b = l.set j (a, b)
  | [], j, _, h => by simp at h
  | (x, z) :: r, 0, _, h => by simp at h; rw [mset, if_pos h.1, List.set_cons_zero, h.1]
  | (x, z) :: r, j + 1, hn, h => by
    rw [List.getElem?_cons_succ] at h
    rw [List.map_cons, List.nodup_cons] at hn
    have : x ≠ a := fun e => hn.1 (by subst e; exact List.mem_map.2 ⟨_, List.mem_of_getElem? h, rfl⟩)
    rw [mset, if_neg this, List.set_cons_succ, mset_some hn.2 h]
theorem mset_keys {α β : Type} [DecidableEq α] (a : α) (b : β) : ∀ (l : List (α × β)) (x : α), x ∈ (mset l a b).map Prod.fst ↔ x ∈ l.map Prod.fst ∨ x = a
  | [], x => by simp [mset]
  | (c, y) :: r, x => by
    rw [mset]
    split
    · rename_i h; subst h
      simp only [List.map_cons, List.mem_cons]
      constructor
      · intro h; exact .inl h
      · rintro (h | rfl)
        · exact h
        · exact .inl rfl
    · simp only [List.map_cons, List.mem_cons, mset_keys a b r x]
      constructor
      · rintro (h | h | h)
        · exact .inl (.inl h)
        · exact .inl (.inr h)
        · exact .inr h
      · rintro ((h | h) | h)
        · exact .inl h
        · exact .inr (.inl h)
        · exact .inr (.inr h)
theorem mset_nodup {α β : Type} [DecidableEq α] (a : α) (b : β) : ∀ (l : List (α × β)), (l.map Prod.fst).Nodup → ((mset l a b).map Prod.fst).Nodup
  | [], _ => by simp [mset]
  | (c, y) :: r, h => by
    rw [mset]
    split
    · exact h
    · rename_i hne
      rw [List.map_cons, List.nodup_cons] at h ⊢
      refine ⟨fun hm => ?_, mset_nodup a b r h.2⟩
      rcases (mset_keys a b r c).1 hm with h1 | h1
      · exact h.1 h1
      · exact hne h1
theorem mset_len {α β : Type} [DecidableEq α] (a : α) (b : β) : ∀ (l : List (α × β)), (mset l a b).length ≤ l.length + 1
  | [] => by simp [mset]
  | (c, y) :: r => by
    rw [mset]
    split
    · simp
    · have := mset_len a b r; simp only [List.length_cons]; omega
theorem St.mmake {P : Program} {h0 h : Heap} {L : List It} (hs : St h0 h L) (t : TypeId) {K : Value → Heap → Prop} (hK : ∀ h', Ext h h' → St h0 h' (.mp h.size [] :: L) → K (.map (some h.size)) h') : RunW P (Instr.makeMap t none) h K := by
  intro w hw
  subst hw
  have hE : Ext w.heap (w.alloc (.map #[] 0)).heap := ⟨by show _ ≤ (w.heap.push _).size; rw [Array.size_push]; omega, fun i hi => (MapKept.heap_alloc w _).2 i hi⟩
  refine ⟨_, _, run_makeMap t w, ?_, rfl, rfl, rfl⟩
  refine hK _ hE (hs.more hE (i := .mp w.heap.size []) ⟨#[], 0, (MapKept.heap_alloc w _).1, rfl⟩ fun b hb => ?_)
  cases hb; exact Nat.le_refl _
section
variable {α β : Type} {P : Program} {t kt e : TypeId} {ck : α → Value} {cv : β → Value} {kok : α → Prop}
/-- what a map's type gives -/
structure MT (P : Program) (t kt e : TypeId) (ck : α → Value) (kok : α → Prop) (z : Value) : Prop where
  K : Keyed P kt
  ht : P.underlying t = some (.map kt e)
  key : ∀ a, kok a → ∃ l, keyOf P kt (ck a) = some l
  inj : ∀ a a', ck a = ck a' → a = a'
  z : ∀ w, (zeroValue e).run P w = .ok z w
theorem mp_find {z : Value} (M : MT P t kt e ck kok z) {l : List (α × β)} {es : Array MapEntry} (he : es.toList.map (fun e : MapEntry => (e.key, e.val)) = l.map fun q => (ck q.1, cv q.2)) (hl : ∀ q ∈ l, kok q.1) {a : α} (ha : kok a) (w : World) :
    ((Instr.findKey kt (ck a) es.toList).run P w = .ok none w ∧ ∀ q ∈ l, q.1 ≠ a) ∨ ∃ j y e0, (Instr.findKey kt (ck a) es.toList).run P w = .ok (some (j, cv y)) w ∧ l[j]? = some (a, y) ∧ es.toList[j]? = some e0 ∧ e0.key = ck a ∧ e0.val = cv y := by
  obtain ⟨lx, hlx⟩ := M.key a ha
  have hget : ∀ (j : Nat) (e0 : MapEntry), es.toList[j]? = some e0 → ∃ q, l[j]? = some q ∧ e0.key = ck q.1 ∧ e0.val = cv q.2 := fun j e0 h => by
    have h1 := congrArg (·[j]?) he
    simp only [List.getElem?_map, h, Option.map_some] at h1
    obtain ⟨q, hq, h2⟩ := Option.map_eq_some_iff.1 h1.symm
    exact ⟨q, hq, (Prod.mk.inj h2).1.symm, (Prod.mk.inj h2).2.symm⟩
  have hks : ∀ e0 ∈ es.toList, ∃ l, keyOf P kt e0.key = some l := fun e0 hm => by
    obtain ⟨j, hj⟩ := List.mem_iff_getElem?.1 hm
    obtain ⟨q, hq, h2, _⟩ := hget j e0 hj
    rw [h2]; exact M.key _ (hl q (List.mem_of_getElem? hq))
  rcases M.K.find w hlx es.toList hks with ⟨h1, h2⟩ | ⟨j, e0, h1, h2, h3⟩
  · refine .inl ⟨h1, fun q hq hc => ?_⟩
    obtain ⟨j, hj⟩ := List.mem_iff_getElem?.1 hq
    have h4 := congrArg (·[j]?) he
    simp only [List.getElem?_map, hj, Option.map_some] at h4
    obtain ⟨e0, he0, h5⟩ := Option.map_eq_some_iff.1 h4
    exact h2 e0 (List.mem_of_getElem? he0) (by rw [(Prod.mk.inj h5).1, hc])
  · obtain ⟨q, hq, h4, h5⟩ := hget j e0 h2
    have : q.1 = a := M.inj _ _ (by rw [← h4, h3])
    obtain ⟨q1, q2⟩ := q
    cases this
    exact .inr ⟨j, q2, e0, by rw [h1, h5], hq, h2, h3, h5⟩
theorem St.mlook [DecidableEq α] {z : Value} (M : MT P t kt e ck kok z) {h0 h : Heap} {L : List It} (hs : St h0 h L) (k : Nat) {b : Nat} {l : List (α × β)} (hk : L[k]? = some (.mp b (l.map fun q => (ck q.1, cv q.2)))) (hl : ∀ q ∈ l, kok q.1) (hn : (l.map Prod.fst).Nodup) {a : α} (ha : kok a) (c : Bool) {R : Value → Heap → Prop}
    (hR : R (match mget l a with | none => if c then .tuple ⟨[z, .bool false]⟩ else z | some y => if c then .tuple ⟨[cv y, .bool true]⟩ else cv y) h) : RunW P (Instr.lookup t (.map (some b)) (ck a) c) h R := by
  intro w hw
  subst hw
  obtain ⟨es, clock, hb, he⟩ := hs.get hk
  obtain ⟨lx, hlx⟩ := M.key a ha
  rcases mp_find (cv := cv) M he hl ha w with ⟨h1, h2⟩ | ⟨j, y, e0, h1, h2, h3, h4, h5⟩
  · rw [mget_none h2] at hR
    refine ⟨_, w, ?_, hR, rfl, rfl, rfl⟩
    simp [Instr.lookup, run_underlying M.ht, MapKept.run_getObj_map hb, M.K.check w _ hlx, h1, M.z w, Result.andThen]
  · rw [mget_some hn h2] at hR
    refine ⟨_, w, ?_, hR, rfl, rfl, rfl⟩
    simp [Instr.lookup, run_underlying M.ht, MapKept.run_getObj_map hb, M.K.check w _ hlx, h1, Result.andThen]
theorem St.mlookOk [DecidableEq α] {z : Value} (M : MT P t kt e ck kok z) {h0 h : Heap} {L : List It} (hs : St h0 h L) (k : Nat) {b : Nat} {l : List (α × β)} (hk : L[k]? = some (.mp b (l.map fun q => (ck q.1, cv q.2)))) (hl : ∀ q ∈ l, kok q.1) (hn : (l.map Prod.fst).Nodup) {a : α} (ha : kok a) {R : Value → Heap → Prop}
    (hR : R (.tuple ⟨[(mget l a).elim z cv, .bool (mget l a).isSome]⟩) h) : RunW P (Instr.lookup t (.map (some b)) (ck a) true) h R := by
  refine hs.mlook M k hk hl hn ha true ?_
  generalize mget l a = o at *
  cases o <;> exact hR
theorem St.mlen {z : Value} (M : MT P t kt e ck kok z) {h0 h : Heap} {L : List It} (hs : St h0 h L) (k : Nat) {b : Nat} {l : List (α × β)} (hk : L[k]? = some (.mp b (l.map fun q => (ck q.1, cv q.2)))) {ty : TypeId} {R : Value → Heap → Prop}
    (hR : R (.int .i64 (l.length : Nat)) h) : RunW P (Builtin.len_ #[t] ty #[.map (some b)]) h R := by
  intro w hw
  subst hw
  obtain ⟨es, clock, hb, he⟩ := hs.get hk
  have e1 : es.size = l.length := by have := congrArg List.length he; simpa using this
  refine ⟨_, w, ?_, hR, rfl, rfl, rfl⟩
  rw [← e1]
  simp [Builtin.len_, run_underlying M.ht, MapKept.run_getObj_map hb, goInt, Result.andThen]
theorem St.mput [DecidableEq α] {z : Value} (M : MT P t kt e ck kok z) {h0 h : Heap} {L : List It} (hs : St h0 h L) (k : Nat) {b : Nat} {l : List (α × β)} (hk : L[k]? = some (.mp b (l.map fun q => (ck q.1, cv q.2)))) (hl : ∀ q ∈ l, kok q.1) (hn : (l.map Prod.fst).Nodup) {a : α} (ha : kok a) (y : β) {R : Unit → Heap → Prop}
    (hR : ∀ h', St h0 h' (L.set k (.mp b ((mset l a y).map fun q => (ck q.1, cv q.2)))) → R () h') : RunW P (Instr.mapUpdate t (.map (some b)) (ck a) (cv y)) h R := by
  intro w hw
  subst hw
  obtain ⟨es, clock, hb, he⟩ := hs.get hk
  obtain ⟨lx, hlx⟩ := M.key a ha
  have fin : ∀ (es' : Array MapEntry) (clock' : Nat), es'.toList.map (fun e : MapEntry => (e.key, e.val)) = ((mset l a y).map fun q => (ck q.1, cv q.2)) → R () (setBlock w b (.map es' clock')).heap := by
    intro es' clock' he'
    refine hR _ (hs.turn hk (j := .mp b ((mset l a y).map fun q => (ck q.1, cv q.2))) ?_ ⟨es', clock', heap_setBlock_same hb _, he'⟩ (fun c hc => .inr hc) fun c _ hc => heap_setBlock_other hb _ fun e => hc (by rw [e]; rfl))
    show w.heap.size ≤ (w.heap.setIfInBounds b _).size
    rw [Array.size_setIfInBounds]; exact Nat.le_refl _
  rcases mp_find (cv := cv) M he hl ha w with ⟨h1, h2⟩ | ⟨j, y0, e0, h1, h2, h3, h4, h5⟩
  · refine ⟨(), setBlock w b (.map (es.push ⟨ck a, cv y, clock⟩) (clock + 1)), ?_, fin _ _ ?_, rfl, rfl, rfl⟩
    · simp [Instr.mapUpdate, run_underlying M.ht, MapKept.run_getObj_map hb, M.K.check w false hlx, h1, MapKept.run_setObj_map _ hb, Result.andThen, setBlock]
    · rw [mset_none h2, Array.toList_push, List.map_append, he, List.map_append]; rfl
  · have hj : es[j]? = some e0 := by simpa using h3
    have hlist : (es.modify j (fun e' => { e' with key := ck a, val := cv y })).toList = es.toList.set j { e0 with key := ck a, val := cv y } := by rw [Array.toList_modify, modify_eq_set _ _ _ _ h3]
    refine ⟨(), setBlock w b (.map (es.modify j (fun e' => { e' with key := ck a, val := cv y })) clock), ?_, fin _ _ ?_, rfl, rfl, rfl⟩
    · simp [Instr.mapUpdate, run_underlying M.ht, MapKept.run_getObj_map hb, M.K.check w false hlx, h1, hj, h4, M.K.stays w hlx, MapKept.run_setObj_map _ hb, Result.andThen, setBlock]
    · rw [mset_some hn h2, hlist, List.map_set, he, List.map_set]
end
end Go.VC
end

section
/- Classes of states, on lists. No program here. -/
namespace Go.VC

/-- what has been seen first, in order -/
def dedF {K : Type} [DecidableEq K] (l : List K) : List K := l.foldl (fun a k => if k ∈ a then a else a ++ [k]) []
def idxF {K : Type} [DecidableEq K] : List K → K → Nat
  | [], _ => 0
  | x :: r, k => if x = k then 0 else idxF r k + 1
/-- numbers in the order of the first places -/
def canonL {K : Type} [DecidableEq K] (l : List K) : List Nat := l.map (idxF (dedF l))
section
variable {K K' : Type} [DecidableEq K] [DecidableEq K']
theorem dedF_snoc (l : List K) (k : K) : dedF (l ++ [k]) = if k ∈ dedF l then dedF l else dedF l ++ [k] := by unfold dedF; rw [List.foldl_append]; rfl
theorem dedF_take {l : List K} {i : Nat} {k : K} (h : l[i]? = some k) : dedF (l.take (i + 1)) = if k ∈ dedF (l.take i) then dedF (l.take i) else dedF (l.take i) ++ [k] := by rw [take_snoc h, dedF_snoc]
theorem dedF_mem (l : List K) (k : K) : k ∈ dedF l ↔ k ∈ l := by
  suffices h : ∀ (m a : List K), k ∈ m.foldl (fun a k => if k ∈ a then a else a ++ [k]) a ↔ k ∈ a ∨ k ∈ m by have := h l []; simpa [dedF] using this
  intro m
  induction m with
  | nil => intro a; simp
  | cons x r ih =>
    intro a
    rw [List.foldl_cons, ih]
    split
    · rename_i hx
      rw [List.mem_cons]
      constructor
      · rintro (h | h)
        · exact .inl h
        · exact .inr (.inr h)
      · rintro (h | rfl | h)
        · exact .inl h
        · exact .inl hx
        · exact .inr h
    · rw [List.mem_append, List.mem_singleton, List.mem_cons]
      constructor
      · rintro ((h | h) | h)
        · exact .inl h
        · exact .inr (.inl h)
        · exact .inr (.inr h)
      · rintro (h | h | h)
        · exact .inl (.inl h)
        · exact .inl (.inr h)
        · exact .inr h
theorem idxF_mem {l : List K} {k : K} (h : k ∈ l) (m : List K) : idxF (l ++ m) k = idxF l k := by
  induction l with
  | nil => cases h
  | cons x r ih =>
    rw [List.cons_append, idxF, idxF]
    split
    · rfl
    · rename_i hx
      rw [ih (by rcases List.mem_cons.1 h with h | h; exact absurd h.symm hx; exact h)]
theorem idxF_not {l : List K} {k : K} (h : k ∉ l) : idxF l k = l.length := by
  induction l with
  | nil => rfl
  | cons x r ih =>
    rw [List.mem_cons, not_or] at h
    rw [idxF, if_neg (fun e => h.1 e.symm), ih h.2, List.length_cons]
theorem idxF_lt {l : List K} {k : K} (h : k ∈ l) : idxF l k < l.length := by
  induction l with
  | nil => cases h
  | cons x r ih =>
    rw [idxF, List.length_cons]
    split
    · omega
    · rename_i hx
      have := ih (by rcases List.mem_cons.1 h with h | h; exact absurd h.symm hx; exact h)
      omega
theorem idxF_inj {l : List K} {a b : K} (ha : a ∈ l) (h : idxF l a = idxF l b) : a = b := by
  induction l with
  | nil => cases ha
  | cons x r ih =>
    rw [idxF, idxF] at h
    split at h <;> split at h
    · rename_i h1 h2; rw [← h1, ← h2]
    · omega
    · omega
    · rename_i h1 _
      exact ih (by rcases List.mem_cons.1 ha with h | h; exact absurd h.symm h1; exact h) (by omega)
/-- lists with the same pattern of equal elements have the same numbers -/
theorem canon_pat {l : List K} {l' : List K'} (hl : l.length = l'.length) (hp : ∀ (i j : Nat) (a b : K) (a' b' : K'), l[i]? = some a → l[j]? = some b → l'[i]? = some a' → l'[j]? = some b' → (a = b ↔ a' = b')) :
    ∀ n, n ≤ l.length → (dedF (l.take n)).length = (dedF (l'.take n)).length ∧ ∀ (j : Nat) (a : K) (a' : K'), j < n → l[j]? = some a → l'[j]? = some a' → idxF (dedF (l.take n)) a = idxF (dedF (l'.take n)) a'
  | 0, _ => ⟨rfl, fun j _ _ hj => by omega⟩
  | n + 1, hn => by
    obtain ⟨h1, h2⟩ := canon_pat hl hp n (by omega)
    obtain ⟨x, hx⟩ := get_some (l := l) (i := n) (by omega)
    obtain ⟨x', hx'⟩ := get_some (l := l') (i := n) (by omega)
    have hmem : x ∈ dedF (l.take n) ↔ x' ∈ dedF (l'.take n) := by
      rw [dedF_mem, dedF_mem]
      constructor
      · intro h
        obtain ⟨j, hj⟩ := List.mem_iff_getElem?.1 h
        have hjn : j < n := by have := (List.getElem?_eq_some_iff.1 hj).1; rw [List.length_take] at this; omega
        rw [List.getElem?_take, if_pos hjn] at hj
        obtain ⟨y', hy'⟩ := get_some (l := l') (i := j) (by omega)
        have := (hp j n x x y' x' hj hx hy' hx').1 rfl
        subst this
        exact List.mem_of_getElem? (i := j) (by rw [List.getElem?_take, if_pos hjn]; exact hy')
      · intro h
        obtain ⟨j, hj⟩ := List.mem_iff_getElem?.1 h
        have hjn : j < n := by have := (List.getElem?_eq_some_iff.1 hj).1; rw [List.length_take] at this; omega
        rw [List.getElem?_take, if_pos hjn] at hj
        obtain ⟨y, hy⟩ := get_some (l := l) (i := j) (by omega)
        have := (hp j n y x x' x' hy hx hj hx').2 rfl
        subst this
        exact List.mem_of_getElem? (i := j) (by rw [List.getElem?_take, if_pos hjn]; exact hy)
    rw [dedF_take hx, dedF_take hx']
    by_cases hm : x ∈ dedF (l.take n)
    · rw [if_pos hm, if_pos (hmem.1 hm)]
      refine ⟨h1, fun j a a' hj ha ha' => ?_⟩
      by_cases e : j = n
      · subst e
        rw [hx] at ha; cases ha
        rw [hx'] at ha'; cases ha'
        obtain ⟨i, hi⟩ := List.mem_iff_getElem?.1 ((dedF_mem _ _).1 hm)
        have hin : i < j := by have := (List.getElem?_eq_some_iff.1 hi).1; rw [List.length_take] at this; omega
        rw [List.getElem?_take, if_pos hin] at hi
        obtain ⟨y', hy'⟩ := get_some (l := l') (i := i) (by omega)
        have := (hp i j x x y' x' hi hx hy' hx').1 rfl
        rw [h2 i x y' hin hi hy', this]
      · exact h2 j a a' (by omega) ha ha'
    · rw [if_neg hm, if_neg (fun h => hm (hmem.2 h))]
      refine ⟨by rw [List.length_append, List.length_append, h1]; rfl, fun j a a' hj ha ha' => ?_⟩
      by_cases e : j = n
      · subst e
        rw [hx] at ha; cases ha
        rw [hx'] at ha'; cases ha'
        have key : ∀ {K : Type} [DecidableEq K] {l : List K} {k : K}, k ∉ l → idxF (l ++ [k]) k = l.length := by
          intro K _ l k h
          induction l with
          | nil => rw [List.nil_append, idxF, if_pos rfl]; rfl
          | cons x r ih =>
            rw [List.mem_cons, not_or] at h
            rw [List.cons_append, idxF, if_neg (fun e => h.1 e.symm), ih h.2, List.length_cons]
        rw [key hm, key (fun h => hm (hmem.2 h)), h1]
      · have hmj : ∀ {K : Type} [DecidableEq K] {l : List K} {a : K}, l[j]? = some a → a ∈ dedF (l.take n) := fun h => (dedF_mem _ _).2 (List.mem_of_getElem? (i := j) (by rw [List.getElem?_take, if_pos (by omega)]; exact h))
        rw [idxF_mem (hmj ha), idxF_mem (hmj ha')]
        exact h2 j a a' (by omega) ha ha'
theorem canon_eq {l : List K} {l' : List K'} (hl : l.length = l'.length) (hp : ∀ (i j : Nat) (a b : K) (a' b' : K'), l[i]? = some a → l[j]? = some b → l'[i]? = some a' → l'[j]? = some b' → (a = b ↔ a' = b')) : canonL l = canonL l' ∧ (dedF l).length = (dedF l').length := by
  have h := canon_pat hl hp l.length (Nat.le_refl _)
  rw [List.take_length, hl, List.take_length] at h
  refine ⟨?_, h.1⟩
  apply List.ext_getElem?
  intro j
  unfold canonL
  rw [List.getElem?_map, List.getElem?_map]
  by_cases hj : j < l.length
  · obtain ⟨a, ha⟩ := get_some (l := l) (i := j) hj
    obtain ⟨a', ha'⟩ := get_some (l := l') (i := j) (by omega)
    rw [ha, ha', Option.map_some, Option.map_some, h.2 j a a' (by omega) ha ha']
  · rw [List.getElem?_eq_none (by omega), List.getElem?_eq_none (by omega)]; rfl
theorem canonL_len (l : List K) : (canonL l).length = l.length := List.length_map _
theorem canonL_get {l : List K} {i : Nat} {k : K} (h : l[i]? = some k) : (canonL l)[i]? = some (idxF (dedF l) k) := by unfold canonL; rw [List.getElem?_map, h]; rfl
theorem canonL_lt {l : List K} {c : Nat} (h : c ∈ canonL l) : c < (dedF l).length := by
  obtain ⟨k, hk, rfl⟩ := List.mem_map.1 h
  exact idxF_lt ((dedF_mem _ _).2 hk)
/-- the numbers have the pattern of the list -/
theorem canonL_eq {l : List K} {i j : Nat} {a b : K} (ha : l[i]? = some a) (hb : l[j]? = some b) : (canonL l)[i]? = (canonL l)[j]? ↔ a = b := by
  rw [canonL_get ha, canonL_get hb]
  constructor
  · intro h
    exact idxF_inj ((dedF_mem _ _).2 (List.mem_of_getElem? ha)) (Option.some.inj h)
  · intro h; rw [h]
theorem dedF_canon (l : List K) : (dedF (canonL l)).length = (dedF l).length := by
  refine (canon_eq (canonL_len l) fun i j a b a' b' h1 h2 h3 h4 => ?_).2
  have := canonL_eq h3 h4
  rw [h1, h2] at this
  rw [← this]
  exact ⟨fun h => by rw [h], fun h => Option.some.inj h⟩
theorem dedF_map_le (f : K → K') (l : List K) : (dedF (l.map f)).length ≤ (dedF l).length := by
  have key : ∀ n, n ≤ l.length → (dedF ((l.map f).take n)).length ≤ (dedF (l.take n)).length := by
    intro n
    induction n with
    | zero => intro _; exact Nat.le_refl _
    | succ n ih =>
      intro hn
      obtain ⟨x, hx⟩ := get_some (l := l) (i := n) (by omega)
      rw [dedF_take hx, dedF_take (l := l.map f) (k := f x) (by rw [List.getElem?_map, hx]; rfl)]
      have := ih (by omega)
      by_cases hm : x ∈ dedF (l.take n)
      · have : f x ∈ dedF ((l.map f).take n) := by
          rw [dedF_mem, ← List.map_take]
          exact List.mem_map.2 ⟨x, (dedF_mem _ _).1 hm, rfl⟩
        rw [if_pos hm, if_pos this]; omega
      · rw [if_neg hm, List.length_append]
        split
        · omega
        · rw [List.length_append]; simp only [List.length_singleton]; omega
  have := key l.length (Nat.le_refl _)
  rwa [List.take_length, List.take_of_length_le (by rw [List.length_map]; exact Nat.le_refl _)] at this
theorem dedF_len_le (l : List K) : (dedF l).length ≤ l.length := by
  have key : ∀ n, n ≤ l.length → (dedF (l.take n)).length ≤ n := by
    intro n
    induction n with
    | zero => intro _; exact Nat.le_refl _
    | succ n ih =>
      intro hn
      obtain ⟨x, hx⟩ := get_some (l := l) (i := n) (by omega)
      rw [dedF_take hx]
      have := ih (by omega)
      split
      · omega
      · rw [List.length_append]; simp only [List.length_singleton]; omega
  have := key l.length (Nat.le_refl _)
  rwa [List.take_length] at this
end
/-- what tells states apart -/
structure Sg where
  b : Int
  k : Int
  x : Ev
  ag : Bool
  num : Int
  deriving DecidableEq
def Sg.v (s : Sg) : Value := .agg ⟨[.int .i64 s.b, .int .i64 s.k, .bool s.x.send, .int .i64 s.x.peer, .int .i64 s.x.label, .bool s.ag, .int .i64 s.num]⟩
theorem Sg.v_inj (a b : Sg) (h : a.v = b.v) : a = b := by
  obtain ⟨a1, a2, ⟨a3, a4, a5⟩, a6, a7⟩ := a
  obtain ⟨b1, b2, ⟨b3, b4, b5⟩, b6, b7⟩ := b
  unfold Sg.v at h
  simp at h
  simp [h]
/-- the numbers are given one behind the other -/
structure NOk (n : Int) (N : List (Sg × Int)) : Prop where
  nd : (N.map Prod.fst).Nodup
  va : ∀ (j : Nat) (q : Sg × Int), N[j]? = some q → q.2 = (j : Int) + n + 2
theorem NOk.nil (n : Int) : NOk n [] := ⟨List.nodup_nil, fun j q h => by simp at h⟩
theorem NOk.push {n : Int} {N : List (Sg × Int)} (h : NOk n N) {s : Sg} (hs : ∀ q ∈ N, q.1 ≠ s) : NOk n (N ++ [(s, (N.length : Int) + n + 2)]) := by
  refine ⟨?_, fun j q hq => ?_⟩
  · rw [List.map_append, List.nodup_append]
    refine ⟨h.nd, by simp, fun a ha b hb => ?_⟩
    simp only [List.map_cons, List.map_nil, List.mem_singleton] at hb
    subst hb
    obtain ⟨q, hq, rfl⟩ := List.mem_map.1 ha
    exact hs q hq
  · by_cases hj : j < N.length
    · rw [List.getElem?_append_left hj] at hq; exact h.va j q hq
    · have hjl := (List.getElem?_eq_some_iff.1 hq).1
      rw [List.length_append, List.length_singleton] at hjl
      have : j = N.length := by omega
      subst this
      rw [List.getElem?_append_right (Nat.le_refl _), Nat.sub_self] at hq
      cases hq; rfl
theorem NOk.keyv {n : Int} {N : List (Sg × Int)} (h : NOk n N) {s s' : Sg} {v : Int} (h1 : (s, v) ∈ N) (h2 : (s', v) ∈ N) : s = s' := by
  obtain ⟨i, hi⟩ := List.mem_iff_getElem?.1 h1
  obtain ⟨j, hj⟩ := List.mem_iff_getElem?.1 h2
  have e1 := h.va i _ hi
  have e2 := h.va j _ hj
  have : i = j := by simp only at e1 e2; omega
  subst this
  rw [hi] at hj; cases hj; rfl
theorem NOk.val {n : Int} {N : List (Sg × Int)} (h : NOk n N) {s : Sg} {v v' : Int} (h1 : (s, v) ∈ N) (h2 : (s, v') ∈ N) : v = v' := by
  obtain ⟨i, hi⟩ := List.mem_iff_getElem?.1 h1
  obtain ⟨j, hj⟩ := List.mem_iff_getElem?.1 h2
  have hi' : (N.map Prod.fst)[i]? = some s := by rw [List.getElem?_map, hi]; rfl
  have hj' : (N.map Prod.fst)[j]? = some s := by rw [List.getElem?_map, hj]; rfl
  have : i = j := (List.getElem?_inj (List.getElem?_eq_some_iff.1 hi').1 h.nd).1 (hi'.trans hj'.symm)
  subst this
  rw [hi] at hj; cases hj; rfl
/-- the history that a number stands for, the last first -/
inductive HsN (N : List (Sg × Int)) : Int → List Sg → Prop
  | base {s : Sg} {v : Int} (hm : (s, v) ∈ N) (hk : s.k = 0) : HsN N v [s]
  | step {s : Sg} {v : Int} {l : List Sg} (hm : (s, v) ∈ N) (hk : s.k ≠ 0) (hh : HsN N s.b l) : HsN N v ({ s with b := 0 } :: l)
theorem HsN.mono {N N' : List (Sg × Int)} (hsub : ∀ q ∈ N, q ∈ N') {v : Int} {l : List Sg} (h : HsN N v l) : HsN N' v l := by
  induction h with
  | base hm hk => exact .base (hsub _ hm) hk
  | step hm hk _ ih => exact .step (hsub _ hm) hk ih
theorem HsN.ne {N : List (Sg × Int)} {v : Int} (h : HsN N v []) : False := by cases h
theorem HsN.inj {n : Int} {N : List (Sg × Int)} (hN : NOk n N) : ∀ {l : List Sg} {v v' : Int}, HsN N v l → HsN N v' l → v = v'
  | [], _, _, h, _ => h.ne.elim
  | a :: l, v, v', h, h' => by
    cases h with
    | base hm hk =>
      cases h' with
      | base hm' hk' => exact hN.val hm hm'
      | @step s' _ _ hm' hk' hh => exact hh.ne.elim
    | @step s _ _ hm hk hh =>
      generalize hq : ({ s with b := 0 } : Sg) = q at h'
      cases h' with
      | base hm' hk' => exact hh.ne.elim
      | @step s' _ _ hm' hk' hh' =>
        have hb := HsN.inj hN hh hh'
        have : s = s' := by
          obtain ⟨a1, a2, a3, a4, a5⟩ := s
          obtain ⟨b1, b2, b3, b4, b5⟩ := s'
          simp only [Sg.mk.injEq] at hq ⊢
          exact ⟨hb, hq.2⟩
        subst this
        exact hN.val hm hm'
theorem HsN.func {n : Int} {N : List (Sg × Int)} (hN : NOk n N) {v : Int} {l l' : List Sg} (h : HsN N v l) : HsN N v l' → l = l' := by
  intro h'
  induction h generalizing l' with
  | base hm hk =>
    cases h' with
    | base hm' hk' => rw [hN.keyv hm hm']
    | step hm' hk' hh => have := hN.keyv hm hm'; subst this; exact absurd hk hk'
  | step hm hk hh ih =>
    cases h' with
    | base hm' hk' => have := hN.keyv hm hm'; subst this; exact absurd hk' hk
    | step hm' hk' hh' => have := hN.keyv hm hm'; subst this; rw [ih hh']
def nextF (n : Int) (N : List (Sg × Int)) (s : Sg) : Int × List (Sg × Int) := match mget N s with
  | some v => (v, N)
  | none => ((N.length : Int) + n + 2, N ++ [(s, (N.length : Int) + n + 2)])
theorem mget_mem {α β : Type} [DecidableEq α] {a : α} {y : β} : ∀ {l : List (α × β)}, mget l a = some y → (a, y) ∈ l
  | [], h => by cases h
  | (x, z) :: r, h => by
    rw [mget] at h
    split at h
    · rename_i e; cases h; subst e; simp
    · exact List.mem_cons_of_mem _ (mget_mem h)
theorem mget_not {α β : Type} [DecidableEq α] {a : α} : ∀ {l : List (α × β)}, mget l a = none → ∀ q ∈ l, q.1 ≠ a
  | [], _, q, hq => by cases hq
  | (x, z) :: r, h, q, hq => by
    rw [mget] at h
    split at h
    · cases h
    · rename_i e
      rcases List.mem_cons.1 hq with rfl | hq
      · exact e
      · exact mget_not h q hq
theorem nextF_spec {n : Int} {N : List (Sg × Int)} (hN : NOk n N) (s : Sg) : NOk n (nextF n N s).2 ∧ (∀ q ∈ N, q ∈ (nextF n N s).2) ∧ (s, (nextF n N s).1) ∈ (nextF n N s).2 ∧ (nextF n N s).2.length ≤ N.length + 1 ∧ ∀ q ∈ (nextF n N s).2, q ∈ N ∨ q.1 = s := by
  unfold nextF
  cases h : mget N s with
  | some v => exact ⟨hN, fun q hq => hq, mget_mem h, by simp, fun q hq => .inl hq⟩
  | none =>
    refine ⟨hN.push (mget_not h), fun q hq => List.mem_append.2 (.inl hq), List.mem_append.2 (.inr (by simp)), by simp, fun q hq => ?_⟩
    rcases List.mem_append.1 hq with hq | hq
    · exact .inl hq
    · rw [List.mem_singleton] at hq; subst hq; exact .inr rfl
theorem NOk.bound {n : Int} {N : List (Sg × Int)} (h : NOk n N) {s : Sg} {v : Int} (hm : (s, v) ∈ N) : n + 2 ≤ v ∧ v < (N.length : Int) + n + 2 := by
  obtain ⟨j, hj⟩ := List.mem_iff_getElem?.1 hm
  have := h.va j _ hj
  have := (List.getElem?_eq_some_iff.1 hj).1
  simp only at *
  omega
def ev0 : Ev := ⟨false, 0, 0⟩
def Mv.ev (x : Mv) : Ev := ⟨x.send, x.peer, x.label⟩
def sgB (C : List Nat) (fin : List Bool) (s : Nat) : Sg := ⟨(C.getD s 0 : Nat), 0, ev0, fin.getD s false, 0⟩
def sgL (mv : List Mv) (t : To) : Sg := ⟨0, 1, match mv[t.e.toNat]? with | some x => x.ev | none => ev0, false, t.k⟩
def sgM (C : List Nat) (x : Mv) : Sg := ⟨0, 2, x.ev, x.ag, (C.getD x.t.toNat 0 : Nat)⟩
/-- the history of a state behind the limits li and the moves mv -/
def keyH (m : Mch) (C : List Nat) (li : List To) (mv : List Mv) (s : Nat) : List Sg :=
  ((mv.filter fun x => x.f = (s : Int)).map (sgM C)).reverse ++ (((li.filter fun t => t.s = (s : Int)).map (sgL m.mv)).reverse ++ [sgB C m.fin s])
def keyS (m : Mch) (C : List Nat) (s : Nat) : List Sg := keyH m C m.li m.mv s
theorem keyH_li {m : Mch} {C : List Nat} {li : List To} {j : Nat} {t : To} (h : li[j]? = some t) (s : Nat) : keyH m C (li.take (j + 1)) [] s = if t.s = (s : Int) then sgL m.mv t :: keyH m C (li.take j) [] s else keyH m C (li.take j) [] s := by
  unfold keyH
  rw [take_snoc h, List.filter_append]
  by_cases e : t.s = (s : Int)
  · rw [if_pos e, List.filter_cons_of_pos (by simpa using e)]; simp
  · rw [if_neg e, List.filter_cons_of_neg (by simpa using e)]; simp
theorem keyH_mv {m : Mch} {C : List Nat} {li : List To} {mv : List Mv} {j : Nat} {x : Mv} (h : mv[j]? = some x) (s : Nat) : keyH m C li (mv.take (j + 1)) s = if x.f = (s : Int) then sgM C x :: keyH m C li (mv.take j) s else keyH m C li (mv.take j) s := by
  unfold keyH
  rw [take_snoc h, List.filter_append]
  by_cases e : x.f = (s : Int)
  · rw [if_pos e, List.filter_cons_of_pos (by simpa using e)]; simp
  · rw [if_neg e, List.filter_cons_of_neg (by simpa using e)]; simp
def clsK (m : Mch) (C : List Nat) : List (List Sg) := (List.range m.n.toNat).map (keyS m C)
def clsN (m : Mch) : Nat → List Nat → Nat → List Nat × Nat
  | 0, C, c => (C, c)
  | f + 1, C, c => if (dedF (clsK m C)).length = c then (canonL (clsK m C), c) else clsN m f (canonL (clsK m C)) (dedF (clsK m C)).length
/-- the classes of the states, and how many there are -/
def cls (m : Mch) : List Nat × Nat := clsN m 202 (List.replicate m.n.toNat 0) 0
theorem clsK_len (m : Mch) (C : List Nat) : (clsK m C).length = m.n.toNat := by unfold clsK; rw [List.length_map, List.length_range]
theorem clsK_ge {m : Mch} {C : List Nat} (hC : C.length = m.n.toNat) : (dedF C).length ≤ (dedF (clsK m C)).length := by
  have e : C = (clsK m C).map fun k => match k.getLast? with | some s => s.b.toNat | none => 0 := by
    apply List.ext_getElem?
    intro i
    unfold clsK
    rw [List.map_map, List.getElem?_map]
    by_cases hi : i < m.n.toNat
    · rw [List.getElem?_range hi]
      obtain ⟨c, hc⟩ := get_some (l := C) (i := i) (by omega)
      rw [hc]
      show _ = some (match (keyS m C i).getLast? with | some s => s.b.toNat | none => 0)
      have : (keyS m C i).getLast? = some (sgB C m.fin i) := by
        unfold keyS keyH
        rw [← List.append_assoc, List.getLast?_append]; rfl
      rw [this]
      unfold sgB
      simp [List.getD_eq_getElem?_getD, hc]
    · rw [List.getElem?_eq_none (by omega), List.getElem?_eq_none (by rw [List.length_range]; omega)]; rfl
  have := dedF_map_le (fun k : List Sg => match k.getLast? with | some s => s.b.toNat | none => 0) (clsK m C)
  rwa [← e] at this
theorem dedF_nodup {K : Type} [DecidableEq K] (l : List K) : (dedF l).Nodup := by
  suffices h : ∀ (m a : List K), a.Nodup → (m.foldl (fun a k => if k ∈ a then a else a ++ [k]) a).Nodup from h l [] List.nodup_nil
  intro m
  induction m with
  | nil => intro a h; exact h
  | cons x r ih =>
    intro a h
    rw [List.foldl_cons]
    refine ih _ ?_
    split
    · exact h
    · rename_i hx
      rw [List.nodup_append]
      exact ⟨h, by simp, fun a ha b hb => by rw [List.mem_singleton] at hb; subst hb; exact fun e => hx (e ▸ ha)⟩
def zipI {K : Type} (D : List K) (k : Nat) : List (K × Int) := (D.zipIdx k).map fun q => (q.1, (q.2 : Int))
theorem zipI_fst {K : Type} (D : List K) (k : Nat) : (zipI D k).map Prod.fst = D := by
  unfold zipI
  rw [List.map_map]
  exact List.zipIdx_map_fst k D
theorem zipI_snoc {K : Type} (D : List K) (a : K) : zipI (D ++ [a]) 0 = zipI D 0 ++ [(a, (D.length : Int))] := by
  unfold zipI
  rw [List.zipIdx_append, List.map_append]; simp
theorem zipI_len {K : Type} (D : List K) (k : Nat) : (zipI D k).length = D.length := by unfold zipI; rw [List.length_map, List.length_zipIdx]
theorem mget_zipI {K : Type} [DecidableEq K] (a : K) : ∀ (D : List K) (k : Nat), mget (zipI D k) a = if a ∈ D then some ((idxF D a : Int) + k) else none
  | [], k => rfl
  | x :: r, k => by
    have e : zipI (x :: r) k = (x, (k : Int)) :: zipI r (k + 1) := rfl
    rw [e, mget, idxF]
    by_cases h : x = a
    · rw [if_pos h, if_pos (by simp [h]), if_pos h]; simp
    · rw [if_neg h, mget_zipI a r (k + 1), if_neg h]
      by_cases hm : a ∈ r
      · rw [if_pos hm, if_pos (List.mem_cons_of_mem _ hm)]
        congr 1; omega
      · rw [if_neg hm, if_neg (fun hc => by rcases List.mem_cons.1 hc with hc | hc; exact h hc.symm; exact hm hc)]
/-- what the machine of a call holds -/
structure MOk (m : Mch) : Prop where
  n : 1 ≤ m.n ∧ m.n ≤ 200
  s : 0 ≤ m.s ∧ m.s < m.n
  fl : m.fin.length = m.n.toNat
  ml : m.mv.length ≤ 400
  ll : m.li.length ≤ 80000
  mv : ∀ x ∈ m.mv, 0 ≤ x.f ∧ x.f < m.n ∧ 0 ≤ x.t ∧ x.t < m.n ∧ (-9223372036854775808 ≤ x.peer ∧ x.peer ≤ 9223372036854775807) ∧ (-9223372036854775808 ≤ x.label ∧ x.label ≤ 9223372036854775807)
  li : ∀ t ∈ m.li, 0 ≤ t.s ∧ t.s < m.n ∧ 0 ≤ t.e ∧ t.e < m.mv.length ∧ (-9223372036854775808 ≤ t.k ∧ t.k ≤ 9223372036854775807)
def mvLt (a b : Mv) : Prop := a.f < b.f ∨ (a.f = b.f ∧ evLt a.ev b.ev)
theorem mvLt_irr (a : Mv) : ¬ mvLt a a := by
  rintro (h | ⟨_, h⟩)
  · omega
  · exact evLt_irr _ h
theorem mvLt_trans {a b c : Mv} (h1 : mvLt a b) (h2 : mvLt b c) : mvLt a c := by
  rcases h1 with h1 | ⟨h1, h1'⟩ <;> rcases h2 with h2 | ⟨h2, h2'⟩
  · exact .inl (by omega)
  · exact .inl (by omega)
  · exact .inl (by omega)
  · exact .inr ⟨by omega, evLt_trans h1' h2'⟩
theorem mvSorted_same : ∀ {l l' : List Mv}, l'.Perm l → l.Pairwise mvLt → l'.Pairwise (fun a b => ¬ mvLt b a) → l' = l
  | [], l', hp, _, _ => List.perm_nil.1 hp
  | a :: l, [], hp, _, _ => by have := hp.length_eq; simp at this
  | a :: l, b :: l', hp, hs, hs' => by
    rw [List.pairwise_cons] at hs hs'
    have hb : b = a := by
      have hbm : b ∈ a :: l := hp.subset (List.mem_cons_self ..)
      have ham : a ∈ b :: l' := hp.symm.subset (List.mem_cons_self ..)
      rcases List.mem_cons.1 hbm with h | h
      · exact h
      · rcases List.mem_cons.1 ham with h' | h'
        · exact h'.symm
        · exact absurd (hs.1 b h) (hs'.1 a h')
    subst hb
    rw [mvSorted_same ((List.perm_cons b).1 hp) hs.2 hs'.2]
end Go.VC
end

section
/- The view table and the raw machine, computed with sets of states as lists. No program here. -/
namespace Go.VC

def setOf (L : List Nat) : PSet := fun j => decide (j ∈ L)
/-- the list is ascending and below n -/
def Can (n : Nat) (L : List Nat) : Prop := L = (List.range n).filter fun j => decide (j ∈ L)
theorem Can.mk (n : Nat) (p : Nat → Bool) : Can n ((List.range n).filter p) := by
  unfold Can
  apply List.filter_congr
  intro x hx
  by_cases hm : x ∈ (List.range n).filter p
  · rw [decide_eq_true hm]; exact (List.mem_filter.1 hm).2
  · rw [decide_eq_false hm]
    cases hp : p x
    · rfl
    · exact absurd (List.mem_filter.2 ⟨hx, hp⟩) hm
theorem Can.lt {n : Nat} {L : List Nat} (h : Can n L) : ∀ j ∈ L, j < n := by
  intro j hj
  rw [h, List.mem_filter, List.mem_range] at hj
  exact hj.1
theorem setOf_inj {n : Nat} {L L' : List Nat} (h : Can n L) (h' : Can n L') : setOf L = setOf L' ↔ L = L' := by
  constructor
  · intro e
    rw [h, h']
    congr 1
  · intro e; rw [e]
theorem elems_setOf {n : Nat} {L : List Nat} (h : Can n L) (hn : n ≤ 4096) : elems (setOf L) = L := by
  unfold elems
  have e : List.range 4096 = List.range n ++ (List.range (4096 - n)).map (n + ·) := by rw [← List.range_add]; congr 1; omega
  rw [e, List.filter_append]
  have e2 : ((List.range (4096 - n)).map (n + ·)).filter (setOf L) = [] := by
    rw [List.filter_eq_nil_iff]
    intro x hx
    obtain ⟨y, _, rfl⟩ := List.mem_map.1 hx
    unfold setOf
    simp only [decide_eq_true_eq]
    intro hm
    have := h.lt _ hm
    omega
  rw [e2, List.append_nil]
  exact h.symm
def evsC (es : List Ed) (role : Int) (L : List Nat) : List Ev := sortE (L.flatMap fun n => (visL es role n).map (·.x))
def toC (es : List Ed) (role : Int) (L : List Nat) (x : Ev) : List Int := L.flatMap fun n => (visL es role n).filterMap fun a => if a.x = x then some a.to else none
theorem evs_setOf {n : Nat} {L : List Nat} (h : Can n L) (hn : n ≤ 4096) (es : List Ed) (role : Int) : evs es role (setOf L) = evsC es role L := by unfold evs evL evsC; rw [elems_setOf h hn]
theorem toL_setOf {n : Nat} {L : List Nat} (h : Can n L) (hn : n ≤ 4096) (es : List Ed) (role : Int) (x : Ev) : toL es role (setOf L) x = toC es role L x := by unfold toL toC; rw [elems_setOf h hn]
def addC (es : List Ed) (role : Int) (L : List Nat) : List Nat := es.foldl (fun L x => if (vis1 role x).isNone && decide (x.f.toNat ∈ L) && !decide (x.t.toNat ∈ L) then L ++ [x.t.toNat] else L) L
def bfsC (es : List Ed) (role : Int) : Nat → List Nat → List Nat
  | 0, L => L
  | f + 1, L => bfsC es role f (addC es role L)
/-- L is the closure of l -/
def okC (es : List Ed) (role : Int) (l : List Int) (L : List Nat) : Bool :=
  l.all (fun v => decide (0 ≤ v) && decide (v.toNat ∈ L)) && es.all (fun x => !(vis1 role x).isNone || !decide (x.f.toNat ∈ L) || decide (x.t.toNat ∈ L)) &&
    (List.range L.length).all fun i => match L[i]? with
      | some j => l.any (fun v => decide (v = (j : Int))) || es.any fun x => (vis1 role x).isNone && decide (x.f.toNat ∈ L.take i) && decide (x.t = (j : Int))
      | none => false
theorem okC_clo {es : List Ed} {role : Int} {l : List Int} {L : List Nat} (hes : ∀ x ∈ es, 0 ≤ x.f ∧ 0 ≤ x.t) (h : okC es role l L = true) (j : Nat) : clo es role l j = decide (j ∈ L) := by
  unfold okC at h
  simp only [Bool.and_eq_true, List.all_eq_true, List.mem_range] at h
  obtain ⟨⟨h1, h2⟩, h3⟩ := h
  have fwd : ∀ a : Int, Qr es role l a → 0 ≤ a ∧ a.toNat ∈ L := by
    intro a ha
    induction ha with
    | base hm => have := h1 _ hm; simpa using this
    | step _ hx ih =>
      obtain ⟨x, hx, hv, hf, rfl⟩ := hx
      refine ⟨(hes x hx).2, ?_⟩
      have := h2 x hx
      simp only [Bool.or_eq_true, Bool.not_eq_true', decide_eq_false_iff_not, decide_eq_true_eq] at this
      rcases this with (h4 | h4) | h4
      · rw [hv] at h4; cases h4
      · exact absurd (by rw [hf]; exact ih.2) h4
      · exact h4
  have bwd : ∀ i, i ≤ L.length → ∀ j ∈ L.take i, Qr es role l (j : Int) := by
    intro i
    induction i with
    | zero => intro _ j hj; rw [List.take_zero] at hj; cases hj
    | succ i ih =>
      intro hi j hj
      obtain ⟨y, hy⟩ := get_some (l := L) (i := i) (by omega)
      rw [take_snoc hy, List.mem_append, List.mem_singleton] at hj
      rcases hj with hj | rfl
      · exact ih (by omega) j hj
      · have := h3 i (by omega)
        rw [hy] at this
        simp only [Bool.or_eq_true, List.any_eq_true, decide_eq_true_eq, Bool.and_eq_true] at this
        rcases this with ⟨v, hv, rfl⟩ | ⟨x, hx, ⟨h4, h5⟩, h6⟩
        · exact .base hv
        · have hq := ih (by omega) _ h5
          rw [show ((x.f.toNat : Nat) : Int) = x.f by have := hes x hx; omega] at hq
          exact .step hq ⟨x, hx, Option.isNone_iff_eq_none.1 h4, rfl, h6⟩
  have hiff : clo es role l j = true ↔ j ∈ L := by
    rw [clo_iff]
    constructor
    · intro h; have := (fwd _ h).2; rwa [Int.toNat_natCast] at this
    · intro h; exact bwd L.length (Nat.le_refl _) j (by rw [List.take_length]; exact h)
  by_cases hj : j ∈ L
  · rw [decide_eq_true hj]; exact hiff.2 hj
  · rw [decide_eq_false hj]
    cases hc : clo es role l j
    · rfl
    · exact absurd (hiff.1 hc) hj
def cloC (es : List Ed) (role : Int) (n : Nat) (l : List Int) : Option (List Nat) :=
  let L := bfsC es role n (l.map Int.toNat).eraseDups
  if okC es role l L then some ((List.range n).filter fun j => decide (j ∈ L)) else none
theorem cloC_ok {es : List Ed} {role : Int} {n : Nat} {l : List Int} {L : List Nat} (hes : ∀ x ∈ es, 0 ≤ x.f ∧ 0 ≤ x.t) (hlt : ∀ j : Nat, clo es role l j = true → j < n) (h : cloC es role n l = some L) : Can n L ∧ clo es role l = setOf L := by
  unfold cloC at h
  simp only at h
  split at h
  · rename_i hk
    cases h
    refine ⟨Can.mk _ _, ?_⟩
    funext j
    rw [okC_clo hes hk]
    unfold setOf
    by_cases hj : j ∈ bfsC es role n (l.map Int.toNat).eraseDups
    · rw [decide_eq_true hj, decide_eq_true]
      have : clo es role l j = true := by rw [okC_clo hes hk, decide_eq_true hj]
      exact List.mem_filter.2 ⟨List.mem_range.2 (hlt j this), decide_eq_true hj⟩
    · rw [decide_eq_false hj, decide_eq_false]
      intro hm
      exact hj (of_decide_eq_true (List.mem_filter.1 hm).2)
  · cases h
def rowCS (S : List (List Nat)) (L : List Nat) : List (List Nat) := if L ∈ S then S else S ++ [L]
theorem rowI_setOf {n : Nat} {L : List Nat} (hL : Can n L) : ∀ {S : List (List Nat)}, (∀ s ∈ S, Can n s) → rowI (S.map setOf) (setOf L) = idxF S L
  | [], _ => rfl
  | s :: S, h => by
    rw [List.map_cons, rowI, idxF]
    have hs := setOf_inj (h s (List.mem_cons_self ..)) hL
    by_cases e : s = L
    · rw [if_pos (hs.2 e), if_pos e]
    · rw [if_neg (fun h => e (hs.1 h)), if_neg e, rowI_setOf hL fun s hs => h s (List.mem_cons_of_mem _ hs)]
theorem rowS_setOf {n : Nat} {L : List Nat} (hL : Can n L) {S : List (List Nat)} (hS : ∀ s ∈ S, Can n s) : rowS (S.map setOf) (setOf L) = (rowCS S L).map setOf ∧ ∀ s ∈ rowCS S L, Can n s := by
  have hiff : setOf L ∈ S.map setOf ↔ L ∈ S := by
    rw [← rowI_lt, rowI_setOf hL hS, List.length_map]
    constructor
    · intro h
      by_cases hm : L ∈ S
      · exact hm
      · rw [idxF_not hm] at h; omega
    · intro h; exact idxF_lt h
  unfold rowS rowCS
  by_cases hm : L ∈ S
  · rw [if_pos (hiff.2 hm), if_pos hm]; exact ⟨rfl, hS⟩
  · rw [if_neg (fun h => hm (hiff.1 h)), if_neg hm, List.map_append]
    refine ⟨rfl, fun s hs => ?_⟩
    rcases List.mem_append.1 hs with hs | hs
    · exact hS s hs
    · rw [List.mem_singleton] at hs; rw [hs]; exact hL
def arcsC (es : List Ed) (role : Int) (n : Nat) (i : Nat) (L : List Nat) : List Ev → List (List Nat) → List Mv → Option (List (List Nat) × List Mv)
  | [], S, M => some (S, M)
  | x :: r, S, M => match cloC es role n (toC es role L x) with
    | none => none
    | some T => arcsC es role n i L r (rowCS S T) (M ++ [⟨i, x.send, x.peer, x.label, (idxF S T : Nat), false⟩])
theorem arcsC_ok {es : List Ed} {role : Int} {n i : Nat} {L : List Nat} (hn : n ≤ 4096) (hes : ∀ x ∈ es, 0 ≤ x.f ∧ 0 ≤ x.t) (hlt : ∀ (x : Ev) (j : Nat), clo es role (toC es role L x) j = true → j < n) (hL : Can n L) : ∀ (l : List Ev) (S : List (List Nat)) (M : List Mv) {S' : List (List Nat)} {M' : List Mv}, (∀ s ∈ S, Can n s) → arcsC es role n i L l S M = some (S', M') →
    arcsF es role i (setOf L) l (S.map setOf) M = (S'.map setOf, M') ∧ ∀ s ∈ S', Can n s
  | [], S, M, S', M', hS, h => by cases h; exact ⟨rfl, hS⟩
  | x :: r, S, M, S', M', hS, h => by
    rw [arcsC] at h
    cases hc : cloC es role n (toC es role L x) with
    | none => rw [hc] at h; cases h
    | some T =>
      rw [hc] at h
      replace h : arcsC es role n i L r (rowCS S T) (M ++ [⟨i, x.send, x.peer, x.label, (idxF S T : Nat), false⟩]) = some (S', M') := h
      obtain ⟨h1, h2⟩ := cloC_ok hes (hlt x) hc
      have h3 := rowS_setOf h1 hS
      have := arcsC_ok hn hes hlt hL r _ _ h3.2 h
      rw [arcsF, toL_setOf hL hn, h2, rowI_setOf h1 hS, h3.1]
      exact this
def viewsCF (es : List Ed) (role : Int) (n : Nat) : Nat → Nat → List (List Nat) → List Mv → Option (Option (List (List Nat) × List Mv))
  | 0, _, _, _ => some none
  | f + 1, i, S, M => match S[i]? with
    | none => some (some (S, M))
    | some L => match arcsC es role n i L (evsC es role L) S M with
      | none => none
      | some (S', M') => if S'.length > 200 then some none else viewsCF es role n f (i + 1) S' M'
theorem viewsCF_ok {es : List Ed} {role : Int} {n : Nat} (hn : n ≤ 4096) (hes : ∀ x ∈ es, 0 ≤ x.f ∧ 0 ≤ x.t) (hlt : ∀ (L : List Nat) (x : Ev) (j : Nat), clo es role (toC es role L x) j = true → j < n) : ∀ (f i : Nat) (S : List (List Nat)) (M : List Mv) {r : Option (List (List Nat) × List Mv)}, (∀ s ∈ S, Can n s) → viewsCF es role n f i S M = some r →
    viewsF es role f i (S.map setOf) M = r.map (fun q => (q.1.map setOf, q.2)) ∧ ∀ q, r = some q → ∀ s ∈ q.1, Can n s
  | 0, i, S, M, r, _, h => by cases h; exact ⟨rfl, fun q hq => by cases hq⟩
  | f + 1, i, S, M, r, hS, h => by
    rw [viewsCF] at h
    rw [viewsF, List.getElem?_map]
    cases hg : S[i]? with
    | none =>
      rw [hg] at h
      cases h
      exact ⟨rfl, fun q hq => by cases hq; exact hS⟩
    | some L =>
      rw [hg] at h
      have hL := hS L (List.mem_of_getElem? hg)
      cases ha : arcsC es role n i L (evsC es role L) S M with
      | none => simp only [ha] at h; cases h
      | some q =>
        obtain ⟨S', M'⟩ := q
        simp only [ha] at h
        have h1 := arcsC_ok hn hes (hlt L) hL _ S M hS ha
        rw [← evs_setOf hL hn] at h1
        show (if (arcsF es role i (setOf L) (evs es role (setOf L)) (S.map setOf) M).1.length > 200 then none else viewsF es role f (i + 1) (arcsF es role i (setOf L) (evs es role (setOf L)) (S.map setOf) M).1 (arcsF es role i (setOf L) (evs es role (setOf L)) (S.map setOf) M).2) = _ ∧ _
        rw [h1.1]
        simp only [List.length_map]
        split
        · rename_i hc
          rw [if_pos hc] at h
          cases h
          exact ⟨rfl, fun q hq => by cases hq⟩
        · rename_i hc
          rw [if_neg hc] at h
          exact viewsCF_ok hn hes hlt f (i + 1) S' M' h1.2 h
theorem viewV_congr {F F' : Nat → List Ev} {en en' : Nat → Bool} {O : List Bool} {T : List Ti} {l : List Nat} (hF : ∀ k ∈ l, F k = F' k) (he : ∀ k ∈ l, en k = en' k) : viewV F en O T l = viewV F' en' O T l := by
  have hb : ∀ k ∈ l, badV F en l k = badV F' en' l k := by
    intro k hk
    unfold badV
    have ha : (l.any fun q => en q || decide (F k ≠ F q)) = l.any fun q => en' q || decide (F' k ≠ F' q) := by
      rw [Bool.eq_iff_iff, List.any_eq_true, List.any_eq_true]
      constructor
      · rintro ⟨q, hq, h⟩; exact ⟨q, hq, by rw [← he q hq, ← hF q hq, ← hF k hk]; exact h⟩
      · rintro ⟨q, hq, h⟩; exact ⟨q, hq, by rw [he q hq, hF q hq, hF k hk]; exact h⟩
    rw [ha, hF k hk, he k hk]
  unfold viewV
  congr 1
  suffices h : ∀ (m : List Nat) (st : Option (Bool × Ti)), (∀ k ∈ m, k ∈ l) → m.foldl (stepV F en O T l) st = m.foldl (stepV F' en' O T l) st from h l _ fun k hk => hk
  intro m
  induction m with
  | nil => intro st _; rfl
  | cons a m ih =>
    intro st hs
    rw [List.foldl_cons, List.foldl_cons]
    have : stepV F en O T l st a = stepV F' en' O T l st a := by unfold stepV; rw [hb a (hs a (List.mem_cons_self ..))]
    rw [this]
    exact ih _ fun k hk => hs k (List.mem_cons_of_mem _ hk)
def rawLC (vw : List Nat → Option Ti) : Nat → List (List Nat) → List Mv → List To → Option (List Mv × List To)
  | _, [], M, L => some (M, L)
  | n, p :: S, M, L => match vw p with
    | none => none
    | some x => rawLC vw (n + 1) S (M.map (updR n x)) (L ++ limR n x M)
theorem rawLC_ok {vw vw' : List Nat → Option Ti} {N : Nat} (hN : N ≤ 4096) : ∀ (n : Nat) (S : List (List Nat)) (M : List Mv) (L : List To), (∀ s ∈ S, Can N s ∧ vw s = vw' s) → rawL vw n (S.map setOf) M L = rawLC vw' n S M L
  | _, [], _, _, _ => rfl
  | n, p :: S, M, L, h => by
    obtain ⟨h1, h2⟩ := h p (List.mem_cons_self ..)
    rw [List.map_cons, rawL, rawLC, elems_setOf h1 hN, h2]
    cases vw' p with
    | none => rfl
    | some x => exact rawLC_ok hN (n + 1) S _ _ fun s hs => h s (List.mem_cons_of_mem _ hs)
end Go.VC
end
