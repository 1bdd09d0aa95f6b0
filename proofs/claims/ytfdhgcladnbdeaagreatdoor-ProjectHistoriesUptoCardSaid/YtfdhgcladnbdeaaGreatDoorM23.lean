/- Texts of this claim, joined: PjHa, PjHb, PjHc, PjHd, PjArgs, PjArgs2. -/
import Derived.Test.YtfdhgcladnbdeaaGreatDoorM22
import Derived.Test.YtfdhgcladnbdeaaGreatDoorM05
import Derived.Test.YtfdhgcladnbdeaaGreatDoorM03
import Derived.Test.YtfdhgcladnbdeaaGreatDoorM18
import Derived.Test.YtfdhgcladnbdeaaGreatDoorRows
set_option linter.unusedVariables false
set_option linter.unusedSimpArgs false

section
/- The rows of the view table; the view machine runs as the views do. No program here. -/
namespace Go.VC
open Go.LexS
set_option maxRecDepth 100000
theorem rowI_get {S : List PSet} {p : PSet} : (rowS S p)[rowI S p]? = some p := by
  classical
  unfold rowS
  split
  · rename_i h
    induction S with
    | nil => cases h
    | cons q r ih =>
      rw [rowI]
      split
      · rename_i e; rw [e]; rfl
      · rename_i e
        rw [List.getElem?_cons_succ]
        refine ih ?_
        rcases List.mem_cons.1 h with h | h
        · exact absurd h.symm e
        · exact h
  · rename_i h
    rw [rowI_of_not h, List.getElem?_append_right (Nat.le_refl _), Nat.sub_self]; rfl
def RowOk (es : List Ed) (role : Int) (S : List PSet) (k : Nat) (m : Mv) : Prop := ∃ (r : Nat) (p : PSet), m.f = (r : Int) ∧ r < k ∧ S[r]? = some p ∧ m.ev ∈ evs es role p ∧ ∃ t : Nat, m.t = (t : Int) ∧ S[t]? = some (clo es role (toL es role p m.ev))
theorem RowOk.ext {es : List Ed} {role : Int} {S : List PSet} {k : Nat} {m : Mv} {q : PSet} (h : RowOk es role S k m) : RowOk es role (rowS S q) k m := by
  obtain ⟨r, p, h1, h2, h3, h4, t, h5, h6⟩ := h
  exact ⟨r, p, h1, h2, rowS_get h3, h4, t, h5, rowS_get h6⟩
structure VR (es : List Ed) (role : Int) (S : List PSet) (M : List Mv) (i : Nat) : Prop where
  a : ∀ m ∈ M, RowOk es role S i m
  b : ∀ (r : Nat) p, r < i → S[r]? = some p → ∀ x ∈ evs es role p, ∃ m ∈ M, m.f = (r : Int) ∧ m.ev = x
theorem arcsF_vr {es : List Ed} {role : Int} {i : Nat} {p : PSet} : ∀ (l : List Ev) (S : List PSet) (M : List Mv), S[i]? = some p → (∀ x ∈ l, x ∈ evs es role p) → (∀ m ∈ M, RowOk es role S (i + 1) m) →
    (∀ (r : Nat) q, r < i → S[r]? = some q → ∀ x ∈ evs es role q, ∃ m ∈ M, m.f = (r : Int) ∧ m.ev = x) → (∀ x ∈ evs es role p, x ∈ l ∨ ∃ m ∈ M, m.f = (i : Int) ∧ m.ev = x) →
    VR es role (arcsF es role i p l S M).1 (arcsF es role i p l S M).2 (i + 1) ∧ ∀ (j : Nat) q, S[j]? = some q → (arcsF es role i p l S M).1[j]? = some q
  | [], S, M, hi, hl, hA, hB, hC => ⟨⟨hA, fun r q hr hq x hx => by
      by_cases e : r = i
      · subst e
        show ∃ m ∈ M, _
        have hq' : S[r]? = some q := hq
        rw [hi] at hq'; cases hq'
        rcases hC x hx with h | h
        · cases h
        · exact h
      · exact hB r q (by omega) hq x hx⟩, fun j q hq => hq⟩
  | x :: l, S, M, hi, hl, hA, hB, hC => by
    rw [arcsF]
    have hil := (List.getElem?_eq_some_iff.1 hi).1
    have ih := arcsF_vr (es := es) (role := role) (i := i) (p := p) l (rowS S (clo es role (toL es role p x))) (M ++ [⟨i, x.send, x.peer, x.label, rowI S (clo es role (toL es role p x)), false⟩]) (rowS_get hi) (fun y hy => hl y (List.mem_cons_of_mem _ hy)) ?_ ?_ ?_
    · exact ⟨ih.1, fun j q hq => ih.2 j q (rowS_get hq)⟩
    · intro m hm
      rcases List.mem_append.1 hm with hm | hm
      · exact (hA m hm).ext
      · rw [List.mem_singleton] at hm
        subst hm
        exact ⟨i, p, rfl, by omega, rowS_get hi, hl x (List.mem_cons_self ..), _, rfl, rowI_get⟩
    · intro r q hr hq y hy
      have hrl : r < S.length := by omega
      have hq' : S[r]? = some q := by
        have h2 := rowS_get (p := clo es role (toL es role p x)) (List.getElem?_eq_getElem hrl)
        rw [hq] at h2
        rw [List.getElem?_eq_getElem hrl]; exact h2.symm ▸ rfl
      obtain ⟨m, hm, h1, h2⟩ := hB r q hr hq' y hy
      exact ⟨m, List.mem_append_left _ hm, h1, h2⟩
    · intro y hy
      rcases hC y hy with h | ⟨m, hm, h1, h2⟩
      · rcases List.mem_cons.1 h with rfl | h
        · exact .inr ⟨_, List.mem_append_right _ (List.mem_singleton.2 rfl), rfl, rfl⟩
        · exact .inl h
      · exact .inr ⟨m, List.mem_append_left _ hm, h1, h2⟩
theorem viewsF_vr {es : List Ed} {role : Int} : ∀ (f i : Nat) (S : List PSet) (M : List Mv) {S' : List PSet} {M' : List Mv}, VR es role S M i → i ≤ S.length → viewsF es role f i S M = some (S', M') → VR es role S' M' S'.length ∧ ∀ (j : Nat) q, S[j]? = some q → S'[j]? = some q
  | 0, _, _, _, _, _, _, _, h => by cases h
  | f + 1, i, S, M, S', M', hv, hi, h => by
    rw [viewsF] at h
    cases hg : S[i]? with
    | none =>
      rw [hg] at h
      cases h
      have : i = S.length := by have := List.getElem?_eq_none_iff.1 hg; omega
      subst this
      exact ⟨hv, fun j q hq => hq⟩
    | some p =>
      rw [hg] at h
      replace h : (if (arcsF es role i p (evs es role p) S M).1.length > 200 then none else viewsF es role f (i + 1) (arcsF es role i p (evs es role p) S M).1 (arcsF es role i p (evs es role p) S M).2) = some (S', M') := h
      have hil := (List.getElem?_eq_some_iff.1 hg).1
      obtain ⟨h1, h2⟩ := arcsF_vr (es := es) (role := role) (i := i) (p := p) (evs es role p) S M hg (fun x hx => hx) (fun m hm => by
        obtain ⟨r, q, a1, a2, a3⟩ := hv.a m hm
        exact ⟨r, q, a1, by omega, a3⟩) hv.b (fun x hx => .inl hx)
      split at h
      · cases h
      · have hi2 := (List.getElem?_eq_some_iff.1 (h2 i p hg)).1
        have ih := viewsF_vr f (i + 1) _ _ h1 (by omega) h
        exact ⟨ih.1, fun j q hq => ih.2 j q (h2 j q hq)⟩
theorem views_vr {g : Gl} {role : Int} {S : List PSet} {M : List Mv} (h : views g role = some (S, M)) : VR g.es role S M S.length ∧ S[0]? = some (clo g.es role [g.s]) := by
  unfold views at h
  obtain ⟨h1, h2⟩ := viewsF_vr 202 0 _ [] ⟨fun m hm => (by cases hm), fun r _ hr => (by omega)⟩ (by simp) h
  exact ⟨h1, h2 0 _ rfl⟩
def skM (m : Mv) : Int × Ev × Int := (m.f, m.ev, m.t)
theorem updR_sk (n : Nat) (x : Ti) (y : Mv) : skM (updR n x y) = skM y := by
  obtain ⟨h1, h2, h3, h4, h5⟩ := updR_same n x y
  unfold skM Mv.ev
  rw [h1, h2, h3, h4, h5]
theorem rawL_sk {vw : List Nat → Option Ti} : ∀ (n : Nat) (S : List PSet) (M : List Mv) (L : List To) {M' : List Mv} {L' : List To}, rawL vw n S M L = some (M', L') → M'.map skM = M.map skM
  | _, [], M, L, M', L', h => by cases h; rfl
  | n, p :: S, M, L, M', L', h => by
    rw [rawL] at h
    cases hv : vw (elems p) with
    | none => rw [hv] at h; cases h
    | some x =>
      rw [hv] at h
      have := rawL_sk (n + 1) S _ _ h
      rw [this, List.map_map]
      exact List.map_congr_left fun y _ => updR_sk n x y
/-- the view machine and its views -/
structure RawV (g : Gl) (role : Int) (w : Mch) (S : List PSet) : Prop where
  ro : w.role = role
  n : w.n = (S.length : Nat)
  s : w.s = 0
  f : w.fin = S.map (fun p => p g.e.toNat)
  z : S[0]? = some (clo g.es role [g.s])
  a : ∀ m ∈ w.mv, RowOk g.es role S S.length m
  b : ∀ (r : Nat) p, S[r]? = some p → ∀ x ∈ evs g.es role p, ∃ m ∈ w.mv, m.f = (r : Int) ∧ m.ev = x
theorem raw_v {g : Gl} {role : Int} {w : Mch} (h : raw g role = (some w, 0)) : (ValidS g ∧ 0 ≤ role ∧ role < g.rs.length) ∧ ∃ S, RawV g role w S ∧ ∃ M, rawL (vwG g role) 0 S M [] = some (w.mv, w.li) := by
  unfold raw at h
  split at h
  · cases h
  · rename_i hv
    refine ⟨Classical.not_not.1 hv, ?_⟩
    split at h
    · cases h
    · rename_i S M hvw
      split at h
      · cases h
      · split at h
        · cases h
        · rename_i M' L hrl
          cases h
          obtain ⟨h1, h2⟩ := views_vr hvw
          have hsk := rawL_sk 0 S M [] hrl
          have back : ∀ m ∈ M', ∃ m0 ∈ M, skM m0 = skM m := fun m hm => by
            have : skM m ∈ M.map skM := by rw [← hsk]; exact List.mem_map_of_mem hm
            obtain ⟨m0, hm0, e⟩ := List.mem_map.1 this
            exact ⟨m0, hm0, e⟩
          have forth : ∀ m ∈ M, ∃ m0 ∈ M', skM m0 = skM m := fun m hm => by
            have : skM m ∈ M'.map skM := by rw [hsk]; exact List.mem_map_of_mem hm
            obtain ⟨m0, hm0, e⟩ := List.mem_map.1 this
            exact ⟨m0, hm0, e⟩
          refine ⟨S, ⟨rfl, rfl, rfl, rfl, h2, fun m hm => ?_, fun r p hr x hx => ?_⟩, M, hrl⟩
          · obtain ⟨m0, hm0, e⟩ := back m hm
            obtain ⟨r, p, a1, a2, a3, a4, t, a5, a6⟩ := h1.a m0 hm0
            have e1 : m0.f = m.f := congrArg Prod.fst e
            have e2 : m0.ev = m.ev := congrArg (fun q => q.2.1) e
            have e3 : m0.t = m.t := congrArg (fun q => q.2.2) e
            rw [e1] at a1; rw [e2] at a4 a6; rw [e3] at a5
            exact ⟨r, p, a1, a2, a3, a4, t, a5, a6⟩
          · obtain ⟨m, hm, b1, b2⟩ := h1.b r p (List.getElem?_eq_some_iff.1 hr).1 hr x hx
            obtain ⟨m0, hm0, e⟩ := forth m hm
            have e1 : m0.f = m.f := congrArg Prod.fst e
            have e2 : m0.ev = m.ev := congrArg (fun q => q.2.1) e
            exact ⟨m0, hm0, by rw [e1, b1], by rw [e2, b2]⟩
def Hv.ev (x : Hv) : Ev := ⟨x.send, x.peer, x.label⟩
/-- the view behind an event -/
noncomputable def stepS (g : Gl) (role : Int) (p : PSet) (x : Hv) : PSet := if x.role = role then clo g.es role (toL g.es role p x.ev) else fun _ => false
noncomputable def behS (g : Gl) (role : Int) (l : List Hv) : PSet := l.foldl (stepS g role) (clo g.es role [g.s])
theorem clo_nil {es : List Ed} {role : Int} {j : Nat} : clo es role [] j = false := by
  have : ∀ a, ¬ Qr es role [] a := fun a h => by
    induction h with
    | base h => cases h
    | step _ _ ih => exact ih
  cases h : clo es role [] j with
  | false => rfl
  | true => exact absurd (clo_iff.1 h) (this _)
theorem toL_none {es : List Ed} {role : Int} {p : PSet} {x : Ev} (h : x ∉ evs es role p) : toL es role p x = [] := by
  apply List.eq_nil_iff_forall_not_mem.2
  intro y hy
  unfold toL at hy
  obtain ⟨n, hn, hy⟩ := List.mem_flatMap.1 hy
  obtain ⟨a, ha, he⟩ := List.mem_filterMap.1 hy
  split at he
  · rename_i hax
    refine h ((sortE_mem _ _).2 (List.mem_flatMap.2 ⟨n, hn, List.mem_map.2 ⟨a, ha, hax⟩⟩))
  · cases he
theorem toL_some {es : List Ed} {role : Int} {p : PSet} {x : Ev} (h : x ∈ evs es role p) : ∃ y, y ∈ toL es role p x := by
  obtain ⟨n, hn, h⟩ := List.mem_flatMap.1 ((sortE_mem _ _).1 h)
  obtain ⟨a, ha, rfl⟩ := List.mem_map.1 h
  exact ⟨a.to, List.mem_flatMap.2 ⟨n, hn, List.mem_filterMap.2 ⟨a, ha, if_pos rfl⟩⟩⟩
theorem evs_empty {es : List Ed} {role : Int} {p : PSet} (hp : ∀ j, p j = false) (x : Ev) : x ∉ evs es role p := fun h => by
  obtain ⟨n, hn, _⟩ := List.mem_flatMap.1 ((sortE_mem _ _).1 h)
  have := (elems_mem.1 hn).2
  rw [hp n] at this; cases this
/-- a state of the view machine, or none, and a view -/
def RelV (S : List PSet) (b : Int) (p : PSet) : Prop := (b = -1 ∧ ∀ j, p j = false) ∨ ∃ i : Nat, b = (i : Int) ∧ S[i]? = some p ∧ ∃ j, p j = true
theorem relV_step {g : Gl} {role : Int} {w : Mch} {S : List PSet} (hR : RawV g role w S) (hV : ValidS g) {b : Int} {p : PSet} (h : RelV S b p) (x : Hv) : RelV S (nxtM w b x) (stepS g role p x) := by
  have emp : ∀ {q : PSet}, (x.role ≠ role ∨ x.ev ∉ evs g.es role q) → ∀ j, stepS g role q x j = false := fun {q} hq j => by
    unfold stepS
    split
    · rename_i e
      rcases hq with hq | hq
      · exact absurd e hq
      · rw [toL_none hq]; exact clo_nil
    · rfl
  have none_ : (x.role ≠ role ∨ ∀ m ∈ w.mv, m.f = b → m.ev ≠ x.ev) → nxtM w b x = -1 := fun hq => by
    unfold nxtM
    rw [hR.ro]
    split
    · rename_i e
      rcases hq with hq | hq
      · exact absurd e hq
      · have : w.mv.find? (hitF b x) = none := by
          rw [List.find?_eq_none]
          intro m hm hh
          obtain ⟨h1, h2, h3, h4⟩ := of_decide_eq_true hh
          refine hq m hm h1 ?_
          unfold Mv.ev Hv.ev
          rw [h2, h3, h4]
        rw [this]
    · rfl
  by_cases hr : x.role = role
  · rcases h with ⟨rfl, hp⟩ | ⟨i, rfl, hi, hne⟩
    · refine .inl ⟨none_ (.inr fun m hm hf => ?_), emp (.inr (evs_empty hp _))⟩
      obtain ⟨r, _, h1, _⟩ := hR.a m hm
      omega
    · by_cases hx : x.ev ∈ evs g.es role p
      · obtain ⟨m, hm, h1, h2⟩ := hR.b i p hi x.ev hx
        have hh : hitF (i : Int) x m = true := by
          refine decide_eq_true ⟨h1, ?_, ?_, ?_⟩
          · exact congrArg Ev.send h2
          · exact congrArg Ev.peer h2
          · exact congrArg Ev.label h2
        cases hf : w.mv.find? (hitF (i : Int) x) with
        | none => rw [List.find?_eq_none] at hf; exact absurd hh (hf m hm)
        | some y =>
          have hym := List.mem_of_find?_eq_some hf
          have hsm : hitF (i : Int) x y = true := List.find?_some hf
          obtain ⟨k1, k2, k3, k4⟩ := of_decide_eq_true hsm
          have hev : y.ev = x.ev := by unfold Mv.ev Hv.ev; rw [k2, k3, k4]
          obtain ⟨r, q, a1, _, a3, _, t, a5, a6⟩ := hR.a y hym
          have hri : r = i := by omega
          subst hri
          rw [hi] at a3; cases a3
          have e1 : nxtM w (r : Int) x = y.t := by unfold nxtM; rw [hR.ro, if_pos hr, hf]
          have e2 : stepS g role p x = clo g.es role (toL g.es role p x.ev) := by unfold stepS; rw [if_pos hr]
          rw [e1, e2, ← hev]
          refine .inr ⟨t, a5, a6, ?_⟩
          obtain ⟨z, hz⟩ := toL_some (hev ▸ hx)
          have hz0 := (toL_lt hV z hz).1
          exact ⟨z.toNat, clo_iff.2 (.base (by rw [show ((z.toNat : Nat) : Int) = z by omega]; exact hz))⟩
      · refine .inl ⟨none_ (.inr fun m hm hf he => ?_), emp (.inr hx)⟩
        obtain ⟨r, q, a1, _, a3, a4, _⟩ := hR.a m hm
        have hri : r = i := by omega
        subst hri
        rw [hi] at a3; cases a3
        rw [he] at a4; exact hx a4
  · exact .inl ⟨none_ (.inl hr), emp (.inl hr)⟩
theorem relV_start {g : Gl} {role : Int} {w : Mch} {S : List PSet} (hR : RawV g role w S) (hV : ValidS g) : RelV S w.s (clo g.es role [g.s]) := by
  have := hV.num.n
  exact .inr ⟨0, hR.s, hR.z, g.s.toNat, clo_iff.2 (.base (by rw [show ((g.s.toNat : Nat) : Int) = g.s by omega]; exact List.mem_singleton.2 rfl))⟩
theorem relV_fin {g : Gl} {role : Int} {w : Mch} {S : List PSet} (hR : RawV g role w S) {b : Int} {p : PSet} (h : RelV S b p) : (0 ≤ b ↔ ∃ j, p j = true) ∧ (0 ≤ b → w.fin[b.toNat]? = some (p g.e.toNat)) := by
  rcases h with ⟨rfl, hp⟩ | ⟨i, rfl, hi, hne⟩
  · refine ⟨⟨fun h => by omega, fun ⟨j, hj⟩ => by rw [hp j] at hj; cases hj⟩, fun h => by omega⟩
  · refine ⟨iff_of_true (by omega) hne, fun _ => ?_⟩
    rw [show ((i : Int)).toNat = i from rfl, hR.f, List.getElem?_map, hi]; rfl
end Go.VC
end

section
/- Counting bits, on numbers: the sum is 0 for 0 alone. No program here. -/
namespace Go.VC
def mk8 (c : Nat) : Nat → Nat
  | 0 => 0
  | k + 1 => c + 256 * mk8 c k
theorem land8 {u c : Nat} (hu : u < 256) (hc : c < 256) (v m : Nat) : (u + 256 * v) &&& (c + 256 * m) = (u &&& c) + 256 * (v &&& m) := by
  have hl : u &&& c < 2 ^ 8 := Nat.and_lt_two_pow _ hc
  apply Nat.eq_of_testBit_eq
  intro i
  rw [Nat.add_comm u, Nat.add_comm c, Nat.add_comm (u &&& c), show (256 : Nat) = 2 ^ 8 from rfl, Nat.testBit_and, Nat.testBit_two_pow_mul_add _ hu, Nat.testBit_two_pow_mul_add _ hc, Nat.testBit_two_pow_mul_add _ hl]
  split
  · rw [Nat.testBit_and]
  · rw [Nat.testBit_and]
def s1 (k x : Nat) : Nat := ((x / 2) &&& mk8 0x55 k) + (x &&& mk8 0x55 k)
def s2 (k x : Nat) : Nat := ((x / 4) &&& mk8 0x33 k) + (x &&& mk8 0x33 k)
def s3 (k x : Nat) : Nat := (x / 16 + x) &&& mk8 0x0f k
def b1 (b : Nat) : Nat := ((b / 2) &&& 0x55) + (b &&& 0x55)
def b2 (b : Nat) : Nat := ((b / 4) &&& 0x33) + (b &&& 0x33)
def b3 (b : Nat) : Nat := (b / 16 + b) &&& 0x0f
set_option maxRecDepth 100000 in
theorem f1 : ∀ b, b < 256 → ∀ t, t < 2 → (b / 2 + 128 * t) &&& 0x55 = (b / 2) &&& 0x55 := by decide
set_option maxRecDepth 100000 in
theorem f2 : ∀ b, b < 256 → ∀ t, t < 4 → (b / 4 + 64 * t) &&& 0x33 = (b / 4) &&& 0x33 := by decide
set_option maxRecDepth 100000 in
theorem f3 : ∀ b, b < 69 → ∀ t, t < 5 → (b / 16 + 16 * t + b) &&& 0x0f = b3 b := by decide
set_option maxRecDepth 100000 in
theorem f4 : ∀ b, b < 256 → b1 b < 256 ∧ b2 (b1 b) < 69 ∧ b2 (b1 b) % 16 < 5 ∧ b3 (b2 (b1 b)) < 9 ∧ (b3 (b2 (b1 b)) = 0 → b = 0) := by decide
theorem s1_step (k b r : Nat) (hb : b < 256) : s1 (k + 1) (b + 256 * r) = b1 b + 256 * s1 k r := by
  unfold s1
  have e : (b + 256 * r) / 2 = (b / 2 + 128 * (r % 2)) + 256 * (r / 2) := by omega
  rw [e, mk8, land8 (by omega) (by decide), land8 hb (by decide), f1 b hb _ (by omega)]
  unfold b1; omega
theorem s2_step (k b r : Nat) (hb : b < 256) : s2 (k + 1) (b + 256 * r) = b2 b + 256 * s2 k r := by
  unfold s2
  have e : (b + 256 * r) / 4 = (b / 4 + 64 * (r % 4)) + 256 * (r / 4) := by omega
  rw [e, mk8, land8 (by omega) (by decide), land8 hb (by decide), f2 b hb _ (by omega)]
  unfold b2; omega
theorem s3_step (k b r : Nat) (hb : b < 69) (hr : r % 16 < 5) : s3 (k + 1) (b + 256 * r) = b3 b + 256 * s3 k r := by
  unfold s3
  have e : (b + 256 * r) / 16 + (b + 256 * r) = (b / 16 + 16 * (r % 16) + b) + 256 * (r / 16 + r) := by omega
  rw [e, mk8, land8 (by omega) (by decide), f3 b hb _ hr]
/-- the bytes' sums, and all of them together -/
def pcS : Nat → Nat → Nat
  | 0, _ => 0
  | k + 1, x => b3 (b2 (b1 (x % 256))) + 256 * pcS k (x / 256)
def pcT : Nat → Nat → Nat
  | 0, _ => 0
  | k + 1, x => b3 (b2 (b1 (x % 256))) + pcT k (x / 256)
theorem s12_low (k x : Nat) : s2 k (s1 k x) % 16 < 5 := by
  cases k with
  | zero => unfold s2 s1 mk8; simp
  | succ k =>
    have e : x = x % 256 + 256 * (x / 256) := by omega
    have h := f4 (x % 256) (by omega)
    rw [e, s1_step k _ _ (by omega), s2_step k _ _ h.1]
    omega
theorem pc_ok : ∀ k x : Nat, s3 k (s2 k (s1 k x)) = pcS k x
  | 0, x => by unfold s3 mk8 pcS; simp
  | k + 1, x => by
    have e : x = x % 256 + 256 * (x / 256) := by omega
    have h := f4 (x % 256) (by omega)
    conv => lhs; rw [e]
    rw [s1_step k _ _ (by omega), s2_step k _ _ h.1, s3_step k _ _ h.2.1 (s12_low k _), pc_ok k, pcS]
theorem pcT_le : ∀ k x : Nat, pcT k x ≤ 8 * k
  | 0, x => Nat.le_refl _
  | k + 1, x => by
    have h := f4 (x % 256) (by omega)
    have := pcT_le k (x / 256)
    rw [pcT]; omega
theorem pcT_zero : ∀ k x : Nat, x < 256 ^ k → pcT k x = 0 → x = 0
  | 0, x, hx, _ => by rw [Nat.pow_zero] at hx; omega
  | k + 1, x, hx, h => by
    rw [pcT] at h
    rw [Nat.pow_succ] at hx
    have h1 := (f4 (x % 256) (by omega)).2.2.2.2 (by omega)
    have h2 := pcT_zero k (x / 256) (by omega) (by omega)
    omega
theorem pcT_nil : ∀ k : Nat, pcT k 0 = 0
  | 0 => rfl
  | k + 1 => by rw [pcT, pcT_nil k]; rfl
def fold8 (v : Nat) : Nat := v + v / 256
def fold16 (v : Nat) : Nat := v + v / 65536
def fold32 (v : Nat) : Nat := v + v / 4294967296
theorem fold8_at {c : Nat} (h : c < 256) (x : Nat) : fold8 (c + 256 * x) = c + 256 * x + x := by unfold fold8; omega
theorem fold16_at {c d : Nat} (h : c < 256) (h2 : d < 256) (x : Nat) : fold16 (c + 256 * (d + 256 * x)) = c + 256 * (d + 256 * x) + x := by unfold fold16; omega
theorem fold32_at {c d e f : Nat} (h : c < 256) (h2 : d < 256) (h3 : e < 256) (h4 : f < 256) (x : Nat) : fold32 (c + 256 * (d + 256 * (e + 256 * (f + 256 * x)))) = c + 256 * (d + 256 * (e + 256 * (f + 256 * x))) + x := by unfold fold32; omega
theorem mod_at {c x : Nat} (h : c < 128) : (c + 256 * x) % 128 = c := by omega
theorem up8 {c x a B : Nat} (h : c ≤ a) (h2 : x ≤ B) : c + 256 * x ≤ a + 256 * B := by omega
theorem pc8 (x : Nat) : pcS 8 x < 651061555542690057 ∧ fold8 (pcS 8 x) < 18446744073709551616 ∧ fold16 (fold8 (pcS 8 x)) < 18446744073709551616 ∧ fold32 (fold16 (fold8 (pcS 8 x))) < 9223372036854775808 ∧ fold32 (fold16 (fold8 (pcS 8 x))) % 128 = pcT 8 x := by
  have h0 := (f4 (x % 256) (by omega)).2.2.2.1
  have h1 := (f4 (x / 256 % 256) (by omega)).2.2.2.1
  have h2 := (f4 (x / 256 / 256 % 256) (by omega)).2.2.2.1
  have h3 := (f4 (x / 256 / 256 / 256 % 256) (by omega)).2.2.2.1
  have h4 := (f4 (x / 256 / 256 / 256 / 256 % 256) (by omega)).2.2.2.1
  have h5 := (f4 (x / 256 / 256 / 256 / 256 / 256 % 256) (by omega)).2.2.2.1
  have h6 := (f4 (x / 256 / 256 / 256 / 256 / 256 / 256 % 256) (by omega)).2.2.2.1
  have h7 := (f4 (x / 256 / 256 / 256 / 256 / 256 / 256 / 256 % 256) (by omega)).2.2.2.1
  simp only [pcS, pcT]
  generalize b3 (b2 (b1 (x % 256))) = c0 at *
  generalize b3 (b2 (b1 (x / 256 % 256))) = c1 at *
  generalize b3 (b2 (b1 (x / 256 / 256 % 256))) = c2 at *
  generalize b3 (b2 (b1 (x / 256 / 256 / 256 % 256))) = c3 at *
  generalize b3 (b2 (b1 (x / 256 / 256 / 256 / 256 % 256))) = c4 at *
  generalize b3 (b2 (b1 (x / 256 / 256 / 256 / 256 / 256 % 256))) = c5 at *
  generalize b3 (b2 (b1 (x / 256 / 256 / 256 / 256 / 256 / 256 % 256))) = c6 at *
  generalize b3 (b2 (b1 (x / 256 / 256 / 256 / 256 / 256 / 256 / 256 % 256))) = c7 at *
  rw [fold8_at (by omega)]
  have e8 : c0 + 256 * (c1 + 256 * (c2 + 256 * (c3 + 256 * (c4 + 256 * (c5 + 256 * (c6 + 256 * (c7 + 256 * 0))))))) + (c1 + 256 * (c2 + 256 * (c3 + 256 * (c4 + 256 * (c5 + 256 * (c6 + 256 * (c7 + 256 * 0))))))) = (c0 + c1) + 256 * ((c1 + c2) + 256 * ((c2 + c3) + 256 * ((c3 + c4) + 256 * ((c4 + c5) + 256 * ((c5 + c6) + 256 * ((c6 + c7) + 256 * c7)))))) := by omega
  rw [e8, fold16_at (by omega) (by omega)]
  have e16 : (c0 + c1) + 256 * ((c1 + c2) + 256 * ((c2 + c3) + 256 * ((c3 + c4) + 256 * ((c4 + c5) + 256 * ((c5 + c6) + 256 * ((c6 + c7) + 256 * c7)))))) + ((c2 + c3) + 256 * ((c3 + c4) + 256 * ((c4 + c5) + 256 * ((c5 + c6) + 256 * ((c6 + c7) + 256 * c7))))) = (c0 + c1 + c2 + c3) + 256 * ((c1 + c2 + c3 + c4) + 256 * ((c2 + c3 + c4 + c5) + 256 * ((c3 + c4 + c5 + c6) + 256 * ((c4 + c5 + c6 + c7) + 256 * ((c5 + c6 + c7) + 256 * ((c6 + c7) + 256 * c7)))))) := by omega
  rw [e16, fold32_at (by omega) (by omega) (by omega) (by omega)]
  refine ⟨Nat.lt_of_le_of_lt (up8 (show c0 ≤ 8 by omega) (up8 (show c1 ≤ 8 by omega) (up8 (show c2 ≤ 8 by omega) (up8 (show c3 ≤ 8 by omega) (up8 (show c4 ≤ 8 by omega) (up8 (show c5 ≤ 8 by omega) (up8 (show c6 ≤ 8 by omega) (up8 (show c7 ≤ 8 by omega) (Nat.le_refl 0))))))))) (by decide), Nat.lt_of_le_of_lt (up8 (show c0 + c1 ≤ 16 by omega) (up8 (show c1 + c2 ≤ 16 by omega) (up8 (show c2 + c3 ≤ 16 by omega) (up8 (show c3 + c4 ≤ 16 by omega) (up8 (show c4 + c5 ≤ 16 by omega) (up8 (show c5 + c6 ≤ 16 by omega) (up8 (show c6 + c7 ≤ 16 by omega) (show c7 ≤ 8 by omega)))))))) (by decide), Nat.lt_of_le_of_lt (up8 (show c0 + c1 + c2 + c3 ≤ 32 by omega) (up8 (show c1 + c2 + c3 + c4 ≤ 32 by omega) (up8 (show c2 + c3 + c4 + c5 ≤ 32 by omega) (up8 (show c3 + c4 + c5 + c6 ≤ 32 by omega) (up8 (show c4 + c5 + c6 + c7 ≤ 32 by omega) (up8 (show c5 + c6 + c7 ≤ 32 by omega) (up8 (show c6 + c7 ≤ 32 by omega) (show c7 ≤ 8 by omega)))))))) (by decide), Nat.lt_of_le_of_lt (Nat.add_le_add (up8 (show c0 + c1 + c2 + c3 ≤ 32 by omega) (up8 (show c1 + c2 + c3 + c4 ≤ 32 by omega) (up8 (show c2 + c3 + c4 + c5 ≤ 32 by omega) (up8 (show c3 + c4 + c5 + c6 ≤ 32 by omega) (up8 (show c4 + c5 + c6 + c7 ≤ 32 by omega) (up8 (show c5 + c6 + c7 ≤ 32 by omega) (up8 (show c6 + c7 ≤ 32 by omega) (show c7 ≤ 8 by omega)))))))) (up8 (show c4 + c5 + c6 + c7 ≤ 32 by omega) (up8 (show c5 + c6 + c7 ≤ 32 by omega) (up8 (show c6 + c7 ≤ 32 by omega) (show c7 ≤ 8 by omega))))) (by decide), ?_⟩
  have e32 : (c0 + c1 + c2 + c3) + 256 * ((c1 + c2 + c3 + c4) + 256 * ((c2 + c3 + c4 + c5) + 256 * ((c3 + c4 + c5 + c6) + 256 * ((c4 + c5 + c6 + c7) + 256 * ((c5 + c6 + c7) + 256 * ((c6 + c7) + 256 * c7)))))) + ((c4 + c5 + c6 + c7) + 256 * ((c5 + c6 + c7) + 256 * ((c6 + c7) + 256 * c7))) = (c0 + (c1 + (c2 + (c3 + (c4 + (c5 + (c6 + (c7 + 0)))))))) + 256 * ((c1 + c2 + c3 + c4 + (c5 + c6 + c7)) + 256 * ((c2 + c3 + c4 + c5 + (c6 + c7)) + 256 * ((c3 + c4 + c5 + c6 + c7) + 256 * ((c4 + c5 + c6 + c7) + 256 * ((c5 + c6 + c7) + 256 * ((c6 + c7) + 256 * c7)))))) := by omega
  rw [e32]
  exact mod_at (by omega)
end Go.VC
end

section
/- Contracts: the number of a set's elements, an event of the role, the view behind a history. -/
namespace Go.VC
open Go.Proofs Go.LexS
set_option maxRecDepth 100000
theorem andN {a b : Nat} (ha : a < 18446744073709551616) (hb : b < 18446744073709551616) : andI .u64 (a : Int) (b : Int) = ((a &&& b : Nat) : Int) := by
  unfold andI
  have e : (BitVec.ofInt (IntKind.bits .u64) (a : Int) &&& BitVec.ofInt (IntKind.bits .u64) (b : Int)).toNat = a &&& b := by
    show (BitVec.ofInt 64 (a : Int) &&& BitVec.ofInt 64 (b : Int)).toNat = _
    rw [BitVec.ofInt_natCast, BitVec.ofInt_natCast, BitVec.toNat_and, BitVec.toNat_ofNat, BitVec.toNat_ofNat, Nat.mod_eq_of_lt ha, Nat.mod_eq_of_lt hb]
  rw [e]
  have : a &&& b ≤ a := Nat.and_le_left
  exact wu64 (by omega) (by omega)
theorem and_127 {a : Nat} (ha : a < 9223372036854775808) : andI .i64 (a : Int) 127 = ((a % 128 : Nat) : Int) := by
  unfold andI
  have e : (BitVec.ofInt (IntKind.bits .i64) (a : Int) &&& BitVec.ofInt (IntKind.bits .i64) 127).toNat = a % 128 := by
    show (BitVec.ofInt 64 (a : Int) &&& BitVec.ofInt 64 ((127 : Nat) : Int)).toNat = _
    rw [BitVec.ofInt_natCast, BitVec.ofInt_natCast, BitVec.toNat_and, BitVec.toNat_ofNat, BitVec.toNat_ofNat, Nat.mod_eq_of_lt (by omega)]
    exact Nat.and_two_pow_sub_one_eq_mod a 7
  rw [e]
  exact w64 (by omega) (by omega)
theorem ones57 (w : Nat) (hw : w < 18446744073709551616) (h : Heap) : Fn Tryz.prog 57 #[.int .u64 (w : Int)] h fun v h' => v = .int .i64 (pcT 8 w : Nat) ∧ h' = h := by
  apply vc57; unfold W57
  refine ⟨by decide, by decide, by decide, by decide, by decide, by decide, ?_⟩
  have m1 : mk8 0x55 8 = 6148914691236517205 := by decide
  have m2 : mk8 0x33 8 = 3689348814741910323 := by decide
  have m3 : mk8 0x0f 8 = 1085102592571150095 := by decide
  have h1 : s1 8 w < 18446744073709551616 := by
    have a1 : w / 2 &&& mk8 0x55 8 ≤ mk8 0x55 8 := Nat.and_le_right
    have a2 : w &&& mk8 0x55 8 ≤ mk8 0x55 8 := Nat.and_le_right
    unfold s1; omega
  have h2 : s2 8 (s1 8 w) ≤ 7378697629483820646 := by
    have a1 : s1 8 w / 4 &&& mk8 0x33 8 ≤ mk8 0x33 8 := Nat.and_le_right
    have a2 : s1 8 w &&& mk8 0x33 8 ≤ mk8 0x33 8 := Nat.and_le_right
    unfold s2; omega
  have L1 : IntKind.wrap .u64 ((andI .u64 (shrI .u64 (w : Int) 1) 6148914691236517205) + (andI .u64 (w : Int) 6148914691236517205)) = ((s1 8 w : Nat) : Int) := by
    rw [show (1 : Int) = ((1 : Nat) : Int) from rfl, show (6148914691236517205 : Int) = ((6148914691236517205 : Nat) : Int) from rfl, shr_nat (by decide), andN (by omega) (by decide), andN hw (by decide), ← Int.natCast_add]
    have e : w / 2 ^ 1 &&& 6148914691236517205 = w / 2 &&& mk8 0x55 8 := by rw [m1]
    rw [e, ← m1]
    exact wu64 (by omega) (by have : (w / 2 &&& mk8 0x55 8) + (w &&& mk8 0x55 8) = s1 8 w := rfl; omega)
  rw [L1]
  have L2 : IntKind.wrap .u64 ((andI .u64 (shrI .u64 ((s1 8 w : Nat) : Int) 2) 3689348814741910323) + (andI .u64 ((s1 8 w : Nat) : Int) 3689348814741910323)) = ((s2 8 (s1 8 w) : Nat) : Int) := by
    rw [show (2 : Int) = ((2 : Nat) : Int) from rfl, show (3689348814741910323 : Int) = ((3689348814741910323 : Nat) : Int) from rfl, shr_nat (by decide), andN (by omega) (by decide), andN h1 (by decide), ← Int.natCast_add]
    have e : s1 8 w / 2 ^ 2 &&& 3689348814741910323 = s1 8 w / 4 &&& mk8 0x33 8 := by rw [m2]
    rw [e, ← m2]
    exact wu64 (by omega) (by have : (s1 8 w / 4 &&& mk8 0x33 8) + (s1 8 w &&& mk8 0x33 8) = s2 8 (s1 8 w) := rfl; omega)
  rw [L2]
  have L3 : andI .u64 (IntKind.wrap .u64 ((shrI .u64 ((s2 8 (s1 8 w) : Nat) : Int) 4) + ((s2 8 (s1 8 w) : Nat) : Int))) 1085102592571150095 = ((pcS 8 w : Nat) : Int) := by
    rw [show (4 : Int) = ((4 : Nat) : Int) from rfl, show (1085102592571150095 : Int) = ((1085102592571150095 : Nat) : Int) from rfl, shr_nat (by decide), ← Int.natCast_add, wu64 (by omega) (by omega), andN (by omega) (by decide), ← m3, ← pc_ok 8 w]
    rfl
  rw [L3]
  obtain ⟨p1, p2, p3, p4, p5⟩ := pc8 w
  have L4 : IntKind.wrap .u64 (((pcS 8 w : Nat) : Int) + shrI .u64 ((pcS 8 w : Nat) : Int) 8) = ((fold8 (pcS 8 w) : Nat) : Int) := by
    rw [show (8 : Int) = ((8 : Nat) : Int) from rfl, shr_nat (by decide), ← Int.natCast_add]
    exact wu64 (by omega) (by have : pcS 8 w + pcS 8 w / 2 ^ 8 = fold8 (pcS 8 w) := rfl; omega)
  rw [L4]
  have L5 : IntKind.wrap .u64 (((fold8 (pcS 8 w) : Nat) : Int) + shrI .u64 ((fold8 (pcS 8 w) : Nat) : Int) 16) = ((fold16 (fold8 (pcS 8 w)) : Nat) : Int) := by
    rw [show (16 : Int) = ((16 : Nat) : Int) from rfl, shr_nat (by decide), ← Int.natCast_add]
    exact wu64 (by omega) (by have : fold8 (pcS 8 w) + fold8 (pcS 8 w) / 2 ^ 16 = fold16 (fold8 (pcS 8 w)) := rfl; omega)
  rw [L5]
  have L6 : IntKind.wrap .u64 (((fold16 (fold8 (pcS 8 w)) : Nat) : Int) + shrI .u64 ((fold16 (fold8 (pcS 8 w)) : Nat) : Int) 32) = ((fold32 (fold16 (fold8 (pcS 8 w))) : Nat) : Int) := by
    rw [show (32 : Int) = ((32 : Nat) : Int) from rfl, shr_nat (by decide), ← Int.natCast_add]
    exact wu64 (by omega) (by have : fold16 (fold8 (pcS 8 w)) + fold16 (fold8 (pcS 8 w)) / 2 ^ 32 = fold32 (fold16 (fold8 (pcS 8 w))) := rfl; omega)
  rw [L6, w64 (by omega) (by omega), and_127 p4, p5]
  exact ⟨rfl, rfl⟩
theorem mem_words {ws : List Nat} {p : Nat → Bool} (h3 : ∀ w ∈ ws, w < 2 ^ 64) (h4 : ∀ k, memB ws k = p k) : (∃ j, p j = true) ↔ ¬ ∀ w ∈ ws, w = 0 := by
  constructor
  · rintro ⟨j, hj⟩ hall
    rw [← h4 j] at hj
    unfold memB at hj
    rw [List.getD_eq_getElem?_getD] at hj
    cases hw : ws[j / 64]? with
    | none => rw [hw] at hj; simp at hj
    | some w =>
      rw [hw, Option.getD_some, hall w (List.mem_of_getElem? hw)] at hj
      simp at hj
  · intro hn
    apply Classical.byContradiction
    intro hno
    apply hn
    intro w hw
    apply Classical.byContradiction
    intro hw0
    obtain ⟨i, hi⟩ := Nat.exists_testBit_of_ne_zero hw0
    have hi64 : i < 64 := by
      apply Classical.byContradiction
      intro h
      have : w < 2 ^ i := Nat.lt_of_lt_of_le (h3 w hw) (Nat.pow_le_pow_right (by decide) (by omega))
      rw [Nat.testBit_lt_two_pow this] at hi; cases hi
    obtain ⟨k, hk⟩ := List.mem_iff_getElem?.1 hw
    refine hno ⟨64 * k + i, ?_⟩
    rw [← h4]
    unfold memB
    rw [List.getD_eq_getElem?_getD, show (64 * k + i) / 64 = k by omega, show (64 * k + i) % 64 = i by omega, hk]
    exact hi
theorem len28 (p : Nat → Bool) (s : Sl) (h : Heap) (hr : SetV h s p) :
    Fn Tryz.prog 28 #[.slice s.a s.n s.c] h fun v h' => (∃ k : Int, v = .int .i64 k ∧ (0 < k ↔ ∃ j, p j = true)) ∧ h' = h := by
  apply vc28; unfold W28
  obtain ⟨ws, h1, h2, h3, h4⟩ := hr.ex
  have hn := h1.ln
  have hmin : imin (s.n : Int) 64 = s.n := by rw [imin_min]; omega
  rw [hmin]
  refine ⟨fun q x h' m => ∃ (i a : Nat), x = i ∧ q = a ∧ i ≤ s.n ∧ m = s.n - i ∧ a ≤ 64 * i ∧ (a = 0 ↔ ∀ w ∈ ws.take i, w = 0) ∧ h' = h, ⟨_, 0, 0, rfl, rfl, by omega, rfl, by omega, iff_of_true rfl (by simp), rfl⟩, ?_⟩
  rintro - _ _ h6 m ⟨i, a, rfl, rfl, hi, rfl, ha, hz, rfl⟩
  refine sB_intro (fun c => ?_) (fun c => ?_)
  · replace c := lt_t c
    refine h1.nbI (by omega) (by omega) fun b o w g t => ?_
    replace g : ws[i]? = some w := g
    have hw := h3 w (List.mem_of_getElem? g)
    refine ⟨_, t.nth 0 rfl, ?_⟩
    refine (ones57 w (by omega) h6).mono ?_
    rintro _ h12 ⟨rfl, rfl⟩
    have hle := pcT_le 8 w
    refine ⟨_, rfl, s.n - (i + 1), by omega, i + 1, a + pcT 8 w, by rw [w64 (by omega) (by omega)]; omega, by rw [w64 (by omega) (by omega)]; omega, by omega, rfl, by omega, ?_, rfl⟩
    rw [take_snoc g]
    constructor
    · intro h0 x hx
      rcases List.mem_append.1 hx with hx | hx
      · exact hz.1 (by omega) x hx
      · rw [List.mem_singleton.1 hx]
        exact pcT_zero 8 w hw (by omega)
    · intro hall
      have e1 := hz.2 fun x hx => hall x (List.mem_append_left _ hx)
      have e2 : w = 0 := hall w (List.mem_append_right _ (List.mem_singleton.2 rfl))
      rw [e2, pcT_nil 8]; omega
  · replace c := lt_f c
    rw [List.take_of_length_le (by omega)] at hz
    refine ⟨⟨_, rfl, ?_⟩, rfl⟩
    rw [mem_words h3 h4, ← hz]; omega
theorem own54 (g : Gl) (role : Int) (b : Nat) (x : Hv) (h : Heap) (hl : LkI h ⟨b, 0, none⟩ g role) :
    Fn Tryz.prog 54 #[.pointer (some ⟨b, 0, none⟩), .agg ⟨x.cs⟩] h fun v h' => v = .tuple ⟨[.agg ⟨x.ev.cs⟩, .bool (x.role == role)]⟩ ∧ Ext h h' := by
  apply vc54 ⟨b, 0, none⟩ x.role x.send x.peer x.label x.vs; unfold W54
  obtain ⟨hq, hv, qs, vs, e0, hat, _⟩ := hl.ex
  have hb : b < h.size := hc_blk (hat.nth 0 rfl)
  refine (St.refl h).newb fun h6 hs => ?_
  have hh6 : h.size < h6.size := hc_blk (hs.rd 0 rfl (i := 0) rfl)
  refine hs.newbE fun h7 E7 hs => ?_
  refine ⟨_, hs.rd 1 rfl rfl, _, hs.rd 1 rfl rfl, _, hs.rd 1 rfl rfl, _, hs.rd 1 rfl rfl, role, (atC_ext hs.ext hat).nth 8 rfl, ?_⟩
  obtain ⟨k1, k2⟩ := hs.put (K := fun h' => St h h' [.blk h6.size x.ev.cs 116, .blk h.size x.cs 60]) 0 rfl (o := 0) (vs := x.ev.cs) (n := 3) rfl (show 3 ≤ 3 by decide) (fun h' hs => hs)
  refine ⟨k1, fun h13 e13 => ?_⟩
  have hs := k2 h13 e13
  have hB : But h6.size h7 h13 := by rw [e13]; exact But.hputs (a := ⟨h6.size, 0, none⟩) _ _ _
  refine ⟨Sm_but hB (fun a ha => ?_), ?_⟩
  · simp only [List.mem_cons, List.not_mem_nil, or_false] at ha
    rcases ha with rfl | rfl
    · show b ≠ h6.size; omega
    · show h.size ≠ h6.size; omega
  · exact ⟨_, _, _, hs.at 0 rfl (o := 0) (n := 3) rfl, rfl, hs.ext⟩
theorem behS_snoc (g : Gl) (role : Int) (l : List Hv) (x : Hv) : behS g role (l ++ [x]) = stepS g role (behS g role l) x := by unfold behS; rw [List.foldl_append]; rfl
theorem stepS_nil (g : Gl) (role : Int) (x : Hv) : stepS g role (fun _ => false) x = fun _ => false := by
  unfold stepS
  split
  · rw [toL_none (evs_empty (fun _ => rfl) _)]
    exact funext fun j => clo_nil
  · rfl
theorem foldS_nil (g : Gl) (role : Int) : ∀ l : List Hv, l.foldl (stepS g role) (fun _ => false) = fun _ => false
  | [] => rfl
  | x :: l => by rw [List.foldl_cons, stepS_nil, foldS_nil g role l]
theorem behS_wrong {g : Gl} {role : Int} {l : List Hv} {i : Nat} {x : Hv} (hx : l[i]? = some x) (hr : x.role ≠ role) : behS g role l = fun _ => false := by
  have e : l = l.take i ++ x :: l.drop (i + 1) := by
    rw [← drop_get hx, List.take_append_drop]
  rw [e]
  unfold behS
  rw [List.foldl_append, List.foldl_cons]
  have : stepS g role ((l.take i).foldl (stepS g role) (clo g.es role [g.s])) x = fun _ => false := by
    unfold stepS; rw [if_neg hr]
  rw [this, foldS_nil]
theorem behS_lt {g : Gl} {role : Int} (hV : ValidS g) (l : List Hv) : ∀ j, behS g role l j = true → (j : Int) < g.n := by
  have hN := hV.num.n
  suffices h : ∀ (l : List Hv) (p : PSet), (∀ j, p j = true → (j : Int) < g.n) → ∀ j, l.foldl (stepS g role) p j = true → (j : Int) < g.n from
    h l _ fun j hj => clo_lt hV (fun x hx => by rw [List.mem_singleton.1 hx]; omega) j hj
  intro l
  induction l with
  | nil => intro p hp; exact hp
  | cons x l ih =>
    intro p hp
    rw [List.foldl_cons]
    refine ih _ fun j hj => ?_
    unfold stepS at hj
    split at hj
    · exact clo_lt hV (toL_lt hV) j hj
    · cases hj
theorem behind27 (g : Gl) (role : Int) (s : Sl) (L : List Hv) (h : Heap) (hg : GI h g) (hx : Gx h) (hgood : ValidS g ∧ 0 ≤ role ∧ role < g.rs.length) (hL : RL h 5 s Hv.cs L) :
    Fn Tryz.prog 27 #[g.v, .int .i64 role, .slice s.a s.n s.c] h fun v h' => Ext h h' ∧ ∃ q : Sl, v = .tuple ⟨[.slice q.a q.n q.c, .int .i64 0]⟩ ∧ SetV h' q (behS g role L) := by
  apply vc27 (bs g.nm) g.hr g.hd g.n g.s g.e g.he g.ht role s; unfold W27
  have hV := hgood.1
  have hN := hV.num.n
  have hsn := hL.ln
  have hsm := hL.sm
  refine (St.refl h).newb fun h9 hs => ?_
  refine ⟨_, _, _, _, _, _, _, _, hs.at 0 rfl (o := 0) (n := 8) rfl, ?_⟩
  refine (look52 g role h9 (hg.ext hs.ext) (hx.ext hs.ext)).mono ?_
  rintro _ h21 ⟨E21, hr⟩
  rcases hr with ⟨hn, _⟩ | ⟨_, b, hb, rfl, hl⟩
  · exact absurd hgood hn
  have hs := hs.step E21
  refine ⟨_, _, rfl, sBn (fun c => absurd rfl c) fun _ => ?_⟩
  refine ⟨_, hs.rd 0 rfl rfl, ?_⟩
  refine hs.newbE fun h23 E23 hs => ?_
  have hs2 := hs.blkS 1 1 ([g.s].map inC) rfl (inrows _) rfl (by decide)
  refine (closed53 g role b [g.s] ⟨some ⟨h21.size, 0, none⟩, 1, 1⟩ h23 (hl.ext E23) hV (hs2.rows 0 rfl (by omega)) (fun x hx => by rw [List.mem_singleton.1 hx]; omega) (by show 1 ≤ 1048576; omega)).mono ?_
  rintro _ h26 ⟨E26, c, k, ws, rfl, hc0, ho, hS⟩
  have hl26 := hl.ext (E23.trans E26)
  have E := (hs.step E26).ext
  have hset := hS.v ho k
  refine ⟨⟨some ⟨c, 0, none⟩, k, k⟩, rfl, ?_⟩
  refine ⟨fun q x h' m => ∃ i : Nat, x = i ∧ i ≤ s.n ∧ m = s.n - i ∧ Ext h26 h' ∧ SetV h' q (behS g role (L.take i)), ⟨_, 0, rfl, by omega, rfl, .rfl', hset⟩, ?_⟩
  rintro - q _ h32 m ⟨i, rfl, hi, rfl, Ei, hq⟩
  refine sB_intro (fun cc => ?_) (fun cc => ?_)
  · replace cc := lt_t cc
    refine (hL.rw.ext (E.trans Ei)).nbI (by omega) (by omega) fun b33 o34 x gx t => ?_
    replace gx : L[i]? = some x := gx
    refine ⟨_, _, _, _, _, t, ?_⟩
    refine (St.refl h32).newput (vs := x.cs) rfl rfl fun h41 hs => ?_
    refine ⟨_, _, _, _, _, hs.at 0 rfl (o := 0) (n := 5) rfl, ?_⟩
    refine (own54 g role b x h41 (hl26.ext (Ei.trans hs.ext))).mono ?_
    rintro _ h52 ⟨rfl, E52⟩
    have hs := hs.step E52
    refine ⟨_, _, _, _, rfl, ?_⟩
    refine hs.newput (vs := x.ev.cs) rfl rfl fun h54 hs => ?_
    have E54 := (E.trans Ei).trans hs.ext
    refine sB_intro (fun c1 => ?_) (fun c1 => ?_)
    · have hr : x.role ≠ role := by simpa using c1
      refine (make55 [] ⟨none, 0, 0⟩ h54 Rw.nil (by decide)).mono ?_
      rintro _ h57 ⟨E57, b2, k2, ws2, rfl, _, ho2, hS2⟩
      refine ⟨⟨some ⟨b2, 0, none⟩, k2, k2⟩, rfl, E54.trans E57, _, rfl, ?_⟩
      have := hS2.v ho2 k2
      rw [behS_wrong gx hr]
      have e : (fun j : Nat => decide ((j : Int) ∈ ([] : List Int) ∧ j < 4096)) = fun _ => false := funext fun j => by simp
      rw [e] at this
      exact this
    · have hr : x.role = role := by simpa using c1
      refine ⟨_, _, _, hs.at 0 rfl (o := 0) (n := 3) rfl, ?_⟩
      refine (after56 g role b (behS g role (L.take i)) x.ev q h54 (hl26.ext (Ei.trans hs.ext)) hV (hx.ext E54) (hq.ext hs.ext) (behS_lt hV _)).mono ?_
      rintro _ h63 ⟨E63, c2, k2, ws2, rfl, _, ho2, hS2⟩
      refine ⟨⟨some ⟨c2, 0, none⟩, k2, k2⟩, rfl, s.n - (i + 1), by omega, i + 1, by rw [w64 (by omega) (by omega)]; omega, by omega, rfl, (Ei.trans hs.ext).trans E63, ?_⟩
      rw [take_snoc gx, behS_snoc]
      have e : stepS g role (behS g role (L.take i)) x = clo g.es role (toL g.es role (behS g role (L.take i)) x.ev) := by unfold stepS; rw [if_pos hr]
      rw [e]
      exact hS2.v ho2 k2
  · replace cc := lt_f cc
    rw [List.take_of_length_le (by omega)] at hq
    exact ⟨E.trans Ei, _, rfl, hq⟩
end Go.VC
end

section
/- The law of histories. -/
namespace Go.VC
open Go.Proofs Go.LexS
set_option maxRecDepth 100000
theorem relV_neg {g : Gl} {role : Int} {S : List PSet} {b : Int} {p : PSet} (h : RelV S b p) (hb : b < 0) (x : Hv) : RelV S b (stepS g role p x) := by
  rcases h with ⟨rfl, hp⟩ | ⟨i, rfl, _⟩
  · have e : p = fun _ => false := funext hp
    exact .inl ⟨rfl, fun j => by rw [e, stepS_nil]⟩
  · omega
theorem proj_err {g : Gl} {role : Int} {e : Int} (hgood : ValidS g ∧ 0 ≤ role ∧ role < g.rs.length) (h : proj g role = (none, e)) : e = 6 ∨ e = 18 := by
  unfold proj at h
  have hr : raw g role = (none, e) := by
    cases hw : raw g role with
    | mk a b =>
      rw [hw] at h
      cases a with
      | none => cases h; rfl
      | some m => cases h
  unfold raw at hr
  rw [if_neg (Classical.not_not.2 hgood)] at hr
  split at hr
  · cases hr; exact .inl rfl
  · split at hr
    · cases hr; exact .inl rfl
    · split at hr
      · cases hr; exact .inr rfl
      · cases hr
set_option maxHeartbeats 4000000 in
theorem histories7 (g : Gl) (role : Int) (s : Sl) (L : List Hv) (h : Heap) (hg : GI h g) (hx : Gx h) (hM : GNm g.ds) (hL : RL h 5 s Hv.cs L)
    (hP : ∀ w, raw g role = (some w, 0) → w.mv.length ≤ 1048576 ∧ w.li.length ≤ 1048576 ∧ (minF w).mv.length ≤ 1048576 ∧ (minF w).li.length ≤ 1048576 ∧ Nonempty (CanS (minF w) w role)) :
    Fn Tryz.prog 7 #[g.v, .int .i64 role, .slice s.a s.n s.c] h fun v h' => v = .bool true ∧ Ext h h' := by
  apply vc7 (bs g.nm) g.hr g.hd g.n g.s g.e g.he g.ht role s; unfold W7
  have hs := St.refl h
  refine hs.newb fun h9 hs => ?_
  refine (awake10 h9 (hx.ext hs.ext)).mono ?_
  rintro _ h12 ⟨rfl, E12⟩
  replace hs := hs.step E12
  refine ⟨_, rfl, sB_f rfl ?_⟩
  refine ⟨_, _, _, _, _, _, _, _, hs.at 0 rfl (n := 8) rfl, ?_⟩
  refine (small21 g role h12 (hg.ext hs.ext) hM).mono ?_
  rintro _ h23 ⟨⟨b, rfl, hb⟩, E23⟩
  replace hs := hs.step E23
  refine ⟨_, rfl, sB_intro (fun _ => ⟨rfl, hs.ext⟩) (fun cb => sB_intro (fun _ => ⟨rfl, hs.ext⟩) (fun hlen => ?_))⟩
  have hgood := hb (bT cb)
  have hV := hgood.1
  have hN := hV.num.n
  have hlen20 : s.n ≤ 20 := by have := of_decide_eq_false hlen; omega
  refine ⟨_, _, _, _, _, _, _, _, hs.at 0 rfl (n := 8) rfl, ?_⟩
  refine (project12 g role h23 (hg.ext hs.ext) (hx.ext hs.ext)).mono ?_
  rintro _ h40 ⟨E40, hr1⟩
  cases hr1 with
  | @err e he h0 =>
    replace hs := hs.step E40
    refine ⟨0, 0, 0, ⟨none, 0, 0⟩, ⟨none, 0, 0⟩, ⟨none, 0, 0⟩, e, rfl, ?_⟩
    refine hs.newput (vs := m0) rfl rfl fun h42 hs => ?_
    refine sBn (fun _ => sBe (fun _ => ⟨rfl, hs.ext⟩) (fun c => ⟨?_, hs.ext⟩)) fun c => absurd c h0
    rcases proj_err hgood he with rfl | rfl
    · rfl
    · exact absurd rfl c
  | @ok m sf sm sl he hm =>
    cases hw : raw g role with
    | mk o e2 =>
    cases o with
    | none => exfalso; unfold proj at he; rw [hw] at he; cases he
    | some w =>
    have hmw : m = minF w := by unfold proj at he; rw [hw] at he; cases he; rfl
    have he2 : e2 = 0 := by
      unfold raw at hw
      split at hw
      · cases hw
      · split at hw
        · cases hw
        · split at hw
          · cases hw
          · split at hw
            · cases hw
            · cases hw; rfl
    subst he2
    subst hmw
    obtain ⟨b1, b2, b3, b4, ⟨C⟩⟩ := hP w hw
    obtain ⟨_, S, hR, _⟩ := raw_v hw
    replace hs := hs.join hm
    refine ⟨(minF w).role, (minF w).n, (minF w).s, sf, sm, sl, 0, rfl, ?_⟩
    refine hs.newput (vs := mC (minF w) sf sm sl) rfl rfl fun h42 hs => ?_
    refine sBn (fun c => absurd rfl c) fun _ => ?_
    have gn := C.gm.n
    have gfl := C.gm.fl
    have hMm : MI h42 (minF w) sf sm sl := hs.mi 2 rfl rfl rfl (by omega) b3 b4
    have hcm : ∀ {h' : Heap}, Ext h42 h' → atC h' ⟨h40.size, 0, none⟩ (mC (minF w) sf sm sl) := fun E => atC_ext E (hs.at 0 rfl (n := 6) rfl)
    have hcg : ∀ {h' : Heap}, Ext h42 h' → atC h' ⟨h.size, 0, none⟩ g.cs := fun E => atC_ext E (hs.at 1 rfl (n := 8) rfl)
    have E42 := hs.ext
    have hL42 := hL.ext E42
    have hg42 := hg.ext E42
    have hx42 := hx.ext E42
    clear hs hm
    have hfn := hMm.pf.ln
    have hsn := hL.ln
    generalize hmm : minF w = m at *
    refine ⟨_, _, _, sf, sm, sl, hcm .rfl', ?_⟩
    refine (right17 m sf sm sl h42 hMm C.gm).mono ?_
    rintro _ h51 ⟨rfl, E51⟩
    refine ⟨_, rfl, sB_f rfl ?_⟩
    refine ⟨_, (hcm E51).nth 2 rfl, ?_⟩
    refine ⟨fun a x h' μ => ∃ i : Nat, x = i ∧ i ≤ s.n + 1 ∧ μ = s.n + 1 - i ∧ Ext h42 h' ∧ (i ≤ s.n → ∃ b, C.Rel a b ∧ RelV S b (behS g role (L.take i))),
      ⟨_, 0, rfl, by omega, rfl, E51, fun _ => ⟨w.s, C.r0, relV_start hR hV⟩⟩, ?_⟩
    rintro - a _ h58 μ ⟨i, rfl, hi, rfl, E58, hrel⟩
    refine sB_intro (fun c => ?_) (fun c => ⟨rfl, E42.trans E58⟩)
    replace c : i ≤ s.n := by have := of_decide_eq_true c; omega
    obtain ⟨b, hab, hbv⟩ := hrel c
    obtain ⟨v1, v2⟩ := relV_fin hR hbv
    have hab0 : 0 ≤ a ↔ 0 ≤ b := ⟨fun h => (C.rs a b hab h).1, fun h => C.rn a b hab h⟩
    refine ⟨_, _, _, _, _, _, _, _, hcg E58, ⟨by omega, by omega, by have := hL.cap; omega⟩, ?_⟩
    refine (behind27 g role _ (L.take i) h58 (hg42.ext E58) (hx42.ext E58) hgood ((hL42.ext E58).take c)).mono ?_
    rintro _ h70 ⟨E70, q, rfl, hq⟩
    refine ⟨q, 0, rfl, sBn (fun c => absurd rfl c) fun _ => ?_⟩
    refine (len28 _ q h70 hq).mono ?_
    rintro _ h73 ⟨⟨k, rfl, hk⟩, rfl⟩
    have hd : (decide (a ≥ 0) == decide (k > 0)) = true := by
      by_cases h0 : 0 ≤ a
      · rw [decide_eq_true h0, decide_eq_true (hk.2 (v1.1 (hab0.1 h0)))]; rfl
      · rw [decide_eq_false h0, decide_eq_false (fun h1 => h0 (hab0.2 (v1.2 (hk.1 h1))))]; rfl
    refine ⟨_, rfl, sB_f (by rw [hd]; rfl) ?_⟩
    have Eall := E58.trans E70
    have nxt : ∀ {a' : Int} {h' : Heap}, Ext h42 h' → (i < s.n → ∃ x, L[i]? = some x ∧ ∃ b', C.Rel a' b' ∧ RelV S b' (stepS g role (behS g role (L.take i)) x)) → ∃ m98, m98 < s.n + 1 - i ∧ ∃ i_1 : Nat, IntKind.wrap .i64 ((i : Int) + 1) = i_1 ∧ i_1 ≤ s.n + 1 ∧ m98 = s.n + 1 - i_1 ∧ Ext h42 h' ∧ (i_1 ≤ s.n → ∃ b, C.Rel a' b ∧ RelV S b (behS g role (L.take i_1))) := fun {a' h'} E hst =>
      ⟨_, by omega, i + 1, by rw [w64 (by omega) (by omega)]; omega, by omega, rfl, E, fun hle => by
        obtain ⟨x, gx, b', r1, r2⟩ := hst (by omega)
        exact ⟨b', r1, by rw [take_snoc gx, behS_snoc]; exact r2⟩⟩
    have neg : ∀ {h' : Heap}, a < 0 → Ext h42 h' → ∃ m98, m98 < s.n + 1 - i ∧ ∃ i_1 : Nat, IntKind.wrap .i64 ((i : Int) + 1) = i_1 ∧ i_1 ≤ s.n + 1 ∧ m98 = s.n + 1 - i_1 ∧ Ext h42 h' ∧ (i_1 ≤ s.n → ∃ b, C.Rel a b ∧ RelV S b (behS g role (L.take i_1))) := fun {h'} ha E =>
      nxt E fun hlt => ⟨L[i]'(by omega), List.getElem?_eq_getElem (by omega), b, hab, relV_neg hbv (by have := hab0.2; omega) _⟩
    have stp : ∀ {h' : Heap} {K : Int → Heap → Prop}, 0 ≤ a → i < s.n → Ext h42 h' → (∀ a' h2, Ext h42 h2 → (∃ x, L[i]? = some x ∧ ∃ b', C.Rel a' b' ∧ RelV S b' (stepS g role (behS g role (L.take i)) x)) → K a' h2) →
        ∃ (x82 x83 x84 : Int) (x85 x86 x87 : Sl), atC h' ⟨h40.size, 0, none⟩ [.int .i64 x82, .int .i64 x83, .int .i64 x84, .slice x85.a x85.n x85.c, .slice x86.a x86.n x86.c, .slice x87.a x87.n x87.c] ∧
          NB s.a fun b88 o89 => ((0 ≤ (i : Int) ∧ (i : Int) < (s.n : Nat)) ∧ ∃ (x90 : Int) (x91 : Bool) (x92 x93 : Int) (x94 : Sl), atC h' ⟨b88, o89 + Int.toNat (i : Int) * 5, none⟩ [.int .i64 x90, .bool x91, .int .i64 x92, .int .i64 x93, .slice x94.a x94.n x94.c] ∧
            Fn Tryz.prog 25 #[.agg ⟨[.int .i64 x82, .int .i64 x83, .int .i64 x84, .slice x85.a x85.n x85.c, .slice x86.a x86.n x86.c, .slice x87.a x87.n x87.c]⟩, .int .i64 a, .agg ⟨[.int .i64 x90, .bool x91, .int .i64 x92, .int .i64 x93, .slice x94.a x94.n x94.c]⟩] h' fun v95 h97 => ∃ x96 : Int, v95 = .int .i64 x96 ∧ K x96 h97) := fun {h' K} ha hlt E hK => by
      refine ⟨_, _, _, sf, sm, sl, hcm E, ?_⟩
      refine (hL42.rw.ext E).nbI (by omega) (by omega) fun b88 o89 x gx t => ?_
      replace gx : L[i]? = some x := gx
      refine ⟨_, _, _, _, _, t, ?_⟩
      refine (next25 m sf sm sl a x h' (hMm.ext E)).mono ?_
      rintro _ h97 ⟨rfl, E97⟩
      exact ⟨_, rfl, hK _ _ (E.trans E97) ⟨x, gx, _, (C.rs a b hab ha).2.2.2.2 x, relV_step hR hV hbv x⟩⟩
    refine sBi (fun ha => ?_) (fun ha => ?_)
    · obtain ⟨k1, k2, k3, k4, _⟩ := C.rs a b hab ha
      refine ⟨sf, (hcm Eall).nth 3 rfl, ?_⟩
      refine (hMm.pf.rw.ext Eall).nbI (by omega) (by omega) fun b75 o76 f g75 t75 => ?_
      refine ⟨_, t75.hd, g.e, (hcg Eall).nth 5 rfl, ?_⟩
      refine (has29 _ q g.e h73 hq).mono ?_
      rintro _ h81 ⟨rfl, rfl⟩
      refine ⟨_, rfl, fun _ _ _ _ hv => hv, ?_⟩
      have hfe : f = behS g role (L.take i) g.e.toNat := by
        have h1 := v2 k1
        rw [← k4, g75] at h1
        exact Option.some.inj h1
      have hen : decide (0 ≤ g.e ∧ g.e < 4096) = true := decide_eq_true (by omega)
      refine sB_f (by rw [hen, Bool.true_and, hfe]; simp) ?_
      refine sBi (fun hlt => ?_) (fun hlt => nxt Eall fun h => absurd (by omega) hlt)
      refine sBi (fun _ => ?_) (fun h => absurd ha h)
      exact stp ha (by omega) Eall fun a' h2 E hst => nxt E fun _ => hst
    · refine sBi (fun hlt => ?_) (fun hlt => nxt Eall fun h => absurd (by omega) hlt)
      exact sBi (fun h => absurd h ha) (fun _ => neg (by omega) Eall)
theorem projectHistories (g : Gl) (role : Int) (s : Sl) (L : List Hv) (h : Heap) (hg : GI h g) (hx : Gx h) (hM : GNm g.ds) (hL : RL h 5 s Hv.cs L) :
    Fn Go.Proofs.Tryz.prog 7 #[g.v, .int .i64 role, .slice s.a s.n s.c] h fun v h' => v = .bool true ∧ Ext h h' := by
  refine histories7 g role s L h hg hx hM hL fun w hw => ?_
  have hR := raw_raw hg.r.sm hg.d.r.sm hw
  obtain ⟨l1, l2⟩ := minF_lens hR
  have h1 := hR.ok.ml
  have h2 := hR.ok.ll
  have hc := cans hR
  rw [raw_role hw] at hc
  exact ⟨by omega, by omega, l1, l2, hc⟩
end Go.VC
end

section
/- What an automaton looks like in memory where all that is read is of bulk at most 1048576. -/
namespace Go.VC
open Go.Proofs Go.LexS Go.RowKit Go.ChangeShapes Go.WideShapes Go.Proofs.YtfdhgcladnbdeaaGreatDoor
set_option maxRecDepth 100000
theorem bulk_pos {H : Type} (d : DataW H) : 1 ≤ Rows.uptoBulk d := by
  cases d with
  | lit l => cases l <;> simp [Rows.uptoBulk]
  | _ => simp [Rows.uptoBulk]
theorem bulk_part {H : Type} : ∀ {l : List (DataW H)} {d : DataW H}, d ∈ l → Rows.uptoBulk d ≤ Rows.uptoBulkAll l
  | [], _, h => by cases h
  | x :: r, d, h => by
    rw [Rows.uptoBulkAll]
    rcases List.mem_cons.1 h with rfl | h
    · omega
    · have := bulk_part h; omega
theorem bulk_len {H : Type} : ∀ l : List (DataW H), l.length ≤ Rows.uptoBulkAll l
  | [] => by simp
  | x :: r => by
    have h1 := bulk_pos x
    have h2 := bulk_len r
    rw [Rows.uptoBulkAll, List.length_cons]; omega
/-- the cells cs read as type t, of bulk at most a million or so -/
def Rdb (P : Program) (W : World) (t : TypeId) (cs : List Value) : Prop :=
  ∃ (H : Type) (enc : TypeId × Value → H) (n : Nat) (x : DataW H × List MemPlace), DataW.trod enc P W 0 (fun _ => true) true n t cs = some x ∧ Rows.uptoBulk x.1 ≤ 1048576
theorem Rdb.rdt {P : Program} {W : World} {t : TypeId} {cs : List Value} (h : Rdb P W t cs) : Rdt P W t cs := by
  obtain ⟨H, enc, n, x, h1, _⟩ := h; exact ⟨H, enc, n, x, h1⟩
theorem rdb_of_trod {H : Type} {enc : TypeId × Value → H} {P : Program} {W : World} {t : TypeId} {v : Value} {d : DataW H} {p : List MemPlace} (h : DataW.Trod enc P W 0 (fun _ => true) true t v d p) (hw : Rows.uptoBulk d ≤ 1048576) : Rdb P W t v.cells.toList := by
  obtain ⟨n, h⟩ := h
  exact ⟨H, enc, n, _, h, hw⟩
theorem Rdb.field {P : Program} {W : World} {t ft : TypeId} {cs : List Value} {i off : Nat} (h : Rdb P W t cs) (hf : fieldAt P t i = some (ft, off)) : Rdb P W ft ((cs.drop off).take (P.cellsOf ft)) := by
  unfold fieldAt at hf
  split at hf
  · rename_i fs hu
    obtain ⟨f, h1, h2⟩ := Option.map_eq_some_iff.1 hf
    cases h2
    obtain ⟨H, enc, n, x, h, hw⟩ := h
    obtain ⟨xs, m, _, hx, hl, hxl, hfi⟩ := DataW.trod_struct hu h
    have hlt : i < xs.length := by rw [hxl]; exact (Array.getElem?_eq_some_iff.1 h1).1
    refine ⟨H, enc, m, xs[i], by rw [hfi i f h1, List.getElem?_eq_getElem hlt], ?_⟩
    rw [hx, Rows.uptoBulk] at hw
    have := bulk_part (l := xs.map (·.1)) (d := xs[i].1) (List.mem_map.2 ⟨xs[i], List.getElem_mem hlt, rfl⟩)
    omega
  · cases hf
/-- a slice argument in memory: its rows -/
theorem Rdb.rows {P : Program} {W : World} {t e : TypeId} {cs : List Value} (ht : P.underlying t = some (.slice e)) (h : Rdb P W t cs) (hpos : 0 < P.cellsOf e) :
    ∃ (s : Sl) (rows : List (List Value)), cs = [.slice s.a s.n s.c] ∧ s.n ≤ s.c ∧ s.n ≤ 1048576 ∧ (s.a = none → s.n = 0 ∧ s.c = 0) ∧ Rw W.heap (P.cellsOf e) s rows ∧ ∀ r ∈ rows, r.length = P.cellsOf e ∧ Rdb P W e r := by
  obtain ⟨H, enc, n, x, h, hw⟩ := h
  rcases DataW.trod_slice ht h with ⟨rfl, _⟩ | ⟨a, len, cap, elems, rest, m, _, rfl, hx, _, hlc, hcm, hel, helem, _, _⟩
  · exact ⟨⟨none, 0, 0⟩, [], rfl, Nat.le_refl _, Nat.zero_le _, fun _ => ⟨rfl, rfl⟩, Rw.nil, fun r hr => by cases hr⟩
  · rw [hx, Rows.uptoBulk] at hw
    have hle : len ≤ 1048576 := by
      have := bulk_len (elems.map (·.1))
      rw [List.length_map] at this; omega
    have hwe : ∀ (i : Nat) (hi : i < elems.length), Rows.uptoBulk elems[i].1 ≤ 1048576 := fun i hi => by
      have := bulk_part (l := elems.map (·.1)) (d := elems[i].1) (List.mem_map.2 ⟨elems[i], List.getElem_mem hi, rfl⟩)
      omega
    by_cases h0 : len = 0
    · subst h0
      exact ⟨⟨some a, 0, cap⟩, [], rfl, hlc, hle, fun e => (by cases e), Rw.empty rfl, fun r hr => by cases hr⟩
    · have hrow : ∀ i, i < len → ∃ r, W.cells? 0 (a.add (i * P.cellsOf e)) (P.cellsOf e) = some r ∧ Rdb P W e r := by
        intro i hi
        have h1 := helem i hi
        rw [List.getElem?_eq_getElem (by omega)] at h1
        obtain ⟨r, hr, hx2⟩ := Option.bind_eq_some_iff.1 h1
        exact ⟨r, hr, H, enc, m, _, hx2, hwe i (by omega)⟩
      let row : Nat → List Value := fun i => (W.cells? 0 (a.add (i * P.cellsOf e)) (P.cellsOf e)).getD []
      have hrow' : ∀ i, i < len → W.cells? 0 (a.add (i * P.cellsOf e)) (P.cellsOf e) = some (row i) ∧ Rdb P W e (row i) := fun i hi => by
        obtain ⟨r, hr, hx⟩ := hrow i hi
        have : row i = r := by show (W.cells? 0 _ _).getD [] = r; rw [hr]; rfl
        rw [this]; exact ⟨hr, hx⟩
      have hget : ∀ i, i < len → ((List.range len).map row)[i]? = some (row i) := fun i hi => by
        rw [List.getElem?_map, List.getElem?_range hi]; rfl
      have hspot : a = ⟨a.block, a.off, none⟩ := by
        have hc := (cells_at (hrow' 0 (by omega)).1)
        have hl0 : 0 < (row 0).length := by rw [hc.1]; exact hpos
        have := hc.2 0 _ (List.getElem?_eq_getElem hl0)
        rw [Nat.zero_mul, show (a.add 0).add 0 = a from rfl] at this
        unfold World.cell? at this
        split at this
        · split at this
          · cases this
          · rename_i hs
            cases a with
            | mk b o s =>
              cases s with
              | none => rfl
              | some s => exact absurd rfl hs
        · cases this
      refine ⟨⟨some a, len, cap⟩, (List.range len).map row, rfl, hlc, hle, fun e => (by cases e), ⟨by simp, fun _ => ⟨a.block, a.off, by rw [← hspot], fun i r hi j v hj => ?_⟩⟩, fun r hr => ?_⟩
      · have hil : i < len := by have := (List.getElem?_eq_some_iff.1 hi).1; simpa using this
        rw [hget i hil] at hi; cases hi
        have h4 := (cells_at (hrow' i hil).1).2 _ _ hj
        rw [hspot] at h4
        have e : ((⟨a.block, a.off, none⟩ : Addr).add (i * P.cellsOf e)).add j = addk ⟨a.block, a.off + i * P.cellsOf e, none⟩ j := by
          rw [addk_at, add_n, add_n]
        rw [e] at h4
        exact h4
      · obtain ⟨i, hi, rfl⟩ := List.mem_map.1 hr
        have := hrow' i (List.mem_range.1 hi)
        exact ⟨(cells_at this.1).1, this.2⟩
/-- .. as a list -/
theorem Rdb.list {α : Type} {P : Program} {W : World} {t e : TypeId} {k : Nat} {v : Value} {cs : α → List Value} {Q : α → Prop} (ht : P.underlying t = some (.slice e)) (hk : P.cellsOf e = k) (hpos : 0 < k)
    (ho : ∀ r, Rdb P W e r → ∃ x, r = cs x ∧ Q x) (h : Rdb P W t [v]) : ∃ (s : Sl) (L : List α), v = .slice s.a s.n s.c ∧ RL W.heap k s cs L ∧ ∀ x ∈ L, Q x := by
  subst hk
  obtain ⟨s, rows, e1, hc, hm, hna, hrw, hr⟩ := h.rows ht hpos
  have key : ∀ rows : List (List Value), (∀ r ∈ rows, r.length = P.cellsOf e ∧ Rdb P W e r) → ∃ L : List α, rows = L.map cs ∧ ∀ x ∈ L, Q x := by
    intro rows
    induction rows with
    | nil => intro _; exact ⟨[], rfl, fun x hx => by cases hx⟩
    | cons r rows ih =>
      intro h
      obtain ⟨x, hx, hq⟩ := ho r (h r (by simp)).2
      obtain ⟨L, hL, hQ⟩ := ih fun y hy => h y (List.mem_cons_of_mem _ hy)
      exact ⟨x :: L, by rw [hx, hL]; rfl, fun y hy => by rcases List.mem_cons.1 hy with rfl | hy; exact hq; exact hQ y hy⟩
  obtain ⟨L, rfl, hQ⟩ := key rows hr
  have hn := hrw.ln
  exact ⟨s, L, by simpa using e1, ⟨hrw, hc, hna, by omega⟩, hQ⟩
theorem v3 : Tryz.prog.underlying 3 = some (.int .i64) := by kernel_rfl
theorem v4b : Tryz.prog.underlying 4 = some .bool := by kernel_rfl
theorem v9 : Tryz.prog.underlying 9 = some .string := by kernel_rfl
theorem cz3 : Tryz.prog.cellsOf 3 = 1 := by kernel_rfl
theorem cz4 : Tryz.prog.cellsOf 4 = 1 := by kernel_rfl
theorem cz9 : Tryz.prog.cellsOf 9 = 1 := by kernel_rfl
theorem cz22 : Tryz.prog.cellsOf 22 = 1 := by kernel_rfl
theorem cz23 : Tryz.prog.cellsOf 23 = 1 := by kernel_rfl
theorem cz24 : Tryz.prog.cellsOf 24 = 1 := by kernel_rfl
theorem cz25 : Tryz.prog.cellsOf 25 = 1 := by kernel_rfl
theorem cz27 : Tryz.prog.cellsOf 27 = 8 := by kernel_rfl
theorem cz53 : Tryz.prog.cellsOf 53 = 3 := by kernel_rfl
theorem cz55 : Tryz.prog.cellsOf 55 = 6 := by kernel_rfl
theorem cz63 : Tryz.prog.cellsOf 63 = 3 := by kernel_rfl
theorem cz130 : Tryz.prog.cellsOf 130 = 1 := by kernel_rfl
theorem cz131 : Tryz.prog.cellsOf 131 = 1 := by kernel_rfl
theorem cz132 : Tryz.prog.cellsOf 132 = 1 := by kernel_rfl
theorem cz134 : Tryz.prog.cellsOf 134 = 2 := by kernel_rfl
theorem cz136 : Tryz.prog.cellsOf 136 = 5 := by kernel_rfl
theorem cz182 : Tryz.prog.cellsOf 182 = 3 := by kernel_rfl
theorem cz184 : Tryz.prog.cellsOf 184 = 4 := by kernel_rfl
theorem cz187 : Tryz.prog.cellsOf 187 = 3 := by kernel_rfl
theorem cz189 : Tryz.prog.cellsOf 189 = 2 := by kernel_rfl
theorem vs22 : Tryz.prog.underlying 22 = some (.slice 9) := by kernel_rfl
theorem vs23 : Tryz.prog.underlying 23 = some (.slice 136) := by kernel_rfl
theorem vs24 : Tryz.prog.underlying 24 = some (.slice 55) := by kernel_rfl
theorem vs25 : Tryz.prog.underlying 25 = some (.slice 63) := by kernel_rfl
theorem vs130 : Tryz.prog.underlying 130 = some (.slice 184) := by kernel_rfl
theorem vs131 : Tryz.prog.underlying 131 = some (.slice 187) := by kernel_rfl
theorem vs132 : Tryz.prog.underlying 132 = some (.slice 189) := by kernel_rfl
theorem va189 : Tryz.prog.underlying 189 = some (.array 2 3) := by kernel_rfl
theorem Rdb.str {P : Program} {W : World} {t : TypeId} {cs : List Value} (ht : P.underlying t = some .string) (h : Rdb P W t cs) : ∃ s : ByteArray, cs = [.string s] ∧ s.size ≤ 1048576 := by
  obtain ⟨H, enc, n, x, h, hw⟩ := h
  obtain ⟨m, h1, hx, _⟩ := DataW.trod_string ht h
  refine ⟨m, h1, ?_⟩
  rw [hx, Rows.uptoBulk] at hw
  have e : m.data.toList.length = m.size := rfl
  omega
theorem Rdb.sl {P : Program} {W : World} {t e : TypeId} {cs : List Value} (ht : P.underlying t = some (.slice e)) (h : Rdb P W t cs) : ∃ s : Sl, cs = [.slice s.a s.n s.c] := by
  obtain ⟨H, enc, n, x, h, _⟩ := h
  rcases DataW.trod_slice ht h with ⟨rfl, _⟩ | ⟨a, len, cap, elems, rest, m, _, rfl, _⟩
  · exact ⟨⟨none, 0, 0⟩, rfl⟩
  · exact ⟨⟨some a, len, cap⟩, rfl⟩
theorem open_name {W : World} {r : List Value} (h : Rdb Tryz.prog W 9 r) : ∃ x : Nm, r = nmC x ∧ True := by
  obtain ⟨s, e, _⟩ := h.rdt.str v9
  exact ⟨s.data.toList, by rw [e]; rfl, trivial⟩
theorem open_field {W : World} {r : List Value} (h : Rdb Tryz.prog W 184 r) : ∃ x : Fld, r = x.cs ∧ True := by
  have hl := h.rdt.flen (i := 0) (ft := 9) (off := 0) (by kernel_rfl)
  rw [cz184] at hl
  match r, hl with
  | [x0, x1, x2, x3], _ =>
    have f0 := h.rdt.field (i := 0) (ft := 9) (off := 0) (by kernel_rfl)
    have f1 := h.rdt.field (i := 1) (ft := 182) (off := 1) (by kernel_rfl)
    rw [cz9] at f0
    rw [cz182] at f1
    have g0 := f1.field (i := 0) (ft := 3) (off := 0) (by kernel_rfl)
    have g1 := f1.field (i := 1) (ft := 3) (off := 1) (by kernel_rfl)
    have g2 := f1.field (i := 2) (ft := 3) (off := 2) (by kernel_rfl)
    rw [cz3] at g0 g1 g2
    obtain ⟨s, e0, _⟩ := f0.str v9
    obtain ⟨k1, e1, _⟩ := g0.int v3
    obtain ⟨k2, e2, _⟩ := g1.int v3
    obtain ⟨k3, e3, _⟩ := g2.int v3
    simp only [List.drop_zero, List.take_succ_cons, List.take_zero, List.drop_succ_cons, List.cons.injEq, and_true] at e0 e1 e2 e3
    subst e0 e1 e2 e3
    exact ⟨⟨s.data.toList, k1, k2, k3⟩, rfl, trivial⟩
theorem open_three {W : World} {t : TypeId} {r : List Value} (hc : Tryz.prog.cellsOf t = 3) (h0 : fieldAt Tryz.prog t 0 = some (3, 0)) (h1 : fieldAt Tryz.prog t 1 = some (3, 1)) (h2 : fieldAt Tryz.prog t 2 = some (3, 2)) (h : Rdt Tryz.prog W t r) :
    ∃ a b c : Int, r = [.int .i64 a, .int .i64 b, .int .i64 c] := by
  have hl := h.flen h0
  rw [hc] at hl
  match r, hl with
  | [x0, x1, x2], _ =>
    have f0 := h.field h0
    have f1 := h.field h1
    have f2 := h.field h2
    rw [cz3] at f0 f1 f2
    obtain ⟨k0, e0, _⟩ := f0.int v3
    obtain ⟨k1, e1, _⟩ := f1.int v3
    obtain ⟨k2, e2, _⟩ := f2.int v3
    simp only [List.drop_zero, List.take_succ_cons, List.take_zero, List.drop_succ_cons, List.cons.injEq, and_true] at e0 e1 e2
    subst e0 e1 e2
    exact ⟨k0, k1, k2, rfl⟩
theorem open_diff {W : World} {r : List Value} (h : Rdb Tryz.prog W 187 r) : ∃ x : Df, r = x.cs ∧ True := by
  obtain ⟨a, b, c, e⟩ := open_three cz187 (by kernel_rfl) (by kernel_rfl) (by kernel_rfl) h.rdt
  exact ⟨⟨a, b, c⟩, e, trivial⟩
theorem open_timeout {W : World} {r : List Value} (h : Rdb Tryz.prog W 63 r) : ∃ x : To, r = x.cs ∧ True := by
  obtain ⟨a, b, c, e⟩ := open_three cz63 (by kernel_rfl) (by kernel_rfl) (by kernel_rfl) h.rdt
  exact ⟨⟨a, b, c⟩, e, trivial⟩
theorem open_pair {W : World} {r : List Value} (h : Rdb Tryz.prog W 189 r) : ∃ x : Eqs, r = x.cs ∧ True := by
  obtain ⟨hl, ha⟩ := h.rdt.array va189
  rw [cz189] at hl
  rw [cz3] at ha
  match r, hl with
  | [x0, x1], _ =>
    obtain ⟨k0, e0, _⟩ := (ha 0 (by omega)).int v3
    obtain ⟨k1, e1, _⟩ := (ha 1 (by omega)).int v3
    simp only [Nat.zero_mul, Nat.one_mul, List.drop_zero, List.take_succ_cons, List.take_zero, List.drop_succ_cons, List.cons.injEq, and_true] at e0 e1
    subst e0 e1
    exact ⟨⟨k0, k1⟩, rfl, trivial⟩
theorem open_edge {W : World} {r : List Value} (h : Rdb Tryz.prog W 55 r) : ∃ x : Ed, r = x.cs ∧ True := by
  have hl := h.rdt.flen (i := 0) (ft := 3) (off := 0) (by kernel_rfl)
  rw [cz55] at hl
  match r, hl with
  | [x0, x1, x2, x3, x4, x5], _ =>
    have f0 := h.rdt.field (i := 0) (ft := 3) (off := 0) (by kernel_rfl)
    have f1 := h.rdt.field (i := 1) (ft := 53) (off := 1) (by kernel_rfl)
    have f2 := h.rdt.field (i := 2) (ft := 3) (off := 4) (by kernel_rfl)
    have f3 := h.rdt.field (i := 3) (ft := 4) (off := 5) (by kernel_rfl)
    rw [cz3] at f0 f2
    rw [cz53] at f1
    rw [cz4] at f3
    obtain ⟨a, b, c, e1⟩ := open_three cz53 (by kernel_rfl) (by kernel_rfl) (by kernel_rfl) f1
    obtain ⟨k0, e0, _⟩ := f0.int v3
    obtain ⟨k2, e2, _⟩ := f2.int v3
    obtain ⟨k3, e3⟩ := f3.bool v4b
    simp only [List.drop_zero, List.take_succ_cons, List.take_zero, List.drop_succ_cons, List.cons.injEq, and_true] at e0 e1 e2 e3
    obtain ⟨e1a, e1b, e1c⟩ := e1
    subst e0 e1a e1b e1c e2 e3
    exact ⟨⟨k0, a, b, c, k2, k3⟩, rfl, trivial⟩
theorem open_decl {W : World} {r : List Value} (h : Rdb Tryz.prog W 136 r) : ∃ x : Dc, r = x.cs ∧ DI W.heap x ∧ x.nm.length ≤ 1048576 := by
  have hl := h.rdt.flen (i := 0) (ft := 9) (off := 0) (by kernel_rfl)
  rw [cz136] at hl
  match r, hl with
  | [x0, x1, x2, x3, x4], _ =>
    have f0 := h.field (i := 0) (ft := 9) (off := 0) (by kernel_rfl)
    have f1 := h.field (i := 1) (ft := 130) (off := 1) (by kernel_rfl)
    have f2 := h.rdt.field (i := 2) (ft := 3) (off := 2) (by kernel_rfl)
    have f3 := h.field (i := 3) (ft := 134) (off := 3) (by kernel_rfl)
    rw [cz9] at f0
    rw [cz130] at f1
    rw [cz3] at f2
    rw [cz134] at f3
    have g0 := f3.field (i := 0) (ft := 131) (off := 0) (by kernel_rfl)
    have g1 := f3.field (i := 1) (ft := 132) (off := 1) (by kernel_rfl)
    rw [cz131] at g0
    rw [cz132] at g1
    obtain ⟨s, e0, hs0⟩ := f0.str v9
    obtain ⟨sf, fs, e1, hf, _⟩ := Rdb.list vs130 cz184 (by omega) (fun r hr => open_field hr) f1
    obtain ⟨k, e2, _⟩ := f2.int v3
    obtain ⟨sd, ds, e3, hd, _⟩ := Rdb.list vs131 cz187 (by omega) (fun r hr => open_diff hr) g0
    obtain ⟨se, es, e4, he, _⟩ := Rdb.list vs132 cz189 (by omega) (fun r hr => open_pair hr) g1
    simp only [List.drop_zero, List.take_succ_cons, List.take_zero, List.drop_succ_cons, List.cons.injEq, and_true] at e0 e2
    subst e0 e1 e2 e3 e4
    exact ⟨⟨s.data.toList, sf, k, sd, se, fs, ds, es⟩, rfl, ⟨hf, hd, he⟩, hs0⟩
theorem open_global {W : World} {cs : List Value} (h : Rdb Tryz.prog W 27 cs) : ∃ g : Gl, cs = g.cs ∧ GI W.heap g ∧ ∀ d ∈ g.ds, d.nm.length ≤ 1048576 := by
  have hl := h.rdt.flen (i := 0) (ft := 9) (off := 0) (by kernel_rfl)
  rw [cz27] at hl
  match cs, hl with
  | [x0, x1, x2, x3, x4, x5, x6, x7], _ =>
    have f0 := h.rdt.field (i := 0) (ft := 9) (off := 0) (by kernel_rfl)
    have f1 := h.field (i := 1) (ft := 22) (off := 1) (by kernel_rfl)
    have f2 := h.field (i := 2) (ft := 23) (off := 2) (by kernel_rfl)
    have f3 := h.rdt.field (i := 3) (ft := 3) (off := 3) (by kernel_rfl)
    have f4 := h.rdt.field (i := 4) (ft := 3) (off := 4) (by kernel_rfl)
    have f5 := h.rdt.field (i := 5) (ft := 3) (off := 5) (by kernel_rfl)
    have f6 := h.field (i := 6) (ft := 24) (off := 6) (by kernel_rfl)
    have f7 := h.field (i := 7) (ft := 25) (off := 7) (by kernel_rfl)
    rw [cz9] at f0
    rw [cz22] at f1
    rw [cz23] at f2
    rw [cz3] at f3 f4 f5
    rw [cz24] at f6
    rw [cz25] at f7
    obtain ⟨s, e0, _⟩ := f0.str v9
    obtain ⟨sr, rs, e1, hr, _⟩ := Rdb.list vs22 cz9 (by omega) (fun r hr => open_name hr) f1
    obtain ⟨sd, ds, e2, hd, hdi⟩ := Rdb.list vs23 cz136 (by omega) (fun r hr => open_decl hr) f2
    obtain ⟨k3, e3, _⟩ := f3.int v3
    obtain ⟨k4, e4, _⟩ := f4.int v3
    obtain ⟨k5, e5, _⟩ := f5.int v3
    obtain ⟨se, es, e6, he, _⟩ := Rdb.list vs24 cz55 (by omega) (fun r hr => open_edge hr) f6
    obtain ⟨st, ts, e7, ht, _⟩ := Rdb.list vs25 cz63 (by omega) (fun r hr => open_timeout hr) f7
    simp only [List.drop_zero, List.take_succ_cons, List.take_zero, List.drop_succ_cons, List.cons.injEq, and_true] at e0 e3 e4 e5
    subst e0 e1 e2 e3 e4 e5 e6 e7
    exact ⟨⟨s.data.toList, sr, sd, k3, k4, k5, se, st, rs, ds, es, ts⟩, rfl, ⟨hr, ⟨hd, fun d hm => (hdi d hm).1⟩, he, ht⟩, fun d hm => (hdi d hm).2⟩
theorem cz58 : Tryz.prog.cellsOf 58 = 1 := by kernel_rfl
theorem cz60 : Tryz.prog.cellsOf 60 = 5 := by kernel_rfl
theorem vs56 : Tryz.prog.underlying 56 = some (.slice 60) := by kernel_rfl
theorem vs58 : Tryz.prog.underlying 58 = some (.slice 427) := by kernel_rfl
end Go.VC
end

section
/- What a history looks like in memory. -/
namespace Go.VC
open Go.Proofs Go.LexS Go.RowKit Go.ChangeShapes Go.WideShapes Go.Proofs.YtfdhgcladnbdeaaGreatDoor
set_option maxRecDepth 100000
theorem open_event {W : World} {r : List Value} (h : Rdb Tryz.prog W 60 r) : ∃ x : Hv, r = x.cs ∧ True := by
  have hl := h.rdt.flen (i := 0) (ft := 3) (off := 0) (by kernel_rfl)
  rw [cz60] at hl
  match r, hl with
  | [x0, x1, x2, x3, x4], _ =>
    have f0 := h.rdt.field (i := 0) (ft := 3) (off := 0) (by kernel_rfl)
    have f1 := h.rdt.field (i := 1) (ft := 4) (off := 1) (by kernel_rfl)
    have f2 := h.rdt.field (i := 2) (ft := 3) (off := 2) (by kernel_rfl)
    have f3 := h.rdt.field (i := 3) (ft := 3) (off := 3) (by kernel_rfl)
    have f4 := h.field (i := 4) (ft := 58) (off := 4) (by kernel_rfl)
    rw [cz3] at f0 f2 f3
    rw [cz4] at f1
    rw [cz58] at f4
    obtain ⟨k0, e0, _⟩ := f0.int v3
    obtain ⟨k1, e1⟩ := f1.bool v4b
    obtain ⟨k2, e2, _⟩ := f2.int v3
    obtain ⟨k3, e3, _⟩ := f3.int v3
    obtain ⟨s, e4⟩ := f4.sl vs58
    simp only [List.drop_zero, List.take_succ_cons, List.take_zero, List.drop_succ_cons, List.cons.injEq, and_true] at e0 e1 e2 e3 e4
    subst e0 e1 e2 e3 e4
    exact ⟨⟨k0, k1, k2, k3, s⟩, rfl, trivial⟩
theorem open_events {W : World} {v : Value} (h : Rdb Tryz.prog W 56 [v]) : ∃ (s : Sl) (L : List Hv), v = .slice s.a s.n s.c ∧ RL W.heap 5 s Hv.cs L := by
  obtain ⟨s, L, e, hr, _⟩ := Rdb.list vs56 cz60 (by omega) (fun r hr => open_event hr) h
  exact ⟨s, L, e, hr⟩
end Go.VC
end
