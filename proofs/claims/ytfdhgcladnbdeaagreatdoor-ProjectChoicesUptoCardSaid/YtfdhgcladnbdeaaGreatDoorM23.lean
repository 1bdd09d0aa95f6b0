/- Texts of this claim, joined: PjHa, PjIa, PjVcL, PjHb, PjHc, PjHd, PjIb, PjIc, PjId, PjIe, PjArgs, PjArgs2, PjArgs3. -/
import Derived.Test.YtfdhgcladnbdeaaGreatDoorM22
import Derived.Test.YtfdhgcladnbdeaaGreatDoorM03
import Derived.Test.YtfdhgcladnbdeaaGreatDoorM02
import Derived.Test.YtfdhgcladnbdeaaGreatDoorProg
import Derived.KernelRfl
import Derived.Test.YtfdhgcladnbdeaaGreatDoorM05
import Derived.Test.YtfdhgcladnbdeaaGreatDoorM18
import Derived.Test.YtfdhgcladnbdeaaGreatDoorRows
set_option linter.unusedVariables false
set_option linter.unusedSimpArgs false

section
/- The rows of the view table; the view machine runs as the views do. No program here. -/
namespace Go.VC
open Go.LexS
set_option maxRecDepth 100000
theorem rowI_get {S : List PSet} {p : PSet} : (rowS S p)[rowI S p]? = some p := by
  classical
  unfold rowS
  split
  · rename_i h
    induction S with
    | nil => cases h
    | cons q r ih =>
      rw [rowI]
      split
      · rename_i e; rw [e]; rfl
      · rename_i e
        rw [List.getElem?_cons_succ]
        refine ih ?_
        rcases List.mem_cons.1 h with h | h
        · exact absurd h.symm e
        · exact h
  · rename_i h
    rw [rowI_of_not h, List.getElem?_append_right (Nat.le_refl _), Nat.sub_self]; rfl
def RowOk (es : List Ed) (role : Int) (S : List PSet) (k : Nat) (m : Mv) : Prop := ∃ (r : Nat) (p : PSet), m.f = (r : Int) ∧ r < k ∧ S[r]? = some p ∧ m.ev ∈ evs es role p ∧ ∃ t : Nat, m.t = (t : Int) ∧ S[t]? = some (clo es role (toL es role p m.ev))
theorem RowOk.ext {es : List Ed} {role : Int} {S : List PSet} {k : Nat} {m : Mv} {q : PSet} (h : RowOk es role S k m) : RowOk es role (rowS S q) k m := by
  obtain ⟨r, p, h1, h2, h3, h4, t, h5, h6⟩ := h
  exact ⟨r, p, h1, h2, rowS_get h3, h4, t, h5, rowS_get h6⟩
structure VR (es : List Ed) (role : Int) (S : List PSet) (M : List Mv) (i : Nat) : Prop where
  a : ∀ m ∈ M, RowOk es role S i m
  b : ∀ (r : Nat) p, r < i → S[r]? = some p → ∀ x ∈ evs es role p, ∃ m ∈ M, m.f = (r : Int) ∧ m.ev = x
theorem arcsF_vr {es : List Ed} {role : Int} {i : Nat} {p : PSet} : ∀ (l : List Ev) (S : List PSet) (M : List Mv), S[i]? = some p → (∀ x ∈ l, x ∈ evs es role p) → (∀ m ∈ M, RowOk es role S (i + 1) m) →
    (∀ (r : Nat) q, r < i → S[r]? = some q → ∀ x ∈ evs es role q, ∃ m ∈ M, m.f = (r : Int) ∧ m.ev = x) → (∀ x ∈ evs es role p, x ∈ l ∨ ∃ m ∈ M, m.f = (i : Int) ∧ m.ev = x) →
    VR es role (arcsF es role i p l S M).1 (arcsF es role i p l S M).2 (i + 1) ∧ ∀ (j : Nat) q, S[j]? = some q → (arcsF es role i p l S M).1[j]? = some q
  | [], S, M, hi, hl, hA, hB, hC => ⟨⟨hA, fun r q hr hq x hx => by
      by_cases e : r = i
      · subst e
        show ∃ m ∈ M, _
        have hq' : S[r]? = some q := hq
        rw [hi] at hq'; cases hq'
        rcases hC x hx with h | h
        · cases h
        · exact h
      · exact hB r q (by omega) hq x hx⟩, fun j q hq => hq⟩
  | x :: l, S, M, hi, hl, hA, hB, hC => by
    rw [arcsF]
    have hil := (List.getElem?_eq_some_iff.1 hi).1
    have ih := arcsF_vr (es := es) (role := role) (i := i) (p := p) l (rowS S (clo es role (toL es role p x))) (M ++ [⟨i, x.send, x.peer, x.label, rowI S (clo es role (toL es role p x)), false⟩]) (rowS_get hi) (fun y hy => hl y (List.mem_cons_of_mem _ hy)) ?_ ?_ ?_
    · exact ⟨ih.1, fun j q hq => ih.2 j q (rowS_get hq)⟩
    · intro m hm
      rcases List.mem_append.1 hm with hm | hm
      · exact (hA m hm).ext
      · rw [List.mem_singleton] at hm
        subst hm
        exact ⟨i, p, rfl, by omega, rowS_get hi, hl x (List.mem_cons_self ..), _, rfl, rowI_get⟩
    · intro r q hr hq y hy
      have hrl : r < S.length := by omega
      have hq' : S[r]? = some q := by
        have h2 := rowS_get (p := clo es role (toL es role p x)) (List.getElem?_eq_getElem hrl)
        rw [hq] at h2
        rw [List.getElem?_eq_getElem hrl]; exact h2.symm ▸ rfl
      obtain ⟨m, hm, h1, h2⟩ := hB r q hr hq' y hy
      exact ⟨m, List.mem_append_left _ hm, h1, h2⟩
    · intro y hy
      rcases hC y hy with h | ⟨m, hm, h1, h2⟩
      · rcases List.mem_cons.1 h with rfl | h
        · exact .inr ⟨_, List.mem_append_right _ (List.mem_singleton.2 rfl), rfl, rfl⟩
        · exact .inl h
      · exact .inr ⟨m, List.mem_append_left _ hm, h1, h2⟩
theorem viewsF_vr {es : List Ed} {role : Int} : ∀ (f i : Nat) (S : List PSet) (M : List Mv) {S' : List PSet} {M' : List Mv}, VR es role S M i → i ≤ S.length → viewsF es role f i S M = some (S', M') → VR es role S' M' S'.length ∧ ∀ (j : Nat) q, S[j]? = some q → S'[j]? = some q
  | 0, _, _, _, _, _, _, _, h => by cases h
  | f + 1, i, S, M, S', M', hv, hi, h => by
    rw [viewsF] at h
    cases hg : S[i]? with
    | none =>
      rw [hg] at h
      cases h
      have : i = S.length := by have := List.getElem?_eq_none_iff.1 hg; omega
      subst this
      exact ⟨hv, fun j q hq => hq⟩
    | some p =>
      rw [hg] at h
      replace h : (if (arcsF es role i p (evs es role p) S M).1.length > 200 then none else viewsF es role f (i + 1) (arcsF es role i p (evs es role p) S M).1 (arcsF es role i p (evs es role p) S M).2) = some (S', M') := h
      have hil := (List.getElem?_eq_some_iff.1 hg).1
      obtain ⟨h1, h2⟩ := arcsF_vr (es := es) (role := role) (i := i) (p := p) (evs es role p) S M hg (fun x hx => hx) (fun m hm => by
        obtain ⟨r, q, a1, a2, a3⟩ := hv.a m hm
        exact ⟨r, q, a1, by omega, a3⟩) hv.b (fun x hx => .inl hx)
      split at h
      · cases h
      · have hi2 := (List.getElem?_eq_some_iff.1 (h2 i p hg)).1
        have ih := viewsF_vr f (i + 1) _ _ h1 (by omega) h
        exact ⟨ih.1, fun j q hq => ih.2 j q (h2 j q hq)⟩
theorem views_vr {g : Gl} {role : Int} {S : List PSet} {M : List Mv} (h : views g role = some (S, M)) : VR g.es role S M S.length ∧ S[0]? = some (clo g.es role [g.s]) := by
  unfold views at h
  obtain ⟨h1, h2⟩ := viewsF_vr 202 0 _ [] ⟨fun m hm => (by cases hm), fun r _ hr => (by omega)⟩ (by simp) h
  exact ⟨h1, h2 0 _ rfl⟩
def skM (m : Mv) : Int × Ev × Int := (m.f, m.ev, m.t)
theorem updR_sk (n : Nat) (x : Ti) (y : Mv) : skM (updR n x y) = skM y := by
  obtain ⟨h1, h2, h3, h4, h5⟩ := updR_same n x y
  unfold skM Mv.ev
  rw [h1, h2, h3, h4, h5]
theorem rawL_sk {vw : List Nat → Option Ti} : ∀ (n : Nat) (S : List PSet) (M : List Mv) (L : List To) {M' : List Mv} {L' : List To}, rawL vw n S M L = some (M', L') → M'.map skM = M.map skM
  | _, [], M, L, M', L', h => by cases h; rfl
  | n, p :: S, M, L, M', L', h => by
    rw [rawL] at h
    cases hv : vw (elems p) with
    | none => rw [hv] at h; cases h
    | some x =>
      rw [hv] at h
      have := rawL_sk (n + 1) S _ _ h
      rw [this, List.map_map]
      exact List.map_congr_left fun y _ => updR_sk n x y
structure RawV (g : Gl) (role : Int) (w : Mch) (S : List PSet) : Prop where
  ro : w.role = role
  n : w.n = (S.length : Nat)
  s : w.s = 0
  f : w.fin = S.map (fun p => p g.e.toNat)
  z : S[0]? = some (clo g.es role [g.s])
  a : ∀ m ∈ w.mv, RowOk g.es role S S.length m
  b : ∀ (r : Nat) p, S[r]? = some p → ∀ x ∈ evs g.es role p, ∃ m ∈ w.mv, m.f = (r : Int) ∧ m.ev = x
theorem raw_v {g : Gl} {role : Int} {w : Mch} (h : raw g role = (some w, 0)) : (ValidS g ∧ 0 ≤ role ∧ role < g.rs.length) ∧ ∃ S, RawV g role w S ∧ ∃ M, rawL (vwG g role) 0 S M [] = some (w.mv, w.li) := by
  unfold raw at h
  split at h
  · cases h
  · rename_i hv
    refine ⟨Classical.not_not.1 hv, ?_⟩
    split at h
    · cases h
    · rename_i S M hvw
      split at h
      · cases h
      · split at h
        · cases h
        · rename_i M' L hrl
          cases h
          obtain ⟨h1, h2⟩ := views_vr hvw
          have hsk := rawL_sk 0 S M [] hrl
          have back : ∀ m ∈ M', ∃ m0 ∈ M, skM m0 = skM m := fun m hm => by
            have : skM m ∈ M.map skM := by rw [← hsk]; exact List.mem_map_of_mem hm
            obtain ⟨m0, hm0, e⟩ := List.mem_map.1 this
            exact ⟨m0, hm0, e⟩
          have forth : ∀ m ∈ M, ∃ m0 ∈ M', skM m0 = skM m := fun m hm => by
            have : skM m ∈ M'.map skM := by rw [hsk]; exact List.mem_map_of_mem hm
            obtain ⟨m0, hm0, e⟩ := List.mem_map.1 this
            exact ⟨m0, hm0, e⟩
          refine ⟨S, ⟨rfl, rfl, rfl, rfl, h2, fun m hm => ?_, fun r p hr x hx => ?_⟩, M, hrl⟩
          · obtain ⟨m0, hm0, e⟩ := back m hm
            obtain ⟨r, p, a1, a2, a3, a4, t, a5, a6⟩ := h1.a m0 hm0
            have e1 : m0.f = m.f := congrArg Prod.fst e
            have e2 : m0.ev = m.ev := congrArg (fun q => q.2.1) e
            have e3 : m0.t = m.t := congrArg (fun q => q.2.2) e
            rw [e1] at a1; rw [e2] at a4 a6; rw [e3] at a5
            exact ⟨r, p, a1, a2, a3, a4, t, a5, a6⟩
          · obtain ⟨m, hm, b1, b2⟩ := h1.b r p (List.getElem?_eq_some_iff.1 hr).1 hr x hx
            obtain ⟨m0, hm0, e⟩ := forth m hm
            have e1 : m0.f = m.f := congrArg Prod.fst e
            have e2 : m0.ev = m.ev := congrArg (fun q => q.2.1) e
            exact ⟨m0, hm0, by rw [e1, b1], by rw [e2, b2]⟩
def Hv.ev (x : Hv) : Ev := ⟨x.send, x.peer, x.label⟩
noncomputable def stepS (g : Gl) (role : Int) (p : PSet) (x : Hv) : PSet := if x.role = role then clo g.es role (toL g.es role p x.ev) else fun _ => false
noncomputable def behS (g : Gl) (role : Int) (l : List Hv) : PSet := l.foldl (stepS g role) (clo g.es role [g.s])
theorem clo_nil {es : List Ed} {role : Int} {j : Nat} : clo es role [] j = false := by
  have : ∀ a, ¬ Qr es role [] a := fun a h => by
    induction h with
    | base h => cases h
    | step _ _ ih => exact ih
  cases h : clo es role [] j with
  | false => rfl
  | true => exact absurd (clo_iff.1 h) (this _)
theorem toL_none {es : List Ed} {role : Int} {p : PSet} {x : Ev} (h : x ∉ evs es role p) : toL es role p x = [] := by
  apply List.eq_nil_iff_forall_not_mem.2
  intro y hy
  unfold toL at hy
  obtain ⟨n, hn, hy⟩ := List.mem_flatMap.1 hy
  obtain ⟨a, ha, he⟩ := List.mem_filterMap.1 hy
  split at he
  · rename_i hax
    refine h ((sortE_mem _ _).2 (List.mem_flatMap.2 ⟨n, hn, List.mem_map.2 ⟨a, ha, hax⟩⟩))
  · cases he
theorem toL_some {es : List Ed} {role : Int} {p : PSet} {x : Ev} (h : x ∈ evs es role p) : ∃ y, y ∈ toL es role p x := by
  obtain ⟨n, hn, h⟩ := List.mem_flatMap.1 ((sortE_mem _ _).1 h)
  obtain ⟨a, ha, rfl⟩ := List.mem_map.1 h
  exact ⟨a.to, List.mem_flatMap.2 ⟨n, hn, List.mem_filterMap.2 ⟨a, ha, if_pos rfl⟩⟩⟩
theorem evs_empty {es : List Ed} {role : Int} {p : PSet} (hp : ∀ j, p j = false) (x : Ev) : x ∉ evs es role p := fun h => by
  obtain ⟨n, hn, _⟩ := List.mem_flatMap.1 ((sortE_mem _ _).1 h)
  have := (elems_mem.1 hn).2
  rw [hp n] at this; cases this
def RelV (S : List PSet) (b : Int) (p : PSet) : Prop := (b = -1 ∧ ∀ j, p j = false) ∨ ∃ i : Nat, b = (i : Int) ∧ S[i]? = some p ∧ ∃ j, p j = true
theorem relV_step {g : Gl} {role : Int} {w : Mch} {S : List PSet} (hR : RawV g role w S) (hV : ValidS g) {b : Int} {p : PSet} (h : RelV S b p) (x : Hv) : RelV S (nxtM w b x) (stepS g role p x) := by
  have emp : ∀ {q : PSet}, (x.role ≠ role ∨ x.ev ∉ evs g.es role q) → ∀ j, stepS g role q x j = false := fun {q} hq j => by
    unfold stepS
    split
    · rename_i e
      rcases hq with hq | hq
      · exact absurd e hq
      · rw [toL_none hq]; exact clo_nil
    · rfl
  have none_ : (x.role ≠ role ∨ ∀ m ∈ w.mv, m.f = b → m.ev ≠ x.ev) → nxtM w b x = -1 := fun hq => by
    unfold nxtM
    rw [hR.ro]
    split
    · rename_i e
      rcases hq with hq | hq
      · exact absurd e hq
      · have : w.mv.find? (hitF b x) = none := by
          rw [List.find?_eq_none]
          intro m hm hh
          obtain ⟨h1, h2, h3, h4⟩ := of_decide_eq_true hh
          refine hq m hm h1 ?_
          unfold Mv.ev Hv.ev
          rw [h2, h3, h4]
        rw [this]
    · rfl
  by_cases hr : x.role = role
  · rcases h with ⟨rfl, hp⟩ | ⟨i, rfl, hi, hne⟩
    · refine .inl ⟨none_ (.inr fun m hm hf => ?_), emp (.inr (evs_empty hp _))⟩
      obtain ⟨r, _, h1, _⟩ := hR.a m hm
      omega
    · by_cases hx : x.ev ∈ evs g.es role p
      · obtain ⟨m, hm, h1, h2⟩ := hR.b i p hi x.ev hx
        have hh : hitF (i : Int) x m = true := by
          refine decide_eq_true ⟨h1, ?_, ?_, ?_⟩
          · exact congrArg Ev.send h2
          · exact congrArg Ev.peer h2
          · exact congrArg Ev.label h2
        cases hf : w.mv.find? (hitF (i : Int) x) with
        | none => rw [List.find?_eq_none] at hf; exact absurd hh (hf m hm)
        | some y =>
          have hym := List.mem_of_find?_eq_some hf
          have hsm : hitF (i : Int) x y = true := List.find?_some hf
          obtain ⟨k1, k2, k3, k4⟩ := of_decide_eq_true hsm
          have hev : y.ev = x.ev := by unfold Mv.ev Hv.ev; rw [k2, k3, k4]
          obtain ⟨r, q, a1, _, a3, _, t, a5, a6⟩ := hR.a y hym
          have hri : r = i := by omega
          subst hri
          rw [hi] at a3; cases a3
          have e1 : nxtM w (r : Int) x = y.t := by unfold nxtM; rw [hR.ro, if_pos hr, hf]
          have e2 : stepS g role p x = clo g.es role (toL g.es role p x.ev) := by unfold stepS; rw [if_pos hr]
          rw [e1, e2, ← hev]
          refine .inr ⟨t, a5, a6, ?_⟩
          obtain ⟨z, hz⟩ := toL_some (hev ▸ hx)
          have hz0 := (toL_lt hV z hz).1
          exact ⟨z.toNat, clo_iff.2 (.base (by rw [show ((z.toNat : Nat) : Int) = z by omega]; exact hz))⟩
      · refine .inl ⟨none_ (.inr fun m hm hf he => ?_), emp (.inr hx)⟩
        obtain ⟨r, q, a1, _, a3, a4, _⟩ := hR.a m hm
        have hri : r = i := by omega
        subst hri
        rw [hi] at a3; cases a3
        rw [he] at a4; exact hx a4
  · exact .inl ⟨none_ (.inl hr), emp (.inl hr)⟩
theorem relV_start {g : Gl} {role : Int} {w : Mch} {S : List PSet} (hR : RawV g role w S) (hV : ValidS g) : RelV S w.s (clo g.es role [g.s]) := by
  have := hV.num.n
  exact .inr ⟨0, hR.s, hR.z, g.s.toNat, clo_iff.2 (.base (by rw [show ((g.s.toNat : Nat) : Int) = g.s by omega]; exact List.mem_singleton.2 rfl))⟩
theorem relV_fin {g : Gl} {role : Int} {w : Mch} {S : List PSet} (hR : RawV g role w S) {b : Int} {p : PSet} (h : RelV S b p) : (0 ≤ b ↔ ∃ j, p j = true) ∧ (0 ≤ b → w.fin[b.toNat]? = some (p g.e.toNat)) := by
  rcases h with ⟨rfl, hp⟩ | ⟨i, rfl, hi, hne⟩
  · refine ⟨⟨fun h => by omega, fun ⟨j, hj⟩ => by rw [hp j] at hj; cases hj⟩, fun h => by omega⟩
  · refine ⟨iff_of_true (by omega) hne, fun _ => ?_⟩
    rw [show ((i : Int)).toNat = i from rfl, hR.f, List.getElem?_map, hi]; rfl
end Go.VC
end

section
/- Contracts: the reference's words, edges of a state, and projections. -/
namespace Go.VC
open Go.Proofs Go.LexS
set_option maxRecDepth 100000
def outGP (es : List Ed) (s : Int) (i : Nat) : Bool := match es[i]? with | some x => decide (x.f = s) | none => false
def outG (es : List Ed) (s : Int) : List Nat := (List.range es.length).filter (outGP es s)
theorem outG_mem {es : List Ed} {s : Int} {k : Nat} : k ∈ outG es s ↔ ∃ x, es[k]? = some x ∧ x.f = s := by
  unfold outG
  rw [List.mem_filter, List.mem_range]
  constructor
  · rintro ⟨h1, h2⟩
    unfold outGP at h2
    rw [List.getElem?_eq_getElem h1] at h2
    exact ⟨_, List.getElem?_eq_getElem h1, of_decide_eq_true h2⟩
  · rintro ⟨x, hx, hf⟩
    refine ⟨(List.getElem?_eq_some_iff.1 hx).1, ?_⟩
    unfold outGP
    rw [hx]; exact decide_eq_true hf
theorem outG_len (es : List Ed) (s : Int) : (outG es s).length ≤ es.length := Nat.le_trans (List.length_filter_le _ _) (by rw [List.length_range]; exact Nat.le_refl _)
theorem out23 (g : Gl) (s : Int) (h : Heap) (hg : GI h g) : Fn Tryz.prog 23 #[g.v, .int .i64 s] h fun v h' => Ext h h' ∧ ∃ r : Sl, v = .slice r.a r.n r.c ∧ Rw h' 1 r ((natI (outG g.es s)).map inC) := by
  apply vc23 (bs g.nm) g.hr g.hd g.n g.s g.e g.he g.ht; unfold W23
  have hen := hg.e.ln
  have hem := hg.e.sm
  refine (St.refl h).newb fun h9 hs => ?_
  have hs := hs.nil_ 3 1
  refine up_loopA (n := g.he.n) hs (fun i rows => rows = (natI ((List.range i).filter (outGP g.es s))).map inC) rfl ?_
  clear hs
  rintro - i out h15 rows hi hs rfl
  have hocap := hs.len 0 (s := out) (e := 3) (n := 1) rfl (by omega)
  rw [List.length_map, show (natI ((List.range i).filter (outGP g.es s))).length = ((List.range i).filter (outGP g.es s)).length from List.length_map _] at hocap
  have hol : ((List.range i).filter (outGP g.es s)).length ≤ i := Nat.le_trans (List.length_filter_le _ _) (by rw [List.length_range]; exact Nat.le_refl _)
  refine ⟨g.he, hs.rd 1 rfl rfl, sBi (fun c => ?_) (fun c => ?_)⟩
  · refine ⟨g.he, hs.rd 1 rfl rfl, ?_⟩
    refine (hg.e.rw.ext hs.ext).nbI (by omega) (by omega) fun b o x gx t => ?_
    replace gx : g.es[i]? = some x := gx
    have hrs : (List.range (i + 1)).filter (outGP g.es s) = if x.f = s then (List.range i).filter (outGP g.es s) ++ [i] else (List.range i).filter (outGP g.es s) := by
      rw [List.range_succ, List.filter_append]
      have hp : outGP g.es s i = decide (x.f = s) := by unfold outGP; rw [gx]
      by_cases e : x.f = s
      · rw [if_pos e, List.filter_cons_of_pos (by rw [hp]; exact decide_eq_true e)]; rfl
      · rw [if_neg e, List.filter_cons_of_neg (by rw [hp, decide_eq_false e]; simp)]; simp
    refine ⟨_, t.hd, sBe (fun c2 => ?_) (fun c2 => ?_)⟩
    · refine hs.app 0 rfl app42 (m := 1) [inC (i : Int)] rfl rfl (fun r hr => by rw [List.mem_singleton] at hr; rw [hr]; rfl) rfl (by omega) (by simp only [maxLen]; omega) fun r h27 ns hs => ?_
      refine UpA.next (by omega) (by omega) ⟨_, hs, ?_⟩
      rw [hrs, if_pos c2, natI_snoc, List.map_append]; rfl
    · exact UpA.next (by omega) (by omega) ⟨_, hs, by rw [hrs, if_neg c2]⟩
  · have hie : i = g.es.length := by omega
    subst hie
    exact ⟨hs.ext, out, rfl, hs.rows 0 rfl (by omega)⟩
theorem sees50 (x : Ed) (role : Int) (h : Heap) : Fn Tryz.prog 50 #[.agg ⟨x.cs⟩, .int .i64 role] h fun v h' => v = .bool (vis1 role x).isSome ∧ Ext h h' := by
  apply vc50 x.f x.a x.b x.l x.t x.ag; unfold W50
  refine (St.refl h).newb fun h7 hs => ?_
  refine ⟨_, hs.rd 0 rfl rfl, sBe (fun c => ?_) (fun c => ⟨_, hs.rd 0 rfl rfl, ?_, hs.ext⟩)⟩
  · refine ⟨?_, hs.ext⟩
    unfold vis1
    rw [if_pos c.symm]; rfl
  · unfold vis1
    rw [if_neg (Ne.symm c)]
    by_cases e : x.b = role
    · rw [if_pos e.symm, e, beq_self_eq_true]; rfl
    · rw [if_neg (Ne.symm e), beq_eq_false_iff_ne.2 e]; rfl
theorem event51 (x : Ed) (role : Int) (e : Ev) (hv : vis1 role x = some e) (h : Heap) : Fn Tryz.prog 51 #[.agg ⟨x.cs⟩, .int .i64 role] h fun v h' => v = .agg ⟨aC role e⟩ ∧ Ext h h' := by
  apply vc51 x.f x.a x.b x.l x.t x.ag; unfold W51
  refine (St.refl h).newb fun h7 hs => ?_
  refine hs.newb fun h8 hs => ?_
  unfold vis1 at hv
  refine ⟨_, hs.rd 1 rfl rfl, sBe (fun c => ?_) (fun c => ?_)⟩
  · rw [if_pos c.symm] at hv; cases hv
    refine ⟨_, hs.rd 1 rfl rfl, _, hs.rd 1 rfl rfl, ?_⟩
    refine hs.put 0 rfl (o := 0) (vs := aC role ⟨true, x.b, x.l⟩) rfl (show 5 ≤ 5 by decide) fun h12 hs => ?_
    exact ⟨_, _, _, _, ⟨none, 0, 0⟩, hs.at 0 rfl (o := 0) (n := 5) rfl, rfl, hs.ext⟩
  · rw [if_neg (Ne.symm c)] at hv
    split at hv
    · cases hv
      refine ⟨_, hs.rd 1 rfl rfl, _, hs.rd 1 rfl rfl, ?_⟩
      refine hs.put 0 rfl (o := 0) (vs := aC role ⟨false, x.a, x.l⟩) rfl (show 5 ≤ 5 by decide) fun h12 hs => ?_
      exact ⟨_, _, _, _, ⟨none, 0, 0⟩, hs.at 0 rfl (o := 0) (n := 5) rfl, rfl, hs.ext⟩
    · cases hv
def actC (x : Ed) : List Value := [.int .i64 x.a, .int .i64 x.b, .int .i64 x.l]
theorem project24 (role : Int) (p : List Ed) (s : Sl) (h : Heap) (hr : Rw h 3 s (p.map actC)) (hm : p.length ≤ 1048576) :
    Fn Tryz.prog 24 #[.slice s.a s.n s.c, .int .i64 role] h fun v h' => Ext h h' ∧ ∃ r : Sl, v = .slice r.a r.n r.c ∧ Rw h' 5 r ((p.filterMap (vis1 role)).map (aC role)) := by
  apply vc24; unfold W24
  have hn := hr.ln
  have hs := (St.refl h).nil_ 60 5
  refine up_loopA (n := s.n) hs (fun i rows => rows = ((p.take i).filterMap (vis1 role)).map (aC role)) rfl ?_
  clear hs
  rintro - i out h6 rows hi hs rfl
  have hocap := hs.len 0 (s := out) (e := 60) (n := 5) rfl (by omega)
  have hol : ((p.take i).filterMap (vis1 role)).length ≤ i := Nat.le_trans (List.length_filterMap_le _ _) (by rw [List.length_take]; omega)
  rw [List.length_map] at hocap
  refine sB_intro (fun c => ?_) (fun c => ?_)
  · replace c := lt_t c
    refine (hr.ext hs.ext).nbI (by omega) (by omega) fun b o x gx t => ?_
    replace gx : p[i]? = some x := gx
    have e1 : vis1 role (⟨0, x.a, x.b, x.l, 0, false⟩ : Ed) = vis1 role x := rfl
    refine ⟨_, _, _, t, ?_⟩
    refine hs.newput (vs := Ed.cs ⟨0, x.a, x.b, x.l, 0, false⟩) rfl rfl fun h13 hs => ?_
    refine ⟨_, _, _, _, _, _, hs.at 0 rfl (o := 0) (n := 6) rfl, ?_⟩
    refine (sees50 ⟨0, x.a, x.b, x.l, 0, false⟩ role h13).mono ?_
    rintro _ h22 ⟨rfl, E⟩
    have hs := hs.step E
    refine ⟨_, rfl, sB_intro (fun c2 => ?_) (fun c2 => ?_)⟩
    · rw [e1, Option.isSome_iff_exists] at c2
      obtain ⟨e, he⟩ := c2
      refine ⟨_, _, _, _, _, _, hs.at 0 rfl (o := 0) (n := 6) rfl, ?_⟩
      refine (event51 ⟨0, x.a, x.b, x.l, 0, false⟩ role e (e1.trans he) h22).mono ?_
      rintro _ h35 ⟨rfl, E⟩
      have hs := hs.step E
      refine ⟨_, _, _, _, ⟨none, 0, 0⟩, rfl, ?_⟩
      refine hs.app 1 rfl app56 (m := 1) [aC role e] rfl rfl (fun r hr => by rw [List.mem_singleton] at hr; rw [hr]; rfl) rfl (by omega) (by simp only [maxLen]; omega) fun r h38 ns hs => ?_
      refine UpA.next c (by omega) ⟨_, hs.drop 1, ?_⟩
      rw [take_snoc gx, List.filterMap_append, List.map_append]
      congr 1
      rw [List.filterMap_cons, he]; rfl
    · rw [e1] at c2
      have he : vis1 role x = none := by cases h : vis1 role x with | none => rfl | some e => rw [h] at c2; cases c2
      refine UpA.next c (by omega) ⟨_, hs.drop 1, ?_⟩
      rw [take_snoc gx, List.filterMap_append, List.filterMap_cons, he]
      simp
  · replace c := lt_f c
    rw [List.take_of_length_le (by omega)] at hs
    exact ⟨hs.ext, out, rfl, hs.rows 0 rfl (by omega)⟩
inductive Pth (es : List Ed) : Int → List Ed → Int → Prop where
  | nil {s : Int} : Pth es s [] s
  | snoc {s t : Int} {p : List Ed} {x : Ed} : Pth es s p t → x ∈ es → x.f = t → Pth es s (p ++ [x]) x.t
def u8C (n : Nat) : List Value := [.int .u8 (n : Int)]
theorem app48 : appB Tryz.prog 48 53 3 24 = true := by kernel_rfl
theorem word22 (g : Gl) (s : Sl) (L : List Nat) (h : Heap) (hg : GI h g) (hL : Rw h 1 s (L.map u8C)) (h30 : L.length ≤ 1048576) (hb : ∀ n ∈ L, n ≤ 255) :
    Fn Tryz.prog 22 #[g.v, .slice s.a s.n s.c] h fun v h' => Ext h h' ∧ ∃ (r : Sl) (p : List Ed) (at_ : Int), v = .tuple ⟨[.slice r.a r.n r.c, .int .i64 at_]⟩ ∧ Rw h' 3 r (p.map actC) ∧ Pth g.es g.s p at_ ∧ p.length ≤ L.length := by
  apply vc22 (bs g.nm) g.hr g.hd g.n g.s g.e g.he g.ht; unfold W22
  have hen := hg.e.ln
  have hem := hg.e.sm
  have hn := hL.ln
  refine (St.refl h).newb fun h9 hs => ?_
  refine ⟨_, hs.rd 0 rfl rfl, ?_⟩
  have hs := hs.nil_ 53 3
  refine ⟨fun out a x h' m => ∃ (k : Nat) (p : List Ed), x = k ∧ k ≤ s.n ∧ m = s.n - k ∧ p.length ≤ k ∧ Pth g.es g.s p a ∧ St h h' [.sl out 53 3 (p.map actC), .blk h.size g.cs 27],
    ⟨_, 0, [], rfl, by omega, rfl, Nat.le_refl _, .nil, hs⟩, ?_⟩
  clear hs
  rintro - out a _ h17 m ⟨k, p, rfl, hk, rfl, hpl, hP, hs⟩
  have hocap := hs.len 0 (s := out) (e := 53) (n := 3) rfl (by omega)
  rw [List.length_map] at hocap
  refine sB_intro (fun c => ?_) (fun c => ⟨hs.ext, out, p, a, rfl, hs.rows 0 rfl (by omega), hP, by omega⟩)
  replace c := lt_t c
  refine ⟨_, _, _, _, _, _, _, _, hs.at 1 rfl (o := 0) (n := 8) rfl, ?_⟩
  refine (out23 g a h17 (hg.ext hs.ext)).mono ?_
  rintro _ h28 ⟨E, r, rfl, hr⟩
  have hs := hs.step E
  have hrn := hr.ln
  refine ⟨r, rfl, sBe (fun c2 => ⟨hs.ext, out, p, a, rfl, hs.rows 0 rfl (by omega), hP, by omega⟩) (fun c2 => ?_)⟩
  refine ⟨g.he, hs.rd 1 rfl rfl, ?_⟩
  refine (hL.ext hs.ext).nbI (by omega) (by omega) fun b o n gn t => ?_
  replace gn : L[k]? = some n := gn
  have hn255 := hb n (List.mem_of_getElem? gn)
  refine ⟨_, t.hd, c2, ?_⟩
  have hq : Int.tmod (IntKind.wrap .i64 (n : Int)) (r.n : Int) = ((n % r.n : Nat) : Int) := by
    rw [w64 (by omega) (by omega)]; rfl
  have hql : n % r.n < r.n := Nat.mod_lt _ (by omega)
  rw [hq]
  refine hr.nbI (by omega) (by omega) fun b2 o2 d gd t2 => ?_
  replace gd : (natI (outG g.es a))[n % r.n]? = some d := gd
  obtain ⟨j, hj, rfl⟩ := natI_get gd
  obtain ⟨x0, hx0, hxf⟩ := outG_mem.1 (List.mem_of_getElem? hj)
  have hjl := (List.getElem?_eq_some_iff.1 hx0).1
  refine ⟨_, t2.nth 0 rfl, ?_⟩
  refine (hg.e.rw.ext hs.ext).nbI (by omega) (by omega) fun b3 o3 x gx t3 => ?_
  replace gx : g.es[j]? = some x := gx
  rw [hx0] at gx; cases gx
  refine ⟨_, _, _, _, _, _, t3, ?_⟩
  intro h44 e44
  refine ⟨smx (by rw [e44]; exact Ext.push _ _), ?_⟩
  refine hs.newput (zs := [.int .i64 0, .int .i64 0, .int .i64 0, .int .i64 0, .int .i64 0, .bool false]) (vs := x0.cs) (n := 6) (e := 55) rfl rfl (fun h45 hs => ?_) h44 e44
  refine ⟨_, _, _, hs.at 0 rfl (o := 1) (n := 3) rfl, ?_⟩
  refine hs.app 1 rfl app48 (m := 1) [actC x0] rfl rfl (fun r hr => by rw [List.mem_singleton] at hr; rw [hr]; rfl) rfl (by omega) (by simp only [maxLen]; omega) fun r2 h51 ns hs => ?_
  refine ⟨_, hs.rd 0 rfl rfl, s.n - (k + 1), by omega, k + 1, p ++ [x0], by rw [w64 (by omega) (by omega)]; omega, by omega, rfl, by rw [List.length_append, List.length_singleton]; omega, .snoc hP (List.mem_of_getElem? hx0) hxf, ?_⟩
  rw [List.map_append]
  exact hs.drop 1
end Go.VC
end

section
namespace Go.VC
open Go.Proofs
set_option maxRecDepth 100000
set_option linter.unusedVariables false

/- farandole/farandolelaw25.ProjectHistories
 loop rrrrrrrlrb: at_56:Int, n_57:Int -/
/- farandole/view.Behind
 loop rrrrlrb: s_30:Sl, x_31:Int -/
/- farandole/bits.Len
 loop rrlrb: n_4:Int, x_5:Int -/
end Go.VC
end

section
/- Counting bits, on numbers: the sum is 0 for 0 alone. No program here. -/
namespace Go.VC
def mk8 (c : Nat) : Nat → Nat
  | 0 => 0
  | k + 1 => c + 256 * mk8 c k
def s1 (k x : Nat) : Nat := ((x / 2) &&& mk8 0x55 k) + (x &&& mk8 0x55 k)
def s2 (k x : Nat) : Nat := ((x / 4) &&& mk8 0x33 k) + (x &&& mk8 0x33 k)
def s3 (k x : Nat) : Nat := (x / 16 + x) &&& mk8 0x0f k
def b1 (b : Nat) : Nat := ((b / 2) &&& 0x55) + (b &&& 0x55)
def b2 (b : Nat) : Nat := ((b / 4) &&& 0x33) + (b &&& 0x33)
def b3 (b : Nat) : Nat := (b / 16 + b) &&& 0x0f
set_option maxRecDepth 100000 in
theorem f1 : ∀ b, b < 256 → ∀ t, t < 2 → (b / 2 + 128 * t) &&& 0x55 = (b / 2) &&& 0x55 := by decide
set_option maxRecDepth 100000 in
theorem f2 : ∀ b, b < 256 → ∀ t, t < 4 → (b / 4 + 64 * t) &&& 0x33 = (b / 4) &&& 0x33 := by decide
set_option maxRecDepth 100000 in
theorem f3 : ∀ b, b < 69 → ∀ t, t < 5 → (b / 16 + 16 * t + b) &&& 0x0f = b3 b := by decide
set_option maxRecDepth 100000 in
theorem f4 : ∀ b, b < 256 → b1 b < 256 ∧ b2 (b1 b) < 69 ∧ b2 (b1 b) % 16 < 5 ∧ b3 (b2 (b1 b)) < 9 ∧ (b3 (b2 (b1 b)) = 0 → b = 0) := by decide
end Go.VC
end

section
/- Contracts: the number of a set's elements, an event of the role, the view behind a history. -/
namespace Go.VC
open Go.Proofs Go.LexS
set_option maxRecDepth 100000
theorem behS_snoc (g : Gl) (role : Int) (l : List Hv) (x : Hv) : behS g role (l ++ [x]) = stepS g role (behS g role l) x := by unfold behS; rw [List.foldl_append]; rfl
theorem stepS_nil (g : Gl) (role : Int) (x : Hv) : stepS g role (fun _ => false) x = fun _ => false := by
  unfold stepS
  split
  · rw [toL_none (evs_empty (fun _ => rfl) _)]
    exact funext fun j => clo_nil
  · rfl
theorem behS_lt {g : Gl} {role : Int} (hV : ValidS g) (l : List Hv) : ∀ j, behS g role l j = true → (j : Int) < g.n := by
  have hN := hV.num.n
  suffices h : ∀ (l : List Hv) (p : PSet), (∀ j, p j = true → (j : Int) < g.n) → ∀ j, l.foldl (stepS g role) p j = true → (j : Int) < g.n from
    h l _ fun j hj => clo_lt hV (fun x hx => by rw [List.mem_singleton.1 hx]; omega) j hj
  intro l
  induction l with
  | nil => intro p hp; exact hp
  | cons x l ih =>
    intro p hp
    rw [List.foldl_cons]
    refine ih _ fun j hj => ?_
    unfold stepS at hj
    split at hj
    · exact clo_lt hV (toL_lt hV) j hj
    · cases hj
end Go.VC
end

section
/- The law of histories. -/
namespace Go.VC
open Go.Proofs Go.LexS
set_option maxRecDepth 100000
theorem relV_neg {g : Gl} {role : Int} {S : List PSet} {b : Int} {p : PSet} (h : RelV S b p) (hb : b < 0) (x : Hv) : RelV S b (stepS g role p x) := by
  rcases h with ⟨rfl, hp⟩ | ⟨i, rfl, _⟩
  · have e : p = fun _ => false := funext hp
    exact .inl ⟨rfl, fun j => by rw [e, stepS_nil]⟩
  · omega
theorem proj_err {g : Gl} {role : Int} {e : Int} (hgood : ValidS g ∧ 0 ≤ role ∧ role < g.rs.length) (h : proj g role = (none, e)) : e = 6 ∨ e = 18 := by
  unfold proj at h
  have hr : raw g role = (none, e) := by
    cases hw : raw g role with
    | mk a b =>
      rw [hw] at h
      cases a with
      | none => cases h; rfl
      | some m => cases h
  unfold raw at hr
  rw [if_neg (Classical.not_not.2 hgood)] at hr
  split at hr
  · cases hr; exact .inl rfl
  · split at hr
    · cases hr; exact .inl rfl
    · split at hr
      · cases hr; exact .inr rfl
      · cases hr
end Go.VC
end

section
/- The walk of the law of choices. -/
namespace Go.VC
open Go.Proofs Go.LexS
set_option maxRecDepth 100000
def hvE (role : Int) (e : Ev) : Hv := ⟨role, e.send, e.peer, e.label, ⟨none, 0, 0⟩⟩
def stepM (m : Mch) (s : Int) (x : Hv) : Int := if 0 ≤ s then nxtM m s x else s
def runM (m : Mch) (l : List Hv) : Int := l.foldl (stepM m) m.s
theorem runM_snoc (m : Mch) (l : List Hv) (x : Hv) : runM m (l ++ [x]) = stepM m (runM m l) x := by unfold runM; rw [List.foldl_append]; rfl
structure ChS (g : Gl) (q : Int) (m : Mch) (a : Int) : Prop where
  len : (outIx m a).length = (outG g.es q).length
  mv : ∀ k ∈ outG g.es q, ∀ x, g.es[k]? = some x → ∃ n ∈ outIx m a, ∃ y, m.mv[n]? = some y ∧ y.send = true ∧ y.peer = x.b ∧ y.label = x.l ∧ y.ag = x.ag
  li : ∀ t ∈ m.li, t.s = a → ∃ t0 ∈ g.ts, t0.s = q ∧ t.k = t0.k ∧ ∃ y x, m.mv[t.e.toNat]? = some y ∧ g.es[t0.e.toNat]? = some x ∧ y.send = true ∧ y.peer = x.b ∧ y.label = x.l
  l2 : ∀ t0 ∈ g.ts, t0.s = q → ∃ t ∈ m.li, t.s = a ∧ t.k = t0.k
def TkI (g : Gl) (q : Int) (i : Nat) (T B l : Int) : Prop := (T = 0 ∧ ∀ (j : Nat) t, j < i → g.ts[j]? = some t → t.s ≠ q) ∨ ∃ t ∈ g.ts, t.s = q ∧ T = t.k ∧ ∃ x, g.es[t.e.toNat]? = some x ∧ B = x.b ∧ l = x.l
def OwI (m : Mch) (a : Int) (i : Nat) (T : Int) : Prop := (T = 0 ∧ ∀ (j : Nat) t, j < i → m.li[j]? = some t → t.s ≠ a) ∨ ∃ t ∈ m.li, t.s = a ∧ T = t.k
theorem TkI.skip {g : Gl} {q : Int} {i : Nat} {T B l : Int} (h : TkI g q i T B l) {t : To} (ht : g.ts[i]? = some t) (hn : t.s ≠ q) : TkI g q (i + 1) T B l := by
  rcases h with ⟨h1, h2⟩ | h
  · refine .inl ⟨h1, fun j y hj hy => ?_⟩
    by_cases e : j = i
    · subst e; rw [ht] at hy; cases hy; exact hn
    · exact h2 j y (by omega) hy
  · exact .inr h
theorem OwI.skip {m : Mch} {a : Int} {i : Nat} {T : Int} (h : OwI m a i T) {t : To} (ht : m.li[i]? = some t) (hn : t.s ≠ a) : OwI m a (i + 1) T := by
  rcases h with ⟨h1, h2⟩ | h
  · refine .inl ⟨h1, fun j y hj hy => ?_⟩
    by_cases e : j = i
    · subst e; rw [ht] at hy; cases hy; exact hn
    · exact h2 j y (by omega) hy
  · exact .inr h
theorem tim_lt {g : Gl} (hT : TimS g) : ∀ (j i : Nat) (a b : To), i < j → g.ts[i]? = some a → g.ts[j]? = some b → a.s < b.s
  | 0, i, a, b, h, _, _ => by omega
  | j + 1, i, a, b, h, ha, hb => by
    have h1 := (hT (j + 1) b hb).o
    have hl := (List.getElem?_eq_some_iff.1 hb).1
    obtain ⟨c, hc⟩ := get_some (l := g.ts) (i := j) (by omega)
    rw [lastS_next hc] at h1
    by_cases e : i = j
    · subst e; rw [ha] at hc; cases hc; exact h1
    · have := tim_lt hT j i a c (by omega) ha hc; omega
theorem tim_uniq {g : Gl} (hT : TimS g) {a b : To} (ha : a ∈ g.ts) (hb : b ∈ g.ts) (e : a.s = b.s) : a = b := by
  obtain ⟨i, hi⟩ := List.mem_iff_getElem?.1 ha
  obtain ⟨j, hj⟩ := List.mem_iff_getElem?.1 hb
  rcases Nat.lt_trichotomy i j with h | h | h
  · have := tim_lt hT j i a b h hi hj; omega
  · subst h; rw [hi] at hj; cases hj; rfl
  · have := tim_lt hT i j b a h hj hi; omega
set_option maxHeartbeats 8000000 in
theorem choices5 (g : Gl) (s : Sl) (L : List Nat) (h : Heap) (hg : GI h g) (hx : Gx h) (hM : GNm g.ds) (hL : Rw h 1 s (L.map u8C)) (hLm : L.length ≤ 1048576) (hb255 : ∀ n ∈ L, n ≤ 255)
    (hP : ∀ role w, raw g role = (some w, 0) → w.mv.length ≤ 1048576 ∧ w.li.length ≤ 1048576 ∧ (minF w).mv.length ≤ 1048576 ∧ (minF w).li.length ≤ 1048576 ∧ MGood (minF w))
    (hE : ValidS g → ∀ p q, Pth g.es g.s p q → outG g.es q = [] → q = g.e)
    (hC : ValidS g → ∀ role w p q k x, raw g role = (some w, 0) → Pth g.es g.s p q → k ∈ outG g.es q → g.es[k]? = some x → x.a = role → 0 ≤ runM (minF w) ((p.filterMap (vis1 role)).map (hvE role)) ∧ ChS g q (minF w) (runM (minF w) ((p.filterMap (vis1 role)).map (hvE role)))) :
    Fn Tryz.prog 5 #[g.v, .slice s.a s.n s.c] h fun v h' => v = .bool true ∧ Ext h h' := by
  apply vc5 (bs g.nm) g.hr g.hd g.n g.s g.e g.he g.ht s; unfold W5
  have hs := St.refl h
  have hsn := hL.ln
  refine hs.newb fun h9 hs => ?_
  refine (awake10 h9 (hx.ext hs.ext)).mono ?_
  rintro _ h12 ⟨rfl, E12⟩
  replace hs := hs.step E12
  refine ⟨_, rfl, sB_f rfl ?_⟩
  refine ⟨_, _, _, _, _, _, _, _, hs.at 0 rfl (n := 8) rfl, ?_⟩
  refine (small21 g 0 h12 (hg.ext hs.ext) hM).mono ?_
  rintro _ h23 ⟨⟨b, rfl, hb⟩, E23⟩
  replace hs := hs.step E23
  refine ⟨_, rfl, sB_intro (fun _ => ⟨rfl, hs.ext⟩) (fun cb => sB_intro (fun _ => ⟨rfl, hs.ext⟩) (fun hlen => ?_))⟩
  have hV := (hb (bT cb)).1
  have hT := hV.tim
  have hlen30 : s.n ≤ 30 := by have := of_decide_eq_false hlen; omega
  have hen := hg.e.ln
  have hem := hg.e.sm
  have htn := hg.t.ln
  have htm := hg.t.sm
  refine ⟨_, _, _, _, _, _, _, _, hs.at 0 rfl (n := 8) rfl, ?_⟩
  refine (word22 g s L h23 (hg.ext hs.ext) (hL.ext hs.ext) hLm hb255).mono ?_
  rintro _ h35 ⟨E35, wr, p, q, rfl, hwr, hPth, hpl⟩
  replace hs := hs.step E35
  refine ⟨wr, q, rfl, ?_⟩
  refine ⟨_, _, _, _, _, _, _, _, hs.at 0 rfl (n := 8) rfl, ?_⟩
  refine (out23 g q h35 (hg.ext hs.ext)).mono ?_
  rintro _ h46 ⟨E46, l, rfl, hl⟩
  replace hs := hs.step E46
  replace hwr := hwr.ext E46
  have hln := hl.ln
  rw [show (natI (outG g.es q)).length = (outG g.es q).length from List.length_map _] at hln
  refine ⟨l, rfl, sBe (fun c0 => ?_) (fun c0 => ?_)⟩
  · refine ⟨_, hs.rd 0 rfl rfl, ?_, hs.ext⟩
    have : outG g.es q = [] := List.length_eq_zero_iff.1 (by omega)
    rw [hE hV p q hPth this, beq_self_eq_true]
  refine ⟨g.he, hs.rd 0 rfl rfl, ?_⟩
  refine hl.nbI (by omega) (by omega) fun b49 o50 d gd t49 => ?_
  replace gd : (natI (outG g.es q))[0]? = some d := gd
  obtain ⟨k0, hk0, rfl⟩ := natI_get gd
  have hk0m := List.mem_of_getElem? hk0
  obtain ⟨x0, hx0, hx0f⟩ := outG_mem.1 hk0m
  have hk0l := (List.getElem?_eq_some_iff.1 hx0).1
  refine ⟨_, t49.nth 0 rfl, ?_⟩
  refine (hg.e.rw.ext hs.ext).nbI (by omega) (by omega) fun b52 o53 x0' gx0 t52 => ?_
  replace gx0 : g.es[k0]? = some x0' := gx0
  rw [hx0] at gx0; cases gx0
  refine ⟨_, t52.nth 1 rfl, ?_⟩
  have hEd := hV.num.e x0 (List.mem_of_getElem? hx0)
  have hgood : ValidS g ∧ 0 ≤ x0.a ∧ x0.a < g.rs.length := by unfold EdS at hEd; exact ⟨hV, by omega, by omega⟩
  refine ⟨_, _, _, _, _, _, _, _, hs.at 0 rfl (n := 8) rfl, ?_⟩
  refine (project12 g x0.a h46 (hg.ext hs.ext) (hx.ext hs.ext)).mono ?_
  rintro _ h71 ⟨E71, hr1⟩
  cases hr1 with
  | @err e he h0 =>
    replace hs := hs.step E71
    refine ⟨0, 0, 0, ⟨none, 0, 0⟩, ⟨none, 0, 0⟩, ⟨none, 0, 0⟩, e, rfl, ?_⟩
    refine hs.newput (vs := m0) rfl rfl fun h73 hs => ?_
    refine sBn (fun _ => sBe (fun _ => ⟨rfl, hs.ext⟩) (fun c => ⟨?_, hs.ext⟩)) fun c => absurd c h0
    rcases proj_err hgood he with rfl | rfl
    · rfl
    · exact absurd rfl c
  | @ok m sf sm sl he hm =>
    cases hw : raw g x0.a with
    | mk o e2 =>
    cases o with
    | none => exfalso; unfold proj at he; rw [hw] at he; cases he
    | some w =>
    have hmw : m = minF w := by unfold proj at he; rw [hw] at he; cases he; rfl
    have he2 : e2 = 0 := by
      unfold raw at hw
      split at hw
      · cases hw
      · split at hw
        · cases hw
        · split at hw
          · cases hw
          · split at hw
            · cases hw
            · cases hw; rfl
    subst he2
    subst hmw
    obtain ⟨b1, b2, b3, b4, hG⟩ := hP _ w hw
    obtain ⟨ha0, hCh⟩ := hC hV _ w p q k0 x0 hw hPth hk0m hx0 rfl
    have hg46 : atC h46 ⟨h.size, 0, none⟩ g.cs := hs.at 0 rfl (n := 8) rfl
    have E46 := hs.ext
    clear hs
    have hs := hm
    refine ⟨(minF w).role, (minF w).n, (minF w).s, sf, sm, sl, 0, rfl, ?_⟩
    refine hs.newput (vs := mC (minF w) sf sm sl) rfl rfl fun h73 hs => ?_
    refine sBn (fun c => absurd rfl c) fun _ => ?_
    have gn := hG.n
    have gfl := hG.fl
    have hMm : MI h73 (minF w) sf sm sl := hs.mi 1 rfl rfl rfl (by omega) b3 b4
    have hcm : ∀ {h' : Heap}, Ext h73 h' → atC h' ⟨h71.size, 0, none⟩ (mC (minF w) sf sm sl) := fun E => atC_ext E (hs.at 0 rfl (n := 6) rfl)
    have hcg : ∀ {h' : Heap}, Ext h73 h' → atC h' ⟨h.size, 0, none⟩ g.cs := fun E => atC_ext (hs.ext.trans E) hg46
    have E46_73 : Ext h46 h73 := hs.ext
    have E73 := E46.trans E46_73
    have hg73 := hg.ext E73
    replace hwr := hwr.ext E46_73
    replace hl := hl.ext E46_73
    clear hs hm
    have hmn := hMm.pm.ln
    have hlin := hMm.pl.ln
    generalize hmm : minF w = m at *
    refine ⟨_, _, _, sf, sm, sl, hcm .rfl', ?_⟩
    refine (right17 m sf sm sl h73 hMm hG).mono ?_
    rintro _ h82 ⟨rfl, E82⟩
    refine ⟨_, rfl, sB_f rfl ?_⟩
    refine ⟨_, (hcm E82).nth 2 rfl, ?_⟩
    refine (project24 x0.a p wr h82 (hwr.ext E82) (by omega)).mono ?_
    rintro _ h86 ⟨E86, er, rfl, her⟩
    refine ⟨er, rfl, ?_⟩
    have hev : ((p.filterMap (vis1 x0.a)).map (aC x0.a)) = (((p.filterMap (vis1 x0.a)).map (hvE x0.a)).map Hv.cs) := by rw [List.map_map]; rfl
    rw [hev] at her
    generalize hH : (p.filterMap (vis1 x0.a)).map (hvE x0.a) = H at *
    have hern := her.ln
    have hHl : H.length ≤ p.length := by rw [← hH, List.length_map]; exact List.length_filterMap_le _ _
    have E86' := E82.trans E86
    refine ⟨fun a x h' μ => ∃ i : Nat, x = i ∧ i ≤ er.n ∧ μ = er.n - i ∧ Ext h73 h' ∧ Ext h86 h' ∧ a = runM m (H.take i), ⟨_, 0, rfl, by omega, rfl, E86', .rfl', rfl⟩, ?_⟩
    rintro - _ _ h92 μ ⟨i, rfl, hi, rfl, E92, E86_92, rfl⟩
    refine sB_intro (fun c => ?_) (fun c => ?_)
    · replace c := lt_t c
      refine (her.ext E86_92).nbI (by omega) (by omega) fun b93 o94 x gx t => ?_
      replace gx : H[i]? = some x := gx
      refine ⟨_, _, _, _, _, t, ?_⟩
      refine (St.refl h92).newput (vs := x.cs) rfl rfl fun h101 hs => ?_
      refine sBi (fun c1 => ?_) (fun c1 => ?_)
      · refine ⟨_, _, _, sf, sm, sl, hcm (E92.trans hs.ext), _, _, _, _, _, hs.at 0 rfl (o := 0) (n := 5) rfl, ?_⟩
        refine (next25 m sf sm sl _ x h101 (hMm.ext (E92.trans hs.ext))).mono ?_
        rintro _ h115 ⟨rfl, E115⟩
        refine ⟨_, rfl, er.n - (i + 1), by omega, i + 1, by rw [w64 (by omega) (by omega)]; omega, by omega, rfl, (E92.trans hs.ext).trans E115, (E86_92.trans hs.ext).trans E115, ?_⟩
        rw [take_snoc gx, runM_snoc]
        unfold stepM; rw [if_pos c1]
      · refine ⟨er.n - (i + 1), by omega, i + 1, by rw [w64 (by omega) (by omega)]; omega, by omega, rfl, E92.trans hs.ext, E86_92.trans hs.ext, ?_⟩
        rw [take_snoc gx, runM_snoc]
        unfold stepM; rw [if_neg c1]
    replace c := lt_f c
    rw [List.take_of_length_le (by omega)]
    generalize hA : runM m H = A at *
    refine sBi (fun c1 => absurd c1 (by omega)) (fun _ => ?_)
    refine ⟨_, _, _, sf, sm, sl, hcm E92, ?_⟩
    refine (out19 m sf sm sl A h92 (hMm.ext E92) hG.so).mono ?_
    rintro _ h126 ⟨mo, rfl, hmo⟩
    have E126 := E92.trans hmo.ext
    replace hmo : Rw h126 1 mo ((natI (outIx m A)).map inC) := hmo.rows 0 rfl (by omega)
    have hmon := hmo.ln
    rw [show (natI (outIx m A)).length = (outIx m A).length from List.length_map _] at hmon
    have hlen2 := hCh.len
    have hgl2 := outG_len g.es q
    refine ⟨mo, rfl, sBn (fun c2 => absurd (by omega) c2) (fun _ => ?_)⟩
    refine (St.refl h126).newput (vs := [.int .i64 0, .int .i64 0, .int .i64 0]) rfl rfl fun h128 hs => ?_
    refine ⟨g.ht, (hcg (E126.trans hs.ext)).nth 7 rfl, ?_⟩
    refine ⟨fun T x h' μ => ∃ (i : Nat) (A1 B l1 : Int), x = i ∧ i ≤ g.ht.n ∧ μ = g.ht.n - i ∧ TkI g q i T B l1 ∧ St h126 h' [.blk h126.size [.int .i64 A1, .int .i64 B, .int .i64 l1] 53], ⟨_, 0, _, _, _, rfl, by omega, rfl, .inl ⟨rfl, fun j t hj => by omega⟩, hs⟩, ?_⟩
    clear hs
    rintro - T _ h135 μ ⟨i, A1, B, l1, rfl, hi, rfl, hTk, hs⟩
    refine sB_intro (fun c2 => ?_) (fun c2 => ?_)
    · replace c2 := lt_t c2
      refine (hg73.t.rw.ext (E126.trans hs.ext)).nbI (by omega) (by omega) fun b136 o137 t gt t136 => ?_
      replace gt : g.ts[i]? = some t := gt
      refine ⟨_, _, _, t136, ?_⟩
      refine hs.newput (vs := t.cs) rfl rfl fun h142 hs => ?_
      refine ⟨_, hs.rd 0 rfl rfl, sBe (fun c3 => ?_) (fun c3 => ?_)⟩
      · obtain ⟨z0, z, hz, hzf, hzg⟩ := (hT i t gt).e
        have hzl := (List.getElem?_eq_some_iff.1 hz).1
        refine ⟨_, hs.rd 0 rfl rfl, g.he, (hcg (E126.trans hs.ext)).nth 6 rfl, _, hs.rd 0 rfl rfl, ?_⟩
        refine (hg73.e.rw.ext (E126.trans hs.ext)).nbI z0 (by omega) fun b147 o148 z' gz t147 => ?_
        rw [hz] at gz; cases gz
        refine ⟨_, _, _, t147.sub 1 3 rfl, ?_⟩
        refine hs.put 1 rfl (o := 0) (vs := [.int .i64 z.a, .int .i64 z.b, .int .i64 z.l]) rfl (show 3 ≤ 3 by decide) fun h152 hs => ?_
        exact ⟨g.ht.n - (i + 1), by omega, i + 1, z.a, z.b, z.l, by rw [w64 (by omega) (by omega)]; omega, by omega, rfl, .inr ⟨t, List.mem_of_getElem? gt, c3, rfl, z, hz, rfl, rfl⟩, hs.drop 1⟩
      · exact ⟨g.ht.n - (i + 1), by omega, i + 1, A1, B, l1, by rw [w64 (by omega) (by omega)]; omega, by omega, rfl, hTk.skip gt c3, hs.drop 1⟩
    replace c2 := lt_f c2
    have hTk' : (T = 0 ∧ ∀ t ∈ g.ts, t.s ≠ q) ∨ ∃ t ∈ g.ts, t.s = q ∧ T = t.k ∧ ∃ x, g.es[t.e.toNat]? = some x ∧ B = x.b ∧ l1 = x.l := by
      rcases hTk with ⟨h1, h2⟩ | h1
      · refine .inl ⟨h1, fun t ht => ?_⟩
        obtain ⟨j, hj⟩ := List.mem_iff_getElem?.1 ht
        exact h2 j t (by have := (List.getElem?_eq_some_iff.1 hj).1; omega) hj
      · exact .inr h1
    clear hTk
    refine ⟨sl, (hcm (E126.trans hs.ext)).nth 5 rfl, ?_⟩
    refine ⟨fun O x h' μ => ∃ (i : Nat), x = i ∧ i ≤ sl.n ∧ μ = sl.n - i ∧ OwI m A i O ∧ St h126 h' [.blk h126.size [.int .i64 A1, .int .i64 B, .int .i64 l1] 53], ⟨_, 0, rfl, by omega, rfl, .inl ⟨rfl, fun j t hj => by omega⟩, hs⟩, ?_⟩
    clear hs
    rintro - O _ h161 μ ⟨i, rfl, hi, rfl, hOw, hs⟩
    refine sB_intro (fun c3 => ?_) (fun c3 => ?_)
    · replace c3 := lt_t c3
      refine (hMm.pl.rw.ext (E126.trans hs.ext)).nbI (by omega) (by omega) fun b162 o163 t gt t162 => ?_
      replace gt : m.li[i]? = some t := gt
      refine ⟨_, _, _, t162, ?_⟩
      refine hs.newput (vs := t.cs) rfl rfl fun h168 hs => ?_
      refine ⟨_, hs.rd 0 rfl rfl, sBe (fun c4 => ?_) (fun c4 => ?_)⟩
      · obtain ⟨t0, ht0, hts, htk, y, z, hy, hz, y1, y2, y3⟩ := hCh.li t (List.mem_of_getElem? gt) c4
        have hgl := hG.li t (List.mem_of_getElem? gt)
        refine ⟨_, hs.rd 0 rfl rfl, sm, (hcm (E126.trans hs.ext)).nth 4 rfl, _, hs.rd 0 rfl rfl, ?_⟩
        refine (hMm.pm.rw.ext (E126.trans hs.ext)).nbI hgl.2.2.1 (by omega) fun b173 o174 y' gy t173 => ?_
        rw [hy] at gy; cases gy
        refine ⟨_, _, _, _, _, _, t173, ?_⟩
        refine hs.newput (vs := y.cs) rfl rfl fun h182 hs => ?_
        have hBl : B = z.b ∧ l1 = z.l := by
          rcases hTk' with ⟨_, h2⟩ | ⟨t1, ht1, hts1, _, x1, hx1, hB1, hl1⟩
          · exact absurd hts (h2 t0 ht0)
          · have e := tim_uniq hT ht1 ht0 (by omega)
            subst e
            rw [hz] at hx1; cases hx1
            exact ⟨hB1, hl1⟩
        refine ⟨_, hs.rd 0 rfl rfl, sB_f (by rw [y1]; rfl) ?_⟩
        refine ⟨_, hs.rd 0 rfl rfl, _, hs.rd 2 rfl rfl, sBn (fun c5 => absurd (by rw [y2, hBl.1]) c5) (fun _ => ?_)⟩
        refine ⟨_, hs.rd 0 rfl rfl, _, hs.rd 2 rfl rfl, sBn (fun c5 => absurd (by rw [y3, hBl.2]) c5) (fun _ => ?_)⟩
        exact ⟨sl.n - (i + 1), by omega, i + 1, by rw [w64 (by omega) (by omega)]; omega, by omega, rfl, .inr ⟨t, List.mem_of_getElem? gt, c4, rfl⟩, hs.drop 2⟩
      · exact ⟨sl.n - (i + 1), by omega, i + 1, by rw [w64 (by omega) (by omega)]; omega, by omega, rfl, hOw.skip gt c4, hs.drop 1⟩
    replace c3 := lt_f c3
    have hOT : O = T := by
      rcases hOw with ⟨h1, h2⟩ | ⟨t, ht, hts, hO⟩
      · rcases hTk' with ⟨h3, _⟩ | ⟨t1, ht1, hts1, _⟩
        · omega
        · obtain ⟨t, ht, hts, _⟩ := hCh.l2 t1 ht1 hts1
          obtain ⟨j, hj⟩ := List.mem_iff_getElem?.1 ht
          exact absurd hts (h2 j t (by have := (List.getElem?_eq_some_iff.1 hj).1; omega) hj)
      · obtain ⟨t0, ht0, hts0, htk, _⟩ := hCh.li t ht hts
        rcases hTk' with ⟨_, h4⟩ | ⟨t1, ht1, hts1, hT1, _⟩
        · exact absurd hts0 (h4 t0 ht0)
        · have e := tim_uniq hT ht1 ht0 (by omega)
          subst e; omega
    have E161 := E126.trans hs.ext
    have E126_161 := hs.ext
    clear hs
    refine ⟨fun x h' μ => ∃ (i : Nat), x = i ∧ i ≤ l.n ∧ μ = l.n - i ∧ Ext h161 h', ⟨_, 0, rfl, by omega, rfl, .rfl'⟩, ?_⟩
    rintro - _ h194 μ ⟨i, rfl, hi, rfl, E194⟩
    refine sB_intro (fun c4 => ?_) (fun c4 => ?_)
    · replace c4 := lt_t c4
      have E194' := E161.trans E194
      refine (hl.ext E194').nbI (by omega) (by omega) fun b195 o196 d gd t195 => ?_
      replace gd : (natI (outG g.es q))[i]? = some d := gd
      obtain ⟨k, hk, rfl⟩ := natI_get gd
      have hkm := List.mem_of_getElem? hk
      obtain ⟨x, hxk, hxf⟩ := outG_mem.1 hkm
      have hkl := (List.getElem?_eq_some_iff.1 hxk).1
      refine ⟨_, t195.nth 0 rfl, g.he, (hcg E194').nth 6 rfl, ?_⟩
      refine (hg73.e.rw.ext E194').nbI (by omega) (by omega) fun b199 o200 x' gx t199 => ?_
      replace gx : g.es[k]? = some x' := gx
      rw [hxk] at gx; cases gx
      refine ⟨_, _, _, _, _, _, t199, ?_⟩
      refine (St.refl h194).newput (vs := x.cs) rfl rfl fun h208 hs => ?_
      obtain ⟨n0, hn0, y0, hy0, z1, z2, z3, z4⟩ := hCh.mv k hkm x hxk
      obtain ⟨j0, hj0⟩ := List.mem_iff_getElem?.1 hn0
      refine ⟨fun F x' h' μ => ∃ (j : Nat), x' = j ∧ j ≤ mo.n ∧ μ = mo.n - j ∧ (j0 < j → F = true) ∧ St h194 h' [.blk h194.size x.cs 55], ⟨_, 0, rfl, by omega, rfl, fun h => by omega, hs⟩, ?_⟩
      clear hs
      rintro - F _ h214 μ ⟨j, rfl, hj, rfl, hF, hs⟩
      refine sB_intro (fun c5 => ?_) (fun c5 => ?_)
      · replace c5 := lt_t c5
        have E214 := E194'.trans hs.ext
        have E126_214 : Ext h126 h214 := E126_161.trans (E194.trans hs.ext)
        refine (hmo.ext E126_214).nbI (by omega) (by omega) fun b215 o216 d gd t215 => ?_
        replace gd : (natI (outIx m A))[j]? = some d := gd
        obtain ⟨n, hn, rfl⟩ := natI_get gd
        have hnl : n < m.mv.length := by
          have := List.mem_of_getElem? hn
          unfold outIx at this
          rw [List.mem_filter, List.mem_range] at this
          exact this.1
        refine ⟨_, t215.nth 0 rfl, sm, (hcm E214).nth 4 rfl, ?_⟩
        refine (hMm.pm.rw.ext E214).nbI (by omega) (by omega) fun b219 o220 y gy t219 => ?_
        replace gy : m.mv[n]? = some y := gy
        refine ⟨_, _, _, _, _, _, t219, ?_⟩
        refine hs.newput (vs := y.cs) rfl rfl fun h228 hs => ?_
        have fin : ∀ {F' : Bool}, (j0 < j + 1 → F' = true) → ∃ m', m' < mo.n - j ∧ ∃ j1 : Nat, IntKind.wrap .i64 ((j : Int) + 1) = j1 ∧ j1 ≤ mo.n ∧ m' = mo.n - j1 ∧ (j0 < j1 → F' = true) ∧ St h194 h228 [.blk h194.size x.cs 55] := fun hF' =>
          ⟨mo.n - (j + 1), by omega, j + 1, by rw [w64 (by omega) (by omega)]; omega, by omega, rfl, hF', hs.drop 1⟩
        have hit : j0 = j → y = y0 := fun e => by
          subst e
          rw [hj0] at hn; cases hn
          rw [hy0] at gy; cases gy; rfl
        refine sB_intro (fun cF => fin fun _ => rfl) (fun cF => ?_)
        have hne : ¬ j0 < j := fun h => by rw [hF h] at cF; cases cF
        refine ⟨_, hs.rd 0 rfl rfl, sB_intro (fun d1 => ?_) (fun d1 => fin fun h => by rw [hit (by omega), z1] at d1; cases d1)⟩
        refine ⟨_, hs.rd 0 rfl rfl, _, hs.rd 1 rfl rfl, sBe (fun d2 => ?_) (fun d2 => fin fun h => absurd (by rw [hit (by omega), z2]) d2)⟩
        refine ⟨_, hs.rd 0 rfl rfl, _, hs.rd 1 rfl rfl, sBe (fun d3 => ?_) (fun d3 => fin fun h => absurd (by rw [hit (by omega), z3]) d3)⟩
        exact ⟨_, hs.rd 0 rfl rfl, _, hs.rd 1 rfl rfl, fin fun h => by rw [hit (by omega), z4, beq_self_eq_true]⟩
      · replace c5 := lt_f c5
        have hj0l := (List.getElem?_eq_some_iff.1 hj0).1
        refine sB_f (by rw [hF (by omega)]; rfl) ?_
        exact ⟨l.n - (i + 1), by omega, i + 1, by rw [w64 (by omega) (by omega)]; omega, by omega, rfl, E194.trans hs.ext⟩
    · exact ⟨by rw [hOT, beq_self_eq_true], E73.trans (E161.trans E194)⟩
end Go.VC
end

section
/- Paths and views; the timing of a view; the row of a sender's state. No program here. -/
namespace Go.VC
open Go.LexS
set_option maxRecDepth 100000
theorem pth_range {g : Gl} (hV : ValidS g) {p : List Ed} {q : Int} (h : Pth g.es g.s p q) : 0 ≤ q ∧ q < g.n := by
  cases h with
  | nil => have := hV.num.n; omega
  | snoc _ hx _ => have := hV.num.R.es _ hx; omega
theorem behS_clo (g : Gl) (role : Int) (l : List Hv) : ∃ l0, behS g role l = clo g.es role l0 := by
  suffices h : ∀ (l : List Hv) (p : PSet), (∃ l0, p = clo g.es role l0) → ∃ l0, l.foldl (stepS g role) p = clo g.es role l0 from h l _ ⟨_, rfl⟩
  intro l
  induction l with
  | nil => intro p hp; exact hp
  | cons x l ih =>
    intro p _
    rw [List.foldl_cons]
    refine ih _ ?_
    unfold stepS
    split
    · exact ⟨_, rfl⟩
    · exact ⟨[], funext fun j => clo_nil.symm⟩
theorem toL_mem {es : List Ed} {role : Int} {p : PSet} {x : Ed} {e : Ev} (hx : x ∈ es) (hv : vis1 role x = some e) (h0 : 0 ≤ x.f) (h1 : x.f < 4096) (hp : p x.f.toNat = true) : x.t ∈ toL es role p e := by
  unfold toL
  refine List.mem_flatMap.2 ⟨x.f.toNat, elems_mem.2 ⟨by omega, hp⟩, List.mem_filterMap.2 ⟨⟨e, x.t⟩, ?_, if_pos rfl⟩⟩
  unfold visL
  refine List.mem_filterMap.2 ⟨x, hx, ?_⟩
  rw [if_pos (by omega), hv]; rfl
theorem pth_in {g : Gl} (hV : ValidS g) (role : Int) {p : List Ed} {q : Int} (h : Pth g.es g.s p q) : behS g role ((p.filterMap (vis1 role)).map (hvE role)) q.toNat = true := by
  have hN := hV.num.n
  induction h with
  | nil =>
    exact clo_iff.2 (.base (by rw [show ((g.s.toNat : Nat) : Int) = g.s by omega]; exact List.mem_singleton.2 rfl))
  | @snoc t p x hp hx hf ih =>
    have hr := hV.num.R.es x hx
    rw [hf.symm] at ih
    rw [List.filterMap_append, List.filterMap_cons, List.filterMap_nil]
    cases hv : vis1 role x with
    | none =>
      simp only [List.append_nil]
      obtain ⟨l0, hl0⟩ := behS_clo g role ((p.filterMap (vis1 role)).map (hvE role))
      rw [hl0] at ih ⊢
      have h1 := clo_iff.1 ih
      rw [show ((x.f.toNat : Nat) : Int) = x.f by omega] at h1
      refine clo_iff.2 ?_
      rw [show ((x.t.toNat : Nat) : Int) = x.t by omega]
      exact .step h1 ⟨x, hx, hv, rfl, rfl⟩
    | some e =>
      rw [List.map_append, List.map_cons, List.map_nil, behS_snoc]
      unfold stepS
      rw [if_pos (show (hvE role e).role = role from rfl)]
      refine clo_iff.2 (.base ?_)
      rw [show ((x.t.toNat : Nat) : Int) = x.t by omega]
      exact toL_mem hx hv hr.1 (by omega) ih
theorem run_rel {g : Gl} {role : Int} {w : Mch} {S : List PSet} (hV : ValidS g) (hR : RawV g role w S) (C : CanS (minF w) w role) (l : List Hv) : ∃ b, C.Rel (runM (minF w) l) b ∧ RelV S b (behS g role l) := by
  suffices h : ∀ n, n ≤ l.length → ∃ b, C.Rel (runM (minF w) (l.take n)) b ∧ RelV S b (behS g role (l.take n)) by
    have := h l.length (Nat.le_refl _)
    rwa [List.take_length] at this
  intro n
  induction n with
  | zero => intro _; exact ⟨w.s, C.r0, relV_start hR hV⟩
  | succ n ih =>
    intro hn
    obtain ⟨b, h1, h2⟩ := ih (by omega)
    obtain ⟨x, hx⟩ := get_some (l := l) (i := n) (by omega)
    rw [take_snoc hx, runM_snoc, behS_snoc]
    unfold stepM
    split
    · rename_i h0
      exact ⟨_, (C.rs _ _ h1 h0).2.2.2.2 x, relV_step hR hV h2 x⟩
    · rename_i h0
      refine ⟨b, h1, relV_neg h2 ?_ x⟩
      have := C.rn _ b h1
      omega
theorem rawL_keep {vw : List Nat → Option Ti} : ∀ (n : Nat) (S : List PSet) (M : List Mv) (L : List To) {M' : List Mv} {L' : List To}, rawL vw n S M L = some (M', L') →
    (∀ (k : Nat) y, M[k]? = some y → y.f < (n : Int) → M'[k]? = some y) ∧ ∃ E, L' = L ++ E ∧ ∀ t ∈ E, (n : Int) ≤ t.s
  | _, [], M, L, M', L', h => by cases h; exact ⟨fun k y hy _ => hy, [], by simp, fun t ht => by cases ht⟩
  | n, p :: S, M, L, M', L', h => by
    rw [rawL] at h
    cases hv : vw (elems p) with
    | none => rw [hv] at h; cases h
    | some x =>
      rw [hv] at h
      obtain ⟨h1, E, h2, h3⟩ := rawL_keep (n + 1) S _ _ h
      refine ⟨fun k y hy hf => h1 k y ?_ (by omega), limR n x M ++ E, by rw [h2, List.append_assoc], fun t ht => ?_⟩
      · rw [List.getElem?_map, hy]
        show some (updR n x y) = some y
        unfold updR
        rw [if_neg (fun e => by have := e.1; omega)]
      · rcases List.mem_append.1 ht with ht | ht
        · unfold limR at ht
          obtain ⟨q, _, hq⟩ := List.mem_filterMap.1 ht
          unfold limC at hq
          split at hq
          · cases hq; show (n : Int) ≤ (n : Int); omega
          · cases hq
        · have := h3 t ht; omega
theorem zip_mem {α : Type} {l : List α} {q : α × Nat} : q ∈ l.zipIdx ↔ l[q.2]? = some q.1 := by
  obtain ⟨a, i⟩ := q
  rw [List.mk_mem_zipIdx_iff_getElem?]
theorem rawL_row {vw : List Nat → Option Ti} : ∀ (n : Nat) (S : List PSet) (M : List Mv) (L : List To) {M' : List Mv} {L' : List To}, rawL vw n S M L = some (M', L') → (∀ t ∈ L, t.s < (n : Int)) →
    ∀ (i : Nat) p, S[i]? = some p → ∃ x, vw (elems p) = some x ∧ (∀ y ∈ M', y.f = ((n + i : Nat) : Int) → y.send = true → y.ag = x.ag) ∧
      (∀ t ∈ L', t.s = ((n + i : Nat) : Int) → t.k = x.k ∧ 0 < x.k ∧ ∃ y, M'[t.e.toNat]? = some y ∧ y.f = ((n + i : Nat) : Int) ∧ y.send = true ∧ y.ev = x.x) ∧
      (0 < x.k → ∀ y ∈ M', y.f = ((n + i : Nat) : Int) → y.send = true → y.ev = x.x → ∃ t ∈ L', t.s = ((n + i : Nat) : Int))
  | _, [], M, L, M', L', h, _, i, p, hp => by simp at hp
  | n, p0 :: S, M, L, M', L', h, hL, i, p, hp => by
    rw [rawL] at h
    cases hv : vw (elems p0) with
    | none => rw [hv] at h; cases h
    | some x =>
      rw [hv] at h
      replace h : rawL vw (n + 1) S (M.map (updR n x)) (L ++ limR n x M) = some (M', L') := h
      have hlim : ∀ t ∈ limR n x M, t.s = (n : Int) ∧ t.k = x.k ∧ 0 < x.k ∧ ∃ (k : Nat) (y : Mv), t.e = (k : Int) ∧ M[k]? = some y ∧ y.f = (n : Int) ∧ y.send = true ∧ y.ev = x.x := fun t ht => by
        unfold limR at ht
        obtain ⟨q, hq1, hq⟩ := List.mem_filterMap.1 ht
        unfold limC at hq
        split at hq
        · rename_i hc
          cases hq
          refine ⟨rfl, rfl, hc.2.2.1, q.2, q.1, rfl, zip_mem.1 hq1, hc.1, hc.2.1, ?_⟩
          unfold Mv.ev
          rw [hc.2.1, hc.2.2.2]
        · cases hq
      cases i with
      | succ i =>
        have ih := rawL_row (n + 1) S _ _ h (fun t ht => by
          rcases List.mem_append.1 ht with ht | ht
          · have := hL t ht; omega
          · have := (hlim t ht).1; omega) i p (by simpa using hp)
        rw [show n + 1 + i = n + (i + 1) by omega] at ih
        exact ih
      | zero =>
        have hp' : p0 = p := by simpa using hp
        subst hp'
        rw [Nat.add_zero]
        have hsk := rawL_sk (n + 1) S _ _ h
        obtain ⟨k1, E, k2, k3⟩ := rawL_keep (n + 1) S _ _ h
        have back : ∀ (k : Nat) y, M'[k]? = some y → y.f = (n : Int) → ∃ y0, M[k]? = some y0 ∧ y = updR n x y0 := fun k y hy hf => by
          have hl : k < (M.map (updR n x)).length := by
            have h1 := congrArg List.length hsk
            rw [List.length_map, List.length_map] at h1
            rw [← h1]; exact (List.getElem?_eq_some_iff.1 hy).1
          obtain ⟨y1, hy1⟩ := get_some hl
          have h2 : skM y = skM y1 := by
            have h3 := congrArg (·[k]?) hsk
            simp only [List.getElem?_map, hy, hy1] at h3
            exact Option.some.inj h3
          have h4 : y.f = y1.f := congrArg Prod.fst h2
          have h5 := k1 k y1 hy1 (by omega)
          rw [hy] at h5
          rw [List.getElem?_map] at hy1
          obtain ⟨y0, hy0, e⟩ := Option.map_eq_some_iff.1 hy1
          exact ⟨y0, hy0, by rw [e]; exact Option.some.inj h5⟩
        have forth : ∀ (k : Nat) y0, M[k]? = some y0 → y0.f = (n : Int) → M'[k]? = some (updR n x y0) := fun k y0 hy0 hf => by
          refine k1 k _ (by rw [List.getElem?_map, hy0]; rfl) ?_
          rw [(updR_same n x y0).1]; omega
        have evu : ∀ y0 : Mv, (updR n x y0).ev = y0.ev := fun y0 => by
          obtain ⟨_, h2, h3, h4, _⟩ := updR_same n x y0
          unfold Mv.ev; rw [h2, h3, h4]
        refine ⟨x, hv, fun y hy hf hsd => ?_, fun t ht hts => ?_, fun hk y hy hf hsd hev => ?_⟩
        · obtain ⟨k, hk⟩ := List.mem_iff_getElem?.1 hy
          obtain ⟨y0, hy0, e⟩ := back k y hk hf
          have hf0 : y0.f = (n : Int) := by rw [← (updR_same n x y0).1, ← e]; exact hf
          have hs0 : y0.send = true := by rw [← (updR_same n x y0).2.1, ← e]; exact hsd
          rw [e]; unfold updR; rw [if_pos ⟨hf0, hs0⟩]
        · rw [k2] at ht
          rcases List.mem_append.1 ht with ht | ht
          · rcases List.mem_append.1 ht with ht | ht
            · have := hL t ht; omega
            · obtain ⟨_, a2, a3, k, y, a4, a5, a6, a7, a8⟩ := hlim t ht
              refine ⟨a2, a3, updR n x y, by rw [a4]; exact forth k y a5 a6, ?_, ?_, by rw [evu]; exact a8⟩
              · rw [(updR_same n x y).1]; exact a6
              · rw [(updR_same n x y).2.1]; exact a7
          · have := k3 t ht; omega
        · obtain ⟨k, hk2⟩ := List.mem_iff_getElem?.1 hy
          obtain ⟨y0, hy0, e⟩ := back k y hk2 hf
          have hf0 : y0.f = (n : Int) := by rw [← (updR_same n x y0).1, ← e]; exact hf
          have hs0 : y0.send = true := by rw [← (updR_same n x y0).2.1, ← e]; exact hsd
          have he0 : y0.ev = x.x := by rw [← evu, ← e]; exact hev
          refine ⟨⟨n, x.k, k⟩, ?_, rfl⟩
          rw [k2]
          refine List.mem_append_left _ (List.mem_append_right _ ?_)
          unfold limR
          refine List.mem_filterMap.2 ⟨(y0, k), zip_mem.2 hy0, ?_⟩
          unfold limC
          rw [if_pos ⟨hf0, hs0, hk, by rw [← he0]; unfold Mv.ev; rw [hs0]⟩]
theorem foldV {F : Nat → List Ev} {en : Nat → Bool} {O : List Bool} {T : List Ti} {l : List Nat} : ∀ (m : List Nat) (k : Bool) (o : Ti) {k' : Bool} {o' : Ti}, m.foldl (stepV F en O T l) (some (k, o)) = some (k', o') →
    (k = true → k' = true ∧ o' = o) ∧ ∀ n ∈ m, badV F en l n = false ∧ ∀ t, O[n]? = some true → T[n]? = some t → k' = true ∧ o' = t
  | [], k, o, k', o', h => by cases h; exact ⟨fun h => ⟨h, rfl⟩, fun n hn => by cases hn⟩
  | n :: m, k, o, k', o', h => by
    rw [List.foldl_cons] at h
    cases hb : badV F en l n with
    | true =>
      have e : stepV F en O T l (some (k, o)) n = none := by simp only [stepV, hb, if_true]
      rw [e, stepV_none] at h; cases h
    | false =>
      cases hO : O[n]? with
      | none =>
        have e : stepV F en O T l (some (k, o)) n = some (k, o) := by simp [stepV, hb, hO]
        rw [e] at h
        obtain ⟨h1, h2⟩ := foldV m k o h
        refine ⟨h1, fun n' hn' => ?_⟩
        rcases List.mem_cons.1 hn' with rfl | hn'
        · exact ⟨hb, fun t h3 => by rw [hO] at h3; cases h3⟩
        · exact h2 n' hn'
      | some b =>
        cases b with
        | false =>
          have e : stepV F en O T l (some (k, o)) n = some (k, o) := by simp [stepV, hb, hO]
          rw [e] at h
          obtain ⟨h1, h2⟩ := foldV m k o h
          refine ⟨h1, fun n' hn' => ?_⟩
          rcases List.mem_cons.1 hn' with rfl | hn'
          · exact ⟨hb, fun t h3 => by rw [hO] at h3; cases h3⟩
          · exact h2 n' hn'
        | true =>
          cases hT : T[n]? with
          | none =>
            have e : stepV F en O T l (some (k, o)) n = some (k, o) := by simp [stepV, hb, hO, hT]
            rw [e] at h
            obtain ⟨h1, h2⟩ := foldV m k o h
            refine ⟨h1, fun n' hn' => ?_⟩
            rcases List.mem_cons.1 hn' with rfl | hn'
            · exact ⟨hb, fun t _ h4 => by rw [hT] at h4; cases h4⟩
            · exact h2 n' hn'
          | some t =>
            have e : stepV F en O T l (some (k, o)) n = if k && decide (t ≠ o) then none else some (true, t) := by simp [stepV, hb, hO, hT]
            rw [e] at h
            split at h
            · rw [stepV_none] at h; cases h
            · rename_i hk
              obtain ⟨h1, h2⟩ := foldV m true t h
              obtain ⟨h3, h4⟩ := h1 rfl
              refine ⟨fun hkt => ⟨h3, ?_⟩, fun n' hn' => ?_⟩
              · rw [hkt, Bool.true_and, decide_eq_true_eq, Classical.not_not] at hk
                rw [h4, hk]
              · rcases List.mem_cons.1 hn' with rfl | hn'
                · exact ⟨hb, fun t' _ h6 => by rw [hT] at h6; cases h6; exact ⟨h3, h4⟩⟩
                · exact h2 n' hn'
theorem viewV_row {F : Nat → List Ev} {en : Nat → Bool} {O : List Bool} {T : List Ti} {l : List Nat} {o : Ti} (h : viewV F en O T l = some o) {n : Nat} (hn : n ∈ l) : badV F en l n = false ∧ ∀ t, O[n]? = some true → T[n]? = some t → o = t := by
  unfold viewV at h
  obtain ⟨⟨k, o'⟩, h1, h2⟩ := Option.map_eq_some_iff.1 h
  obtain ⟨_, h3⟩ := foldV l false ti0 h1
  obtain ⟨h4, h5⟩ := h3 n hn
  exact ⟨h4, fun t hO hT => by rw [← h2]; exact (h5 t hO hT).2⟩
end Go.VC
end

section
/- What a role owns at a state; the row of the view machine at a sender's state. No program here. -/
namespace Go.VC
open Go.LexS
set_option maxRecDepth 100000
theorem updT_at (T : List Ti) (n : Nat) (f : Ti → Ti) (k : Nat) : (updT T n f)[k]? = if k = n then (T[k]?).map f else T[k]? := by
  unfold updT
  split
  · rename_i t ht
    by_cases e : k = n
    · subst e
      rw [if_pos rfl, List.getElem?_set_self (List.getElem?_eq_some_iff.1 ht).1, ht]; rfl
    · rw [if_neg e, List.getElem?_set_ne (fun h => e h.symm)]
  · rename_i ht
    by_cases e : k = n
    · subst e; rw [if_pos rfl, ht]; rfl
    · rw [if_neg e]
theorem ownE_row {es : List Ed} {role : Int} {n k : Nat} (hk : k < n) : (∀ x ∈ es, 0 ≤ x.f) → (∀ x ∈ es, ¬ (x.f = (k : Int) ∧ x.a = role)) ∧ (ownE es role n).1[k]? = some false ∧ (ownE es role n).2[k]? = some ti0 ∨ ∃ x ∈ es, x.f = (k : Int) ∧ x.a = role ∧ (ownE es role n).1[k]? = some true ∧ (ownE es role n).2[k]? = some ⟨x.ag, 0, ti0.x⟩ := by
  intro hf
  unfold ownE
  suffices h : ∀ (l : List Ed) (s : List Bool × List Ti), s.1.length = n → (∀ x ∈ l, 0 ≤ x.f) → ((l.foldl (own1 role) s).1[k]? = s.1[k]? ∧ (l.foldl (own1 role) s).2[k]? = s.2[k]? ∧ ∀ x ∈ l, ¬ (x.f = (k : Int) ∧ x.a = role)) ∨ ∃ x ∈ l, x.f = (k : Int) ∧ x.a = role ∧ (l.foldl (own1 role) s).1[k]? = some true ∧ ∀ t, s.2[k]? = some t → (l.foldl (own1 role) s).2[k]? = some ⟨x.ag, t.k, t.x⟩ by
    rcases h es (List.replicate n false, List.replicate n ti0) (by rw [List.length_replicate]) hf with ⟨h1, h2, h3⟩ | ⟨x, h1, h2, h3, h4, h5⟩
    · refine .inl ⟨h3, ?_, ?_⟩
      · rw [h1, List.getElem?_replicate, if_pos hk]
      · rw [h2, List.getElem?_replicate, if_pos hk]
    · exact .inr ⟨x, h1, h2, h3, h4, h5 ti0 (by rw [List.getElem?_replicate, if_pos hk])⟩
  intro l
  induction l with
  | nil => intro s _ _; exact .inl ⟨rfl, rfl, fun x hx => by cases hx⟩
  | cons a l ih =>
    intro s hs hf
    rw [List.foldl_cons]
    have hfa := hf a (List.mem_cons_self ..)
    have hfl : ∀ x ∈ l, 0 ≤ x.f := fun x hx => hf x (List.mem_cons_of_mem _ hx)
    by_cases ha : a.a = role
    · have e : own1 role s a = (s.1.set a.f.toNat true, updT s.2 a.f.toNat fun t => { t with ag := a.ag }) := by unfold own1; rw [if_pos ha]
      rw [e]
      have hs' : (s.1.set a.f.toNat true).length = n := by rw [List.length_set]; exact hs
      by_cases hk2 : a.f = (k : Int)
      · have hkn : a.f.toNat = k := by omega
        rw [hkn] at hs' ⊢
        have g1 : (s.1.set k true)[k]? = some true := List.getElem?_set_self (by omega)
        have g2 : ∀ t, s.2[k]? = some t → (updT s.2 k fun t => { t with ag := a.ag })[k]? = some ⟨a.ag, t.k, t.x⟩ := fun t ht => by rw [updT_at, if_pos rfl, ht]; rfl
        rcases ih (s.1.set k true, updT s.2 k fun t => { t with ag := a.ag }) hs' hfl with ⟨h1, h2, h3⟩ | ⟨x, h1, h2, h3, h4, h5⟩
        · exact .inr ⟨a, List.mem_cons_self .., hk2, ha, by rw [h1]; exact g1, fun t ht => by rw [h2]; exact g2 t ht⟩
        · exact .inr ⟨x, List.mem_cons_of_mem _ h1, h2, h3, h4, fun t ht => h5 ⟨a.ag, t.k, t.x⟩ (g2 t ht)⟩
      · have hkn : ¬ k = a.f.toNat := by omega
        have g1 : (s.1.set a.f.toNat true)[k]? = s.1[k]? := List.getElem?_set_ne (by omega)
        have g2 : (updT s.2 a.f.toNat fun t => { t with ag := a.ag })[k]? = s.2[k]? := by rw [updT_at, if_neg hkn]
        rcases ih (s.1.set a.f.toNat true, updT s.2 a.f.toNat fun t => { t with ag := a.ag }) hs' hfl with ⟨h1, h2, h3⟩ | ⟨x, h1, h2, h3, h4, h5⟩
        · refine .inl ⟨by rw [h1]; exact g1, by rw [h2]; exact g2, fun x hx => ?_⟩
          rcases List.mem_cons.1 hx with rfl | hx
          · exact fun h => hk2 h.1
          · exact h3 x hx
        · exact .inr ⟨x, List.mem_cons_of_mem _ h1, h2, h3, h4, fun t ht => h5 t (by rw [g2]; exact ht)⟩
    · have e : own1 role s a = s := by unfold own1; rw [if_neg ha]
      rw [e]
      rcases ih s hs hfl with ⟨h1, h2, h3⟩ | ⟨x, h1, h2, h3, h4, h5⟩
      · refine .inl ⟨h1, h2, fun x hx => ?_⟩
        rcases List.mem_cons.1 hx with rfl | hx
        · exact fun h => ha h.2
        · exact h3 x hx
      · exact .inr ⟨x, List.mem_cons_of_mem _ h1, h2, h3, h4, h5⟩
theorem ownT_row {es : List Ed} {O : List Bool} {k : Nat} (hO : O[k]? = some true) : ∀ (l : List To) (T : List Ti) (t : Ti), (∀ u ∈ l, 0 ≤ u.s ∧ ∃ z, es[u.e.toNat]? = some z) → T[k]? = some t →
    ((∀ u ∈ l, u.s ≠ (k : Int)) ∧ (l.foldl (own2 es O) T)[k]? = some t) ∨ ∃ u ∈ l, u.s = (k : Int) ∧ ∃ z, es[u.e.toNat]? = some z ∧ (l.foldl (own2 es O) T)[k]? = some ⟨t.ag, u.k, ⟨true, z.b, z.l⟩⟩
  | [], T, t, _, ht => .inl ⟨fun u hu => (by cases hu), ht⟩
  | u :: l, T, t, hl, ht => by
    rw [List.foldl_cons]
    obtain ⟨hu0, z, hz⟩ := hl u (List.mem_cons_self ..)
    have hl' : ∀ u ∈ l, 0 ≤ u.s ∧ ∃ z, es[u.e.toNat]? = some z := fun u hu => hl u (List.mem_cons_of_mem _ hu)
    by_cases hk : u.s = (k : Int)
    · have hkn : u.s.toNat = k := by omega
      have e : own2 es O T u = updT T k fun q => ⟨q.ag, u.k, ⟨true, z.b, z.l⟩⟩ := by
        unfold own2; rw [hkn, hO, hz]
      have g : (own2 es O T u)[k]? = some ⟨t.ag, u.k, ⟨true, z.b, z.l⟩⟩ := by rw [e, updT_at, if_pos rfl, ht]; rfl
      rcases ownT_row hO l _ _ hl' g with ⟨_, h2⟩ | ⟨v, h1, h2, z', h3, h4⟩
      · exact .inr ⟨u, List.mem_cons_self .., hk, z, hz, h2⟩
      · exact .inr ⟨v, List.mem_cons_of_mem _ h1, h2, z', h3, h4⟩
    · have g : (own2 es O T u)[k]? = some t := by
        unfold own2
        split
        · rw [updT_at, if_neg (by omega)]; exact ht
        · exact ht
      rcases ownT_row hO l _ _ hl' g with ⟨h1, h2⟩ | ⟨v, h1, h2, z', h3, h4⟩
      · refine .inl ⟨fun v hv => ?_, h2⟩
        rcases List.mem_cons.1 hv with rfl | hv
        · exact hk
        · exact h1 v hv
      · exact .inr ⟨v, List.mem_cons_of_mem _ h1, h2, z', h3, h4⟩
theorem row_same {g : Gl} (hV : ValidS g) {x y : Ed} (hx : x ∈ g.es) (hy : y ∈ g.es) (e : x.f = y.f) : x.a = y.a ∧ x.ag = y.ag := by
  obtain ⟨i, hi⟩ := List.mem_iff_getElem?.1 hx
  obtain ⟨k, hk⟩ := List.mem_iff_getElem?.1 hy
  by_cases eik : i = k
  · subst eik; rw [hi] at hk; cases hk; exact ⟨rfl, rfl⟩
  · have h1 := hV.ord.p i x hi k y hk
    have h2 := hV.ord.p k y hk i x hi
    unfold PairBad at h1 h2
    have e1 : x.ag = false := by cases h : x.ag with | false => rfl | true => exact absurd (.inl ⟨eik, e, .inr (.inr h)⟩) h1
    have e2 : y.ag = false := by cases h : y.ag with | false => rfl | true => exact absurd (.inl ⟨fun h => eik h.symm, e.symm, .inr (.inr h)⟩) h2
    refine ⟨Classical.byContradiction fun h => h1 (.inl ⟨eik, e, .inr (.inl h)⟩), by rw [e1, e2]⟩
theorem row_uniq {g : Gl} (hV : ValidS g) {i k : Nat} {x y : Ed} (hi : g.es[i]? = some x) (hk : g.es[k]? = some y) (e : x.f = y.f) (hb : x.b = y.b) (hl : x.l = y.l) : i = k := by
  apply Classical.byContradiction
  intro eik
  have h1 := hV.ord.p i x hi k y hk
  unfold PairBad at h1
  have := (row_same hV (List.mem_of_getElem? hi) (List.mem_of_getElem? hk) e).1
  exact h1 (.inl ⟨eik, e, .inl ⟨this, hb, hl⟩⟩)
structure OwnR (g : Gl) (q : Int) (x : Ed) (t : Ti) : Prop where
  ag : t.ag = x.ag
  k : (∃ u ∈ g.ts, u.s = q ∧ t.k = u.k ∧ ∃ z, g.es[u.e.toNat]? = some z ∧ t.x = ⟨true, z.b, z.l⟩) ∨ (t.k = 0 ∧ ∀ u ∈ g.ts, u.s ≠ q)
theorem own_row {g : Gl} (hV : ValidS g) {role : Int} {x : Ed} (hx : x ∈ g.es) (ha : x.a = role) : ∃ t, (ownE g.es role g.n.toNat).1[x.f.toNat]? = some true ∧ (ownT g.es g.ts role g.n.toNat)[x.f.toNat]? = some t ∧ OwnR g x.f x t := by
  have hr := hV.num.R.es x hx
  have hkf : ((x.f.toNat : Nat) : Int) = x.f := by omega
  rcases ownE_row (es := g.es) (role := role) (n := g.n.toNat) (k := x.f.toNat) (by omega) (fun y hy => (hV.num.R.es y hy).1) with ⟨h1, _⟩ | ⟨y, h1, h2, h3, h4, h5⟩
  · exact absurd ⟨hkf.symm, ha⟩ (h1 x hx)
  · have hsame := (row_same hV h1 hx (by omega)).2
    have hts : ∀ u ∈ g.ts, 0 ≤ u.s ∧ ∃ z, g.es[u.e.toNat]? = some z := fun u hu => by
      obtain ⟨i, hi⟩ := List.mem_iff_getElem?.1 hu
      obtain ⟨_, z, hz, hzf, _⟩ := (hV.tim i u hi).e
      have := hV.num.R.es z (List.mem_of_getElem? hz)
      exact ⟨by omega, z, hz⟩
    unfold ownT
    rcases ownT_row h4 g.ts (ownE g.es role g.n.toNat).2 _ hts h5 with ⟨k1, k2⟩ | ⟨u, k1, k2, z, k3, k4⟩
    · exact ⟨_, h4, k2, hsame, .inr ⟨rfl, fun u hu => by have := k1 u hu; omega⟩⟩
    · exact ⟨_, h4, k4, hsame, .inl ⟨u, k1, by omega, rfl, z, k3, rfl⟩⟩
theorem first_own {g : Gl} (hV : ValidS g) {role : Int} {x : Ed} (hx : x ∈ g.es) (ha : x.a = role) (e : Ev) : e ∈ firstE g role x.f ↔ ∃ y ∈ g.es, y.f = x.f ∧ e = ⟨true, y.b, y.l⟩ := by
  have hr := hV.num.R.es x hx
  have hn := hV.num.n
  have own : ∀ y ∈ g.es, y.f = x.f → vis1 role y = some ⟨true, y.b, y.l⟩ := fun y hy hf => by
    unfold vis1; rw [if_pos (by rw [(row_same hV hy hx hf).1, ha])]
  have hq : ∀ b, Qr g.es role [x.f] b → b = x.f := fun b hb => by
    induction hb with
    | base h => exact List.mem_singleton.1 h
    | step _ hstep ih =>
      obtain ⟨y, hy, hv, hf, _⟩ := hstep
      rw [own y hy (by omega)] at hv; cases hv
  unfold firstE evs
  rw [sortE_mem]
  unfold evL
  rw [List.mem_flatMap]
  constructor
  · rintro ⟨n, hn1, hn2⟩
    obtain ⟨a, ha1, rfl⟩ := List.mem_map.1 hn2
    have hnx := hq _ (clo_iff.1 (elems_mem.1 hn1).2)
    unfold visL at ha1
    obtain ⟨y, hy, h2⟩ := List.mem_filterMap.1 ha1
    split at h2
    · rename_i hyf
      rw [own y hy (by omega)] at h2
      cases h2
      exact ⟨y, hy, by omega, rfl⟩
    · cases h2
  · rintro ⟨y, hy, hf, rfl⟩
    refine ⟨x.f.toNat, elems_mem.2 ⟨by omega, clo_iff.2 (.base (by rw [show ((x.f.toNat : Nat) : Int) = x.f by omega]; exact List.mem_singleton.2 rfl))⟩, List.mem_map.2 ⟨⟨⟨true, y.b, y.l⟩, y.t⟩, ?_, rfl⟩⟩
    unfold visL
    refine List.mem_filterMap.2 ⟨y, hy, ?_⟩
    rw [if_pos (by omega), own y hy hf]; rfl
theorem evs_own {g : Gl} (hV : ValidS g) {role : Int} {x : Ed} (hx : x ∈ g.es) (ha : x.a = role) {P : PSet} (hP : P x.f.toNat = true) {en : Nat → Bool}
    (hb : badV (fun j : Nat => firstE g role j) en (elems P) x.f.toNat = false) (hlt : ∀ j, P j = true → (j : Int) < g.n) (e : Ev) : e ∈ evs g.es role P ↔ ∃ y ∈ g.es, y.f = x.f ∧ e = ⟨true, y.b, y.l⟩ := by
  have hr := hV.num.R.es x hx
  have hn := hV.num.n
  have hxf : ((x.f.toNat : Nat) : Int) = x.f := by omega
  have hfo := first_own hV hx ha
  have hF : ∀ k ∈ elems P, firstE g role x.f = firstE g role (k : Int) := by
    have hsnd : sndAt (firstE g role ((x.f.toNat : Nat) : Int)) 0 = true := by
      rw [hxf]
      have hm : (⟨true, x.b, x.l⟩ : Ev) ∈ firstE g role x.f := (hfo _).2 ⟨x, hx, rfl, rfl⟩
      obtain ⟨e0, h0⟩ := get_some (l := firstE g role x.f) (i := 0) (List.length_pos_of_mem hm)
      unfold sndAt
      rw [h0]
      obtain ⟨y, _, _, he⟩ := (hfo e0).1 (List.mem_of_getElem? h0)
      rw [he]
    unfold badV at hb
    rw [hsnd, Bool.true_and, Bool.or_eq_false_iff, List.any_eq_false] at hb
    intro k hk
    have := hb.2 k hk
    rw [Bool.not_eq_true, Bool.or_eq_false_iff, decide_eq_false_iff_not, Classical.not_not] at this
    have h9 : firstE g role ((x.f.toNat : Nat) : Int) = firstE g role (k : Int) := this.2
    rw [hxf] at h9
    exact h9
  rw [← hfo]
  constructor
  · intro he
    obtain ⟨n, hn1, hn2⟩ := List.mem_flatMap.1 ((sortE_mem _ _).1 he)
    rw [hF n hn1]
    refine (sortE_mem _ _).2 (List.mem_flatMap.2 ⟨n, elems_mem.2 ⟨(elems_mem.1 hn1).1, clo_iff.2 (.base (List.mem_singleton.2 rfl))⟩, hn2⟩)
  · intro he
    obtain ⟨y, hy, hf, rfl⟩ := (hfo e).1 he
    have own : vis1 role y = some ⟨true, y.b, y.l⟩ := by
      unfold vis1; rw [if_pos (by rw [(row_same hV hy hx hf).1, ha])]
    refine (sortE_mem _ _).2 (List.mem_flatMap.2 ⟨x.f.toNat, elems_mem.2 ⟨by omega, hP⟩, List.mem_map.2 ⟨⟨⟨true, y.b, y.l⟩, y.t⟩, ?_, rfl⟩⟩)
    unfold visL
    refine List.mem_filterMap.2 ⟨y, hy, ?_⟩
    rw [if_pos (by omega), own]; rfl
end Go.VC
end

section
/- The law of choices: the machine's state at a sender's state. No program here. -/
namespace Go.VC
open Go.LexS
set_option maxRecDepth 100000
theorem same_row {w : Mch} (hR : MRaw w) {Q : List Nat} (hc : CanI w (cls w).1 (cls w).2 Q.length Q (minF w).fin (minF w).mv (minF w).li) {i j : Nat} (hi : i < Q.length) (hj : j < w.n.toNat) (hq : (cls w).1[j]? = Q[i]?) :
    ((minF w).mv.filter fun y => y.f = (i : Int)).map (fun x : Mv => (x.ev, x.ag)) = (outM w j).map (fun x : Mv => (x.ev, x.ag)) ∧
    (∀ t ∈ (minF w).li, t.s = (i : Int) → ∃ t' ∈ w.li, t'.s = (j : Int) ∧ t.k = t'.k ∧ ∃ y y', (minF w).mv[t.e.toNat]? = some y ∧ w.mv[t'.e.toNat]? = some y' ∧ y.ev = y'.ev) ∧
    (∀ t' ∈ w.li, t'.s = (j : Int) → ∃ t ∈ (minF w).li, t.s = (i : Int) ∧ t.k = t'.k) := by
  have hO := hR.ok
  have hC := cls_ok hO
  have hcl := hC.cl
  obtain ⟨N, hN1, hN2, hN3⟩ := cls_stable hO
  obtain ⟨c, hqc⟩ := get_some (l := Q) (i := i) hi
  rw [hqc] at hq
  have hcC := List.mem_of_getElem? hq
  have hrep : repQ (cls w).1 Q i = idxF (cls w).1 c := by unfold repQ; rw [getD_some hqc]
  have hsn : repQ (cls w).1 Q i < w.n.toNat := by rw [hrep]; have := idxF_lt hcC; omega
  have hcs : (cls w).1[repQ (cls w).1 Q i]? = some c := by rw [hrep]; exact idxF_get hcC
  obtain ⟨p1, p2, _⟩ := keyS_parts (hN3 (repQ (cls w).1 Q i) j hsn hj (by rw [hcs, hq]))
  have one : ∀ {t0 : To}, mget (limM w.li) (repQ (cls w).1 Q i : Nat) = some t0 → ∃ t', (w.li.filter fun t => t.s = (j : Int)) = [t'] ∧ t0.k = t'.k ∧ ∀ y y', w.mv[t0.e.toNat]? = some y → w.mv[t'.e.toNat]? = some y' → y.ev = y'.ev := fun {t0} h0 => by
    rw [hR.one (repQ (cls w).1 Q i : Nat), h0] at p2
    cases hf : w.li.filter fun t => t.s = (j : Int) with
    | nil => rw [hf] at p2; cases p2
    | cons t' l =>
      rw [hf] at p2
      simp only [List.map_cons, List.map_nil, List.cons.injEq] at p2
      have hl : l = [] := by
        have := p2.2.symm
        exact List.map_eq_nil_iff.1 this
      subst hl
      have hs := p2.1
      unfold sgL at hs
      injection hs with _ _ e3 _ e5
      refine ⟨t', rfl, e5, fun y y' hy hy' => ?_⟩
      rw [hy, hy'] at e3; exact e3
  have lim2 : ∀ t ∈ (minF w).li, t.s = (i : Int) → ∃ t' ∈ w.li, t'.s = (j : Int) ∧ t.k = t'.k ∧ ∃ y y', (minF w).mv[t.e.toNat]? = some y ∧ w.mv[t'.e.toNat]? = some y' ∧ y.ev = y'.ev := fun t ht hts => by
    obtain ⟨i', x, _, g1, _, _, g4, t0, y, g5, g6, g7, g8⟩ := hc.p1 t ht
    have hii : i' = i := by omega
    subst hii
    obtain ⟨t', hf, hk, hev⟩ := one g5
    have htm : t' ∈ w.li.filter fun t => t.s = (j : Int) := by rw [hf]; exact List.mem_singleton.2 rfl
    rw [List.mem_filter, decide_eq_true_eq] at htm
    obtain ⟨y', hy', _⟩ := hR.l1 t' htm.1
    refine ⟨t', htm.1, htm.2, by omega, _, y', g4, hy', ?_⟩
    rw [← hev y y' g6 hy', ← g8]; rfl
  refine ⟨?_, lim2, fun t' ht hts => ?_⟩
  · rw [can_row hc hi, List.map_map]
    have h1 : ((fun x : Mv => (x.ev, x.ag)) ∘ mvQ (cls w).1 Q i) = fun x : Mv => (x.ev, x.ag) := rfl
    rw [h1]
    have h2 := congrArg (List.map fun s : Sg => (s.x, s.ag)) p1
    rw [List.map_map, List.map_map] at h2
    exact h2
  · have htm : t' ∈ w.li.filter fun t => t.s = (j : Int) := List.mem_filter.2 ⟨ht, by rw [decide_eq_true_eq]; exact hts⟩
    have hone := hR.one (repQ (cls w).1 Q i : Nat)
    cases h0 : mget (limM w.li) (repQ (cls w).1 Q i : Nat) with
    | none =>
      rw [hone, h0] at p2
      have := List.map_eq_nil_iff.1 p2.symm
      rw [this] at htm; cases htm
    | some t0 =>
      obtain ⟨t1, hf, hk, _⟩ := one h0
      rw [hf, List.mem_singleton] at htm
      subst htm
      have h0m := limM_mem (mget_mem h0)
      obtain ⟨y0, hy0, hyf⟩ := hR.l1 t0 h0m.1
      obtain ⟨t, ht2, hts2⟩ := hc.p2 i hi t0 y0 h0 hy0 ⟨y0, by unfold outM; exact List.mem_filter.2 ⟨List.mem_of_getElem? hy0, by simp only [decide_eq_true_eq]; rw [hyf]; exact h0m.2⟩, rfl⟩
      obtain ⟨t2, h3, h4, h5, _⟩ := lim2 t ht2 hts2
      have h6 : t2 ∈ w.li.filter fun t => t.s = (j : Int) := List.mem_filter.2 ⟨h3, by rw [decide_eq_true_eq]; exact h4⟩
      rw [hf, List.mem_singleton] at h6
      subst h6
      exact ⟨t, ht2, hts2, h5⟩
def evK (es : List Ed) (k : Nat) : Ev := match es[k]? with | some y => ⟨true, y.b, y.l⟩ | none => ⟨false, 0, 0⟩
theorem choice_ok {g : Gl} (hg1 : g.rs.length ≤ 1048576) (hg2 : g.ds.length ≤ 1048576) (hV : ValidS g) {role : Int} {w : Mch} {p : List Ed} {q : Int} {k : Nat} {x : Ed} (hw : raw g role = (some w, 0)) (hP : Pth g.es g.s p q) (hk : k ∈ outG g.es q) (hx : g.es[k]? = some x) (ha : x.a = role) :
    0 ≤ runM (minF w) ((p.filterMap (vis1 role)).map (hvE role)) ∧ ChS g q (minF w) (runM (minF w) ((p.filterMap (vis1 role)).map (hvE role))) := by
  have hMR := raw_raw hg1 hg2 hw
  have hro := raw_role hw
  obtain ⟨_, S, hR, M, hrl⟩ := raw_v hw
  subst hro
  obtain ⟨Q, hc, C, hrel⟩ := cansQ hMR
  have hqr := pth_range hV hP
  have hn := hV.num.n
  have hxf : x.f = q := by obtain ⟨x', hx', hf⟩ := outG_mem.1 hk; rw [hx] at hx'; cases hx'; exact hf
  have hxm := List.mem_of_getElem? hx
  have hin := pth_in hV w.role hP
  generalize hH : (p.filterMap (vis1 w.role)).map (hvE w.role) = H at *
  obtain ⟨b, h1, h2⟩ := run_rel hV hR C H
  obtain ⟨v1, _⟩ := relV_fin hR h2
  have hb0 : 0 ≤ b := v1.2 ⟨_, hin⟩
  have hA0 := C.rn _ b h1 hb0
  refine ⟨hA0, ?_⟩
  generalize hA : runM (minF w) H = A at *
  rcases h2 with ⟨h2, _⟩ | ⟨j0, hbj, hSj, _⟩
  · omega
  rcases hrel A b h1 with ⟨h3, _⟩ | ⟨i, j, hAi, hbj2, hi, hj, hq⟩
  · omega
  have hjj : j0 = j := by omega
  subst hjj
  obtain ⟨r1, r2, r3⟩ := same_row hMR hc hi hj hq
  obtain ⟨ti, hvw, ra, rb, rc⟩ := rawL_row 0 S M [] hrl (fun t ht => by cases ht) j0 _ hSj
  rw [Nat.zero_add] at ra rb rc
  have hlt := behS_lt hV (role := w.role) H
  have hPq : behS g w.role H x.f.toNat = true := by rw [hxf]; exact hin
  have hmem : x.f.toNat ∈ elems (behS g w.role H) := elems_mem.2 ⟨by omega, hPq⟩
  obtain ⟨hbad, htim⟩ := viewV_row hvw hmem
  obtain ⟨t, hO, hT, hown⟩ := own_row hV hxm ha
  have hti := htim t hO hT
  subst hti
  have hevs := evs_own hV hxm ha hPq hbad hlt
  have rowe : ∀ m ∈ outM w j0, m.ev ∈ evs g.es w.role (behS g w.role H) := fun m hm => by
    obtain ⟨h5, h6⟩ := outM_f hm
    obtain ⟨r, p', a1, _, a3, a4, _⟩ := hR.a m h5
    have : r = j0 := by omega
    subst this
    rw [hSj] at a3; cases a3
    exact a4
  have rowb : ∀ e ∈ evs g.es w.role (behS g w.role H), ∃ m ∈ outM w j0, m.ev = e := fun e he => by
    obtain ⟨m, h5, h6, h7⟩ := hR.b j0 _ hSj e he
    exact ⟨m, by unfold outM; exact List.mem_filter.2 ⟨h5, by rw [decide_eq_true_eq]; exact h6⟩, h7⟩
  have snd : ∀ m ∈ outM w j0, m.send = true := fun m hm => by
    obtain ⟨y, _, _, he⟩ := (hevs m.ev).1 (rowe m hm)
    exact congrArg Ev.send he
  have hlenr : (outM w j0).length = (outG g.es q).length := by
    have n1 : ((outM w j0).map Mv.ev).Nodup := by
      unfold List.Nodup
      rw [List.pairwise_map]
      refine (outM_sorted hMR.so j0).imp_of_mem fun {a b} ha hb hab => ?_
      have fa := (outM_f ha).2
      have fb := (outM_f hb).2
      intro e
      rcases hab with h | ⟨_, h⟩
      · omega
      · rw [e] at h; exact evLt_irr _ h
    have n2 : ((outG g.es q).map (evK g.es)).Nodup := by
      unfold List.Nodup
      rw [List.pairwise_map]
      have nd : (outG g.es q).Nodup := List.Nodup.sublist List.filter_sublist List.nodup_range
      refine List.Pairwise.imp_of_mem (fun {a b} ha hb hab => ?_) nd
      obtain ⟨ya, hya, fa⟩ := outG_mem.1 ha
      obtain ⟨yb, hyb, fb⟩ := outG_mem.1 hb
      intro e
      unfold evK at e
      rw [hya, hyb] at e
      exact hab (row_uniq hV hya hyb (by omega) (congrArg Ev.peer e) (congrArg Ev.label e))
    have hperm := (List.perm_ext_iff_of_nodup n1 n2).2 fun e => by
      rw [List.mem_map, List.mem_map]
      constructor
      · rintro ⟨m, hm, rfl⟩
        obtain ⟨y, hy, hyf, he⟩ := (hevs m.ev).1 (rowe m hm)
        obtain ⟨k', hk'⟩ := List.mem_iff_getElem?.1 hy
        exact ⟨k', outG_mem.2 ⟨y, hk', by omega⟩, by unfold evK; rw [hk', he]⟩
      · rintro ⟨k', hk', rfl⟩
        obtain ⟨y, hy, hyf⟩ := outG_mem.1 hk'
        exact rowb _ ((hevs _).2 ⟨y, List.mem_of_getElem? hy, by omega, by unfold evK; rw [hy]⟩)
    have := hperm.length_eq
    rwa [List.length_map, List.length_map] at this
  subst hAi
  refine ⟨?_, fun k' hk' x' hx' => ?_, fun t0 ht0 hts => ?_, fun u hu hus => ?_⟩
  · rw [outIx_len]
    have := congrArg List.length r1
    rw [List.length_map, List.length_map] at this
    omega
  · obtain ⟨y', hy', hyf⟩ := outG_mem.1 hk'
    rw [hx'] at hy'; cases hy'
    have hxm' := List.mem_of_getElem? hx'
    obtain ⟨m, hm, he⟩ := rowb ⟨true, x'.b, x'.l⟩ ((hevs _).2 ⟨x', hxm', by omega, rfl⟩)
    obtain ⟨hm1, hm2⟩ := outM_f hm
    have hag : m.ag = x'.ag := by
      rw [ra m hm1 hm2 (snd m hm), hown.ag]
      exact (row_same hV hxm hxm' (by omega)).2
    have hin2 : (m.ev, m.ag) ∈ ((minF w).mv.filter fun y => y.f = (i : Int)).map (fun x : Mv => (x.ev, x.ag)) := by
      rw [r1]; exact List.mem_map.2 ⟨m, hm, rfl⟩
    obtain ⟨y, hy, he2⟩ := List.mem_map.1 hin2
    rw [List.mem_filter, decide_eq_true_eq] at hy
    obtain ⟨n0, hn0⟩ := List.mem_iff_getElem?.1 hy.1
    have he3 : y.ev = ⟨true, x'.b, x'.l⟩ := by rw [← he]; exact congrArg Prod.fst he2
    refine ⟨n0, ?_, y, hn0, congrArg Ev.send he3, congrArg Ev.peer he3, congrArg Ev.label he3, by rw [← hag]; exact congrArg Prod.snd he2⟩
    unfold outIx
    refine List.mem_filter.2 ⟨List.mem_range.2 (List.getElem?_eq_some_iff.1 hn0).1, ?_⟩
    unfold outP; rw [hn0]; exact decide_eq_true hy.2
  · obtain ⟨t', ht', hts', htk, y, y', hy, hy', hev⟩ := r2 t0 ht0 hts
    obtain ⟨b1, b2, y2, b3, _, _, b6⟩ := rb t' ht' hts'
    rw [hy'] at b3; cases b3
    rcases hown.k with ⟨u, hu, hus, huk, z, hz, htx⟩ | ⟨hk0, _⟩
    · have he : y.ev = ⟨true, z.b, z.l⟩ := by rw [hev, b6, htx]
      exact ⟨u, hu, by omega, by omega, y, z, hy, hz, congrArg Ev.send he, congrArg Ev.peer he, congrArg Ev.label he⟩
    · omega
  · rcases hown.k with ⟨u', hu', hus', huk, z, hz, htx⟩ | ⟨_, hno⟩
    · have e := tim_uniq hV.tim hu hu' (by omega)
      subst e
      obtain ⟨iu, hiu⟩ := List.mem_iff_getElem?.1 hu
      have htm := hV.tim iu u hiu
      have hk1 := htm.k
      obtain ⟨_, z', hz', hzf, _⟩ := htm.e
      rw [hz] at hz'; cases hz'
      obtain ⟨m, hm, he⟩ := rowb ⟨true, z.b, z.l⟩ ((hevs _).2 ⟨z, List.mem_of_getElem? hz, by omega, rfl⟩)
      obtain ⟨hm1, hm2⟩ := outM_f hm
      obtain ⟨t', ht', hts'⟩ := rc (by omega) m hm1 hm2 (snd m hm) (by rw [he, htx])
      obtain ⟨b1, _⟩ := rb t' ht' hts'
      obtain ⟨t2, h5, h6, h7⟩ := r3 t' ht' hts'
      exact ⟨t2, h5, h6, by omega⟩
    · exact absurd hus (by have := hno u hu; omega)
theorem end_ok {g : Gl} (hV : ValidS g) {p : List Ed} {q : Int} (h : Pth g.es g.s p q) (h0 : outG g.es q = []) : q = g.e := by
  have hr := pth_range hV h
  have := hV.bwd q hr.1 hr.2
  cases this with
  | refl => rfl
  | step _ hab =>
    obtain ⟨x, hx, _, h2⟩ := hab
    obtain ⟨k, hk⟩ := List.mem_iff_getElem?.1 hx
    have : k ∈ outG g.es q := outG_mem.2 ⟨x, hk, h2⟩
    rw [h0] at this; cases this
theorem projectChoices (g : Gl) (s : Sl) (L : List Nat) (h : Heap) (hg : GI h g) (hx : Gx h) (hM : GNm g.ds) (hL : Rw h 1 s (L.map u8C)) (hLm : L.length ≤ 1048576) (hb255 : ∀ n ∈ L, n ≤ 255) :
    Fn Go.Proofs.Tryz.prog 5 #[g.v, .slice s.a s.n s.c] h fun v h' => v = .bool true ∧ Ext h h' := by
  refine choices5 g s L h hg hx hM hL hLm hb255 (fun role w hw => ?_) (fun hV p q => end_ok hV) fun hV role w p q k x hw hP hk hxk ha => choice_ok hg.r.sm hg.d.r.sm hV hw hP hk hxk ha
  have hR := raw_raw hg.r.sm hg.d.r.sm hw
  obtain ⟨l1, l2⟩ := minF_lens hR
  have h1 := hR.ok.ml
  have h2 := hR.ok.ll
  exact ⟨by omega, by omega, l1, l2, mgood hR⟩
end Go.VC
end

section
/- What an automaton looks like in memory where all that is read is of bulk at most 1048576. -/
namespace Go.VC
open Go.Proofs Go.LexS Go.RowKit Go.ChangeShapes Go.WideShapes Go.Proofs.YtfdhgcladnbdeaaGreatDoor
set_option maxRecDepth 100000
theorem bulk_pos {H : Type} (d : DataW H) : 1 ≤ Rows.uptoBulk d := by
  cases d with
  | lit l => cases l <;> simp [Rows.uptoBulk]
  | _ => simp [Rows.uptoBulk]
theorem bulk_part {H : Type} : ∀ {l : List (DataW H)} {d : DataW H}, d ∈ l → Rows.uptoBulk d ≤ Rows.uptoBulkAll l
  | [], _, h => by cases h
  | x :: r, d, h => by
    rw [Rows.uptoBulkAll]
    rcases List.mem_cons.1 h with rfl | h
    · omega
    · have := bulk_part h; omega
theorem bulk_len {H : Type} : ∀ l : List (DataW H), l.length ≤ Rows.uptoBulkAll l
  | [] => by simp
  | x :: r => by
    have h1 := bulk_pos x
    have h2 := bulk_len r
    rw [Rows.uptoBulkAll, List.length_cons]; omega
def Rdb (P : Program) (W : World) (t : TypeId) (cs : List Value) : Prop :=
  ∃ (H : Type) (enc : TypeId × Value → H) (n : Nat) (x : DataW H × List MemPlace), DataW.trod enc P W 0 (fun _ => true) true n t cs = some x ∧ Rows.uptoBulk x.1 ≤ 1048576
theorem Rdb.rdt {P : Program} {W : World} {t : TypeId} {cs : List Value} (h : Rdb P W t cs) : Rdt P W t cs := by
  obtain ⟨H, enc, n, x, h1, _⟩ := h; exact ⟨H, enc, n, x, h1⟩
theorem rdb_of_trod {H : Type} {enc : TypeId × Value → H} {P : Program} {W : World} {t : TypeId} {v : Value} {d : DataW H} {p : List MemPlace} (h : DataW.Trod enc P W 0 (fun _ => true) true t v d p) (hw : Rows.uptoBulk d ≤ 1048576) : Rdb P W t v.cells.toList := by
  obtain ⟨n, h⟩ := h
  exact ⟨H, enc, n, _, h, hw⟩
theorem Rdb.field {P : Program} {W : World} {t ft : TypeId} {cs : List Value} {i off : Nat} (h : Rdb P W t cs) (hf : fieldAt P t i = some (ft, off)) : Rdb P W ft ((cs.drop off).take (P.cellsOf ft)) := by
  unfold fieldAt at hf
  split at hf
  · rename_i fs hu
    obtain ⟨f, h1, h2⟩ := Option.map_eq_some_iff.1 hf
    cases h2
    obtain ⟨H, enc, n, x, h, hw⟩ := h
    obtain ⟨xs, m, _, hx, hl, hxl, hfi⟩ := DataW.trod_struct hu h
    have hlt : i < xs.length := by rw [hxl]; exact (Array.getElem?_eq_some_iff.1 h1).1
    refine ⟨H, enc, m, xs[i], by rw [hfi i f h1, List.getElem?_eq_getElem hlt], ?_⟩
    rw [hx, Rows.uptoBulk] at hw
    have := bulk_part (l := xs.map (·.1)) (d := xs[i].1) (List.mem_map.2 ⟨xs[i], List.getElem_mem hlt, rfl⟩)
    omega
  · cases hf
theorem Rdb.rows {P : Program} {W : World} {t e : TypeId} {cs : List Value} (ht : P.underlying t = some (.slice e)) (h : Rdb P W t cs) (hpos : 0 < P.cellsOf e) :
    ∃ (s : Sl) (rows : List (List Value)), cs = [.slice s.a s.n s.c] ∧ s.n ≤ s.c ∧ s.n ≤ 1048576 ∧ (s.a = none → s.n = 0 ∧ s.c = 0) ∧ Rw W.heap (P.cellsOf e) s rows ∧ ∀ r ∈ rows, r.length = P.cellsOf e ∧ Rdb P W e r := by
  obtain ⟨H, enc, n, x, h, hw⟩ := h
  rcases DataW.trod_slice ht h with ⟨rfl, _⟩ | ⟨a, len, cap, elems, rest, m, _, rfl, hx, _, hlc, hcm, hel, helem, _, _⟩
  · exact ⟨⟨none, 0, 0⟩, [], rfl, Nat.le_refl _, Nat.zero_le _, fun _ => ⟨rfl, rfl⟩, Rw.nil, fun r hr => by cases hr⟩
  · rw [hx, Rows.uptoBulk] at hw
    have hle : len ≤ 1048576 := by
      have := bulk_len (elems.map (·.1))
      rw [List.length_map] at this; omega
    have hwe : ∀ (i : Nat) (hi : i < elems.length), Rows.uptoBulk elems[i].1 ≤ 1048576 := fun i hi => by
      have := bulk_part (l := elems.map (·.1)) (d := elems[i].1) (List.mem_map.2 ⟨elems[i], List.getElem_mem hi, rfl⟩)
      omega
    by_cases h0 : len = 0
    · subst h0
      exact ⟨⟨some a, 0, cap⟩, [], rfl, hlc, hle, fun e => (by cases e), Rw.empty rfl, fun r hr => by cases hr⟩
    · have hrow : ∀ i, i < len → ∃ r, W.cells? 0 (a.add (i * P.cellsOf e)) (P.cellsOf e) = some r ∧ Rdb P W e r := by
        intro i hi
        have h1 := helem i hi
        rw [List.getElem?_eq_getElem (by omega)] at h1
        obtain ⟨r, hr, hx2⟩ := Option.bind_eq_some_iff.1 h1
        exact ⟨r, hr, H, enc, m, _, hx2, hwe i (by omega)⟩
      let row : Nat → List Value := fun i => (W.cells? 0 (a.add (i * P.cellsOf e)) (P.cellsOf e)).getD []
      have hrow' : ∀ i, i < len → W.cells? 0 (a.add (i * P.cellsOf e)) (P.cellsOf e) = some (row i) ∧ Rdb P W e (row i) := fun i hi => by
        obtain ⟨r, hr, hx⟩ := hrow i hi
        have : row i = r := by show (W.cells? 0 _ _).getD [] = r; rw [hr]; rfl
        rw [this]; exact ⟨hr, hx⟩
      have hget : ∀ i, i < len → ((List.range len).map row)[i]? = some (row i) := fun i hi => by
        rw [List.getElem?_map, List.getElem?_range hi]; rfl
      have hspot : a = ⟨a.block, a.off, none⟩ := by
        have hc := (cells_at (hrow' 0 (by omega)).1)
        have hl0 : 0 < (row 0).length := by rw [hc.1]; exact hpos
        have := hc.2 0 _ (List.getElem?_eq_getElem hl0)
        rw [Nat.zero_mul, show (a.add 0).add 0 = a from rfl] at this
        unfold World.cell? at this
        split at this
        · split at this
          · cases this
          · rename_i hs
            cases a with
            | mk b o s =>
              cases s with
              | none => rfl
              | some s => exact absurd rfl hs
        · cases this
      refine ⟨⟨some a, len, cap⟩, (List.range len).map row, rfl, hlc, hle, fun e => (by cases e), ⟨by simp, fun _ => ⟨a.block, a.off, by rw [← hspot], fun i r hi j v hj => ?_⟩⟩, fun r hr => ?_⟩
      · have hil : i < len := by have := (List.getElem?_eq_some_iff.1 hi).1; simpa using this
        rw [hget i hil] at hi; cases hi
        have h4 := (cells_at (hrow' i hil).1).2 _ _ hj
        rw [hspot] at h4
        have e : ((⟨a.block, a.off, none⟩ : Addr).add (i * P.cellsOf e)).add j = addk ⟨a.block, a.off + i * P.cellsOf e, none⟩ j := by
          rw [addk_at, add_n, add_n]
        rw [e] at h4
        exact h4
      · obtain ⟨i, hi, rfl⟩ := List.mem_map.1 hr
        have := hrow' i (List.mem_range.1 hi)
        exact ⟨(cells_at this.1).1, this.2⟩
theorem Rdb.list {α : Type} {P : Program} {W : World} {t e : TypeId} {k : Nat} {v : Value} {cs : α → List Value} {Q : α → Prop} (ht : P.underlying t = some (.slice e)) (hk : P.cellsOf e = k) (hpos : 0 < k)
    (ho : ∀ r, Rdb P W e r → ∃ x, r = cs x ∧ Q x) (h : Rdb P W t [v]) : ∃ (s : Sl) (L : List α), v = .slice s.a s.n s.c ∧ RL W.heap k s cs L ∧ ∀ x ∈ L, Q x := by
  subst hk
  obtain ⟨s, rows, e1, hc, hm, hna, hrw, hr⟩ := h.rows ht hpos
  have key : ∀ rows : List (List Value), (∀ r ∈ rows, r.length = P.cellsOf e ∧ Rdb P W e r) → ∃ L : List α, rows = L.map cs ∧ ∀ x ∈ L, Q x := by
    intro rows
    induction rows with
    | nil => intro _; exact ⟨[], rfl, fun x hx => by cases hx⟩
    | cons r rows ih =>
      intro h
      obtain ⟨x, hx, hq⟩ := ho r (h r (by simp)).2
      obtain ⟨L, hL, hQ⟩ := ih fun y hy => h y (List.mem_cons_of_mem _ hy)
      exact ⟨x :: L, by rw [hx, hL]; rfl, fun y hy => by rcases List.mem_cons.1 hy with rfl | hy; exact hq; exact hQ y hy⟩
  obtain ⟨L, rfl, hQ⟩ := key rows hr
  have hn := hrw.ln
  exact ⟨s, L, by simpa using e1, ⟨hrw, hc, hna, by omega⟩, hQ⟩
theorem v3 : Tryz.prog.underlying 3 = some (.int .i64) := by kernel_rfl
theorem v4b : Tryz.prog.underlying 4 = some .bool := by kernel_rfl
theorem v9 : Tryz.prog.underlying 9 = some .string := by kernel_rfl
theorem cz3 : Tryz.prog.cellsOf 3 = 1 := by kernel_rfl
theorem cz4 : Tryz.prog.cellsOf 4 = 1 := by kernel_rfl
theorem cz9 : Tryz.prog.cellsOf 9 = 1 := by kernel_rfl
theorem cz22 : Tryz.prog.cellsOf 22 = 1 := by kernel_rfl
theorem cz23 : Tryz.prog.cellsOf 23 = 1 := by kernel_rfl
theorem cz24 : Tryz.prog.cellsOf 24 = 1 := by kernel_rfl
theorem cz25 : Tryz.prog.cellsOf 25 = 1 := by kernel_rfl
theorem cz27 : Tryz.prog.cellsOf 27 = 8 := by kernel_rfl
theorem cz53 : Tryz.prog.cellsOf 53 = 3 := by kernel_rfl
theorem cz55 : Tryz.prog.cellsOf 55 = 6 := by kernel_rfl
theorem cz63 : Tryz.prog.cellsOf 63 = 3 := by kernel_rfl
theorem cz130 : Tryz.prog.cellsOf 130 = 1 := by kernel_rfl
theorem cz131 : Tryz.prog.cellsOf 131 = 1 := by kernel_rfl
theorem cz132 : Tryz.prog.cellsOf 132 = 1 := by kernel_rfl
theorem cz134 : Tryz.prog.cellsOf 134 = 2 := by kernel_rfl
theorem cz136 : Tryz.prog.cellsOf 136 = 5 := by kernel_rfl
theorem cz182 : Tryz.prog.cellsOf 182 = 3 := by kernel_rfl
theorem cz184 : Tryz.prog.cellsOf 184 = 4 := by kernel_rfl
theorem cz187 : Tryz.prog.cellsOf 187 = 3 := by kernel_rfl
theorem cz189 : Tryz.prog.cellsOf 189 = 2 := by kernel_rfl
theorem vs22 : Tryz.prog.underlying 22 = some (.slice 9) := by kernel_rfl
theorem vs23 : Tryz.prog.underlying 23 = some (.slice 136) := by kernel_rfl
theorem vs24 : Tryz.prog.underlying 24 = some (.slice 55) := by kernel_rfl
theorem vs25 : Tryz.prog.underlying 25 = some (.slice 63) := by kernel_rfl
theorem vs130 : Tryz.prog.underlying 130 = some (.slice 184) := by kernel_rfl
theorem vs131 : Tryz.prog.underlying 131 = some (.slice 187) := by kernel_rfl
theorem vs132 : Tryz.prog.underlying 132 = some (.slice 189) := by kernel_rfl
theorem va189 : Tryz.prog.underlying 189 = some (.array 2 3) := by kernel_rfl
theorem Rdb.str {P : Program} {W : World} {t : TypeId} {cs : List Value} (ht : P.underlying t = some .string) (h : Rdb P W t cs) : ∃ s : ByteArray, cs = [.string s] ∧ s.size ≤ 1048576 := by
  obtain ⟨H, enc, n, x, h, hw⟩ := h
  obtain ⟨m, h1, hx, _⟩ := DataW.trod_string ht h
  refine ⟨m, h1, ?_⟩
  rw [hx, Rows.uptoBulk] at hw
  have e : m.data.toList.length = m.size := rfl
  omega
theorem open_name {W : World} {r : List Value} (h : Rdb Tryz.prog W 9 r) : ∃ x : Nm, r = nmC x ∧ True := by
  obtain ⟨s, e, _⟩ := h.rdt.str v9
  exact ⟨s.data.toList, by rw [e]; rfl, trivial⟩
theorem open_field {W : World} {r : List Value} (h : Rdb Tryz.prog W 184 r) : ∃ x : Fld, r = x.cs ∧ True := by
  have hl := h.rdt.flen (i := 0) (ft := 9) (off := 0) (by kernel_rfl)
  rw [cz184] at hl
  match r, hl with
  | [x0, x1, x2, x3], _ =>
    have f0 := h.rdt.field (i := 0) (ft := 9) (off := 0) (by kernel_rfl)
    have f1 := h.rdt.field (i := 1) (ft := 182) (off := 1) (by kernel_rfl)
    rw [cz9] at f0
    rw [cz182] at f1
    have g0 := f1.field (i := 0) (ft := 3) (off := 0) (by kernel_rfl)
    have g1 := f1.field (i := 1) (ft := 3) (off := 1) (by kernel_rfl)
    have g2 := f1.field (i := 2) (ft := 3) (off := 2) (by kernel_rfl)
    rw [cz3] at g0 g1 g2
    obtain ⟨s, e0, _⟩ := f0.str v9
    obtain ⟨k1, e1, _⟩ := g0.int v3
    obtain ⟨k2, e2, _⟩ := g1.int v3
    obtain ⟨k3, e3, _⟩ := g2.int v3
    simp only [List.drop_zero, List.take_succ_cons, List.take_zero, List.drop_succ_cons, List.cons.injEq, and_true] at e0 e1 e2 e3
    subst e0 e1 e2 e3
    exact ⟨⟨s.data.toList, k1, k2, k3⟩, rfl, trivial⟩
theorem open_three {W : World} {t : TypeId} {r : List Value} (hc : Tryz.prog.cellsOf t = 3) (h0 : fieldAt Tryz.prog t 0 = some (3, 0)) (h1 : fieldAt Tryz.prog t 1 = some (3, 1)) (h2 : fieldAt Tryz.prog t 2 = some (3, 2)) (h : Rdt Tryz.prog W t r) :
    ∃ a b c : Int, r = [.int .i64 a, .int .i64 b, .int .i64 c] := by
  have hl := h.flen h0
  rw [hc] at hl
  match r, hl with
  | [x0, x1, x2], _ =>
    have f0 := h.field h0
    have f1 := h.field h1
    have f2 := h.field h2
    rw [cz3] at f0 f1 f2
    obtain ⟨k0, e0, _⟩ := f0.int v3
    obtain ⟨k1, e1, _⟩ := f1.int v3
    obtain ⟨k2, e2, _⟩ := f2.int v3
    simp only [List.drop_zero, List.take_succ_cons, List.take_zero, List.drop_succ_cons, List.cons.injEq, and_true] at e0 e1 e2
    subst e0 e1 e2
    exact ⟨k0, k1, k2, rfl⟩
theorem open_diff {W : World} {r : List Value} (h : Rdb Tryz.prog W 187 r) : ∃ x : Df, r = x.cs ∧ True := by
  obtain ⟨a, b, c, e⟩ := open_three cz187 (by kernel_rfl) (by kernel_rfl) (by kernel_rfl) h.rdt
  exact ⟨⟨a, b, c⟩, e, trivial⟩
theorem open_timeout {W : World} {r : List Value} (h : Rdb Tryz.prog W 63 r) : ∃ x : To, r = x.cs ∧ True := by
  obtain ⟨a, b, c, e⟩ := open_three cz63 (by kernel_rfl) (by kernel_rfl) (by kernel_rfl) h.rdt
  exact ⟨⟨a, b, c⟩, e, trivial⟩
theorem open_pair {W : World} {r : List Value} (h : Rdb Tryz.prog W 189 r) : ∃ x : Eqs, r = x.cs ∧ True := by
  obtain ⟨hl, ha⟩ := h.rdt.array va189
  rw [cz189] at hl
  rw [cz3] at ha
  match r, hl with
  | [x0, x1], _ =>
    obtain ⟨k0, e0, _⟩ := (ha 0 (by omega)).int v3
    obtain ⟨k1, e1, _⟩ := (ha 1 (by omega)).int v3
    simp only [Nat.zero_mul, Nat.one_mul, List.drop_zero, List.take_succ_cons, List.take_zero, List.drop_succ_cons, List.cons.injEq, and_true] at e0 e1
    subst e0 e1
    exact ⟨⟨k0, k1⟩, rfl, trivial⟩
theorem open_edge {W : World} {r : List Value} (h : Rdb Tryz.prog W 55 r) : ∃ x : Ed, r = x.cs ∧ True := by
  have hl := h.rdt.flen (i := 0) (ft := 3) (off := 0) (by kernel_rfl)
  rw [cz55] at hl
  match r, hl with
  | [x0, x1, x2, x3, x4, x5], _ =>
    have f0 := h.rdt.field (i := 0) (ft := 3) (off := 0) (by kernel_rfl)
    have f1 := h.rdt.field (i := 1) (ft := 53) (off := 1) (by kernel_rfl)
    have f2 := h.rdt.field (i := 2) (ft := 3) (off := 4) (by kernel_rfl)
    have f3 := h.rdt.field (i := 3) (ft := 4) (off := 5) (by kernel_rfl)
    rw [cz3] at f0 f2
    rw [cz53] at f1
    rw [cz4] at f3
    obtain ⟨a, b, c, e1⟩ := open_three cz53 (by kernel_rfl) (by kernel_rfl) (by kernel_rfl) f1
    obtain ⟨k0, e0, _⟩ := f0.int v3
    obtain ⟨k2, e2, _⟩ := f2.int v3
    obtain ⟨k3, e3⟩ := f3.bool v4b
    simp only [List.drop_zero, List.take_succ_cons, List.take_zero, List.drop_succ_cons, List.cons.injEq, and_true] at e0 e1 e2 e3
    obtain ⟨e1a, e1b, e1c⟩ := e1
    subst e0 e1a e1b e1c e2 e3
    exact ⟨⟨k0, a, b, c, k2, k3⟩, rfl, trivial⟩
theorem open_decl {W : World} {r : List Value} (h : Rdb Tryz.prog W 136 r) : ∃ x : Dc, r = x.cs ∧ DI W.heap x ∧ x.nm.length ≤ 1048576 := by
  have hl := h.rdt.flen (i := 0) (ft := 9) (off := 0) (by kernel_rfl)
  rw [cz136] at hl
  match r, hl with
  | [x0, x1, x2, x3, x4], _ =>
    have f0 := h.field (i := 0) (ft := 9) (off := 0) (by kernel_rfl)
    have f1 := h.field (i := 1) (ft := 130) (off := 1) (by kernel_rfl)
    have f2 := h.rdt.field (i := 2) (ft := 3) (off := 2) (by kernel_rfl)
    have f3 := h.field (i := 3) (ft := 134) (off := 3) (by kernel_rfl)
    rw [cz9] at f0
    rw [cz130] at f1
    rw [cz3] at f2
    rw [cz134] at f3
    have g0 := f3.field (i := 0) (ft := 131) (off := 0) (by kernel_rfl)
    have g1 := f3.field (i := 1) (ft := 132) (off := 1) (by kernel_rfl)
    rw [cz131] at g0
    rw [cz132] at g1
    obtain ⟨s, e0, hs0⟩ := f0.str v9
    obtain ⟨sf, fs, e1, hf, _⟩ := Rdb.list vs130 cz184 (by omega) (fun r hr => open_field hr) f1
    obtain ⟨k, e2, _⟩ := f2.int v3
    obtain ⟨sd, ds, e3, hd, _⟩ := Rdb.list vs131 cz187 (by omega) (fun r hr => open_diff hr) g0
    obtain ⟨se, es, e4, he, _⟩ := Rdb.list vs132 cz189 (by omega) (fun r hr => open_pair hr) g1
    simp only [List.drop_zero, List.take_succ_cons, List.take_zero, List.drop_succ_cons, List.cons.injEq, and_true] at e0 e2
    subst e0 e1 e2 e3 e4
    exact ⟨⟨s.data.toList, sf, k, sd, se, fs, ds, es⟩, rfl, ⟨hf, hd, he⟩, hs0⟩
theorem open_global {W : World} {cs : List Value} (h : Rdb Tryz.prog W 27 cs) : ∃ g : Gl, cs = g.cs ∧ GI W.heap g ∧ ∀ d ∈ g.ds, d.nm.length ≤ 1048576 := by
  have hl := h.rdt.flen (i := 0) (ft := 9) (off := 0) (by kernel_rfl)
  rw [cz27] at hl
  match cs, hl with
  | [x0, x1, x2, x3, x4, x5, x6, x7], _ =>
    have f0 := h.rdt.field (i := 0) (ft := 9) (off := 0) (by kernel_rfl)
    have f1 := h.field (i := 1) (ft := 22) (off := 1) (by kernel_rfl)
    have f2 := h.field (i := 2) (ft := 23) (off := 2) (by kernel_rfl)
    have f3 := h.rdt.field (i := 3) (ft := 3) (off := 3) (by kernel_rfl)
    have f4 := h.rdt.field (i := 4) (ft := 3) (off := 4) (by kernel_rfl)
    have f5 := h.rdt.field (i := 5) (ft := 3) (off := 5) (by kernel_rfl)
    have f6 := h.field (i := 6) (ft := 24) (off := 6) (by kernel_rfl)
    have f7 := h.field (i := 7) (ft := 25) (off := 7) (by kernel_rfl)
    rw [cz9] at f0
    rw [cz22] at f1
    rw [cz23] at f2
    rw [cz3] at f3 f4 f5
    rw [cz24] at f6
    rw [cz25] at f7
    obtain ⟨s, e0, _⟩ := f0.str v9
    obtain ⟨sr, rs, e1, hr, _⟩ := Rdb.list vs22 cz9 (by omega) (fun r hr => open_name hr) f1
    obtain ⟨sd, ds, e2, hd, hdi⟩ := Rdb.list vs23 cz136 (by omega) (fun r hr => open_decl hr) f2
    obtain ⟨k3, e3, _⟩ := f3.int v3
    obtain ⟨k4, e4, _⟩ := f4.int v3
    obtain ⟨k5, e5, _⟩ := f5.int v3
    obtain ⟨se, es, e6, he, _⟩ := Rdb.list vs24 cz55 (by omega) (fun r hr => open_edge hr) f6
    obtain ⟨st, ts, e7, ht, _⟩ := Rdb.list vs25 cz63 (by omega) (fun r hr => open_timeout hr) f7
    simp only [List.drop_zero, List.take_succ_cons, List.take_zero, List.drop_succ_cons, List.cons.injEq, and_true] at e0 e3 e4 e5
    subst e0 e1 e2 e3 e4 e5 e6 e7
    exact ⟨⟨s.data.toList, sr, sd, k3, k4, k5, se, st, rs, ds, es, ts⟩, rfl, ⟨hr, ⟨hd, fun d hm => (hdi d hm).1⟩, he, ht⟩, fun d hm => (hdi d hm).2⟩
end Go.VC
end

section
/- What a history looks like in memory. -/
namespace Go.VC
open Go.Proofs Go.LexS Go.RowKit Go.ChangeShapes Go.WideShapes Go.Proofs.YtfdhgcladnbdeaaGreatDoor
set_option maxRecDepth 100000
end Go.VC
end

section
/- What a list of bytes looks like in memory. -/
namespace Go.VC
open Go.Proofs Go.LexS Go.RowKit Go.ChangeShapes Go.WideShapes Go.Proofs.YtfdhgcladnbdeaaGreatDoor
set_option maxRecDepth 100000
theorem cz5 : Tryz.prog.cellsOf 5 = 1 := by kernel_rfl
theorem vs47 : Tryz.prog.underlying 47 = some (.slice 5) := by kernel_rfl
theorem v5u : Tryz.prog.underlying 5 = some (.int .u8) := by kernel_rfl
theorem open_u8 {W : World} {r : List Value} (h : Rdb Tryz.prog W 5 r) : ∃ x : Nat, r = u8C x ∧ x ≤ 255 := by
  obtain ⟨n, e, hw⟩ := h.rdt.int v5u
  have h2 : 0 ≤ n ∧ n ≤ 255 := by
    have h3 : (decide (IntKind.u8.min ≤ n) && decide (n ≤ IntKind.u8.max)) = true := hw
    rw [Bool.and_eq_true] at h3
    exact ⟨of_decide_eq_true h3.1, of_decide_eq_true h3.2⟩
  exact ⟨n.toNat, by rw [e]; unfold u8C; rw [show ((n.toNat : Nat) : Int) = n by omega], by omega⟩
theorem open_u8s {W : World} {v : Value} (h : Rdb Tryz.prog W 47 [v]) : ∃ (s : Sl) (L : List Nat), v = .slice s.a s.n s.c ∧ (RL W.heap 1 s u8C L ∧ ∀ n ∈ L, n ≤ 255) := by
  obtain ⟨s, L, e, hr, hb⟩ := Rdb.list vs47 cz5 (by omega) (fun r hr => open_u8 hr) h
  exact ⟨s, L, e, hr, hb⟩
end Go.VC
end
