/- VcCore's conditions are sound: regions, in the text's order and in a drawn one. -/
import Derived.Test.YtcaahhppapnbhaaDoorVcSound4
set_option linter.unusedVariables false
set_option linter.unusedSimpArgs false

namespace Go.VC

/-- the post of a code, as the machine's -/
def Sat (n : Nat) (w0 : World) (Q : Ex → Env → Heap → Prop) : Exit → Act → World → Prop := fun e a w =>
  a.defers = [] ∧ a.tmps.size = n ∧ Fr w0 w ∧ match e with
    | .normal => Q .n (envOf a) w.heap
    | .exit i => Q (.x i) (envOf a) w.heap
    | .ret => Q .r (envOf a) w.heap
    | _ => False
theorem put_defers' {a : Act} {d : Option Nat} {v : Value} : (a.put d v).defers = a.defers := by cases d <;> rfl

theorem does_wp {P : Program} {o : Oper} {a : Act} {w : World} {K : Value → Heap → Prop} {next : Act → World → Prop} {Q : Exit → Act → World → Prop}
    (h : Does P w ((execOp (evl (envOf a)) o).run P w) K) (hn : ∀ v w', K v w'.heap → Fr w w' → next (a.put o.dst v) w') : o.wp P a w next Q := by
  unfold Oper.wp
  rw [eval_evl]
  rcases h with ⟨v, w', hr, hK, hf⟩ | ⟨w', hr, hK, hf⟩ | ⟨f, args, hr, hc⟩
  · rw [hr]; exact hn v w' hK hf
  · rw [hr]; exact hn undef w' hK hf
  · rw [hr]
    refine hc.mono ?_
    rintro e w' ⟨v, rfl, hK, hf⟩
    exact hn v w' hK hf

theorem gd_sound {ops : List Oper} {a : Act} {o : Oper} {go skip : Prop} (h : gdW ops (envOf a) o.guard go skip) :
    (Region.wanted o (yielded ops.toArray a.tmps) = true ∧ go) ∨ (Region.wanted o (yielded ops.toArray a.tmps) = false ∧ skip) := by
  unfold gdW at h
  unfold Region.wanted
  split at h
  · rename_i hg; rw [hg]; exact .inl ⟨rfl, h⟩
  · rename_i j want hg
    rw [hg]
    simp only [yielded]
    have e : ops.toArray[j]? = ops[j]? := by simp
    rw [e]
    split at h
    · rename_i d hd
      rw [hd]
      simp only [Option.bind_some]
      have hv : envOf a d = (a.tmps[d]?).getD undef := by simp [envOf, Array.getD_eq_getD_getElem?]
      split at h
      · rename_i b hb
        rw [hv] at hb
        cases ht : a.tmps[d]? with
        | none => rw [ht] at hb; cases hb
        | some v =>
          rw [ht] at hb
          simp only [Option.getD_some] at hb
          subst hb
          unfold sB at h
          split at h
          · rename_i hbw; exact .inl ⟨by simpa using hbw, h⟩
          · rename_i hbw; exact .inr ⟨by simpa using hbw, h⟩
      · rename_i hb
        refine .inr ⟨?_, h⟩
        cases ht : a.tmps[d]? with
        | none => rfl
        | some v =>
          rw [hv, ht] at hb
          simp only [Option.getD_some] at hb
          cases v <;> first | rfl | exact absurd rfl (hb _)
    · rename_i hd
      rw [hd]
      exact .inr ⟨rfl, h⟩

theorem aft_sound {n : Nat} {used : Bool} {a : Act} {d : Option Nat} {v : Value} {K : Env → Prop} (hn : a.tmps.size = n) (h : aftW n used (envOf a) d v K) :
    K (envOf (a.put d v)) ∧ (a.put d v).tmps.size = n := by
  unfold aftW at h
  cases used with
  | false => exact putD_sound hn h
  | true =>
    simp only [cond] at h
    split at h
    · rename_i b
      unfold sB at h
      cases b <;> exact putD_sound hn h
    · exact h.elim

/-- slots outside D hold what they held -/
def Keeps (D : List Nat) (ρ : Env) (a : Act) : Prop := ∀ j, j ∉ D → envOf a j = ρ j
theorem Keeps.put {D : List Nat} {ρ : Env} {a : Act} (h : Keeps D ρ a) {d : Option Nat} {v : Value} (hd : ∀ x, d = some x → x ∈ D) : Keeps D ρ (a.put d v) := by
  intro j hj
  rw [← h j hj]
  cases d with
  | none => rfl
  | some x =>
    have hx : x ≠ j := fun e => hj (e ▸ hd x rfl)
    simp only [envOf, Act.put, Array.getD_eq_getD_getElem?]
    rw [Array.getElem?_setIfInBounds_ne hx]
theorem ops_sound {P : Program} {n : Nat} {all : List Oper} {K : Env → Heap → Prop} {w0 : World} {Q : Exit → Act → World → Prop} {D : List Nat} {ρ0 : Env}
    (hQ : ∀ a w, a.defers = [] → a.tmps.size = n → Fr w0 w → Keeps D ρ0 a → K (envOf a) w.heap → Q .normal a w) :
    ∀ (l : List Oper) (i : Nat) (a : Act) (w : World), (∀ o ∈ l, ∀ x, o.dst = some x → x ∈ D) → a.defers = [] → a.tmps.size = n → Fr w0 w → Keeps D ρ0 a → opsW P n all l i (envOf a) w.heap K → wpList P all.toArray Q l a w
  | [], _, a, w, _, hd, hs, hf, hk, h => hQ a w hd hs hf hk h
  | o :: rest, i, a, w, hD, hd, hs, hf, hkp, h => by
    have hDr : ∀ o ∈ rest, ∀ x, o.dst = some x → x ∈ D := fun q hq => hD q (List.mem_cons_of_mem _ hq)
    have hDo := hD o List.mem_cons_self
    simp only [opsW] at h
    unfold wpList
    rcases gd_sound h with ⟨hw, hgo⟩ | ⟨hw, hsk⟩
    · rw [if_pos hw]
      refine .inl (does_wp (opW_sound hgo) fun v w' hK hfr => ?_)
      obtain ⟨hk, hs'⟩ := aft_sound hs hK
      exact ops_sound hQ rest (i + 1) _ w' hDr (by rw [put_defers']; exact hd) hs' (hf.trans hfr) (hkp.put hDo) hk
    · rw [if_neg (by simp [hw])]
      obtain ⟨hk, hs'⟩ := putD_sound hs hsk
      exact ops_sound hQ rest (i + 1) _ w hDr (by rw [put_defers']; exact hd) hs' hf (hkp.put hDo) hk

/- drawn regions -/
section
variable {P : Program} {ops : Array Oper} {Q : Exit → Act → World → Prop} {md : Region.Mode}

/-- whatever order is picked; operation j leaves the world as it was (eff j = false), or T holds of it before and behind -/
def wpAnyL (P : Program) (md : Region.Mode) (ops : Array Oper) (Q : Exit → Act → World → Prop) (eff : Nat → Bool) (T : Nat → World → World → Prop) : Nat → Array Bool → Act → World → Prop
  | 0, L, a, w => Region.ready md ops L = [] ∧ Q .normal a w
  | f + 1, L, a, w => (Region.ready md ops L = [] → Q .normal a w) ∧
    ∀ i ∈ Region.ready md ops L, wpOp P ops Q i (fun a' w' => ((eff i = false → w' = w) ∧ (eff i = true → T i w w')) ∧ wpAnyL P md ops Q eff T f (L.setIfInBounds i true) a' w') a w
variable {eff : Nat → Bool} {T : Nat → World → World → Prop}
theorem any_of_L : ∀ (f : Nat) (L : Array Bool) (a : Act) (w : World), wpAnyL P md ops Q eff T f L a w → wpAny P md ops Q f L a w
  | 0, _, _, _, h => h
  | f + 1, _, _, _, h => ⟨h.1, fun i hi => wpOp_mono (fun a' w' h' => any_of_L f _ a' w' h'.2) (h.2 i hi)⟩
theorem L_mono {T' : Nat → World → World → Prop} (hT : ∀ i w w', T' i w w' → T i w w') : ∀ (f : Nat) (L : Array Bool) (a : Act) (w : World), wpAnyL P md ops Q eff T' f L a w → wpAnyL P md ops Q eff T f L a w
  | 0, _, _, _, h => h
  | f + 1, _, _, _, h => ⟨h.1, fun i hi => wpOp_mono (fun a' w' h' => ⟨⟨h'.1.1, fun he => hT _ _ _ (h'.1.2 he)⟩, L_mono hT f _ a' w' h'.2⟩) (h.2 i hi)⟩
theorem waits_not {i j : Nat} {L : Array Bool} (hi : i ∈ Region.ready md ops L) (hj : j ∈ Region.ready md ops L) {oj : Oper} (hoj : ops[j]? = some oj) :
    ∀ e ∈ oj.after, Region.binds md e = true → e.on ≠ i := by
  rintro e he hb rfl
  obtain ⟨_, o', ho', hw⟩ := mem_ready.1 hj
  obtain rfl : oj = o' := Option.some.inj (hoj.symm.trans ho')
  have hyes := hw e he hb
  have hno := (mem_ready.1 hi).1
  rw [Array.getD_eq_getD_getElem?] at hyes hno
  cases hL : L[e.on]? with
  | none => rw [hL] at hyes; exact Bool.noConfusion hyes
  | some b => rw [hL] at hyes hno; simp only [Option.getD_some] at hyes hno; rw [hyes] at hno; exact Bool.noConfusion hno
/-- o waits for i, through other operations too -/
inductive Path (md : Region.Mode) (ops : Array Oper) (i : Nat) : Oper → Prop
  | one {o : Oper} {e : Edge} : e ∈ o.after → Region.binds md e = true → e.on = i → Path md ops i o
  | step {o o' : Oper} {e : Edge} : e ∈ o.after → Region.binds md e = true → ops[e.on]? = some o' → Path md ops i o' → Path md ops i o
/-- what has come up has waited -/
def Closed (md : Region.Mode) (ops : Array Oper) (L : Array Bool) : Prop := ∀ j oj, ops[j]? = some oj → L.getD j false = true → ∀ e ∈ oj.after, Region.binds md e = true → L.getD e.on false = true
theorem Closed.path {L : Array Bool} (hc : Closed md ops L) {i : Nat} (hi : L.getD i false = false) {o : Oper} (hp : Path md ops i o) : ¬ ∀ e ∈ o.after, Region.binds md e = true → L.getD e.on false = true := by
  induction hp with
  | one he hb ho => intro h; have := h _ he hb; rw [ho, hi] at this; cases this
  | step he hb ho _ ih => intro h; exact ih (hc _ _ ho (h _ he hb))
theorem Closed.set {L : Array Bool} (hc : Closed md ops L) {j : Nat} {oj : Oper} (hoj : ops[j]? = some oj) (hw : ∀ e ∈ oj.after, Region.binds md e = true → L.getD e.on false = true) : Closed md ops (L.setIfInBounds j true) := by
  have up : ∀ k, L.getD k false = true → (L.setIfInBounds j true).getD k false = true := fun k hk => by
    by_cases e : j = k
    · subst e
      rw [Array.getD_eq_getD_getElem?] at hk ⊢
      rw [Array.getElem?_setIfInBounds]
      cases hL : L[j]? with
      | none => rw [hL] at hk; cases hk
      | some b => have := (Array.getElem?_eq_some_iff.1 hL).1; simp [this]
    · rw [getD_set_ne false e]; exact hk
  intro k ok hok hk e he hb
  by_cases ek : j = k
  · subst ek
    rw [hoj] at hok; cases hok
    exact up _ (hw e he hb)
  · rw [getD_set_ne false ek] at hk
    exact up _ (hc k ok hok hk e he hb)
theorem getD_false {i : Nat} {L : Array Bool} (hi : i ∈ Region.ready md ops L) : L.getD i false = false := by
  have := (mem_ready.1 hi).1
  rw [Array.getD_eq_getD_getElem?] at this ⊢
  cases hL : L[i]? with
  | none => rfl
  | some b => rw [hL] at this; exact this
theorem no_path {i j : Nat} {L : Array Bool} (hc : Closed md ops L) (hi : i ∈ Region.ready md ops L) (hj : j ∈ Region.ready md ops L) {oj : Oper} (hoj : ops[j]? = some oj) : ¬ Path md ops i oj := by
  intro hp
  obtain ⟨_, o', ho', hw⟩ := mem_ready.1 hj
  obtain rfl : oj = o' := Option.some.inj (hoj.symm.trans ho')
  exact hc.path (getD_false hi) hp hw
/-- operation i may be taken first: it yields v in every world that meets S, and S is kept by whatever else may come up while i has not -/
theorem L_first {S : World → Prop} {i : Nat} {oi : Oper} {v : Value} (hi : ops[i]? = some oi) (hsel : ∀ (j : Nat) (o : Oper) cs b, ops[j]? = some o → o.op ≠ .select cs b)
    (hQ : ∀ c a w, Q (.panic c) (a.put oi.dst v) w → Q (.panic c) a w) (hei : eff i = false)
    (hS : ∀ (j : Nat) (oj : Oper) (w w' : World), ops[j]? = some oj → j ≠ i → ¬ Path md ops i oj → S w → (eff j = false → w' = w) → (eff j = true → T j w w') → S w')
    (fuel : Nat) : ∀ (L : Array Bool) (a : Act) (w : World), Closed md ops L →
      (∀ j oj, ops[j]? = some oj → j ≠ i → L.getD j true = false → (∀ e ∈ oj.after, Region.binds md e = true → e.on ≠ i) → oi.apart ops oj = true) →
      i ∈ Region.ready md ops L → YieldsIf P ops S oi v a → S w →
      wpAnyL P md ops Q eff T fuel (L.setIfInBounds i true) (a.put oi.dst v) w → wpAnyL P md ops Q eff T (fuel + 1) L a w := by
  induction fuel with
  | zero =>
    intro L a w hcl _ hr hy hSw H
    constructor
    · intro he; rw [he] at hr; exact absurd hr List.not_mem_nil
    · intro j hj
      rcases Nat.decEq j i with hne | rfl
      · exact absurd (H.1 ▸ ready_mono hj hne) List.not_mem_nil
      · exact hy.wpOp hi hSw ⟨⟨fun _ => rfl, fun he => absurd (hei.symm.trans he) Bool.false_ne_true⟩, H⟩
  | succ fuel ih =>
    intro L a w hcl0 hfree hr hy hSw H
    constructor
    · intro he; rw [he] at hr; exact absurd hr List.not_mem_nil
    · intro j hj
      rcases Nat.decEq j i with hne | rfl
      · obtain ⟨hun, oj, hoj, hwj⟩ := mem_ready.1 hj
        have hnp := no_path hcl0 hr hj hoj
        have hno := waits_not hr hj hoj
        refine wpOp_mono (fun a' w' h3 => ?_) (wpOp_putIf hoj (hfree j oj hoj hne hun hno) (fun cs b => hsel i oi cs b hi) (fun cs b => hsel j oj cs b hoj) hQ hy (H.2 j (ready_mono hj hne)))
        obtain ⟨hy', hcl, hrest⟩ := h3
        rw [Array.setIfInBounds_comm _ _ (Ne.symm hne)] at hrest
        refine ⟨hcl, ih _ a' w' (hcl0.set hoj hwj) (fun k ok hk hki hk' => hfree k ok hk hki ?_) (ready_mono hr (Ne.symm hne)) hy' (hS j oj w w' hoj hne hnp hSw hcl.1 hcl.2) hrest⟩
        rcases Nat.decEq j k with hjk | rfl
        · rwa [getD_set_ne true hjk] at hk'
        · exact hun
      · exact hy.wpOp hi hSw ⟨⟨fun _ => rfl, fun he => absurd (hei.symm.trans he) Bool.false_ne_true⟩, H⟩
end

/- the lists of VcCore against the model's arrays -/
def Rl (N : Nat) (L : Array Bool) (l : List Nat) : Prop := L.size = N ∧ ∀ i, L.getD i false = (listedB l i && decide (i < N))
theorem Rl.nil (N : Nat) : Rl N (Array.replicate N false) [] := ⟨by simp, fun i => by simp [listedB, Array.getD_eq_getD_getElem?]; cases h : (Array.replicate N false)[i]? with | none => rfl | some b => have := Array.getElem?_eq_some_iff.1 h; obtain ⟨hlt, hb⟩ := this; simp at hb; simp [hb.symm]⟩
theorem listedB_cons (l : List Nat) (i j : Nat) : listedB (i :: l) j = (decide (j = i) || listedB l j) := by
  simp only [listedB, List.any_cons]
  congr 1
  by_cases h : j = i
  · subst h; simp [Nat.beq_refl]
  · have : Nat.beq j i = false := by
      cases hb : Nat.beq j i
      · rfl
      · exact absurd (Nat.eq_of_beq_eq_true hb) h
    simp [this, h]
theorem Rl.set {N : Nat} {L : Array Bool} {l : List Nat} (h : Rl N L l) {i : Nat} (hi : i < N) : Rl N (L.setIfInBounds i true) (i :: l) := by
  refine ⟨by simp [h.1], fun j => ?_⟩
  by_cases hj : i = j
  · subst hj
    have : i < L.size := by rw [h.1]; exact hi
    simp [listedB_cons, this, hi]
  · rw [getD_set_ne false hj, h.2 j, listedB_cons]
    have : ¬ j = i := fun e => hj e.symm
    simp [this]
theorem Rl.true_ {N : Nat} {L : Array Bool} {l : List Nat} (h : Rl N L l) {i : Nat} (hi : i < N) : L.getD i true = listedB l i := by
  have := h.2 i
  have hs : i < L.size := by rw [h.1]; exact hi
  simp only [Array.getD_eq_getD_getElem?, Array.getElem?_eq_getElem hs, Option.getD_some, hi, decide_true, Bool.and_true] at this ⊢
  exact this
theorem bindsB_eq (e : Edge) : Region.binds .any e = bindsB e := by
  unfold Region.binds bindsB
  cases e.ground <;> rfl
theorem rdyB_iff {N : Nat} {L : Array Bool} {l : List Nat} (h : Rl N L l) (hl : ∀ i ∈ l, i < N) (o : Oper) :
    rdyB o l = true ↔ ∀ e ∈ o.after, Region.binds .any e = true → L.getD e.on false = true := by
  unfold rdyB
  rw [List.all_eq_true]
  constructor
  · intro hh e he hb
    have := hh e (by simpa using he)
    rw [← bindsB_eq, hb] at this
    simp only [Bool.not_true, Bool.false_or] at this
    rw [h.2, this]
    have hm : e.on ∈ l := by
      simp only [listedB, List.any_eq_true] at this
      obtain ⟨x, hx, hb⟩ := this
      rw [Nat.eq_of_beq_eq_true hb]; exact hx
    simp [hl _ hm]
  · intro hh e he
    rw [← bindsB_eq]
    cases hb : Region.binds .any e with
    | false => rfl
    | true =>
      have := hh e (by simpa using he) hb
      rw [h.2] at this
      simp only [Bool.and_eq_true] at this
      simp [this.1]
theorem rdyL_mem (ops : List Oper) (l : List Nat) : ∀ (r : List Oper) (k i : Nat), i ∈ rdyL ops l k r ↔ k ≤ i ∧ ∃ o, r[i - k]? = some o ∧ listedB l i = false ∧ rdyB o l = true
  | [], k, i => by simp [rdyL]
  | o :: r, k, i => by
    have ih := rdyL_mem ops l r (k + 1) i
    have key : i ∈ rdyL ops l (k + 1) r ↔ k < i ∧ ∃ o', (o :: r)[i - k]? = some o' ∧ listedB l i = false ∧ rdyB o' l = true := by
      rw [ih]
      constructor
      · rintro ⟨h1, o', h2, h3⟩
        refine ⟨h1, o', ?_, h3⟩
        rw [show i - k = (i - (k + 1)) + 1 by omega, List.getElem?_cons_succ]; exact h2
      · rintro ⟨h1, o', h2, h3⟩
        refine ⟨h1, o', ?_, h3⟩
        rw [show i - k = (i - (k + 1)) + 1 by omega, List.getElem?_cons_succ] at h2; exact h2
    unfold rdyL
    cases hb : (!listedB l k && rdyB o l) with
    | true =>
      simp only [cond, List.mem_cons, key]
      simp only [Bool.and_eq_true, Bool.not_eq_true'] at hb
      constructor
      · rintro (rfl | ⟨h1, h2⟩)
        · exact ⟨Nat.le_refl _, o, by simp, hb.1, hb.2⟩
        · exact ⟨Nat.le_of_lt h1, h2⟩
      · rintro ⟨h1, h2⟩
        rcases Nat.eq_or_lt_of_le h1 with h | h
        · exact .inl h.symm
        · exact .inr ⟨h, h2⟩
    | false =>
      simp only [cond, key]
      constructor
      · rintro ⟨h1, h2⟩; exact ⟨Nat.le_of_lt h1, h2⟩
      · rintro ⟨h1, o', h2, h3, h4⟩
        refine ⟨?_, o', h2, h3, h4⟩
        rcases Nat.eq_or_lt_of_le h1 with h | h
        · subst h
          simp at h2
          subst h2
          rw [h3, h4] at hb
          cases hb
        · exact h
theorem ready_iff {ops : List Oper} {L : Array Bool} {l : List Nat} (h : Rl ops.length L l) (hl : ∀ i ∈ l, i < ops.length) (i : Nat) :
    i ∈ Region.ready .any ops.toArray L ↔ i ∈ rdyL ops l 0 ops := by
  rw [mem_ready, rdyL_mem]
  simp only [Nat.zero_le, true_and, Nat.sub_zero, List.getElem?_toArray]
  constructor
  · rintro ⟨h0, o, ho, hall⟩
    have hlt : i < ops.length := (List.getElem?_eq_some_iff.1 ho).1
    exact ⟨o, ho, by rw [← h.true_ hlt]; exact h0, (rdyB_iff h hl o).2 hall⟩
  · rintro ⟨o, ho, h1, h2⟩
    have hlt : i < ops.length := (List.getElem?_eq_some_iff.1 ho).1
    exact ⟨by rw [h.true_ hlt]; exact h1, o, ho, (rdyB_iff h hl o).1 h2⟩
end Go.VC
