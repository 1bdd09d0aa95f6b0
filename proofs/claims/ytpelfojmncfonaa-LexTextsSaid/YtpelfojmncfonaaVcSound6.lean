/- VcCore's conditions are sound: the drawn region put together. -/
import Derived.Test.YtpelfojmncfonaaVcSound5
set_option linter.unusedVariables false
set_option linter.unusedSimpArgs false

namespace Go.VC

theorem listedB_mem {l : List Nat} {i : Nat} : listedB l i = true ↔ i ∈ l := by
  simp only [listedB, List.any_eq_true]
  constructor
  · rintro ⟨x, hx, hb⟩; rw [Nat.eq_of_beq_eq_true hb]; exact hx
  · intro h; exact ⟨i, h, Nat.beq_refl i⟩
theorem mem_zipIdx' {α : Type} {l : List α} {i : Nat} {x : α} (h : l[i]? = some x) : (x, i) ∈ l.zipIdx := by
  rw [List.mk_mem_zipIdx_iff_getElem?]; exact h
theorem anyOn_false {o : Oper} {i : Nat} (h : ∀ e ∈ o.after, Region.binds .any e = true → e.on ≠ i) : (o.after.toList.any fun e => bindsB e && Nat.beq e.on i) = false := by
  rw [List.any_eq_false]
  intro e he
  simp only [Bool.and_eq_true, not_and]
  intro hb hbe
  rw [← bindsB_eq] at hb
  exact absurd (Nat.eq_of_beq_eq_true hbe) (h e (by simpa using he) hb)
theorem listedB_contains (l : List Nat) (d : Nat) : l.contains d = listedB l d := by
  rw [Bool.eq_iff_iff, listedB_mem, List.contains_iff_mem]
theorem eqOp_iff (a b : Option Nat) : eqOp a b = (a == b) := by
  cases a <;> cases b <;> try rfl
  rename_i x y
  by_cases h : x = y
  · subst h; simp [eqOp, Nat.beq_refl]
  · have : Nat.beq x y = false := by
      cases hb : Nat.beq x y
      · rfl
      · exact absurd (Nat.eq_of_beq_eq_true hb) h
    simp [eqOp, this, h]
theorem looksL_eq (ops : List Oper) (o : Oper) : o.looksAt ops.toArray = looksL ops o := by
  unfold Oper.looksAt looksL
  congr 1
  cases o.guard with
  | none => rfl
  | some g => simp
theorem apartB_sound {ops : List Oper} {x y : Oper} (h : apartB ops x y = true) : x.apart ops.toArray y = true := by
  unfold apartB at h
  unfold Oper.apart
  rw [looksL_eq, looksL_eq]
  simp only [Bool.and_eq_true] at h ⊢
  constructor
  · have h1 := h.1
    cases hx : x.dst with
    | none => rfl
    | some d =>
      rw [hx] at h1
      simp only [Bool.and_eq_true, Bool.not_eq_true'] at h1 ⊢
      refine ⟨by rw [listedB_contains]; exact h1.1, ?_⟩
      have h2 := h1.2
      rw [eqOp_iff] at h2
      rw [bne, h2]; rfl
  · have h1 := h.2
    cases hy : y.dst with
    | none => rfl
    | some d =>
      rw [hy] at h1
      simp only [Bool.not_eq_true'] at h1 ⊢
      rw [listedB_contains]; exact h1
theorem freeB_sound {ops : List Oper} {L : Array Bool} {l : List Nat} (h : Rl ops.length L l) {i : Nat} {oi : Oper} (hf : freeB ops l i oi = true) :
    ∀ j oj, ops.toArray[j]? = some oj → j ≠ i → L.getD j true = false → (∀ e ∈ oj.after, Region.binds .any e = true → e.on ≠ i) → oi.apart ops.toArray oj = true := by
  intro j oj hoj hne hun hno
  rw [List.getElem?_toArray] at hoj
  have hlt : j < ops.length := (List.getElem?_eq_some_iff.1 hoj).1
  unfold freeB at hf
  rw [List.all_eq_true] at hf
  have := hf _ (mem_zipIdx' hoj)
  simp only [Bool.or_eq_true] at this
  rcases this with ((h1 | h1) | h1) | h1
  · exact absurd (Nat.eq_of_beq_eq_true h1) hne
  · rw [h.true_ hlt, h1] at hun; cases hun
  · rw [anyOn_false hno] at h1; cases h1
  · exact apartB_sound h1
theorem firstQ_spec {P : Program} {ops : List Oper} {l : List Nat} : ∀ (rs : List Nat) {i : Nat} {o : Oper}, firstQ P ops l rs = some (i, o) → i ∈ rs ∧ ops[i]? = some o ∧ opK P o.op < 2 ∧ freeB ops l i o = true
  | [], i, o, h => by cases h
  | j :: r, i, o, h => by
    unfold firstQ at h
    split at h
    · rename_i oj hoj
      cases hb : (Nat.blt (opK P oj.op) 2 && freeB ops l j oj) with
      | true =>
        rw [hb] at h
        simp only [cond, Option.some.injEq, Prod.mk.injEq] at h
        obtain ⟨rfl, rfl⟩ := h
        simp only [Bool.and_eq_true] at hb
        exact ⟨List.mem_cons_self, hoj, by simpa using hb.1, hb.2⟩
      | false =>
        rw [hb] at h
        have := firstQ_spec r h
        exact ⟨List.mem_cons_of_mem _ this.1, this.2⟩
    · have := firstQ_spec r h
      exact ⟨List.mem_cons_of_mem _ this.1, this.2⟩
theorem selB_spec {ops : List Oper} (h : selB ops = true) (j : Nat) (o : Oper) (cs : Array SelectCase) (b : Bool) (ho : ops.toArray[j]? = some o) : o.op ≠ .select cs b := by
  intro e
  rw [List.getElem?_toArray] at ho
  unfold selB at h
  rw [List.all_eq_true] at h
  have := h o (List.mem_of_getElem? ho)
  rw [e] at this
  cases this
theorem andAll_mem {F : Nat → Prop} : ∀ (l : List Nat), andAll l F → ∀ i ∈ l, F i
  | [], _, i, hi => by cases hi
  | [j], h, i, hi => by simp at hi; subst hi; exact h
  | j :: k :: r, h, i, hi => by
    rcases List.mem_cons.1 hi with rfl | hi
    · exact h.1
    · exact andAll_mem (k :: r) h.2 i hi

def effF (P : Program) (ops : List Oper) (j : Nat) : Bool := match ops[j]? with | some o => Nat.beq (opK P o.op) 2 | none => false
def lateF (P : Program) (ops : List Oper) (j : Nat) : Bool := match ops[j]? with | some o => lateB P ops j o | none => false
/-- only pure and late operations are left -/
def Phase2 (P : Program) (ops : List Oper) (l : List Nat) : Prop := ∀ j q, ops[j]? = some q → j ∉ l → opK P q.op = 0 ∨ (opK P q.op = 2 ∧ lateB P ops j q = true)

theorem opK_le (P : Program) (o : Op) : opK P o ≤ 2 := by
  unfold opK
  repeat' split
  all_goals first | omega | (rename_i h; cases strB P _ <;> cases sliceB P _ <;> simp)

theorem draw_sound {P : Program} {n : Nat} {ops : List Oper} {K : Env → Heap → Prop} {w0 : World} {Q : Exit → Act → World → Prop} {D : List Nat} {ρ0 : Env} (hsel : selB ops = true) (hD : ∀ o ∈ ops, ∀ x, o.dst = some x → x ∈ D)
    (hQn : ∀ a w, a.defers = [] → a.tmps.size = n → Fr w0 w → Keeps D ρ0 a → K (envOf a) w.heap → Q .normal a w) (hQp : ∀ c a w, ¬ Q (.panic c) a w) :
    ∀ (fuel : Nat) (l : List Nat) (L : Array Bool) (a : Act) (w : World) (T : World → Prop), Rl ops.length L l → (∀ i ∈ l, i < ops.length) → a.defers = [] → a.tmps.size = n → Fr w0 w → Keeps D ρ0 a →
      ((∀ w', Ext w.heap w'.heap → T w') ∨ Phase2 P ops l) → drawW P n ops fuel l (envOf a) w.heap K → wpAnyL P .any ops.toArray Q (effF P ops) (lateF P ops) T fuel L a w := by
  intro fuel
  induction fuel with
  | zero =>
    intro l L a w T hR hl hd hs hf hkp hT h
    unfold drawW at h
    split at h
    · rename_i he
      refine ⟨?_, hQn a w hd hs hf hkp h⟩
      apply List.eq_nil_iff_forall_not_mem.2
      intro i hi
      rw [ready_iff hR hl, he] at hi
      cases hi
    · exact h.elim
  | succ fuel ih =>
    intro l L a w T hR hl hd hs hf hkp hT h
    unfold drawW at h
    split at h
    · rename_i he
      have hempty : Region.ready .any ops.toArray L = [] := by
        apply List.eq_nil_iff_forall_not_mem.2
        intro i hi
        rw [ready_iff hR hl, he] at hi
        cases hi
      refine ⟨fun _ => hQn a w hd hs hf hkp h, fun i hi => ?_⟩
      rw [hempty] at hi; cases hi
    · split at h
      · rename_i rs hrs _ i o hfq
        obtain ⟨him, ho, hk, hfree⟩ := firstQ_spec _ hfq
        have hlt : i < ops.length := (List.getElem?_eq_some_iff.1 ho).1
        have hrdy : i ∈ Region.ready .any ops.toArray L := (ready_iff hR hl i).2 him
        have ho' : ops.toArray[i]? = some o := by rw [List.getElem?_toArray]; exact ho
        have hei : effF P ops i = false := by
          unfold effF; rw [ho]
          cases hb : Nat.beq (opK P o.op) 2
          · exact hb
          · have := Nat.eq_of_beq_eq_true hb; omega
        have hl' : ∀ k ∈ i :: l, k < ops.length := fun k hk => by
          rcases List.mem_cons.1 hk with rfl | hk
          · exact hlt
          · exact hl k hk
        have hun : i ∉ l := by
          have := (rdyL_mem ops l ops 0 i).1 him
          obtain ⟨_, _, _, hn, _⟩ := this
          intro hm
          rw [listedB_mem.2 hm] at hn; cases hn
        have hP2 : Phase2 P ops l → Phase2 P ops (i :: l) := fun hp j q hq hj => hp j q hq (fun hm => hj (List.mem_cons_of_mem _ hm))
        have hfr := freeB_sound hR hfree
        rcases gd_sound h with ⟨hw, hgo⟩ | ⟨hw, hsk⟩
        · split at hgo
          · -- a pure operation
            obtain ⟨v, hK, hr⟩ := opP_sound hgo
            obtain ⟨hk', hs'⟩ := aft_sound hs hK
            refine L_first (S := fun _ => True) ho' (selB_spec hsel) (fun c a' w' hq => absurd hq (hQp c _ _)) hei (fun _ _ _ _ _ _ _ _ _ _ => trivial) fuel L a w hfr hrdy
              (.inl ⟨hw, fun w' _ => by rw [eval_evl]; exact hr w'⟩) trivial ?_
            exact ih (i :: l) _ _ w T (hR.set hlt) hl' (by rw [put_defers']; exact hd) hs' hf (hkp.put (hD o (List.mem_of_getElem? ho))) (hT.imp id hP2) hk'
          · -- a load
            rename_i hk1
            have hk1' : opK P o.op = 1 := by
              have : opK P o.op ≠ 0 := hk1
              omega
            obtain ⟨v, hK, hr⟩ := opL_sound hgo
            obtain ⟨hk', hs'⟩ := aft_sound hs hK
            have hT1 : ∀ w', Ext w.heap w'.heap → T w' := by
              rcases hT with hT | hT
              · exact hT
              · rcases hT i o ho hun with h0 | h0
                · omega
                · omega
            refine L_mono (T' := fun w' => Ext w.heap w'.heap) hT1 _ _ _ _ ?_
            refine L_first (S := fun w' => Ext w.heap w'.heap) ho' (selB_spec hsel) (fun c a' w' hq => absurd hq (hQp c _ _)) hei ?_ fuel L a w hfr hrdy
              (.inl ⟨hw, fun w' hE => by rw [eval_evl]; exact hr w' hE⟩) (Ext.refl _) ?_
            · intro j oj w1 w2 hoj hji hno hS he0 he1
              cases hej : effF P ops j with
              | false => rw [he0 hej]; exact hS
              | true =>
                refine he1 hej ?_
                unfold lateF
                rw [List.getElem?_toArray] at hoj
                rw [hoj]
                cases hlj : lateB P ops j oj with
                | false => exact hlj
                | true =>
                  unfold lateB at hlj
                  rw [List.all_eq_true] at hlj
                  have := hlj _ (mem_zipIdx' ho)
                  simp only [Bool.or_eq_true, Bool.not_eq_true'] at this
                  rcases this with (h1 | h1) | h1
                  · exact absurd (Nat.eq_of_beq_eq_true h1).symm hji
                  · rw [hk1'] at h1; cases h1
                  · rw [anyOn_false hno] at h1; cases h1
            · exact ih (i :: l) _ _ w _ (hR.set hlt) hl' (by rw [put_defers']; exact hd) hs' hf (hkp.put (hD o (List.mem_of_getElem? ho))) (.inl fun _ h => h) hk'
        · obtain ⟨hk', hs'⟩ := putD_sound hs hsk
          refine L_first (S := fun _ => True) ho' (selB_spec hsel) (fun c a' w' hq => absurd hq (hQp c _ _)) hei (fun _ _ _ _ _ _ _ _ _ _ => trivial) fuel L a w hfr hrdy (.inr ⟨hw, rfl⟩) trivial ?_
          exact ih (i :: l) _ _ w T (hR.set hlt) hl' (by rw [put_defers']; exact hd) hs' hf (hkp.put (hD o (List.mem_of_getElem? ho))) (hT.imp id hP2) hk'
      · rename_i rs hrs _ hnq
        refine ⟨fun he => ?_, fun i hi => ?_⟩
        · exfalso
          have : rdyL ops l 0 ops = [] := by
            apply List.eq_nil_iff_forall_not_mem.2
            intro i hi
            rw [← ready_iff hR hl, he] at hi
            cases hi
          exact hrs this
        · have him := (ready_iff hR hl i).1 hi
          have hF := andAll_mem _ h i him
          split at hF
          · rename_i o ho
            have hlt : i < ops.length := (List.getElem?_eq_some_iff.1 ho).1
            have ho' : ops.toArray[i]? = some o := by rw [List.getElem?_toArray]; exact ho
            have hl' : ∀ k ∈ i :: l, k < ops.length := fun k hk => by
              rcases List.mem_cons.1 hk with rfl | hk
              · exact hlt
              · exact hl k hk
            have hun : i ∉ l := by
              obtain ⟨_, _, _, hn, _⟩ := (rdyL_mem ops l ops 0 i).1 him
              intro hm
              rw [listedB_mem.2 hm] at hn; cases hn
            have hP2 : Phase2 P ops l → Phase2 P ops (i :: l) := fun hp j q hq hj => hp j q hq (fun hm => hj (List.mem_cons_of_mem _ hm))
            obtain ⟨hk2, hF⟩ := bif_true hF
            have hk2' : opK P o.op = 2 := Nat.eq_of_beq_eq_true hk2
            have hei : effF P ops i = true := by unfold effF; rw [ho]; exact hk2
            have hli : lateF P ops i = lateB P ops i o := by unfold lateF; rw [ho]
            unfold wpOp
            simp only [ho']
            rcases gd_sound hF with ⟨hw, hgo⟩ | ⟨hw, hsk⟩
            · rw [if_pos hw]
              split at hgo
              · rename_i hlate
                obtain ⟨hrest, hgo⟩ := bif_true hgo
                refine .inl (does_wp (opW_sound hgo) fun v w' hK hfw => ?_)
                obtain ⟨hk', hs'⟩ := aft_sound hs hK
                refine ⟨⟨fun he => (by rw [hei] at he; cases he), fun _ he => (by rw [hli, hlate] at he; cases he)⟩, ?_⟩
                refine ih (i :: l) _ _ w' T (hR.set hlt) hl' (by rw [put_defers']; exact hd) hs' (hf.trans hfw) (hkp.put (hD o (List.mem_of_getElem? ho))) (.inr ?_) hk'
                intro j q hq hj
                unfold restLate at hrest
                rw [List.all_eq_true] at hrest
                have := hrest _ (mem_zipIdx' hq)
                simp only [Bool.or_eq_true, Bool.and_eq_true] at this
                rcases this with (h1 | h1) | h1
                · exact absurd (listedB_mem.1 h1) hj
                · exact .inl (Nat.eq_of_beq_eq_true h1)
                · exact .inr ⟨Nat.eq_of_beq_eq_true h1.1, h1.2⟩
              · rename_i hlate
                refine .inl (does_wp (opW_sound hgo) fun v w' hK hfw => ?_)
                obtain ⟨hE, hK⟩ := hK
                obtain ⟨hk', hs'⟩ := aft_sound hs hK
                have hT1 : ∀ w', Ext w.heap w'.heap → T w' := by
                  rcases hT with hT | hT
                  · exact hT
                  · rcases hT i o ho hun with h0 | h0
                    · omega
                    · rw [h0.2] at hlate; cases hlate
                refine ⟨⟨fun he => (by rw [hei] at he; cases he), fun _ _ => hT1 w' hE⟩, ?_⟩
                exact ih (i :: l) _ _ w' T (hR.set hlt) hl' (by rw [put_defers']; exact hd) hs' (hf.trans hfw) (hkp.put (hD o (List.mem_of_getElem? ho))) (.inl fun w'' hE' => hT1 w'' (hE.trans hE')) hk'
            · rw [if_neg (by simp [hw])]
              obtain ⟨hk', hs'⟩ := putD_sound hs hsk
              refine ⟨⟨by intros; first | trivial | rfl, fun _ he => ?_⟩, ?_⟩
              · rcases hT with hT | hT
                · exact hT w (Ext.refl _)
                · rcases hT i o ho hun with h0 | h0
                  · omega
                  · rw [hli, h0.2] at he; cases he
              · exact ih (i :: l) _ _ w T (hR.set hlt) hl' (by rw [put_defers']; exact hd) hs' hf (hkp.put (hD o (List.mem_of_getElem? ho))) (hT.imp id hP2) hk'
          · exact hF.elim

theorem wp_region_drawn {P : Program} {n : Nat} {ops : Array Oper} {K : Env → Heap → Prop} {w0 : World} {Q : Exit → Act → World → Prop} {id : Nat} {a : Act} {w : World} {D : List Nat} {ρ0 : Env} (hm : P.follows .mixedOrders = true) (hsel : selB ops.toList = true) (hD : ∀ o ∈ ops.toList, ∀ x, o.dst = some x → x ∈ D)
    (hQn : ∀ a w, a.defers = [] → a.tmps.size = n → Fr w0 w → Keeps D ρ0 a → K (envOf a) w.heap → Q .normal a w) (hQp : ∀ c a w, ¬ Q (.panic c) a w) (hd : a.defers = []) (hs : a.tmps.size = n) (hf : Fr w0 w) (hkp : Keeps D ρ0 a)
    (h : drawW P n ops.toList ops.toList.length [] (envOf a) w.heap K) : (Code.region id ops true).wp P Q a w := by
  refine wp_region_any hm ?_
  have := draw_sound (Q := Q) (D := D) (ρ0 := ρ0) hsel hD hQn hQp ops.toList.length [] (Array.replicate ops.size false) a { w with drawn := w.drawn + 1 } (fun _ => True) (by have := Rl.nil ops.toList.length; simpa using this)
    (fun i hi => by cases hi) hd hs ⟨hf.1, hf.2.1, hf.2.2⟩ hkp (.inl fun _ _ => trivial) h
  have h2 := any_of_L _ _ _ _ this
  simpa using h2
end Go.VC
