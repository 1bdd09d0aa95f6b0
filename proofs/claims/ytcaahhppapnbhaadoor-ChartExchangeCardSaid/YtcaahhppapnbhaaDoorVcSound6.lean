/- VcCore's conditions are sound: the drawn region put together. -/
import Derived.Test.YtcaahhppapnbhaaDoorVcSound5
set_option linter.unusedVariables false
set_option linter.unusedSimpArgs false

namespace Go.VC

theorem listedB_mem {l : List Nat} {i : Nat} : listedB l i = true ↔ i ∈ l := by
  simp only [listedB, List.any_eq_true]
  constructor
  · rintro ⟨x, hx, hb⟩; rw [Nat.eq_of_beq_eq_true hb]; exact hx
  · intro h; exact ⟨i, h, Nat.beq_refl i⟩
theorem mem_zipIdx' {α : Type} {l : List α} {i : Nat} {x : α} (h : l[i]? = some x) : (x, i) ∈ l.zipIdx := by
  rw [List.mk_mem_zipIdx_iff_getElem?]; exact h
theorem anyOn_false {o : Oper} {i : Nat} (h : ∀ e ∈ o.after, Region.binds .any e = true → e.on ≠ i) : (o.after.toList.any fun e => bindsB e && Nat.beq e.on i) = false := by
  rw [List.any_eq_false]
  intro e he
  simp only [Bool.and_eq_true, not_and]
  intro hb hbe
  rw [← bindsB_eq] at hb
  exact absurd (Nat.eq_of_beq_eq_true hbe) (h e (by simpa using he) hb)
theorem listedB_contains (l : List Nat) (d : Nat) : l.contains d = listedB l d := by
  rw [Bool.eq_iff_iff, listedB_mem, List.contains_iff_mem]
theorem eqOp_iff (a b : Option Nat) : eqOp a b = (a == b) := by
  cases a <;> cases b <;> try rfl
  rename_i x y
  by_cases h : x = y
  · subst h; simp [eqOp, Nat.beq_refl]
  · have : Nat.beq x y = false := by
      cases hb : Nat.beq x y
      · rfl
      · exact absurd (Nat.eq_of_beq_eq_true hb) h
    simp [eqOp, this, h]
theorem looksL_eq (ops : List Oper) (o : Oper) : o.looksAt ops.toArray = looksL ops o := by
  unfold Oper.looksAt looksL
  congr 1
  cases o.guard with
  | none => rfl
  | some g => simp
theorem apartB_sound {ops : List Oper} {x y : Oper} (h : apartB ops x y = true) : x.apart ops.toArray y = true := by
  unfold apartB at h
  unfold Oper.apart
  rw [looksL_eq, looksL_eq]
  simp only [Bool.and_eq_true] at h ⊢
  constructor
  · have h1 := h.1
    cases hx : x.dst with
    | none => rfl
    | some d =>
      rw [hx] at h1
      simp only [Bool.and_eq_true, Bool.not_eq_true'] at h1 ⊢
      refine ⟨by rw [listedB_contains]; exact h1.1, ?_⟩
      have h2 := h1.2
      rw [eqOp_iff] at h2
      rw [bne, h2]; rfl
  · have h1 := h.2
    cases hy : y.dst with
    | none => rfl
    | some d =>
      rw [hy] at h1
      simp only [Bool.not_eq_true'] at h1 ⊢
      rw [listedB_contains]; exact h1
theorem freeB_sound {ops : List Oper} {L : Array Bool} {l : List Nat} (h : Rl ops.length L l) {i : Nat} {oi : Oper} (hf : freeB ops l i oi = true) :
    ∀ j oj, ops.toArray[j]? = some oj → j ≠ i → L.getD j true = false → (∀ e ∈ oj.after, Region.binds .any e = true → e.on ≠ i) → oi.apart ops.toArray oj = true := by
  intro j oj hoj hne hun hno
  rw [List.getElem?_toArray] at hoj
  have hlt : j < ops.length := (List.getElem?_eq_some_iff.1 hoj).1
  unfold freeB at hf
  rw [List.all_eq_true] at hf
  have := hf _ (mem_zipIdx' hoj)
  simp only [Bool.or_eq_true] at this
  rcases this with ((h1 | h1) | h1) | h1
  · exact absurd (Nat.eq_of_beq_eq_true h1) hne
  · rw [h.true_ hlt, h1] at hun; cases hun
  · rw [anyOn_false hno] at h1; cases h1
  · exact apartB_sound h1
theorem firstQ_spec {P : Program} {ops : List Oper} {l : List Nat} : ∀ (rs : List Nat) {i : Nat} {o : Oper}, firstQ P ops l rs = some (i, o) → i ∈ rs ∧ ops[i]? = some o ∧ opK P o.op < 2 ∧ freeB ops l i o = true
  | [], i, o, h => by cases h
  | j :: r, i, o, h => by
    unfold firstQ at h
    split at h
    · rename_i oj hoj
      cases hb : (Nat.blt (opK P oj.op) 2 && freeB ops l j oj) with
      | true =>
        rw [hb] at h
        simp only [cond, Option.some.injEq, Prod.mk.injEq] at h
        obtain ⟨rfl, rfl⟩ := h
        simp only [Bool.and_eq_true] at hb
        exact ⟨List.mem_cons_self, hoj, by simpa using hb.1, hb.2⟩
      | false =>
        rw [hb] at h
        have := firstQ_spec r h
        exact ⟨List.mem_cons_of_mem _ this.1, this.2⟩
    · have := firstQ_spec r h
      exact ⟨List.mem_cons_of_mem _ this.1, this.2⟩
theorem selB_spec {ops : List Oper} (h : selB ops = true) (j : Nat) (o : Oper) (cs : Array SelectCase) (b : Bool) (ho : ops.toArray[j]? = some o) : o.op ≠ .select cs b := by
  intro e
  rw [List.getElem?_toArray] at ho
  unfold selB at h
  rw [List.all_eq_true] at h
  have := h o (List.mem_of_getElem? ho)
  rw [e] at this
  cases this
theorem andAll_mem {F : Nat → Prop} : ∀ (l : List Nat), andAll l F → ∀ i ∈ l, F i
  | [], _, i, hi => by cases hi
  | [j], h, i, hi => by simp at hi; subst hi; exact h
  | j :: k :: r, h, i, hi => by
    rcases List.mem_cons.1 hi with rfl | hi
    · exact h.1
    · exact andAll_mem (k :: r) h.2 i hi

theorem waitsB_path {ops : List Oper} {i : Nat} : ∀ (f : Nat) {o : Oper}, waitsB ops i f o = true → Path .any ops.toArray i o
  | 0, o, h => by cases h
  | f + 1, o, h => by
    unfold waitsB at h
    rw [List.any_eq_true] at h
    obtain ⟨e, he, h⟩ := h
    rw [Bool.and_eq_true, Bool.or_eq_true, Bool.and_eq_true] at h
    obtain ⟨hb, h⟩ := h
    have he' : e ∈ o.after := by simpa using he
    have hb' : Region.binds .any e = true := by rw [bindsB_eq]; exact hb
    rcases h with h | ⟨_, h⟩
    · exact .one he' hb' (Nat.eq_of_beq_eq_true h)
    · split at h
      · rename_i o' ho'
        exact .step he' hb' (by rw [List.getElem?_toArray]; exact ho') (waitsB_path f h)
      · cases h

def effF (P : Program) (ops : List Oper) (j : Nat) : Bool := match ops[j]? with | some o => Nat.beq (opK P o.op) 2 | none => false
def smT (ops : List Oper) (ad : List (Nat × Addr)) (j : Nat) (w1 w2 : World) : Prop := ∀ oj, ops[j]? = some oj → Sm (keepA ops oj ad) w1.heap w2.heap
theorem smW_out {as : List Addr} {h h' : Heap} {K : Prop} (hk : smW as h h' K) : Sm as h h' ∧ K := by
  cases as with
  | nil => exact ⟨fun a ha => (by cases ha), hk⟩
  | cons a r => exact hk
theorem keepA_cons {ops : List Oper} {o : Oper} {p : Nat × Addr} {ad : List (Nat × Addr)} {x : Addr} (hx : x ∈ keepA ops o ad) : x ∈ keepA ops o (p :: ad) := by
  obtain ⟨i, a⟩ := p
  unfold keepA
  cases waitsB ops i 9 o
  · exact List.mem_cons_of_mem _ hx
  · exact hx

theorem ready_waits {md : Region.Mode} {ops : Array Oper} {L : Array Bool} {i : Nat} (hi : i ∈ Region.ready md ops L) {o : Oper} (ho : ops[i]? = some o) : ∀ e ∈ o.after, Region.binds md e = true → L.getD e.on false = true := by
  obtain ⟨_, o', ho', hw⟩ := mem_ready.1 hi
  obtain rfl : o = o' := Option.some.inj (ho.symm.trans ho')
  exact hw
theorem opK_le (P : Program) (o : Op) : opK P o ≤ 2 := by
  unfold opK
  repeat' split
  all_goals first | omega | (rename_i h; cases strB P _ <;> cases sliceB P _ <;> simp)

theorem draw_sound {P : Program} {n : Nat} {ops : List Oper} {K : Env → Heap → Prop} {w0 : World} {Q : Exit → Act → World → Prop} {D : List Nat} {ρ0 : Env} (hsel : selB ops = true) (hD : ∀ o ∈ ops, ∀ x, o.dst = some x → x ∈ D)
    (hQn : ∀ a w, a.defers = [] → a.tmps.size = n → Fr w0 w → Keeps D ρ0 a → K (envOf a) w.heap → Q .normal a w) (hQp : ∀ c a w, ¬ Q (.panic c) a w) :
    ∀ (fuel : Nat) (l : List Nat) (ad : List (Nat × Addr)) (L : Array Bool) (a : Act) (w : World) (T : Nat → World → World → Prop), Rl ops.length L l → Closed .any ops.toArray L → (∀ i ∈ l, i < ops.length) → a.defers = [] → a.tmps.size = n → Fr w0 w → Keeps D ρ0 a →
      (∀ j w1 w2, smT ops ad j w1 w2 → T j w1 w2) → drawW P n ops fuel l ad (envOf a) w.heap K → wpAnyL P .any ops.toArray Q (effF P ops) T fuel L a w := by
  intro fuel
  induction fuel with
  | zero =>
    intro l ad L a w T hR hC hl hd hs hf hkp hT h
    unfold drawW at h
    split at h
    · rename_i he
      refine ⟨?_, hQn a w hd hs hf hkp h⟩
      apply List.eq_nil_iff_forall_not_mem.2
      intro i hi
      rw [ready_iff hR hl, he] at hi
      cases hi
    · exact h.elim
  | succ fuel ih =>
    intro l ad L a w T hR hC hl hd hs hf hkp hT h
    unfold drawW at h
    split at h
    · rename_i he
      have hempty : Region.ready .any ops.toArray L = [] := by
        apply List.eq_nil_iff_forall_not_mem.2
        intro i hi
        rw [ready_iff hR hl, he] at hi
        cases hi
      refine ⟨fun _ => hQn a w hd hs hf hkp h, fun i hi => ?_⟩
      rw [hempty] at hi; cases hi
    · split at h
      · rename_i rs hrs _ i o hfq
        obtain ⟨him, ho, hk, hfree⟩ := firstQ_spec _ hfq
        have hlt : i < ops.length := (List.getElem?_eq_some_iff.1 ho).1
        have hrdy : i ∈ Region.ready .any ops.toArray L := (ready_iff hR hl i).2 him
        have ho' : ops.toArray[i]? = some o := by rw [List.getElem?_toArray]; exact ho
        have hwi := ready_waits hrdy ho'
        have hei : effF P ops i = false := by
          unfold effF; rw [ho]
          cases hb : Nat.beq (opK P o.op) 2
          · exact hb
          · have := Nat.eq_of_beq_eq_true hb; omega
        have hl' : ∀ k ∈ i :: l, k < ops.length := fun k hk => by
          rcases List.mem_cons.1 hk with rfl | hk
          · exact hlt
          · exact hl k hk
        have hun : i ∉ l := by
          have := (rdyL_mem ops l ops 0 i).1 him
          obtain ⟨_, _, _, hn, _⟩ := this
          intro hm
          rw [listedB_mem.2 hm] at hn; cases hn
        have hfr := freeB_sound hR hfree
        rcases gd_sound h with ⟨hw, hgo⟩ | ⟨hw, hsk⟩
        · split at hgo
          · -- a pure operation
            obtain ⟨v, hK, hr⟩ := opP_sound hgo
            obtain ⟨hk', hs'⟩ := aft_sound hs hK
            refine L_first (S := fun _ => True) ho' (selB_spec hsel) (fun c a' w' hq => absurd hq (hQp c _ _)) hei (fun _ _ _ _ _ _ _ _ _ _ => trivial) fuel L a w hC hfr hrdy
              (.inl ⟨hw, fun w' _ => by rw [eval_evl]; exact hr w'⟩) trivial ?_
            exact ih (i :: l) ad _ _ w T (hR.set hlt) (hC.set ho' hwi) hl' (by rw [put_defers']; exact hd) hs' hf (hkp.put (hD o (List.mem_of_getElem? ho))) hT hk'
          · -- a load
            obtain ⟨v, a0, hK, had, hr⟩ := opL_sound hgo
            rw [had] at hK
            obtain ⟨hk', hs'⟩ := aft_sound hs hK
            refine L_mono (T' := smT ops ((i, a0) :: ad)) (fun j w1 w2 h3 => hT j w1 w2 fun oj hoj x hx => h3 oj hoj x (keepA_cons hx)) _ _ _ _ ?_
            refine L_first (S := fun w' => ∀ k u, hc w.heap (addk a0 k) = some u → hc w'.heap (addk a0 k) = some u) ho' (selB_spec hsel) (fun c a' w' hq => absurd hq (hQp c _ _)) hei ?_ fuel L a w hC hfr hrdy
              (.inl ⟨hw, fun w' hE => by rw [eval_evl]; exact hr w' hE⟩) (fun _ _ h3 => h3) ?_
            · intro j oj w1 w2 hoj hji hno hS he0 he1
              cases hej : effF P ops j with
              | false => rw [he0 hej]; exact hS
              | true =>
                rw [List.getElem?_toArray] at hoj
                intro k u hu
                refine he1 hej oj hoj a0 ?_ k u (hS k u hu)
                unfold keepA
                cases hwt : waitsB ops i 9 oj with
                | false => exact List.mem_cons_self
                | true => exact absurd (waitsB_path _ hwt) hno
            · exact ih (i :: l) ((i, a0) :: ad) _ _ w _ (hR.set hlt) (hC.set ho' hwi) hl' (by rw [put_defers']; exact hd) hs' hf (hkp.put (hD o (List.mem_of_getElem? ho))) (fun _ _ _ h3 => h3) hk'
        · obtain ⟨hk', hs'⟩ := putD_sound hs hsk
          refine L_first (S := fun _ => True) ho' (selB_spec hsel) (fun c a' w' hq => absurd hq (hQp c _ _)) hei (fun _ _ _ _ _ _ _ _ _ _ => trivial) fuel L a w hC hfr hrdy (.inr ⟨hw, rfl⟩) trivial ?_
          exact ih (i :: l) ad _ _ w T (hR.set hlt) (hC.set ho' hwi) hl' (by rw [put_defers']; exact hd) hs' hf (hkp.put (hD o (List.mem_of_getElem? ho))) hT hk'
      · rename_i rs hrs _ hnq
        refine ⟨fun he => ?_, fun i hi => ?_⟩
        · exfalso
          have : rdyL ops l 0 ops = [] := by
            apply List.eq_nil_iff_forall_not_mem.2
            intro i hi
            rw [← ready_iff hR hl, he] at hi
            cases hi
          exact hrs this
        · have him := (ready_iff hR hl i).1 hi
          have hF := andAll_mem _ h i him
          split at hF
          · rename_i o ho
            have hlt : i < ops.length := (List.getElem?_eq_some_iff.1 ho).1
            have ho' : ops.toArray[i]? = some o := by rw [List.getElem?_toArray]; exact ho
            have hwi := ready_waits hi ho'
            have hl' : ∀ k ∈ i :: l, k < ops.length := fun k hk => by
              rcases List.mem_cons.1 hk with rfl | hk
              · exact hlt
              · exact hl k hk
            have hun : i ∉ l := by
              obtain ⟨_, _, _, hn, _⟩ := (rdyL_mem ops l ops 0 i).1 him
              intro hm
              rw [listedB_mem.2 hm] at hn; cases hn
            obtain ⟨hk2, hF⟩ := bif_true hF
            have hk2' : opK P o.op = 2 := Nat.eq_of_beq_eq_true hk2
            have hei : effF P ops i = true := by unfold effF; rw [ho]; exact hk2
            unfold wpOp
            simp only [ho']
            rcases gd_sound hF with ⟨hw, hgo⟩ | ⟨hw, hsk⟩
            · rw [if_pos hw]
              refine .inl (does_wp (opW_sound hgo) fun v w' hK hfw => ?_)
              obtain ⟨hE, hK⟩ := smW_out hK
              obtain ⟨hk', hs'⟩ := aft_sound hs hK
              refine ⟨⟨fun he => (by rw [hei] at he; cases he), fun _ => hT i w w' fun oj hoj => (by rw [ho] at hoj; cases hoj; exact hE)⟩, ?_⟩
              exact ih (i :: l) ad _ _ w' T (hR.set hlt) (hC.set ho' hwi) hl' (by rw [put_defers']; exact hd) hs' (hf.trans hfw) (hkp.put (hD o (List.mem_of_getElem? ho))) hT hk'
            · rw [if_neg (by simp [hw])]
              obtain ⟨hk', hs'⟩ := putD_sound hs hsk
              refine ⟨⟨by intros; first | trivial | rfl, fun _ => hT i w w fun oj _ x _ k v h3 => h3⟩, ?_⟩
              exact ih (i :: l) ad _ _ w T (hR.set hlt) (hC.set ho' hwi) hl' (by rw [put_defers']; exact hd) hs' hf (hkp.put (hD o (List.mem_of_getElem? ho))) hT hk'
          · exact hF.elim

theorem wp_region_drawn {P : Program} {n : Nat} {ops : Array Oper} {K : Env → Heap → Prop} {w0 : World} {Q : Exit → Act → World → Prop} {id : Nat} {a : Act} {w : World} {D : List Nat} {ρ0 : Env} (hm : P.follows .mixedOrders = true) (hsel : selB ops.toList = true) (hD : ∀ o ∈ ops.toList, ∀ x, o.dst = some x → x ∈ D)
    (hQn : ∀ a w, a.defers = [] → a.tmps.size = n → Fr w0 w → Keeps D ρ0 a → K (envOf a) w.heap → Q .normal a w) (hQp : ∀ c a w, ¬ Q (.panic c) a w) (hd : a.defers = []) (hs : a.tmps.size = n) (hf : Fr w0 w) (hkp : Keeps D ρ0 a)
    (h : drawW P n ops.toList ops.toList.length [] [] (envOf a) w.heap K) : (Code.region id ops true).wp P Q a w := by
  refine wp_region_any hm ?_
  have := draw_sound (Q := Q) (D := D) (ρ0 := ρ0) hsel hD hQn hQp ops.toList.length [] [] (Array.replicate ops.size false) a { w with drawn := w.drawn + 1 } (fun _ _ _ => True) (by have := Rl.nil ops.toList.length; simpa using this)
    (fun j oj _ hj => by rw [Array.getD_eq_getD_getElem?] at hj; cases hL : (Array.replicate ops.size false)[j]? with | none => rw [hL] at hj; cases hj | some b => rw [hL] at hj; obtain ⟨hlt, hb⟩ := Array.getElem?_eq_some_iff.1 hL; simp at hb; rw [hb] at hj; cases hj) (fun i hi => by cases hi) hd hs ⟨hf.1, hf.2.1, hf.2.2⟩ hkp (fun _ _ _ _ => trivial) h
  have h2 := any_of_L _ _ _ _ this
  simpa using h2
end Go.VC
