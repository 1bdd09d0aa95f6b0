/- VcCore's conditions are sound: code, functions. -/
import Derived.Test.YtcaahhppapnbhaaDoorVcSound6
import Derived.Scope
set_option linter.unusedVariables false
set_option linter.unusedSimpArgs false

namespace Go.VC

theorem dst_mem {ops : List Oper} : ∀ o ∈ ops, ∀ x, o.dst = some x → x ∈ opDsts ops := by
  intro o ho x hx
  exact List.mem_filterMap.2 ⟨o, ho, hx⟩

theorem wth_out {X : Prop} : ∀ {k : Kd} {v : Value} {F : k.T → Prop}, k.wth v F → ∃ x : k.T, v = k.val x ∧ F x
  | .int k, v, F, h => by
    cases v <;> simp only [Kd.wth] at h
    obtain ⟨hk, h1⟩ := bif_true h
    obtain rfl := ikB_eq hk
    exact ⟨_, rfl, h1⟩
  | .bool, v, F, h => by cases v <;> simp only [Kd.wth] at h; exact ⟨_, rfl, h⟩
  | .str, v, F, h => by cases v <;> simp only [Kd.wth] at h; exact ⟨_, rfl, h⟩
  | .ptr, v, F, h => by cases v <;> simp only [Kd.wth] at h; exact ⟨_, rfl, h⟩
  | .slice, v, F, h => by cases v <;> simp only [Kd.wth] at h; exact ⟨_, rfl, h⟩
  | .map, v, F, h => by cases v <;> simp only [Kd.wth] at h; exact ⟨_, rfl, h⟩
  | .any, v, F, h => ⟨v, rfl, h⟩
theorem upd_self (ρ : Env) (s : Nat) : upd ρ s (ρ s) = ρ := by
  funext j
  unfold upd
  cases hb : Nat.beq j s with
  | true => rw [Nat.eq_of_beq_eq_true hb]; rfl
  | false => rfl
theorem ks_ap {X : Type} : ∀ (ks : List Kd) (f : FnKs ks X) (vs : List Value) (F : List Value → X → Prop) (G : X → Prop), allKs ks f F → apKs ks f vs G → ∃ f', F vs f' ∧ G f'
  | [], f, vs, F, G, h1, h2 => by cases vs <;> simp only [apKs] at h2; exact ⟨f, h1, h2⟩
  | k :: r, f, vs, F, G, h1, h2 => by
    cases vs with
    | nil => simp only [apKs] at h2
    | cons v vs =>
      obtain ⟨x, rfl, h3⟩ := wth_out (X := True) h2
      exact ks_ap r (f x) vs _ G (h1 x) h3
theorem sl_ap {X : Type} : ∀ (sl : List (Nat × SK)) (f : FnSl sl X) (ρ : Env) (F : Env → X → Prop) (G : X → Prop), allSl sl f ρ F → apSl sl f ρ G → ∃ f', F ρ f' ∧ G f'
  | [], f, ρ, F, G, h1, h2 => ⟨f, h1, h2⟩
  | (s, .one k) :: r, f, ρ, F, G, h1, h2 => by
    obtain ⟨x, hx, h3⟩ := wth_out (X := True) h2
    have h4 := h1 x
    rw [← hx, upd_self] at h4
    exact sl_ap r (f x) ρ F G h4 h3
  | (s, .agg ks) :: r, f, ρ, F, G, h1, h2 => by
    simp only [apSl] at h2
    split at h2
    · rename_i cs hc
      obtain ⟨f', h3, h4⟩ := ks_ap ks f cs.toList _ _ h1 h2
      rw [show (Value.agg ⟨cs.toList⟩) = ρ s from hc.symm, upd_self] at h3
      exact sl_ap r f' ρ F G h3 h4
    · exact h2.elim
theorem havoc_keeps {D : List Nat} {ρ : Env} {a : Act} (h : Keeps D ρ a) : havoc D ρ (envOf a) = envOf a := by
  funext j
  unfold havoc
  cases hb : D.any (Nat.beq j) with
  | true => rfl
  | false =>
    refine (h j fun hm => ?_).symm
    rw [List.any_eq_false] at hb
    exact hb j hm (Nat.beq_refl j)

theorem least {p : Nat → Prop} (h : ∃ m, p m) : ∃ m, p m ∧ ∀ k, p k → m ≤ k := by
  obtain ⟨m, hm⟩ := h
  induction m using Nat.strongRecOn with
  | _ m ih =>
    by_cases h1 : ∃ k, k < m ∧ p k
    · obtain ⟨k, hk, hp⟩ := h1
      exact ih k hk hp
    · exact ⟨m, hm, fun k hk => Nat.le_of_not_lt fun hl => h1 ⟨k, hl, hk⟩⟩
open Classical in
theorem loop_by {P : Program} {Q : Exit → Act → World → Prop} {c : Code} {a : Act} {w : World} (I : Nat → Act → World → Prop) (h0 : ∃ m, I m a w)
    (round : ∀ m a w, I m a w → c.wp P (Exit.then (fun a' w' => ∃ m', m' < m ∧ I m' a' w') Q) a w) : (Code.loop c).wp P Q a w := by
  let μ : Act → World → Nat := fun a w => if h : ∃ m, I m a w then Classical.choose (least h) else 0
  refine wp_loop (fun a w => ∃ m, I m a w) μ h0 fun a w hI => ?_
  have hm := (Classical.choose_spec (least hI)).1
  refine Code.wp_mono (fun e a' w' hq => ?_) (round _ a w hm)
  cases e with
  | normal =>
    obtain ⟨m', hlt, hI'⟩ := hq
    refine ⟨⟨m', hI'⟩, ?_⟩
    have h1 : ∃ m, I m a' w' := ⟨m', hI'⟩
    have hle := (Classical.choose_spec (least h1)).2 m' hI'
    simp only [μ, dif_pos hI, dif_pos h1]
    exact Nat.lt_of_le_of_lt hle hlt
  | _ => exact hq

theorem code_sound {P : Program} {n : Nat} {w0 : World} : ∀ (c : Code) (A : Ann) (Q : Ex → Env → Heap → Prop) (a : Act) (w : World), a.defers = [] → a.tmps.size = n → Fr w0 w →
    codeW P n c A Q (envOf a) w.heap → c.wp P (fun e a' w' => Sat n w0 Q e a' w' ∧ Keeps (dsts c) (envOf a) a') a w
  | .skip, A, Q, a, w, hd, hs, hf, h => wp_skip ⟨⟨hd, hs, hf, h⟩, fun _ _ => rfl⟩
  | .label l, A, Q, a, w, hd, hs, hf, h => wp_label ⟨⟨hd, hs, hf, h⟩, fun _ _ => rfl⟩
  | .exit id, A, Q, a, w, hd, hs, hf, h => wp_exit ⟨⟨hd, hs, hf, h⟩, fun _ _ => rfl⟩
  | .ret, A, Q, a, w, hd, hs, hf, h => wp_ret ⟨⟨hd, hs, hf, h⟩, fun _ _ => rfl⟩
  | .region id ops draw, A, Q, a, w, hd, hs, hf, h => by
    cases draw with
    | false =>
      simp only [codeW] at h
      refine wp_region_list ?_
      have := ops_sound (Q := fun e a' w' => Sat n w0 Q e a' w' ∧ Keeps (dsts (.region id ops false)) (envOf a) a') (all := ops.toList) (D := opDsts ops.toList) (ρ0 := envOf a)
        (fun a' w' h1 h2 h3 h4 h5 => ⟨⟨h1, h2, h3, h5⟩, h4⟩) ops.toList 0 a w dst_mem hd hs hf (fun _ _ => rfl) h
      simpa using this
    | true =>
      simp only [codeW] at h
      obtain ⟨hb, h1⟩ := bif_true h
      simp only [Bool.and_eq_true] at hb
      exact wp_region_drawn (D := opDsts ops.toList) (ρ0 := envOf a) hb.1 hb.2 dst_mem (fun a' w' h1 h2 h3 h4 h5 => ⟨⟨h1, h2, h3, h5⟩, h4⟩) (fun c a' w' hq => hq.1.2.2.2) hd hs hf (fun _ _ => rfl) h1
  | .cond c x y, A, Q, a, w, hd, hs, hf, h => by
    simp only [codeW] at h
    split at h
    · rename_i b hb
      have hb' : a.eval c = .bool b := by rw [eval_evl]; exact hb
      cases b with
      | true => exact wp_cond_true hb' (Code.wp_mono (fun e a' w' hq => ⟨hq.1, fun j hj => hq.2 j (fun hm => hj (List.mem_append_left _ hm))⟩) (code_sound x _ Q a w hd hs hf h))
      | false => exact wp_cond_false hb' (Code.wp_mono (fun e a' w' hq => ⟨hq.1, fun j hj => hq.2 j (fun hm => hj (List.mem_append_right _ hm))⟩) (code_sound y _ Q a w hd hs hf h))
    · exact h.elim
  | .block id x, A, Q, a, w, hd, hs, hf, h => by
    simp only [codeW] at h
    refine wp_block (Code.wp_mono (fun e a' w' hq => ?_) (code_sound x _ _ a w hd hs hf h))
    obtain ⟨⟨h1, h2, h3, h4⟩, h5⟩ := hq
    cases e with
    | exit i =>
      simp only [Exit.inBlock]
      simp only [blockQ] at h4
      by_cases hi : i = id
      · subst hi
        rw [Nat.beq_refl] at h4
        rw [if_pos rfl]
        exact ⟨⟨h1, h2, h3, h4⟩, h5⟩
      · rw [if_neg hi]
        have : Nat.beq i id = false := by
          cases hb : Nat.beq i id
          · rfl
          · exact absurd (Nat.eq_of_beq_eq_true hb) hi
        rw [this] at h4
        exact ⟨⟨h1, h2, h3, h4⟩, h5⟩
    | _ => exact ⟨⟨h1, h2, h3, h4⟩, h5⟩
  | .seq x y, A, Q, a, w, hd, hs, hf, h => by
    have plain : ∀ (A1 A2 : Ann), codeW P n x A1 (thenQ (codeW P n y A2 Q) Q) (envOf a) w.heap → (Code.seq x y).wp P (fun e a' w' => Sat n w0 Q e a' w' ∧ Keeps (dsts (.seq x y)) (envOf a) a') a w := by
      intro A1 A2 h
      refine wp_seq (Code.wp_mono (fun e a' w' hq => ?_) (code_sound x _ _ a w hd hs hf h))
      obtain ⟨⟨h1, h2, h3, h4⟩, h5⟩ := hq
      cases e with
      | normal =>
        refine Code.wp_mono (fun e a2 w2 hq => ⟨hq.1, fun j hj => ?_⟩) (code_sound y _ Q a' w' h1 h2 h3 h4)
        rw [hq.2 j (fun hm => hj (List.mem_append_right _ hm)), h5 j (fun hm => hj (List.mem_append_left _ hm))]
      | _ => exact ⟨⟨h1, h2, h3, h4⟩, fun j hj => h5 j (fun hm => hj (List.mem_append_left _ hm))⟩
    simp only [codeW] at h
    split at h
    · rename_i sl A1 A2
      obtain ⟨J, hx, hy⟩ := h
      refine wp_seq (Code.wp_mono (fun e a' w' hq => ?_) (code_sound x _ _ a w hd hs hf hx))
      obtain ⟨⟨h1, h2, h3, h4⟩, h5⟩ := hq
      cases e with
      | normal =>
        have hy' := hy (envOf a')
        rw [havoc_keeps h5] at hy'
        obtain ⟨J', h6, h7⟩ := sl_ap sl J (envOf a') _ _ hy' h4
        refine Code.wp_mono (fun e a2 w2 hq => ⟨hq.1, fun j hj => ?_⟩) (code_sound y _ Q a' w' h1 h2 h3 (h6 _ h7))
        rw [hq.2 j (fun hm => hj (List.mem_append_right _ hm)), h5 j (fun hm => hj (List.mem_append_left _ hm))]
      | _ => exact ⟨⟨h1, h2, h3, h4⟩, fun j hj => h5 j (fun hm => hj (List.mem_append_left _ hm))⟩
    · exact plain _ _ h
  | .loop x, A, Q, a, w, hd, hs, hf, h => by
    simp only [codeW] at h
    split at h
    · rename_i sl A1
      obtain ⟨I, ⟨m0, hi0⟩, hround⟩ := h
      refine loop_by (fun m a' w' => a'.defers = [] ∧ a'.tmps.size = n ∧ Fr w0 w' ∧ Keeps (dsts x) (envOf a) a' ∧ apSl sl I (envOf a') fun I' => I' w'.heap m)
        ⟨m0, hd, hs, hf, fun _ _ => rfl, hi0⟩ fun m a1 w1 ⟨g1, g2, g3, g4, g5⟩ => ?_
      have hr := hround (envOf a1)
      rw [havoc_keeps g4] at hr
      obtain ⟨I', h6, h7⟩ := sl_ap sl I (envOf a1) _ _ hr g5
      refine Code.wp_mono (fun e a' w' hq => ?_) (code_sound x _ _ a1 w1 g1 g2 g3 (h6 _ _ h7))
      obtain ⟨⟨h1, h2, h3, h4⟩, h5⟩ := hq
      have hk : Keeps (dsts x) (envOf a) a' := fun j hj => (h5 j hj).trans (g4 j hj)
      cases e with
      | normal =>
        obtain ⟨m', hlt, hm'⟩ := h4
        exact ⟨m', hlt, h1, h2, h3, hk, hm'⟩
      | _ => exact ⟨⟨h1, h2, h3, h4⟩, hk⟩
    · exact h.elim
  | .rangeFunc f ps as b, A, Q, a, w, hd, hs, hf, h => h.elim
  | .scope x, A, Q, a, w, hd, hs, hf, h => by
    refine wp_scope_straight (Code.wp_mono (fun e a' w' hq => ?_) (code_sound x _ Q a w hd hs hf h))
    cases e with
    | goto l => exact hq.1.2.2.2.elim
    | _ => exact hq
  | .goto l, A, Q, a, w, hd, hs, hf, h => h.elim
  | .refuse s, A, Q, a, w, hd, hs, hf, h => h.elim

def rvSem (ρ : Env) : ResultVar → Sem Value
  | .tmp t => pure (ρ t)
  | .cell a t => do loadVar t (← asAddr (ρ a))
theorem res_sound {P : Program} {ρ : Env} {w : World} : ∀ (rs : List ResultVar) (K : List Value → Prop), resW P w.heap ρ rs K →
    ∃ vs, vs.length = rs.length ∧ K vs ∧ (rs.mapM (rvSem ρ)).run P w = .ok vs w
  | [], K, h => ⟨[], rfl, h, rfl⟩
  | .tmp t :: r, K, h => by
    obtain ⟨vs, hl, hK, hr⟩ := res_sound r _ h
    refine ⟨ρ t :: vs, by simp [hl], hK, ?_⟩
    simp only [List.mapM_cons, rvSem, Sem.run_bind, Sem.run_pure, Result.andThen_ok, hr]
  | .cell t ty :: r, K, h => by
    simp only [resW] at h
    split at h
    · rename_i a ha
      obtain ⟨hb, h1⟩ := bif_true h
      simp only [Bool.and_eq_true] at hb
      obtain ⟨us, hlu, h2⟩ := exKs_out _ _ h1
      obtain ⟨hat, h3⟩ := cellsAt_out h2
      obtain ⟨vs, hl, hK, hr⟩ := res_sound r _ h3
      refine ⟨_ :: vs, by simp [hl], hK, ?_⟩
      have hrun := loadVar_run (P := P) (w := w) (t := ty) (a := a) (vs := us) hb.1 (by rw [beqT hb.2, hlu]) hat (fun hag e => by
        have := flat_one hb.1 hag
        rw [← hlu, e] at this
        cases this)
      simp only [List.mapM_cons, rvSem, Sem.run_bind, Sem.run_pure, Result.andThen_ok, ha, asAddr, hrun, hr]
    · exact h.elim

theorem results_run {P : Program} {fn : Func} {a : Act} {w : World} {R : Value → Heap → Prop} (h : resW P w.heap (envOf a) fn.results.toList fun vs => match vs with | [v] => R v w.heap | vs => R (.tuple ⟨vs⟩) w.heap) :
    ∃ v, (results fn a.tmps).run P w = .ok v w ∧ R v w.heap := by
  obtain ⟨vs, hl, hK, hr⟩ := res_sound _ _ h
  have hm : (fn.results.mapM (rvSem (envOf a))).run P w = .ok ⟨vs⟩ w := by
    rw [Array.mapM_eq_mapM_toList]
    simp only [Sem.run_map, hr, Result.andThen_ok]
  have he : results fn a.tmps = (do let vs ← fn.results.mapM (rvSem (envOf a)); pure (if h : vs.size = 1 then vs[0] else .tuple vs)) := by
    unfold results
    congr 1
  rw [he]
  simp only [Sem.run_bind, hm, Result.andThen_ok, Sem.run_pure]
  cases vs with
  | nil => exact ⟨_, rfl, hK⟩
  | cons v r =>
    cases r with
    | nil => exact ⟨_, rfl, hK⟩
    | cons u r => exact ⟨_, rfl, hK⟩

theorem env0_eq {args : Array Value} {n : Nat} : envOf { tmps := args ++ Array.replicate (n - args.size) undef, defers := [] } = env0 args := by
  funext j
  simp only [envOf, env0, Array.getD_eq_getD_getElem?, List.getD_eq_getElem?_getD, Array.getElem?_toList]
  by_cases hj : j < args.size
  · rw [Array.getElem?_append_left hj]
  · rw [Array.getElem?_append_right (by omega), Array.getElem?_eq_none (xs := args) (by omega)]
    cases h : (Array.replicate (n - args.size) undef)[j - args.size]? with
    | none => rfl
    | some v =>
      obtain ⟨hlt, hv⟩ := Array.getElem?_eq_some_iff.1 h
      simp at hv
      simp [hv.symm]

/-- the whole: a function's condition is enough for a call of it -/
theorem fnI {P : Program} {f : FuncId} {A : Ann} {args : Array Value} {h : Heap} {R : Value → Heap → Prop} {W : Prop} (e : W = fnW P f A args h R) (H : W) : Fn P f args h R := by
  rw [e] at H
  unfold fnW at H
  split at H
  · rename_i fn hfn
    split at H
    · rename_i c hc
      obtain ⟨hb, H⟩ := bif_true H
      have hle : args.size ≤ fn.ntmps := by simpa using hb
      intro w hw
      subst hw
      refine calls_of_wp hfn hc ?_
      rw [← env0_eq (n := fn.ntmps)] at H
      refine Code.wp_mono (fun e a' w' hq => ?_) (code_sound (w0 := w) c A _ { tmps := args ++ Array.replicate (fn.ntmps - args.size) undef, defers := [] } w rfl (by simp; omega) (Fr.refl w) H)
      obtain ⟨⟨h1, h2, h3, h4⟩, _⟩ := hq
      cases e with
      | normal =>
        obtain ⟨v, hr, hR⟩ := results_run h4
        exact ⟨h1, v, hr, v, rfl, hR, h3⟩
      | ret =>
        obtain ⟨v, hr, hR⟩ := results_run h4
        exact ⟨h1, v, hr, v, rfl, hR, h3⟩
      | _ => exact h4.elim
    · exact H.elim
  · exact H.elim
end Go.VC
