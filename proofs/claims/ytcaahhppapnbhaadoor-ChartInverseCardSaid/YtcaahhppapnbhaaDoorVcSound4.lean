/- VcCore's conditions are sound: operations that write or make memory, or call. -/
import Derived.Test.YtcaahhppapnbhaaDoorVcSound3
set_option linter.unusedVariables false
set_option linter.unusedSimpArgs false

namespace Go.VC

theorem flat_one {P : Program} {t : TypeId} (ht : isT P t = true) (hag : aggB P t = false) : (flat P 9 t).length = 1 := by
  obtain ⟨d, hd⟩ := isT_und ht
  unfold aggB at hag
  rw [hd] at hag
  cases d <;> first | (cases hag; done) | simp [flat, hd]

theorem opL_sound {P : Program} {ρ : Env} {o : Oper} {h : Heap} {K : Value → Prop} (hh : opL P ρ o h K) :
    ∃ v a, K v ∧ adAt ρ o = some a ∧ ∀ w : World, (∀ k u, hc h (addk a k) = some u → hc w.heap (addk a k) = some u) → (execOp (evl ρ) o).run P w = .ok (.value v) w := by
  unfold opL at hh
  split at hh
  · rename_i t x ho
    split at hh
    · rename_i a hx
      obtain ⟨hb, h1⟩ := bif_true hh
      simp only [Bool.and_eq_true] at hb
      obtain ⟨vs, hl, h2⟩ := exKs_out _ _ h1
      obtain ⟨hat, hK⟩ := cellsAt_out h2
      refine ⟨_, a, hK, by unfold adAt; rw [ho]; simp only [hx], fun w hE => ?_⟩
      have hat' : atC w.heap a vs := fun i v hv => hE i v (hat i v hv)
      have hr := loadVar_run (P := P) (w := w) (t := t) (a := a) (vs := vs) hb.1 (by rw [beqT hb.2, hl]) hat' (fun hag e => by
        have := flat_one hb.1 hag
        rw [← hl, e] at this
        cases this)
      simp [execOp, ho, hx, Instr.loadAt, Instr.sureAddr, hr]
    · exact hh.elim
  · exact hh.elim

/-- what an operation leaves: a value and a world with the heap asked for, or a call that does -/
def Does (P : Program) (w : World) (r : Result Next) (K : Value → Heap → Prop) : Prop :=
  (∃ v w', r = .ok (.value v) w' ∧ K v w'.heap ∧ Fr w w') ∨ (∃ w', r = .ok .skip w' ∧ K undef w'.heap ∧ Fr w w') ∨
  (∃ f args, r = .ok (.enter f args) w ∧ Calls P f args w fun e w' => ∃ v, e = .returned v ∧ K v w'.heap ∧ Fr w w')

theorem hset_heap (w : World) (a : Addr) (v : Value) : (w.setCell a v).heap = hset w.heap a v := rfl
theorem setCell_fr (w : World) (a : Addr) (v : Value) : Fr w (w.setCell a v) := ⟨rfl, rfl, rfl⟩

theorem hset_other {h : Heap} {a : Addr} {v : Value} {b : Nat} (hb : b ≠ a.block) : (hset h a v)[b]? = h[b]? := by
  unfold hset
  rw [Array.getElem?_modify, if_neg (fun e => hb e.symm)]
theorem hc_hset_ne {h : Heap} {a b : Addr} {v : Value} (hne : b.block ≠ a.block ∨ (b.off ≠ a.off)) : hc (hset h a v) b = hc h b := by
  by_cases hb : b.block = a.block
  · have ho : b.off ≠ a.off := by rcases hne with h1 | h1; exact absurd hb h1; exact h1
    unfold hc hset
    rw [Array.getElem?_modify, if_pos hb.symm, hb]
    cases h[a.block]? with
    | none => rfl
    | some o =>
      cases o <;> try rfl
      rename_i c e f
      simp only [Option.map_some]
      by_cases hs : a.spot.isSome
      · simp [hs]
      · simp only [hs, Bool.false_eq_true, if_false]
        rw [Array.getElem?_setIfInBounds_ne (by omega)]
  · unfold hc
    rw [hset_other hb]
theorem hc_hset_isSome {h : Heap} {a b : Addr} {v : Value} (hs : (hc h b).isSome = true) : (hc (hset h a v) b).isSome = true := by
  by_cases hb : b.block = a.block
  · unfold hc hset at *
    rw [Array.getElem?_modify, if_pos hb.symm]
    rw [hb] at hs ⊢
    cases hx : h[a.block]? with
    | none => rw [hx] at hs; cases hs
    | some o =>
      rw [hx] at hs
      cases o <;> try (cases hs; done)
      rename_i c e f
      simp only [Option.map_some]
      simp only [] at hs
      split
      · rename_i h1; rw [if_pos h1] at hs; cases hs
      · rename_i h1
        rw [if_neg h1] at hs
        by_cases h2 : a.spot.isSome
        · simpa [h2] using hs
        · simp only [h2, Bool.false_eq_true, if_false]
          have : b.off < c.size := by
            cases hc2 : c[b.off]? with
            | none => rw [hc2] at hs; cases hs
            | some v => exact (Array.getElem?_eq_some_iff.1 hc2).1
          simp [this]
  · unfold hc at *
    rw [hset_other hb]; exact hs
theorem fz_hset {h : Heap} {a b : Addr} {v : Value} : fz (hset h a v) b = fz h b := by
  by_cases hb : b.block = a.block
  · unfold fz hset
    rw [Array.getElem?_modify, if_pos hb.symm, hb]
    cases h[a.block]? with
    | none => rfl
    | some o => cases o <;> rfl
  · unfold fz
    rw [hset_other hb]

theorem oneB_cell {v : Value} (h : oneB v = true) : v.oneCell' = true := by cases v <;> first | rfl | cases h
theorem store_run {P : Program} {w : World} {a : Addr} {v : Value} (hv : oneB v = true) (hs : (hc w.heap a).isSome = true) (hf : fz w.heap a = false) : (store a v).run P w = .ok () (w.setCell a v) := by
  have := run_store P w a v .plain (oneB_cell hv)
  rw [this]
  obtain ⟨u, hu⟩ := Option.isSome_iff_exists.1 hs
  have h1 : w.cell? a = some u := hu
  have h2 : w.frozen? a = false := hf
  simp [h1, h2]

theorem storeCells_run {P : Program} {a : Addr} : ∀ (vs : List Value) (i : Nat) (w : World), vs.all oneB = true → (∀ j, j < vs.length → (hc w.heap (addk a (i + j))).isSome = true ∧ fz w.heap (addk a (i + j)) = false) →
    ∃ w', (storeCells a vs i).run P w = .ok () w' ∧ w'.heap = hputs w.heap a i vs ∧ Fr w w'
  | [], i, w, _, _ => ⟨w, rfl, rfl, Fr.refl w⟩
  | v :: vs, i, w, h1, hok => by
    simp only [List.all_cons, Bool.and_eq_true] at h1
    have h0 := hok 0 (by simp)
    rw [Nat.add_zero] at h0
    obtain ⟨w', hr, hh, hf⟩ := storeCells_run (P := P) (a := a) vs (i + 1) (w.setCell (addk a i) v) h1.2 (fun j hj => by
      have := hok (j + 1) (by simpa using hj)
      rw [show i + 1 + j = i + (j + 1) by omega]
      rw [hset_heap]
      exact ⟨hc_hset_isSome this.1, by rw [fz_hset]; exact this.2⟩)
    refine ⟨w', ?_, hh, (setCell_fr w _ v).trans hf⟩
    simp only [storeCells, Sem.run_bind, addk_add, store_run h1.1 h0.1 h0.2, Result.andThen_ok, hr]

theorem opE_store {P : Program} {ρ : Env} {o : Oper} {w : World} {K : Value → Heap → Prop} {t : TypeId} {x y : Operand} (ho : o.op = .store t x y) (h : opE P ρ o w.heap K) : Does P w ((execOp (evl ρ) o).run P w) K := by
  unfold opE at h
  rw [ho] at h
  simp only at h
  split at h
  · rename_i a hx
    obtain ⟨hb, h1⟩ := bif_true h
    simp only [Bool.and_eq_true] at hb
    obtain ⟨ha, hok, hK⟩ := bif_true h1
    obtain ⟨w', hr, hh, hf⟩ := storeCells_run (P := P) (a := a) (evl ρ y).cells.toList 0 w ha (fun j hj => by rw [Nat.zero_add]; exact hok j hj)
    refine .inr (.inl ⟨w', ?_, hK _ hh, hf⟩)
    have hsz : ¬ (evl ρ y).cells.size ≠ szOf P t := by rw [beqT hb.2]; simp
    simp only [execOp, ho, Instr.storeAt, hx, Instr.sureAddr, storeVar, Sem.run_bind, Sem.run_pure, Result.andThen_ok, sizeOf_run hb.1, Sem.run_ite, hsz, if_false]
    rw [hr]
    rfl
  · exact h.elim

theorem newRow_run {P : Program} {w : World} (e : TypeId) (c : Array Value) : (newRow e c).run P w = .ok ⟨w.heap.size, 0, none⟩ (w.alloc (.cells c e)) := rfl
theorem opE_alloc {P : Program} {ρ : Env} {o : Oper} {w : World} {K : Value → Heap → Prop} {t : TypeId} (ho : o.op = .alloc t) (h : opE P ρ o w.heap K) : Does P w ((execOp (evl ρ) o).run P w) K := by
  unfold opE at h
  rw [ho] at h
  simp only at h
  split at h
  · rename_i z hz
    refine .inl ⟨_, w.alloc (.cells z.cells t), ?_, h _ rfl, rfl, rfl, rfl⟩
    cases hi : P.info? t with
    | none => rw [hi] at hz; cases hz
    | some i =>
      rw [hi] at hz
      simp only [Option.bind_some] at hz
      have hzr : (zeroValue t).run P w = .ok z w := by simp [zeroValue, typeInfo, hi, hz]
      simp only [execOp, ho, Instr.alloc, newVar, Sem.run_bind, hzr, Result.andThen_ok, newRow_run, Sem.run_pure]
  · exact h.elim
theorem opE_box {P : Program} {ρ : Env} {o : Oper} {w : World} {K : Value → Heap → Prop} {t : TypeId} {x : Operand} (ho : o.op = .box t x) (h : opE P ρ o w.heap K) : Does P w ((execOp (evl ρ) o).run P w) K := by
  unfold opE at h
  rw [ho] at h
  simp only at h
  refine .inl ⟨_, w.alloc (.cells (evl ρ x).cells t), ?_, h _ rfl, rfl, rfl, rfl⟩
  simp only [execOp, ho, Instr.box, newVar, Sem.run_bind, Result.andThen_ok, newRow_run, Sem.run_pure]

theorem reps_len : ∀ (n : Nat) (l : List Value), (reps n l).length = n * l.length
  | 0, l => by simp [reps]
  | n + 1, l => by simp [reps, reps_len n l, Nat.succ_mul]; omega
theorem reps_get : ∀ (n : Nat) (l : List Value) (i : Nat), i < n * l.length → (reps n l)[i]? = l[i % l.length]?
  | 0, l, i, h => by simp at h
  | n + 1, l, i, h => by
    simp only [reps]
    by_cases hi : i < l.length
    · rw [List.getElem?_append_left hi, Nat.mod_eq_of_lt hi]
    · rw [List.getElem?_append_right (by omega), reps_get n l (i - l.length) (by have : (n + 1) * l.length = n * l.length + l.length := Nat.succ_mul n l.length; omega)]
      rw [← Nat.mod_eq_sub_mod (by omega)]
/-- the row of zeros that buildSlice and makeSlice begin with -/
theorem zeros_row (z : Array Value) (n : Nat) (hz : 0 < z.size) : ((Array.range (n * z.size)).map (fun i => z[i % z.size]!)) = ⟨reps n z.toList⟩ := by
  apply Array.ext'
  apply List.ext_getElem?
  intro i
  simp only [Array.toList_map, Array.toList_range, List.getElem?_map]
  by_cases hi : i < n * z.size
  · rw [List.getElem?_range hi, reps_get n z.toList i (by simpa using hi)]
    have hm : i % z.size < z.size := Nat.mod_lt _ hz
    simp [hm]
  · rw [List.getElem?_eq_none (by simpa using hi), List.getElem?_eq_none (by rw [reps_len]; simpa using hi)]
    rfl
theorem zero_of {P : Program} {e : TypeId} (h : ((P.info? e).bind (·.zero)).isSome = true) : ∃ z, zeroC P e = z.cells.toList ∧ ∀ w, (zeroValue e).run P w = .ok z w := by
  obtain ⟨z, hz⟩ := Option.isSome_iff_exists.1 h
  refine ⟨z, by simp [zeroC, hz], fun w => ?_⟩
  cases hi : P.info? e with
  | none => rw [hi] at hz; cases hz
  | some i => rw [hi] at hz; simp only [Option.bind_some] at hz; simp [zeroValue, typeInfo, hi, hz]

theorem opE_buildSlice {P : Program} {ρ : Env} {o : Oper} {w : World} {K : Value → Heap → Prop} {t : TypeId} {n : Nat} {ps : Array (Nat × Operand)} (ho : o.op = .buildSlice t n ps) (h : opE P ρ o w.heap K) :
    Does P w ((execOp (evl ρ) o).run P w) K := by
  unfold opE at h
  rw [ho] at h
  simp only at h
  obtain ⟨hb, h1⟩ := bif_true h
  simp only [Bool.and_eq_true] at hb
  obtain ⟨⟨⟨⟨⟨hs, ht⟩, hz⟩, hzl⟩, hpos⟩, hle⟩ := hb
  have hu := sliceB_e hs
  obtain ⟨z, hzc, hzr⟩ := zero_of hz
  generalize elemOf P t = e at *
  have hsz : szOf P e = z.cells.size := by have := beqT hzl; rw [hzc] at this; rw [← this]; simp
  have hp : 0 < z.cells.size := by rw [← hsz]; simpa using hpos
  have hle' : ¬ n * szOf P e > 2 ^ 24 := by simp at hle; omega
  have hps : (ps.map fun (i, x) => (i, evl ρ x)).toList = prts ρ ps := by simp [prts]
  have fin : ∀ l', Instr.fill (fun i => some (i * szOf P e, szOf P e)) ⟨reps n (zeroC P e)⟩ (prts ρ ps) = some ⟨l'⟩ →
      (execOp (evl ρ) o).run P w = .ok (.value (.slice (some ⟨w.heap.size, 0, none⟩) n n)) (w.alloc (.cells ⟨l'⟩ e)) := by
    intro l' hf
    by_cases h0 : n * szOf P e = 0
    · have hn : n = 0 := by rcases Nat.mul_eq_zero.1 h0 with h | h; exact h; omega
      have hrow : ((Array.range (n * szOf P e)).map (fun i => (#[] : Array Value)[i % (#[] : Array Value).size]!)) = ⟨reps n (zeroC P e)⟩ := by
        rw [h0, hn]; simp [reps]
      simp only [execOp, ho, Instr.buildSlice, Sem.run_bind, run_underlying hu, Result.andThen_ok, sizeOf_run ht, if_neg hle', if_pos h0, Sem.run_pure, hps, hrow, hf, newRow_run]
    · have hrow : ((Array.range (n * szOf P e)).map (fun i => z.cells[i % z.cells.size]!)) = ⟨reps n (zeroC P e)⟩ := by
        rw [hsz, zeros_row z.cells n hp, hzc]
      simp only [execOp, ho, Instr.buildSlice, Sem.run_bind, run_underlying hu, Result.andThen_ok, sizeOf_run ht, if_neg hle', if_neg h0, Sem.run_pure, hzr, hps, hrow, hf, newRow_run]
  split at h1
  · rename_i hin
    simp only [Bool.and_eq_true] at hin
    have hl := beqT hin.1
    have hf := inOrd_fill (prts ρ ps) 0 [] (reps n (zeroC P e)) hin.2 (by simp) (by rw [reps_len, hzc]; simp [prts, ← hl, hsz])
    exact .inl ⟨_, _, fin _ (by simpa using hf), h1 _ rfl, rfl, rfl, rfl⟩
  · obtain ⟨l', hK, hf⟩ := fillE_sound _ _ _ h1
    exact .inl ⟨_, _, fin _ hf, hK _ rfl, rfl, rfl, rfl⟩

theorem reps_flat : ∀ (n : Nat) (l : List Value), reps n l = (List.replicate n l).flatten
  | 0, l => rfl
  | n + 1, l => by simp [reps, List.replicate_succ, reps_flat n l]
theorem wrap_small {n : Int} (h0 : 0 ≤ n) (h1 : n ≤ 9223372036854775807) : IntKind.i64.wrap n = n := IntWalk.i64_in n ⟨by omega, h1⟩

theorem opE_makeSlice {P : Program} {ρ : Env} {o : Oper} {w : World} {K : Value → Heap → Prop} {t : TypeId} {lo co : Operand} (ho : o.op = .makeSlice t lo co) (h : opE P ρ o w.heap K) :
    Does P w ((execOp (evl ρ) o).run P w) K := by
  unfold opE at h
  rw [ho] at h
  simp only at h
  split at h
  · rename_i k1 l k2 c hl hc'
    obtain ⟨hb, ⟨hl0, hlc, hby⟩, hK⟩ := bif_true h
    simp only [Bool.and_eq_true] at hb
    obtain ⟨⟨⟨⟨⟨hs, ht⟩, hz⟩, hzl⟩, hpos⟩, hbp⟩ := hb
    have hu := sliceB_e hs
    obtain ⟨z, hzc, hzr⟩ := zero_of hz
    generalize elemOf P t = e at *
    have hsz : szOf P e = z.cells.size := by have := beqT hzl; rw [hzc] at this; rw [← this]; simp
    have hp : 0 < z.cells.size := by rw [← hsz]; simpa using hpos
    obtain ⟨i, hi⟩ := isT_info ht
    have hbe : byOf P e = i.bytes := by simp [byOf, hi]
    have hse : szOf P e = i.size := by simp [szOf, hi]
    have hbp' : 0 < i.bytes := by rw [← hbe]; simpa using hbp
    rw [hbe] at hby
    have hc1 : c ≤ 140737488355328 := by
      have : (1 : Int) * c ≤ (i.bytes : Int) * c := Int.mul_le_mul_of_nonneg_right (by omega) (by omega)
      omega
    have hwc : IntKind.i64.wrap c = c := wrap_small (by omega) (by omega)
    have hwl : IntKind.i64.wrap l = l := wrap_small (by omega) (by omega)
    have t1 : (decide (c < 0) || decide ((i.bytes : Int) * c > 2 ^ 48)) = false := by
      have h1 : ¬ c < 0 := by omega
      have h2 : (i.bytes : Int) * c ≤ 281474976710656 := by omega
      simp [h1, h2]
    have t2 : (((decide (c < 0) || decide ((i.bytes : Int) * c > 2 ^ 48)) || decide (l < 0)) || decide (l > c)) = false := by
      rw [t1]
      have h1 : ¬ l < 0 := by omega
      have h2 : ¬ l > c := by omega
      simp [h1, h2]
    refine .inl ⟨_, w.alloc (.cells ⟨madeL P e c.toNat⟩ e), ?_, hK _ rfl, rfl, rfl, rfl⟩
    have hml : madeL P e c.toNat = reps c.toNat z.cells.toList := by rw [reps_flat, madeL, hzc]
    rw [hml]
    have tI : (typeInfo e).run P w = .ok i w := by simp [typeInfo, hi]
    have sI : (sizeOf e).run P w = .ok z.cells.size w := by rw [sizeOf_run ht, hsz]
    by_cases h0 : c.toNat * z.cells.size = 0
    · have hn : c.toNat = 0 := by rcases Nat.mul_eq_zero.1 h0 with h | h; exact h; omega
      have hrow : ((Array.range (c.toNat * z.cells.size)).map (fun i => (#[] : Array Value)[i % (#[] : Array Value).size]!)) = ⟨reps c.toNat z.cells.toList⟩ := by
        rw [h0, hn]; simp [reps]
      simp only [execOp, ho, hl, hc', Instr.makeSlice, Sem.run_bind, run_underlying hu, Result.andThen_ok, asInt, asIntOf, Sem.run_pure, tI, hwc, hwl, t2, Bool.false_eq_true, if_false, run_askRoom, sI, if_pos h0, hrow, newRow_run]
    · have hrow : ((Array.range (c.toNat * z.cells.size)).map (fun i => z.cells[i % z.cells.size]!)) = ⟨reps c.toNat z.cells.toList⟩ := zeros_row z.cells _ hp
      simp only [execOp, ho, hl, hc', Instr.makeSlice, Sem.run_bind, run_underlying hu, Result.andThen_ok, asInt, asIntOf, Sem.run_pure, tI, hwc, hwl, t2, Bool.false_eq_true, if_false, run_askRoom, sI, if_neg h0, hzr, hrow, newRow_run]
  · exact h.elim

/-- an operation that is one run of the model's -/
theorem does_run {P : Program} {ρ : Env} {o : Oper} {w : World} {K : Value → Heap → Prop} {s : Sem Value} (he : execOp (evl ρ) o = (do pure (.value (← s)))) (h : RunW P s w.heap K) : Does P w ((execOp (evl ρ) o).run P w) K := by
  obtain ⟨v, w', hr, hK, hf⟩ := h w rfl
  refine .inl ⟨v, w', ?_, hK, hf⟩
  rw [he]
  simp only [Sem.run_bind, hr, Result.andThen_ok, Sem.run_pure]
theorem does_runU {P : Program} {ρ : Env} {o : Oper} {w : World} {K : Value → Heap → Prop} {s : Sem Unit} (he : execOp (evl ρ) o = (do s; pure .skip)) (h : RunW P s w.heap fun _ h' => K undef h') : Does P w ((execOp (evl ρ) o).run P w) K := by
  obtain ⟨v, w', hr, hK, hf⟩ := h w rfl
  refine .inr (.inl ⟨w', ?_, hK, hf⟩)
  rw [he]
  simp only [Sem.run_bind, hr, Result.andThen_ok, Sem.run_pure]
theorem RunW.mono {α : Type} {P : Program} {s : Sem α} {h : Heap} {K K' : α → Heap → Prop} (hh : RunW P s h K) (hk : ∀ v h', K v h' → K' v h') : RunW P s h K' :=
  fun w hw => let ⟨v, w', hr, hK, hf⟩ := hh w hw; ⟨v, w', hr, hk _ _ hK, hf⟩
theorem Fn.mono {P : Program} {f : FuncId} {args : Array Value} {h : Heap} {R R' : Value → Heap → Prop} (hh : Fn P f args h R) (hk : ∀ v h', R v h' → R' v h') : Fn P f args h R' :=
  fun w hw => (hh w hw).mono fun _ _ ⟨v, he, hR, hf⟩ => ⟨v, he, hk _ _ hR, hf⟩
/-- a typed result is a result -/
theorem exVal_out {P : Program} {t : TypeId} {F : Value → Prop} (h : exVal P t F) : ∃ v, F v := let ⟨_, _, hF⟩ := exKs_out _ _ h; ⟨_, hF⟩
theorem exTup_out {P : Program} {v : Value} {K : Value → Prop} : ∀ (ts : List TypeId) (acc : List Value), exTup P v K ts acc → K v
  | [], _, h => by obtain ⟨he, hK⟩ := h; rw [he]; exact hK
  | _ :: r, _, h => let ⟨_, hF⟩ := exVal_out h; exTup_out r _ hF
theorem exRes_out {P : Program} {t : TypeId} {v : Value} {K : Value → Prop} (h : exRes P t v K) : K v := by
  unfold exRes at h
  split at h
  · exact exTup_out _ _ h
  · obtain ⟨u, he, hK⟩ := exVal_out h; rw [he]; exact hK
  · exact h.elim

theorem opE_call {P : Program} {ρ : Env} {o : Oper} {w : World} {K : Value → Heap → Prop} {c : Call} (ho : o.op = .call c) (h : opE P ρ o w.heap K) : Does P w ((execOp (evl ρ) o).run P w) K := by
  unfold opE at h
  rw [ho] at h
  simp only at h
  obtain ⟨callee, ⟨args⟩, ⟨ts⟩⟩ := c
  split at h
  · rename_i hc
    simp only at hc h
    subst hc
    split at h
    · rename_i s x t u ha
      refine does_run (s := Builtin.append_ #[t, u] o.type #[s, x]) (by simp [execOp, ho, resolve, invoke, Go.builtin, ha]) ?_
      exact (h o.type).mono fun v h' ⟨r, hv, hK⟩ => by rw [hv]; exact hK
    · exact h.elim
  · rename_i hc
    simp only at hc h
    subst hc
    split at h
    · rename_i s x t u ha
      refine does_run (s := Builtin.copy_ #[t, u] o.type #[s, x]) (by simp [execOp, ho, resolve, invoke, Go.builtin, ha]) ?_
      exact (h o.type).mono fun v h' ⟨r, hv, hK⟩ => by rw [hv]; exact hK
    · exact h.elim
  · rename_i hc
    simp only at hc h
    subst hc
    refine does_run (s := Builtin.len_ ⟨ts⟩ o.type (Array.map (evl ρ) ⟨args⟩)) (by simp [execOp, ho, resolve, invoke, Go.builtin]) (h.mono fun v h' hv => exRes_out hv)
  · rename_i hc
    simp only at hc h
    subst hc
    refine does_run (s := Builtin.delete_ ⟨ts⟩ o.type (Array.map (evl ρ) ⟨args⟩)) (by simp [execOp, ho, resolve, invoke, Go.builtin]) h
  · rename_i hc
    simp only at hc h
    subst hc
    refine does_run (s := Builtin.clear_ ⟨ts⟩ o.type (Array.map (evl ρ) ⟨args⟩)) (by simp [execOp, ho, resolve, invoke, Go.builtin]) h
  · rename_i f hc
    simp only at hc h
    subst hc
    split at h
    · rename_i g first cap hf
      cases hcal : callable P g with
      | false =>
        rw [hcal] at h
        obtain ⟨v, w', hr, hK, hfr⟩ := h w rfl
        refine .inl ⟨v, w', ?_, exRes_out hK, hfr⟩
        simp only [execOp, ho, resolve, Deferred.ofValue, hf, Sem.run_bind, Sem.run_pure, Result.andThen_ok, invoke]
        exact hr
      | true =>
      rw [hcal] at h
      have h1 := h
      unfold callable at hcal
      split at hcal
      · rename_i fn hfn
        simp only [Bool.and_eq_true, Bool.not_eq_true'] at hcal
        refine .inr (.inr ⟨g, first ++ Array.map (evl ρ) ⟨args⟩ ++ cap, ?_, ?_⟩)
        · obtain ⟨body, hbody⟩ := Option.isSome_iff_exists.1 hcal.1
          simp only [execOp, ho, resolve, Deferred.ofValue, hf, Sem.run_bind, Sem.run_pure, Result.andThen_ok, invoke, callFunc, run_program, hfn, hcal.2, Bool.false_eq_true, if_false, hbody, Option.isNone_some]
        · exact (h1 w rfl).mono fun e w' ⟨v, he, hR, hfr⟩ => ⟨v, he, exRes_out hR, hfr⟩
      · cases hcal
    · exact h.elim
  · exact h.elim

theorem opE_sound {P : Program} {ρ : Env} {o : Oper} {w : World} {K : Value → Heap → Prop} (h : opE P ρ o w.heap K) : Does P w ((execOp (evl ρ) o).run P w) K := by
  cases ho : o.op with
  | alloc t => exact opE_alloc ho h
  | box t x => exact opE_box ho h
  | store t x y => exact opE_store ho h
  | buildSlice t n ps => exact opE_buildSlice ho h
  | makeSlice t l c => exact opE_makeSlice ho h
  | convert s d x => unfold opE at h; rw [ho] at h; exact does_run (by simp only [execOp, ho]) (h.mono fun v h' hv => exRes_out hv)
  | lookup t m k ok => unfold opE at h; rw [ho] at h; exact does_run (by simp only [execOp, ho]) (h.mono fun v h' hv => exRes_out hv)
  | mapUpdate t m k x => unfold opE at h; rw [ho] at h; exact does_runU (by simp only [execOp, ho]) h
  | makeMap t r => unfold opE at h; rw [ho] at h; exact does_run (by simp only [execOp, ho]) (h.mono fun v h' hv => exRes_out hv)
  | range t x => unfold opE at h; rw [ho] at h; exact does_run (by simp only [execOp, ho]) (h.mono fun v h' ⟨a, hv, hK⟩ => by rw [hv]; exact hK)
  | next x s =>
    unfold opE at h; rw [ho] at h; simp only at h
    cases s with
    | true =>
      refine does_run (by simp only [execOp, ho]) (h.mono fun v h' hv => ?_)
      rcases hv with ⟨hv, hK⟩ | ⟨k, e, hv, hK⟩ <;> rw [hv] <;> exact hK
    | false =>
      refine does_run (by simp only [execOp, ho]) (h.mono fun v h' hv => ?_)
      rcases hv with ⟨hv, hK⟩ | ⟨k, e, hv, hK⟩ <;> rw [hv] <;> exact hK
  | call c => exact opE_call ho h
  | _ => unfold opE at h; rw [ho] at h; exact h.elim

theorem opW_sound {P : Program} {ρ : Env} {o : Oper} {w : World} {K : Value → Heap → Prop} (h : opW P ρ o w.heap K) : Does P w ((execOp (evl ρ) o).run P w) K := by
  unfold opW at h
  split at h
  · obtain ⟨v, hK, hr⟩ := opP_sound h
    exact .inl ⟨v, w, hr w, hK, Fr.refl w⟩
  · obtain ⟨v, _, hK, _, hr⟩ := opL_sound h
    exact .inl ⟨v, w, hr w (fun _ _ h3 => h3), hK, Fr.refl w⟩
  · exact opE_sound h
end Go.VC
