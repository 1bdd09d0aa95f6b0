/- VcCore's conditions are sound: building values; loads. -/
import Derived.Test.YtcaahhppapnbhaaDoorVcSound2
set_option linter.unusedVariables false
set_option linter.unusedSimpArgs false

namespace Go.VC

theorem splice_len (l : List Value) (off : Nat) (vs : List Value) (h : off + vs.length ≤ l.length) : (splice l off vs).length = l.length := by
  simp [splice]; omega
theorem set_fold (off : Nat) : ∀ (vs : List Value) (k : Nat) (l : List Value), off + k + vs.length ≤ l.length →
    (vs.zipIdx k).foldl (fun (cs : Array Value) (p : Value × Nat) => cs.setIfInBounds (off + p.2) p.1) ⟨l⟩ = ⟨splice l (off + k) vs⟩
  | [], k, l, _ => by simp [splice]
  | v :: r, k, l, h => by
    simp only [List.length_cons] at h
    rw [List.zipIdx_cons, List.foldl_cons]
    have e : (Array.mk l).setIfInBounds (off + k) v = ⟨l.set (off + k) v⟩ := by simp
    simp only []
    rw [e, set_fold off r (k + 1) (l.set (off + k) v) (by simp; omega)]
    congr 1
    have hl : (l.take (off + k)).length = off + k := by simp; omega
    have hset : l.set (off + k) v = (l.take (off + k) ++ [v]) ++ l.drop (off + k + 1) := by
      rw [List.set_eq_take_append_cons_drop, if_pos (by omega)]
      simp
    have hl2 : (l.take (off + k) ++ [v]).length = off + (k + 1) := by rw [List.length_append, hl]; rfl
    simp only [splice]
    rw [hset, List.take_left' hl2, List.drop_append, hl2]
    rw [show (l.take (off + k) ++ [v]).drop (off + (k + 1) + r.length) = [] from List.drop_eq_nil_of_le (by rw [hl2]; omega)]
    rw [List.drop_drop]
    simp only [List.length_cons, List.append_assoc, List.cons_append, List.nil_append]
    congr 4
    omega
theorem fill_one (cs : Array Value) (off : Nat) (v : Array Value) (h : off + v.size ≤ cs.size) :
    v.zipIdx.foldl (fun cs (p : Value × Nat) => cs.setIfInBounds (off + p.2) p.1) cs = ⟨splice cs.toList off v.toList⟩ := by
  obtain ⟨l⟩ := cs
  obtain ⟨vs⟩ := v
  have := set_fold off vs 0 l (by simpa using h)
  rw [← Array.foldl_toList]
  simpa using this

theorem fillF_sound {P : Program} {fs : List Field} : ∀ (ps : List (Nat × Value)) (l : List Value) (F : List Value → Prop), fillF P fs ps l F →
    ∃ l', F l' ∧ Instr.fill (fun i => (⟨fs.map fun f => (f.offset, szOf P f.type)⟩ : Array (Nat × Nat))[i]?) ⟨l⟩ ps = some ⟨l'⟩
  | [], l, F, h => ⟨l, h, rfl⟩
  | (i, v) :: r, l, F, h => by
    simp only [fillF] at h
    split at h
    · rename_i f hf
      obtain ⟨hb, h1⟩ := bif_true h
      simp only [Bool.and_eq_true] at hb
      have e1 := beqT hb.1.1
      have e2 : f.offset + v.cells.toList.length ≤ l.length := by simpa using hb.1.2
      obtain ⟨l', hF, hfill⟩ := fillF_sound r _ F h1
      refine ⟨l', hF, ?_⟩
      have hp : (⟨fs.map fun f => (f.offset, szOf P f.type)⟩ : Array (Nat × Nat))[i]? = some (f.offset, szOf P f.type) := by simp [hf]
      simp only [Instr.fill, hp]
      have hs : v.cells.size = szOf P f.type := by rw [e1]; simp
      have hle : ¬ f.offset + v.cells.size > (Array.mk l).size := by simp at e2 ⊢; omega
      simp only [hs, ne_eq, not_true_eq_false, false_or, decide_false, Bool.false_or]
      rw [hs] at hle
      rw [if_neg (by simpa using hle)]
      have := fill_one ⟨l⟩ f.offset v.cells (by simp at e2 ⊢; omega)
      simp only [] at this
      rw [this]
      exact hfill
    · exact h.elim

theorem fillE_sound {size : Nat} : ∀ (ps : List (Nat × Value)) (l : List Value) (F : List Value → Prop), fillE size ps l F →
    ∃ l', F l' ∧ Instr.fill (fun i => some (i * size, size)) ⟨l⟩ ps = some ⟨l'⟩
  | [], l, F, h => ⟨l, h, rfl⟩
  | (i, v) :: r, l, F, h => by
    simp only [fillE] at h
    obtain ⟨hb, h1⟩ := bif_true h
    simp only [Bool.and_eq_true] at hb
    have e1 := beqT hb.1
    have e2 : i * size + v.cells.toList.length ≤ l.length := by simpa using hb.2
    obtain ⟨l', hF, hfill⟩ := fillE_sound r _ F h1
    refine ⟨l', hF, ?_⟩
    have hs : v.cells.size = size := by rw [e1]; simp
    have hle : ¬ i * size + v.cells.size > (Array.mk l).size := by simp at e2 ⊢; omega
    simp only [Instr.fill]
    simp only [hs, ne_eq, not_true_eq_false, decide_false, Bool.false_or]
    rw [hs] at hle
    rw [if_neg (by simpa using hle)]
    have := fill_one ⟨l⟩ (i * size) v.cells (by simp at e2 ⊢; omega)
    simp only [] at this
    rw [this]
    exact hfill

/-- parts 0, 1, .. in order, as many as fit: the parts side by side -/
theorem inOrd_fill {size : Nat} : ∀ (ps : List (Nat × Value)) (k : Nat) (pre post : List Value), inOrd size k ps = true → pre.length = k * size → post.length = ps.length * size →
    Instr.fill (fun i => some (i * size, size)) ⟨pre ++ post⟩ ps = some ⟨pre ++ catV ps⟩
  | [], k, pre, post, _, _, hl => by
    have : post = [] := List.eq_nil_of_length_eq_zero (by simpa using hl)
    subst this; rfl
  | (i, v) :: r, k, pre, post, h, hp, hl => by
    simp only [inOrd, Bool.and_eq_true] at h
    obtain ⟨⟨h1, h2⟩, h3⟩ := h
    obtain rfl := beqT h1
    have hs : v.cells.size = size := by have := beqT h2; rw [this]; simp
    have hvl : v.cells.toList.length = size := by simpa using hs
    have hl' : post.length = size + r.length * size := by rw [hl, List.length_cons, Nat.succ_mul]; omega
    have hle : ¬ i * size + size > (Array.mk (pre ++ post)).size := by simp; omega
    simp only [Instr.fill, hs, ne_eq, not_true_eq_false, decide_false, Bool.false_or]
    rw [if_neg (by simpa using hle)]
    have := fill_one ⟨pre ++ post⟩ (i * size) v.cells (by simp; omega)
    simp only [] at this
    rw [this]
    have e : splice (pre ++ post) (i * size) v.cells.toList = (pre ++ v.cells.toList) ++ post.drop size := by
      simp only [splice, hvl]
      rw [← hp, List.take_left' rfl, List.drop_append]
      simp
    rw [e]
    have := inOrd_fill r (i + 1) (pre ++ v.cells.toList) (post.drop size) h3 (by simp [hp, hs, Nat.succ_mul]) (by simp; omega)
    rw [this]
    simp [catV]

theorem places_run {P : Program} {w : World} : ∀ (fs : List Field), (fs.all fun f => isT P f.type) = true →
    (fs.mapM fun f => (do pure (f.offset, ← sizeOf f.type) : Sem (Nat × Nat))).run P w = .ok (fs.map fun f => (f.offset, szOf P f.type)) w
  | [], _ => rfl
  | f :: fs, h => by
    simp only [List.all_cons, Bool.and_eq_true] at h
    have ih := places_run (P := P) (w := w) fs h.2
    simp only [List.mapM_cons, Sem.run_bind, sizeOf_run h.1, Result.andThen_ok, Sem.run_pure, ih, List.map_cons]

theorem opP_build {P : Program} {ρ : Env} {o : Oper} {K : Value → Prop} {t : TypeId} {ps : Array (Nat × Operand)} (ho : o.op = .build t ps) (h : opP P ρ o K) : Gives P ρ o K := by
  unfold opP at h
  rw [ho] at h
  simp only at h
  have hps : (ps.map fun (i, x) => (i, evl ρ x)).toList = prts ρ ps := by simp [prts]
  have zr : ∀ z, (P.info? t).bind (·.zero) = some z → ∀ w, (zeroValue t).run P w = .ok z w := by
    intro z hz w
    cases hi : P.info? t with
    | none => rw [hi] at hz; cases hz
    | some i => rw [hi] at hz; simp only [Option.bind_some] at hz; simp [zeroValue, typeInfo, hi, hz]
  split at h
  · rename_i fs hu
    obtain ⟨hb, h1⟩ := bif_true h
    simp only [Bool.and_eq_true] at hb
    obtain ⟨z, hz⟩ := Option.isSome_iff_exists.1 hb.1.2
    have hzc : zeroC P t = z.cells.toList := by simp [zeroC, hz]
    rw [hzc] at h1
    obtain ⟨l', hK, hf⟩ := fillF_sound _ _ _ h1
    refine ⟨_, hK, fun w => ?_⟩
    simp only [execOp, ho, Instr.build, Sem.run_bind, zr z hz, Result.andThen_ok, run_underlying hu]
    rw [Array.mapM_eq_mapM_toList]
    simp only [Sem.run_map, places_run fs.toList hb.2, Result.andThen_ok, hps]
    have e : (List.map (fun f => (f.offset, szOf P f.type)) fs.toList).toArray = (⟨fs.toList.map fun f => (f.offset, szOf P f.type)⟩ : Array (Nat × Nat)) := rfl
    rw [e]
    rw [show (Array.mk z.cells.toList) = z.cells from rfl] at hf
    simp only [hf]
    rfl
  · rename_i n e hu
    obtain ⟨hb, h1⟩ := bif_true h
    simp only [Bool.and_eq_true] at hb
    obtain ⟨z, hz⟩ := Option.isSome_iff_exists.1 hb.1.1.2
    have hzc : zeroC P t = z.cells.toList := by simp [zeroC, hz]
    have fin : ∀ l', Instr.fill (fun i => some (i * szOf P e, szOf P e)) z.cells (prts ρ ps) = some ⟨l'⟩ → ∀ w, (execOp (evl ρ) o).run P w = .ok (.value (.agg ⟨l'⟩)) w := by
      intro l' hf w
      simp only [execOp, ho, Instr.build, Sem.run_bind, zr z hz, Result.andThen_ok, run_underlying hu, sizeOf_run hb.1.2, hps]
      simp only [hf]
      rfl
    split at h1
    · rename_i hin
      simp only [Bool.and_eq_true] at hin
      refine ⟨_, h1, fin _ ?_⟩
      have hl := beqT hin.1
      have hl2 := beqT hb.2
      have := inOrd_fill (prts ρ ps) 0 [] z.cells.toList hin.2 (by simp) (by rw [← hzc, hl2]; simp [prts, ← hl])
      simpa using this
    · rw [hzc] at h1
      obtain ⟨l', hK, hf⟩ := fillE_sound _ _ _ h1
      exact ⟨_, hK, fin _ hf⟩
  · exact h.elim

theorem opP_binOp {P : Program} {ρ : Env} {o : Oper} {K : Value → Prop} {op : BinOp} {t u : TypeId} {x y : Operand} (ho : o.op = .binOp op t x y u) (h : opP P ρ o K) : Gives P ρ o K := by
  unfold opP at h
  rw [ho] at h
  simp only at h
  obtain ⟨v, hK, hr⟩ := binW_sound (xo := x) (yo := y) h
  refine ⟨v, hK, fun w => ?_⟩
  have := hr w
  simp only [execOp, ho, Sem.run_bind] at this ⊢
  rw [this]
  rfl

theorem opP_sound {P : Program} {ρ : Env} {o : Oper} {K : Value → Prop} (h : opP P ρ o K) : Gives P ρ o K := by
  cases ho : o.op with
  | move x => unfold opP at h; rw [ho] at h; exact ⟨_, h, fun w => by simp [execOp, ho]⟩
  | assign x => unfold opP at h; rw [ho] at h; exact ⟨_, h, fun w => by simp [execOp, ho]⟩
  | pick c a b => exact opP_pick ho h
  | nilCheck x => exact opP_nilCheck ho h
  | binOp op t x y u => exact opP_binOp ho h
  | unOp u t x => exact opP_unOp ho h
  | convert s d x => exact opP_convert ho h
  | makeFunc f x y => unfold opP at h; rw [ho] at h; exact ⟨_, h, fun w => by simp [execOp, ho, Instr.makeFunc]⟩
  | slice t x lo hi mx =>
    cases mx with
    | none => exact opP_slice ho h
    | some m =>
      cases hi with
      | none => unfold opP at h; rw [ho] at h; exact h.elim
      | some hi => exact opP_slice3 ho h
  | fieldAddr s x f => exact opP_fieldAddr ho h
  | field t x f => exact opP_field ho h
  | indexAddr t x i => exact opP_indexAddr ho h
  | index t x i => exact opP_index ho h
  | extract x i => exact opP_extract ho h
  | build t ps => exact opP_build ho h
  | makeInterface t x => exact opP_iface ho h
  | call c => exact opP_call ho h
  | _ => unfold opP at h; rw [ho] at h; exact h.elim

/- loads -/
theorem hc_lt {h : Heap} {a : Addr} {v : Value} (hv : hc h a = some v) : a.block < h.size := by
  unfold hc at hv
  cases hb : h[a.block]? with
  | none => rw [hb] at hv; cases hv
  | some o => exact (Array.getElem?_eq_some_iff.1 hb).1
theorem hc_ext {h h' : Heap} (hE : Ext h h') {a : Addr} {v : Value} (hv : hc h a = some v) : hc h' a = some v := by
  have hl := hc_lt hv
  unfold hc at *
  rw [hE.2 _ hl]; exact hv
theorem hc_cell (w : World) (a : Addr) : w.cell? a = hc w.heap a := rfl
theorem addk_block (a : Addr) (i : Nat) : (addk a i).block = a.block := by cases i <;> rfl
theorem Ext.refl (h : Heap) : Ext h h := ⟨Nat.le_refl _, fun _ _ => rfl⟩
theorem Ext.trans {a b c : Heap} (h : Ext a b) (k : Ext b c) : Ext a c := ⟨Nat.le_trans h.1 k.1, fun i hi => (k.2 i (Nat.lt_of_lt_of_le hi h.1)).trans (h.2 i hi)⟩
theorem cellsAt_out {h : Heap} {a : Addr} {vs : List Value} {K : Prop} (hh : cellsAt h a vs K) : atC h a vs ∧ K := by
  unfold cellsAt at hh
  split at hh
  · refine ⟨?_, hh.2⟩
    intro i v hv
    cases i with
    | zero => simp at hv; subst hv; exact hh.1
    | succ i => simp at hv
  · exact hh
theorem loadVar_run {P : Program} {w : World} {t : TypeId} {a : Addr} {vs : List Value} (ht : isT P t = true) (hl : szOf P t = vs.length) (hv : atC w.heap a vs) (hne : aggB P t = false → vs ≠ []) :
    (loadVar t a).run P w = .ok (pick1 (aggB P t) vs) w := by
  unfold loadVar
  simp only [Sem.run_bind, isAgg_run ht, Result.andThen_ok, Sem.run_ite]
  cases hag : aggB P t with
  | true =>
    simp only [if_true, Sem.run_bind, sizeOf_run ht, Result.andThen_ok]
    rw [hl]
    have := run_loadCells_list (P := P) w a vs (fun j v hj => by rw [addk_add]; exact hv j v hj)
    simp only [this, Result.andThen_ok, Sem.run_pure, pick1, cond]
  | false =>
    simp only [Bool.false_eq_true, if_false]
    cases vs with
    | nil => exact absurd rfl (hne hag)
    | cons v r =>
      have h0 := hv 0 v rfl
      simp only [addk] at h0
      rw [run_load, hc_cell, h0]
      rfl
end Go.VC
