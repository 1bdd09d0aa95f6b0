/- VcCore's conditions are sound: single operations. -/
import Derived.Test.YtcaahhppapnbhaaDoorVcCore
import Derived.OrdersHeld
import Derived.WalkKit
import Derived.WalkLawsBesides
set_option linter.unusedVariables false
set_option linter.unusedSimpArgs false

namespace Go.VC

def envOf (a : Act) : Env := fun j => a.tmps.getD j undef
def Fr (w w' : World) : Prop := w'.os = w.os ∧ w'.tape = w.tape ∧ w'.output = w.output
theorem Fr.refl (w : World) : Fr w w := ⟨rfl, rfl, rfl⟩
theorem Fr.trans {a b c : World} (h : Fr a b) (k : Fr b c) : Fr a c := ⟨k.1.trans h.1, k.2.1.trans h.2.1, k.2.2.trans h.2.2⟩

theorem eval_evl (a : Act) : a.eval = evl (envOf a) := by funext x; cases x <;> rfl
theorem upd_put {a : Act} {d : Nat} {v : Value} (h : d < a.tmps.size) : envOf (a.put (some d) v) = upd (envOf a) d v := by
  funext j
  simp only [envOf, Act.put, upd, Array.getD_eq_getD_getElem?]
  by_cases hj : d = j
  · subst hj
    have : Nat.beq d d = true := Nat.beq_refl d
    rw [this]
    simp [h]
  · have : (Nat.beq j d) = false := by
      cases hb : Nat.beq j d
      · rfl
      · exact absurd (Nat.eq_of_beq_eq_true hb).symm hj
    rw [this]
    simp [hj]
theorem putD_sound {n : Nat} {a : Act} {d : Option Nat} {v : Value} {K : Env → Prop} (hn : a.tmps.size = n) (h : putD n (envOf a) d v K) :
    K (envOf (a.put d v)) ∧ (a.put d v).tmps.size = n := by
  cases d with
  | none => exact ⟨h, hn⟩
  | some d =>
    simp only [putD] at h
    cases hb : Nat.blt d n with
    | false => rw [hb] at h; exact h.elim
    | true =>
      rw [hb] at h
      have hd : d < a.tmps.size := by rw [hn]; simpa using hb
      exact ⟨by rw [upd_put hd]; exact h, by simp [Act.put, hn]⟩

theorem ikB_eq {j k : IntKind} (h : ikB j k = true) : j = k := by cases j <;> cases k <;> first | rfl | cases h
theorem bif_true {b : Bool} {p : Prop} (h : bif b then p else False) : b = true ∧ p := by cases b <;> simp_all

theorem intCmp_run {P : Program} {w : World} {op : BinOp} {x y : Int} : (Op.intCmp op x y).run P w = (match op with | .eql => Result.ok (Value.bool (x == y)) w | .neq => .ok (.bool (x != y)) w | .lss => .ok (.bool (decide (x < y))) w | .leq => .ok (.bool (decide (x ≤ y))) w | .gtr => .ok (.bool (decide (x > y))) w | .geq => .ok (.bool (decide (x ≥ y))) w | _ => (Op.intCmp op x y).run P w) := by
  cases op <;> rfl

theorem eqGuard_plain {P : Program} {w : World} {op : BinOp} {t : TypeId} {x y : Operand} {a b : Value} (h : ∀ cs ds, ¬ (a = .agg cs ∧ b = .agg ds)) (h2 : ¬ (a = .nilIface ∧ b = .nilIface)) :
    (eqGuard op t x y a b).run P w = .ok () w := by
  unfold eqGuard
  cases op <;> simp <;> (split <;> simp_all)

theorem binW_plain {P : Program} {op : BinOp} {t : TypeId} {x y : Value} {xo yo : Operand} {v : Value} {w : World} (hg : (eqGuard op t xo yo x y).run P w = .ok () w) (h : (binOp op t x y).run P w = .ok v w) :
    (do eqGuard op t xo yo x y; binOp op t x y : Sem Value).run P w = .ok v w := by
  simp [hg, h]
theorem eql_of {P : Program} {t : TypeId} {x y : Value} {b : Bool} {w : World} (he : binOp .eql t x y = (do pure (.bool (← Op.equal t x y)))) (h : (Op.equalIn (9999 + 1) t x y).run P w = .ok b w) : (binOp .eql t x y).run P w = .ok (.bool b) w := by
  have h' : (Op.equal t x y).run P w = .ok b w := h
  rw [he]; simp [h']
theorem neq_of {P : Program} {t : TypeId} {x y : Value} {b : Bool} {w : World} (he : binOp .neq t x y = (do pure (.bool (!(← Op.equal t x y))))) (h : (Op.equalIn (9999 + 1) t x y).run P w = .ok b w) : (binOp .neq t x y).run P w = .ok (.bool (!b)) w := by
  have h' : (Op.equal t x y).run P w = .ok b w := h
  rw [he]; simp [h']

theorem binW_int {P : Program} {op : BinOp} {t : TypeId} {k k' : IntKind} {a b : Int} {xo yo : Operand} {K : Value → Prop} (h : binW P op t (.int k a) (.int k' b) K) :
    ∃ v, K v ∧ ∀ w, (do eqGuard op t xo yo (.int k a) (.int k' b); binOp op t (.int k a) (.int k' b) : Sem Value).run P w = .ok v w := by
  cases op <;> simp only [binW] at h <;>
    first
    | exact h.elim
    | (obtain ⟨hk, h1⟩ := bif_true h
       clear h
       obtain rfl := ikB_eq hk
       first
       | (obtain ⟨h0, h1⟩ := h1
          refine ⟨_, h1, fun w => binW_plain (eqGuard_plain (by simp) (by simp)) ?_⟩
          simp [binOp, Op.intDiv, h0]; done)
       | (refine ⟨_, h1, fun w => binW_plain (eqGuard_plain (by simp) (by simp)) ?_⟩
          simp [binOp, Op.intArith, Op.intCmp]))

theorem binW_str {P : Program} {op : BinOp} {t : TypeId} {a b : ByteArray} {xo yo : Operand} {K : Value → Prop} (h : binW P op t (.string a) (.string b) K) :
    ∃ v, K v ∧ ∀ w, (do eqGuard op t xo yo (.string a) (.string b); binOp op t (.string a) (.string b) : Sem Value).run P w = .ok v w := by
  cases op <;> simp only [binW] at h <;>
    first
    | exact h.elim
    | (obtain ⟨h0, h⟩ := h
       refine ⟨_, h, fun w => binW_plain (eqGuard_plain (by simp) (by simp)) ?_⟩
       have : ¬ ((((a.size + b.size : Nat)) : Int) > IntKind.i64.max) := by simp [IntKind.max, IntKind.signed, IntKind.bits]; omega
       simp only [binOp, Op.stringOp, this, if_false]; rfl)
    | (refine ⟨_, h, fun w => binW_plain (eqGuard_plain (by simp) (by simp)) ?_⟩
       simp [binOp, Op.stringOp])

theorem binW_bool {P : Program} {op : BinOp} {t : TypeId} {a b : Bool} {xo yo : Operand} {K : Value → Prop} (h : binW P op t (.bool a) (.bool b) K) :
    ∃ v, K v ∧ ∀ w, (do eqGuard op t xo yo (.bool a) (.bool b); binOp op t (.bool a) (.bool b) : Sem Value).run P w = .ok v w := by
  cases op <;> simp only [binW] at h <;> try exact h.elim
  all_goals
    obtain ⟨hk, h1⟩ := bif_true h
    have hu : P.underlying t = some .bool := by split at hk <;> simp_all
    refine ⟨_, h1, fun w => binW_plain (eqGuard_plain (by simp) (by simp)) ?_⟩
    first | refine eql_of rfl ?_ | refine neq_of rfl ?_
    generalize 9999 = d
    simp [Op.equalIn, underlying, hu]

theorem binW_slice {P : Program} {op : BinOp} {t : TypeId} {a b : Option Addr} {n c m d : Nat} {xo yo : Operand} {K : Value → Prop} (h : binW P op t (.slice a n c) (.slice b m d) K) :
    ∃ v, K v ∧ ∀ w, (do eqGuard op t xo yo (.slice a n c) (.slice b m d); binOp op t (.slice a n c) (.slice b m d) : Sem Value).run P w = .ok v w := by
  cases op <;> cases a <;> cases b <;> simp only [binW] at h <;> try exact h.elim
  all_goals
    obtain ⟨hk, h1⟩ := bif_true h
    have hu : ∃ e, P.underlying t = some (.slice e) := by split at hk <;> simp_all
    obtain ⟨e, hu⟩ := hu
    refine ⟨_, h1, fun w => binW_plain (eqGuard_plain (by simp) (by simp)) ?_⟩
    first | refine eql_of rfl ?_ | refine neq_of rfl ?_
    generalize 9999 = d
    simp [Op.equalIn, underlying, hu]

theorem binW_ptr {P : Program} {op : BinOp} {t : TypeId} {a b : Option Addr} {xo yo : Operand} {K : Value → Prop} (h : binW P op t (.pointer a) (.pointer b) K) :
    ∃ v, K v ∧ ∀ w, (do eqGuard op t xo yo (.pointer a) (.pointer b); binOp op t (.pointer a) (.pointer b) : Sem Value).run P w = .ok v w := by
  cases op <;> cases a <;> cases b <;> simp only [binW] at h <;> try exact h.elim
  all_goals
    obtain ⟨hk, h1⟩ := bif_true h
    have hu : ∃ e, P.underlying t = some (.pointer e) := by split at hk <;> simp_all
    obtain ⟨e, hu⟩ := hu
    refine ⟨_, h1, fun w => binW_plain (eqGuard_plain (by simp) (by simp)) ?_⟩
    first | refine eql_of rfl ?_ | refine neq_of rfl ?_
    generalize 9999 = d
    simp [Op.equalIn, underlying, hu]

theorem eqC_fields {P : Program} {xs ys : List Value} {d : Nat} : ∀ (fs : List Field) (k : Nat) (us vs : List Value) (F : Bool → Prop),
    xs.drop k = us → ys.drop k = vs → eqC P k fs us vs F → ∃ b, F b ∧ ∀ w, (Op.eqFields (d + 1) ⟨xs⟩ ⟨ys⟩ fs).run P w = .ok b w
  | [], k, us, vs, F, hu, hv, h => by
    cases us <;> cases vs <;> simp only [eqC] at h
    exact ⟨true, h, fun _ => rfl⟩
  | f :: fs, k, us, vs, F, hu, hv, h => by
    cases us with
    | nil => simp [eqC] at h
    | cons u us =>
      cases vs with
      | nil => simp [eqC] at h
      | cons v vs =>
        simp only [eqC] at h
        obtain ⟨hc, h1⟩ := bif_true h
        clear h
        simp only [Bool.and_eq_true, Bool.not_eq_true', beq_eq_false_iff_ne, ne_eq] at hc
        obtain ⟨ho, hn⟩ := hc
        have ho' : f.offset = k := Nat.eq_of_beq_eq_true ho
        have hu' : xs.drop (k + 1) = us := by rw [← List.drop_drop, hu]; rfl
        have hv' : ys.drop (k + 1) = vs := by rw [← List.drop_drop, hv]; rfl
        have hx : xs[k]? = some u := by
          have := congrArg (·[0]?) hu
          simpa using this
        have hy : ys[k]? = some v := by
          have := congrArg (·[0]?) hv
          simpa using this
        have pr : ∀ (cs : List Value) (z : Value) (w : World) (dsc : TypeDesc), P.underlying f.type = some dsc → (∀ fs, dsc ≠ .struct fs) → (∀ n e, dsc ≠ .array n e) → cs[k]? = some z → (part f.type ⟨cs⟩ f.offset).run P w = .ok z w := by
          intro cs z w dsc hd h1 h2 hz
          rw [ho']
          have hz' : (Array.mk cs)[k]? = some z := by simpa using hz
          have hag : (isAgg f.type).run P w = .ok false w := by
            cases dsc <;> first | exact absurd rfl (h1 _) | exact absurd rfl (h2 _ _) | simp [isAgg, run_underlying hd]
          simp [part, hag, hz']
        have ih := fun (G : Bool → Prop) (hG : eqC P (k + 1) fs us vs G) => eqC_fields (P := P) (xs := xs) (ys := ys) (d := d) fs (k + 1) us vs G hu' hv' hG
        have fin : ∀ (w : World) (e : Bool) (dsc : TypeDesc), P.underlying f.type = some dsc → (∀ fs, dsc ≠ .struct fs) → (∀ n e, dsc ≠ .array n e) → (Op.equalIn (d + 1) f.type u v).run P w = .ok e w → ∀ r, (Op.eqFields (d + 1) ⟨xs⟩ ⟨ys⟩ fs).run P w = .ok r w → (Op.eqFields (d + 1) ⟨xs⟩ ⟨ys⟩ (f :: fs)).run P w = .ok (e && r) w := by
          intro w e dsc hd h1 h2 he r hr
          simp only [Op.eqFields, Sem.run_bind, Sem.run_ite, hn, ne_eq, not_false_eq_true, if_true]
          rw [pr xs u w dsc hd h1 h2 hx]
          simp only [Result.andThen_ok]
          rw [pr ys v w dsc hd h1 h2 hy]
          simp only [Result.andThen_ok]
          rw [he]
          cases e <;> simp [hr]
        split at h1
        · rename_i k' j a l b hd
          obtain ⟨hk, h2⟩ := bif_true h1
          obtain rfl := ikB_eq hk
          obtain ⟨r, hF, hrun⟩ := ih _ h2
          exact ⟨_, hF, fun w => fin w _ _ hd (by simp) (by simp) (run_equalIn_int w d f.type j k' a b hd) r (hrun w)⟩
        · rename_i a b hd
          obtain ⟨r, hF, hrun⟩ := ih _ h1
          exact ⟨_, hF, fun w => fin w _ _ hd (by simp) (by simp) (run_equalIn_string w d f.type a b hd) r (hrun w)⟩
        · rename_i a b hd
          obtain ⟨r, hF, hrun⟩ := ih _ h1
          exact ⟨_, hF, fun w => fin w _ _ hd (by simp) (by simp) (run_equalIn_bool' w d f.type a b hd) r (hrun w)⟩
        · exact h1.elim

theorem eqS_sound {P : Program} {t : TypeId} {xs ys : Array Value} {F : Bool → Prop} (h : eqS P t xs.toList ys.toList F) :
    P.eqGuardType P.depth t = false ∧ ∃ b, F b ∧ ∀ w, (Op.equalIn 10000 t (.agg xs) (.agg ys)).run P w = .ok b w := by
  unfold eqS at h
  split at h
  · rename_i fs hu
    obtain ⟨hb, h1⟩ := bif_true h
    simp only [Bool.and_eq_true, Bool.not_eq_true'] at hb
    refine ⟨hb.2, ?_⟩
    have hf : P.fieldsOf t = fs := by simp [Program.fieldsOf, hu]
    obtain ⟨b, hF, hrun⟩ := eqC_fields (P := P) (xs := xs.toList) (ys := ys.toList) (d := 9998) fs.toList 0 _ _ F rfl rfl h1
    refine ⟨b, hF, fun w => ?_⟩
    have := run_equalIn_agg (P := P) w 9999 t xs ys (by rw [hf]; exact hu) hb.1
    rw [hf] at this
    exact this.trans (hrun w)
  · exact h.elim

theorem binW_agg {P : Program} {op : BinOp} {t : TypeId} {a b : Array Value} {xo yo : Operand} {K : Value → Prop} (h : binW P op t (.agg a) (.agg b) K) :
    ∃ v, K v ∧ ∀ w, (do eqGuard op t xo yo (.agg a) (.agg b); binOp op t (.agg a) (.agg b) : Sem Value).run P w = .ok v w := by
  cases op <;> simp only [binW] at h <;> try exact h.elim
  · obtain ⟨hm, e, hK, he⟩ := eqS_sound h
    refine ⟨_, hK, fun w => binW_plain (run_eqGuard_agg w _ t xo yo a b hm) ?_⟩
    rw [run_eql_struct, he]; rfl
  · obtain ⟨hm, e, hK, he⟩ := eqS_sound h
    refine ⟨_, hK, fun w => binW_plain (run_eqGuard_agg w _ t xo yo a b hm) ?_⟩
    rw [run_neq_struct, he]; rfl

theorem binW_sound {P : Program} {op : BinOp} {t : TypeId} {x y : Value} {xo yo : Operand} {K : Value → Prop} (h : binW P op t x y K) :
    ∃ v, K v ∧ ∀ w, (do eqGuard op t xo yo x y; binOp op t x y : Sem Value).run P w = .ok v w := by
  cases x with
  | int k a => cases y with
    | int k' b => exact binW_int h
    | _ => cases op <;> exact h.elim
  | string a => cases y with
    | string b => exact binW_str h
    | _ => cases op <;> exact h.elim
  | bool a => cases y with
    | bool b => exact binW_bool h
    | _ => cases op <;> exact h.elim
  | slice a n c => cases y with
    | slice b m d => exact binW_slice h
    | _ => cases op <;> cases a <;> exact h.elim
  | pointer a => cases y with
    | pointer b => exact binW_ptr h
    | _ => cases op <;> cases a <;> exact h.elim
  | agg a => cases y with
    | agg b => exact binW_agg h
    | _ => cases op <;> exact h.elim
  | _ => cases op <;> exact h.elim
end Go.VC
