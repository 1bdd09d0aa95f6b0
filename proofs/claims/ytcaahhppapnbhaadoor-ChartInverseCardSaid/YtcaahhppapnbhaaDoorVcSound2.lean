/- VcCore's conditions are sound: operations that look at no memory; loads. -/
import Derived.Test.YtcaahhppapnbhaaDoorVcSound1
set_option linter.unusedVariables false
set_option linter.unusedSimpArgs false

namespace Go.VC

theorem beqT {a b : Nat} (h : Nat.beq a b = true) : a = b := Nat.eq_of_beq_eq_true h
theorem bif_true2 {a : Bool} {p : Prop} (h : bif a then p else False) : a = true ∧ p := bif_true h
theorem isT_info {P : Program} {t : TypeId} (h : isT P t = true) : ∃ i, P.info? t = some i := by
  unfold isT at h
  simp only [Bool.and_eq_true] at h
  exact Option.isSome_iff_exists.1 h.1
theorem isT_und {P : Program} {t : TypeId} (h : isT P t = true) : ∃ d, P.underlying t = some d := by
  unfold isT at h
  simp only [Bool.and_eq_true] at h
  exact Option.isSome_iff_exists.1 h.2
theorem sizeOf_run {P : Program} {t : TypeId} {w : World} (h : isT P t = true) : (sizeOf t).run P w = .ok (szOf P t) w := by
  obtain ⟨i, hi⟩ := isT_info h
  simp [sizeOf, typeInfo, hi, szOf]
theorem isAgg_run {P : Program} {t : TypeId} {w : World} (h : isT P t = true) : (isAgg t).run P w = .ok (aggB P t) w := by
  obtain ⟨d, hd⟩ := isT_und h
  cases d <;> simp [isAgg, run_underlying hd, aggB, hd]
theorem sliceB_e {P : Program} {t : TypeId} (h : sliceB P t = true) : P.underlying t = some (.slice (elemOf P t)) := by
  unfold sliceB at h
  split at h
  · rename_i e he; simp [elemOf, he]
  · cases h
theorem strB_e {P : Program} {t : TypeId} (h : strB P t = true) : P.underlying t = some .string := by
  unfold strB at h
  split at h
  · assumption
  · cases h

theorem bounds_run {P : Program} {isS : Bool} {len cap : Nat} {lo hi : Option Value} {G : Int → Int → Prop}
    (h : intOf? lo 0 fun l => intOf? hi len fun r => (0 ≤ l ∧ l ≤ r ∧ r ≤ cap) ∧ G l r) :
    ∃ l r : Int, (0 ≤ l ∧ l ≤ r ∧ r ≤ cap) ∧ G l r ∧ ∀ w, (Instr.sliceBounds isS len cap lo hi none).run P w = .ok (l.toNat, r.toNat, cap) w := by
  have hb : ∀ (k : IntKind) (i : Int) (y : Nat) (c : BoundsCode) (w : World), 0 ≤ i → i ≤ y → (Instr.sliceBound (.int k i) y c).run P w = .ok i.toNat w := by
    intro k i y c w h0 h1
    simp [Instr.sliceBound, asIntOf, h0, h1]
  cases lo with
  | none =>
    cases hi with
    | none =>
      simp only [intOf?] at h
      exact ⟨0, len, h.1, h.2, fun w => by simp [Instr.sliceBounds]⟩
    | some v =>
      cases v with
      | int k r =>
        simp only [intOf?] at h
        refine ⟨0, r, h.1, h.2, fun w => ?_⟩
        simp [Instr.sliceBounds, hb k r cap _ w (by omega) h.1.2.2]
      | _ => exact h.elim
  | some u =>
    cases u with
    | int k l =>
      cases hi with
      | none =>
        simp only [intOf?] at h
        refine ⟨l, len, h.1, h.2, fun w => ?_⟩
        simp [Instr.sliceBounds, hb k l len _ w h.1.1 h.1.2.1]
      | some v =>
        cases v with
        | int k' r =>
          simp only [intOf?] at h
          refine ⟨l, r, h.1, h.2, fun w => ?_⟩
          have h2 : l ≤ ((r.toNat : Nat) : Int) := by omega
          simp [Instr.sliceBounds, hb k' r cap _ w (by omega) h.1.2.2, hb k l r.toNat _ w h.1.1 h2]
        | _ => exact h.elim
    | _ => exact h.elim

theorem extract_mk (cs : Array Value) (a n : Nat) : cs.extract a (a + n) = ⟨(cs.toList.drop a).take n⟩ := by
  apply Array.ext'
  simp [List.extract_eq_take_drop]

theorem addk_add (a : Addr) (n : Nat) : a.add n = addk a n := by
  cases n with
  | zero => rfl
  | succ n => rfl

/-- the value's spot: what op hands back in every world -/
def Gives (P : Program) (ρ : Env) (o : Oper) (K : Value → Prop) : Prop := ∃ v, K v ∧ ∀ w, (execOp (evl ρ) o).run P w = .ok (.value v) w

theorem opP_slice {P : Program} {ρ : Env} {o : Oper} {K : Value → Prop} {t : TypeId} {x : Operand} {lo hi : Option Operand} (ho : o.op = .slice t x lo hi none) (h : opP P ρ o K) : Gives P ρ o K := by
  unfold opP at h
  rw [ho] at h
  simp only at h
  cases hx : evl ρ x with
  | string s =>
    rw [hx] at h
    obtain ⟨ht, h1⟩ := bif_true h
    obtain ⟨l, r, hb, hG, hr⟩ := bounds_run (P := P) (isS := false) h1
    refine ⟨_, hG, fun w => ?_⟩
    have hu := strB_e ht
    simp [execOp, ho, hx, Instr.sliceAt, Instr.slice, run_underlying hu, hr]
  | slice a n c =>
    rw [hx] at h
    obtain ⟨ht, h1⟩ := bif_true h
    simp only [Bool.and_eq_true] at ht
    obtain ⟨l, r, hb, hG, hr⟩ := bounds_run (P := P) (isS := true) h1
    refine ⟨_, hG, fun w => ?_⟩
    have hu := sliceB_e ht.1
    simp [execOp, ho, hx, Instr.sliceAt, Instr.slice, run_underlying hu, hr, sizeOf_run ht.2, subA]
  | pointer p =>
    rw [hx] at h
    cases p with
    | none => exact h.elim
    | some a =>
      simp only at h
      split at h
      · rename_i n e hu
        obtain ⟨ht, h1⟩ := bif_true h
        obtain ⟨l, r, hb, hG, hr⟩ := bounds_run (P := P) (isS := false) h1
        refine ⟨_, hG, fun w => ?_⟩
        simp [execOp, ho, hx, Instr.sliceAt, Instr.sureAddr, run_underlying hu, hr, sizeOf_run ht, subA]
        split <;> rfl
      · exact h.elim
  | _ => rw [hx] at h; exact h.elim

theorem bounds_run3 {P : Program} {isS : Bool} {len cap : Nat} {lo : Option Value} {hi mx : Value} {G : Int → Int → Int → Prop}
    (h : intOf? lo 0 fun l => intOf? (some hi) len fun r => intOf? (some mx) cap fun m => (0 ≤ l ∧ l ≤ r ∧ r ≤ m ∧ m ≤ cap) ∧ G l r m) :
    ∃ l r m : Int, (0 ≤ l ∧ l ≤ r ∧ r ≤ m ∧ m ≤ cap) ∧ G l r m ∧ ∀ w, (Instr.sliceBounds isS len cap lo (some hi) (some mx)).run P w = .ok (l.toNat, r.toNat, m.toNat) w := by
  have hb : ∀ (k : IntKind) (i : Int) (y : Nat) (c : BoundsCode) (w : World), 0 ≤ i → i ≤ y → (Instr.sliceBound (.int k i) y c).run P w = .ok i.toNat w := by
    intro k i y c w h0 h1
    simp [Instr.sliceBound, asIntOf, h0, h1]
  have main : ∀ l : Int, (intOf? (some hi) len fun r => intOf? (some mx) cap fun m => (0 ≤ l ∧ l ≤ r ∧ r ≤ m ∧ m ≤ cap) ∧ G l r m) →
      ∃ (k k' : IntKind) (r m : Int), hi = .int k r ∧ mx = .int k' m ∧ (0 ≤ l ∧ l ≤ r ∧ r ≤ m ∧ m ≤ cap) ∧ G l r m := by
    intro l h
    cases hi with
    | int k r =>
      cases mx with
      | int k' m => exact ⟨k, k', r, m, rfl, rfl, h.1, h.2⟩
      | _ => exact h.elim
    | _ => exact h.elim
  cases lo with
  | none =>
    obtain ⟨k, k', r, m, rfl, rfl, hbd, hG⟩ := main 0 h
    refine ⟨0, r, m, hbd, hG, fun w => ?_⟩
    have h2 : r ≤ ((m.toNat : Nat) : Int) := by omega
    simp [Instr.sliceBounds, hb k' m cap _ w (by omega) hbd.2.2.2, hb k r m.toNat _ w (by omega) h2]
  | some u =>
    cases u with
    | int k0 l =>
      obtain ⟨k, k', r, m, rfl, rfl, hbd, hG⟩ := main l h
      refine ⟨l, r, m, hbd, hG, fun w => ?_⟩
      have h2 : r ≤ ((m.toNat : Nat) : Int) := by omega
      have h3 : l ≤ ((r.toNat : Nat) : Int) := by omega
      simp [Instr.sliceBounds, hb k' m cap _ w (by omega) hbd.2.2.2, hb k r m.toNat _ w (by omega) h2, hb k0 l r.toNat _ w (by omega) h3]
    | _ => exact h.elim
theorem opP_slice3 {P : Program} {ρ : Env} {o : Oper} {K : Value → Prop} {t : TypeId} {x hi mx : Operand} {lo : Option Operand} (ho : o.op = .slice t x lo (some hi) (some mx)) (h : opP P ρ o K) : Gives P ρ o K := by
  unfold opP at h
  rw [ho] at h
  simp only at h
  cases hx : evl ρ x with
  | slice a n c =>
    rw [hx] at h
    obtain ⟨ht, h1⟩ := bif_true h
    simp only [Bool.and_eq_true] at ht
    obtain ⟨l, r, m, hb, hG, hr⟩ := bounds_run3 (P := P) (isS := true) h1
    refine ⟨_, hG, fun w => ?_⟩
    have hu := sliceB_e ht.1
    simp [execOp, ho, hx, Instr.sliceAt, Instr.slice, run_underlying hu, hr, sizeOf_run ht.2, subA]
  | _ => rw [hx] at h; exact h.elim

theorem opP_fieldAddr {P : Program} {ρ : Env} {o : Oper} {K : Value → Prop} {s : TypeId} {x : Operand} {f : Nat} (ho : o.op = .fieldAddr s x f) (h : opP P ρ o K) : Gives P ρ o K := by
  unfold opP at h
  rw [ho] at h
  simp only at h
  split at h
  · rename_i a fd hx hf
    obtain ⟨hb, h1⟩ := bif_true h
    simp only [Bool.and_eq_true, Bool.not_eq_true'] at hb
    refine ⟨_, h1, fun w => ?_⟩
    unfold fldOff at hf
    split at hf
    · rename_i fs hu
      have hz : ¬ szOf P fd.type = 0 := fun e => by rw [e] at hb; exact absurd hb.2 (by decide)
      simp [execOp, ho, hx, Instr.fieldAt, run_underlying hu, hf, Instr.sureAddr, fieldPlace, sizeOf_run hb.1, hz, addk_add]
    · cases hf
  · exact h.elim

theorem opP_field {P : Program} {ρ : Env} {o : Oper} {K : Value → Prop} {s : TypeId} {x : Operand} {f : Nat} (ho : o.op = .field s x f) (h : opP P ρ o K) : Gives P ρ o K := by
  unfold opP at h
  rw [ho] at h
  simp only at h
  split at h
  · rename_i cs fd hx hf
    obtain ⟨hb, h1⟩ := bif_true h
    unfold fldOff at hf
    split at hf
    · rename_i fs hu
      split at h1
      · rename_i hag
        refine ⟨_, h1, fun w => ?_⟩
        simp [execOp, ho, hx, Instr.field, run_underlying hu, hf, asAgg, part, isAgg_run hb, hag, sizeOf_run hb, extract_mk]
      · rename_i hag
        obtain ⟨hl, h2⟩ := bif_true h1
        have hl' : fd.offset < cs.size := by simpa using hl
        refine ⟨_, h2, fun w => ?_⟩
        simp [execOp, ho, hx, Instr.field, run_underlying hu, hf, asAgg, part, isAgg_run hb, hag, hl', List.getD]
    · cases hf
  · exact h.elim

theorem addr_mul (b o n : Nat) : (⟨b, o, none⟩ : Addr).add n = ⟨b, o + n, none⟩ := by
  unfold Addr.add
  split
  · rename_i h; subst h; rfl
  · rfl

theorem opP_indexAddr {P : Program} {ρ : Env} {o : Oper} {K : Value → Prop} {t : TypeId} {x i : Operand} (ho : o.op = .indexAddr t x i) (h : opP P ρ o K) : Gives P ρ o K := by
  unfold opP at h
  rw [ho] at h
  simp only at h
  split at h
  · rename_i p n c k i hx hi
    obtain ⟨hb, h1⟩ := bif_true h
    simp only [Bool.and_eq_true] at hb
    have hu := sliceB_e hb.1
    unfold NB at h1
    split at h1
    · rename_i b o'
      refine ⟨_, h1.2, fun w => ?_⟩
      simp [execOp, ho, hx, hi, Instr.indexAt, asIntOf, run_underlying hu, h1.1.1, h1.1.2, sizeOf_run hb.2, addr_mul]
    · exact h1.elim
  · rename_i b o' k i hx hi
    split at h
    · rename_i n e hu
      obtain ⟨hb, h1⟩ := bif_true h
      refine ⟨_, h1.2, fun w => ?_⟩
      simp [execOp, ho, hx, hi, Instr.indexAt, asIntOf, run_underlying hu, Instr.sureAddr, h1.1.1, h1.1.2, sizeOf_run hb, addr_mul]
    · exact h.elim
  · exact h.elim

/-- what exKs says: there are values .. -/
theorem exKs_out : ∀ (ks : List Kd) (F : List Value → Prop), exKs ks F → ∃ vs, vs.length = ks.length ∧ F vs
  | [], F, h => ⟨[], rfl, h⟩
  | k :: r, F, h => by
    have : ∃ v, exKs r (fun vs => F (v :: vs)) := by
      cases k <;> (obtain ⟨x, hx⟩ := h; exact ⟨_, hx⟩)
    obtain ⟨v, hv⟩ := this
    obtain ⟨vs, hl, hF⟩ := exKs_out r _ hv
    exact ⟨v :: vs, by simp [hl], hF⟩

theorem take_head (l : List Value) (a n : Nat) (h : a < l.length) (hn : n ≠ 0) : l[a]? = some (pick1 false ((l.drop a).take n)) := by
  rw [List.drop_eq_getElem_cons h, List.getElem?_eq_getElem h]
  cases n with
  | zero => exact absurd rfl hn
  | succ m => simp only [List.take_succ_cons, pick1]; rfl

theorem opP_index {P : Program} {ρ : Env} {o : Oper} {K : Value → Prop} {t : TypeId} {x i : Operand} (ho : o.op = .index t x i) (h : opP P ρ o K) : Gives P ρ o K := by
  unfold opP at h
  rw [ho] at h
  simp only at h
  split at h
  · rename_i s k i hx hi
    obtain ⟨hb, h1⟩ := bif_true h
    have hu := strB_e hb
    obtain ⟨⟨h0, hlt⟩, hK⟩ := h1
    refine ⟨_, hK, fun w => ?_⟩
    have hlt' : i.toNat < s.size := by omega
    have hs : s[i.toNat]? = some (s.data.toList.getD i.toNat 0) := by
      rw [show s[i.toNat]? = some s[i.toNat] from by simp [hlt']]
      congr 1
      have hl2 : i.toNat < s.data.size := hlt'
      simp only [List.getD_eq_getElem?_getD, Array.getElem?_toList]
      rw [Array.getElem?_eq_getElem hl2]
      rfl
    simp [execOp, ho, hx, hi, Instr.index, asIntOf, run_underlying hu, h0, hs, byteAt]
  · rename_i cs k i hx hi
    split at h
    · rename_i n e hu
      obtain ⟨hb, h1⟩ := bif_true h
      simp only [Bool.and_eq_true, Bool.not_eq_true'] at hb
      obtain ⟨⟨h0, hlt⟩, h2⟩ := h1
      obtain ⟨vs, hl, heq, hK⟩ := exKs_out _ _ h2
      refine ⟨_, hK, fun w => ?_⟩
      have hlen := beqT hb.2
      simp [execOp, ho, hx, hi, Instr.index, asIntOf, run_underlying hu, h0, hlt, sizeOf_run hb.1.1, part, isAgg_run hb.1.1]
      cases hag : aggB P e
      · have hz : szOf P e ≠ 0 := fun h0 => by rw [h0] at hb; exact absurd hb.1.2 (by decide)
        have hi' : i.toNat < n := by omega
        have hoff : i.toNat * szOf P e < cs.toList.length := by
          rw [← hlen]
          exact Nat.mul_lt_mul_of_pos_right hi' (Nat.pos_of_ne_zero hz)
        have h3 : cs[i.toNat * szOf P e]? = some (pick1 false vs) := by
          rw [← heq, ← Array.getElem?_toList]
          exact take_head _ _ _ hoff hz
        simp [h3]
      · simp only [pick1, cond]
        simp [sizeOf_run hb.1.1, extract_mk, heq]
    · exact h.elim
  · exact h.elim

theorem opP_extract {P : Program} {ρ : Env} {o : Oper} {K : Value → Prop} {x : Operand} {i : Nat} (ho : o.op = .extract x i) (h : opP P ρ o K) : Gives P ρ o K := by
  unfold opP at h
  rw [ho] at h
  simp only at h
  split at h
  · rename_i vs hx
    obtain ⟨hb, h1⟩ := bif_true h
    have hlt : i < vs.size := by simpa using hb
    refine ⟨_, h1, fun w => ?_⟩
    simp [execOp, ho, hx, Instr.extract, hlt, List.getD]
  · exact h.elim

theorem opP_pick {P : Program} {ρ : Env} {o : Oper} {K : Value → Prop} {c a b : Operand} (ho : o.op = .pick c a b) (h : opP P ρ o K) : Gives P ρ o K := by
  unfold opP at h
  rw [ho] at h
  simp only at h
  split at h
  · rename_i b' hx
    refine ⟨_, h, fun w => ?_⟩
    cases b' <;> simp [execOp, ho, hx, asBool]
  · exact h.elim
theorem opP_nilCheck {P : Program} {ρ : Env} {o : Oper} {K : Value → Prop} {x : Operand} (ho : o.op = .nilCheck x) (h : opP P ρ o K) : Gives P ρ o K := by
  unfold opP at h
  rw [ho] at h
  simp only at h
  split at h
  · rename_i p hx
    cases p with
    | none => exact h.elim
    | some a =>
      refine ⟨_, h, fun w => ?_⟩
      simp [execOp, ho, hx]
  · rename_i f x y hx
    refine ⟨_, h, fun w => ?_⟩
    simp [execOp, ho, hx]
  · exact h.elim
theorem opP_unOp {P : Program} {ρ : Env} {o : Oper} {K : Value → Prop} {u : UnOp} {t : TypeId} {x : Operand} (ho : o.op = .unOp u t x) (h : opP P ρ o K) : Gives P ρ o K := by
  unfold opP at h
  rw [ho] at h
  cases u <;> simp only at h
  · split at h
    · rename_i k n hx
      refine ⟨_, h, fun w => ?_⟩
      simp [execOp, ho, hx, Op.unary, Op.intArith]
    · exact h.elim
  · split at h
    · rename_i b hx
      refine ⟨_, h, fun w => ?_⟩
      simp [execOp, ho, hx, Op.unary]
    · exact h.elim
theorem opP_convert {P : Program} {ρ : Env} {o : Oper} {K : Value → Prop} {s d : TypeId} {x : Operand} (ho : o.op = .convert s d x) (h : opP P ρ o K) : Gives P ρ o K := by
  unfold opP at h
  rw [ho] at h
  simp only at h
  split at h
  · rename_i k k' k'' n hs hd hx
    refine ⟨_, h, fun w => ?_⟩
    simp [execOp, ho, hx, Go.convert, run_underlying hs, run_underlying hd, Conv.intToInt]
  · rename_i b hs hd hx
    refine ⟨_, h, fun w => ?_⟩
    simp [execOp, ho, hx, Go.convert, run_underlying hs, run_underlying hd]
  · exact h.elim
theorem opP_iface {P : Program} {ρ : Env} {o : Oper} {K : Value → Prop} {t : TypeId} {x : Operand} (ho : o.op = .makeInterface t x) (h : opP P ρ o K) : Gives P ρ o K := by
  unfold opP at h
  rw [ho] at h
  simp only at h
  split at h
  · exact h.elim
  · exact h.elim
  · rename_i h1 h2
    refine ⟨_, h, fun w => ?_⟩
    cases hu : P.underlying t with
    | none => exact absurd hu h2
    | some d =>
      cases d <;> first | exact absurd hu (h1 _) | simp [execOp, ho, Instr.makeInterface, run_underlying hu]

theorem opP_call {P : Program} {ρ : Env} {o : Oper} {K : Value → Prop} {c : Call} (ho : o.op = .call c) (h : opP P ρ o K) : Gives P ρ o K := by
  unfold opP at h
  rw [ho] at h
  simp only at h
  obtain ⟨callee, ⟨args⟩, ⟨ts⟩⟩ := c
  split at h
  · rename_i hc
    simp only at hc h
    subst hc
    split at h
    · rename_i s t ha
      obtain ⟨hb, h1⟩ := bif_true h
      have hu := strB_e hb
      refine ⟨_, h1, fun w => ?_⟩
      simp [execOp, ho, resolve, invoke, Go.builtin, ha, Builtin.len_, run_underlying hu, goInt]
    · rename_i a n c t ha
      obtain ⟨hb, h1⟩ := bif_true h
      have hu := sliceB_e hb
      refine ⟨_, h1, fun w => ?_⟩
      simp [execOp, ho, resolve, invoke, Go.builtin, ha, Builtin.len_, run_underlying hu, goInt]
    · exact h.elim
  · rename_i hc
    simp only at hc h
    subst hc
    split at h
    · rename_i a n c t ha
      obtain ⟨hb, h1⟩ := bif_true h
      have hu := sliceB_e hb
      refine ⟨_, h1, fun w => ?_⟩
      simp [execOp, ho, resolve, invoke, Go.builtin, ha, Builtin.cap_, run_underlying hu, goInt]
    · exact h.elim
  · rename_i hc
    simp only at hc h
    subst hc
    split at h
    · rename_i k x k' y ha
      refine ⟨_, h, fun w => ?_⟩
      simp [execOp, ho, resolve, invoke, Go.builtin, ha, Builtin.min_, Builtin.min2] <;> rfl
    · rename_i k x k' y k'' z ha
      refine ⟨_, h, fun w => ?_⟩
      simp [execOp, ho, resolve, invoke, Go.builtin, ha, Builtin.min_, Builtin.min2] <;> rfl
    · exact h.elim
  · rename_i hc
    simp only at hc h
    subst hc
    split at h
    · rename_i k x k' y ha
      refine ⟨_, h, fun w => ?_⟩
      simp [execOp, ho, resolve, invoke, Go.builtin, ha, Builtin.max_, Builtin.max2] <;> rfl
    · rename_i k x k' y k'' z ha
      refine ⟨_, h, fun w => ?_⟩
      simp [execOp, ho, resolve, invoke, Go.builtin, ha, Builtin.max_, Builtin.max2] <;> rfl
    · exact h.elim
  · exact h.elim
end Go.VC
