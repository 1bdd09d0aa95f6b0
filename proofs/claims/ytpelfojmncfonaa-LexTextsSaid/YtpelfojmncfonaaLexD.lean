import Derived.Test.YtpelfojmncfonaaLexDp
set_option linter.unusedVariables false
set_option linter.unusedSimpArgs false

namespace Go.VC
open Go.Proofs Go.LexS
set_option maxRecDepth 100000

theorem dg_range {b : UInt8} (h : dg b = true) : 48 ≤ b.toNat ∧ b.toNat ≤ 57 := by
  unfold dg isDigit at h
  rw [Bool.and_eq_true, decide_eq_true_eq, decide_eq_true_eq] at h
  omega
theorem numV_snoc (d : List UInt8) (c : UInt8) : numV (d ++ [c]) = 10 * numV d + (c.toNat - 48) := by
  unfold numV; rw [List.foldl_append]; rfl
theorem takeWhile_all (p : UInt8 → Bool) : ∀ (l : List UInt8) (b : UInt8) (i : Nat), (l.takeWhile p)[i]? = some b → p b = true
  | [], _, _, h => by simp at h
  | a :: l, b, i, h => by
    rw [List.takeWhile_cons] at h
    split at h
    · rename_i ha
      cases i with
      | zero => simp at h; subst h; exact ha
      | succ i => exact takeWhile_all p l b i (by simpa using h)
    · simp at h
theorem numV_lt : ∀ (n : Nat) (d : List UInt8), d.length = n → (∀ (b : UInt8) (i : Nat), d[i]? = some b → dg b = true) → numV d < 10 ^ n
  | 0, d, h, _ => by rw [List.length_eq_zero_iff.1 h]; decide
  | n + 1, d, h, hd => by
    have hne : d ≠ [] := fun e => by rw [e] at h; cases h
    have e := List.dropLast_concat_getLast hne
    rw [← e, numV_snoc]
    have h1 := numV_lt n d.dropLast (by rw [List.length_dropLast]; omega) (fun b i hb => by
      refine hd b i ?_
      rw [← e, List.getElem?_append_left (List.getElem?_eq_some_iff.1 hb).1]
      exact hb)
    have h2 := dg_range (hd (d.getLast hne) n (by rw [List.getLast_eq_getElem, List.getElem?_eq_getElem (by omega)]; simp [h]))
    rw [Nat.pow_succ]
    omega

/-- the loop of number -/
theorem L28_c (c : Nat) (s : ByteArray) (k : Nat) (h hX : Heap) (w : List UInt8) (hl : w.length ≤ 6) (hd : ∀ (b : UInt8) (i : Nat), w[i]? = some b → dg b = true) (b : Nat) (xs : List Value)
    (hbX : Own hX b xs 34) (hxs : xs.length = 4) (hb : h.size ≤ b) (hst : Stp c h hX) (hsc : Sc hX c s (k + w.length)) (hc : c < h.size) (R : Value → Heap → Prop)
    (hR : ∀ v h', Ans c s k h (.ok (⟨2, [], numV w⟩, w.length)) v h' → R v h') : L28 (bs w) b hX R := by
  unfold L28
  intro h94 e94
  have hE : Ext hX h94 := by subst e94; exact Ext.push _ _
  have hl1 : Own h94 hX.size [.int .i64 0, .string ⟨#[]⟩, .int .i64 0, .int .i64 0] 34 := by subst e94; exact Own.push
  refine ⟨hl1.okAt (by simp), ?_⟩
  intro h95 e95
  have hl2 : Own h95 hX.size [.int .i64 2, .string ⟨#[]⟩, .int .i64 0, .int .i64 0] 34 := by subst e95; exact Own.hputs _ 0 _ _ hl1 (by simp)
  have hB : But hX.size h94 h95 := by subst e95; exact But.hputs (a := ⟨hX.size, 0, none⟩) _ _ _
  have hbl := hbX.lt
  have hcl := hsc.lt
  refine ⟨fun x h' m => ∃ i : Nat, x = i ∧ m = w.length - i ∧ i ≤ w.length ∧ But hX.size h94 h' ∧ Own h' hX.size [.int .i64 2, .string ⟨#[]⟩, .int .i64 (numV (w.take i)), .int .i64 0] 34,
    ⟨_, 0, rfl, rfl, by omega, hB, hl2⟩, ?_⟩
  rintro - x h100 m ⟨i, rfl, rfl, hi, hb1, ho1⟩
  refine sB_intro (fun hlt => ?_) (fun hge => ?_)
  · have hlt' : i < w.length := by have := of_decide_eq_true hlt; rw [bs_size] at this; omega
    obtain ⟨y, hy, hby⟩ := byte_get (s := bs w) (i := i) (by rw [bs_size]; exact hlt')
    rw [bs_list] at hy
    have hyr := dg_range (hd y i hy)
    have hnv : numV (w.take i) < 10 ^ 6 := Nat.lt_of_lt_of_le (numV_lt i (w.take i) (by rw [List.length_take]; omega) (fun b j hb => hd b j (by
      rw [List.getElem?_take] at hb; split at hb
      · exact hb
      · cases hb))) (Nat.pow_le_pow_right (by omega) (by omega))
    refine ⟨_, ho1.hc 2, ⟨by omega, by rw [bs_size]; omega⟩, ho1.okAt (by simp), ?_⟩
    intro h102 e102
    have hb2 : But hX.size h100 h102 := by subst e102; exact But.hputs (a := ⟨hX.size, 2, none⟩) _ _ _
    have ho2 := Own.hputs [.int .i64 (IntKind.wrap .i64 ((IntKind.wrap .i64 (10 * (numV (w.take i) : Int))) + (IntKind.wrap .i64 (IntKind.wrap .u8 ((byteAt (bs w) (Int.toNat (i : Int)) : Int) - 48)))))] 0 h100 _ ho1 (o := 2) (by simp)
    rw [← e102] at ho2
    rw [show Int.toNat (i : Int) = i from rfl, hby, wu8 (by omega) (by omega), w64 (n := 10 * (numV (w.take i) : Int)) (by omega) (by omega), w64 (n := (y.toNat : Int) - 48) (by omega) (by omega), w64 (by omega) (by omega)] at ho2
    refine ⟨_, ?_, i + 1, ?_, rfl, by omega, hb1.trans hb2, ?_⟩
    · omega
    · rw [w64 (by omega) (by omega)]; omega
    · have e1 : w.take (i + 1) = w.take i ++ [y] := by rw [List.take_add_one, hy]; rfl
      have e2 : ((numV (w.take (i + 1)) : Nat) : Int) = 10 * (numV (w.take i) : Int) + ((y.toNat : Int) - 48) := by rw [e1, numV_snoc]; omega
      rw [e2]; exact ho2
  · have hi' : i = w.length := by have := of_decide_eq_false hge; rw [bs_size] at this; omega
    subst hi'
    rw [List.take_length] at ho1
    refine ⟨_, _, _, _, ho1.atC (o := 0) (fun i v hi => by rw [Nat.zero_add]; exact hi), ?_⟩
    have hb100 : Own h100 b xs 34 := hb1.own (hbX.ext hE) (by omega)
    refine fin4 hb100 hxs fun h' hb' ho' => hR _ _ ⟨?_, rfl, ?_⟩
    · refine Stp.but_new (Stp.but_new (hst.trans (Stp.of_ext hE)) hb1 (by have := hst.1; omega)) hb' hb
    · exact Sc.but (Sc.but (hsc.ext hE) hb1 (by omega)) hb' (by omega)
theorem T28_c (c : Nat) (s : ByteArray) (k : Nat) (h hX : Heap) (w : List UInt8) (hd : ∀ (b : UInt8) (i : Nat), w[i]? = some b → dg b = true) (b : Nat) (xs : List Value)
    (hbX : Own hX b xs 34) (hxs : xs.length = 4) (hb : h.size ≤ b) (hst : Stp c h hX) (hsc : Sc hX c s (k + w.length)) (hc : c < h.size) (R : Value → Heap → Prop)
    (hR : ∀ v h', Ans c s k h (if 6 < w.length ∨ 1 < w.length ∧ w.head? = some 48 then .error 2 else .ok (⟨2, [], numV w⟩, w.length)) v h' → R v h') : T28 (bs w) b hX R := by
  unfold T28
  have err : (6 < w.length ∨ 1 < w.length ∧ w.head? = some 48) → ∀ h', But b hX h' → ∀ (x : Int) (t : ByteArray) (y z : Int), R (.tuple ⟨[.agg ⟨[.int .i64 x, .string t, .int .i64 y, .int .i64 z]⟩, .int .i64 2]⟩) h' := by
    intro hc' h' hb' x t y z
    rw [if_pos hc'] at hR
    exact hR _ _ ⟨hst.but_new hb' hb, x, t, y, z, rfl⟩
  refine sB_intro (fun hgt => ?_) (fun hgt => ?_)
  · rw [bs_size] at hgt
    exact fin4 hbX hxs fun h' hb' ho' => err (.inl (by have := of_decide_eq_true hgt; omega)) h' hb' _ _ _ _
  · rw [bs_size] at hgt
    have hl6 : w.length ≤ 6 := by have := of_decide_eq_false hgt; omega
    refine sB_intro (fun h1 => ?_) (fun h1 => ?_)
    · rw [bs_size] at h1
      have h1' : 1 < w.length := by have := of_decide_eq_true h1; omega
      refine ⟨⟨by omega, by rw [bs_size]; omega⟩, ?_⟩
      obtain ⟨y, hy, hby⟩ := byte_get (s := bs w) (i := 0) (by rw [bs_size]; omega)
      rw [show Int.toNat 0 = 0 from rfl, hby]
      rw [bs_list, ← List.head?_eq_getElem?] at hy
      refine sB_intro (fun h48 => ?_) (fun h48 => ?_)
      · have e : y = 48 := by
          have := beq_iff_eq.1 h48
          exact UInt8.toNat_inj.1 (by have : y.toNat = 48 := by omega
                                      rw [this]; rfl)
        exact fin4 hbX hxs fun h' hb' ho' => err (.inr ⟨h1', by rw [hy, e]⟩) h' hb' _ _ _ _
      · have hne : ¬ (6 < w.length ∨ 1 < w.length ∧ w.head? = some 48) := by
          rintro (h' | ⟨_, h'⟩)
          · omega
          · rw [hy] at h'; cases h'; exact absurd h48 (by decide)
        rw [if_neg hne] at hR
        exact L28_c c s k h hX w hl6 hd b xs hbX hxs hb hst hsc hc R hR
    · rw [bs_size] at h1
      have hne : ¬ (6 < w.length ∨ 1 < w.length ∧ w.head? = some 48) := by
        have := of_decide_eq_false h1
        rintro (h' | ⟨h', _⟩) <;> omega
      rw [if_neg hne] at hR
      exact L28_c c s k h hX w hl6 hd b xs hbX hxs hb hst hsc hc R hR
theorem takeWhile_head (p : UInt8 → Bool) (l : List UInt8) (h : 1 < (l.takeWhile p).length) : (l.takeWhile p).head? = l.head? := by
  cases l with
  | nil => rfl
  | cons a l =>
    rw [List.takeWhile_cons] at h ⊢
    split at h
    · rename_i ha; rw [if_pos ha]; rfl
    · simp at h
theorem number_c (c : Nat) (s : ByteArray) (k : Nat) (h : Heap) (ho : Sc h c s k) (hk : k ≤ s.size) (hs : s.size ≤ 100000) :
    Fn Try.prog 28 #[.pointer (some ⟨c, 0, none⟩)] h (Ans c s k h (numS (s.data.toList.drop k))) := by
  apply vc28; unfold W28
  have hsz := size_len s
  intro h1 e1
  have hE : Ext h h1 := by subst e1; exact Ext.push _ _
  have hne : c ≠ h.size := Nat.ne_of_lt ho.lt
  have hl1 : Own h1 h.size [.int .i64 0, .string ⟨#[]⟩, .int .i64 0, .int .i64 0] 34 := by subst e1; exact Own.push
  refine (take_c 27 dg rfl (fun b h => by exact digit_c b.toNat h) c s k h1 (ho.ext hE) hk hs).mono ?_
  rintro v h4 ⟨rfl, p1, p2⟩
  have hl4 := p2.own hl1 (Ne.symm hne)
  have hst : Stp c h h4 := (Stp.of_ext hE).trans (Stp.of_but p2)
  have hd := takeWhile_all dg (s.data.toList.drop k)
  have hhd := takeWhile_head dg (s.data.toList.drop k)
  have hnum : numS (s.data.toList.drop k) = if ((s.data.toList.drop k).drop ((s.data.toList.drop k).takeWhile dg).length).head?.any inn then .error 3
      else if 6 < ((s.data.toList.drop k).takeWhile dg).length ∨ 1 < ((s.data.toList.drop k).takeWhile dg).length ∧ ((s.data.toList.drop k).takeWhile dg).head? = some 48 then .error 2
      else .ok (⟨2, [], numV ((s.data.toList.drop k).takeWhile dg)⟩, ((s.data.toList.drop k).takeWhile dg).length) := by
    unfold numS
    by_cases h1 : 1 < ((s.data.toList.drop k).takeWhile dg).length
    · rw [hhd h1]
    · simp only [h1, false_and]
  rw [hnum]
  generalize (s.data.toList.drop k).takeWhile dg = w at *
  rw [List.drop_drop, List.head?_drop]
  refine ⟨_, rfl, _, p1.k, s, p1.s, sB_intro (fun hlt => ?_) (fun hge => ?_)⟩
  · have hlt' : k + w.length < s.size := by have := of_decide_eq_true hlt; omega
    obtain ⟨b, hb, hby⟩ := byte_get hlt'
    refine ⟨s, p1.s, _, p1.k, ⟨by omega, by omega⟩, ?_⟩
    rw [show Int.toNat ((k + w.length : Nat) : Int) = k + w.length from rfl, hby, hb]
    refine (inner_c _ _).mono ?_
    rintro v h11 ⟨rfl, rfl⟩
    refine ⟨_, rfl, Ext.refl _, sB_intro (fun hi => ?_) (fun hi => ?_)⟩
    · refine fin4 hl4 rfl fun h' hb' ho' => ?_
      have : (some b).any inn = true := hi
      rw [if_pos this]
      exact ⟨hst.but_new hb' (Nat.le_refl _), _, _, _, _, rfl⟩
    · have : ¬ (some b).any inn = true := by rw [show (some b).any inn = false from hi]; simp
      rw [if_neg this]
      exact T28_c c s k h _ w hd h.size _ hl4 rfl (Nat.le_refl _) hst p1 ho.lt _ fun v h' hh => hh
  · have hge' : s.data.toList.length ≤ k + w.length := by have := of_decide_eq_false hge; omega
    rw [List.getElem?_eq_none hge', if_neg (by simp)]
    exact T28_c c s k h _ w hd h.size _ hl4 rfl (Nat.le_refl _) hst p1 ho.lt _ fun v h' hh => hh
end Go.VC
