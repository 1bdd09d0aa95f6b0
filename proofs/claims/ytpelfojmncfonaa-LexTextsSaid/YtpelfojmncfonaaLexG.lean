import Derived.Test.YtpelfojmncfonaaLexGp
set_option linter.unusedVariables false
set_option linter.unusedSimpArgs false

namespace Go.VC
open Go.Proofs Go.LexS
set_option maxRecDepth 100000

theorem OwnS.mono {h : Heap} {b b' : Nat} {e : TypeId} {size : Nat} {s : Sl} {xs : List Value} (ho : OwnS h b e size s xs) (hb : b' ≤ b) : OwnS h b' e size s xs := by
  obtain ⟨h1, h2⟩ := ho
  refine ⟨h1, ?_⟩
  rcases h2 with h2 | ⟨g, cur, ha, hg, r⟩
  · exact .inl h2
  · exact .inr ⟨g, cur, ha, Nat.le_trans hb hg, r⟩
def toksC (l : List (T × Nat)) : List Value := l.flatMap fun p => tokC p.1 p.2
theorem toksC_len (l : List (T × Nat)) : (toksC l).length = l.length * 4 := by
  induction l with
  | nil => rfl
  | cons a l ih =>
    unfold toksC at *
    rw [List.flatMap_cons, List.length_append, ih, List.length_cons]
    simp only [tokC, List.length_cons, List.length_nil]; omega
theorem toksC_snoc (l : List (T × Nat)) (t : T) (f : Nat) : toksC (l ++ [(t, f)]) = toksC l ++ tokC t f := by
  unfold toksC; rw [List.flatMap_append]; simp
def tokensS (l : List UInt8) : Except (Nat × Int) (List (T × Nat)) := if 8000 < l.length then .error (8000, 6) else toks 0 l
/-- what Tokens answers -/
def TokA (E : TypeId) (r : Except (Nat × Int) (List (T × Nat))) (h : Heap) (v : Value) (h' : Heap) : Prop :=
  Ext h h' ∧ match r with
  | .error (k, e) => v = .tuple ⟨[.slice none 0 0, .int .i64 k, .int .i64 e]⟩
  | .ok l => ∃ sl : Sl, v = .tuple ⟨[.slice sl.a sl.n sl.c, .int .i64 0, .int .i64 0]⟩ ∧ OwnS h' h.size E 4 sl (toksC l)
def pre (acc : List (T × Nat)) : Except (Nat × Int) (List (T × Nat)) → Except (Nat × Int) (List (T × Nat))
  | .error e => .error e
  | .ok r => .ok (acc ++ r)
theorem pre_pre (a b : List (T × Nat)) (r : Except (Nat × Int) (List (T × Nat))) : pre a (pre b r) = pre (a ++ b) r := by
  cases r <;> simp [pre]

theorem takeWhile_le (p : UInt8 → Bool) (l : List UInt8) : (l.takeWhile p).length ≤ l.length := (List.takeWhile_sublist p).length_le
theorem elems_len : ∀ (l acc : List UInt8) (n : Nat) (t : List UInt8) (m : Nat), elemsS l acc n = some (t, m) → n + 1 ≤ m ∧ m ≤ n + l.length ∧ t.length ≤ acc.length + (m - n)
  | [], acc, n, t, m, h => by rw [elemsS.eq_def] at h; cases h
  | [c], acc, n, t, m, h => by
    rw [elemsS.eq_def] at h
    simp only [] at h
    split at h
    · cases h; simp
    · split at h
      · cases h
      · split at h
        · cases h
        · rw [elemsS.eq_def] at h; cases h
  | c :: d :: ds, acc, n, t, m, h => by
    rw [elemsS.eq_def] at h
    simp only [] at h
    split at h
    · cases h; simp
    · split at h
      · split at h
        · have := elems_len ds _ _ _ _ h
          simp only [List.length_cons, List.length_append, List.length_nil] at *; omega
        · cases h
      · split at h
        · cases h
        · have := elems_len (d :: ds) _ _ _ _ h
          simp only [List.length_cons, List.length_append, List.length_nil] at *; omega
theorem token_len {c : UInt8} {cs : List UInt8} {t : T} {n : Nat} (h : tokenS (c :: cs) = .ok (t, n)) : 1 ≤ n ∧ n ≤ cs.length + 1 := by
  unfold tokenS at h
  simp only [] at h
  split at h
  · rename_i hl
    unfold nameS at h
    split at h
    · cases h
    · cases h
      have := takeWhile_le inn (c :: cs)
      have hi : inn c = true := by unfold inn isInner; unfold lt at hl; rw [hl]; rfl
      rw [List.length_cons] at this
      rw [List.takeWhile_cons, hi] at this ⊢
      simp only [if_true, List.length_cons] at this ⊢
      omega
  · split at h
    · rename_i hl
      unfold numS at h
      split at h
      · cases h
      · split at h
        · cases h
        · cases h
          have := takeWhile_le dg (c :: cs)
          rw [List.length_cons] at this
          rw [List.takeWhile_cons, hl] at this ⊢
          simp only [if_true, List.length_cons] at this ⊢
          omega
    · split at h
      · unfold textS textR at h
        split at h
        · cases h
        · rename_i t' n' he
          split at h
          · cases h
          · cases h
            have := elems_len _ _ _ _ _ he
            rw [List.drop_one, List.tail_cons] at this
            omega
      · unfold markS at h
        split at h
        · rename_i hm
          cases h
          obtain ⟨i, hi, e⟩ := mem_two hm
          have := congrArg List.length e
          rw [two_len i hi, List.length_take, List.length_cons] at this
          omega
        · simp only [] at h
          split at h
          · cases h; omega
          · cases h
theorem app23 : appB Try.prog 23 34 4 40 = true := by kernel_rfl
theorem tok_err {l : List UInt8} {e : Int} (h : tokenS l = .error e) : e = 2 ∨ e = 3 ∨ e = 6 := by
  unfold tokenS at h
  split at h
  · cases h; simp
  · split at h
    · unfold nameS at h; split at h <;> cases h; simp
    · split at h
      · unfold numS at h
        split at h
        · cases h; simp
        · split at h <;> cases h; simp
      · split at h
        · unfold textS textR at h
          split at h
          · cases h; simp
          · split at h <;> cases h; simp
        · unfold markS at h
          split at h
          · cases h
          · split at h
            · cases h; simp
            · split at h <;> cases h; simp

theorem arm11 (g : FuncId) (h hX : Heap) (s : ByteArray) (k j : Nat) (hj : j = k + skipC false (s.data.toList.drop k)) (hjs : j < s.size) (hs : s.size ≤ 8000) (l : Sl) (acc : List (T × Nat)) (hacc : acc.length ≤ k)
    (hg : Fn Try.prog g #[.pointer (some ⟨h.size, 0, none⟩)] hX (Ans h.size s j hX (tokenS (s.data.toList.drop j))))
    (hsc : Sc hX h.size s j) (hkp : Kp h.size h hX) (hos : OwnS hX (h.size + 1) 34 4 l (toksC acc)) (ht : toks 0 s.data.toList = pre acc (toks k (s.data.toList.drop k)))
    (I : Sl → Heap → Nat → Prop) (m : Nat) (hm : s.size - k ≤ m) (R : Value → Heap → Prop)
    (hI : ∀ (r : Sl) (h' : Heap) (k' : Nat) (acc' : List (T × Nat)), k < k' → k' ≤ s.size → acc'.length ≤ k' → Sc h' h.size s (k' + skipC false (s.data.toList.drop k')) → Kp h.size h h' → OwnS h' (h.size + 1) 34 4 r (toksC acc') →
      toks 0 s.data.toList = pre acc' (toks k' (s.data.toList.drop k')) → I r h' (s.size - k'))
    (hR : ∀ v h', TokA 34 (toks 0 s.data.toList) h v h' → R v h') : A11 g h.size l I m hX R := by
  unfold A11
  have hsz := size_len s
  generalize hL : s.data.toList = L at *
  have hjL : j < L.length := by omega
  obtain ⟨b, hb⟩ : ∃ b, L[j]? = some b := ⟨_, List.getElem?_eq_getElem hjL⟩
  have hdrop := drop_cons hb
  have htk : toks k (L.drop k) = match tokenS (L.drop j) with
      | .error e => .error (j, e)
      | .ok (t, n) => match toks (j + n) (L.drop (j + n)) with
        | .error e => .error e
        | .ok r => .ok ((t, j) :: r) := by
    rw [toks_cons (c := b) (cs := L.drop (j + 1)) (by rw [List.drop_drop, ← hj, hdrop]), ← hdrop, ← hj]
    cases hts : tokenS (L.drop j) with
    | error e => rfl
    | ok p =>
      obtain ⟨t, n⟩ := p
      have hn := token_len (by rw [hdrop] at hts; exact hts)
      have e : (L.drop (j + 1)).drop (n - 1) = L.drop (j + n) := by rw [List.drop_drop]; congr 1; omega
      simp only []
      rw [e]
      rfl
  refine ⟨j, hsc.k, ?_⟩
  refine hg.mono ?_
  rintro v h21 ⟨st, hv⟩
  have kp21 : Kp h.size h h21 := hkp.trans (st.kp (Nat.le_refl _) hkp.1)
  have os21 := hos.stp (b := h.size) (by omega) st
  have hz21 : h.size + 1 ≤ h21.size := by have := hsc.lt; have := st.1; omega
  have rest : ∀ (x y z e : Int) (t : ByteArray) (Q : Heap → Prop), (∀ h23, Ext h21 h23 → Own h23 h21.size [.int .i64 x, .string t, .int .i64 y, .int .i64 z] 34 → Q h23) →
      (∀ h22 : Heap, h22 = h21.push (.cells ⟨[.int .i64 0, .string ⟨#[]⟩, .int .i64 0, .int .i64 0]⟩ 34) → 
      (okAt h22 ⟨h21.size, 0, none⟩ 4 ∧ ∀ h23 : Heap, h23 = hputs h22 ⟨h21.size, 0, none⟩ 0 [.int .i64 x, .string t, .int .i64 y, .int .i64 z] → Q h23)) := by
    intro x y z e t Q hQ h22 e22
    have hE : Ext h21 h22 := by subst e22; exact Ext.push _ _
    have ho : Own h22 h21.size [.int .i64 0, .string ⟨#[]⟩, .int .i64 0, .int .i64 0] 34 := by subst e22; exact Own.push
    refine ⟨ho.okAt (by simp), ?_⟩
    intro h23 e23
    have hB : But h21.size h22 h23 := by subst e23; exact But.hputs (a := ⟨h21.size, 0, none⟩) _ _ _
    have ho2 := Own.hputs [.int .i64 x, .string t, .int .i64 y, .int .i64 z] 0 h22 _ ho (o := 0) (by simp)
    rw [← e23] at ho2
    refine hQ h23 ⟨by rw [hB.1]; exact hE.1, fun q hq => (hB.2 q (by omega)).trans (hE.2 q hq)⟩ ho2
  cases hts : tokenS (L.drop j) with
  | error e =>
    rw [hts] at hv htk
    simp only [] at hv htk
    obtain ⟨x, t, y, z, rfl⟩ := hv
    refine ⟨x, t, y, z, e, rfl, rest x y z e t _ fun h23 hE23 ho23 => ?_⟩
    have he0 : (e != 0) = true := by rcases tok_err hts with rfl | rfl | rfl <;> rfl
    refine sB_t he0 (hR _ _ ⟨(kp21.trans (hE23.kp (by omega))).ext, ?_⟩)
    rw [ht, htk]
    rfl
  | ok p =>
    obtain ⟨t, n⟩ := p
    rw [hts] at hv htk
    simp only [] at hv htk
    obtain ⟨rfl, hsc21⟩ := hv
    have hn := token_len (by rw [hdrop] at hts; exact hts)
    rw [List.length_drop] at hn
    refine ⟨_, _, _, _, 0, rfl, rest _ _ _ 0 _ _ fun h23 hE23 ho23 => ?_⟩
    refine sB_f rfl ⟨ho23.okAt (by simp), ?_⟩
    intro h24 e24
    have hB24 : But h21.size h23 h24 := by subst e24; exact But.hputs (a := ⟨h21.size, 3, none⟩) _ _ _
    have ho24 : Own h24 h21.size (tokC t j) 34 := by
      have := Own.hputs [.int .i64 (j : Int)] 0 h23 _ ho23 (o := 3) (by simp)
      rw [← e24] at this
      exact this
    have hE24 : Ext h21 h24 := ⟨by rw [hB24.1]; exact hE23.1, fun q hq => (hB24.2 q (by omega)).trans (hE23.2 q hq)⟩
    refine ⟨_, _, _, _, ho24.atC (o := 0) (fun i v hi => by rw [Nat.zero_add]; exact hi), ?_⟩
    have hln : acc.length = l.n := by have := os21.len; rw [toksC_len] at this; omega
    refine App_one app23 (os21.ext hE24) (by have := hE24.1; omega) rfl rfl (by omega) (by unfold maxLen; omega) ?_
    intro r h31 hrn hor hkp31 _
    have kp31 : Kp h.size h h31 := (kp21.trans (hE24.kp (by omega))).trans (hkp31.mono (by omega))
    have hsc31 : Sc h31 h.size s (j + n) := hkp31.own (hsc21.ext hE24) (by omega)
    refine (skip_c h.size s (j + n) h31 hsc31 (by omega) (by omega)).mono ?_
    rw [hL]
    rintro v h33 ⟨rfl, hsc33, hb33⟩
    refine ⟨rfl, s.size - (j + n), by omega, ?_⟩
    refine hI r h33 (j + n) (acc ++ [(t, j)]) (by omega) (by omega) (by rw [List.length_append, List.length_singleton]; omega) hsc33 (kp31.trans (Kp.but hb33 (Nat.le_refl _))) ?_ ?_
    · rw [toksC_snoc]
      exact hor.stp (b := h.size) (by omega) (Stp.of_but hb33)
    · rw [ht, htk, ← pre_pre]
      congr 1

theorem tokens_c (s : ByteArray) (h : Heap) : Fn Try.prog 11 #[.string s] h (TokA 34 (tokensS s.data.toList) h) := by
  apply vc11; unfold W11
  have hsz := size_len s
  unfold tokensS
  refine sB_intro (fun hgt => ?_) (fun hgt => ?_)
  · have : 8000 < s.data.toList.length := by have := of_decide_eq_true hgt; omega
    rw [if_pos this]
    exact ⟨Ext.refl _, rfl⟩
  · have hs : s.size ≤ 8000 := by have := of_decide_eq_false hgt; omega
    rw [if_neg (by omega)]
    intro h1 e1
    have hE : Ext h h1 := by subst e1; exact Ext.push _ _
    have hS1 : h1.size = h.size + 1 := by subst e1; simp
    have p1 : Sc h1 h.size s (0 : Nat) := by subst e1; exact Own.push
    refine (skip_c h.size s 0 h1 p1 (by omega) (by omega)).mono ?_
    rintro v h3 ⟨rfl, p3, b3⟩
    refine ⟨rfl, ?_⟩
    rw [List.drop_zero, Nat.zero_add] at p3
    refine ⟨fun l h' m => ∃ (k : Nat) (acc : List (T × Nat)), m = s.size - k ∧ k ≤ s.size ∧ acc.length ≤ k ∧ Sc h' h.size s (k + skipC false (s.data.toList.drop k)) ∧ Kp h.size h h' ∧ OwnS h' (h.size + 1) 34 4 l (toksC acc) ∧
        toks 0 s.data.toList = pre acc (toks k (s.data.toList.drop k)), ⟨_, 0, [], rfl, by omega, by simp, by rw [List.drop_zero, Nat.zero_add]; exact p3, (hE.kp (Nat.le_refl _)).trans (Kp.but b3 (Nat.le_refl _)), OwnS.nil, by
          rw [List.drop_zero]; cases toks 0 s.data.toList <;> rfl⟩, ?_⟩
    rintro - l h8 m ⟨k, acc, rfl, hk, hacc, p8, kp8, os8, ht⟩
    refine ⟨_, p8.k, sB_intro (fun hlt => ?_) (fun hge => ?_)⟩
    · have hlt' : k + skipC false (s.data.toList.drop k) < s.size := by have := of_decide_eq_true hlt; omega
      generalize hj : k + skipC false (s.data.toList.drop k) = j at *
      obtain ⟨b, hb, hby⟩ := byte_get hlt'
      have hdrop := drop_cons hb
      refine ⟨j, p8.k, ⟨by omega, by omega⟩, ?_⟩
      rw [show Int.toNat (j : Int) = j from rfl, hby]
      have arm : ∀ g, Fn Try.prog g #[.pointer (some ⟨h.size, 0, none⟩)] h8 (Ans h.size s j h8 (tokenS (s.data.toList.drop j))) → A11 g h.size l (fun l h' m => ∃ (k : Nat) (acc : List (T × Nat)), m = s.size - k ∧ k ≤ s.size ∧ acc.length ≤ k ∧ Sc h' h.size s (k + skipC false (s.data.toList.drop k)) ∧ Kp h.size h h' ∧ OwnS h' (h.size + 1) 34 4 l (toksC acc) ∧
        toks 0 s.data.toList = pre acc (toks k (s.data.toList.drop k))) (s.size - k) h8 (TokA 34 (toks 0 s.data.toList) h) := fun g hg =>
        arm11 g h h8 s k j hj.symm hlt' hs l acc hacc hg p8 kp8 os8 ht _ _ (Nat.le_refl _) _ (fun r h' k' acc' h1 h2 h3 h4 h5 h6 h7 => ⟨k', acc', rfl, h2, h3, h4, h5, h6, h7⟩) (fun v h' hh => hh)
      refine (letter_c _ _).mono ?_
      rintro v h13 ⟨rfl, rfl⟩
      refine ⟨_, rfl, sB_intro (fun hlet => ?_) (fun hlet => ?_)⟩
      · refine arm 26 ?_
        have := name_c h.size s j _ p8 (by omega) (by omega)
        rw [hdrop] at this ⊢
        rw [show tokenS (b :: s.data.toList.drop (j + 1)) = nameS (b :: s.data.toList.drop (j + 1)) by rw [tokenS, if_pos (show lt b = true from hlet)]]
        exact this
      · have nlet : ¬ lt b = true := by rw [show lt b = false from hlet]; simp
        refine (digit_c _ _).mono ?_
        rintro v h37 ⟨rfl, rfl⟩
        refine ⟨_, rfl, sB_intro (fun hdig => ?_) (fun hdig => ?_)⟩
        · refine arm 28 ?_
          have := number_c h.size s j _ p8 (by omega) (by omega)
          rw [hdrop] at this ⊢
          rw [show tokenS (b :: s.data.toList.drop (j + 1)) = numS (b :: s.data.toList.drop (j + 1)) by rw [tokenS, if_neg nlet, if_pos (show dg b = true from hdig)]]
          exact this
        · have ndig : ¬ dg b = true := by rw [show dg b = false from hdig]; simp
          refine sB_intro (fun hq => ?_) (fun hq => ?_)
          · refine arm 29 ?_
            have := text_c h.size s j _ p8 (by omega) (by omega)
            rw [hdrop] at this ⊢
            rw [show tokenS (b :: s.data.toList.drop (j + 1)) = textS (b :: s.data.toList.drop (j + 1)) by rw [tokenS, if_neg nlet, if_neg ndig, if_pos (u8_eq (c := 34) hq)]]
            exact this
          · refine arm 24 ?_
            have := mark_c h.size s j _ p8 (by omega) (by omega)
            rw [hdrop] at this ⊢
            rw [show tokenS (b :: s.data.toList.drop (j + 1)) = markS (b :: s.data.toList.drop (j + 1)) by rw [tokenS, if_neg nlet, if_neg ndig, if_neg (u8_ne (c := 34) hq)]]
            exact this
    · have hge' : s.data.toList.length ≤ k + skipC false (s.data.toList.drop k) := by have := of_decide_eq_false hge; omega
      refine ⟨kp8.ext, ?_⟩
      rw [ht, toks_nil (by rw [List.drop_drop, drop_end hge'])]
      simp only [pre, List.append_nil]
      exact ⟨l, rfl, os8.mono (by omega)⟩
end Go.VC
