import Derived.Test.YtpelfojmncfonaaLexHp
set_option linter.unusedVariables false
set_option linter.unusedSimpArgs false

namespace Go.VC
open Go.Proofs Go.LexS
set_option maxRecDepth 100000

theorem refletter_c (n : Int) (h : Heap) : Fn Try.prog 35 #[.int .u8 n] h fun v h' => v = .bool (isLetter n) ∧ h' = h := by
  apply vc35; unfold W35
  simp only [sB_iff]
  refine ⟨fun h1 => ⟨fun h2 => ?_, fun h2 => ⟨fun h3 => ?_, fun h3 => ?_⟩⟩, fun h1 => ⟨fun h3 => ?_, fun h3 => ?_⟩⟩ <;> simp_all [isLetter] <;> omega
theorem refdigit_c (n : Int) (h : Heap) : Fn Try.prog 45 #[.int .u8 n] h fun v h' => v = .bool (isDigit n) ∧ h' = h := by
  apply vc45; unfold W45
  simp only [sB_iff]
  refine ⟨fun h1 => ?_, fun h1 => ?_⟩ <;> simp_all [isDigit] <;> omega
theorem refinner_c (n : Int) (h : Heap) : Fn Try.prog 36 #[.int .u8 n] h fun v h' => v = .bool (isInner n) ∧ h' = h := by
  apply vc36; unfold W36
  refine (refletter_c n h).mono ?_
  rintro v h1 ⟨rfl, rfl⟩
  refine ⟨_, rfl, sB_intro (fun h2 => ?_) (fun h2 => ?_)⟩
  · simp [isInner, h2]
  · refine (refdigit_c n h1).mono ?_
    rintro v h3 ⟨rfl, rfl⟩
    refine ⟨_, rfl, sB_intro (fun h4 => ?_) (fun h4 => ?_)⟩
    · simp [isInner, h4]
    · simp [isInner, h2, h4]
theorem strEq (a b : ByteArray) : (ByteArray.toList a == ByteArray.toList b) = decide (a.data.toList = b.data.toList) := by
  rw [ByteArray.toList_eq, ByteArray.toList_eq]
  by_cases h : a.data.toList = b.data.toList
  · rw [h, beq_self_eq_true, decide_eq_true rfl]
  · rw [decide_eq_false h]; exact beq_eq_false_iff_ne.2 h
def strC (l : List (List UInt8)) : List Value := l.map fun s => .string (bs s)
theorem in_c (b : Nat) (l : List (List UInt8)) (n c : Nat) (hn : n = l.length) (hl : l.length ≤ 1000000) (e : TypeId) (s : ByteArray) (h : Heap) (ho : ∀ i x, l[i]? = some x → hc h ⟨b, i, none⟩ = some (.string (bs x))) :
    Fn Try.prog 37 #[.slice (some ⟨b, 0, none⟩) n c, .string s] h fun v h' => v = .bool (decide (s.data.toList ∈ l)) ∧ h' = h := by
  subst hn
  apply vc37 ⟨some ⟨b, 0, none⟩, l.length, c⟩; unfold W37
  refine ⟨fun x h' m => ∃ i : Nat, x = i ∧ m = l.length - i ∧ i ≤ l.length ∧ h' = h ∧ ∀ j, j < i → l[j]? ≠ some s.data.toList, ⟨_, 0, rfl, rfl, by omega, rfl, fun j hj => by omega⟩, ?_⟩
  rintro - x h5 m ⟨i, rfl, rfl, hi, rfl, hnot⟩
  refine sB_intro (fun hlt => ?_) (fun hge => ?_)
  · have hlt' : i < l.length := by have := of_decide_eq_true hlt; simp only [] at this; omega
    rw [NB_some]
    obtain ⟨x, hx⟩ : ∃ x, l[i]? = some x := ⟨_, List.getElem?_eq_getElem hlt'⟩
    refine ⟨⟨by omega, by simp only []; omega⟩, bs x, ?_, ?_⟩
    · rw [show Int.toNat (i : Int) = i from rfl, Nat.mul_one, Nat.zero_add]; exact ho i x hx
    · rw [strEq, bs_list]
      refine sB_intro (fun he => ?_) (fun he => ?_)
      · have : x = s.data.toList := of_decide_eq_true he
        refine ⟨?_, rfl⟩
        rw [decide_eq_true (List.mem_of_getElem? (this ▸ hx))]
      · refine ⟨_, ?_, i + 1, ?_, rfl, by omega, rfl, fun j hj => ?_⟩
        · omega
        · rw [w64 (by omega) (by omega)]; omega
        · by_cases hji : j < i
          · exact hnot j hji
          · have : j = i := by omega
            subst this
            rw [hx]; intro e; exact of_decide_eq_false he (Option.some.inj e)
  · have hge' : l.length ≤ i := by have := of_decide_eq_false hge; simp only [] at this; omega
    refine ⟨?_, rfl⟩
    rw [decide_eq_false]
    intro hm
    obtain ⟨k, hk⟩ := List.mem_iff_getElem?.1 hm
    exact hnot k (by have := (List.getElem?_eq_some_iff.1 hk).1; omega) hk
theorem sp_iff (b : UInt8) : sp b = ((b.toNat : Int) == 32 || (b.toNat : Int) == 9 || (b.toNat : Int) == 10 || (b.toNat : Int) == 13) := rfl

theorem refskip_c (s : ByteArray) (k : Nat) (hk : k ≤ s.size) (hs : s.size ≤ 100000) (h : Heap) :
    Fn Try.prog 30 #[.string s, .int .i64 k] h fun v h' => v = .int .i64 ((k + skipC false (s.data.toList.drop k) : Nat) : Int) ∧ h' = h := by
  apply vc30; unfold W30
  have hsz := size_len s
  generalize hL : s.data.toList = L at *
  refine ⟨fun x h' m => ∃ j : Nat, x = j ∧ m = s.size - j ∧ j ≤ s.size ∧ h' = h ∧ j + skipC false (L.drop j) = k + skipC false (L.drop k), ⟨_, k, rfl, rfl, hk, rfl, rfl⟩, ?_⟩
  rintro - x h5 m ⟨j, rfl, rfl, hj, rfl, he⟩
  refine sB_intro (fun hlt => ?_) (fun hge => ?_)
  · have hlt' : j < s.size := by have := of_decide_eq_true hlt; omega
    obtain ⟨b, hb, hby⟩ := byte_get hlt'
    rw [hL] at hb
    have hdrop := drop_cons hb
    have hin : (0 : Int) ≤ (j : Int) ∧ (j : Int) < (ByteArray.size s : Nat) := ⟨by omega, by omega⟩
    have hw : IntKind.wrap .i64 ((j : Int) + 1) = ((j + 1 : Nat) : Int) := by rw [w64 (by omega) (by omega)]; omega
    rw [hw, show Int.toNat (j : Int) = j from rfl, show Int.toNat ((j + 1 : Nat) : Int) = j + 1 from rfl, hby]
    have stp : sp b = true → ∃ m6, m6 < s.size - j ∧ ∃ j' : Nat, ((j + 1 : Nat) : Int) = j' ∧ m6 = s.size - j' ∧ j' ≤ s.size ∧ h5 = h5 ∧ j' + skipC false (L.drop j') = k + skipC false (L.drop k) := by
      intro hsp
      refine ⟨_, ?_, j + 1, rfl, rfl, by omega, rfl, ?_⟩
      · omega
      · rw [← he, hdrop]
        simp only [skipC, hsp, if_true]; omega
    refine ⟨hin, sB_intro (fun h1 => stp (by rw [sp_iff, h1]; rfl)) fun h1 => ⟨hin, sB_intro (fun h2 => stp (by rw [sp_iff, h1, h2]; rfl)) fun h2 => ⟨hin, sB_intro (fun h3 => stp (by rw [sp_iff, h1, h2, h3]; rfl)) fun h3 => ⟨hin, sB_intro (fun h4 => stp (by rw [sp_iff, h1, h2, h3, h4]; rfl)) fun h4 => ⟨hin, ?_⟩⟩⟩⟩⟩
    have nsp : ¬ sp b = true := by rw [sp_iff, h1, h2, h3, h4]; decide
    have none : (¬ (b = 47 ∧ (L.drop (j + 1)).head? = some 47)) → (Value.int .i64 (j : Int) = .int .i64 ((k + skipC false (L.drop k) : Nat) : Int) ∧ h5 = h5) := by
      intro hn
      refine ⟨?_, rfl⟩
      rw [← he, hdrop]
      simp only [skipC, if_neg nsp, if_neg hn, Nat.add_zero]
    refine sB_intro (fun h47 => ?_) (fun h47 => ?_)
    · have e47 : b = 47 := u8_eq (c := 47) h47
      refine sB_intro (fun hl2 => ?_) (fun hl2 => ?_)
      · have hl2' : j + 1 < s.size := by have := of_decide_eq_true hl2; omega
        obtain ⟨b2, hb2, hby2⟩ := byte_get hl2'
        rw [hL] at hb2
        refine ⟨⟨by omega, by omega⟩, ?_⟩
        rw [hby2]
        refine sB_intro (fun h47' => ?_) (fun h47' => ?_)
        · have e47' : b2 = 47 := u8_eq (c := 47) h47'
          have hcond : b = 47 ∧ (L.drop (j + 1)).head? = some 47 := ⟨e47, by rw [List.head?_drop, hb2, e47']⟩
          have heT : j + skipC true (L.drop j) = k + skipC false (L.drop k) := by
            rw [← he, hdrop]
            simp only [skipC, if_neg nsp, if_pos hcond]
            rw [if_neg (by rw [e47]; decide)]
          refine ⟨fun x h' m => ∃ i : Nat, x = i ∧ m = s.size - i ∧ j ≤ i ∧ i ≤ s.size ∧ h' = h5 ∧ i + skipC true (L.drop i) = k + skipC false (L.drop k), ⟨_, j, rfl, rfl, Nat.le_refl _, by omega, rfl, heT⟩, ?_⟩
          rintro - x h14 m ⟨i, rfl, rfl, hji, hi, rfl, hei⟩
          refine sB_intro (fun hlt3 => ?_) (fun hge3 => ?_)
          · have hlt3' : i < s.size := by have := of_decide_eq_true hlt3; omega
            obtain ⟨b3, hb3, hby3⟩ := byte_get hlt3'
            rw [hL] at hb3
            have hdrop3 := drop_cons hb3
            refine ⟨⟨by omega, by omega⟩, ?_⟩
            rw [show Int.toNat (i : Int) = i from rfl, hby3]
            refine sB_intro (fun hne => ?_) (fun heq => ?_)
            · have n10 : b3 ≠ 10 := u8_ne (c := 10) (bne_t hne)
              refine ⟨_, ?_, i + 1, ?_, rfl, by omega, by omega, rfl, ?_⟩
              · omega
              · rw [w64 (by omega) (by omega)]; omega
              · rw [← hei, hdrop3]
                simp only [skipC, if_neg n10]; omega
            · have e10 : b3 = 10 := u8_eq (c := 10) (bne_f heq)
              have hij : i ≠ j := by
                rintro rfl
                rw [hb] at hb3
                have := Option.some.inj hb3
                rw [e47, e10] at this
                exact absurd this (by decide)
              refine ⟨_, ?_, i, rfl, rfl, hi, rfl, ?_⟩
              · omega
              · rw [← hei, hdrop3, e10]
                simp only [skipC, if_true, show sp 10 = true from rfl]
          · have hge3' : i = s.size := by have := of_decide_eq_false hge3; omega
            refine ⟨_, ?_, i, rfl, rfl, hi, rfl, ?_⟩
            · omega
            · rw [← hei, drop_end (by omega)]; rfl
        · refine none fun hc => ?_
          rw [List.head?_drop, hb2] at hc
          exact u8_ne (c := 47) h47' (Option.some.inj hc.2)
      · refine none fun hc => ?_
        rw [List.head?_drop] at hc
        have h1' := (List.getElem?_eq_some_iff.1 hc.2).1
        have := of_decide_eq_false hl2
        omega
    · exact none fun hc => u8_ne (c := 47) h47 hc.1
  · have hge' : L.length ≤ j := by have := of_decide_eq_false hge; omega
    refine ⟨?_, rfl⟩
    rw [← he, drop_end hge']
    rfl
end Go.VC
