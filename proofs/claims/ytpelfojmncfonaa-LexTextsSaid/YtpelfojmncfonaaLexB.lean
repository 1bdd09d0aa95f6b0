import Derived.Test.YtpelfojmncfonaaLexA
set_option linter.unusedVariables false
set_option linter.unusedSimpArgs false

namespace Go.VC
open Go.Proofs Go.LexS
set_option maxRecDepth 100000

/-- the scanner: block c holds the source and the place -/
def Sc (h : Heap) (c : Nat) (s : ByteArray) (k : Nat) : Prop := Own h c [.string s, .int .i64 k] 45
theorem Sc.s {h : Heap} {c : Nat} {s : ByteArray} {k : Nat} (hs : Sc h c s k) : hc h ⟨c, 0, none⟩ = some (.string s) := Own.hc hs 0
theorem Sc.k {h : Heap} {c : Nat} {s : ByteArray} {k : Nat} (hs : Sc h c s k) : hc h ⟨c, 1, none⟩ = some (.int .i64 k) := Own.hc hs 1
theorem Sc.ok {h : Heap} {c : Nat} {s : ByteArray} {k : Nat} (hs : Sc h c s k) : okAt h ⟨c, 1, none⟩ 1 := Own.okAt hs (by simp)
theorem Sc.put {h h' : Heap} {c : Nat} {s : ByteArray} {k j : Nat} (hs : Sc h c s k) (e : h' = hputs h ⟨c, 1, none⟩ 0 [.int .i64 j]) : Sc h' c s j ∧ But c h h' := by
  subst e
  exact ⟨by have := Own.hputs (b := c) (o := 1) [.int .i64 j] 0 h _ hs (by simp); exact this, But.hputs (a := ⟨c, 1, none⟩) _ _ _⟩

theorem isPrefix_slashes (l : List UInt8) : [47, 47].isPrefixOf l = true ↔ l[0]? = some 47 ∧ l[1]? = some 47 := by
  match l with
  | [] => exact ⟨fun h => Bool.noConfusion h, fun h => by cases h.1⟩
  | [a] =>
    refine ⟨fun h => ?_, fun h => by cases h.2⟩
    have h' : ((47 == a) && false) = true := h
    rw [Bool.and_false] at h'
    exact Bool.noConfusion h'
  | a :: b :: r =>
    show ((47 == a) && ((47 == b) && true)) = true ↔ some a = some 47 ∧ some b = some 47
    rw [Bool.and_true, Bool.and_eq_true, beq_iff_eq, beq_iff_eq, Option.some.injEq, Option.some.injEq]
    exact ⟨fun h => ⟨h.1.symm, h.2.symm⟩, fun h => ⟨h.1.symm, h.2.symm⟩⟩

theorem skip_c (c : Nat) (s : ByteArray) (k : Nat) (h : Heap) (ho : Sc h c s k) (hk : k ≤ s.size) (hs : s.size ≤ 100000) :
    Fn Try.prog 23 #[.pointer (some ⟨c, 0, none⟩)] h fun v h' => v = .tuple ⟨[]⟩ ∧ Sc h' c s (k + skipC false (s.data.toList.drop k)) ∧ But c h h' := by
  apply vc23; unfold W23
  refine ⟨fun h' m => ∃ j : Nat, m = s.size - j ∧ j ≤ s.size ∧ Sc h' c s j ∧ But c h h' ∧ j + skipC false (s.data.toList.drop j) = k + skipC false (s.data.toList.drop k), ⟨_, k, rfl, hk, ho, But.refl _ _, rfl⟩, ?_⟩
  rintro - h4 m ⟨j, rfl, hj, ho4, hb4, he⟩
  refine ⟨j, ho4.k, s, ho4.s, sB_intro (fun hlt => ?_) (fun hge => ?_)⟩
  · have hlt' : j < s.size := by simpa using hlt
    obtain ⟨b, hb, hby⟩ := byte_get hlt'
    have hdrop : s.data.toList.drop j = b :: s.data.toList.drop (j + 1) := by
      have hl : j < s.data.toList.length := by rw [← size_len]; exact hlt'
      rw [List.drop_eq_getElem_cons hl]
      rw [List.getElem?_eq_getElem hl] at hb
      rw [Option.some.inj hb]
    refine ⟨s, ho4.s, j, ho4.k, ⟨by omega, by omega, by omega⟩, ?_⟩
    have t1 : Int.toNat (j : Int) = j := by simp
    have t2 : Int.toNat ((ByteArray.size s : Nat) : Int) = s.size := by simp
    rw [t1, t2]
    have hes := ext_end s j
    generalize hrs : s.extract j s.size = rest at *
    have hrl : rest.size = s.size - j := by rw [size_len, hes, List.length_drop, ← size_len]
    have hb0 : byteAt rest 0 = b.toNat := by unfold byteAt; rw [hes, hdrop]; rfl
    have hblt := UInt8.toNat_lt b
    refine ⟨⟨by omega, by omega⟩, ?_⟩
    have hw : IntKind.wrap .i32 ((byteAt rest (Int.toNat 0) : Nat) : Int) = (b.toNat : Int) := by
      show IntKind.wrap .i32 ((byteAt rest 0 : Nat) : Int) = _
      rw [hb0]; exact wi32 (by omega) (by omega)
    rw [hw]
    refine (spaces_c _ _ (by omega) (by omega)).mono ?_
    rintro v h11 ⟨rfl, rfl⟩
    refine ⟨_, rfl, sB_intro (fun hsp => ?_) (fun hsp => ?_)⟩
    · refine ⟨j, ho4.k, ho4.ok, ?_⟩
      intro h13 e13
      have hw1 : IntKind.wrap .i64 ((j : Int) + 1) = ((j + 1 : Nat) : Int) := by rw [w64 (by omega) (by omega)]; omega
      rw [hw1] at e13
      obtain ⟨p1, p2⟩ := ho4.put e13
      refine ⟨_, ?_, j + 1, rfl, by omega, p1, hb4.trans p2, ?_⟩
      · omega
      · rw [← he, hdrop]
        have : sp b = true := hsp
        simp [skipC, this]; omega
    · refine (prefix_c _ _ _).mono ?_
      rintro v h17 ⟨rfl, rfl⟩
      have hsp' : sp b = false := hsp
      refine ⟨_, rfl, sB_intro (fun hpf => ?_) (fun hpf => ?_)⟩
      · rw [hes, hdrop] at hpf
        have h2 := (isPrefix_slashes _).1 hpf
        have hsk : skipC false (s.data.toList.drop j) = skipC true (s.data.toList.drop j) := by
          rw [hdrop]
          have hb47 : b = 47 := by simpa using h2.1
          have hh : (s.data.toList.drop (j + 1)).head? = some 47 := by
            have := h2.2
            simpa [List.head?_eq_getElem?] using this
          rw [hb47] at hsp' ⊢
          simp only [skipC, hsp', hh]
          simp
        refine (indexByte_c _ _ _).mono ?_
        rintro v h20 ⟨rfl, rfl⟩
        rw [hes]
        refine ⟨_, rfl, sB_intro (fun hn => ?_) (fun hn => ?_)⟩
        · have hno := Lib.indexByte_none (l := s.data.toList.drop j) (c := 10) (by
            have := Lib.indexByte_ge (s.data.toList.drop j) 10
            have hn' : Lib.indexByte (s.data.toList.drop j) 10 < 0 := by simpa using hn
            omega)
          have hsk2 := skip_nolf _ hno
          have hlen : (s.data.toList.drop j).length = s.size - j := by rw [List.length_drop, ← size_len]
          refine ⟨j, ho4.k, ho4.ok, ?_⟩
          intro h22 e22
          have hw1 : IntKind.wrap .i64 ((j : Int) + IntKind.wrap .i64 (IntKind.wrap .i64 ((rest.size : Int) - 1) + 1)) = ((s.size : Nat) : Int) := by
            rw [hrl, w64 (n := ((s.size - j : Nat) : Int) - 1) (by omega) (by omega), w64 (n := ((s.size - j : Nat) : Int) - 1 + 1) (by omega) (by omega), w64 (by omega) (by omega)]; omega
          rw [hw1] at e22
          obtain ⟨p1, p2⟩ := ho4.put e22
          refine ⟨_, ?_, s.size, rfl, Nat.le_refl _, p1, hb4.trans p2, ?_⟩
          · omega
          · rw [← he, hsk, hsk2, hlen]
            have : s.data.toList.drop s.size = [] := List.drop_eq_nil_of_le (by rw [← size_len]; exact Nat.le_refl _)
            rw [this]; simp [skipC]; omega
        · have hn' : 0 ≤ Lib.indexByte (s.data.toList.drop j) 10 := by simpa using hn
          obtain ⟨n, hnn⟩ := Int.eq_ofNat_of_zero_le hn'
          obtain ⟨g1, g2⟩ := Lib.indexByte_some hnn
          have hsk2 := skip_lf _ n g1 g2
          have hlen : (s.data.toList.drop j).length = s.size - j := by rw [List.length_drop, ← size_len]
          have hnl : n < s.size - j := by rw [← hlen]; exact (List.getElem?_eq_some_iff.1 g1).1
          refine ⟨j, ho4.k, ho4.ok, ?_⟩
          intro h25 e25
          have hw1 : IntKind.wrap .i64 ((j : Int) + IntKind.wrap .i64 (Lib.indexByte (s.data.toList.drop j) 10 + 1)) = ((j + (n + 1) : Nat) : Int) := by
            rw [hnn, w64 (n := (n : Int) + 1) (by omega) (by omega), w64 (by omega) (by omega)]; omega
          rw [show (Int.toNat 10).toUInt8 = (10 : UInt8) from rfl, hw1] at e25
          obtain ⟨p1, p2⟩ := ho4.put e25
          refine ⟨_, ?_, j + (n + 1), rfl, by omega, p1, hb4.trans p2, ?_⟩
          · omega
          · rw [← he, hsk, hsk2, List.drop_drop]; omega
      · rw [hes, hdrop] at hpf
        refine ⟨rfl, ?_, hb4⟩
        rw [← he]
        have h0 : skipC false (s.data.toList.drop j) = 0 := by
          rw [hdrop]
          have hnp := mt (isPrefix_slashes (b :: s.data.toList.drop (j + 1))).2 (by rw [hpf]; simp)
          have : ¬ (b = 47 ∧ (s.data.toList.drop (j + 1)).head? = some 47) := by
            rintro ⟨e1, e2⟩
            apply hnp
            refine ⟨by simp [e1], ?_⟩
            rw [List.head?_eq_getElem?] at e2
            simpa using e2
          simp only [skipC, hsp', if_neg this]
          simp
        rw [h0]; exact ho4
  · have hge' : s.size ≤ j := by simpa using hge
    have hej : j = s.size := by omega
    refine ⟨rfl, ?_, hb4⟩
    rw [← he]
    have : s.data.toList.drop j = [] := List.drop_eq_nil_of_le (by rw [← size_len]; exact hge')
    rw [this]
    simpa [skipC] using ho4
end Go.VC
