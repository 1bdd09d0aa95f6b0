import Derived.Test.YtpelfojmncfonaaLexP
set_option linter.unusedVariables false
set_option linter.unusedSimpArgs false

namespace Go.VC
open Go.Proofs Go.LexS
set_option maxRecDepth 100000

theorem toks_text_eq (L : List UInt8) (hL : ∀ c ∈ L, 32 ≤ c.toNat ∧ c.toNat ≤ 126) (hl : L.length ≤ 40) : tokensS (quoteS L) = .ok [(⟨3, L, 0⟩, 0)] := by
  unfold tokensS
  rw [if_neg, toks_quote L hL hl]
  have := esc_len L
  unfold quoteS
  rw [List.length_cons, List.length_append, List.length_singleton]; omega
theorem law_texts (s : ByteArray) (h : Heap) : Fn Try.prog 9 #[.string s] h fun v h' => v = .bool true ∧ Ext h h' := by
  apply vc9; unfold W9
  refine (awake_c h).mono ?_
  rintro v h3 ⟨rfl, hE3⟩
  refine ⟨true, rfl, sB_f rfl ?_⟩
  refine sB_intro (fun hgt => ?_) (fun hgt => ?_)
  · refine (awake_c h3).mono ?_
    rintro v h9 ⟨rfl, hE9⟩
    exact ⟨true, rfl, rfl, hE3.trans hE9⟩
  have hs : s.size ≤ 40 := by have := of_decide_eq_false hgt; omega
  have hsz := size_len s
  refine ⟨fun x h' m => ∃ i : Nat, x = i ∧ m = s.size - i ∧ i ≤ s.size ∧ h' = h3 ∧ ∀ (j : Nat) (c : UInt8), j < i → s.data.toList[j]? = some c → 32 ≤ c.toNat ∧ c.toNat ≤ 126, ⟨_, 0, rfl, rfl, by omega, rfl, fun j c hj => by omega⟩, ?_⟩
  rintro - x h14 m ⟨i, rfl, rfl, hi, rfl, hall⟩
  refine sB_intro (fun hlt => ?_) (fun hge => ?_)
  · have hlt' : i < s.size := by have := of_decide_eq_true hlt; omega
    obtain ⟨b, hb, hby⟩ := byte_get hlt'
    have hin : (0 : Int) ≤ (i : Int) ∧ (i : Int) < (ByteArray.size s : Nat) := ⟨by omega, by omega⟩
    rw [show Int.toNat (i : Int) = i from rfl, hby]
    refine ⟨hin, sB_intro (fun _ => ⟨rfl, hE3⟩) fun h32 => ⟨hin, sB_intro (fun _ => ⟨rfl, hE3⟩) fun h126 => ⟨_, ?_, i + 1, ?_, rfl, by omega, rfl, fun j c hj hc => ?_⟩⟩⟩
    · omega
    · rw [w64 (by omega) (by omega)]; omega
    · by_cases hji : j < i
      · exact hall j c hji hc
      · have : j = i := by omega
        subst this
        rw [hb] at hc; cases hc
        have := of_decide_eq_false h32
        have := of_decide_eq_false h126
        omega
  · have : s.data.toList.length ≤ i := by have := of_decide_eq_false hge; omega
    have hL : ∀ c ∈ s.data.toList, 32 ≤ c.toNat ∧ c.toNat ≤ 126 := fun c hc => by
      obtain ⟨j, hj⟩ := List.mem_iff_getElem?.1 hc
      exact hall j c (by have := (List.getElem?_eq_some_iff.1 hj).1; omega) hj
    refine (quote_c s (by omega) h14).mono ?_
    rintro v h18 ⟨rfl, hE18⟩
    refine ⟨_, rfl, ?_⟩
    refine (tokens_c _ h18).mono ?_
    rintro v h23 ⟨hE23, hv⟩
    rw [bs_list, toks_text_eq _ hL (by omega)] at hv
    obtain ⟨sl, rfl, hos⟩ := hv
    have hn : sl.n = 1 := by have := hos.len; rw [toksC_len, List.length_singleton] at this; omega
    obtain ⟨g, o, ha, ho⟩ := hos.rd.at (by omega)
    refine ⟨sl, _, _, rfl, sB_t rfl (sB_t (by rw [hn]; rfl) ?_)⟩
    rw [ha, NB_some, hn]
    refine ⟨⟨by omega, by omega⟩, _, _, _, _, hos.rd.tok ho (i := 0) rfl, ?_, (hE3.trans hE18).trans hE23⟩
    rw [strEq, bs_list, decide_eq_true rfl]; rfl

theorem refisname_c (s : ByteArray) (h : Heap) : Fn Try.prog 19 #[.string s] h fun v h' => v = .bool (isName s.data.toList) ∧ h' = h := by
  apply vc19; unfold W19
  have hsz := size_len s
  rw [strEq]
  generalize hL : s.data.toList = L at *
  refine sB_intro (fun he => ?_) (fun he => ?_)
  · have : L = [] := of_decide_eq_true he
    subst this
    exact ⟨rfl, rfl⟩
  · have hne : L ≠ [] := of_decide_eq_false he
    have hpos : 0 < L.length := List.length_pos_iff.2 hne
    obtain ⟨b, hb, hby⟩ := byte_get (s := s) (i := 0) (by omega)
    rw [hL] at hb
    have hcons : L = b :: L.drop 1 := by have := drop_cons hb; rwa [List.drop_zero] at this
    have hdef : isName L = (decide (L.length ≤ 16) && lt b && L.all inn) := by
      conv => lhs; rw [hcons]
      rw [isName, ← hcons]
    rw [hdef]
    refine ⟨⟨by omega, by omega⟩, ?_⟩
    rw [show Int.toNat 0 = 0 from rfl, hby]
    refine (refletter_c _ _).mono ?_
    rintro v h3 ⟨rfl, rfl⟩
    refine ⟨_, rfl, sB_intro (fun hlet => ?_) (fun hlet => ?_)⟩
    · refine ⟨?_, rfl⟩
      rw [show lt b = false from by rw [Bool.not_eq_true'] at hlet; exact hlet, Bool.and_false]; rfl
    · rw [show lt b = true from by rw [Bool.not_eq_false'] at hlet; exact hlet]
      refine sB_intro (fun hgt => ?_) (fun hgt => ?_)
      · refine ⟨?_, rfl⟩
        rw [decide_eq_false (by have := of_decide_eq_true hgt; omega)]; rfl
      have h16 : L.length ≤ 16 := by have := of_decide_eq_false hgt; omega
      rw [decide_eq_true h16]
      refine ⟨fun x h' m => ∃ i : Nat, x = i ∧ m = s.size - i ∧ i ≤ s.size ∧ h' = h3 ∧ ∀ (b : UInt8) (j : Nat), j < i → L[j]? = some b → inn b = true, ⟨_, 0, rfl, rfl, by omega, rfl, fun b j hj => by omega⟩, ?_⟩
      rintro - x h8 m ⟨i, rfl, rfl, hi, rfl, hd⟩
      refine sB_intro (fun hlt => ?_) (fun hge => ?_)
      · have hlt' : i < s.size := by have := of_decide_eq_true hlt; omega
        obtain ⟨y, hy, hby2⟩ := byte_get hlt'
        rw [hL] at hy
        refine ⟨⟨by omega, by omega⟩, ?_⟩
        rw [show Int.toNat (i : Int) = i from rfl, hby2]
        refine (refinner_c _ _).mono ?_
        rintro v h11 ⟨rfl, rfl⟩
        refine ⟨_, rfl, sB_intro (fun hp => ?_) (fun hp => ?_)⟩
        · refine ⟨?_, rfl⟩
          have : L.all inn = false := by
            rw [← Bool.not_eq_true, all_split]
            intro hh
            have := hh y i hy
            rw [Bool.not_eq_true'] at hp
            rw [show inn y = false from hp] at this; cases this
          rw [this]; rfl
        · rw [Bool.not_eq_false'] at hp
          refine ⟨_, ?_, i + 1, ?_, rfl, by omega, rfl, fun b' j hj hb' => ?_⟩
          · omega
          · rw [w64 (by omega) (by omega)]; omega
          · by_cases hji : j < i
            · exact hd b' j hji hb'
            · have : j = i := by omega
              subst this
              rw [hy] at hb'; cases hb'; exact hp
      · have hge' : L.length ≤ i := by have := of_decide_eq_false hge; omega
        refine ⟨?_, rfl⟩
        rw [(all_split inn L).2 fun b j hb => hd b j (by have := (List.getElem?_eq_some_iff.1 hb).1; omega) hb]; rfl
theorem keywords_c (h : Heap) : Fn Try.prog 16 #[] h fun v h' => Ext h h' ∧ v = .slice (some ⟨h.size, 0, none⟩) 28 28 ∧ ∃ e, Own h' h.size (strC keywords) e := by
  apply vc16; unfold W16
  intro h1 e1
  have e1' : h1 = h.push (.cells ⟨strC keywords⟩ 9) := e1
  clear e1
  subst e1'
  exact ⟨Ext.push _ _, rfl, 9, Own.push⟩
theorem refisword_c (s : ByteArray) (h : Heap) : Fn Try.prog 20 #[.string s] h fun v h' => v = .bool (isWord s.data.toList) ∧ Ext h h' := by
  apply vc20; unfold W20
  refine (refisname_c s h).mono ?_
  rintro v h3 ⟨rfl, rfl⟩
  refine ⟨_, rfl, sB_intro (fun hn => ?_) (fun hn => ?_)⟩
  · refine (keywords_c h3).mono ?_
    rintro v h6 ⟨hE6, rfl, e, ho⟩
    refine ⟨⟨some ⟨h3.size, 0, none⟩, 28, 28⟩, rfl, ?_⟩
    refine (in_c h3.size keywords 28 28 rfl (by decide) e s h6 fun i x hx => by rw [ho.hc, strC_get, hx]; rfl).mono ?_
    rintro v h9 ⟨rfl, rfl⟩
    refine ⟨_, rfl, ?_, hE6⟩
    unfold isWord; rw [hn]; rfl
  · refine ⟨?_, Ext.refl _⟩
    unfold isWord; rw [hn]; rfl
theorem law_names (s : ByteArray) (h : Heap) : Fn Try.prog 8 #[.string s] h fun v h' => v = .bool true ∧ Ext h h' := by
  apply vc8; unfold W8
  refine (awake_c h).mono ?_
  rintro v h3 ⟨rfl, hE3⟩
  refine ⟨true, rfl, sB_f rfl ?_⟩
  refine sB_intro (fun hgt => ?_) (fun hgt => ?_)
  · refine (awake_c h3).mono ?_
    rintro v h9 ⟨rfl, hE9⟩
    exact ⟨true, rfl, rfl, hE3.trans hE9⟩
  have hs : s.size ≤ 300 := by have := of_decide_eq_false hgt; omega
  refine (isname_c s h3).mono ?_
  rintro v h12 ⟨rfl, rfl⟩
  refine ⟨_, rfl, ?_⟩
  refine (refisname_c s h12).mono ?_
  rintro v h15 ⟨rfl, rfl⟩
  refine ⟨_, rfl, sB_t (by simp) ?_⟩
  refine (isword_c s h15).mono ?_
  rintro v h18 ⟨rfl, hE18⟩
  refine ⟨_, rfl, ?_⟩
  refine (refisword_c s h18).mono ?_
  rintro v h21 ⟨rfl, hE21⟩
  refine ⟨_, rfl, sB_t (by simp) ?_⟩
  refine (quote_c s (by omega) h21).mono ?_
  rintro v h24 ⟨rfl, hE24⟩
  refine ⟨_, rfl, ?_⟩
  refine (refquote_c s (by omega) h24).mono ?_
  rintro v h27 ⟨rfl, rfl⟩
  refine ⟨_, rfl, ?_, ((hE3.trans hE18).trans hE21).trans hE24⟩
  rw [beq_self_eq_true]
end Go.VC
