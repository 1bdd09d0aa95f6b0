import Derived.Test.YtpelfojmncfonaaLexK
set_option linter.unusedVariables false
set_option linter.unusedSimpArgs false

namespace Go.LexS
/-- toks with fuel, for the kernel to compute -/
def toksF : Nat → Nat → List UInt8 → Except (Nat × Int) (List (T × Nat))
  | 0, _, _ => .ok []
  | f + 1, k, l =>
    match l.drop (skipC false l) with
    | [] => .ok []
    | c :: cs => match tokenS (c :: cs) with
      | .error e => .error (k + skipC false l, e)
      | .ok (t, n) => match toksF f (k + skipC false l + n) (cs.drop (n - 1)) with
        | .error e => .error e
        | .ok r => .ok ((t, k + skipC false l) :: r)
theorem toksF_eq : ∀ (f k : Nat) (l : List UInt8), l.length < f → toksF f k l = toks k l
  | 0, k, l, h => by omega
  | f + 1, k, l, h => by
    rw [toksF]
    cases hd : l.drop (skipC false l) with
    | nil => rw [toks_nil hd]
    | cons c cs =>
      rw [toks_cons hd]
      simp only []
      cases tokenS (c :: cs) with
      | error e => rfl
      | ok p =>
        have hl := congrArg List.length hd
        rw [List.length_drop, List.length_cons] at hl
        simp only []
        rw [toksF_eq f _ _ (by rw [List.length_drop]; omega)]
        rfl
def keywords : List (List UInt8) := [[97, 103, 97, 105, 110], [97, 110, 100], [97, 115], [97, 116], [99, 97, 108, 108], [99, 104, 111, 105, 99, 101], [101, 108, 115, 101], [102, 114, 111, 109], [105, 102], [105, 110, 116], [108, 101, 110], [108, 111, 111, 112], [109, 101, 115, 115, 97, 103, 101], [111, 102], [111, 102, 102, 101, 114], [111, 110], [111, 114], [112, 97, 114], [112, 108, 97, 121, 115], [112, 114, 111, 116, 111, 99, 111, 108], [115, 101, 114, 118, 105, 99, 101], [116, 101, 120, 116], [116, 105, 109, 101, 115], [116, 111], [118, 97, 114], [119, 104, 101, 114, 101], [119, 104, 105, 108, 101], [119, 105, 116, 104, 105, 110]]
def isName (l : List UInt8) : Bool := match l with
  | [] => false
  | c :: _ => decide (l.length ≤ 16) && lt c && l.all inn
def isWord (l : List UInt8) : Bool := isName l && !decide (l ∈ keywords)
end Go.LexS
namespace Go.VC
open Go.Proofs Go.LexS
set_option maxRecDepth 100000

theorem all_split (p : UInt8 → Bool) (L : List UInt8) : L.all p = true ↔ ∀ (b : UInt8) (j : Nat), L[j]? = some b → p b = true := by
  rw [List.all_eq_true]
  exact ⟨fun h b j hb => h b (List.mem_of_getElem? hb), fun h b hb => by obtain ⟨j, hj⟩ := List.mem_iff_getElem?.1 hb; exact h b j hj⟩
theorem isname_c (s : ByteArray) (h : Heap) : Fn Try.prog 17 #[.string s] h fun v h' => v = .bool (isName s.data.toList) ∧ h' = h := by
  apply vc17; unfold W17
  have hsz := size_len s
  rw [strEq]
  generalize hL : s.data.toList = L at *
  refine sB_intro (fun he => ?_) (fun he => ?_)
  · have : L = [] := of_decide_eq_true he
    subst this
    exact ⟨rfl, rfl⟩
  · have hne : L ≠ [] := of_decide_eq_false he
    have hpos : 0 < L.length := List.length_pos_iff.2 hne
    obtain ⟨b, hb, hby⟩ := byte_get (s := s) (i := 0) (by omega)
    rw [hL] at hb
    have hcons : L = b :: L.drop 1 := by have := drop_cons hb; rwa [List.drop_zero] at this
    have hdef : isName L = (decide (L.length ≤ 16) && lt b && L.all inn) := by
      conv => lhs; rw [hcons]
      rw [isName, ← hcons]
    rw [hdef]
    refine sB_intro (fun hgt => ?_) (fun hgt => ?_)
    · refine ⟨?_, rfl⟩
      rw [decide_eq_false (by have := of_decide_eq_true hgt; omega)]; rfl
    · have h16 : L.length ≤ 16 := by have := of_decide_eq_false hgt; omega
      rw [decide_eq_true h16]
      refine ⟨⟨by omega, by omega⟩, ?_⟩
      rw [show Int.toNat 0 = 0 from rfl, hby]
      refine (letter_c _ _).mono ?_
      rintro v h3 ⟨rfl, rfl⟩
      refine ⟨_, rfl, sB_intro (fun hlet => ?_) (fun hlet => ?_)⟩
      · refine ⟨?_, rfl⟩
        rw [show lt b = false from by rw [Bool.not_eq_true'] at hlet; exact hlet]; rfl
      · rw [show lt b = true from by rw [Bool.not_eq_false'] at hlet; exact hlet]
        refine ⟨fun x h' m => ∃ i : Nat, x = i ∧ m = s.size - i ∧ i ≤ s.size ∧ h' = h3 ∧ ∀ (b : UInt8) (j : Nat), j < i → L[j]? = some b → inn b = true, ⟨_, 0, rfl, rfl, by omega, rfl, fun b j hj => by omega⟩, ?_⟩
        rintro - x h8 m ⟨i, rfl, rfl, hi, rfl, hd⟩
        refine sB_intro (fun hlt => ?_) (fun hge => ?_)
        · have hlt' : i < s.size := by have := of_decide_eq_true hlt; omega
          obtain ⟨y, hy, hby2⟩ := byte_get hlt'
          rw [hL] at hy
          refine ⟨⟨by omega, by omega⟩, ?_⟩
          rw [show Int.toNat (i : Int) = i from rfl, hby2]
          refine (inner_c _ _).mono ?_
          rintro v h11 ⟨rfl, rfl⟩
          refine ⟨_, rfl, sB_intro (fun hp => ?_) (fun hp => ?_)⟩
          · refine ⟨?_, rfl⟩
            have : L.all inn = false := by
              rw [← Bool.not_eq_true, all_split]
              intro hh
              have := hh y i hy
              rw [Bool.not_eq_true'] at hp
              rw [show inn y = false from hp] at this; cases this
            rw [this]; rfl
          · rw [Bool.not_eq_false'] at hp
            refine ⟨_, ?_, i + 1, ?_, rfl, by omega, rfl, fun b' j hj hb' => ?_⟩
            · omega
            · rw [w64 (by omega) (by omega)]; omega
            · by_cases hji : j < i
              · exact hd b' j hji hb'
              · have : j = i := by omega
                subst this
                rw [hy] at hb'; cases hb'; exact hp
        · have hge' : L.length ≤ i := by have := of_decide_eq_false hge; omega
          refine ⟨?_, rfl⟩
          rw [(all_split inn L).2 fun b j hb => hd b j (by have := (List.getElem?_eq_some_iff.1 hb).1; omega) hb]; rfl
theorem index_c (b : Nat) (l : List (List UInt8)) (n c : Nat) (hn : n = l.length) (hl : l.length ≤ 1000000) (s : ByteArray) (h : Heap) (ho : ∀ i x, l[i]? = some x → hc h ⟨b, i, none⟩ = some (.string (bs x))) :
    Fn Try.prog 48 #[.slice (some ⟨b, 0, none⟩) n c, .string s] h fun v h' => (∃ k : Int, v = .int .i64 k ∧ decide (k ≥ 0) = decide (s.data.toList ∈ l)) ∧ h' = h := by
  subst hn
  apply vc48 ⟨some ⟨b, 0, none⟩, l.length, c⟩; unfold W48
  refine ⟨fun x h' m => ∃ i : Nat, x = i ∧ m = l.length - i ∧ i ≤ l.length ∧ h' = h ∧ ∀ j, j < i → l[j]? ≠ some s.data.toList, ⟨_, 0, rfl, rfl, by omega, rfl, fun j hj => by omega⟩, ?_⟩
  rintro - x h5 m ⟨i, rfl, rfl, hi, rfl, hnot⟩
  refine sB_intro (fun hlt => ?_) (fun hge => ?_)
  · have hlt' : i < l.length := by have := of_decide_eq_true hlt; simp only [] at this; omega
    rw [NB_some]
    obtain ⟨x, hx⟩ : ∃ x, l[i]? = some x := ⟨_, List.getElem?_eq_getElem hlt'⟩
    refine ⟨⟨by omega, by simp only []; omega⟩, bs x, ?_, ?_⟩
    · rw [show Int.toNat (i : Int) = i from rfl, Nat.mul_one, Nat.zero_add]; exact ho i x hx
    · rw [strEq, bs_list]
      refine sB_intro (fun he => ?_) (fun he => ?_)
      · have : s.data.toList = x := of_decide_eq_true he
        refine ⟨⟨_, rfl, ?_⟩, rfl⟩
        rw [decide_eq_true (List.mem_of_getElem? (this ▸ hx)), decide_eq_true (by omega)]
      · refine ⟨_, ?_, i + 1, ?_, rfl, by omega, rfl, fun j hj => ?_⟩
        · omega
        · rw [w64 (by omega) (by omega)]; omega
        · by_cases hji : j < i
          · exact hnot j hji
          · have : j = i := by omega
            subst this
            rw [hx]; intro e; exact of_decide_eq_false he (Option.some.inj e).symm
  · have hge' : l.length ≤ i := by have := of_decide_eq_false hge; simp only [] at this; omega
    refine ⟨⟨_, rfl, ?_⟩, rfl⟩
    rw [decide_eq_false (p := s.data.toList ∈ l), decide_eq_false (by decide)]
    intro hm
    obtain ⟨k, hk⟩ := List.mem_iff_getElem?.1 hm
    exact hnot k (by have := (List.getElem?_eq_some_iff.1 hk).1; omega) hk
theorem inlist_c (b : Nat) (l : List (List UInt8)) (n c : Nat) (hn : n = l.length) (hl : l.length ≤ 1000000) (s : ByteArray) (h : Heap) (ho : ∀ i x, l[i]? = some x → hc h ⟨b, i, none⟩ = some (.string (bs x))) :
    Fn Try.prog 34 #[.slice (some ⟨b, 0, none⟩) n c, .string s] h fun v h' => v = .bool (decide (s.data.toList ∈ l)) ∧ h' = h := by
  apply vc34 ⟨some ⟨b, 0, none⟩, n, c⟩; unfold W34
  refine (index_c b l n c hn hl s h ho).mono ?_
  rintro v h3 ⟨⟨k, rfl, hk⟩, rfl⟩
  exact ⟨k, rfl, by rw [hk], rfl⟩
theorem splice_all {l vs : List Value} (h : l.length = vs.length) : splice l (0 + 0) vs = vs := by
  unfold splice
  rw [List.take_zero, List.nil_append, Nat.zero_add, List.drop_eq_nil_of_le (by omega), List.append_nil]
theorem isword_c (s : ByteArray) (h : Heap) : Fn Try.prog 18 #[.string s] h fun v h' => v = .bool (isWord s.data.toList) ∧ Ext h h' := by
  apply vc18; unfold W18
  intro h1 e1
  have hE : Ext h h1 := by subst e1; exact Ext.push _ _
  have hl1 : Own h1 h.size (List.replicate 28 (.string ⟨#[]⟩)) 53 := by subst e1; exact Own.push
  refine ⟨hl1.okAt (by simp), ?_⟩
  intro h2 e2
  have e2' : h2 = hputs h1 ⟨h.size, 0, none⟩ 0 (strC keywords) := e2
  clear e2
  have hB : But h.size h1 h2 := by rw [e2']; exact But.hputs (a := ⟨h.size, 0, none⟩) (strC keywords) 0 h1
  have ho2 : Own h2 h.size (strC keywords) 53 := by
    have hlen : (strC keywords).length = 28 := by unfold strC; rw [List.length_map]; rfl
    have h3 := Own.hputs (strC keywords) 0 h1 _ hl1 (o := 0) (by rw [hlen, List.length_replicate]; decide)
    rw [← e2', splice_all (by rw [hlen, List.length_replicate])] at h3
    exact h3
  have hE2 : Ext h h2 := hE.but_new hB (Nat.le_refl _)
  refine (isname_c s h2).mono ?_
  rintro v h5 ⟨rfl, rfl⟩
  refine ⟨_, rfl, sB_intro (fun hn => ?_) (fun hn => ?_)⟩
  · refine ⟨by decide, ?_⟩
    refine (inlist_c h.size keywords 28 28 rfl (by decide) s h5 fun i x hx => by rw [ho2.hc, strC_get, hx]; rfl).mono ?_
    rintro v h8 ⟨rfl, rfl⟩
    refine ⟨_, rfl, ?_, hE2⟩
    unfold isWord; rw [hn]; rfl
  · refine ⟨?_, hE2⟩
    unfold isWord; rw [hn]; rfl

def tok1 : List (T × Nat) := [(⟨1, [97, 49], 0⟩, 0), (⟨4, [45, 62], 0⟩, 2), (⟨1, [98], 0⟩, 4), (⟨4, [58], 0⟩, 5), (⟨1, [120], 0⟩, 6)]
theorem toks_one : tokensS [97, 49, 45, 62, 98, 58, 120, 32, 47, 47, 32, 121] = .ok tok1 := by
  unfold tokensS
  rw [if_neg (by decide), ← toksF_eq 13 _ _ (by decide)]
  rfl
theorem toks_two : tokensS [32, 49, 50, 97] = .error (1, 3) := by
  unfold tokensS
  rw [if_neg (by decide), ← toksF_eq 13 _ _ (by decide)]
  rfl
theorem awake_c (h : Heap) : Fn Try.prog 10 #[] h fun v h' => v = .bool true ∧ Ext h h' := by
  apply vc10; unfold W10
  refine (tokens_c _ h).mono ?_
  rintro v h5 ⟨hE5, hv⟩
  rw [show (ByteArray.mk #[97, 49, 45, 62, 98, 58, 120, 32, 47, 47, 32, 121]).data.toList = [97, 49, 45, 62, 98, 58, 120, 32, 47, 47, 32, 121] from rfl, toks_one] at hv
  obtain ⟨sl, rfl, hos⟩ := hv
  refine ⟨sl, _, _, rfl, ?_⟩
  refine (tokens_c _ h5).mono ?_
  rintro v h10 ⟨hE10, hv⟩
  rw [show (ByteArray.mk #[32, 49, 50, 97]).data.toList = [32, 49, 50, 97] from rfl, toks_two] at hv
  simp only [] at hv
  subst hv
  have hn : sl.n = 5 := by have := hos.len; rw [toksC_len] at this; simp only [tok1, List.length_cons, List.length_nil] at this; omega
  have hr := hos.rd.ext hE10
  obtain ⟨g, o, ha, ho⟩ := hr.at (by omega)
  refine ⟨⟨none, 0, 0⟩, _, _, rfl, sB_t rfl (sB_t (by rw [hn]; rfl) ?_)⟩
  rw [ha]
  simp only [NB_some]
  have c0 := hr.tok ho (i := 0) (p := (⟨1, [97, 49], 0⟩, 0)) rfl
  have c1 := hr.tok ho (i := 1) (p := (⟨4, [45, 62], 0⟩, 2)) rfl
  refine ⟨⟨by omega, by rw [hn]; decide⟩, _, _, _, _, c0, sB_t ?_ ⟨⟨by omega, by rw [hn]; decide⟩, _, _, _, _, c1, sB_t ?_ (sB_t rfl (sB_t rfl ?_))⟩⟩
  · rw [strEq]; rfl
  · rw [strEq]; rfl
  · refine (isname_c _ h10).mono ?_
    rintro v h25 ⟨rfl, rfl⟩
    refine ⟨true, rfl, ?_⟩
    refine sB_t rfl ?_
    refine (isword_c _ h25).mono ?_
    rintro v h28 ⟨rfl, hE28⟩
    exact ⟨false, rfl, rfl, (hE5.trans hE10).trans hE28⟩
theorem toks_length : ∀ (n : Nat) (k : Nat) (l : List UInt8) (r : List (T × Nat)), l.length = n → toks k l = .ok r → r.length ≤ l.length := by
  intro n
  induction n using Nat.strongRecOn with
  | ind n ih =>
    intro k l r hn h
    cases hd : l.drop (skipC false l) with
    | nil => rw [toks_nil hd] at h; cases h; simp
    | cons c cs =>
      have hl := congrArg List.length hd
      rw [List.length_drop, List.length_cons] at hl
      rw [toks_cons hd] at h
      cases ht : tokenS (c :: cs) with
      | error e => rw [ht] at h; cases h
      | ok p =>
        obtain ⟨t, m⟩ := p
        rw [ht] at h
        simp only [] at h
        cases hr : toks (k + skipC false l + m) (cs.drop (m - 1)) with
        | error e => rw [hr] at h; cases h
        | ok r' =>
          rw [hr] at h
          cases h
          have := ih (cs.drop (m - 1)).length (by rw [List.length_drop]; omega) _ _ r' rfl hr
          rw [List.length_drop] at this
          simp only [List.length_cons]; omega

theorem law_tokens (s : ByteArray) (h : Heap) : Fn Try.prog 3 #[.string s] h fun v h' => v = .bool true ∧ Ext h h' := by
  apply vc3; unfold W3
  refine (awake_c h).mono ?_
  rintro v h3 ⟨rfl, hE3⟩
  refine ⟨true, rfl, sB_f rfl ?_⟩
  refine sB_intro (fun hgt => ?_) (fun hgt => ?_)
  · refine (awake_c h3).mono ?_
    rintro v h9 ⟨rfl, hE9⟩
    exact ⟨true, rfl, rfl, hE3.trans hE9⟩
  · refine (tokens_c s h3).mono ?_
    rintro v h14 ⟨hE14, hv⟩
    cases hr : tokensS s.data.toList with
    | error p =>
      obtain ⟨k, e⟩ := p
      rw [hr] at hv
      simp only [] at hv
      subst hv
      refine ⟨⟨none, 0, 0⟩, _, _, rfl, ?_⟩
      refine (reftokens_c s h14).mono ?_
      rintro v h19 ⟨hE19, hv⟩
      rw [hr] at hv
      simp only [] at hv
      subst hv
      refine ⟨⟨none, 0, 0⟩, _, _, rfl, ?_⟩
      refine (theirs_c [] (by decide) ⟨none, 0, 0⟩ h19 ⟨rfl, .inl rfl⟩).mono ?_
      rintro v h22 ⟨hE22, sl, rfl, hos⟩
      refine ⟨sl, rfl, ?_⟩
      refine (same_c [] [] (by decide) sl ⟨none, 0, 0⟩ true h22 hos.rd ⟨rfl, .inl rfl⟩).mono ?_
      rintro v h25 ⟨rfl, rfl⟩
      refine ⟨_, rfl, sB_t rfl (sB_t (by simp) ⟨by simp, ((hE3.trans hE14).trans hE19).trans hE22⟩)⟩
    | ok l =>
      have hll : l.length ≤ 8000 := by
        unfold tokensS at hr
        split at hr
        · cases hr
        · have := toks_length _ _ _ _ rfl hr
          omega
      rw [hr] at hv
      obtain ⟨sl, rfl, hos⟩ := hv
      refine ⟨sl, _, _, rfl, ?_⟩
      refine (reftokens_c s h14).mono ?_
      rintro v h19 ⟨hE19, hv⟩
      rw [hr] at hv
      obtain ⟨sl2, rfl, hos2⟩ := hv
      refine ⟨sl2, _, _, rfl, ?_⟩
      refine (theirs_c l (by omega) sl h19 (hos.rd.ext hE19)).mono ?_
      rintro v h22 ⟨hE22, sl3, rfl, hos3⟩
      refine ⟨sl3, rfl, ?_⟩
      refine (same_c l l (by omega) sl3 sl2 true h22 hos3.rd (hos2.rd.ext hE22)).mono ?_
      rintro v h25 ⟨rfl, rfl⟩
      refine ⟨_, rfl, sB_t (by simp [sameS]) (sB_t rfl ⟨rfl, ((hE3.trans hE14).trans hE19).trans hE22⟩)⟩
end Go.VC
