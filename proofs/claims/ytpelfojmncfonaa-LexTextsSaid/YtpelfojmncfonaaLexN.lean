import Derived.Test.YtpelfojmncfonaaLexM
set_option linter.unusedVariables false
set_option linter.unusedSimpArgs false

namespace Go.VC
open Go.Proofs Go.LexS
set_option maxRecDepth 100000

theorem subA_zero (a : Option Addr) (c size : Nat) : subA a 0 c size = a := by
  unfold subA
  split
  · rfl
  · cases a with
    | none => rfl
    | some a => rw [Nat.zero_mul]; rfl
theorem OwnS.cap {h : Heap} {b : Nat} {e : TypeId} {size : Nat} {s : Sl} {xs : List Value} (ho : OwnS h b e size s xs) : s.n ≤ s.c := by
  rcases ho.2 with ⟨_, h0, h1⟩ | ⟨g, cur, ha, hb, hh, hn, _⟩
  · omega
  · exact hn
theorem toksC_append (l m : List (T × Nat)) : toksC (l ++ m) = toksC l ++ toksC m := by unfold toksC; rw [List.flatMap_append]
theorem Rd.take {h : Heap} {s : Sl} {l : List (T × Nat)} (hr : Rd h 4 s (toksC l)) (k c : Nat) (hk : k ≤ l.length) : Rd h 4 ⟨s.a, k, c⟩ (toksC (l.take k)) := by
  refine ⟨by rw [toksC_len, List.length_take]; simp only []; omega, ?_⟩
  have hn : s.n = l.length := by have := hr.1; rw [toksC_len] at this; omega
  rcases hr.2 with h0 | ⟨g, o, ha, hv⟩
  · exact .inl (by simp only []; omega)
  · refine .inr ⟨g, o, ha, fun i v hi => hv i v ?_⟩
    have hl := (List.getElem?_eq_some_iff.1 hi).1
    conv => lhs; rw [← List.take_append_drop k l, toksC_append]
    rw [List.getElem?_append_left hl]; exact hi
theorem tokens_ok_len {s : List UInt8} {l : List (T × Nat)} (h : tokensS s = .ok l) : l.length ≤ 8000 ∧ l.length ≤ s.length ∧ toks 0 s = .ok l := by
  unfold tokensS at h
  split at h
  · cases h
  · have := toks_length _ _ _ _ rfl h
    exact ⟨by omega, this, h⟩

theorem law_places (s : ByteArray) (k : Int) (hk0 : 0 ≤ k) (hk1 : k ≤ 255) (h : Heap) : Fn Try.prog 4 #[.string s, .int .u8 k] h fun v h' => v = .bool true ∧ Ext h h' := by
  apply vc4; unfold W4
  refine (awake_c h).mono ?_
  rintro v h3 ⟨rfl, hE3⟩
  refine ⟨true, rfl, sB_f rfl ?_⟩
  refine sB_intro (fun hgt => ?_) (fun hgt => ?_)
  · refine (awake_c h3).mono ?_
    rintro v h9 ⟨rfl, hE9⟩
    exact ⟨true, rfl, rfl, hE3.trans hE9⟩
  have hs : s.size ≤ 1000 := by have := of_decide_eq_false hgt; omega
  have hsz := size_len s
  refine (tokens_c s h3).mono ?_
  rintro v h14 ⟨hE14, hv⟩
  cases hr : tokensS s.data.toList with
  | error p =>
    obtain ⟨p, e⟩ := p
    rw [hr] at hv
    simp only [] at hv
    subst hv
    have he : (e != 0) = true ∨ (e != 0) = false := by cases (e != 0) <;> simp
    refine ⟨⟨none, 0, 0⟩, _, _, rfl, sB_intro (fun _ => ⟨rfl, hE3.trans hE14⟩) fun _ => sB_t rfl ⟨rfl, hE3.trans hE14⟩⟩
  | ok l =>
    obtain ⟨hl1, hl2, ht⟩ := tokens_ok_len hr
    rw [hr] at hv
    obtain ⟨sl, rfl, hos⟩ := hv
    have hn : sl.n = l.length := by have := hos.len; rw [toksC_len] at this; omega
    have hcap := hos.cap
    refine ⟨sl, _, _, rfl, sB_f rfl ?_⟩
    rw [hn]
    refine sB_intro (fun h0 => ⟨by rw [h0], hE3.trans hE14⟩) fun h0 => ?_
    have hpos : 0 < l.length := by
      have : ¬ ((l.length : Nat) : Int) = 0 := fun e => by rw [e] at h0; cases h0
      omega
    obtain ⟨hpl, hpw⟩ := toks_places _ _ _ _ rfl ht
    obtain ⟨g, o, ha, ho⟩ := hos.rd.at (by omega)
    have cell : ∀ (i : Nat) (p : T × Nat), l[i]? = some p → hc h14 ⟨g, o + i * 4 + 3, none⟩ = some (.int .i64 p.2) := fun i p hp => by
      have := hos.rd.tok ho hp 3 _ rfl
      rwa [addk_at] at this
    have hext : ∀ i : Nat, s.extract 0 i = bs (s.data.toList.take i) := fun i => by rw [ext_bs, List.drop_zero, Nat.sub_zero]
    rw [ha]
    dsimp only [NB_some]
    refine ⟨fun x h' m => ∃ i : Nat, x = i ∧ m = l.length - i ∧ i ≤ l.length ∧ h' = h14, ⟨_, 0, rfl, rfl, by omega, rfl⟩, ?_⟩
    rintro - x h19 m ⟨i, rfl, rfl, hi, rfl⟩
    refine sB_intro (fun hlt => ?_) (fun hge => ?_)
    · have hlt' : i < l.length := by have := of_decide_eq_true hlt; omega
      obtain ⟨p, hp⟩ : ∃ p, l[i]? = some p := ⟨_, List.getElem?_eq_getElem hlt'⟩
      have hpp := hpl p (List.mem_of_getElem? hp)
      have hin : (0 : Int) ≤ (i : Int) ∧ (i : Int) < (l.length : Nat) := ⟨by omega, by omega⟩
      have next : ∃ m32, m32 < l.length - i ∧ ∃ i' : Nat, IntKind.wrap .i64 ((i : Int) + 1) = i' ∧ m32 = l.length - i' ∧ i' ≤ l.length ∧ h19 = h19 := by
        refine ⟨_, ?_, i + 1, ?_, rfl, by omega, rfl⟩
        · omega
        · rw [w64 (by omega) (by omega)]; omega
      rw [show Int.toNat (i : Int) = i from rfl]
      refine ⟨hin, _, cell i p hp, sB_f (by rw [decide_eq_false]; omega) ⟨hin, _, cell i p hp, sB_f (by rw [decide_eq_false]; omega) (sB_intro (fun h1 => ?_) fun _ => next)⟩⟩
      have h1' : 0 < i := by have := of_decide_eq_true h1; omega
      obtain ⟨q, hq⟩ : ∃ q, l[i - 1]? = some q := ⟨_, List.getElem?_eq_getElem (by omega)⟩
      have hw : IntKind.wrap .i64 ((i : Int) - 1) = ((i - 1 : Nat) : Int) := by rw [w64 (by omega) (by omega)]; omega
      have hlt2 : q.2 < p.2 := by
        have := List.pairwise_iff_getElem.1 hpw (i - 1) i (by omega) hlt' (by omega)
        rw [List.getElem?_eq_getElem (by omega)] at hq
        rw [List.getElem?_eq_getElem hlt'] at hp
        cases hq; cases hp; exact this
      rw [hw, show Int.toNat ((i - 1 : Nat) : Int) = i - 1 from rfl]
      exact ⟨hin, _, cell i p hp, ⟨by omega, by omega⟩, _, cell (i - 1) q hq, sB_f (by rw [decide_eq_false]; omega) next⟩
    · have hwk : IntKind.wrap .i64 k = k := w64 (by omega) (by omega)
      obtain ⟨k', rfl⟩ := Int.eq_ofNat_of_zero_le hk0
      have hmod : Int.tmod (IntKind.wrap .i64 (k' : Int)) ((l.length : Nat) : Int) = ((k' % l.length : Nat) : Int) := by
        rw [hwk]; rfl
      have hj : k' % l.length < l.length := Nat.mod_lt _ hpos
      rw [hmod]
      generalize k' % l.length = j at *
      obtain ⟨p, hp⟩ : ∃ p, l[j]? = some p := ⟨_, List.getElem?_eq_getElem hj⟩
      have hpp := hpl p (List.mem_of_getElem? hp)
      have hcut := toks_cut _ _ _ _ _ _ rfl ht hp
      rw [show Int.toNat (j : Int) = j from rfl]
      refine ⟨by omega, ⟨by omega, by omega⟩, _, cell j p hp, ⟨by omega, by omega, by omega⟩, ?_⟩
      rw [show Int.toNat 0 = 0 from rfl, show Int.toNat ((p.2 : Nat) : Int) = p.2 from rfl, hext]
      have hts : tokensS (bs (s.data.toList.take p.2)).data.toList = .ok (l.take j) := by
        rw [bs_list]
        unfold tokensS
        rw [if_neg (by rw [List.length_take]; omega)]
        rwa [Nat.sub_zero] at hcut
      refine (tokens_c _ h19).mono ?_
      rintro v h41 ⟨hE41, hv⟩
      rw [hts] at hv
      obtain ⟨sl2, rfl, hos2⟩ := hv
      refine ⟨sl2, _, _, rfl, sB_t rfl ⟨⟨by omega, by omega, by omega⟩, ?_⟩⟩
      refine (theirs_c (l.take j) (by rw [List.length_take]; omega) sl2 h41 hos2.rd).mono ?_
      rintro v h44 ⟨hE44, sl3, rfl, hos3⟩
      refine ⟨sl3, rfl, ?_⟩
      rw [subA_zero]
      have hrd : Rd h44 4 ⟨some ⟨g, o, none⟩, j, sl.c⟩ (toksC (l.take j)) := by
        have := (hos.rd.take j sl.c (by omega)).ext (hE41.trans hE44)
        rwa [ha] at this
      refine (theirs_c (l.take j) (by rw [List.length_take]; omega) ⟨some ⟨g, o, none⟩, j, sl.c⟩ h44 hrd).mono ?_
      rintro v h47 ⟨hE47, sl4, rfl, hos4⟩
      refine ⟨sl4, rfl, ?_⟩
      refine (same_c (l.take j) (l.take j) (by rw [List.length_take]; omega) sl3 sl4 true h47 (hos3.rd.ext hE47) hos4.rd).mono ?_
      rintro v h50 ⟨rfl, rfl⟩
      refine ⟨_, rfl, by simp [sameS], ?_⟩
      exact (((hE3.trans hE14).trans hE41).trans hE44).trans hE47
end Go.VC
