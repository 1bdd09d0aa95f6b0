import Derived.Test.YtpelfojmncfonaaLexQ
set_option linter.unusedVariables false
set_option linter.unusedSimpArgs false

namespace Go.LexS
open Go.VC
set_option maxRecDepth 100000
theorem lt_plain {c : UInt8} (h : lt c = true) : sp c = false ∧ c ≠ 47 := by
  unfold lt isLetter at h
  rw [Bool.or_eq_true, Bool.and_eq_true, Bool.and_eq_true, decide_eq_true_eq, decide_eq_true_eq, decide_eq_true_eq, decide_eq_true_eq] at h
  constructor
  · unfold sp isSpace
    rw [Bool.or_eq_false_iff, Bool.or_eq_false_iff, Bool.or_eq_false_iff]
    refine ⟨⟨⟨?_, ?_⟩, ?_⟩, ?_⟩ <;> (refine beq_eq_false_iff_ne.2 ?_; omega)
  · rintro rfl
    revert h; decide
theorem toks_name (l : List UInt8) (h : isName l = true) : tokensS l = .ok [(⟨1, l, 0⟩, 0)] := by
  cases l with
  | nil => cases h
  | cons c cs =>
    unfold isName at h
    rw [Bool.and_eq_true, Bool.and_eq_true, decide_eq_true_eq] at h
    obtain ⟨⟨h16, hlt⟩, hall⟩ := h
    obtain ⟨hsp, h47⟩ := lt_plain hlt
    have hsk : skipC false (c :: cs) = 0 := by
      simp only [skipC, hsp, Bool.false_eq_true, if_false]
      rw [if_neg (fun e => h47 e.1)]
    have htw : (c :: cs).takeWhile inn = c :: cs := by
      have := tw_app inn (c :: cs) [] ((all_split inn (c :: cs)).1 hall) rfl
      rwa [List.append_nil] at this
    unfold tokensS
    rw [if_neg (by omega), toks_cons (c := c) (cs := cs) (by rw [hsk]; rfl), tokenS_cons, if_pos hlt]
    unfold nameS
    rw [htw, if_neg (by omega), hsk]
    simp only []
    rw [toks_nil]
    have e : cs.drop ((c :: cs).length - 1) = [] := List.drop_eq_nil_of_le (by rw [List.length_cons]; omega)
    rw [e]; rfl
theorem kw_name : ∀ k ∈ keywords, isName k = true ∧ isWord k = false := by decide +kernel
theorem kw_long : ∀ k ∈ keywords, ∀ t, t < 26 → isWord (k ++ [UInt8.ofNat (97 + t)] ++ [120]) = true := by decide +kernel
theorem kw_cap : ∀ k ∈ keywords, ∃ c cs, k = c :: cs ∧ 97 ≤ c.toNat ∧ c.toNat ≤ 122 ∧ isWord (UInt8.ofNat (c.toNat - 32) :: cs) = true := by
  intro k hk
  have h : ∀ k ∈ keywords, (match k with | [] => false | c :: cs => decide (97 ≤ c.toNat) && decide (c.toNat ≤ 122) && isWord (UInt8.ofNat (c.toNat - 32) :: cs)) = true := by decide +kernel
  have := h k hk
  cases k with
  | nil => cases this
  | cons c cs =>
    simp only [Bool.and_eq_true, decide_eq_true_eq] at this
    exact ⟨c, cs, rfl, this.1.1, this.1.2, this.2⟩
end Go.LexS
namespace Go.VC
open Go.Proofs Go.LexS
set_option maxRecDepth 100000
theorem enc_lo : ∀ k : Fin 128, Utf8.encode ((k.1 : Nat) : Int) = ⟨#[UInt8.ofNat k.1]⟩ := by decide
theorem und21 : (Try.prog.underlying 21).isSome = true := by kernel_rfl
theorem rune_c (n : Nat) (hn : n < 128) (h : Heap) : RunW Try.prog (Go.convert 21 9 (.int .i32 (n : Int))) h fun v h' => v = .string (bs [UInt8.ofNat n]) ∧ h' = h := by
  intro w hw
  have := run_convert_int_string (P := Try.prog) w 21 9 .i32 (n : Int) und21 und9
  rw [enc_lo ⟨n, hn⟩] at this
  exact ⟨_, w, this, ⟨rfl, hw⟩, rfl, rfl, rfl⟩
theorem law_keywords (n t : Int) (hn0 : 0 ≤ n) (hn1 : n ≤ 255) (ht0 : 0 ≤ t) (ht1 : t ≤ 255) (h : Heap) : Fn Try.prog 7 #[.int .u8 n, .int .u8 t] h fun v h' => v = .bool true ∧ Ext h h' := by
  apply vc7; unfold W7
  refine (awake_c h).mono ?_
  rintro v h3 ⟨rfl, hE3⟩
  refine ⟨true, rfl, sB_f rfl ?_⟩
  refine (keywords_c h3).mono ?_
  rintro v h6 ⟨hE6, rfl, e, ho⟩
  refine ⟨⟨some ⟨h3.size, 0, none⟩, 28, 28⟩, rfl, (by dsimp only; decide), ?_⟩
  rw [NB_some]
  obtain ⟨n, rfl⟩ := Int.eq_ofNat_of_zero_le hn0
  obtain ⟨t, rfl⟩ := Int.eq_ofNat_of_zero_le ht0
  have hmod : Int.tmod (IntKind.wrap .i64 ((n : Nat) : Int)) ((28 : Nat) : Int) = ((n % 28 : Nat) : Int) := by
    rw [w64 (by omega) (by omega)]; rfl
  have hmodt : Int.tmod ((t : Nat) : Int) 26 = ((t % 26 : Nat) : Int) := rfl
  have hj : n % 28 < 28 := Nat.mod_lt _ (by omega)
  have hj2 : t % 26 < 26 := Nat.mod_lt _ (by omega)
  dsimp only
  rw [hmod, hmodt]
  generalize n % 28 = j at *
  generalize t % 26 = i at *
  obtain ⟨k, hk⟩ : ∃ k, keywords[j]? = some k := ⟨_, List.getElem?_eq_getElem (show j < keywords.length from hj)⟩
  have hm : k ∈ keywords := List.mem_of_getElem? hk
  obtain ⟨hname, hword⟩ := kw_name k hm
  have hlong := kw_long k hm i hj2
  obtain ⟨c, cs, hkc, hc1, hc2, hcap⟩ := kw_cap k hm
  have hsz : (bs k).size ≤ 16 := by
    rw [bs_size]
    rw [hkc] at hname ⊢
    unfold isName at hname
    rw [Bool.and_eq_true, Bool.and_eq_true, decide_eq_true_eq] at hname
    exact hname.1.1
  refine ⟨⟨by omega, by omega⟩, bs k, ?_, by decide, ?_⟩
  · rw [show Int.toNat (j : Int) = j from rfl, Nat.mul_one, Nat.zero_add, ho.hc, strC_get, hk]; rfl
  have hw1 : IntKind.wrap .i32 (IntKind.wrap .u8 (97 + ((i : Nat) : Int))) = ((97 + i : Nat) : Int) := by
    rw [wu8 (by omega) (by omega), wi32 (by omega) (by omega)]; omega
  rw [hw1]
  refine (rune_c (97 + i) (by omega) h6).mono ?_
  rintro v h12 ⟨rfl, rfl⟩
  refine ⟨_, rfl, ?_⟩
  have e120 : (⟨#[120]⟩ : ByteArray) = bs [120] := rfl
  rw [e120, bs_app, bs_app, bs_size, bs_size, bs_size, bs_size]
  rw [bs_size] at hsz
  refine ⟨by simp only [List.length_singleton]; omega, by rw [List.length_append]; simp only [List.length_singleton]; omega, ?_⟩
  refine (tokens_c _ h12).mono ?_
  rintro v h17 ⟨hE17, hv⟩
  rw [bs_list, toks_name k hname] at hv
  obtain ⟨sl, rfl, hos⟩ := hv
  have hsn : sl.n = 1 := by have := hos.len; rw [toksC_len, List.length_singleton] at this; omega
  refine ⟨sl, _, _, rfl, ?_⟩
  refine (isname_c _ h17).mono ?_
  rintro v h20 ⟨rfl, rfl⟩
  rw [bs_list, hname]
  refine ⟨_, rfl, Ext.refl _, sB_t rfl ?_⟩
  refine (isword_c _ h20).mono ?_
  rintro v h23 ⟨rfl, hE23⟩
  rw [bs_list, hword]
  refine ⟨_, rfl, hE23, sB_t rfl ?_⟩
  refine (isword_c _ h23).mono ?_
  rintro v h26 ⟨rfl, hE26⟩
  rw [bs_list, hlong]
  refine ⟨_, rfl, hE26, sB_t rfl ?_⟩
  have hlen : k.length = cs.length + 1 := by rw [hkc]; rfl
  have hb0 : byteAt (bs k) (Int.toNat 0) = c.toNat := by
    rw [hkc]; rfl
  have hw2 : IntKind.wrap .i32 (IntKind.wrap .u8 ((c.toNat : Int) - 32)) = ((c.toNat - 32 : Nat) : Int) := by
    rw [wu8 (by omega) (by omega), wi32 (by omega) (by omega)]; omega
  have hext : (bs k).extract (Int.toNat 1) (Int.toNat ((k.length : Nat) : Int)) = bs cs := by
    rw [show Int.toNat ((k.length : Nat) : Int) = (bs k).size from rfl, ← bs_of ((bs k).extract _ _), ext_end, bs_list, hkc]; rfl
  refine ⟨⟨by omega, by omega⟩, ⟨by omega, by omega, by omega⟩, ?_⟩
  rw [hb0, hw2, hext]
  refine (rune_c (c.toNat - 32) (by omega) h26).mono ?_
  rintro v h29 ⟨rfl, rfl⟩
  refine ⟨_, rfl, Ext.refl _, ?_⟩
  rw [bs_app, bs_size, bs_size]
  refine ⟨by simp only [List.length_singleton]; omega, ?_⟩
  refine (isword_c _ h29).mono ?_
  rintro v h32 ⟨rfl, hE32⟩
  rw [bs_list, show [UInt8.ofNat (c.toNat - 32)] ++ cs = UInt8.ofNat (c.toNat - 32) :: cs from rfl, hcap]
  have hr := ((hos.rd.ext hE23).ext hE26).ext hE32
  obtain ⟨g, o, ha, ho'⟩ := hr.at (by omega)
  refine ⟨_, rfl, hE32, sB_t rfl (sB_t rfl (sB_t (by rw [hsn]; rfl) ?_))⟩
  rw [ha, NB_some, hsn]
  refine ⟨⟨by omega, by omega⟩, _, _, _, _, hr.tok ho' (i := 0) rfl, ?_, ((((hE3.trans hE6).trans hE17).trans hE23).trans hE26).trans hE32⟩
  rw [strEq, bs_list, decide_eq_true rfl]; rfl
end Go.VC
