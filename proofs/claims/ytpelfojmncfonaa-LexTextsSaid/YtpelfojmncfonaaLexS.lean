import Derived.Test.YtpelfojmncfonaaLexR
set_option linter.unusedVariables false
set_option linter.unusedSimpArgs false

namespace Go.LexS
open Go.VC
set_option maxRecDepth 100000
/-- w is the source of the token t -/
def validW (t : T) (w : List UInt8) : Prop := ∃ S n, tokenS S = .ok (t, n) ∧ w = S.take n
theorem elems_back : ∀ (l acc : List UInt8) (k : Nat) (t : List UInt8) (m : Nat), elemsS l acc k = some (t, m) → ∃ x, t = acc ++ x ∧ l.take (m - k) = x.flatMap esc ++ [34]
  | [], acc, k, t, m, h => by rw [elemsS.eq_def] at h; cases h
  | c :: cs, acc, k, t, m, h => by
    have hm := elems_len _ _ _ _ _ h
    by_cases h34 : c = 34
    · subst h34
      rw [elems_quote] at h
      cases h
      exact ⟨[], by simp, by rw [show k + 1 - k = 1 by omega]; rfl⟩
    · by_cases h92 : c = 92
      · subst h92
        cases cs with
        | nil => rw [elems_esc0] at h; cases h
        | cons d ds =>
          by_cases hd : d = 34 ∨ d = 92
          · rw [elems_esc hd] at h
            have hm2 := elems_len _ _ _ _ _ h
            obtain ⟨x, h1, h2⟩ := elems_back ds _ _ _ _ h
            refine ⟨d :: x, by rw [h1, List.append_assoc]; rfl, ?_⟩
            rw [show m - k = m - (k + 2) + 1 + 1 by omega, List.take_succ_cons, List.take_succ_cons, h2, List.flatMap_cons, show esc d = [92, d] from by unfold esc; rw [if_pos hd]]
            rfl
          · rw [elems_escx hd] at h; cases h
      · by_cases hb : c.toNat < 32 ∨ 126 < c.toNat
        · rw [elems_bad h34 h92 hb] at h; cases h
        · rw [elems_ok h34 h92 hb] at h
          have hm2 := elems_len _ _ _ _ _ h
          obtain ⟨x, h1, h2⟩ := elems_back cs _ _ _ _ h
          refine ⟨c :: x, by rw [h1, List.append_assoc]; rfl, ?_⟩
          rw [show m - k = m - (k + 1) + 1 by omega, List.take_succ_cons, h2, List.flatMap_cons, show esc c = [c] from by unfold esc; rw [if_neg]; rintro (e | e) <;> contradiction]
          rfl
theorem tok_write {t : T} {w : List UInt8} (h : validW t w) :
    ((t.kind = 1 ∨ t.kind = 4) ∧ t.text = w) ∨ (t.kind = 2 ∧ t.val = numV w ∧ w ≠ [] ∧ w.length ≤ 6 ∧ (1 < w.length → w.head? ≠ some 48) ∧ ∀ (b : UInt8) (i : Nat), w[i]? = some b → dg b = true) ∨ (t.kind = 3 ∧ w = quoteS t.text ∧ t.text.length ≤ 40) := by
  obtain ⟨S, n, ht, rfl⟩ := h
  cases S with
  | nil => cases ht
  | cons c cs =>
    have hn := token_len ht
    rw [tokenS_cons] at ht
    split at ht
    · obtain ⟨h1, rfl, rfl⟩ := name_ok ht
      exact .inl ⟨.inl rfl, (tw_take inn _).symm⟩
    · split at ht
      · obtain ⟨h1, h2, rfl, rfl⟩ := num_ok ht
        rename_i hd
        refine .inr (.inl ?_)
        rw [tw_take]
        refine ⟨rfl, rfl, ?_, by omega, fun h1' => ?_, takeWhile_all dg _⟩
        · rw [List.takeWhile_cons, if_pos hd]; simp
        · rw [takeWhile_head dg _ h1']
          intro e
          exact h2 (.inr ⟨h1', e⟩)
      · split at ht
        · rename_i hq
          obtain ⟨x, h1, h2, rfl⟩ := text_ok ht
          rw [List.drop_one, List.tail_cons] at h1
          obtain ⟨y, e1, e2⟩ := elems_back _ _ _ _ _ h1
          rw [List.nil_append] at e1
          subst e1
          refine .inr (.inr ⟨rfl, ?_, h2⟩)
          rw [take_cons1 hn.1, e2, hq]; rfl
        · rcases mark_ok ht with ⟨h1, rfl, rfl, h2⟩ | ⟨h1, h2, rfl, rfl⟩
          · exact .inl ⟨.inr rfl, rfl⟩
          · exact .inl ⟨.inr rfl, rfl⟩
theorem two_32 : ∀ w ∈ twos, w.length = 2 ∧ w[1]? ≠ some 32 ∧ w[0]? ≠ some 47 ∧ ∀ c, w[0]? = some c → sp c = false := by decide
theorem valid_head {t : T} {w : List UInt8} (h : validW t w) : ∃ c w', w = c :: w' ∧ sp c = false ∧ (c = 47 → w' = []) := by
  obtain ⟨S, n, ht, rfl⟩ := h
  cases S with
  | nil => cases ht
  | cons c cs =>
    have hn := token_len ht
    rw [take_cons1 hn.1]
    refine ⟨c, _, rfl, ?_⟩
    rw [tokenS_cons] at ht
    split at ht
    · rename_i hl
      exact ⟨(lt_plain hl).1, fun e => absurd e (lt_plain hl).2⟩
    · split at ht
      · rename_i hd
        have hr := dg_range hd
        refine ⟨?_, fun e => by rw [e] at hr; exact absurd hr (by decide)⟩
        unfold sp isSpace
        rw [Bool.or_eq_false_iff, Bool.or_eq_false_iff, Bool.or_eq_false_iff]
        refine ⟨⟨⟨?_, ?_⟩, ?_⟩, ?_⟩ <;> (refine beq_eq_false_iff_ne.2 ?_; omega)
      · split at ht
        · rename_i hq
          rw [hq]; exact ⟨rfl, fun e => absurd e (by decide)⟩
        · rcases mark_ok ht with ⟨h1, rfl, rfl, h2⟩ | ⟨h1, h2, rfl, rfl⟩
          · have h3 := two_32 _ h1
            cases cs with
            | nil => simp at h2
            | cons d ds => exact ⟨h3.2.2.2 c rfl, fun e => absurd (congrArg some e) h3.2.2.1⟩
          · exact ⟨(one_nl c h2).2.2.2.2, fun _ => by simp⟩
theorem toks_space (k : Nat) (c : UInt8) (r : List UInt8) (hc : sp c = true) : toks k (c :: r) = toks (k + 1) r := by
  have hs : skipC false (c :: r) = skipC false r + 1 := by simp only [skipC, if_pos hc]; omega
  cases hd : r.drop (skipC false r) with
  | nil => rw [toks_nil hd, toks_nil (by rw [hs, List.drop_succ_cons, hd])]
  | cons a b =>
    rw [toks_cons hd, toks_cons (c := a) (cs := b) (by rw [hs, List.drop_succ_cons, hd]), hs, show k + (skipC false r + 1) = k + 1 + skipC false r by omega]
def join (ws : List (T × List UInt8)) : List UInt8 := ws.flatMap fun p => p.2 ++ [32]
theorem toks_join : ∀ (ws : List (T × List UInt8)) (k : Nat), (∀ p ∈ ws, validW p.1 p.2) → ∃ l, toks k (join ws) = .ok l ∧ l.map (·.1) = ws.map (·.1)
  | [], k, _ => ⟨[], by rw [toks_nil]; rfl, rfl⟩
  | p :: ws, k, h => by
    have hp := h p List.mem_cons_self
    obtain ⟨c, w', hw, hsp, h47⟩ := valid_head hp
    have hj : join (p :: ws) = p.2 ++ 32 :: join ws := by unfold join; rw [List.flatMap_cons, List.append_assoc]; rfl
    have hj2 : join (p :: ws) = c :: (w' ++ 32 :: join ws) := by rw [hj, hw]; rfl
    have hsk : skipC false (join (p :: ws)) = 0 := by
      rw [hj2]
      simp only [skipC, hsp, Bool.false_eq_true, if_false]
      rw [if_neg]
      rintro ⟨e1, e2⟩
      rw [h47 e1, List.nil_append] at e2
      exact absurd (Option.some.inj e2) (by decide)
    obtain ⟨S, n, ht, hS⟩ := hp
    have hstop : stopS p.1 (S.take n) (32 :: join ws) := by
      refine ⟨fun _ => rfl, fun _ hl hm => ?_⟩
      have h3 := two_32 _ hm
      rw [← hS] at hl h3
      obtain ⟨a, ha⟩ := List.length_eq_one_iff.1 hl
      rw [ha] at h3
      exact h3.2.1 rfl
    have htk := tok_app ht hstop
    rw [← hS, ← hj] at htk
    have hlen : n = p.2.length := by
      cases S with
      | nil => cases ht
      | cons a b =>
        have := token_len ht
        rw [hS, List.length_take, List.length_cons]; omega
    obtain ⟨l, hl1, hl2⟩ := toks_join ws (k + n + 1) (fun q hq => h q (List.mem_cons_of_mem _ hq))
    refine ⟨(p.1, k) :: l, ?_, by rw [List.map_cons, List.map_cons, hl2]⟩
    rw [toks_cons (c := c) (cs := w' ++ 32 :: join ws) (by rw [hsk, hj2]; rfl), ← hj2, htk, hsk]
    simp only [Nat.add_zero]
    have hdr : (w' ++ 32 :: join ws).drop (n - 1) = 32 :: join ws := by
      have e : n - 1 = w'.length := by rw [hlen, hw, List.length_cons]; omega
      rw [e, List.drop_left]
    rw [hdr, toks_space _ 32 _ rfl, hl1]
theorem toks_words : ∀ (N k : Nat) (L : List UInt8) (l : List (T × Nat)), L.length = N → toks k L = .ok l → ∃ ws : List (T × List UInt8), ws.map (·.1) = l.map (·.1) ∧ (∀ p ∈ ws, validW p.1 p.2) ∧ (join ws).length ≤ 2 * L.length := by
  intro N
  induction N using Nat.strongRecOn with
  | ind N ih =>
    intro k L l hN h
    cases hd : L.drop (skipC false L) with
    | nil => rw [toks_nil hd] at h; cases h; exact ⟨[], rfl, fun p hp => (List.not_mem_nil hp).elim, by simp [join]⟩
    | cons c cs =>
      have hl := congrArg List.length hd
      rw [List.length_drop, List.length_cons] at hl
      rw [toks_cons hd] at h
      cases ht : tokenS (c :: cs) with
      | error e => rw [ht] at h; cases h
      | ok q =>
        obtain ⟨t, n⟩ := q
        have hn := token_len ht
        rw [ht] at h
        simp only [] at h
        cases hr : toks (k + skipC false L + n) (cs.drop (n - 1)) with
        | error e => rw [hr] at h; cases h
        | ok r =>
          rw [hr] at h
          cases h
          obtain ⟨ws, h1, h2, h3⟩ := ih (cs.drop (n - 1)).length (by rw [List.length_drop]; omega) _ _ r rfl hr
          rw [List.length_drop] at h3
          refine ⟨(t, (c :: cs).take n) :: ws, by rw [List.map_cons, List.map_cons, h1], fun p hp => ?_, ?_⟩
          · rcases List.mem_cons.1 hp with rfl | hp
            · exact ⟨_, n, ht, rfl⟩
            · exact h2 p hp
          · have : join ((t, (c :: cs).take n) :: ws) = ((c :: cs).take n ++ [32]) ++ join ws := by unfold join; rw [List.flatMap_cons]
            rw [this, List.length_append, List.length_append, List.length_take, List.length_cons, List.length_singleton]
            omega
end Go.LexS
namespace Go.VC
open Go.Proofs Go.LexS
set_option maxRecDepth 100000
theorem head_app {a b : List UInt8} (h : a ≠ []) : (a ++ b).head? = a.head? := by
  cases a with
  | nil => exact absurd rfl h
  | cons x a => rfl
theorem numV_pos : ∀ (n : Nat) (w : List UInt8), w.length = n → w ≠ [] → w.head? ≠ some 48 → (∀ (b : UInt8) (i : Nat), w[i]? = some b → dg b = true) → 1 ≤ numV w
  | 0, w, h, hne, _, _ => absurd (List.length_eq_zero_iff.1 h) hne
  | n + 1, w, h, hne, hh, hd => by
    have e := List.dropLast_concat_getLast hne
    by_cases h0 : w.dropLast = []
    · rw [h0, List.nil_append] at e
      have hd0 := dg_range (hd (w.getLast hne) 0 (by conv => lhs; rw [← e]
                                                     rfl))
      have hn48 : w.getLast hne ≠ 48 := fun e48 => hh (by rw [← e, e48]; rfl)
      have : (w.getLast hne).toNat ≠ 48 := fun e48 => hn48 (UInt8.toNat_inj.1 (by rw [e48]; rfl))
      rw [← e]
      show 1 ≤ 10 * 0 + ((w.getLast hne).toNat - 48)
      omega
    · have ih := numV_pos n w.dropLast (by rw [List.length_dropLast]; omega) h0 (by
          rw [← e] at hh
          rwa [head_app h0] at hh) (fun b i hb => by
          refine hd b i ?_
          rw [← e, List.getElem?_append_left (List.getElem?_eq_some_iff.1 hb).1]
          exact hb)
      rw [← e, numV_snoc]; omega
theorem digits_c : ∀ (n : Nat) (w : List UInt8), w.length = n → w ≠ [] → w.length ≤ 6 → (1 < w.length → w.head? ≠ some 48) → (∀ (b : UInt8) (i : Nat), w[i]? = some b → dg b = true) → ∀ h : Heap,
    Fn Try.prog 32 #[.int .i64 (numV w : Nat)] h fun v h' => v = .string (bs w) ∧ h' = h
  | 0, w, h, hne, _, _, _ => absurd (List.length_eq_zero_iff.1 h) hne
  | n + 1, w, hl, hne, h6, hh, hd => by
    intro h
    have e := List.dropLast_concat_getLast hne
    have hdl := dg_range (hd (w.getLast hne) n (by rw [List.getLast_eq_getElem, List.getElem?_eq_getElem (by omega)]; simp [hl]))
    have hlt := numV_lt (n + 1) w hl hd
    have hp : 10 ^ (n + 1) ≤ 10 ^ 6 := Nat.pow_le_pow_right (by omega) (by omega)
    have hlast : UInt8.ofNat (48 + ((w.getLast hne).toNat - 48)) = w.getLast hne := by
      rw [show 48 + ((w.getLast hne).toNat - 48) = (w.getLast hne).toNat by omega]; exact UInt8.ofNat_toNat
    apply vc32; unfold W32
    refine sB_f (by rw [decide_eq_false]; omega) (sB_f (by rw [decide_eq_false]; omega) ?_)
    by_cases h0 : w.dropLast = []
    · rw [h0, List.nil_append] at e
      have hv : numV w = (w.getLast hne).toNat - 48 := by
        conv => lhs; rw [← e]
        show 10 * 0 + ((w.getLast hne).toNat - 48) = _
        omega
      refine sB_t (by rw [decide_eq_true]; omega) ?_
      rw [hv]
      have hw1 : IntKind.wrap .i32 (IntKind.wrap .i64 (48 + (((w.getLast hne).toNat - 48 : Nat) : Int))) = ((48 + ((w.getLast hne).toNat - 48) : Nat) : Int) := by
        rw [w64 (by omega) (by omega), wi32 (by omega) (by omega)]; omega
      rw [hw1]
      refine (rune_c _ (by omega) h).mono ?_
      rintro v h12 ⟨rfl, rfl⟩
      refine ⟨_, rfl, ?_, rfl⟩
      rw [hlast, e]
    · have hpos := numV_pos w.dropLast.length w.dropLast rfl h0 (by
          have hl2 : 1 < w.length := by
            have := List.length_pos_iff.2 h0
            rw [List.length_dropLast] at this; omega
          have := hh hl2
          rw [← e] at this
          rwa [head_app h0] at this) (fun b i hb => by
          refine hd b i ?_
          rw [← e, List.getElem?_append_left (List.getElem?_eq_some_iff.1 hb).1]
          exact hb)
      have hv : numV w = 10 * numV w.dropLast + ((w.getLast hne).toNat - 48) := by
        conv => lhs; rw [← e]
        rw [numV_snoc]
      have ih := digits_c n w.dropLast (by rw [List.length_dropLast]; omega) h0 (by rw [List.length_dropLast]; omega) (fun h1 => by
          have hl2 : 1 < w.length := by rw [List.length_dropLast] at h1; omega
          have := hh hl2
          rw [← e] at this
          rwa [head_app h0] at this) (fun b i hb => by
          refine hd b i ?_
          rw [← e, List.getElem?_append_left (List.getElem?_eq_some_iff.1 hb).1]
          exact hb)
      refine sB_f (by rw [decide_eq_false]; omega) ⟨by decide, ?_⟩
      have hdiv : IntKind.wrap .i64 (Int.tdiv ((numV w : Nat) : Int) 10) = ((numV w.dropLast : Nat) : Int) := by
        rw [show Int.tdiv ((numV w : Nat) : Int) 10 = ((numV w / 10 : Nat) : Int) from rfl, w64 (by omega) (by omega)]
        omega
      have hmod : Int.tmod ((numV w : Nat) : Int) 10 = (((w.getLast hne).toNat - 48 : Nat) : Int) := by
        rw [show Int.tmod ((numV w : Nat) : Int) 10 = ((numV w % 10 : Nat) : Int) from rfl]
        omega
      rw [hdiv, hmod]
      refine (ih h).mono ?_
      rintro v h15 ⟨rfl, rfl⟩
      refine ⟨_, rfl, by decide, ?_⟩
      have hw1 : IntKind.wrap .i32 (IntKind.wrap .i64 (48 + (((w.getLast hne).toNat - 48 : Nat) : Int))) = ((48 + ((w.getLast hne).toNat - 48) : Nat) : Int) := by
        rw [w64 (by omega) (by omega), wi32 (by omega) (by omega)]; omega
      rw [hw1]
      refine (rune_c _ (by omega) h15).mono ?_
      rintro v h18 ⟨rfl, rfl⟩
      refine ⟨_, rfl, ?_, ?_, rfl⟩
      · rw [bs_size, bs_size, List.length_dropLast, List.length_singleton]; omega
      · rw [bs_app, hlast, e]
theorem write_c (t : T) (f : Nat) (w : List UInt8) (hw : validW t w) (hl : w.length ≤ 100000) (h : Heap) : Fn Try.prog 15 #[.agg ⟨tokC t f⟩] h fun v h' => v = .string (bs w) ∧ Ext h h' := by
  refine vc15 _ _ _ _ h _ ?_
  unfold W15
  intro h5 e5
  have hE : Ext h h5 := by subst e5; exact Ext.push _ _
  have ho : Own h5 h.size (tokC t f) 37 := by subst e5; exact Own.push
  refine ⟨_, ho.hc 0, ?_⟩
  rcases tok_write hw with ⟨hk, htx⟩ | ⟨hk, hv, h1, h2, h3, h4⟩ | ⟨hk, htx, hl40⟩
  · have e2 : (((t.kind : Nat) : Int) == 2) = false := by rcases hk with hk | hk <;> rw [hk] <;> rfl
    have e3 : (((t.kind : Nat) : Int) == 3) = false := by rcases hk with hk | hk <;> rw [hk] <;> rfl
    refine sB_f e2 (sB_f e3 ⟨_, ho.hc 1, ?_, hE⟩)
    rw [htx]
  · refine sB_t (by rw [hk]; rfl) ⟨_, ho.hc 2, ?_⟩
    rw [hv]
    refine (digits_c _ w rfl h1 h2 h3 h4 h5).mono ?_
    rintro v h10 ⟨rfl, rfl⟩
    exact ⟨_, rfl, rfl, hE⟩
  · refine sB_f (by rw [hk]; rfl) (sB_t (by rw [hk]; rfl) ⟨_, ho.hc 1, ?_⟩)
    refine (refquote_c (bs t.text) (by rw [bs_size]; omega) h5).mono ?_
    rintro v h14 ⟨rfl, rfl⟩
    refine ⟨_, rfl, ?_, hE⟩
    rw [bs_list, htx]
theorem join_take (ws : List (T × List UInt8)) (i : Nat) (p : T × List UInt8) (hp : ws[i]? = some p) : join (ws.take (i + 1)) = join (ws.take i) ++ (p.2 ++ [32]) := by
  unfold join
  rw [List.take_add_one, hp, List.flatMap_append]; simp
theorem join_le (ws : List (T × List UInt8)) (i : Nat) : (join (ws.take i)).length ≤ (join ws).length := by
  have : join ws = join (ws.take i) ++ join (ws.drop i) := by unfold join; rw [← List.flatMap_append, List.take_append_drop]
  rw [this, List.length_append]; omega
theorem law_again (s : ByteArray) (h : Heap) : Fn Try.prog 5 #[.string s] h fun v h' => v = .bool true ∧ Ext h h' := by
  apply vc5; unfold W5
  refine (awake_c h).mono ?_
  rintro v h3 ⟨rfl, hE3⟩
  refine ⟨true, rfl, sB_f rfl ?_⟩
  refine sB_intro (fun hgt => ?_) (fun hgt => ?_)
  · refine (awake_c h3).mono ?_
    rintro v h9 ⟨rfl, hE9⟩
    exact ⟨true, rfl, rfl, hE3.trans hE9⟩
  have hs : s.size ≤ 1000 := by have := of_decide_eq_false hgt; omega
  have hsz := size_len s
  refine (tokens_c s h3).mono ?_
  rintro v h14 ⟨hE14, hv⟩
  cases hr : tokensS s.data.toList with
  | error q =>
    obtain ⟨p, e⟩ := q
    rw [hr] at hv
    simp only [] at hv
    subst hv
    have hte : toks 0 s.data.toList = .error (p, e) := by
      unfold tokensS at hr; rwa [if_neg (by omega)] at hr
    have he0 : (e != 0) = true := by rcases toks_err _ _ _ _ _ rfl hte with rfl | rfl | rfl <;> rfl
    exact ⟨⟨none, 0, 0⟩, _, _, rfl, sB_t he0 ⟨rfl, hE3.trans hE14⟩⟩
  | ok l =>
    obtain ⟨hl1, hl2, ht⟩ := tokens_ok_len hr
    rw [hr] at hv
    obtain ⟨sl, rfl, hos⟩ := hv
    have hn : sl.n = l.length := by have := hos.len; rw [toksC_len] at this; omega
    obtain ⟨ws, hw1, hw2, hw3⟩ := toks_words _ _ _ _ rfl ht
    have hwl : ws.length = l.length := by have := congrArg List.length hw1; simpa using this
    refine ⟨sl, _, _, rfl, sB_f rfl ?_⟩
    rw [hn]
    refine ⟨fun t x h' m => ∃ i : Nat, t = bs (join (ws.take i)) ∧ x = i ∧ m = l.length - i ∧ i ≤ l.length ∧ Ext h14 h', ⟨_, 0, rfl, rfl, rfl, by omega, Ext.refl _⟩, ?_⟩
    rintro - t x h20 m ⟨i, rfl, rfl, rfl, hi, hE20⟩
    have hji := join_le ws i
    refine sB_intro (fun hlt => ?_) (fun hge => ?_)
    · have hlt' : i < l.length := by have := of_decide_eq_true hlt; omega
      have hrd := hos.rd.ext hE20
      obtain ⟨g, o, ha, ho⟩ := hrd.at (by omega)
      obtain ⟨p, hp⟩ : ∃ p, l[i]? = some p := ⟨_, List.getElem?_eq_getElem hlt'⟩
      obtain ⟨q, hq⟩ : ∃ q, ws[i]? = some q := ⟨_, List.getElem?_eq_getElem (by omega)⟩
      have hqp : q.1 = p.1 := by
        have h1 : (ws.map (·.1))[i]? = some q.1 := by rw [List.getElem?_map, hq]; rfl
        have h2 : (l.map (·.1))[i]? = some p.1 := by rw [List.getElem?_map, hp]; rfl
        rw [hw1, h2] at h1
        exact (Option.some.inj h1).symm
      have hval := hw2 q (List.mem_of_getElem? hq)
      rw [hqp] at hval
      have hjt := join_take ws i q hq
      have hj1 := join_le ws (i + 1)
      rw [hjt, List.length_append, List.length_append, List.length_singleton] at hj1
      rw [ha, NB_some]
      refine ⟨⟨by omega, by omega⟩, _, _, _, _, hrd.tok ho hp, ?_⟩
      refine (write_c p.1 p.2 q.2 hval (by omega) h20).mono ?_
      rintro v h29 ⟨rfl, hE29⟩
      have e32 : (⟨#[32]⟩ : ByteArray) = bs [32] := rfl
      refine ⟨_, rfl, ?_⟩
      rw [e32, bs_app, bs_app, bs_size, bs_size, bs_size, bs_size, List.length_append, List.length_singleton]
      refine ⟨by omega, by omega, _, ?_, i + 1, ?_, ?_, rfl, by omega, hE20.trans hE29⟩
      · omega
      · rw [hjt]
      · rw [w64 (by omega) (by omega)]; omega
    · have hil : i = l.length := by have := of_decide_eq_false hge; omega
      subst hil
      rw [← hwl, List.take_length]
      obtain ⟨l', ht', hm'⟩ := toks_join ws 0 hw2
      have hts : tokensS (bs (join ws)).data.toList = .ok l' := by
        rw [bs_list]; unfold tokensS; rw [if_neg (by omega), ht']
      have hll : l'.length = l.length := by have := congrArg List.length hm'; simp only [List.length_map] at this; omega
      refine (tokens_c _ h20).mono ?_
      rintro v h35 ⟨hE35, hv⟩
      rw [hts] at hv
      obtain ⟨sl2, rfl, hos2⟩ := hv
      refine ⟨sl2, _, _, rfl, sB_t rfl ?_⟩
      refine (theirs_c l' (by omega) sl2 h35 hos2.rd).mono ?_
      rintro v h38 ⟨hE38, sl3, rfl, hos3⟩
      refine ⟨sl3, rfl, ?_⟩
      have hsl : (Value.slice sl.a ws.length sl.c) = .slice sl.a sl.n sl.c := by rw [hn, hwl]
      rw [hsl]
      refine (theirs_c l (by omega) sl h38 (((hos.rd.ext hE20).ext hE35).ext hE38)).mono ?_
      rintro v h41 ⟨hE41, sl4, rfl, hos4⟩
      refine ⟨sl4, rfl, ?_⟩
      refine (same_c l' l (by omega) sl3 sl4 false h41 (hos3.rd.ext hE41) hos4.rd).mono ?_
      rintro v h44 ⟨rfl, rfl⟩
      refine ⟨_, rfl, ?_, ((((hE3.trans hE14).trans hE20).trans hE35).trans hE38).trans hE41⟩
      unfold sameS
      rw [if_neg (by decide), decide_eq_true (by rw [hm', hw1])]
end Go.VC
