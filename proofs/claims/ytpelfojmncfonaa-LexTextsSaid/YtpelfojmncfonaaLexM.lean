import Derived.Test.YtpelfojmncfonaaLexL
set_option linter.unusedVariables false
set_option linter.unusedSimpArgs false

namespace Go.LexS
open Go.VC (takeWhile_le elems_len two_len mem_two token_len takeWhile_all elems_quote elems_esc0 elems_esc elems_escx elems_bad elems_ok dg_range)
set_option maxRecDepth 100000

theorem tw_take (p : UInt8 → Bool) (l : List UInt8) : l.take (l.takeWhile p).length = l.takeWhile p := by
  have := List.takeWhile_append_dropWhile (p := p) (l := l)
  conv => lhs; arg 2; rw [← this]
  exact List.take_left' rfl
theorem tw_drop (p : UInt8 → Bool) (l : List UInt8) : (l.drop (l.takeWhile p).length).head?.any p = false := by
  induction l with
  | nil => rfl
  | cons a l ih =>
    rw [List.takeWhile_cons]
    cases h : p a with
    | true => simpa using ih
    | false => simp [h]
theorem tw_app (p : UInt8 → Bool) (w r : List UInt8) (hw : ∀ (b : UInt8) (i : Nat), w[i]? = some b → p b = true) (hr : r.head?.any p = false) : (w ++ r).takeWhile p = w := by
  induction w with
  | nil =>
    cases r with
    | nil => rfl
    | cons a r => rw [List.nil_append, List.takeWhile_cons, show p a = false from hr]; rfl
  | cons a w ih =>
    rw [List.cons_append, List.takeWhile_cons, hw a 0 rfl]
    simp only [if_true]
    rw [ih (fun b i hb => hw b (i + 1) (by simpa using hb))]
theorem dg_inn {b : UInt8} (h : dg b = true) : inn b = true := by unfold inn isInner; unfold dg at h; rw [h]; simp
theorem lt_inn {b : UInt8} (h : lt b = true) : inn b = true := by unfold inn isInner; unfold lt at h; rw [h]; simp
theorem ninn_ndg {r : List UInt8} (h : r.head?.any inn = false) : r.head?.any dg = false := by
  cases r with
  | nil => rfl
  | cons a r =>
    show dg a = false
    cases hd : dg a with
    | false => rfl
    | true => have h' : inn a = false := h
              rw [dg_inn hd] at h'; cases h'
/-- what may stand behind a token -/
def stopS (t : T) (w r : List UInt8) : Prop := ((t.kind = 1 ∨ t.kind = 2) → r.head?.any inn = false) ∧ (t.kind = 4 → w.length = 1 → ¬ (w ++ r).take 2 ∈ twos)

theorem elems_app : ∀ (l acc : List UInt8) (k : Nat) (t : List UInt8) (m : Nat) (r : List UInt8), elemsS l acc k = some (t, m) → elemsS (l.take (m - k) ++ r) acc k = some (t, m)
  | [], acc, k, t, m, r, h => by rw [elemsS.eq_def] at h; cases h
  | c :: cs, acc, k, t, m, r, h => by
    have hm := elems_len _ _ _ _ _ h
    by_cases h34 : c = 34
    · subst h34
      rw [elems_quote] at h
      cases h
      rw [show k + 1 - k = 1 by omega]
      exact elems_quote
    · by_cases h92 : c = 92
      · subst h92
        cases cs with
        | nil => rw [elems_esc0] at h; cases h
        | cons d ds =>
          by_cases hd : d = 34 ∨ d = 92
          · rw [elems_esc hd] at h
            have hm2 := elems_len _ _ _ _ _ h
            have ih := elems_app ds _ _ _ _ r h
            rw [show m - k = m - (k + 2) + 1 + 1 by omega, List.take_succ_cons, List.take_succ_cons, List.cons_append, List.cons_append, elems_esc hd]
            exact ih
          · rw [elems_escx hd] at h; cases h
      · by_cases hb : c.toNat < 32 ∨ 126 < c.toNat
        · rw [elems_bad h34 h92 hb] at h; cases h
        · rw [elems_ok h34 h92 hb] at h
          have hm2 := elems_len _ _ _ _ _ h
          have ih := elems_app cs _ _ _ _ r h
          rw [show m - k = m - (k + 1) + 1 by omega, List.take_succ_cons, List.cons_append, elems_ok h34 h92 hb]
          exact ih

theorem name_ok {S : List UInt8} {t : T} {n : Nat} (h : nameS S = .ok (t, n)) : (S.takeWhile inn).length ≤ 16 ∧ t = ⟨1, S.takeWhile inn, 0⟩ ∧ n = (S.takeWhile inn).length := by
  unfold nameS at h
  split at h
  · cases h
  · cases h; exact ⟨by omega, rfl, rfl⟩
theorem num_ok {S : List UInt8} {t : T} {n : Nat} (h : numS S = .ok (t, n)) : (S.drop (S.takeWhile dg).length).head?.any inn = false ∧ ¬ (6 < (S.takeWhile dg).length ∨ 1 < (S.takeWhile dg).length ∧ S.head? = some 48) ∧
    t = ⟨2, [], numV (S.takeWhile dg)⟩ ∧ n = (S.takeWhile dg).length := by
  unfold numS at h
  split at h
  · cases h
  · rename_i h1
    split at h
    · cases h
    · rename_i h2
      cases h
      exact ⟨by simpa using h1, h2, rfl, rfl⟩
theorem text_ok {S : List UInt8} {t : T} {n : Nat} (h : textS S = .ok (t, n)) : ∃ x, elemsS (S.drop 1) [] 1 = some (x, n) ∧ x.length ≤ 40 ∧ t = ⟨3, x, 0⟩ := by
  unfold textS textR at h
  split at h
  · cases h
  · rename_i x m he
    split at h
    · cases h
    · cases h; exact ⟨x, he, by omega, rfl⟩
theorem mark_ok {c : UInt8} {cs : List UInt8} {t : T} {n : Nat} (h : markS (c :: cs) = .ok (t, n)) :
    ((c :: cs).take 2 ∈ twos ∧ t = ⟨4, (c :: cs).take 2, 0⟩ ∧ n = 2 ∧ ((c :: cs).take 2).length = 2) ∨ (¬ (c :: cs).take 2 ∈ twos ∧ c ∈ ones ∧ t = ⟨4, [c], 0⟩ ∧ n = 1) := by
  unfold markS at h
  split at h
  · rename_i hm
    cases h
    obtain ⟨i, hi, e⟩ := mem_two hm
    exact .inl ⟨hm, rfl, rfl, by rw [← e]; exact two_len i hi⟩
  · rename_i hm
    simp only [] at h
    split at h
    · rename_i h1
      cases h; exact .inr ⟨hm, h1, rfl, rfl⟩
    · cases h
theorem tokenS_cons (c : UInt8) (cs : List UInt8) : tokenS (c :: cs) = if lt c then nameS (c :: cs) else if dg c then numS (c :: cs) else if c = 34 then textS (c :: cs) else markS (c :: cs) := rfl
theorem one_nl : ∀ c ∈ ones, lt c = false ∧ dg c = false ∧ c ≠ 34 ∧ inn c = false ∧ sp c = false := by decide
theorem two_nl : ∀ w ∈ twos, ∀ c, w.head? = some c → lt c = false ∧ dg c = false ∧ c ≠ 34 ∧ sp c = false ∧ ¬ (w = [47, 47]) := by decide

theorem tok_stop {S : List UInt8} {t : T} {n : Nat} (h : tokenS S = .ok (t, n)) : stopS t (S.take n) (S.drop n) := by
  cases S with
  | nil => cases h
  | cons c cs =>
    rw [tokenS_cons] at h
    unfold stopS
    rw [List.take_append_drop]
    split at h
    · obtain ⟨h1, rfl, rfl⟩ := name_ok h
      exact ⟨fun _ => tw_drop inn _, fun hk => by cases hk⟩
    · split at h
      · obtain ⟨h1, h2, rfl, rfl⟩ := num_ok h
        exact ⟨fun _ => h1, fun hk => by cases hk⟩
      · split at h
        · obtain ⟨x, h1, h2, rfl⟩ := text_ok h
          exact ⟨fun hk => (by rcases hk with hk | hk <;> cases hk), fun hk => by cases hk⟩
        · rcases mark_ok h with ⟨h1, rfl, rfl, h2⟩ | ⟨h1, h2, rfl, rfl⟩
          · exact ⟨fun hk => (by rcases hk with hk | hk <;> cases hk), fun _ hl => by rw [h2] at hl; cases hl⟩
          · exact ⟨fun hk => (by rcases hk with hk | hk <;> cases hk), fun _ _ => h1⟩
theorem take_cons1 {c : UInt8} {cs : List UInt8} {n : Nat} (hn : 1 ≤ n) : (c :: cs).take n = c :: cs.take (n - 1) := by
  cases n with
  | zero => omega
  | succ n => rfl
theorem tok_app {S : List UInt8} {t : T} {n : Nat} (h : tokenS S = .ok (t, n)) {r : List UInt8} (hs : stopS t (S.take n) r) : tokenS (S.take n ++ r) = .ok (t, n) := by
  cases S with
  | nil => cases h
  | cons c cs =>
    have hn := token_len h
    rw [tokenS_cons] at h
    have hc : (c :: cs).take n ++ r = c :: (cs.take (n - 1) ++ r) := by rw [take_cons1 hn.1]; rfl
    rw [hc, tokenS_cons, ← hc]
    split at h
    · rename_i hl
      rw [if_pos hl]
      obtain ⟨h1, rfl, rfl⟩ := name_ok h
      have hr := hs.1 (.inl rfl)
      have e := tw_app inn ((c :: cs).takeWhile inn) r (takeWhile_all inn _) hr
      rw [tw_take]
      unfold nameS
      rw [e, if_neg (by omega)]
    · rename_i hl
      rw [if_neg hl]
      split at h
      · rename_i hd
        rw [if_pos hd]
        obtain ⟨h1, h2, rfl, rfl⟩ := num_ok h
        have hr := hs.1 (.inr rfl)
        have e := tw_app dg ((c :: cs).takeWhile dg) r (takeWhile_all dg _) (ninn_ndg hr)
        have hh : ((c :: cs).takeWhile dg ++ r).head? = (c :: cs).head? := by rw [List.takeWhile_cons, if_pos hd]; rfl
        rw [tw_take]
        unfold numS
        rw [e, hh, List.drop_left, hr, if_neg (by simp), if_neg h2]
      · rename_i hd
        rw [if_neg hd]
        split at h
        · rename_i hq
          rw [if_pos hq]
          obtain ⟨x, h1, h2, rfl⟩ := text_ok h
          have hx := elems_app _ _ _ _ _ r h1
          unfold textS
          rw [hc, List.drop_one, List.tail_cons]
          rw [List.drop_one, List.tail_cons] at hx
          rw [hx]
          unfold textR
          simp only []
          rw [if_neg (by omega)]
        · rename_i hq
          rw [if_neg hq]
          rcases mark_ok h with ⟨h1, rfl, rfl, h2⟩ | ⟨h1, h2, rfl, rfl⟩
          · have e : ((c :: cs).take 2 ++ r).take 2 = (c :: cs).take 2 := List.take_left' h2
            unfold markS
            rw [e, if_pos h1]
          · have hno := hs.2 rfl rfl
            unfold markS
            rw [if_neg hno]
            show (if c ∈ ones then Except.ok ((⟨4, [c], 0⟩ : T), 1) else Except.error 3) = _
            rw [if_pos h2]

/- skipping -/
theorem skip_true_pos {c : UInt8} {cs : List UInt8} : 1 ≤ skipC true (c :: cs) := by
  simp only [skipC]; split <;> omega
theorem skip_take_all : ∀ (b : Bool) (L : List UInt8), skipC b (L.take (skipC b L)) = skipC b L
  | false, [] => rfl
  | true, [] => rfl
  | false, c :: cs => by
    have h1 := skip_take_all false cs
    have h2 := skip_take_all true cs
    by_cases hs : sp c = true
    · simp only [skipC, if_pos hs]
      rw [Nat.add_comm, List.take_succ_cons]
      simp only [skipC, if_pos hs, h1]; omega
    · by_cases hc : c = 47 ∧ cs.head? = some 47
      · simp only [skipC, if_neg hs, if_pos hc]
        rw [Nat.add_comm, List.take_succ_cons]
        have hh : (cs.take (skipC true cs)).head? = some 47 := by
          cases cs with
          | nil => cases hc.2
          | cons d ds =>
            rw [take_cons1 skip_true_pos]
            exact hc.2
        have hc' : c = 47 ∧ (cs.take (skipC true cs)).head? = some 47 := ⟨hc.1, hh⟩
        simp only [skipC, if_neg hs, if_pos hc', h2]; omega
      · simp only [skipC, if_neg hs, if_neg hc]; rfl
  | true, c :: cs => by
    have h1 := skip_take_all false cs
    have h2 := skip_take_all true cs
    by_cases hc : c = 10
    · simp only [skipC, if_pos hc]
      rw [Nat.add_comm, List.take_succ_cons]
      simp only [skipC, if_pos hc, h1]; omega
    · simp only [skipC, if_neg hc]
      rw [Nat.add_comm, List.take_succ_cons]
      simp only [skipC, if_neg hc, h2]; omega
theorem skip_take : ∀ (b : Bool) (L : List UInt8) (m : Nat), skipC b L < m → skipC b (L.take m) = skipC b L
  | b, L, 0, h => by omega
  | false, [], m + 1, _ => rfl
  | true, [], m + 1, _ => rfl
  | false, c :: cs, m + 1, h => by
    have h1 := skip_take false cs m
    have h2 := skip_take true cs m
    rw [List.take_succ_cons]
    by_cases hs : sp c = true
    · simp only [skipC, if_pos hs] at h ⊢
      rw [h1 (by omega)]
    · by_cases hc : c = 47 ∧ cs.head? = some 47
      · simp only [skipC, if_neg hs, if_pos hc] at h ⊢
        have hh : (cs.take m).head? = some 47 := by
          cases cs with
          | nil => cases hc.2
          | cons d ds =>
            have := skip_true_pos (c := d) (cs := ds)
            rw [take_cons1 (by omega)]
            exact hc.2
        have hc' : c = 47 ∧ (cs.take m).head? = some 47 := ⟨hc.1, hh⟩
        rw [if_pos hc', h2 (by omega)]
      · simp only [skipC, if_neg hs, if_neg hc] at h ⊢
        have hc' : ¬ (c = 47 ∧ (cs.take m).head? = some 47) := by
          rintro ⟨e1, e2⟩
          refine hc ⟨e1, ?_⟩
          cases cs with
          | nil => simp at e2
          | cons d ds =>
            cases m with
            | zero => simp at e2
            | succ m => exact e2
        rw [if_neg hc']
  | true, c :: cs, m + 1, h => by
    have h1 := skip_take false cs m
    have h2 := skip_take true cs m
    rw [List.take_succ_cons]
    by_cases hc : c = 10
    · simp only [skipC, if_pos hc] at h ⊢
      rw [h1 (by omega)]
    · simp only [skipC, if_neg hc] at h ⊢
      rw [h2 (by omega)]

/-- the places go up, from k on, and lie before the end -/
theorem toks_places : ∀ (N k : Nat) (L : List UInt8) (l : List (T × Nat)), L.length = N → toks k L = .ok l → (∀ p ∈ l, k ≤ p.2 ∧ p.2 < k + L.length) ∧ l.Pairwise (fun p q => p.2 < q.2) := by
  intro N
  induction N using Nat.strongRecOn with
  | ind N ih =>
    intro k L l hN h
    have hle := skipC_le false L
    cases hd : L.drop (skipC false L) with
    | nil => rw [toks_nil hd] at h; cases h; exact ⟨fun p hp => (List.not_mem_nil hp).elim, List.Pairwise.nil⟩
    | cons c cs =>
      have hl := congrArg List.length hd
      rw [List.length_drop, List.length_cons] at hl
      rw [toks_cons hd] at h
      cases ht : tokenS (c :: cs) with
      | error e => rw [ht] at h; cases h
      | ok p =>
        obtain ⟨t, n⟩ := p
        have hn := token_len ht
        rw [ht] at h
        simp only [] at h
        cases hr : toks (k + skipC false L + n) (cs.drop (n - 1)) with
        | error e => rw [hr] at h; cases h
        | ok r =>
          rw [hr] at h
          cases h
          obtain ⟨i1, i2⟩ := ih (cs.drop (n - 1)).length (by rw [List.length_drop]; omega) _ _ r rfl hr
          rw [List.length_drop] at i1
          refine ⟨fun p hp => ?_, List.pairwise_cons.2 ⟨fun q hq => ?_, i2⟩⟩
          · rcases List.mem_cons.1 hp with rfl | hp
            · exact ⟨by simp, by simp; omega⟩
            · have := i1 p hp; omega
          · have := i1 q hq; simp only []; omega
theorem take2 : ∀ (A B : List UInt8) (m : Nat), A.length = 1 → m ≠ 0 → (A ++ B.take m).take 2 = (A ++ B).take 2
  | [a], [], m, _, _ => by rw [List.take_nil]
  | [a], b :: bs, m + 1, _, _ => rfl
/-- cut ahead of token i -/
theorem toks_cut : ∀ (N k : Nat) (L : List UInt8) (l : List (T × Nat)) (i : Nat) (p : T × Nat), L.length = N → toks k L = .ok l → l[i]? = some p → toks k (L.take (p.2 - k)) = .ok (l.take i) := by
  intro N
  induction N using Nat.strongRecOn with
  | ind N ih =>
    intro k L l i p hN h hi
    have hle := skipC_le false L
    cases hd : L.drop (skipC false L) with
    | nil => rw [toks_nil hd] at h; cases h; simp at hi
    | cons c cs =>
      have hl := congrArg List.length hd
      rw [List.length_drop, List.length_cons] at hl
      rw [toks_cons hd] at h
      cases ht : tokenS (c :: cs) with
      | error e => rw [ht] at h; cases h
      | ok q =>
        obtain ⟨t, n⟩ := q
        have hn := token_len ht
        rw [ht] at h
        simp only [] at h
        cases hr : toks (k + skipC false L + n) (cs.drop (n - 1)) with
        | error e => rw [hr] at h; cases h
        | ok r =>
          rw [hr] at h
          cases h
          cases i with
          | zero =>
            rw [List.getElem?_cons_zero] at hi
            cases hi
            simp only []
            rw [show k + skipC false L - k = skipC false L by omega]
            rw [toks_nil]
            · rfl
            · rw [skip_take_all]
              exact List.drop_eq_nil_of_le (by rw [List.length_take]; omega)
          | succ i =>
            rw [List.getElem?_cons_succ] at hi
            have hpl := (toks_places _ _ _ _ rfl hr).1 p (List.mem_of_getElem? hi)
            rw [List.length_drop] at hpl
            have hih := ih (cs.drop (n - 1)).length (by rw [List.length_drop]; omega) _ _ r i p rfl hr hi
            have hsk : skipC false (L.take (p.2 - k)) = skipC false L := skip_take false L _ (by omega)
            have hdr : (L.take (p.2 - k)).drop (skipC false L) = (c :: cs).take (p.2 - k - skipC false L) := by
              rw [List.drop_take, hd]
            have hq : (c :: cs).take (p.2 - k - skipC false L) = (c :: cs).take n ++ ((c :: cs).drop n).take (p.2 - k - skipC false L - n) := by
              rw [← List.take_add]; congr 1; omega
            have hdn : (c :: cs).drop n = cs.drop (n - 1) := by
              cases n with
              | zero => omega
              | succ n => rfl
            have hst := tok_stop ht
            have htk : tokenS ((c :: cs).take (p.2 - k - skipC false L)) = .ok (t, n) := by
              rw [hq]
              refine tok_app ht ⟨fun hk => ?_, fun hk hw => ?_⟩
              · have := hst.1 hk
                cases hx : (c :: cs).drop n with
                | nil => simp
                | cons a b =>
                  rw [hx] at this
                  cases p.2 - k - skipC false L - n with
                  | zero => rfl
                  | succ m => exact this
              · have h1 := hst.2 hk hw
                intro hm
                by_cases hz : p.2 - k - skipC false L - n = 0
                · rw [hz, List.take_zero, List.append_nil] at hm
                  obtain ⟨j, hj, e⟩ := mem_two hm
                  have := congrArg List.length e
                  rw [two_len j hj, List.length_take, hw] at this
                  omega
                · refine h1 ?_
                  have e := take2 ((c :: cs).take n) ((c :: cs).drop n) (p.2 - k - skipC false L - n) hw hz
                  rw [← e]; exact hm
            have hcons : (c :: cs).take (p.2 - k - skipC false L) = c :: cs.take (p.2 - k - skipC false L - 1) := take_cons1 (by omega)
            rw [toks_cons (c := c) (cs := cs.take (p.2 - k - skipC false L - 1)) (by rw [hsk, hdr, hcons]), ← hcons, htk, hsk]
            simp only []
            have hrest : (cs.take (p.2 - k - skipC false L - 1)).drop (n - 1) = (cs.drop (n - 1)).take (p.2 - (k + skipC false L + n)) := by
              rw [List.drop_take]; congr 1; omega
            rw [hrest, hih]
            rfl
end Go.LexS
