import Derived.Test.YtpelfojmncfonaaLexN
import Derived.Laws.OwnMore
set_option linter.unusedVariables false
set_option linter.unusedSimpArgs false

namespace Go.LexS
open Go.VC
set_option maxRecDepth 100000

theorem tw10 (p : UInt8 → Bool) (hp : p 10 = false) (S r : List UInt8) : (S ++ 10 :: r).takeWhile p = S.takeWhile p := by
  induction S with
  | nil => rw [List.nil_append, List.takeWhile_cons, hp]; rfl
  | cons a S ih => rw [List.cons_append, List.takeWhile_cons, List.takeWhile_cons, ih]
theorem head10 (p : UInt8 → Bool) (hp : p 10 = false) (S r : List UInt8) : (S ++ 10 :: r).head?.any p = S.head?.any p := by
  cases S with
  | nil => exact hp
  | cons a S => rfl
theorem elems10 : ∀ (l acc : List UInt8) (k : Nat) (r : List UInt8), elemsS (l ++ 10 :: r) acc k = elemsS l acc k
  | [], acc, k, r => by rw [List.nil_append, elems_bad (by decide) (by decide) (by decide)]; rfl
  | [c], acc, k, r => by
    by_cases h34 : c = 34
    · subst h34; rw [List.cons_append, elems_quote, elems_quote]
    · by_cases h92 : c = 92
      · subst h92; rw [List.cons_append, List.nil_append, elems_esc0, elems_escx (by decide)]
      · by_cases hb : c.toNat < 32 ∨ 126 < c.toNat
        · rw [List.cons_append, elems_bad h34 h92 hb, elems_bad h34 h92 hb]
        · rw [List.cons_append, elems_ok h34 h92 hb, elems_ok h34 h92 hb, elems10 []]
  | c :: d :: ds, acc, k, r => by
    by_cases h34 : c = 34
    · subst h34; rw [List.cons_append, elems_quote, elems_quote]
    · by_cases h92 : c = 92
      · subst h92
        rw [List.cons_append, List.cons_append]
        by_cases hd : d = 34 ∨ d = 92
        · rw [elems_esc hd, elems_esc hd, elems10 ds]
        · rw [elems_escx hd, elems_escx hd]
      · by_cases hb : c.toNat < 32 ∨ 126 < c.toNat
        · rw [List.cons_append, elems_bad h34 h92 hb, elems_bad h34 h92 hb]
        · rw [List.cons_append, elems_ok h34 h92 hb, elems_ok h34 h92 hb, elems10 (d :: ds)]
theorem two_10 : ∀ w ∈ twos, w.length = 2 ∧ w[1]? ≠ some 10 := by decide
theorem tok10 (c : UInt8) (cs r : List UInt8) : tokenS (c :: cs ++ 10 :: r) = tokenS (c :: cs) := by
  have hn : nameS (c :: cs ++ 10 :: r) = nameS (c :: cs) := by unfold nameS; rw [tw10 inn (by decide)]
  have hm : numS (c :: cs ++ 10 :: r) = numS (c :: cs) := by
    unfold numS
    rw [tw10 dg (by decide), List.drop_append_of_le_length (takeWhile_le _ _), head10 inn (by decide)]; rfl
  have ht : textS (c :: cs ++ 10 :: r) = textS (c :: cs) := by
    unfold textS
    rw [List.drop_one, List.drop_one, List.cons_append, List.tail_cons, List.tail_cons, elems10]
  have hk : markS (c :: cs ++ 10 :: r) = markS (c :: cs) := by
    unfold markS
    have h1 : ¬ [c] ∈ twos := fun hh => by have := (two_10 _ hh).1; cases this
    have h2 : ¬ [c, 10] ∈ twos := fun hh => (two_10 _ hh).2 rfl
    cases cs with
    | nil =>
      rw [show (([c] : List UInt8) ++ 10 :: r).take 2 = [c, 10] from rfl, show ([c] : List UInt8).take 2 = [c] from rfl, if_neg h1, if_neg h2]
      rfl
    | cons d ds => rfl
  rw [tokenS_cons, ← hn, ← hm, ← ht, ← hk]
  rfl
theorem skip10 : ∀ (b : Bool) (S r : List UInt8), (skipC b S < S.length → skipC b (S ++ 10 :: r) = skipC b S) ∧ (skipC b S = S.length → skipC b (S ++ 10 :: r) = S.length + 1 + skipC false r)
  | false, [], r => ⟨fun h => (by cases h), fun _ => by rw [List.nil_append]; simp only [skipC, show sp 10 = true from rfl, if_true, List.length_nil, Nat.zero_add]⟩
  | true, [], r => ⟨fun h => (by cases h), fun _ => by rw [List.nil_append]; simp only [skipC, if_true, List.length_nil, Nat.zero_add]⟩
  | false, c :: cs, r => by
    have h1 := skip10 false cs r
    have h2 := skip10 true cs r
    rw [List.cons_append, List.length_cons]
    by_cases hs : sp c = true
    · simp only [skipC, if_pos hs]
      exact ⟨fun h => by rw [h1.1 (by omega)], fun h => by rw [h1.2 (by omega)]; omega⟩
    · by_cases hc : c = 47 ∧ cs.head? = some 47
      · have hc' : c = 47 ∧ (cs ++ 10 :: r).head? = some 47 := by
          refine ⟨hc.1, ?_⟩
          cases cs with
          | nil => cases hc.2
          | cons d ds => exact hc.2
        simp only [skipC, if_neg hs, if_pos hc, if_pos hc']
        exact ⟨fun h => by rw [h2.1 (by omega)], fun h => by rw [h2.2 (by omega)]; omega⟩
      · have hc' : ¬ (c = 47 ∧ (cs ++ 10 :: r).head? = some 47) := by
          rintro ⟨e1, e2⟩
          cases cs with
          | nil => rw [List.nil_append] at e2; exact absurd (Option.some.inj e2) (by decide)
          | cons d ds => exact hc ⟨e1, e2⟩
        simp only [skipC, if_neg hs, if_neg hc, if_neg hc']
        exact ⟨fun _ => trivial, fun h => by omega⟩
  | true, c :: cs, r => by
    have h1 := skip10 false cs r
    have h2 := skip10 true cs r
    rw [List.cons_append, List.length_cons]
    by_cases hc : c = 10
    · simp only [skipC, if_pos hc]
      exact ⟨fun h => by rw [h1.1 (by omega)], fun h => by rw [h1.2 (by omega)]; omega⟩
    · simp only [skipC, if_neg hc]
      exact ⟨fun h => by rw [h2.1 (by omega)], fun h => by rw [h2.2 (by omega)]; omega⟩
theorem toks10 : ∀ (N k : Nat) (S r : List UInt8), S.length = N → toks k (S ++ 10 :: r) = match toks k S with
    | .error e => .error e
    | .ok x => match toks (k + S.length + 1) r with
      | .error e => .error e
      | .ok y => .ok (x ++ y) := by
  intro N
  induction N using Nat.strongRecOn with
  | ind N ih =>
    intro k S r hN
    have hle := skipC_le false S
    cases hd : S.drop (skipC false S) with
    | nil =>
      have hl := congrArg List.length hd
      rw [List.length_drop, List.length_nil] at hl
      have hsk := (skip10 false S r).2 (by omega)
      rw [toks_nil hd]
      simp only []
      have hdr : (S ++ 10 :: r).drop (S.length + 1 + skipC false r) = r.drop (skipC false r) := by
        rw [show S ++ 10 :: r = (S ++ [10]) ++ r by simp, List.drop_append, List.drop_eq_nil_of_le (by rw [List.length_append, List.length_singleton]; omega), List.nil_append, List.length_append, List.length_singleton]
        congr 1; omega
      cases hr : r.drop (skipC false r) with
      | nil => rw [toks_nil (by rw [hsk, hdr, hr]), toks_nil hr]; rfl
      | cons c cs =>
        rw [toks_cons (c := c) (cs := cs) (by rw [hsk, hdr, hr]), toks_cons hr, hsk, show k + (S.length + 1 + skipC false r) = k + S.length + 1 + skipC false r by omega]
        cases tokenS (c :: cs) with
        | error e => rfl
        | ok p =>
          simp only []
          cases toks (k + S.length + 1 + skipC false r + p.2) (cs.drop (p.2 - 1)) <;> rfl
    | cons c cs =>
      have hl := congrArg List.length hd
      rw [List.length_drop, List.length_cons] at hl
      have hsk := (skip10 false S r).1 (by omega)
      have hdr : (S ++ 10 :: r).drop (skipC false S) = c :: (cs ++ 10 :: r) := by
        rw [List.drop_append_of_le_length (by omega), hd]; rfl
      have htk := tok10 c cs r
      rw [List.cons_append] at htk
      rw [toks_cons hd, toks_cons (c := c) (cs := cs ++ 10 :: r) (by rw [hsk, hdr]), hsk, htk]
      cases ht : tokenS (c :: cs) with
      | error e => rfl
      | ok p =>
        obtain ⟨t, n⟩ := p
        have hn := token_len ht
        simp only []
        rw [List.drop_append_of_le_length (by omega), ih (cs.drop (n - 1)).length (by rw [List.length_drop]; omega) _ _ r rfl, List.length_drop,
          show k + skipC false S + n + (cs.length - (n - 1)) + 1 = k + S.length + 1 by omega]
        cases toks (k + skipC false S + n) (cs.drop (n - 1)) with
        | error e => rfl
        | ok x =>
          simp only []
          cases toks (k + S.length + 1) r <;> rfl
def shiftE (d : Nat) : Except (Nat × Int) (List (T × Nat)) → Except (Nat × Int) (List (T × Nat))
  | .error (p, e) => .error (p + d, e)
  | .ok l => .ok (l.map fun x => (x.1, x.2 + d))
theorem toks_shift : ∀ (N k d : Nat) (L : List UInt8), L.length = N → toks (k + d) L = shiftE d (toks k L) := by
  intro N
  induction N using Nat.strongRecOn with
  | ind N ih =>
    intro k d L hN
    cases hd : L.drop (skipC false L) with
    | nil => rw [toks_nil hd, toks_nil hd]; rfl
    | cons c cs =>
      have hl := congrArg List.length hd
      rw [List.length_drop, List.length_cons] at hl
      rw [toks_cons hd, toks_cons hd]
      cases ht : tokenS (c :: cs) with
      | error e => simp only [shiftE]; rw [show k + d + skipC false L = k + skipC false L + d by omega]
      | ok p =>
        obtain ⟨t, n⟩ := p
        have hn := token_len ht
        simp only []
        rw [show k + d + skipC false L + n = k + skipC false L + n + d by omega, ih (cs.drop (n - 1)).length (by rw [List.length_drop]; omega) _ d _ rfl]
        cases toks (k + skipC false L + n) (cs.drop (n - 1)) with
        | error e => rfl
        | ok x => simp only [shiftE, List.map_cons]; rw [show k + d + skipC false L = k + skipC false L + d by omega]
end Go.LexS
namespace Go.VC
open Go.Proofs Go.LexS
set_option maxRecDepth 100000

theorem App_none {P : Program} {t e size bytes : Nat} (hT : appB P t e size bytes = true) {h : Heap} {base : Nat} {s : Sl} {xs : List Value} (ho : OwnS h base e size s xs) {K : Sl → Heap → Prop} (hK : K s h) :
    App P t t (.slice s.a s.n s.c) (.slice none 0 0) h K := by
  intro ty w hw
  subst hw
  unfold appB at hT
  simp only [Bool.and_eq_true] at hT
  obtain ⟨⟨⟨⟨⟨⟨⟨hs, he⟩, ht⟩, hz⟩, hzl⟩, hsz⟩, hby⟩, hpos⟩ := hT
  have hu := sliceB_e hs
  rw [beqT he] at hu
  obtain ⟨i, hi⟩ := isT_info ht
  exact ⟨_, w, run_append_owned_none w base t ty e i size hu hi _ s.n xs ho.row, ⟨s, rfl, hK⟩, rfl, rfl, rfl⟩
/-- append(s, y...) of two slices of the call's own -/
theorem App_two {P : Program} {t e size bytes : Nat} (hT : appB P t e size bytes = true) {h : Heap} {base b2 : Nat} {s y : Sl} {xs ys : List Value} (ho : OwnS h base e size s xs) (hb : base ≤ h.size) (hy : OwnS h b2 e size y ys)
    (h1 : ys.all oneB = true) (hbytes : (s.n + y.n) * bytes ≤ 140737488355328) (h63 : s.n + y.n ≤ maxLen) {K : Sl → Heap → Prop}
    (hK : ∀ (r : Sl) (h' : Heap), r.n = s.n + y.n → OwnS h' base e size r (xs ++ ys) → Kp base h h' → K r h') :
    App P t t (.slice s.a s.n s.c) (.slice y.a y.n y.c) h K := by
  rcases hy.2 with ⟨ha, h0, hc⟩ | ⟨g, cur, ha, _⟩
  · have hys : ys = [] := by
      have := hy.1
      rw [h0, Nat.zero_mul] at this
      exact List.length_eq_zero_iff.1 this
    subst hys
    rw [ha, h0, hc]
    exact App_none hT ho (hK s h (by omega) (by rw [List.append_nil]; exact ho) (Kp.refl _ _))
  · rw [ha]
    refine App_own hT ho hb (fun i v hi => by rw [addk_at, Nat.zero_add]; exact hy.hc ha hi) hy.1 h1 hbytes h63 fun r h' hn hor hsz hkeep => hK r h' hn hor ⟨hsz, fun k hk => hkeep k (by omega) fun g' hg' => ?_⟩
    rcases ho.2 with ⟨ha', _⟩ | ⟨g2, cur2, ha', hb', _⟩
    · rw [ha'] at hg'; cases hg'
    · rw [ha'] at hg'; cases hg'; omega
theorem toksC_one (l : List (T × Nat)) : (toksC l).all oneB = true := by
  rw [List.all_eq_true]
  intro v hv
  unfold toksC at hv
  obtain ⟨p, _, hp⟩ := List.mem_flatMap.1 hv
  simp only [tokC, List.mem_cons, List.not_mem_nil, or_false] at hp
  rcases hp with rfl | rfl | rfl | rfl <;> rfl
theorem toks_err : ∀ (N k : Nat) (L : List UInt8) (p : Nat) (e : Int), L.length = N → toks k L = .error (p, e) → e = 2 ∨ e = 3 ∨ e = 6 := by
  intro N
  induction N using Nat.strongRecOn with
  | ind N ih =>
    intro k L p e hN h
    cases hd : L.drop (skipC false L) with
    | nil => rw [toks_nil hd] at h; cases h
    | cons c cs =>
      have hl := congrArg List.length hd
      rw [List.length_drop, List.length_cons] at hl
      rw [toks_cons hd] at h
      cases ht : tokenS (c :: cs) with
      | error e' => rw [ht] at h; cases h; exact tok_err ht
      | ok q =>
        obtain ⟨t, n⟩ := q
        have hn := token_len ht
        rw [ht] at h
        simp only [] at h
        cases hr : toks (k + skipC false L + n) (cs.drop (n - 1)) with
        | error e' => rw [hr] at h; cases h; exact ih (cs.drop (n - 1)).length (by rw [List.length_drop]; omega) _ _ _ _ rfl hr
        | ok r => rw [hr] at h; cases h
theorem toks_errp : ∀ (N k : Nat) (L : List UInt8) (p : Nat) (e : Int), L.length = N → toks k L = .error (p, e) → p ≤ k + L.length := by
  intro N
  induction N using Nat.strongRecOn with
  | ind N ih =>
    intro k L p e hN h
    have hle := skipC_le false L
    cases hd : L.drop (skipC false L) with
    | nil => rw [toks_nil hd] at h; cases h
    | cons c cs =>
      have hl := congrArg List.length hd
      rw [List.length_drop, List.length_cons] at hl
      rw [toks_cons hd] at h
      cases ht : tokenS (c :: cs) with
      | error e' => rw [ht] at h; cases h; omega
      | ok q =>
        obtain ⟨t, n⟩ := q
        have hn := token_len ht
        rw [ht] at h
        simp only [] at h
        cases hr : toks (k + skipC false L + n) (cs.drop (n - 1)) with
        | error e' =>
          rw [hr] at h; cases h
          have := ih (cs.drop (n - 1)).length (by rw [List.length_drop]; omega) _ _ _ _ rfl hr
          rw [List.length_drop] at this; omega
        | ok r => rw [hr] at h; cases h

theorem law_parts (a b : ByteArray) (h : Heap) : Fn Try.prog 6 #[.string a, .string b] h fun v h' => v = .bool true ∧ Ext h h' := by
  apply vc6; unfold W6
  refine (awake_c h).mono ?_
  rintro v h3 ⟨rfl, hE3⟩
  refine ⟨true, rfl, sB_f rfl ?_⟩
  refine sB_intro (fun hgt => ?_) (fun hgt => ?_)
  · refine (awake_c h3).mono ?_
    rintro v h9 ⟨rfl, hE9⟩
    exact ⟨true, rfl, rfl, hE3.trans hE9⟩
  refine sB_intro (fun hgt2 => ?_) (fun hgt2 => ?_)
  · refine (awake_c h3).mono ?_
    rintro v h9 ⟨rfl, hE9⟩
    exact ⟨true, rfl, rfl, hE3.trans hE9⟩
  have ha : a.size ≤ 1000 := by have := of_decide_eq_false hgt; omega
  have hb : b.size ≤ 1000 := by have := of_decide_eq_false hgt2; omega
  have hsa := size_len a
  have hsb := size_len b
  have hcat : (a ++ ⟨#[10]⟩ ++ b).data.toList = a.data.toList ++ 10 :: b.data.toList := by
    rw [ByteArray.data_append, ByteArray.data_append]; simp
  have hz := toks10 _ 0 a.data.toList b.data.toList rfl
  have hsh := toks_shift _ 0 (a.data.toList.length + 1) b.data.toList rfl
  rw [show 0 + (a.data.toList.length + 1) = 0 + a.data.toList.length + 1 by omega] at hsh
  rw [hsh] at hz
  have hta : tokensS a.data.toList = toks 0 a.data.toList := by unfold tokensS; rw [if_neg (by omega)]
  have htb : tokensS b.data.toList = toks 0 b.data.toList := by unfold tokensS; rw [if_neg (by omega)]
  have htz : tokensS (a ++ ⟨#[10]⟩ ++ b).data.toList = toks 0 (a.data.toList ++ 10 :: b.data.toList) := by
    rw [hcat]; unfold tokensS; rw [if_neg (by rw [List.length_append, List.length_cons]; omega)]
  refine (tokens_c a h3).mono ?_
  rintro v h17 ⟨hE17, hva⟩
  rw [hta] at hva
  have hea : ∃ (x14 : Sl) (x15 x16 : Int), v = .tuple ⟨[.slice x14.a x14.n x14.c, .int .i64 x15, .int .i64 x16]⟩ ∧ (∀ p e, toks 0 a.data.toList = .error (p, e) → x16 = e) ∧ (∀ l, toks 0 a.data.toList = .ok l → x16 = 0 ∧ OwnS h17 h3.size 34 4 x14 (toksC l)) := by
    cases hr : toks 0 a.data.toList with
    | error q =>
      rw [hr] at hva
      exact ⟨⟨none, 0, 0⟩, _, _, hva, fun p e he => (by cases he; rfl), fun l hl => (by cases hl)⟩
    | ok l =>
      rw [hr] at hva
      obtain ⟨sl, hv, hos⟩ := hva
      exact ⟨sl, _, _, hv, fun p e he => (by cases he), fun l' hl => (by cases hl; exact ⟨rfl, hos⟩)⟩
  obtain ⟨x14, x15, x16, rfl, hae, hao⟩ := hea
  refine ⟨x14, x15, x16, rfl, ?_⟩
  refine (tokens_c b h17).mono ?_
  rintro v h22 ⟨hE22, hvb⟩
  rw [htb] at hvb
  have heb : ∃ (x19 : Sl) (x20 x21 : Int), v = .tuple ⟨[.slice x19.a x19.n x19.c, .int .i64 x20, .int .i64 x21]⟩ ∧ (∀ (p : Nat) e, toks 0 b.data.toList = .error (p, e) → x20 = p ∧ x21 = e) ∧ (∀ l, toks 0 b.data.toList = .ok l → x21 = 0 ∧ OwnS h22 h17.size 34 4 x19 (toksC l)) := by
    cases hr : toks 0 b.data.toList with
    | error q =>
      rw [hr] at hvb
      exact ⟨⟨none, 0, 0⟩, _, _, hvb, fun p e he => (by cases he; exact ⟨rfl, rfl⟩), fun l hl => (by cases hl)⟩
    | ok l =>
      rw [hr] at hvb
      obtain ⟨sl, hv, hos⟩ := hvb
      exact ⟨sl, _, _, hv, fun p e he => (by cases he), fun l' hl => (by cases hl; exact ⟨rfl, hos⟩)⟩
  obtain ⟨x19, x20, x21, rfl, hbe, hbo⟩ := heb
  refine ⟨x19, x20, x21, rfl, ?_⟩
  have hs1 : (a ++ ⟨#[10]⟩ : ByteArray).size = a.size + 1 := by rw [ByteArray.size_append]; rfl
  refine ⟨by rw [show (⟨#[10]⟩ : ByteArray).size = 1 from rfl]; omega, by rw [hs1]; omega, ?_⟩
  refine (tokens_c _ h22).mono ?_
  rintro v h27 ⟨hE27, hvz⟩
  rw [htz, hz] at hvz
  have hE : Ext h h27 := ((hE3.trans hE17).trans hE22).trans hE27
  cases hra : toks 0 a.data.toList with
  | error q =>
    obtain ⟨p, e⟩ := q
    rw [hra] at hvz
    simp only [] at hvz
    subst hvz
    have hx := hae p e hra
    have he0 : (x16 != 0) = true := by rw [hx]; rcases toks_err _ _ _ _ _ rfl hra with rfl | rfl | rfl <;> rfl
    refine ⟨⟨none, 0, 0⟩, _, _, rfl, sB_t he0 ⟨?_, hE⟩⟩
    rw [hx, beq_self_eq_true]
  | ok l =>
    obtain ⟨hx, hosa⟩ := hao l hra
    rw [hra] at hvz
    simp only [] at hvz
    have hla := toks_length _ _ _ _ rfl hra
    cases hrb : toks 0 b.data.toList with
    | error q =>
      obtain ⟨p, e⟩ := q
      rw [hrb] at hvz
      simp only [shiftE] at hvz
      subst hvz
      obtain ⟨hy, hz'⟩ := hbe p e hrb
      have hpb := toks_errp _ _ _ _ _ rfl hrb
      have he0 : (x21 != 0) = true := by rw [hz']; rcases toks_err _ _ _ _ _ rfl hrb with rfl | rfl | rfl <;> rfl
      refine ⟨⟨none, 0, 0⟩, _, _, rfl, sB_f (by rw [hx]; rfl) (sB_t he0 (sB_t (by rw [hz', beq_self_eq_true]) ⟨?_, hE⟩))⟩
      rw [hy, w64 (n := ((p : Nat) : Int) + ((a.size : Nat) : Int)) (by omega) (by omega), w64 (by omega) (by omega)]
      have : (((p + (a.data.toList.length + 1) : Nat) : Int) == (p : Int) + (a.size : Int) + 1) = true := by rw [beq_iff_eq]; omega
      rw [this]
    | ok m =>
      obtain ⟨hy, hosb⟩ := hbo m hrb
      rw [hrb] at hvz
      simp only [shiftE] at hvz
      obtain ⟨sl, rfl, hos⟩ := hvz
      have hlb := toks_length _ _ _ _ rfl hrb
      refine ⟨sl, _, _, rfl, sB_f (by rw [hx]; rfl) (sB_f (by rw [hy]; rfl) (sB_t rfl ?_))⟩
      generalize hm' : m.map (fun x => (x.1, x.2 + (a.data.toList.length + 1))) = m' at *
      have hlm : m'.length = m.length := by rw [← hm', List.length_map]
      refine (theirs_c (l ++ m') (by rw [List.length_append]; omega) sl h27 hos.rd).mono ?_
      rintro v h30 ⟨hE30, s1, rfl, hos1⟩
      refine ⟨s1, rfl, ?_⟩
      refine (theirs_c l (by omega) x14 h30 (((hosa.rd.ext hE22).ext hE27).ext hE30)).mono ?_
      rintro v h33 ⟨hE33, s2, rfl, hos2⟩
      refine ⟨s2, rfl, ?_⟩
      refine (theirs_c m (by omega) x19 h33 (((hosb.rd.ext hE27).ext hE30).ext hE33)).mono ?_
      rintro v h36 ⟨hE36, s3, rfl, hos3⟩
      refine ⟨s3, rfl, ?_⟩
      have hn2 : s2.n = l.length := by have := hos2.len; rw [toksC_len] at this; omega
      have hn3 : s3.n = m.length := by have := hos3.len; rw [toksC_len] at this; omega
      refine App_two app27 (hos2.ext hE36) (Nat.le_trans hE33.1 hE36.1) hos3 (toksC_one m) (by omega) (by unfold maxLen; omega) ?_
      intro r h38 hrn hor hkp
      have hk30 : Kp h30.size h30 h38 := ((hE33.trans hE36).kp (Nat.le_refl _)).trans hkp
      have hE38 : Ext h30 h38 := hk30.ext
      rw [← toksC_append] at hor
      refine (same_c (l ++ m') (l ++ m) (by rw [List.length_append]; omega) s1 r false h38 (hos1.rd.ext hE38) hor.rd).mono ?_
      rintro v h41 ⟨rfl, rfl⟩
      refine ⟨_, rfl, ?_, (hE.trans hE30).trans hE38⟩
      have : (l ++ m').map (·.1) = (l ++ m).map (·.1) := by
        rw [List.map_append, List.map_append, ← hm', List.map_map]; rfl
      unfold sameS
      rw [if_neg (by decide), decide_eq_true this]
end Go.VC
