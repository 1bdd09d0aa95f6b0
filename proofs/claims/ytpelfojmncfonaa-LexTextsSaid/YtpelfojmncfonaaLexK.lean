import Derived.Test.YtpelfojmncfonaaLexJ
set_option linter.unusedVariables false
set_option linter.unusedSimpArgs false

namespace Go.VC
open Go.Proofs Go.LexS
set_option maxRecDepth 100000

/-- a slice that can be read: its cells are xs -/
def Rd (h : Heap) (size : Nat) (s : Sl) (xs : List Value) : Prop :=
  xs.length = s.n * size ∧ (s.n = 0 ∨ ∃ g o, s.a = some ⟨g, o, none⟩ ∧ atC h ⟨g, o, none⟩ xs)
theorem OwnS.rd {h : Heap} {b : Nat} {e : TypeId} {size : Nat} {s : Sl} {xs : List Value} (ho : OwnS h b e size s xs) : Rd h size s xs := by
  refine ⟨ho.1, ?_⟩
  rcases ho.2 with ⟨_, h0, _⟩ | ⟨g, cur, ha, _⟩
  · exact .inl h0
  · exact .inr ⟨g, 0, ha, fun i v hi => by rw [addk_at, Nat.zero_add]; exact ho.hc ha hi⟩
theorem atC_ext' {h h' : Heap} (hE : Ext h h') {a : Addr} {vs : List Value} (hv : atC h a vs) : atC h' a vs := fun i v hi => by
  have h1 := hv i v hi
  have := hE.hc (hc_lt h1)
  rw [this]; exact h1
theorem Rd.ext {h h' : Heap} (hE : Ext h h') {size : Nat} {s : Sl} {xs : List Value} (hr : Rd h size s xs) : Rd h' size s xs := by
  refine ⟨hr.1, ?_⟩
  rcases hr.2 with h0 | ⟨g, o, ha, hv⟩
  · exact .inl h0
  · exact .inr ⟨g, o, ha, atC_ext' hE hv⟩
theorem Rd.at {h : Heap} {size : Nat} {s : Sl} {xs : List Value} (hr : Rd h size s xs) (hn : 0 < s.n) : ∃ g o, s.a = some ⟨g, o, none⟩ ∧ ∀ (i : Nat) (v : Value), xs[i]? = some v → hc h ⟨g, o + i, none⟩ = some v := by
  rcases hr.2 with h0 | ⟨g, o, ha, hv⟩
  · omega
  · exact ⟨g, o, ha, fun i v hi => by have := hv i v hi; rwa [addk_at] at this⟩

theorem toksC_cell : ∀ (l : List (T × Nat)) (i r : Nat) (p : T × Nat), l[i]? = some p → r < 4 → (toksC l)[i * 4 + r]? = (tokC p.1 p.2)[r]?
  | [], i, r, p, h, _ => by simp at h
  | a :: l, 0, r, p, h, hr => by
    rw [List.getElem?_cons_zero] at h
    cases h
    unfold toksC
    rw [List.flatMap_cons, Nat.zero_mul, Nat.zero_add, List.getElem?_append_left (by simp [tokC]; omega)]
  | a :: l, i + 1, r, p, h, hr => by
    have := toksC_cell l i r p (by simpa using h) hr
    unfold toksC at *
    rw [List.flatMap_cons, List.getElem?_append_right (by simp [tokC]; omega), ← this]
    congr 1
    simp [tokC]; omega
theorem Rd.tok {h : Heap} {s : Sl} {l : List (T × Nat)} (hr : Rd h 4 s (toksC l)) {g o : Nat} (ho : ∀ (i : Nat) (v : Value), (toksC l)[i]? = some v → hc h ⟨g, o + i, none⟩ = some v) {i : Nat} {p : T × Nat} (hp : l[i]? = some p) :
    atC h ⟨g, o + i * 4, none⟩ (tokC p.1 p.2) := fun r v hv => by
  rw [addk_at, Nat.add_assoc]
  refine ho _ _ ?_
  have hr4 : r < 4 := by have := (List.getElem?_eq_some_iff.1 hv).1; simp [tokC] at this; omega
  rw [toksC_cell l i r p hp hr4]; exact hv
theorem app27 : appB Try.prog 27 37 4 40 = true := by kernel_rfl

theorem theirs_c (l : List (T × Nat)) (hl : l.length ≤ 1000000) (s : Sl) (h : Heap) (hr : Rd h 4 s (toksC l)) :
    Fn Try.prog 14 #[.slice s.a s.n s.c] h fun v h' => Ext h h' ∧ ∃ r : Sl, v = .slice r.a r.n r.c ∧ OwnS h' h.size 37 4 r (toksC l) := by
  apply vc14; unfold W14
  have hn : s.n = l.length := by have := hr.1; rw [toksC_len] at this; omega
  refine ⟨fun out x h' m => ∃ i : Nat, x = i ∧ m = l.length - i ∧ i ≤ l.length ∧ Kp h.size h h' ∧ OwnS h' h.size 37 4 out (toksC (l.take i)), ⟨_, 0, rfl, rfl, by omega, Kp.refl _ _, OwnS.nil⟩, ?_⟩
  rintro - out x h6 m ⟨i, rfl, rfl, hi, hk, hos⟩
  refine sB_intro (fun hlt => ?_) (fun hge => ?_)
  · have hlt' : i < l.length := by have := of_decide_eq_true hlt; omega
    obtain ⟨g, o, ha, ho⟩ := (hr.ext hk.ext).at (by omega)
    obtain ⟨p, hp⟩ : ∃ p, l[i]? = some p := ⟨_, List.getElem?_eq_getElem hlt'⟩
    rw [ha, NB_some]
    have hon : out.n = i := by have := hos.len; rw [toksC_len, List.length_take] at this; omega
    refine ⟨⟨by omega, by omega⟩, _, _, _, _, (hr.ext hk.ext).tok ho hp, ?_⟩
    refine App_one app27 hos hk.1 rfl rfl (by omega) (by unfold maxLen; omega) ?_
    intro r h15 hrn hor hkp _
    refine ⟨_, ?_, i + 1, ?_, rfl, by omega, hk.trans hkp, ?_⟩
    · omega
    · rw [w64 (by omega) (by omega)]; omega
    · rw [List.take_add_one, hp]
      have := toksC_snoc (l.take i) p.1 p.2
      rw [show l.take i ++ (some p).toList = l.take i ++ [(p.1, p.2)] from rfl, this]
      exact hor
  · have : i = l.length := by have := of_decide_eq_false hge; omega
    subst this
    rw [List.take_length] at hos
    exact ⟨hk.ext, out, rfl, hos⟩

def sameS (l m : List (T × Nat)) (places : Bool) : Bool := if places then decide (l = m) else decide (l.map (·.1) = m.map (·.1))
theorem sameS_len {l m : List (T × Nat)} {b : Bool} (h : l.length ≠ m.length) : sameS l m b = false := by
  unfold sameS
  split
  · exact decide_eq_false fun e => h (by rw [e])
  · exact decide_eq_false fun e => h (by have := congrArg List.length e; simpa using this)
theorem sameS_false {l m : List (T × Nat)} {b : Bool} {i : Nat} {p q : T × Nat} (hp : l[i]? = some p) (hq : m[i]? = some q) (h : p.1 ≠ q.1 ∨ b = true ∧ p.2 ≠ q.2) : sameS l m b = false := by
  unfold sameS
  split
  · refine decide_eq_false fun e => ?_
    rw [e, hq] at hp
    have := Option.some.inj hp
    subst this
    rcases h with h | h
    · exact h rfl
    · exact h.2 rfl
  · rename_i hb
    refine decide_eq_false fun e => ?_
    have h1 : (l.map (·.1))[i]? = some p.1 := by rw [List.getElem?_map, hp]; rfl
    have h2 : (m.map (·.1))[i]? = some q.1 := by rw [List.getElem?_map, hq]; rfl
    rw [e, h2] at h1
    rcases h with h | h
    · exact h (Option.some.inj h1).symm
    · exact hb h.1
theorem sameS_true {l m : List (T × Nat)} {b : Bool} (hl : l.length = m.length) (h : ∀ (i : Nat) (p q : T × Nat), l[i]? = some p → m[i]? = some q → p.1 = q.1 ∧ (b = true → p.2 = q.2)) : sameS l m b = true := by
  unfold sameS
  have opt : ∀ i : Nat, (∃ p q, l[i]? = some p ∧ m[i]? = some q) ∨ (l[i]? = none ∧ m[i]? = none) := by
    intro i
    by_cases hi : i < l.length
    · exact .inl ⟨_, _, List.getElem?_eq_getElem hi, List.getElem?_eq_getElem (by omega)⟩
    · exact .inr ⟨List.getElem?_eq_none (by omega), List.getElem?_eq_none (by omega)⟩
  split
  · rename_i hb
    refine decide_eq_true (List.ext_getElem? fun i => ?_)
    rcases opt i with ⟨p, q, hp, hq⟩ | ⟨hp, hq⟩
    · rw [hp, hq]
      have := h i p q hp hq
      rw [show p = q from Prod.ext this.1 (this.2 hb)]
    · rw [hp, hq]
  · refine decide_eq_true (List.ext_getElem? fun i => ?_)
    rw [List.getElem?_map, List.getElem?_map]
    rcases opt i with ⟨p, q, hp, hq⟩ | ⟨hp, hq⟩
    · rw [hp, hq]
      exact congrArg some (h i p q hp hq).1
    · rw [hp, hq]
theorem natne {a b : Nat} (h : (((a : Nat) : Int) != ((b : Nat) : Int)) = true) : a ≠ b := fun e => by subst e; simp at h
theorem nateq {a b : Nat} (h : (((a : Nat) : Int) != ((b : Nat) : Int)) = false) : a = b := by
  have := beq_iff_eq.1 (bne_f h); omega

theorem same_c (l m : List (T × Nat)) (hl : l.length ≤ 1000000) (p0 p1 : Sl) (pl : Bool) (h : Heap) (hr0 : Rd h 4 p0 (toksC l)) (hr1 : Rd h 4 p1 (toksC m)) :
    Fn Try.prog 13 #[.slice p0.a p0.n p0.c, .slice p1.a p1.n p1.c, .bool pl] h fun v h' => v = .bool (sameS l m pl) ∧ h' = h := by
  apply vc13; unfold W13
  have hn0 : p0.n = l.length := by have := hr0.1; rw [toksC_len] at this; omega
  have hn1 : p1.n = m.length := by have := hr1.1; rw [toksC_len] at this; omega
  rw [hn0, hn1]
  refine sB_intro (fun hne => ⟨?_, rfl⟩) (fun heq => ?_)
  · rw [sameS_len (natne hne)]
  · have hlen : l.length = m.length := nateq heq
    refine ⟨fun x h' k => ∃ i : Nat, x = i ∧ k = l.length - i ∧ i ≤ l.length ∧ h' = h ∧ ∀ (j : Nat) (p q : T × Nat), j < i → l[j]? = some p → m[j]? = some q → p.1 = q.1 ∧ (pl = true → p.2 = q.2), ⟨_, 0, rfl, rfl, by omega, rfl, fun j p q hj => by omega⟩, ?_⟩
    rintro - x h5 k ⟨i, rfl, rfl, hi, rfl, hall⟩
    refine sB_intro (fun hlt => ?_) (fun hge => ?_)
    · have hlt' : i < l.length := by have := of_decide_eq_true hlt; omega
      obtain ⟨g0, o0, ha0, ho0⟩ := hr0.at (by omega)
      obtain ⟨g1, o1, ha1, ho1⟩ := hr1.at (by omega)
      obtain ⟨p, hp⟩ : ∃ p, l[i]? = some p := ⟨_, List.getElem?_eq_getElem hlt'⟩
      obtain ⟨q, hq⟩ : ∃ q, m[i]? = some q := ⟨_, List.getElem?_eq_getElem (by omega)⟩
      have a0 := hr0.tok ho0 hp
      have a1 := hr1.tok ho1 hq
      have c0 : ∀ (r : Nat) v, (tokC p.1 p.2)[r]? = some v → hc h5 ⟨g0, o0 + i * 4 + r, none⟩ = some v := fun r v hv => by have := a0 r v hv; rwa [addk_at] at this
      have c1 : ∀ (r : Nat) v, (tokC q.1 q.2)[r]? = some v → hc h5 ⟨g1, o1 + i * 4 + r, none⟩ = some v := fun r v hv => by have := a1 r v hv; rwa [addk_at] at this
      have i0 : (0 : Int) ≤ (i : Int) ∧ (i : Int) < (l.length : Nat) := ⟨by omega, by omega⟩
      have i1 : (0 : Int) ≤ (i : Int) ∧ (i : Int) < (m.length : Nat) := ⟨by omega, by omega⟩
      have no : (p.1 ≠ q.1 ∨ pl = true ∧ p.2 ≠ q.2) → (Value.bool false = .bool (sameS l m pl) ∧ h5 = h5) := fun hh => ⟨by rw [sameS_false hp hq hh], rfl⟩
      have yes : p.1 = q.1 → (pl = true → p.2 = q.2) → ∃ m30, m30 < l.length - i ∧ ∃ i' : Nat, IntKind.wrap .i64 ((i : Int) + 1) = i' ∧ m30 = l.length - i' ∧ i' ≤ l.length ∧ h5 = h5 ∧
          ∀ (j : Nat) (p q : T × Nat), j < i' → l[j]? = some p → m[j]? = some q → p.1 = q.1 ∧ (pl = true → p.2 = q.2) := by
        intro h1 h2
        refine ⟨_, ?_, i + 1, ?_, rfl, by omega, rfl, fun j p' q' hj hp' hq' => ?_⟩
        · omega
        · rw [w64 (by omega) (by omega)]; omega
        · by_cases hji : j < i
          · exact hall j p' q' hji hp' hq'
          · have : j = i := by omega
            subst this
            rw [hp] at hp'; rw [hq] at hq'; cases hp'; cases hq'
            exact ⟨h1, h2⟩
      rw [ha0, ha1]
      dsimp only [NB_some]
      rw [show Int.toNat (i : Int) = i from rfl]
      refine ⟨i0, _, c0 0 _ rfl, i1, _, c1 0 _ rfl, sB_intro (fun hne => no (.inl fun e => natne hne (by rw [e]))) fun hk => ⟨i0, _, c0 1 _ rfl, i1, _, c1 1 _ rfl, sB_intro (fun hne => no (.inl fun e => ?_)) fun ht =>
        ⟨i0, _, c0 2 _ rfl, i1, _, c1 2 _ rfl, sB_intro (fun hne => no (.inl fun e => natne hne (by rw [e]))) fun hv => ?_⟩⟩⟩
      · rw [strEq, e] at hne; simp at hne
      · have e : p.1 = q.1 := by
          have e1 := nateq hk
          have e3 := nateq hv
          have e2 : p.1.text = q.1.text := by
            rw [strEq, Bool.not_eq_false'] at ht
            exact of_decide_eq_true ht
          cases hp1 : p.1; cases hq1 : q.1
          rw [hp1, hq1] at e1 e2 e3
          simp only [] at e1 e2 e3
          rw [e1, e2, e3]
        refine sB_intro (fun hpl => ⟨i0, _, c0 3 _ rfl, i1, _, c1 3 _ rfl, sB_intro (fun hne => no (.inr ⟨hpl, natne hne⟩)) fun hf => yes e fun _ => nateq hf⟩) fun hpl => yes e fun hh => by rw [hpl] at hh; cases hh
    · have : i = l.length := by have := of_decide_eq_false hge; omega
      subst this
      refine ⟨?_, rfl⟩
      rw [sameS_true hlen fun j p q hp hq => hall j p q (List.getElem?_eq_some_iff.1 hp).1 hp hq]

theorem reftokens_c (s : ByteArray) (h : Heap) : Fn Try.prog 12 #[.string s] h (TokA 37 (tokensS s.data.toList) h) := by
  apply vc12; unfold W12
  have hsz := size_len s
  unfold tokensS
  refine sB_intro (fun hgt => ?_) (fun hgt => ?_)
  · have : 8000 < s.data.toList.length := by have := of_decide_eq_true hgt; omega
    rw [if_pos this]
    exact ⟨Ext.refl _, rfl⟩
  · have hs : s.size ≤ 8000 := by have := of_decide_eq_false hgt; omega
    rw [if_neg (by omega)]
    have hskip := fun k hk => refskip_c s k hk (by omega)
    have hxe := fun k => ext_end s k
    refine (hskip 0 (by omega) h).mono ?_
    rintro v h3 ⟨rfl, rfl⟩
    refine ⟨_, rfl, ?_⟩
    generalize hL : s.data.toList = L at *
    rw [List.drop_zero, Nat.zero_add]
    refine ⟨fun l x h' m => ∃ (k : Nat) (acc : List (T × Nat)), x = ((k + skipC false (L.drop k) : Nat) : Int) ∧ m = s.size - k ∧ k ≤ s.size ∧ acc.length ≤ k ∧ Kp h3.size h3 h' ∧ OwnS h' h3.size 37 4 l (toksC acc) ∧
        toks 0 L = pre acc (toks k (L.drop k)), ⟨_, 0, [], by rw [List.drop_zero, Nat.zero_add], rfl, by omega, by simp, Kp.refl _ _, OwnS.nil, by rw [List.drop_zero]; cases toks 0 L <;> rfl⟩, ?_⟩
    rintro - l x h9 m ⟨k, acc, rfl, rfl, hk, hacc, hkp, hos, ht⟩
    generalize hj : k + skipC false (L.drop k) = j at *
    refine sB_intro (fun hlt => ?_) (fun hge => ?_)
    · have hlt' : j < s.size := by have := of_decide_eq_true hlt; omega
      have hjL : j < L.length := by omega
      obtain ⟨b, hb⟩ : ∃ b, L[j]? = some b := ⟨_, List.getElem?_eq_getElem hjL⟩
      have hdrop := drop_cons hb
      have htk : toks k (L.drop k) = match tokenS (L.drop j) with
          | .error e => .error (j, e)
          | .ok (t, n) => match toks (j + n) (L.drop (j + n)) with
            | .error e => .error e
            | .ok r => .ok ((t, j) :: r) := by
        rw [toks_cons (c := b) (cs := L.drop (j + 1)) (by rw [List.drop_drop, hj, hdrop]), ← hdrop, hj]
        cases hts : tokenS (L.drop j) with
        | error e => rfl
        | ok p =>
          obtain ⟨t, n⟩ := p
          have hn := token_len (by rw [hdrop] at hts; exact hts)
          have e : (L.drop (j + 1)).drop (n - 1) = L.drop (j + n) := by rw [List.drop_drop]; congr 1; omega
          simp only []
          rw [e]
          rfl
      refine ⟨⟨by omega, by omega, by omega⟩, ?_⟩
      rw [show Int.toNat (j : Int) = j from rfl, show Int.toNat ((ByteArray.size s : Nat) : Int) = s.size from rfl]
      have hes := hxe j
      have hrs : (s.extract j s.size).size = s.size - j := by rw [size_len, hes, List.length_drop, hsz]
      have hrt := reftoken_c (s.extract j s.size) (by omega) (by omega) h9
      rw [hes] at hrt
      refine hrt.mono ?_
      rintro v h17 ⟨hE17, hv⟩
      have kp17 : Kp h3.size h3 h17 := hkp.trans (hE17.kp hkp.1)
      have os17 := hos.ext hE17
      have rest : ∀ (x y z : Int) (t : ByteArray) (Q : Heap → Prop), (∀ h23, Ext h17 h23 → Own h23 h17.size [.int .i64 x, .string t, .int .i64 y, .int .i64 z] 37 → Q h23) →
          (∀ h22 : Heap, h22 = h17.push (.cells ⟨[.int .i64 0, .string ⟨#[]⟩, .int .i64 0, .int .i64 0]⟩ 37) → 
          (okAt h22 ⟨h17.size, 0, none⟩ 4 ∧ ∀ h23 : Heap, h23 = hputs h22 ⟨h17.size, 0, none⟩ 0 [.int .i64 x, .string t, .int .i64 y, .int .i64 z] → Q h23)) := by
        intro x y z t Q hQ h22 e22
        have hE : Ext h17 h22 := by subst e22; exact Ext.push _ _
        have ho : Own h22 h17.size [.int .i64 0, .string ⟨#[]⟩, .int .i64 0, .int .i64 0] 37 := by subst e22; exact Own.push
        refine ⟨ho.okAt (by simp), ?_⟩
        intro h23 e23
        have hB : But h17.size h22 h23 := by subst e23; exact But.hputs (a := ⟨h17.size, 0, none⟩) _ _ _
        have ho2 := Own.hputs [.int .i64 x, .string t, .int .i64 y, .int .i64 z] 0 h22 _ ho (o := 0) (by simp)
        rw [← e23] at ho2
        refine hQ h23 ⟨by rw [hB.1]; exact hE.1, fun q hq => (hB.2 q (by omega)).trans (hE.2 q hq)⟩ ho2
      cases hts : tokenS (L.drop j) with
      | error e =>
        rw [hts] at hv htk
        simp only [] at hv htk
        obtain ⟨x, t, y, z, n, rfl⟩ := hv
        refine ⟨x, t, y, z, n, e, rfl, rest x y z t _ fun h23 hE23 ho23 => ?_⟩
        have he0 : (e != 0) = true := by rcases tok_err hts with rfl | rfl | rfl <;> rfl
        refine sB_t he0 ⟨(kp17.trans (hE23.kp kp17.1)).ext, ?_⟩
        rw [ht, htk]
        rfl
      | ok p =>
        obtain ⟨t, n⟩ := p
        rw [hts] at hv htk
        simp only [] at hv htk
        subst hv
        have hn := token_len (by rw [hdrop] at hts; exact hts)
        rw [List.length_drop] at hn
        refine ⟨_, _, _, _, n, 0, rfl, rest _ _ _ _ _ fun h23 hE23 ho23 => ?_⟩
        refine sB_f rfl ⟨ho23.okAt (by simp), ?_⟩
        intro h24 e24
        have hB24 : But h17.size h23 h24 := by subst e24; exact But.hputs (a := ⟨h17.size, 3, none⟩) _ _ _
        have ho24 : Own h24 h17.size (tokC t j) 37 := by
          have := Own.hputs [.int .i64 (j : Int)] 0 h23 _ ho23 (o := 3) (by simp)
          rw [← e24] at this
          exact this
        have hE24 : Ext h17 h24 := ⟨by rw [hB24.1]; exact hE23.1, fun q hq => (hB24.2 q (by omega)).trans (hE23.2 q hq)⟩
        refine ⟨_, _, _, _, ho24.atC (o := 0) (fun i v hi => by rw [Nat.zero_add]; exact hi), ?_⟩
        have hln : acc.length = l.n := by have := os17.len; rw [toksC_len] at this; omega
        have hz17 := kp17.1
        refine App_one app27 (os17.ext hE24) (by have := hE24.1; omega) rfl rfl (by omega) (by unfold maxLen; omega) ?_
        intro r h31 hrn hor hkp31 _
        have kp31 : Kp h3.size h3 h31 := (kp17.trans (hE24.kp hz17)).trans hkp31
        have hw : IntKind.wrap .i64 ((j : Int) + ((n : Nat) : Int)) = ((j + n : Nat) : Int) := by rw [w64 (by omega) (by omega)]; omega
        rw [hw]
        refine (hskip (j + n) (by omega) h31).mono ?_
        rintro v h33 ⟨rfl, rfl⟩
        refine ⟨_, rfl, _, ?_, j + n, acc ++ [(t, j)], rfl, rfl, by omega, by rw [List.length_append, List.length_singleton]; omega, kp31, by rw [toksC_snoc]; exact hor, ?_⟩
        · omega
        · rw [ht, htk, ← pre_pre]
          congr 1
    · have hge' : L.length ≤ j := by have := of_decide_eq_false hge; omega
      refine ⟨hkp.ext, ?_⟩
      rw [ht, toks_nil (by rw [List.drop_drop, hj, drop_end hge'])]
      simp only [pre, List.append_nil]
      exact ⟨l, rfl, hos⟩
end Go.VC
