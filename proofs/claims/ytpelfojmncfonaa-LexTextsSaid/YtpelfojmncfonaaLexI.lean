import Derived.Test.YtpelfojmncfonaaLexH
set_option linter.unusedVariables false
set_option linter.unusedSimpArgs false

namespace Go.VC
open Go.Proofs Go.LexS
set_option maxRecDepth 100000

/-- what a reader of the reference answers -/
def RAns (h : Heap) (r : Except Int (T × Nat)) (v : Value) (h' : Heap) : Prop :=
  Ext h h' ∧ match r with
  | .error e => ∃ (x : Int) (t : ByteArray) (y z n : Int), v = .tuple ⟨[.agg ⟨[.int .i64 x, .string t, .int .i64 y, .int .i64 z]⟩, .int .i64 n, .int .i64 e]⟩
  | .ok (t, n) => v = .tuple ⟨[.agg ⟨tokC t 0⟩, .int .i64 n, .int .i64 0]⟩
theorem Ext.but_new {h h1 h' : Heap} {b : Nat} (hE : Ext h h1) (hb : But b h1 h') (hn : h.size ≤ b) : Ext h h' :=
  ⟨by rw [hb.1]; exact hE.1, fun k hk => (hb.2 k (by omega)).trans (hE.2 k hk)⟩

theorem U46_c (s : ByteArray) (w : List UInt8) (x : Int) (hx : w.length ≤ 6 → x = numV w) (hw : ∃ r, s.data.toList = w ++ r) (h hX : Heap) (b : Nat) (xs : List Value)
    (hbX : Own hX b xs 37) (hxs : xs.length = 4) (hb : h.size ≤ b) (hE : Ext h hX) (R : Value → Heap → Prop)
    (hR : ∀ v h', RAns h (if 6 < w.length ∨ 1 < w.length ∧ s.data.toList.head? = some 48 then .error 2 else .ok (⟨2, [], numV w⟩, w.length)) v h' → R v h') : U46 s w.length x b hX R := by
  unfold U46
  have hsz := size_len s
  generalize hL : s.data.toList = L at *
  obtain ⟨r, rfl⟩ := hw
  have err : (6 < w.length ∨ 1 < w.length ∧ (w ++ r).head? = some 48) → ∀ h', But b hX h' → ∀ (x : Int) (t : ByteArray) (y z : Int), R (.tuple ⟨[.agg ⟨[.int .i64 x, .string t, .int .i64 y, .int .i64 z]⟩, .int .i64 0, .int .i64 2]⟩) h' := by
    intro hc' h' hb' x t y z
    rw [if_pos hc'] at hR
    exact hR _ _ ⟨hE.but_new hb' hb, x, t, y, z, 0, rfl⟩
  have good : ¬ (6 < w.length ∨ 1 < w.length ∧ (w ++ r).head? = some 48) → ∀ h', But b hX h' → R (.tuple ⟨[.agg ⟨[.int .i64 2, .string ⟨#[]⟩, .int .i64 x, .int .i64 0]⟩, .int .i64 w.length, .int .i64 0]⟩) h' := by
    intro hc' h' hb'
    rw [if_neg hc'] at hR
    refine hR _ _ ⟨hE.but_new hb' hb, ?_⟩
    rw [hx (by omega)]; rfl
  refine sB_intro (fun hgt => ?_) (fun hgt => ?_)
  · exact fin4 hbX hxs fun h' hb' ho' => err (.inl (by have := of_decide_eq_true hgt; omega)) h' hb' _ _ _ _
  · have hl6 : w.length ≤ 6 := by have := of_decide_eq_false hgt; omega
    refine sB_intro (fun h1 => ?_) (fun h1 => ?_)
    · have h1' : 1 < w.length := by have := of_decide_eq_true h1; omega
      rw [List.length_append] at hsz
      refine ⟨⟨by omega, by omega⟩, ?_⟩
      obtain ⟨y, hy, hby⟩ := byte_get (s := s) (i := 0) (by omega)
      rw [show Int.toNat 0 = 0 from rfl, hby]
      rw [hL, ← List.head?_eq_getElem?] at hy
      refine sB_intro (fun h48 => ?_) (fun h48 => ?_)
      · have e : y = 48 := u8_eq (c := 48) h48
        exact fin4 hbX hxs fun h' hb' ho' => err (.inr ⟨h1', by rw [hy, e]⟩) h' hb' _ _ _ _
      · have hne : ¬ (6 < w.length ∨ 1 < w.length ∧ (w ++ r).head? = some 48) := by
          rintro (h' | ⟨_, h'⟩)
          · omega
          · rw [hy] at h'; exact u8_ne (c := 48) h48 (Option.some.inj h')
        exact fin4 hbX hxs fun h' hb' ho' => good hne h' hb'
    · have hne : ¬ (6 < w.length ∨ 1 < w.length ∧ (w ++ r).head? = some 48) := by
        have := of_decide_eq_false h1
        rintro (h' | ⟨h', _⟩) <;> omega
      exact fin4 hbX hxs fun h' hb' ho' => good hne h' hb'
theorem T46_c (s : ByteArray) (x : Int) (hx : (s.data.toList.takeWhile dg).length ≤ 6 → x = numV (s.data.toList.takeWhile dg)) (hs : s.size ≤ 100000) (h hX : Heap) (b : Nat) (xs : List Value)
    (hbX : Own hX b xs 37) (hxs : xs.length = 4) (hb : h.size ≤ b) (hE : Ext h hX) (R : Value → Heap → Prop)
    (hR : ∀ v h', RAns h (numS s.data.toList) v h' → R v h') (n : Int) (hn : n = (s.data.toList.takeWhile dg).length) : T46 s n x b hX R := by
  unfold T46
  subst hn
  have hsz := size_len s
  have hU := U46_c s (s.data.toList.takeWhile dg) x hx ⟨s.data.toList.dropWhile dg, List.takeWhile_append_dropWhile.symm⟩ h
  unfold numS at hR
  generalize hL : s.data.toList = L at *
  generalize hw : L.takeWhile dg = w at *
  rw [List.head?_drop] at hR
  refine sB_intro (fun hlt => ?_) (fun hge => ?_)
  · have hlt' : w.length < s.size := by have := of_decide_eq_true hlt; omega
    obtain ⟨y, hy, hby⟩ := byte_get hlt'
    rw [hL] at hy
    rw [hy] at hR
    refine ⟨⟨by omega, by omega⟩, ?_⟩
    rw [show Int.toNat ((w.length : Nat) : Int) = w.length from rfl, hby]
    refine (refinner_c _ _).mono ?_
    rintro v h11 ⟨rfl, rfl⟩
    refine ⟨_, rfl, sB_intro (fun hi => ?_) (fun hi => ?_)⟩
    · have e : (some y).any inn = true := hi
      rw [if_pos e] at hR
      exact fin4 hbX hxs fun h' hb' ho' => hR _ _ ⟨hE.but_new hb' hb, _, _, _, _, 0, rfl⟩
    · have e : ¬ (some y).any inn = true := by rw [show (some y).any inn = false from hi]; simp
      rw [if_neg e] at hR
      exact hU _ b xs hbX hxs hb hE R hR
  · have hge' : L.length ≤ w.length := by have := of_decide_eq_false hge; omega
    rw [List.getElem?_eq_none hge', if_neg (by simp)] at hR
    exact hU _ b xs hbX hxs hb hE R hR
theorem takeWhile_split (p : UInt8 → Bool) (L : List UInt8) (i : Nat) (h : ∀ (b : UInt8) (j : Nat), j < i → L[j]? = some b → p b = true) : L.takeWhile p = L.take i ++ (L.drop i).takeWhile p := by
  induction i generalizing L with
  | zero => simp
  | succ i ih =>
    cases L with
    | nil => simp
    | cons a L =>
      have ha := h a 0 (by omega) rfl
      rw [List.takeWhile_cons, ha, List.take_succ_cons, List.drop_succ_cons]
      simp only [if_true, List.cons_append]
      rw [ih L (fun b j hj hb => h b (j + 1) (by omega) (by simpa using hb))]
theorem refnumber_c (s : ByteArray) (hs : s.size ≤ 100000) (h : Heap) : Fn Try.prog 46 #[.string s] h (RAns h (numS s.data.toList)) := by
  apply vc46; unfold W46
  have hsz := size_len s
  intro h1 e1
  have hE : Ext h h1 := by subst e1; exact Ext.push _ _
  have hl1 : Own h1 h.size [.int .i64 0, .string ⟨#[]⟩, .int .i64 0, .int .i64 0] 37 := by subst e1; exact Own.push
  have hT := T46_c s
  generalize hL : s.data.toList = L at *
  refine ⟨fun n v h' m => ∃ i : Nat, n = i ∧ m = s.size - i ∧ i ≤ s.size ∧ h' = h1 ∧ (∀ (b : UInt8) (j : Nat), j < i → L[j]? = some b → dg b = true) ∧ (i ≤ 6 → v = numV (L.take i)) ∧ 0 ≤ v ∧ v ≤ 1099511627776,
    ⟨_, 0, rfl, rfl, by omega, rfl, fun b j hj => by omega, fun _ => rfl, by omega, by omega⟩, ?_⟩
  rintro - n v h7 m ⟨i, rfl, rfl, hi, rfl, hd, hv, hv0, hv1⟩
  have hsplit := takeWhile_split dg L i hd
  have tail : (L.drop i).takeWhile dg = [] → T46 s i v h.size h7 (RAns h (numS L)) := by
    intro he
    rw [he, List.append_nil] at hsplit
    have hlen : (L.takeWhile dg).length = i := by rw [hsplit, List.length_take]; omega
    exact hT v (fun h6 => by rw [hlen] at h6; rw [hsplit]; exact hv h6) hs h h7 h.size _ hl1 rfl (Nat.le_refl _) hE _ (fun v h' hh => hh) i (by rw [hlen])
  refine sB_intro (fun hlt => ?_) (fun hge => ?_)
  · have hlt' : i < s.size := by have := of_decide_eq_true hlt; omega
    obtain ⟨b, hb, hby⟩ := byte_get hlt'
    rw [hL] at hb
    refine ⟨⟨by omega, by omega⟩, ?_⟩
    unfold T46 at tail
    rw [show Int.toNat (i : Int) = i from rfl, hby] at tail ⊢
    refine (refdigit_c _ _).mono ?_
    rintro x h10 ⟨rfl, rfl⟩
    refine ⟨_, rfl, sB_intro (fun hp => ?_) (fun hp => ?_)⟩
    · have hdb : dg b = true := hp
      have hr := dg_range hdb
      have hd' : ∀ (b : UInt8) (j : Nat), j < i + 1 → L[j]? = some b → dg b = true := by
        intro b' j hj hb'
        by_cases hji : j < i
        · exact hd b' j hji hb'
        · have : j = i := by omega
          subst this
          rw [hb] at hb'; cases hb'; exact hdb
      refine ⟨⟨by omega, by omega⟩, _, ?_, i + 1, ?_, rfl, by omega, rfl, hd', ?_⟩
      · omega
      · rw [w64 (by omega) (by omega)]; omega
      rw [wu8 (by omega) (by omega), w64 (n := (b.toNat : Int) - 48) (by omega) (by omega), w64 (n := 10 * v) (by omega) (by omega), w64 (by omega) (by omega)]
      have e1 : L.take (i + 1) = L.take i ++ [b] := by rw [List.take_add_one, hb]; rfl
      refine ⟨fun h6 => ?_, ?_, ?_⟩
      · have hvi := hv (by omega)
        have hlt6 := numV_lt i (L.take i) (by rw [List.length_take]; omega) (fun b' j hb' => by
          rw [List.getElem?_take] at hb'
          split at hb'
          · exact hd b' j (by assumption) hb'
          · cases hb')
        have hp6 : 10 ^ i ≤ 10 ^ 5 := Nat.pow_le_pow_right (by omega) (by omega)
        rw [e1, numV_snoc]
        unfold imin
        rw [if_neg (by omega)]
        omega
      · unfold imin; split <;> omega
      · unfold imin; split <;> omega
    · exact tail (by rw [drop_cons hb, List.takeWhile_cons, show dg b = false from hp]; rfl)
  · have hge' : L.length ≤ i := by have := of_decide_eq_false hge; omega
    exact tail (by rw [drop_end hge']; rfl)

theorem bs_app (a b : List UInt8) : bs a ++ bs b = bs (a ++ b) := by
  apply ByteArray.ext
  rw [ByteArray.data_append]
  simp [bs]
theorem ext_one {s : ByteArray} {k : Nat} {b : UInt8} (hb : s.data.toList[k]? = some b) : s.extract k (k + 1) = bs [b] := by
  rw [ext_bs, drop_cons hb, show k + 1 - k = 1 by omega]; rfl
def textV : Option (List UInt8 × Nat) → Value
  | none => .tuple ⟨[.string ⟨#[]⟩, .int .i64 0]⟩
  | some (t, n) => .tuple ⟨[.string (bs t), .int .i64 n]⟩
theorem reftext_c (s : ByteArray) (hs : s.size ≤ 100000) (h0 : 0 < s.size) (h : Heap) : Fn Try.prog 47 #[.string s] h fun v h' => v = textV (elemsS (s.data.toList.drop 1) [] 1) ∧ h' = h := by
  apply vc47; unfold W47
  have hsz := size_len s
  generalize hr : textV (elemsS (s.data.toList.drop 1) [] 1) = res
  have hone : ∀ {k : Nat} {b : UInt8}, s.data.toList[k]? = some b → s.extract k (k + 1) = bs [b] := fun hb => ext_one hb
  generalize hL : s.data.toList = L at *
  refine ⟨fun out i h' m => ∃ (j : Nat) (acc : List UInt8), out = bs acc ∧ i = j ∧ m = s.size - j ∧ 1 ≤ j ∧ j ≤ s.size ∧ acc.length ≤ j ∧ h' = h ∧ res = textV (elemsS (L.drop j) acc j),
    ⟨_, 1, [], rfl, rfl, rfl, by omega, by omega, by simp, rfl, hr.symm⟩, ?_⟩
  rintro - out i h6 m ⟨j, acc, rfl, rfl, rfl, hj1, hj, hacc, rfl, he⟩
  refine sB_intro (fun hlt => ?_) (fun hge => ?_)
  · have hlt' : j < s.size := by have := of_decide_eq_true hlt; omega
    obtain ⟨b, hb, hby⟩ := byte_get hlt'
    rw [hL] at hb
    have hdrop := drop_cons hb
    have hin : (0 : Int) ≤ (j : Int) ∧ (j : Int) < (ByteArray.size s : Nat) := ⟨by omega, by omega⟩
    have hw : IntKind.wrap .i64 ((j : Int) + 1) = ((j + 1 : Nat) : Int) := by rw [w64 (by omega) (by omega)]; omega
    refine ⟨hin, ?_⟩
    -- the last part of the loop's body
    have tail : b ≠ 34 → (b = 92 → elemsS (L.drop j) acc j = none) → T47 s (bs acc) j (fun out i h' m => ∃ (j : Nat) (acc : List UInt8), out = bs acc ∧ i = j ∧ m = s.size - j ∧ 1 ≤ j ∧ j ≤ s.size ∧ acc.length ≤ j ∧ h' = h6 ∧ res = textV (elemsS (L.drop j) acc j))
        (s.size - j) h6 (fun v h' => v = res ∧ h' = h6) := by
      intro n34 hbs
      unfold T47
      rw [hw, show Int.toNat (j : Int) = j from rfl, show Int.toNat ((j + 1 : Nat) : Int) = j + 1 from rfl, hby]
      refine sB_intro (fun h92 => ?_) (fun h92 => ⟨hin, sB_intro (fun h32 => ?_) fun h32 => ⟨hin, sB_intro (fun h126 => ?_) fun h126 => ?_⟩⟩)
      · refine ⟨?_, rfl⟩
        rw [he, hbs (u8_eq (c := 92) h92)]; rfl
      · refine ⟨?_, rfl⟩
        rw [he, hdrop, elems_bad n34 (u8_ne (c := 92) h92) (.inl (by have := of_decide_eq_true h32; omega))]; rfl
      · refine ⟨?_, rfl⟩
        rw [he, hdrop, elems_bad n34 (u8_ne (c := 92) h92) (.inr (by have := of_decide_eq_true h126; omega))]; rfl
      · refine ⟨⟨by omega, by omega, by omega⟩, ?_⟩
        rw [hone hb, bs_size, bs_size, bs_app, List.length_singleton]
        refine ⟨by omega, _, ?_, j + 1, acc ++ [b], rfl, rfl, rfl, by omega, by omega, by rw [List.length_append, List.length_singleton]; omega, rfl, ?_⟩
        · omega
        · have := of_decide_eq_false h32
          have := of_decide_eq_false h126
          rw [he, hdrop, elems_ok n34 (u8_ne (c := 92) h92) (by omega)]
    unfold T47 at tail
    rw [hw, show Int.toNat (j : Int) = j from rfl, show Int.toNat ((j + 1 : Nat) : Int) = j + 1 from rfl, hby] at tail ⊢
    refine sB_intro (fun hq => ?_) (fun hq => ⟨hin, ?_⟩)
    · refine ⟨?_, rfl⟩
      rw [he, hdrop, u8_eq (c := 34) hq, elems_quote]; rfl
    · have n34 : b ≠ 34 := u8_ne (c := 34) hq
      refine sB_intro (fun hbs => ?_) (fun hbs => ?_)
      · have e92 : b = 92 := u8_eq (c := 92) hbs
        refine sB_intro (fun hl2 => ?_) (fun hl2 => ?_)
        · have hl2' : j + 1 < s.size := by have := of_decide_eq_true hl2; omega
          obtain ⟨y, hy, hby2⟩ := byte_get hl2'
          rw [hL] at hy
          have hdrop2 := drop_cons hy
          have hin2 : (0 : Int) ≤ ((j + 1 : Nat) : Int) ∧ ((j + 1 : Nat) : Int) < (ByteArray.size s : Nat) := ⟨by omega, by omega⟩
          have hw2 : IntKind.wrap .i64 (((j + 1 : Nat) : Int) + 1) = ((j + 2 : Nat) : Int) := by rw [w64 (by omega) (by omega)]; omega
          rw [hw2, show Int.toNat ((j + 2 : Nat) : Int) = j + 1 + 1 from rfl, hby2]
          refine ⟨hin2, ?_⟩
          have hgo : (y = 34 ∨ y = 92) → ((0 : Int) ≤ ((j + 1 : Nat) : Int) ∧ ((j + 1 : Nat) : Int) ≤ ((j + 2 : Nat) : Int) ∧ ((j + 2 : Nat) : Int) ≤ (ByteArray.size s : Nat)) ∧
              ((ByteArray.size (bs acc)) + (ByteArray.size (s.extract (j + 1) (j + 1 + 1))) : Nat) ≤ 9223372036854775807 ∧ ∃ m7, m7 < s.size - j ∧
                ∃ (j' : Nat) (acc' : List UInt8), bs acc ++ s.extract (j + 1) (j + 1 + 1) = bs acc' ∧ ((j + 2 : Nat) : Int) = j' ∧ m7 = s.size - j' ∧ 1 ≤ j' ∧ j' ≤ s.size ∧ acc'.length ≤ j' ∧ h6 = h6 ∧ res = textV (elemsS (L.drop j') acc' j') := by
            intro hy2
            rw [hone hy, bs_size, bs_size, bs_app, List.length_singleton]
            refine ⟨⟨by omega, by omega, by omega⟩, by omega, _, ?_, j + 2, acc ++ [y], rfl, rfl, rfl, by omega, by omega, by rw [List.length_append, List.length_singleton]; omega, rfl, ?_⟩
            · omega
            · rw [he, hdrop, hdrop2, e92, elems_esc hy2]
          refine sB_intro (fun h34 => ?_) (fun h34 => ⟨hin2, sB_intro (fun h92 => ?_) (fun h92 => ⟨hin, ?_⟩)⟩)
          · exact hgo (.inl (u8_eq (c := 34) h34))
          · exact hgo (.inr (u8_eq (c := 92) h92))
          · refine tail n34 fun _ => ?_
            rw [hdrop, hdrop2, e92]
            exact elems_escx (by rintro (e | e)
                                 · exact u8_ne (c := 34) h34 e
                                 · exact u8_ne (c := 92) h92 e)
        · refine ⟨hin, tail n34 fun _ => ?_⟩
          rw [hdrop, e92, drop_end (by have := of_decide_eq_false hl2; omega)]
          exact elems_esc0
      · exact ⟨hin, tail n34 fun e => absurd e (u8_ne (c := 92) hbs)⟩
  · have hge' : L.length ≤ j := by have := of_decide_eq_false hge; omega
    refine ⟨?_, rfl⟩
    rw [he, drop_end hge']; rfl
end Go.VC
