import Derived.Test.YtpelfojmncfonaaLexO
import Derived.Test.YtpelfojmncfonaaLexBuild
set_option linter.unusedVariables false
set_option linter.unusedSimpArgs false

namespace Go.LexS
open Go.VC
set_option maxRecDepth 100000
def esc (c : UInt8) : List UInt8 := if c = 34 ∨ c = 92 then [92, c] else [c]
def quoteS (l : List UInt8) : List UInt8 := 34 :: (l.flatMap esc ++ [34])
theorem esc_len (l : List UInt8) : (l.flatMap esc).length ≤ 2 * l.length := by
  induction l with
  | nil => simp
  | cons a l ih =>
    rw [List.flatMap_cons, List.length_append, List.length_cons]
    have : (esc a).length ≤ 2 := by unfold esc; split <;> simp
    omega
theorem elems_esc_all : ∀ (L acc : List UInt8) (k : Nat) (r : List UInt8), (∀ c ∈ L, 32 ≤ c.toNat ∧ c.toNat ≤ 126) → elemsS (L.flatMap esc ++ 34 :: r) acc k = some (acc ++ L, k + (L.flatMap esc).length + 1)
  | [], acc, k, r, _ => by rw [List.flatMap_nil, List.nil_append, elems_quote, List.append_nil]; rfl
  | c :: L, acc, k, r, h => by
    have ih := elems_esc_all L (acc ++ [c])
    have hL : ∀ c ∈ L, 32 ≤ c.toNat ∧ c.toNat ≤ 126 := fun x hx => h x (List.mem_cons_of_mem _ hx)
    have hc := h c (List.mem_cons_self)
    rw [List.flatMap_cons, List.append_assoc, List.length_append]
    by_cases he : c = 34 ∨ c = 92
    · rw [show esc c = [92, c] from by unfold esc; rw [if_pos he], List.cons_append, List.cons_append, List.nil_append, elems_esc he, ih (k + 2) r hL, List.append_assoc]
      simp only [List.length_cons, List.length_nil, List.cons_append, List.nil_append]
      congr 2; omega
    · have h34 : c ≠ 34 := fun e => he (.inl e)
      have h92 : c ≠ 92 := fun e => he (.inr e)
      rw [show esc c = [c] from by unfold esc; rw [if_neg he], List.cons_append, List.nil_append, elems_ok h34 h92 (by omega), ih (k + 1) r hL, List.append_assoc]
      simp only [List.length_cons, List.length_nil, List.cons_append, List.nil_append]
      congr 2; omega
theorem toks_quote (L : List UInt8) (hL : ∀ c ∈ L, 32 ≤ c.toNat ∧ c.toNat ≤ 126) (hl : L.length ≤ 40) : toks 0 (quoteS L) = .ok [(⟨3, L, 0⟩, 0)] := by
  have hsk : skipC false (quoteS L) = 0 := by
    unfold quoteS
    simp only [skipC, show sp 34 = false from rfl, Bool.false_eq_true, if_false]
    rw [if_neg (by rintro ⟨e, _⟩; exact absurd e (by decide))]
  have htk : tokenS (quoteS L) = .ok (⟨3, L, 0⟩, 1 + (L.flatMap esc).length + 1) := by
    unfold quoteS
    rw [tokenS_cons, if_neg (by decide), if_neg (by decide), if_pos rfl]
    unfold textS
    rw [List.drop_one, List.tail_cons, elems_esc_all L [] 1 [] hL, List.nil_append]
    unfold textR
    simp only []
    rw [if_neg (by omega)]
  rw [toks_cons (c := 34) (cs := L.flatMap esc ++ [34]) (by rw [hsk]; rfl)]
  rw [show (34 : UInt8) :: (L.flatMap esc ++ [34]) = quoteS L from rfl, htk, hsk]
  simp only []
  rw [toks_nil]
  have e : (L.flatMap esc ++ [34]).drop (1 + (L.flatMap esc).length + 1 - 1) = [] := List.drop_eq_nil_of_le (by rw [List.length_append, List.length_singleton]; omega)
  rw [e]
  rfl
end Go.LexS
namespace Go.VC
open Go.Proofs Go.LexS Go.RowKit
set_option maxRecDepth 100000

/-- block b is a strings.Builder that holds l -/
def Bld (h : Heap) (b : Nat) (l : List UInt8) : Prop :=
  ∃ (p : Option Addr) (s : Sl), Own h b [.pointer p, .slice s.a s.n s.c] 58 ∧ OwnS h (b + 1) 5 1 s (byteC l) ∧ (p = none ∨ p = some ⟨b, 0, none⟩)
/-- a contract of the kit's, over worlds with this heap -/
theorem Fn.of_calls {P : Program} {f : FuncId} {args : Array Value} {h : Heap} {R : Value → Heap → Prop} (hc : ∀ w : World, w.heap = h → Calls P f args w fun e w' => ∃ v, e = .returned v ∧ R v w'.heap ∧ w'.os = w.os ∧ w'.tape = w.tape ∧ w'.output = w.output) : Fn P f args h R := hc
theorem copyCheck_c (b : Nat) (l : List UInt8) (h : Heap) (hb : Bld h b l) : Fn Try.prog 49 #[.pointer (some ⟨b, 0, none⟩)] h fun v h' => v = .tuple ⟨[]⟩ ∧ But b h h' ∧
    ∃ s : Sl, Own h' b [.pointer (some ⟨b, 0, none⟩), .slice s.a s.n s.c] 58 ∧ OwnS h' (b + 1) 5 1 s (byteC l) := by
  obtain ⟨p, s, ho, hs, hp⟩ := hb
  intro w hw
  rcases hp with rfl | rfl
  · have h0 : w.cell? ⟨b, 0, none⟩ = some (.pointer none) := by rw [hc_cell, hw]; exact ho.hc 0
    have hsh : w.shape? b = some (58, 2) := by
      unfold World.shape?; rw [hw, ho]; rfl
    have hfz : w.frozen? ⟨b, 0, none⟩ = false := by
      have := ho.fz 0
      rw [← hw] at this; exact this
    refine (Try.copyCheck_fresh b w h0 hsh hfz).mono ?_
    rintro e w' ⟨rfl, rfl⟩
    have e1 : (w.setCell ⟨b, 0, none⟩ (.pointer (some ⟨b, 0, none⟩))).heap = hset h ⟨b, 0, none⟩ (.pointer (some ⟨b, 0, none⟩)) := by rw [← hw]; rfl
    refine ⟨_, rfl, ⟨rfl, ?_, s, ?_, ?_⟩, rfl, rfl, rfl⟩
    · rw [e1]; exact But.hset
    · rw [e1]; exact ho.hset 0 _
    · rw [e1]; exact hs.stp (b := b) (by omega) (Stp.of_but But.hset)
  · have h0 : w.cell? ⟨b, 0, none⟩ = some (.pointer (some ⟨b, 0, none⟩)) := by rw [hc_cell, hw]; exact ho.hc 0
    refine (Try.copyCheck_used b w h0).mono ?_
    rintro e w' ⟨rfl, rfl⟩
    rw [hw]
    exact ⟨_, rfl, ⟨rfl, But.refl _ _, s, ho, hs⟩, rfl, rfl, rfl⟩
theorem writeByte_c (b : Nat) (l : List UInt8) (c : UInt8) (h : Heap) (hb : Bld h b l) (hl : l.length ≤ 1000000) : Fn Try.prog 38 #[.pointer (some ⟨b, 0, none⟩), .int .u8 c.toNat] h fun v h' => Bld h' b (l ++ [c]) ∧ Kp b h h' := by
  apply vc38; unfold W38
  refine (copyCheck_c b l h hb).mono ?_
  rintro v h2 ⟨rfl, hB2, s, ho2, hs2⟩
  have hlen : s.n = l.length := by have := hs2.len; simp [byteC] at this; omega
  refine ⟨rfl, s, ho2.hc 1, ?_⟩
  have hlt := ho2.lt
  refine App_one app56 hs2 (by omega) rfl rfl (by omega) (by unfold maxLen; omega) ?_
  intro r h6 hrn hor hkp _
  have ho6 := hkp.own ho2 (by omega)
  refine ⟨ho6.okAt (by simp), ?_⟩
  intro h7 e7
  have hB7 : But b h6 h7 := by subst e7; exact But.hputs (a := ⟨b, 1, none⟩) _ _ _
  have ho7 := Own.hputs [.slice r.a r.n r.c] 0 h6 _ ho6 (o := 1) (by simp)
  rw [← e7] at ho7
  refine ⟨⟨some ⟨b, 0, none⟩, r, ho7, ?_, .inr rfl⟩, ((Kp.but hB2 (Nat.le_refl _)).trans (hkp.mono (by omega))).trans (Kp.but hB7 (Nat.le_refl _))⟩
  have := hor.stp (b := b) (by omega) (Stp.of_but hB7)
  rw [byteC, List.map_append]; exact this
theorem bldString_c (b : Nat) (l : List UInt8) (h : Heap) (hb : Bld h b l) : Fn Try.prog 39 #[.pointer (some ⟨b, 0, none⟩)] h fun v h' => v = .string (bs l) ∧ Kp b h h' := by
  obtain ⟨p, s, ho, hs, hp⟩ := hb
  intro w hw
  have hlen : s.n = (Lib.byteCells l).length := by have := hs.len; simp [byteC] at this; rw [Lib.byteCells_length]; omega
  have hAt : ∀ q, p = q → Lib.BuilderAt 58 5 b b (.pointer q) (Lib.byteCells l) w := by
    rintro q rfl
    refine ⟨Nat.le_refl _, .slice s.a s.n s.c, by rw [hw]; exact ho, ?_, ?_⟩
    · have := OwnS.row (w := w) (by rw [hw]; exact hs.mono (b' := b) (by omega))
      rw [← hlen]; exact this
    · rcases hs.2 with ⟨ha, _⟩ | ⟨g, cur, ha, hg, _⟩
      · rw [ha]; simp [Value.ownBlock]
      · rw [ha]; simp only [Value.ownBlock]; intro e; cases e; omega
  have hI : Lib.IsBuilder 58 5 b b (Lib.byteCells l) w := by
    rcases hp with hp | hp
    · exact .inl (hAt _ hp)
    · exact .inr (hAt _ hp)
  refine (Try.Builder_String_any b b l w hI (by rw [hw]; exact Nat.le_of_lt ho.lt)).mono ?_
  rintro e w' ⟨rfl, hbel⟩
  refine ⟨_, rfl, ⟨rfl, ?_⟩, hbel.os, hbel.tape, hbel.output⟩
  rw [← hw]
  exact ⟨hbel.size, hbel.block⟩

theorem quote_c (s : ByteArray) (hs : s.size ≤ 100000) (h : Heap) : Fn Try.prog 21 #[.string s] h fun v h' => v = .string (bs (quoteS s.data.toList)) ∧ Ext h h' := by
  apply vc21; unfold W21
  have hsz := size_len s
  intro h1 e1
  have hE1 : Kp h.size h h1 := by subst e1; exact (Ext.push _ _).kp (Nat.le_refl _)
  have hB1 : Bld h1 h.size [] := by
    subst e1
    exact ⟨none, ⟨none, 0, 0⟩, Own.push, OwnS.nil, .inl rfl⟩
  refine (writeByte_c h.size [] 34 h1 hB1 (by simp)).mono ?_
  rintro v h4 ⟨hB4, hk4⟩
  refine ⟨v, rfl, ?_⟩
  generalize hL : s.data.toList = L at *
  refine ⟨fun x h' m => ∃ i : Nat, x = i ∧ m = s.size - i ∧ i ≤ s.size ∧ Kp h.size h h' ∧ Bld h' h.size (34 :: (L.take i).flatMap esc), ⟨_, 0, rfl, rfl, by omega, hE1.trans hk4, hB4⟩, ?_⟩
  rintro - x h9 m ⟨i, rfl, rfl, hi, hk9, hB9⟩
  have hacc : (34 :: (L.take i).flatMap esc).length ≤ 200002 := by
    have := esc_len (L.take i)
    rw [List.length_take] at this
    rw [List.length_cons]; omega
  refine sB_intro (fun hlt => ?_) (fun hge => ?_)
  · have hlt' : i < s.size := by have := of_decide_eq_true hlt; omega
    obtain ⟨b, hb, hby⟩ := byte_get hlt'
    rw [hL] at hb
    have hin : (0 : Int) ≤ (i : Int) ∧ (i : Int) < (ByteArray.size s : Nat) := ⟨by omega, by omega⟩
    have htk : (L.take (i + 1)).flatMap esc = (L.take i).flatMap esc ++ esc b := by
      rw [List.take_add_one, hb, List.flatMap_append]; simp
    have hw : IntKind.wrap .i64 ((i : Int) + 1) = ((i + 1 : Nat) : Int) := by rw [w64 (by omega) (by omega)]; omega
    rw [show Int.toNat (i : Int) = i from rfl, hby, hw]
    have two : (b = 34 ∨ b = 92) → ∀ (Q : Value → Heap → Prop), (∀ v h', Bld h' h.size (34 :: (L.take (i + 1)).flatMap esc) → Kp h.size h h' → Q v h') →
        Fn Try.prog 38 #[.pointer (some ⟨h.size, 0, none⟩), .int .u8 92] h9 (fun v10 h12 => ∃ x11 : Value, v10 = x11 ∧ ((0 ≤ (i : Int) ∧ (i : Int) < (ByteArray.size s : Nat)) ∧
          (Fn Try.prog 38 #[.pointer (some ⟨h.size, 0, none⟩), .int .u8 b.toNat] h12 Q))) := by
      intro hbb Q hQ
      refine (writeByte_c h.size _ 92 h9 hB9 (by omega)).mono ?_
      rintro v h12 ⟨hB12, hk12⟩
      refine ⟨v, rfl, hin, ?_⟩
      refine (writeByte_c h.size _ b h12 hB12 (by rw [List.length_append, List.length_singleton]; omega)).mono ?_
      rintro v h15 ⟨hB15, hk15⟩
      refine hQ v h15 ?_ ((hk9.trans hk12).trans hk15)
      rw [htk, show esc b = [92, b] from by unfold esc; rw [if_pos hbb]]
      simpa using hB15
    refine ⟨hin, sB_intro (fun h34 => ?_) (fun h34 => ⟨hin, sB_intro (fun h92 => ?_) (fun h92 => ⟨hin, ?_⟩)⟩)⟩
    · refine two (.inl (u8_eq (c := 34) h34)) _ fun v h' hB hk => ⟨v, rfl, _, ?_, i + 1, rfl, rfl, by omega, hk, hB⟩
      omega
    · refine two (.inr (u8_eq (c := 92) h92)) _ fun v h' hB hk => ⟨v, rfl, _, ?_, i + 1, rfl, rfl, by omega, hk, hB⟩
      omega
    · refine (writeByte_c h.size _ b h9 hB9 (by omega)).mono ?_
      rintro v h26 ⟨hB26, hk26⟩
      refine ⟨v, rfl, _, ?_, i + 1, rfl, rfl, by omega, hk9.trans hk26, ?_⟩
      · omega
      · rw [htk, show esc b = [b] from by unfold esc; rw [if_neg]; rintro (e | e)
                                          · exact u8_ne (c := 34) h34 e
                                          · exact u8_ne (c := 92) h92 e]
        simpa using hB26
  · have : i = L.length := by have := of_decide_eq_false hge; omega
    subst this
    rw [List.take_length] at hB9 hacc
    refine (writeByte_c h.size _ 34 h9 hB9 (by omega)).mono ?_
    rintro v h30 ⟨hB30, hk30⟩
    refine ⟨v, rfl, ?_⟩
    refine (bldString_c h.size _ h30 hB30).mono ?_
    rintro v h33 ⟨rfl, hk33⟩
    refine ⟨_, rfl, ?_, ((hk9.trans hk30).trans hk33).ext⟩
    unfold quoteS; rfl

theorem refquote_c (s : ByteArray) (hs : s.size ≤ 100000) (h : Heap) : Fn Try.prog 22 #[.string s] h fun v h' => v = .string (bs (quoteS s.data.toList)) ∧ h' = h := by
  apply vc22; unfold W22
  have hsz := size_len s
  have hone : ∀ {k : Nat} {b : UInt8}, s.data.toList[k]? = some b → s.extract k (k + 1) = bs [b] := fun hb => ext_one hb
  generalize hL : s.data.toList = L at *
  refine ⟨fun out x h' m => ∃ i : Nat, out = bs (34 :: (L.take i).flatMap esc) ∧ x = i ∧ m = s.size - i ∧ i ≤ s.size ∧ h' = h, ⟨_, 0, rfl, rfl, rfl, by omega, rfl⟩, ?_⟩
  rintro - out x h6 m ⟨i, rfl, rfl, rfl, hi, rfl⟩
  have hacc : (34 :: (L.take i).flatMap esc).length ≤ 200002 := by
    have := esc_len (L.take i)
    rw [List.length_take] at this
    rw [List.length_cons]; omega
  have hsz1 : (bs (34 :: (L.take i).flatMap esc)).size ≤ 200002 := by rw [bs_size]; exact hacc
  have e92 : (⟨#[92]⟩ : ByteArray) = bs [92] := rfl
  have e34 : (⟨#[34]⟩ : ByteArray) = bs [34] := rfl
  refine sB_intro (fun hlt => ?_) (fun hge => ?_)
  · have hlt' : i < s.size := by have := of_decide_eq_true hlt; omega
    obtain ⟨b, hb, hby⟩ := byte_get hlt'
    rw [hL] at hb
    have hin : (0 : Int) ≤ (i : Int) ∧ (i : Int) < (ByteArray.size s : Nat) := ⟨by omega, by omega⟩
    have htk : (L.take (i + 1)).flatMap esc = (L.take i).flatMap esc ++ esc b := by
      rw [List.take_add_one, hb, List.flatMap_append]; simp
    have hw : IntKind.wrap .i64 ((i : Int) + 1) = ((i + 1 : Nat) : Int) := by rw [w64 (by omega) (by omega)]; omega
    rw [hw, show Int.toNat (i : Int) = i from rfl, show Int.toNat ((i + 1 : Nat) : Int) = i + 1 from rfl, hby, hone hb, e92, bs_app, bs_app, bs_app, bs_size, bs_size, bs_size, bs_size]
    have hin2 : (0 : Int) ≤ (i : Int) ∧ (i : Int) ≤ ((i + 1 : Nat) : Int) ∧ ((i + 1 : Nat) : Int) ≤ (ByteArray.size s : Nat) := ⟨by omega, by omega, by omega⟩
    have l1 : ([92] : List UInt8).length = 1 := rfl
    have l2 : ([b] : List UInt8).length = 1 := rfl
    have l3 : (34 :: (L.take i).flatMap esc ++ [92]).length ≤ 200003 := by rw [List.length_append, l1]; omega
    have two : (b = 34 ∨ b = 92) → ∃ m7, m7 < s.size - i ∧ ∃ i' : Nat, bs (34 :: (L.take i).flatMap esc ++ [92] ++ [b]) = bs (34 :: (L.take i').flatMap esc) ∧ ((i + 1 : Nat) : Int) = i' ∧ m7 = s.size - i' ∧ i' ≤ s.size ∧ h6 = h6 := by
      intro hbb
      refine ⟨_, ?_, i + 1, ?_, rfl, rfl, by omega, rfl⟩
      · omega
      · rw [htk, show esc b = [92, b] from by unfold esc; rw [if_pos hbb]]; simp
    refine ⟨hin, sB_intro (fun h34 => ⟨by omega, hin2, by omega, two (.inl (u8_eq (c := 34) h34))⟩) (fun h34 => ⟨hin, sB_intro (fun h92 => ⟨by omega, hin2, by omega, two (.inr (u8_eq (c := 92) h92))⟩) (fun h92 => ⟨hin2, by omega, _, ?_, i + 1, ?_, rfl, rfl, by omega, rfl⟩)⟩)⟩
    · omega
    · rw [htk, show esc b = [b] from by unfold esc; rw [if_neg]; rintro (e | e)
                                        · exact u8_ne (c := 34) h34 e
                                        · exact u8_ne (c := 92) h92 e]
      simp
  · have : i = L.length := by have := of_decide_eq_false hge; omega
    subst this
    rw [List.take_length] at hsz1 ⊢
    refine ⟨by rw [show (⟨#[34]⟩ : ByteArray).size = 1 from rfl]; omega, ?_, rfl⟩
    rw [e34, bs_app]; rfl
end Go.VC
