import Derived.Test.YtpelfojmncfonaaLexB
import Derived.Test.YtpelfojmncfonaaLexVc2
import Derived.Test.YtpelfojmncfonaaVcLib2
set_option linter.unusedVariables false
set_option linter.unusedSimpArgs false

namespace Go.VC
open Go.Proofs Go.LexS
set_option maxRecDepth 100000

def bs (l : List UInt8) : ByteArray := ⟨⟨l⟩⟩
theorem bs_of (s : ByteArray) : bs s.data.toList = s := rfl
theorem ext_bs (s : ByteArray) (a b : Nat) : s.extract a b = bs ((s.data.toList.drop a).take (b - a)) := by
  rw [← bs_of (s.extract a b), ext_data]
theorem bs_size (l : List UInt8) : (bs l).size = l.length := rfl
theorem bs_list (l : List UInt8) : (bs l).data.toList = l := rfl
def tokC (t : T) (f : Nat) : List Value := [.int .i64 t.kind, .string (bs t.text), .int .i64 t.val, .int .i64 f]
theorem drop_cons {L : List UInt8} {j : Nat} {b : UInt8} (h : L[j]? = some b) : L.drop j = b :: L.drop (j + 1) := by
  obtain ⟨hl, he⟩ := List.getElem?_eq_some_iff.1 h
  rw [List.drop_eq_getElem_cons hl, he]
theorem drop_end {L : List UInt8} {j : Nat} (h : L.length ≤ j) : L.drop j = [] := List.drop_eq_nil_of_le h
theorem take_more {L : List UInt8} {k j : Nat} {b : UInt8} (h : L[j]? = some b) (hk : k ≤ j) : (L.drop k).take (j + 1 - k) = (L.drop k).take (j - k) ++ [b] := by
  rw [show j + 1 - k = (j - k) + 1 by omega, List.take_add_one, List.getElem?_drop, show k + (j - k) = j by omega, h]; rfl

/-- take: the longest run of bytes of a kind -/
theorem take_c (g : FuncId) (p : UInt8 → Bool) (hcal : callable Try.prog g = true)
    (hg : ∀ (b : UInt8) (h : Heap), Fn Try.prog g #[.int .u8 b.toNat] h fun v h' => v = .bool (p b) ∧ h' = h)
    (c : Nat) (s : ByteArray) (k : Nat) (h : Heap) (ho : Sc h c s k) (hk : k ≤ s.size) (hs : s.size ≤ 100000) :
    Fn Try.prog 44 #[.pointer (some ⟨c, 0, none⟩), .func (.func g) #[] #[]] h fun v h' => v = .string (bs ((s.data.toList.drop k).takeWhile p)) ∧
      Sc h' c s (k + ((s.data.toList.drop k).takeWhile p).length) ∧ But c h h' := by
  apply vc44; unfold W44
  have hsz := size_len s
  generalize hL : s.data.toList = L at *
  refine ⟨k, ho.k, fun h' m => ∃ j : Nat, m = s.size - j ∧ k ≤ j ∧ j ≤ s.size ∧ Sc h' c s j ∧ But c h h' ∧ (L.drop k).takeWhile p = (L.drop k).take (j - k) ++ (L.drop j).takeWhile p, ⟨_, k, rfl, Nat.le_refl _, hk, ho, But.refl _ _, by simp⟩, ?_⟩
  rintro - h5 m ⟨j, rfl, hkj, hj, ho5, hb5, he⟩
  have fin : (L.drop j).takeWhile p = [] → (((0 : Int) ≤ ((k : Nat) : Int) ∧ ((k : Nat) : Int) ≤ ((j : Nat) : Int) ∧ ((j : Nat) : Int) ≤ (ByteArray.size s : Nat)) ∧
     (Value.string (ByteArray.extract s (Int.toNat (k : Int)) (Int.toNat (j : Int))) = .string (bs ((L.drop k).takeWhile p)) ∧ Sc h5 c s (k + ((L.drop k).takeWhile p).length) ∧ But c h h5)) := by
    intro hn
    refine ⟨⟨by omega, by omega, by omega⟩, ?_⟩
    rw [he, hn, List.append_nil]
    have hlen : ((L.drop k).take (j - k)).length = j - k := by rw [List.length_take, List.length_drop]; omega
    rw [hlen, show k + (j - k) = j by omega]
    refine ⟨?_, ho5, hb5⟩
    rw [ext_bs, hL]; rfl
  refine ⟨j, ho5.k, s, ho5.s, sB_intro (fun hlt => ?_) (fun hge => ?_)⟩
  · have hlt' : j < s.size := by simpa using hlt
    obtain ⟨b, hb, hby⟩ := byte_get hlt'
    rw [hL] at hb
    refine ⟨s, ho5.s, j, ho5.k, ⟨by omega, by omega⟩, ?_⟩
    rw [hcal, cond_true, show Int.toNat (j : Int) = j from rfl, hby]
    refine (hg b h5).mono ?_
    rintro v h12 ⟨rfl, rfl⟩
    refine ⟨_, rfl, Ext.refl _, sB_intro (fun hp => ?_) (fun hp => ?_)⟩
    · refine ⟨j, ho5.k, ho5.ok, ?_⟩
      intro h14 e14
      have hw1 : IntKind.wrap .i64 ((j : Int) + 1) = ((j + 1 : Nat) : Int) := by rw [w64 (by omega) (by omega)]; omega
      rw [hw1] at e14
      obtain ⟨p1, p2⟩ := ho5.put e14
      refine ⟨_, ?_, j + 1, rfl, by omega, by omega, p1, hb5.trans p2, ?_⟩
      · omega
      · rw [he, take_more hb hkj, drop_cons hb, List.takeWhile_cons, hp]; simp
    · exact ⟨s, ho5.s, j, ho5.k, fin (by rw [drop_cons hb, List.takeWhile_cons, hp]; rfl)⟩
  · have hge' : s.size ≤ j := by simpa using hge
    exact ⟨s, ho5.s, j, ho5.k, fin (by rw [drop_end (by omega)]; rfl)⟩

/-- the token in the block of the call's own is written and read again -/
theorem fin4 {e : TypeId} {h : Heap} {b : Nat} {xs : List Value} {k v f : Int} {t : ByteArray} (ho : Own h b xs e) (hl : xs.length = 4) {F : Int → ByteArray → Int → Int → Heap → Prop}
    (H : ∀ h', But b h h' → Own h' b [.int .i64 k, .string t, .int .i64 v, .int .i64 f] e → F k t v f h') :
    okAt h ⟨b, 0, none⟩ 4 ∧ ∀ h5 : Heap, h5 = hputs h ⟨b, 0, none⟩ 0 [.int .i64 k, .string t, .int .i64 v, .int .i64 f] →
      (∃ x6 : Int, ∃ x7 : ByteArray, ∃ x8 : Int, ∃ x9 : Int, atC h5 ⟨b, 0, none⟩ [.int .i64 x6, .string x7, .int .i64 x8, .int .i64 x9] ∧ F x6 x7 x8 x9 h5) := by
  refine ⟨ho.okAt (by omega), ?_⟩
  rintro h5 rfl
  match xs, hl with
  | [a, b', c, d], _ =>
    have h2 : Own (hputs h ⟨b, 0, none⟩ 0 [.int .i64 k, .string t, .int .i64 v, .int .i64 f]) b [.int .i64 k, .string t, .int .i64 v, .int .i64 f] e :=
      Own.hputs [.int .i64 k, .string t, .int .i64 v, .int .i64 f] 0 h _ ho (by simp)
    exact ⟨k, t, v, f, h2.atC (fun i v hi => by rw [Nat.zero_add]; exact hi), H _ (But.hputs _ _ _) h2⟩

/-- what a method of the scanner answers -/
def Ans (c : Nat) (s : ByteArray) (k : Nat) (h : Heap) (r : Except Int (T × Nat)) (v : Value) (h' : Heap) : Prop :=
  Stp c h h' ∧ match r with
  | .error e => ∃ (x : Int) (t : ByteArray) (y z : Int), v = .tuple ⟨[.agg ⟨[.int .i64 x, .string t, .int .i64 y, .int .i64 z]⟩, .int .i64 e]⟩
  | .ok (t, n) => v = .tuple ⟨[.agg ⟨tokC t 0⟩, .int .i64 0]⟩ ∧ Sc h' c s (k + n)
theorem Sc.ext {h h' : Heap} {c : Nat} {s : ByteArray} {k : Nat} (hs : Sc h c s k) (hE : Ext h h') : Sc h' c s k := Own.ext hs hE
theorem Sc.lt {h : Heap} {c : Nat} {s : ByteArray} {k : Nat} (hs : Sc h c s k) : c < h.size := Own.lt hs
theorem Sc.but {h h' : Heap} {c b : Nat} {s : ByteArray} {k : Nat} (hs : Sc h c s k) (hb : But b h h') (hne : c ≠ b) : Sc h' c s k := hb.own hs hne
theorem Stp.but_new {c b : Nat} {h h1 h' : Heap} (hs : Stp c h h1) (hb : But b h1 h') (hn : h.size ≤ b) : Stp c h h' :=
  ⟨by rw [hb.1]; exact hs.1, fun k hk hkc => (hb.2 k (by omega)).trans (hs.2 k hk hkc)⟩

theorem name_c (c : Nat) (s : ByteArray) (k : Nat) (h : Heap) (ho : Sc h c s k) (hk : k ≤ s.size) (hs : s.size ≤ 100000) :
    Fn Try.prog 26 #[.pointer (some ⟨c, 0, none⟩)] h (Ans c s k h (nameS (s.data.toList.drop k))) := by
  apply vc26; unfold W26
  intro h1 e1
  have hE : Ext h h1 := by subst e1; exact Ext.push _ _
  have hne : c ≠ h.size := Nat.ne_of_lt ho.lt
  have hl1 : Own h1 h.size [.int .i64 0, .string ⟨#[]⟩, .int .i64 0, .int .i64 0] 34 := by subst e1; exact Own.push
  refine (take_c 33 inn rfl (fun b h => by exact inner_c b.toNat h) c s k h1 (ho.ext hE) hk hs).mono ?_
  rintro v h4 ⟨rfl, p1, p2⟩
  have hl4 := p2.own hl1 (Ne.symm hne)
  have hst : Stp c h h4 := (Stp.of_ext hE).trans (Stp.of_but p2)
  generalize hw : (s.data.toList.drop k).takeWhile inn = w at *
  refine ⟨_, rfl, sB_intro (fun hgt => ?_) (fun hgt => ?_)⟩
  · rw [bs_size] at hgt
    refine fin4 hl4 rfl fun h' hb ho' => ?_
    refine ⟨hst.but_new hb (Nat.le_refl _), ?_⟩
    have : 16 < w.length := by have := of_decide_eq_true hgt; omega
    simp only [nameS, hw, if_pos this]
    exact ⟨_, _, _, _, rfl⟩
  · rw [bs_size] at hgt
    refine fin4 hl4 rfl fun h' hb ho' => ?_
    refine ⟨hst.but_new hb (Nat.le_refl _), ?_⟩
    have : ¬ 16 < w.length := by have := of_decide_eq_false hgt; omega
    simp only [nameS, hw, if_neg this]
    exact ⟨rfl, p1.but hb hne⟩
end Go.VC
