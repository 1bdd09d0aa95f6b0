/- Contracts: bytes.Repeat of one byte, the line of an interaction (chart). -/
import Derived.Test.YtcaahhppapnbhaaDoorChD
import Derived.Test.YtcaahhppapnbhaaDoorVcCopy
import Derived.Test.YtcaahhppapnbhaaDoorTrydShelf
set_option linter.unusedVariables false
set_option linter.unusedSimpArgs false

namespace Go.VC
open Go.Proofs Go.LexS Go.ChS
set_option maxRecDepth 100000

theorem i5 : (Tryd.prog.info? 5).map (·.size) = some 1 := by kernel_rfl
theorem noZero60 (n : Nat) (hn : n ≤ 281474976710656) (h : Heap) : ExtW Tryd.prog 60 #[.int .i64 n] h fun v h' => ∃ l : List UInt8, v = .slice (some ⟨h.size, 0, none⟩) n l.length ∧ h' = h.push (.cells ⟨byteC l⟩ 5) ∧ n ≤ l.length := by
  intro w hw
  subst hw
  obtain ⟨l, h1, h2⟩ := noZero_run (P := Tryd.prog) w #[3] 65 5 u65 n hn
  refine ⟨_, w.drew.drew.alloc (.cells ⟨byteC l⟩ 5), ?_, ⟨l, rfl, rfl, h2⟩, rfl, rfl, rfl⟩
  rw [run_callFunc_extern Tryd.func60 (by kernel_rfl) (by kernel_rfl) (by kernel_rfl) (e := Go.Extern.BytealgMakeNoZero.makeNoZero #[3] #[65]) (by kernel_rfl), h1]
  rfl
theorem wu64 {n : Int} (h0 : 0 ≤ n) (h1 : n ≤ 18446744073709551615) : IntKind.wrap .u64 n = n := by
  rw [IntKind.wrap_u64]; omega
theorem mul57 (x y : Nat) (hx : x < 18446744073709551616) (hy : y < 18446744073709551616) (h : Heap) : Fn Tryd.prog 57 #[.int .u64 x, .int .u64 y] h fun v h' => v = .tuple ⟨[.int .u64 ((x * y / 18446744073709551616 : Nat) : Int), .int .u64 ((x * y % 18446744073709551616 : Nat) : Int)]⟩ ∧ h' = h :=
  Fn.of_same fun w => Tryd.bits_Mul x y hx hy w
/-- block b holds the bytes F 0, .., F (N - 1), and maybe more -/
def Bt (h : Heap) (b N : Nat) (F : Nat → UInt8) : Prop := ∃ rest : List UInt8, Own h b (byteC ((List.range N).map F ++ rest)) 5
theorem Bt.congr {h : Heap} {b N : Nat} {F G : Nat → UInt8} (hb : Bt h b N F) (he : ∀ i, i < N → F i = G i) : Bt h b N G := by
  obtain ⟨rest, ho⟩ := hb
  refine ⟨rest, ?_⟩
  rwa [show (List.range N).map G = (List.range N).map F from List.map_congr_left fun i hi => (he i (List.mem_range.1 hi)).symm]
theorem Bt.ext {h h' : Heap} {b N : Nat} {F : Nat → UInt8} (hb : Bt h b N F) (hE : Ext h h') : Bt h' b N F := by
  obtain ⟨rest, ho⟩ := hb
  exact ⟨rest, ho.ext hE⟩
theorem Bt.get {h : Heap} {b N : Nat} {F : Nat → UInt8} (hb : Bt h b N F) {i : Nat} (hi : i < N) : hc h ⟨b, i, none⟩ = some (.int .u8 (F i).toNat) := by
  obtain ⟨rest, ho⟩ := hb
  rw [ho.hc, byteC_get (b := F i)]
  rw [List.getElem?_append_left (by simpa using hi), List.getElem?_map, List.getElem?_range hi]; rfl
theorem Bt.put {h : Heap} {b N : Nat} {F : Nat → UInt8} (hb : Bt h b N F) {i : Nat} (hi : i < N) (c : UInt8) {K : Heap → Prop}
    (hK : ∀ h', But b h h' → Bt h' b N (fun j => if j = i then c else F j) → K h') :
    okAt h ⟨b, 0 + i * 1, none⟩ 1 ∧ ∀ h' : Heap, h' = hputs h ⟨b, 0 + i * 1, none⟩ 0 [.int .u8 c.toNat] → K h' := by
  obtain ⟨rest, ho⟩ := hb
  have hl : i < (byteC ((List.range N).map F ++ rest)).length := by rw [byteC_len]; simp; omega
  rw [Nat.mul_one, Nat.zero_add]
  refine ⟨ho.okAt (by omega), ?_⟩
  rintro h' rfl
  refine hK _ (But.hputs (a := ⟨b, i, none⟩) _ _ _) ⟨rest, ?_⟩
  have := Own.hputs [.int .u8 c.toNat] 0 h _ ho (o := i) (by rw [Nat.add_zero, List.length_singleton]; exact hl)
  have e : splice (byteC ((List.range N).map F ++ rest)) (i + 0) [.int .u8 c.toNat] = byteC ((List.range N).map (fun j => if j = i then c else F j) ++ rest) := by
    have e1 : [Value.int .u8 (c.toNat : Int)] = byteC [c] := rfl
    rw [e1, splice_byteC, Nat.add_zero]
    congr 1
    apply List.ext_getElem?
    intro j
    simp only [List.append_assoc]
    by_cases h1 : j < i
    · rw [List.getElem?_append_left (by simp; omega), List.getElem?_take_of_lt h1, List.getElem?_append_left (by simp; omega), List.getElem?_append_left (by simp; omega), List.getElem?_map, List.getElem?_map, List.getElem?_range (by omega)]
      simp only [Option.map_some]; rw [if_neg (by omega)]
    · rw [List.getElem?_append_right (by simp; omega)]
      have hm : min i (N + rest.length) = i := by omega
      simp only [List.length_take, List.length_append, List.length_map, List.length_range, hm]
      by_cases h2 : j = i
      · subst h2
        rw [Nat.sub_self, List.getElem?_append_left (by simp), List.getElem?_append_left (by simp; omega), List.getElem?_map, List.getElem?_range hi]
        simp
      · rw [List.getElem?_append_right (by simp; omega), List.getElem?_drop]
        simp only [List.length_singleton]
        rw [show i + 1 + (j - i - 1) = j by omega]
        by_cases h3 : j < N
        · rw [List.getElem?_append_left (by simp; omega), List.getElem?_append_left (by simp; omega), List.getElem?_map, List.getElem?_map, List.getElem?_range h3]
          simp only [Option.map_some]; rw [if_neg h2]
        · rw [List.getElem?_append_right (by simp; omega), List.getElem?_append_right (by simp; omega)]; simp
  rw [e] at this
  exact this
theorem Bt.copy {h : Heap} {b N o : Nat} {F : Nat → UInt8} (hb : Bt h b N F) {l : List UInt8} (ho' : o + l.length ≤ N) {u dCap : Nat} {K : Int → Heap → Prop}
    (hK : ∀ h', But b h h' → Bt h' b N (fun j => if o ≤ j ∧ j < o + l.length then l.getD (j - o) 0 else F j) → K l.length h') :
    Cpy Tryd.prog 65 u (.slice (some ⟨b, o, none⟩) (N - o) dCap) (.string (bs l)) h K := by
  obtain ⟨rest, ho⟩ := hb
  refine Cpy_str u65 i5 ho (by omega) (by simp; omega) fun h' hbut hown => hK h' hbut ⟨rest, ?_⟩
  have e : ((List.range N).map F ++ rest).take o ++ l ++ ((List.range N).map F ++ rest).drop (o + l.length) = (List.range N).map (fun j => if o ≤ j ∧ j < o + l.length then l.getD (j - o) 0 else F j) ++ rest := by
    apply List.ext_getElem?
    intro j
    simp only [List.append_assoc]
    by_cases h1 : j < o
    · rw [List.getElem?_append_left (by simp; omega), List.getElem?_take_of_lt h1, List.getElem?_append_left (by simp; omega), List.getElem?_append_left (by simp; omega), List.getElem?_map, List.getElem?_map, List.getElem?_range (by omega)]
      simp only [Option.map_some]; rw [if_neg (by omega)]
    · rw [List.getElem?_append_right (by simp; omega)]
      have hm : min o (N + rest.length) = o := by omega
      simp only [List.length_take, List.length_append, List.length_map, List.length_range, hm]
      by_cases h2 : j < o + l.length
      · rw [List.getElem?_append_left (by omega), List.getElem?_append_left (by simp; omega), List.getElem?_map, List.getElem?_range (by omega)]
        simp only [Option.map_some]
        rw [if_pos ⟨by omega, h2⟩, List.getD_eq_getElem?_getD, List.getElem?_eq_getElem (by omega)]; rfl
      · rw [List.getElem?_append_right (by omega), List.getElem?_drop, show o + l.length + (j - o - l.length) = j by omega]
        by_cases h3 : j < N
        · rw [List.getElem?_append_left (by simp; omega), List.getElem?_append_left (by simp; omega), List.getElem?_map, List.getElem?_map, List.getElem?_range h3]
          simp only [Option.map_some]; rw [if_neg (by omega)]
        · rw [List.getElem?_append_right (by simp; omega), List.getElem?_append_right (by simp; omega)]; simp
  rw [e] at hown
  exact hown
theorem Bt.str {h : Heap} {b N cap : Nat} {F : Nat → UInt8} (hb : Bt h b N F) : RunW Tryd.prog (Go.convert 65 9 (.slice (some ⟨b, 0, none⟩) N cap)) h fun v h' => v = .string (bs ((List.range N).map F)) ∧ h' = h := by
  intro w hw
  subst hw
  refine ⟨_, w, ?_, ⟨rfl, rfl⟩, rfl, rfl, rfl⟩
  have := Go.run_convert_bytes_back (P := Tryd.prog) w 65 9 5 ⟨b, 0, none⟩ cap ((List.range N).map F) u65 u5 u9 fun j hj => by
    have e : (⟨b, 0, none⟩ : Addr).add j = ⟨b, j, none⟩ := by rw [add_n, Nat.zero_add]
    rw [e]
    have hj' : j < N := by simpa using hj
    have := hb.get hj'
    rw [hc_cell, this]
    simp
  simp only [List.length_map, List.length_range] at this
  exact this
theorem repeat38 (c : UInt8) (N : Nat) (h1 : 1 ≤ N) (hN : N ≤ 8192) (b0 : Nat) (h : Heap) (hc0 : hc h ⟨b0, 0, none⟩ = some (.int .u8 c.toNat)) :
    Fn Tryd.prog 38 #[.slice (some ⟨b0, 0, none⟩) 1 1, .int .i64 N] h fun v h' => ∃ b, v = .slice (some ⟨b, 0, none⟩) N N ∧ h.size ≤ b ∧ Ext h h' ∧ Bt h' b N fun _ => c := by
  apply vc38 ⟨some ⟨b0, 0, none⟩, 1, 1⟩; unfold W38; dsimp only
  have hlt0 : b0 < h.size := by
    unfold VC.hc at hc0
    split at hc0
    · rename_i hh; exact (Array.getElem?_eq_some_iff.1 hh).1
    · cases hc0
  refine sB_f (beq_eq_false_iff_ne.2 (by omega)) ⟨fun h' => h' = h, sB_f (decide_eq_false (by omega)) rfl, ?_⟩
  rintro - h3 rfl
  rw [wu64 (by omega) (by omega), wu64 (n := (N : Int)) (by omega) (by omega)]
  refine (mul57 1 N (by omega) (by omega) h3).mono ?_
  rintro v h7 ⟨rfl, rfl⟩
  rw [Nat.one_mul, Nat.div_eq_of_lt (by omega), Nat.mod_eq_of_lt (show N < 18446744073709551616 by omega)]
  refine ⟨_, _, rfl, fun h' => h' = h7, sB_f (decide_eq_false (by omega)) (sB_f (decide_eq_false (by omega)) rfl), ?_⟩
  rintro - h9 rfl
  rw [w64 (n := (N : Int)) (by omega) (by omega)]
  refine sB_f rfl ⟨fun x h' => x = (N : Int) ∧ h' = h9, sB_f (decide_eq_false (by omega)) ⟨rfl, rfl⟩, ?_⟩
  rintro - cm h13 ⟨rfl, rfl⟩
  have hz := noZero60 N (by omega) h13
  intro w hw
  obtain ⟨v, w', hrun, ⟨l, rfl, hh, hl⟩, ho1, ho2, ho3⟩ := hz w hw
  refine ⟨_, w', hrun, ?_, ho1, ho2, ho3⟩
  refine ⟨⟨some ⟨h13.size, 0, none⟩, N, l.length⟩, rfl, ⟨by omega, by omega, by omega, by dsimp only; omega⟩, ?_⟩
  dsimp only
  have o16 : Own w'.heap h13.size (byteC l) 5 := by rw [hh]; exact Own.push
  have E16 : Ext h13 w'.heap := by rw [hh]; exact Ext.push ..
  generalize w'.heap = h16 at o16 E16
  clear hrun ho1 ho2 ho3 hh hw
  rw [show Int.toNat 0 = 0 from rfl, subA_zero, show Int.toNat (N : Int) = N from rfl, Nat.sub_zero]
  refine Cpy_own u65 i5 o16 (l := [c]) (by simp; omega) (fun j d hj => ?_) (by simp; omega) fun h18 hb18 o18 => ?_
  · have : j = 0 := by have := (List.getElem?_eq_some_iff.1 hj).1; simp at this; exact this
    subst this; cases hj
    rw [E16.hc hlt0]; exact hc0
  refine ⟨fun x h' m => ∃ k : Nat, x = k ∧ m = N - k ∧ 1 ≤ k ∧ k ≤ N ∧ But h13.size h16 h' ∧ ∃ r, Own h' h13.size (byteC (List.replicate k c ++ r)) 5 ∧ k + r.length = l.length, ⟨_, 1, rfl, rfl, by omega, h1, hb18, l.drop 1, ?_, ?_⟩, ?_⟩
  · exact o18
  · simp; omega
  rintro - x h23 m ⟨k, rfl, rfl, hk1, hkN, hbut, r, ho, hlen⟩
  refine sB_intro (fun hlt => ?_) (fun hge => ?_)
  · have hlt' := lt_t hlt
    rw [imin_nat, show min k N = k by omega]
    refine ⟨⟨by omega, by omega, by omega⟩, ⟨by omega, by omega, by omega⟩, ?_⟩
    rw [show Int.toNat (k : Int) = k from rfl, show Int.toNat (N : Int) = N from rfl, subA_zero, Nat.sub_zero, Nat.sub_zero]
    have e : subA (some ⟨h13.size, 0, none⟩) k N 1 = some ⟨h13.size, k, none⟩ := by
      unfold subA; rw [if_neg (by omega), Option.map_some, add_n, Nat.mul_one, Nat.zero_add]
    rw [e]
    refine Cpy_own u65 i5 ho (l := List.replicate (min k (N - k)) c) (by simp) (fun j d hj => ?_) (by simp; omega) fun h25 hb25 o25 => ?_
    · have hjl : j < min k (N - k) := by have := (List.getElem?_eq_some_iff.1 hj).1; simpa using this
      have hd : d = c := by rw [List.getElem?_replicate, if_pos hjl] at hj; cases hj; rfl
      subst hd
      rw [Nat.zero_add, ho.hc, byteC_get (b := d)]
      rw [List.getElem?_append_left (by simp; omega), List.getElem?_replicate, if_pos (by omega)]
    · refine ⟨_, ?_, k + min k (N - k), ?_, rfl, by omega, by omega, hbut.trans hb25, r.drop (min k (N - k)), ?_, ?_⟩
      · omega
      · rw [List.length_replicate, w64 (by omega) (by omega)]; omega
      · have e2 : (List.replicate k c ++ r).take k ++ List.replicate (min k (N - k)) c ++ (List.replicate k c ++ r).drop (k + (List.replicate (min k (N - k)) c).length) = List.replicate (k + min k (N - k)) c ++ r.drop (min k (N - k)) := by
          rw [List.take_append_of_le_length (by simp), List.take_of_length_le (by simp), List.replicate_append_replicate, List.drop_append, List.drop_eq_nil_of_le (by simp), List.nil_append]
          simp
        rw [e2] at o25
        exact o25
      · simp; omega
  · have hge' := lt_f hge
    obtain rfl : k = N := by omega
    refine ⟨h13.size, rfl, Nat.le_refl _, ?_, r, ?_⟩
    · exact (Kp.trans (E16.kp (Nat.le_refl _)) (Kp.but hbut (Nat.le_refl _))).ext
    · have : (List.range k).map (fun _ => c) = List.replicate k c := by
        apply List.ext_getElem?
        intro j
        rw [List.getElem?_map, List.getElem?_replicate]
        split
        · rename_i hj; rw [List.getElem?_range hj]; rfl
        · rw [List.getElem?_eq_none (by simp; omega)]; rfl
      rw [this]; exact ho
end Go.VC
