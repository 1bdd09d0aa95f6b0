import Derived.Test.YtpelfojmncfonaaLexD
import Derived.Laws.IdiomStrings
import Derived.Lib.BufferRead
set_option linter.unusedVariables false
set_option linter.unusedSimpArgs false

namespace Go.VC
open Go.Proofs Go.LexS
set_option maxRecDepth 100000

def byteC (l : List UInt8) : List Value := l.map fun b => .int .u8 b.toNat
theorem und56 : Try.prog.underlying 56 = some (.slice 5) := by kernel_rfl
theorem und5 : Try.prog.underlying 5 = some (.int .u8) := by kernel_rfl
theorem und9 : Try.prog.underlying 9 = some .string := by kernel_rfl
theorem str_c {h : Heap} {base : Nat} {s : Sl} {l : List UInt8} (ho : OwnS h base 5 1 s (byteC l)) : RunW Try.prog (Go.convert 56 9 (.slice s.a s.n s.c)) h fun v h' => v = .string (bs l) ∧ h' = h := by
  intro w hw
  subst hw
  have hn : l.length = s.n := by have := ho.1; simp [byteC] at this; exact this
  rcases ho.2 with ⟨ha, h0, hc⟩ | ⟨g, cur, ha, _⟩
  · have : l = [] := List.length_eq_zero_iff.1 (by omega)
    subst this
    rw [ha, h0, hc]
    exact ⟨_, w, Go.Lib.run_convert_nil_bytes w 56 9 5 0 und56 und5 und9, ⟨rfl, rfl⟩, rfl, rfl, rfl⟩
  · refine ⟨_, w, ?_, ⟨rfl, rfl⟩, rfl, rfl, rfl⟩
    rw [ha, ← hn]
    exact Go.run_convert_bytes_back w 56 9 5 ⟨g, 0, none⟩ s.c l und56 und5 und9 fun j hj => by
      have h1 := ho.hc ha (i := j) (v := .int .u8 (l[j].toNat : Int)) (by simp [byteC, hj])
      have e : (⟨g, 0, none⟩ : Addr).add j = ⟨g, j, none⟩ := by
        unfold Addr.add; split
        · subst_vars; rfl
        · simp only [Nat.zero_add]
      rw [e]
      exact h1

theorem elems_quote {cs acc : List UInt8} {n : Nat} : elemsS (34 :: cs) acc n = some (acc, n + 1) := by rw [elemsS.eq_def]; rfl
theorem elems_esc0 {acc : List UInt8} {n : Nat} : elemsS [92] acc n = none := by rw [elemsS.eq_def]; rfl
theorem elems_esc {d : UInt8} {ds acc : List UInt8} {n : Nat} (hd : d = 34 ∨ d = 92) : elemsS (92 :: d :: ds) acc n = elemsS ds (acc ++ [d]) (n + 2) := by
  rw [elemsS.eq_def]; simp only [if_neg (show ¬ (92 : UInt8) = 34 by decide), if_true, if_pos hd]
theorem elems_escx {d : UInt8} {ds acc : List UInt8} {n : Nat} (hd : ¬ (d = 34 ∨ d = 92)) : elemsS (92 :: d :: ds) acc n = none := by
  rw [elemsS.eq_def]; simp only [if_neg (show ¬ (92 : UInt8) = 34 by decide), if_true, if_neg hd]
theorem elems_bad {c : UInt8} {cs acc : List UInt8} {n : Nat} (h1 : c ≠ 34) (h2 : c ≠ 92) (h : c.toNat < 32 ∨ 126 < c.toNat) : elemsS (c :: cs) acc n = none := by
  rw [elemsS.eq_def]; simp only [if_neg h1, if_neg h2, if_pos h]
theorem elems_ok {c : UInt8} {cs acc : List UInt8} {n : Nat} (h1 : c ≠ 34) (h2 : c ≠ 92) (h : ¬ (c.toNat < 32 ∨ 126 < c.toNat)) : elemsS (c :: cs) acc n = elemsS cs (acc ++ [c]) (n + 1) := by
  rw [elemsS.eq_def]; simp only [if_neg h1, if_neg h2, if_neg h]
theorem u8_eq {b c : UInt8} (h : ((b.toNat : Int) == (c.toNat : Int)) = true) : b = c := UInt8.toNat_inj.1 (by have := beq_iff_eq.1 h; omega)
theorem u8_ne {b c : UInt8} (h : ((b.toNat : Int) == (c.toNat : Int)) = false) : b ≠ c := fun e => by
  subst e; rw [beq_self_eq_true] at h; cases h
theorem bne_t {a b : Int} (h : (a != b) = true) : (a == b) = false := by simpa using h
theorem bne_f {a b : Int} (h : (a != b) = false) : (a == b) = true := by simpa using h
theorem app56 : appB Try.prog 56 5 1 1 = true := by kernel_rfl
theorem OwnS.len {h : Heap} {base : Nat} {e : TypeId} {size : Nat} {s : Sl} {xs : List Value} (ho : OwnS h base e size s xs) : xs.length = s.n * size := ho.1

theorem text_c (c : Nat) (s : ByteArray) (k : Nat) (h : Heap) (ho : Sc h c s k) (hk : k < s.size) (hs : s.size ≤ 100000) :
    Fn Try.prog 29 #[.pointer (some ⟨c, 0, none⟩)] h (Ans c s k h (textS (s.data.toList.drop k))) := by
  apply vc29; unfold W29
  have hsz := size_len s
  unfold textS
  rw [List.drop_drop]
  generalize hL : s.data.toList = L at *
  intro h1 e1
  have hE : Ext h h1 := by subst e1; exact Ext.push _ _
  have hS1 : h1.size = h.size + 1 := by subst e1; simp
  have hne : c ≠ h.size := Nat.ne_of_lt ho.lt
  have hcl := ho.lt
  have hl1 : Own h1 h.size [.int .i64 0, .string ⟨#[]⟩, .int .i64 0, .int .i64 0] 34 := by subst e1; exact Own.push
  refine ⟨k, (ho.ext hE).k, (ho.ext hE).ok, ?_⟩
  intro h3 e3
  rw [show IntKind.wrap .i64 ((k : Int) + 1) = ((k + 1 : Nat) : Int) by rw [w64 (by omega) (by omega)]; omega] at e3
  obtain ⟨p3, b3⟩ := (ho.ext hE).put e3
  refine ⟨fun b h' m => ∃ (j : Nat) (acc : List UInt8), m = s.size - j ∧ k + 1 ≤ j ∧ j ≤ s.size ∧ acc.length ≤ j ∧ Sc h' c s j ∧ Stp c h h' ∧ h.size + 1 ≤ h'.size ∧
    Own h' h.size [.int .i64 0, .string ⟨#[]⟩, .int .i64 0, .int .i64 0] 34 ∧ OwnS h' (h.size + 1) 5 1 b (byteC acc) ∧ elemsS (L.drop (k + 1)) [] 1 = elemsS (L.drop j) acc (j - k),
    ⟨_, k + 1, [], rfl, Nat.le_refl _, by omega, by simp, p3, (Stp.of_ext hE).trans (Stp.of_but b3), by rw [b3.1, hS1]; exact Nat.le_refl _, b3.own hl1 (Ne.symm hne), OwnS.nil, by rw [show k + 1 - k = 1 by omega]⟩, ?_⟩
  rintro - b h8 m ⟨j, acc, rfl, hkj, hj, hacc, p8, st8, hz8, ho8, hos8, he⟩
  have err : ∀ h', Sc h' c s j ∨ True → Stp c h h' → Own h' h.size [.int .i64 0, .string ⟨#[]⟩, .int .i64 0, .int .i64 0] 34 → elemsS (L.drop j) acc (j - k) = none →
      ∀ h'', But h.size h' h'' → ∀ (x : Int) (t : ByteArray) (y z : Int), Ans c s k h (textR (elemsS (L.drop (k + 1)) [] 1)) (.tuple ⟨[.agg ⟨[.int .i64 x, .string t, .int .i64 y, .int .i64 z]⟩, .int .i64 3]⟩) h'' := by
    intro h' _ hst _ hn h'' hb x t y z
    rw [he, hn]
    exact ⟨hst.but_new hb (Nat.le_refl _), x, t, y, z, rfl⟩
  refine ⟨j, p8.k, s, p8.s, sB_intro (fun hlt => ?_) (fun hge => ?_)⟩
  · have hlt' : j < s.size := by have := of_decide_eq_true hlt; omega
    obtain ⟨x, hx, hbx⟩ := byte_get hlt'
    rw [hL] at hx
    have hdrop := drop_cons hx
    have hxl := UInt8.toNat_lt x
    have step : ∀ _ : Heap, IntKind.wrap .i64 ((j : Int) + 1) = ((j + 1 : Nat) : Int) := fun _ => by rw [w64 (by omega) (by omega)]; omega
    refine ⟨s, p8.s, j, p8.k, ⟨by omega, by omega⟩, ?_⟩
    rw [show Int.toNat (j : Int) = j from rfl, hbx]
    refine sB_intro (fun hq => ?_) (fun hq => ?_)
    · have e34 : x = 34 := u8_eq (c := 34) hq
      subst e34
      refine ⟨j, p8.k, p8.ok, ?_⟩
      intro h14 e14
      rw [step h14] at e14
      obtain ⟨p14, b14⟩ := p8.put e14
      have st14 := st8.trans (Stp.of_but b14)
      have ho14 := b14.own ho8 (Ne.symm hne)
      have hlen : b.n = acc.length := by have := hos8.len; simp [byteC] at this; exact this.symm
      have hres : elemsS (L.drop (k + 1)) [] 1 = some (acc, j - k + 1) := by rw [he, hdrop, elems_quote]
      rw [hres]
      refine sB_intro (fun hgt => ?_) (fun hgt => ?_)
      · have : 40 < acc.length := by have := of_decide_eq_true hgt; omega
        refine fin4 ho14 rfl fun h' hb' ho' => ⟨st14.but_new hb' (Nat.le_refl _), ?_⟩
        simp only [textR, if_pos this]
        exact ⟨_, _, _, _, rfl⟩
      · have : ¬ 40 < acc.length := by have := of_decide_eq_false hgt; omega
        have hos14 := hos8.stp (b := c) (by omega) (Stp.of_but b14)
        refine (str_c hos14).mono ?_
        rintro v h22 ⟨rfl, rfl⟩
        refine ⟨_, rfl, fin4 ho14 rfl fun h' hb' ho' => ⟨st14.but_new hb' (Nat.le_refl _), ?_⟩⟩
        simp only [textR, if_neg this]
        refine ⟨rfl, ?_⟩
        rw [show k + (j - k + 1) = j + 1 by omega]
        exact p14.but hb' hne
    · have n34 : x ≠ 34 := u8_ne (c := 34) hq
      refine ⟨fun y h' => ∃ (j' : Nat) (z : UInt8), y = (z.toNat : Int) ∧ j ≤ j' ∧ j' < s.size ∧ Sc h' c s j' ∧ Stp c h h' ∧ h.size + 1 ≤ h'.size ∧
        Own h' h.size [.int .i64 0, .string ⟨#[]⟩, .int .i64 0, .int .i64 0] 34 ∧ OwnS h' (h.size + 1) 5 1 b (byteC acc) ∧
        ((z.toNat < 32 ∨ 126 < z.toNat) → elemsS (L.drop j) acc (j - k) = none) ∧ (¬ (z.toNat < 32 ∨ 126 < z.toNat) → elemsS (L.drop j) acc (j - k) = elemsS (L.drop (j' + 1)) (acc ++ [z]) (j' + 1 - k)), ?_, ?_⟩
      · refine sB_intro (fun hbs => ?_) (fun hbs => ?_)
        · have e92 : x = 92 := u8_eq (c := 92) hbs
          subst e92
          refine ⟨j, p8.k, p8.ok, ?_⟩
          intro h30 e30
          rw [step h30] at e30
          obtain ⟨p30, b30⟩ := p8.put e30
          have st30 := st8.trans (Stp.of_but b30)
          have ho30 := b30.own ho8 (Ne.symm hne)
          have hos30 := hos8.stp (b := c) (by omega) (Stp.of_but b30)
          have hz30 : h.size + 1 ≤ h30.size := by rw [b30.1]; exact hz8
          refine ⟨_, p30.k, s, p30.s, sB_intro (fun heq => ?_) (fun hneq => ?_)⟩
          · have heq' : j + 1 = s.size := by have := beq_iff_eq.1 heq; omega
            refine fin4 ho30 rfl fun h' hb' ho' => err h30 (.inr trivial) st30 ho30 ?_ h' hb' _ _ _ _
            rw [hdrop, drop_end (by omega)]; exact elems_esc0
          · have hlt1 : j + 1 < s.size := by
              have : ¬ ((j + 1 : Nat) : Int) = (s.size : Int) := by
                intro e; rw [e, beq_self_eq_true] at hneq; cases hneq
              omega
            obtain ⟨y, hy, hby⟩ := byte_get hlt1
            rw [hL] at hy
            have hdrop2 := drop_cons hy
            have hin : (0 : Int) ≤ ((j + 1 : Nat) : Int) ∧ ((j + 1 : Nat) : Int) < (ByteArray.size s : Nat) := ⟨by omega, by omega⟩
            have hgo : (y = 34 ∨ y = 92) → ∃ (j' : Nat) (z : UInt8), (y.toNat : Int) = (z.toNat : Int) ∧ j ≤ j' ∧ j' < s.size ∧ Sc h30 c s j' ∧ Stp c h h30 ∧ h.size + 1 ≤ h30.size ∧
                Own h30 h.size [.int .i64 0, .string ⟨#[]⟩, .int .i64 0, .int .i64 0] 34 ∧ OwnS h30 (h.size + 1) 5 1 b (byteC acc) ∧
                ((z.toNat < 32 ∨ 126 < z.toNat) → elemsS (L.drop j) acc (j - k) = none) ∧ (¬ (z.toNat < 32 ∨ 126 < z.toNat) → elemsS (L.drop j) acc (j - k) = elemsS (L.drop (j' + 1)) (acc ++ [z]) (j' + 1 - k)) := by
              intro hy2
              refine ⟨j + 1, y, rfl, by omega, hlt1, p30, st30, hz30, ho30, hos30, fun hb => ?_, fun _ => ?_⟩
              · exfalso; rcases hy2 with rfl | rfl
                · exact absurd hb (by decide)
                · exact absurd hb (by decide)
              · rw [hdrop, hdrop2, elems_esc hy2, show j + 1 + 1 - k = j - k + 2 by omega]
            refine ⟨s, p30.s, _, p30.k, hin, ?_⟩
            rw [show Int.toNat ((j + 1 : Nat) : Int) = j + 1 from rfl, hby]
            refine sB_intro (fun h34 => ?_) (fun h34 => ?_)
            · have y34 : y ≠ 34 := u8_ne (c := 34) (bne_t h34)
              refine ⟨s, p30.s, _, p30.k, hin, ?_⟩
              rw [show Int.toNat ((j + 1 : Nat) : Int) = j + 1 from rfl, hby]
              refine sB_intro (fun h92 => ?_) (fun h92 => ?_)
              · have y92 : y ≠ 92 := u8_ne (c := 92) (bne_t h92)
                refine fin4 ho30 rfl fun h' hb' ho' => err h30 (.inr trivial) st30 ho30 ?_ h' hb' _ _ _ _
                rw [hdrop, hdrop2]; exact elems_escx (by rintro (e | e) <;> contradiction)
              · refine ⟨s, p30.s, _, p30.k, hin, ?_⟩
                rw [show Int.toNat ((j + 1 : Nat) : Int) = j + 1 from rfl, hby]
                exact hgo (.inr (u8_eq (c := 92) (bne_f h92)))
            · refine ⟨s, p30.s, _, p30.k, hin, ?_⟩
              rw [show Int.toNat ((j + 1 : Nat) : Int) = j + 1 from rfl, hby]
              exact hgo (.inl (u8_eq (c := 34) (bne_f h34)))
        · have n92 : x ≠ 92 := u8_ne (c := 92) hbs
          refine ⟨j, x, rfl, Nat.le_refl _, hlt', p8, st8, hz8, ho8, hos8, fun hb => ?_, fun hb => ?_⟩
          · rw [hdrop]; exact elems_bad n34 n92 hb
          · rw [hdrop, elems_ok n34 n92 hb, show j + 1 - k = j - k + 1 by omega]
      · rintro - y h52 ⟨j', z, rfl, hjj, hj', p52, st52, hz52, ho52, hos52, hbad, hok⟩
        have hzl := UInt8.toNat_lt z
        refine sB_intro (fun h32 => ?_) (fun h32 => ?_)
        · have hb : z.toNat < 32 ∨ 126 < z.toNat := .inl (by have := of_decide_eq_true h32; omega)
          exact fin4 ho52 rfl fun h' hb' ho' => err h52 (.inr trivial) st52 ho52 (hbad hb) h' hb' _ _ _ _
        · refine sB_intro (fun h126 => ?_) (fun h126 => ?_)
          · have hb : z.toNat < 32 ∨ 126 < z.toNat := .inr (by have := of_decide_eq_true h126; omega)
            exact fin4 ho52 rfl fun h' hb' ho' => err h52 (.inr trivial) st52 ho52 (hbad hb) h' hb' _ _ _ _
          · have hg : ¬ (z.toNat < 32 ∨ 126 < z.toNat) := by
              have := of_decide_eq_false h126; have := of_decide_eq_false h32; omega
            have hlen : b.n = acc.length := by have := hos52.len; simp [byteC] at this; exact this.symm
            refine App_one app56 hos52 hz52 rfl rfl (by omega) (by unfold maxLen; omega) ?_
            intro r h65 hrn hor hkp _
            have p65 : Sc h65 c s j' := hkp.own p52 (by omega)
            have ho65 := hkp.own ho52 (by omega)
            have st65 : Stp c h h65 := ⟨Nat.le_trans st52.1 hkp.1, fun q hq hqc => (hkp.2 q (by omega)).trans (st52.2 q hq hqc)⟩
            have hz65 : h.size + 1 ≤ h65.size := Nat.le_trans hz52 hkp.1
            refine ⟨j', p65.k, p65.ok, ?_⟩
            intro h67 e67
            rw [show IntKind.wrap .i64 ((j' : Int) + 1) = ((j' + 1 : Nat) : Int) by rw [w64 (by omega) (by omega)]; omega] at e67
            obtain ⟨p67, b67⟩ := p65.put e67
            refine ⟨_, ?_, j' + 1, acc ++ [z], rfl, by omega, by omega, ?_, p67, st65.trans (Stp.of_but b67), by rw [b67.1]; exact hz65, b67.own ho65 (Ne.symm hne), ?_, ?_⟩
            · omega
            · rw [List.length_append, List.length_singleton]; omega
            · have := hor.stp (b := c) (by omega) (Stp.of_but b67)
              rw [byteC, List.map_append]; exact this
            · rw [he, hok hg]
  · have hge' : L.length ≤ j := by have := of_decide_eq_false hge; omega
    refine fin4 ho8 rfl fun h' hb' ho' => err h8 (.inr trivial) st8 ho8 ?_ h' hb' _ _ _ _
    rw [drop_end hge']; rfl
end Go.VC
