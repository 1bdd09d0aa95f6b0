/- Contracts of chart's leaves: letters, names, searches in slices. -/
import Derived.Test.YtcaahhppapnbhaaDoorChVc
import Derived.Test.YtcaahhppapnbhaaDoorVcRow
import Derived.Test.YtcaahhppapnbhaaDoorChSpec
set_option linter.unusedVariables false
set_option linter.unusedSimpArgs false

namespace Go.VC
open Go.Proofs Go.LexS Go.ChS
set_option maxRecDepth 100000

theorem chl_int (c : UInt8) : (isLetter c.toNat || isDigit c.toNat || ((c.toNat : Int) == 46) || ((c.toNat : Int) == 95)) = chl c := by
  have key : ∀ k : UInt8, ((c.toNat : Int) == (k.toNat : Int)) = (c == k) := fun k => by
    rw [Bool.eq_iff_iff, beq_iff_eq, beq_iff_eq]
    exact ⟨fun h => UInt8.toNat_inj.1 (by omega), fun h => by rw [h]⟩
  unfold chl
  rw [← key 46, ← key 95]; rfl
theorem letter43 (n : Int) (h : Heap) : Fn Tryd.prog 43 #[.int .u8 n] h fun v h' => v = .bool (isLetter n || isDigit n || n == 46 || n == 95) ∧ h' = h := by
  apply vc43; unfold W43
  repeat' refine sB_intro (fun _ => ?_) (fun _ => ?_)
  all_goals (refine ⟨congrArg Value.bool ?_, rfl⟩; rw [Bool.eq_iff_iff]; simp_all [isLetter, isDigit]; try omega)
theorem chl43 (c : UInt8) (h : Heap) : Fn Tryd.prog 43 #[.int .u8 c.toNat] h fun v h' => v = .bool (chl c) ∧ h' = h := by
  have := letter43 c.toNat h
  rw [chl_int] at this; exact this
theorem inner53 (n : Int) (h : Heap) : Fn Tryd.prog 53 #[.int .u8 n] h fun v h' => v = .bool (isLetter n || isDigit n || n == 46 || n == 95) ∧ h' = h := by
  apply vc53; unfold W53
  repeat' refine sB_intro (fun _ => ?_) (fun _ => ?_)
  all_goals (refine ⟨congrArg Value.bool ?_, rfl⟩; rw [Bool.eq_iff_iff]; simp_all [isLetter, isDigit]; try omega)
theorem chl53 (c : UInt8) (h : Heap) : Fn Tryd.prog 53 #[.int .u8 c.toNat] h fun v h' => v = .bool (chl c) ∧ h' = h := by
  have := inner53 c.toNat h
  rw [chl_int] at this; exact this
theorem not42 (c : UInt8) (h : Heap) : Fn Tryd.prog 42 #[.int .u8 c.toNat] h fun v h' => v = .bool (!chl c) ∧ h' = h := by
  apply vc42; unfold W42
  refine (chl43 c h).mono ?_
  rintro v h1 ⟨rfl, rfl⟩
  exact ⟨_, rfl, rfl, rfl⟩
theorem letter64 (n : Int) (h : Heap) : Fn Tryd.prog 64 #[.int .u8 n] h fun v h' => v = .bool (isLetter n) ∧ h' = h := by
  apply vc64; unfold W64
  repeat' refine sB_intro (fun _ => ?_) (fun _ => ?_)
  all_goals (refine ⟨congrArg Value.bool ?_, rfl⟩; rw [Bool.eq_iff_iff]; simp_all [isLetter]; try omega)
theorem digit80 (n : Int) (h : Heap) : Fn Tryd.prog 80 #[.int .u8 n] h fun v h' => v = .bool (isDigit n) ∧ h' = h := by
  apply vc80; unfold W80
  repeat' refine sB_intro (fun _ => ?_) (fun _ => ?_)
  all_goals (refine ⟨congrArg Value.bool ?_, rfl⟩; rw [Bool.eq_iff_iff]; simp_all [isDigit]; try omega)
theorem letter73 (n : Int) (h : Heap) : Fn Tryd.prog 73 #[.int .u8 n] h fun v h' => v = .bool (isLetter n) ∧ h' = h := by
  apply vc73; unfold W73
  repeat' refine sB_intro (fun _ => ?_) (fun _ => ?_)
  all_goals (refine ⟨congrArg Value.bool ?_, rfl⟩; rw [Bool.eq_iff_iff]; simp_all [isLetter]; try omega)
theorem digit85 (n : Int) (h : Heap) : Fn Tryd.prog 85 #[.int .u8 n] h fun v h' => v = .bool (isDigit n) ∧ h' = h := by
  apply vc85; unfold W85
  repeat' refine sB_intro (fun _ => ?_) (fun _ => ?_)
  all_goals (refine ⟨congrArg Value.bool ?_, rfl⟩; rw [Bool.eq_iff_iff]; simp_all [isDigit]; try omega)
theorem inner65 (n : Int) (h : Heap) : Fn Tryd.prog 65 #[.int .u8 n] h fun v h' => v = .bool (isInner n) ∧ h' = h := by
  apply vc65; unfold W65
  refine (letter64 n h).mono ?_
  rintro v h1 ⟨rfl, rfl⟩
  refine ⟨_, rfl, sB_intro (fun h2 => ?_) (fun h2 => ?_)⟩
  · simp [isInner, h2]
  · refine (digit80 n h1).mono ?_
    rintro v h3 ⟨rfl, rfl⟩
    refine ⟨_, rfl, sB_intro (fun h4 => ?_) (fun h4 => ?_)⟩ <;> simp [isInner, h2, h4]
theorem inner74 (n : Int) (h : Heap) : Fn Tryd.prog 74 #[.int .u8 n] h fun v h' => v = .bool (isInner n) ∧ h' = h := by
  apply vc74; unfold W74
  refine (letter73 n h).mono ?_
  rintro v h1 ⟨rfl, rfl⟩
  refine ⟨_, rfl, sB_intro (fun h2 => ?_) (fun h2 => ?_)⟩
  · simp [isInner, h2]
  · refine (digit85 n h1).mono ?_
    rintro v h3 ⟨rfl, rfl⟩
    refine ⟨_, rfl, sB_intro (fun h4 => ?_) (fun h4 => ?_)⟩ <;> simp [isInner, h2, h4]
theorem isName_cons {L : List UInt8} {b : UInt8} (hcons : L = b :: L.drop 1) : Go.ChS.isName L = (decide (L.length ≤ 16) && lt b && L.all inn) := by
  conv => lhs; rw [hcons]
  rw [Go.ChS.isName, ← hcons]
theorem all_fail {p : UInt8 → Bool} {L : List UInt8} {i : Nat} {y : UInt8} (hy : L[i]? = some y) (hp : p y = false) : L.all p = false := by
  rw [← Bool.not_eq_true, all_split]
  intro hh
  rw [hh y i hy] at hp; cases hp
theorem lexname (s : ByteArray) (h : Heap) : Fn Tryd.prog 47 #[.string s] h fun v h' => v = .bool (Go.ChS.isName s.data.toList) ∧ h' = h := by
  apply vc47; unfold W47
  have hsz := size_len s
  rw [strEq]
  generalize hL : s.data.toList = L at *
  refine sB_intro (fun he => ?_) (fun he => ?_)
  · have : L = [] := of_decide_eq_true he
    subst this
    exact ⟨rfl, rfl⟩
  have hne : L ≠ [] := of_decide_eq_false he
  have hpos : 0 < L.length := List.length_pos_iff.2 hne
  obtain ⟨b, hb, hby⟩ := byte_get (s := s) (i := 0) (by omega)
  rw [hL] at hb
  have hcons : L = b :: L.drop 1 := by have := drop_cons hb; rwa [List.drop_zero] at this
  rw [isName_cons hcons]
  refine sB_intro (fun hgt => ?_) (fun hgt => ?_)
  · refine ⟨?_, rfl⟩
    rw [decide_eq_false (by have := of_decide_eq_true hgt; omega)]; rfl
  have h16 : L.length ≤ 16 := by have := of_decide_eq_false hgt; omega
  rw [decide_eq_true h16]
  refine ⟨⟨by omega, by omega⟩, ?_⟩
  rw [show Int.toNat 0 = 0 from rfl, hby]
  refine (letter64 _ _).mono ?_
  rintro v h3 ⟨rfl, rfl⟩
  refine ⟨_, rfl, sB_intro (fun hlet => ?_) (fun hlet => ?_)⟩
  · refine ⟨?_, rfl⟩
    rw [show lt b = false from by rw [Bool.not_eq_true'] at hlet; exact hlet]; rfl
  rw [show lt b = true from by rw [Bool.not_eq_false'] at hlet; exact hlet]
  refine up_loop (n := s.size) (fun i h' => h' = h3 ∧ ∀ (b : UInt8) (j : Nat), j < i → L[j]? = some b → inn b = true) ⟨rfl, fun b j hj => by omega⟩ ?_
  rintro - i h8 hi ⟨rfl, hd⟩
  refine sB_intro (fun hlt => ?_) (fun hge => ?_)
  · have hlt' := lt_t hlt
    obtain ⟨y, hy, hby2⟩ := byte_get hlt'
    rw [hL] at hy
    refine ⟨⟨by omega, by omega⟩, ?_⟩
    rw [show Int.toNat (i : Int) = i from rfl, hby2]
    refine (inner65 _ _).mono ?_
    rintro v h11 ⟨rfl, rfl⟩
    refine ⟨_, rfl, sB_intro (fun hp => ?_) (fun hp => ?_)⟩
    · refine ⟨?_, rfl⟩
      rw [all_fail hy (by rw [Bool.not_eq_true'] at hp; exact hp)]; rfl
    · rw [Bool.not_eq_false'] at hp
      refine Up.next hlt' (by omega) ⟨rfl, fun b' j hj hb' => ?_⟩
      by_cases hji : j < i
      · exact hd b' j hji hb'
      · have : j = i := by omega
        subst this
        rw [hy] at hb'; cases hb'; exact hp
  · have hge' := lt_f hge
    refine ⟨?_, rfl⟩
    rw [(all_split inn L).2 fun b j hb => hd b j (by have := (List.getElem?_eq_some_iff.1 hb).1; omega) hb]; rfl
theorem refname (s : ByteArray) (h : Heap) : Fn Tryd.prog 52 #[.string s] h fun v h' => v = .bool (Go.ChS.isName s.data.toList) ∧ h' = h := by
  apply vc52; unfold W52
  have hsz := size_len s
  rw [strEq]
  generalize hL : s.data.toList = L at *
  refine sB_intro (fun he => ?_) (fun he => ?_)
  · have : L = [] := of_decide_eq_true he
    subst this
    exact ⟨rfl, rfl⟩
  have hne : L ≠ [] := of_decide_eq_false he
  have hpos : 0 < L.length := List.length_pos_iff.2 hne
  obtain ⟨b, hb, hby⟩ := byte_get (s := s) (i := 0) (by omega)
  rw [hL] at hb
  have hcons : L = b :: L.drop 1 := by have := drop_cons hb; rwa [List.drop_zero] at this
  rw [isName_cons hcons]
  refine ⟨⟨by omega, by omega⟩, ?_⟩
  rw [show Int.toNat 0 = 0 from rfl, hby]
  refine (letter73 _ _).mono ?_
  rintro v h3 ⟨rfl, rfl⟩
  refine ⟨_, rfl, sB_intro (fun hlet => ?_) (fun hlet => ?_)⟩
  · refine ⟨?_, rfl⟩
    rw [show lt b = false from by rw [Bool.not_eq_true'] at hlet; exact hlet, Bool.and_false]; rfl
  rw [show lt b = true from by rw [Bool.not_eq_false'] at hlet; exact hlet]
  refine sB_intro (fun hgt => ?_) (fun hgt => ?_)
  · refine ⟨?_, rfl⟩
    rw [decide_eq_false (by have := of_decide_eq_true hgt; omega)]; rfl
  have h16 : L.length ≤ 16 := by have := of_decide_eq_false hgt; omega
  rw [decide_eq_true h16]
  refine up_loop (n := s.size) (fun i h' => h' = h3 ∧ ∀ (b : UInt8) (j : Nat), j < i → L[j]? = some b → inn b = true) ⟨rfl, fun b j hj => by omega⟩ ?_
  rintro - i h8 hi ⟨rfl, hd⟩
  refine sB_intro (fun hlt => ?_) (fun hge => ?_)
  · have hlt' := lt_t hlt
    obtain ⟨y, hy, hby2⟩ := byte_get hlt'
    rw [hL] at hy
    refine ⟨⟨by omega, by omega⟩, ?_⟩
    rw [show Int.toNat (i : Int) = i from rfl, hby2]
    refine (inner74 _ _).mono ?_
    rintro v h11 ⟨rfl, rfl⟩
    refine ⟨_, rfl, sB_intro (fun hp => ?_) (fun hp => ?_)⟩
    · refine ⟨?_, rfl⟩
      rw [all_fail hy (by rw [Bool.not_eq_true'] at hp; exact hp)]; rfl
    · rw [Bool.not_eq_false'] at hp
      refine Up.next hlt' (by omega) ⟨rfl, fun b' j hj hb' => ?_⟩
      by_cases hji : j < i
      · exact hd b' j hji hb'
      · have : j = i := by omega
        subst this
        rw [hy] at hb'; cases hb'; exact hp
  · have hge' := lt_f hge
    refine ⟨?_, rfl⟩
    rw [(all_split inn L).2 fun b j hb => hd b j (by have := (List.getElem?_eq_some_iff.1 hb).1; omega) hb]; rfl

/-! ### searches with a function -/
def byteR (l : List UInt8) : List (List Value) := l.map fun b => [.int .u8 b.toNat]
theorem byteR_get {l : List UInt8} {i : Nat} {b : UInt8} (h : l[i]? = some b) : (byteR l)[i]? = some [.int .u8 b.toNat] := by unfold byteR; rw [List.getElem?_map, h]; rfl
theorem idx61 (f : FuncId) (hcal : callable Tryd.prog f = true) (p : UInt8 → Bool) (hp : ∀ c h, Fn Tryd.prog f #[.int .u8 c.toNat] h fun v h' => v = .bool (p c) ∧ h' = h) (L : List UInt8) (hL : L.length ≤ 9223372036854775807) (s : Sl) (h : Heap) (hr : Rw h 1 s (byteR L)) :
    Fn Tryd.prog 61 #[.slice s.a s.n s.c, .func (.func f) #[] #[]] h fun v h' => (∃ k : Int, v = .int .i64 k ∧ decide (k ≥ 0) = L.any p) ∧ h' = h := by
  apply vc61; unfold W61
  have hn : s.n = L.length := by have := hr.1; simpa [byteR] using this
  refine up_loop (n := s.n) (fun i h' => h' = h ∧ ∀ (j : Nat) (y : UInt8), j < i → L[j]? = some y → p y = false) ⟨rfl, fun j y hj => by omega⟩ ?_
  rintro - i h5 hi ⟨rfl, hd⟩
  refine sB_intro (fun hlt => ?_) (fun hge => ?_)
  · have hlt' := lt_t hlt
    obtain ⟨c, hc⟩ := get_some (l := L) (i := i) (by omega)
    refine hr.nb (byteR_get hc) fun b o _ hat => ⟨⟨by omega, by omega⟩, _, hat.hd, ?_⟩
    rw [hcal, cond_true]
    refine (hp c h5).mono ?_
    rintro v h11 ⟨rfl, rfl⟩
    refine ⟨_, rfl, sB_intro (fun ht => ?_) (fun ht => ?_)⟩
    · exact ⟨⟨_, rfl, by rw [any_t hc ht]; exact decide_eq_true (by omega)⟩, rfl⟩
    · exact Up.next hlt' (by omega) ⟨rfl, scan_next hc ht hd⟩
  · have hge' := lt_f hge
    refine ⟨⟨_, rfl, ?_⟩, rfl⟩
    rw [any_f fun j y hy => hd j y (by have := (List.getElem?_eq_some_iff.1 hy).1; omega) hy]; rfl
theorem any41 (f : FuncId) (hcal : callable Tryd.prog f = true) (p : UInt8 → Bool) (hp : ∀ c h, Fn Tryd.prog f #[.int .u8 c.toNat] h fun v h' => v = .bool (p c) ∧ h' = h) (L : List UInt8) (hL : L.length ≤ 9223372036854775807) (s : Sl) (h : Heap) (hr : Rw h 1 s (byteR L)) :
    Fn Tryd.prog 41 #[.slice s.a s.n s.c, .func (.func f) #[] #[]] h fun v h' => v = .bool (L.any p) ∧ h' = h := by
  apply vc41; unfold W41
  refine (idx61 f hcal p hp L hL s h hr).mono ?_
  rintro v h3 ⟨⟨k, rfl, hk⟩, rfl⟩
  exact ⟨_, rfl, by rw [hk], rfl⟩
theorem idx63 (f : FuncId) (hcal : callable Tryd.prog f = true) (p : Nm → Bool) (hp : ∀ c h, Fn Tryd.prog f #[.string (bs c)] h fun v h' => v = .bool (p c) ∧ Ext h h') (L : List Nm) (hL : L.length ≤ 9223372036854775807) (s : Sl) (h : Heap) (hr : Rw h 1 s (strR L)) :
    Fn Tryd.prog 63 #[.slice s.a s.n s.c, .func (.func f) #[] #[]] h fun v h' => (∃ k : Int, v = .int .i64 k ∧ decide (k ≥ 0) = L.any p) ∧ Ext h h' := by
  apply vc63; unfold W63
  have hn : s.n = L.length := by have := hr.1; simpa [strR] using this
  refine up_loop (n := s.n) (fun i h' => Ext h h' ∧ ∀ (j : Nat) (y : Nm), j < i → L[j]? = some y → p y = false) ⟨Ext.refl h, fun j y hj => by omega⟩ ?_
  rintro - i h5 hi ⟨E5, hd⟩
  refine sB_intro (fun hlt => ?_) (fun hge => ?_)
  · have hlt' := lt_t hlt
    obtain ⟨c, hc⟩ := get_some (l := L) (i := i) (by omega)
    refine (hr.ext E5).nb (strR_get hc) fun b o _ hat => ⟨⟨by omega, by omega⟩, _, hat.hd, ?_⟩
    rw [hcal, cond_true]
    refine (hp c h5).mono ?_
    rintro v h11 ⟨rfl, E11⟩
    refine ⟨_, rfl, sB_intro (fun ht => ?_) (fun ht => ?_)⟩
    · exact ⟨⟨_, rfl, by rw [any_t hc ht]; exact decide_eq_true (by omega)⟩, E5.trans E11⟩
    · exact Up.next hlt' (by omega) ⟨E5.trans E11, scan_next hc ht hd⟩
  · have hge' := lt_f hge
    refine ⟨⟨_, rfl, ?_⟩, E5⟩
    rw [any_f fun j y hy => hd j y (by have := (List.getElem?_eq_some_iff.1 hy).1; omega) hy]; rfl
theorem any45 (f : FuncId) (hcal : callable Tryd.prog f = true) (p : Nm → Bool) (hp : ∀ c h, Fn Tryd.prog f #[.string (bs c)] h fun v h' => v = .bool (p c) ∧ Ext h h') (L : List Nm) (hL : L.length ≤ 9223372036854775807) (s : Sl) (h : Heap) (hr : Rw h 1 s (strR L)) :
    Fn Tryd.prog 45 #[.slice s.a s.n s.c, .func (.func f) #[] #[]] h fun v h' => v = .bool (L.any p) ∧ Ext h h' := by
  apply vc45; unfold W45
  refine (idx63 f hcal p hp L hL s h hr).mono ?_
  rintro v h3 ⟨⟨k, rfl, hk⟩, E⟩
  exact ⟨_, rfl, by rw [hk], E⟩
def ixC (x : Ix) : List Value := [.int .i64 x.f, .int .i64 x.t, .int .i64 x.l]
def ixR (w : List Ix) : List (List Value) := w.map ixC
theorem ixR_get {l : List Ix} {i : Nat} {x : Ix} (h : l[i]? = some x) : (ixR l)[i]? = some (ixC x) := by unfold ixR; rw [List.getElem?_map, h]; rfl
theorem ixR_len (l : List Ix) : (ixR l).length = l.length := by simp [ixR]
theorem any31 (f : FuncId) (hcal : callable Tryd.prog f = true) (pc : Option Addr) (p : Ix → Bool) (L : List Ix) (hL : L.length ≤ 9223372036854775807) (s : Sl) (h : Heap) (hr : Rw h 3 s (ixR L))
    (hp : ∀ x h1, Ext h h1 → Fn Tryd.prog f #[.agg ⟨ixC x⟩, .pointer pc] h1 fun v h' => v = .bool (p x) ∧ Ext h1 h') :
    Fn Tryd.prog 31 #[.slice s.a s.n s.c, .func (.func f) #[] #[.pointer pc]] h fun v h' => v = .bool (L.any p) ∧ Ext h h' := by
  apply vc31; unfold W31
  have h54 : Fn Tryd.prog 54 #[.slice s.a s.n s.c, .func (.func f) #[] #[.pointer pc]] h fun v h' => (∃ k : Int, v = .int .i64 k ∧ decide (k ≥ 0) = L.any p) ∧ Ext h h' := by
    apply vc54; unfold W54
    have hn : s.n = L.length := by have := hr.1; rwa [ixR_len] at this
    refine up_loop (n := s.n) (fun i h' => Ext h h' ∧ ∀ (j : Nat) (y : Ix), j < i → L[j]? = some y → p y = false) ⟨Ext.refl h, fun j y hj => by omega⟩ ?_
    rintro - i h5 hi ⟨E5, hd⟩
    refine sB_intro (fun hlt => ?_) (fun hge => ?_)
    · have hlt' := lt_t hlt
      obtain ⟨c, hc⟩ := get_some (l := L) (i := i) (by omega)
      refine (hr.ext E5).nb (ixR_get hc) fun b o _ hat => ⟨⟨by omega, by omega⟩, _, _, _, hat, ?_⟩
      rw [hcal, cond_true]
      refine (hp c h5 E5).mono ?_
      rintro v h11 ⟨rfl, E11⟩
      refine ⟨_, rfl, sB_intro (fun ht => ?_) (fun ht => ?_)⟩
      · exact ⟨⟨_, rfl, by rw [any_t hc ht]; exact decide_eq_true (by omega)⟩, E5.trans E11⟩
      · exact Up.next hlt' (by omega) ⟨E5.trans E11, scan_next hc ht hd⟩
    · have hge' := lt_f hge
      refine ⟨⟨_, rfl, ?_⟩, E5⟩
      rw [any_f fun j y hy => hd j y (by have := (List.getElem?_eq_some_iff.1 hy).1; omega) hy]; rfl
  refine h54.mono ?_
  rintro v h3 ⟨⟨k, rfl, hk⟩, E⟩
  exact ⟨_, rfl, by rw [hk], E⟩
end Go.VC
