/- Contracts of chart's reading: columns, label, fits, find. -/
import Derived.Test.YtcaahhppapnbhaaDoorChH
set_option linter.unusedVariables false
set_option linter.unusedSimpArgs false

namespace Go.VC
open Go.Proofs Go.LexS Go.ChS Go.RowKit
set_option maxRecDepth 100000

theorem run_enter {P : Program} {f : FuncId} (hcal : callable P f = true) (args : Array Value) (w : World) : (callFunc f args).run P w = .ok (.enter f args) w := by
  unfold callable at hcal
  split at hcal
  · rename_i fn hfn
    simp only [Bool.and_eq_true, Bool.not_eq_true'] at hcal
    obtain ⟨body, hbody⟩ := Option.isSome_iff_exists.1 hcal.1
    simp only [callFunc, Sem.run_bind, run_program, Result.andThen_ok, hfn, hcal.2, Bool.false_eq_true, if_false, hbody, Option.isNone_some, Sem.run_pure]
  · cases hcal
theorem drop_while_len (l : List UInt8) : l.length - (l.dropWhile (· == 32)).length = gapS l := by
  unfold gapS
  have h := congrArg List.length (List.takeWhile_append_dropWhile (p := fun x : UInt8 => x == 32) (l := l))
  rw [List.length_append] at h
  omega
theorem drop_while_le (l : List UInt8) : (l.dropWhile (· == 32)).length ≤ l.length := by
  have h := congrArg List.length (List.takeWhile_append_dropWhile (p := fun x : UInt8 => x == 32) (l := l))
  rw [List.length_append] at h
  omega
theorem columns25 (g : Gv) (rs : List Nm) (dl : List Dl) (F : List UInt8) (hF : F.length ≤ 1000000) (h : Heap) (hg : GR h g rs dl) (hrl : ∀ r ∈ rs, r.length ≤ 1000000) :
    Fn Tryd.prog 25 #[g.v, .string (bs F)] h fun v h' => v = .int .i64 (colS rs F) ∧ Ext h h' := by
  apply vc25 g.nm g.rs g.ds g.n0 g.n1 g.n2 g.es g.ts; unfold W25
  have hrn := hg.nr
  refine newb (xs := g.cs) fun h9 E9 o9 => ⟨_, o9.hc 1, sB_intro (fun h1 => ⟨?_, E9⟩) (fun h1 => ?_)⟩
  · match rs, hrn, h1 with
    | [], _, _ => rfl
    | [r], _, _ => rfl
    | _ :: _ :: _, hrn, h1 => have := of_decide_eq_true h1; rw [hrn] at this; simp at this; omega
  match rs, hg, hrn, h1, hrl with
  | [], _, hrn, h1, _ => have := of_decide_eq_false h1; rw [hrn] at this; simp at this
  | [r], _, hrn, h1, _ => have := of_decide_eq_false h1; rw [hrn] at this; simp at this
  | r :: q :: rs, hg, hrn, h1, hrl =>
    have h9r := (hg.ext E9).r
    have hrl0 := hrl r (by simp)
    refine ⟨_, o9.hc 1, h9r.nb (i := 0) (strR_get rfl) fun b o _ hat => ⟨⟨by omega, by rw [hrn, List.length_cons]; omega⟩, _, hat.hd, ?_⟩⟩
    have c48 : Fn Tryd.prog 48 #[.string (bs F), .string (bs r)] h9 fun v h' => v = .tuple ⟨[.string (bs (Lib.trimPrefix F r)), .bool (Lib.hasPrefix F r)]⟩ ∧ h' = h9 :=
      Fn.of_same fun w => by have := Tryd.strings_CutPrefix (bs F) (bs r) w; rw [bs_list, bs_list] at this; exact this
    refine c48.mono ?_
    rintro v h18 ⟨rfl, rfl⟩
    refine ⟨_, _, rfl, ?_⟩
    generalize hT : Lib.trimPrefix F r = T
    have hTl : T.length ≤ 1000000 := by
      rw [← hT]; unfold Lib.trimPrefix; split
      · rw [List.length_drop]; omega
      · exact hF
    have c49 : Fn Tryd.prog 49 #[.string (bs T), .string ⟨#[32]⟩] h18 fun v h' => v = .string (bs (T.dropWhile (· == 32))) ∧ h' = h18 :=
      Fn.of_same fun w => by have := Tryd.strings_TrimLeft_one (bs T) 32 (by decide) w; rw [bs_list] at this; exact this
    refine c49.mono ?_
    rintro v h21 ⟨rfl, rfl⟩
    have hle := drop_while_le T
    have hgap := drop_while_len T
    refine ⟨_, rfl, ?_⟩
    rw [bs_size, bs_size, w64 (n := (T.length : Int) - ((T.dropWhile (· == 32)).length : Int)) (by omega) (by omega), show (T.length : Int) - ((T.dropWhile (· == 32)).length : Int) = ((gapS T : Nat) : Int) by omega]
    unfold colS
    refine sB_intro (fun h2 => ⟨?_, E9⟩) (fun h2 => sBe (fun h3 => ⟨?_, E9⟩) (fun h3 => ?_))
    · simp only []
      rw [if_neg]
      · rfl
      rintro ⟨hp, _⟩
      rw [Bool.not_eq_true'] at h2
      unfold Lib.hasPrefix at h2
      rw [h2] at hp; cases hp
    · rw [Bool.not_eq_false'] at h2
      have : T = F.drop r.length := by rw [← hT]; unfold Lib.trimPrefix; rw [if_pos h2]
      simp only []
      rw [if_neg]
      · rfl
      rintro ⟨_, hp⟩
      rw [← this] at hp; omega
    · rw [Bool.not_eq_false'] at h2
      have : T = F.drop r.length := by rw [← hT]; unfold Lib.trimPrefix; rw [if_pos h2]
      refine ⟨_, o9.hc 1, h9r.nb (i := 0) (strR_get rfl) fun b o _ hat => ⟨⟨by omega, by rw [hrn, List.length_cons]; omega⟩, _, hat.hd, ?_, E9⟩⟩
      simp only []
      rw [if_pos ⟨h2, by rw [← this]; omega⟩, ← this, bs_size, w64 (by omega) (by omega)]
      congr 1
/-! ### label -/
def pL (x : Nat) : Bool := decide (x < 128) && chl (UInt8.ofNat x)
def labelF (L : Nm) : Nm := if Lib.idxFunc pL true (bs L) < 0 then [] else (L.drop (Lib.idxFunc pL true (bs L)).toNat).takeWhile chl
theorem label72 (x : Nat) (hx : x ≤ 1114111) (h : Heap) : Fn Tryd.prog 72 #[.int .i32 x] h fun v h' => v = .bool (pL x) ∧ h' = h := by
  apply vc72; unfold W72 pL
  refine sBi (fun h1 => ?_) (fun h1 => ⟨?_, rfl⟩)
  · have h1' : x < 128 := by omega
    have e : (UInt8.ofNat x).toNat = x := by simp; omega
    rw [wu8 (by omega) (by omega), decide_eq_true h1']
    have := chl43 (UInt8.ofNat x) h
    rw [e] at this
    refine this.mono ?_
    rintro v h3 ⟨rfl, rfl⟩
    exact ⟨_, rfl, by rw [Bool.true_and], rfl⟩
  · rw [decide_eq_false (by omega)]; rfl
theorem idx71 (L : Nm) (h : Heap) : Fn Tryd.prog 71 #[.string (bs L), .func (.func 72) #[] #[]] h fun v h' => v = .int .i64 (Lib.idxFunc pL true (bs L)) ∧ Ext h h' := by
  intro w hw
  refine (Tryd.strings_IndexFunc_grows 72 #[] (fun args w => ?_) pL (bs L) w ?_).mono ?_
  · exact run_enter (by kernel_rfl) args w
  · intro W x hx hb
    refine ((label72 x hx W.heap).calls).mono ?_
    rintro e w' ⟨v, rfl, ⟨rfl, hh⟩, h1, h2, h3⟩
    exact ⟨rfl, h1, h2, h3, by rw [hh]; exact Nat.le_refl _, fun k _ => by rw [hh]⟩
  · rintro e w' ⟨rfl, hbel⟩
    refine ⟨_, rfl, ⟨rfl, ?_⟩, hbel.os, hbel.tape, hbel.output⟩
    rw [← hw]; exact ⟨hbel.size, hbel.block⟩
theorem label50 (L : Nm) (hL : L.length ≤ 1000000) (h : Heap) : Fn Tryd.prog 50 #[.string (bs L)] h fun v h' => v = .string (bs (labelF L)) ∧ Ext h h' := by
  apply vc50; unfold W50
  refine (idx71 L h).mono ?_
  rintro v h3 ⟨rfl, E3⟩
  have hrange := Lib.idxFunc_range pL true (bs L)
  unfold labelF
  rw [bs_size] at hrange
  generalize Lib.idxFunc pL true (bs L) = k at *
  refine ⟨_, rfl, sBi (fun h1 => ⟨?_, E3⟩) (fun h1 => ?_)⟩
  · rw [if_pos h1]; rfl
  rw [if_neg h1]
  obtain ⟨hk0, hk1⟩ : 0 ≤ k ∧ k < L.length := by omega
  obtain ⟨k, rfl⟩ := Int.eq_ofNat_of_zero_le hk0
  rw [show Int.toNat (k : Int) = k from rfl]
  have fin : ∀ q, k ≤ q → q ≤ L.length → (∀ j c, k ≤ j → j < q → L[j]? = some c → chl c = true) → (∀ c, L[q]? = some c → chl c = false) → ByteArray.extract (bs L) k q = bs ((L.drop k).takeWhile chl) := fun q h1 h2 h3 h4 => by
    rw [ext_bs, bs_list, takeWhile_at (L.drop k) (q - k) (fun i b hi hb => h3 (k + i) b (by omega) (by omega) (by rwa [List.getElem?_drop] at hb)) (fun b hb => h4 b (by rwa [List.getElem?_drop, show k + (q - k) = q by omega] at hb))]
  refine ⟨fun x h' m => ∃ q : Nat, x = q ∧ m = L.length - q ∧ k ≤ q ∧ q ≤ L.length ∧ h' = h3 ∧ ∀ (j : Nat) (c : UInt8), k ≤ j → j < q → L[j]? = some c → chl c = true, ⟨_, k, rfl, rfl, by omega, by omega, rfl, fun j c h1 h2 => by omega⟩, ?_⟩
  rintro - x h8 m ⟨q, rfl, rfl, hq1, hq2, rfl, hall⟩
  rw [bs_size]
  refine sBi (fun hlt => ?_) (fun hge => ?_)
  · have hlt' : q < L.length := by omega
    obtain ⟨b, hb, hby⟩ := byte_get (s := bs L) (i := q) (by rw [bs_size]; exact hlt')
    rw [bs_list] at hb
    refine ⟨⟨by omega, by omega⟩, ?_⟩
    rw [show Int.toNat (q : Int) = q from rfl, hby]
    refine (chl43 b h8).mono ?_
    rintro v h11 ⟨rfl, rfl⟩
    refine ⟨_, rfl, sB_intro (fun ht => ?_) (fun hf => ?_)⟩
    · refine ⟨_, ?_, q + 1, ?_, rfl, by omega, by omega, rfl, fun j c h1 h2 hc => ?_⟩
      · omega
      · rw [w64 (by omega) (by omega)]; omega
      · by_cases e : j = q
        · subst e; rw [hb] at hc; cases hc; exact ht
        · exact hall j c h1 (by omega) hc
    · refine ⟨⟨by omega, by omega, by omega⟩, ?_, E3⟩
      rw [fin q hq1 hq2 hall (fun c hc => by rw [hb] at hc; cases hc; exact hf)]
  · refine ⟨⟨by omega, by omega, by omega⟩, ?_, E3⟩
    rw [show Int.toNat (q : Int) = q from rfl, fin q hq1 hq2 hall (fun c hc => by have := (List.getElem?_eq_some_iff.1 hc).1; omega)]
theorem idx_ascii {L : Nm} (hL : ∀ c ∈ L, c.toNat < 128) : ∀ (f pos : Nat), L.length ≤ pos + f →
    (Lib.idxFuncFrom pL true (bs L) f pos = -1 ∧ ∀ (j : Nat) (c : UInt8), pos ≤ j → L[j]? = some c → chl c = false) ∨
    (∃ k : Nat, Lib.idxFuncFrom pL true (bs L) f pos = k ∧ pos ≤ k ∧ (∃ c, L[k]? = some c ∧ chl c = true) ∧ ∀ (j : Nat) (c : UInt8), pos ≤ j → j < k → L[j]? = some c → chl c = false)
  | 0, pos, h => .inl ⟨rfl, fun j c hj hc => by have := (List.getElem?_eq_some_iff.1 hc).1; omega⟩
  | f + 1, pos, h => by
    unfold Lib.idxFuncFrom
    rw [bs_size]
    by_cases hlt : pos < L.length
    · rw [if_pos hlt]
      obtain ⟨b, hb⟩ := get_some hlt
      have hp : pos < (bs L).size := by rw [bs_size]; exact hlt
      have hbb : ((bs L)[pos]'hp) = b := by
        have h1 : (bs L).data.toList[pos]? = some b := by rw [bs_list]; exact hb
        rw [Array.getElem?_toList] at h1
        exact (Array.getElem?_eq_some_iff.1 h1).2
      have hasc := hL b (List.mem_of_getElem? hb)
      rw [decode_ascii (bs L) pos hp (by rw [hbb]; exact hasc), hbb]
      have hpl : pL b.toNat = chl b := by
        unfold pL
        rw [decide_eq_true hasc, Bool.true_and]
        congr 1; simp
      rw [hpl]
      by_cases hc : chl b = true
      · rw [if_pos hc]
        exact .inr ⟨pos, rfl, Nat.le_refl _, ⟨b, hb, hc⟩, fun j c h1 h2 => by omega⟩
      · rw [if_neg hc]
        have hcf : chl b = false := by simpa using hc
        have step : ∀ (j : Nat) (c : UInt8), j = pos → L[j]? = some c → chl c = false := fun j c e hj => by subst e; rw [hb] at hj; cases hj; exact hcf
        rcases idx_ascii hL f (pos + 1) (by omega) with ⟨h1, h2⟩ | ⟨k, h1, h2, h3, h4⟩
        · refine .inl ⟨h1, fun j c hj hc => ?_⟩
          by_cases e : j = pos
          · exact step j c e hc
          · exact h2 j c (by omega) hc
        · refine .inr ⟨k, h1, by omega, h3, fun j c hj hk hc => ?_⟩
          by_cases e : j = pos
          · exact step j c e hc
          · exact h4 j c (by omega) hk hc
    · rw [if_neg hlt]
      exact .inl ⟨rfl, fun j c hj hc => by have := (List.getElem?_eq_some_iff.1 hc).1; omega⟩
theorem labelF_ascii {L : Nm} (hL : ∀ c ∈ L, c.toNat < 128) : labelF L = labelS L := by
  unfold labelF labelS Lib.idxFunc
  rw [bs_size]
  rcases idx_ascii hL L.length 0 (by omega) with ⟨h1, h2⟩ | ⟨k, h1, h2, ⟨c, h3, h4⟩, h5⟩
  · rw [h1, if_pos (by decide)]
    rw [dropWhile_at L L.length (fun i b hi hb => by rw [h2 i b (by omega) hb]; rfl) (fun b hb => by have := (List.getElem?_eq_some_iff.1 hb).1; omega), List.drop_length]
    rfl
  · rw [h1, if_neg (by omega), show Int.toNat (k : Int) = k from rfl]
    rw [dropWhile_at L k (fun i b hi hb => by rw [h5 i b (by omega) hi hb]; rfl) (fun b hb => by rw [h3] at hb; cases hb; rw [h4]; rfl)]
theorem line_ascii {n w f t : Nat} {nm : Nm} (hn : ∀ c ∈ nm, chl c = true) : ∀ c ∈ lineN n w f t nm, c.toNat < 128 := by
  intro c hc
  unfold lineN at hc
  obtain ⟨i, _, rfl⟩ := List.mem_map.1 hc
  unfold chS
  split
  · split
    · decide
    · split
      · decide
      · split
        · rename_i h
          exact chl_lt (hn (nm.getD (i - min f t * w - 2) 0) (by rw [List.getD_eq_getElem?_getD, List.getElem?_eq_getElem (by omega)]; exact List.getElem_mem _))
        · decide
  · split <;> decide
theorem fits26 (g : Gv) (L : Nm) (hL : L.length ≤ 1000000) (w : Nat) (hw : w ≤ 1000000) (h : Heap) :
    Fn Tryd.prog 26 #[g.v, .string (bs L), .int .i64 w] h fun v h' => v = .bool (decide ((labelF L).length + 4 ≤ w)) ∧ Ext h h' := by
  apply vc26 g.nm g.rs g.ds g.n0 g.n1 g.n2 g.es g.ts; unfold W26
  refine newb (xs := g.cs) fun h9 E9 o9 => ?_
  refine (label50 L hL h9).mono ?_
  rintro v h12 ⟨rfl, E12⟩
  refine ⟨_, rfl, ?_, E9.trans E12⟩
  rw [bs_size, w64 (by omega) (by omega)]
  congr 1
  rw [decide_eq_decide]; omega
end Go.VC
