/- More lemmas for the conditions of VcCore: frames, slices of the call's own, append. -/
import Derived.Test.YtcaahhppapnbhaaDoorVcLib
set_option linter.unusedVariables false
set_option linter.unusedSimpArgs false

namespace Go.VC
open Go.RowKit

/-- blocks below n are as they were; none has gone -/
def Kp (n : Nat) (h h' : Heap) : Prop := h.size ≤ h'.size ∧ ∀ k, k < n → h'[k]? = h[k]?
theorem Kp.refl (n : Nat) (h : Heap) : Kp n h h := ⟨Nat.le_refl _, fun _ _ => rfl⟩
theorem Kp.trans {n : Nat} {a b c : Heap} (h : Kp n a b) (k : Kp n b c) : Kp n a c := ⟨Nat.le_trans h.1 k.1, fun i hi => (k.2 i hi).trans (h.2 i hi)⟩
theorem Kp.mono {n m : Nat} {a b : Heap} (h : Kp n a b) (hm : m ≤ n) : Kp m a b := ⟨h.1, fun i hi => h.2 i (by omega)⟩
theorem Kp.push {n : Nat} (h : Heap) (o : Obj) (hn : n ≤ h.size) : Kp n h (h.push o) := ⟨by simp, fun _ hk => push_lt (by omega)⟩
theorem Kp.ext {h h' : Heap} (hk : Kp h.size h h') : Ext h h' := hk
theorem Ext.kp {h h' : Heap} (hE : Ext h h') {n : Nat} (hn : n ≤ h.size) : Kp n h h' := ⟨hE.1, fun k hk => hE.2 k (by omega)⟩
theorem Kp.but {n b : Nat} {h h' : Heap} (hb : But b h h') (hn : n ≤ b) : Kp n h h' := ⟨by rw [hb.1]; exact Nat.le_refl _, fun k hk => hb.2 k (by omega)⟩
theorem Kp.own {n b : Nat} {h h' : Heap} (hk : Kp n h h') {xs : List Value} {e : TypeId} (ho : Own h b xs e) (hb : b < n) : Own h' b xs e := (hk.2 b hb).trans ho
theorem Kp.hc {n : Nat} {h h' : Heap} (hk : Kp n h h') {a : Addr} (ha : a.block < n) : VC.hc h' a = VC.hc h a := hc_of_block (hk.2 _ ha)
theorem Kp.atC {n : Nat} {h h' : Heap} (hk : Kp n h h') {a : Addr} (ha : a.block < n) {vs : List Value} (hv : atC h a vs) : atC h' a vs := fun i v hi => by
  rw [hk.hc (by rw [addk_block]; exact ha)]; exact hv i v hi
/-- all blocks that stood there but b are as they were -/
def Stp (b : Nat) (h h' : Heap) : Prop := h.size ≤ h'.size ∧ ∀ k, k < h.size → k ≠ b → h'[k]? = h[k]?
theorem Stp.refl (b : Nat) (h : Heap) : Stp b h h := ⟨Nat.le_refl _, fun _ _ _ => rfl⟩
theorem Stp.trans {b : Nat} {h1 h2 h3 : Heap} (h : Stp b h1 h2) (k : Stp b h2 h3) : Stp b h1 h3 := ⟨Nat.le_trans h.1 k.1, fun i hi hb => (k.2 i (Nat.lt_of_lt_of_le hi h.1) hb).trans (h.2 i hi hb)⟩
theorem Stp.of_but {b : Nat} {h h' : Heap} (hb : But b h h') : Stp b h h' := ⟨by rw [hb.1]; exact Nat.le_refl _, fun k _ hk => hb.2 k hk⟩
theorem Stp.of_ext {b : Nat} {h h' : Heap} (hE : Ext h h') : Stp b h h' := ⟨hE.1, fun k hk _ => hE.2 k hk⟩
theorem Stp.kp {b n : Nat} {h h' : Heap} (hs : Stp b h h') (hn : n ≤ b) (hl : n ≤ h.size) : Kp n h h' := ⟨hs.1, fun k hk => hs.2 k (by omega) (by omega)⟩
theorem Stp.own {b c : Nat} {h h' : Heap} (hs : Stp b h h') {xs : List Value} {e : TypeId} (ho : Own h c xs e) (hne : c ≠ b) : Own h' c xs e := (hs.2 c ho.lt hne).trans ho

/-- slice s has the elements whose cells are xs, in a block of its own from base on (or is nil) -/
def OwnS (h : Heap) (base : Nat) (e : TypeId) (size : Nat) (s : Sl) (xs : List Value) : Prop :=
  xs.length = s.n * size ∧ ((s.a = none ∧ s.n = 0 ∧ s.c = 0) ∨
    ∃ g cur, s.a = some ⟨g, 0, none⟩ ∧ base ≤ g ∧ h[g]? = some (.cells cur e (0, 0)) ∧ s.n ≤ s.c ∧ s.c ≤ maxLen ∧ cur.size = s.c * size ∧ cur.toList.take (s.n * size) = xs)
theorem OwnS.nil {h : Heap} {base : Nat} {e : TypeId} {size : Nat} : OwnS h base e size ⟨none, 0, 0⟩ [] := ⟨by simp, .inl ⟨rfl, rfl, rfl⟩⟩
theorem OwnS.row {w : World} {base : Nat} {e : TypeId} {size : Nat} {s : Sl} {xs : List Value} (h : OwnS w.heap base e size s xs) : w.ownsRow base e size (.slice s.a s.n s.c) s.n xs := by
  obtain ⟨h1, h2⟩ := h
  refine ⟨h1, ?_⟩
  rcases h2 with ⟨ha, hn, hc⟩ | ⟨g, cur, ha, hb, hh, hn, hc, hs, ht⟩
  · exact .inl ⟨by rw [ha, hn, hc], hn⟩
  · exact .inr ⟨g, s.c, cur, by rw [ha], hb, hh, hn, hc, hs, ht⟩
theorem OwnS.of_row {w : World} {base : Nat} {e : TypeId} {size : Nat} {v : Value} {n : Nat} {xs : List Value} (h : w.ownsRow base e size v n xs) :
    ∃ s : Sl, v = .slice s.a s.n s.c ∧ s.n = n ∧ OwnS w.heap base e size s xs := by
  obtain ⟨h1, h2⟩ := h
  rcases h2 with ⟨hv, hn⟩ | ⟨g, cap, cur, hv, hb, hh, hn, hc, hs, ht⟩
  · exact ⟨⟨none, 0, 0⟩, hv, hn.symm, by rw [hn] at h1; exact ⟨h1, .inl ⟨rfl, rfl, rfl⟩⟩⟩
  · exact ⟨⟨some ⟨g, 0, none⟩, n, cap⟩, hv, rfl, h1, .inr ⟨g, cur, rfl, hb, hh, hn, hc, hs, ht⟩⟩
theorem OwnS.kp {h h' : Heap} {base : Nat} {e : TypeId} {size : Nat} {s : Sl} {xs : List Value} (ho : OwnS h base e size s xs) (hE : ∀ g, s.a = some ⟨g, 0, none⟩ → g < h.size → h'[g]? = h[g]?) : OwnS h' base e size s xs := by
  obtain ⟨h1, h2⟩ := ho
  refine ⟨h1, ?_⟩
  rcases h2 with h2 | ⟨g, cur, ha, hb, hh, r⟩
  · exact .inl h2
  · exact .inr ⟨g, cur, ha, hb, by rw [hE g ha (Array.getElem?_eq_some_iff.1 hh).1]; exact hh, r⟩
theorem OwnS.ext {h h' : Heap} {base : Nat} {e : TypeId} {size : Nat} {s : Sl} {xs : List Value} (ho : OwnS h base e size s xs) (hE : Ext h h') : OwnS h' base e size s xs := ho.kp fun g _ hl => hE.2 g hl
theorem OwnS.stp {h h' : Heap} {base : Nat} {e : TypeId} {size : Nat} {s : Sl} {xs : List Value} (ho : OwnS h base e size s xs) {b : Nat} (hb : b < base) (hs : Stp b h h') : OwnS h' base e size s xs := by
  obtain ⟨h1, h2⟩ := ho
  refine ⟨h1, ?_⟩
  rcases h2 with h2 | ⟨g, cur, ha, hg, hh, r⟩
  · exact .inl h2
  · exact .inr ⟨g, cur, ha, hg, by rw [hs.2 g (Array.getElem?_eq_some_iff.1 hh).1 (by omega)]; exact hh, r⟩
/-- a cell of it -/
theorem OwnS.hc {h : Heap} {base : Nat} {e : TypeId} {size : Nat} {s : Sl} {xs : List Value} (ho : OwnS h base e size s xs) {g : Nat} (hg : s.a = some ⟨g, 0, none⟩) {i : Nat} {v : Value} (hv : xs[i]? = some v) : hc h ⟨g, i, none⟩ = some v := by
  obtain ⟨h1, h2⟩ := ho
  rcases h2 with ⟨ha, _⟩ | ⟨g', cur, ha, hb, hh, hn, hc, hs, ht⟩
  · rw [ha] at hg; cases hg
  · rw [ha] at hg; cases hg
    unfold VC.hc
    rw [hh]
    simp only [Option.isSome_none, Bool.false_eq_true, if_false]
    rw [← ht] at hv
    rw [List.getElem?_take] at hv
    split at hv
    · rw [← Array.getElem?_toList]; exact hv
    · cases hv
theorem OwnS.some {h : Heap} {base : Nat} {e : TypeId} {size : Nat} {s : Sl} {xs : List Value} (ho : OwnS h base e size s xs) (hn : s.n ≠ 0) : ∃ g, s.a = some ⟨g, 0, none⟩ ∧ base ≤ g := by
  rcases ho.2 with ⟨_, h0, _⟩ | ⟨g, cur, ha, hb, _⟩
  · exact absurd h0 hn
  · exact ⟨g, ha, hb⟩

/-- append's type facts, for the kernel -/
def appB (P : Program) (t e size bytes : Nat) : Bool :=
  sliceB P t && Nat.beq (elemOf P t) e && isT P e && ((P.info? e).bind (·.zero)).isSome && Nat.beq (zeroC P e).length size && Nat.beq (szOf P e) size && Nat.beq (byOf P e) bytes && Nat.blt 0 size
theorem App_own {P : Program} {t e size bytes : Nat} (hT : appB P t e size bytes = true) {h : Heap} {base : Nat} {s : Sl} {xs : List Value} (ho : OwnS h base e size s xs) (hb : base ≤ h.size)
    {x : Addr} {m c : Nat} {news : List Value} (hx : atC h x news) (hl : news.length = m * size) (h1 : news.all oneB = true) (hbytes : (s.n + m) * bytes ≤ 140737488355328) (h63 : s.n + m ≤ maxLen)
    {K : Sl → Heap → Prop} (hK : ∀ (r : Sl) (h' : Heap), r.n = s.n + m → OwnS h' base e size r (xs ++ news) → h.size ≤ h'.size → (∀ k, k < h.size → (∀ g, s.a = some ⟨g, 0, none⟩ → k ≠ g) → h'[k]? = h[k]?) → K r h') :
    App P t t (.slice s.a s.n s.c) (.slice (some x) m c) h K := by
  intro ty w hw
  subst hw
  unfold appB at hT
  simp only [Bool.and_eq_true] at hT
  obtain ⟨⟨⟨⟨⟨⟨⟨hs, he⟩, ht⟩, hz⟩, hzl⟩, hsz⟩, hby⟩, hpos⟩ := hT
  have hu := sliceB_e hs
  rw [beqT he] at hu
  obtain ⟨i, hi⟩ := isT_info ht
  obtain ⟨z, hz'⟩ := Option.isSome_iff_exists.1 hz
  rw [hi] at hz'
  simp only [Option.bind_some] at hz'
  have e1 : i.size = size := by have := beqT hsz; simpa [szOf, hi] using this
  have e2 : i.bytes = bytes := by have := beqT hby; simpa [byOf, hi] using this
  have e3 : z.cells.size = size := by have := beqT hzl; simpa [zeroC, hi, hz'] using this
  obtain ⟨v', w', hr, hown, hg, _⟩ := run_append_own (P := P) w base t ty e i z size bytes hu hi hz' e1 e2 e3 (by simpa using hpos) _ s.n xs ho.row x m c news hl
    (fun j u hj => by rw [addk_add]; exact hx j u hj) (fun u hu => by
      rw [List.all_eq_true] at h1
      exact oneB_cell (h1 u hu)) h63 hbytes hb
  obtain ⟨r, hv, hn, hor⟩ := OwnS.of_row hown
  refine ⟨v', w', hr, ⟨r, hv, hK r w'.heap hn hor hg.size ?_⟩, hg.os, hg.tape, hg.output⟩
  intro k hk hne
  refine hg.block k hk ?_
  intro e
  rcases ho.2 with ⟨ha, _⟩ | ⟨g, cur, ha, _⟩
  · rw [ha] at e; cases e
  · rw [ha] at e
    simp only [Value.ownBlock, Option.some.injEq] at e
    exact hne g ha e
/-- append(s, x) of one element that has just been laid -/
theorem App_one {P : Program} {t e size bytes : Nat} (hT : appB P t e size bytes = true) {h : Heap} {base : Nat} {s : Sl} {xs : List Value} (ho : OwnS h base e size s xs) (hb : base ≤ h.size)
    {news : List Value} (hl : news.length = size) (h1 : news.all oneB = true) (hbytes : (s.n + 1) * bytes ≤ 140737488355328) (h63 : s.n + 1 ≤ maxLen)
    {K : Sl → Heap → Prop} (hK : ∀ (r : Sl) (h' : Heap), r.n = s.n + 1 → OwnS h' base e size r (xs ++ news) → Kp base h h' → (∀ k, k < h.size → (∀ g, s.a = some ⟨g, 0, none⟩ → k ≠ g) → h'[k]? = h[k]?) → K r h') :
    ∀ h2 : Heap, h2 = h.push (.cells ⟨news⟩ e) → App P t t (.slice s.a s.n s.c) (.slice (some ⟨h.size, 0, none⟩) 1 1) h2 K := by
  rintro h2 rfl
  have hE := Ext.push h (.cells ⟨news⟩ e)
  refine App_own hT (ho.ext hE) (by simp; omega) (Own.atC Own.push (fun i v hi => by simpa using hi)) (by simpa using hl) h1 hbytes h63 fun r h' hn hr hsz hkeep => hK r h' hn hr ⟨Nat.le_trans hE.1 hsz, fun k hk => ?_⟩ fun k hk hne => ?_
  · have hk2 : k < h.size := by omega
    rw [hkeep k (Nat.lt_of_lt_of_le hk2 hE.1) (fun g hg => ?_), hE.2 k hk2]
    rcases ho.2 with ⟨ha, _⟩ | ⟨g', cur, ha, hb', _⟩
    · rw [ha] at hg; cases hg
    · rw [ha] at hg; cases hg; omega
  · rw [hkeep k (Nat.lt_of_lt_of_le hk hE.1) hne, hE.2 k hk]
end Go.VC
