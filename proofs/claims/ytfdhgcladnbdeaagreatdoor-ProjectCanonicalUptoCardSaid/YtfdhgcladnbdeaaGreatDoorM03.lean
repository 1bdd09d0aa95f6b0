/- Texts of this claim, joined: VcSt, VcSt2, LexSpec, PjSpec, PjMem, PjI0, PjJ0, PjK0, PjL0, PjO0, PjQ0, PjR0, VcMap. -/
import Derived.Test.YtfdhgcladnbdeaaGreatDoorM02
import Derived.ArgAppend
import Derived.Maps.Keyed
import Derived.ChangeMaps5
import Derived.Carry
set_option linter.unusedVariables false
set_option linter.unusedSimpArgs false

section
/- For every program: the memory of a call's own as one list of blocks and slices that are apart from each other. -/
namespace Go.VC
open Go.RowKit
set_option maxRecDepth 100000

/-- an own slice that begins anywhere in its block: a queue whose head has moved -/
def OwnQ (h : Heap) (e : TypeId) (k : Nat) (s : Sl) (xs : List Value) : Prop :=
  xs.length = s.n * k ∧ ((s.a = none ∧ s.n = 0 ∧ s.c = 0) ∨ ∃ g o cur, s.a = some ⟨g, o, none⟩ ∧ h[g]? = some (.cells cur e (0, 0)) ∧ s.n ≤ s.c ∧ s.c ≤ maxLen ∧ o + s.c * k ≤ cur.size ∧ (cur.toList.drop o).take (s.n * k) = xs)
inductive It where
  | blk (b : Nat) (xs : List Value) (e : TypeId)
  | sl (s : Sl) (e : TypeId) (k : Nat) (rows : List (List Value))
  | q (s : Sl) (e : TypeId) (k : Nat) (rows : List (List Value))
  | mp (b : Nat) (kvs : List (Value × Value))
def It.at : It → Option Nat
  | .blk b _ _ => some b
  | .sl s _ _ _ => s.a.map (·.block)
  | .q s _ _ _ => s.a.map (·.block)
  | .mp b _ => some b
def It.ok (h : Heap) : It → Prop
  | .blk b xs e => Own h b xs e
  | .sl s e k rows => OwnS h 0 e k s rows.flatten ∧ ∀ r ∈ rows, r.length = k
  | .q s e k rows => OwnQ h e k s rows.flatten ∧ ∀ r ∈ rows, r.length = k
  | .mp b kvs => ∃ es clock, h[b]? = some (.map es clock) ∧ es.toList.map (fun e : MapEntry => (e.key, e.val)) = kvs
def It.fr (n : Nat) (i : It) : Prop := ∀ b, i.at = some b → n ≤ b
def It.apart (i j : It) : Prop := ∀ b, i.at = some b → j.at ≠ some b
/-- since h0 only this call's own blocks have turned, and they hold L -/
structure St (h0 h : Heap) (L : List It) : Prop where
  ext : Ext h0 h
  ok : ∀ i ∈ L, i.ok h ∧ i.fr h0.size
  ap : L.Pairwise It.apart
theorem own_at_zero {h : Heap} {base : Nat} {e : TypeId} {k : Nat} {s : Sl} {xs : List Value} (ho : OwnS h base e k s xs) {b : Nat} (hb : s.a.map (·.block) = some b) : s.a = some ⟨b, 0, none⟩ ∧ b < h.size ∧ base ≤ b := by
  rcases ho.2 with ⟨ha, _⟩ | ⟨g, cur, ha, hg, hh, _⟩
  · rw [ha] at hb; cases hb
  · rw [ha] at hb
    simp only [Option.map_some, Option.some.injEq] at hb
    subst hb
    exact ⟨ha, (Array.getElem?_eq_some_iff.1 hh).1, hg⟩
theorem It.ok.lt {h : Heap} {i : It} (ho : i.ok h) {b : Nat} (hb : i.at = some b) : b < h.size := by
  cases i with
  | blk c xs e => cases hb; exact Own.lt ho
  | sl s e k rows => exact (own_at_zero ho.1 hb).2.1
  | q s e k rows =>
    replace hb : s.a.map (·.block) = some b := hb
    rcases ho.1.2 with ⟨h1, _⟩ | ⟨g, o, cur, ha, hg, _⟩
    · rw [h1] at hb; cases hb
    · rw [ha] at hb; cases hb
      exact (Array.getElem?_eq_some_iff.1 hg).1
  | mp c kvs =>
    cases hb
    obtain ⟨es, clock, hg, _⟩ := ho
    exact (Array.getElem?_eq_some_iff.1 hg).1
theorem It.ok.keep {h h' : Heap} {i : It} (ho : i.ok h) (hk : ∀ b, i.at = some b → h'[b]? = h[b]?) : i.ok h' := by
  cases i with
  | blk c xs e => exact (hk c rfl).trans ho
  | sl s e k rows => exact ⟨ho.1.kp fun g hg _ => hk g (by show s.a.map (·.block) = _; rw [hg]; rfl), ho.2⟩
  | q s e k rows =>
    refine ⟨⟨ho.1.1, ?_⟩, ho.2⟩
    rcases ho.1.2 with h1 | ⟨g, o, cur, ha, hg, r⟩
    · exact .inl h1
    · exact .inr ⟨g, o, cur, ha, (hk g (by show s.a.map (·.block) = _; rw [ha]; rfl)).trans hg, r⟩
  | mp c kvs =>
    obtain ⟨es, clock, hg, he⟩ := ho
    exact ⟨es, clock, (hk c rfl).trans hg, he⟩
theorem St.refl (h : Heap) : St h h [] := ⟨⟨Nat.le_refl _, fun _ _ => rfl⟩, fun _ hi => (by cases hi), .nil⟩
theorem St.step {h0 h h' : Heap} {L : List It} (hs : St h0 h L) (E : Ext h h') : St h0 h' L :=
  ⟨hs.ext.trans E, fun i hi => ⟨(hs.ok i hi).1.keep fun b hb => E.2 b ((hs.ok i hi).1.lt hb), (hs.ok i hi).2⟩, hs.ap⟩
theorem St.more {h0 h h' : Heap} {L : List It} (hs : St h0 h L) (E : Ext h h') {i : It} (ho : i.ok h') (hf : i.fr h.size) : St h0 h' (i :: L) := by
  refine ⟨hs.ext.trans E, fun j hj => ?_, List.pairwise_cons.2 ⟨fun j hj b hb hc => ?_, hs.ap⟩⟩
  · rcases List.mem_cons.1 hj with rfl | hj
    · exact ⟨ho, fun b hb => Nat.le_trans hs.ext.1 (hf b hb)⟩
    · exact (hs.step E).ok j hj
  · have h1 := (hs.ok j hj).1.lt hc
    have h2 := hf b hb
    omega
theorem St.newb {h0 h : Heap} {L : List It} (hs : St h0 h L) {xs : List Value} {e : TypeId} {K : Heap → Prop} (hK : ∀ h2, St h0 h2 (.blk h.size xs e :: L) → K h2) : ∀ h2 : Heap, h2 = h.push (.cells ⟨xs⟩ e) → K h2 :=
  VC.newb fun h2 E o => hK h2 (hs.more E (i := .blk h.size xs e) o fun b hb => by cases hb; exact Nat.le_refl _)
theorem St.newput {h0 h : Heap} {L : List It} (hs : St h0 h L) {zs vs : List Value} {e : TypeId} {K : Heap → Prop} {n : Nat} (hn : n = vs.length) (hl : zs.length = vs.length) (hK : ∀ h3, St h0 h3 (.blk h.size vs e :: L) → K h3) :
    ∀ h2 : Heap, h2 = h.push (.cells ⟨zs⟩ e) → okAt h2 ⟨h.size, 0, none⟩ n ∧ ∀ h3 : Heap, h3 = hputs h2 ⟨h.size, 0, none⟩ 0 vs → K h3 := by
  subst hn
  exact VC.newput hl fun h3 E o => hK h3 (hs.more E (i := .blk h.size vs e) o fun b hb => by cases hb; exact Nat.le_refl _)
theorem St.get {h0 h : Heap} {L : List It} (hs : St h0 h L) {k : Nat} {i : It} (hk : L[k]? = some i) : i.ok h := (hs.ok i (List.mem_of_getElem? hk)).1
theorem St.rd {h0 h : Heap} {L : List It} (hs : St h0 h L) (k : Nat) {b : Nat} {xs : List Value} {e : TypeId} (hk : L[k]? = some (.blk b xs e)) {i : Nat} {v : Value} (hi : xs[i]? = some v) : hc h ⟨b, i, none⟩ = some v := by
  have := hs.get hk
  rw [Own.hc this]; exact hi
theorem St.at {h0 h : Heap} {L : List It} (hs : St h0 h L) (k : Nat) {b : Nat} {xs : List Value} {e : TypeId} (hk : L[k]? = some (.blk b xs e)) {o n : Nat} {vs : List Value} (hv : (xs.drop o).take n = vs) : atC h ⟨b, o, none⟩ vs := by
  refine Own.atC (hs.get hk) fun i v hi => ?_
  subst hv
  rw [List.getElem?_take] at hi
  split at hi
  · rw [List.getElem?_drop] at hi; exact hi
  · cases hi
theorem St.sub {h0 h : Heap} {L L' : List It} (hs : St h0 h L) (hl : L'.Sublist L) : St h0 h L' := ⟨hs.ext, fun i hi => hs.ok i (hl.subset hi), hs.ap.sublist hl⟩
theorem St.drop {h0 h : Heap} {L : List It} (hs : St h0 h L) (n : Nat) : St h0 h (L.drop n) := hs.sub (List.drop_sublist n L)
theorem St.eras {h0 h : Heap} {L : List It} (hs : St h0 h L) (n : Nat) : St h0 h (L.eraseIdx n) := hs.sub (List.eraseIdx_sublist L n)
/-- the k-th turns; the others lie in other blocks -/
theorem St.turn {h0 h h' : Heap} {L : List It} (hs : St h0 h L) {k : Nat} {i j : It} (hk : L[k]? = some i) (hsz : h.size ≤ h'.size) (ho : j.ok h') (hf : ∀ b, j.at = some b → h.size ≤ b ∨ i.at = some b)
    (hkeep : ∀ b, b < h.size → i.at ≠ some b → h'[b]? = h[b]?) : St h0 h' (L.set k j) := by
  have hi := List.mem_of_getElem? hk
  have hkl : k < L.length := (List.getElem?_eq_some_iff.1 hk).1
  have hki : L[k] = i := (List.getElem?_eq_some_iff.1 hk).2
  have old : ∀ b, i.at = some b → h0.size ≤ b := (hs.ok i hi).2
  have apart : ∀ (m : Nat) (x : It), L[m]? = some x → m ≠ k → ∀ b, x.at = some b → i.at ≠ some b := by
    intro m x hm hmk b hb hc
    have hml := (List.getElem?_eq_some_iff.1 hm).1
    have hmx := (List.getElem?_eq_some_iff.1 hm).2
    have hp := List.pairwise_iff_getElem.1 hs.ap
    rcases Nat.lt_or_gt_of_ne hmk with hlt | hlt
    · have := hp m k hml hkl hlt b (by rw [hmx]; exact hb)
      rw [hki] at this; exact this hc
    · have := hp k m hkl hml hlt b (by rw [hki]; exact hc)
      rw [hmx] at this; exact this hb
  refine ⟨⟨Nat.le_trans hs.ext.1 hsz, fun b hb => ?_⟩, fun x hx => ?_, ?_⟩
  · rw [hkeep b (Nat.lt_of_lt_of_le hb hs.ext.1) fun hc => by have := old b hc; omega]
    exact hs.ext.2 b hb
  · obtain ⟨m, hm⟩ := List.mem_iff_getElem?.1 hx
    by_cases hmk : m = k
    · subst hmk
      rw [List.getElem?_set_self hkl] at hm; cases hm
      refine ⟨ho, fun b hb => ?_⟩
      rcases hf b hb with h1 | h1
      · exact Nat.le_trans hs.ext.1 h1
      · exact old b h1
    · rw [List.getElem?_set_ne (fun e => hmk e.symm)] at hm
      have hxm := hs.ok x (List.mem_of_getElem? hm)
      exact ⟨hxm.1.keep fun b hb => hkeep b (hxm.1.lt hb) (apart m x hm hmk b hb), hxm.2⟩
  · rw [List.pairwise_iff_getElem]
    intro a b ha hb hab y hy hz
    rw [List.length_set] at ha hb
    rw [List.getElem_set] at hy hz
    have hp := List.pairwise_iff_getElem.1 hs.ap a b ha hb hab y
    have la : ∀ m (hm : m < L.length), (L[m]).at = some y → y < h.size := fun m hm he => (hs.ok _ (List.getElem_mem hm)).1.lt he
    split at hy
    · rename_i hka
      split at hz
      · omega
      · rename_i hkb
        rcases hf y hy with h1 | h1
        · have := la b hb hz; omega
        · exact apart b L[b] (List.getElem?_eq_getElem hb) (fun e => hkb e.symm) y hz h1
    · rename_i hka
      split at hz
      · rename_i hkb
        rcases hf y hz with h1 | h1
        · have := la a ha hy; omega
        · exact apart a L[a] (List.getElem?_eq_getElem ha) (fun e => hka e.symm) y hy h1
      · exact hp hy hz
theorem St.put {h0 h : Heap} {L : List It} (hs : St h0 h L) (k : Nat) {b : Nat} {xs : List Value} {e : TypeId} (hk : L[k]? = some (.blk b xs e)) {o n : Nat} {vs : List Value} (hn : n = vs.length) (hl : o + vs.length ≤ xs.length) {K : Heap → Prop}
    (hK : ∀ h', St h0 h' (L.set k (.blk b (splice xs o vs) e)) → K h') : okAt h ⟨b, o, none⟩ n ∧ ∀ h', h' = hputs h ⟨b, o, none⟩ 0 vs → K h' := by
  subst hn
  have ho : Own h b xs e := hs.get hk
  refine ⟨ho.okAt hl, ?_⟩
  rintro h' rfl
  have hb : But b h (hputs h ⟨b, o, none⟩ 0 vs) := But.hputs (a := ⟨b, o, none⟩) vs 0 h
  refine hK _ (hs.turn hk (by rw [hb.1]; exact Nat.le_refl _) ?_ (fun c hc => .inr hc) fun c _ hc => hb.2 c fun e => hc (by rw [e]; rfl))
  exact Own.hputs vs 0 h xs ho (by omega)
theorem St.rw {h0 h : Heap} {L : List It} (hs : St h0 h L) (k : Nat) {s : Sl} {e : TypeId} {n : Nat} {rows : List (List Value)} (hk : L[k]? = some (.sl s e n rows)) (hn : 0 < n) : Rw h n s rows := by
  have := hs.get hk
  exact this.1.rw this.2 hn
theorem St.len {h0 h : Heap} {L : List It} (hs : St h0 h L) (k : Nat) {s : Sl} {e : TypeId} {n : Nat} {rows : List (List Value)} (hk : L[k]? = some (.sl s e n rows)) (hn : 0 < n) : s.n = rows.length ∧ s.n ≤ s.c ∧ (s.a = none → s.n = 0 ∧ s.c = 0) := by
  have h1 := hs.get hk
  refine ⟨(hs.rw k hk hn).1, h1.1.cap, fun ha => ?_⟩
  rcases h1.1.2 with ⟨_, h2, h3⟩ | ⟨g, cur, hg, _⟩
  · exact ⟨h2, h3⟩
  · rw [ha] at hg; cases hg
/-- a slice of a callee's own -/
theorem St.gift {h0 h h' : Heap} {L : List It} (hs : St h0 h L) (E : Ext h h') {s : Sl} {e : TypeId} {k : Nat} {rows : List (List Value)} (ho : OwnS h' h.size e k s rows.flatten) (hr : ∀ r ∈ rows, r.length = k) : St h0 h' (.sl s e k rows :: L) :=
  hs.more E ⟨ho.mono (Nat.zero_le _), hr⟩ fun b hb => by exact (own_at_zero ho hb).2.2
theorem St.give {h0 h : Heap} {L : List It} (hs : St h0 h L) (k : Nat) {s : Sl} {e : TypeId} {n : Nat} {rows : List (List Value)} (hk : L[k]? = some (.sl s e n rows)) : OwnS h h0.size e n s rows.flatten := by
  have h1 := hs.get hk
  have hf := (hs.ok _ (List.mem_of_getElem? hk)).2
  obtain ⟨h2, h3⟩ := h1.1
  refine ⟨h2, ?_⟩
  rcases h3 with h3 | ⟨g, cur, ha, _, r⟩
  · exact .inl h3
  · exact .inr ⟨g, cur, ha, hf g (by show s.a.map (·.block) = _; rw [ha]; rfl), r⟩
theorem St.nil_ {h0 h : Heap} {L : List It} (hs : St h0 h L) (e : TypeId) (k : Nat) : St h0 h (.sl ⟨.none, 0, 0⟩ e k [] :: L) :=
  hs.more ⟨Nat.le_refl _, fun _ _ => rfl⟩ ⟨OwnS.nil, fun _ hr => by cases hr⟩ fun b hb => by cases hb
theorem App_own2 {P : Program} {t e size bytes : Nat} (hT : appB P t e size bytes = true) {h : Heap} {s : Sl} {xs : List Value} (ho : OwnS h 0 e size s xs)
    {x : Addr} {m c : Nat} {news : List Value} (hx : atC h x news) (hl : news.length = m * size) (h1 : news.all oneB = true) (hbytes : (s.n + m) * bytes ≤ 140737488355328) (h63 : s.n + m ≤ maxLen)
    {K : Sl → Heap → Prop} (hK : ∀ (r : Sl) (h' : Heap), r.n = s.n + m → OwnS h' 0 e size r (xs ++ news) → h.size ≤ h'.size → (∀ k, k < h.size → (∀ g, s.a = some ⟨g, 0, none⟩ → k ≠ g) → h'[k]? = h[k]?) →
      (∀ b, r.a.map (·.block) = some b → h.size ≤ b ∨ s.a.map (·.block) = some b) → K r h') :
    App P t t (.slice s.a s.n s.c) (.slice (some x) m c) h K := by
  intro ty w hw
  subst hw
  unfold appB at hT
  simp only [Bool.and_eq_true] at hT
  obtain ⟨⟨⟨⟨⟨⟨⟨hs, he⟩, ht⟩, hz⟩, hzl⟩, hsz⟩, hby⟩, hpos⟩ := hT
  have hu := sliceB_e hs
  rw [beqT he] at hu
  obtain ⟨i, hi⟩ := isT_info ht
  obtain ⟨z, hz'⟩ := Option.isSome_iff_exists.1 hz
  rw [hi] at hz'
  simp only [Option.bind_some] at hz'
  have e1 : i.size = size := by have := beqT hsz; simpa [szOf, hi] using this
  have e2 : i.bytes = bytes := by have := beqT hby; simpa [byOf, hi] using this
  have e3 : z.cells.size = size := by have := beqT hzl; simpa [zeroC, hi, hz'] using this
  have hnews : ∀ j u, news[j]? = some u → w.cell? (x.add j) = some u := fun j u hj => by rw [addk_add]; exact hx j u hj
  have hone : ∀ u ∈ news, u.oneCell' = true := fun u hu => by
    rw [List.all_eq_true] at h1
    exact oneB_cell (h1 u hu)
  obtain ⟨v', w', hr, hown, hg, _⟩ := run_append_own (P := P) w 0 t ty e i z size bytes hu hi hz' e1 e2 e3 (by simpa using hpos) _ s.n xs ho.row x m c news hl hnews hone h63 hbytes (Nat.zero_le _)
  obtain ⟨r, hv, hn, hor⟩ := OwnS.of_row hown
  refine ⟨v', w', hr, ⟨r, hv, hK r w'.heap hn hor hg.size ?_ ?_⟩, hg.os, hg.tape, hg.output⟩
  · intro k hk hne
    refine hg.block k hk ?_
    intro e
    rcases ho.2 with ⟨ha, _⟩ | ⟨g, cur, ha, _⟩
    · rw [ha] at e; cases e
    · rw [ha] at e
      simp only [Value.ownBlock, Option.some.injEq] at e
      exact hne g ha e
  · have h63' : s.n + m ≤ 9223372036854775807 := by simp only [maxLen] at h63; omega
    have fin : ∀ (a : Addr) (n c2 : Nat) (w2 : World), (Builtin.append_ #[t, t] ty #[.slice s.a s.n s.c, .slice (some x) m c]).run P w = .ok (.slice (some a) n c2) w2 → ∀ b, r.a.map (·.block) = some b → a.block = b := by
      intro a n c2 w2 hr2 b hb
      rw [hr] at hr2
      injection hr2 with e4 _
      rw [hv] at e4
      injection e4 with e5 _ _
      rw [e5] at hb
      exact Option.some.inj hb
    intro b hb
    rcases ho.2 with ⟨ha, hn0, hc0⟩ | ⟨g, cur, ha, _, hgg, hnc, hcm, hcs, htake⟩
    · by_cases hm : m = 0
      · have hx0 : xs = [] := List.eq_nil_of_length_eq_zero (by have := ho.1; rw [hn0] at this; simpa using this)
        have hrn := hor.1
        rcases hor.2 with ⟨h5, _⟩ | ⟨g5, cur5, h5, _⟩
        · rw [h5] at hb; cases hb
        · subst hm
          have hne0 : news = [] := List.eq_nil_of_length_eq_zero (by simpa using hl)
          have hr2 : (Builtin.append_ #[t, t] ty #[.slice s.a s.n s.c, .slice (some x) 0 c]).run P w = .ok (.slice none 0 0) w := by
            rw [ha, hn0, hc0]
            simp [Builtin.append_, run_underlying hu, sizeOf, typeInfo, hi, Builtin.lenOf, Builtin.firstCells, loadCells, loadCellsFrom]
          rw [hr] at hr2
          injection hr2 with e4 _
          rw [hv] at e4
          injection e4 with e5 _ _
          rw [e5] at hb; cases hb
      · have hr2 := run_append_nil (P := P) w t ty e i z hu hi hz' x m c news (by rw [e1]; exact hl) hnews (by omega) (by omega) (by rw [e2]; rw [hn0] at hbytes; simp only [Nat.zero_add] at hbytes; omega)
        refine .inl ?_
        have := fin ⟨w.heap.size, 0, none⟩ _ _ _ (by rw [ha, hn0, hc0]; exact hr2) b hb
        show w.heap.size ≤ b
        rw [← this]; exact Nat.le_refl _
    · by_cases hroom : s.n + m ≤ s.c
      · have hfit : s.n * i.size + news.length ≤ cur.size := by rw [hl, hcs, e1, ← Nat.add_mul]; exact Nat.mul_le_mul_right _ hroom
        have hr2 := run_append_room (P := P) w t ty e i hu hi g s.n s.c cur hgg x m c news (by rw [e1]; exact hl) hnews hone hroom hfit
        right
        have := fin ⟨g, 0, none⟩ _ _ _ (by rw [ha]; exact hr2) b hb
        rw [ha, ← this]; rfl
      · have holds : ∀ j u, xs[j]? = some u → w.cell? ((⟨g, 0, none⟩ : Addr).add j) = some u := ho.row.cells (g := g) (by rw [ha]; rfl)
        have hr2 := run_append_grow (P := P) w t ty e i z hu hi hz' ⟨g, 0, none⟩ s.n s.c xs (by rw [e1]; exact ho.1) holds x m c news (by rw [e1]; exact hl) hnews (by omega) (by omega) (growslice_fits (by omega) (by rw [e2]; exact hbytes))
        refine .inl ?_
        have := fin ⟨w.heap.size, 0, none⟩ _ _ _ (by rw [ha]; exact hr2) b hb
        show w.heap.size ≤ b
        rw [← this]; exact Nat.le_refl _
theorem St.appended {P : Program} {h0 h : Heap} {L : List It} (hs : St h0 h L) (k : Nat) {s : Sl} {t e : TypeId} {n bytes : Nat} {rows : List (List Value)} (hk : L[k]? = some (.sl s e n rows)) (hT : appB P t e n bytes = true)
    {x : Addr} {m c : Nat} {news : List (List Value)} (hx : atC h x news.flatten) (hl : news.length = m) (hr : ∀ r ∈ news, r.length = n) (h1 : news.flatten.all oneB = true) (hbytes : (s.n + m) * bytes ≤ 140737488355328) (h63 : s.n + m ≤ maxLen)
    {K : Sl → Heap → Prop} (hK : ∀ (r : Sl) (h' : Heap), r.n = s.n + m → St h0 h' (L.set k (.sl r e n (rows ++ news))) → K r h') : App P t t (.slice s.a s.n s.c) (.slice (some x) m c) h K := by
  have ho := hs.get hk
  refine App_own2 hT ho.1 hx (by rw [flatten_len news hr, hl]) h1 hbytes h63 fun r h' hn hor hsz hkeep hwhere => hK r h' hn ?_
  have hor2 : (It.sl r e n (rows ++ news)).ok h' := ⟨by rw [List.flatten_append]; exact hor, fun q hq => by rcases List.mem_append.1 hq with hq | hq; exact ho.2 q hq; exact hr q hq⟩
  exact hs.turn hk hsz hor2 hwhere fun b hb hne => hkeep b hb fun g hg e => by subst e; exact hne (by show s.a.map (·.block) = _; rw [hg]; rfl)
/-- append(s, x) of rows that have just been laid -/
theorem St.app {P : Program} {h0 h : Heap} {L : List It} (hs : St h0 h L) (k : Nat) {s : Sl} {t e : TypeId} {n bytes : Nat} {rows : List (List Value)} (hk : L[k]? = some (.sl s e n rows)) (hT : appB P t e n bytes = true)
    {m c : Nat} (news : List (List Value)) {cells : List Value} (hc : cells = news.flatten) {e2 : TypeId} (hl : news.length = m) (hr : ∀ r ∈ news, r.length = n) (h1 : news.flatten.all oneB = true) (hbytes : (s.n + m) * bytes ≤ 140737488355328) (h63 : s.n + m ≤ maxLen)
    {K : Sl → Heap → Prop} (hK : ∀ (r : Sl) (h' : Heap), r.n = s.n + m → St h0 h' (L.set k (.sl r e n (rows ++ news))) → K r h') :
    ∀ h2 : Heap, h2 = h.push (.cells ⟨cells⟩ e2) → App P t t (.slice s.a s.n s.c) (.slice (some ⟨h.size, 0, none⟩) m c) h2 K := by
  subst hc
  refine hs.newb fun h2 hs2 => ?_
  refine hs2.appended (k + 1) hk hT (hs2.at 0 rfl (n := news.flatten.length) (by rw [List.drop_zero, List.take_length])) hl hr h1 hbytes h63 fun r h' hn h3 => hK r h' hn ?_
  exact h3.drop 1
/-- append(s, y...) -/
theorem St.appRw {P : Program} {h0 h : Heap} {L : List It} (hs : St h0 h L) (k : Nat) {s y : Sl} {t e : TypeId} {n bytes : Nat} {rows news : List (List Value)} (hk : L[k]? = some (.sl s e n rows)) (hT : appB P t e n bytes = true)
    (hy : Rw h n y news) (hr : ∀ r ∈ news, r.length = n) (hna : y.a = none → y.n = 0 ∧ y.c = 0) (h1 : news.flatten.all oneB = true) (hbytes : (s.n + y.n) * bytes ≤ 140737488355328) (h63 : s.n + y.n ≤ maxLen)
    {K : Sl → Heap → Prop} (hK : ∀ (r : Sl) (h' : Heap), r.n = s.n + y.n → St h0 h' (L.set k (.sl r e n (rows ++ news))) → K r h') : App P t t (.slice s.a s.n s.c) (.slice y.a y.n y.c) h K := by
  cases hya : y.a with
  | none =>
    obtain ⟨h2, h3⟩ := hna hya
    have hr0 : news = [] := List.length_eq_zero_iff.1 (by have := hy.1; omega)
    subst hr0
    rw [h2, h3]
    refine App_none hT (hs.get hk).1 (hK s h (by omega) ?_)
    rw [List.append_nil]
    have e : L.set k (.sl s e n rows) = L := by
      apply List.ext_getElem?
      intro m
      by_cases hm : k = m
      · subst hm; rw [List.getElem?_set_self (List.getElem?_eq_some_iff.1 hk).1, hk]
      · rw [List.getElem?_set_ne hm]
    rw [e]; exact hs
  | some x =>
    have hx : atC h x news.flatten := by
      by_cases h0' : 0 < news.length
      · obtain ⟨b, o, ha, hall⟩ := hy.2 h0'
        rw [hya] at ha; cases ha
        exact atC_flat news o hr hall
      · have hr0 : news = [] := List.length_eq_zero_iff.1 (by omega)
        subst hr0
        intro i v hv; simp at hv
    exact hs.appended k hk hT hx hy.1.symm hr h1 hbytes h63 hK
theorem St.nb {h0 h : Heap} {L : List It} (hs : St h0 h L) (k : Nat) {s : Sl} {e : TypeId} {n : Nat} {rows : List (List Value)} (hk : L[k]? = some (.sl s e n rows)) (hn : 0 < n) {i : Nat} {row : List Value} (hi : rows[i]? = some row) {F : Nat → Nat → Prop}
    (hF : ∀ b o, atC h ⟨b, o + i * n, none⟩ row → F b o) : NB s.a F := (hs.rw k hk hn).nb hi fun b o _ hat => hF b o hat
theorem splice_left {l m vs : List Value} {p : Nat} (h : p + vs.length ≤ l.length) : splice (l ++ m) p vs = splice l p vs ++ m := by
  unfold splice
  rw [List.take_append_of_le_length (by omega), List.drop_append_of_le_length (by omega)]
  simp only [List.append_assoc]
theorem splice_right {l m vs : List Value} {p : Nat} : splice (l ++ m) (l.length + p) vs = l ++ splice m p vs := by
  unfold splice
  rw [List.take_length_add_append, show l.length + p + vs.length = l.length + (p + vs.length) by omega, List.drop_length_add_append]
  simp only [List.append_assoc]
theorem splice_take {l vs : List Value} {p N : Nat} (h : p + vs.length ≤ N) (hN : N ≤ l.length) : (splice l p vs).take N = splice (l.take N) p vs := by
  have e : l = l.take N ++ l.drop N := (List.take_append_drop N l).symm
  have hl : (l.take N).length = N := by rw [List.length_take]; omega
  have e2 : splice l p vs = splice (l.take N) p vs ++ l.drop N := by
    conv => lhs; rw [e]
    exact splice_left (by omega)
  rw [e2]
  have h3 : (splice (l.take N) p vs).length = N := by
    unfold splice
    simp only [List.length_append, List.length_take, List.length_drop]; omega
  rw [List.take_append_of_le_length (by omega), List.take_of_length_le (by omega)]
theorem splice_lng {l vs : List Value} {p : Nat} (h : p + vs.length ≤ l.length) : (splice l p vs).length = l.length := by
  unfold splice
  simp only [List.length_append, List.length_take, List.length_drop]; omega
theorem splice_flat {n j : Nat} {vs row : List Value} : ∀ (rows : List (List Value)) (i : Nat), (∀ r ∈ rows, r.length = n) → rows[i]? = some row → j + vs.length ≤ n → splice rows.flatten (i * n + j) vs = (rows.set i (splice row j vs)).flatten
  | [], i, _, h, _ => by simp at h
  | a :: rows, 0, hr, h, hj => by
    rw [List.getElem?_cons_zero] at h; cases h
    have := hr row (by simp)
    rw [List.flatten_cons, List.set_cons_zero, List.flatten_cons, Nat.zero_mul, Nat.zero_add]
    exact splice_left (by omega)
  | a :: rows, i + 1, hr, h, hj => by
    rw [List.getElem?_cons_succ] at h
    have ha := hr a (by simp)
    rw [List.flatten_cons, List.set_cons_succ, List.flatten_cons, ← splice_flat rows i (fun r hm => hr r (List.mem_cons_of_mem _ hm)) h hj]
    rw [← splice_right, ha, show (i + 1) * n + j = n + (i * n + j) by rw [Nat.succ_mul]; omega]
/-- a row of an own slice is written -/
theorem St.nbput {h0 h : Heap} {L : List It} (hs : St h0 h L) (k : Nat) {s : Sl} {e : TypeId} {n : Nat} {rows : List (List Value)} (hk : L[k]? = some (.sl s e n rows)) (hn0 : 0 < n) {i : Nat} {row vs : List Value} (hi : rows[i]? = some row) (j : Nat) (hv : j + vs.length ≤ n)
    {K : Nat → Nat → Heap → Prop} (hK : ∀ b o h', St h0 h' (L.set k (.sl s e n (rows.set i (splice row j vs)))) → K b o h') {m : Nat} (hm : m = vs.length) {B : Prop} (hB : B) :
    NB s.a fun b o => B ∧ (okAt h ⟨b, o + i * n + j, none⟩ m ∧ ∀ h', h' = hputs h ⟨b, o + i * n + j, none⟩ 0 vs → K b o h') := by
  subst hm
  have ho := hs.get hk
  have hlen := ho.1.len
  have hil := (List.getElem?_eq_some_iff.1 hi).1
  have hrl := ho.2 row (List.mem_of_getElem? hi)
  rw [flatten_len rows ho.2] at hlen
  have hrn : rows.length = s.n := Nat.eq_of_mul_eq_mul_right hn0 hlen
  rcases ho.1.2 with ⟨_, h0', _⟩ | ⟨g, cur, ha, hb, hh, hnc, hcm, hcs, ht⟩
  · omega
  · rw [ha, NB_some]
    refine ⟨hB, ?_⟩
    have hown : Own h g cur.toList e := hh
    have h1 : (i + 1) * n ≤ s.n * n := Nat.mul_le_mul_right _ (by omega)
    have h2 : s.n * n ≤ s.c * n := Nat.mul_le_mul_right _ hnc
    rw [Nat.succ_mul] at h1
    have hcl : cur.toList.length = s.c * n := by rw [Array.length_toList]; exact hcs
    have hfit : i * n + j + vs.length ≤ cur.toList.length := by omega
    rw [Nat.zero_add]
    refine ⟨hown.okAt hfit, ?_⟩
    rintro h' rfl
    have hbt : But g h (hputs h ⟨g, i * n + j, none⟩ 0 vs) := But.hputs (a := ⟨g, i * n + j, none⟩) vs 0 h
    have hnew := Own.hputs vs 0 h cur.toList (o := i * n + j) hown (by omega)
    rw [Nat.add_zero] at hnew
    refine hK _ _ _ (hs.turn hk (by rw [hbt.1]; exact Nat.le_refl _) ⟨⟨?_, .inr ⟨g, ⟨splice cur.toList (i * n + j) vs⟩, ha, Nat.zero_le _, hnew, hnc, hcm, ?_, ?_⟩⟩, ?_⟩ (fun c hc => .inr hc) fun c _ hc => hbt.2 c fun e => hc (by rw [e]; show s.a.map (·.block) = _; rw [ha]; rfl))
    · rw [← splice_flat rows i ho.2 hi hv, splice_lng (by rw [flatten_len rows ho.2]; omega), flatten_len rows ho.2, hrn]
    · show (splice cur.toList (i * n + j) vs).length = _
      rw [splice_lng hfit]; exact hcl
    · show (splice cur.toList (i * n + j) vs).take (s.n * n) = _
      rw [splice_take (by omega) (by omega), ht, splice_flat rows i ho.2 hi hv]
    · intro r hr
      rcases List.mem_or_eq_of_mem_set hr with hr | rfl
      · exact ho.2 r hr
      · rw [splice_lng (by omega)]; exact hrl

theorem sBi {p : Prop} [Decidable p] {a b : Prop} (h1 : p → a) (h2 : ¬p → b) : sB (decide p) a b := sB_intro (fun h => h1 (of_decide_eq_true h)) (fun h => h2 (of_decide_eq_false h))
theorem sBe {x y : Int} {a b : Prop} (h1 : x = y → a) (h2 : x ≠ y → b) : sB (x == y) a b := sB_intro (fun h => h1 (by simpa using h)) (fun h => h2 (by simpa using h))
theorem sBn {x y : Int} {a b : Prop} (h1 : x ≠ y → a) (h2 : x = y → b) : sB (x != y) a b := sB_intro (fun h => h1 (by simpa using h)) (fun h => h2 (by simpa using h))
theorem sBs {x y : List UInt8} {a b : Prop} (h1 : x = y → a) (h2 : x ≠ y → b) : sB (ByteArray.toList (bs x) == ByteArray.toList (bs y)) a b := by
  rw [strEq]
  exact sBi (p := x = y) h1 h2
theorem dF {p : Prop} [Decidable p] (h : ¬ p) : Value.bool false = .bool (decide p) := by rw [decide_eq_false h]
theorem dT {p : Prop} [Decidable p] (h : p) : Value.bool true = .bool (decide p) := by rw [decide_eq_true h]
theorem imin_min (x y : Int) : imin x y = min x y := by unfold imin; rw [Int.min_def]; split <;> split <;> omega
theorem imax_max (x y : Int) : imax x y = max x y := by unfold imax; rw [Int.max_def]; split <;> split <;> omega
theorem Rw.nbI {α : Type} {h : Heap} {k : Nat} {s : Sl} {cs : α → List Value} {L : List α} (hr : Rw h k s (L.map cs)) {x : Int} (h0 : 0 ≤ x) (h1 : x < s.n) {F : Nat → Nat → Prop}
    (hF : ∀ b o d, L[x.toNat]? = some d → atC h ⟨b, o + x.toNat * k, none⟩ (cs d) → F b o) : NB s.a fun b o => (0 ≤ x ∧ x < (s.n : Nat)) ∧ F b o := by
  have hn := hr.1
  rw [List.length_map] at hn
  have hl : x.toNat < L.length := by omega
  refine hr.nb (i := x.toNat) (row := cs L[x.toNat]) (by rw [List.getElem?_map, List.getElem?_eq_getElem hl]; rfl) fun b o _ hat => ⟨⟨h0, h1⟩, hF b o _ (List.getElem?_eq_getElem hl) hat⟩
theorem Rw.ln {α : Type} {h : Heap} {k : Nat} {s : Sl} {cs : α → List Value} {L : List α} (hr : Rw h k s (L.map cs)) : s.n = L.length := by have := hr.1; rwa [List.length_map] at this
theorem atC.sub {h : Heap} {b o : Nat} {vs us : List Value} (ha : atC h ⟨b, o, none⟩ vs) (i n : Nat) (hu : (vs.drop i).take n = us) : atC h ⟨b, o + i, none⟩ us := by
  subst hu
  intro j v hj
  rw [List.getElem?_take] at hj
  split at hj
  · rw [List.getElem?_drop] at hj
    have := ha.nth (i + j) hj
    rw [addk_at, Nat.add_assoc]; exact this
  · cases hj
theorem St.rows {α : Type} {h0 h : Heap} {L : List It} (hs : St h0 h L) (k : Nat) {s : Sl} {e : TypeId} {n : Nat} {cs : α → List Value} {l : List α} (hk : L[k]? = some (.sl s e n (l.map cs))) (hn : 0 < n) : Rw h n s (l.map cs) := hs.rw k hk hn
/-- a counting loop that changes no slice -/
theorem up_loopS {n : Nat} {h0 h : Heap} {L : List It} {B : (Int → Heap → Nat → Prop) → Env → Int → Heap → Nat → Prop} (hs : St h0 h L) (Q : Nat → Prop) (q0 : Q 0)
    (hB : ∀ (e : Env) (i : Nat) (h' : Heap), i ≤ n → St h0 h' L ∧ Q i → B (Up n fun i h' => St h0 h' L ∧ Q i) e i h' (n - i)) : ∃ I : Int → Heap → Nat → Prop, (∃ m, I 0 h m) ∧ ∀ (e : Env) (x : Int) (h' : Heap) (m : Nat), I x h' m → B I e x h' m :=
  up_loop (fun i h' => St h0 h' L ∧ Q i) ⟨hs, q0⟩ hB
/-- a counting loop that builds one slice -/
def UpA (n : Nat) (Q : Nat → Sl → Heap → Prop) (s : Sl) (x : Int) (h : Heap) (m : Nat) : Prop := ∃ i : Nat, x = i ∧ m = n - i ∧ i ≤ n ∧ Q i s h
theorem up_loopA {n : Nat} {h0 h : Heap} {L : List It} {e : TypeId} {k : Nat} {s0 : Sl} {r0 : List (List Value)} {B : (Sl → Int → Heap → Nat → Prop) → Env → Sl → Int → Heap → Nat → Prop} (hs : St h0 h (.sl s0 e k r0 :: L)) (Q : Nat → List (List Value) → Prop) (q0 : Q 0 r0)
    (hB : ∀ (ρ : Env) (i : Nat) (s : Sl) (h' : Heap) (rows : List (List Value)), i ≤ n → St h0 h' (.sl s e k rows :: L) → Q i rows → B (UpA n fun i s h' => ∃ rows, St h0 h' (.sl s e k rows :: L) ∧ Q i rows) ρ s i h' (n - i)) :
    ∃ I : Sl → Int → Heap → Nat → Prop, (∃ m, I s0 0 h m) ∧ ∀ (ρ : Env) (s : Sl) (x : Int) (h' : Heap) (m : Nat), I s x h' m → B I ρ s x h' m :=
  ⟨UpA n fun i s h' => ∃ rows, St h0 h' (.sl s e k rows :: L) ∧ Q i rows, ⟨_, 0, rfl, rfl, by omega, r0, hs, q0⟩, by rintro ρ s x h' m ⟨i, rfl, rfl, hi, rows, h1, h2⟩; exact hB ρ i s h' rows hi h1 h2⟩
theorem UpA.next {n i : Nat} {Q : Nat → Sl → Heap → Prop} {s : Sl} {h : Heap} (hi : i < n) (hn : n ≤ 9223372036854775807) (h1 : Q (i + 1) s h) : ∃ m, m < n - i ∧ UpA n Q s (IntKind.wrap .i64 ((i : Int) + 1)) h m :=
  ⟨_, by omega, i + 1, by rw [w64 (by omega) (by omega)]; omega, rfl, by omega, h1⟩
end Go.VC
end

section
/- For every program: queues, rows that are written, blocks that become slices. -/
namespace Go.VC
open Go.RowKit
set_option maxRecDepth 100000

theorem run_append_room_at {P : Program} (w : World) (t ty e : TypeId) (i : TypeInfo) (ht : P.underlying t = some (.slice e)) (hi : P.info? e = some i)
    (g o sLen sCap : Nat) (cur : Array Value) (hg : w.heap[g]? = some (.cells cur e (0, 0)))
    (a : Addr) (m c : Nat) (news : List Value) (hl : news.length = m * i.size) (hnews : ∀ j u, news[j]? = some u → w.cell? (a.add j) = some u) (h1 : ∀ u ∈ news, u.oneCell' = true)
    (hroom : sLen + m ≤ sCap) (hfit : o + sLen * i.size + news.length ≤ cur.size) :
    (Builtin.append_ #[t, t] ty #[.slice (some ⟨g, o, none⟩) sLen sCap, .slice (some a) m c]).run P w =
      .ok (.slice (some ⟨g, o, none⟩) (sLen + m) sCap) (w.setRow g (cur.toList.take (o + sLen * i.size) ++ news ++ cur.toList.drop (o + sLen * i.size + news.length)).toArray) := by
  have hf := run_firstCells_some (P := P) w i.size m a m c news hl hnews
  have hst := run_storeCells_at P g (o + sLen * i.size) e news 0 cur w hg (by simpa using hfit) h1
  simp only [Nat.add_zero] at hst
  simp [Builtin.append_, run_underlying ht, sizeOf, typeInfo, hi, Builtin.lenOf, hroom, hf, Addr.add_lit, hst]
theorem OwnS.toQ {h : Heap} {base : Nat} {e : TypeId} {k : Nat} {s : Sl} {xs : List Value} (ho : OwnS h base e k s xs) : OwnQ h e k s xs := by
  refine ⟨ho.1, ?_⟩
  rcases ho.2 with h1 | ⟨g, cur, ha, _, hg, hn, hc, hz, ht⟩
  · exact .inl h1
  · exact .inr ⟨g, 0, cur, ha, hg, hn, hc, by omega, by rw [List.drop_zero]; exact ht⟩
theorem App_q {P : Program} {t e size bytes : Nat} (hT : appB P t e size bytes = true) {h : Heap} {s : Sl} {xs : List Value} (ho : OwnQ h e size s xs)
    {x : Addr} {m c : Nat} {news : List Value} (hx : atC h x news) (hl : news.length = m * size) (h1 : news.all oneB = true) (hbytes : (s.n + m) * bytes ≤ 140737488355328) (h63 : s.n + m ≤ maxLen)
    {K : Sl → Heap → Prop} (hK : ∀ (r : Sl) (h' : Heap), r.n = s.n + m → OwnQ h' e size r (xs ++ news) → h.size ≤ h'.size → (∀ k, k < h.size → s.a.map (·.block) ≠ some k → h'[k]? = h[k]?) →
      (∀ b, r.a.map (·.block) = some b → h.size ≤ b ∨ s.a.map (·.block) = some b) → K r h') :
    App P t t (.slice s.a s.n s.c) (.slice (some x) m c) h K := by
  rcases ho.2 with ⟨ha, hn0, hc0⟩ | ⟨g, o, cur, ha, hgg, hnc, hcm, hcs, htake⟩
  · have ho' : OwnS h 0 e size s xs := ⟨ho.1, .inl ⟨ha, hn0, hc0⟩⟩
    exact App_own2 hT ho' hx hl h1 hbytes h63 fun r h' hn hor hsz hk hw => hK r h' hn hor.toQ hsz (fun k hk' _ => hk k hk' fun g hg => by rw [ha] at hg; cases hg) hw
  · intro ty w hw
    subst hw
    unfold appB at hT
    simp only [Bool.and_eq_true] at hT
    obtain ⟨⟨⟨⟨⟨⟨⟨hs, he⟩, ht⟩, hz⟩, hzl⟩, hsz⟩, hby⟩, hpos⟩ := hT
    have hu := sliceB_e hs
    rw [beqT he] at hu
    obtain ⟨i, hi⟩ := isT_info ht
    obtain ⟨z, hz'⟩ := Option.isSome_iff_exists.1 hz
    rw [hi] at hz'
    simp only [Option.bind_some] at hz'
    have e1 : i.size = size := by have := beqT hsz; simpa [szOf, hi] using this
    have e2 : i.bytes = bytes := by have := beqT hby; simpa [byOf, hi] using this
    have e3 : z.cells.size = size := by have := beqT hzl; simpa [zeroC, hi, hz'] using this
    have hnews : ∀ j u, news[j]? = some u → w.cell? (x.add j) = some u := fun j u hj => by rw [addk_add]; exact hx j u hj
    have hone : ∀ u ∈ news, u.oneCell' = true := fun u hu => by
      rw [List.all_eq_true] at h1
      exact oneB_cell (h1 u hu)
    have hnsz : s.n * size ≤ s.c * size := Nat.mul_le_mul_right _ hnc
    have hxs := ho.1
    by_cases hroom : s.n + m ≤ s.c
    · have hms : (s.n + m) * size ≤ s.c * size := Nat.mul_le_mul_right _ hroom
      rw [Nat.add_mul] at hms
      have hfit : o + s.n * size + news.length ≤ cur.size := by omega
      have hr := run_append_room_at (P := P) w t ty e i hu hi g o s.n s.c cur hgg x m c news (by rw [e1]; exact hl) hnews hone hroom (by rw [e1]; exact hfit)
      rw [e1] at hr
      have hown : Own w.heap g cur.toList e := hgg
      obtain ⟨h2, h3⟩ := setRow_own (ys := cur.toList.take (o + s.n * size) ++ news ++ cur.toList.drop (o + s.n * size + news.length)) hown
      rw [ha]
      refine ⟨_, _, hr, ⟨⟨some ⟨g, o, none⟩, s.n + m, s.c⟩, rfl, ?_⟩, rfl, rfl, rfl⟩
      have hsz2 : (w.setRow g (cur.toList.take (o + s.n * size) ++ news ++ cur.toList.drop (o + s.n * size + news.length)).toArray).heap.size = w.heap.size := h3.1
      refine hK _ _ rfl ⟨by rw [List.length_append, hl, hxs, Nat.add_mul], .inr ⟨g, o, _, rfl, h2, hroom, hcm, ?_, ?_⟩⟩ (by rw [hsz2]; exact Nat.le_refl _) (fun k hk hne => h3.2 k fun e => hne (by rw [e, ha]; rfl)) (fun b hb => .inr (by rw [ha]; exact hb))
      · show o + s.c * size ≤ (cur.toList.take (o + s.n * size) ++ news ++ cur.toList.drop (o + s.n * size + news.length)).length
        simp only [List.length_append, List.length_take, List.length_drop, Array.length_toList]
        omega
      · show ((cur.toList.take (o + s.n * size) ++ news ++ cur.toList.drop (o + s.n * size + news.length)).drop o).take ((s.n + m) * size) = xs ++ news
        have hcl : cur.toList.length = cur.size := Array.length_toList
        have e4 : cur.toList.take (o + s.n * size) = cur.toList.take o ++ xs := by rw [List.take_add, htake]
        rw [e4, List.append_assoc, List.append_assoc, ← List.append_assoc xs, List.drop_append_of_le_length (by rw [List.length_take]; omega)]
        rw [List.drop_eq_nil_of_le (by rw [List.length_take]; omega), List.nil_append]
        rw [List.take_append_of_le_length (by rw [List.length_append, hl, hxs, Nat.add_mul]; omega)]
        exact List.take_of_length_le (by rw [List.length_append, hl, hxs, Nat.add_mul]; omega)
    · have holds : ∀ j u, xs[j]? = some u → w.cell? ((⟨g, o, none⟩ : Addr).add j) = some u := by
        intro j u hj
        have hadd : (⟨g, o, none⟩ : Addr).add j = ⟨g, o + j, none⟩ := by unfold Addr.add; split <;> simp_all
        rw [hadd, cell_of_row w g (o + j) cur e (0, 0) hgg]
        rw [← htake, List.getElem?_take] at hj
        split at hj
        · rw [List.getElem?_drop] at hj; simpa using hj
        · cases hj
      obtain ⟨v', w', hr, hown, hg⟩ := run_append_arg_grows (P := P) w t ty e i z size bytes hu hi hz' e1 e2 e3 (by simpa using hpos) ⟨g, o, none⟩ s.n s.c xs hxs holds x m c news hl hnews (by omega) h63 hbytes
      obtain ⟨r, hv, hn, hor⟩ := OwnS.of_row hown
      rw [ha]
      refine ⟨v', w', hr, ⟨r, hv, hK r w'.heap hn hor.toQ hg.size (fun k hk _ => hg.block k hk (by simp)) fun b hb => ?_⟩, hg.os, hg.tape, hg.output⟩
      exact .inl (own_at_zero hor hb).2.2
theorem St.toQ {h0 h : Heap} {L : List It} {s : Sl} {e : TypeId} {k : Nat} {rows : List (List Value)} (hs : St h0 h (.sl s e k rows :: L)) (_hk : 0 < 1) : St h0 h (.q s e k rows :: L) := by
  have h1 := hs.get (k := 0) rfl
  have h2 := hs.turn (k := 0) (j := .q s e k rows) rfl (Nat.le_refl _) ⟨h1.1.toQ, h1.2⟩ (fun b hb => .inr hb) (fun _ _ _ => rfl)
  exact h2
theorem OwnQ.rw {h : Heap} {e k : Nat} {s : Sl} {rows : List (List Value)} (ho : OwnQ h e k s rows.flatten) (hk : ∀ r ∈ rows, r.length = k) (hk0 : 0 < k) : Rw h k s rows := by
  have hl := ho.1
  rw [flatten_len rows hk] at hl
  have hn : rows.length = s.n := Nat.eq_of_mul_eq_mul_right hk0 hl
  refine ⟨hn.symm, fun hp => ?_⟩
  rcases ho.2 with ⟨_, h0, _⟩ | ⟨g, o, cur, ha, hg, h1, h2, h3, h4⟩
  · omega
  · refine ⟨g, o, ha, fun i row hi => ?_⟩
    have hown : Own h g cur.toList e := hg
    refine Own.atC hown fun j v hv => ?_
    have hrl := hk row (List.mem_of_getElem? hi)
    have hj : j < k := by have := (List.getElem?_eq_some_iff.1 hv).1; omega
    have h5 := getElem?_flatten rows i j row hk hi hj
    rw [← h4, List.getElem?_take] at h5
    split at h5
    · rw [List.getElem?_drop] at h5
      rw [Nat.add_assoc, h5]; exact hv
    · rw [hv] at h5; cases h5
theorem St.qrw {h0 h : Heap} {L : List It} (hs : St h0 h L) (k : Nat) {s : Sl} {e : TypeId} {n : Nat} {rows : List (List Value)} (hk : L[k]? = some (.q s e n rows)) (hn : 0 < n) : Rw h n s rows := by
  have := hs.get hk
  exact this.1.rw this.2 hn
theorem St.qlen {h0 h : Heap} {L : List It} (hs : St h0 h L) (k : Nat) {s : Sl} {e : TypeId} {rows : List (List Value)} (hk : L[k]? = some (.q s e 1 rows)) : s.n = rows.length ∧ s.n ≤ s.c := by
  have h1 := hs.get hk
  refine ⟨(hs.qrw k hk (by omega)).1, ?_⟩
  rcases h1.1.2 with ⟨_, h2, h3⟩ | ⟨g, o, cur, ha, _, h2, _⟩
  · omega
  · exact h2
theorem St.qtail {h0 h : Heap} {L : List It} {s : Sl} {e : TypeId} {n : Nat} {row : List Value} {rows : List (List Value)} (hs : St h0 h (.q s e n (row :: rows) :: L)) : St h0 h (.q ⟨subA s.a (Int.toNat 1) s.c n, Int.toNat (s.n : Nat) - Int.toNat 1, s.c - Int.toNat 1⟩ e n rows :: L) := by
  have h1 := hs.get (k := 0) rfl
  obtain ⟨ho, hr⟩ := h1
  have hrow := hr row (by simp)
  have hlen := ho.1
  rw [List.flatten_cons, List.length_append, hrow] at hlen
  have key : OwnQ h e n ⟨subA s.a (Int.toNat 1) s.c n, Int.toNat (s.n : Nat) - Int.toNat 1, s.c - Int.toNat 1⟩ rows.flatten ∧ (∀ b, (subA s.a (Int.toNat 1) s.c n).map (·.block) = some b → s.a.map (·.block) = some b) := by
    have e1 : Int.toNat 1 = 1 := rfl
    have e2 : Int.toNat (s.n : Int) = s.n := Int.toNat_natCast _
    rw [e1, e2]
    have hcases : s.n = 0 ∨ ∃ m, s.n = m + 1 := by cases s.n with
      | zero => exact .inl rfl
      | succ m => exact .inr ⟨m, rfl⟩
    have hl2 : rows.flatten.length = (s.n - 1) * n := by
      rcases hcases with h0' | ⟨m, hm⟩
      · rw [h0'] at hlen ⊢; simp at hlen ⊢; exact hlen.2
      · rw [hm] at hlen ⊢; rw [Nat.succ_mul] at hlen; simp only [Nat.add_sub_cancel]; omega
    rcases ho.2 with ⟨ha, hn0, hc0⟩ | ⟨g, o, cur, ha, hg, hnc, hcm, hcs, ht⟩
    · refine ⟨⟨hl2, .inl ⟨?_, by show s.n - 1 = 0; omega, by show s.c - 1 = 0; omega⟩⟩, ?_⟩
      · show subA s.a 1 s.c n = none
        unfold subA; rw [ha]; split <;> rfl
      · intro b hb
        unfold subA at hb; rw [ha] at hb ⊢
        split at hb <;> exact hb
    · have hsub : ∃ o', subA s.a 1 s.c n = some ⟨g, o', none⟩ ∧ (o' = o ∧ s.c = 1 ∨ o' = o + n) := by
        unfold subA
        by_cases hc1 : s.c = 1
        · exact ⟨o, by rw [if_pos hc1, ha], .inl ⟨rfl, hc1⟩⟩
        · refine ⟨o + n, by rw [if_neg hc1, ha, Option.map_some, Nat.one_mul, Addr.add_lit], .inr rfl⟩
      obtain ⟨o', hso, ho'⟩ := hsub
      refine ⟨⟨hl2, .inr ⟨g, o', cur, hso, hg, by show s.n - 1 ≤ s.c - 1; omega, by show s.c - 1 ≤ maxLen; omega, ?_, ?_⟩⟩, ?_⟩
      · show o' + (s.c - 1) * n ≤ cur.size
        rcases ho' with ⟨rfl, hc1⟩ | rfl
        · rw [hc1]; rw [hc1] at hcs; omega
        · rcases Nat.eq_zero_or_pos s.c with hz | hz
          · have : s.n = 0 := by omega
            rw [this] at hlen; simp at hlen
            rw [hz] at hcs ⊢; omega
          · have : s.c * n = (s.c - 1) * n + n := by rw [← Nat.succ_mul]; congr 1; omega
            omega
      · show (cur.toList.drop o').take ((s.n - 1) * n) = rows.flatten
        rcases hcases with h0' | ⟨m, hm⟩
        · have hf0 : rows.flatten = [] := List.length_eq_zero_iff.1 (by rw [hl2, h0', Nat.zero_sub, Nat.zero_mul])
          rw [h0', Nat.zero_sub, Nat.zero_mul, List.take_zero, hf0]
        · rw [hm, Nat.add_sub_cancel]
          rcases ho' with ⟨rfl, hc1⟩ | rfl
          · have hm0 : m = 0 := by omega
            subst hm0
            have hf0 : rows.flatten = [] := List.length_eq_zero_iff.1 (by rw [hl2, hm, Nat.add_sub_cancel, Nat.zero_mul])
            rw [Nat.zero_mul, List.take_zero, hf0]
          · rw [hm, List.flatten_cons, Nat.succ_mul, Nat.add_comm (m * n) n, List.take_add, List.drop_drop] at ht
            have hlc : cur.toList.length = cur.size := Array.length_toList
            have h6 : n ≤ (cur.toList.drop o).length := by
              rw [List.length_drop, hlc]
              have : 1 * n ≤ s.c * n := Nat.mul_le_mul_right _ (by omega)
              omega
            have := List.append_inj ht (by rw [List.length_take, hrow]; omega)
            exact this.2
      · intro b hb
        rw [hso] at hb; rw [ha]; exact hb
  exact hs.turn (k := 0) (j := .q ⟨subA s.a (Int.toNat 1) s.c n, Int.toNat (s.n : Nat) - Int.toNat 1, s.c - Int.toNat 1⟩ e n rows) rfl (Nat.le_refl _) ⟨key.1, fun r hr' => hr r (List.mem_cons_of_mem _ hr')⟩ (fun b hb => .inr (key.2 b hb)) (fun _ _ _ => rfl)
/-- append(queue, x) -/
theorem St.qapp {P : Program} {h0 h : Heap} {L : List It} (hs : St h0 h L) (k : Nat) {s : Sl} {t e : TypeId} {n bytes : Nat} {rows : List (List Value)} (hk : L[k]? = some (.q s e n rows)) (hT : appB P t e n bytes = true)
    {m c : Nat} (news : List (List Value)) {cells : List Value} (hc : cells = news.flatten) {e2 : TypeId} (hl : news.length = m) (_hn : 0 < n) (hr : ∀ r ∈ news, r.length = n) (h1 : news.flatten.all oneB = true) (hbytes : (s.n + m) * bytes ≤ 140737488355328) (h63 : s.n + m ≤ maxLen)
    {K : Sl → Heap → Prop} (hK : ∀ (r : Sl) (h' : Heap), r.n = s.n + m → St h0 h' (L.set k (.q r e n (rows ++ news))) → K r h') :
    ∀ h2 : Heap, h2 = h.push (.cells ⟨cells⟩ e2) → App P t t (.slice s.a s.n s.c) (.slice (some ⟨h.size, 0, none⟩) m c) h2 K := by
  subst hc
  refine hs.newb fun h2 hs2 => ?_
  have hk2 : (It.blk h.size news.flatten e2 :: L)[k + 1]? = some (.q s e n rows) := hk
  have ho := hs2.get hk2
  have hx := hs2.at 0 rfl (n := news.flatten.length) (vs := news.flatten) (o := 0) (by rw [List.drop_zero, List.take_length])
  refine App_q hT ho.1 hx (by rw [flatten_len news hr, hl]) h1 hbytes h63 fun r h' hn hor hsz hkeep hwhere => hK r h' hn ?_
  have hor2 : (It.q r e n (rows ++ news)).ok h' := ⟨by rw [List.flatten_append]; exact hor, fun q hq => by rcases List.mem_append.1 hq with hq | hq; exact ho.2 q hq; exact hr q hq⟩
  have h3 := hs2.turn (k := k + 1) hk2 hsz hor2 hwhere fun b hb hne => hkeep b hb hne
  exact h3.drop 1
/-- a row of an own slice is written -/
theorem St.set {α : Type} {h0 h : Heap} {L : List It} (hs : St h0 h L) (k : Nat) {s : Sl} {e : TypeId} {n : Nat} {cs : α → List Value} {l : List α} (hk : L[k]? = some (.sl s e n (l.map cs))) (hn : 0 < n) {x : Int} (hx0 : 0 ≤ x) (hx1 : x < (s.n : Nat)) (y : α) {vs : List Value} (hv : vs = cs y)
    {m : Nat} (hm : m = vs.length) {K : Nat → Nat → Heap → Prop} (hK : ∀ b o h', St h0 h' (L.set k (.sl s e n ((l.set x.toNat y).map cs))) → K b o h') (hy : (cs y).length = n) :
    NB s.a fun b o => (0 ≤ x ∧ x < (s.n : Nat)) ∧ (okAt h ⟨b, o + x.toNat * n, none⟩ m ∧ ∀ h', h' = hputs h ⟨b, o + x.toNat * n, none⟩ 0 vs → K b o h') := by
  subst hv
  have hln := (hs.rows k hk hn).ln
  have hlt : x.toNat < l.length := by omega
  have hrl := (hs.get hk).2 (cs l[x.toNat]) (List.mem_map.2 ⟨_, List.getElem_mem hlt, rfl⟩)
  refine hs.nbput k hk hn (i := x.toNat) (row := cs l[x.toNat]) (by rw [List.getElem?_map, List.getElem?_eq_getElem hlt]; rfl) 0 (by omega) (fun b o h' h1 => hK b o h' ?_) hm ⟨hx0, hx1⟩
  have e1 : splice (cs l[x.toNat]) 0 (cs y) = cs y := by
    unfold splice
    rw [List.take_zero, List.nil_append, List.drop_eq_nil_of_le (by omega), List.append_nil]
  rw [e1] at h1
  rw [List.map_set]
  exact h1
/-- a block of the call's own is a slice -/
theorem St.blkS {h0 h : Heap} {L : List It} {b : Nat} {xs : List Value} {e : TypeId} (hs : St h0 h (.blk b xs e :: L)) (m n : Nat) (rows : List (List Value)) (hx : xs = rows.flatten) (hr : ∀ r ∈ rows, r.length = n) (hl : rows.length = m) (hm : m ≤ maxLen) : St h0 h (.sl ⟨some ⟨b, 0, none⟩, m, m⟩ e n rows :: L) := by
  have h1 : Own h b xs e := hs.get (k := 0) rfl
  subst hx
  have hfl := flatten_len rows hr
  refine hs.turn (k := 0) (j := .sl ⟨some ⟨b, 0, none⟩, m, m⟩ e n rows) rfl (Nat.le_refl _) ⟨⟨by rw [hfl, hl], .inr ⟨b, _, rfl, Nat.zero_le _, h1, Nat.le_refl _, hm, ?_, ?_⟩⟩, hr⟩ (fun c hc => .inr hc) (fun _ _ _ => rfl)
  · show rows.flatten.length = _
    rw [hfl, hl]
  · show rows.flatten.take (m * n) = _
    exact List.take_of_length_le (by rw [hfl, hl]; exact Nat.le_refl _)
end Go.VC
end

section
/- What lex computes, on lists of bytes. No program here. -/
namespace Go.LexS

def isLetter (n : Int) : Bool := decide (97 ≤ n) && decide (n ≤ 122) || decide (65 ≤ n) && decide (n ≤ 90)
def isDigit (n : Int) : Bool := decide (48 ≤ n) && decide (n ≤ 57)
def isInner (n : Int) : Bool := isLetter n || isDigit n || (n == 95)
def isSpace (n : Int) : Bool := n == 32 || n == 9 || n == 10 || n == 13
def lt (c : UInt8) : Bool := isLetter c.toNat
def dg (c : UInt8) : Bool := isDigit c.toNat
def inn (c : UInt8) : Bool := isInner c.toNat
def sp (c : UInt8) : Bool := isSpace c.toNat

/-- a token without its place -/
structure T where
  kind : Nat
  text : List UInt8
  val : Nat
  deriving DecidableEq
end Go.LexS
end

section
/- Names and words, automata as lists; what the validity of an automaton asks. No program here. -/
namespace Go.LexS
def keywords : List (List UInt8) := [[97, 103, 97, 105, 110], [97, 110, 100], [97, 115], [97, 116], [99, 97, 108, 108], [99, 104, 111, 105, 99, 101], [101, 108, 115, 101], [102, 114, 111, 109], [105, 102], [105, 110, 116], [108, 101, 110], [108, 111, 111, 112], [109, 101, 115, 115, 97, 103, 101], [111, 102], [111, 102, 102, 101, 114], [111, 110], [111, 114], [112, 97, 114], [112, 108, 97, 121, 115], [112, 114, 111, 116, 111, 99, 111, 108], [115, 101, 114, 118, 105, 99, 101], [116, 101, 120, 116], [116, 105, 109, 101, 115], [116, 111], [118, 97, 114], [119, 104, 101, 114, 101], [119, 104, 105, 108, 101], [119, 105, 116, 104, 105, 110]]
def isName (l : List UInt8) : Bool := match l with
  | [] => false
  | c :: _ => decide (l.length ≤ 16) && lt c && l.all inn
def isWord (l : List UInt8) : Bool := isName l && !decide (l ∈ keywords)
end Go.LexS
end

section
/- Automata in memory: the lists with the headers of the slices that hold them. -/
namespace Go.VC
open Go.LexS
abbrev Nm := List UInt8
def i64 (n : Int) : Value := .int .i64 n
def slV (s : Sl) : Value := .slice s.a s.n s.c
structure Fld where
  nm : Nm
  k : Int
  lo : Int
  hi : Int
def Fld.cs (f : Fld) : List Value := [.string (bs f.nm), .int .i64 f.k, .int .i64 f.lo, .int .i64 f.hi]
structure Df where
  x : Int
  y : Int
  c : Int
def Df.cs (d : Df) : List Value := [.int .i64 d.x, .int .i64 d.y, .int .i64 d.c]
structure Eqs where
  x : Int
  y : Int
def Eqs.cs (d : Eqs) : List Value := [.int .i64 d.x, .int .i64 d.y]
structure Dc where
  nm : Nm
  hf : Sl
  first : Int
  hd : Sl
  he : Sl
  fs : List Fld
  ds : List Df
  es : List Eqs
def Dc.cs (d : Dc) : List Value := [.string (bs d.nm), .slice d.hf.a d.hf.n d.hf.c, .int .i64 d.first, .slice d.hd.a d.hd.n d.hd.c, .slice d.he.a d.he.n d.he.c]
structure Ed where
  f : Int
  a : Int
  b : Int
  l : Int
  t : Int
  ag : Bool
def Ed.cs (x : Ed) : List Value := [.int .i64 x.f, .int .i64 x.a, .int .i64 x.b, .int .i64 x.l, .int .i64 x.t, .bool x.ag]
structure To where
  s : Int
  k : Int
  e : Int
def To.cs (x : To) : List Value := [.int .i64 x.s, .int .i64 x.k, .int .i64 x.e]
/-- an automaton -/
structure Gl where
  nm : Nm
  hr : Sl
  hd : Sl
  n : Int
  s : Int
  e : Int
  he : Sl
  ht : Sl
  rs : List Nm
  ds : List Dc
  es : List Ed
  ts : List To
def Gl.cs (g : Gl) : List Value := [.string (bs g.nm), .slice g.hr.a g.hr.n g.hr.c, .slice g.hd.a g.hd.n g.hd.c, .int .i64 g.n, .int .i64 g.s, .int .i64 g.e, .slice g.he.a g.he.n g.he.c, .slice g.ht.a g.ht.n g.ht.c]
def Gl.v (g : Gl) : Value := .agg ⟨g.cs⟩
def nmC (x : Nm) : List Value := [.string (bs x)]
/-- slice s has the elements L; its header is sound -/
structure RL {α : Type} (h : Heap) (k : Nat) (s : Sl) (cs : α → List Value) (L : List α) : Prop where
  rw : Rw h k s (L.map cs)
  cap : s.n ≤ s.c
  nil : s.a = none → s.n = 0 ∧ s.c = 0
  sm : L.length ≤ 1048576
theorem RL.ext {α : Type} {h h' : Heap} {k : Nat} {s : Sl} {cs : α → List Value} {L : List α} (hr : RL h k s cs L) (E : Ext h h') : RL h' k s cs L := ⟨hr.rw.ext E, hr.cap, hr.nil, hr.sm⟩
theorem RL.ln {α : Type} {h : Heap} {k : Nat} {s : Sl} {cs : α → List Value} {L : List α} (hr : RL h k s cs L) : s.n = L.length := hr.rw.ln
structure DI (h : Heap) (d : Dc) : Prop where
  pf : RL h 4 d.hf Fld.cs d.fs
  pd : RL h 3 d.hd Df.cs d.ds
  pe : RL h 2 d.he Eqs.cs d.es
theorem DI.ext {h h' : Heap} {d : Dc} (hd : DI h d) (E : Ext h h') : DI h' d := ⟨hd.pf.ext E, hd.pd.ext E, hd.pe.ext E⟩
structure DL (h : Heap) (s : Sl) (L : List Dc) : Prop where
  r : RL h 5 s Dc.cs L
  i : ∀ d ∈ L, DI h d
theorem DL.ext {h h' : Heap} {s : Sl} {L : List Dc} (hd : DL h s L) (E : Ext h h') : DL h' s L := ⟨hd.r.ext E, fun d hm => (hd.i d hm).ext E⟩
structure GI (h : Heap) (g : Gl) : Prop where
  r : RL h 1 g.hr nmC g.rs
  d : DL h g.hd g.ds
  e : RL h 6 g.he Ed.cs g.es
  t : RL h 3 g.ht To.cs g.ts
theorem GI.ext {h h' : Heap} {g : Gl} (hg : GI h g) (E : Ext h h') : GI h' g := ⟨hg.r.ext E, hg.d.ext E, hg.e.ext E, hg.t.ext E⟩
theorem RL.take {α : Type} {h : Heap} {k : Nat} {s : Sl} {cs : α → List Value} {L : List α} (hr : RL h k s cs L) {i : Nat} (hi : i ≤ s.n) : RL h k ⟨subA s.a (Int.toNat 0) s.c k, Int.toNat (i : Int) - Int.toNat 0, s.c - Int.toNat 0⟩ cs (L.take i) := by
  have h1 := hr.rw.1
  have e : subA s.a (Int.toNat 0) s.c k = s.a := subA_zero _ _ _
  rw [e]
  refine ⟨⟨by rw [List.length_map, List.length_take]; simp only [List.length_map] at h1; show i - 0 = _; omega, fun hp => ?_⟩, by have := hr.cap; show i - 0 ≤ s.c - 0; omega, fun ha => ?_, by have := hr.sm; rw [List.length_take]; omega⟩
  · rw [List.length_map, List.length_take] at hp
    obtain ⟨b, o, ha, hall⟩ := hr.rw.2 (by rw [List.length_map]; omega)
    refine ⟨b, o, ha, fun j row hj => hall j row ?_⟩
    rw [List.map_take, List.getElem?_take] at hj
    split at hj
    · exact hj
    · cases hj
  · have := hr.nil ha
    exact ⟨by show i - 0 = 0; omega, by show s.c - 0 = 0; omega⟩
end Go.VC
end

section
/- Words of bits: what the operations of Go on uint64 are on numbers. -/
namespace Go.VC

theorem wu64 {n : Int} (h0 : 0 ≤ n) (h1 : n ≤ 18446744073709551615) : IntKind.wrap .u64 n = n := by
  simp [IntKind.wrap, IntKind.signed, IntKind.bits]; omega
def inC (n : Int) : List Value := [.int .i64 n]
def wC (w : Nat) : List Value := [.int .u64 w]
/-- is k a member -/
def memB (ws : List Nat) (k : Nat) : Bool := (ws.getD (k / 64) 0).testBit (k % 64)
theorem shr_nat {w k : Nat} (hk : k < 64) : shrI .u64 (w : Int) (k : Int) = ((w / 2 ^ k : Nat) : Int) := by
  unfold shrI
  have e : min (Int.toNat (k : Int)) (IntKind.bits .u64) = k := by simp [IntKind.bits]; omega
  rw [e]
  show Int.fdiv (w : Int) ((2 : Int) ^ k) = _
  rw [show ((2 : Int) ^ k) = ((2 ^ k : Nat) : Int) by simp, Int.fdiv_eq_ediv_of_nonneg _ (Int.natCast_nonneg _)]
  rfl
theorem and_one {w : Nat} (hw : w < 2 ^ 64) : andI .u64 (w : Int) 1 = ((w % 2 : Nat) : Int) := by
  unfold andI
  have e : (BitVec.ofInt (IntKind.bits .u64) (w : Int) &&& BitVec.ofInt (IntKind.bits .u64) 1).toNat = w % 2 := by
    show (BitVec.ofInt 64 (w : Int) &&& BitVec.ofInt 64 ((1 : Nat) : Int)).toNat = w % 2
    rw [BitVec.ofInt_natCast, BitVec.ofInt_natCast, BitVec.toNat_and, BitVec.toNat_ofNat, BitVec.toNat_ofNat, Nat.mod_eq_of_lt hw]
    exact Nat.and_one_is_mod w
  rw [e]
  exact wu64 (by omega) (by omega)
theorem bit_has {w k : Nat} (hw : w < 2 ^ 64) (hk : k < 64) : (andI .u64 (shrI .u64 (w : Int) (k : Int)) 1 == 1) = w.testBit k := by
  rw [shr_nat hk, and_one (Nat.lt_of_le_of_lt (Nat.div_le_self _ _) hw), Nat.testBit_eq_decide_div_mod_eq]
  by_cases h : w / 2 ^ k % 2 = 1
  · rw [h, decide_eq_true rfl]; rfl
  · rw [decide_eq_false h]
    exact beq_eq_false_iff_ne.2 (by omega)
theorem shl_one {k : Nat} (hk : k < 64) : shlI .u64 1 (k : Int) = ((2 ^ k : Nat) : Int) := by
  unfold shlI
  have e : min (Int.toNat (k : Int)) (IntKind.bits .u64) = k := by simp [IntKind.bits]; omega
  rw [e, Int.one_mul]
  have h2 : 2 ^ k < 2 ^ 64 := Nat.pow_lt_pow_right (by omega) hk
  rw [show ((2 : Int) ^ k) = ((2 ^ k : Nat) : Int) by simp]
  generalize 2 ^ k = m at *
  exact wu64 (by omega) (by omega)
theorem or_nat {a b : Nat} (ha : a < 2 ^ 64) (hb : b < 2 ^ 64) : orI .u64 (a : Int) (b : Int) = ((a ||| b : Nat) : Int) := by
  unfold orI
  have e : (BitVec.ofInt (IntKind.bits .u64) (a : Int) ||| BitVec.ofInt (IntKind.bits .u64) (b : Int)).toNat = a ||| b := by
    show (BitVec.ofInt 64 (a : Int) ||| BitVec.ofInt 64 (b : Int)).toNat = _
    rw [BitVec.ofInt_natCast, BitVec.ofInt_natCast, BitVec.toNat_or, BitVec.toNat_ofNat, BitVec.toNat_ofNat, Nat.mod_eq_of_lt ha, Nat.mod_eq_of_lt hb]
  rw [e]
  have := Nat.or_lt_two_pow ha hb
  exact wu64 (by omega) (by omega)
theorem clr_zero {a b : Nat} (ha : a < 2 ^ 64) (hb : b < 2 ^ 64) : clrI .u64 (a : Int) (b : Int) = 0 ↔ ∀ k, k < 64 → a.testBit k = true → b.testBit k = true := by
  have hlt : (BitVec.ofNat 64 a &&& ~~~BitVec.ofNat 64 b).toNat < 18446744073709551616 := (BitVec.ofNat 64 a &&& ~~~BitVec.ofNat 64 b).isLt
  have key : clrI .u64 (a : Int) (b : Int) = ((BitVec.ofNat 64 a &&& ~~~BitVec.ofNat 64 b).toNat : Int) := by
    unfold clrI
    show IntKind.wrap .u64 ((BitVec.ofInt 64 (a : Int) &&& ~~~BitVec.ofInt 64 (b : Int)).toNat : Int) = _
    rw [BitVec.ofInt_natCast, BitVec.ofInt_natCast]
    exact wu64 (by omega) (by omega)
  rw [key]
  have bitx : ∀ k, k < 64 → (BitVec.ofNat 64 a &&& ~~~BitVec.ofNat 64 b).getLsbD k = (a.testBit k && !b.testBit k) := fun k hk => by
    rw [BitVec.getLsbD_and, BitVec.getLsbD_not, BitVec.getLsbD_ofNat, BitVec.getLsbD_ofNat]
    simp [hk]
  constructor
  · intro h k hk hak
    have h0 : (BitVec.ofNat 64 a &&& ~~~BitVec.ofNat 64 b) = 0#64 := BitVec.eq_of_toNat_eq (by rw [show (BitVec.ofNat 64 a &&& ~~~BitVec.ofNat 64 b).toNat = 0 by omega]; rfl)
    have := bitx k hk
    rw [h0, BitVec.getLsbD_zero, hak] at this
    cases hbk : b.testBit k
    · rw [hbk] at this; cases this
    · rfl
  · intro h
    have h0 : (BitVec.ofNat 64 a &&& ~~~BitVec.ofNat 64 b) = 0#64 := by
      apply BitVec.eq_of_getLsbD_eq
      intro k hk
      rw [bitx k hk, BitVec.getLsbD_zero]
      cases hak : a.testBit k
      · rfl
      · rw [h k hk hak]; rfl
    rw [h0]; rfl
theorem memB_set {ws : List Nat} {n k : Nat} (hn : n / 64 < ws.length) : memB (ws.set (n / 64) (ws.getD (n / 64) 0 ||| 2 ^ (n % 64))) k = (decide (k = n) || memB ws k) := by
  unfold memB
  by_cases h : k / 64 = n / 64
  · rw [h, List.getD_eq_getElem?_getD, List.getElem?_set_self hn]
    show Nat.testBit (ws.getD (n / 64) 0 ||| 2 ^ (n % 64)) (k % 64) = _
    rw [Nat.testBit_or, Nat.testBit_two_pow, Bool.or_comm]
    congr 1
    by_cases h2 : k = n
    · subst h2; simp
    · rw [decide_eq_false h2]; simp only [decide_eq_false_iff_not]; omega
  · rw [List.getD_eq_getElem?_getD, List.getElem?_set_ne (fun e => h e.symm), ← List.getD_eq_getElem?_getD]
    have : k ≠ n := fun e => h (by rw [e])
    simp [this]
theorem memB_zero (n k : Nat) : memB (List.replicate n 0) k = false := by
  unfold memB
  rw [List.getD_eq_getElem?_getD, List.getElem?_replicate]
  split <;> simp
/-- words behind the last one that is not 0 do not count -/
theorem memB_take {ws : List Nat} {n : Nat} (h : ∀ i w, n ≤ i → ws[i]? = some w → w = 0) (k : Nat) : memB (ws.take n) k = memB ws k := by
  unfold memB
  rw [List.getD_eq_getElem?_getD, List.getD_eq_getElem?_getD, List.getElem?_take]
  split
  · rfl
  · rename_i hn
    cases hw : ws[k / 64]? with
    | none => rfl
    | some w => rw [h _ w (by omega) hw]; simp
/-- slice s is the set of the numbers below 4096 with p -/
structure SetV (h : Heap) (s : Sl) (p : Nat → Bool) : Prop where
  ex : ∃ ws : List Nat, Rw h 1 s (ws.map wC) ∧ ws.length ≤ 64 ∧ (∀ w ∈ ws, w < 2 ^ 64) ∧ ∀ k, memB ws k = p k
theorem SetV.ext {h h' : Heap} {s : Sl} {p : Nat → Bool} (hs : SetV h s p) (E : Ext h h') : SetV h' s p := by
  obtain ⟨ws, h1, h2⟩ := hs.ex
  exact ⟨ws, h1.ext E, h2⟩
end Go.VC
end

section
/- What a role sees: lists. Nested slices of a call's own. -/
namespace Go.VC
open Go.RowKit

structure Ev where
  send : Bool
  peer : Int
  label : Int
  deriving DecidableEq
def Ev.cs (x : Ev) : List Value := [.bool x.send, .int .i64 x.peer, .int .i64 x.label]
structure Ar where
  x : Ev
  to : Int
def Ar.cs (a : Ar) : List Value := [.bool a.x.send, .int .i64 a.x.peer, .int .i64 a.x.label, .int .i64 a.to]
def slC (s : Sl) : List Value := [.slice s.a s.n s.c]
def vis1 (role : Int) (x : Ed) : Option Ev := if role = x.a then some ⟨true, x.b, x.l⟩ else if role = x.b then some ⟨false, x.a, x.l⟩ else none
def quietL (es : List Ed) (role : Int) (n : Nat) : List Int := es.filterMap fun x => if x.f = (n : Int) then (match vis1 role x with | none => some x.t | some _ => none) else none
def visL (es : List Ed) (role : Int) (n : Nat) : List Ar := es.filterMap fun x => if x.f = (n : Int) then (vis1 role x).map fun e => ⟨e, x.t⟩ else none
theorem quietL_snoc (es : List Ed) (role : Int) (n : Nat) (x : Ed) : quietL (es ++ [x]) role n = quietL es role n ++ (if x.f = (n : Int) then (match vis1 role x with | none => [x.t] | some _ => []) else []) := by
  unfold quietL
  rw [List.filterMap_append]
  congr 1
  by_cases h : x.f = (n : Int)
  · simp only [List.filterMap_cons, List.filterMap_nil, if_pos h]
    cases vis1 role x <;> rfl
  · simp only [List.filterMap_cons, List.filterMap_nil, if_neg h]
theorem visL_snoc (es : List Ed) (role : Int) (n : Nat) (x : Ed) : visL (es ++ [x]) role n = visL es role n ++ (if x.f = (n : Int) then (match vis1 role x with | none => [] | some e => [⟨e, x.t⟩]) else []) := by
  unfold visL
  rw [List.filterMap_append]
  congr 1
  by_cases h : x.f = (n : Int)
  · simp only [List.filterMap_cons, List.filterMap_nil, if_pos h]
    cases vis1 role x <;> rfl
  · simp only [List.filterMap_cons, List.filterMap_nil, if_neg h]

/-- slices of slices: the headers with the lists -/
def nest {α : Type} (e : TypeId) (k : Nat) (cs : α → List Value) (q : Sl × List α) : It := .sl q.1 e k (q.2.map cs)
theorem set_mid {α : Type} {P R : List α} {Q : List α} {i : Nat} (hi : i < Q.length) (x : α) : (P ++ Q ++ R).set (P.length + i) x = P ++ Q.set i x ++ R := by
  rw [List.append_assoc, List.set_append_right _ _ (by omega), Nat.add_sub_cancel_left, List.set_append_left _ _ hi, List.append_assoc]
theorem get_mid {α : Type} {P R : List α} {Q : List α} {i : Nat} (hi : i < Q.length) : (P ++ Q ++ R)[P.length + i]? = Q[i]? := by
  rw [List.append_assoc, List.getElem?_append_right (by omega), Nat.add_sub_cancel_left, List.getElem?_append_left hi]
theorem St.nestAt {α : Type} {P : Program} {h0 h : Heap} {A B : List It} {Q : List (Sl × List α)} {e : TypeId} {n : Nat} {cs : α → List Value} (hs : St h0 h (A ++ Q.map (nest e n cs) ++ B)) {i : Nat} {q : Sl × List α} (hi : Q[i]? = some q)
    {t bytes : Nat} (hT : appB P t e n bytes = true) (d : α) {a : Addr} (ha : atC h a (cs d)) (hn : (cs d).length = n) (h1 : (cs d).all oneB = true) (hb : (q.1.n + 1) * bytes ≤ 140737488355328) (h63 : q.1.n + 1 ≤ maxLen)
    {K : Sl → Heap → Prop} (hK : ∀ (r : Sl) (h' : Heap), r.n = q.1.n + 1 → St h0 h' (A ++ (Q.set i (r, q.2 ++ [d])).map (nest e n cs) ++ B) → K r h') :
    App P t t (.slice q.1.a q.1.n q.1.c) (.slice (some a) 1 1) h K := by
  have hil : i < Q.length := (List.getElem?_eq_some_iff.1 hi).1
  have hil' : i < (Q.map (nest e n cs)).length := by rw [List.length_map]; exact hil
  refine hs.appended (A.length + i) (rows := q.2.map cs) (by rw [get_mid hil', List.getElem?_map, hi]; rfl) hT (news := [cs d]) (by simpa using ha) rfl (fun r hr => by rw [List.mem_singleton] at hr; rw [hr]; exact hn) (by simpa using h1) hb h63 fun r h' hrn h3 => hK r h' hrn ?_
  rw [set_mid hil'] at h3
  have e1 : (Q.map (nest e n cs)).set i (.sl r e n (q.2.map cs ++ [cs d])) = (Q.set i (r, q.2 ++ [d])).map (nest e n cs) := by
    rw [List.map_set]; congr 1; unfold nest; simp
  rw [e1] at h3
  exact h3
theorem St.newbE {h0 h : Heap} {L : List It} (hs : St h0 h L) {xs : List Value} {e : TypeId} {K : Heap → Prop} (hK : ∀ h2, Ext h h2 → St h0 h2 (.blk h.size xs e :: L) → K h2) : ∀ h2 : Heap, h2 = h.push (.cells ⟨xs⟩ e) → K h2 :=
  VC.newb fun h2 E o => hK h2 E (hs.more E (i := .blk h.size xs e) o fun b hb => by cases hb; exact Nat.le_refl _)
theorem St.perm {h0 h : Heap} {L L' : List It} (hs : St h0 h L) (hp : L.Perm L') : St h0 h L' :=
  ⟨hs.ext, fun i hi => hs.ok i (hp.mem_iff.2 hi), (hp.pairwise_iff (fun {a b} hab x hx hy => hab x hy hx)).1 hs.ap⟩
theorem St.nests {α : Type} {h0 h : Heap} {A B : List It} {e : TypeId} {k : Nat} {cs : α → List Value} (hs : St h0 h (A ++ B)) : ∀ n : Nat, St h0 h (A ++ (List.replicate n ((⟨.none, 0, 0⟩, []) : Sl × List α)).map (nest e k cs) ++ B)
  | 0 => by simpa using hs
  | n + 1 => by
    have h1 := (hs.nests (α := α) (e := e) (k := k) (cs := cs) n).nil_ e k
    refine h1.perm ?_
    rw [List.replicate_succ, List.map_cons, List.append_assoc, List.append_assoc]
    have : nest e k cs ((⟨.none, 0, 0⟩, []) : Sl × List α) = .sl ⟨.none, 0, 0⟩ e k [] := rfl
    rw [this]
    exact List.perm_middle.symm
theorem sm_nil {h h' : Heap} : Sm [] h h' := fun a ha => by cases ha
theorem sm_cons {h h' : Heap} {a : Addr} {as : List Addr} (hb : h'[a.block]? = h[a.block]?) (hr : Sm as h h') : Sm (a :: as) h h' := by
  intro x hx k v hv
  rcases List.mem_cons.1 hx with rfl | hx
  · rw [hc_of_block (h := h) (by rw [addk_block']; exact hb)]; exact hv
  · exact hr x hx k v hv
theorem St.same {h0 h h' : Heap} {L L' : List It} (hs : St h0 h L) (hs' : St h0 h' L') (k k' : Nat) {b : Nat} {xs : List Value} {e : TypeId} (hk : L[k]? = some (.blk b xs e)) (hk' : L'[k']? = some (.blk b xs e)) : h'[b]? = h[b]? := (hs'.get hk').trans (hs.get hk).symm
/-- what a role sees of an automaton, in memory -/
structure LkI (h : Heap) (p : Addr) (g : Gl) (role : Int) : Prop where
  ex : ∃ (hq hv : Sl) (qs vs : Nat → Sl), p.spot = none ∧ atC h p (g.cs ++ [.int .i64 role, .slice hq.a hq.n hq.c, .slice hv.a hv.n hv.c]) ∧ hq.n = g.n.toNat ∧ hv.n = g.n.toNat ∧
    Rw h 1 hq ((List.range g.n.toNat).map fun i => slC (qs i)) ∧ Rw h 1 hv ((List.range g.n.toNat).map fun i => slC (vs i)) ∧
    (∀ i, i < g.n.toNat → Rw h 1 (qs i) ((quietL g.es role i).map inC)) ∧ ∀ i, i < g.n.toNat → Rw h 4 (vs i) ((visL g.es role i).map Ar.cs)
theorem LkI.ext {h h' : Heap} {p : Addr} {g : Gl} {role : Int} (hl : LkI h p g role) (E : Ext h h') : LkI h' p g role := by
  obtain ⟨hq, hv, qs, vs, h0, h1, h2, h3, h4, h5, h6, h7⟩ := hl.ex
  exact ⟨hq, hv, qs, vs, h0, atC_ext E h1, h2, h3, h4.ext E, h5.ext E, fun i hi => (h6 i hi).ext E, fun i hi => (h7 i hi).ext E⟩
end Go.VC
end

section
/- Closures, on lists. Arrays of one-cell elements. -/
namespace Go.VC

theorem map_get {α β : Type} (f : α → β) (L : List α) (i : Nat) : (L.map f)[i]? = (L[i]?).map f := List.getElem?_map
theorem map_splice {α : Type} (f : α → Value) {L : List α} {i : Nat} (hi : i < L.length) (y : α) : splice (L.map f) i [f y] = (L.set i y).map f := by
  unfold splice
  rw [List.map_set, List.set_eq_take_append_cons_drop, if_pos (by rw [List.length_map]; exact hi)]
  simp
inductive Qr (es : List Ed) (role : Int) (l : List Int) : Int → Prop where
  | base {a : Int} : a ∈ l → Qr es role l a
  | step {a b : Int} : Qr es role l a → (∃ x ∈ es, vis1 role x = none ∧ x.f = a ∧ x.t = b) → Qr es role l b
theorem Qr.mono {es : List Ed} {role : Int} {l l' : List Int} (h : ∀ x ∈ l, x ∈ l') {a : Int} (ha : Qr es role l a) : Qr es role l' a := by
  induction ha with
  | base hm => exact .base (h _ hm)
  | step _ hx ih => exact .step ih hx
structure CL (es : List Ed) (role : Int) (n : Nat) (l : List Int) (D : List Bool) (T : List Int) : Prop where
  len : D.length = n
  cnt : T.length = D.count true
  mem : ∀ v, v ∈ T ↔ 0 ≤ v ∧ D[v.toNat]? = some true
  r : ∀ v ∈ T, Qr es role l v
theorem CL.start (es : List Ed) (role : Int) (n : Nat) (l : List Int) : CL es role n l (List.replicate n false) [] := by
  refine ⟨by rw [List.length_replicate], by rw [List.count_replicate]; rfl, fun v => ⟨fun h => (by cases h), fun ⟨_, h⟩ => ?_⟩, fun v h => by cases h⟩
  have := List.eq_of_mem_replicate (List.mem_of_getElem? h)
  cases this
theorem CL.push {es : List Ed} {role : Int} {n : Nat} {l : List Int} {D : List Bool} {T : List Int} (h : CL es role n l D T) {b : Int} (h0 : 0 ≤ b) (hb : D[b.toNat]? = some false) (hr : Qr es role l b) : CL es role n l (D.set b.toNat true) (T ++ [b]) := by
  have hbl := (List.getElem?_eq_some_iff.1 hb).1
  have hbe := (List.getElem?_eq_some_iff.1 hb).2
  refine ⟨by rw [List.length_set]; exact h.len, ?_, fun v => ?_, fun v hv => ?_⟩
  · rw [List.count_set hbl, hbe, List.length_append, h.cnt]; rfl
  · rw [List.mem_append, List.mem_singleton, h.mem]
    constructor
    · rintro (⟨h1, h2⟩ | rfl)
      · refine ⟨h1, ?_⟩
        by_cases e : b.toNat = v.toNat
        · rw [e, List.getElem?_set_self (by omega)]
        · rw [List.getElem?_set_ne e]; exact h2
      · exact ⟨h0, by rw [List.getElem?_set_self hbl]⟩
    · rintro ⟨h1, h2⟩
      by_cases e : b.toNat = v.toNat
      · right; omega
      · left; rw [List.getElem?_set_ne e] at h2; exact ⟨h1, h2⟩
  · rcases List.mem_append.1 hv with hv | hv
    · exact h.r v hv
    · rw [List.mem_singleton] at hv; rw [hv]; exact hr
theorem CL.le {es : List Ed} {role : Int} {n : Nat} {l : List Int} {D : List Bool} {T : List Int} (h : CL es role n l D T) : T.length ≤ n := by
  rw [h.cnt, ← h.len]; exact List.count_le_length
theorem quietL_mem {es : List Ed} {role : Int} {n : Nat} {b : Int} : b ∈ quietL es role n ↔ ∃ x ∈ es, vis1 role x = none ∧ x.f = n ∧ x.t = b := by
  unfold quietL
  rw [List.mem_filterMap]
  constructor
  · rintro ⟨x, hx, h⟩
    split at h
    · rename_i hf
      cases hv : vis1 role x with
      | none => rw [hv] at h; exact ⟨x, hx, hv, hf, Option.some.inj h⟩
      | some e => rw [hv] at h; cases h
    · cases h
  · rintro ⟨x, hx, hv, hf, rfl⟩
    exact ⟨x, hx, by rw [if_pos hf, hv]⟩
theorem CL.end_ {es : List Ed} {role : Int} {n : Nat} {l : List Int} {D : List Bool} {T : List Int} (h : CL es role n l D T) (hl : ∀ x ∈ l, x ∈ T) (hc : ∀ v ∈ T, ∀ b ∈ quietL es role v.toNat, b ∈ T) (v : Int) : v ∈ T ↔ Qr es role l v := by
  refine ⟨h.r v, fun hq => ?_⟩
  induction hq with
  | base hm => exact hl _ hm
  | @step a b _ hx ih =>
    obtain ⟨x, hx, hv, hf, rfl⟩ := hx
    exact hc _ ih _ (quietL_mem.2 ⟨x, hx, hv, by have := ((h.mem a).1 ih).1; omega, rfl⟩)
noncomputable def clo (es : List Ed) (role : Int) (l : List Int) : Nat → Bool := fun j => by classical exact decide (Qr es role l (j : Int))
theorem clo_iff {es : List Ed} {role : Int} {l : List Int} {j : Nat} : clo es role l j = true ↔ Qr es role l (j : Int) := by unfold clo; simp
end Go.VC
end

section
/- Events in order; what is visible from sets. No program here. -/
namespace Go.VC

def cmpI (x y : Int) : Int := if x < y then -1 else if x > y then 1 else 0
def orI3 (x y : Int) : Int := if x ≠ 0 then x else y
def cmpE (x y : Ev) : Int := if x.send ≠ y.send then (if x.send then -1 else 1) else orI3 (cmpI x.peer y.peer) (cmpI x.label y.label)
def evLt (x y : Ev) : Prop := (x.send = true ∧ y.send = false) ∨ (x.send = y.send ∧ (x.peer < y.peer ∨ (x.peer = y.peer ∧ x.label < y.label)))
instance (x y : Ev) : Decidable (evLt x y) := by unfold evLt; infer_instance
theorem cmpE_neg {x y : Ev} : cmpE x y < 0 ↔ evLt x y := by
  unfold cmpE evLt orI3 cmpI
  obtain ⟨s, p, l⟩ := x
  obtain ⟨t, q, m⟩ := y
  cases s <;> cases t <;> simp <;> (repeat' split) <;> omega
theorem ev_ext {x y : Ev} (h1 : x.send = y.send) (h2 : x.peer = y.peer) (h3 : x.label = y.label) : x = y := by
  obtain ⟨s, p, l⟩ := x
  obtain ⟨t, q, m⟩ := y
  simp_all
theorem evLt_irr (x : Ev) : ¬ evLt x x := by unfold evLt; intro h; rcases h with ⟨h1, h2⟩ | ⟨_, h | ⟨_, h⟩⟩ <;> first | (rw [h1] at h2; cases h2) | omega
theorem evLt_trans {x y z : Ev} (h1 : evLt x y) (h2 : evLt y z) : evLt x z := by
  unfold evLt at *
  obtain ⟨s, p, l⟩ := x
  obtain ⟨t, q, m⟩ := y
  obtain ⟨u, r, n⟩ := z
  cases s <;> cases t <;> cases u <;> simp_all <;> omega
theorem evLt_tri (x y : Ev) : evLt x y ∨ x = y ∨ evLt y x := by
  unfold evLt
  obtain ⟨s, p, l⟩ := x
  obtain ⟨t, q, m⟩ := y
  cases s <;> cases t <;> simp <;> omega
/-- consecutive equal ones are struck -/
def compactL : List Ev → List Ev
  | [] => []
  | x :: r => match compactL r with
    | [] => [x]
    | y :: t => if x = y then y :: t else x :: y :: t
theorem compactL_mem : ∀ (l : List Ev) (x : Ev), x ∈ compactL l ↔ x ∈ l
  | [], x => by simp [compactL]
  | a :: r, x => by
    have ih := compactL_mem r
    rw [compactL]
    split
    · rename_i h
      rw [h] at ih
      have := ih x
      simp_all
    · rename_i y t h
      rw [h] at ih
      have h1 := ih x
      split
      · rename_i e; subst e
        have h2 := (ih a).1 (by simp)
        rw [h1]; simp only [List.mem_cons]
        constructor
        · exact .inr
        · rintro (rfl | h)
          · exact h2
          · exact h
      · rw [List.mem_cons, h1, List.mem_cons]
theorem compactL_sorted : ∀ (l : List Ev), l.Pairwise (fun a b => ¬ evLt b a) → (compactL l).Pairwise evLt
  | [], _ => by simp [compactL]
  | a :: r, h => by
    obtain ⟨h1, h2⟩ := List.pairwise_cons.1 h
    have ih := compactL_sorted r h2
    rw [compactL]
    split
    · simp
    · rename_i y t hc
      rw [hc] at ih
      split
      · exact ih
      · rename_i hne
        refine List.pairwise_cons.2 ⟨fun z hz => ?_, ih⟩
        have hay : evLt a y := by
          have hy : y ∈ r := (compactL_mem r y).1 (by rw [hc]; simp)
          rcases evLt_tri a y with h3 | h3 | h3
          · exact h3
          · exact absurd h3 hne
          · exact absurd h3 (h1 y hy)
        rcases List.mem_cons.1 hz with rfl | hz
        · exact hay
        · exact evLt_trans hay ((List.pairwise_cons.1 ih).1 z hz)
/-- strictly sorted lists with the same members are equal -/
theorem sorted_ext : ∀ (l m : List Ev), l.Pairwise evLt → m.Pairwise evLt → (∀ x, x ∈ l ↔ x ∈ m) → l = m
  | [], [], _, _, _ => rfl
  | [], b :: m, _, _, h => absurd ((h b).2 (by simp)) (by simp)
  | a :: l, [], _, _, h => absurd ((h a).1 (by simp)) (by simp)
  | a :: l, b :: m, hl, hm, h => by
    obtain ⟨h1, h2⟩ := List.pairwise_cons.1 hl
    obtain ⟨h3, h4⟩ := List.pairwise_cons.1 hm
    have hab : a = b := by
      rcases List.mem_cons.1 ((h a).1 (by simp)) with e | ha
      · exact e
      · rcases List.mem_cons.1 ((h b).2 (by simp)) with e | hb
        · exact e.symm
        · exact absurd (evLt_trans (h1 b hb) (h3 a ha)) (evLt_irr a)
    subst hab
    congr 1
    refine sorted_ext l m h2 h4 fun x => ?_
    have hx := h x
    rw [List.mem_cons, List.mem_cons] at hx
    constructor
    · intro hm'
      rcases hx.1 (.inr hm') with rfl | h5
      · exact absurd (h1 x hm') (evLt_irr x)
      · exact h5
    · intro hm'
      rcases hx.2 (.inr hm') with rfl | h5
      · exact absurd (h3 x hm') (evLt_irr x)
      · exact h5
/-- an event is put into a list in order -/
def insE (x : Ev) : List Ev → List Ev
  | [] => [x]
  | y :: r => if evLt y x then y :: insE x r else if x = y then y :: r else x :: y :: r
theorem insE_mem (x z : Ev) : ∀ l : List Ev, z ∈ insE x l ↔ z = x ∨ z ∈ l
  | [] => by simp [insE]
  | y :: r => by
    rw [insE]
    split
    · rw [List.mem_cons, insE_mem x z r, List.mem_cons]
      constructor
      · rintro (h | h | h)
        · exact .inr (.inl h)
        · exact .inl h
        · exact .inr (.inr h)
      · rintro (h | h | h)
        · exact .inr (.inl h)
        · exact .inl h
        · exact .inr (.inr h)
    · split
      · rename_i e; subst e; simp
      · simp
theorem insE_sorted (x : Ev) : ∀ l : List Ev, l.Pairwise evLt → (insE x l).Pairwise evLt
  | [], _ => by simp [insE]
  | y :: r, h => by
    obtain ⟨h1, h2⟩ := List.pairwise_cons.1 h
    rw [insE]
    split
    · rename_i hyx
      refine List.pairwise_cons.2 ⟨fun z hz => ?_, insE_sorted x r h2⟩
      rcases (insE_mem x z r).1 hz with rfl | hz
      · exact hyx
      · exact h1 z hz
    · split
      · exact h
      · rename_i hyx hne
        have hxy : evLt x y := by
          rcases evLt_tri x y with h3 | h3 | h3
          · exact h3
          · exact absurd h3 hne
          · exact absurd h3 hyx
        refine List.pairwise_cons.2 ⟨fun z hz => ?_, h⟩
        rcases List.mem_cons.1 hz with rfl | hz
        · exact hxy
        · exact evLt_trans hxy (h1 z hz)
def sortE (l : List Ev) : List Ev := l.foldr insE []
theorem sortE_mem (l : List Ev) (x : Ev) : x ∈ sortE l ↔ x ∈ l := by
  unfold sortE
  induction l with
  | nil => simp
  | cons a l ih => rw [List.foldr_cons, insE_mem, ih, List.mem_cons]
theorem sortE_sorted (l : List Ev) : (sortE l).Pairwise evLt := by
  unfold sortE
  induction l with
  | nil => simp
  | cons a l ih => exact insE_sorted a _ ih
theorem compact_sortE {l l' : List Ev} (hp : l'.Perm l) (hs : l'.Pairwise fun a b => ¬ evLt b a) : compactL l' = sortE l :=
  sorted_ext _ _ (compactL_sorted l' hs) (sortE_sorted l) fun x => by rw [compactL_mem, sortE_mem, hp.mem_iff]
/-- the members of a set below 4096, in order -/
def elems (p : Nat → Bool) : List Nat := (List.range 4096).filter p
theorem elems_mem {p : Nat → Bool} {j : Nat} : j ∈ elems p ↔ j < 4096 ∧ p j = true := by unfold elems; rw [List.mem_filter, List.mem_range]
/-- where an event leads from a set -/
def toL (es : List Ed) (role : Int) (p : Nat → Bool) (x : Ev) : List Int := (elems p).flatMap fun n => (visL es role n).filterMap fun a => if a.x = x then some a.to else none
/-- the events of a set, in order -/
def evL (es : List Ed) (role : Int) (p : Nat → Bool) : List Ev := (elems p).flatMap fun n => (visL es role n).map (·.x)
def evs (es : List Ed) (role : Int) (p : Nat → Bool) : List Ev := sortE (evL es role p)
end Go.VC
end

section
/- The view table, on lists. No program here. -/
namespace Go.VC

structure Mv where
  f : Int
  send : Bool
  peer : Int
  label : Int
  t : Int
  ag : Bool
  deriving DecidableEq
def Mv.cs (m : Mv) : List Value := [.int .i64 m.f, .bool m.send, .int .i64 m.peer, .int .i64 m.label, .int .i64 m.t, .bool m.ag]
abbrev PSet := Nat → Bool
open Classical in
/-- the index of a set, or how many there are -/
noncomputable def rowI : List PSet → PSet → Nat
  | [], _ => 0
  | q :: r, p => if q = p then 0 else rowI r p + 1
open Classical in
noncomputable def rowS (S : List PSet) (p : PSet) : List PSet := if p ∈ S then S else S ++ [p]
theorem rowI_lt {S : List PSet} {p : PSet} : rowI S p < S.length ↔ p ∈ S := by
  induction S with
  | nil => simp [rowI]
  | cons q r ih =>
    rw [rowI, List.mem_cons]
    split
    · rename_i h; simp [h]
    · rename_i h
      rw [List.length_cons]
      constructor
      · intro h1; exact .inr (ih.1 (by omega))
      · rintro (h1 | h1)
        · exact absurd h1.symm h
        · have := ih.2 h1; omega
theorem rowI_of_not {S : List PSet} {p : PSet} (h : p ∉ S) : rowI S p = S.length := by
  induction S with
  | nil => rfl
  | cons q r ih =>
    rw [List.mem_cons, not_or] at h
    rw [rowI, if_neg (fun e => h.1 e.symm), ih h.2, List.length_cons]
theorem rowI_first {S : List PSet} {p : PSet} {i : Nat} (hi : S[i]? = some p) (h : ∀ (j : Nat) (q : PSet), j < i → S[j]? = some q → q ≠ p) : rowI S p = i := by
  induction S generalizing i with
  | nil => simp at hi
  | cons q r ih =>
    cases i with
    | zero => simp at hi; rw [rowI, if_pos hi]
    | succ i =>
      rw [rowI, if_neg (h 0 q (by omega) rfl), ih (by simpa using hi) fun j q' hj hq => h (j + 1) q' (by omega) (by simpa using hq)]
/-- the arcs of a row, and the sets that come up -/
noncomputable def arcsF (es : List Ed) (role : Int) (i : Nat) (p : PSet) : List Ev → List PSet → List Mv → List PSet × List Mv
  | [], S, M => (S, M)
  | x :: r, S, M => arcsF es role i p r (rowS S (clo es role (toL es role p x))) (M ++ [⟨i, x.send, x.peer, x.label, rowI S (clo es role (toL es role p x)), false⟩])
/-- the table: f rows are left to do -/
noncomputable def viewsF (es : List Ed) (role : Int) : Nat → Nat → List PSet → List Mv → Option (List PSet × List Mv)
  | 0, _, _, _ => none
  | f + 1, i, S, M => match S[i]? with
    | none => some (S, M)
    | some p => if (arcsF es role i p (evs es role p) S M).1.length > 200 then none else viewsF es role f (i + 1) (arcsF es role i p (evs es role p) S M).1 (arcsF es role i p (evs es role p) S M).2
noncomputable def views (g : Gl) (role : Int) : Option (List PSet × List Mv) := viewsF g.es role 202 0 [clo g.es role [g.s]] []
end Go.VC
end

section
/- What a role has to know in all states, on lists. No program here. -/
namespace Go.VC

/-- a timing -/
structure Ti where
  ag : Bool
  k : Int
  x : Ev
  deriving DecidableEq
def Ti.cs (t : Ti) : List Value := [.bool t.ag, .int .i64 t.k, .bool t.x.send, .int .i64 t.x.peer, .int .i64 t.x.label]
def ti0 : Ti := ⟨false, 0, ⟨false, 0, 0⟩⟩
def updT (T : List Ti) (n : Nat) (f : Ti → Ti) : List Ti := match T[n]? with | some t => T.set n (f t) | none => T
def own1 (role : Int) (s : List Bool × List Ti) (x : Ed) : List Bool × List Ti :=
  if x.a = role then (s.1.set x.f.toNat true, updT s.2 x.f.toNat fun t => { t with ag := x.ag }) else s
def own2 (es : List Ed) (O : List Bool) (T : List Ti) (t : To) : List Ti :=
  match O[t.s.toNat]?, es[t.e.toNat]? with
  | some true, some x => updT T t.s.toNat fun q => ⟨q.ag, t.k, ⟨true, x.b, x.l⟩⟩
  | _, _ => T
theorem updT_len (T : List Ti) (n : Nat) (f : Ti → Ti) : (updT T n f).length = T.length := by
  unfold updT; split
  · rw [List.length_set]
  · rfl
theorem own1_len (role : Int) (s : List Bool × List Ti) (x : Ed) : (own1 role s x).1.length = s.1.length ∧ (own1 role s x).2.length = s.2.length := by
  unfold own1; split
  · exact ⟨List.length_set, updT_len _ _ _⟩
  · exact ⟨rfl, rfl⟩
theorem own2_len (es : List Ed) (O : List Bool) (T : List Ti) (t : To) : (own2 es O T t).length = T.length := by
  unfold own2; split
  · exact updT_len _ _ _
  · rfl
/-- what is known of the states behind the edges es, and behind the time limits ts -/
def ownE (es : List Ed) (role : Int) (n : Nat) : List Bool × List Ti := es.foldl (own1 role) (List.replicate n false, List.replicate n ti0)
def ownT (es : List Ed) (ts : List To) (role : Int) (n : Nat) : List Ti := ts.foldl (own2 es (ownE es role n).1) (ownE es role n).2
theorem ownE_len (es : List Ed) (role : Int) (n : Nat) : (ownE es role n).1.length = n ∧ (ownE es role n).2.length = n := by
  unfold ownE
  suffices h : ∀ (l : List Ed) (s : List Bool × List Ti), (l.foldl (own1 role) s).1.length = s.1.length ∧ (l.foldl (own1 role) s).2.length = s.2.length by
    have := h es (List.replicate n false, List.replicate n ti0)
    simpa using this
  intro l
  induction l with
  | nil => intro s; exact ⟨rfl, rfl⟩
  | cons a l ih => intro s; rw [List.foldl_cons]; have h1 := ih (own1 role s a); have h2 := own1_len role s a; exact ⟨h1.1.trans h2.1, h1.2.trans h2.2⟩
theorem ownT_len (es : List Ed) (ts : List To) (role : Int) (n : Nat) : (ownT es ts role n).length = n := by
  unfold ownT
  suffices h : ∀ (l : List To) (T : List Ti), (l.foldl (own2 es (ownE es role n).1) T).length = T.length from (h ts _).trans (ownE_len es role n).2
  intro l
  induction l with
  | nil => intro s; rfl
  | cons a l ih => intro s; rw [List.foldl_cons, ih, own2_len]
theorem foldl_snoc {α β : Type} {f : β → α → β} {b : β} {l : List α} {i : Nat} {x : α} (h : l[i]? = some x) : (l.take (i + 1)).foldl f b = f ((l.take i).foldl f b) x := by
  rw [List.take_add_one, h, List.foldl_append]; rfl
/-- cells of a row of an own slice are written -/
theorem St.setf {α : Type} {h0 h : Heap} {L : List It} (hs : St h0 h L) (k : Nat) {s : Sl} {e : TypeId} {n : Nat} {cs : α → List Value} {l : List α} (hk : L[k]? = some (.sl s e n (l.map cs))) (hn : 0 < n) {x : Int} (hx0 : 0 ≤ x) (hx1 : x < (s.n : Nat)) (j : Nat) {y : α} (hy : l[x.toNat]? = some y) (y' : α) {vs : List Value} (hsp : splice (cs y) j vs = cs y')
    (hv : j + vs.length ≤ n) {m : Nat} (hm : m = vs.length) {K : Nat → Nat → Heap → Prop} (hK : ∀ b o h', St h0 h' (L.set k (.sl s e n ((l.set x.toNat y').map cs))) → K b o h') :
    NB s.a fun b o => (0 ≤ x ∧ x < (s.n : Nat)) ∧ (okAt h ⟨b, o + x.toNat * n + j, none⟩ m ∧ ∀ h', h' = hputs h ⟨b, o + x.toNat * n + j, none⟩ 0 vs → K b o h') := by
  refine hs.nbput k hk hn (i := x.toNat) (row := cs y) (by rw [List.getElem?_map, hy]; rfl) j hv (fun b o h' h1 => hK b o h' ?_) hm ⟨hx0, hx1⟩
  rw [hsp] at h1
  rw [List.map_set]
  exact h1
theorem updT_get {T : List Ti} {n : Nat} {f : Ti → Ti} {t : Ti} (h : T[n]? = some t) : updT T n f = T.set n (f t) := by unfold updT; rw [h]
end Go.VC
end

section
/- The timing of a view, on lists. No program here. -/
namespace Go.VC

def sndAt (L : List Ev) (i : Nat) : Bool := match L[i]? with | some x => x.send | none => false
/-- the sending conditions fail at n -/
def badV (F : Nat → List Ev) (en : Nat → Bool) (l : List Nat) (n : Nat) : Bool := sndAt (F n) 0 && (en n || !sndAt (F n) ((F n).length - 1) || l.any fun k => en k || decide (F n ≠ F k))
def stepV (F : Nat → List Ev) (en : Nat → Bool) (O : List Bool) (T : List Ti) (l : List Nat) (st : Option (Bool × Ti)) (n : Nat) : Option (Bool × Ti) :=
  match st with
  | none => none
  | some (k, o) => if badV F en l n then none else match O[n]?, T[n]? with
    | some true, some t => if k && decide (t ≠ o) then none else some (true, t)
    | _, _ => some (k, o)
def viewV (F : Nat → List Ev) (en : Nat → Bool) (O : List Bool) (T : List Ti) (l : List Nat) : Option Ti := (l.foldl (stepV F en O T l) (some (false, ti0))).map Prod.snd
theorem stepV_none (F : Nat → List Ev) (en : Nat → Bool) (O : List Bool) (T : List Ti) (l m : List Nat) : m.foldl (stepV F en O T l) none = none := by
  induction m with
  | nil => rfl
  | cons a m ih => rw [List.foldl_cons]; exact ih
theorem viewV_none {F : Nat → List Ev} {en : Nat → Bool} {O : List Bool} {T : List Ti} {l : List Nat} {i : Nat} {b : Option (Bool × Ti)} {n : Nat} (hb : (l.take i).foldl (stepV F en O T l) (some (false, ti0)) = b) (hn : l[i]? = some n) (h : stepV F en O T l b n = none) : viewV F en O T l = none := by
  unfold viewV
  have e : l = l.take i ++ (n :: l.drop (i + 1)) := by
    have := List.take_append_drop i l
    obtain ⟨h1, h2⟩ := List.getElem?_eq_some_iff.1 hn
    rw [List.drop_eq_getElem_cons h1, h2] at this
    exact this.symm
  have e2 : l.foldl (stepV F en O T l) (some (false, ti0)) = none := by
    have : ∀ m, m = l → m.foldl (stepV F en O T l) (some (false, ti0)) = none := by
      intro m hm
      rw [hm.trans e, List.foldl_append, hb, List.foldl_cons, h, stepV_none]
    exact this l rfl
  rw [e2]; rfl
theorem ti_eqb (x y : Ti) : (((x.ag == y.ag) && ((x.k == y.k) && (((x.x.send == y.x.send) && ((x.x.peer == y.x.peer) && ((x.x.label == y.x.label) && true))) && true))) : Bool) = decide (x = y) := by
  obtain ⟨a, k, ⟨s, p, l⟩⟩ := x
  obtain ⟨a', k', ⟨s', p', l'⟩⟩ := y
  simp [Bool.beq_eq_decide_eq, ← Bool.decide_and]
theorem Rw.atI {α : Type} {h : Heap} {k : Nat} {s : Sl} {cs : α → List Value} {L : List α} (hr : Rw h k s (L.map cs)) {b o : Nat} (ha : s.a = some ⟨b, o, none⟩) {i : Nat} {y : α} (hi : L[i]? = some y) : atC h ⟨b, o + i * k, none⟩ (cs y) := by
  obtain ⟨b', o', ha', hall⟩ := hr.2 (by rw [List.length_map]; have := (List.getElem?_eq_some_iff.1 hi).1; omega)
  rw [ha] at ha'
  cases ha'
  exact hall i (cs y) (by rw [List.getElem?_map, hi]; rfl)
/-- a row of an own slice is read, and cells of it are written later -/
theorem St.nbw {α : Type} {h0 h : Heap} {L : List It} (hs : St h0 h L) (k : Nat) {s : Sl} {e : TypeId} {n : Nat} {cs : α → List Value} {l : List α} (hk : L[k]? = some (.sl s e n (l.map cs))) (hn : 0 < n) {x : Int} (hx0 : 0 ≤ x) (hx1 : x < (s.n : Nat)) {F : Nat → Nat → Prop}
    (hF : ∀ b o y, l[x.toNat]? = some y → s.a = some ⟨b, o, none⟩ → atC h ⟨b, o + x.toNat * n, none⟩ (cs y) → (∀ (j : Nat) (y' : α) (vs : List Value), splice (cs y) j vs = cs y' → j + vs.length ≤ n → ∀ {m : Nat} (_ : m = vs.length) {K : Heap → Prop}, (∀ h', St h0 h' (L.set k (.sl s e n ((l.set x.toNat y').map cs))) → K h') →
      okAt h ⟨b, o + x.toNat * n + j, none⟩ m ∧ ∀ h', h' = hputs h ⟨b, o + x.toNat * n + j, none⟩ 0 vs → K h') → F b o) : NB s.a fun b o => (0 ≤ x ∧ x < (s.n : Nat)) ∧ F b o := by
  have hr := hs.rows k hk hn
  have hl := hr.ln
  have hlt : x.toNat < l.length := by omega
  have hg : l[x.toNat]? = some l[x.toNat] := List.getElem?_eq_getElem hlt
  refine hr.nb (i := x.toNat) (row := cs l[x.toNat]) (by rw [List.getElem?_map, hg]; rfl) fun b o ha hat => ⟨⟨hx0, hx1⟩, hF b o _ hg ha hat ?_⟩
  intro j y' vs hsp hv m hm K hK
  have h1 := hs.setf k hk hn hx0 hx1 j hg y' hsp hv hm (K := fun _ _ h' => K h') (fun _ _ h' h2 => hK h' h2)
  rw [ha, NB_some] at h1
  exact h1.2
/-- an endpoint machine -/
structure Mch where
  role : Int
  n : Int
  s : Int
  fin : List Bool
  mv : List Mv
  li : List To
def updR (n : Nat) (x : Ti) (y : Mv) : Mv := if y.f = n ∧ y.send = true then { y with ag := x.ag } else y
def limC (n : Nat) (x : Ti) (q : Mv × Nat) : Option To := if q.1.f = n ∧ q.1.send = true ∧ x.k > 0 ∧ x.x = ⟨true, q.1.peer, q.1.label⟩ then some ⟨n, x.k, q.2⟩ else none
def limR (n : Nat) (x : Ti) (M : List Mv) : List To := M.zipIdx.filterMap (limC n x)
def rawL (vw : List Nat → Option Ti) : Nat → List PSet → List Mv → List To → Option (List Mv × List To)
  | _, [], M, L => some (M, L)
  | n, p :: S, M, L => match vw (elems p) with
    | none => none
    | some x => rawL vw (n + 1) S (M.map (updR n x)) (L ++ limR n x M)
theorem updR_same (n : Nat) (x : Ti) (y : Mv) : (updR n x y).f = y.f ∧ (updR n x y).send = y.send ∧ (updR n x y).peer = y.peer ∧ (updR n x y).label = y.label ∧ (updR n x y).t = y.t := by
  unfold updR; split <;> exact ⟨rfl, rfl, rfl, rfl, rfl⟩
theorem limR_len (n : Nat) (x : Ti) (M : List Mv) : (limR n x M).length ≤ M.length := by
  unfold limR
  refine Nat.le_trans (List.length_filterMap_le _ _) ?_
  rw [List.length_zipIdx]; exact Nat.le_refl _
theorem zip_snoc {α : Type} {l : List α} {i : Nat} {x : α} (h : l[i]? = some x) : (l.take (i + 1)).zipIdx = (l.take i).zipIdx ++ [(x, i)] := by
  rw [take_snoc h, List.zipIdx_append, List.length_take, Nat.min_eq_left (Nat.le_of_lt (List.getElem?_eq_some_iff.1 h).1)]
  simp
theorem set_split {α : Type} {i : Nat} {x y : α} (f : α → α) {M : List α} (h : M[i]? = some x) (hy : f x = y) : ((M.take i).map f ++ M.drop i).set i y = (M.take (i + 1)).map f ++ M.drop (i + 1) := by
  obtain ⟨h1, h2⟩ := List.getElem?_eq_some_iff.1 h
  have hl : ((M.take i).map f).length = i := by rw [List.length_map, List.length_take]; omega
  rw [take_snoc h, List.map_append, List.drop_eq_getElem_cons h1, List.set_append_right _ _ (by omega), hl, Nat.sub_self, List.set_cons_zero, List.append_assoc, ← hy]
  rfl
theorem get_split {α : Type} {i : Nat} {f : α → α} {M : List α} : ((M.take i).map f ++ M.drop i)[i]? = M[i]? := by
  by_cases hi : i ≤ M.length
  · have hl : ((M.take i).map f).length = i := by rw [List.length_map, List.length_take]; omega
    rw [List.getElem?_append_right (by omega), hl, Nat.sub_self, List.getElem?_drop, Nat.add_zero]
  · rw [List.getElem?_eq_none (by rw [List.length_append, List.length_map, List.length_take, List.length_drop]; omega), List.getElem?_eq_none (by omega)]
end Go.VC
end

section
/- For every program: maps of the call's own, as lists of keys and elements. -/
namespace Go.VC
open Go.RowKit Go.Maps Go.ChangeMaps
set_option maxRecDepth 100000

def mget {α β : Type} [DecidableEq α] : List (α × β) → α → Option β
  | [], _ => none
  | (x, y) :: r, a => if x = a then some y else mget r a
def mset {α β : Type} [DecidableEq α] : List (α × β) → α → β → List (α × β)
  | [], a, b => [(a, b)]
  | (x, y) :: r, a, b => if x = a then (x, b) :: r else (x, y) :: mset r a b
theorem mget_none {α β : Type} [DecidableEq α] {a : α} : ∀ {l : List (α × β)}, (∀ q ∈ l, q.1 ≠ a) → mget l a = none
  | [], _ => rfl
  | (x, y) :: r, h => by rw [mget, if_neg (h (x, y) (by simp))]; exact mget_none fun q hq => h q (List.mem_cons_of_mem _ hq)
theorem mget_some {α β : Type} [DecidableEq α] {a : α} {y : β} : ∀ {l : List (α × β)} {j : Nat}, (l.map Prod.fst).Nodup → l[j]? = some (a, y) → mget l a = some y
  | [], j, _, h => by simp at h
  | (x, z) :: r, 0, _, h => by simp at h; rw [mget, if_pos h.1, h.2]
  | (x, z) :: r, j + 1, hn, h => by
    rw [List.getElem?_cons_succ] at h
    rw [List.map_cons, List.nodup_cons] at hn
    have : x ≠ a := fun e => hn.1 (by subst e; exact List.mem_map.2 ⟨_, List.mem_of_getElem? h, rfl⟩)
    rw [mget, if_neg this]
    exact mget_some hn.2 h
theorem mset_none {α β : Type} [DecidableEq α] {a : α} {b : β} : ∀ {l : List (α × β)}, (∀ q ∈ l, q.1 ≠ a) → mset l a b = l ++ [(a, b)]
  | [], _ => rfl
  | (x, y) :: r, h => by rw [mset, if_neg (h (x, y) (by simp)), mset_none fun q hq => h q (List.mem_cons_of_mem _ hq)]; rfl
theorem mset_some {α β : Type} [DecidableEq α] {a : α} {y b : β} : ∀ {l : List (α × β)} {j : Nat}, (l.map Prod.fst).Nodup → l[j]? = some (a, y) → mset l a b = l.set j (a, b)
  | [], j, _, h => by simp at h
  | (x, z) :: r, 0, _, h => by simp at h; rw [mset, if_pos h.1, List.set_cons_zero, h.1]
  | (x, z) :: r, j + 1, hn, h => by
    rw [List.getElem?_cons_succ] at h
    rw [List.map_cons, List.nodup_cons] at hn
    have : x ≠ a := fun e => hn.1 (by subst e; exact List.mem_map.2 ⟨_, List.mem_of_getElem? h, rfl⟩)
    rw [mset, if_neg this, List.set_cons_succ, mset_some hn.2 h]
theorem mset_keys {α β : Type} [DecidableEq α] (a : α) (b : β) : ∀ (l : List (α × β)) (x : α), x ∈ (mset l a b).map Prod.fst ↔ x ∈ l.map Prod.fst ∨ x = a
  | [], x => by simp [mset]
  | (c, y) :: r, x => by
    rw [mset]
    split
    · rename_i h; subst h
      simp only [List.map_cons, List.mem_cons]
      constructor
      · intro h; exact .inl h
      · rintro (h | rfl)
        · exact h
        · exact .inl rfl
    · simp only [List.map_cons, List.mem_cons, mset_keys a b r x]
      constructor
      · rintro (h | h | h)
        · exact .inl (.inl h)
        · exact .inl (.inr h)
        · exact .inr h
      · rintro ((h | h) | h)
        · exact .inl h
        · exact .inr (.inl h)
        · exact .inr (.inr h)
theorem mset_nodup {α β : Type} [DecidableEq α] (a : α) (b : β) : ∀ (l : List (α × β)), (l.map Prod.fst).Nodup → ((mset l a b).map Prod.fst).Nodup
  | [], _ => by simp [mset]
  | (c, y) :: r, h => by
    rw [mset]
    split
    · exact h
    · rename_i hne
      rw [List.map_cons, List.nodup_cons] at h ⊢
      refine ⟨fun hm => ?_, mset_nodup a b r h.2⟩
      rcases (mset_keys a b r c).1 hm with h1 | h1
      · exact h.1 h1
      · exact hne h1
theorem St.mmake {P : Program} {h0 h : Heap} {L : List It} (hs : St h0 h L) (t : TypeId) {K : Value → Heap → Prop} (hK : ∀ h', Ext h h' → St h0 h' (.mp h.size [] :: L) → K (.map (some h.size)) h') : RunW P (Instr.makeMap t none) h K := by
  intro w hw
  subst hw
  have hE : Ext w.heap (w.alloc (.map #[] 0)).heap := ⟨by show _ ≤ (w.heap.push _).size; rw [Array.size_push]; omega, fun i hi => (MapKept.heap_alloc w _).2 i hi⟩
  refine ⟨_, _, run_makeMap t w, ?_, rfl, rfl, rfl⟩
  refine hK _ hE (hs.more hE (i := .mp w.heap.size []) ⟨#[], 0, (MapKept.heap_alloc w _).1, rfl⟩ fun b hb => ?_)
  cases hb; exact Nat.le_refl _
section
variable {α β : Type} {P : Program} {t kt e : TypeId} {ck : α → Value} {cv : β → Value} {kok : α → Prop}
/-- what a map's type gives -/
structure MT (P : Program) (t kt e : TypeId) (ck : α → Value) (kok : α → Prop) (z : Value) : Prop where
  K : Keyed P kt
  ht : P.underlying t = some (.map kt e)
  key : ∀ a, kok a → ∃ l, keyOf P kt (ck a) = some l
  inj : ∀ a a', ck a = ck a' → a = a'
  z : ∀ w, (zeroValue e).run P w = .ok z w
theorem mp_find {z : Value} (M : MT P t kt e ck kok z) {l : List (α × β)} {es : Array MapEntry} (he : es.toList.map (fun e : MapEntry => (e.key, e.val)) = l.map fun q => (ck q.1, cv q.2)) (hl : ∀ q ∈ l, kok q.1) {a : α} (ha : kok a) (w : World) :
    ((Instr.findKey kt (ck a) es.toList).run P w = .ok none w ∧ ∀ q ∈ l, q.1 ≠ a) ∨ ∃ j y e0, (Instr.findKey kt (ck a) es.toList).run P w = .ok (some (j, cv y)) w ∧ l[j]? = some (a, y) ∧ es.toList[j]? = some e0 ∧ e0.key = ck a ∧ e0.val = cv y := by
  obtain ⟨lx, hlx⟩ := M.key a ha
  have hget : ∀ (j : Nat) (e0 : MapEntry), es.toList[j]? = some e0 → ∃ q, l[j]? = some q ∧ e0.key = ck q.1 ∧ e0.val = cv q.2 := fun j e0 h => by
    have h1 := congrArg (·[j]?) he
    simp only [List.getElem?_map, h, Option.map_some] at h1
    obtain ⟨q, hq, h2⟩ := Option.map_eq_some_iff.1 h1.symm
    exact ⟨q, hq, (Prod.mk.inj h2).1.symm, (Prod.mk.inj h2).2.symm⟩
  have hks : ∀ e0 ∈ es.toList, ∃ l, keyOf P kt e0.key = some l := fun e0 hm => by
    obtain ⟨j, hj⟩ := List.mem_iff_getElem?.1 hm
    obtain ⟨q, hq, h2, _⟩ := hget j e0 hj
    rw [h2]; exact M.key _ (hl q (List.mem_of_getElem? hq))
  rcases M.K.find w hlx es.toList hks with ⟨h1, h2⟩ | ⟨j, e0, h1, h2, h3⟩
  · refine .inl ⟨h1, fun q hq hc => ?_⟩
    obtain ⟨j, hj⟩ := List.mem_iff_getElem?.1 hq
    have h4 := congrArg (·[j]?) he
    simp only [List.getElem?_map, hj, Option.map_some] at h4
    obtain ⟨e0, he0, h5⟩ := Option.map_eq_some_iff.1 h4
    exact h2 e0 (List.mem_of_getElem? he0) (by rw [(Prod.mk.inj h5).1, hc])
  · obtain ⟨q, hq, h4, h5⟩ := hget j e0 h2
    have : q.1 = a := M.inj _ _ (by rw [← h4, h3])
    obtain ⟨q1, q2⟩ := q
    cases this
    exact .inr ⟨j, q2, e0, by rw [h1, h5], hq, h2, h3, h5⟩
theorem St.mlook [DecidableEq α] {z : Value} (M : MT P t kt e ck kok z) {h0 h : Heap} {L : List It} (hs : St h0 h L) (k : Nat) {b : Nat} {l : List (α × β)} (hk : L[k]? = some (.mp b (l.map fun q => (ck q.1, cv q.2)))) (hl : ∀ q ∈ l, kok q.1) (hn : (l.map Prod.fst).Nodup) {a : α} (ha : kok a) (c : Bool) {R : Value → Heap → Prop}
    (hR : R (match mget l a with | none => if c then .tuple ⟨[z, .bool false]⟩ else z | some y => if c then .tuple ⟨[cv y, .bool true]⟩ else cv y) h) : RunW P (Instr.lookup t (.map (some b)) (ck a) c) h R := by
  intro w hw
  subst hw
  obtain ⟨es, clock, hb, he⟩ := hs.get hk
  obtain ⟨lx, hlx⟩ := M.key a ha
  rcases mp_find (cv := cv) M he hl ha w with ⟨h1, h2⟩ | ⟨j, y, e0, h1, h2, h3, h4, h5⟩
  · rw [mget_none h2] at hR
    refine ⟨_, w, ?_, hR, rfl, rfl, rfl⟩
    simp [Instr.lookup, run_underlying M.ht, MapKept.run_getObj_map hb, M.K.check w _ hlx, h1, M.z w, Result.andThen]
  · rw [mget_some hn h2] at hR
    refine ⟨_, w, ?_, hR, rfl, rfl, rfl⟩
    simp [Instr.lookup, run_underlying M.ht, MapKept.run_getObj_map hb, M.K.check w _ hlx, h1, Result.andThen]
theorem St.mlookOk [DecidableEq α] {z : Value} (M : MT P t kt e ck kok z) {h0 h : Heap} {L : List It} (hs : St h0 h L) (k : Nat) {b : Nat} {l : List (α × β)} (hk : L[k]? = some (.mp b (l.map fun q => (ck q.1, cv q.2)))) (hl : ∀ q ∈ l, kok q.1) (hn : (l.map Prod.fst).Nodup) {a : α} (ha : kok a) {R : Value → Heap → Prop}
    (hR : R (.tuple ⟨[(mget l a).elim z cv, .bool (mget l a).isSome]⟩) h) : RunW P (Instr.lookup t (.map (some b)) (ck a) true) h R := by
  refine hs.mlook M k hk hl hn ha true ?_
  generalize mget l a = o at *
  cases o <;> exact hR
theorem St.mlen {z : Value} (M : MT P t kt e ck kok z) {h0 h : Heap} {L : List It} (hs : St h0 h L) (k : Nat) {b : Nat} {l : List (α × β)} (hk : L[k]? = some (.mp b (l.map fun q => (ck q.1, cv q.2)))) {ty : TypeId} {R : Value → Heap → Prop}
    (hR : R (.int .i64 (l.length : Nat)) h) : RunW P (Builtin.len_ #[t] ty #[.map (some b)]) h R := by
  intro w hw
  subst hw
  obtain ⟨es, clock, hb, he⟩ := hs.get hk
  have e1 : es.size = l.length := by have := congrArg List.length he; simpa using this
  refine ⟨_, w, ?_, hR, rfl, rfl, rfl⟩
  rw [← e1]
  simp [Builtin.len_, run_underlying M.ht, MapKept.run_getObj_map hb, goInt, Result.andThen]
theorem St.mput [DecidableEq α] {z : Value} (M : MT P t kt e ck kok z) {h0 h : Heap} {L : List It} (hs : St h0 h L) (k : Nat) {b : Nat} {l : List (α × β)} (hk : L[k]? = some (.mp b (l.map fun q => (ck q.1, cv q.2)))) (hl : ∀ q ∈ l, kok q.1) (hn : (l.map Prod.fst).Nodup) {a : α} (ha : kok a) (y : β) {R : Unit → Heap → Prop}
    (hR : ∀ h', St h0 h' (L.set k (.mp b ((mset l a y).map fun q => (ck q.1, cv q.2)))) → R () h') : RunW P (Instr.mapUpdate t (.map (some b)) (ck a) (cv y)) h R := by
  intro w hw
  subst hw
  obtain ⟨es, clock, hb, he⟩ := hs.get hk
  obtain ⟨lx, hlx⟩ := M.key a ha
  have fin : ∀ (es' : Array MapEntry) (clock' : Nat), es'.toList.map (fun e : MapEntry => (e.key, e.val)) = ((mset l a y).map fun q => (ck q.1, cv q.2)) → R () (setBlock w b (.map es' clock')).heap := by
    intro es' clock' he'
    refine hR _ (hs.turn hk (j := .mp b ((mset l a y).map fun q => (ck q.1, cv q.2))) ?_ ⟨es', clock', heap_setBlock_same hb _, he'⟩ (fun c hc => .inr hc) fun c _ hc => heap_setBlock_other hb _ fun e => hc (by rw [e]; rfl))
    show w.heap.size ≤ (w.heap.setIfInBounds b _).size
    rw [Array.size_setIfInBounds]; exact Nat.le_refl _
  rcases mp_find (cv := cv) M he hl ha w with ⟨h1, h2⟩ | ⟨j, y0, e0, h1, h2, h3, h4, h5⟩
  · refine ⟨(), setBlock w b (.map (es.push ⟨ck a, cv y, clock⟩) (clock + 1)), ?_, fin _ _ ?_, rfl, rfl, rfl⟩
    · simp [Instr.mapUpdate, run_underlying M.ht, MapKept.run_getObj_map hb, M.K.check w false hlx, h1, MapKept.run_setObj_map _ hb, Result.andThen, setBlock]
    · rw [mset_none h2, Array.toList_push, List.map_append, he, List.map_append]; rfl
  · have hj : es[j]? = some e0 := by simpa using h3
    have hlist : (es.modify j (fun e' => { e' with key := ck a, val := cv y })).toList = es.toList.set j { e0 with key := ck a, val := cv y } := by rw [Array.toList_modify, modify_eq_set _ _ _ _ h3]
    refine ⟨(), setBlock w b (.map (es.modify j (fun e' => { e' with key := ck a, val := cv y })) clock), ?_, fin _ _ ?_, rfl, rfl, rfl⟩
    · simp [Instr.mapUpdate, run_underlying M.ht, MapKept.run_getObj_map hb, M.K.check w false hlx, h1, hj, h4, M.K.stays w hlx, MapKept.run_setObj_map _ hb, Result.andThen, setBlock]
    · rw [mset_some hn h2, hlist, List.map_set, he, List.map_set]
end
end Go.VC
end
