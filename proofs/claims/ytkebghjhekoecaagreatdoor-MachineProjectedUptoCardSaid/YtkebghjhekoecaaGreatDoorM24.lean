/- RjS RjVcM RjVcO RjT RjVcN RjU RjV RjVcP RjW RjX RjAa. -/
import Derived.Test.YtkebghjhekoecaaGreatDoorM22
import Derived.Test.YtkebghjhekoecaaGreatDoorM23
import Derived.Test.YtkebghjhekoecaaGreatDoorM01
import Derived.Test.YtkebghjhekoecaaGreatDoorM02
import Derived.Test.YtkebghjhekoecaaGreatDoorProg
import Derived.KernelRfl
set_option linter.unusedVariables false
set_option linter.unusedSimpArgs false
set_option maxRecDepth 100000

section
/- Plain: a valid machine with its moves sorted. No program here. -/
namespace Go.VC
open Go.LexS
structure WM (m : Mch) : Prop where
 n : NumM m
 d : DetM m
 t : TimM m
theorem VM.w {m : Mch} (h : VM m) : WM m := ⟨h.n, h.d, h.t⟩
theorem evLt_nt {a b c : Ev} (h1 : ¬ evLt b a) (h2 : ¬ evLt c b) : ¬ evLt c a := fun h => by
 rcases evLt_tri a b with h3 | h3 | h3
 ·
  rcases evLt_tri b c with h4 | h4 | h4
  ·
   exact evLt_irr _ (evLt_trans (evLt_trans h3 h4) h)
  ·
   subst h4; exact evLt_irr _ (evLt_trans h3 h)
  ·
   exact h2 h4
 ·
  subst h3; exact h2 h
 ·
  exact h1 h3
theorem mvS_srt (m : Mch) (s : Int) : (mvS m s).Perm (outIx m s) /\ (mvS m s).Pairwise fun a b => ¬ evLt (evI m b) (evI m a) := by
 have hex : ∃ O : List Nat, O.Perm (outIx m s) /\ O.Pairwise fun a b => ¬ evLt (evI m b) (evI m a) := by
  refine ⟨(outIx m s).mergeSort (fun a b => !decide (evLt (evI m b) (evI m a))), List.mergeSort_perm _ _, ?_⟩
  have h := List.pairwise_mergeSort (le := fun a b => !decide (evLt (evI m b) (evI m a))) (fun a b c h1 h2 => by
   simp only [Bool.not_eq_true', decide_eq_false_iff_not] at h1 h2 ⊢
   exact evLt_nt h1 h2) (fun a b => by
   simp only [Bool.or_eq_true, Bool.not_eq_true', decide_eq_false_iff_not]
   rcases evLt_tri (evI m a) (evI m b) with h3 | h3 | h3
   ·
    exact .inl fun h => evLt_irr _ (evLt_trans h3 h)
   ·
    exact .inl fun h => by rw [h3] at h; exact evLt_irr _ h
   ·
    exact .inr fun h => evLt_irr _ (evLt_trans h3 h)) (outIx m s)
  exact h.imp fun h => by simpa using h
 unfold mvS
 rw [dif_pos hex]
 exact Classical.choose_spec hex
theorem fmap_some {α β : Type} {f : α -> Option β} : ∀ {l : List α}, (∀ i ∈ l, ∃ x, f i = some x) -> l.map f = (l.filterMap f).map some
 | [], _ => rfl
 | a :: l, h => by
  obtain ⟨x, hx⟩ := h a Yx
  rw [Yyl, List.filterMap_cons, hx, Yyl, fmap_some fun i hi => h i (Yn _ hi)]
noncomputable def rwS (m : Mch) (s : Nat) : List Mv := (mvS m (s : Int)).filterMap fun i => m.mv[i]?
theorem rwS_map (m : Mch) (s : Nat) : (mvS m (s : Int)).map (fun i => m.mv[i]?) = (rwS m s).map some := fmap_some fun i hi => by
 obtain ⟨x, hx, _⟩ := (mvS_ok m (s : Int) i).1 hi
 exact ⟨x, hx⟩
theorem rwS_len (m : Mch) (s : Nat) : (rwS m s).length = (mvS m (s : Int)).length := by
 have := congrArg List.length (rwS_map m s)
 rw [Yc, Yc] at this; exact this.symm
theorem rwS_get {m : Mch} {s j i : Nat} {x : Mv} (h : (mvS m (s : Int))[j]? = some i) (hx : m.mv[i]? = some x) : (rwS m s)[j]? = some x := by
 have := congrArg (fun l => l[j]?) (rwS_map m s)
 simp only [Yd, h, Option.map_some, hx] at this
 cases hr : (rwS m s)[j]? with
 | none => rw [hr] at this; cases this
 | some y => rw [hr] at this; simpa using this.symm
theorem rwS_of {m : Mch} {s j : Nat} {x : Mv} (h : (rwS m s)[j]? = some x) : ∃ i, (mvS m (s : Int))[j]? = some i /\ m.mv[i]? = some x /\ x.f = (s : Int) := by
 have hj := (Ya.1 h).1
 rw [rwS_len] at hj
 obtain ⟨i, hi⟩ := get_some hj
 obtain ⟨y, hy, hyf⟩ := (mvS_ok m (s : Int) i).1 (Yb hi)
 have := rwS_get hi hy
 rw [h] at this; cases this
 exact ⟨i, hi, hy, hyf⟩
theorem rwS_mem {m : Mch} {s : Nat} {x : Mv} : x ∈ rwS m s ↔ x ∈ m.mv /\ x.f = (s : Int) := by
 constructor
 ·
  intro h
  obtain ⟨j, hj⟩ := Yf.1 h
  obtain ⟨i, _, h2, h3⟩ := rwS_of hj
  exact ⟨Yb h2, h3⟩
 ·
  rintro ⟨h1, h2⟩
  obtain ⟨i, hi⟩ := Yf.1 h1
  have := (mvS_ok m (s : Int) i).2 ⟨x, hi, h2⟩
  obtain ⟨j, hj⟩ := Yf.1 this
  exact Yb (rwS_get hj hi)
theorem pair_get {α : Type} {R : α -> α -> Prop} {l : List α} (h : l.Pairwise R) {i j : Nat} {a b : α} (hij : i < j) (ha : l[i]? = some a) (hb : l[j]? = some b) : R a b := by
 obtain ⟨h1, h2⟩ := Ya.1 ha
 obtain ⟨h3, h4⟩ := Ya.1 hb
 rw [<- h2, <- h4]
 exact List.pairwise_iff_getElem.1 h i j h1 h3 hij
theorem pair_of {α : Type} {R : α -> α -> Prop} {l : List α} (h : ∀ (i j : Nat) a b, i < j -> l[i]? = some a -> l[j]? = some b -> R a b) : l.Pairwise R :=
 List.pairwise_iff_getElem.2 fun i j hi hj hij => h i j _ _ hij (Yi hi) (Yi hj)
theorem rwS_lt {m : Mch} (hD : DetM m) (s : Nat) : (rwS m s).Pairwise fun a b => evLt a.ev b.ev := pair_of fun i j a b hij ha hb => by
 obtain ⟨p, hp, hpa, hf⟩ := rwS_of ha
 obtain ⟨q, hq, hqb, hg⟩ := rwS_of hb
 obtain ⟨s1, s2⟩ := mvS_srt m (s : Int)
 have h1 := pair_get s2 hij hp hq
 rw [evI_of hpa, evI_of hqb] at h1
 have hnd : (mvS m (s : Int)).Nodup := (s1.nodup_iff).2 (outIx_nodup m s)
 have hne : p ≠ q := pair_get hnd hij hp hq
 exact evLt_of h1 (hD p q a b hpa hqb hne (by rw [hf, hg])).1
noncomputable def srtV (m : Mch) : List Mv := (List.range m.n.toNat).flatMap (rwS m)
noncomputable def srtE (m : Mch) (t : To) : To := ⟨t.s, t.k, (idxF (srtV m) (m.mv.getD t.e.toNat ⟨0, false, 0, 0, 0, false⟩) : Nat)⟩
noncomputable def srtM (m : Mch) : Mch := ⟨m.role, m.n, m.s, m.fin, srtV m, m.li.map (srtE m)⟩
theorem srtV_mem {m : Mch} (hN : NumM m) {x : Mv} : x ∈ srtV m ↔ x ∈ m.mv := by
 unfold srtV
 rw [List.mem_flatMap]
 constructor
 ·
  rintro ⟨s, _, hs⟩
  exact (rwS_mem.1 hs).1
 ·
  intro h
  have := hN.mv x h
  exact ⟨x.f.toNat, List.mem_range.2 (by omega), rwS_mem.2 ⟨h, by omega⟩⟩
theorem srtV_lt {m : Mch} (hD : DetM m) : (srtV m).Pairwise mvLt := by
 unfold srtV
 rw [List.pairwise_flatMap]
 refine ⟨fun s hs => List.Pairwise.imp_of_mem ?_ (rwS_lt hD s), ?_⟩
 ·
  intro a b ha hb hab
  exact .inr ⟨by rw [(rwS_mem.1 ha).2, (rwS_mem.1 hb).2], hab⟩
 ·
  refine List.Pairwise.imp ?_ (List.pairwise_lt_range (n := m.n.toNat))
  intro i k hik x hx y hy
  exact .inl (by rw [(rwS_mem.1 hx).2, (rwS_mem.1 hy).2]; omega)
theorem li_lt {m : Mch} (hT : TimM m) : m.li.Pairwise fun a b => a.s < b.s := by
 have key : ∀ (d i : Nat) (a b : To), m.li[i]? = some a -> m.li[i + 1 + d]? = some b -> a.s < b.s := by
  intro d
  induction d with
  | zero => exact fun i a b ha hb => (hT (i + 1) b hb).o a (by omega) ha
  | succ d ih =>
   intro i a b ha hb
   have hl := (Ya.1 hb).1
   obtain ⟨c, hc⟩ := get_some (l := m.li) (i := i + 1 + d) (by omega)
   have h1 := ih i a c ha hc
   have h2 := (hT (i + 1 + (d + 1)) b hb).o c (by omega) hc
   omega
 exact pair_of fun i j a b hij ha hb => key (j - i - 1) i a b ha (by rw [show i + 1 + (j - i - 1) = j by omega]; exact hb)
theorem li_in {m : Mch} (hV : WM m) {t : To} (ht : t ∈ m.li) : (1 <= t.k /\ t.k <= 1000) /\ ∃ y, m.mv[t.e.toNat]? = some y /\ y.f = t.s /\ y.send = true /\ y.ag = false /\ 0 <= t.s /\ t.s < m.n /\ (srtV m)[(srtE m t).e.toNat]? = some y := by
 obtain ⟨i, hi⟩ := Yf.1 ht
 have h := hV.t i t hi
 obtain ⟨_, y, hy, h1, h2, h3⟩ := h.e
 have hym := Yb hy
 have hyr := hV.n.mv y hym
 refine ⟨h.k, y, hy, h1, h2, h3, by omega, by omega, ?_⟩
 show (srtV m)[Int.toNat ((idxF (srtV m) (m.mv.getD t.e.toNat ⟨0, false, 0, 0, 0, false⟩) : Nat) : Int)]? = some y
 rw [getD_some hy, Ys]
 exact idxF_get ((srtV_mem hV.n).2 hym)
theorem li_len {m : Mch} (hV : WM m) : m.li.length <= 200 := by
 have hn := hV.n.n
 have h1 := nodup_le 200 (m.li.map fun t => t.s.toNat) ?_ ?_
 ·
  rwa [Yc] at h1
 ·
  rw [List.nodup_iff_pairwise_ne, List.pairwise_map]
  refine List.Pairwise.imp_of_mem ?_ (li_lt hV.t)
  intro a b ha hb hab
  obtain ⟨_, _, _, _, _, _, ha0, _⟩ := li_in hV ha
  obtain ⟨_, _, _, _, _, _, hb0, _⟩ := li_in hV hb
  omega
 ·
  intro x hx
  obtain ⟨t, ht, rfl⟩ := Yp.1 hx
  obtain ⟨_, _, _, _, _, _, ha0, ha1, _⟩ := li_in hV ht
  omega
theorem srtM_raw {m : Mch} (hV : WM m) : MRaw (srtM m) := by
 have hN := hV.n
 have hn := hN.n
 have hlen : (srtV m).length <= m.mv.length := by
  refine List.Nodup.length_le_of_subset ?_ fun x hx => (srtV_mem hN).1 hx
  exact (srtV_lt hV.d).imp fun {a b} hab (e : a = b) => mvLt_irr b (by rw [e] at hab; exact hab)
 refine ⟨⟨hn, hN.s, by show m.fin.length = m.n.toNat; have := hN.fl; omega, Yys hlen hN.ml, by show (m.li.map (srtE m)).length <= _; rw [Yc]; have := li_len hV; omega, fun x hx => ?_, fun t ht => ?_⟩, srtV_lt hV.d, fun t ht => ?_, ?_⟩
 ·
  have := hN.mv x ((srtV_mem hN).1 hx)
  show 0 <= x.f /\ x.f < m.n /\ 0 <= x.t /\ x.t < m.n /\ _
  omega
 ·
  obtain ⟨t, ht2, rfl⟩ := Yp.1 ht
  obtain ⟨hk, y, _, _, _, _, h0, h1, h2⟩ := li_in hV ht2
  have := (Ya.1 h2).1
  have e1 : (srtE m t).s = t.s := rfl
  have e2 : (srtE m t).k = t.k := rfl
  have e3 : 0 <= (srtE m t).e := Int.natCast_nonneg _
  refine ⟨by rw [e1]; exact h0, by rw [e1]; exact h1, e3, ?_, by rw [e2]; omega⟩
  show (srtE m t).e < ((srtV m).length : Int)
  omega
 ·
  obtain ⟨t, ht2, rfl⟩ := Yp.1 ht
  obtain ⟨_, y, _, h1, _, _, _, _, h2⟩ := li_in hV ht2
  exact ⟨y, h2, h1⟩
 ·
  show ((m.li.map (srtE m)).map (·.s)).Nodup
  rw [List.map_map, List.nodup_iff_pairwise_ne, List.pairwise_map]
  exact (li_lt hV.t).imp fun {a b} hab => by show a.s ≠ b.s; omega
theorem outM_srt {m : Mch} {s : Nat} (hs : s < m.n.toNat) : outM (srtM m) s = rwS m s := by
 have := flat_filter (rows := rwS m) (fun k y hy => (rwS_mem.1 hy).2) s m.n.toNat
 rw [if_pos hs] at this
 exact this
def limT (m : Mch) (s : Int) : Option To := m.li.find? fun t => decide (t.s = s)
theorem filter_one {α : Type} {p : α -> Bool} : ∀ {l : List α}, (l.Pairwise fun a b => ¬ (p a = true /\ p b = true)) -> l.filter p = (l.find? p).toList
 | [], _ => rfl
 | a :: l, h => by
  rw [List.pairwise_cons] at h
  rw [List.find?_cons]
  cases hp : p a with
  | true =>
   rw [List.filter_cons_of_pos hp]
   have : l.filter p = [] := List.filter_eq_nil_iff.2 fun b hb hpb => h.1 b hb ⟨hp, hpb⟩
   rw [this]; rfl
  | false =>
   rw [List.filter_cons_of_neg (by rw [hp]; simp)]
   exact filter_one h.2
theorem limT_filter {m : Mch} (hT : TimM m) (s : Int) : (m.li.filter fun t => decide (t.s = s)) = (limT m s).toList :=
 filter_one ((li_lt hT).imp fun {a b} hab h => by
  have h1 := Yyn h.1
  have h2 := Yyn h.2
  omega)
theorem limT_mem {m : Mch} {s : Int} {t : To} (h : limT m s = some t) : t ∈ m.li /\ t.s = s := ⟨List.mem_of_find?_eq_some h, Yyn (p := t.s = s) (by have := List.find?_some (p := fun t : To => decide (t.s = s)) h; exact this)⟩
theorem srt_filter {m : Mch} (hT : TimM m) (s : Int) : ((srtM m).li.filter fun t => decide (t.s = s)) = ((limT m s).map (srtE m)).toList := by
 show (m.li.map (srtE m)).filter _ = _
 rw [List.filter_map]
 have e : ((fun t : To => decide (t.s = s)) ∘ srtE m) = fun t : To => decide (t.s = s) := rfl
 rw [e, limT_filter hT]
 cases limT m s <;> rfl
theorem lim_srt {m : Mch} (hT : TimM m) (s : Int) : mget (limM (srtM m).li) s = (limT m s).map (srtE m) := by
 rw [limM_get, srt_filter hT]
 cases limT m s <;> rfl
/-! ### what tells states apart, al the table tells it -/
def sgT (m : Mch) (s : Nat) : Sg := match limT m (s : Int) with
 | some t => ⟨0, 1, evI m t.e.toNat, false, t.k⟩
 | none => ⟨0, 1, ev0, false, 0⟩
noncomputable def keyT (m : Mch) (C : List Nat) (s : Nat) : List Sg := ((rwS m s).map (sgM C)).reverse ++ [sgT m s, sgB C m.fin s]
noncomputable def clsT (m : Mch) (C : List Nat) : List (List Sg) := (List.range m.n.toNat).map (keyT m C)
theorem sgL_srt {m : Mch} (hV : WM m) {t : To} (ht : t ∈ m.li) : sgL (srtM m).mv (srtE m t) = ⟨0, 1, evI m t.e.toNat, false, t.k⟩ := by
 obtain ⟨_, y, hy, _, _, _, _, _, h2⟩ := li_in hV ht
 unfold sgL
 rw [show (srtM m).mv = srtV m from rfl, h2, evI_of hy]; rfl
theorem keyT_iff {m : Mch} (hV : WM m) {C : List Nat} {x y : Nat} (hx : x < m.n.toNat) (hy : y < m.n.toNat) : keyT m C x = keyT m C y ↔ keyS (srtM m) C x = keyS (srtM m) C y := by
 have hl : ∀ s : Nat, ((srtM m).li.filter fun t => t.s = (s : Int)).map (sgL (srtM m).mv) = match limT m (s : Int) with | some t => [⟨0, 1, evI m t.e.toNat, false, t.k⟩] | none => [] := fun s => by
  rw [srt_filter hV.t]
  cases hs : limT m (s : Int) with
  | none => rfl
  | some t =>
   show [sgL (srtM m).mv (srtE m t)] = _
   rw [sgL_srt hV (limT_mem hs).1]
 have ht : sgT m x = sgT m y ↔ ((srtM m).li.filter fun t => t.s = (x : Int)).map (sgL (srtM m).mv) = ((srtM m).li.filter fun t => t.s = (y : Int)).map (sgL (srtM m).mv) := by
  rw [hl, hl]
  unfold sgT
  cases h1 : limT m (x : Int) with
  | none =>
   cases h2 : limT m (y : Int) with
   | none => exact iff_of_true rfl rfl
   | some t =>
    have := (li_in hV (limT_mem h2).1).1
    refine iff_of_false (fun e => ?_) (fun e => by cases e)
    have := congrArg Sg.num e
    have : (0 : Int) = t.k := this
    omega
  | some t =>
   cases h2 : limT m (y : Int) with
   | none =>
    have := (li_in hV (limT_mem h1).1).1
    refine iff_of_false (fun e => ?_) (fun e => by cases e)
    have := congrArg Sg.num e
    have : t.k = (0 : Int) := this
    omega
   | some t' => exact ⟨fun e => congrArg (fun z => [z]) e, fun e => (List.cons.inj e).1⟩
 constructor
 ·
  intro h
  unfold keyT at h
  obtain ⟨h1, h2⟩ := List.append_inj' h rfl
  have h1 := List.reverse_inj.1 h1
  simp only [List.cons.injEq, and_true] at h2
  refine keyS_mk ?_ (ht.1 h2.1) h2.2
  rw [outM_srt hx, outM_srt hy]; exact h1
 ·
  intro h
  obtain ⟨h1, h2, h3⟩ := keyS_parts h
  rw [outM_srt hx, outM_srt hy] at h1
  have h3 : sgB C m.fin x = sgB C m.fin y := h3
  unfold keyT
  rw [h1, ht.2 h2, h3]
theorem clsT_eq {m : Mch} (hV : WM m) (C : List Nat) : canonL (clsT m C) = canonL (clsK (srtM m) C) /\ (dedF (clsT m C)).length = (dedF (clsK (srtM m) C)).length := by
 refine canon_eq (by rw [clsK_len]; unfold clsT; rw [Yc, Yyd]; rfl) fun i j a b a' b' h1 h2 h3 h4 => ?_
 have hi := (Ya.1 h1).1
 have hj := (Ya.1 h2).1
 unfold clsT at h1 h2 hi hj
 rw [Yc, Yyd] at hi hj
 rw [Yd, Yyb hi] at h1
 rw [Yd, Yyb hj] at h2
 rw [clsK_get (show i < (srtM m).n.toNat from hi)] at h3
 rw [clsK_get (show j < (srtM m).n.toNat from hj)] at h4
 cases h1; cases h2; cases h3; cases h4
 exact keyT_iff hV hi hj
end Go.VC
end

section
namespace Go.VC
open Go.Proofs

def W135 (p0 : Addr) (p1 : Int) (h : Heap) (R : Value -> Heap -> Prop) : Prop :=
 (Wn h [.bool false, vI 0, vI 0] 79 fun h1 =>
 (∃ x2, rS h1 ⟨p0.block, p0.off + 5, none⟩ x2 /\
 (QI 0 h1 fun I3 x_6 h7 m5 => (
 (sB (decide (x_6 < (x2.n : Int)))
 ((NB x2.a fun b8 o9 => (Ib x_6 x2.n /\
 (∃ x10 x11 x12, aL4 h7 ⟨b8, o9 + Int.toNat x_6 * 3, none⟩ x10 x11 x12 /\
 (Wn h7 [vI 0, vI 0, vI 0] 44 fun h13 =>
 (Wp h13 (aS h7 0) 3 (L4 x10 x11 x12) fun h14 =>
 (∃ x15, rI h14 (aS h7 0) x15 /\
 (sB (x15 == p1)
 ((∃ x16, rI h14 (aS h7 1) x16 /\
 (∃ x17, rS h14 ⟨p0.block, p0.off + 4, none⟩ x17 /\
 (∃ x18, rI h14 (aS h7 2) x18 /\
 (NB x17.a fun b19 o20 => (Ib x18 x17.n /\
 (∃ x21 x22 x23 x24 x25 x26, aL3 h14 ⟨b19, o20 + Int.toNat x18 * 6, none⟩ x21 x22 x23 x24 x25 x26 /\
 (Fn Pz 63 #[.agg ⟨(L3 x21 x22 x23 x24 x25 x26)⟩] h14
 (fun v27 h31 => ∃ (x28 : Bool) (x29 x30 : Int), v27 = .agg ⟨(L2 x28 x29 x30)⟩ /\
 (Sm [(aS h7 1)] h14 h31 /\
 (Wp h31 (aS h 0) 3 (L2 x28 x29 x30) fun h32 =>
 (∃ x33 x34 x35, aL2 h32 (aS h 0) x33 x34 x35 /\
 R (.tuple ⟨[vI x16, .agg ⟨(L2 x33 x34 x35)⟩]⟩) h32))))))))))))
 ((∃ m36, m36 < m5 /\ I3 (IntKind.wrap .i64 (x_6 + 1)) h14 m36))))))))))
 ((Wp h7 (aS h 0) 3 [.bool false, vI 0, vI 0] fun h37 =>
 (∃ x38 x39 x40, aL2 h37 (aS h 0) x38 x39 x40 /\
 R (.tuple ⟨[vI 0, .agg ⟨(L2 x38 x39 x40)⟩]⟩) h37))))))))
theorem vc135 (p0 : Addr) (p1 : Int) (h : Heap) (R : Value -> Heap -> Prop) (H : W135 p0 p1 h R) : Fn Pz 135 #[.pointer (some p0), vI p1] h R := fnI (A := (.s .z (.s (.s .z (.b (.l [(14, .one (.int .i64))] .z))) .z))) (by kernel_rfl) H

def W136 (p0_1 p0_2 p0_3 : Int) (p0_4 : Bool) (p0_5 p0_6 : Int) (p0_7 : Bool) (c0 : Addr) (c1 : Addr) (h : Heap) (R : Value -> Heap -> Prop) : Prop :=
 (Wn h (L12 p0_1 p0_2 p0_3 p0_4 p0_5 p0_6 p0_7) 193 fun h8 =>
 (∃ x9 : Option Nat, hc h8 c0 = some (.map x9) /\
 (∃ x10 x11 x12 x13 x14 x15 x16, aL12 h8 (aS h 0) x10 x11 x12 x13 x14 x15 x16 /\
 (RunW Pz (Instr.lookup 191 (.map x9) (.agg ⟨(L12 x10 x11 x12 x13 x14 x15 x16)⟩) true) h8
 (fun v17 h20 => ∃ (x18 : Int) (x19 : Bool), v17 = .tuple ⟨[vI x18, .bool x19]⟩ /\
 (sB (!x19)
 ((∃ x21 : Option Nat, hc h20 c0 = some (.map x21) /\
 (∃ x22 : Option Addr, hc h20 c1 = some (.pointer x22) /\
 (NC x22 fun a23 => (∃ x24, rI h20 ⟨a23.block, a23.off + 1, none⟩ x24 /\
 (RunW Pz (Builtin.len_ #[191] 3 #[.map x21]) h20
 (fun v25 h27 => ∃ x26, iI v25 x26 /\
 (Sm [⟨a23.block, a23.off + 1, none⟩, c1] h20 h27 /\
 (∃ x28 : Option Nat, hc h27 c0 = some (.map x28) /\
 (∃ x29 x30 x31 x32 x33 x34 x35, aL12 h27 (aS h 0) x29 x30 x31 x32 x33 x34 x35 /\
 (RunW Pz (Instr.mapUpdate 191 (.map x28) (.agg ⟨(L12 x29 x30 x31 x32 x33 x34 x35)⟩) (vI (IntKind.wrap .i64 ((IntKind.wrap .i64 (x26 + x24)) + 2)))) h27 (fun _ h36 =>
 R (vI (IntKind.wrap .i64 ((IntKind.wrap .i64 (x26 + x24)) + 2))) h36))))))))))))
 (R (vI x18) h20)))))))
theorem vc136 (p0_1 p0_2 p0_3 : Int) (p0_4 : Bool) (p0_5 p0_6 : Int) (p0_7 : Bool) (c0 : Addr) (c1 : Addr) (h : Heap) (R : Value -> Heap -> Prop) (H : W136 p0_1 p0_2 p0_3 p0_4 p0_5 p0_6 p0_7 c0 c1 h R) : Fn Pz 136 #[.agg ⟨(L12 p0_1 p0_2 p0_3 p0_4 p0_5 p0_6 p0_7)⟩, .pointer (some c0), .pointer (some c1)] h R := fnI (A := .z) (by kernel_rfl) H

def W37 (p0_1 p0_2 p0_3 : Int) (p0_4 p0_5 p0_6 : Sl) (h : Heap) (R : Value -> Heap -> Prop) : Prop :=
 (Wn h (L0 p0_1 p0_2 p0_3 p0_4 p0_5 p0_6) 26 fun h7 =>
 (Wn h7 [vI 0, vI 0, vI 0, .slice none 0 0, .slice none 0 0, .slice none 0 0] 26 fun h8 =>
 (∃ x9 x10 x11 x12 x13 x14, aL0 h8 (aS h 0) x9 x10 x11 x12 x13 x14 /\
 (Fn Pz 47 #[.agg ⟨(L0 x9 x10 x11 x12 x13 x14)⟩] h8
 (fun v15 h18 => ∃ x16 : Option Addr, ∃ x17 : Bool, v15 = .tuple ⟨[.pointer x16, .bool x17]⟩ /\
 (sB (!x17)
 ((Wp h18 (aS h7 0) 6 [vI 0, vI 0, vI 0, .slice none 0 0, .slice none 0 0, .slice none 0 0] fun h19 =>
 (∃ x20 x21 x22 x23 x24 x25, aL0 h19 (aS h7 0) x20 x21 x22 x23 x24 x25 /\
 R (.tuple ⟨[.agg ⟨(L0 x20 x21 x22 x23 x24 x25)⟩, vI 1]⟩) h19)))
 ((Fn Pz 75 #[.pointer x16] h18
 (fun v26 h29 => ∃ (x27 : Sl) (x28 : Int), v26 = .tuple ⟨[vS x27, vI x28]⟩ /\
 (Fn Pz 74 #[.pointer x16, vS x27, vI x28] h29
 (fun v30 h37 => ∃ (x31 x32 x33 : Int) (x34 x35 x36 : Sl), v30 = .agg ⟨(L0 x31 x32 x33 x34 x35 x36)⟩ /\
 (Wp h37 (aS h7 0) 6 (L0 x31 x32 x33 x34 x35 x36) fun h38 =>
 (∃ x39 x40 x41 x42 x43 x44, aL0 h38 (aS h7 0) x39 x40 x41 x42 x43 x44 /\
 R (.tuple ⟨[.agg ⟨(L0 x39 x40 x41 x42 x43 x44)⟩, vI 0]⟩) h38)))))))))))))
theorem vc37 (p0_1 p0_2 p0_3 : Int) (p0_4 p0_5 p0_6 : Sl) (h : Heap) (R : Value -> Heap -> Prop) (H : W37 p0_1 p0_2 p0_3 p0_4 p0_5 p0_6 h R) : Fn Pz 37 #[.agg ⟨(L0 p0_1 p0_2 p0_3 p0_4 p0_5 p0_6)⟩] h R := fnI (A := .z) (by kernel_rfl) H

end Go.VC
end

section
namespace Go.VC
open Go.Proofs

def W75 (p0 : Addr) (h : Heap) (R : Value -> Heap -> Prop) : Prop :=
 (Wn h [.pointer (some p0)] 74 fun h1 =>
 (∃ x2 : Option Addr, hc h1 (aS h 0) = some (.pointer x2) /\
 (NC x2 fun a3 => (∃ x4, rI h1 ⟨a3.block, a3.off + 1, none⟩ x4 /\
 (Mk x4 x4 8 /\ Wn h1 (madeL Pz 3 (Int.toNat x4)) 3 fun h5 =>
 (QSI ⟨(some (aS h1 0)), (Int.toNat x4), (Int.toNat x4)⟩ 0 h5 fun I6 class_9 count_10 h11 m8 => (
 (RunW Pz (Instr.makeMap 191 (none)) h11
 (fun v12 h14 => ∃ x13 : Option Nat, v12 = .map x13 /\
 (Wn h14 [.map none] 191 fun h15 =>
 (Wp h15 (aS h14 0) 1 [.map x13] fun h16 =>
 (RunW Pz (Instr.makeMap 195 (none)) h16
 (fun v17 h19 => ∃ x18 : Option Nat, v17 = .map x18 /\
 (∃ x20 : Option Addr, hc h19 (aS h 0) = some (.pointer x20) /\
 (NC x20 fun a21 => (∃ x22, rI h19 ⟨a21.block, a21.off + 1, none⟩ x22 /\
 (Mk x22 x22 8 /\ Wn h19 (madeL Pz 3 (Int.toNat x22)) 3 fun h23 =>
 (QI 0 h23 fun I24 x_27 h28 m26 => (
 (sB (decide (x_27 < ((Int.toNat x22) : Int)))
 ((∃ x29 : Option Addr, hc h28 (aS h 0) = some (.pointer x29) /\
 (Fn Pz 135 #[.pointer x29, vI x_27] h28
 (fun v30 h35 => ∃ (x31 : Int) (x32 : Bool) (x33 x34 : Int), v30 = .tuple ⟨[vI x31, .agg ⟨(L2 x32 x33 x34)⟩]⟩ /\
 (Wn h35 [.bool false, vI 0, vI 0] 79 fun h36 =>
 (Wp h36 (aS h35 0) 3 (L2 x32 x33 x34) fun h37 =>
 (NB class_9.a fun b38 o39 => (Ib x_27 class_9.n /\
 (∃ x40, rI h37 ⟨b38, o39 + Int.toNat x_27 * 1, none⟩ x40 /\
 (∃ x41 : Option Addr, hc h37 (aS h 0) = some (.pointer x41) /\
 (NC x41 fun a42 => (∃ x43, rS h37 ⟨a42.block, a42.off + 3, none⟩ x43 /\
 (NB x43.a fun b44 o45 => (Ib x_27 x43.n /\
 (∃ x46, rB h37 ⟨b44, o45 + Int.toNat x_27 * 1, none⟩ x46 /\
 (Fn Pz 136 #[.agg ⟨[vI x40, vI 0, vI 0, .bool false, vI 0, vI 0, .bool x46]⟩, .pointer (some (aS h14 0)), .pointer (some (aS h 0))] h37
 (fun v47 h49 => ∃ x48, iI v47 x48 /\
 (∃ x50 x51 x52, aL2 h49 (aS h35 0) x50 x51 x52 /\
 (Fn Pz 136 #[.agg ⟨[vI x48, vI 1, vI x31, .bool x50, vI x51, vI x52, .bool false]⟩, .pointer (some (aS h14 0)), .pointer (some (aS h 0))] h49
 (fun v53 h55 => ∃ x54, iI v53 x54 /\
 (∃ x56 : Option Addr, hc h55 (aS h 0) = some (.pointer x56) /\
 (NC x56 fun a57 => (∃ x58, rS h55 ⟨a57.block, a57.off + 6, none⟩ x58 /\
 (NB x58.a fun b59 o60 => (Ib x_27 x58.n /\
 (∃ x61, rS h55 ⟨b59, o60 + Int.toNat x_27 * 1, none⟩ x61 /\
 (QII x54 0 h55 fun I62 at_65 x_66 h67 m64 => (
 (sB (decide (x_66 < (x61.n : Int)))
 ((NB x61.a fun b68 o69 => (Ib x_66 x61.n /\
 (∃ x70, rI h67 ⟨b68, o69 + Int.toNat x_66 * 1, none⟩ x70 /\
 (∃ x71 : Option Addr, hc h67 (aS h 0) = some (.pointer x71) /\
 (NC x71 fun a72 => (∃ x73, rS h67 ⟨a72.block, a72.off + 4, none⟩ x73 /\
 (NB x73.a fun b74 o75 => (Ib x70 x73.n /\
 (∃ x76 x77 x78 x79 x80 x81, aL3 h67 ⟨b74, o75 + Int.toNat x70 * 6, none⟩ x76 x77 x78 x79 x80 x81 /\
 (Wn h67 [vI 0, .bool false, vI 0, vI 0, vI 0, .bool false] 81 fun h82 =>
 (Wp h82 (aS h67 0) 6 (L3 x76 x77 x78 x79 x80 x81) fun h83 =>
 (∃ x84, rI h83 (aS h67 4) x84 /\
 (NB class_9.a fun b85 o86 => (Ib x84 class_9.n /\
 (∃ x87, rI h83 ⟨b85, o86 + Int.toNat x84 * 1, none⟩ x87 /\
 (∃ x88 x89 x90 x91 x92 x93, aL3 h83 (aS h67 0) x88 x89 x90 x91 x92 x93 /\
 (∃ x94, rB h83 (aS h67 5) x94 /\
 (Fn Pz 63 #[.agg ⟨(L3 x88 x89 x90 x91 x92 x93)⟩] h83
 (fun v95 h99 => ∃ (x96 : Bool) (x97 x98 : Int), v95 = .agg ⟨(L2 x96 x97 x98)⟩ /\
 (Sm [(aS h67 5), ⟨b85, o86 + Int.toNat x84 * 1, none⟩, (aS h67 4)] h83 h99 /\
 (Fn Pz 136 #[.agg ⟨[vI at_65, vI 2, vI x87, .bool x96, vI x97, vI x98, .bool x94]⟩, .pointer (some (aS h14 0)), .pointer (some (aS h 0))] h99
 (fun v100 h102 => ∃ x101, iI v100 x101 /\
 (∃ m103, m103 < m64 /\ I62 x101 (IntKind.wrap .i64 (x_66 + 1)) h102 m103))))))))))))))))))))))))
 ((RunW Pz (Instr.lookup 195 (.map x18) (vI at_65) true) h67
 (fun v104 h107 => ∃ (x105 : Int) (x106 : Bool), v104 = .tuple ⟨[vI x105, .bool x106]⟩ /\
 (sB (!x106)
 ((RunW Pz (Builtin.len_ #[195] 3 #[.map x18]) h107
 (fun v108 h110 => ∃ x109, iI v108 x109 /\
 (RunW Pz (Instr.mapUpdate 195 (.map x18) (vI at_65) (vI x109)) h110 (fun _ h111 =>
 (RunW Pz (Instr.lookup 195 (.map x18) (vI at_65) false) h111
 (fun v112 h114 => ∃ x113, iI v112 x113 /\
 ((0 <= (x_27 : Int) /\ (x_27 : Int) < ((Int.toNat x22) : Nat)) /\
 (Wp h114 (aS h19 (0 + Int.toNat x_27 * 1)) 1 [vI x113] fun h115 =>
 (∃ m116, m116 < m26 /\ I24 (IntKind.wrap .i64 (x_27 + 1)) h115 m116))))))))))
 ((RunW Pz (Instr.lookup 195 (.map x18) (vI at_65) false) h107
 (fun v117 h119 => ∃ x118, iI v117 x118 /\
 ((0 <= (x_27 : Int) /\ (x_27 : Int) < ((Int.toNat x22) : Nat)) /\
 (Wp h119 (aS h19 (0 + Int.toNat x_27 * 1)) 1 [vI x118] fun h120 =>
 (∃ m121, m121 < m26 /\ I24 (IntKind.wrap .i64 (x_27 + 1)) h120 m121)))))))))))))))))))))))))))))))))))))))
 ((RunW Pz (Builtin.len_ #[195] 3 #[.map x18]) h28
 (fun v122 h124 => ∃ x123, iI v122 x123 /\
 (sB (x123 == count_10)
 (R (.tuple ⟨[.slice (some (aS h19 0)) (Int.toNat x22) (Int.toNat x22), vI count_10]⟩) h124)
 ((RunW Pz (Builtin.len_ #[195] 3 #[.map x18]) h124
 (fun v125 h127 => ∃ x126, iI v125 x126 /\
 (∃ m128, m128 < m8 /\ I6 ⟨(some (aS h19 0)), (Int.toNat x22), (Int.toNat x22)⟩ x126 h127 m128))))))))))))))))))))))))))))
theorem vc75 (p0 : Addr) (h : Heap) (R : Value -> Heap -> Prop) (H : W75 p0 h R) : Fn Pz 75 #[.pointer (some p0)] h R := fnI (A := (.s .z (.s .z (.s .z (.b (.l [(4, .one (.slice)), (5, .one (.int .i64))] (.b (.s .z (.s .z (.s .z (.s .z (.s (.s .z (.b (.l [(36, .one (.int .i64))] (.s .z (.s .z (.s (.b (.s .z (.s .z (.s .z (.s .z (.s (.s .z (.b (.l [(13, .one (.int .i64)), (74, .one (.int .i64))] .z))) .z)))))) .z)))))) .z)))))))))))) (by kernel_rfl) H

end Go.VC
end

section
/- Contracts: the timeout of a state; the classes of the states of a machine. (Numbers of layer 26's seat.) -/
namespace Go.VC
open Go.Proofs Go.LexS Go.Maps
/-! ### the types of the maps -/
namespace M
theorem s79 : ∃ fs, Pz.underlying 79 = some (.struct fs) /\ fs.all (·.name != "_") = true /\ fs.toList.map (fun f => (f.type, f.offset)) = [(4, 0), (3, 1), (3, 2)] := su (by kernel_rfl)
theorem s193 : ∃ fs, Pz.underlying 193 = some (.struct fs) /\ fs.all (·.name != "_") = true /\ fs.toList.map (fun f => (f.type, f.offset)) = [(3, 0), (3, 1), (3, 2), (79, 3), (4, 6)] := su (by kernel_rfl)
theorem c79 : Pz.cellsOf 79 = 3 := by kernel_rfl
theorem c193 : Pz.cellsOf 193 = 7 := by kernel_rfl
theorem lits_ev (x : Ev) (h1 : inR x.peer) (h2 : inR x.label) (d : Nat) : ∃ r, Pz.keyLits (d + 2) 79 x.cs = some r := by
 obtain ⟨fs, hu, hn, hf⟩ := s79
 refine ⟨_, kl_struct hu (by rw [c79]; rfl) hn hf (r := [[.bool x.send], [.int .i64 x.peer], [.int .i64 x.label]]) ?_⟩
 simp only [List.mapM_cons, List.mapM_nil, c3, c4, Ev.cs, List.drop_zero, List.take_succ_cons, Yyk, List.drop_succ_cons, kl_bool u4, kl_int u3 h1.wf, kl_int u3 h2.wf]
 rfl
end M
def SgW (s : Sg) : Value := .agg ⟨[.int .i64 s.b, .int .i64 s.k, .int .i64 s.num, .bool s.x.send, .int .i64 s.x.peer, .int .i64 s.x.label, .bool s.ag]⟩
theorem SgW_inj (a b : Sg) (h : SgW a = SgW b) : a = b := by
 obtain ⟨a1, a2, ⟨a3, a4, a5⟩, a6, a7⟩ := a
 obtain ⟨b1, b2, ⟨b3, b4, b5⟩, b6, b7⟩ := b
 unfold SgW at h
 simp at h
 simp [h]
theorem key_sgW (s : Sg) (h : kokS s) : ∃ l, keyOf Pz 193 (SgW s) = some l := by
 obtain ⟨fs, hu, hn, hf⟩ := M.s193
 obtain ⟨h1, h2, h3, h4, h5⟩ := h
 have hsz : ∃ n, Pz.types.size + 1 = n + 3 := ⟨Pz.types.size - 2, by
  have : 2 <= Pz.types.size := Yyn (by kernel_rfl)
  omega⟩
 obtain ⟨n, hsz⟩ := hsz
 obtain ⟨r, hr⟩ := M.lits_ev s.x h3 h4 n
 have hl : Pz.keyLits (n + 3) 193 [.int .i64 s.b, .int .i64 s.k, .int .i64 s.num, .bool s.x.send, .int .i64 s.x.peer, .int .i64 s.x.label, .bool s.ag] = some [[.int .i64 s.b], [.int .i64 s.k], [.int .i64 s.num], r, [.bool s.ag]].flatten := by
  refine kl_struct hu (by rw [M.c193]; rfl) hn hf ?_
  simp only [List.mapM_cons, List.mapM_nil, c3, c4, M.c79, List.drop_zero, List.take_succ_cons, Yyk, List.drop_succ_cons, kl_bool u4, kl_int u3 h1.wf, kl_int u3 h2.wf, kl_int u3 h5.wf]
  unfold Ev.cs at hr
  rw [hr]; rfl
 have hkt : Pz.keyType 193 = true := by kernel_rfl
 have hfo : (SgW s).formed Pz 193 = true := by
  unfold SgW Value.formed
  simp only [hu, M.c193]; rfl
 have e : keyOf Pz 193 (SgW s) = (Pz.keyLits (n + 3) 193 [.int .i64 s.b, .int .i64 s.k, .int .i64 s.num, .bool s.x.send, .int .i64 s.x.peer, .int .i64 s.x.label, .bool s.ag]).map fun ls => .string (keyBytes ls) := by
  unfold keyOf
  simp only [hu, hkt, hfo, Bool.and_self, if_true, hsz]
  rfl
 rw [e, hl]
 exact ⟨_, rfl⟩
theorem M191 : MT Pz 191 193 3 SgW kokS (.int .i64 0) where
 K := Keyed.of_law (deep_law_laid laid25 (m := 3) (by omega) (Yyn (by kernel_rfl)) (by kernel_rfl) (by kernel_rfl))
 ht := by kernel_rfl
 key := key_sgW
 inj := SgW_inj
 z := fun w => by kernel_rfl
theorem M195 : MT Pz 195 3 3 iv inR (.int .i64 0) where
 K := int_keyed u3
 ht := by kernel_rfl
 key := key_int
 inj := iv_inj
 z := fun w => by kernel_rfl
/-! ### timeout -/
def tmK (m : Mch) (s : Int) : Int := match limT m s with | some t => t.k | none => 0
def tmE (m : Mch) (s : Int) : Ev := match limT m s with | some t => evI m t.e.toNat | none => ev0
theorem timeout135 (m : Mch) (sf sm sl : Sl) (b : Nat) (S : Nat -> List Nat) (h : Heap) (hM : MI h m sf sm sl) (hV : TimM m) (hT : TbI h ⟨b, 0, none⟩ m sf sm sl S) (s : Int) :
  Fn Pz 135 #[.pointer (some ⟨b, 0, none⟩), .int .i64 s] h fun v h' => v = .tuple ⟨[.int .i64 (tmK m s), .agg ⟨(tmE m s).cs⟩]⟩ /\ Ext h h' := by
 apply vc135; unfold W135
 obtain ⟨ho, qs, _, hat, hhn, hho, hqs⟩ := hT.ex
 have hmn := hM.pm.ln
 have hmm := hM.pm.sm
 have hln := hM.pl.ln
 have hlm := hM.pl.sm
 refine (St.refl h).newb fun h1 hs => ?_
 refine ⟨sl, (atC_ext hs.ext hat).nth 5 rfl, ?_⟩
 refine up_loopS (n := sl.n) hs (fun i => ∀ (j : Nat) y, j < i -> m.li[j]? = some y -> y.s ≠ s) (fun j y hj => by omega) ?_
 clear hs
 rintro - i h7 hi ⟨hs, hq⟩
 refine sB_intro (fun c => ?_) (fun c => ?_)
 ·
  replace c := lt_t c
  refine (hM.pl.rw.ext hs.ext).nbI (by omega) (by omega) fun b8 o9 t g8 t8 => ?_
  replace g8 : m.li[i]? = some t := g8
  refine ⟨_, _, _, t8, ?_⟩
  refine hs.newput (vs := t.cs) rfl rfl fun h14 hs => ?_
  refine ⟨_, hs.rd 0 rfl (i := 0) rfl, sBe (fun c1 => ?_) (fun c1 => ?_)⟩
  ·
   obtain ⟨h0, y, hy, _⟩ := (hV i t g8).e
   have hyl := (Ya.1 hy).1
   have hlim : limT m s = some t := M.first_hit m.li i t g8 (decide_eq_true c1) fun j z hj hz => decide_eq_false (hq j z hj hz)
   refine ⟨_, hs.rd 0 rfl (i := 1) rfl, sm, (atC_ext hs.ext hat).nth 4 rfl, _, hs.rd 0 rfl (i := 2) rfl, ?_⟩
   refine (hM.pm.rw.ext hs.ext).nbI (by omega) (by omega) fun b19 o20 y' gy t19 => ?_
   rw [hy] at gy; cases gy
   refine ⟨_, _, _, _, _, _, t19, ?_⟩
   refine (M.of63 y h14).mono ?_
   rintro _ h31 ⟨rfl, E⟩
   have hs := hs.step E
   refine ⟨_, _, _, rfl, E.sm, ?_⟩
   refine hs.put 1 rfl (o := 0) (vs := y.ev.cs) rfl (show 3 <= 3 by decide) fun h32 hs => ?_
   refine ⟨_, _, _, hs.at 1 rfl (o := 0) (n := 3) rfl, ?_, hs.ext⟩
   unfold tmK tmE
   rw [hlim]
   show _ = Value.tuple ⟨[.int .i64 t.k, .agg ⟨(evI m t.e.toNat).cs⟩]⟩
   rw [evI_of hy]; rfl
  ·
   refine Up.next c (by omega) ⟨hs.drop 1, fun j z hj hz => ?_⟩
   by_cases e : j = i
   ·
    subst e; rw [g8] at hz; cases hz; exact c1
   ·
    exact hq j z (by omega) hz
 ·
  replace c := lt_f c
  refine hs.put 0 rfl (o := 0) (vs := ev0.cs) rfl (show 3 <= 3 by decide) fun h37 hs => ?_
  refine ⟨_, _, _, hs.at 0 rfl (o := 0) (n := 3) rfl, ?_, hs.ext⟩
  have hlim : limT m s = none := List.find?_eq_none.2 fun t ht => by
   obtain ⟨j, hj⟩ := Yf.1 ht
   have := hq j t (by have := (Ya.1 hj).1; omega) hj
   simpa using this
  unfold tmK tmE
  rw [hlim]; rfl
theorem sgT_eq (m : Mch) (s : Nat) : sgT m s = ⟨0, 1, tmE m (s : Int), false, tmK m (s : Int)⟩ := by
 unfold sgT tmE tmK
 cases limT m (s : Int) <;> rfl
theorem tm_ranges {m : Mch} (hV : WM m) (s : Int) : inR (tmK m s) /\ inR (tmE m s).peer /\ inR (tmE m s).label := by
 unfold tmK tmE
 cases h : limT m s with
 | none => exact ⟨inR0, inR0, inR0⟩
 | some t =>
  obtain ⟨hk, y, hy, _⟩ := li_in hV (limT_mem h).1
  have hyr := hV.n.mv y (Yb hy)
  show inR t.k /\ inR (evI m t.e.toNat).peer /\ inR (evI m t.e.toNat).label
  rw [evI_of hy]
  exact ⟨⟨by omega, by omega⟩, ⟨by show _ <= y.peer; omega, by show y.peer <= _; omega⟩, by show _ <= y.label; omega, by show y.label <= _; omega⟩
/-! ### a step of the classes -/
def Nw (N : List (Sg × Int)) : List (Value × Value) := N.map fun q => (SgW q.1, iv q.2)
theorem step136 {h0 h : Heap} {L : List It} (hs : St h0 h L) (k1 k2 k3 : Nat) {nb b tb : Nat} {p : Addr} {n : Int} {N : List (Sg × Int)} (hk1 : L[k1]? = some (.blk nb [.map (some b)] 191)) (hk2 : L[k2]? = some (.mp b (Nw N))) (hk3 : L[k3]? = some (.blk tb [.pointer (some p)] 74))
  (hn : hc h ⟨p.block, p.off + 1, none⟩ = some (.int .i64 n)) (hn0 : 0 <= n /\ n <= 200) (hN : NOk n N) (hok : ∀ q ∈ N, kokS q.1) (s : Sg) (hsk : kokS s) (hl : N.length <= 1048576) :
  Fn Pz 136 #[SgW s, .pointer (some ⟨nb, 0, none⟩), .pointer (some ⟨tb, 0, none⟩)] h fun v h' => v = .int .i64 (nextF n N s).1 /\ St h0 h' (L.set k2 (.mp b (Nw (nextF n N s).2))) := by
 apply vc136 s.b s.k s.num s.x.send s.x.peer s.x.label s.ag; unfold W136
 refine hs.newbE fun h8 E8 hs => ?_
 refine ⟨_, hs.rd (k1 + 1) hk1 rfl, ?_⟩
 refine ⟨_, _, _, _, _, _, _, hs.at 0 rfl (n := 7) rfl, ?_⟩
 refine hs.mlook (ck := SgW) (cv := iv) M191 (k2 + 1) (l := N) hk2 hok hN.nd (a := s) hsk true ?_
 unfold nextF
 cases hg : mget N s with
 | some v =>
  refine ⟨v, true, rfl, ?_⟩
  refine sB_f rfl ?_
  refine ⟨rfl, ?_⟩
  show St h0 h8 (L.set k2 (.mp b (Nw N)))
  rw [list_set_self hk2]; exact hs.drop 1
 | none =>
  refine ⟨0, false, rfl, ?_⟩
  refine sB_t rfl ?_
  refine ⟨_, hs.rd (k1 + 1) hk1 rfl, _, hs.rd (k3 + 1) hk3 rfl, n, hc_ext E8 hn, ?_⟩
  refine hs.mlen (ck := SgW) (cv := iv) M191 (k2 + 1) (l := N) hk2 ?_
  refine ⟨_, rfl, Ext.rfl'.sm, ?_⟩
  refine ⟨_, hs.rd (k1 + 1) hk1 rfl, _, _, _, _, _, _, _, hs.at 0 rfl (n := 7) rfl, ?_⟩
  have ew : IntKind.wrap .i64 (IntKind.wrap .i64 ((N.length : Int) + n) + 2) = (N.length : Int) + n + 2 := by rw [w64 (n := (N.length : Int) + n) (by omega) (by omega), w64 (by omega) (by omega)]
  rw [ew]
  refine hs.mput (ck := SgW) (cv := iv) M191 (k2 + 1) (l := N) hk2 hok hN.nd (a := s) hsk ((N.length : Int) + n + 2) fun h34 hs => ?_
  rw [mset_none (mget_not hg)] at hs
  exact ⟨rfl, hs.drop 1⟩
theorem map_natV_put {A : List Nat} {n i c : Nat} (hA : A.length = i) (hi : i < n) : splice ((A ++ List.replicate (n - i) 0).map natV) i [natV c] = (A ++ [c] ++ List.replicate (n - (i + 1)) 0).map natV := by
 have hl : (A ++ List.replicate (n - i) 0).length = n := by rw [Yh, Yg]; omega
 rw [map_splice natV (by omega)]
 congr 1
 subst hA
 rw [List.set_append_right _ _ (Yyt _), Nat.sub_self, show n - A.length = (n - (A.length + 1)) + 1 by omega, List.replicate_succ, List.set_cons_zero, Yz]; rfl
theorem nums_snoc {A : List Int} (a : Int) : (A ++ [a]).map (idxF (dedF (A ++ [a]))) = A.map (idxF (dedF A)) ++ [idxF (dedF (A ++ [a])) a] := by
 rw [Ym]
 congr 1
 refine List.map_congr_left fun x hx => ?_
 have hx' := (dedF_mem A x).2 hx
 rw [dedF_snoc]
 split
 ·
  rfl
 ·
  rw [idxF_mem hx']
def ctL (nx fm nb mb : Nat) (tb b : Nat) (cl : Sl) (n : Nat) (A : List Int) (N : List (Sg × Int)) (C : List Nat) : List It :=
 [.blk nx ((A.map (idxF (dedF A)) ++ List.replicate (n - A.length) 0).map natV) 3, .mp fm (Fv (zipI (dedF A) 0)), .blk nb [.map (some mb)] 191, .mp mb (Nw N), .sl cl 3 1 ((natI C).map inC), .blk tb [.pointer (some ⟨b, 0, none⟩)] 74]
set_option maxHeartbeats 8000000 in
theorem classes75 (m : Mch) (sf sm sl : Sl) (b : Nat) (S : Nat -> List Nat) (h : Heap) (hM : MI h m sf sm sl) (hV : WM m) (hT : TbI h ⟨b, 0, none⟩ m sf sm sl S) :
  Fn Pz 75 #[.pointer (some ⟨b, 0, none⟩)] h fun v h' => ∃ sc : Sl, v = .tuple ⟨[.slice sc.a sc.n sc.c, .int .i64 ((cls (srtM m)).2 : Nat)]⟩ /\ St h h' [.sl sc 3 1 ((natI (cls (srtM m)).1).map inC)] := by
 apply vc75; unfold W75
 obtain ⟨ho, qs, _, hat, hhn, hho, hqs⟩ := hT.ex
 have hn := hV.n.n
 have hfl := hV.n.fl
 have hml := hV.n.ml
 have hmn := hM.pm.ln
 have hfn := hM.pf.ln
 have hsr : (srtM m).n.toNat = m.n.toNat := rfl
 have hSq : ∀ s : Nat, s < m.n.toNat -> mvS m (s : Int) = S s := fun s hs => mvS_eq hV.d (hT.so s hs).p (hT.so s hs).s
 refine (St.refl h).newb fun h1 hs => ?_
 refine ⟨_, hs.rd 0 rfl rfl, _, (atC_ext hs.ext hat).nth 1 rfl, by omega, ?_⟩
 refine hs.newb fun h5 hs => ?_
 have hs := hs.blkS m.n.toNat 1 ((natI (List.replicate m.n.toNat 0)).map inC) (by rw [made3n]; exact natflat _) (inrows _) (by rw [Yc]; show (List.map _ _).length = _; rw [Yc, Yg]) (by simp only [maxLen]; omega)
 refine ⟨fun cl count h' μ => ∃ (C : List Nat) (c f : Nat), count = (c : Int) /\ μ = 201 - c /\ c <= 200 /\ 202 <= f + c /\ C.length = m.n.toNat /\ (∀ x ∈ C, x <= 200) /\ (c = 0 \/ (dedF C).length = c) /\ cls (srtM m) = clsN (srtM m) f C c /\ St h h' [.sl cl 3 1 ((natI C).map inC), .blk h.size [.pointer (some ⟨b, 0, none⟩)] 74],
  ⟨_, List.replicate m.n.toNat 0, 0, 202, rfl, rfl, by omega, by omega, Yg, fun x hx => (by rw [List.mem_replicate] at hx; omega), .inl rfl, rfl, hs⟩, ?_⟩
 clear hs
 rintro - cl _ h11 μ ⟨C, c, f, rfl, rfl, hc, hf, hCl, hCb, hcd, hcls, hs⟩
 have hcln := (hs.rows 0 (s := cl) (cs := inC) rfl (by omega)).ln
 rw [show (natI C).length = C.length from Yc _] at hcln
 refine hs.mmake 191 fun h14 E14 hs => ?_
 refine ⟨_, rfl, ?_⟩
 refine hs.newput (vs := [.map (some h11.size)]) rfl rfl fun h16 hs => ?_
 refine hs.mmake 195 fun h19 E19 hs => ?_
 refine ⟨_, rfl, _, hs.rd 4 rfl rfl, _, (atC_ext hs.ext hat).nth 1 rfl, by omega, ?_⟩
 rw [made3n]
 refine hs.newb fun h23 hs => ?_
 have hs : St h h23 (ctL h19.size h16.size h14.size h11.size h.size b cl m.n.toNat [] [] C) := hs
 refine ⟨fun x h' μ => ∃ (i : Nat) (N : List (Sg × Int)) (A : List Int), x = i /\ μ = m.n.toNat - i /\ i <= m.n.toNat /\ A.length = i /\ NOk m.n.toNat N /\ (∀ q ∈ N, kokS q.1) /\ N.length <= i * 402 /\ (∀ (s : Nat) v, A[s]? = some v -> HsN N v (keyT m C s)) /\ St h h' (ctL h19.size h16.size h14.size h11.size h.size b cl m.n.toNat A N C),
  ⟨_, 0, [], [], rfl, rfl, Nat.zero_le _, rfl, .nil _, fun q hq => (by cases hq), Yyt _, fun s v hv => (by simp at hv), hs⟩, ?_⟩
 clear hs
 rintro - _ h28 μ ⟨i, N, A, rfl, rfl, hi, hAl, hN, hok, hNl, hA, hs⟩
 have hAr : ∀ a ∈ A, inR a := fun a ha => by
  obtain ⟨i, hi⟩ := Yf.1 ha
  have := (hA i a hi).bound hN
  exact ⟨by omega, by omega⟩
 have hDr : ∀ q ∈ zipI (dedF A) 0, inR q.1 := fun q hq => by
  have : q.1 ∈ (zipI (dedF A) 0).map Prod.fst := Yp.2 ⟨q, hq, rfl⟩
  rw [zipI_fst, dedF_mem] at this
  exact hAr _ this
 have hDn : ((zipI (dedF A) 0).map Prod.fst).Nodup := by rw [zipI_fst]; exact dedF_nodup _
 refine sBi (fun c1 => ?_) (fun c1 => ?_)
 ·
  have him : i < m.n.toNat := by omega
  obtain ⟨ci, hci⟩ := get_some (l := C) (i := i) (by omega)
  have hcb : ci <= 200 := hCb ci (Yb hci)
  obtain ⟨hk0, hk1, hk2⟩ := tm_ranges hV (i : Int)
  refine ⟨_, hs.rd 5 rfl rfl, ?_⟩
  refine (timeout135 m sf sm sl b S h28 (hM.ext hs.ext) hV.t (hT.ext hs.ext) i).mono ?_
  rintro _ h35 ⟨rfl, E35⟩
  have hs := hs.step E35
  refine ⟨_, _, _, _, rfl, ?_⟩
  refine hs.newput (vs := (tmE m i).cs) rfl rfl fun h37 hs => ?_
  refine (hs.rows 5 (s := cl) (cs := inC) (l := natI C) rfl (by omega)).nbI (by omega) (by omega) fun b38 o39 d g38 t38 => ?_
  replace g38 : (natI C)[i]? = some d := g38
  obtain ⟨ci', hci', rfl⟩ := natI_get g38
  rw [hci] at hci'; cases hci'
  refine ⟨_, t38.hd, _, hs.rd 6 rfl rfl, sf, (atC_ext hs.ext hat).nth 3 rfl, ?_⟩
  refine (hM.pf.rw.ext hs.ext).nbI (by omega) (by omega) fun b44 o45 bf g44 t44 => ?_
  replace g44 : m.fin[i]? = some bf := g44
  refine ⟨_, t44.hd, ?_⟩
  have hsg : sgB C m.fin i = ⟨(ci : Int), 0, ev0, bf, 0⟩ := by unfold sgB; rw [getD_some hci, getD_some g44]
  have hkk : kokS ⟨(ci : Int), 0, ev0, bf, 0⟩ := ⟨inRn (n := (ci : Int)) (by omega) (by omega), inR0, inR0, inR0, inR0⟩
  refine Fn.mono (step136 hs 3 4 6 (n := ((m.n.toNat : Nat) : Int)) rfl rfl rfl (by rw [show ((m.n.toNat : Nat) : Int) = m.n by omega]; exact (atC_ext hs.ext hat).nth 1 rfl) (by omega) hN hok ⟨(ci : Int), 0, ev0, bf, 0⟩ hkk (by omega)) ?_
  rintro _ h49 ⟨rfl, hs⟩
  rw [<- hsg] at hs hkk ⊢
  obtain ⟨e1, e2, e3, e4, e5⟩ := nextF_spec hN (sgB C m.fin i)
  have hok1 : ∀ q ∈ (nextF m.n.toNat N (sgB C m.fin i)).2, kokS q.1 := fun q hq => by
   rcases e5 q hq with h | h
   ·
    exact hok q h
   ·
    rw [h]; exact hkk
  have hH1 : HsN (nextF m.n.toNat N (sgB C m.fin i)).2 (nextF m.n.toNat N (sgB C m.fin i)).1 [sgB C m.fin i] := .base e3 rfl
  have hA1 : ∀ (s : Nat) v, A[s]? = some v -> HsN (nextF m.n.toNat N (sgB C m.fin i)).2 v (keyT m C s) := fun s v hv => (hA s v hv).mono e2
  generalize (nextF m.n.toNat N (sgB C m.fin i)).1 = v1 at *
  generalize (nextF m.n.toNat N (sgB C m.fin i)).2 = N1 at *
  have hv1 := hH1.bound e1
  refine ⟨_, rfl, _, _, _, hs.at 0 rfl (o := 0) (n := 3) rfl, ?_⟩
  have hkk2 : kokS ⟨v1, 1, tmE m i, false, tmK m i⟩ := ⟨inRn (n := v1) (by omega) (by omega), inR1, hk1, hk2, hk0⟩
  refine Fn.mono (step136 hs 3 4 6 (n := ((m.n.toNat : Nat) : Int)) rfl rfl rfl (by rw [show ((m.n.toNat : Nat) : Int) = m.n by omega]; exact (atC_ext hs.ext hat).nth 1 rfl) (by omega) e1 hok1 ⟨v1, 1, tmE m i, false, tmK m i⟩ hkk2 (by omega)) ?_
  rintro _ h55 ⟨rfl, hs⟩
  obtain ⟨f1, f2, f3, f4, f5⟩ := nextF_spec e1 ⟨v1, 1, tmE m i, false, tmK m i⟩
  have hok2 : ∀ q ∈ (nextF m.n.toNat N1 ⟨v1, 1, tmE m i, false, tmK m i⟩).2, kokS q.1 := fun q hq => by
   rcases f5 q hq with h | h
   ·
    exact hok1 q h
   ·
    rw [h]; exact hkk2
  have hH2 : HsN (nextF m.n.toNat N1 ⟨v1, 1, tmE m i, false, tmK m i⟩).2 (nextF m.n.toNat N1 ⟨v1, 1, tmE m i, false, tmK m i⟩).1 [sgT m i, sgB C m.fin i] := by
   rw [sgT_eq]
   exact .step f3 (show (1 : Int) ≠ 0 by decide) (hH1.mono f2)
  have hA2 : ∀ (s : Nat) v, A[s]? = some v -> HsN (nextF m.n.toNat N1 ⟨v1, 1, tmE m i, false, tmK m i⟩).2 v (keyT m C s) := fun s v hv => (hA1 s v hv).mono f2
  generalize (nextF m.n.toNat N1 ⟨v1, 1, tmE m i, false, tmK m i⟩).1 = v2 at *
  generalize (nextF m.n.toNat N1 ⟨v1, 1, tmE m i, false, tmK m i⟩).2 = N2 at *
  refine ⟨_, rfl, _, hs.rd 6 rfl rfl, ho, (atC_ext hs.ext hat).nth 6 rfl, ?_⟩
  refine (hho.ext hs.ext).nbI (by omega) (by omega) fun b59 o60 k gk t59 => ?_
  have hk : k = i := by rw [Ys, Yyb him] at gk; exact (Yyp gk).symm
  subst hk
  have hS := hSq k him
  have hrow := hqs k him
  have hrn := hrow.ln
  rw [show (natI (S k)).length = (S k).length from Yc _] at hrn
  have hrl : (rwS m k).length = (S k).length := by rw [rwS_len, hS]
  have hSl : (S k).length <= 400 := by
   rw [(hT.so k him).p.length_eq]
   unfold outIx
   exact Yys (List.length_filter_le _ _) (by rw [Yyd]; exact hml)
  refine ⟨_, t59.hd, ?_⟩
  have hN2l : N2.length <= k * 402 + 2 := by omega
  refine ⟨fun at_ x h' μ => ∃ (j : Nat) (N' : List (Sg × Int)), x = j /\ μ = (S k).length - j /\ j <= (S k).length /\ NOk m.n.toNat N' /\ (∀ q ∈ N', kokS q.1) /\ N'.length <= k * 402 + 2 + j /\ (∀ (s : Nat) v, A[s]? = some v -> HsN N' v (keyT m C s)) /\ HsN N' at_ ((((rwS m k).take j).map (sgM C)).reverse ++ [sgT m k, sgB C m.fin k]) /\ St h h' (ctL h19.size h16.size h14.size h11.size h.size b cl m.n.toNat A N' C),
   ⟨_, 0, N2, rfl, rfl, Nat.zero_le _, f1, hok2, by omega, hA2, hH2, hs.drop 1⟩, ?_⟩
  clear hs hN hok hNl hA e1 e2 e3 e4 e5 f1 f2 f3 f4 f5 hok1 hok2 hH1 hH2 hA1 hA2 hN2l hkk hkk2
  rintro - at_ _ h67 μ ⟨j, N', rfl, rfl, hj, hN, hok, hNl, hA, hH, hs⟩
  have hatb := hH.bound hN
  refine sBi (fun c2 => ?_) (fun c2 => ?_)
  ·
   obtain ⟨jn, hjn⟩ := get_some (l := S k) (i := j) (by omega)
   obtain ⟨x, hx, hxf⟩ := (mvS_ok m (k : Int) jn).1 (by rw [hS]; exact Yb hjn)
   have hxl := (Ya.1 hx).1
   have hxr := hV.n.mv x (Yb hx)
   have hrj : (rwS m k)[j]? = some x := rwS_get (by rw [hS]; exact hjn) hx
   refine (hrow.ext hs.ext).nbI (by omega) (by omega) fun b68 o69 d gd t68 => ?_
   replace gd : (natI (S k))[j]? = some d := gd
   obtain ⟨jn', hjn', rfl⟩ := natI_get gd
   rw [hjn] at hjn'; cases hjn'
   refine ⟨_, t68.hd, _, hs.rd 5 rfl rfl, sm, (atC_ext hs.ext hat).nth 4 rfl, ?_⟩
   refine (hM.pm.rw.ext hs.ext).nbI (by omega) (by omega) fun b74 o75 x' gx t74 => ?_
   replace gx : m.mv[jn]? = some x' := gx
   rw [hx] at gx; cases gx
   refine ⟨_, _, _, _, _, _, t74, ?_⟩
   refine hs.newput (vs := x.cs) rfl rfl fun h83 hs => ?_
   refine ⟨_, hs.rd 0 rfl (i := 4) rfl, ?_⟩
   refine (hs.rows 5 (s := cl) (cs := inC) (l := natI C) rfl (by omega)).nbI (by omega) (by omega) fun b85 o86 d g85 t85 => ?_
   obtain ⟨ct, hct, rfl⟩ := natI_get g85
   have hctb : ct <= 200 := hCb ct (Yb hct)
   refine ⟨_, t85.hd, _, _, _, _, _, _, hs.at 0 rfl (o := 0) (n := 6) rfl, _, hs.rd 0 rfl (i := 5) rfl, ?_⟩
   refine (M.of63 x h83).mono ?_
   rintro _ h99 ⟨rfl, E99⟩
   have hs := hs.step E99
   refine ⟨_, _, _, rfl, E99.sm, ?_⟩
   have hkk : kokS ⟨at_, 2, x.ev, x.ag, (ct : Int)⟩ := ⟨inRn (n := at_) (by omega) (by omega), inR2, ⟨by show _ <= x.peer; omega, by show x.peer <= _; omega⟩, ⟨by show _ <= x.label; omega, by show x.label <= _; omega⟩, inRn (n := (ct : Int)) (by omega) (by omega)⟩
   refine Fn.mono (step136 hs 3 4 6 (n := ((m.n.toNat : Nat) : Int)) rfl rfl rfl (by rw [show ((m.n.toNat : Nat) : Int) = m.n by omega]; exact (atC_ext hs.ext hat).nth 1 rfl) (by omega) hN hok ⟨at_, 2, x.ev, x.ag, (ct : Int)⟩ hkk (by omega)) ?_
   rintro _ h102 ⟨rfl, hs⟩
   obtain ⟨f1, f2, f3, f4, f5⟩ := nextF_spec hN ⟨at_, 2, x.ev, x.ag, (ct : Int)⟩
   refine ⟨_, rfl, (S k).length - (j + 1), by omega, j + 1, _, by rw [w64 (by omega) (by omega)]; omega, rfl, by omega, f1, fun q hq => ?_, by omega, fun s v hv => (hA s v hv).mono f2, ?_, hs.drop 1⟩
   ·
    rcases f5 q hq with h | h
    ·
     exact hok q h
    ·
     rw [h]; exact hkk
   ·
    have e : sgM C x = ⟨0, 2, x.ev, x.ag, (ct : Int)⟩ := by unfold sgM; rw [getD_some hct]
    rw [take_snoc hrj, Ym, List.reverse_append, List.map_singleton, List.reverse_singleton, List.singleton_append, List.cons_append, e]
    exact .step f3 (show (2 : Int) ≠ 0 by decide) (hH.mono f2)
  ·
   have hjn : j = (rwS m k).length := by omega
   subst hjn
   rw [Yye] at hH
   replace hH : HsN N' at_ (keyT m C k) := hH
   have har : inR at_ := ⟨by omega, by omega⟩
   have hlast : ∀ {h' : Heap}, St h h' (ctL h19.size h16.size h14.size h11.size h.size b cl m.n.toNat (A ++ [at_]) N' C) -> ∃ μ, μ < m.n.toNat - k /\ ∃ (i : Nat) (N : List (Sg × Int)) (A : List Int), IntKind.wrap .i64 ((k : Int) + 1) = i /\ μ = m.n.toNat - i /\ i <= m.n.toNat /\ A.length = i /\ NOk m.n.toNat N /\ (∀ q ∈ N, kokS q.1) /\ N.length <= i * 402 /\ (∀ (s : Nat) v, A[s]? = some v -> HsN N v (keyT m C s)) /\ St h h' (ctL h19.size h16.size h14.size h11.size h.size b cl m.n.toNat A N C) := fun {h'} hs =>
    ⟨_, by omega, k + 1, N', A ++ [at_], by rw [w64 (by omega) (by omega)]; omega, rfl, by omega, by rw [Yh, hAl]; rfl, hN, hok, by omega, fun s v hv => by
     by_cases hsk : s < A.length
     ·
      rw [Yyi hsk] at hv; exact hA s v hv
     ·
      have hsl := (Ya.1 hv).1
      rw [Yh, Yv] at hsl
      have e : s = A.length := by omega
      subst e
      rw [Yyc (Yyt _), Nat.sub_self] at hv
      cases hv
      rw [hAl]; exact hH, hs⟩
   have hnums : ∀ c : Nat, c = idxF (dedF (A ++ [at_])) at_ -> splice ((A.map (idxF (dedF A)) ++ List.replicate (m.n.toNat - A.length) 0).map natV) k [natV c] = (((A ++ [at_]).map (idxF (dedF (A ++ [at_]))) ++ List.replicate (m.n.toNat - (A ++ [at_]).length) 0)).map natV := fun c hc => by
    rw [hAl, map_natV_put (by rw [Yc]; exact hAl) him, nums_snoc, hc, Yh, hAl]; rfl
   refine hs.mlook (ck := iv) (cv := iv) M195 1 rfl hDr hDn (a := at_) har true ?_
   rw [mget_zipI]
   have hD := dedF_snoc A at_
   by_cases hm : at_ ∈ dedF A
   ·
    rw [if_pos hm] at hD ⊢
    refine ⟨_, true, rfl, ?_⟩
    refine sB_f rfl ?_
    refine hs.mlook (ck := iv) (cv := iv) M195 1 rfl hDr hDn (a := at_) har false ?_
    rw [mget_zipI, if_pos hm]
    refine ⟨_, rfl, ⟨by omega, by omega⟩, ?_⟩
    rw [show 0 + Int.toNat (k : Int) * 1 = k by omega]
    refine hs.put 0 rfl (o := k) (vs := [natV (idxF (dedF A) at_)]) rfl (by rw [Yc, Yh, Yc, Yg, Yv]; omega) fun h134 hs => ?_
    refine hlast ?_
    rw [hnums _ (by rw [hD])] at hs
    unfold ctL
    rw [hD] at hs ⊢
    exact hs
   ·
    rw [if_neg hm] at hD ⊢
    have hnone : ∀ q ∈ zipI (dedF A) 0, q.1 ≠ at_ := fun q hq e => hm (by
     have h1 : q.1 ∈ (zipI (dedF A) 0).map Prod.fst := Yp.2 ⟨q, hq, rfl⟩
     rwa [zipI_fst, e] at h1)
    refine ⟨0, false, rfl, ?_⟩
    refine sB_t rfl ?_
    refine hs.mlen (ck := iv) (cv := iv) M195 1 rfl ?_
    refine ⟨_, rfl, ?_⟩
    refine hs.mput (ck := iv) (cv := iv) M195 1 rfl hDr hDn (a := at_) har (((zipI (dedF A) 0).length : Nat) : Int) fun h125 hs => ?_
    rw [mset_none hnone, zipI_len, <- zipI_snoc, <- hD] at hs
    have hDr' : ∀ q ∈ zipI (dedF (A ++ [at_])) 0, inR q.1 := fun q hq => by
     have : q.1 ∈ (zipI (dedF (A ++ [at_])) 0).map Prod.fst := Yp.2 ⟨q, hq, rfl⟩
     rw [zipI_fst, dedF_mem, Yk, Ye] at this
     rcases this with h | h
     ·
      exact hAr _ h
     ·
      rw [h]; exact har
    have hDn' : ((zipI (dedF (A ++ [at_])) 0).map Prod.fst).Nodup := by rw [zipI_fst]; exact dedF_nodup _
    refine hs.mlook (ck := iv) (cv := iv) M195 1 rfl hDr' hDn' (a := at_) har false ?_
    rw [mget_zipI, if_pos (by rw [hD, Yk]; exact .inr (Ye.2 rfl))]
    refine ⟨_, rfl, ⟨by omega, by omega⟩, ?_⟩
    rw [show 0 + Int.toNat (k : Int) * 1 = k by omega]
    refine hs.put 0 rfl (o := k) (vs := [natV (idxF (dedF (A ++ [at_])) at_)]) rfl (by rw [Yc, Yh, Yc, Yg, Yv]; omega) fun h134 hs => ?_
    refine hlast ?_
    rw [hnums _ rfl] at hs
    exact hs
 ·
  have hin : i = m.n.toNat := by omega
  subst hin
  have hpat : canonL A = canonL (clsT m C) /\ (dedF A).length = (dedF (clsT m C)).length := by
   refine canon_eq (by unfold clsT; rw [Yc, Yyd, hAl]) fun i j a b a' b' h1 h2 h3 h4 => ?_
   have hi := (Ya.1 h1).1
   have hj := (Ya.1 h2).1
   unfold clsT at h3 h4
   rw [Yd, Yyb (by omega)] at h3 h4
   cases h3; cases h4
   constructor
   ·
    intro e; subst e; exact HsN.func hN (hA i a h1) (hA j a h2)
   ·
    intro e; exact HsN.inj hN (hA i a h1) (by rw [show keyT m C i = _ from e]; exact hA j b h2)
  have hpat2 := clsT_eq hV C
  have hcl2 : A.map (idxF (dedF A)) = canonL (clsK (srtM m) C) := hpat.1.trans hpat2.1
  have hdl : (dedF A).length = (dedF (clsK (srtM m) C)).length := hpat.2.trans hpat2.2
  have hle := dedF_len_le (clsK (srtM m) C)
  rw [clsK_len, hsr] at hle
  have hge := clsK_ge (m := srtM m) (C := C) (by rw [hsr]; exact hCl)
  obtain ⟨f', rfl⟩ : ∃ f', f = f' + 1 := ⟨f - 1, by omega⟩
  rw [clsN] at hcls
  have hfin : ∀ {h' : Heap}, St h h' (ctL h19.size h16.size h14.size h11.size h.size b cl m.n.toNat A N C) -> St h h' [.sl ⟨some ⟨h19.size, 0, none⟩, m.n.toNat, m.n.toNat⟩ 3 1 ((natI (canonL (clsK (srtM m) C))).map inC), .blk h.size [.pointer (some ⟨b, 0, none⟩)] 74] := fun {h'} hs => by
   have hs1 : St h h' [.blk h19.size ((canonL (clsK (srtM m) C)).map natV) 3, .blk h.size [.pointer (some ⟨b, 0, none⟩)] 74] := by
    have h2 := hs.sub (L' := [_, _]) (.cons_cons _ (.cons _ (.cons _ (.cons _ (.cons _ (.cons_cons _ .slnil))))))
    rw [hAl, Nat.sub_self, List.replicate_zero, Yw, hcl2] at h2
    exact h2
   exact hs1.blkS m.n.toNat 1 _ (natflat _) (inrows _) (by unfold natI; rw [Yc, Yc, canonL_len, clsK_len]; exact hsr) (by simp only [maxLen]; omega)
  refine hs.mlen (ck := iv) (cv := iv) M195 1 rfl ?_
  refine ⟨_, rfl, ?_⟩
  rw [zipI_len, hdl]
  refine sBe (fun c3 => ?_) (fun c3 => ?_)
  ·
   rw [if_pos (by omega)] at hcls
   rw [hcls]
   exact ⟨_, rfl, (hfin hs).sub (.cons_cons _ (.cons _ .slnil))⟩
  ·
   refine hs.mlen (ck := iv) (cv := iv) M195 1 rfl ?_
   refine ⟨_, rfl, ?_⟩
   rw [zipI_len, hdl]
   rw [if_neg (by omega)] at hcls
   refine ⟨_, ?_, canonL (clsK (srtM m) C), (dedF (clsK (srtM m) C)).length, f', rfl, rfl, by omega, by omega, by rw [canonL_len, clsK_len]; exact hsr, fun x hx => by have := canonL_lt hx; omega, .inr (dedF_canon _), hcls, hfin hs⟩
   rcases hcd with h0 | h0 <;> omega
end Go.VC
end

section
namespace Go.VC
open Go.Proofs

def W74 (p0 : Addr) (p1 : Sl) (p2 : Int) (h : Heap) (R : Value -> Heap -> Prop) : Prop :=
 (Wn h [vI 0, vI 0, vI 0, .slice none 0 0, .slice none 0 0, .slice none 0 0] 26 fun h1 =>
 (Mk p2 p2 8 /\ Wn h1 (madeL Pz 3 (Int.toNat p2)) 3 fun h2 =>
 (Mk p2 p2 8 /\ Wn h2 (madeL Pz 3 (Int.toNat p2)) 3 fun h3 =>
 (∃ x4, rI h3 ⟨p0.block, p0.off + 1, none⟩ x4 /\
 (QI (IntKind.wrap .i64 (x4 - 1)) h3 fun I5 s_8 h9 m7 => (
 (sB (decide (s_8 >= 0))
 ((NB p1.a fun b10 o11 => (Ib s_8 p1.n /\
 (∃ x12, rI h9 ⟨b10, o11 + Int.toNat s_8 * 1, none⟩ x12 /\
 (NB p1.a fun b13 o14 => (Ib s_8 p1.n /\
 (∃ x15, rI h9 ⟨b13, o14 + Int.toNat s_8 * 1, none⟩ x15 /\
 ((0 <= (x12 : Int) /\ (x12 : Int) < ((Int.toNat p2) : Nat)) /\
 (Wp h9 (aS h1 (0 + Int.toNat x12 * 1)) 1 [vI s_8] fun h16 =>
 ((0 <= (x15 : Int) /\ (x15 : Int) < ((Int.toNat p2) : Nat)) /\
 (Wp h16 (aS h2 (0 + Int.toNat x15 * 1)) 1 [vI (-1)] fun h17 =>
 (∃ m18, m18 < m7 /\ I5 (IntKind.wrap .i64 (s_8 - 1)) h17 m18))))))))))))
 ((∃ x19, rI h9 ⟨p0.block, p0.off + 2, none⟩ x19 /\
 (NB p1.a fun b20 o21 => (Ib x19 p1.n /\
 (∃ x22, rI h9 ⟨b20, o21 + Int.toNat x19 * 1, none⟩ x22 /\
 (Wn h9 [vI x22] 3 fun h23 =>
 (Ib 0 1 /\
 (∃ x24, rI h23 (aS h9 (0 + Int.toNat 0 * 1)) x24 /\
 ((0 <= (x24 : Int) /\ (x24 : Int) < ((Int.toNat p2) : Nat)) /\
 (Wp h23 (aS h2 (0 + Int.toNat x24 * 1)) 1 [vI 0] fun h25 =>
 (∃ x26, rI h25 p0 x26 /\
 (Wn h25 [vI 0, vI 0, vI 0, .slice none 0 0, .slice none 0 0, .slice none 0 0] 26 fun h27 =>
 (Wp h27 (aS h25 0) 6 [vI x26, vI 0, vI 0, .slice none 0 0, .slice none 0 0, .slice none 0 0] fun h28 =>
 (QSI ⟨(some (aS h9 0)), 1, 1⟩ 0 h28 fun I29 queue_32 head_33 h34 m31 => (
 (sB (decide (head_33 < (queue_32.n : Int)))
 ((NB queue_32.a fun b35 o36 => (Ib head_33 queue_32.n /\
 (∃ x37, rI h34 ⟨b35, o36 + Int.toNat head_33 * 1, none⟩ x37 /\
 ((0 <= (x37 : Int) /\ (x37 : Int) < ((Int.toNat p2) : Nat)) /\
 (∃ x38, rI h34 (aS h1 (0 + Int.toNat x37 * 1)) x38 /\
 (∃ x39, rS h34 (aS h25 3) x39 /\
 (∃ x40, rS h34 ⟨p0.block, p0.off + 3, none⟩ x40 /\
 (NB x40.a fun b41 o42 => (Ib x38 x40.n /\
 (∃ x43, rB h34 ⟨b41, o42 + Int.toNat x38 * 1, none⟩ x43 /\
 (Wn h34 [.bool x43] 4 fun h44 =>
 (Sm [(aS h25 3)] h34 h44 /\
 (App Pz 22 22 (vS x39) (.slice (some (aS h34 0)) 1 1) h44 fun s45 h46 =>
 (Wp h46 (aS h25 3) 1 [vS s45] fun h47 =>
 (Fn Pz 135 #[.pointer (some p0), vI x38] h47
 (fun v48 h53 => ∃ (x49 : Int) (x50 : Bool) (x51 x52 : Int), v48 = .tuple ⟨[vI x49, .agg ⟨(L2 x50 x51 x52)⟩]⟩ /\
 (Wn h53 [.bool false, vI 0, vI 0] 79 fun h54 =>
 (Wp h54 (aS h53 0) 3 (L2 x50 x51 x52) fun h55 =>
 (∃ x56, rS h55 ⟨p0.block, p0.off + 6, none⟩ x56 /\
 (NB x56.a fun b57 o58 => (Ib x38 x56.n /\
 (∃ x59, rS h55 ⟨b57, o58 + Int.toNat x38 * 1, none⟩ x59 /\
 (QSI queue_32 0 h55 fun I60 queue_63 x_64 h65 m62 => (
 (sB (decide (x_64 < (x59.n : Int)))
 ((NB x59.a fun b66 o67 => (Ib x_64 x59.n /\
 (∃ x68, rI h65 ⟨b66, o67 + Int.toNat x_64 * 1, none⟩ x68 /\
 (∃ x69, rS h65 ⟨p0.block, p0.off + 4, none⟩ x69 /\
 (NB x69.a fun b70 o71 => (Ib x68 x69.n /\
 (∃ x72 x73 x74 x75 x76 x77, aL3 h65 ⟨b70, o71 + Int.toNat x68 * 6, none⟩ x72 x73 x74 x75 x76 x77 /\
 (Wn h65 [vI 0, .bool false, vI 0, vI 0, vI 0, .bool false] 81 fun h78 =>
 (Wp h78 (aS h65 0) 6 (L3 x72 x73 x74 x75 x76 x77) fun h79 =>
 (∃ x80, rI h79 (aS h65 4) x80 /\
 (NB p1.a fun b81 o82 => (Ib x80 p1.n /\
 (∃ x83, rI h79 ⟨b81, o82 + Int.toNat x80 * 1, none⟩ x83 /\
 (∃ J84 : Sl -> Heap -> Prop,
 (((0 <= (x83 : Int) /\ (x83 : Int) < ((Int.toNat p2) : Nat)) /\
 (∃ x85, rI h79 (aS h2 (0 + Int.toNat x83 * 1)) x85 /\
 (sB (decide (x85 < 0))
 (((0 <= (x83 : Int) /\ (x83 : Int) < ((Int.toNat p2) : Nat)) /\
 (Wp h79 (aS h2 (0 + Int.toNat x83 * 1)) 1 [vI (queue_63.n : Int)] fun h86 =>
 (Wn h86 [vI x83] 3 fun h87 =>
 (App Pz 49 49 (vS queue_63) (.slice (some (aS h86 0)) 1 1) h87 fun s88 h89 =>
 (J84 s88 h89))))))
 ((J84 queue_63 h79)))))) /\
 (∀ (_ : Env) (queue_90 : Sl) (h91 : Heap), J84 queue_90 h91 ->
 (∃ J92 : Heap -> Prop,
 ((sB (decide (x49 > 0))
 ((∃ x93 x94 x95 x96 x97 x98, aL3 h91 (aS h65 0) x93 x94 x95 x96 x97 x98 /\
 (∃ x99 x100 x101, aL2 h91 (aS h53 0) x99 x100 x101 /\
 (Fn Pz 63 #[.agg ⟨(L3 x93 x94 x95 x96 x97 x98)⟩] h91
 (fun v102 h106 => ∃ (x103 : Bool) (x104 x105 : Int), v102 = .agg ⟨(L2 x103 x104 x105)⟩ /\
 (Sm [(aS h53 0)] h91 h106 /\
 (sB ((x103 == x99) && ((x104 == x100) && ((x105 == x101) && true)))
 ((∃ x107, rS h106 (aS h25 5) x107 /\
 (∃ x108, rS h106 (aS h25 4) x108 /\
 (Wn h106 [vI head_33, vI x49, vI (x108.n : Int)] 44 fun h109 =>
 (App Pz 24 24 (vS x107) (.slice (some (aS h106 0)) 1 1) h109 fun s110 h111 =>
 (Wp h111 (aS h25 5) 1 [vS s110] fun h112 =>
 (J92 h112)))))))
 ((J92 h106)))))))))
 ((J92 h91)))) /\
 (∀ (_ : Env) (h113 : Heap), J92 h113 ->
 ((0 <= (x83 : Int) /\ (x83 : Int) < ((Int.toNat p2) : Nat)) /\
 (∃ x114, rI h113 (aS h2 (0 + Int.toNat x83 * 1)) x114 /\
 (Wp h113 (aS h65 0) 1 [vI head_33] fun h115 =>
 (Sm [(aS h2 (0 + Int.toNat x83 * 1))] h113 h115 /\
 (Wp h115 (aS h65 4) 1 [vI x114] fun h116 =>
 (∃ x117, rS h116 (aS h25 4) x117 /\
 (∃ x118 x119 x120 x121 x122 x123, aL3 h116 (aS h65 0) x118 x119 x120 x121 x122 x123 /\
 (Wn h116 (L3 x118 x119 x120 x121 x122 x123) 81 fun h124 =>
 (App Pz 23 23 (vS x117) (.slice (some (aS h116 0)) 1 1) h124 fun s125 h126 =>
 (Wp h126 (aS h25 4) 1 [vS s125] fun h127 =>
 (∃ m128, m128 < m62 /\ I60 queue_90 (IntKind.wrap .i64 (x_64 + 1)) h127 m128)))))))))))))))))))))))))))))
 ((∃ m129, m129 < m31 /\ I29 queue_63 (IntKind.wrap .i64 (head_33 + 1)) h65 m129))))))))))))))))))))))))))))
 ((Wp h34 (aS h25 1) 1 [vI (queue_32.n : Int)] fun h130 =>
 (∃ x131 x132 x133 x134 x135 x136, aL0 h130 (aS h25 0) x131 x132 x133 x134 x135 x136 /\
 (Wp h130 (aS h 0) 6 (L0 x131 x132 x133 x134 x135 x136) fun h137 =>
 (∃ x138 x139 x140 x141 x142 x143, aL0 h137 (aS h 0) x138 x139 x140 x141 x142 x143 /\
 R (.agg ⟨(L0 x138 x139 x140 x141 x142 x143)⟩) h137))))))))))))))))))))))))))))
theorem vc74 (p0 : Addr) (p1 : Sl) (p2 : Int) (h : Heap) (R : Value -> Heap -> Prop) (H : W74 p0 p1 p2 h R) : Fn Pz 74 #[.pointer (some p0), vS p1, vI p2] h R := fnI (A := (.s .z (.s .z (.s .z (.s (.s .z (.b (.l [(9, .one (.int .i64))] .z))) (.s .z (.s .z (.s .z (.s (.s .z (.b (.l [(10, .one (.slice)), (12, .one (.int .i64))] (.s .z (.s (.b (.s .z (.s .z (.s .z (.s .z (.b (.l [(10, .one (.slice)), (107, .one (.int .i64))] (.s .z (.s .z (.s (.b (.s .z (.s .z (.s .z (.j [(10, .one (.slice))] .z (.j [] .z .z)))))) .z)))))))))) .z))))) .z))))))))) (by kernel_rfl) H

end Go.VC
end

section
/- Contract: merged. (Numbers of layer 26's seat.) -/
namespace Go.VC
open Go.Proofs Go.LexS Go.Maps
theorem minX_tm {m : Mch} (hV : WM m) (C : List Nat) (hd s : Nat) (st : List Nat × List Mv × List To) (x : Mv) :
  minX (srtM m) C hd (mget (limM (srtM m).li) (s : Int)) st x = (addQ st.1 (C.getD x.t.toNat 0), st.2.1 ++ [⟨hd, x.send, x.peer, x.label, (idxF (addQ st.1 (C.getD x.t.toNat 0)) (C.getD x.t.toNat 0) : Nat), x.ag⟩], st.2.2 ++ if 0 < tmK m s /\ x.ev = tmE m s then [⟨hd, tmK m s, (st.2.1.length : Nat)⟩] else []) := by
 rw [lim_srt hV.t]
 unfold tmK tmE
 cases hl : limT m (s : Int) with
 | none =>
  show (_, _, st.2.2 ++ []) = _
  have : ¬ (0 < (0 : Int) /\ x.ev = ev0) := by omega
  show _ = (_, _, st.2.2 ++ if 0 < (0 : Int) /\ x.ev = ev0 then _ else [])
  rw [if_neg this]
 | some t =>
  obtain ⟨hk, y, hy, _, _, _, _, _, h2⟩ := li_in hV (limT_mem hl).1
  have ev : evI m t.e.toNat = y.ev := evI_of hy
  show (_, _, st.2.2 ++ match (srtV m)[(srtE m t).e.toNat]? with | some y => if x.ev = y.ev then [_] else [] | none => []) = (_, _, st.2.2 ++ if 0 < t.k /\ x.ev = evI m t.e.toNat then [⟨hd, t.k, (st.2.1.length : Nat)⟩] else [])
  rw [h2, ev]
  by_cases e : x.ev = y.ev
  ·
   rw [if_pos ⟨by omega, e⟩]
   show (_, _, st.2.2 ++ if x.ev = y.ev then _ else _) = _
   rw [if_pos e]; rfl
  ·
   rw [if_neg fun h => e h.2]
   show (_, _, st.2.2 ++ if x.ev = y.ev then _ else _) = _
   rw [if_neg e]
def mgA (xb nmb sb ob : Nat) (m : Mch) (q ofn omv oli : Sl) (Q : List Nat) (NUM : List Int) (fin : List Bool) (mv : List Mv) (li : List To) (SM : List Nat) : List It :=
 [.blk xb [.int .i64 m.role, .int .i64 0, .int .i64 0, .slice ofn.a ofn.n ofn.c, .slice omv.a omv.n omv.c, .slice oli.a oli.n oli.c] 26, .sl q 3 1 ((natI Q).map inC), .sl ofn 4 1 (fin.map bC), .sl omv 81 6 (mv.map Mv.cs), .sl oli 44 3 (li.map To.cs), .blk nmb (NUM.map iv) 3, .blk sb (SM.map natV) 3, .blk ob m0 26]
set_option maxHeartbeats 8000000 in
theorem merged74 (m : Mch) (sf sm sl sc : Sl) (b : Nat) (S : Nat -> List Nat) (C : List Nat) (cnt : Nat) (h : Heap) (hM : MI h m sf sm sl) (hV : WM m) (hT : TbI h ⟨b, 0, none⟩ m sf sm sl S) (hR : Rw h 1 sc ((natI C).map inC)) (hCs : CsOk (srtM m) C cnt) :
  Fn Pz 74 #[.pointer (some ⟨b, 0, none⟩), .slice sc.a sc.n sc.c, .int .i64 (cnt : Nat)] h fun v h' => ∃ sf' sm' sl' : Sl, v = .agg ⟨mC (minN (srtM m) C 202 0 [C.getD m.s.toNat 0] [] [] []) sf' sm' sl'⟩ /\ St h h' (mL (minN (srtM m) C 202 0 [C.getD m.s.toNat 0] [] [] []) sf' sm' sl') := by
 apply vc74 ⟨b, 0, none⟩ sc (cnt : Nat); unfold W74
 obtain ⟨ho, qs, _, hat, hhn, hho, hqs⟩ := hT.ex
 have hn := hV.n.n
 have hms := hV.n.s
 have hfl := hV.n.fl
 have hml := hV.n.ml
 have hmn := hM.pm.ln
 have hfn := hM.pf.ln
 have hSq : ∀ s : Nat, s < m.n.toNat -> mvS m (s : Int) = S s := fun s hs => mvS_eq hV.d (hT.so s hs).p (hT.so s hs).s
 obtain ⟨hCl, hCb, hcc, hCsu⟩ := hCs
 replace hCl : C.length = m.n.toNat := hCl
 replace hcc : cnt <= m.n.toNat := hcc
 have hscn := hR.ln
 rw [show (natI C).length = C.length from Yc _] at hscn
 have hidx : ∀ c, c < cnt -> idxF C c < m.n.toNat := fun c hc => by rw [<- hCl]; exact idxF_lt (hCsu c hc)
 refine (St.refl h).newb fun h1 hs => ?_
 refine ⟨⟨by omega, by omega, by omega⟩, ?_⟩
 refine hs.newb fun h2 hs => ?_
 refine ⟨⟨by omega, by omega, by omega⟩, ?_⟩
 rw [made3n, Ys] at hs
 refine hs.newb fun h3 hs => ?_
 rw [made3i, Ys] at hs
 refine ⟨m.n, (atC_ext hs.ext hat).nth 1 rfl, ?_⟩
 rw [w64 (n := m.n - 1) (by omega) (by omega)]
 refine ⟨fun x h' μ => ∃ (i : Nat) (SM : List Nat) (NUM : List Int), x = (i : Int) - 1 /\ μ = i /\ i <= m.n.toNat /\ SM.length = cnt /\ NUM.length = cnt /\ (∀ c, c < cnt -> c ∈ C.drop i -> SM[c]? = some (i + idxF (C.drop i) c)) /\ (∀ c, c < cnt -> c ∈ C.drop i -> NUM[c]? = some (-1)) /\ St h h' [.blk h2.size (NUM.map iv) 3, .blk h1.size (SM.map natV) 3, .blk h.size m0 26],
  ⟨_, m.n.toNat, _, _, by omega, rfl, by omega, Yg, Yg, fun c _ hc => (by rw [List.drop_eq_nil_of_le (by omega)] at hc; cases hc), fun c _ hc => (by rw [List.drop_eq_nil_of_le (by omega)] at hc; cases hc), hs⟩, ?_⟩
 clear hs
 rintro - _ h9 i ⟨_, SM, NUM, rfl, rfl, hi, hSMl, hNl, hSM, hN1, hs⟩
 refine sBi (fun c1 => ?_) (fun c1 => ?_)
 ·
  obtain ⟨i, rfl⟩ : ∃ i', i = i' + 1 := ⟨i - 1, by omega⟩
  rw [show (((i + 1 : Nat) : Int) - 1) = (i : Int) by omega]
  refine (hR.ext hs.ext).nbI (by omega) (by omega) fun b10 o11 d g10 t10 => ?_
  rw [Ys] at g10
  obtain ⟨c, gc, rfl⟩ := natI_get g10
  have hcb := hCb c (Yb gc)
  refine ⟨_, t10.hd, ?_⟩
  refine (hR.ext hs.ext).nbI (by omega) (by omega) fun b13 o14 d g13 t13 => ?_
  rw [Ys] at g13
  obtain ⟨c', gc', rfl⟩ := natI_get g13
  rw [gc] at gc'; cases gc'
  refine ⟨_, t13.hd, ⟨by omega, by omega⟩, ?_⟩
  rw [show 0 + Int.toNat (c : Int) * 1 = c by omega]
  refine hs.put 1 rfl (o := c) (vs := [natV i]) rfl (by rw [Yc, Yv]; omega) fun h16 hs => ?_
  rw [map_splice natV (by omega)] at hs
  refine ⟨⟨by omega, by omega⟩, ?_⟩
  refine hs.put 0 rfl (o := c) (vs := [iv (-1)]) rfl (by rw [Yc, Yv]; omega) fun h17 hs => ?_
  rw [map_splice iv (by omega)] at hs
  refine ⟨_, by omega, i, SM.set c i, NUM.set c (-1), by rw [w64 (by omega) (by omega)], rfl, by omega, by rw [Yyh]; exact hSMl, by rw [Yyh]; exact hNl, fun c' hc' hm => ?_, fun c' hc' hm => ?_, hs⟩
  ·
   rw [drop_get gc] at hm ⊢
   rw [idxF]
   by_cases e : c = c'
   ·
    subst e; rw [if_pos rfl, Yq (by omega)]; rfl
   ·
    rw [if_neg e, Yy e]
    rcases Yr.1 hm with hm | hm
    ·
     exact absurd hm.symm e
    ·
     rw [hSM c' hc' hm]; congr 1; omega
  ·
   rw [drop_get gc] at hm
   by_cases e : c = c'
   ·
    subst e; rw [Yq (by omega)]
   ·
    rw [Yy e]
    rcases Yr.1 hm with hm | hm
    ·
     exact absurd hm.symm e
    ·
     exact hN1 c' hc' hm
 have hi0 : i = 0 := by omega
 subst hi0
 have hSM' : ∀ c, c < cnt -> SM[c]? = some (idxF C c) := fun c hc => by
  have := hSM c hc (by rw [List.drop_zero]; exact hCsu c hc)
  rwa [List.drop_zero, Nat.zero_add] at this
 have hN1' : ∀ c, c < cnt -> NUM[c]? = some (-1) := fun c hc => hN1 c hc (by rw [List.drop_zero]; exact hCsu c hc)
 clear hSM hN1 c1 hi
 obtain ⟨c0, hc0⟩ := get_some (l := C) (i := m.s.toNat) (by omega)
 have hc0b := hCb c0 (Yb hc0)
 rw [getD_some hc0]
 generalize hmin : minN (srtM m) C 202 0 [c0] [] [] [] = M0
 refine ⟨m.s, (atC_ext hs.ext hat).nth 2 rfl, ?_⟩
 refine (hR.ext hs.ext).nbI (by omega) (by omega) fun b20 o21 d20 g20 t20 => ?_
 obtain ⟨c0', gc0, rfl⟩ := natI_get g20
 rw [hc0] at gc0; cases gc0
 refine ⟨_, t20.hd, ?_⟩
 refine hs.newb fun h23 hs => ?_
 refine ⟨⟨by omega, by omega⟩, _, hs.rd 0 rfl rfl, ⟨by omega, by omega⟩, ?_⟩
 rw [show 0 + Int.toNat (c0 : Int) * 1 = c0 by omega]
 refine hs.put 1 rfl (o := c0) (vs := [iv 0]) rfl (by rw [Yc, Yv]; omega) fun h25 hs => ?_
 rw [map_splice iv (by omega)] at hs
 have hs := hs.blkS 1 1 ((natI [c0]).map inC) rfl (inrows _) rfl (by decide)
 refine ⟨m.role, (atC_ext hs.ext hat).nth 0 rfl, ?_⟩
 refine hs.newput (vs := [.int .i64 m.role, .int .i64 0, .int .i64 0, .slice none 0 0, .slice none 0 0, .slice none 0 0]) rfl rfl fun h28 hs => ?_
 have hs : St h h28 (mgA h25.size h2.size h1.size h.size m ⟨some ⟨h9.size, 0, none⟩, 1, 1⟩ ⟨none, 0, 0⟩ ⟨none, 0, 0⟩ ⟨none, 0, 0⟩ [c0] (NUM.set c0 0) [] [] [] SM) :=
  (((hs.nil_ 44 3).nil_ 81 6).nil_ 4 1).perm (List.perm_append_comm (l₁ := [_, _, _]) (l₂ := [_, _]) |>.append_right [_, _, _])
 have hq0 : QOk [c0] cnt := ⟨by simp, fun c hc => by rw [Ye] at hc; omega⟩
 have hnq0 : NumQ (NUM.set c0 0) [c0] cnt := by
  refine ⟨by rw [Yyh]; exact hNl, fun c hc => ?_⟩
  by_cases e : c = c0
  ·
   subst e
   rw [Yq (by omega), if_pos (by simp), idxF, if_pos rfl]; rfl
  ·
   rw [Yy (fun h => e h.symm), if_neg (by simpa using e), hN1' c hc]
 refine ⟨fun q x h' μ => ∃ (i : Nat) (ofn omv oli : Sl) (Q : List Nat) (NUM : List Int) (fin : List Bool) (mv : List Mv) (li : List To), x = (i : Int) /\ μ = cnt - i /\ i <= Q.length /\
   St h h' (mgA h25.size h2.size h1.size h.size m q ofn omv oli Q NUM fin mv li SM) /\ QOk Q cnt /\ NumQ NUM Q cnt /\ mv.length <= i * 400 /\ li.length <= i * 400 /\ fin.length = i /\ minN (srtM m) C (202 - i) i Q fin mv li = M0,
   ⟨_, 0, _, _, _, _, _, _, _, _, rfl, rfl, by omega, hs, hq0, hnq0, by decide, by decide, rfl, hmin⟩, ?_⟩
 clear hs hmin hq0 hnq0 hN1' hNl
 rintro - q _ h34 μ ⟨i, ofn, omv, oli, Q, NUM, fin, mv, li, rfl, rfl, hiQ, hs, hQ, hNQ, hmvl, hlil, hfinl, hmin⟩
 have hqn := (hs.rows 1 (s := q) (cs := inC) rfl (by omega)).ln
 rw [show (natI Q).length = Q.length from Yc _] at hqn
 have hQl := hQ.le
 refine sBi (fun c4 => ?_) (fun c4 => ?_)
 ·
  obtain ⟨c, hc⟩ := get_some (l := Q) (i := i) (by omega)
  have hcb := hQ.lt c (Yb hc)
  have hiQ1 : i < Q.length /\ Q.length <= cnt := by omega
  refine (hs.rows 1 (s := q) (cs := inC) rfl (by omega)).nbI (by omega) (by omega) fun b35 o36 d35 g35 t35 => ?_
  rw [Ys] at g35
  obtain ⟨c', gc', rfl⟩ := natI_get g35
  rw [hc] at gc'; cases gc'
  refine ⟨_, t35.hd, ⟨by omega, by omega⟩, ?_⟩
  rw [show 0 + Int.toNat (c : Int) * 1 = c by omega]
  have hsb := hidx c hcb
  rw [show 202 - i = (202 - (i + 1)) + 1 by omega, minN, hc] at hmin
  replace hmin : minN (srtM m) C (202 - (i + 1)) (i + 1) ((outM (srtM m) (idxF C c)).foldl (minX (srtM m) C i (mget (limM (srtM m).li) (idxF C c : Nat))) (Q, mv, li)).1 (fin ++ [m.fin.getD (idxF C c) false])
   ((outM (srtM m) (idxF C c)).foldl (minX (srtM m) C i (mget (limM (srtM m).li) (idxF C c : Nat))) (Q, mv, li)).2.1 ((outM (srtM m) (idxF C c)).foldl (minX (srtM m) C i (mget (limM (srtM m).li) (idxF C c : Nat))) (Q, mv, li)).2.2 = M0 := hmin
  rw [outM_srt hsb] at hmin
  have hsm := hSM' c hcb
  refine ⟨_, hs.rd 6 rfl (by rw [Yd, hsm]; rfl), ?_⟩
  generalize hse : idxF C c = s at *
  refine ⟨ofn, hs.rd 0 rfl rfl, sf, (atC_ext hs.ext hat).nth 3 rfl, ?_⟩
  have hofn := (hs.rows 2 (s := ofn) (cs := bC) rfl (by omega)).ln
  refine (hM.pf.rw.ext hs.ext).nbI (by omega) (by omega) fun b41 o42 bf g41 t41 => ?_
  rw [Ys] at g41
  replace g41 : m.fin[s]? = some bf := g41
  rw [getD_some g41] at hmin
  refine ⟨_, t41.hd, ?_⟩
  refine hs.newbE fun h44 E44 hs => ⟨E44.sm, ?_⟩
  refine hs.appended 3 (rows := fin.map bC) rfl app30 (m := 1) (news := [bC bf]) (hs.at 0 rfl (n := 1) rfl) rfl (fun r hr => by rw [Ye] at hr; rw [hr]; rfl) rfl (by omega) (by simp only [maxLen]; omega) fun s45 h46 n45 hs => ?_
  refine hs.put 1 rfl (o := 3) (vs := [.slice s45.a s45.n s45.c]) rfl (show 4 <= 6 by decide) fun h47 hs => ?_
  have hs : St h h47 (mgA h25.size h2.size h1.size h.size m q s45 omv oli Q NUM (fin ++ [bf]) mv li SM) := by
   unfold mgA
   rw [Ym (l₁ := fin)]
   exact hs.drop 1
  refine (timeout135 m sf sm sl b S h47 (hM.ext hs.ext) hV.t (hT.ext hs.ext) s).mono ?_
  rintro _ h53 ⟨rfl, E53⟩
  have hs := hs.step E53
  refine ⟨_, _, _, _, rfl, ?_⟩
  refine hs.newput (vs := (tmE m s).cs) rfl rfl fun h55 hs => ?_
  refine ⟨ho, (atC_ext hs.ext hat).nth 6 rfl, ?_⟩
  refine (hho.ext hs.ext).nbI (by omega) (by omega) fun b57 o58 k gk t57 => ?_
  have hk : k = s := by rw [Ys, Yyb hsb] at gk; exact (Yyp gk).symm
  subst hk
  have hS := hSq k hsb
  have hrow := hqs k hsb
  have hrn := hrow.ln
  rw [show (natI (S k)).length = (S k).length from Yc _] at hrn
  have hrl : (rwS m k).length = (S k).length := by rw [rwS_len, hS]
  have hSl : (S k).length <= 400 := by
   rw [(hT.so k hsb).p.length_eq]
   unfold outIx
   exact Yys (List.length_filter_le _ _) (by rw [Yyd]; exact hml)
  refine ⟨_, t57.hd, ?_⟩
  refine ⟨fun q x h' μ => ∃ (j : Nat) (omv oli : Sl) (Q2 : List Nat) (NUM2 : List Int) (mv2 : List Mv) (li2 : List To), x = (j : Int) /\ μ = (S k).length - j /\ j <= (S k).length /\
    St h h' (.blk h53.size (tmE m k).cs 79 :: mgA h25.size h2.size h1.size h.size m q s45 omv oli Q2 NUM2 (fin ++ [bf]) mv2 li2 SM) /\ QOk Q2 cnt /\ NumQ NUM2 Q2 cnt /\ mv2.length <= mv.length + j /\ li2.length <= li.length + j /\ Q.length <= Q2.length /\ ((rwS m k).take j).foldl (minX (srtM m) C i (mget (limM (srtM m).li) (k : Nat))) (Q, mv, li) = (Q2, mv2, li2),
    ⟨_, 0, omv, oli, Q, NUM, mv, li, rfl, rfl, by omega, hs, hQ, hNQ, by omega, by omega, by omega, rfl⟩, ?_⟩
  clear hs hQ hNQ hqn hofn hQl c4
  rintro - q2 _ h65 μ ⟨j, omv2, oli2, Q2, NUM2, mv2, li2, rfl, rfl, hj, hs, hQ, hNQ, hmv2, hli2, hQ2, hfold⟩
  have hqn2 := (hs.rows 2 (s := q2) (cs := inC) rfl (by omega)).ln
  rw [show (natI Q2).length = Q2.length from Yc _] at hqn2
  have hQ2l := hQ.le
  refine sBi (fun c5 => ?_) (fun c5 => ?_)
  ·
   obtain ⟨jn, hjn⟩ := get_some (l := S k) (i := j) (by omega)
   obtain ⟨x, hx, hxf⟩ := (mvS_ok m (k : Int) jn).1 (by rw [hS]; exact Yb hjn)
   have hxl := (Ya.1 hx).1
   have hxr := hV.n.mv x (Yb hx)
   have hrj : (rwS m k)[j]? = some x := rwS_get (by rw [hS]; exact hjn) hx
   refine (hrow.ext hs.ext).nbI (by omega) (by omega) fun b66 o67 d gd t66 => ?_
   replace gd : (natI (S k))[j]? = some d := gd
   obtain ⟨jn', hjn', rfl⟩ := natI_get gd
   rw [hjn] at hjn'; cases hjn'
   refine ⟨_, t66.hd, sm, (atC_ext hs.ext hat).nth 4 rfl, ?_⟩
   refine (hM.pm.rw.ext hs.ext).nbI (by omega) (by omega) fun b70 o71 x' gx t70 => ?_
   replace gx : m.mv[jn]? = some x' := gx
   rw [hx] at gx; cases gx
   refine ⟨_, _, _, _, _, _, t70, ?_⟩
   refine hs.newput (vs := x.cs) rfl rfl fun h79 hs => ?_
   refine ⟨_, hs.rd 0 rfl (i := 4) rfl, ?_⟩
   refine (hR.ext hs.ext).nbI (by omega) (by omega) fun b81 o82 d81 g81 t81 => ?_
   obtain ⟨cx, gcx, rfl⟩ := natI_get g81
   have hcxb := hCb cx (Yb gcx)
   have hcxg : C.getD x.t.toNat 0 = cx := getD_some gcx
   refine ⟨_, t81.hd, ?_⟩
   refine ⟨fun q' h' => ∃ NUM3, St h h' (.blk h65.size x.cs 81 :: .blk h53.size (tmE m k).cs 79 :: mgA h25.size h2.size h1.size h.size m q' s45 omv2 oli2 (addQ Q2 cx) NUM3 (fin ++ [bf]) mv2 li2 SM) /\ NumQ NUM3 (addQ Q2 cx) cnt, ?_, ?_⟩
   ·
    have hnc := hNQ.2 cx hcxb
    refine ⟨⟨by omega, by omega⟩, ?_⟩
    rw [show 0 + Int.toNat (cx : Int) * 1 = cx by omega]
    refine ⟨_, hs.rd 7 rfl (by rw [Yd, hnc]; rfl), ?_⟩
    by_cases hm : cx ∈ Q2
    ·
     rw [if_pos hm]
     refine sB_f (decide_eq_false (by omega)) ?_
     have ea : addQ Q2 cx = Q2 := by unfold addQ; rw [if_pos hm]
     rw [ea]
     exact ⟨NUM2, hs, hNQ⟩
    ·
     rw [if_neg hm]
     refine sB_t (decide_eq_true (by decide)) ?_
     have ea : addQ Q2 cx = Q2 ++ [cx] := by unfold addQ; rw [if_neg hm]
     refine ⟨⟨by omega, by omega⟩, ?_⟩
     refine hs.put 7 rfl (o := cx) (vs := [iv (q2.n : Nat)]) rfl (by rw [Yc, Yv, hNQ.1]; omega) fun h86 hs => ?_
     rw [map_splice iv (by rw [hNQ.1]; omega), hqn2] at hs
     refine hs.app 3 rfl app42 (m := 1) [[.int .i64 cx]] rfl rfl (by simp) rfl (by omega) (by simp only [maxLen]; omega) fun s88 h89 n88 hs => ?_
     rw [ea]
     refine ⟨_, ?_, hNQ.add hcxb hm⟩
     unfold mgA
     rw [natI_snoc, Ym (l₁ := natI Q2)]
     exact hs
   ·
    rintro - q3 h91 ⟨NUM3, hs, hNQ3⟩
    have hmx := minX_tm hV C i k (Q2, mv2, li2) x
    rw [hcxg] at hmx
    have homv := (hs.rows 5 (s := omv2) (cs := Mv.cs) rfl (by omega)).ln
    have holi := (hs.rows 6 (s := oli2) (cs := To.cs) rfl (by omega)).ln
    replace hmx : minX (srtM m) C i (mget (limM (srtM m).li) (k : Int)) (Q2, mv2, li2) x = (addQ Q2 cx, mv2 ++ [⟨(i : Nat), x.send, x.peer, x.label, (idxF (addQ Q2 cx) cx : Nat), x.ag⟩], li2 ++ if 0 < tmK m k /\ x.ev = tmE m k then [⟨(i : Nat), tmK m k, (mv2.length : Nat)⟩] else []) := hmx
    have hlm2 := (minX_len (srtM m) C i (mget (limM (srtM m).li) (k : Int)) (Q2, mv2, li2) x).2
    rw [hmx] at hlm2
    generalize hLI : (li2 ++ if 0 < tmK m k /\ x.ev = tmE m k then [⟨(i : Nat), tmK m k, (mv2.length : Nat)⟩] else []) = LI at *
    replace hlm2 : LI.length <= li2.length + 1 := hlm2
    refine ⟨fun h' => ∃ oli', St h h' (.blk h65.size x.cs 81 :: .blk h53.size (tmE m k).cs 79 :: mgA h25.size h2.size h1.size h.size m q3 s45 omv2 oli' (addQ Q2 cx) NUM3 (fin ++ [bf]) mv2 LI SM), ?_, ?_⟩
    ·
     have hJ : ∀ {h' : Heap}, St h h' (.blk h65.size x.cs 81 :: .blk h53.size (tmE m k).cs 79 :: mgA h25.size h2.size h1.size h.size m q3 s45 omv2 oli2 (addQ Q2 cx) NUM3 (fin ++ [bf]) mv2 li2 SM) -> ¬ (0 < tmK m k /\ x.ev = tmE m k) -> ∃ oli', St h h' (.blk h65.size x.cs 81 :: .blk h53.size (tmE m k).cs 79 :: mgA h25.size h2.size h1.size h.size m q3 s45 omv2 oli' (addQ Q2 cx) NUM3 (fin ++ [bf]) mv2 LI SM) := fun {h'} hs e => by
      rw [if_neg e, Yw] at hLI
      rw [<- hLI]; exact ⟨oli2, hs⟩
     refine sBi (fun c6 => ?_) (fun c6 => hJ hs fun e => (by omega))
     refine ⟨_, _, _, _, _, _, hs.at 0 rfl (o := 0) (n := 6) rfl, _, _, _, hs.at 1 rfl (o := 0) (n := 3) rfl, ?_⟩
     refine (M.of63 x h91).mono ?_
     rintro _ h106 ⟨rfl, E106⟩
     have hs := hs.step E106
     refine ⟨_, _, _, rfl, E106.sm, ?_⟩
     have heq : (((x.ev.send == (tmE m k).send) && ((x.ev.peer == (tmE m k).peer) && ((x.ev.label == (tmE m k).label) && true))) = true) ↔ x.ev = tmE m k := by
      rw [Bool.and_true, Yt, Yt, beq_iff_eq, beq_iff_eq, beq_iff_eq]
      exact ⟨fun h => ev_ext h.1 h.2.1 h.2.2, fun h => by rw [h]; exact ⟨rfl, rfl, rfl⟩⟩
     refine sB_intro (fun c7 => ?_) (fun c7 => hJ hs fun e => by rw [heq.2 e.2] at c7; cases c7)
     have hev := heq.1 c7
     refine ⟨oli2, hs.rd 2 rfl (i := 5) rfl, omv2, hs.rd 2 rfl (i := 4) rfl, ?_⟩
     refine hs.app 6 rfl app25 (m := 1) [To.cs ⟨(i : Nat), tmK m k, (omv2.n : Nat)⟩] rfl rfl (fun r hr => by rw [Ye] at hr; rw [hr]; rfl) rfl (by omega) (by simp only [maxLen]; omega) fun s110 h111 n110 hs => ?_
     refine hs.put 2 rfl (o := 5) (vs := [.slice s110.a s110.n s110.c]) rfl (show 6 <= 6 by decide) fun h112 hs => ?_
     refine ⟨s110, ?_⟩
     rw [if_pos ⟨by omega, hev⟩, <- homv] at hLI
     rw [<- hLI]
     unfold mgA
     rw [Ym (l₁ := li2)]
     exact hs
    ·
     rintro - h113 ⟨oli', hs⟩
     have hnc := hNQ3.2 cx hcxb
     rw [if_pos addQ_mem] at hnc
     refine ⟨⟨by omega, by omega⟩, ?_⟩
     rw [show 0 + Int.toNat (cx : Int) * 1 = cx by omega]
     refine ⟨_, hs.rd 7 rfl (by rw [Yd, hnc]; rfl), ?_⟩
     refine hs.put 0 rfl (o := 0) (vs := [.int .i64 (i : Nat)]) rfl (show 1 <= 6 by decide) fun h115 hs2 => ?_
     refine ⟨sm_cons (hs.same hs2 7 7 rfl rfl) sm_nil, ?_⟩
     refine hs2.put 0 rfl (o := 4) (vs := [.int .i64 (idxF (addQ Q2 cx) cx : Nat)]) rfl (show 5 <= 6 by decide) fun h116 hs => ?_
     refine ⟨omv2, hs.rd 2 rfl (i := 4) rfl, _, _, _, _, _, _, hs.at 0 rfl (n := 6) rfl, ?_⟩
     refine hs.app 5 rfl app31 (m := 1) [Mv.cs ⟨(i : Nat), x.send, x.peer, x.label, (idxF (addQ Q2 cx) cx : Nat), x.ag⟩] rfl rfl (fun r hr => by rw [Ye] at hr; rw [hr]; rfl) rfl (by omega) (by simp only [maxLen]; omega) fun s125 h126 n125 hs => ?_
     refine hs.put 2 rfl (o := 4) (vs := [.slice s125.a s125.n s125.c]) rfl (show 5 <= 6 by decide) fun h127 hs => ?_
     have hlm : (mv2 ++ [(⟨(i : Nat), x.send, x.peer, x.label, (idxF (addQ Q2 cx) cx : Nat), x.ag⟩ : Mv)]).length = mv2.length + 1 := by simp
     refine ⟨_, (show (S k).length - (j + 1) < (S k).length - j by omega), j + 1, s125, oli', addQ Q2 cx, NUM3, mv2 ++ [⟨(i : Nat), x.send, x.peer, x.label, (idxF (addQ Q2 cx) cx : Nat), x.ag⟩], LI, by rw [w64 (by omega) (by omega)]; omega, rfl, by omega, ?_, hQ.add hcxb, hNQ3, by omega, by omega, Yys hQ2 addQ_len, ?_⟩
     ·
      unfold mgA
      rw [Ym (l₁ := mv2)]
      exact hs.drop 1
     ·
      rw [foldl_snoc hrj, hfold]
      exact hmx
  ·
   have hjn : j = (rwS m k).length := by omega
   subst hjn
   rw [Yye] at hfold
   rw [hfold] at hmin
   exact ⟨_, (show cnt - (i + 1) < cnt - i by omega), i + 1, s45, omv2, oli2, Q2, NUM2, fin ++ [bf], mv2, li2, by rw [w64 (by omega) (by omega)]; omega, rfl, by omega, hs.drop 1, hQ, hNQ, by omega, by omega, by rw [Yh, hfinl]; rfl, hmin⟩
 ·
  have hiQ : i = Q.length := by omega
  rw [show 202 - i = (202 - (i + 1)) + 1 by omega, minN, Yl (by omega)] at hmin
  replace hmin : (⟨m.role, (Q.length : Nat), 0, fin, mv, li⟩ : Mch) = M0 := hmin
  refine hs.put 0 rfl (o := 1) (vs := [.int .i64 (q.n : Nat)]) rfl (show 2 <= 6 by decide) fun h130 hs => ?_
  refine ⟨_, _, _, ofn, omv, oli, hs.at 0 rfl (n := 6) rfl, ?_⟩
  refine hs.put 7 rfl (o := 0) (vs := [.int .i64 m.role, .int .i64 (q.n : Nat), .int .i64 0, .slice ofn.a ofn.n ofn.c, .slice omv.a omv.n omv.c, .slice oli.a oli.n oli.c]) rfl (show 6 <= 6 by decide) fun h137 hs => ?_
  refine ⟨_, _, _, ofn, omv, oli, hs.at 7 rfl (n := 6) rfl, ?_⟩
  refine ⟨ofn, omv, oli, ?_, ?_⟩
  ·
   rw [<- hmin, hqn]; rfl
  ·
   rw [<- hmin]
   exact hs.sub (.cons _ (.cons _ (.cons_cons _ (.cons_cons _ (.cons_cons _ (List.nil_sublist _))))))
end Go.VC
end

section
/- Contracts: Minimize and Canonical. (Numbers of layer 26's seat.) -/
namespace Go.VC
open Go.Proofs Go.LexS Go.Maps
def mZ : Mch := ⟨0, 0, 0, [], [], []⟩
open Classical in
noncomputable def minM (m : Mch) : Mch := if VM m then minF (srtM m) else mZ
open Classical in
noncomputable def erM (m : Mch) : Int := if VM m then 0 else 1
def FmV (M : Mch) (e : Int) (h : Heap) (v : Value) (h' : Heap) : Prop := ∃ sf sm sl : Sl, v = .tuple ⟨[.agg ⟨mC M sf sm sl⟩, .int .i64 e]⟩ /\ St h h' (mL M sf sm sl)
theorem erM_pos {m : Mch} (h : VM m) : erM m = 0 := if_pos h
theorem erM_neg {m : Mch} (h : ¬ VM m) : erM m = 1 := if_neg h
theorem minM_pos {m : Mch} (h : VM m) : minM m = minF (srtM m) := if_pos h
theorem minM_neg {m : Mch} (h : ¬ VM m) : minM m = mZ := if_neg h
theorem minimize37 (m : Mch) (sf sm sl : Sl) (h : Heap) (hM : MI h m sf sm sl) : Fn Pz 37 #[.agg ⟨mC m sf sm sl⟩] h fun v h' => FmV (minM m) (erM m) h v h' := by
 apply vc37 m.role m.n m.s sf sm sl; unfold W37
 refine (St.refl h).newb fun h7 hs => ?_
 refine hs.newb fun h8 hs => ?_
 refine ⟨_, _, _, sf, sm, sl, hs.at 1 rfl (o := 0) (n := 6) rfl, ?_⟩
 refine (open47 m sf sm sl h8 (hM.ext hs.ext)).mono ?_
 rintro _ h18 ⟨E, p, b, rfl, hb, hTb⟩
 have hs := hs.step E
 refine ⟨_, _, rfl, sB_intro (fun c => ?_) (fun c => ?_)⟩
 ·
  have hnV : ¬ VM m := iff_f hb (bF c)
  refine hs.put 0 rfl (o := 0) (vs := m0) rfl (show 6 <= 6 by decide) fun h19 hs => ?_
  refine ⟨_, _, _, ⟨none, 0, 0⟩, ⟨none, 0, 0⟩, ⟨none, 0, 0⟩, hs.at 0 rfl (o := 0) (n := 6) rfl, ⟨none, 0, 0⟩, ⟨none, 0, 0⟩, ⟨none, 0, 0⟩, ?_, ?_⟩
  ·
   rw [minM_neg hnV, erM_neg hnV]; rfl
  ·
   rw [minM_neg hnV]; exact (((hs.drop 2).nil_ 44 3).nil_ 81 6).nil_ 4 1
 ·
  have hV : VM m := hb.1 (bT c)
  obtain ⟨cb, S, rfl, hT⟩ := hTb (bT c)
  refine (classes75 m sf sm sl cb S h18 (hM.ext hs.ext) hV.w hT).mono ?_
  rintro _ h29 ⟨sc, rfl, hsc⟩
  have hs := hs.step hsc.ext
  refine ⟨sc, _, rfl, ?_⟩
  refine (merged74 m sf sm sl sc cb S _ _ h29 (hM.ext hs.ext) hV.w (hT.ext hsc.ext) (hsc.rows 0 (s := sc) (cs := inC) rfl (by omega)) (cls_ok (srtM_raw hV.w).ok)).mono ?_
  rintro _ h37 ⟨sf', sm', sl', rfl, h3⟩
  have hs := hs.join h3
  have hmin : minN (srtM m) (cls (srtM m)).1 202 0 [(cls (srtM m)).1.getD m.s.toNat 0] [] [] [] = minM m := (minM_pos hV).symm
  rw [hmin] at hs ⊢
  refine ⟨_, _, _, sf', sm', sl', rfl, ?_⟩
  refine hs.put 0 rfl (o := 0) (vs := mC (minM m) sf' sm' sl') rfl (show 6 <= 6 by decide) fun h38 hs => ?_
  refine ⟨_, _, _, sf', sm', sl', hs.at 0 rfl (o := 0) (n := 6) rfl, sf', sm', sl', ?_, hs.drop 2⟩
  rw [erM_pos hV]; rfl
end Go.VC
end

section
namespace Go.VC
open Go.Proofs

end Go.VC
end

section
/- Contracts: the reference's index and canonical machine. (Numbers of layer 26's seat.) -/
namespace Go.VC
open Go.Proofs Go.LexS Go.Maps
end Go.VC
end

section
/- Plain: the classes of the reference; a machine with the targets of its classes. No walk here. -/
namespace Go.VC
open Go.LexS
structure Pat (n : Nat) (D E : List Nat) : Prop where
 l : D.length = n
 r : E.length = n
 p : ∀ i j : Nat, i < n -> j < n -> (D[i]? = D[j]? ↔ E[i]? = E[j]?)
theorem Pat.symm {n : Nat} {D E : List Nat} (h : Pat n D E) : Pat n E D := ⟨h.r, h.l, fun i j hi hj => (h.p i j hi hj).symm⟩
theorem Pat.trans {n : Nat} {D E F : List Nat} (h : Pat n D E) (g : Pat n E F) : Pat n D F := ⟨h.l, g.r, fun i j hi hj => (h.p i j hi hj).trans (g.p i j hi hj)⟩
def NF (R : List Nat) : Prop := R = R.map (idxF R)
theorem idxF_le {K : Type} [DecidableEq K] : ∀ {L : List K} {i : Nat} {c : K}, L[i]? = some c -> idxF L c <= i
 | [], _, _, h => by simp at h
 | a :: L, 0, c, h => by
  rw [List.getElem?_cons_zero] at h
  rw [idxF, if_pos (Yyp h)]; exact Yyt _
 | a :: L, i + 1, c, h => by
  rw [List.getElem?_cons_succ] at h
  rw [idxF]
  split
  ·
   omega
  ·
   have := idxF_le h; omega
theorem idxF_map {K K' : Type} [DecidableEq K] [DecidableEq K'] {f : K -> K'} {a : K} : ∀ {l : List K}, (∀ x ∈ l, f x = f a -> x = a) -> idxF (l.map f) (f a) = idxF l a
 | [], _ => rfl
 | x :: r, h => by
  rw [Yyl, idxF, idxF]
  by_cases e : x = a
  ·
   rw [if_pos e, if_pos (by rw [e])]
  ·
   rw [if_neg e, if_neg (fun h2 => e (h x Yx h2)), idxF_map fun y hy => h y (Yn _ hy)]
theorem idx_pat {n : Nat} {D E : List Nat} (h : Pat n D E) {i a b : Nat} (ha : D[i]? = some a) (hb : E[i]? = some b) : idxF D a = idxF E b := by
 have hi : i < n := by have := (Ya.1 ha).1; rw [h.l] at this; exact this
 have h1 := idxF_get (Yb ha)
 have h2 := idxF_lt (Yb ha)
 rw [h.l] at h2
 have h3 := idxF_get (Yb hb)
 have h4 := idxF_lt (Yb hb)
 rw [h.r] at h4
 have e1 : D[idxF E b]? = some a := by rw [(h.p _ i h4 hi).2 (by rw [h3, hb])]; exact ha
 have e2 : E[idxF D a]? = some b := by rw [(h.p _ i h2 hi).1 (by rw [h1, ha])]; exact hb
 exact Nat.le_antisymm (idxF_le e1) (idxF_le e2)
theorem NF_pat {n : Nat} {R C : List Nat} (hR : NF R) (h : Pat n R C) : R = C.map (idxF C) := by
 apply Yyr
 intro i
 by_cases hi : i < n
 ·
  obtain ⟨a, ha⟩ := get_some (l := R) (i := i) (by rw [h.l]; exact hi)
  obtain ⟨c, hc⟩ := get_some (l := C) (i := i) (by rw [h.r]; exact hi)
  have e := congrArg (fun l => l[i]?) hR
  simp only [Yd, ha, Option.map_some, Option.some.injEq] at e
  rw [Yd, hc, ha, Option.map_some, <- idx_pat h ha hc]
  exact congrArg some e
 ·
  rw [Yl (by rw [h.l]; omega), Yl (by rw [Yc, h.r]; omega)]
theorem NF_eq {n : Nat} {R S : List Nat} (hR : NF R) (hS : NF S) (h : Pat n R S) : R = S := (NF_pat hR h).trans hS.symm
theorem NF_zero (n : Nat) : NF (List.replicate n 0) := by
 unfold NF
 rw [List.map_replicate]
 cases n with
 | zero => rfl
 | succ n =>
  congr 1
theorem clsT_len (m : Mch) (D : List Nat) : (clsT m D).length = m.n.toNat := by unfold clsT; rw [Yc, Yyd]
theorem clsT_get {m : Mch} {D : List Nat} {i : Nat} (hi : i < m.n.toNat) : (clsT m D)[i]? = some (keyT m D i) := by unfold clsT; rw [Yd, Yyb hi]; rfl
noncomputable def stepR (m : Mch) (D : List Nat) : List Nat := (clsT m D).map (idxF (clsT m D))
noncomputable def itR (m : Mch) : Nat -> List Nat
 | 0 => List.replicate m.n.toNat 0
 | k + 1 => stepR m (itR m k)
theorem stepR_len (m : Mch) (D : List Nat) : (stepR m D).length = m.n.toNat := by unfold stepR; rw [Yc, clsT_len]
theorem itR_len (m : Mch) : ∀ k, (itR m k).length = m.n.toNat
 | 0 => Yg
 | _ + 1 => stepR_len _ _
theorem stepR_get {m : Mch} {D : List Nat} {i : Nat} (hi : i < m.n.toNat) : (stepR m D)[i]? = some (idxF (clsT m D) (keyT m D i)) := by unfold stepR; rw [Yd, clsT_get hi]; rfl
theorem stepR_pat {m : Mch} {D : List Nat} {i j : Nat} (hi : i < m.n.toNat) (hj : j < m.n.toNat) : (stepR m D)[i]? = (stepR m D)[j]? ↔ keyT m D i = keyT m D j := by
 rw [stepR_get hi, stepR_get hj, Option.some.injEq]
 exact ⟨fun h => idxF_inj (Yb (clsT_get hi)) h, fun h => by rw [h]⟩
theorem NF_step (m : Mch) (D : List Nat) : NF (stepR m D) := by
 unfold NF
 apply Yyr
 intro i
 by_cases hi : i < m.n.toNat
 ·
  rw [Yd, stepR_get hi, Option.map_some]
  congr 1
  unfold stepR
  refine (idxF_map (f := idxF (clsT m D)) fun x hx h => ?_).symm
  exact idxF_inj hx h
 ·
  rw [Yl (by rw [stepR_len]; omega), Yl (by rw [Yc, stepR_len]; omega)]
theorem NF_it (m : Mch) : ∀ k, NF (itR m k)
 | 0 => NF_zero _
 | _ + 1 => NF_step _ _
theorem getD_pat {n : Nat} {D E : List Nat} (h : Pat n D E) {x y : Nat} (hx : x < n) (hy : y < n) : D.getD x 0 = D.getD y 0 ↔ E.getD x 0 = E.getD y 0 := by
 obtain ⟨a, ha⟩ := get_some (l := D) (i := x) (by rw [h.l]; exact hx)
 obtain ⟨b, hb⟩ := get_some (l := D) (i := y) (by rw [h.l]; exact hy)
 obtain ⟨c, hc⟩ := get_some (l := E) (i := x) (by rw [h.r]; exact hx)
 obtain ⟨d, hd⟩ := get_some (l := E) (i := y) (by rw [h.r]; exact hy)
 have := h.p x y hx hy
 rw [ha, hb, hc, hd, Option.some.injEq, Option.some.injEq] at this
 rw [getD_some ha, getD_some hb, getD_some hc, getD_some hd]; exact this
theorem sgM_pat {n : Nat} {D E : List Nat} (h : Pat n D E) {x y : Mv} (hx : x.t.toNat < n) (hy : y.t.toNat < n) (e : sgM D x = sgM D y) : sgM E x = sgM E y := by
 have e1 : x.ev = y.ev := congrArg Sg.x e
 have e2 : x.ag = y.ag := congrArg Sg.ag e
 have e3 : ((D.getD x.t.toNat 0 : Nat) : Int) = ((D.getD y.t.toNat 0 : Nat) : Int) := congrArg Sg.num e
 have e4 := (getD_pat h hx hy).1 (by omega)
 unfold sgM
 rw [e1, e2, e4]
theorem rows_pat {n : Nat} {D E : List Nat} (h : Pat n D E) : ∀ {a b : List Mv}, (∀ x ∈ a, x.t.toNat < n) -> (∀ x ∈ b, x.t.toNat < n) -> a.map (sgM D) = b.map (sgM D) -> a.map (sgM E) = b.map (sgM E)
 | [], [], _, _, _ => rfl
 | [], _ :: _, _, _, e => by cases e
 | _ :: _, [], _, _, e => by cases e
 | x :: a, y :: b, ha, hb, e => by
  rw [Yyl, Yyl, List.cons.injEq] at e
  rw [Yyl, Yyl, sgM_pat h (ha x Yx) (hb y Yx) e.1, rows_pat h (fun z hz => ha z (Yn _ hz)) (fun z hz => hb z (Yn _ hz)) e.2]
theorem rwS_t {m : Mch} (hN : NumM m) {s : Nat} {x : Mv} (h : x ∈ rwS m s) : x.t.toNat < m.n.toNat := by
 have := hN.mv x (rwS_mem.1 h).1
 have := hN.n
 omega
theorem keyT_cut {m : Mch} {D : List Nat} {x y : Nat} : keyT m D x = keyT m D y ↔ (rwS m x).map (sgM D) = (rwS m y).map (sgM D) /\ sgT m x = sgT m y /\ sgB D m.fin x = sgB D m.fin y := by
 unfold keyT
 constructor
 ·
  intro h
  obtain ⟨h1, h2⟩ := List.append_inj' h rfl
  have h1 := List.reverse_inj.1 h1
  simp only [List.cons.injEq, and_true] at h2
  exact ⟨h1, h2.1, h2.2⟩
 ·
  rintro ⟨h1, h2, h3⟩
  rw [h1, h2, h3]
theorem sgB_cut {D : List Nat} {fin : List Bool} {x y : Nat} : sgB D fin x = sgB D fin y ↔ D.getD x 0 = D.getD y 0 /\ fin.getD x false = fin.getD y false := by
 unfold sgB
 constructor
 ·
  intro e
  have e1 : ((D.getD x 0 : Nat) : Int) = ((D.getD y 0 : Nat) : Int) := congrArg Sg.b e
  exact ⟨by omega, congrArg Sg.ag e⟩
 ·
  rintro ⟨h1, h2⟩
  rw [h1, h2]
theorem keyT_pat {m : Mch} (hN : NumM m) {D E : List Nat} (h : Pat m.n.toNat D E) {x y : Nat} (hx : x < m.n.toNat) (hy : y < m.n.toNat) (e : keyT m D x = keyT m D y) : keyT m E x = keyT m E y := by
 rw [keyT_cut, sgB_cut] at e ⊢
 obtain ⟨h1, h2, h3, h4⟩ := e
 exact ⟨rows_pat h (fun z hz => rwS_t hN hz) (fun z hz => rwS_t hN hz) h1, h2, (getD_pat h hx hy).1 h3, h4⟩
theorem itC_pat {m : Mch} (hV : WM m) (D : List Nat) {i j : Nat} (hi : i < m.n.toNat) (hj : j < m.n.toNat) : (canonL (clsK (srtM m) D))[i]? = (canonL (clsK (srtM m) D))[j]? ↔ keyT m D i = keyT m D j := by
 rw [keyT_iff hV hi hj]
 exact canonL_eq (clsK_get (m := srtM m) hi) (clsK_get (m := srtM m) hj)
theorem pat_it {m : Mch} (hV : WM m) : ∀ k, Pat m.n.toNat (itR m k) (itC (srtM m) k)
 | 0 => ⟨itR_len m 0, itC_len (srtM m) 0, fun i j hi hj => by
  show (List.replicate m.n.toNat 0)[i]? = (List.replicate m.n.toNat 0)[j]? ↔ _
  exact Iff.rfl⟩
 | k + 1 => ⟨itR_len m (k + 1), itC_len (srtM m) (k + 1), fun i j hi hj => by
  have ih := pat_it hV k
  show (stepR m (itR m k))[i]? = (stepR m (itR m k))[j]? ↔ (canonL (clsK (srtM m) (itC (srtM m) k)))[i]? = (canonL (clsK (srtM m) (itC (srtM m) k)))[j]?
  rw [stepR_pat hi hj, itC_pat hV _ hi hj]
  exact ⟨keyT_pat hV.n ih hi hj, keyT_pat hV.n ih.symm hi hj⟩⟩
theorem itR_stay {m : Mch} {k : Nat} (h : itR m (k + 1) = itR m k) : ∀ d, itR m (k + d) = itR m k
 | 0 => rfl
 | d + 1 => by
  show stepR m (itR m (k + d)) = _
  rw [itR_stay h d]; exact h
theorem it_pat_eq {m : Mch} (hV : WM m) {k : Nat} (h : ∀ x y : Nat, x < m.n.toNat -> y < m.n.toNat -> ((itC (srtM m) (k + 1))[x]? = (itC (srtM m) (k + 1))[y]? ↔ (itC (srtM m) k)[x]? = (itC (srtM m) k)[y]?)) : itR m (k + 1) = itR m k := by
 refine NF_eq (n := m.n.toNat) (NF_it m (k + 1)) (NF_it m k) ((pat_it hV (k + 1)).trans (Pat.trans ⟨itC_len (srtM m) (k + 1), itC_len (srtM m) k, h⟩ (pat_it hV k).symm))
/-! ### the machine whose targets are the least ones of their classes -/
section
variable {m : Mch} {C : List Nat}
end
end Go.VC
end

section
/- Plain: the least machine and the canonical machine of a valid machine are valid. No program here. -/
namespace Go.VC
open Go.LexS
theorem list_get_range {α : Type} (d : α) (l : List α) : l = (List.range l.length).map fun i => l.getD i d := by
 refine Yyr fun i => ?_
 rw [Yd]
 by_cases h : i < l.length
 ·
  rw [Yyb h, Option.map_some, Yo, Yi h]; rfl
 ·
  rw [Yl (by omega), Yl (by rw [Yyd]; omega)]; rfl
theorem outIx_len (m : Mch) (s : Nat) : (outIx m (s : Int)).length = (outM m s).length := by
 unfold outIx outM
 rw [<- List.countP_eq_length_filter, <- List.countP_eq_length_filter]
 have e := congrArg (List.countP fun x : Mv => decide (x.f = (s : Int))) (list_get_range ⟨0, false, 0, 0, 0, false⟩ m.mv)
 rw [List.countP_map] at e
 rw [e]
 refine List.countP_congr fun i hi => ?_
 obtain ⟨x, hx⟩ := get_some (l := m.mv) (i := i) (List.mem_range.1 hi)
 unfold outP
 rw [hx]
 show _ ↔ decide ((m.mv.getD i _).f = (s : Int)) = true
 rw [getD_some hx]
theorem row_send {m : Mch} (hD : DetM m) {s : Nat} {x y : Mv} (hx : x ∈ rwS m s) (hy : y ∈ rwS m s) : x.send = y.send := by
 obtain ⟨hx, fx⟩ := rwS_mem.1 hx
 obtain ⟨hy, fy⟩ := rwS_mem.1 hy
 obtain ⟨i, hi⟩ := Yf.1 hx
 obtain ⟨j, hj⟩ := Yf.1 hy
 by_cases e : i = j
 ·
  subst e; rw [hi] at hj; cases hj; rfl
 ·
  exact (hD i j x y hi hj e (by rw [fx, fy])).2
theorem nx_hit (l : List Mv) (v : Int) (h1 : 1 <= v) (h2 : v < nxL l) : ∃ (i : Nat) (x : Mv), l[i]? = some x /\ x.t = v /\ nxL (l.take i) = v := by
 have key : ∀ n, n <= l.length -> v < nxL (l.take n) -> ∃ (i : Nat) (x : Mv), l[i]? = some x /\ x.t = v /\ nxL (l.take i) = v := by
  intro n
  induction n with
  | zero =>
   intro _ h
   rw [Yyk] at h
   have : nxL [] = 1 := rfl
   omega
  | succ n ih =>
   intro hn h
   obtain ⟨x, hx⟩ := get_some (l := l) (i := n) (by omega)
   rw [take_snoc hx, nxL_snoc] at h
   by_cases hlt : v < nxL (l.take n)
   ·
    exact ih (by omega) hlt
   ·
    split at h
    ·
     rename_i e
     exact ⟨n, x, hx, by omega, by omega⟩
    ·
     omega
 exact key l.length (Yyt _) (by rw [Yye]; exact h2)
theorem num_reach {M : Mch} (h1 : nxL M.mv = M.n) (h2 : ∀ (i : Nat) x, M.mv[i]? = some x -> x.t <= nxL (M.mv.take i) /\ x.f < nxL (M.mv.take i)) (h3 : M.s = 0) (h4 : ∀ x ∈ M.mv, 0 <= x.f) : RchM M := by
 have key : ∀ k : Nat, (k : Int) < M.n -> Qr (meds M) (-1) [M.s] (k : Int) := by
  intro k
  induction k using Nat.strongRecOn with
  | ind k ih =>
   intro hk
   by_cases h0 : k = 0
   ·
    subst h0
    exact .base (by rw [h3]; exact Ye.2 rfl)
   ·
    obtain ⟨i, x, hx, ht, hn⟩ := nx_hit M.mv k (by omega) (by omega)
    have hf := (h2 i x hx).2
    have hm := Yb hx
    have h0 := h4 x hm
    have hq := ih x.f.toNat (by omega) (by omega)
    exact .step hq (quietL_mem.1 (meds_q.2 ⟨x, hm, by omega, ht⟩))
 intro v h0 hv
 have := key v.toNat (by omega)
 rwa [show ((v.toNat : Nat) : Int) = v by omega] at this
structure KeepC (m : Mch) (C : List Nat) (cnt : Nat) : Prop where
 ok : CsOk (srtM m) C cnt
 ev : ∀ x y : Nat, x < m.n.toNat -> y < m.n.toNat -> C[x]? = C[y]? -> (rwS m x).map (fun z => (z.ev, z.ag)) = (rwS m y).map (fun z => (z.ev, z.ag))
section
variable {m : Mch} {C : List Nat} {cnt : Nat}
theorem KeepC.inr (hK : KeepC m C cnt) {a b : Nat} (ha : a < m.n.toNat) (hb : b < m.n.toNat) (h : C[a]? = C[b]?) {x : Mv} (hx : x ∈ rwS m a) : ∃ w ∈ rwS m b, w.ev = x.ev /\ w.ag = x.ag := by
 have h1 : (x.ev, x.ag) ∈ (rwS m a).map fun z => (z.ev, z.ag) := Yp.2 ⟨x, hx, rfl⟩
 rw [hK.ev a b ha hb h] at h1
 obtain ⟨w, hw, e⟩ := Yp.1 h1
 exact ⟨w, hw, congrArg Prod.fst e, congrArg Prod.snd e⟩
theorem rep_at (hK : CsOk (srtM m) C cnt) {Q : List Nat} (hQ : QOk Q cnt) {i : Nat} (hi : i < Q.length) : ∃ q, Q[i]? = some q /\ repQ C Q i < m.n.toNat /\ C[repQ C Q i]? = some q := by
 obtain ⟨q, hq⟩ := get_some (l := Q) (i := i) hi
 have hm := hK.cs q (hQ.lt q (Yb hq))
 have e : repQ C Q i = idxF C q := by unfold repQ; rw [getD_some hq]
 rw [e]
 have hl : C.length = m.n.toNat := hK.cl
 exact ⟨q, hq, by rw [<- hl]; exact idxF_lt hm, idxF_get hm⟩
theorem rep_inj (hK : CsOk (srtM m) C cnt) {Q : List Nat} (hQ : QOk Q cnt) {i j : Nat} (hi : i < Q.length) (hj : j < Q.length) (h : repQ C Q i = repQ C Q j) : i = j := by
 obtain ⟨q, hq, _, h1⟩ := rep_at hK hQ hi
 obtain ⟨p, hp, _, h2⟩ := rep_at hK hQ hj
 rw [h, h2] at h1
 cases h1
 exact (List.getElem?_inj hi hQ.nd).1 (by rw [hq, hp])
structure MinI (m : Mch) (C : List Nat) (cnt c0 : Nat) (M : Mch) (Q : List Nat) : Prop where
 n : M.n = (Q.length : Nat)
 s : M.s = 0
 i : CanI (srtM m) C cnt Q.length Q M.fin M.mv M.li
 q0 : Q[0]? = some c0
 nx : nxL M.mv = M.n
 na : ∀ (i : Nat) x, M.mv[i]? = some x -> x.t <= nxL (M.mv.take i) /\ x.f < nxL (M.mv.take i)
 ls : M.li.Pairwise fun a b => a.s < b.s
 ro : M.role = m.role
theorem minN_i (hW : WM m) (hK : CsOk (srtM m) C cnt) {c0 : Nat} (hc0 : C[m.s.toNat]? = some c0) : ∃ Q, MinI m C cnt c0 (minN (srtM m) C 202 0 [c0] [] [] []) Q := by
 have hR := srtM_raw hW
 have hn := hW.n.n
 have hs := hW.n.s
 have hc0m := Yb hc0
 have hcc : cnt <= m.n.toNat := hK.cc
 have h0 : CanI (srtM m) C cnt 0 [c0] [] [] [] := ⟨⟨by simp, fun c hc => by rw [Ye] at hc; rw [hc]; exact hK.cb c0 hc0m⟩, by simp, rfl, rfl, fun i hi => (by omega), fun t ht => (by cases ht), fun i hi => (by omega)⟩
 obtain ⟨Q, h1, h2, h3, E, h4⟩ := minN_can hR.ok hK.cl hK.cb 202 0 [c0] [] [] [] (by omega) h0
 obtain ⟨h5, h6, h7, h8⟩ := minN_num (C := C) hR.so 202 0 [c0] [] [] [] (by simp) ⟨fun i x hx => by simp at hx, rfl⟩ ⟨List.Pairwise.nil, fun t ht => by cases ht⟩
 exact ⟨Q, h1, h2, h3, by rw [h4]; rfl, h5, h6, h7, h8⟩
section
variable {c0 : Nat} {M : Mch} {Q : List Nat}
theorem MinI.out (I : MinI m C cnt c0 M Q) (hK : CsOk (srtM m) C cnt) {i : Nat} (hi : i < Q.length) : outM (srtM m) (repQ C Q i) = rwS m (repQ C Q i) := by
 obtain ⟨q, _, hl, _⟩ := rep_at hK I.i.pq hi
 exact outM_srt hl
theorem MinI.row (I : MinI m C cnt c0 M Q) (hK : CsOk (srtM m) C cnt) {i : Nat} (hi : i < Q.length) : outM M i = (rwS m (repQ C Q i)).map (mvQ C Q i) := by
 unfold outM
 rw [can_row I.i hi, I.out hK hi]
theorem MinI.mv (I : MinI m C cnt c0 M Q) (hK : CsOk (srtM m) C cnt) : M.mv = (List.range Q.length).flatMap fun i => (rwS m (repQ C Q i)).map (mvQ C Q i) := by
 rw [I.i.pm]
 exact flatMap_congr' fun i hi => by rw [I.out hK (List.mem_range.1 hi)]
theorem MinI.mem (I : MinI m C cnt c0 M Q) (hK : CsOk (srtM m) C cnt) : ∀ z ∈ M.mv, ∃ i x, i < Q.length /\ x ∈ rwS m (repQ C Q i) /\ z = mvQ C Q i x := fun z hz => by
 rw [I.mv hK, List.mem_flatMap] at hz
 obtain ⟨i, hi, hz⟩ := hz
 obtain ⟨x, hx, rfl⟩ := Yp.1 hz
 exact ⟨i, x, List.mem_range.1 hi, hx, rfl⟩
theorem MinI.tq (I : MinI m C cnt c0 M Q) (hK : CsOk (srtM m) C cnt) {i : Nat} {x : Mv} (hi : i < Q.length) (hx : x ∈ rwS m (repQ C Q i)) : C.getD x.t.toNat 0 ∈ Q := I.i.pt i hi x (by rw [I.out hK hi]; exact hx)
theorem MinI.so (I : MinI m C cnt c0 M Q) (hK : CsOk (srtM m) C cnt) (hD : DetM m) : M.mv.Pairwise mvLt := by
 rw [I.mv hK, List.pairwise_flatMap]
 refine ⟨fun i _ => ?_, ?_⟩
 ·
  rw [List.pairwise_map]
  exact (rwS_lt hD (repQ C Q i)).imp fun {a b} h => .inr ⟨rfl, h⟩
 ·
  refine List.Pairwise.imp ?_ (List.pairwise_lt_range (n := Q.length))
  intro i k hik x hx y hy
  obtain ⟨a, _, rfl⟩ := Yp.1 hx
  obtain ⟨b, _, rfl⟩ := Yp.1 hy
  exact .inl (by show ((i : Nat) : Int) < (k : Nat); omega)
theorem MinI.lim (I : MinI m C cnt c0 M Q) (hK : CsOk (srtM m) C cnt) (hW : WM m) {t : To} (ht : t ∈ M.li) : ∃ (i : Nat) (t1 : To) (x : Mv), i < Q.length /\ t.s = (i : Int) /\ limT m (repQ C Q i : Nat) = some t1 /\ t.k = t1.k /\ (1 <= t.k /\ t.k <= 1000) /\ 0 <= t.e /\ m.mv[t1.e.toNat]? = some x /\ x ∈ rwS m (repQ C Q i) /\ M.mv[t.e.toNat]? = some (mvQ C Q i x) /\ x.send = true /\ x.ag = false := by
 have hR := srtM_raw hW
 obtain ⟨i', x, hi', g1, g2, g3, g4, t0, y, g5, g6, g7, g8⟩ := I.i.p1 t ht
 rw [lim_srt hW.t] at g5
 cases hlt : limT m (repQ C Q i' : Nat) with
 | none => rw [hlt] at g5; cases g5
 | some t1 =>
  rw [hlt] at g5
  cases g5
  obtain ⟨a1, a2⟩ := limT_mem hlt
  obtain ⟨b1, y', b0, b2, b3, b4, _, _, b5⟩ := li_in hW a1
  have g6 : (srtV m)[(srtE m t1).e.toNat]? = some y := g6
  have e6 : y' = y := Yyp (b5.symm.trans g6)
  subst e6
  have hyo : y' ∈ outM (srtM m) (repQ C Q i') := by
   unfold outM
   exact List.mem_filter.2 ⟨Yb b5, by rw [b2, a2]; exact decide_eq_true rfl⟩
  have hxy := outM_inj hR.so g2 hyo g8
  subst hxy
  have hk : t.k = t1.k := g7
  exact ⟨i', t1, _, hi', g1, hlt, hk, by rw [hk]; exact b1, g3, b0, by rw [<- I.out hK hi']; exact g2, g4, b3, b4⟩
theorem MinI.lim2 (I : MinI m C cnt c0 M Q) (hK : CsOk (srtM m) C cnt) (hW : WM m) {i : Nat} (hi : i < Q.length) {t1 : To} (h : limT m (repQ C Q i : Nat) = some t1) : ∃ t ∈ M.li, t.s = (i : Int) := by
 obtain ⟨a1, a2⟩ := limT_mem h
 obtain ⟨_, y, _, b2, _, _, _, _, b5⟩ := li_in hW a1
 refine I.i.p2 i hi (srtE m t1) y (by rw [lim_srt hW.t, h]; rfl) b5 ⟨y, ?_, rfl⟩
 unfold outM
 exact List.mem_filter.2 ⟨Yb b5, by rw [b2, a2]; exact decide_eq_true rfl⟩
set_option maxHeartbeats 1000000 in
theorem MinI.vm (I : MinI m C cnt c0 M Q) (hV : VM m) (hK : KeepC m C cnt) (hc0 : C[m.s.toNat]? = some c0) : VM M := by
 have hW := hV.w
 have hn := hV.n.n
 have hs := hV.n.s
 have hcc : cnt <= m.n.toNat := hK.ok.cc
 have h1 := I.n
 have h2 := I.s
 have h8 := I.ro
 have hQ := I.i.pq
 have hQl := hQ.le
 have hQ1 : 1 <= Q.length := (Ya.1 I.q0).1
 have hmv := I.mv hK.ok
 have hmem := I.mem hK.ok
 have hso := I.so hK.ok hV.d
 have hlen : M.mv.length <= m.mv.length := by
  have e : M.mv.length = ((List.range Q.length).flatMap fun i => rwS m (repQ C Q i)).length := by
   rw [hmv, List.length_flatMap, List.length_flatMap]
   simp only [Yc]
  rw [e]
  refine List.Nodup.length_le_of_subset ?_ fun x hx => ?_
  ·
   rw [List.nodup_iff_pairwise_ne, List.pairwise_flatMap]
   refine ⟨fun i _ => (rwS_lt hV.d (repQ C Q i)).imp fun {a b} h (e : a = b) => evLt_irr b.ev (by rw [e] at h; exact h), ?_⟩
   refine List.Pairwise.imp_of_mem ?_ (List.pairwise_lt_range (n := Q.length))
   intro i k hi hk hik x hx y hy e
   have f1 := (rwS_mem.1 hx).2
   have f2 := (rwS_mem.1 hy).2
   have := rep_inj hK.ok hQ (List.mem_range.1 hi) (List.mem_range.1 hk) (by rw [e] at f1; omega)
   omega
  ·
   obtain ⟨i, _, hx⟩ := List.mem_flatMap.1 hx
   exact (rwS_mem.1 hx).1
 have hnum : NumM M := by
  refine ⟨by rw [h8]; exact hV.n.r, by omega, by omega, ?_, Yys hlen hV.n.ml, fun z hz => ?_⟩
  ·
   rw [I.i.pf, Yc, Yyd, h1]
  ·
   obtain ⟨i, x, hi, hx, rfl⟩ := hmem z hz
   have h9 := hV.n.mv x (rwS_mem.1 hx).1
   have h10 := idxF_lt (I.tq hK.ok hi hx)
   rw [h8]
   show 0 <= ((i : Nat) : Int) /\ ((i : Nat) : Int) < M.n /\ 0 <= ((idxF Q (C.getD x.t.toNat 0) : Nat) : Int) /\ ((idxF Q (C.getD x.t.toNat 0) : Nat) : Int) < M.n /\ 0 <= x.peer /\ x.peer < 6 /\ x.peer ≠ m.role /\ 0 <= x.label /\ x.label < 40
   omega
 have hlen1 : ∀ i, i < Q.length -> (outIx M (i : Int)).length = (outIx m (repQ C Q i : Int)).length := fun i hi => by
  rw [outIx_len, I.row hK.ok hi, Yc, rwS_len]
  exact (mvS_srt m _).1.length_eq
 refine ⟨hnum, ?_, num_reach I.nx I.na h2 fun x hx => (hnum.mv x hx).1, ⟨?_, ?_, ?_, ?_, ?_⟩, ?_⟩
 ·
  intro i k x y hx hy hne hf
  have hev : x.ev ≠ y.ev := fun e => by
   rcases Nat.lt_or_gt_of_ne hne with h | h
   ·
    rcases mvLt_get hso h hx hy with h | ⟨_, h⟩
    ·
     omega
    ·
     rw [e] at h; exact evLt_irr _ h
   ·
    rcases mvLt_get hso h hy hx with h | ⟨_, h⟩
    ·
     omega
    ·
     rw [e] at h; exact evLt_irr _ h
  refine ⟨hev, ?_⟩
  obtain ⟨i1, x1, hi1, hx1, rfl⟩ := hmem x (Yb hx)
  obtain ⟨i2, y1, hi2, hy1, rfl⟩ := hmem y (Yb hy)
  have : i1 = i2 := by
   have : ((i1 : Nat) : Int) = (i2 : Nat) := hf
   omega
  subst this
  show x1.send = y1.send
  exact row_send hV.d hx1 hy1
 ·
  intro z hz ha
  obtain ⟨i, x, hi, hx, rfl⟩ := hmem z hz
  exact hV.a.s x (rwS_mem.1 hx).1 ha
 ·
  intro z hz ha
  obtain ⟨i, x, hi, hx, rfl⟩ := hmem z hz
  have h9 := hV.a.o x (rwS_mem.1 hx).1 ha
  rw [(rwS_mem.1 hx).2] at h9
  show (outIx M ((i : Nat) : Int)).length = 1
  rw [hlen1 i hi]; exact h9
 ·
  intro z hz ha
  obtain ⟨i, x, hi, hx, rfl⟩ := hmem z hz
  rw [h2]
  intro e
  have e : ((i : Nat) : Int) = 0 := e
  have : i = 0 := by omega
  subst this
  obtain ⟨q, hq, hl, hC⟩ := rep_at hK.ok hQ hi
  rw [I.q0] at hq; cases hq
  obtain ⟨w, hw, _, hwa⟩ := hK.inr hl (by omega) (hC.trans hc0.symm) hx
  have hwf := rwS_mem.1 hw
  refine hV.a.i w hwf.1 (by rw [hwa]; exact ha) ?_
  rw [hwf.2]; omega
 ·
  intro z hz ha
  obtain ⟨i, x, hi, hx, rfl⟩ := hmem z hz
  have hxf := rwS_mem.1 hx
  have h9 := hV.a.f x hxf.1 ha
  rw [hxf.2, show ((repQ C Q i : Nat) : Int).toNat = repQ C Q i from rfl] at h9
  show M.fin[((i : Nat) : Int).toNat]? = some false
  rw [I.i.pf, show ((i : Nat) : Int).toNat = i from rfl, Yd, Yyb hi]
  show some (m.fin.getD (repQ C Q i) false) = some false
  rw [getD_some h9]
 ·
  intro z hz ha y' hy' ht
  obtain ⟨i, x, hi, hx, rfl⟩ := hmem z hz
  obtain ⟨k, y, hk, hy, rfl⟩ := hmem y' hy'
  have ht : ((idxF Q (C.getD y.t.toNat 0) : Nat) : Int) = (i : Nat) := ht
  have ht : idxF Q (C.getD y.t.toNat 0) = i := by omega
  have hyr := hV.n.mv y (rwS_mem.1 hy).1
  obtain ⟨cy, hcy⟩ := get_some (l := C) (i := y.t.toNat) (by have : C.length = m.n.toNat := hK.ok.cl; omega)
  have hin := I.tq hK.ok hk hy
  rw [getD_some hcy] at ht hin
  obtain ⟨q, hq, hl, hC⟩ := rep_at hK.ok hQ hi
  have hqc : some q = some cy := by rw [<- hq, <- ht]; exact idxF_get hin
  obtain ⟨w, hw, hwe, hwa⟩ := hK.inr hl (b := y.t.toNat) (by omega) (by rw [hC, hcy, hqc]) hx
  have hwf := rwS_mem.1 hw
  have h9 := hV.a.p w hwf.1 (by rw [hwa]; exact ha) y (rwS_mem.1 hy).1 (by rw [hwf.2]; omega)
  have hwl : w.label = x.label := congrArg Ev.label hwe
  exact ⟨h9.1, h9.2.trans hwl⟩
 ·
  intro i t hi
  obtain ⟨i', t1, x, _, g1, _, _, g4, g5, _, _, g6, g7, g8⟩ := I.lim hK.ok hW (Yb hi)
  exact ⟨fun z h0 hz => pair_get I.ls (by omega) hz hi, g4, g5, _, g6, g1.symm, g7, g8⟩
end
theorem minN_vm (hV : VM m) (hK : KeepC m C cnt) {c0 : Nat} (hc0 : C[m.s.toNat]? = some c0) : VM (minN (srtM m) C 202 0 [c0] [] [] []) := by
 obtain ⟨Q, I⟩ := minN_i hV.w hK.ok hc0
 exact I.vm hV hK hc0
end
theorem row_of_key {m : Mch} {D : List Nat} {x y : Nat} (h : (rwS m x).map (sgM D) = (rwS m y).map (sgM D)) : (rwS m x).map (fun z => (z.ev, z.ag)) = (rwS m y).map (fun z => (z.ev, z.ag)) := by
 have := congrArg (List.map fun s : Sg => (s.x, s.ag)) h
 rw [List.map_map, List.map_map] at this
 exact this
theorem keep_cls {m : Mch} (hV : WM m) : KeepC m (cls (srtM m)).1 (cls (srtM m)).2 := by
 have hO := (srtM_raw hV).ok
 refine ⟨cls_ok hO, fun x y hx hy h => ?_⟩
 obtain ⟨N, _, _, h3⟩ := cls_stable hO
 have hk := (keyS_parts (h3 x y hx hy h)).1
 rw [outM_srt hx, outM_srt hy] at hk
 exact row_of_key hk
theorem minF_vm {m : Mch} (hV : VM m) : VM (minF (srtM m)) := by
 have hK := keep_cls hV.w
 have hs := hV.n.s
 obtain ⟨c0, hc0⟩ := get_some (l := (cls (srtM m)).1) (i := m.s.toNat) (by have : (cls (srtM m)).1.length = m.n.toNat := hK.ok.cl; omega)
 have := minN_vm hV hK hc0
 unfold minF
 rw [show (srtM m).s = m.s from rfl, getD_some hc0]
 exact this
end Go.VC
end
