/- Texts of this claim, joined: PjV0, PjV, PjW0, PjW, PjX, PjVcH, PjY, PjZ, PjVcI, PjMa. -/
import Derived.Test.YtfdhgcladnbdeaaGreatDoorM04
import Derived.Test.YtfdhgcladnbdeaaGreatDoorM10
import Derived.Test.YtfdhgcladnbdeaaGreatDoorM02
import Derived.Test.YtfdhgcladnbdeaaGreatDoorProg
import Derived.KernelRfl
set_option linter.unusedVariables false
set_option linter.unusedSimpArgs false

section
/- The canonical minimal machine, on lists. No program here. -/
namespace Go.VC

def addQ (Q : List Nat) (c : Nat) : List Nat := if c ∈ Q then Q else Q ++ [c]
def minX (m : Mch) (C : List Nat) (hd : Nat) (tl : Option To) (st : List Nat × List Mv × List To) (x : Mv) : List Nat × List Mv × List To :=
  (addQ st.1 (C.getD x.t.toNat 0), st.2.1 ++ [⟨hd, x.send, x.peer, x.label, (idxF (addQ st.1 (C.getD x.t.toNat 0)) (C.getD x.t.toNat 0) : Nat), x.ag⟩],
    st.2.2 ++ (match tl with
      | none => []
      | some t => match m.mv[t.e.toNat]? with
        | some y => if x.ev = y.ev then [⟨hd, t.k, (st.2.1.length : Nat)⟩] else []
        | none => []))
def limM (li : List To) : List (Int × To) := li.foldl (fun l t => mset l t.s t) []
def outM (m : Mch) (s : Nat) : List Mv := m.mv.filter fun x => x.f = (s : Int)
def minN (m : Mch) (C : List Nat) : Nat → Nat → List Nat → List Bool → List Mv → List To → Mch
  | 0, _, Q, fin, mv, li => ⟨m.role, (Q.length : Nat), 0, fin, mv, li⟩
  | f + 1, hd, Q, fin, mv, li => match Q[hd]? with
    | none => ⟨m.role, (Q.length : Nat), 0, fin, mv, li⟩
    | some c => minN m C f (hd + 1) ((outM m (idxF C c)).foldl (minX m C hd (mget (limM m.li) (idxF C c : Nat))) (Q, mv, li)).1 (fin ++ [m.fin.getD (idxF C c) false])
        ((outM m (idxF C c)).foldl (minX m C hd (mget (limM m.li) (idxF C c : Nat))) (Q, mv, li)).2.1 ((outM m (idxF C c)).foldl (minX m C hd (mget (limM m.li) (idxF C c : Nat))) (Q, mv, li)).2.2
def minF (m : Mch) : Mch := minN m (cls m).1 202 0 [(cls m).1.getD m.s.toNat 0] [] [] []
/-- classes are as they should be -/
structure CsOk (m : Mch) (C : List Nat) (cnt : Nat) : Prop where
  cl : C.length = m.n.toNat
  cb : ∀ c ∈ C, c < cnt
  cc : cnt ≤ m.n.toNat
  cs : ∀ c, c < cnt → c ∈ C
theorem idxF_get {K : Type} [DecidableEq K] : ∀ {l : List K} {k : K}, k ∈ l → l[idxF l k]? = some k
  | [], _, h => by cases h
  | x :: r, k, h => by
    rw [idxF]
    split
    · rename_i e; rw [e]; rfl
    · rename_i e
      rw [List.getElem?_cons_succ]
      exact idxF_get (by rcases List.mem_cons.1 h with h | h; exact absurd h.symm e; exact h)
theorem canon_surj {K : Type} [DecidableEq K] (l : List K) : ∀ c, c < (dedF l).length → c ∈ canonL l := by
  intro c hc
  obtain ⟨k, hk⟩ := get_some (l := dedF l) (i := c) hc
  have hkm := List.mem_of_getElem? hk
  have hkl := (dedF_mem _ _).1 hkm
  refine List.mem_map.2 ⟨k, hkl, ?_⟩
  have h1 := idxF_get hkm
  have h2 := idxF_lt hkm
  exact (List.getElem?_inj h2 (dedF_nodup l)).1 (h1.trans hk.symm)
theorem cls_ok {m : Mch} (hO : MOk m) : CsOk m (cls m).1 (cls m).2 := by
  have hn := hO.n
  have key : ∀ (f : Nat) (C : List Nat) (c : Nat), C.length = m.n.toNat → 202 ≤ f + c → c ≤ m.n.toNat → (c = 0 ∨ (dedF C).length = c) → CsOk m (clsN m f C c).1 (clsN m f C c).2 := by
    intro f
    induction f with
    | zero => intro C c _ h _ _; omega
    | succ f ih =>
      intro C c hC hf hc hd
      have hge := clsK_ge hC
      have hle := dedF_len_le (clsK m C)
      rw [clsK_len] at hle
      rw [clsN]
      by_cases e : (dedF (clsK m C)).length = c
      · rw [if_pos e]
        exact ⟨by rw [canonL_len, clsK_len], fun x hx => by have := canonL_lt hx; omega, hc, fun x hx => canon_surj _ x (by omega)⟩
      · rw [if_neg e]
        exact ih _ _ (by rw [canonL_len, clsK_len]) (by omega) hle (.inr (dedF_canon _))
  exact key 202 _ 0 List.length_replicate (by omega) (by omega) (.inl rfl)
/-- the queue -/
structure QOk (Q : List Nat) (cnt : Nat) : Prop where
  nd : Q.Nodup
  lt : ∀ c ∈ Q, c < cnt
theorem QOk.le {Q : List Nat} {cnt : Nat} (h : QOk Q cnt) : Q.length ≤ cnt := by
  have := List.Nodup.length_le_of_subset h.nd (l₂ := List.range cnt) fun c hc => List.mem_range.2 (h.lt c hc)
  rwa [List.length_range] at this
theorem QOk.add {Q : List Nat} {cnt c : Nat} (h : QOk Q cnt) (hc : c < cnt) : QOk (addQ Q c) cnt := by
  unfold addQ
  split
  · exact h
  · rename_i hn
    refine ⟨?_, fun x hx => ?_⟩
    · rw [List.nodup_append]
      exact ⟨h.nd, by simp, fun a ha b hb => by rw [List.mem_singleton] at hb; subst hb; exact fun e => hn (e ▸ ha)⟩
    · rcases List.mem_append.1 hx with hx | hx
      · exact h.lt x hx
      · rw [List.mem_singleton] at hx; rw [hx]; exact hc
theorem addQ_mem {Q : List Nat} {c : Nat} : c ∈ addQ Q c := by unfold addQ; split; assumption; simp
theorem addQ_len {Q : List Nat} {c : Nat} : Q.length ≤ (addQ Q c).length := by unfold addQ; split; omega; simp
/-- the numbers of the classes: the places in the queue, or -1 -/
def NumQ (NUM : List Int) (Q : List Nat) (cnt : Nat) : Prop := NUM.length = cnt ∧ ∀ c, c < cnt → NUM[c]? = some (if c ∈ Q then (idxF Q c : Int) else -1)
theorem NumQ.add {NUM : List Int} {Q : List Nat} {cnt c : Nat} (h : NumQ NUM Q cnt) (hc : c < cnt) (hn : c ∉ Q) : NumQ (NUM.set c (Q.length : Nat)) (Q ++ [c]) cnt := by
  obtain ⟨h1, h2⟩ := h
  refine ⟨by rw [List.length_set, h1], fun x hx => ?_⟩
  by_cases e : x = c
  · subst e
    rw [List.getElem?_set_self (by omega), if_pos (by simp)]
    congr 2
    have : ∀ (l : List Nat), x ∉ l → idxF (l ++ [x]) x = l.length := by
      intro l hl
      induction l with
      | nil => rw [List.nil_append, idxF, if_pos rfl]; rfl
      | cons y r ih =>
        rw [List.mem_cons, not_or] at hl
        rw [List.cons_append, idxF, if_neg (fun e => hl.1 e.symm), ih hl.2, List.length_cons]
    exact (this Q hn).symm
  · rw [List.getElem?_set_ne (fun h => e h.symm), h2 x hx]
    by_cases hm : x ∈ Q
    · rw [if_pos hm, if_pos (List.mem_append.2 (.inl hm)), idxF_mem hm]
    · rw [if_neg hm, if_neg (fun hc => by rcases List.mem_append.1 hc with hc | hc; exact hm hc; exact e (List.mem_singleton.1 hc))]
theorem limM_nd (li : List To) : ((limM li).map Prod.fst).Nodup := by
  unfold limM
  suffices h : ∀ (l : List To) (a : List (Int × To)), (a.map Prod.fst).Nodup → ((l.foldl (fun l t => mset l t.s t) a).map Prod.fst).Nodup from h li [] List.nodup_nil
  intro l
  induction l with
  | nil => intro a h; exact h
  | cons x r ih => intro a h; rw [List.foldl_cons]; exact ih _ (mset_nodup _ _ _ h)
theorem mset_mem {α β : Type} [DecidableEq α] {a : α} {b : β} : ∀ {l : List (α × β)} {q : α × β}, q ∈ mset l a b → q ∈ l ∨ q = (a, b)
  | [], q, h => by rw [mset, List.mem_singleton] at h; exact .inr h
  | (x, y) :: r, q, h => by
    rw [mset] at h
    split at h
    · rename_i e
      rcases List.mem_cons.1 h with h | h
      · rw [h, e]; exact .inr rfl
      · exact .inl (List.mem_cons_of_mem _ h)
    · rcases List.mem_cons.1 h with h | h
      · rw [h]; exact .inl (List.mem_cons_self ..)
      · rcases mset_mem h with h | h
        · exact .inl (List.mem_cons_of_mem _ h)
        · exact .inr h
theorem limM_mem {li : List To} {q : Int × To} (h : q ∈ limM li) : q.2 ∈ li ∧ q.2.s = q.1 := by
  have key : ∀ n, ∀ q ∈ limM (li.take n), q.2 ∈ li ∧ q.2.s = q.1 := by
    intro n
    induction n with
    | zero => intro q hq; cases hq
    | succ n ih =>
      intro q hq
      by_cases hn : n < li.length
      · obtain ⟨t, ht⟩ := get_some (l := li) (i := n) hn
        have e : limM (li.take (n + 1)) = mset (limM (li.take n)) t.s t := by unfold limM; rw [take_snoc ht, List.foldl_append]; rfl
        rw [e] at hq
        rcases mset_mem hq with h | h
        · exact ih q h
        · rw [h]; exact ⟨List.mem_of_getElem? ht, rfl⟩
      · rw [List.take_of_length_le (by omega)] at hq
        refine ih q ?_
        rw [List.take_of_length_le (by omega)]; exact hq
  have := key li.length q
  rw [List.take_length] at this
  exact this h
theorem limM_snoc {li : List To} {j : Nat} {t : To} (h : li[j]? = some t) : limM (li.take (j + 1)) = mset (limM (li.take j)) t.s t := by unfold limM; rw [take_snoc h, List.foldl_append]; rfl
theorem outM_snoc {mv : List Mv} {j : Nat} {x : Mv} (h : mv[j]? = some x) (s : Nat) : (mv.take (j + 1)).filter (fun y => y.f = (s : Int)) = if x.f = (s : Int) then (mv.take j).filter (fun y => y.f = (s : Int)) ++ [x] else (mv.take j).filter (fun y => y.f = (s : Int)) := by
  rw [take_snoc h, List.filter_append]
  by_cases e : x.f = (s : Int)
  · rw [if_pos e, List.filter_cons_of_pos (by simpa using e)]; rfl
  · rw [if_neg e, List.filter_cons_of_neg (by simpa using e)]; simp
theorem minX_len (m : Mch) (C : List Nat) (hd : Nat) (tl : Option To) (st : List Nat × List Mv × List To) (x : Mv) : (minX m C hd tl st x).2.1.length = st.2.1.length + 1 ∧ (minX m C hd tl st x).2.2.length ≤ st.2.2.length + 1 := by
  unfold minX
  refine ⟨by simp, ?_⟩
  rw [List.length_append]
  split
  · simp
  · split
    · split <;> simp
    · simp
end Go.VC
end

section
/- Contract: minimal. -/
namespace Go.VC
open Go.Proofs Go.LexS
set_option maxRecDepth 100000

theorem St.nestLn {α : Type} {h0 h : Heap} {A B : List It} {Q : List (Sl × List α)} {e : TypeId} {n : Nat} {cs : α → List Value} (hs : St h0 h (A ++ Q.map (nest e n cs) ++ B)) {i : Nat} {q : Sl × List α} (hi : Q[i]? = some q) (hn : 0 < n) : Rw h n q.1 (q.2.map cs) := by
  have hil : i < (Q.map (nest e n cs)).length := by rw [List.length_map]; exact (List.getElem?_eq_some_iff.1 hi).1
  exact hs.rw (A.length + i) (rows := q.2.map cs) (by rw [get_mid hil, List.getElem?_map, hi]; rfl) hn
theorem made31 (n : Nat) : madeL Tryz.prog 31 n = (List.replicate n (⟨none, 0, 0⟩ : Sl)).map slV := by
  have e : zeroC Tryz.prog 31 = [.slice none 0 0] := by kernel_rfl
  unfold madeL
  rw [e, List.map_replicate]
  induction n with
  | zero => rfl
  | succ n ih => rw [List.replicate_succ, List.replicate_succ, List.flatten_cons, ih]; rfl
theorem list_set_self {α : Type} {L : List α} {k : Nat} {x : α} (h : L[k]? = some x) : L.set k x = L := by
  apply List.ext_getElem?
  intro m
  by_cases hm : k = m
  · subst hm; rw [List.getElem?_set_self (List.getElem?_eq_some_iff.1 h).1, h]
  · rw [List.getElem?_set_ne hm]
def toV (t : To) : Value := .agg ⟨t.cs⟩
def natI (L : List Nat) : List Int := L.map fun c : Nat => (c : Int)
theorem natI_snoc (L : List Nat) (c : Nat) : natI (L ++ [c]) = natI L ++ [(c : Int)] := by unfold natI; rw [List.map_append]; rfl
theorem natI_get {L : List Nat} {i : Nat} {d : Int} (h : (natI L)[i]? = some d) : ∃ c : Nat, L[i]? = some c ∧ d = c := by
  unfold natI at h
  rw [List.getElem?_map] at h
  obtain ⟨c, hc, rfl⟩ := Option.map_eq_some_iff.1 h
  exact ⟨c, hc, rfl⟩
def mnA (xb lb msb sb ob gb nmb : Nat) (m : Mch) (sf sm sl sc q ofn omv oli : Sl) (C Q : List Nat) (NUM : List Int) (fin : List Bool) (mv : List Mv) (li : List To) (SM : List Nat) (MS : List Sl) : List It :=
  [.blk xb [.int .i64 m.role, .int .i64 0, .int .i64 0, .slice ofn.a ofn.n ofn.c, .slice omv.a omv.n omv.c, .slice oli.a oli.n oli.c] 33, .sl q 3 1 ((natI Q).map inC), .blk nmb (NUM.map iv) 3, .mp lb ((limM m.li).map fun q => (iv q.1, toV q.2)), .sl ofn 4 1 (fin.map bC), .sl omv 45 6 (mv.map Mv.cs), .sl oli 63 3 (li.map To.cs),
    .blk msb (MS.map slV) 31, .blk sb (SM.map natV) 3, .sl sc 3 1 ((natI C).map inC), .blk ob m0 33, .blk gb (mC m sf sm sl) 33]
set_option maxHeartbeats 8000000 in
theorem minimal36 (m : Mch) (sf sm sl : Sl) (h : Heap) (hM : MI h m sf sm sl) (hO : MOk m) (hS : m.mv.Pairwise mvLt) :
    Fn Tryz.prog 36 #[.agg ⟨mC m sf sm sl⟩] h fun v h' => ∃ sf' sm' sl' : Sl, v = .agg ⟨mC (minF m) sf' sm' sl'⟩ ∧ St h h' (mL (minF m) sf' sm' sl') := by
  apply vc36 m.role m.n m.s sf sm sl; unfold W36
  have hs := St.refl h
  have hn := hO.n
  have hms := hO.s
  have hml := hO.ml
  have hll := hO.ll
  have hfl := hO.fl
  have hMl := hM.pl.ln
  have hMf := hM.pf.ln
  have hMm := hM.pm.ln
  have hCs := cls_ok hO
  have hmin : minF m = minN m (cls m).1 202 0 [(cls m).1.getD m.s.toNat 0] [] [] [] := rfl
  refine hs.newb fun h7 hs => ?_
  refine hs.newb fun h8 hs => ?_
  refine ⟨_, _, _, sf, sm, sl, hs.at 1 rfl (n := 6) rfl, ?_⟩
  refine (classes71 m sf sm sl h8 (hM.ext hs.ext) hO hS).mono ?_
  rintro _ h18 ⟨sc, rfl, hsc⟩
  have hs := (hs.join hsc).perm (List.perm_append_comm (l₁ := [_, _]) (l₂ := [_]))
  generalize hC : (cls m).1 = C at *
  generalize hcnt : (cls m).2 = cnt at *
  obtain ⟨hCl, hCb, hcc, hCsu⟩ := hCs
  refine ⟨sc, _, rfl, by omega, ?_⟩
  rw [made3n]
  refine hs.newb fun h19 hs => ?_
  refine ⟨_, hs.rd 3 rfl rfl, ?_⟩
  have hscn := (hs.rows 1 (s := sc) (cs := inC) rfl (by omega)).ln
  rw [List.length_map] at hscn
  rw [w64 (n := m.n - 1) (by omega) (by omega)]
  refine ⟨fun x h' μ => ∃ (i : Nat) (SM : List Nat), x = (i : Int) - 1 ∧ μ = i ∧ i ≤ m.n.toNat ∧ SM.length = cnt ∧ (∀ c, c < cnt → c ∈ C.drop i → SM[c]? = some (i + idxF (C.drop i) c)) ∧ St h h' [.blk h18.size (SM.map natV) 3, .sl sc 3 1 ((natI C).map inC), .blk h7.size m0 33, .blk h.size (mC m sf sm sl) 33],
    ⟨_, m.n.toNat, _, by omega, rfl, by omega, by rw [List.length_replicate]; omega, fun c _ hc => (by rw [List.drop_eq_nil_of_le (by omega)] at hc; cases hc), hs⟩, ?_⟩
  clear hs
  rintro - _ h25 i ⟨_, SM, rfl, rfl, hi, hSMl, hSM, hs⟩
  refine sBi (fun c1 => ?_) (fun c1 => ?_)
  · obtain ⟨i, rfl⟩ : ∃ i', i = i' + 1 := ⟨i - 1, by omega⟩
    rw [show (((i + 1 : Nat) : Int) - 1) = (i : Int) by omega]
    refine (hs.rows 1 (s := sc) (cs := inC) rfl (by omega)).nbI (by omega) (by omega) fun b26 o27 d26 g26 t26 => ?_
    rw [Int.toNat_natCast] at g26
    obtain ⟨c, gc, rfl⟩ := natI_get g26
    have hcb := hCb c (List.mem_of_getElem? gc)
    refine ⟨_, t26.hd, ⟨by omega, by omega⟩, ?_⟩
    rw [show 0 + Int.toNat (c : Int) * 1 = c by omega]
    refine hs.put 0 rfl (o := c) (vs := [natV i]) rfl (by rw [List.length_map, List.length_singleton]; omega) fun h29 hs => ?_
    rw [map_splice natV (by omega)] at hs
    refine ⟨_, by omega, i, _, by rw [w64 (by omega) (by omega)], rfl, by omega, by rw [List.length_set]; exact hSMl, fun c' hc' hm => ?_, hs⟩
    rw [drop_get gc] at hm ⊢
    rw [idxF]
    by_cases e : c = c'
    · subst e; rw [if_pos rfl, List.getElem?_set_self (by omega)]; rfl
    · rw [if_neg e, List.getElem?_set_ne e]
      rcases List.mem_cons.1 hm with hm | hm
      · exact absurd hm.symm e
      · rw [hSM c' hc' hm]; congr 1; omega
  have hi0 : i = 0 := by omega
  subst hi0
  have hSM' : ∀ c, c < cnt → SM[c]? = some (idxF C c) := fun c hc => by
    have := hSM c hc (by rw [List.drop_zero]; exact hCsu c hc)
    rwa [List.drop_zero, Nat.zero_add] at this
  clear hSM c1 hi
  refine ⟨_, hs.rd 3 rfl rfl, by omega, ?_⟩
  rw [made31]
  refine hs.newb fun h32 hs => ?_
  have hs := hs.nests (α := Mv) (e := 45) (k := 6) (cs := Mv.cs) (A := [_, _, _, _, _]) (B := []) m.n.toNat
  refine ⟨sm, hs.rd 4 rfl rfl, ?_⟩
  refine ⟨fun x h' μ => ∃ (j : Nat) (MS : List (Sl × List Mv)), x = (j : Int) ∧ μ = m.mv.length - j ∧ j ≤ m.mv.length ∧ MS.map Prod.snd = ((List.range m.n.toNat).map fun s : Nat => (m.mv.take j).filter (fun y => y.f = (s : Int))) ∧
    St h h' ([.blk h25.size ((MS.map Prod.fst).map slV) 31, .blk h18.size (SM.map natV) 3, .sl sc 3 1 ((natI C).map inC), .blk h7.size m0 33, .blk h.size (mC m sf sm sl) 33] ++ MS.map (nest 45 6 Mv.cs) ++ []),
    ⟨_, 0, List.replicate m.n.toNat ((⟨.none, 0, 0⟩, []) : Sl × List Mv), rfl, rfl, by omega, ?_, ?_⟩, ?_⟩
  rotate_left 2
  · clear hs
    rintro - _ h38 μ ⟨j, MS, rfl, rfl, hj, hMS, hs⟩
    have hMSl : MS.length = m.n.toNat := by have := congrArg List.length hMS; simpa using this
    refine sBi (fun c1 => ?_) (fun c1 => ?_)
    · refine (hM.pm.ext hs.ext).rw.nbI (by omega) (by omega) fun b39 o40 x g39 t39 => ?_
      replace g39 : m.mv[j]? = some x := g39
      obtain ⟨hx1, hx2, _, _, _, _⟩ := hO.mv x (List.mem_of_getElem? g39)
      obtain ⟨q, hq⟩ := get_some (l := MS) (i := x.f.toNat) (by omega)
      refine ⟨_, _, _, _, _, _, t39, ?_⟩
      refine hs.newput (vs := x.cs) rfl rfl fun h48 hs => ?_
      refine ⟨_, hs.rd 0 rfl rfl, _, hs.rd 0 rfl rfl, ⟨by omega, by omega⟩, ?_⟩
      rw [show 0 + Int.toNat x.f * 1 = x.f.toNat by omega]
      refine ⟨q.1, hs.rd 1 rfl (by rw [List.getElem?_map, List.getElem?_map, hq]; rfl), ?_⟩
      refine ⟨_, _, _, _, _, _, hs.at 0 rfl (n := 6) rfl, ?_⟩
      refine hs.newbE fun h58 E58 hs => ⟨E58.sm, ?_⟩
      have hs : St h h58 ((.blk h48.size x.cs 45 :: .blk h38.size x.cs 45 :: [.blk h25.size ((MS.map Prod.fst).map slV) 31, .blk h18.size (SM.map natV) 3, .sl sc 3 1 ((natI C).map inC), .blk h7.size m0 33, .blk h.size (mC m sf sm sl) 33]) ++ MS.map (nest 45 6 Mv.cs) ++ []) := hs
      have hqn := (hs.nestLn hq (by omega)).ln
      have hq2 : q.2 = (m.mv.take j).filter (fun y => y.f = ((x.f.toNat : Nat) : Int)) := by
        have := congrArg (·[x.f.toNat]?) hMS
        simp only [List.getElem?_map, hq, List.getElem?_range (show x.f.toNat < m.n.toNat by omega), Option.map_some, Option.some.injEq] at this
        exact this
      have hql : q.2.length ≤ 400 := by rw [hq2]; refine Nat.le_trans (List.length_filter_le _ _) ?_; rw [List.length_take]; omega
      refine hs.nestAt hq app31 x (hs.at 0 rfl (n := 6) rfl) rfl rfl (by omega) (by simp only [maxLen]; omega) fun r h60 hr hs3 => ?_
      refine ⟨sm_cons (hs.same hs3 1 1 rfl rfl) sm_nil, ⟨by omega, by omega⟩, ?_⟩
      refine hs3.put 2 rfl (o := x.f.toNat) (vs := [slV r]) rfl (by rw [List.length_map, List.length_map, List.length_singleton]; omega) fun h61 hs => ?_
      rw [map_splice slV (by rw [List.length_map]; omega)] at hs
      refine ⟨_, by omega, j + 1, MS.set x.f.toNat (r, q.2 ++ [x]), by rw [w64 (by omega) (by omega)]; omega, rfl, by omega, ?_, ?_⟩
      · apply List.ext_getElem?
        intro s
        rw [List.getElem?_map, List.getElem?_map]
        by_cases hsn : s < m.n.toNat
        · rw [List.getElem?_range hsn]
          have h1 := congrArg (·[s]?) hMS
          simp only [List.getElem?_map, List.getElem?_range hsn, Option.map_some] at h1
          by_cases e : x.f.toNat = s
          · subst e
            rw [List.getElem?_set_self (by omega), Option.map_some, Option.map_some, outM_snoc g39, if_pos (by omega), hq2]
          · rw [List.getElem?_set_ne e, h1, Option.map_some, outM_snoc g39, if_neg (by omega)]
        · rw [List.getElem?_eq_none (by rw [List.length_set]; omega), List.getElem?_eq_none (by rw [List.length_range]; omega)]; rfl
      · rw [List.map_set]
        exact hs.drop 2
    have hjn : j = m.mv.length := by omega
    subst hjn
    rw [List.take_length] at hMS
    rw [List.append_nil] at hs
    have hMSl : MS.length = m.n.toNat := by have := congrArg List.length hMS; simpa using this
    have hMSg : ∀ s : Nat, s < m.n.toNat → ∃ q : Sl, MS[s]? = some (q, outM m s) := fun s hsn => by
      obtain ⟨q, hq⟩ := get_some (l := MS) (i := s) (by omega)
      have := congrArg (·[s]?) hMS
      simp only [List.getElem?_map, hq, List.getElem?_range hsn, Option.map_some, Option.some.injEq] at this
      exact ⟨q.1, by rw [hq]; congr 1; exact Prod.ext rfl this⟩
    clear hMS
    refine hs.mmake 140 fun h65 E65 hs => ?_
    refine ⟨_, rfl, sl, hs.rd 5 rfl rfl, ?_⟩
    refine ⟨fun x h' μ => ∃ j : Nat, x = (j : Int) ∧ μ = m.li.length - j ∧ j ≤ m.li.length ∧ St h h' (.mp h38.size ((limM (m.li.take j)).map fun q => (iv q.1, toV q.2)) :: [.blk h25.size ((MS.map Prod.fst).map slV) 31, .blk h18.size (SM.map natV) 3, .sl sc 3 1 ((natI C).map inC), .blk h7.size m0 33, .blk h.size (mC m sf sm sl) 33] ++ MS.map (nest 45 6 Mv.cs)), ⟨_, 0, rfl, rfl, by omega, hs⟩, ?_⟩
    clear hs
    rintro - _ h71 μ ⟨j, rfl, rfl, hj, hs⟩
    refine sBi (fun c2 => ?_) (fun c2 => ?_)
    · refine (hM.pl.ext hs.ext).rw.nbI (by omega) (by omega) fun b72 o73 t g72 t72 => ?_
      replace g72 : m.li[j]? = some t := g72
      obtain ⟨ht1, ht2, ht3, ht4, ht5⟩ := hO.li t (List.mem_of_getElem? g72)
      refine ⟨_, _, _, t72, ?_⟩
      refine hs.newput (vs := t.cs) rfl rfl fun h78 hs => ?_
      refine ⟨_, hs.rd 0 rfl rfl, _, _, _, hs.at 0 rfl (n := 3) rfl, ?_⟩
      have hlr : ∀ q ∈ limM (m.li.take j), inR q.1 := fun q hq => by
        obtain ⟨h1, h2⟩ := limM_mem hq
        have := hO.li _ (List.mem_of_mem_take h1)
        rw [← h2]; exact inRn (by omega) (by omega)
      refine hs.mput (ck := iv) (cv := toV) M140 1 rfl hlr (limM_nd _) (a := t.s) (inRn (by omega) (by omega)) t fun h83 hs => ?_
      rw [← limM_snoc g72] at hs
      exact ⟨_, by omega, j + 1, by rw [w64 (by omega) (by omega)]; omega, rfl, by omega, hs.drop 1⟩
    have hjn : j = m.li.length := by omega
    subst hjn
    rw [List.take_length] at hs
    refine ⟨by omega, ?_⟩
    rw [← made3n, made3i]
    refine hs.newb fun h85 hs => ?_
    refine ⟨fun x h' μ => ∃ j : Nat, x = (j : Int) ∧ μ = cnt - j ∧ j ≤ cnt ∧ St h h' (.blk h71.size ((List.replicate j (-1) ++ List.replicate (cnt - j) 0).map iv) 3 :: .mp h38.size ((limM m.li).map fun q => (iv q.1, toV q.2)) :: [.blk h25.size ((MS.map Prod.fst).map slV) 31, .blk h18.size (SM.map natV) 3, .sl sc 3 1 ((natI C).map inC), .blk h7.size m0 33, .blk h.size (mC m sf sm sl) 33] ++ MS.map (nest 45 6 Mv.cs)), ⟨_, 0, rfl, rfl, by omega, hs⟩, ?_⟩
    clear hs
    rintro - _ h90 μ ⟨j, rfl, rfl, hj, hs⟩
    refine sBi (fun c3 => ?_) (fun c3 => ?_)
    · refine ⟨⟨by omega, by omega⟩, ?_⟩
      rw [show 0 + Int.toNat (j : Int) * 1 = j by omega]
      refine hs.put 0 rfl (o := j) (vs := [iv (-1)]) rfl (by rw [List.length_map, List.length_append, List.length_replicate, List.length_replicate, List.length_singleton]; omega) fun h91 hs => ?_
      rw [map_splice iv (by rw [List.length_append, List.length_replicate, List.length_replicate]; omega)] at hs
      have e : (List.replicate j (-1 : Int) ++ List.replicate (cnt - j) 0).set j (-1) = List.replicate (j + 1) (-1) ++ List.replicate (cnt - (j + 1)) 0 := by
        rw [List.set_append_right _ _ (by rw [List.length_replicate]; omega), List.length_replicate, Nat.sub_self, show cnt - j = (cnt - (j + 1)) + 1 by omega, List.replicate_succ, List.set_cons_zero, List.replicate_succ' (n := j), List.append_assoc]; rfl
      rw [e] at hs
      exact ⟨_, by omega, j + 1, by rw [w64 (by omega) (by omega)]; omega, rfl, by omega, hs⟩
    have hjn : j = cnt := by omega
    subst hjn
    rw [Nat.sub_self, List.replicate_zero, List.append_nil] at hs
    obtain ⟨c0, hc0⟩ := get_some (l := C) (i := m.s.toNat) (by omega)
    have hc0b := hCb c0 (List.mem_of_getElem? hc0)
    rw [getD_some hc0] at hmin
    refine ⟨_, hs.rd 6 rfl rfl, ?_⟩
    refine (hs.rows 4 (s := sc) (cs := inC) rfl (by omega)).nbI (by omega) (by omega) fun b94 o95 d94 g94 t94 => ?_
    obtain ⟨c0', gc0, rfl⟩ := natI_get g94
    rw [hc0] at gc0; cases gc0
    refine ⟨_, t94.hd, ?_⟩
    refine hs.newb fun h97 hs => ?_
    refine ⟨⟨by omega, by omega⟩, _, hs.rd 0 rfl rfl, ⟨by omega, by omega⟩, ?_⟩
    rw [show 0 + Int.toNat (c0 : Int) * 1 = c0 by omega]
    refine hs.put 1 rfl (o := c0) (vs := [iv 0]) rfl (by rw [List.length_map, List.length_replicate, List.length_singleton]; omega) fun h99 hs => ?_
    rw [map_splice iv (by rw [List.length_replicate]; omega)] at hs
    have hs := hs.blkS 1 1 ((natI [c0]).map inC) rfl (inrows _) rfl (by decide)
    refine ⟨_, hs.rd 7 rfl rfl, ?_⟩
    refine hs.newput (vs := [.int .i64 m.role, .int .i64 0, .int .i64 0, .slice none 0 0, .slice none 0 0, .slice none 0 0]) rfl rfl fun h102 hs => ?_
    have hs : St h h102 (mnA h99.size h38.size h25.size h18.size h7.size h.size h71.size m sf sm sl sc ⟨some ⟨h90.size, 0, none⟩, 1, 1⟩ ⟨none, 0, 0⟩ ⟨none, 0, 0⟩ ⟨none, 0, 0⟩ C [c0] ((List.replicate j (-1 : Int)).set c0 0) [] [] [] SM (MS.map Prod.fst) ++ MS.map (nest 45 6 Mv.cs)) :=
      (((hs.nil_ 63 3).nil_ 45 6).nil_ 4 1).perm (List.Perm.append_right _ (List.perm_append_comm (l₁ := [_, _, _]) (l₂ := [_, _, _, _])))
    have hq0 : QOk [c0] j := ⟨by simp, fun c hc => by rw [List.mem_singleton] at hc; omega⟩
    have hnq0 : NumQ ((List.replicate j (-1 : Int)).set c0 0) [c0] j := by
      refine ⟨by rw [List.length_set, List.length_replicate], fun c hc => ?_⟩
      by_cases e : c = c0
      · subst e
        rw [List.getElem?_set_self (by rw [List.length_replicate]; exact hc), if_pos (by simp), idxF, if_pos rfl]; rfl
      · rw [List.getElem?_set_ne (fun h => e h.symm), if_neg (by simpa using e), List.getElem?_replicate, if_pos hc]
    generalize j = cnt at *
    refine ⟨fun q x h' μ => ∃ (i : Nat) (ofn omv oli : Sl) (Q : List Nat) (NUM : List Int) (fin : List Bool) (mv : List Mv) (li : List To), x = (i : Int) ∧ μ = cnt - i ∧ i ≤ Q.length ∧
      St h h' (mnA h99.size h38.size h25.size h18.size h7.size h.size h71.size m sf sm sl sc q ofn omv oli C Q NUM fin mv li SM (MS.map Prod.fst) ++ MS.map (nest 45 6 Mv.cs)) ∧ QOk Q cnt ∧ NumQ NUM Q cnt ∧ mv.length ≤ i * 400 ∧ li.length ≤ i * 400 ∧ fin.length = i ∧ minF m = minN m C (202 - i) i Q fin mv li,
      ⟨_, 0, _, _, _, _, _, _, _, _, rfl, rfl, by omega, hs, hq0, hnq0, by decide, by decide, rfl, hmin⟩, ?_⟩
    clear hs hq0 hnq0 hmin
    rintro - q _ h108 μ ⟨i, ofn, omv, oli, Q, NUM, fin, mv, li, rfl, rfl, hi, hs, hQ, hNQ, hmvl, hlil, hfinl, hmin⟩
    have hQl := hQ.le
    have hqn := (hs.rows 1 (s := q) (cs := inC) rfl (by omega)).ln
    rw [show (natI Q).length = Q.length from List.length_map _] at hqn
    refine sBi (fun c4 => ?_) (fun c4 => ?_)
    · have hiQ : i < Q.length := by omega
      obtain ⟨c, hc⟩ := get_some (l := Q) (i := i) hiQ
      have hcb := hQ.lt c (List.mem_of_getElem? hc)
      have hcm := hCsu c hcb
      have hsl : idxF C c < m.n.toNat := by have := idxF_lt hcm; omega
      generalize hsr : idxF C c = s at *
      obtain ⟨bf, hbf⟩ := get_some (l := m.fin) (i := s) (by omega)
      obtain ⟨ms, hms2⟩ := hMSg s hsl
      rw [show 202 - i = (202 - (i + 1)) + 1 by omega, minN, hc] at hmin
      replace hmin : minF m = minN m C (202 - (i + 1)) (i + 1) ((outM m (idxF C c)).foldl (minX m C i (mget (limM m.li) (idxF C c : Nat))) (Q, mv, li)).1 (fin ++ [m.fin.getD (idxF C c) false])
        ((outM m (idxF C c)).foldl (minX m C i (mget (limM m.li) (idxF C c : Nat))) (Q, mv, li)).2.1 ((outM m (idxF C c)).foldl (minX m C i (mget (limM m.li) (idxF C c : Nat))) (Q, mv, li)).2.2 := hmin
      rw [hsr, getD_some hbf] at hmin
      have hout : (outM m s).length ≤ 400 := Nat.le_trans (List.length_filter_le _ _) hml
      have houts : (outM m s).Pairwise mvLt := hS.filter _
      have houtm : ∀ x ∈ outM m s, x ∈ m.mv := fun x hx => (List.mem_filter.1 hx).1
      generalize outM m s = OM at *
      refine (hs.rows 1 (s := q) (cs := inC) rfl (by omega)).nbI (by omega) (by omega) fun b109 o110 d109 g109 t109 => ?_
      rw [Int.toNat_natCast] at g109
      obtain ⟨c', gc', rfl⟩ := natI_get g109
      rw [hc] at gc'; cases gc'
      refine ⟨_, t109.hd, ⟨by omega, by omega⟩, ?_⟩
      rw [show 0 + Int.toNat (c : Int) * 1 = c by omega]
      refine ⟨_, hs.rd 8 rfl (by rw [List.getElem?_map, hSM' c hcb, hsr]; rfl), ofn, hs.rd 0 rfl rfl, sf, hs.rd 11 rfl rfl, ?_⟩
      have hofn := (hs.rows 4 (s := ofn) (cs := bC) rfl (by omega)).ln
      refine (hM.pf.ext hs.ext).rw.nbI (by omega) (by omega) fun b115 o116 bf' g115 t115 => ?_
      rw [Int.toNat_natCast, hbf] at g115
      cases g115
      refine ⟨_, t115.hd, ?_⟩
      refine hs.newbE fun h118 E118 hs => ⟨E118.sm, ?_⟩
      refine hs.appended 5 (rows := fin.map bC) rfl app30 (m := 1) (news := [bC bf]) (hs.at 0 rfl (n := 1) rfl) rfl (fun r hr => by rw [List.mem_singleton] at hr; rw [hr]; rfl) rfl (by omega) (by simp only [maxLen]; omega) fun s119 h120 n119 hs => ?_
      refine hs.put 1 rfl (o := 3) (vs := [.slice s119.a s119.n s119.c]) rfl (show 4 ≤ 6 by decide) fun h121 hs => ?_
      have hs : St h h121 (mnA h99.size h38.size h25.size h18.size h7.size h.size h71.size m sf sm sl sc q s119 omv oli C Q NUM (fin ++ [bf]) mv li SM (MS.map Prod.fst) ++ MS.map (nest 45 6 Mv.cs)) := by
        unfold mnA
        rw [List.map_append (l₁ := fin)]
        exact hs.drop 1
      refine ⟨⟨by omega, by omega⟩, ?_⟩
      rw [show 0 + Int.toNat (s : Int) * 1 = s by omega]
      refine ⟨ms, hs.rd 7 rfl (by rw [List.getElem?_map, List.getElem?_map, hms2]; rfl), ?_⟩
      have hk72 : (mnA h99.size h38.size h25.size h18.size h7.size h.size h71.size m sf sm sl sc q s119 omv oli C Q NUM (fin ++ [bf]) mv li SM (MS.map Prod.fst) ++ MS.map (nest 45 6 Mv.cs))[12 + s]? = some (.sl ms 45 6 (OM.map Mv.cs)) := by
        rw [List.getElem?_append_right (by show 12 ≤ 12 + s; omega)]
        show (MS.map (nest 45 6 Mv.cs))[12 + s - 12]? = _
        rw [show 12 + s - 12 = s by omega, List.getElem?_map, hms2]; rfl
      refine (sort72 hs (12 + s) hk72 (by omega)).mono ?_
      rintro _ h124 ⟨rfl, l', hp, hso, hs⟩
      have hle := (mvSorted_same hp houts hso).symm
      subst hle
      rw [list_set_self hk72] at hs
      refine ⟨rfl, ?_⟩
      have hlr : ∀ q ∈ limM m.li, inR q.1 := fun q hq => by
        obtain ⟨h1, h2⟩ := limM_mem hq
        have := hO.li _ h1
        rw [← h2]; exact inRn (by omega) (by omega)
      refine hs.mlookOk (ck := iv) (cv := toV) M140 3 rfl hlr (limM_nd _) (a := (s : Int)) (inRn (by omega) (by omega)) ?_
      generalize htl : mget (limM m.li) (s : Int) = tl at *
      have htlm : ∀ t, tl = some t → t ∈ m.li := fun t ht => by subst ht; exact (limM_mem (mget_mem htl)).1
      have htup : tl.elim (.agg ⟨[.int .i64 0, .int .i64 0, .int .i64 0]⟩) toV = .agg ⟨(tl.getD ⟨0, 0, 0⟩).cs⟩ := by cases tl <;> rfl
      rw [htup]
      refine ⟨_, _, _, _, rfl, ?_⟩
      generalize htt : tl.getD ⟨0, 0, 0⟩ = tt at *
      refine hs.newput (vs := tt.cs) rfl rfl fun h132 hs => ?_
      refine ⟨⟨by omega, by omega⟩, ?_⟩
      refine ⟨ms, hs.rd 8 rfl (by rw [List.getElem?_map, List.getElem?_map, hms2]; rfl), ?_⟩
      refine ⟨fun q x h' μ => ∃ (j : Nat) (omv oli : Sl) (Q2 : List Nat) (NUM2 : List Int) (mv2 : List Mv) (li2 : List To), x = (j : Int) ∧ μ = OM.length - j ∧ j ≤ OM.length ∧
        St h h' (.blk h124.size tt.cs 63 :: (mnA h99.size h38.size h25.size h18.size h7.size h.size h71.size m sf sm sl sc q s119 omv oli C Q2 NUM2 (fin ++ [bf]) mv2 li2 SM (MS.map Prod.fst) ++ MS.map (nest 45 6 Mv.cs))) ∧ QOk Q2 cnt ∧ NumQ NUM2 Q2 cnt ∧ mv2.length ≤ mv.length + j ∧ li2.length ≤ li.length + j ∧ Q.length ≤ Q2.length ∧ (OM.take j).foldl (minX m C i tl) (Q, mv, li) = (Q2, mv2, li2),
        ⟨_, 0, omv, oli, Q, NUM, mv, li, rfl, rfl, by omega, hs, hQ, hNQ, by omega, by omega, by omega, rfl⟩, ?_⟩
      clear hs hQ hNQ hqn hofn hQl c4
      rintro - q2 _ h139 μ ⟨j, omv2, oli2, Q2, NUM2, mv2, li2, rfl, rfl, hj, hs, hQ, hNQ, hmv2, hli2, hQ2, hfold⟩
      have hs' : St h h139 ((.blk h124.size tt.cs 63 :: mnA h99.size h38.size h25.size h18.size h7.size h.size h71.size m sf sm sl sc q2 s119 omv2 oli2 C Q2 NUM2 (fin ++ [bf]) mv2 li2 SM (MS.map Prod.fst)) ++ MS.map (nest 45 6 Mv.cs) ++ []) := by rw [List.append_nil]; exact hs
      have hnl : Rw h139 6 ms (OM.map Mv.cs) := hs'.nestLn hms2 (by omega)
      clear hs'
      have hmsn := hnl.ln
      have hqn2 := (hs.rows 2 (s := q2) (cs := inC) rfl (by omega)).ln
      rw [show (natI Q2).length = Q2.length from List.length_map _] at hqn2
      have hQ2l := hQ.le
      refine sBi (fun c5 => ?_) (fun c5 => ?_)
      · refine hnl.nbI (by omega) (by omega) fun b140 o141 x g140 t140 => ?_
        replace g140 : OM[j]? = some x := g140
        have hxm := houtm x (List.mem_of_getElem? g140)
        obtain ⟨hx1, hx2, hx3, hx4, _, _⟩ := hO.mv x hxm
        have hmpos : 0 < m.mv.length := List.length_pos_of_mem hxm
        refine ⟨_, _, _, _, _, _, t140, ?_⟩
        refine hs.newput (vs := x.cs) rfl rfl fun h149 hs => ?_
        refine ⟨_, hs.rd 0 rfl rfl, ?_⟩
        refine (hs.rows 11 (s := sc) (cs := inC) rfl (by omega)).nbI (by omega) (by omega) fun b151 o152 d151 g151 t151 => ?_
        obtain ⟨cx, gcx, rfl⟩ := natI_get g151
        have hcxb := hCb cx (List.mem_of_getElem? gcx)
        have hcxg : C.getD x.t.toNat 0 = cx := getD_some gcx
        refine ⟨_, t151.hd, ?_⟩
        refine ⟨fun q' h' => ∃ NUM3, St h h' (.blk h139.size x.cs 45 :: .blk h124.size tt.cs 63 :: (mnA h99.size h38.size h25.size h18.size h7.size h.size h71.size m sf sm sl sc q' s119 omv2 oli2 C (addQ Q2 cx) NUM3 (fin ++ [bf]) mv2 li2 SM (MS.map Prod.fst) ++ MS.map (nest 45 6 Mv.cs))) ∧ NumQ NUM3 (addQ Q2 cx) cnt, ?_, ?_⟩
        · have hnc := hNQ.2 cx hcxb
          refine ⟨⟨by omega, by omega⟩, ?_⟩
          rw [show 0 + Int.toNat (cx : Int) * 1 = cx by omega]
          refine ⟨_, hs.rd 4 rfl (by rw [List.getElem?_map, hnc]; rfl), ?_⟩
          by_cases hm : cx ∈ Q2
          · rw [if_pos hm]
            refine sB_f (decide_eq_false (by omega)) ?_
            have ea : addQ Q2 cx = Q2 := by unfold addQ; rw [if_pos hm]
            rw [ea]
            exact ⟨NUM2, hs, hNQ⟩
          · rw [if_neg hm]
            refine sB_t (decide_eq_true (by decide)) ?_
            have ea : addQ Q2 cx = Q2 ++ [cx] := by unfold addQ; rw [if_neg hm]
            refine ⟨⟨by omega, by omega⟩, ?_⟩
            refine hs.put 4 rfl (o := cx) (vs := [iv (q2.n : Nat)]) rfl (by rw [List.length_map, List.length_singleton, hNQ.1]; omega) fun h156 hs => ?_
            rw [map_splice iv (by rw [hNQ.1]; omega), hqn2] at hs
            refine hs.app 3 rfl app42 (m := 1) [[.int .i64 cx]] rfl rfl (by simp) rfl (by omega) (by simp only [maxLen]; omega) fun s158 h159 n158 hs => ?_
            rw [ea]
            refine ⟨_, ?_, hNQ.add hcxb hm⟩
            unfold mnA
            rw [natI_snoc, List.map_append (l₁ := natI Q2)]
            exact hs
        · rintro - q3 h161 ⟨NUM3, hs, hNQ3⟩
          refine ⟨sm, hs.rd 13 rfl rfl, _, hs.rd 1 rfl rfl, ?_⟩
          have hye : 0 ≤ imax tt.e 0 ∧ imax tt.e 0 < m.mv.length ∧ ∀ t, tl = some t → imax tt.e 0 = t.e := by
            rw [imax_max]
            cases tl with
            | none => subst htt; exact ⟨by show (0 : Int) ≤ max 0 0; omega, by show max (0 : Int) 0 < _; omega, fun t ht => by cases ht⟩
            | some t =>
              subst htt
              obtain ⟨_, _, h3, h4, _⟩ := hO.li t (htlm t rfl)
              exact ⟨by show (0 : Int) ≤ max t.e 0; omega, by show max t.e 0 < _; omega, fun t' ht => by cases ht; show max t.e 0 = t.e; omega⟩
          refine (hM.pm.ext hs.ext).rw.nbI hye.1 (by omega) fun b164 o165 y g164 t164 => ?_
          have hyt : ∀ t, tl = some t → m.mv[t.e.toNat]? = some y := fun t ht => by rw [← hye.2.2 t ht]; exact g164
          refine ⟨_, _, _, _, _, _, t164, ?_⟩
          refine hs.newput (vs := y.cs) rfl rfl fun h173 hs => ?_
          have homv := (hs.rows 8 (s := omv2) (cs := Mv.cs) rfl (by omega)).ln
          have holi := (hs.rows 9 (s := oli2) (cs := To.cs) rfl (by omega)).ln
          have hno : (tl = none ∨ x.ev ≠ y.ev) → (minX m C i tl (Q2, mv2, li2) x).2.2 = li2 := by
            intro h
            unfold minX
            cases tl with
            | none => exact List.append_nil _
            | some t =>
              show li2 ++ (match m.mv[t.e.toNat]? with | some y => if x.ev = y.ev then [⟨(i : Nat), t.k, (mv2.length : Nat)⟩] else [] | none => []) = li2
              rw [hyt t rfl]
              rcases h with h | h
              · cases h
              · show li2 ++ (if x.ev = y.ev then _ else _) = li2
                rw [if_neg h, List.append_nil]
          have hyes : ∀ t, tl = some t → x.ev = y.ev → (minX m C i tl (Q2, mv2, li2) x).2.2 = li2 ++ [⟨(i : Nat), t.k, (mv2.length : Nat)⟩] := by
            intro t ht h
            unfold minX
            subst ht
            show li2 ++ (match m.mv[t.e.toNat]? with | some y => if x.ev = y.ev then [⟨(i : Nat), t.k, (mv2.length : Nat)⟩] else [] | none => []) = _
            rw [hyt t rfl]
            show li2 ++ (if x.ev = y.ev then _ else _) = _
            rw [if_pos h]
          have hminl := minX_len m C i tl (Q2, mv2, li2) x
          have hminq : (minX m C i tl (Q2, mv2, li2) x).1 = addQ Q2 cx := by unfold minX; rw [hcxg]
          have hminm : (minX m C i tl (Q2, mv2, li2) x).2.1 = mv2 ++ [⟨(i : Nat), x.send, x.peer, x.label, (idxF (addQ Q2 cx) cx : Nat), x.ag⟩] := by unfold minX; rw [hcxg]
          generalize hLI : (minX m C i tl (Q2, mv2, li2) x).2.2 = LI at *
          refine ⟨fun h' => ∃ oli', St h h' (.blk h161.size y.cs 45 :: .blk h139.size x.cs 45 :: .blk h124.size tt.cs 63 :: (mnA h99.size h38.size h25.size h18.size h7.size h.size h71.size m sf sm sl sc q3 s119 omv2 oli' C (addQ Q2 cx) NUM3 (fin ++ [bf]) mv2 LI SM (MS.map Prod.fst) ++ MS.map (nest 45 6 Mv.cs))), ?_, ?_⟩
          · have hJ : LI = li2 → ∃ oli', St h h173 (.blk h161.size y.cs 45 :: .blk h139.size x.cs 45 :: .blk h124.size tt.cs 63 :: (mnA h99.size h38.size h25.size h18.size h7.size h.size h71.size m sf sm sl sc q3 s119 omv2 oli' C (addQ Q2 cx) NUM3 (fin ++ [bf]) mv2 LI SM (MS.map Prod.fst) ++ MS.map (nest 45 6 Mv.cs))) := fun e => by rw [e]; exact ⟨oli2, hs⟩
            refine sB_intro (fun c6 => ?_) (fun c6 => ?_)
            · obtain ⟨t, ht⟩ := Option.isSome_iff_exists.1 c6
              have hte : tt = t := by rw [← htt, ht]; rfl
              refine ⟨_, hs.rd 1 rfl rfl, _, hs.rd 0 rfl rfl, ?_⟩
              refine sB_intro (fun c7 => ?_) (fun c7 => hJ (hno (.inr fun e => by have e1 := congrArg Ev.send e; have e1 : x.send = y.send := e1; rw [e1] at c7; simp at c7)))
              refine ⟨_, hs.rd 1 rfl rfl, _, hs.rd 0 rfl rfl, ?_⟩
              refine sBe (fun c8 => ?_) (fun c8 => hJ (hno (.inr fun e => c8 (congrArg Ev.peer e))))
              refine ⟨_, hs.rd 1 rfl rfl, _, hs.rd 0 rfl rfl, ?_⟩
              refine sBe (fun c9 => ?_) (fun c9 => hJ (hno (.inr fun e => c9 (congrArg Ev.label e))))
              have hev : x.ev = y.ev := ev_ext (show x.send = y.send by simpa using c7) c8 c9
              refine ⟨oli2, hs.rd 3 rfl rfl, _, hs.rd 2 rfl rfl, omv2, hs.rd 3 rfl rfl, ?_⟩
              refine hs.app 9 rfl app25 (m := 1) [To.cs ⟨(i : Nat), tt.k, (omv2.n : Nat)⟩] rfl rfl (fun r hr => by rw [List.mem_singleton] at hr; rw [hr]; rfl) rfl (by omega) (by simp only [maxLen]; omega) fun s185 h186 n185 hs => ?_
              refine hs.put 3 rfl (o := 5) (vs := [.slice s185.a s185.n s185.c]) rfl (show 6 ≤ 6 by decide) fun h187 hs => ?_
              refine ⟨s185, ?_⟩
              rw [hyes t ht hev]
              unfold mnA
              rw [List.map_append (l₁ := li2), ← hte, ← homv]
              exact hs
            · have : tl = none := by cases tl with
                | none => rfl
                | some t => cases c6
              exact hJ (hno (.inl this))
          · rintro - h188 ⟨oli', hs⟩
            have hnc := hNQ3.2 cx hcxb
            rw [if_pos addQ_mem] at hnc
            refine ⟨⟨by omega, by omega⟩, ?_⟩
            rw [show 0 + Int.toNat (cx : Int) * 1 = cx by omega]
            refine ⟨_, hs.rd 5 rfl (by rw [List.getElem?_map, hnc]; rfl), ?_⟩
            refine hs.put 1 rfl (o := 0) (vs := [.int .i64 (i : Nat)]) rfl (show 1 ≤ 6 by decide) fun h190 hs2 => ?_
            refine ⟨sm_cons (hs.same hs2 5 5 rfl rfl) sm_nil, ?_⟩
            refine hs2.put 1 rfl (o := 4) (vs := [.int .i64 (idxF (addQ Q2 cx) cx : Nat)]) rfl (show 5 ≤ 6 by decide) fun h191 hs => ?_
            refine ⟨omv2, hs.rd 3 rfl rfl, _, _, _, _, _, _, hs.at 1 rfl (n := 6) rfl, ?_⟩
            refine hs.app 8 rfl app31 (m := 1) [Mv.cs ⟨(i : Nat), x.send, x.peer, x.label, (idxF (addQ Q2 cx) cx : Nat), x.ag⟩] rfl rfl (fun r hr => by rw [List.mem_singleton] at hr; rw [hr]; rfl) rfl (by omega) (by simp only [maxLen]; omega) fun s200 h201 n200 hs => ?_
            refine hs.put 3 rfl (o := 4) (vs := [.slice s200.a s200.n s200.c]) rfl (show 5 ≤ 6 by decide) fun h202 hs => ?_
            have hlm : (mv2 ++ [(⟨(i : Nat), x.send, x.peer, x.label, (idxF (addQ Q2 cx) cx : Nat), x.ag⟩ : Mv)]).length = mv2.length + 1 := by simp
            refine ⟨_, by omega, j + 1, s200, oli', addQ Q2 cx, NUM3, mv2 ++ [⟨(i : Nat), x.send, x.peer, x.label, (idxF (addQ Q2 cx) cx : Nat), x.ag⟩], LI, by rw [w64 (by omega) (by omega)]; omega, rfl, by omega, ?_, hQ.add hcxb, hNQ3, by omega, by have := hminl.2; simp only at this; omega, Nat.le_trans hQ2 addQ_len, ?_⟩
            · unfold mnA
              rw [List.map_append (l₁ := mv2)]
              exact hs.drop 2
            · rw [foldl_snoc g140, hfold]
              exact Prod.ext hminq (Prod.ext hminm hLI)
      · have hjn : j = OM.length := by omega
        subst hjn
        rw [List.take_length] at hfold
        rw [hfold] at hmin
        exact ⟨_, by omega, i + 1, s119, omv2, oli2, Q2, NUM2, fin ++ [bf], mv2, li2, by rw [w64 (by omega) (by omega)]; omega, rfl, by omega, hs.drop 1, hQ, hNQ, by omega, by omega, by rw [List.length_append, hfinl]; rfl, hmin⟩
    · have hiQ : i = Q.length := by omega
      rw [show 202 - i = (202 - (i + 1)) + 1 by omega, minN, List.getElem?_eq_none (by omega)] at hmin
      replace hmin : minF m = ⟨m.role, (Q.length : Nat), 0, fin, mv, li⟩ := hmin
      refine hs.put 0 rfl (o := 1) (vs := [.int .i64 (q.n : Nat)]) rfl (show 2 ≤ 6 by decide) fun h205 hs => ?_
      refine ⟨_, _, _, ofn, omv, oli, hs.at 0 rfl (n := 6) rfl, ?_⟩
      refine hs.put 10 rfl (o := 0) (vs := [.int .i64 m.role, .int .i64 (q.n : Nat), .int .i64 0, .slice ofn.a ofn.n ofn.c, .slice omv.a omv.n omv.c, .slice oli.a oli.n oli.c]) rfl (show 6 ≤ 6 by decide) fun h212 hs => ?_
      refine ⟨_, _, _, ofn, omv, oli, hs.at 10 rfl (n := 6) rfl, ?_⟩
      refine ⟨ofn, omv, oli, ?_, ?_⟩
      · rw [hmin, hqn]; rfl
      · rw [hmin]
        exact (hs.drop 4).sub (List.sublist_append_left [_, _, _] _)
  · rw [List.map_replicate]
    apply List.ext_getElem?
    intro s
    rw [List.getElem?_map, List.getElem?_replicate]
    by_cases hsn : s < m.n.toNat
    · rw [if_pos hsn, List.getElem?_range hsn]; rfl
    · rw [if_neg hsn, List.getElem?_eq_none (by rw [List.length_range]; omega)]; rfl
  · rw [List.map_replicate (f := Prod.fst)]
    exact hs
end Go.VC
end

section
/- Raw machines are as they should be. No program here. -/
namespace Go.VC
open Go.LexS

def evOk (g : Gl) (x : Ev) : Prop := 0 ≤ x.peer ∧ x.peer < g.rs.length ∧ 0 ≤ x.label ∧ x.label < g.ds.length
theorem vis_ok {g : Gl} {role : Int} (hV : ValidS g) {e : Ed} (he : e ∈ g.es) {x : Ev} (hx : vis1 role e = some x) : evOk g x := by
  have := hV.num.e e he
  unfold EdS at this
  unfold vis1 at hx
  unfold evOk
  split at hx
  · cases hx; simp only; omega
  · split at hx
    · cases hx; simp only; omega
    · cases hx
theorem evs_mem_ok {g : Gl} {role : Int} {p : PSet} (hV : ValidS g) {x : Ev} (hx : x ∈ evs g.es role p) : evOk g x := by
  unfold evs at hx
  rw [sortE_mem] at hx
  unfold evL at hx
  obtain ⟨n, _, h1⟩ := List.mem_flatMap.1 hx
  obtain ⟨a, ha, rfl⟩ := List.mem_map.1 h1
  unfold visL at ha
  obtain ⟨e, he, h2⟩ := List.mem_filterMap.1 ha
  split at h2
  · rw [Option.map_eq_some_iff] at h2
    obtain ⟨y, hy, rfl⟩ := h2
    exact vis_ok hV he hy
  · cases h2
/-- what is so of the arcs behind the rows ahead of i -/
structure VI (g : Gl) (S : List PSet) (M : List Mv) (i : Nat) : Prop where
  so : M.Pairwise mvLt
  mv : ∀ x ∈ M, 0 ≤ x.f ∧ x.f < i ∧ 0 ≤ x.t ∧ x.t < S.length ∧ evOk g x.ev
theorem rowI_le (S : List PSet) (p : PSet) : rowI S p < (rowS S p).length := by
  unfold rowS
  split
  · rename_i h; exact rowI_lt.2 h
  · rename_i h; rw [rowI_of_not h, List.length_append]; simp
theorem arcsF_vi {g : Gl} {role : Int} {i : Nat} {p : PSet} : ∀ (l : List Ev) (S : List PSet) (M : List Mv), l.Pairwise evLt → (∀ x ∈ l, evOk g x) → M.Pairwise mvLt → (∀ x ∈ M, 0 ≤ x.f ∧ (x.f < i ∨ (x.f = i ∧ ∀ y ∈ l, evLt x.ev y)) ∧ 0 ≤ x.t ∧ x.t < S.length ∧ evOk g x.ev) →
    VI g (arcsF g.es role i p l S M).1 (arcsF g.es role i p l S M).2 (i + 1) ∧ S.length ≤ (arcsF g.es role i p l S M).1.length
  | [], S, M, _, _, hM, hm => ⟨⟨hM, fun x hx => by obtain ⟨h1, h2, h3, h4, h5⟩ := hm x hx; exact ⟨h1, by rcases h2 with h2 | h2; omega; (have := h2.1; omega), h3, h4, h5⟩⟩, Nat.le_refl _⟩
  | x :: r, S, M, hl, hok, hM, hm => by
    rw [arcsF]
    rw [List.pairwise_cons] at hl
    have hlen := rowS_len (S := S) (p := clo g.es role (toL g.es role p x))
    have hri := rowI_le S (clo g.es role (toL g.es role p x))
    have ih := arcsF_vi (g := g) (role := role) (i := i) (p := p) r (rowS S (clo g.es role (toL g.es role p x))) (M ++ [⟨i, x.send, x.peer, x.label, rowI S (clo g.es role (toL g.es role p x)), false⟩]) hl.2 (fun y hy => hok y (List.mem_cons_of_mem _ hy)) ?_ ?_
    · exact ⟨ih.1, Nat.le_trans hlen.2 ih.2⟩
    · rw [List.pairwise_append]
      refine ⟨hM, List.pairwise_singleton _ _, fun a ha b hb => ?_⟩
      rw [List.mem_singleton] at hb
      subst hb
      obtain ⟨_, h2, _⟩ := hm a ha
      rcases h2 with h2 | ⟨h2, h3⟩
      · exact .inl h2
      · exact .inr ⟨h2, h3 x (List.mem_cons_self ..)⟩
    · intro y hy
      rcases List.mem_append.1 hy with hy | hy
      · obtain ⟨h1, h2, h3, h4, h5⟩ := hm y hy
        refine ⟨h1, ?_, h3, by omega, h5⟩
        rcases h2 with h2 | ⟨h2, h6⟩
        · exact .inl h2
        · exact .inr ⟨h2, fun z hz => h6 z (List.mem_cons_of_mem _ hz)⟩
      · rw [List.mem_singleton] at hy
        subst hy
        exact ⟨by simp only; omega, .inr ⟨rfl, fun z hz => hl.1 z hz⟩, by simp only; omega, by simp only; omega, hok x (List.mem_cons_self ..)⟩
theorem viewsF_vi {g : Gl} {role : Int} (hV : ValidS g) : ∀ (f i : Nat) (S : List PSet) (M : List Mv) {S' : List PSet} {M' : List Mv}, VI g S M i → i ≤ S.length → S.length ≤ 200 → viewsF g.es role f i S M = some (S', M') → VI g S' M' S'.length ∧ S'.length ≤ 200 ∧ S.length ≤ S'.length
  | 0, _, _, _, _, _, _, _, _, h => by cases h
  | f + 1, i, S, M, S', M', hv, hi, hS, h => by
    rw [viewsF] at h
    cases hg : S[i]? with
    | none =>
      rw [hg] at h
      cases h
      have : i = S.length := by have := List.getElem?_eq_none_iff.1 hg; omega
      subst this
      exact ⟨hv, hS, Nat.le_refl _⟩
    | some p =>
      rw [hg] at h
      replace h : (if (arcsF g.es role i p (evs g.es role p) S M).1.length > 200 then none else viewsF g.es role f (i + 1) (arcsF g.es role i p (evs g.es role p) S M).1 (arcsF g.es role i p (evs g.es role p) S M).2) = some (S', M') := h
      have hil := (List.getElem?_eq_some_iff.1 hg).1
      obtain ⟨h1, h2⟩ := arcsF_vi (g := g) (role := role) (i := i) (p := p) (evs g.es role p) S M (sortE_sorted _) (fun x hx => evs_mem_ok hV hx) hv.so (fun x hx => by obtain ⟨a, b, c, d, e⟩ := hv.mv x hx; exact ⟨a, .inl b, c, d, e⟩)
      split at h
      · cases h
      · rename_i h3
        have := viewsF_vi hV f (i + 1) _ _ h1 (by omega) (by omega) h
        exact ⟨this.1, this.2.1, Nat.le_trans h2 this.2.2⟩
theorem views_vi {g : Gl} {role : Int} (hV : ValidS g) {S : List PSet} {M : List Mv} (h : views g role = some (S, M)) : VI g S M S.length ∧ S.length ≤ 200 ∧ 1 ≤ S.length := by
  unfold views at h
  exact viewsF_vi hV 202 0 _ [] ⟨List.Pairwise.nil, fun x hx => by cases hx⟩ (by simp) (by simp) h
/-- ticks -/
theorem own_k {g : Gl} (hT : TimS g) (role : Int) : ∀ t ∈ ownT g.es g.ts role g.n.toNat, 0 ≤ t.k ∧ t.k ≤ 1000 := by
  have upd : ∀ (T : List Ti) (n : Nat) (f : Ti → Ti), (∀ t ∈ T, 0 ≤ t.k ∧ t.k ≤ 1000) → (∀ t ∈ T, 0 ≤ (f t).k ∧ (f t).k ≤ 1000) → ∀ t ∈ updT T n f, 0 ≤ t.k ∧ t.k ≤ 1000 := by
    intro T n f h1 h2 t ht
    unfold updT at ht
    split at ht
    · rename_i t0 h0
      rcases List.mem_or_eq_of_mem_set ht with h | rfl
      · exact h1 t h
      · exact h2 t0 (List.mem_of_getElem? h0)
    · exact h1 t ht
  have h0 : ∀ t ∈ (ownE g.es role g.n.toNat).2, 0 ≤ t.k ∧ t.k ≤ 1000 := by
    unfold ownE
    suffices h : ∀ (l : List Ed) (s : List Bool × List Ti), (∀ t ∈ s.2, 0 ≤ t.k ∧ t.k ≤ 1000) → ∀ t ∈ (l.foldl (own1 role) s).2, 0 ≤ t.k ∧ t.k ≤ 1000 from h _ _ fun t ht => by rw [List.mem_replicate] at ht; rw [ht.2]; exact ⟨by decide, by decide⟩
    intro l
    induction l with
    | nil => intro s h; exact h
    | cons a l ih =>
      intro s h
      rw [List.foldl_cons]
      refine ih _ ?_
      unfold own1
      split
      · exact upd _ _ _ h fun t ht => h t ht
      · exact h
  unfold ownT
  suffices h : ∀ (l : List To) (T : List Ti), (∀ x ∈ l, x ∈ g.ts) → (∀ t ∈ T, 0 ≤ t.k ∧ t.k ≤ 1000) → ∀ t ∈ l.foldl (own2 g.es (ownE g.es role g.n.toNat).1) T, 0 ≤ t.k ∧ t.k ≤ 1000 from h _ _ (fun x hx => hx) h0
  intro l
  induction l with
  | nil => intro T _ h; exact h
  | cons a l ih =>
    intro T hsub h
    rw [List.foldl_cons]
    refine ih _ (fun x hx => hsub x (List.mem_cons_of_mem _ hx)) ?_
    unfold own2
    split
    · refine upd _ _ _ h fun t ht => ?_
      obtain ⟨i, hi⟩ := List.mem_iff_getElem?.1 (hsub a (List.mem_cons_self ..))
      have := (hT i a hi).k
      exact ⟨by show 0 ≤ a.k; omega, this.2⟩
    · exact h
theorem viewV_k {F : Nat → List Ev} {en : Nat → Bool} {O : List Bool} {T : List Ti} {l : List Nat} {o : Ti} (hT : ∀ t ∈ T, 0 ≤ t.k ∧ t.k ≤ 1000) (h : viewV F en O T l = some o) : 0 ≤ o.k ∧ o.k ≤ 1000 := by
  unfold viewV at h
  rw [Option.map_eq_some_iff] at h
  obtain ⟨q, hq, rfl⟩ := h
  suffices hh : ∀ (m : List Nat) (st : Option (Bool × Ti)), (∀ q, st = some q → 0 ≤ q.2.k ∧ q.2.k ≤ 1000) → ∀ q, m.foldl (stepV F en O T l) st = some q → 0 ≤ q.2.k ∧ q.2.k ≤ 1000 from hh l _ (fun q hq => by cases hq; exact ⟨by decide, by decide⟩) q hq
  intro m
  induction m with
  | nil => intro st h q hq; exact h q hq
  | cons a m ih =>
    intro st h q hq
    rw [List.foldl_cons] at hq
    refine ih _ ?_ q hq
    intro q' hq'
    unfold stepV at hq'
    split at hq'
    · cases hq'
    · split at hq'
      · cases hq'
      · split at hq'
        · rename_i t ht
          split at hq'
          · cases hq'
          · cases hq'; exact hT _ (List.mem_of_getElem? (by assumption))
        · cases hq'; exact h _ rfl
theorem rawL_ok {g : Gl} {vw : List Nat → Option Ti} (hk : ∀ l o, vw l = some o → 0 ≤ o.k ∧ o.k ≤ 1000) : ∀ (n : Nat) (S : List PSet) (M : List Mv) (L : List To) {M' : List Mv} {L' : List To} {tot : Nat}, n + S.length = tot → M.Pairwise mvLt → (∀ x ∈ M, 0 ≤ x.f ∧ x.f < tot ∧ 0 ≤ x.t ∧ x.t < tot ∧ evOk g x.ev) → L.length ≤ n * M.length →
    (∀ t ∈ L, 0 ≤ t.s ∧ t.s < tot ∧ 0 ≤ t.e ∧ t.e < M.length ∧ 0 ≤ t.k ∧ t.k ≤ 1000) → rawL vw n S M L = some (M', L') →
    M'.Pairwise mvLt ∧ (∀ x ∈ M', 0 ≤ x.f ∧ x.f < tot ∧ 0 ≤ x.t ∧ x.t < tot ∧ evOk g x.ev) ∧ M'.length = M.length ∧ L'.length ≤ tot * M.length ∧ ∀ t ∈ L', 0 ≤ t.s ∧ t.s < tot ∧ 0 ≤ t.e ∧ t.e < M.length ∧ 0 ≤ t.k ∧ t.k ≤ 1000
  | n, [], M, L, M', L', tot, ht, hM, hm, hL, hl, h => by
    cases h
    have : n = tot := by simpa using ht
    subst this
    exact ⟨hM, hm, rfl, hL, hl⟩
  | n, p :: S, M, L, M', L', tot, ht, hM, hm, hL, hl, h => by
    rw [rawL] at h
    cases hv : vw (elems p) with
    | none => rw [hv] at h; cases h
    | some o =>
      rw [hv] at h
      replace h : rawL vw (n + 1) S (M.map (updR n o)) (L ++ limR n o M) = some (M', L') := h
      rw [List.length_cons] at ht
      have hko := hk _ _ hv
      have hup : ∀ x, (updR n o x).f = x.f ∧ (updR n o x).ev = x.ev ∧ (updR n o x).t = x.t := fun x => by
        obtain ⟨h1, h2, h3, h4, h5⟩ := updR_same n o x
        exact ⟨h1, by unfold Mv.ev; rw [h2, h3, h4], h5⟩
      have hlen : (M.map (updR n o)).length = M.length := List.length_map _
      have := rawL_ok (g := g) hk (n + 1) S (M.map (updR n o)) (L ++ limR n o M) (tot := tot) (by omega) ?_ ?_ ?_ ?_ h
      · rw [hlen] at this; exact this
      · rw [List.pairwise_map]
        refine hM.imp fun {a b} hab => ?_
        unfold mvLt at hab ⊢
        rw [(hup a).1, (hup b).1, (hup a).2.1, (hup b).2.1]; exact hab
      · intro x hx
        obtain ⟨y, hy, rfl⟩ := List.mem_map.1 hx
        rw [(hup y).1, (hup y).2.1, (hup y).2.2]
        exact hm y hy
      · rw [hlen, List.length_append, Nat.succ_mul]
        have := limR_len n o M
        omega
      · rw [hlen]
        intro t htm
        rcases List.mem_append.1 htm with htm | htm
        · exact hl t htm
        · unfold limR at htm
          obtain ⟨q, hq, h2⟩ := List.mem_filterMap.1 htm
          have hqi := List.snd_lt_of_mem_zipIdx hq
          unfold limC at h2
          split at h2
          · cases h2; simp only; omega
          · cases h2
theorem raw_ok {g : Gl} {role : Int} {m : Mch} (hr : g.rs.length ≤ 1048576) (hd : g.ds.length ≤ 1048576) (h : raw g role = (some m, 0)) : MOk m ∧ m.mv.Pairwise mvLt := by
  unfold raw at h
  split at h
  · cases h
  · rename_i hv
    obtain ⟨hV, hr0, hr1⟩ := Decidable.not_not.1 hv
    cases hw : views g role with
    | none => rw [hw] at h; cases h
    | some q =>
      obtain ⟨S, M⟩ := q
      rw [hw] at h
      replace h : (if M.length > 400 then ((none, 6) : Option Mch × Int) else
        match rawL (vwG g role) 0 S M [] with
        | none => (none, 18)
        | some (M', L) => (some ⟨role, S.length, 0, S.map (fun p => p g.e.toNat), M', L⟩, 0)) = (some m, 0) := h
      split at h
      · cases h
      · rename_i hM
        cases hl : rawL (vwG g role) 0 S M [] with
        | none => rw [hl] at h; cases h
        | some q =>
          obtain ⟨M', L⟩ := q
          rw [hl] at h
          cases h
          obtain ⟨h1, h2, h3⟩ := views_vi hV hw
          obtain ⟨h4, h5, h6, h7, h8⟩ := rawL_ok (g := g) (fun l o ho => viewV_k (own_k hV.tim role) ho) 0 S M [] (tot := S.length) (by omega) h1.so h1.mv (by simp) (fun t ht => by cases ht) hl
          refine ⟨⟨by simp only; omega, by simp only; omega, ?_, by simp only; omega, ?_, fun x hx => ?_, fun t ht => ?_⟩, h4⟩
          · simp
          · have : S.length * M.length ≤ 200 * 400 := Nat.mul_le_mul h2 (by omega)
            simp only; omega
          · obtain ⟨a, b, c, d, e⟩ := h5 x hx
            unfold evOk Mv.ev at e
            simp only at *
            omega
          · have := h8 t ht
            simp only at *
            omega
end Go.VC
end

section
/- Contract: Project. -/
namespace Go.VC
open Go.Proofs Go.LexS
set_option maxRecDepth 100000

noncomputable def proj (g : Gl) (role : Int) : Option Mch × Int := match raw g role with
  | (some m, _) => (some (minF m), 0)
  | (none, e) => (none, e)
theorem St.mi {h0 h : Heap} {L : List It} {m : Mch} {sf sm sl : Sl} (hs : St h0 h L) (k : Nat) (h1 : L[k]? = some (.sl sf 4 1 (m.fin.map bC))) (h2 : L[k + 1]? = some (.sl sm 45 6 (m.mv.map Mv.cs))) (h3 : L[k + 2]? = some (.sl sl 63 3 (m.li.map To.cs)))
    (b1 : m.fin.length ≤ 1048576) (b2 : m.mv.length ≤ 1048576) (b3 : m.li.length ≤ 1048576) : MI h m sf sm sl := by
  have l1 := hs.len k h1 (by omega)
  have l2 := hs.len (k + 1) h2 (by omega)
  have l3 := hs.len (k + 2) h3 (by omega)
  exact ⟨⟨hs.rows k h1 (by omega), l1.2.1, l1.2.2, b1⟩, ⟨hs.rows (k + 1) h2 (by omega), l2.2.1, l2.2.2, b2⟩, ⟨hs.rows (k + 2) h3 (by omega), l3.2.1, l3.2.2, b3⟩⟩
set_option maxHeartbeats 1000000 in
theorem project12 (g : Gl) (role : Int) (h : Heap) (hg : GI h g) (hx : Gx h) :
    Fn Tryz.prog 12 #[g.v, .int .i64 role] h fun v h' => Ext h h' ∧ MaR (proj g role) h h' v := by
  apply vc12 (bs g.nm) g.hr g.hd g.n g.s g.e g.he g.ht; unfold W12
  have hs := St.refl h
  refine hs.newb fun h9 hs => ?_
  refine hs.newb fun h10 hs => ?_
  refine ⟨_, _, _, _, _, _, _, _, hs.at 1 rfl (n := 8) rfl, ?_⟩
  refine (raw14 g role h10 (hg.ext hs.ext) (hx.ext hs.ext)).mono ?_
  rintro _ h27 ⟨E27, hr⟩
  cases hr with
  | @err e he h0 =>
    replace hs := hs.step E27
    refine ⟨0, 0, 0, ⟨none, 0, 0⟩, ⟨none, 0, 0⟩, ⟨none, 0, 0⟩, e, rfl, ?_⟩
    refine hs.newput (vs := m0) rfl rfl fun h29 hs => ?_
    refine sBn (fun c1 => ?_) (fun c1 => absurd c1 h0)
    refine hs.put 1 rfl (o := 0) (vs := m0) rfl (by decide) fun h30 hs => ?_
    refine ⟨0, 0, 0, ⟨none, 0, 0⟩, ⟨none, 0, 0⟩, ⟨none, 0, 0⟩, hs.at 1 rfl (n := 6) rfl, hs.ext, ?_⟩
    exact .err (by unfold proj; rw [he]) h0
  | @ok m sf sm sl he hm =>
    obtain ⟨hO, hS⟩ := raw_ok hg.r.sm hg.d.r.sm he
    replace hs := hs.join hm
    refine ⟨m.role, m.n, m.s, sf, sm, sl, 0, rfl, ?_⟩
    refine hs.newput (vs := mC m sf sm sl) rfl rfl fun h29 hs => ?_
    refine sBn (fun c1 => absurd rfl c1) (fun _ => ?_)
    refine ⟨_, _, _, sf, sm, sl, hs.at 0 rfl (n := 6) rfl, ?_⟩
    have hfl := hO.fl
    have hn := hO.n
    have hml := hO.ml
    have hll := hO.ll
    refine (minimal36 m sf sm sl h29 (hs.mi 3 rfl rfl rfl (by omega) (by omega) (by omega)) hO hS).mono ?_
    rintro _ h50 ⟨sf', sm', sl', rfl, hs2⟩
    replace hs := hs.join hs2
    refine ⟨_, _, _, sf', sm', sl', rfl, ?_⟩
    refine hs.put 1 rfl (o := 0) (vs := mC (minF m) sf' sm' sl') rfl (show 6 ≤ 6 by decide) fun h51 hs => ?_
    refine ⟨_, _, _, sf', sm', sl', hs.at 1 rfl (n := 6) rfl, hs.ext, ?_⟩
    exact .ok (m := minF m) (by unfold proj; rw [he]) (hs.drop 6)
end Go.VC
end

section
/- The raw machine, computed. No program here. -/
namespace Go.VC
open Go.LexS

def fC (g : Gl) (role : Int) (k : Nat) : List Ev := ((cloC g.es role g.n.toNat [(k : Int)]).map (evsC g.es role)).getD []
def enC (g : Gl) (role : Int) (k : Nat) : Bool := ((cloC g.es role g.n.toNat [(k : Int)]).map fun L => decide (g.e.toNat ∈ L)).getD false
def vwC (g : Gl) (role : Int) : List Nat → Option Ti := viewV (fC g role) (enC g role) (ownE g.es role g.n.toNat).1 (ownT g.es g.ts role g.n.toNat)
def rawC (g : Gl) (role : Int) : Option (Option Mch × Int) :=
  if !(List.range g.n.toNat).all (fun k => (cloC g.es role g.n.toNat [(k : Int)]).isSome) then none else
  match cloC g.es role g.n.toNat [g.s] with
  | none => none
  | some L0 => match viewsCF g.es role g.n.toNat 202 0 [L0] [] with
    | none => none
    | some none => some (none, 6)
    | some (some (S, M)) => if M.length > 400 then some (none, 6) else
      match rawLC (vwC g role) 0 S M [] with
      | none => some (none, 18)
      | some (M', L') => some (some ⟨role, S.length, 0, S.map (fun L => decide (g.e.toNat ∈ L)), M', L'⟩, 0)
theorem rawC_ok {g : Gl} {role : Int} {r : Option Mch × Int} (hV : ValidS g) (h0 : 0 ≤ role) (h1 : role < g.rs.length) (h : rawC g role = some r) : raw g role = r := by
  have hN := hV.num.n
  have hn : g.n.toNat ≤ 4096 := by omega
  have hes : ∀ x ∈ g.es, 0 ≤ x.f ∧ 0 ≤ x.t := fun x hx => by have := hV.num.e x hx; unfold EdS at this; omega
  have hlt : ∀ (l : List Int), (∀ v ∈ l, 0 ≤ v ∧ v < g.n) → ∀ j : Nat, clo g.es role l j = true → j < g.n.toNat := fun l hl j hj => by have := clo_lt hV hl j hj; omega
  have hto : ∀ (L : List Nat) (x : Ev) (j : Nat), clo g.es role (toC g.es role L x) j = true → j < g.n.toNat := by
    intro L x
    refine hlt _ fun v hv => ?_
    unfold toC at hv
    obtain ⟨k, _, h2⟩ := List.mem_flatMap.1 hv
    obtain ⟨a, ha, h3⟩ := List.mem_filterMap.1 h2
    unfold visL at ha
    obtain ⟨e, he, h4⟩ := List.mem_filterMap.1 ha
    have := hV.num.e e he
    unfold EdS at this
    split at h4
    · rw [Option.map_eq_some_iff] at h4
      obtain ⟨_, _, rfl⟩ := h4
      split at h3
      · cases h3; show 0 ≤ e.t ∧ e.t < g.n; omega
      · cases h3
    · cases h4
  unfold rawC at h
  split at h
  · cases h
  rename_i hall
  have hall : ∀ k, k < g.n.toNat → (cloC g.es role g.n.toNat [(k : Int)]).isSome = true := by
    intro k hk
    have : (List.range g.n.toNat).all (fun k => (cloC g.es role g.n.toNat [(k : Int)]).isSome) = true := by
      revert hall
      generalize (List.range g.n.toNat).all (fun k => (cloC g.es role g.n.toNat [(k : Int)]).isSome) = b
      cases b <;> simp
    exact List.all_eq_true.1 this k (List.mem_range.2 hk)
  have hfirst : ∀ k, k < g.n.toNat → firstE g role (k : Int) = fC g role k ∧ firstB g role (k : Int) = enC g role k := by
    intro k hk
    obtain ⟨L, hL⟩ := Option.isSome_iff_exists.1 (hall k hk)
    obtain ⟨h2, h3⟩ := cloC_ok hes (hlt [(k : Int)] fun v hv => by rw [List.mem_singleton] at hv; omega) hL
    unfold firstE firstB fC enC
    rw [hL, h3, evs_setOf h2 hn]
    exact ⟨rfl, rfl⟩
  cases hc0 : cloC g.es role g.n.toNat [g.s] with
  | none => simp only [hc0] at h; cases h
  | some L0 =>
    simp only [hc0] at h
    obtain ⟨h2, h3⟩ := cloC_ok hes (hlt [g.s] fun v hv => by rw [List.mem_singleton] at hv; omega) hc0
    cases hv : viewsCF g.es role g.n.toNat 202 0 [L0] [] with
    | none => simp only [hv] at h; cases h
    | some w =>
      simp only [hv] at h
      obtain ⟨h4, h5⟩ := viewsCF_ok hn hes hto 202 0 [L0] [] (fun s hs => by rw [List.mem_singleton] at hs; rw [hs]; exact h2) hv
      have h6 : views g role = w.map fun q => (q.1.map setOf, q.2) := by
        unfold views
        rw [h3]; exact h4
      unfold raw
      rw [if_neg (by simpa using ⟨hV, h0, h1⟩), h6]
      cases w with
      | none => simpa using h
      | some q =>
        obtain ⟨S, M⟩ := q
        have hS := h5 (S, M) rfl
        simp only [Option.map_some] at h ⊢
        split at h
        · rename_i hM; rw [if_pos hM]; simpa using h
        · rename_i hM
          rw [if_neg hM]
          rw [rawLC_ok (vw := vwG g role) (vw' := vwC g role) hn 0 S M [] fun s hs => ⟨hS s hs, viewV_congr (fun k hk => (hfirst k ((hS s hs).lt k hk)).1) fun k hk => (hfirst k ((hS s hs).lt k hk)).2⟩]
          cases hl : rawLC (vwC g role) 0 S M [] with
          | none => simp only [hl] at h ⊢; simpa using h
          | some q =>
            obtain ⟨M', L'⟩ := q
            simp only [hl] at h ⊢
            rw [← Option.some.inj h, List.length_map, List.map_map]
            rfl
end Go.VC
end

section
namespace Go.VC
open Go.Proofs
set_option maxRecDepth 100000
set_option linter.unusedVariables false

def W10  (h : Heap) (R : Value → Heap → Prop) : Prop :=
 (Fn Tryz.prog 34 #[.bool true] h
 (fun v1 h10 => ∃ x2 : ByteArray, ∃ x3 : Sl, ∃ x4 : Sl, ∃ x5 : Int, ∃ x6 : Int, ∃ x7 : Int, ∃ x8 : Sl, ∃ x9 : Sl, v1 = .agg ⟨[.string x2, .slice x3.a x3.n x3.c, .slice x4.a x4.n x4.c, .int .i64 x5, .int .i64 x6, .int .i64 x7, .slice x8.a x8.n x8.c, .slice x9.a x9.n x9.c]⟩ ∧
 (Fn Tryz.prog 12 #[.agg ⟨[.string x2, .slice x3.a x3.n x3.c, .slice x4.a x4.n x4.c, .int .i64 x5, .int .i64 x6, .int .i64 x7, .slice x8.a x8.n x8.c, .slice x9.a x9.n x9.c]⟩, .int .i64 2] h10
 (fun v11 h19 => ∃ x12 : Int, ∃ x13 : Int, ∃ x14 : Int, ∃ x15 : Sl, ∃ x16 : Sl, ∃ x17 : Sl, ∃ x18 : Int, v11 = .tuple ⟨[.agg ⟨[.int .i64 x12, .int .i64 x13, .int .i64 x14, .slice x15.a x15.n x15.c, .slice x16.a x16.n x16.c, .slice x17.a x17.n x17.c]⟩, .int .i64 x18]⟩ ∧
 (∀ h20 : Heap, h20 = h19.push (.cells ⟨[.int .i64 0, .int .i64 0, .int .i64 0, .slice none 0 0, .slice none 0 0, .slice none 0 0]⟩ 33) →
 (okAt h20 ⟨h19.size, 0, none⟩ 6 ∧ ∀ h21 : Heap, h21 = hputs h20 ⟨h19.size, 0, none⟩ 0 [.int .i64 x12, .int .i64 x13, .int .i64 x14, .slice x15.a x15.n x15.c, .slice x16.a x16.n x16.c, .slice x17.a x17.n x17.c] →
 (Fn Tryz.prog 34 #[.bool false] h21
 (fun v22 h31 => ∃ x23 : ByteArray, ∃ x24 : Sl, ∃ x25 : Sl, ∃ x26 : Int, ∃ x27 : Int, ∃ x28 : Int, ∃ x29 : Sl, ∃ x30 : Sl, v22 = .agg ⟨[.string x23, .slice x24.a x24.n x24.c, .slice x25.a x25.n x25.c, .int .i64 x26, .int .i64 x27, .int .i64 x28, .slice x29.a x29.n x29.c, .slice x30.a x30.n x30.c]⟩ ∧
 (Fn Tryz.prog 12 #[.agg ⟨[.string x23, .slice x24.a x24.n x24.c, .slice x25.a x25.n x25.c, .int .i64 x26, .int .i64 x27, .int .i64 x28, .slice x29.a x29.n x29.c, .slice x30.a x30.n x30.c]⟩, .int .i64 2] h31
 (fun v32 h40 => ∃ x33 : Int, ∃ x34 : Int, ∃ x35 : Int, ∃ x36 : Sl, ∃ x37 : Sl, ∃ x38 : Sl, ∃ x39 : Int, v32 = .tuple ⟨[.agg ⟨[.int .i64 x33, .int .i64 x34, .int .i64 x35, .slice x36.a x36.n x36.c, .slice x37.a x37.n x37.c, .slice x38.a x38.n x38.c]⟩, .int .i64 x39]⟩ ∧
 (∀ h41 : Heap, h41 = h40.push (.cells ⟨[.int .i64 0, .int .i64 0, .int .i64 0, .slice none 0 0, .slice none 0 0, .slice none 0 0]⟩ 33) →
 (okAt h41 ⟨h40.size, 0, none⟩ 6 ∧ ∀ h42 : Heap, h42 = hputs h41 ⟨h40.size, 0, none⟩ 0 [.int .i64 x33, .int .i64 x34, .int .i64 x35, .slice x36.a x36.n x36.c, .slice x37.a x37.n x37.c, .slice x38.a x38.n x38.c] →
 (sB (x18 == 0)
 ((sB (x39 == 18)
 ((∃ x43 : Int, hc h42 ⟨h19.size, 1, none⟩ = some (.int .i64 x43) ∧
 (sB (x43 == 4)
 ((∃ x44 : Sl, hc h42 ⟨h19.size, 4, none⟩ = some (.slice x44.a x44.n x44.c) ∧
 (sB ((x44.n : Int) == 4)
 ((∃ x45 : Sl, hc h42 ⟨h19.size, 4, none⟩ = some (.slice x45.a x45.n x45.c) ∧
 (NB x45.a fun b46 o47 => ((0 ≤ (3 : Int) ∧ (3 : Int) < (x45.n : Nat)) ∧
 (∃ x48 : Int, ∃ x49 : Bool, ∃ x50 : Int, ∃ x51 : Int, ∃ x52 : Int, ∃ x53 : Bool, atC h42 ⟨b46, o47 + Int.toNat 3 * 6, none⟩ [.int .i64 x48, .bool x49, .int .i64 x50, .int .i64 x51, .int .i64 x52, .bool x53] ∧
 (sB ((x48 == 2) && ((x49 == true) && ((x50 == 1) && ((x51 == 3) && ((x52 == 3) && ((x53 == false) && true))))))
 ((∃ x54 : Sl, hc h42 ⟨h19.size, 3, none⟩ = some (.slice x54.a x54.n x54.c) ∧
 (NB x54.a fun b55 o56 => ((0 ≤ (3 : Int) ∧ (3 : Int) < (x54.n : Nat)) ∧
 (∃ x57 : Bool, hc h42 ⟨b55, o56 + Int.toNat 3 * 1, none⟩ = some (.bool x57) ∧
 R (.bool x57) h42)))))
 (R (.bool false) h42)))))))
 (R (.bool false) h42))))
 (R (.bool false) h42))))
 (R (.bool false) h42)))
 (R (.bool false) h42))))))))))))))
theorem vc10e  (h : Heap) (R : Value → Heap → Prop) : W10  h R = fnW Tryz.prog 10 .z #[] h R := by kernel_rfl
theorem vc10  (h : Heap) (R : Value → Heap → Prop) (H : W10  h R) : Fn Tryz.prog 10 #[] h R := fnI (vc10e  h R) H

def W34 (p0 : Bool) (h : Heap) (R : Value → Heap → Prop) : Prop :=
 (∀ h1 : Heap, h1 = h.push (.cells ⟨[.string ⟨#[]⟩, .slice none 0 0, .slice none 0 0, .int .i64 0, .int .i64 0, .int .i64 0, .slice none 0 0, .slice none 0 0]⟩ 27) →
 (∀ h2 : Heap, h2 = h1.push (.cells ⟨[.string ⟨#[112]⟩, .string ⟨#[113]⟩, .string ⟨#[114]⟩]⟩ 9) →
 (∀ h3 : Heap, h3 = h2.push (.cells ⟨[.string ⟨#[97]⟩, .slice none 0 0, .int .i64 0, .slice none 0 0, .slice none 0 0, .string ⟨#[98]⟩, .slice none 0 0, .int .i64 0, .slice none 0 0, .slice none 0 0, .string ⟨#[99]⟩, .slice none 0 0, .int .i64 0, .slice none 0 0, .slice none 0 0, .string ⟨#[100]⟩, .slice none 0 0, .int .i64 0, .slice none 0 0, .slice none 0 0]⟩ 136) →
 (∀ h4 : Heap, h4 = h3.push (.cells ⟨[.string ⟨#[]⟩, .slice none 0 0, .slice none 0 0, .int .i64 0, .int .i64 0, .int .i64 0, .slice none 0 0, .slice none 0 0]⟩ 27) →
 (okAt h4 ⟨h3.size, 0, none⟩ 8 ∧ ∀ h5 : Heap, h5 = hputs h4 ⟨h3.size, 0, none⟩ 0 [.string ⟨#[101]⟩, .slice (some ⟨h1.size, 0, none⟩) 3 3, .slice (some ⟨h2.size, 0, none⟩) 4 4, .int .i64 4, .int .i64 0, .int .i64 3, .slice none 0 0, .slice none 0 0] →
 (Fn Tryz.prog 70 #[.int .i64 0, .int .i64 0, .int .i64 1, .int .i64 0, .int .i64 1] h5
 (fun v6 h13 => ∃ x7 : Int, ∃ x8 : Int, ∃ x9 : Int, ∃ x10 : Int, ∃ x11 : Int, ∃ x12 : Bool, v6 = .agg ⟨[.int .i64 x7, .int .i64 x8, .int .i64 x9, .int .i64 x10, .int .i64 x11, .bool x12]⟩ ∧
 (Fn Tryz.prog 70 #[.int .i64 0, .int .i64 0, .int .i64 1, .int .i64 1, .int .i64 2] h13
 (fun v14 h21 => ∃ x15 : Int, ∃ x16 : Int, ∃ x17 : Int, ∃ x18 : Int, ∃ x19 : Int, ∃ x20 : Bool, v14 = .agg ⟨[.int .i64 x15, .int .i64 x16, .int .i64 x17, .int .i64 x18, .int .i64 x19, .bool x20]⟩ ∧
 (Fn Tryz.prog 70 #[.int .i64 1, .int .i64 2, .int .i64 1, .int .i64 2, .int .i64 3] h21
 (fun v22 h29 => ∃ x23 : Int, ∃ x24 : Int, ∃ x25 : Int, ∃ x26 : Int, ∃ x27 : Int, ∃ x28 : Bool, v22 = .agg ⟨[.int .i64 x23, .int .i64 x24, .int .i64 x25, .int .i64 x26, .int .i64 x27, .bool x28]⟩ ∧
 (Fn Tryz.prog 70 #[.int .i64 2, .int .i64 2, .int .i64 1, .int .i64 3, .int .i64 3] h29
 (fun v30 h37 => ∃ x31 : Int, ∃ x32 : Int, ∃ x33 : Int, ∃ x34 : Int, ∃ x35 : Int, ∃ x36 : Bool, v30 = .agg ⟨[.int .i64 x31, .int .i64 x32, .int .i64 x33, .int .i64 x34, .int .i64 x35, .bool x36]⟩ ∧
 (∀ h38 : Heap, h38 = h37.push (.cells ⟨[.int .i64 x7, .int .i64 x8, .int .i64 x9, .int .i64 x10, .int .i64 x11, .bool x12, .int .i64 x15, .int .i64 x16, .int .i64 x17, .int .i64 x18, .int .i64 x19, .bool x20, .int .i64 x23, .int .i64 x24, .int .i64 x25, .int .i64 x26, .int .i64 x27, .bool x28, .int .i64 x31, .int .i64 x32, .int .i64 x33, .int .i64 x34, .int .i64 x35, .bool x36]⟩ 55) →
 (okAt h38 ⟨h3.size, 6, none⟩ 1 ∧ ∀ h39 : Heap, h39 = hputs h38 ⟨h3.size, 6, none⟩ 0 [.slice (some ⟨h37.size, 0, none⟩) 4 4] →
 (sB p0
 ((okAt h39 ⟨h3.size, 3, none⟩ 1 ∧ ∀ h40 : Heap, h40 = hputs h39 ⟨h3.size, 3, none⟩ 0 [.int .i64 6] →
 (okAt h40 ⟨h3.size, 5, none⟩ 1 ∧ ∀ h41 : Heap, h41 = hputs h40 ⟨h3.size, 5, none⟩ 0 [.int .i64 5] →
 (Fn Tryz.prog 70 #[.int .i64 0, .int .i64 0, .int .i64 1, .int .i64 0, .int .i64 1] h41
 (fun v42 h49 => ∃ x43 : Int, ∃ x44 : Int, ∃ x45 : Int, ∃ x46 : Int, ∃ x47 : Int, ∃ x48 : Bool, v42 = .agg ⟨[.int .i64 x43, .int .i64 x44, .int .i64 x45, .int .i64 x46, .int .i64 x47, .bool x48]⟩ ∧
 (Fn Tryz.prog 70 #[.int .i64 0, .int .i64 0, .int .i64 1, .int .i64 1, .int .i64 2] h49
 (fun v50 h57 => ∃ x51 : Int, ∃ x52 : Int, ∃ x53 : Int, ∃ x54 : Int, ∃ x55 : Int, ∃ x56 : Bool, v50 = .agg ⟨[.int .i64 x51, .int .i64 x52, .int .i64 x53, .int .i64 x54, .int .i64 x55, .bool x56]⟩ ∧
 (Fn Tryz.prog 70 #[.int .i64 1, .int .i64 1, .int .i64 2, .int .i64 0, .int .i64 3] h57
 (fun v58 h65 => ∃ x59 : Int, ∃ x60 : Int, ∃ x61 : Int, ∃ x62 : Int, ∃ x63 : Int, ∃ x64 : Bool, v58 = .agg ⟨[.int .i64 x59, .int .i64 x60, .int .i64 x61, .int .i64 x62, .int .i64 x63, .bool x64]⟩ ∧
 (Fn Tryz.prog 70 #[.int .i64 2, .int .i64 1, .int .i64 2, .int .i64 1, .int .i64 4] h65
 (fun v66 h73 => ∃ x67 : Int, ∃ x68 : Int, ∃ x69 : Int, ∃ x70 : Int, ∃ x71 : Int, ∃ x72 : Bool, v66 = .agg ⟨[.int .i64 x67, .int .i64 x68, .int .i64 x69, .int .i64 x70, .int .i64 x71, .bool x72]⟩ ∧
 (Fn Tryz.prog 70 #[.int .i64 3, .int .i64 2, .int .i64 1, .int .i64 2, .int .i64 5] h73
 (fun v74 h81 => ∃ x75 : Int, ∃ x76 : Int, ∃ x77 : Int, ∃ x78 : Int, ∃ x79 : Int, ∃ x80 : Bool, v74 = .agg ⟨[.int .i64 x75, .int .i64 x76, .int .i64 x77, .int .i64 x78, .int .i64 x79, .bool x80]⟩ ∧
 (Fn Tryz.prog 70 #[.int .i64 4, .int .i64 2, .int .i64 1, .int .i64 3, .int .i64 5] h81
 (fun v82 h89 => ∃ x83 : Int, ∃ x84 : Int, ∃ x85 : Int, ∃ x86 : Int, ∃ x87 : Int, ∃ x88 : Bool, v82 = .agg ⟨[.int .i64 x83, .int .i64 x84, .int .i64 x85, .int .i64 x86, .int .i64 x87, .bool x88]⟩ ∧
 (∀ h90 : Heap, h90 = h89.push (.cells ⟨[.int .i64 x43, .int .i64 x44, .int .i64 x45, .int .i64 x46, .int .i64 x47, .bool x48, .int .i64 x51, .int .i64 x52, .int .i64 x53, .int .i64 x54, .int .i64 x55, .bool x56, .int .i64 x59, .int .i64 x60, .int .i64 x61, .int .i64 x62, .int .i64 x63, .bool x64, .int .i64 x67, .int .i64 x68, .int .i64 x69, .int .i64 x70, .int .i64 x71, .bool x72, .int .i64 x75, .int .i64 x76, .int .i64 x77, .int .i64 x78, .int .i64 x79, .bool x80, .int .i64 x83, .int .i64 x84, .int .i64 x85, .int .i64 x86, .int .i64 x87, .bool x88]⟩ 55) →
 (okAt h90 ⟨h3.size, 6, none⟩ 1 ∧ ∀ h91 : Heap, h91 = hputs h90 ⟨h3.size, 6, none⟩ 0 [.slice (some ⟨h89.size, 0, none⟩) 6 6] →
 (∃ x92 : ByteArray, ∃ x93 : Sl, ∃ x94 : Sl, ∃ x95 : Int, ∃ x96 : Int, ∃ x97 : Int, ∃ x98 : Sl, ∃ x99 : Sl, atC h91 ⟨h3.size, 0, none⟩ [.string x92, .slice x93.a x93.n x93.c, .slice x94.a x94.n x94.c, .int .i64 x95, .int .i64 x96, .int .i64 x97, .slice x98.a x98.n x98.c, .slice x99.a x99.n x99.c] ∧
 (okAt h91 ⟨h.size, 0, none⟩ 8 ∧ ∀ h100 : Heap, h100 = hputs h91 ⟨h.size, 0, none⟩ 0 [.string x92, .slice x93.a x93.n x93.c, .slice x94.a x94.n x94.c, .int .i64 x95, .int .i64 x96, .int .i64 x97, .slice x98.a x98.n x98.c, .slice x99.a x99.n x99.c] →
 (∃ x101 : ByteArray, ∃ x102 : Sl, ∃ x103 : Sl, ∃ x104 : Int, ∃ x105 : Int, ∃ x106 : Int, ∃ x107 : Sl, ∃ x108 : Sl, atC h100 ⟨h.size, 0, none⟩ [.string x101, .slice x102.a x102.n x102.c, .slice x103.a x103.n x103.c, .int .i64 x104, .int .i64 x105, .int .i64 x106, .slice x107.a x107.n x107.c, .slice x108.a x108.n x108.c] ∧
 R (.agg ⟨[.string x101, .slice x102.a x102.n x102.c, .slice x103.a x103.n x103.c, .int .i64 x104, .int .i64 x105, .int .i64 x106, .slice x107.a x107.n x107.c, .slice x108.a x108.n x108.c]⟩) h100))))))))))))))))))))
 ((∃ x109 : ByteArray, ∃ x110 : Sl, ∃ x111 : Sl, ∃ x112 : Int, ∃ x113 : Int, ∃ x114 : Int, ∃ x115 : Sl, ∃ x116 : Sl, atC h39 ⟨h3.size, 0, none⟩ [.string x109, .slice x110.a x110.n x110.c, .slice x111.a x111.n x111.c, .int .i64 x112, .int .i64 x113, .int .i64 x114, .slice x115.a x115.n x115.c, .slice x116.a x116.n x116.c] ∧
 (okAt h39 ⟨h.size, 0, none⟩ 8 ∧ ∀ h117 : Heap, h117 = hputs h39 ⟨h.size, 0, none⟩ 0 [.string x109, .slice x110.a x110.n x110.c, .slice x111.a x111.n x111.c, .int .i64 x112, .int .i64 x113, .int .i64 x114, .slice x115.a x115.n x115.c, .slice x116.a x116.n x116.c] →
 (∃ x118 : ByteArray, ∃ x119 : Sl, ∃ x120 : Sl, ∃ x121 : Int, ∃ x122 : Int, ∃ x123 : Int, ∃ x124 : Sl, ∃ x125 : Sl, atC h117 ⟨h.size, 0, none⟩ [.string x118, .slice x119.a x119.n x119.c, .slice x120.a x120.n x120.c, .int .i64 x121, .int .i64 x122, .int .i64 x123, .slice x124.a x124.n x124.c, .slice x125.a x125.n x125.c] ∧
 R (.agg ⟨[.string x118, .slice x119.a x119.n x119.c, .slice x120.a x120.n x120.c, .int .i64 x121, .int .i64 x122, .int .i64 x123, .slice x124.a x124.n x124.c, .slice x125.a x125.n x125.c]⟩) h117))))))))))))))))))))
theorem vc34e (p0 : Bool) (h : Heap) (R : Value → Heap → Prop) : W34 p0 h R = fnW Tryz.prog 34 .z #[.bool p0] h R := by kernel_rfl
theorem vc34 (p0 : Bool) (h : Heap) (R : Value → Heap → Prop) (H : W34 p0 h R) : Fn Tryz.prog 34 #[.bool p0] h R := fnI (vc34e p0 h R) H

def W70 (p0 : Int) (p1 : Int) (p2 : Int) (p3 : Int) (p4 : Int) (h : Heap) (R : Value → Heap → Prop) : Prop :=
 (∀ h1 : Heap, h1 = h.push (.cells ⟨[.int .i64 0, .int .i64 0, .int .i64 0, .int .i64 0, .int .i64 0, .bool false]⟩ 55) →
 (okAt h1 ⟨h.size, 0, none⟩ 6 ∧ ∀ h2 : Heap, h2 = hputs h1 ⟨h.size, 0, none⟩ 0 [.int .i64 p0, .int .i64 p1, .int .i64 p2, .int .i64 p3, .int .i64 p4, .bool false] →
 (∃ x3 : Int, ∃ x4 : Int, ∃ x5 : Int, ∃ x6 : Int, ∃ x7 : Int, ∃ x8 : Bool, atC h2 ⟨h.size, 0, none⟩ [.int .i64 x3, .int .i64 x4, .int .i64 x5, .int .i64 x6, .int .i64 x7, .bool x8] ∧
 R (.agg ⟨[.int .i64 x3, .int .i64 x4, .int .i64 x5, .int .i64 x6, .int .i64 x7, .bool x8]⟩) h2)))
theorem vc70e (p0 : Int) (p1 : Int) (p2 : Int) (p3 : Int) (p4 : Int) (h : Heap) (R : Value → Heap → Prop) : W70 p0 p1 p2 p3 p4 h R = fnW Tryz.prog 70 .z #[.int .i64 p0, .int .i64 p1, .int .i64 p2, .int .i64 p3, .int .i64 p4] h R := by kernel_rfl
theorem vc70 (p0 : Int) (p1 : Int) (p2 : Int) (p3 : Int) (p4 : Int) (h : Heap) (R : Value → Heap → Prop) (H : W70 p0 p1 p2 p3 p4 h R) : Fn Tryz.prog 70 #[.int .i64 p0, .int .i64 p1, .int .i64 p2, .int .i64 p3, .int .i64 p4] h R := fnI (vc70e p0 p1 p2 p3 p4 h R) H

def W11 (p0_1 : ByteArray) (p0_2 : Sl) (p0_3 : Sl) (p0_4 : Int) (p0_5 : Int) (p0_6 : Int) (p0_7 : Sl) (p0_8 : Sl) (h : Heap) (R : Value → Heap → Prop) : Prop :=
 (∀ h9 : Heap, h9 = h.push (.cells ⟨[.string p0_1, .slice p0_2.a p0_2.n p0_2.c, .slice p0_3.a p0_3.n p0_3.c, .int .i64 p0_4, .int .i64 p0_5, .int .i64 p0_6, .slice p0_7.a p0_7.n p0_7.c, .slice p0_8.a p0_8.n p0_8.c]⟩ 27) →
 (∃ x10 : ByteArray, ∃ x11 : Sl, ∃ x12 : Sl, ∃ x13 : Int, ∃ x14 : Int, ∃ x15 : Int, ∃ x16 : Sl, ∃ x17 : Sl, atC h9 ⟨h.size, 0, none⟩ [.string x10, .slice x11.a x11.n x11.c, .slice x12.a x12.n x12.c, .int .i64 x13, .int .i64 x14, .int .i64 x15, .slice x16.a x16.n x16.c, .slice x17.a x17.n x17.c] ∧
 (Fn Tryz.prog 35 #[.agg ⟨[.string x10, .slice x11.a x11.n x11.c, .slice x12.a x12.n x12.c, .int .i64 x13, .int .i64 x14, .int .i64 x15, .slice x16.a x16.n x16.c, .slice x17.a x17.n x17.c]⟩] h9
 (fun v18 h20 => ∃ x19 : Bool, v18 = .bool x19 ∧
 (sB x19
 ((∃ x21 : Int, hc h20 ⟨h.size, 3, none⟩ = some (.int .i64 x21) ∧
 R (.bool (decide (x21 ≤ 25))) h20))
 (R (.bool false) h20))))))
theorem vc11e (p0_1 : ByteArray) (p0_2 : Sl) (p0_3 : Sl) (p0_4 : Int) (p0_5 : Int) (p0_6 : Int) (p0_7 : Sl) (p0_8 : Sl) (h : Heap) (R : Value → Heap → Prop) : W11 p0_1 p0_2 p0_3 p0_4 p0_5 p0_6 p0_7 p0_8 h R = fnW Tryz.prog 11 .z #[.agg ⟨[.string p0_1, .slice p0_2.a p0_2.n p0_2.c, .slice p0_3.a p0_3.n p0_3.c, .int .i64 p0_4, .int .i64 p0_5, .int .i64 p0_6, .slice p0_7.a p0_7.n p0_7.c, .slice p0_8.a p0_8.n p0_8.c]⟩] h R := by kernel_rfl
theorem vc11 (p0_1 : ByteArray) (p0_2 : Sl) (p0_3 : Sl) (p0_4 : Int) (p0_5 : Int) (p0_6 : Int) (p0_7 : Sl) (p0_8 : Sl) (h : Heap) (R : Value → Heap → Prop) (H : W11 p0_1 p0_2 p0_3 p0_4 p0_5 p0_6 p0_7 p0_8 h R) : Fn Tryz.prog 11 #[.agg ⟨[.string p0_1, .slice p0_2.a p0_2.n p0_2.c, .slice p0_3.a p0_3.n p0_3.c, .int .i64 p0_4, .int .i64 p0_5, .int .i64 p0_6, .slice p0_7.a p0_7.n p0_7.c, .slice p0_8.a p0_8.n p0_8.c]⟩] h R := fnI (vc11e p0_1 p0_2 p0_3 p0_4 p0_5 p0_6 p0_7 p0_8 h R) H

/- farandole/farandolelaw25.right
 loop rrrlrb: x_41:Int
 loop rrlrb: x_18:Int -/
def W17 (p0_1 : Int) (p0_2 : Int) (p0_3 : Int) (p0_4 : Sl) (p0_5 : Sl) (p0_6 : Sl) (h : Heap) (R : Value → Heap → Prop) : Prop :=
 (∀ h7 : Heap, h7 = h.push (.cells ⟨[.int .i64 p0_1, .int .i64 p0_2, .int .i64 p0_3, .slice p0_4.a p0_4.n p0_4.c, .slice p0_5.a p0_5.n p0_5.c, .slice p0_6.a p0_6.n p0_6.c]⟩ 33) →
 (∃ x8 : Int, hc h7 ⟨h.size, 1, none⟩ = some (.int .i64 x8) ∧
 (sB (decide (x8 < 1))
 (R (.bool false) h7)
 ((∃ x9 : Sl, hc h7 ⟨h.size, 3, none⟩ = some (.slice x9.a x9.n x9.c) ∧
 (∃ x10 : Int, hc h7 ⟨h.size, 1, none⟩ = some (.int .i64 x10) ∧
 (sB ((x9.n : Int) != x10)
 (R (.bool false) h7)
 ((∃ x11 : Int, hc h7 ⟨h.size, 2, none⟩ = some (.int .i64 x11) ∧
 (sB (decide (x11 < 0))
 (R (.bool false) h7)
 ((∃ x12 : Int, hc h7 ⟨h.size, 2, none⟩ = some (.int .i64 x12) ∧
 (∃ x13 : Int, hc h7 ⟨h.size, 1, none⟩ = some (.int .i64 x13) ∧
 (sB (decide (x12 ≥ x13))
 (R (.bool false) h7)
 ((∃ x14 : Sl, hc h7 ⟨h.size, 4, none⟩ = some (.slice x14.a x14.n x14.c) ∧
 (∃ I15 : Int → Heap → Nat → Prop, (∃ m16, I15 0 h7 m16) ∧
 (∀ (_ : Env) (x_18 : Int) (h19 : Heap) (m17 : Nat), I15 x_18 h19 m17 →
 (sB (decide (x_18 < (x14.n : Int)))
 ((NB x14.a fun b20 o21 => ((0 ≤ (x_18 : Int) ∧ (x_18 : Int) < (x14.n : Nat)) ∧
 (∃ x22 : Int, ∃ x23 : Bool, ∃ x24 : Int, ∃ x25 : Int, ∃ x26 : Int, ∃ x27 : Bool, atC h19 ⟨b20, o21 + Int.toNat x_18 * 6, none⟩ [.int .i64 x22, .bool x23, .int .i64 x24, .int .i64 x25, .int .i64 x26, .bool x27] ∧
 (∀ h28 : Heap, h28 = h19.push (.cells ⟨[.int .i64 0, .bool false, .int .i64 0, .int .i64 0, .int .i64 0, .bool false]⟩ 45) →
 (okAt h28 ⟨h19.size, 0, none⟩ 6 ∧ ∀ h29 : Heap, h29 = hputs h28 ⟨h19.size, 0, none⟩ 0 [.int .i64 x22, .bool x23, .int .i64 x24, .int .i64 x25, .int .i64 x26, .bool x27] →
 (∃ x30 : Int, hc h29 ⟨h19.size, 0, none⟩ = some (.int .i64 x30) ∧
 (sB (decide (x30 < 0))
 (R (.bool false) h29)
 ((∃ x31 : Int, hc h29 ⟨h19.size, 0, none⟩ = some (.int .i64 x31) ∧
 (∃ x32 : Int, hc h29 ⟨h.size, 1, none⟩ = some (.int .i64 x32) ∧
 (sB (decide (x31 ≥ x32))
 (R (.bool false) h29)
 ((∃ x33 : Int, hc h29 ⟨h19.size, 4, none⟩ = some (.int .i64 x33) ∧
 (sB (decide (x33 < 0))
 (R (.bool false) h29)
 ((∃ x34 : Int, hc h29 ⟨h19.size, 4, none⟩ = some (.int .i64 x34) ∧
 (∃ x35 : Int, hc h29 ⟨h.size, 1, none⟩ = some (.int .i64 x35) ∧
 (sB (decide (x34 ≥ x35))
 (R (.bool false) h29)
 ((∃ m36, m36 < m17 ∧ I15 (IntKind.wrap .i64 (x_18 + 1)) h29 m36)))))))))))))))))))))
 ((∃ x37 : Sl, hc h19 ⟨h.size, 5, none⟩ = some (.slice x37.a x37.n x37.c) ∧
 (∃ I38 : Int → Heap → Nat → Prop, (∃ m39, I38 0 h19 m39) ∧
 (∀ (_ : Env) (x_41 : Int) (h42 : Heap) (m40 : Nat), I38 x_41 h42 m40 →
 (sB (decide (x_41 < (x37.n : Int)))
 ((NB x37.a fun b43 o44 => ((0 ≤ (x_41 : Int) ∧ (x_41 : Int) < (x37.n : Nat)) ∧
 (∃ x45 : Int, ∃ x46 : Int, ∃ x47 : Int, atC h42 ⟨b43, o44 + Int.toNat x_41 * 3, none⟩ [.int .i64 x45, .int .i64 x46, .int .i64 x47] ∧
 (∀ h48 : Heap, h48 = h42.push (.cells ⟨[.int .i64 0, .int .i64 0, .int .i64 0]⟩ 63) →
 (okAt h48 ⟨h42.size, 0, none⟩ 3 ∧ ∀ h49 : Heap, h49 = hputs h48 ⟨h42.size, 0, none⟩ 0 [.int .i64 x45, .int .i64 x46, .int .i64 x47] →
 (∃ x50 : Int, hc h49 ⟨h42.size, 0, none⟩ = some (.int .i64 x50) ∧
 (sB (decide (x50 < 0))
 (R (.bool false) h49)
 ((∃ x51 : Int, hc h49 ⟨h42.size, 0, none⟩ = some (.int .i64 x51) ∧
 (∃ x52 : Int, hc h49 ⟨h.size, 1, none⟩ = some (.int .i64 x52) ∧
 (sB (decide (x51 ≥ x52))
 (R (.bool false) h49)
 ((∃ x53 : Int, hc h49 ⟨h42.size, 2, none⟩ = some (.int .i64 x53) ∧
 (sB (decide (x53 < 0))
 (R (.bool false) h49)
 ((∃ x54 : Int, hc h49 ⟨h42.size, 2, none⟩ = some (.int .i64 x54) ∧
 (∃ x55 : Sl, hc h49 ⟨h.size, 4, none⟩ = some (.slice x55.a x55.n x55.c) ∧
 (sB (decide (x54 ≥ (x55.n : Int)))
 (R (.bool false) h49)
 ((∃ x56 : Sl, hc h49 ⟨h.size, 4, none⟩ = some (.slice x56.a x56.n x56.c) ∧
 (∃ x57 : Int, hc h49 ⟨h42.size, 2, none⟩ = some (.int .i64 x57) ∧
 (NB x56.a fun b58 o59 => ((0 ≤ (x57 : Int) ∧ (x57 : Int) < (x56.n : Nat)) ∧
 (∃ x60 : Int, hc h49 ⟨b58, o59 + Int.toNat x57 * 6, none⟩ = some (.int .i64 x60) ∧
 (∃ x61 : Int, hc h49 ⟨h42.size, 0, none⟩ = some (.int .i64 x61) ∧
 (sB (x60 != x61)
 (R (.bool false) h49)
 ((∃ m62, m62 < m40 ∧ I38 (IntKind.wrap .i64 (x_41 + 1)) h49 m62)))))))))))))))))))))))))))))
 (R (.bool true) h42)))))))))))))))))))))))))
theorem vc17e (p0_1 : Int) (p0_2 : Int) (p0_3 : Int) (p0_4 : Sl) (p0_5 : Sl) (p0_6 : Sl) (h : Heap) (R : Value → Heap → Prop) : W17 p0_1 p0_2 p0_3 p0_4 p0_5 p0_6 h R = fnW Tryz.prog 17 (.s .z (.s .z (.s (.s .z (.b (.l [(33, .one (.int .i64))] .z))) (.s (.s .z (.b (.l [(63, .one (.int .i64))] .z))) .z)))) #[.agg ⟨[.int .i64 p0_1, .int .i64 p0_2, .int .i64 p0_3, .slice p0_4.a p0_4.n p0_4.c, .slice p0_5.a p0_5.n p0_5.c, .slice p0_6.a p0_6.n p0_6.c]⟩] h R := by kernel_rfl
theorem vc17 (p0_1 : Int) (p0_2 : Int) (p0_3 : Int) (p0_4 : Sl) (p0_5 : Sl) (p0_6 : Sl) (h : Heap) (R : Value → Heap → Prop) (H : W17 p0_1 p0_2 p0_3 p0_4 p0_5 p0_6 h R) : Fn Tryz.prog 17 #[.agg ⟨[.int .i64 p0_1, .int .i64 p0_2, .int .i64 p0_3, .slice p0_4.a p0_4.n p0_4.c, .slice p0_5.a p0_5.n p0_5.c, .slice p0_6.a p0_6.n p0_6.c]⟩] h R := fnI (vc17e p0_1 p0_2 p0_3 p0_4 p0_5 p0_6 h R) H

/- farandole/farandoleref25.Out
 loop rrlrborlbrrlb: k_23:Int
 loop rrlrb: out_11:Sl, i_12:Int -/
def W26 (p0_1 : Int) (p0_2 : Bool) (p0_3 : Int) (p0_4 : Int) (p0_5 : Int) (p0_6 : Bool) (p1_7 : Int) (p1_8 : Bool) (p1_9 : Int) (p1_10 : Int) (p1_11 : Int) (p1_12 : Bool) (h : Heap) (R : Value → Heap → Prop) : Prop :=
 (∀ h13 : Heap, h13 = h.push (.cells ⟨[.int .i64 p0_1, .bool p0_2, .int .i64 p0_3, .int .i64 p0_4, .int .i64 p0_5, .bool p0_6]⟩ 45) →
 (∀ h14 : Heap, h14 = h13.push (.cells ⟨[.int .i64 p1_7, .bool p1_8, .int .i64 p1_9, .int .i64 p1_10, .int .i64 p1_11, .bool p1_12]⟩ 45) →
 (∃ x15 : Bool, hc h14 ⟨h.size, 1, none⟩ = some (.bool x15) ∧
 (∃ x16 : Bool, hc h14 ⟨h13.size, 1, none⟩ = some (.bool x16) ∧
 (sB (!(x15 == x16))
 ((∃ x17 : Bool, hc h14 ⟨h.size, 1, none⟩ = some (.bool x17) ∧
 R (.bool x17) h14))
 ((∃ x18 : Int, hc h14 ⟨h.size, 2, none⟩ = some (.int .i64 x18) ∧
 (∃ x19 : Int, hc h14 ⟨h13.size, 2, none⟩ = some (.int .i64 x19) ∧
 (sB (x18 != x19)
 ((∃ x20 : Int, hc h14 ⟨h.size, 2, none⟩ = some (.int .i64 x20) ∧
 (∃ x21 : Int, hc h14 ⟨h13.size, 2, none⟩ = some (.int .i64 x21) ∧
 R (.bool (decide (x20 < x21))) h14)))
 ((∃ x22 : Int, hc h14 ⟨h.size, 3, none⟩ = some (.int .i64 x22) ∧
 (∃ x23 : Int, hc h14 ⟨h13.size, 3, none⟩ = some (.int .i64 x23) ∧
 R (.bool (decide (x22 < x23))) h14))))))))))))
theorem vc26e (p0_1 : Int) (p0_2 : Bool) (p0_3 : Int) (p0_4 : Int) (p0_5 : Int) (p0_6 : Bool) (p1_7 : Int) (p1_8 : Bool) (p1_9 : Int) (p1_10 : Int) (p1_11 : Int) (p1_12 : Bool) (h : Heap) (R : Value → Heap → Prop) : W26 p0_1 p0_2 p0_3 p0_4 p0_5 p0_6 p1_7 p1_8 p1_9 p1_10 p1_11 p1_12 h R = fnW Tryz.prog 26 .z #[.agg ⟨[.int .i64 p0_1, .bool p0_2, .int .i64 p0_3, .int .i64 p0_4, .int .i64 p0_5, .bool p0_6]⟩, .agg ⟨[.int .i64 p1_7, .bool p1_8, .int .i64 p1_9, .int .i64 p1_10, .int .i64 p1_11, .bool p1_12]⟩] h R := by kernel_rfl
theorem vc26 (p0_1 : Int) (p0_2 : Bool) (p0_3 : Int) (p0_4 : Int) (p0_5 : Int) (p0_6 : Bool) (p1_7 : Int) (p1_8 : Bool) (p1_9 : Int) (p1_10 : Int) (p1_11 : Int) (p1_12 : Bool) (h : Heap) (R : Value → Heap → Prop) (H : W26 p0_1 p0_2 p0_3 p0_4 p0_5 p0_6 p1_7 p1_8 p1_9 p1_10 p1_11 p1_12 h R) : Fn Tryz.prog 26 #[.agg ⟨[.int .i64 p0_1, .bool p0_2, .int .i64 p0_3, .int .i64 p0_4, .int .i64 p0_5, .bool p0_6]⟩, .agg ⟨[.int .i64 p1_7, .bool p1_8, .int .i64 p1_9, .int .i64 p1_10, .int .i64 p1_11, .bool p1_12]⟩] h R := fnI (vc26e p0_1 p0_2 p0_3 p0_4 p0_5 p0_6 p1_7 p1_8 p1_9 p1_10 p1_11 p1_12 h R) H

/- farandole/farandoleref25.Limit
 loop rlrb: i_11:Int -/
/- farandole/farandolelaw25.ProjectMinimal
 loop rrrrrrrlrborrlbrrrb: x_67:Int
 loop rrrrrrrrlrborbrrborrlbrrborrlbrrrrlrb: ok_140:Bool, j_141:Int
 loop rrrrrrrrlrborbrrborrlbrrb: changed_111:Bool, x_112:Int
 loop rrrrrrrrlrborbrrb: changed_104:Bool, x_105:Int
 loop rrrrrrrrrlrborrlbrrb: x_244:Int
 loop rrrrrrrrrlrb: x_238:Int
 loop rrrrrrrrlrb: changed_99:Bool
 loop rrrrrrrlrb: x_58:Int -/
end Go.VC
end

section
/- The example, and that the laws are awake. -/
namespace Go.VC
open Go.Proofs Go.LexS
set_option maxRecDepth 100000

def exD (x : Nm) : Dc := ⟨x, ⟨none, 0, 0⟩, 0, ⟨none, 0, 0⟩, ⟨none, 0, 0⟩, [], [], []⟩
def exEs : Bool → List Ed
  | true => [⟨0, 0, 1, 0, 1, false⟩, ⟨0, 0, 1, 1, 2, false⟩, ⟨1, 1, 2, 0, 3, false⟩, ⟨2, 1, 2, 1, 4, false⟩, ⟨3, 2, 1, 2, 5, false⟩, ⟨4, 2, 1, 3, 5, false⟩]
  | false => [⟨0, 0, 1, 0, 1, false⟩, ⟨0, 0, 1, 1, 2, false⟩, ⟨1, 2, 1, 2, 3, false⟩, ⟨2, 2, 1, 3, 3, false⟩]
def exGl (b : Bool) (hr hd he ht : Sl) : Gl := ⟨[101], hr, hd, if b then 6 else 4, 0, if b then 5 else 3, he, ht, [[112], [113], [114]], [exD [97], exD [98], exD [99], exD [100]], exEs b, []⟩
theorem edge70 (p0 p1 p2 p3 p4 : Int) (h : Heap) : Fn Tryz.prog 70 #[.int .i64 p0, .int .i64 p1, .int .i64 p2, .int .i64 p3, .int .i64 p4] h fun v h' => v = .agg ⟨Ed.cs ⟨p0, p1, p2, p3, p4, false⟩⟩ ∧ Ext h h' := by
  apply vc70; unfold W70
  have hs := St.refl h
  refine hs.newput (vs := Ed.cs ⟨p0, p1, p2, p3, p4, false⟩) rfl rfl fun h2 hs => ?_
  exact ⟨_, _, _, _, _, _, hs.at 0 rfl (n := 6) rfl, rfl, hs.ext⟩
theorem RL.none_ {α : Type} {h : Heap} {k : Nat} {cs : α → List Value} : RL h k ⟨none, 0, 0⟩ cs [] := ⟨Rw.nil, Nat.le_refl _, fun _ => ⟨rfl, rfl⟩, Nat.zero_le _⟩
theorem St.rl {α : Type} {h0 h : Heap} {L : List It} (hs : St h0 h L) (k : Nat) {s : Sl} {e : TypeId} {n : Nat} {cs : α → List Value} {l : List α} (hk : L[k]? = some (.sl s e n (l.map cs))) (hn : 0 < n) (hl : l.length ≤ 1048576) : RL h n s cs l := by
  have := hs.len k hk hn
  exact ⟨hs.rows k hk hn, this.2.1, this.2.2, hl⟩
theorem nmrows (L : List Nm) : ∀ r ∈ L.map nmC, r.length = 1 := fun r hr => by obtain ⟨x, _, rfl⟩ := List.mem_map.1 hr; rfl
theorem dcrows (L : List Dc) : ∀ r ∈ L.map Dc.cs, r.length = 5 := fun r hr => by obtain ⟨x, _, rfl⟩ := List.mem_map.1 hr; rfl
theorem edrows (L : List Ed) : ∀ r ∈ L.map Ed.cs, r.length = 6 := fun r hr => by obtain ⟨x, _, rfl⟩ := List.mem_map.1 hr; rfl
set_option maxHeartbeats 1000000 in
theorem example34 (b : Bool) (h : Heap) : Fn Tryz.prog 34 #[.bool b] h fun v h' => Ext h h' ∧ ∃ hr hd he : Sl, v = (exGl b hr hd he ⟨none, 0, 0⟩).v ∧ GI h' (exGl b hr hd he ⟨none, 0, 0⟩) := by
  apply vc34; unfold W34
  have hs := St.refl h
  refine hs.newb fun h1 hs => ?_
  refine hs.newb fun h2 hs => ?_
  have hs := hs.blkS 3 1 ([[112], [113], [114]].map nmC) rfl (nmrows _) rfl (by decide)
  refine hs.newb fun h3 hs => ?_
  have hs := hs.blkS 4 5 ([exD [97], exD [98], exD [99], exD [100]].map Dc.cs) rfl (dcrows _) rfl (by decide)
  refine hs.newput (vs := [.string (bs [101]), .slice (some ⟨h1.size, 0, none⟩) 3 3, .slice (some ⟨h2.size, 0, none⟩) 4 4, .int .i64 4, .int .i64 0, .int .i64 3, .slice none 0 0, .slice none 0 0]) rfl rfl fun h5 hs => ?_
  refine (edge70 _ _ _ _ _ _).mono ?_
  rintro _ _ ⟨rfl, E⟩
  replace hs := hs.step E
  clear E
  refine ⟨_, _, _, _, _, _, rfl, ?_⟩
  refine (edge70 _ _ _ _ _ _).mono ?_
  rintro _ _ ⟨rfl, E⟩
  replace hs := hs.step E
  clear E
  refine ⟨_, _, _, _, _, _, rfl, ?_⟩
  refine (edge70 _ _ _ _ _ _).mono ?_
  rintro _ _ ⟨rfl, E⟩
  replace hs := hs.step E
  clear E
  refine ⟨_, _, _, _, _, _, rfl, ?_⟩
  refine (edge70 _ _ _ _ _ _).mono ?_
  rintro _ _ ⟨rfl, E⟩
  replace hs := hs.step E
  clear E
  refine ⟨_, _, _, _, _, _, rfl, ?_⟩
  refine hs.newb fun h38 hs => ?_
  have hs := hs.blkS 4 6 ((exEs false).map Ed.cs) rfl (edrows _) rfl (by decide)
  refine hs.put 1 rfl (o := 6) (vs := [.slice (some ⟨_, 0, none⟩) 4 4]) rfl (show 7 ≤ 8 by decide) fun h39 hs => ?_
  cases b
  · refine sB_f rfl ?_
    refine ⟨_, ⟨some ⟨h1.size, 0, none⟩, 3, 3⟩, ⟨some ⟨h2.size, 0, none⟩, 4, 4⟩, _, _, _, ⟨some ⟨_, 0, none⟩, 4, 4⟩, ⟨none, 0, 0⟩, hs.at 1 rfl (n := 8) rfl, ?_⟩
    refine hs.put 4 rfl (o := 0) (vs := (exGl false ⟨some ⟨h1.size, 0, none⟩, 3, 3⟩ ⟨some ⟨h2.size, 0, none⟩, 4, 4⟩ ⟨some ⟨_, 0, none⟩, 4, 4⟩ ⟨none, 0, 0⟩).cs) rfl (show 8 ≤ 8 by decide) fun h117 hs => ?_
    refine ⟨_, ⟨some ⟨h1.size, 0, none⟩, 3, 3⟩, ⟨some ⟨h2.size, 0, none⟩, 4, 4⟩, _, _, _, ⟨some ⟨_, 0, none⟩, 4, 4⟩, ⟨none, 0, 0⟩, hs.at 4 rfl (n := 8) rfl, hs.ext, _, _, _, rfl, ?_⟩
    refine ⟨hs.rl 3 rfl (by decide) (show 3 ≤ 1048576 by decide), ⟨hs.rl 2 rfl (by decide) (show 4 ≤ 1048576 by decide), fun d hd => ?_⟩, hs.rl 0 rfl (by decide) (show 4 ≤ 1048576 by decide), RL.none_⟩
    have hd : d ∈ [exD [97], exD [98], exD [99], exD [100]] := hd
    simp only [List.mem_cons, List.not_mem_nil, or_false] at hd
    rcases hd with rfl | rfl | rfl | rfl <;> exact ⟨RL.none_, RL.none_, RL.none_⟩
  · refine sB_t rfl ?_
    refine hs.put 1 rfl (o := 3) (vs := [.int .i64 6]) rfl (show 4 ≤ 8 by decide) fun h40 hs => ?_
    refine hs.put 1 rfl (o := 5) (vs := [.int .i64 5]) rfl (show 6 ≤ 8 by decide) fun h41 hs => ?_
    refine (edge70 _ _ _ _ _ _).mono ?_
    rintro _ _ ⟨rfl, E⟩
    replace hs := hs.step E
    clear E
    refine ⟨_, _, _, _, _, _, rfl, ?_⟩
    refine (edge70 _ _ _ _ _ _).mono ?_
    rintro _ _ ⟨rfl, E⟩
    replace hs := hs.step E
    clear E
    refine ⟨_, _, _, _, _, _, rfl, ?_⟩
    refine (edge70 _ _ _ _ _ _).mono ?_
    rintro _ _ ⟨rfl, E⟩
    replace hs := hs.step E
    clear E
    refine ⟨_, _, _, _, _, _, rfl, ?_⟩
    refine (edge70 _ _ _ _ _ _).mono ?_
    rintro _ _ ⟨rfl, E⟩
    replace hs := hs.step E
    clear E
    refine ⟨_, _, _, _, _, _, rfl, ?_⟩
    refine (edge70 _ _ _ _ _ _).mono ?_
    rintro _ _ ⟨rfl, E⟩
    replace hs := hs.step E
    clear E
    refine ⟨_, _, _, _, _, _, rfl, ?_⟩
    refine (edge70 _ _ _ _ _ _).mono ?_
    rintro _ _ ⟨rfl, E⟩
    replace hs := hs.step E
    clear E
    refine ⟨_, _, _, _, _, _, rfl, ?_⟩
    refine hs.newb fun h90 hs => ?_
    have hs := hs.blkS 6 6 ((exEs true).map Ed.cs) rfl (edrows _) rfl (by decide)
    refine hs.put 2 rfl (o := 6) (vs := [.slice (some ⟨_, 0, none⟩) 6 6]) rfl (show 7 ≤ 8 by decide) fun h91 hs => ?_
    refine ⟨_, ⟨some ⟨h1.size, 0, none⟩, 3, 3⟩, ⟨some ⟨h2.size, 0, none⟩, 4, 4⟩, _, _, _, ⟨some ⟨_, 0, none⟩, 6, 6⟩, ⟨none, 0, 0⟩, hs.at 2 rfl (n := 8) rfl, ?_⟩
    refine hs.put 5 rfl (o := 0) (vs := (exGl true ⟨some ⟨h1.size, 0, none⟩, 3, 3⟩ ⟨some ⟨h2.size, 0, none⟩, 4, 4⟩ ⟨some ⟨_, 0, none⟩, 6, 6⟩ ⟨none, 0, 0⟩).cs) rfl (show 8 ≤ 8 by decide) fun h117 hs => ?_
    refine ⟨_, ⟨some ⟨h1.size, 0, none⟩, 3, 3⟩, ⟨some ⟨h2.size, 0, none⟩, 4, 4⟩, _, _, _, ⟨some ⟨_, 0, none⟩, 6, 6⟩, ⟨none, 0, 0⟩, hs.at 5 rfl (n := 8) rfl, hs.ext, _, _, _, rfl, ?_⟩
    refine ⟨hs.rl 4 rfl (by decide) (show 3 ≤ 1048576 by decide), ⟨hs.rl 3 rfl (by decide) (show 4 ≤ 1048576 by decide), fun d hd => ?_⟩, hs.rl 0 rfl (by decide) (show 6 ≤ 1048576 by decide), RL.none_⟩
    have hd : d ∈ [exD [97], exD [98], exD [99], exD [100]] := hd
    simp only [List.mem_cons, List.not_mem_nil, or_false] at hd
    rcases hd with rfl | rfl | rfl | rfl <;> exact ⟨RL.none_, RL.none_, RL.none_⟩

deriving instance DecidableEq for Ed
theorem ex_valid (b : Bool) (hr hd he ht : Sl) : ValidS (exGl b hr hd he ht) := by
  have hrs : (exGl b hr hd he ht).rs = [[112], [113], [114]] := rfl
  have hds : (exGl b hr hd he ht).ds = [exD [97], exD [98], exD [99], exD [100]] := rfl
  have hes : (exGl b hr hd he ht).es = exEs b := rfl
  have hall : allF [exD [97], exD [98], exD [99], exD [100]] = [] := rfl
  have get3 : ∀ {α : Type} {P : Nat → α → Prop} {l : List α}, (∀ i (hi : i < l.length), P i l[i]) → ∀ i x, l[i]? = some x → P i x := by
    intro α P l h i x hx
    obtain ⟨h1, h2⟩ := List.getElem?_eq_some_iff.1 hx
    rw [← h2]; exact h i h1
  refine ⟨⟨by rfl, by rw [hrs]; decide, by rw [hrs]; decide, ?_⟩, ⟨?_, ?_, ?_⟩, ?_, ⟨?_, ?_, ?_⟩, ?_, ?_, ?_⟩
  · rw [hrs]
    refine get3 (P := fun i s => isWord s = true ∧ s ∉ List.take i [[112], [113], [114]]) fun i hi => ?_
    have hi : i < 3 := hi
    match i, hi with
    | 0, _ => exact of_decide_eq_true rfl
    | 1, _ => exact of_decide_eq_true rfl
    | 2, _ => exact of_decide_eq_true rfl
  · cases b <;> exact ⟨of_decide_eq_true rfl, of_decide_eq_true rfl, of_decide_eq_true rfl, of_decide_eq_true rfl, of_decide_eq_true rfl, of_decide_eq_true rfl⟩
  · rw [hes]; cases b <;> decide
  · rw [hes]
    unfold EdS
    rw [hrs, hds]
    cases b
    · show ∀ x ∈ exEs false, 0 ≤ x.f ∧ 0 ≤ x.t ∧ 0 ≤ x.a ∧ 0 ≤ x.b ∧ 0 ≤ x.l ∧ x.f < 4 ∧ x.t < 4 ∧ x.a < ((3 : Nat) : Int) ∧ x.b < ((3 : Nat) : Int) ∧ x.a ≠ x.b ∧ x.l < ((4 : Nat) : Int)
      decide
    · show ∀ x ∈ exEs true, 0 ≤ x.f ∧ 0 ≤ x.t ∧ 0 ≤ x.a ∧ 0 ≤ x.b ∧ 0 ≤ x.l ∧ x.f < 6 ∧ x.t < 6 ∧ x.a < ((3 : Nat) : Int) ∧ x.b < ((3 : Nat) : Int) ∧ x.a ≠ x.b ∧ x.l < ((4 : Nat) : Int)
      decide
  · rw [hds]
    refine ⟨by decide, by rw [hall]; decide, ?_⟩
    refine get3 (P := fun i d => DcS [exD [97], exD [98], exD [99], exD [100]] i d) fun i hi => ?_
    have hi : i < 4 := hi
    have hg : GuardS [] [] [] := ⟨by decide, by decide, fun x hx => (by cases hx), fun x hx => (by cases hx)⟩
    match i, hi with
    | 0, _ => exact ⟨by rfl, of_decide_eq_true rfl, of_decide_eq_true rfl, by rfl, fun k f hf => (by cases hf), by rw [hall]; exact hg⟩
    | 1, _ => exact ⟨by rfl, of_decide_eq_true rfl, of_decide_eq_true rfl, by rfl, fun k f hf => (by cases hf), by rw [hall]; exact hg⟩
    | 2, _ => exact ⟨by rfl, of_decide_eq_true rfl, of_decide_eq_true rfl, by rfl, fun k f hf => (by cases hf), by rw [hall]; exact hg⟩
    | 3, _ => exact ⟨by rfl, of_decide_eq_true rfl, of_decide_eq_true rfl, by rfl, fun k f hf => (by cases hf), by rw [hall]; exact hg⟩
  · rw [hes]; cases b
    · show ∀ x ∈ exEs false, x.f ≠ 3
      decide
    · show ∀ x ∈ exEs true, x.f ≠ 5
      decide
  · rw [hes]; cases b
    · show ∀ x ∈ exEs false, x.ag = true → x.f ≠ 0
      decide
    · show ∀ x ∈ exEs true, x.ag = true → x.f ≠ 0
      decide
  · rw [hes]
    have key : ((exEs b).zipIdx.all fun p => (exEs b).zipIdx.all fun q => !decide ((p.2 ≠ q.2 ∧ p.1.f = q.1.f ∧ ((p.1.a = q.1.a ∧ p.1.b = q.1.b ∧ p.1.l = q.1.l) ∨ p.1.a ≠ q.1.a ∨ p.1.ag = true)) ∨ (p.1.ag = true ∧ q.1.t = p.1.f ∧ (p.1.a ≠ q.1.a ∨ p.1.l ≠ q.1.l)))) = true := by
      cases b <;> decide
    intro i x hx k y hy hbad
    have h1 := List.all_eq_true.1 key (x, i) (List.mem_iff_getElem?.2 ⟨i, by rw [List.getElem?_zipIdx, hx]; simp⟩)
    have h2 := List.all_eq_true.1 h1 (y, k) (List.mem_iff_getElem?.2 ⟨k, by rw [List.getElem?_zipIdx, hy]; simp⟩)
    have h3 := of_decide_eq_false (Bool.not_eq_true' _ ▸ h2)
    exact h3 hbad
  · intro i t ht; exact absurd ht (by show ([] : List To)[i]? ≠ some t; simp)
  · intro v h0 h1
    rw [hes]
    cases b
    · have h1 : v < 4 := h1
      show Rch (exEs false) false 0 v
      have s0 : Rch (exEs false) false 0 0 := .refl
      have s1 : Rch (exEs false) false 0 1 := .step s0 ⟨⟨0, 0, 1, 0, 1, false⟩, by decide, rfl, rfl⟩
      have s2 : Rch (exEs false) false 0 2 := .step s0 ⟨⟨0, 0, 1, 1, 2, false⟩, by decide, rfl, rfl⟩
      have s3 : Rch (exEs false) false 0 3 := .step s1 ⟨⟨1, 2, 1, 2, 3, false⟩, by decide, rfl, rfl⟩
      have : v = 0 ∨ v = 1 ∨ v = 2 ∨ v = 3 := by omega
      rcases this with rfl | rfl | rfl | rfl <;> assumption
    · have h1 : v < 6 := h1
      show Rch (exEs true) false 0 v
      have s0 : Rch (exEs true) false 0 0 := .refl
      have s1 : Rch (exEs true) false 0 1 := .step s0 ⟨⟨0, 0, 1, 0, 1, false⟩, by decide, rfl, rfl⟩
      have s2 : Rch (exEs true) false 0 2 := .step s0 ⟨⟨0, 0, 1, 1, 2, false⟩, by decide, rfl, rfl⟩
      have s3 : Rch (exEs true) false 0 3 := .step s1 ⟨⟨1, 1, 2, 0, 3, false⟩, by decide, rfl, rfl⟩
      have s4 : Rch (exEs true) false 0 4 := .step s2 ⟨⟨2, 1, 2, 1, 4, false⟩, by decide, rfl, rfl⟩
      have s5 : Rch (exEs true) false 0 5 := .step s3 ⟨⟨3, 2, 1, 2, 5, false⟩, by decide, rfl, rfl⟩
      have : v = 0 ∨ v = 1 ∨ v = 2 ∨ v = 3 ∨ v = 4 ∨ v = 5 := by omega
      rcases this with rfl | rfl | rfl | rfl | rfl | rfl <;> assumption
  · intro v h0 h1
    rw [hes]
    cases b
    · have h1 : v < 4 := h1
      show Rch (exEs false) true 3 v
      have s3 : Rch (exEs false) true 3 3 := .refl
      have s1 : Rch (exEs false) true 3 1 := .step s3 ⟨⟨1, 2, 1, 2, 3, false⟩, by decide, rfl, rfl⟩
      have s2 : Rch (exEs false) true 3 2 := .step s3 ⟨⟨2, 2, 1, 3, 3, false⟩, by decide, rfl, rfl⟩
      have s0 : Rch (exEs false) true 3 0 := .step s1 ⟨⟨0, 0, 1, 0, 1, false⟩, by decide, rfl, rfl⟩
      have : v = 0 ∨ v = 1 ∨ v = 2 ∨ v = 3 := by omega
      rcases this with rfl | rfl | rfl | rfl <;> assumption
    · have h1 : v < 6 := h1
      show Rch (exEs true) true 5 v
      have s5 : Rch (exEs true) true 5 5 := .refl
      have s3 : Rch (exEs true) true 5 3 := .step s5 ⟨⟨3, 2, 1, 2, 5, false⟩, by decide, rfl, rfl⟩
      have s4 : Rch (exEs true) true 5 4 := .step s5 ⟨⟨4, 2, 1, 3, 5, false⟩, by decide, rfl, rfl⟩
      have s1 : Rch (exEs true) true 5 1 := .step s3 ⟨⟨1, 1, 2, 0, 3, false⟩, by decide, rfl, rfl⟩
      have s2 : Rch (exEs true) true 5 2 := .step s4 ⟨⟨2, 1, 2, 1, 4, false⟩, by decide, rfl, rfl⟩
      have s0 : Rch (exEs true) true 5 0 := .step s1 ⟨⟨0, 0, 1, 0, 1, false⟩, by decide, rfl, rfl⟩
      have : v = 0 ∨ v = 1 ∨ v = 2 ∨ v = 3 ∨ v = 4 ∨ v = 5 := by omega
      rcases this with rfl | rfl | rfl | rfl | rfl | rfl <;> assumption
end Go.VC
end

section
/- Contract: the laws of layer 25 are awake. -/
namespace Go.VC
open Go.Proofs Go.LexS
set_option maxRecDepth 100000

def exM : Mch := ⟨2, 4, 0, [false, false, false, true], [⟨0, false, 1, 0, 1, false⟩, ⟨0, false, 1, 1, 2, false⟩, ⟨1, true, 1, 2, 3, false⟩, ⟨2, true, 1, 3, 3, false⟩], []⟩
theorem ex_raw_true (hr hd he ht : Sl) : rawC (exGl true hr hd he ht) 2 = some (some exM, 0) := by kernel_rfl
theorem ex_raw_false (hr hd he ht : Sl) : rawC (exGl false hr hd he ht) 2 = some (none, 18) := by kernel_rfl
theorem ex_min : minF exM = exM := by kernel_rfl
theorem ex_true (hr hd he ht : Sl) : proj (exGl true hr hd he ht) 2 = (some exM, 0) := by
  have := rawC_ok (ex_valid true hr hd he ht) (by decide) (show (2 : Int) < ((3 : Nat) : Int) by decide) (ex_raw_true hr hd he ht)
  unfold proj
  rw [this]
  show (some (minF exM), 0) = _
  rw [ex_min]
theorem ex_false (hr hd he ht : Sl) : proj (exGl false hr hd he ht) 2 = (none, 18) := by
  have := rawC_ok (ex_valid false hr hd he ht) (by decide) (show (2 : Int) < ((3 : Nat) : Int) by decide) (ex_raw_false hr hd he ht)
  unfold proj
  rw [this]
theorem awake10 (h : Heap) (hx : Gx h) : Fn Tryz.prog 10 #[] h fun v h' => v = .bool true ∧ Ext h h' := by
  apply vc10; unfold W10
  have hs := St.refl h
  refine (example34 true h).mono ?_
  rintro _ h10 ⟨E10, hr, hd, he, rfl, hg⟩
  replace hs := hs.step E10
  refine ⟨_, hr, hd, _, _, _, he, ⟨none, 0, 0⟩, rfl, ?_⟩
  refine (project12 _ 2 h10 hg (hx.ext hs.ext)).mono ?_
  rintro _ h19 ⟨E19, hm⟩
  rw [ex_true] at hm
  cases hm with
  | err he0 _ => cases he0
  | @ok m sf sm sl he0 hs2 =>
    cases he0
    have hs := (hs.step (E19)).ext
    have hs := (St.refl h).step hs
    have hs1 : St h h19 (mL exM sf sm sl) := by
      have := (St.step (St.refl h) E10).join hs2
      exact this
    refine ⟨_, _, _, sf, sm, sl, 0, rfl, ?_⟩
    refine hs1.newput (vs := mC exM sf sm sl) rfl rfl fun h21 hs => ?_
    refine (example34 false h21).mono ?_
    rintro _ h31 ⟨E31, hr2, hd2, he2, rfl, hg2⟩
    replace hs := hs.step E31
    refine ⟨_, hr2, hd2, _, _, _, he2, ⟨none, 0, 0⟩, rfl, ?_⟩
    refine (project12 _ 2 h31 hg2 (hx.ext hs.ext)).mono ?_
    rintro _ h40 ⟨E40, hm2⟩
    rw [ex_false] at hm2
    replace hs := hs.step E40
    cases hm2 with
    | ok he1 _ => cases he1
    | @err e he1 h0 =>
      cases he1
      refine ⟨0, 0, 0, ⟨none, 0, 0⟩, ⟨none, 0, 0⟩, ⟨none, 0, 0⟩, 18, rfl, ?_⟩
      refine hs.newput (vs := m0) rfl rfl fun h42 hs => ?_
      refine sB_t rfl (sB_t rfl ?_)
      refine ⟨_, hs.rd 1 rfl rfl, ?_⟩
      refine sB_t rfl ?_
      have hmn := (hs.rows 3 (s := sm) (cs := Mv.cs) rfl (by omega)).ln
      have hfn := (hs.rows 2 (s := sf) (cs := bC) rfl (by omega)).ln
      have hmn : sm.n = 4 := hmn
      have hfn : sf.n = 4 := hfn
      refine ⟨sm, hs.rd 1 rfl rfl, ?_⟩
      refine sBe (fun _ => ?_) (fun c => absurd (by rw [hmn]; rfl) c)
      refine ⟨sm, hs.rd 1 rfl rfl, ?_⟩
      refine (hs.rows 3 (s := sm) (cs := Mv.cs) rfl (by omega)).nbI (by decide) (by rw [hmn]; decide) fun b46 o47 x g46 t46 => ?_
      cases g46
      refine ⟨_, _, _, _, _, _, t46, ?_⟩
      refine sB_t rfl ?_
      refine ⟨sf, hs.rd 1 rfl rfl, ?_⟩
      refine (hs.rows 2 (s := sf) (cs := bC) rfl (by omega)).nbI (by decide) (by rw [hfn]; decide) fun b55 o56 x g55 t55 => ?_
      cases g55
      exact ⟨_, t55.hd, rfl, hs.ext⟩
end Go.VC
end

section
namespace Go.VC
open Go.Proofs
set_option maxRecDepth 100000
set_option linter.unusedVariables false

def W35 (p0_1 : ByteArray) (p0_2 : Sl) (p0_3 : Sl) (p0_4 : Int) (p0_5 : Int) (p0_6 : Int) (p0_7 : Sl) (p0_8 : Sl) (h : Heap) (R : Value → Heap → Prop) : Prop :=
 (∀ h9 : Heap, h9 = h.push (.cells ⟨[.string p0_1, .slice p0_2.a p0_2.n p0_2.c, .slice p0_3.a p0_3.n p0_3.c, .int .i64 p0_4, .int .i64 p0_5, .int .i64 p0_6, .slice p0_7.a p0_7.n p0_7.c, .slice p0_8.a p0_8.n p0_8.c]⟩ 27) →
 (∃ x10 : Sl, hc h9 ⟨h.size, 6, none⟩ = some (.slice x10.a x10.n x10.c) ∧
 (sB (decide ((x10.n : Int) ≤ 50))
 ((∃ x11 : Sl, hc h9 ⟨h.size, 1, none⟩ = some (.slice x11.a x11.n x11.c) ∧
 (sB (decide ((x11.n : Int) ≤ 6))
 ((∃ x12 : Sl, hc h9 ⟨h.size, 2, none⟩ = some (.slice x12.a x12.n x12.c) ∧
 (sB (decide ((x12.n : Int) ≤ 40))
 ((∃ x13 : Sl, hc h9 ⟨h.size, 7, none⟩ = some (.slice x13.a x13.n x13.c) ∧
 R (.bool (decide ((x13.n : Int) ≤ 50))) h9))
 (R (.bool false) h9))))
 (R (.bool false) h9))))
 (R (.bool false) h9))))
theorem vc35e (p0_1 : ByteArray) (p0_2 : Sl) (p0_3 : Sl) (p0_4 : Int) (p0_5 : Int) (p0_6 : Int) (p0_7 : Sl) (p0_8 : Sl) (h : Heap) (R : Value → Heap → Prop) : W35 p0_1 p0_2 p0_3 p0_4 p0_5 p0_6 p0_7 p0_8 h R = fnW Tryz.prog 35 .z #[.agg ⟨[.string p0_1, .slice p0_2.a p0_2.n p0_2.c, .slice p0_3.a p0_3.n p0_3.c, .int .i64 p0_4, .int .i64 p0_5, .int .i64 p0_6, .slice p0_7.a p0_7.n p0_7.c, .slice p0_8.a p0_8.n p0_8.c]⟩] h R := by kernel_rfl
theorem vc35 (p0_1 : ByteArray) (p0_2 : Sl) (p0_3 : Sl) (p0_4 : Int) (p0_5 : Int) (p0_6 : Int) (p0_7 : Sl) (p0_8 : Sl) (h : Heap) (R : Value → Heap → Prop) (H : W35 p0_1 p0_2 p0_3 p0_4 p0_5 p0_6 p0_7 p0_8 h R) : Fn Tryz.prog 35 #[.agg ⟨[.string p0_1, .slice p0_2.a p0_2.n p0_2.c, .slice p0_3.a p0_3.n p0_3.c, .int .i64 p0_4, .int .i64 p0_5, .int .i64 p0_6, .slice p0_7.a p0_7.n p0_7.c, .slice p0_8.a p0_8.n p0_8.c]⟩] h R := fnI (vc35e p0_1 p0_2 p0_3 p0_4 p0_5 p0_6 p0_7 p0_8 h R) H

end Go.VC
end

section
/- Contracts of the reference's small functions over machines. -/
namespace Go.VC
open Go.Proofs Go.LexS
set_option maxRecDepth 100000

def sameMv (x y : Mv) : Bool := decide (x.send = y.send ∧ x.peer = y.peer ∧ x.label = y.label ∧ x.ag = y.ag)
theorem before26 (x y : Mv) (h : Heap) : Fn Tryz.prog 26 #[.agg ⟨x.cs⟩, .agg ⟨y.cs⟩] h fun v h' => v = .bool (decide (evLt x.ev y.ev)) ∧ Ext h h' := by
  apply vc26 x.f x.send x.peer x.label x.t x.ag y.f y.send y.peer y.label y.t y.ag; unfold W26
  have hs := St.refl h
  refine hs.newb fun h13 hs => ?_
  refine hs.newb fun h14 hs => ?_
  refine ⟨_, hs.rd 1 rfl rfl, _, hs.rd 0 rfl rfl, ?_⟩
  have hev : evLt x.ev y.ev ↔ (x.send = true ∧ y.send = false) ∨ (x.send = y.send ∧ (x.peer < y.peer ∨ (x.peer = y.peer ∧ x.label < y.label))) := Iff.rfl
  refine sB_intro (fun c1 => ?_) (fun c1 => ?_)
  · have c1 : x.send ≠ y.send := by simpa using c1
    refine ⟨_, hs.rd 1 rfl rfl, ?_, hs.ext⟩
    congr 1
    cases hx : x.send <;> cases hy : y.send <;> simp [hx, hy] at c1 hev ⊢ <;> simp [hev]
  · have c1 : x.send = y.send := by simpa using c1
    refine ⟨_, hs.rd 1 rfl rfl, _, hs.rd 0 rfl rfl, ?_⟩
    refine sBn (fun c2 => ?_) (fun c2 => ?_)
    · refine ⟨_, hs.rd 1 rfl rfl, _, hs.rd 0 rfl rfl, ?_, hs.ext⟩
      congr 1
      rw [decide_eq_decide, hev, c1]
      constructor
      · intro h; exact .inr ⟨rfl, .inl h⟩
      · rintro (⟨h1, h2⟩ | ⟨_, h | ⟨h, _⟩⟩)
        · rw [h1] at h2; cases h2
        · exact h
        · exact absurd h c2
    · refine ⟨_, hs.rd 1 rfl rfl, _, hs.rd 0 rfl rfl, ?_, hs.ext⟩
      congr 1
      rw [decide_eq_decide, hev, c1]
      constructor
      · intro h; exact .inr ⟨rfl, .inr ⟨c2, h⟩⟩
      · rintro (⟨h1, h2⟩ | ⟨_, h | ⟨_, h⟩⟩)
        · rw [h1] at h2; cases h2
        · omega
        · exact h
def limI (li : List To) (s : Int) : Option Nat := li.findIdx? fun t => decide (t.s = s)
def sameLim (m : Mch) (a b : Int) : Bool := match limI m.li a, limI m.li b with
  | none, none => true
  | some i, some k => match m.li[i]?, m.li[k]? with
    | some x, some y => match m.mv[x.e.toNat]?, m.mv[y.e.toNat]? with
      | some p, some q => decide (x.k = y.k) && sameMv p q
      | _, _ => false
    | _, _ => false
  | _, _ => false
theorem limI_lt {li : List To} {s : Int} {i : Nat} (h : limI li s = some i) : ∃ t, li[i]? = some t ∧ t.s = s := by
  unfold limI at h
  rw [List.findIdx?_eq_some_iff_getElem] at h
  obtain ⟨h1, h2, _⟩ := h
  exact ⟨_, List.getElem?_eq_getElem h1, by simpa using h2⟩
theorem hc_blk {h : Heap} {a : Addr} {v : Value} (hv : hc h a = some v) : a.block < h.size := by
  rcases Nat.lt_or_ge a.block h.size with h1 | h1
  · exact h1
  · unfold VC.hc at hv
    simp [Array.getElem?_eq_none h1] at hv
end Go.VC
end
