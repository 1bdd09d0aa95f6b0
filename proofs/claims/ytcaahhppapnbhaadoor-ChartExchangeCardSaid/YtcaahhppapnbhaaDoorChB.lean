/- Contracts: equality of lists of strings and of words, index, distinct, labels, drawable, proper, all. -/
import Derived.Test.YtcaahhppapnbhaaDoorChA
set_option linter.unusedVariables false
set_option linter.unusedSimpArgs false

namespace Go.VC
open Go.Proofs Go.LexS Go.ChS
set_option maxRecDepth 100000

theorem same_next {α : Type} {L M : List α} {i : Nat} {x : α} (hx : L[i]? = some x) (hy : M[i]? = some x) (hd : L.take i = M.take i) : L.take (i + 1) = M.take (i + 1) := by
  rw [take_snoc hx, take_snoc hy, hd]
theorem same13 (L M : List Nm) (hL : L.length ≤ 9223372036854775807) (s t : Sl) (h : Heap) (hr : Rw h 1 s (strR L)) (ht : Rw h 1 t (strR M)) :
    Fn Tryd.prog 13 #[.slice s.a s.n s.c, .slice t.a t.n t.c] h fun v h' => v = .bool (decide (L = M)) ∧ h' = h := by
  apply vc13; unfold W13
  have hn : s.n = L.length := by have := hr.1; rwa [strR_len] at this
  have hm : t.n = M.length := by have := ht.1; rwa [strR_len] at this
  refine sB_intro (fun hne => ⟨?_, rfl⟩) (fun heq => ?_)
  · have := natne hne
    rw [decide_eq_false]; rintro rfl; omega
  have hl := nateq heq
  refine up_loop (n := s.n) (fun i h' => h' = h ∧ L.take i = M.take i) ⟨rfl, by simp⟩ ?_
  rintro - i h5 hi ⟨rfl, hd⟩
  refine sB_intro (fun hlt => ?_) (fun hge => ?_)
  · have hlt' := lt_t hlt
    obtain ⟨c, hc⟩ := get_some (l := L) (i := i) (by omega)
    obtain ⟨d, hd'⟩ := get_some (l := M) (i := i) (by omega)
    refine hr.nb (strR_get hc) fun b o _ hat => ⟨⟨by omega, by omega⟩, _, hat.hd, ?_⟩
    refine ht.nb (strR_get hd') fun b o _ hat2 => ⟨⟨by omega, by omega⟩, _, hat2.hd, ?_⟩
    rw [strEq, bs_list, bs_list]
    refine sB_intro (fun hne => ⟨?_, rfl⟩) (fun he => ?_)
    · have : ¬ c = d := by simpa using hne
      rw [decide_eq_false]; rintro rfl; rw [hc] at hd'; cases hd'; exact this rfl
    · have : c = d := by simpa using he
      subst this
      exact Up.next hlt' (by omega) ⟨rfl, same_next hc hd' hd⟩
  · have hge' := lt_f hge
    refine ⟨?_, rfl⟩
    rw [List.take_of_length_le (by omega), List.take_of_length_le (by omega)] at hd
    rw [decide_eq_true hd]
theorem same28 (L M : List Nm) (hL : L.length ≤ 9223372036854775807) (s t : Sl) (h : Heap) (hr : Rw h 1 s (strR L)) (ht : Rw h 1 t (strR M)) :
    Fn Tryd.prog 28 #[.slice s.a s.n s.c, .slice t.a t.n t.c] h fun v h' => v = .bool (decide (L = M)) ∧ h' = h := by
  apply vc28; unfold W28
  have hn : s.n = L.length := by have := hr.1; rwa [strR_len] at this
  have hm : t.n = M.length := by have := ht.1; rwa [strR_len] at this
  refine sB_intro (fun hne => ⟨?_, rfl⟩) (fun heq => ?_)
  · have := natne hne
    rw [decide_eq_false]; rintro rfl; omega
  have hl := nateq heq
  refine up_loop (n := s.n) (fun i h' => h' = h ∧ L.take i = M.take i) ⟨rfl, by simp⟩ ?_
  rintro - i h5 hi ⟨rfl, hd⟩
  refine sB_intro (fun hlt => ?_) (fun hge => ?_)
  · have hlt' := lt_t hlt
    obtain ⟨c, hc⟩ := get_some (l := L) (i := i) (by omega)
    obtain ⟨d, hd'⟩ := get_some (l := M) (i := i) (by omega)
    refine hr.nb (strR_get hc) fun b o _ hat => ⟨⟨by omega, by omega⟩, _, hat.hd, ?_⟩
    refine ht.nb (strR_get hd') fun b o _ hat2 => ⟨⟨by omega, by omega⟩, _, hat2.hd, ?_⟩
    rw [strEq, bs_list, bs_list]
    refine sB_intro (fun hne => ⟨?_, rfl⟩) (fun he => ?_)
    · have : ¬ c = d := by simpa using hne
      rw [decide_eq_false]; rintro rfl; rw [hc] at hd'; cases hd'; exact this rfl
    · have : c = d := by simpa using he
      subst this
      exact Up.next hlt' (by omega) ⟨rfl, same_next hc hd' hd⟩
  · have hge' := lt_f hge
    refine ⟨?_, rfl⟩
    rw [List.take_of_length_le (by omega), List.take_of_length_le (by omega)] at hd
    rw [decide_eq_true hd]
theorem same18 (L M : List Ix) (hL : L.length ≤ 9223372036854775807) (s t : Sl) (h : Heap) (hr : Rw h 3 s (ixR L)) (ht : Rw h 3 t (ixR M)) :
    Fn Tryd.prog 18 #[.slice s.a s.n s.c, .slice t.a t.n t.c] h fun v h' => v = .bool (decide (L = M)) ∧ h' = h := by
  apply vc18; unfold W18
  have hn : s.n = L.length := by have := hr.1; rwa [ixR_len] at this
  have hm : t.n = M.length := by have := ht.1; rwa [ixR_len] at this
  refine sB_intro (fun hne => ⟨?_, rfl⟩) (fun heq => ?_)
  · have := natne hne
    rw [decide_eq_false]; rintro rfl; omega
  have hl := nateq heq
  refine up_loop (n := s.n) (fun i h' => h' = h ∧ L.take i = M.take i) ⟨rfl, by simp⟩ ?_
  rintro - i h5 hi ⟨rfl, hd⟩
  refine sB_intro (fun hlt => ?_) (fun hge => ?_)
  · have hlt' := lt_t hlt
    obtain ⟨c, hc⟩ := get_some (l := L) (i := i) (by omega)
    obtain ⟨d, hd'⟩ := get_some (l := M) (i := i) (by omega)
    refine hr.nb (ixR_get hc) fun b o _ hat => ⟨⟨by omega, by omega⟩, _, _, _, hat, ?_⟩
    refine ht.nb (ixR_get hd') fun b o _ hat2 => ⟨⟨by omega, by omega⟩, _, _, _, hat2, ?_⟩
    obtain ⟨f1, t1, l1⟩ := c
    obtain ⟨f2, t2, l2⟩ := d
    refine sB_intro (fun hne => ⟨?_, rfl⟩) (fun he => ?_)
    · rw [decide_eq_false]; rintro rfl; rw [hc] at hd'; cases hd'; simp at hne
    · simp only [Bool.and_true, Bool.not_eq_false', Bool.and_eq_true, beq_iff_eq] at he
      obtain ⟨rfl, rfl, rfl⟩ := he
      exact Up.next hlt' (by omega) ⟨rfl, same_next hc hd' hd⟩
  · have hge' := lt_f hge
    refine ⟨?_, rfl⟩
    rw [List.take_of_length_le (by omega), List.take_of_length_le (by omega)] at hd
    rw [decide_eq_true hd]
/-- k is the first place of x in L, or -1 -/
def IdxOf (L : List Nm) (x : Nm) (k : Int) : Prop := (∃ i : Nat, k = i ∧ L[i]? = some x) ∨ (k = -1 ∧ x ∉ L)
theorem IdxOf.ge {L : List Nm} {x : Nm} {k : Int} (hk : IdxOf L x k) : decide (k ≥ 0) = decide (x ∈ L) := by
  rcases hk with ⟨i, rfl, hi⟩ | ⟨rfl, hx⟩
  · rw [decide_eq_true (List.mem_of_getElem? hi)]; exact decide_eq_true (by omega)
  · rw [decide_eq_false hx]; rfl
theorem idx51 (L : List Nm) (hL : L.length ≤ 9223372036854775807) (x : ByteArray) (s : Sl) (h : Heap) (hr : Rw h 1 s (strR L)) :
    Fn Tryd.prog 51 #[.slice s.a s.n s.c, .string x] h fun v h' => (∃ k : Int, v = .int .i64 k ∧ IdxOf L x.data.toList k) ∧ h' = h := by
  apply vc51; unfold W51
  have hn : s.n = L.length := by have := hr.1; rwa [strR_len] at this
  refine up_loop (n := s.n) (fun i h' => h' = h ∧ ∀ (j : Nat) (y : Nm), j < i → L[j]? = some y → decide (x.data.toList = y) = false) ⟨rfl, fun j y hj => by omega⟩ ?_
  rintro - i h5 hi ⟨rfl, hd⟩
  refine sB_intro (fun hlt => ?_) (fun hge => ?_)
  · have hlt' := lt_t hlt
    obtain ⟨c, hc⟩ := get_some (l := L) (i := i) (by omega)
    refine hr.nb (strR_get hc) fun b o _ hat => ⟨⟨by omega, by omega⟩, _, hat.hd, ?_⟩
    rw [strEq, bs_list]
    refine sB_intro (fun he => ?_) (fun hne => ?_)
    · have := of_decide_eq_true he
      exact ⟨⟨_, rfl, .inl ⟨i, rfl, by rw [this]; exact hc⟩⟩, rfl⟩
    · exact Up.next hlt' (by omega) ⟨rfl, scan_next (p := fun y => decide (x.data.toList = y)) hc hne hd⟩
  · have hge' := lt_f hge
    refine ⟨⟨_, rfl, .inr ⟨rfl, fun hm => ?_⟩⟩, rfl⟩
    obtain ⟨j, hj⟩ := List.mem_iff_getElem?.1 hm
    have := hd j _ (by have := (List.getElem?_eq_some_iff.1 hj).1; omega) hj
    exact of_decide_eq_false this rfl
theorem has62 (L : List Nm) (hL : L.length ≤ 9223372036854775807) (x : ByteArray) (s : Sl) (h : Heap) (hr : Rw h 1 s (strR L)) :
    Fn Tryd.prog 62 #[.slice s.a s.n s.c, .string x] h fun v h' => v = .bool (decide (x.data.toList ∈ L)) ∧ h' = h := by
  apply vc62; unfold W62
  refine (idx51 L hL x s h hr).mono ?_
  rintro v h3 ⟨⟨k, rfl, hk⟩, rfl⟩
  exact ⟨_, rfl, by rw [hk.ge], rfl⟩
theorem Rw.take {h : Heap} {k : Nat} {s : Sl} {rows : List (List Value)} (hr : Rw h k s rows) {i : Nat} (hi : i ≤ s.n) (c : Nat) : Rw h k ⟨s.a, i, c⟩ (rows.take i) := by
  have h1 := hr.1
  refine ⟨by rw [List.length_take]; simp only; omega, fun hp => ?_⟩
  rw [List.length_take] at hp
  obtain ⟨b, o, ha, hall⟩ := hr.2 (by omega)
  refine ⟨b, o, ha, fun j row hj => hall j row ?_⟩
  rw [List.getElem?_take] at hj
  split at hj
  · exact hj
  · cases hj
theorem nodup_of {L : List Nm} (h : ∀ (i : Nat) (x : Nm), L[i]? = some x → x ∉ L.take i) : L.Nodup := by
  rw [List.Nodup, List.pairwise_iff_getElem]
  intro i j hi hj hij he
  have e : L[j]? = some L[j] := List.getElem?_eq_getElem hj
  refine h j _ e ?_
  rw [List.mem_iff_getElem?]
  exact ⟨i, by rw [List.getElem?_take_of_lt hij, List.getElem?_eq_getElem hi, he]⟩
theorem not_nodup {L : List Nm} {i : Nat} {x : Nm} (hi : L[i]? = some x) (hm : x ∈ L.take i) : ¬ L.Nodup := by
  rw [List.Nodup, List.pairwise_iff_getElem]
  intro h
  obtain ⟨j, hj⟩ := List.mem_iff_getElem?.1 hm
  rw [List.getElem?_take] at hj
  split at hj
  · rename_i hji
    obtain ⟨li, ei⟩ := List.getElem?_eq_some_iff.1 hi
    obtain ⟨lj, ej⟩ := List.getElem?_eq_some_iff.1 hj
    exact h j i lj li hji (ej.trans ei.symm)
  · cases hj
theorem distinct44 (L : List Nm) (hL : L.length ≤ 9223372036854775807) (s : Sl) (h : Heap) (hr : Rw h 1 s (strR L)) (hcap : s.n ≤ s.c) :
    Fn Tryd.prog 44 #[.slice s.a s.n s.c] h fun v h' => v = .bool (decide L.Nodup) ∧ h' = h := by
  apply vc44; unfold W44
  have hn : s.n = L.length := by have := hr.1; rwa [strR_len] at this
  refine up_loop (n := s.n) (fun i h' => h' = h ∧ ∀ (j : Nat) (y : Nm), j < i → L[j]? = some y → y ∉ L.take j) ⟨rfl, fun j y hj => by omega⟩ ?_
  rintro - i h5 hi ⟨rfl, hd⟩
  refine sB_intro (fun hlt => ?_) (fun hge => ?_)
  · have hlt' := lt_t hlt
    obtain ⟨c, hc⟩ := get_some (l := L) (i := i) (by omega)
    refine hr.nb (strR_get hc) fun b o _ hat => ⟨⟨by omega, by omega⟩, _, hat.hd, ⟨by omega, by omega, by omega⟩, ?_⟩
    have hr2 : Rw h5 1 ⟨subA s.a 0 s.c 1, i, s.c - 0⟩ (strR (L.take i)) := by
      rw [subA_zero]
      have := hr.take hi (s.c - 0)
      unfold strR at *
      rwa [List.map_take]
    refine (has62 (L.take i) (by rw [List.length_take]; omega) (bs c) ⟨subA s.a 0 s.c 1, i, s.c - 0⟩ h5 hr2).mono ?_
    rintro v h11 ⟨rfl, rfl⟩
    rw [bs_list]
    refine ⟨_, rfl, sB_intro (fun he => ⟨?_, rfl⟩) (fun hne => ?_)⟩
    · rw [decide_eq_false (not_nodup hc (of_decide_eq_true he))]
    · refine Up.next hlt' (by omega) ⟨rfl, fun j y hj hy => ?_⟩
      by_cases e : j = i
      · subst e; rw [hc] at hy; cases hy; exact of_decide_eq_false hne
      · exact hd j y (by omega) hy
  · have hge' := lt_f hge
    refine ⟨?_, rfl⟩
    rw [decide_eq_true (nodup_of fun j y hy => hd j y (by have := (List.getElem?_eq_some_iff.1 hy).1; omega) hy)]
/-! ### an automaton in memory -/
structure Gv where
  nm : ByteArray
  rs : Sl
  ds : Sl
  n0 : Int
  n1 : Int
  n2 : Int
  es : Sl
  ts : Sl
def Gv.cs (g : Gv) : List Value := [.string g.nm, .slice g.rs.a g.rs.n g.rs.c, .slice g.ds.a g.ds.n g.ds.c, .int .i64 g.n0, .int .i64 g.n1, .int .i64 g.n2, .slice g.es.a g.es.n g.es.c, .slice g.ts.a g.ts.n g.ts.c]
def Gv.v (g : Gv) : Value := .agg ⟨g.cs⟩
/-- a message type's declaration -/
structure Dl where
  nm : Nm
  fs : Sl
  k : Int
  a : Sl
  b : Sl
def Dl.cs (d : Dl) : List Value := [sV d.nm, .slice d.fs.a d.fs.n d.fs.c, .int .i64 d.k, .slice d.a.a d.a.n d.a.c, .slice d.b.a d.b.n d.b.c]
/-- the automaton has these roles and message types -/
structure GR (h : Heap) (g : Gv) (rs : List Nm) (dl : List Dl) : Prop where
  r : Rw h 1 g.rs (strR rs)
  d : Rw h 5 g.ds (dl.map Dl.cs)
  rn : rs.length ≤ 9223372036854775807
  dn : dl.length ≤ 140737488355328 / 16 - 1
  rc : g.rs.n ≤ g.rs.c
theorem GR.ext {h h' : Heap} (hE : Ext h h') {g : Gv} {rs : List Nm} {dl : List Dl} (hg : GR h g rs dl) : GR h' g rs dl := ⟨hg.r.ext hE, hg.d.ext hE, hg.rn, hg.dn, hg.rc⟩
theorem GR.nr {h : Heap} {g : Gv} {rs : List Nm} {dl : List Dl} (hg : GR h g rs dl) : g.rs.n = rs.length := by have := hg.r.1; rwa [strR_len] at this
theorem GR.nd {h : Heap} {g : Gv} {rs : List Nm} {dl : List Dl} (hg : GR h g rs dl) : g.ds.n = dl.length := by have := hg.d.1; rwa [List.length_map] at this
theorem dl_get {dl : List Dl} {i : Nat} {d : Dl} (h : dl[i]? = some d) : (dl.map Dl.cs)[i]? = some d.cs := by rw [List.getElem?_map, h]; rfl
abbrev nms (dl : List Dl) : List Nm := dl.map Dl.nm
theorem nms_get {dl : List Dl} {i : Nat} {d : Dl} (h : dl[i]? = some d) : (nms dl)[i]? = some d.nm := by rw [List.getElem?_map, h]; rfl
theorem app22 : appB Tryd.prog 22 9 1 16 = true := by kernel_rfl
theorem labels39 (g : Gv) (rs : List Nm) (dl : List Dl) (h : Heap) (hg : GR h g rs dl) :
    Fn Tryd.prog 39 #[g.v] h fun v h' => Ext h h' ∧ ∃ s : Sl, v = .slice s.a s.n s.c ∧ OwnS h' h.size 9 1 s (strC (nms dl)) := by
  apply vc39 g.nm g.rs g.ds g.n0 g.n1 g.n2 g.es g.ts; unfold W39
  refine newb (xs := g.cs) fun h9 E9 o9 => ?_
  refine ⟨_, o9.hc 2, ?_⟩
  have hn := hg.nd
  have hdn := hg.dn
  refine ⟨fun s x h' m => Up g.ds.n (fun i h' => Kp h9.size h9 h' ∧ OwnS h' h9.size 9 1 s (strC (nms (dl.take i)))) x h' m, Up.zero ⟨Kp.refl _ _, OwnS.nil⟩, ?_⟩
  rintro - s x h16 m ⟨i, rfl, rfl, hi, K16, hos⟩
  have E16 : Ext h9 h16 := K16.ext
  refine sB_intro (fun hlt => ?_) (fun hge => ?_)
  · have hlt' := lt_t hlt
    obtain ⟨d, hd⟩ := get_some (l := dl) (i := i) (by omega)
    refine ((hg.ext (E9.trans E16)).d).nb (dl_get hd) fun b o _ hat => ⟨⟨by omega, by omega⟩, _, _, _, _, _, hat, ?_⟩
    refine newput (vs := d.cs) rfl fun h25 E25 o25 => ?_
    refine ⟨_, o25.hc 0, ?_⟩
    have hsn : s.n = i := by have := hos.len; rw [strC, List.length_map, List.length_map, List.length_take] at this; omega
    refine App_one app22 (hos.ext E25) (by have := E16.1; have := E25.1; omega) (news := [sV d.nm]) rfl rfl (by omega) (by rw [maxLen]; omega) fun r h29 hrn hr K29 _ => ?_
    refine Up.next hlt' (by omega) ⟨(K16.trans (E25.kp E16.1)).trans K29, ?_⟩
    rw [take_snoc hd]
    have e : strC (nms (dl.take i ++ [d])) = strC (nms (dl.take i)) ++ [sV d.nm] := by unfold strC nms; rw [List.map_append, List.map_append]; rfl
    rw [e]; exact hr
  · have hge' := lt_f hge
    rw [List.take_of_length_le (by omega)] at hos
    exact ⟨E9.trans E16, s, rfl, hos.mono E9.1⟩
end Go.VC
