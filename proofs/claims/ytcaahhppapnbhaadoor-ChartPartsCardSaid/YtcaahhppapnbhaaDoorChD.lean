/- Contracts: the reference's names and can; both Width. -/
import Derived.Test.YtcaahhppapnbhaaDoorChC
set_option linter.unusedVariables false
set_option linter.unusedSimpArgs false

namespace Go.VC
open Go.Proofs Go.LexS Go.ChS
set_option maxRecDepth 100000

theorem scan_mem {p : Nm → Bool} {L : List Nm} (h : ∀ (j : Nat) (y : Nm), j < L.length → L[j]? = some y → p y = true) : ∀ y ∈ L, p y = true := fun y hy => by
  obtain ⟨j, hj⟩ := List.mem_iff_getElem?.1 hy
  exact h j y (List.getElem?_eq_some_iff.1 hj).1 hj
theorem take_next {L : List Nm} {i k : Nat} {x y : Nm} (hki : k < i) (hy : L[k]? = some y) (hne : ¬ y = x) (h : x ∉ L.take k) : x ∉ L.take (k + 1) := by
  rw [take_snoc hy, List.mem_append]
  rintro (hm | hm)
  · exact h hm
  · rw [List.mem_singleton] at hm; exact hne hm.symm
theorem take_mem {L : List Nm} {i k : Nat} {x : Nm} (hki : k < i) (hx : L[k]? = some x) : x ∈ L.take i :=
  List.mem_iff_getElem?.2 ⟨k, by rw [List.getElem?_take_of_lt hki]; exact hx⟩
theorem names29 (g : Gv) (rs : List Nm) (dl : List Dl) (h : Heap) (hg : GR h g rs dl) :
    Fn Tryd.prog 29 #[g.v] h fun v h' => v = .bool (drawableS rs (nms dl)) ∧ Ext h h' := by
  apply vc29 g.nm g.rs g.ds g.n0 g.n1 g.n2 g.es g.ts; unfold W29
  refine newb (xs := g.cs) fun h9 E9 o9 => ?_
  have hrn := hg.nr
  have hdn := hg.nd
  have hrb := hg.rn
  have hdb := hg.dn
  have hg9 := hg.ext E9
  clear hg
  have F : (¬ (1 ≤ rs.length ∧ rs.length ≤ 6 ∧ (nms dl).length ≤ 40 ∧ rs.Nodup ∧ (nms dl).Nodup ∧ (∀ r ∈ rs, Go.ChS.isName r = true) ∧ ∀ d ∈ nms dl, okLabel d = true)) → Value.bool false = .bool (drawableS rs (nms dl)) ∧ Ext h h9 := fun hn => ⟨by rw [drawable_f hn], E9⟩
  refine ⟨_, o9.hc 1, sB_intro (fun h1 => F fun ⟨a, _⟩ => by have := of_decide_eq_true h1; omega) (fun h1 => ?_)⟩
  refine ⟨_, o9.hc 1, sB_intro (fun h2 => F fun ⟨_, a, _⟩ => by have := of_decide_eq_true h2; omega) (fun h2 => ?_)⟩
  refine ⟨_, o9.hc 2, sB_intro (fun h3 => F fun ⟨_, _, a, _⟩ => by have := of_decide_eq_true h3; rw [nms_len] at a; omega) (fun h3 => ?_)⟩
  refine up_loop (n := g.rs.n) (fun i h' => h' = h9 ∧ (∀ (j : Nat) (y : Nm), j < i → rs[j]? = some y → Go.ChS.isName y = true) ∧ ∀ (j : Nat) (y : Nm), j < i → rs[j]? = some y → y ∉ rs.take j) ⟨rfl, fun j y hj => by omega, fun j y hj => by omega⟩ ?_
  rintro - i h17 hi ⟨rfl, hnm, hnd⟩
  refine ⟨_, o9.hc 1, sB_intro (fun hlt => ?_) (fun hge => ?_)⟩
  · have hlt' := lt_t hlt
    obtain ⟨c, hc⟩ := get_some (l := rs) (i := i) (by omega)
    refine ⟨_, o9.hc 1, hg9.r.nb (strR_get hc) fun b o _ hat => ⟨⟨by omega, by omega⟩, _, hat.hd, ?_⟩⟩
    refine (refname (bs c) h17).mono ?_
    rintro v h25 ⟨rfl, rfl⟩
    rw [bs_list]
    refine ⟨_, rfl, sB_intro (fun hb => F fun ⟨_, _, _, _, _, a, _⟩ => by rw [a c (List.mem_of_getElem? hc)] at hb; cases hb) (fun hb => ?_)⟩
    rw [Bool.not_eq_false'] at hb
    refine up_loop (n := i) (fun k h' => h' = h25 ∧ c ∉ rs.take k) ⟨rfl, by simp⟩ ?_
    rintro - k h30 hk ⟨rfl, hnot⟩
    refine sB_intro (fun hlt2 => ?_) (fun hge2 => ?_)
    · have hlt2' := lt_t hlt2
      obtain ⟨d, hd⟩ := get_some (l := rs) (i := k) (by omega)
      refine ⟨_, o9.hc 1, hg9.r.nb (strR_get hd) fun b o _ hat => ⟨⟨by omega, by omega⟩, _, hat.hd, ?_⟩⟩
      refine ⟨_, o9.hc 1, hg9.r.nb (strR_get hc) fun b o _ hat => ⟨⟨by omega, by omega⟩, _, hat.hd, ?_⟩⟩
      rw [strEq, bs_list, bs_list]
      refine sB_intro (fun he => F fun ⟨_, _, _, a, _⟩ => ?_) (fun hne => ?_)
      · have : d = c := of_decide_eq_true he
        subst this
        exact not_nodup hc (take_mem hlt2' hd) a
      · exact Up.next hlt2' (by omega) ⟨rfl, take_next hlt2' hd (of_decide_eq_false hne) hnot⟩
    · have hge2' := lt_f hge2
      obtain rfl : k = i := by omega
      refine Up.next hlt' (by omega) ⟨rfl, fun j y hj hy => ?_, fun j y hj hy => ?_⟩
      · by_cases e : j = k
        · subst e; rw [hc] at hy; cases hy; exact hb
        · exact hnm j y (by omega) hy
      · by_cases e : j = k
        · subst e; rw [hc] at hy; cases hy; exact hnot
        · exact hnd j y (by omega) hy
  have hge' := lt_f hge
  have hnames : ∀ r ∈ rs, Go.ChS.isName r = true := scan_mem fun j y hj hy => hnm j y (by omega) hy
  have hnodup : rs.Nodup := nodup_of fun j y hy => hnd j y (by have := (List.getElem?_eq_some_iff.1 hy).1; omega) hy
  clear hnm hnd
  refine up_loop (n := g.ds.n) (fun i h' => h' = h17 ∧ (∀ (j : Nat) (y : Nm), j < i → (nms dl)[j]? = some y → okLabel y = true) ∧ ∀ (j : Nat) (y : Nm), j < i → (nms dl)[j]? = some y → y ∉ (nms dl).take j) ⟨rfl, fun j y hj => by omega, fun j y hj => by omega⟩ ?_
  rintro - q h45 hq ⟨rfl, hok, hnd⟩
  refine ⟨_, o9.hc 2, sB_intro (fun hlt => ?_) (fun hge2 => ?_)⟩
  · have hlt' := lt_t hlt
    obtain ⟨d, hd⟩ := get_some (l := dl) (i := q) (by omega)
    have hdn' := nms_get hd
    refine ⟨_, o9.hc 2, hg9.d.nb (dl_get hd) fun b o _ hat => ⟨⟨by omega, by omega⟩, _, hat.hd, ?_⟩⟩
    rw [strEq, bs_list, bs_size]
    have Fo : okLabel d.nm = false → _ := fun hb => F fun ⟨_, _, _, _, _, _, a⟩ => by rw [a d.nm (List.mem_of_getElem? hdn')] at hb; cases hb
    refine sB_intro (fun he => Fo ?_) (fun he => sB_intro (fun hgt => Fo ?_) (fun hgt => ?_))
    · have : d.nm = [] := of_decide_eq_true he
      rw [this]; rfl
    · unfold okLabel
      rw [decide_eq_false (by have := of_decide_eq_true hgt; omega), Bool.and_false, Bool.false_and]
    have hne : d.nm ≠ [] := of_decide_eq_false he
    have h50 : d.nm.length ≤ 50 := by have := of_decide_eq_false hgt; omega
    refine up_loop (n := (bs d.nm).size) (fun k h' => h' = h45 ∧ ∀ (b : UInt8) (j : Nat), j < k → d.nm[j]? = some b → chl b = true) ⟨rfl, fun b j hj => by omega⟩ ?_
    rintro - k h55 hk ⟨rfl, hall⟩
    refine sB_intro (fun hlt2 => ?_) (fun hge3 => ?_)
    · have hlt2' : k < d.nm.length := by have := of_decide_eq_true hlt2; omega
      obtain ⟨c, hc, hby⟩ := byte_get (s := bs d.nm) (i := k) (by rw [bs_size]; exact hlt2')
      rw [bs_list] at hc
      refine ⟨⟨by omega, by omega⟩, ?_⟩
      rw [show Int.toNat (k : Int) = k from rfl, hby]
      refine (chl53 c h55).mono ?_
      rintro v h58 ⟨rfl, rfl⟩
      refine ⟨_, rfl, sB_intro (fun hb => Fo ?_) (fun hb => ?_)⟩
      · unfold okLabel
        rw [all_fail hc (by rw [Bool.not_eq_true'] at hb; exact hb), Bool.and_false]
      · rw [Bool.not_eq_false'] at hb
        refine Up.next (by rw [bs_size]; exact hlt2') (by rw [bs_size]; omega) ⟨rfl, fun b j hj hbj => ?_⟩
        by_cases e : j = k
        · subst e; rw [hc] at hbj; cases hbj; exact hb
        · exact hall b j (by omega) hbj
    · have hge3' : d.nm.length ≤ k := by have := of_decide_eq_false hge3; omega
      have hokd : okLabel d.nm = true := by
        unfold okLabel
        rw [List.isEmpty_eq_false_iff.2 hne, decide_eq_true h50, (all_split chl d.nm).2 fun b j hb => hall b j (by have := (List.getElem?_eq_some_iff.1 hb).1; omega) hb]; rfl
      refine up_loop (n := q) (fun k h' => h' = h55 ∧ d.nm ∉ (nms dl).take k) ⟨rfl, by simp⟩ ?_
      rintro - z h64 hz ⟨rfl, hnot⟩
      refine sB_intro (fun hlt2 => ?_) (fun hge2 => ?_)
      · have hlt2' := lt_t hlt2
        obtain ⟨e, he2⟩ := get_some (l := dl) (i := z) (by omega)
        refine ⟨_, o9.hc 2, hg9.d.nb (dl_get he2) fun b o _ hat => ⟨⟨by omega, by omega⟩, _, hat.hd, ?_⟩⟩
        rw [strEq, bs_list, bs_list]
        refine sB_intro (fun he => F fun ⟨_, _, _, _, a, _⟩ => ?_) (fun hne => ?_)
        · have : e.nm = d.nm := of_decide_eq_true he
          exact not_nodup hdn' (take_mem hlt2' (this ▸ nms_get he2)) a
        · exact Up.next hlt2' (by omega) ⟨rfl, take_next hlt2' (nms_get he2) (of_decide_eq_false hne) hnot⟩
      · have hge2' := lt_f hge2
        obtain rfl : z = q := by omega
        refine Up.next hlt' (by omega) ⟨rfl, fun j y hj hy => ?_, fun j y hj hy => ?_⟩
        · by_cases e : j = z
          · subst e; rw [hdn'] at hy; cases hy; exact hokd
          · exact hok j y (by omega) hy
        · by_cases e : j = z
          · subst e; rw [hdn'] at hy; cases hy; exact hnot
          · exact hnd j y (by omega) hy
  · have hge2' := lt_f hge2
    refine ⟨?_, E9⟩
    rw [drawable_t ⟨by have := of_decide_eq_false h1; omega, by have := of_decide_eq_false h2; omega, by have := of_decide_eq_false h3; rw [nms_len]; omega, hnodup,
      nodup_of fun j y hy => hnd j y (by have := (List.getElem?_eq_some_iff.1 hy).1; rw [nms_len] at this; omega) hy, hnames, scan_mem fun j y hj hy => hok j y (by rw [nms_len] at hj; omega) hy⟩]
theorem all_bad {rs ds : List Nm} {w : List Ix} {i : Nat} {x : Ix} (hx : w[i]? = some x) (hn : ¬ (0 ≤ x.f ∧ x.f < rs.length ∧ 0 ≤ x.t ∧ x.t < rs.length ∧ x.f ≠ x.t ∧ 0 ≤ x.l ∧ x.l < ds.length)) : allS rs ds w = false := by
  rw [Bool.eq_false_iff]
  intro h
  exact hn (proper_cond ((all_cond h).2 x (List.mem_of_getElem? hx)))
theorem can22 (g : Gv) (rs : List Nm) (dl : List Dl) (w : List Ix) (hw : w.length ≤ 9223372036854775807) (s : Sl) (h : Heap) (hg : GR h g rs dl) (hr : Rw h 3 s (ixR w)) :
    Fn Tryd.prog 22 #[g.v, .slice s.a s.n s.c] h fun v h' => v = .bool (allS rs (nms dl) w) ∧ Ext h h' := by
  apply vc22 g.nm g.rs g.ds g.n0 g.n1 g.n2 g.es g.ts s; unfold W22
  refine newb (xs := g.cs) fun h9 E9 o9 => ?_
  have hrn := hg.nr
  have hdn := hg.nd
  have hsn : s.n = w.length := by have := hr.1; rwa [ixR_len] at this
  refine up_loop (n := s.n) (fun i h' => Ext h9 h' ∧ ∀ (j : Nat) (y : Ix), j < i → w[j]? = some y → properS rs.length dl.length y = true) ⟨Ext.refl _, fun j y hj => by omega⟩ ?_
  rintro - i h14 hi ⟨E14, hp⟩
  refine sB_intro (fun hlt => ?_) (fun hge => ?_)
  · have hlt' := lt_t hlt
    obtain ⟨x, hx⟩ := get_some (l := w) (i := i) (by omega)
    refine (hr.ext (E9.trans E14)).nb (ixR_get hx) fun b o _ hat => ⟨⟨by omega, by omega⟩, _, _, _, hat, ?_⟩
    refine newput (vs := ixC x) rfl fun h21 E21 o21 => ⟨_, o21.hc 0, ?_⟩
    have og := o9.ext (E14.trans E21)
    have EE := (E9.trans E14).trans E21
    have F : (¬ (0 ≤ x.f ∧ x.f < rs.length ∧ 0 ≤ x.t ∧ x.t < rs.length ∧ x.f ≠ x.t ∧ 0 ≤ x.l ∧ x.l < dl.length)) → Value.bool false = .bool (allS rs (nms dl) w) ∧ Ext h h21 := fun hn => ⟨by rw [all_bad hx (by rw [nms_len]; exact hn)], EE⟩
    refine sB_intro (fun c => F fun ⟨a, _⟩ => by have := of_decide_eq_true c; omega) (fun c1 => ⟨_, o21.hc 0, _, og.hc 1, ?_⟩)
    refine sB_intro (fun c => F fun ⟨_, a, _⟩ => by have := of_decide_eq_true c; omega) (fun c2 => ⟨_, o21.hc 1, ?_⟩)
    refine sB_intro (fun c => F fun ⟨_, _, a, _⟩ => by have := of_decide_eq_true c; omega) (fun c3 => ⟨_, o21.hc 1, _, og.hc 1, ?_⟩)
    refine sB_intro (fun c => F fun ⟨_, _, _, a, _⟩ => by have := of_decide_eq_true c; omega) (fun c4 => ⟨_, o21.hc 0, _, o21.hc 1, ?_⟩)
    refine sB_intro (fun c => F fun ⟨_, _, _, _, a, _⟩ => a (by simpa using c)) (fun c5 => ⟨_, o21.hc 2, ?_⟩)
    refine sB_intro (fun c => F fun ⟨_, _, _, _, _, a, _⟩ => by have := of_decide_eq_true c; omega) (fun c6 => ⟨_, o21.hc 2, _, og.hc 2, ?_⟩)
    refine sB_intro (fun c => F fun ⟨_, _, _, _, _, _, a⟩ => by have := of_decide_eq_true c; omega) (fun c7 => ?_)
    refine Up.next hlt' (by omega) ⟨E14.trans E21, fun j y hj hy => ?_⟩
    by_cases e : j = i
    · subst e; rw [hx] at hy; cases hy
      have b1 := of_decide_eq_false c1
      have b2 := of_decide_eq_false c2
      have b3 := of_decide_eq_false c3
      have b4 := of_decide_eq_false c4
      have b5 : ¬ x.f = x.t := by simpa using c5
      have b6 := of_decide_eq_false c6
      have b7 := of_decide_eq_false c7
      unfold properS
      rw [decide_eq_true (show 0 ≤ x.f by omega), decide_eq_true (show x.f < rs.length by omega), decide_eq_true (show 0 ≤ x.t by omega), decide_eq_true (show x.t < rs.length by omega), decide_eq_true b5, decide_eq_true (show 0 ≤ x.l by omega), decide_eq_true (show x.l < dl.length by omega)]; rfl
    · exact hp j y (by omega) hy
  · have hge' := lt_f hge
    refine ⟨_, _, _, _, _, _, _, _, (o9.ext E14).at0, ?_⟩
    refine (names29 g rs dl h14 (hg.ext (E9.trans E14))).mono ?_
    rintro v h44 ⟨rfl, E44⟩
    refine ⟨_, rfl, ?_, (E9.trans E14).trans E44⟩
    unfold allS
    rw [show w.all (properS rs.length (nms dl).length) = true from List.all_eq_true.2 fun x hx => by
      obtain ⟨j, hj⟩ := List.mem_iff_getElem?.1 hx
      rw [nms_len]
      exact hp j x (by have := (List.getElem?_eq_some_iff.1 hj).1; omega) hj, Bool.and_true]
/-! ### Width -/
theorem imax_nat (a b : Nat) : imax (a : Int) (b : Int) = ((max a b : Nat) : Int) := by
  unfold imax; split <;> omega
theorem imin_nat (a b : Nat) : imin (a : Int) (b : Int) = ((min a b : Nat) : Int) := by
  unfold imin; split <;> omega
theorem maxS_snoc (n : Nat) (l : List Nm) (s : Nm) : maxS n (l ++ [s]) = max (maxS n l) s.length := by rw [maxS_app]; rfl
theorem proper_label {rs : List Nm} {dl : List Dl} {x : Ix} (h : properS rs.length (nms dl).length x = true) : ∃ d, dl[x.l.toNat]? = some d ∧ nmOf (nms dl) x = d.nm ∧ x.l.toNat < dl.length ∧ (x.l.toNat : Int) = x.l := by
  obtain ⟨_, _, _, _, _, h0, h1⟩ := proper_cond h
  rw [nms_len] at h1
  have hlt : x.l.toNat < dl.length := by omega
  obtain ⟨d, hd⟩ := get_some hlt
  refine ⟨d, hd, ?_, hlt, by omega⟩
  unfold nmOf
  rw [List.getD_eq_getElem?_getD, nms_get hd]; rfl
theorem widthC_bound {rs ds : List Nm} {w : List Ix} (h : allS rs ds w = true) : widthC rs ds w ≤ 54 := by
  obtain ⟨hd, hp⟩ := all_cond h
  obtain ⟨_, _, _, _, _, hn, hok⟩ := drawable_cond hd
  unfold widthC
  have : maxS (maxS 0 rs) (w.map (nmOf ds)) ≤ 50 := by
    refine maxS_le _ _ (maxS_le _ _ (by omega) fun s hs => by have := (name_cond (hn s hs)).2.1; omega) fun s hs => ?_
    obtain ⟨x, hx, rfl⟩ := List.mem_map.1 hs
    obtain ⟨_, _, _, _, _, h0, h1⟩ := proper_cond (hp x hx)
    exact (ok_cond (hok _ (nmOf_mem h0 h1).2)).2.1
  omega
theorem width14 (g : Gv) (rs : List Nm) (dl : List Dl) (w : List Ix) (hw : w.length ≤ 9223372036854775807) (s : Sl) (h : Heap) (hg : GR h g rs dl) (hr : Rw h 3 s (ixR w)) :
    Fn Tryd.prog 14 #[g.v, .slice s.a s.n s.c] h fun v h' => v = .int .i64 (widthS rs (nms dl) w) ∧ Ext h h' := by
  apply vc14 g.nm g.rs g.ds g.n0 g.n1 g.n2 g.es g.ts s; unfold W14
  have hrn := hg.nr
  have hdn := hg.nd
  have hrb := hg.rn
  have hsn : s.n = w.length := by have := hr.1; rwa [ixR_len] at this
  refine newb (xs := g.cs) fun h9 E9 o9 => ⟨_, _, _, _, _, _, _, _, o9.at0, ?_⟩
  refine (all19 g rs dl w hw s h9 (hg.ext E9) (hr.ext E9)).mono ?_
  rintro v h20 ⟨rfl, E20⟩
  unfold widthS
  refine ⟨_, rfl, sB_intro (fun h1 => ⟨?_, E9.trans E20⟩) (fun h1 => ?_)⟩
  · rw [Bool.not_eq_true'] at h1
    rw [h1]; rfl
  rw [Bool.not_eq_false'] at h1
  rw [if_pos h1]
  have hbd := widthC_bound h1
  obtain ⟨hd, hp⟩ := all_cond h1
  refine ⟨_, (o9.ext E20).hc 1, ?_⟩
  refine ⟨fun n x h' m => Up g.rs.n (fun i h' => h' = h20 ∧ n = (maxS 0 (rs.take i) : Nat)) x h' m, Up.zero ⟨rfl, rfl⟩, ?_⟩
  rintro - n x h27 m ⟨i, rfl, rfl, hi, rfl, rfl⟩
  refine sB_intro (fun hlt => ?_) (fun hge => ?_)
  · have hlt' := lt_t hlt
    obtain ⟨c, hc⟩ := get_some (l := rs) (i := i) (by omega)
    refine (hg.ext (E9.trans E20)).r.nb (strR_get hc) fun b o _ hat => ⟨⟨by omega, by omega⟩, _, hat.hd, ?_⟩
    refine Up.next hlt' (by omega) ⟨rfl, ?_⟩
    rw [bs_size, imax_nat, take_snoc hc, maxS_snoc]
  have hge' := lt_f hge
  rw [List.take_of_length_le (by omega)]
  refine ⟨fun n x h' m => Up s.n (fun i h' => Ext h27 h' ∧ n = (maxS (maxS 0 rs) ((w.take i).map (nmOf (nms dl))) : Nat)) x h' m, Up.zero ⟨Ext.refl _, rfl⟩, ?_⟩
  rintro - n x h37 m ⟨k, rfl, rfl, hk, E37, rfl⟩
  have EE := (E9.trans E20).trans E37
  refine sB_intro (fun hlt => ?_) (fun hge => ?_)
  · have hlt' := lt_t hlt
    obtain ⟨y, hy⟩ := get_some (l := w) (i := k) (by omega)
    obtain ⟨d, hd1, hd2, hd3, hd4⟩ := proper_label (hp y (List.mem_of_getElem? hy))
    refine (hr.ext EE).nb (ixR_get hy) fun b o _ hat => ⟨⟨by omega, by omega⟩, _, _, _, hat, ?_⟩
    refine newput (vs := ixC y) rfl fun h44 E44 o44 => ⟨_, (o9.ext ((E20.trans E37).trans E44)).hc 2, _, o44.hc 2, ?_⟩
    refine (hg.ext (EE.trans E44)).d.nb (dl_get hd1) fun b o _ hat => ⟨⟨by omega, by omega⟩, _, hat.hd, ?_⟩
    refine Up.next hlt' (by omega) ⟨E37.trans E44, ?_⟩
    rw [bs_size, imax_nat, take_snoc hy, List.map_append, List.map_singleton, maxS_snoc, hd2]
  · have hge' := lt_f hge
    rw [List.take_of_length_le (by omega)]
    refine ⟨?_, EE⟩
    unfold widthC at hbd ⊢
    rw [w64 (by omega) (by omega)]; rfl
theorem width15 (g : Gv) (rs : List Nm) (dl : List Dl) (w : List Ix) (hw : w.length ≤ 9223372036854775807) (s : Sl) (h : Heap) (hg : GR h g rs dl) (hr : Rw h 3 s (ixR w)) :
    Fn Tryd.prog 15 #[g.v, .slice s.a s.n s.c] h fun v h' => v = .int .i64 (widthS rs (nms dl) w) ∧ Ext h h' := by
  apply vc15 g.nm g.rs g.ds g.n0 g.n1 g.n2 g.es g.ts s; unfold W15
  have hrn := hg.nr
  have hdn := hg.nd
  have hrb := hg.rn
  have hsn : s.n = w.length := by have := hr.1; rwa [ixR_len] at this
  refine newb (xs := g.cs) fun h9 E9 o9 => ⟨_, _, _, _, _, _, _, _, o9.at0, ?_⟩
  refine (can22 g rs dl w hw s h9 (hg.ext E9) (hr.ext E9)).mono ?_
  rintro v h20 ⟨rfl, E20⟩
  unfold widthS
  refine ⟨_, rfl, sB_intro (fun h1 => ⟨?_, E9.trans E20⟩) (fun h1 => ?_)⟩
  · rw [Bool.not_eq_true'] at h1
    rw [h1]; rfl
  rw [Bool.not_eq_false'] at h1
  rw [if_pos h1]
  have hbd := widthC_bound h1
  obtain ⟨hd, hp⟩ := all_cond h1
  have hg20 := hg.ext (E9.trans E20)
  refine ⟨fun n x h' m => Up g.rs.n (fun i h' => h' = h20 ∧ n = (maxS 0 (rs.take i) : Nat)) x h' m, Up.zero ⟨rfl, rfl⟩, ?_⟩
  rintro - n x h27 m ⟨i, rfl, rfl, hi, rfl, rfl⟩
  refine ⟨_, (o9.ext E20).hc 1, sB_intro (fun hlt => ?_) (fun hge => ?_)⟩
  · have hlt' := lt_t hlt
    obtain ⟨c, hc⟩ := get_some (l := rs) (i := i) (by omega)
    refine ⟨_, (o9.ext E20).hc 1, hg20.r.nb (strR_get hc) fun b o _ hat => ⟨⟨by omega, by omega⟩, _, hat.hd, ?_⟩⟩
    refine Up.next hlt' (by omega) ⟨rfl, ?_⟩
    rw [bs_size, imax_nat, take_snoc hc, maxS_snoc]
  have hge' := lt_f hge
  rw [List.take_of_length_le (by omega)]
  refine ⟨fun n x h' m => Up s.n (fun i h' => h' = h27 ∧ n = (maxS (maxS 0 rs) ((w.take i).map (nmOf (nms dl))) : Nat)) x h' m, Up.zero ⟨rfl, rfl⟩, ?_⟩
  rintro - n x h37 m ⟨k, rfl, rfl, hk, rfl, rfl⟩
  refine sB_intro (fun hlt => ?_) (fun hge => ?_)
  · have hlt' := lt_t hlt
    obtain ⟨y, hy⟩ := get_some (l := w) (i := k) (by omega)
    obtain ⟨d, hd1, hd2, hd3, hd4⟩ := proper_label (hp y (List.mem_of_getElem? hy))
    refine ⟨_, (o9.ext E20).hc 2, (hr.ext (E9.trans E20)).nb (ixR_get hy) fun b o _ hat => ⟨⟨by omega, by omega⟩, _, hat.nth 2 rfl, ?_⟩⟩
    refine hg20.d.nb (dl_get hd1) fun b o _ hat => ⟨⟨by omega, by omega⟩, _, hat.hd, ?_⟩
    refine Up.next hlt' (by omega) ⟨rfl, ?_⟩
    rw [bs_size, imax_nat, take_snoc hy, List.map_append, List.map_singleton, maxS_snoc, hd2]
  · have hge' := lt_f hge
    rw [List.take_of_length_le (by omega)]
    refine ⟨?_, E9.trans E20⟩
    unfold widthC at hbd ⊢
    rw [w64 (by omega) (by omega)]; rfl
end Go.VC
