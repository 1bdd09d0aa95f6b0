/- Contracts: drawable, all, names and can of the reference, both Width. -/
import Derived.Test.YtcaahhppapnbhaaDoorChB
set_option linter.unusedVariables false
set_option linter.unusedSimpArgs false

namespace Go.VC
open Go.Proofs Go.LexS Go.ChS
set_option maxRecDepth 100000

theorem u9 : Tryd.prog.underlying 9 = some .string := by kernel_rfl
theorem u65 : Tryd.prog.underlying 65 = some (.slice 5) := by kernel_rfl
theorem u5 : Tryd.prog.underlying 5 = some (.int .u8) := by kernel_rfl
theorem toBytes (L : List UInt8) (h : Heap) : RunW Tryd.prog (Go.convert 9 65 (.string (bs L))) h fun v h' => Ext h h' ∧ ∃ s : Sl, v = .slice s.a s.n s.c ∧ Rw h' 1 s (byteR L) := by
  intro w hw
  have hrun := run_bytes_of_string (P := Tryd.prog) w 9 65 5 (bs L) u9 u65 u5
  generalize grownCap w (bs L).size 0 5 = cap at hrun
  refine ⟨_, _, hrun, ?_, rfl, rfl, rfl⟩
  subst hw
  refine ⟨Ext.push .., ⟨some ⟨w.heap.size, 0, none⟩, (bs L).size, cap⟩, rfl, ?_⟩
  refine ⟨by simp [byteR, bs_size], fun _ => ⟨_, _, rfl, fun i row hi j v hj => ?_⟩⟩
  have hlen : i < L.length := by have := (List.getElem?_eq_some_iff.1 hi).1; simpa [byteR] using this
  obtain ⟨c, hc⟩ := get_some hlen
  rw [byteR_get hc] at hi; cases hi
  have hj0 : j = 0 := by
    have := (List.getElem?_eq_some_iff.1 hj).1; simp at this; exact this
  subst hj0; cases hj
  have hblk : ∀ (o : Obj), (w.drew.alloc o).heap[w.heap.size]? = some o := fun o => push_eq
  unfold VC.hc
  rw [addk_at]
  simp only [hblk]
  simp only [Option.isSome_none, Bool.false_eq_true, if_false, bytesRow]
  rw [Array.getElem?_append_left (by simp; rw [bs_size]; omega)]
  rw [Array.getElem?_map, ← Array.getElem?_toList, bs_list, Nat.add_zero, Nat.mul_one, Nat.zero_add, hc]; rfl

theorem drawable_f {rs ds : List Nm} (h : ¬ (1 ≤ rs.length ∧ rs.length ≤ 6 ∧ ds.length ≤ 40 ∧ rs.Nodup ∧ ds.Nodup ∧ (∀ r ∈ rs, Go.ChS.isName r = true) ∧ ∀ d ∈ ds, okLabel d = true)) : drawableS rs ds = false :=
  Bool.eq_false_iff.2 fun hd => h (drawable_cond hd)
theorem drawable_t {rs ds : List Nm} (h : 1 ≤ rs.length ∧ rs.length ≤ 6 ∧ ds.length ≤ 40 ∧ rs.Nodup ∧ ds.Nodup ∧ (∀ r ∈ rs, Go.ChS.isName r = true) ∧ ∀ d ∈ ds, okLabel d = true) : drawableS rs ds = true := by
  obtain ⟨a, b, c, d, e, f, g⟩ := h
  unfold drawableS
  rw [decide_eq_true a, decide_eq_true b, decide_eq_true c, decide_eq_true d, decide_eq_true e, List.all_eq_true.2 f, List.all_eq_true.2 g]; rfl
theorem any_not {p : Nm → Bool} {L : List Nm} : L.any (fun s => !p s) = !L.all p := by
  induction L with
  | nil => rfl
  | cons a l ih => rw [List.any_cons, List.all_cons, ih, Bool.not_and]
theorem wrong40 (s : Nm) (h : Heap) : Fn Tryd.prog 40 #[.string (bs s)] h fun v h' => v = .bool (!okLabel s) ∧ Ext h h' := by
  apply vc40; unfold W40
  rw [strEq, bs_list, bs_size]
  unfold okLabel
  refine sB_intro (fun he => ⟨?_, Ext.refl h⟩) (fun hne => ?_)
  · have : s = [] := of_decide_eq_true he
    subst this; rfl
  have hne : s ≠ [] := of_decide_eq_false hne
  rw [List.isEmpty_eq_false_iff.2 hne]
  refine sB_intro (fun hgt => ⟨?_, Ext.refl h⟩) (fun hgt => ?_)
  · rw [decide_eq_false (by have := of_decide_eq_true hgt; omega)]; rfl
  have h50 : s.length ≤ 50 := by have := of_decide_eq_false hgt; omega
  rw [decide_eq_true h50]
  have hb := toBytes s h
  unfold RunW at hb ⊢
  intro w hw
  obtain ⟨v, w', h1, ⟨E, sl, rfl, hr⟩, h2, h3, h4⟩ := hb w hw
  refine ⟨_, _, h1, ⟨sl, rfl, ?_⟩, h2, h3, h4⟩
  refine (any41 42 (by kernel_rfl) (fun c => !chl c) not42 s (by omega) sl _ hr).mono ?_
  rintro v h6 ⟨rfl, rfl⟩
  refine ⟨_, rfl, ?_, E⟩
  congr 1
  induction s with
  | nil => rfl
  | cons a l ih =>
    have : ∀ l : List UInt8, l.any (fun c => !chl c) = !l.all chl := fun l => by
      induction l with
      | nil => rfl
      | cons a l ih => rw [List.any_cons, List.all_cons, ih, Bool.not_and]
    rw [this]; rfl
theorem notname46 (s : Nm) (h : Heap) : Fn Tryd.prog 46 #[.string (bs s)] h fun v h' => v = .bool (!Go.ChS.isName s) ∧ Ext h h' := by
  apply vc46; unfold W46
  refine (lexname (bs s) h).mono ?_
  rintro v h1 ⟨rfl, rfl⟩
  rw [bs_list]
  exact ⟨_, rfl, rfl, Ext.refl _⟩
theorem nms_len (dl : List Dl) : (nms dl).length = dl.length := by simp
theorem drawable24 (g : Gv) (rs : List Nm) (dl : List Dl) (h : Heap) (hg : GR h g rs dl) :
    Fn Tryd.prog 24 #[g.v] h fun v h' => v = .bool (drawableS rs (nms dl)) ∧ Ext h h' := by
  apply vc24 g.nm g.rs g.ds g.n0 g.n1 g.n2 g.es g.ts; unfold W24
  refine newb (xs := g.cs) fun h9 E9 o9 => ⟨_, _, _, _, _, _, _, _, o9.at0, ?_⟩
  have hrn := hg.nr
  have hrb := hg.rn
  have hdb := hg.dn
  refine (labels39 g rs dl h9 (hg.ext E9)).mono ?_
  rintro v h20 ⟨E20, s, rfl, hos⟩
  have hsn : s.n = dl.length := by have := hos.len; rw [strC, List.length_map, nms_len] at this; omega
  refine ⟨_, rfl, _, (o9.ext E20).hc 1, sB_intro (fun h1 => ⟨?_, E9.trans E20⟩) (fun h1 => ?_)⟩
  · rw [drawable_f (fun ⟨a, _⟩ => by have := of_decide_eq_true h1; omega)]
  refine ⟨_, (o9.ext E20).hc 1, sB_intro (fun h2 => ⟨?_, E9.trans E20⟩) (fun h2 => ?_)⟩
  · rw [drawable_f (fun ⟨_, a, _⟩ => by have := of_decide_eq_true h2; omega)]
  refine sB_intro (fun h3 => ⟨?_, E9.trans E20⟩) (fun h3 => ?_)
  · rw [drawable_f (fun ⟨_, _, a, _⟩ => by have := of_decide_eq_true h3; rw [nms_len] at a; omega)]
  refine ⟨_, (o9.ext E20).hc 1, ?_⟩
  refine (distinct44 rs hrb g.rs h20 ((hg.ext (E9.trans E20)).r) hg.rc).mono ?_
  rintro v h26 ⟨rfl, rfl⟩
  refine ⟨_, rfl, sB_intro (fun h4 => ⟨?_, E9.trans E20⟩) (fun h4 => ?_)⟩
  · rw [drawable_f (fun ⟨_, _, _, a, _⟩ => by rw [decide_eq_true a] at h4; cases h4)]
  refine (distinct44 (nms dl) (by rw [nms_len]; omega) s h26 hos.strs hos.cap).mono ?_
  rintro v h29 ⟨rfl, rfl⟩
  refine ⟨_, rfl, sB_intro (fun h5 => ⟨?_, E9.trans E20⟩) (fun h5 => ?_)⟩
  · rw [drawable_f (fun ⟨_, _, _, _, a, _⟩ => by rw [decide_eq_true a] at h5; cases h5)]
  refine (any45 40 (by kernel_rfl) (fun s => !okLabel s) wrong40 (nms dl) (by rw [nms_len]; omega) s h29 hos.strs).mono ?_
  rintro v h32 ⟨rfl, E32⟩
  rw [any_not]
  refine ⟨_, rfl, sB_intro (fun h6 => ⟨?_, (E9.trans E20).trans E32⟩) (fun h6 => ?_)⟩
  · rw [drawable_f (fun ⟨_, _, _, _, _, _, a⟩ => by rw [List.all_eq_true.2 a] at h6; cases h6)]
  refine ⟨_, (o9.ext (E20.trans E32)).hc 1, ?_⟩
  refine (any45 46 (by kernel_rfl) (fun s => !Go.ChS.isName s) notname46 rs hrb g.rs h32 ((hg.ext ((E9.trans E20).trans E32)).r)).mono ?_
  rintro v h36 ⟨rfl, E36⟩
  refine ⟨_, rfl, ?_, ((E9.trans E20).trans E32).trans E36⟩
  rw [any_not, Bool.not_not]
  rw [Bool.not_eq_false'] at h6 h4 h5
  cases hn : rs.all Go.ChS.isName
  · rw [drawable_f (fun ⟨_, _, _, _, _, a, _⟩ => by rw [List.all_eq_true.2 a] at hn; cases hn)]
  · rw [drawable_t ⟨by have := of_decide_eq_false h1; omega, by have := of_decide_eq_false h2; omega, by have := of_decide_eq_false h3; rw [nms_len]; omega, of_decide_eq_true h4, of_decide_eq_true h5, List.all_eq_true.1 hn, List.all_eq_true.1 h6⟩]
/-! ### proper and all -/
theorem role55 (n : Int) (b o : Nat) (s : Sl) (h : Heap) (hs : hc h ⟨b, o + 1, none⟩ = some (.slice s.a s.n s.c)) :
    Fn Tryd.prog 55 #[.int .i64 n, .pointer (some ⟨b, o, none⟩)] h fun v h' => v = .bool (decide (0 ≤ n) && decide (n < s.n)) ∧ h' = h := by
  apply vc55; unfold W55
  refine sB_intro (fun h0 => ⟨_, hs, ?_, rfl⟩) (fun h0 => ⟨?_, rfl⟩)
  · rw [decide_eq_true (show 0 ≤ n from of_decide_eq_true h0)]; rfl
  · rw [decide_eq_false (show ¬ 0 ≤ n from of_decide_eq_false h0)]; rfl
theorem proper33 (g : Gv) (rs : List Nm) (dl : List Dl) (x : Ix) (h : Heap) (hg : GR h g rs dl) :
    Fn Tryd.prog 33 #[g.v, .agg ⟨ixC x⟩] h fun v h' => v = .bool (properS rs.length dl.length x) ∧ Ext h h' := by
  apply vc33 g.nm g.rs g.ds g.n0 g.n1 g.n2 g.es g.ts x.f x.t x.l; unfold W33
  have hrn := hg.nr
  have hdn := hg.nd
  refine newb (xs := g.cs) fun h12 E12 o12 => newb (xs := ixC x) fun h13 E13 o13 => ⟨_, o13.hc 0, ?_⟩
  have og := o12.ext E13
  have hpf : ∀ (b : Bool), (properS rs.length dl.length x = b) → (Value.bool b = Value.bool (properS rs.length dl.length x)) := fun b hb => by rw [hb]
  refine (role55 x.f h.size 0 g.rs h13 (og.hc 1)).mono ?_
  rintro v h17 ⟨rfl, rfl⟩
  rw [hrn]
  have hfa : ∀ (hn : ¬ (0 ≤ x.f ∧ x.f < rs.length ∧ 0 ≤ x.t ∧ x.t < rs.length ∧ x.f ≠ x.t ∧ 0 ≤ x.l ∧ x.l < dl.length)), Value.bool false = Value.bool (properS rs.length dl.length x) := fun hn =>
    hpf _ (Bool.eq_false_iff.2 fun hp => hn (proper_cond hp))
  have EE := E12.trans E13
  refine ⟨_, rfl, sB_intro (fun h1 => ⟨_, o13.hc 1, ?_⟩) (fun h1 => ⟨hfa (fun ⟨a, b, _⟩ => by rw [decide_eq_true a, decide_eq_true b] at h1; cases h1), EE⟩)⟩
  refine (role55 x.t h.size 0 g.rs h17 (og.hc 1)).mono ?_
  rintro v h21 ⟨rfl, rfl⟩
  rw [hrn]
  refine ⟨_, rfl, sB_intro (fun h2 => ⟨_, o13.hc 0, _, o13.hc 1, ?_⟩) (fun h2 => ⟨hfa (fun ⟨_, _, a, b, _⟩ => by rw [decide_eq_true a, decide_eq_true b] at h2; cases h2), EE⟩)⟩
  refine sB_intro (fun h3 => ⟨_, o13.hc 2, ?_⟩) (fun h3 => ⟨hfa fun ⟨_, _, _, _, a, _⟩ => a (by simpa using h3), EE⟩)
  refine sB_intro (fun h4 => ⟨_, o13.hc 2, _, og.hc 2, ?_, EE⟩) (fun h4 => ⟨hfa fun ⟨_, _, _, _, _, a, _⟩ => by have := of_decide_eq_false h4; omega, EE⟩)
  rw [hdn]
  rw [Bool.and_eq_true] at h1 h2
  unfold properS
  rw [h1.1, h1.2, h2.1, h2.2, decide_eq_true (show x.f ≠ x.t by simpa using h3), decide_eq_true (show 0 ≤ x.l from of_decide_eq_true h4)]; rfl
theorem all19 (g : Gv) (rs : List Nm) (dl : List Dl) (w : List Ix) (hw : w.length ≤ 9223372036854775807) (s : Sl) (h : Heap) (hg : GR h g rs dl) (hr : Rw h 3 s (ixR w)) :
    Fn Tryd.prog 19 #[g.v, .slice s.a s.n s.c] h fun v h' => v = .bool (allS rs (nms dl) w) ∧ Ext h h' := by
  apply vc19 g.nm g.rs g.ds g.n0 g.n1 g.n2 g.es g.ts s; unfold W19
  refine newb (xs := g.cs) fun h9 E9 o9 => ⟨_, _, _, _, _, _, _, _, o9.at0, ?_⟩
  refine (drawable24 g rs dl h9 (hg.ext E9)).mono ?_
  rintro v h20 ⟨rfl, E20⟩
  unfold allS
  refine ⟨_, rfl, sB_intro (fun h1 => ?_) (fun h1 => ⟨by rw [h1]; rfl, E9.trans E20⟩)⟩
  rw [h1]
  refine (any31 32 (by kernel_rfl) _ (fun x => !properS rs.length dl.length x) w hw s h20 (hr.ext (E9.trans E20)) fun x h1 E1 => ?_).mono ?_
  · apply vc32 x.f x.t x.l ⟨h.size, 0, none⟩; unfold W32
    refine newb (xs := ixC x) fun h4 E4 o4 => ⟨_, _, _, _, _, _, _, _, (o9.ext ((E20.trans E1).trans E4)).at0, _, _, _, o4.at0, ?_⟩
    refine (proper33 g rs dl x h4 (hg.ext (((E9.trans E20).trans E1).trans E4))).mono ?_
    rintro v h18 ⟨rfl, E18⟩
    exact ⟨_, rfl, rfl, E4.trans E18⟩
  · rintro v h23 ⟨rfl, E23⟩
    refine ⟨_, rfl, ?_, (E9.trans E20).trans E23⟩
    rw [nms_len]
    have : ∀ l : List Ix, l.any (fun x => !properS rs.length dl.length x) = !l.all (properS rs.length dl.length) := fun l => by
      induction l with
      | nil => rfl
      | cons a l ih => rw [List.any_cons, List.all_cons, ih, Bool.not_and]
    rw [this, Bool.not_not]; rfl
end Go.VC
