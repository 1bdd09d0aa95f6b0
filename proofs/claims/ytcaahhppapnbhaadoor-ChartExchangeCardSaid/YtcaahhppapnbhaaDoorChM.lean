/- The laws of chart: awake, ChartDraw, ChartRead, ChartInverse. -/
import Derived.Test.YtcaahhppapnbhaaDoorChL
set_option linter.unusedVariables false
set_option linter.unusedSimpArgs false

namespace Go.VC
open Go.Proofs Go.LexS Go.ChS Go.RowKit
set_option maxRecDepth 100000

theorem Own.rw {h : Heap} {b e k : Nat} {rows : List (List Value)} (ho : Own h b rows.flatten e) (hk : ∀ r ∈ rows, r.length = k) {c : Nat} : Rw h k ⟨some ⟨b, 0, none⟩, rows.length, c⟩ rows := by
  refine ⟨rfl, fun _ => ⟨b, 0, rfl, fun i row hi j v hj => ?_⟩⟩
  have hr := hk row (List.mem_of_getElem? hi)
  have hjk : j < k := by have := (List.getElem?_eq_some_iff.1 hj).1; omega
  rw [addk_at, Nat.zero_add, ho.hc, getElem?_flatten rows i j row hk hi hjk]; exact hj
theorem few10 (g : Gv) (rs : List Nm) (dl : List Dl) (p : Sl) (h : Heap) (hg : GR h g rs dl) :
    Fn Tryd.prog 10 #[g.v, .slice p.a p.n p.c] h fun v h' => (∃ b, v = .bool b ∧ (b = true → p.n ≤ 12)) ∧ Ext h h' := by
  apply vc10 g.nm g.rs g.ds g.n0 g.n1 g.n2 g.es g.ts p; unfold W10
  have hrn := hg.nr
  have hdn := hg.nd
  have hrb := hg.rn
  have hdb := hg.dn
  refine newb (xs := g.cs) fun h9 E9 o9 => ?_
  have hg9 := hg.ext E9
  have no : (∃ b, Value.bool false = .bool b ∧ (b = true → p.n ≤ 12)) ∧ Ext h h9 := ⟨⟨_, rfl, fun e => by cases e⟩, E9⟩
  refine up_loop (n := g.rs.n) (fun i h' => h' = h9) rfl ?_
  rintro - i h14 hi rfl
  refine ⟨_, o9.hc 1, sB_intro (fun hlt => ?_) (fun hge => ?_)⟩
  · have hlt' := lt_t hlt
    obtain ⟨c, hc⟩ := get_some (l := rs) (i := i) (by omega)
    refine ⟨_, o9.hc 1, hg9.r.nb (strR_get hc) fun b o _ hat => ⟨⟨by omega, by omega⟩, _, hat.hd, sB_intro (fun _ => no) (fun _ => Up.next hlt' (by omega) rfl)⟩⟩
  refine up_loop (n := g.ds.n) (fun i h' => h' = h14) rfl ?_
  rintro - q h25 hq rfl
  refine ⟨_, o9.hc 2, sB_intro (fun hlt => ?_) (fun hge2 => ?_)⟩
  · have hlt' := lt_t hlt
    obtain ⟨c, hc⟩ := get_some (l := dl) (i := q) (by omega)
    refine ⟨_, o9.hc 2, hg9.d.nb (dl_get hc) fun b o _ hat => ⟨⟨by omega, by omega⟩, _, hat.hd, sB_intro (fun _ => no) (fun _ => Up.next hlt' (by omega) rfl)⟩⟩
  refine ⟨_, o9.hc 1, sB_intro (fun _ => ⟨_, o9.hc 2, sB_intro (fun _ => ⟨⟨_, rfl, fun e => ?_⟩, E9⟩) (fun _ => no)⟩) (fun _ => no)⟩
  have := of_decide_eq_true e; omega
def rs0 : List Nm := [[97], [98]]
def dl0 : List Dl := [⟨[120], ⟨none, 0, 0⟩, 0, ⟨none, 0, 0⟩, ⟨none, 0, 0⟩⟩, ⟨[121], ⟨none, 0, 0⟩, 0, ⟨none, 0, 0⟩, ⟨none, 0, 0⟩⟩]
def w0 : List Ix := [⟨0, 1, 0⟩, ⟨1, 0, 1⟩]
def l0 : List Nm := [[97, 32, 32, 32, 32, 98], [124, 45, 120, 45, 62, 124], [124, 60, 121, 45, 45, 124]]
theorem draw0 : drawS rs0 (nms dl0) w0 = some l0 := by decide +kernel
theorem width0 : widthS rs0 (nms dl0) w0 = 5 := by decide +kernel
theorem awake_c (h : Heap) : Fn Tryd.prog 9 #[] h fun v h' => v = .bool true ∧ Ext h h' := by
  apply vc9; unfold W9
  refine newb fun h1 E1 o1 => newb fun h2 E2 o2 => newput (vs := [.string ⟨#[]⟩, .slice (some ⟨h.size, 0, none⟩) 2 2, .slice (some ⟨h1.size, 0, none⟩) 2 2, .int .i64 0, .int .i64 0, .int .i64 0, .slice none 0 0, .slice none 0 0]) rfl fun h4 E4 o4 => newb fun h5 E5 o5 => ?_
  let g : Gv := ⟨⟨#[]⟩, ⟨some ⟨h.size, 0, none⟩, 2, 2⟩, ⟨some ⟨h1.size, 0, none⟩, 2, 2⟩, 0, 0, 0, ⟨none, 0, 0⟩, ⟨none, 0, 0⟩⟩
  have og : Own h5 h2.size g.cs 27 := o4.ext E5
  have hr1 : Rw h1 1 g.rs (strR rs0) := Own.rw (rows := strR rs0) (c := 2) o1 (by decide)
  have hd1 : Rw h2 5 g.ds (dl0.map Dl.cs) := Own.rw (rows := dl0.map Dl.cs) (c := 2) o2 (by decide)
  have hg : GR h5 g rs0 dl0 := ⟨hr1.ext ((E2.trans E4).trans E5), hd1.ext (E4.trans E5), by decide, by decide, Nat.le_refl _⟩
  have hw : Rw h5 3 ⟨some ⟨h4.size, 0, none⟩, 2, 2⟩ (ixR w0) := Own.rw (rows := ixR w0) (c := 2) o5 (by decide)
  have E05 := ((E1.trans E2).trans E4).trans E5
  refine ⟨g.nm, g.rs, g.ds, 0, 0, 0, g.es, g.ts, og.at0, ?_⟩
  refine (draw11 g rs0 dl0 w0 (by decide) ⟨some ⟨h4.size, 0, none⟩, 2, 2⟩ h5 hg hw).mono ?_
  rintro v h17 ⟨E17, s, rfl, hos⟩
  rw [draw0] at hos ⊢
  refine ⟨_, _, rfl, g.nm, g.rs, g.ds, 0, 0, 0, g.es, g.ts, (og.ext E17).at0, ?_⟩
  refine (read16 g rs0 dl0 l0 (by decide) (by decide) s hos.cap h17 (hg.ext E17) hos.strs).mono ?_
  rintro v h29 ⟨E29, hh⟩
  rcases hh with ⟨w, s2, hw2, rfl, hos2⟩ | ⟨hn, _⟩
  rotate_left
  · exact absurd draw0 (hn w0)
  obtain rfl := drawS_inj hw2 draw0
  refine ⟨_, _, rfl, sB_t rfl (sB_t rfl (newb fun h30 E30 o30 => ?_))⟩
  have E1730 := E29.trans E30
  have hl : Rw h30 1 ⟨some ⟨h29.size, 0, none⟩, 3, 3⟩ (strR l0) := Own.rw (rows := strR l0) (c := 3) o30 (by decide)
  refine (same13 l0 l0 (by decide) s ⟨some ⟨h29.size, 0, none⟩, 3, 3⟩ h30 (hos.ext E1730).strs hl).mono ?_
  rintro v h33 ⟨rfl, rfl⟩
  refine ⟨_, rfl, sB_t (by decide) ?_⟩
  refine (same18 w0 w0 (by decide) s2 ⟨some ⟨h4.size, 0, none⟩, 2, 2⟩ h33 (hos2.ext E30).ixs (hw.ext (E17.trans E1730))).mono ?_
  rintro v h36 ⟨rfl, rfl⟩
  refine ⟨_, rfl, sB_t (by decide) ⟨g.nm, g.rs, g.ds, 0, 0, 0, g.es, g.ts, (og.ext (E17.trans E1730)).at0, ?_⟩⟩
  refine (width14 g rs0 dl0 w0 (by decide) ⟨some ⟨h4.size, 0, none⟩, 2, 2⟩ h36 (hg.ext (E17.trans E1730)) (hw.ext (E17.trans E1730))).mono ?_
  rintro v h47 ⟨rfl, E47⟩
  rw [width0]
  exact ⟨_, rfl, rfl, (E05.trans (E17.trans E1730)).trans E47⟩
theorem draw_lenD (rs ds : List Nm) (w : List Ix) : ((drawS rs ds w).getD []).length ≤ 1001 := by
  cases h : drawS rs ds w with
  | none => simp
  | some l => have := draw_len h; simp; omega
theorem law3 (g : Gv) (rs : List Nm) (dl : List Dl) (w : List Ix) (hw : w.length ≤ 9223372036854775807) (p : Sl) (h : Heap) (hg : GR h g rs dl) (hr : Rw h 3 p (ixR w)) :
    Fn Tryd.prog 3 #[g.v, .slice p.a p.n p.c] h fun v h' => v = .bool true ∧ Ext h h' := by
  apply vc3 g.nm g.rs g.ds g.n0 g.n1 g.n2 g.es g.ts p; unfold W3
  refine newb (xs := g.cs) fun h9 E9 o9 => ?_
  refine (awake_c h9).mono ?_
  rintro v h12 ⟨rfl, E12⟩
  refine ⟨_, rfl, sB_f rfl ⟨_, _, _, _, _, _, _, _, (o9.ext E12).at0, ?_⟩⟩
  have E912 := E9.trans E12
  refine (few10 g rs dl p h12 (hg.ext E912)).mono ?_
  rintro v h23 ⟨⟨b, rfl, hb⟩, E23⟩
  have E923 := E912.trans E23
  have og := (o9.ext E12).ext E23
  refine ⟨_, rfl, sB_intro (fun _ => ⟨rfl, E923⟩) (fun _ => ⟨_, _, _, _, _, _, _, _, og.at0, ?_⟩)⟩
  refine (draw11 g rs dl w hw p h23 (hg.ext E923) (hr.ext E923)).mono ?_
  rintro v h35 ⟨E35, s, rfl, hos⟩
  refine ⟨_, _, rfl, _, _, _, _, _, _, _, _, (og.ext E35).at0, ?_⟩
  refine (draw12 g rs dl w hw p h35 (hg.ext (E923.trans E35)) (hr.ext (E923.trans E35))).mono ?_
  rintro v h47 ⟨E47, s2, rfl, hos2⟩
  have E947 := (E923.trans E35).trans E47
  refine ⟨_, _, rfl, ?_⟩
  refine (same13 _ _ (by have := draw_lenD rs (nms dl) w; omega) s s2 h47 (hos.ext E47).strs hos2.strs).mono ?_
  rintro v h50 ⟨rfl, rfl⟩
  have og50 := (og.ext E35).ext E47
  refine ⟨_, rfl, sB_t (decide_eq_true rfl) (sB_t (beq_self_eq_true _) ⟨_, _, _, _, _, _, _, _, og50.at0, _, _, _, _, _, _, _, _, og50.at0, ?_⟩)⟩
  refine (width14 g rs dl w hw p h50 (hg.ext E947) (hr.ext E947)).mono ?_
  rintro v h69 ⟨rfl, E69⟩
  refine ⟨_, rfl, E69.sm, ?_⟩
  refine (width15 g rs dl w hw p h69 (hg.ext (E947.trans E69)) (hr.ext (E947.trans E69))).mono ?_
  rintro v h72 ⟨rfl, E72⟩
  refine ⟨_, rfl, E72.sm, ?_, (E947.trans E69).trans E72⟩
  rw [beq_self_eq_true]
theorem law4 (g : Gv) (rs : List Nm) (dl : List Dl) (L : List Nm) (hLb : L.length ≤ 9223372036854775807) (p : Sl) (hcap : p.n ≤ p.c) (h : Heap) (hg : GR h g rs dl) (hr : Rw h 1 p (strR L)) :
    Fn Tryd.prog 4 #[g.v, .slice p.a p.n p.c] h fun v h' => v = .bool true ∧ Ext h h' := by
  apply vc4 g.nm g.rs g.ds g.n0 g.n1 g.n2 g.es g.ts p; unfold W4
  have hpn : p.n = L.length := by have := hr.1; rwa [strR_len] at this
  refine newb (xs := g.cs) fun h9 E9 o9 => ?_
  refine (awake_c h9).mono ?_
  rintro v h12 ⟨rfl, E12⟩
  refine ⟨_, rfl, sB_f rfl ⟨_, _, _, _, _, _, _, _, (o9.ext E12).at0, ?_⟩⟩
  have E912 := E9.trans E12
  refine (few10 g rs dl ⟨none, 0, 0⟩ h12 (hg.ext E912)).mono ?_
  rintro v h23 ⟨⟨b, rfl, hb⟩, E23⟩
  have E923 := E912.trans E23
  have og := (o9.ext E12).ext E23
  refine ⟨_, rfl, sB_intro (fun _ => ⟨rfl, E923⟩) (fun _ => sB_intro (fun _ => ⟨rfl, E923⟩) (fun _ => ?_))⟩
  refine up_loop (n := p.n) (fun i h' => h' = h23 ∧ ∀ (j : Nat) (s : Nm), j < i → L[j]? = some s → s.length ≤ 1000) ⟨rfl, fun j s hj => by omega⟩ ?_
  rintro - i h28 hi ⟨rfl, hall⟩
  refine sB_intro (fun hlt => ?_) (fun hge => ?_)
  · have hlt' := lt_t hlt
    obtain ⟨c, hc⟩ := get_some (l := L) (i := i) (by omega)
    refine (hr.ext E923).nb (strR_get hc) fun b o _ hat => ⟨⟨by omega, by omega⟩, _, hat.hd, ?_⟩
    rw [bs_size]
    refine sBi (fun _ => ⟨rfl, E923⟩) (fun hle => Up.next hlt' (by omega) ⟨rfl, fun j s hj hs => ?_⟩)
    by_cases e : j = i
    · subst e; rw [hc] at hs; cases hs; omega
    · exact hall j s (by omega) hs
  have hge' := lt_f hge
  have hLs : ∀ s ∈ L, s.length ≤ 1000 := fun s hs => by
    obtain ⟨j, hj⟩ := List.mem_iff_getElem?.1 hs
    exact hall j s (by have := (List.getElem?_eq_some_iff.1 hj).1; omega) hj
  refine ⟨_, _, _, _, _, _, _, _, og.at0, ?_⟩
  refine (read16 g rs dl L hLb hLs p hcap h28 (hg.ext E923) (hr.ext E923)).mono ?_
  rintro v h44 ⟨E44, hA⟩
  have E944 := E923.trans E44
  have og44 := og.ext E44
  rcases hA with ⟨w, s, hd, rfl, hos⟩ | ⟨hn, rfl⟩
  · refine ⟨_, _, rfl, _, _, _, _, _, _, _, _, og44.at0, ?_⟩
    refine (read17 g rs dl L hLb p h44 (hg.ext E944) (hr.ext E944)).mono ?_
    rintro v h56 ⟨E56, hB⟩
    rcases hB with ⟨w2, s2, hd2, rfl, hos2⟩ | ⟨hn, _⟩
    rotate_left
    · exact absurd hd (hn w)
    obtain rfl := drawS_inj hd2 hd
    have hwl := draw_len hd
    have E956 := E944.trans E56
    refine ⟨_, _, rfl, ?_⟩
    refine (same18 w2 w2 (by omega) s s2 h56 (hos.ext E56).ixs hos2.ixs).mono ?_
    rintro v h59 ⟨rfl, rfl⟩
    refine ⟨_, rfl, sB_f (by rw [decide_eq_true rfl]; rfl) (sB_f rfl (sB_f rfl ⟨_, _, _, _, _, _, _, _, (og44.ext E56).at0, ?_⟩))⟩
    refine (draw11 g rs dl w2 (by omega) s h59 (hg.ext E956) (hos.ext E56).ixs).mono ?_
    rintro v h71 ⟨E71, s3, rfl, hos3⟩
    rw [hd] at hos3 ⊢
    refine ⟨_, _, rfl, sB_t rfl ?_⟩
    refine (same13 L L hLb s3 p h71 hos3.strs (hr.ext (E956.trans E71))).mono ?_
    rintro v h74 ⟨rfl, rfl⟩
    exact ⟨_, rfl, by rw [decide_eq_true rfl], E956.trans E71⟩
  · refine ⟨⟨none, 0, 0⟩, _, rfl, _, _, _, _, _, _, _, _, og44.at0, ?_⟩
    refine (read17 g rs dl L hLb p h44 (hg.ext E944) (hr.ext E944)).mono ?_
    rintro v h56 ⟨E56, hB⟩
    rcases hB with ⟨w2, s2, hd2, _, _⟩ | ⟨_, rfl⟩
    · exact absurd hd2 (hn w2)
    refine ⟨⟨none, 0, 0⟩, _, rfl, ?_⟩
    refine (same18 [] [] (by decide) ⟨none, 0, 0⟩ ⟨none, 0, 0⟩ h56 Rw.nil Rw.nil).mono ?_
    rintro v h59 ⟨rfl, rfl⟩
    exact ⟨_, rfl, sB_f rfl (sB_f rfl (sB_t rfl ⟨rfl, E944.trans E56⟩))⟩
end Go.VC
