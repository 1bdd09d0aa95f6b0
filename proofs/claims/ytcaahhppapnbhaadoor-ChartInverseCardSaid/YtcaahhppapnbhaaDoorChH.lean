/- Contracts: strings.Builder, the heading, Draw of chart and of the reference. -/
import Derived.Test.YtcaahhppapnbhaaDoorChG
import Derived.Test.YtcaahhppapnbhaaDoorChBuild
set_option linter.unusedVariables false
set_option linter.unusedSimpArgs false

namespace Go.VC
open Go.Proofs Go.LexS Go.ChS Go.RowKit
set_option maxRecDepth 100000

/-- block b is a strings.Builder that holds l -/
def Bld (h : Heap) (b : Nat) (l : List UInt8) : Prop :=
  ∃ (p : Option Addr) (s : Sl), Own h b [.pointer p, .slice s.a s.n s.c] 67 ∧ OwnS h (b + 1) 5 1 s (byteC l) ∧ (p = none ∨ p = some ⟨b, 0, none⟩)
theorem copyCheck_c (b : Nat) (l : List UInt8) (h : Heap) (hb : Bld h b l) : Fn Tryd.prog 56 #[.pointer (some ⟨b, 0, none⟩)] h fun v h' => v = .tuple ⟨[]⟩ ∧ But b h h' ∧
    ∃ s : Sl, Own h' b [.pointer (some ⟨b, 0, none⟩), .slice s.a s.n s.c] 67 ∧ OwnS h' (b + 1) 5 1 s (byteC l) := by
  obtain ⟨p, s, ho, hs, hp⟩ := hb
  intro w hw
  rcases hp with rfl | rfl
  · have h0 : w.cell? ⟨b, 0, none⟩ = some (.pointer none) := by rw [hc_cell, hw]; exact ho.hc 0
    have hsh : w.shape? b = some (67, 2) := by
      unfold World.shape?; rw [hw, ho]; rfl
    have hfz : w.frozen? ⟨b, 0, none⟩ = false := by
      have := ho.fz 0
      rw [← hw] at this; exact this
    refine (Tryd.copyCheck_fresh b w h0 hsh hfz).mono ?_
    rintro e w' ⟨rfl, rfl⟩
    have e1 : (w.setCell ⟨b, 0, none⟩ (.pointer (some ⟨b, 0, none⟩))).heap = hset h ⟨b, 0, none⟩ (.pointer (some ⟨b, 0, none⟩)) := by rw [← hw]; rfl
    refine ⟨_, rfl, ⟨rfl, ?_, s, ?_, ?_⟩, rfl, rfl, rfl⟩
    · rw [e1]; exact But.hset
    · rw [e1]; exact ho.hset 0 _
    · rw [e1]; exact hs.stp (b := b) (by omega) (Stp.of_but But.hset)
  · have h0 : w.cell? ⟨b, 0, none⟩ = some (.pointer (some ⟨b, 0, none⟩)) := by rw [hc_cell, hw]; exact ho.hc 0
    refine (Tryd.copyCheck_used b w h0).mono ?_
    rintro e w' ⟨rfl, rfl⟩
    rw [hw]
    exact ⟨_, rfl, ⟨rfl, But.refl _ _, s, ho, hs⟩, rfl, rfl, rfl⟩
theorem i5' : ∃ i : TypeInfo, Tryd.prog.info? 5 = some i ∧ i.zero = some (.int .u8 0) ∧ i.size = 1 ∧ i.bytes = 1 := by
  have h1 : (Tryd.prog.info? 5).bind (·.zero) = some (.int .u8 0) := by kernel_rfl
  have h2 : (Tryd.prog.info? 5).map (·.size) = some 1 := by kernel_rfl
  have h3 : (Tryd.prog.info? 5).map (·.bytes) = some 1 := by kernel_rfl
  cases hi : Tryd.prog.info? 5 with
  | none => rw [hi] at h2; cases h2
  | some i =>
    rw [hi] at h1 h2 h3
    exact ⟨i, rfl, h1, by simpa using h2, by simpa using h3⟩
theorem writeString_c (b : Nat) (l m : List UInt8) (h : Heap) (hb : Bld h b l) (hl : l.length + m.length ≤ 1000000000) : Fn Tryd.prog 34 #[.pointer (some ⟨b, 0, none⟩), .string (bs m)] h fun v h' => (∃ (x : Int) (y : Value), v = .tuple ⟨[.int .i64 x, y]⟩) ∧ Bld h' b (l ++ m) ∧ Kp b h h' := by
  apply vc34; unfold W34
  refine (copyCheck_c b l h hb).mono ?_
  rintro v h2 ⟨rfl, hB2, s, ho2, hs2⟩
  refine ⟨rfl, s, ho2.hc 1, ?_⟩
  have hlt := ho2.lt
  obtain ⟨i, hi, hz, h1, h2'⟩ := i5'
  refine App_str u65 u9 hi hz h1 h2' hs2 (by omega) hl fun r h6 hor hkp _ => ?_
  have ho6 := hkp.own ho2 (by omega)
  refine ⟨ho6.okAt (by simp), ?_⟩
  intro h7 e7
  have hB7 : But b h6 h7 := by subst e7; exact But.hputs (a := ⟨b, 1, none⟩) _ _ _
  have ho7 := Own.hputs [.slice r.a r.n r.c] 0 h6 _ ho6 (o := 1) (by simp)
  rw [← e7] at ho7
  refine ⟨⟨_, _, rfl⟩, ⟨some ⟨b, 0, none⟩, r, ho7, ?_, .inr rfl⟩, ((Kp.but hB2 (Nat.le_refl _)).trans (hkp.mono (by omega))).trans (Kp.but hB7 (Nat.le_refl _))⟩
  exact hor.stp (b := b) (by omega) (Stp.of_but hB7)
theorem bldLen_c (b : Nat) (l : List UInt8) (h : Heap) (hb : Bld h b l) : Fn Tryd.prog 36 #[.pointer (some ⟨b, 0, none⟩)] h fun v h' => v = .int .i64 l.length ∧ h' = h := by
  obtain ⟨p, s, ho, hs, hp⟩ := hb
  apply vc36 ⟨b, 0, none⟩; unfold W36
  refine ⟨_, ho.hc 1, ?_, rfl⟩
  have := hs.len
  rw [byteC_len] at this
  congr 1; omega
theorem bldString_c (b : Nat) (l : List UInt8) (h : Heap) (hb : Bld h b l) : Fn Tryd.prog 37 #[.pointer (some ⟨b, 0, none⟩)] h fun v h' => v = .string (bs l) ∧ Kp b h h' := by
  obtain ⟨p, s, ho, hs, hp⟩ := hb
  intro w hw
  have hlen : s.n = (Lib.byteCells l).length := by have := hs.len; simp [byteC] at this; rw [Lib.byteCells_length]; omega
  have hAt : ∀ q, p = q → Lib.BuilderAt 67 5 b b (.pointer q) (Lib.byteCells l) w := by
    rintro q rfl
    refine ⟨Nat.le_refl _, .slice s.a s.n s.c, by rw [hw]; exact ho, ?_, ?_⟩
    · have := OwnS.row (w := w) (by rw [hw]; exact hs.mono (b' := b) (by omega))
      rw [← hlen]; exact this
    · rcases hs.2 with ⟨ha, _⟩ | ⟨g, cur, ha, hg, _⟩
      · rw [ha]; simp [Value.ownBlock]
      · rw [ha]; simp only [Value.ownBlock]; intro e; cases e; omega
  have hI : Lib.IsBuilder 67 5 b b (Lib.byteCells l) w := by
    rcases hp with hp | hp
    · exact .inl (hAt _ hp)
    · exact .inr (hAt _ hp)
  refine (Tryd.Builder_String_any b b l w hI (by rw [hw]; exact Nat.le_of_lt ho.lt)).mono ?_
  rintro e w' ⟨rfl, hbel⟩
  refine ⟨_, rfl, ⟨rfl, ?_⟩, hbel.os, hbel.tape, hbel.output⟩
  rw [← hw]
  exact ⟨hbel.size, hbel.block⟩
theorem rep35 (c : Nat) (hc : c ≤ 1000000000) (h : Heap) : Fn Tryd.prog 35 #[.string ⟨#[32]⟩, .int .i64 c] h fun v h' => v = .string (bs (List.replicate c 32)) ∧ Ext h h' := by
  intro w hw
  refine (Tryd.strings_Repeat ⟨#[32]⟩ c w (by omega) (by show 1 * c ≤ _; omega)).mono ?_
  rintro e w' ⟨rfl, hbel⟩
  refine ⟨_, rfl, ⟨?_, ?_⟩, hbel.os, hbel.tape, hbel.output⟩
  · have e : Lib.repeatL [32] c = List.replicate c 32 := by
      have := Lib.repeatL_replicate 32 1 c
      rw [Nat.mul_one] at this; exact this
    show Value.string ⟨(Lib.repeatL [32] c).toArray⟩ = _
    rw [e]; rfl
  · rw [← hw]; exact ⟨hbel.size, hbel.block⟩
theorem heading20 (rs : List Nm) (w : Nat) (s : Sl) (h : Heap) (hr : Rw h 1 s (strR rs)) (h6 : rs.length ≤ 6) (hw : w ≤ 1000) (hrs : ∀ r ∈ rs, r.length ≤ w) :
    Fn Tryd.prog 20 #[.slice s.a s.n s.c, .int .i64 w] h fun v h' => v = .string (bs (headS w rs)) ∧ Ext h h' := by
  apply vc20; unfold W20
  have hsn : s.n = rs.length := by have := hr.1; rwa [strR_len] at this
  refine newb fun h1 E1 o1 => ?_
  refine up_loop (n := s.n) (fun i h' => Kp h.size h h' ∧ ∃ acc, Bld h' h.size acc ∧ headF w i acc (rs.drop i) = headS w rs ∧ acc.length ≤ i * w)
    ⟨E1.kp (Nat.le_refl _), [], ⟨none, ⟨none, 0, 0⟩, o1, OwnS.nil, .inl rfl⟩, by rw [List.drop_zero]; rfl, by simp⟩ ?_
  rintro - i h6' hi ⟨K6, acc, hB, hacc, hal⟩
  obtain ⟨bi, ei⟩ := wmul (a := i) (w := w) (by omega) hw
  refine sB_intro (fun hlt => ?_) (fun hge => ?_)
  · have hlt' := lt_t hlt
    obtain ⟨c, hc⟩ := get_some (l := rs) (i := i) (by omega)
    have hcw := hrs c (List.mem_of_getElem? hc)
    refine (hr.ext K6.ext).nb (strR_get hc) fun b o _ hat => ⟨⟨by omega, by omega⟩, _, hat.hd, ?_⟩
    refine (bldLen_c h.size acc h6' hB).mono ?_
    rintro v h12 ⟨rfl, rfl⟩
    refine ⟨_, rfl, ?_⟩
    rw [ei, w64 (n := ((i * w : Nat) : Int) - (acc.length : Int)) (by omega) (by omega), show ((i * w : Nat) : Int) - (acc.length : Int) = ((i * w - acc.length : Nat) : Int) by omega]
    refine (rep35 (i * w - acc.length) (by omega) h12).mono ?_
    rintro v h15 ⟨rfl, E15⟩
    have hB15 : Bld h15 h.size acc := by
      obtain ⟨p, sl, ho, hs, hp⟩ := hB
      exact ⟨p, sl, ho.ext E15, hs.ext E15, hp⟩
    refine ⟨_, rfl, ?_⟩
    refine (writeString_c h.size acc (List.replicate (i * w - acc.length) 32) h15 hB15 (by simp; omega)).mono ?_
    rintro v h19 ⟨⟨x, y, rfl⟩, hB19, K19⟩
    refine ⟨_, _, rfl, ?_⟩
    refine (writeString_c h.size _ c h19 hB19 (by simp; omega)).mono ?_
    rintro v h23 ⟨⟨x, y, rfl⟩, hB23, K23⟩
    have hlt6 : h.size ≤ h12.size := K6.1
    refine ⟨_, _, rfl, Up.next hlt' (by omega) ⟨((K6.trans (E15.kp K6.1)).trans K19).trans K23, _, hB23, ?_, ?_⟩⟩
    · have hd : rs.drop i = c :: rs.drop (i + 1) := by
        obtain ⟨li, ei⟩ := List.getElem?_eq_some_iff.1 hc
        rw [List.drop_eq_getElem_cons li, ei]
      rw [hd, headF] at hacc
      exact hacc
    · rw [Nat.succ_mul]
      simp; omega
  · have hge' := lt_f hge
    refine (bldString_c h.size acc h6' hB).mono ?_
    rintro v h27 ⟨rfl, K27⟩
    refine ⟨_, rfl, ?_, (K6.trans K27).ext⟩
    rw [List.drop_eq_nil_of_le (by omega), headF] at hacc
    rw [hacc]
/-- what Draw gives: the lines, or error 1 -/
def DrawR (o : Option (List Nm)) (h : Heap) (v : Value) (h' : Heap) : Prop :=
  Ext h h' ∧ ∃ s : Sl, v = .tuple ⟨[.slice s.a s.n s.c, .int .i64 (if o.isSome then 0 else 1)]⟩ ∧ OwnS h' h.size 9 1 s (strC (o.getD []))
theorem drawR_no {h h' : Heap} (hE : Ext h h') : DrawR none h (.tuple ⟨[.slice none 0 0, .int .i64 1]⟩) h' := ⟨hE, ⟨none, 0, 0⟩, rfl, OwnS.nil⟩
theorem ownS_one {h : Heap} {b base e : Nat} {v : Value} (ho : Own h b [v] e) (hb : base ≤ b) : OwnS h base e 1 ⟨some ⟨b, 0, none⟩, 1, 1⟩ [v] := by
  refine ⟨rfl, .inr ⟨b, ⟨[v]⟩, rfl, hb, ho, Nat.le_refl _, by show 1 ≤ maxLen; decide, rfl, rfl⟩⟩
theorem nms_label {dl : List Dl} {x : Ix} {d : Dl} (hd : dl[x.l.toNat]? = some d) : nmOf (nms dl) x = d.nm := by
  unfold nmOf
  rw [List.getD_eq_getElem?_getD, nms_get hd]; rfl
theorem strC_snoc (l : List Nm) (s : Nm) : strC (l ++ [s]) = strC l ++ [sV s] := by unfold strC; rw [List.map_append]; rfl
theorem lines_snoc {rs ds : List Nm} {w : List Ix} {W : Nat} {i : Nat} {x : Ix} (hx : w[i]? = some x) : headS W rs :: (w.take (i + 1)).map (lineS rs.length W ds) = (headS W rs :: (w.take i).map (lineS rs.length W ds)) ++ [lineS rs.length W ds x] := by
  rw [take_snoc hx, List.map_append]; rfl
theorem draw11 (g : Gv) (rs : List Nm) (dl : List Dl) (w : List Ix) (hw : w.length ≤ 9223372036854775807) (s : Sl) (h : Heap) (hg : GR h g rs dl) (hr : Rw h 3 s (ixR w)) :
    Fn Tryd.prog 11 #[g.v, .slice s.a s.n s.c] h (DrawR (drawS rs (nms dl) w) h) := by
  apply vc11 g.nm g.rs g.ds g.n0 g.n1 g.n2 g.es g.ts s; unfold W11
  have hrn := hg.nr
  have hsn : s.n = w.length := by have := hr.1; rwa [ixR_len] at this
  refine newb (xs := g.cs) fun h9 E9 o9 => ⟨_, _, _, _, _, _, _, _, o9.at0, ?_⟩
  refine (all19 g rs dl w hw s h9 (hg.ext E9) (hr.ext E9)).mono ?_
  rintro v h20 ⟨rfl, E20⟩
  have E920 := E9.trans E20
  unfold drawS
  refine ⟨_, rfl, sB_intro (fun h1 => ?_) (fun h1 => ?_)⟩
  · rw [if_neg (fun hh => by rw [hh.1] at h1; cases h1)]; exact drawR_no E920
  rw [Bool.not_eq_false'] at h1
  refine sB_intro (fun h2 => ?_) (fun h2 => ?_)
  · rw [if_neg (fun hh => by have := of_decide_eq_true h2; omega)]; exact drawR_no E920
  have hw1 : w.length ≤ 1000 := by have := of_decide_eq_false h2; omega
  rw [if_pos ⟨h1, hw1⟩]
  have hbd := widthC_bound h1
  obtain ⟨hd, hp⟩ := all_cond h1
  obtain ⟨hn1, hn6, hd40, _, _, hnm, hok⟩ := drawable_cond hd
  obtain ⟨hw4, hw5⟩ := width_ok (rs := rs) (ds := nms dl) (w := w)
  refine ⟨_, _, _, _, _, _, _, _, (o9.ext E20).at0, ?_⟩
  refine (width14 g rs dl w hw s h20 (hg.ext E920) (hr.ext E920)).mono ?_
  rintro v h31 ⟨rfl, E31⟩
  have hws : widthS rs (nms dl) w = widthC rs (nms dl) w := by unfold widthS; rw [if_pos h1]
  rw [hws]
  have hls : linesS rs (nms dl) w = headS (widthC rs (nms dl) w) rs :: w.map (lineS rs.length (widthC rs (nms dl) w) (nms dl)) := rfl
  rw [hls]
  clear hls hws
  generalize widthC rs (nms dl) w = W at *
  refine ⟨_, rfl, _, ((o9.ext E20).ext E31).hc 1, ?_⟩
  have E931 := E920.trans E31
  refine (heading20 rs W g.rs h31 (hg.ext E931).r hn6 (by omega) (fun r hr => by have := hw4 r hr; omega)).mono ?_
  rintro v h35 ⟨rfl, E35⟩
  refine ⟨_, rfl, newb fun h36 E36 o36 => ?_⟩
  have E936 := (E931.trans E35).trans E36
  refine ⟨fun out x h' m => Up s.n (fun i h' => Kp h35.size h36 h' ∧ OwnS h' h35.size 9 1 out (strC (headS W rs :: (w.take i).map (lineS rs.length W (nms dl))))) x h' m, ?_, ?_⟩
  · exact Up.zero (Q := fun i h' => Kp h35.size h36 h' ∧ OwnS h' h35.size 9 1 ⟨(some ⟨h35.size, 0, none⟩), 1, 1⟩ (strC (headS W rs :: (w.take i).map (lineS rs.length W (nms dl))))) ⟨Kp.refl _ _, ownS_one o36 (Nat.le_refl _)⟩
  rintro - out x h42 m ⟨i, rfl, rfl, hi, K42, hos⟩
  have E0 : Ext h35 h42 := ((E36.kp (Nat.le_refl _)).trans K42).ext
  have E942 := (E931.trans E35).trans E0
  have og : Own h42 h.size g.cs 27 := (((o9.ext E20).ext E31).ext E35).ext E0
  refine sB_intro (fun hlt => ?_) (fun hge => ?_)
  · have hlt' := lt_t hlt
    obtain ⟨y, hy⟩ := get_some (l := w) (i := i) (by omega)
    have hym := List.mem_of_getElem? hy
    obtain ⟨d, hd1, hd2, hd3, hd4⟩ := proper_label (hp y hym)
    obtain ⟨a1, a2, a3, a4, a5, a6, a7⟩ := proper_cond (hp y hym)
    have hl4 := hw5 y hym
    rw [hd2] at hl4
    have hyc : ixC y = ixC ⟨(y.f.toNat : Int), (y.t.toNat : Int), (y.l.toNat : Int)⟩ := by
      unfold ixC; dsimp only; rw [show (y.f.toNat : Int) = y.f by omega, show (y.t.toNat : Int) = y.t by omega, hd4]
    refine (hr.ext E942).nb (ixR_get hy) fun b o _ hat => ⟨⟨by omega, by omega⟩, _, _, _, hat, ?_⟩
    refine newput (vs := ixC y) rfl fun h49 E49 o49 => ⟨_, _, _, _, _, _, _, _, (og.ext E49).at0, _, _, _, o49.at0, ?_⟩
    have hline := line21 g rs dl y.f.toNat y.t.toNat y.l.toNat W d h49 (hg.ext (E942.trans E49)) hd1 (by omega) (by omega) (by omega) hn6 hl4 (by omega)
    rw [← hyc] at hline
    refine hline.mono ?_
    rintro v h63 ⟨rfl, E63⟩
    refine ⟨_, rfl, ?_⟩
    have E4263 := E49.trans E63
    have hlen : out.n = i + 1 := by have := hos.len; simp [strC] at this; omega
    refine App_one app22 (hos.ext E4263) (by have := E0.1; have := E4263.1; omega) (news := [sV _]) rfl rfl (by omega) (by rw [maxLen]; omega) fun r h66 hrn hr66 K66 _ => ?_
    refine Up.next hlt' (by omega) ⟨(K42.trans (E4263.kp (by have := E0.1; omega))).trans K66, ?_⟩
    rw [lines_snoc hy, strC_snoc]
    have : lineS rs.length W (nms dl) y = lineN rs.length W y.f.toNat y.t.toNat d.nm := by unfold lineS; rw [hd2]
    rw [this]; exact hr66
  · have hge' := lt_f hge
    rw [List.take_of_length_le (by omega)] at hos
    exact ⟨E942, out, rfl, hos.mono (by have := E931.1; have := E35.1; omega)⟩
theorem draw12 (g : Gv) (rs : List Nm) (dl : List Dl) (w : List Ix) (hw : w.length ≤ 9223372036854775807) (s : Sl) (h : Heap) (hg : GR h g rs dl) (hr : Rw h 3 s (ixR w)) :
    Fn Tryd.prog 12 #[g.v, .slice s.a s.n s.c] h (DrawR (drawS rs (nms dl) w) h) := by
  apply vc12 g.nm g.rs g.ds g.n0 g.n1 g.n2 g.es g.ts s; unfold W12
  have hrn := hg.nr
  have hsn : s.n = w.length := by have := hr.1; rwa [ixR_len] at this
  refine newb (xs := g.cs) fun h9 E9 o9 => ⟨_, _, _, _, _, _, _, _, o9.at0, ?_⟩
  refine (can22 g rs dl w hw s h9 (hg.ext E9) (hr.ext E9)).mono ?_
  rintro v h20 ⟨rfl, E20⟩
  have E920 := E9.trans E20
  unfold drawS
  refine ⟨_, rfl, sB_intro (fun h1 => ?_) (fun h1 => ?_)⟩
  · rw [if_neg (fun hh => by rw [hh.1] at h1; cases h1)]; exact drawR_no E920
  rw [Bool.not_eq_false'] at h1
  refine sB_intro (fun h2 => ?_) (fun h2 => ?_)
  · rw [if_neg (fun hh => by have := of_decide_eq_true h2; omega)]; exact drawR_no E920
  have hw1 : w.length ≤ 1000 := by have := of_decide_eq_false h2; omega
  rw [if_pos ⟨h1, hw1⟩]
  have hbd := widthC_bound h1
  obtain ⟨hd, hp⟩ := all_cond h1
  obtain ⟨hn1, hn6, hd40, _, _, hnm, hok⟩ := drawable_cond hd
  obtain ⟨hw4, hw5⟩ := width_ok (rs := rs) (ds := nms dl) (w := w)
  refine ⟨_, _, _, _, _, _, _, _, (o9.ext E20).at0, ?_⟩
  refine (width15 g rs dl w hw s h20 (hg.ext E920) (hr.ext E920)).mono ?_
  rintro v h31 ⟨rfl, E31⟩
  have hws : widthS rs (nms dl) w = widthC rs (nms dl) w := by unfold widthS; rw [if_pos h1]
  rw [hws]
  have hls : linesS rs (nms dl) w = headS (widthC rs (nms dl) w) rs :: w.map (lineS rs.length (widthC rs (nms dl) w) (nms dl)) := rfl
  rw [hls]
  clear hls hws
  generalize widthC rs (nms dl) w = W at *
  have E931 := E920.trans E31
  have o31 := (o9.ext E20).ext E31
  have hg31 := hg.ext E931
  refine ⟨_, rfl, ?_⟩
  refine ⟨fun head x h' m => Up g.rs.n (fun i h' => h' = h31 ∧ ∃ acc, head = bs acc ∧ headF W i acc (rs.drop i) = headS W rs ∧ acc.length ≤ i * W) x h' m, ?_, ?_⟩
  · exact Up.zero (Q := fun i h' => h' = h31 ∧ ∃ acc, ⟨#[]⟩ = bs acc ∧ headF W i acc (rs.drop i) = headS W rs ∧ acc.length ≤ i * W) ⟨rfl, [], rfl, rfl, by simp⟩
  rintro - head x h37 m ⟨i, rfl, rfl, hi, rfl, acc, rfl, hacc, hal⟩
  refine ⟨_, o31.hc 1, sB_intro (fun hlt => ?_) (fun hge => ?_)⟩
  · have hlt' := lt_t hlt
    obtain ⟨bi, ei⟩ := wmul (a := i) (w := W) (by omega) (by omega)
    rw [ei]
    refine ⟨fun head h' m => ∃ k : Nat, head = bs (acc ++ List.replicate k 32) ∧ m = i * W - (acc.length + k) ∧ acc.length + k ≤ i * W ∧ h' = h37, ⟨_, 0, by simp, rfl, by omega, rfl⟩, ?_⟩
    rintro - head h43 m ⟨k, rfl, rfl, hk, rfl⟩
    rw [bs_size, List.length_append, List.length_replicate]
    refine sBi (fun hl => ?_) (fun hl => ?_)
    · have hl' : acc.length + k < i * W := by omega
      refine ⟨by rw [show ByteArray.size ⟨#[32]⟩ = 1 from rfl]; omega, _, ?_, k + 1, ?_, rfl, by omega, rfl⟩
      · omega
      · have : (⟨#[32]⟩ : ByteArray) = bs [32] := rfl
        rw [this, bs_app, List.append_assoc]
        congr 2
        rw [List.replicate_succ']
    · obtain ⟨c, hc⟩ := get_some (l := rs) (i := i) (by omega)
      have hcw := hw4 c (List.mem_of_getElem? hc)
      have hk' : i * W - acc.length = k := by omega
      refine ⟨_, o31.hc 1, hg31.r.nb (strR_get hc) fun b o _ hat => ⟨⟨by omega, by omega⟩, _, hat.hd, ?_⟩⟩
      refine ⟨by rw [bs_size]; omega, Up.next hlt' (by omega) ⟨rfl, acc ++ List.replicate k 32 ++ c, by rw [bs_app], ?_, ?_⟩⟩
      · have hd : rs.drop i = c :: rs.drop (i + 1) := by
          obtain ⟨li, ei⟩ := List.getElem?_eq_some_iff.1 hc
          rw [List.drop_eq_getElem_cons li, ei]
        rw [hd, headF, hk'] at hacc
        exact hacc
      · rw [Nat.succ_mul]
        simp; omega
  have hge' := lt_f hge
  rw [List.drop_eq_nil_of_le (by omega), headF] at hacc
  subst hacc
  refine newb fun h36 E36 o36 => ?_
  have E936 := E931.trans E36
  have hsz := E36.1
  refine ⟨fun out x h' m => Up s.n (fun i h' => Kp h37.size h36 h' ∧ OwnS h' h37.size 9 1 out (strC (headS W rs :: (w.take i).map (lineS rs.length W (nms dl))))) x h' m, ?_, ?_⟩
  · exact Up.zero (Q := fun i h' => Kp h37.size h36 h' ∧ OwnS h' h37.size 9 1 ⟨(some ⟨h37.size, 0, none⟩), 1, 1⟩ (strC (headS W rs :: (w.take i).map (lineS rs.length W (nms dl))))) ⟨Kp.refl _ _, ownS_one o36 (Nat.le_refl _)⟩
  rintro - out x h56 m ⟨q, rfl, rfl, hq, K56, hos⟩
  have E0 : Ext h37 h56 := ((E36.kp (Nat.le_refl _)).trans K56).ext
  have E956 := E931.trans E0
  have og : Own h56 h.size g.cs 27 := o31.ext E0
  refine sB_intro (fun hlt => ?_) (fun hge2 => ?_)
  · have hlt' := lt_t hlt
    obtain ⟨y, hy⟩ := get_some (l := w) (i := q) (by omega)
    have hym := List.mem_of_getElem? hy
    obtain ⟨d, hd1, hd2, hd3, hd4⟩ := proper_label (hp y hym)
    obtain ⟨a1, a2, a3, a4, a5, a6, a7⟩ := proper_cond (hp y hym)
    have hl4 := hw5 y hym
    rw [hd2] at hl4
    have hyc : ixC y = ixC ⟨(y.f.toNat : Int), (y.t.toNat : Int), (y.l.toNat : Int)⟩ := by
      unfold ixC; dsimp only; rw [show (y.f.toNat : Int) = y.f by omega, show (y.t.toNat : Int) = y.t by omega, hd4]
    refine ⟨_, _, _, _, _, _, _, _, og.at0, ?_⟩
    refine (hr.ext E956).nb (ixR_get hy) fun b o _ hat => ⟨⟨by omega, by omega⟩, _, _, _, hat, ?_⟩
    have hline := line23 g rs dl y.f.toNat y.t.toNat y.l.toNat W d h56 (hg.ext E956) hd1 (by omega) (by omega) (by omega) hn6 hl4 (by omega)
    rw [← hyc] at hline
    refine hline.mono ?_
    rintro v h72 ⟨rfl, E72⟩
    refine ⟨_, rfl, ?_⟩
    have hlen : out.n = q + 1 := by have := hos.len; simp [strC] at this; omega
    refine App_one app22 (hos.ext E72) (by have := E0.1; have := E72.1; omega) (news := [sV _]) rfl rfl (by omega) (by rw [maxLen]; omega) fun r h75 hrn hr75 K75 _ => ?_
    refine Up.next hlt' (by omega) ⟨(K56.trans (E72.kp (by have := E0.1; omega))).trans K75, ?_⟩
    rw [lines_snoc hy, strC_snoc]
    have : lineS rs.length W (nms dl) y = lineN rs.length W y.f.toNat y.t.toNat d.nm := by unfold lineS; rw [hd2]
    rw [this]; exact hr75
  · have hge2' := lt_f hge2
    rw [List.take_of_length_le (by omega)] at hos
    exact ⟨E956, out, rfl, hos.mono E931.1⟩
end Go.VC
