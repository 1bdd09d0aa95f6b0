/- The laws ChartParts and ChartExchange. -/
import Derived.Test.YtcaahhppapnbhaaDoorChN
import Derived.Test.YtcaahhppapnbhaaDoorChPlain
set_option linter.unusedVariables false
set_option linter.unusedSimpArgs false

namespace Go.VC
open Go.Proofs Go.LexS Go.ChS Go.RowKit
set_option maxRecDepth 100000

theorem ownS_zero {h : Heap} {b base e size : Nat} (ho : Own h b [] e) (hb : base ≤ b) : OwnS h base e size ⟨some ⟨b, 0, none⟩, 0, 0⟩ [] :=
  ⟨by simp, .inr ⟨b, ⟨[]⟩, rfl, hb, ho, Nat.le_refl _, Nat.zero_le _, by simp, by simp⟩⟩
theorem ixF_oneB (w : List Ix) : (ixR w).flatten.all oneB = true := by
  unfold ixR
  induction w with
  | nil => rfl
  | cons x w ih => rw [List.map_cons, List.flatten_cons, List.all_append, ih]; rfl
theorem strR_one (l : List Nm) : ∀ r ∈ strR l, r.length = 1 := by
  intro r hr
  unfold strR at hr
  obtain ⟨x, _, rfl⟩ := List.mem_map.1 hr
  rfl
theorem strR_oneB (l : List Nm) : (strR l).flatten.all oneB = true := by
  unfold strR
  induction l with
  | nil => rfl
  | cons x w ih => rw [List.map_cons, List.flatten_cons, List.all_append, ih]; rfl
theorem OwnS.nac {h : Heap} {base e size : Nat} {s : Sl} {xs : List Value} (ho : OwnS h base e size s xs) (ha : s.a = Option.none) : s.n = 0 ∧ s.c = 0 := by
  rcases ho.2 with ⟨_, h1, h2⟩ | ⟨g, cur, hx, _⟩
  · exact ⟨h1, h2⟩
  · rw [hx] at ha; cases ha
theorem Rw.tail {h : Heap} {s : Sl} {rows : List (List Value)} (hr : Rw h 1 s rows) (hc : s.n ≤ s.c) (h0 : 0 < s.n) : Rw h 1 ⟨subA s.a 1 s.c 1, s.n - 1, s.c - 1⟩ rows.tail ∧ subA s.a 1 s.c 1 ≠ none := by
  have hn := hr.1
  obtain ⟨b, o, ha, hall⟩ := hr.2 (by omega)
  rw [ha]
  unfold subA
  by_cases h1 : s.c = 1
  · rw [if_pos h1]
    exact ⟨⟨by rw [List.length_tail]; dsimp only; omega, fun hp => by rw [List.length_tail] at hp; omega⟩, by simp⟩
  · rw [if_neg h1, Option.map_some, add_n]
    refine ⟨⟨by rw [List.length_tail]; dsimp only; omega, fun _ => ⟨b, o + 1 * 1, rfl, fun i row hi => ?_⟩⟩, by simp⟩
    rw [List.getElem?_tail] at hi
    have := hall (i + 1) row hi
    rwa [show o + (i + 1) * 1 = o + 1 * 1 + i * 1 by omega] at this
theorem strR_tail (l : List Nm) : (strR l).tail = strR l.tail := by unfold strR; rw [List.map_tail]
theorem none_width {rs ds : List Nm} {w : List Ix} (h : drawS rs ds w = none) (hl : w.length ≤ 1000) : widthS rs ds w = 0 := by
  unfold drawS at h
  unfold widthS
  split at h
  · cases h
  · rename_i hc
    rw [if_neg fun h1 => hc ⟨h1, hl⟩]
theorem some_width {rs ds : List Nm} {w : List Ix} {l : List Nm} (h : drawS rs ds w = some l) : widthS rs ds w = widthC rs ds w ∧ 5 ≤ widthC rs ds w := by
  refine ⟨?_, (draw_len h).2.2.2.1⟩
  unfold widthS
  rw [if_pos (drawS_some h).1]
theorem law6 (g : Gv) (rs : List Nm) (dl : List Dl) (a b : List Ix) (ha : a.length ≤ 9223372036854775807) (hb : b.length ≤ 9223372036854775807) (p q : Sl) (hpa : p.a = none → p.n = 0 ∧ p.c = 0) (hqa : q.a = none → q.n = 0 ∧ q.c = 0)
    (h : Heap) (hg : GR h g rs dl) (hp : Rw h 3 p (ixR a)) (hq : Rw h 3 q (ixR b)) :
    Fn Tryd.prog 6 #[g.v, .slice p.a p.n p.c, .slice q.a q.n q.c] h fun v h' => v = .bool true ∧ Ext h h' := by
  apply vc6 g.nm g.rs g.ds g.n0 g.n1 g.n2 g.es g.ts p q; unfold W6
  have hpn : p.n = a.length := by have := hp.1; rwa [ixR_len] at this
  have hqn : q.n = b.length := by have := hq.1; rwa [ixR_len] at this
  refine newb (xs := g.cs) fun h9 E9 o9 => ?_
  refine (awake_c h9).mono ?_
  rintro v h12 ⟨rfl, E12⟩
  refine ⟨_, rfl, sB_f rfl ⟨_, _, _, _, _, _, _, _, (o9.ext E12).at0, ?_⟩⟩
  have E912 := E9.trans E12
  refine (few10 g rs dl p h12 (hg.ext E912)).mono ?_
  rintro v h23 ⟨⟨b1, rfl, hb1⟩, E23⟩
  have E923 := E912.trans E23
  have og := (o9.ext E12).ext E23
  refine ⟨_, rfl, sB_intro (fun _ => ⟨rfl, E923⟩) (fun hf1 => ⟨_, _, _, _, _, _, _, _, og.at0, ?_⟩)⟩
  have hp12 := hb1 (by rw [Bool.not_eq_false'] at hf1; exact hf1)
  refine (few10 g rs dl q h23 (hg.ext E923)).mono ?_
  rintro v h34 ⟨⟨b2, rfl, hb2⟩, E34⟩
  have E934 := E923.trans E34
  have og34 := og.ext E34
  refine ⟨_, rfl, E34.sm, sB_intro (fun _ => ⟨rfl, E934⟩) (fun hf2 => ⟨_, _, _, _, _, _, _, _, og34.at0, _, _, _, _, _, _, _, _, og34.at0, ?_⟩)⟩
  have hq12 := hb2 (by rw [Bool.not_eq_false'] at hf2; exact hf2)
  refine (width14 g rs dl a ha p h34 (hg.ext E934) (hp.ext E934)).mono ?_
  rintro v h53 ⟨rfl, E53⟩
  have E953 := E934.trans E53
  refine ⟨_, rfl, E53.sm, ?_⟩
  refine (width14 g rs dl b hb q h53 (hg.ext E953) (hq.ext E953)).mono ?_
  rintro v h56 ⟨rfl, E56⟩
  have E956 := E953.trans E56
  have og56 := (og34.ext E53).ext E56
  refine ⟨_, rfl, E56.sm, sB_intro (fun _ => ⟨rfl, E956⟩) (fun heq => ⟨_, _, _, _, _, _, _, _, og56.at0, ?_⟩)⟩
  have hwid := nateq heq
  refine (draw11 g rs dl a ha p h56 (hg.ext E956) (hp.ext E956)).mono ?_
  rintro v h68 ⟨E68, sx, rfl, hx⟩
  have E968 := E956.trans E68
  refine ⟨_, _, rfl, _, _, _, _, _, _, _, _, (og56.ext E68).at0, ?_⟩
  refine (draw11 g rs dl b hb q h68 (hg.ext E968) (hq.ext E968)).mono ?_
  rintro v h80 ⟨E80, sy, rfl, hy⟩
  have E980 := E968.trans E80
  have og80 := (og56.ext E68).ext E80
  refine ⟨_, _, rfl, ?_⟩
  cases hda : drawS rs (nms dl) a with
  | none =>
    have h1 := none_width hda (by omega)
    cases hdb : drawS rs (nms dl) b with
    | none => exact sB_t rfl ⟨rfl, E980⟩
    | some lb => have := some_width hdb; omega
  | some la =>
    have h1 := some_width hda
    cases hdb : drawS rs (nms dl) b with
    | none => have := none_width hdb (by omega); omega
    | some lb =>
      have h2 := some_width hdb
      rw [hda] at hx
      rw [hdb] at hy
      simp only [Option.getD_some] at hx hy
      have hwc : widthC rs (nms dl) a = widthC rs (nms dl) b := by omega
      obtain ⟨alla, _, ela⟩ := drawS_some hda
      obtain ⟨allb, _, elb⟩ := drawS_some hdb
      have hdab : drawS rs (nms dl) (a ++ b) = some (la ++ lb.tail) := by
        unfold drawS
        rw [if_pos ⟨all_app alla allb, by rw [List.length_append]; omega⟩, lines_app hwc, ela, elb]
      have hla := draw_len hda
      have hlb := draw_len hdb
      have hxn : sx.n = la.length := by have := hx.len; simp [strC] at this; omega
      have hyn : sy.n = lb.length := by have := hy.len; simp [strC] at this; omega
      refine sB_f rfl (sB_f rfl ⟨_, _, _, _, _, _, _, _, og80.at0, ?_⟩)
      intro h89 e89
      have E89 : Ext h80 h89 := e89 ▸ Ext.push ..
      have o89 : Own h89 h80.size [] 43 := by rw [e89]; exact Own.push
      refine ⟨E89.sm, ?_⟩
      have hgs := og80.lt
      refine App_rows app28 (ownS_zero o89 (Nat.le_refl _)) E89.1 (hp.ext (E980.trans E89)) (ixR_three a) hpa (ixF_oneB a) (by dsimp only; omega) (by rw [maxLen]; dsimp only; omega) fun r h91 hrn hr91 K91 => ?_
      dsimp only at hrn
      refine ⟨K91.sm (by intro x hx; simp at hx; subst hx; exact hgs), ?_⟩
      have K8091 := (E89.kp (Nat.le_refl _)).trans K91
      have E8091 := K8091.ext
      refine App_rows app28 hr91 E8091.1 (hq.ext (E980.trans E8091)) (ixR_three b) hqa (ixF_oneB b) (by omega) (by rw [maxLen]; omega) fun r2 h93 hrn2 hr93 K93 => ?_
      refine ⟨K93.sm (by intro x hx; simp at hx; subst hx; exact hgs), ?_⟩
      have E8093 := (K8091.trans K93).ext
      have E993 := E980.trans E8093
      have hab : OwnS h93 h80.size 43 3 r2 (ixF (a ++ b)) := by
        have e : [] ++ (ixR a).flatten ++ (ixR b).flatten = ixF (a ++ b) := by unfold ixF ixR; rw [List.map_append, List.flatten_append]; rfl
        rw [← e]; exact hr93
      refine (draw11 g rs dl (a ++ b) (by rw [List.length_append]; omega) r2 h93 (hg.ext E993) hab.ixs).mono ?_
      rintro v h97 ⟨E97, sz, rfl, hz⟩
      rw [hdab] at hz ⊢
      simp only [Option.getD_some] at hz
      have E8097 := E8093.trans E97
      refine ⟨_, _, rfl, sB_t rfl (sB_t (decide_eq_true (by omega)) ⟨⟨by omega, by omega, by have := hy.cap; omega⟩, newb fun h98 E98 o98 => ?_⟩)⟩
      have hxx := ((hx.ext E80).ext E8097).ext E98
      refine App_rows app22 (ownS_zero o98 (Nat.le_refl _)) E98.1 hxx.strs (strR_one la) hxx.nac (strR_oneB la) (by dsimp only; omega) (by rw [maxLen]; dsimp only; omega) fun r3 h100 hrn3 hr100 K100 => ?_
      dsimp only at hrn3
      have E97100 := ((E98.kp (Nat.le_refl _)).trans K100).ext
      have hyy := (hy.ext E8097).ext E97100
      obtain ⟨ht1, ht2⟩ := hyy.strs.tail hyy.cap (by omega)
      rw [strR_tail] at ht1
      refine App_rows app22 (y := ⟨subA sy.a 1 sy.c 1, sy.n - 1, sy.c - 1⟩) hr100 E97100.1 ht1 (strR_one lb.tail) (fun e => absurd e ht2) (strR_oneB _) (by dsimp only; omega) (by rw [maxLen]; dsimp only; omega) fun r4 h102 hrn4 hr102 K102 => ?_
      have E97102 := (((E98.kp (Nat.le_refl _)).trans K100).trans K102).ext
      have hzz : OwnS h102 h97.size 9 1 r4 (strC (la ++ lb.tail)) := by
        have e : [] ++ (strR la).flatten ++ (strR lb.tail).flatten = strC (la ++ lb.tail) := by rw [strR_flat, strR_flat]; unfold strC; rw [List.map_append]; rfl
        rw [← e]; exact hr102
      refine (same13 (la ++ lb.tail) (la ++ lb.tail) (by rw [List.length_append, List.length_tail]; omega) sz r4 h102 (hz.ext E97102).strs hzz.strs).mono ?_
      rintro v h105 ⟨rfl, rfl⟩
      exact ⟨_, rfl, by rw [decide_eq_true rfl], (E993.trans E97).trans E97102⟩
end Go.VC
