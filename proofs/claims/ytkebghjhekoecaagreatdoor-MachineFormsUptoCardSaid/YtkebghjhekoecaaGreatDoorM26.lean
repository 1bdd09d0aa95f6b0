/- Texts of this claim, joined: RjZ, RjAa, RjAb, RjArgs. -/
import Derived.Test.YtkebghjhekoecaaGreatDoorM25
import Derived.Test.YtkebghjhekoecaaGreatDoorM01
import Derived.Test.YtkebghjhekoecaaGreatDoorM05
import Derived.Test.YtkebghjhekoecaaGreatDoorM19
import Derived.Test.YtkebghjhekoecaaGreatDoorM23
import Derived.Test.YtkebghjhekoecaaGreatDoorRows
set_option linter.unusedVariables false
set_option linter.unusedSimpArgs false
set_option maxRecDepth 100000

section
/- Contracts: the reference's classes, its minimal machine, its forms. (Numbers of layer 26's seat.) -/
namespace Go.VC
open Go.Proofs Go.LexS Go.Maps
def frA (xb pb : Nat) (m : Mch) (sf sm sl cl : Sl) (D F : List Nat) : List It := [.blk xb (F.map natV) 3, .sl cl 3 1 ((natI D).map inC), .blk pb (mC m sf sm sl) 26]
theorem mid_set {A B : List Nat} {i a b : Nat} (hA : A.length = i) : (A ++ [a] ++ B).set i b = A ++ [b] ++ B := by
 subst hA
 rw [Yz, List.set_append_right _ _ (Nat.le_refl _), Nat.sub_self, Yz]; rfl
theorem mid_get {A B : List Nat} {i a : Nat} (hA : A.length = i) : (A ++ [a] ++ B)[i]? = some a := by
 subst hA
 rw [Yz, Yyc (Nat.le_refl _), Nat.sub_self]; rfl
set_option maxHeartbeats 4000000 in
theorem classes138 (m : Mch) (sf sm sl : Sl) (h : Heap) (hM : MI h m sf sm sl) (hV : WM m) :
  Fn Pz 138 #[.agg ⟨mC m sf sm sl⟩] h fun v h' => ∃ r : Sl, v = .slice r.a r.n r.c /\ St h h' [.sl r 3 1 ((natI (repL (cls (srtM m)).1)).map inC)] := by
 apply vc138 m.role m.n m.s sf sm sl; unfold W138
 have hn := hV.n.n
 have hnI : ((m.n.toNat : Nat) : Int) = m.n := by omega
 have hnl : ∀ L : List Nat, (natI L).length = L.length := fun L => Yc _
 refine (St.refl h).newb fun h7 hs => ?_
 refine ⟨m.n, hs.rd 0 rfl (i := 1) rfl, ⟨by omega, by omega, by omega⟩, ?_⟩
 refine hs.newb fun h9 hs => ?_
 rw [made3n] at hs
 have hs := hs.blkS m.n.toNat 1 ((natI (List.replicate m.n.toNat 0)).map inC) (natflat _) (inrows _) (by rw [Yc, hnl, Yg]) (by simp only [maxLen]; omega)
 refine ⟨fun cl ch h' μ => ∃ k : Nat, μ = 202 - k /\ k <= 201 /\ (ch = true -> k + 1 <= (dedF (itC (srtM m) k)).length) /\ (ch = false -> itR m (k + 1) = itR m k) /\ St h h' [.sl cl 3 1 ((natI (itR m k)).map inC), .blk h.size (mC m sf sm sl) 26],
  ⟨_, 0, rfl, by omega, fun _ => List.length_pos_of_mem ((dedF_mem _ _).2 (show 0 ∈ itC (srtM m) 0 from List.mem_replicate.2 ⟨(by show m.n.toNat ≠ 0; omega), rfl⟩)), fun e => (by cases e), hs⟩, ?_⟩
 clear hs
 rintro - cl ch h15 μ ⟨k, rfl, hk, hct, hcf, hs⟩
 refine sB_intro (fun c1 => ?_) (fun c1 => ?_)
 ·
  have hc := hct c1
  have hle := dedF_len_le (itC (srtM m) k)
  rw [itC_len, show (srtM m).n = m.n from rfl] at hle
  have hcln := (hs.rows 0 (s := cl) (cs := inC) rfl (by omega)).ln
  rw [hnl, itR_len] at hcln
  refine ⟨m.n, hs.rd 1 rfl (i := 1) rfl, ⟨by omega, by omega, by omega⟩, ?_⟩
  refine hs.newb fun h17 hs => ?_
  rw [made3n] at hs
  refine ⟨fun ch x h' μ => ∃ i : Nat, x = (i : Int) /\ μ = m.n.toNat - i /\ i <= m.n.toNat /\ (ch = true ↔ ∃ j, j < i /\ (itR m (k + 1))[j]? ≠ (itR m k)[j]?) /\ St h h' (frA h15.size h.size m sf sm sl cl (itR m k) ((itR m (k + 1)).take i ++ List.replicate (m.n.toNat - i) 0)),
   ⟨_, 0, rfl, rfl, Nat.zero_le _, iff_of_false (by decide) (fun ⟨j, hj, _⟩ => by omega), hs⟩, ?_⟩
  clear hs
  rintro - ch2 _ h23 μ ⟨i, rfl, rfl, hi, hch, hs⟩
  refine ⟨m.n, hs.rd 2 rfl (i := 1) rfl, sBi (fun c2 => ?_) (fun c2 => ?_)⟩
  ·
   have hin : i < m.n.toNat := by omega
   have htl : ((itR m (k + 1)).take i).length = i := by rw [Yu, itR_len]; omega
   refine ⟨⟨by omega, by omega⟩, ?_⟩
   rw [show 0 + Int.toNat (i : Int) * 1 = i by omega]
   refine hs.put 0 rfl (o := i) (vs := [natV i]) rfl (by rw [Yc, Yh, htl, Yg, Yv]; omega) fun h25 hs => ?_
   rw [map_natV_put htl hin] at hs
   rw [w64 (n := (i : Int) - 1) (by omega) (by omega)]
   have hall : ∀ f : Nat, ((itR m (k + 1)).take i ++ [f] ++ List.replicate (m.n.toNat - (i + 1)) 0).length = m.n.toNat := fun f => by rw [Yh, Yh, htl, Yg, Yv]; omega
   refine ⟨fun x h' μ => ∃ q f : Nat, x = (q : Int) - 1 /\ μ = q /\ q <= f /\ f <= i /\ keyT m (itR m k) f = keyT m (itR m k) i /\ (∀ j, q <= j -> j < f -> keyT m (itR m k) j ≠ keyT m (itR m k) i) /\ St h h' (frA h15.size h.size m sf sm sl cl (itR m k) ((itR m (k + 1)).take i ++ [f] ++ List.replicate (m.n.toNat - (i + 1)) 0)),
    ⟨_, i, i, rfl, rfl, Nat.le_refl _, Nat.le_refl _, rfl, fun j h1 h2 => (by omega), hs⟩, ?_⟩
   clear hs
   rintro - _ h30 q ⟨_, f, rfl, rfl, hqf, hfi, hkf, hno, hs⟩
   refine sBi (fun c3 => ?_) (fun c3 => ?_)
   ·
    obtain ⟨q, rfl⟩ : ∃ q', q = q' + 1 := ⟨q - 1, by omega⟩
    rw [show (((q + 1 : Nat) : Int) - 1) = (q : Int) by omega]
    obtain ⟨a, ha⟩ := get_some (l := itR m k) (i := q) (by rw [itR_len]; omega)
    obtain ⟨b, hb⟩ := get_some (l := itR m k) (i := i) (by rw [itR_len]; omega)
    have hcl := hs.rows 1 (s := cl) (cs := inC) rfl (by omega)
    refine hcl.nbI (by omega) (by omega) fun b31 o32 d g31 t31 => ?_
    rw [Ys] at g31
    obtain ⟨a', ha', rfl⟩ := natI_get g31
    rw [ha] at ha'; cases ha'
    refine ⟨_, t31.hd, ?_⟩
    refine hcl.nbI (by omega) (by omega) fun b34 o35 d g34 t34 => ?_
    rw [Ys] at g34
    obtain ⟨b', hb', rfl⟩ := natI_get g34
    rw [hb] at hb'; cases hb'
    refine ⟨_, t34.hd, ?_⟩
    have hkey : keyT m (itR m k) q = keyT m (itR m k) i ↔ a = b /\ AlP m (itR m k) i q := by
     rw [eq_comm, key_al, getD_some ha, getD_some hb]
     exact ⟨fun h => ⟨h.1.symm, h.2⟩, fun h => ⟨h.1.symm, h.2⟩⟩
    have hnext : ∀ {h' : Heap}, St h h' (frA h15.size h.size m sf sm sl cl (itR m k) ((itR m (k + 1)).take i ++ [f] ++ List.replicate (m.n.toNat - (i + 1)) 0)) -> keyT m (itR m k) q ≠ keyT m (itR m k) i -> ∃ μ, μ < q + 1 /\ ∃ q_1 f : Nat, IntKind.wrap .i64 ((q : Int) - 1) = (q_1 : Int) - 1 /\ μ = q_1 /\ q_1 <= f /\ f <= i /\ keyT m (itR m k) f = keyT m (itR m k) i /\ (∀ j, q_1 <= j -> j < f -> keyT m (itR m k) j ≠ keyT m (itR m k) i) /\ St h h' (frA h15.size h.size m sf sm sl cl (itR m k) ((itR m (k + 1)).take i ++ [f] ++ List.replicate (m.n.toNat - (i + 1)) 0)) := fun {h'} hs hne =>
     ⟨_, Nat.lt_succ_self q, q, f, w64 (by omega) (by omega), rfl, by omega, hfi, hkf, fun j h1 h2 => by
      by_cases e : j = q
      ·
       subst e; exact hne
      ·
       exact hno j (by omega) h2, hs⟩
    refine sBe (fun c4 => ?_) (fun c4 => hnext hs fun e => c4 (by rw [(hkey.1 e).1]))
    refine ⟨_, _, _, sf, sm, sl, hs.at 2 rfl (o := 0) (n := 6) rfl, ?_⟩
    refine (alike180 m sf sm sl cl (itR m k) i q h30 (hM.ext hs.ext) hV hcl (itR_len m k) hin (by omega)).mono ?_
    rintro _ h45 ⟨⟨bb, rfl, hbb⟩, E45⟩
    have hs := hs.step E45
    refine ⟨_, rfl, E45.sm, sB_intro (fun c5 => ?_) (fun c5 => hnext hs fun e => ?_)⟩
    ·
     refine ⟨⟨by omega, by omega⟩, ?_⟩
     refine hs.put 0 rfl (o := i) (vs := [natV q]) rfl (by rw [Yc, hall, Yv]; omega) fun h46 hs => ?_
     rw [map_splice natV (by rw [hall]; exact hin), mid_set htl] at hs
     exact ⟨_, Nat.lt_succ_self q, q, q, w64 (by omega) (by omega), rfl, Nat.le_refl _, by omega, hkey.2 ⟨by omega, hbb.1 c5⟩, fun j h1 h2 => by omega, hs⟩
    ·
     rw [hbb.2 (hkey.1 e).2] at c5; cases c5
   ·
    have hq0 : q = 0 := by omega
    subst hq0
    have hf : (itR m (k + 1))[i]? = some f := by
     show (stepR m (itR m k))[i]? = some f
     rw [stepR_get hin]
     congr 1
     refine idxF_first (by rw [clsT_get (by omega), hkf]) fun hm => ?_
     obtain ⟨j, hj⟩ := Yf.1 hm
     have hjf : j < f := by have := (Ya.1 hj).1; rw [Yu] at this; omega
     rw [List.getElem?_take_of_lt hjf, clsT_get (by omega)] at hj
     exact hno j (Nat.zero_le _) hjf (Option.some.inj hj)
    have hsn : St h h30 (frA h15.size h.size m sf sm sl cl (itR m k) ((itR m (k + 1)).take (i + 1) ++ List.replicate (m.n.toNat - (i + 1)) 0)) := by rw [take_snoc hf]; exact hs
    refine sB_intro (fun c4 => ?_) (fun c4 => ?_)
    ·
     refine ⟨_, (show m.n.toNat - (i + 1) < m.n.toNat - i by omega), i + 1, by rw [w64 (by omega) (by omega)]; omega, rfl, by omega, iff_of_true rfl ?_, hsn⟩
     obtain ⟨j, hj, hne⟩ := hch.1 c4
     exact ⟨j, by omega, hne⟩
    ·
     refine ⟨⟨by omega, by omega⟩, ?_⟩
     refine ⟨(f : Nat), hs.rd 0 rfl (by rw [Yd, mid_get htl]; rfl), ?_⟩
     obtain ⟨b, hb⟩ := get_some (l := itR m k) (i := i) (by rw [itR_len]; omega)
     refine (hs.rows 1 (s := cl) (cs := inC) rfl (by omega)).nbI (by omega) (by omega) fun b52 o53 d g52 t52 => ?_
     rw [Ys] at g52
     obtain ⟨b', hb', rfl⟩ := natI_get g52
     rw [hb] at hb'; cases hb'
     refine ⟨_, t52.hd, _, (show m.n.toNat - (i + 1) < m.n.toNat - i by omega), i + 1, by rw [w64 (by omega) (by omega)]; omega, rfl, by omega, ?_, hsn⟩
     have hno2 : ∀ j, j < i -> (itR m (k + 1))[j]? = (itR m k)[j]? := fun j hj => Classical.byContradiction fun hne => by rw [hch.2 ⟨j, hj, hne⟩] at c4; cases c4
     constructor
     ·
      intro e
      refine ⟨i, by omega, fun e2 => ?_⟩
      rw [hf, hb] at e2
      cases e2
      simp at e
     ·
      rintro ⟨j, hj, hne⟩
      have hji : j = i := by
       by_cases e : j < i
       ·
        exact absurd (hno2 j e) hne
       ·
        omega
      subst hji
      rw [hf, hb] at hne
      have : ((f : Nat) : Int) ≠ (b : Nat) := fun e => hne (by congr 1; omega)
      simpa using this
  ·
   have hin : i = m.n.toNat := by omega
   subst hin
   rw [Nat.sub_self, List.replicate_zero, Yw, Yj (by rw [itR_len]; exact Nat.le_refl _)] at hs
   have hs : St h h23 [.blk h15.size ((itR m (k + 1)).map natV) 3, .sl cl 3 1 ((natI (itR m k)).map inC), .blk h.size (mC m sf sm sl) 26] := hs
   have hs := hs.blkS m.n.toNat 1 ((natI (itR m (k + 1))).map inC) (natflat _) (inrows _) (by rw [Yc, hnl, itR_len]) (by simp only [maxLen]; omega)
   refine ⟨_, (show 202 - (k + 1) < 202 - k by omega), k + 1, rfl, by omega, fun e => ?_, fun e => ?_, hs.sub (.cons_cons _ (.cons _ (.cons_cons _ (List.nil_sublist _))))⟩
   ·
    obtain ⟨j, _, hne⟩ := hch.1 e
    have := it_lt hV (k := k) fun e2 => hne (by rw [e2])
    omega
   ·
    have e2 : itR m (k + 1) = itR m k := by
     apply List.ext_getElem?
     intro j
     by_cases hj : j < m.n.toNat
     ·
      exact Classical.byContradiction fun hne => by rw [hch.2 ⟨j, hj, hne⟩] at e; cases e
     ·
      rw [Yl (by rw [itR_len]; omega), Yl (by rw [itR_len]; omega)]
    show stepR m (itR m (k + 1)) = _
    rw [e2]; exact e2
 ·
  refine ⟨cl, rfl, ?_⟩
  rw [<- it_end hV (hcf c1)]
  exact hs.sub (.cons_cons _ (.cons _ (List.nil_sublist _)))
set_option maxHeartbeats 2000000 in
theorem minimal77 (m : Mch) (sf sm sl : Sl) (h : Heap) (hM : MI h m sf sm sl) (hV : WM m) :
  Fn Pz 77 #[.agg ⟨mC m sf sm sl⟩] h fun v h' => ∃ sf' sm' sl' : Sl, v = .agg ⟨mC (minF (srtM m)) sf' sm' sl'⟩ /\ St h h' (mL (minF (srtM m)) sf' sm' sl') := by
 apply vc77 m.role m.n m.s sf sm sl; unfold W77
 have hn := hV.n.n
 have hms := hV.n.s
 have hml := hV.n.ml
 have hmn := hM.pm.ln
 have hC : (cls (srtM m)).1.length = m.n.toNat := (cls_ok (srtM_raw hV).ok).cl
 refine (St.refl h).newb fun h7 hs => ?_
 refine hs.newb fun h8 hs => ?_
 refine ⟨_, _, _, sf, sm, sl, hs.at 1 rfl (o := 0) (n := 6) rfl, ?_⟩
 refine (classes138 m sf sm sl h8 (hM.ext hs.ext) hV).mono ?_
 rintro _ h17 ⟨r, rfl, hr⟩
 have hrl := rel_canN hV
 have hRt := repL_lt hC
 have hRl : (repL (cls (srtM m)).1).length = m.n.toNat := by unfold repL; rw [Yc]; exact hC
 generalize repL (cls (srtM m)).1 = R at *
 have hW := relM_w (R := R) hV hRt
 have hs : St h h17 [.sl r 3 1 ((natI R).map inC), .blk h7.size m0 26, .blk h.size (mC m sf sm sl) 26] := (hs.join hr).perm (List.perm_append_comm (l₂ := [_]))
 clear hr
 have hrn := (hs.rows 0 (s := r) (cs := inC) rfl (by omega)).ln
 rw [show (natI R).length = R.length from Yc _, hRl] at hrn
 refine ⟨r, rfl, _, _, _, sf, sm, sl, hs.at 2 rfl (o := 0) (n := 6) rfl, ?_⟩
 refine hs.newput (vs := mC m sf sm sl) rfl rfl fun h25 hs => ?_
 refine ⟨m.s, hs.rd 3 rfl (i := 2) rfl, ?_⟩
 refine (hs.rows 1 (s := r) (cs := inC) rfl (by omega)).nbI (by omega) (by omega) fun b27 o28 d g27 t27 => ?_
 obtain ⟨a, ga, rfl⟩ := natI_get g27
 obtain rfl : R.getD m.s.toNat 0 = a := getD_some ga
 refine ⟨_, t27.hd, ?_⟩
 refine hs.put 0 rfl (o := 2) (vs := [.int .i64 (R.getD m.s.toNat 0 : Nat)]) rfl (show 3 <= 6 by decide) fun h30 hs => ?_
 refine hs.put 0 rfl (o := 4) (vs := [.slice none 0 0]) rfl (show 5 <= 6 by decide) fun h31 hs => ?_
 have hs := (hs.nil_ 81 6).perm (List.Perm.swap _ _ _)
 refine ⟨fun x h' μ => ∃ (j : Nat) (omv : Sl), x = (j : Int) /\ μ = m.mv.length - j /\ j <= m.mv.length /\ St h h' [.blk h17.size [.int .i64 m.role, .int .i64 m.n, .int .i64 (R.getD m.s.toNat 0 : Nat), .slice sf.a sf.n sf.c, .slice omv.a omv.n omv.c, .slice sl.a sl.n sl.c] 26, .sl omv 81 6 (((m.mv.take j).map (reT R)).map Mv.cs), .sl r 3 1 ((natI R).map inC), .blk h7.size m0 26, .blk h.size (mC m sf sm sl) 26],
  ⟨_, 0, ⟨none, 0, 0⟩, rfl, rfl, Nat.zero_le _, hs⟩, ?_⟩
 clear hs
 rintro - _ h36 μ ⟨j, omv, rfl, rfl, hj, hs⟩
 refine ⟨sm, hs.rd 4 rfl (i := 4) rfl, sBi (fun c1 => ?_) (fun c1 => ?_)⟩
 ·
  refine ⟨sm, hs.rd 4 rfl (i := 4) rfl, ?_⟩
  refine (hM.pm.rw.ext hs.ext).nbI (by omega) (by omega) fun b39 o40 x g39 t39 => ?_
  replace g39 : m.mv[j]? = some x := g39
  have hxr := hV.n.mv x (Yb g39)
  refine ⟨_, _, _, _, _, _, t39, ?_⟩
  refine hs.newput (vs := x.cs) rfl rfl fun h48 hs => ?_
  refine ⟨x.t, hs.rd 0 rfl (i := 4) rfl, ?_⟩
  refine (hs.rows 3 (s := r) (cs := inC) rfl (by omega)).nbI (by omega) (by omega) fun b50 o51 d g50 t50 => ?_
  obtain ⟨b, gb, rfl⟩ := natI_get g50
  obtain rfl : R.getD x.t.toNat 0 = b := getD_some gb
  refine ⟨_, t50.hd, ?_⟩
  refine hs.put 0 rfl (o := 4) (vs := [.int .i64 (R.getD x.t.toNat 0 : Nat)]) rfl (show 5 <= 6 by decide) fun h53 hs => ?_
  have homv := (hs.rows 2 (s := omv) (cs := Mv.cs) rfl (by omega)).ln
  rw [Yc, Yu] at homv
  refine ⟨omv, hs.rd 1 rfl (i := 4) rfl, _, _, _, _, _, _, hs.at 0 rfl (o := 0) (n := 6) rfl, ?_⟩
  refine hs.app 2 rfl app31 (m := 1) [Mv.cs (reT R x)] rfl rfl (fun r hr => by rw [Ye] at hr; rw [hr]; rfl) rfl (by omega) (by simp only [maxLen]; omega) fun s62 h63 n62 hs => ?_
  refine hs.put 1 rfl (o := 4) (vs := [.slice s62.a s62.n s62.c]) rfl (show 5 <= 6 by decide) fun h64 hs => ?_
  refine ⟨_, (show m.mv.length - (j + 1) < m.mv.length - j by omega), j + 1, s62, by rw [w64 (by omega) (by omega)]; omega, rfl, by omega, ?_⟩
  rw [take_snoc g39, Ym (f := reT R), Ym (f := Mv.cs)]
  exact hs.drop 1
 ·
  have hjl : j = m.mv.length := by omega
  subst hjl
  rw [Yye] at hs
  have hM' : MI h36 (relM m R) sf omv sl := ⟨hM.pf.ext hs.ext, hs.rl 1 (cs := Mv.cs) (l := m.mv.map (reT R)) rfl (by decide) (by rw [Yc]; omega), hM.pl.ext hs.ext⟩
  refine ⟨_, _, _, sf, omv, sl, hs.at 0 rfl (o := 0) (n := 6) rfl, ?_⟩
  refine (canonical76 (relM m R) sf omv sl h36 hM' hW).mono ?_
  rw [hrl]
  rintro _ h79 ⟨sf', sm', sl', rfl, h3⟩
  have hs := hs.join h3
  refine ⟨_, _, _, sf', sm', sl', rfl, ?_⟩
  refine hs.put 3 rfl (o := 0) (vs := mC (minF (srtM m)) sf' sm' sl') rfl (show 6 <= 6 by decide) fun h80 hs => ?_
  exact ⟨_, _, _, sf', sm', sl', hs.at 3 rfl (o := 0) (n := 6) rfl, sf', sm', sl', rfl, hs.drop 5⟩
theorem canonical39 (m : Mch) (sf sm sl : Sl) (h : Heap) (hM : MI h m sf sm sl) : Fn Pz 39 #[.agg ⟨mC m sf sm sl⟩] h fun v h' => FmV (canM m) (erM m) h v h' := by
 apply vc39 m.role m.n m.s sf sm sl; unfold W39
 refine (St.refl h).newb fun h7 hs => ?_
 refine hs.newb fun h8 hs => ?_
 refine ⟨_, _, _, sf, sm, sl, hs.at 1 rfl (o := 0) (n := 6) rfl, ?_⟩
 refine (refValid24 m sf sm sl h8 (hM.ext hs.ext)).mono ?_
 rintro _ h17 ⟨⟨b, rfl, hb⟩, E⟩
 have hs := hs.step E
 refine ⟨_, rfl, sB_intro (fun c => ?_) (fun c => ?_)⟩
 ·
  have hnV : ¬ VM m := iff_f hb (bF c)
  refine hs.put 0 rfl (o := 0) (vs := m0) rfl (show 6 <= 6 by decide) fun h19 hs => ?_
  refine ⟨_, _, _, ⟨none, 0, 0⟩, ⟨none, 0, 0⟩, ⟨none, 0, 0⟩, hs.at 0 rfl (o := 0) (n := 6) rfl, ⟨none, 0, 0⟩, ⟨none, 0, 0⟩, ⟨none, 0, 0⟩, ?_, ?_⟩
  ·
   rw [canM_neg hnV, erM_neg hnV]; rfl
  ·
   rw [canM_neg hnV]; exact (((hs.drop 2).nil_ 44 3).nil_ 81 6).nil_ 4 1
 ·
  have hV : VM m := hb.1 (bT c)
  refine ⟨_, _, _, sf, sm, sl, hs.at 1 rfl (o := 0) (n := 6) rfl, ?_⟩
  refine (canonical76 m sf sm sl h17 (hM.ext hs.ext) hV.w).mono ?_
  rw [<- canM_pos hV]
  rintro _ h37 ⟨sf', sm', sl', rfl, h3⟩
  have hs := hs.join h3
  refine ⟨_, _, _, sf', sm', sl', rfl, ?_⟩
  refine hs.put 0 rfl (o := 0) (vs := mC (canM m) sf' sm' sl') rfl (show 6 <= 6 by decide) fun h38 hs => ?_
  refine ⟨_, _, _, sf', sm', sl', hs.at 0 rfl (o := 0) (n := 6) rfl, sf', sm', sl', ?_, hs.drop 2⟩
  rw [erM_pos hV]; rfl
theorem minimize40 (m : Mch) (sf sm sl : Sl) (h : Heap) (hM : MI h m sf sm sl) : Fn Pz 40 #[.agg ⟨mC m sf sm sl⟩] h fun v h' => FmV (minM m) (erM m) h v h' := by
 apply vc40 m.role m.n m.s sf sm sl; unfold W40
 refine (St.refl h).newb fun h7 hs => ?_
 refine hs.newb fun h8 hs => ?_
 refine ⟨_, _, _, sf, sm, sl, hs.at 1 rfl (o := 0) (n := 6) rfl, ?_⟩
 refine (refValid24 m sf sm sl h8 (hM.ext hs.ext)).mono ?_
 rintro _ h17 ⟨⟨b, rfl, hb⟩, E⟩
 have hs := hs.step E
 refine ⟨_, rfl, sB_intro (fun c => ?_) (fun c => ?_)⟩
 ·
  have hnV : ¬ VM m := iff_f hb (bF c)
  refine hs.put 0 rfl (o := 0) (vs := m0) rfl (show 6 <= 6 by decide) fun h19 hs => ?_
  refine ⟨_, _, _, ⟨none, 0, 0⟩, ⟨none, 0, 0⟩, ⟨none, 0, 0⟩, hs.at 0 rfl (o := 0) (n := 6) rfl, ⟨none, 0, 0⟩, ⟨none, 0, 0⟩, ⟨none, 0, 0⟩, ?_, ?_⟩
  ·
   rw [minM_neg hnV, erM_neg hnV]; rfl
  ·
   rw [minM_neg hnV]; exact (((hs.drop 2).nil_ 44 3).nil_ 81 6).nil_ 4 1
 ·
  have hV : VM m := hb.1 (bT c)
  refine ⟨_, _, _, sf, sm, sl, hs.at 1 rfl (o := 0) (n := 6) rfl, ?_⟩
  refine (minimal77 m sf sm sl h17 (hM.ext hs.ext) hV.w).mono ?_
  rw [<- minM_pos hV]
  rintro _ h37 ⟨sf', sm', sl', rfl, h3⟩
  have hs := hs.join h3
  refine ⟨_, _, _, sf', sm', sl', rfl, ?_⟩
  refine hs.put 0 rfl (o := 0) (vs := mC (minM m) sf' sm' sl') rfl (show 6 <= 6 by decide) fun h38 hs => ?_
  refine ⟨_, _, _, sf', sm', sl', hs.at 0 rfl (o := 0) (n := 6) rfl, sf', sm', sl', ?_, hs.drop 2⟩
  rw [erM_pos hV]; rfl
end Go.VC
end

section
/- Plain: the least machine and the canonical machine of a valid machine are valid. No program here. -/
namespace Go.VC
open Go.LexS
theorem list_get_range {α : Type} (d : α) (l : List α) : l = (List.range l.length).map fun i => l.getD i d := by
 refine List.ext_getElem? fun i => ?_
 rw [Yd]
 by_cases h : i < l.length
 ·
  rw [Yyb h, Option.map_some, Yo, Yi h]; rfl
 ·
  rw [Yl (by omega), Yl (by rw [Yyd]; omega)]; rfl
theorem outIx_len (m : Mch) (s : Nat) : (outIx m (s : Int)).length = (outM m s).length := by
 unfold outIx outM
 rw [<- List.countP_eq_length_filter, <- List.countP_eq_length_filter]
 have e := congrArg (List.countP fun x : Mv => decide (x.f = (s : Int))) (list_get_range ⟨0, false, 0, 0, 0, false⟩ m.mv)
 rw [List.countP_map] at e
 rw [e]
 refine List.countP_congr fun i hi => ?_
 obtain ⟨x, hx⟩ := get_some (l := m.mv) (i := i) (List.mem_range.1 hi)
 unfold outP
 rw [hx]
 show _ ↔ decide ((m.mv.getD i _).f = (s : Int)) = true
 rw [getD_some hx]
theorem row_send {m : Mch} (hD : DetM m) {s : Nat} {x y : Mv} (hx : x ∈ rwS m s) (hy : y ∈ rwS m s) : x.send = y.send := by
 obtain ⟨hx, fx⟩ := rwS_mem.1 hx
 obtain ⟨hy, fy⟩ := rwS_mem.1 hy
 obtain ⟨i, hi⟩ := Yf.1 hx
 obtain ⟨j, hj⟩ := Yf.1 hy
 by_cases e : i = j
 ·
  subst e; rw [hi] at hj; cases hj; rfl
 ·
  exact (hD i j x y hi hj e (by rw [fx, fy])).2
theorem nx_hit (l : List Mv) (v : Int) (h1 : 1 <= v) (h2 : v < nxL l) : ∃ (i : Nat) (x : Mv), l[i]? = some x /\ x.t = v /\ nxL (l.take i) = v := by
 have key : ∀ n, n <= l.length -> v < nxL (l.take n) -> ∃ (i : Nat) (x : Mv), l[i]? = some x /\ x.t = v /\ nxL (l.take i) = v := by
  intro n
  induction n with
  | zero =>
   intro _ h
   rw [Yyk] at h
   have : nxL [] = 1 := rfl
   omega
  | succ n ih =>
   intro hn h
   obtain ⟨x, hx⟩ := get_some (l := l) (i := n) (by omega)
   rw [take_snoc hx, nxL_snoc] at h
   by_cases hlt : v < nxL (l.take n)
   ·
    exact ih (by omega) hlt
   ·
    split at h
    ·
     rename_i e
     exact ⟨n, x, hx, by omega, by omega⟩
    ·
     omega
 exact key l.length (Nat.le_refl _) (by rw [Yye]; exact h2)
theorem num_reach {M : Mch} (h1 : nxL M.mv = M.n) (h2 : ∀ (i : Nat) x, M.mv[i]? = some x -> x.t <= nxL (M.mv.take i) /\ x.f < nxL (M.mv.take i)) (h3 : M.s = 0) (h4 : ∀ x ∈ M.mv, 0 <= x.f) : RchM M := by
 have key : ∀ k : Nat, (k : Int) < M.n -> Qr (meds M) (-1) [M.s] (k : Int) := by
  intro k
  induction k using Nat.strongRecOn with
  | ind k ih =>
   intro hk
   by_cases h0 : k = 0
   ·
    subst h0
    exact .base (by rw [h3]; exact Ye.2 rfl)
   ·
    obtain ⟨i, x, hx, ht, hn⟩ := nx_hit M.mv k (by omega) (by omega)
    have hf := (h2 i x hx).2
    have hm := Yb hx
    have h0 := h4 x hm
    have hq := ih x.f.toNat (by omega) (by omega)
    exact .step hq (quietL_mem.1 (meds_q.2 ⟨x, hm, by omega, ht⟩))
 intro v h0 hv
 have := key v.toNat (by omega)
 rwa [show ((v.toNat : Nat) : Int) = v by omega] at this
structure KeepC (m : Mch) (C : List Nat) (cnt : Nat) : Prop where
 ok : CsOk (srtM m) C cnt
 ev : ∀ x y : Nat, x < m.n.toNat -> y < m.n.toNat -> C[x]? = C[y]? -> (rwS m x).map (fun z => (z.ev, z.ag)) = (rwS m y).map (fun z => (z.ev, z.ag))
section
variable {m : Mch} {C : List Nat} {cnt : Nat}
theorem KeepC.inr (hK : KeepC m C cnt) {a b : Nat} (ha : a < m.n.toNat) (hb : b < m.n.toNat) (h : C[a]? = C[b]?) {x : Mv} (hx : x ∈ rwS m a) : ∃ w ∈ rwS m b, w.ev = x.ev /\ w.ag = x.ag := by
 have h1 : (x.ev, x.ag) ∈ (rwS m a).map fun z => (z.ev, z.ag) := Yp.2 ⟨x, hx, rfl⟩
 rw [hK.ev a b ha hb h] at h1
 obtain ⟨w, hw, e⟩ := Yp.1 h1
 exact ⟨w, hw, congrArg Prod.fst e, congrArg Prod.snd e⟩
theorem rep_at (hK : CsOk (srtM m) C cnt) {Q : List Nat} (hQ : QOk Q cnt) {i : Nat} (hi : i < Q.length) : ∃ q, Q[i]? = some q /\ repQ C Q i < m.n.toNat /\ C[repQ C Q i]? = some q := by
 obtain ⟨q, hq⟩ := get_some (l := Q) (i := i) hi
 have hm := hK.cs q (hQ.lt q (Yb hq))
 have e : repQ C Q i = idxF C q := by unfold repQ; rw [getD_some hq]
 rw [e]
 have hl : C.length = m.n.toNat := hK.cl
 exact ⟨q, hq, by rw [<- hl]; exact idxF_lt hm, idxF_get hm⟩
theorem rep_inj (hK : CsOk (srtM m) C cnt) {Q : List Nat} (hQ : QOk Q cnt) {i j : Nat} (hi : i < Q.length) (hj : j < Q.length) (h : repQ C Q i = repQ C Q j) : i = j := by
 obtain ⟨q, hq, _, h1⟩ := rep_at hK hQ hi
 obtain ⟨p, hp, _, h2⟩ := rep_at hK hQ hj
 rw [h, h2] at h1
 cases h1
 exact (List.getElem?_inj hi hQ.nd).1 (by rw [hq, hp])
structure MinI (m : Mch) (C : List Nat) (cnt c0 : Nat) (M : Mch) (Q : List Nat) : Prop where
 n : M.n = (Q.length : Nat)
 s : M.s = 0
 i : CanI (srtM m) C cnt Q.length Q M.fin M.mv M.li
 q0 : Q[0]? = some c0
 nx : nxL M.mv = M.n
 na : ∀ (i : Nat) x, M.mv[i]? = some x -> x.t <= nxL (M.mv.take i) /\ x.f < nxL (M.mv.take i)
 ls : M.li.Pairwise fun a b => a.s < b.s
 ro : M.role = m.role
theorem minN_i (hW : WM m) (hK : CsOk (srtM m) C cnt) {c0 : Nat} (hc0 : C[m.s.toNat]? = some c0) : ∃ Q, MinI m C cnt c0 (minN (srtM m) C 202 0 [c0] [] [] []) Q := by
 have hR := srtM_raw hW
 have hn := hW.n.n
 have hs := hW.n.s
 have hc0m := Yb hc0
 have hcc : cnt <= m.n.toNat := hK.cc
 have h0 : CanI (srtM m) C cnt 0 [c0] [] [] [] := ⟨⟨by simp, fun c hc => by rw [Ye] at hc; rw [hc]; exact hK.cb c0 hc0m⟩, by simp, rfl, rfl, fun i hi => (by omega), fun t ht => (by cases ht), fun i hi => (by omega)⟩
 obtain ⟨Q, h1, h2, h3, E, h4⟩ := minN_can hR.ok hK.cl hK.cb 202 0 [c0] [] [] [] (by omega) h0
 obtain ⟨h5, h6, h7, h8⟩ := minN_num (C := C) hR.so 202 0 [c0] [] [] [] (by simp) ⟨fun i x hx => by simp at hx, rfl⟩ ⟨List.Pairwise.nil, fun t ht => by cases ht⟩
 exact ⟨Q, h1, h2, h3, by rw [h4]; rfl, h5, h6, h7, h8⟩
section
variable {c0 : Nat} {M : Mch} {Q : List Nat}
theorem MinI.out (I : MinI m C cnt c0 M Q) (hK : CsOk (srtM m) C cnt) {i : Nat} (hi : i < Q.length) : outM (srtM m) (repQ C Q i) = rwS m (repQ C Q i) := by
 obtain ⟨q, _, hl, _⟩ := rep_at hK I.i.pq hi
 exact outM_srt hl
theorem MinI.row (I : MinI m C cnt c0 M Q) (hK : CsOk (srtM m) C cnt) {i : Nat} (hi : i < Q.length) : outM M i = (rwS m (repQ C Q i)).map (mvQ C Q i) := by
 unfold outM
 rw [can_row I.i hi, I.out hK hi]
theorem MinI.mv (I : MinI m C cnt c0 M Q) (hK : CsOk (srtM m) C cnt) : M.mv = (List.range Q.length).flatMap fun i => (rwS m (repQ C Q i)).map (mvQ C Q i) := by
 rw [I.i.pm]
 exact flatMap_congr' fun i hi => by rw [I.out hK (List.mem_range.1 hi)]
theorem MinI.mem (I : MinI m C cnt c0 M Q) (hK : CsOk (srtM m) C cnt) : ∀ z ∈ M.mv, ∃ i x, i < Q.length /\ x ∈ rwS m (repQ C Q i) /\ z = mvQ C Q i x := fun z hz => by
 rw [I.mv hK, List.mem_flatMap] at hz
 obtain ⟨i, hi, hz⟩ := hz
 obtain ⟨x, hx, rfl⟩ := Yp.1 hz
 exact ⟨i, x, List.mem_range.1 hi, hx, rfl⟩
theorem MinI.tq (I : MinI m C cnt c0 M Q) (hK : CsOk (srtM m) C cnt) {i : Nat} {x : Mv} (hi : i < Q.length) (hx : x ∈ rwS m (repQ C Q i)) : C.getD x.t.toNat 0 ∈ Q := I.i.pt i hi x (by rw [I.out hK hi]; exact hx)
theorem MinI.so (I : MinI m C cnt c0 M Q) (hK : CsOk (srtM m) C cnt) (hD : DetM m) : M.mv.Pairwise mvLt := by
 rw [I.mv hK, List.pairwise_flatMap]
 refine ⟨fun i _ => ?_, ?_⟩
 ·
  rw [List.pairwise_map]
  exact (rwS_lt hD (repQ C Q i)).imp fun {a b} h => .inr ⟨rfl, h⟩
 ·
  refine List.Pairwise.imp ?_ (List.pairwise_lt_range (n := Q.length))
  intro i k hik x hx y hy
  obtain ⟨a, _, rfl⟩ := Yp.1 hx
  obtain ⟨b, _, rfl⟩ := Yp.1 hy
  exact .inl (by show ((i : Nat) : Int) < (k : Nat); omega)
theorem MinI.lim (I : MinI m C cnt c0 M Q) (hK : CsOk (srtM m) C cnt) (hW : WM m) {t : To} (ht : t ∈ M.li) : ∃ (i : Nat) (t1 : To) (x : Mv), i < Q.length /\ t.s = (i : Int) /\ limT m (repQ C Q i : Nat) = some t1 /\ t.k = t1.k /\ (1 <= t.k /\ t.k <= 1000) /\ 0 <= t.e /\ m.mv[t1.e.toNat]? = some x /\ x ∈ rwS m (repQ C Q i) /\ M.mv[t.e.toNat]? = some (mvQ C Q i x) /\ x.send = true /\ x.ag = false := by
 have hR := srtM_raw hW
 obtain ⟨i', x, hi', g1, g2, g3, g4, t0, y, g5, g6, g7, g8⟩ := I.i.p1 t ht
 rw [lim_srt hW.t] at g5
 cases hlt : limT m (repQ C Q i' : Nat) with
 | none => rw [hlt] at g5; cases g5
 | some t1 =>
  rw [hlt] at g5
  cases g5
  obtain ⟨a1, a2⟩ := limT_mem hlt
  obtain ⟨b1, y', b0, b2, b3, b4, _, _, b5⟩ := li_in hW a1
  have g6 : (srtV m)[(srtE m t1).e.toNat]? = some y := g6
  have e6 : y' = y := Option.some.inj (b5.symm.trans g6)
  subst e6
  have hyo : y' ∈ outM (srtM m) (repQ C Q i') := by
   unfold outM
   exact List.mem_filter.2 ⟨Yb b5, by rw [b2, a2]; exact decide_eq_true rfl⟩
  have hxy := outM_inj hR.so g2 hyo g8
  subst hxy
  have hk : t.k = t1.k := g7
  exact ⟨i', t1, _, hi', g1, hlt, hk, by rw [hk]; exact b1, g3, b0, by rw [<- I.out hK hi']; exact g2, g4, b3, b4⟩
set_option maxHeartbeats 1000000 in
theorem MinI.vm (I : MinI m C cnt c0 M Q) (hV : VM m) (hK : KeepC m C cnt) (hc0 : C[m.s.toNat]? = some c0) : VM M := by
 have hW := hV.w
 have hn := hV.n.n
 have hs := hV.n.s
 have hcc : cnt <= m.n.toNat := hK.ok.cc
 have h1 := I.n
 have h2 := I.s
 have h8 := I.ro
 have hQ := I.i.pq
 have hQl := hQ.le
 have hQ1 : 1 <= Q.length := (Ya.1 I.q0).1
 have hmv := I.mv hK.ok
 have hmem := I.mem hK.ok
 have hso := I.so hK.ok hV.d
 have hlen : M.mv.length <= m.mv.length := by
  have e : M.mv.length = ((List.range Q.length).flatMap fun i => rwS m (repQ C Q i)).length := by
   rw [hmv, List.length_flatMap, List.length_flatMap]
   simp only [Yc]
  rw [e]
  refine List.Nodup.length_le_of_subset ?_ fun x hx => ?_
  ·
   rw [List.nodup_iff_pairwise_ne, List.pairwise_flatMap]
   refine ⟨fun i _ => (rwS_lt hV.d (repQ C Q i)).imp fun {a b} h (e : a = b) => evLt_irr b.ev (by rw [e] at h; exact h), ?_⟩
   refine List.Pairwise.imp_of_mem ?_ (List.pairwise_lt_range (n := Q.length))
   intro i k hi hk hik x hx y hy e
   have f1 := (rwS_mem.1 hx).2
   have f2 := (rwS_mem.1 hy).2
   have := rep_inj hK.ok hQ (List.mem_range.1 hi) (List.mem_range.1 hk) (by rw [e] at f1; omega)
   omega
  ·
   obtain ⟨i, _, hx⟩ := List.mem_flatMap.1 hx
   exact (rwS_mem.1 hx).1
 have hnum : NumM M := by
  refine ⟨by rw [h8]; exact hV.n.r, by omega, by omega, ?_, Nat.le_trans hlen hV.n.ml, fun z hz => ?_⟩
  ·
   rw [I.i.pf, Yc, Yyd, h1]
  ·
   obtain ⟨i, x, hi, hx, rfl⟩ := hmem z hz
   have h9 := hV.n.mv x (rwS_mem.1 hx).1
   have h10 := idxF_lt (I.tq hK.ok hi hx)
   rw [h8]
   show 0 <= ((i : Nat) : Int) /\ ((i : Nat) : Int) < M.n /\ 0 <= ((idxF Q (C.getD x.t.toNat 0) : Nat) : Int) /\ ((idxF Q (C.getD x.t.toNat 0) : Nat) : Int) < M.n /\ 0 <= x.peer /\ x.peer < 6 /\ x.peer ≠ m.role /\ 0 <= x.label /\ x.label < 40
   omega
 have hlen1 : ∀ i, i < Q.length -> (outIx M (i : Int)).length = (outIx m (repQ C Q i : Int)).length := fun i hi => by
  rw [outIx_len, I.row hK.ok hi, Yc, rwS_len]
  exact (mvS_srt m _).1.length_eq
 refine ⟨hnum, ?_, num_reach I.nx I.na h2 fun x hx => (hnum.mv x hx).1, ⟨?_, ?_, ?_, ?_, ?_⟩, ?_⟩
 ·
  intro i k x y hx hy hne hf
  have hev : x.ev ≠ y.ev := fun e => by
   rcases Nat.lt_or_gt_of_ne hne with h | h
   ·
    rcases mvLt_get hso h hx hy with h | ⟨_, h⟩
    ·
     omega
    ·
     rw [e] at h; exact evLt_irr _ h
   ·
    rcases mvLt_get hso h hy hx with h | ⟨_, h⟩
    ·
     omega
    ·
     rw [e] at h; exact evLt_irr _ h
  refine ⟨hev, ?_⟩
  obtain ⟨i1, x1, hi1, hx1, rfl⟩ := hmem x (Yb hx)
  obtain ⟨i2, y1, hi2, hy1, rfl⟩ := hmem y (Yb hy)
  have : i1 = i2 := by
   have : ((i1 : Nat) : Int) = (i2 : Nat) := hf
   omega
  subst this
  show x1.send = y1.send
  exact row_send hV.d hx1 hy1
 ·
  intro z hz ha
  obtain ⟨i, x, hi, hx, rfl⟩ := hmem z hz
  exact hV.a.s x (rwS_mem.1 hx).1 ha
 ·
  intro z hz ha
  obtain ⟨i, x, hi, hx, rfl⟩ := hmem z hz
  have h9 := hV.a.o x (rwS_mem.1 hx).1 ha
  rw [(rwS_mem.1 hx).2] at h9
  show (outIx M ((i : Nat) : Int)).length = 1
  rw [hlen1 i hi]; exact h9
 ·
  intro z hz ha
  obtain ⟨i, x, hi, hx, rfl⟩ := hmem z hz
  rw [h2]
  intro e
  have e : ((i : Nat) : Int) = 0 := e
  have : i = 0 := by omega
  subst this
  obtain ⟨q, hq, hl, hC⟩ := rep_at hK.ok hQ hi
  rw [I.q0] at hq; cases hq
  obtain ⟨w, hw, _, hwa⟩ := hK.inr hl (by omega) (hC.trans hc0.symm) hx
  have hwf := rwS_mem.1 hw
  refine hV.a.i w hwf.1 (by rw [hwa]; exact ha) ?_
  rw [hwf.2]; omega
 ·
  intro z hz ha
  obtain ⟨i, x, hi, hx, rfl⟩ := hmem z hz
  have hxf := rwS_mem.1 hx
  have h9 := hV.a.f x hxf.1 ha
  rw [hxf.2, show ((repQ C Q i : Nat) : Int).toNat = repQ C Q i from rfl] at h9
  show M.fin[((i : Nat) : Int).toNat]? = some false
  rw [I.i.pf, show ((i : Nat) : Int).toNat = i from rfl, Yd, Yyb hi]
  show some (m.fin.getD (repQ C Q i) false) = some false
  rw [getD_some h9]
 ·
  intro z hz ha y' hy' ht
  obtain ⟨i, x, hi, hx, rfl⟩ := hmem z hz
  obtain ⟨k, y, hk, hy, rfl⟩ := hmem y' hy'
  have ht : ((idxF Q (C.getD y.t.toNat 0) : Nat) : Int) = (i : Nat) := ht
  have ht : idxF Q (C.getD y.t.toNat 0) = i := by omega
  have hyr := hV.n.mv y (rwS_mem.1 hy).1
  obtain ⟨cy, hcy⟩ := get_some (l := C) (i := y.t.toNat) (by have : C.length = m.n.toNat := hK.ok.cl; omega)
  have hin := I.tq hK.ok hk hy
  rw [getD_some hcy] at ht hin
  obtain ⟨q, hq, hl, hC⟩ := rep_at hK.ok hQ hi
  have hqc : some q = some cy := by rw [<- hq, <- ht]; exact idxF_get hin
  obtain ⟨w, hw, hwe, hwa⟩ := hK.inr hl (b := y.t.toNat) (by omega) (by rw [hC, hcy, hqc]) hx
  have hwf := rwS_mem.1 hw
  have h9 := hV.a.p w hwf.1 (by rw [hwa]; exact ha) y (rwS_mem.1 hy).1 (by rw [hwf.2]; omega)
  have hwl : w.label = x.label := congrArg Ev.label hwe
  exact ⟨h9.1, h9.2.trans hwl⟩
 ·
  intro i t hi
  obtain ⟨i', t1, x, _, g1, _, _, g4, g5, _, _, g6, g7, g8⟩ := I.lim hK.ok hW (Yb hi)
  exact ⟨fun z h0 hz => pair_get I.ls (by omega) hz hi, g4, g5, _, g6, g1.symm, g7, g8⟩
end
theorem minN_vm (hV : VM m) (hK : KeepC m C cnt) {c0 : Nat} (hc0 : C[m.s.toNat]? = some c0) : VM (minN (srtM m) C 202 0 [c0] [] [] []) := by
 obtain ⟨Q, I⟩ := minN_i hV.w hK.ok hc0
 exact I.vm hV hK hc0
end
theorem row_of_key {m : Mch} {D : List Nat} {x y : Nat} (h : (rwS m x).map (sgM D) = (rwS m y).map (sgM D)) : (rwS m x).map (fun z => (z.ev, z.ag)) = (rwS m y).map (fun z => (z.ev, z.ag)) := by
 have := congrArg (List.map fun s : Sg => (s.x, s.ag)) h
 rw [List.map_map, List.map_map] at this
 exact this
theorem keep_cls {m : Mch} (hV : WM m) : KeepC m (cls (srtM m)).1 (cls (srtM m)).2 := by
 have hO := (srtM_raw hV).ok
 refine ⟨cls_ok hO, fun x y hx hy h => ?_⟩
 obtain ⟨N, _, _, h3⟩ := cls_stable hO
 have hk := (keyS_parts (h3 x y hx hy h)).1
 rw [outM_srt hx, outM_srt hy] at hk
 exact row_of_key hk
theorem keep_range {m : Mch} : KeepC m (List.range m.n.toNat) m.n.toNat := by
 refine ⟨⟨Yyd, fun c hc => List.mem_range.1 hc, Nat.le_refl _, fun c hc => List.mem_range.2 hc⟩, fun x y hx hy h => ?_⟩
 rw [Yyb hx, Yyb hy] at h
 cases h; rfl
theorem minF_vm {m : Mch} (hV : VM m) : VM (minF (srtM m)) := by
 have hK := keep_cls hV.w
 have hs := hV.n.s
 obtain ⟨c0, hc0⟩ := get_some (l := (cls (srtM m)).1) (i := m.s.toNat) (by have : (cls (srtM m)).1.length = m.n.toNat := hK.ok.cl; omega)
 have := minN_vm hV hK hc0
 unfold minF
 rw [show (srtM m).s = m.s from rfl, getD_some hc0]
 exact this
theorem canN_vm {m : Mch} (hV : VM m) : VM (canN m) := by
 have hs := hV.n.s
 exact minN_vm hV keep_range (Yyb (by omega))
end Go.VC
end

section
/- Contract: the law of a machine's forms. (Numbers of layer 26's seat.) -/
namespace Go.VC
open Go.Proofs Go.LexS Go.Maps
structure SmM (m : Mch) : Prop where
 f : m.fin.length <= 1048576
 v : m.mv.length <= 1048576
 l : m.li.length <= 1048576
theorem VM.smm {m : Mch} (h : VM m) : SmM m := ⟨by have := h.n.fl; have := h.n.n; omega, by have := h.n.ml; omega, by have := li_len h.w; omega⟩
theorem mZ_sm : SmM mZ := ⟨by decide, by decide, by decide⟩
theorem canM_sm (m : Mch) : SmM (canM m) := by
 by_cases h : VM m
 ·
  rw [canM_pos h]; exact (canN_vm h).smm
 ·
  rw [canM_neg h]; exact mZ_sm
theorem minM_sm (m : Mch) : SmM (minM m) := by
 by_cases h : VM m
 ·
  rw [minM_pos h]; exact (minF_vm h).smm
 ·
  rw [minM_neg h]; exact mZ_sm
theorem St.mism {h0 h : Heap} {L : List It} {M : Mch} {f g l : Sl} (hs : St h0 h L) (k : Nat) (hS : SmM M) (a0 : L[k]? = (mL M f g l)[0]?) (a1 : L[k + 1]? = (mL M f g l)[1]?) (a2 : L[k + 2]? = (mL M f g l)[2]?) : MI h M f g l :=
 ⟨hs.rl k a0 (by omega) hS.f, hs.rl (k + 1) a1 (by omega) hS.v, hs.rl (k + 2) a2 (by omega) hS.l⟩
set_option maxHeartbeats 1600000 in
theorem forms9 (m : Mch) (sf sm sl : Sl) (h : Heap) (hM : MI h m sf sm sl) (hx : Gx h) :
  Fn Pz 9 #[.agg ⟨mC m sf sm sl⟩] h fun v h' => v = .bool true /\ Ext h h' := by
 apply vc9 m.role m.n m.s sf sm sl; unfold W9
 refine (St.refl h).newb fun h7 hs => ?_
 refine (awake12 h7 (hx.ext hs.ext)).mono ?_
 rintro _ h10 ⟨rfl, E⟩
 have hs := hs.step E
 refine ⟨_, rfl, sB_f rfl ?_⟩
 refine ⟨_, _, _, sf, sm, sl, hs.at 0 rfl (o := 0) (n := 6) rfl, ?_⟩
 refine (few13 m sf sm sl h10 (hM.ext hs.ext)).mono ?_
 rintro _ h19 ⟨⟨b1, rfl, hb1⟩, E⟩
 have hs := hs.step E
 refine ⟨_, rfl, sB_intro (fun _ => ⟨rfl, hs.ext⟩) (fun _ => ?_)⟩
 refine ⟨_, _, _, sf, sm, sl, hs.at 0 rfl (o := 0) (n := 6) rfl, ?_⟩
 refine (canonical38 m sf sm sl h19 (hM.ext hs.ext)).mono ?_
 rintro _ h34 ⟨f1, g1, l1, rfl, s1⟩
 have hs := hs.join s1
 refine ⟨_, _, _, f1, g1, l1, _, rfl, ?_⟩
 refine hs.newput (vs := mC (canM m) f1 g1 l1) rfl rfl fun h36 hs => ?_
 refine ⟨_, _, _, sf, sm, sl, hs.at 1 rfl (o := 0) (n := 6) rfl, ?_⟩
 refine (canonical39 m sf sm sl h36 (hM.ext hs.ext)).mono ?_
 rintro _ h51 ⟨f2, g2, l2, rfl, s2⟩
 have hs := hs.join s2
 refine ⟨_, _, _, f2, g2, l2, _, rfl, ?_⟩
 refine hs.newput (vs := mC (canM m) f2 g2 l2) rfl rfl fun h53 hs => ?_
 refine ⟨_, _, _, sf, sm, sl, hs.at 2 rfl (o := 0) (n := 6) rfl, ?_⟩
 refine (minimize37 m sf sm sl h53 (hM.ext hs.ext)).mono ?_
 rintro _ h68 ⟨f3, g3, l3, rfl, s3⟩
 have hs := hs.join s3
 refine ⟨_, _, _, f3, g3, l3, _, rfl, ?_⟩
 refine hs.newput (vs := mC (minM m) f3 g3 l3) rfl rfl fun h70 hs => ?_
 refine ⟨_, _, _, sf, sm, sl, hs.at 3 rfl (o := 0) (n := 6) rfl, ?_⟩
 refine (minimize40 m sf sm sl h70 (hM.ext hs.ext)).mono ?_
 rintro _ h85 ⟨f4, g4, l4, rfl, s4⟩
 have hs := hs.join s4
 refine ⟨_, _, _, f4, g4, l4, _, rfl, ?_⟩
 refine hs.newput (vs := mC (minM m) f4 g4 l4) rfl rfl fun h87 hs => ?_
 refine sB_t (by simp) (sB_t (by simp) ?_)
 refine ⟨_, _, _, f1, g1, l1, hs.at 3 rfl (o := 0) (n := 6) rfl, _, _, _, f2, g2, l2, hs.at 2 rfl (o := 0) (n := 6) rfl, ?_⟩
 refine (same17 (canM m) (canM m) f1 g1 l1 f2 g2 l2 h87 (hs.mism 5 (canM_sm m) rfl rfl rfl) (hs.mism 8 (canM_sm m) rfl rfl rfl)).mono ?_
 rintro _ h102 ⟨⟨b2, rfl, hb2⟩, E⟩
 have hs := hs.step E
 refine ⟨_, rfl, sB_t (hb2.2 rfl) ?_⟩
 refine ⟨_, _, _, f3, g3, l3, hs.at 1 rfl (o := 0) (n := 6) rfl, _, _, _, f4, g4, l4, hs.at 0 rfl (o := 0) (n := 6) rfl, ?_⟩
 refine (same17 (minM m) (minM m) f3 g3 l3 f4 g4 l4 h102 (hs.mism 11 (minM_sm m) rfl rfl rfl) (hs.mism 14 (minM_sm m) rfl rfl rfl)).mono ?_
 rintro _ h117 ⟨⟨b3, rfl, hb3⟩, E⟩
 have hs := hs.step E
 refine ⟨_, rfl, sB_t (hb3.2 rfl) ?_⟩
 by_cases hV : VM m
 ·
  refine sB_f (by rw [erM_pos hV]; rfl) ?_
  refine ⟨_, _, _, f1, g1, l1, hs.at 3 rfl (o := 0) (n := 6) rfl, ?_⟩
  refine (valid23 (canM m) f1 g1 l1 h117 (hs.mism 5 (canM_sm m) rfl rfl rfl)).mono ?_
  rintro _ h126 ⟨⟨b4, rfl, hb4⟩, E⟩
  have hs := hs.step E
  refine ⟨_, rfl, sB_t (hb4.2 (by rw [canM_pos hV]; exact canN_vm hV)) ?_⟩
  refine ⟨_, _, _, f3, g3, l3, hs.at 1 rfl (o := 0) (n := 6) rfl, ?_⟩
  refine (valid23 (minM m) f3 g3 l3 h126 (hs.mism 11 (minM_sm m) rfl rfl rfl)).mono ?_
  rintro _ h135 ⟨⟨b5, rfl, hb5⟩, E⟩
  exact ⟨_, rfl, by rw [hb5.2 (by rw [minM_pos hV]; exact minF_vm hV)], (hs.step E).ext⟩
 ·
  exact sB_t (by rw [erM_neg hV]; rfl) ⟨rfl, hs.ext⟩
end Go.VC
end

section
/- What a machine and a history look like in memory where all that is read is of bulk at most 1048576. -/
namespace Go.VC
open Go.Proofs Go.LexS Go.RowKit Go.ChangeShapes Go.WideShapes Go.Proofs.YtkebghjhekoecaaGreatDoor
theorem bulk_pos {H : Type} (d : DataW H) : 1 <= Rows.uptoBulk d := by
 cases d with
 | lit l => cases l <;> simp [Rows.uptoBulk]
 | _ => simp [Rows.uptoBulk]
theorem bulk_part {H : Type} : ∀ {l : List (DataW H)} {d : DataW H}, d ∈ l -> Rows.uptoBulk d <= Rows.uptoBulkAll l
 | [], _, h => by cases h
 | x :: r, d, h => by
  rw [Rows.uptoBulkAll]
  rcases Yr.1 h with rfl | h
  ·
   omega
  ·
   have := bulk_part h; omega
theorem bulk_len {H : Type} : ∀ l : List (DataW H), l.length <= Rows.uptoBulkAll l
 | [] => by simp
 | x :: r => by
  have h1 := bulk_pos x
  have h2 := bulk_len r
  rw [Rows.uptoBulkAll, Yyj]; omega
def Rdb (P : Program) (W : World) (t : TypeId) (cs : List Value) : Prop :=
 ∃ (H : Type) (enc : TypeId × Value -> H) (n : Nat) (x : DataW H × List MemPlace), DataW.trod enc P W 0 (fun _ => true) true n t cs = some x /\ Rows.uptoBulk x.1 <= 1048576
theorem Rdb.rdt {P : Program} {W : World} {t : TypeId} {cs : List Value} (h : Rdb P W t cs) : Rdt P W t cs := by
 obtain ⟨H, enc, n, x, h1, _⟩ := h; exact ⟨H, enc, n, x, h1⟩
theorem rdb_of_trod {H : Type} {enc : TypeId × Value -> H} {P : Program} {W : World} {t : TypeId} {v : Value} {d : DataW H} {p : List MemPlace} (h : DataW.Trod enc P W 0 (fun _ => true) true t v d p) (hw : Rows.uptoBulk d <= 1048576) : Rdb P W t v.cells.toList := by
 obtain ⟨n, h⟩ := h
 exact ⟨H, enc, n, _, h, hw⟩
theorem Rdb.field {P : Program} {W : World} {t ft : TypeId} {cs : List Value} {i off : Nat} (h : Rdb P W t cs) (hf : fieldAt P t i = some (ft, off)) : Rdb P W ft ((cs.drop off).take (P.cellsOf ft)) := by
 unfold fieldAt at hf
 split at hf
 ·
  rename_i fs hu
  obtain ⟨f, h1, h2⟩ := Yya.1 hf
  cases h2
  obtain ⟨H, enc, n, x, h, hw⟩ := h
  obtain ⟨xs, m, _, hx, hl, hxl, hfi⟩ := DataW.trod_struct hu h
  have hlt : i < xs.length := by rw [hxl]; exact (Yyg.1 h1).1
  refine ⟨H, enc, m, xs[i], by rw [hfi i f h1, Yi hlt], ?_⟩
  rw [hx, Rows.uptoBulk] at hw
  have := bulk_part (l := xs.map (·.1)) (d := xs[i].1) (Yp.2 ⟨xs[i], List.getElem_mem hlt, rfl⟩)
  omega
 ·
  cases hf
theorem Rdb.rows {P : Program} {W : World} {t e : TypeId} {cs : List Value} (ht : P.underlying t = some (.slice e)) (h : Rdb P W t cs) (hpos : 0 < P.cellsOf e) :
  ∃ (s : Sl) (rows : List (List Value)), cs = [.slice s.a s.n s.c] /\ s.n <= s.c /\ s.n <= 1048576 /\ (s.a = none -> s.n = 0 /\ s.c = 0) /\ Rw W.heap (P.cellsOf e) s rows /\ ∀ r ∈ rows, r.length = P.cellsOf e /\ Rdb P W e r := by
 obtain ⟨H, enc, n, x, h, hw⟩ := h
 rcases DataW.trod_slice ht h with ⟨rfl, _⟩ | ⟨a, len, cap, elems, rest, m, _, rfl, hx, _, hlc, hcm, hel, helem, _, _⟩
 ·
  exact ⟨⟨none, 0, 0⟩, [], rfl, Nat.le_refl _, Nat.zero_le _, fun _ => ⟨rfl, rfl⟩, Rw.nil, fun r hr => by cases hr⟩
 ·
  rw [hx, Rows.uptoBulk] at hw
  have hle : len <= 1048576 := by
   have := bulk_len (elems.map (·.1))
   rw [Yc] at this; omega
  have hwe : ∀ (i : Nat) (hi : i < elems.length), Rows.uptoBulk elems[i].1 <= 1048576 := fun i hi => by
   have := bulk_part (l := elems.map (·.1)) (d := elems[i].1) (Yp.2 ⟨elems[i], List.getElem_mem hi, rfl⟩)
   omega
  by_cases h0 : len = 0
  ·
   subst h0
   exact ⟨⟨some a, 0, cap⟩, [], rfl, hlc, hle, fun e => (by cases e), Rw.empty rfl, fun r hr => by cases hr⟩
  ·
   have hrow : ∀ i, i < len -> ∃ r, W.cells? 0 (a.add (i * P.cellsOf e)) (P.cellsOf e) = some r /\ Rdb P W e r := by
    intro i hi
    have h1 := helem i hi
    rw [Yi (by omega)] at h1
    obtain ⟨r, hr, hx2⟩ := Option.bind_eq_some_iff.1 h1
    exact ⟨r, hr, H, enc, m, _, hx2, hwe i (by omega)⟩
   let row : Nat -> List Value := fun i => (W.cells? 0 (a.add (i * P.cellsOf e)) (P.cellsOf e)).getD []
   have hrow' : ∀ i, i < len -> W.cells? 0 (a.add (i * P.cellsOf e)) (P.cellsOf e) = some (row i) /\ Rdb P W e (row i) := fun i hi => by
    obtain ⟨r, hr, hx⟩ := hrow i hi
    have : row i = r := by show (W.cells? 0 _ _).getD [] = r; rw [hr]; rfl
    rw [this]; exact ⟨hr, hx⟩
   have hget : ∀ i, i < len -> ((List.range len).map row)[i]? = some (row i) := fun i hi => by
    rw [Yd, Yyb hi]; rfl
   have hspot : a = ⟨a.block, a.off, none⟩ := by
    have hc := (cells_at (hrow' 0 (by omega)).1)
    have hl0 : 0 < (row 0).length := by rw [hc.1]; exact hpos
    have := hc.2 0 _ (Yi hl0)
    rw [Nat.zero_mul, show (a.add 0).add 0 = a from rfl] at this
    unfold World.cell? at this
    split at this
    ·
     split at this
     ·
      cases this
     ·
      rename_i hs
      cases a with
      | mk b o s =>
       cases s with
       | none => rfl
       | some s => exact absurd rfl hs
    ·
     cases this
   refine ⟨⟨some a, len, cap⟩, (List.range len).map row, rfl, hlc, hle, fun e => (by cases e), ⟨by simp, fun _ => ⟨a.block, a.off, by rw [<- hspot], fun i r hi j v hj => ?_⟩⟩, fun r hr => ?_⟩
   ·
    have hil : i < len := by have := (Ya.1 hi).1; simpa using this
    rw [hget i hil] at hi; cases hi
    have h4 := (cells_at (hrow' i hil).1).2 _ _ hj
    rw [hspot] at h4
    have e : ((⟨a.block, a.off, none⟩ : Addr).add (i * P.cellsOf e)).add j = addk ⟨a.block, a.off + i * P.cellsOf e, none⟩ j := by
     rw [addk_at, add_n, add_n]
    rw [e] at h4
    exact h4
   ·
    obtain ⟨i, hi, rfl⟩ := Yp.1 hr
    have := hrow' i (List.mem_range.1 hi)
    exact ⟨(cells_at this.1).1, this.2⟩
theorem Rdb.list {α : Type} {P : Program} {W : World} {t e : TypeId} {k : Nat} {v : Value} {cs : α -> List Value} {Q : α -> Prop} (ht : P.underlying t = some (.slice e)) (hk : P.cellsOf e = k) (hpos : 0 < k)
  (ho : ∀ r, Rdb P W e r -> ∃ x, r = cs x /\ Q x) (h : Rdb P W t [v]) : ∃ (s : Sl) (L : List α), v = .slice s.a s.n s.c /\ RL W.heap k s cs L /\ ∀ x ∈ L, Q x := by
 subst hk
 obtain ⟨s, rows, e1, hc, hm, hna, hrw, hr⟩ := h.rows ht hpos
 have key : ∀ rows : List (List Value), (∀ r ∈ rows, r.length = P.cellsOf e /\ Rdb P W e r) -> ∃ L : List α, rows = L.map cs /\ ∀ x ∈ L, Q x := by
  intro rows
  induction rows with
  | nil => intro _; exact ⟨[], rfl, fun x hx => by cases hx⟩
  | cons r rows ih =>
   intro h
   obtain ⟨x, hx, hq⟩ := ho r (h r (by simp)).2
   obtain ⟨L, hL, hQ⟩ := ih fun y hy => h y (Yn _ hy)
   exact ⟨x :: L, by rw [hx, hL]; rfl, fun y hy => by rcases Yr.1 hy with rfl | hy; exact hq; exact hQ y hy⟩
 obtain ⟨L, rfl, hQ⟩ := key rows hr
 have hn := hrw.ln
 exact ⟨s, L, by simpa using e1, ⟨hrw, hc, hna, by omega⟩, hQ⟩
theorem v3 : Pz.underlying 3 = some (.int .i64) := by kernel_rfl
theorem v4b : Pz.underlying 4 = some .bool := by kernel_rfl
theorem cz3 : Pz.cellsOf 3 = 1 := by kernel_rfl
theorem cz4 : Pz.cellsOf 4 = 1 := by kernel_rfl
theorem cz22 : Pz.cellsOf 22 = 1 := by kernel_rfl
theorem cz23 : Pz.cellsOf 23 = 1 := by kernel_rfl
theorem cz24 : Pz.cellsOf 24 = 1 := by kernel_rfl
theorem cz26 : Pz.cellsOf 26 = 6 := by kernel_rfl
theorem cz44 : Pz.cellsOf 44 = 3 := by kernel_rfl
theorem cz81 : Pz.cellsOf 81 = 6 := by kernel_rfl
theorem vs22 : Pz.underlying 22 = some (.slice 4) := by kernel_rfl
theorem vs23 : Pz.underlying 23 = some (.slice 81) := by kernel_rfl
theorem vs24 : Pz.underlying 24 = some (.slice 44) := by kernel_rfl
theorem open_three {W : World} {t : TypeId} {r : List Value} (hc : Pz.cellsOf t = 3) (h0 : fieldAt Pz t 0 = some (3, 0)) (h1 : fieldAt Pz t 1 = some (3, 1)) (h2 : fieldAt Pz t 2 = some (3, 2)) (h : Rdt Pz W t r) :
  ∃ a b c : Int, r = [.int .i64 a, .int .i64 b, .int .i64 c] := by
 have hl := h.flen h0
 rw [hc] at hl
 match r, hl with
 | [x0, x1, x2], _ =>
  have f0 := h.field h0
  have f1 := h.field h1
  have f2 := h.field h2
  rw [cz3] at f0 f1 f2
  obtain ⟨k0, e0, _⟩ := f0.int v3
  obtain ⟨k1, e1, _⟩ := f1.int v3
  obtain ⟨k2, e2, _⟩ := f2.int v3
  simp only [List.drop_zero, List.take_succ_cons, Yyk, List.drop_succ_cons, List.cons.injEq, and_true] at e0 e1 e2
  subst e0 e1 e2
  exact ⟨k0, k1, k2, rfl⟩
theorem open_boolv {W : World} {r : List Value} (h : Rdb Pz W 4 r) : ∃ x : Bool, r = bC x /\ True := by
 obtain ⟨k, e⟩ := h.rdt.bool v4b
 exact ⟨k, e, trivial⟩
theorem open_limit {W : World} {r : List Value} (h : Rdb Pz W 44 r) : ∃ x : To, r = x.cs /\ True := by
 obtain ⟨a, b, c, e⟩ := open_three cz44 (by kernel_rfl) (by kernel_rfl) (by kernel_rfl) h.rdt
 exact ⟨⟨a, b, c⟩, e, trivial⟩
theorem open_move {W : World} {r : List Value} (h : Rdb Pz W 81 r) : ∃ x : Mv, r = x.cs /\ True := by
 have hl := h.rdt.flen (i := 0) (ft := 3) (off := 0) (by kernel_rfl)
 rw [cz81] at hl
 match r, hl with
 | [x0, x1, x2, x3, x4, x5], _ =>
  have f0 := h.rdt.field (i := 0) (ft := 3) (off := 0) (by kernel_rfl)
  have f1 := h.rdt.field (i := 1) (ft := 4) (off := 1) (by kernel_rfl)
  have f2 := h.rdt.field (i := 2) (ft := 3) (off := 2) (by kernel_rfl)
  have f3 := h.rdt.field (i := 3) (ft := 3) (off := 3) (by kernel_rfl)
  have f4 := h.rdt.field (i := 4) (ft := 3) (off := 4) (by kernel_rfl)
  have f5 := h.rdt.field (i := 5) (ft := 4) (off := 5) (by kernel_rfl)
  rw [cz3] at f0 f2 f3 f4
  rw [cz4] at f1 f5
  obtain ⟨k0, e0, _⟩ := f0.int v3
  obtain ⟨k1, e1⟩ := f1.bool v4b
  obtain ⟨k2, e2, _⟩ := f2.int v3
  obtain ⟨k3, e3, _⟩ := f3.int v3
  obtain ⟨k4, e4, _⟩ := f4.int v3
  obtain ⟨k5, e5⟩ := f5.bool v4b
  simp only [List.drop_zero, List.take_succ_cons, Yyk, List.drop_succ_cons, List.cons.injEq, and_true] at e0 e1 e2 e3 e4 e5
  subst e0 e1 e2 e3 e4 e5
  exact ⟨⟨k0, k1, k2, k3, k4, k5⟩, rfl, trivial⟩
theorem open_machine {W : World} {r : List Value} (h : Rdb Pz W 26 r) : ∃ (m : Mch) (sf sm sl : Sl), r = mC m sf sm sl /\ MI W.heap m sf sm sl := by
 have hl := h.rdt.flen (i := 0) (ft := 3) (off := 0) (by kernel_rfl)
 rw [cz26] at hl
 match r, hl with
 | [x0, x1, x2, x3, x4, x5], _ =>
  have f0 := h.rdt.field (i := 0) (ft := 3) (off := 0) (by kernel_rfl)
  have f1 := h.rdt.field (i := 1) (ft := 3) (off := 1) (by kernel_rfl)
  have f2 := h.rdt.field (i := 2) (ft := 3) (off := 2) (by kernel_rfl)
  have f3 := h.field (i := 3) (ft := 22) (off := 3) (by kernel_rfl)
  have f4 := h.field (i := 4) (ft := 23) (off := 4) (by kernel_rfl)
  have f5 := h.field (i := 5) (ft := 24) (off := 5) (by kernel_rfl)
  rw [cz3] at f0 f1 f2
  rw [cz22] at f3
  rw [cz23] at f4
  rw [cz24] at f5
  obtain ⟨k0, e0, _⟩ := f0.int v3
  obtain ⟨k1, e1, _⟩ := f1.int v3
  obtain ⟨k2, e2, _⟩ := f2.int v3
  obtain ⟨sf, lf, e3, hf, _⟩ := Rdb.list vs22 cz4 (by omega) (fun r hr => open_boolv hr) (show Rdb Pz W 22 [x3] from f3)
  obtain ⟨sm, lm, e4, hm, _⟩ := Rdb.list vs23 cz81 (by omega) (fun r hr => open_move hr) (show Rdb Pz W 23 [x4] from f4)
  obtain ⟨sl, ll, e5, hl, _⟩ := Rdb.list vs24 cz44 (by omega) (fun r hr => open_limit hr) (show Rdb Pz W 24 [x5] from f5)
  simp only [List.drop_zero, List.take_succ_cons, Yyk, List.drop_succ_cons, List.cons.injEq, and_true] at e0 e1 e2
  subst e0 e1 e2 e3 e4 e5
  exact ⟨⟨k0, k1, k2, lf, lm, ll⟩, sf, sm, sl, rfl, ⟨hf, hm, hl⟩⟩
end Go.VC
end
