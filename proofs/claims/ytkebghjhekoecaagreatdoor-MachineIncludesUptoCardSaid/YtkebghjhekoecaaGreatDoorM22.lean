/- RjQ RjArgs. -/
import Derived.Test.YtkebghjhekoecaaGreatDoorM21
import Derived.Test.YtkebghjhekoecaaGreatDoorM01
import Derived.Test.YtkebghjhekoecaaGreatDoorM05
import Derived.Test.YtkebghjhekoecaaGreatDoorM16
import Derived.Test.YtkebghjhekoecaaGreatDoorM20
import Derived.Test.YtkebghjhekoecaaGreatDoorRows
set_option linter.unusedVariables false
set_option linter.unusedSimpArgs false
set_option maxRecDepth 100000

section
/- Contracts: the reference's search of inclusion; equality of lists of events; the walk of the law of inclusion. (Numbers of layer 26's seat.) -/
namespace Go.VC
open Go.Proofs Go.LexS
theorem app104 : appB Pz 104 103 3 40 = true := by kernel_rfl
namespace M
theorem St.perm {h0 h : Heap} {L L' : List It} (hs : St h0 h L) (hp : L.Perm L') : St h0 h L' :=
 ⟨hs.ext, fun i hi => hs.ok i (hp.mem_iff.2 hi), hp.pairwise hs.ap fun {i j} ha b hb e => ha b e hb⟩
theorem St.join {h0 h h' : Heap} {L : List It} {i : It} (hs : St h0 h L) (h2 : St h h' [i]) : St h0 h' (i :: L) := by
 obtain ⟨a, b⟩ := h2.ok i (Ye.2 rfl)
 exact hs.more h2.ext a b
theorem St.smb {h0 h h1 h' : Heap} {L L' : List It} (hs : St h0 h L) (hs' : St h1 h' L') (k k' : Nat) {b : Nat} {xs : List Value} {e : TypeId} (hk : L[k]? = some (.blk b xs e)) (hk' : L'[k']? = some (.blk b xs e)) : Sm [⟨b, 0, none⟩] h h' := by
 intro a ha i v hv
 rw [Ye.1 ha] at hv ⊢
 have e1 : h[b]? = some (.cells ⟨xs⟩ e) := hs.get hk
 have e2 : h'[b]? = some (.cells ⟨xs⟩ e) := hs'.get hk'
 have e3 : h'[b]? = h[b]? := by rw [e1, e2]
 rw [hc_of_block (h := h) (h' := h') (a := addk ⟨b, 0, none⟩ i) (by rw [addk_block']; exact e3)]
 exact hv
end M
structure Zr where
 v : Vs
 s : Sl
def Zr.cs (z : Zr) : List Value := [.int .i64 z.v.a, .int .i64 z.v.b, .slice z.s.a z.s.n z.s.c]
def Zr.it (r : Int) (z : Zr) : It := .sl z.s 37 5 ((z.v.h.map (hvE r)).map Hv.cs)
theorem zrows (L : List Zr) : ∀ r ∈ L.map Zr.cs, r.length = 3 := fun r hr => by obtain ⟨x, _, rfl⟩ := Yp.1 hr; rfl
def ZL (Z : List Zr) : Prop := ∀ (j : Nat) z, Z[j]? = some z -> z.v.h.length <= j
theorem ZL.push {Z : List Zr} (h : ZL Z) {z1 : Zr} (hz : z1.v.h.length <= Z.length) : ZL (Z ++ [z1]) := fun j z hj => by
 by_cases c : j < Z.length
 ·
  rw [Yyi c] at hj; exact h j z hj
 ·
  have hl := (Ya.1 hj).1
  rw [Yh, Yv] at hl
  have e : j = Z.length := by omega
  subst e
  rw [Yyc (Nat.le_refl _), Nat.sub_self] at hj
  cases hj; exact hz
set_option maxHeartbeats 12800000 in
theorem refIncluded31 (m k : Mch) (sf sm sl tf tm tl : Sl) (h : Heap) (hM : MI h m sf sm sl) (hK : MI h k tf tm tl) :
  Fn Pz 31 #[.agg ⟨mC m sf sm sl⟩, .agg ⟨mC k tf tm tl⟩] h (IncV m k h) := by
 apply vc31 m.role m.n m.s sf sm sl k.role k.n k.s tf tm tl; unfold W31
 have hmn := hM.pm.ln
 have hmm := hM.pm.sm
 have empty : ∀ {h' : Heap} {e : Int} {ok : Bool}, Ext h h' -> IncO m k [] ok e -> IncV m k h (.tuple ⟨[.slice none 0 0, .bool ok, .int .i64 e]⟩) h' := fun E hI => ⟨E, ⟨none, 0, 0⟩, [], _, _, rfl, Rw.nil, Nat.zero_le _, hI⟩
 refine (St.refl h).newb fun h13 hs => ?_
 refine hs.newb fun h14 hs => ?_
 refine ⟨_, _, _, sf, sm, sl, hs.at 1 rfl (o := 0) (n := 6) rfl, ?_⟩
 refine (refValid24 m sf sm sl h14 (hM.ext hs.ext)).mono ?_
 rintro _ h23 ⟨⟨b1, rfl, hb1⟩, E⟩
 have hs := hs.step E
 refine ⟨_, rfl, sB_intro (fun c => ?_) (fun c1 => ?_)⟩
 ·
  have hn := iff_f hb1 (bF c)
  exact empty hs.ext ⟨fun _ => ⟨rfl, rfl, rfl⟩, fun hv => absurd hv.1 hn, fun hv => absurd hv.1 hn⟩
 refine ⟨_, _, _, tf, tm, tl, hs.at 0 rfl (o := 0) (n := 6) rfl, ?_⟩
 refine (refValid24 k tf tm tl h23 (hK.ext hs.ext)).mono ?_
 rintro _ h32 ⟨⟨b2, rfl, hb2⟩, E⟩
 have hs := hs.step E
 refine ⟨_, rfl, sB_intro (fun c => ?_) (fun c2 => ?_)⟩
 ·
  have hn := iff_f hb2 (bF c)
  exact empty hs.ext ⟨fun _ => ⟨rfl, rfl, rfl⟩, fun hv => absurd hv.2 hn, fun hv => absurd hv.2 hn⟩
 have hVm := hb1.1 (bT c1)
 have hVk := hb2.1 (bT c2)
 refine ⟨_, hs.rd 1 rfl rfl, _, hs.rd 0 rfl rfl, sBn (fun c => empty hs.ext ⟨fun hv => absurd ⟨hVm, hVk⟩ hv, fun _ _ => ⟨rfl, rfl, rfl⟩, fun _ hv => absurd hv c⟩) (fun hrole => ?_)⟩
 refine ⟨_, hs.rd 1 rfl rfl, _, hs.rd 0 rfl rfl, ?_⟩
 have hcA := hs.at 1 rfl (o := 0) (n := 6) (vs := mC m sf sm sl) rfl
 have hcB := hs.at 0 rfl (o := 0) (n := 6) (vs := mC k tf tm tl) rfl
 have E0 : Ext h h32 := hs.ext
 have hM := hM.ext E0
 have hK := hK.ext E0
 have hmN := hVm.n.n
 have hkN := hVk.n.n
 clear hs empty
 have hs := (St.refl h32).nil_ 37 5
 refine hs.newb fun h37 hs => ?_
 have hs := hs.blkS 1 3 ([(⟨⟨m.s, k.s, []⟩, ⟨none, 0, 0⟩⟩ : Zr)].map Zr.cs) rfl (zrows _) rfl (by decide)
 refine ⟨fun l x h' μ => ∃ (i : Nat) (Z : List Zr), x = i /\ i <= Z.length /\ μ = 40001 - i /\ QPr m k (Z.map Zr.v) /\ ZL Z /\ (∀ r, Inc m k (mvS m) (Z.map Zr.v) i r -> Inc m k (mvS m) [⟨m.s, k.s, []⟩] 0 r) /\ St h32 h' (.sl l 103 3 (Z.map Zr.cs) :: Z.map (Zr.it m.role)),
  ⟨_, 0, [⟨⟨m.s, k.s, []⟩, ⟨none, 0, 0⟩⟩], rfl, by simp, rfl, QPr.start hVm hVk, fun j z hj => by
   have hl := (Ya.1 hj).1
   have e : j = 0 := by simpa using hl
   subst e; cases hj; exact Nat.le_refl _, fun r hr => hr, hs⟩, ?_⟩
 clear hs
 rintro - l _ h43 μ ⟨i, Z, rfl, hi, rfl, hQ, hZ, hInc, hs⟩
 have hln := (hs.rows 0 (cs := Zr.cs) rfl (by omega)).ln
 have hQl := hQ.len hmN.2 hkN.2
 rw [Yc] at hQl
 refine sBi (fun c => ?_) (fun c => ?_)
 ·
  obtain ⟨z, hz⟩ := get_some (l := Z) (i := i) (by omega)
  have hzv : (Z.map Zr.v)[i]? = some z.v := by rw [Yd, hz]; rfl
  have hvr := hQ.r z.v (Yb hzv)
  have hzl := hZ i z hz
  refine ⟨_, _, _, sf, sm, sl, atC_ext hs.ext hcA, ?_⟩
  refine (hs.rows 0 (cs := Zr.cs) rfl (by omega)).nbI (by omega) (by omega) fun b50 o51 z' gz t => ?_
  replace gz : Z[i]? = some z' := gz
  rw [hz] at gz; cases gz
  refine ⟨_, t.hd, ?_⟩
  refine (refOut62S m sf sm sl z.v.a h43 (hM.ext hs.ext)).mono ?_
  rintro _ h55 ⟨x54, O, rfl, hs2, hP, hSo⟩
  have hs := M.St.join hs hs2
  have hSv : mvS m z.v.a = O := mvS_eq hVm.d hP hSo
  have hOl : O.length <= 1048576 := by
   rw [hP.length_eq]
   unfold outIx
   exact Nat.le_trans (List.length_filter_le _ _) (by rw [Yyd]; exact hmm)
  have hSm : ∀ j ∈ O, ∃ x, m.mv[j]? = some x /\ x.f = z.v.a := fun j hj => outIx_mem.1 (hP.mem_iff.1 hj)
  have hxn : x54.n = O.length := by have := (hs.rows 0 (cs := inC) rfl (by omega)).ln; rwa [show (natI O).length = O.length from Yc _] at this
  refine ⟨_, rfl, ?_⟩
  refine ⟨fun l x h' μ => ∃ (j : Nat) (Z' : List Zr), x = j /\ j <= O.length /\ μ = O.length - j /\ QPr m k (Z'.map Zr.v) /\ ZL Z' /\ Z'[i]? = some z /\ incL m k z.v (Z.map Zr.v) (mvS m z.v.a) = incL m k z.v (Z'.map Zr.v) (O.drop j) /\ St h32 h' (.sl x54 3 1 ((natI O).map inC) :: .sl l 103 3 (Z'.map Zr.cs) :: Z'.map (Zr.it m.role)),
   ⟨_, 0, Z, rfl, Nat.zero_le _, rfl, hQ, hZ, hz, by rw [hSv]; rfl, hs⟩, ?_⟩
  clear hs hs2 hln
  rintro - l _ h61 μ ⟨j, Z', rfl, hj, rfl, hQ', hZ', hz', hinc, hs⟩
  have hln := (hs.rows 1 (s := l) (cs := Zr.cs) (l := Z') rfl (by omega)).ln
  have hQl' := hQ'.len hmN.2 hkN.2
  rw [Yc] at hQl'
  have hil' := (Ya.1 hz').1
  have hzi : ∀ Z' : List Zr, Z'[i]? = some z -> (Z'.map (Zr.it m.role))[i]? = some (.sl z.s 37 5 ((z.v.h.map (hvE m.role)).map Hv.cs)) := fun Z' hz => by rw [Yd, hz]; rfl
  have hzn : z.s.n = z.v.h.length := by
   have := (hs.len (2 + i) (by rw [Nat.add_comm]; exact hzi Z' hz') (by omega)).1
   rwa [Yc, Yc] at this
  refine sBi (fun c3 => ?_) (fun c3 => ?_)
  ·
   obtain ⟨jn, hjn⟩ := get_some (l := O) (i := j) (by omega)
   obtain ⟨x, hx, hxf⟩ := hSm jn (Yb hjn)
   have hxl := (Ya.1 hx).1
   have hxr := hVm.n.mv x (Yb hx)
   have hnx : nxH k z.v.b (hvE m.role x.ev) = nxE k z.v.b x.ev := by unfold nxH; rw [if_pos (show (hvE m.role x.ev).role = k.role from hrole)]; rfl
   rw [drop_get hjn, incL, hx] at hinc
   have hinc : incL m k z.v (Z.map Zr.v) (mvS m z.v.a) = match incS k z.v (Z'.map Zr.v) x with | .inl h => .inl h | .inr Q2 => incL m k z.v Q2 (O.drop (j + 1)) := hinc
   refine ⟨sm, (atC_ext hs.ext hcA).nth 4 rfl, ?_⟩
   refine (hs.rows 0 (s := x54) (cs := inC) (l := natI O) rfl (by omega)).nbI (by omega) (by omega) fun b63 o64 d gd t63 => ?_
   replace gd : (natI O)[j]? = some d := gd
   obtain ⟨jn', hjn', rfl⟩ := natI_get gd
   rw [hjn] at hjn'; cases hjn'
   refine ⟨_, t63.hd, ?_⟩
   refine (hM.pm.rw.ext hs.ext).nbI (by omega) (by omega) fun b66 o67 x' gx t66 => ?_
   replace gx : m.mv[jn]? = some x' := gx
   rw [hx] at gx; cases gx
   refine ⟨_, _, _, _, _, _, t66, ?_⟩
   refine hs.newbE fun h74 E74 hs => ⟨E74.sm, ?_⟩
   refine hs.put 0 rfl (o := 0) (vs := x.cs) rfl (show 6 <= 6 by decide) fun h75 hs => ?_
   refine ⟨_, (atC_ext hs.ext hcA).nth 0 rfl, _, hs.rd 0 rfl (i := 1) rfl, _, hs.rd 0 rfl (i := 2) rfl, _, hs.rd 0 rfl (i := 3) rfl, ?_⟩
   refine hs.newput (vs := (hvE m.role x.ev).cs) rfl rfl fun h81 hs => ?_
   refine (hs.rows 3 (s := l) (cs := Zr.cs) (l := Z') rfl (by omega)).nbI (by omega) (by omega) fun b82 o83 z' gz t82 => ?_
   replace gz : Z'[i]? = some z' := gz
   rw [hz'] at gz; cases gz
   refine ⟨_, t82.nth 2 rfl, ?_⟩
   refine ⟨_, _, _, _, _, hs.at 0 rfl (o := 0) (n := 5) rfl, ?_, ?_⟩
   ·
    refine hs.newbE fun h90 E90 hs => ⟨E90.sm, ?_⟩
    have hs := hs.blkS 0 5 [] rfl (by simp) rfl (by decide)
    refine ⟨?_, ?_⟩
    ·
     refine hs.appRw 0 (rows := []) (news := (z.v.h.map (hvE m.role)).map Hv.cs) rfl app27 (y := z.s) (hs.rw (i + 5) (hzi Z' hz') (by omega)) (hvrows _) (hs.len (i + 5) (hzi Z' hz') (by omega)).2.2 (flat_oneB (fun _ => rfl) _) (by show (0 + z.s.n) * 56 <= _; omega) (by show 0 + z.s.n <= _; simp only [maxLen]; omega) fun sA hA nA hsA => ?_
     refine ⟨M.St.smb hs hsA 1 1 rfl rfl, ?_⟩
     replace nA : sA.n = z.v.h.length := by rw [nA, hzn]; exact Nat.zero_add _
     refine hsA.newbE fun h93 E93 hs => ⟨E93.sm, ?_⟩
     refine hs.appended 1 rfl app27 (m := 1) (news := [(hvE m.role x.ev).cs]) (hs.at 0 rfl (n := 5) rfl) rfl (by simp [Hv.cs]) rfl (by omega) (by simp only [maxLen]; omega) fun r h95 n95 hs => ?_
     have hs : St h32 h95 (.sl r 37 5 (((z.v.h ++ [x.ev]).map (hvE m.role)).map Hv.cs) :: .blk h75.size (hvE m.role x.ev).cs 37 :: .blk h61.size x.cs 81 :: .sl x54 3 1 ((natI O).map inC) :: .sl l 103 3 (Z'.map Zr.cs) :: Z'.map (Zr.it m.role)) := by
      rw [Ym, Ym]; exact hs.sub (.cons _ (List.Sublist.refl _))
     have hln := (hs.rows 4 (s := l) (cs := Zr.cs) (l := Z') rfl (by omega)).ln
     refine ⟨_, _, _, tf, tm, tl, atC_ext hs.ext hcB, ?_⟩
     refine (hs.rows 4 (s := l) (cs := Zr.cs) (l := Z') rfl (by omega)).nbI (by omega) (by omega) fun b102 o103 z' gz t => ?_
     replace gz : Z'[i]? = some z' := gz
     rw [hz'] at gz; cases gz
     refine ⟨_, t.nth 1 rfl, ?_⟩
     refine ⟨_, _, _, _, _, hs.at 1 rfl (o := 0) (n := 5) rfl, ?_⟩
     refine (refNext54 k tf tm tl z.v.b (hvE m.role x.ev) _ (hK.ext hs.ext)).mono ?_
     rintro _ h112 ⟨rfl, E112⟩
     have hs := hs.step E112
     rw [hnx]
     refine ⟨_, rfl, sBi (fun c4 => ?_) (fun c4 => ?_)⟩
     ·
      have hinc2 : incL m k z.v (Z.map Zr.v) (mvS m z.v.a) = .inl (z.v.h ++ [x.ev]) := by
       have e1 : incS k z.v (Z'.map Zr.v) x = .inl (z.v.h ++ [x.ev]) := by unfold incS; rw [if_pos c4]
       rw [hinc, e1]
      refine ⟨E0.trans hs.ext, r, z.v.h ++ [x.ev], false, 0, rfl, hs.rows 0 rfl (by omega), ?_, fun hv => absurd ⟨hVm, hVk⟩ hv, fun _ hv => absurd hrole hv, fun _ _ => ⟨rfl, hInc _ (.stop hzv hinc2)⟩⟩
      rw [Yh, Yv]; omega
     ·
      refine ⟨fun kn j2 h' μ => ∃ q : Nat, j2 = q /\ q <= Z'.length /\ μ = Z'.length - q /\ h' = h112 /\ (kn = true ↔ ∃ (t : Nat) (w : Zr), t < q /\ Z'[t]? = some w /\ w.v.p = (x.t, nxE k z.v.b x.ev)), ⟨_, 0, rfl, Nat.zero_le _, rfl, rfl, ⟨(fun e => by cases e), fun ⟨t, _, ht, _⟩ => by omega⟩⟩, ?_⟩
      rintro - kn _ h112 μ ⟨q, rfl, hq, rfl, rfl, hkn⟩
      have nxt : ∀ {b : Bool} {w : Zr}, q < Z'.length -> Z'[q]? = some w -> (b = true ↔ kn = true \/ w.v.p = (x.t, nxE k z.v.b x.ev)) -> ∃ m', m' < Z'.length - q /\ (∃ q2 : Nat, (IntKind.wrap .i64 ((q : Int) + 1)) = q2 /\ q2 <= Z'.length /\ m' = Z'.length - q2 /\ h112 = h112 /\ (b = true ↔ ∃ (t : Nat) (w : Zr), t < q2 /\ Z'[t]? = some w /\ w.v.p = (x.t, nxE k z.v.b x.ev))) := fun {b w} hql hw hb =>
       ⟨Z'.length - (q + 1), by omega, q + 1, by rw [w64 (by omega) (by omega)]; omega, by omega, rfl, rfl, by
        rw [hb, hkn]
        constructor
        ·
         rintro (⟨t, w', h1, h2, h3⟩ | h3)
         ·
          exact ⟨t, w', by omega, h2, h3⟩
         ·
          exact ⟨q, w, by omega, hw, h3⟩
        ·
         rintro ⟨t, w', h1, h2, h3⟩
         by_cases e : t = q
         ·
          subst e; rw [hw] at h2; cases h2; exact .inr h3
         ·
          exact .inl ⟨t, w', by omega, h2, h3⟩⟩
      refine sBi (fun c5 => ?_) (fun c5 => ?_)
      ·
       obtain ⟨w, hw⟩ := get_some (l := Z') (i := q) (by omega)
       refine sB_intro (fun c6 => ?_) (fun c6 => ?_)
       ·
        exact nxt (by omega) hw (by rw [c6]; simp)
       ·
        refine (hs.rows 4 (s := l) (cs := Zr.cs) (l := Z') rfl (by omega)).nbI (by omega) (by omega) fun b120 o121 w' gw t2 => ?_
        replace gw : Z'[q]? = some w' := gw
        rw [hw] at gw; cases gw
        refine ⟨_, t2.hd, _, hs.rd 2 rfl (i := 4) rfl, sBe (fun c7 => ?_) (fun c7 => ?_)⟩
        ·
         refine (hs.rows 4 (s := l) (cs := Zr.cs) (l := Z') rfl (by omega)).nbI (by omega) (by omega) fun b124 o125 w' gw t3 => ?_
         replace gw : Z'[q]? = some w' := gw
         rw [hw] at gw; cases gw
         refine ⟨_, t3.nth 1 rfl, ?_⟩
         refine nxt (by omega) hw ?_
         rw [c6, beq_iff_eq]
         constructor
         ·
          intro e; exact .inr (by unfold Vs.p; rw [c7, e])
         ·
          rintro (e | e)
          ·
           cases e
          ·
           exact congrArg Prod.snd e
        ·
         refine nxt (by omega) hw ?_
         rw [c6]
         constructor
         ·
          intro e; cases e
         ·
          rintro (e | e)
          ·
           cases e
          ·
           exact absurd (congrArg Prod.fst e) c7
      ·
       have hqe : q = Z'.length := by omega
       have hmem : kn = true ↔ (x.t, nxE k z.v.b x.ev) ∈ (Z'.map Zr.v).map Vs.p := by
        rw [hkn]
        constructor
        ·
         rintro ⟨t, w, _, h2, h3⟩
         rw [List.map_map]
         exact Yp.2 ⟨w, Yb h2, h3⟩
        ·
         intro hm
         rw [List.map_map] at hm
         obtain ⟨w, hw, h3⟩ := Yp.1 hm
         obtain ⟨t, ht⟩ := Yf.1 hw
         exact ⟨t, w, by have := (Ya.1 ht).1; omega, ht, h3⟩
       have hnn : ¬ nxE k z.v.b x.ev < 0 := c4
       refine sB_intro (fun c6 => ?_) (fun c6 => ?_)
       ·
        have hno : ¬ (x.t, nxE k z.v.b x.ev) ∈ (Z'.map Zr.v).map Vs.p := fun e => by rw [hmem.2 e] at c6; cases c6
        refine ⟨_, hs.rd 2 rfl (i := 4) rfl, ?_⟩
        refine hs.app 4 rfl app104 (m := 1) [Zr.cs ⟨⟨x.t, nxE k z.v.b x.ev, z.v.h ++ [x.ev]⟩, r⟩] rfl rfl (by simp [Zr.cs]) rfl (by omega) (by simp only [maxLen]; omega) fun s131 h132 n131 hs => ?_
        obtain ⟨y, hy, hye⟩ := nxE_range (m := k) (s := z.v.b) (e := x.ev) (by omega)
        have hyr := hVk.n.mv y hy
        have hkr : 0 <= nxE k z.v.b x.ev /\ nxE k z.v.b x.ev < k.n := by rw [hye]; exact ⟨hyr.2.2.1, hyr.2.2.2.1⟩
        refine ⟨O.length - (j + 1), by omega, j + 1, Z' ++ [⟨⟨x.t, nxE k z.v.b x.ev, z.v.h ++ [x.ev]⟩, r⟩], by rw [w64 (by omega) (by omega)]; omega, by omega, rfl, ?_, hZ'.push (by show (z.v.h ++ [x.ev]).length <= _; rw [Yh, Yv]; omega), by rw [Yyi (by omega)]; exact hz', ?_, ?_⟩
        ·
         rw [Ym]
         exact hQ'.push (w := ⟨x.t, nxE k z.v.b x.ev, z.v.h ++ [x.ev]⟩) ⟨⟨hxr.2.2.1, hxr.2.2.2.1⟩, hkr⟩ hno
        ·
         have e1 : incS k z.v (Z'.map Zr.v) x = .inr (Z'.map Zr.v ++ [⟨x.t, nxE k z.v.b x.ev, z.v.h ++ [x.ev]⟩]) := by unfold incS; rw [if_neg hnn, if_neg hno]
         rw [hinc, e1, Ym]; rfl
        ·
         have h2 : St h32 h132 (.sl x54 3 1 ((natI O).map inC) :: .sl s131 103 3 (Z'.map Zr.cs ++ [Zr.cs ⟨⟨x.t, nxE k z.v.b x.ev, z.v.h ++ [x.ev]⟩, r⟩]) :: (Z'.map (Zr.it m.role) ++ [.sl r 37 5 (((z.v.h ++ [x.ev]).map (hvE m.role)).map Hv.cs)])) :=
          M.St.perm (hs.sub (.cons_cons _ (.cons _ (.cons _ (List.Sublist.refl _))))) (List.perm_append_singleton _ (.sl x54 3 1 ((natI O).map inC) :: .sl s131 103 3 (Z'.map Zr.cs ++ [Zr.cs ⟨⟨x.t, nxE k z.v.b x.ev, z.v.h ++ [x.ev]⟩, r⟩]) :: Z'.map (Zr.it m.role))).symm
         rw [Ym, Ym]; exact h2
       ·
        have hyes : (x.t, nxE k z.v.b x.ev) ∈ (Z'.map Zr.v).map Vs.p := hmem.1 (by simpa using c6)
        refine ⟨O.length - (j + 1), by omega, j + 1, Z', by rw [w64 (by omega) (by omega)]; omega, by omega, rfl, hQ', hZ', hz', ?_, hs.drop 3⟩
        have e1 : incS k z.v (Z'.map Zr.v) x = .inr (Z'.map Zr.v) := by unfold incS; rw [if_neg hnn, if_pos hyes]
        rw [hinc, e1]
    ·
     refine hs.newbE fun h135 E135 hs => ⟨E135.sm, ?_⟩
     refine hs.appRw 1 (rows := []) (news := (z.v.h.map (hvE m.role)).map Hv.cs) rfl app27 (y := z.s) (hs.rw (i + 6) (hzi Z' hz') (by omega)) (hvrows _) (hs.len (i + 6) (hzi Z' hz') (by omega)).2.2 (flat_oneB (fun _ => rfl) _) (by show (0 + z.s.n) * 56 <= _; omega) (by show 0 + z.s.n <= _; simp only [maxLen]; omega) fun sA hA nA hsA => ?_
     refine ⟨M.St.smb hs hsA 2 2 rfl rfl, ?_⟩
     replace nA : sA.n = z.v.h.length := by rw [nA, hzn]; exact Nat.zero_add _
     have hs := hsA
     refine hs.appended 1 rfl app27 (m := 1) (news := [(hvE m.role x.ev).cs]) (hs.at 0 rfl (n := 5) rfl) rfl (by simp [Hv.cs]) rfl (by omega) (by simp only [maxLen]; omega) fun r h139 n95 hs => ?_
     have hs : St h32 h139 (.sl r 37 5 (((z.v.h ++ [x.ev]).map (hvE m.role)).map Hv.cs) :: .blk h75.size (hvE m.role x.ev).cs 37 :: .blk h61.size x.cs 81 :: .sl x54 3 1 ((natI O).map inC) :: .sl l 103 3 (Z'.map Zr.cs) :: Z'.map (Zr.it m.role)) := by
      rw [Ym, Ym]; exact hs.sub (.cons _ (List.Sublist.refl _))
     have hln := (hs.rows 4 (s := l) (cs := Zr.cs) (l := Z') rfl (by omega)).ln
     refine ⟨_, _, _, tf, tm, tl, atC_ext hs.ext hcB, ?_⟩
     refine (hs.rows 4 (s := l) (cs := Zr.cs) (l := Z') rfl (by omega)).nbI (by omega) (by omega) fun b102 o103 z' gz t => ?_
     replace gz : Z'[i]? = some z' := gz
     rw [hz'] at gz; cases gz
     refine ⟨_, t.nth 1 rfl, ?_⟩
     refine ⟨_, _, _, _, _, hs.at 1 rfl (o := 0) (n := 5) rfl, ?_⟩
     refine (refNext54 k tf tm tl z.v.b (hvE m.role x.ev) _ (hK.ext hs.ext)).mono ?_
     rintro _ h112 ⟨rfl, E112⟩
     have hs := hs.step E112
     rw [hnx]
     refine ⟨_, rfl, sBi (fun c4 => ?_) (fun c4 => ?_)⟩
     ·
      have hinc2 : incL m k z.v (Z.map Zr.v) (mvS m z.v.a) = .inl (z.v.h ++ [x.ev]) := by
       have e1 : incS k z.v (Z'.map Zr.v) x = .inl (z.v.h ++ [x.ev]) := by unfold incS; rw [if_pos c4]
       rw [hinc, e1]
      refine ⟨E0.trans hs.ext, r, z.v.h ++ [x.ev], false, 0, rfl, hs.rows 0 rfl (by omega), ?_, fun hv => absurd ⟨hVm, hVk⟩ hv, fun _ hv => absurd hrole hv, fun _ _ => ⟨rfl, hInc _ (.stop hzv hinc2)⟩⟩
      rw [Yh, Yv]; omega
     ·
      refine ⟨fun kn j2 h' μ => ∃ q : Nat, j2 = q /\ q <= Z'.length /\ μ = Z'.length - q /\ h' = h112 /\ (kn = true ↔ ∃ (t : Nat) (w : Zr), t < q /\ Z'[t]? = some w /\ w.v.p = (x.t, nxE k z.v.b x.ev)), ⟨_, 0, rfl, Nat.zero_le _, rfl, rfl, ⟨(fun e => by cases e), fun ⟨t, _, ht, _⟩ => by omega⟩⟩, ?_⟩
      rintro - kn _ h112 μ ⟨q, rfl, hq, rfl, rfl, hkn⟩
      have nxt : ∀ {b : Bool} {w : Zr}, q < Z'.length -> Z'[q]? = some w -> (b = true ↔ kn = true \/ w.v.p = (x.t, nxE k z.v.b x.ev)) -> ∃ m', m' < Z'.length - q /\ (∃ q2 : Nat, (IntKind.wrap .i64 ((q : Int) + 1)) = q2 /\ q2 <= Z'.length /\ m' = Z'.length - q2 /\ h112 = h112 /\ (b = true ↔ ∃ (t : Nat) (w : Zr), t < q2 /\ Z'[t]? = some w /\ w.v.p = (x.t, nxE k z.v.b x.ev))) := fun {b w} hql hw hb =>
       ⟨Z'.length - (q + 1), by omega, q + 1, by rw [w64 (by omega) (by omega)]; omega, by omega, rfl, rfl, by
        rw [hb, hkn]
        constructor
        ·
         rintro (⟨t, w', h1, h2, h3⟩ | h3)
         ·
          exact ⟨t, w', by omega, h2, h3⟩
         ·
          exact ⟨q, w, by omega, hw, h3⟩
        ·
         rintro ⟨t, w', h1, h2, h3⟩
         by_cases e : t = q
         ·
          subst e; rw [hw] at h2; cases h2; exact .inr h3
         ·
          exact .inl ⟨t, w', by omega, h2, h3⟩⟩
      refine sBi (fun c5 => ?_) (fun c5 => ?_)
      ·
       obtain ⟨w, hw⟩ := get_some (l := Z') (i := q) (by omega)
       refine sB_intro (fun c6 => ?_) (fun c6 => ?_)
       ·
        exact nxt (by omega) hw (by rw [c6]; simp)
       ·
        refine (hs.rows 4 (s := l) (cs := Zr.cs) (l := Z') rfl (by omega)).nbI (by omega) (by omega) fun b120 o121 w' gw t2 => ?_
        replace gw : Z'[q]? = some w' := gw
        rw [hw] at gw; cases gw
        refine ⟨_, t2.hd, _, hs.rd 2 rfl (i := 4) rfl, sBe (fun c7 => ?_) (fun c7 => ?_)⟩
        ·
         refine (hs.rows 4 (s := l) (cs := Zr.cs) (l := Z') rfl (by omega)).nbI (by omega) (by omega) fun b124 o125 w' gw t3 => ?_
         replace gw : Z'[q]? = some w' := gw
         rw [hw] at gw; cases gw
         refine ⟨_, t3.nth 1 rfl, ?_⟩
         refine nxt (by omega) hw ?_
         rw [c6, beq_iff_eq]
         constructor
         ·
          intro e; exact .inr (by unfold Vs.p; rw [c7, e])
         ·
          rintro (e | e)
          ·
           cases e
          ·
           exact congrArg Prod.snd e
        ·
         refine nxt (by omega) hw ?_
         rw [c6]
         constructor
         ·
          intro e; cases e
         ·
          rintro (e | e)
          ·
           cases e
          ·
           exact absurd (congrArg Prod.fst e) c7
      ·
       have hqe : q = Z'.length := by omega
       have hmem : kn = true ↔ (x.t, nxE k z.v.b x.ev) ∈ (Z'.map Zr.v).map Vs.p := by
        rw [hkn]
        constructor
        ·
         rintro ⟨t, w, _, h2, h3⟩
         rw [List.map_map]
         exact Yp.2 ⟨w, Yb h2, h3⟩
        ·
         intro hm
         rw [List.map_map] at hm
         obtain ⟨w, hw, h3⟩ := Yp.1 hm
         obtain ⟨t, ht⟩ := Yf.1 hw
         exact ⟨t, w, by have := (Ya.1 ht).1; omega, ht, h3⟩
       have hnn : ¬ nxE k z.v.b x.ev < 0 := c4
       refine sB_intro (fun c6 => ?_) (fun c6 => ?_)
       ·
        have hno : ¬ (x.t, nxE k z.v.b x.ev) ∈ (Z'.map Zr.v).map Vs.p := fun e => by rw [hmem.2 e] at c6; cases c6
        refine ⟨_, hs.rd 2 rfl (i := 4) rfl, ?_⟩
        refine hs.app 4 rfl app104 (m := 1) [Zr.cs ⟨⟨x.t, nxE k z.v.b x.ev, z.v.h ++ [x.ev]⟩, r⟩] rfl rfl (by simp [Zr.cs]) rfl (by omega) (by simp only [maxLen]; omega) fun s131 h132 n131 hs => ?_
        obtain ⟨y, hy, hye⟩ := nxE_range (m := k) (s := z.v.b) (e := x.ev) (by omega)
        have hyr := hVk.n.mv y hy
        have hkr : 0 <= nxE k z.v.b x.ev /\ nxE k z.v.b x.ev < k.n := by rw [hye]; exact ⟨hyr.2.2.1, hyr.2.2.2.1⟩
        refine ⟨O.length - (j + 1), by omega, j + 1, Z' ++ [⟨⟨x.t, nxE k z.v.b x.ev, z.v.h ++ [x.ev]⟩, r⟩], by rw [w64 (by omega) (by omega)]; omega, by omega, rfl, ?_, hZ'.push (by show (z.v.h ++ [x.ev]).length <= _; rw [Yh, Yv]; omega), by rw [Yyi (by omega)]; exact hz', ?_, ?_⟩
        ·
         rw [Ym]
         exact hQ'.push (w := ⟨x.t, nxE k z.v.b x.ev, z.v.h ++ [x.ev]⟩) ⟨⟨hxr.2.2.1, hxr.2.2.2.1⟩, hkr⟩ hno
        ·
         have e1 : incS k z.v (Z'.map Zr.v) x = .inr (Z'.map Zr.v ++ [⟨x.t, nxE k z.v.b x.ev, z.v.h ++ [x.ev]⟩]) := by unfold incS; rw [if_neg hnn, if_neg hno]
         rw [hinc, e1, Ym]; rfl
        ·
         have h2 : St h32 h132 (.sl x54 3 1 ((natI O).map inC) :: .sl s131 103 3 (Z'.map Zr.cs ++ [Zr.cs ⟨⟨x.t, nxE k z.v.b x.ev, z.v.h ++ [x.ev]⟩, r⟩]) :: (Z'.map (Zr.it m.role) ++ [.sl r 37 5 (((z.v.h ++ [x.ev]).map (hvE m.role)).map Hv.cs)])) :=
          M.St.perm (hs.sub (.cons_cons _ (.cons _ (.cons _ (List.Sublist.refl _))))) (List.perm_append_singleton _ (.sl x54 3 1 ((natI O).map inC) :: .sl s131 103 3 (Z'.map Zr.cs ++ [Zr.cs ⟨⟨x.t, nxE k z.v.b x.ev, z.v.h ++ [x.ev]⟩, r⟩]) :: Z'.map (Zr.it m.role))).symm
         rw [Ym, Ym]; exact h2
       ·
        have hyes : (x.t, nxE k z.v.b x.ev) ∈ (Z'.map Zr.v).map Vs.p := hmem.1 (by simpa using c6)
        refine ⟨O.length - (j + 1), by omega, j + 1, Z', by rw [w64 (by omega) (by omega)]; omega, by omega, rfl, hQ', hZ', hz', ?_, hs.drop 3⟩
        have e1 : incS k z.v (Z'.map Zr.v) x = .inr (Z'.map Zr.v) := by unfold incS; rw [if_neg hnn, if_pos hyes]
        rw [hinc, e1]
   ·
    refine hs.newbE fun h179 E179 hs => ⟨E179.sm, ?_⟩
    refine hs.newbE fun h180 E180 hs => ⟨E180.sm, ?_⟩
    have hs := hs.blkS 0 5 [] rfl (by simp) rfl (by decide)
    refine hs.appRw 0 (rows := []) (news := (z.v.h.map (hvE m.role)).map Hv.cs) rfl app27 (y := z.s) (hs.rw (i + 6) (hzi Z' hz') (by omega)) (hvrows _) (hs.len (i + 6) (hzi Z' hz') (by omega)).2.2 (flat_oneB (fun _ => rfl) _) (by show (0 + z.s.n) * 56 <= _; omega) (by show 0 + z.s.n <= _; simp only [maxLen]; omega) fun sA hA nA hsA => ?_
    refine ⟨M.St.smb hs hsA 2 2 rfl rfl, ?_⟩
    replace nA : sA.n = z.v.h.length := by rw [nA, hzn]; exact Nat.zero_add _
    have hs := hsA
    refine hs.appended 0 rfl app27 (m := 1) (news := [(hvE m.role x.ev).cs]) (hs.at 1 rfl (n := 5) rfl) rfl (by simp [Hv.cs]) rfl (by omega) (by simp only [maxLen]; omega) fun r h184 n95 hs => ?_
    have hs : St h32 h184 (.sl r 37 5 (((z.v.h ++ [x.ev]).map (hvE m.role)).map Hv.cs) :: .blk h75.size (hvE m.role x.ev).cs 37 :: .blk h61.size x.cs 81 :: .sl x54 3 1 ((natI O).map inC) :: .sl l 103 3 (Z'.map Zr.cs) :: Z'.map (Zr.it m.role)) := by
     rw [Ym, Ym]; exact hs.sub (.cons_cons _ (.cons _ (List.Sublist.refl _)))
    have hln := (hs.rows 4 (s := l) (cs := Zr.cs) (l := Z') rfl (by omega)).ln
    refine ⟨_, _, _, tf, tm, tl, atC_ext hs.ext hcB, ?_⟩
    refine (hs.rows 4 (s := l) (cs := Zr.cs) (l := Z') rfl (by omega)).nbI (by omega) (by omega) fun b102 o103 z' gz t => ?_
    replace gz : Z'[i]? = some z' := gz
    rw [hz'] at gz; cases gz
    refine ⟨_, t.nth 1 rfl, ?_⟩
    refine ⟨_, _, _, _, _, hs.at 1 rfl (o := 0) (n := 5) rfl, ?_⟩
    refine (refNext54 k tf tm tl z.v.b (hvE m.role x.ev) _ (hK.ext hs.ext)).mono ?_
    rintro _ h112 ⟨rfl, E112⟩
    have hs := hs.step E112
    rw [hnx]
    refine ⟨_, rfl, sBi (fun c4 => ?_) (fun c4 => ?_)⟩
    ·
     have hinc2 : incL m k z.v (Z.map Zr.v) (mvS m z.v.a) = .inl (z.v.h ++ [x.ev]) := by
      have e1 : incS k z.v (Z'.map Zr.v) x = .inl (z.v.h ++ [x.ev]) := by unfold incS; rw [if_pos c4]
      rw [hinc, e1]
     refine ⟨E0.trans hs.ext, r, z.v.h ++ [x.ev], false, 0, rfl, hs.rows 0 rfl (by omega), ?_, fun hv => absurd ⟨hVm, hVk⟩ hv, fun _ hv => absurd hrole hv, fun _ _ => ⟨rfl, hInc _ (.stop hzv hinc2)⟩⟩
     rw [Yh, Yv]; omega
    ·
     refine ⟨fun kn j2 h' μ => ∃ q : Nat, j2 = q /\ q <= Z'.length /\ μ = Z'.length - q /\ h' = h112 /\ (kn = true ↔ ∃ (t : Nat) (w : Zr), t < q /\ Z'[t]? = some w /\ w.v.p = (x.t, nxE k z.v.b x.ev)), ⟨_, 0, rfl, Nat.zero_le _, rfl, rfl, ⟨(fun e => by cases e), fun ⟨t, _, ht, _⟩ => by omega⟩⟩, ?_⟩
     rintro - kn _ h112 μ ⟨q, rfl, hq, rfl, rfl, hkn⟩
     have nxt : ∀ {b : Bool} {w : Zr}, q < Z'.length -> Z'[q]? = some w -> (b = true ↔ kn = true \/ w.v.p = (x.t, nxE k z.v.b x.ev)) -> ∃ m', m' < Z'.length - q /\ (∃ q2 : Nat, (IntKind.wrap .i64 ((q : Int) + 1)) = q2 /\ q2 <= Z'.length /\ m' = Z'.length - q2 /\ h112 = h112 /\ (b = true ↔ ∃ (t : Nat) (w : Zr), t < q2 /\ Z'[t]? = some w /\ w.v.p = (x.t, nxE k z.v.b x.ev))) := fun {b w} hql hw hb =>
      ⟨Z'.length - (q + 1), by omega, q + 1, by rw [w64 (by omega) (by omega)]; omega, by omega, rfl, rfl, by
       rw [hb, hkn]
       constructor
       ·
        rintro (⟨t, w', h1, h2, h3⟩ | h3)
        ·
         exact ⟨t, w', by omega, h2, h3⟩
        ·
         exact ⟨q, w, by omega, hw, h3⟩
       ·
        rintro ⟨t, w', h1, h2, h3⟩
        by_cases e : t = q
        ·
         subst e; rw [hw] at h2; cases h2; exact .inr h3
        ·
         exact .inl ⟨t, w', by omega, h2, h3⟩⟩
     refine sBi (fun c5 => ?_) (fun c5 => ?_)
     ·
      obtain ⟨w, hw⟩ := get_some (l := Z') (i := q) (by omega)
      refine sB_intro (fun c6 => ?_) (fun c6 => ?_)
      ·
       exact nxt (by omega) hw (by rw [c6]; simp)
      ·
       refine (hs.rows 4 (s := l) (cs := Zr.cs) (l := Z') rfl (by omega)).nbI (by omega) (by omega) fun b120 o121 w' gw t2 => ?_
       replace gw : Z'[q]? = some w' := gw
       rw [hw] at gw; cases gw
       refine ⟨_, t2.hd, _, hs.rd 2 rfl (i := 4) rfl, sBe (fun c7 => ?_) (fun c7 => ?_)⟩
       ·
        refine (hs.rows 4 (s := l) (cs := Zr.cs) (l := Z') rfl (by omega)).nbI (by omega) (by omega) fun b124 o125 w' gw t3 => ?_
        replace gw : Z'[q]? = some w' := gw
        rw [hw] at gw; cases gw
        refine ⟨_, t3.nth 1 rfl, ?_⟩
        refine nxt (by omega) hw ?_
        rw [c6, beq_iff_eq]
        constructor
        ·
         intro e; exact .inr (by unfold Vs.p; rw [c7, e])
        ·
         rintro (e | e)
         ·
          cases e
         ·
          exact congrArg Prod.snd e
       ·
        refine nxt (by omega) hw ?_
        rw [c6]
        constructor
        ·
         intro e; cases e
        ·
         rintro (e | e)
         ·
          cases e
         ·
          exact absurd (congrArg Prod.fst e) c7
     ·
      have hqe : q = Z'.length := by omega
      have hmem : kn = true ↔ (x.t, nxE k z.v.b x.ev) ∈ (Z'.map Zr.v).map Vs.p := by
       rw [hkn]
       constructor
       ·
        rintro ⟨t, w, _, h2, h3⟩
        rw [List.map_map]
        exact Yp.2 ⟨w, Yb h2, h3⟩
       ·
        intro hm
        rw [List.map_map] at hm
        obtain ⟨w, hw, h3⟩ := Yp.1 hm
        obtain ⟨t, ht⟩ := Yf.1 hw
        exact ⟨t, w, by have := (Ya.1 ht).1; omega, ht, h3⟩
      have hnn : ¬ nxE k z.v.b x.ev < 0 := c4
      refine sB_intro (fun c6 => ?_) (fun c6 => ?_)
      ·
       have hno : ¬ (x.t, nxE k z.v.b x.ev) ∈ (Z'.map Zr.v).map Vs.p := fun e => by rw [hmem.2 e] at c6; cases c6
       refine ⟨_, hs.rd 2 rfl (i := 4) rfl, ?_⟩
       refine hs.app 4 rfl app104 (m := 1) [Zr.cs ⟨⟨x.t, nxE k z.v.b x.ev, z.v.h ++ [x.ev]⟩, r⟩] rfl rfl (by simp [Zr.cs]) rfl (by omega) (by simp only [maxLen]; omega) fun s131 h132 n131 hs => ?_
       obtain ⟨y, hy, hye⟩ := nxE_range (m := k) (s := z.v.b) (e := x.ev) (by omega)
       have hyr := hVk.n.mv y hy
       have hkr : 0 <= nxE k z.v.b x.ev /\ nxE k z.v.b x.ev < k.n := by rw [hye]; exact ⟨hyr.2.2.1, hyr.2.2.2.1⟩
       refine ⟨O.length - (j + 1), by omega, j + 1, Z' ++ [⟨⟨x.t, nxE k z.v.b x.ev, z.v.h ++ [x.ev]⟩, r⟩], by rw [w64 (by omega) (by omega)]; omega, by omega, rfl, ?_, hZ'.push (by show (z.v.h ++ [x.ev]).length <= _; rw [Yh, Yv]; omega), by rw [Yyi (by omega)]; exact hz', ?_, ?_⟩
       ·
        rw [Ym]
        exact hQ'.push (w := ⟨x.t, nxE k z.v.b x.ev, z.v.h ++ [x.ev]⟩) ⟨⟨hxr.2.2.1, hxr.2.2.2.1⟩, hkr⟩ hno
       ·
        have e1 : incS k z.v (Z'.map Zr.v) x = .inr (Z'.map Zr.v ++ [⟨x.t, nxE k z.v.b x.ev, z.v.h ++ [x.ev]⟩]) := by unfold incS; rw [if_neg hnn, if_neg hno]
        rw [hinc, e1, Ym]; rfl
       ·
        have h2 : St h32 h132 (.sl x54 3 1 ((natI O).map inC) :: .sl s131 103 3 (Z'.map Zr.cs ++ [Zr.cs ⟨⟨x.t, nxE k z.v.b x.ev, z.v.h ++ [x.ev]⟩, r⟩]) :: (Z'.map (Zr.it m.role) ++ [.sl r 37 5 (((z.v.h ++ [x.ev]).map (hvE m.role)).map Hv.cs)])) :=
         M.St.perm (hs.sub (.cons_cons _ (.cons _ (.cons _ (List.Sublist.refl _))))) (List.perm_append_singleton _ (.sl x54 3 1 ((natI O).map inC) :: .sl s131 103 3 (Z'.map Zr.cs ++ [Zr.cs ⟨⟨x.t, nxE k z.v.b x.ev, z.v.h ++ [x.ev]⟩, r⟩]) :: Z'.map (Zr.it m.role))).symm
        rw [Ym, Ym]; exact h2
      ·
       have hyes : (x.t, nxE k z.v.b x.ev) ∈ (Z'.map Zr.v).map Vs.p := hmem.1 (by simpa using c6)
       refine ⟨O.length - (j + 1), by omega, j + 1, Z', by rw [w64 (by omega) (by omega)]; omega, by omega, rfl, hQ', hZ', hz', ?_, hs.drop 3⟩
       have e1 : incS k z.v (Z'.map Zr.v) x = .inr (Z'.map Zr.v) := by unfold incS; rw [if_neg hnn, if_pos hyes]
       rw [hinc, e1]
  ·
   have hjS : j = O.length := by omega
   rw [hjS, List.drop_eq_nil_of_le (Nat.le_refl _), incL] at hinc
   exact ⟨40001 - (i + 1), by omega, i + 1, Z', by rw [w64 (by omega) (by omega)]; omega, by omega, rfl, hQ', hZ', fun r hr => hInc r (.next hzv hinc hr), hs.drop 1⟩
 ·
  exact ⟨E0.trans hs.ext, ⟨none, 0, 0⟩, [], true, 0, rfl, Rw.nil, Nat.zero_le _, fun hv => absurd ⟨hVm, hVk⟩ hv, fun _ hv => absurd hrole hv, fun _ _ => ⟨rfl, hInc _ (.done (by rw [Yc]; omega))⟩⟩
/-! ### equality of events -/
theorem sameEv65 (x : Hv) (h : Heap) : Fn Pz 65 #[.agg ⟨x.cs⟩, .agg ⟨x.cs⟩] h fun v h' => v = .bool true /\ Ext h h' := by
 apply vc65 x.role x.send x.peer x.label x.vs x.role x.send x.peer x.label x.vs; unfold W65
 refine (St.refl h).newb fun h11 hs => ?_
 refine hs.newb fun h12 hs => ?_
 refine ⟨_, hs.rd 1 rfl (i := 0) rfl, _, hs.rd 0 rfl (i := 0) rfl, sB_t (by simp) ?_⟩
 refine ⟨_, hs.rd 1 rfl (i := 1) rfl, _, hs.rd 0 rfl (i := 1) rfl, sB_t (by simp) ?_⟩
 refine ⟨_, hs.rd 1 rfl (i := 2) rfl, _, hs.rd 0 rfl (i := 2) rfl, sB_t (by simp) ?_⟩
 exact ⟨_, hs.rd 1 rfl (i := 3) rfl, _, hs.rd 0 rfl (i := 3) rfl, by simp, hs.ext⟩
theorem sameEvs32 (L : List Hv) (s s2 : Sl) (h : Heap) (hr : Rw h 5 s (L.map Hv.cs)) (hr2 : Rw h 5 s2 (L.map Hv.cs)) (hl : L.length <= 1048576) : Fn Pz 32 #[.slice s.a s.n s.c, .slice s2.a s2.n s2.c] h fun v h' => v = .bool true /\ Ext h h' := by
 apply vc32 s s2; unfold W32
 have hn := hr.ln
 have hn2 := hr2.ln
 refine sBn (fun c => absurd (by rw [hn, hn2]) c) (fun _ => ?_)
 refine up_loop (n := s.n) (fun i h' => Ext h h') .rfl' ?_
 rintro - i h5 hi E
 refine sB_intro (fun c1 => ?_) (fun c1 => ⟨rfl, E⟩)
 replace c1 := lt_t c1
 refine (hr.ext E).nbI (by omega) (by omega) fun b6 o7 x gx t => ?_
 replace gx : L[i]? = some x := gx
 refine ⟨_, _, _, _, _, t, ?_⟩
 refine (hr2.ext E).nbI (by omega) (by omega) fun b9 o10 y gy t2 => ?_
 replace gy : L[i]? = some y := gy
 rw [gx] at gy; cases gy
 refine ⟨_, _, _, _, _, t2, ?_⟩
 refine (sameEv65 x h5).mono ?_
 rintro _ h22 ⟨rfl, E2⟩
 exact ⟨_, rfl, sB_f rfl (Up.next c1 (by omega) (E.trans E2))⟩
theorem includes6 (m k : Mch) (sf sm sl tf tm tl : Sl) (h : Heap) (hM : MI h m sf sm sl) (hK : MI h k tf tm tl) (hx : Gx h) :
  Fn Pz 6 #[.agg ⟨mC m sf sm sl⟩, .agg ⟨mC k tf tm tl⟩] h fun v h' => v = .bool true /\ Ext h h' := by
 apply vc6 m.role m.n m.s sf sm sl k.role k.n k.s tf tm tl; unfold W6
 refine (St.refl h).newb fun h13 hs => ?_
 refine hs.newb fun h14 hs => ?_
 refine (awake12 h14 (hx.ext hs.ext)).mono ?_
 rintro _ h17 ⟨rfl, E⟩
 have hs := hs.step E
 refine ⟨_, rfl, sB_f rfl ?_⟩
 refine ⟨_, _, _, sf, sm, sl, hs.at 1 rfl (o := 0) (n := 6) rfl, ?_⟩
 refine (few13 m sf sm sl h17 (hM.ext hs.ext)).mono ?_
 rintro _ h26 ⟨⟨b1, rfl, hb1⟩, E⟩
 have hs := hs.step E
 refine ⟨_, rfl, sB_intro (fun _ => ⟨rfl, hs.ext⟩) (fun _ => ?_)⟩
 refine ⟨_, _, _, tf, tm, tl, hs.at 0 rfl (o := 0) (n := 6) rfl, ?_⟩
 refine (few13 k tf tm tl h26 (hK.ext hs.ext)).mono ?_
 rintro _ h35 ⟨⟨b2, rfl, hb2⟩, E⟩
 have hs := hs.step E
 refine ⟨_, rfl, sB_intro (fun _ => ⟨rfl, hs.ext⟩) (fun _ => ?_)⟩
 refine ⟨_, _, _, sf, sm, sl, hs.at 1 rfl (o := 0) (n := 6) rfl, _, _, _, tf, tm, tl, hs.at 0 rfl (o := 0) (n := 6) rfl, ?_⟩
 refine (included30 m k sf sm sl tf tm tl h35 (hM.ext hs.ext) (hK.ext hs.ext)).mono ?_
 rintro _ h52 ⟨E, r, H, ok, e, rfl, hr, hHl, hI⟩
 have hs := hs.step E
 refine ⟨_, _, _, rfl, ?_⟩
 refine ⟨_, _, _, sf, sm, sl, hs.at 1 rfl (o := 0) (n := 6) rfl, _, _, _, tf, tm, tl, hs.at 0 rfl (o := 0) (n := 6) rfl, ?_⟩
 refine (refIncluded31 m k sf sm sl tf tm tl h52 (hM.ext hs.ext) (hK.ext hs.ext)).mono ?_
 rintro _ h69 ⟨E2, r2, H2, ok2, e2, rfl, hr2, hHl2, hI2⟩
 have hs := hs.step E2
 refine ⟨_, _, _, rfl, ?_⟩
 obtain ⟨rfl, rfl, rfl⟩ : H = H2 /\ ok = ok2 /\ e = e2 := by
  by_cases hv : VM m /\ VM k
  ·
   by_cases hrole : m.role = k.role
   ·
    obtain ⟨a1, a2⟩ := hI.g hv hrole
    obtain ⟨a3, a4⟩ := hI2.g hv hrole
    have := a2.det a4
    exact ⟨congrArg Prod.fst this, congrArg Prod.snd this, by rw [a1, a3]⟩
   ·
    obtain ⟨a1, a2, a3⟩ := hI.r hv hrole
    obtain ⟨a4, a5, a6⟩ := hI2.r hv hrole
    exact ⟨by rw [a1, a4], by rw [a2, a5], by rw [a3, a6]⟩
  ·
   obtain ⟨a1, a2, a3⟩ := hI.a hv
   obtain ⟨a4, a5, a6⟩ := hI2.a hv
   exact ⟨by rw [a1, a4], by rw [a2, a5], by rw [a3, a6]⟩
 refine sB_t (by simp) (sB_t (by simp) ?_)
 refine (sameEvs32 (H.map (hvE m.role)) r r2 h69 (hr.ext E2) hr2 (by rw [Yc]; exact hHl)).mono ?_
 rintro _ h72 ⟨rfl, E3⟩
 exact ⟨_, rfl, rfl, (hs.step E3).ext⟩
end Go.VC
end

section
/- What a machine and a history look like in memory where all that is read is of bulk at most 1048576. -/
namespace Go.VC
open Go.Proofs Go.LexS Go.RowKit Go.ChangeShapes Go.WideShapes Go.Proofs.YtkebghjhekoecaaGreatDoor
theorem bulk_pos {H : Type} (d : DataW H) : 1 <= Rows.uptoBulk d := by
 cases d with
 | lit l => cases l <;> simp [Rows.uptoBulk]
 | _ => simp [Rows.uptoBulk]
theorem bulk_part {H : Type} : ∀ {l : List (DataW H)} {d : DataW H}, d ∈ l -> Rows.uptoBulk d <= Rows.uptoBulkAll l
 | [], _, h => by cases h
 | x :: r, d, h => by
  rw [Rows.uptoBulkAll]
  rcases Yr.1 h with rfl | h
  ·
   omega
  ·
   have := bulk_part h; omega
theorem bulk_len {H : Type} : ∀ l : List (DataW H), l.length <= Rows.uptoBulkAll l
 | [] => by simp
 | x :: r => by
  have h1 := bulk_pos x
  have h2 := bulk_len r
  rw [Rows.uptoBulkAll, Yyj]; omega
def Rdb (P : Program) (W : World) (t : TypeId) (cs : List Value) : Prop :=
 ∃ (H : Type) (enc : TypeId × Value -> H) (n : Nat) (x : DataW H × List MemPlace), DataW.trod enc P W 0 (fun _ => true) true n t cs = some x /\ Rows.uptoBulk x.1 <= 1048576
theorem Rdb.rdt {P : Program} {W : World} {t : TypeId} {cs : List Value} (h : Rdb P W t cs) : Rdt P W t cs := by
 obtain ⟨H, enc, n, x, h1, _⟩ := h; exact ⟨H, enc, n, x, h1⟩
theorem rdb_of_trod {H : Type} {enc : TypeId × Value -> H} {P : Program} {W : World} {t : TypeId} {v : Value} {d : DataW H} {p : List MemPlace} (h : DataW.Trod enc P W 0 (fun _ => true) true t v d p) (hw : Rows.uptoBulk d <= 1048576) : Rdb P W t v.cells.toList := by
 obtain ⟨n, h⟩ := h
 exact ⟨H, enc, n, _, h, hw⟩
theorem Rdb.field {P : Program} {W : World} {t ft : TypeId} {cs : List Value} {i off : Nat} (h : Rdb P W t cs) (hf : fieldAt P t i = some (ft, off)) : Rdb P W ft ((cs.drop off).take (P.cellsOf ft)) := by
 unfold fieldAt at hf
 split at hf
 ·
  rename_i fs hu
  obtain ⟨f, h1, h2⟩ := Yya.1 hf
  cases h2
  obtain ⟨H, enc, n, x, h, hw⟩ := h
  obtain ⟨xs, m, _, hx, hl, hxl, hfi⟩ := DataW.trod_struct hu h
  have hlt : i < xs.length := by rw [hxl]; exact (Yyg.1 h1).1
  refine ⟨H, enc, m, xs[i], by rw [hfi i f h1, Yi hlt], ?_⟩
  rw [hx, Rows.uptoBulk] at hw
  have := bulk_part (l := xs.map (·.1)) (d := xs[i].1) (Yp.2 ⟨xs[i], List.getElem_mem hlt, rfl⟩)
  omega
 ·
  cases hf
theorem Rdb.rows {P : Program} {W : World} {t e : TypeId} {cs : List Value} (ht : P.underlying t = some (.slice e)) (h : Rdb P W t cs) (hpos : 0 < P.cellsOf e) :
  ∃ (s : Sl) (rows : List (List Value)), cs = [.slice s.a s.n s.c] /\ s.n <= s.c /\ s.n <= 1048576 /\ (s.a = none -> s.n = 0 /\ s.c = 0) /\ Rw W.heap (P.cellsOf e) s rows /\ ∀ r ∈ rows, r.length = P.cellsOf e /\ Rdb P W e r := by
 obtain ⟨H, enc, n, x, h, hw⟩ := h
 rcases DataW.trod_slice ht h with ⟨rfl, _⟩ | ⟨a, len, cap, elems, rest, m, _, rfl, hx, _, hlc, hcm, hel, helem, _, _⟩
 ·
  exact ⟨⟨none, 0, 0⟩, [], rfl, Nat.le_refl _, Nat.zero_le _, fun _ => ⟨rfl, rfl⟩, Rw.nil, fun r hr => by cases hr⟩
 ·
  rw [hx, Rows.uptoBulk] at hw
  have hle : len <= 1048576 := by
   have := bulk_len (elems.map (·.1))
   rw [Yc] at this; omega
  have hwe : ∀ (i : Nat) (hi : i < elems.length), Rows.uptoBulk elems[i].1 <= 1048576 := fun i hi => by
   have := bulk_part (l := elems.map (·.1)) (d := elems[i].1) (Yp.2 ⟨elems[i], List.getElem_mem hi, rfl⟩)
   omega
  by_cases h0 : len = 0
  ·
   subst h0
   exact ⟨⟨some a, 0, cap⟩, [], rfl, hlc, hle, fun e => (by cases e), Rw.empty rfl, fun r hr => by cases hr⟩
  ·
   have hrow : ∀ i, i < len -> ∃ r, W.cells? 0 (a.add (i * P.cellsOf e)) (P.cellsOf e) = some r /\ Rdb P W e r := by
    intro i hi
    have h1 := helem i hi
    rw [Yi (by omega)] at h1
    obtain ⟨r, hr, hx2⟩ := Option.bind_eq_some_iff.1 h1
    exact ⟨r, hr, H, enc, m, _, hx2, hwe i (by omega)⟩
   let row : Nat -> List Value := fun i => (W.cells? 0 (a.add (i * P.cellsOf e)) (P.cellsOf e)).getD []
   have hrow' : ∀ i, i < len -> W.cells? 0 (a.add (i * P.cellsOf e)) (P.cellsOf e) = some (row i) /\ Rdb P W e (row i) := fun i hi => by
    obtain ⟨r, hr, hx⟩ := hrow i hi
    have : row i = r := by show (W.cells? 0 _ _).getD [] = r; rw [hr]; rfl
    rw [this]; exact ⟨hr, hx⟩
   have hget : ∀ i, i < len -> ((List.range len).map row)[i]? = some (row i) := fun i hi => by
    rw [Yd, Yyb hi]; rfl
   have hspot : a = ⟨a.block, a.off, none⟩ := by
    have hc := (cells_at (hrow' 0 (by omega)).1)
    have hl0 : 0 < (row 0).length := by rw [hc.1]; exact hpos
    have := hc.2 0 _ (Yi hl0)
    rw [Nat.zero_mul, show (a.add 0).add 0 = a from rfl] at this
    unfold World.cell? at this
    split at this
    ·
     split at this
     ·
      cases this
     ·
      rename_i hs
      cases a with
      | mk b o s =>
       cases s with
       | none => rfl
       | some s => exact absurd rfl hs
    ·
     cases this
   refine ⟨⟨some a, len, cap⟩, (List.range len).map row, rfl, hlc, hle, fun e => (by cases e), ⟨by simp, fun _ => ⟨a.block, a.off, by rw [<- hspot], fun i r hi j v hj => ?_⟩⟩, fun r hr => ?_⟩
   ·
    have hil : i < len := by have := (Ya.1 hi).1; simpa using this
    rw [hget i hil] at hi; cases hi
    have h4 := (cells_at (hrow' i hil).1).2 _ _ hj
    rw [hspot] at h4
    have e : ((⟨a.block, a.off, none⟩ : Addr).add (i * P.cellsOf e)).add j = addk ⟨a.block, a.off + i * P.cellsOf e, none⟩ j := by
     rw [addk_at, add_n, add_n]
    rw [e] at h4
    exact h4
   ·
    obtain ⟨i, hi, rfl⟩ := Yp.1 hr
    have := hrow' i (List.mem_range.1 hi)
    exact ⟨(cells_at this.1).1, this.2⟩
theorem Rdb.list {α : Type} {P : Program} {W : World} {t e : TypeId} {k : Nat} {v : Value} {cs : α -> List Value} {Q : α -> Prop} (ht : P.underlying t = some (.slice e)) (hk : P.cellsOf e = k) (hpos : 0 < k)
  (ho : ∀ r, Rdb P W e r -> ∃ x, r = cs x /\ Q x) (h : Rdb P W t [v]) : ∃ (s : Sl) (L : List α), v = .slice s.a s.n s.c /\ RL W.heap k s cs L /\ ∀ x ∈ L, Q x := by
 subst hk
 obtain ⟨s, rows, e1, hc, hm, hna, hrw, hr⟩ := h.rows ht hpos
 have key : ∀ rows : List (List Value), (∀ r ∈ rows, r.length = P.cellsOf e /\ Rdb P W e r) -> ∃ L : List α, rows = L.map cs /\ ∀ x ∈ L, Q x := by
  intro rows
  induction rows with
  | nil => intro _; exact ⟨[], rfl, fun x hx => by cases hx⟩
  | cons r rows ih =>
   intro h
   obtain ⟨x, hx, hq⟩ := ho r (h r (by simp)).2
   obtain ⟨L, hL, hQ⟩ := ih fun y hy => h y (Yn _ hy)
   exact ⟨x :: L, by rw [hx, hL]; rfl, fun y hy => by rcases Yr.1 hy with rfl | hy; exact hq; exact hQ y hy⟩
 obtain ⟨L, rfl, hQ⟩ := key rows hr
 have hn := hrw.ln
 exact ⟨s, L, by simpa using e1, ⟨hrw, hc, hna, by omega⟩, hQ⟩
theorem v3 : Pz.underlying 3 = some (.int .i64) := by kernel_rfl
theorem v4b : Pz.underlying 4 = some .bool := by kernel_rfl
theorem cz3 : Pz.cellsOf 3 = 1 := by kernel_rfl
theorem cz4 : Pz.cellsOf 4 = 1 := by kernel_rfl
theorem cz22 : Pz.cellsOf 22 = 1 := by kernel_rfl
theorem cz23 : Pz.cellsOf 23 = 1 := by kernel_rfl
theorem cz24 : Pz.cellsOf 24 = 1 := by kernel_rfl
theorem cz26 : Pz.cellsOf 26 = 6 := by kernel_rfl
theorem cz44 : Pz.cellsOf 44 = 3 := by kernel_rfl
theorem cz81 : Pz.cellsOf 81 = 6 := by kernel_rfl
theorem vs22 : Pz.underlying 22 = some (.slice 4) := by kernel_rfl
theorem vs23 : Pz.underlying 23 = some (.slice 81) := by kernel_rfl
theorem vs24 : Pz.underlying 24 = some (.slice 44) := by kernel_rfl
theorem open_three {W : World} {t : TypeId} {r : List Value} (hc : Pz.cellsOf t = 3) (h0 : fieldAt Pz t 0 = some (3, 0)) (h1 : fieldAt Pz t 1 = some (3, 1)) (h2 : fieldAt Pz t 2 = some (3, 2)) (h : Rdt Pz W t r) :
  ∃ a b c : Int, r = [.int .i64 a, .int .i64 b, .int .i64 c] := by
 have hl := h.flen h0
 rw [hc] at hl
 match r, hl with
 | [x0, x1, x2], _ =>
  have f0 := h.field h0
  have f1 := h.field h1
  have f2 := h.field h2
  rw [cz3] at f0 f1 f2
  obtain ⟨k0, e0, _⟩ := f0.int v3
  obtain ⟨k1, e1, _⟩ := f1.int v3
  obtain ⟨k2, e2, _⟩ := f2.int v3
  simp only [List.drop_zero, List.take_succ_cons, Yyk, List.drop_succ_cons, List.cons.injEq, and_true] at e0 e1 e2
  subst e0 e1 e2
  exact ⟨k0, k1, k2, rfl⟩
theorem open_boolv {W : World} {r : List Value} (h : Rdb Pz W 4 r) : ∃ x : Bool, r = bC x /\ True := by
 obtain ⟨k, e⟩ := h.rdt.bool v4b
 exact ⟨k, e, trivial⟩
theorem open_limit {W : World} {r : List Value} (h : Rdb Pz W 44 r) : ∃ x : To, r = x.cs /\ True := by
 obtain ⟨a, b, c, e⟩ := open_three cz44 (by kernel_rfl) (by kernel_rfl) (by kernel_rfl) h.rdt
 exact ⟨⟨a, b, c⟩, e, trivial⟩
theorem open_move {W : World} {r : List Value} (h : Rdb Pz W 81 r) : ∃ x : Mv, r = x.cs /\ True := by
 have hl := h.rdt.flen (i := 0) (ft := 3) (off := 0) (by kernel_rfl)
 rw [cz81] at hl
 match r, hl with
 | [x0, x1, x2, x3, x4, x5], _ =>
  have f0 := h.rdt.field (i := 0) (ft := 3) (off := 0) (by kernel_rfl)
  have f1 := h.rdt.field (i := 1) (ft := 4) (off := 1) (by kernel_rfl)
  have f2 := h.rdt.field (i := 2) (ft := 3) (off := 2) (by kernel_rfl)
  have f3 := h.rdt.field (i := 3) (ft := 3) (off := 3) (by kernel_rfl)
  have f4 := h.rdt.field (i := 4) (ft := 3) (off := 4) (by kernel_rfl)
  have f5 := h.rdt.field (i := 5) (ft := 4) (off := 5) (by kernel_rfl)
  rw [cz3] at f0 f2 f3 f4
  rw [cz4] at f1 f5
  obtain ⟨k0, e0, _⟩ := f0.int v3
  obtain ⟨k1, e1⟩ := f1.bool v4b
  obtain ⟨k2, e2, _⟩ := f2.int v3
  obtain ⟨k3, e3, _⟩ := f3.int v3
  obtain ⟨k4, e4, _⟩ := f4.int v3
  obtain ⟨k5, e5⟩ := f5.bool v4b
  simp only [List.drop_zero, List.take_succ_cons, Yyk, List.drop_succ_cons, List.cons.injEq, and_true] at e0 e1 e2 e3 e4 e5
  subst e0 e1 e2 e3 e4 e5
  exact ⟨⟨k0, k1, k2, k3, k4, k5⟩, rfl, trivial⟩
theorem open_machine {W : World} {r : List Value} (h : Rdb Pz W 26 r) : ∃ (m : Mch) (sf sm sl : Sl), r = mC m sf sm sl /\ MI W.heap m sf sm sl := by
 have hl := h.rdt.flen (i := 0) (ft := 3) (off := 0) (by kernel_rfl)
 rw [cz26] at hl
 match r, hl with
 | [x0, x1, x2, x3, x4, x5], _ =>
  have f0 := h.rdt.field (i := 0) (ft := 3) (off := 0) (by kernel_rfl)
  have f1 := h.rdt.field (i := 1) (ft := 3) (off := 1) (by kernel_rfl)
  have f2 := h.rdt.field (i := 2) (ft := 3) (off := 2) (by kernel_rfl)
  have f3 := h.field (i := 3) (ft := 22) (off := 3) (by kernel_rfl)
  have f4 := h.field (i := 4) (ft := 23) (off := 4) (by kernel_rfl)
  have f5 := h.field (i := 5) (ft := 24) (off := 5) (by kernel_rfl)
  rw [cz3] at f0 f1 f2
  rw [cz22] at f3
  rw [cz23] at f4
  rw [cz24] at f5
  obtain ⟨k0, e0, _⟩ := f0.int v3
  obtain ⟨k1, e1, _⟩ := f1.int v3
  obtain ⟨k2, e2, _⟩ := f2.int v3
  obtain ⟨sf, lf, e3, hf, _⟩ := Rdb.list vs22 cz4 (by omega) (fun r hr => open_boolv hr) (show Rdb Pz W 22 [x3] from f3)
  obtain ⟨sm, lm, e4, hm, _⟩ := Rdb.list vs23 cz81 (by omega) (fun r hr => open_move hr) (show Rdb Pz W 23 [x4] from f4)
  obtain ⟨sl, ll, e5, hl, _⟩ := Rdb.list vs24 cz44 (by omega) (fun r hr => open_limit hr) (show Rdb Pz W 24 [x5] from f5)
  simp only [List.drop_zero, List.take_succ_cons, Yyk, List.drop_succ_cons, List.cons.injEq, and_true] at e0 e1 e2
  subst e0 e1 e2 e3 e4 e5
  exact ⟨⟨k0, k1, k2, lf, lm, ll⟩, sf, sm, sl, rfl, ⟨hf, hm, hl⟩⟩
end Go.VC
end
