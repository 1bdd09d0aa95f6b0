/- Texts of this claim, joined: RjU, RjV, RjVcP, RjW, RjX, RjY. -/
import Derived.Test.YtkebghjhekoecaaGreatDoorM24
import Derived.Test.YtkebghjhekoecaaGreatDoorM01
import Derived.Test.YtkebghjhekoecaaGreatDoorM02
import Derived.Test.YtkebghjhekoecaaGreatDoorProg
import Derived.KernelRfl
import Derived.Test.YtkebghjhekoecaaGreatDoorM23
set_option linter.unusedVariables false
set_option linter.unusedSimpArgs false
set_option maxRecDepth 100000

section
/- Contract: merged. (Numbers of layer 26's seat.) -/
namespace Go.VC
open Go.Proofs Go.LexS Go.Maps
theorem minX_tm {m : Mch} (hV : WM m) (C : List Nat) (hd s : Nat) (st : List Nat × List Mv × List To) (x : Mv) :
  minX (srtM m) C hd (mget (limM (srtM m).li) (s : Int)) st x = (addQ st.1 (C.getD x.t.toNat 0), st.2.1 ++ [⟨hd, x.send, x.peer, x.label, (idxF (addQ st.1 (C.getD x.t.toNat 0)) (C.getD x.t.toNat 0) : Nat), x.ag⟩], st.2.2 ++ if 0 < tmK m s /\ x.ev = tmE m s then [⟨hd, tmK m s, (st.2.1.length : Nat)⟩] else []) := by
 rw [lim_srt hV.t]
 unfold tmK tmE
 cases hl : limT m (s : Int) with
 | none =>
  show (_, _, st.2.2 ++ []) = _
  have : ¬ (0 < (0 : Int) /\ x.ev = ev0) := by omega
  show _ = (_, _, st.2.2 ++ if 0 < (0 : Int) /\ x.ev = ev0 then _ else [])
  rw [if_neg this]
 | some t =>
  obtain ⟨hk, y, hy, _, _, _, _, _, h2⟩ := li_in hV (limT_mem hl).1
  have ev : evI m t.e.toNat = y.ev := evI_of hy
  show (_, _, st.2.2 ++ match (srtV m)[(srtE m t).e.toNat]? with | some y => if x.ev = y.ev then [_] else [] | none => []) = (_, _, st.2.2 ++ if 0 < t.k /\ x.ev = evI m t.e.toNat then [⟨hd, t.k, (st.2.1.length : Nat)⟩] else [])
  rw [h2, ev]
  by_cases e : x.ev = y.ev
  ·
   rw [if_pos ⟨by omega, e⟩]
   show (_, _, st.2.2 ++ if x.ev = y.ev then _ else _) = _
   rw [if_pos e]; rfl
  ·
   rw [if_neg fun h => e h.2]
   show (_, _, st.2.2 ++ if x.ev = y.ev then _ else _) = _
   rw [if_neg e]
def mgA (xb nmb sb ob : Nat) (m : Mch) (q ofn omv oli : Sl) (Q : List Nat) (NUM : List Int) (fin : List Bool) (mv : List Mv) (li : List To) (SM : List Nat) : List It :=
 [.blk xb [.int .i64 m.role, .int .i64 0, .int .i64 0, .slice ofn.a ofn.n ofn.c, .slice omv.a omv.n omv.c, .slice oli.a oli.n oli.c] 26, .sl q 3 1 ((natI Q).map inC), .sl ofn 4 1 (fin.map bC), .sl omv 81 6 (mv.map Mv.cs), .sl oli 44 3 (li.map To.cs), .blk nmb (NUM.map iv) 3, .blk sb (SM.map natV) 3, .blk ob m0 26]
set_option maxHeartbeats 8000000 in
theorem merged74 (m : Mch) (sf sm sl sc : Sl) (b : Nat) (S : Nat -> List Nat) (C : List Nat) (cnt : Nat) (h : Heap) (hM : MI h m sf sm sl) (hV : WM m) (hT : TbI h ⟨b, 0, none⟩ m sf sm sl S) (hR : Rw h 1 sc ((natI C).map inC)) (hCs : CsOk (srtM m) C cnt) :
  Fn Pz 74 #[.pointer (some ⟨b, 0, none⟩), .slice sc.a sc.n sc.c, .int .i64 (cnt : Nat)] h fun v h' => ∃ sf' sm' sl' : Sl, v = .agg ⟨mC (minN (srtM m) C 202 0 [C.getD m.s.toNat 0] [] [] []) sf' sm' sl'⟩ /\ St h h' (mL (minN (srtM m) C 202 0 [C.getD m.s.toNat 0] [] [] []) sf' sm' sl') := by
 apply vc74 ⟨b, 0, none⟩ sc (cnt : Nat); unfold W74
 obtain ⟨ho, qs, _, hat, hhn, hho, hqs⟩ := hT.ex
 have hn := hV.n.n
 have hms := hV.n.s
 have hfl := hV.n.fl
 have hml := hV.n.ml
 have hmn := hM.pm.ln
 have hfn := hM.pf.ln
 have hSq : ∀ s : Nat, s < m.n.toNat -> mvS m (s : Int) = S s := fun s hs => mvS_eq hV.d (hT.so s hs).p (hT.so s hs).s
 obtain ⟨hCl, hCb, hcc, hCsu⟩ := hCs
 replace hCl : C.length = m.n.toNat := hCl
 replace hcc : cnt <= m.n.toNat := hcc
 have hscn := hR.ln
 rw [show (natI C).length = C.length from Yc _] at hscn
 have hidx : ∀ c, c < cnt -> idxF C c < m.n.toNat := fun c hc => by rw [<- hCl]; exact idxF_lt (hCsu c hc)
 refine (St.refl h).newb fun h1 hs => ?_
 refine ⟨⟨by omega, by omega, by omega⟩, ?_⟩
 refine hs.newb fun h2 hs => ?_
 refine ⟨⟨by omega, by omega, by omega⟩, ?_⟩
 rw [made3n, Ys] at hs
 refine hs.newb fun h3 hs => ?_
 rw [made3i, Ys] at hs
 refine ⟨m.n, (atC_ext hs.ext hat).nth 1 rfl, ?_⟩
 rw [w64 (n := m.n - 1) (by omega) (by omega)]
 refine ⟨fun x h' μ => ∃ (i : Nat) (SM : List Nat) (NUM : List Int), x = (i : Int) - 1 /\ μ = i /\ i <= m.n.toNat /\ SM.length = cnt /\ NUM.length = cnt /\ (∀ c, c < cnt -> c ∈ C.drop i -> SM[c]? = some (i + idxF (C.drop i) c)) /\ (∀ c, c < cnt -> c ∈ C.drop i -> NUM[c]? = some (-1)) /\ St h h' [.blk h2.size (NUM.map iv) 3, .blk h1.size (SM.map natV) 3, .blk h.size m0 26],
  ⟨_, m.n.toNat, _, _, by omega, rfl, by omega, Yg, Yg, fun c _ hc => (by rw [List.drop_eq_nil_of_le (by omega)] at hc; cases hc), fun c _ hc => (by rw [List.drop_eq_nil_of_le (by omega)] at hc; cases hc), hs⟩, ?_⟩
 clear hs
 rintro - _ h9 i ⟨_, SM, NUM, rfl, rfl, hi, hSMl, hNl, hSM, hN1, hs⟩
 refine sBi (fun c1 => ?_) (fun c1 => ?_)
 ·
  obtain ⟨i, rfl⟩ : ∃ i', i = i' + 1 := ⟨i - 1, by omega⟩
  rw [show (((i + 1 : Nat) : Int) - 1) = (i : Int) by omega]
  refine (hR.ext hs.ext).nbI (by omega) (by omega) fun b10 o11 d g10 t10 => ?_
  rw [Ys] at g10
  obtain ⟨c, gc, rfl⟩ := natI_get g10
  have hcb := hCb c (Yb gc)
  refine ⟨_, t10.hd, ?_⟩
  refine (hR.ext hs.ext).nbI (by omega) (by omega) fun b13 o14 d g13 t13 => ?_
  rw [Ys] at g13
  obtain ⟨c', gc', rfl⟩ := natI_get g13
  rw [gc] at gc'; cases gc'
  refine ⟨_, t13.hd, ⟨by omega, by omega⟩, ?_⟩
  rw [show 0 + Int.toNat (c : Int) * 1 = c by omega]
  refine hs.put 1 rfl (o := c) (vs := [natV i]) rfl (by rw [Yc, Yv]; omega) fun h16 hs => ?_
  rw [map_splice natV (by omega)] at hs
  refine ⟨⟨by omega, by omega⟩, ?_⟩
  refine hs.put 0 rfl (o := c) (vs := [iv (-1)]) rfl (by rw [Yc, Yv]; omega) fun h17 hs => ?_
  rw [map_splice iv (by omega)] at hs
  refine ⟨_, by omega, i, SM.set c i, NUM.set c (-1), by rw [w64 (by omega) (by omega)], rfl, by omega, by rw [Yyh]; exact hSMl, by rw [Yyh]; exact hNl, fun c' hc' hm => ?_, fun c' hc' hm => ?_, hs⟩
  ·
   rw [drop_get gc] at hm ⊢
   rw [idxF]
   by_cases e : c = c'
   ·
    subst e; rw [if_pos rfl, Yq (by omega)]; rfl
   ·
    rw [if_neg e, Yy e]
    rcases Yr.1 hm with hm | hm
    ·
     exact absurd hm.symm e
    ·
     rw [hSM c' hc' hm]; congr 1; omega
  ·
   rw [drop_get gc] at hm
   by_cases e : c = c'
   ·
    subst e; rw [Yq (by omega)]
   ·
    rw [Yy e]
    rcases Yr.1 hm with hm | hm
    ·
     exact absurd hm.symm e
    ·
     exact hN1 c' hc' hm
 have hi0 : i = 0 := by omega
 subst hi0
 have hSM' : ∀ c, c < cnt -> SM[c]? = some (idxF C c) := fun c hc => by
  have := hSM c hc (by rw [List.drop_zero]; exact hCsu c hc)
  rwa [List.drop_zero, Nat.zero_add] at this
 have hN1' : ∀ c, c < cnt -> NUM[c]? = some (-1) := fun c hc => hN1 c hc (by rw [List.drop_zero]; exact hCsu c hc)
 clear hSM hN1 c1 hi
 obtain ⟨c0, hc0⟩ := get_some (l := C) (i := m.s.toNat) (by omega)
 have hc0b := hCb c0 (Yb hc0)
 rw [getD_some hc0]
 generalize hmin : minN (srtM m) C 202 0 [c0] [] [] [] = M0
 refine ⟨m.s, (atC_ext hs.ext hat).nth 2 rfl, ?_⟩
 refine (hR.ext hs.ext).nbI (by omega) (by omega) fun b20 o21 d20 g20 t20 => ?_
 obtain ⟨c0', gc0, rfl⟩ := natI_get g20
 rw [hc0] at gc0; cases gc0
 refine ⟨_, t20.hd, ?_⟩
 refine hs.newb fun h23 hs => ?_
 refine ⟨⟨by omega, by omega⟩, _, hs.rd 0 rfl rfl, ⟨by omega, by omega⟩, ?_⟩
 rw [show 0 + Int.toNat (c0 : Int) * 1 = c0 by omega]
 refine hs.put 1 rfl (o := c0) (vs := [iv 0]) rfl (by rw [Yc, Yv]; omega) fun h25 hs => ?_
 rw [map_splice iv (by omega)] at hs
 have hs := hs.blkS 1 1 ((natI [c0]).map inC) rfl (inrows _) rfl (by decide)
 refine ⟨m.role, (atC_ext hs.ext hat).nth 0 rfl, ?_⟩
 refine hs.newput (vs := [.int .i64 m.role, .int .i64 0, .int .i64 0, .slice none 0 0, .slice none 0 0, .slice none 0 0]) rfl rfl fun h28 hs => ?_
 have hs : St h h28 (mgA h25.size h2.size h1.size h.size m ⟨some ⟨h9.size, 0, none⟩, 1, 1⟩ ⟨none, 0, 0⟩ ⟨none, 0, 0⟩ ⟨none, 0, 0⟩ [c0] (NUM.set c0 0) [] [] [] SM) :=
  (((hs.nil_ 44 3).nil_ 81 6).nil_ 4 1).perm (List.perm_append_comm (l₁ := [_, _, _]) (l₂ := [_, _]) |>.append_right [_, _, _])
 have hq0 : QOk [c0] cnt := ⟨by simp, fun c hc => by rw [Ye] at hc; omega⟩
 have hnq0 : NumQ (NUM.set c0 0) [c0] cnt := by
  refine ⟨by rw [Yyh]; exact hNl, fun c hc => ?_⟩
  by_cases e : c = c0
  ·
   subst e
   rw [Yq (by omega), if_pos (by simp), idxF, if_pos rfl]; rfl
  ·
   rw [Yy (fun h => e h.symm), if_neg (by simpa using e), hN1' c hc]
 refine ⟨fun q x h' μ => ∃ (i : Nat) (ofn omv oli : Sl) (Q : List Nat) (NUM : List Int) (fin : List Bool) (mv : List Mv) (li : List To), x = (i : Int) /\ μ = cnt - i /\ i <= Q.length /\
   St h h' (mgA h25.size h2.size h1.size h.size m q ofn omv oli Q NUM fin mv li SM) /\ QOk Q cnt /\ NumQ NUM Q cnt /\ mv.length <= i * 400 /\ li.length <= i * 400 /\ fin.length = i /\ minN (srtM m) C (202 - i) i Q fin mv li = M0,
   ⟨_, 0, _, _, _, _, _, _, _, _, rfl, rfl, by omega, hs, hq0, hnq0, by decide, by decide, rfl, hmin⟩, ?_⟩
 clear hs hmin hq0 hnq0 hN1' hNl
 rintro - q _ h34 μ ⟨i, ofn, omv, oli, Q, NUM, fin, mv, li, rfl, rfl, hiQ, hs, hQ, hNQ, hmvl, hlil, hfinl, hmin⟩
 have hqn := (hs.rows 1 (s := q) (cs := inC) rfl (by omega)).ln
 rw [show (natI Q).length = Q.length from Yc _] at hqn
 have hQl := hQ.le
 refine sBi (fun c4 => ?_) (fun c4 => ?_)
 ·
  obtain ⟨c, hc⟩ := get_some (l := Q) (i := i) (by omega)
  have hcb := hQ.lt c (Yb hc)
  have hiQ1 : i < Q.length /\ Q.length <= cnt := by omega
  refine (hs.rows 1 (s := q) (cs := inC) rfl (by omega)).nbI (by omega) (by omega) fun b35 o36 d35 g35 t35 => ?_
  rw [Ys] at g35
  obtain ⟨c', gc', rfl⟩ := natI_get g35
  rw [hc] at gc'; cases gc'
  refine ⟨_, t35.hd, ⟨by omega, by omega⟩, ?_⟩
  rw [show 0 + Int.toNat (c : Int) * 1 = c by omega]
  have hsb := hidx c hcb
  rw [show 202 - i = (202 - (i + 1)) + 1 by omega, minN, hc] at hmin
  replace hmin : minN (srtM m) C (202 - (i + 1)) (i + 1) ((outM (srtM m) (idxF C c)).foldl (minX (srtM m) C i (mget (limM (srtM m).li) (idxF C c : Nat))) (Q, mv, li)).1 (fin ++ [m.fin.getD (idxF C c) false])
   ((outM (srtM m) (idxF C c)).foldl (minX (srtM m) C i (mget (limM (srtM m).li) (idxF C c : Nat))) (Q, mv, li)).2.1 ((outM (srtM m) (idxF C c)).foldl (minX (srtM m) C i (mget (limM (srtM m).li) (idxF C c : Nat))) (Q, mv, li)).2.2 = M0 := hmin
  rw [outM_srt hsb] at hmin
  have hsm := hSM' c hcb
  refine ⟨_, hs.rd 6 rfl (by rw [Yd, hsm]; rfl), ?_⟩
  generalize hse : idxF C c = s at *
  refine ⟨ofn, hs.rd 0 rfl rfl, sf, (atC_ext hs.ext hat).nth 3 rfl, ?_⟩
  have hofn := (hs.rows 2 (s := ofn) (cs := bC) rfl (by omega)).ln
  refine (hM.pf.rw.ext hs.ext).nbI (by omega) (by omega) fun b41 o42 bf g41 t41 => ?_
  rw [Ys] at g41
  replace g41 : m.fin[s]? = some bf := g41
  rw [getD_some g41] at hmin
  refine ⟨_, t41.hd, ?_⟩
  refine hs.newbE fun h44 E44 hs => ⟨E44.sm, ?_⟩
  refine hs.appended 3 (rows := fin.map bC) rfl app30 (m := 1) (news := [bC bf]) (hs.at 0 rfl (n := 1) rfl) rfl (fun r hr => by rw [Ye] at hr; rw [hr]; rfl) rfl (by omega) (by simp only [maxLen]; omega) fun s45 h46 n45 hs => ?_
  refine hs.put 1 rfl (o := 3) (vs := [.slice s45.a s45.n s45.c]) rfl (show 4 <= 6 by decide) fun h47 hs => ?_
  have hs : St h h47 (mgA h25.size h2.size h1.size h.size m q s45 omv oli Q NUM (fin ++ [bf]) mv li SM) := by
   unfold mgA
   rw [Ym (l₁ := fin)]
   exact hs.drop 1
  refine (timeout135 m sf sm sl b S h47 (hM.ext hs.ext) hV.t (hT.ext hs.ext) s).mono ?_
  rintro _ h53 ⟨rfl, E53⟩
  have hs := hs.step E53
  refine ⟨_, _, _, _, rfl, ?_⟩
  refine hs.newput (vs := (tmE m s).cs) rfl rfl fun h55 hs => ?_
  refine ⟨ho, (atC_ext hs.ext hat).nth 6 rfl, ?_⟩
  refine (hho.ext hs.ext).nbI (by omega) (by omega) fun b57 o58 k gk t57 => ?_
  have hk : k = s := by rw [Ys, Yyb hsb] at gk; exact (Option.some.inj gk).symm
  subst hk
  have hS := hSq k hsb
  have hrow := hqs k hsb
  have hrn := hrow.ln
  rw [show (natI (S k)).length = (S k).length from Yc _] at hrn
  have hrl : (rwS m k).length = (S k).length := by rw [rwS_len, hS]
  have hSl : (S k).length <= 400 := by
   rw [(hT.so k hsb).p.length_eq]
   unfold outIx
   exact Nat.le_trans (List.length_filter_le _ _) (by rw [Yyd]; exact hml)
  refine ⟨_, t57.hd, ?_⟩
  refine ⟨fun q x h' μ => ∃ (j : Nat) (omv oli : Sl) (Q2 : List Nat) (NUM2 : List Int) (mv2 : List Mv) (li2 : List To), x = (j : Int) /\ μ = (S k).length - j /\ j <= (S k).length /\
    St h h' (.blk h53.size (tmE m k).cs 79 :: mgA h25.size h2.size h1.size h.size m q s45 omv oli Q2 NUM2 (fin ++ [bf]) mv2 li2 SM) /\ QOk Q2 cnt /\ NumQ NUM2 Q2 cnt /\ mv2.length <= mv.length + j /\ li2.length <= li.length + j /\ Q.length <= Q2.length /\ ((rwS m k).take j).foldl (minX (srtM m) C i (mget (limM (srtM m).li) (k : Nat))) (Q, mv, li) = (Q2, mv2, li2),
    ⟨_, 0, omv, oli, Q, NUM, mv, li, rfl, rfl, by omega, hs, hQ, hNQ, by omega, by omega, by omega, rfl⟩, ?_⟩
  clear hs hQ hNQ hqn hofn hQl c4
  rintro - q2 _ h65 μ ⟨j, omv2, oli2, Q2, NUM2, mv2, li2, rfl, rfl, hj, hs, hQ, hNQ, hmv2, hli2, hQ2, hfold⟩
  have hqn2 := (hs.rows 2 (s := q2) (cs := inC) rfl (by omega)).ln
  rw [show (natI Q2).length = Q2.length from Yc _] at hqn2
  have hQ2l := hQ.le
  refine sBi (fun c5 => ?_) (fun c5 => ?_)
  ·
   obtain ⟨jn, hjn⟩ := get_some (l := S k) (i := j) (by omega)
   obtain ⟨x, hx, hxf⟩ := (mvS_ok m (k : Int) jn).1 (by rw [hS]; exact Yb hjn)
   have hxl := (Ya.1 hx).1
   have hxr := hV.n.mv x (Yb hx)
   have hrj : (rwS m k)[j]? = some x := rwS_get (by rw [hS]; exact hjn) hx
   refine (hrow.ext hs.ext).nbI (by omega) (by omega) fun b66 o67 d gd t66 => ?_
   replace gd : (natI (S k))[j]? = some d := gd
   obtain ⟨jn', hjn', rfl⟩ := natI_get gd
   rw [hjn] at hjn'; cases hjn'
   refine ⟨_, t66.hd, sm, (atC_ext hs.ext hat).nth 4 rfl, ?_⟩
   refine (hM.pm.rw.ext hs.ext).nbI (by omega) (by omega) fun b70 o71 x' gx t70 => ?_
   replace gx : m.mv[jn]? = some x' := gx
   rw [hx] at gx; cases gx
   refine ⟨_, _, _, _, _, _, t70, ?_⟩
   refine hs.newput (vs := x.cs) rfl rfl fun h79 hs => ?_
   refine ⟨_, hs.rd 0 rfl (i := 4) rfl, ?_⟩
   refine (hR.ext hs.ext).nbI (by omega) (by omega) fun b81 o82 d81 g81 t81 => ?_
   obtain ⟨cx, gcx, rfl⟩ := natI_get g81
   have hcxb := hCb cx (Yb gcx)
   have hcxg : C.getD x.t.toNat 0 = cx := getD_some gcx
   refine ⟨_, t81.hd, ?_⟩
   refine ⟨fun q' h' => ∃ NUM3, St h h' (.blk h65.size x.cs 81 :: .blk h53.size (tmE m k).cs 79 :: mgA h25.size h2.size h1.size h.size m q' s45 omv2 oli2 (addQ Q2 cx) NUM3 (fin ++ [bf]) mv2 li2 SM) /\ NumQ NUM3 (addQ Q2 cx) cnt, ?_, ?_⟩
   ·
    have hnc := hNQ.2 cx hcxb
    refine ⟨⟨by omega, by omega⟩, ?_⟩
    rw [show 0 + Int.toNat (cx : Int) * 1 = cx by omega]
    refine ⟨_, hs.rd 7 rfl (by rw [Yd, hnc]; rfl), ?_⟩
    by_cases hm : cx ∈ Q2
    ·
     rw [if_pos hm]
     refine sB_f (decide_eq_false (by omega)) ?_
     have ea : addQ Q2 cx = Q2 := by unfold addQ; rw [if_pos hm]
     rw [ea]
     exact ⟨NUM2, hs, hNQ⟩
    ·
     rw [if_neg hm]
     refine sB_t (decide_eq_true (by decide)) ?_
     have ea : addQ Q2 cx = Q2 ++ [cx] := by unfold addQ; rw [if_neg hm]
     refine ⟨⟨by omega, by omega⟩, ?_⟩
     refine hs.put 7 rfl (o := cx) (vs := [iv (q2.n : Nat)]) rfl (by rw [Yc, Yv, hNQ.1]; omega) fun h86 hs => ?_
     rw [map_splice iv (by rw [hNQ.1]; omega), hqn2] at hs
     refine hs.app 3 rfl app42 (m := 1) [[.int .i64 cx]] rfl rfl (by simp) rfl (by omega) (by simp only [maxLen]; omega) fun s88 h89 n88 hs => ?_
     rw [ea]
     refine ⟨_, ?_, hNQ.add hcxb hm⟩
     unfold mgA
     rw [natI_snoc, Ym (l₁ := natI Q2)]
     exact hs
   ·
    rintro - q3 h91 ⟨NUM3, hs, hNQ3⟩
    have hmx := minX_tm hV C i k (Q2, mv2, li2) x
    rw [hcxg] at hmx
    have homv := (hs.rows 5 (s := omv2) (cs := Mv.cs) rfl (by omega)).ln
    have holi := (hs.rows 6 (s := oli2) (cs := To.cs) rfl (by omega)).ln
    replace hmx : minX (srtM m) C i (mget (limM (srtM m).li) (k : Int)) (Q2, mv2, li2) x = (addQ Q2 cx, mv2 ++ [⟨(i : Nat), x.send, x.peer, x.label, (idxF (addQ Q2 cx) cx : Nat), x.ag⟩], li2 ++ if 0 < tmK m k /\ x.ev = tmE m k then [⟨(i : Nat), tmK m k, (mv2.length : Nat)⟩] else []) := hmx
    have hlm2 := (minX_len (srtM m) C i (mget (limM (srtM m).li) (k : Int)) (Q2, mv2, li2) x).2
    rw [hmx] at hlm2
    generalize hLI : (li2 ++ if 0 < tmK m k /\ x.ev = tmE m k then [⟨(i : Nat), tmK m k, (mv2.length : Nat)⟩] else []) = LI at *
    replace hlm2 : LI.length <= li2.length + 1 := hlm2
    refine ⟨fun h' => ∃ oli', St h h' (.blk h65.size x.cs 81 :: .blk h53.size (tmE m k).cs 79 :: mgA h25.size h2.size h1.size h.size m q3 s45 omv2 oli' (addQ Q2 cx) NUM3 (fin ++ [bf]) mv2 LI SM), ?_, ?_⟩
    ·
     have hJ : ∀ {h' : Heap}, St h h' (.blk h65.size x.cs 81 :: .blk h53.size (tmE m k).cs 79 :: mgA h25.size h2.size h1.size h.size m q3 s45 omv2 oli2 (addQ Q2 cx) NUM3 (fin ++ [bf]) mv2 li2 SM) -> ¬ (0 < tmK m k /\ x.ev = tmE m k) -> ∃ oli', St h h' (.blk h65.size x.cs 81 :: .blk h53.size (tmE m k).cs 79 :: mgA h25.size h2.size h1.size h.size m q3 s45 omv2 oli' (addQ Q2 cx) NUM3 (fin ++ [bf]) mv2 LI SM) := fun {h'} hs e => by
      rw [if_neg e, Yw] at hLI
      rw [<- hLI]; exact ⟨oli2, hs⟩
     refine sBi (fun c6 => ?_) (fun c6 => hJ hs fun e => (by omega))
     refine ⟨_, _, _, _, _, _, hs.at 0 rfl (o := 0) (n := 6) rfl, _, _, _, hs.at 1 rfl (o := 0) (n := 3) rfl, ?_⟩
     refine (M.of63 x h91).mono ?_
     rintro _ h106 ⟨rfl, E106⟩
     have hs := hs.step E106
     refine ⟨_, _, _, rfl, E106.sm, ?_⟩
     have heq : (((x.ev.send == (tmE m k).send) && ((x.ev.peer == (tmE m k).peer) && ((x.ev.label == (tmE m k).label) && true))) = true) ↔ x.ev = tmE m k := by
      rw [Bool.and_true, Yt, Yt, beq_iff_eq, beq_iff_eq, beq_iff_eq]
      exact ⟨fun h => ev_ext h.1 h.2.1 h.2.2, fun h => by rw [h]; exact ⟨rfl, rfl, rfl⟩⟩
     refine sB_intro (fun c7 => ?_) (fun c7 => hJ hs fun e => by rw [heq.2 e.2] at c7; cases c7)
     have hev := heq.1 c7
     refine ⟨oli2, hs.rd 2 rfl (i := 5) rfl, omv2, hs.rd 2 rfl (i := 4) rfl, ?_⟩
     refine hs.app 6 rfl app25 (m := 1) [To.cs ⟨(i : Nat), tmK m k, (omv2.n : Nat)⟩] rfl rfl (fun r hr => by rw [Ye] at hr; rw [hr]; rfl) rfl (by omega) (by simp only [maxLen]; omega) fun s110 h111 n110 hs => ?_
     refine hs.put 2 rfl (o := 5) (vs := [.slice s110.a s110.n s110.c]) rfl (show 6 <= 6 by decide) fun h112 hs => ?_
     refine ⟨s110, ?_⟩
     rw [if_pos ⟨by omega, hev⟩, <- homv] at hLI
     rw [<- hLI]
     unfold mgA
     rw [Ym (l₁ := li2)]
     exact hs
    ·
     rintro - h113 ⟨oli', hs⟩
     have hnc := hNQ3.2 cx hcxb
     rw [if_pos addQ_mem] at hnc
     refine ⟨⟨by omega, by omega⟩, ?_⟩
     rw [show 0 + Int.toNat (cx : Int) * 1 = cx by omega]
     refine ⟨_, hs.rd 7 rfl (by rw [Yd, hnc]; rfl), ?_⟩
     refine hs.put 0 rfl (o := 0) (vs := [.int .i64 (i : Nat)]) rfl (show 1 <= 6 by decide) fun h115 hs2 => ?_
     refine ⟨sm_cons (hs.same hs2 7 7 rfl rfl) sm_nil, ?_⟩
     refine hs2.put 0 rfl (o := 4) (vs := [.int .i64 (idxF (addQ Q2 cx) cx : Nat)]) rfl (show 5 <= 6 by decide) fun h116 hs => ?_
     refine ⟨omv2, hs.rd 2 rfl (i := 4) rfl, _, _, _, _, _, _, hs.at 0 rfl (n := 6) rfl, ?_⟩
     refine hs.app 5 rfl app31 (m := 1) [Mv.cs ⟨(i : Nat), x.send, x.peer, x.label, (idxF (addQ Q2 cx) cx : Nat), x.ag⟩] rfl rfl (fun r hr => by rw [Ye] at hr; rw [hr]; rfl) rfl (by omega) (by simp only [maxLen]; omega) fun s125 h126 n125 hs => ?_
     refine hs.put 2 rfl (o := 4) (vs := [.slice s125.a s125.n s125.c]) rfl (show 5 <= 6 by decide) fun h127 hs => ?_
     have hlm : (mv2 ++ [(⟨(i : Nat), x.send, x.peer, x.label, (idxF (addQ Q2 cx) cx : Nat), x.ag⟩ : Mv)]).length = mv2.length + 1 := by simp
     refine ⟨_, (show (S k).length - (j + 1) < (S k).length - j by omega), j + 1, s125, oli', addQ Q2 cx, NUM3, mv2 ++ [⟨(i : Nat), x.send, x.peer, x.label, (idxF (addQ Q2 cx) cx : Nat), x.ag⟩], LI, by rw [w64 (by omega) (by omega)]; omega, rfl, by omega, ?_, hQ.add hcxb, hNQ3, by omega, by omega, Nat.le_trans hQ2 addQ_len, ?_⟩
     ·
      unfold mgA
      rw [Ym (l₁ := mv2)]
      exact hs.drop 1
     ·
      rw [foldl_snoc hrj, hfold]
      exact hmx
  ·
   have hjn : j = (rwS m k).length := by omega
   subst hjn
   rw [Yye] at hfold
   rw [hfold] at hmin
   exact ⟨_, (show cnt - (i + 1) < cnt - i by omega), i + 1, s45, omv2, oli2, Q2, NUM2, fin ++ [bf], mv2, li2, by rw [w64 (by omega) (by omega)]; omega, rfl, by omega, hs.drop 1, hQ, hNQ, by omega, by omega, by rw [Yh, hfinl]; rfl, hmin⟩
 ·
  have hiQ : i = Q.length := by omega
  rw [show 202 - i = (202 - (i + 1)) + 1 by omega, minN, Yl (by omega)] at hmin
  replace hmin : (⟨m.role, (Q.length : Nat), 0, fin, mv, li⟩ : Mch) = M0 := hmin
  refine hs.put 0 rfl (o := 1) (vs := [.int .i64 (q.n : Nat)]) rfl (show 2 <= 6 by decide) fun h130 hs => ?_
  refine ⟨_, _, _, ofn, omv, oli, hs.at 0 rfl (n := 6) rfl, ?_⟩
  refine hs.put 7 rfl (o := 0) (vs := [.int .i64 m.role, .int .i64 (q.n : Nat), .int .i64 0, .slice ofn.a ofn.n ofn.c, .slice omv.a omv.n omv.c, .slice oli.a oli.n oli.c]) rfl (show 6 <= 6 by decide) fun h137 hs => ?_
  refine ⟨_, _, _, ofn, omv, oli, hs.at 7 rfl (n := 6) rfl, ?_⟩
  refine ⟨ofn, omv, oli, ?_, ?_⟩
  ·
   rw [<- hmin, hqn]; rfl
  ·
   rw [<- hmin]
   exact hs.sub (.cons _ (.cons _ (.cons_cons _ (.cons_cons _ (.cons_cons _ (List.nil_sublist _))))))
end Go.VC
end

section
/- Contracts: Minimize and Canonical. (Numbers of layer 26's seat.) -/
namespace Go.VC
open Go.Proofs Go.LexS Go.Maps
def mZ : Mch := ⟨0, 0, 0, [], [], []⟩
noncomputable def canN (m : Mch) : Mch := minN (srtM m) (List.range m.n.toNat) 202 0 [m.s.toNat] [] [] []
open Classical in
noncomputable def minM (m : Mch) : Mch := if VM m then minF (srtM m) else mZ
open Classical in
noncomputable def canM (m : Mch) : Mch := if VM m then canN m else mZ
open Classical in
noncomputable def erM (m : Mch) : Int := if VM m then 0 else 1
def FmV (M : Mch) (e : Int) (h : Heap) (v : Value) (h' : Heap) : Prop := ∃ sf sm sl : Sl, v = .tuple ⟨[.agg ⟨mC M sf sm sl⟩, .int .i64 e]⟩ /\ St h h' (mL M sf sm sl)
theorem erM_pos {m : Mch} (h : VM m) : erM m = 0 := if_pos h
theorem erM_neg {m : Mch} (h : ¬ VM m) : erM m = 1 := if_neg h
theorem minM_pos {m : Mch} (h : VM m) : minM m = minF (srtM m) := if_pos h
theorem minM_neg {m : Mch} (h : ¬ VM m) : minM m = mZ := if_neg h
theorem canM_pos {m : Mch} (h : VM m) : canM m = canN m := if_pos h
theorem canM_neg {m : Mch} (h : ¬ VM m) : canM m = mZ := if_neg h
theorem range_cs {m : Mch} : CsOk (srtM m) (List.range m.n.toNat) m.n.toNat := ⟨Yyd, fun c hc => List.mem_range.1 hc, Nat.le_refl _, fun c hc => List.mem_range.2 hc⟩
theorem minimize37 (m : Mch) (sf sm sl : Sl) (h : Heap) (hM : MI h m sf sm sl) : Fn Pz 37 #[.agg ⟨mC m sf sm sl⟩] h fun v h' => FmV (minM m) (erM m) h v h' := by
 apply vc37 m.role m.n m.s sf sm sl; unfold W37
 refine (St.refl h).newb fun h7 hs => ?_
 refine hs.newb fun h8 hs => ?_
 refine ⟨_, _, _, sf, sm, sl, hs.at 1 rfl (o := 0) (n := 6) rfl, ?_⟩
 refine (open47 m sf sm sl h8 (hM.ext hs.ext)).mono ?_
 rintro _ h18 ⟨E, p, b, rfl, hb, hTb⟩
 have hs := hs.step E
 refine ⟨_, _, rfl, sB_intro (fun c => ?_) (fun c => ?_)⟩
 ·
  have hnV : ¬ VM m := iff_f hb (bF c)
  refine hs.put 0 rfl (o := 0) (vs := m0) rfl (show 6 <= 6 by decide) fun h19 hs => ?_
  refine ⟨_, _, _, ⟨none, 0, 0⟩, ⟨none, 0, 0⟩, ⟨none, 0, 0⟩, hs.at 0 rfl (o := 0) (n := 6) rfl, ⟨none, 0, 0⟩, ⟨none, 0, 0⟩, ⟨none, 0, 0⟩, ?_, ?_⟩
  ·
   rw [minM_neg hnV, erM_neg hnV]; rfl
  ·
   rw [minM_neg hnV]; exact (((hs.drop 2).nil_ 44 3).nil_ 81 6).nil_ 4 1
 ·
  have hV : VM m := hb.1 (bT c)
  obtain ⟨cb, S, rfl, hT⟩ := hTb (bT c)
  refine (classes75 m sf sm sl cb S h18 (hM.ext hs.ext) hV.w hT).mono ?_
  rintro _ h29 ⟨sc, rfl, hsc⟩
  have hs := hs.step hsc.ext
  refine ⟨sc, _, rfl, ?_⟩
  refine (merged74 m sf sm sl sc cb S _ _ h29 (hM.ext hs.ext) hV.w (hT.ext hsc.ext) (hsc.rows 0 (s := sc) (cs := inC) rfl (by omega)) (cls_ok (srtM_raw hV.w).ok)).mono ?_
  rintro _ h37 ⟨sf', sm', sl', rfl, h3⟩
  have hs := hs.join h3
  have hmin : minN (srtM m) (cls (srtM m)).1 202 0 [(cls (srtM m)).1.getD m.s.toNat 0] [] [] [] = minM m := (minM_pos hV).symm
  rw [hmin] at hs ⊢
  refine ⟨_, _, _, sf', sm', sl', rfl, ?_⟩
  refine hs.put 0 rfl (o := 0) (vs := mC (minM m) sf' sm' sl') rfl (show 6 <= 6 by decide) fun h38 hs => ?_
  refine ⟨_, _, _, sf', sm', sl', hs.at 0 rfl (o := 0) (n := 6) rfl, sf', sm', sl', ?_, hs.drop 2⟩
  rw [erM_pos hV]; rfl
theorem canonical38 (m : Mch) (sf sm sl : Sl) (h : Heap) (hM : MI h m sf sm sl) : Fn Pz 38 #[.agg ⟨mC m sf sm sl⟩] h fun v h' => FmV (canM m) (erM m) h v h' := by
 apply vc38 m.role m.n m.s sf sm sl; unfold W38
 refine (St.refl h).newb fun h7 hs => ?_
 refine hs.newb fun h8 hs => ?_
 refine ⟨_, _, _, sf, sm, sl, hs.at 1 rfl (o := 0) (n := 6) rfl, ?_⟩
 refine (open47 m sf sm sl h8 (hM.ext hs.ext)).mono ?_
 rintro _ h18 ⟨E, p, b, rfl, hb, hTb⟩
 have hs := hs.step E
 refine ⟨_, _, rfl, sB_intro (fun c => ?_) (fun c => ?_)⟩
 ·
  have hnV : ¬ VM m := iff_f hb (bF c)
  refine hs.put 0 rfl (o := 0) (vs := m0) rfl (show 6 <= 6 by decide) fun h19 hs => ?_
  refine ⟨_, _, _, ⟨none, 0, 0⟩, ⟨none, 0, 0⟩, ⟨none, 0, 0⟩, hs.at 0 rfl (o := 0) (n := 6) rfl, ⟨none, 0, 0⟩, ⟨none, 0, 0⟩, ⟨none, 0, 0⟩, ?_, ?_⟩
  ·
   rw [canM_neg hnV, erM_neg hnV]; rfl
  ·
   rw [canM_neg hnV]; exact (((hs.drop 2).nil_ 44 3).nil_ 81 6).nil_ 4 1
 ·
  have hV : VM m := hb.1 (bT c)
  obtain ⟨cb, S, rfl, hT⟩ := hTb (bT c)
  have hn := hV.n.n
  have hms := hV.n.s
  have hnn : ((m.n.toNat : Nat) : Int) = m.n := by omega
  refine ⟨m.n, hs.rd 1 rfl (i := 1) rfl, ⟨by omega, by omega, by omega⟩, ?_⟩
  refine (St.refl h18).newb fun h27 hx => ?_
  rw [made3n] at hx
  refine ⟨fun x h' μ => ∃ i : Nat, x = (i : Int) /\ μ = m.n.toNat - i /\ i <= m.n.toNat /\ St h18 h' [.blk h18.size ((List.range i ++ List.replicate (m.n.toNat - i) 0).map natV) 3], ⟨_, 0, rfl, rfl, Nat.zero_le _, hx⟩, ?_⟩
  clear hx
  rintro - _ h32 μ ⟨i, rfl, rfl, hi, hx⟩
  refine sBi (fun c1 => ?_) (fun c1 => ?_)
  ·
   refine ⟨⟨by omega, by omega⟩, ?_⟩
   rw [show 0 + Int.toNat (i : Int) * 1 = i by omega]
   refine hx.put 0 rfl (o := i) (vs := [natV i]) rfl (by rw [Yc, Yh, Yyd, Yg, Yv]; omega) fun h33 hx => ?_
   rw [map_natV_put Yyd (by omega), <- List.range_succ] at hx
   exact ⟨_, (show m.n.toNat - (i + 1) < m.n.toNat - i by omega), i + 1, by rw [w64 (by omega) (by omega)]; omega, rfl, by omega, hx⟩
  ·
   have hin : i = m.n.toNat := by omega
   subst hin
   rw [Nat.sub_self, List.replicate_zero, Yw] at hx
   have hsc := hx.blkS m.n.toNat 1 ((natI (List.range m.n.toNat)).map inC) (natflat _) (inrows _) (by rw [Yc, show (natI (List.range m.n.toNat)).length = (List.range m.n.toNat).length from Yc _, Yyd]) (by simp only [maxLen]; omega)
   have hs := hs.step hsc.ext
   refine ⟨((m.n.toNat : Nat) : Int), by rw [hnn]; exact hs.rd 1 rfl (i := 1) rfl, ?_⟩
   refine (merged74 m sf sm sl ⟨some ⟨h18.size, 0, none⟩, m.n.toNat, m.n.toNat⟩ cb S (List.range m.n.toNat) m.n.toNat h32 (hM.ext hs.ext) hV.w (hT.ext hsc.ext) (hsc.rows 0 (s := ⟨some ⟨h18.size, 0, none⟩, m.n.toNat, m.n.toNat⟩) (cs := inC) rfl (by omega)) range_cs).mono ?_
   rintro _ h43 ⟨sf', sm', sl', rfl, h3⟩
   have hs := hs.join h3
   have hmin : minN (srtM m) (List.range m.n.toNat) 202 0 [(List.range m.n.toNat).getD m.s.toNat 0] [] [] [] = canM m := by
    rw [getD_some (Yyb (show m.s.toNat < m.n.toNat by omega)), canM_pos hV]; rfl
   rw [hmin] at hs ⊢
   refine ⟨_, _, _, sf', sm', sl', rfl, ?_⟩
   refine hs.put 0 rfl (o := 0) (vs := mC (canM m) sf' sm' sl') rfl (show 6 <= 6 by decide) fun h44 hs => ?_
   refine ⟨_, _, _, sf', sm', sl', hs.at 0 rfl (o := 0) (n := 6) rfl, sf', sm', sl', ?_, hs.drop 2⟩
   rw [erM_pos hV]; rfl
end Go.VC
end

section
namespace Go.VC
open Go.Proofs

def W180 (p0_1 p0_2 p0_3 : Int) (p0_4 p0_5 p0_6 p1 : Sl) (p2 p3 : Int) (h : Heap) (R : Value -> Heap -> Prop) : Prop :=
 (Wn h (L0 p0_1 p0_2 p0_3 p0_4 p0_5 p0_6) 26 fun h7 =>
 (∃ x8 x9 x10 x11 x12 x13, aL0 h7 (aS h 0) x8 x9 x10 x11 x12 x13 /\
 (∃ x14 x15 x16 x17 x18 x19, aL0 h7 (aS h 0) x14 x15 x16 x17 x18 x19 /\
 (Fn Pz 62 #[.agg ⟨(L0 x8 x9 x10 x11 x12 x13)⟩, vI p2] h7
 (fun v20 h22 => ∃ x21, iS v20 x21 /\
 (Sm [(aS h 0)] h7 h22 /\
 (Fn Pz 62 #[.agg ⟨(L0 x14 x15 x16 x17 x18 x19)⟩, vI p3] h22
 (fun v23 h25 => ∃ x24, iS v23 x24 /\
 (Sm [(aS h 0)] h22 h25 /\
 (∃ x26, rS h25 (aS h 3) x26 /\
 (NB x26.a fun b27 o28 => (Ib p2 x26.n /\
 (∃ x29, rB h25 ⟨b27, o28 + Int.toNat p2 * 1, none⟩ x29 /\
 (∃ x30, rS h25 (aS h 3) x30 /\
 (NB x30.a fun b31 o32 => (Ib p3 x30.n /\
 (∃ x33, rB h25 ⟨b31, o32 + Int.toNat p3 * 1, none⟩ x33 /\
 (sB (!(x29 == x33))
 (R (.bool false) h25)
 ((∃ x34 x35 x36 x37 x38 x39, aL0 h25 (aS h 0) x34 x35 x36 x37 x38 x39 /\
 (Fn Pz 213 #[.agg ⟨(L0 x34 x35 x36 x37 x38 x39)⟩, vI p2, vI p3] h25
 (fun v40 h42 => ∃ x41, iB v40 x41 /\
 (Sm [⟨b31, o32 + Int.toNat p3 * 1, none⟩, (aS h 3), ⟨b27, o28 + Int.toNat p2 * 1, none⟩, (aS h 3)] h25 h42 /\
 (sB (!x41)
 (R (.bool false) h42)
 ((sB ((x21.n : Int) != (x24.n : Int))
 (R (.bool false) h42)
 ((QI 0 h42 fun I43 i_46 h47 m45 => (
 (sB (decide (i_46 < (x21.n : Int)))
 ((∃ x48, rS h47 (aS h 4) x48 /\
 (NB x21.a fun b49 o50 => (Ib i_46 x21.n /\
 (∃ x51, rI h47 ⟨b49, o50 + Int.toNat i_46 * 1, none⟩ x51 /\
 (NB x48.a fun b52 o53 => (Ib x51 x48.n /\
 (∃ x54 x55 x56 x57 x58 x59, aL1 h47 ⟨b52, o53 + Int.toNat x51 * 6, none⟩ x54 x55 x56 x57 x58 x59 /\
 (∃ x60, rS h47 (aS h 4) x60 /\
 (NB x24.a fun b61 o62 => (Ib i_46 x24.n /\
 (∃ x63, rI h47 ⟨b61, o62 + Int.toNat i_46 * 1, none⟩ x63 /\
 (NB x60.a fun b64 o65 => (Ib x63 x60.n /\
 (∃ x66 x67 x68 x69 x70 x71, aL1 h47 ⟨b64, o65 + Int.toNat x63 * 6, none⟩ x66 x67 x68 x69 x70 x71 /\
 (Fn Pz 214 #[.agg ⟨(L1 x54 x55 x56 x57 x58 x59)⟩, .agg ⟨(L1 x66 x67 x68 x69 x70 x71)⟩] h47
 (fun v72 h74 => ∃ x73, iB v72 x73 /\
 (sB (!x73)
 (R (.bool false) h74)
 ((∃ x75, rS h74 (aS h 4) x75 /\
 (NB x21.a fun b76 o77 => (Ib i_46 x21.n /\
 (∃ x78, rI h74 ⟨b76, o77 + Int.toNat i_46 * 1, none⟩ x78 /\
 (NB x75.a fun b79 o80 => (Ib x78 x75.n /\
 (∃ x81, rI h74 ⟨b79, o80 + Int.toNat x78 * 6 + 4, none⟩ x81 /\
 (NB p1.a fun b82 o83 => (Ib x81 p1.n /\
 (∃ x84, rI h74 ⟨b82, o83 + Int.toNat x81 * 1, none⟩ x84 /\
 (∃ x85, rS h74 (aS h 4) x85 /\
 (NB x24.a fun b86 o87 => (Ib i_46 x24.n /\
 (∃ x88, rI h74 ⟨b86, o87 + Int.toNat i_46 * 1, none⟩ x88 /\
 (NB x85.a fun b89 o90 => (Ib x88 x85.n /\
 (∃ x91, rI h74 ⟨b89, o90 + Int.toNat x88 * 6 + 4, none⟩ x91 /\
 (NB p1.a fun b92 o93 => (Ib x91 p1.n /\
 (∃ x94, rI h74 ⟨b92, o93 + Int.toNat x91 * 1, none⟩ x94 /\
 (sB (x84 != x94)
 (R (.bool false) h74)
 ((∃ m95, m95 < m45 /\ I43 (IntKind.wrap .i64 (i_46 + 1)) h74 m95))))))))))))))))))))))))))))))))))))))))))
 (R (.bool true) h47)))))))))))))))))))))))))))))))
theorem vc180 (p0_1 p0_2 p0_3 : Int) (p0_4 p0_5 p0_6 p1 : Sl) (p2 p3 : Int) (h : Heap) (R : Value -> Heap -> Prop) (H : W180 p0_1 p0_2 p0_3 p0_4 p0_5 p0_6 p1 p2 p3 h R) : Fn Pz 180 #[.agg ⟨(L0 p0_1 p0_2 p0_3 p0_4 p0_5 p0_6)⟩, vS p1, vI p2, vI p3] h R := fnI (A := (.s .z (.s .z (.s .z (.s (.s .z (.b (.l [(11, .one (.int .i64))] .z))) .z))))) (by kernel_rfl) H

def W138 (p0_1 p0_2 p0_3 : Int) (p0_4 p0_5 p0_6 : Sl) (h : Heap) (R : Value -> Heap -> Prop) : Prop :=
 (Wn h (L0 p0_1 p0_2 p0_3 p0_4 p0_5 p0_6) 26 fun h7 =>
 (∃ x8, rI h7 (aS h 1) x8 /\
 (Mk x8 x8 8 /\ Wn h7 (madeL Pz 3 (Int.toNat x8)) 3 fun h9 =>
 (QSB ⟨(some (aS h7 0)), (Int.toNat x8), (Int.toNat x8)⟩ true h9 fun I10 class_13 changed_14 h15 m12 => (
 (sB changed_14
 ((∃ x16, rI h15 (aS h 1) x16 /\
 (Mk x16 x16 8 /\ Wn h15 (madeL Pz 3 (Int.toNat x16)) 3 fun h17 =>
 (QBI false 0 h17 fun I18 changed_21 i_22 h23 m20 => (
 (∃ x24, rI h23 (aS h 1) x24 /\
 (sB (decide (i_22 < x24))
 (((0 <= (i_22 : Int) /\ (i_22 : Int) < ((Int.toNat x16) : Nat)) /\
 (Wp h23 (aS h15 (0 + Int.toNat i_22 * 1)) 1 [vI i_22] fun h25 =>
 (QI (IntKind.wrap .i64 (i_22 - 1)) h25 fun I26 k_29 h30 m28 => (
 (sB (decide (k_29 >= 0))
 ((NB class_13.a fun b31 o32 => (Ib k_29 class_13.n /\
 (∃ x33, rI h30 ⟨b31, o32 + Int.toNat k_29 * 1, none⟩ x33 /\
 (NB class_13.a fun b34 o35 => (Ib i_22 class_13.n /\
 (∃ x36, rI h30 ⟨b34, o35 + Int.toNat i_22 * 1, none⟩ x36 /\
 (sB (x33 == x36)
 ((∃ x37 x38 x39 x40 x41 x42, aL0 h30 (aS h 0) x37 x38 x39 x40 x41 x42 /\
 (Fn Pz 180 #[.agg ⟨(L0 x37 x38 x39 x40 x41 x42)⟩, vS class_13, vI i_22, vI k_29] h30
 (fun v43 h45 => ∃ x44, iB v43 x44 /\
 (Sm [⟨b34, o35 + Int.toNat i_22 * 1, none⟩, ⟨b31, o32 + Int.toNat k_29 * 1, none⟩] h30 h45 /\
 (sB x44
 (((0 <= (i_22 : Int) /\ (i_22 : Int) < ((Int.toNat x16) : Nat)) /\
 (Wp h45 (aS h15 (0 + Int.toNat i_22 * 1)) 1 [vI k_29] fun h46 =>
 (∃ m47, m47 < m28 /\ I26 (IntKind.wrap .i64 (k_29 - 1)) h46 m47))))
 ((∃ m48, m48 < m28 /\ I26 (IntKind.wrap .i64 (k_29 - 1)) h45 m48))))))))
 ((∃ m49, m49 < m28 /\ I26 (IntKind.wrap .i64 (k_29 - 1)) h30 m49))))))))))
 ((sB changed_21
 ((∃ m50, m50 < m20 /\ I18 true (IntKind.wrap .i64 (i_22 + 1)) h30 m50))
 (((0 <= (i_22 : Int) /\ (i_22 : Int) < ((Int.toNat x16) : Nat)) /\
 (∃ x51, rI h30 (aS h15 (0 + Int.toNat i_22 * 1)) x51 /\
 (NB class_13.a fun b52 o53 => (Ib i_22 class_13.n /\
 (∃ x54, rI h30 ⟨b52, o53 + Int.toNat i_22 * 1, none⟩ x54 /\
 (∃ m55, m55 < m20 /\ I18 (x51 != x54) (IntKind.wrap .i64 (i_22 + 1)) h30 m55)))))))))))))))
 ((∃ m56, m56 < m12 /\ I10 ⟨(some (aS h15 0)), (Int.toNat x16), (Int.toNat x16)⟩ changed_21 h23 m56)))))))))
 (R (vS class_13) h15)))))))
theorem vc138 (p0_1 p0_2 p0_3 : Int) (p0_4 p0_5 p0_6 : Sl) (h : Heap) (R : Value -> Heap -> Prop) (H : W138 p0_1 p0_2 p0_3 p0_4 p0_5 p0_6 h R) : Fn Pz 138 #[.agg ⟨(L0 p0_1 p0_2 p0_3 p0_4 p0_5 p0_6)⟩] h R := fnI (A := (.s .z (.s .z (.s (.s .z (.b (.l [(3, .one (.slice)), (4, .one (.bool))] (.s .z (.b (.s .z (.s .z (.s (.s .z (.b (.l [(4, .one (.bool)), (6, .one (.int .i64))] (.s .z (.s (.b (.s .z (.s (.s .z (.b (.l [(7, .one (.int .i64))] .z))) .z))) .z))))) .z)))))))) .z)))) (by kernel_rfl) H

def W137 (p0 : Sl) (p1 : Int) (h : Heap) (R : Value -> Heap -> Prop) : Prop :=
 (QI 0 h fun I1 i_4 h5 m3 => (
 (sB (decide (i_4 < (p0.n : Int)))
 ((NB p0.a fun b6 o7 => (Ib i_4 p0.n /\
 (∃ x8, rI h5 ⟨b6, o7 + Int.toNat i_4 * 1, none⟩ x8 /\
 (sB (x8 == p1)
 (R (vI i_4) h5)
 ((∃ m9, m9 < m3 /\ I1 (IntKind.wrap .i64 (i_4 + 1)) h5 m9)))))))
 (R (vI (-1)) h5))))
theorem vc137 (p0 : Sl) (p1 : Int) (h : Heap) (R : Value -> Heap -> Prop) (H : W137 p0 p1 h R) : Fn Pz 137 #[vS p0, vI p1] h R := fnI (A := (.s .z (.s (.s .z (.b (.l [(5, .one (.int .i64))] .z))) .z))) (by kernel_rfl) H

def W76 (p0_1 p0_2 p0_3 : Int) (p0_4 p0_5 p0_6 : Sl) (h : Heap) (R : Value -> Heap -> Prop) : Prop :=
 (Wn h (L0 p0_1 p0_2 p0_3 p0_4 p0_5 p0_6) 26 fun h7 =>
 (Wn h7 [vI 0, vI 0, vI 0, .slice none 0 0, .slice none 0 0, .slice none 0 0] 26 fun h8 =>
 (∃ x9, rI h8 (aS h 2) x9 /\
 (Wn h8 [vI x9] 3 fun h10 =>
 (∃ x11, rI h10 (aS h 0) x11 /\
 (Wn h10 [vI 0, vI 0, vI 0, .slice none 0 0, .slice none 0 0, .slice none 0 0] 26 fun h12 =>
 (Wp h12 (aS h10 0) 6 [vI x11, vI 0, vI 0, .slice none 0 0, .slice none 0 0, .slice none 0 0] fun h13 =>
 (QSI ⟨(some (aS h8 0)), 1, 1⟩ 0 h13 fun I14 order_17 i_18 h19 m16 => (
 (sB (decide (i_18 < (order_17.n : Int)))
 ((NB order_17.a fun b20 o21 => (Ib i_18 order_17.n /\
 (∃ x22, rI h19 ⟨b20, o21 + Int.toNat i_18 * 1, none⟩ x22 /\
 (∃ x23, rS h19 (aS h10 3) x23 /\
 (∃ x24, rS h19 (aS h 3) x24 /\
 (NB x24.a fun b25 o26 => (Ib x22 x24.n /\
 (∃ x27, rB h19 ⟨b25, o26 + Int.toNat x22 * 1, none⟩ x27 /\
 (Wn h19 [.bool x27] 4 fun h28 =>
 (Sm [(aS h10 3)] h19 h28 /\
 (App Pz 22 22 (vS x23) (.slice (some (aS h19 0)) 1 1) h28 fun s29 h30 =>
 (Wp h30 (aS h10 3) 1 [vS s29] fun h31 =>
 (∃ x32 x33 x34 x35 x36 x37, aL0 h31 (aS h 0) x32 x33 x34 x35 x36 x37 /\
 (Fn Pz 62 #[.agg ⟨(L0 x32 x33 x34 x35 x36 x37)⟩, vI x22] h31
 (fun v38 h40 => ∃ x39, iS v38 x39 /\
 (∃ x41 x42 x43 x44 x45 x46, aL0 h40 (aS h 0) x41 x42 x43 x44 x45 x46 /\
 (Fn Pz 57 #[.agg ⟨(L0 x41 x42 x43 x44 x45 x46)⟩, vI x22] h40
 (fun v47 h49 => ∃ x48, iI v47 x48 /\
 (QSI order_17 0 h49 fun I50 order_53 k_54 h55 m52 => (
 (sB (decide (k_54 < (x39.n : Int)))
 ((∃ x56, rS h55 (aS h 4) x56 /\
 (NB x39.a fun b57 o58 => (Ib k_54 x39.n /\
 (∃ x59, rI h55 ⟨b57, o58 + Int.toNat k_54 * 1, none⟩ x59 /\
 (NB x56.a fun b60 o61 => (Ib x59 x56.n /\
 (∃ x62 x63 x64 x65 x66 x67, aL1 h55 ⟨b60, o61 + Int.toNat x59 * 6, none⟩ x62 x63 x64 x65 x66 x67 /\
 (Wn h55 [vI 0, .bool false, vI 0, vI 0, vI 0, .bool false] 81 fun h68 =>
 (Sm [⟨b60, o61 + Int.toNat x59 * 6, none⟩, ⟨b57, o58 + Int.toNat k_54 * 1, none⟩, (aS h 4)] h55 h68 /\
 (Wp h68 (aS h55 0) 6 (L1 x62 x63 x64 x65 x66 x67) fun h69 =>
 (∃ x70, rI h69 (aS h55 4) x70 /\
 (Fn Pz 137 #[vS order_53, vI x70] h69
 (fun v71 h73 => ∃ x72, iI v71 x72 /\
 (∃ J74 : Sl -> Int -> Heap -> Prop,
 ((sB (decide (x72 < 0))
 ((∃ x75, rI h73 (aS h55 4) x75 /\
 (Wn h73 [vI x75] 3 fun h76 =>
 (App Pz 49 49 (vS order_53) (.slice (some (aS h73 0)) 1 1) h76 fun s77 h78 =>
 (J74 s77 (order_53.n : Int) h78)))))
 ((J74 order_53 x72 h73)))) /\
 (∀ (_ : Env) (order_79 : Sl) (n_80 : Int) (h81 : Heap), J74 order_79 n_80 h81 ->
 (∃ J82 : Heap -> Prop,
 ((sB (decide (x48 >= 0))
 ((∃ x83, rS h81 (aS h 5) x83 /\
 (NB x83.a fun b84 o85 => (Ib x48 x83.n /\
 (∃ x86, rI h81 ⟨b84, o85 + Int.toNat x48 * 3 + 2, none⟩ x86 /\
 (NB x39.a fun b87 o88 => (Ib k_54 x39.n /\
 (∃ x89, rI h81 ⟨b87, o88 + Int.toNat k_54 * 1, none⟩ x89 /\
 (sB (x86 == x89)
 ((∃ x90, rS h81 (aS h10 5) x90 /\
 (∃ x91, rS h81 (aS h 5) x91 /\
 (NB x91.a fun b92 o93 => (Ib x48 x91.n /\
 (∃ x94, rI h81 ⟨b92, o93 + Int.toNat x48 * 3 + 1, none⟩ x94 /\
 (∃ x95, rS h81 (aS h10 4) x95 /\
 (Wn h81 [vI i_18, vI x94, vI (x95.n : Int)] 44 fun h96 =>
 (Sm [(aS h10 5)] h81 h96 /\
 (App Pz 24 24 (vS x90) (.slice (some (aS h81 0)) 1 1) h96 fun s97 h98 =>
 (Wp h98 (aS h10 5) 1 [vS s97] fun h99 =>
 (J82 h99))))))))))))
 ((J82 h81)))))))))))
 ((J82 h81)))) /\
 (∀ (_ : Env) (h100 : Heap), J82 h100 ->
 (∃ x101, rS h100 (aS h10 4) x101 /\
 (∃ x102, rB h100 (aS h55 1) x102 /\
 (∃ x103, rI h100 (aS h55 2) x103 /\
 (∃ x104, rI h100 (aS h55 3) x104 /\
 (∃ x105, rB h100 (aS h55 5) x105 /\
 (Wn h100 (L1 i_18 x102 x103 x104 n_80 x105) 81 fun h106 =>
 (App Pz 23 23 (vS x101) (.slice (some (aS h100 0)) 1 1) h106 fun s107 h108 =>
 (Wp h108 (aS h10 4) 1 [vS s107] fun h109 =>
 (∃ m110, m110 < m52 /\ I50 order_79 (IntKind.wrap .i64 (k_54 + 1)) h109 m110)))))))))))))))))))))))))))
 ((∃ m111, m111 < m16 /\ I14 order_53 (IntKind.wrap .i64 (i_18 + 1)) h55 m111))))))))))))))))))))))))
 ((Wp h19 (aS h10 1) 1 [vI (order_17.n : Int)] fun h112 =>
 (∃ x113 x114 x115 x116 x117 x118, aL0 h112 (aS h10 0) x113 x114 x115 x116 x117 x118 /\
 (Wp h112 (aS h7 0) 6 (L0 x113 x114 x115 x116 x117 x118) fun h119 =>
 (∃ x120 x121 x122 x123 x124 x125, aL0 h119 (aS h7 0) x120 x121 x122 x123 x124 x125 /\
 R (.agg ⟨(L0 x120 x121 x122 x123 x124 x125)⟩) h119)))))))))))))))
theorem vc76 (p0_1 p0_2 p0_3 : Int) (p0_4 p0_5 p0_6 : Sl) (h : Heap) (R : Value -> Heap -> Prop) (H : W76 p0_1 p0_2 p0_3 p0_4 p0_5 p0_6 h R) : Fn Pz 76 #[.agg ⟨(L0 p0_1 p0_2 p0_3 p0_4 p0_5 p0_6)⟩] h R := fnI (A := (.s .z (.s .z (.s .z (.s (.s .z (.b (.l [(3, .one (.slice)), (5, .one (.int .i64))] (.s .z (.s (.b (.s .z (.s .z (.s .z (.s .z (.s .z (.b (.l [(3, .one (.slice)), (9, .one (.int .i64))] (.s .z (.s (.b (.s .z (.s .z (.j [(3, .one (.slice)), (11, .one (.int .i64))] .z (.j [] .z .z))))) .z)))))))))) .z))))) .z))))) (by kernel_rfl) H

def W77 (p0_1 p0_2 p0_3 : Int) (p0_4 p0_5 p0_6 : Sl) (h : Heap) (R : Value -> Heap -> Prop) : Prop :=
 (Wn h (L0 p0_1 p0_2 p0_3 p0_4 p0_5 p0_6) 26 fun h7 =>
 (Wn h7 [vI 0, vI 0, vI 0, .slice none 0 0, .slice none 0 0, .slice none 0 0] 26 fun h8 =>
 (∃ x9 x10 x11 x12 x13 x14, aL0 h8 (aS h 0) x9 x10 x11 x12 x13 x14 /\
 (Fn Pz 138 #[.agg ⟨(L0 x9 x10 x11 x12 x13 x14)⟩] h8
 (fun v15 h17 => ∃ x16, iS v15 x16 /\
 (∃ x18 x19 x20 x21 x22 x23, aL0 h17 (aS h 0) x18 x19 x20 x21 x22 x23 /\
 (Wn h17 [vI 0, vI 0, vI 0, .slice none 0 0, .slice none 0 0, .slice none 0 0] 26 fun h24 =>
 (Wp h24 (aS h17 0) 6 (L0 x18 x19 x20 x21 x22 x23) fun h25 =>
 (∃ x26, rI h25 (aS h 2) x26 /\
 (NB x16.a fun b27 o28 => (Ib x26 x16.n /\
 (∃ x29, rI h25 ⟨b27, o28 + Int.toNat x26 * 1, none⟩ x29 /\
 (Wp h25 (aS h17 2) 1 [vI x29] fun h30 =>
 (Wp h30 (aS h17 4) 1 [.slice none 0 0] fun h31 =>
 (QI 0 h31 fun I32 i_35 h36 m34 => (
 (∃ x37, rS h36 (aS h 4) x37 /\
 (sB (decide (i_35 < (x37.n : Int)))
 ((∃ x38, rS h36 (aS h 4) x38 /\
 (NB x38.a fun b39 o40 => (Ib i_35 x38.n /\
 (∃ x41 x42 x43 x44 x45 x46, aL1 h36 ⟨b39, o40 + Int.toNat i_35 * 6, none⟩ x41 x42 x43 x44 x45 x46 /\
 (Wn h36 [vI 0, .bool false, vI 0, vI 0, vI 0, .bool false] 81 fun h47 =>
 (Wp h47 (aS h36 0) 6 (L1 x41 x42 x43 x44 x45 x46) fun h48 =>
 (∃ x49, rI h48 (aS h36 4) x49 /\
 (NB x16.a fun b50 o51 => (Ib x49 x16.n /\
 (∃ x52, rI h48 ⟨b50, o51 + Int.toNat x49 * 1, none⟩ x52 /\
 (Wp h48 (aS h36 4) 1 [vI x52] fun h53 =>
 (∃ x54, rS h53 (aS h17 4) x54 /\
 (∃ x55 x56 x57 x58 x59 x60, aL1 h53 (aS h36 0) x55 x56 x57 x58 x59 x60 /\
 (Wn h53 (L1 x55 x56 x57 x58 x59 x60) 81 fun h61 =>
 (App Pz 23 23 (vS x54) (.slice (some (aS h53 0)) 1 1) h61 fun s62 h63 =>
 (Wp h63 (aS h17 4) 1 [vS s62] fun h64 =>
 (∃ m65, m65 < m34 /\ I32 (IntKind.wrap .i64 (i_35 + 1)) h64 m65))))))))))))))))))
 ((∃ x66 x67 x68 x69 x70 x71, aL0 h36 (aS h17 0) x66 x67 x68 x69 x70 x71 /\
 (Fn Pz 76 #[.agg ⟨(L0 x66 x67 x68 x69 x70 x71)⟩] h36
 (fun v72 h79 => ∃ (x73 x74 x75 : Int) (x76 x77 x78 : Sl), v72 = .agg ⟨(L0 x73 x74 x75 x76 x77 x78)⟩ /\
 (Wp h79 (aS h7 0) 6 (L0 x73 x74 x75 x76 x77 x78) fun h80 =>
 (∃ x81 x82 x83 x84 x85 x86, aL0 h80 (aS h7 0) x81 x82 x83 x84 x85 x86 /\
 R (.agg ⟨(L0 x81 x82 x83 x84 x85 x86)⟩) h80))))))))))))))))))))))))
theorem vc77 (p0_1 p0_2 p0_3 : Int) (p0_4 p0_5 p0_6 : Sl) (h : Heap) (R : Value -> Heap -> Prop) (H : W77 p0_1 p0_2 p0_3 p0_4 p0_5 p0_6 h R) : Fn Pz 77 #[.agg ⟨(L0 p0_1 p0_2 p0_3 p0_4 p0_5 p0_6)⟩] h R := fnI (A := (.s .z (.s .z (.s .z (.s .z (.s .z (.s (.s .z (.b (.l [(5, .one (.int .i64))] .z))) .z))))))) (by kernel_rfl) H

def W9 (p0_1 p0_2 p0_3 : Int) (p0_4 p0_5 p0_6 : Sl) (h : Heap) (R : Value -> Heap -> Prop) : Prop :=
 (Wn h (L0 p0_1 p0_2 p0_3 p0_4 p0_5 p0_6) 26 fun h7 =>
 (Fn Pz 12 #[] h7
 (fun v8 h10 => ∃ x9, iB v8 x9 /\
 (sB (!x9)
 (R (.bool false) h10)
 ((∃ x11 x12 x13 x14 x15 x16, aL0 h10 (aS h 0) x11 x12 x13 x14 x15 x16 /\
 (Fn Pz 13 #[.agg ⟨(L0 x11 x12 x13 x14 x15 x16)⟩] h10
 (fun v17 h19 => ∃ x18, iB v17 x18 /\
 (sB (!x18)
 (R (.bool true) h19)
 ((∃ x20 x21 x22 x23 x24 x25, aL0 h19 (aS h 0) x20 x21 x22 x23 x24 x25 /\
 (Fn Pz 38 #[.agg ⟨(L0 x20 x21 x22 x23 x24 x25)⟩] h19
 (fun v26 h34 => ∃ (x27 x28 x29 : Int) (x30 x31 x32 : Sl) (x33 : Int), v26 = .tuple ⟨[.agg ⟨(L0 x27 x28 x29 x30 x31 x32)⟩, vI x33]⟩ /\
 (Wn h34 [vI 0, vI 0, vI 0, .slice none 0 0, .slice none 0 0, .slice none 0 0] 26 fun h35 =>
 (Wp h35 (aS h34 0) 6 (L0 x27 x28 x29 x30 x31 x32) fun h36 =>
 (∃ x37 x38 x39 x40 x41 x42, aL0 h36 (aS h 0) x37 x38 x39 x40 x41 x42 /\
 (Fn Pz 39 #[.agg ⟨(L0 x37 x38 x39 x40 x41 x42)⟩] h36
 (fun v43 h51 => ∃ (x44 x45 x46 : Int) (x47 x48 x49 : Sl) (x50 : Int), v43 = .tuple ⟨[.agg ⟨(L0 x44 x45 x46 x47 x48 x49)⟩, vI x50]⟩ /\
 (Wn h51 [vI 0, vI 0, vI 0, .slice none 0 0, .slice none 0 0, .slice none 0 0] 26 fun h52 =>
 (Wp h52 (aS h51 0) 6 (L0 x44 x45 x46 x47 x48 x49) fun h53 =>
 (∃ x54 x55 x56 x57 x58 x59, aL0 h53 (aS h 0) x54 x55 x56 x57 x58 x59 /\
 (Fn Pz 37 #[.agg ⟨(L0 x54 x55 x56 x57 x58 x59)⟩] h53
 (fun v60 h68 => ∃ (x61 x62 x63 : Int) (x64 x65 x66 : Sl) (x67 : Int), v60 = .tuple ⟨[.agg ⟨(L0 x61 x62 x63 x64 x65 x66)⟩, vI x67]⟩ /\
 (Wn h68 [vI 0, vI 0, vI 0, .slice none 0 0, .slice none 0 0, .slice none 0 0] 26 fun h69 =>
 (Wp h69 (aS h68 0) 6 (L0 x61 x62 x63 x64 x65 x66) fun h70 =>
 (∃ x71 x72 x73 x74 x75 x76, aL0 h70 (aS h 0) x71 x72 x73 x74 x75 x76 /\
 (Fn Pz 40 #[.agg ⟨(L0 x71 x72 x73 x74 x75 x76)⟩] h70
 (fun v77 h85 => ∃ (x78 x79 x80 : Int) (x81 x82 x83 : Sl) (x84 : Int), v77 = .tuple ⟨[.agg ⟨(L0 x78 x79 x80 x81 x82 x83)⟩, vI x84]⟩ /\
 (Wn h85 [vI 0, vI 0, vI 0, .slice none 0 0, .slice none 0 0, .slice none 0 0] 26 fun h86 =>
 (Wp h86 (aS h85 0) 6 (L0 x78 x79 x80 x81 x82 x83) fun h87 =>
 (sB (x33 == x50)
 ((sB (x67 == x84)
 ((∃ x88 x89 x90 x91 x92 x93, aL0 h87 (aS h34 0) x88 x89 x90 x91 x92 x93 /\
 (∃ x94 x95 x96 x97 x98 x99, aL0 h87 (aS h51 0) x94 x95 x96 x97 x98 x99 /\
 (Fn Pz 17 #[.agg ⟨(L0 x88 x89 x90 x91 x92 x93)⟩, .agg ⟨(L0 x94 x95 x96 x97 x98 x99)⟩] h87
 (fun v100 h102 => ∃ x101, iB v100 x101 /\
 (sB x101
 ((∃ x103 x104 x105 x106 x107 x108, aL0 h102 (aS h68 0) x103 x104 x105 x106 x107 x108 /\
 (∃ x109 x110 x111 x112 x113 x114, aL0 h102 (aS h85 0) x109 x110 x111 x112 x113 x114 /\
 (Fn Pz 17 #[.agg ⟨(L0 x103 x104 x105 x106 x107 x108)⟩, .agg ⟨(L0 x109 x110 x111 x112 x113 x114)⟩] h102
 (fun v115 h117 => ∃ x116, iB v115 x116 /\
 (sB x116
 ((sB (x33 != 0)
 (R (.bool true) h117)
 ((∃ x118 x119 x120 x121 x122 x123, aL0 h117 (aS h34 0) x118 x119 x120 x121 x122 x123 /\
 (Fn Pz 23 #[.agg ⟨(L0 x118 x119 x120 x121 x122 x123)⟩] h117
 (fun v124 h126 => ∃ x125, iB v124 x125 /\
 (sB x125
 ((∃ x127 x128 x129 x130 x131 x132, aL0 h126 (aS h68 0) x127 x128 x129 x130 x131 x132 /\
 (Fn Pz 23 #[.agg ⟨(L0 x127 x128 x129 x130 x131 x132)⟩] h126
 (fun v133 h135 => ∃ x134, iB v133 x134 /\
 R (.bool x134) h135))))
 (R (.bool false) h126))))))))
 (R (.bool false) h117)))))))
 (R (.bool false) h102)))))))
 (R (.bool false) h87)))
 (R (.bool false) h87))))))))))))))))))))))))))))))))
theorem vc9 (p0_1 p0_2 p0_3 : Int) (p0_4 p0_5 p0_6 : Sl) (h : Heap) (R : Value -> Heap -> Prop) (H : W9 p0_1 p0_2 p0_3 p0_4 p0_5 p0_6 h R) : Fn Pz 9 #[.agg ⟨(L0 p0_1 p0_2 p0_3 p0_4 p0_5 p0_6)⟩] h R := fnI (A := .z) (by kernel_rfl) H

end Go.VC
end

section
/- Contracts: the reference's index and canonical machine. (Numbers of layer 26's seat.) -/
namespace Go.VC
open Go.Proofs Go.LexS Go.Maps
theorem idxF_first {K : Type} [DecidableEq K] : ∀ {L : List K} {i : Nat} {c : K}, L[i]? = some c -> c ∉ L.take i -> idxF L c = i
 | [], _, _, h, _ => by simp at h
 | a :: L, 0, c, h, _ => by
  rw [List.getElem?_cons_zero] at h
  rw [idxF, if_pos (Option.some.inj h)]
 | a :: L, i + 1, c, h, hn => by
  rw [List.getElem?_cons_succ] at h
  rw [List.take_succ_cons, Yr, not_or] at hn
  rw [idxF, if_neg fun e => hn.1 e.symm, idxF_first h hn.2]
theorem idxF_app {Q : List Nat} {c : Nat} (h : c ∉ Q) : idxF (Q ++ [c]) c = Q.length :=
 idxF_first (by rw [Yyc (Nat.le_refl _), Nat.sub_self]; rfl) (by rw [List.take_append_of_le_length (Nat.le_refl _), Yye]; exact h)
theorem idxF_range {n s : Nat} (h : s < n) : idxF (List.range n) s = s := by
 have h1 := idxF_get (List.mem_range.2 h)
 have h2 := idxF_lt (List.mem_range.2 h)
 rw [Yyd] at h2
 rw [Yyb h2] at h1
 exact Option.some.inj h1
theorem index137 (q : Sl) (L : List Nat) (c : Nat) (h : Heap) (hR : Rw h 1 q ((natI L).map inC)) (hl : L.length <= 1048576) :
  Fn Pz 137 #[.slice q.a q.n q.c, .int .i64 (c : Nat)] h fun v h' => v = .int .i64 (if c ∈ L then (idxF L c : Int) else -1) /\ h' = h := by
 apply vc137 q c; unfold W137
 have hn := hR.ln
 rw [show (natI L).length = L.length from Yc _] at hn
 refine ⟨fun x h' μ => ∃ i : Nat, x = (i : Int) /\ μ = L.length - i /\ i <= L.length /\ h' = h /\ c ∉ L.take i, ⟨_, 0, rfl, rfl, Nat.zero_le _, rfl, by rw [Yyk]; exact List.not_mem_nil⟩, ?_⟩
 rintro - _ h5 μ ⟨i, rfl, rfl, hi, rfl, hc⟩
 refine sBi (fun c1 => ?_) (fun c1 => ?_)
 ·
  refine hR.nbI (by omega) (by omega) fun b6 o7 d g6 t6 => ?_
  rw [Ys] at g6
  obtain ⟨c', gc, rfl⟩ := natI_get g6
  refine ⟨_, t6.hd, sBe (fun c2 => ?_) (fun c2 => ?_)⟩
  ·
   have e : c' = c := by omega
   subst e
   rw [if_pos (Yb gc), idxF_first gc hc]
   exact ⟨rfl, rfl⟩
  ·
   refine ⟨_, (show L.length - (i + 1) < L.length - i by omega), i + 1, by rw [w64 (by omega) (by omega)]; omega, rfl, by omega, rfl, fun hm => ?_⟩
   rw [take_snoc gc, Yk, Ye] at hm
   rcases hm with hm | hm
   ·
    exact hc hm
   ·
    omega
 ·
  have hiL : i = L.length := by omega
  subst hiL
  rw [Yye] at hc
  rw [if_neg hc]
  exact ⟨rfl, rfl⟩
theorem limI_some {m : Mch} {s : Int} {i : Nat} (h : limI m.li s = some i) : ∃ t, m.li[i]? = some t /\ limT m s = some t := by
 unfold limI at h
 rw [List.findIdx?_eq_some_iff_getElem] at h
 obtain ⟨hi, h1, h2⟩ := h
 refine ⟨m.li[i], Yi hi, ?_⟩
 unfold limT
 rw [List.find?_eq_some_iff_getElem]
 exact ⟨h1, i, hi, rfl, fun j hj => by have := h2 j hj; simpa using this⟩
theorem limI_none {m : Mch} {s : Int} (h : limI m.li s = none) : limT m s = none := by
 unfold limI at h
 rw [List.findIdx?_eq_none_iff] at h
 exact List.find?_eq_none.2 fun t ht => by simpa using h t ht
def caA (xb ob pb : Nat) (m : Mch) (sf sm sl q ofn omv oli : Sl) (Q : List Nat) (fin : List Bool) (mv : List Mv) (li : List To) : List It :=
 [.blk xb [.int .i64 m.role, .int .i64 0, .int .i64 0, .slice ofn.a ofn.n ofn.c, .slice omv.a omv.n omv.c, .slice oli.a oli.n oli.c] 26, .sl q 3 1 ((natI Q).map inC), .sl ofn 4 1 (fin.map bC), .sl omv 81 6 (mv.map Mv.cs), .sl oli 44 3 (li.map To.cs), .blk ob m0 26, .blk pb (mC m sf sm sl) 26]
set_option maxHeartbeats 8000000 in
theorem canonical76 (m : Mch) (sf sm sl : Sl) (h : Heap) (hM : MI h m sf sm sl) (hV : WM m) :
  Fn Pz 76 #[.agg ⟨mC m sf sm sl⟩] h fun v h' => ∃ sf' sm' sl' : Sl, v = .agg ⟨mC (canN m) sf' sm' sl'⟩ /\ St h h' (mL (canN m) sf' sm' sl') := by
 apply vc76 m.role m.n m.s sf sm sl; unfold W76
 have hn := hV.n.n
 have hms := hV.n.s
 have hfl := hV.n.fl
 have hml := hV.n.ml
 have hll := li_len hV
 have hmn := hM.pm.ln
 have hfn := hM.pf.ln
 have hln := hM.pl.ln
 have hsn : ((m.s.toNat : Nat) : Int) = m.s := by omega
 refine (St.refl h).newb fun h7 hs => ?_
 refine hs.newb fun h8 hs => ?_
 refine ⟨m.s, hs.rd 1 rfl (i := 2) rfl, ?_⟩
 refine hs.newb fun h10 hs => ?_
 have hs := hs.blkS 1 1 ((natI [m.s.toNat]).map inC) (by show [Value.int .i64 m.s] = [Value.int .i64 ((m.s.toNat : Nat) : Int)]; rw [hsn]) (inrows _) rfl (by decide)
 refine ⟨m.role, hs.rd 2 rfl (i := 0) rfl, ?_⟩
 refine hs.newput (vs := [.int .i64 m.role, .int .i64 0, .int .i64 0, .slice none 0 0, .slice none 0 0, .slice none 0 0]) rfl rfl fun h13 hs => ?_
 have hs : St h h13 (caA h10.size h7.size h.size m sf sm sl ⟨some ⟨h8.size, 0, none⟩, 1, 1⟩ ⟨none, 0, 0⟩ ⟨none, 0, 0⟩ ⟨none, 0, 0⟩ [m.s.toNat] [] [] []) :=
  (((hs.nil_ 44 3).nil_ 81 6).nil_ 4 1).perm (List.Perm.append_right [_, _] (List.perm_append_comm (l₁ := [_, _, _]) (l₂ := [_, _])))
 have hq0 : QOk [m.s.toNat] m.n.toNat := ⟨by simp, fun c hc => by rw [Ye] at hc; omega⟩
 refine ⟨fun q x h' μ => ∃ (i : Nat) (ofn omv oli : Sl) (Q : List Nat) (fin : List Bool) (mv : List Mv) (li : List To), x = (i : Int) /\ μ = m.n.toNat - i /\ i <= Q.length /\
   St h h' (caA h10.size h7.size h.size m sf sm sl q ofn omv oli Q fin mv li) /\ QOk Q m.n.toNat /\ mv.length <= i * 400 /\ li.length <= i * 400 /\ fin.length = i /\ minN (srtM m) (List.range m.n.toNat) (202 - i) i Q fin mv li = canN m,
   ⟨_, 0, _, _, _, _, _, _, _, rfl, rfl, by omega, hs, hq0, by decide, by decide, rfl, rfl⟩, ?_⟩
 clear hs hq0
 rintro - q _ h19 μ ⟨i, ofn, omv, oli, Q, fin, mv, li, rfl, rfl, hiQ, hs, hQ, hmvl, hlil, hfinl, hmin⟩
 have hqn := (hs.rows 1 (s := q) (cs := inC) rfl (by omega)).ln
 rw [show (natI Q).length = Q.length from Yc _] at hqn
 have hQl := hQ.le
 refine sBi (fun c4 => ?_) (fun c4 => ?_)
 ·
  obtain ⟨s, hsQ⟩ := get_some (l := Q) (i := i) (by omega)
  have hsb := hQ.lt s (Yb hsQ)
  have hiQ1 : i < Q.length /\ Q.length <= m.n.toNat := by omega
  refine (hs.rows 1 (s := q) (cs := inC) rfl (by omega)).nbI (by omega) (by omega) fun b20 o21 d20 g20 t20 => ?_
  rw [Ys] at g20
  obtain ⟨s', gc', rfl⟩ := natI_get g20
  rw [hsQ] at gc'; cases gc'
  refine ⟨_, t20.hd, ofn, hs.rd 0 rfl (i := 3) rfl, sf, hs.rd 6 rfl (i := 3) rfl, ?_⟩
  rw [show 202 - i = (202 - (i + 1)) + 1 by omega, minN, hsQ] at hmin
  replace hmin : minN (srtM m) (List.range m.n.toNat) (202 - (i + 1)) (i + 1) ((outM (srtM m) (idxF (List.range m.n.toNat) s)).foldl (minX (srtM m) (List.range m.n.toNat) i (mget (limM (srtM m).li) (idxF (List.range m.n.toNat) s : Nat))) (Q, mv, li)).1 (fin ++ [m.fin.getD (idxF (List.range m.n.toNat) s) false])
   ((outM (srtM m) (idxF (List.range m.n.toNat) s)).foldl (minX (srtM m) (List.range m.n.toNat) i (mget (limM (srtM m).li) (idxF (List.range m.n.toNat) s : Nat))) (Q, mv, li)).2.1 ((outM (srtM m) (idxF (List.range m.n.toNat) s)).foldl (minX (srtM m) (List.range m.n.toNat) i (mget (limM (srtM m).li) (idxF (List.range m.n.toNat) s : Nat))) (Q, mv, li)).2.2 = canN m := hmin
  rw [idxF_range hsb, outM_srt hsb] at hmin
  have hofn := (hs.rows 2 (s := ofn) (cs := bC) rfl (by omega)).ln
  refine (hM.pf.rw.ext hs.ext).nbI (by omega) (by omega) fun b25 o26 bf g25 t25 => ?_
  rw [Ys] at g25
  replace g25 : m.fin[s]? = some bf := g25
  rw [getD_some g25] at hmin
  refine ⟨_, t25.hd, ?_⟩
  refine hs.newbE fun h28 E28 hs => ⟨E28.sm, ?_⟩
  refine hs.appended 3 (rows := fin.map bC) rfl app30 (m := 1) (news := [bC bf]) (hs.at 0 rfl (n := 1) rfl) rfl (fun r hr => by rw [Ye] at hr; rw [hr]; rfl) rfl (by omega) (by simp only [maxLen]; omega) fun s29 h30 n29 hs => ?_
  refine hs.put 1 rfl (o := 3) (vs := [.slice s29.a s29.n s29.c]) rfl (show 4 <= 6 by decide) fun h31 hs => ?_
  have hs : St h h31 (caA h10.size h7.size h.size m sf sm sl q s29 omv oli Q (fin ++ [bf]) mv li) := by
   unfold caA
   rw [Ym (l₁ := fin)]
   exact hs.drop 1
  refine ⟨_, _, _, sf, sm, sl, hs.at 6 rfl (o := 0) (n := 6) rfl, ?_⟩
  refine (refOut62S m sf sm sl s h31 (hM.ext hs.ext)).mono ?_
  rintro _ h40 ⟨r, O, rfl, hO, hP, hSo⟩
  have hs : St h h40 (.sl r 3 1 ((natI O).map inC) :: caA h10.size h7.size h.size m sf sm sl q s29 omv oli Q (fin ++ [bf]) mv li) := (hs.join hO).perm (List.perm_append_comm (l₂ := [_]))
  clear hO
  have hS : mvS m (s : Int) = O := mvS_eq hV.d hP hSo
  have hrn := (hs.rows 0 (s := r) (cs := inC) rfl (by omega)).ln
  rw [show (natI O).length = O.length from Yc _] at hrn
  have hrl : (rwS m s).length = O.length := by rw [rwS_len, hS]
  have hSl : O.length <= 400 := by
   rw [hP.length_eq]
   unfold outIx
   exact Nat.le_trans (List.length_filter_le _ _) (by rw [Yyd]; exact hml)
  refine ⟨r, rfl, _, _, _, sf, sm, sl, hs.at 7 rfl (o := 0) (n := 6) rfl, ?_⟩
  refine (limit48 m sf sm sl s h40 (hM.ext hs.ext)).mono ?_
  rintro _ h49 ⟨rfl, E49⟩
  have hs := hs.step E49
  generalize hlo : limI m.li (s : Int) = lo
  refine ⟨_, rfl, ?_⟩
  refine ⟨fun q x h' μ => ∃ (j : Nat) (omv oli : Sl) (Q2 : List Nat) (mv2 : List Mv) (li2 : List To), x = (j : Int) /\ μ = O.length - j /\ j <= O.length /\
    St h h' (.sl r 3 1 ((natI O).map inC) :: caA h10.size h7.size h.size m sf sm sl q s29 omv oli Q2 (fin ++ [bf]) mv2 li2) /\ QOk Q2 m.n.toNat /\ mv2.length <= mv.length + j /\ li2.length <= li.length + j /\ Q.length <= Q2.length /\ ((rwS m s).take j).foldl (minX (srtM m) (List.range m.n.toNat) i (mget (limM (srtM m).li) (s : Nat))) (Q, mv, li) = (Q2, mv2, li2),
    ⟨_, 0, omv, oli, Q, mv, li, rfl, rfl, by omega, hs, hQ, by omega, by omega, by omega, rfl⟩, ?_⟩
  clear hs hQ hqn hofn hQl c4
  rintro - q2 _ h55 μ ⟨j, omv2, oli2, Q2, mv2, li2, rfl, rfl, hj, hs, hQ, hmv2, hli2, hQ2, hfold⟩
  have hqn2 := (hs.rows 2 (s := q2) (cs := inC) rfl (by omega)).ln
  rw [show (natI Q2).length = Q2.length from Yc _] at hqn2
  have hQ2l := hQ.le
  refine sBi (fun c5 => ?_) (fun c5 => ?_)
  ·
   obtain ⟨jn, hjn⟩ := get_some (l := O) (i := j) (by omega)
   obtain ⟨x, hx, hxf⟩ := (mvS_ok m (s : Int) jn).1 (by rw [hS]; exact Yb hjn)
   have hxl := (Ya.1 hx).1
   have hxr := hV.n.mv x (Yb hx)
   have hrj : (rwS m s)[j]? = some x := rwS_get (by rw [hS]; exact hjn) hx
   have hxt : ((x.t.toNat : Nat) : Int) = x.t := by omega
   have hxn : x.t.toNat < m.n.toNat := by omega
   refine ⟨sm, hs.rd 7 rfl (i := 4) rfl, ?_⟩
   refine (hs.rows 0 (s := r) (cs := inC) rfl (by omega)).nbI (by omega) (by omega) fun b57 o58 d gd t57 => ?_
   replace gd : (natI O)[j]? = some d := gd
   obtain ⟨jn', hjn', rfl⟩ := natI_get gd
   rw [hjn] at hjn'; cases hjn'
   refine ⟨_, t57.hd, ?_⟩
   refine (hM.pm.rw.ext hs.ext).nbI (by omega) (by omega) fun b60 o61 x' gx t60 => ?_
   replace gx : m.mv[jn]? = some x' := gx
   rw [hx] at gx; cases gx
   refine ⟨_, _, _, _, _, _, t60, ?_⟩
   refine hs.newbE fun h68 E68 hs => ⟨E68.sm, ?_⟩
   refine hs.put 0 rfl (o := 0) (vs := x.cs) rfl (show 6 <= 6 by decide) fun h69 hs => ?_
   have hs : St h h69 (.blk h55.size x.cs 81 :: .sl r 3 1 ((natI O).map inC) :: caA h10.size h7.size h.size m sf sm sl q2 s29 omv2 oli2 Q2 (fin ++ [bf]) mv2 li2) := hs
   refine ⟨_, hs.rd 0 rfl (i := 4) rfl, ?_⟩
   have hix := index137 q2 Q2 x.t.toNat h69 (hs.rows 3 (s := q2) (cs := inC) rfl (by omega)) (by omega)
   rw [hxt] at hix
   refine hix.mono ?_
   rintro _ h73 ⟨rfl, rfl⟩
   refine ⟨_, rfl, ?_⟩
   refine ⟨fun q' n' h' => n' = ((idxF (addQ Q2 x.t.toNat) x.t.toNat : Nat) : Int) /\ St h h' (.blk h55.size x.cs 81 :: .sl r 3 1 ((natI O).map inC) :: caA h10.size h7.size h.size m sf sm sl q' s29 omv2 oli2 (addQ Q2 x.t.toNat) (fin ++ [bf]) mv2 li2), ?_, ?_⟩
   ·
    by_cases hm : x.t.toNat ∈ Q2
    ·
     have ea : addQ Q2 x.t.toNat = Q2 := by unfold addQ; rw [if_pos hm]
     rw [if_pos hm, ea]
     refine sB_f (decide_eq_false (by omega)) ?_
     exact ⟨rfl, hs⟩
    ·
     have ea : addQ Q2 x.t.toNat = Q2 ++ [x.t.toNat] := by unfold addQ; rw [if_neg hm]
     rw [if_neg hm, ea]
     refine sB_t (decide_eq_true (by decide)) ?_
     refine ⟨_, hs.rd 0 rfl (i := 4) rfl, ?_⟩
     refine hs.app 3 rfl app42 (m := 1) [[.int .i64 x.t]] rfl rfl (by simp) rfl (by omega) (by simp only [maxLen]; omega) fun s77 h78 n77 hs => ?_
     refine ⟨by rw [idxF_app hm]; omega, ?_⟩
     unfold caA
     rw [natI_snoc, Ym (l₁ := natI Q2), show List.map inC [((x.t.toNat : Nat) : Int)] = [[.int .i64 x.t]] from by rw [hxt]; rfl]
     exact hs
   ·
    rintro - q3 n3 h81 ⟨rfl, hs⟩
    have hmx := minX_tm hV (List.range m.n.toNat) i s (Q2, mv2, li2) x
    rw [getD_some (Yyb hxn)] at hmx
    have homv := (hs.rows 5 (s := omv2) (cs := Mv.cs) rfl (by omega)).ln
    have holi := (hs.rows 6 (s := oli2) (cs := To.cs) rfl (by omega)).ln
    replace hmx : minX (srtM m) (List.range m.n.toNat) i (mget (limM (srtM m).li) (s : Int)) (Q2, mv2, li2) x = (addQ Q2 x.t.toNat, mv2 ++ [⟨(i : Nat), x.send, x.peer, x.label, (idxF (addQ Q2 x.t.toNat) x.t.toNat : Nat), x.ag⟩], li2 ++ if 0 < tmK m s /\ x.ev = tmE m s then [⟨(i : Nat), tmK m s, (mv2.length : Nat)⟩] else []) := hmx
    have hlm2 := (minX_len (srtM m) (List.range m.n.toNat) i (mget (limM (srtM m).li) (s : Int)) (Q2, mv2, li2) x).2
    rw [hmx] at hlm2
    generalize hLI : (li2 ++ if 0 < tmK m s /\ x.ev = tmE m s then [⟨(i : Nat), tmK m s, (mv2.length : Nat)⟩] else []) = LI at *
    replace hlm2 : LI.length <= li2.length + 1 := hlm2
    refine ⟨fun h' => ∃ oli', St h h' (.blk h55.size x.cs 81 :: .sl r 3 1 ((natI O).map inC) :: caA h10.size h7.size h.size m sf sm sl q3 s29 omv2 oli' (addQ Q2 x.t.toNat) (fin ++ [bf]) mv2 LI), ?_, ?_⟩
    ·
     have hJ : ∀ {h' : Heap}, St h h' (.blk h55.size x.cs 81 :: .sl r 3 1 ((natI O).map inC) :: caA h10.size h7.size h.size m sf sm sl q3 s29 omv2 oli2 (addQ Q2 x.t.toNat) (fin ++ [bf]) mv2 li2) -> ¬ (0 < tmK m s /\ x.ev = tmE m s) -> ∃ oli', St h h' (.blk h55.size x.cs 81 :: .sl r 3 1 ((natI O).map inC) :: caA h10.size h7.size h.size m sf sm sl q3 s29 omv2 oli' (addQ Q2 x.t.toNat) (fin ++ [bf]) mv2 LI) := fun {h'} hs e => by
      rw [if_neg e, Yw] at hLI
      rw [<- hLI]; exact ⟨oli2, hs⟩
     cases lo with
     | none =>
      refine sB_f (decide_eq_false (show ¬ ((-1 : Int) >= 0) by omega)) (hJ hs fun e => ?_)
      have : tmK m s = 0 := by unfold tmK; rw [limI_none hlo]
      omega
     | some ti =>
      obtain ⟨t, hti, hlt⟩ := limI_some hlo
      have htl := (Ya.1 hti).1
      obtain ⟨h0, y, hy, hyf, _, _⟩ := (hV.t ti t hti).e
      have htk := (hV.t ti t hti).k
      have htK : tmK m s = t.k := by unfold tmK; rw [hlt]
      have htE : tmE m s = y.ev := by unfold tmE; rw [hlt]; exact evI_of hy
      have hts := (limT_mem hlt).2
      refine sB_t (decide_eq_true (show ((ti : Nat) : Int) >= 0 by omega)) ?_
      refine ⟨sl, hs.rd 8 rfl (i := 5) rfl, ?_⟩
      refine (hM.pl.rw.ext hs.ext).nbI (by show (0 : Int) <= (ti : Nat); omega) (by show ((ti : Nat) : Int) < (sl.n : Nat); omega) fun b84 o85 t' g84 t84 => ?_
      replace g84 : m.li[ti]? = some t' := g84
      rw [hti] at g84; cases g84
      refine ⟨t.e, t84.nth 2 rfl, ?_⟩
      refine (hs.rows 1 (s := r) (cs := inC) rfl (by omega)).nbI (by omega) (by omega) fun b87 o88 d gd t87 => ?_
      replace gd : (natI O)[j]? = some d := gd
      obtain ⟨jn', hjn', rfl⟩ := natI_get gd
      rw [hjn] at hjn'; cases hjn'
      refine ⟨_, t87.hd, sBe (fun c6 => ?_) (fun c6 => hJ hs fun e => ?_)⟩
      ·
       have e : t.e.toNat = jn := by omega
       rw [e, hx] at hy; cases hy
       refine ⟨oli2, hs.rd 2 rfl (i := 5) rfl, sl, hs.rd 8 rfl (i := 5) rfl, ?_⟩
       refine (hM.pl.rw.ext hs.ext).nbI (by show (0 : Int) <= (ti : Nat); omega) (by show ((ti : Nat) : Int) < (sl.n : Nat); omega) fun b92 o93 t' g92 t92 => ?_
       replace g92 : m.li[ti]? = some t' := g92
       rw [hti] at g92; cases g92
       refine ⟨t.k, t92.nth 1 rfl, omv2, hs.rd 2 rfl (i := 4) rfl, ?_⟩
       refine hs.newbE fun h96 E96 hs => ⟨E96.sm, ?_⟩
       refine hs.appended 7 (rows := li2.map To.cs) rfl app25 (m := 1) (news := [To.cs ⟨(i : Nat), t.k, (omv2.n : Nat)⟩]) (hs.at 0 rfl (n := 3) rfl) rfl (fun r hr => by rw [Ye] at hr; rw [hr]; rfl) rfl (by omega) (by simp only [maxLen]; omega) fun s97 h98 n97 hs => ?_
       refine hs.put 3 rfl (o := 5) (vs := [.slice s97.a s97.n s97.c]) rfl (show 6 <= 6 by decide) fun h99 hs => ?_
       refine ⟨s97, ?_⟩
       rw [if_pos ⟨by omega, htE.symm⟩, htK, <- homv] at hLI
       rw [<- hLI]
       unfold caA
       rw [Ym (l₁ := li2)]
       exact hs.drop 1
      ·
       rw [htE] at e
       have hne : t.e.toNat ≠ jn := by omega
       exact (hV.d t.e.toNat jn y x hy hx hne (by rw [hyf, hts, hxf])).1 e.2.symm
    ·
     rintro - h100 ⟨oli', hs⟩
     refine ⟨omv2, hs.rd 2 rfl (i := 4) rfl, _, hs.rd 0 rfl (i := 1) rfl, _, hs.rd 0 rfl (i := 2) rfl, _, hs.rd 0 rfl (i := 3) rfl, _, hs.rd 0 rfl (i := 5) rfl, ?_⟩
     refine hs.app 5 rfl app31 (m := 1) [Mv.cs ⟨(i : Nat), x.send, x.peer, x.label, (idxF (addQ Q2 x.t.toNat) x.t.toNat : Nat), x.ag⟩] rfl rfl (fun r hr => by rw [Ye] at hr; rw [hr]; rfl) rfl (by omega) (by simp only [maxLen]; omega) fun s107 h108 n107 hs => ?_
     refine hs.put 2 rfl (o := 4) (vs := [.slice s107.a s107.n s107.c]) rfl (show 5 <= 6 by decide) fun h109 hs => ?_
     have hlm : (mv2 ++ [(⟨(i : Nat), x.send, x.peer, x.label, (idxF (addQ Q2 x.t.toNat) x.t.toNat : Nat), x.ag⟩ : Mv)]).length = mv2.length + 1 := by simp
     refine ⟨_, (show O.length - (j + 1) < O.length - j by omega), j + 1, s107, oli', addQ Q2 x.t.toNat, mv2 ++ [⟨(i : Nat), x.send, x.peer, x.label, (idxF (addQ Q2 x.t.toNat) x.t.toNat : Nat), x.ag⟩], LI, by rw [w64 (by omega) (by omega)]; omega, rfl, by omega, ?_, hQ.add hxn, by omega, by omega, Nat.le_trans hQ2 addQ_len, ?_⟩
     ·
      unfold caA
      rw [Ym (l₁ := mv2)]
      exact hs.drop 1
     ·
      rw [foldl_snoc hrj, hfold]
      exact hmx
  ·
   have hjn : j = (rwS m s).length := by omega
   subst hjn
   rw [Yye] at hfold
   rw [hfold] at hmin
   exact ⟨_, (show m.n.toNat - (i + 1) < m.n.toNat - i by omega), i + 1, s29, omv2, oli2, Q2, fin ++ [bf], mv2, li2, by rw [w64 (by omega) (by omega)]; omega, rfl, by omega, hs.drop 1, hQ, by omega, by omega, by rw [Yh, hfinl]; rfl, hmin⟩
 ·
  have hiQ : i = Q.length := by omega
  rw [show 202 - i = (202 - (i + 1)) + 1 by omega, minN, Yl (by omega)] at hmin
  replace hmin : (⟨m.role, (Q.length : Nat), 0, fin, mv, li⟩ : Mch) = canN m := hmin
  refine hs.put 0 rfl (o := 1) (vs := [.int .i64 (q.n : Nat)]) rfl (show 2 <= 6 by decide) fun h112 hs => ?_
  refine ⟨_, _, _, ofn, omv, oli, hs.at 0 rfl (n := 6) rfl, ?_⟩
  refine hs.put 5 rfl (o := 0) (vs := [.int .i64 m.role, .int .i64 (q.n : Nat), .int .i64 0, .slice ofn.a ofn.n ofn.c, .slice omv.a omv.n omv.c, .slice oli.a oli.n oli.c]) rfl (show 6 <= 6 by decide) fun h119 hs => ?_
  refine ⟨_, _, _, ofn, omv, oli, hs.at 5 rfl (n := 6) rfl, ?_⟩
  refine ⟨ofn, omv, oli, ?_, ?_⟩
  ·
   rw [<- hmin, hqn]; rfl
  ·
   rw [<- hmin]
   exact hs.sub (.cons _ (.cons _ (.cons_cons _ (.cons_cons _ (.cons_cons _ (.cons _ (.cons _ (List.nil_sublist _))))))))
end Go.VC
end

section
/- Plain: the classes of the reference; a machine with the targets of its classes. No walk here. -/
namespace Go.VC
open Go.LexS
structure Pat (n : Nat) (D E : List Nat) : Prop where
 l : D.length = n
 r : E.length = n
 p : ∀ i j : Nat, i < n -> j < n -> (D[i]? = D[j]? ↔ E[i]? = E[j]?)
theorem Pat.symm {n : Nat} {D E : List Nat} (h : Pat n D E) : Pat n E D := ⟨h.r, h.l, fun i j hi hj => (h.p i j hi hj).symm⟩
theorem Pat.trans {n : Nat} {D E F : List Nat} (h : Pat n D E) (g : Pat n E F) : Pat n D F := ⟨h.l, g.r, fun i j hi hj => (h.p i j hi hj).trans (g.p i j hi hj)⟩
def NF (R : List Nat) : Prop := R = R.map (idxF R)
theorem idxF_le {K : Type} [DecidableEq K] : ∀ {L : List K} {i : Nat} {c : K}, L[i]? = some c -> idxF L c <= i
 | [], _, _, h => by simp at h
 | a :: L, 0, c, h => by
  rw [List.getElem?_cons_zero] at h
  rw [idxF, if_pos (Option.some.inj h)]; exact Nat.le_refl _
 | a :: L, i + 1, c, h => by
  rw [List.getElem?_cons_succ] at h
  rw [idxF]
  split
  ·
   omega
  ·
   have := idxF_le h; omega
theorem idxF_map {K K' : Type} [DecidableEq K] [DecidableEq K'] {f : K -> K'} {a : K} : ∀ {l : List K}, (∀ x ∈ l, f x = f a -> x = a) -> idxF (l.map f) (f a) = idxF l a
 | [], _ => rfl
 | x :: r, h => by
  rw [Yyl, idxF, idxF]
  by_cases e : x = a
  ·
   rw [if_pos e, if_pos (by rw [e])]
  ·
   rw [if_neg e, if_neg (fun h2 => e (h x Yx h2)), idxF_map fun y hy => h y (Yn _ hy)]
theorem idx_pat {n : Nat} {D E : List Nat} (h : Pat n D E) {i a b : Nat} (ha : D[i]? = some a) (hb : E[i]? = some b) : idxF D a = idxF E b := by
 have hi : i < n := by have := (Ya.1 ha).1; rw [h.l] at this; exact this
 have h1 := idxF_get (Yb ha)
 have h2 := idxF_lt (Yb ha)
 rw [h.l] at h2
 have h3 := idxF_get (Yb hb)
 have h4 := idxF_lt (Yb hb)
 rw [h.r] at h4
 have e1 : D[idxF E b]? = some a := by rw [(h.p _ i h4 hi).2 (by rw [h3, hb])]; exact ha
 have e2 : E[idxF D a]? = some b := by rw [(h.p _ i h2 hi).1 (by rw [h1, ha])]; exact hb
 exact Nat.le_antisymm (idxF_le e1) (idxF_le e2)
theorem NF_pat {n : Nat} {R C : List Nat} (hR : NF R) (h : Pat n R C) : R = C.map (idxF C) := by
 apply List.ext_getElem?
 intro i
 by_cases hi : i < n
 ·
  obtain ⟨a, ha⟩ := get_some (l := R) (i := i) (by rw [h.l]; exact hi)
  obtain ⟨c, hc⟩ := get_some (l := C) (i := i) (by rw [h.r]; exact hi)
  have e := congrArg (fun l => l[i]?) hR
  simp only [Yd, ha, Option.map_some, Option.some.injEq] at e
  rw [Yd, hc, ha, Option.map_some, <- idx_pat h ha hc]
  exact congrArg some e
 ·
  rw [Yl (by rw [h.l]; omega), Yl (by rw [Yc, h.r]; omega)]
theorem NF_eq {n : Nat} {R S : List Nat} (hR : NF R) (hS : NF S) (h : Pat n R S) : R = S := (NF_pat hR h).trans hS.symm
theorem NF_zero (n : Nat) : NF (List.replicate n 0) := by
 unfold NF
 rw [List.map_replicate]
 cases n with
 | zero => rfl
 | succ n =>
  congr 1
theorem clsT_len (m : Mch) (D : List Nat) : (clsT m D).length = m.n.toNat := by unfold clsT; rw [Yc, Yyd]
theorem clsT_get {m : Mch} {D : List Nat} {i : Nat} (hi : i < m.n.toNat) : (clsT m D)[i]? = some (keyT m D i) := by unfold clsT; rw [Yd, Yyb hi]; rfl
noncomputable def stepR (m : Mch) (D : List Nat) : List Nat := (clsT m D).map (idxF (clsT m D))
noncomputable def itR (m : Mch) : Nat -> List Nat
 | 0 => List.replicate m.n.toNat 0
 | k + 1 => stepR m (itR m k)
theorem stepR_len (m : Mch) (D : List Nat) : (stepR m D).length = m.n.toNat := by unfold stepR; rw [Yc, clsT_len]
theorem itR_len (m : Mch) : ∀ k, (itR m k).length = m.n.toNat
 | 0 => Yg
 | _ + 1 => stepR_len _ _
theorem stepR_get {m : Mch} {D : List Nat} {i : Nat} (hi : i < m.n.toNat) : (stepR m D)[i]? = some (idxF (clsT m D) (keyT m D i)) := by unfold stepR; rw [Yd, clsT_get hi]; rfl
theorem stepR_pat {m : Mch} {D : List Nat} {i j : Nat} (hi : i < m.n.toNat) (hj : j < m.n.toNat) : (stepR m D)[i]? = (stepR m D)[j]? ↔ keyT m D i = keyT m D j := by
 rw [stepR_get hi, stepR_get hj, Option.some.injEq]
 exact ⟨fun h => idxF_inj (Yb (clsT_get hi)) h, fun h => by rw [h]⟩
theorem NF_step (m : Mch) (D : List Nat) : NF (stepR m D) := by
 unfold NF
 apply List.ext_getElem?
 intro i
 by_cases hi : i < m.n.toNat
 ·
  rw [Yd, stepR_get hi, Option.map_some]
  congr 1
  unfold stepR
  refine (idxF_map (f := idxF (clsT m D)) fun x hx h => ?_).symm
  exact idxF_inj hx h
 ·
  rw [Yl (by rw [stepR_len]; omega), Yl (by rw [Yc, stepR_len]; omega)]
theorem NF_it (m : Mch) : ∀ k, NF (itR m k)
 | 0 => NF_zero _
 | _ + 1 => NF_step _ _
theorem getD_pat {n : Nat} {D E : List Nat} (h : Pat n D E) {x y : Nat} (hx : x < n) (hy : y < n) : D.getD x 0 = D.getD y 0 ↔ E.getD x 0 = E.getD y 0 := by
 obtain ⟨a, ha⟩ := get_some (l := D) (i := x) (by rw [h.l]; exact hx)
 obtain ⟨b, hb⟩ := get_some (l := D) (i := y) (by rw [h.l]; exact hy)
 obtain ⟨c, hc⟩ := get_some (l := E) (i := x) (by rw [h.r]; exact hx)
 obtain ⟨d, hd⟩ := get_some (l := E) (i := y) (by rw [h.r]; exact hy)
 have := h.p x y hx hy
 rw [ha, hb, hc, hd, Option.some.injEq, Option.some.injEq] at this
 rw [getD_some ha, getD_some hb, getD_some hc, getD_some hd]; exact this
theorem sgM_pat {n : Nat} {D E : List Nat} (h : Pat n D E) {x y : Mv} (hx : x.t.toNat < n) (hy : y.t.toNat < n) (e : sgM D x = sgM D y) : sgM E x = sgM E y := by
 have e1 : x.ev = y.ev := congrArg Sg.x e
 have e2 : x.ag = y.ag := congrArg Sg.ag e
 have e3 : ((D.getD x.t.toNat 0 : Nat) : Int) = ((D.getD y.t.toNat 0 : Nat) : Int) := congrArg Sg.num e
 have e4 := (getD_pat h hx hy).1 (by omega)
 unfold sgM
 rw [e1, e2, e4]
theorem rows_pat {n : Nat} {D E : List Nat} (h : Pat n D E) : ∀ {a b : List Mv}, (∀ x ∈ a, x.t.toNat < n) -> (∀ x ∈ b, x.t.toNat < n) -> a.map (sgM D) = b.map (sgM D) -> a.map (sgM E) = b.map (sgM E)
 | [], [], _, _, _ => rfl
 | [], _ :: _, _, _, e => by cases e
 | _ :: _, [], _, _, e => by cases e
 | x :: a, y :: b, ha, hb, e => by
  rw [Yyl, Yyl, List.cons.injEq] at e
  rw [Yyl, Yyl, sgM_pat h (ha x Yx) (hb y Yx) e.1, rows_pat h (fun z hz => ha z (Yn _ hz)) (fun z hz => hb z (Yn _ hz)) e.2]
theorem rwS_t {m : Mch} (hN : NumM m) {s : Nat} {x : Mv} (h : x ∈ rwS m s) : x.t.toNat < m.n.toNat := by
 have := hN.mv x (rwS_mem.1 h).1
 have := hN.n
 omega
theorem keyT_cut {m : Mch} {D : List Nat} {x y : Nat} : keyT m D x = keyT m D y ↔ (rwS m x).map (sgM D) = (rwS m y).map (sgM D) /\ sgT m x = sgT m y /\ sgB D m.fin x = sgB D m.fin y := by
 unfold keyT
 constructor
 ·
  intro h
  obtain ⟨h1, h2⟩ := List.append_inj' h rfl
  have h1 := List.reverse_inj.1 h1
  simp only [List.cons.injEq, and_true] at h2
  exact ⟨h1, h2.1, h2.2⟩
 ·
  rintro ⟨h1, h2, h3⟩
  rw [h1, h2, h3]
theorem sgB_cut {D : List Nat} {fin : List Bool} {x y : Nat} : sgB D fin x = sgB D fin y ↔ D.getD x 0 = D.getD y 0 /\ fin.getD x false = fin.getD y false := by
 unfold sgB
 constructor
 ·
  intro e
  have e1 : ((D.getD x 0 : Nat) : Int) = ((D.getD y 0 : Nat) : Int) := congrArg Sg.b e
  exact ⟨by omega, congrArg Sg.ag e⟩
 ·
  rintro ⟨h1, h2⟩
  rw [h1, h2]
theorem keyT_pat {m : Mch} (hN : NumM m) {D E : List Nat} (h : Pat m.n.toNat D E) {x y : Nat} (hx : x < m.n.toNat) (hy : y < m.n.toNat) (e : keyT m D x = keyT m D y) : keyT m E x = keyT m E y := by
 rw [keyT_cut, sgB_cut] at e ⊢
 obtain ⟨h1, h2, h3, h4⟩ := e
 exact ⟨rows_pat h (fun z hz => rwS_t hN hz) (fun z hz => rwS_t hN hz) h1, h2, (getD_pat h hx hy).1 h3, h4⟩
theorem itC_pat {m : Mch} (hV : WM m) (D : List Nat) {i j : Nat} (hi : i < m.n.toNat) (hj : j < m.n.toNat) : (canonL (clsK (srtM m) D))[i]? = (canonL (clsK (srtM m) D))[j]? ↔ keyT m D i = keyT m D j := by
 rw [keyT_iff hV hi hj]
 exact canonL_eq (clsK_get (m := srtM m) hi) (clsK_get (m := srtM m) hj)
theorem pat_it {m : Mch} (hV : WM m) : ∀ k, Pat m.n.toNat (itR m k) (itC (srtM m) k)
 | 0 => ⟨itR_len m 0, itC_len (srtM m) 0, fun i j hi hj => by
  show (List.replicate m.n.toNat 0)[i]? = (List.replicate m.n.toNat 0)[j]? ↔ _
  exact Iff.rfl⟩
 | k + 1 => ⟨itR_len m (k + 1), itC_len (srtM m) (k + 1), fun i j hi hj => by
  have ih := pat_it hV k
  show (stepR m (itR m k))[i]? = (stepR m (itR m k))[j]? ↔ (canonL (clsK (srtM m) (itC (srtM m) k)))[i]? = (canonL (clsK (srtM m) (itC (srtM m) k)))[j]?
  rw [stepR_pat hi hj, itC_pat hV _ hi hj]
  exact ⟨keyT_pat hV.n ih hi hj, keyT_pat hV.n ih.symm hi hj⟩⟩
theorem itR_stay {m : Mch} {k : Nat} (h : itR m (k + 1) = itR m k) : ∀ d, itR m (k + d) = itR m k
 | 0 => rfl
 | d + 1 => by
  show stepR m (itR m (k + d)) = _
  rw [itR_stay h d]; exact h
theorem it_pat_eq {m : Mch} (hV : WM m) {k : Nat} (h : ∀ x y : Nat, x < m.n.toNat -> y < m.n.toNat -> ((itC (srtM m) (k + 1))[x]? = (itC (srtM m) (k + 1))[y]? ↔ (itC (srtM m) k)[x]? = (itC (srtM m) k)[y]?)) : itR m (k + 1) = itR m k := by
 refine NF_eq (n := m.n.toNat) (NF_it m (k + 1)) (NF_it m k) ((pat_it hV (k + 1)).trans (Pat.trans ⟨itC_len (srtM m) (k + 1), itC_len (srtM m) k, h⟩ (pat_it hV k).symm))
theorem it_lt {m : Mch} (hV : WM m) {k : Nat} (h : itR m (k + 1) ≠ itR m k) : (dedF (itC (srtM m) k)).length < (dedF (itC (srtM m) (k + 1))).length := by
 have hge := clsK_ge (itC_len (srtM m) k)
 have e1 : (dedF (itC (srtM m) (k + 1))).length = (dedF (clsK (srtM m) (itC (srtM m) k))).length := by rw [itC, dedF_canon]
 rw [e1]
 refine Nat.lt_of_le_of_ne hge fun h3 => h (it_pat_eq hV fun x y hx hy => ?_)
 have hmap := clsK_map (itC_len (srtM m) k)
 have hxy : (itC (srtM m) (k + 1))[x]? = (itC (srtM m) (k + 1))[y]? ↔ keyS (srtM m) (itC (srtM m) k) x = keyS (srtM m) (itC (srtM m) k) y := by
  rw [itC]
  exact canonL_eq (clsK_get (m := srtM m) hx) (clsK_get (m := srtM m) hy)
 rw [hxy]
 refine ⟨keyS_b (itC_len (srtM m) k) (m := srtM m) hx hy, fun h4 => ?_⟩
 generalize hf : (fun k : List Sg => match k.getLast? with | some s => s.b.toNat | none => 0) = f at hmap
 refine ded_inj (l := clsK (srtM m) (itC (srtM m) k)) (f := f) (by rw [<- hmap]; exact h3) (Yb (clsK_get (m := srtM m) hx)) (Yb (clsK_get (m := srtM m) hy)) ?_
 have h1 : ((clsK (srtM m) (itC (srtM m) k)).map f)[x]? = ((clsK (srtM m) (itC (srtM m) k)).map f)[y]? := by rw [<- hmap]; exact h4
 rw [Yd, Yd, clsK_get (m := srtM m) hx, clsK_get (m := srtM m) hy] at h1
 exact Option.some.inj h1
def repL (C : List Nat) : List Nat := C.map (idxF C)
theorem it_end {m : Mch} (hV : WM m) {k : Nat} (h : itR m (k + 1) = itR m k) : itR m k = repL (cls (srtM m)).1 := by
 obtain ⟨N, h1, h2, _⟩ := cls_stable (srtM_raw hV).ok
 rw [h1] at h2
 have hN : itR m (N + 1) = itR m N := it_pat_eq hV h2
 have e1 := itR_stay h N
 have e2 := itR_stay hN k
 have e : itR m k = itR m (N + 1) := by rw [<- e1, hN, <- e2, Nat.add_comm]
 rw [e, h1]
 exact NF_pat (NF_it m (N + 1)) (pat_it hV (N + 1))
/-! ### the machine whose targets are the least ones of their classes -/
def reT (R : List Nat) (x : Mv) : Mv := ⟨x.f, x.send, x.peer, x.label, (R.getD x.t.toNat 0 : Nat), x.ag⟩
def relM (m : Mch) (R : List Nat) : Mch := ⟨m.role, m.n, (R.getD m.s.toNat 0 : Nat), m.fin, m.mv.map (reT R), m.li⟩
theorem relM_get {m : Mch} {R : List Nat} {i : Nat} {y : Mv} (h : (relM m R).mv[i]? = some y) : ∃ x, m.mv[i]? = some x /\ y = reT R x := by
 have h : (m.mv.map (reT R))[i]? = some y := h
 rw [Yd] at h
 obtain ⟨x, hx, rfl⟩ := Yya.1 h
 exact ⟨x, hx, rfl⟩
theorem relM_at {m : Mch} {R : List Nat} {i : Nat} {x : Mv} (h : m.mv[i]? = some x) : (relM m R).mv[i]? = some (reT R x) := by
 show (m.mv.map (reT R))[i]? = _
 rw [Yd, h]; rfl
theorem relM_ev (m : Mch) (R : List Nat) (i : Nat) : evI (relM m R) i = evI m i := by
 cases h : m.mv[i]? with
 | none =>
  unfold evI
  rw [h, show (relM m R).mv[i]? = none from by show (m.mv.map (reT R))[i]? = none; rw [Yd, h]; rfl]
 | some x => rw [evI_of h, evI_of (relM_at h)]; rfl
theorem relM_w {m : Mch} {R : List Nat} (hV : WM m) (hR : ∀ i, i < m.n.toNat -> R.getD i 0 < m.n.toNat) : WM (relM m R) := by
 have hn := hV.n.n
 have hs := hV.n.s
 refine ⟨⟨hV.n.r, hn, ?_, hV.n.fl, ?_, ?_⟩, ?_, ?_⟩
 ·
  have := hR m.s.toNat (by omega)
  show 0 <= ((R.getD m.s.toNat 0 : Nat) : Int) /\ ((R.getD m.s.toNat 0 : Nat) : Int) < m.n
  omega
 ·
  show (m.mv.map (reT R)).length <= _
  rw [Yc]; exact hV.n.ml
 ·
  intro y hy
  obtain ⟨i, hi⟩ := Yf.1 hy
  obtain ⟨x, hx, rfl⟩ := relM_get hi
  have h1 := hV.n.mv x (Yb hx)
  have h2 := hR x.t.toNat (by omega)
  show 0 <= x.f /\ x.f < m.n /\ 0 <= ((R.getD x.t.toNat 0 : Nat) : Int) /\ ((R.getD x.t.toNat 0 : Nat) : Int) < m.n /\ 0 <= x.peer /\ x.peer < 6 /\ x.peer ≠ m.role /\ 0 <= x.label /\ x.label < 40
  omega
 ·
  intro i k a b ha hb hne hf
  obtain ⟨x, hx, rfl⟩ := relM_get ha
  obtain ⟨y, hy, rfl⟩ := relM_get hb
  exact hV.d i k x y hx hy hne hf
 ·
  intro i t ht
  obtain ⟨ho, hk, ⟨h0, y, hy, h1, h2, h3⟩⟩ := hV.t i t ht
  exact ⟨ho, hk, ⟨h0, _, relM_at hy, h1, h2, h3⟩⟩
theorem relM_ix (m : Mch) (R : List Nat) (s : Int) : outIx (relM m R) s = outIx m s := by
 unfold outIx
 show (List.range (m.mv.map (reT R)).length).filter _ = _
 rw [Yc]
 refine List.filter_congr fun i _ => ?_
 unfold outP
 cases h : m.mv[i]? with
 | none => rw [show (relM m R).mv[i]? = none from by show (m.mv.map (reT R))[i]? = none; rw [Yd, h]; rfl]
 | some x => rw [relM_at h]; rfl
theorem relM_row {m : Mch} {R : List Nat} (hV : WM m) (s : Nat) : rwS (relM m R) s = (rwS m s).map (reT R) := by
 have hD : DetM (relM m R) := by
  intro i k a b ha hb hne hf
  obtain ⟨x, hx, rfl⟩ := relM_get ha
  obtain ⟨y, hy, rfl⟩ := relM_get hb
  exact hV.d i k x y hx hy hne hf
 have e : mvS (relM m R) (s : Int) = mvS m (s : Int) := by
  obtain ⟨h1, h2⟩ := mvS_srt m (s : Int)
  refine mvS_eq hD (by rw [relM_ix]; exact h1) ?_
  refine h2.imp fun {a b} h => ?_
  rw [relM_ev, relM_ev]; exact h
 unfold rwS
 rw [e, List.map_filterMap]
 refine congrArg (fun g => List.filterMap g (mvS m (s : Int))) (funext fun i => ?_)
 show (m.mv.map (reT R))[i]? = _
 rw [Yd]
theorem relM_tmE (m : Mch) (R : List Nat) (s : Int) : tmE (relM m R) s = tmE m s := by
 unfold tmE
 rw [show limT (relM m R) s = limT m s from rfl]
 cases limT m s with
 | none => rfl
 | some t => exact relM_ev m R t.e.toNat
theorem addQ_map {f : Nat -> Nat} {Q : List Nat} {c : Nat} (h : ∀ x ∈ Q, f x = f c -> x = c) : addQ (Q.map f) (f c) = (addQ Q c).map f := by
 unfold addQ
 by_cases hc : c ∈ Q
 ·
  rw [if_pos hc, if_pos (Yp.2 ⟨c, hc, rfl⟩)]
 ·
  rw [if_neg hc, if_neg (fun hm => hc (by obtain ⟨x, hx, e⟩ := Yp.1 hm; exact h x hx e ▸ hx)), Ym]; rfl
theorem addQ_sub {C Q : List Nat} {c : Nat} (hQ : ∀ x ∈ Q, x ∈ C) (hc : c ∈ C) : ∀ x ∈ addQ Q c, x ∈ C := fun x hx => by
 unfold addQ at hx
 split at hx
 ·
  exact hQ x hx
 ·
  rcases Yk.1 hx with hx | hx
  ·
   exact hQ x hx
  ·
   rw [Ye] at hx; rw [hx]; exact hc
section
variable {m : Mch} {C : List Nat}
theorem repL_get (hC : C.length = m.n.toNat) {i : Nat} (hi : i < m.n.toNat) : (repL C).getD i 0 = idxF C (C.getD i 0) := by
 obtain ⟨c, hc⟩ := get_some (l := C) (i := i) (by omega)
 rw [getD_some hc]
 refine getD_some ?_
 unfold repL
 rw [Yd, hc]; rfl
theorem getD_memC (hC : C.length = m.n.toNat) {i : Nat} (hi : i < m.n.toNat) : C.getD i 0 ∈ C := by
 obtain ⟨c, hc⟩ := get_some (l := C) (i := i) (by omega)
 rw [getD_some hc]; exact Yb hc
theorem repL_lt (hC : C.length = m.n.toNat) (i : Nat) (hi : i < m.n.toNat) : (repL C).getD i 0 < m.n.toNat := by
 rw [repL_get hC hi, <- hC]; exact idxF_lt (getD_memC hC hi)
theorem rel_step (hV : WM m) (hC : C.length = m.n.toNat) (hd s : Nat) {Q : List Nat} (hQ : ∀ x ∈ Q, x ∈ C) (mv : List Mv) (li : List To) {x : Mv} (hx : x.t.toNat < m.n.toNat) :
  minX (srtM (relM m (repL C))) (List.range m.n.toNat) hd (mget (limM (srtM (relM m (repL C))).li) (s : Int)) (Q.map (idxF C), mv, li) (reT (repL C) x) =
   ((minX (srtM m) C hd (mget (limM (srtM m).li) (s : Int)) (Q, mv, li) x).1.map (idxF C), (minX (srtM m) C hd (mget (limM (srtM m).li) (s : Int)) (Q, mv, li) x).2.1, (minX (srtM m) C hd (mget (limM (srtM m).li) (s : Int)) (Q, mv, li) x).2.2) /\
  ∀ y ∈ (minX (srtM m) C hd (mget (limM (srtM m).li) (s : Int)) (Q, mv, li) x).1, y ∈ C := by
 have hW := relM_w (R := repL C) hV (repL_lt hC)
 have hcm := getD_memC hC hx
 have hg : (List.range m.n.toNat).getD (reT (repL C) x).t.toNat 0 = idxF C (C.getD x.t.toNat 0) := by
  show (List.range m.n.toNat).getD (((repL C).getD x.t.toNat 0 : Nat) : Int).toNat 0 = _
  rw [Ys, getD_some (Yyb (repL_lt hC _ hx)), repL_get hC hx]
 have hinj : ∀ y ∈ Q, idxF C y = idxF C (C.getD x.t.toNat 0) -> y = C.getD x.t.toNat 0 := fun y hy e => idxF_inj (hQ y hy) e
 have hinj2 : ∀ y ∈ addQ Q (C.getD x.t.toNat 0), idxF C y = idxF C (C.getD x.t.toNat 0) -> y = C.getD x.t.toNat 0 := fun y hy e => idxF_inj (addQ_sub hQ hcm y hy) e
 rw [minX_tm hW, minX_tm hV, hg, relM_tmE, show tmK (relM m (repL C)) s = tmK m s from rfl]
 refine ⟨?_, addQ_sub hQ hcm⟩
 show (addQ (Q.map (idxF C)) _, _, _) = ((addQ Q (C.getD x.t.toNat 0)).map (idxF C), _, _)
 rw [addQ_map hinj, idxF_map hinj2]
 rfl
theorem rel_fold (hV : WM m) (hC : C.length = m.n.toNat) (hd s : Nat) : ∀ (l : List Mv), (∀ x ∈ l, x.t.toNat < m.n.toNat) -> ∀ (Q : List Nat) (mv : List Mv) (li : List To), (∀ x ∈ Q, x ∈ C) ->
  (l.map (reT (repL C))).foldl (minX (srtM (relM m (repL C))) (List.range m.n.toNat) hd (mget (limM (srtM (relM m (repL C))).li) (s : Int))) (Q.map (idxF C), mv, li) =
   ((l.foldl (minX (srtM m) C hd (mget (limM (srtM m).li) (s : Int))) (Q, mv, li)).1.map (idxF C), (l.foldl (minX (srtM m) C hd (mget (limM (srtM m).li) (s : Int))) (Q, mv, li)).2.1, (l.foldl (minX (srtM m) C hd (mget (limM (srtM m).li) (s : Int))) (Q, mv, li)).2.2) /\
  ∀ y ∈ (l.foldl (minX (srtM m) C hd (mget (limM (srtM m).li) (s : Int))) (Q, mv, li)).1, y ∈ C
 | [], _, _, _, _, hQ => ⟨rfl, hQ⟩
 | x :: l, hl, Q, mv, li, hQ => by
  obtain ⟨h1, h2⟩ := rel_step hV hC hd s hQ mv li (hl x Yx)
  rw [Yyl, List.foldl_cons, List.foldl_cons, h1]
  generalize minX (srtM m) C hd (mget (limM (srtM m).li) (s : Int)) (Q, mv, li) x = st at *
  exact rel_fold hV hC hd s l (fun z hz => hl z (Yn _ hz)) st.1 st.2.1 st.2.2 h2
theorem rel_minN (hV : WM m) (hC : C.length = m.n.toNat) : ∀ (f hd : Nat) (Q : List Nat) (fin : List Bool) (mv : List Mv) (li : List To), (∀ x ∈ Q, x ∈ C) ->
  minN (srtM (relM m (repL C))) (List.range m.n.toNat) f hd (Q.map (idxF C)) fin mv li = minN (srtM m) C f hd Q fin mv li
 | 0, hd, Q, fin, mv, li, hQ => by
  rw [minN, minN, Yc]; rfl
 | f + 1, hd, Q, fin, mv, li, hQ => by
  rw [minN, minN, Yd]
  cases hq : Q[hd]? with
  | none => rw [Option.map_none, Yc]; rfl
  | some c =>
   have hcC := hQ c (Yb hq)
   have hlt : idxF C c < m.n.toNat := by rw [<- hC]; exact idxF_lt hcC
   have hlt2 : idxF C c < (relM m (repL C)).n.toNat := hlt
   rw [Option.map_some]
   show minN _ _ f (hd + 1) ((outM (srtM (relM m (repL C))) (idxF (List.range m.n.toNat) (idxF C c))).foldl (minX (srtM (relM m (repL C))) (List.range m.n.toNat) hd (mget (limM (srtM (relM m (repL C))).li) (idxF (List.range m.n.toNat) (idxF C c) : Nat))) (Q.map (idxF C), mv, li)).1 (fin ++ [m.fin.getD (idxF (List.range m.n.toNat) (idxF C c)) false])
    ((outM (srtM (relM m (repL C))) (idxF (List.range m.n.toNat) (idxF C c))).foldl (minX (srtM (relM m (repL C))) (List.range m.n.toNat) hd (mget (limM (srtM (relM m (repL C))).li) (idxF (List.range m.n.toNat) (idxF C c) : Nat))) (Q.map (idxF C), mv, li)).2.1
    ((outM (srtM (relM m (repL C))) (idxF (List.range m.n.toNat) (idxF C c))).foldl (minX (srtM (relM m (repL C))) (List.range m.n.toNat) hd (mget (limM (srtM (relM m (repL C))).li) (idxF (List.range m.n.toNat) (idxF C c) : Nat))) (Q.map (idxF C), mv, li)).2.2 =
    minN _ _ f (hd + 1) ((outM (srtM m) (idxF C c)).foldl (minX (srtM m) C hd (mget (limM (srtM m).li) (idxF C c : Nat))) (Q, mv, li)).1 (fin ++ [m.fin.getD (idxF C c) false])
    ((outM (srtM m) (idxF C c)).foldl (minX (srtM m) C hd (mget (limM (srtM m).li) (idxF C c : Nat))) (Q, mv, li)).2.1 ((outM (srtM m) (idxF C c)).foldl (minX (srtM m) C hd (mget (limM (srtM m).li) (idxF C c : Nat))) (Q, mv, li)).2.2
   rw [idxF_range hlt, outM_srt hlt2, outM_srt hlt, relM_row hV]
   obtain ⟨h1, h2⟩ := rel_fold hV hC hd (idxF C c) (rwS m (idxF C c)) (fun x hx => rwS_t hV.n hx) Q mv li hQ
   rw [h1]
   exact rel_minN hV hC f (hd + 1) _ _ _ _ h2
theorem rel_canN (hV : WM m) : canN (relM m (repL (cls (srtM m)).1)) = minF (srtM m) := by
 have hC : (cls (srtM m)).1.length = m.n.toNat := (cls_ok (srtM_raw hV).ok).cl
 have hs := hV.n.s
 have hn := hV.n.n
 have hsn : m.s.toNat < m.n.toNat := by omega
 have h := rel_minN hV hC 202 0 [(cls (srtM m)).1.getD m.s.toNat 0] [] [] [] fun x hx => by rw [Ye] at hx; rw [hx]; exact getD_memC hC hsn
 unfold canN minF
 show minN _ (List.range m.n.toNat) 202 0 [(((repL (cls (srtM m)).1).getD m.s.toNat 0 : Nat) : Int).toNat] [] [] [] = _
 rw [Ys, repL_get hC hsn]
 exact h
end
end Go.VC
end

section
/- Contracts: equal time limits, states alike, the reference's classes, its minimal machine. (Numbers of layer 26's seat.) -/
namespace Go.VC
open Go.Proofs Go.LexS Go.Maps
theorem wli {m : Mch} (hV : WM m) {t : To} (ht : t ∈ m.li) : 0 <= t.e /\ t.e < m.mv.length /\ ∃ y, m.mv[t.e.toNat]? = some y := by
 obtain ⟨i, hi⟩ := Yf.1 ht
 obtain ⟨h0, y, hy, _⟩ := (hV.t i t hi).e
 have := (Ya.1 hy).1
 exact ⟨h0, by omega, y, hy⟩
set_option maxHeartbeats 1000000 in
theorem sameLim213 (m : Mch) (sf sm sl : Sl) (a b : Int) (h : Heap) (hM : MI h m sf sm sl) (hV : WM m) :
  Fn Pz 213 #[.agg ⟨mC m sf sm sl⟩, .int .i64 a, .int .i64 b] h fun v h' => v = .bool (sameLim m a b) /\ Ext h h' := by
 apply vc213 m.role m.n m.s sf sm sl; unfold W213
 have hs := St.refl h
 have hn := hM.pl.ln
 have hmn := hM.pm.ln
 refine hs.newb fun h7 hs => ?_
 refine ⟨_, _, _, sf, sm, sl, hs.at 0 rfl (n := 6) rfl, _, _, _, sf, sm, sl, hs.at 0 rfl (n := 6) rfl, ?_⟩
 refine (limit48 m sf sm sl a h7 (hM.ext hs.ext)).mono ?_
 rintro _ h22 ⟨rfl, E22⟩
 replace hs := hs.step E22
 refine ⟨_, rfl, E22.sm, ?_⟩
 refine (limit48 m sf sm sl b h22 (hM.ext hs.ext)).mono ?_
 rintro _ h25 ⟨rfl, E25⟩
 replace hs := hs.step E25
 refine ⟨_, rfl, E25.sm, ?_⟩
 cases ha : limI m.li a with
 | none =>
  refine sB_t rfl (sB_t rfl ?_)
  cases hb : limI m.li b with
  | none => exact ⟨by unfold sameLim; rw [ha, hb]; rfl, hs.ext⟩
  | some k => exact ⟨by unfold sameLim; rw [ha, hb]; exact congrArg Value.bool (decide_eq_false (show ¬ ((k : Int) < 0) by omega)), hs.ext⟩
 | some i =>
  refine sB_f (decide_eq_false (show ¬ ((i : Int) < 0) by omega)) ?_
  cases hb : limI m.li b with
  | none => exact sB_t rfl (sB_f (decide_eq_false (show ¬ ((i : Int) < 0) by omega)) ⟨by unfold sameLim; rw [ha, hb], hs.ext⟩)
  | some k =>
   refine sB_f (decide_eq_false (show ¬ ((k : Int) < 0) by omega)) ?_
   obtain ⟨x, hx, hxs⟩ := limI_lt ha
   obtain ⟨y, hy, hys⟩ := limI_lt hb
   have hil := (Ya.1 hx).1
   have hkl := (Ya.1 hy).1
   obtain ⟨hx3, hx4, p, hp⟩ := wli hV (Yb hx)
   obtain ⟨hy3, hy4, q, hq⟩ := wli hV (Yb hy)
   have hsl : sameLim m a b = (decide (x.k = y.k) && sameMv p q) := by unfold sameLim; simp only [ha, hb, hx, hy, hp, hq]
   refine ⟨sl, hs.rd 0 rfl rfl, ?_⟩
   refine hM.pl.rw.nbI (x := (i : Int)) (by omega) (by omega) fun b27 o28 x' g27 t27 => ?_
   rw [Ys, hx] at g27; cases g27
   refine ⟨_, _, _, atC_ext hs.ext t27, sl, hs.rd 0 rfl rfl, ?_⟩
   refine hM.pl.rw.nbI (x := (k : Int)) (by omega) (by omega) fun b33 o34 y' g33 t33 => ?_
   rw [Ys, hy] at g33; cases g33
   refine ⟨_, _, _, atC_ext hs.ext t33, ?_⟩
   have hb33 : b33 < h.size := hc_blk t33.hd
   refine ⟨?_, ?_⟩
   ·
    refine hs.newbE fun h38 E38 hs => ⟨E38.sm, ?_⟩
    refine hs.newbE fun h39 E39 hs => ⟨E39.sm, ?_⟩
    refine hs.put 1 rfl (o := 0) (vs := x.cs) rfl (show 3 <= 3 by decide) fun h40 hs2 => ?_
    refine ⟨sm_cons (hs.oldb hs2 hb33) (sm_cons (hs.same hs2 2 2 rfl rfl) sm_nil), ?_⟩
    refine hs2.put 0 rfl (o := 0) (vs := y.cs) rfl (show 3 <= 3 by decide) fun h41 hs => ?_
    refine ⟨_, hs.rd 1 rfl rfl, _, hs.rd 0 rfl rfl, ?_⟩
    refine sBe (fun c3 => ?_) (fun c3 => ⟨by rw [hsl, decide_eq_false c3]; rfl, hs.ext⟩)
    refine ⟨sm, hs.rd 2 rfl rfl, _, hs.rd 1 rfl rfl, ?_⟩
    refine (hM.pm.ext hs.ext).rw.nbI hx3 (by omega) fun b46 o47 p g46 t46 => ?_
    rw [hp] at g46; cases g46
    refine ⟨_, _, _, _, _, _, t46, sm, hs.rd 2 rfl rfl, _, hs.rd 0 rfl rfl, ?_⟩
    refine (hM.pm.ext hs.ext).rw.nbI hy3 (by omega) fun b56 o57 q g56 t56 => ?_
    rw [hq] at g56; cases g56
    refine ⟨_, _, _, _, _, _, t56, ?_⟩
    refine (sameMove20 _ _ _).mono ?_
    rintro _ h66 ⟨rfl, E66⟩
    exact ⟨_, rfl, E66.sm, by rw [hsl, decide_eq_true c3, Bool.true_and], hs.ext.trans E66⟩
   ·
    refine hs.newbE fun h38 E38 hs => ⟨E38.sm, ?_⟩
    refine hs.newbE fun h39 E39 hs => ⟨E39.sm, ?_⟩
    refine hs.put 0 rfl (o := 0) (vs := x.cs) rfl (show 3 <= 3 by decide) fun h40 hs2 => ?_
    refine ⟨sm_cons (hs.oldb hs2 hb33) (sm_cons (hs.same hs2 2 2 rfl rfl) sm_nil), ?_⟩
    refine hs2.put 1 rfl (o := 0) (vs := y.cs) rfl (show 3 <= 3 by decide) fun h41 hs => ?_
    refine ⟨_, hs.rd 0 rfl rfl, _, hs.rd 1 rfl rfl, ?_⟩
    refine sBe (fun c3 => ?_) (fun c3 => ⟨by rw [hsl, decide_eq_false c3]; rfl, hs.ext⟩)
    refine ⟨sm, hs.rd 2 rfl rfl, _, hs.rd 0 rfl rfl, ?_⟩
    refine (hM.pm.ext hs.ext).rw.nbI hx3 (by omega) fun b46 o47 p g46 t46 => ?_
    rw [hp] at g46; cases g46
    refine ⟨_, _, _, _, _, _, t46, sm, hs.rd 2 rfl rfl, _, hs.rd 1 rfl rfl, ?_⟩
    refine (hM.pm.ext hs.ext).rw.nbI hy3 (by omega) fun b56 o57 q g56 t56 => ?_
    rw [hq] at g56; cases g56
    refine ⟨_, _, _, _, _, _, t56, ?_⟩
    refine (sameMove20 _ _ _).mono ?_
    rintro _ h66 ⟨rfl, E66⟩
    exact ⟨_, rfl, E66.sm, by rw [hsl, decide_eq_true c3, Bool.true_and], hs.ext.trans E66⟩
theorem sameLim_sg {m : Mch} (hV : WM m) (a b : Nat) : sameLim m (a : Int) (b : Int) = true ↔ sgT m a = sgT m b := by
 unfold sameLim sgT
 cases ha : limI m.li (a : Int) with
 | none =>
  rw [limI_none ha]
  cases hb : limI m.li (b : Int) with
  | none => rw [limI_none hb]; exact iff_of_true rfl rfl
  | some k =>
   obtain ⟨t, _, hlt⟩ := limI_some hb
   rw [hlt]
   have hk := (li_in hV (limT_mem hlt).1).1
   refine iff_of_false (fun e => by cases e) fun e => ?_
   have e : (0 : Int) = t.k := congrArg Sg.num e
   omega
 | some i =>
  obtain ⟨t, hti, hlt⟩ := limI_some ha
  obtain ⟨_, y, hy, hyf, _, hyag⟩ := (hV.t i t hti).e
  have hk := (hV.t i t hti).k
  rw [hlt]
  cases hb : limI m.li (b : Int) with
  | none =>
   rw [limI_none hb]
   refine iff_of_false (fun e => by cases e) fun e => ?_
   have e : t.k = (0 : Int) := congrArg Sg.num e
   omega
  | some k =>
   obtain ⟨u, hui, hlu⟩ := limI_some hb
   obtain ⟨_, z, hz, hzf, _, hzag⟩ := (hV.t k u hui).e
   rw [hlu]
   simp only [hti, hui, hy, hz]
   rw [evI_of hy, evI_of hz, Yt, decide_eq_true_iff]
   unfold sameMv
   rw [decide_eq_true_iff]
   constructor
   ·
    rintro ⟨h1, h2, h3, h4, _⟩
    have e : y.ev = z.ev := ev_ext h2 h3 h4
    rw [h1, e]
   ·
    intro e
    have e1 : t.k = u.k := congrArg Sg.num e
    have e2 : y.ev = z.ev := congrArg Sg.x e
    exact ⟨e1, congrArg Ev.send e2, congrArg Ev.peer e2, congrArg Ev.label e2, by rw [hyag, hzag]⟩
def AlP (m : Mch) (D : List Nat) (i k : Nat) : Prop := m.fin.getD i false = m.fin.getD k false /\ sgT m i = sgT m k /\ (rwS m i).map (sgM D) = (rwS m k).map (sgM D)
theorem take_map_snoc {m : Mch} {D : List Nat} {i k j : Nat} {x y : Mv} (hx : (rwS m i)[j]? = some x) (hy : (rwS m k)[j]? = some y) (h : ((rwS m i).take j).map (sgM D) = ((rwS m k).take j).map (sgM D)) (e : sgM D x = sgM D y) : ((rwS m i).take (j + 1)).map (sgM D) = ((rwS m k).take (j + 1)).map (sgM D) := by
 rw [take_snoc hx, take_snoc hy, Ym, Ym, h]
 show _ ++ [sgM D x] = _ ++ [sgM D y]
 rw [e]
theorem row_ne {m : Mch} {D : List Nat} {i k j : Nat} {x y : Mv} (hx : (rwS m i)[j]? = some x) (hy : (rwS m k)[j]? = some y) (e : sgM D x ≠ sgM D y) : ¬ AlP m D i k := fun ⟨_, _, h⟩ => e (by
 have := congrArg (fun l => l[j]?) h
 simp only [Yd, hx, hy, Option.map_some, Option.some.injEq] at this
 exact this)
set_option maxHeartbeats 2000000 in
theorem alike180 (m : Mch) (sf sm sl sc : Sl) (D : List Nat) (i k : Nat) (h : Heap) (hM : MI h m sf sm sl) (hV : WM m) (hR : Rw h 1 sc ((natI D).map inC)) (hD : D.length = m.n.toNat) (hi : i < m.n.toNat) (hk : k < m.n.toNat) :
  Fn Pz 180 #[.agg ⟨mC m sf sm sl⟩, .slice sc.a sc.n sc.c, .int .i64 (i : Nat), .int .i64 (k : Nat)] h (RP (AlP m D i k) h) := by
 apply vc180 m.role m.n m.s sf sm sl sc i k; unfold W180
 have hs := St.refl h
 have hn := hV.n.n
 have hfl := hV.n.fl
 have hml := hV.n.ml
 have hmn := hM.pm.ln
 have hfn := hM.pf.ln
 have hscn := hR.ln
 rw [show (natI D).length = D.length from Yc _] at hscn
 refine hs.newb fun h7 hs => ?_
 refine ⟨_, _, _, sf, sm, sl, hs.at 0 rfl (o := 0) (n := 6) rfl, _, _, _, sf, sm, sl, hs.at 0 rfl (o := 0) (n := 6) rfl, ?_⟩
 refine (refOut62 m sf sm sl i h7 (hM.ext hs.ext)).mono ?_
 rintro _ h22 ⟨E22, r1, O1, rfl, hr1, hP1, hO1⟩
 replace hs := hs.step E22
 refine ⟨r1, rfl, E22.sm, ?_⟩
 refine (refOut62 m sf sm sl k h22 (hM.ext hs.ext)).mono ?_
 rintro _ h25 ⟨E25, r2, O2, rfl, hr2, hP2, hO2⟩
 replace hs := hs.step E25
 replace hr1 := hr1.ext E25
 have hS1 : mvS m (i : Int) = O1 := mvS_eq hV.d hP1 hO1
 have hS2 : mvS m (k : Int) = O2 := mvS_eq hV.d hP2 hO2
 have hl1 : (rwS m i).length = O1.length := by rw [rwS_len, hS1]
 have hl2 : (rwS m k).length = O2.length := by rw [rwS_len, hS2]
 have hn1 := hr1.ln
 have hn2 := hr2.ln
 rw [show (natI O1).length = O1.length from Yc _] at hn1
 rw [show (natI O2).length = O2.length from Yc _] at hn2
 have hb1 : O1.length <= 400 := by
  rw [hP1.length_eq]
  unfold outIx
  exact Nat.le_trans (List.length_filter_le _ _) (by rw [Yyd]; exact hml)
 refine ⟨r2, rfl, E25.sm, sf, hs.rd 0 rfl (i := 3) rfl, ?_⟩
 refine (hM.pf.rw.ext hs.ext).nbI (by omega) (by omega) fun b27 o28 f1 g27 t27 => ?_
 rw [Ys] at g27
 refine ⟨_, t27.hd, sf, hs.rd 0 rfl (i := 3) rfl, ?_⟩
 refine (hM.pf.rw.ext hs.ext).nbI (by omega) (by omega) fun b31 o32 f2 g31 t31 => ?_
 rw [Ys] at g31
 refine ⟨_, t31.hd, ?_⟩
 have hg1 : m.fin.getD i false = f1 := getD_some g27
 have hg2 : m.fin.getD k false = f2 := getD_some g31
 refine sB_intro (fun c1 => RP.f (fun hA => ?_) hs.ext) (fun c1 => ?_)
 ·
  have e := hA.1
  rw [hg1, hg2] at e
  rw [e] at c1
  simp at c1
 have c1 : f1 = f2 := by simpa using c1
 refine ⟨_, _, _, sf, sm, sl, hs.at 0 rfl (o := 0) (n := 6) rfl, ?_⟩
 refine (sameLim213 m sf sm sl i k h25 (hM.ext hs.ext) hV).mono ?_
 rintro _ h42 ⟨rfl, E42⟩
 replace hs := hs.step E42
 have hsl := sameLim_sg hV i k
 refine ⟨_, rfl, E42.sm, ?_⟩
 refine sB_intro (fun c2 => RP.f (fun hA => ?_) hs.ext) (fun c2 => ?_)
 ·
  rw [hsl.2 hA.2.1] at c2; cases c2
 have c2 := hsl.1 (bT c2)
 refine sBn (fun c3 => RP.f (fun hA => ?_) hs.ext) (fun c3 => ?_)
 ·
  have := congrArg List.length hA.2.2
  rw [Yc, Yc] at this
  omega
 replace hr1 := hr1.ext E42
 replace hr2 := hr2.ext E42
 have E0 := Ext.rfl' (h := h42)
 refine ⟨fun x h' μ => ∃ j : Nat, x = (j : Int) /\ μ = O1.length - j /\ j <= O1.length /\ Ext h42 h' /\ ((rwS m i).take j).map (sgM D) = ((rwS m k).take j).map (sgM D), ⟨_, 0, rfl, rfl, Nat.zero_le _, E0, rfl⟩, ?_⟩
 rintro - _ h47 μ ⟨j, rfl, rfl, hj, E47, hrows⟩
 replace hs := hs.step E47
 refine sBi (fun c4 => ?_) (fun c4 => ?_)
 ·
  obtain ⟨p, hp⟩ := get_some (l := O1) (i := j) (by omega)
  obtain ⟨q, hq⟩ := get_some (l := O2) (i := j) (by omega)
  obtain ⟨x, hx, hxf⟩ := (mvS_ok m (i : Int) p).1 (by rw [hS1]; exact Yb hp)
  obtain ⟨y, hy, hyf⟩ := (mvS_ok m (k : Int) q).1 (by rw [hS2]; exact Yb hq)
  have hxl := (Ya.1 hx).1
  have hyl := (Ya.1 hy).1
  have hxr := hV.n.mv x (Yb hx)
  have hyr := hV.n.mv y (Yb hy)
  have hrx : (rwS m i)[j]? = some x := rwS_get (by rw [hS1]; exact hp) hx
  have hry : (rwS m k)[j]? = some y := rwS_get (by rw [hS2]; exact hq) hy
  refine ⟨sm, hs.rd 0 rfl (i := 4) rfl, ?_⟩
  refine (hr1.ext E47).nbI (by omega) (by omega) fun b49 o50 d g49 t49 => ?_
  replace g49 : (natI O1)[j]? = some d := g49
  obtain ⟨p', hp', rfl⟩ := natI_get g49
  rw [hp] at hp'; cases hp'
  refine ⟨_, t49.hd, ?_⟩
  refine (hM.pm.rw.ext hs.ext).nbI (by omega) (by omega) fun b52 o53 x' g52 t52 => ?_
  replace g52 : m.mv[p]? = some x' := g52
  rw [hx] at g52; cases g52
  refine ⟨_, _, _, _, _, _, t52, sm, hs.rd 0 rfl (i := 4) rfl, ?_⟩
  refine (hr2.ext E47).nbI (by omega) (by omega) fun b61 o62 d g61 t61 => ?_
  replace g61 : (natI O2)[j]? = some d := g61
  obtain ⟨q', hq', rfl⟩ := natI_get g61
  rw [hq] at hq'; cases hq'
  refine ⟨_, t61.hd, ?_⟩
  refine (hM.pm.rw.ext hs.ext).nbI (by omega) (by omega) fun b64 o65 y' g64 t64 => ?_
  replace g64 : m.mv[q]? = some y' := g64
  rw [hy] at g64; cases g64
  refine ⟨_, _, _, _, _, _, t64, ?_⟩
  refine (sameMove20 x y h47).mono ?_
  rintro _ h74 ⟨rfl, E74⟩
  have hs := hs.step E74
  have E := E47.trans E74
  refine ⟨_, rfl, ?_⟩
  have hsm : sameMv x y = true ↔ x.ev = y.ev /\ x.ag = y.ag := by
   unfold sameMv
   rw [decide_eq_true_iff]
   exact ⟨fun h => ⟨ev_ext h.1 h.2.1 h.2.2.1, h.2.2.2⟩, fun h => ⟨congrArg Ev.send h.1, congrArg Ev.peer h.1, congrArg Ev.label h.1, h.2⟩⟩
  refine sB_intro (fun c5 => RP.f (row_ne hrx hry fun e => ?_) hs.ext) (fun c5 => ?_)
  ·
   rw [hsm.2 ⟨congrArg Sg.x e, congrArg Sg.ag e⟩] at c5; cases c5
  have c5 := hsm.1 (bT c5)
  refine ⟨sm, hs.rd 0 rfl (i := 4) rfl, ?_⟩
  refine (hr1.ext E).nbI (by omega) (by omega) fun b76 o77 d g76 t76 => ?_
  replace g76 : (natI O1)[j]? = some d := g76
  obtain ⟨p', hp', rfl⟩ := natI_get g76
  rw [hp] at hp'; cases hp'
  refine ⟨_, t76.hd, ?_⟩
  refine (hM.pm.rw.ext hs.ext).nbI (by omega) (by omega) fun b79 o80 x' g79 t79 => ?_
  replace g79 : m.mv[p]? = some x' := g79
  rw [hx] at g79; cases g79
  refine ⟨x.t, t79.nth 4 rfl, ?_⟩
  obtain ⟨cx, hcx⟩ := get_some (l := D) (i := x.t.toNat) (by omega)
  obtain ⟨cy, hcy⟩ := get_some (l := D) (i := y.t.toNat) (by omega)
  refine (hR.ext hs.ext).nbI (by omega) (by omega) fun b82 o83 d g82 t82 => ?_
  obtain ⟨cx', hcx', rfl⟩ := natI_get g82
  rw [hcx] at hcx'; cases hcx'
  refine ⟨_, t82.hd, sm, hs.rd 0 rfl (i := 4) rfl, ?_⟩
  refine (hr2.ext E).nbI (by omega) (by omega) fun b86 o87 d g86 t86 => ?_
  replace g86 : (natI O2)[j]? = some d := g86
  obtain ⟨q', hq', rfl⟩ := natI_get g86
  rw [hq] at hq'; cases hq'
  refine ⟨_, t86.hd, ?_⟩
  refine (hM.pm.rw.ext hs.ext).nbI (by omega) (by omega) fun b89 o90 y' g89 t89 => ?_
  replace g89 : m.mv[q]? = some y' := g89
  rw [hy] at g89; cases g89
  refine ⟨y.t, t89.nth 4 rfl, ?_⟩
  refine (hR.ext hs.ext).nbI (by omega) (by omega) fun b92 o93 d g92 t92 => ?_
  obtain ⟨cy', hcy', rfl⟩ := natI_get g92
  rw [hcy] at hcy'; cases hcy'
  refine ⟨_, t92.hd, ?_⟩
  have hcc : sgM D x = sgM D y ↔ (x.ev = y.ev /\ x.ag = y.ag) /\ cx = cy := by
   unfold sgM
   rw [getD_some hcx, getD_some hcy]
   exact ⟨fun e => ⟨⟨congrArg Sg.x e, congrArg Sg.ag e⟩, by have e : ((cx : Nat) : Int) = (cy : Nat) := congrArg Sg.num e; omega⟩, fun e => by rw [e.1.1, e.1.2, e.2]⟩
  refine sBn (fun c6 => RP.f (row_ne hrx hry fun e => ?_) hs.ext) (fun c6 => ?_)
  ·
   have := (hcc.1 e).2; omega
  ·
   exact ⟨_, (show O1.length - (j + 1) < O1.length - j by omega), j + 1, by rw [w64 (by omega) (by omega)]; omega, rfl, by omega, E, take_map_snoc hrx hry hrows (hcc.2 ⟨c5, by omega⟩)⟩
 ·
  have hj1 : j = (rwS m i).length := by omega
  have hj2 : j = (rwS m k).length := by omega
  refine RP.t ⟨by rw [hg1, hg2, c1], c2, ?_⟩ hs.ext
  rw [Yj (by omega), Yj (by omega)] at hrows
  exact hrows
theorem key_al {m : Mch} {D : List Nat} {i k : Nat} : keyT m D i = keyT m D k ↔ D.getD i 0 = D.getD k 0 /\ AlP m D i k := by
 rw [keyT_cut, sgB_cut]
 exact ⟨fun h => ⟨h.2.2.1, h.2.2.2, h.2.1, h.1⟩, fun h => ⟨h.2.2.2, h.2.2.1, h.1, h.2.1⟩⟩
end Go.VC
end
