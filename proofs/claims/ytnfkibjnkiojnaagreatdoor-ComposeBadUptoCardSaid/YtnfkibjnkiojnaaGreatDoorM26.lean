/- WkSort WkG WkH WkVcD WkI WkJ WkVcE WkVcF WkK WkL WkM WkN WkO WkVcG WkP WkVcK WkQ WkR. -/
import Derived.Test.YtnfkibjnkiojnaaGreatDoorM24
import Derived.Test.YtnfkibjnkiojnaaGreatDoorM22
import Derived.Test.YtnfkibjnkiojnaaGreatDoorM25
import Derived.Test.YtnfkibjnkiojnaaGreatDoorM01
import Derived.Test.YtnfkibjnkiojnaaGreatDoorM23
import Derived.Test.YtnfkibjnkiojnaaGreatDoorM02
import Derived.Test.YtnfkibjnkiojnaaGreatDoorProg
import Derived.KernelRfl
set_option linter.unusedVariables false
set_option linter.unusedSimpArgs false
set_option maxRecDepth 100000

section
/- slices.SortFunc at steps, by the order of a machine's moves: from the kit's contract. (At the seat; over the development dump the stub WjSort stands for it. Laid al WjSort.) -/
namespace Go.VC
open Go.Proofs Go.Shelf
theorem stC_fin {n:Nat} (p:Int) (k:List (Fin n)):(k.map Fin.val).map (stC p)=k.map fun x=>stC p x.val:=by
 rw [List.map_map]; rfl
theorem sort80:Sort80:=by
 intro m sm a p h0 h Ls hs i s l hi hlm hnil hml hll hread
 by_cases hl0:l=[]
 ·
  subst hl0
  have ha:=hnil rfl
  have hget:=hs.get hi
  rcases hget.1.2 with ⟨_,hn0,hc0⟩ | ⟨b,cur,ha',_⟩
  ·
   have hset:Ls.set i (.sl s 57 2 (([]:List Nat).map (stC p)))=Ls:=by
    obtain ⟨p,q⟩:=Ya.1 hi
    rw [<- q]; exact List.set_getElem_self p
   intro w hw
   subst hw
   rw [ha,hn0,hc0]
   refine (AnyF.slices_SortFunc_none Tryz.sortL80 none ((0:Nat):Nat) (.func (.func 81) #[] #[.pointer (some a)]) w).mono ?_
   rintro e' w' ⟨rfl,rfl⟩
   exact ⟨_,rfl,⟨rfl,[],List.Perm.refl _,List.Pairwise.nil,by rw [hset]; exact hs⟩,rfl,rfl,rfl,trivial⟩
  ·
   rw [ha] at ha'; cases ha'
 ·
  have hpos:0<m.mv.length:=by
   cases l with
   | nil=>exact absurd rfl hl0
   | cons x r=>have:=hlm x Yx; omega
  haveI:Inhabited (Fin m.mv.length):=⟨⟨0,hpos⟩⟩
  obtain ⟨k,rfl⟩:=fin_list hlm
  have hi':Ls[i]?=some (.sl s 57 2 (k.map fun x=>stC p x.val)):=by rw [hi,stC_fin]
  rw [Yc] at hll
  have g:∀ x:Fin m.mv.length,m.mv[x.val]?=some m.mv[x.val]:=fun x=>Yi x.isLt
  have ev:∀ x:Fin m.mv.length,(m.mv.getD x.val ⟨0,false,0,0,0,false⟩).ev=m.mv[x.val].ev:=fun x=>by rw [Yo,g x]; rfl
  refine Fn.mono (sort_ownC Tryz.sortL80 2 57 Tryz.isAgg57 Tryz.sizeOf57 (fun x:Fin m.mv.length=>stC p x.val) (fun _=>rfl) (fun x v hv=>by simp [stC] at hv; rcases hv with rfl | rfl <;> rfl) (fun x y:Fin m.mv.length=>cmpE m.mv[x.val].ev m.mv[y.val].ev) (swo_on swoE fun x:Fin m.mv.length=>m.mv[x.val].ev) 81 #[.pointer (some a)] (enters_of Tryz.func81 (by kernel_rfl) rfl) hs i hi' (by omega) (by omega) (fun x y h' hsz hoth=>?_)) ?_
  ·
   obtain ⟨r1,r2⟩:=hread h' hsz hoth
   exact @M.orderS81 monoDrawn m.mv sm a p p x.val y.val m.mv[x.val] m.mv[y.val] h' r1 r2 (g x) (g y)
  ·
   rintro v h' ⟨rfl,k',hp,hw,hs'⟩
   refine ⟨rfl,k'.map Fin.val,hp.map _,?_,by rw [stC_fin]; exact hs'⟩
   rw [List.pairwise_map]
   refine hw.imp fun {a b} hab=>?_
   unfold ltOf at hab
   rw [decide_eq_false_iff_not,cmpE_neg] at hab
   rw [ev a,ev b]
   exact hab
end Go.VC
end

section
/- Contracts: the possible steps, on both sides. (Numbers of layer 27's development dump.) -/
namespace Go.VC
open Go.Proofs Go.LexS
theorem app35:appB Pz 35 57 2 16=true:=by kernel_rfl
theorem app39:appB Pz 39 60 2 16=true:=by kernel_rfl
def mv0:Mv:=⟨0,false,0,0,0,false⟩
def mvD (m:Mch) (i:Nat):Mv:=m.mv.getD i mv0
theorem mvD_of {m:Mch} {i:Nat} {x:Mv} (h:m.mv[i]?=some x):mvD m i=x:=getD_some h
theorem evI_mvD (m:Mch) (i:Nat):evI m i=(mvD m i).ev:=by
 unfold evI mvD
 rw [Yo]
 cases m.mv[i]? <;> rfl
def posB (n:Nat) (k:Int) (S:List Int) (BL:List (List Int)) (p:Nat) (m:Mch) (i:Nat):Bool:=decide (canS n k S BL p (mvD m i)=0)
noncomputable def stepsP (n:Nat) (k:Int) (S:List Int) (BL:List (List Int)) (p:Nat) (m:Mch):List Nat:=(mvS m (S.getD p 0)).filter (posB n k S BL p m)
def stpC (q:Nat × Nat):List Value:=stC (q.1:Int) q.2
noncomputable def stepsR (n:Nat) (k:Int) (S:List Int) (BL:List (List Int)) (L:List Mch) (p:Nat):List (Nat × Nat):=match L[p]? with
 | some m=>(stepsP n k S BL p m).map fun i=>(p,i)
 | none=>[]
noncomputable def stepsS (L:List Mch) (k:Int) (S:List Int) (BL:List (List Int)):List (Nat × Nat):=(List.range L.length).flatMap (stepsR L.length k S BL L)
theorem posB_f {n:Nat} {k:Int} {S:List Int} {BL:List (List Int)} {p:Nat} {m:Mch} {i:Nat} (h:posB n k S BL p m i=true):(mvD m i).f=S.getD p 0:=by
 have h:=Yyn h
 unfold canS at h
 split at h
 ·
  omega
 ·
  rename_i c; exact Classical.not_not.1 c
theorem pos_ix {n:Nat} {k:Int} {S:List Int} {BL:List (List Int)} {p:Nat} {m:Mch}:(List.range m.mv.length).filter (posB n k S BL p m)=(outIx m (S.getD p 0)).filter (posB n k S BL p m):=by
 unfold outIx
 rw [List.filter_filter]
 refine List.filter_congr fun i hi=>?_
 obtain ⟨x,hx⟩:=get_some (l:=m.mv) (i:=i) (List.mem_range.1 hi)
 cases hp:posB n k S BL p m i with
 | false=>rfl
 | true=>
  have hf:=posB_f hp
  rw [mvD_of hx] at hf
  show true=(true && outP m _ i)
  unfold outP
  rw [hx]
  show true=(true && decide (x.f=_))
  rw [hf]; simp
theorem steps_uniq {n:Nat} {k:Int} {S:List Int} {BL:List (List Int)} {p:Nat} {m:Mch} (hD:DetM m) {O:List Nat} (h1:O.Perm ((List.range m.mv.length).filter (posB n k S BL p m))) (h2:O.Pairwise fun a b=>¬ evLt (evI m b) (evI m a)):O=stepsP n k S BL p m:=by
 obtain ⟨s1,s2⟩:=mvS_srt m (S.getD p 0)
 rw [pos_ix] at h1
 unfold stepsP
 have h3:=(s1.filter (posB n k S BL p m)).symm
 refine List.Perm.eq_of_pairwise (le:=fun a b=>¬ evLt (evI m b) (evI m a)) (fun a b ha hb h3 h4=>?_) h2 (s2.sublist List.filter_sublist) (h1.trans h3)
 have ha':=(List.mem_filter.1 (h1.mem_iff.1 ha)).1
 have hb':=s1.mem_iff.1 (List.mem_filter.1 hb).1
 obtain ⟨x,hx,hxf⟩:=outIx_mem.1 ha'
 obtain ⟨y,hy,hyf⟩:=outIx_mem.1 hb'
 by_cases e:a=b
 ·
  exact e
 ·
  have:=(hD a b x y hx hy e (by rw [hxf,hyf])).1
  rw [evI_of hx,evI_of hy] at h3 h4
  exact absurd (evLt_of h3 this) h4
theorem stepsP_len {n:Nat} {k:Int} {S:List Int} {BL:List (List Int)} {p:Nat} {m:Mch}:(stepsP n k S BL p m).length<=m.mv.length:=by
 unfold stepsP
 refine Yys (List.length_filter_le _ _) ?_
 rw [(mvS_srt m (S.getD p 0)).1.length_eq]
 unfold outIx
 refine Yys (List.length_filter_le _ _) ?_
 rw [Yyd]; exact Yyt _
theorem stpRows (p:Nat) (O:List Nat):(O.map fun i=>(p,i)).map stpC=O.map (stC (p:Int)):=by rw [List.map_map]; rfl
theorem strows (p:Int) (l:List Nat):∀ r ∈ l.map (stC p),r.length=2:=fun r hr=>by obtain ⟨x,_,rfl⟩:=Yp.1 hr; rfl
theorem stepsR_len {n:Nat} {k:Int} {S:List Int} {BL:List (List Int)} {L:List Mch} (hV:SysV L) (p:Nat):(stepsR n k S BL L p).length<=400:=by
 unfold stepsR
 cases h:L[p]? with
 | none=>exact Nat.zero_le _
 | some m=>
  show (List.map _ _).length<=400
  rw [Yc]
  exact Yys stepsP_len (hV.m p m h).2.1.n.ml
theorem steps_len {n:Nat} {k:Int} {S:List Int} {BL:List (List Int)} {L:List Mch} (hV:SysV L):∀ i,((List.range i).flatMap (stepsR n k S BL L)).length<=i*400
 | 0=>Nat.zero_le _
 | i+1=>by
  have h1:=steps_len (n:=n) (k:=k) (S:=S) (BL:=BL) hV i
  have h2:=stepsR_len (n:=n) (k:=k) (S:=S) (BL:=BL) hV i
  rw [List.range_succ,List.flatMap_append,Yh,List.flatMap_cons,List.flatMap_nil,Yw]
  omega
set_option maxHeartbeats 3200000 in
theorem steps47 (L:List MR) (s:Sl) (k:Int) (ss sb:Sl) (S:List Int) (B:List Bx) (h:Heap) (hS:SyI h s L) (hV:SysV (L.map MR.m)) (hC:CfI h ss sb S B) (hSl:S.length=L.length) (hBl:B.length=L.length*L.length) :
  Fn Pz 47 #[.slice s.a s.n s.c,.int .i64 k,.agg ⟨[.slice ss.a ss.n ss.c,.slice sb.a sb.n sb.c]⟩] h fun v h'=>Ext h h'/\∃ r:Sl,v=.slice r.a r.n r.c/\RL h' 2 r stpC (stepsS (L.map MR.m) k S (B.map Bx.l)):=by
 apply vc47 s k ss sb; unfold W47
 have hn:=hS.r.ln
 have hlm:(L.map MR.m).length=L.length:=Yc _
 have hV6:=hV.n
 rw [hlm] at hV6
 generalize hBB:B.map Bx.l=BL at *
 have hLL:stepsS (L.map MR.m) k S BL=(List.range L.length).flatMap (stepsR L.length k S BL (L.map MR.m)):=by unfold stepsS; rw [hlm]
 refine (St.refl h).newb fun h3 hs=>?_
 have hs:=hs.nil_ 57 2
 refine ⟨fun out x h' μ=>∃ i:Nat,x=(i:Int)/\μ=L.length - i/\i<=L.length/\St h h' [.sl out 57 2 (((List.range i).flatMap (stepsR L.length k S BL (L.map MR.m))).map stpC),.blk h.size [.slice ss.a ss.n ss.c,.slice sb.a sb.n sb.c] 29],⟨_,0,rfl,rfl,Nat.zero_le _,hs⟩,?_⟩
 clear hs
 rintro - out _ h9 μ ⟨i,rfl,rfl,hi,hs⟩
 have hon:=(hs.rows 0 (s:=out) (cs:=stpC) rfl (by omega)).ln
 have hol:=steps_len (n:=L.length) (k:=k) (S:=S) (BL:=BL) hV i
 refine sBi (fun c1=>?_) (fun c1=>?_)
 ·
  obtain ⟨y,gy⟩:=get_some (l:=L) (i:=i) (by omega)
  have gm:(L.map MR.m)[i]?=some y.m:=by rw [Yd,gy]; rfl
  have hyi:=hS.i y (Yb gy)
  have hvm:=hV.m i y.m gm
  have hgn:=hyi.pm.ln
  have hml:=hvm.2.1.n.ml
  refine (hS.r.rw.ext hs.ext).nbI (by omega) (by omega) fun b o y' gy' t=>?_
  rw [Ys] at gy'
  replace gy':L[i]?=some y':=gy'
  rw [gy] at gy'; cases gy'
  refine ⟨_,_,_,_,_,_,t,?_⟩
  refine hs.newput (vs:=mC y.m y.f y.g y.l) rfl rfl fun h19 hs=>?_
  refine ⟨y.g,hs.rd 0 rfl (i:=4) rfl,?_⟩
  have hs:=hs.nil_ 57 2
  refine ⟨fun l x h' μ=>∃ j:Nat,x=(j:Int)/\μ=y.m.mv.length - j/\j<=y.m.mv.length/\St h h' [.sl l 57 2 (((List.range j).filter (posB L.length k S BL i y.m)).map (stC (i:Int))),.blk h9.size (mC y.m y.f y.g y.l) 55,.sl out 57 2 (((List.range i).flatMap (stepsR L.length k S BL (L.map MR.m))).map stpC),.blk h.size [.slice ss.a ss.n ss.c,.slice sb.a sb.n sb.c] 29]/\((List.range j).filter (posB L.length k S BL i y.m)=[]->l.a=none),⟨_,0,rfl,rfl,Nat.zero_le _,hs,fun _=>rfl⟩,?_⟩
  clear hs
  rintro - l _ h26 μ ⟨j,rfl,rfl,hj,hs,hnil⟩
  have hln:=(hs.rows 0 (s:=l) (cs:=stC (i:Int)) rfl (by omega)).ln
  have hll:((List.range j).filter (posB L.length k S BL i y.m)).length<=j:=Yys (List.length_filter_le _ _) (by rw [Yyd]; exact Yyt _)
  refine sBi (fun c2=>?_) (fun c2=>?_)
  ·
   obtain ⟨x,gx⟩:=get_some (l:=y.m.mv) (i:=j) (by omega)
   have hxm:=Yb gx
   have hx0:0<=x.peer:=(hvm.2.1.n.mv x hxm).2.2.2.2.1
   have hx1:x.peer<(L.length:Int):=by have:=hvm.2.2 x hxm; rw [hlm] at this; exact this
   refine (hyi.pm.rw.ext hs.ext).nbI (by omega) (by omega) fun b2 o2 x' gx' t2=>?_
   rw [Ys] at gx'
   replace gx':y.m.mv[j]?=some x':=gx'
   rw [gx] at gx'; cases gx'
   refine ⟨_,_,_,_,_,_,t2,?_⟩
   refine hs.newput (vs:=x.cs) rfl rfl fun h36 hs=>?_
   refine ⟨ss,sb,hs.at 4 rfl (o:=0) (n:=2) rfl,_,_,_,_,_,_,hs.at 0 rfl (o:=0) (n:=6) rfl,?_⟩
   rw [hn]
   refine (can58 L.length k ss sb S B i x h36 (hC.ext hs.ext) hV6.2 hSl hBl (by omega) hx0 hx1).mono ?_
   rintro _ h47 ⟨rfl,E⟩
   have hs:=(hs.step E).drop 1
   rw [hBB]
   have hmd:mvD y.m j=x:=mvD_of gx
   refine ⟨_,rfl,sBe (fun c3=>?_) (fun c3=>?_)⟩
   ·
    have hp:posB L.length k S BL i y.m j=true:=by unfold posB; rw [hmd]; exact decide_eq_true c3
    refine hs.app 0 (s:=l) (n:=2) (rows:=((List.range j).filter (posB L.length k S BL i y.m)).map (stC (i:Int))) rfl app35 (m:=1) [stC (i:Int) j] rfl rfl (fun r hr=>by rw [Ye] at hr; rw [hr]; rfl) rfl (by omega) (by simp only [maxLen]; omega) fun r h50 nr hs=>?_
    refine ⟨_,(show y.m.mv.length - (j+1)<y.m.mv.length - j by omega),j+1,by rw [w64 (by omega) (by omega)]; omega,rfl,by omega,?_,?_⟩
    ·
     rw [List.range_succ,List.filter_append,List.filter_cons_of_pos hp,List.filter_nil,Ym]
     exact hs
    ·
     intro e
     rw [List.range_succ,List.filter_append,List.filter_cons_of_pos hp] at e
     exact absurd (List.append_eq_nil_iff.1 e).2 (by simp)
   ·
    have hp:posB L.length k S BL i y.m j=false:=by unfold posB; rw [hmd]; exact decide_eq_false c3
    have e1:(List.range (j+1)).filter (posB L.length k S BL i y.m)=(List.range j).filter (posB L.length k S BL i y.m):=by
     rw [List.range_succ,List.filter_append,List.filter_cons_of_neg (by rw [hp]; exact Bool.false_ne_true),List.filter_nil,Yw]
    exact ⟨_,(show y.m.mv.length - (j+1)<y.m.mv.length - j by omega),j+1,by rw [w64 (by omega) (by omega)]; omega,rfl,by omega,by rw [e1]; exact hs,by rw [e1]; exact hnil⟩
  ·
   have hjl:j=y.m.mv.length:=by omega
   subst hjl
   have hbg:([.sl l 57 2 (((List.range y.m.mv.length).filter (posB L.length k S BL i y.m)).map (stC (i:Int))),.blk h9.size (mC y.m y.f y.g y.l) 55,.sl out 57 2 (((List.range i).flatMap (stepsR L.length k S BL (L.map MR.m))).map stpC),.blk h.size [.slice ss.a ss.n ss.c,.slice sb.a sb.n sb.c] 29]:List It)[0]?=some (.sl l 57 2 (((List.range y.m.mv.length).filter (posB L.length k S BL i y.m)).map (stC (i:Int)))):=rfl
   have hap:l.a.map (·.block) ≠ some h9.size:=fun e=>by
    have h1:=(List.pairwise_cons.1 hs.ap).1 (.blk h9.size (mC y.m y.f y.g y.l) 55) (Yx)
    exact h1 h9.size e rfl
   have hfr:∀ b,l.a.map (·.block)=some b->h.size<=b:=fun b hb=>(hs.ok _ Yx).2 b hb
   refine (sort80 y.m y.g ⟨h9.size,0,none⟩ (i:Int) hs 0 hbg (fun x hx=>List.mem_range.1 (List.mem_filter.1 hx).1) hnil (by omega) (by omega) fun h' hsz hoth=>?_).mono ?_
   ·
    have E':Ext h h':=⟨Yys hs.ext.1 hsz,fun c hc=>by
     rw [hoth c (by have:=hs.ext.1; omega) fun e=>by have:=hfr c e; omega]
     exact hs.ext.2 c hc⟩
    refine ⟨?_,hyi.pm.rw.ext E'⟩
    have h1:hc h26 ⟨h9.size,0+4,none⟩=some (.slice y.g.a y.g.n y.g.c):=hs.rd 1 rfl rfl
    rw [hc_of_block (h:=h26) (h':=h') (a:=⟨h9.size,0+4,none⟩) (by
     show h'[h9.size]?=h26[h9.size]?
     exact hoth h9.size (hc_blk h1) hap)]
    exact h1
   ·
    rintro _ h54 ⟨rfl,l',hp',hw',hs⟩
    refine ⟨rfl,?_⟩
    have hu:l'=stepsP L.length k S BL i y.m:=steps_uniq hvm.2.1.d hp' (hw'.imp fun {a b} hab=>by rw [evI_mvD,evI_mvD]; exact hab)
    subst hu
    have hs:St h h54 [.sl l 57 2 ((stepsP L.length k S BL i y.m).map (stC (i:Int))),.blk h9.size (mC y.m y.f y.g y.l) 55,.sl out 57 2 (((List.range i).flatMap (stepsR L.length k S BL (L.map MR.m))).map stpC),.blk h.size [.slice ss.a ss.n ss.c,.slice sb.a sb.n sb.c] 29]:=hs
    have hln2:=(hs.rows 0 (s:=l) (cs:=stC (i:Int)) rfl (by omega)).ln
    have hpl:(stepsP L.length k S BL i y.m).length<=y.m.mv.length:=stepsP_len
    refine hs.appRw 2 (rows:=((List.range i).flatMap (stepsR L.length k S BL (L.map MR.m))).map stpC) (news:=(stepsP L.length k S BL i y.m).map (stC (i:Int))) rfl app35 (y:=l) (hs.rw 0 rfl (by omega)) (strows _ _) (hs.len 0 rfl (by omega)).2.2 (flat_oneB (fun _=>rfl) _) (by omega) (by simp only [maxLen]; omega) fun r h56 nr hs=>?_
    refine ⟨_,(show L.length - (i+1)<L.length - i by omega),i+1,by rw [w64 (by omega) (by omega)]; omega,rfl,by omega,?_⟩
    have e1:stepsR L.length k S BL (L.map MR.m) i=(stepsP L.length k S BL i y.m).map fun q=>(i,q):=by unfold stepsR; rw [gm]
    rw [List.range_succ,List.flatMap_append,List.flatMap_cons,List.flatMap_nil,Yw,Ym,e1,stpRows]
    exact hs.sub (.cons _ (.cons _ (.cons_cons _ (.cons_cons _ (List.nil_sublist _)))))
 ·
  have hil:i=L.length:=by omega
  subst hil
  refine ⟨hs.ext,out,rfl,?_⟩
  rw [hLL]
  have:=hs.len 0 (s:=out) rfl (by omega)
  exact ⟨hs.rows 0 rfl (by omega),this.2.1,this.2.2,by omega⟩
end Go.VC
end

section
/- Contracts: Steps on both sides, equality of steps, the start. (Numbers of layer 27's development dump.) -/
namespace Go.VC
open Go.Proofs Go.LexS
set_option maxHeartbeats 3200000 in
theorem refAll48 (L:List MR) (s:Sl) (k:Int) (ss sb:Sl) (S:List Int) (B:List Bx) (h:Heap) (hS:SyI h s L) (hV:SysV (L.map MR.m)) (hC:CfI h ss sb S B) (hSl:S.length=L.length) (hBl:B.length=L.length*L.length) :
  Fn Pz 48 #[.slice s.a s.n s.c,.int .i64 k,.agg ⟨[.slice ss.a ss.n ss.c,.slice sb.a sb.n sb.c]⟩] h fun v h'=>Ext h h'/\∃ r:Sl,v=.slice r.a r.n r.c/\RL h' 2 r stpC (stepsS (L.map MR.m) k S (B.map Bx.l)):=by
 apply vc48 s k ss sb; unfold W48
 have hn:=hS.r.ln
 have hsn:=hC.s.ln
 have hlm:(L.map MR.m).length=L.length:=Yc _
 have hV6:=hV.n
 rw [hlm] at hV6
 have hpos:∀ (r i:Int) (h:Heap),SyI h s L->CfI h ss sb S B->_:=fun r i h a b=>possible61 L s k ss sb S B r i h a hV b hSl hBl
 generalize hBB:B.map Bx.l=BL at *
 have hLL:stepsS (L.map MR.m) k S BL=(List.range L.length).flatMap (stepsR L.length k S BL (L.map MR.m)):=by unfold stepsS; rw [hlm]
 refine (St.refl h).newb fun h3 hs=>?_
 have hs:=hs.nil_ 60 2
 refine ⟨fun out x h' μ=>∃ i:Nat,x=(i:Int)/\μ=L.length - i/\i<=L.length/\St h h' [.sl out 60 2 (((List.range i).flatMap (stepsR L.length k S BL (L.map MR.m))).map stpC),.blk h.size [.slice ss.a ss.n ss.c,.slice sb.a sb.n sb.c] 26],⟨_,0,rfl,rfl,Nat.zero_le _,hs⟩,?_⟩
 clear hs
 rintro - out _ h9 μ ⟨i,rfl,rfl,hi,hs⟩
 have hon:=(hs.rows 0 (s:=out) (cs:=stpC) rfl (by omega)).ln
 have hol:=steps_len (n:=L.length) (k:=k) (S:=S) (BL:=BL) hV i
 refine sBi (fun c1=>?_) (fun c1=>?_)
 ·
  obtain ⟨y,gy⟩:=get_some (l:=L) (i:=i) (by omega)
  have gm:(L.map MR.m)[i]?=some y.m:=by rw [Yd,gy]; rfl
  have hyi:=hS.i y (Yb gy)
  have hvm:=hV.m i y.m gm
  have hml:=hvm.2.1.n.ml
  refine (hS.r.rw.ext hs.ext).nbI (by omega) (by omega) fun b o y' gy' t=>?_
  rw [Ys] at gy'
  replace gy':L[i]?=some y':=gy'
  rw [gy] at gy'; cases gy'
  refine ⟨_,_,_,_,_,_,t,ss,hs.rd 1 rfl rfl,?_⟩
  refine (hC.s.rw.ext hs.ext).nbI (by omega) (by omega) fun b2 o2 z gz t2=>?_
  rw [Ys] at gz
  replace gz:S[i]?=some z:=gz
  have hSg:S.getD i 0=z:=getD_some gz
  refine ⟨_,t2.hd,?_⟩
  refine (refOut62S y.m y.f y.g y.l z h9 (hyi.ext hs.ext)).mono ?_
  rintro _ h24 ⟨r,O,rfl,h1,hP,hSo⟩
  have hs:=hs.join h1
  have hO:O=mvS y.m z:=(mvS_eq hvm.2.1.d hP hSo).symm
  have hOl:O.length<=y.m.mv.length:=by
   rw [hP.length_eq]; unfold outIx
   refine Yys (List.length_filter_le _ _) ?_
   rw [Yyd]; exact Yyt _
  refine ⟨r,rfl,?_⟩
  refine ⟨fun out x h' μ=>∃ j:Nat,x=(j:Int)/\μ=O.length - j/\j<=O.length/\St h h' [.sl out 60 2 ((((List.range i).flatMap (stepsR L.length k S BL (L.map MR.m)))++((O.take j).filter (posB L.length k S BL i y.m)).map fun q=>(i,q)).map stpC),.blk h.size [.slice ss.a ss.n ss.c,.slice sb.a sb.n sb.c] 26,.sl r 3 1 ((natI O).map inC)],⟨_,0,rfl,rfl,Nat.zero_le _,by rw [Yyk,List.filter_nil,List.map_nil,Yw]; exact hs⟩,?_⟩
  clear hs
  rintro - out2 _ h30 μ ⟨j,rfl,rfl,hj,hs⟩
  have hon2:=(hs.rows 0 (s:=out2) (cs:=stpC) rfl (by omega)).ln
  have hrn:=(hs.rows 2 (s:=r) (cs:=inC) rfl (by omega)).ln
  rw [show (natI O).length=O.length from Yc _] at hrn
  have hfl:((O.take j).filter (posB L.length k S BL i y.m)).length<=j:=Yys (List.length_filter_le _ _) (by rw [Yu]; omega)
  rw [Yh,Yc] at hon2
  refine sBi (fun c2=>?_) (fun c2=>?_)
  ·
   obtain ⟨q,gq⟩:=get_some (l:=O) (i:=j) (by omega)
   have hqm:q<y.m.mv.length:=by
    have:=hP.mem_iff.1 (Yb gq)
    obtain ⟨x,hx,_⟩:=outIx_mem.1 this
    exact (Ya.1 hx).1
   refine (hs.rows 2 (s:=r) (cs:=inC) rfl (by omega)).nbI (by omega) (by omega) fun b3 o3 q' gq' t3=>?_
   rw [Ys] at gq'
   replace gq':(natI O)[j]?=some q':=gq'
   obtain ⟨q2,gq2,rfl⟩:=natI_get gq'
   rw [gq] at gq2; cases gq2
   refine ⟨_,t3.hd,?_⟩
   refine hs.newput (vs:=stC (i:Int) q) rfl rfl fun h35 hs=>?_
   refine ⟨ss,sb,hs.at 2 rfl (o:=0) (n:=2) rfl,_,_,hs.at 0 rfl (o:=0) (n:=2) rfl,?_⟩
   refine (hpos (i:Int) (q:Int) h35 (hS.ext hs.ext) (hC.ext hs.ext)).mono ?_
   rintro _ h42 ⟨rfl,E⟩
   have hs:=hs.step E
   obtain ⟨x,gx⟩:=get_some hqm
   have hmd:mvD y.m q=x:=mvD_of gx
   have hpo:posS (L.map MR.m) k S BL (i:Int) (q:Int)=canS L.length k S BL i (mvD y.m q):=by
    unfold posS
    rw [hlm,if_neg (by omega),Ys,gm]
    show (if (q:Int)<0\/(y.m.mv.length:Int)<=(q:Int) then 2 else match y.m.mv[(q:Int).toNat]? with | none=>2 | some x=>canS L.length k S BL i x)=_
    rw [if_neg (by omega),Ys,gx,hmd]
   rw [hpo]
   refine ⟨_,rfl,sBe (fun c3=>?_) (fun c3=>?_)⟩
   ·
    have hp:posB L.length k S BL i y.m q=true:=decide_eq_true c3
    refine ⟨_,_,hs.at 0 rfl (o:=0) (n:=2) rfl,?_⟩
    refine hs.app 1 (s:=out2) (n:=2) (rows:=(((List.range i).flatMap (stepsR L.length k S BL (L.map MR.m)))++((O.take j).filter (posB L.length k S BL i y.m)).map fun q=>(i,q)).map stpC) rfl app39 (m:=1) [stC (i:Int) q] rfl rfl (fun r hr=>by rw [Ye] at hr; rw [hr]; rfl) rfl (by omega) (by simp only [maxLen]; omega) fun r2 h47 nr hs=>?_
    refine ⟨_,(show O.length - (j+1)<O.length - j by omega),j+1,by rw [w64 (by omega) (by omega)]; omega,rfl,by omega,?_⟩
    have e1:((O.take (j+1)).filter (posB L.length k S BL i y.m)).map (fun q=>(i,q))=((O.take j).filter (posB L.length k S BL i y.m)).map (fun q=>(i,q))++[(i,q)]:=by
     rw [take_snoc gq,List.filter_append,List.filter_cons_of_pos hp,List.filter_nil,Ym]; rfl
    rw [e1,<- Yz,Ym]
    exact hs.drop 1
   ·
    have hp:posB L.length k S BL i y.m q=false:=decide_eq_false c3
    refine ⟨_,(show O.length - (j+1)<O.length - j by omega),j+1,by rw [w64 (by omega) (by omega)]; omega,rfl,by omega,?_⟩
    rw [take_snoc gq,List.filter_append,List.filter_cons_of_neg (by rw [hp]; exact Bool.false_ne_true),List.filter_nil,Yw]
    exact hs.drop 1
  ·
   have hjl:j=O.length:=by omega
   subst hjl
   refine ⟨_,(show L.length - (i+1)<L.length - i by omega),i+1,by rw [w64 (by omega) (by omega)]; omega,rfl,by omega,?_⟩
   have e1:stepsR L.length k S BL (L.map MR.m) i=(O.filter (posB L.length k S BL i y.m)).map fun q=>(i,q):=by
    unfold stepsR
    rw [gm]
    show ((stepsP L.length k S BL i y.m).map fun q=>(i,q))=_
    unfold stepsP
    rw [hSg,<- hO]
   rw [List.range_succ,List.flatMap_append,List.flatMap_cons,List.flatMap_nil,Yw,e1]
   rw [Yye] at hs
   exact hs.sub (.cons_cons _ (.cons_cons _ (List.nil_sublist _)))
 ·
  have hil:i=L.length:=by omega
  subst hil
  refine ⟨hs.ext,out,rfl,?_⟩
  rw [hLL]
  have:=hs.len 0 (s:=out) rfl (by omega)
  exact ⟨hs.rows 0 rfl (by omega),this.2.1,this.2.2,by omega⟩
theorem steps16 (L:List MR) (s:Sl) (k:Int) (ss sb:Sl) (S:List Int) (B:List Bx) (h:Heap) (hS:SyI h s L) (hC:CfI h ss sb S B) :
  Fn Pz 16 #[.slice s.a s.n s.c,.int .i64 k,.agg ⟨[.slice ss.a ss.n ss.c,.slice sb.a sb.n sb.c]⟩] h fun v h'=>Ext h h'/\∃ (r:Sl) (e:Int) (l:List (Nat × Nat)),v=.tuple ⟨[.slice r.a r.n r.c,.int .i64 e]⟩/\RL h' 2 r stpC l/\(ProS (L.map MR.m) k S (B.map Bx.l)->e=0/\l=stepsS (L.map MR.m) k S (B.map Bx.l))/\(¬ ProS (L.map MR.m) k S (B.map Bx.l)->e=1/\l=[]):=by
 apply vc16 s k ss sb; unfold W16
 have hlm:(L.map MR.m).length=L.length:=Yc _
 have hbm:(B.map Bx.l).length=B.length:=Yc _
 refine (St.refl h).newb fun h3 hs=>?_
 refine ⟨ss,sb,hs.at 0 rfl (o:=0) (n:=2) rfl,?_⟩
 refine (proper24 L s k ss sb S B h3 (hS.ext hs.ext) (hC.ext hs.ext)).mono ?_
 rintro _ h8 ⟨⟨b,rfl,hb⟩,E⟩
 have hs:=hs.step E
 refine ⟨_,rfl,sB_intro (fun c=>?_) (fun c=>?_)⟩
 ·
  have hn:¬ ProS (L.map MR.m) k S (B.map Bx.l):=fun hp=>by rw [hb.2 hp] at c; cases c
  exact ⟨hs.ext,⟨none,0,0⟩,1,[],rfl,⟨Rw.nil,Yyt _,fun _=>⟨rfl,rfl⟩,Nat.zero_le _⟩,fun hp=>absurd hp hn,fun _=>⟨rfl,rfl⟩⟩
 ·
  have hp:=hb.1 (bT c)
  have h1:=hp.p.s
  have h2:=hp.p.b
  rw [hlm] at h1
  rw [hbm,hlm] at h2
  refine ⟨ss,sb,hs.at 0 rfl (o:=0) (n:=2) rfl,?_⟩
  refine (steps47 L s k ss sb S B h8 (hS.ext hs.ext) hp.v (hC.ext hs.ext) h1 h2).mono ?_
  rintro _ h13 ⟨E,r,rfl,hr⟩
  exact ⟨r,rfl,(hs.step E).ext,r,0,_,rfl,hr,fun _=>⟨rfl,rfl⟩,fun hn=>absurd hp hn⟩
theorem own17 (ss sb:Sl) (h:Heap):Fn Pz 17 #[.agg ⟨[.slice ss.a ss.n ss.c,.slice sb.a sb.n sb.c]⟩] h fun v h'=>v=cfA ss sb/\Ext h h':=by
 apply vc17 ss sb; unfold W17
 refine (St.refl h).newb fun h3 hs=>?_
 refine hs.newb fun h4 hs=>?_
 refine ⟨ss,sb,hs.at 1 rfl (o:=0) (n:=2) rfl,?_⟩
 refine hs.put 0 rfl (o:=0) (vs:=[.slice ss.a ss.n ss.c,.slice sb.a sb.n sb.c]) rfl (show 2<=2 by decide) fun h7 hs=>?_
 exact ⟨ss,sb,hs.at 0 rfl (o:=0) (n:=2) rfl,rfl,hs.ext⟩
end Go.VC
end

section
namespace Go.VC
open Go.Proofs

def W43 (p0_1:ByteArray) (p0_2 p0_3:Sl) (p0_4 p0_5 p0_6:Int) (p0_7 p0_8:Sl) (h:Heap) (R:Value->Heap->Prop):Prop:=
 (Wn h (L2 p0_1 p0_2 p0_3 p0_4 p0_5 p0_6 p0_7 p0_8) 92 fun h9=>
 (∃ x10 x11 x12 x13 x14 x15 x16 x17,aL2 h9 (aS h 0) x10 x11 x12 x13 x14 x15 x16 x17 /\
 (Fn Pz 77 #[.agg ⟨(L2 x10 x11 x12 x13 x14 x15 x16 x17)⟩] h9
 (fun v18 h20=>∃ x19,iB v18 x19 /\
 (sB (!x19)
 (R (.tuple ⟨[.slice none 0 0,vI 1]⟩) h20)
 ((∃ x21,rS h20 (aS h 1) x21 /\
 (QSI ⟨none,0,0⟩ 0 h20 fun I22 out_25 x_26 h27 m24=>(
 (sB (decide (x_26<(x21.n:Int)))
 ((∃ x28 x29 x30 x31 x32 x33 x34 x35,aL2 h27 (aS h 0) x28 x29 x30 x31 x32 x33 x34 x35 /\
 (Fn Pz 78 #[.agg ⟨(L2 x28 x29 x30 x31 x32 x33 x34 x35)⟩,vI x_26] h27
 (fun v36 h44=>∃ (x37 x38 x39:Int) (x40 x41 x42:Sl) (x43:Int),v36=.tuple ⟨[.agg ⟨(L1 x37 x38 x39 x40 x41 x42)⟩,vI x43]⟩ /\
 (Wn h44 [vI 0,vI 0,vI 0,.slice none 0 0,.slice none 0 0,.slice none 0 0] 55 fun h45=>
 (Wp h45 (aS h44 0) 6 (L1 x37 x38 x39 x40 x41 x42) fun h46=>
 (sB (x43 != 0)
 (R (.tuple ⟨[.slice none 0 0,vI x43]⟩) h46)
 ((∃ x47 x48 x49 x50 x51 x52,aL1 h46 (aS h44 0) x47 x48 x49 x50 x51 x52 /\
 (Wn h46 (L1 x47 x48 x49 x50 x51 x52) 55 fun h53=>
 (App Pz 22 22 (vS out_25) (.slice (some (aS h46 0)) 1 1) h53 fun s54 h55=>
 (∃ m56,m56<m24/\I22 s54 (IntKind.wrap .i64 (x_26+1)) h55 m56))))))))))))
 (R (.tuple ⟨[vS out_25,vI 0]⟩) h27)))))))))))
theorem vc43 (p0_1:ByteArray) (p0_2 p0_3:Sl) (p0_4 p0_5 p0_6:Int) (p0_7 p0_8:Sl) (h:Heap) (R:Value->Heap->Prop) (H:W43 p0_1 p0_2 p0_3 p0_4 p0_5 p0_6 p0_7 p0_8 h R):Fn Pz 43 #[.agg ⟨(L2 p0_1 p0_2 p0_3 p0_4 p0_5 p0_6 p0_7 p0_8)⟩] h R:=fnI (A:=(.s .z (.s .z (.s .z (.s (.s .z (.b (.l [(4,.one (.slice)),(14,.one (.int .i64))] .z))) .z))))) (by kernel_rfl) H

def W12  (h:Heap) (R:Value->Heap->Prop):Prop:=
 (Fn Pz 44 #[.bool true] h
 (fun v1 h10=>∃ (x2:ByteArray) (x3 x4:Sl) (x5 x6 x7:Int) (x8 x9:Sl),v1=.agg ⟨(L2 x2 x3 x4 x5 x6 x7 x8 x9)⟩ /\
 (Fn Pz 43 #[.agg ⟨(L2 x2 x3 x4 x5 x6 x7 x8 x9)⟩] h10
 (fun v11 h14=>∃ (x12:Sl) (x13:Int),v11=.tuple ⟨[vS x12,vI x13]⟩ /\
 (Fn Pz 14 #[vS x12] h14
 (fun v15 h19=>∃ (x16 x17:Sl) (x18:Int),v15=.tuple ⟨[.agg ⟨[vS x16,vS x17]⟩,vI x18]⟩ /\
 (Wn h19 [.slice none 0 0,.slice none 0 0] 29 fun h20=>
 (Wp h20 (aS h19 0) 2 [vS x16,vS x17] fun h21=>
 (∃ (x22 x23:Sl),atC h21 (aS h19 0) [vS x22,vS x23] /\
 (Fn Pz 16 #[vS x12,vI 1,.agg ⟨[vS x22,vS x23]⟩] h21
 (fun v24 h27=>∃ (x25:Sl) (x26:Int),v24=.tuple ⟨[vS x25,vI x26]⟩ /\
 (sB (x13 != 0)
 (R (.bool false) h27)
 ((sB (x18 != 0)
 (R (.bool false) h27)
 ((sB (x26 != 0)
 (R (.bool false) h27)
 ((sB ((x25.n:Int) != 2)
 (R (.bool false) h27)
 ((NB x25.a fun b28 o29=>(Ib 0 x25.n /\
 (∃ x30,rI h27 ⟨b28,o29+Int.toNat 0*2,none⟩ x30 /\
 (sB (x30 != 0)
 (R (.bool false) h27)
 ((NB x25.a fun b31 o32=>(Ib 1 x25.n /\
 (∃ x33,rI h27 ⟨b31,o32+Int.toNat 1*2,none⟩ x33 /\
 (sB (x33 != 0)
 (R (.bool false) h27)
 ((∃ (x34 x35:Sl),atC h27 (aS h19 0) [vS x34,vS x35] /\
 (NB x25.a fun b36 o37=>(Ib 0 x25.n /\
 (∃ (x38 x39:Int),atC h27 ⟨b36,o37+Int.toNat 0*2,none⟩ [vI x38,vI x39] /\
 ((Fn Pz 27 #[vS x12,vI 1,.agg ⟨[vS x34,vS x35]⟩,.agg ⟨[vI x38,vI x39]⟩] h27
 (fun v40 h44=>∃ (x41 x42:Sl) (x43:Int),v40=.tuple ⟨[.agg ⟨[vS x41,vS x42]⟩,vI x43]⟩ /\
 (Wn h44 [.slice none 0 0,.slice none 0 0] 29 fun h45=>
 (Sm [⟨b36,o37+Int.toNat 0*2,none⟩,(aS h19 0)] h44 h45 /\
 (Wp h45 (aS h44 0) 2 [vS x41,vS x42] fun h46=>
 (∃ (x47 x48:Sl),atC h46 (aS h44 0) [vS x47,vS x48] /\
 (Fn Pz 16 #[vS x12,vI 1,.agg ⟨[vS x47,vS x48]⟩] h46
 (fun v49 h52=>∃ (x50:Sl) (x51:Int),v49=.tuple ⟨[vS x50,vI x51]⟩ /\
 (sB (x43 == 0)
 ((sB (x51 == 0)
 ((sB ((x50.n:Int) == 1)
 ((NB x50.a fun b53 o54=>(Ib 0 x50.n /\
 (∃ x55,rI h52 ⟨b53,o54+Int.toNat 0*2,none⟩ x55 /\
 (sB (x55 == 1)
 ((∃ x56,rS h52 (aS h44 0) x56 /\
 (sB ((x56.n:Int) == 3)
 ((∃ x57,rS h52 (aS h44 0) x57 /\
 (NB x57.a fun b58 o59=>(Ib 0 x57.n /\
 (∃ x60,rI h52 ⟨b58,o59+Int.toNat 0*1,none⟩ x60 /\
 R (.bool (x60 == 1)) h52)))))
 (R (.bool false) h52))))
 (R (.bool false) h52))))))
 (R (.bool false) h52)))
 (R (.bool false) h52)))
 (R (.bool false) h52)))))))))))/\((Wn h27 [.slice none 0 0,.slice none 0 0] 29 fun h61=>
 (Sm [⟨b36,o37+Int.toNat 0*2,none⟩,(aS h19 0)] h27 h61 /\
 (Fn Pz 27 #[vS x12,vI 1,.agg ⟨[vS x34,vS x35]⟩,.agg ⟨[vI x38,vI x39]⟩] h61
 (fun v62 h66=>∃ (x63 x64:Sl) (x65:Int),v62=.tuple ⟨[.agg ⟨[vS x63,vS x64]⟩,vI x65]⟩ /\
 (Wp h66 (aS h27 0) 2 [vS x63,vS x64] fun h67=>
 (∃ (x68 x69:Sl),atC h67 (aS h27 0) [vS x68,vS x69] /\
 (Fn Pz 16 #[vS x12,vI 1,.agg ⟨[vS x68,vS x69]⟩] h67
 (fun v70 h73=>∃ (x71:Sl) (x72:Int),v70=.tuple ⟨[vS x71,vI x72]⟩ /\
 (sB (x65 == 0)
 ((sB (x72 == 0)
 ((sB ((x71.n:Int) == 1)
 ((NB x71.a fun b74 o75=>(Ib 0 x71.n /\
 (∃ x76,rI h73 ⟨b74,o75+Int.toNat 0*2,none⟩ x76 /\
 (sB (x76 == 1)
 ((∃ x77,rS h73 (aS h27 0) x77 /\
 (sB ((x77.n:Int) == 3)
 ((∃ x78,rS h73 (aS h27 0) x78 /\
 (NB x78.a fun b79 o80=>(Ib 0 x78.n /\
 (∃ x81,rI h73 ⟨b79,o80+Int.toNat 0*1,none⟩ x81 /\
 R (.bool (x81 == 1)) h73)))))
 (R (.bool false) h73))))
 (R (.bool false) h73))))))
 (R (.bool false) h73)))
 (R (.bool false) h73)))
 (R (.bool false) h73))))))))))))))))))))))))))))))))))))))))))))
theorem vc12e  (h:Heap) (R:Value->Heap->Prop):W12  h R=fnW Pz 12 .z #[] h R:=by kernel_rfl
theorem vc12  (h:Heap) (R:Value->Heap->Prop) (H:W12  h R):Fn Pz 12 #[] h R:=fnI (vc12e  h R) H

end Go.VC
end

section
/- Contracts: Start on both sides. (Numbers of layer 27's development dump.) -/
namespace Go.VC
open Go.Proofs Go.LexS
def StaV (L:List Mch) (h:Heap) (v:Value) (h':Heap):Prop:=∃ (ss sb:Sl) (S:List Int) (B:List Bx) (e:Int) (A:List It),v=.tuple ⟨[cfA ss sb,.int .i64 e]⟩/\St h h' A/\CfM A ss sb S B/\(SysV L->e=0/\S=startS L/\B=List.replicate (L.length*L.length) bx0)/\(¬ SysV L->e=1/\S=[]/\B=[])
theorem St.nil2 {h0 h:Heap} {A:List It} (hs:St h0 h A):St h0 h ([.sl ⟨none,0,0⟩ 3 1 [],.sl ⟨none,0,0⟩ 23 1 []]++A):=(hs.nil_ 23 1).nil_ 3 1
set_option maxHeartbeats 1600000 in
theorem start14 (L:List MR) (s:Sl) (h:Heap) (hS:SyI h s L):Fn Pz 14 #[.slice s.a s.n s.c] h fun v h'=>StaV (L.map MR.m) h v h':=by
 apply vc14 s; unfold W14
 have hn:=hS.r.ln
 have hlm:(L.map MR.m).length=L.length:=Yc _
 refine (St.refl h).newb fun h1 hs=>?_
 refine (valid22 L s h1 (hS.ext hs.ext)).mono ?_
 rintro _ h4 ⟨⟨b,rfl,hb⟩,E⟩
 have hs:=hs.step E
 refine ⟨_,rfl,sB_intro (fun c=>?_) (fun c=>?_)⟩
 ·
  have hn:¬ SysV (L.map MR.m):=fun hp=>by rw [hb.2 hp] at c; cases c
  refine hs.put 0 rfl (o:=0) (vs:=[.slice none 0 0,.slice none 0 0]) rfl (show 2<=2 by decide) fun h5 hs=>?_
  exact ⟨⟨none,0,0⟩,⟨none,0,0⟩,hs.at 0 rfl (o:=0) (n:=2) rfl,_,_,[],[],1,_,rfl,hs.nil2,CfM.none_.mono fun i hi=>List.mem_append_left _ hi,fun hp=>absurd hp hn,fun _=>⟨rfl,rfl,rfl⟩⟩
 ·
  have hv:=hb.1 (bT c)
  have h6:=hv.n
  rw [hlm] at h6
  have h36:=sq6 h6.2
  have hsq:(s.n:Int)*(s.n:Int)=((L.length*L.length:Nat):Int):=by rw [hn]; rfl
  generalize hnn:L.length*L.length=nn at *
  rw [hsq,w64 (n:=((nn:Nat):Int)) (by omega) (by omega),Ys]
  refine ⟨⟨by omega,by omega,by omega⟩,?_⟩
  refine hs.newb fun h8 hs=>?_
  have hs:=hs.blkS nn 1 ((List.replicate nn bx0).map Bx.cs) (by rw [made42,List.map_replicate,List.map_replicate]; rfl) (bxrows _) (by rw [Yc,Yg]) (by simp only [maxLen]; omega)
  refine hs.newput (vs:=[.slice none 0 0,.slice (some ⟨h4.size,0,none⟩) nn nn]) rfl rfl fun h10 hs=>?_
  have hs:=hs.nil_ 3 1
  have hSl:(startS (L.map MR.m)).length=L.length:=by unfold startS; rw [Yc,Yc]
  refine ⟨fun x h' μ=>∃ (i:Nat) (st:Sl),x=(i:Int)/\μ=L.length - i/\i<=L.length/\St h h' [.sl st 3 1 (((startS (L.map MR.m)).take i).map inC),.blk h8.size [.slice st.a st.n st.c,.slice (some ⟨h4.size,0,none⟩) nn nn] 29,.sl ⟨some ⟨h4.size,0,none⟩,nn,nn⟩ 23 1 ((List.replicate nn bx0).map Bx.cs),.blk h.size [.slice none 0 0,.slice none 0 0] 29],⟨_,0,_,rfl,rfl,Nat.zero_le _,hs⟩,?_⟩
  clear hs
  rintro - _ h15 μ ⟨i,st,rfl,rfl,hi,hs⟩
  refine sBi (fun c=>?_) (fun c=>?_)
  ·
   obtain ⟨y,gy⟩:=get_some (l:=L) (i:=i) (by omega)
   have gs:(startS (L.map MR.m))[i]?=some y.m.s:=by unfold startS; rw [Yd,Yd,gy]; rfl
   have hst:=(hs.rows 0 (s:=st) (cs:=inC) rfl (by omega)).ln
   rw [Yu] at hst
   refine (hS.r.rw.ext hs.ext).nbI (by omega) (by omega) fun b o y' gy' t=>?_
   rw [Ys] at gy'
   replace gy':L[i]?=some y':=gy'
   rw [gy] at gy'; cases gy'
   refine ⟨_,_,_,_,_,_,t,?_⟩
   refine hs.newput (vs:=mC y.m y.f y.g y.l) rfl rfl fun h25 hs=>?_
   refine ⟨st,hs.rd 2 rfl rfl,_,hs.rd 0 rfl (i:=2) rfl,?_⟩
   refine hs.app 1 (s:=st) (n:=1) (rows:=((startS (L.map MR.m)).take i).map inC) rfl app42 (m:=1) [inC y.m.s] rfl rfl (fun r hr=>by rw [Ye] at hr; rw [hr]; rfl) rfl (by omega) (by simp only [maxLen]; omega) fun r h30 nr hs=>?_
   refine hs.put 2 rfl (o:=0) (vs:=[.slice r.a r.n r.c]) rfl (show 1<=2 by decide) fun h31 hs=>?_
   refine ⟨_,(show L.length - (i+1)<L.length - i by omega),i+1,r,by rw [w64 (by omega) (by omega)]; omega,rfl,by omega,?_⟩
   rw [take_snoc gs,Ym]
   exact hs.drop 1
  ·
   have hil:i=L.length:=by omega
   subst hil
   rw [Yj (by omega)] at hs
   refine ⟨st,⟨some ⟨h4.size,0,none⟩,nn,nn⟩,hs.at 1 rfl (o:=0) (n:=2) rfl,?_⟩
   refine hs.put 3 rfl (o:=0) (vs:=[.slice st.a st.n st.c,.slice (some ⟨h4.size,0,none⟩) nn nn]) rfl (show 2<=2 by decide) fun h35 hs=>?_
   refine ⟨st,⟨some ⟨h4.size,0,none⟩,nn,nn⟩,hs.at 3 rfl (o:=0) (n:=2) rfl,st,_,_,_,0,_,rfl,hs,?_,fun _=>⟨rfl,rfl,by rw [hlm,hnn]⟩,fun hn=>absurd hv hn⟩
   refine ⟨Yx,Yn _ (Yn _ Yx),fun q hq=>.inl (List.eq_of_mem_replicate hq),by omega,by rw [Yg]; omega,fun q hq=>?_⟩
   rw [List.eq_of_mem_replicate hq]; exact Nat.zero_le _
end Go.VC
end

section
/- Contract: All (the machines of every role). (Numbers of layer 27's development dump.) -/
namespace Go.VC
open Go.Proofs Go.LexS
theorem app22:appB Pz 22 55 6 96=true:=by kernel_rfl
structure MrM (A:List It) (x:MR):Prop where
 f:It.sl x.f 4 1 (x.m.fin.map bC) ∈ A
 g:It.sl x.g 108 6 (x.m.mv.map Mv.cs) ∈ A
 l:It.sl x.l 190 3 (x.m.li.map To.cs) ∈ A
 n:x.m.fin.length<=1048576/\x.m.mv.length<=1048576/\x.m.li.length<=1048576
theorem MrM.mono {A A':List It} {x:MR} (h:MrM A x) (hA:∀ i ∈ A,i ∈ A'):MrM A' x:=⟨hA _ h.f,hA _ h.g,hA _ h.l,h.n⟩
theorem MrM.mi {h0 h:Heap} {A:List It} {x:MR} (hs:St h0 h A) (hM:MrM A x):MI h x.m x.f x.g x.l:=by
 obtain ⟨k1,e1⟩:=Yf.1 hM.f
 obtain ⟨k2,e2⟩:=Yf.1 hM.g
 obtain ⟨k3,e3⟩:=Yf.1 hM.l
 exact ⟨hs.rl k1 e1 (by omega) hM.n.1,hs.rl k2 e2 (by omega) hM.n.2.1,hs.rl k3 e3 (by omega) hM.n.2.2⟩
set_option maxHeartbeats 1600000 in
theorem all43 (g:Gl) (h:Heap) (hg:GI h g) (hx:Gx h) (hV:ValidS g) (Lm:List Mch) (hn:Lm.length=g.hr.n) (h6:Lm.length<=1048576)
  (hp:∀ (i:Nat) m,Lm[i]?=some m->proj g (i:Int)=(some m,0)/\m.fin.length<=1048576/\m.mv.length<=1048576/\m.li.length<=1048576) :
  Fn Pz 43 #[g.v] h fun v h'=>∃ (s:Sl) (L:List MR),v=.tuple ⟨[.slice s.a s.n s.c,.int .i64 0]⟩/\Ext h h'/\L.map MR.m=Lm/\SyI h' s L:=by
 apply vc43 (bs g.nm) g.hr g.hd g.n g.s g.e g.he g.ht; unfold W43
 refine (St.refl h).newb fun h9 hs=>?_
 refine ⟨_,_,_,_,_,_,_,_,hs.at 0 rfl (o:=0) (n:=8) rfl,?_⟩
 refine (valid38 g h9 (hg.ext hs.ext) (hx.ext hs.ext)).mono ?_
 rintro _ h20 ⟨rfl,E⟩
 have hs:=hs.step E
 refine ⟨_,rfl,?_⟩
 refine sB_f (by rw [decide_eq_true hV]; rfl) ?_
 refine ⟨g.hr,hs.rd 0 rfl (i:=1) rfl,?_⟩
 have hs:=hs.nil_ 55 6
 refine ⟨fun out x h' μ=>∃ (i:Nat) (L:List MR) (A:List It),x=(i:Int)/\μ=Lm.length - i/\i<=Lm.length/\L.map MR.m=Lm.take i/\St h h' (.sl out 55 6 (L.map MR.cs) :: .blk h.size [.string (bs g.nm),.slice g.hr.a g.hr.n g.hr.c,.slice g.hd.a g.hd.n g.hd.c,.int .i64 g.n,.int .i64 g.s,.int .i64 g.e,.slice g.he.a g.he.n g.he.c,.slice g.ht.a g.ht.n g.ht.c] 92::A)/\∀ x ∈ L,MrM A x,⟨_,0,[],[],rfl,rfl,Nat.zero_le _,rfl,hs,fun x hx=>(by cases hx)⟩,?_⟩
 clear hs
 rintro - out _ h27 μ ⟨i,L,A,rfl,rfl,hi,hL,hs,hM⟩
 have hLl:L.length=i:=by have:=congrArg List.length hL; rw [Yc,Yu] at this; omega
 have hst:=(hs.rows 0 (s:=out) (cs:=MR.cs) rfl (by omega)).ln
 refine sBi (fun c=>?_) (fun c=>?_)
 ·
  obtain ⟨m',gm⟩:=get_some (l:=Lm) (i:=i) (by omega)
  obtain ⟨hpr,hb⟩:=hp i m' gm
  refine ⟨_,_,_,_,_,_,_,_,hs.at 1 rfl (o:=0) (n:=8) rfl,?_⟩
  refine (project12 g (i:Int) h27 (hg.ext hs.ext) (hx.ext hs.ext)).mono ?_
  rintro _ h44 ⟨-,hm⟩
  rw [hpr] at hm
  cases hm with
  | err he0 _=>cases he0
  | @ok m sf sm sl he0 hs2=>
   cases he0
   have hs:=hs.join hs2
   refine ⟨_,_,_,sf,sm,sl,0,rfl,?_⟩
   refine hs.newput (vs:=mC m' sf sm sl) rfl rfl fun h46 hs=>?_
   refine sB_f rfl ?_
   refine ⟨_,_,_,sf,sm,sl,hs.at 0 rfl (o:=0) (n:=6) rfl,?_⟩
   refine hs.app 1 (s:=out) (n:=6) (rows:=L.map MR.cs) rfl app22 (m:=1) [mC m' sf sm sl] rfl rfl (fun r hr=>by rw [Ye] at hr; rw [hr]; rfl) rfl (by omega) (by simp only [maxLen]; omega) fun r h55 nr hs=>?_
   refine ⟨_,(show Lm.length - (i+1)<Lm.length - i by omega),i+1,L++[⟨m',sf,sm,sl⟩],A++[.sl sf 4 1 (m'.fin.map bC),.sl sm 108 6 (m'.mv.map Mv.cs),.sl sl 190 3 (m'.li.map To.cs)],by rw [w64 (by omega) (by omega)]; omega,rfl,by omega,?_,?_,?_⟩
   ·
    rw [take_snoc gm,Ym,hL]; rfl
   ·
    rw [Ym]; exact hs.drop 1
   ·
    intro x hx
    rcases Yk.1 hx with hx | hx
    ·
     exact (hM x hx).mono fun j hj=>List.mem_append_left _ hj
    ·
     rw [Ye] at hx; subst hx
     exact ⟨List.mem_append_right _ (Yx),List.mem_append_right _ (Yn _ Yx),List.mem_append_right _ (Yn _ (Yn _ Yx)),hb⟩
 ·
  have hil:i=Lm.length:=by omega
  rw [hil,Yj (Yyt _)] at hL
  refine ⟨out,L,rfl,hs.ext,hL,hs.rl 0 rfl (by omega) (by omega),fun x hx=>?_⟩
  exact MrM.mi hs ((hM x hx).mono fun j hj=>Yn _ (Yn _ hj))
end Go.VC
end

section
namespace Go.VC
open Go.Proofs

def W59 (p0_1 p0_2:Sl) (h:Heap) (R:Value->Heap->Prop):Prop:=
 (Wn h [vS p0_1,vS p0_2] 29 fun h3=>
 (Wn h3 [.slice none 0 0,.slice none 0 0] 29 fun h4=>
 (∃ x5,rS h4 (aS h 0) x5 /\
 (∃ x6,rS h4 (aS h 1) x6 /\
 ((Fn Pz 92 #[vS x5] h4
 (fun v7 h9=>∃ x8,iS v7 x8 /\
 (Sm [(aS h 1)] h4 h9 /\
 ((((0:Int)<=(x6.n:Int)/\((x6.n:Int):Int)<=(x6.n:Int)/\((24:Nat):Int)*(x6.n:Int)<=140737488355328)/\Wn h9 (madeL Pz 23 (Int.toNat (x6.n:Int))) 23 fun h10=>
 (Sm [(aS h 0)] h9 h10 /\
 (Wn h10 [.slice none 0 0,.slice none 0 0] 29 fun h11=>
 (Sm [(aS h 1),(aS h 0)] h10 h11 /\
 (Wp h11 (aS h10 0) 2 [vS x8,.slice (some (aS h9 0)) (Int.toNat (x6.n:Int)) (Int.toNat (x6.n:Int))] fun h12=>
 (∃ x13,rS h12 (aS h 1) x13 /\
 (QI 0 h12 fun I14 x_17 h18 m16=>(
 (sB (decide (x_17<(x13.n:Int)))
 ((NB x13.a fun b19 o20=>(Ib x_17 x13.n /\
 (∃ x21,rS h18 ⟨b19,o20+Int.toNat x_17*1,none⟩ x21 /\
 (∃ x22,rS h18 (aS h10 1) x22 /\
 (Fn Pz 92 #[vS x21] h18
 (fun v23 h25=>∃ x24,iS v23 x24 /\
 (Sm [(aS h10 1)] h18 h25 /\
 (NB x22.a fun b26 o27=>(Ib x_17 x22.n /\
 (Wp h25 ⟨b26,o27+Int.toNat x_17*1,none⟩ 1 [vS x24] fun h28=>
 (∃ m29,m29<m16/\I14 (IntKind.wrap .i64 (x_17+1)) h28 m29))))))))))))
 ((∃ (x30 x31:Sl),atC h18 (aS h10 0) [vS x30,vS x31] /\
 (Wp h18 (aS h3 0) 2 [vS x30,vS x31] fun h32=>
 (∃ (x33 x34:Sl),atC h32 (aS h3 0) [vS x33,vS x34] /\
 R (.agg ⟨[vS x33,vS x34]⟩) h32))))))))))))))/\((Wn h9 [.slice none 0 0,.slice none 0 0] 29 fun h35=>
 (Sm [(aS h 1),(aS h 0)] h9 h35 /\
 (((0:Int)<=(x6.n:Int)/\((x6.n:Int):Int)<=(x6.n:Int)/\((24:Nat):Int)*(x6.n:Int)<=140737488355328)/\Wn h35 (madeL Pz 23 (Int.toNat (x6.n:Int))) 23 fun h36=>
 (Sm [(aS h 0)] h35 h36 /\
 (Wp h36 (aS h9 0) 2 [vS x8,.slice (some (aS h35 0)) (Int.toNat (x6.n:Int)) (Int.toNat (x6.n:Int))] fun h37=>
 (∃ x38,rS h37 (aS h 1) x38 /\
 (QI 0 h37 fun I39 x_42 h43 m41=>(
 (sB (decide (x_42<(x38.n:Int)))
 ((NB x38.a fun b44 o45=>(Ib x_42 x38.n /\
 (∃ x46,rS h43 ⟨b44,o45+Int.toNat x_42*1,none⟩ x46 /\
 (∃ x47,rS h43 (aS h9 1) x47 /\
 (Fn Pz 92 #[vS x46] h43
 (fun v48 h50=>∃ x49,iS v48 x49 /\
 (Sm [(aS h9 1)] h43 h50 /\
 (NB x47.a fun b51 o52=>(Ib x_42 x47.n /\
 (Wp h50 ⟨b51,o52+Int.toNat x_42*1,none⟩ 1 [vS x49] fun h53=>
 (∃ m54,m54<m41/\I39 (IntKind.wrap .i64 (x_42+1)) h53 m54))))))))))))
 ((∃ (x55 x56:Sl),atC h43 (aS h9 0) [vS x55,vS x56] /\
 (Wp h43 (aS h3 0) 2 [vS x55,vS x56] fun h57=>
 (∃ (x58 x59:Sl),atC h57 (aS h3 0) [vS x58,vS x59] /\
 R (.agg ⟨[vS x58,vS x59]⟩) h57))))))))))))))))))/\((((0:Int)<=(x6.n:Int)/\((x6.n:Int):Int)<=(x6.n:Int)/\((24:Nat):Int)*(x6.n:Int)<=140737488355328)/\Wn h4 (madeL Pz 23 (Int.toNat (x6.n:Int))) 23 fun h60=>
 (Sm [(aS h 0)] h4 h60 /\
 ((Fn Pz 92 #[vS x5] h60
 (fun v61 h63=>∃ x62,iS v61 x62 /\
 (Sm [(aS h 1)] h60 h63 /\
 (Wn h63 [.slice none 0 0,.slice none 0 0] 29 fun h64=>
 (Sm [(aS h 1),(aS h 0)] h63 h64 /\
 (Wp h64 (aS h63 0) 2 [vS x62,.slice (some (aS h4 0)) (Int.toNat (x6.n:Int)) (Int.toNat (x6.n:Int))] fun h65=>
 (∃ x66,rS h65 (aS h 1) x66 /\
 (QI 0 h65 fun I67 x_70 h71 m69=>(
 (sB (decide (x_70<(x66.n:Int)))
 ((NB x66.a fun b72 o73=>(Ib x_70 x66.n /\
 (∃ x74,rS h71 ⟨b72,o73+Int.toNat x_70*1,none⟩ x74 /\
 (∃ x75,rS h71 (aS h63 1) x75 /\
 (Fn Pz 92 #[vS x74] h71
 (fun v76 h78=>∃ x77,iS v76 x77 /\
 (Sm [(aS h63 1)] h71 h78 /\
 (NB x75.a fun b79 o80=>(Ib x_70 x75.n /\
 (Wp h78 ⟨b79,o80+Int.toNat x_70*1,none⟩ 1 [vS x77] fun h81=>
 (∃ m82,m82<m69/\I67 (IntKind.wrap .i64 (x_70+1)) h81 m82))))))))))))
 ((∃ (x83 x84:Sl),atC h71 (aS h63 0) [vS x83,vS x84] /\
 (Wp h71 (aS h3 0) 2 [vS x83,vS x84] fun h85=>
 (∃ (x86 x87:Sl),atC h85 (aS h3 0) [vS x86,vS x87] /\
 R (.agg ⟨[vS x86,vS x87]⟩) h85)))))))))))))))/\((Wn h60 [.slice none 0 0,.slice none 0 0] 29 fun h88=>
 (Sm [(aS h 1),(aS h 0)] h60 h88 /\
 (Fn Pz 92 #[vS x5] h88
 (fun v89 h91=>∃ x90,iS v89 x90 /\
 (Sm [(aS h 1)] h88 h91 /\
 (Wp h91 (aS h60 0) 2 [vS x90,.slice (some (aS h4 0)) (Int.toNat (x6.n:Int)) (Int.toNat (x6.n:Int))] fun h92=>
 (∃ x93,rS h92 (aS h 1) x93 /\
 (QI 0 h92 fun I94 x_97 h98 m96=>(
 (sB (decide (x_97<(x93.n:Int)))
 ((NB x93.a fun b99 o100=>(Ib x_97 x93.n /\
 (∃ x101,rS h98 ⟨b99,o100+Int.toNat x_97*1,none⟩ x101 /\
 (∃ x102,rS h98 (aS h60 1) x102 /\
 (Fn Pz 92 #[vS x101] h98
 (fun v103 h105=>∃ x104,iS v103 x104 /\
 (Sm [(aS h60 1)] h98 h105 /\
 (NB x102.a fun b106 o107=>(Ib x_97 x102.n /\
 (Wp h105 ⟨b106,o107+Int.toNat x_97*1,none⟩ 1 [vS x104] fun h108=>
 (∃ m109,m109<m96/\I94 (IntKind.wrap .i64 (x_97+1)) h108 m109))))))))))))
 ((∃ (x110 x111:Sl),atC h98 (aS h60 0) [vS x110,vS x111] /\
 (Wp h98 (aS h3 0) 2 [vS x110,vS x111] fun h112=>
 (∃ (x113 x114:Sl),atC h112 (aS h3 0) [vS x113,vS x114] /\
 R (.agg ⟨[vS x113,vS x114]⟩) h112))))))))))))))))))/\((Wn h4 [.slice none 0 0,.slice none 0 0] 29 fun h115=>
 (Sm [(aS h 1),(aS h 0)] h4 h115 /\
 ((Fn Pz 92 #[vS x5] h115
 (fun v116 h118=>∃ x117,iS v116 x117 /\
 (Sm [(aS h 1)] h115 h118 /\
 (((0:Int)<=(x6.n:Int)/\((x6.n:Int):Int)<=(x6.n:Int)/\((24:Nat):Int)*(x6.n:Int)<=140737488355328)/\Wn h118 (madeL Pz 23 (Int.toNat (x6.n:Int))) 23 fun h119=>
 (Sm [(aS h 0)] h118 h119 /\
 (Wp h119 (aS h4 0) 2 [vS x117,.slice (some (aS h118 0)) (Int.toNat (x6.n:Int)) (Int.toNat (x6.n:Int))] fun h120=>
 (∃ x121,rS h120 (aS h 1) x121 /\
 (QI 0 h120 fun I122 x_125 h126 m124=>(
 (sB (decide (x_125<(x121.n:Int)))
 ((NB x121.a fun b127 o128=>(Ib x_125 x121.n /\
 (∃ x129,rS h126 ⟨b127,o128+Int.toNat x_125*1,none⟩ x129 /\
 (∃ x130,rS h126 (aS h4 1) x130 /\
 (Fn Pz 92 #[vS x129] h126
 (fun v131 h133=>∃ x132,iS v131 x132 /\
 (Sm [(aS h4 1)] h126 h133 /\
 (NB x130.a fun b134 o135=>(Ib x_125 x130.n /\
 (Wp h133 ⟨b134,o135+Int.toNat x_125*1,none⟩ 1 [vS x132] fun h136=>
 (∃ m137,m137<m124/\I122 (IntKind.wrap .i64 (x_125+1)) h136 m137))))))))))))
 ((∃ (x138 x139:Sl),atC h126 (aS h4 0) [vS x138,vS x139] /\
 (Wp h126 (aS h3 0) 2 [vS x138,vS x139] fun h140=>
 (∃ (x141 x142:Sl),atC h140 (aS h3 0) [vS x141,vS x142] /\
 R (.agg ⟨[vS x141,vS x142]⟩) h140)))))))))))))))/\((((0:Int)<=(x6.n:Int)/\((x6.n:Int):Int)<=(x6.n:Int)/\((24:Nat):Int)*(x6.n:Int)<=140737488355328)/\Wn h115 (madeL Pz 23 (Int.toNat (x6.n:Int))) 23 fun h143=>
 (Sm [(aS h 0)] h115 h143 /\
 (Fn Pz 92 #[vS x5] h143
 (fun v144 h146=>∃ x145,iS v144 x145 /\
 (Sm [(aS h 1)] h143 h146 /\
 (Wp h146 (aS h4 0) 2 [vS x145,.slice (some (aS h115 0)) (Int.toNat (x6.n:Int)) (Int.toNat (x6.n:Int))] fun h147=>
 (∃ x148,rS h147 (aS h 1) x148 /\
 (QI 0 h147 fun I149 x_152 h153 m151=>(
 (sB (decide (x_152<(x148.n:Int)))
 ((NB x148.a fun b154 o155=>(Ib x_152 x148.n /\
 (∃ x156,rS h153 ⟨b154,o155+Int.toNat x_152*1,none⟩ x156 /\
 (∃ x157,rS h153 (aS h4 1) x157 /\
 (Fn Pz 92 #[vS x156] h153
 (fun v158 h160=>∃ x159,iS v158 x159 /\
 (Sm [(aS h4 1)] h153 h160 /\
 (NB x157.a fun b161 o162=>(Ib x_152 x157.n /\
 (Wp h160 ⟨b161,o162+Int.toNat x_152*1,none⟩ 1 [vS x159] fun h163=>
 (∃ m164,m164<m151/\I149 (IntKind.wrap .i64 (x_152+1)) h163 m164))))))))))))
 ((∃ (x165 x166:Sl),atC h153 (aS h4 0) [vS x165,vS x166] /\
 (Wp h153 (aS h3 0) 2 [vS x165,vS x166] fun h167=>
 (∃ (x168 x169:Sl),atC h167 (aS h3 0) [vS x168,vS x169] /\
 R (.agg ⟨[vS x168,vS x169]⟩) h167))))))))))))))))))))))
theorem vc59 (p0_1 p0_2:Sl) (h:Heap) (R:Value->Heap->Prop) (H:W59 p0_1 p0_2 h R):Fn Pz 59 #[.agg ⟨[vS p0_1,vS p0_2]⟩] h R:=fnI (A:=(.s .z (.s .z (.s (.s .z (.b (.l [(17,.one (.int .i64))] .z))) .z)))) (by kernel_rfl) H

def W57 (p0:Sl) (p1_1 p1_2:Int) (h:Heap) (R:Value->Heap->Prop):Prop:=
 (Wn h [vI p1_1,vI p1_2] 57 fun h3=>
 (Wn h3 [vI 0,.bool false,vI 0,vI 0,vI 0,.bool false] 108 fun h4=>
 (∃ x5,rI h4 (aS h 0) x5 /\
 (sB (decide (x5<0))
 ((Wp h4 (aS h3 0) 6 [vI 0,.bool false,vI 0,vI 0,vI 0,.bool false] fun h6=>
 (∃ x7 x8 x9 x10 x11 x12,aL0 h6 (aS h3 0) x7 x8 x9 x10 x11 x12 /\
 R (.tuple ⟨[.agg ⟨(L0 x7 x8 x9 x10 x11 x12)⟩,.bool false]⟩) h6)))
 ((∃ x13,rI h4 (aS h 0) x13 /\
 (sB (decide (x13 >= (p0.n:Int)))
 ((Wp h4 (aS h3 0) 6 [vI 0,.bool false,vI 0,vI 0,vI 0,.bool false] fun h14=>
 (∃ x15 x16 x17 x18 x19 x20,aL0 h14 (aS h3 0) x15 x16 x17 x18 x19 x20 /\
 R (.tuple ⟨[.agg ⟨(L0 x15 x16 x17 x18 x19 x20)⟩,.bool false]⟩) h14)))
 ((∃ x21,rI h4 (aS h 1) x21 /\
 (sB (decide (x21<0))
 ((Wp h4 (aS h3 0) 6 [vI 0,.bool false,vI 0,vI 0,vI 0,.bool false] fun h22=>
 (∃ x23 x24 x25 x26 x27 x28,aL0 h22 (aS h3 0) x23 x24 x25 x26 x27 x28 /\
 R (.tuple ⟨[.agg ⟨(L0 x23 x24 x25 x26 x27 x28)⟩,.bool false]⟩) h22)))
 ((∃ x29,rI h4 (aS h 1) x29 /\
 (∃ x30,rI h4 (aS h 0) x30 /\
 (NB p0.a fun b31 o32=>(Ib x30 p0.n /\
 (∃ x33,rS h4 ⟨b31,o32+Int.toNat x30*6+4,none⟩ x33 /\
 (sB (decide (x29 >= (x33.n:Int)))
 ((Wp h4 (aS h3 0) 6 [vI 0,.bool false,vI 0,vI 0,vI 0,.bool false] fun h34=>
 (∃ x35 x36 x37 x38 x39 x40,aL0 h34 (aS h3 0) x35 x36 x37 x38 x39 x40 /\
 R (.tuple ⟨[.agg ⟨(L0 x35 x36 x37 x38 x39 x40)⟩,.bool false]⟩) h34)))
 ((∃ x41,rI h4 (aS h 0) x41 /\
 (NB p0.a fun b42 o43=>(Ib x41 p0.n /\
 (∃ x44,rS h4 ⟨b42,o43+Int.toNat x41*6+4,none⟩ x44 /\
 (∃ x45,rI h4 (aS h 1) x45 /\
 (NB x44.a fun b46 o47=>(Ib x45 x44.n /\
 (∃ x48 x49 x50 x51 x52 x53,aL0 h4 ⟨b46,o47+Int.toNat x45*6,none⟩ x48 x49 x50 x51 x52 x53 /\
 (Wp h4 (aS h3 0) 6 (L0 x48 x49 x50 x51 x52 x53) fun h54=>
 (∃ x55 x56 x57 x58 x59 x60,aL0 h54 (aS h3 0) x55 x56 x57 x58 x59 x60 /\
 R (.tuple ⟨[.agg ⟨(L0 x55 x56 x57 x58 x59 x60)⟩,.bool true]⟩) h54))))))))))))))))))))))))))))
theorem vc57 (p0:Sl) (p1_1 p1_2:Int) (h:Heap) (R:Value->Heap->Prop) (H:W57 p0 p1_1 p1_2 h R):Fn Pz 57 #[vS p0,.agg ⟨[vI p1_1,vI p1_2]⟩] h R:=fnI (A:=.z) (by kernel_rfl) H

def W27 (p0:Sl) (p1:Int) (p2_1 p2_2:Sl) (p3_3 p3_4:Int) (h:Heap) (R:Value->Heap->Prop):Prop:=
 (Wn h [vS p2_1,vS p2_2] 29 fun h5=>
 (Wn h5 [vI p3_3,vI p3_4] 57 fun h6=>
 (Wn h6 [.slice none 0 0,.slice none 0 0] 29 fun h7=>
 (∃ (x8 x9:Sl),atC h7 (aS h 0) [vS x8,vS x9] /\
 (Fn Pz 24 #[vS p0,vI p1,.agg ⟨[vS x8,vS x9]⟩] h7
 (fun v10 h12=>∃ x11,iB v10 x11 /\
 (sB (!x11)
 ((Wp h12 (aS h6 0) 2 [.slice none 0 0,.slice none 0 0] fun h13=>
 (∃ (x14 x15:Sl),atC h13 (aS h6 0) [vS x14,vS x15] /\
 R (.tuple ⟨[.agg ⟨[vS x14,vS x15]⟩,vI 1]⟩) h13)))
 ((∃ (x16 x17:Int),atC h12 (aS h5 0) [vI x16,vI x17] /\
 (Fn Pz 57 #[vS p0,.agg ⟨[vI x16,vI x17]⟩] h12
 (fun v18 h26=>∃ (x19:Int) (x20:Bool) (x21 x22 x23:Int) (x24 x25:Bool),v18=.tuple ⟨[.agg ⟨(L0 x19 x20 x21 x22 x23 x24)⟩,.bool x25]⟩ /\
 (Wn h26 [vI 0,.bool false,vI 0,vI 0,vI 0,.bool false] 108 fun h27=>
 (Wp h27 (aS h26 0) 6 (L0 x19 x20 x21 x22 x23 x24) fun h28=>
 (sB (!x25)
 ((Wp h28 (aS h6 0) 2 [.slice none 0 0,.slice none 0 0] fun h29=>
 (∃ (x30 x31:Sl),atC h29 (aS h6 0) [vS x30,vS x31] /\
 R (.tuple ⟨[.agg ⟨[vS x30,vS x31]⟩,vI 2]⟩) h29)))
 ((∃ (x32 x33:Sl),atC h28 (aS h 0) [vS x32,vS x33] /\
 (∃ x34,rI h28 (aS h5 0) x34 /\
 (∃ x35 x36 x37 x38 x39 x40,aL0 h28 (aS h26 0) x35 x36 x37 x38 x39 x40 /\
 (Fn Pz 58 #[vI (p0.n:Int),vI p1,.agg ⟨[vS x32,vS x33]⟩,vI x34,.agg ⟨(L0 x35 x36 x37 x38 x39 x40)⟩] h28
 (fun v41 h43=>∃ x42,iI v41 x42 /\
 (sB (x42 != 0)
 ((Wp h43 (aS h6 0) 2 [.slice none 0 0,.slice none 0 0] fun h44=>
 (∃ (x45 x46:Sl),atC h44 (aS h6 0) [vS x45,vS x46] /\
 R (.tuple ⟨[.agg ⟨[vS x45,vS x46]⟩,vI x42]⟩) h44)))
 ((∃ (x47 x48:Sl),atC h43 (aS h 0) [vS x47,vS x48] /\
 (Fn Pz 59 #[.agg ⟨[vS x47,vS x48]⟩] h43
 (fun v49 h52=>∃ (x50 x51:Sl),v49=.agg ⟨[vS x50,vS x51]⟩ /\
 (Wn h52 [.slice none 0 0,.slice none 0 0] 29 fun h53=>
 (Wp h53 (aS h52 0) 2 [vS x50,vS x51] fun h54=>
 (∃ x55,rS h54 (aS h52 0) x55 /\
 (∃ x56,rI h54 (aS h5 0) x56 /\
 (∃ x57,rI h54 (aS h26 4) x57 /\
 (NB x55.a fun b58 o59=>(Ib x56 x55.n /\
 (Wp h54 ⟨b58,o59+Int.toNat x56*1,none⟩ 1 [vI x57] fun h60=>
 (∃ x61,rI h60 (aS h5 0) x61 /\
 (∃ x62 x63 x64 x65 x66 x67,aL0 h60 (aS h26 0) x62 x63 x64 x65 x66 x67 /\
 (Fn Pz 60 #[vI (p0.n:Int),vI x61,.agg ⟨(L0 x62 x63 x64 x65 x66 x67)⟩] h60
 (fun v68 h70=>∃ x69,iI v68 x69 /\
 (∃ x71,rB h70 (aS h26 1) x71 /\
 (sB x71
 ((∃ x72,rS h70 (aS h52 1) x72 /\
 (∃ x73,rS h70 (aS h52 1) x73 /\
 (NB x73.a fun b74 o75=>(Ib x69 x73.n /\
 (∃ x76,rS h70 ⟨b74,o75+Int.toNat x69*1,none⟩ x76 /\
 (∃ x77,rI h70 (aS h26 3) x77 /\
 (Wn h70 [vI x77] 3 fun h78=>
 (Sm [⟨b74,o75+Int.toNat x69*1,none⟩,(aS h52 1),(aS h52 1)] h70 h78 /\
 (App Pz 23 23 (vS x76) (.slice (some (aS h70 0)) 1 1) h78 fun s79 h80=>
 (Sm [(aS h52 1)] h78 h80 /\
 (NB x72.a fun b81 o82=>(Ib x69 x72.n /\
 (Wp h80 ⟨b81,o82+Int.toNat x69*1,none⟩ 1 [vS s79] fun h83=>
 (∃ (x84 x85:Sl),atC h83 (aS h52 0) [vS x84,vS x85] /\
 (Wp h83 (aS h6 0) 2 [vS x84,vS x85] fun h86=>
 (∃ (x87 x88:Sl),atC h86 (aS h6 0) [vS x87,vS x88] /\
 R (.tuple ⟨[.agg ⟨[vS x87,vS x88]⟩,vI 0]⟩) h86)))))))))))))))))
 ((∃ x89,rS h70 (aS h52 1) x89 /\
 (∃ x90,rS h70 (aS h52 1) x90 /\
 (NB x90.a fun b91 o92=>(Ib x69 x90.n /\
 (∃ x93,rS h70 ⟨b91,o92+Int.toNat x69*1,none⟩ x93 /\
 (((0:Int)<=(1:Int)/\(1:Int)<=((x93.n:Nat):Int)/\((x93.n:Nat):Int)<=(x93.c:Nat)) /\
 (NB x89.a fun b94 o95=>(Ib x69 x89.n /\
 (Wp h70 ⟨b94,o95+Int.toNat x69*1,none⟩ 1 [.slice (subA x93.a (Int.toNat 1) x93.c 1) (Int.toNat (x93.n:Nat) - Int.toNat 1) (x93.c - Int.toNat 1)] fun h96=>
 (∃ (x97 x98:Sl),atC h96 (aS h52 0) [vS x97,vS x98] /\
 (Wp h96 (aS h6 0) 2 [vS x97,vS x98] fun h99=>
 (∃ (x100 x101:Sl),atC h99 (aS h6 0) [vS x100,vS x101] /\
 R (.tuple ⟨[.agg ⟨[vS x100,vS x101]⟩,vI 0]⟩) h99))))))))))))))))))))))))))))))))))))))))))))))))))))
theorem vc27 (p0:Sl) (p1:Int) (p2_1 p2_2:Sl) (p3_3 p3_4:Int) (h:Heap) (R:Value->Heap->Prop) (H:W27 p0 p1 p2_1 p2_2 p3_3 p3_4 h R):Fn Pz 27 #[vS p0,vI p1,.agg ⟨[vS p2_1,vS p2_2]⟩,.agg ⟨[vI p3_3,vI p3_4]⟩] h R:=fnI (A:=.z) (by kernel_rfl) H

end Go.VC
end

section
namespace Go.VC
open Go.Proofs

def W92 (p0:Sl) (h:Heap) (R:Value->Heap->Prop):Prop:=
 (sB (Option.isNone p0.a)
 (R (.slice none 0 0) h)
 ((Wn h [] 3 fun h1=>
 (App Pz 23 23 (.slice (some (aS h 0)) 0 0) (vS p0) h1 fun s2 h3=>
 R (vS s2) h3))))
theorem vc92 (p0:Sl) (h:Heap) (R:Value->Heap->Prop) (H:W92 p0 h R):Fn Pz 92 #[vS p0] h R:=fnI (A:=.z) (by kernel_rfl) H

end Go.VC
end

section
/- Contracts: clones of lists and configurations, moves by number. (Numbers of layer 27's development dump.) -/
namespace Go.VC
open Go.Proofs Go.LexS
theorem clone92 (l:List Int) (s:Sl) (h:Heap) (hr:RL h 1 s inC l):Fn Pz 92 #[.slice s.a s.n s.c] h fun v h'=>∃ t:Sl,v=.slice t.a t.n t.c/\St h h' [.sl t 3 1 (l.map inC)]:=by
 apply vc92 s; unfold W92
 have hn:=hr.ln
 have hsm:=hr.sm
 refine sB_intro (fun c=>?_) (fun c=>?_)
 ·
  have h0:=hr.nil (Option.isNone_iff_eq_none.1 c)
  have:l=[]:=List.eq_nil_of_length_eq_zero (by omega)
  subst this
  exact ⟨⟨none,0,0⟩,rfl,(St.refl h).nil_ 3 1⟩
 ·
  refine (St.refl h).newb fun h1 hs=>?_
  have hs:=hs.blkS 0 1 [] rfl (fun r hr=>by cases hr) rfl (Nat.zero_le _)
  refine hs.appRw 0 (s:=⟨some ⟨h.size,0,none⟩,0,0⟩) (rows:=[]) (y:=s) rfl app42 (hr.rw.ext hs.ext) (inrows' l) hr.nil (flat_oneB (fun _=>rfl) _) (by show (0+s.n)*8<=_; omega) (by show 0+s.n<=_; simp only [maxLen]; omega) fun r h3 _ hs=>?_
  exact ⟨r,rfl,hs⟩
def clB (ob b0 b3:Nat) (h12:Heap) (R:Value->Heap->Prop):Prop:=
 (∃ x13:Sl,hc h12 ⟨b0,1,none⟩=some (.slice x13.a x13.n x13.c) /\ 
 (∃ I14:Int->Heap->Nat->Prop,(∃ m15,I14 0 h12 m15) /\ 
 (∀ (_:Env) (x_17:Int) (h18:Heap) (m16:Nat),I14 x_17 h18 m16 -> 
 (sB (decide (x_17<(x13.n:Int))) 
  ((NB x13.a fun b19 o20=>((0<=(x_17:Int)/\(x_17:Int)<(x13.n:Nat)) /\ 
  (∃ x21:Sl,hc h18 ⟨b19,o20+Int.toNat x_17*1,none⟩=some (.slice x21.a x21.n x21.c) /\ 
  (∃ x22:Sl,hc h18 ⟨ob,1,none⟩=some (.slice x22.a x22.n x22.c) /\ 
  (Fn Pz 92 #[.slice x21.a x21.n x21.c] h18 
  (fun v23 h25=>∃ x24:Sl,v23=.slice x24.a x24.n x24.c /\ 
  (Sm [⟨ob,1,none⟩] h18 h25 /\ 
  (NB x22.a fun b26 o27=>((0<=(x_17:Int)/\(x_17:Int)<(x22.n:Nat)) /\ 
  (okAt h25 ⟨b26,o27+Int.toNat x_17*1,none⟩ 1/\∀ h28:Heap,h28=hputs h25 ⟨b26,o27+Int.toNat x_17*1,none⟩ 0 [.slice x24.a x24.n x24.c] -> 
  (∃ m29,m29<m16/\I14 (IntKind.wrap .i64 (x_17+1)) h28 m29)))))))))))) 
  ((∃ x30:Sl,∃ x31:Sl,atC h18 ⟨ob,0,none⟩ [.slice x30.a x30.n x30.c,.slice x31.a x31.n x31.c] /\ 
  (okAt h18 ⟨b3,0,none⟩ 2/\∀ h32:Heap,h32=hputs h18 ⟨b3,0,none⟩ 0 [.slice x30.a x30.n x30.c,.slice x31.a x31.n x31.c] -> 
  (∃ x33:Sl,∃ x34:Sl,atC h32 ⟨b3,0,none⟩ [.slice x33.a x33.n x33.c,.slice x34.a x34.n x34.c] /\ 
  R (.agg ⟨[.slice x33.a x33.n x33.c,.slice x34.a x34.n x34.c]⟩) h32))))))))
def CloV (S:List Int) (B:List Bx) (h:Heap) (v:Value) (h':Heap):Prop:=∃ (ts tb:Sl) (T:List Bx),v=cfA ts tb/\T.map Bx.l=B.map Bx.l/\St h h' ([.sl ts 3 1 (S.map inC),.sl tb 23 1 (T.map Bx.cs)]++T.map Bx.it)
theorem set_grow {α:Type} {T:List α} {i k:Nat} {z x:α} (hT:T.length=i):(T++List.replicate (k+1) z).set i x=(T++[x])++List.replicate k z:=by
 subst hT
 rw [List.set_append_right _ _ (Yyt _),Nat.sub_self,List.replicate_succ,List.set_cons_zero,Yz]; rfl
set_option maxHeartbeats 1600000 in
theorem cloneB (ob b0 b3:Nat) (ss sb ts tb u1 u2:Sl) (S:List Int) (B:List Bx) (h h12:Heap) (hC:CfI h ss sb S B)
  (hs:St h h12 [.blk ob [.slice ts.a ts.n ts.c,.slice tb.a tb.n tb.c] 29,.sl tb 23 1 ((List.replicate B.length bx0).map Bx.cs),.blk b3 [.slice u1.a u1.n u1.c,.slice u2.a u2.n u2.c] 29,.blk b0 [.slice ss.a ss.n ss.c,.slice sb.a sb.n sb.c] 29,.sl ts 3 1 (S.map inC)]) :
  clB ob b0 b3 h12 (CloV S B h):=by
 unfold clB
 have hbn:=hC.b.ln
 have hbs:=hC.b.sm
 refine ⟨sb,hs.rd 3 rfl (i:=1) rfl,?_⟩
 refine ⟨fun x h' μ=>∃ (i:Nat) (T:List Bx),x=(i:Int)/\μ=B.length - i/\i<=B.length/\T.map Bx.l=(B.take i).map Bx.l/\St h h' (.blk ob [.slice ts.a ts.n ts.c,.slice tb.a tb.n tb.c] 29 :: .sl tb 23 1 ((T++List.replicate (B.length - i) bx0).map Bx.cs) :: .blk b3 [.slice u1.a u1.n u1.c,.slice u2.a u2.n u2.c] 29 :: .blk b0 [.slice ss.a ss.n ss.c,.slice sb.a sb.n sb.c] 29 :: .sl ts 3 1 (S.map inC)::T.map Bx.it),⟨_,0,[],rfl,rfl,Nat.zero_le _,rfl,hs⟩,?_⟩
 clear hs
 rintro - _ h18 μ ⟨i,T,rfl,rfl,hi,hT,hs⟩
 have hTl:T.length=i:=by have:=congrArg List.length hT; rw [Yc,Yc,Yu] at this; omega
 have htb:=(hs.rows 1 (s:=tb) (cs:=Bx.cs) rfl (by omega)).ln
 rw [Yh,Yg] at htb
 refine sBi (fun c=>?_) (fun c=>?_)
 ·
  obtain ⟨q,gq⟩:=get_some (l:=B) (i:=i) (by omega)
  refine (hC.b.rw.ext hs.ext).nbI (by omega) (by omega) fun b o q' gq' t=>?_
  rw [Ys] at gq'
  rw [gq] at gq'; cases gq'
  refine ⟨q.s,t.hd,tb,hs.rd 0 rfl (i:=1) rfl,?_⟩
  refine (clone92 q.l q.s h18 ((hC.i q (Yb gq)).ext hs.ext)).mono ?_
  rintro _ h25 ⟨u,rfl,hs2⟩
  have hs:=hs.join hs2
  refine ⟨u,rfl,hs2.ext.sm,?_⟩
  refine hs.set 1 (s:=tb) (cs:=Bx.cs) (x:=(i:Int)) rfl (by omega) (by omega) (by omega) (⟨u,q.l⟩:Bx) rfl rfl (fun b o h28 hs=>?_) rfl
  refine ⟨_,(show B.length - (i+1)<B.length - i by omega),i+1,T++[⟨u,q.l⟩],by rw [w64 (by omega) (by omega)]; omega,rfl,by omega,?_,?_⟩
  ·
   rw [take_snoc gq,Ym,Ym,hT]; rfl
  ·
   have e:=set_grow (k:=B.length - (i+1)) (z:=bx0) (x:=(⟨u,q.l⟩:Bx)) hTl
   rw [show B.length - (i+1)+1=B.length - i by omega] at e
   rw [Ys,e] at hs
   rw [Ym (f:=Bx.it)]
   exact hs
 ·
  have hil:i=B.length:=by omega
  rw [hil,Nat.sub_self,List.replicate_zero,Yw] at hs
  rw [hil,Yj (Yyt _)] at hT
  refine ⟨ts,tb,hs.at 0 rfl (o:=0) (n:=2) rfl,?_⟩
  refine hs.put 2 rfl (o:=0) (vs:=[.slice ts.a ts.n ts.c,.slice tb.a tb.n tb.c]) rfl (show 2<=2 by decide) fun h32 hs=>?_
  refine ⟨ts,tb,hs.at 2 rfl (o:=0) (n:=2) rfl,ts,tb,T,rfl,hT,?_⟩
  refine (hs.sub (L':=.sl tb 23 1 (T.map Bx.cs) :: .sl ts 3 1 (S.map inC)::T.map Bx.it) ?_).perm (List.Perm.swap _ _ _)
  exact List.Sublist.cons _ (List.Sublist.cons_cons _ (List.Sublist.cons _ (List.Sublist.cons _ (List.Sublist.refl _))))
end Go.VC
end

section
/- Contracts: clone of a configuration, move by number. (Numbers of layer 27's development dump.) -/
namespace Go.VC
open Go.Proofs Go.LexS
theorem boxes0 (n:Nat):madeL Pz 23 n=((List.replicate n bx0).map Bx.cs).flatten:=by rw [made42,List.map_replicate,List.map_replicate]; rfl
set_option maxHeartbeats 3200000 in
theorem clone59 (ss sb:Sl) (S:List Int) (B:List Bx) (h:Heap) (hC:CfI h ss sb S B) :
  Fn Pz 59 #[.agg ⟨[.slice ss.a ss.n ss.c,.slice sb.a sb.n sb.c]⟩] h (CloV S B h):=by
 apply vc59 ss sb; unfold W59
 have hbn:=hC.b.ln
 have hbs:=hC.b.sm
 refine (St.refl h).newb fun h3 hs=>?_
 refine hs.newb fun h4 hs=>?_
 refine ⟨ss,hs.rd 1 rfl (i:=0) rfl,sb,hs.rd 1 rfl (i:=1) rfl,?_⟩
 rw [Ys]
 have hc:((0:Int)<=(sb.n:Int)/\((sb.n:Int):Int)<=(sb.n:Int)/\((24:Nat):Int)*(sb.n:Int)<=140737488355328):=⟨by omega,by omega,by omega⟩
 have mk:∀ {hX:Heap} {b:Nat} {L:List It},St h hX (.blk b (madeL Pz 23 sb.n) 23::L)->St h hX (.sl ⟨some ⟨b,0,none⟩,sb.n,sb.n⟩ 23 1 ((List.replicate B.length bx0).map Bx.cs)::L):=fun hs=>
  hs.blkS sb.n 1 _ (by rw [hbn]; exact boxes0 _) (bxrows _) (by rw [Yc,Yg,hbn]) (by simp only [maxLen]; omega)
 refine And.intro ?_ (And.intro ?_ ?_)
 ·
  refine (clone92 S ss h4 (hC.s.ext hs.ext)).mono ?_
  rintro _ h9 ⟨ts,rfl,hs2⟩
  have hs:=hs.join hs2
  refine ⟨ts,rfl,hs2.ext.sm,And.intro ?_ ?_⟩
  ·
   refine ⟨hc,hs.newbE fun h10 E10 hs=>⟨E10.sm,?_⟩⟩
   have hs:=mk hs
   refine hs.newbE fun h11 E11 hs=>⟨E11.sm,?_⟩
   refine hs.put 0 rfl (o:=0) (vs:=[.slice ts.a ts.n ts.c,.slice (some ⟨h9.size,0,none⟩) sb.n sb.n]) rfl (show 2<=2 by decide) fun h12 hs=>?_
   exact cloneB _ _ _ ss sb ts ⟨some ⟨h9.size,0,none⟩,sb.n,sb.n⟩ ⟨none,0,0⟩ ⟨none,0,0⟩ S B h h12 hC hs
  ·
   refine hs.newbE fun h10 E10 hs=>⟨E10.sm,hc,?_⟩
   refine hs.newbE fun h11 E11 hs=>⟨E11.sm,?_⟩
   have hs:=mk hs
   refine hs.put 1 rfl (o:=0) (vs:=[.slice ts.a ts.n ts.c,.slice (some ⟨h10.size,0,none⟩) sb.n sb.n]) rfl (show 2<=2 by decide) fun h12 hs=>?_
   exact cloneB _ _ _ ss sb ts ⟨some ⟨h10.size,0,none⟩,sb.n,sb.n⟩ ⟨none,0,0⟩ ⟨none,0,0⟩ S B h h12 hC (hs.perm (List.Perm.swap _ _ _))
 ·
  refine ⟨hc,hs.newbE fun h10 E10 hs=>⟨E10.sm,?_⟩⟩
  have hs:=mk hs
  refine And.intro ?_ ?_
  ·
   refine (clone92 S ss h10 (hC.s.ext hs.ext)).mono ?_
   rintro _ h9 ⟨ts,rfl,hs2⟩
   have hs:=hs.join hs2
   refine ⟨ts,rfl,hs2.ext.sm,?_⟩
   refine hs.newbE fun h11 E11 hs=>⟨E11.sm,?_⟩
   refine hs.put 0 rfl (o:=0) (vs:=[.slice ts.a ts.n ts.c,.slice (some ⟨h4.size,0,none⟩) sb.n sb.n]) rfl (show 2<=2 by decide) fun h12 hs=>?_
   exact cloneB _ _ _ ss sb ts ⟨some ⟨h4.size,0,none⟩,sb.n,sb.n⟩ ⟨none,0,0⟩ ⟨none,0,0⟩ S B h h12 hC hs
  ·
   refine hs.newbE fun h11 E11 hs=>⟨E11.sm,?_⟩
   refine (clone92 S ss h11 (hC.s.ext hs.ext)).mono ?_
   rintro _ h9 ⟨ts,rfl,hs2⟩
   have hs:=hs.join hs2
   refine ⟨ts,rfl,hs2.ext.sm,?_⟩
   refine hs.put 0 rfl (o:=0) (vs:=[.slice ts.a ts.n ts.c,.slice (some ⟨h4.size,0,none⟩) sb.n sb.n]) rfl (show 2<=2 by decide) fun h12 hs=>?_
   exact cloneB _ _ _ ss sb ts ⟨some ⟨h4.size,0,none⟩,sb.n,sb.n⟩ ⟨none,0,0⟩ ⟨none,0,0⟩ S B h h12 hC hs
 ·
  refine hs.newbE fun h10 E10 hs=>⟨E10.sm,And.intro ?_ ?_⟩
  ·
   refine (clone92 S ss h10 (hC.s.ext hs.ext)).mono ?_
   rintro _ h9 ⟨ts,rfl,hs2⟩
   have hs:=hs.join hs2
   refine ⟨ts,rfl,hs2.ext.sm,hc,?_⟩
   refine hs.newbE fun h11 E11 hs=>⟨E11.sm,?_⟩
   have hs:=mk hs
   refine hs.put 1 rfl (o:=0) (vs:=[.slice ts.a ts.n ts.c,.slice (some ⟨h9.size,0,none⟩) sb.n sb.n]) rfl (show 2<=2 by decide) fun h12 hs=>?_
   exact cloneB _ _ _ ss sb ts ⟨some ⟨h9.size,0,none⟩,sb.n,sb.n⟩ ⟨none,0,0⟩ ⟨none,0,0⟩ S B h h12 hC (hs.perm (List.Perm.swap _ _ _))
  ·
   refine ⟨hc,hs.newbE fun h11 E11 hs=>⟨E11.sm,?_⟩⟩
   have hs:=mk hs
   refine (clone92 S ss h11 (hC.s.ext hs.ext)).mono ?_
   rintro _ h9 ⟨ts,rfl,hs2⟩
   have hs:=hs.join hs2
   refine ⟨ts,rfl,hs2.ext.sm,?_⟩
   refine hs.put 1 rfl (o:=0) (vs:=[.slice ts.a ts.n ts.c,.slice (some ⟨h10.size,0,none⟩) sb.n sb.n]) rfl (show 2<=2 by decide) fun h12 hs=>?_
   exact cloneB _ _ _ ss sb ts ⟨some ⟨h10.size,0,none⟩,sb.n,sb.n⟩ ⟨none,0,0⟩ ⟨none,0,0⟩ S B h h12 hC (hs.perm (List.Perm.swap _ _ _))
def mvO (L:List Mch) (r i:Int):Option Mv:=if r<0\/(L.length:Int)<=r then none else match L[r.toNat]? with
 | none=>none
 | some m=>if i<0\/(m.mv.length:Int)<=i then none else m.mv[i.toNat]?
def mv00:Mv:=⟨0,false,0,0,0,false⟩
def MovV (o:Option Mv):Value:=match o with
 | none=>.tuple ⟨[.agg ⟨mv00.cs⟩,.bool false]⟩
 | some x=>.tuple ⟨[.agg ⟨x.cs⟩,.bool true]⟩
set_option maxHeartbeats 1600000 in
theorem move57 (L:List MR) (s:Sl) (r i:Int) (h:Heap) (hS:SyI h s L) :
  Fn Pz 57 #[.slice s.a s.n s.c,.agg ⟨[.int .i64 r,.int .i64 i]⟩] h fun v h'=>v=MovV (mvO (L.map MR.m) r i)/\Ext h h':=by
 apply vc57 s r i; unfold W57
 have hn:=hS.r.ln
 have hlm:(L.map MR.m).length=L.length:=Yc _
 refine (St.refl h).newb fun h3 hs=>?_
 refine hs.newb fun h4 hs=>?_
 have no:∀ {h5:Heap},St h h5 [.blk h3.size mv00.cs 108,.blk h.size [.int .i64 r,.int .i64 i] 57]->mvO (L.map MR.m) r i=none->(okAt h5 ⟨h3.size,0,none⟩ 6/\∀ h6:Heap,h6=hputs h5 ⟨h3.size,0,none⟩ 0 [.int .i64 0,.bool false,.int .i64 0,.int .i64 0,.int .i64 0,.bool false] -> 
   (∃ x7:Int,∃ x8:Bool,∃ x9:Int,∃ x10:Int,∃ x11:Int,∃ x12:Bool,atC h6 ⟨h3.size,0,none⟩ [.int .i64 x7,.bool x8,.int .i64 x9,.int .i64 x10,.int .i64 x11,.bool x12] /\ 
   (Value.tuple ⟨[.agg ⟨[.int .i64 x7,.bool x8,.int .i64 x9,.int .i64 x10,.int .i64 x11,.bool x12]⟩,.bool false]⟩=MovV (mvO (L.map MR.m) r i)/\Ext h h6))):=fun {h5} hs e=>by
  refine hs.put 0 rfl (o:=0) (vs:=mv00.cs) rfl (show 6<=6 by decide) fun h6 hs=>?_
  exact ⟨_,_,_,_,_,_,hs.at 0 rfl (o:=0) (n:=6) rfl,by rw [e]; rfl,hs.ext⟩
 refine ⟨_,hs.rd 1 rfl (i:=0) rfl,sBi (fun c=>no hs (by unfold mvO; rw [if_pos (.inl c)])) (fun c1=>?_)⟩
 refine ⟨_,hs.rd 1 rfl (i:=0) rfl,sBi (fun c=>no hs (by unfold mvO; rw [if_pos (.inr (by omega))])) (fun c2=>?_)⟩
 obtain ⟨p,rfl⟩:∃ p:Nat,r=(p:Int):=⟨r.toNat,by omega⟩
 have hp:p<L.length:=by omega
 obtain ⟨y,gy⟩:=get_some (l:=L) (i:=p) hp
 have gm:(L.map MR.m)[p]?=some y.m:=by rw [Yd,gy]; rfl
 have hmv:mvO (L.map MR.m) (p:Int) i=if i<0\/(y.m.mv.length:Int)<=i then none else y.m.mv[i.toNat]?:=by
  unfold mvO; rw [if_neg (by omega),Ys,gm]
 have hyi:=hS.i y (Yb gy)
 have hgn:=hyi.pm.ln
 refine ⟨_,hs.rd 1 rfl (i:=1) rfl,sBi (fun c=>no hs (by rw [hmv,if_pos (.inl c)])) (fun c3=>?_)⟩
 refine ⟨_,hs.rd 1 rfl (i:=1) rfl,_,hs.rd 1 rfl (i:=0) rfl,?_⟩
 have rdL:∀ {F:Nat->Nat->Prop} {h':Heap},Ext h h'->(∀ b o,atC h' ⟨b,o+p*6,none⟩ y.cs->F b o)->NB s.a fun b o=>(0<=(p:Int)/\(p:Int)<(s.n:Nat))/\F b o:=fun {F h'} E hF=>(hS.r.rw.ext E).nbI (by omega) (by omega) fun b o y' gy' t=>by
  rw [Ys] at gy' t
  replace gy':L[p]?=some y':=gy'
  rw [gy] at gy'; cases gy'
  exact hF b o t
 refine rdL hs.ext fun b1 o1 t1=>?_
 refine ⟨y.g,t1.nth 4 rfl,sBi (fun c=>no hs (by rw [hmv,if_pos (.inr (by omega))])) (fun c4=>?_)⟩
 obtain ⟨j,rfl⟩:∃ j:Nat,i=(j:Int):=⟨i.toNat,by omega⟩
 obtain ⟨x,gx⟩:=get_some (l:=y.m.mv) (i:=j) (by omega)
 refine ⟨_,hs.rd 1 rfl (i:=0) rfl,rdL hs.ext fun b2 o2 t2=>?_⟩
 refine ⟨y.g,t2.nth 4 rfl,_,hs.rd 1 rfl (i:=1) rfl,?_⟩
 refine (hyi.pm.rw.ext hs.ext).nbI (by omega) (by omega) fun b3 o3 x' gx' t3=>?_
 rw [Ys] at gx'
 replace gx':y.m.mv[j]?=some x':=gx'
 rw [gx] at gx'; cases gx'
 refine ⟨_,_,_,_,_,_,t3,?_⟩
 refine hs.put 0 rfl (o:=0) (vs:=x.cs) rfl (show 6<=6 by decide) fun h29 hs=>?_
 refine ⟨_,_,_,_,_,_,hs.at 0 rfl (o:=0) (n:=6) rfl,?_,hs.ext⟩
 rw [hmv,if_neg (by omega),Ys,gx]; rfl
end Go.VC
end

section
/- Contract: Do. (Numbers of layer 27's development dump.) -/
namespace Go.VC
open Go.Proofs Go.LexS
theorem St.smbO {h0 h h1 h':Heap} {L L':List It} (hs:St h0 h L) (hs':St h1 h' L') (k k' o:Nat) {b:Nat} {xs:List Value} {e:TypeId} (hk:L[k]?=some (.blk b xs e)) (hk':L'[k']?=some (.blk b xs e)):Sm [⟨b,o,none⟩] h h':=by
 intro a ha i v hv
 rw [Ye.1 ha] at hv ⊢
 have e1:h[b]?=some (.cells ⟨xs⟩ e):=hs.get hk
 have e2:h'[b]?=some (.cells ⟨xs⟩ e):=hs'.get hk'
 have e3:h'[b]?=h[b]?:=by rw [e1,e2]
 rw [hc_of_block (h:=h) (h':=h') (a:=addk ⟨b,o,none⟩ i) (by rw [addk_block']; exact e3)]
 exact hv
def doB (n p:Nat) (x:Mv) (BL:List (List Int)):List (List Int):=BL.set (bxI n p x) (if x.send=true then BL.getD (bxI n p x) []++[x.label] else (BL.getD (bxI n p x) []).tail)
open Classical in
noncomputable def doS (L:List Mch) (k:Int) (S:List Int) (BL:List (List Int)) (r i:Int):Int × List Int × List (List Int):=
 if ProS L k S BL then match mvO L r i with
  | none=>(2,[],[])
  | some x=>if canS L.length k S BL r.toNat x=0 then (0,S.set r.toNat x.t,doB L.length r.toNat x BL) else (canS L.length k S BL r.toNat x,[],[])
 else (1,[],[])
def DoV (o:Int × List Int × List (List Int)) (h:Heap) (v:Value) (h':Heap):Prop:=∃ (ts tb:Sl) (T:List Bx) (A:List It),v=.tuple ⟨[cfA ts tb,.int .i64 o.1]⟩/\T.map Bx.l=o.2.2/\St h h' A/\CfM A ts tb o.2.1 T
theorem DoV.none_ {o:Int × List Int × List (List Int)} {h h':Heap} {A:List It} {e:Int} (hs:St h h' A) (ho:o=(e,[],[])):DoV o h (.tuple ⟨[.agg ⟨[.slice none 0 0,.slice none 0 0]⟩,.int .i64 e]⟩) h':=by
 subst ho; exact ⟨⟨none,0,0⟩,⟨none,0,0⟩,[],_,rfl,rfl,hs.nil2,CfM.none_.mono fun i hi=>List.mem_append_left _ hi⟩
theorem mvO_some {L:List Mch} {r i:Int} {x:Mv} (h:mvO L r i=some x):∃ p:Nat,r=(p:Int)/\∃ m,L[p]?=some m/\x ∈ m.mv:=by
 unfold mvO at h
 split at h
 ·
  cases h
 ·
  rename_i c
  refine ⟨r.toNat,by omega,?_⟩
  split at h
  ·
   cases h
  ·
   rename_i m gm
   split at h
   ·
    cases h
   ·
    exact ⟨m,gm,Yb h⟩
theorem getD_map {B:List Bx} {j:Nat} {q:Bx} (h:B[j]?=some q):(B.map Bx.l).getD j []=q.l:=by
 rw [Yo,Yd,h]; rfl
set_option maxHeartbeats 3200000 in
theorem do27 (L:List MR) (s:Sl) (k:Int) (ss sb:Sl) (S:List Int) (B:List Bx) (r i:Int) (h:Heap) (hS:SyI h s L) (hC:CfI h ss sb S B) :
  Fn Pz 27 #[.slice s.a s.n s.c,.int .i64 k,.agg ⟨[.slice ss.a ss.n ss.c,.slice sb.a sb.n sb.c]⟩,.agg ⟨[.int .i64 r,.int .i64 i]⟩] h (DoV (doS (L.map MR.m) k S (B.map Bx.l) r i) h):=by
 apply vc27 s k ss sb r i; unfold W27
 have hn:=hS.r.ln
 have hlm:(L.map MR.m).length=s.n:=by rw [Yc,hn]
 have hbm:(B.map Bx.l).length=B.length:=Yc _
 refine (St.refl h).newb fun h5 hs=>?_
 refine hs.newb fun h6 hs=>?_
 refine hs.newb fun h7 hs=>?_
 refine ⟨ss,sb,hs.at 2 rfl (o:=0) (n:=2) rfl,?_⟩
 refine (proper24 L s k ss sb S B h7 (hS.ext hs.ext) (hC.ext hs.ext)).mono ?_
 rintro _ h12 ⟨⟨b,rfl,hb⟩,E⟩
 have hs:=hs.step E
 refine ⟨_,rfl,sB_intro (fun c=>?_) (fun c=>?_)⟩
 ·
  have hnp:¬ ProS (L.map MR.m) k S (B.map Bx.l):=fun hp=>by rw [hb.2 hp] at c; cases c
  refine hs.put 0 rfl (o:=0) (vs:=[.slice none 0 0,.slice none 0 0]) rfl (show 2<=2 by decide) fun h13 hs=>?_
  exact ⟨⟨none,0,0⟩,⟨none,0,0⟩,hs.at 0 rfl (o:=0) (n:=2) rfl,DoV.none_ hs (by unfold doS; rw [if_neg hnp])⟩
 have hP:=hb.1 (bT c)
 have hV6:=hP.v.n
 have hSl:S.length=s.n:=by rw [hP.p.s,hlm]
 have hBl:B.length=s.n*s.n:=by rw [<- hbm,hP.p.b,hlm]
 rw [hlm] at hV6
 have h36:=sq6 hV6.2
 refine ⟨r,i,hs.at 1 rfl (o:=0) (n:=2) rfl,?_⟩
 refine (move57 L s r i h12 (hS.ext hs.ext)).mono ?_
 rintro v h26 ⟨hv,E⟩
 have hs:=hs.step E
 cases hmo:mvO (L.map MR.m) r i with
 | none=>
  rw [hmo] at hv; subst hv
  refine ⟨_,_,_,_,_,_,false,rfl,?_⟩
  refine hs.newput (vs:=mv00.cs) rfl rfl fun h28 hs=>sB_t rfl ?_
  refine hs.put 1 rfl (o:=0) (vs:=[.slice none 0 0,.slice none 0 0]) rfl (show 2<=2 by decide) fun h29 hs=>?_
  exact ⟨⟨none,0,0⟩,⟨none,0,0⟩,hs.at 1 rfl (o:=0) (n:=2) rfl,DoV.none_ hs (by unfold doS; rw [if_pos hP,hmo])⟩
 | some x=>
  rw [hmo] at hv; subst hv
  have hdo:doS (L.map MR.m) k S (B.map Bx.l) r i=if canS s.n k S (B.map Bx.l) r.toNat x=0 then (0,S.set r.toNat x.t,doB s.n r.toNat x (B.map Bx.l)) else (canS s.n k S (B.map Bx.l) r.toNat x,[],[]):=by
   unfold doS; rw [if_pos hP,hmo,<- hlm]
  obtain ⟨p,rfl,m,gm,hxm⟩:=mvO_some hmo
  rw [hdo]; clear hdo hmo
  rw [Ys]
  have hp:p<s.n:=by rw [<- hlm]; exact (Ya.1 gm).1
  have hvm:=hP.v.m p m gm
  have hx0:0<=x.peer:=(hvm.2.1.n.mv x hxm).2.2.2.2.1
  have hx1:x.peer<(s.n:Int):=by have:=hvm.2.2 x hxm; rw [hlm] at this; exact this
  have hj:=bxI_lt (n:=s.n) (x:=x) hp hx0 hx1
  refine ⟨x.f,x.send,x.peer,x.label,x.t,x.ag,true,rfl,?_⟩
  refine hs.newput (vs:=x.cs) rfl rfl fun h28 hs=>sB_f rfl ?_
  refine ⟨ss,sb,hs.at 3 rfl (o:=0) (n:=2) rfl,(p:Int),hs.rd 2 rfl (i:=0) rfl,x.f,x.send,x.peer,x.label,x.t,x.ag,hs.at 0 rfl (o:=0) (n:=6) rfl,?_⟩
  refine (can58 s.n k ss sb S B p x h28 (hC.ext hs.ext) hV6.2 hSl hBl hp hx0 hx1).mono ?_
  rintro _ h43 ⟨rfl,E⟩
  have hs:=hs.step E
  refine ⟨_,rfl,sBn (fun c=>?_) (fun c=>?_)⟩
  ·
   refine hs.put 1 rfl (o:=0) (vs:=[.slice none 0 0,.slice none 0 0]) rfl (show 2<=2 by decide) fun h29 hs=>?_
   exact ⟨⟨none,0,0⟩,⟨none,0,0⟩,hs.at 1 rfl (o:=0) (n:=2) rfl,DoV.none_ hs (by rw [if_neg c])⟩
  rw [if_pos c]
  refine ⟨ss,sb,hs.at 3 rfl (o:=0) (n:=2) rfl,?_⟩
  refine (clone59 ss sb S B h43 (hC.ext hs.ext)).mono ?_
  rintro _ h52 ⟨ts,tb,T,rfl,hT,hs2⟩
  have hs:=hs.join hs2
  have hTl:T.length=B.length:=by rw [<- Yc (f:=Bx.l),hT,hbm]
  refine ⟨ts,tb,rfl,?_⟩
  refine hs.newput (vs:=[.slice ts.a ts.n ts.c,.slice tb.a tb.n tb.c]) rfl rfl fun h54 hs=>?_
  have hts:=(hs.rows 5 (s:=ts) (cs:=inC) rfl (by omega)).ln
  have htb:=(hs.rows 6 (s:=tb) (cs:=Bx.cs) rfl (by omega)).ln
  refine ⟨ts,hs.rd 0 rfl (i:=0) rfl,(p:Int),hs.rd 3 rfl (i:=0) rfl,x.t,hs.rd 1 rfl (i:=4) rfl,?_⟩
  refine hs.set 5 (s:=ts) (cs:=inC) (x:=(p:Int)) rfl (by omega) (by omega) (by omega) x.t rfl rfl (fun b o h60 hs=>?_) rfl
  refine ⟨(p:Int),hs.rd 3 rfl (i:=0) rfl,x.f,x.send,x.peer,x.label,x.t,x.ag,hs.at 1 rfl (o:=0) (n:=6) rfl,?_⟩
  refine (box60 s.n p x h60 hV6.2 hp hx0 hx1).mono ?_
  rintro _ h70 ⟨rfl,E⟩
  have hs:=hs.step E
  rw [Ys] at hs
  have hBd:=hP.p.bx
  unfold doB
  generalize hjj:bxI s.n p x=j at hj ⊢
  obtain ⟨q,gq⟩:=get_some (l:=T) (i:=j) (by omega)
  have hql:(B.map Bx.l).getD j []=q.l:=by rw [<- hT]; exact getD_map gq
  have hqb:(B.map Bx.l)[j]?=some q.l:=by rw [<- hT,Yd,gq]; rfl
  have hqk:=(hBd j q.l hqb).1
  have hk4:=hP.c.2
  have hall:∀ z ∈ T,z.l.length<=4:=fun z hz=>by
   obtain ⟨j',gj⟩:=Yf.1 hz
   have:=(hBd j' z.l (by rw [<- hT,Yd,gj]; rfl)).1
   omega
  have hsl:(S.set p x.t).length<=1048576:=by rw [Yyh]; omega
  have rdB:∀ {h':Heap} {L':List It} {F:Nat->Nat->Prop} (kk:Nat),St h h' L'->L'[kk]?=some (.sl tb 23 1 (T.map Bx.cs))->(∀ b o,hc h' ⟨b,o+Int.toNat (j:Int)*1,none⟩=some (.slice q.s.a q.s.n q.s.c)->F b o)->NB tb.a fun b o=>(0<=(j:Int)/\(j:Int)<(tb.n:Nat))/\F b o:=fun kk hs hk hF=>
   (hs.rows kk (s:=tb) (cs:=Bx.cs) hk (by omega)).nbI (by omega) (by omega) fun b o q' gq' t=>by
    rw [Ys,gq] at gq'; cases gq'; exact hF b o t.hd
  refine ⟨(j:Int),rfl,x.send,hs.rd 1 rfl (i:=1) rfl,sB_intro (fun d=>?_) (fun d=>?_)⟩
  ·
   rw [if_pos d]
   refine ⟨tb,hs.rd 0 rfl (i:=1) rfl,tb,hs.rd 0 rfl (i:=1) rfl,rdB 6 hs rfl fun b o t=>?_⟩
   refine ⟨q.s,t,x.label,hs.rd 1 rfl (i:=3) rfl,?_⟩
   refine hs.newbE fun h78 E78 hs=>⟨E78.sm,?_⟩
   have hs78:=hs
   have hqi:(T.map Bx.it)[j]?=some q.it:=by rw [Yd,gq]; rfl
   have hqn:=(hs.len (j+8) (s:=q.s) (e:=3) (n:=1) (rows:=q.l.map inC) hqi (by omega)).1
   rw [Yc] at hqn
   have hq4:=hall q (Yb gq)
   refine hs.appended (j+8) (s:=q.s) (n:=1) (rows:=q.l.map inC) hqi app42 (m:=1) (news:=[inC x.label]) (hs.at 0 rfl (n:=1) rfl) rfl (by simp [inC]) rfl (by omega) (by simp only [maxLen]; omega) fun u h80 nr hs=>?_
   refine ⟨hs78.smbO hs 1 1 1 rfl rfl,?_⟩
   refine hs.set 7 (s:=tb) (cs:=Bx.cs) (x:=(j:Int)) rfl (by omega) (by omega) (by omega) (⟨u,q.l++[x.label]⟩:Bx) rfl rfl (fun b o h83 hs=>?_) rfl
   refine ⟨ts,tb,hs.at 1 rfl (o:=0) (n:=2) rfl,?_⟩
   refine hs.put 3 rfl (o:=0) (vs:=[.slice ts.a ts.n ts.c,.slice tb.a tb.n tb.c]) rfl (show 2<=2 by decide) fun h86 hs=>?_
   rw [Ys] at hs
   refine ⟨ts,tb,hs.at 3 rfl (o:=0) (n:=2) rfl,ts,tb,T.set j ⟨u,q.l++[x.label]⟩,_,rfl,?_,hs,?_⟩
   ·
    rw [List.map_set,hT,hql]
   ·
    refine ⟨Yb (i:=6) rfl,Yb (i:=7) rfl,fun z hz=>.inr (.inl ?_),hsl,by rw [Yyh]; omega,fun z hz=>?_⟩
    ·
     obtain ⟨j',gj⟩:=Yf.1 hz
     refine Yb (i:=j'+8) ?_
     show ((T.map Bx.it).set j (.sl u 3 1 (q.l.map inC++[inC x.label])))[j']?=_
     have e1:It.sl u 3 1 (q.l.map inC++[inC x.label])=Bx.it ⟨u,q.l++[x.label]⟩:=by unfold Bx.it; rw [Ym]; rfl
     rw [e1,<- List.map_set,Yd,gj]; rfl
    ·
     rcases List.mem_or_eq_of_mem_set hz with hz | rfl
     ·
      have:=hall z hz; omega
     ·
      show (q.l++[x.label]).length<=_
      rw [Yh,Yv]; omega
  ·
   rw [if_neg (by rw [d]; decide)]
   have hqm:=Yb gq
   have hqi:(T.map Bx.it)[j]?=some q.it:=by rw [Yd,gq]; rfl
   have hql2:=hs.len (j+7) (s:=q.s) (e:=3) (n:=1) (rows:=q.l.map inC) hqi (by omega)
   have hqn:=hql2.1
   rw [Yc] at hqn
   obtain ⟨tl,hqe⟩:∃ tl,q.l=x.label::tl:=by
    unfold canS at c
    rw [hjj,hql] at c
    split at c
    ·
     exact absurd c (by decide)
    ·
     rw [if_neg (by rw [d]; decide)] at c
     cases hq:q.l with
     | nil=>rw [hq] at c; exact absurd c (show ¬ ((23:Int)=0) by decide)
     | cons l tl=>
      rw [hq] at c
      dsimp only at c
      split at c
      ·
       exact absurd c (by decide)
      ·
       rename_i e; exact ⟨tl,by rw [Classical.not_not.1 e]⟩
   have hqn1:q.s.n=tl.length+1:=by rw [hqn,hqe,Yyj]
   refine ⟨tb,hs.rd 0 rfl (i:=1) rfl,tb,hs.rd 0 rfl (i:=1) rfl,rdB 6 hs rfl fun b o t=>?_⟩
   refine ⟨q.s,t,⟨by omega,by omega,by have:=hql2.2.1; omega⟩,?_⟩
   refine hs.set 6 (s:=tb) (cs:=Bx.cs) (x:=(j:Int)) rfl (by omega) (by omega) (by omega) (⟨⟨subA q.s.a (Int.toNat 1) q.s.c 1,Int.toNat (q.s.n:Nat) - Int.toNat 1,q.s.c - Int.toNat 1⟩,tl⟩:Bx) rfl rfl (fun b o h83 hs=>?_) rfl
   refine ⟨ts,tb,hs.at 0 rfl (o:=0) (n:=2) rfl,?_⟩
   refine hs.put 2 rfl (o:=0) (vs:=[.slice ts.a ts.n ts.c,.slice tb.a tb.n tb.c]) rfl (show 2<=2 by decide) fun h86 hs=>?_
   rw [Ys] at hs
   refine ⟨ts,tb,hs.at 2 rfl (o:=0) (n:=2) rfl,?_⟩
   generalize hnw:(⟨⟨subA q.s.a (Int.toNat 1) q.s.c 1,Int.toNat (q.s.n:Nat) - Int.toNat 1,q.s.c - Int.toNat 1⟩,tl⟩:Bx)=nw at hs
   have hs:=hs.sub (L':=.sl ts 3 1 ((S.set p x.t).map inC) :: .sl tb 23 1 ((T.set j nw).map Bx.cs)::T.map Bx.it) (.cons _ (.cons _ (.cons _ (.cons _ (.cons _ (.refl _))))))
   have hjt:j<T.length:=(Ya.1 gq).1
   have hgj:T[j]=q:=(Ya.1 gq).2
   have hp0:(T.map Bx.it).Perm (.sl q.s 3 1 (inC x.label::tl.map inC)::(T.eraseIdx j).map Bx.it):=by
    have h1:(T.map Bx.it).Perm ((T[j]::T.eraseIdx j).map Bx.it):=by
     rw [List.eraseIdx_eq_take_drop_succ]
     have e2:T=T.take j++T[j]::T.drop (j+1):=by rw [List.getElem_cons_drop,List.take_append_drop]
     have h2:T.Perm (T[j]::(T.take j++T.drop (j+1))):=by
      conv=>lhs; rw [e2]
      exact List.perm_middle
     exact h2.map _
    rw [Yyl,hgj] at h1
    have e1:q.it=.sl q.s 3 1 (inC x.label::tl.map inC):=by unfold Bx.it; rw [hqe]; rfl
    rw [e1] at h1
    exact h1
   have hs:=hs.perm (((hp0.cons _).cons _).trans (List.perm_middle (l₁:=[_,_])))
   have hs:=(hs.toQ (by omega)).qtail
   refine ⟨ts,tb,T.set j nw,_,rfl,?_,hs,?_⟩
   ·
    rw [List.map_set,hT,hql,hqe,<- hnw]; rfl
   ·
    refine ⟨Yn _ Yx,Yn _ (Yn _ Yx),fun z hz=>.inr ?_,hsl,by rw [Yyh]; omega,fun z hz=>?_⟩
    ·
     obtain ⟨j',gj⟩:=Yf.1 hz
     by_cases e:j'=j
     ·
      subst e
      rw [Yq hjt] at gj
      cases gj
      refine .inr ?_
      rw [<- hnw]
      exact Yx
     ·
      rw [Yy (Ne.symm e)] at gj
      exact .inl (Yn _ (Yn _ (Yn _ (List.mem_map_of_mem (List.mem_eraseIdx_iff_getElem?.2 ⟨j',e,gj⟩)))))
    ·
     rcases List.mem_or_eq_of_mem_set hz with hz | rfl
     ·
      have:=hall z hz; omega
     ·
      rw [<- hnw]
      have:=hall q hqm
      rw [hqe,Yyj] at this
      show tl.length<=_
      omega
end Go.VC
end

section
/- The example's machines (printed by mkex.py). -/
namespace Go.VC
open Go.Proofs Go.LexS
def xm0:Mch:=⟨0,2,0,[false,true],[⟨0,true,1,0,1,false⟩,⟨0,true,1,1,1,false⟩],[]⟩
theorem xm0_get (i:Nat) (x:Mv) (h:xm0.mv[i]?=some x):(i=0/\x=⟨0,true,1,0,1,false⟩)\/(i=1/\x=⟨0,true,1,1,1,false⟩):=by
 match i,h with
 | 0,h=>exact .inl ⟨rfl,(Yyp h).symm⟩
 | 1,h=>exact .inr ⟨rfl,(Yyp h).symm⟩
 | n+2,h=>exact absurd h (by simp [xm0])
theorem xm0_mem (x:Mv) (h:x ∈ xm0.mv):x=⟨0,true,1,0,1,false⟩\/x=⟨0,true,1,1,1,false⟩:=by
 obtain ⟨i,hi⟩:=Yf.1 h
 rcases xm0_get i x hi with ⟨_,e⟩ | ⟨_,e⟩
 ·
  exact .inl e
 ·
  exact .inr e
theorem xm0_ag (x:Mv) (h:x ∈ xm0.mv):x.ag=false:=by
 rcases xm0_mem x h with rfl | rfl <;> rfl
theorem xm0_vm:VM xm0:=by
 refine ⟨⟨⟨by decide,by decide⟩,⟨by decide,by decide⟩,⟨by decide,by decide⟩,rfl,by decide,fun x hx=>?_⟩,fun i k x y hx hy hne hf=>?_,fun v h0 h1=>?_,⟨fun x hx ha=>?_,fun x hx ha=>?_,fun x hx ha=>?_,fun x hx ha=>?_,fun x hx ha=>?_⟩,fun i t h=>?_⟩
 ·
  rcases xm0_mem x hx with rfl | rfl <;> decide
 ·
  rcases xm0_get i x hx with ⟨rfl,rfl⟩ | ⟨rfl,rfl⟩ <;> rcases xm0_get k y hy with ⟨rfl,rfl⟩ | ⟨rfl,rfl⟩ <;> first
   | exact absurd rfl hne
   | exact absurd hf (by decide)
   | exact ⟨fun e=>absurd (congrArg Ev.label e) (by decide),rfl⟩
 ·
  have q0:Qr (meds xm0) (-1) [xm0.s] 0:=.base (Ye.2 rfl)
  have q1:Qr (meds xm0) (-1) [xm0.s] 1:=.step q0 ⟨⟨0,0,0,0,1,false⟩,Yp.2 ⟨⟨0,true,1,0,1,false⟩,by simp [xm0],rfl⟩,rfl,rfl,rfl⟩
  have h1:v<2:=h1
  have:v=0\/v=1:=by omega
  rcases this with rfl | rfl
  ·
   exact q0
  ·
   exact q1
 ·
  rw [xm0_ag x hx] at ha; cases ha
 ·
  rw [xm0_ag x hx] at ha; cases ha
 ·
  rw [xm0_ag x hx] at ha; cases ha
 ·
  rw [xm0_ag x hx] at ha; cases ha
 ·
  rw [xm0_ag x hx] at ha; cases ha
 ·
  simp [xm0] at h
def xm1:Mch:=⟨1,6,0,[false,false,false,false,false,true],[⟨0,false,0,0,1,false⟩,⟨0,false,0,1,2,false⟩,⟨1,true,2,0,3,false⟩,⟨2,true,2,1,4,false⟩,⟨3,false,2,2,5,false⟩,⟨4,false,2,3,5,false⟩],[]⟩
theorem xm1_get (i:Nat) (x:Mv) (h:xm1.mv[i]?=some x):(i=0/\x=⟨0,false,0,0,1,false⟩)\/(i=1/\x=⟨0,false,0,1,2,false⟩)\/(i=2/\x=⟨1,true,2,0,3,false⟩)\/(i=3/\x=⟨2,true,2,1,4,false⟩)\/(i=4/\x=⟨3,false,2,2,5,false⟩)\/(i=5/\x=⟨4,false,2,3,5,false⟩):=by
 match i,h with
 | 0,h=>exact .inl ⟨rfl,(Yyp h).symm⟩
 | 1,h=>exact .inr (.inl ⟨rfl,(Yyp h).symm⟩)
 | 2,h=>exact .inr (.inr (.inl ⟨rfl,(Yyp h).symm⟩))
 | 3,h=>exact .inr (.inr (.inr (.inl ⟨rfl,(Yyp h).symm⟩)))
 | 4,h=>exact .inr (.inr (.inr (.inr (.inl ⟨rfl,(Yyp h).symm⟩))))
 | 5,h=>exact .inr (.inr (.inr (.inr (.inr ⟨rfl,(Yyp h).symm⟩))))
 | n+6,h=>exact absurd h (by simp [xm1])
theorem xm1_mem (x:Mv) (h:x ∈ xm1.mv):x=⟨0,false,0,0,1,false⟩\/x=⟨0,false,0,1,2,false⟩\/x=⟨1,true,2,0,3,false⟩\/x=⟨2,true,2,1,4,false⟩\/x=⟨3,false,2,2,5,false⟩\/x=⟨4,false,2,3,5,false⟩:=by
 obtain ⟨i,hi⟩:=Yf.1 h
 rcases xm1_get i x hi with ⟨_,e⟩ | ⟨_,e⟩ | ⟨_,e⟩ | ⟨_,e⟩ | ⟨_,e⟩ | ⟨_,e⟩
 ·
  exact .inl e
 ·
  exact .inr (.inl e)
 ·
  exact .inr (.inr (.inl e))
 ·
  exact .inr (.inr (.inr (.inl e)))
 ·
  exact .inr (.inr (.inr (.inr (.inl e))))
 ·
  exact .inr (.inr (.inr (.inr (.inr e))))
theorem xm1_ag (x:Mv) (h:x ∈ xm1.mv):x.ag=false:=by
 rcases xm1_mem x h with rfl | rfl | rfl | rfl | rfl | rfl <;> rfl
theorem xm1_vm:VM xm1:=by
 refine ⟨⟨⟨by decide,by decide⟩,⟨by decide,by decide⟩,⟨by decide,by decide⟩,rfl,by decide,fun x hx=>?_⟩,fun i k x y hx hy hne hf=>?_,fun v h0 h1=>?_,⟨fun x hx ha=>?_,fun x hx ha=>?_,fun x hx ha=>?_,fun x hx ha=>?_,fun x hx ha=>?_⟩,fun i t h=>?_⟩
 ·
  rcases xm1_mem x hx with rfl | rfl | rfl | rfl | rfl | rfl <;> decide
 ·
  rcases xm1_get i x hx with ⟨rfl,rfl⟩ | ⟨rfl,rfl⟩ | ⟨rfl,rfl⟩ | ⟨rfl,rfl⟩ | ⟨rfl,rfl⟩ | ⟨rfl,rfl⟩ <;> rcases xm1_get k y hy with ⟨rfl,rfl⟩ | ⟨rfl,rfl⟩ | ⟨rfl,rfl⟩ | ⟨rfl,rfl⟩ | ⟨rfl,rfl⟩ | ⟨rfl,rfl⟩ <;> first
   | exact absurd rfl hne
   | exact absurd hf (by decide)
   | exact ⟨fun e=>absurd (congrArg Ev.label e) (by decide),rfl⟩
 ·
  have q0:Qr (meds xm1) (-1) [xm1.s] 0:=.base (Ye.2 rfl)
  have q1:Qr (meds xm1) (-1) [xm1.s] 1:=.step q0 ⟨⟨0,0,0,0,1,false⟩,Yp.2 ⟨⟨0,false,0,0,1,false⟩,by simp [xm1],rfl⟩,rfl,rfl,rfl⟩
  have q2:Qr (meds xm1) (-1) [xm1.s] 2:=.step q0 ⟨⟨0,0,0,0,2,false⟩,Yp.2 ⟨⟨0,false,0,1,2,false⟩,by simp [xm1],rfl⟩,rfl,rfl,rfl⟩
  have q3:Qr (meds xm1) (-1) [xm1.s] 3:=.step q1 ⟨⟨1,0,0,0,3,false⟩,Yp.2 ⟨⟨1,true,2,0,3,false⟩,by simp [xm1],rfl⟩,rfl,rfl,rfl⟩
  have q4:Qr (meds xm1) (-1) [xm1.s] 4:=.step q2 ⟨⟨2,0,0,0,4,false⟩,Yp.2 ⟨⟨2,true,2,1,4,false⟩,by simp [xm1],rfl⟩,rfl,rfl,rfl⟩
  have q5:Qr (meds xm1) (-1) [xm1.s] 5:=.step q3 ⟨⟨3,0,0,0,5,false⟩,Yp.2 ⟨⟨3,false,2,2,5,false⟩,by simp [xm1],rfl⟩,rfl,rfl,rfl⟩
  have h1:v<6:=h1
  have:v=0\/v=1\/v=2\/v=3\/v=4\/v=5:=by omega
  rcases this with rfl | rfl | rfl | rfl | rfl | rfl
  ·
   exact q0
  ·
   exact q1
  ·
   exact q2
  ·
   exact q3
  ·
   exact q4
  ·
   exact q5
 ·
  rw [xm1_ag x hx] at ha; cases ha
 ·
  rw [xm1_ag x hx] at ha; cases ha
 ·
  rw [xm1_ag x hx] at ha; cases ha
 ·
  rw [xm1_ag x hx] at ha; cases ha
 ·
  rw [xm1_ag x hx] at ha; cases ha
 ·
  simp [xm1] at h
def xm2:Mch:=⟨2,4,0,[false,false,false,true],[⟨0,false,1,0,1,false⟩,⟨0,false,1,1,2,false⟩,⟨1,true,1,2,3,false⟩,⟨2,true,1,3,3,false⟩],[]⟩
theorem xm2_get (i:Nat) (x:Mv) (h:xm2.mv[i]?=some x):(i=0/\x=⟨0,false,1,0,1,false⟩)\/(i=1/\x=⟨0,false,1,1,2,false⟩)\/(i=2/\x=⟨1,true,1,2,3,false⟩)\/(i=3/\x=⟨2,true,1,3,3,false⟩):=by
 match i,h with
 | 0,h=>exact .inl ⟨rfl,(Yyp h).symm⟩
 | 1,h=>exact .inr (.inl ⟨rfl,(Yyp h).symm⟩)
 | 2,h=>exact .inr (.inr (.inl ⟨rfl,(Yyp h).symm⟩))
 | 3,h=>exact .inr (.inr (.inr ⟨rfl,(Yyp h).symm⟩))
 | n+4,h=>exact absurd h (by simp [xm2])
theorem xm2_mem (x:Mv) (h:x ∈ xm2.mv):x=⟨0,false,1,0,1,false⟩\/x=⟨0,false,1,1,2,false⟩\/x=⟨1,true,1,2,3,false⟩\/x=⟨2,true,1,3,3,false⟩:=by
 obtain ⟨i,hi⟩:=Yf.1 h
 rcases xm2_get i x hi with ⟨_,e⟩ | ⟨_,e⟩ | ⟨_,e⟩ | ⟨_,e⟩
 ·
  exact .inl e
 ·
  exact .inr (.inl e)
 ·
  exact .inr (.inr (.inl e))
 ·
  exact .inr (.inr (.inr e))
theorem xm2_ag (x:Mv) (h:x ∈ xm2.mv):x.ag=false:=by
 rcases xm2_mem x h with rfl | rfl | rfl | rfl <;> rfl
theorem xm2_vm:VM xm2:=by
 refine ⟨⟨⟨by decide,by decide⟩,⟨by decide,by decide⟩,⟨by decide,by decide⟩,rfl,by decide,fun x hx=>?_⟩,fun i k x y hx hy hne hf=>?_,fun v h0 h1=>?_,⟨fun x hx ha=>?_,fun x hx ha=>?_,fun x hx ha=>?_,fun x hx ha=>?_,fun x hx ha=>?_⟩,fun i t h=>?_⟩
 ·
  rcases xm2_mem x hx with rfl | rfl | rfl | rfl <;> decide
 ·
  rcases xm2_get i x hx with ⟨rfl,rfl⟩ | ⟨rfl,rfl⟩ | ⟨rfl,rfl⟩ | ⟨rfl,rfl⟩ <;> rcases xm2_get k y hy with ⟨rfl,rfl⟩ | ⟨rfl,rfl⟩ | ⟨rfl,rfl⟩ | ⟨rfl,rfl⟩ <;> first
   | exact absurd rfl hne
   | exact absurd hf (by decide)
   | exact ⟨fun e=>absurd (congrArg Ev.label e) (by decide),rfl⟩
 ·
  have q0:Qr (meds xm2) (-1) [xm2.s] 0:=.base (Ye.2 rfl)
  have q1:Qr (meds xm2) (-1) [xm2.s] 1:=.step q0 ⟨⟨0,0,0,0,1,false⟩,Yp.2 ⟨⟨0,false,1,0,1,false⟩,by simp [xm2],rfl⟩,rfl,rfl,rfl⟩
  have q2:Qr (meds xm2) (-1) [xm2.s] 2:=.step q0 ⟨⟨0,0,0,0,2,false⟩,Yp.2 ⟨⟨0,false,1,1,2,false⟩,by simp [xm2],rfl⟩,rfl,rfl,rfl⟩
  have q3:Qr (meds xm2) (-1) [xm2.s] 3:=.step q1 ⟨⟨1,0,0,0,3,false⟩,Yp.2 ⟨⟨1,true,1,2,3,false⟩,by simp [xm2],rfl⟩,rfl,rfl,rfl⟩
  have h1:v<4:=h1
  have:v=0\/v=1\/v=2\/v=3:=by omega
  rcases this with rfl | rfl | rfl | rfl
  ·
   exact q0
  ·
   exact q1
  ·
   exact q2
  ·
   exact q3
 ·
  rw [xm2_ag x hx] at ha; cases ha
 ·
  rw [xm2_ag x hx] at ha; cases ha
 ·
  rw [xm2_ag x hx] at ha; cases ha
 ·
  rw [xm2_ag x hx] at ha; cases ha
 ·
  rw [xm2_ag x hx] at ha; cases ha
 ·
  simp [xm2] at h
def xr0:Mch:=⟨0,3,0,[false,true,true],[⟨0,true,1,0,1,false⟩,⟨0,true,1,1,2,false⟩],[]⟩
theorem xr0_raw (hr hd he ht:Sl):rawC (exGl true hr hd he ht) 0=some (some xr0,0):=by kernel_rfl
theorem xm1_raw (hr hd he ht:Sl):rawC (exGl true hr hd he ht) 1=some (some xm1,0):=by kernel_rfl
theorem xm2_raw (hr hd he ht:Sl):rawC (exGl true hr hd he ht) 2=some (some xm2,0):=by kernel_rfl
theorem xm0_min:minF xr0=xm0:=by kernel_rfl
theorem xm1_min:minF xm1=xm1:=by kernel_rfl
theorem xm2_min:minF xm2=xm2:=by kernel_rfl
theorem xproj (hr hd he ht:Sl) (i:Int) (w m:Mch) (h0:0<=i) (h3:i<((3:Nat):Int)) (hw:rawC (exGl true hr hd he ht) i=some (some w,0)) (hm:minF w=m):proj (exGl true hr hd he ht) i=(some m,0):=by
 have:=rawC_ok (ex_valid true hr hd he ht) h0 h3 hw
 unfold proj
 rw [this]
 show (some (minF w),0)=_
 rw [hm]
def xL:List Mch:=[xm0,xm1,xm2]
theorem xsys:SysV xL:=by
 refine ⟨⟨by decide,by decide⟩,fun p m h=>?_⟩
 match p,h with
 | 0,h=>cases h; exact ⟨rfl,xm0_vm,fun x hx=>by rcases xm0_mem x hx with rfl | rfl <;> decide⟩
 | 1,h=>cases h; exact ⟨rfl,xm1_vm,fun x hx=>by rcases xm1_mem x hx with rfl | rfl | rfl | rfl | rfl | rfl <;> decide⟩
 | 2,h=>cases h; exact ⟨rfl,xm2_vm,fun x hx=>by rcases xm2_mem x hx with rfl | rfl | rfl | rfl <;> decide⟩
 | n+3,h=>exact absurd h (by simp [xL])
theorem stepsP_of {n:Nat} {k:Int} {S:List Int} {BL:List (List Int)} {p:Nat} {m:Mch} (hD:DetM m) {O:List Nat} (h1:(List.range m.mv.length).filter (posB n k S BL p m)=O) (h2:O.Pairwise fun a b=>¬ evLt (evI m b) (evI m a)):stepsP n k S BL p m=O:=(steps_uniq hD (by rw [h1]) h2).symm
def xB0:List (List Int):=List.replicate 9 []
theorem xsteps0:stepsS xL 1 [0,0,0] xB0=[(0,0),(0,1)]:=by
 have a0:stepsP 3 1 [0,0,0] xB0 0 xm0=[0,1]:=stepsP_of xm0_vm.d (by kernel_rfl) (.cons (fun b hb=>by rw [Ye.1 hb]; show ¬ evLt _ _; unfold evLt; decide) (List.pairwise_singleton _ _))
 have a1:stepsP 3 1 [0,0,0] xB0 1 xm1=[]:=stepsP_of xm1_vm.d (by kernel_rfl) .nil
 have a2:stepsP 3 1 [0,0,0] xB0 2 xm2=[]:=stepsP_of xm2_vm.d (by kernel_rfl) .nil
 show (stepsP 3 1 [0,0,0] xB0 0 xm0).map _++((stepsP 3 1 [0,0,0] xB0 1 xm1).map _++((stepsP 3 1 [0,0,0] xB0 2 xm2).map _++[]))=_
 rw [a0,a1,a2]; rfl
def xB1 (l:Int):List (List Int):=[[],[l],[],[],[],[],[],[],[]]
theorem xsteps1 (l:Nat) (hl:l=0\/l=1):stepsS xL 1 [1,0,0] (xB1 (l:Int))=[(1,l)]:=by
 rcases hl with rfl | rfl
 ·
  have a0:stepsP 3 1 [1,0,0] (xB1 0) 0 xm0=[]:=stepsP_of xm0_vm.d (by kernel_rfl) .nil
  have a1:stepsP 3 1 [1,0,0] (xB1 0) 1 xm1=[0]:=stepsP_of xm1_vm.d (by kernel_rfl) (List.pairwise_singleton _ _)
  have a2:stepsP 3 1 [1,0,0] (xB1 0) 2 xm2=[]:=stepsP_of xm2_vm.d (by kernel_rfl) .nil
  show (stepsP 3 1 [1,0,0] (xB1 0) 0 xm0).map _++((stepsP 3 1 [1,0,0] (xB1 0) 1 xm1).map _++((stepsP 3 1 [1,0,0] (xB1 0) 2 xm2).map _++[]))=_
  rw [a0,a1,a2]; rfl
 ·
  have a0:stepsP 3 1 [1,0,0] (xB1 1) 0 xm0=[]:=stepsP_of xm0_vm.d (by kernel_rfl) .nil
  have a1:stepsP 3 1 [1,0,0] (xB1 1) 1 xm1=[1]:=stepsP_of xm1_vm.d (by kernel_rfl) (List.pairwise_singleton _ _)
  have a2:stepsP 3 1 [1,0,0] (xB1 1) 2 xm2=[]:=stepsP_of xm2_vm.d (by kernel_rfl) .nil
  show (stepsP 3 1 [1,0,0] (xB1 1) 0 xm0).map _++((stepsP 3 1 [1,0,0] (xB1 1) 1 xm1).map _++((stepsP 3 1 [1,0,0] (xB1 1) 2 xm2).map _++[]))=_
  rw [a0,a1,a2]; rfl
end Go.VC
end

section
/- Contract: the laws of layer 27 are awake. (Numbers of layer 27's development dump.) -/
namespace Go.VC
open Go.Proofs Go.LexS
theorem xpro0:ProS xL 1 [0,0,0] xB0:=by
 refine ⟨xsys,⟨by decide,by decide⟩,⟨rfl,rfl,fun p s m h1 h2=>?_,fun i b hb=>?_⟩⟩
 ·
  match p,h1,h2 with
  | 0,h1,h2=>cases h1; cases h2; decide
  | 1,h1,h2=>cases h1; cases h2; decide
  | 2,h1,h2=>cases h1; cases h2; decide
  | n+3,h1,h2=>exact absurd h1 (by simp)
 ·
  have:=List.eq_of_mem_replicate (Yb hb)
  subst this
  exact ⟨by decide,fun _=>rfl,fun x hx=>by cases hx⟩
theorem xpro1:ProS xL 1 [1,0,0] (xB1 0):=by
 refine ⟨xsys,⟨by decide,by decide⟩,⟨rfl,rfl,fun p s m h1 h2=>?_,fun i b hb=>?_⟩⟩
 ·
  match p,h1,h2 with
  | 0,h1,h2=>cases h1; cases h2; decide
  | 1,h1,h2=>cases h1; cases h2; decide
  | 2,h1,h2=>cases h1; cases h2; decide
  | n+3,h1,h2=>exact absurd h1 (by simp)
 ·
  have hm:=Yb hb
  by_cases e:i=1
  ·
   subst e; cases hb; exact ⟨by decide,fun h=>absurd h (by decide),fun x hx=>by rw [Ye.1 hx]; decide⟩
  ·
   have:b=[]:=by
    match i,hb,e with
    | 0,hb,_=>cases hb; rfl
    | 1,_,e=>exact absurd rfl e
    | 2,hb,_=>cases hb; rfl
    | 3,hb,_=>cases hb; rfl
    | 4,hb,_=>cases hb; rfl
    | 5,hb,_=>cases hb; rfl
    | 6,hb,_=>cases hb; rfl
    | 7,hb,_=>cases hb; rfl
    | 8,hb,_=>cases hb; rfl
    | n+9,hb,_=>exact absurd hb (by simp [xB1])
   subst this
   exact ⟨by decide,fun _=>rfl,fun x hx=>by cases hx⟩
theorem xdo:doS xL 1 [0,0,0] xB0 0 0=(0,[1,0,0],xB1 0):=by
 unfold doS
 rw [if_pos xpro0,show mvO xL 0 0=some ⟨0,true,1,0,1,false⟩ from by kernel_rfl]
 show (if canS 3 1 [0,0,0] xB0 0 ⟨0,true,1,0,1,false⟩=0 then _ else _)=_
 rw [if_pos (by kernel_rfl)]
 kernel_rfl
theorem xst0:startS xL=[0,0,0]:=rfl
theorem xbx0:(List.replicate (xL.length*xL.length) bx0).map Bx.l=xB0:=rfl
set_option maxHeartbeats 3200000 in
theorem awake12 (h:Heap) (hx:Gx h):Fn Pz 12 #[] h fun v h'=>v=.bool true/\Ext h h':=by
 apply vc12; unfold W12
 refine (example34 true h).mono ?_
 rintro _ h10 ⟨E10,hr,hd,he,rfl,hg⟩
 refine ⟨_,hr,hd,_,_,_,he,⟨none,0,0⟩,rfl,?_⟩
 refine (all43 (exGl true hr hd he ⟨none,0,0⟩) h10 hg (hx.ext E10) (ex_valid _ _ _ _ _) xL (hg.r.ln.symm) (by decide) (fun i m hi=>?_)).mono ?_
 ·
  match i,hi with
  | 0,hi=>cases hi; exact ⟨xproj _ _ _ _ _ _ _ (by decide) (by decide) (xr0_raw _ _ _ _) xm0_min,by decide,by decide,by decide⟩
  | 1,hi=>cases hi; exact ⟨xproj _ _ _ _ _ _ _ (by decide) (by decide) (xm1_raw _ _ _ _) xm1_min,by decide,by decide,by decide⟩
  | 2,hi=>cases hi; exact ⟨xproj _ _ _ _ _ _ _ (by decide) (by decide) (xm2_raw _ _ _ _) xm2_min,by decide,by decide,by decide⟩
  | n+3,hi=>exact absurd hi (by simp [xL])
 rintro _ h14 ⟨s,L,rfl,E14,hL,hS⟩
 have E0:=E10.trans E14
 refine ⟨s,0,rfl,?_⟩
 refine (start14 L s h14 hS).mono ?_
 rw [hL]
 rintro _ h19 ⟨ss,sb,S,B,e,A,rfl,hs,hM,hok,-⟩
 obtain ⟨rfl,rfl,rfl⟩:=hok xsys
 rw [xst0] at hM
 refine ⟨ss,sb,0,rfl,?_⟩
 refine hs.newput (vs:=[.slice ss.a ss.n ss.c,.slice sb.a sb.n sb.c]) rfl rfl fun h21 hs=>?_
 refine ⟨ss,sb,hs.at 0 rfl (o:=0) (n:=2) rfl,?_⟩
 have hM:=hM.mono (A':=.blk h19.size [.slice ss.a ss.n ss.c,.slice sb.a sb.n sb.c] 29::A) fun i hi=>Yn _ hi
 refine (steps16 L s 1 ss sb _ _ h21 (hS.ext hs.ext) (hM.cfi hs)).mono ?_
 rw [hL,xbx0]
 rintro _ h27 ⟨E27,r,e,l,rfl,hr,hpos,-⟩
 obtain ⟨rfl,rfl⟩:=hpos xpro0
 rw [xsteps0] at hr
 have hs:=hs.step E27
 have hrn:r.n=2:=hr.ln
 refine ⟨r,0,rfl,sB_f rfl (sB_f rfl (sB_f rfl (sB_f (by rw [hrn]; rfl) ?_)))⟩
 refine hr.rw.nbI (by omega) (by omega) fun b o q gq t=>?_
 cases gq
 refine ⟨_,t.hd,sB_f rfl ?_⟩
 refine hr.rw.nbI (by omega) (by omega) fun b o q gq t=>?_
 cases gq
 refine ⟨_,t.hd,sB_f rfl ?_⟩
 refine ⟨ss,sb,hs.at 0 rfl (o:=0) (n:=2) rfl,?_⟩
 refine hr.rw.nbI (by omega) (by omega) fun b o q gq t=>?_
 cases gq
 have hd1:=hL ▸ do27 L s 1 ss sb [0,0,0] (List.replicate (xL.length*xL.length) bx0) 0 0
 rw [xbx0,xdo] at hd1
 refine ⟨_,_,t,And.intro ?_ ?_⟩
 ·
  refine (hd1 h27 (hS.ext hs.ext) (hM.cfi hs)).mono ?_
  rintro _ h44 ⟨ts,tb,T,A2,rfl,hT,hs3,hM2⟩
  have hs:=hs.join hs3
  refine ⟨ts,tb,0,rfl,?_⟩
  refine hs.newbE fun h45 E45 hs=>⟨E45.sm,?_⟩
  refine hs.put 0 rfl (o:=0) (vs:=[.slice ts.a ts.n ts.c,.slice tb.a tb.n tb.c]) rfl (show 2<=2 by decide) fun h46 hs=>?_
  refine ⟨ts,tb,hs.at 0 rfl (o:=0) (n:=2) rfl,?_⟩
  have hM2:=hM2.mono (A':=.blk h44.size [.slice ts.a ts.n ts.c,.slice tb.a tb.n tb.c] 29::((.blk h19.size [.slice ss.a ss.n ss.c,.slice sb.a sb.n sb.c] 29::A)++A2)) fun i hi=>Yn _ (List.mem_append_right _ hi)
  refine (steps16 L s 1 ts tb _ T h46 (hS.ext hs.ext) (hM2.cfi hs)).mono ?_
  rw [hL,hT]
  rintro _ h52 ⟨E52,r2,e2,l2,rfl,hr2,hpos2,-⟩
  obtain ⟨rfl,rfl⟩:=hpos2 xpro1
  rw [show stepsS xL 1 [1,0,0] (xB1 0)=[(1,0)] from xsteps1 0 (.inl rfl)] at hr2
  have hs:=hs.step E52
  have hrn2:r2.n=1:=hr2.ln
  refine ⟨r2,0,rfl,sB_t rfl (sB_t rfl (sB_t (by rw [hrn2]; rfl) ?_))⟩
  refine hr2.rw.nbI (by omega) (by omega) fun b o q gq t=>?_
  cases gq
  refine ⟨_,t.hd,sB_t rfl ?_⟩
  have hC2:=hM2.cfi hs
  have htn:ts.n=3:=hC2.s.ln
  refine ⟨ts,hs.rd 0 rfl (i:=0) rfl,sB_t (by rw [htn]; rfl) ⟨ts,hs.rd 0 rfl (i:=0) rfl,?_⟩⟩
  refine hC2.s.rw.nbI (by omega) (by omega) fun b o q gq t=>?_
  cases gq
  exact ⟨_,t.hd,rfl,E0.trans hs.ext⟩
 ·
  refine hs.newbE fun h61 E61 hs=>⟨E61.sm,?_⟩
  have hM:=hM.mono (A':=.blk h27.size [.slice none 0 0,.slice none 0 0] 29 :: .blk h19.size [.slice ss.a ss.n ss.c,.slice sb.a sb.n sb.c] 29::A) fun i hi=>Yn _ hi
  refine (hd1 h61 (hS.ext hs.ext) (hM.cfi hs)).mono ?_
  rintro _ h44 ⟨ts,tb,T,A2,rfl,hT,hs3,hM2⟩
  have hs:=hs.join hs3
  refine ⟨ts,tb,0,rfl,?_⟩
  refine hs.put 0 rfl (o:=0) (vs:=[.slice ts.a ts.n ts.c,.slice tb.a tb.n tb.c]) rfl (show 2<=2 by decide) fun h46 hs=>?_
  refine ⟨ts,tb,hs.at 0 rfl (o:=0) (n:=2) rfl,?_⟩
  have hM2:=hM2.mono (A':=.blk h27.size [.slice ts.a ts.n ts.c,.slice tb.a tb.n tb.c] 29::((.blk h19.size [.slice ss.a ss.n ss.c,.slice sb.a sb.n sb.c] 29::A)++A2)) fun i hi=>Yn _ (List.mem_append_right _ hi)
  refine (steps16 L s 1 ts tb _ T h46 (hS.ext hs.ext) (hM2.cfi hs)).mono ?_
  rw [hL,hT]
  rintro _ h52 ⟨E52,r2,e2,l2,rfl,hr2,hpos2,-⟩
  obtain ⟨rfl,rfl⟩:=hpos2 xpro1
  rw [show stepsS xL 1 [1,0,0] (xB1 0)=[(1,0)] from xsteps1 0 (.inl rfl)] at hr2
  have hs:=hs.step E52
  have hrn2:r2.n=1:=hr2.ln
  refine ⟨r2,0,rfl,sB_t rfl (sB_t rfl (sB_t (by rw [hrn2]; rfl) ?_))⟩
  refine hr2.rw.nbI (by omega) (by omega) fun b o q gq t=>?_
  cases gq
  refine ⟨_,t.hd,sB_t rfl ?_⟩
  have hC2:=hM2.cfi hs
  have htn:ts.n=3:=hC2.s.ln
  refine ⟨ts,hs.rd 0 rfl (i:=0) rfl,sB_t (by rw [htn]; rfl) ⟨ts,hs.rd 0 rfl (i:=0) rfl,?_⟩⟩
  refine hC2.s.rw.nbI (by omega) (by omega) fun b o q gq t=>?_
  cases gq
  exact ⟨_,t.hd,rfl,E0.trans hs.ext⟩
end Go.VC
end

section
namespace Go.VC
open Go.Proofs

def W3 (p0:Sl) (p1:Int) (p2_1 p2_2:Sl) (h:Heap) (R:Value->Heap->Prop):Prop:=
 (Wn h [vS p2_1,vS p2_2] 26 fun h3=>
 (Fn Pz 12 #[] h3
 (fun v4 h6=>∃ x5,iB v4 x5 /\
 (sB (!x5)
 (R (.bool false) h6)
 ((∃ (x7 x8:Sl),atC h6 (aS h 0) [vS x7,vS x8] /\
 (Fn Pz 13 #[vS p0,.agg ⟨[vS x7,vS x8]⟩] h6
 (fun v9 h11=>∃ x10,iB v9 x10 /\
 (sB (!x10)
 (R (.bool true) h11)
 ((Fn Pz 14 #[vS p0] h11
 (fun v12 h16=>∃ (x13 x14:Sl) (x15:Int),v12=.tuple ⟨[.agg ⟨[vS x13,vS x14]⟩,vI x15]⟩ /\
 (Wn h16 [.slice none 0 0,.slice none 0 0] 29 fun h17=>
 (Wp h17 (aS h16 0) 2 [vS x13,vS x14] fun h18=>
 (Fn Pz 15 #[vS p0] h18
 (fun v19 h23=>∃ (x20 x21:Sl) (x22:Int),v19=.tuple ⟨[.agg ⟨[vS x20,vS x21]⟩,vI x22]⟩ /\
 (Wn h23 [.slice none 0 0,.slice none 0 0] 26 fun h24=>
 (Wp h24 (aS h23 0) 2 [vS x20,vS x21] fun h25=>
 (∃ (x26 x27:Sl),atC h25 (aS h 0) [vS x26,vS x27] /\
 (Fn Pz 17 #[.agg ⟨[vS x26,vS x27]⟩] h25
 (fun v28 h31=>∃ (x29 x30:Sl),v28=.agg ⟨[vS x29,vS x30]⟩ /\
 (Fn Pz 16 #[vS p0,vI p1,.agg ⟨[vS x29,vS x30]⟩] h31
 (fun v32 h35=>∃ (x33:Sl) (x34:Int),v32=.tuple ⟨[vS x33,vI x34]⟩ /\
 (∃ (x36 x37:Sl),atC h35 (aS h 0) [vS x36,vS x37] /\
 (Fn Pz 18 #[vS p0,vI p1,.agg ⟨[vS x36,vS x37]⟩] h35
 (fun v38 h41=>∃ (x39:Sl) (x40:Int),v38=.tuple ⟨[vS x39,vI x40]⟩ /\
 (sB (x15 == x22)
 ((sB (x34 == x40)
 ((∃ (x42 x43:Sl),atC h41 (aS h16 0) [vS x42,vS x43] /\
 (∃ (x44 x45:Sl),atC h41 (aS h23 0) [vS x44,vS x45] /\
 (Fn Pz 19 #[.agg ⟨[vS x42,vS x43]⟩,.agg ⟨[vS x44,vS x45]⟩] h41
 (fun v46 h48=>∃ x47,iB v46 x47 /\
 (sB x47
 ((Fn Pz 21 #[vS x33] h48
 (fun v49 h51=>∃ x50,iS v49 x50 /\
 (Sm [(aS h23 0),(aS h16 0)] h48 h51 /\
 (Fn Pz 20 #[vS x50,vS x39] h51
 (fun v52 h54=>∃ x53,iB v52 x53 /\
 (Sm [(aS h23 0),(aS h16 0)] h51 h54 /\
 (sB x53
 ((Fn Pz 22 #[vS p0] h54
 (fun v55 h57=>∃ x56,iB v55 x56 /\
 (Sm [(aS h23 0),(aS h16 0)] h54 h57 /\
 (Fn Pz 23 #[vS p0] h57
 (fun v58 h60=>∃ x59,iB v58 x59 /\
 (Sm [(aS h23 0),(aS h16 0)] h57 h60 /\
 (sB (x56 == x59)
 ((∃ (x61 x62:Sl),atC h60 (aS h 0) [vS x61,vS x62] /\
 (∃ (x63 x64:Sl),atC h60 (aS h 0) [vS x63,vS x64] /\
 (Fn Pz 17 #[.agg ⟨[vS x61,vS x62]⟩] h60
 (fun v65 h68=>∃ (x66 x67:Sl),v65=.agg ⟨[vS x66,vS x67]⟩ /\
 (Sm [(aS h 0),(aS h23 0),(aS h16 0)] h60 h68 /\
 (Fn Pz 24 #[vS p0,vI p1,.agg ⟨[vS x66,vS x67]⟩] h68
 (fun v69 h71=>∃ x70,iB v69 x70 /\
 (Sm [(aS h 0),(aS h23 0),(aS h16 0)] h68 h71 /\
 (Fn Pz 25 #[vS p0,vI p1,.agg ⟨[vS x63,vS x64]⟩] h71
 (fun v72 h74=>∃ x73,iB v72 x73 /\
 (Sm [(aS h 0),(aS h23 0),(aS h16 0)] h71 h74 /\
 R (.bool (x70 == x73)) h74))))))))))))
 (R (.bool false) h60)))))))))
 (R (.bool false) h54)))))))))
 (R (.bool false) h48)))))))
 (R (.bool false) h41)))
 (R (.bool false) h41))))))))))))))))))))))))))))
end Go.VC
end

section
/- The law ComposeSteps. (Numbers of layer 27's development dump.) -/
namespace Go.VC
open Go.Proofs Go.LexS
end Go.VC
end

section
namespace Go.VC
open Go.Proofs

def W93 (p0:Sl) (p1:FuncId) (h:Heap) (R:Value->Heap->Prop):Prop:=
 (Fn Pz 131 #[vS p0,.func (.func p1) #[] #[]] h
 (fun v1 h3=>∃ x2,iI v1 x2 /\
 R (.bool (decide (x2 >= 0))) h3))
theorem vc93 (p0:Sl) (p1:FuncId) (h:Heap) (R:Value->Heap->Prop) (H:W93 p0 p1 h R):Fn Pz 93 #[vS p0,.func (.func p1) #[] #[]] h R:=fnI (A:=.z) (by kernel_rfl) H

def W131 (p0:Sl) (p1:FuncId) (h:Heap) (R:Value->Heap->Prop):Prop:=
 (QI 0 h fun I1 x_4 h5 m3=>(
 (sB (decide (x_4<(p0.n:Int)))
 ((NB p0.a fun b6 o7=>(Ib x_4 p0.n /\
 (∃ x8,rS h5 ⟨b6,o7+Int.toNat x_4*1,none⟩ x8 /\
 (bif callable Pz p1 then Fn Pz p1 #[vS x8] h5
 (fun v9 h11=>∃ x10,iB v9 x10 /\
 (sB x10
 (R (vI x_4) h11)
 ((∃ m12,m12<m3/\I1 (IntKind.wrap .i64 (x_4+1)) h11 m12)))) else ExtW Pz p1 #[vS x8] h5
 (fun v9 h11=>∃ x10,iB v9 x10 /\
 (sB x10
 (R (vI x_4) h11)
 ((∃ m12,m12<m3/\I1 (IntKind.wrap .i64 (x_4+1)) h11 m12)))))))))
 (R (vI (-1)) h5))))
theorem vc131 (p0:Sl) (p1:FuncId) (h:Heap) (R:Value->Heap->Prop) (H:W131 p0 p1 h R):Fn Pz 131 #[vS p0,.func (.func p1) #[] #[]] h R:=fnI (A:=(.s .z (.s (.s .z (.b (.l [(8,.one (.int .i64))] .z))) .z))) (by kernel_rfl) H

def W94 (p0:Sl) (h:Heap) (R:Value->Heap->Prop):Prop:=
 R (.bool (decide ((p0.n:Int) > 0))) h
theorem vc94 (p0:Sl) (h:Heap) (R:Value->Heap->Prop) (H:W94 p0 h R):Fn Pz 94 #[vS p0] h R:=fnI (A:=.z) (by kernel_rfl) H

end Go.VC
end

section
/- Contracts: Final on both sides. (Numbers of layer 27's development dump.) -/
namespace Go.VC
open Go.Proofs Go.LexS
structure FinS (L:List Mch) (S:List Int) (BL:List (List Int)):Prop where
 s:∀ (p:Nat) s m,S[p]?=some s->L[p]?=some m->m.fin[s.toNat]?=some true
 b:∀ b ∈ BL,b=[]
theorem cal94:callable Pz 94=true:=by kernel_rfl
theorem index131 (B:List Bx) (s:Sl) (h:Heap) (hr:RL h 1 s Bx.cs B) (hi:∀ q ∈ B,RL h 1 q.s inC q.l) :
  Fn Pz 131 #[.slice s.a s.n s.c,.func (.func 94) #[] #[]] h fun v h'=>(∃ k:Int,v=.int .i64 k/\(0<=k ↔ ¬ ∀ b ∈ B.map Bx.l,b=[]))/\Ext h h':=by
 apply vc131 s 94; unfold W131
 have hn:=hr.ln
 have hl:=hr.sm
 refine up_loop (n:=s.n) (fun i h'=>Ext h h'/\∀ (j:Nat) (x:Bx),j<i->B[j]?=some x->x.l=[]) ⟨.rfl',fun j x hj=>by omega⟩ ?_
 rintro - i h5 hi' ⟨E,hq⟩
 refine sB_intro (fun c=>?_) (fun c=>?_)
 ·
  replace c:=lt_t c
  refine (hr.rw.ext E).nbI (by omega) (by omega) fun b6 o7 x gx t14=>?_
  replace gx:B[i]?=some x:=gx
  have hm:=Yb gx
  have hxn:=(hi x hm).ln
  refine ⟨x.s,t14.hd,?_⟩
  rw [cal94,cond_true]
  apply vc94 x.s; unfold W94
  refine ⟨_,rfl,sBi (fun c2=>?_) (fun c2=>?_)⟩
  ·
   refine ⟨⟨_,rfl,iff_of_true (by omega) fun hall=>?_⟩,E⟩
   have:=hall x.l (List.mem_map_of_mem hm)
   rw [this] at hxn
   simp at hxn; omega
  ·
   refine Up.next (by omega) (by omega) ⟨E,fun j y hj hy=>?_⟩
   by_cases e:j=i
   ·
    subst e; rw [gx] at hy; cases hy; exact List.eq_nil_of_length_eq_zero (by omega)
   ·
    exact hq j y (by omega) hy
 ·
  replace c:=lt_f c
  refine ⟨⟨_,rfl,iff_of_false (by omega) fun hall=>hall fun b hb=>?_⟩,E⟩
  obtain ⟨x,hx,rfl⟩:=Yp.1 hb
  obtain ⟨j,hj⟩:=Yf.1 hx
  exact hq j x (by have:=(Ya.1 hj).1; omega) hj
theorem any93 (B:List Bx) (s:Sl) (h:Heap) (hr:RL h 1 s Bx.cs B) (hi:∀ q ∈ B,RL h 1 q.s inC q.l) :
  Fn Pz 93 #[.slice s.a s.n s.c,.func (.func 94) #[] #[]] h (RP (¬ ∀ b ∈ B.map Bx.l,b=[]) h):=by
 apply vc93 s 94; unfold W93
 refine (index131 B s h hr hi).mono ?_
 rintro _ h3 ⟨⟨k,rfl,hk⟩,E⟩
 exact ⟨_,rfl,RP.e (by rw [decide_eq_true_eq]; exact hk) E⟩
set_option maxHeartbeats 1600000 in
theorem final67 (L:List MR) (s:Sl) (k:Int) (ss sb:Sl) (S:List Int) (B:List Bx) (h:Heap) (hS:SyI h s L) (hC:CfI h ss sb S B) (hP:ProS (L.map MR.m) k S (B.map Bx.l)) :
  Fn Pz 67 #[.slice s.a s.n s.c,.agg ⟨[.slice ss.a ss.n ss.c,.slice sb.a sb.n sb.c]⟩] h (RP (FinS (L.map MR.m) S (B.map Bx.l)) h):=by
 apply vc67 s ss sb; unfold W67
 have hn:=hS.r.ln
 have hsn:=hC.s.ln
 have hsm:=hC.s.sm
 have hlm:(L.map MR.m).length=L.length:=Yc _
 have hSl:=hP.p.s
 rw [hlm] at hSl
 refine (St.refl h).newb fun h3 hs=>?_
 refine ⟨ss,hs.rd 0 rfl (i:=0) rfl,?_⟩
 refine up_loopS (n:=ss.n) hs (fun i=>∀ (p:Nat) z m,p<i->S[p]?=some z->(L.map MR.m)[p]?=some m->m.fin[z.toNat]?=some true) (fun p z m hj=>by omega) ?_
 rintro - i h9 hi ⟨hs,hq⟩
 refine sB_intro (fun c=>?_) (fun c=>?_)
 ·
  replace c:=lt_t c
  refine (hC.s.rw.ext hs.ext).nbI (by omega) (by omega) fun b10 o11 z gz t=>?_
  replace gz:S[i]?=some z:=gz
  refine ⟨z,t.hd,?_⟩
  refine (hS.r.rw.ext hs.ext).nbI (by omega) (by omega) fun b o y gy t2=>?_
  replace gy:L[i]?=some y:=gy
  have gm:(L.map MR.m)[i]?=some y.m:=by rw [Yd,gy]; rfl
  have hyi:=hS.i y (Yb gy)
  have hfl:=(hP.v.m i y.m gm).2.1.n.fl
  have hz:=hP.p.st i z y.m gz gm
  have hfn:=hyi.pf.ln
  refine ⟨y.f,t2.nth 3 rfl,?_⟩
  refine (hyi.pf.rw.ext hs.ext).nbI hz.1 (by omega) fun b o f gf t3=>?_
  refine ⟨f,t3.hd,sB_intro (fun d=>?_) (fun d=>?_)⟩
  ·
   refine RP.f (fun hF=>?_) hs.ext
   have:=hF.s i z y.m gz gm
   rw [gf] at this; cases this; cases d
  ·
   refine Up.next (by omega) (by omega) ⟨hs,fun p z' m' hj h1 h2=>?_⟩
   by_cases e:p=i
   ·
    subst e; rw [gz] at h1; rw [gm] at h2; cases h1; cases h2
    rw [gf]; cases f
    ·
     cases d
    ·
     rfl
   ·
    exact hq p z' m' (by omega) h1 h2
 ·
  replace c:=lt_f c
  refine ⟨sb,hs.rd 0 rfl (i:=1) rfl,?_⟩
  refine (any93 B sb h9 (hC.b.ext hs.ext) fun q hq=>(hC.i q hq).ext hs.ext).mono ?_
  rintro _ h23 ⟨⟨b,rfl,hb⟩,E⟩
  refine ⟨b,rfl,RP.e ?_ (hs.ext.trans E)⟩
  have hall:∀ (p:Nat) z m,S[p]?=some z->(L.map MR.m)[p]?=some m->m.fin[z.toNat]?=some true:=fun p z m h1 h2=>hq p z m (by have:=(Ya.1 h1).1; omega) h1 h2
  cases b with
  | true=>exact iff_of_false (by decide) fun hF=>hb.1 rfl hF.b
  | false=>exact iff_of_true rfl ⟨hall,Classical.not_not.1 fun hn=>by have:=hb.2 hn; cases this⟩
theorem final36 (L:List MR) (s:Sl) (k:Int) (ss sb:Sl) (S:List Int) (B:List Bx) (h:Heap) (hS:SyI h s L) (hC:CfI h ss sb S B) :
  Fn Pz 36 #[.slice s.a s.n s.c,.int .i64 k,.agg ⟨[.slice ss.a ss.n ss.c,.slice sb.a sb.n sb.c]⟩] h fun v h'=>Ext h h'/\∃ (b:Bool) (e:Int),v=.tuple ⟨[.bool b,.int .i64 e]⟩/\(ProS (L.map MR.m) k S (B.map Bx.l)->e=0/\(b=true ↔ FinS (L.map MR.m) S (B.map Bx.l)))/\(¬ ProS (L.map MR.m) k S (B.map Bx.l)->e=1/\b=false):=by
 apply vc36 s k ss sb; unfold W36
 refine (St.refl h).newb fun h3 hs=>?_
 refine ⟨ss,sb,hs.at 0 rfl (o:=0) (n:=2) rfl,?_⟩
 refine (proper24 L s k ss sb S B h3 (hS.ext hs.ext) (hC.ext hs.ext)).mono ?_
 rintro _ h8 ⟨⟨b,rfl,hb⟩,E⟩
 have hs:=hs.step E
 refine ⟨_,rfl,sB_intro (fun c=>?_) (fun c=>?_)⟩
 ·
  have hn:¬ ProS (L.map MR.m) k S (B.map Bx.l):=fun hp=>by rw [hb.2 hp] at c; cases c
  exact ⟨hs.ext,false,1,rfl,fun hp=>absurd hp hn,fun _=>⟨rfl,rfl⟩⟩
 ·
  have hp:=hb.1 (bT c)
  refine ⟨ss,sb,hs.at 0 rfl (o:=0) (n:=2) rfl,?_⟩
  refine (final67 L s k ss sb S B h8 (hS.ext hs.ext) (hC.ext hs.ext) hp).mono ?_
  rintro _ h13 ⟨⟨b2,rfl,hb2⟩,E⟩
  exact ⟨b2,rfl,hs.ext.trans E,b2,0,rfl,fun _=>⟨rfl,hb2⟩,fun hn=>absurd hp hn⟩
end Go.VC
end

section
/- Contract: the reference's Final. (Numbers of layer 27's development dump.) -/
namespace Go.VC
open Go.Proofs Go.LexS
set_option maxHeartbeats 1600000 in
theorem done68 (L:List MR) (s:Sl) (k:Int) (ss sb:Sl) (S:List Int) (B:List Bx) (h:Heap) (hS:SyI h s L) (hC:CfI h ss sb S B) (hP:ProS (L.map MR.m) k S (B.map Bx.l)) :
  Fn Pz 68 #[.slice s.a s.n s.c,.agg ⟨[.slice ss.a ss.n ss.c,.slice sb.a sb.n sb.c]⟩] h (RP (FinS (L.map MR.m) S (B.map Bx.l)) h):=by
 apply vc68 s ss sb; unfold W68
 have hn:=hS.r.ln
 have hsn:=hC.s.ln
 have hbn:=hC.b.ln
 have hsm:=hC.s.sm
 have hbs:=hC.b.sm
 have hlm:(L.map MR.m).length=L.length:=Yc _
 have hSl:=hP.p.s
 rw [hlm] at hSl
 refine (St.refl h).newb fun h3 hs=>?_
 refine up_loopS (n:=s.n) hs (fun i=>∀ (p:Nat) z m,p<i->S[p]?=some z->(L.map MR.m)[p]?=some m->m.fin[z.toNat]?=some true) (fun p z m hj=>by omega) ?_
 rintro - i h9 hi ⟨hs,hq⟩
 refine sB_intro (fun c=>?_) (fun c=>?_)
 ·
  replace c:=lt_t c
  refine (hS.r.rw.ext hs.ext).nbI (by omega) (by omega) fun b o y gy t2=>?_
  replace gy:L[i]?=some y:=gy
  have gm:(L.map MR.m)[i]?=some y.m:=by rw [Yd,gy]; rfl
  have hyi:=hS.i y (Yb gy)
  have hfl:=(hP.v.m i y.m gm).2.1.n.fl
  have hfn:=hyi.pf.ln
  refine ⟨y.f,t2.nth 3 rfl,ss,hs.rd 0 rfl (i:=0) rfl,?_⟩
  refine (hC.s.rw.ext hs.ext).nbI (by omega) (by omega) fun b10 o11 z gz t=>?_
  replace gz:S[i]?=some z:=gz
  have hz:=hP.p.st i z y.m gz gm
  refine ⟨z,t.hd,?_⟩
  refine (hyi.pf.rw.ext hs.ext).nbI hz.1 (by omega) fun b o f gf t3=>?_
  refine ⟨f,t3.hd,sB_intro (fun d=>?_) (fun d=>?_)⟩
  ·
   refine RP.f (fun hF=>?_) hs.ext
   have:=hF.s i z y.m gz gm
   rw [gf] at this; cases this; cases d
  ·
   refine Up.next (by omega) (by omega) ⟨hs,fun p z' m' hj h1 h2=>?_⟩
   by_cases e:p=i
   ·
    subst e; rw [gz] at h1; rw [gm] at h2; cases h1; cases h2
    rw [gf]; cases f
    ·
     cases d
    ·
     rfl
   ·
    exact hq p z' m' (by omega) h1 h2
 ·
  replace c:=lt_f c
  have hall:∀ (p:Nat) z m,S[p]?=some z->(L.map MR.m)[p]?=some m->m.fin[z.toNat]?=some true:=fun p z m h1 h2=>hq p z m (by have:=(Ya.1 h1).1; omega) h1 h2
  refine up_loopS (n:=sb.n) hs (fun i=>∀ (j:Nat) (x:Bx),j<i->B[j]?=some x->x.l=[]) (fun p z hj=>by omega) ?_
  rintro - i h24 hi ⟨hs,hq⟩
  refine ⟨sb,hs.rd 0 rfl (i:=1) rfl,sB_intro (fun c=>?_) (fun c=>?_)⟩
  ·
   replace c:=lt_t c
   refine ⟨sb,hs.rd 0 rfl (i:=1) rfl,?_⟩
   refine (hC.b.rw.ext hs.ext).nbI (by omega) (by omega) fun b o x gx t=>?_
   replace gx:B[i]?=some x:=gx
   have hm:=Yb gx
   have hxn:=(hC.i x hm).ln
   refine ⟨x.s,t.hd,sBi (fun d=>?_) (fun d=>?_)⟩
   ·
    refine RP.f (fun hF=>?_) hs.ext
    have:=hF.b x.l (List.mem_map_of_mem hm)
    rw [this] at hxn
    simp at hxn; omega
   ·
    refine Up.next (by omega) (by omega) ⟨hs,fun j y hj hy=>?_⟩
    by_cases e:j=i
    ·
     subst e; rw [gx] at hy; cases hy; exact List.eq_nil_of_length_eq_zero (by omega)
    ·
     exact hq j y (by omega) hy
  ·
   replace c:=lt_f c
   refine RP.t ⟨hall,fun b hb=>?_⟩ hs.ext
   obtain ⟨x,hx,rfl⟩:=Yp.1 hb
   obtain ⟨j,hj⟩:=Yf.1 hx
   exact hq j x (by have:=(Ya.1 hj).1; omega) hj
theorem refFinal37 (L:List MR) (s:Sl) (k:Int) (ss sb:Sl) (S:List Int) (B:List Bx) (h:Heap) (hS:SyI h s L) (hC:CfI h ss sb S B) :
  Fn Pz 37 #[.slice s.a s.n s.c,.int .i64 k,.agg ⟨[.slice ss.a ss.n ss.c,.slice sb.a sb.n sb.c]⟩] h fun v h'=>Ext h h'/\∃ (b:Bool) (e:Int),v=.tuple ⟨[.bool b,.int .i64 e]⟩/\(ProS (L.map MR.m) k S (B.map Bx.l)->e=0/\(b=true ↔ FinS (L.map MR.m) S (B.map Bx.l)))/\(¬ ProS (L.map MR.m) k S (B.map Bx.l)->e=1/\b=false):=by
 apply vc37 s k ss sb; unfold W37
 refine (St.refl h).newb fun h3 hs=>?_
 refine ⟨ss,sb,hs.at 0 rfl (o:=0) (n:=2) rfl,?_⟩
 refine (refProper25 L s k ss sb S B h3 (hS.ext hs.ext) (hC.ext hs.ext)).mono ?_
 rintro _ h8 ⟨⟨b,rfl,hb⟩,E⟩
 have hs:=hs.step E
 refine ⟨_,rfl,sB_intro (fun c=>?_) (fun c=>?_)⟩
 ·
  have hn:¬ ProS (L.map MR.m) k S (B.map Bx.l):=fun hp=>by rw [hb.2 hp] at c; cases c
  exact ⟨hs.ext,false,1,rfl,fun hp=>absurd hp hn,fun _=>⟨rfl,rfl⟩⟩
 ·
  have hp:=hb.1 (bT c)
  refine ⟨ss,sb,hs.at 0 rfl (o:=0) (n:=2) rfl,?_⟩
  refine (done68 L s k ss sb S B h8 (hS.ext hs.ext) (hC.ext hs.ext) hp).mono ?_
  rintro _ h13 ⟨⟨b2,rfl,hb2⟩,E⟩
  exact ⟨b2,rfl,hs.ext.trans E,b2,0,rfl,fun _=>⟨rfl,hb2⟩,fun hn=>absurd hp hn⟩
end Go.VC
end
