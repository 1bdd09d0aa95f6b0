/- PwG PwH PwI PwJ PwK PwL PwM PwN PwO PwQ PwR PwU PwV PwW PwY PwZ PwAa PwAk PeA PeB PeC PwAc PeE PeF PeD. -/
import Derived.Test.YtibmnldhlgcnjaaGreatDoorFM07
set_option linter.all false
set_option maxRecDepth 100000
set_option maxHeartbeats 8000000

section
namespace Go.VC
open Go.Proofs Go.LexS
theorem app35:appB Pz 69 43 2 16=true:=by kernel_rfl
theorem app39:appB Pz 56 62 2 16=true:=by kernel_rfl
def mv0:Mv:=⟨0,false,0,0,0,false⟩
def mvD (m:Mch) (i:Nat):Mv:=m.mv.getD i mv0
theorem mvD_of {m:Mch} {i:Nat} {x:Mv} (h:m.mv[i]?=some x):mvD m i=x:=getD_some h
theorem evI_mvD (m:Mch) (i:Nat):evI m i=(mvD m i).ev:=by
 unfold evI mvD;rw[Yo];cases m.mv[i]?<;>rfl
def posB (n:Nat) (k:Int) (S:List Int) (BL:List (List Int)) (p:Nat) (m:Mch) (i:Nat):Bool:=decide (canS n k S BL p (mvD m i)=0)
noncomputable def stepsP (n:Nat) (k:Int) (S:List Int) (BL:List (List Int)) (p:Nat) (m:Mch):List Nat:=(mvS m (S.getD p 0)).filter (posB n k S BL p m)
def stpC (q:Nat × Nat):List Value:=stC (q.1:Int) q.2
noncomputable def stepsR (n:Nat) (k:Int) (S:List Int) (BL:List (List Int)) (L:List Mch) (p:Nat):List (Nat × Nat):=match L[p]? with
 | some m=>(stepsP n k S BL p m).map fun i=>(p,i)
 | none=>[]
noncomputable def stepsS (L:List Mch) (k:Int) (S:List Int) (BL:List (List Int)):List (Nat × Nat):=(List.range L.length).flatMap (stepsR L.length k S BL L)
theorem posB_f {n:Nat} {k:Int} {S:List Int} {BL:List (List Int)} {p:Nat} {m:Mch} {i:Nat} (h:posB n k S BL p m i=true):(mvD m i).f=S.getD p 0:=by
 have h:=Yyn h;unfold canS at h;split at h
 .omega
 .rename_i c;exact Classical.not_not.1 c
theorem pos_ix {n:Nat} {k:Int} {S:List Int} {BL:List (List Int)} {p:Nat} {m:Mch}:(List.range m.mv.length).filter (posB n k S BL p m)=(outIx m (S.getD p 0)).filter (posB n k S BL p m):=by
 unfold outIx;rw[List.filter_filter];refine List.filter_congr fun i hi=>?_;obtain⟨x,hx⟩:=get_some (l:=m.mv) (i:=i) (List.mem_range.1 hi);cases hp:posB n k S BL p m i with
 | false=>rfl
 | true=>
  have hf:=posB_f hp;rw[mvD_of hx] at hf;show true=(true&&outP m _ i);unfold outP;rw[hx];show true=(true&&decide (x.f=_));rw[hf];simp
theorem steps_uniq {n:Nat} {k:Int} {S:List Int} {BL:List (List Int)} {p:Nat} {m:Mch} (hD:DetM m) {O:List Nat} (h1:O.Perm ((List.range m.mv.length).filter (posB n k S BL p m))) (h2:O.Pairwise fun a b=>¬evLt (evI m b) (evI m a)):O=stepsP n k S BL p m:=by
 obtain⟨s1,s2⟩:=mvS_srt m (S.getD p 0);rw[pos_ix] at h1;unfold stepsP;have h3:=(s1.filter (posB n k S BL p m)).symm;refine List.Perm.eq_of_pairwise (le:=fun a b=>¬evLt (evI m b) (evI m a)) (fun a b ha hb h3 h4=>?_) h2 (s2.sublist List.filter_sublist) (h1.trans h3);have ha':=(List.mem_filter.1 (h1.mem_iff.1 ha)).1;have hb':=s1.mem_iff.1 (List.mem_filter.1 hb).1;obtain⟨x,hx,hxf⟩:=outIx_mem.1 ha';obtain⟨y,hy,hyf⟩:=outIx_mem.1 hb';by_cases e:a=b
 .exact e
 .have:=(hD a b x y hx hy e (by rw[hxf,hyf])).1;rw[evI_of hx,evI_of hy] at h3 h4;exact absurd (evLt_of h3 this) h4
theorem stepsP_len {n:Nat} {k:Int} {S:List Int} {BL:List (List Int)} {p:Nat} {m:Mch}:(stepsP n k S BL p m).length<=m.mv.length:=by
 unfold stepsP;refine Yys (List.length_filter_le _ _) ?_;rw[(mvS_srt m (S.getD p 0)).1.length_eq];unfold outIx;refine Yys (List.length_filter_le _ _) ?_;rw[Yyd];exact Yyt _
theorem stpRows (p:Nat) (O:List Nat):(O.map fun i=>(p,i)).map stpC=O.map (stC (p:Int)):=by rw[List.map_map];rfl
theorem strows (p:Int) (l:List Nat):∀r∈l.map (stC p),r.length=2:=fun r hr=>by obtain⟨x,_,rfl⟩:=Yp.1 hr;rfl
theorem stepsR_len {n:Nat} {k:Int} {S:List Int} {BL:List (List Int)} {L:List Mch} (hV:SysV L) (p:Nat):(stepsR n k S BL L p).length<=400:=by
 unfold stepsR;cases h:L[p]? with
 | none=>exact Nat.zero_le _
 | some m=>
  show (List.map _ _).length<=400;rw[Yc];exact Yys stepsP_len (hV.m p m h).2.1.n.ml
theorem steps_len {n:Nat} {k:Int} {S:List Int} {BL:List (List Int)} {L:List Mch} (hV:SysV L):∀i,((List.range i).flatMap (stepsR n k S BL L)).length<=i*400
 | 0=>Nat.zero_le _
 | i+1=>by
  have h1:=steps_len (n:=n) (k:=k) (S:=S) (BL:=BL) hV i;have h2:=stepsR_len (n:=n) (k:=k) (S:=S) (BL:=BL) hV i;rw[List.range_succ,List.flatMap_append,Yh,List.flatMap_cons,List.flatMap_nil,Yw];omega
theorem steps47 (L:List MR) (s:Sl) (k:Int) (ss sb:Sl) (S:List Int) (B:List Bx) (h:Heap) (hS:SyI h s L) (hV:SysV (L.map MR.m)) (hC:CfI h ss sb S B) (hSl:S.length=L.length) (hBl:B.length=L.length*L.length) :
  Fn Pz 59 #[.slice s.a s.n s.c,.int .i64 k,.agg ⟨[.slice ss.a ss.n ss.c,.slice sb.a sb.n sb.c]⟩] h fun v h'=>Ext h h'/\∃r:Sl,v=.slice r.a r.n r.c/\RL h' 2 r stpC (stepsS (L.map MR.m) k S (B.map Bx.l)):=by
 apply vc59 s k ss sb;unfold W59;have hn:=hS.r.ln;have hlm:(L.map MR.m).length=L.length:=Yc _;have hV6:=hV.n;rw[hlm] at hV6;generalize hBB:B.map Bx.l=BL at *;have hLL:stepsS (L.map MR.m) k S BL=(List.range L.length).flatMap (stepsR L.length k S BL (L.map MR.m)):=by unfold stepsS;rw[hlm]
 refine (St.refl h).newb fun h3 hs=>?_;have hs:=hs.nil_ 43 2;refine⟨fun out x h' μ=>∃i:Nat,x=(i:Int)/\μ=L.length-i/\i<=L.length/\St h h' [.sl out 43 2 (((List.range i).flatMap (stepsR L.length k S BL (L.map MR.m))).map stpC),.blk h.size [.slice ss.a ss.n ss.c,.slice sb.a sb.n sb.c] 52],⟨_,0,rfl,rfl,Nat.zero_le _,hs⟩,?_⟩;clear hs;rintro-out _ h9 μ ⟨i,rfl,rfl,hi,hs⟩;have hon:=(hs.rows 0 (s:=out) (cs:=stpC) rfl (by omega)).ln;have hol:=steps_len (n:=L.length) (k:=k) (S:=S) (BL:=BL) hV i;refine sBi (fun c1=>?_) (fun c1=>?_)
 .obtain⟨y,gy⟩:=get_some (l:=L) (i:=i) (by omega);have gm:(L.map MR.m)[i]?=some y.m:=by rw[Yd,gy];rfl
  have hyi:=hS.i y (Yb gy);have hvm:=hV.m i y.m gm;have hgn:=hyi.pm.ln;have hml:=hvm.2.1.n.ml;refine (hS.r.rw.ext hs.ext).nbI (by omega) (by omega) fun b o y' gy' t=>?_;rw[Ys] at gy';replace gy':L[i]?=some y':=gy';rw[gy] at gy';cases gy';refine⟨_,_,_,_,_,_,t,?_⟩;refine hs.newput (vs:=mC y.m y.f y.g y.l) rfl rfl fun h19 hs=>?_;refine⟨y.g,hs.rd 0 rfl (i:=4) rfl,?_⟩;have hs:=hs.nil_ 43 2;refine⟨fun l x h' μ=>∃j:Nat,x=(j:Int)/\μ=y.m.mv.length-j/\j<=y.m.mv.length/\St h h' [.sl l 43 2 (((List.range j).filter (posB L.length k S BL i y.m)).map (stC (i:Int))),.blk h9.size (mC y.m y.f y.g y.l) 98,.sl out 43 2 (((List.range i).flatMap (stepsR L.length k S BL (L.map MR.m))).map stpC),.blk h.size [.slice ss.a ss.n ss.c,.slice sb.a sb.n sb.c] 52]/\((List.range j).filter (posB L.length k S BL i y.m)=[]->l.a=none),⟨_,0,rfl,rfl,Nat.zero_le _,hs,fun _=>rfl⟩,?_⟩;clear hs;rintro-l _ h26 μ ⟨j,rfl,rfl,hj,hs,hnil⟩;have hln:=(hs.rows 0 (s:=l) (cs:=stC (i:Int)) rfl (by omega)).ln;have hll:((List.range j).filter (posB L.length k S BL i y.m)).length<=j:=Yys (List.length_filter_le _ _) (by rw[Yyd];exact Yyt _);refine sBi (fun c2=>?_) (fun c2=>?_)
  .obtain⟨x,gx⟩:=get_some (l:=y.m.mv) (i:=j) (by omega);have hxm:=Yb gx;have hx0:0<=x.peer:=(hvm.2.1.n.mv x hxm).2.2.2.2.1;have hx1:x.peer<(L.length:Int):=by have:=hvm.2.2 x hxm;rw[hlm] at this;exact this
   refine (hyi.pm.rw.ext hs.ext).nbI (by omega) (by omega) fun b2 o2 x' gx' t2=>?_;rw[Ys] at gx';replace gx':y.m.mv[j]?=some x':=gx';rw[gx] at gx';cases gx';refine⟨_,_,_,_,_,_,t2,?_⟩;refine hs.newput (vs:=x.cs) rfl rfl fun h36 hs=>?_;refine⟨ss,sb,hs.at 4 rfl (o:=0) (n:=2) rfl,_,_,_,_,_,_,hs.at 0 rfl (o:=0) (n:=6) rfl,?_⟩;rw[hn];refine (can58 L.length k ss sb S B i x h36 (hC.ext hs.ext) hV6.2 hSl hBl (by omega) hx0 hx1).mono ?_;rintro _ h47 ⟨rfl,E⟩;have hs:=(hs.step E).drop 1;rw[hBB];have hmd:mvD y.m j=x:=mvD_of gx;refine⟨_,rfl,sBe (fun c3=>?_) (fun c3=>?_)⟩
   .have hp:posB L.length k S BL i y.m j=true:=by unfold posB;rw[hmd];exact decide_eq_true c3
    refine hs.app 0 (s:=l) (n:=2) (rows:=((List.range j).filter (posB L.length k S BL i y.m)).map (stC (i:Int))) rfl app35 (m:=1) [stC (i:Int) j] rfl rfl (fun r hr=>by rw[Ye] at hr;rw[hr];rfl) rfl (by omega) (by simp only[maxLen];omega) fun r h50 nr hs=>?_;refine⟨_,(show y.m.mv.length-(j+1)<y.m.mv.length-j by omega),j+1,by rw[w64 (by omega) (by omega)];omega,rfl,by omega,?_,?_⟩
    .rw[List.range_succ,List.filter_append,List.filter_cons_of_pos hp,List.filter_nil,Ym];exact hs
    .intro e;rw[List.range_succ,List.filter_append,List.filter_cons_of_pos hp] at e;exact absurd (List.append_eq_nil_iff.1 e).2 (by simp)
   .have hp:posB L.length k S BL i y.m j=false:=by unfold posB;rw[hmd];exact decide_eq_false c3
    have e1:(List.range (j+1)).filter (posB L.length k S BL i y.m)=(List.range j).filter (posB L.length k S BL i y.m):=by
     rw[List.range_succ,List.filter_append,List.filter_cons_of_neg (by rw[hp];exact Bool.false_ne_true),List.filter_nil,Yw]
    exact⟨_,(show y.m.mv.length-(j+1)<y.m.mv.length-j by omega),j+1,by rw[w64 (by omega) (by omega)];omega,rfl,by omega,by rw[e1];exact hs,by rw[e1];exact hnil⟩
  .have hjl:j=y.m.mv.length:=by omega
   subst hjl;have hbg:([.sl l 43 2 (((List.range y.m.mv.length).filter (posB L.length k S BL i y.m)).map (stC (i:Int))),.blk h9.size (mC y.m y.f y.g y.l) 98,.sl out 43 2 (((List.range i).flatMap (stepsR L.length k S BL (L.map MR.m))).map stpC),.blk h.size [.slice ss.a ss.n ss.c,.slice sb.a sb.n sb.c] 52]:List It)[0]?=some (.sl l 43 2 (((List.range y.m.mv.length).filter (posB L.length k S BL i y.m)).map (stC (i:Int)))):=rfl;have hap:l.a.map (·.block)≠some h9.size:=fun e=>by
    have h1:=(List.pairwise_cons.1 hs.ap).1 (.blk h9.size (mC y.m y.f y.g y.l) 98) (Yx);exact h1 h9.size e rfl
   have hfr:∀b,l.a.map (·.block)=some b->h.size<=b:=fun b hb=>(hs.ok _ Yx).2 b hb;refine (sort80 y.m y.g ⟨h9.size,0,none⟩ (i:Int) hs 0 hbg (fun x hx=>List.mem_range.1 (List.mem_filter.1 hx).1) hnil (by omega) (by omega) fun h' hsz hoth=>?_).mono ?_
   .have E':Ext h h':=⟨Yys hs.ext.1 hsz,fun c hc=>by
     rw[hoth c (by have:=hs.ext.1;omega) fun e=>by have:=hfr c e;omega];exact hs.ext.2 c hc⟩
    refine⟨?_,hyi.pm.rw.ext E'⟩;have h1:hc h26 ⟨h9.size,0+4,none⟩=some (.slice y.g.a y.g.n y.g.c):=hs.rd 1 rfl rfl;rw[hc_of_block (h:=h26) (h':=h') (a:=⟨h9.size,0+4,none⟩) (by
     show h'[h9.size]?=h26[h9.size]?;exact hoth h9.size (hc_blk h1) hap)]
    exact h1
   .rintro _ h54 ⟨rfl,l',hp',hw',hs⟩;refine⟨rfl,?_⟩;have hu:l'=stepsP L.length k S BL i y.m:=steps_uniq hvm.2.1.d hp' (hw'.imp fun {a b} hab=>by rw[evI_mvD,evI_mvD];exact hab);subst hu;have hs:St h h54 [.sl l 43 2 ((stepsP L.length k S BL i y.m).map (stC (i:Int))),.blk h9.size (mC y.m y.f y.g y.l) 98,.sl out 43 2 (((List.range i).flatMap (stepsR L.length k S BL (L.map MR.m))).map stpC),.blk h.size [.slice ss.a ss.n ss.c,.slice sb.a sb.n sb.c] 52]:=hs;have hln2:=(hs.rows 0 (s:=l) (cs:=stC (i:Int)) rfl (by omega)).ln;have hpl:(stepsP L.length k S BL i y.m).length<=y.m.mv.length:=stepsP_len;refine hs.appRw 2 (rows:=((List.range i).flatMap (stepsR L.length k S BL (L.map MR.m))).map stpC) (news:=(stepsP L.length k S BL i y.m).map (stC (i:Int))) rfl app35 (y:=l) (hs.rw 0 rfl (by omega)) (strows _ _) (hs.len 0 rfl (by omega)).2.2 (flat_oneB (fun _=>rfl) _) (by omega) (by simp only[maxLen];omega) fun r h56 nr hs=>?_;refine⟨_,(show L.length-(i+1)<L.length-i by omega),i+1,by rw[w64 (by omega) (by omega)];omega,rfl,by omega,?_⟩;have e1:stepsR L.length k S BL (L.map MR.m) i=(stepsP L.length k S BL i y.m).map fun q=>(i,q):=by unfold stepsR;rw[gm]
    rw[List.range_succ,List.flatMap_append,List.flatMap_cons,List.flatMap_nil,Yw,Ym,e1,stpRows];exact hs.sub (.cons _ (.cons _ (.cons_cons _ (.cons_cons _ (List.nil_sublist _)))))
 .have hil:i=L.length:=by omega
  subst hil;refine⟨hs.ext,out,rfl,?_⟩;rw[hLL];have:=hs.len 0 (s:=out) rfl (by omega);exact⟨hs.rows 0 rfl (by omega),this.2.1,this.2.2,by omega⟩
theorem refAll48 (L:List MR) (s:Sl) (k:Int) (ss sb:Sl) (S:List Int) (B:List Bx) (h:Heap) (hS:SyI h s L) (hV:SysV (L.map MR.m)) (hC:CfI h ss sb S B) (hSl:S.length=L.length) (hBl:B.length=L.length*L.length) :
  Fn Pz 45 #[.slice s.a s.n s.c,.int .i64 k,.agg ⟨[.slice ss.a ss.n ss.c,.slice sb.a sb.n sb.c]⟩] h fun v h'=>Ext h h'/\∃r:Sl,v=.slice r.a r.n r.c/\RL h' 2 r stpC (stepsS (L.map MR.m) k S (B.map Bx.l)):=by
 apply vc45 s k ss sb;unfold W45;have hn:=hS.r.ln;have hsn:=hC.s.ln;have hlm:(L.map MR.m).length=L.length:=Yc _;have hV6:=hV.n;rw[hlm] at hV6;have hpos:∀(r i:Int) (h:Heap),SyI h s L->CfI h ss sb S B->_:=fun r i h a b=>possible61 L s k ss sb S B r i h a hV b hSl hBl;generalize hBB:B.map Bx.l=BL at *;have hLL:stepsS (L.map MR.m) k S BL=(List.range L.length).flatMap (stepsR L.length k S BL (L.map MR.m)):=by unfold stepsS;rw[hlm]
 refine (St.refl h).newb fun h3 hs=>?_;have hs:=hs.nil_ 62 2;refine⟨fun out x h' μ=>∃i:Nat,x=(i:Int)/\μ=L.length-i/\i<=L.length/\St h h' [.sl out 62 2 (((List.range i).flatMap (stepsR L.length k S BL (L.map MR.m))).map stpC),.blk h.size [.slice ss.a ss.n ss.c,.slice sb.a sb.n sb.c] 28],⟨_,0,rfl,rfl,Nat.zero_le _,hs⟩,?_⟩;clear hs;rintro-out _ h9 μ ⟨i,rfl,rfl,hi,hs⟩;have hon:=(hs.rows 0 (s:=out) (cs:=stpC) rfl (by omega)).ln;have hol:=steps_len (n:=L.length) (k:=k) (S:=S) (BL:=BL) hV i;refine sBi (fun c1=>?_) (fun c1=>?_)
 .obtain⟨y,gy⟩:=get_some (l:=L) (i:=i) (by omega);have gm:(L.map MR.m)[i]?=some y.m:=by rw[Yd,gy];rfl
  have hyi:=hS.i y (Yb gy);have hvm:=hV.m i y.m gm;have hml:=hvm.2.1.n.ml;refine (hS.r.rw.ext hs.ext).nbI (by omega) (by omega) fun b o y' gy' t=>?_;rw[Ys] at gy';replace gy':L[i]?=some y':=gy';rw[gy] at gy';cases gy';refine⟨_,_,_,_,_,_,t,ss,hs.rd 1 rfl rfl,?_⟩;refine (hC.s.rw.ext hs.ext).nbI (by omega) (by omega) fun b2 o2 z gz t2=>?_;rw[Ys] at gz;replace gz:S[i]?=some z:=gz;have hSg:S.getD i 0=z:=getD_some gz;refine⟨_,t2.hd,?_⟩;refine (refOut62S y.m y.f y.g y.l z h9 (hyi.ext hs.ext)).mono ?_;rintro _ h24 ⟨r,O,rfl,h1,hP,hSo⟩;have hs:=hs.join h1;have hO:O=mvS y.m z:=(mvS_eq hvm.2.1.d hP hSo).symm;have hOl:O.length<=y.m.mv.length:=by
   rw[hP.length_eq];unfold outIx;refine Yys (List.length_filter_le _ _) ?_;rw[Yyd];exact Yyt _
  refine⟨r,rfl,?_⟩;refine⟨fun out x h' μ=>∃j:Nat,x=(j:Int)/\μ=O.length-j/\j<=O.length/\St h h' [.sl out 62 2 ((((List.range i).flatMap (stepsR L.length k S BL (L.map MR.m)))++((O.take j).filter (posB L.length k S BL i y.m)).map fun q=>(i,q)).map stpC),.blk h.size [.slice ss.a ss.n ss.c,.slice sb.a sb.n sb.c] 28,.sl r 3 1 ((natI O).map inC)],⟨_,0,rfl,rfl,Nat.zero_le _,by rw[Yyk,List.filter_nil,List.map_nil,Yw];exact hs⟩,?_⟩;clear hs;rintro-out2 _ h30 μ ⟨j,rfl,rfl,hj,hs⟩;have hon2:=(hs.rows 0 (s:=out2) (cs:=stpC) rfl (by omega)).ln;have hrn:=(hs.rows 2 (s:=r) (cs:=inC) rfl (by omega)).ln;rw[show (natI O).length=O.length from Yc _] at hrn;have hfl:((O.take j).filter (posB L.length k S BL i y.m)).length<=j:=Yys (List.length_filter_le _ _) (by rw[Yu];omega);rw[Yh,Yc] at hon2;refine sBi (fun c2=>?_) (fun c2=>?_)
  .obtain⟨q,gq⟩:=get_some (l:=O) (i:=j) (by omega);have hqm:q<y.m.mv.length:=by
    have:=hP.mem_iff.1 (Yb gq);obtain⟨x,hx,_⟩:=outIx_mem.1 this;exact (Ya.1 hx).1
   refine (hs.rows 2 (s:=r) (cs:=inC) rfl (by omega)).nbI (by omega) (by omega) fun b3 o3 q' gq' t3=>?_;rw[Ys] at gq';replace gq':(natI O)[j]?=some q':=gq';obtain⟨q2,gq2,rfl⟩:=natI_get gq';rw[gq] at gq2;cases gq2;refine⟨_,t3.hd,?_⟩;refine hs.newput (vs:=stC (i:Int) q) rfl rfl fun h35 hs=>?_;refine⟨ss,sb,hs.at 2 rfl (o:=0) (n:=2) rfl,_,_,hs.at 0 rfl (o:=0) (n:=2) rfl,?_⟩;refine (hpos (i:Int) (q:Int) h35 (hS.ext hs.ext) (hC.ext hs.ext)).mono ?_;rintro _ h42 ⟨rfl,E⟩;have hs:=hs.step E;obtain⟨x,gx⟩:=get_some hqm;have hmd:mvD y.m q=x:=mvD_of gx;have hpo:posS (L.map MR.m) k S BL (i:Int) (q:Int)=canS L.length k S BL i (mvD y.m q):=by
    unfold posS;rw[hlm,if_neg (by omega),Ys,gm];show (if (q:Int)<0\/(y.m.mv.length:Int)<=(q:Int) then 2 else match y.m.mv[(q:Int).toNat]? with | none=>2 | some x=>canS L.length k S BL i x)=_;rw[if_neg (by omega),Ys,gx,hmd]
   rw[hpo];refine⟨_,rfl,sBe (fun c3=>?_) (fun c3=>?_)⟩
   .have hp:posB L.length k S BL i y.m q=true:=decide_eq_true c3;refine⟨_,_,hs.at 0 rfl (o:=0) (n:=2) rfl,?_⟩;refine hs.app 1 (s:=out2) (n:=2) (rows:=(((List.range i).flatMap (stepsR L.length k S BL (L.map MR.m)))++((O.take j).filter (posB L.length k S BL i y.m)).map fun q=>(i,q)).map stpC) rfl app39 (m:=1) [stC (i:Int) q] rfl rfl (fun r hr=>by rw[Ye] at hr;rw[hr];rfl) rfl (by omega) (by simp only[maxLen];omega) fun r2 h47 nr hs=>?_;refine⟨_,(show O.length-(j+1)<O.length-j by omega),j+1,by rw[w64 (by omega) (by omega)];omega,rfl,by omega,?_⟩;have e1:((O.take (j+1)).filter (posB L.length k S BL i y.m)).map (fun q=>(i,q))=((O.take j).filter (posB L.length k S BL i y.m)).map (fun q=>(i,q))++[(i,q)]:=by
     rw[take_snoc gq,List.filter_append,List.filter_cons_of_pos hp,List.filter_nil,Ym];rfl
    rw[e1,<-Yz,Ym];exact hs.drop 1
   .have hp:posB L.length k S BL i y.m q=false:=decide_eq_false c3;refine⟨_,(show O.length-(j+1)<O.length-j by omega),j+1,by rw[w64 (by omega) (by omega)];omega,rfl,by omega,?_⟩;rw[take_snoc gq,List.filter_append,List.filter_cons_of_neg (by rw[hp];exact Bool.false_ne_true),List.filter_nil,Yw];exact hs.drop 1
  .have hjl:j=O.length:=by omega
   subst hjl;refine⟨_,(show L.length-(i+1)<L.length-i by omega),i+1,by rw[w64 (by omega) (by omega)];omega,rfl,by omega,?_⟩;have e1:stepsR L.length k S BL (L.map MR.m) i=(O.filter (posB L.length k S BL i y.m)).map fun q=>(i,q):=by
    unfold stepsR;rw[gm];show ((stepsP L.length k S BL i y.m).map fun q=>(i,q))=_;unfold stepsP;rw[hSg,<-hO]
   rw[List.range_succ,List.flatMap_append,List.flatMap_cons,List.flatMap_nil,Yw,e1];rw[Yye] at hs;exact hs.sub (.cons_cons _ (.cons_cons _ (List.nil_sublist _)))
 .have hil:i=L.length:=by omega
  subst hil;refine⟨hs.ext,out,rfl,?_⟩;rw[hLL];have:=hs.len 0 (s:=out) rfl (by omega);exact⟨hs.rows 0 rfl (by omega),this.2.1,this.2.2,by omega⟩
theorem steps16 (L:List MR) (s:Sl) (k:Int) (ss sb:Sl) (S:List Int) (B:List Bx) (h:Heap) (hS:SyI h s L) (hC:CfI h ss sb S B) :
  Fn Pz 97 #[.slice s.a s.n s.c,.int .i64 k,.agg ⟨[.slice ss.a ss.n ss.c,.slice sb.a sb.n sb.c]⟩] h fun v h'=>Ext h h'/\∃(r:Sl) (e:Int) (l:List (Nat × Nat)),v=.tuple ⟨[.slice r.a r.n r.c,.int .i64 e]⟩/\RL h' 2 r stpC l/\(ProS (L.map MR.m) k S (B.map Bx.l)->e=0/\l=stepsS (L.map MR.m) k S (B.map Bx.l))/\(¬ProS (L.map MR.m) k S (B.map Bx.l)->e=1/\l=[]):=by
 apply vc97 s k ss sb;unfold W97;have hlm:(L.map MR.m).length=L.length:=Yc _;have hbm:(B.map Bx.l).length=B.length:=Yc _;refine (St.refl h).newb fun h3 hs=>?_;refine⟨ss,sb,hs.at 0 rfl (o:=0) (n:=2) rfl,?_⟩;refine (proper24 L s k ss sb S B h3 (hS.ext hs.ext) (hC.ext hs.ext)).mono ?_;rintro _ h8 ⟨⟨b,rfl,hb⟩,E⟩;have hs:=hs.step E;refine⟨_,rfl,sB_intro (fun c=>?_) (fun c=>?_)⟩
 .have hn:¬ProS (L.map MR.m) k S (B.map Bx.l):=fun hp=>by rw[hb.2 hp] at c;cases c
  exact⟨hs.ext,⟨none,0,0⟩,1,[],rfl,⟨Rw.nil,Yyt _,fun _=>⟨rfl,rfl⟩,Nat.zero_le _⟩,fun hp=>absurd hp hn,fun _=>⟨rfl,rfl⟩⟩
 .have hp:=hb.1 (bT c);have h1:=hp.p.s;have h2:=hp.p.b;rw[hlm] at h1;rw[hbm,hlm] at h2;refine⟨ss,sb,hs.at 0 rfl (o:=0) (n:=2) rfl,?_⟩;refine (steps47 L s k ss sb S B h8 (hS.ext hs.ext) hp.v (hC.ext hs.ext) h1 h2).mono ?_;rintro _ h13 ⟨E,r,rfl,hr⟩;exact⟨r,rfl,(hs.step E).ext,r,0,_,rfl,hr,fun _=>⟨rfl,rfl⟩,fun hn=>absurd hp hn⟩
def StaV (L:List Mch) (h:Heap) (v:Value) (h':Heap):Prop:=∃(ss sb:Sl) (S:List Int) (B:List Bx) (e:Int) (A:List It),v=.tuple ⟨[cfA ss sb,.int .i64 e]⟩/\St h h' A/\CfM A ss sb S B/\(SysV L->e=0/\S=startS L/\B=List.replicate (L.length*L.length) bx0)/\(¬SysV L->e=1/\S=[]/\B=[])
theorem St.nil2 {h0 h:Heap} {A:List It} (hs:St h0 h A):St h0 h ([.sl ⟨none,0,0⟩ 3 1 [],.sl ⟨none,0,0⟩ 25 1 []]++A):=(hs.nil_ 25 1).nil_ 3 1
theorem start14 (L:List MR) (s:Sl) (h:Heap) (hS:SyI h s L):Fn Pz 53 #[.slice s.a s.n s.c] h fun v h'=>StaV (L.map MR.m) h v h':=by
 apply vc53 s;unfold W53;have hn:=hS.r.ln;have hlm:(L.map MR.m).length=L.length:=Yc _;refine (St.refl h).newb fun h1 hs=>?_;refine (valid22 L s h1 (hS.ext hs.ext)).mono ?_;rintro _ h4 ⟨⟨b,rfl,hb⟩,E⟩;have hs:=hs.step E;refine⟨_,rfl,sB_intro (fun c=>?_) (fun c=>?_)⟩
 .have hn:¬SysV (L.map MR.m):=fun hp=>by rw[hb.2 hp] at c;cases c
  refine hs.put 0 rfl (o:=0) (vs:=[.slice none 0 0,.slice none 0 0]) rfl (show 2<=2 by decide) fun h5 hs=>?_;exact⟨⟨none,0,0⟩,⟨none,0,0⟩,hs.at 0 rfl (o:=0) (n:=2) rfl,_,_,[],[],1,_,rfl,hs.nil2,CfM.none_.mono fun i hi=>List.mem_append_left _ hi,fun hp=>absurd hp hn,fun _=>⟨rfl,rfl,rfl⟩⟩
 .have hv:=hb.1 (bT c);have h6:=hv.n;rw[hlm] at h6;have h36:=sq6 h6.2;have hsq:(s.n:Int)*(s.n:Int)=((L.length*L.length:Nat):Int):=by rw[hn];rfl
  generalize hnn:L.length*L.length=nn at *;rw[hsq,w64 (n:=((nn:Nat):Int)) (by omega) (by omega),Ys];refine⟨⟨by omega,by omega,by omega⟩,?_⟩;refine hs.newb fun h8 hs=>?_;have hs:=hs.blkS nn 1 ((List.replicate nn bx0).map Bx.cs) (by rw[made42,List.map_replicate,List.map_replicate];rfl) (bxrows _) (by rw[Yc,Yg]) (by simp only[maxLen];omega);refine hs.newput (vs:=[.slice none 0 0,.slice (some ⟨h4.size,0,none⟩) nn nn]) rfl rfl fun h10 hs=>?_;have hs:=hs.nil_ 3 1;have hSl:(startS (L.map MR.m)).length=L.length:=by unfold startS;rw[Yc,Yc]
  refine⟨fun x h' μ=>∃(i:Nat) (st:Sl),x=(i:Int)/\μ=L.length-i/\i<=L.length/\St h h' [.sl st 3 1 (((startS (L.map MR.m)).take i).map inC),.blk h8.size [.slice st.a st.n st.c,.slice (some ⟨h4.size,0,none⟩) nn nn] 52,.sl ⟨some ⟨h4.size,0,none⟩,nn,nn⟩ 25 1 ((List.replicate nn bx0).map Bx.cs),.blk h.size [.slice none 0 0,.slice none 0 0] 52],⟨_,0,_,rfl,rfl,Nat.zero_le _,hs⟩,?_⟩;clear hs;rintro-_ h15 μ ⟨i,st,rfl,rfl,hi,hs⟩;refine sBi (fun c=>?_) (fun c=>?_)
  .obtain⟨y,gy⟩:=get_some (l:=L) (i:=i) (by omega);have gs:(startS (L.map MR.m))[i]?=some y.m.s:=by unfold startS;rw[Yd,Yd,gy];rfl
   have hst:=(hs.rows 0 (s:=st) (cs:=inC) rfl (by omega)).ln;rw[Yu] at hst;refine (hS.r.rw.ext hs.ext).nbI (by omega) (by omega) fun b o y' gy' t=>?_;rw[Ys] at gy';replace gy':L[i]?=some y':=gy';rw[gy] at gy';cases gy';refine⟨_,_,_,_,_,_,t,?_⟩;refine hs.newput (vs:=mC y.m y.f y.g y.l) rfl rfl fun h25 hs=>?_;refine⟨st,hs.rd 2 rfl rfl,_,hs.rd 0 rfl (i:=2) rfl,?_⟩;refine hs.app 1 (s:=st) (n:=1) (rows:=((startS (L.map MR.m)).take i).map inC) rfl app42 (m:=1) [inC y.m.s] rfl rfl (fun r hr=>by rw[Ye] at hr;rw[hr];rfl) rfl (by omega) (by simp only[maxLen];omega) fun r h30 nr hs=>?_;refine hs.put 2 rfl (o:=0) (vs:=[.slice r.a r.n r.c]) rfl (show 1<=2 by decide) fun h31 hs=>?_;refine⟨_,(show L.length-(i+1)<L.length-i by omega),i+1,r,by rw[w64 (by omega) (by omega)];omega,rfl,by omega,?_⟩;rw[take_snoc gs,Ym];exact hs.drop 1
  .have hil:i=L.length:=by omega
   subst hil;rw[Yj (by omega)] at hs;refine⟨st,⟨some ⟨h4.size,0,none⟩,nn,nn⟩,hs.at 1 rfl (o:=0) (n:=2) rfl,?_⟩;refine hs.put 3 rfl (o:=0) (vs:=[.slice st.a st.n st.c,.slice (some ⟨h4.size,0,none⟩) nn nn]) rfl (show 2<=2 by decide) fun h35 hs=>?_;refine⟨st,⟨some ⟨h4.size,0,none⟩,nn,nn⟩,hs.at 3 rfl (o:=0) (n:=2) rfl,st,_,_,_,0,_,rfl,hs,?_,fun _=>⟨rfl,rfl,by rw[hlm,hnn]⟩,fun hn=>absurd hv hn⟩;refine⟨Yx,Yn _ (Yn _ Yx),fun q hq=>.inl (List.eq_of_mem_replicate hq),by omega,by rw[Yg];omega,fun q hq=>?_⟩;rw[List.eq_of_mem_replicate hq];exact Nat.zero_le _
theorem app22:appB Pz 22 98 6 96=true:=by kernel_rfl
structure MrM (A:List It) (x:MR):Prop where
 f:It.sl x.f 4 1 (x.m.fin.map bC)∈A
 g:It.sl x.g 110 6 (x.m.mv.map Mv.cs)∈A
 l:It.sl x.l 230 3 (x.m.li.map To.cs)∈A
 n:x.m.fin.length<=1048576/\x.m.mv.length<=1048576/\x.m.li.length<=1048576
theorem MrM.mono {A A':List It} {x:MR} (h:MrM A x) (hA:∀i∈A,i∈A'):MrM A' x:=⟨hA _ h.f,hA _ h.g,hA _ h.l,h.n⟩
theorem MrM.mi {h0 h:Heap} {A:List It} {x:MR} (hs:St h0 h A) (hM:MrM A x):MI h x.m x.f x.g x.l:=by
 obtain⟨k1,e1⟩:=Yf.1 hM.f;obtain⟨k2,e2⟩:=Yf.1 hM.g;obtain⟨k3,e3⟩:=Yf.1 hM.l;exact⟨hs.rl k1 e1 (by omega) hM.n.1,hs.rl k2 e2 (by omega) hM.n.2.1,hs.rl k3 e3 (by omega) hM.n.2.2⟩
theorem all43 (g:Gl) (h:Heap) (hg:GI h g) (hx:Gx h) (hV:ValidS g) (Lm:List Mch) (hn:Lm.length=g.hr.n) (h6:Lm.length<=1048576)
  (hp:∀(i:Nat) m,Lm[i]?=some m->proj g (i:Int)=(some m,0)/\m.fin.length<=1048576/\m.mv.length<=1048576/\m.li.length<=1048576) :
  Fn Pz 33 #[g.v] h fun v h'=>∃(s:Sl) (L:List MR),v=.tuple ⟨[.slice s.a s.n s.c,.int .i64 0]⟩/\Ext h h'/\L.map MR.m=Lm/\SyI h' s L:=by
 apply vc33 (bs g.nm) g.hr g.hd g.n g.s g.e g.he g.ht;unfold W33;refine (St.refl h).newb fun h9 hs=>?_;refine⟨_,_,_,_,_,_,_,_,hs.at 0 rfl (o:=0) (n:=8) rfl,?_⟩;refine (valid38 g h9 (hg.ext hs.ext) (hx.ext hs.ext)).mono ?_;rintro _ h20 ⟨rfl,E⟩;have hs:=hs.step E;refine⟨_,rfl,?_⟩;refine sB_f (by rw[decide_eq_true hV];rfl) ?_;refine⟨g.hr,hs.rd 0 rfl (i:=1) rfl,?_⟩;have hs:=hs.nil_ 98 6;refine⟨fun out x h' μ=>∃(i:Nat) (L:List MR) (A:List It),x=(i:Int)/\μ=Lm.length-i/\i<=Lm.length/\L.map MR.m=Lm.take i/\St h h' (.sl out 98 6 (L.map MR.cs) :: .blk h.size [.string (bs g.nm),.slice g.hr.a g.hr.n g.hr.c,.slice g.hd.a g.hd.n g.hd.c,.int .i64 g.n,.int .i64 g.s,.int .i64 g.e,.slice g.he.a g.he.n g.he.c,.slice g.ht.a g.ht.n g.ht.c] 92::A)/\∀x∈L,MrM A x,⟨_,0,[],[],rfl,rfl,Nat.zero_le _,rfl,hs,fun x hx=>(by cases hx)⟩,?_⟩;clear hs;rintro-out _ h27 μ ⟨i,L,A,rfl,rfl,hi,hL,hs,hM⟩;have hLl:L.length=i:=by have:=congrArg List.length hL;rw[Yc,Yu] at this;omega
 have hst:=(hs.rows 0 (s:=out) (cs:=MR.cs) rfl (by omega)).ln;refine sBi (fun c=>?_) (fun c=>?_)
 .obtain⟨m',gm⟩:=get_some (l:=Lm) (i:=i) (by omega);obtain⟨hpr,hb⟩:=hp i m' gm;refine⟨_,_,_,_,_,_,_,_,hs.at 1 rfl (o:=0) (n:=8) rfl,?_⟩;refine (project12 g (i:Int) h27 (hg.ext hs.ext) (hx.ext hs.ext)).mono ?_;rintro _ h44 ⟨-,hm⟩;rw[hpr] at hm;cases hm with
  | err he0 _=>cases he0
  | @ok m sf sm sl he0 hs2=>
   cases he0;have hs:=hs.join hs2;refine⟨_,_,_,sf,sm,sl,0,rfl,?_⟩;refine hs.newput (vs:=mC m' sf sm sl) rfl rfl fun h46 hs=>?_;refine sB_f rfl ?_;refine⟨_,_,_,sf,sm,sl,hs.at 0 rfl (o:=0) (n:=6) rfl,?_⟩;refine hs.app 1 (s:=out) (n:=6) (rows:=L.map MR.cs) rfl app22 (m:=1) [mC m' sf sm sl] rfl rfl (fun r hr=>by rw[Ye] at hr;rw[hr];rfl) rfl (by omega) (by simp only[maxLen];omega) fun r h55 nr hs=>?_;refine⟨_,(show Lm.length-(i+1)<Lm.length-i by omega),i+1,L++[⟨m',sf,sm,sl⟩],A++[.sl sf 4 1 (m'.fin.map bC),.sl sm 110 6 (m'.mv.map Mv.cs),.sl sl 230 3 (m'.li.map To.cs)],by rw[w64 (by omega) (by omega)];omega,rfl,by omega,?_,?_,?_⟩
   .rw[take_snoc gm,Ym,hL];rfl
   .rw[Ym];exact hs.drop 1
   .intro x hx;rcases Yk.1 hx with hx | hx
    .exact (hM x hx).mono fun j hj=>List.mem_append_left _ hj
    .rw[Ye] at hx;subst hx;exact⟨List.mem_append_right _ (Yx),List.mem_append_right _ (Yn _ Yx),List.mem_append_right _ (Yn _ (Yn _ Yx)),hb⟩
 .have hil:i=Lm.length:=by omega
  rw[hil,Yj (Yyt _)] at hL;refine⟨out,L,rfl,hs.ext,hL,hs.rl 0 rfl (by omega) (by omega),fun x hx=>?_⟩;exact MrM.mi hs ((hM x hx).mono fun j hj=>Yn _ (Yn _ hj))
theorem clone92 (l:List Int) (s:Sl) (h:Heap) (hr:RL h 1 s inC l):Fn Pz 126 #[.slice s.a s.n s.c] h fun v h'=>∃t:Sl,v=.slice t.a t.n t.c/\St h h' [.sl t 3 1 (l.map inC)]:=by
 apply vc126 s;unfold W126;have hn:=hr.ln;have hsm:=hr.sm;refine sB_intro (fun c=>?_) (fun c=>?_)
 .have h0:=hr.nil (Option.isNone_iff_eq_none.1 c);have:l=[]:=List.eq_nil_of_length_eq_zero (by omega);subst this;exact⟨⟨none,0,0⟩,rfl,(St.refl h).nil_ 3 1⟩
 .refine (St.refl h).newb fun h1 hs=>?_;have hs:=hs.blkS 0 1 [] rfl (fun r hr=>by cases hr) rfl (Nat.zero_le _);refine hs.appRw 0 (s:=⟨some ⟨h.size,0,none⟩,0,0⟩) (rows:=[]) (y:=s) rfl app42 (hr.rw.ext hs.ext) (inrows' l) hr.nil (flat_oneB (fun _=>rfl) _) (by show (0+s.n)*8<=_;omega) (by show 0+s.n<=_;simp only[maxLen];omega) fun r h3 _ hs=>?_;exact⟨r,rfl,hs⟩
def clB (ob b0 b3:Nat) (h12:Heap) (R:Value->Heap->Prop):Prop:=
 (∃x13:Sl,hc h12 ⟨b0,1,none⟩=some (.slice x13.a x13.n x13.c) /\ 
 (∃I14:Int->Heap->Nat->Prop,(∃m15,I14 0 h12 m15) /\ 
 (∀(_:Env) (x_17:Int) (h18:Heap) (m16:Nat),I14 x_17 h18 m16 -> 
 (sB (decide (x_17<(x13.n:Int))) 
  ((NB x13.a fun b19 o20=>((0<=(x_17:Int)/\(x_17:Int)<(x13.n:Nat)) /\ 
  (∃x21:Sl,hc h18 ⟨b19,o20+Int.toNat x_17*1,none⟩=some (.slice x21.a x21.n x21.c) /\ 
  (∃x22:Sl,hc h18 ⟨ob,1,none⟩=some (.slice x22.a x22.n x22.c) /\ 
  (Fn Pz 126 #[.slice x21.a x21.n x21.c] h18 
  (fun v23 h25=>∃x24:Sl,v23=.slice x24.a x24.n x24.c /\ 
  (Sm [⟨ob,1,none⟩] h18 h25 /\ 
  (NB x22.a fun b26 o27=>((0<=(x_17:Int)/\(x_17:Int)<(x22.n:Nat)) /\ 
  (okAt h25 ⟨b26,o27+Int.toNat x_17*1,none⟩ 1/\∀h28:Heap,h28=hputs h25 ⟨b26,o27+Int.toNat x_17*1,none⟩ 0 [.slice x24.a x24.n x24.c] -> 
  (∃m29,m29<m16/\I14 (IntKind.wrap .i64 (x_17+1)) h28 m29)))))))))))) 
  ((∃x30:Sl,∃x31:Sl,atC h18 ⟨ob,0,none⟩ [.slice x30.a x30.n x30.c,.slice x31.a x31.n x31.c] /\ 
  (okAt h18 ⟨b3,0,none⟩ 2/\∀h32:Heap,h32=hputs h18 ⟨b3,0,none⟩ 0 [.slice x30.a x30.n x30.c,.slice x31.a x31.n x31.c] -> 
  (∃x33:Sl,∃x34:Sl,atC h32 ⟨b3,0,none⟩ [.slice x33.a x33.n x33.c,.slice x34.a x34.n x34.c] /\ 
  R (.agg ⟨[.slice x33.a x33.n x33.c,.slice x34.a x34.n x34.c]⟩) h32))))))))
def CloV (S:List Int) (B:List Bx) (h:Heap) (v:Value) (h':Heap):Prop:=∃(ts tb:Sl) (T:List Bx),v=cfA ts tb/\T.map Bx.l=B.map Bx.l/\St h h' ([.sl ts 3 1 (S.map inC),.sl tb 25 1 (T.map Bx.cs)]++T.map Bx.it)
theorem set_grow {α:Type} {T:List α} {i k:Nat} {z x:α} (hT:T.length=i):(T++List.replicate (k+1) z).set i x=(T++[x])++List.replicate k z:=by
 subst hT;rw[List.set_append_right _ _ (Yyt _),Nat.sub_self,List.replicate_succ,List.set_cons_zero,Yz];rfl
theorem cloneB (ob b0 b3:Nat) (ss sb ts tb u1 u2:Sl) (S:List Int) (B:List Bx) (h h12:Heap) (hC:CfI h ss sb S B)
  (hs:St h h12 [.blk ob [.slice ts.a ts.n ts.c,.slice tb.a tb.n tb.c] 52,.sl tb 25 1 ((List.replicate B.length bx0).map Bx.cs),.blk b3 [.slice u1.a u1.n u1.c,.slice u2.a u2.n u2.c] 52,.blk b0 [.slice ss.a ss.n ss.c,.slice sb.a sb.n sb.c] 52,.sl ts 3 1 (S.map inC)]) :
  clB ob b0 b3 h12 (CloV S B h):=by
 unfold clB;have hbn:=hC.b.ln;have hbs:=hC.b.sm;refine⟨sb,hs.rd 3 rfl (i:=1) rfl,?_⟩;refine⟨fun x h' μ=>∃(i:Nat) (T:List Bx),x=(i:Int)/\μ=B.length-i/\i<=B.length/\T.map Bx.l=(B.take i).map Bx.l/\St h h' (.blk ob [.slice ts.a ts.n ts.c,.slice tb.a tb.n tb.c] 52 :: .sl tb 25 1 ((T++List.replicate (B.length-i) bx0).map Bx.cs) :: .blk b3 [.slice u1.a u1.n u1.c,.slice u2.a u2.n u2.c] 52 :: .blk b0 [.slice ss.a ss.n ss.c,.slice sb.a sb.n sb.c] 52 :: .sl ts 3 1 (S.map inC)::T.map Bx.it),⟨_,0,[],rfl,rfl,Nat.zero_le _,rfl,hs⟩,?_⟩;clear hs;rintro-_ h18 μ ⟨i,T,rfl,rfl,hi,hT,hs⟩;have hTl:T.length=i:=by have:=congrArg List.length hT;rw[Yc,Yc,Yu] at this;omega
 have htb:=(hs.rows 1 (s:=tb) (cs:=Bx.cs) rfl (by omega)).ln;rw[Yh,Yg] at htb;refine sBi (fun c=>?_) (fun c=>?_)
 .obtain⟨q,gq⟩:=get_some (l:=B) (i:=i) (by omega);refine (hC.b.rw.ext hs.ext).nbI (by omega) (by omega) fun b o q' gq' t=>?_;rw[Ys] at gq';rw[gq] at gq';cases gq';refine⟨q.s,t.hd,tb,hs.rd 0 rfl (i:=1) rfl,?_⟩;refine (clone92 q.l q.s h18 ((hC.i q (Yb gq)).ext hs.ext)).mono ?_;rintro _ h25 ⟨u,rfl,hs2⟩;have hs:=hs.join hs2;refine⟨u,rfl,hs2.ext.sm,?_⟩;refine hs.set 1 (s:=tb) (cs:=Bx.cs) (x:=(i:Int)) rfl (by omega) (by omega) (by omega) (⟨u,q.l⟩:Bx) rfl rfl (fun b o h28 hs=>?_) rfl;refine⟨_,(show B.length-(i+1)<B.length-i by omega),i+1,T++[⟨u,q.l⟩],by rw[w64 (by omega) (by omega)];omega,rfl,by omega,?_,?_⟩
  .rw[take_snoc gq,Ym,Ym,hT];rfl
  .have e:=set_grow (k:=B.length-(i+1)) (z:=bx0) (x:=(⟨u,q.l⟩:Bx)) hTl;rw[show B.length-(i+1)+1=B.length-i by omega] at e;rw[Ys,e] at hs;rw[Ym (f:=Bx.it)];exact hs
 .have hil:i=B.length:=by omega
  rw[hil,Nat.sub_self,List.replicate_zero,Yw] at hs;rw[hil,Yj (Yyt _)] at hT;refine⟨ts,tb,hs.at 0 rfl (o:=0) (n:=2) rfl,?_⟩;refine hs.put 2 rfl (o:=0) (vs:=[.slice ts.a ts.n ts.c,.slice tb.a tb.n tb.c]) rfl (show 2<=2 by decide) fun h32 hs=>?_;refine⟨ts,tb,hs.at 2 rfl (o:=0) (n:=2) rfl,ts,tb,T,rfl,hT,?_⟩;refine (hs.sub (L':=.sl tb 25 1 (T.map Bx.cs) :: .sl ts 3 1 (S.map inC)::T.map Bx.it) ?_).perm (List.Perm.swap _ _ _);exact List.Sublist.cons _ (List.Sublist.cons_cons _ (List.Sublist.cons _ (List.Sublist.cons _ (List.Sublist.refl _))))
theorem boxes0 (n:Nat):madeL Pz 25 n=((List.replicate n bx0).map Bx.cs).flatten:=by rw[made42,List.map_replicate,List.map_replicate];rfl
theorem clone59 (ss sb:Sl) (S:List Int) (B:List Bx) (h:Heap) (hC:CfI h ss sb S B) :
  Fn Pz 109 #[.agg ⟨[.slice ss.a ss.n ss.c,.slice sb.a sb.n sb.c]⟩] h (CloV S B h):=by
 apply vc109 ss sb;unfold W109 V109b V109a;have hbn:=hC.b.ln;have hbs:=hC.b.sm;refine (St.refl h).newb fun h3 hs=>?_;refine hs.newb fun h4 hs=>?_;refine⟨ss,hs.rd 1 rfl (i:=0) rfl,sb,hs.rd 1 rfl (i:=1) rfl,?_⟩;rw[Ys];have hc:((0:Int)<=(sb.n:Int)/\((sb.n:Int):Int)<=(sb.n:Int)/\((24:Nat):Int)*(sb.n:Int)<=140737488355328):=⟨by omega,by omega,by omega⟩;have mk:∀ {hX:Heap} {b:Nat} {L:List It},St h hX (.blk b (madeL Pz 25 sb.n) 25::L)->St h hX (.sl ⟨some ⟨b,0,none⟩,sb.n,sb.n⟩ 25 1 ((List.replicate B.length bx0).map Bx.cs)::L):=fun hs=>
  hs.blkS sb.n 1 _ (by rw[hbn];exact boxes0 _) (bxrows _) (by rw[Yc,Yg,hbn]) (by simp only[maxLen];omega)
 refine And.intro ?_ (And.intro ?_ ?_)
 .refine (clone92 S ss h4 (hC.s.ext hs.ext)).mono ?_;rintro _ h9 ⟨ts,rfl,hs2⟩;have hs:=hs.join hs2;refine⟨ts,rfl,hs2.ext.sm,And.intro ?_ ?_⟩
  .refine⟨hc,hs.newbE fun h10 E10 hs=>⟨E10.sm,?_⟩⟩;have hs:=mk hs;refine hs.newbE fun h11 E11 hs=>⟨E11.sm,?_⟩;refine hs.put 0 rfl (o:=0) (vs:=[.slice ts.a ts.n ts.c,.slice (some ⟨h9.size,0,none⟩) sb.n sb.n]) rfl (show 2<=2 by decide) fun h12 hs=>?_;exact cloneB _ _ _ ss sb ts ⟨some ⟨h9.size,0,none⟩,sb.n,sb.n⟩ ⟨none,0,0⟩ ⟨none,0,0⟩ S B h h12 hC hs
  .refine hs.newbE fun h10 E10 hs=>⟨E10.sm,hc,?_⟩;refine hs.newbE fun h11 E11 hs=>⟨E11.sm,?_⟩;have hs:=mk hs;refine hs.put 1 rfl (o:=0) (vs:=[.slice ts.a ts.n ts.c,.slice (some ⟨h10.size,0,none⟩) sb.n sb.n]) rfl (show 2<=2 by decide) fun h12 hs=>?_;exact cloneB _ _ _ ss sb ts ⟨some ⟨h10.size,0,none⟩,sb.n,sb.n⟩ ⟨none,0,0⟩ ⟨none,0,0⟩ S B h h12 hC (hs.perm (List.Perm.swap _ _ _))
 .refine⟨hc,hs.newbE fun h10 E10 hs=>⟨E10.sm,?_⟩⟩;have hs:=mk hs;refine And.intro ?_ ?_;refine (clone92 S ss h10 (hC.s.ext hs.ext)).mono ?_;rintro _ h9 ⟨ts,rfl,hs2⟩;have hs:=hs.join hs2;refine⟨ts,rfl,hs2.ext.sm,?_⟩;refine hs.newbE fun h11 E11 hs=>⟨E11.sm,?_⟩;rotate_left;refine hs.newbE fun h11 E11 hs=>⟨E11.sm,?_⟩;refine (clone92 S ss h11 (hC.s.ext hs.ext)).mono ?_;rintro _ h9 ⟨ts,rfl,hs2⟩;have hs:=hs.join hs2;refine⟨ts,rfl,hs2.ext.sm,?_⟩;all_goals
   refine hs.put 0 rfl (o:=0) (vs:=[.slice ts.a ts.n ts.c,.slice (some ⟨h4.size,0,none⟩) sb.n sb.n]) rfl (show 2<=2 by decide) fun h12 hs=>?_;exact cloneB _ _ _ ss sb ts ⟨some ⟨h4.size,0,none⟩,sb.n,sb.n⟩ ⟨none,0,0⟩ ⟨none,0,0⟩ S B h h12 hC hs
 .refine hs.newbE fun h10 E10 hs=>⟨E10.sm,And.intro ?_ ?_⟩
  .refine (clone92 S ss h10 (hC.s.ext hs.ext)).mono ?_;rintro _ h9 ⟨ts,rfl,hs2⟩;have hs:=hs.join hs2;refine⟨ts,rfl,hs2.ext.sm,hc,?_⟩;refine hs.newbE fun h11 E11 hs=>⟨E11.sm,?_⟩;have hs:=mk hs;refine hs.put 1 rfl (o:=0) (vs:=[.slice ts.a ts.n ts.c,.slice (some ⟨h9.size,0,none⟩) sb.n sb.n]) rfl (show 2<=2 by decide) fun h12 hs=>?_;exact cloneB _ _ _ ss sb ts ⟨some ⟨h9.size,0,none⟩,sb.n,sb.n⟩ ⟨none,0,0⟩ ⟨none,0,0⟩ S B h h12 hC (hs.perm (List.Perm.swap _ _ _))
  .refine⟨hc,hs.newbE fun h11 E11 hs=>⟨E11.sm,?_⟩⟩;have hs:=mk hs;refine (clone92 S ss h11 (hC.s.ext hs.ext)).mono ?_;rintro _ h9 ⟨ts,rfl,hs2⟩;have hs:=hs.join hs2;refine⟨ts,rfl,hs2.ext.sm,?_⟩;refine hs.put 1 rfl (o:=0) (vs:=[.slice ts.a ts.n ts.c,.slice (some ⟨h10.size,0,none⟩) sb.n sb.n]) rfl (show 2<=2 by decide) fun h12 hs=>?_;exact cloneB _ _ _ ss sb ts ⟨some ⟨h10.size,0,none⟩,sb.n,sb.n⟩ ⟨none,0,0⟩ ⟨none,0,0⟩ S B h h12 hC (hs.perm (List.Perm.swap _ _ _))
def mvO (L:List Mch) (r i:Int):Option Mv:=if r<0\/(L.length:Int)<=r then none else match L[r.toNat]? with
 | none=>none
 | some m=>if i<0\/(m.mv.length:Int)<=i then none else m.mv[i.toNat]?
def mv00:Mv:=⟨0,false,0,0,0,false⟩
def MovV (o:Option Mv):Value:=match o with
 | none=>.tuple ⟨[.agg ⟨mv00.cs⟩,.bool false]⟩
 | some x=>.tuple ⟨[.agg ⟨x.cs⟩,.bool true]⟩
theorem move57 (L:List MR) (s:Sl) (r i:Int) (h:Heap) (hS:SyI h s L) :
  Fn Pz 107 #[.slice s.a s.n s.c,.agg ⟨[.int .i64 r,.int .i64 i]⟩] h fun v h'=>v=MovV (mvO (L.map MR.m) r i)/\Ext h h':=by
 apply vc107 s r i;unfold W107 V107a;have hn:=hS.r.ln;have hlm:(L.map MR.m).length=L.length:=Yc _;refine (St.refl h).newb fun h3 hs=>?_;refine hs.newb fun h4 hs=>?_;have no:∀ {h5:Heap},St h h5 [.blk h3.size mv00.cs 110,.blk h.size [.int .i64 r,.int .i64 i] 43]->mvO (L.map MR.m) r i=none->(okAt h5 ⟨h3.size,0,none⟩ 6/\∀h6:Heap,h6=hputs h5 ⟨h3.size,0,none⟩ 0 [.int .i64 0,.bool false,.int .i64 0,.int .i64 0,.int .i64 0,.bool false] -> 
   (∃x7:Int,∃x8:Bool,∃x9:Int,∃x10:Int,∃x11:Int,∃x12:Bool,atC h6 ⟨h3.size,0,none⟩ [.int .i64 x7,.bool x8,.int .i64 x9,.int .i64 x10,.int .i64 x11,.bool x12] /\ 
   (Value.tuple ⟨[.agg ⟨[.int .i64 x7,.bool x8,.int .i64 x9,.int .i64 x10,.int .i64 x11,.bool x12]⟩,.bool false]⟩=MovV (mvO (L.map MR.m) r i)/\Ext h h6))):=fun {h5} hs e=>by
  refine hs.put 0 rfl (o:=0) (vs:=mv00.cs) rfl (show 6<=6 by decide) fun h6 hs=>?_;exact⟨_,_,_,_,_,_,hs.at 0 rfl (o:=0) (n:=6) rfl,by rw[e];rfl,hs.ext⟩
 refine⟨_,hs.rd 1 rfl (i:=0) rfl,sBi (fun c=>no hs (by unfold mvO;rw[if_pos (.inl c)])) (fun c1=>?_)⟩;refine⟨_,hs.rd 1 rfl (i:=0) rfl,sBi (fun c=>no hs (by unfold mvO;rw[if_pos (.inr (by omega))])) (fun c2=>?_)⟩;obtain⟨p,rfl⟩:∃p:Nat,r=(p:Int):=⟨r.toNat,by omega⟩;have hp:p<L.length:=by omega
 obtain⟨y,gy⟩:=get_some (l:=L) (i:=p) hp;have gm:(L.map MR.m)[p]?=some y.m:=by rw[Yd,gy];rfl
 have hmv:mvO (L.map MR.m) (p:Int) i=if i<0\/(y.m.mv.length:Int)<=i then none else y.m.mv[i.toNat]?:=by
  unfold mvO;rw[if_neg (by omega),Ys,gm]
 have hyi:=hS.i y (Yb gy);have hgn:=hyi.pm.ln;refine⟨_,hs.rd 1 rfl (i:=1) rfl,sBi (fun c=>no hs (by rw[hmv,if_pos (.inl c)])) (fun c3=>?_)⟩;refine⟨_,hs.rd 1 rfl (i:=1) rfl,_,hs.rd 1 rfl (i:=0) rfl,?_⟩;have rdL:∀ {F:Nat->Nat->Prop} {h':Heap},Ext h h'->(∀b o,atC h' ⟨b,o+p*6,none⟩ y.cs->F b o)->NB s.a fun b o=>(0<=(p:Int)/\(p:Int)<(s.n:Nat))/\F b o:=fun {F h'} E hF=>(hS.r.rw.ext E).nbI (by omega) (by omega) fun b o y' gy' t=>by
  rw[Ys] at gy' t;replace gy':L[p]?=some y':=gy';rw[gy] at gy';cases gy';exact hF b o t
 refine rdL hs.ext fun b1 o1 t1=>?_;refine⟨y.g,t1.nth 4 rfl,sBi (fun c=>no hs (by rw[hmv,if_pos (.inr (by omega))])) (fun c4=>?_)⟩;obtain⟨j,rfl⟩:∃j:Nat,i=(j:Int):=⟨i.toNat,by omega⟩;obtain⟨x,gx⟩:=get_some (l:=y.m.mv) (i:=j) (by omega);refine⟨_,hs.rd 1 rfl (i:=0) rfl,rdL hs.ext fun b2 o2 t2=>?_⟩;refine⟨y.g,t2.nth 4 rfl,_,hs.rd 1 rfl (i:=1) rfl,?_⟩;refine (hyi.pm.rw.ext hs.ext).nbI (by omega) (by omega) fun b3 o3 x' gx' t3=>?_;rw[Ys] at gx';replace gx':y.m.mv[j]?=some x':=gx';rw[gx] at gx';cases gx';refine⟨_,_,_,_,_,_,t3,?_⟩;refine hs.put 0 rfl (o:=0) (vs:=x.cs) rfl (show 6<=6 by decide) fun h29 hs=>?_;refine⟨_,_,_,_,_,_,hs.at 0 rfl (o:=0) (n:=6) rfl,?_,hs.ext⟩;rw[hmv,if_neg (by omega),Ys,gx];rfl
end Go.VC
end

section
namespace Go.VC
open Go.Proofs Go.LexS
theorem St.smbO {h0 h h1 h':Heap} {L L':List It} (hs:St h0 h L) (hs':St h1 h' L') (k k' o:Nat) {b:Nat} {xs:List Value} {e:TypeId} (hk:L[k]?=some (.blk b xs e)) (hk':L'[k']?=some (.blk b xs e)):Sm [⟨b,o,none⟩] h h':=by
 intro a ha i v hv;rw[Ye.1 ha] at hv ⊢;have e1:h[b]?=some (.cells ⟨xs⟩ e):=hs.get hk;have e2:h'[b]?=some (.cells ⟨xs⟩ e):=hs'.get hk';have e3:h'[b]?=h[b]?:=by rw[e1,e2]
 rw[hc_of_block (h:=h) (h':=h') (a:=addk ⟨b,o,none⟩ i) (by rw[addk_block'];exact e3)];exact hv
def doB (n p:Nat) (x:Mv) (BL:List (List Int)):List (List Int):=BL.set (bxI n p x) (if x.send=true then BL.getD (bxI n p x) []++[x.label] else (BL.getD (bxI n p x) []).tail)
open Classical in
noncomputable def doS (L:List Mch) (k:Int) (S:List Int) (BL:List (List Int)) (r i:Int):Int × List Int × List (List Int):=
 if ProS L k S BL then match mvO L r i with
  | none=>(2,[],[])
  | some x=>if canS L.length k S BL r.toNat x=0 then (0,S.set r.toNat x.t,doB L.length r.toNat x BL) else (canS L.length k S BL r.toNat x,[],[])
 else (1,[],[])
def DoV (o:Int × List Int × List (List Int)) (h:Heap) (v:Value) (h':Heap):Prop:=∃(ts tb:Sl) (T:List Bx) (A:List It),v=.tuple ⟨[cfA ts tb,.int .i64 o.1]⟩/\T.map Bx.l=o.2.2/\St h h' A/\CfM A ts tb o.2.1 T
theorem DoV.none_ {o:Int × List Int × List (List Int)} {h h':Heap} {A:List It} {e:Int} (hs:St h h' A) (ho:o=(e,[],[])):DoV o h (.tuple ⟨[.agg ⟨[.slice none 0 0,.slice none 0 0]⟩,.int .i64 e]⟩) h':=by
 subst ho;exact⟨⟨none,0,0⟩,⟨none,0,0⟩,[],_,rfl,rfl,hs.nil2,CfM.none_.mono fun i hi=>List.mem_append_left _ hi⟩
theorem mvO_some {L:List Mch} {r i:Int} {x:Mv} (h:mvO L r i=some x):∃p:Nat,r=(p:Int)/\∃m,L[p]?=some m/\x∈m.mv:=by
 unfold mvO at h;split at h
 .cases h
 .rename_i c;refine⟨r.toNat,by omega,?_⟩;split at h
  .cases h
  .rename_i m gm;split at h
   .cases h
   .exact⟨m,gm,Yb h⟩
theorem getD_map {B:List Bx} {j:Nat} {q:Bx} (h:B[j]?=some q):(B.map Bx.l).getD j []=q.l:=by
 rw[Yo,Yd,h];rfl
theorem do27 (L:List MR) (s:Sl) (k:Int) (ss sb:Sl) (S:List Int) (B:List Bx) (r i:Int) (h:Heap) (hS:SyI h s L) (hC:CfI h ss sb S B) :
  Fn Pz 55 #[.slice s.a s.n s.c,.int .i64 k,.agg ⟨[.slice ss.a ss.n ss.c,.slice sb.a sb.n sb.c]⟩,.agg ⟨[.int .i64 r,.int .i64 i]⟩] h (DoV (doS (L.map MR.m) k S (B.map Bx.l) r i) h):=by
 apply vc55 s k ss sb r i;unfold W55 V55a;have hn:=hS.r.ln;have hlm:(L.map MR.m).length=s.n:=by rw[Yc,hn]
 have hbm:(B.map Bx.l).length=B.length:=Yc _;refine (St.refl h).newb fun h5 hs=>?_;refine hs.newb fun h6 hs=>?_;refine hs.newb fun h7 hs=>?_;refine⟨ss,sb,hs.at 2 rfl (o:=0) (n:=2) rfl,?_⟩;refine (proper24 L s k ss sb S B h7 (hS.ext hs.ext) (hC.ext hs.ext)).mono ?_;rintro _ h12 ⟨⟨b,rfl,hb⟩,E⟩;have hs:=hs.step E;refine⟨_,rfl,sB_intro (fun c=>?_) (fun c=>?_)⟩
 .have hnp:¬ProS (L.map MR.m) k S (B.map Bx.l):=fun hp=>by rw[hb.2 hp] at c;cases c
  refine hs.put 0 rfl (o:=0) (vs:=[.slice none 0 0,.slice none 0 0]) rfl (show 2<=2 by decide) fun h13 hs=>?_;exact⟨⟨none,0,0⟩,⟨none,0,0⟩,hs.at 0 rfl (o:=0) (n:=2) rfl,DoV.none_ hs (by unfold doS;rw[if_neg hnp])⟩
 have hP:=hb.1 (bT c);have hV6:=hP.v.n;have hSl:S.length=s.n:=by rw[hP.p.s,hlm]
 have hBl:B.length=s.n*s.n:=by rw[<-hbm,hP.p.b,hlm]
 rw[hlm] at hV6;have h36:=sq6 hV6.2;refine⟨r,i,hs.at 1 rfl (o:=0) (n:=2) rfl,?_⟩;refine (move57 L s r i h12 (hS.ext hs.ext)).mono ?_;rintro v h26 ⟨hv,E⟩;have hs:=hs.step E;cases hmo:mvO (L.map MR.m) r i with
 | none=>
  rw[hmo] at hv;subst hv;refine⟨_,_,_,_,_,_,false,rfl,?_⟩;refine hs.newput (vs:=mv00.cs) rfl rfl fun h28 hs=>sB_t rfl ?_;refine hs.put 1 rfl (o:=0) (vs:=[.slice none 0 0,.slice none 0 0]) rfl (show 2<=2 by decide) fun h29 hs=>?_;exact⟨⟨none,0,0⟩,⟨none,0,0⟩,hs.at 1 rfl (o:=0) (n:=2) rfl,DoV.none_ hs (by unfold doS;rw[if_pos hP,hmo])⟩
 | some x=>
  rw[hmo] at hv;subst hv;have hdo:doS (L.map MR.m) k S (B.map Bx.l) r i=if canS s.n k S (B.map Bx.l) r.toNat x=0 then (0,S.set r.toNat x.t,doB s.n r.toNat x (B.map Bx.l)) else (canS s.n k S (B.map Bx.l) r.toNat x,[],[]):=by
   unfold doS;rw[if_pos hP,hmo,<-hlm]
  obtain⟨p,rfl,m,gm,hxm⟩:=mvO_some hmo;rw[hdo];clear hdo hmo;rw[Ys];have hp:p<s.n:=by rw[<-hlm];exact (Ya.1 gm).1
  have hvm:=hP.v.m p m gm;have hx0:0<=x.peer:=(hvm.2.1.n.mv x hxm).2.2.2.2.1;have hx1:x.peer<(s.n:Int):=by have:=hvm.2.2 x hxm;rw[hlm] at this;exact this
  have hj:=bxI_lt (n:=s.n) (x:=x) hp hx0 hx1;refine⟨x.f,x.send,x.peer,x.label,x.t,x.ag,true,rfl,?_⟩;refine hs.newput (vs:=x.cs) rfl rfl fun h28 hs=>sB_f rfl ?_;refine⟨ss,sb,hs.at 3 rfl (o:=0) (n:=2) rfl,(p:Int),hs.rd 2 rfl (i:=0) rfl,x.f,x.send,x.peer,x.label,x.t,x.ag,hs.at 0 rfl (o:=0) (n:=6) rfl,?_⟩;refine (can58 s.n k ss sb S B p x h28 (hC.ext hs.ext) hV6.2 hSl hBl hp hx0 hx1).mono ?_;rintro _ h43 ⟨rfl,E⟩;have hs:=hs.step E;refine⟨_,rfl,sBn (fun c=>?_) (fun c=>?_)⟩
  .refine hs.put 1 rfl (o:=0) (vs:=[.slice none 0 0,.slice none 0 0]) rfl (show 2<=2 by decide) fun h29 hs=>?_;exact⟨⟨none,0,0⟩,⟨none,0,0⟩,hs.at 1 rfl (o:=0) (n:=2) rfl,DoV.none_ hs (by rw[if_neg c])⟩
  rw[if_pos c];refine⟨ss,sb,hs.at 3 rfl (o:=0) (n:=2) rfl,?_⟩;refine (clone59 ss sb S B h43 (hC.ext hs.ext)).mono ?_;rintro _ h52 ⟨ts,tb,T,rfl,hT,hs2⟩;have hs:=hs.join hs2;have hTl:T.length=B.length:=by rw[<-Yc (f:=Bx.l),hT,hbm]
  refine⟨ts,tb,rfl,?_⟩;refine hs.newput (vs:=[.slice ts.a ts.n ts.c,.slice tb.a tb.n tb.c]) rfl rfl fun h54 hs=>?_;have hts:=(hs.rows 5 (s:=ts) (cs:=inC) rfl (by omega)).ln;have htb:=(hs.rows 6 (s:=tb) (cs:=Bx.cs) rfl (by omega)).ln;refine⟨ts,hs.rd 0 rfl (i:=0) rfl,(p:Int),hs.rd 3 rfl (i:=0) rfl,x.t,hs.rd 1 rfl (i:=4) rfl,?_⟩;refine hs.set 5 (s:=ts) (cs:=inC) (x:=(p:Int)) rfl (by omega) (by omega) (by omega) x.t rfl rfl (fun b o h60 hs=>?_) rfl;refine⟨(p:Int),hs.rd 3 rfl (i:=0) rfl,x.f,x.send,x.peer,x.label,x.t,x.ag,hs.at 1 rfl (o:=0) (n:=6) rfl,?_⟩;refine (box60 s.n p x h60 hV6.2 hp hx0 hx1).mono ?_;rintro _ h70 ⟨rfl,E⟩;have hs:=hs.step E;rw[Ys] at hs;have hBd:=hP.p.bx;unfold doB;generalize hjj:bxI s.n p x=j at hj ⊢;obtain⟨q,gq⟩:=get_some (l:=T) (i:=j) (by omega);have hql:(B.map Bx.l).getD j []=q.l:=by rw[<-hT];exact getD_map gq
  have hqb:(B.map Bx.l)[j]?=some q.l:=by rw[<-hT,Yd,gq];rfl
  have hqk:=(hBd j q.l hqb).1;have hk4:=hP.c.2;have hall:∀z∈T,z.l.length<=4:=fun z hz=>by
   obtain⟨j',gj⟩:=Yf.1 hz;have:=(hBd j' z.l (by rw[<-hT,Yd,gj];rfl)).1;omega
  have hsl:(S.set p x.t).length<=1048576:=by rw[Yyh];omega
  have rdB:∀ {h':Heap} {L':List It} {F:Nat->Nat->Prop} (kk:Nat),St h h' L'->L'[kk]?=some (.sl tb 25 1 (T.map Bx.cs))->(∀b o,hc h' ⟨b,o+Int.toNat (j:Int)*1,none⟩=some (.slice q.s.a q.s.n q.s.c)->F b o)->NB tb.a fun b o=>(0<=(j:Int)/\(j:Int)<(tb.n:Nat))/\F b o:=fun kk hs hk hF=>
   (hs.rows kk (s:=tb) (cs:=Bx.cs) hk (by omega)).nbI (by omega) (by omega) fun b o q' gq' t=>by
    rw[Ys,gq] at gq';cases gq';exact hF b o t.hd
  refine⟨(j:Int),rfl,x.send,hs.rd 1 rfl (i:=1) rfl,sB_intro (fun d=>?_) (fun d=>?_)⟩
  .rw[if_pos d];refine⟨tb,hs.rd 0 rfl (i:=1) rfl,tb,hs.rd 0 rfl (i:=1) rfl,rdB 6 hs rfl fun b o t=>?_⟩;refine⟨q.s,t,x.label,hs.rd 1 rfl (i:=3) rfl,?_⟩;refine hs.newbE fun h78 E78 hs=>⟨E78.sm,?_⟩;have hs78:=hs;have hqi:(T.map Bx.it)[j]?=some q.it:=by rw[Yd,gq];rfl
   have hqn:=(hs.len (j+8) (s:=q.s) (e:=3) (n:=1) (rows:=q.l.map inC) hqi (by omega)).1;rw[Yc] at hqn;have hq4:=hall q (Yb gq);refine hs.appended (j+8) (s:=q.s) (n:=1) (rows:=q.l.map inC) hqi app42 (m:=1) (news:=[inC x.label]) (hs.at 0 rfl (n:=1) rfl) rfl (by simp[inC]) rfl (by omega) (by simp only[maxLen];omega) fun u h80 nr hs=>?_;refine⟨hs78.smbO hs 1 1 1 rfl rfl,?_⟩;refine hs.set 7 (s:=tb) (cs:=Bx.cs) (x:=(j:Int)) rfl (by omega) (by omega) (by omega) (⟨u,q.l++[x.label]⟩:Bx) rfl rfl (fun b o h83 hs=>?_) rfl;refine⟨ts,tb,hs.at 1 rfl (o:=0) (n:=2) rfl,?_⟩;refine hs.put 3 rfl (o:=0) (vs:=[.slice ts.a ts.n ts.c,.slice tb.a tb.n tb.c]) rfl (show 2<=2 by decide) fun h86 hs=>?_;rw[Ys] at hs;refine⟨ts,tb,hs.at 3 rfl (o:=0) (n:=2) rfl,ts,tb,T.set j ⟨u,q.l++[x.label]⟩,_,rfl,?_,hs,?_⟩
   .rw[List.map_set,hT,hql]
   .refine⟨Yb (i:=6) rfl,Yb (i:=7) rfl,fun z hz=>.inr (.inl ?_),hsl,by rw[Yyh];omega,fun z hz=>?_⟩
    .obtain⟨j',gj⟩:=Yf.1 hz;refine Yb (i:=j'+8) ?_;show ((T.map Bx.it).set j (.sl u 3 1 (q.l.map inC++[inC x.label])))[j']?=_;have e1:It.sl u 3 1 (q.l.map inC++[inC x.label])=Bx.it ⟨u,q.l++[x.label]⟩:=by unfold Bx.it;rw[Ym];rfl
     rw[e1,<-List.map_set,Yd,gj];rfl
    .rcases List.mem_or_eq_of_mem_set hz with hz | rfl
     .have:=hall z hz;omega
     .show (q.l++[x.label]).length<=_;rw[Yh,Yv];omega
  .rw[if_neg (by rw[d];decide)];have hqm:=Yb gq;have hqi:(T.map Bx.it)[j]?=some q.it:=by rw[Yd,gq];rfl
   have hql2:=hs.len (j+7) (s:=q.s) (e:=3) (n:=1) (rows:=q.l.map inC) hqi (by omega);have hqn:=hql2.1;rw[Yc] at hqn;obtain⟨tl,hqe⟩:∃tl,q.l=x.label::tl:=by
    unfold canS at c;rw[hjj,hql] at c;split at c
    .exact absurd c (by decide)
    .rw[if_neg (by rw[d];decide)] at c;cases hq:q.l with
     | nil=>rw[hq] at c;exact absurd c (show ¬((23:Int)=0) by decide)
     | cons l tl=>
      rw[hq] at c;dsimp only at c;split at c
      .exact absurd c (by decide)
      .rename_i e;exact⟨tl,by rw[Classical.not_not.1 e]⟩
   have hqn1:q.s.n=tl.length+1:=by rw[hqn,hqe,Yyj]
   refine⟨tb,hs.rd 0 rfl (i:=1) rfl,tb,hs.rd 0 rfl (i:=1) rfl,rdB 6 hs rfl fun b o t=>?_⟩;refine⟨q.s,t,⟨by omega,by omega,by have:=hql2.2.1;omega⟩,?_⟩;refine hs.set 6 (s:=tb) (cs:=Bx.cs) (x:=(j:Int)) rfl (by omega) (by omega) (by omega) (⟨⟨subA q.s.a (Int.toNat 1) q.s.c 1,Int.toNat (q.s.n:Nat)-Int.toNat 1,q.s.c-Int.toNat 1⟩,tl⟩:Bx) rfl rfl (fun b o h83 hs=>?_) rfl;refine⟨ts,tb,hs.at 0 rfl (o:=0) (n:=2) rfl,?_⟩;refine hs.put 2 rfl (o:=0) (vs:=[.slice ts.a ts.n ts.c,.slice tb.a tb.n tb.c]) rfl (show 2<=2 by decide) fun h86 hs=>?_;rw[Ys] at hs;refine⟨ts,tb,hs.at 2 rfl (o:=0) (n:=2) rfl,?_⟩;generalize hnw:(⟨⟨subA q.s.a (Int.toNat 1) q.s.c 1,Int.toNat (q.s.n:Nat)-Int.toNat 1,q.s.c-Int.toNat 1⟩,tl⟩:Bx)=nw at hs;have hs:=hs.sub (L':=.sl ts 3 1 ((S.set p x.t).map inC) :: .sl tb 25 1 ((T.set j nw).map Bx.cs)::T.map Bx.it) (.cons _ (.cons _ (.cons _ (.cons _ (.cons _ (.refl _))))));have hjt:j<T.length:=(Ya.1 gq).1;have hgj:T[j]=q:=(Ya.1 gq).2;have hp0:(T.map Bx.it).Perm (.sl q.s 3 1 (inC x.label::tl.map inC)::(T.eraseIdx j).map Bx.it):=by
    have h1:(T.map Bx.it).Perm ((T[j]::T.eraseIdx j).map Bx.it):=by
     rw[List.eraseIdx_eq_take_drop_succ];have e2:T=T.take j++T[j]::T.drop (j+1):=by rw[List.getElem_cons_drop,List.take_append_drop]
     have h2:T.Perm (T[j]::(T.take j++T.drop (j+1))):=by
      conv=>lhs;rw[e2]
      exact List.perm_middle
     exact h2.map _
    rw[Yyl,hgj] at h1;have e1:q.it=.sl q.s 3 1 (inC x.label::tl.map inC):=by unfold Bx.it;rw[hqe];rfl
    rw[e1] at h1;exact h1
   have hs:=hs.perm (((hp0.cons _).cons _).trans (List.perm_middle (l₁:=[_,_])));have hs:=(hs.toQ (by omega)).qtail;refine⟨ts,tb,T.set j nw,_,rfl,?_,hs,?_⟩
   .rw[List.map_set,hT,hql,hqe,<-hnw];rfl
   .refine⟨Yn _ Yx,Yn _ (Yn _ Yx),fun z hz=>.inr ?_,hsl,by rw[Yyh];omega,fun z hz=>?_⟩
    .obtain⟨j',gj⟩:=Yf.1 hz;by_cases e:j'=j
     .subst e;rw[Yq hjt] at gj;cases gj;refine .inr ?_;rw[<-hnw];exact Yx
     .rw[Yy (Ne.symm e)] at gj;exact .inl (Yn _ (Yn _ (Yn _ (List.mem_map_of_mem (List.mem_eraseIdx_iff_getElem?.2 ⟨j',e,gj⟩)))))
    .rcases List.mem_or_eq_of_mem_set hz with hz | rfl
     .have:=hall z hz;omega
     .rw[<-hnw];have:=hall q hqm;rw[hqe,Yyj] at this;show tl.length<=_;omega
end Go.VC
end

section
namespace Go.VC
open Go.Proofs Go.LexS
def xm0:Mch:=⟨0,2,0,[false,true],[⟨0,true,1,0,1,false⟩,⟨0,true,1,1,1,false⟩],[]⟩
theorem xm0_get (i:Nat) (x:Mv) (h:xm0.mv[i]?=some x):(i=0/\x=⟨0,true,1,0,1,false⟩)\/(i=1/\x=⟨0,true,1,1,1,false⟩):=by
 match i,h with
 | 0,h=>exact .inl ⟨rfl,(Yyp h).symm⟩
 | 1,h=>exact .inr ⟨rfl,(Yyp h).symm⟩
 | n+2,h=>exact absurd h (by simp[xm0])
theorem xm0_mem (x:Mv) (h:x∈xm0.mv):x=⟨0,true,1,0,1,false⟩\/x=⟨0,true,1,1,1,false⟩:=by
 obtain⟨i,hi⟩:=Yf.1 h;rcases xm0_get i x hi with ⟨_,e⟩ | ⟨_,e⟩
 .exact .inl e
 .exact .inr e
theorem xm0_ag (x:Mv) (h:x∈xm0.mv):x.ag=false:=by
 rcases xm0_mem x h with rfl | rfl<;>rfl
theorem xm0_vm:VM xm0:=by
 refine⟨⟨⟨by decide,by decide⟩,⟨by decide,by decide⟩,⟨by decide,by decide⟩,rfl,by decide,fun x hx=>?_⟩,fun i k x y hx hy hne hf=>?_,fun v h0 h1=>?_,⟨fun x hx ha=>?_,fun x hx ha=>?_,fun x hx ha=>?_,fun x hx ha=>?_,fun x hx ha=>?_⟩,fun i t h=>?_⟩
 .rcases xm0_mem x hx with rfl | rfl<;>decide
 .rcases xm0_get i x hx with ⟨rfl,rfl⟩ | ⟨rfl,rfl⟩<;>rcases xm0_get k y hy with ⟨rfl,rfl⟩ | ⟨rfl,rfl⟩<;>first
   | exact absurd rfl hne
   | exact absurd hf (by decide)
   | exact⟨fun e=>absurd (congrArg Ev.label e) (by decide),rfl⟩
 .have q0:Qr (meds xm0) (-1) [xm0.s] 0:=.base (Ye.2 rfl);have q1:Qr (meds xm0) (-1) [xm0.s] 1:=.step q0 ⟨⟨0,0,0,0,1,false⟩,Yp.2 ⟨⟨0,true,1,0,1,false⟩,by simp[xm0],rfl⟩,rfl,rfl,rfl⟩;have h1:v<2:=h1;have:v=0\/v=1:=by omega
  rcases this with rfl | rfl
  .exact q0
  .exact q1
 .rw[xm0_ag x hx] at ha;cases ha
 .rw[xm0_ag x hx] at ha;cases ha
 .rw[xm0_ag x hx] at ha;cases ha
 .rw[xm0_ag x hx] at ha;cases ha
 .rw[xm0_ag x hx] at ha;cases ha
 .simp[xm0] at h
def xm1:Mch:=⟨1,6,0,[false,false,false,false,false,true],[⟨0,false,0,0,1,false⟩,⟨0,false,0,1,2,false⟩,⟨1,true,2,0,3,false⟩,⟨2,true,2,1,4,false⟩,⟨3,false,2,2,5,false⟩,⟨4,false,2,3,5,false⟩],[]⟩
theorem xm1_get (i:Nat) (x:Mv) (h:xm1.mv[i]?=some x):(i=0/\x=⟨0,false,0,0,1,false⟩)\/(i=1/\x=⟨0,false,0,1,2,false⟩)\/(i=2/\x=⟨1,true,2,0,3,false⟩)\/(i=3/\x=⟨2,true,2,1,4,false⟩)\/(i=4/\x=⟨3,false,2,2,5,false⟩)\/(i=5/\x=⟨4,false,2,3,5,false⟩):=by
 match i,h with
 | 0,h=>exact .inl ⟨rfl,(Yyp h).symm⟩
 | 1,h=>exact .inr (.inl ⟨rfl,(Yyp h).symm⟩)
 | 2,h=>exact .inr (.inr (.inl ⟨rfl,(Yyp h).symm⟩))
 | 3,h=>exact .inr (.inr (.inr (.inl ⟨rfl,(Yyp h).symm⟩)))
 | 4,h=>exact .inr (.inr (.inr (.inr (.inl ⟨rfl,(Yyp h).symm⟩))))
 | 5,h=>exact .inr (.inr (.inr (.inr (.inr ⟨rfl,(Yyp h).symm⟩))))
 | n+6,h=>exact absurd h (by simp[xm1])
theorem xm1_mem (x:Mv) (h:x∈xm1.mv):x=⟨0,false,0,0,1,false⟩\/x=⟨0,false,0,1,2,false⟩\/x=⟨1,true,2,0,3,false⟩\/x=⟨2,true,2,1,4,false⟩\/x=⟨3,false,2,2,5,false⟩\/x=⟨4,false,2,3,5,false⟩:=by
 obtain⟨i,hi⟩:=Yf.1 h;rcases xm1_get i x hi with ⟨_,e⟩ | ⟨_,e⟩ | ⟨_,e⟩ | ⟨_,e⟩ | ⟨_,e⟩ | ⟨_,e⟩
 .exact .inl e
 .exact .inr (.inl e)
 .exact .inr (.inr (.inl e))
 .exact .inr (.inr (.inr (.inl e)))
 .exact .inr (.inr (.inr (.inr (.inl e))))
 .exact .inr (.inr (.inr (.inr (.inr e))))
theorem xm1_ag (x:Mv) (h:x∈xm1.mv):x.ag=false:=by
 rcases xm1_mem x h with rfl | rfl | rfl | rfl | rfl | rfl<;>rfl
theorem xm1_vm:VM xm1:=by
 refine⟨⟨⟨by decide,by decide⟩,⟨by decide,by decide⟩,⟨by decide,by decide⟩,rfl,by decide,fun x hx=>?_⟩,fun i k x y hx hy hne hf=>?_,fun v h0 h1=>?_,⟨fun x hx ha=>?_,fun x hx ha=>?_,fun x hx ha=>?_,fun x hx ha=>?_,fun x hx ha=>?_⟩,fun i t h=>?_⟩
 .rcases xm1_mem x hx with rfl | rfl | rfl | rfl | rfl | rfl<;>decide
 .rcases xm1_get i x hx with ⟨rfl,rfl⟩ | ⟨rfl,rfl⟩ | ⟨rfl,rfl⟩ | ⟨rfl,rfl⟩ | ⟨rfl,rfl⟩ | ⟨rfl,rfl⟩<;>rcases xm1_get k y hy with ⟨rfl,rfl⟩ | ⟨rfl,rfl⟩ | ⟨rfl,rfl⟩ | ⟨rfl,rfl⟩ | ⟨rfl,rfl⟩ | ⟨rfl,rfl⟩<;>first
   | exact absurd rfl hne
   | exact absurd hf (by decide)
   | exact⟨fun e=>absurd (congrArg Ev.label e) (by decide),rfl⟩
 .have q0:Qr (meds xm1) (-1) [xm1.s] 0:=.base (Ye.2 rfl);have q1:Qr (meds xm1) (-1) [xm1.s] 1:=.step q0 ⟨⟨0,0,0,0,1,false⟩,Yp.2 ⟨⟨0,false,0,0,1,false⟩,by simp[xm1],rfl⟩,rfl,rfl,rfl⟩;have q2:Qr (meds xm1) (-1) [xm1.s] 2:=.step q0 ⟨⟨0,0,0,0,2,false⟩,Yp.2 ⟨⟨0,false,0,1,2,false⟩,by simp[xm1],rfl⟩,rfl,rfl,rfl⟩;have q3:Qr (meds xm1) (-1) [xm1.s] 3:=.step q1 ⟨⟨1,0,0,0,3,false⟩,Yp.2 ⟨⟨1,true,2,0,3,false⟩,by simp[xm1],rfl⟩,rfl,rfl,rfl⟩;have q4:Qr (meds xm1) (-1) [xm1.s] 4:=.step q2 ⟨⟨2,0,0,0,4,false⟩,Yp.2 ⟨⟨2,true,2,1,4,false⟩,by simp[xm1],rfl⟩,rfl,rfl,rfl⟩;have q5:Qr (meds xm1) (-1) [xm1.s] 5:=.step q3 ⟨⟨3,0,0,0,5,false⟩,Yp.2 ⟨⟨3,false,2,2,5,false⟩,by simp[xm1],rfl⟩,rfl,rfl,rfl⟩;have h1:v<6:=h1;have:v=0\/v=1\/v=2\/v=3\/v=4\/v=5:=by omega
  rcases this with rfl | rfl | rfl | rfl | rfl | rfl
  .exact q0
  .exact q1
  .exact q2
  .exact q3
  .exact q4
  .exact q5
 .rw[xm1_ag x hx] at ha;cases ha
 .rw[xm1_ag x hx] at ha;cases ha
 .rw[xm1_ag x hx] at ha;cases ha
 .rw[xm1_ag x hx] at ha;cases ha
 .rw[xm1_ag x hx] at ha;cases ha
 .simp[xm1] at h
def xm2:Mch:=⟨2,4,0,[false,false,false,true],[⟨0,false,1,0,1,false⟩,⟨0,false,1,1,2,false⟩,⟨1,true,1,2,3,false⟩,⟨2,true,1,3,3,false⟩],[]⟩
theorem xm2_get (i:Nat) (x:Mv) (h:xm2.mv[i]?=some x):(i=0/\x=⟨0,false,1,0,1,false⟩)\/(i=1/\x=⟨0,false,1,1,2,false⟩)\/(i=2/\x=⟨1,true,1,2,3,false⟩)\/(i=3/\x=⟨2,true,1,3,3,false⟩):=by
 match i,h with
 | 0,h=>exact .inl ⟨rfl,(Yyp h).symm⟩
 | 1,h=>exact .inr (.inl ⟨rfl,(Yyp h).symm⟩)
 | 2,h=>exact .inr (.inr (.inl ⟨rfl,(Yyp h).symm⟩))
 | 3,h=>exact .inr (.inr (.inr ⟨rfl,(Yyp h).symm⟩))
 | n+4,h=>exact absurd h (by simp[xm2])
theorem xm2_mem (x:Mv) (h:x∈xm2.mv):x=⟨0,false,1,0,1,false⟩\/x=⟨0,false,1,1,2,false⟩\/x=⟨1,true,1,2,3,false⟩\/x=⟨2,true,1,3,3,false⟩:=by
 obtain⟨i,hi⟩:=Yf.1 h;rcases xm2_get i x hi with ⟨_,e⟩ | ⟨_,e⟩ | ⟨_,e⟩ | ⟨_,e⟩
 .exact .inl e
 .exact .inr (.inl e)
 .exact .inr (.inr (.inl e))
 .exact .inr (.inr (.inr e))
theorem xm2_ag (x:Mv) (h:x∈xm2.mv):x.ag=false:=by
 rcases xm2_mem x h with rfl | rfl | rfl | rfl<;>rfl
theorem xm2_vm:VM xm2:=by
 refine⟨⟨⟨by decide,by decide⟩,⟨by decide,by decide⟩,⟨by decide,by decide⟩,rfl,by decide,fun x hx=>?_⟩,fun i k x y hx hy hne hf=>?_,fun v h0 h1=>?_,⟨fun x hx ha=>?_,fun x hx ha=>?_,fun x hx ha=>?_,fun x hx ha=>?_,fun x hx ha=>?_⟩,fun i t h=>?_⟩
 .rcases xm2_mem x hx with rfl | rfl | rfl | rfl<;>decide
 .rcases xm2_get i x hx with ⟨rfl,rfl⟩ | ⟨rfl,rfl⟩ | ⟨rfl,rfl⟩ | ⟨rfl,rfl⟩<;>rcases xm2_get k y hy with ⟨rfl,rfl⟩ | ⟨rfl,rfl⟩ | ⟨rfl,rfl⟩ | ⟨rfl,rfl⟩<;>first
   | exact absurd rfl hne
   | exact absurd hf (by decide)
   | exact⟨fun e=>absurd (congrArg Ev.label e) (by decide),rfl⟩
 .have q0:Qr (meds xm2) (-1) [xm2.s] 0:=.base (Ye.2 rfl);have q1:Qr (meds xm2) (-1) [xm2.s] 1:=.step q0 ⟨⟨0,0,0,0,1,false⟩,Yp.2 ⟨⟨0,false,1,0,1,false⟩,by simp[xm2],rfl⟩,rfl,rfl,rfl⟩;have q2:Qr (meds xm2) (-1) [xm2.s] 2:=.step q0 ⟨⟨0,0,0,0,2,false⟩,Yp.2 ⟨⟨0,false,1,1,2,false⟩,by simp[xm2],rfl⟩,rfl,rfl,rfl⟩;have q3:Qr (meds xm2) (-1) [xm2.s] 3:=.step q1 ⟨⟨1,0,0,0,3,false⟩,Yp.2 ⟨⟨1,true,1,2,3,false⟩,by simp[xm2],rfl⟩,rfl,rfl,rfl⟩;have h1:v<4:=h1;have:v=0\/v=1\/v=2\/v=3:=by omega
  rcases this with rfl | rfl | rfl | rfl
  .exact q0
  .exact q1
  .exact q2
  .exact q3
 .rw[xm2_ag x hx] at ha;cases ha
 .rw[xm2_ag x hx] at ha;cases ha
 .rw[xm2_ag x hx] at ha;cases ha
 .rw[xm2_ag x hx] at ha;cases ha
 .rw[xm2_ag x hx] at ha;cases ha
 .simp[xm2] at h
def xr0:Mch:=⟨0,3,0,[false,true,true],[⟨0,true,1,0,1,false⟩,⟨0,true,1,1,2,false⟩],[]⟩
theorem xr0_raw (hr hd he ht:Sl):rawC (exGl true hr hd he ht) 0=some (some xr0,0):=by kernel_rfl
theorem xm1_raw (hr hd he ht:Sl):rawC (exGl true hr hd he ht) 1=some (some xm1,0):=by kernel_rfl
theorem xm2_raw (hr hd he ht:Sl):rawC (exGl true hr hd he ht) 2=some (some xm2,0):=by kernel_rfl
theorem xm0_min:minF xr0=xm0:=by kernel_rfl
theorem xm1_min:minF xm1=xm1:=by kernel_rfl
theorem xm2_min:minF xm2=xm2:=by kernel_rfl
theorem xproj (hr hd he ht:Sl) (i:Int) (w m:Mch) (h0:0<=i) (h3:i<((3:Nat):Int)) (hw:rawC (exGl true hr hd he ht) i=some (some w,0)) (hm:minF w=m):proj (exGl true hr hd he ht) i=(some m,0):=by
 have:=rawC_ok (ex_valid true hr hd he ht) h0 h3 hw;unfold proj;rw[this];show (some (minF w),0)=_;rw[hm]
def xL:List Mch:=[xm0,xm1,xm2]
theorem xsys:SysV xL:=by
 refine⟨⟨by decide,by decide⟩,fun p m h=>?_⟩
 match p,h with
 | 0,h=>cases h;exact⟨rfl,xm0_vm,fun x hx=>by rcases xm0_mem x hx with rfl | rfl<;>decide⟩
 | 1,h=>cases h;exact⟨rfl,xm1_vm,fun x hx=>by rcases xm1_mem x hx with rfl | rfl | rfl | rfl | rfl | rfl<;>decide⟩
 | 2,h=>cases h;exact⟨rfl,xm2_vm,fun x hx=>by rcases xm2_mem x hx with rfl | rfl | rfl | rfl<;>decide⟩
 | n+3,h=>exact absurd h (by simp[xL])
theorem stepsP_of {n:Nat} {k:Int} {S:List Int} {BL:List (List Int)} {p:Nat} {m:Mch} (hD:DetM m) {O:List Nat} (h1:(List.range m.mv.length).filter (posB n k S BL p m)=O) (h2:O.Pairwise fun a b=>¬evLt (evI m b) (evI m a)):stepsP n k S BL p m=O:=(steps_uniq hD (by rw[h1]) h2).symm

structure FinS (L:List Mch) (S:List Int) (BL:List (List Int)):Prop where
 s:∀(p:Nat) s m,S[p]?=some s->L[p]?=some m->m.fin[s.toNat]?=some true
 b:∀b∈BL,b=[]
theorem cal94:callable Pz 114=true:=by kernel_rfl
theorem index131 (B:List Bx) (s:Sl) (h:Heap) (hr:RL h 1 s Bx.cs B) (hi:∀q∈B,RL h 1 q.s inC q.l) :
  Fn Pz 158 #[.slice s.a s.n s.c,.func (.func 114) #[] #[]] h fun v h'=>(∃k:Int,v=.int .i64 k/\(0<=k ↔ ¬∀b∈B.map Bx.l,b=[]))/\Ext h h':=by
 apply vc158 s 114;unfold W158;have hn:=hr.ln;have hl:=hr.sm;refine up_loop (n:=s.n) (fun i h'=>Ext h h'/\∀(j:Nat) (x:Bx),j<i->B[j]?=some x->x.l=[]) ⟨.rfl',fun j x hj=>by omega⟩ ?_;rintro-i h5 hi' ⟨E,hq⟩;refine sB_intro (fun c=>?_) (fun c=>?_)
 .replace c:=lt_t c;refine (hr.rw.ext E).nbI (by omega) (by omega) fun b6 o7 x gx t14=>?_;replace gx:B[i]?=some x:=gx;have hm:=Yb gx;have hxn:=(hi x hm).ln;refine⟨x.s,t14.hd,?_⟩;rw[cal94,cond_true];apply vc114 x.s;unfold W114;refine⟨_,rfl,sBi (fun c2=>?_) (fun c2=>?_)⟩
  .refine⟨⟨_,rfl,iff_of_true (by omega) fun hall=>?_⟩,E⟩;have:=hall x.l (List.mem_map_of_mem hm);rw[this] at hxn;simp at hxn;omega
  .refine Up.next (by omega) (by omega) ⟨E,fun j y hj hy=>?_⟩;by_cases e:j=i
   .subst e;rw[gx] at hy;cases hy;exact List.eq_nil_of_length_eq_zero (by omega)
   .exact hq j y (by omega) hy
 .replace c:=lt_f c;refine⟨⟨_,rfl,iff_of_false (by omega) fun hall=>hall fun b hb=>?_⟩,E⟩;obtain⟨x,hx,rfl⟩:=Yp.1 hb;obtain⟨j,hj⟩:=Yf.1 hx;exact hq j x (by have:=(Ya.1 hj).1;omega) hj
theorem any93 (B:List Bx) (s:Sl) (h:Heap) (hr:RL h 1 s Bx.cs B) (hi:∀q∈B,RL h 1 q.s inC q.l) :
  Fn Pz 113 #[.slice s.a s.n s.c,.func (.func 114) #[] #[]] h (RP (¬∀b∈B.map Bx.l,b=[]) h):=by
 apply vc113 s 114;unfold W113;refine (index131 B s h hr hi).mono ?_;rintro _ h3 ⟨⟨k,rfl,hk⟩,E⟩;exact⟨_,rfl,RP.e (by rw[decide_eq_true_eq];exact hk) E⟩
theorem final67 (L:List MR) (s:Sl) (k:Int) (ss sb:Sl) (S:List Int) (B:List Bx) (h:Heap) (hS:SyI h s L) (hC:CfI h ss sb S B) (hP:ProS (L.map MR.m) k S (B.map Bx.l)) :
  Fn Pz 58 #[.slice s.a s.n s.c,.agg ⟨[.slice ss.a ss.n ss.c,.slice sb.a sb.n sb.c]⟩] h (RP (FinS (L.map MR.m) S (B.map Bx.l)) h):=by
 apply vc58 s ss sb;unfold W58;have hn:=hS.r.ln;have hsn:=hC.s.ln;have hsm:=hC.s.sm;have hlm:(L.map MR.m).length=L.length:=Yc _;have hSl:=hP.p.s;rw[hlm] at hSl;refine (St.refl h).newb fun h3 hs=>?_;refine⟨ss,hs.rd 0 rfl (i:=0) rfl,?_⟩;refine up_loopS (n:=ss.n) hs (fun i=>∀(p:Nat) z m,p<i->S[p]?=some z->(L.map MR.m)[p]?=some m->m.fin[z.toNat]?=some true) (fun p z m hj=>by omega) ?_;rintro-i h9 hi ⟨hs,hq⟩;refine sB_intro (fun c=>?_) (fun c=>?_)
 .replace c:=lt_t c;refine (hC.s.rw.ext hs.ext).nbI (by omega) (by omega) fun b10 o11 z gz t=>?_;replace gz:S[i]?=some z:=gz;refine⟨z,t.hd,?_⟩;refine (hS.r.rw.ext hs.ext).nbI (by omega) (by omega) fun b o y gy t2=>?_;replace gy:L[i]?=some y:=gy;have gm:(L.map MR.m)[i]?=some y.m:=by rw[Yd,gy];rfl
  have hyi:=hS.i y (Yb gy);have hfl:=(hP.v.m i y.m gm).2.1.n.fl;have hz:=hP.p.st i z y.m gz gm;have hfn:=hyi.pf.ln;refine⟨y.f,t2.nth 3 rfl,?_⟩;refine (hyi.pf.rw.ext hs.ext).nbI hz.1 (by omega) fun b o f gf t3=>?_;refine⟨f,t3.hd,sB_intro (fun d=>?_) (fun d=>?_)⟩
  .refine RP.f (fun hF=>?_) hs.ext;have:=hF.s i z y.m gz gm;rw[gf] at this;cases this;cases d
  .refine Up.next (by omega) (by omega) ⟨hs,fun p z' m' hj h1 h2=>?_⟩;by_cases e:p=i
   .subst e;rw[gz] at h1;rw[gm] at h2;cases h1;cases h2;rw[gf];cases f
    .cases d
    .rfl
   .exact hq p z' m' (by omega) h1 h2
 .replace c:=lt_f c;refine⟨sb,hs.rd 0 rfl (i:=1) rfl,?_⟩;refine (any93 B sb h9 (hC.b.ext hs.ext) fun q hq=>(hC.i q hq).ext hs.ext).mono ?_;rintro _ h23 ⟨⟨b,rfl,hb⟩,E⟩;refine⟨b,rfl,RP.e ?_ (hs.ext.trans E)⟩;have hall:∀(p:Nat) z m,S[p]?=some z->(L.map MR.m)[p]?=some m->m.fin[z.toNat]?=some true:=fun p z m h1 h2=>hq p z m (by have:=(Ya.1 h1).1;omega) h1 h2;cases b with
  | true=>exact iff_of_false (by decide) fun hF=>hb.1 rfl hF.b
  | false=>exact iff_of_true rfl ⟨hall,Classical.not_not.1 fun hn=>by have:=hb.2 hn;cases this⟩

def tailN (p0:Sl) (ob b0 b5 b6 b7:Nat) (h0:Heap) (R:Value->Heap->Prop):Prop:=
 (∃x33,rS h0 ⟨ob,0,none⟩ x33 /\ 
 (∃x34,rI h0 ⟨b5,0,none⟩ x34 /\ 
 (∃x35,rI h0 ⟨b7,4,none⟩ x35 /\ 
 (NB x33.a fun b36 o37=>(Ib x34 x33.n /\ 
 (Wp h0 ⟨b36,o37+Int.toNat x34*1,none⟩ 1 [vI x35] fun h38=>
 (∃x39,rB h38 ⟨b7,1,none⟩ x39 /\ 
 (sB x39 
 ((∃x40,rI h38 ⟨b5,0,none⟩ x40 /\ 
 (∃x41,rI h38 ⟨b7,2,none⟩ x41 /\ 
 (∃x42,rS h38 ⟨ob,1,none⟩ x42 /\ 
 (∃x43,rS h38 ⟨b0,1,none⟩ x43 /\ 
 (NB x43.a fun b44 o45=>((0<=((IntKind.wrap .i64 ((IntKind.wrap .i64 ((p0.n:Int)*x40))+x41)):Int)/\((IntKind.wrap .i64 ((IntKind.wrap .i64 ((p0.n:Int)*x40))+x41)):Int)<(x43.n:Nat)) /\ 
 (∃x46,rS h38 ⟨b44,o45+Int.toNat (IntKind.wrap .i64 ((IntKind.wrap .i64 ((p0.n:Int)*x40))+x41))*1,none⟩ x46 /\ 
 (∃x47,rI h38 ⟨b7,3,none⟩ x47 /\ 
 ((Wn h38 [] 3 fun h48=>
 (Sm [⟨b7,3,none⟩,⟨b44,o45+Int.toNat (IntKind.wrap .i64 ((IntKind.wrap .i64 ((p0.n:Int)*x40))+x41))*1,none⟩,⟨b0,1,none⟩,⟨ob,1,none⟩] h38 h48 /\ 
 ((App Pz 25 25 (.slice (some (aS h38 0)) 0 0) (vS x46) h48 fun s49 h50=>
 (Sm [⟨b7,3,none⟩,⟨ob,1,none⟩] h48 h50 /\ 
 (Wn h50 [vI x47] 3 fun h51=>
 (Sm [⟨b44,o45+Int.toNat (IntKind.wrap .i64 ((IntKind.wrap .i64 ((p0.n:Int)*x40))+x41))*1,none⟩,⟨b0,1,none⟩,⟨ob,1,none⟩] h50 h51 /\ 
 (App Pz 25 25 (vS s49) (.slice (some (aS h50 0)) 1 1) h51 fun s52 h53=>
 (Sm [⟨ob,1,none⟩] h51 h53 /\ 
 (NB x42.a fun b54 o55=>((0<=((IntKind.wrap .i64 ((IntKind.wrap .i64 ((p0.n:Int)*x40))+x41)):Int)/\((IntKind.wrap .i64 ((IntKind.wrap .i64 ((p0.n:Int)*x40))+x41)):Int)<(x42.n:Nat)) /\ 
 (Wp h53 ⟨b54,o55+Int.toNat (IntKind.wrap .i64 ((IntKind.wrap .i64 ((p0.n:Int)*x40))+x41))*1,none⟩ 1 [vS s52] fun h56=>
 (∃x57:Sl,∃x58:Sl,atC h56 ⟨ob,0,none⟩ [vS x57,vS x58] /\ 
 (Wp h56 ⟨b6,0,none⟩ 2 [vS x57,vS x58] fun h59=>
 (∃x60:Sl,∃x61:Sl,atC h59 ⟨b6,0,none⟩ [vS x60,vS x61] /\ 
 R (.agg ⟨[vS x60,vS x61]⟩) h59)))))))))))))/\((Wn h48 [vI x47] 3 fun h62=>
 (Sm [⟨b44,o45+Int.toNat (IntKind.wrap .i64 ((IntKind.wrap .i64 ((p0.n:Int)*x40))+x41))*1,none⟩,⟨b0,1,none⟩,⟨ob,1,none⟩] h48 h62 /\ 
 (App Pz 25 25 (.slice (some (aS h38 0)) 0 0) (vS x46) h62 fun s63 h64=>
 (Sm [⟨b7,3,none⟩,⟨ob,1,none⟩] h62 h64 /\ 
 (App Pz 25 25 (vS s63) (.slice (some (aS h48 0)) 1 1) h64 fun s65 h66=>
 (Sm [⟨ob,1,none⟩] h64 h66 /\ 
 (NB x42.a fun b67 o68=>((0<=((IntKind.wrap .i64 ((IntKind.wrap .i64 ((p0.n:Int)*x40))+x41)):Int)/\((IntKind.wrap .i64 ((IntKind.wrap .i64 ((p0.n:Int)*x40))+x41)):Int)<(x42.n:Nat)) /\ 
 (Wp h66 ⟨b67,o68+Int.toNat (IntKind.wrap .i64 ((IntKind.wrap .i64 ((p0.n:Int)*x40))+x41))*1,none⟩ 1 [vS s65] fun h69=>
 (∃x70:Sl,∃x71:Sl,atC h69 ⟨ob,0,none⟩ [vS x70,vS x71] /\ 
 (Wp h69 ⟨b6,0,none⟩ 2 [vS x70,vS x71] fun h72=>
 (∃x73:Sl,∃x74:Sl,atC h72 ⟨b6,0,none⟩ [vS x73,vS x74] /\ 
 R (.agg ⟨[vS x73,vS x74]⟩) h72))))))))))))))))/\((Wn h38 [vI x47] 3 fun h75=>
 (Sm [⟨b44,o45+Int.toNat (IntKind.wrap .i64 ((IntKind.wrap .i64 ((p0.n:Int)*x40))+x41))*1,none⟩,⟨b0,1,none⟩,⟨ob,1,none⟩] h38 h75 /\ 
 (Wn h75 [] 3 fun h76=>
 (Sm [⟨b7,3,none⟩,⟨b44,o45+Int.toNat (IntKind.wrap .i64 ((IntKind.wrap .i64 ((p0.n:Int)*x40))+x41))*1,none⟩,⟨b0,1,none⟩,⟨ob,1,none⟩] h75 h76 /\ 
 (App Pz 25 25 (.slice (some (aS h75 0)) 0 0) (vS x46) h76 fun s77 h78=>
 (Sm [⟨b7,3,none⟩,⟨ob,1,none⟩] h76 h78 /\ 
 (App Pz 25 25 (vS s77) (.slice (some (aS h38 0)) 1 1) h78 fun s79 h80=>
 (Sm [⟨ob,1,none⟩] h78 h80 /\ 
 (NB x42.a fun b81 o82=>((0<=((IntKind.wrap .i64 ((IntKind.wrap .i64 ((p0.n:Int)*x40))+x41)):Int)/\((IntKind.wrap .i64 ((IntKind.wrap .i64 ((p0.n:Int)*x40))+x41)):Int)<(x42.n:Nat)) /\ 
 (Wp h80 ⟨b81,o82+Int.toNat (IntKind.wrap .i64 ((IntKind.wrap .i64 ((p0.n:Int)*x40))+x41))*1,none⟩ 1 [vS s79] fun h83=>
 (∃x84:Sl,∃x85:Sl,atC h83 ⟨ob,0,none⟩ [vS x84,vS x85] /\ 
 (Wp h83 ⟨b6,0,none⟩ 2 [vS x84,vS x85] fun h86=>
 (∃x87:Sl,∃x88:Sl,atC h86 ⟨b6,0,none⟩ [vS x87,vS x88] /\ 
 R (.agg ⟨[vS x87,vS x88]⟩) h86)))))))))))))))))))))))) 
 ((∃x89,rI h38 ⟨b7,2,none⟩ x89 /\ 
 (∃x90,rI h38 ⟨b5,0,none⟩ x90 /\ 
 (∃x91,rS h38 ⟨ob,1,none⟩ x91 /\ 
 (∃x92,rS h38 ⟨b0,1,none⟩ x92 /\ 
 (NB x92.a fun b93 o94=>((0<=((IntKind.wrap .i64 ((IntKind.wrap .i64 ((p0.n:Int)*x89))+x90)):Int)/\((IntKind.wrap .i64 ((IntKind.wrap .i64 ((p0.n:Int)*x89))+x90)):Int)<(x92.n:Nat)) /\ 
 (∃x95,rS h38 ⟨b93,o94+Int.toNat (IntKind.wrap .i64 ((IntKind.wrap .i64 ((p0.n:Int)*x89))+x90))*1,none⟩ x95 /\ 
 (((0:Int)<=(1:Int)/\(1:Int)<=((x95.n:Nat):Int)/\((x95.n:Nat):Int)<=(x95.c:Nat)) /\ 
 (Wn h38 [] 3 fun h96=>
 (Sm [⟨b93,o94+Int.toNat (IntKind.wrap .i64 ((IntKind.wrap .i64 ((p0.n:Int)*x89))+x90))*1,none⟩,⟨b0,1,none⟩,⟨ob,1,none⟩] h38 h96 /\ 
 (App Pz 25 25 (.slice (some (aS h38 0)) 0 0) (.slice (subA x95.a (Int.toNat 1) x95.c 1) (Int.toNat (x95.n:Nat)-Int.toNat 1) (x95.c-Int.toNat 1)) h96 fun s97 h98=>
 (Sm [⟨ob,1,none⟩] h96 h98 /\ 
 (NB x91.a fun b99 o100=>((0<=((IntKind.wrap .i64 ((IntKind.wrap .i64 ((p0.n:Int)*x89))+x90)):Int)/\((IntKind.wrap .i64 ((IntKind.wrap .i64 ((p0.n:Int)*x89))+x90)):Int)<(x91.n:Nat)) /\ 
 (Wp h98 ⟨b99,o100+Int.toNat (IntKind.wrap .i64 ((IntKind.wrap .i64 ((p0.n:Int)*x89))+x90))*1,none⟩ 1 [vS s97] fun h101=>
 (∃x102:Sl,∃x103:Sl,atC h101 ⟨ob,0,none⟩ [vS x102,vS x103] /\ 
 (Wp h101 ⟨b6,0,none⟩ 2 [vS x102,vS x103] fun h104=>
 (∃x105:Sl,∃x106:Sl,atC h104 ⟨b6,0,none⟩ [vS x105,vS x106] /\ 
 R (.agg ⟨[vS x105,vS x106]⟩) h104)))))))))))))))))))))))))))
theorem Sm_two {a b:Addr} {h h':Heap} (h1:Sm [a] h h') (h2:Sm [b] h h'):Sm [a,b] h h':=fun x hx k v hv=>by
 rcases Yr.1 hx with rfl | hx
 .exact h1 _ Yx k v hv
 .exact h2 _ hx k v hv
theorem Rw.tail1 {h:Heap} {s:Sl} {row:List Value} {rows:List (List Value)} (hr:Rw h 1 s (row::rows)) (hc:s.n<=s.c) (h1:1<=s.n):Rw h 1 ⟨subA s.a (Int.toNat 1) s.c 1,Int.toNat (s.n:Nat)-Int.toNat 1,s.c-Int.toNat 1⟩ rows/\subA s.a (Int.toNat 1) s.c 1≠none:=by
 obtain⟨e1,e2⟩:=hr;rw[Yyj] at e1;obtain⟨b,o,ha,hrow⟩:=e2 (by simp);have e3:Int.toNat (1:Int)=1:=rfl;rw[e3,Ys];refine⟨⟨by show s.n-1=_;omega,fun hp=>?_⟩,?_⟩
 .have hc1:¬s.c=1:=by omega
  refine⟨b,o+1,?_,fun i r hi=>?_⟩
  .show subA s.a 1 s.c 1=_;unfold subA;rw[if_neg hc1,ha,Option.map_some,Nat.one_mul,Addr.add_lit]
  .have:=hrow (i+1) r hi
   rwa [show o+(i+1)*1=o+1+i*1 by omega] at this
 .show subA s.a 1 s.c 1≠none;unfold subA;rw[ha];split<;>simp
def NexV (S:List Int) (B:List Bx) (p j:Nat) (x:Mv) (l:List Int) (h:Heap) (v:Value) (h':Heap):Prop:=∃(ts tb u:Sl),v=cfA ts tb/\St h h' [.sl ts 3 1 ((S.set p x.t).map inC),.sl tb 25 1 ((B.set j ⟨u,l⟩).map Bx.cs),.sl u 3 1 (l.map inC)]
theorem tailN_ok (n:Nat) (s ss sb ts tb u1 u2:Sl) (S:List Int) (B:List Bx) (p:Nat) (i:Int) (x:Mv) (q:Bx) (l:List Int) (ob b0 b5 b6 b7:Nat) (h h0:Heap) (hC:CfI h ss sb S B) (hn:s.n=n) (h6:n<=6) (hp:p<n) (hx0:0<=x.peer) (hx1:x.peer<(n:Int)) (hS:S.length=n) (hB:B.length=n*n)
  (gq:B[bxI n p x]?=some q) (hq:q.l.length<=4) (hl:l=if x.send=true then q.l++[x.label] else q.l.tail) (hr:x.send=false->1<=q.l.length)
  (hs:St h h0 [.blk ob [.slice ts.a ts.n ts.c,.slice tb.a tb.n tb.c] 28,.sl ts 3 1 (S.map inC),.sl tb 25 1 (B.map Bx.cs),.blk b7 x.cs 110,.blk b6 [.slice u1.a u1.n u1.c,.slice u2.a u2.n u2.c] 28,.blk b5 [.int .i64 (p:Int),.int .i64 i] 62,.blk b0 [.slice ss.a ss.n ss.c,.slice sb.a sb.n sb.c] 28]) :
  tailN s ob b0 b5 b6 b7 h0 (NexV S B p (bxI n p x) x l h):=by
 unfold tailN;have h36:=sq6 h6;have hj:=bxI_lt (n:=n) (x:=x) hp hx0 hx1;have hts:=(hs.rows 1 (s:=ts) (cs:=inC) rfl (by omega)).ln;have htb:=(hs.rows 2 (s:=tb) (cs:=Bx.cs) rfl (by omega)).ln;have hbn:=hC.b.ln;have hqs:=hC.i q (Yb gq);have hqn:=hqs.ln;obtain⟨pe,hpe⟩:∃pe:Nat,x.peer=(pe:Int):=⟨x.peer.toNat,by omega⟩;have hpt:x.peer.toNat=pe:=by omega
 refine⟨ts,hs.rd 0 rfl (i:=0) rfl,(p:Int),hs.rd 5 rfl (i:=0) rfl,x.t,hs.rd 3 rfl (i:=4) rfl,?_⟩;refine hs.set 1 (s:=ts) (cs:=inC) (x:=(p:Int)) rfl (by omega) (by omega) (by omega) x.t rfl rfl (fun b o h38 hs=>?_) rfl;rw[Ys] at hs;have hw1:∀a b:Nat,a<n->b<n->IntKind.wrap .i64 (IntKind.wrap .i64 ((s.n:Int)*(a:Int))+(b:Int))=((n*a+b:Nat):Int):=fun a b ha hb=>by
  have e1:(s.n:Int)*(a:Int)=((n*a:Nat):Int):=by rw[hn];rfl
  have:=two_lt ha hb;rw[e1,w64 (n:=((n*a:Nat):Int)) (by omega) (by omega)];rw[w64 (by omega) (by omega)];rfl
 have fin:∀ {u:Sl} {hh:Heap} {A:List It} ,St h hh (A++[.sl u 3 1 (l.map inC),.blk ob [.slice ts.a ts.n ts.c,.slice tb.a tb.n tb.c] 28,.sl ts 3 1 ((S.set p x.t).map inC),.sl tb 25 1 ((B.set (bxI n p x) ⟨u,l⟩).map Bx.cs),.blk b7 x.cs 110,.blk b6 [.slice u1.a u1.n u1.c,.slice u2.a u2.n u2.c] 28,.blk b5 [.int .i64 (p:Int),.int .i64 i] 62,.blk b0 [.slice ss.a ss.n ss.c,.slice sb.a sb.n sb.c] 28]) ->
   (∃x57:Sl,∃x58:Sl,atC hh ⟨ob,0,none⟩ [.slice x57.a x57.n x57.c,.slice x58.a x58.n x58.c] /\ 
   (okAt hh ⟨b6,0,none⟩ 2/\∀h59:Heap,h59=hputs hh ⟨b6,0,none⟩ 0 [.slice x57.a x57.n x57.c,.slice x58.a x58.n x58.c] -> 
   (∃x60:Sl,∃x61:Sl,atC h59 ⟨b6,0,none⟩ [.slice x60.a x60.n x60.c,.slice x61.a x61.n x61.c] /\ 
   NexV S B p (bxI n p x) x l h (.agg ⟨[.slice x60.a x60.n x60.c,.slice x61.a x61.n x61.c]⟩) h59))):=fun {u hh A} hs=>by
  have hs:=hs.sub (List.sublist_append_right A _);refine⟨ts,tb,hs.at 1 rfl (o:=0) (n:=2) rfl,?_⟩;refine hs.put 5 rfl (o:=0) (vs:=[.slice ts.a ts.n ts.c,.slice tb.a tb.n tb.c]) rfl (show 2<=2 by decide) fun h59 hs=>?_;refine⟨ts,tb,hs.at 5 rfl (o:=0) (n:=2) rfl,ts,tb,u,rfl,?_⟩;have hs:=hs.sub (L':=[.sl u 3 1 (l.map inC),.sl ts 3 1 ((S.set p x.t).map inC),.sl tb 25 1 ((B.set (bxI n p x) ⟨u,l⟩).map Bx.cs)]) (.cons_cons _ (.cons _ (.cons_cons _ (.cons_cons _ (List.nil_sublist _)))));exact hs.perm (List.perm_middle (l₁:=[_,_]) (l₂:=[])).symm
 refine⟨x.send,hs.rd 3 rfl (i:=1) rfl,sB_intro (fun d=>?_) (fun d=>?_)⟩
 .have hjj:bxI n p x=n*p+pe:=by unfold bxI;rw[if_pos d,hpt]
  have hJ:=hw1 p pe hp (by omega);rw[if_pos d] at hl;have el:([]++q.l.map inC)++[inC x.label]=l.map inC:=by rw[hl,Ym];rfl
  rw[<-hjj,<-hpe] at hJ;refine⟨(p:Int),hs.rd 5 rfl (i:=0) rfl,x.peer,hs.rd 3 rfl (i:=2) rfl,tb,hs.rd 0 rfl (i:=1) rfl,sb,hs.rd 6 rfl (i:=1) rfl,?_⟩;rw[hJ];refine (hC.b.rw.ext hs.ext).nbI (by omega) (by omega) fun b o q' gq' t=>?_;rw[Ys,gq] at gq';cases gq';refine⟨q.s,t.hd,x.label,hs.rd 3 rfl (i:=3) rfl,And.intro ?_ ?_⟩
  .refine hs.newbE fun h48 E48 hs=>⟨E48.sm,?_⟩;have hs:=hs.blkS 0 1 [] rfl (fun r hr=>by cases hr) rfl (Nat.zero_le _);refine And.intro ?_ ?_
   .have hs48:=hs;refine hs.appRw 0 (s:=⟨some ⟨h38.size,0,none⟩,0,0⟩) (rows:=[]) (y:=q.s) rfl app42 (hqs.rw.ext hs.ext) (inrows' q.l) hqs.nil (flat_oneB (fun _=>rfl) _) (by show (0+q.s.n)*8<=_;omega) (by show 0+q.s.n<=_;simp only[maxLen];omega) fun e h50 ne hs=>?_;refine⟨Sm_two (hs48.smbO hs 4 4 3 rfl rfl) (hs48.smbO hs 1 1 1 rfl rfl),?_⟩;refine hs.newbE fun h51 E51 hs=>⟨E51.sm,?_⟩;have hs51:=hs;refine hs.appended 1 (s:=e) (n:=1) (rows:=[]++q.l.map inC) rfl app42 (m:=1) (news:=[inC x.label]) (hs.at 0 rfl (n:=1) rfl) rfl (by simp[inC]) rfl (by have:e.n=0+q.s.n:=ne;omega) (by have:e.n=0+q.s.n:=ne;simp only[maxLen];omega) fun u h53 nu hs=>?_;refine⟨hs51.smbO hs 2 2 1 rfl rfl,?_⟩;refine hs.set 4 (s:=tb) (cs:=Bx.cs) (x:=(bxI n p x:Int)) rfl (by omega) (by omega) (by omega) (⟨u,l⟩:Bx) rfl rfl (fun b o h56 hs=>?_) rfl;rw[Ys] at hs;refine fin (u:=u) (A:=[.blk h50.size [.int .i64 x.label] 3]) ?_;rw[<-el];exact hs
   .refine hs.newbE fun h62 E62 hs=>⟨E62.sm,?_⟩;have hs62:=hs;refine hs.appRw 1 (s:=⟨some ⟨h38.size,0,none⟩,0,0⟩) (rows:=[]) (y:=q.s) rfl app42 (hqs.rw.ext hs.ext) (inrows' q.l) hqs.nil (flat_oneB (fun _=>rfl) _) (by show (0+q.s.n)*8<=_;omega) (by show 0+q.s.n<=_;simp only[maxLen];omega) fun e h64 ne hs=>?_;refine⟨Sm_two (hs62.smbO hs 5 5 3 rfl rfl) (hs62.smbO hs 2 2 1 rfl rfl),?_⟩;have hs64:=hs;refine hs.appended 1 (s:=e) (n:=1) (rows:=[]++q.l.map inC) rfl app42 (m:=1) (news:=[inC x.label]) (hs.at 0 rfl (n:=1) rfl) rfl (by simp[inC]) rfl (by have:e.n=0+q.s.n:=ne;omega) (by have:e.n=0+q.s.n:=ne;simp only[maxLen];omega) fun u h66 nu hs=>?_;refine⟨hs64.smbO hs 2 2 1 rfl rfl,?_⟩;refine hs.set 4 (s:=tb) (cs:=Bx.cs) (x:=(bxI n p x:Int)) rfl (by omega) (by omega) (by omega) (⟨u,l⟩:Bx) rfl rfl (fun b o h56 hs=>?_) rfl;rw[Ys] at hs;refine fin (u:=u) (A:=[.blk h48.size [.int .i64 x.label] 3]) ?_;rw[<-el];exact hs
  .refine hs.newbE fun h75 E75 hs=>⟨E75.sm,?_⟩;refine hs.newbE fun h76 E76 hs=>⟨E76.sm,?_⟩;have hs:=hs.blkS 0 1 [] rfl (fun r hr=>by cases hr) rfl (Nat.zero_le _);have hs76:=hs;refine hs.appRw 0 (s:=⟨some ⟨h75.size,0,none⟩,0,0⟩) (rows:=[]) (y:=q.s) rfl app42 (hqs.rw.ext hs.ext) (inrows' q.l) hqs.nil (flat_oneB (fun _=>rfl) _) (by show (0+q.s.n)*8<=_;omega) (by show 0+q.s.n<=_;simp only[maxLen];omega) fun e h78 ne hs=>?_;refine⟨Sm_two (hs76.smbO hs 5 5 3 rfl rfl) (hs76.smbO hs 2 2 1 rfl rfl),?_⟩;have hs78:=hs;refine hs.appended 0 (s:=e) (n:=1) (rows:=[]++q.l.map inC) rfl app42 (m:=1) (news:=[inC x.label]) (hs.at 1 rfl (n:=1) rfl) rfl (by simp[inC]) rfl (by have:e.n=0+q.s.n:=ne;omega) (by have:e.n=0+q.s.n:=ne;simp only[maxLen];omega) fun u h80 nu hs=>?_;refine⟨hs78.smbO hs 2 2 1 rfl rfl,?_⟩;refine hs.set 4 (s:=tb) (cs:=Bx.cs) (x:=(bxI n p x:Int)) rfl (by omega) (by omega) (by omega) (⟨u,l⟩:Bx) rfl rfl (fun b o h56 hs=>?_) rfl;rw[Ys] at hs;refine fin (u:=u) (A:=[.blk h38.size [.int .i64 x.label] 3]) ?_;rw[<-el];exact hs.perm (List.Perm.swap _ _ _)
 .have hr1:=hr d;have hjj:bxI n p x=n*pe+p:=by unfold bxI;rw[if_neg (by rw[d];decide),hpt]
  have hJ:=hw1 pe p (by omega) hp;rw[if_neg (by rw[d];decide)] at hl;rw[<-hjj,<-hpe] at hJ;refine⟨x.peer,hs.rd 3 rfl (i:=2) rfl,(p:Int),hs.rd 5 rfl (i:=0) rfl,tb,hs.rd 0 rfl (i:=1) rfl,sb,hs.rd 6 rfl (i:=1) rfl,?_⟩;rw[hJ];refine (hC.b.rw.ext hs.ext).nbI (by omega) (by omega) fun b o q' gq' t=>?_;rw[Ys,gq] at gq';cases gq';have hcap:=hqs.cap;refine⟨q.s,t.hd,⟨by omega,by omega,by omega⟩,?_⟩;refine hs.newbE fun h96 E96 hs=>⟨E96.sm,?_⟩;have hs:=hs.blkS 0 1 [] rfl (fun r hr=>by cases hr) rfl (Nat.zero_le _);have hs96:=hs;obtain⟨q0,tl,hqe⟩:∃q0 tl,q.l=q0::tl:=by
   cases hq':q.l with
   | nil=>rw[hq'] at hr1;exact absurd hr1 (by decide)
   | cons a b=>exact⟨a,b,rfl⟩
  have hltl:l=tl:=by rw[hl,hqe];rfl
  have hrw:=hqs.rw.ext hs.ext;rw[hqe,Yyl] at hrw;have hsub:=Rw.tail1 hrw (by omega) (by omega);have e1:Int.toNat ((q.s.n:Nat):Int)-Int.toNat 1=q.s.n-1:=by rw[Ys];rfl
  refine hs.appRw 0 (s:=⟨some ⟨h38.size,0,none⟩,0,0⟩) (rows:=[]) (y:=⟨subA q.s.a (Int.toNat 1) q.s.c 1,Int.toNat (q.s.n:Nat)-Int.toNat 1,q.s.c-Int.toNat 1⟩) rfl app42 hsub.1 (inrows' tl) (fun ha=>absurd ha hsub.2) (flat_oneB (fun _=>rfl) _) (by show (0+(Int.toNat ((q.s.n:Nat):Int)-Int.toNat 1))*8<=_;omega) (by show 0+(Int.toNat ((q.s.n:Nat):Int)-Int.toNat 1)<=_;simp only[maxLen];omega) fun u h98 ne hs=>?_;refine⟨hs96.smbO hs 1 1 1 rfl rfl,?_⟩;refine hs.set 3 (s:=tb) (cs:=Bx.cs) (x:=(bxI n p x:Int)) rfl (by omega) (by omega) (by omega) (⟨u,l⟩:Bx) rfl rfl (fun b o h56 hs=>?_) rfl;rw[Ys] at hs;refine fin (u:=u) (A:=[]) ?_;have el:[]++tl.map inC=l.map inC:=by rw[hltl];rfl
  rw[<-el];exact hs
theorem app24:appB Pz 26 25 1 24=true:=by kernel_rfl
theorem St.pick {h0 h:Heap} {L:List It} (hs:St h0 h L) (k:Nat) {i:It} (hk:L[k]?=some i):St h0 h (i::L.eraseIdx k):=by
 obtain⟨hl,e⟩:=Ya.1 hk;refine hs.perm ?_;rw[List.eraseIdx_eq_take_drop_succ,<-e];have e2:L=L.take k++L[k]::L.drop (k+1):=by rw[List.getElem_cons_drop,List.take_append_drop]
 conv=>lhs;rw[e2]
 exact List.perm_middle
theorem next56 (L:List MR) (n:Nat) (s ss sb:Sl) (S:List Int) (B:List Bx) (p i:Nat) (y:MR) (x:Mv) (q:Bx) (l:List Int) (h:Heap) (hS:SyI h s L) (hC:CfI h ss sb S B) (hn:L.length=n) (h6:n<=6) (gy:L[p]?=some y) (gx:y.m.mv[i]?=some x) (hx0:0<=x.peer) (hx1:x.peer<(n:Int)) (hSl:S.length=n) (hBl:B.length=n*n)
  (gq:B[bxI n p x]?=some q) (hq:q.l.length<=4) (hl:l=if x.send=true then q.l++[x.label] else q.l.tail) (hr:x.send=false->1<=q.l.length) :
  Fn Pz 46 #[.slice s.a s.n s.c,.agg ⟨[.slice ss.a ss.n ss.c,.slice sb.a sb.n sb.c]⟩,.agg ⟨[.int .i64 (p:Int),.int .i64 (i:Int)]⟩] h (NexV S B p (bxI n p x) x l h):=by
 apply vc46 s ss sb (p:Int) (i:Int);unfold W46 V46e V46d V46g V46f V46c V46a V46h V46b;have hsn:=hS.r.ln;have hp:p<L.length:=(Ya.1 gy).1;have hi:i<y.m.mv.length:=(Ya.1 gx).1;have hyi:=hS.i y (Yb gy);have hgn:=hyi.pm.ln;have h36:=sq6 h6;have hssn:=hC.s.ln;have hsbn:=hC.b.ln;refine (St.refl h).newb fun h5 hs=>?_;refine hs.newb fun h6' hs=>?_;refine hs.newb fun h7 hs=>?_;refine⟨(p:Int),hs.rd 1 rfl (i:=0) rfl,?_⟩;refine (hS.r.rw.ext hs.ext).nbI (by omega) (by omega) fun b o y' gy' t=>?_;rw[Ys,gy] at gy';cases gy';refine⟨y.g,t.nth 4 rfl,(i:Int),hs.rd 1 rfl (i:=1) rfl,?_⟩;refine (hyi.pm.rw.ext hs.ext).nbI (by omega) (by omega) fun b3 o3 x' gx' t3=>?_;rw[Ys,gx] at gx';cases gx';refine⟨x.f,x.send,x.peer,x.label,x.t,x.ag,t3,?_⟩;refine hs.newbE fun h21 E21 hs=>⟨E21.sm,?_⟩;refine hs.put 0 rfl (o:=0) (vs:=x.cs) rfl (show 6<=6 by decide) fun h22 hs=>?_;refine⟨ss,hs.rd 3 rfl (i:=0) rfl,sb,hs.rd 3 rfl (i:=1) rfl,?_⟩;have leaf:∀ {ob:Nat} {ts tb:Sl} {h0:Heap},St h h0 [.blk ob [.slice ts.a ts.n ts.c,.slice tb.a tb.n tb.c] 28,.sl ts 3 1 (S.map inC),.sl tb 25 1 (B.map Bx.cs),.blk h7.size x.cs 110,.blk h6'.size [.slice none 0 0,.slice none 0 0] 28,.blk h5.size [.int .i64 (p:Int),.int .i64 (i:Int)] 62,.blk h.size [.slice ss.a ss.n ss.c,.slice sb.a sb.n sb.c] 28]->tailN s ob h.size h5.size h6'.size h7.size h0 (NexV S B p (bxI n p x) x l h):=fun {ob ts tb h0} hs=>
  tailN_ok n s ss sb ts tb ⟨none,0,0⟩ ⟨none,0,0⟩ S B p (i:Int) x q l ob h.size h5.size h6'.size h7.size h h0 hC (by omega) h6 (by omega) hx0 hx1 hSl hBl gq hq hl hr hs
 have apS:=fun {A:List It} {h':Heap} {K:Sl->Heap->Prop} {b:Nat} (hs:St h h' A) (k:Nat) (hk:A[k]?=some (.sl ⟨some ⟨b,0,none⟩,0,0⟩ 3 1 [])) (hK:∀(r:Sl) (h'':Heap),r.n=0+ss.n->St h h'' (A.set k (.sl r 3 1 ([]++S.map inC)))->K r h'')=>hs.appRw k (y:=ss) hk app42 (hC.s.rw.ext hs.ext) (inrows' S) hC.s.nil (flat_oneB (fun _=>rfl) _) (by show (0+ss.n)*8<=_;omega) (by show 0+ss.n<=_;simp only[maxLen];omega) hK;have apB:=fun {A:List It} {h':Heap} {K:Sl->Heap->Prop} {b:Nat} (hs:St h h' A) (k:Nat) (hk:A[k]?=some (.sl ⟨some ⟨b,0,none⟩,0,0⟩ 25 1 [])) (hK:∀(r:Sl) (h'':Heap),r.n=0+sb.n->St h h'' (A.set k (.sl r 25 1 ([]++B.map Bx.cs)))->K r h'')=>hs.appRw k (y:=sb) hk app24 (hC.b.rw.ext hs.ext) (bxrows B) hC.b.nil (flat_oneB (fun _=>rfl) _) (by show (0+sb.n)*24<=_;omega) (by show 0+sb.n<=_;simp only[maxLen];omega) hK;refine And.intro ?_ (And.intro ?_ ?_)
 .refine hs.newbE fun g1 E2 hs=>⟨E2.sm,?_⟩;have hs:=hs.blkS 0 1 [] rfl (fun r hr=>by cases hr) rfl (Nat.zero_le _);refine And.intro ?_ (And.intro ?_ ?_)
  .have hs5:=hs;refine apS hs 0 rfl fun s4 g3 ne6 hs=>?_;refine⟨hs5.smbO hs 4 4 1 rfl rfl,?_⟩;refine And.intro ?_ ?_
   .refine hs.newbE fun g7 E8 hs=>⟨E8.sm,?_⟩;have hs:=hs.blkS 0 1 [] rfl (fun r hr=>by cases hr) rfl (Nat.zero_le _);refine And.intro ?_ ?_
    .have hs11:=hs;refine apB hs 0 rfl fun s10 g9 ne12 hs=>?_;refine⟨hs11.smbO hs 5 5 0 rfl rfl,?_⟩;refine hs.newbE fun g13 E14 hs=>⟨E14.sm,?_⟩;refine hs.put 0 rfl (o:=0) (vs:=[.slice s4.a s4.n s4.c,.slice s10.a s10.n s10.c]) rfl (show 2<=2 by decide) fun g15 hs=>?_;exact leaf (((hs.pick 1 rfl).pick 2 rfl).pick 2 rfl)
    .refine hs.newbE fun g16 E17 hs=>⟨E17.sm,?_⟩;have hs20:=hs;refine apB hs 1 rfl fun s19 g18 ne21 hs=>?_;refine⟨hs20.smbO hs 6 6 0 rfl rfl,?_⟩;refine hs.put 0 rfl (o:=0) (vs:=[.slice s4.a s4.n s4.c,.slice s19.a s19.n s19.c]) rfl (show 2<=2 by decide) fun g22 hs=>?_;exact leaf (((hs.pick 1 rfl).pick 2 rfl).pick 2 rfl)
   .refine hs.newbE fun g23 E24 hs=>⟨E24.sm,?_⟩;refine hs.newbE fun g25 E26 hs=>⟨E26.sm,?_⟩;have hs:=hs.blkS 0 1 [] rfl (fun r hr=>by cases hr) rfl (Nat.zero_le _);have hs29:=hs;refine apB hs 0 rfl fun s28 g27 ne30 hs=>?_;refine⟨hs29.smbO hs 6 6 0 rfl rfl,?_⟩;refine hs.put 1 rfl (o:=0) (vs:=[.slice s4.a s4.n s4.c,.slice s28.a s28.n s28.c]) rfl (show 2<=2 by decide) fun g31 hs=>?_;exact leaf (((hs.pick 0 rfl).pick 2 rfl).pick 2 rfl)
  .refine hs.newbE fun g32 E33 hs=>⟨E33.sm,?_⟩;have hs:=hs.blkS 0 1 [] rfl (fun r hr=>by cases hr) rfl (Nat.zero_le _);refine And.intro ?_ ?_
   .have hs36:=hs;refine apS hs 1 rfl fun s35 g34 ne37 hs=>?_;refine⟨hs36.smbO hs 5 5 1 rfl rfl,?_⟩;refine And.intro ?_ ?_
    .have hs40:=hs;refine apB hs 0 rfl fun s39 g38 ne41 hs=>?_;refine⟨hs40.smbO hs 5 5 0 rfl rfl,?_⟩;refine hs.newbE fun g42 E43 hs=>⟨E43.sm,?_⟩;refine hs.put 0 rfl (o:=0) (vs:=[.slice s35.a s35.n s35.c,.slice s39.a s39.n s39.c]) rfl (show 2<=2 by decide) fun g44 hs=>?_;exact leaf (((hs.pick 1 rfl).pick 2 rfl).pick 2 rfl)
    .refine hs.newbE fun g45 E46 hs=>⟨E46.sm,?_⟩;have hs49:=hs;refine apB hs 1 rfl fun s48 g47 ne50 hs=>?_;refine⟨hs49.smbO hs 6 6 0 rfl rfl,?_⟩;refine hs.put 0 rfl (o:=0) (vs:=[.slice s35.a s35.n s35.c,.slice s48.a s48.n s48.c]) rfl (show 2<=2 by decide) fun g51 hs=>?_;exact leaf (((hs.pick 1 rfl).pick 2 rfl).pick 2 rfl)
   .refine hs.newbE fun g52 E53 hs=>⟨E53.sm,?_⟩;have hs56:=hs;refine apS hs 2 rfl fun s55 g54 ne57 hs=>?_;refine⟨hs56.smbO hs 6 6 1 rfl rfl,?_⟩;have hs60:=hs;refine apB hs 1 rfl fun s59 g58 ne61 hs=>?_;refine⟨hs60.smbO hs 6 6 0 rfl rfl,?_⟩;refine hs.put 0 rfl (o:=0) (vs:=[.slice s55.a s55.n s55.c,.slice s59.a s59.n s59.c]) rfl (show 2<=2 by decide) fun g62 hs=>?_;exact leaf (((hs.pick 1 rfl).pick 2 rfl).pick 2 rfl)
  .refine hs.newbE fun g63 E64 hs=>⟨E64.sm,?_⟩;refine And.intro ?_ ?_
   .have hs67:=hs;refine apS hs 1 rfl fun s66 g65 ne68 hs=>?_;refine⟨hs67.smbO hs 5 5 1 rfl rfl,?_⟩;refine hs.newbE fun g69 E70 hs=>⟨E70.sm,?_⟩;have hs:=hs.blkS 0 1 [] rfl (fun r hr=>by cases hr) rfl (Nat.zero_le _);have hs73:=hs;refine apB hs 0 rfl fun s72 g71 ne74 hs=>?_;refine⟨hs73.smbO hs 6 6 0 rfl rfl,?_⟩;refine hs.put 1 rfl (o:=0) (vs:=[.slice s66.a s66.n s66.c,.slice s72.a s72.n s72.c]) rfl (show 2<=2 by decide) fun g75 hs=>?_;exact leaf (((hs.pick 0 rfl).pick 2 rfl).pick 2 rfl)
   .refine hs.newbE fun g76 E77 hs=>⟨E77.sm,?_⟩;have hs:=hs.blkS 0 1 [] rfl (fun r hr=>by cases hr) rfl (Nat.zero_le _);have hs80:=hs;refine apS hs 2 rfl fun s79 g78 ne81 hs=>?_;refine⟨hs80.smbO hs 6 6 1 rfl rfl,?_⟩;have hs84:=hs;refine apB hs 0 rfl fun s83 g82 ne85 hs=>?_;refine⟨hs84.smbO hs 6 6 0 rfl rfl,?_⟩;refine hs.put 1 rfl (o:=0) (vs:=[.slice s79.a s79.n s79.c,.slice s83.a s83.n s83.c]) rfl (show 2<=2 by decide) fun g86 hs=>?_;exact leaf (((hs.pick 0 rfl).pick 2 rfl).pick 2 rfl)
 .refine hs.newbE fun g87 E88 hs=>⟨E88.sm,?_⟩;have hs:=hs.blkS 0 1 [] rfl (fun r hr=>by cases hr) rfl (Nat.zero_le _);refine And.intro ?_ ?_
  .refine hs.newbE fun g89 E90 hs=>⟨E90.sm,?_⟩;have hs:=hs.blkS 0 1 [] rfl (fun r hr=>by cases hr) rfl (Nat.zero_le _);refine And.intro ?_ ?_
   .have hs93:=hs;refine apS hs 0 rfl fun s92 g91 ne94 hs=>?_;refine⟨hs93.smbO hs 5 5 1 rfl rfl,?_⟩;refine And.intro ?_ ?_
    .have hs97:=hs;refine apB hs 1 rfl fun s96 g95 ne98 hs=>?_;refine⟨hs97.smbO hs 5 5 0 rfl rfl,?_⟩;refine hs.newbE fun g99 E100 hs=>⟨E100.sm,?_⟩;refine hs.put 0 rfl (o:=0) (vs:=[.slice s92.a s92.n s92.c,.slice s96.a s96.n s96.c]) rfl (show 2<=2 by decide) fun g101 hs=>?_;exact leaf (((hs.pick 2 rfl).pick 2 rfl).pick 2 rfl)
    .refine hs.newbE fun g102 E103 hs=>⟨E103.sm,?_⟩;have hs106:=hs;refine apB hs 2 rfl fun s105 g104 ne107 hs=>?_;refine⟨hs106.smbO hs 6 6 0 rfl rfl,?_⟩;refine hs.put 0 rfl (o:=0) (vs:=[.slice s92.a s92.n s92.c,.slice s105.a s105.n s105.c]) rfl (show 2<=2 by decide) fun g108 hs=>?_;exact leaf (((hs.pick 2 rfl).pick 2 rfl).pick 2 rfl)
   .refine hs.newbE fun g109 E110 hs=>⟨E110.sm,?_⟩;have hs113:=hs;refine apS hs 1 rfl fun s112 g111 ne114 hs=>?_;refine⟨hs113.smbO hs 6 6 1 rfl rfl,?_⟩;have hs117:=hs;refine apB hs 2 rfl fun s116 g115 ne118 hs=>?_;refine⟨hs117.smbO hs 6 6 0 rfl rfl,?_⟩;refine hs.put 0 rfl (o:=0) (vs:=[.slice s112.a s112.n s112.c,.slice s116.a s116.n s116.c]) rfl (show 2<=2 by decide) fun g119 hs=>?_;exact leaf (((hs.pick 2 rfl).pick 2 rfl).pick 2 rfl)
  .refine hs.newbE fun g120 E121 hs=>⟨E121.sm,?_⟩;refine hs.newbE fun g122 E123 hs=>⟨E123.sm,?_⟩;have hs:=hs.blkS 0 1 [] rfl (fun r hr=>by cases hr) rfl (Nat.zero_le _);have hs126:=hs;refine apS hs 0 rfl fun s125 g124 ne127 hs=>?_;refine⟨hs126.smbO hs 6 6 1 rfl rfl,?_⟩;have hs130:=hs;refine apB hs 2 rfl fun s129 g128 ne131 hs=>?_;refine⟨hs130.smbO hs 6 6 0 rfl rfl,?_⟩;refine hs.put 1 rfl (o:=0) (vs:=[.slice s125.a s125.n s125.c,.slice s129.a s129.n s129.c]) rfl (show 2<=2 by decide) fun g132 hs=>?_;exact leaf (((hs.pick 2 rfl).pick 1 rfl).pick 2 rfl)
 .refine hs.newbE fun g133 E134 hs=>⟨E134.sm,?_⟩;refine And.intro ?_ ?_
  .refine hs.newbE fun g135 E136 hs=>⟨E136.sm,?_⟩;have hs:=hs.blkS 0 1 [] rfl (fun r hr=>by cases hr) rfl (Nat.zero_le _);refine And.intro ?_ ?_
   .have hs139:=hs;refine apS hs 0 rfl fun s138 g137 ne140 hs=>?_;refine⟨hs139.smbO hs 5 5 1 rfl rfl,?_⟩;refine hs.newbE fun g141 E142 hs=>⟨E142.sm,?_⟩;have hs:=hs.blkS 0 1 [] rfl (fun r hr=>by cases hr) rfl (Nat.zero_le _);have hs145:=hs;refine apB hs 0 rfl fun s144 g143 ne146 hs=>?_;refine⟨hs145.smbO hs 6 6 0 rfl rfl,?_⟩;refine hs.put 2 rfl (o:=0) (vs:=[.slice s138.a s138.n s138.c,.slice s144.a s144.n s144.c]) rfl (show 2<=2 by decide) fun g147 hs=>?_;exact leaf (((hs.pick 0 rfl).pick 1 rfl).pick 2 rfl)
   .refine hs.newbE fun g148 E149 hs=>⟨E149.sm,?_⟩;have hs:=hs.blkS 0 1 [] rfl (fun r hr=>by cases hr) rfl (Nat.zero_le _);have hs152:=hs;refine apS hs 1 rfl fun s151 g150 ne153 hs=>?_;refine⟨hs152.smbO hs 6 6 1 rfl rfl,?_⟩;have hs156:=hs;refine apB hs 0 rfl fun s155 g154 ne157 hs=>?_;refine⟨hs156.smbO hs 6 6 0 rfl rfl,?_⟩;refine hs.put 2 rfl (o:=0) (vs:=[.slice s151.a s151.n s151.c,.slice s155.a s155.n s155.c]) rfl (show 2<=2 by decide) fun g158 hs=>?_;exact leaf (((hs.pick 0 rfl).pick 1 rfl).pick 2 rfl)
  .refine hs.newbE fun g159 E160 hs=>⟨E160.sm,?_⟩;have hs:=hs.blkS 0 1 [] rfl (fun r hr=>by cases hr) rfl (Nat.zero_le _);refine hs.newbE fun g161 E162 hs=>⟨E162.sm,?_⟩;have hs:=hs.blkS 0 1 [] rfl (fun r hr=>by cases hr) rfl (Nat.zero_le _);have hs165:=hs;refine apS hs 0 rfl fun s164 g163 ne166 hs=>?_;refine⟨hs165.smbO hs 6 6 1 rfl rfl,?_⟩;have hs169:=hs;refine apB hs 1 rfl fun s168 g167 ne170 hs=>?_;refine⟨hs169.smbO hs 6 6 0 rfl rfl,?_⟩;refine hs.put 2 rfl (o:=0) (vs:=[.slice s164.a s164.n s164.c,.slice s168.a s168.n s168.c]) rfl (show 2<=2 by decide) fun g171 hs=>?_;exact leaf (((hs.pick 1 rfl).pick 1 rfl).pick 2 rfl)
theorem mvO_get {L:List Mch} {r i:Int} {x:Mv} (h:mvO L r i=some x):∃p j:Nat,r=(p:Int)/\i=(j:Int)/\∃m,L[p]?=some m/\m.mv[j]?=some x:=by
 unfold mvO at h;split at h
 .cases h
 .rename_i c;split at h
  .cases h
  .rename_i m gm;split at h
   .cases h
   .rename_i c2;exact⟨r.toNat,i.toNat,by omega,by omega,m,gm,h⟩
theorem divmod_two {n a b:Nat} (hb:b<n):(n*a+b)/n=a/\(n*a+b)%n=b:=by
 constructor
 .rw[Nat.mul_add_div (by omega),Nat.div_eq_of_lt hb,Nat.add_zero]
 .rw[Nat.mul_add_mod,Nat.mod_eq_of_lt hb]
theorem pro_do {L:List Mch} {k:Int} {S:List Int} {BL:List (List Int)} {p:Nat} {m:Mch} {x:Mv} (hP:ProS L k S BL) (gm:L[p]?=some m) (hxm:x∈m.mv) (hc:canS L.length k S BL p x=0):ProS L k (S.set p x.t) (doB L.length p x BL):=by
 have hp:p<L.length:=(Ya.1 gm).1;have hvm:=hP.v.m p m gm;have hx:=hvm.2.1.n.mv x hxm;have hx1:=hvm.2.2 x hxm;have hj:=bxI_lt (n:=L.length) (x:=x) hp hx.2.2.2.2.1 hx1;obtain⟨q,gq⟩:=get_some (l:=BL) (i:=bxI L.length p x) (by rw[hP.p.b];exact hj);have hqd:BL.getD (bxI L.length p x) []=q:=by rw[Yo,gq];rfl
 have hbq:=hP.p.bx _ q gq;refine⟨hP.v,hP.c,⟨by rw[Yyh];exact hP.p.s,by unfold doB;rw[Yyh];exact hP.p.b,fun q' s m' h1 h2=>?_,fun j b hb=>?_⟩⟩
 .by_cases e:q'=p
  .subst e;rw[gm] at h2;cases h2;rw[Yq (by rw[hP.p.s];exact hp)] at h1;cases h1;exact⟨hx.2.2.1,hx.2.2.2.1⟩
  .rw[Yy (Ne.symm e)] at h1;exact hP.p.st q' s m' h1 h2
 .unfold doB at hb;by_cases e:j=bxI L.length p x
  .subst e;rw[Yq (by rw[hP.p.b];exact hj),hqd] at hb;cases hb;have hd:¬bxI L.length p x/L.length=bxI L.length p x%L.length:=by
    unfold bxI;have hpr:=hx.2.2.2.2.2.2.1;rw[hvm.1] at hpr;have h0:=hx.2.2.2.2.1;split
    .obtain⟨a,b⟩:=divmod_two (n:=L.length) (a:=p) (b:=x.peer.toNat) (by omega);rw[a,b];omega
    .obtain⟨a,b⟩:=divmod_two (n:=L.length) (a:=x.peer.toNat) (b:=p) hp;rw[a,b];omega
   refine⟨?_,fun h=>absurd h hd,?_⟩
   .unfold canS at hc;rw[hqd] at hc;split at hc
    .exact absurd hc (by decide)
    .split
     .rename_i hs;rw[if_pos hs] at hc;rw[Yh,Yv];split at hc
      .exact absurd hc (by decide)
      .omega
     .rw[List.length_tail];omega
   .intro z hz;split at hz
    .rcases Yk.1 hz with hz | hz
     .exact hbq.2.2 z hz
     .rw[Ye.1 hz];exact hx.2.2.2.2.2.2.2
    .exact hbq.2.2 z (List.mem_of_mem_tail hz)
  .rw[Yy (Ne.symm e)] at hb;exact hP.p.bx j b hb
def u8C (b:Int):List Value:=[.int .u8 b]
theorem w8 {b:Int} (h0:0<=b) (h1:b<256):IntKind.wrap .i64 b=b:=w64 (by omega) (by omega)
theorem xpro_start {L:List Mch} {k:Int} (hV:SysV L) (hk:1<=k/\k<=4):ProS L k (startS L) ((List.replicate (L.length*L.length) bx0).map Bx.l):=by
 refine⟨hV,hk,⟨by unfold startS;rw[Yc],by rw[Yc,Yg],fun p s m h1 h2=>?_,fun i b hb=>?_⟩⟩
 .unfold startS at h1;rw[Yd,h2] at h1;cases h1;exact (hV.m p m h2).2.1.n.s
 .obtain⟨q,hq,rfl⟩:=Yp.1 (Yb hb);rw[List.eq_of_mem_replicate hq];exact⟨by show ((0:Nat):Int)<=k;omega,fun _=>rfl,fun x hx=>by cases hx⟩
theorem doS_at {L:List Mch} {k:Int} {S:List Int} {BL:List (List Int)} {a b:Nat} {m:Mch} {x:Mv} (hP:ProS L k S BL) (gm:L[a]?=some m) (gx:m.mv[b]?=some x):doS L k S BL (a:Int) (b:Int)=if canS L.length k S BL a x=0 then (0,S.set a x.t,doB L.length a x BL) else (canS L.length k S BL a x,[],[]):=by
 have ha:=(Ya.1 gm).1;have hb:=(Ya.1 gx).1;have hmo:mvO L (a:Int) (b:Int)=some x:=by
  unfold mvO;rw[if_neg (by omega),Ys,gm];dsimp only;rw[if_neg (by omega),Ys,gx]
 unfold doS;rw[if_pos hP,hmo,Ys]
noncomputable def stpS (L:List Mch) (k:Int) (c:List Int × List (List Int)) (q:Nat × Nat):Option (List Int × List (List Int)):=if (doS L k c.1 c.2 (q.1:Int) (q.2:Int)).1=0 then some (doS L k c.1 c.2 (q.1:Int) (q.2:Int)).2 else none
noncomputable def runS (L:List Mch) (k:Int) (l:List (Nat × Nat)):Option (List Int × List (List Int)):=l.foldl (fun o q=>o.bind fun c=>stpS L k c q) (some (startS L,(List.replicate (L.length*L.length) bx0).map Bx.l))
theorem runS_snoc {L:List Mch} {k:Int} {l:List (Nat × Nat)} {q:Nat × Nat}:runS L k (l++[q])=(runS L k l).bind fun c=>stpS L k c q:=by
 unfold runS;rw[List.foldl_append];rfl
theorem stpS_ok {L:List Mch} {k:Int} {S:List Int} {BL:List (List Int)} {a b:Nat} {m:Mch} {x:Mv} (hP:ProS L k S BL) (gm:L[a]?=some m) (gx:m.mv[b]?=some x) (hc:canS L.length k S BL a x=0):stpS L k (S,BL) (a,b)=some (S.set a x.t,doB L.length a x BL):=by
 unfold stpS;rw[doS_at hP gm gx,if_pos hc,if_pos rfl]
def WalV (L:List Mch) (k:Int) (h:Heap) (v:Value) (h':Heap):Prop:=∃(out ts tb:Sl) (S:List Int) (T:List Bx) (l:List (Nat × Nat)) (A:List It),v=.tuple ⟨[.slice out.a out.n out.c,cfA ts tb]⟩/\St h h' A/\CfM A ts tb S T/\ProS L k S (T.map Bx.l)/\It.sl out 62 2 (l.map stpC)∈A/\runS L k l=some (S,T.map Bx.l)/\l.length<=1048576
theorem steps_mem {L:List Mch} {k:Int} {S:List Int} {BL:List (List Int)} {a b:Nat} (h:(a,b)∈stepsS L k S BL):∃m x,L[a]?=some m/\m.mv[b]?=some x/\canS L.length k S BL a x=0:=by
 unfold stepsS at h;obtain⟨p,_,h⟩:=List.mem_flatMap.1 h;unfold stepsR at h;cases gm:L[p]? with
 | none=>rw[gm] at h;cases h
 | some m=>
  rw[gm] at h;obtain⟨i,hi,e⟩:=Yp.1 h;cases e;unfold stepsP at hi;obtain⟨h1,h2⟩:=List.mem_filter.1 hi;obtain⟨x,gx,_⟩:=outIx_mem.1 ((mvS_srt m _).1.mem_iff.1 h1);refine⟨m,x,gm,gx,?_⟩;have:=Yyn h2
  rwa [mvD_of gx] at this
theorem walk26 (L:List MR) (s:Sl) (k:Int) (D:List Int) (ds:Sl) (h:Heap) (hS:SyI h s L) (hV:SysV (L.map MR.m)) (hk:1<=k/\k<=4) (hD:RL h 1 ds u8C D) (hb:∀b∈D,0<=b/\b<256) :
  Fn Pz 19 #[.slice s.a s.n s.c,.int .i64 k,.slice ds.a ds.n ds.c] h (WalV (L.map MR.m) k h):=by
 apply vc19 s k ds;unfold W19 V19a;have hlm:(L.map MR.m).length=L.length:=Yc _;have hV6:=hV.n;rw[hlm] at hV6;have hdn:=hD.ln;have h36:=sq6 hV6.2;have hds:=hD.sm;refine (St.refl h).newb fun h1 hs=>?_;refine (first46 L s h1 (hS.ext hs.ext) hV6.2).mono ?_;rintro _ h5 ⟨ss,sb,A,rfl,hs1,hM⟩;have hs:=hs.join hs1;refine⟨ss,sb,rfl,?_⟩;refine hs.newput (vs:=[.slice ss.a ss.n ss.c,.slice sb.a sb.n sb.c]) rfl rfl fun h7 hs=>?_;have hs:=hs.nil_ 62 2;have hpro:=xpro_start (k:=k) hV hk;rw[hlm] at hpro;refine⟨fun out x h' μ=>∃(i:Nat) (S:List Int) (T:List Bx) (l:List (Nat × Nat)) (A:List It) (ts tb:Sl),x=(i:Int)/\μ=D.length-i/\i<=D.length/\l.length=i/\St h h' (.sl out 62 2 (l.map stpC) :: .blk h5.size [.slice ts.a ts.n ts.c,.slice tb.a tb.n tb.c] 28 :: .blk h.size [.slice none 0 0,.slice none 0 0] 28::A)/\CfM A ts tb S T/\ProS (L.map MR.m) k S (T.map Bx.l)/\runS (L.map MR.m) k l=some (S,T.map Bx.l),⟨_,0,_,_,[],A,ss,sb,rfl,rfl,Nat.zero_le _,rfl,hs,hM,hpro,by unfold runS;rw[List.foldl_nil,hlm]⟩,?_⟩;clear hs hM hpro hs1;rintro-out _ h13 μ ⟨i,S,T,l,A,ts,tb,rfl,rfl,hi,hll,hs,hM,hP,hR⟩;have hC:∀ {h':Heap} {A':List It},St h h' (A'++A)->CfI h' ts tb S T:=fun hs=>(hM.mono fun i hi=>List.mem_append_right _ hi).cfi hs;have hSl:S.length=L.length:=by rw[hP.p.s,hlm]
 have hTl:T.length=L.length*L.length:=by rw[<-Yc (f:=Bx.l),hP.p.b,hlm]
 refine sBi (fun c=>?_) (fun c=>?_)
 .refine⟨ts,tb,hs.at 1 rfl (o:=0) (n:=2) rfl,?_⟩;refine (refAll48 L s k ts tb S T h13 (hS.ext hs.ext) hV (hC (A':=[_,_,_]) hs) hSl hTl).mono ?_;rintro _ h18 ⟨E,r,rfl,hr⟩;have hs:=hs.step E;have hrn:=hr.ln;refine⟨r,rfl,sBe (fun c2=>?_) (fun c2=>?_)⟩
  .refine⟨ts,tb,hs.at 1 rfl (o:=0) (n:=2) rfl,?_⟩;refine hs.put 2 rfl (o:=0) (vs:=[.slice ts.a ts.n ts.c,.slice tb.a tb.n tb.c]) rfl (show 2<=2 by decide) fun h21 hs=>?_;exact⟨ts,tb,hs.at 2 rfl (o:=0) (n:=2) rfl,out,ts,tb,S,T,l,_,rfl,hs,hM.mono fun i hi=>Yn _ (Yn _ (Yn _ hi)),hP,Yx,hR,by omega⟩
  .obtain⟨d,gd⟩:=get_some (l:=D) (i:=i) (by omega);have hd:=hb d (Yb gd);refine (hD.rw.ext hs.ext).nbI (by omega) (by omega) fun b24 o25 d' gd' t=>?_;rw[Ys,gd] at gd';cases gd';refine⟨d,t.hd,c2,?_⟩;rw[w8 hd.1 hd.2];obtain⟨dn,rfl⟩:∃dn:Nat,d=(dn:Int):=⟨d.toNat,by omega⟩;rw[tmod_nat];have hlt:dn%r.n<r.n:=Nat.mod_lt _ (by omega);refine hr.rw.nbI (by omega) (by omega) fun b27 o28 q gq t2=>?_;obtain⟨a,b⟩:=q;obtain⟨m,x,gm,gx,hc⟩:=steps_mem (Yb gq);refine⟨(a:Int),(b:Int),t2,?_⟩;refine hs.newput (vs:=stpC (a,b)) rfl rfl fun h32 hs=>?_;refine⟨_,_,hs.at 0 rfl (o:=0) (n:=2) rfl,?_⟩;have hon:=(hs.rows 1 (s:=out) (cs:=stpC) rfl (by omega)).ln;refine hs.app 1 (s:=out) (n:=2) (rows:=l.map stpC) rfl app39 (m:=1) [stpC (a,b)] rfl rfl (fun r hr=>by rw[Ye] at hr;rw[hr];rfl) rfl (by omega) (by simp only[maxLen];omega) fun o2 h37 no hs=>?_;refine⟨ts,tb,hs.at 2 rfl (o:=0) (n:=2) rfl,(a:Int),(b:Int),hs.at 0 rfl (o:=0) (n:=2) rfl,?_⟩;have gm0:=gm;rw[Yd] at gm;cases gy:L[a]? with
   | none=>rw[gy] at gm;cases gm
   | some y=>
    rw[gy] at gm;cases gm;have hxm:=Yb gx;have hp:=(Ya.1 gy).1;have hvm:=hV.m a y.m gm0;have hx0:0<=x.peer:=(hvm.2.1.n.mv x hxm).2.2.2.2.1;have hx1:x.peer<(L.length:Int):=by have:=hvm.2.2 x hxm;rw[hlm] at this;exact this
    have hj:=bxI_lt (n:=L.length) (x:=x) hp hx0 hx1;obtain⟨q,gq2⟩:=get_some (l:=T) (i:=bxI L.length a x) (by omega);have hall:∀z∈T,z.l.length<=4:=fun z hz=>by
     obtain⟨j',gj⟩:=Yf.1 hz;have:=(hP.p.bx j' z.l (by rw[Yd,gj];rfl)).1;omega
    have hqm:=Yb gq2;have hql:(T.map Bx.l).getD (bxI L.length a x) []=q.l:=getD_map gq2;have hpd:=pro_do hP gm0 hxm hc;have hR2:runS (L.map MR.m) k (l++[(a,b)])=some (S.set a x.t,doB (L.map MR.m).length a x (T.map Bx.l)):=by
     rw[runS_snoc,hR];exact stpS_ok hP gm0 gx hc
    rw[hlm] at hc hpd hR2;refine (next56 L L.length s ts tb S T a b y x q (if x.send=true then q.l++[x.label] else q.l.tail) h37 (hS.ext hs.ext) (hC (A':=[_,_,_,_]) hs) rfl hV6.2 gy gx hx0 hx1 hSl hTl gq2 (hall q hqm) rfl (fun d=>?_)).mono ?_
    .unfold canS at hc;rw[hql] at hc;split at hc
     .exact absurd hc (by decide)
     .rw[if_neg (by rw[d];decide)] at hc;cases hq:q.l with
      | nil=>rw[hq] at hc;exact absurd hc (show ¬((23:Int)=0) by decide)
      | cons a b=>rw[Yyj];omega
    .rintro _ h45 ⟨t2,b2,u,rfl,hs2⟩;have hs:=hs.join hs2;refine⟨t2,b2,rfl,?_⟩;refine hs.put 2 rfl (o:=0) (vs:=[.slice t2.a t2.n t2.c,.slice b2.a b2.n b2.c]) rfl (show 2<=2 by decide) fun h46 hs=>?_;refine⟨_,(show D.length-(i+1)<D.length-i by omega),i+1,S.set a x.t,T.set (bxI L.length a x) ⟨u,if x.send=true then q.l++[x.label] else q.l.tail⟩,l++[(a,b)],A++_,t2,b2,by rw[w64 (by omega) (by omega)];omega,rfl,by omega,by rw[Yh,Yv,hll],by rw[Ym];exact hs.drop 1,⟨List.mem_append_right _ Yx,List.mem_append_right _ (Yn _ Yx),fun z hz=>?_,by rw[Yyh];omega,by rw[Yyh];omega,fun z hz=>?_⟩,?_⟩
     .rcases List.mem_or_eq_of_mem_set hz with hz | rfl
      .exact (hM.i z hz).imp id (Or.imp (List.mem_append_left _) (List.mem_append_left _))
      .exact .inr (.inl (List.mem_append_right _ (Yn _ (Yn _ Yx))))
     .rcases List.mem_or_eq_of_mem_set hz with hz | rfl
      .have:=hall z hz;omega
      .have:=hall q hqm;dsimp only;split
       .rw[Yh,Yv];omega
       .rw[List.length_tail];omega
     .have e:(T.set (bxI L.length a x) ⟨u,if x.send=true then q.l++[x.label] else q.l.tail⟩).map Bx.l=doB L.length a x (T.map Bx.l):=by
       rw[List.map_set];unfold doB;rw[hql]
      rw[e];exact⟨hpd,hR2⟩
 .refine⟨ts,tb,hs.at 1 rfl (o:=0) (n:=2) rfl,?_⟩;refine hs.put 2 rfl (o:=0) (vs:=[.slice ts.a ts.n ts.c,.slice tb.a tb.n tb.c]) rfl (show 2<=2 by decide) fun h21 hs=>?_;exact⟨ts,tb,hs.at 2 rfl (o:=0) (n:=2) rfl,out,ts,tb,S,T,l,_,rfl,hs,hM.mono fun i hi=>Yn _ (Yn _ (Yn _ hi)),hP,Yx,hR,by omega⟩
theorem mem_steps {L:List Mch} {k:Int} {S:List Int} {BL:List (List Int)} {a b:Nat} {m:Mch} {x:Mv} (gm:L[a]?=some m) (gx:m.mv[b]?=some x) (hc:canS L.length k S BL a x=0):(a,b)∈stepsS L k S BL:=by
 have hb:b<m.mv.length:=(Ya.1 gx).1;have hpos:posB L.length k S BL a m b=true:=by unfold posB;rw[mvD_of gx];exact decide_eq_true hc
 have h1:b∈(List.range m.mv.length).filter (posB L.length k S BL a m):=List.mem_filter.2 ⟨List.mem_range.2 hb,hpos⟩;rw[pos_ix] at h1;have h2:=((mvS_srt m (S.getD a 0)).1.filter (posB L.length k S BL a m)).mem_iff.2 h1;unfold stepsS;refine List.mem_flatMap.2 ⟨a,List.mem_range.2 (Ya.1 gm).1,?_⟩;unfold stepsR;rw[gm];exact Yp.2 ⟨b,h2,rfl⟩
theorem can_parts {n:Nat} {k:Int} {S:List Int} {BL:List (List Int)} {p:Nat} {x:Mv}:canS n k S BL p x=0 ↔ x.f=S.getD p 0/\(x.send=true->((BL.getD (bxI n p x) []).length:Int)<k)/\(x.send=false->∃r,BL.getD (bxI n p x) []=x.label::r):=by
 unfold canS;by_cases hf:x.f=S.getD p 0
 .rw[if_neg (fun h=>h hf)];cases hs:x.send with
  | true=>
   rw[if_pos rfl];constructor
   .intro h;split at h
    .exact absurd h (by decide)
    .exact⟨hf,fun _=>by omega,fun h=>by cases h⟩
   .rintro⟨_,h,_⟩;rw[if_neg (by have:=h rfl;omega)]
  | false=>
   rw[if_neg (by decide)];cases hb:BL.getD (bxI n p x) [] with
   | nil=>
    refine⟨fun h=>absurd h (show ¬((23:Int)=0) by decide),?_⟩;rintro⟨_,_,h⟩;obtain⟨r,h⟩:=h rfl;cases h
   | cons a l=>
    dsimp only;constructor
    .intro h;split at h
     .exact absurd h (by decide)
     .rename_i e;exact⟨hf,(fun h=>by cases h),fun _=>⟨l,by rw[Classical.not_not.1 e]⟩⟩
    .rintro⟨_,_,h⟩;obtain⟨r,h⟩:=h rfl;cases h;rw[if_neg (fun h=>h rfl)]
 .rw[if_pos hf];exact⟨fun h=>absurd h (show ¬((7:Int)=0) by decide),fun h=>absurd h.1 hf⟩
theorem getD_set_ne {α:Type} {l:List α} {i j:Nat} {a d:α} (h:i≠j):(l.set i a).getD j d=l.getD j d:=by
 rw[Yo,Yo,Yy h]
def slR (s:Sl):List Value:=[.slice s.a s.n s.c]
def EngT (h:Heap) (osl:Sl) (L:List MR):Prop:=∃(os:Nat->Sl) (qs:Nat->Nat->Sl),Rw h 1 osl ((List.range L.length).map fun p=>slR (os p))/\∀(p:Nat) x,L[p]?=some x->Rw h 1 (os p) ((List.range x.m.n.toNat).map fun s=>slR (qs p s))/\∀s,s<x.m.n.toNat->Rw h 1 (qs p s) ((natI (mvS x.m (s:Int))).map inC)
structure EngR (h:Heap) (eb:Nat) (s:Sl) (k:Int) (L:List MR):Prop where
 e:∃osl:Sl,atC h ⟨eb,0,none⟩ [.slice s.a s.n s.c,.int .i64 k,.slice osl.a osl.n osl.c]/\EngT h osl L
theorem box69e (eb p:Nat) (s:Sl) (x:Mv) (h:Heap) (he:hc h ⟨eb,0,none⟩=some (.slice s.a s.n s.c)) (hn:s.n<=6) (hp:p<s.n) (h0:0<=x.peer) (h1:x.peer<(s.n:Int)) :
  Fn Pz 122 #[.pointer (some ⟨eb,0,none⟩),.int .i64 (p:Int),.agg ⟨x.cs⟩] h fun v h'=>v=.int .i64 (bxI s.n p x:Nat)/\Ext h h':=by
 apply vc122 ⟨eb,0,none⟩ (p:Int) x.f x.send x.peer x.label x.t x.ag;unfold W122;have h36:=sq6 hn;have hj:=bxI_lt (n:=s.n) (x:=x) hp h0 h1;refine (St.refl h).newb fun h7 hs=>?_;refine⟨x.send,hs.rd 0 rfl (i:=1) rfl,sB_intro (fun c=>?_) (fun c=>?_)⟩
 .refine⟨s,hc_ext hs.ext he,x.peer,hs.rd 0 rfl (i:=2) rfl,?_,hs.ext⟩;have e:bxI s.n p x=s.n*p+x.peer.toNat:=by unfold bxI;rw[if_pos c]
  rw[e] at hj ⊢;rw[<-Int.natCast_mul,w64 (n:=((s.n*p:Nat):Int)) (by omega) (by omega),w64 (by omega) (by omega)];congr 2;omega
 .refine⟨s,hc_ext hs.ext he,x.peer,hs.rd 0 rfl (i:=2) rfl,?_,hs.ext⟩;have e:bxI s.n p x=s.n*x.peer.toNat+p:=by unfold bxI;rw[if_neg (by rw[c];decide)]
  rw[e] at hj ⊢;have e2:(s.n:Int)*x.peer=((s.n*x.peer.toNat:Nat):Int):=by rw[Int.natCast_mul,Int.toNat_of_nonneg h0]
  rw[e2,w64 (n:=((s.n*x.peer.toNat:Nat):Int)) (by omega) (by omega),w64 (by omega) (by omega)];congr 2
theorem app30e:appB Pz 69 43 2 16=true:=by kernel_rfl
theorem can_run {n:Nat} {k:Int} {S:List Int} {BL:List (List Int)} {p:Nat} {x:Mv} (hf:x.f=S.getD p 0):canS n k S BL p x=0 ↔ (x.send=true/\((BL.getD (bxI n p x) []).length:Int)<k)\/(x.send=false/\∃r,BL.getD (bxI n p x) []=x.label::r):=by
 rw[can_parts];constructor
 .rintro⟨_,h1,h2⟩;cases hs:x.send with
  | true=>exact .inl ⟨rfl,h1 hs⟩
  | false=>exact .inr ⟨rfl,h2 hs⟩
 .rintro (⟨h1,h2⟩ | ⟨h1,h2⟩)
  .exact⟨hf,fun _=>h2,fun h=>by rw[h1] at h;cases h⟩
  .exact⟨hf,fun h=>(by rw[h1] at h;cases h),fun _=>h2⟩
theorem steps34 (L:List MR) (s:Sl) (k:Int) (eb:Nat) (ss sb:Sl) (S:List Int) (B:List Bx) (h:Heap) (hS:SyI h s L) (hE:EngR h eb s k L) (hC:CfI h ss sb S B) (hP:ProS (L.map MR.m) k S (B.map Bx.l)) :
  Fn Pz 62 #[.pointer (some ⟨eb,0,none⟩),.agg ⟨[.slice ss.a ss.n ss.c,.slice sb.a sb.n sb.c]⟩] h fun v h'=>∃r:Sl,v=.slice r.a r.n r.c/\St h h' [.sl r 43 2 ((stepsS (L.map MR.m) k S (B.map Bx.l)).map stpC)]:=by
 apply vc62 ⟨eb,0,none⟩ ss sb;unfold W62 V62a V62b;have hn:=hS.r.ln;have hsn:=hC.s.ln;have hbn:=hC.b.ln;have hlm:(L.map MR.m).length=L.length:=Yc _;have hbm:(B.map Bx.l).length=B.length:=Yc _;have hV:=hP.v;have hV6:=hV.n;rw[hlm] at hV6;have hSl:S.length=L.length:=by rw[hP.p.s,hlm]
 have hBl:B.length=L.length*L.length:=by rw[<-hbm,hP.p.b,hlm]
 have h36:=sq6 hV6.2;have hst:=hP.p.st;obtain⟨osl,hat,os,qs,hT1,hT2⟩:=hE.e;have hon':=hT1.ln;have hT1n:osl.n=L.length:=by rw[hT1.1,Yc,Yyd]
 generalize hBB:B.map Bx.l=BL at *;have hLL:stepsS (L.map MR.m) k S BL=(List.range L.length).flatMap (stepsR L.length k S BL (L.map MR.m)):=by unfold stepsS;rw[hlm]
 refine (St.refl h).newb fun h3 hs=>?_;refine⟨s,(atC_ext hs.ext hat).hd,?_⟩;have hs:=hs.nil_ 43 2;refine⟨fun out x h' μ=>∃i:Nat,x=(i:Int)/\μ=L.length-i/\i<=L.length/\St h h' [.sl out 43 2 (((List.range i).flatMap (stepsR L.length k S BL (L.map MR.m))).map stpC),.blk h.size [.slice ss.a ss.n ss.c,.slice sb.a sb.n sb.c] 52],⟨_,0,rfl,rfl,Nat.zero_le _,hs⟩,?_⟩;clear hs;rintro-out _ h10 μ ⟨i,rfl,rfl,hi,hs⟩;have hol:=steps_len (n:=L.length) (k:=k) (S:=S) (BL:=BL) hV i;refine sBi (fun c1=>?_) (fun c1=>?_)
 .obtain⟨y,gy⟩:=get_some (l:=L) (i:=i) (by omega);have gm:(L.map MR.m)[i]?=some y.m:=by rw[Yd,gy];rfl
  have hyi:=hS.i y (Yb gy);have hvm:=hV.m i y.m gm;have hml:=hvm.2.1.n.ml;obtain⟨z,gz⟩:=get_some (l:=S) (i:=i) (by omega);have hSg:S.getD i 0=z:=getD_some gz;have hz:=hst i z y.m gz gm;obtain⟨hT3,hT4⟩:=hT2 i y gy;refine (hS.r.rw.ext hs.ext).nbI (by omega) (by omega) fun b o y' gy' t=>?_;rw[Ys] at gy';replace gy':L[i]?=some y':=gy';rw[gy] at gy';cases gy';refine⟨_,_,_,_,_,_,t,?_⟩;refine hs.newput (vs:=MR.cs y) rfl rfl fun h20 hs=>?_;refine⟨osl,(atC_ext hs.ext hat).nth 2 rfl,?_⟩;refine (hT1.ext hs.ext).nbI (by omega) (by omega) fun b22 o23 p gp t2=>?_;rw[Ys,Yyb (by omega)] at gp;cases gp;refine⟨os i,t2.hd,ss,hs.rd 2 rfl (i:=0) rfl,?_⟩;refine (hC.s.rw.ext hs.ext).nbI (by omega) (by omega) fun b26 o27 z' gz' t3=>?_;rw[Ys] at gz';replace gz':S[i]?=some z':=gz';rw[gz] at gz';cases gz';have hosn:(os i).n=y.m.n.toNat:=by rw[hT3.1,Yc,Yyd]
  refine⟨z,t3.hd,?_⟩;refine (hT3.ext hs.ext).nbI hz.1 (by omega) fun b29 o30 p gp t4=>?_;rw[Yyb (by omega)] at gp;cases gp;refine⟨qs i z.toNat,t4.hd,?_⟩;have hzc:((z.toNat:Nat):Int)=z:=Int.toNat_of_nonneg hz.1;have hrow:=hT4 z.toNat (by omega);rw[hzc] at hrow;obtain⟨hpm,-⟩:=mvS_srt y.m z;have hrn:=hrow.ln;rw[show (natI (mvS y.m z)).length=(mvS y.m z).length from Yc _] at hrn;have hOl:(mvS y.m z).length<=400:=by
   rw[hpm.length_eq];unfold outIx;refine Yys (List.length_filter_le _ _) ?_;rw[Yyd];exact hml
  generalize hO:mvS y.m z=O at *;refine⟨fun out x h' μ=>∃j:Nat,x=(j:Int)/\μ=O.length-j/\j<=O.length/\St h h' [.blk h10.size (MR.cs y) 98,.sl out 43 2 ((((List.range i).flatMap (stepsR L.length k S BL (L.map MR.m)))++((O.take j).filter (posB L.length k S BL i y.m)).map fun q=>(i,q)).map stpC),.blk h.size [.slice ss.a ss.n ss.c,.slice sb.a sb.n sb.c] 52],⟨_,0,rfl,rfl,Nat.zero_le _,by rw[Yyk,List.filter_nil,List.map_nil,Yw];exact hs⟩,?_⟩;clear hs;rintro-out2 _ h37 μ ⟨j,rfl,rfl,hj,hs⟩;have hon2:=(hs.rows 1 (s:=out2) (cs:=stpC) rfl (by omega)).ln;have hfl:((O.take j).filter (posB L.length k S BL i y.m)).length<=j:=Yys (List.length_filter_le _ _) (by rw[Yu];omega);rw[Yh,Yc] at hon2;refine sBi (fun c2=>?_) (fun c2=>?_)
  .obtain⟨q,gq⟩:=get_some (l:=O) (i:=j) (by omega);obtain⟨x,gx,hxf⟩:=outIx_mem.1 (hpm.mem_iff.1 (Yb gq));have hqm:=(Ya.1 gx).1;have hxm:=Yb gx;have hx0:=(hvm.2.1.n.mv x hxm).2.2.2.2.1;have hx1:=hvm.2.2 x hxm;rw[hlm] at hx1;have hgl:=hyi.pm.ln;refine (hrow.ext hs.ext).nbI (by omega) (by omega) fun b38 o39 q' gq' t5=>?_;rw[Ys] at gq';replace gq':(natI O)[j]?=some q':=gq';obtain⟨q2,gq2,rfl⟩:=natI_get gq';rw[gq] at gq2;cases gq2;refine⟨(q:Int),t5.hd,y.g,hs.rd 0 rfl (i:=4) rfl,?_⟩;refine (hyi.pm.rw.ext hs.ext).nbI (by omega) (by omega) fun b42 o43 x' gx' t6=>?_;rw[Ys] at gx';replace gx':y.m.mv[q]?=some x':=gx';rw[gx] at gx';cases gx';refine⟨_,_,_,_,_,_,t6,?_⟩;refine hs.newput (vs:=x.cs) rfl rfl fun h51 hs=>?_;refine⟨sb,hs.rd 3 rfl (i:=1) rfl,_,_,_,_,_,_,hs.at 0 rfl (o:=0) (n:=6) rfl,?_⟩;refine (box69e eb i s x h51 (atC_ext hs.ext hat).hd (by omega) (by omega) hx0 (by omega)).mono ?_;rintro _ h61 ⟨rfl,E⟩;have hs:=hs.step E;have hbx:=bxI_lt (n:=L.length) (p:=i) (x:=x) (by omega) hx0 hx1;rw[hn] at *;refine⟨_,rfl,E.sm,?_⟩;obtain⟨qb,gqb⟩:=get_some (l:=B) (i:=bxI L.length i x) (by omega);have hqi:=hC.i qb (Yb gqb);have hqn:=hqi.ln;refine (hC.b.rw.ext hs.ext).nbI (by omega) (by omega) fun b62 o63 qb' gqb' t7=>?_;rw[Ys,gqb] at gqb';cases gqb';have hqd:BL.getD (bxI L.length i x) []=qb.l:=by rw[<-hBB];exact getD_map gqb
   have hcan:=can_run (n:=L.length) (k:=k) (S:=S) (BL:=BL) (p:=i) (x:=x) (by rw[hSg];exact hxf);rw[hqd] at hcan;have hpb:posB L.length k S BL i y.m q=true ↔ canS L.length k S BL i x=0:=by unfold posB;rw[mvD_of gx,decide_eq_true_eq]
   have hno:¬canS L.length k S BL i x=0->St h h61 [.blk h10.size (MR.cs y) 98,.sl out2 43 2 ((((List.range i).flatMap (stepsR L.length k S BL (L.map MR.m)))++((O.take (j+1)).filter (posB L.length k S BL i y.m)).map fun q=>(i,q)).map stpC),.blk h.size [.slice ss.a ss.n ss.c,.slice sb.a sb.n sb.c] 52]:=fun hn=>by
    rw[take_snoc gq,List.filter_append,List.filter_cons_of_neg (fun h=>hn (hpb.1 h)),List.filter_nil,Yw];exact hs.drop 1
   have hyes:canS L.length k S BL i x=0->((O.take (j+1)).filter (posB L.length k S BL i y.m)).map (fun q=>(i,q))=((O.take j).filter (posB L.length k S BL i y.m)).map (fun q=>(i,q))++[(i,q)]:=fun hp=>by
    rw[take_snoc gq,List.filter_append,List.filter_cons_of_pos (hpb.2 hp),List.filter_nil,Ym];rfl
   refine⟨qb.s,t7.hd,x.send,hs.rd 0 rfl (i:=1) rfl,sB_intro (fun cs=>?_) (fun cs=>?_)⟩
   .refine⟨k,(atC_ext hs.ext hat).nth 1 rfl,sBi (fun c3=>?_) (fun c3=>?_)⟩
    .have hc:=hcan.2 (.inl ⟨cs,by omega⟩);refine hs.app 2 (s:=out2) (n:=2) (rows:=(((List.range i).flatMap (stepsR L.length k S BL (L.map MR.m)))++((O.take j).filter (posB L.length k S BL i y.m)).map fun q=>(i,q)).map stpC) rfl app30e (m:=1) [stC (i:Int) q] rfl rfl (fun r hr=>by rw[Ye] at hr;rw[hr];rfl) rfl (by omega) (by simp only[maxLen];omega) fun r2 h47 nr hs=>?_;refine⟨_,(show O.length-(j+1)<O.length-j by omega),j+1,by rw[w64 (by omega) (by omega)];omega,rfl,by omega,?_⟩;rw[hyes hc,<-Yz,Ym];exact hs.drop 1
    .refine⟨x.send,hs.rd 0 rfl (i:=1) rfl,sB_f (by rw[cs];rfl) ?_⟩;exact⟨_,(show O.length-(j+1)<O.length-j by omega),j+1,by rw[w64 (by omega) (by omega)];omega,rfl,by omega,hno fun hc=>by rcases hcan.1 hc with h1 | h1;(· omega);(· rw[h1.1] at cs;cases cs)⟩
   .refine⟨x.send,hs.rd 0 rfl (i:=1) rfl,sB_t (by rw[cs];rfl) (sBi (fun c3=>?_) (fun c3=>?_))⟩
    .refine (hqi.rw.ext hs.ext).nbI (by decide) (by omega) fun b72 o73 a ga t8=>?_;replace ga:qb.l[0]?=some a:=ga;refine⟨a,t8.hd,x.label,hs.rd 0 rfl (i:=3) rfl,sBe (fun c4=>?_) (fun c4=>?_)⟩
     .have hc:=hcan.2 (.inr ⟨cs,by
       cases hql:qb.l with
       | nil=>rw[hql] at ga;cases ga
       | cons a' r=>rw[hql] at ga;cases ga;exact⟨r,by rw[c4]⟩⟩)
      refine hs.app 2 (s:=out2) (n:=2) (rows:=(((List.range i).flatMap (stepsR L.length k S BL (L.map MR.m)))++((O.take j).filter (posB L.length k S BL i y.m)).map fun q=>(i,q)).map stpC) rfl app30e (m:=1) [stC (i:Int) q] rfl rfl (fun r hr=>by rw[Ye] at hr;rw[hr];rfl) rfl (by omega) (by simp only[maxLen];omega) fun r2 h47 nr hs=>?_;refine⟨_,(show O.length-(j+1)<O.length-j by omega),j+1,by rw[w64 (by omega) (by omega)];omega,rfl,by omega,?_⟩;rw[hyes hc,<-Yz,Ym];exact hs.drop 1
     .exact⟨_,(show O.length-(j+1)<O.length-j by omega),j+1,by rw[w64 (by omega) (by omega)];omega,rfl,by omega,hno fun hc=>by
       rcases hcan.1 hc with h1 | ⟨_,r,h1⟩
       .rw[h1.1] at cs;cases cs
       .rw[h1] at ga;cases ga;exact c4 rfl⟩
    .exact⟨_,(show O.length-(j+1)<O.length-j by omega),j+1,by rw[w64 (by omega) (by omega)];omega,rfl,by omega,hno fun hc=>by
      rcases hcan.1 hc with h1 | ⟨_,r,h1⟩
      .rw[h1.1] at cs;cases cs
      .rw[h1,Yyj] at hqn;omega⟩
  .have hjl:j=O.length:=by omega
   subst hjl;refine⟨_,(show L.length-(i+1)<L.length-i by omega),i+1,by rw[w64 (by omega) (by omega)];omega,rfl,by omega,?_⟩;have e1:stepsR L.length k S BL (L.map MR.m) i=(O.filter (posB L.length k S BL i y.m)).map fun q=>(i,q):=by
    unfold stepsR;rw[gm];show ((stepsP L.length k S BL i y.m).map fun q=>(i,q))=_;unfold stepsP;rw[hSg,hO]
   rw[List.range_succ,List.flatMap_append,List.flatMap_cons,List.flatMap_nil,Yw,e1];rw[Yye] at hs;exact hs.drop 1
 .have hil:i=L.length:=by omega
  subst hil;refine⟨out,rfl,?_⟩;rw[hLL];exact hs.sub (.cons_cons _ (List.nil_sublist _))
theorem App_full {P:Program} {t e size bytes:Nat} (hT:appB P t e size bytes=true) {h:Heap} {y:Sl} {rows:List (List Value)} (hy:Rw h size y rows) (hk:∀r∈rows,r.length=size) (hc:y.c=y.n) (hna:y.a=none->y.n=0)
  {x:Addr} {m c:Nat} {news:List Value} (hx:atC h x news) (hl:news.length=m*size) (hm:0<m) (h1:news.all oneB=true) (hbytes:(y.n+m)*bytes<=140737488355328) (h63:y.n+m<=maxLen)
  {K:Sl->Heap->Prop} (hK:∀(r:Sl) (h':Heap),r.n=y.n+m->OwnS h' h.size e size r (rows.flatten++news)->Ext h h'->K r h') :
  App P t t (.slice y.a y.n y.c) (.slice (some x) m c) h K:=by
 have hn:=hy.1;cases hya:y.a with
 | none=>
  have h0:=hna hya;have hr0:rows=[]:=List.length_eq_zero_iff.1 (by omega);subst hr0;have ho:OwnS h h.size e size (⟨none,0,0⟩:Sl) []:=OwnS.nil;rw[h0,hc,h0];refine App_own hT (s:=⟨none,0,0⟩) ho (Yyt _) hx hl h1 (by show (0+m)*bytes<=_;rw[h0] at hbytes;exact hbytes) (by show 0+m<=_;rw[h0] at h63;exact h63) fun r h' hrn hor hsz hkeep=>hK r h' (by rw[h0];exact hrn) hor ⟨hsz,fun b hb=>hkeep b hb fun g hg=>by cases hg⟩
 | some b=>
  intro ty w hw;subst hw;unfold appB at hT;simp only[Yt] at hT;obtain⟨⟨⟨⟨⟨⟨⟨hs,he⟩,ht⟩,hz⟩,hzl⟩,hsz⟩,hby⟩,hpos⟩:=hT;have hu:=sliceB_e hs;rw[beqT he] at hu;obtain⟨i,hi⟩:=isT_info ht;obtain⟨z,hz'⟩:=Option.isSome_iff_exists.1 hz;rw[hi] at hz';simp only[Option.bind_some] at hz';have e1:i.size=size:=by have:=beqT hsz;simpa [szOf,hi] using this
  have e2:i.bytes=bytes:=by have:=beqT hby;simpa [byOf,hi] using this
  have e3:z.cells.size=size:=by have:=beqT hzl;simpa [zeroC,hi,hz'] using this
  have hnews:∀j u,news[j]?=some u->w.cell? (x.add j)=some u:=fun j u hj=>by rw[addk_add];exact hx j u hj
  have hb:atC w.heap b rows.flatten:=by
   by_cases h0:0<rows.length
   .obtain⟨b',o,ha,hall⟩:=hy.2 h0;rw[hya] at ha;cases ha;exact atC_flat rows o hk hall
   .have hr0:rows=[]:=List.length_eq_zero_iff.1 (by omega);subst hr0;intro i v hv;simp at hv
  have holds:∀j u,rows.flatten[j]?=some u->w.cell? (b.add j)=some u:=fun j u hj=>by rw[addk_add];exact hb j u hj
  obtain⟨v',w',hr,hown,hg⟩:=run_append_arg_grows (P:=P) w t ty e i z size bytes hu hi hz' e1 e2 e3 (by simpa using hpos) b y.n y.c rows.flatten (by rw[flatten_len rows hk,hn]) holds x m c news hl hnews (by omega) h63 hbytes;obtain⟨r,hv,hrn,hor⟩:=OwnS.of_row hown;exact⟨v',w',hr,⟨r,hv,hK r w'.heap hrn hor ⟨hg.size,fun k hk=>hg.block k hk (by intro e;cases e)⟩⟩,hg.os,hg.tape,hg.output⟩
theorem app25e:appB Pz 25 3 1 8=true:=by kernel_rfl
theorem app26e:appB Pz 26 25 1 24=true:=by kernel_rfl
def newL (x:Mv) (l:List Int):List Int:=if x.send=true then l++[x.label] else l.tail
def DoE (S':List Int) (B:List Bx) (j:Nat) (x:Mv) (q:Bx) (h:Heap) (v:Value) (h':Heap):Prop:=∃(ts tb u:Sl) (A:List It),v=cfA ts tb/\St h h' A/\It.sl ts 3 1 (S'.map inC)∈A/\It.sl tb 25 1 ((B.set j ⟨u,newL x q.l⟩).map Bx.cs)∈A/\(x.send=true->It.sl u 3 1 ((newL x q.l).map inC)∈A)/\(x.send=false->u=⟨subA q.s.a 1 q.s.c 1,q.s.n-1,q.s.c-1⟩)
theorem do_tail (L:List MR) (s:Sl) (k:Int) (eb:Nat) (ss sb cs cb:Sl) (S:List Int) (B:List Bx) (a b:Nat) (x:Mv) (q:Bx) (h hz:Heap) (bo b5 b6 b7:Nat) (hn:s.n=L.length) (h6:L.length<=6) (ha:a<L.length) (hx0:0<=x.peer) (hx1:x.peer<(L.length:Int))
  (hE:EngR h eb s k L) (hC:CfI h ss sb S B) (hSl:S.length=L.length) (hBl:B.length=L.length*L.length) (gq:B[bxI L.length a x]?=some q) (hq4:q.l.length<=4) (hq1:x.send=false->1<=q.l.length)
  (hs:St h hz [.blk bo [.slice cs.a cs.n cs.c,.slice cb.a cb.n cb.c] 52,.sl cs 3 1 (S.map inC),.sl cb 25 1 (B.map Bx.cs),.blk b7 x.cs 110,.blk b6 [.slice none 0 0,.slice none 0 0] 52,.blk b5 [.int .i64 (a:Int),.int .i64 (b:Int)] 43,.blk h.size [.slice ss.a ss.n ss.c,.slice sb.a sb.n sb.c] 52]) :
  (∃x34:Sl,hc hz ⟨bo,0,none⟩=some (.slice x34.a x34.n x34.c) /\ 
 (∃x35:Int,hc hz ⟨b5,0,none⟩=some (.int .i64 x35) /\ 
 (∃x36:Int,hc hz ⟨b7,4,none⟩=some (.int .i64 x36) /\ 
 (NB x34.a fun b37 o38=>((0<=(x35:Int)/\(x35:Int)<(x34.n:Nat)) /\ 
 (okAt hz ⟨b37,o38+Int.toNat x35*1,none⟩ 1/\∀h39:Heap,h39=hputs hz ⟨b37,o38+Int.toNat x35*1,none⟩ 0 [.int .i64 x36] -> 
 (∃x40:Int,hc h39 ⟨b5,0,none⟩=some (.int .i64 x40) /\ 
 (∃x41:Int,∃x42:Bool,∃x43:Int,∃x44:Int,∃x45:Int,∃x46:Bool,atC h39 ⟨b7,0,none⟩ [.int .i64 x41,.bool x42,.int .i64 x43,.int .i64 x44,.int .i64 x45,.bool x46] /\ 
 (Fn Pz 122 #[.pointer (some ⟨eb,0,none⟩),.int .i64 x40,.agg ⟨[.int .i64 x41,.bool x42,.int .i64 x43,.int .i64 x44,.int .i64 x45,.bool x46]⟩] h39 
 (fun v47 h49=>∃x48:Int,v47=.int .i64 x48 /\ 
 (∃x50:Sl,hc h49 ⟨h.size,1,none⟩=some (.slice x50.a x50.n x50.c) /\ 
 (NB x50.a fun b51 o52=>((0<=(x48:Int)/\(x48:Int)<(x50.n:Nat)) /\ 
 (∃x53:Sl,hc h49 ⟨b51,o52+Int.toNat x48*1,none⟩=some (.slice x53.a x53.n x53.c) /\ 
 (∃x54:Bool,hc h49 ⟨b7,1,none⟩=some (.bool x54) /\ 
 (sB x54 
  ((∃x55:Sl,hc h49 ⟨bo,1,none⟩=some (.slice x55.a x55.n x55.c) /\ 
  (((0:Int)<=(0:Int)/\(0:Int)<=((x53.n:Int):Int)/\((x53.n:Int):Int)<=((x53.n:Int):Int)/\((x53.n:Int):Int)<=(x53.c:Nat)) /\ 
  (∃x56:Int,hc h49 ⟨b7,3,none⟩=some (.int .i64 x56) /\ 
  (∀h57:Heap,h57=h49.push (.cells ⟨[.int .i64 x56]⟩ 3) -> 
  (Sm [⟨bo,1,none⟩] h49 h57 /\ 
  (App Pz 25 25 (.slice (subA x53.a (Int.toNat 0) (Int.toNat (x53.n:Int)) 1) (Int.toNat (x53.n:Int)-Int.toNat 0) (Int.toNat (x53.n:Int)-Int.toNat 0)) (.slice (some ⟨h49.size,0,none⟩) 1 1) h57 fun s58 h59=>
  (Sm [⟨bo,1,none⟩] h57 h59 /\ 
  (NB x55.a fun b60 o61=>((0<=(x48:Int)/\(x48:Int)<(x55.n:Nat)) /\ 
  (okAt h59 ⟨b60,o61+Int.toNat x48*1,none⟩ 1/\∀h62:Heap,h62=hputs h59 ⟨b60,o61+Int.toNat x48*1,none⟩ 0 [.slice s58.a s58.n s58.c] -> 
  (∃x63:Sl,∃x64:Sl,atC h62 ⟨bo,0,none⟩ [.slice x63.a x63.n x63.c,.slice x64.a x64.n x64.c] /\ 
  (okAt h62 ⟨b6,0,none⟩ 2/\∀h65:Heap,h65=hputs h62 ⟨b6,0,none⟩ 0 [.slice x63.a x63.n x63.c,.slice x64.a x64.n x64.c] -> 
  (∃x66:Sl,∃x67:Sl,atC h65 ⟨b6,0,none⟩ [.slice x66.a x66.n x66.c,.slice x67.a x67.n x67.c] /\ 
  DoE (S.set a x.t) B (bxI s.n a x) x q h (.agg ⟨[.slice x66.a x66.n x66.c,.slice x67.a x67.n x67.c]⟩) h65)))))))))))))) 
  ((∃x68:Sl,hc h49 ⟨bo,1,none⟩=some (.slice x68.a x68.n x68.c) /\ 
  (((0:Int)<=(1:Int)/\(1:Int)<=((x53.n:Nat):Int)/\((x53.n:Nat):Int)<=(x53.c:Nat)) /\ 
  (NB x68.a fun b69 o70=>((0<=(x48:Int)/\(x48:Int)<(x68.n:Nat)) /\ 
  (okAt h49 ⟨b69,o70+Int.toNat x48*1,none⟩ 1/\∀h71:Heap,h71=hputs h49 ⟨b69,o70+Int.toNat x48*1,none⟩ 0 [.slice (subA x53.a (Int.toNat 1) x53.c 1) (Int.toNat (x53.n:Nat)-Int.toNat 1) (x53.c-Int.toNat 1)] -> 
  (∃x72:Sl,∃x73:Sl,atC h71 ⟨bo,0,none⟩ [.slice x72.a x72.n x72.c,.slice x73.a x73.n x73.c] /\ 
  (okAt h71 ⟨b6,0,none⟩ 2/\∀h74:Heap,h74=hputs h71 ⟨b6,0,none⟩ 0 [.slice x72.a x72.n x72.c,.slice x73.a x73.n x73.c] -> 
  (∃x75:Sl,∃x76:Sl,atC h74 ⟨b6,0,none⟩ [.slice x75.a x75.n x75.c,.slice x76.a x76.n x76.c] /\ 
  DoE (S.set a x.t) B (bxI s.n a x) x q h (.agg ⟨[.slice x75.a x75.n x75.c,.slice x76.a x76.n x76.c]⟩) h74))))))))))))))))))))))))):=by
 have h36:=sq6 h6;have hj:=bxI_lt (n:=L.length) (x:=x) ha hx0 hx1;have hsn:=hC.s.ln;have hbn:=hC.b.ln;have hcsn:=(hs.rows 1 (s:=cs) (cs:=inC) rfl (by omega)).ln;have hcbn:=(hs.rows 2 (s:=cb) (cs:=Bx.cs) rfl (by omega)).ln;obtain⟨osl,hat,-⟩:=hE.e;have hqi:=hC.i q (Yb gq);have hqn:=hqi.ln;have hqc:=hqi.cap;refine⟨cs,hs.rd 0 rfl (i:=0) rfl,(a:Int),hs.rd 5 rfl (i:=0) rfl,x.t,hs.rd 3 rfl (i:=4) rfl,?_⟩;refine hs.set 1 (s:=cs) (cs:=inC) (x:=(a:Int)) rfl (by omega) (by omega) (by omega) x.t rfl rfl (fun b1 o1 h39 hs=>?_) rfl;rw[Ys] at hs;refine⟨(a:Int),hs.rd 5 rfl (i:=0) rfl,x.f,x.send,x.peer,x.label,x.t,x.ag,hs.at 3 rfl (o:=0) (n:=6) rfl,?_⟩;refine (box69e eb a s x h39 (atC_ext hs.ext hat).hd (by omega) (by omega) hx0 (by omega)).mono ?_;rintro _ h49 ⟨rfl,E⟩;have hs:=hs.step E;rw[hn];refine⟨_,rfl,sb,hs.rd 6 rfl (i:=1) rfl,?_⟩;generalize hjj:bxI L.length a x=j at *;refine (hC.b.rw.ext hs.ext).nbI (by omega) (by omega) fun b51 o52 q' gq' t=>?_;rw[Ys,gq] at gq';cases gq';refine⟨q.s,t.hd,x.send,hs.rd 3 rfl (i:=1) rfl,sB_intro (fun d=>?_) (fun d=>?_)⟩
 .have hnl:newL x q.l=q.l++[x.label]:=by unfold newL;rw[if_pos d]
  refine⟨cb,hs.rd 0 rfl (i:=1) rfl,⟨by omega,by omega,by omega,by omega⟩,x.label,hs.rd 3 rfl (i:=3) rfl,?_⟩;refine hs.newbE fun h57 E57 hs=>⟨E57.sm,?_⟩;have e0:subA q.s.a (Int.toNat 0) (Int.toNat (q.s.n:Int)) 1=q.s.a:=subA_zero _ _ _;rw[e0];refine App_full app25e (y:=⟨q.s.a,q.s.n,q.s.n⟩) (rows:=q.l.map inC) (m:=1) (news:=inC x.label) (show Rw h57 1 ⟨q.s.a,q.s.n,q.s.n⟩ (q.l.map inC) from (hqi.rw.ext hs.ext)) (inrows _) rfl (fun e=>(hqi.nil e).1) (hs.at 0 rfl (n:=1) rfl) rfl (by omega) rfl (by show (q.s.n+1)*8<=_;omega) (by show q.s.n+1<=_;simp only[maxLen];omega) fun u h59 hun hou E59=>?_;have hrows:(q.l.map inC).flatten++inC x.label=((newL x q.l).map inC).flatten:=by rw[hnl,Ym,List.flatten_append];rfl
  rw[hrows] at hou;have hs:=hs.gift E59 hou (inrows _);refine⟨E59.sm,?_⟩;refine hs.set 4 (s:=cb) (cs:=Bx.cs) (x:=(j:Int)) rfl (by omega) (by omega) (by omega) (⟨u,newL x q.l⟩:Bx) rfl rfl (fun b2 o2 h62 hs=>?_) rfl;rw[Ys] at hs;refine⟨cs,cb,hs.at 2 rfl (o:=0) (n:=2) rfl,?_⟩;refine hs.put 6 rfl (o:=0) (vs:=[.slice cs.a cs.n cs.c,.slice cb.a cb.n cb.c]) rfl (show 2<=2 by decide) fun h65 hs=>?_;refine⟨cs,cb,hs.at 6 rfl (o:=0) (n:=2) rfl,cs,cb,u,_,rfl,hs,?_,?_,fun _=>Yx,fun e=>by rw[d] at e;cases e⟩
  .exact Yn _ (Yn _ (Yn _ Yx))
  .exact Yn _ (Yn _ (Yn _ (Yn _ Yx)))
 .have hnl:newL x q.l=q.l.tail:=by unfold newL;rw[if_neg (by rw[d];decide)]
  have h1q:=hq1 d;refine⟨cb,hs.rd 0 rfl (i:=1) rfl,⟨by omega,by omega,by omega⟩,?_⟩;refine hs.set 2 (s:=cb) (cs:=Bx.cs) (x:=(j:Int)) rfl (by omega) (by omega) (by omega) (⟨⟨subA q.s.a (Int.toNat 1) q.s.c 1,Int.toNat (q.s.n:Nat)-Int.toNat 1,q.s.c-Int.toNat 1⟩,newL x q.l⟩:Bx) rfl rfl (fun b2 o2 h71 hs=>?_) rfl;rw[Ys] at hs;refine⟨cs,cb,hs.at 0 rfl (o:=0) (n:=2) rfl,?_⟩;refine hs.put 4 rfl (o:=0) (vs:=[.slice cs.a cs.n cs.c,.slice cb.a cb.n cb.c]) rfl (show 2<=2 by decide) fun h74 hs=>?_;refine⟨cs,cb,hs.at 4 rfl (o:=0) (n:=2) rfl,cs,cb,_,_,rfl,hs,?_,?_,fun e=>(by rw[d] at e;cases e),fun _=>rfl⟩
  .exact Yn _ Yx
  .exact Yn _ (Yn _ Yx)
theorem It.apart.symm {i j:It} (h:It.apart i j):It.apart j i:=fun b hb hc=>h b hc hb
theorem St.picks {h0 h:Heap} {L L':List It} (hs:St h0 h L) (ks:List Nat) (nd:ks.Nodup) (hL:L'.map some=ks.map fun k=>L[k]?):St h0 h L':=by
 have hlen:L'.length=ks.length:=by have:=congrArg List.length hL;rwa [Yc,Yc] at this
 have hget:∀(j:Nat) (hj:j<L'.length) (hk:j<ks.length),L[ks[j]]?=some L'[j]:=fun j hj hk=>by
  have h1:(L'.map some)[j]?=some (some L'[j]):=by rw[Yd,Yi hj];rfl
  rw[hL,Yd,Yi hk] at h1;exact Yyp h1
 refine⟨hs.ext,fun i hi=>?_,?_⟩
 .obtain⟨j,hj,rfl⟩:=List.mem_iff_getElem.1 hi;exact hs.ok _ (Yb (hget j hj (by omega)))
 .rw[List.pairwise_iff_getElem];intro a b ha hb hab;have h1:=hget a ha (by omega);have h2:=hget b hb (by omega);have hne:ks[a]'(by omega)≠ks[b]'(by omega):=List.pairwise_iff_getElem.1 nd a b (by omega) (by omega) hab;obtain⟨l1,e1⟩:=Ya.1 h1;obtain⟨l2,e2⟩:=Ya.1 h2;have hp:=List.pairwise_iff_getElem.1 hs.ap;rcases Nat.lt_or_gt_of_ne hne with h | h
  .have:=hp _ _ l1 l2 h
   rwa [e1,e2] at this
  .have:=hp _ _ l2 l1 h;rw[e1,e2] at this;exact this.symm
theorem bxrows28 (B:List Bx):∀r∈B.map Bx.cs,r.length=1:=fun r hr=>by obtain⟨x,_,rfl⟩:=Yp.1 hr;rfl
theorem clone74 (B:List Bx) (s:Sl) (h:Heap) (hr:RL h 1 s Bx.cs B):Fn Pz 127 #[.slice s.a s.n s.c] h fun v h'=>∃t:Sl,v=.slice t.a t.n t.c/\St h h' [.sl t 25 1 (B.map Bx.cs)]:=by
 apply vc127 s;unfold W127;have hn:=hr.ln;have hsm:=hr.sm;refine sB_intro (fun c=>?_) (fun c=>?_)
 .have h0:=hr.nil (Option.isNone_iff_eq_none.1 c);have:B=[]:=List.eq_nil_of_length_eq_zero (by omega);subst this;exact⟨⟨none,0,0⟩,rfl,(St.refl h).nil_ 25 1⟩
 .refine (St.refl h).newb fun h1 hs=>?_;have hs:=hs.blkS 0 1 [] rfl (fun r hr=>by cases hr) rfl (Nat.zero_le _);refine hs.appRw 0 (s:=⟨some ⟨h.size,0,none⟩,0,0⟩) (rows:=[]) (y:=s) rfl app26e (hr.rw.ext hs.ext) (bxrows28 B) hr.nil (flat_oneB (fun _=>rfl) _) (by show (0+s.n)*24<=_;omega) (by show 0+s.n<=_;simp only[maxLen];omega) fun r h3 _ hs=>?_;exact⟨r,rfl,hs⟩
theorem do37 (L:List MR) (s:Sl) (k:Int) (eb:Nat) (ss sb:Sl) (S:List Int) (B:List Bx) (a b:Nat) (m:Mch) (x:Mv) (q:Bx) (h:Heap) (hS:SyI h s L) (hE:EngR h eb s k L) (hC:CfI h ss sb S B) (hP:ProS (L.map MR.m) k S (B.map Bx.l))
  (gm:(L.map MR.m)[a]?=some m) (gx:m.mv[b]?=some x) (hc:canS L.length k S (B.map Bx.l) a x=0) (gq:B[bxI L.length a x]?=some q) :
  Fn Pz 65 #[.pointer (some ⟨eb,0,none⟩),.agg ⟨[.slice ss.a ss.n ss.c,.slice sb.a sb.n sb.c]⟩,.agg ⟨[.int .i64 (a:Int),.int .i64 (b:Int)]⟩] h (DoE (S.set a x.t) B (bxI s.n a x) x q h):=by
 apply vc65 ⟨eb,0,none⟩ ss sb (a:Int) (b:Int);unfold W65 V65a V65b;have hn:=hS.r.ln;have hlm:(L.map MR.m).length=L.length:=Yc _;have hbm:(B.map Bx.l).length=B.length:=Yc _;have hV6:=hP.v.n;rw[hlm] at hV6;have hSl:S.length=L.length:=by rw[hP.p.s,hlm]
 have hBl:B.length=L.length*L.length:=by rw[<-hbm,hP.p.b,hlm]
 have ha:a<L.length:=by have:=(Ya.1 gm).1;omega
 have hxm:=Yb gx;have hvm:=hP.v.m a m gm;have hx0:=(hvm.2.1.n.mv x hxm).2.2.2.2.1;have hx1:=hvm.2.2 x hxm;rw[hlm] at hx1;have hql:(B.map Bx.l)[bxI L.length a x]?=some q.l:=by rw[Yd,gq];rfl
 have hq4:q.l.length<=4:=by have:=(hP.p.bx _ q.l hql).1;have:=hP.c;omega
 have hqd:(B.map Bx.l).getD (bxI L.length a x) []=q.l:=getD_map gq;have hq1:x.send=false->1<=q.l.length:=fun d=>by
  obtain⟨r,hr⟩:=(can_parts.1 hc).2.2 d;rw[hqd] at hr;rw[hr,Yyj];omega
 obtain⟨osl,hat,-⟩:=hE.e;rw[Yd] at gm;cases gy:L[a]? with
 | none=>rw[gy] at gm;cases gm
 | some y=>
  rw[gy] at gm;cases gm;have hyi:=hS.i y (Yb gy);have hgl:=hyi.pm.ln;have hbl:=(Ya.1 gx).1;refine (St.refl h).newb fun h5 hs=>?_;refine hs.newb fun h6 hs=>?_;refine hs.newb fun h7 hs=>?_;refine⟨s,(atC_ext hs.ext hat).hd,(a:Int),hs.rd 1 rfl (i:=0) rfl,?_⟩;refine (hS.r.rw.ext hs.ext).nbI (by omega) (by omega) fun b10 o11 y' gy' t=>?_;rw[Ys] at gy';replace gy':L[a]?=some y':=gy';rw[gy] at gy';cases gy';refine⟨y.g,t.nth 4 rfl,(b:Int),hs.rd 1 rfl (i:=1) rfl,?_⟩;refine (hyi.pm.rw.ext hs.ext).nbI (by omega) (by omega) fun b14 o15 x' gx' t2=>?_;rw[Ys] at gx';replace gx':y.m.mv[b]?=some x':=gx';rw[gx] at gx';cases gx';refine⟨_,_,_,_,_,_,t2,?_⟩;refine hs.newbE fun h22 E22 hs=>⟨E22.sm,?_⟩;refine hs.put 0 rfl (o:=0) (vs:=x.cs) rfl (show 6<=6 by decide) fun h23 hs=>?_;refine⟨ss,hs.rd 3 rfl (i:=0) rfl,sb,hs.rd 3 rfl (i:=1) rfl,?_⟩;have cS:=fun h' (E:Ext h23 h')=>clone92 S ss h' (hC.s.ext (hs.ext.trans E));have cB:=fun h' (E:Ext h23 h')=>clone74 B sb h' (hC.b.ext (hs.ext.trans E));have E:Ext h23 h23:=.rfl'
  repeat' first
   | (refine (cS _ E).mono ?_;rintro _ _ ⟨cs,rfl,hsS⟩;have hs:=hs.join hsS;have E:=E.trans hsS.ext;have E1:=hsS.ext;refine⟨cs,rfl,?_⟩)
   | (refine (cB _ E).mono ?_;rintro _ _ ⟨cb,rfl,hsB⟩;have hs:=hs.join hsB;have E:=E.trans hsB.ext;have E1:=hsB.ext;refine⟨cb,rfl,?_⟩)
   | (refine hs.newbE fun hh Eh hs=>⟨Eh.sm,?_⟩;have E:=E.trans Eh)
   | (refine⟨E1.sm,?_⟩)
   | (refine hs.put 0 rfl (o:=0) (vs:=[.slice cs.a cs.n cs.c,.slice cb.a cb.n cb.c]) rfl (show 2<=2 by decide) fun h33 hs=>?_)
   | (exact do_tail L s k eb ss sb cs cb S B a b x q h _ _ _ _ _ hn hV6.2 ha hx0 hx1 hE hC hSl hBl gq hq4 hq1 (hs.picks [0,5,6,1,2,3,4] (by decide) rfl))
   | (exact do_tail L s k eb ss sb cs cb S B a b x q h _ _ _ _ _ hn hV6.2 ha hx0 hx1 hE hC hSl hBl gq hq4 hq1 (hs.picks [0,6,5,1,2,3,4] (by decide) rfl))
   | (refine And.intro ?_ ?_)
def Sta (A:List It) (P:Heap->Prop):Prop:=∀(h0 h:Heap) (A':List It),(∀i∈A,i∈A')->St h0 h A'->P h
theorem Sta.mono {A A':List It} {P:Heap->Prop} (hA:Sta A P) (h:∀i∈A,i∈A'):Sta A' P:=fun h0 hh A2 h2 hs=>hA h0 hh A2 (fun i hi=>h2 i (h i hi)) hs
theorem Sta.at {A:List It} {P:Heap->Prop} (hA:Sta A P) {h0 h:Heap} {A':List It} (hs:St h0 h A') (hi:∀i∈A,i∈A'):P h:=hA h0 h A' hi hs
theorem St.rlm {h0 h:Heap} {L:List It} (hs:St h0 h L) {s:Sl} {e n:Nat} {α:Type} {cs:α->List Value} {X:List α} (hk:It.sl s e n (X.map cs)∈L) (hn:0<n) (hX:X.length<=1048576):RL h n s cs X:=by
 obtain⟨k,hk⟩:=Yf.1 hk;obtain⟨h1,h2,h3⟩:=hs.len k hk hn;exact⟨hs.rows k hk hn,h2,h3,hX⟩
def CfN (A:List It) (ss sb:Sl) (S:List Int) (B:List Bx):Prop:=Sta A fun h=>CfI h ss sb S B
theorem RL.tail1 {h:Heap} {s:Sl} {l:List Int} (hr:RL h 1 s inC l) (hl:1<=l.length):RL h 1 ⟨subA s.a 1 s.c 1,s.n-1,s.c-1⟩ inC l.tail:=by
 have hn:=hr.ln;have hc:=hr.cap;have h1:=M.intrw hr.rw hc (i:=1) (by omega);rw[List.drop_one] at h1;exact⟨h1,by show s.n-1<=s.c-1;omega,fun e=>M.subA_nil hr.nil e,by have:=hr.sm;rw[List.length_tail];omega⟩
theorem do_next {A A1:List It} {ss sb ts tb u:Sl} {S S':List Int} {B:List Bx} {j:Nat} {x:Mv} {q:Bx} (hC:CfN A ss sb S B) (hq:B[j]?=some q) (hS':S'.length<=1048576) (hB:B.length<=1048576) (hq4:q.l.length<=4) (hq1:x.send=false->1<=q.l.length)
  (h1:It.sl ts 3 1 (S'.map inC)∈A1) (h2:It.sl tb 25 1 ((B.set j ⟨u,newL x q.l⟩).map Bx.cs)∈A1) (h3:x.send=true->It.sl u 3 1 ((newL x q.l).map inC)∈A1) (h4:x.send=false->u=⟨subA q.s.a 1 q.s.c 1,q.s.n-1,q.s.c-1⟩) :
  CfN (A++A1) ts tb S' (B.set j ⟨u,newL x q.l⟩):=by
 intro h0 h A' hA hs;have hC:=hC h0 h A' (fun i hi=>hA i (List.mem_append_left _ hi)) hs;have hA1:∀i∈A1,i∈A':=fun i hi=>hA i (List.mem_append_right _ hi);have hn:(newL x q.l).length<=5:=by
  unfold newL;split
  .rw[Yh,Yv];omega
  .rw[List.length_tail];omega
 refine⟨hs.rlm (hA1 _ h1) (by omega) hS',hs.rlm (hA1 _ h2) (by omega) (by rw[Yyh];exact hB),fun z hz=>?_⟩;rcases List.mem_or_eq_of_mem_set hz with hz | rfl
 .exact hC.i z hz
 .cases hd:x.send with
  | true=>exact hs.rlm (hA1 _ (h3 hd)) (by omega) (by show (newL x q.l).length<=_;omega)
  | false=>
   have e:newL x q.l=q.l.tail:=by unfold newL;rw[if_neg (by rw[hd];decide)]
   show RL h 1 u inC (newL x q.l);rw[h4 hd,e];exact (hC.i q (Yb hq)).tail1 (hq1 hd)
theorem St.cut {h0 h:Heap} {L:List It} (hs:St h0 h L) (k:Nat) {s:Sl} {e:TypeId} {n:Nat} {rows:List (List Value)} (hk:L[k]?=some (.sl s e n rows)) (hn:0<n) (i:Nat) (hi:i<=s.n):St h0 h (L.set k (.sl ⟨subA s.a (Int.toNat 0) s.c n,Int.toNat (i:Int)-Int.toNat 0,s.c-Int.toNat 0⟩ e n (rows.take i))):=by
 have e0:subA s.a (Int.toNat 0) s.c n=s.a:=subA_zero _ _ _;rw[e0,show Int.toNat (i:Int)-Int.toNat 0=i from rfl,show s.c-Int.toNat 0=s.c from rfl];have hget:=hs.get hk;have hln:=(hs.rw k hk hn).1;have hrl:∀r∈rows.take i,r.length=n:=fun r hr=>hget.2 r (List.mem_of_mem_take hr);have hfl:(rows.take i).flatten.length=i*n:=by rw[flatten_len _ hrl,Yu,Nat.min_eq_left (by omega)]
 refine hs.turn hk (Yyt _) (j:=.sl ⟨s.a,i,s.c⟩ e n (rows.take i)) ⟨⟨hfl,?_⟩,hrl⟩ (fun b hb=>.inr hb) (fun _ _ _=>rfl);rcases hget.1.2 with ⟨ha,hn0,hc0⟩ | ⟨g,cur,ha,hb0,hh,hnc,hcm,hsz,htk⟩
 .exact .inl ⟨ha,by show i=0;omega,hc0⟩
 .refine .inr ⟨g,cur,ha,hb0,hh,by show i<=s.c;omega,hcm,hsz,?_⟩;have hm:i*n<=s.n*n:=Nat.mul_le_mul_right _ hi;have h3:(rows.take i).flatten=rows.flatten.take (i*n):=by
   have h5:rows=rows.take i++rows.drop i:=(List.take_append_drop i rows).symm;rw[congrArg List.flatten h5,List.flatten_append,Yyq (by rw[hfl];exact Yyt _)];rw[Yj (l:=(rows.take i).flatten) (by rw[hfl];exact Yyt _)]
  show cur.toList.take (i*n)=_;rw[h3,<-htk,List.take_take,Nat.min_eq_left (by omega)]
def Blk (peer:Int) (x:Mv):Prop:=x.send=false/\x.peer=peer
def medB (m:Mch) (peer:Int):List Ed:=(m.mv.filter fun x=>!(!x.send&&x.peer==peer)).map fun x=>⟨x.f,0,0,0,x.t,false⟩
theorem medB_mem {m:Mch} {peer:Int} {x:Mv} (hx:x∈m.mv) (hb:¬Blk peer x):(⟨x.f,0,0,0,x.t,false⟩:Ed)∈medB m peer:=by
 refine Yp.2 ⟨x,List.mem_filter.2 ⟨hx,?_⟩,rfl⟩;cases h:x.send with
 | true=>rfl
 | false=>
  have:x.peer≠peer:=fun e=>hb ⟨h,e⟩;simp[this]
theorem medB_q {m:Mch} {peer:Int} {n:Nat} {b:Int}:b∈quietL (medB m peer) (-1) n ↔ ∃x∈m.mv,¬Blk peer x/\x.f=(n:Int)/\x.t=b:=by
 rw[quietL_mem];constructor
 .rintro⟨e,he,_,hf,ht⟩;obtain⟨x,hx,rfl⟩:=Yp.1 he;obtain⟨h1,h2⟩:=List.mem_filter.1 hx;exact⟨x,h1,fun hc=>by rw[hc.1,hc.2] at h2;simp at h2,hf,ht⟩
 .rintro⟨x,hx,hb,hf,ht⟩;exact⟨_,medB_mem hx hb,rfl,hf,ht⟩
theorem medB_step {m:Mch} {peer s v:Int} {x:Mv} (h:Qr (medB m peer) (-1) [s] v) (hx:x∈m.mv) (hb:¬Blk peer x) (hf:x.f=v):Qr (medB m peer) (-1) [s] x.t:=
 .step h ⟨_,medB_mem hx hb,rfl,hf,rfl⟩
def ExpM (m:Mch) (s peer label:Int):Prop:=∃v,Qr (medB m peer) (-1) [s] v/\∃x∈m.mv,x.f=v/\Blk peer x/\x.label=label
def DoneV (m:Mch) (peer label:Int) (T:List Int) (x:Mv):Prop:=(Blk peer x->x.label≠label)/\(¬Blk peer x->x.t∈T)
def DoneM (m:Mch) (peer label:Int) (T:List Int) (v:Int):Prop:=∀x∈m.mv,x.f=v->DoneV m peer label T x
theorem DoneV.mono {m:Mch} {peer label:Int} {T T':List Int} {x:Mv} (h:DoneV m peer label T x) (hT:∀z∈T,z∈T'):DoneV m peer label T' x:=⟨h.1,fun hn=>hT _ (h.2 hn)⟩
theorem DoneM.mono {m:Mch} {peer label:Int} {T T':List Int} {v:Int} (h:DoneM m peer label T v) (hT:∀z∈T,z∈T'):DoneM m peer label T' v:=fun x hx hf=>(h x hx hf).mono hT
theorem exp_end {m:Mch} {s peer label:Int} {n:Nat} {D:List Bool} {T:List Int} (hC:CL (medB m peer) (-1) n [s] D T) (hsT:s∈T) (hd:∀v∈T,DoneM m peer label T v):¬ExpM m s peer label:=by
 rintro⟨v,hq,x,hx,hf,h1,h3⟩;have hv:=(hC.end_ (fun y hy=>by rw[Ye.1 hy];exact hsT) (fun v hv b hb=>by
  obtain⟨x,hx,hb',hf,rfl⟩:=medB_q.1 hb;exact (hd v hv x hx (by rw[hf];exact Int.toNat_of_nonneg ((hC.mem v).1 hv).1)).2 hb') v).2 hq
 exact (hd v hv x hx hf).1 h1 h3
end Go.VC
end

section
namespace Go.VC
open Go.Proofs Go.LexS Go.Maps
structure Wt where
 r:Int
 s:Int
 p:Int
 l:Int
deriving DecidableEq
def Wt.cs (w:Wt):List Value:=[.int .i64 w.r,.int .i64 w.s,.int .i64 w.p,.int .i64 w.l]
def Wt.v (w:Wt):Value:=.agg ⟨w.cs⟩
def Wt.ok (w:Wt):Prop:=inR w.r/\inR w.s/\inR w.p/\inR w.l
theorem s156 : ∃ fs, Pz.underlying 202 = some (.struct fs) /\ fs.all (·.name != "_") = true /\ fs.toList.map (fun f => (f.type, f.offset)) = [(3, 0), (3, 1), (3, 2), (3, 3)] := su (by kernel_rfl)
theorem c156:Pz.cellsOf 202=4:=by kernel_rfl
theorem key_wt (w:Wt) (h:w.ok):∃l,keyOf Pz 202 w.v=some l:=by
 obtain⟨fs,hu,hn,hf⟩:=s156;obtain⟨h1,h2,h3,h4⟩:=h;have hsz:∃n,Pz.types.size+1=n+3:=⟨Pz.types.size-2,by have:2<=Pz.types.size:=Yyn (by kernel_rfl);omega⟩;obtain⟨n,hsz⟩:=hsz;have hl:Pz.keyLits (n+3) 202 w.cs=some [[.int .i64 w.r],[.int .i64 w.s],[.int .i64 w.p],[.int .i64 w.l]].flatten:=by
  refine kl_struct hu (by rw[c156];rfl) hn hf ?_;simp only[List.mapM_cons,List.mapM_nil,c3,Wt.cs,List.drop_zero,List.take_succ_cons,Yyk,List.drop_succ_cons,kl_int u3 h1.wf,kl_int u3 h2.wf,kl_int u3 h3.wf,kl_int u3 h4.wf];rfl
 have hkt:Pz.keyType 202=true:=by kernel_rfl
 have hfo:w.v.formed Pz 202=true:=by
  unfold Wt.v Value.formed;simp only[hu,c156];rfl
 have e:keyOf Pz 202 w.v=(Pz.keyLits (n+3) 202 w.cs).map fun ls=>.string (keyBytes ls):=by
  unfold keyOf;simp only[hu,hkt,hfo,Bool.and_self,if_true,hsz];rfl
 rw[e,hl];exact⟨_,rfl⟩
theorem Wt.v_inj (a b:Wt) (h:a.v=b.v):a=b:=by
 obtain⟨a1,a2,a3,a4⟩:=a;obtain⟨b1,b2,b3,b4⟩:=b;unfold Wt.v Wt.cs at h;simp at h;obtain⟨rfl,rfl,rfl,rfl⟩:=h;rfl
theorem M144:MT Pz 193 202 4 Wt.v Wt.ok (.bool false) where
 K:=Keyed.of_law (deep_law_laid laid25 (m:=2) (by omega) (Yyn (by kernel_rfl)) (by kernel_rfl) (by kernel_rfl))
 ht:=by kernel_rfl
 key:=key_wt
 inj:=Wt.v_inj
 z:=fun w=>by kernel_rfl
structure WtOk (L:List MR) (K:List (Wt × Bool)):Prop where
 nd:(K.map Prod.fst).Nodup
 ok:∀q∈K,q.1.ok/\∃(p:Nat) (y:MR),q.1.r=(p:Int)/\L[p]?=some y/\(q.2=true ↔ ExpM y.m q.1.s q.1.p q.1.l)
def wtC (q:Wt × Bool):Value × Value:=(q.1.v,.bool q.2)
theorem mgetE_mem {α β:Type} [DecidableEq α] {a:α} {b:β}:∀ {l:List (α × β)},mget l a=some b->(a,b)∈l
 | [],h=>by cases h
 | (x,y)::r,h=>by
  unfold mget at h;split at h
  .rename_i e;cases h;first
    | (subst e;exact Yx)
    | (rw[<-e];exact Yx)
  .exact Yn _ (mgetE_mem h)
theorem mget_nomem {α β:Type} [DecidableEq α] {a:α}:∀ {l:List (α × β)},mget l a=none->∀q∈l,q.1≠a
 | [],_,q,hq=>by cases hq
 | (x,y)::r,h,q,hq=>by
  unfold mget at h;split at h
  .cases h
  .rename_i e;rcases Yr.1 hq with rfl | hq
   .exact fun e2=>e (by first | exact e2 | exact e2.symm)
   .exact mget_nomem h q hq
theorem WtOk.set {L:List MR} {K:List (Wt × Bool)} (hK:WtOk L K) {w:Wt} {b:Bool} (hn:mget K w=none) (hw:w.ok) {p:Nat} {y:MR} (h1:w.r=(p:Int)) (h2:L[p]?=some y) (h3:b=true ↔ ExpM y.m w.s w.p w.l):WtOk L (mset K w b):=by
 refine⟨mset_nodup w b K hK.nd,fun q hq=>?_⟩;rw[mset_none (mget_nomem hn)] at hq;rcases Yk.1 hq with hq | hq
 .exact hK.ok q hq
 .rw[Ye.1 hq];exact⟨hw,p,y,h1,h2,h3⟩
end Go.VC
end

section
namespace Go.VC
open Go.Proofs Go.LexS
structure EngX (h:Heap) (eb wb:Nat) (s:Sl) (k:Int) (L:List MR) (osl:Sl) (os:Nat->Sl) (qs:Nat->Nat->Sl):Prop where
 e:atC h ⟨eb,0,none⟩ [.slice s.a s.n s.c,.int .i64 k,.slice osl.a osl.n osl.c,.map (some wb)]
 o:Rw h 1 osl ((List.range L.length).map fun p=>slR (os p))
 p:∀(p:Nat) x,L[p]?=some x->Rw h 1 (os p) ((List.range x.m.n.toNat).map fun s=>slR (qs p s))
 q:∀(p:Nat) x,L[p]?=some x->∀s,s<x.m.n.toNat->Rw h 1 (qs p s) ((natI (mvS x.m (s:Int))).map inC)
theorem EngX.r {h:Heap} {eb wb:Nat} {s:Sl} {k:Int} {L:List MR} {osl:Sl} {os:Nat->Sl} {qs:Nat->Nat->Sl} (hE:EngX h eb wb s k L osl os qs):EngR h eb s k L:=
 ⟨osl,hE.e.sub0 3 rfl,os,qs,hE.o,fun p x hx=>⟨hE.p p x hx,hE.q p x hx⟩⟩
theorem mem1 {A:List It} {a:It}:∀i∈A,i∈a::A:=fun _ hi=>Yn _ hi
theorem mem2 {A:List It} {a b:It}:∀i∈A,i∈a::b::A:=fun _ hi=>Yn _ (Yn _ hi)
theorem mem5 {A:List It} {a b c d e:It}:∀i∈A,i∈a::b::c::d::e::A:=fun _ hi=>Yn _ (Yn _ (Yn _ (Yn _ (Yn _ hi))))
theorem expected70 (L:List MR) (s:Sl) (k:Int) (eb wb p:Nat) (y:MR) (z peer label:Int) (K:List (Wt × Bool)) (osl:Sl) (os:Nat->Sl) (qs:Nat->Nat->Sl) {h0 h:Heap} {A:List It} (hs:St h0 h (.mp wb (K.map wtC)::A)) (hS:SyI h0 s L) (hV:SysV (L.map MR.m))
  (hE:Sta A fun h=>EngX h eb wb s k L osl os qs) (hK:WtOk L K) (gy:L[p]?=some y) (hz:0<=z/\z<y.m.n) (hpe:inR peer) (hla:inR label) :
  Fn Pz 123 #[.pointer (some ⟨eb,0,none⟩),.agg ⟨[.int .i64 (p:Int),.int .i64 z,.int .i64 peer,.int .i64 label]⟩] h fun v h'=>∃(b:Bool) (K':List (Wt × Bool)),v=.bool b/\(b=true ↔ ExpM y.m z peer label)/\WtOk L K'/\St h0 h' (.mp wb (K'.map wtC)::A):=by
 apply vc123 ⟨eb,0,none⟩ (p:Int) z peer label;unfold W123 V123b V123a;have hn:=hS.r.ln;have hsm:=hS.r.sm;have gm:(L.map MR.m)[p]?=some y.m:=by rw[Yd,gy];rfl
 have hpl:=(Ya.1 gy).1;have hvm:=hV.m p y.m gm;have hN:=hvm.2.1.n;have hN1:=hN.n;have hml:=hN.ml;have hyi:=hS.i y (Yb gy);have hgl:=hyi.pm.ln;have hwok:(⟨(p:Int),z,peer,label⟩:Wt).ok:=⟨show inR (p:Int) from ⟨by omega,by omega⟩,show inR z from ⟨by omega,by omega⟩,hpe,hla⟩;have hKok:∀q∈K,q.1.ok:=fun q hq=>(hK.ok q hq).1;refine hs.newb fun h5 hs=>?_;have hX:=hE.at hs mem2;refine⟨some wb,hX.e.nth 3 rfl,(p:Int),z,peer,label,hs.at 0 rfl (o:=0) (n:=4) rfl,?_⟩;refine hs.mlookOk M144 (cv:=Value.bool) (l:=K) 1 rfl hKok hK.nd (a:=⟨(p:Int),z,peer,label⟩) hwok ?_;cases hg:mget K ⟨(p:Int),z,peer,label⟩ with
 | some b=>
  refine⟨b,true,rfl,sB_t rfl ⟨b,K,rfl,?_,hK,hs.drop 1⟩⟩;obtain⟨_,p',y',e1,e2,e3⟩:=hK.ok _ (mget_mem hg);have:p'=p:=by dsimp only at e1;omega
  subst this;rw[gy] at e2;cases e2;exact e3
 | none=>
  refine⟨false,false,rfl,sB_f rfl ?_⟩;refine⟨s,hX.e.hd,(p:Int),hs.rd 0 rfl (i:=0) rfl,?_⟩;refine (hS.r.rw.ext hs.ext).nbI (by omega) (by omega) fun b17 o18 y' gy' t=>?_;rw[Ys] at gy';replace gy':L[p]?=some y':=gy';rw[gy] at gy';cases gy';refine⟨_,_,_,_,_,_,t,?_⟩;refine hs.newbE fun h25 E25 hs=>⟨E25.sm,?_⟩;refine hs.put 0 rfl (o:=0) (vs:=MR.cs y) rfl (show 6<=6 by decide) fun h26 hs=>?_;refine⟨y.m.n,hs.rd 0 rfl (i:=1) rfl,⟨by omega,by omega,by omega⟩,?_⟩;rw[made4];refine hs.newb fun h28 hs=>?_;refine⟨z,hs.rd 2 rfl (i:=1) rfl,⟨by omega,by omega⟩,?_⟩;rw[show 0+Int.toNat z*1=z.toNat by omega];refine hs.put 0 rfl (o:=z.toNat) (vs:=[.bool true]) rfl (by rw[Yc,Yg,Yv];omega) fun h30 hs=>?_;rw[map_splice _ (by rw[Yg];omega)] at hs;refine⟨z,hs.rd 2 rfl (i:=1) rfl,?_⟩;refine hs.newb fun h32 hs=>?_;have hs:=hs.blkS 1 1 ([z].map inC) rfl (inrows _) rfl (by decide);have hC0:CL (medB y.m peer) (-1) y.m.n.toNat [z] ((List.replicate y.m.n.toNat false).set z.toNat true) [z]:=
   (CL.start (medB y.m peer) (-1) y.m.n.toNat [z]).push hz.1 (by rw[List.getElem?_replicate,if_pos (by omega)]) (.base (Ye.2 rfl))
  refine⟨fun ok todo x h' μ=>∃(i:Nat) (D:List Bool) (T:List Int),x=i/\μ=y.m.n.toNat-i/\i<=T.length/\St h0 h' (.sl todo 3 1 (T.map inC) :: .blk h26.size (D.map Value.bool) 4 :: .blk h5.size (MR.cs y) 98 :: .blk h.size [.int .i64 (p:Int),.int .i64 z,.int .i64 peer,.int .i64 label] 202 :: .mp wb (K.map wtC)::A)/\CL (medB y.m peer) (-1) y.m.n.toNat [z] D T/\z∈T/\(ok=true->ExpM y.m z peer label)/\(ok=false->∀v∈T.take i,DoneM y.m peer label T v),⟨_,0,_,_,rfl,rfl,Nat.zero_le _,hs,hC0,Ye.2 rfl,fun h=>(by cases h),fun _ v hv=>by rw[Yyk] at hv;cases hv⟩,?_⟩;clear hs hC0 hX t;rintro-ok todo _ h39 μ ⟨i,D,T,rfl,rfl,hi,hs,hC,hzT,hok1,hok2⟩;have hln:=(hs.rows 0 (s:=todo) (cs:=inC) rfl (by omega)).ln;have hle:=hC.le;have hX:=hE.at hs mem5;have hend:∀b:Bool,ok=b->(b=true ↔ ExpM y.m z peer label)->∃x100:Option Nat,hc h39 ⟨eb,0+3,none⟩=some (.map x100)/\∃x101 x102 x103 x104:Int,atC h39 ⟨h.size,0,none⟩ [.int .i64 x101,.int .i64 x102,.int .i64 x103,.int .i64 x104]/\RunW Pz (Instr.mapUpdate 193 (.map x100) (.agg ⟨[.int .i64 x101,.int .i64 x102,.int .i64 x103,.int .i64 x104]⟩) (.bool ok)) h39 fun _ h105=>∃(b:Bool) (K':List (Wt × Bool)),Value.bool ok=.bool b/\(b=true ↔ ExpM y.m z peer label)/\WtOk L K'/\St h0 h105 (.mp wb (K'.map wtC)::A):=fun b e hb=>by
   refine⟨some wb,hX.e.nth 3 rfl,(p:Int),z,peer,label,hs.at 3 rfl (o:=0) (n:=4) rfl,?_⟩;refine hs.mput M144 (cv:=Value.bool) (l:=K) 4 rfl hKok hK.nd (a:=⟨(p:Int),z,peer,label⟩) hwok ok fun h105 hs=>?_;exact⟨ok,mset K ⟨(p:Int),z,peer,label⟩ ok,rfl,by rw[e];exact hb,hK.set hg hwok rfl gy (by rw[e];exact hb),hs.drop 4⟩
  refine sBi (fun c1=>?_) (fun c1=>?_)
  .refine sB_intro (fun co=>?_) (fun co=>?_)
   .have hof:ok=false:=bF co;subst hof;have hok2:=hok2 rfl;clear hend;obtain⟨v,gv⟩:=get_some (l:=T) (i:=i) (by omega);have hvT:=Yb gv;have hvm2:=(hC.mem v).1 hvT;have hDl:=hC.len;have hvl:v.toNat<y.m.n.toNat:=by have:=(Ya.1 hvm2.2).1;omega
    have hiT:i<T.length:=(Ya.1 gv).1;refine⟨osl,hX.e.nth 2 rfl,(p:Int),hs.rd 3 rfl (i:=0) rfl,?_⟩;have hon:osl.n=L.length:=by rw[hX.o.1,Yc,Yyd]
    refine hX.o.nbI (by omega) (by omega) fun b42 o43 p' gp t2=>?_;rw[Ys,Yyb (by omega)] at gp;cases gp;refine⟨os p,t2.hd,?_⟩;refine (hs.rows 0 (s:=todo) (cs:=inC) rfl (by omega)).nbI (by omega) (by omega) fun b45 o46 v' gv' t3=>?_;rw[Ys,gv] at gv';cases gv';refine⟨v,t3.hd,?_⟩;have hpn:=hX.p p y gy;have hosn:(os p).n=y.m.n.toNat:=by rw[hpn.1,Yc,Yyd]
    refine hpn.nbI hvm2.1 (by omega) fun b48 o49 v' gv' t4=>?_;rw[Yyb (by omega)] at gv';cases gv';refine⟨qs p v.toNat,t4.hd,?_⟩;have hvc:((v.toNat:Nat):Int)=v:=Int.toNat_of_nonneg hvm2.1;obtain⟨hpm,-⟩:=mvS_srt y.m v;have hrow:=hX.q p y gy v.toNat hvl;rw[hvc] at hrow;have hrn:=hrow.ln;rw[show (natI (mvS y.m v)).length=(mvS y.m v).length from Yc _] at hrn;have hOl:(mvS y.m v).length<=y.m.mv.length:=by
     rw[hpm.length_eq];unfold outIx;refine Yys (List.length_filter_le _ _) ?_;rw[Yyd];exact Yyt _
    have hOe:mvS y.m ((v.toNat:Nat):Int)=mvS y.m v:=by rw[hvc]
    generalize hO:mvS y.m v=O at *;refine⟨fun ok todo x h' μ=>∃(j:Nat) (D:List Bool) (T':List Int),x=j/\μ=O.length-j/\j<=O.length/\St h0 h' (.sl todo 3 1 (T'.map inC) :: .blk h26.size (D.map Value.bool) 4 :: .blk h5.size (MR.cs y) 98 :: .blk h.size [.int .i64 (p:Int),.int .i64 z,.int .i64 peer,.int .i64 label] 202 :: .mp wb (K.map wtC)::A)/\CL (medB y.m peer) (-1) y.m.n.toNat [z] D T'/\(∃R,T'=T++R)/\(ok=true->ExpM y.m z peer label)/\(ok=false->∀q∈O.take j,∀x,y.m.mv[q]?=some x->DoneV y.m peer label T' x),⟨_,0,D,T,rfl,rfl,Nat.zero_le _,hs,hC,⟨[],by simp⟩,fun h=>(by cases h),fun _ q hq=>by rw[Yyk] at hq;cases hq⟩,?_⟩;clear hs hC hln hX hrow hpn hok1 t2 t3 t4 hle;rintro-ok todo2 _ h57 μ ⟨j,D,T',rfl,rfl,hj,hs,hC,⟨R,rfl⟩,hi1,hi2⟩;have hle2:=hC.le;have hDl:=hC.len;have hln:=(hs.rows 0 (s:=todo2) (cs:=inC) rfl (by omega)).ln;have hX:=hE.at hs mem5;refine sBi (fun c2=>?_) (fun c2=>?_)
    .obtain⟨q,gq⟩:=get_some (l:=O) (i:=j) (by omega);obtain⟨x,gx,hxf⟩:=outIx_mem.1 (hpm.mem_iff.1 (Yb gq));have hqm:=(Ya.1 gx).1;have hxm:=Yb gx;have hxr:=hN.mv x hxm;have hrow:=hX.q p y gy v.toNat hvl;rw[hOe] at hrow;refine hrow.nbI (by omega) (by omega) fun b58 o59 q' gq' t5=>?_;rw[Ys] at gq';replace gq':(natI O)[j]?=some q':=gq';obtain⟨q2,gq2,rfl⟩:=natI_get gq';rw[gq] at gq2;cases gq2;refine⟨(q:Int),t5.hd,y.g,hs.rd 2 rfl (i:=4) rfl,?_⟩;refine (hyi.pm.rw.ext hs.ext).nbI (by omega) (by omega) fun b62 o63 x' gx' t6=>?_;rw[Ys] at gx';replace gx':y.m.mv[q]?=some x':=gx';rw[gx] at gx';cases gx';refine⟨_,_,_,_,_,_,t6,?_⟩;clear t5 t6 hrow hX;refine hs.newput (vs:=x.cs) rfl rfl fun h71 hs=>?_;have hqv:=hC.r v (List.mem_append_left _ hvT);have hstay:ok=false->DoneV y.m peer label (T++R) x->∀q∈O.take (j+1),∀x,y.m.mv[q]?=some x->DoneV y.m peer label (T++R) x:=fun ho hx1 q' hq' x' hx'=>by
      rw[take_snoc gq,Yk,Ye] at hq';rcases hq' with hq' | rfl
      .exact hi2 ho q' hq' x' hx'
      .rw[gx] at hx';cases hx';exact hx1
     have hgrow:ok=false->¬Blk peer x->∀q∈O.take (j+1),∀x',y.m.mv[q]?=some x'->DoneV y.m peer label (T++R++[x.t]) x':=fun ho hnb q' hq' x' hx'=>by
      rw[take_snoc gq,Yk,Ye] at hq';rcases hq' with hq' | rfl
      .exact (hi2 ho q' hq' x' hx').mono fun z hz=>List.mem_append_left _ hz
      .rw[gx] at hx';cases hx';exact⟨fun hb=>absurd hb hnb,fun _=>List.mem_append_right _ (Ye.2 rfl)⟩
     obtain⟨zz,hzz⟩:=get_some (l:=D) (i:=x.t.toNat) (by omega);have e1:0+Int.toNat x.t*1=x.t.toNat:=by omega
     refine⟨x.send,hs.rd 0 rfl (i:=1) rfl,sB_intro (fun cs=>?_) (fun cs=>?_)⟩
     .have cs:=bF cs;refine⟨x.peer,hs.rd 0 rfl (i:=2) rfl,peer,hs.rd 4 rfl (i:=2) rfl,sBe (fun cp=>?_) (fun cp=>?_)⟩
      .have hbl:Blk peer x:=⟨cs,cp⟩;refine sB_intro (fun co=>?_) (fun co=>?_)
       .exact⟨_,(show O.length-(j+1)<O.length-j by omega),j+1,D,T++R,by rw[w64 (by omega) (by omega)];omega,rfl,by omega,hs.drop 1,hC,⟨R,rfl⟩,fun _=>hi1 co,fun h=>by cases h⟩
       .refine⟨x.label,hs.rd 0 rfl (i:=3) rfl,label,hs.rd 4 rfl (i:=3) rfl,?_⟩;refine⟨_,(show O.length-(j+1)<O.length-j by omega),j+1,D,T++R,by rw[w64 (by omega) (by omega)];omega,rfl,by omega,hs.drop 1,hC,⟨R,rfl⟩,fun h=>⟨v,hqv,x,hxm,hxf,hbl,eq_of_beq h⟩,fun h=>hstay co ⟨fun _=>beq_eq_false_iff_ne.1 h,fun hn=>absurd hbl hn⟩⟩
      .have hnb:¬Blk peer x:=fun hb=>cp hb.2;refine⟨x.t,hs.rd 0 rfl (i:=4) rfl,⟨by omega,by omega⟩,?_⟩;rw[e1];refine⟨zz,hs.rd 2 rfl (by rw[map_get,hzz];rfl),sB_intro (fun cz=>?_) (fun cz=>?_)⟩
       .have hzf:zz=false:=bF cz;subst hzf;refine⟨x.t,hs.rd 0 rfl (i:=4) rfl,⟨by omega,by omega⟩,?_⟩;rw[e1];have hC2:=hC.push (by omega) hzz (medB_step hqv hxm hnb hxf);refine hs.put 2 rfl (o:=x.t.toNat) (vs:=[.bool true]) rfl (by rw[Yc,Yv];omega) fun h82 hs=>?_;rw[map_splice _ (by omega)] at hs;refine⟨x.t,hs.rd 0 rfl (i:=4) rfl,?_⟩;refine hs.app 1 (s:=todo2) (rows:=(T++R).map inC) rfl app42 (m:=1) [[.int .i64 x.t]] rfl rfl (by simp) rfl (by omega) (by simp only[maxLen];omega) fun s85 h86 ns hs=>?_;refine⟨_,(show O.length-(j+1)<O.length-j by omega),j+1,D.set x.t.toNat true,T++R++[x.t],by rw[w64 (by omega) (by omega)];omega,rfl,by omega,?_,hC2,⟨R++[x.t],by rw[Yz]⟩,hi1,fun h=>hgrow h hnb⟩;rw[Ym];exact hs.drop 1
       .have hzt:zz=true:=bT cz;subst hzt;exact⟨_,(show O.length-(j+1)<O.length-j by omega),j+1,D,T++R,by rw[w64 (by omega) (by omega)];omega,rfl,by omega,hs.drop 1,hC,⟨R,rfl⟩,hi1,fun h=>hstay h ⟨fun hb=>absurd hb hnb,fun _=>(hC.mem _).2 ⟨by omega,hzz⟩⟩⟩
     .have cs:=bT cs;have hnb:¬Blk peer x:=fun hb=>by rw[hb.1] at cs;cases cs
      refine⟨x.t,hs.rd 0 rfl (i:=4) rfl,⟨by omega,by omega⟩,?_⟩;rw[e1];refine⟨zz,hs.rd 2 rfl (by rw[map_get,hzz];rfl),sB_intro (fun cz=>?_) (fun cz=>?_)⟩
      .have hzf:zz=false:=bF cz;subst hzf;refine⟨x.t,hs.rd 0 rfl (i:=4) rfl,⟨by omega,by omega⟩,?_⟩;rw[e1];have hC2:=hC.push (by omega) hzz (medB_step hqv hxm hnb hxf);refine hs.put 2 rfl (o:=x.t.toNat) (vs:=[.bool true]) rfl (by rw[Yc,Yv];omega) fun h82 hs=>?_;rw[map_splice _ (by omega)] at hs;refine⟨x.t,hs.rd 0 rfl (i:=4) rfl,?_⟩;refine hs.app 1 (s:=todo2) (rows:=(T++R).map inC) rfl app42 (m:=1) [[.int .i64 x.t]] rfl rfl (by simp) rfl (by omega) (by simp only[maxLen];omega) fun s85 h86 ns hs=>?_;refine⟨_,(show O.length-(j+1)<O.length-j by omega),j+1,D.set x.t.toNat true,T++R++[x.t],by rw[w64 (by omega) (by omega)];omega,rfl,by omega,?_,hC2,⟨R++[x.t],by rw[Yz]⟩,hi1,fun h=>hgrow h hnb⟩;rw[Ym];exact hs.drop 1
      .have hzt:zz=true:=bT cz;subst hzt;exact⟨_,(show O.length-(j+1)<O.length-j by omega),j+1,D,T++R,by rw[w64 (by omega) (by omega)];omega,rfl,by omega,hs.drop 1,hC,⟨R,rfl⟩,hi1,fun h=>hstay h ⟨fun hb=>absurd hb hnb,fun _=>(hC.mem _).2 ⟨by omega,hzz⟩⟩⟩
    .refine⟨_,(show y.m.n.toNat-(i+1)<y.m.n.toNat-i by have:=hC.le;rw[Yh] at this;omega),i+1,D,T++R,by have:=hC.le;rw[Yh] at this;rw[w64 (by omega) (by omega)];omega,rfl,by rw[Yh];omega,hs,hC,List.mem_append_left _ hzT,hi1,fun ho v' hv'=>?_⟩;rw[Yyq (by omega),take_snoc gv,Yk,Ye] at hv';rcases hv' with hv' | rfl
     .exact (hok2 v' hv').mono fun z hz=>List.mem_append_left _ hz
     .intro x hx hf;obtain⟨q,hq⟩:=Yf.1 hx;refine hi2 ho q ?_ x hq;rw[Yj (by omega)];exact hpm.mem_iff.2 (outIx_mem.2 ⟨x,hq,hf⟩)
   .have hot:ok=true:=bT co;exact hend true hot (iff_of_true rfl (hok1 hot))
  .refine hend ok rfl ?_;cases hok:ok with
   | true=>exact iff_of_true rfl (hok1 hok)
   | false=>exact iff_of_false (by decide) (exp_end hC hzT fun v hv=>hok2 hok v (by rw[Yj (by omega)];exact hv))
theorem cal111:callable Pz 165=true:=by kernel_rfl
theorem index121e (B:List Bx) (s:Sl) (h:Heap) (hr:RL h 1 s Bx.cs B) (hi:∀q∈B,RL h 1 q.s inC q.l) :
  Fn Pz 158 #[.slice s.a s.n s.c,.func (.func 165) #[] #[]] h fun v h'=>(∃k:Int,v=.int .i64 k/\(0<=k ↔ ¬∀b∈B.map Bx.l,b=[]))/\Ext h h':=by
 apply vc158 s 165;unfold W158;have hn:=hr.ln;have hl:=hr.sm;refine up_loop (n:=s.n) (fun i h'=>Ext h h'/\∀(j:Nat) (x:Bx),j<i->B[j]?=some x->x.l=[]) ⟨.rfl',fun j x hj=>by omega⟩ ?_;rintro-i h5 hi' ⟨E,hq⟩;refine sB_intro (fun c=>?_) (fun c=>?_)
 .replace c:=lt_t c;refine (hr.rw.ext E).nbI (by omega) (by omega) fun b6 o7 x gx t14=>?_;replace gx:B[i]?=some x:=gx;have hm:=Yb gx;have hxn:=(hi x hm).ln;refine⟨x.s,t14.hd,?_⟩;rw[cal111,cond_true];apply vc165 x.s;unfold W165;refine⟨_,rfl,sBi (fun c2=>?_) (fun c2=>?_)⟩
  .refine⟨⟨_,rfl,iff_of_true (by omega) fun hall=>?_⟩,E⟩;have:=hall x.l (List.mem_map_of_mem hm);rw[this] at hxn;simp at hxn;omega
  .refine Up.next (by omega) (by omega) ⟨E,fun j y hj hy=>?_⟩;by_cases e:j=i
   .subst e;rw[gx] at hy;cases hy;exact List.eq_nil_of_length_eq_zero (by omega)
   .exact hq j y (by omega) hy
 .replace c:=lt_f c;refine⟨⟨_,rfl,iff_of_false (by omega) fun hall=>hall fun b hb=>?_⟩,E⟩;obtain⟨x,hx,rfl⟩:=Yp.1 hb;obtain⟨j,hj⟩:=Yf.1 hx;exact hq j x (by have:=(Ya.1 hj).1;omega) hj
theorem any83e (B:List Bx) (s:Sl) (h:Heap) (hr:RL h 1 s Bx.cs B) (hi:∀q∈B,RL h 1 q.s inC q.l) :
  Fn Pz 113 #[.slice s.a s.n s.c,.func (.func 165) #[] #[]] h (RP (¬∀b∈B.map Bx.l,b=[]) h):=by
 apply vc113 s 165;unfold W113;refine (index121e B s h hr hi).mono ?_;rintro _ h3 ⟨⟨k,rfl,hk⟩,E⟩;exact⟨_,rfl,RP.e (by rw[decide_eq_true_eq];exact hk) E⟩
theorem final71 (L:List MR) (s:Sl) (k:Int) (eb:Nat) (ss sb:Sl) (S:List Int) (B:List Bx) (h:Heap) (hS:SyI h s L) (hE:EngR h eb s k L) (hC:CfI h ss sb S B) (hP:ProS (L.map MR.m) k S (B.map Bx.l)) :
  Fn Pz 124 #[.pointer (some ⟨eb,0,none⟩),.agg ⟨[.slice ss.a ss.n ss.c,.slice sb.a sb.n sb.c]⟩] h (RP (FinS (L.map MR.m) S (B.map Bx.l)) h):=by
 apply vc124 ⟨eb,0,none⟩ ss sb;unfold W124;obtain⟨osl,hat,-⟩:=hE.e;have hn:=hS.r.ln;have hsn:=hC.s.ln;have hsm:=hC.s.sm;have hlm:(L.map MR.m).length=L.length:=Yc _;have hSl:=hP.p.s;rw[hlm] at hSl;refine (St.refl h).newb fun h3 hs=>?_;refine⟨ss,hs.rd 0 rfl (i:=0) rfl,?_⟩;refine up_loopS (n:=ss.n) hs (fun i=>∀(p:Nat) z m,p<i->S[p]?=some z->(L.map MR.m)[p]?=some m->m.fin[z.toNat]?=some true) (fun p z m hj=>by omega) ?_;rintro-i h9 hi ⟨hs,hq⟩;refine sB_intro (fun c=>?_) (fun c=>?_)
 .replace c:=lt_t c;refine (hC.s.rw.ext hs.ext).nbI (by omega) (by omega) fun b10 o11 z gz t=>?_;replace gz:S[i]?=some z:=gz;refine⟨z,t.hd,s,(atC_ext hs.ext hat).hd,?_⟩;refine (hS.r.rw.ext hs.ext).nbI (by omega) (by omega) fun b o y gy t2=>?_;replace gy:L[i]?=some y:=gy;have gm:(L.map MR.m)[i]?=some y.m:=by rw[Yd,gy];rfl
  have hyi:=hS.i y (Yb gy);have hfl:=(hP.v.m i y.m gm).2.1.n.fl;have hz:=hP.p.st i z y.m gz gm;have hfn:=hyi.pf.ln;refine⟨y.f,t2.nth 3 rfl,?_⟩;refine (hyi.pf.rw.ext hs.ext).nbI hz.1 (by omega) fun b o f gf t3=>?_;refine⟨f,t3.hd,sB_intro (fun d=>?_) (fun d=>?_)⟩
  .refine RP.f (fun hF=>?_) hs.ext;have:=hF.s i z y.m gz gm;rw[gf] at this;cases this;cases d
  .refine Up.next (by omega) (by omega) ⟨hs,fun p z' m' hj h1 h2=>?_⟩;by_cases e:p=i
   .subst e;rw[gz] at h1;rw[gm] at h2;cases h1;cases h2;rw[gf];cases f
    .cases d
    .rfl
   .exact hq p z' m' (by omega) h1 h2
 .replace c:=lt_f c;refine⟨sb,hs.rd 0 rfl (i:=1) rfl,?_⟩;refine (any83e B sb h9 (hC.b.ext hs.ext) fun q hq=>(hC.i q hq).ext hs.ext).mono ?_;rintro _ h23 ⟨⟨b,rfl,hb⟩,E⟩;refine⟨b,rfl,RP.e ?_ (hs.ext.trans E)⟩;have hall:∀(p:Nat) z m,S[p]?=some z->(L.map MR.m)[p]?=some m->m.fin[z.toNat]?=some true:=fun p z m h1 h2=>hq p z m (by have:=(Ya.1 h1).1;omega) h1 h2;cases b with
  | true=>exact iff_of_false (by decide) fun hF=>hb.1 rfl hF.b
  | false=>exact iff_of_true rfl ⟨hall,Classical.not_not.1 fun hn=>by have:=hb.2 hn;cases this⟩
end Go.VC
end
