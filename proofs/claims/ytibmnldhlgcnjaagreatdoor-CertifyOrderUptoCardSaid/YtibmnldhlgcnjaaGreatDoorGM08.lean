/- PwZ PwAa PwAk PeA PeB PeC PwAc PeE PeF PeD PwAd PwAe PeG PeH PeI PeJ PeSort PeK PwAf PwAg PeL0 PeL PeP. -/
import Derived.Test.YtibmnldhlgcnjaaGreatDoorGM07
set_option linter.all false
set_option maxRecDepth 100000
set_option maxHeartbeats 8000000

section
namespace Go.VC
open Go.Proofs Go.LexS
def u8C (b:Int):List Value:=[.int .u8 b]
theorem w8 {b:Int} (h0:0<=b) (h1:b<256):IntKind.wrap .i64 b=b:=w64 (by omega) (by omega)
theorem xpro_start {L:List Mch} {k:Int} (hV:SysV L) (hk:1<=k/\k<=4):ProS L k (startS L) ((List.replicate (L.length*L.length) bx0).map Bx.l):=by
 refine⟨hV,hk,⟨by unfold startS;rw[Yc],by rw[Yc,Yg],fun p s m h1 h2=>?_,fun i b hb=>?_⟩⟩
 .unfold startS at h1;rw[Yd,h2] at h1;cases h1;exact (hV.m p m h2).2.1.n.s
 .obtain⟨q,hq,rfl⟩:=Yp.1 (Yb hb);rw[List.eq_of_mem_replicate hq];exact⟨by show ((0:Nat):Int)<=k;omega,fun _=>rfl,fun x hx=>by cases hx⟩
theorem doS_at {L:List Mch} {k:Int} {S:List Int} {BL:List (List Int)} {a b:Nat} {m:Mch} {x:Mv} (hP:ProS L k S BL) (gm:L[a]?=some m) (gx:m.mv[b]?=some x):doS L k S BL (a:Int) (b:Int)=if canS L.length k S BL a x=0 then (0,S.set a x.t,doB L.length a x BL) else (canS L.length k S BL a x,[],[]):=by
 have ha:=(Ya.1 gm).1;have hb:=(Ya.1 gx).1;have hmo:mvO L (a:Int) (b:Int)=some x:=by
  unfold mvO;rw[if_neg (by omega),Ys,gm];dsimp only;rw[if_neg (by omega),Ys,gx]
 unfold doS;rw[if_pos hP,hmo,Ys]
noncomputable def stpS (L:List Mch) (k:Int) (c:List Int × List (List Int)) (q:Nat × Nat):Option (List Int × List (List Int)):=if (doS L k c.1 c.2 (q.1:Int) (q.2:Int)).1=0 then some (doS L k c.1 c.2 (q.1:Int) (q.2:Int)).2 else none
noncomputable def runS (L:List Mch) (k:Int) (l:List (Nat × Nat)):Option (List Int × List (List Int)):=l.foldl (fun o q=>o.bind fun c=>stpS L k c q) (some (startS L,(List.replicate (L.length*L.length) bx0).map Bx.l))
theorem runS_snoc {L:List Mch} {k:Int} {l:List (Nat × Nat)} {q:Nat × Nat}:runS L k (l++[q])=(runS L k l).bind fun c=>stpS L k c q:=by
 unfold runS;rw[List.foldl_append];rfl
theorem stpS_ok {L:List Mch} {k:Int} {S:List Int} {BL:List (List Int)} {a b:Nat} {m:Mch} {x:Mv} (hP:ProS L k S BL) (gm:L[a]?=some m) (gx:m.mv[b]?=some x) (hc:canS L.length k S BL a x=0):stpS L k (S,BL) (a,b)=some (S.set a x.t,doB L.length a x BL):=by
 unfold stpS;rw[doS_at hP gm gx,if_pos hc,if_pos rfl]
theorem steps_mem {L:List Mch} {k:Int} {S:List Int} {BL:List (List Int)} {a b:Nat} (h:(a,b)∈stepsS L k S BL):∃m x,L[a]?=some m/\m.mv[b]?=some x/\canS L.length k S BL a x=0:=by
 unfold stepsS at h;obtain⟨p,_,h⟩:=List.mem_flatMap.1 h;unfold stepsR at h;cases gm:L[p]? with
 | none=>rw[gm] at h;cases h
 | some m=>
  rw[gm] at h;obtain⟨i,hi,e⟩:=Yp.1 h;cases e;unfold stepsP at hi;obtain⟨h1,h2⟩:=List.mem_filter.1 hi;obtain⟨x,gx,_⟩:=outIx_mem.1 ((mvS_srt m _).1.mem_iff.1 h1);refine⟨m,x,gm,gx,?_⟩;have:=Yyn h2
  rwa [mvD_of gx] at this
theorem mem_steps {L:List Mch} {k:Int} {S:List Int} {BL:List (List Int)} {a b:Nat} {m:Mch} {x:Mv} (gm:L[a]?=some m) (gx:m.mv[b]?=some x) (hc:canS L.length k S BL a x=0):(a,b)∈stepsS L k S BL:=by
 have hb:b<m.mv.length:=(Ya.1 gx).1;have hpos:posB L.length k S BL a m b=true:=by unfold posB;rw[mvD_of gx];exact decide_eq_true hc
 have h1:b∈(List.range m.mv.length).filter (posB L.length k S BL a m):=List.mem_filter.2 ⟨List.mem_range.2 hb,hpos⟩;rw[pos_ix] at h1;have h2:=((mvS_srt m (S.getD a 0)).1.filter (posB L.length k S BL a m)).mem_iff.2 h1;unfold stepsS;refine List.mem_flatMap.2 ⟨a,List.mem_range.2 (Ya.1 gm).1,?_⟩;unfold stepsR;rw[gm];exact Yp.2 ⟨b,h2,rfl⟩
theorem can_parts {n:Nat} {k:Int} {S:List Int} {BL:List (List Int)} {p:Nat} {x:Mv}:canS n k S BL p x=0 ↔ x.f=S.getD p 0/\(x.send=true->((BL.getD (bxI n p x) []).length:Int)<k)/\(x.send=false->∃r,BL.getD (bxI n p x) []=x.label::r):=by
 unfold canS;by_cases hf:x.f=S.getD p 0
 .rw[if_neg (fun h=>h hf)];cases hs:x.send with
  | true=>
   rw[if_pos rfl];constructor
   .intro h;split at h
    .exact absurd h (by decide)
    .exact⟨hf,fun _=>by omega,fun h=>by cases h⟩
   .rintro⟨_,h,_⟩;rw[if_neg (by have:=h rfl;omega)]
  | false=>
   rw[if_neg (by decide)];cases hb:BL.getD (bxI n p x) [] with
   | nil=>
    refine⟨fun h=>absurd h (show ¬((23:Int)=0) by decide),?_⟩;rintro⟨_,_,h⟩;obtain⟨r,h⟩:=h rfl;cases h
   | cons a l=>
    dsimp only;constructor
    .intro h;split at h
     .exact absurd h (by decide)
     .rename_i e;exact⟨hf,(fun h=>by cases h),fun _=>⟨l,by rw[Classical.not_not.1 e]⟩⟩
    .rintro⟨_,_,h⟩;obtain⟨r,h⟩:=h rfl;cases h;rw[if_neg (fun h=>h rfl)]
 .rw[if_pos hf];exact⟨fun h=>absurd h (show ¬((7:Int)=0) by decide),fun h=>absurd h.1 hf⟩
theorem getD_set_ne {α:Type} {l:List α} {i j:Nat} {a d:α} (h:i≠j):(l.set i a).getD j d=l.getD j d:=by
 rw[Yo,Yo,Yy h]
def slR (s:Sl):List Value:=[.slice s.a s.n s.c]
def EngT (h:Heap) (osl:Sl) (L:List MR):Prop:=∃(os:Nat->Sl) (qs:Nat->Nat->Sl),Rw h 1 osl ((List.range L.length).map fun p=>slR (os p))/\∀(p:Nat) x,L[p]?=some x->Rw h 1 (os p) ((List.range x.m.n.toNat).map fun s=>slR (qs p s))/\∀s,s<x.m.n.toNat->Rw h 1 (qs p s) ((natI (mvS x.m (s:Int))).map inC)
structure EngR (h:Heap) (eb:Nat) (s:Sl) (k:Int) (L:List MR):Prop where
 e:∃osl:Sl,atC h ⟨eb,0,none⟩ [.slice s.a s.n s.c,.int .i64 k,.slice osl.a osl.n osl.c]/\EngT h osl L
theorem box69e (eb p:Nat) (s:Sl) (x:Mv) (h:Heap) (he:hc h ⟨eb,0,none⟩=some (.slice s.a s.n s.c)) (hn:s.n<=6) (hp:p<s.n) (h0:0<=x.peer) (h1:x.peer<(s.n:Int)) :
  Fn Pz 122 #[.pointer (some ⟨eb,0,none⟩),.int .i64 (p:Int),.agg ⟨x.cs⟩] h fun v h'=>v=.int .i64 (bxI s.n p x:Nat)/\Ext h h':=by
 apply vc122 ⟨eb,0,none⟩ (p:Int) x.f x.send x.peer x.label x.t x.ag;unfold W122;have h36:=sq6 hn;have hj:=bxI_lt (n:=s.n) (x:=x) hp h0 h1;refine (St.refl h).newb fun h7 hs=>?_;refine⟨x.send,hs.rd 0 rfl (i:=1) rfl,sB_intro (fun c=>?_) (fun c=>?_)⟩
 .refine⟨s,hc_ext hs.ext he,x.peer,hs.rd 0 rfl (i:=2) rfl,?_,hs.ext⟩;have e:bxI s.n p x=s.n*p+x.peer.toNat:=by unfold bxI;rw[if_pos c]
  rw[e] at hj ⊢;rw[<-Int.natCast_mul,w64 (n:=((s.n*p:Nat):Int)) (by omega) (by omega),w64 (by omega) (by omega)];congr 2;omega
 .refine⟨s,hc_ext hs.ext he,x.peer,hs.rd 0 rfl (i:=2) rfl,?_,hs.ext⟩;have e:bxI s.n p x=s.n*x.peer.toNat+p:=by unfold bxI;rw[if_neg (by rw[c];decide)]
  rw[e] at hj ⊢;have e2:(s.n:Int)*x.peer=((s.n*x.peer.toNat:Nat):Int):=by rw[Int.natCast_mul,Int.toNat_of_nonneg h0]
  rw[e2,w64 (n:=((s.n*x.peer.toNat:Nat):Int)) (by omega) (by omega),w64 (by omega) (by omega)];congr 2
theorem app30e:appB Pz 69 43 2 16=true:=by kernel_rfl
theorem can_run {n:Nat} {k:Int} {S:List Int} {BL:List (List Int)} {p:Nat} {x:Mv} (hf:x.f=S.getD p 0):canS n k S BL p x=0 ↔ (x.send=true/\((BL.getD (bxI n p x) []).length:Int)<k)\/(x.send=false/\∃r,BL.getD (bxI n p x) []=x.label::r):=by
 rw[can_parts];constructor
 .rintro⟨_,h1,h2⟩;cases hs:x.send with
  | true=>exact .inl ⟨rfl,h1 hs⟩
  | false=>exact .inr ⟨rfl,h2 hs⟩
 .rintro (⟨h1,h2⟩ | ⟨h1,h2⟩)
  .exact⟨hf,fun _=>h2,fun h=>by rw[h1] at h;cases h⟩
  .exact⟨hf,fun h=>(by rw[h1] at h;cases h),fun _=>h2⟩
theorem steps34 (L:List MR) (s:Sl) (k:Int) (eb:Nat) (ss sb:Sl) (S:List Int) (B:List Bx) (h:Heap) (hS:SyI h s L) (hE:EngR h eb s k L) (hC:CfI h ss sb S B) (hP:ProS (L.map MR.m) k S (B.map Bx.l)) :
  Fn Pz 62 #[.pointer (some ⟨eb,0,none⟩),.agg ⟨[.slice ss.a ss.n ss.c,.slice sb.a sb.n sb.c]⟩] h fun v h'=>∃r:Sl,v=.slice r.a r.n r.c/\St h h' [.sl r 43 2 ((stepsS (L.map MR.m) k S (B.map Bx.l)).map stpC)]:=by
 apply vc62 ⟨eb,0,none⟩ ss sb;unfold W62 V62a V62b;have hn:=hS.r.ln;have hsn:=hC.s.ln;have hbn:=hC.b.ln;have hlm:(L.map MR.m).length=L.length:=Yc _;have hbm:(B.map Bx.l).length=B.length:=Yc _;have hV:=hP.v;have hV6:=hV.n;rw[hlm] at hV6;have hSl:S.length=L.length:=by rw[hP.p.s,hlm]
 have hBl:B.length=L.length*L.length:=by rw[<-hbm,hP.p.b,hlm]
 have h36:=sq6 hV6.2;have hst:=hP.p.st;obtain⟨osl,hat,os,qs,hT1,hT2⟩:=hE.e;have hon':=hT1.ln;have hT1n:osl.n=L.length:=by rw[hT1.1,Yc,Yyd]
 generalize hBB:B.map Bx.l=BL at *;have hLL:stepsS (L.map MR.m) k S BL=(List.range L.length).flatMap (stepsR L.length k S BL (L.map MR.m)):=by unfold stepsS;rw[hlm]
 refine (St.refl h).newb fun h3 hs=>?_;refine⟨s,(atC_ext hs.ext hat).hd,?_⟩;have hs:=hs.nil_ 43 2;refine⟨fun out x h' μ=>∃i:Nat,x=(i:Int)/\μ=L.length-i/\i<=L.length/\St h h' [.sl out 43 2 (((List.range i).flatMap (stepsR L.length k S BL (L.map MR.m))).map stpC),.blk h.size [.slice ss.a ss.n ss.c,.slice sb.a sb.n sb.c] 52],⟨_,0,rfl,rfl,Nat.zero_le _,hs⟩,?_⟩;clear hs;rintro-out _ h10 μ ⟨i,rfl,rfl,hi,hs⟩;have hol:=steps_len (n:=L.length) (k:=k) (S:=S) (BL:=BL) hV i;refine sBi (fun c1=>?_) (fun c1=>?_)
 .obtain⟨y,gy⟩:=get_some (l:=L) (i:=i) (by omega);have gm:(L.map MR.m)[i]?=some y.m:=by rw[Yd,gy];rfl
  have hyi:=hS.i y (Yb gy);have hvm:=hV.m i y.m gm;have hml:=hvm.2.1.n.ml;obtain⟨z,gz⟩:=get_some (l:=S) (i:=i) (by omega);have hSg:S.getD i 0=z:=getD_some gz;have hz:=hst i z y.m gz gm;obtain⟨hT3,hT4⟩:=hT2 i y gy;refine (hS.r.rw.ext hs.ext).nbI (by omega) (by omega) fun b o y' gy' t=>?_;rw[Ys] at gy';replace gy':L[i]?=some y':=gy';rw[gy] at gy';cases gy';refine⟨_,_,_,_,_,_,t,?_⟩;refine hs.newput (vs:=MR.cs y) rfl rfl fun h20 hs=>?_;refine⟨osl,(atC_ext hs.ext hat).nth 2 rfl,?_⟩;refine (hT1.ext hs.ext).nbI (by omega) (by omega) fun b22 o23 p gp t2=>?_;rw[Ys,Yyb (by omega)] at gp;cases gp;refine⟨os i,t2.hd,ss,hs.rd 2 rfl (i:=0) rfl,?_⟩;refine (hC.s.rw.ext hs.ext).nbI (by omega) (by omega) fun b26 o27 z' gz' t3=>?_;rw[Ys] at gz';replace gz':S[i]?=some z':=gz';rw[gz] at gz';cases gz';have hosn:(os i).n=y.m.n.toNat:=by rw[hT3.1,Yc,Yyd]
  refine⟨z,t3.hd,?_⟩;refine (hT3.ext hs.ext).nbI hz.1 (by omega) fun b29 o30 p gp t4=>?_;rw[Yyb (by omega)] at gp;cases gp;refine⟨qs i z.toNat,t4.hd,?_⟩;have hzc:((z.toNat:Nat):Int)=z:=Int.toNat_of_nonneg hz.1;have hrow:=hT4 z.toNat (by omega);rw[hzc] at hrow;obtain⟨hpm,-⟩:=mvS_srt y.m z;have hrn:=hrow.ln;rw[show (natI (mvS y.m z)).length=(mvS y.m z).length from Yc _] at hrn;have hOl:(mvS y.m z).length<=400:=by
   rw[hpm.length_eq];unfold outIx;refine Yys (List.length_filter_le _ _) ?_;rw[Yyd];exact hml
  generalize hO:mvS y.m z=O at *;refine⟨fun out x h' μ=>∃j:Nat,x=(j:Int)/\μ=O.length-j/\j<=O.length/\St h h' [.blk h10.size (MR.cs y) 98,.sl out 43 2 ((((List.range i).flatMap (stepsR L.length k S BL (L.map MR.m)))++((O.take j).filter (posB L.length k S BL i y.m)).map fun q=>(i,q)).map stpC),.blk h.size [.slice ss.a ss.n ss.c,.slice sb.a sb.n sb.c] 52],⟨_,0,rfl,rfl,Nat.zero_le _,by rw[Yyk,List.filter_nil,List.map_nil,Yw];exact hs⟩,?_⟩;clear hs;rintro-out2 _ h37 μ ⟨j,rfl,rfl,hj,hs⟩;have hon2:=(hs.rows 1 (s:=out2) (cs:=stpC) rfl (by omega)).ln;have hfl:((O.take j).filter (posB L.length k S BL i y.m)).length<=j:=Yys (List.length_filter_le _ _) (by rw[Yu];omega);rw[Yh,Yc] at hon2;refine sBi (fun c2=>?_) (fun c2=>?_)
  .obtain⟨q,gq⟩:=get_some (l:=O) (i:=j) (by omega);obtain⟨x,gx,hxf⟩:=outIx_mem.1 (hpm.mem_iff.1 (Yb gq));have hqm:=(Ya.1 gx).1;have hxm:=Yb gx;have hx0:=(hvm.2.1.n.mv x hxm).2.2.2.2.1;have hx1:=hvm.2.2 x hxm;rw[hlm] at hx1;have hgl:=hyi.pm.ln;refine (hrow.ext hs.ext).nbI (by omega) (by omega) fun b38 o39 q' gq' t5=>?_;rw[Ys] at gq';replace gq':(natI O)[j]?=some q':=gq';obtain⟨q2,gq2,rfl⟩:=natI_get gq';rw[gq] at gq2;cases gq2;refine⟨(q:Int),t5.hd,y.g,hs.rd 0 rfl (i:=4) rfl,?_⟩;refine (hyi.pm.rw.ext hs.ext).nbI (by omega) (by omega) fun b42 o43 x' gx' t6=>?_;rw[Ys] at gx';replace gx':y.m.mv[q]?=some x':=gx';rw[gx] at gx';cases gx';refine⟨_,_,_,_,_,_,t6,?_⟩;refine hs.newput (vs:=x.cs) rfl rfl fun h51 hs=>?_;refine⟨sb,hs.rd 3 rfl (i:=1) rfl,_,_,_,_,_,_,hs.at 0 rfl (o:=0) (n:=6) rfl,?_⟩;refine (box69e eb i s x h51 (atC_ext hs.ext hat).hd (by omega) (by omega) hx0 (by omega)).mono ?_;rintro _ h61 ⟨rfl,E⟩;have hs:=hs.step E;have hbx:=bxI_lt (n:=L.length) (p:=i) (x:=x) (by omega) hx0 hx1;rw[hn] at *;refine⟨_,rfl,E.sm,?_⟩;obtain⟨qb,gqb⟩:=get_some (l:=B) (i:=bxI L.length i x) (by omega);have hqi:=hC.i qb (Yb gqb);have hqn:=hqi.ln;refine (hC.b.rw.ext hs.ext).nbI (by omega) (by omega) fun b62 o63 qb' gqb' t7=>?_;rw[Ys,gqb] at gqb';cases gqb';have hqd:BL.getD (bxI L.length i x) []=qb.l:=by rw[<-hBB];exact getD_map gqb
   have hcan:=can_run (n:=L.length) (k:=k) (S:=S) (BL:=BL) (p:=i) (x:=x) (by rw[hSg];exact hxf);rw[hqd] at hcan;have hpb:posB L.length k S BL i y.m q=true ↔ canS L.length k S BL i x=0:=by unfold posB;rw[mvD_of gx,decide_eq_true_eq]
   have hno:¬canS L.length k S BL i x=0->St h h61 [.blk h10.size (MR.cs y) 98,.sl out2 43 2 ((((List.range i).flatMap (stepsR L.length k S BL (L.map MR.m)))++((O.take (j+1)).filter (posB L.length k S BL i y.m)).map fun q=>(i,q)).map stpC),.blk h.size [.slice ss.a ss.n ss.c,.slice sb.a sb.n sb.c] 52]:=fun hn=>by
    rw[take_snoc gq,List.filter_append,List.filter_cons_of_neg (fun h=>hn (hpb.1 h)),List.filter_nil,Yw];exact hs.drop 1
   have hyes:canS L.length k S BL i x=0->((O.take (j+1)).filter (posB L.length k S BL i y.m)).map (fun q=>(i,q))=((O.take j).filter (posB L.length k S BL i y.m)).map (fun q=>(i,q))++[(i,q)]:=fun hp=>by
    rw[take_snoc gq,List.filter_append,List.filter_cons_of_pos (hpb.2 hp),List.filter_nil,Ym];rfl
   refine⟨qb.s,t7.hd,x.send,hs.rd 0 rfl (i:=1) rfl,sB_intro (fun cs=>?_) (fun cs=>?_)⟩
   .refine⟨k,(atC_ext hs.ext hat).nth 1 rfl,sBi (fun c3=>?_) (fun c3=>?_)⟩
    .have hc:=hcan.2 (.inl ⟨cs,by omega⟩);refine hs.app 2 (s:=out2) (n:=2) (rows:=(((List.range i).flatMap (stepsR L.length k S BL (L.map MR.m)))++((O.take j).filter (posB L.length k S BL i y.m)).map fun q=>(i,q)).map stpC) rfl app30e (m:=1) [stC (i:Int) q] rfl rfl (fun r hr=>by rw[Ye] at hr;rw[hr];rfl) rfl (by omega) (by simp only[maxLen];omega) fun r2 h47 nr hs=>?_;refine⟨_,(show O.length-(j+1)<O.length-j by omega),j+1,by rw[w64 (by omega) (by omega)];omega,rfl,by omega,?_⟩;rw[hyes hc,<-Yz,Ym];exact hs.drop 1
    .refine⟨x.send,hs.rd 0 rfl (i:=1) rfl,sB_f (by rw[cs];rfl) ?_⟩;exact⟨_,(show O.length-(j+1)<O.length-j by omega),j+1,by rw[w64 (by omega) (by omega)];omega,rfl,by omega,hno fun hc=>by rcases hcan.1 hc with h1 | h1;(· omega);(· rw[h1.1] at cs;cases cs)⟩
   .refine⟨x.send,hs.rd 0 rfl (i:=1) rfl,sB_t (by rw[cs];rfl) (sBi (fun c3=>?_) (fun c3=>?_))⟩
    .refine (hqi.rw.ext hs.ext).nbI (by decide) (by omega) fun b72 o73 a ga t8=>?_;replace ga:qb.l[0]?=some a:=ga;refine⟨a,t8.hd,x.label,hs.rd 0 rfl (i:=3) rfl,sBe (fun c4=>?_) (fun c4=>?_)⟩
     .have hc:=hcan.2 (.inr ⟨cs,by
       cases hql:qb.l with
       | nil=>rw[hql] at ga;cases ga
       | cons a' r=>rw[hql] at ga;cases ga;exact⟨r,by rw[c4]⟩⟩)
      refine hs.app 2 (s:=out2) (n:=2) (rows:=(((List.range i).flatMap (stepsR L.length k S BL (L.map MR.m)))++((O.take j).filter (posB L.length k S BL i y.m)).map fun q=>(i,q)).map stpC) rfl app30e (m:=1) [stC (i:Int) q] rfl rfl (fun r hr=>by rw[Ye] at hr;rw[hr];rfl) rfl (by omega) (by simp only[maxLen];omega) fun r2 h47 nr hs=>?_;refine⟨_,(show O.length-(j+1)<O.length-j by omega),j+1,by rw[w64 (by omega) (by omega)];omega,rfl,by omega,?_⟩;rw[hyes hc,<-Yz,Ym];exact hs.drop 1
     .exact⟨_,(show O.length-(j+1)<O.length-j by omega),j+1,by rw[w64 (by omega) (by omega)];omega,rfl,by omega,hno fun hc=>by
       rcases hcan.1 hc with h1 | ⟨_,r,h1⟩
       .rw[h1.1] at cs;cases cs
       .rw[h1] at ga;cases ga;exact c4 rfl⟩
    .exact⟨_,(show O.length-(j+1)<O.length-j by omega),j+1,by rw[w64 (by omega) (by omega)];omega,rfl,by omega,hno fun hc=>by
      rcases hcan.1 hc with h1 | ⟨_,r,h1⟩
      .rw[h1.1] at cs;cases cs
      .rw[h1,Yyj] at hqn;omega⟩
  .have hjl:j=O.length:=by omega
   subst hjl;refine⟨_,(show L.length-(i+1)<L.length-i by omega),i+1,by rw[w64 (by omega) (by omega)];omega,rfl,by omega,?_⟩;have e1:stepsR L.length k S BL (L.map MR.m) i=(O.filter (posB L.length k S BL i y.m)).map fun q=>(i,q):=by
    unfold stepsR;rw[gm];show ((stepsP L.length k S BL i y.m).map fun q=>(i,q))=_;unfold stepsP;rw[hSg,hO]
   rw[List.range_succ,List.flatMap_append,List.flatMap_cons,List.flatMap_nil,Yw,e1];rw[Yye] at hs;exact hs.drop 1
 .have hil:i=L.length:=by omega
  subst hil;refine⟨out,rfl,?_⟩;rw[hLL];exact hs.sub (.cons_cons _ (List.nil_sublist _))
theorem App_full {P:Program} {t e size bytes:Nat} (hT:appB P t e size bytes=true) {h:Heap} {y:Sl} {rows:List (List Value)} (hy:Rw h size y rows) (hk:∀r∈rows,r.length=size) (hc:y.c=y.n) (hna:y.a=none->y.n=0)
  {x:Addr} {m c:Nat} {news:List Value} (hx:atC h x news) (hl:news.length=m*size) (hm:0<m) (h1:news.all oneB=true) (hbytes:(y.n+m)*bytes<=140737488355328) (h63:y.n+m<=maxLen)
  {K:Sl->Heap->Prop} (hK:∀(r:Sl) (h':Heap),r.n=y.n+m->OwnS h' h.size e size r (rows.flatten++news)->Ext h h'->K r h') :
  App P t t (.slice y.a y.n y.c) (.slice (some x) m c) h K:=by
 have hn:=hy.1;cases hya:y.a with
 | none=>
  have h0:=hna hya;have hr0:rows=[]:=List.length_eq_zero_iff.1 (by omega);subst hr0;have ho:OwnS h h.size e size (⟨none,0,0⟩:Sl) []:=OwnS.nil;rw[h0,hc,h0];refine App_own hT (s:=⟨none,0,0⟩) ho (Yyt _) hx hl h1 (by show (0+m)*bytes<=_;rw[h0] at hbytes;exact hbytes) (by show 0+m<=_;rw[h0] at h63;exact h63) fun r h' hrn hor hsz hkeep=>hK r h' (by rw[h0];exact hrn) hor ⟨hsz,fun b hb=>hkeep b hb fun g hg=>by cases hg⟩
 | some b=>
  intro ty w hw;subst hw;unfold appB at hT;simp only[Yt] at hT;obtain⟨⟨⟨⟨⟨⟨⟨hs,he⟩,ht⟩,hz⟩,hzl⟩,hsz⟩,hby⟩,hpos⟩:=hT;have hu:=sliceB_e hs;rw[beqT he] at hu;obtain⟨i,hi⟩:=isT_info ht;obtain⟨z,hz'⟩:=Option.isSome_iff_exists.1 hz;rw[hi] at hz';simp only[Option.bind_some] at hz';have e1:i.size=size:=by have:=beqT hsz;simpa [szOf,hi] using this
  have e2:i.bytes=bytes:=by have:=beqT hby;simpa [byOf,hi] using this
  have e3:z.cells.size=size:=by have:=beqT hzl;simpa [zeroC,hi,hz'] using this
  have hnews:∀j u,news[j]?=some u->w.cell? (x.add j)=some u:=fun j u hj=>by rw[addk_add];exact hx j u hj
  have hb:atC w.heap b rows.flatten:=by
   by_cases h0:0<rows.length
   .obtain⟨b',o,ha,hall⟩:=hy.2 h0;rw[hya] at ha;cases ha;exact atC_flat rows o hk hall
   .have hr0:rows=[]:=List.length_eq_zero_iff.1 (by omega);subst hr0;intro i v hv;simp at hv
  have holds:∀j u,rows.flatten[j]?=some u->w.cell? (b.add j)=some u:=fun j u hj=>by rw[addk_add];exact hb j u hj
  obtain⟨v',w',hr,hown,hg⟩:=run_append_arg_grows (P:=P) w t ty e i z size bytes hu hi hz' e1 e2 e3 (by simpa using hpos) b y.n y.c rows.flatten (by rw[flatten_len rows hk,hn]) holds x m c news hl hnews (by omega) h63 hbytes;obtain⟨r,hv,hrn,hor⟩:=OwnS.of_row hown;exact⟨v',w',hr,⟨r,hv,hK r w'.heap hrn hor ⟨hg.size,fun k hk=>hg.block k hk (by intro e;cases e)⟩⟩,hg.os,hg.tape,hg.output⟩
theorem app25e:appB Pz 25 3 1 8=true:=by kernel_rfl
theorem app26e:appB Pz 26 25 1 24=true:=by kernel_rfl
def newL (x:Mv) (l:List Int):List Int:=if x.send=true then l++[x.label] else l.tail
def DoE (S':List Int) (B:List Bx) (j:Nat) (x:Mv) (q:Bx) (h:Heap) (v:Value) (h':Heap):Prop:=∃(ts tb u:Sl) (A:List It),v=cfA ts tb/\St h h' A/\It.sl ts 3 1 (S'.map inC)∈A/\It.sl tb 25 1 ((B.set j ⟨u,newL x q.l⟩).map Bx.cs)∈A/\(x.send=true->It.sl u 3 1 ((newL x q.l).map inC)∈A)/\(x.send=false->u=⟨subA q.s.a 1 q.s.c 1,q.s.n-1,q.s.c-1⟩)
theorem do_tail (L:List MR) (s:Sl) (k:Int) (eb:Nat) (ss sb cs cb:Sl) (S:List Int) (B:List Bx) (a b:Nat) (x:Mv) (q:Bx) (h hz:Heap) (bo b5 b6 b7:Nat) (hn:s.n=L.length) (h6:L.length<=6) (ha:a<L.length) (hx0:0<=x.peer) (hx1:x.peer<(L.length:Int))
  (hE:EngR h eb s k L) (hC:CfI h ss sb S B) (hSl:S.length=L.length) (hBl:B.length=L.length*L.length) (gq:B[bxI L.length a x]?=some q) (hq4:q.l.length<=4) (hq1:x.send=false->1<=q.l.length)
  (hs:St h hz [.blk bo [.slice cs.a cs.n cs.c,.slice cb.a cb.n cb.c] 52,.sl cs 3 1 (S.map inC),.sl cb 25 1 (B.map Bx.cs),.blk b7 x.cs 110,.blk b6 [.slice none 0 0,.slice none 0 0] 52,.blk b5 [.int .i64 (a:Int),.int .i64 (b:Int)] 43,.blk h.size [.slice ss.a ss.n ss.c,.slice sb.a sb.n sb.c] 52]) :
  (∃x34:Sl,hc hz ⟨bo,0,none⟩=some (.slice x34.a x34.n x34.c) /\ 
 (∃x35:Int,hc hz ⟨b5,0,none⟩=some (.int .i64 x35) /\ 
 (∃x36:Int,hc hz ⟨b7,4,none⟩=some (.int .i64 x36) /\ 
 (NB x34.a fun b37 o38=>((0<=(x35:Int)/\(x35:Int)<(x34.n:Nat)) /\ 
 (okAt hz ⟨b37,o38+Int.toNat x35*1,none⟩ 1/\∀h39:Heap,h39=hputs hz ⟨b37,o38+Int.toNat x35*1,none⟩ 0 [.int .i64 x36] -> 
 (∃x40:Int,hc h39 ⟨b5,0,none⟩=some (.int .i64 x40) /\ 
 (∃x41:Int,∃x42:Bool,∃x43:Int,∃x44:Int,∃x45:Int,∃x46:Bool,atC h39 ⟨b7,0,none⟩ [.int .i64 x41,.bool x42,.int .i64 x43,.int .i64 x44,.int .i64 x45,.bool x46] /\ 
 (Fn Pz 122 #[.pointer (some ⟨eb,0,none⟩),.int .i64 x40,.agg ⟨[.int .i64 x41,.bool x42,.int .i64 x43,.int .i64 x44,.int .i64 x45,.bool x46]⟩] h39 
 (fun v47 h49=>∃x48:Int,v47=.int .i64 x48 /\ 
 (∃x50:Sl,hc h49 ⟨h.size,1,none⟩=some (.slice x50.a x50.n x50.c) /\ 
 (NB x50.a fun b51 o52=>((0<=(x48:Int)/\(x48:Int)<(x50.n:Nat)) /\ 
 (∃x53:Sl,hc h49 ⟨b51,o52+Int.toNat x48*1,none⟩=some (.slice x53.a x53.n x53.c) /\ 
 (∃x54:Bool,hc h49 ⟨b7,1,none⟩=some (.bool x54) /\ 
 (sB x54 
  ((∃x55:Sl,hc h49 ⟨bo,1,none⟩=some (.slice x55.a x55.n x55.c) /\ 
  (((0:Int)<=(0:Int)/\(0:Int)<=((x53.n:Int):Int)/\((x53.n:Int):Int)<=((x53.n:Int):Int)/\((x53.n:Int):Int)<=(x53.c:Nat)) /\ 
  (∃x56:Int,hc h49 ⟨b7,3,none⟩=some (.int .i64 x56) /\ 
  (∀h57:Heap,h57=h49.push (.cells ⟨[.int .i64 x56]⟩ 3) -> 
  (Sm [⟨bo,1,none⟩] h49 h57 /\ 
  (App Pz 25 25 (.slice (subA x53.a (Int.toNat 0) (Int.toNat (x53.n:Int)) 1) (Int.toNat (x53.n:Int)-Int.toNat 0) (Int.toNat (x53.n:Int)-Int.toNat 0)) (.slice (some ⟨h49.size,0,none⟩) 1 1) h57 fun s58 h59=>
  (Sm [⟨bo,1,none⟩] h57 h59 /\ 
  (NB x55.a fun b60 o61=>((0<=(x48:Int)/\(x48:Int)<(x55.n:Nat)) /\ 
  (okAt h59 ⟨b60,o61+Int.toNat x48*1,none⟩ 1/\∀h62:Heap,h62=hputs h59 ⟨b60,o61+Int.toNat x48*1,none⟩ 0 [.slice s58.a s58.n s58.c] -> 
  (∃x63:Sl,∃x64:Sl,atC h62 ⟨bo,0,none⟩ [.slice x63.a x63.n x63.c,.slice x64.a x64.n x64.c] /\ 
  (okAt h62 ⟨b6,0,none⟩ 2/\∀h65:Heap,h65=hputs h62 ⟨b6,0,none⟩ 0 [.slice x63.a x63.n x63.c,.slice x64.a x64.n x64.c] -> 
  (∃x66:Sl,∃x67:Sl,atC h65 ⟨b6,0,none⟩ [.slice x66.a x66.n x66.c,.slice x67.a x67.n x67.c] /\ 
  DoE (S.set a x.t) B (bxI s.n a x) x q h (.agg ⟨[.slice x66.a x66.n x66.c,.slice x67.a x67.n x67.c]⟩) h65)))))))))))))) 
  ((∃x68:Sl,hc h49 ⟨bo,1,none⟩=some (.slice x68.a x68.n x68.c) /\ 
  (((0:Int)<=(1:Int)/\(1:Int)<=((x53.n:Nat):Int)/\((x53.n:Nat):Int)<=(x53.c:Nat)) /\ 
  (NB x68.a fun b69 o70=>((0<=(x48:Int)/\(x48:Int)<(x68.n:Nat)) /\ 
  (okAt h49 ⟨b69,o70+Int.toNat x48*1,none⟩ 1/\∀h71:Heap,h71=hputs h49 ⟨b69,o70+Int.toNat x48*1,none⟩ 0 [.slice (subA x53.a (Int.toNat 1) x53.c 1) (Int.toNat (x53.n:Nat)-Int.toNat 1) (x53.c-Int.toNat 1)] -> 
  (∃x72:Sl,∃x73:Sl,atC h71 ⟨bo,0,none⟩ [.slice x72.a x72.n x72.c,.slice x73.a x73.n x73.c] /\ 
  (okAt h71 ⟨b6,0,none⟩ 2/\∀h74:Heap,h74=hputs h71 ⟨b6,0,none⟩ 0 [.slice x72.a x72.n x72.c,.slice x73.a x73.n x73.c] -> 
  (∃x75:Sl,∃x76:Sl,atC h74 ⟨b6,0,none⟩ [.slice x75.a x75.n x75.c,.slice x76.a x76.n x76.c] /\ 
  DoE (S.set a x.t) B (bxI s.n a x) x q h (.agg ⟨[.slice x75.a x75.n x75.c,.slice x76.a x76.n x76.c]⟩) h74))))))))))))))))))))))))):=by
 have h36:=sq6 h6;have hj:=bxI_lt (n:=L.length) (x:=x) ha hx0 hx1;have hsn:=hC.s.ln;have hbn:=hC.b.ln;have hcsn:=(hs.rows 1 (s:=cs) (cs:=inC) rfl (by omega)).ln;have hcbn:=(hs.rows 2 (s:=cb) (cs:=Bx.cs) rfl (by omega)).ln;obtain⟨osl,hat,-⟩:=hE.e;have hqi:=hC.i q (Yb gq);have hqn:=hqi.ln;have hqc:=hqi.cap;refine⟨cs,hs.rd 0 rfl (i:=0) rfl,(a:Int),hs.rd 5 rfl (i:=0) rfl,x.t,hs.rd 3 rfl (i:=4) rfl,?_⟩;refine hs.set 1 (s:=cs) (cs:=inC) (x:=(a:Int)) rfl (by omega) (by omega) (by omega) x.t rfl rfl (fun b1 o1 h39 hs=>?_) rfl;rw[Ys] at hs;refine⟨(a:Int),hs.rd 5 rfl (i:=0) rfl,x.f,x.send,x.peer,x.label,x.t,x.ag,hs.at 3 rfl (o:=0) (n:=6) rfl,?_⟩;refine (box69e eb a s x h39 (atC_ext hs.ext hat).hd (by omega) (by omega) hx0 (by omega)).mono ?_;rintro _ h49 ⟨rfl,E⟩;have hs:=hs.step E;rw[hn];refine⟨_,rfl,sb,hs.rd 6 rfl (i:=1) rfl,?_⟩;generalize hjj:bxI L.length a x=j at *;refine (hC.b.rw.ext hs.ext).nbI (by omega) (by omega) fun b51 o52 q' gq' t=>?_;rw[Ys,gq] at gq';cases gq';refine⟨q.s,t.hd,x.send,hs.rd 3 rfl (i:=1) rfl,sB_intro (fun d=>?_) (fun d=>?_)⟩
 .have hnl:newL x q.l=q.l++[x.label]:=by unfold newL;rw[if_pos d]
  refine⟨cb,hs.rd 0 rfl (i:=1) rfl,⟨by omega,by omega,by omega,by omega⟩,x.label,hs.rd 3 rfl (i:=3) rfl,?_⟩;refine hs.newbE fun h57 E57 hs=>⟨E57.sm,?_⟩;have e0:subA q.s.a (Int.toNat 0) (Int.toNat (q.s.n:Int)) 1=q.s.a:=subA_zero _ _ _;rw[e0];refine App_full app25e (y:=⟨q.s.a,q.s.n,q.s.n⟩) (rows:=q.l.map inC) (m:=1) (news:=inC x.label) (show Rw h57 1 ⟨q.s.a,q.s.n,q.s.n⟩ (q.l.map inC) from (hqi.rw.ext hs.ext)) (inrows _) rfl (fun e=>(hqi.nil e).1) (hs.at 0 rfl (n:=1) rfl) rfl (by omega) rfl (by show (q.s.n+1)*8<=_;omega) (by show q.s.n+1<=_;simp only[maxLen];omega) fun u h59 hun hou E59=>?_;have hrows:(q.l.map inC).flatten++inC x.label=((newL x q.l).map inC).flatten:=by rw[hnl,Ym,List.flatten_append];rfl
  rw[hrows] at hou;have hs:=hs.gift E59 hou (inrows _);refine⟨E59.sm,?_⟩;refine hs.set 4 (s:=cb) (cs:=Bx.cs) (x:=(j:Int)) rfl (by omega) (by omega) (by omega) (⟨u,newL x q.l⟩:Bx) rfl rfl (fun b2 o2 h62 hs=>?_) rfl;rw[Ys] at hs;refine⟨cs,cb,hs.at 2 rfl (o:=0) (n:=2) rfl,?_⟩;refine hs.put 6 rfl (o:=0) (vs:=[.slice cs.a cs.n cs.c,.slice cb.a cb.n cb.c]) rfl (show 2<=2 by decide) fun h65 hs=>?_;refine⟨cs,cb,hs.at 6 rfl (o:=0) (n:=2) rfl,cs,cb,u,_,rfl,hs,?_,?_,fun _=>Yx,fun e=>by rw[d] at e;cases e⟩
  .exact Yn _ (Yn _ (Yn _ Yx))
  .exact Yn _ (Yn _ (Yn _ (Yn _ Yx)))
 .have hnl:newL x q.l=q.l.tail:=by unfold newL;rw[if_neg (by rw[d];decide)]
  have h1q:=hq1 d;refine⟨cb,hs.rd 0 rfl (i:=1) rfl,⟨by omega,by omega,by omega⟩,?_⟩;refine hs.set 2 (s:=cb) (cs:=Bx.cs) (x:=(j:Int)) rfl (by omega) (by omega) (by omega) (⟨⟨subA q.s.a (Int.toNat 1) q.s.c 1,Int.toNat (q.s.n:Nat)-Int.toNat 1,q.s.c-Int.toNat 1⟩,newL x q.l⟩:Bx) rfl rfl (fun b2 o2 h71 hs=>?_) rfl;rw[Ys] at hs;refine⟨cs,cb,hs.at 0 rfl (o:=0) (n:=2) rfl,?_⟩;refine hs.put 4 rfl (o:=0) (vs:=[.slice cs.a cs.n cs.c,.slice cb.a cb.n cb.c]) rfl (show 2<=2 by decide) fun h74 hs=>?_;refine⟨cs,cb,hs.at 4 rfl (o:=0) (n:=2) rfl,cs,cb,_,_,rfl,hs,?_,?_,fun e=>(by rw[d] at e;cases e),fun _=>rfl⟩
  .exact Yn _ Yx
  .exact Yn _ (Yn _ Yx)
theorem It.apart.symm {i j:It} (h:It.apart i j):It.apart j i:=fun b hb hc=>h b hc hb
theorem St.picks {h0 h:Heap} {L L':List It} (hs:St h0 h L) (ks:List Nat) (nd:ks.Nodup) (hL:L'.map some=ks.map fun k=>L[k]?):St h0 h L':=by
 have hlen:L'.length=ks.length:=by have:=congrArg List.length hL;rwa [Yc,Yc] at this
 have hget:∀(j:Nat) (hj:j<L'.length) (hk:j<ks.length),L[ks[j]]?=some L'[j]:=fun j hj hk=>by
  have h1:(L'.map some)[j]?=some (some L'[j]):=by rw[Yd,Yi hj];rfl
  rw[hL,Yd,Yi hk] at h1;exact Yyp h1
 refine⟨hs.ext,fun i hi=>?_,?_⟩
 .obtain⟨j,hj,rfl⟩:=List.mem_iff_getElem.1 hi;exact hs.ok _ (Yb (hget j hj (by omega)))
 .rw[List.pairwise_iff_getElem];intro a b ha hb hab;have h1:=hget a ha (by omega);have h2:=hget b hb (by omega);have hne:ks[a]'(by omega)≠ks[b]'(by omega):=List.pairwise_iff_getElem.1 nd a b (by omega) (by omega) hab;obtain⟨l1,e1⟩:=Ya.1 h1;obtain⟨l2,e2⟩:=Ya.1 h2;have hp:=List.pairwise_iff_getElem.1 hs.ap;rcases Nat.lt_or_gt_of_ne hne with h | h
  .have:=hp _ _ l1 l2 h
   rwa [e1,e2] at this
  .have:=hp _ _ l2 l1 h;rw[e1,e2] at this;exact this.symm
theorem bxrows28 (B:List Bx):∀r∈B.map Bx.cs,r.length=1:=fun r hr=>by obtain⟨x,_,rfl⟩:=Yp.1 hr;rfl
theorem clone74 (B:List Bx) (s:Sl) (h:Heap) (hr:RL h 1 s Bx.cs B):Fn Pz 127 #[.slice s.a s.n s.c] h fun v h'=>∃t:Sl,v=.slice t.a t.n t.c/\St h h' [.sl t 25 1 (B.map Bx.cs)]:=by
 apply vc127 s;unfold W127;have hn:=hr.ln;have hsm:=hr.sm;refine sB_intro (fun c=>?_) (fun c=>?_)
 .have h0:=hr.nil (Option.isNone_iff_eq_none.1 c);have:B=[]:=List.eq_nil_of_length_eq_zero (by omega);subst this;exact⟨⟨none,0,0⟩,rfl,(St.refl h).nil_ 25 1⟩
 .refine (St.refl h).newb fun h1 hs=>?_;have hs:=hs.blkS 0 1 [] rfl (fun r hr=>by cases hr) rfl (Nat.zero_le _);refine hs.appRw 0 (s:=⟨some ⟨h.size,0,none⟩,0,0⟩) (rows:=[]) (y:=s) rfl app26e (hr.rw.ext hs.ext) (bxrows28 B) hr.nil (flat_oneB (fun _=>rfl) _) (by show (0+s.n)*24<=_;omega) (by show 0+s.n<=_;simp only[maxLen];omega) fun r h3 _ hs=>?_;exact⟨r,rfl,hs⟩
theorem do37 (L:List MR) (s:Sl) (k:Int) (eb:Nat) (ss sb:Sl) (S:List Int) (B:List Bx) (a b:Nat) (m:Mch) (x:Mv) (q:Bx) (h:Heap) (hS:SyI h s L) (hE:EngR h eb s k L) (hC:CfI h ss sb S B) (hP:ProS (L.map MR.m) k S (B.map Bx.l))
  (gm:(L.map MR.m)[a]?=some m) (gx:m.mv[b]?=some x) (hc:canS L.length k S (B.map Bx.l) a x=0) (gq:B[bxI L.length a x]?=some q) :
  Fn Pz 65 #[.pointer (some ⟨eb,0,none⟩),.agg ⟨[.slice ss.a ss.n ss.c,.slice sb.a sb.n sb.c]⟩,.agg ⟨[.int .i64 (a:Int),.int .i64 (b:Int)]⟩] h (DoE (S.set a x.t) B (bxI s.n a x) x q h):=by
 apply vc65 ⟨eb,0,none⟩ ss sb (a:Int) (b:Int);unfold W65 V65a V65b;have hn:=hS.r.ln;have hlm:(L.map MR.m).length=L.length:=Yc _;have hbm:(B.map Bx.l).length=B.length:=Yc _;have hV6:=hP.v.n;rw[hlm] at hV6;have hSl:S.length=L.length:=by rw[hP.p.s,hlm]
 have hBl:B.length=L.length*L.length:=by rw[<-hbm,hP.p.b,hlm]
 have ha:a<L.length:=by have:=(Ya.1 gm).1;omega
 have hxm:=Yb gx;have hvm:=hP.v.m a m gm;have hx0:=(hvm.2.1.n.mv x hxm).2.2.2.2.1;have hx1:=hvm.2.2 x hxm;rw[hlm] at hx1;have hql:(B.map Bx.l)[bxI L.length a x]?=some q.l:=by rw[Yd,gq];rfl
 have hq4:q.l.length<=4:=by have:=(hP.p.bx _ q.l hql).1;have:=hP.c;omega
 have hqd:(B.map Bx.l).getD (bxI L.length a x) []=q.l:=getD_map gq;have hq1:x.send=false->1<=q.l.length:=fun d=>by
  obtain⟨r,hr⟩:=(can_parts.1 hc).2.2 d;rw[hqd] at hr;rw[hr,Yyj];omega
 obtain⟨osl,hat,-⟩:=hE.e;rw[Yd] at gm;cases gy:L[a]? with
 | none=>rw[gy] at gm;cases gm
 | some y=>
  rw[gy] at gm;cases gm;have hyi:=hS.i y (Yb gy);have hgl:=hyi.pm.ln;have hbl:=(Ya.1 gx).1;refine (St.refl h).newb fun h5 hs=>?_;refine hs.newb fun h6 hs=>?_;refine hs.newb fun h7 hs=>?_;refine⟨s,(atC_ext hs.ext hat).hd,(a:Int),hs.rd 1 rfl (i:=0) rfl,?_⟩;refine (hS.r.rw.ext hs.ext).nbI (by omega) (by omega) fun b10 o11 y' gy' t=>?_;rw[Ys] at gy';replace gy':L[a]?=some y':=gy';rw[gy] at gy';cases gy';refine⟨y.g,t.nth 4 rfl,(b:Int),hs.rd 1 rfl (i:=1) rfl,?_⟩;refine (hyi.pm.rw.ext hs.ext).nbI (by omega) (by omega) fun b14 o15 x' gx' t2=>?_;rw[Ys] at gx';replace gx':y.m.mv[b]?=some x':=gx';rw[gx] at gx';cases gx';refine⟨_,_,_,_,_,_,t2,?_⟩;refine hs.newbE fun h22 E22 hs=>⟨E22.sm,?_⟩;refine hs.put 0 rfl (o:=0) (vs:=x.cs) rfl (show 6<=6 by decide) fun h23 hs=>?_;refine⟨ss,hs.rd 3 rfl (i:=0) rfl,sb,hs.rd 3 rfl (i:=1) rfl,?_⟩;have cS:=fun h' (E:Ext h23 h')=>clone92 S ss h' (hC.s.ext (hs.ext.trans E));have cB:=fun h' (E:Ext h23 h')=>clone74 B sb h' (hC.b.ext (hs.ext.trans E));have E:Ext h23 h23:=.rfl'
  repeat' first
   | (refine (cS _ E).mono ?_;rintro _ _ ⟨cs,rfl,hsS⟩;have hs:=hs.join hsS;have E:=E.trans hsS.ext;have E1:=hsS.ext;refine⟨cs,rfl,?_⟩)
   | (refine (cB _ E).mono ?_;rintro _ _ ⟨cb,rfl,hsB⟩;have hs:=hs.join hsB;have E:=E.trans hsB.ext;have E1:=hsB.ext;refine⟨cb,rfl,?_⟩)
   | (refine hs.newbE fun hh Eh hs=>⟨Eh.sm,?_⟩;have E:=E.trans Eh)
   | (refine⟨E1.sm,?_⟩)
   | (refine hs.put 0 rfl (o:=0) (vs:=[.slice cs.a cs.n cs.c,.slice cb.a cb.n cb.c]) rfl (show 2<=2 by decide) fun h33 hs=>?_)
   | (exact do_tail L s k eb ss sb cs cb S B a b x q h _ _ _ _ _ hn hV6.2 ha hx0 hx1 hE hC hSl hBl gq hq4 hq1 (hs.picks [0,5,6,1,2,3,4] (by decide) rfl))
   | (exact do_tail L s k eb ss sb cs cb S B a b x q h _ _ _ _ _ hn hV6.2 ha hx0 hx1 hE hC hSl hBl gq hq4 hq1 (hs.picks [0,6,5,1,2,3,4] (by decide) rfl))
   | (refine And.intro ?_ ?_)
def Sta (A:List It) (P:Heap->Prop):Prop:=∀(h0 h:Heap) (A':List It),(∀i∈A,i∈A')->St h0 h A'->P h
theorem Sta.mono {A A':List It} {P:Heap->Prop} (hA:Sta A P) (h:∀i∈A,i∈A'):Sta A' P:=fun h0 hh A2 h2 hs=>hA h0 hh A2 (fun i hi=>h2 i (h i hi)) hs
theorem Sta.at {A:List It} {P:Heap->Prop} (hA:Sta A P) {h0 h:Heap} {A':List It} (hs:St h0 h A') (hi:∀i∈A,i∈A'):P h:=hA h0 h A' hi hs
theorem St.rlm {h0 h:Heap} {L:List It} (hs:St h0 h L) {s:Sl} {e n:Nat} {α:Type} {cs:α->List Value} {X:List α} (hk:It.sl s e n (X.map cs)∈L) (hn:0<n) (hX:X.length<=1048576):RL h n s cs X:=by
 obtain⟨k,hk⟩:=Yf.1 hk;obtain⟨h1,h2,h3⟩:=hs.len k hk hn;exact⟨hs.rows k hk hn,h2,h3,hX⟩
def CfN (A:List It) (ss sb:Sl) (S:List Int) (B:List Bx):Prop:=Sta A fun h=>CfI h ss sb S B
theorem RL.tail1 {h:Heap} {s:Sl} {l:List Int} (hr:RL h 1 s inC l) (hl:1<=l.length):RL h 1 ⟨subA s.a 1 s.c 1,s.n-1,s.c-1⟩ inC l.tail:=by
 have hn:=hr.ln;have hc:=hr.cap;have h1:=M.intrw hr.rw hc (i:=1) (by omega);rw[List.drop_one] at h1;exact⟨h1,by show s.n-1<=s.c-1;omega,fun e=>M.subA_nil hr.nil e,by have:=hr.sm;rw[List.length_tail];omega⟩
theorem do_next {A A1:List It} {ss sb ts tb u:Sl} {S S':List Int} {B:List Bx} {j:Nat} {x:Mv} {q:Bx} (hC:CfN A ss sb S B) (hq:B[j]?=some q) (hS':S'.length<=1048576) (hB:B.length<=1048576) (hq4:q.l.length<=4) (hq1:x.send=false->1<=q.l.length)
  (h1:It.sl ts 3 1 (S'.map inC)∈A1) (h2:It.sl tb 25 1 ((B.set j ⟨u,newL x q.l⟩).map Bx.cs)∈A1) (h3:x.send=true->It.sl u 3 1 ((newL x q.l).map inC)∈A1) (h4:x.send=false->u=⟨subA q.s.a 1 q.s.c 1,q.s.n-1,q.s.c-1⟩) :
  CfN (A++A1) ts tb S' (B.set j ⟨u,newL x q.l⟩):=by
 intro h0 h A' hA hs;have hC:=hC h0 h A' (fun i hi=>hA i (List.mem_append_left _ hi)) hs;have hA1:∀i∈A1,i∈A':=fun i hi=>hA i (List.mem_append_right _ hi);have hn:(newL x q.l).length<=5:=by
  unfold newL;split
  .rw[Yh,Yv];omega
  .rw[List.length_tail];omega
 refine⟨hs.rlm (hA1 _ h1) (by omega) hS',hs.rlm (hA1 _ h2) (by omega) (by rw[Yyh];exact hB),fun z hz=>?_⟩;rcases List.mem_or_eq_of_mem_set hz with hz | rfl
 .exact hC.i z hz
 .cases hd:x.send with
  | true=>exact hs.rlm (hA1 _ (h3 hd)) (by omega) (by show (newL x q.l).length<=_;omega)
  | false=>
   have e:newL x q.l=q.l.tail:=by unfold newL;rw[if_neg (by rw[hd];decide)]
   show RL h 1 u inC (newL x q.l);rw[h4 hd,e];exact (hC.i q (Yb hq)).tail1 (hq1 hd)
theorem St.cut {h0 h:Heap} {L:List It} (hs:St h0 h L) (k:Nat) {s:Sl} {e:TypeId} {n:Nat} {rows:List (List Value)} (hk:L[k]?=some (.sl s e n rows)) (hn:0<n) (i:Nat) (hi:i<=s.n):St h0 h (L.set k (.sl ⟨subA s.a (Int.toNat 0) s.c n,Int.toNat (i:Int)-Int.toNat 0,s.c-Int.toNat 0⟩ e n (rows.take i))):=by
 have e0:subA s.a (Int.toNat 0) s.c n=s.a:=subA_zero _ _ _;rw[e0,show Int.toNat (i:Int)-Int.toNat 0=i from rfl,show s.c-Int.toNat 0=s.c from rfl];have hget:=hs.get hk;have hln:=(hs.rw k hk hn).1;have hrl:∀r∈rows.take i,r.length=n:=fun r hr=>hget.2 r (List.mem_of_mem_take hr);have hfl:(rows.take i).flatten.length=i*n:=by rw[flatten_len _ hrl,Yu,Nat.min_eq_left (by omega)]
 refine hs.turn hk (Yyt _) (j:=.sl ⟨s.a,i,s.c⟩ e n (rows.take i)) ⟨⟨hfl,?_⟩,hrl⟩ (fun b hb=>.inr hb) (fun _ _ _=>rfl);rcases hget.1.2 with ⟨ha,hn0,hc0⟩ | ⟨g,cur,ha,hb0,hh,hnc,hcm,hsz,htk⟩
 .exact .inl ⟨ha,by show i=0;omega,hc0⟩
 .refine .inr ⟨g,cur,ha,hb0,hh,by show i<=s.c;omega,hcm,hsz,?_⟩;have hm:i*n<=s.n*n:=Nat.mul_le_mul_right _ hi;have h3:(rows.take i).flatten=rows.flatten.take (i*n):=by
   have h5:rows=rows.take i++rows.drop i:=(List.take_append_drop i rows).symm;rw[congrArg List.flatten h5,List.flatten_append,Yyq (by rw[hfl];exact Yyt _)];rw[Yj (l:=(rows.take i).flatten) (by rw[hfl];exact Yyt _)]
  show cur.toList.take (i*n)=_;rw[h3,<-htk,List.take_take,Nat.min_eq_left (by omega)]
def Blk (peer:Int) (x:Mv):Prop:=x.send=false/\x.peer=peer
def medB (m:Mch) (peer:Int):List Ed:=(m.mv.filter fun x=>!(!x.send&&x.peer==peer)).map fun x=>⟨x.f,0,0,0,x.t,false⟩
theorem medB_mem {m:Mch} {peer:Int} {x:Mv} (hx:x∈m.mv) (hb:¬Blk peer x):(⟨x.f,0,0,0,x.t,false⟩:Ed)∈medB m peer:=by
 refine Yp.2 ⟨x,List.mem_filter.2 ⟨hx,?_⟩,rfl⟩;cases h:x.send with
 | true=>rfl
 | false=>
  have:x.peer≠peer:=fun e=>hb ⟨h,e⟩;simp[this]
theorem medB_q {m:Mch} {peer:Int} {n:Nat} {b:Int}:b∈quietL (medB m peer) (-1) n ↔ ∃x∈m.mv,¬Blk peer x/\x.f=(n:Int)/\x.t=b:=by
 rw[quietL_mem];constructor
 .rintro⟨e,he,_,hf,ht⟩;obtain⟨x,hx,rfl⟩:=Yp.1 he;obtain⟨h1,h2⟩:=List.mem_filter.1 hx;exact⟨x,h1,fun hc=>by rw[hc.1,hc.2] at h2;simp at h2,hf,ht⟩
 .rintro⟨x,hx,hb,hf,ht⟩;exact⟨_,medB_mem hx hb,rfl,hf,ht⟩
theorem medB_step {m:Mch} {peer s v:Int} {x:Mv} (h:Qr (medB m peer) (-1) [s] v) (hx:x∈m.mv) (hb:¬Blk peer x) (hf:x.f=v):Qr (medB m peer) (-1) [s] x.t:=
 .step h ⟨_,medB_mem hx hb,rfl,hf,rfl⟩
def ExpM (m:Mch) (s peer label:Int):Prop:=∃v,Qr (medB m peer) (-1) [s] v/\∃x∈m.mv,x.f=v/\Blk peer x/\x.label=label
def DoneV (m:Mch) (peer label:Int) (T:List Int) (x:Mv):Prop:=(Blk peer x->x.label≠label)/\(¬Blk peer x->x.t∈T)
def DoneM (m:Mch) (peer label:Int) (T:List Int) (v:Int):Prop:=∀x∈m.mv,x.f=v->DoneV m peer label T x
theorem DoneV.mono {m:Mch} {peer label:Int} {T T':List Int} {x:Mv} (h:DoneV m peer label T x) (hT:∀z∈T,z∈T'):DoneV m peer label T' x:=⟨h.1,fun hn=>hT _ (h.2 hn)⟩
theorem DoneM.mono {m:Mch} {peer label:Int} {T T':List Int} {v:Int} (h:DoneM m peer label T v) (hT:∀z∈T,z∈T'):DoneM m peer label T' v:=fun x hx hf=>(h x hx hf).mono hT
theorem exp_end {m:Mch} {s peer label:Int} {n:Nat} {D:List Bool} {T:List Int} (hC:CL (medB m peer) (-1) n [s] D T) (hsT:s∈T) (hd:∀v∈T,DoneM m peer label T v):¬ExpM m s peer label:=by
 rintro⟨v,hq,x,hx,hf,h1,h3⟩;have hv:=(hC.end_ (fun y hy=>by rw[Ye.1 hy];exact hsT) (fun v hv b hb=>by
  obtain⟨x,hx,hb',hf,rfl⟩:=medB_q.1 hb;exact (hd v hv x hx (by rw[hf];exact Int.toNat_of_nonneg ((hC.mem v).1 hv).1)).2 hb') v).2 hq
 exact (hd v hv x hx hf).1 h1 h3
end Go.VC
end

section
namespace Go.VC
open Go.Proofs Go.LexS Go.Maps
structure Wt where
 r:Int
 s:Int
 p:Int
 l:Int
deriving DecidableEq
def Wt.cs (w:Wt):List Value:=[.int .i64 w.r,.int .i64 w.s,.int .i64 w.p,.int .i64 w.l]
def Wt.v (w:Wt):Value:=.agg ⟨w.cs⟩
def Wt.ok (w:Wt):Prop:=inR w.r/\inR w.s/\inR w.p/\inR w.l
theorem s156 : ∃ fs, Pz.underlying 202 = some (.struct fs) /\ fs.all (·.name != "_") = true /\ fs.toList.map (fun f => (f.type, f.offset)) = [(3, 0), (3, 1), (3, 2), (3, 3)] := su (by kernel_rfl)
theorem c156:Pz.cellsOf 202=4:=by kernel_rfl
theorem key_wt (w:Wt) (h:w.ok):∃l,keyOf Pz 202 w.v=some l:=by
 obtain⟨fs,hu,hn,hf⟩:=s156;obtain⟨h1,h2,h3,h4⟩:=h;have hsz:∃n,Pz.types.size+1=n+3:=⟨Pz.types.size-2,by have:2<=Pz.types.size:=Yyn (by kernel_rfl);omega⟩;obtain⟨n,hsz⟩:=hsz;have hl:Pz.keyLits (n+3) 202 w.cs=some [[.int .i64 w.r],[.int .i64 w.s],[.int .i64 w.p],[.int .i64 w.l]].flatten:=by
  refine kl_struct hu (by rw[c156];rfl) hn hf ?_;simp only[List.mapM_cons,List.mapM_nil,c3,Wt.cs,List.drop_zero,List.take_succ_cons,Yyk,List.drop_succ_cons,kl_int u3 h1.wf,kl_int u3 h2.wf,kl_int u3 h3.wf,kl_int u3 h4.wf];rfl
 have hkt:Pz.keyType 202=true:=by kernel_rfl
 have hfo:w.v.formed Pz 202=true:=by
  unfold Wt.v Value.formed;simp only[hu,c156];rfl
 have e:keyOf Pz 202 w.v=(Pz.keyLits (n+3) 202 w.cs).map fun ls=>.string (keyBytes ls):=by
  unfold keyOf;simp only[hu,hkt,hfo,Bool.and_self,if_true,hsz];rfl
 rw[e,hl];exact⟨_,rfl⟩
theorem Wt.v_inj (a b:Wt) (h:a.v=b.v):a=b:=by
 obtain⟨a1,a2,a3,a4⟩:=a;obtain⟨b1,b2,b3,b4⟩:=b;unfold Wt.v Wt.cs at h;simp at h;obtain⟨rfl,rfl,rfl,rfl⟩:=h;rfl
theorem M144:MT Pz 193 202 4 Wt.v Wt.ok (.bool false) where
 K:=Keyed.of_law (deep_law_laid laid25 (m:=2) (by omega) (Yyn (by kernel_rfl)) (by kernel_rfl) (by kernel_rfl))
 ht:=by kernel_rfl
 key:=key_wt
 inj:=Wt.v_inj
 z:=fun w=>by kernel_rfl
structure WtOk (L:List MR) (K:List (Wt × Bool)):Prop where
 nd:(K.map Prod.fst).Nodup
 ok:∀q∈K,q.1.ok/\∃(p:Nat) (y:MR),q.1.r=(p:Int)/\L[p]?=some y/\(q.2=true ↔ ExpM y.m q.1.s q.1.p q.1.l)
def wtC (q:Wt × Bool):Value × Value:=(q.1.v,.bool q.2)
theorem mgetE_mem {α β:Type} [DecidableEq α] {a:α} {b:β}:∀ {l:List (α × β)},mget l a=some b->(a,b)∈l
 | [],h=>by cases h
 | (x,y)::r,h=>by
  unfold mget at h;split at h
  .rename_i e;cases h;first
    | (subst e;exact Yx)
    | (rw[<-e];exact Yx)
  .exact Yn _ (mgetE_mem h)
theorem mget_nomem {α β:Type} [DecidableEq α] {a:α}:∀ {l:List (α × β)},mget l a=none->∀q∈l,q.1≠a
 | [],_,q,hq=>by cases hq
 | (x,y)::r,h,q,hq=>by
  unfold mget at h;split at h
  .cases h
  .rename_i e;rcases Yr.1 hq with rfl | hq
   .exact fun e2=>e (by first | exact e2 | exact e2.symm)
   .exact mget_nomem h q hq
theorem WtOk.set {L:List MR} {K:List (Wt × Bool)} (hK:WtOk L K) {w:Wt} {b:Bool} (hn:mget K w=none) (hw:w.ok) {p:Nat} {y:MR} (h1:w.r=(p:Int)) (h2:L[p]?=some y) (h3:b=true ↔ ExpM y.m w.s w.p w.l):WtOk L (mset K w b):=by
 refine⟨mset_nodup w b K hK.nd,fun q hq=>?_⟩;rw[mset_none (mget_nomem hn)] at hq;rcases Yk.1 hq with hq | hq
 .exact hK.ok q hq
 .rw[Ye.1 hq];exact⟨hw,p,y,h1,h2,h3⟩
end Go.VC
end

section
namespace Go.VC
open Go.Proofs Go.LexS
structure EngX (h:Heap) (eb wb:Nat) (s:Sl) (k:Int) (L:List MR) (osl:Sl) (os:Nat->Sl) (qs:Nat->Nat->Sl):Prop where
 e:atC h ⟨eb,0,none⟩ [.slice s.a s.n s.c,.int .i64 k,.slice osl.a osl.n osl.c,.map (some wb)]
 o:Rw h 1 osl ((List.range L.length).map fun p=>slR (os p))
 p:∀(p:Nat) x,L[p]?=some x->Rw h 1 (os p) ((List.range x.m.n.toNat).map fun s=>slR (qs p s))
 q:∀(p:Nat) x,L[p]?=some x->∀s,s<x.m.n.toNat->Rw h 1 (qs p s) ((natI (mvS x.m (s:Int))).map inC)
theorem EngX.r {h:Heap} {eb wb:Nat} {s:Sl} {k:Int} {L:List MR} {osl:Sl} {os:Nat->Sl} {qs:Nat->Nat->Sl} (hE:EngX h eb wb s k L osl os qs):EngR h eb s k L:=
 ⟨osl,hE.e.sub0 3 rfl,os,qs,hE.o,fun p x hx=>⟨hE.p p x hx,hE.q p x hx⟩⟩
theorem mem1 {A:List It} {a:It}:∀i∈A,i∈a::A:=fun _ hi=>Yn _ hi
theorem mem2 {A:List It} {a b:It}:∀i∈A,i∈a::b::A:=fun _ hi=>Yn _ (Yn _ hi)
theorem mem5 {A:List It} {a b c d e:It}:∀i∈A,i∈a::b::c::d::e::A:=fun _ hi=>Yn _ (Yn _ (Yn _ (Yn _ (Yn _ hi))))
theorem expected70 (L:List MR) (s:Sl) (k:Int) (eb wb p:Nat) (y:MR) (z peer label:Int) (K:List (Wt × Bool)) (osl:Sl) (os:Nat->Sl) (qs:Nat->Nat->Sl) {h0 h:Heap} {A:List It} (hs:St h0 h (.mp wb (K.map wtC)::A)) (hS:SyI h0 s L) (hV:SysV (L.map MR.m))
  (hE:Sta A fun h=>EngX h eb wb s k L osl os qs) (hK:WtOk L K) (gy:L[p]?=some y) (hz:0<=z/\z<y.m.n) (hpe:inR peer) (hla:inR label) :
  Fn Pz 123 #[.pointer (some ⟨eb,0,none⟩),.agg ⟨[.int .i64 (p:Int),.int .i64 z,.int .i64 peer,.int .i64 label]⟩] h fun v h'=>∃(b:Bool) (K':List (Wt × Bool)),v=.bool b/\(b=true ↔ ExpM y.m z peer label)/\WtOk L K'/\St h0 h' (.mp wb (K'.map wtC)::A):=by
 apply vc123 ⟨eb,0,none⟩ (p:Int) z peer label;unfold W123 V123b V123a;have hn:=hS.r.ln;have hsm:=hS.r.sm;have gm:(L.map MR.m)[p]?=some y.m:=by rw[Yd,gy];rfl
 have hpl:=(Ya.1 gy).1;have hvm:=hV.m p y.m gm;have hN:=hvm.2.1.n;have hN1:=hN.n;have hml:=hN.ml;have hyi:=hS.i y (Yb gy);have hgl:=hyi.pm.ln;have hwok:(⟨(p:Int),z,peer,label⟩:Wt).ok:=⟨show inR (p:Int) from ⟨by omega,by omega⟩,show inR z from ⟨by omega,by omega⟩,hpe,hla⟩;have hKok:∀q∈K,q.1.ok:=fun q hq=>(hK.ok q hq).1;refine hs.newb fun h5 hs=>?_;have hX:=hE.at hs mem2;refine⟨some wb,hX.e.nth 3 rfl,(p:Int),z,peer,label,hs.at 0 rfl (o:=0) (n:=4) rfl,?_⟩;refine hs.mlookOk M144 (cv:=Value.bool) (l:=K) 1 rfl hKok hK.nd (a:=⟨(p:Int),z,peer,label⟩) hwok ?_;cases hg:mget K ⟨(p:Int),z,peer,label⟩ with
 | some b=>
  refine⟨b,true,rfl,sB_t rfl ⟨b,K,rfl,?_,hK,hs.drop 1⟩⟩;obtain⟨_,p',y',e1,e2,e3⟩:=hK.ok _ (mget_mem hg);have:p'=p:=by dsimp only at e1;omega
  subst this;rw[gy] at e2;cases e2;exact e3
 | none=>
  refine⟨false,false,rfl,sB_f rfl ?_⟩;refine⟨s,hX.e.hd,(p:Int),hs.rd 0 rfl (i:=0) rfl,?_⟩;refine (hS.r.rw.ext hs.ext).nbI (by omega) (by omega) fun b17 o18 y' gy' t=>?_;rw[Ys] at gy';replace gy':L[p]?=some y':=gy';rw[gy] at gy';cases gy';refine⟨_,_,_,_,_,_,t,?_⟩;refine hs.newbE fun h25 E25 hs=>⟨E25.sm,?_⟩;refine hs.put 0 rfl (o:=0) (vs:=MR.cs y) rfl (show 6<=6 by decide) fun h26 hs=>?_;refine⟨y.m.n,hs.rd 0 rfl (i:=1) rfl,⟨by omega,by omega,by omega⟩,?_⟩;rw[made4];refine hs.newb fun h28 hs=>?_;refine⟨z,hs.rd 2 rfl (i:=1) rfl,⟨by omega,by omega⟩,?_⟩;rw[show 0+Int.toNat z*1=z.toNat by omega];refine hs.put 0 rfl (o:=z.toNat) (vs:=[.bool true]) rfl (by rw[Yc,Yg,Yv];omega) fun h30 hs=>?_;rw[map_splice _ (by rw[Yg];omega)] at hs;refine⟨z,hs.rd 2 rfl (i:=1) rfl,?_⟩;refine hs.newb fun h32 hs=>?_;have hs:=hs.blkS 1 1 ([z].map inC) rfl (inrows _) rfl (by decide);have hC0:CL (medB y.m peer) (-1) y.m.n.toNat [z] ((List.replicate y.m.n.toNat false).set z.toNat true) [z]:=
   (CL.start (medB y.m peer) (-1) y.m.n.toNat [z]).push hz.1 (by rw[List.getElem?_replicate,if_pos (by omega)]) (.base (Ye.2 rfl))
  refine⟨fun ok todo x h' μ=>∃(i:Nat) (D:List Bool) (T:List Int),x=i/\μ=y.m.n.toNat-i/\i<=T.length/\St h0 h' (.sl todo 3 1 (T.map inC) :: .blk h26.size (D.map Value.bool) 4 :: .blk h5.size (MR.cs y) 98 :: .blk h.size [.int .i64 (p:Int),.int .i64 z,.int .i64 peer,.int .i64 label] 202 :: .mp wb (K.map wtC)::A)/\CL (medB y.m peer) (-1) y.m.n.toNat [z] D T/\z∈T/\(ok=true->ExpM y.m z peer label)/\(ok=false->∀v∈T.take i,DoneM y.m peer label T v),⟨_,0,_,_,rfl,rfl,Nat.zero_le _,hs,hC0,Ye.2 rfl,fun h=>(by cases h),fun _ v hv=>by rw[Yyk] at hv;cases hv⟩,?_⟩;clear hs hC0 hX t;rintro-ok todo _ h39 μ ⟨i,D,T,rfl,rfl,hi,hs,hC,hzT,hok1,hok2⟩;have hln:=(hs.rows 0 (s:=todo) (cs:=inC) rfl (by omega)).ln;have hle:=hC.le;have hX:=hE.at hs mem5;have hend:∀b:Bool,ok=b->(b=true ↔ ExpM y.m z peer label)->∃x100:Option Nat,hc h39 ⟨eb,0+3,none⟩=some (.map x100)/\∃x101 x102 x103 x104:Int,atC h39 ⟨h.size,0,none⟩ [.int .i64 x101,.int .i64 x102,.int .i64 x103,.int .i64 x104]/\RunW Pz (Instr.mapUpdate 193 (.map x100) (.agg ⟨[.int .i64 x101,.int .i64 x102,.int .i64 x103,.int .i64 x104]⟩) (.bool ok)) h39 fun _ h105=>∃(b:Bool) (K':List (Wt × Bool)),Value.bool ok=.bool b/\(b=true ↔ ExpM y.m z peer label)/\WtOk L K'/\St h0 h105 (.mp wb (K'.map wtC)::A):=fun b e hb=>by
   refine⟨some wb,hX.e.nth 3 rfl,(p:Int),z,peer,label,hs.at 3 rfl (o:=0) (n:=4) rfl,?_⟩;refine hs.mput M144 (cv:=Value.bool) (l:=K) 4 rfl hKok hK.nd (a:=⟨(p:Int),z,peer,label⟩) hwok ok fun h105 hs=>?_;exact⟨ok,mset K ⟨(p:Int),z,peer,label⟩ ok,rfl,by rw[e];exact hb,hK.set hg hwok rfl gy (by rw[e];exact hb),hs.drop 4⟩
  refine sBi (fun c1=>?_) (fun c1=>?_)
  .refine sB_intro (fun co=>?_) (fun co=>?_)
   .have hof:ok=false:=bF co;subst hof;have hok2:=hok2 rfl;clear hend;obtain⟨v,gv⟩:=get_some (l:=T) (i:=i) (by omega);have hvT:=Yb gv;have hvm2:=(hC.mem v).1 hvT;have hDl:=hC.len;have hvl:v.toNat<y.m.n.toNat:=by have:=(Ya.1 hvm2.2).1;omega
    have hiT:i<T.length:=(Ya.1 gv).1;refine⟨osl,hX.e.nth 2 rfl,(p:Int),hs.rd 3 rfl (i:=0) rfl,?_⟩;have hon:osl.n=L.length:=by rw[hX.o.1,Yc,Yyd]
    refine hX.o.nbI (by omega) (by omega) fun b42 o43 p' gp t2=>?_;rw[Ys,Yyb (by omega)] at gp;cases gp;refine⟨os p,t2.hd,?_⟩;refine (hs.rows 0 (s:=todo) (cs:=inC) rfl (by omega)).nbI (by omega) (by omega) fun b45 o46 v' gv' t3=>?_;rw[Ys,gv] at gv';cases gv';refine⟨v,t3.hd,?_⟩;have hpn:=hX.p p y gy;have hosn:(os p).n=y.m.n.toNat:=by rw[hpn.1,Yc,Yyd]
    refine hpn.nbI hvm2.1 (by omega) fun b48 o49 v' gv' t4=>?_;rw[Yyb (by omega)] at gv';cases gv';refine⟨qs p v.toNat,t4.hd,?_⟩;have hvc:((v.toNat:Nat):Int)=v:=Int.toNat_of_nonneg hvm2.1;obtain⟨hpm,-⟩:=mvS_srt y.m v;have hrow:=hX.q p y gy v.toNat hvl;rw[hvc] at hrow;have hrn:=hrow.ln;rw[show (natI (mvS y.m v)).length=(mvS y.m v).length from Yc _] at hrn;have hOl:(mvS y.m v).length<=y.m.mv.length:=by
     rw[hpm.length_eq];unfold outIx;refine Yys (List.length_filter_le _ _) ?_;rw[Yyd];exact Yyt _
    have hOe:mvS y.m ((v.toNat:Nat):Int)=mvS y.m v:=by rw[hvc]
    generalize hO:mvS y.m v=O at *;refine⟨fun ok todo x h' μ=>∃(j:Nat) (D:List Bool) (T':List Int),x=j/\μ=O.length-j/\j<=O.length/\St h0 h' (.sl todo 3 1 (T'.map inC) :: .blk h26.size (D.map Value.bool) 4 :: .blk h5.size (MR.cs y) 98 :: .blk h.size [.int .i64 (p:Int),.int .i64 z,.int .i64 peer,.int .i64 label] 202 :: .mp wb (K.map wtC)::A)/\CL (medB y.m peer) (-1) y.m.n.toNat [z] D T'/\(∃R,T'=T++R)/\(ok=true->ExpM y.m z peer label)/\(ok=false->∀q∈O.take j,∀x,y.m.mv[q]?=some x->DoneV y.m peer label T' x),⟨_,0,D,T,rfl,rfl,Nat.zero_le _,hs,hC,⟨[],by simp⟩,fun h=>(by cases h),fun _ q hq=>by rw[Yyk] at hq;cases hq⟩,?_⟩;clear hs hC hln hX hrow hpn hok1 t2 t3 t4 hle;rintro-ok todo2 _ h57 μ ⟨j,D,T',rfl,rfl,hj,hs,hC,⟨R,rfl⟩,hi1,hi2⟩;have hle2:=hC.le;have hDl:=hC.len;have hln:=(hs.rows 0 (s:=todo2) (cs:=inC) rfl (by omega)).ln;have hX:=hE.at hs mem5;refine sBi (fun c2=>?_) (fun c2=>?_)
    .obtain⟨q,gq⟩:=get_some (l:=O) (i:=j) (by omega);obtain⟨x,gx,hxf⟩:=outIx_mem.1 (hpm.mem_iff.1 (Yb gq));have hqm:=(Ya.1 gx).1;have hxm:=Yb gx;have hxr:=hN.mv x hxm;have hrow:=hX.q p y gy v.toNat hvl;rw[hOe] at hrow;refine hrow.nbI (by omega) (by omega) fun b58 o59 q' gq' t5=>?_;rw[Ys] at gq';replace gq':(natI O)[j]?=some q':=gq';obtain⟨q2,gq2,rfl⟩:=natI_get gq';rw[gq] at gq2;cases gq2;refine⟨(q:Int),t5.hd,y.g,hs.rd 2 rfl (i:=4) rfl,?_⟩;refine (hyi.pm.rw.ext hs.ext).nbI (by omega) (by omega) fun b62 o63 x' gx' t6=>?_;rw[Ys] at gx';replace gx':y.m.mv[q]?=some x':=gx';rw[gx] at gx';cases gx';refine⟨_,_,_,_,_,_,t6,?_⟩;clear t5 t6 hrow hX;refine hs.newput (vs:=x.cs) rfl rfl fun h71 hs=>?_;have hqv:=hC.r v (List.mem_append_left _ hvT);have hstay:ok=false->DoneV y.m peer label (T++R) x->∀q∈O.take (j+1),∀x,y.m.mv[q]?=some x->DoneV y.m peer label (T++R) x:=fun ho hx1 q' hq' x' hx'=>by
      rw[take_snoc gq,Yk,Ye] at hq';rcases hq' with hq' | rfl
      .exact hi2 ho q' hq' x' hx'
      .rw[gx] at hx';cases hx';exact hx1
     have hgrow:ok=false->¬Blk peer x->∀q∈O.take (j+1),∀x',y.m.mv[q]?=some x'->DoneV y.m peer label (T++R++[x.t]) x':=fun ho hnb q' hq' x' hx'=>by
      rw[take_snoc gq,Yk,Ye] at hq';rcases hq' with hq' | rfl
      .exact (hi2 ho q' hq' x' hx').mono fun z hz=>List.mem_append_left _ hz
      .rw[gx] at hx';cases hx';exact⟨fun hb=>absurd hb hnb,fun _=>List.mem_append_right _ (Ye.2 rfl)⟩
     obtain⟨zz,hzz⟩:=get_some (l:=D) (i:=x.t.toNat) (by omega);have e1:0+Int.toNat x.t*1=x.t.toNat:=by omega
     refine⟨x.send,hs.rd 0 rfl (i:=1) rfl,sB_intro (fun cs=>?_) (fun cs=>?_)⟩
     .have cs:=bF cs;refine⟨x.peer,hs.rd 0 rfl (i:=2) rfl,peer,hs.rd 4 rfl (i:=2) rfl,sBe (fun cp=>?_) (fun cp=>?_)⟩
      .have hbl:Blk peer x:=⟨cs,cp⟩;refine sB_intro (fun co=>?_) (fun co=>?_)
       .exact⟨_,(show O.length-(j+1)<O.length-j by omega),j+1,D,T++R,by rw[w64 (by omega) (by omega)];omega,rfl,by omega,hs.drop 1,hC,⟨R,rfl⟩,fun _=>hi1 co,fun h=>by cases h⟩
       .refine⟨x.label,hs.rd 0 rfl (i:=3) rfl,label,hs.rd 4 rfl (i:=3) rfl,?_⟩;refine⟨_,(show O.length-(j+1)<O.length-j by omega),j+1,D,T++R,by rw[w64 (by omega) (by omega)];omega,rfl,by omega,hs.drop 1,hC,⟨R,rfl⟩,fun h=>⟨v,hqv,x,hxm,hxf,hbl,eq_of_beq h⟩,fun h=>hstay co ⟨fun _=>beq_eq_false_iff_ne.1 h,fun hn=>absurd hbl hn⟩⟩
      .have hnb:¬Blk peer x:=fun hb=>cp hb.2;refine⟨x.t,hs.rd 0 rfl (i:=4) rfl,⟨by omega,by omega⟩,?_⟩;rw[e1];refine⟨zz,hs.rd 2 rfl (by rw[map_get,hzz];rfl),sB_intro (fun cz=>?_) (fun cz=>?_)⟩
       .have hzf:zz=false:=bF cz;subst hzf;refine⟨x.t,hs.rd 0 rfl (i:=4) rfl,⟨by omega,by omega⟩,?_⟩;rw[e1];have hC2:=hC.push (by omega) hzz (medB_step hqv hxm hnb hxf);refine hs.put 2 rfl (o:=x.t.toNat) (vs:=[.bool true]) rfl (by rw[Yc,Yv];omega) fun h82 hs=>?_;rw[map_splice _ (by omega)] at hs;refine⟨x.t,hs.rd 0 rfl (i:=4) rfl,?_⟩;refine hs.app 1 (s:=todo2) (rows:=(T++R).map inC) rfl app42 (m:=1) [[.int .i64 x.t]] rfl rfl (by simp) rfl (by omega) (by simp only[maxLen];omega) fun s85 h86 ns hs=>?_;refine⟨_,(show O.length-(j+1)<O.length-j by omega),j+1,D.set x.t.toNat true,T++R++[x.t],by rw[w64 (by omega) (by omega)];omega,rfl,by omega,?_,hC2,⟨R++[x.t],by rw[Yz]⟩,hi1,fun h=>hgrow h hnb⟩;rw[Ym];exact hs.drop 1
       .have hzt:zz=true:=bT cz;subst hzt;exact⟨_,(show O.length-(j+1)<O.length-j by omega),j+1,D,T++R,by rw[w64 (by omega) (by omega)];omega,rfl,by omega,hs.drop 1,hC,⟨R,rfl⟩,hi1,fun h=>hstay h ⟨fun hb=>absurd hb hnb,fun _=>(hC.mem _).2 ⟨by omega,hzz⟩⟩⟩
     .have cs:=bT cs;have hnb:¬Blk peer x:=fun hb=>by rw[hb.1] at cs;cases cs
      refine⟨x.t,hs.rd 0 rfl (i:=4) rfl,⟨by omega,by omega⟩,?_⟩;rw[e1];refine⟨zz,hs.rd 2 rfl (by rw[map_get,hzz];rfl),sB_intro (fun cz=>?_) (fun cz=>?_)⟩
      .have hzf:zz=false:=bF cz;subst hzf;refine⟨x.t,hs.rd 0 rfl (i:=4) rfl,⟨by omega,by omega⟩,?_⟩;rw[e1];have hC2:=hC.push (by omega) hzz (medB_step hqv hxm hnb hxf);refine hs.put 2 rfl (o:=x.t.toNat) (vs:=[.bool true]) rfl (by rw[Yc,Yv];omega) fun h82 hs=>?_;rw[map_splice _ (by omega)] at hs;refine⟨x.t,hs.rd 0 rfl (i:=4) rfl,?_⟩;refine hs.app 1 (s:=todo2) (rows:=(T++R).map inC) rfl app42 (m:=1) [[.int .i64 x.t]] rfl rfl (by simp) rfl (by omega) (by simp only[maxLen];omega) fun s85 h86 ns hs=>?_;refine⟨_,(show O.length-(j+1)<O.length-j by omega),j+1,D.set x.t.toNat true,T++R++[x.t],by rw[w64 (by omega) (by omega)];omega,rfl,by omega,?_,hC2,⟨R++[x.t],by rw[Yz]⟩,hi1,fun h=>hgrow h hnb⟩;rw[Ym];exact hs.drop 1
      .have hzt:zz=true:=bT cz;subst hzt;exact⟨_,(show O.length-(j+1)<O.length-j by omega),j+1,D,T++R,by rw[w64 (by omega) (by omega)];omega,rfl,by omega,hs.drop 1,hC,⟨R,rfl⟩,hi1,fun h=>hstay h ⟨fun hb=>absurd hb hnb,fun _=>(hC.mem _).2 ⟨by omega,hzz⟩⟩⟩
    .refine⟨_,(show y.m.n.toNat-(i+1)<y.m.n.toNat-i by have:=hC.le;rw[Yh] at this;omega),i+1,D,T++R,by have:=hC.le;rw[Yh] at this;rw[w64 (by omega) (by omega)];omega,rfl,by rw[Yh];omega,hs,hC,List.mem_append_left _ hzT,hi1,fun ho v' hv'=>?_⟩;rw[Yyq (by omega),take_snoc gv,Yk,Ye] at hv';rcases hv' with hv' | rfl
     .exact (hok2 v' hv').mono fun z hz=>List.mem_append_left _ hz
     .intro x hx hf;obtain⟨q,hq⟩:=Yf.1 hx;refine hi2 ho q ?_ x hq;rw[Yj (by omega)];exact hpm.mem_iff.2 (outIx_mem.2 ⟨x,hq,hf⟩)
   .have hot:ok=true:=bT co;exact hend true hot (iff_of_true rfl (hok1 hot))
  .refine hend ok rfl ?_;cases hok:ok with
   | true=>exact iff_of_true rfl (hok1 hok)
   | false=>exact iff_of_false (by decide) (exp_end hC hzT fun v hv=>hok2 hok v (by rw[Yj (by omega)];exact hv))
theorem cal111:callable Pz 165=true:=by kernel_rfl
theorem index121e (B:List Bx) (s:Sl) (h:Heap) (hr:RL h 1 s Bx.cs B) (hi:∀q∈B,RL h 1 q.s inC q.l) :
  Fn Pz 158 #[.slice s.a s.n s.c,.func (.func 165) #[] #[]] h fun v h'=>(∃k:Int,v=.int .i64 k/\(0<=k ↔ ¬∀b∈B.map Bx.l,b=[]))/\Ext h h':=by
 apply vc158 s 165;unfold W158;have hn:=hr.ln;have hl:=hr.sm;refine up_loop (n:=s.n) (fun i h'=>Ext h h'/\∀(j:Nat) (x:Bx),j<i->B[j]?=some x->x.l=[]) ⟨.rfl',fun j x hj=>by omega⟩ ?_;rintro-i h5 hi' ⟨E,hq⟩;refine sB_intro (fun c=>?_) (fun c=>?_)
 .replace c:=lt_t c;refine (hr.rw.ext E).nbI (by omega) (by omega) fun b6 o7 x gx t14=>?_;replace gx:B[i]?=some x:=gx;have hm:=Yb gx;have hxn:=(hi x hm).ln;refine⟨x.s,t14.hd,?_⟩;rw[cal111,cond_true];apply vc165 x.s;unfold W165;refine⟨_,rfl,sBi (fun c2=>?_) (fun c2=>?_)⟩
  .refine⟨⟨_,rfl,iff_of_true (by omega) fun hall=>?_⟩,E⟩;have:=hall x.l (List.mem_map_of_mem hm);rw[this] at hxn;simp at hxn;omega
  .refine Up.next (by omega) (by omega) ⟨E,fun j y hj hy=>?_⟩;by_cases e:j=i
   .subst e;rw[gx] at hy;cases hy;exact List.eq_nil_of_length_eq_zero (by omega)
   .exact hq j y (by omega) hy
 .replace c:=lt_f c;refine⟨⟨_,rfl,iff_of_false (by omega) fun hall=>hall fun b hb=>?_⟩,E⟩;obtain⟨x,hx,rfl⟩:=Yp.1 hb;obtain⟨j,hj⟩:=Yf.1 hx;exact hq j x (by have:=(Ya.1 hj).1;omega) hj
theorem any83e (B:List Bx) (s:Sl) (h:Heap) (hr:RL h 1 s Bx.cs B) (hi:∀q∈B,RL h 1 q.s inC q.l) :
  Fn Pz 113 #[.slice s.a s.n s.c,.func (.func 165) #[] #[]] h (RP (¬∀b∈B.map Bx.l,b=[]) h):=by
 apply vc113 s 165;unfold W113;refine (index121e B s h hr hi).mono ?_;rintro _ h3 ⟨⟨k,rfl,hk⟩,E⟩;exact⟨_,rfl,RP.e (by rw[decide_eq_true_eq];exact hk) E⟩
theorem final71 (L:List MR) (s:Sl) (k:Int) (eb:Nat) (ss sb:Sl) (S:List Int) (B:List Bx) (h:Heap) (hS:SyI h s L) (hE:EngR h eb s k L) (hC:CfI h ss sb S B) (hP:ProS (L.map MR.m) k S (B.map Bx.l)) :
  Fn Pz 124 #[.pointer (some ⟨eb,0,none⟩),.agg ⟨[.slice ss.a ss.n ss.c,.slice sb.a sb.n sb.c]⟩] h (RP (FinS (L.map MR.m) S (B.map Bx.l)) h):=by
 apply vc124 ⟨eb,0,none⟩ ss sb;unfold W124;obtain⟨osl,hat,-⟩:=hE.e;have hn:=hS.r.ln;have hsn:=hC.s.ln;have hsm:=hC.s.sm;have hlm:(L.map MR.m).length=L.length:=Yc _;have hSl:=hP.p.s;rw[hlm] at hSl;refine (St.refl h).newb fun h3 hs=>?_;refine⟨ss,hs.rd 0 rfl (i:=0) rfl,?_⟩;refine up_loopS (n:=ss.n) hs (fun i=>∀(p:Nat) z m,p<i->S[p]?=some z->(L.map MR.m)[p]?=some m->m.fin[z.toNat]?=some true) (fun p z m hj=>by omega) ?_;rintro-i h9 hi ⟨hs,hq⟩;refine sB_intro (fun c=>?_) (fun c=>?_)
 .replace c:=lt_t c;refine (hC.s.rw.ext hs.ext).nbI (by omega) (by omega) fun b10 o11 z gz t=>?_;replace gz:S[i]?=some z:=gz;refine⟨z,t.hd,s,(atC_ext hs.ext hat).hd,?_⟩;refine (hS.r.rw.ext hs.ext).nbI (by omega) (by omega) fun b o y gy t2=>?_;replace gy:L[i]?=some y:=gy;have gm:(L.map MR.m)[i]?=some y.m:=by rw[Yd,gy];rfl
  have hyi:=hS.i y (Yb gy);have hfl:=(hP.v.m i y.m gm).2.1.n.fl;have hz:=hP.p.st i z y.m gz gm;have hfn:=hyi.pf.ln;refine⟨y.f,t2.nth 3 rfl,?_⟩;refine (hyi.pf.rw.ext hs.ext).nbI hz.1 (by omega) fun b o f gf t3=>?_;refine⟨f,t3.hd,sB_intro (fun d=>?_) (fun d=>?_)⟩
  .refine RP.f (fun hF=>?_) hs.ext;have:=hF.s i z y.m gz gm;rw[gf] at this;cases this;cases d
  .refine Up.next (by omega) (by omega) ⟨hs,fun p z' m' hj h1 h2=>?_⟩;by_cases e:p=i
   .subst e;rw[gz] at h1;rw[gm] at h2;cases h1;cases h2;rw[gf];cases f
    .cases d
    .rfl
   .exact hq p z' m' (by omega) h1 h2
 .replace c:=lt_f c;refine⟨sb,hs.rd 0 rfl (i:=1) rfl,?_⟩;refine (any83e B sb h9 (hC.b.ext hs.ext) fun q hq=>(hC.i q hq).ext hs.ext).mono ?_;rintro _ h23 ⟨⟨b,rfl,hb⟩,E⟩;refine⟨b,rfl,RP.e ?_ (hs.ext.trans E)⟩;have hall:∀(p:Nat) z m,S[p]?=some z->(L.map MR.m)[p]?=some m->m.fin[z.toNat]?=some true:=fun p z m h1 h2=>hq p z m (by have:=(Ya.1 h1).1;omega) h1 h2;cases b with
  | true=>exact iff_of_false (by decide) fun hF=>hb.1 rfl hF.b
  | false=>exact iff_of_true rfl ⟨hall,Classical.not_not.1 fun hn=>by have:=hb.2 hn;cases this⟩
theorem expected69 (m:Mch) (sf sm sl:Sl) (s peer label:Int) (h:Heap) (hM:MI h m sf sm sl) (hN:NumM m) (hs0:0<=s/\s<m.n) :
  Fn Pz 57 #[.agg ⟨mC m sf sm sl⟩,.int .i64 s,.int .i64 peer,.int .i64 label] h (RP (ExpM m s peer label) h):=by
 apply vc57 m.role m.n m.s sf sm sl s peer label;unfold W57 V57a;have hmn:=hM.pm.ln;have hmm:=hM.pm.sm;have hn:=hN.n;have hml:=hN.ml;refine (St.refl h).newb fun h7 hs=>?_;refine⟨_,hs.rd 0 rfl (i:=1) rfl,⟨by omega,by omega,by omega⟩,?_⟩;rw[made4];refine hs.newb fun h9 hs=>?_;refine⟨⟨by omega,by omega⟩,?_⟩;rw[show 0+Int.toNat s*1=s.toNat by omega];refine hs.put 0 rfl (o:=s.toNat) (vs:=[.bool true]) rfl (by rw[Yc,Yg,Yv];omega) fun h10 hs=>?_;rw[map_splice _ (by rw[Yg];omega)] at hs;refine hs.newb fun h11 hs=>?_;have hs:=hs.blkS 1 1 ([s].map inC) rfl (inrows _) rfl (by decide);have hC0:CL (medB m peer) (-1) m.n.toNat [s] ((List.replicate m.n.toNat false).set s.toNat true) [s]:=
  (CL.start (medB m peer) (-1) m.n.toNat [s]).push hs0.1 (by rw[List.getElem?_replicate,if_pos (by omega)]) (.base (Ye.2 rfl))
 refine⟨fun todo h' μ=>∃(D:List Bool) (T U:List Int),μ=(m.n.toNat-T.length)+U.length/\St h h' [.sl todo 3 1 (U.map inC),.blk h7.size (D.map Value.bool) 4,.blk h.size (mC m sf sm sl) 98]/\CL (medB m peer) (-1) m.n.toNat [s] D T/\s∈T/\(∀v∈U,v∈T)/\m.n.toNat-T.length+U.length<=m.n.toNat/\∀v∈T,v∈U\/DoneM m peer label T v,⟨_,_,[s],[s],rfl,hs,hC0,Ye.2 rfl,fun v hv=>hv,by rw[Yv];omega,fun v hv=>.inl hv⟩,?_⟩;clear hs hC0;rintro-todo h16 μ ⟨D,T,U,rfl,hs,hC,hsT,hUT,hcnt,hd⟩;obtain⟨hln,hcap,-⟩:=hs.len 0 (s:=todo) (e:=3) (n:=1) rfl (by omega);rw[Yc] at hln;have hle:=hC.le;refine sBi (fun c1=>?_) (fun c1=>?_)
 .have ew:IntKind.wrap .i64 ((todo.n:Int)-1)=((U.length-1:Nat):Int):=by rw[w64 (by omega) (by omega)];omega
  rw[ew];refine (hs.rows 0 (s:=todo) (cs:=inC) rfl (by omega)).nbI (by omega) (by omega) fun b17 o18 v gv t=>?_;rw[Ys] at gv;have hU:U=U.take (U.length-1)++[v]:=by
   rw[<-take_snoc gv,show U.length-1+1=U.length by omega,Yye]
  have hvT:=hUT v (Yb gv);have hqv:=hC.r v hvT;refine⟨v,t.hd,⟨by omega,by omega,by omega⟩,sm,hs.rd 2 rfl (i:=4) rfl,?_⟩;have hs:=hs.cut 0 (s:=todo) (e:=3) (n:=1) rfl (by omega) (U.length-1) (by omega);rw[<-List.map_take] at hs;have hU1:(U.take (U.length-1)).length=U.length-1:=by rw[Yu];omega
  generalize U.take (U.length-1)=U1 at *;refine⟨fun todo x h' μ=>∃(j:Nat) (D:List Bool) (T' U2:List Int),x=j/\μ=m.mv.length-j/\j<=m.mv.length/\St h h' [.sl todo 3 1 (U2.map inC),.blk h7.size (D.map Value.bool) 4,.blk h.size (mC m sf sm sl) 98]/\CL (medB m peer) (-1) m.n.toNat [s] D T'/\(∃R,T'=T++R)/\(∀y∈U2,y∈T')/\m.n.toNat-T'.length+U2.length=m.n.toNat-T.length+(U.length-1)/\(∀y∈T',y∈U2\/y=v\/DoneM m peer label T' y)/\∀k<j,∀y,m.mv[k]?=some y->y.f=v->DoneV m peer label T' y,⟨_,0,D,T,U1,rfl,rfl,Nat.zero_le _,hs,hC,⟨[],by simp⟩,fun y hy=>hUT y (by rw[hU];exact List.mem_append_left _ hy),by rw[hU1],fun y hy=>?_,fun k hk=>by omega⟩,?_⟩
  .rcases hd y hy with h1 | h1
   .rw[hU,Yk,Ye] at h1;exact h1.imp id .inl
   .exact .inr (.inr h1)
  have hU0:0<U.length:=by omega
  clear hs hC hln hcap;rintro-todo2 _ h26 μ ⟨j,D,T',U2,rfl,rfl,hj,hs,hC,⟨R,rfl⟩,hUT2,hcnt2,hd2,hm2⟩;have hle2:=hC.le;have hDl:=hC.len;obtain⟨hln,hcap,-⟩:=hs.len 0 (s:=todo2) (e:=3) (n:=1) rfl (by omega);rw[Yc] at hln;refine sBi (fun c2=>?_) (fun c2=>?_)
  .refine (hM.pm.rw.ext hs.ext).nbI (by omega) (by omega) fun b27 o28 x gx t2=>?_;replace gx:m.mv[j]?=some x:=gx;have hxm:=Yb gx;have hxr:=hN.mv x hxm;refine⟨_,_,_,_,_,_,t2,?_⟩;refine hs.newput (vs:=x.cs) rfl rfl fun h36 hs=>?_;have hstay:(x.f=v->DoneV m peer label (T++R) x)->∀k<j+1,∀y,m.mv[k]?=some y->y.f=v->DoneV m peer label (T++R) y:=fun hx1 k hk y hy hf=>by
    by_cases e:k=j
    .subst e;rw[gx] at hy;cases hy;exact hx1 hf
    .exact hm2 k (by omega) y hy hf
   have hgrow:¬Blk peer x->∀k<j+1,∀y,m.mv[k]?=some y->y.f=v->DoneV m peer label (T++R++[x.t]) y:=fun hnb k hk y hy hf=>by
    by_cases e:k=j
    .subst e;rw[gx] at hy;cases hy;exact⟨fun hb=>absurd hb hnb,fun _=>List.mem_append_right _ (Ye.2 rfl)⟩
    .exact (hm2 k (by omega) y hy hf).mono fun z hz=>List.mem_append_left _ hz
   have e1:0+Int.toNat x.t*1=x.t.toNat:=by omega
   obtain⟨z,hz⟩:=get_some (l:=D) (i:=x.t.toNat) (by omega);refine⟨x.f,hs.rd 0 rfl (i:=0) rfl,sBn (fun c3=>?_) (fun c3=>?_)⟩
   .exact⟨_,(show m.mv.length-(j+1)<m.mv.length-j by omega),j+1,D,T++R,U2,by rw[w64 (by omega) (by omega)];omega,rfl,by omega,hs.drop 1,hC,⟨R,rfl⟩,hUT2,hcnt2,hd2,hstay fun hf=>absurd hf c3⟩
   refine⟨x.send,hs.rd 0 rfl (i:=1) rfl,sB_intro (fun cs=>?_) (fun cs=>?_)⟩
   .refine⟨x.peer,hs.rd 0 rfl (i:=2) rfl,sBe (fun cp=>?_) (fun cp=>?_)⟩
    .have hbl:Blk peer x:=⟨bF cs,cp⟩;refine⟨x.label,hs.rd 0 rfl (i:=3) rfl,sBe (fun cl=>RP.t ⟨v,hqv,x,hxm,c3,hbl,cl⟩ hs.ext) (fun cl=>?_)⟩;exact⟨_,(show m.mv.length-(j+1)<m.mv.length-j by omega),j+1,D,T++R,U2,by rw[w64 (by omega) (by omega)];omega,rfl,by omega,hs.drop 1,hC,⟨R,rfl⟩,hUT2,hcnt2,hd2,hstay fun hf=>⟨fun _=>cl,fun hn=>absurd hbl hn⟩⟩
    .have hnb:¬Blk peer x:=fun hb=>cp hb.2;refine⟨x.t,hs.rd 0 rfl (i:=4) rfl,⟨by omega,by omega⟩,?_⟩;rw[e1];refine⟨z,hs.rd 2 rfl (by rw[map_get,hz];rfl),sB_intro (fun cz=>?_) (fun cz=>?_)⟩
     .have hzf:z=false:=bF cz;subst hzf;refine⟨x.t,hs.rd 0 rfl (i:=4) rfl,⟨by omega,by omega⟩,?_⟩;rw[e1];have hC2:=hC.push (by omega) hz (medB_step hqv hxm hnb c3);have hle3:=hC2.le;have hl3:(T++R++[x.t]).length=(T++R).length+1:=by rw[Yh,Yv]
      have hl4:(U2++[x.t]).length=U2.length+1:=by rw[Yh,Yv]
      refine hs.put 2 rfl (o:=x.t.toNat) (vs:=[.bool true]) rfl (by rw[Yc,Yv];omega) fun h46 hs=>?_;rw[map_splice _ (by omega)] at hs;refine⟨x.t,hs.rd 0 rfl (i:=4) rfl,?_⟩;refine hs.app 1 (s:=todo2) (rows:=U2.map inC) rfl app42 (m:=1) [[.int .i64 x.t]] rfl rfl (by simp) rfl (by omega) (by simp only[maxLen];omega) fun s49 h50 ns hs=>?_;refine⟨_,(show m.mv.length-(j+1)<m.mv.length-j by omega),j+1,D.set x.t.toNat true,T++R++[x.t],U2++[x.t],by rw[w64 (by omega) (by omega)];omega,rfl,by omega,?_,hC2,⟨R++[x.t],by rw[Yz]⟩,fun y hy=>?_,by omega,fun y hy=>?_,hgrow hnb⟩
      .rw[Ym];exact hs.drop 1
      .rcases Yk.1 hy with hy | hy
       .exact List.mem_append_left _ (hUT2 y hy)
       .exact List.mem_append_right _ hy
      .rcases Yk.1 hy with hy | hy
       .rcases hd2 y hy with h1 | h1 | h1
        .exact .inl (List.mem_append_left _ h1)
        .exact .inr (.inl h1)
        .exact .inr (.inr (h1.mono fun z hz=>List.mem_append_left _ hz))
       .exact .inl (List.mem_append_right _ hy)
     .have hzt:z=true:=bT cz;subst hzt;exact⟨_,(show m.mv.length-(j+1)<m.mv.length-j by omega),j+1,D,T++R,U2,by rw[w64 (by omega) (by omega)];omega,rfl,by omega,hs.drop 1,hC,⟨R,rfl⟩,hUT2,hcnt2,hd2,hstay fun hf=>⟨fun hb=>absurd hb hnb,fun _=>(hC.mem _).2 ⟨by omega,hz⟩⟩⟩
   .have hnb:¬Blk peer x:=fun hb=>by rw[hb.1] at cs;cases cs
    refine⟨x.t,hs.rd 0 rfl (i:=4) rfl,⟨by omega,by omega⟩,?_⟩;rw[e1];refine⟨z,hs.rd 2 rfl (by rw[map_get,hz];rfl),sB_intro (fun cz=>?_) (fun cz=>?_)⟩
    .have hzf:z=false:=bF cz;subst hzf;refine⟨x.t,hs.rd 0 rfl (i:=4) rfl,⟨by omega,by omega⟩,?_⟩;rw[e1];have hC2:=hC.push (by omega) hz (medB_step hqv hxm hnb c3);have hle3:=hC2.le;have hl3:(T++R++[x.t]).length=(T++R).length+1:=by rw[Yh,Yv]
     have hl4:(U2++[x.t]).length=U2.length+1:=by rw[Yh,Yv]
     refine hs.put 2 rfl (o:=x.t.toNat) (vs:=[.bool true]) rfl (by rw[Yc,Yv];omega) fun h46 hs=>?_;rw[map_splice _ (by omega)] at hs;refine⟨x.t,hs.rd 0 rfl (i:=4) rfl,?_⟩;refine hs.app 1 (s:=todo2) (rows:=U2.map inC) rfl app42 (m:=1) [[.int .i64 x.t]] rfl rfl (by simp) rfl (by omega) (by simp only[maxLen];omega) fun s49 h50 ns hs=>?_;refine⟨_,(show m.mv.length-(j+1)<m.mv.length-j by omega),j+1,D.set x.t.toNat true,T++R++[x.t],U2++[x.t],by rw[w64 (by omega) (by omega)];omega,rfl,by omega,?_,hC2,⟨R++[x.t],by rw[Yz]⟩,fun y hy=>?_,by omega,fun y hy=>?_,hgrow hnb⟩
     .rw[Ym];exact hs.drop 1
     .rcases Yk.1 hy with hy | hy
      .exact List.mem_append_left _ (hUT2 y hy)
      .exact List.mem_append_right _ hy
     .rcases Yk.1 hy with hy | hy
      .rcases hd2 y hy with h1 | h1 | h1
       .exact .inl (List.mem_append_left _ h1)
       .exact .inr (.inl h1)
       .exact .inr (.inr (h1.mono fun z hz=>List.mem_append_left _ hz))
      .exact .inl (List.mem_append_right _ hy)
    .have hzt:z=true:=bT cz;subst hzt;exact⟨_,(show m.mv.length-(j+1)<m.mv.length-j by omega),j+1,D,T++R,U2,by rw[w64 (by omega) (by omega)];omega,rfl,by omega,hs.drop 1,hC,⟨R,rfl⟩,hUT2,hcnt2,hd2,hstay fun hf=>⟨fun hb=>absurd hb hnb,fun _=>(hC.mem _).2 ⟨by omega,hz⟩⟩⟩
  .refine⟨_,(show (m.n.toNat-(T++R).length)+U2.length<(m.n.toNat-T.length)+U.length by omega),D,T++R,U2,rfl,hs,hC,List.mem_append_left _ hsT,hUT2,by omega,fun y hy=>?_⟩;rcases hd2 y hy with h1 | rfl | h1
   .exact .inl h1
   .refine .inr fun x hx hf=>?_;obtain⟨k,hk⟩:=Yf.1 hx;exact hm2 k (by have:=(Ya.1 hk).1;omega) x hk hf
   .exact .inr h1
 .refine RP.f (exp_end hC hsT fun v hv=>(hd v hv).resolve_left fun hu=>?_) hs.ext;have:U=[]:=List.eq_nil_of_length_eq_zero (by omega);rw[this] at hu;cases hu
end Go.VC
end

section
namespace Go.VC
open Go.Proofs Go.LexS
def UnxI (L:List Mch) (S:List Int) (BL:List (List Int)) (i:Nat):Prop:=∃(b:Int) (l:List Int) (m:Mch) (s:Int),BL[i]?=some (b::l)/\L[i%L.length]?=some m/\S[i%L.length]?=some s/\¬ExpM m s ((i/L.length:Nat):Int) b
open Classical in
noncomputable def badS (L:List Mch) (k:Int) (S:List Int) (BL:List (List Int)):Int:=if ∃i,UnxI L S BL i then 1 else if ¬FinS L S BL/\stepsS L k S BL=[] then 2 else 0
theorem badS_1 {L:List Mch} {k:Int} {S:List Int} {BL:List (List Int)} {i:Nat} (h:UnxI L S BL i):badS L k S BL=1:=by
 unfold badS;rw[if_pos ⟨i,h⟩]
theorem badS_2 {L:List Mch} {k:Int} {S:List Int} {BL:List (List Int)} (h:¬∃i,UnxI L S BL i) (h1:¬FinS L S BL) (h2:stepsS L k S BL=[]):badS L k S BL=2:=by
 unfold badS;rw[if_neg h,if_pos ⟨h1,h2⟩]
theorem badS_0 {L:List Mch} {k:Int} {S:List Int} {BL:List (List Int)} (h:¬∃i,UnxI L S BL i) (h1:FinS L S BL\/stepsS L k S BL≠[]):badS L k S BL=0:=by
 unfold badS;rw[if_neg h,if_neg (fun hc=>h1.elim hc.1 fun h2=>h2 hc.2)]
theorem unx_none {L:List Mch} {S:List Int} {BL:List (List Int)} {n:Nat} (hn:n=BL.length) (hq:∀j<n,¬UnxI L S BL j):¬∃i,UnxI L S BL i:=by
 rintro⟨j,hu⟩;by_cases hj:j<n
 .exact hq j hj hu
 .obtain⟨b,l,m,s,hb,_⟩:=hu;have:=(Ya.1 hb).1;omega
theorem unx_iff {L:List Mch} {S:List Int} {BL:List (List Int)} {i:Nat} {q:List Int} {m:Mch} {s x:Int} (hb:BL[i]?=some q) (hm:L[i%L.length]?=some m) (hs:S[i%L.length]?=some s) (hx:q[0]?=some x):UnxI L S BL i ↔ ¬ExpM m s ((i/L.length:Nat):Int) x:=by
 cases q with
 | nil=>cases hx
 | cons a l=>
  have e:a=x:=Yyp hx;subst e;constructor
  .rintro⟨b',l',m',s',h1,h2,h3,h4⟩;rw[hb] at h1;cases h1;rw[hm] at h2;cases h2;rw[hs] at h3;cases h3;exact h4
  .exact fun h=>⟨a,l,m,s,hb,hm,hs,h⟩
theorem bad38 (L:List MR) (s:Sl) (k:Int) (ss sb:Sl) (S:List Int) (B:List Bx) (h:Heap) (hS:SyI h s L) (hC:CfI h ss sb S B) :
  Fn Pz 25 #[.slice s.a s.n s.c,.int .i64 k,.agg ⟨[.slice ss.a ss.n ss.c,.slice sb.a sb.n sb.c]⟩] h fun v h'=>Ext h h'/\∃(b e:Int),v=.tuple ⟨[.int .i64 b,.int .i64 e]⟩/\(ProS (L.map MR.m) k S (B.map Bx.l)->e=0/\b=badS (L.map MR.m) k S (B.map Bx.l))/\(¬ProS (L.map MR.m) k S (B.map Bx.l)->e=1/\b=0):=by
 apply vc25 s k ss sb;unfold W25;have hn:=hS.r.ln;have hbn:=hC.b.ln;have hsn:=hC.s.ln;have hlm:(L.map MR.m).length=s.n:=by rw[Yc,hn]
 have hbm:(B.map Bx.l).length=B.length:=Yc _;refine (St.refl h).newb fun h3 hs=>?_;refine⟨ss,sb,hs.at 0 rfl (o:=0) (n:=2) rfl,?_⟩;refine (proper24 L s k ss sb S B h3 (hS.ext hs.ext) (hC.ext hs.ext)).mono ?_;rintro _ h8 ⟨⟨b,rfl,hb⟩,E⟩;have hs:=hs.step E;refine⟨_,rfl,sB_intro (fun c=>?_) (fun c=>?_)⟩
 .have hn:¬ProS (L.map MR.m) k S (B.map Bx.l):=fun hp=>by rw[hb.2 hp] at c;cases c
  exact⟨hs.ext,0,1,rfl,fun hp=>absurd hp hn,fun _=>⟨rfl,rfl⟩⟩
 have hp:=hb.1 (bT c);have hV6:=hp.v.n;rw[hlm] at hV6;have hSl:S.length=L.length:=by rw[hp.p.s,hlm,hn]
 have hBl:B.length=L.length*L.length:=by rw[<-hbm,hp.p.b,hlm,hn]
 have h36:=sq6 hV6.2;have hB36:B.length=s.n*s.n:=by rw[hBl,hn]
 refine⟨sb,hs.rd 0 rfl (i:=1) rfl,?_⟩;refine up_loopS (n:=sb.n) hs (fun i=>∀j<i,¬UnxI (L.map MR.m) S (B.map Bx.l) j) (fun j hj=>by omega) ?_;rintro-i h14 hi ⟨hs,hq⟩;refine sB_intro (fun c1=>?_) (fun c1=>?_)
 .replace c1:=lt_t c1;obtain⟨q,gq⟩:=get_some (l:=B) (i:=i) (by omega);have gq1:(B.map Bx.l)[i]?=some q.l:=by rw[Yd,gq];rfl
  have hqi:=hC.i q (Yb gq);have hqn:=hqi.ln;refine (hC.b.rw.ext hs.ext).nbI (by omega) (by omega) fun b15 o16 q' gq' t=>?_;replace gq':B[i]?=some q':=gq';rw[gq] at gq';cases gq';refine⟨q.s,t.hd,sBi (fun c2=>?_) (fun c2=>?_)⟩
  .have hmod:i%s.n<s.n:=Nat.mod_lt _ (by omega);have em:Int.tmod (i:Int) (s.n:Int)=((i%s.n:Nat):Int):=rfl;have hdl:i/s.n<=i:=Nat.div_le_self _ _;have ed:IntKind.wrap .i64 (Int.tdiv (i:Int) (s.n:Int))=((i/s.n:Nat):Int):=by rw[tdiv_nat,w64 (Int.le_trans (by decide) (Int.natCast_nonneg _)) (Int.le_trans (Int.ofNat_le.2 hdl) (by omega))]
   rw[em,ed];refine⟨by omega,?_⟩;refine (hS.r.rw.ext hs.ext).nbI (by omega) (by omega) fun b18 o19 y gy t2=>?_;rw[Ys] at gy;replace gy:L[i%s.n]?=some y:=gy;have gm:(L.map MR.m)[i%s.n]?=some y.m:=by rw[Yd,gy];rfl
   have hyi:=hS.i y (Yb gy);have hvm:=hp.v.m _ y.m gm;refine⟨_,_,_,_,_,_,t2,ss,hs.rd 0 rfl (i:=0) rfl,by omega,?_⟩;refine (hC.s.rw.ext hs.ext).nbI (by omega) (by omega) fun b27 o28 z gz t3=>?_;rw[Ys] at gz;replace gz:S[i%s.n]?=some z:=gz;refine⟨z,t3.hd,by omega,?_⟩;refine (hqi.rw.ext hs.ext).nbI (by decide) (by omega) fun b30 o31 x gx t4=>?_;replace gx:q.l[0]?=some x:=gx;refine⟨x,t4.hd,?_⟩;refine (expected69 y.m y.f y.g y.l z _ x h14 (hyi.ext hs.ext) hvm.2.1.n (hp.p.st _ z y.m gz gm)).mono ?_;rintro _ h35 ⟨⟨b3,rfl,hb3⟩,E⟩;have hs:=hs.step E;have hui:=unx_iff (L:=L.map MR.m) (S:=S) gq1 (by rw[hlm];exact gm) (by rw[hlm];exact gz) gx;rw[hlm] at hui;refine⟨b3,rfl,sB_intro (fun c3=>?_) (fun c3=>?_)⟩
   .have hu:=hui.2 fun he=>iff_f hb3 (bF c3) he;exact⟨hs.ext,1,0,rfl,fun _=>⟨rfl,(badS_1 hu).symm⟩,fun hn=>absurd hp hn⟩
   .refine Up.next (by omega) (by omega) ⟨hs,fun j hj=>?_⟩;by_cases e:j=i
    .subst e;exact fun hu=>hui.1 hu (hb3.1 (bT c3))
    .exact hq j (by omega)
  .refine Up.next (by omega) (by omega) ⟨hs,fun j hj=>?_⟩;by_cases e:j=i
   .subst e;rintro⟨b',l',m',s',h1,-⟩;rw[gq1] at h1;have h2:=congrArg List.length (Yyp h1);rw[Yyj] at h2;omega
   .exact hq j (by omega)
 .replace c1:=lt_f c1;have hno:=unx_none (show sb.n=(B.map Bx.l).length by omega) fun j hj=>hq j (by omega);refine⟨ss,sb,hs.at 0 rfl (o:=0) (n:=2) rfl,?_⟩;refine (final67 L s k ss sb S B h14 (hS.ext hs.ext) (hC.ext hs.ext) hp).mono ?_;rintro _ h42 ⟨⟨b2,rfl,hb2⟩,E⟩;have hs:=hs.step E;refine⟨b2,rfl,sB_intro (fun c3=>?_) (fun c3=>?_)⟩
  .have hnf:¬FinS (L.map MR.m) S (B.map Bx.l):=fun hf=>iff_f hb2 (bF c3) hf;refine⟨ss,sb,hs.at 0 rfl (o:=0) (n:=2) rfl,?_⟩;refine (steps47 L s k ss sb S B h42 (hS.ext hs.ext) hp.v (hC.ext hs.ext) hSl hBl).mono ?_;rintro _ h47 ⟨E,r,rfl,hr⟩;have hrn:=hr.ln;refine⟨r,rfl,sBe (fun c4=>?_) (fun c4=>?_)⟩
   .exact⟨hs.ext.trans E,2,0,rfl,fun _=>⟨rfl,(badS_2 hno hnf (List.eq_nil_of_length_eq_zero (by omega))).symm⟩,fun hn=>absurd hp hn⟩
   .exact⟨hs.ext.trans E,0,0,rfl,fun _=>⟨rfl,(badS_0 hno (.inr fun he=>c4 (by rw[hrn,he];rfl))).symm⟩,fun hn=>absurd hp hn⟩
  .exact⟨hs.ext,0,0,rfl,fun _=>⟨rfl,(badS_0 hno (.inl (hb2.1 (bT c3)))).symm⟩,fun hn=>absurd hp hn⟩
end Go.VC
end

section
namespace Go.VC
open Go.Proofs Go.LexS
theorem bad35 (L:List MR) (s:Sl) (k:Int) (eb wb:Nat) (ss sb:Sl) (S:List Int) (B:List Bx) (nz:Bool) (K:List (Wt × Bool)) (osl:Sl) (os:Nat->Sl) (qs:Nat->Nat->Sl) {h0 h:Heap} {A:List It} (hs:St h0 h (.mp wb (K.map wtC)::A)) (hS:SyI h0 s L)
  (hE:Sta A fun h=>EngX h eb wb s k L osl os qs) (hC:CfN A ss sb S B) (hP:ProS (L.map MR.m) k S (B.map Bx.l)) (hK:WtOk L K) (hnz:nz=true ↔ stepsS (L.map MR.m) k S (B.map Bx.l)≠[]) :
  Fn Pz 63 #[.pointer (some ⟨eb,0,none⟩),.agg ⟨[.slice ss.a ss.n ss.c,.slice sb.a sb.n sb.c]⟩,.bool nz] h fun v h'=>∃K':List (Wt × Bool),v=.int .i64 (badS (L.map MR.m) k S (B.map Bx.l))/\WtOk L K'/\St h0 h' (.mp wb (K'.map wtC)::A):=by
 apply vc63 ⟨eb,0,none⟩ ss sb nz;unfold W63;have hn:=hS.r.ln;have hlm:(L.map MR.m).length=s.n:=by rw[Yc,hn]
 have hbm:(B.map Bx.l).length=B.length:=Yc _;have hV6:=hP.v.n;rw[hlm] at hV6;have hSl:S.length=s.n:=by rw[hP.p.s,hlm]
 have hBl:B.length=s.n*s.n:=by rw[<-hbm,hP.p.b,hlm]
 have h36:=sq6 hV6.2;refine hs.newb fun h3 hs=>?_;have hsn:=((hC.at hs mem2).s).ln;have hbn:=((hC.at hs mem2).b).ln;refine⟨s,(hE.at hs mem2).e.hd,sb,hs.rd 0 rfl (i:=1) rfl,?_⟩;refine⟨fun x h' μ=>∃(i:Nat) (K':List (Wt × Bool)),x=(i:Int)/\μ=sb.n-i/\i<=sb.n/\St h0 h' (.blk h.size [.slice ss.a ss.n ss.c,.slice sb.a sb.n sb.c] 52 :: .mp wb (K'.map wtC)::A)/\WtOk L K'/\∀j<i,¬UnxI (L.map MR.m) S (B.map Bx.l) j,⟨_,0,K,rfl,rfl,Nat.zero_le _,hs,hK,fun j hj=>by omega⟩,?_⟩;clear hs hK;rintro-_ h10 μ ⟨i,K',rfl,rfl,hi,hs,hK,hq⟩;have hCc:=hC.at hs mem2;refine sBi (fun c1=>?_) (fun c1=>?_)
 .obtain⟨q,gq⟩:=get_some (l:=B) (i:=i) (by omega);have gq1:(B.map Bx.l)[i]?=some q.l:=by rw[Yd,gq];rfl
  have hqi:=hCc.i q (Yb gq);have hqn:=hqi.ln;refine hCc.b.rw.nbI (by omega) (by omega) fun b11 o12 q' gq' t=>?_;rw[Ys,gq] at gq';cases gq';refine⟨q.s,t.hd,sBi (fun c2=>?_) (fun c2=>?_)⟩
  .have hmod:i%s.n<s.n:=Nat.mod_lt _ (by omega);have em:Int.tmod (i:Int) (s.n:Int)=((i%s.n:Nat):Int):=rfl;have hdl:i/s.n<=i:=Nat.div_le_self _ _;have hd0:(-9223372036854775808:Int)<=((i/s.n:Nat):Int):=Int.le_trans (by decide) (Int.natCast_nonneg _);have hd1:((i/s.n:Nat):Int)<=9223372036854775807:=Int.le_trans (Int.ofNat_le.2 hdl) (by omega);have ed:IntKind.wrap .i64 (Int.tdiv (i:Int) (s.n:Int))=((i/s.n:Nat):Int):=by rw[tdiv_nat,w64 hd0 hd1]
   rw[em,ed];obtain⟨y,gy⟩:=get_some (l:=L) (i:=i%s.n) (by omega);have gm:(L.map MR.m)[i%s.n]?=some y.m:=by rw[Yd,gy];rfl
   refine⟨by omega,ss,hs.rd 0 rfl (i:=0) rfl,by omega,?_⟩;refine hCc.s.rw.nbI (by omega) (by omega) fun b15 o16 z gz t3=>?_;rw[Ys] at gz;replace gz:S[i%s.n]?=some z:=gz;refine⟨z,t3.hd,by omega,?_⟩;refine hqi.rw.nbI (by decide) (by omega) fun b18 o19 x gx t4=>?_;replace gx:q.l[0]?=some x:=gx;have hxr:=((hP.p.bx i q.l gq1).2.2 x (Yb gx));refine⟨x,t4.hd,?_⟩;refine (expected70 L s k eb wb (i%s.n) y z _ x K' osl os qs (hs.perm (List.Perm.swap _ _ _)) hS hP.v (hE.mono mem1) hK gy (hP.p.st _ z y.m gz gm) (show inR ((i/s.n:Nat):Int) from ⟨hd0,hd1⟩) (show inR x from ⟨by omega,by omega⟩)).mono ?_;rintro _ h23 ⟨b3,K2,rfl,hb3,hK2,hs2⟩;have hs:=hs2.perm (List.Perm.swap _ _ _);have hui:=unx_iff (L:=L.map MR.m) (S:=S) gq1 (by rw[hlm];exact gm) (by rw[hlm];exact gz) gx;rw[hlm] at hui;refine⟨b3,rfl,sB_intro (fun c3=>?_) (fun c3=>?_)⟩
   .have hu:=hui.2 fun he=>iff_f hb3 (bF c3) he;exact⟨K2,by rw[badS_1 hu],hK2,hs.drop 1⟩
   .refine⟨_,(show sb.n-(i+1)<sb.n-i by omega),i+1,K2,by rw[w64 (by omega) (by omega)];omega,rfl,by omega,hs,hK2,fun j hj=>?_⟩;by_cases e:j=i
    .subst e;exact fun hu=>hui.1 hu (hb3.1 (bT c3))
    .exact hq j (by omega)
  .refine⟨_,(show sb.n-(i+1)<sb.n-i by omega),i+1,K',by rw[w64 (by omega) (by omega)];omega,rfl,by omega,hs,hK,fun j hj=>?_⟩;by_cases e:j=i
   .subst e;rintro⟨b',l',m',s',h1,-⟩;rw[gq1] at h1;have h2:=congrArg List.length (Yyp h1);rw[Yyj] at h2;omega
   .exact hq j (by omega)
 .have hno:=unx_none (show sb.n=(B.map Bx.l).length by omega) fun j hj=>hq j (by omega);refine sB_intro (fun c2=>?_) (fun c2=>?_)
  .have hnn:stepsS (L.map MR.m) k S (B.map Bx.l)=[]:=Classical.byContradiction fun h=>by have:=hnz.2 h;rw[this] at c2;cases c2
   refine⟨ss,sb,hs.at 0 rfl (o:=0) (n:=2) rfl,?_⟩;refine (final71 L s k eb ss sb S B h10 (hS.ext hs.ext) (hE.at hs mem2).r hCc hP).mono ?_;rintro _ h30 ⟨⟨b2,rfl,hb2⟩,E⟩;have hs:=hs.step E;refine⟨b2,rfl,sB_intro (fun c3=>?_) (fun c3=>?_)⟩
   .exact⟨K',by rw[badS_2 hno (fun hf=>iff_f hb2 (bF c3) hf) hnn],hK,hs.drop 1⟩
   .exact⟨K',by rw[badS_0 hno (.inl (hb2.1 (bT c3)))],hK,hs.drop 1⟩
  .exact⟨K',by rw[badS_0 hno (.inr (hnz.1 (bT c2)))],hK,hs.drop 1⟩
theorem reverse72 (X:List (Nat × Nat)) (s:Sl) {h0 h:Heap} {A:List It} (hs:St h0 h (.sl s 43 2 (X.map stpC)::A)) (hl:X.length<=1048576) :
  Fn Pz 125 #[.slice s.a s.n s.c] h fun v h'=>v=.tuple ⟨[]⟩/\St h0 h' (.sl s 43 2 (X.reverse.map stpC)::A):=by
 apply vc125 s;unfold W125;have hn:=(hs.rows 0 (s:=s) (cs:=stpC) rfl (by omega)).ln;refine⟨fun i j h' μ=>∃(a:Nat) (Y:List (Nat × Nat)),i=(a:Int)/\j=(s.n:Int)-1-(a:Int)/\μ=s.n-a/\2*a<=s.n/\Y.length=X.length/\(∀t,t<s.n->Y[t]?=if t<a\/s.n-a<=t then X[s.n-1-t]? else X[t]?)/\St h0 h' (.sl s 43 2 (Y.map stpC)::A),⟨_,0,X,rfl,by rw[w64 (by omega) (by omega)];omega,rfl,by omega,rfl,fun t ht=>by rw[if_neg (by omega)],hs⟩,?_⟩;clear hs;rintro-_ _ h6 μ ⟨a,Y,rfl,rfl,rfl,ha,hY,hq,hs⟩;refine sBi (fun c=>?_) (fun c=>?_)
 .have ej:(s.n:Int)-1-(a:Int)=((s.n-1-a:Nat):Int):=by omega
  rw[ej];obtain⟨b,hb⟩:∃b,b=s.n-1-a:=⟨_,rfl⟩;rw[<-hb];obtain⟨x,gx⟩:=get_some (l:=Y) (i:=b) (by omega);obtain⟨y,gy⟩:=get_some (l:=Y) (i:=a) (by omega);refine (hs.rows 0 (s:=s) (cs:=stpC) rfl (by omega)).nbI (by omega) (by omega) fun b7 o8 x' gx' t=>?_;rw[Ys,gx] at gx';cases gx';refine⟨(x.1:Int),(x.2:Int),t,?_⟩;refine (hs.rows 0 (s:=s) (cs:=stpC) rfl (by omega)).nbI (by omega) (by omega) fun b11 o12 y' gy' t2=>?_;rw[Ys,gy] at gy';cases gy';refine⟨(y.1:Int),(y.2:Int),t2,?_⟩;refine hs.set 0 (s:=s) (cs:=stpC) (x:=(a:Int)) rfl (by omega) (by omega) (by omega) x rfl rfl (fun b15 o16 h17 hs=>?_) rfl;rw[Ys] at hs;refine hs.set 0 (s:=s) (cs:=stpC) (x:=(b:Int)) rfl (by omega) (by omega) (by omega) y rfl rfl (fun b18 o19 h20 hs=>?_) rfl;rw[Ys] at hs;refine⟨_,(show s.n-(a+1)<s.n-a by omega),a+1,(Y.set a x).set b y,by rw[w64 (by omega) (by omega)];omega,by rw[w64 (by omega) (by omega)];omega,rfl,by omega,by rw[Yyh,Yyh,hY],fun w ht=>?_,hs⟩;have hab:a<b:=by omega
  have h1:=hq a (by omega);have h2:=hq b (by omega);rw[gy,if_neg (by omega)] at h1;rw[gx,if_neg (by omega)] at h2;by_cases e1:w=b
  .rw[e1,Yq (by rw[Yyh];omega),if_pos (by omega),show s.n-1-b=a by omega];exact h1
  .rw[Yy (Ne.symm e1)];by_cases e2:w=a
   .rw[e2,Yq (by omega),if_pos (by omega),show s.n-1-a=b by omega];exact h2
   .rw[Yy (Ne.symm e2),hq w ht];by_cases e3:w<a\/s.n-a<=w
    .rw[if_pos e3,if_pos (by omega)]
    .rw[if_neg e3,if_neg (by omega)]
 .have hYX:Y=X.reverse:=by
   refine Yyr fun t=>?_;by_cases ht:t<s.n
   .rw[List.getElem?_reverse (by omega),hq t ht,<-hn];by_cases e3:t<a\/s.n-a<=t
    .rw[if_pos e3]
    .rw[if_neg e3,show s.n-1-t=t by omega]
   .rw[Yl (by omega),Yl (by rw[List.length_reverse];omega)]
  rw[hYX] at hs;exact⟨rfl,hs⟩
structure Vs where
 c1:Sl
 c2:Sl
 S:List Int
 B:List Bx
 ah:Int
 a:Nat
 b:Nat
 tr:List (Nat × Nat)
def Vs.cs (v:Vs):List Value:=[.slice v.c1.a v.c1.n v.c1.c,.slice v.c2.a v.c2.n v.c2.c,.int .i64 v.ah,.int .i64 (v.a:Int),.int .i64 (v.b:Int)]
def TrOk (V:List Vs):Prop:=∀(j:Nat) (v:Vs),V[j]?=some v->v.tr.length<=j/\((v.ah=-1/\v.tr=[])\/∃(p:Nat) (u:Vs),p<j/\V[p]?=some u/\v.ah=(p:Int)/\v.tr=u.tr++[(v.a,v.b)])
theorem trace36 (V:List Vs) (s:Sl) (i:Nat) (v0:Vs) (h:Heap) (hr:Rw h 5 s (V.map Vs.cs)) (hl:V.length<=1048576) (g0:V[i]?=some v0) (hT:TrOk V) :
  Fn Pz 64 #[.slice s.a s.n s.c,.int .i64 (i:Int)] h fun v h'=>∃r:Sl,v=.slice r.a r.n r.c/\St h h' [.sl r 43 2 (v0.tr.map stpC)]:=by
 apply vc64 s (i:Int);unfold W64;have hn:=hr.ln;have h0l:=(hT i v0 g0).1;have hil:=(Ya.1 g0).1;have hs:=(St.refl h).nil_ 43 2;refine⟨fun x out h' μ=>∃(j:Nat) (u:Vs) (O:List (Nat × Nat)),x=(j:Int)/\μ=j/\V[j]?=some u/\u.tr++O.reverse=v0.tr/\St h h' [.sl out 43 2 (O.map stpC)],⟨_,i,v0,[],rfl,rfl,g0,by simp,hs⟩,?_⟩;clear hs;rintro-_ out h6 μ ⟨j,u,O,rfl,hμ,gu,ho,hs⟩;have hjl:=(Ya.1 gu).1;have hol:O.length<=V.length:=by
  have:=congrArg List.length ho;rw[Yh,List.length_reverse] at this;omega
 have hon:=(hs.rows 0 (s:=out) (cs:=stpC) rfl (by omega)).ln;have rd:∀ {h':Heap} {F:Nat->Nat->Prop},Ext h h'->(∀b o,atC h' ⟨b,o+Int.toNat (j:Int)*5,none⟩ u.cs->F b o)->NB s.a fun b o=>(0<=(j:Int)/\(j:Int)<(s.n:Nat))/\F b o:=fun E hF=>
  (hr.ext E).nbI (by omega) (by omega) fun b o u' gu' t=>by
   rw[Ys,gu] at gu';cases gu';exact hF b o t
 refine rd hs.ext fun b7 o8 t=>?_;refine⟨u.ah,t.nth 2 rfl,sBi (fun c=>?_) (fun c=>?_)⟩
 .rcases (hT j u gu).2 with ⟨e1,_⟩ | ⟨p,w,hp,gw,e1,e2⟩
  .omega
  .refine rd hs.ext fun b10 o11 t=>?_;refine⟨(u.a:Int),(u.b:Int),t.sub 3 2 rfl,?_⟩;refine hs.app 0 (s:=out) (n:=2) (rows:=O.map stpC) rfl app30e (m:=1) [stpC (u.a,u.b)] rfl rfl (by simp[stpC,stC]) rfl (by omega) (by simp only[maxLen];omega) fun r h16 nr hs=>?_;refine rd hs.ext fun b17 o18 t=>?_;refine⟨u.ah,t.nth 2 rfl,p,by omega,p,w,O++[(u.a,u.b)],e1,rfl,gw,?_,by rw[Ym];exact hs⟩;rw[<-ho,e2,List.reverse_append,Yz];rfl
 .rcases (hT j u gu).2 with ⟨e1,e2⟩ | ⟨p,w,hp,gw,e1,e2⟩
  .refine (reverse72 O out hs (by omega)).mono ?_;rintro _ h22 ⟨rfl,hs⟩;rw[e2,List.nil_append] at ho;rw[ho] at hs;exact⟨rfl,out,rfl,hs⟩
  .omega
theorem clone38 (ss sb:Sl) (S:List Int) (B:List Bx) (h:Heap) (hC:CfI h ss sb S B) :
  Fn Pz 66 #[.agg ⟨[.slice ss.a ss.n ss.c,.slice sb.a sb.n sb.c]⟩] h (CloV S B h):=by
 apply vc66 ss sb;unfold W66 V66b V66a;have hbn:=hC.b.ln;have hbs:=hC.b.sm;refine (St.refl h).newb fun h3 hs=>?_;refine hs.newb fun h4 hs=>?_;refine⟨ss,hs.rd 1 rfl (i:=0) rfl,sb,hs.rd 1 rfl (i:=1) rfl,?_⟩;rw[Ys];have hc:((0:Int)<=(sb.n:Int)/\((sb.n:Int):Int)<=(sb.n:Int)/\((24:Nat):Int)*(sb.n:Int)<=140737488355328):=⟨by omega,by omega,by omega⟩;have mk:∀ {hX:Heap} {b:Nat} {L:List It},St h hX (.blk b (madeL Pz 25 sb.n) 25::L)->St h hX (.sl ⟨some ⟨b,0,none⟩,sb.n,sb.n⟩ 25 1 ((List.replicate B.length bx0).map Bx.cs)::L):=fun hs=>
  hs.blkS sb.n 1 _ (by rw[hbn];exact boxes0 _) (bxrows _) (by rw[Yc,Yg,hbn]) (by simp only[maxLen];omega)
 refine And.intro ?_ (And.intro ?_ ?_)
 .refine (clone92 S ss h4 (hC.s.ext hs.ext)).mono ?_;rintro _ h9 ⟨ts,rfl,hs2⟩;have hs:=hs.join hs2;refine⟨ts,rfl,hs2.ext.sm,And.intro ?_ ?_⟩
  .refine⟨hc,hs.newbE fun h10 E10 hs=>⟨E10.sm,?_⟩⟩;have hs:=mk hs;refine hs.newbE fun h11 E11 hs=>⟨E11.sm,?_⟩;refine hs.put 0 rfl (o:=0) (vs:=[.slice ts.a ts.n ts.c,.slice (some ⟨h9.size,0,none⟩) sb.n sb.n]) rfl (show 2<=2 by decide) fun h12 hs=>?_;exact cloneB _ _ _ ss sb ts ⟨some ⟨h9.size,0,none⟩,sb.n,sb.n⟩ ⟨none,0,0⟩ ⟨none,0,0⟩ S B h h12 hC hs
  .refine hs.newbE fun h10 E10 hs=>⟨E10.sm,hc,?_⟩;refine hs.newbE fun h11 E11 hs=>⟨E11.sm,?_⟩;have hs:=mk hs;refine hs.put 1 rfl (o:=0) (vs:=[.slice ts.a ts.n ts.c,.slice (some ⟨h10.size,0,none⟩) sb.n sb.n]) rfl (show 2<=2 by decide) fun h12 hs=>?_;exact cloneB _ _ _ ss sb ts ⟨some ⟨h10.size,0,none⟩,sb.n,sb.n⟩ ⟨none,0,0⟩ ⟨none,0,0⟩ S B h h12 hC (hs.perm (List.Perm.swap _ _ _))
 .refine⟨hc,hs.newbE fun h10 E10 hs=>⟨E10.sm,?_⟩⟩;have hs:=mk hs;refine And.intro ?_ ?_;refine (clone92 S ss h10 (hC.s.ext hs.ext)).mono ?_;rintro _ h9 ⟨ts,rfl,hs2⟩;have hs:=hs.join hs2;refine⟨ts,rfl,hs2.ext.sm,?_⟩;refine hs.newbE fun h11 E11 hs=>⟨E11.sm,?_⟩;rotate_left;refine hs.newbE fun h11 E11 hs=>⟨E11.sm,?_⟩;refine (clone92 S ss h11 (hC.s.ext hs.ext)).mono ?_;rintro _ h9 ⟨ts,rfl,hs2⟩;have hs:=hs.join hs2;refine⟨ts,rfl,hs2.ext.sm,?_⟩;all_goals
   refine hs.put 0 rfl (o:=0) (vs:=[.slice ts.a ts.n ts.c,.slice (some ⟨h4.size,0,none⟩) sb.n sb.n]) rfl (show 2<=2 by decide) fun h12 hs=>?_;exact cloneB _ _ _ ss sb ts ⟨some ⟨h4.size,0,none⟩,sb.n,sb.n⟩ ⟨none,0,0⟩ ⟨none,0,0⟩ S B h h12 hC hs
 .refine hs.newbE fun h10 E10 hs=>⟨E10.sm,And.intro ?_ ?_⟩
  .refine (clone92 S ss h10 (hC.s.ext hs.ext)).mono ?_;rintro _ h9 ⟨ts,rfl,hs2⟩;have hs:=hs.join hs2;refine⟨ts,rfl,hs2.ext.sm,hc,?_⟩;refine hs.newbE fun h11 E11 hs=>⟨E11.sm,?_⟩;have hs:=mk hs;refine hs.put 1 rfl (o:=0) (vs:=[.slice ts.a ts.n ts.c,.slice (some ⟨h9.size,0,none⟩) sb.n sb.n]) rfl (show 2<=2 by decide) fun h12 hs=>?_;exact cloneB _ _ _ ss sb ts ⟨some ⟨h9.size,0,none⟩,sb.n,sb.n⟩ ⟨none,0,0⟩ ⟨none,0,0⟩ S B h h12 hC (hs.perm (List.Perm.swap _ _ _))
  .refine⟨hc,hs.newbE fun h11 E11 hs=>⟨E11.sm,?_⟩⟩;have hs:=mk hs;refine (clone92 S ss h11 (hC.s.ext hs.ext)).mono ?_;rintro _ h9 ⟨ts,rfl,hs2⟩;have hs:=hs.join hs2;refine⟨ts,rfl,hs2.ext.sm,?_⟩;refine hs.put 1 rfl (o:=0) (vs:=[.slice ts.a ts.n ts.c,.slice (some ⟨h10.size,0,none⟩) sb.n sb.n]) rfl (show 2<=2 by decide) fun h12 hs=>?_;exact cloneB _ _ _ ss sb ts ⟨some ⟨h10.size,0,none⟩,sb.n,sb.n⟩ ⟨none,0,0⟩ ⟨none,0,0⟩ S B h h12 hC (hs.perm (List.Perm.swap _ _ _))
end Go.VC
end

section
namespace Go.VC
open Go.Proofs Go.LexS
variable [Mono]
namespace M
theorem order66 (x y:Mv) (h:Heap):Fn Pz 120 #[.agg ⟨x.cs⟩,.agg ⟨y.cs⟩] h fun v h'=>v=.int .i64 (cmpE x.ev y.ev)/\Ext h h':=by
 apply vc120 x.f x.send x.peer x.label x.t x.ag y.f y.send y.peer y.label y.t y.ag;unfold W120;refine (St.refl h).newb fun h13 hs=>?_;refine hs.newb fun h14 hs=>?_;refine⟨x.send,hs.rd 1 rfl (i:=1) rfl,y.send,hs.rd 0 rfl (i:=1) rfl,sB_intro (fun c=>?_) (fun c=>?_)⟩
 .refine⟨x.send,hs.rd 1 rfl (i:=1) rfl,sB_intro (fun d=>⟨?_,hs.ext⟩) (fun d=>⟨?_,hs.ext⟩)⟩
  .congr 1;obtain⟨f,s,p,l,t,a⟩:=x;obtain⟨f',s',p',l',t',a'⟩:=y;dsimp only at c d;unfold cmpE Mv.ev;cases s<;>cases s'<;>simp_all
  .congr 1;obtain⟨f,s,p,l,t,a⟩:=x;obtain⟨f',s',p',l',t',a'⟩:=y;dsimp only at c d;unfold cmpE Mv.ev;cases s<;>cases s'<;>simp_all
 .refine⟨x.peer,hs.rd 1 rfl (i:=2) rfl,y.peer,hs.rd 0 rfl (i:=2) rfl,x.label,hs.rd 1 rfl (i:=3) rfl,y.label,hs.rd 0 rfl (i:=3) rfl,?_⟩;refine (cmp110 _ _ _).mono ?_;rintro _ _ ⟨rfl,rfl⟩;refine⟨_,rfl,fun _ _ _ _ hv=>hv,?_⟩;refine (cmp110 _ _ _).mono ?_;rintro _ _ ⟨rfl,rfl⟩;refine⟨_,rfl,fun _ _ _ _ hv=>hv,?_⟩;refine hs.newb fun h28 hs=>?_;have hs2:=hs.blkS 2 1 ([cmpI x.peer y.peer,cmpI x.label y.label].map inC) rfl (inrows _) rfl (by decide);refine (or109 [cmpI x.peer y.peer,cmpI x.label y.label] _ h28 (hs2.rows 0 rfl (by omega)) (show 2<=1048576 by decide)).mono ?_;rintro _ _ ⟨rfl,rfl⟩;refine⟨_,rfl,?_,hs.ext⟩;show Value.int .i64 (orI3 _ (orI3 _ 0))=_;congr 1;obtain⟨f,s,p,l,t,a⟩:=x;obtain⟨f',s',p',l',t',a'⟩:=y;dsimp only at c;unfold cmpE orI3 Mv.ev;cases s<;>cases s'<;>simp_all [cmpI]<;>(repeat' split)<;>omega
theorem start65 (mv:List Mv) (sm:Sl) (a:Addr) (i k:Nat) (x y:Mv) (h:Heap) (ha:hc h ⟨a.block,a.off+4,none⟩=some (.slice sm.a sm.n sm.c)) (hr:Rw h 6 sm (mv.map Mv.cs)) (hx:mv[i]?=some x) (hy:mv[k]?=some y) :
  Fn Pz 119 #[.int .i64 (i:Int),.int .i64 (k:Int),.pointer (some a)] h fun v h'=>v=.int .i64 (cmpE x.ev y.ev)/\Ext h h':=by
 apply vc119 (i:Int) (k:Int) a;unfold W119;have hn:=hr.ln;have hxl:=(Ya.1 hx).1;have hyl:=(Ya.1 hy).1;refine⟨sm,ha,?_⟩;refine hr.nbI (by omega) (by omega) fun b o x' gx t=>?_;rw[Ys,hx] at gx;cases gx;refine⟨_,_,_,_,_,_,t,sm,ha,?_⟩;refine hr.nbI (by omega) (by omega) fun b2 o2 y' gy t2=>?_;rw[Ys,hy] at gy;cases gy;refine⟨_,_,_,_,_,_,t2,?_⟩;refine (order66 x y h).mono ?_;rintro _ h29 ⟨rfl,E⟩;exact⟨_,rfl,rfl,E⟩
end M
def Sort64:Prop:=∀(m:Mch) (sm:Sl) (a:Addr) {h0 h:Heap} {Ls:List It},St h0 h Ls->∀(i:Nat) {s:Sl} {l:List Nat},Ls[i]?=some (.sl s 3 1 ((natI l).map inC))->(∀x∈l,x<m.mv.length)->(l=[]->s.a=none)->m.mv.length<=1048576->l.length<=1048576 ->
 (∀h':Heap,h.size<=h'.size->(∀c,c<h.size->s.a.map (·.block)≠some c->h'[c]?=h[c]?)->hc h' ⟨a.block,a.off+4,none⟩=some (.slice sm.a sm.n sm.c)/\Rw h' 6 sm (m.mv.map Mv.cs)) ->
 Fn Pz 118 #[.slice s.a s.n s.c,.func (.func 119) #[] #[.pointer (some a)]] h fun v h'=>v=.tuple ⟨[]⟩/\∃l':List Nat,l'.Perm l/\l'.Pairwise (fun a b=>¬evLt (evI m b) (evI m a))/\St h0 h' (Ls.set i (.sl s 3 1 ((natI l').map inC)))
end Go.VC
end

section
namespace Go.VC
open Go.Proofs Go.Shelf
theorem sort64:Sort64:=by
 intro m sm a h0 h Ls hs i s l hi hlm hnil hml hll hread;by_cases hl0:l=[]
 .subst hl0;have ha:=hnil rfl;have hget:=hs.get hi;rcases hget.1.2 with ⟨_,hn0,hc0⟩ | ⟨b,cur,ha',_⟩
  .have hset:Ls.set i (.sl s 3 1 ((natI []).map inC))=Ls:=by
    obtain⟨p,q⟩:=Ya.1 hi;rw[<-q];exact List.set_getElem_self p
   intro w hw;subst hw;rw[ha,hn0,hc0];refine (AnyF.slices_SortFunc_none { Tryz.sortL152 with } none ((0:Nat):Nat) (.func (.func 119) #[] #[.pointer (some a)]) w).mono ?_;rintro e' w' ⟨rfl,rfl⟩;exact⟨_,rfl,⟨rfl,[],List.Perm.refl _,List.Pairwise.nil,by rw[hset];exact hs⟩,rfl,rfl,rfl,trivial⟩
  .rw[ha] at ha';cases ha'
 .have hpos:0<m.mv.length:=by
   cases l with
   | nil=>exact absurd rfl hl0
   | cons x r=>have:=hlm x Yx;omega
  haveI:Inhabited (Fin m.mv.length):=⟨⟨0,hpos⟩⟩
  obtain⟨k,rfl⟩:=fin_list hlm;have hi':Ls[i]?=some (.sl s 3 1 (k.map fun x=>[finE x])):=by rw[hi,natI_fin]
  rw[Yc] at hll;refine Fn.mono (sort_own1 Tryz.sortL152 3 (finE (n:=m.mv.length)) (fun _=>rfl) (fun x y:Fin m.mv.length=>cmpE (evI m x.val) (evI m y.val)) (swo_on swoE fun x:Fin m.mv.length=>evI m x.val) 119 #[.pointer (some a)] (enters_of Tryz.func119 (by kernel_rfl) rfl) hs i hi' (by omega) (fun x y h' hsz hoth=>?_)) ?_
  .obtain⟨r1,r2⟩:=hread h' hsz hoth;have g:∀x:Fin m.mv.length,m.mv[x.val]?=some m.mv[x.val]:=fun x=>Yi x.isLt;have ev:∀x:Fin m.mv.length,evI m x.val=m.mv[x.val].ev:=fun x=>by unfold evI;rw[g x]
   rw[ev x,ev y];exact @M.start65 monoDrawn m.mv sm a x.val y.val m.mv[x.val] m.mv[y.val] h' r1 r2 (g x) (g y)
  .rintro v h' ⟨rfl,k',hp,hw,hs'⟩;refine⟨rfl,k'.map Fin.val,hp.map _,?_,by rw[natI_fin];exact hs'⟩;rw[List.pairwise_map];refine hw.imp fun {a b} hab=>?_;unfold ltOf at hab;rw[decide_eq_false_iff_not,cmpE_neg] at hab;exact hab
end Go.VC
end

section
namespace Go.VC
open Go.Proofs Go.LexS
structure Tbr where
 o:Sl
 q:List (Sl × List Int)
instance:Inhabited Tbr:=⟨⟨⟨none,0,0⟩,[]⟩⟩
def tabs (T:List Tbr):List It:=T.flatMap fun t=>.sl t.o 25 1 ((t.q.map Prod.fst).map slC)::t.q.map (nest 3 1 inC)
structure TbF (m:Mch) (t:Tbr):Prop where
 n:t.o.n=m.n.toNat
 l:t.q.length=m.n.toNat
 q:∀(j:Nat) q,t.q[j]?=some q->q.2=natI (mvS m (j:Int))
def tbP (y:MR) (bm:Nat) (ho:Sl) (qs:List (Sl × List Int)):List It:=[.sl ho 25 1 ((qs.map Prod.fst).map slC),.blk bm (MR.cs y) 98]
theorem app145:appB Pz 194 26 1 24=true:=by kernel_rfl
theorem tabs_snoc (T:List Tbr) (t:Tbr):tabs (T++[t])=tabs T++(.sl t.o 25 1 ((t.q.map Prod.fst).map slC)::t.q.map (nest 3 1 inC)):=by
 unfold tabs;rw[List.flatMap_append,List.flatMap_cons,List.flatMap_nil,Yw]
theorem tabs_o {T:List Tbr} {t:Tbr} (ht:t∈T):It.sl t.o 25 1 ((t.q.map Prod.fst).map slC)∈tabs T:=List.mem_flatMap.2 ⟨t,ht,Yx⟩
theorem tabs_q {T:List Tbr} {t:Tbr} (ht:t∈T) {q:Sl × List Int} (hq:q∈t.q):nest 3 1 inC q∈tabs T:=List.mem_flatMap.2 ⟨t,ht,Yn _ (List.mem_map_of_mem hq)⟩
theorem St.rwm {h0 h:Heap} {L:List It} (hs:St h0 h L) {s:Sl} {e n:Nat} {rows:List (List Value)} (hk:It.sl s e n rows∈L) (hn:0<n):Rw h n s rows:=by
 obtain⟨k,hk⟩:=Yf.1 hk;exact hs.rw k hk hn
theorem St.atm {h0 h:Heap} {L:List It} (hs:St h0 h L) {b:Nat} {xs:List Value} {e:TypeId} (hk:It.blk b xs e∈L):atC h ⟨b,0,none⟩ xs:=by
 obtain⟨k,hk⟩:=Yf.1 hk;exact hs.at k hk (o:=0) (n:=xs.length) (by rw[List.drop_zero,Yye])
theorem Rw.one {α:Type} {h:Heap} {b n c:Nat} {l:List α} {cs:α->List Value} (hr:Rw h 1 ⟨some ⟨b,0,none⟩,n,c⟩ (l.map cs)) {x:Int} (h0:0<=x) (h1:x<(n:Int)) {d:α} (hd:l[x.toNat]?=some d) {v:Value} (hv:(cs d)[0]?=some v):hc h ⟨b,0+x.toNat*1,none⟩=some v:=by
 have:NB (some ⟨b,0,none⟩) fun b o=>((0<=x/\x<(n:Int))/\hc h ⟨b,o+x.toNat*1,none⟩=some v):=hr.nbI h0 h1 fun b o d' hd' t=>by
  rw[hd] at hd';cases hd';exact t.nth 0 hv
 exact this.2
theorem St.set0 {α:Type} {h0 h:Heap} {L:List It} (hs:St h0 h L) (k:Nat) {b n c:Nat} {e:TypeId} {cs:α->List Value} {l:List α} (hk:L[k]?=some (.sl ⟨some ⟨b,0,none⟩,n,c⟩ e 1 (l.map cs))) {x:Int} (hx0:0<=x) (hx1:x<(n:Int)) (y:α) {vs:List Value} (hv:vs=cs y)
  {m:Nat} (hm:m=vs.length) (hy:(cs y).length=1) {K:Heap->Prop} (hK:∀h',St h0 h' (L.set k (.sl ⟨some ⟨b,0,none⟩,n,c⟩ e 1 ((l.set x.toNat y).map cs)))->K h') :
  okAt h ⟨b,0+x.toNat*1,none⟩ m/\∀h',h'=hputs h ⟨b,0+x.toNat*1,none⟩ 0 vs->K h':=by
 have:NB (some ⟨b,0,none⟩) fun b o=>(0<=x/\x<(n:Int))/\(okAt h ⟨b,o+x.toNat*1,none⟩ m/\∀h',h'=hputs h ⟨b,o+x.toNat*1,none⟩ 0 vs->K h'):=hs.set k hk (by omega) hx0 hx1 y hv hm (K:=fun _ _ h'=>K h') (fun _ _ h' hh=>hK h' hh) hy;exact this.2
theorem eng_sta (L:List MR) (s:Sl) (k:Int) (eb wb:Nat) (osl:Sl) (T:List Tbr) (hT:T.length=L.length) (hF:∀(p:Nat) y t,L[p]?=some y->T[p]?=some t->TbF y.m t) :
  Sta (.blk eb [.slice s.a s.n s.c,.int .i64 k,.slice osl.a osl.n osl.c,.map (some wb)] 196 :: .sl osl 26 1 (T.map fun t=>slC t.o)::tabs T) fun h=>EngX h eb wb s k L osl (fun p=>(T.getD p default).o) fun p s=>((T.getD p default).q.getD s default).1:=by
 intro h0 h A' hA hs;have hm:∀i∈tabs T,i∈A':=fun i hi=>hA i (Yn _ (Yn _ hi));have gT:∀(p:Nat) x,L[p]?=some x->T[p]?=some (T.getD p default):=fun p x hx=>by
  have:=(Ya.1 hx).1;rw[Yo,Yi (by omega)];rfl
 refine⟨hs.atm (hA _ Yx),?_,fun p x hx=>?_,fun p x hx j hj=>?_⟩
 .have:=hs.rwm (hA _ (Yn _ Yx)) (by omega);rw[map_range,hT] at this;exact this
 .have gt:=gT p x hx;have hF:=hF p x _ hx gt;have:=hs.rwm (hm _ (tabs_o (Yb gt))) (by omega);rw[List.map_map,map_range,hF.l] at this;exact this
 .have gt:=gT p x hx;have hF:=hF p x _ hx gt;generalize T.getD p default=t at *;have gq:t.q[j]?=some (t.q.getD j default):=by
   rw[Yo,Yi (by have:=hF.l;omega)];rfl
  have:=hs.rwm (hm _ (tabs_q (Yb gt) (Yb gq))) (by omega);rw[hF.q j _ gq] at this;exact this
theorem start32 (L:List MR) (s:Sl) (k:Int) (h:Heap) (hS:SyI h s L) (hV:SysV (L.map MR.m)) :
  Fn Pz 60 #[.slice s.a s.n s.c,.int .i64 k] h fun v h'=>∃(eb wb:Nat) (A:List It) (osl:Sl) (os:Nat->Sl) (qs:Nat->Nat->Sl),v=.pointer (some ⟨eb,0,none⟩)/\St h h' (.mp wb []::A)/\Sta A fun h=>EngX h eb wb s k L osl os qs:=by
 apply vc60 s k;unfold W60;have hn:=hS.r.ln;have hsm:=hS.r.sm;have hlm:(L.map MR.m).length=L.length:=Yc _;have hV6:=hV.n;rw[hlm] at hV6;refine (St.refl h).mmake 193 fun h3 E3 hs=>⟨_,rfl,?_⟩;refine hs.newb fun h4 hs=>?_;obtain⟨eb,heb⟩:∃eb,eb=h3.size:=⟨_,rfl⟩;rw[<-heb] at hs ⊢;have hs:=hs.nil_ 26 1;have hs:=hs.picks (L':=[.mp h.size [],.blk eb [.slice s.a s.n s.c,.int .i64 k,.slice none 0 0,.map (some h.size)] 196,.sl ⟨none,0,0⟩ 26 1 []]) [2,1,0] (by decide) rfl;refine⟨fun x h' μ=>∃(i:Nat) (T:List Tbr) (osl:Sl),x=(i:Int)/\μ=L.length-i/\i<=L.length/\T.length=i/\(∀(p:Nat) y t,L[p]?=some y->T[p]?=some t->TbF y.m t) /\
  St h h' (.mp h.size [] :: .blk eb [.slice s.a s.n s.c,.int .i64 k,.slice osl.a osl.n osl.c,.map (some h.size)] 196 :: .sl osl 26 1 (T.map fun t=>slC t.o)::tabs T),⟨_,0,[],⟨none,0,0⟩,rfl,rfl,Nat.zero_le _,rfl,fun p y t _ ht=>(by cases ht),hs⟩,?_⟩
 clear hs;rintro-_ h9 μ ⟨i,T,osl,rfl,rfl,hi,hTl,hF,hs⟩;refine sBi (fun c1=>?_) (fun c1=>?_)
 .obtain⟨y,gy⟩:=get_some (l:=L) (i:=i) (by omega);have gm:(L.map MR.m)[i]?=some y.m:=by rw[Yd,gy];rfl
  have hM:=hS.i y (Yb gy);have hvm:=hV.m i y.m gm;have hN:=hvm.2.1.n;have hmn:=hM.pm.ln;have hmm:=hM.pm.sm;have hNn:=hN.n;have hml:=hN.ml;have hmx:y.m.n.toNat<=maxLen:=by simp only[maxLen];omega
  refine (hS.r.rw.ext hs.ext).nbI (by omega) (by omega) fun b10 o11 y' gy' t=>?_;rw[Ys] at gy';replace gy':L[i]?=some y':=gy';rw[gy] at gy';cases gy';refine⟨_,_,_,_,_,_,t,?_⟩;have hbm9:h.size<=h9.size:=hs.ext.1;refine hs.newput (vs:=MR.cs y) rfl rfl fun h19 hs=>?_;refine⟨y.m.n,hs.rd 0 rfl (i:=1) rfl,⟨by omega,by omega,by omega⟩,?_⟩;rw[made42];refine hs.newb fun h21 hs=>?_;have hs:=hs.blkS y.m.n.toNat 1 _ rfl (slrows _) (by rw[Yc,Yg]) hmx;have hrep:((List.replicate y.m.n.toNat ((⟨none,0,0⟩,[]):Sl × List Int)).map Prod.fst)=List.replicate y.m.n.toNat (⟨none,0,0⟩:Sl):=List.map_replicate;generalize hO:(.mp h.size [] :: .blk eb [.slice s.a s.n s.c,.int .i64 k,.slice osl.a osl.n osl.c,.map (some h.size)] 196 :: .sl osl 26 1 (T.map fun t=>slC t.o)::tabs T:List It)=O at *;have hs:St h h21 (tbP y h9.size ⟨some ⟨h19.size,0,none⟩,y.m.n.toNat,y.m.n.toNat⟩ (List.replicate y.m.n.toNat (⟨none,0,0⟩,[]))++(List.replicate y.m.n.toNat ((⟨none,0,0⟩,[]):Sl × List Int)).map (nest 3 1 inC)++O):=by
   have h1:St h h21 (tbP y h9.size ⟨some ⟨h19.size,0,none⟩,y.m.n.toNat,y.m.n.toNat⟩ (List.replicate y.m.n.toNat (⟨none,0,0⟩,[]))++O):=by
    unfold tbP;rw[hrep];exact hs
   exact h1.nests (α:=Int) (e:=3) (k:=1) (cs:=inC) y.m.n.toNat
  refine⟨y.g,hs.rd 1 rfl (i:=4) rfl,?_⟩;refine up_loop (n:=y.g.n) (fun i h'=>∃qs,TbL y.m i qs/\St h h' (tbP y h9.size ⟨some ⟨h19.size,0,none⟩,y.m.n.toNat,y.m.n.toNat⟩ qs++qs.map (nest 3 1 inC)++O)) ⟨_,TbL.start y.m,hs⟩ ?_;clear hs;rintro-j h27 hj ⟨qs,hL,hs⟩;refine sB_intro (fun c=>?_) (fun c=>?_)
  .replace c:=lt_t c;refine (hM.pm.ext hs.ext).rw.nbI (by omega) (by omega) fun b23 o24 x gx t=>?_;replace gx:y.m.mv[j]?=some x:=gx;have hx:=hN.mv x (Yb gx);obtain⟨f,hf⟩:∃f:Nat,x.f=f:=⟨x.f.toNat,by omega⟩;obtain⟨q,hq⟩:=get_some (l:=qs) (i:=f) (by rw[hL.l];omega);have hql:=hL.len hq;have hqn:q.1.n=q.2.length:=by
    have:=hs.len (2+f) (s:=q.1) (e:=3) (n:=1) (rows:=q.2.map inC) (by
     have:=get_mid (P:=tbP y h9.size ⟨some ⟨h19.size,0,none⟩,y.m.n.toNat,y.m.n.toNat⟩ qs) (Q:=qs.map (nest 3 1 inC)) (R:=O) (i:=f) (by rw[Yc];exact (Ya.1 hq).1);rw[show (tbP y h9.size ⟨some ⟨h19.size,0,none⟩,y.m.n.toNat,y.m.n.toNat⟩ qs).length=2 from rfl] at this;rw[this,Yd,hq];rfl) (by omega)
    rw[this.1,Yc]
   refine⟨_,_,_,_,_,_,t,?_⟩;refine hs.newput (vs:=x.cs) rfl rfl fun h37 hs=>?_;refine⟨_,hs.rd 0 rfl (i:=0) rfl,_,hs.rd 0 rfl (i:=0) rfl,⟨by omega,by omega⟩,?_⟩;have hqs:(qs.map Prod.fst)[x.f.toNat]?=some q.1:=by rw[Yd,show x.f.toNat=f by omega,hq];rfl
   refine⟨q.1,Rw.one (l:=qs.map Prod.fst) (cs:=slC) (hs.rows 1 rfl (by omega)) (by omega) (by omega) hqs rfl,?_⟩;refine hs.newbE fun h41 E41 hs=>⟨E41.sm,?_⟩;have hs':St h h41 ((.blk h37.size (inC (j:Int)) 3 :: .blk h27.size x.cs 110::tbP y h9.size ⟨some ⟨h19.size,0,none⟩,y.m.n.toNat,y.m.n.toNat⟩ qs)++qs.map (nest 3 1 inC)++O):=hs;refine hs'.nestAt hq app42 (j:Int) (hs'.at 0 rfl (n:=1) rfl) rfl rfl (by omega) (by simp only[maxLen];omega) fun r h42 hr hs3=>⟨sm_cons (hs'.same hs3 1 1 rfl rfl) sm_nil,⟨by omega,by omega⟩,?_⟩;refine hs3.set0 2 (cs:=slC) (l:=qs.map Prod.fst) rfl (by omega) (by omega) r rfl rfl rfl fun h45 hs4=>?_;refine Up.next c (by omega) ⟨qs.set f (r,q.2++[(j:Int)]),hL.next gx hf hq,?_⟩;unfold tbP;rw[fst_set];rw[hf] at hs4;exact hs4.drop 2
  .replace c:=lt_f c;have him:j=y.m.mv.length:=by omega
   subst him;have hS0:TbS y.m 0 qs:=⟨hL.l,fun n q hq=>⟨_,hL.q n q hq,List.Perm.refl _,fun hn=>by omega⟩,hL.e⟩;refine up_loop (n:=Int.toNat y.m.n) (fun i h'=>∃qs,TbS y.m i qs/\St h h' (tbP y h9.size ⟨some ⟨h19.size,0,none⟩,y.m.n.toNat,y.m.n.toNat⟩ qs++qs.map (nest 3 1 inC)++O)) ⟨qs,hS0,hs⟩ ?_;clear hs hS0 hL;rintro-a h52 ha ⟨qs,hS',hs⟩;have hl:=hS'.l;refine sB_intro (fun c=>?_) (fun c=>?_)
   .replace c:=lt_t c;obtain⟨q,hq⟩:=get_some (l:=qs) (i:=a) (by omega);have hqs:(qs.map Prod.fst)[((a:Nat):Int).toNat]?=some q.1:=by rw[Ys,Yd,hq];rfl
    refine⟨⟨by omega,by omega⟩,q.1,Rw.one (l:=qs.map Prod.fst) (cs:=slC) (hs.rows 0 rfl (by omega)) (by omega) (by omega) hqs rfl,?_⟩;obtain⟨l,hql,hlp,_⟩:=hS'.q a q hq;have hilt:=(Ya.1 hq).1;have hidx:(tbP y h9.size ⟨some ⟨h19.size,0,none⟩,y.m.n.toNat,y.m.n.toNat⟩ qs++qs.map (nest 3 1 inC)++O)[2+a]?=some (.sl q.1 3 1 ((natI l).map inC)):=by
     have:=get_mid (P:=tbP y h9.size ⟨some ⟨h19.size,0,none⟩,y.m.n.toNat,y.m.n.toNat⟩ qs) (Q:=qs.map (nest 3 1 inC)) (R:=O) (i:=a) (by rw[Yc];exact hilt);rw[show (tbP y h9.size ⟨some ⟨h19.size,0,none⟩,y.m.n.toNat,y.m.n.toNat⟩ qs).length=2 from rfl] at this;rw[this,Yd,hq,<-hql];rfl
    have hlm':∀z∈l,z<y.m.mv.length:=fun z hz=>by
     obtain⟨x,hx,_⟩:=outIx_mem.1 (hlp.mem_iff.1 hz);exact (Ya.1 hx).1
    have hll:l.length<=1048576:=by
     rw[hlp.length_eq];unfold outIx;exact Yys (List.length_filter_le _ _) (by rw[Yyd];omega)
    have hbg:(tbP y h9.size ⟨some ⟨h19.size,0,none⟩,y.m.n.toNat,y.m.n.toNat⟩ qs++qs.map (nest 3 1 inC)++O)[1]?=some (.blk h9.size (MR.cs y) 98):=rfl;have hap:∀b,q.1.a.map (·.block)=some b->b≠h9.size:=fun b hb e=>by
     have h1:=(List.pairwise_iff_getElem.1 hs.ap) 1 (2+a) (Ya.1 hbg).1 (Ya.1 hidx).1 (by omega);rw[(Ya.1 hbg).2,(Ya.1 hidx).2] at h1;exact h1 h9.size rfl (by show q.1.a.map (·.block)=_;rw[hb,e])
    have hfr:∀b,q.1.a.map (·.block)=some b->h.size<=b:=fun b hb=>(hs.ok _ (Yb hidx)).2 b hb;refine (sort64 y.m y.g ⟨h9.size,0,none⟩ hs (2+a) hidx hlm' (fun hl0=>hS'.e a q hq (by rw[hql,hl0];rfl)) (by omega) hll fun h' hsz hoth=>?_).mono ?_
    .have E':Ext h h':=⟨Yys hs.ext.1 hsz,fun c hc=>by
      rw[hoth c (by have:=hs.ext.1;omega) fun e=>by have:=hfr c e;omega];exact hs.ext.2 c hc⟩
     refine⟨?_,hM.pm.rw.ext E'⟩;have h1:hc h52 ⟨h9.size,0+4,none⟩=some (.slice y.g.a y.g.n y.g.c):=hs.rd 1 rfl rfl;rw[hc_of_block (h:=h52) (by
      show h'[h9.size]?=h52[h9.size]?;refine hoth h9.size (hc_blk h1) fun e=>hap h9.size e rfl)]
     exact h1
    .rintro _ h57 ⟨rfl,l',hp',hs'',hst⟩;refine⟨rfl,?_⟩;have hset:(tbP y h9.size ⟨some ⟨h19.size,0,none⟩,y.m.n.toNat,y.m.n.toNat⟩ qs++qs.map (nest 3 1 inC)++O).set (2+a) (.sl q.1 3 1 ((natI l').map inC))=tbP y h9.size ⟨some ⟨h19.size,0,none⟩,y.m.n.toNat,y.m.n.toNat⟩ (qs.set a (q.1,natI l'))++(qs.set a (q.1,natI l')).map (nest 3 1 inC)++O:=by
      have h1:=set_mid (P:=tbP y h9.size ⟨some ⟨h19.size,0,none⟩,y.m.n.toNat,y.m.n.toNat⟩ qs) (R:=O) (Q:=qs.map (nest 3 1 inC)) (i:=a) (by rw[Yc];exact hilt) (.sl q.1 3 1 ((natI l').map inC));rw[show (tbP y h9.size ⟨some ⟨h19.size,0,none⟩,y.m.n.toNat,y.m.n.toNat⟩ qs).length=2 from rfl] at h1;rw[h1,List.map_set];have h2:tbP y h9.size ⟨some ⟨h19.size,0,none⟩,y.m.n.toNat,y.m.n.toNat⟩ (qs.set a (q.1,natI l'))=tbP y h9.size ⟨some ⟨h19.size,0,none⟩,y.m.n.toNat,y.m.n.toNat⟩ qs:=by
       unfold tbP;rw[fst_set,list_set_self (by rw[Yd,hq];rfl)]
      rw[h2];rfl
     rw[hset] at hst;refine Up.next c (by omega) ⟨qs.set a (q.1,natI l'),⟨by rw[Yyh];exact hl,fun n q' hq'=>?_,fun n q' hq' he=>?_⟩,hst⟩;rotate_left
     .by_cases e:n=a
      .subst e;rw[Yq hilt] at hq';cases hq';have hl0:l'=[]:=by
        cases l' with
        | nil=>rfl
        | cons a r=>cases he
       subst hl0;exact hS'.e n q hq (by rw[hql,List.nil_perm.1 hp'];rfl)
      .rw[Yy (fun h=>e h.symm)] at hq';exact hS'.e n q' hq' he
     by_cases e:n=a
     .subst e;rw[Yq hilt] at hq';cases hq';exact⟨l',rfl,hp'.trans hlp,fun _=>hs''⟩
     .rw[Yy (fun h=>e h.symm)] at hq';obtain⟨l2,k1,k2,k3⟩:=hS'.q n q' hq';exact⟨l2,k1,k2,fun hn=>k3 (by omega)⟩
   .replace c:=lt_f c;have hs:=hs.perm List.perm_append_comm;rw[<-hO] at hs;have hon:=hs.len 2 (s:=osl) rfl (by omega);rw[Yc,hTl] at hon;refine⟨osl,hs.rd 1 rfl (i:=2) rfl,?_⟩;refine hs.app 2 (s:=osl) (n:=1) (rows:=T.map fun t=>slC t.o) rfl app145 (m:=1) [slC ⟨some ⟨h19.size,0,none⟩,y.m.n.toNat,y.m.n.toNat⟩] rfl rfl (fun r hr=>by rw[Ye] at hr;rw[hr];rfl) rfl (by omega) (by simp only[maxLen];omega) fun r2 h58 nr hs=>?_;refine hs.put 1 rfl (o:=2) (vs:=[.slice r2.a r2.n r2.c]) rfl (show 3<=4 by decide) fun h59 hs=>?_;refine⟨_,(show L.length-(i+1)<L.length-i by omega),i+1,T++[⟨⟨some ⟨h19.size,0,none⟩,y.m.n.toNat,y.m.n.toNat⟩,qs⟩],r2,by rw[w64 (by omega) (by omega)];omega,rfl,by omega,by rw[Yh,hTl];rfl,fun p y' t hy' ht=>?_,?_⟩
    .by_cases e:p=i
     .subst e;rw[gy] at hy';cases hy';rw[Yyc (by omega),hTl,Nat.sub_self] at ht;cases ht;refine⟨rfl,hl,fun j q hq=>?_⟩;obtain⟨l,k1,k2,k3⟩:=hS'.q j q hq;have hjl:=(Ya.1 hq).1;dsimp only at hjl;rw[k1,mvS_eq hvm.2.1.d k2 (k3 (by omega))]
     .have htl:=(Ya.1 ht).1;rw[Yh,Yv] at htl;rw[Yyi (by omega)] at ht;exact hF p y' t hy' ht
    .rw[tabs_snoc,Ym];refine hs.sub ?_;refine .cons_cons _ (.cons_cons _ (.cons_cons _ ?_));refine List.Sublist.append (l₁:=tabs T) (List.Sublist.refl _) ?_;exact .cons_cons _ (.cons _ (List.Sublist.refl _))
 .have hil:i=L.length:=by omega
  exact⟨eb,h.size,_,osl,_,_,rfl,hs,eng_sta L s k eb h.size osl T (by omega) hF⟩
def zigN (n:Int):Nat:=if 0<=n then (2*n).toNat else (-2*n-1).toNat
theorem zig_inj {a b:Int} (h:zigN a=zigN b):a=b:=by
 unfold zigN at h;split at h<;>split at h<;>omega
theorem zig_lt {n:Int} (h0:-9223372036854775808<=n) (h1:n<=9223372036854775807):zigN n<18446744073709551616:=by
 unfold zigN;split<;>omega
def venc (u:Nat):List Int:=if h:u<128 then [(u:Int)] else ((u%128+128:Nat):Int)::venc (u/128)
termination_by u
decreasing_by omega
theorem venc_lt {u:Nat} (h:u<128):venc u=[(u:Int)]:=by rw[venc,dif_pos h]
theorem venc_ge {u:Nat} (h:¬u<128):venc u=((u%128+128:Nat):Int)::venc (u/128):=by rw[venc,dif_neg h]
theorem venc_inj:∀(u v:Nat) (r s:List Int),venc u++r=venc v++s->u=v/\r=s:=by
 intro u
 induction u using Nat.strongRecOn with
 | ind u ih=>
  intro v r s h;by_cases hu:u<128
  .rw[venc_lt hu] at h;by_cases hv:v<128
   .rw[venc_lt hv,List.cons_append,List.cons_append,List.nil_append,List.nil_append] at h;injection h with h1 h2;exact⟨by omega,h2⟩
   .rw[venc_ge hv,List.cons_append,List.cons_append] at h;injection h with h1 h2;omega
  .rw[venc_ge hu] at h;by_cases hv:v<128
   .rw[venc_lt hv,List.cons_append,List.cons_append] at h;injection h with h1 h2;omega
   .rw[venc_ge hv,List.cons_append,List.cons_append] at h;injection h with h1 h2;obtain⟨h3,h4⟩:=ih (u/128) (by omega) _ _ _ h2;exact⟨by omega,h4⟩
theorem venc_len:∀(k u:Nat),u<128^(k+1)->(venc u).length<=k+1
 | 0,u,h=>by rw[venc_lt (by simpa using h)];exact Yyt _
 | k+1,u,h=>by
  by_cases hu:u<128
  .rw[venc_lt hu];simp
  .rw[venc_ge hu,Yyj];have:=venc_len k (u/128) (by rw[Nat.div_lt_iff_lt_mul (by decide)];rw[Nat.pow_succ] at h;exact h);omega
theorem venc_byte:∀(u:Nat),∀x∈venc u,0<=x/\x<256:=by
 intro u
 induction u using Nat.strongRecOn with
 | ind u ih=>
  intro x hx;by_cases hu:u<128
  .rw[venc_lt hu,Ye] at hx;omega
  .rw[venc_ge hu,Yr] at hx;rcases hx with rfl | hx
   .omega
   .exact ih (u/128) (by omega) x hx
def I64 (n:Int):Prop:=-9223372036854775808<=n/\n<=9223372036854775807
def encI (n:Int):List Int:=venc (zigN n)
theorem encI_len {n:Int} (h:I64 n):(encI n).length<=10:=venc_len 9 _ (Nat.lt_of_lt_of_le (zig_lt h.1 h.2) (by decide))
theorem encI_byte {n:Int}:∀x∈encI n,0<=x/\x<256:=venc_byte _
theorem encI_inj {a b:Int} {r s:List Int} (h:encI a++r=encI b++s):a=b/\r=s:=by
 obtain⟨h1,h2⟩:=venc_inj _ _ _ _ h;exact⟨zig_inj h1,h2⟩
def encL (X:List Int):List Int:=encI X.length++X.flatMap encI
theorem flat_inj {α:Type} {f:α->List Int} (hf:∀a b r s,f a++r=f b++s->a=b/\r=s):∀(X Y:List α) (r s:List Int),X.length=Y.length->X.flatMap f++r=Y.flatMap f++s->X=Y/\r=s
 | [],[],r,s,_,h=>⟨rfl,h⟩
 | a::X,b::Y,r,s,hl,h=>by
  rw[List.flatMap_cons,List.flatMap_cons,Yz,Yz] at h;obtain⟨h1,h2⟩:=hf _ _ _ _ h;obtain⟨h3,h4⟩:=flat_inj hf X Y r s (Nat.succ.inj hl) h2;exact⟨by rw[h1,h3],h4⟩
 | [],b::Y,r,s,hl,h=>by cases hl
 | a::X,[],r,s,hl,h=>by cases hl
theorem encL_inj {X Y:List Int} {r s:List Int} (h:encL X++r=encL Y++s):X=Y/\r=s:=by
 unfold encL at h;rw[Yz,Yz] at h;obtain⟨h1,h2⟩:=encI_inj h;exact flat_inj (fun _ _ _ _=>encI_inj) X Y r s (by omega) h2
theorem flat_len {α:Type} {f:α->List Int} {c:Nat}:∀(X:List α),(∀a∈X,(f a).length<=c)->(X.flatMap f).length<=X.length*c
 | [],_=>Nat.zero_le _
 | a::X,h=>by
  rw[List.flatMap_cons,Yh,Yyj,Nat.succ_mul];have h1:=h a Yx;have h2:=flat_len X fun b hb=>h b (Yn _ hb);omega
theorem flat_byte {α:Type} {f:α->List Int} (hf:∀a,∀x∈f a,0<=x/\x<256) (X:List α):∀x∈X.flatMap f,0<=x/\x<256:=fun x hx=>by
 obtain⟨a,_,h⟩:=List.mem_flatMap.1 hx;exact hf a x h
theorem encL_byte {X:List Int}:∀x∈encL X,0<=x/\x<256:=fun x hx=>by
 unfold encL at hx;rcases Yk.1 hx with h | h
 .exact encI_byte x h
 .exact flat_byte (fun _=>encI_byte) X x h
theorem encL_len {X:List Int} (hX:∀x∈X,I64 x) (hl:X.length<=9223372036854775807):(encL X).length<=10+X.length*10:=by
 unfold encL;rw[Yh];have h1:=encI_len (n:=(X.length:Int)) ⟨by omega,by omega⟩;have h2:=flat_len (f:=encI) (c:=10) X fun a ha=>encI_len (hX a ha);omega
def encC (S:List Int) (BL:List (List Int)):List Int:=encL S++(encI BL.length++BL.flatMap encL)
theorem encC_inj {S S':List Int} {BL BL':List (List Int)} (h:encC S BL=encC S' BL'):S=S'/\BL=BL':=by
 unfold encC at h;obtain⟨h1,h2⟩:=encL_inj h;obtain⟨h3,h4⟩:=encI_inj h2;have h5:=flat_inj (f:=encL) (fun _ _ _ _=>encL_inj) BL BL' [] [] (by omega) (by rw[Yw,Yw];exact h4);exact⟨h1,h5.1⟩
theorem encC_byte {S:List Int} {BL:List (List Int)}:∀x∈encC S BL,0<=x/\x<256:=fun x hx=>by
 unfold encC at hx;rcases Yk.1 hx with h | h
 .exact encL_byte x h
 .rcases Yk.1 h with h | h
  .exact encI_byte x h
  .exact flat_byte (fun _=>encL_byte) BL x h
/-! ### What the words of bits are -/
theorem zig_bits {n:Int} (h:I64 n):xorI .u64 (shlI .u64 (IntKind.wrap .u64 n) 1) (IntKind.wrap .u64 (shrI .i64 n 63))=(zigN n:Int):=by
 obtain⟨h0,h1⟩:=h;have e63:min (Int.toNat 63) (IntKind.bits .i64)=63:=by decide
 have e1:min (Int.toNat 1) (IntKind.bits .u64)=1:=by decide
 have es:shrI .i64 n 63=n/9223372036854775808:=by
  unfold shrI;rw[e63,Int.fdiv_eq_ediv_of_nonneg _ (by decide)];rfl
 have ex:∀a b:Nat,a<2^64->b<2^64->xorI .u64 (a:Int) (b:Int)=((a ^^^ b:Nat):Int):=fun a b ha hb=>by
  unfold xorI;have e:(BitVec.ofInt (IntKind.bits .u64) (a:Int) ^^^ BitVec.ofInt (IntKind.bits .u64) (b:Int)).toNat=a ^^^ b:=by
   show (BitVec.ofInt 64 (a:Int) ^^^ BitVec.ofInt 64 (b:Int)).toNat=_;rw[BitVec.ofInt_natCast,BitVec.ofInt_natCast,BitVec.toNat_xor,BitVec.toNat_ofNat,BitVec.toNat_ofNat,Nat.mod_eq_of_lt ha,Nat.mod_eq_of_lt hb]
  rw[e];have:=Nat.xor_lt_two_pow ha hb;exact wu64 (by omega) (by omega)
 rw[es];unfold shlI;rw[e1];by_cases hn:0<=n
 .have ez:n/9223372036854775808=0:=by omega
  rw[ez,wu64 (n:=n) hn (by omega),show n*2^1=2*n by omega,wu64 (n:=2*n) (by omega) (by omega),wu64 (n:=0) (by decide) (by decide)];obtain⟨m,rfl⟩:∃m:Nat,n=(m:Int):=⟨n.toNat,by omega⟩;rw[show (2:Int)*(m:Int)=((2*m:Nat):Int) by omega];have:=ex (2*m) 0 (by omega) (by decide);rw[Nat.xor_zero] at this;unfold zigN;rw[if_pos hn];refine this.trans ?_;omega
 .have ez:n/9223372036854775808=-1:=by omega
  have ew:IntKind.wrap .u64 n=n+18446744073709551616:=by
   simp[IntKind.wrap,IntKind.signed,IntKind.bits];omega
  have ew2:IntKind.wrap .u64 ((n+18446744073709551616)*2^1)=2*n+18446744073709551616:=by
   simp[IntKind.wrap,IntKind.signed,IntKind.bits];omega
  have ew3:IntKind.wrap .u64 (-1)=((18446744073709551615:Nat):Int):=by decide
  rw[ez,ew,ew2,ew3];obtain⟨m,hm⟩:∃m:Nat,2*n+18446744073709551616=(m:Int):=⟨(2*n+18446744073709551616).toNat,by omega⟩;rw[hm,ex m 18446744073709551615 (by omega) (by decide)];have hx:m ^^^ 18446744073709551615=18446744073709551615-m:=by
   have h2:(BitVec.ofNat 64 m ^^^ BitVec.allOnes 64).toNat=(~~~ (BitVec.ofNat 64 m)).toNat:=by rw[BitVec.xor_allOnes]
   rw[BitVec.toNat_xor,BitVec.toNat_not,BitVec.toNat_allOnes,BitVec.toNat_ofNat,Nat.mod_eq_of_lt (show m<2^64 by omega)] at h2;exact h2
  rw[hx];unfold zigN;rw[if_neg hn];omega
theorem or128 {b:Nat} (h:b<256):b|||128=b%128+128:=by
 have key:∀b<256,b|||128=b%128+128:=by decide
 exact key b h
theorem or_bits {u:Nat}:orI .u8 (IntKind.wrap .u8 (u:Int)) 128=((u%128+128:Nat):Int):=by
 have ew:IntKind.wrap .u8 (u:Int)=((u%256:Nat):Int):=by
  simp[IntKind.wrap,IntKind.signed,IntKind.bits]
 rw[ew];unfold orI;have e:(BitVec.ofInt (IntKind.bits .u8) ((u%256:Nat):Int)|||BitVec.ofInt (IntKind.bits .u8) 128).toNat=u%128+128:=by
  show (BitVec.ofInt 8 ((u%256:Nat):Int)|||BitVec.ofInt 8 ((128:Nat):Int)).toNat=_;rw[BitVec.ofInt_natCast,BitVec.ofInt_natCast,BitVec.toNat_or,BitVec.toNat_ofNat,BitVec.toNat_ofNat,Nat.mod_eq_of_lt (show u%256<2^8 by omega),Nat.mod_eq_of_lt (show 128<2^8 by decide),or128 (by omega)];omega
 rw[e];exact wu8 (by omega) (by omega)
theorem shr7 {u:Nat}:shrI .u64 (u:Int) 7=((u/128:Nat):Int):=by
 have:=shr_nat (w:=u) (k:=7) (by decide);exact this
theorem app48:appB Pz 54 5 1 1=true:=by kernel_rfl
theorem int65 (b:Sl) (xs:List Int) (n:Int) (h0 h:Heap) (L:List It) (hs:St h0 h (.sl b 5 1 (xs.map u8C)::L)) (hn:I64 n) (hl:xs.length<=100000000) :
  Fn Pz 69 #[.slice b.a b.n b.c,.int .i64 n] h fun v h'=>∃b':Sl,v=.slice b'.a b'.n b'.c/\St h0 h' (.sl b' 5 1 ((xs++encI n).map u8C)::L):=by
 apply vc69 b n;unfold W69;rw[zig_bits hn];refine⟨by decide,by decide,?_⟩;have hz:=zig_lt hn.1 hn.2;refine⟨fun b u h' μ=>∃(v:Nat) (pre:List Int),u=(v:Int)/\μ=v/\v<18446744073709551616/\pre++venc v=encI n/\St h0 h' (.sl b 5 1 ((xs++pre).map u8C)::L),⟨_,zigN n,[],rfl,rfl,hz,rfl,by rw[Yw];exact hs⟩,?_⟩;clear hs;rintro-b2 _ h6 μ ⟨v,pre,rfl,hμ,hv,he,hs⟩;have hlen:=(hs.rows 0 (s:=b2) (cs:=u8C) rfl (by omega)).ln;have hpl:pre.length<=10:=by
  have h1:=congrArg List.length he;rw[Yh] at h1;have h2:=encI_len hn;omega
 rw[Yh] at hlen;refine sBi (fun c=>?_) (fun c=>?_)
 .have hv1:¬v<128:=by omega
  rw[venc_ge hv1] at he;rw[or_bits];refine hs.app 0 (s:=b2) (rows:=(xs++pre).map u8C) rfl app48 (m:=1) [[.int .u8 ((v%128+128:Nat):Int)]] rfl rfl (by simp) rfl (by omega) (by simp only[maxLen];omega) fun s8 h9 ns hs=>?_;refine⟨by decide,v/128,by omega,v/128,pre++[((v%128+128:Nat):Int)],shr7,rfl,by omega,by rw[Yz];exact he,?_⟩;rw[<-Yz,Ym];exact hs
 .have hv1:v<128:=by omega
  rw[venc_lt hv1] at he;rw[wu8 (n:=(v:Int)) (by omega) (by omega)];refine hs.app 0 (s:=b2) (rows:=(xs++pre).map u8C) rfl app48 (m:=1) [[.int .u8 (v:Int)]] rfl rfl (by simp) rfl (by omega) (by simp only[maxLen];omega) fun s12 h13 ns hs=>?_;refine⟨s12,rfl,?_⟩;rw[<-he,<-Yz,Ym];exact hs
theorem ints66 (b:Sl) (xs X:List Int) (p1:Sl) (h0 h:Heap) (L:List It) (hs:St h0 h (.sl b 5 1 (xs.map u8C)::L)) (hX:RL h0 1 p1 inC X) (hI:∀x∈X,I64 x) (hl:xs.length<=50000000) (hXl:X.length<=1000000) :
  Fn Pz 121 #[.slice b.a b.n b.c,.slice p1.a p1.n p1.c] h fun v h'=>∃b':Sl,v=.slice b'.a b'.n b'.c/\St h0 h' (.sl b' 5 1 ((xs++encL X).map u8C)::L):=by
 apply vc121 b p1;unfold W121;have hn:=hX.ln;have hI0:I64 (p1.n:Int):=⟨by omega,by omega⟩;refine (int65 b xs (p1.n:Int) h0 h L hs hI0 (by omega)).mono ?_;rintro _ h3 ⟨b1,rfl,hs⟩;refine⟨b1,rfl,?_⟩;refine⟨fun b x h' μ=>∃i:Nat,x=(i:Int)/\μ=X.length-i/\i<=X.length/\St h0 h' (.sl b 5 1 ((xs++encI (p1.n:Int)++(X.take i).flatMap encI).map u8C)::L),⟨_,0,rfl,rfl,Nat.zero_le _,by rw[Yyk,List.flatMap_nil,Yw];exact hs⟩,?_⟩;clear hs;rintro-b2 _ h9 μ ⟨i,rfl,rfl,hi,hs⟩;refine sBi (fun c=>?_) (fun c=>?_)
 .refine (hX.rw.ext hs.ext).nbI (by omega) (by omega) fun b10 o11 x gx t=>?_;replace gx:X[i]?=some x:=gx;refine⟨x,t.hd,?_⟩;have hfl:=flat_len (f:=encI) (c:=10) (X.take i) fun a ha=>encI_len (hI a (List.mem_of_mem_take ha));have h1:=encI_len hI0;have h2:(X.take i).length<=1000000:=by rw[Yu];omega
  refine (int65 b2 _ x h0 h9 L hs (hI x (Yb gx)) (by rw[Yh,Yh];omega)).mono ?_;rintro _ h15 ⟨b3,rfl,hs⟩;refine⟨b3,rfl,_,(show X.length-(i+1)<X.length-i by omega),i+1,by rw[w64 (by omega) (by omega)];omega,rfl,by omega,?_⟩;rw[take_snoc gx,List.flatMap_append,List.flatMap_cons,List.flatMap_nil,Yw,<-Yz];exact hs
 .have hie:i=X.length:=by omega
  subst hie;rw[Yye] at hs;refine⟨b2,rfl,?_⟩;unfold encL;rw[<-hn,<-Yz];exact hs
structure EncOk (S:List Int) (BL:List (List Int)):Prop where
 s:∀x∈S,I64 x
 b:∀q∈BL,q.length<=1000/\∀x∈q,I64 x
 n:S.length<=1000/\BL.length<=1000
theorem EncOk.fl {S:List Int} {BL:List (List Int)} (h:EncOk S BL) (i:Nat):((BL.take i).flatMap encL).length<=10010000:=by
 have h1:=flat_len (f:=encL) (c:=10010) (BL.take i) fun q hq=>by
  obtain⟨h2,h3⟩:=h.b q (List.mem_of_mem_take hq);have:=encL_len h3 (by omega);omega
 have h2:(BL.take i).length<=1000:=by rw[Yu];have:=h.n.2;omega
 omega
theorem encode35 (ss sb:Sl) (S:List Int) (B:List Bx) (h:Heap) (hC:CfI h ss sb S B) (hE:EncOk S (B.map Bx.l)) :
  Fn Pz 61 #[.agg ⟨[.slice ss.a ss.n ss.c,.slice sb.a sb.n sb.c]⟩] h fun v h'=>∃b:Sl,v=.slice b.a b.n b.c/\St h h' [.sl b 5 1 ((encC S (B.map Bx.l)).map u8C)]:=by
 apply vc61 ss sb;unfold W61;have hbn:=hC.b.ln;have hbm:(B.map Bx.l).length=B.length:=Yc _;obtain⟨hE1,hE2⟩:=hE.n;rw[hbm] at hE2;have hI0:I64 (sb.n:Int):=⟨by omega,by omega⟩;refine (St.refl h).newb fun h3 hs=>?_;refine⟨ss,hs.rd 0 rfl rfl,sb,hs.rd 0 rfl (i:=1) rfl,?_⟩;have hs3:=hs;have hs:St h h3 (.sl ⟨none,0,0⟩ 5 1 (([]:List Int).map u8C)::_):=hs.nil_ 5 1;refine (ints66 ⟨none,0,0⟩ [] S ss h h3 _ hs hC.s hE.s (by simp) (by omega)).mono ?_;rintro _ h8 ⟨b1,rfl,hs⟩;rw[List.nil_append] at hs;have hel:=encL_len hE.s (by omega);have hi0:=encI_len hI0;refine⟨b1,rfl,hs3.smbO hs 0 1 1 rfl rfl,?_⟩;refine (int65 b1 _ (sb.n:Int) h h8 _ hs hI0 (by omega)).mono ?_;rintro _ h11 ⟨b2,rfl,hs⟩;refine⟨b2,rfl,sb,hs.rd 1 rfl (i:=1) rfl,?_⟩;refine⟨fun b x h' μ=>∃i:Nat,x=(i:Int)/\μ=B.length-i/\i<=B.length/\St h h' [.sl b 5 1 ((encL S++encI (sb.n:Int)++((B.map Bx.l).take i).flatMap encL).map u8C),.blk h.size [.slice ss.a ss.n ss.c,.slice sb.a sb.n sb.c] 52],⟨_,0,rfl,rfl,Nat.zero_le _,by rw[Yyk,List.flatMap_nil,Yw];exact hs⟩,?_⟩;clear hs hs3;rintro-b3 _ h18 μ ⟨i,rfl,rfl,hi,hs⟩;refine sBi (fun c=>?_) (fun c=>?_)
 .refine (hC.b.rw.ext hs.ext).nbI (by omega) (by omega) fun b19 o20 q gq t=>?_;replace gq:B[i]?=some q:=gq;have gq1:(B.map Bx.l)[i]?=some q.l:=by rw[Yd,gq];rfl
  obtain⟨hq1,hq2⟩:=hE.b q.l (Yb gq1);have hfl:=hE.fl i;refine⟨q.s,t.hd,?_⟩;refine (ints66 b3 _ q.l q.s h h18 _ hs (hC.i q (Yb gq)) hq2 (by rw[Yh,Yh];omega) (by omega)).mono ?_;rintro _ h24 ⟨b4,rfl,hs⟩;refine⟨b4,rfl,_,(show B.length-(i+1)<B.length-i by omega),i+1,by rw[w64 (by omega) (by omega)];omega,rfl,by omega,?_⟩;rw[take_snoc gq1,List.flatMap_append,List.flatMap_cons,List.flatMap_nil,Yw,<-Yz];exact hs
 .have hie:i=(B.map Bx.l).length:=by omega
  rw[hie,Yye] at hs;refine⟨b3,rfl,?_⟩;unfold encC;rw[hbm,<-hbn,<-Yz];exact hs.sub (.cons_cons _ (List.nil_sublist _))
end Go.VC
end

section
namespace Go.VC
open Go.Proofs Go.LexS Go.Maps
abbrev Cf:=List Int × List (List Int)
abbrev Qe:=Cf × List (Nat × Nat)
def nxS (L:List Mch) (c:Cf) (q:Nat × Nat):Cf:=match L[q.1]? with
 | some m=>match m.mv[q.2]? with
  | some x=>(c.1.set q.1 x.t,doB L.length q.1 x c.2)
  | none=>c
 | none=>c
def exI (L:List Mch) (lim:Nat) (e:Qe):List (Nat × Nat)->List Qe->Option (List Qe)
 | [],Q=>some Q
 | q::r,Q=>if nxS L e.1 q∈Q.map Prod.fst then exI L lim e r Q else if Q.length=lim then none else exI L lim e r (Q++[(nxS L e.1 q,e.2++[q])])
inductive Res
 | bad (k:Int) (t:List (Nat × Nat))
 | unk
 | safe (Q:List Cf)
noncomputable def exO (L:List Mch) (k:Int) (lim:Nat):Nat->Nat->List Qe->Res
 | 0,_,Q=>.safe (Q.map Prod.fst)
 | f+1,i,Q=>match Q[i]? with
  | none=>.safe (Q.map Prod.fst)
  | some e=>if badS L k e.1.1 e.1.2≠0 then .bad (badS L k e.1.1 e.1.2) e.2 else match exI L lim e (stepsS L k e.1.1 e.1.2) Q with
   | none=>.unk
   | some Q'=>exO L k lim f (i+1) Q'
def q0 (L:List Mch):List Qe:=[((startS L,startB L),[])]
noncomputable def exS (L:List Mch) (k:Int) (lim:Nat):Res:=exO L k lim (lim+1) 0 (q0 L)
def mostS (n:Nat) (Q:List Cf):List Int:=Q.foldl (fun a c=>a.mapIdx fun i x=>imax x ((c.2.getD i []).length:Int)) (List.replicate (n*n) 0)
theorem nxS_of {L:List Mch} {c:Cf} {a b:Nat} {m:Mch} {x:Mv} (gm:L[a]?=some m) (gx:m.mv[b]?=some x):nxS L c (a,b)=(c.1.set a x.t,doB L.length a x c.2):=by
 unfold nxS;rw[gm];dsimp only;rw[gx]
def toB (l:List Int):List UInt8:=l.map fun x=>UInt8.ofNat x.toNat
theorem toB_c {l:List Int} (h:∀x∈l,0<=x/\x<256):(l.map u8C).flatten=byteC (toB l):=by
 induction l with
 | nil=>rfl
 | cons x r ih=>
  have hx:=h x Yx;rw[Yyl,Yyu,ih fun y hy=>h y (Yn _ hy)];show [Value.int .u8 x]++byteC (toB r)=Value.int .u8 ((UInt8.ofNat x.toNat).toNat:Int)::byteC (toB r);rw[UInt8.toNat_ofNat',Nat.mod_eq_of_lt (by omega),Int.toNat_of_nonneg hx.1];rfl
theorem toB_inj {l l':List Int} (h:∀x∈l,0<=x/\x<256) (h':∀x∈l',0<=x/\x<256) (e:toB l=toB l'):l=l':=by
 have back:∀ {l:List Int},(∀x∈l,0<=x/\x<256)->(toB l).map (fun b=>(b.toNat:Int))=l:=fun {l} h=>by
  unfold toB;rw[List.map_map];refine (List.map_congr_left fun x hx=>?_).trans (List.map_id _);have hx:=h x hx;show (((UInt8.ofNat x.toNat).toNat:Nat):Int)=x;rw[UInt8.toNat_ofNat',Nat.mod_eq_of_lt (by omega),Int.toNat_of_nonneg hx.1]
 rw[<-back h,<-back h',e]
def kyC (c:Cf):ByteArray:=bs (toB (encC c.1 c.2))
theorem kyC_inj {c d:Cf} (h:kyC c=kyC d):c=d:=by
 have h1:toB (encC c.1 c.2)=toB (encC d.1 d.2):=by
  have:=congrArg (fun b:ByteArray=>b.data.toList) h;exact this
 obtain⟨h2,h3⟩:=encC_inj (toB_inj encC_byte encC_byte h1);exact Prod.ext h2 h3
end Go.VC
end

section
namespace Go.VC
open Go.Proofs Go.LexS Go.Maps
theorem St.picksA {h0 h:Heap} {P P' A:List It} (hs:St h0 h (P++A)) (ks:List Nat) (nd:ks.Nodup) (hL:P'.map some=ks.map fun k=>P[k]?):St h0 h (P'++A):=by
 have hk:∀k∈ks,k<P.length:=fun k hk=>by
  have h1:P[k]?∈P'.map some:=by rw[hL];exact List.mem_map_of_mem hk
  obtain⟨x,_,h2⟩:=Yp.1 h1;exact (Ya.1 h2.symm).1
 refine hs.picks (ks++(List.range A.length).map fun j=>P.length+j) ?_ ?_
 .rw[List.nodup_append];refine⟨nd,?_,fun a ha b hb=>?_⟩
  .exact List.Pairwise.map _ (fun a b h=>by omega) List.nodup_range
  .obtain⟨j,_,rfl⟩:=Yp.1 hb;have:=hk a ha;omega
 .rw[Ym,Ym,hL];congr 1
  .exact List.map_congr_left fun k h=>by rw[Yyi (hk k h)]
  .rw[List.map_map];refine Yyr fun j=>?_;rw[Yd,Yd];by_cases hj:j<A.length
   .rw[Yyb hj,Yi hj];show some (some A[j])=some ((P++A)[P.length+j]?);rw[Yyc (by omega),Nat.add_sub_cancel_left,Yi hj]
   .rw[Yl (by omega),Yl (by rw[Yyd];omega)];rfl
theorem memP {P A:List It}:∀i∈A,i∈P++A:=fun _ hi=>List.mem_append_right _ hi
def kokB (s:ByteArray):Prop:=s.size<=maxLen
theorem M92:MT Pz 104 9 4 Value.string kokB (.bool false) where
 K:=Keyed.of_law (Go.WideMaps.string_law (by kernel_rfl))
 ht:=by kernel_rfl
 key:=fun s hs=>⟨_,Go.WideMaps.keyOf_string_mk (by kernel_rfl) hs⟩
 inj:=fun a b h=>Value.string.inj h
 z:=fun w=>by kernel_rfl
def vq (v:Vs):Qe:=((v.S,v.B.map Bx.l),v.tr)
def kyP (v:Vs):ByteArray × Bool:=(kyC (vq v).1,true)
def kyV (q:ByteArray × Bool):Value × Value:=(.string q.1,.bool q.2)
structure SeaV (L:List MR) (k:Int) (A:List It) (V:List Vs):Prop where
 c:∀v∈V,CfN A v.c1 v.c2 v.S v.B
 p:∀v∈V,ProS (L.map MR.m) k v.S (v.B.map Bx.l)
 t:TrOk V
 d:(V.map fun v=>(vq v).1).Nodup
theorem SeaV.mono {L:List MR} {k:Int} {A A':List It} {V:List Vs} (h:SeaV L k A V) (hA:∀i∈A,i∈A'):SeaV L k A' V:=⟨fun v hv=>(h.c v hv).mono hA,h.p,h.t,h.d⟩
theorem enc_pro {L:List Mch} {k:Int} {S:List Int} {BL:List (List Int)} (hP:ProS L k S BL):EncOk S BL:=by
 have h6:=hP.v.n;have h36:=sq6 h6.2;have hk:=hP.c;have hs:=hP.p.s;have hb:=hP.p.b;refine⟨fun x hx=>?_,fun q hq=>?_,by omega,by omega⟩
 .obtain⟨p,gp⟩:=Yf.1 hx;have hp:=(Ya.1 gp).1;obtain⟨m,gm⟩:=get_some (l:=L) (i:=p) (by omega);have h1:=hP.p.st p x m gp gm;have h2:=(hP.v.m p m gm).2.1.n.n;exact⟨by omega,by omega⟩
 .obtain⟨i,gi⟩:=Yf.1 hq;obtain⟨h1,-,h3⟩:=hP.p.bx i q gi;exact⟨by omega,fun x hx=>by have:=h3 x hx;exact⟨by omega,by omega⟩⟩
theorem enc_len {S:List Int} {BL:List (List Int)} (h:EncOk S BL):(encC S BL).length<=20000000:=by
 have h1:=encL_len h.s (by have:=h.n.1;omega);have h2:=h.fl BL.length;rw[Yye] at h2;have h3:=encI_len (n:=(BL.length:Int)) ⟨by omega,by have:=h.n.2;omega⟩;have h4:=h.n.1;unfold encC;rw[Yh,Yh];omega
theorem ky_ok {L:List Mch} {k:Int} {c:Cf} (hP:ProS L k c.1 c.2):kokB (kyC c):=by
 have:=enc_len (enc_pro hP);show (toB (encC c.1 c.2)).length<=maxLen;unfold toB;rw[Yc];simp only[maxLen];omega
theorem SeaV.kok {L:List MR} {k:Int} {A:List It} {V:List Vs} (h:SeaV L k A V):∀q∈V.map kyP,kokB q.1:=fun q hq=>by
 obtain⟨v,hv,rfl⟩:=Yp.1 hq;exact ky_ok (c:=(vq v).1) (h.p v hv)
theorem SeaV.knd {L:List MR} {k:Int} {A:List It} {V:List Vs} (h:SeaV L k A V):((V.map kyP).map Prod.fst).Nodup:=by
 rw[List.map_map];have e:(Prod.fst∘kyP)=kyC∘fun v=>(vq v).1:=rfl;rw[e,<-List.map_map];exact List.Pairwise.map _ (fun a b hab e=>hab (kyC_inj e)) h.d
theorem ky_mem {V:List Vs} {c:Cf}:c∈(V.map vq).map Prod.fst ↔ mget (V.map kyP) (kyC c)≠none:=by
 constructor
 .intro h hn;obtain⟨q,hq,rfl⟩:=Yp.1 h;obtain⟨v,hv,rfl⟩:=Yp.1 hq;exact mget_nomem hn (kyP v) (List.mem_map_of_mem hv) rfl
 .intro h;cases hg:mget (V.map kyP) (kyC c) with
  | none=>exact absurd hg h
  | some y=>
   obtain⟨v,hv,e⟩:=Yp.1 (mgetE_mem hg);have e1:kyC (vq v).1=kyC c:=congrArg Prod.fst e;rw[<-kyC_inj e1];exact List.mem_map_of_mem (List.mem_map_of_mem hv)
theorem SeaV.snoc {L:List MR} {k:Int} {A:List It} {V:List Vs} (h:SeaV L k A V) {v:Vs} (hc:CfN A v.c1 v.c2 v.S v.B) (hp:ProS (L.map MR.m) k v.S (v.B.map Bx.l)) (hn:(vq v).1∉(V.map vq).map Prod.fst)
  {p:Nat} {u:Vs} (hu:V[p]?=some u) (ha:v.ah=(p:Int)) (ht:v.tr=u.tr++[(v.a,v.b)]):SeaV L k A (V++[v]):=by
 refine⟨fun w hw=>?_,fun w hw=>?_,fun j w hw=>?_,?_⟩
 .rcases Yk.1 hw with hw | hw
  .exact h.c w hw
  .rw[Ye.1 hw];exact hc
 .rcases Yk.1 hw with hw | hw
  .exact h.p w hw
  .rw[Ye.1 hw];exact hp
 .have hpl:=(Ya.1 hu).1;by_cases hj:j<V.length
  .rw[Yyi hj] at hw;obtain⟨h1,h2⟩:=h.t j w hw;refine⟨h1,h2.imp id ?_⟩;rintro⟨p',u',k1,k2,k3,k4⟩;exact⟨p',u',k1,by rw[Yyi (by omega)];exact k2,k3,k4⟩
  .rw[Yyc (by omega)] at hw;have hj0:j-V.length=0:=by
    have:=(Ya.1 hw).1;simpa using this
   rw[hj0] at hw;cases hw;have h1:=(h.t p u hu).1;refine⟨?_,.inr ⟨p,u,by omega,by rw[Yyi hpl];exact hu,ha,ht⟩⟩;rw[ht,Yh,Yv];omega
 .rw[Ym,List.nodup_append];refine⟨h.d,by simp,fun a ha b hb=>?_⟩;rw[Yyl,List.map_nil,Ye] at hb;rw[hb];rintro rfl;exact hn (by rw[List.map_map];exact ha)
theorem doB_newL {n a:Nat} {x:Mv} {B:List Bx} {q:Bx} {u:Sl} (gq:B[bxI n a x]?=some q):(B.set (bxI n a x) ⟨u,newL x q.l⟩).map Bx.l=doB n a x (B.map Bx.l):=by
 unfold doB;rw[List.map_set,getD_map gq];rfl
structure RV where
 v:Int
 Q:List Cf
 m:List Int
 k:Int
 t:List (Nat × Nat)
def Res.rv (n:Nat):Res->RV
 | .bad k t=>⟨2,[],[],k,t⟩
 | .unk=>⟨3,[],[],0,[]⟩
 | .safe Q=>⟨1,Q,mostS n Q,0,[]⟩
def rv0:RV:=⟨0,[],[],0,[]⟩
open Classical in
noncomputable def expV (L:List Mch) (k lim:Int):RV × Int:=if ¬SysV L\/k<1\/4<k then (rv0,1) else if lim<1\/20000<lim then (rv0,2) else ((exS L k lim.toNat).rv L.length,0)
structure Cr where
 c1:Sl
 c2:Sl
 S:List Int
 B:List Bx
def Cr.cs (c:Cr):List Value:=[.slice c.c1.a c.c1.n c.c1.c,.slice c.c2.a c.c2.n c.c2.c]
def Cr.cf (c:Cr):Cf:=(c.S,c.B.map Bx.l)
structure ResI (h:Heap) (cf mo tr:Sl) (r:RV):Prop where
 c:∃C:List Cr,RL h 2 cf Cr.cs C/\(∀c∈C,CfI h c.c1 c.c2 c.S c.B)/\C.map Cr.cf=r.Q
 m:RL h 1 mo inC r.m
 t:RL h 2 tr stpC r.t
def resA (v:Int) (cf mo:Sl) (k:Int) (tr:Sl):List Value:=[.int .i64 v,.slice cf.a cf.n cf.c,.slice mo.a mo.n mo.c,.int .i64 k,.slice tr.a tr.n tr.c]
def ExV (o:RV × Int) (h:Heap) (v:Value) (h':Heap):Prop:=∃(cf mo tr:Sl) (A:List It),v=.tuple ⟨[.agg ⟨resA o.1.v cf mo o.1.k tr⟩,.int .i64 o.2]⟩/\St h h' A/\Sta A fun h=>ResI h cf mo tr o.1
theorem RL.nil0 {α:Type} {h:Heap} {n:Nat} {cs:α->List Value}:RL h n ⟨none,0,0⟩ cs ([]:List α):=⟨Rw.nil,Yyt _,fun _=>⟨rfl,rfl⟩,Nat.zero_le _⟩
theorem ExV.empty {h h':Heap} {A:List It} (hs:St h h' A) {v k e:Int} {tr:Sl} {t:List (Nat × Nat)} (ht:It.sl tr 43 2 (t.map stpC)∈A/\t.length<=1048576\/(tr=⟨none,0,0⟩/\t=[])) {o:RV × Int} (ho:o=(⟨v,[],[],k,t⟩,e)) :
  ExV o h (.tuple ⟨[.agg ⟨resA v ⟨none,0,0⟩ ⟨none,0,0⟩ k tr⟩,.int .i64 e]⟩) h':=by
 subst ho;refine⟨⟨none,0,0⟩,⟨none,0,0⟩,tr,A,rfl,hs,fun h0 h2 A' hA hs'=>⟨⟨[],RL.nil0,(fun c hc=>by cases hc),rfl⟩,RL.nil0,?_⟩⟩;rcases ht with ⟨h1,h2⟩ | ⟨rfl,rfl⟩
 .exact hs'.rlm (hA _ h1) (by omega) h2
 .exact RL.nil0
theorem bxs0 (n:Nat):(List.replicate (n*n) bx0).map Bx.l=List.replicate (n*n) []:=by rw[List.map_replicate];rfl
theorem inC_flat:∀l:List Int,l.map iv=(l.map inC).flatten
 | []=>rfl
 | x::r=>by rw[Yyl,Yyl,Yyu,inC_flat r];rfl
def stepM (B:List (List Int)) (j:Nat) (M:List Int):List Int:=M.mapIdx fun i x=>if i<j then imax x ((B.getD i []).length:Int) else x
theorem stepM_len {B:List (List Int)} {j:Nat} {M:List Int}:(stepM B j M).length=M.length:=by unfold stepM;rw[List.length_mapIdx]
theorem stepM_0 {B:List (List Int)} {M:List Int}:stepM B 0 M=M:=by
 unfold stepM;refine Yyr fun i=>?_;rw[List.getElem?_mapIdx];cases M[i]?<;>rfl
theorem stepM_get {B:List (List Int)} {M:List Int} {j:Nat}:(stepM B j M)[j]?=M[j]?:=by
 unfold stepM;rw[List.getElem?_mapIdx];cases M[j]? with
 | none=>rfl
 | some x=>rw[Option.map_some,if_neg (Nat.lt_irrefl _)]
theorem stepM_next {B:List (List Int)} {M:List Int} {j:Nat} {y:Int} (hy:M[j]?=some y):(stepM B j M).set j (imax y ((B.getD j []).length:Int))=stepM B (j+1) M:=by
 have hj:=(Ya.1 hy).1;refine Yyr fun i=>?_;by_cases e:j=i
 .subst e;rw[Yq (by rw[stepM_len];exact hj)];unfold stepM;rw[List.getElem?_mapIdx,hy,Option.map_some,if_pos (by omega)]
 .rw[Yy e];unfold stepM;rw[List.getElem?_mapIdx,List.getElem?_mapIdx];cases M[i]? with
  | none=>rfl
  | some x=>
   rw[Option.map_some,Option.map_some];by_cases e2:i<j
   .rw[if_pos e2,if_pos (by omega)]
   .rw[if_neg e2,if_neg (by omega)]
theorem stepM_end {B:List (List Int)} {M:List Int} {j:Nat} (hj:M.length<=j):stepM B j M=M.mapIdx fun i x=>imax x ((B.getD i []).length:Int):=by
 unfold stepM;refine Yyr fun i=>?_;rw[List.getElem?_mapIdx,List.getElem?_mapIdx];by_cases e:i<M.length
 .rw[Yi e,Option.map_some,Option.map_some,if_pos (by omega)]
 .rw[Yl (by omega)];rfl
theorem most_snoc (n:Nat) (Q:List Cf) (c:Cf):mostS n (Q++[c])=(mostS n Q).mapIdx fun i x=>imax x ((c.2.getD i []).length:Int):=by
 unfold mostS;rw[List.foldl_append];rfl
theorem most_len (n:Nat) (Q:List Cf):(mostS n Q).length=n*n:=by
 unfold mostS;have:∀(Q:List Cf) (a:List Int),(Q.foldl (fun a c=>a.mapIdx fun i x=>imax x ((c.2.getD i []).length:Int)) a).length=a.length:=fun Q=>by
  induction Q with
  | nil=>intro a;rfl
  | cons c r ih=>intro a;rw[List.foldl_cons,ih,List.length_mapIdx]
 rw[this,Yg]
end Go.VC
end

section
namespace Go.VC
open Go.Proofs Go.LexS
theorem exI_pre {L:List Mch} {lim:Nat} {e:Qe}:∀ {X:List (Nat × Nat)} {Q Q':List Qe},exI L lim e X Q=some Q'->∃R,Q'=Q++R
 | [],Q,Q',h=>by cases h;exact⟨[],by simp⟩
 | q::r,Q,Q',h=>by
  rw[exI] at h;split at h
  .exact exI_pre h
  .split at h
   .cases h
   .obtain⟨R,rfl⟩:=exI_pre h;exact⟨(nxS L e.1 q,e.2++[q])::R,by simp⟩
theorem stp_inv {L:List Mch} {k:Int} {c d:Cf} {q:Nat × Nat} (h:stpS L k c q=some d):q∈stepsS L k c.1 c.2/\d=nxS L c q:=by
 obtain⟨a,b⟩:=q;unfold stpS at h;split at h
 .rename_i h0;by_cases hP:ProS L k c.1 c.2
  .cases hmo:mvO L (a:Int) (b:Int) with
   | none=>
    unfold doS at h0;rw[if_pos hP,hmo] at h0;cases h0
   | some x=>
    obtain⟨p,j,e1,e2,m,gm,gx⟩:=mvO_get hmo;obtain rfl:p=a:=by omega
    obtain rfl:j=b:=by omega
    rw[doS_at hP gm gx] at h0 h;by_cases hc:canS L.length k c.1 c.2 p x=0
    .rw[if_pos hc] at h;cases h;exact⟨mem_steps gm gx hc,(nxS_of gm gx).symm⟩
    .rw[if_neg hc] at h0;exact absurd h0 hc
  .unfold doS at h0;rw[if_neg hP] at h0;cases h0
 .cases h
theorem stp_of {L:List Mch} {k:Int} {c:Cf} {q:Nat × Nat} (hP:ProS L k c.1 c.2) (h:q∈stepsS L k c.1 c.2):stpS L k c q=some (nxS L c q)/\ProS L k (nxS L c q).1 (nxS L c q).2:=by
 obtain⟨a,b⟩:=q;obtain⟨m,x,gm,gx,hc⟩:=steps_mem h;rw[nxS_of gm gx];exact⟨stpS_ok hP gm gx hc,pro_do hP gm (Yb gx) hc⟩
structure Sea (L:List Mch) (k:Int) (lim i:Nat) (Q:List Qe):Prop where
 s:Q[0]?=some ((startS L,startB L),[])
 n:(Q.map Prod.fst).Nodup
 r:∀e∈Q,runS L k e.2=some e.1
 p:∀e∈Q,ProS L k e.1.1 e.1.2
 d:∀(j:Nat) e,j<i->Q[j]?=some e->badS L k e.1.1 e.1.2=0/\∀q∈stepsS L k e.1.1 e.1.2,∃(m:Nat) (e':Qe),Q[m]?=some e'/\e'.1=nxS L e.1 q/\e'.2.length<=e.2.length+1
 m:∀(a b:Nat) ea eb,a<=b->Q[a]?=some ea->Q[b]?=some eb->ea.2.length<=eb.2.length
 u:∀(b:Nat) eb ei,Q[b]?=some eb->Q[i]?=some ei->eb.2.length<=ei.2.length+1
 l:Q.length<=lim
theorem get_snoc {α:Type} {Q:List α} {x y:α} {j:Nat} (h:(Q++[x])[j]?=some y):(j<Q.length/\Q[j]?=some y)\/(j=Q.length/\y=x):=by
 by_cases hj:j<Q.length
 .rw[Yyi hj] at h;exact .inl ⟨hj,h⟩
 .rw[Yyc (by omega)] at h;have hj0:j-Q.length=0:=by
   have:=(Ya.1 h).1;simpa using this
  rw[hj0] at h;cases h;exact .inr ⟨by omega,rfl⟩
theorem get_left {α:Type} {Q R:List α} {y:α} {j:Nat} (h:Q[j]?=some y):(Q++R)[j]?=some y:=by
 rw[Yyi (Ya.1 h).1];exact h
theorem sea_exI {L:List Mch} {k:Int} {lim i:Nat} {e:Qe}:∀ {X:List (Nat × Nat)} {Q Q':List Qe},Sea L k lim i Q->Q[i]?=some e->(∀q∈X,q∈stepsS L k e.1.1 e.1.2)->exI L lim e X Q=some Q' ->
  Sea L k lim i Q'/\(∀q∈X,∃(m:Nat) (e':Qe),Q'[m]?=some e'/\e'.1=nxS L e.1 q/\e'.2.length<=e.2.length+1)/\Q'[i]?=some e
 | [],Q,Q',hs,hi,hX,h=>by cases h;exact⟨hs,fun q hq=>(by cases hq),hi⟩
 | q::r,Q,Q',hs,hi,hX,h=>by
  have hpre:=exI_pre h;rw[exI] at h;split at h
  .rename_i hm;obtain⟨h1,h2,h3⟩:=sea_exI hs hi (fun q hq=>hX q (Yn _ hq)) h;refine⟨h1,fun q' hq'=>?_,h3⟩;rcases Yr.1 hq' with rfl | hq'
   .obtain⟨e',he',he2⟩:=Yp.1 hm;obtain⟨m,gm⟩:=Yf.1 he';obtain⟨R,rfl⟩:=hpre;exact⟨m,e',get_left gm,he2,hs.u m e' e gm hi⟩
   .exact h2 q' hq'
  .rename_i hm;split at h
   .cases h
   .rename_i hn;have hq:=hX q Yx;have hem:=Yb hi;obtain⟨st1,st2⟩:=stp_of (hs.p e hem) hq;have hs':Sea L k lim i (Q++[(nxS L e.1 q,e.2++[q])]):=by
     refine⟨get_left hs.s,?_,fun w hw=>?_,fun w hw=>?_,fun j w hj hw=>?_,fun a b ea eb hab ga gb=>?_,fun b eb ei gb gi=>?_,?_⟩
     .rw[Ym,List.nodup_append];refine⟨hs.n,by simp,fun a ha b hb=>?_⟩;rw[Yyl,List.map_nil,Ye] at hb;rw[hb];rintro rfl;exact hm ha
     .rcases Yk.1 hw with hw | hw
      .exact hs.r w hw
      .rw[Ye.1 hw];show runS L k (e.2++[q])=some (nxS L e.1 q);rw[runS_snoc,hs.r e hem];exact st1
     .rcases Yk.1 hw with hw | hw
      .exact hs.p w hw
      .rw[Ye.1 hw];exact st2
     .have hil:=(Ya.1 hi).1;rcases get_snoc hw with ⟨_,hw⟩ | ⟨hj2,_⟩
      .obtain⟨k1,k2⟩:=hs.d j w hj hw;refine⟨k1,fun q' hq'=>?_⟩;obtain⟨m,e',h1,h2,h3⟩:=k2 q' hq';exact⟨m,e',get_left h1,h2,h3⟩
      .omega
     .rcases get_snoc gb with ⟨hb,gb⟩ | ⟨hb,rfl⟩
      .rcases get_snoc ga with ⟨_,ga⟩ | ⟨ha,_⟩
       .exact hs.m a b ea eb hab ga gb
       .omega
      .show ea.2.length<=(e.2++[q]).length;rw[Yh,Yv];rcases get_snoc ga with ⟨_,ga⟩ | ⟨ha,rfl⟩
       .exact hs.u a ea e ga hi
       .show (e.2++[q]).length<=_;rw[Yh,Yv];exact Yyt _
     .rw[get_left hi] at gi;cases gi;rcases get_snoc gb with ⟨_,gb⟩ | ⟨_,rfl⟩
      .exact hs.u b eb e gb hi
      .show (e.2++[q]).length<=_;rw[Yh,Yv];exact Yyt _
     .have:=hs.l;rw[Yh,Yv];omega
    obtain⟨h1,h2,h3⟩:=sea_exI hs' (get_left hi) (fun q hq=>hX q (Yn _ hq)) h;refine⟨h1,fun q' hq'=>?_,h3⟩;rcases Yr.1 hq' with rfl | hq'
    .obtain⟨R,rfl⟩:=exI_pre h;refine⟨Q.length,(nxS L e.1 q',e.2++[q']),get_left (by rw[Yyc (Yyt _),Nat.sub_self];rfl),rfl,?_⟩;show (e.2++[q']).length<=_;rw[Yh,Yv];exact Yyt _
    .exact h2 q' hq'
def ResOk (L:List Mch) (k:Int) (lim:Nat):Res->Prop
 | .bad b t=>∃(i:Nat) (Q:List Qe) (c:Cf),Sea L k lim i Q/\Q[i]?=some (c,t)/\badS L k c.1 c.2=b/\b≠0
 | .unk=>True
 | .safe R=>∃Q:List Qe,Sea L k lim Q.length Q/\R=Q.map Prod.fst
theorem sea_exO {L:List Mch} {k:Int} {lim:Nat}:∀ {f i:Nat} {Q:List Qe},Sea L k lim i Q->f+i=lim+1->i<=Q.length->ResOk L k lim (exO L k lim f i Q)
 | 0,i,Q,hs,h1,h2=>by have:=hs.l;omega
 | f+1,i,Q,hs,h1,h2=>by
  rw[exO];cases hq:Q[i]? with
  | none=>
   have hi:Q.length<=i:=List.getElem?_eq_none_iff.1 hq;have hi2:i=Q.length:=by omega
   subst hi2;exact⟨Q,hs,rfl⟩
  | some e=>
   dsimp only;by_cases hb:badS L k e.1.1 e.1.2≠0
   .rw[if_pos hb];exact⟨i,Q,e.1,hs,hq,rfl,hb⟩
   .rw[if_neg hb];cases hi:exI L lim e (stepsS L k e.1.1 e.1.2) Q with
    | none=>trivial
    | some Q'=>
     obtain⟨k1,k2,k3⟩:=sea_exI hs hq (fun q hq=>hq) hi;refine sea_exO (i:=i+1) ⟨k1.s,k1.n,k1.r,k1.p,fun j w hj hw=>?_,k1.m,fun b eb ei gb gi=>?_,k1.l⟩ (by omega) (by have:=(Ya.1 k3).1;omega)
     .by_cases hj2:j=i
      .subst hj2;rw[k3] at hw;cases hw;exact⟨Classical.byContradiction fun h=>hb h,k2⟩
      .exact k1.d j w (by omega) hw
     .have:=k1.u b eb e gb k3;have:=k1.m i (i+1) e ei (by omega) k3 gi;omega
theorem sea_start {L:List Mch} {k:Int} {lim:Nat} (hV:SysV L) (hk:1<=k/\k<=4) (hl:1<=lim):Sea L k lim 0 (q0 L):=by
 have hP:=xpro_start hV hk;rw[bxs0] at hP;have one:∀ {j:Nat} {e:Qe},(q0 L)[j]?=some e->j=0/\e=((startS L,startB L),[]):=fun {j e} h=>by
  have:=(Ya.1 h).1;have hj:j=0:=by simpa [q0] using this
  subst hj;cases h;exact⟨rfl,rfl⟩
 refine⟨rfl,by simp[q0],fun e he=>?_,fun e he=>?_,fun j e hj=>by omega,fun a b ea eb _ ga gb=>?_,fun b eb ei gb gi=>?_,hl⟩
 .rw[Ye.1 he];show some (startS L,(List.replicate (L.length*L.length) bx0).map Bx.l)=_;rw[bxs0];rfl
 .rw[Ye.1 he];exact hP
 .rw[(one ga).2,(one gb).2];exact Yyt _
 .rw[(one gb).2,(one gi).2];exact Nat.zero_le _
theorem exS_ok {L:List Mch} {k:Int} {lim:Nat} (hV:SysV L) (hk:1<=k/\k<=4) (hl:1<=lim):ResOk L k lim (exS L k lim):=sea_exO (sea_start hV hk hl) rfl (Nat.zero_le _)
end Go.VC
end
