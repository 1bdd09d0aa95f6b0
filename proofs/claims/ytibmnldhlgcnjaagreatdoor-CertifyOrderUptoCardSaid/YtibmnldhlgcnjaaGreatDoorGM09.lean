/- PeM PeN0 PeN PeO PwAh PeQ PeS PeT PeU FkA FkB FkC FkD FkE FkF FkG FkH FkI FkK FkArgs. -/
import Derived.Test.YtibmnldhlgcnjaaGreatDoorGM08
import Derived.Test.YtibmnldhlgcnjaaGreatDoorRows
set_option linter.all false
set_option maxRecDepth 100000
set_option maxHeartbeats 8000000

section
namespace Go.VC
open Go.Proofs Go.LexS Go.Maps
theorem app95:appB Pz 134 133 5 72=true:=by kernel_rfl
theorem app29:appB Pz 29 52 2 48=true:=by kernel_rfl
theorem cv_str {h h0:Heap} {s:Sl} {l:List Int} (hs:St h0 h [.sl s 5 1 (l.map u8C)]) (hb:∀x∈l,0<=x/\x<256):RunW Pz (Go.convert 54 9 (.slice s.a s.n s.c)) h fun v h'=>v=.string (bs (toB l))/\h'=h:=
 str_c (e:=5) (base:=h0.size) (ty:=5) (by kernel_rfl) (by kernel_rfl) (by kernel_rfl) (by have:=hs.give 0 rfl;rw[toB_c hb] at this;exact this)
theorem explore13 (L:List MR) (s:Sl) (k lim:Int) (h:Heap) (hS:SyI h s L) :
  Fn Pz 26 #[.slice s.a s.n s.c,.int .i64 k,.int .i64 lim] h (ExV (expV (L.map MR.m) k lim) h):=by
 apply vc26 s k lim;unfold W26 V26c V26b V26a;have hn:=hS.r.ln;have hsm:=hS.r.sm;have hlm:(L.map MR.m).length=L.length:=Yc _;refine (St.refl h).newb fun h1 hs=>?_;refine (start14 L s h1 (hS.ext hs.ext)).mono ?_;rintro _ h6 ⟨ss,sb,S,B,e,A1,rfl,hs1,hM,hv1,hv2⟩;have hs:=hs.join hs1;refine⟨ss,sb,e,rfl,?_⟩;refine hs.newput (vs:=[.slice ss.a ss.n ss.c,.slice sb.a sb.n sb.c]) rfl rfl fun h8 hs=>?_;have fin:∀ {hX:Heap} {i0:It} (e':Int),St h hX ([i0,.blk h.size [.int .i64 0,.slice none 0 0,.slice none 0 0,.int .i64 0,.slice none 0 0] 74]++A1)->expV (L.map MR.m) k lim=(rv0,e')->okAt hX ⟨h.size,0,none⟩ 5/\∀h9:Heap,h9=hputs hX ⟨h.size,0,none⟩ 0 [.int .i64 0,.slice none 0 0,.slice none 0 0,.int .i64 0,.slice none 0 0] -> 
  (∃x10:Int,∃x11:Sl,∃x12:Sl,∃x13:Int,∃x14:Sl,atC h9 ⟨h.size,0,none⟩ [.int .i64 x10,.slice x11.a x11.n x11.c,.slice x12.a x12.n x12.c,.int .i64 x13,.slice x14.a x14.n x14.c] /\ 
  ExV (expV (L.map MR.m) k lim) h (.tuple ⟨[.agg ⟨[.int .i64 x10,.slice x11.a x11.n x11.c,.slice x12.a x12.n x12.c,.int .i64 x13,.slice x14.a x14.n x14.c]⟩,.int .i64 e']⟩) h9):=fun {hX i0} e' hs he=>by
  refine hs.put 1 rfl (o:=0) (vs:=[.int .i64 0,.slice none 0 0,.slice none 0 0,.int .i64 0,.slice none 0 0]) rfl (show 5<=5 by decide) fun h9 hs=>?_;exact⟨0,⟨none,0,0⟩,⟨none,0,0⟩,0,⟨none,0,0⟩,hs.at 1 rfl (o:=0) (n:=5) rfl,ExV.empty hs (.inr ⟨rfl,rfl⟩) he⟩
 by_cases hV:SysV (L.map MR.m);rotate_left
 .obtain⟨rfl,-,-⟩:=hv2 hV;exact sB_t rfl (fin 1 hs (if_pos (.inl hV)))
 obtain⟨rfl,rfl,rfl⟩:=hv1 hV;clear hv1 hv2;refine sB_f rfl ?_;refine sBi (fun c1=>fin 1 hs (if_pos (.inr (.inl c1)))) (fun c1=>?_);refine sBi (fun c2=>fin 1 hs (if_pos (.inr (.inr c2)))) (fun c2=>?_);have hno:¬(¬SysV (L.map MR.m)\/k<1\/4<k):=fun h=>by
  rcases h with h | h | h
  .exact h hV
  .omega
  .omega
 refine sBi (fun c3=>fin 2 hs ((if_neg hno).trans (if_pos (.inl c3)))) (fun c3=>?_);refine sBi (fun c4=>fin 2 hs ((if_neg hno).trans (if_pos (.inr c4)))) (fun c4=>?_);have hx:expV (L.map MR.m) k lim=((exS (L.map MR.m) k lim.toNat).rv (L.map MR.m).length,0):=(if_neg hno).trans (if_neg (by omega));clear fin;have hV6:=hV.n;rw[hlm] at hV6;have h36:=sq6 hV6.2;obtain⟨lm,hlim⟩:∃lm:Nat,lim=(lm:Int):=⟨lim.toNat,by omega⟩;subst hlim;rw[Ys] at hx;have hP0:ProS (L.map MR.m) k (startS (L.map MR.m)) ((List.replicate ((L.map MR.m).length*(L.map MR.m).length) bx0).map Bx.l):=xpro_start hV (by omega);generalize hBB:List.replicate ((L.map MR.m).length*(L.map MR.m).length) bx0=B0 at *;refine (start32 L s k h8 (hS.ext hs.ext) hV).mono ?_;rintro _ h41 ⟨eb,wb,A2,osl,os,qs,rfl,hs2,hE⟩;have hs:=(hs.join hs2).perm List.perm_middle;refine⟨some ⟨eb,0,none⟩,rfl,?_⟩;refine hs.mmake 104 fun h44 E44 hs=>⟨_,rfl,?_⟩;have hs:St h h44 ([.mp h41.size [],.mp wb [],.blk h6.size [.slice ss.a ss.n ss.c,.slice sb.a sb.n sb.c] 52,.blk h.size [.int .i64 0,.slice none 0 0,.slice none 0 0,.int .i64 0,.slice none 0 0] 74]++(A1++A2)):=hs;have hA1:CfN (A1++A2) ss sb (startS (L.map MR.m)) B0:=fun h0 hh A' hA hs=>hM.mono (fun i hi=>hA i (List.mem_append_left _ hi)) |>.cfi hs
 replace hE:Sta (A1++A2) fun h=>EngX h eb wb s k L osl os qs:=hE.mono memP;generalize A1++A2=A at *;refine⟨ss,sb,hs.at 2 rfl (o:=0) (n:=2) rfl,?_⟩;refine (encode35 ss sb _ _ h44 (hA1.at hs memP) (enc_pro hP0)).mono ?_;rintro _ h49 ⟨b,rfl,hse⟩;have hs:=hs.step hse.ext;refine⟨b,rfl,(cv_str hse encC_byte).mono ?_⟩;rintro _ _ ⟨rfl,rfl⟩;refine⟨_,rfl,?_⟩;obtain⟨v0,hv0⟩:∃v0:Vs,v0=⟨ss,sb,startS (L.map MR.m),B0,-1,0,0,[]⟩:=⟨_,rfl⟩;have hkv:bs (toB (encC (startS (L.map MR.m)) (B0.map Bx.l)))=kyC (vq v0).1:=by rw[hv0];rfl
 rw[hkv];refine hs.mput M92 (cv:=Value.bool) (l:=[]) (a:=kyC (vq v0).1) 0 rfl (fun q hq=>by cases hq) .nil (by rw[hv0];exact ky_ok (c:=(_,_)) hP0) true fun h53 hs=>?_;refine⟨ss,sb,hs.at 2 rfl (o:=0) (n:=2) rfl,?_⟩;refine hs.newb fun h56 hs=>?_;have hs:=hs.blkS 1 5 ([v0].map Vs.cs) (by rw[hv0];rfl) (fun r hr=>by rw[Yyl,List.map_nil,Ye] at hr;rw[hr];rfl) rfl (by decide);have hs:St h h56 ([.mp wb (([]:List (Wt × Bool)).map wtC),.mp h41.size (([v0].map kyP).map kyV),.sl ⟨some ⟨h53.size,0,none⟩,1,1⟩ 133 5 ([v0].map Vs.cs),.blk h.size [.int .i64 0,.slice none 0 0,.slice none 0 0,.int .i64 0,.slice none 0 0] 74]++A):=
  St.picksA (P:=[_,_,_,_,_]) hs [2,1,0,4] (by decide) rfl
 have hsea:SeaV L k A [v0]:=by
  refine⟨fun v hv=>?_,fun v hv=>?_,fun j v hj=>?_,by simp⟩
  .rw[Ye.1 hv,hv0];exact hA1
  .rw[Ye.1 hv,hv0];exact hP0
  .have hj0:j=0:=by have:=(Ya.1 hj).1;simpa using this
   subst hj0;cases hj;rw[hv0];exact⟨Nat.zero_le _,.inl ⟨rfl,rfl⟩⟩
 have hex:exO (L.map MR.m) k lm (lm+1) 0 ([v0].map vq)=exS (L.map MR.m) k lm:=by
  unfold exS q0;congr 1;rw[hv0];unfold vq startB;rw[Yyl,List.map_nil,<-hBB,bxs0]
 have hwt0:WtOk L []:=⟨.nil,fun q hq=>by cases hq⟩;refine⟨fun queue x h' μ=>∃(i f:Nat) (V:List Vs) (K:List (Wt × Bool)) (A:List It),x=(i:Int)/\μ=f/\f+i=lm+1/\i<=V.length/\V.length<=lm/\exO (L.map MR.m) k lm f i (V.map vq)=exS (L.map MR.m) k lm/\SeaV L k A V/\WtOk L K/\Sta A (fun h=>EngX h eb wb s k L osl os qs) /\
  St h h' ([.mp wb (K.map wtC),.mp h41.size ((V.map kyP).map kyV),.sl queue 133 5 (V.map Vs.cs),.blk h.size [.int .i64 0,.slice none 0 0,.slice none 0 0,.int .i64 0,.slice none 0 0] 74]++A),⟨_,0,lm+1,[v0],[],A,rfl,rfl,rfl,Nat.zero_le _,by show 1<=lm;omega,hex,hsea,hwt0,hE,hs⟩,?_⟩
 clear hs hex hsea hwt0 hE hkv hv0 hA1 hse hs1 hs2 hM;rintro-queue _ h62 μ ⟨i,f,V,K,A,rfl,hμ,hfi,hi,hVl,hex,hsea,hK,hE,hs⟩;have hqn:=(hs.rows 2 (s:=queue) (cs:=Vs.cs) rfl (by omega)).ln;refine sBi (fun c5=>?_) (fun c5=>?_)
 .obtain⟨v,gv⟩:=get_some (l:=V) (i:=i) (by omega);have hvm:=Yb gv;have hcv:=hsea.c v hvm;have hpv:=hsea.p v hvm;refine (hs.rows 2 (s:=queue) (cs:=Vs.cs) rfl (by omega)).nbI (by omega) (by omega) fun b63 o64 v' gv' t=>?_;rw[Ys,gv] at gv';cases gv';refine⟨v.c1,v.c2,t.sub0 2 rfl,?_⟩;refine hs.newput (vs:=[.slice v.c1.a v.c1.n v.c1.c,.slice v.c2.a v.c2.n v.c2.c]) rfl rfl fun h68 hs=>?_;refine⟨v.c1,v.c2,hs.at 0 rfl (o:=0) (n:=2) rfl,?_⟩;refine (steps34 L s k eb v.c1 v.c2 v.S v.B h68 (hS.ext hs.ext) (hE.at hs (memP (P:=[_,_,_,_,_]))).r (hcv.at hs (memP (P:=[_,_,_,_,_]))) hpv).mono ?_;rintro _ h73 ⟨r,rfl,hsr⟩;have hs:=(hs.join hsr).perm List.perm_append_comm;have hs:St h h73 (.mp wb (K.map wtC)::[.sl r 43 2 ((stepsS (L.map MR.m) k v.S (v.B.map Bx.l)).map stpC),.blk h62.size [.slice v.c1.a v.c1.n v.c1.c,.slice v.c2.a v.c2.n v.c2.c] 52,.mp h41.size ((V.map kyP).map kyV),.sl queue 133 5 (V.map Vs.cs),.blk h.size [.int .i64 0,.slice none 0 0,.slice none 0 0,.int .i64 0,.slice none 0 0] 74]++A):=
   St.picksA (P:=[_,_,_,_,_,_]) hs [2,0,1,3,4,5] (by decide) rfl
  have hrn:=(hs.rows 1 (s:=r) (cs:=stpC) rfl (by omega)).ln;obtain⟨X,hX⟩:∃X,X=stepsS (L.map MR.m) k v.S (v.B.map Bx.l):=⟨_,rfl⟩;rw[<-hX] at hs hrn;refine⟨r,rfl,v.c1,v.c2,hs.at 2 rfl (o:=0) (n:=2) rfl,?_⟩;refine (bad35 L s k eb wb v.c1 v.c2 v.S v.B (decide ((r.n:Int)>0)) K osl os qs hs (hS) (hE.mono (memP (P:=[_,_,_,_,_]))) (hcv.mono (memP (P:=[_,_,_,_,_]))) hpv hK (by
   rw[decide_eq_true_eq,<-hX];constructor
   .intro h1 h2;rw[h2] at hrn;simp at hrn;omega
   .intro h1;have:X.length≠0:=fun h2=>h1 (List.length_eq_zero_iff.1 h2);omega)).mono ?_
  rintro _ h78 ⟨K2,rfl,hK2,hs⟩;obtain⟨f2,hf2⟩:∃f',f=f'+1:=⟨f-1,by omega⟩;have gvq:(V.map vq)[i]?=some (vq v):=by rw[Yd,gv];rfl
  rw[hf2,exO,gvq] at hex;dsimp only at hex;have hbadE:badS (L.map MR.m) k (vq v).1.1 (vq v).1.2=badS (L.map MR.m) k v.S (v.B.map Bx.l):=rfl;have hstE:stepsS (L.map MR.m) k (vq v).1.1 (vq v).1.2=X:=hX.symm;rw[hbadE,hstE] at hex;refine⟨_,rfl,?_⟩;generalize badS (L.map MR.m) k v.S (v.B.map Bx.l)=bd at *;by_cases hbd:bd=0;rotate_left
  .rw[if_pos hbd] at hex;refine sB_t (by rw[bne_iff_ne];exact hbd) ?_;refine (trace36 V queue i v h78 (hs.rows 4 (s:=queue) (cs:=Vs.cs) rfl (by omega)) (by omega) gv hsea.t).mono ?_;rintro _ h81 ⟨tr,rfl,hst⟩;have hs:=(hs.join hst).perm List.perm_append_comm;refine⟨tr,rfl,?_⟩;refine hs.put 6 rfl (o:=0) (vs:=[.int .i64 2,.slice none 0 0,.slice none 0 0,.int .i64 bd,.slice tr.a tr.n tr.c]) rfl (show 5<=5 by decide) fun h82 hs=>?_;have htl:v.tr.length<=i:=(hsea.t i v gv).1;refine⟨2,⟨none,0,0⟩,⟨none,0,0⟩,bd,tr,hs.at 6 rfl (o:=0) (n:=5) rfl,ExV.empty hs (.inl ⟨Yx,by omega⟩) ?_⟩;rw[hx,<-hex];rfl
  rw[if_neg (fun h=>h hbd)] at hex;refine sB_f (by rw[hbd];rfl) ?_;obtain⟨g,hg⟩:∃g,g=exI (L.map MR.m) lm (vq v) X (V.map vq):=⟨_,rfl⟩;rw[<-hg] at hex;have hXs:∀z∈X,∃m x,(L.map MR.m)[z.1]?=some m/\m.mv[z.2]?=some x/\canS (L.map MR.m).length k v.S (v.B.map Bx.l) z.1 x=0:=fun z hz=>by
   obtain⟨a,b⟩:=z;rw[hX] at hz;exact steps_mem hz
  have hXl:X.length<=2400:=by
   have:=steps_len (n:=(L.map MR.m).length) (k:=k) (S:=v.S) (BL:=v.B.map Bx.l) hV (L.map MR.m).length;rw[hX];unfold stepsS;omega
  refine⟨fun queue x h' μ=>∃(j:Nat) (V:List Vs) (A:List It),x=(j:Int)/\μ=X.length-j/\j<=X.length/\i<V.length/\V.length<=lm/\V[i]?=some v/\exI (L.map MR.m) lm (vq v) (X.drop j) (V.map vq)=g/\SeaV L k A V/\Sta A (fun h=>EngX h eb wb s k L osl os qs) /\
   St h h' ([.mp wb (K2.map wtC),.sl r 43 2 (X.map stpC),.blk h62.size [.slice v.c1.a v.c1.n v.c1.c,.slice v.c2.a v.c2.n v.c2.c] 52,.mp h41.size ((V.map kyP).map kyV),.sl queue 133 5 (V.map Vs.cs),.blk h.size [.int .i64 0,.slice none 0 0,.slice none 0 0,.int .i64 0,.slice none 0 0] 74]++A),⟨_,0,V,A,rfl,rfl,Nat.zero_le _,by omega,hVl,gv,by rw[List.drop_zero];exact hg.symm,hsea,hE,hs⟩,?_⟩
  clear hs hsea hE hcv gv hVl hqn c5 hg hi gvq hvm hK;clear t hsr;rintro-queue2 _ h93 μ ⟨j,V,A,rfl,rfl,hj,hiV,hVl,gv,hgI,hsea,hE,hs⟩;have hqn:=(hs.rows 4 (s:=queue2) (cs:=Vs.cs) rfl (by omega)).ln;have hcv:=hsea.c v (Yb gv);refine sBi (fun c6=>?_) (fun c6=>?_)
  .obtain⟨⟨a,b⟩,gz⟩:=get_some (l:=X) (i:=j) (by omega);obtain⟨m,x,gm,gx,hc⟩:=hXs _ (Yb gz);dsimp only at gm gx hc;have hxm:=Yb gx;have hvmm:=hpv.v.m a m gm;have ha:a<(L.map MR.m).length:=(Ya.1 gm).1;have hx0:=(hvmm.2.1.n.mv x hxm).2.2.2.2.1;have hx1:=hvmm.2.2 x hxm;rw[hlm] at hc hx1 ha;have hBl:v.B.length=L.length*L.length:=by have:=hpv.p.b;rw[Yc,hlm] at this;exact this
   have hSl:v.S.length=L.length:=by rw[hpv.p.s,hlm]
   obtain⟨q,gq⟩:=get_some (l:=v.B) (i:=bxI L.length a x) (by rw[hBl];exact bxI_lt ha hx0 hx1);have hql:(v.B.map Bx.l)[bxI L.length a x]?=some q.l:=by rw[Yd,gq];rfl
   have hqd:(v.B.map Bx.l).getD (bxI L.length a x) []=q.l:=getD_map gq;have hq4:q.l.length<=4:=by have:=(hpv.p.bx _ q.l hql).1;omega
   have hq1:x.send=false->1<=q.l.length:=fun d=>by
    obtain⟨r,hr⟩:=(can_parts.1 hc).2.2 d;rw[hqd] at hr;rw[hr,Yyj];omega
   refine (hs.rows 1 (s:=r) (cs:=stpC) rfl (by omega)).nbI (by omega) (by omega) fun b94 o95 z gz' t=>?_;rw[Ys,gz] at gz';cases gz';refine⟨(a:Int),(b:Int),t,?_⟩;refine hs.newput (vs:=[.int .i64 (a:Int),.int .i64 (b:Int)]) rfl rfl fun h99 hs=>?_;refine⟨v.c1,v.c2,hs.at 3 rfl (o:=0) (n:=2) rfl,(a:Int),(b:Int),hs.at 0 rfl (o:=0) (n:=2) rfl,?_⟩;refine (do37 L s k eb v.c1 v.c2 v.S v.B a b m x q h99 (hS.ext hs.ext) (hE.at hs (memP (P:=[_,_,_,_,_,_,_]))).r (hcv.at hs (memP (P:=[_,_,_,_,_,_,_]))) hpv gm gx hc gq).mono ?_;rintro _ h107 ⟨ts,tb,u,A3,rfl,hs3,m1,m2,m3,m4⟩;rw[hn] at m2;have hs:St h h107 ([.blk h93.size [.int .i64 (a:Int),.int .i64 (b:Int)] 43,.mp wb (K2.map wtC),.sl r 43 2 (X.map stpC),.blk h62.size [.slice v.c1.a v.c1.n v.c1.c,.slice v.c2.a v.c2.n v.c2.c] 52,.mp h41.size ((V.map kyP).map kyV),.sl queue2 133 5 (V.map Vs.cs),.blk h.size [.int .i64 0,.slice none 0 0,.slice none 0 0,.int .i64 0,.slice none 0 0] 74]++(A++A3)):=hs.join hs3;have hSS:(v.S.set a x.t).length<=1048576:=by rw[Yyh];omega
   have hcn:CfN (A++A3) ts tb (v.S.set a x.t) (v.B.set (bxI L.length a x) ⟨u,newL x q.l⟩):=do_next hcv gq hSS (by omega) hq4 hq1 m1 m2 m3 m4;have hBn:(v.B.set (bxI L.length a x) ⟨u,newL x q.l⟩).map Bx.l=doB (L.map MR.m).length a x (v.B.map Bx.l):=by rw[hlm];exact doB_newL gq
   have hpn:ProS (L.map MR.m) k (v.S.set a x.t) ((v.B.set (bxI L.length a x) ⟨u,newL x q.l⟩).map Bx.l):=by
    rw[hBn];exact pro_do hpv gm hxm (by rw[hlm];exact hc)
   have hnx:((v.S.set a x.t,(v.B.set (bxI L.length a x) ⟨u,newL x q.l⟩).map Bx.l):Cf)=nxS (L.map MR.m) (vq v).1 (a,b):=by rw[nxS_of gm gx,hBn];rfl
   replace hsea:SeaV L k (A++A3) V:=hsea.mono fun i hi=>List.mem_append_left _ hi;replace hE:Sta (A++A3) fun h=>EngX h eb wb s k L osl os qs:=hE.mono fun i hi=>List.mem_append_left _ hi;clear hs3 m1 m2 m3 m4 hcv t;generalize A++A3=A at *;obtain⟨nv,hnv⟩:∃nv:Vs,nv=⟨ts,tb,v.S.set a x.t,v.B.set (bxI L.length a x) ⟨u,newL x q.l⟩,(i:Int),a,b,v.tr++[(a,b)]⟩:=⟨_,rfl⟩;have hnq:(vq nv).1=nxS (L.map MR.m) (vq v).1 (a,b):=by rw[hnv];exact hnx
   have hnt:vq nv=(nxS (L.map MR.m) (vq v).1 (a,b),(vq v).2++[(a,b)]):=Prod.ext hnq (by rw[hnv];rfl);refine⟨ts,tb,rfl,?_⟩;refine hs.newput (vs:=[.slice ts.a ts.n ts.c,.slice tb.a tb.n tb.c]) rfl rfl fun h109 hs=>?_;refine⟨ts,tb,hs.at 0 rfl (o:=0) (n:=2) rfl,?_⟩;refine (encode35 ts tb _ _ h109 (hcn.at hs (memP (P:=[_,_,_,_,_,_,_,_]))) (enc_pro hpn)).mono ?_;rintro _ h114 ⟨b3,rfl,hse⟩;have hs:=hs.step hse.ext;refine⟨b3,rfl,(cv_str hse encC_byte).mono ?_⟩;rintro _ _ ⟨rfl,rfl⟩;refine⟨_,rfl,?_⟩;have hkv:bs (toB (encC (v.S.set a x.t) ((v.B.set (bxI L.length a x) ⟨u,newL x q.l⟩).map Bx.l)))=kyC (vq nv).1:=by rw[hnv];rfl
   rw[hkv];have hkok:kokB (kyC (vq nv).1):=by rw[hnv];exact ky_ok (c:=(_,_)) hpn
   rw[drop_get gz,exI] at hgI;refine hs.mlook M92 (cv:=Value.bool) (l:=V.map kyP) (a:=kyC (vq nv).1) 5 rfl hsea.kok hsea.knd hkok false ?_;have hmm:=ky_mem (V:=V) (c:=(vq nv).1);cases hg:mget (V.map kyP) (kyC (vq nv).1) with
   | some y=>
    have hy:y=true:=by
     obtain⟨w,_,e⟩:=Yp.1 (mgetE_mem hg);exact (congrArg Prod.snd e).symm
    subst hy;rw[hg] at hmm;refine⟨true,rfl,sB_t rfl ?_⟩;rw[if_pos (by rw[<-hnq];exact hmm.2 (by simp))] at hgI;refine⟨_,(show X.length-(j+1)<X.length-j by omega),j+1,V,A,by rw[w64 (by omega) (by omega)];omega,rfl,by omega,hiV,hVl,gv,hgI,hsea,hE,hs.drop 2⟩
   | none=>
    rw[hg] at hmm;have hnm:(vq nv).1∉(V.map vq).map Prod.fst:=fun h=>hmm.1 h rfl;refine⟨false,rfl,sB_f rfl ?_⟩;rw[if_neg (by rw[<-hnq];exact hnm),Yc] at hgI;refine sBe (fun c7=>?_) (fun c7=>?_)
    .rw[if_pos (by omega)] at hgI;rw[<-hgI] at hex;refine hs.put 7 rfl (o:=0) (vs:=[.int .i64 3,.slice none 0 0,.slice none 0 0,.int .i64 0,.slice none 0 0]) rfl (show 5<=5 by decide) fun h122 hs=>?_;refine⟨3,⟨none,0,0⟩,⟨none,0,0⟩,0,⟨none,0,0⟩,hs.at 7 rfl (o:=0) (n:=5) rfl,ExV.empty hs (.inr ⟨rfl,rfl⟩) ?_⟩;rw[hx,<-hex];rfl
    .rw[if_neg (by omega)] at hgI;refine hs.mput M92 (cv:=Value.bool) (l:=V.map kyP) (a:=kyC (vq nv).1) 5 rfl hsea.kok hsea.knd hkok true fun h128 hs=>?_;rw[mset_none (mget_nomem hg)] at hs;refine⟨ts,tb,hs.at 0 rfl (o:=0) (n:=2) rfl,(a:Int),(b:Int),hs.at 1 rfl (o:=0) (n:=2) rfl,?_⟩;refine hs.app 6 (s:=queue2) (n:=5) (rows:=V.map Vs.cs) rfl app95 (m:=1) [nv.cs] (by rw[hnv];rfl) rfl (fun r hr=>by rw[Ye] at hr;rw[hr];rfl) rfl (by omega) (by simp only[maxLen];omega) fun q2 h135 nr hs=>?_;refine⟨_,(show X.length-(j+1)<X.length-j by omega),j+1,V++[nv],A,by rw[w64 (by omega) (by omega)];omega,rfl,by omega,by rw[Yh];omega,by rw[Yh,Yv];omega,by rw[Yyi hiV];exact gv,?_,hsea.snoc (p:=i) (u:=v) ?_ ?_ hnm gv ?_ ?_,hE,?_⟩
     .rw[Ym,Yyl,List.map_nil,hnt];exact hgI
     .rw[hnv];exact hcn
     .rw[hnv];exact hpn
     .rw[hnv]
     .rw[hnv]
     .have e1:(V++[nv]).map kyP=V.map kyP++[(kyC (vq nv).1,true)]:=by rw[Ym];rfl
      have e2:(V++[nv]).map Vs.cs=V.map Vs.cs++[nv.cs]:=by rw[Ym];rfl
      rw[e1,e2];exact hs.drop 2
  .have hje:j=X.length:=by omega
   rw[hje,List.drop_length,exI] at hgI;rw[<-hgI] at hex;refine⟨f2,by omega,i+1,f2,V,K2,A,by rw[w64 (by omega) (by omega)];omega,rfl,by omega,by omega,hVl,hex,hsea,hK2,hE,?_⟩;exact St.picksA (P:=[_,_,_,_,_,_]) hs [0,3,4,5] (by decide) rfl
 .have hiV:V.length<=i:=by omega
  obtain⟨f2,hf2⟩:∃f',f=f'+1:=⟨f-1,by omega⟩;rw[hf2,exO,Yl (by rw[Yc];exact hiV)] at hex;dsimp only at hex;have hsq:(s.n:Int)*(s.n:Int)=((L.length*L.length:Nat):Int):=by rw[hn];rfl
  obtain⟨nn,hnn⟩:∃nn,nn=L.length*L.length:=⟨_,rfl⟩;rw[hsq,<-hnn,w64 (n:=((nn:Nat):Int)) (by omega) (by omega),Ys,made3i];refine⟨⟨by omega,by omega,by omega⟩,?_⟩;refine hs.newb fun h138 hs=>?_;have hs:=hs.blkS nn 1 ((List.replicate nn (0:Int)).map inC) (inC_flat _) (inrows _) (by rw[Yc,Yg]) (by simp only[maxLen];omega);refine hs.newput (vs:=[.int .i64 1,.slice none 0 0,.slice (some ⟨h62.size,0,none⟩) nn nn,.int .i64 0,.slice none 0 0]) rfl rfl fun h140 hs=>?_;have hs:=hs.nil_ 52 2;obtain⟨mo,hmo⟩:∃mo:Sl,mo=⟨some ⟨h62.size,0,none⟩,nn,nn⟩:=⟨_,rfl⟩;have hs:St h h140 ([.sl ⟨none,0,0⟩ 52 2 (([]:List Cr).map Cr.cs),.blk h138.size (resA 1 ⟨none,0,0⟩ mo 0 ⟨none,0,0⟩) 74,.sl mo 3 1 ((List.replicate nn (0:Int)).map inC),.sl queue 133 5 (V.map Vs.cs),.blk h.size [.int .i64 0,.slice none 0 0,.slice none 0 0,.int .i64 0,.slice none 0 0] 74]++A):=
   St.picksA (P:=[_,_,_,_,_,_,_]) (by rw[hmo];exact hs) [0,1,2,5,6] (by decide) rfl
  have hm0:List.replicate nn (0:Int)=mostS L.length ((V.take 0).map fun v=>(vq v).1):=by rw[hnn];rfl
  rw[hm0] at hs;refine⟨fun x h' μ=>∃(i:Nat) (C:List Cr) (cf:Sl) (A:List It),x=(i:Int)/\μ=V.length-i/\i<=V.length/\C.map Cr.cf=(V.take i).map (fun v=>(vq v).1)/\(∀c∈C,CfN A c.c1 c.c2 c.S c.B)/\SeaV L k A V /\
   St h h' ([.sl cf 52 2 (C.map Cr.cs),.blk h138.size (resA 1 cf mo 0 ⟨none,0,0⟩) 74,.sl mo 3 1 ((mostS L.length ((V.take i).map fun v=>(vq v).1)).map inC),.sl queue 133 5 (V.map Vs.cs),.blk h.size [.int .i64 0,.slice none 0 0,.slice none 0 0,.int .i64 0,.slice none 0 0] 74]++A),⟨_,0,[],⟨none,0,0⟩,A,rfl,rfl,Nat.zero_le _,rfl,fun c hc=>(by cases hc),hsea,hs⟩,?_⟩
  clear hs hsea hE hm0;rintro-_ h145 μ2 ⟨i2,C,cf,A,rfl,rfl,hi2,hC,hCn,hsea,hs⟩;have hCl:C.length=i2:=by
   have:=congrArg List.length hC;rw[Yc,Yc,Yu] at this;omega
  refine sBi (fun c6=>?_) (fun c6=>?_)
  .obtain⟨v,gv⟩:=get_some (l:=V) (i:=i2) (by omega);have hvm:=Yb gv;have hcv:=hsea.c v hvm;have hpv:=hsea.p v hvm;have hBl:v.B.length=nn:=by have:=hpv.p.b;rw[Yc,hlm] at this;rw[hnn];exact this
   have hSl:v.S.length=L.length:=by rw[hpv.p.s,hlm]
   refine (hs.rows 3 (s:=queue) (cs:=Vs.cs) rfl (by omega)).nbI (by omega) (by omega) fun b146 o147 v' gv' t=>?_;rw[Ys,gv] at gv';cases gv';refine⟨v.c1,v.c2,v.ah,(v.a:Int),(v.b:Int),t,?_⟩;refine hs.newput (vs:=v.cs) rfl rfl fun h154 hs=>?_;refine⟨cf,hs.rd 2 rfl (i:=1) rfl,v.c1,v.c2,hs.at 0 rfl (o:=0) (n:=2) rfl,?_⟩;refine (clone38 v.c1 v.c2 v.S v.B h154 (hcv.at hs (memP (P:=[_,_,_,_,_,_])))).mono ?_;rintro _ h161 ⟨ts,tb,T,rfl,hTB,hst⟩;have hTl:T.length=nn:=by
    have:=congrArg List.length hTB;rw[Yc,Yc] at this;omega
   refine⟨ts,tb,rfl,hst.ext.sm,?_⟩;have hs:=hs.join hst;refine hs.newbE fun h162 E162 hs=>⟨E162.sm,?_⟩;have hcn:CfN (A++([.sl ts 3 1 (v.S.map inC),.sl tb 25 1 (T.map Bx.cs)]++T.map Bx.it)) ts tb v.S T:=fun h0 hh A' hA hs=>by
    have m1:∀it∈([.sl ts 3 1 (v.S.map inC),.sl tb 25 1 (T.map Bx.cs)]++T.map Bx.it:List It),it∈A':=fun it h=>hA it (List.mem_append_right _ h);refine⟨hs.rlm (m1 _ Yx) (by omega) (by omega),hs.rlm (m1 _ (Yn _ Yx)) (by omega) (by omega),fun q hq=>?_⟩;refine hs.rlm (m1 _ (List.mem_append_right _ (List.mem_map_of_mem hq))) (by omega) ?_;have hq1:q.l∈v.B.map Bx.l:=by rw[<-hTB];exact List.mem_map_of_mem hq
    obtain⟨j,gj⟩:=Yf.1 hq1;have:=(hpv.p.bx j q.l gj).1;have:=hpv.c;omega
   have hs:St h h162 ([.blk h161.size [.slice ts.a ts.n ts.c,.slice tb.a tb.n tb.c] 52,.blk h145.size v.cs 133,.sl cf 52 2 (C.map Cr.cs),.blk h138.size (resA 1 cf mo 0 ⟨none,0,0⟩) 74,.sl mo 3 1 ((mostS L.length ((V.take i2).map fun v=>(vq v).1)).map inC),.sl queue 133 5 (V.map Vs.cs),.blk h.size [.int .i64 0,.slice none 0 0,.slice none 0 0,.int .i64 0,.slice none 0 0] 74]++(A++([.sl ts 3 1 (v.S.map inC),.sl tb 25 1 (T.map Bx.cs)]++T.map Bx.it))):=hs;replace hsea:=hsea.mono (A':=A++([.sl ts 3 1 (v.S.map inC),.sl tb 25 1 (T.map Bx.cs)]++T.map Bx.it)) fun i hi=>List.mem_append_left _ hi;replace hCn:∀c∈C,CfN (A++([.sl ts 3 1 (v.S.map inC),.sl tb 25 1 (T.map Bx.cs)]++T.map Bx.it)) c.c1 c.c2 c.S c.B:=fun c hc=>(hCn c hc).mono fun i hi=>List.mem_append_left _ hi;clear hst hcv t;generalize A++([.sl ts 3 1 (v.S.map inC),.sl tb 25 1 (T.map Bx.cs)]++T.map Bx.it)=A at *;have hcv:=hsea.c v hvm;have hcfn:=(hs.len 2 (s:=cf) rfl (by omega)).1;rw[Yc] at hcfn;refine hs.appended 2 (s:=cf) (n:=2) (rows:=C.map Cr.cs) rfl app29 (m:=1) (news:=[Cr.cs (⟨ts,tb,v.S,T⟩:Cr)]) (hs.at 0 rfl (n:=2) rfl) rfl (fun r hr=>by rw[Ye] at hr;rw[hr];rfl) rfl (by omega) (by simp only[maxLen];omega) fun r2 h164 nr hs=>?_;refine hs.put 3 rfl (o:=1) (vs:=[.slice r2.a r2.n r2.c]) rfl (show 2<=5 by decide) fun h165 hs=>?_;refine⟨v.c2,hs.rd 1 rfl (i:=1) rfl,?_⟩;have hbn:=(hcv.at hs (memP (P:=[_,_,_,_,_,_,_]))).b.ln;generalize hMM:mostS L.length ((V.take i2).map fun v=>(vq v).1)=M at *;have hMl:M.length=nn:=by rw[<-hMM,most_len,hnn]
   refine⟨fun x h' μ=>∃j:Nat,x=(j:Int)/\μ=v.B.length-j/\j<=v.B.length/\St h h' ([.blk h161.size [.slice ts.a ts.n ts.c,.slice tb.a tb.n tb.c] 52,.blk h145.size v.cs 133,.sl r2 52 2 ((C++[(⟨ts,tb,v.S,T⟩:Cr)]).map Cr.cs),.blk h138.size (resA 1 r2 mo 0 ⟨none,0,0⟩) 74,.sl mo 3 1 ((stepM (v.B.map Bx.l) j M).map inC),.sl queue 133 5 (V.map Vs.cs),.blk h.size [.int .i64 0,.slice none 0 0,.slice none 0 0,.int .i64 0,.slice none 0 0] 74]++A),⟨_,0,rfl,rfl,Nat.zero_le _,by rw[stepM_0,Ym];exact hs⟩,?_⟩;clear hs;rintro-_ h171 μ3 ⟨j,rfl,rfl,hj,hs⟩;have hmn:=(hs.rows 4 (s:=mo) (cs:=inC) rfl (by omega)).ln;rw[stepM_len] at hmn;refine sBi (fun c7=>?_) (fun c7=>?_)
   .obtain⟨q,gq⟩:=get_some (l:=v.B) (i:=j) (by omega);obtain⟨y,gy⟩:=get_some (l:=M) (i:=j) (by omega);have hCf:=hcv.at hs (memP (P:=[_,_,_,_,_,_,_]));have hqi:=hCf.i q (Yb gq);have hqn:=hqi.ln;refine hCf.b.rw.nbI (by omega) (by omega) fun b172 o173 q' gq' t=>?_;rw[Ys,gq] at gq';cases gq';refine⟨q.s,t.hd,mo,hs.rd 3 rfl (i:=2) rfl,mo,hs.rd 3 rfl (i:=2) rfl,?_⟩;refine (hs.rows 4 (s:=mo) (cs:=inC) rfl (by omega)).nbI (by omega) (by omega) fun b177 o178 y' gy' t2=>?_;rw[Ys,stepM_get,gy] at gy';cases gy';refine⟨y,t2.hd,?_⟩;refine hs.set 4 (s:=mo) (cs:=inC) (x:=(j:Int)) rfl (by omega) (by omega) (by omega) (imax y (q.s.n:Int)) rfl rfl (fun b180 o181 h182 hs=>?_) rfl;rw[Ys] at hs;have hql:(v.B.map Bx.l).getD j []=q.l:=getD_map gq;have e1:=stepM_next (B:=v.B.map Bx.l) gy;rw[hql,<-hqn] at e1;refine⟨_,(show v.B.length-(j+1)<v.B.length-j by omega),j+1,by rw[w64 (by omega) (by omega)];omega,rfl,by omega,?_⟩;rw[<-e1];exact hs
   .have hjB:j=v.B.length:=by omega
    have e1:(V.take (i2+1)).map (fun v=>(vq v).1)=(V.take i2).map (fun v=>(vq v).1)++[(vq v).1]:=by rw[take_snoc gv,Ym];rfl
    refine⟨_,(show V.length-(i2+1)<V.length-i2 by omega),i2+1,C++[(⟨ts,tb,v.S,T⟩:Cr)],r2,A,by rw[w64 (by omega) (by omega)];omega,rfl,by omega,?_,?_,hsea,?_⟩
    .rw[e1,Ym,hC];congr 1;show [(v.S,T.map Bx.l)]=_;rw[hTB];rfl
    .intro c hc;rcases Yk.1 hc with hc | hc
     .exact hCn c hc
     .rw[Ye.1 hc];exact hcn
    .rw[e1,most_snoc,hMM];have e2:=stepM_end (B:=v.B.map Bx.l) (M:=M) (j:=j) (by omega);rw[e2] at hs;exact hs.drop 2
  .have hie:i2=V.length:=by omega
   subst hie;rw[Yye] at hC hs;refine⟨1,cf,mo,0,⟨none,0,0⟩,hs.at 1 rfl (o:=0) (n:=5) rfl,?_⟩;refine hs.put 4 rfl (o:=0) (vs:=resA 1 cf mo 0 ⟨none,0,0⟩) rfl (show 5<=5 by decide) fun h190 hs=>?_;refine⟨1,cf,mo,0,⟨none,0,0⟩,hs.at 4 rfl (o:=0) (n:=5) rfl,cf,mo,⟨none,0,0⟩,_,?_,hs,fun h0 h2 A' hA hs'=>?_⟩
   .rw[hx,<-hex];rfl
   .have hr:(expV (L.map MR.m) k (lm:Int)).1=⟨1,(V.map vq).map Prod.fst,mostS (L.map MR.m).length ((V.map vq).map Prod.fst),0,[]⟩:=by rw[hx,<-hex];rfl
    have eV:(V.map vq).map Prod.fst=V.map fun v=>(vq v).1:=by rw[List.map_map];rfl
    rw[hr,eV,hlm];have hml:=most_len L.length (V.map fun v=>(vq v).1);exact⟨⟨C,hs'.rlm (hA _ Yx) (by omega) (by omega),fun c hc=>hCn c hc h0 h2 A' (fun i hi=>hA i (memP (P:=[_,_,_,_,_]) i hi)) hs',hC⟩,
     hs'.rlm (hA _ (Yn _ (Yn _ Yx))) (by omega) (Yys (Nat.le_of_eq hml) (by omega)),RL.nil0⟩
end Go.VC
end

section
namespace Go.VC
open Go.Proofs Go.LexS

structure Vr where
 c:Cr
 t:Sl
 tr:List (Nat × Nat)
def Vr.cs (v:Vr):List Value:=v.c.cs
def Vr.ts (v:Vr):List Value:=[.slice v.t.a v.t.n v.t.c]
def cstP (n:Nat) (k:Int) (S:List Int) (BL:List (List Int)) (p:Nat) (m:Mch):List Nat:=(List.range m.mv.length).filter (posB n k S BL p m)
def cstS (L:List Mch) (k:Int) (c:Cf):List (Nat × Nat):=(List.range L.length).flatMap fun p=>match L[p]? with
 | some m=>(cstP L.length k c.1 c.2 p m).map fun i=>(p,i)
 | none=>[]
def cstB (L:List Mch) (k:Int) (c:Cf):Bool:=(List.range L.length).all fun p=>match L[p]? with
 | some m=>decide ((cstP L.length k c.1 c.2 p m).Pairwise fun a b=>¬evLt (evI m b) (evI m a))
 | none=>true
theorem cst_eq {L:List Mch} {k:Int} {c:Cf} (hV:SysV L) (h:cstB L k c=true):stepsS L k c.1 c.2=cstS L k c:=by
 unfold stepsS cstS;rw[List.flatMap_def,List.flatMap_def];congr 1;refine List.map_congr_left fun p hp=>?_;unfold stepsR;unfold cstB at h;rw[List.all_eq_true] at h;have hp1:=h p hp;cases gm:L[p]? with
 | none=>rfl
 | some m=>
  rw[gm] at hp1;dsimp only at hp1 ⊢;rw[stepsP_of (hV.m p m gm).2.1.d rfl (Yyn hp1)];rfl
def cexp (m:Mch) (s peer label:Int):Bool:=m.mv.any fun x=>decide (x.f=s)&&(!x.send&&(decide (x.peer=peer)&&decide (x.label=label)))
theorem cexp_ok {m:Mch} {s peer label:Int} (h:cexp m s peer label=true):ExpM m s peer label:=by
 unfold cexp at h;rw[List.any_eq_true] at h;obtain⟨x,hx,h⟩:=h;simp only[Yt,decide_eq_true_eq,Bool.not_eq_true'] at h;exact⟨s,.base (Ye.2 rfl),x,hx,h.1,⟨h.2.1,h.2.2.1⟩,h.2.2.2⟩
def cbox (L:List Mch) (c:Cf):Bool:=(List.range c.2.length).all fun i=>match c.2[i]? with
 | some (b::_)=>match L[i%L.length]?,c.1[i%L.length]? with
  | some m,some s=>cexp m s ((i/L.length:Nat):Int) b
  | _,_=>true
 | _=>true
def cfin (L:List Mch) (c:Cf):Bool:=((List.range c.1.length).all fun p=>match c.1[p]?,L[p]? with
 | some s,some m=>decide (m.fin[s.toNat]?=some true)
 | _,_=>true)&&c.2.all fun b=>b.isEmpty
def cok (L:List Mch) (k:Int) (c:Cf):Bool:=cstB L k c&&(cbox L c&&(!(cstS L k c).isEmpty||cfin L c))
theorem cok_ok {L:List Mch} {k:Int} {c:Cf} (hV:SysV L) (h:cok L k c=true):badS L k c.1 c.2=0/\stepsS L k c.1 c.2=cstS L k c:=by
 unfold cok at h;simp only[Yt] at h;obtain⟨h1,h2,h3⟩:=h;have hst:=cst_eq hV h1;refine⟨badS_0 ?_ ?_,hst⟩
 .rintro⟨i,b,l,m,s,g1,g2,g3,g4⟩;unfold cbox at h2;rw[List.all_eq_true] at h2;have:=h2 i (List.mem_range.2 (Ya.1 g1).1);rw[g1] at this;dsimp only at this;rw[g2,g3] at this;exact g4 (cexp_ok this)
 .rw[Bool.or_eq_true] at h3;rcases h3 with h3 | h3
  .refine .inr fun h=>?_;rw[<-hst,h] at h3;cases h3
  .refine .inl ?_;unfold cfin at h3;rw[Yt,List.all_eq_true,List.all_eq_true] at h3;refine⟨fun p s m g1 g2=>?_,fun b hb=>List.isEmpty_iff.1 (h3.2 b hb)⟩;have:=h3.1 p (List.mem_range.2 (Ya.1 g1).1);rw[g1,g2] at this;exact Yyn this
def exC (L:List Mch) (k:Int) (lim:Nat):Nat->Nat->List Qe->Option (List Cf)
 | 0,_,_=>none
 | f+1,i,Q=>match Q[i]? with
  | none=>some (Q.map Prod.fst)
  | some e=>if cok L k e.1=true then match exI L lim e (cstS L k e.1) Q with
   | none=>none
   | some Q'=>exC L k lim f (i+1) Q'
   else none
theorem exC_eq {L:List Mch} {k:Int} {lim:Nat} (hV:SysV L):∀(f i:Nat) (Q:List Qe) (R:List Cf),exC L k lim f i Q=some R->exO L k lim f i Q=.safe R
 | 0,_,_,_,h=>by cases h
 | f+1,i,Q,R,h=>by
  rw[exC] at h;rw[exO];cases hq:Q[i]? with
  | none=>rw[hq] at h;cases h;rfl
  | some e=>
   rw[hq] at h;dsimp only at h ⊢;split at h
   .rename_i hc;obtain⟨h1,h2⟩:=cok_ok hV hc;rw[if_neg (fun hn=>hn h1),h2];cases hi:exI L lim e (cstS L k e.1) Q with
    | none=>rw[hi] at h;cases h
    | some Q'=>rw[hi] at h;exact exC_eq hV f (i+1) Q' R h
   .cases h
theorem exC_mono {L:List Mch} {k:Int} {lim:Nat}:∀(f i:Nat) (Q:List Qe) (R:List Cf),exC L k lim f i Q=some R->exC L k lim (f+1) i Q=some R
 | 0,_,_,_,h=>by cases h
 | f+1,i,Q,R,h=>by
  rw[exC] at h;rw[exC];cases hq:Q[i]? with
  | none=>rw[hq] at h;exact h
  | some e=>
   rw[hq] at h;dsimp only at h ⊢;split at h
   .rename_i hc;rw[if_pos hc];cases hi:exI L lim e (cstS L k e.1) Q with
    | none=>rw[hi] at h;cases h
    | some Q'=>rw[hi] at h;exact exC_mono f (i+1) Q' R h
   .cases h
theorem exC_more {L:List Mch} {k:Int} {lim:Nat} (f i:Nat) (Q:List Qe) (R:List Cf) (h:exC L k lim f i Q=some R):∀d,exC L k lim (f+d) i Q=some R
 | 0=>h
 | d+1=>exC_mono _ _ _ _ (exC_more f i Q R h d)
def xRes:List Cf:=((exC xL 1 1000 20 0 (q0 xL)).getD [])
theorem xres_eq:exC xL 1 1000 20 0 (q0 xL)=some xRes:=by kernel_rfl
theorem xres_len:xRes.length=12:=by kernel_rfl
theorem xsearch:exS xL 1 1000=.safe xRes:=exC_eq xsys _ _ _ _ (exC_more 20 0 (q0 xL) xRes xres_eq 981)



theorem RL.cut0 {α:Type} {h:Heap} {n:Nat} {s:Sl} {cs:α->List Value} {l:List α} (hr:RL h n s cs l) (i:Nat) (hi:i<=s.n):RL h n ⟨subA s.a (Int.toNat 0) s.c n,Int.toNat (i:Int)-Int.toNat 0,s.c-Int.toNat 0⟩ cs (l.take i):=by
 have e0:subA s.a (Int.toNat 0) s.c n=s.a:=subA_zero _ _ _;rw[e0,show Int.toNat (i:Int)-Int.toNat 0=i from rfl,show s.c-Int.toNat 0=s.c from rfl];have hln:=hr.ln;have hcap:=hr.cap;refine⟨⟨by show i=_;rw[Yc,Yu];omega,fun hp=>?_⟩,by show i<=s.c;omega,fun e=>?_,by rw[Yu];have:=hr.sm;omega⟩
 .obtain⟨b,o,e1,e2⟩:=hr.rw.2 (by rw[Yc] at hp ⊢;rw[Yu] at hp;omega);refine⟨b,o,e1,fun j row hj=>e2 j row ?_⟩;rw[Yd] at hj ⊢;have hjl:j<i:=Classical.byContradiction fun hn=>by
   rw[Yl (by rw[Yu];omega)] at hj;cases hj
  rw[List.getElem?_take_of_lt hjl] at hj;exact hj
 .have:=hr.nil e;exact⟨by show i=0;omega,this.2⟩
theorem do_of {L:List Mch} {k:Int} {c:Cf} {q:Nat × Nat} (hP:ProS L k c.1 c.2) (h:q∈stepsS L k c.1 c.2):doS L k c.1 c.2 (q.1:Int) (q.2:Int)=(0,nxS L c q):=by
 obtain⟨a,b⟩:=q;obtain⟨m,x,gm,gx,hc⟩:=steps_mem h;rw[nxS_of gm gx];dsimp only;rw[doS_at hP gm gx,if_pos hc]
end Go.VC
end

section
namespace Go.VC
open Go.Proofs Go.LexS Go.Maps
abbrev Flt:=Int × Int × Int × Int
def fltC (f:Flt):List Value:=[.int .i64 f.1,.int .i64 f.2.1,.int .i64 f.2.2.1,.int .i64 f.2.2.2]
def flt0:Flt:=(0,0,0,0)
open Classical in
noncomputable def fstI (p:Cf->Prop) (Q:List Cf):Option Nat:=(List.range Q.length).find? fun i=>decide (∃c,Q[i]?=some c/\p c)
open Classical in
theorem fstI_some {p:Cf->Prop} {Q:List Cf} {i:Nat} {c:Cf} (hb:∀(j:Nat) d,j<i->Q[j]?=some d->¬p d) (hc:Q[i]?=some c) (hp:p c):fstI p Q=some i:=by
 unfold fstI;rw[List.find?_range_eq_some];refine⟨by rw[decide_eq_true_eq];exact⟨c,hc,hp⟩,List.mem_range.2 (Ya.1 hc).1,fun j hj=>?_⟩;rw[Bool.not_eq_true',decide_eq_false_iff_not];rintro⟨d,h1,h2⟩;exact hb j d hj h1 h2
theorem fstI_none {p:Cf->Prop} {Q:List Cf} (hb:∀(j:Nat) d,Q[j]?=some d->¬p d):fstI p Q=none:=by
 unfold fstI;rw[List.find?_range_eq_none];intro j hj;rw[Bool.not_eq_true',decide_eq_false_iff_not];rintro⟨d,h1,h2⟩;exact hb j d h1 h2
theorem fstI_no {p:Cf->Prop} {Q:List Cf} (h:fstI p Q=none) {c:Cf} (hc:c∈Q):¬p c:=fun hp=>by
 unfold fstI at h;rw[List.find?_range_eq_none] at h;obtain⟨j,gj⟩:=Yf.1 hc;have:=h j (Ya.1 gj).1;rw[Bool.not_eq_true',decide_eq_false_iff_not] at this;exact this ⟨c,gj,hp⟩
open Classical in
theorem fstI_ex {p:Cf->Prop} {Q:List Cf} {i:Nat} (h:fstI p Q=some i):∃c,Q[i]?=some c/\p c:=by
 unfold fstI at h;rw[List.find?_range_eq_some] at h;have h1:=h.1;rw[decide_eq_true_eq] at h1;exact h1
open Classical in
noncomputable def levS (L:List Mch) (k:Int) (Q:List Cf) (c:Cf):Option (Nat × Nat):=(stepsS L k c.1 c.2).find? fun q=>decide (nxS L c q∉Q)
noncomputable def clsS (L:List Mch) (k:Int) (Q:List Cf):Flt:=match fstI (fun c=>(levS L k Q c).isSome=true) Q with
 | none=>flt0
 | some i=>match (Q[i]?).bind (levS L k Q) with
  | none=>flt0
  | some q=>(5,(i:Int),(q.1:Int),(q.2:Int))
def fltO (r:Int) (o:Option Nat):Flt:=match o with
 | some i=>(r,(i:Int),0,0)
 | none=>flt0
open Classical in
noncomputable def chkV (L:List Mch) (k:Int) (Q:List Cf):Flt × Int:=
 if ¬SysV L then (flt0,1) else if k<1\/4<k\/20000<Q.length then ((1,0,0,0),23) else
 match fstI (fun c=>¬ProS L k c.1 c.2) Q with
 | some i=>((2,(i:Int),0,0),23)
 | none=>match fstI (fun c=>badS L k c.1 c.2≠0) Q with
  | some i=>((3,(i:Int),0,0),23)
  | none=>if (startS L,startB L)∉Q then ((4,0,0,0),23) else if (clsS L k Q).1≠0 then (clsS L k Q,23) else (flt0,0)
structure CtI (h:Heap) (cs:Sl) (C:List Cr):Prop where
 r:RL h 2 cs Cr.cs C
 i:∀c∈C,CfI h c.c1 c.c2 c.S c.B
theorem CtI.ext {h h':Heap} {cs:Sl} {C:List Cr} (hC:CtI h cs C) (E:Ext h h'):CtI h' cs C:=⟨hC.r.ext E,fun c hc=>(hC.i c hc).ext E⟩
def CkI (h:Heap) (xb:Nat) (s:Sl) (k:Int) (cs:Sl) (nb:Nat):Prop:=atC h ⟨xb,0,none⟩ [.slice s.a s.n s.c,.int .i64 k,.slice cs.a cs.n cs.c,.map (some nb)]
theorem CkI.ext {h h':Heap} {xb:Nat} {s:Sl} {k:Int} {cs:Sl} {nb:Nat} (hX:CkI h xb s k cs nb) (E:Ext h h'):CkI h' xb s k cs nb:=atC_ext E hX
theorem cal95:callable Pz 95=true:=by kernel_rfl
theorem cal96:callable Pz 96=true:=by kernel_rfl
theorem limits38 (xb:Nat) (s cs:Sl) (k:Int) (nb:Nat) (h:Heap) (hX:CkI h xb s k cs nb) :
  Fn Pz 38 #[.pointer (some ⟨xb,0,none⟩)] h fun v h'=>(∃f:Flt,v=.agg ⟨fltC f⟩/\f=if k<1\/4<k\/20000<cs.n then (1,0,0,0) else flt0)/\Ext h h':=by
 apply vc38 ⟨xb,0,none⟩;unfold W38 V38a V38b;refine (St.refl h).newb fun h1 hs=>?_;have hX:=hX.ext hs.ext;have fin:∀f:Flt,okAt h1 ⟨h.size,0,none⟩ 4/\∀h3:Heap,h3=hputs h1 ⟨h.size,0,none⟩ 0 (fltC f)->(∃x4:Int,∃x5:Int,∃x6:Int,∃x7:Int,atC h3 ⟨h.size,0,none⟩ [.int .i64 x4,.int .i64 x5,.int .i64 x6,.int .i64 x7]/\((Value.agg ⟨[.int .i64 x4,.int .i64 x5,.int .i64 x6,.int .i64 x7]⟩=.agg ⟨fltC f⟩)/\Ext h h3)):=fun f=>by
  refine hs.put 0 rfl (o:=0) (vs:=fltC f) rfl (show 4<=4 by decide) fun h3 hs=>?_;exact⟨f.1,f.2.1,f.2.2.1,f.2.2.2,hs.at 0 rfl (o:=0) (n:=4) rfl,rfl,hs.ext⟩
 have fin2:∀f:Flt,f=(if k<1\/4<k\/20000<cs.n then (1,0,0,0) else flt0)->okAt h1 ⟨h.size,0,none⟩ 4/\∀h3:Heap,h3=hputs h1 ⟨h.size,0,none⟩ 0 (fltC f)->(∃x4:Int,∃x5:Int,∃x6:Int,∃x7:Int,atC h3 ⟨h.size,0,none⟩ [.int .i64 x4,.int .i64 x5,.int .i64 x6,.int .i64 x7]/\((∃f:Flt,Value.agg ⟨[.int .i64 x4,.int .i64 x5,.int .i64 x6,.int .i64 x7]⟩=.agg ⟨fltC f⟩/\f=if k<1\/4<k\/20000<cs.n then (1,0,0,0) else flt0)/\Ext h h3)):=fun f hf=>by
  refine⟨(fin f).1,fun h3 h=>?_⟩;obtain⟨a,b,c,d,h1,h2,h3⟩:=(fin f).2 h3 h;exact⟨a,b,c,d,h1,⟨f,h2,hf⟩,h3⟩
 refine⟨k,hX.nth 1 rfl,sBi (fun c1=>fin2 (1,0,0,0) (by rw[if_pos (.inl c1)])) (fun c1=>?_)⟩;refine⟨k,hX.nth 1 rfl,sBi (fun c2=>fin2 (1,0,0,0) (by rw[if_pos (.inr (.inl c2))])) (fun c2=>?_)⟩;refine⟨cs,hX.nth 2 rfl,sBi (fun c3=>fin2 (1,0,0,0) (by rw[if_pos (.inr (.inr (by omega)))])) (fun c3=>fin2 flt0 (by rw[if_neg (by omega)]))⟩
theorem index152 (C:List Cr) (cs:Sl) (g:FuncId) (a:Addr) (p:Cf->Prop) (h:Heap) (hC:CtI h cs C) (hg:callable Pz g=true) (hf:∀c∈C,∀h',Ext h h'->Fn Pz g #[.agg ⟨c.cs⟩,.pointer (some a)] h' (RP (p c.cf) h')) :
  Fn Pz 152 #[.slice cs.a cs.n cs.c,.func (.func g) #[] #[.pointer (some a)]] h fun v h'=>(∃k:Int,v=.int .i64 k/\((k=-1/\fstI p (C.map Cr.cf)=none)\/∃i:Nat,k=(i:Int)/\fstI p (C.map Cr.cf)=some i))/\Ext h h':=by
 apply vc152 cs g (some a);unfold W152;have hn:=hC.r.ln;have hm:=hC.r.sm;refine up_loop (n:=cs.n) (fun i h'=>Ext h h'/\∀(j:Nat) d,j<i->(C.map Cr.cf)[j]?=some d->¬p d) ⟨.rfl',fun j d hj=>by omega⟩ ?_;rintro-i h5 hi ⟨E,hq⟩;refine sB_intro (fun c=>?_) (fun c=>?_)
 .replace c:=lt_t c;refine (hC.r.rw.ext E).nbI (by omega) (by omega) fun b6 o7 d gd t=>?_;replace gd:C[i]?=some d:=gd;have gq:(C.map Cr.cf)[i]?=some d.cf:=by rw[Yd,gd];rfl
  refine⟨d.c1,d.c2,t,?_⟩;rw[hg,cond_true];refine (hf d (Yb gd) h5 E).mono ?_;rintro _ h12 ⟨⟨b,rfl,hb⟩,E12⟩;refine⟨b,rfl,sB_intro (fun c2=>?_) (fun c2=>?_)⟩
  .exact⟨⟨_,rfl,.inr ⟨i,rfl,fstI_some hq gq (hb.1 c2)⟩⟩,E.trans E12⟩
  .refine Up.next c (by omega) ⟨E.trans E12,fun j y hj hy=>?_⟩;by_cases e:j=i
   .subst e;rw[gq] at hy;cases hy;exact iff_f hb c2
   .exact hq j y (by omega) hy
 .replace c:=lt_f c;refine⟨⟨_,rfl,.inl ⟨rfl,fstI_none fun j d hj=>hq j d ?_ hj⟩⟩,E⟩;have:=(Ya.1 hj).1;rw[Yc] at this;omega
theorem each94 (C:List Cr) (s cs:Sl) (k r:Int) (xb nb:Nat) (g:FuncId) (a:Addr) (p:Cf->Prop) (h:Heap) (hX:CkI h xb s k cs nb) (hC:CtI h cs C) (hg:callable Pz g=true) (hf:∀c∈C,∀h',Ext h h'->Fn Pz g #[.agg ⟨c.cs⟩,.pointer (some a)] h' (RP (p c.cf) h')) :
  Fn Pz 94 #[.pointer (some ⟨xb,0,none⟩),.int .i64 r,.func (.func g) #[] #[.pointer (some a)]] h fun v h'=>v=.agg ⟨fltC (fltO r (fstI p (C.map Cr.cf)))⟩/\Ext h h':=by
 apply vc94 ⟨xb,0,none⟩ r g (some a);unfold W94 V94a;refine (St.refl h).newb fun h1 hs=>?_;refine⟨cs,(hX.ext hs.ext).nth 2 rfl,?_⟩;refine (index152 C cs g a p h1 (hC.ext hs.ext) hg fun c hc h' E=>hf c hc h' (hs.ext.trans E)).mono ?_;rintro _ h5 ⟨⟨x,rfl,hx⟩,E⟩;have hs:=hs.step E;refine⟨x,rfl,?_⟩;rcases hx with ⟨rfl,e⟩ | ⟨i,rfl,e⟩
 .refine sB_f rfl ?_;refine hs.put 0 rfl (o:=0) (vs:=fltC flt0) rfl (show 4<=4 by decide) fun h6 hs=>?_;exact⟨0,0,0,0,hs.at 0 rfl (o:=0) (n:=4) rfl,by rw[e];rfl,hs.ext⟩
 .refine sB_t (decide_eq_true (by omega)) ?_;refine hs.put 0 rfl (o:=0) (vs:=fltC (r,(i:Int),0,0)) rfl (show 4<=4 by decide) fun h6 hs=>?_;exact⟨r,i,0,0,hs.at 0 rfl (o:=0) (n:=4) rfl,by rw[e];rfl,hs.ext⟩
theorem proper39 (L:List MR) (C:List Cr) (s cs:Sl) (k:Int) (xb nb:Nat) (h:Heap) (hS:SyI h s L) (hX:CkI h xb s k cs nb) (hC:CtI h cs C) :
  Fn Pz 39 #[.pointer (some ⟨xb,0,none⟩)] h fun v h'=>v=.agg ⟨fltC (fltO 2 (fstI (fun c=>¬ProS (L.map MR.m) k c.1 c.2) (C.map Cr.cf)))⟩/\Ext h h':=by
 apply vc39 ⟨xb,0,none⟩;unfold W39;refine (St.refl h).newb fun h1 hs=>?_;refine hs.newb fun h2 hs=>?_;refine⟨some ⟨xb,0,none⟩,hs.rd 1 rfl (i:=0) rfl,?_⟩;refine (each94 C s cs k 2 xb nb 95 ⟨h.size,0,none⟩ (fun c=>¬ProS (L.map MR.m) k c.1 c.2) h2 (hX.ext hs.ext) (hC.ext hs.ext) cal95 fun c hc h' E=>?_).mono ?_
 .have hs:=hs.step E;apply vc95 c.c1 c.c2 ⟨h.size,0,none⟩;unfold W95;refine (St.refl h').newb fun h3 hs3=>?_;have hs:=hs.step hs3.ext;have hX:=hX.ext hs.ext;refine⟨some ⟨xb,0,none⟩,hs.rd 1 rfl (i:=0) rfl,s,hX.hd,some ⟨xb,0,none⟩,hs.rd 1 rfl (i:=0) rfl,k,hX.nth 1 rfl,c.c1,c.c2,hs3.at 0 rfl (o:=0) (n:=2) rfl,?_⟩;refine (proper24 L s k c.c1 c.c2 c.S c.B h3 (hS.ext hs.ext) ((hC.ext hs.ext).i c hc)).mono ?_;rintro _ h14 ⟨⟨b,rfl,hb⟩,E14⟩;refine⟨b,rfl,RP.e ?_ (hs3.ext.trans E14)⟩;cases b with
  | true=>exact iff_of_false (by decide) fun hn=>hn (hb.1 rfl)
  | false=>exact iff_of_true rfl fun hp=>by have:=hb.2 hp;cases this
 .rintro _ h9 ⟨rfl,E⟩;have hs:=hs.step E;refine⟨_,_,_,_,rfl,?_⟩;refine hs.put 0 rfl (o:=0) (vs:=fltC _) rfl (show 4<=4 by decide) fun h10 hs=>?_;exact⟨_,_,_,_,hs.at 0 rfl (o:=0) (n:=4) rfl,rfl,hs.ext⟩
theorem good40 (L:List MR) (C:List Cr) (s cs:Sl) (k:Int) (xb nb:Nat) (h:Heap) (hS:SyI h s L) (hX:CkI h xb s k cs nb) (hC:CtI h cs C) (hP:∀c∈C,ProS (L.map MR.m) k c.S (c.B.map Bx.l)) :
  Fn Pz 40 #[.pointer (some ⟨xb,0,none⟩)] h fun v h'=>v=.agg ⟨fltC (fltO 3 (fstI (fun c=>badS (L.map MR.m) k c.1 c.2≠0) (C.map Cr.cf)))⟩/\Ext h h':=by
 apply vc40 ⟨xb,0,none⟩;unfold W40;refine (St.refl h).newb fun h1 hs=>?_;refine hs.newb fun h2 hs=>?_;refine⟨some ⟨xb,0,none⟩,hs.rd 1 rfl (i:=0) rfl,?_⟩;refine (each94 C s cs k 3 xb nb 96 ⟨h.size,0,none⟩ (fun c=>badS (L.map MR.m) k c.1 c.2≠0) h2 (hX.ext hs.ext) (hC.ext hs.ext) cal96 fun c hc h' E=>?_).mono ?_
 .have hs:=hs.step E;apply vc96 c.c1 c.c2 ⟨h.size,0,none⟩;unfold W96;refine (St.refl h').newb fun h3 hs3=>?_;have hs:=hs.step hs3.ext;have hX:=hX.ext hs.ext;refine⟨some ⟨xb,0,none⟩,hs.rd 1 rfl (i:=0) rfl,s,hX.hd,some ⟨xb,0,none⟩,hs.rd 1 rfl (i:=0) rfl,k,hX.nth 1 rfl,c.c1,c.c2,hs3.at 0 rfl (o:=0) (n:=2) rfl,?_⟩;refine (bad38 L s k c.c1 c.c2 c.S c.B h3 (hS.ext hs.ext) ((hC.ext hs.ext).i c hc)).mono ?_;rintro _ h14 ⟨E14,b,e,rfl,hb,-⟩;obtain⟨rfl,rfl⟩:=hb (hP c hc);exact⟨_,_,rfl,RP.e bne_iff_ne (hs3.ext.trans E14)⟩
 .rintro _ h9 ⟨rfl,E⟩;have hs:=hs.step E;refine⟨_,_,_,_,rfl,?_⟩;refine hs.put 0 rfl (o:=0) (vs:=fltC _) rfl (show 4<=4 by decide) fun h10 hs=>?_;exact⟨_,_,_,_,hs.at 0 rfl (o:=0) (n:=4) rfl,rfl,hs.ext⟩
end Go.VC
end

section
namespace Go.VC
open Go.Proofs Go.LexS Go.Maps
theorem mget_mset {α β:Type} [DecidableEq α] (a x:α) (b:β):∀(l:List (α × β)),mget (mset l a b) x=if x=a then some b else mget l x
 | []=>by
  unfold mset mget;by_cases h:x=a
  .rw[if_pos h];first
    | rw[if_pos h.symm]
    | rw[if_pos h]
  .rw[if_neg h];first
    | rw[if_neg fun e=>h e.symm];rfl
    | rw[if_neg h];rfl
 | (c,y)::r=>by
  have ih:=mget_mset a x b r;rw[mset];split
  .rename_i hc;subst hc;unfold mget;by_cases h:x=c
   .subst h;rw[if_pos rfl,if_pos rfl]
   .rw[if_neg h];first
     | rw[if_neg fun e=>h e.symm,if_neg fun e=>h e.symm]
     | rw[if_neg h,if_neg h]
  .rename_i hc;rw[show mget ((c,y)::mset r a b) x=(if c=x then some y else mget (mset r a b) x) by first | rfl | (unfold mget;by_cases e:x=c;(· rw[if_pos e,if_pos e.symm]);(· rw[if_neg e,if_neg fun q=>e q.symm])),ih];rw[show mget ((c,y)::r) x=(if c=x then some y else mget r x) by first | rfl | (unfold mget;by_cases e:x=c;(· rw[if_pos e,if_pos e.symm]);(· rw[if_neg e,if_neg fun q=>e q.symm]))];by_cases h:c=x
   .subst h;rw[if_pos rfl,if_neg (fun e=>hc (by first | exact e | exact e.symm)),if_pos rfl]
   .rw[if_neg h,if_neg h]
structure KyOk (N:List (ByteArray × Bool)) (Q:List Cf):Prop where
 nd:(N.map Prod.fst).Nodup
 ok:∀q∈N,kokB q.1
 y:∀c∈Q,mget N (kyC c)=some true
 n:∀c,c∉Q->mget N (kyC c)=none
theorem KyOk.nil:KyOk [] []:=⟨.nil,fun q hq=>(by cases hq),fun c hc=>(by cases hc),fun c _=>rfl⟩
theorem KyOk.put {N:List (ByteArray × Bool)} {Q:List Cf} {c:Cf} (h:KyOk N Q) (hc:kokB (kyC c)):KyOk (mset N (kyC c) true) (Q++[c]):=by
 refine⟨mset_nodup _ _ _ h.nd,fun q hq=>?_,fun d hd=>?_,fun d hd=>?_⟩
 .have h1:=(mset_keys (kyC c) true N q.1).1 (List.mem_map_of_mem hq);rcases h1 with h1 | h1
  .obtain⟨q',hq',e⟩:=Yp.1 h1;rw[<-e];exact h.ok q' hq'
  .rw[h1];exact hc
 .rw[mget_mset];by_cases e:kyC d=kyC c
  .rw[if_pos e]
  .rw[if_neg e];rcases Yk.1 hd with hd | hd
   .exact h.y d hd
   .exact absurd (congrArg kyC (Ye.1 hd)) e
 .rw[mget_mset,if_neg (fun e=>hd (List.mem_append_right _ (Ye.2 (kyC_inj e))))];exact h.n d fun hm=>hd (List.mem_append_left _ hm)
theorem key54 (ss sb:Sl) (S:List Int) (B:List Bx) (h:Heap) (hC:CfI h ss sb S B) (hE:EncOk S (B.map Bx.l)) :
  Fn Pz 54 #[.agg ⟨[.slice ss.a ss.n ss.c,.slice sb.a sb.n sb.c]⟩] h fun v h'=>v=.string (kyC (S,B.map Bx.l))/\Ext h h':=by
 apply vc54 ss sb;unfold W54;refine (St.refl h).newb fun h3 hs=>?_;refine⟨ss,sb,hs.at 0 rfl (o:=0) (n:=2) rfl,?_⟩;refine (encode35 ss sb S B h3 (hC.ext hs.ext) hE).mono ?_;rintro _ h8 ⟨b,rfl,hse⟩;refine⟨b,rfl,(cv_str hse encC_byte).mono ?_⟩;rintro _ _ ⟨rfl,rfl⟩;exact⟨_,rfl,rfl,hs.ext.trans hse.ext⟩
theorem kys {N:List (ByteArray × Bool)} {Q:List Cf} (h:KyOk N Q) (c:Cf):∃b:Bool,(mget N (kyC c)=bif b then some true else none)/\(b=true ↔ c∈Q):=by
 by_cases hc:c∈Q
 .exact⟨true,h.y c hc,iff_of_true rfl hc⟩
 .exact⟨false,h.n c hc,iff_of_false (by decide) hc⟩
theorem starts41 (L:List MR) (C:List Cr) (s cs:Sl) (k:Int) (xb nb:Nat) {h0 h:Heap} {A:List It} (hs:St h0 h (.mp nb (([]:List (ByteArray × Bool)).map kyV)::A)) (hS:SyI h0 s L) (hV:SysV (L.map MR.m)) (hX:Sta A fun h=>CkI h xb s k cs nb) (hC:CtI h0 cs C) (hk:1<=k/\k<=4) (hP:∀c∈C,ProS (L.map MR.m) k c.S (c.B.map Bx.l)) :
  Fn Pz 41 #[.pointer (some ⟨xb,0,none⟩)] h fun v h'=>∃(f:Flt) (N:List (ByteArray × Bool)),v=.agg ⟨fltC f⟩/\((f=flt0/\(startS (L.map MR.m),startB (L.map MR.m))∈C.map Cr.cf)\/(f=(4,0,0,0)/\(startS (L.map MR.m),startB (L.map MR.m))∉C.map Cr.cf))/\KyOk N (C.map Cr.cf)/\St h0 h' (.mp nb (N.map kyV)::A):=by
 apply vc41 ⟨xb,0,none⟩;unfold W41 V41a;have hcn:=hC.r.ln;have hcm:=hC.r.sm;refine hs.newb fun h1 hs=>?_;refine⟨cs,(hX.at hs mem2).nth 2 rfl,?_⟩;refine⟨fun x h' μ=>∃(i:Nat) (N:List (ByteArray × Bool)),x=(i:Int)/\μ=C.length-i/\i<=C.length/\KyOk N ((C.take i).map Cr.cf)/\St h0 h' (.blk h.size [.int .i64 0,.int .i64 0,.int .i64 0,.int .i64 0] 45 :: .mp nb (N.map kyV)::A),⟨_,0,[],rfl,rfl,Nat.zero_le _,.nil,hs⟩,?_⟩;clear hs;rintro-_ h7 μ ⟨i,N,rfl,rfl,hi,hN,hs⟩;refine sBi (fun c1=>?_) (fun c1=>?_)
 .obtain⟨d,gd⟩:=get_some (l:=C) (i:=i) (by omega);have hdm:=Yb gd;refine (hC.r.rw.ext hs.ext).nbI (by omega) (by omega) fun b8 o9 d' gd' t=>?_;rw[Ys] at gd';replace gd':C[i]?=some d':=gd';rw[gd] at gd';cases gd';refine⟨d.c1,d.c2,t,?_⟩;refine hs.newput (vs:=[.slice d.c1.a d.c1.n d.c1.c,.slice d.c2.a d.c2.n d.c2.c]) rfl rfl fun h13 hs=>?_;refine⟨some nb,(hX.at hs (memP (P:=[_,_,_]))).nth 3 rfl,d.c1,d.c2,hs.at 0 rfl (o:=0) (n:=2) rfl,?_⟩;refine (key54 d.c1 d.c2 d.S d.B h13 ((hC.ext hs.ext).i d hdm) (enc_pro (hP d hdm))).mono ?_;rintro _ h19 ⟨rfl,E⟩;have hs:=hs.step E;refine⟨_,rfl,E.sm,?_⟩;have hkok:kokB (kyC d.cf):=ky_ok (c:=d.cf) (hP d hdm);refine hs.mput M92 (cv:=Value.bool) (l:=N) (a:=kyC d.cf) 2 rfl hN.ok hN.nd hkok true fun h20 hs=>?_;refine⟨_,(show C.length-(i+1)<C.length-i by omega),i+1,mset N (kyC d.cf) true,by rw[w64 (by omega) (by omega)];omega,rfl,by omega,?_,hs.drop 1⟩;rw[take_snoc gd,Ym];exact hN.put hkok
 .have hie:i=C.length:=by omega
  subst hie;rw[Yye] at hN;refine⟨s,(hX.at hs mem2).hd,?_⟩;refine (start14 L s h7 (hS.ext hs.ext)).mono ?_;rintro _ h27 ⟨ss,sb,S,B,e,A2,rfl,hs2,hM,hv1,-⟩;obtain⟨rfl,rfl,rfl⟩:=hv1 hV;have hs:=hs.join hs2;refine⟨ss,sb,0,rfl,?_⟩;refine hs.newput (vs:=[.slice ss.a ss.n ss.c,.slice sb.a sb.n sb.c]) rfl rfl fun h29 hs=>?_;have hmA:∀i∈A,i∈(.blk h27.size [.slice ss.a ss.n ss.c,.slice sb.a sb.n sb.c] 52::((.blk h.size [.int .i64 0,.int .i64 0,.int .i64 0,.int .i64 0] 45 :: .mp nb (N.map kyV)::A)++A2):List It):=fun i hi=>Yn _ (List.mem_append_left _ (Yn _ (Yn _ hi)));refine⟨some nb,(hX.at hs hmA).nth 3 rfl,ss,sb,hs.at 0 rfl (o:=0) (n:=2) rfl,?_⟩;refine (key54 ss sb _ _ h29 ((hM.mono fun i hi=>Yn _ (List.mem_append_right _ hi)).cfi hs) (enc_pro (xpro_start hV hk))).mono ?_;rintro _ h35 ⟨rfl,E⟩;have hs:=hs.step E;refine⟨_,rfl,E.sm,?_⟩;have hkok:kokB (kyC (startS (L.map MR.m),(List.replicate ((L.map MR.m).length*(L.map MR.m).length) bx0).map Bx.l)):=ky_ok (c:=(_,_)) (xpro_start hV hk);rw[bxs0] at hkok ⊢;obtain⟨b,hb,hbm⟩:=kys hN (startS (L.map MR.m),startB (L.map MR.m));refine hs.mlook M92 (cv:=Value.bool) (l:=N) (a:=kyC (startS (L.map MR.m),startB (L.map MR.m))) 2 rfl hN.ok hN.nd hkok false ?_;refine⟨b,by rw[hb];cases b<;>rfl,sB_intro (fun c2=>?_) (fun c2=>?_)⟩
  .refine hs.put 1 rfl (o:=0) (vs:=fltC (4,0,0,0)) rfl (show 4<=4 by decide) fun h39 hs=>?_;refine⟨4,0,0,0,hs.at 1 rfl (o:=0) (n:=4) rfl,(4,0,0,0),N,rfl,.inr ⟨rfl,fun hm=>?_⟩,hN,hs.sub (.cons _ (.cons _ (List.sublist_append_left _ _)))⟩;rw[hbm.2 hm] at c2;cases c2
  .refine hs.put 1 rfl (o:=0) (vs:=fltC flt0) rfl (show 4<=4 by decide) fun h44 hs=>?_;exact⟨0,0,0,0,hs.at 1 rfl (o:=0) (n:=4) rfl,flt0,N,rfl,.inl ⟨rfl,hbm.1 (by cases b with | true=>rfl | false=>cases c2)⟩,hN,hs.sub (.cons _ (.cons _ (List.sublist_append_left _ _)))⟩
theorem find_first {α:Type} {P:α->Bool}:∀ {l:List α} {j:Nat} {x:α},l[j]?=some x->P x=true->(∀(t:Nat) y,t<j->l[t]?=some y->P y=false)->l.find? P=some x
 | [],j,x,h,_,_=>by cases h
 | a::r,0,x,h,hp,_=>by cases h;rw[List.find?_cons_of_pos hp]
 | a::r,j+1,x,h,hp,hb=>by
  rw[List.find?_cons_of_neg (by rw[hb 0 a (by omega) rfl];decide)];exact find_first (l:=r) (j:=j) h hp fun t y ht hy=>hb (t+1) y (by omega) hy
theorem lev_none {L:List Mch} {k:Int} {Q:List Cf} {c:Cf} (h:∀q∈stepsS L k c.1 c.2,nxS L c q∈Q):levS L k Q c=none:=by
 unfold levS;rw[List.find?_eq_none];intro q hq;rw[decide_eq_true_eq];exact fun hn=>hn (h q hq)
theorem lev_some {L:List Mch} {k:Int} {Q:List Cf} {c:Cf} {j:Nat} {q:Nat × Nat} (hj:(stepsS L k c.1 c.2)[j]?=some q) (hq:nxS L c q∉Q) (hb:∀(t:Nat) y,t<j->(stepsS L k c.1 c.2)[t]?=some y->nxS L c y∈Q):levS L k Q c=some q:=by
 unfold levS;refine find_first hj (by rw[decide_eq_true_eq];exact hq) fun t y ht hy=>?_;rw[decide_eq_false_iff_not];exact fun hn=>hn (hb t y ht hy)
theorem cls_some {L:List Mch} {k:Int} {Q:List Cf} {i:Nat} {c:Cf} {q:Nat × Nat} (hb:∀(j:Nat) d,j<i->Q[j]?=some d->levS L k Q d=none) (hc:Q[i]?=some c) (hq:levS L k Q c=some q):clsS L k Q=(5,(i:Int),(q.1:Int),(q.2:Int)):=by
 unfold clsS;rw[fstI_some (fun j d hj hd=>by rw[hb j d hj hd];decide) hc (by rw[hq];rfl)];dsimp only;rw[hc];dsimp only[Option.bind];rw[hq]
theorem cls_none {L:List Mch} {k:Int} {Q:List Cf} (hb:∀(j:Nat) d,Q[j]?=some d->levS L k Q d=none):clsS L k Q=flt0:=by
 unfold clsS;rw[fstI_none fun j d hd=>by rw[hb j d hd];decide]
theorem closed42 (L:List MR) (C:List Cr) (s cs:Sl) (k:Int) (xb nb:Nat) (N:List (ByteArray × Bool)) {h0 h:Heap} {A:List It} (hs:St h0 h (.mp nb (N.map kyV)::A)) (hN:KyOk N (C.map Cr.cf)) (hS:SyI h0 s L) (hX:Sta A fun h=>CkI h xb s k cs nb) (hC:CtI h0 cs C) (hP:∀c∈C,ProS (L.map MR.m) k c.S (c.B.map Bx.l)) :
  Fn Pz 42 #[.pointer (some ⟨xb,0,none⟩)] h fun v h'=>v=.agg ⟨fltC (clsS (L.map MR.m) k (C.map Cr.cf))⟩/\St h0 h' (.mp nb (N.map kyV)::A):=by
 apply vc42 ⟨xb,0,none⟩;unfold W42 V42a V42b;have hcn:=hC.r.ln;have hcm:=hC.r.sm;refine hs.newb fun h1 hs=>?_;refine hs.mmake 104 fun h4 E4 hs=>⟨_,rfl,?_⟩;refine⟨cs,(hX.at hs (memP (P:=[_,_,_]))).nth 2 rfl,?_⟩;refine⟨fun x h' μ=>∃(i:Nat) (D:List (ByteArray × Bool)),x=(i:Int)/\μ=C.length-i/\i<=C.length/\KyOk D ((C.take i).map Cr.cf)/\(∀(j:Nat) d,j<i->(C.map Cr.cf)[j]?=some d->levS (L.map MR.m) k (C.map Cr.cf) d=none) /\
  St h0 h' (.mp h1.size (D.map kyV) :: .blk h.size [.int .i64 0,.int .i64 0,.int .i64 0,.int .i64 0] 45 :: .mp nb (N.map kyV)::A),⟨_,0,[],rfl,rfl,Nat.zero_le _,.nil,fun j d hj=>by omega,hs⟩,?_⟩
 clear hs;rintro-_ h10 μ ⟨i,D,rfl,rfl,hi,hD,hq,hs⟩;refine sBi (fun c1=>?_) (fun c1=>?_)
 .obtain⟨d,gd⟩:=get_some (l:=C) (i:=i) (by omega);have hdm:=Yb gd;have gq:(C.map Cr.cf)[i]?=some d.cf:=by rw[Yd,gd];rfl
  have hpd:=hP d hdm;refine (hC.r.rw.ext hs.ext).nbI (by omega) (by omega) fun b8 o9 d' gd' t=>?_;rw[Ys] at gd';replace gd':C[i]?=some d':=gd';rw[gd] at gd';cases gd';refine⟨d.c1,d.c2,t,?_⟩;refine hs.newput (vs:=[.slice d.c1.a d.c1.n d.c1.c,.slice d.c2.a d.c2.n d.c2.c]) rfl rfl fun h16 hs=>?_;refine⟨d.c1,d.c2,hs.at 0 rfl (o:=0) (n:=2) rfl,?_⟩;refine (key54 d.c1 d.c2 d.S d.B h16 ((hC.ext hs.ext).i d hdm) (enc_pro hpd)).mono ?_;rintro _ h21 ⟨rfl,E⟩;have hs:=hs.step E;refine⟨_,rfl,?_⟩;have hkok:kokB (kyC d.cf):=ky_ok (c:=d.cf) hpd;obtain⟨b,hb,hbm⟩:=kys hD d.cf;refine hs.mlook M92 (cv:=Value.bool) (l:=D) (a:=kyC d.cf) 1 rfl hD.ok hD.nd hkok false ?_;have hnext:∀ {D':List (ByteArray × Bool)},(i+1<=C.length)->True:=fun _=>trivial;refine⟨b,by rw[hb];cases b<;>rfl,sB_intro (fun c2=>?_) (fun c2=>?_)⟩
  .have hm:=hbm.1 c2;refine⟨_,(show C.length-(i+1)<C.length-i by omega),i+1,D,by rw[w64 (by omega) (by omega)];omega,rfl,by omega,?_,fun j e hj he=>?_,hs.drop 1⟩
   .rw[take_snoc gd,Ym];refine⟨hD.nd,hD.ok,fun c hc=>?_,fun c hc=>hD.n c fun h=>hc (List.mem_append_left _ h)⟩;rcases Yk.1 hc with hc | hc
    .exact hD.y c hc
    .rw[Ye.1 hc];exact hD.y _ hm
   .by_cases e2:j=i
    .subst e2;rw[gq] at he;cases he;obtain⟨c',hc',e3⟩:=Yp.1 hm;obtain⟨t,gt⟩:=Yf.1 hc';have htl:=(Ya.1 gt).1;rw[Yu] at htl;rw[List.getElem?_take_of_lt (by omega)] at gt;exact hq t d.cf (by omega) (by rw[Yd,gt];exact congrArg some e3)
    .exact hq j e (by omega) he
  .refine hs.mput M92 (cv:=Value.bool) (l:=D) (a:=kyC d.cf) 1 rfl hD.ok hD.nd hkok true fun h26 hs=>?_;have hD2:=hD.put (c:=d.cf) hkok;generalize mset D (kyC d.cf) true=D2 at *;have hX26:=hX.at hs (memP (P:=[_,_,_,_]));refine⟨s,hX26.hd,k,hX26.nth 1 rfl,d.c1,d.c2,hs.at 0 rfl (o:=0) (n:=2) rfl,?_⟩;refine (steps16 L s k d.c1 d.c2 d.S d.B h26 (hS.ext hs.ext) ((hC.ext hs.ext).i d hdm)).mono ?_;rintro _ h34 ⟨E34,r,e,X,rfl,hr,hpos,-⟩;obtain⟨rfl,hXe⟩:=hpos hpd;have hs:=hs.step E34;have hrn:=hr.ln;have hrm:=hr.sm;refine⟨r,0,rfl,?_⟩;have hs34:=hs;refine⟨fun x h' μ=>∃j:Nat,x=(j:Int)/\μ=X.length-j/\j<=X.length/\(∀(t:Nat) y,t<j->(stepsS (L.map MR.m) k d.cf.1 d.cf.2)[t]?=some y->nxS (L.map MR.m) d.cf y∈C.map Cr.cf) /\
    Ext h34 h'/\St h0 h' ([.blk h10.size [.slice d.c1.a d.c1.n d.c1.c,.slice d.c2.a d.c2.n d.c2.c] 52,.mp h1.size (D2.map kyV),.blk h.size [.int .i64 0,.int .i64 0,.int .i64 0,.int .i64 0] 45,.mp nb (N.map kyV)]++A),⟨_,0,rfl,rfl,Nat.zero_le _,fun t y ht=>by omega,.rfl',hs⟩,?_⟩
   clear hs hs34;rintro-_ h39 μ2 ⟨j,rfl,rfl,hj,hst,E39,hs⟩;refine sBi (fun c3=>?_) (fun c3=>?_)
   .obtain⟨⟨a,b0⟩,gz'⟩:=get_some (l:=X) (i:=j) (by omega);have gz:(stepsS (L.map MR.m) k d.cf.1 d.cf.2)[j]?=some (a,b0):=by rw[hXe] at gz';exact gz'
    have hzm:=Yb gz;obtain⟨-,hpn⟩:=stp_of (c:=d.cf) hpd hzm;refine (hr.rw.ext E39).nbI (by omega) (by omega) fun b83 o84 z gz2 t=>?_;rw[Ys,gz'] at gz2;cases gz2;refine⟨(a:Int),(b0:Int),t,?_⟩;refine (St.refl h39).newput (vs:=[.int .i64 (a:Int),.int .i64 (b0:Int)]) rfl rfl fun h45 hl=>?_;have hX45:=hX.at (hs.step hl.ext) (memP (P:=[_,_,_,_]));refine⟨s,hX45.hd,k,hX45.nth 1 rfl,d.c1,d.c2,(hs.step hl.ext).at 0 rfl (o:=0) (n:=2) rfl,(a:Int),(b0:Int),hl.at 0 rfl (o:=0) (n:=2) rfl,?_⟩;have hdo2:doS (L.map MR.m) k d.S (d.B.map Bx.l) (a:Int) (b0:Int)=(0,nxS (L.map MR.m) d.cf (a,b0)):=do_of (c:=d.cf) (q:=(a,b0)) hpd hzm;have e2:=fun h' (E:Ext h39 h')=>do27 L s k d.c1 d.c2 d.S d.B (a:Int) (b0:Int) h' (hS.ext (hs.step E).ext) ((hC.ext (hs.step E).ext).i d hdm);rw[hdo2] at e2;refine And.intro ?_ ?_;refine (e2 h45 hl.ext).mono ?_;rintro _ h56 ⟨ts,tb,T,A3,rfl,hT,hs7,hM3⟩;dsimp only at hT hM3;have hl:=hl.join hs7;refine⟨ts,tb,_,rfl,?_⟩;refine hl.newbE fun h57 E57 hl=>⟨E57.sm,?_⟩;rotate_left;refine hl.newbE fun h76 E76 hl=>⟨E76.sm,?_⟩;refine (e2 h76 hl.ext).mono ?_;rintro _ h81 ⟨ts,tb,T,A3,rfl,hT,hs7,hM3⟩;dsimp only at hT hM3;have hl:=hl.join hs7;refine⟨ts,tb,_,rfl,?_⟩;all_goals
     refine hl.put 0 rfl (o:=0) (vs:=[.slice ts.a ts.n ts.c,.slice tb.a tb.n tb.c]) rfl (show 2<=2 by decide) fun h58 hl=>?_;have hs:=hs.step hl.ext;refine⟨some nb,(hX.at hs (memP (P:=[_,_,_,_]))).nth 3 rfl,ts,tb,hl.at 0 rfl (o:=0) (n:=2) rfl,?_⟩;refine (key54 ts tb _ T h58 ((hM3.mono mem2).cfi hl) (by rw[hT];exact enc_pro hpn)).mono ?_;rintro _ h64 ⟨rfl,E64⟩;have hs:=hs.step E64;have hl:=hl.step E64;refine⟨_,rfl,E64.sm,?_⟩;obtain⟨b,hb,hbm⟩:=kys hN (nxS (L.map MR.m) d.cf (a,b0));rw[hT];refine hs.mlook M92 (cv:=Value.bool) (l:=N) (a:=kyC (nxS (L.map MR.m) d.cf (a,b0))) 3 rfl hN.ok hN.nd (ky_ok hpn) false ?_;refine⟨b,by rw[hb];cases b<;>rfl,sB_intro (fun c4=>?_) (fun c4=>?_)⟩
     .have hnm:nxS (L.map MR.m) d.cf (a,b0)∉C.map Cr.cf:=fun hm=>by rw[hbm.2 hm] at c4;cases c4
      have hlv:=lev_some (Q:=C.map Cr.cf) (c:=d.cf) gz hnm hst;refine⟨(a:Int),(b0:Int),hl.at 1 rfl (o:=0) (n:=2) rfl,?_⟩;refine hs.put 2 rfl (o:=0) (vs:=fltC (5,(i:Int),(a:Int),(b0:Int))) rfl (show 4<=4 by decide) fun h70 hs=>?_;refine⟨5,i,a,b0,hs.at 2 rfl (o:=0) (n:=4) rfl,by rw[cls_some hq gq hlv];rfl,hs.drop 3⟩
     .have hbt:b=true:=by cases b with | true=>rfl | false=>cases c4
      refine⟨_,(show X.length-(j+1)<X.length-j by omega),j+1,by rw[w64 (by omega) (by omega)];omega,rfl,by omega,?_,E39.trans hl.ext,hs⟩;intro t y ht hy;by_cases e:t=j
      .subst e;rw[gz] at hy;cases hy;exact hbm.1 hbt
      .exact hst t y (by omega) hy
   .have hlv:levS (L.map MR.m) k (C.map Cr.cf) d.cf=none:=lev_none fun q hqm=>by
     obtain⟨t,gt⟩:=Yf.1 hqm;refine hst t q ?_ gt;have h1:=(Ya.1 gt).1;rw[show stepsS (L.map MR.m) k d.cf.1 d.cf.2=X from hXe.symm] at h1;omega
    refine⟨_,(show C.length-(i+1)<C.length-i by omega),i+1,D2,by rw[w64 (by omega) (by omega)];omega,rfl,by omega,?_,fun t e ht he=>?_,hs.drop 1⟩
    .rw[take_snoc gd,Ym];exact hD2
    .by_cases e2:t=i
     .subst e2;rw[gq] at he;cases he;exact hlv
     .exact hq t e (by omega) he
 .have hie:i=C.length:=by omega
  subst hie;refine hs.put 1 rfl (o:=0) (vs:=fltC flt0) rfl (show 4<=4 by decide) fun h101 hs=>?_;refine⟨0,0,0,0,hs.at 1 rfl (o:=0) (n:=4) rfl,?_,hs.drop 2⟩;rw[cls_none fun j d hd=>hq j d (by have:=(Ya.1 hd).1;rw[Yc] at this;exact this) hd];rfl
theorem cal38:callable Pz 38=true:=by kernel_rfl
theorem cal39:callable Pz 39=true:=by kernel_rfl
theorem cal40:callable Pz 40=true:=by kernel_rfl
theorem cal41:callable Pz 41=true:=by kernel_rfl
theorem cal42:callable Pz 42=true:=by kernel_rfl
structure ChkP (L:List Mch) (k:Int) (Q:List Cf) (i:Nat):Prop where
 a:1<=i->¬(k<1\/4<k\/20000<Q.length)
 b:2<=i->fstI (fun c=>¬ProS L k c.1 c.2) Q=none
 c:3<=i->fstI (fun c=>badS L k c.1 c.2≠0) Q=none
 d:4<=i->(startS L,startB L)∈Q
 e:5<=i->(clsS L k Q).1=0
theorem chk_1 {L:List Mch} {k:Int} {Q:List Cf} (hV:SysV L) (h:k<1\/4<k\/20000<Q.length):chkV L k Q=((1,0,0,0),23):=by
 unfold chkV;rw[if_neg (fun h=>h hV),if_pos h]
theorem chk_2 {L:List Mch} {k:Int} {Q:List Cf} {i:Nat} (hV:SysV L) (hP:ChkP L k Q 1) (h:fstI (fun c=>¬ProS L k c.1 c.2) Q=some i):chkV L k Q=((2,(i:Int),0,0),23):=by
 unfold chkV;rw[if_neg (fun h=>h hV),if_neg (hP.a (by omega)),h]
theorem chk_3 {L:List Mch} {k:Int} {Q:List Cf} {i:Nat} (hV:SysV L) (hP:ChkP L k Q 2) (h:fstI (fun c=>badS L k c.1 c.2≠0) Q=some i):chkV L k Q=((3,(i:Int),0,0),23):=by
 unfold chkV;rw[if_neg (fun h=>h hV),if_neg (hP.a (by omega)),hP.b (by omega)];dsimp only;rw[h]
theorem chk_4 {L:List Mch} {k:Int} {Q:List Cf} (hV:SysV L) (hP:ChkP L k Q 3) (h:(startS L,startB L)∉Q):chkV L k Q=((4,0,0,0),23):=by
 unfold chkV;rw[if_neg (fun h=>h hV),if_neg (hP.a (by omega)),hP.b (by omega)];dsimp only;rw[hP.c (by omega)];dsimp only;rw[if_pos h]
theorem chk_5 {L:List Mch} {k:Int} {Q:List Cf} (hV:SysV L) (hP:ChkP L k Q 4) (h:(clsS L k Q).1≠0):chkV L k Q=(clsS L k Q,23):=by
 unfold chkV;rw[if_neg (fun h=>h hV),if_neg (hP.a (by omega)),hP.b (by omega)];dsimp only;rw[hP.c (by omega)];dsimp only;rw[if_neg (fun hn=>hn (hP.d (by omega))),if_pos h]
theorem chk_0 {L:List Mch} {k:Int} {Q:List Cf} (hV:SysV L) (hP:ChkP L k Q 5):chkV L k Q=(flt0,0):=by
 unfold chkV;rw[if_neg (fun h=>h hV),if_neg (hP.a (by omega)),hP.b (by omega)];dsimp only;rw[hP.c (by omega)];dsimp only;rw[if_neg (fun hn=>hn (hP.d (by omega))),if_neg (fun hn=>hn (hP.e (by omega)))]
def ChkR (o:Flt × Int) (h:Heap) (v:Value) (h':Heap):Prop:=v=.tuple ⟨[.agg ⟨fltC o.1⟩,.int .i64 o.2]⟩/\Ext h h'
theorem pro_all {L:List Mch} {k:Int} {C:List Cr} (h:fstI (fun c=>¬ProS L k c.1 c.2) (C.map Cr.cf)=none):∀c∈C,ProS L k c.S (c.B.map Bx.l):=fun c hc=>Classical.not_not.1 (fstI_no h (List.mem_map_of_mem (f:=Cr.cf) hc))
theorem check15 (L:List MR) (C:List Cr) (s cs:Sl) (k:Int) (h:Heap) (hS:SyI h s L) (hC:CtI h cs C) :
  Fn Pz 15 #[.slice s.a s.n s.c,.agg ⟨[.int .i64 k,.slice cs.a cs.n cs.c]⟩] h (ChkR (chkV (L.map MR.m) k (C.map Cr.cf)) h):=by
 apply vc15 s k cs;unfold W15 V15a;have hcn:=hC.r.ln;have hQl:(C.map Cr.cf).length=cs.n:=by rw[Yc];exact hcn.symm
 refine (St.refl h).newb fun h3 hs=>?_;refine hs.newb fun h4 hs=>?_;refine (valid22 L s h4 (hS.ext hs.ext)).mono ?_;rintro _ h7 ⟨⟨b,rfl,hb⟩,E7⟩;have hs:=hs.step E7;refine⟨b,rfl,sB_intro (fun c0=>?_) (fun c0=>?_)⟩
 .have hn:¬SysV (L.map MR.m):=fun hp=>by rw[hb.2 hp] at c0;cases c0
  refine hs.put 0 rfl (o:=0) (vs:=fltC flt0) rfl (show 4<=4 by decide) fun h8 hs=>?_;refine⟨0,0,0,0,hs.at 0 rfl (o:=0) (n:=4) rfl,?_,hs.ext⟩;have:chkV (L.map MR.m) k (C.map Cr.cf)=(flt0,1):=by unfold chkV;rw[if_pos hn]
  rw[this];rfl
 have hV:=hb.1 (by cases b with | true=>rfl | false=>cases c0);refine⟨k,cs,hs.at 1 rfl (o:=0) (n:=2) rfl,?_⟩;refine hs.mmake 104 fun h17 E17 hs=>⟨_,rfl,?_⟩;refine hs.newb fun h18 hs=>?_;obtain⟨xb,hxb⟩:∃xb,xb=h17.size:=⟨_,rfl⟩;rw[<-hxb] at hs ⊢;have hX:∀ {A:List It},Sta (.blk xb [.slice s.a s.n s.c,.int .i64 k,.slice cs.a cs.n cs.c,.map (some h7.size)] 106::A) fun h=>CkI h xb s k cs h7.size:=fun {A} h0 hh A' hA hs=>hs.atm (hA _ Yx);have hs:St h h18 (.mp h7.size (([]:List (ByteArray × Bool)).map kyV) :: .blk xb [.slice s.a s.n s.c,.int .i64 k,.slice cs.a cs.n cs.c,.map (some h7.size)] 106 :: .blk h3.size [.int .i64 0,.int .i64 0,.int .i64 0,.int .i64 0] 45 :: .blk h.size [.int .i64 k,.slice cs.a cs.n cs.c] 31::[]):=hs.perm (List.Perm.swap _ _ _);refine⟨fun x h' μ=>∃(i:Nat) (N:List (ByteArray × Bool)),x=(i:Int)/\μ=5-i/\i<=5/\ChkP (L.map MR.m) k (C.map Cr.cf) i/\(i<=3->N=[])/\(4<=i->KyOk N (C.map Cr.cf)) /\
  St h h' (.mp h7.size (N.map kyV) :: .blk xb [.slice s.a s.n s.c,.int .i64 k,.slice cs.a cs.n cs.c,.map (some h7.size)] 106 :: .blk h3.size [.int .i64 0,.int .i64 0,.int .i64 0,.int .i64 0] 45 :: .blk h.size [.int .i64 k,.slice cs.a cs.n cs.c] 31::[]),⟨_,0,[],rfl,rfl,Nat.zero_le _,⟨fun h=>by omega,fun h=>by omega,fun h=>by omega,fun h=>by omega,fun h=>by omega⟩,fun _=>rfl,fun h=>by omega,hs⟩,?_⟩
 clear hs;rintro-_ h23 μ ⟨i,N,rfl,rfl,hi,hP,hN0,hN4,hs⟩;refine sBi (fun c1=>⟨⟨by omega,by omega⟩,?_⟩) (fun c1=>?_);rotate_left
 .have hie:i=5:=by omega
  subst hie;refine hs.put 2 rfl (o:=0) (vs:=fltC flt0) rfl (show 4<=4 by decide) fun h47 hs=>?_;exact⟨0,0,0,0,hs.at 2 rfl (o:=0) (n:=4) rfl,by rw[chk_0 hV hP];rfl,hs.ext⟩
 have hXh:=(hX (A:=[])).at hs fun i hi=>Yn _ (by rw[Ye.1 hi];exact Yx);rcases (by omega:i=0\/i=1\/i=2\/i=3\/i=4) with rfl | rfl | rfl | rfl | rfl
 .refine⟨_,rfl,?_⟩;show bif callable Pz 38 then _ else _
  rw[cal38,cond_true];refine (limits38 xb s cs k h7.size h23 hXh).mono ?_;rintro _ h33 ⟨⟨f,rfl,hf⟩,E⟩;have hs:=hs.step E;rw[<-hQl] at hf;have hbad:f.1≠0->chkV (L.map MR.m) k (C.map Cr.cf)=(f,23):=fun hn=>by
   by_cases hl:k<1\/4<k\/20000<(C.map Cr.cf).length
   .rw[chk_1 hV hl,hf,if_pos hl]
   .rw[hf,if_neg hl] at hn;exact absurd rfl hn
  have hgood:f.1=0->ChkP (L.map MR.m) k (C.map Cr.cf) (0+1)/\((0+1<=3->N=[])/\(4<=0+1->KyOk N (C.map Cr.cf))):=fun hn=>by
   refine⟨⟨fun _ hl=>?_,fun h=>by omega,fun h=>by omega,fun h=>by omega,fun h=>by omega⟩,fun _=>hN0 (by omega),fun h=>by omega⟩;rw[hf,if_pos hl] at hn;exact absurd hn (by decide)
  refine⟨_,_,_,_,rfl,?_⟩;refine hs.newput (vs:=fltC f) rfl rfl fun h35 hs=>?_;refine⟨f.1,hs.rd 0 rfl (i:=0) rfl,sBn (fun c2=>?_) (fun c2=>?_)⟩
  .refine⟨f.1,f.2.1,f.2.2.1,f.2.2.2,hs.at 0 rfl (o:=0) (n:=4) rfl,?_⟩;refine hs.put 3 rfl (o:=0) (vs:=fltC f) rfl (show 4<=4 by decide) fun h41 hs=>?_;exact⟨f.1,f.2.1,f.2.2.1,f.2.2.2,hs.at 3 rfl (o:=0) (n:=4) rfl,by rw[hbad c2];rfl,hs.ext⟩
  .obtain⟨hP',hN'⟩:=hgood c2;exact⟨_,(show 5-(0+1)<5-0 by omega),0+1,_,by rw[w64 (by omega) (by omega)];omega,rfl,by omega,hP',hN'.1,hN'.2,hs.drop 1⟩
 .refine⟨_,rfl,?_⟩;show bif callable Pz 39 then _ else _
  rw[cal39,cond_true];refine (proper39 L C s cs k xb h7.size h23 (hS.ext hs.ext) hXh (hC.ext hs.ext)).mono ?_;rintro _ h33 ⟨rfl,E⟩;have hs:=hs.step E;obtain⟨f,hf⟩:∃f,f=fltO 2 (fstI (fun c=>¬ProS (L.map MR.m) k c.1 c.2) (C.map Cr.cf)):=⟨_,rfl⟩;rw[<-hf];have hbad:f.1≠0->chkV (L.map MR.m) k (C.map Cr.cf)=(f,23):=fun hn=>by
   cases ho:fstI (fun c=>¬ProS (L.map MR.m) k c.1 c.2) (C.map Cr.cf) with
   | none=>rw[hf,ho] at hn;exact absurd rfl hn
   | some i=>rw[chk_2 hV hP ho,hf,ho];rfl
  have hgood:f.1=0->ChkP (L.map MR.m) k (C.map Cr.cf) (1+1)/\((1+1<=3->N=[])/\(4<=1+1->KyOk N (C.map Cr.cf))):=fun hn=>by
   refine⟨⟨fun _=>hP.a (by omega),fun _=>?_,fun h=>by omega,fun h=>by omega,fun h=>by omega⟩,fun _=>hN0 (by omega),fun h=>by omega⟩;cases ho:fstI (fun c=>¬ProS (L.map MR.m) k c.1 c.2) (C.map Cr.cf) with
   | none=>rfl
   | some i=>rw[hf,ho] at hn;exact absurd hn (show ¬((2:Int)=0) by decide)
  refine⟨_,_,_,_,rfl,?_⟩;refine hs.newput (vs:=fltC f) rfl rfl fun h35 hs=>?_;refine⟨f.1,hs.rd 0 rfl (i:=0) rfl,sBn (fun c2=>?_) (fun c2=>?_)⟩
  .refine⟨f.1,f.2.1,f.2.2.1,f.2.2.2,hs.at 0 rfl (o:=0) (n:=4) rfl,?_⟩;refine hs.put 3 rfl (o:=0) (vs:=fltC f) rfl (show 4<=4 by decide) fun h41 hs=>?_;exact⟨f.1,f.2.1,f.2.2.1,f.2.2.2,hs.at 3 rfl (o:=0) (n:=4) rfl,by rw[hbad c2];rfl,hs.ext⟩
  .obtain⟨hP',hN'⟩:=hgood c2;exact⟨_,(show 5-(1+1)<5-1 by omega),1+1,_,by rw[w64 (by omega) (by omega)];omega,rfl,by omega,hP',hN'.1,hN'.2,hs.drop 1⟩
 .refine⟨_,rfl,?_⟩;show bif callable Pz 40 then _ else _
  rw[cal40,cond_true];have hpa:=pro_all (hP.b (by omega));refine (good40 L C s cs k xb h7.size h23 (hS.ext hs.ext) hXh (hC.ext hs.ext) hpa).mono ?_;rintro _ h33 ⟨rfl,E⟩;have hs:=hs.step E;obtain⟨f,hf⟩:∃f,f=fltO 3 (fstI (fun c=>badS (L.map MR.m) k c.1 c.2≠0) (C.map Cr.cf)):=⟨_,rfl⟩;rw[<-hf];have hbad:f.1≠0->chkV (L.map MR.m) k (C.map Cr.cf)=(f,23):=fun hn=>by
   cases ho:fstI (fun c=>badS (L.map MR.m) k c.1 c.2≠0) (C.map Cr.cf) with
   | none=>rw[hf,ho] at hn;exact absurd rfl hn
   | some i=>rw[chk_3 hV hP ho,hf,ho];rfl
  have hgood:f.1=0->ChkP (L.map MR.m) k (C.map Cr.cf) (2+1)/\((2+1<=3->N=[])/\(4<=2+1->KyOk N (C.map Cr.cf))):=fun hn=>by
   refine⟨⟨fun _=>hP.a (by omega),fun _=>hP.b (by omega),fun _=>?_,fun h=>by omega,fun h=>by omega⟩,fun _=>hN0 (by omega),fun h=>by omega⟩;cases ho:fstI (fun c=>badS (L.map MR.m) k c.1 c.2≠0) (C.map Cr.cf) with
   | none=>rfl
   | some i=>rw[hf,ho] at hn;exact absurd hn (show ¬((3:Int)=0) by decide)
  refine⟨_,_,_,_,rfl,?_⟩;refine hs.newput (vs:=fltC f) rfl rfl fun h35 hs=>?_;refine⟨f.1,hs.rd 0 rfl (i:=0) rfl,sBn (fun c2=>?_) (fun c2=>?_)⟩
  .refine⟨f.1,f.2.1,f.2.2.1,f.2.2.2,hs.at 0 rfl (o:=0) (n:=4) rfl,?_⟩;refine hs.put 3 rfl (o:=0) (vs:=fltC f) rfl (show 4<=4 by decide) fun h41 hs=>?_;exact⟨f.1,f.2.1,f.2.2.1,f.2.2.2,hs.at 3 rfl (o:=0) (n:=4) rfl,by rw[hbad c2];rfl,hs.ext⟩
  .obtain⟨hP',hN'⟩:=hgood c2;exact⟨_,(show 5-(2+1)<5-2 by omega),2+1,_,by rw[w64 (by omega) (by omega)];omega,rfl,by omega,hP',hN'.1,hN'.2,hs.drop 1⟩
 .refine⟨_,rfl,?_⟩;show bif callable Pz 41 then _ else _
  rw[cal41,cond_true];have hpa:=pro_all (hP.b (by omega));have hka:=hP.a (by omega);have hN:=hN0 (by omega);subst hN;refine (starts41 L C s cs k xb h7.size hs hS hV hX hC ⟨by omega,by omega⟩ hpa).mono ?_;rintro _ h33 ⟨f,N2,rfl,hf,hN2,hs⟩;have hbad:f.1≠0->chkV (L.map MR.m) k (C.map Cr.cf)=(f,23):=fun hn=>by
   rcases hf with ⟨rfl,hm⟩ | ⟨rfl,hm⟩
   .exact absurd rfl hn
   .exact chk_4 hV hP hm
  have hgood:f.1=0->ChkP (L.map MR.m) k (C.map Cr.cf) (3+1)/\((3+1<=3->N2=[])/\(4<=3+1->KyOk N2 (C.map Cr.cf))):=fun hn=>by
   refine⟨⟨fun _=>hP.a (by omega),fun _=>hP.b (by omega),fun _=>hP.c (by omega),fun _=>?_,fun h=>by omega⟩,fun h=>by omega,fun _=>hN2⟩;rcases hf with ⟨rfl,hm⟩ | ⟨rfl,hm⟩
   .exact hm
   .exact absurd hn (by decide)
  refine⟨_,_,_,_,rfl,?_⟩;refine hs.newput (vs:=fltC f) rfl rfl fun h35 hs=>?_;refine⟨f.1,hs.rd 0 rfl (i:=0) rfl,sBn (fun c2=>?_) (fun c2=>?_)⟩
  .refine⟨f.1,f.2.1,f.2.2.1,f.2.2.2,hs.at 0 rfl (o:=0) (n:=4) rfl,?_⟩;refine hs.put 3 rfl (o:=0) (vs:=fltC f) rfl (show 4<=4 by decide) fun h41 hs=>?_;exact⟨f.1,f.2.1,f.2.2.1,f.2.2.2,hs.at 3 rfl (o:=0) (n:=4) rfl,by rw[hbad c2];rfl,hs.ext⟩
  .obtain⟨hP',hN'⟩:=hgood c2;exact⟨_,(show 5-(3+1)<5-3 by omega),3+1,_,by rw[w64 (by omega) (by omega)];omega,rfl,by omega,hP',hN'.1,hN'.2,hs.drop 1⟩
 .refine⟨_,rfl,?_⟩;show bif callable Pz 42 then _ else _
  rw[cal42,cond_true];have hpa:=pro_all (hP.b (by omega));refine (closed42 L C s cs k xb h7.size N hs (hN4 (by omega)) hS hX hC hpa).mono ?_;rintro _ h33 ⟨rfl,hs⟩;obtain⟨f,hf⟩:∃f,f=clsS (L.map MR.m) k (C.map Cr.cf):=⟨_,rfl⟩;rw[<-hf];have hbad:f.1≠0->chkV (L.map MR.m) k (C.map Cr.cf)=(f,23):=fun hn=>by rw[hf] at hn ⊢;exact chk_5 hV hP hn
  have hgood:f.1=0->ChkP (L.map MR.m) k (C.map Cr.cf) (4+1)/\((4+1<=3->N=[])/\(4<=4+1->KyOk N (C.map Cr.cf))):=fun hn=>by
   rw[hf] at hn;exact⟨⟨fun _=>hP.a (by omega),fun _=>hP.b (by omega),fun _=>hP.c (by omega),fun _=>hP.d (by omega),fun _=>hn⟩,fun h=>by omega,fun _=>hN4 (by omega)⟩
  refine⟨_,_,_,_,rfl,?_⟩;refine hs.newput (vs:=fltC f) rfl rfl fun h35 hs=>?_;refine⟨f.1,hs.rd 0 rfl (i:=0) rfl,sBn (fun c2=>?_) (fun c2=>?_)⟩
  .refine⟨f.1,f.2.1,f.2.2.1,f.2.2.2,hs.at 0 rfl (o:=0) (n:=4) rfl,?_⟩;refine hs.put 3 rfl (o:=0) (vs:=fltC f) rfl (show 4<=4 by decide) fun h41 hs=>?_;exact⟨f.1,f.2.1,f.2.2.1,f.2.2.2,hs.at 3 rfl (o:=0) (n:=4) rfl,by rw[hbad c2];rfl,hs.ext⟩
  .obtain⟨hP',hN'⟩:=hgood c2;exact⟨_,(show 5-(4+1)<5-4 by omega),4+1,_,by rw[w64 (by omega) (by omega)];omega,rfl,by omega,hP',hN'.1,hN'.2,hs.drop 1⟩
end Go.VC
end

section
namespace Go.VC
open Go.Proofs Go.LexS

end Go.VC
end

section
namespace Go.VC
open Go.Proofs Go.LexS Go.Maps
theorem chk_v {L:List Mch} {k:Int} {Q:List Cf} (hV:¬SysV L):chkV L k Q=(flt0,1):=by unfold chkV;rw[if_pos hV]
theorem ownO17 (C:List Cr) (cs:Sl) (k:Int) (h:Heap) (hC:CtI h cs C) :
  Fn Pz 17 #[.agg ⟨[.int .i64 k,.slice cs.a cs.n cs.c]⟩] h fun v h'=>∃o:Sl,v=.agg ⟨[.int .i64 k,.slice o.a o.n o.c]⟩/\St h h' [.sl o 52 2 (C.map Cr.cs)]:=by
 apply vc17 k cs;unfold W17;have hcn:=hC.r.ln;have hcm:=hC.r.sm;refine (St.refl h).newb fun h3 hs=>?_;refine hs.newb fun h4 hs=>?_;refine⟨k,hs.rd 1 rfl (i:=0) rfl,?_⟩;refine hs.newput (vs:=[.int .i64 k,.slice none 0 0]) rfl rfl fun h7 hs=>?_;refine⟨cs,hs.rd 2 rfl (i:=1) rfl,?_⟩;have hs:=hs.nil_ 52 2;refine⟨fun x h' μ=>∃(i:Nat) (o:Sl),x=(i:Int)/\μ=C.length-i/\i<=C.length/\St h h' [.sl o 52 2 ((C.take i).map Cr.cs),.blk h4.size [.int .i64 k,.slice o.a o.n o.c] 31,.blk h3.size [.int .i64 0,.slice none 0 0] 31,.blk h.size [.int .i64 k,.slice cs.a cs.n cs.c] 37],⟨_,0,⟨none,0,0⟩,rfl,rfl,Nat.zero_le _,by rw[Yyk];exact hs⟩,?_⟩;clear hs;rintro-_ h13 μ ⟨i,o,rfl,rfl,hi,hs⟩;have hon:=(hs.rows 0 (s:=o) (cs:=Cr.cs) rfl (by omega)).ln;rw[Yu] at hon;refine sBi (fun c1=>?_) (fun c1=>?_)
 .obtain⟨d,gd⟩:=get_some (l:=C) (i:=i) (by omega);refine⟨o,hs.rd 1 rfl (i:=1) rfl,cs,hs.rd 3 rfl (i:=1) rfl,?_⟩;refine (hC.r.rw.ext hs.ext).nbI (by omega) (by omega) fun b8 o9 d' gd' t=>?_;rw[Ys] at gd';replace gd':C[i]?=some d':=gd';rw[gd] at gd';cases gd';refine⟨d.c1,d.c2,t,?_⟩;refine VC.newb fun h20 E20 o20=>?_;have hs:=hs.more E20 (i:=.blk h13.size (Cr.cs d) 52) o20 fun b hb=>by cases hb;exact Yyt _
  refine⟨E20.sm,?_⟩;refine hs.appended 1 (s:=o) (n:=2) (rows:=(C.take i).map Cr.cs) rfl app29 (m:=1) (news:=[Cr.cs d]) (hs.at 0 rfl (n:=2) rfl) rfl (fun r hr=>by rw[Ye] at hr;rw[hr];rfl) rfl (by omega) (by simp only[maxLen];omega) fun r2 h22 nr hs=>?_;refine hs.put 2 rfl (o:=1) (vs:=[.slice r2.a r2.n r2.c]) rfl (show 1+1<=2 by decide) fun h23 hs=>?_;refine⟨_,(show C.length-(i+1)<C.length-i by omega),i+1,r2,by rw[w64 (by omega) (by omega)];omega,rfl,by omega,?_⟩;rw[take_snoc gd,Ym];exact hs.drop 1
 .have hil:i=C.length:=by omega
  subst hil;rw[Yye] at hs;refine⟨k,o,hs.at 1 rfl (o:=0) (n:=2) rfl,?_⟩;refine hs.put 2 rfl (o:=0) (vs:=[.int .i64 k,.slice o.a o.n o.c]) rfl (show 2<=2 by decide) fun h27 hs=>?_;exact⟨k,o,hs.at 2 rfl (o:=0) (n:=2) rfl,o,rfl,hs.sub (.cons_cons _ (List.nil_sublist _))⟩
theorem sy_nil {h:Heap}:SyI h ⟨none,0,0⟩ []:=⟨⟨Rw.nil,Yyt _,fun _=>⟨rfl,rfl⟩,Nat.zero_le _⟩,fun x hx=>by cases hx⟩
theorem few21 (C:List Cr) (cs:Sl) (k:Int) (h:Heap) (hC:CtI h cs C) :
  Fn Pz 21 #[.agg ⟨[.int .i64 k,.slice cs.a cs.n cs.c]⟩] h fun v h'=>∃b:Bool,v=.bool b/\(b=true->C.length<=120)/\Ext h h':=by
 apply vc21 k cs;unfold W21;have hn:=hC.r.ln;have hm:=hC.r.sm;refine (St.refl h).newb fun h3 hs=>?_;refine up_loopS (n:=cs.n) hs (fun _=>True) trivial ?_;rintro-i h8 hi ⟨hs,-⟩;refine⟨cs,hs.rd 0 rfl (i:=1) rfl,sB_intro (fun c=>?_) (fun c=>?_)⟩
 .replace c:=lt_t c;refine⟨cs,hs.rd 0 rfl (i:=1) rfl,?_⟩;refine (hC.r.rw.ext hs.ext).nbI (by omega) (by omega) fun b3 o3 x gx t3=>?_;replace gx:C[i]?=some x:=gx;refine⟨x.c1,x.c2,t3,?_⟩;refine (fewC13 [] ⟨none,0,0⟩ x.c1 x.c2 x.S x.B h8 sy_nil ((hC.ext hs.ext).i x (Yb gx))).mono ?_;rintro _ h17 ⟨⟨b',rfl,-⟩,E⟩;have hs:=hs.step E;exact⟨_,rfl,sB_intro (fun c2=>⟨false,rfl,(fun e=>by cases e),hs.ext⟩) (fun c2=>Up.next c (by omega) ⟨hs,trivial⟩)⟩
 .exact⟨cs,hs.rd 0 rfl (i:=1) rfl,_,rfl,(fun e=>by have:=Yyn e;omega),hs.ext⟩
theorem smallC16 (L:List MR) (s:Sl) (C:List Cr) (cs:Sl) (k:Int) (h:Heap) (hS:SyI h s L) (hC:CtI h cs C) :
  Fn Pz 16 #[.slice s.a s.n s.c,.agg ⟨[.int .i64 k,.slice cs.a cs.n cs.c]⟩] h fun v h'=>∃b:Bool,v=.bool b/\(b=true->C.length<=120)/\Ext h h':=by
 apply vc16 s k cs;unfold W16;refine (St.refl h).newb fun h3 hs=>?_;refine (fewC13 L s ⟨none,0,0⟩ ⟨none,0,0⟩ [] [] h3 (hS.ext hs.ext) CfI.none_).mono ?_;rintro _ h6 ⟨⟨b,rfl,-⟩,E⟩;have hs:=hs.step E;refine⟨b,rfl,sB_intro (fun c=>?_) (fun c=>⟨false,rfl,(fun h=>by cases h),hs.ext⟩)⟩;refine⟨k,cs,hs.at 0 rfl (o:=0) (n:=2) rfl,?_⟩;refine (few21 C cs k h6 (hC.ext hs.ext)).mono ?_;rintro _ h11 ⟨b2,rfl,hb2,E2⟩;exact⟨b2,rfl,b2,rfl,hb2,hs.ext.trans E2⟩
end Go.VC
end

section
namespace Go.VC
open Go.Proofs Go.LexS Go.Maps
theorem cls_5 (L:List Mch) (k:Int) (Q:List Cf):(clsS L k Q).1=0\/(clsS L k Q).1=5:=by
 unfold clsS;cases fstI (fun c=>(levS L k Q c).isSome=true) Q with
 | none=>exact .inl rfl
 | some i=>
  dsimp only;cases (Q[i]?).bind (levS L k Q) with
  | none=>exact .inl rfl
  | some q=>exact .inr rfl
theorem cls_0 {L:List Mch} {k:Int} {Q:List Cf} (h:(clsS L k Q).1=0) {c:Cf} (hc:c∈Q):levS L k Q c=none:=by
 unfold clsS at h;cases hf:fstI (fun c=>(levS L k Q c).isSome=true) Q with
 | none=>
  have h1:=fstI_no hf hc;cases hl:levS L k Q c with
  | none=>rfl
  | some q=>exact absurd (by rw[hl];rfl) h1
 | some i=>
  rw[hf] at h;dsimp only at h;obtain⟨c,gc,hs⟩:=fstI_ex hf;obtain⟨q,hq⟩:=Option.isSome_iff_exists.1 hs;rw[gc,Option.bind_some,hq] at h;exact absurd h (show ¬((5:Int)=0) by decide)
open Classical in
theorem lev_inv {L:List Mch} {k:Int} {Q:List Cf} {c:Cf} (h:levS L k Q c=none) {q:Nat × Nat} (hq:q∈stepsS L k c.1 c.2):nxS L c q∈Q:=by
 unfold levS at h;have h2:=List.find?_eq_none.1 h q hq;rw[decide_eq_true_eq] at h2;exact Classical.not_not.1 h2
theorem chk_cases {L:List Mch} {k:Int} {Q:List Cf} (hV:SysV L):((chkV L k Q).2=23/\1<=(chkV L k Q).1.1/\(chkV L k Q).1.1<=5)\/(chkV L k Q=(flt0,0)/\ChkP L k Q 5):=by
 by_cases h1:k<1\/4<k\/20000<Q.length
 .rw[chk_1 hV h1];exact .inl ⟨rfl,by decide,by decide⟩
 have p1:ChkP L k Q 1:=⟨fun _=>h1,fun h=>by omega,fun h=>by omega,fun h=>by omega,fun h=>by omega⟩;cases h2:fstI (fun c=>¬ProS L k c.1 c.2) Q with
 | some i=>rw[chk_2 hV p1 h2];exact .inl ⟨rfl,(show (1:Int)<=2 by decide),(show (2:Int)<=5 by decide)⟩
 | none=>
  have p2:ChkP L k Q 2:=⟨fun _=>h1,fun _=>h2,fun h=>by omega,fun h=>by omega,fun h=>by omega⟩;cases h3:fstI (fun c=>badS L k c.1 c.2≠0) Q with
  | some i=>rw[chk_3 hV p2 h3];exact .inl ⟨rfl,(show (1:Int)<=3 by decide),(show (3:Int)<=5 by decide)⟩
  | none=>
   have p3:ChkP L k Q 3:=⟨fun _=>h1,fun _=>h2,fun _=>h3,fun h=>by omega,fun h=>by omega⟩;by_cases h4:(startS L,startB L)∈Q
   .have p4:ChkP L k Q 4:=⟨fun _=>h1,fun _=>h2,fun _=>h3,fun _=>h4,fun h=>by omega⟩;rcases cls_5 L k Q with h5 | h5
    .have p5:ChkP L k Q 5:=⟨fun _=>h1,fun _=>h2,fun _=>h3,fun _=>h4,fun _=>h5⟩;exact .inr ⟨chk_0 hV p5,p5⟩
    .rw[chk_5 hV p4 (by rw[h5];decide)];exact .inl ⟨rfl,by show 1<=(clsS L k Q).1;rw[h5];decide,by show (clsS L k Q).1<=5;rw[h5];decide⟩
   .rw[chk_4 hV p3 h4];exact .inl ⟨rfl,(show (1:Int)<=4 by decide),(show (4:Int)<=5 by decide)⟩
theorem right_mem {L:List Mch} {k:Int} {Q:List Cf} (hP:ChkP L k Q 5):∀ {n:Nat} {l:List (Nat × Nat)} {c:Cf},l.length=n->runS L k l=some c->c∈Q
 | 0,l,c,hn,hr=>by
  obtain rfl:=List.length_eq_zero_iff.1 hn;have h2:some ((startS L,(List.replicate (L.length*L.length) bx0).map Bx.l):Cf)=some c:=hr;rw[bxs0] at h2;rw[<-Yyp h2];exact hP.d (by omega)
 | n+1,l,c,hn,hr=>by
  obtain⟨l',q,rfl⟩:∃l' q,l=l'++[q]:=⟨l.dropLast,l.getLast (by intro e;rw[e] at hn;cases hn),(List.dropLast_concat_getLast _).symm⟩;rw[Yh,Yv] at hn;rw[runS_snoc] at hr;cases h0:runS L k l' with
  | none=>rw[h0] at hr;cases hr
  | some c0=>
   rw[h0] at hr;have hc0:=right_mem (n:=n) hP (by omega) h0;obtain⟨hq,rfl⟩:=stp_inv hr;exact lev_inv (cls_0 (hP.e (by omega)) hc0) hq
theorem right_pro {L:List Mch} {k:Int} {Q:List Cf} (hP:ChkP L k Q 5) {c:Cf} (hc:c∈Q):ProS L k c.1 c.2:=Classical.not_not.1 (fstI_no (hP.b (by omega)) hc)
theorem right_bad {L:List Mch} {k:Int} {Q:List Cf} (hP:ChkP L k Q 5) {c:Cf} (hc:c∈Q):badS L k c.1 c.2=0:=Classical.not_not.1 (fstI_no (hP.c (by omega)) hc)
theorem fst_get {Q:List Qe} {j:Nat} {d:Cf} (h:(Q.map Prod.fst)[j]?=some d):∃e,Q[j]?=some e/\e.1=d:=by
 rw[Yd] at h;cases g:Q[j]? with
 | none=>rw[g] at h;cases h
 | some e=>rw[g] at h;cases h;exact⟨e,rfl,rfl⟩
theorem sea_p4 {L:List Mch} {k:Int} {lm:Nat} {Q:List Qe} (hs:Sea L k lm Q.length Q) (hk:1<=k/\k<=4) (hl2:lm<=20000) {n:Nat} (h1:1<=n):ChkP L k ((Q.map Prod.fst).take n) 4:=by
 have hg:∀ {j:Nat} {d:Cf},((Q.map Prod.fst).take n)[j]?=some d->∃e,Q[j]?=some e/\e.1=d:=fun {j d} h=>by
  by_cases hj:j<n
  .rw[List.getElem?_take_of_lt hj] at h;exact fst_get h
  .rw[List.getElem?_take_eq_none (by omega)] at h;cases h
 refine⟨fun _ hx=>?_,fun _=>fstI_none fun j d hd=>?_,fun _=>fstI_none fun j d hd=>?_,fun _=>?_,fun h=>by omega⟩
 .have:=hs.l;rw[Yu,Yc] at hx;omega
 .obtain⟨e,ge,rfl⟩:=hg hd;exact fun h=>h (hs.p e (Yb ge))
 .obtain⟨e,ge,rfl⟩:=hg hd;exact fun h=>h (hs.d j e (Ya.1 ge).1 ge).1
 .refine Yb (i:=0) ?_;rw[List.getElem?_take_of_lt (by omega),Yd,hs.s];rfl
theorem safe_chk {L:List Mch} {k:Int} {lm:Nat} {Q:List Cf} (hV:SysV L) (hk:1<=k/\k<=4) (hl:1<=lm) (hl2:lm<=20000) (h:exS L k lm=.safe Q):chkV L k Q=(flt0,0):=by
 have hok:=exS_ok (lim:=lm) hV hk hl;rw[h] at hok;obtain⟨Q',hs,rfl⟩:=hok;have h0:0<Q'.length:=(Ya.1 hs.s).1;have p4:=sea_p4 hs hk hl2 (n:=Q'.length) (by omega);rw[Yj (by rw[Yc];exact Yyt _)] at p4;refine chk_0 hV ⟨fun _=>p4.a (by omega),fun _=>p4.b (by omega),fun _=>p4.c (by omega),fun _=>p4.d (by omega),fun _=>?_⟩;rw[cls_none fun j d hd=>lev_none fun q hq=>?_]
 .rfl
 .obtain⟨e,ge,rfl⟩:=fst_get hd;obtain⟨m,e',gm,he,-⟩:=(hs.d j e (Ya.1 ge).1 ge).2 q hq;rw[<-he];exact List.mem_map_of_mem (Yb gm)
theorem cut_chk {L:List Mch} {k:Int} {lm:Nat} {Q:List Cf} (hV:SysV L) (hk:1<=k/\k<=4) (hl:1<=lm) (hl2:lm<=20000) (h:exS L k lm=.safe Q) {n:Nat} (h1:1<=n) (hn:n<Q.length):(chkV L k (Q.take n)).2=23/\(chkV L k (Q.take n)).1.1=5:=by
 have hok:=exS_ok (lim:=lm) hV hk hl;rw[h] at hok;obtain⟨Q',hs,rfl⟩:=hok;have p4:=sea_p4 hs hk hl2 h1;rcases cls_5 L k ((Q'.map Prod.fst).take n) with h5 | h5
 .exfalso;have p5:ChkP L k ((Q'.map Prod.fst).take n) 5:=⟨fun _=>p4.a (by omega),fun _=>p4.b (by omega),fun _=>p4.c (by omega),fun _=>p4.d (by omega),fun _=>h5⟩;rw[Yc] at hn;obtain⟨e,ge⟩:=get_some hn;have hm:=right_mem p5 rfl (hs.r e (Yb ge));obtain⟨j,gj⟩:=Yf.1 hm;have hj:j<n:=by
   have:=(Ya.1 gj).1;rw[Yu] at this;omega
  rw[List.getElem?_take_of_lt hj] at gj;have gn:(Q'.map Prod.fst)[n]?=some e.1:=by rw[Yd,ge];rfl
  have hjl:j<(Q'.map Prod.fst).length:=(Ya.1 gj).1;have:=(List.getElem?_inj hjl hs.n).1 (gj.trans gn.symm);omega
 .rw[chk_5 hV p4 (by rw[h5];decide)];exact⟨rfl,h5⟩
end Go.VC
end

section
namespace Go.VC
open Go.Proofs Go.LexS Go.Maps
def mkO (o:RV × Int) (k:Int):(Int × List Cf) × Int:=if o.2≠0 then ((0,[]),o.2) else if o.1.v=2 then ((0,[]),23) else if o.1.v=3 then ((0,[]),6) else ((k,o.1.Q),0)
def MkR (o:(Int × List Cf) × Int) (h:Heap) (v:Value) (h':Heap):Prop:=∃(cs:Sl) (C:List Cr),v=.tuple ⟨[.agg ⟨[.int .i64 o.1.1,.slice cs.a cs.n cs.c]⟩,.int .i64 o.2]⟩/\Ext h h'/\CtI h' cs C/\C.map Cr.cf=o.1.2
theorem CtI.nil {h:Heap}:CtI h ⟨none,0,0⟩ []:=⟨⟨Rw.nil,Yyt _,fun _=>⟨rfl,rfl⟩,Nat.zero_le _⟩,fun c hc=>by cases hc⟩
theorem make11 (L:List MR) (s:Sl) (k lim:Int) (h:Heap) (hS:SyI h s L) :
  Fn Pz 11 #[.slice s.a s.n s.c,.int .i64 k,.int .i64 lim] h (MkR (mkO (expV (L.map MR.m) k lim) k) h):=by
 apply vc11 s k lim;unfold W11;refine (St.refl h).newb fun h1 hs=>?_;have e1:=explore13 L s k lim h1 (hS.ext hs.ext);generalize expV (L.map MR.m) k lim=o at e1 ⊢;refine e1.mono ?_;rintro _ h9 ⟨cf,mo,tr,A,rfl,hs1,hR⟩;have hs:=hs.join hs1;refine⟨_,cf,mo,_,tr,_,rfl,?_⟩;refine hs.newput (vs:=resA o.1.v cf mo o.1.k tr) rfl rfl fun h11 hs=>?_;refine sBn (fun c=>?_) (fun c=>?_);have e:mkO o k=((0,[]),o.2):=if_pos c;rw[e];refine hs.put 1 rfl (o:=0) (vs:=[.int .i64 0,.slice none 0 0]) rfl (show 2<=2 by decide) fun h12 hs=>?_;rotate_left;refine⟨o.1.v,hs.rd 0 rfl (i:=0) rfl,sBe (fun c2=>?_) (fun c2=>?_)⟩;have e:mkO o k=((0,[]),23):=by unfold mkO;rw[if_neg (fun h=>h c),if_pos c2]
 rw[e];refine hs.put 1 rfl (o:=0) (vs:=[.int .i64 0,.slice none 0 0]) rfl (show 2<=2 by decide) fun h12 hs=>?_;rotate_left;refine⟨o.1.v,hs.rd 0 rfl (i:=0) rfl,sBe (fun c3=>?_) (fun c3=>?_)⟩;have e:mkO o k=((0,[]),6):=by unfold mkO;rw[if_neg (fun h=>h c),if_neg c2,if_pos c3]
 rw[e];refine hs.put 1 rfl (o:=0) (vs:=[.int .i64 0,.slice none 0 0]) rfl (show 2<=2 by decide) fun h12 hs=>?_;rotate_left;have e:mkO o k=((k,o.1.Q),0):=by unfold mkO;rw[if_neg (fun h=>h c),if_neg c2,if_neg c3]
 rw[e];refine⟨cf,hs.rd 0 rfl (i:=1) rfl,?_⟩;refine hs.put 1 rfl (o:=0) (vs:=[.int .i64 k,.slice cf.a cf.n cf.c]) rfl (show 2<=2 by decide) fun h24 hs=>?_;have hRI:=hR.at hs (memP (P:=[_,_]));obtain⟨C,q1,q2,q3⟩:=hRI.c;exact⟨k,cf,hs.at 1 rfl (o:=0) (n:=2) rfl,cf,C,rfl,hs.ext,⟨q1,q2⟩,q3⟩;all_goals first | exact⟨0,⟨none,0,0⟩,hs.at 1 rfl (o:=0) (n:=2) rfl,⟨none,0,0⟩,[],rfl,hs.ext,CtI.nil,rfl⟩
theorem mk_safe {n:Nat} {Q:List Cf} {k:Int}:mkO ((Res.safe Q).rv n,0) k=((k,Q),0):=by
 rfl
theorem awakeC9 (h:Heap) (hx:Gx h):Fn Pz 9 #[] h fun v h'=>v=.bool true/\Ext h h':=by
 apply vc9;unfold W9;refine (example34 true h).mono ?_;rintro _ h10 ⟨E10,hr,hd,he,rfl,hg⟩;refine⟨_,hr,hd,_,_,_,he,⟨none,0,0⟩,rfl,?_⟩;refine (all43 (exGl true hr hd he ⟨none,0,0⟩) h10 hg (hx.ext E10) (ex_valid _ _ _ _ _) xL (hg.r.ln.symm) (by decide) (fun i m hi=>?_)).mono ?_
 .match i,hi with
  | 0,hi=>cases hi;exact⟨xproj _ _ _ _ _ _ _ (by decide) (by decide) (xr0_raw _ _ _ _) xm0_min,by decide,by decide,by decide⟩
  | 1,hi=>cases hi;exact⟨xproj _ _ _ _ _ _ _ (by decide) (by decide) (xm1_raw _ _ _ _) xm1_min,by decide,by decide,by decide⟩
  | 2,hi=>cases hi;exact⟨xproj _ _ _ _ _ _ _ (by decide) (by decide) (xm2_raw _ _ _ _) xm2_min,by decide,by decide,by decide⟩
  | n+3,hi=>exact absurd hi (by simp[xL])
 rintro _ h14 ⟨s,L,rfl,E14,hL,hS⟩;have E0:=E10.trans E14;refine⟨s,0,rfl,?_⟩;have e1:=make11 L s 1 1000 h14 hS;have hv:expV (L.map MR.m) 1 1000=(⟨1,xRes,mostS 3 xRes,0,[]⟩,0):=by
  rw[hL];unfold expV;rw[if_neg (fun h=>by rcases h with h | h | h;exact h xsys;all_goals omega),if_neg (by omega)];show ((exS xL 1 1000).rv 3,(0:Int))=_;rw[xsearch];rfl
 have hm:mkO (expV (L.map MR.m) 1 1000) 1=((1,xRes),0):=by
  rw[hv];exact mk_safe (n:=3)
 rw[hm] at e1;refine e1.mono ?_;rintro _ h19 ⟨cs,C,rfl,E19,hC,hQ⟩;have hQ:C.map Cr.cf=xRes:=hQ;have hCl:C.length=12:=by have:=congrArg List.length hQ;rw[Yc] at this;rw[this];exact xres_len
 have hcn:=hC.r.ln;have hS:=hS.ext E19;have E0:=E0.trans E19;refine⟨1,cs,0,rfl,?_⟩;refine (St.refl h19).newput (vs:=[.int .i64 1,.slice cs.a cs.n cs.c]) rfl rfl fun h21 hs=>?_;refine⟨1,cs,hs.at 0 rfl (o:=0) (n:=2) rfl,?_⟩;have e2:=check15 L C s cs 1 h21 (hS.ext hs.ext) (hC.ext hs.ext);rw[hQ,hL,safe_chk xsys (by decide) (by decide) (by decide) xsearch] at e2;refine e2.mono ?_;rintro _ h30 ⟨rfl,E30⟩;have hs:=hs.step E30;refine⟨0,0,0,0,0,rfl,?_⟩;refine hs.newput (vs:=fltC flt0) rfl rfl fun h32 hs=>?_;refine sB_f rfl (sB_f rfl (sB_f rfl ⟨0,hs.rd 0 rfl (i:=0) rfl,sB_f rfl ⟨cs,hs.rd 1 rfl (i:=1) rfl,sB_f (decide_eq_false (by omega)) ?_⟩⟩));refine⟨cs,hs.rd 1 rfl (i:=1) rfl,cs,hs.rd 1 rfl (i:=1) rfl,?_⟩;have hw:IntKind.wrap .i64 ((cs.n:Int)-1)=((11:Nat):Int):=by rw[w64 (by omega) (by omega)];omega
 have hcc:=hC.r.cap;rw[hw];refine⟨⟨by omega,by omega,by omega⟩,?_⟩;obtain⟨t,ht⟩:∃t:Sl,t=⟨subA cs.a (Int.toNat 0) cs.c 2,Int.toNat ((11:Nat):Int)-Int.toNat 0,cs.c-Int.toNat 0⟩:=⟨_,rfl⟩;have hT:∀ {h':Heap},Ext h19 h'->CtI h' t (C.take 11):=fun {h'} E=>⟨by rw[ht];exact (hC.ext E).r.cut0 11 (by omega),fun c hc=>(hC.ext E).i c (List.mem_of_mem_take hc)⟩;rw[show subA cs.a (Int.toNat 0) cs.c 2=t.a by rw[ht],show Int.toNat ((11:Nat):Int)-Int.toNat 0=t.n by rw[ht],show cs.c-Int.toNat 0=t.c by rw[ht]];refine hs.put 1 rfl (o:=1) (vs:=[.slice t.a t.n t.c]) rfl (show 1+1<=2 by decide) fun h37 hs=>?_;refine⟨1,t,hs.at 1 rfl (o:=0) (n:=2) rfl,?_⟩;have e3:=check15 L (C.take 11) s t 1 h37 (hS.ext hs.ext) (hT hs.ext);have hQ2:(C.take 11).map Cr.cf=xRes.take 11:=by rw[List.map_take,hQ]
 have hcut:=cut_chk xsys (by decide) (by decide) (by decide) xsearch (n:=11) (by decide) (by rw[xres_len];decide);rw[hQ2,hL] at e3;refine e3.mono ?_;rintro _ h46 ⟨rfl,E46⟩;have hs:=hs.step E46;generalize chkV xL 1 (xRes.take 11)=o at hcut ⊢;refine⟨_,_,_,_,_,rfl,?_⟩;refine hs.put 0 rfl (o:=0) (vs:=fltC o.1) rfl (show 4<=4 by decide) fun h47 hs=>?_;refine sBe (fun _=>⟨o.1.1,hs.rd 0 rfl (i:=0) rfl,by rw[hcut.2];rfl,E0.trans hs.ext⟩) (fun c=>absurd hcut.1 c)

end Go.VC
end

section
namespace Go.VC
open Go.Proofs Go.LexS Go.Maps
theorem chk_same {L:List Mch} {k:Int} {Q Q':List Cf} (hm:∀c,c∈Q ↔ c∈Q') (h1:Q.length<=20000) (h2:Q'.length<=20000):(chkV L k Q).2=(chkV L k Q').2:=by
 have one:∀ {Q Q':List Cf},(∀c,c∈Q ↔ c∈Q')->Q'.length<=20000->ChkP L k Q 5->ChkP L k Q' 5:=fun {Q Q'} hm h2 hp=>by
  have hk:=hp.a (by omega);refine⟨fun _ h=>by omega,fun _=>fstI_none fun j d hd=>?_,fun _=>fstI_none fun j d hd=>?_,fun _=>(hm _).1 (hp.d (by omega)),fun _=>?_⟩
  .exact fun h=>h (right_pro hp ((hm d).2 (Yb hd)))
  .exact fun h=>h (right_bad hp ((hm d).2 (Yb hd)))
  .rw[cls_none fun j d hd=>lev_none fun q hq=>(hm _).1 (lev_inv (cls_0 (hp.e (by omega)) ((hm d).2 (Yb hd))) hq)];rfl
 by_cases hV:SysV L
 .rcases chk_cases (k:=k) (Q:=Q) hV with ⟨a,-,-⟩ | ⟨a,ha⟩
  .rcases chk_cases (k:=k) (Q:=Q') hV with ⟨b,-,-⟩ | ⟨-,hb⟩
   .rw[a,b]
   .rw[chk_0 hV (one (fun c=>(hm c).symm) h1 hb)] at a;exact absurd a (by decide)
  .rw[a,chk_0 hV (one hm h2 ha)]
 .rw[chk_v hV,chk_v hV]
theorem set_same {α:Type} {C:List α} {i j:Nat} {a b:α} (ha:C[i]?=some a) (hb:C[j]?=some b) (x:α):x∈C ↔ x∈(C.set i b).set j a:=by
 have hi:=(Ya.1 ha).1;have hj:=(Ya.1 hb).1;constructor
 .intro hx;obtain⟨t,gt⟩:=Yf.1 hx;by_cases e1:t=i
  .subst e1;rw[ha] at gt;cases gt;exact Yb (i:=j) (Yq (by rw[Yyh];exact hj))
  .by_cases e2:t=j
   .subst e2;rw[hb] at gt;cases gt;exact Yb (i:=i) (by rw[Yy e1,Yq hi])
   .exact Yb (i:=t) (by rw[Yy (fun e=>e2 e.symm),Yy (fun e=>e1 e.symm)];exact gt)
 .intro hx;rcases List.mem_or_eq_of_mem_set hx with hx | rfl
  .rcases List.mem_or_eq_of_mem_set hx with hx | rfl
   .exact hx
   .exact Yb hb
  .exact Yb ha
theorem add_opt {x:It}:∀ {L:List (Option It)} {k:Nat},L[k]?=some none->(x::L.filterMap id).Perm ((L.set k (some x)).filterMap id)
 | [],k,h=>by cases h
 | a::r,0,h=>by cases h;exact .refl _
 | none::r,k+1,h=>add_opt (L:=r) (k:=k) h
 | some y::r,k+1,h=>by
  show (x::y::r.filterMap id).Perm (y::(r.set k (some x)).filterMap id);exact (List.Perm.swap y x _).trans ((add_opt (L:=r) (k:=k) h).cons y)
def bkO (b:Heap):It:=.blk b.size [.int .i64 0,.slice none 0 0] 31
def slO (C:List Cr) (o:Sl):It:=.sl o 52 2 (C.map Cr.cs)
def OqS (C:List Cr) (h0 h:Heap) (b0 b1 b2:Option Heap) (o0 o1 o2:Option Sl):Prop:=St h0 h ([b0.map bkO,b1.map bkO,b2.map bkO,o0.map (slO C),o1.map (slO C),o2.map (slO C)].filterMap id)
section
variable {C:List Cr} {h0 h h':Heap} {b0 b1 b2:Option Heap} {o0 o1 o2:Option Sl} {o:Sl}
theorem St.addAt {L:List (Option It)} {x:It} (hs:St h0 h (x::L.filterMap id)) (k:Nat) (hk:L[k]?=some none):St h0 h ((L.set k (some x)).filterMap id):=hs.perm (add_opt hk)
theorem St.addEnd {L:List (Option It)} {x:It} (hs:St h0 h (L.filterMap id++[x])) (k:Nat) (hk:L[k]?=some none):St h0 h ((L.set k (some x)).filterMap id):=(hs.perm (List.perm_append_singleton x _)).addAt k hk
theorem St.newv {L:List It} (hs:St h0 h L) (e:Ext h h') (b:(bkO h).ok h'):St h0 h' (bkO h::L):=hs.more e b fun b hb=>by cases hb;exact Yyt _
theorem OqS.nb0 (hs:OqS C h0 h none b1 b2 o0 o1 o2) (e:Ext h h') (b:(bkO h).ok h'):OqS C h0 h' (some h) b1 b2 o0 o1 o2:=(St.newv hs e b).addAt 0 rfl
theorem OqS.nb1 (hs:OqS C h0 h b0 none b2 o0 o1 o2) (e:Ext h h') (b:(bkO h).ok h'):OqS C h0 h' b0 (some h) b2 o0 o1 o2:=(St.newv hs e b).addAt 1 rfl
theorem OqS.nb2 (hs:OqS C h0 h b0 b1 none o0 o1 o2) (e:Ext h h') (b:(bkO h).ok h'):OqS C h0 h' b0 b1 (some h) o0 o1 o2:=(St.newv hs e b).addAt 2 rfl
theorem OqS.no0 (hs:OqS C h0 h b0 b1 b2 none o1 o2) (hl:St h h' [.sl o 52 2 (C.map Cr.cs)]):OqS C h0 h' b0 b1 b2 (some o) o1 o2:=(St.join hs hl).addEnd 3 rfl
theorem OqS.no1 (hs:OqS C h0 h b0 b1 b2 o0 none o2) (hl:St h h' [.sl o 52 2 (C.map Cr.cs)]):OqS C h0 h' b0 b1 b2 o0 (some o) o2:=(St.join hs hl).addEnd 4 rfl
theorem OqS.no2 (hs:OqS C h0 h b0 b1 b2 o0 o1 none) (hl:St h h' [.sl o 52 2 (C.map Cr.cs)]):OqS C h0 h' b0 b1 b2 o0 o1 (some o):=(St.join hs hl).addEnd 5 rfl
theorem OqS.ext (hs:OqS C h0 h b0 b1 b2 o0 o1 o2):Ext h0 h:=St.ext hs
end
structure OqC (L:List MR) (C:List Cr) (s cs:Sl) (k x16 x18:Int) (h h14:Heap) (R:Value->Heap->Prop):Prop where
 hS:SyI h14 s L
 hC:CtI h14 cs C
 hb:h.size<h14.size
 hR:∀h',Ext h14 h'->R (.bool true) h'
 p:C.length<=120/\1<=C.length
 a:0<=x16/\x16<256
 b:0<=x18/\x18<256
theorem sm_old {h0 h h':Heap} {b o:Nat} {xs:List Addr} (hb:b<h0.size) (E:Ext h0 h) (E':Ext h0 h') (hr:Sm xs h h'):Sm (⟨b,o,none⟩::xs) h h':=sm_cons ((E'.2 b hb).trans (E.2 b hb).symm) hr
section
variable {L:List MR} {C:List Cr} {s cs:Sl} {k x16 x18:Int} {h hB:Heap} {R:Value->Heap->Prop}
theorem lV4a (c:OqC L C s cs k x16 x18 h hB R) {h40 h37 h38 h39:Heap} {x28 x32 x36:Sl} (hs:OqS C hB h40 (some h37) (some h38) (some h39) (some x28) (some x32) (some x36)):V4a h40 h37 k x28 h h38 k x32 h39 k x36 x18 cs x16 cs s R:=by
 unfold V4a;have hs:St hB h40 [.blk h37.size [.int .i64 0,.slice none 0 0] 31,.blk h38.size [.int .i64 0,.slice none 0 0] 31,.blk h39.size [.int .i64 0,.slice none 0 0] 31,.sl x28 52 2 (C.map Cr.cs),.sl x32 52 2 (C.map Cr.cs),.sl x36 52 2 (C.map Cr.cs)]:=hs;have hcn:=c.hC.r.ln;have hp:=c.p;have ha:=c.a;have hb:=c.b;obtain⟨i,rfl⟩:∃i:Nat,x16=(i:Int):=⟨x16.toNat,by omega⟩;obtain⟨j,rfl⟩:∃j:Nat,x18=(j:Int):=⟨x18.toNat,by omega⟩;rw[w8 (by omega) (by omega),w8 (by omega) (by omega),tmod_nat,tmod_nat];have hi:i%cs.n<C.length:=by rw[hcn];exact Nat.mod_lt _ (by omega)
 have hj:j%cs.n<C.length:=by rw[hcn];exact Nat.mod_lt _ (by omega)
 generalize i%cs.n=i at *;generalize j%cs.n=j at *;obtain⟨di,gi⟩:=get_some hi;obtain⟨dj,gj⟩:=get_some hj;have r0:=(hs.len 3 rfl (by omega)).1;have r1:=(hs.len 4 rfl (by omega)).1;have r2:=(hs.len 5 rfl (by omega)).1;rw[Yc] at r0 r1 r2;have hs0:=hs;refine hs.put 0 rfl (o:=0) (vs:=[.int .i64 k,.slice x28.a x28.n x28.c]) rfl (show 2<=2 by decide) fun h41 hs=>?_;refine⟨sm_old c.hb hs0.ext hs.ext (sm_old c.hb hs0.ext hs.ext sm_nil),?_⟩;clear hs0;have hs0:=hs;refine hs.put 1 rfl (o:=0) (vs:=[.int .i64 k,.slice x32.a x32.n x32.c]) rfl (show 2<=2 by decide) fun h42 hs=>?_;refine⟨sm_old c.hb hs0.ext hs.ext sm_nil,?_⟩;clear hs0;refine hs.put 2 rfl (o:=0) (vs:=[.int .i64 k,.slice x36.a x36.n x36.c]) rfl (show 2<=2 by decide) fun h43 hs=>?_;refine⟨x32,hs.rd 1 rfl (i:=1) rfl,x32,hs.rd 1 rfl (i:=1) rfl,x28,hs.rd 0 rfl (i:=1) rfl,?_⟩;have row:∀ {j:Nat} {dj:Cr},C[j]?=some dj->∀ {h:Heap},Rw h 2 x28 (C.map Cr.cs)->∀ {F:Nat->Nat->Prop},(∀b o,atC h ⟨b,o+Int.toNat (j:Int)*2,none⟩ (Cr.cs dj)->F b o)->NB x28.a fun b o=>((0<=(j:Int)/\(j:Int)<(x28.n:Nat))/\F b o):=fun {j dj} gj {h} hr {F} hF=>by
  have:=(Ya.1 gj).1;refine hr.nbI (by omega) (by omega) fun b o d gd t=>?_;rw[Ys,gj] at gd;cases gd;exact hF b o t
 refine row gj (hs.rows 3 rfl (by omega)) fun b47 o48 t=>⟨dj.c1,dj.c2,t,x28,hs.rd 0 rfl (i:=1) rfl,?_⟩;refine row gi (hs.rows 3 rfl (by omega)) fun b52 o53 t=>⟨di.c1,di.c2,t,?_⟩;have hs0:=hs;refine hs.set 4 (l:=C) rfl (by omega) (by omega) (by omega) dj rfl rfl (fun b56 o57 h58 hs=>?_) rfl;refine⟨sm_cons (hs0.same hs 0 0 rfl rfl) (sm_cons (hs0.same hs 1 1 rfl rfl) sm_nil),?_⟩;clear hs0;rw[Ys] at hs;refine hs.set 4 (l:=C.set i dj) rfl (by omega) (by omega) (by omega) di rfl rfl (fun b59 o60 h61 hs=>?_) rfl;rw[Ys] at hs;refine⟨x36,hs.rd 2 rfl (i:=1) rfl,x28,hs.rd 0 rfl (i:=1) rfl,?_⟩;refine row gi (hs.rows 3 rfl (by omega)) fun b64 o65 t=>⟨di.c1,di.c2,t,?_⟩;refine VC.newb fun h68 e1 b1=>?_;have hs:=hs.more e1 (i:=.blk h61.size (Cr.cs di) 52) b1 fun b hb=>by cases hb;exact Yyt _
 refine⟨e1.sm,?_⟩;refine hs.appended 6 (s:=x36) (n:=2) (rows:=C.map Cr.cs) rfl app29 (m:=1) (news:=[Cr.cs di]) (hs.at 0 rfl (n:=2) rfl) rfl (fun r hr=>by rw[Ye] at hr;rw[hr];rfl) rfl (by omega) (by simp only[maxLen];omega) fun r2 h70 nr hs=>?_;have hs:=hs.drop 1;refine hs.put 2 rfl (o:=1) (vs:=[.slice r2.a r2.n r2.c]) rfl (show 1+1<=2 by decide) fun h71 hs=>?_;have hs:St hB h71 [.blk h37.size [.int .i64 k,.slice x28.a x28.n x28.c] 31,.blk h38.size [.int .i64 k,.slice x32.a x32.n x32.c] 31,.blk h39.size [.int .i64 k,.slice r2.a r2.n r2.c] 31,.sl x28 52 2 (C.map Cr.cs),.sl x32 52 2 (((C.set i dj).set j di).map Cr.cs),.sl r2 52 2 ((C++[di]).map Cr.cs)]:=by
  rw[Ym];exact hs
 have hC1:∀d∈(C.set i dj).set j di,d∈C:=fun d hd=>(set_same gi gj d).2 hd;have hC2:∀d∈C++[di],d∈C:=fun d hd=>by
  rcases Yk.1 hd with hd | hd
  .exact hd
  .rw[Ye.1 hd];exact Yb gi
 have hl1:((C.set i dj).set j di).length=C.length:=by rw[Yyh,Yyh]
 have hl2:(C++[di]).length=C.length+1:=by rw[Yh,Yv]
 refine⟨k,x28,hs.at 0 rfl (o:=0) (n:=2) rfl,?_⟩;refine (check15 L C s x28 k h71 (c.hS.ext hs.ext) ⟨hs.rl 3 rfl (by omega) (by omega),(c.hC.ext hs.ext).i⟩).mono ?_;rintro _ h80 ⟨rfl,e80⟩;have hs:=hs.step e80;refine⟨_,_,_,_,_,rfl,?_⟩;refine hs.newput (vs:=fltC _) rfl rfl fun h82 hs=>?_;have hs:=hs.drop 1;refine⟨k,x32,hs.at 1 rfl (o:=0) (n:=2) rfl,?_⟩;refine (check15 L ((C.set i dj).set j di) s x32 k h82 (c.hS.ext hs.ext) ⟨hs.rl 4 rfl (by omega) (by omega),fun d hd=>(c.hC.ext hs.ext).i d (hC1 d hd)⟩).mono ?_;rintro _ h91 ⟨rfl,e91⟩;have hs:=hs.step e91;refine⟨_,_,_,_,_,rfl,?_⟩;refine hs.newput (vs:=fltC _) rfl rfl fun h93 hs=>?_;have hs:=hs.drop 1;refine⟨k,r2,hs.at 2 rfl (o:=0) (n:=2) rfl,?_⟩;refine (check15 L (C++[di]) s r2 k h93 (c.hS.ext hs.ext) ⟨hs.rl 5 rfl (by omega) (by omega),fun d hd=>(c.hC.ext hs.ext).i d (hC2 d hd)⟩).mono ?_;rintro _ h102 ⟨rfl,e102⟩;have hs:=hs.step e102;refine⟨_,_,_,_,_,rfl,?_⟩;refine hs.newput (vs:=fltC _) rfl rfl fun h104 hs=>?_;have q1:(chkV (L.map MR.m) k (C.map Cr.cf)).2=(chkV (L.map MR.m) k (((C.set i dj).set j di).map Cr.cf)).2:=chk_same (fun x=>by
  rw[Yp,Yp];exact⟨fun ⟨d,hd,e⟩=>⟨d,(set_same gi gj d).1 hd,e⟩,fun ⟨d,hd,e⟩=>⟨d,hC1 d hd,e⟩⟩) (by rw[Yc];omega) (by rw[Yc];omega)
 have q2:(chkV (L.map MR.m) k (C.map Cr.cf)).2=(chkV (L.map MR.m) k ((C++[di]).map Cr.cf)).2:=chk_same (fun x=>by
  rw[Yp,Yp];exact⟨fun ⟨d,hd,e⟩=>⟨d,List.mem_append_left _ hd,e⟩,fun ⟨d,hd,e⟩=>⟨d,hC2 d hd,e⟩⟩) (by rw[Yc];omega) (by rw[Yc];omega)
 rw[<-q1,<-q2];refine sB_t (by simp) ?_;have:((chkV (L.map MR.m) k (C.map Cr.cf)).2==(chkV (L.map MR.m) k (C.map Cr.cf)).2)=true:=by simp
 rw[this];exact c.hR _ hs.ext
theorem lV4x (c:OqC L C s cs k x16 x18 h hB R) {h238 h37 h171:Heap} {x28 x32 x36:Sl} (hs:OqS C hB h238 none (some h37) (some h171) (some x28) (some x32) (some x36)):V4x h238 h k x28 h37 k x32 h171 k x36 x18 cs x16 cs s R:=by
 unfold V4x;refine VC.newb fun h239 e1 b1=>?_;have hs:=hs.nb0 e1 b1;refine⟨e1.sm,?_⟩;exact lV4a c hs
theorem lV4d (c:OqC L C s cs k x16 x18 h hB R) {h1128 h33 h852:Heap} {x28 x32:Sl} (hs:OqS C hB h1128 none (some h33) (some h852) (some x28) (some x32) none):V4d k cs h1128 h k x28 h33 k x32 h852 x18 cs x16 cs s R:=by
 unfold V4d;refine (ownO17 C cs k h1128 (c.hC.ext hs.ext)).mono ?_;rintro _ h1132 ⟨x1131,rfl,hl⟩;have hs:=hs.no2 hl;refine⟨k,x1131,rfl,hl.ext.sm,?_⟩;exact lV4x c hs
theorem lV4y (c:OqC L C s cs k x16 x18 h hB R) {h39 h37 h38:Heap} {x28 x32 x36:Sl} (hs:OqS C hB h39 (some h37) (some h38) none (some x28) (some x32) (some x36)):V4y h39 h h37 k x28 h38 k x32 k x36 x18 cs x16 cs s R:=by
 unfold V4y;refine VC.newb fun h40 e1 b1=>?_;have hs:=hs.nb2 e1 b1;refine⟨e1.sm,?_⟩;exact lV4a c hs
theorem lV4k (c:OqC L C s cs k x16 x18 h hB R) {h574 h33 h437:Heap} {x28 x32:Sl} (hs:OqS C hB h574 (some h33) (some h437) none (some x28) (some x32) none):V4k k cs h574 h h33 k x28 h437 k x32 x18 cs x16 cs s R:=by
 unfold V4k;refine (ownO17 C cs k h574 (c.hC.ext hs.ext)).mono ?_;rintro _ h578 ⟨x577,rfl,hl⟩;have hs:=hs.no2 hl;refine⟨k,x577,rfl,hl.ext.sm,?_⟩;exact lV4y c hs
theorem lV4b (c:OqC L C s cs k x16 x18 h hB R) {h644 h33 h437 h574:Heap} {x28 x32:Sl} (hs:OqS C hB h644 (some h33) (some h437) (some h574) (some x28) (some x32) none):V4b k cs h644 h h33 k x28 h437 k x32 h574 x18 cs x16 cs s R:=by
 unfold V4b;refine (ownO17 C cs k h644 (c.hC.ext hs.ext)).mono ?_;rintro _ h648 ⟨x647,rfl,hl⟩;have hs:=hs.no2 hl;refine⟨k,x647,rfl,hl.ext.sm,?_⟩;exact lV4a c hs
theorem lV4u (c:OqC L C s cs k x16 x18 h hB R) {h574 h33 h437:Heap} {x28 x32:Sl} (hs:OqS C hB h574 (some h33) (some h437) none (some x28) (some x32) none):V4u h574 h k cs h33 k x28 h437 k x32 x18 cs x16 cs s R:=by
 unfold V4u;refine VC.newb fun h644 e1 b1=>?_;have hs:=hs.nb2 e1 b1;refine⟨e1.sm,?_⟩;exact lV4b c hs
theorem lV4e (c:OqC L C s cs k x16 x18 h hB R) {h2101 h29 h1682:Heap} {x28:Sl} (hs:OqS C hB h2101 (some h29) (some h1682) none (some x28) none none):V4e k cs h2101 h k cs h29 k x28 h1682 x18 cs x16 cs s R:=by
 unfold V4e;refine (ownO17 C cs k h2101 (c.hC.ext hs.ext)).mono ?_;rintro _ h2105 ⟨x2104,rfl,hl⟩;have hs:=hs.no1 hl;refine⟨k,x2104,rfl,hl.ext.sm,?_⟩;refine⟨?_,?_⟩
 .exact lV4k c hs
 .exact lV4u c hs
theorem lV4w (c:OqC L C s cs k x16 x18 h hB R) {h105 h37 h38:Heap} {x28 x32 x36:Sl} (hs:OqS C hB h105 (some h37) none (some h38) (some x28) (some x32) (some x36)):V4w h105 h h37 k x28 k x32 h38 k x36 x18 cs x16 cs s R:=by
 unfold V4w;refine VC.newb fun h106 e1 b1=>?_;have hs:=hs.nb1 e1 b1;refine⟨e1.sm,?_⟩;exact lV4a c hs
theorem lV4l (c:OqC L C s cs k x16 x18 h hB R) {h713 h33 h437:Heap} {x28 x32:Sl} (hs:OqS C hB h713 (some h33) none (some h437) (some x28) (some x32) none):V4l k cs h713 h h33 k x28 k x32 h437 x18 cs x16 cs s R:=by
 unfold V4l;refine (ownO17 C cs k h713 (c.hC.ext hs.ext)).mono ?_;rintro _ h717 ⟨x716,rfl,hl⟩;have hs:=hs.no2 hl;refine⟨k,x716,rfl,hl.ext.sm,?_⟩;exact lV4w c hs
theorem lV4v (c:OqC L C s cs k x16 x18 h hB R) {h713 h33 h437:Heap} {x28 x32:Sl} (hs:OqS C hB h713 (some h33) none (some h437) (some x28) (some x32) none):V4v h713 h k cs h33 k x28 k x32 h437 x18 cs x16 cs s R:=by
 unfold V4v;refine VC.newb fun h783 e1 b1=>?_;have hs:=hs.nb1 e1 b1;refine⟨e1.sm,?_⟩;exact lV4b c hs
theorem lV4f (c:OqC L C s cs k x16 x18 h hB R) {h2317 h29 h1682:Heap} {x28:Sl} (hs:OqS C hB h2317 (some h29) none (some h1682) (some x28) none none):V4f k cs h2317 h k cs h29 k x28 h1682 x18 cs x16 cs s R:=by
 unfold V4f;refine (ownO17 C cs k h2317 (c.hC.ext hs.ext)).mono ?_;rintro _ h2321 ⟨x2320,rfl,hl⟩;have hs:=hs.no1 hl;refine⟨k,x2320,rfl,hl.ext.sm,?_⟩;refine⟨?_,?_⟩
 .exact lV4l c hs
 .exact lV4v c hs
theorem lV4o (c:OqC L C s cs k x16 x18 h hB R) {h437 h33:Heap} {x28 x32:Sl} (hs:OqS C hB h437 (some h33) none none (some x28) (some x32) none):V4o k cs h437 h h33 k x28 k x32 x18 cs x16 cs s R:=by
 unfold V4o;refine (ownO17 C cs k h437 (c.hC.ext hs.ext)).mono ?_;rintro _ h441 ⟨x440,rfl,hl⟩;have hs:=hs.no2 hl;refine⟨k,x440,rfl,hl.ext.sm,?_⟩;refine⟨?_,?_⟩
 .refine VC.newb fun h442 e1 b1=>?_;have hs:=hs.nb1 e1 b1;refine⟨e1.sm,?_⟩;exact lV4y c hs
 .refine VC.newb fun h508 e1 b1=>?_;have hs:=hs.nb2 e1 b1;refine⟨e1.sm,?_⟩;exact lV4w c hs
theorem lV4g (c:OqC L C s cs k x16 x18 h hB R) {h1682 h29:Heap} {x28:Sl} (hs:OqS C hB h1682 (some h29) none none (some x28) none none):V4g k cs h1682 h k cs h29 k x28 x18 cs x16 cs s R:=by
 unfold V4g;refine (ownO17 C cs k h1682 (c.hC.ext hs.ext)).mono ?_;rintro _ h1686 ⟨x1685,rfl,hl⟩;have hs:=hs.no1 hl;refine⟨k,x1685,rfl,hl.ext.sm,?_⟩;refine⟨?_,?_,?_⟩
 .exact lV4o c hs
 .refine VC.newb fun h1823 e1 b1=>?_;have hs:=hs.nb1 e1 b1;refine⟨e1.sm,?_⟩;refine⟨?_,?_⟩
  .exact lV4k c hs
  .exact lV4u c hs
 .refine VC.newb fun h1962 e1 b1=>?_;have hs:=hs.nb2 e1 b1;refine⟨e1.sm,?_⟩;refine⟨?_,?_⟩
  .exact lV4l c hs
  .exact lV4v c hs
theorem lV4p (c:OqC L C s cs k x16 x18 h hB R) {h852 h33:Heap} {x28 x32:Sl} (hs:OqS C hB h852 none (some h33) none (some x28) (some x32) none):V4p k cs h852 h k x28 h33 k x32 x18 cs x16 cs s R:=by
 unfold V4p;refine (ownO17 C cs k h852 (c.hC.ext hs.ext)).mono ?_;rintro _ h856 ⟨x855,rfl,hl⟩;have hs:=hs.no2 hl;refine⟨k,x855,rfl,hl.ext.sm,?_⟩;refine⟨?_,?_⟩
 .refine VC.newb fun h857 e1 b1=>?_;have hs:=hs.nb0 e1 b1;refine⟨e1.sm,?_⟩;exact lV4y c hs
 .refine VC.newb fun h923 e1 b1=>?_;have hs:=hs.nb2 e1 b1;refine⟨e1.sm,?_⟩;exact lV4x c hs
theorem lV4t (c:OqC L C s cs k x16 x18 h hB R) {h1128 h33 h852:Heap} {x28 x32:Sl} (hs:OqS C hB h1128 none (some h33) (some h852) (some x28) (some x32) none):V4t h1128 h k cs k x28 h33 k x32 h852 x18 cs x16 cs s R:=by
 unfold V4t;refine VC.newb fun h1198 e1 b1=>?_;have hs:=hs.nb0 e1 b1;refine⟨e1.sm,?_⟩;exact lV4b c hs
theorem lV4h (c:OqC L C s cs k x16 x18 h hB R) {h2533 h29:Heap} {x28:Sl} (hs:OqS C hB h2533 none (some h29) none (some x28) none none):V4h k cs h2533 h k cs k x28 h29 x18 cs x16 cs s R:=by
 unfold V4h;refine (ownO17 C cs k h2533 (c.hC.ext hs.ext)).mono ?_;rintro _ h2537 ⟨x2536,rfl,hl⟩;have hs:=hs.no1 hl;refine⟨k,x2536,rfl,hl.ext.sm,?_⟩;refine⟨?_,?_,?_⟩
 .exact lV4p c hs
 .refine VC.newb fun h2674 e1 b1=>?_;have hs:=hs.nb0 e1 b1;refine⟨e1.sm,?_⟩;refine⟨?_,?_⟩
  .exact lV4k c hs
  .exact lV4u c hs
 .refine VC.newb fun h2813 e1 b1=>?_;have hs:=hs.nb2 e1 b1;refine⟨e1.sm,?_⟩;refine⟨?_,?_⟩
  .exact lV4d c hs
  .exact lV4t c hs
theorem lV4n (c:OqC L C s cs k x16 x18 h hB R) {h1267 h33:Heap} {x28 x32:Sl} (hs:OqS C hB h1267 none none (some h33) (some x28) (some x32) none):V4n k cs h1267 h k x28 k x32 h33 x18 cs x16 cs s R:=by
 unfold V4n;refine (ownO17 C cs k h1267 (c.hC.ext hs.ext)).mono ?_;rintro _ h1271 ⟨x1270,rfl,hl⟩;have hs:=hs.no2 hl;refine⟨k,x1270,rfl,hl.ext.sm,?_⟩;refine⟨?_,?_⟩
 .refine VC.newb fun h1272 e1 b1=>?_;have hs:=hs.nb0 e1 b1;refine⟨e1.sm,?_⟩;exact lV4w c hs
 .refine VC.newb fun h1338 e1 b1=>?_;have hs:=hs.nb1 e1 b1;refine⟨e1.sm,?_⟩;exact lV4x c hs
theorem lV4i (c:OqC L C s cs k x16 x18 h hB R) {h3384 h29:Heap} {x28:Sl} (hs:OqS C hB h3384 none none (some h29) (some x28) none none):V4i k cs h3384 h k cs k x28 h29 x18 cs x16 cs s R:=by
 unfold V4i;refine (ownO17 C cs k h3384 (c.hC.ext hs.ext)).mono ?_;rintro _ h3388 ⟨x3387,rfl,hl⟩;have hs:=hs.no1 hl;refine⟨k,x3387,rfl,hl.ext.sm,?_⟩;refine⟨?_,?_,?_⟩
 .exact lV4n c hs
 .refine VC.newb fun h3525 e1 b1=>?_;have hs:=hs.nb0 e1 b1;refine⟨e1.sm,?_⟩;refine⟨?_,?_⟩
  .exact lV4l c hs
  .exact lV4v c hs
 .refine VC.newb fun h3664 e1 b1=>?_;have hs:=hs.nb1 e1 b1;refine⟨e1.sm,?_⟩;refine⟨?_,?_⟩
  .exact lV4d c hs
  .exact lV4t c hs
theorem lV4j (c:OqC L C s cs k x16 x18 h hB R) {h3168 h29 h2533:Heap} {x28:Sl} (hs:OqS C hB h3168 none (some h29) (some h2533) (some x28) none none):V4j k cs h3168 h k cs k x28 h29 h2533 x18 cs x16 cs s R:=by
 unfold V4j;refine (ownO17 C cs k h3168 (c.hC.ext hs.ext)).mono ?_;rintro _ h3172 ⟨x3171,rfl,hl⟩;have hs:=hs.no1 hl;refine⟨k,x3171,rfl,hl.ext.sm,?_⟩;refine⟨?_,?_⟩
 .exact lV4d c hs
 .exact lV4t c hs
theorem lV4c (c:OqC L C s cs k x16 x18 h hB R) {h2244 h29 h1682 h2101:Heap} {x28:Sl} (hs:OqS C hB h2244 (some h29) (some h1682) (some h2101) (some x28) none none):V4c k cs h2244 h k cs h29 k x28 h1682 h2101 x18 cs x16 cs s R:=by
 unfold V4c;refine (ownO17 C cs k h2244 (c.hC.ext hs.ext)).mono ?_;rintro _ h2248 ⟨x2247,rfl,hl⟩;have hs:=hs.no1 hl;refine⟨k,x2247,rfl,hl.ext.sm,?_⟩;exact lV4b c hs
theorem lV4m (c:OqC L C s cs k x16 x18 h hB R) {h5310 h14 h4235 h5090:Heap} (hs:OqS C hB h5310 (some h14) (some h4235) (some h5090) none none none):V4m k cs h5310 h k cs k cs h14 h4235 h5090 x18 cs x16 cs s R:=by
 unfold V4m;refine (ownO17 C cs k h5310 (c.hC.ext hs.ext)).mono ?_;rintro _ h5314 ⟨x5313,rfl,hl⟩;have hs:=hs.no0 hl;refine⟨k,x5313,rfl,hl.ext.sm,?_⟩;exact lV4c c hs
theorem lV4q (c:OqC L C s cs k x16 x18 h hB R) {h2101 h29 h1682:Heap} {x28:Sl} (hs:OqS C hB h2101 (some h29) (some h1682) none (some x28) none none):V4q h2101 h k cs k cs h29 k x28 h1682 x18 cs x16 cs s R:=by
 unfold V4q;refine VC.newb fun h2244 e1 b1=>?_;have hs:=hs.nb2 e1 b1;refine⟨e1.sm,?_⟩;exact lV4c c hs
theorem lV4r (c:OqC L C s cs k x16 x18 h hB R) {h2317 h29 h1682:Heap} {x28:Sl} (hs:OqS C hB h2317 (some h29) none (some h1682) (some x28) none none):V4r h2317 h k cs k cs h29 k x28 h1682 x18 cs x16 cs s R:=by
 unfold V4r;refine VC.newb fun h2460 e1 b1=>?_;have hs:=hs.nb1 e1 b1;refine⟨e1.sm,?_⟩;exact lV4c c hs
theorem lV4s (c:OqC L C s cs k x16 x18 h hB R) {h3168 h29 h2533:Heap} {x28:Sl} (hs:OqS C hB h3168 none (some h29) (some h2533) (some x28) none none):V4s h3168 h k cs k cs k x28 h29 h2533 x18 cs x16 cs s R:=by
 unfold V4s;refine VC.newb fun h3311 e1 b1=>?_;have hs:=hs.nb0 e1 b1;refine⟨e1.sm,?_⟩;exact lV4c c hs
theorem lV4z (c:OqC L C s cs k x16 x18 h hB R) {h5090 h14 h4235:Heap} (hs:OqS C hB h5090 (some h14) (some h4235) none none none none):V4z k cs h5090 h k cs k cs h14 h4235 x18 cs x16 cs s R:=by
 unfold V4z;refine (ownO17 C cs k h5090 (c.hC.ext hs.ext)).mono ?_;rintro _ h5094 ⟨x5093,rfl,hl⟩;have hs:=hs.no0 hl;refine⟨k,x5093,rfl,hl.ext.sm,?_⟩;refine⟨?_,?_⟩
 .exact lV4e c hs
 .exact lV4q c hs
theorem lV4za (c:OqC L C s cs k x16 x18 h hB R) {h5387 h14 h4235:Heap} (hs:OqS C hB h5387 (some h14) none (some h4235) none none none):V4za k cs h5387 h k cs k cs h14 h4235 x18 cs x16 cs s R:=by
 unfold V4za;refine (ownO17 C cs k h5387 (c.hC.ext hs.ext)).mono ?_;rintro _ h5391 ⟨x5390,rfl,hl⟩;have hs:=hs.no0 hl;refine⟨k,x5390,rfl,hl.ext.sm,?_⟩;refine⟨?_,?_⟩
 .exact lV4f c hs
 .exact lV4r c hs
theorem lV4zb (c:OqC L C s cs k x16 x18 h hB R) {h6836 h14 h5684:Heap} (hs:OqS C hB h6836 none (some h14) (some h5684) none none none):V4zb k cs h6836 h k cs k cs h14 h5684 x18 cs x16 cs s R:=by
 unfold V4zb;refine (ownO17 C cs k h6836 (c.hC.ext hs.ext)).mono ?_;rintro _ h6840 ⟨x6839,rfl,hl⟩;have hs:=hs.no0 hl;refine⟨k,x6839,rfl,hl.ext.sm,?_⟩;refine⟨?_,?_⟩
 .exact lV4j c hs
 .exact lV4s c hs
end
theorem certifyOrder4 (L:List MR) (s:Sl) (C:List Cr) (cs:Sl) (k b1 b2:Int) (h:Heap) (hx:Gx h) (hS:SyI h s L) (hC:CtI h cs C) (hb1:0<=b1/\b1<256) (hb2:0<=b2/\b2<256) :
  Fn Pz 4 #[.slice s.a s.n s.c,.agg ⟨[.int .i64 k,.slice cs.a cs.n cs.c]⟩,.agg ⟨[.int .u8 b1,.int .u8 b2]⟩] h fun v h'=>v=.bool true/\Ext h h':=by
 apply vc4 s k cs b1 b2;unfold W4;have hcn:=hC.r.ln;refine (St.refl h).newb fun h5 hs=>?_;refine hs.newb fun h6 hs=>?_;refine (awakeC9 h6 (hx.ext hs.ext)).mono ?_;rintro _ h9 ⟨rfl,E9⟩;have hs:=hs.step E9;refine⟨true,rfl,sB_f rfl ⟨k,cs,hs.at 1 rfl (o:=0) (n:=2) rfl,?_⟩⟩;refine (smallC16 L s C cs k h9 (hS.ext hs.ext) (hC.ext hs.ext)).mono ?_;rintro _ h14 ⟨b,rfl,hb,E14⟩;have hs:=hs.step E14;refine⟨b,rfl,sB_intro (fun c=>⟨rfl,hs.ext⟩) (fun c=>⟨cs,hs.rd 1 rfl (i:=1) rfl,sBe (fun _=>⟨rfl,hs.ext⟩) (fun c2=>?_)⟩)⟩;have h120:=hb (by cases b with | true=>rfl | false=>cases c);refine⟨⟨by decide,by decide⟩,b1,hs.rd 0 rfl (i:=0) rfl,cs,hs.rd 1 rfl (i:=1) rfl,c2,⟨by decide,by decide⟩,b2,hs.rd 0 rfl (i:=1) rfl,cs,hs.rd 1 rfl (i:=1) rfl,c2,?_⟩;refine⟨k,cs,hs.at 1 rfl (o:=0) (n:=2) rfl,k,cs,hs.at 1 rfl (o:=0) (n:=2) rfl,k,cs,hs.at 1 rfl (o:=0) (n:=2) rfl,?_⟩;have c:OqC L C s cs k b1 b2 h h14 fun v h'=>v=.bool true/\Ext h h':=⟨hS.ext hs.ext,hC.ext hs.ext,by have:=hs.rd 1 rfl (i:=0) (v:=.int .i64 k) rfl;exact hc_lt this,fun h' E=>⟨rfl,hs.ext.trans E⟩,⟨h120,by omega⟩,hb1,hb2⟩;clear hs;have hs:OqS C h14 h14 none none none none none none:=St.refl h14;refine⟨?_,?_,?_,?_⟩
 .refine (ownO17 C cs k h14 (c.hC.ext hs.ext)).mono ?_;rintro _ h29 ⟨x28,rfl,hl⟩;have hs:=hs.no0 hl;refine⟨k,x28,rfl,hl.ext.sm,?_⟩;refine⟨?_,?_,?_,?_⟩
  .refine (ownO17 C cs k h29 (c.hC.ext hs.ext)).mono ?_;rintro _ h33 ⟨x32,rfl,hl⟩;have hs:=hs.no1 hl;refine⟨k,x32,rfl,hl.ext.sm,?_⟩;refine⟨?_,?_,?_,?_⟩
   .refine (ownO17 C cs k h33 (c.hC.ext hs.ext)).mono ?_;rintro _ h37 ⟨x36,rfl,hl⟩;have hs:=hs.no2 hl;refine⟨k,x36,rfl,hl.ext.sm,?_⟩;refine⟨?_,?_,?_⟩
    .refine VC.newb fun h38 e1 b1=>?_;have hs:=hs.nb0 e1 b1;refine⟨e1.sm,?_⟩;refine⟨?_,?_⟩
     .refine VC.newb fun h39 e1 b1=>?_;have hs:=hs.nb1 e1 b1;refine⟨e1.sm,?_⟩;exact lV4y c hs
     .refine VC.newb fun h105 e1 b1=>?_;have hs:=hs.nb2 e1 b1;refine⟨e1.sm,?_⟩;exact lV4w c hs
    .refine VC.newb fun h171 e1 b1=>?_;have hs:=hs.nb1 e1 b1;refine⟨e1.sm,?_⟩;refine⟨?_,?_⟩
     .refine VC.newb fun h172 e1 b1=>?_;have hs:=hs.nb0 e1 b1;refine⟨e1.sm,?_⟩;exact lV4y c hs
     .refine VC.newb fun h238 e1 b1=>?_;have hs:=hs.nb2 e1 b1;refine⟨e1.sm,?_⟩;exact lV4x c hs
    .refine VC.newb fun h304 e1 b1=>?_;have hs:=hs.nb2 e1 b1;refine⟨e1.sm,?_⟩;refine⟨?_,?_⟩
     .refine VC.newb fun h305 e1 b1=>?_;have hs:=hs.nb0 e1 b1;refine⟨e1.sm,?_⟩;exact lV4w c hs
     .refine VC.newb fun h371 e1 b1=>?_;have hs:=hs.nb1 e1 b1;refine⟨e1.sm,?_⟩;exact lV4x c hs
   .refine VC.newb fun h437 e1 b1=>?_;have hs:=hs.nb0 e1 b1;refine⟨e1.sm,?_⟩;refine⟨?_,?_,?_⟩
    .exact lV4o c hs
    .refine VC.newb fun h574 e1 b1=>?_;have hs:=hs.nb1 e1 b1;refine⟨e1.sm,?_⟩;refine⟨?_,?_⟩
     .exact lV4k c hs
     .exact lV4u c hs
    .refine VC.newb fun h713 e1 b1=>?_;have hs:=hs.nb2 e1 b1;refine⟨e1.sm,?_⟩;refine⟨?_,?_⟩
     .exact lV4l c hs
     .exact lV4v c hs
   .refine VC.newb fun h852 e1 b1=>?_;have hs:=hs.nb1 e1 b1;refine⟨e1.sm,?_⟩;refine⟨?_,?_,?_⟩
    .exact lV4p c hs
    .refine VC.newb fun h989 e1 b1=>?_;have hs:=hs.nb0 e1 b1;refine⟨e1.sm,?_⟩;refine⟨?_,?_⟩
     .exact lV4k c hs
     .exact lV4u c hs
    .refine VC.newb fun h1128 e1 b1=>?_;have hs:=hs.nb2 e1 b1;refine⟨e1.sm,?_⟩;refine⟨?_,?_⟩
     .exact lV4d c hs
     .exact lV4t c hs
   .refine VC.newb fun h1267 e1 b1=>?_;have hs:=hs.nb2 e1 b1;refine⟨e1.sm,?_⟩;refine⟨?_,?_,?_⟩
    .exact lV4n c hs
    .refine VC.newb fun h1404 e1 b1=>?_;have hs:=hs.nb0 e1 b1;refine⟨e1.sm,?_⟩;refine⟨?_,?_⟩
     .exact lV4l c hs
     .exact lV4v c hs
    .refine VC.newb fun h1543 e1 b1=>?_;have hs:=hs.nb1 e1 b1;refine⟨e1.sm,?_⟩;refine⟨?_,?_⟩
     .exact lV4d c hs
     .exact lV4t c hs
  .refine VC.newb fun h1682 e1 b1=>?_;have hs:=hs.nb0 e1 b1;refine⟨e1.sm,?_⟩;refine⟨?_,?_,?_⟩
   .exact lV4g c hs
   .refine VC.newb fun h2101 e1 b1=>?_;have hs:=hs.nb1 e1 b1;refine⟨e1.sm,?_⟩;refine⟨?_,?_⟩
    .exact lV4e c hs
    .exact lV4q c hs
   .refine VC.newb fun h2317 e1 b1=>?_;have hs:=hs.nb2 e1 b1;refine⟨e1.sm,?_⟩;refine⟨?_,?_⟩
    .exact lV4f c hs
    .exact lV4r c hs
  .refine VC.newb fun h2533 e1 b1=>?_;have hs:=hs.nb1 e1 b1;refine⟨e1.sm,?_⟩;refine⟨?_,?_,?_⟩
   .exact lV4h c hs
   .refine VC.newb fun h2952 e1 b1=>?_;have hs:=hs.nb0 e1 b1;refine⟨e1.sm,?_⟩;refine⟨?_,?_⟩
    .exact lV4e c hs
    .exact lV4q c hs
   .refine VC.newb fun h3168 e1 b1=>?_;have hs:=hs.nb2 e1 b1;refine⟨e1.sm,?_⟩;refine⟨?_,?_⟩
    .exact lV4j c hs
    .exact lV4s c hs
  .refine VC.newb fun h3384 e1 b1=>?_;have hs:=hs.nb2 e1 b1;refine⟨e1.sm,?_⟩;refine⟨?_,?_,?_⟩
   .exact lV4i c hs
   .refine VC.newb fun h3803 e1 b1=>?_;have hs:=hs.nb0 e1 b1;refine⟨e1.sm,?_⟩;refine⟨?_,?_⟩
    .exact lV4f c hs
    .exact lV4r c hs
   .refine VC.newb fun h4019 e1 b1=>?_;have hs:=hs.nb1 e1 b1;refine⟨e1.sm,?_⟩;refine⟨?_,?_⟩
    .exact lV4j c hs
    .exact lV4s c hs
 .refine VC.newb fun h4235 e1 b1=>?_;have hs:=hs.nb0 e1 b1;refine⟨e1.sm,?_⟩;refine⟨?_,?_,?_⟩
  .refine (ownO17 C cs k h4235 (c.hC.ext hs.ext)).mono ?_;rintro _ h4239 ⟨x4238,rfl,hl⟩;have hs:=hs.no0 hl;refine⟨k,x4238,rfl,hl.ext.sm,?_⟩;refine⟨?_,?_,?_⟩
   .exact lV4g c hs
   .refine VC.newb fun h4658 e1 b1=>?_;have hs:=hs.nb1 e1 b1;refine⟨e1.sm,?_⟩;refine⟨?_,?_⟩
    .exact lV4e c hs
    .exact lV4q c hs
   .refine VC.newb fun h4874 e1 b1=>?_;have hs:=hs.nb2 e1 b1;refine⟨e1.sm,?_⟩;refine⟨?_,?_⟩
    .exact lV4f c hs
    .exact lV4r c hs
  .refine VC.newb fun h5090 e1 b1=>?_;have hs:=hs.nb1 e1 b1;refine⟨e1.sm,?_⟩;refine⟨?_,?_⟩
   .exact lV4z c hs
   .refine VC.newb fun h5310 e1 b1=>?_;have hs:=hs.nb2 e1 b1;refine⟨e1.sm,?_⟩;exact lV4m c hs
  .refine VC.newb fun h5387 e1 b1=>?_;have hs:=hs.nb2 e1 b1;refine⟨e1.sm,?_⟩;refine⟨?_,?_⟩
   .exact lV4za c hs
   .refine VC.newb fun h5607 e1 b1=>?_;have hs:=hs.nb1 e1 b1;refine⟨e1.sm,?_⟩;exact lV4m c hs
 .refine VC.newb fun h5684 e1 b1=>?_;have hs:=hs.nb1 e1 b1;refine⟨e1.sm,?_⟩;refine⟨?_,?_,?_⟩
  .refine (ownO17 C cs k h5684 (c.hC.ext hs.ext)).mono ?_;rintro _ h5688 ⟨x5687,rfl,hl⟩;have hs:=hs.no0 hl;refine⟨k,x5687,rfl,hl.ext.sm,?_⟩;refine⟨?_,?_,?_⟩
   .exact lV4h c hs
   .refine VC.newb fun h6107 e1 b1=>?_;have hs:=hs.nb0 e1 b1;refine⟨e1.sm,?_⟩;refine⟨?_,?_⟩
    .exact lV4e c hs
    .exact lV4q c hs
   .refine VC.newb fun h6323 e1 b1=>?_;have hs:=hs.nb2 e1 b1;refine⟨e1.sm,?_⟩;refine⟨?_,?_⟩
    .exact lV4j c hs
    .exact lV4s c hs
  .refine VC.newb fun h6539 e1 b1=>?_;have hs:=hs.nb0 e1 b1;refine⟨e1.sm,?_⟩;refine⟨?_,?_⟩
   .exact lV4z c hs
   .refine VC.newb fun h6759 e1 b1=>?_;have hs:=hs.nb2 e1 b1;refine⟨e1.sm,?_⟩;exact lV4m c hs
  .refine VC.newb fun h6836 e1 b1=>?_;have hs:=hs.nb2 e1 b1;refine⟨e1.sm,?_⟩;refine⟨?_,?_⟩
   .exact lV4zb c hs
   .refine VC.newb fun h7056 e1 b1=>?_;have hs:=hs.nb0 e1 b1;refine⟨e1.sm,?_⟩;exact lV4m c hs
 .refine VC.newb fun h7133 e1 b1=>?_;have hs:=hs.nb2 e1 b1;refine⟨e1.sm,?_⟩;refine⟨?_,?_,?_⟩
  .refine (ownO17 C cs k h7133 (c.hC.ext hs.ext)).mono ?_;rintro _ h7137 ⟨x7136,rfl,hl⟩;have hs:=hs.no0 hl;refine⟨k,x7136,rfl,hl.ext.sm,?_⟩;refine⟨?_,?_,?_⟩
   .exact lV4i c hs
   .refine VC.newb fun h7556 e1 b1=>?_;have hs:=hs.nb0 e1 b1;refine⟨e1.sm,?_⟩;refine⟨?_,?_⟩
    .exact lV4f c hs
    .exact lV4r c hs
   .refine VC.newb fun h7772 e1 b1=>?_;have hs:=hs.nb1 e1 b1;refine⟨e1.sm,?_⟩;refine⟨?_,?_⟩
    .exact lV4j c hs
    .exact lV4s c hs
  .refine VC.newb fun h7988 e1 b1=>?_;have hs:=hs.nb0 e1 b1;refine⟨e1.sm,?_⟩;refine⟨?_,?_⟩
   .exact lV4za c hs
   .refine VC.newb fun h8208 e1 b1=>?_;have hs:=hs.nb1 e1 b1;refine⟨e1.sm,?_⟩;exact lV4m c hs
  .refine VC.newb fun h8285 e1 b1=>?_;have hs:=hs.nb1 e1 b1;refine⟨e1.sm,?_⟩;refine⟨?_,?_⟩
   .exact lV4zb c hs
   .refine VC.newb fun h8505 e1 b1=>?_;have hs:=hs.nb0 e1 b1;refine⟨e1.sm,?_⟩;exact lV4m c hs
end Go.VC
end

section
namespace Go.VC
open Go.Proofs Go.LexS Go.RowKit Go.ChangeShapes Go.WideShapes Go.Proofs.YtibmnldhlgcnjaaGreatDoor
theorem bulk_pos {H:Type} (d:DataW H):1<=Rows.uptoBulk d:=by
 cases d with
 | lit l=>cases l<;>simp[Rows.uptoBulk]
 | _=>simp[Rows.uptoBulk]
theorem bulk_part {H:Type}:∀ {l:List (DataW H)} {d:DataW H},d∈l->Rows.uptoBulk d<=Rows.uptoBulkAll l
 | [],_,h=>by cases h
 | x::r,d,h=>by
  rw[Rows.uptoBulkAll];rcases Yr.1 h with rfl | h
  .omega
  .have:=bulk_part h;omega
theorem bulk_len {H:Type}:∀l:List (DataW H),l.length<=Rows.uptoBulkAll l
 | []=>by simp
 | x::r=>by
  have h1:=bulk_pos x;have h2:=bulk_len r;rw[Rows.uptoBulkAll,Yyj];omega
def Rdb (P:Program) (W:World) (t:TypeId) (cs:List Value):Prop:=
 ∃(H:Type) (enc:TypeId × Value->H) (n:Nat) (x:DataW H × List MemPlace),DataW.trod enc P W 0 (fun _=>true) true n t cs=some x/\Rows.uptoBulk x.1<=1048576
theorem Rdb.rdt {P:Program} {W:World} {t:TypeId} {cs:List Value} (h:Rdb P W t cs):Rdt P W t cs:=by
 obtain⟨H,enc,n,x,h1,_⟩:=h;exact⟨H,enc,n,x,h1⟩
theorem rdb_of_trod {H:Type} {enc:TypeId × Value->H} {P:Program} {W:World} {t:TypeId} {v:Value} {d:DataW H} {p:List MemPlace} (h:DataW.Trod enc P W 0 (fun _=>true) true t v d p) (hw:Rows.uptoBulk d<=1048576):Rdb P W t v.cells.toList:=by
 obtain⟨n,h⟩:=h;exact⟨H,enc,n,_,h,hw⟩
theorem Rdb.field {P:Program} {W:World} {t ft:TypeId} {cs:List Value} {i off:Nat} (h:Rdb P W t cs) (hf:fieldAt P t i=some (ft,off)):Rdb P W ft ((cs.drop off).take (P.cellsOf ft)):=by
 unfold fieldAt at hf;split at hf
 .rename_i fs hu;obtain⟨f,h1,h2⟩:=Yya.1 hf;cases h2;obtain⟨H,enc,n,x,h,hw⟩:=h;obtain⟨xs,m,_,hx,hl,hxl,hfi⟩:=DataW.trod_struct hu h;have hlt:i<xs.length:=by rw[hxl];exact (Yyg.1 h1).1
  refine⟨H,enc,m,xs[i],by rw[hfi i f h1,Yi hlt],?_⟩;rw[hx,Rows.uptoBulk] at hw;have:=bulk_part (l:=xs.map (·.1)) (d:=xs[i].1) (Yp.2 ⟨xs[i],List.getElem_mem hlt,rfl⟩);omega
 .cases hf
theorem Rdb.array {P:Program} {W:World} {t e:TypeId} {n:Nat} {cs:List Value} (ht:P.underlying t=some (.array n e)) (h:Rdb P W t cs) :
  cs.length=P.cellsOf t/\∀i,i<n->Rdb P W e ((cs.drop (i*P.cellsOf e)).take (P.cellsOf e)):=by
 obtain⟨H,enc,m,x,h,hw⟩:=h;obtain⟨xs,k,_,hx,hl,hxl,hf⟩:=DataW.trod_array ht h;refine⟨hl,fun i hi=>?_⟩;have hlt:i<xs.length:=by omega
 refine⟨H,enc,k,xs[i],by rw[hf i hi,Yi hlt],?_⟩;rw[hx,Rows.uptoBulk] at hw;have:=bulk_part (l:=xs.map (·.1)) (d:=xs[i].1) (Yp.2 ⟨xs[i],List.getElem_mem hlt,rfl⟩);omega
theorem Rdb.rows {P:Program} {W:World} {t e:TypeId} {cs:List Value} (ht:P.underlying t=some (.slice e)) (h:Rdb P W t cs) (hpos:0<P.cellsOf e) :
  ∃(s:Sl) (rows:List (List Value)),cs=[.slice s.a s.n s.c]/\s.n<=s.c/\s.n<=1048576/\(s.a=none->s.n=0/\s.c=0)/\Rw W.heap (P.cellsOf e) s rows/\∀r∈rows,r.length=P.cellsOf e/\Rdb P W e r:=by
 obtain⟨H,enc,n,x,h,hw⟩:=h;rcases DataW.trod_slice ht h with ⟨rfl,_⟩ | ⟨a,len,cap,elems,rest,m,_,rfl,hx,_,hlc,hcm,hel,helem,_,_⟩
 .exact⟨⟨none,0,0⟩,[],rfl,Yyt _,Nat.zero_le _,fun _=>⟨rfl,rfl⟩,Rw.nil,fun r hr=>by cases hr⟩
 .rw[hx,Rows.uptoBulk] at hw;have hle:len<=1048576:=by
   have:=bulk_len (elems.map (·.1));rw[Yc] at this;omega
  have hwe:∀(i:Nat) (hi:i<elems.length),Rows.uptoBulk elems[i].1<=1048576:=fun i hi=>by
   have:=bulk_part (l:=elems.map (·.1)) (d:=elems[i].1) (Yp.2 ⟨elems[i],List.getElem_mem hi,rfl⟩);omega
  by_cases h0:len=0
  .subst h0;exact⟨⟨some a,0,cap⟩,[],rfl,hlc,hle,fun e=>(by cases e),Rw.empty rfl,fun r hr=>by cases hr⟩
  .have hrow:∀i,i<len->∃r,W.cells? 0 (a.add (i*P.cellsOf e)) (P.cellsOf e)=some r/\Rdb P W e r:=by
    intro i hi;have h1:=helem i hi;rw[Yi (by omega)] at h1;obtain⟨r,hr,hx2⟩:=Option.bind_eq_some_iff.1 h1;exact⟨r,hr,H,enc,m,_,hx2,hwe i (by omega)⟩
   let row:Nat->List Value:=fun i=>(W.cells? 0 (a.add (i*P.cellsOf e)) (P.cellsOf e)).getD []
   have hrow':∀i,i<len->W.cells? 0 (a.add (i*P.cellsOf e)) (P.cellsOf e)=some (row i)/\Rdb P W e (row i):=fun i hi=>by
    obtain⟨r,hr,hx⟩:=hrow i hi;have:row i=r:=by show (W.cells? 0 _ _).getD []=r;rw[hr];rfl
    rw[this];exact⟨hr,hx⟩
   have hget:∀i,i<len->((List.range len).map row)[i]?=some (row i):=fun i hi=>by
    rw[Yd,Yyb hi];rfl
   have hspot:a=⟨a.block,a.off,none⟩:=by
    have hc:=(cells_at (hrow' 0 (by omega)).1);have hl0:0<(row 0).length:=by rw[hc.1];exact hpos
    have:=hc.2 0 _ (Yi hl0);rw[Nat.zero_mul,show (a.add 0).add 0=a from rfl] at this;unfold World.cell? at this;split at this
    .split at this
     .cases this
     .rename_i hs;cases a with
      | mk b o s=>
       cases s with
       | none=>rfl
       | some s=>exact absurd rfl hs
    .cases this
   refine⟨⟨some a,len,cap⟩,(List.range len).map row,rfl,hlc,hle,fun e=>(by cases e),⟨by simp,fun _=>⟨a.block,a.off,by rw[<-hspot],fun i r hi j v hj=>?_⟩⟩,fun r hr=>?_⟩
   .have hil:i<len:=by have:=(Ya.1 hi).1;simpa using this
    rw[hget i hil] at hi;cases hi;have h4:=(cells_at (hrow' i hil).1).2 _ _ hj;rw[hspot] at h4;have e:((⟨a.block,a.off,none⟩:Addr).add (i*P.cellsOf e)).add j=addk ⟨a.block,a.off+i*P.cellsOf e,none⟩ j:=by
     rw[addk_at,add_n,add_n]
    rw[e] at h4;exact h4
   .obtain⟨i,hi,rfl⟩:=Yp.1 hr;have:=hrow' i (List.mem_range.1 hi);exact⟨(cells_at this.1).1,this.2⟩
theorem Rdb.list {α:Type} {P:Program} {W:World} {t e:TypeId} {k:Nat} {v:Value} {cs:α->List Value} {Q:α->Prop} (ht:P.underlying t=some (.slice e)) (hk:P.cellsOf e=k) (hpos:0<k)
  (ho:∀r,Rdb P W e r->∃x,r=cs x/\Q x) (h:Rdb P W t [v]):∃(s:Sl) (L:List α),v=.slice s.a s.n s.c/\RL W.heap k s cs L/\∀x∈L,Q x:=by
 subst hk;obtain⟨s,rows,e1,hc,hm,hna,hrw,hr⟩:=h.rows ht hpos;have key:∀rows:List (List Value),(∀r∈rows,r.length=P.cellsOf e/\Rdb P W e r)->∃L:List α,rows=L.map cs/\∀x∈L,Q x:=by
  intro rows
  induction rows with
  | nil=>intro _;exact⟨[],rfl,fun x hx=>by cases hx⟩
  | cons r rows ih=>
   intro h;obtain⟨x,hx,hq⟩:=ho r (h r (by simp)).2;obtain⟨L,hL,hQ⟩:=ih fun y hy=>h y (Yn _ hy);exact⟨x::L,by rw[hx,hL];rfl,fun y hy=>by rcases Yr.1 hy with rfl | hy;exact hq;exact hQ y hy⟩
 obtain⟨L,rfl,hQ⟩:=key rows hr;have hn:=hrw.ln;exact⟨s,L,by simpa using e1,⟨hrw,hc,hna,by omega⟩,hQ⟩
theorem v3:Pz.underlying 3=some (.int .i64):=by kernel_rfl
theorem v4b:Pz.underlying 4=some .bool:=by kernel_rfl
theorem cz3:Pz.cellsOf 3=1:=by kernel_rfl
theorem cz4:Pz.cellsOf 4=1:=by kernel_rfl
theorem cz95:Pz.cellsOf 95=1:=by kernel_rfl
theorem cz96:Pz.cellsOf 96=1:=by kernel_rfl
theorem cz90:Pz.cellsOf 90=1:=by kernel_rfl
theorem cz98:Pz.cellsOf 98=6:=by kernel_rfl
theorem cz230:Pz.cellsOf 230=3:=by kernel_rfl
theorem cz110:Pz.cellsOf 110=6:=by kernel_rfl
theorem vs95:Pz.underlying 95=some (.slice 4):=by kernel_rfl
theorem vs96:Pz.underlying 96=some (.slice 110):=by kernel_rfl
theorem vs90:Pz.underlying 90=some (.slice 230):=by kernel_rfl
theorem Rdb.sl {P:Program} {W:World} {t e:TypeId} {cs:List Value} (ht:P.underlying t=some (.slice e)) (h:Rdb P W t cs):∃s:Sl,cs=[.slice s.a s.n s.c]:=by
 obtain⟨H,enc,n,x,h,_⟩:=h;rcases DataW.trod_slice ht h with ⟨rfl,_⟩ | ⟨a,len,cap,elems,rest,m,_,rfl,_⟩
 .exact⟨⟨none,0,0⟩,rfl⟩
 .exact⟨⟨some a,len,cap⟩,rfl⟩
theorem open_three {W:World} {t:TypeId} {r:List Value} (hc:Pz.cellsOf t=3) (h0:fieldAt Pz t 0=some (3,0)) (h1:fieldAt Pz t 1=some (3,1)) (h2:fieldAt Pz t 2=some (3,2)) (h:Rdt Pz W t r) :
  ∃a b c:Int,r=[.int .i64 a,.int .i64 b,.int .i64 c]:=by
 have hl:=h.flen h0;rw[hc] at hl
 match r,hl with
 | [x0,x1,x2],_=>
  have f0:=h.field h0;have f1:=h.field h1;have f2:=h.field h2;rw[cz3] at f0 f1 f2;obtain⟨k0,e0,_⟩:=f0.int v3;obtain⟨k1,e1,_⟩:=f1.int v3;obtain⟨k2,e2,_⟩:=f2.int v3;simp only[List.drop_zero,List.take_succ_cons,Yyk,List.drop_succ_cons,List.cons.injEq,and_true] at e0 e1 e2;subst e0 e1 e2;exact⟨k0,k1,k2,rfl⟩
theorem open_boolv {W:World} {r:List Value} (h:Rdb Pz W 4 r):∃x:Bool,r=bC x/\True:=by
 obtain⟨k,e⟩:=h.rdt.bool v4b;exact⟨k,e,trivial⟩
theorem open_limit {W:World} {r:List Value} (h:Rdb Pz W 230 r):∃x:To,r=x.cs/\True:=by
 obtain⟨a,b,c,e⟩:=open_three cz230 (by kernel_rfl) (by kernel_rfl) (by kernel_rfl) h.rdt;exact⟨⟨a,b,c⟩,e,trivial⟩
theorem open_move {W:World} {r:List Value} (h:Rdb Pz W 110 r):∃x:Mv,r=x.cs/\True:=by
 have hl:=h.rdt.flen (i:=0) (ft:=3) (off:=0) (by kernel_rfl);rw[cz110] at hl
 match r,hl with
 | [x0,x1,x2,x3,x4,x5],_=>
  have f0:=h.rdt.field (i:=0) (ft:=3) (off:=0) (by kernel_rfl);have f1:=h.rdt.field (i:=1) (ft:=4) (off:=1) (by kernel_rfl);have f2:=h.rdt.field (i:=2) (ft:=3) (off:=2) (by kernel_rfl);have f3:=h.rdt.field (i:=3) (ft:=3) (off:=3) (by kernel_rfl);have f4:=h.rdt.field (i:=4) (ft:=3) (off:=4) (by kernel_rfl);have f5:=h.rdt.field (i:=5) (ft:=4) (off:=5) (by kernel_rfl);rw[cz3] at f0 f2 f3 f4;rw[cz4] at f1 f5;obtain⟨k0,e0,_⟩:=f0.int v3;obtain⟨k1,e1⟩:=f1.bool v4b;obtain⟨k2,e2,_⟩:=f2.int v3;obtain⟨k3,e3,_⟩:=f3.int v3;obtain⟨k4,e4,_⟩:=f4.int v3;obtain⟨k5,e5⟩:=f5.bool v4b;simp only[List.drop_zero,List.take_succ_cons,Yyk,List.drop_succ_cons,List.cons.injEq,and_true] at e0 e1 e2 e3 e4 e5;subst e0 e1 e2 e3 e4 e5;exact⟨⟨k0,k1,k2,k3,k4,k5⟩,rfl,trivial⟩
theorem open_machine {W:World} {r:List Value} (h:Rdb Pz W 98 r):∃(m:Mch) (sf sm sl:Sl),r=mC m sf sm sl/\MI W.heap m sf sm sl:=by
 have hl:=h.rdt.flen (i:=0) (ft:=3) (off:=0) (by kernel_rfl);rw[cz98] at hl
 match r,hl with
 | [x0,x1,x2,x3,x4,x5],_=>
  have f0:=h.rdt.field (i:=0) (ft:=3) (off:=0) (by kernel_rfl);have f1:=h.rdt.field (i:=1) (ft:=3) (off:=1) (by kernel_rfl);have f2:=h.rdt.field (i:=2) (ft:=3) (off:=2) (by kernel_rfl);have f3:=h.field (i:=3) (ft:=95) (off:=3) (by kernel_rfl);have f4:=h.field (i:=4) (ft:=96) (off:=4) (by kernel_rfl);have f5:=h.field (i:=5) (ft:=90) (off:=5) (by kernel_rfl);rw[cz3] at f0 f1 f2;rw[cz95] at f3;rw[cz96] at f4;rw[cz90] at f5;obtain⟨k0,e0,_⟩:=f0.int v3;obtain⟨k1,e1,_⟩:=f1.int v3;obtain⟨k2,e2,_⟩:=f2.int v3;obtain⟨sf,lf,e3,hf,_⟩:=Rdb.list vs95 cz4 (by omega) (fun r hr=>open_boolv hr) (show Rdb Pz W 95 [x3] from f3);obtain⟨sm,lm,e4,hm,_⟩:=Rdb.list vs96 cz110 (by omega) (fun r hr=>open_move hr) (show Rdb Pz W 96 [x4] from f4);obtain⟨sl,ll,e5,hl,_⟩:=Rdb.list vs90 cz230 (by omega) (fun r hr=>open_limit hr) (show Rdb Pz W 90 [x5] from f5);simp only[List.drop_zero,List.take_succ_cons,Yyk,List.drop_succ_cons,List.cons.injEq,and_true] at e0 e1 e2;subst e0 e1 e2 e3 e4 e5;exact⟨⟨k0,k1,k2,lf,lm,ll⟩,sf,sm,sl,rfl,⟨hf,hm,hl⟩⟩
theorem cz5:Pz.cellsOf 5=1:=by kernel_rfl
theorem vsS54:Pz.underlying 54=some (.slice 5):=by kernel_rfl
theorem v5u:Pz.underlying 5=some (.int .u8):=by kernel_rfl
theorem vsS22:Pz.underlying 22=some (.slice 98):=by kernel_rfl
theorem vsS25:Pz.underlying 25=some (.slice 3):=by kernel_rfl
theorem vsS26:Pz.underlying 26=some (.slice 25):=by kernel_rfl
theorem vsS35:Pz.underlying 35=some (.slice 28):=by kernel_rfl
theorem v49:Pz.underlying 49=some (.array 2 5):=by kernel_rfl
theorem czS25:Pz.cellsOf 25=1:=by kernel_rfl
theorem czS26:Pz.cellsOf 26=1:=by kernel_rfl
theorem czS28:Pz.cellsOf 28=2:=by kernel_rfl
theorem czS35:Pz.cellsOf 35=1:=by kernel_rfl
theorem czS37:Pz.cellsOf 37=2:=by kernel_rfl
theorem czS49:Pz.cellsOf 49=2:=by kernel_rfl
theorem open_mr {W:World} {r:List Value} (h:Rdb Pz W 98 r):∃x:MR,r=x.cs/\MI W.heap x.m x.f x.g x.l:=by
 obtain⟨m,f,g,l,e,hm⟩:=open_machine h;exact⟨⟨m,f,g,l⟩,e,hm⟩
theorem open_sys {W:World} {v:Value} (h:Rdb Pz W 22 [v]):∃(s:Sl) (L:List MR),v=.slice s.a s.n s.c/\SyI W.heap s L:=by
 obtain⟨s,L,e,hr,hq⟩:=Rdb.list vsS22 cz98 (by omega) (fun r hr=>open_mr hr) h;exact⟨s,L,e,hr,hq⟩
theorem open_u8n {W:World} {r:List Value} (h:Rdb Pz W 5 r):∃x:Int,r=u8C x/\(0<=x/\x<256):=by
 obtain⟨n,e,hw⟩:=h.rdt.int v5u;have h3:(decide (IntKind.u8.min<=n)&&decide (n<=IntKind.u8.max))=true:=hw;rw[Yt] at h3;have h4:(0:Int)<=n:=Yyn h3.1;have h5:n<=(255:Int):=Yyn h3.2;exact⟨n,e,h4,by omega⟩
theorem open_u8s {W:World} {v:Value} (h:Rdb Pz W 54 [v]):∃(s:Sl) (L:List Int),v=.slice s.a s.n s.c/\(RL W.heap 1 s u8C L/\∀n∈L,0<=n/\n<256):=by
 obtain⟨s,L,e,hr,hb⟩:=Rdb.list vsS54 cz5 (by omega) (fun r hr=>open_u8n hr) h;exact⟨s,L,e,hr,hb⟩
theorem open_u8x2 {W:World} {r:List Value} (h:Rdb Pz W 49 r):∃a b:Int,r=[.int .u8 a,.int .u8 b]/\(0<=a/\a<256)/\(0<=b/\b<256):=by
 obtain⟨hl,hf⟩:=h.array v49;rw[czS49] at hl;rw[cz5] at hf
 match r,hl with
 | [x0,x1],_=>
  obtain⟨a,e0,h0⟩:=open_u8n (show Rdb Pz W 5 [x0] from hf 0 (by omega));obtain⟨b,e1,h1⟩:=open_u8n (show Rdb Pz W 5 [x1] from hf 1 (by omega));simp only[u8C,List.cons.injEq,and_true] at e0 e1;subst e0 e1;exact⟨a,b,rfl,h0,h1⟩
theorem open_intn {W:World} {r:List Value} (h:Rdb Pz W 3 r):∃x:Int,r=inC x/\True:=by
 obtain⟨n,e,_⟩:=h.rdt.int v3;exact⟨n,e,trivial⟩
theorem open_intl {W:World} {v:Value} (h:Rdb Pz W 25 [v]):∃(s:Sl) (L:List Int),v=.slice s.a s.n s.c/\RL W.heap 1 s inC L:=by
 obtain⟨s,L,e,hr,_⟩:=Rdb.list vsS25 cz3 (by omega) (fun r hr=>open_intn hr) h;exact⟨s,L,e,hr⟩
theorem open_box {W:World} {r:List Value} (h:Rdb Pz W 25 r):∃q:Bx,r=q.cs/\RL W.heap 1 q.s inC q.l:=by
 obtain⟨s,rfl⟩:=Rdb.sl vsS25 h;obtain⟨s',L,e,hr⟩:=open_intl h;exact⟨⟨s',L⟩,by rw[e];rfl,hr⟩
theorem open_config {W:World} {r:List Value} (h:Rdb Pz W 28 r):∃c:Cr,r=c.cs/\CfI W.heap c.c1 c.c2 c.S c.B:=by
 have hl:=h.rdt.flen (i:=0) (ft:=25) (off:=0) (by kernel_rfl);rw[czS28] at hl
 match r,hl with
 | [x0,x1],_=>
  have f0:=h.field (i:=0) (ft:=25) (off:=0) (by kernel_rfl);have f1:=h.field (i:=1) (ft:=26) (off:=1) (by kernel_rfl);rw[czS25] at f0;rw[czS26] at f1;obtain⟨ss,S,e0,hS⟩:=open_intl (show Rdb Pz W 25 [x0] from f0);obtain⟨sb,B,e1,hB,hB2⟩:=Rdb.list vsS26 czS25 (by omega) (fun r hr=>open_box hr) (show Rdb Pz W 26 [x1] from f1);subst e0 e1;exact⟨⟨ss,sb,S,B⟩,rfl,⟨hS,hB,hB2⟩⟩
theorem open_cert {W:World} {r:List Value} (h:Rdb Pz W 37 r):∃(k:Int) (cs:Sl) (C:List Cr),r=[.int .i64 k,.slice cs.a cs.n cs.c]/\CtI W.heap cs C:=by
 have hl:=h.rdt.flen (i:=0) (ft:=3) (off:=0) (by kernel_rfl);rw[czS37] at hl
 match r,hl with
 | [x0,x1],_=>
  have f0:=h.field (i:=0) (ft:=3) (off:=0) (by kernel_rfl);have f1:=h.field (i:=1) (ft:=35) (off:=1) (by kernel_rfl);rw[cz3] at f0;rw[czS35] at f1;obtain⟨k,e0,_⟩:=open_intn (show Rdb Pz W 3 [x0] from f0);obtain⟨cs,C,e1,hC,hC2⟩:=Rdb.list vsS35 czS28 (by omega) (fun r hr=>open_config hr) (show Rdb Pz W 35 [x1] from f1);simp only[inC,List.cons.injEq,and_true] at e0;subst e0 e1;exact⟨k,cs,C,rfl,⟨hC,hC2⟩⟩
/-! ### with their ranges -/
end Go.VC
end
