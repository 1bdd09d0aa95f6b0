/- PeM PeN0 PeN PeO PwAh PeQ PeS PeT PeU FkA FkB FkC FkD FkE FkF FkL FkM FkN FkO FkW FkW0 FkP FkX FkY FkQ. -/
import Derived.Test.YtibmnldhlgcnjaaGreatDoorBM08
import Derived.Laws.AppendOwn
set_option linter.all false
set_option maxRecDepth 100000
set_option maxHeartbeats 8000000

section
namespace Go.VC
open Go.Proofs Go.LexS Go.Maps
theorem app95:appB Pz 134 133 5 72=true:=by kernel_rfl
theorem app29:appB Pz 29 52 2 48=true:=by kernel_rfl
theorem cv_str {h h0:Heap} {s:Sl} {l:List Int} (hs:St h0 h [.sl s 5 1 (l.map u8C)]) (hb:∀x∈l,0<=x/\x<256):RunW Pz (Go.convert 54 9 (.slice s.a s.n s.c)) h fun v h'=>v=.string (bs (toB l))/\h'=h:=
 str_c (e:=5) (base:=h0.size) (ty:=5) (by kernel_rfl) (by kernel_rfl) (by kernel_rfl) (by have:=hs.give 0 rfl;rw[toB_c hb] at this;exact this)
theorem explore13 (L:List MR) (s:Sl) (k lim:Int) (h:Heap) (hS:SyI h s L) :
  Fn Pz 26 #[.slice s.a s.n s.c,.int .i64 k,.int .i64 lim] h (ExV (expV (L.map MR.m) k lim) h):=by
 apply vc26 s k lim;unfold W26 V26c V26b V26a;have hn:=hS.r.ln;have hsm:=hS.r.sm;have hlm:(L.map MR.m).length=L.length:=Yc _;refine (St.refl h).newb fun h1 hs=>?_;refine (start14 L s h1 (hS.ext hs.ext)).mono ?_;rintro _ h6 ⟨ss,sb,S,B,e,A1,rfl,hs1,hM,hv1,hv2⟩;have hs:=hs.join hs1;refine⟨ss,sb,e,rfl,?_⟩;refine hs.newput (vs:=[.slice ss.a ss.n ss.c,.slice sb.a sb.n sb.c]) rfl rfl fun h8 hs=>?_;have fin:∀ {hX:Heap} {i0:It} (e':Int),St h hX ([i0,.blk h.size [.int .i64 0,.slice none 0 0,.slice none 0 0,.int .i64 0,.slice none 0 0] 74]++A1)->expV (L.map MR.m) k lim=(rv0,e')->okAt hX ⟨h.size,0,none⟩ 5/\∀h9:Heap,h9=hputs hX ⟨h.size,0,none⟩ 0 [.int .i64 0,.slice none 0 0,.slice none 0 0,.int .i64 0,.slice none 0 0] -> 
  (∃x10:Int,∃x11:Sl,∃x12:Sl,∃x13:Int,∃x14:Sl,atC h9 ⟨h.size,0,none⟩ [.int .i64 x10,.slice x11.a x11.n x11.c,.slice x12.a x12.n x12.c,.int .i64 x13,.slice x14.a x14.n x14.c] /\ 
  ExV (expV (L.map MR.m) k lim) h (.tuple ⟨[.agg ⟨[.int .i64 x10,.slice x11.a x11.n x11.c,.slice x12.a x12.n x12.c,.int .i64 x13,.slice x14.a x14.n x14.c]⟩,.int .i64 e']⟩) h9):=fun {hX i0} e' hs he=>by
  refine hs.put 1 rfl (o:=0) (vs:=[.int .i64 0,.slice none 0 0,.slice none 0 0,.int .i64 0,.slice none 0 0]) rfl (show 5<=5 by decide) fun h9 hs=>?_;exact⟨0,⟨none,0,0⟩,⟨none,0,0⟩,0,⟨none,0,0⟩,hs.at 1 rfl (o:=0) (n:=5) rfl,ExV.empty hs (.inr ⟨rfl,rfl⟩) he⟩
 by_cases hV:SysV (L.map MR.m);rotate_left
 .obtain⟨rfl,-,-⟩:=hv2 hV;exact sB_t rfl (fin 1 hs (if_pos (.inl hV)))
 obtain⟨rfl,rfl,rfl⟩:=hv1 hV;clear hv1 hv2;refine sB_f rfl ?_;refine sBi (fun c1=>fin 1 hs (if_pos (.inr (.inl c1)))) (fun c1=>?_);refine sBi (fun c2=>fin 1 hs (if_pos (.inr (.inr c2)))) (fun c2=>?_);have hno:¬(¬SysV (L.map MR.m)\/k<1\/4<k):=fun h=>by
  rcases h with h | h | h
  .exact h hV
  .omega
  .omega
 refine sBi (fun c3=>fin 2 hs ((if_neg hno).trans (if_pos (.inl c3)))) (fun c3=>?_);refine sBi (fun c4=>fin 2 hs ((if_neg hno).trans (if_pos (.inr c4)))) (fun c4=>?_);have hx:expV (L.map MR.m) k lim=((exS (L.map MR.m) k lim.toNat).rv (L.map MR.m).length,0):=(if_neg hno).trans (if_neg (by omega));clear fin;have hV6:=hV.n;rw[hlm] at hV6;have h36:=sq6 hV6.2;obtain⟨lm,hlim⟩:∃lm:Nat,lim=(lm:Int):=⟨lim.toNat,by omega⟩;subst hlim;rw[Ys] at hx;have hP0:ProS (L.map MR.m) k (startS (L.map MR.m)) ((List.replicate ((L.map MR.m).length*(L.map MR.m).length) bx0).map Bx.l):=xpro_start hV (by omega);generalize hBB:List.replicate ((L.map MR.m).length*(L.map MR.m).length) bx0=B0 at *;refine (start32 L s k h8 (hS.ext hs.ext) hV).mono ?_;rintro _ h41 ⟨eb,wb,A2,osl,os,qs,rfl,hs2,hE⟩;have hs:=(hs.join hs2).perm List.perm_middle;refine⟨some ⟨eb,0,none⟩,rfl,?_⟩;refine hs.mmake 104 fun h44 E44 hs=>⟨_,rfl,?_⟩;have hs:St h h44 ([.mp h41.size [],.mp wb [],.blk h6.size [.slice ss.a ss.n ss.c,.slice sb.a sb.n sb.c] 52,.blk h.size [.int .i64 0,.slice none 0 0,.slice none 0 0,.int .i64 0,.slice none 0 0] 74]++(A1++A2)):=hs;have hA1:CfN (A1++A2) ss sb (startS (L.map MR.m)) B0:=fun h0 hh A' hA hs=>hM.mono (fun i hi=>hA i (List.mem_append_left _ hi)) |>.cfi hs
 replace hE:Sta (A1++A2) fun h=>EngX h eb wb s k L osl os qs:=hE.mono memP;generalize A1++A2=A at *;refine⟨ss,sb,hs.at 2 rfl (o:=0) (n:=2) rfl,?_⟩;refine (encode35 ss sb _ _ h44 (hA1.at hs memP) (enc_pro hP0)).mono ?_;rintro _ h49 ⟨b,rfl,hse⟩;have hs:=hs.step hse.ext;refine⟨b,rfl,(cv_str hse encC_byte).mono ?_⟩;rintro _ _ ⟨rfl,rfl⟩;refine⟨_,rfl,?_⟩;obtain⟨v0,hv0⟩:∃v0:Vs,v0=⟨ss,sb,startS (L.map MR.m),B0,-1,0,0,[]⟩:=⟨_,rfl⟩;have hkv:bs (toB (encC (startS (L.map MR.m)) (B0.map Bx.l)))=kyC (vq v0).1:=by rw[hv0];rfl
 rw[hkv];refine hs.mput M92 (cv:=Value.bool) (l:=[]) (a:=kyC (vq v0).1) 0 rfl (fun q hq=>by cases hq) .nil (by rw[hv0];exact ky_ok (c:=(_,_)) hP0) true fun h53 hs=>?_;refine⟨ss,sb,hs.at 2 rfl (o:=0) (n:=2) rfl,?_⟩;refine hs.newb fun h56 hs=>?_;have hs:=hs.blkS 1 5 ([v0].map Vs.cs) (by rw[hv0];rfl) (fun r hr=>by rw[Yyl,List.map_nil,Ye] at hr;rw[hr];rfl) rfl (by decide);have hs:St h h56 ([.mp wb (([]:List (Wt × Bool)).map wtC),.mp h41.size (([v0].map kyP).map kyV),.sl ⟨some ⟨h53.size,0,none⟩,1,1⟩ 133 5 ([v0].map Vs.cs),.blk h.size [.int .i64 0,.slice none 0 0,.slice none 0 0,.int .i64 0,.slice none 0 0] 74]++A):=
  St.picksA (P:=[_,_,_,_,_]) hs [2,1,0,4] (by decide) rfl
 have hsea:SeaV L k A [v0]:=by
  refine⟨fun v hv=>?_,fun v hv=>?_,fun j v hj=>?_,by simp⟩
  .rw[Ye.1 hv,hv0];exact hA1
  .rw[Ye.1 hv,hv0];exact hP0
  .have hj0:j=0:=by have:=(Ya.1 hj).1;simpa using this
   subst hj0;cases hj;rw[hv0];exact⟨Nat.zero_le _,.inl ⟨rfl,rfl⟩⟩
 have hex:exO (L.map MR.m) k lm (lm+1) 0 ([v0].map vq)=exS (L.map MR.m) k lm:=by
  unfold exS q0;congr 1;rw[hv0];unfold vq startB;rw[Yyl,List.map_nil,<-hBB,bxs0]
 have hwt0:WtOk L []:=⟨.nil,fun q hq=>by cases hq⟩;refine⟨fun queue x h' μ=>∃(i f:Nat) (V:List Vs) (K:List (Wt × Bool)) (A:List It),x=(i:Int)/\μ=f/\f+i=lm+1/\i<=V.length/\V.length<=lm/\exO (L.map MR.m) k lm f i (V.map vq)=exS (L.map MR.m) k lm/\SeaV L k A V/\WtOk L K/\Sta A (fun h=>EngX h eb wb s k L osl os qs) /\
  St h h' ([.mp wb (K.map wtC),.mp h41.size ((V.map kyP).map kyV),.sl queue 133 5 (V.map Vs.cs),.blk h.size [.int .i64 0,.slice none 0 0,.slice none 0 0,.int .i64 0,.slice none 0 0] 74]++A),⟨_,0,lm+1,[v0],[],A,rfl,rfl,rfl,Nat.zero_le _,by show 1<=lm;omega,hex,hsea,hwt0,hE,hs⟩,?_⟩
 clear hs hex hsea hwt0 hE hkv hv0 hA1 hse hs1 hs2 hM;rintro-queue _ h62 μ ⟨i,f,V,K,A,rfl,hμ,hfi,hi,hVl,hex,hsea,hK,hE,hs⟩;have hqn:=(hs.rows 2 (s:=queue) (cs:=Vs.cs) rfl (by omega)).ln;refine sBi (fun c5=>?_) (fun c5=>?_)
 .obtain⟨v,gv⟩:=get_some (l:=V) (i:=i) (by omega);have hvm:=Yb gv;have hcv:=hsea.c v hvm;have hpv:=hsea.p v hvm;refine (hs.rows 2 (s:=queue) (cs:=Vs.cs) rfl (by omega)).nbI (by omega) (by omega) fun b63 o64 v' gv' t=>?_;rw[Ys,gv] at gv';cases gv';refine⟨v.c1,v.c2,t.sub0 2 rfl,?_⟩;refine hs.newput (vs:=[.slice v.c1.a v.c1.n v.c1.c,.slice v.c2.a v.c2.n v.c2.c]) rfl rfl fun h68 hs=>?_;refine⟨v.c1,v.c2,hs.at 0 rfl (o:=0) (n:=2) rfl,?_⟩;refine (steps34 L s k eb v.c1 v.c2 v.S v.B h68 (hS.ext hs.ext) (hE.at hs (memP (P:=[_,_,_,_,_]))).r (hcv.at hs (memP (P:=[_,_,_,_,_]))) hpv).mono ?_;rintro _ h73 ⟨r,rfl,hsr⟩;have hs:=(hs.join hsr).perm List.perm_append_comm;have hs:St h h73 (.mp wb (K.map wtC)::[.sl r 43 2 ((stepsS (L.map MR.m) k v.S (v.B.map Bx.l)).map stpC),.blk h62.size [.slice v.c1.a v.c1.n v.c1.c,.slice v.c2.a v.c2.n v.c2.c] 52,.mp h41.size ((V.map kyP).map kyV),.sl queue 133 5 (V.map Vs.cs),.blk h.size [.int .i64 0,.slice none 0 0,.slice none 0 0,.int .i64 0,.slice none 0 0] 74]++A):=
   St.picksA (P:=[_,_,_,_,_,_]) hs [2,0,1,3,4,5] (by decide) rfl
  have hrn:=(hs.rows 1 (s:=r) (cs:=stpC) rfl (by omega)).ln;obtain⟨X,hX⟩:∃X,X=stepsS (L.map MR.m) k v.S (v.B.map Bx.l):=⟨_,rfl⟩;rw[<-hX] at hs hrn;refine⟨r,rfl,v.c1,v.c2,hs.at 2 rfl (o:=0) (n:=2) rfl,?_⟩;refine (bad35 L s k eb wb v.c1 v.c2 v.S v.B (decide ((r.n:Int)>0)) K osl os qs hs (hS) (hE.mono (memP (P:=[_,_,_,_,_]))) (hcv.mono (memP (P:=[_,_,_,_,_]))) hpv hK (by
   rw[decide_eq_true_eq,<-hX];constructor
   .intro h1 h2;rw[h2] at hrn;simp at hrn;omega
   .intro h1;have:X.length≠0:=fun h2=>h1 (List.length_eq_zero_iff.1 h2);omega)).mono ?_
  rintro _ h78 ⟨K2,rfl,hK2,hs⟩;obtain⟨f2,hf2⟩:∃f',f=f'+1:=⟨f-1,by omega⟩;have gvq:(V.map vq)[i]?=some (vq v):=by rw[Yd,gv];rfl
  rw[hf2,exO,gvq] at hex;dsimp only at hex;have hbadE:badS (L.map MR.m) k (vq v).1.1 (vq v).1.2=badS (L.map MR.m) k v.S (v.B.map Bx.l):=rfl;have hstE:stepsS (L.map MR.m) k (vq v).1.1 (vq v).1.2=X:=hX.symm;rw[hbadE,hstE] at hex;refine⟨_,rfl,?_⟩;generalize badS (L.map MR.m) k v.S (v.B.map Bx.l)=bd at *;by_cases hbd:bd=0;rotate_left
  .rw[if_pos hbd] at hex;refine sB_t (by rw[bne_iff_ne];exact hbd) ?_;refine (trace36 V queue i v h78 (hs.rows 4 (s:=queue) (cs:=Vs.cs) rfl (by omega)) (by omega) gv hsea.t).mono ?_;rintro _ h81 ⟨tr,rfl,hst⟩;have hs:=(hs.join hst).perm List.perm_append_comm;refine⟨tr,rfl,?_⟩;refine hs.put 6 rfl (o:=0) (vs:=[.int .i64 2,.slice none 0 0,.slice none 0 0,.int .i64 bd,.slice tr.a tr.n tr.c]) rfl (show 5<=5 by decide) fun h82 hs=>?_;have htl:v.tr.length<=i:=(hsea.t i v gv).1;refine⟨2,⟨none,0,0⟩,⟨none,0,0⟩,bd,tr,hs.at 6 rfl (o:=0) (n:=5) rfl,ExV.empty hs (.inl ⟨Yx,by omega⟩) ?_⟩;rw[hx,<-hex];rfl
  rw[if_neg (fun h=>h hbd)] at hex;refine sB_f (by rw[hbd];rfl) ?_;obtain⟨g,hg⟩:∃g,g=exI (L.map MR.m) lm (vq v) X (V.map vq):=⟨_,rfl⟩;rw[<-hg] at hex;have hXs:∀z∈X,∃m x,(L.map MR.m)[z.1]?=some m/\m.mv[z.2]?=some x/\canS (L.map MR.m).length k v.S (v.B.map Bx.l) z.1 x=0:=fun z hz=>by
   obtain⟨a,b⟩:=z;rw[hX] at hz;exact steps_mem hz
  have hXl:X.length<=2400:=by
   have:=steps_len (n:=(L.map MR.m).length) (k:=k) (S:=v.S) (BL:=v.B.map Bx.l) hV (L.map MR.m).length;rw[hX];unfold stepsS;omega
  refine⟨fun queue x h' μ=>∃(j:Nat) (V:List Vs) (A:List It),x=(j:Int)/\μ=X.length-j/\j<=X.length/\i<V.length/\V.length<=lm/\V[i]?=some v/\exI (L.map MR.m) lm (vq v) (X.drop j) (V.map vq)=g/\SeaV L k A V/\Sta A (fun h=>EngX h eb wb s k L osl os qs) /\
   St h h' ([.mp wb (K2.map wtC),.sl r 43 2 (X.map stpC),.blk h62.size [.slice v.c1.a v.c1.n v.c1.c,.slice v.c2.a v.c2.n v.c2.c] 52,.mp h41.size ((V.map kyP).map kyV),.sl queue 133 5 (V.map Vs.cs),.blk h.size [.int .i64 0,.slice none 0 0,.slice none 0 0,.int .i64 0,.slice none 0 0] 74]++A),⟨_,0,V,A,rfl,rfl,Nat.zero_le _,by omega,hVl,gv,by rw[List.drop_zero];exact hg.symm,hsea,hE,hs⟩,?_⟩
  clear hs hsea hE hcv gv hVl hqn c5 hg hi gvq hvm hK;clear t hsr;rintro-queue2 _ h93 μ ⟨j,V,A,rfl,rfl,hj,hiV,hVl,gv,hgI,hsea,hE,hs⟩;have hqn:=(hs.rows 4 (s:=queue2) (cs:=Vs.cs) rfl (by omega)).ln;have hcv:=hsea.c v (Yb gv);refine sBi (fun c6=>?_) (fun c6=>?_)
  .obtain⟨⟨a,b⟩,gz⟩:=get_some (l:=X) (i:=j) (by omega);obtain⟨m,x,gm,gx,hc⟩:=hXs _ (Yb gz);dsimp only at gm gx hc;have hxm:=Yb gx;have hvmm:=hpv.v.m a m gm;have ha:a<(L.map MR.m).length:=(Ya.1 gm).1;have hx0:=(hvmm.2.1.n.mv x hxm).2.2.2.2.1;have hx1:=hvmm.2.2 x hxm;rw[hlm] at hc hx1 ha;have hBl:v.B.length=L.length*L.length:=by have:=hpv.p.b;rw[Yc,hlm] at this;exact this
   have hSl:v.S.length=L.length:=by rw[hpv.p.s,hlm]
   obtain⟨q,gq⟩:=get_some (l:=v.B) (i:=bxI L.length a x) (by rw[hBl];exact bxI_lt ha hx0 hx1);have hql:(v.B.map Bx.l)[bxI L.length a x]?=some q.l:=by rw[Yd,gq];rfl
   have hqd:(v.B.map Bx.l).getD (bxI L.length a x) []=q.l:=getD_map gq;have hq4:q.l.length<=4:=by have:=(hpv.p.bx _ q.l hql).1;omega
   have hq1:x.send=false->1<=q.l.length:=fun d=>by
    obtain⟨r,hr⟩:=(can_parts.1 hc).2.2 d;rw[hqd] at hr;rw[hr,Yyj];omega
   refine (hs.rows 1 (s:=r) (cs:=stpC) rfl (by omega)).nbI (by omega) (by omega) fun b94 o95 z gz' t=>?_;rw[Ys,gz] at gz';cases gz';refine⟨(a:Int),(b:Int),t,?_⟩;refine hs.newput (vs:=[.int .i64 (a:Int),.int .i64 (b:Int)]) rfl rfl fun h99 hs=>?_;refine⟨v.c1,v.c2,hs.at 3 rfl (o:=0) (n:=2) rfl,(a:Int),(b:Int),hs.at 0 rfl (o:=0) (n:=2) rfl,?_⟩;refine (do37 L s k eb v.c1 v.c2 v.S v.B a b m x q h99 (hS.ext hs.ext) (hE.at hs (memP (P:=[_,_,_,_,_,_,_]))).r (hcv.at hs (memP (P:=[_,_,_,_,_,_,_]))) hpv gm gx hc gq).mono ?_;rintro _ h107 ⟨ts,tb,u,A3,rfl,hs3,m1,m2,m3,m4⟩;rw[hn] at m2;have hs:St h h107 ([.blk h93.size [.int .i64 (a:Int),.int .i64 (b:Int)] 43,.mp wb (K2.map wtC),.sl r 43 2 (X.map stpC),.blk h62.size [.slice v.c1.a v.c1.n v.c1.c,.slice v.c2.a v.c2.n v.c2.c] 52,.mp h41.size ((V.map kyP).map kyV),.sl queue2 133 5 (V.map Vs.cs),.blk h.size [.int .i64 0,.slice none 0 0,.slice none 0 0,.int .i64 0,.slice none 0 0] 74]++(A++A3)):=hs.join hs3;have hSS:(v.S.set a x.t).length<=1048576:=by rw[Yyh];omega
   have hcn:CfN (A++A3) ts tb (v.S.set a x.t) (v.B.set (bxI L.length a x) ⟨u,newL x q.l⟩):=do_next hcv gq hSS (by omega) hq4 hq1 m1 m2 m3 m4;have hBn:(v.B.set (bxI L.length a x) ⟨u,newL x q.l⟩).map Bx.l=doB (L.map MR.m).length a x (v.B.map Bx.l):=by rw[hlm];exact doB_newL gq
   have hpn:ProS (L.map MR.m) k (v.S.set a x.t) ((v.B.set (bxI L.length a x) ⟨u,newL x q.l⟩).map Bx.l):=by
    rw[hBn];exact pro_do hpv gm hxm (by rw[hlm];exact hc)
   have hnx:((v.S.set a x.t,(v.B.set (bxI L.length a x) ⟨u,newL x q.l⟩).map Bx.l):Cf)=nxS (L.map MR.m) (vq v).1 (a,b):=by rw[nxS_of gm gx,hBn];rfl
   replace hsea:SeaV L k (A++A3) V:=hsea.mono fun i hi=>List.mem_append_left _ hi;replace hE:Sta (A++A3) fun h=>EngX h eb wb s k L osl os qs:=hE.mono fun i hi=>List.mem_append_left _ hi;clear hs3 m1 m2 m3 m4 hcv t;generalize A++A3=A at *;obtain⟨nv,hnv⟩:∃nv:Vs,nv=⟨ts,tb,v.S.set a x.t,v.B.set (bxI L.length a x) ⟨u,newL x q.l⟩,(i:Int),a,b,v.tr++[(a,b)]⟩:=⟨_,rfl⟩;have hnq:(vq nv).1=nxS (L.map MR.m) (vq v).1 (a,b):=by rw[hnv];exact hnx
   have hnt:vq nv=(nxS (L.map MR.m) (vq v).1 (a,b),(vq v).2++[(a,b)]):=Prod.ext hnq (by rw[hnv];rfl);refine⟨ts,tb,rfl,?_⟩;refine hs.newput (vs:=[.slice ts.a ts.n ts.c,.slice tb.a tb.n tb.c]) rfl rfl fun h109 hs=>?_;refine⟨ts,tb,hs.at 0 rfl (o:=0) (n:=2) rfl,?_⟩;refine (encode35 ts tb _ _ h109 (hcn.at hs (memP (P:=[_,_,_,_,_,_,_,_]))) (enc_pro hpn)).mono ?_;rintro _ h114 ⟨b3,rfl,hse⟩;have hs:=hs.step hse.ext;refine⟨b3,rfl,(cv_str hse encC_byte).mono ?_⟩;rintro _ _ ⟨rfl,rfl⟩;refine⟨_,rfl,?_⟩;have hkv:bs (toB (encC (v.S.set a x.t) ((v.B.set (bxI L.length a x) ⟨u,newL x q.l⟩).map Bx.l)))=kyC (vq nv).1:=by rw[hnv];rfl
   rw[hkv];have hkok:kokB (kyC (vq nv).1):=by rw[hnv];exact ky_ok (c:=(_,_)) hpn
   rw[drop_get gz,exI] at hgI;refine hs.mlook M92 (cv:=Value.bool) (l:=V.map kyP) (a:=kyC (vq nv).1) 5 rfl hsea.kok hsea.knd hkok false ?_;have hmm:=ky_mem (V:=V) (c:=(vq nv).1);cases hg:mget (V.map kyP) (kyC (vq nv).1) with
   | some y=>
    have hy:y=true:=by
     obtain⟨w,_,e⟩:=Yp.1 (mgetE_mem hg);exact (congrArg Prod.snd e).symm
    subst hy;rw[hg] at hmm;refine⟨true,rfl,sB_t rfl ?_⟩;rw[if_pos (by rw[<-hnq];exact hmm.2 (by simp))] at hgI;refine⟨_,(show X.length-(j+1)<X.length-j by omega),j+1,V,A,by rw[w64 (by omega) (by omega)];omega,rfl,by omega,hiV,hVl,gv,hgI,hsea,hE,hs.drop 2⟩
   | none=>
    rw[hg] at hmm;have hnm:(vq nv).1∉(V.map vq).map Prod.fst:=fun h=>hmm.1 h rfl;refine⟨false,rfl,sB_f rfl ?_⟩;rw[if_neg (by rw[<-hnq];exact hnm),Yc] at hgI;refine sBe (fun c7=>?_) (fun c7=>?_)
    .rw[if_pos (by omega)] at hgI;rw[<-hgI] at hex;refine hs.put 7 rfl (o:=0) (vs:=[.int .i64 3,.slice none 0 0,.slice none 0 0,.int .i64 0,.slice none 0 0]) rfl (show 5<=5 by decide) fun h122 hs=>?_;refine⟨3,⟨none,0,0⟩,⟨none,0,0⟩,0,⟨none,0,0⟩,hs.at 7 rfl (o:=0) (n:=5) rfl,ExV.empty hs (.inr ⟨rfl,rfl⟩) ?_⟩;rw[hx,<-hex];rfl
    .rw[if_neg (by omega)] at hgI;refine hs.mput M92 (cv:=Value.bool) (l:=V.map kyP) (a:=kyC (vq nv).1) 5 rfl hsea.kok hsea.knd hkok true fun h128 hs=>?_;rw[mset_none (mget_nomem hg)] at hs;refine⟨ts,tb,hs.at 0 rfl (o:=0) (n:=2) rfl,(a:Int),(b:Int),hs.at 1 rfl (o:=0) (n:=2) rfl,?_⟩;refine hs.app 6 (s:=queue2) (n:=5) (rows:=V.map Vs.cs) rfl app95 (m:=1) [nv.cs] (by rw[hnv];rfl) rfl (fun r hr=>by rw[Ye] at hr;rw[hr];rfl) rfl (by omega) (by simp only[maxLen];omega) fun q2 h135 nr hs=>?_;refine⟨_,(show X.length-(j+1)<X.length-j by omega),j+1,V++[nv],A,by rw[w64 (by omega) (by omega)];omega,rfl,by omega,by rw[Yh];omega,by rw[Yh,Yv];omega,by rw[Yyi hiV];exact gv,?_,hsea.snoc (p:=i) (u:=v) ?_ ?_ hnm gv ?_ ?_,hE,?_⟩
     .rw[Ym,Yyl,List.map_nil,hnt];exact hgI
     .rw[hnv];exact hcn
     .rw[hnv];exact hpn
     .rw[hnv]
     .rw[hnv]
     .have e1:(V++[nv]).map kyP=V.map kyP++[(kyC (vq nv).1,true)]:=by rw[Ym];rfl
      have e2:(V++[nv]).map Vs.cs=V.map Vs.cs++[nv.cs]:=by rw[Ym];rfl
      rw[e1,e2];exact hs.drop 2
  .have hje:j=X.length:=by omega
   rw[hje,List.drop_length,exI] at hgI;rw[<-hgI] at hex;refine⟨f2,by omega,i+1,f2,V,K2,A,by rw[w64 (by omega) (by omega)];omega,rfl,by omega,by omega,hVl,hex,hsea,hK2,hE,?_⟩;exact St.picksA (P:=[_,_,_,_,_,_]) hs [0,3,4,5] (by decide) rfl
 .have hiV:V.length<=i:=by omega
  obtain⟨f2,hf2⟩:∃f',f=f'+1:=⟨f-1,by omega⟩;rw[hf2,exO,Yl (by rw[Yc];exact hiV)] at hex;dsimp only at hex;have hsq:(s.n:Int)*(s.n:Int)=((L.length*L.length:Nat):Int):=by rw[hn];rfl
  obtain⟨nn,hnn⟩:∃nn,nn=L.length*L.length:=⟨_,rfl⟩;rw[hsq,<-hnn,w64 (n:=((nn:Nat):Int)) (by omega) (by omega),Ys,made3i];refine⟨⟨by omega,by omega,by omega⟩,?_⟩;refine hs.newb fun h138 hs=>?_;have hs:=hs.blkS nn 1 ((List.replicate nn (0:Int)).map inC) (inC_flat _) (inrows _) (by rw[Yc,Yg]) (by simp only[maxLen];omega);refine hs.newput (vs:=[.int .i64 1,.slice none 0 0,.slice (some ⟨h62.size,0,none⟩) nn nn,.int .i64 0,.slice none 0 0]) rfl rfl fun h140 hs=>?_;have hs:=hs.nil_ 52 2;obtain⟨mo,hmo⟩:∃mo:Sl,mo=⟨some ⟨h62.size,0,none⟩,nn,nn⟩:=⟨_,rfl⟩;have hs:St h h140 ([.sl ⟨none,0,0⟩ 52 2 (([]:List Cr).map Cr.cs),.blk h138.size (resA 1 ⟨none,0,0⟩ mo 0 ⟨none,0,0⟩) 74,.sl mo 3 1 ((List.replicate nn (0:Int)).map inC),.sl queue 133 5 (V.map Vs.cs),.blk h.size [.int .i64 0,.slice none 0 0,.slice none 0 0,.int .i64 0,.slice none 0 0] 74]++A):=
   St.picksA (P:=[_,_,_,_,_,_,_]) (by rw[hmo];exact hs) [0,1,2,5,6] (by decide) rfl
  have hm0:List.replicate nn (0:Int)=mostS L.length ((V.take 0).map fun v=>(vq v).1):=by rw[hnn];rfl
  rw[hm0] at hs;refine⟨fun x h' μ=>∃(i:Nat) (C:List Cr) (cf:Sl) (A:List It),x=(i:Int)/\μ=V.length-i/\i<=V.length/\C.map Cr.cf=(V.take i).map (fun v=>(vq v).1)/\(∀c∈C,CfN A c.c1 c.c2 c.S c.B)/\SeaV L k A V /\
   St h h' ([.sl cf 52 2 (C.map Cr.cs),.blk h138.size (resA 1 cf mo 0 ⟨none,0,0⟩) 74,.sl mo 3 1 ((mostS L.length ((V.take i).map fun v=>(vq v).1)).map inC),.sl queue 133 5 (V.map Vs.cs),.blk h.size [.int .i64 0,.slice none 0 0,.slice none 0 0,.int .i64 0,.slice none 0 0] 74]++A),⟨_,0,[],⟨none,0,0⟩,A,rfl,rfl,Nat.zero_le _,rfl,fun c hc=>(by cases hc),hsea,hs⟩,?_⟩
  clear hs hsea hE hm0;rintro-_ h145 μ2 ⟨i2,C,cf,A,rfl,rfl,hi2,hC,hCn,hsea,hs⟩;have hCl:C.length=i2:=by
   have:=congrArg List.length hC;rw[Yc,Yc,Yu] at this;omega
  refine sBi (fun c6=>?_) (fun c6=>?_)
  .obtain⟨v,gv⟩:=get_some (l:=V) (i:=i2) (by omega);have hvm:=Yb gv;have hcv:=hsea.c v hvm;have hpv:=hsea.p v hvm;have hBl:v.B.length=nn:=by have:=hpv.p.b;rw[Yc,hlm] at this;rw[hnn];exact this
   have hSl:v.S.length=L.length:=by rw[hpv.p.s,hlm]
   refine (hs.rows 3 (s:=queue) (cs:=Vs.cs) rfl (by omega)).nbI (by omega) (by omega) fun b146 o147 v' gv' t=>?_;rw[Ys,gv] at gv';cases gv';refine⟨v.c1,v.c2,v.ah,(v.a:Int),(v.b:Int),t,?_⟩;refine hs.newput (vs:=v.cs) rfl rfl fun h154 hs=>?_;refine⟨cf,hs.rd 2 rfl (i:=1) rfl,v.c1,v.c2,hs.at 0 rfl (o:=0) (n:=2) rfl,?_⟩;refine (clone38 v.c1 v.c2 v.S v.B h154 (hcv.at hs (memP (P:=[_,_,_,_,_,_])))).mono ?_;rintro _ h161 ⟨ts,tb,T,rfl,hTB,hst⟩;have hTl:T.length=nn:=by
    have:=congrArg List.length hTB;rw[Yc,Yc] at this;omega
   refine⟨ts,tb,rfl,hst.ext.sm,?_⟩;have hs:=hs.join hst;refine hs.newbE fun h162 E162 hs=>⟨E162.sm,?_⟩;have hcn:CfN (A++([.sl ts 3 1 (v.S.map inC),.sl tb 25 1 (T.map Bx.cs)]++T.map Bx.it)) ts tb v.S T:=fun h0 hh A' hA hs=>by
    have m1:∀it∈([.sl ts 3 1 (v.S.map inC),.sl tb 25 1 (T.map Bx.cs)]++T.map Bx.it:List It),it∈A':=fun it h=>hA it (List.mem_append_right _ h);refine⟨hs.rlm (m1 _ Yx) (by omega) (by omega),hs.rlm (m1 _ (Yn _ Yx)) (by omega) (by omega),fun q hq=>?_⟩;refine hs.rlm (m1 _ (List.mem_append_right _ (List.mem_map_of_mem hq))) (by omega) ?_;have hq1:q.l∈v.B.map Bx.l:=by rw[<-hTB];exact List.mem_map_of_mem hq
    obtain⟨j,gj⟩:=Yf.1 hq1;have:=(hpv.p.bx j q.l gj).1;have:=hpv.c;omega
   have hs:St h h162 ([.blk h161.size [.slice ts.a ts.n ts.c,.slice tb.a tb.n tb.c] 52,.blk h145.size v.cs 133,.sl cf 52 2 (C.map Cr.cs),.blk h138.size (resA 1 cf mo 0 ⟨none,0,0⟩) 74,.sl mo 3 1 ((mostS L.length ((V.take i2).map fun v=>(vq v).1)).map inC),.sl queue 133 5 (V.map Vs.cs),.blk h.size [.int .i64 0,.slice none 0 0,.slice none 0 0,.int .i64 0,.slice none 0 0] 74]++(A++([.sl ts 3 1 (v.S.map inC),.sl tb 25 1 (T.map Bx.cs)]++T.map Bx.it))):=hs;replace hsea:=hsea.mono (A':=A++([.sl ts 3 1 (v.S.map inC),.sl tb 25 1 (T.map Bx.cs)]++T.map Bx.it)) fun i hi=>List.mem_append_left _ hi;replace hCn:∀c∈C,CfN (A++([.sl ts 3 1 (v.S.map inC),.sl tb 25 1 (T.map Bx.cs)]++T.map Bx.it)) c.c1 c.c2 c.S c.B:=fun c hc=>(hCn c hc).mono fun i hi=>List.mem_append_left _ hi;clear hst hcv t;generalize A++([.sl ts 3 1 (v.S.map inC),.sl tb 25 1 (T.map Bx.cs)]++T.map Bx.it)=A at *;have hcv:=hsea.c v hvm;have hcfn:=(hs.len 2 (s:=cf) rfl (by omega)).1;rw[Yc] at hcfn;refine hs.appended 2 (s:=cf) (n:=2) (rows:=C.map Cr.cs) rfl app29 (m:=1) (news:=[Cr.cs (⟨ts,tb,v.S,T⟩:Cr)]) (hs.at 0 rfl (n:=2) rfl) rfl (fun r hr=>by rw[Ye] at hr;rw[hr];rfl) rfl (by omega) (by simp only[maxLen];omega) fun r2 h164 nr hs=>?_;refine hs.put 3 rfl (o:=1) (vs:=[.slice r2.a r2.n r2.c]) rfl (show 2<=5 by decide) fun h165 hs=>?_;refine⟨v.c2,hs.rd 1 rfl (i:=1) rfl,?_⟩;have hbn:=(hcv.at hs (memP (P:=[_,_,_,_,_,_,_]))).b.ln;generalize hMM:mostS L.length ((V.take i2).map fun v=>(vq v).1)=M at *;have hMl:M.length=nn:=by rw[<-hMM,most_len,hnn]
   refine⟨fun x h' μ=>∃j:Nat,x=(j:Int)/\μ=v.B.length-j/\j<=v.B.length/\St h h' ([.blk h161.size [.slice ts.a ts.n ts.c,.slice tb.a tb.n tb.c] 52,.blk h145.size v.cs 133,.sl r2 52 2 ((C++[(⟨ts,tb,v.S,T⟩:Cr)]).map Cr.cs),.blk h138.size (resA 1 r2 mo 0 ⟨none,0,0⟩) 74,.sl mo 3 1 ((stepM (v.B.map Bx.l) j M).map inC),.sl queue 133 5 (V.map Vs.cs),.blk h.size [.int .i64 0,.slice none 0 0,.slice none 0 0,.int .i64 0,.slice none 0 0] 74]++A),⟨_,0,rfl,rfl,Nat.zero_le _,by rw[stepM_0,Ym];exact hs⟩,?_⟩;clear hs;rintro-_ h171 μ3 ⟨j,rfl,rfl,hj,hs⟩;have hmn:=(hs.rows 4 (s:=mo) (cs:=inC) rfl (by omega)).ln;rw[stepM_len] at hmn;refine sBi (fun c7=>?_) (fun c7=>?_)
   .obtain⟨q,gq⟩:=get_some (l:=v.B) (i:=j) (by omega);obtain⟨y,gy⟩:=get_some (l:=M) (i:=j) (by omega);have hCf:=hcv.at hs (memP (P:=[_,_,_,_,_,_,_]));have hqi:=hCf.i q (Yb gq);have hqn:=hqi.ln;refine hCf.b.rw.nbI (by omega) (by omega) fun b172 o173 q' gq' t=>?_;rw[Ys,gq] at gq';cases gq';refine⟨q.s,t.hd,mo,hs.rd 3 rfl (i:=2) rfl,mo,hs.rd 3 rfl (i:=2) rfl,?_⟩;refine (hs.rows 4 (s:=mo) (cs:=inC) rfl (by omega)).nbI (by omega) (by omega) fun b177 o178 y' gy' t2=>?_;rw[Ys,stepM_get,gy] at gy';cases gy';refine⟨y,t2.hd,?_⟩;refine hs.set 4 (s:=mo) (cs:=inC) (x:=(j:Int)) rfl (by omega) (by omega) (by omega) (imax y (q.s.n:Int)) rfl rfl (fun b180 o181 h182 hs=>?_) rfl;rw[Ys] at hs;have hql:(v.B.map Bx.l).getD j []=q.l:=getD_map gq;have e1:=stepM_next (B:=v.B.map Bx.l) gy;rw[hql,<-hqn] at e1;refine⟨_,(show v.B.length-(j+1)<v.B.length-j by omega),j+1,by rw[w64 (by omega) (by omega)];omega,rfl,by omega,?_⟩;rw[<-e1];exact hs
   .have hjB:j=v.B.length:=by omega
    have e1:(V.take (i2+1)).map (fun v=>(vq v).1)=(V.take i2).map (fun v=>(vq v).1)++[(vq v).1]:=by rw[take_snoc gv,Ym];rfl
    refine⟨_,(show V.length-(i2+1)<V.length-i2 by omega),i2+1,C++[(⟨ts,tb,v.S,T⟩:Cr)],r2,A,by rw[w64 (by omega) (by omega)];omega,rfl,by omega,?_,?_,hsea,?_⟩
    .rw[e1,Ym,hC];congr 1;show [(v.S,T.map Bx.l)]=_;rw[hTB];rfl
    .intro c hc;rcases Yk.1 hc with hc | hc
     .exact hCn c hc
     .rw[Ye.1 hc];exact hcn
    .rw[e1,most_snoc,hMM];have e2:=stepM_end (B:=v.B.map Bx.l) (M:=M) (j:=j) (by omega);rw[e2] at hs;exact hs.drop 2
  .have hie:i2=V.length:=by omega
   subst hie;rw[Yye] at hC hs;refine⟨1,cf,mo,0,⟨none,0,0⟩,hs.at 1 rfl (o:=0) (n:=5) rfl,?_⟩;refine hs.put 4 rfl (o:=0) (vs:=resA 1 cf mo 0 ⟨none,0,0⟩) rfl (show 5<=5 by decide) fun h190 hs=>?_;refine⟨1,cf,mo,0,⟨none,0,0⟩,hs.at 4 rfl (o:=0) (n:=5) rfl,cf,mo,⟨none,0,0⟩,_,?_,hs,fun h0 h2 A' hA hs'=>?_⟩
   .rw[hx,<-hex];rfl
   .have hr:(expV (L.map MR.m) k (lm:Int)).1=⟨1,(V.map vq).map Prod.fst,mostS (L.map MR.m).length ((V.map vq).map Prod.fst),0,[]⟩:=by rw[hx,<-hex];rfl
    have eV:(V.map vq).map Prod.fst=V.map fun v=>(vq v).1:=by rw[List.map_map];rfl
    rw[hr,eV,hlm];have hml:=most_len L.length (V.map fun v=>(vq v).1);exact⟨⟨C,hs'.rlm (hA _ Yx) (by omega) (by omega),fun c hc=>hCn c hc h0 h2 A' (fun i hi=>hA i (memP (P:=[_,_,_,_,_]) i hi)) hs',hC⟩,
     hs'.rlm (hA _ (Yn _ (Yn _ Yx))) (by omega) (Yys (Nat.le_of_eq hml) (by omega)),RL.nil0⟩
end Go.VC
end

section
namespace Go.VC
open Go.Proofs Go.LexS

structure Vr where
 c:Cr
 t:Sl
 tr:List (Nat × Nat)
def Vr.cs (v:Vr):List Value:=v.c.cs
def Vr.ts (v:Vr):List Value:=[.slice v.t.a v.t.n v.t.c]
theorem app36r:appB Pz 35 28 2 48=true:=by kernel_rfl
def cstP (n:Nat) (k:Int) (S:List Int) (BL:List (List Int)) (p:Nat) (m:Mch):List Nat:=(List.range m.mv.length).filter (posB n k S BL p m)
def cstS (L:List Mch) (k:Int) (c:Cf):List (Nat × Nat):=(List.range L.length).flatMap fun p=>match L[p]? with
 | some m=>(cstP L.length k c.1 c.2 p m).map fun i=>(p,i)
 | none=>[]
def cstB (L:List Mch) (k:Int) (c:Cf):Bool:=(List.range L.length).all fun p=>match L[p]? with
 | some m=>decide ((cstP L.length k c.1 c.2 p m).Pairwise fun a b=>¬evLt (evI m b) (evI m a))
 | none=>true
theorem cst_eq {L:List Mch} {k:Int} {c:Cf} (hV:SysV L) (h:cstB L k c=true):stepsS L k c.1 c.2=cstS L k c:=by
 unfold stepsS cstS;rw[List.flatMap_def,List.flatMap_def];congr 1;refine List.map_congr_left fun p hp=>?_;unfold stepsR;unfold cstB at h;rw[List.all_eq_true] at h;have hp1:=h p hp;cases gm:L[p]? with
 | none=>rfl
 | some m=>
  rw[gm] at hp1;dsimp only at hp1 ⊢;rw[stepsP_of (hV.m p m gm).2.1.d rfl (Yyn hp1)];rfl
def cexp (m:Mch) (s peer label:Int):Bool:=m.mv.any fun x=>decide (x.f=s)&&(!x.send&&(decide (x.peer=peer)&&decide (x.label=label)))
theorem cexp_ok {m:Mch} {s peer label:Int} (h:cexp m s peer label=true):ExpM m s peer label:=by
 unfold cexp at h;rw[List.any_eq_true] at h;obtain⟨x,hx,h⟩:=h;simp only[Yt,decide_eq_true_eq,Bool.not_eq_true'] at h;exact⟨s,.base (Ye.2 rfl),x,hx,h.1,⟨h.2.1,h.2.2.1⟩,h.2.2.2⟩
def cbox (L:List Mch) (c:Cf):Bool:=(List.range c.2.length).all fun i=>match c.2[i]? with
 | some (b::_)=>match L[i%L.length]?,c.1[i%L.length]? with
  | some m,some s=>cexp m s ((i/L.length:Nat):Int) b
  | _,_=>true
 | _=>true
def cfin (L:List Mch) (c:Cf):Bool:=((List.range c.1.length).all fun p=>match c.1[p]?,L[p]? with
 | some s,some m=>decide (m.fin[s.toNat]?=some true)
 | _,_=>true)&&c.2.all fun b=>b.isEmpty
def cok (L:List Mch) (k:Int) (c:Cf):Bool:=cstB L k c&&(cbox L c&&(!(cstS L k c).isEmpty||cfin L c))
theorem cok_ok {L:List Mch} {k:Int} {c:Cf} (hV:SysV L) (h:cok L k c=true):badS L k c.1 c.2=0/\stepsS L k c.1 c.2=cstS L k c:=by
 unfold cok at h;simp only[Yt] at h;obtain⟨h1,h2,h3⟩:=h;have hst:=cst_eq hV h1;refine⟨badS_0 ?_ ?_,hst⟩
 .rintro⟨i,b,l,m,s,g1,g2,g3,g4⟩;unfold cbox at h2;rw[List.all_eq_true] at h2;have:=h2 i (List.mem_range.2 (Ya.1 g1).1);rw[g1] at this;dsimp only at this;rw[g2,g3] at this;exact g4 (cexp_ok this)
 .rw[Bool.or_eq_true] at h3;rcases h3 with h3 | h3
  .refine .inr fun h=>?_;rw[<-hst,h] at h3;cases h3
  .refine .inl ?_;unfold cfin at h3;rw[Yt,List.all_eq_true,List.all_eq_true] at h3;refine⟨fun p s m g1 g2=>?_,fun b hb=>List.isEmpty_iff.1 (h3.2 b hb)⟩;have:=h3.1 p (List.mem_range.2 (Ya.1 g1).1);rw[g1,g2] at this;exact Yyn this
def exC (L:List Mch) (k:Int) (lim:Nat):Nat->Nat->List Qe->Option (List Cf)
 | 0,_,_=>none
 | f+1,i,Q=>match Q[i]? with
  | none=>some (Q.map Prod.fst)
  | some e=>if cok L k e.1=true then match exI L lim e (cstS L k e.1) Q with
   | none=>none
   | some Q'=>exC L k lim f (i+1) Q'
   else none
theorem exC_eq {L:List Mch} {k:Int} {lim:Nat} (hV:SysV L):∀(f i:Nat) (Q:List Qe) (R:List Cf),exC L k lim f i Q=some R->exO L k lim f i Q=.safe R
 | 0,_,_,_,h=>by cases h
 | f+1,i,Q,R,h=>by
  rw[exC] at h;rw[exO];cases hq:Q[i]? with
  | none=>rw[hq] at h;cases h;rfl
  | some e=>
   rw[hq] at h;dsimp only at h ⊢;split at h
   .rename_i hc;obtain⟨h1,h2⟩:=cok_ok hV hc;rw[if_neg (fun hn=>hn h1),h2];cases hi:exI L lim e (cstS L k e.1) Q with
    | none=>rw[hi] at h;cases h
    | some Q'=>rw[hi] at h;exact exC_eq hV f (i+1) Q' R h
   .cases h
theorem exC_mono {L:List Mch} {k:Int} {lim:Nat}:∀(f i:Nat) (Q:List Qe) (R:List Cf),exC L k lim f i Q=some R->exC L k lim (f+1) i Q=some R
 | 0,_,_,_,h=>by cases h
 | f+1,i,Q,R,h=>by
  rw[exC] at h;rw[exC];cases hq:Q[i]? with
  | none=>rw[hq] at h;exact h
  | some e=>
   rw[hq] at h;dsimp only at h ⊢;split at h
   .rename_i hc;rw[if_pos hc];cases hi:exI L lim e (cstS L k e.1) Q with
    | none=>rw[hi] at h;cases h
    | some Q'=>rw[hi] at h;exact exC_mono f (i+1) Q' R h
   .cases h
theorem exC_more {L:List Mch} {k:Int} {lim:Nat} (f i:Nat) (Q:List Qe) (R:List Cf) (h:exC L k lim f i Q=some R):∀d,exC L k lim (f+d) i Q=some R
 | 0=>h
 | d+1=>exC_mono _ _ _ _ (exC_more f i Q R h d)
def xRes:List Cf:=((exC xL 1 1000 20 0 (q0 xL)).getD [])
theorem xres_eq:exC xL 1 1000 20 0 (q0 xL)=some xRes:=by kernel_rfl
theorem xres_len:xRes.length=12:=by kernel_rfl
theorem xsearch:exS xL 1 1000=.safe xRes:=exC_eq xsys _ _ _ _ (exC_more 20 0 (q0 xL) xRes xres_eq 981)
theorem equal63 (X Y:List Int) (a b:Sl) (h:Heap) (hX:RL h 1 a inC X) (hY:RL h 1 b inC Y):Fn Pz 67 #[.slice a.a a.n a.c,.slice b.a b.n b.c] h (RP (X=Y) h):=by
 apply vc67 a b;unfold W67;have ha:=hX.ln;have hb:=hY.ln;have hsm:=hX.sm;refine sBn (fun c=>RP.f (fun hG=>by rw[hG] at ha;omega) .rfl') (fun c1=>?_);refine up_loopS (n:=a.n) (St.refl h) (fun i=>∀(j:Nat),j<i->X[j]?=Y[j]?) (fun j hj=>by omega) ?_;rintro-i h5 hi ⟨hs,hq⟩;refine sB_intro (fun c=>?_) (fun c=>?_)
 .replace c:=lt_t c;refine (hX.rw.ext hs.ext).nbI (by omega) (by omega) fun b1 o1 x gx t1=>?_;replace gx:X[i]?=some x:=gx;refine⟨_,t1.hd,?_⟩;refine (hY.rw.ext hs.ext).nbI (by omega) (by omega) fun b2 o2 y gy t2=>?_;replace gy:Y[i]?=some y:=gy;refine⟨_,t2.hd,sBn (fun c2=>RP.f (fun hG=>by rw[hG,gy] at gx;cases gx;exact c2 rfl) hs.ext) (fun c2=>?_)⟩;refine Up.next (by omega) (by omega) ⟨hs,fun j hj=>?_⟩;by_cases e:j=i
  .subst e;rw[gx,gy,c2]
  .exact hq j (by omega)
 .replace c:=lt_f c;refine RP.t (Yyr fun j=>?_) hs.ext;by_cases hj:j<X.length
  .exact hq j (by omega)
  .rw[Yl (by omega),Yl (by omega)]
theorem cal63:callable Pz 67=true:=by kernel_rfl
theorem equal64 (B1 B2:List Bx) (b1 b2:Sl) (h:Heap) (h1:RL h 1 b1 Bx.cs B1) (h2:RL h 1 b2 Bx.cs B2) (i1:∀q∈B1,RL h 1 q.s inC q.l) (i2:∀q∈B2,RL h 1 q.s inC q.l) :
  Fn Pz 68 #[.slice b1.a b1.n b1.c,.slice b2.a b2.n b2.c,.func (.func 67) #[] #[]] h (RP (B1.map Bx.l=B2.map Bx.l) h):=by
 apply vc68 b1 b2 67;unfold W68;have n1:=h1.ln;have n2:=h2.ln;have m1:=h1.sm;refine sBn (fun c=>RP.f (fun hG=>?_) .rfl') (fun c1=>?_)
 .have:=congrArg List.length hG;rw[Yc,Yc] at this;omega
 refine up_loopS (n:=b1.n) (St.refl h) (fun i=>∀(j:Nat),j<i->(B1.map Bx.l)[j]?=(B2.map Bx.l)[j]?) (fun j hj=>by omega) ?_;rintro-i h5 hi ⟨hs,hq⟩;refine sB_intro (fun c=>?_) (fun c=>?_)
 .replace c:=lt_t c;refine (h1.rw.ext hs.ext).nbI (by omega) (by omega) fun b3 o3 x gx t3=>?_;replace gx:B1[i]?=some x:=gx;refine⟨x.s,t3.hd,?_⟩;refine (h2.rw.ext hs.ext).nbI (by omega) (by omega) fun b4 o4 y gy t4=>?_;replace gy:B2[i]?=some y:=gy;refine⟨y.s,t4.hd,?_⟩;rw[cal63,cond_true];refine (equal63 x.l y.l x.s y.s h5 ((i1 x (Yb gx)).ext hs.ext) ((i2 y (Yb gy)).ext hs.ext)).mono ?_;rintro _ h14 ⟨⟨b',rfl,hb'⟩,E⟩;have hs:=hs.step E;have ex:(B1.map Bx.l)[i]?=some x.l:=by rw[Yd,gx];rfl
  have ey:(B2.map Bx.l)[i]?=some y.l:=by rw[Yd,gy];rfl
  refine⟨_,rfl,sB_intro (fun c=>RP.f (fun hG=>iff_f hb' (bF c) ?_) hs.ext) (fun c2=>?_)⟩
  .rw[hG,ey] at ex;exact (Yyp ex).symm
  .refine Up.next (by omega) (by omega) ⟨hs,fun j hj=>?_⟩;by_cases e:j=i
   .subst e;rw[ex,ey,hb'.1 (bT c2)]
   .exact hq j (by omega)
 .replace c:=lt_f c;refine RP.t (Yyr fun j=>?_) hs.ext;by_cases hj:j<B1.length
  .exact hq j (by omega)
  .rw[Yl (by rw[Yc];omega),Yl (by rw[Yc];omega)]
theorem equal32 (a1 b1 a2 b2:Sl) (S1 S2:List Int) (B1 B2:List Bx) (h:Heap) (h1:CfI h a1 b1 S1 B1) (h2:CfI h a2 b2 S2 B2) :
  Fn Pz 27 #[.agg ⟨[.slice a1.a a1.n a1.c,.slice b1.a b1.n b1.c]⟩,.agg ⟨[.slice a2.a a2.n a2.c,.slice b2.a b2.n b2.c]⟩] h (RP (S1=S2/\B1.map Bx.l=B2.map Bx.l) h):=by
 apply vc27 a1 b1 a2 b2;unfold W27;refine (St.refl h).newb fun h5 hs=>?_;refine hs.newb fun h6 hs=>?_;refine⟨a1,hs.rd 1 rfl rfl,a2,hs.rd 0 rfl rfl,?_⟩;refine (equal63 S1 S2 a1 a2 h6 (h1.s.ext hs.ext) (h2.s.ext hs.ext)).mono ?_;rintro _ h11 ⟨⟨b,rfl,hb⟩,E⟩;have hs:=hs.step E;refine⟨b,rfl,sB_intro (fun c=>?_) (fun c=>RP.f (fun hG=>iff_f hb c hG.1) hs.ext)⟩;refine⟨b1,hs.rd 1 rfl (i:=1) rfl,b2,hs.rd 0 rfl (i:=1) rfl,?_⟩;refine (equal64 B1 B2 b1 b2 h11 (h1.b.ext hs.ext) (h2.b.ext hs.ext) (fun q hq=>(h1.i q hq).ext hs.ext) (fun q hq=>(h2.i q hq).ext hs.ext)).mono ?_;rintro _ h16 ⟨⟨b3,rfl,hb3⟩,E⟩;exact⟨b3,rfl,RP.e (hb3.trans ⟨fun e=>⟨hb.1 c,e⟩,fun e=>e.2⟩) (hs.ext.trans E)⟩


theorem RL.cut0 {α:Type} {h:Heap} {n:Nat} {s:Sl} {cs:α->List Value} {l:List α} (hr:RL h n s cs l) (i:Nat) (hi:i<=s.n):RL h n ⟨subA s.a (Int.toNat 0) s.c n,Int.toNat (i:Int)-Int.toNat 0,s.c-Int.toNat 0⟩ cs (l.take i):=by
 have e0:subA s.a (Int.toNat 0) s.c n=s.a:=subA_zero _ _ _;rw[e0,show Int.toNat (i:Int)-Int.toNat 0=i from rfl,show s.c-Int.toNat 0=s.c from rfl];have hln:=hr.ln;have hcap:=hr.cap;refine⟨⟨by show i=_;rw[Yc,Yu];omega,fun hp=>?_⟩,by show i<=s.c;omega,fun e=>?_,by rw[Yu];have:=hr.sm;omega⟩
 .obtain⟨b,o,e1,e2⟩:=hr.rw.2 (by rw[Yc] at hp ⊢;rw[Yu] at hp;omega);refine⟨b,o,e1,fun j row hj=>e2 j row ?_⟩;rw[Yd] at hj ⊢;have hjl:j<i:=Classical.byContradiction fun hn=>by
   rw[Yl (by rw[Yu];omega)] at hj;cases hj
  rw[List.getElem?_take_of_lt hjl] at hj;exact hj
 .have:=hr.nil e;exact⟨by show i=0;omega,this.2⟩
theorem do_of {L:List Mch} {k:Int} {c:Cf} {q:Nat × Nat} (hP:ProS L k c.1 c.2) (h:q∈stepsS L k c.1 c.2):doS L k c.1 c.2 (q.1:Int) (q.2:Int)=(0,nxS L c q):=by
 obtain⟨a,b⟩:=q;obtain⟨m,x,gm,gx,hc⟩:=steps_mem h;rw[nxS_of gm gx];dsimp only;rw[doS_at hP gm gx,if_pos hc]
end Go.VC
end

section
namespace Go.VC
open Go.Proofs Go.LexS Go.Maps
abbrev Flt:=Int × Int × Int × Int
def fltC (f:Flt):List Value:=[.int .i64 f.1,.int .i64 f.2.1,.int .i64 f.2.2.1,.int .i64 f.2.2.2]
def flt0:Flt:=(0,0,0,0)
open Classical in
noncomputable def fstI (p:Cf->Prop) (Q:List Cf):Option Nat:=(List.range Q.length).find? fun i=>decide (∃c,Q[i]?=some c/\p c)
open Classical in
theorem fstI_some {p:Cf->Prop} {Q:List Cf} {i:Nat} {c:Cf} (hb:∀(j:Nat) d,j<i->Q[j]?=some d->¬p d) (hc:Q[i]?=some c) (hp:p c):fstI p Q=some i:=by
 unfold fstI;rw[List.find?_range_eq_some];refine⟨by rw[decide_eq_true_eq];exact⟨c,hc,hp⟩,List.mem_range.2 (Ya.1 hc).1,fun j hj=>?_⟩;rw[Bool.not_eq_true',decide_eq_false_iff_not];rintro⟨d,h1,h2⟩;exact hb j d hj h1 h2
theorem fstI_none {p:Cf->Prop} {Q:List Cf} (hb:∀(j:Nat) d,Q[j]?=some d->¬p d):fstI p Q=none:=by
 unfold fstI;rw[List.find?_range_eq_none];intro j hj;rw[Bool.not_eq_true',decide_eq_false_iff_not];rintro⟨d,h1,h2⟩;exact hb j d h1 h2
theorem fstI_no {p:Cf->Prop} {Q:List Cf} (h:fstI p Q=none) {c:Cf} (hc:c∈Q):¬p c:=fun hp=>by
 unfold fstI at h;rw[List.find?_range_eq_none] at h;obtain⟨j,gj⟩:=Yf.1 hc;have:=h j (Ya.1 gj).1;rw[Bool.not_eq_true',decide_eq_false_iff_not] at this;exact this ⟨c,gj,hp⟩
open Classical in
theorem fstI_ex {p:Cf->Prop} {Q:List Cf} {i:Nat} (h:fstI p Q=some i):∃c,Q[i]?=some c/\p c:=by
 unfold fstI at h;rw[List.find?_range_eq_some] at h;have h1:=h.1;rw[decide_eq_true_eq] at h1;exact h1
open Classical in
noncomputable def levS (L:List Mch) (k:Int) (Q:List Cf) (c:Cf):Option (Nat × Nat):=(stepsS L k c.1 c.2).find? fun q=>decide (nxS L c q∉Q)
noncomputable def clsS (L:List Mch) (k:Int) (Q:List Cf):Flt:=match fstI (fun c=>(levS L k Q c).isSome=true) Q with
 | none=>flt0
 | some i=>match (Q[i]?).bind (levS L k Q) with
  | none=>flt0
  | some q=>(5,(i:Int),(q.1:Int),(q.2:Int))
def fltO (r:Int) (o:Option Nat):Flt:=match o with
 | some i=>(r,(i:Int),0,0)
 | none=>flt0
open Classical in
noncomputable def chkV (L:List Mch) (k:Int) (Q:List Cf):Flt × Int:=
 if ¬SysV L then (flt0,1) else if k<1\/4<k\/20000<Q.length then ((1,0,0,0),23) else
 match fstI (fun c=>¬ProS L k c.1 c.2) Q with
 | some i=>((2,(i:Int),0,0),23)
 | none=>match fstI (fun c=>badS L k c.1 c.2≠0) Q with
  | some i=>((3,(i:Int),0,0),23)
  | none=>if (startS L,startB L)∉Q then ((4,0,0,0),23) else if (clsS L k Q).1≠0 then (clsS L k Q,23) else (flt0,0)
structure CtI (h:Heap) (cs:Sl) (C:List Cr):Prop where
 r:RL h 2 cs Cr.cs C
 i:∀c∈C,CfI h c.c1 c.c2 c.S c.B
theorem CtI.ext {h h':Heap} {cs:Sl} {C:List Cr} (hC:CtI h cs C) (E:Ext h h'):CtI h' cs C:=⟨hC.r.ext E,fun c hc=>(hC.i c hc).ext E⟩
def CkI (h:Heap) (xb:Nat) (s:Sl) (k:Int) (cs:Sl) (nb:Nat):Prop:=atC h ⟨xb,0,none⟩ [.slice s.a s.n s.c,.int .i64 k,.slice cs.a cs.n cs.c,.map (some nb)]
theorem CkI.ext {h h':Heap} {xb:Nat} {s:Sl} {k:Int} {cs:Sl} {nb:Nat} (hX:CkI h xb s k cs nb) (E:Ext h h'):CkI h' xb s k cs nb:=atC_ext E hX
theorem cal95:callable Pz 95=true:=by kernel_rfl
theorem cal96:callable Pz 96=true:=by kernel_rfl
theorem limits38 (xb:Nat) (s cs:Sl) (k:Int) (nb:Nat) (h:Heap) (hX:CkI h xb s k cs nb) :
  Fn Pz 38 #[.pointer (some ⟨xb,0,none⟩)] h fun v h'=>(∃f:Flt,v=.agg ⟨fltC f⟩/\f=if k<1\/4<k\/20000<cs.n then (1,0,0,0) else flt0)/\Ext h h':=by
 apply vc38 ⟨xb,0,none⟩;unfold W38 V38a V38b;refine (St.refl h).newb fun h1 hs=>?_;have hX:=hX.ext hs.ext;have fin:∀f:Flt,okAt h1 ⟨h.size,0,none⟩ 4/\∀h3:Heap,h3=hputs h1 ⟨h.size,0,none⟩ 0 (fltC f)->(∃x4:Int,∃x5:Int,∃x6:Int,∃x7:Int,atC h3 ⟨h.size,0,none⟩ [.int .i64 x4,.int .i64 x5,.int .i64 x6,.int .i64 x7]/\((Value.agg ⟨[.int .i64 x4,.int .i64 x5,.int .i64 x6,.int .i64 x7]⟩=.agg ⟨fltC f⟩)/\Ext h h3)):=fun f=>by
  refine hs.put 0 rfl (o:=0) (vs:=fltC f) rfl (show 4<=4 by decide) fun h3 hs=>?_;exact⟨f.1,f.2.1,f.2.2.1,f.2.2.2,hs.at 0 rfl (o:=0) (n:=4) rfl,rfl,hs.ext⟩
 have fin2:∀f:Flt,f=(if k<1\/4<k\/20000<cs.n then (1,0,0,0) else flt0)->okAt h1 ⟨h.size,0,none⟩ 4/\∀h3:Heap,h3=hputs h1 ⟨h.size,0,none⟩ 0 (fltC f)->(∃x4:Int,∃x5:Int,∃x6:Int,∃x7:Int,atC h3 ⟨h.size,0,none⟩ [.int .i64 x4,.int .i64 x5,.int .i64 x6,.int .i64 x7]/\((∃f:Flt,Value.agg ⟨[.int .i64 x4,.int .i64 x5,.int .i64 x6,.int .i64 x7]⟩=.agg ⟨fltC f⟩/\f=if k<1\/4<k\/20000<cs.n then (1,0,0,0) else flt0)/\Ext h h3)):=fun f hf=>by
  refine⟨(fin f).1,fun h3 h=>?_⟩;obtain⟨a,b,c,d,h1,h2,h3⟩:=(fin f).2 h3 h;exact⟨a,b,c,d,h1,⟨f,h2,hf⟩,h3⟩
 refine⟨k,hX.nth 1 rfl,sBi (fun c1=>fin2 (1,0,0,0) (by rw[if_pos (.inl c1)])) (fun c1=>?_)⟩;refine⟨k,hX.nth 1 rfl,sBi (fun c2=>fin2 (1,0,0,0) (by rw[if_pos (.inr (.inl c2))])) (fun c2=>?_)⟩;refine⟨cs,hX.nth 2 rfl,sBi (fun c3=>fin2 (1,0,0,0) (by rw[if_pos (.inr (.inr (by omega)))])) (fun c3=>fin2 flt0 (by rw[if_neg (by omega)]))⟩
theorem index152 (C:List Cr) (cs:Sl) (g:FuncId) (a:Addr) (p:Cf->Prop) (h:Heap) (hC:CtI h cs C) (hg:callable Pz g=true) (hf:∀c∈C,∀h',Ext h h'->Fn Pz g #[.agg ⟨c.cs⟩,.pointer (some a)] h' (RP (p c.cf) h')) :
  Fn Pz 152 #[.slice cs.a cs.n cs.c,.func (.func g) #[] #[.pointer (some a)]] h fun v h'=>(∃k:Int,v=.int .i64 k/\((k=-1/\fstI p (C.map Cr.cf)=none)\/∃i:Nat,k=(i:Int)/\fstI p (C.map Cr.cf)=some i))/\Ext h h':=by
 apply vc152 cs g (some a);unfold W152;have hn:=hC.r.ln;have hm:=hC.r.sm;refine up_loop (n:=cs.n) (fun i h'=>Ext h h'/\∀(j:Nat) d,j<i->(C.map Cr.cf)[j]?=some d->¬p d) ⟨.rfl',fun j d hj=>by omega⟩ ?_;rintro-i h5 hi ⟨E,hq⟩;refine sB_intro (fun c=>?_) (fun c=>?_)
 .replace c:=lt_t c;refine (hC.r.rw.ext E).nbI (by omega) (by omega) fun b6 o7 d gd t=>?_;replace gd:C[i]?=some d:=gd;have gq:(C.map Cr.cf)[i]?=some d.cf:=by rw[Yd,gd];rfl
  refine⟨d.c1,d.c2,t,?_⟩;rw[hg,cond_true];refine (hf d (Yb gd) h5 E).mono ?_;rintro _ h12 ⟨⟨b,rfl,hb⟩,E12⟩;refine⟨b,rfl,sB_intro (fun c2=>?_) (fun c2=>?_)⟩
  .exact⟨⟨_,rfl,.inr ⟨i,rfl,fstI_some hq gq (hb.1 c2)⟩⟩,E.trans E12⟩
  .refine Up.next c (by omega) ⟨E.trans E12,fun j y hj hy=>?_⟩;by_cases e:j=i
   .subst e;rw[gq] at hy;cases hy;exact iff_f hb c2
   .exact hq j y (by omega) hy
 .replace c:=lt_f c;refine⟨⟨_,rfl,.inl ⟨rfl,fstI_none fun j d hj=>hq j d ?_ hj⟩⟩,E⟩;have:=(Ya.1 hj).1;rw[Yc] at this;omega
theorem each94 (C:List Cr) (s cs:Sl) (k r:Int) (xb nb:Nat) (g:FuncId) (a:Addr) (p:Cf->Prop) (h:Heap) (hX:CkI h xb s k cs nb) (hC:CtI h cs C) (hg:callable Pz g=true) (hf:∀c∈C,∀h',Ext h h'->Fn Pz g #[.agg ⟨c.cs⟩,.pointer (some a)] h' (RP (p c.cf) h')) :
  Fn Pz 94 #[.pointer (some ⟨xb,0,none⟩),.int .i64 r,.func (.func g) #[] #[.pointer (some a)]] h fun v h'=>v=.agg ⟨fltC (fltO r (fstI p (C.map Cr.cf)))⟩/\Ext h h':=by
 apply vc94 ⟨xb,0,none⟩ r g (some a);unfold W94 V94a;refine (St.refl h).newb fun h1 hs=>?_;refine⟨cs,(hX.ext hs.ext).nth 2 rfl,?_⟩;refine (index152 C cs g a p h1 (hC.ext hs.ext) hg fun c hc h' E=>hf c hc h' (hs.ext.trans E)).mono ?_;rintro _ h5 ⟨⟨x,rfl,hx⟩,E⟩;have hs:=hs.step E;refine⟨x,rfl,?_⟩;rcases hx with ⟨rfl,e⟩ | ⟨i,rfl,e⟩
 .refine sB_f rfl ?_;refine hs.put 0 rfl (o:=0) (vs:=fltC flt0) rfl (show 4<=4 by decide) fun h6 hs=>?_;exact⟨0,0,0,0,hs.at 0 rfl (o:=0) (n:=4) rfl,by rw[e];rfl,hs.ext⟩
 .refine sB_t (decide_eq_true (by omega)) ?_;refine hs.put 0 rfl (o:=0) (vs:=fltC (r,(i:Int),0,0)) rfl (show 4<=4 by decide) fun h6 hs=>?_;exact⟨r,i,0,0,hs.at 0 rfl (o:=0) (n:=4) rfl,by rw[e];rfl,hs.ext⟩
theorem proper39 (L:List MR) (C:List Cr) (s cs:Sl) (k:Int) (xb nb:Nat) (h:Heap) (hS:SyI h s L) (hX:CkI h xb s k cs nb) (hC:CtI h cs C) :
  Fn Pz 39 #[.pointer (some ⟨xb,0,none⟩)] h fun v h'=>v=.agg ⟨fltC (fltO 2 (fstI (fun c=>¬ProS (L.map MR.m) k c.1 c.2) (C.map Cr.cf)))⟩/\Ext h h':=by
 apply vc39 ⟨xb,0,none⟩;unfold W39;refine (St.refl h).newb fun h1 hs=>?_;refine hs.newb fun h2 hs=>?_;refine⟨some ⟨xb,0,none⟩,hs.rd 1 rfl (i:=0) rfl,?_⟩;refine (each94 C s cs k 2 xb nb 95 ⟨h.size,0,none⟩ (fun c=>¬ProS (L.map MR.m) k c.1 c.2) h2 (hX.ext hs.ext) (hC.ext hs.ext) cal95 fun c hc h' E=>?_).mono ?_
 .have hs:=hs.step E;apply vc95 c.c1 c.c2 ⟨h.size,0,none⟩;unfold W95;refine (St.refl h').newb fun h3 hs3=>?_;have hs:=hs.step hs3.ext;have hX:=hX.ext hs.ext;refine⟨some ⟨xb,0,none⟩,hs.rd 1 rfl (i:=0) rfl,s,hX.hd,some ⟨xb,0,none⟩,hs.rd 1 rfl (i:=0) rfl,k,hX.nth 1 rfl,c.c1,c.c2,hs3.at 0 rfl (o:=0) (n:=2) rfl,?_⟩;refine (proper24 L s k c.c1 c.c2 c.S c.B h3 (hS.ext hs.ext) ((hC.ext hs.ext).i c hc)).mono ?_;rintro _ h14 ⟨⟨b,rfl,hb⟩,E14⟩;refine⟨b,rfl,RP.e ?_ (hs3.ext.trans E14)⟩;cases b with
  | true=>exact iff_of_false (by decide) fun hn=>hn (hb.1 rfl)
  | false=>exact iff_of_true rfl fun hp=>by have:=hb.2 hp;cases this
 .rintro _ h9 ⟨rfl,E⟩;have hs:=hs.step E;refine⟨_,_,_,_,rfl,?_⟩;refine hs.put 0 rfl (o:=0) (vs:=fltC _) rfl (show 4<=4 by decide) fun h10 hs=>?_;exact⟨_,_,_,_,hs.at 0 rfl (o:=0) (n:=4) rfl,rfl,hs.ext⟩
theorem good40 (L:List MR) (C:List Cr) (s cs:Sl) (k:Int) (xb nb:Nat) (h:Heap) (hS:SyI h s L) (hX:CkI h xb s k cs nb) (hC:CtI h cs C) (hP:∀c∈C,ProS (L.map MR.m) k c.S (c.B.map Bx.l)) :
  Fn Pz 40 #[.pointer (some ⟨xb,0,none⟩)] h fun v h'=>v=.agg ⟨fltC (fltO 3 (fstI (fun c=>badS (L.map MR.m) k c.1 c.2≠0) (C.map Cr.cf)))⟩/\Ext h h':=by
 apply vc40 ⟨xb,0,none⟩;unfold W40;refine (St.refl h).newb fun h1 hs=>?_;refine hs.newb fun h2 hs=>?_;refine⟨some ⟨xb,0,none⟩,hs.rd 1 rfl (i:=0) rfl,?_⟩;refine (each94 C s cs k 3 xb nb 96 ⟨h.size,0,none⟩ (fun c=>badS (L.map MR.m) k c.1 c.2≠0) h2 (hX.ext hs.ext) (hC.ext hs.ext) cal96 fun c hc h' E=>?_).mono ?_
 .have hs:=hs.step E;apply vc96 c.c1 c.c2 ⟨h.size,0,none⟩;unfold W96;refine (St.refl h').newb fun h3 hs3=>?_;have hs:=hs.step hs3.ext;have hX:=hX.ext hs.ext;refine⟨some ⟨xb,0,none⟩,hs.rd 1 rfl (i:=0) rfl,s,hX.hd,some ⟨xb,0,none⟩,hs.rd 1 rfl (i:=0) rfl,k,hX.nth 1 rfl,c.c1,c.c2,hs3.at 0 rfl (o:=0) (n:=2) rfl,?_⟩;refine (bad38 L s k c.c1 c.c2 c.S c.B h3 (hS.ext hs.ext) ((hC.ext hs.ext).i c hc)).mono ?_;rintro _ h14 ⟨E14,b,e,rfl,hb,-⟩;obtain⟨rfl,rfl⟩:=hb (hP c hc);exact⟨_,_,rfl,RP.e bne_iff_ne (hs3.ext.trans E14)⟩
 .rintro _ h9 ⟨rfl,E⟩;have hs:=hs.step E;refine⟨_,_,_,_,rfl,?_⟩;refine hs.put 0 rfl (o:=0) (vs:=fltC _) rfl (show 4<=4 by decide) fun h10 hs=>?_;exact⟨_,_,_,_,hs.at 0 rfl (o:=0) (n:=4) rfl,rfl,hs.ext⟩
end Go.VC
end

section
namespace Go.VC
open Go.Proofs Go.LexS Go.Maps
theorem mget_mset {α β:Type} [DecidableEq α] (a x:α) (b:β):∀(l:List (α × β)),mget (mset l a b) x=if x=a then some b else mget l x
 | []=>by
  unfold mset mget;by_cases h:x=a
  .rw[if_pos h];first
    | rw[if_pos h.symm]
    | rw[if_pos h]
  .rw[if_neg h];first
    | rw[if_neg fun e=>h e.symm];rfl
    | rw[if_neg h];rfl
 | (c,y)::r=>by
  have ih:=mget_mset a x b r;rw[mset];split
  .rename_i hc;subst hc;unfold mget;by_cases h:x=c
   .subst h;rw[if_pos rfl,if_pos rfl]
   .rw[if_neg h];first
     | rw[if_neg fun e=>h e.symm,if_neg fun e=>h e.symm]
     | rw[if_neg h,if_neg h]
  .rename_i hc;rw[show mget ((c,y)::mset r a b) x=(if c=x then some y else mget (mset r a b) x) by first | rfl | (unfold mget;by_cases e:x=c;(· rw[if_pos e,if_pos e.symm]);(· rw[if_neg e,if_neg fun q=>e q.symm])),ih];rw[show mget ((c,y)::r) x=(if c=x then some y else mget r x) by first | rfl | (unfold mget;by_cases e:x=c;(· rw[if_pos e,if_pos e.symm]);(· rw[if_neg e,if_neg fun q=>e q.symm]))];by_cases h:c=x
   .subst h;rw[if_pos rfl,if_neg (fun e=>hc (by first | exact e | exact e.symm)),if_pos rfl]
   .rw[if_neg h,if_neg h]
structure KyOk (N:List (ByteArray × Bool)) (Q:List Cf):Prop where
 nd:(N.map Prod.fst).Nodup
 ok:∀q∈N,kokB q.1
 y:∀c∈Q,mget N (kyC c)=some true
 n:∀c,c∉Q->mget N (kyC c)=none
theorem KyOk.nil:KyOk [] []:=⟨.nil,fun q hq=>(by cases hq),fun c hc=>(by cases hc),fun c _=>rfl⟩
theorem KyOk.put {N:List (ByteArray × Bool)} {Q:List Cf} {c:Cf} (h:KyOk N Q) (hc:kokB (kyC c)):KyOk (mset N (kyC c) true) (Q++[c]):=by
 refine⟨mset_nodup _ _ _ h.nd,fun q hq=>?_,fun d hd=>?_,fun d hd=>?_⟩
 .have h1:=(mset_keys (kyC c) true N q.1).1 (List.mem_map_of_mem hq);rcases h1 with h1 | h1
  .obtain⟨q',hq',e⟩:=Yp.1 h1;rw[<-e];exact h.ok q' hq'
  .rw[h1];exact hc
 .rw[mget_mset];by_cases e:kyC d=kyC c
  .rw[if_pos e]
  .rw[if_neg e];rcases Yk.1 hd with hd | hd
   .exact h.y d hd
   .exact absurd (congrArg kyC (Ye.1 hd)) e
 .rw[mget_mset,if_neg (fun e=>hd (List.mem_append_right _ (Ye.2 (kyC_inj e))))];exact h.n d fun hm=>hd (List.mem_append_left _ hm)
theorem key54 (ss sb:Sl) (S:List Int) (B:List Bx) (h:Heap) (hC:CfI h ss sb S B) (hE:EncOk S (B.map Bx.l)) :
  Fn Pz 54 #[.agg ⟨[.slice ss.a ss.n ss.c,.slice sb.a sb.n sb.c]⟩] h fun v h'=>v=.string (kyC (S,B.map Bx.l))/\Ext h h':=by
 apply vc54 ss sb;unfold W54;refine (St.refl h).newb fun h3 hs=>?_;refine⟨ss,sb,hs.at 0 rfl (o:=0) (n:=2) rfl,?_⟩;refine (encode35 ss sb S B h3 (hC.ext hs.ext) hE).mono ?_;rintro _ h8 ⟨b,rfl,hse⟩;refine⟨b,rfl,(cv_str hse encC_byte).mono ?_⟩;rintro _ _ ⟨rfl,rfl⟩;exact⟨_,rfl,rfl,hs.ext.trans hse.ext⟩
theorem kys {N:List (ByteArray × Bool)} {Q:List Cf} (h:KyOk N Q) (c:Cf):∃b:Bool,(mget N (kyC c)=bif b then some true else none)/\(b=true ↔ c∈Q):=by
 by_cases hc:c∈Q
 .exact⟨true,h.y c hc,iff_of_true rfl hc⟩
 .exact⟨false,h.n c hc,iff_of_false (by decide) hc⟩
theorem starts41 (L:List MR) (C:List Cr) (s cs:Sl) (k:Int) (xb nb:Nat) {h0 h:Heap} {A:List It} (hs:St h0 h (.mp nb (([]:List (ByteArray × Bool)).map kyV)::A)) (hS:SyI h0 s L) (hV:SysV (L.map MR.m)) (hX:Sta A fun h=>CkI h xb s k cs nb) (hC:CtI h0 cs C) (hk:1<=k/\k<=4) (hP:∀c∈C,ProS (L.map MR.m) k c.S (c.B.map Bx.l)) :
  Fn Pz 41 #[.pointer (some ⟨xb,0,none⟩)] h fun v h'=>∃(f:Flt) (N:List (ByteArray × Bool)),v=.agg ⟨fltC f⟩/\((f=flt0/\(startS (L.map MR.m),startB (L.map MR.m))∈C.map Cr.cf)\/(f=(4,0,0,0)/\(startS (L.map MR.m),startB (L.map MR.m))∉C.map Cr.cf))/\KyOk N (C.map Cr.cf)/\St h0 h' (.mp nb (N.map kyV)::A):=by
 apply vc41 ⟨xb,0,none⟩;unfold W41 V41a;have hcn:=hC.r.ln;have hcm:=hC.r.sm;refine hs.newb fun h1 hs=>?_;refine⟨cs,(hX.at hs mem2).nth 2 rfl,?_⟩;refine⟨fun x h' μ=>∃(i:Nat) (N:List (ByteArray × Bool)),x=(i:Int)/\μ=C.length-i/\i<=C.length/\KyOk N ((C.take i).map Cr.cf)/\St h0 h' (.blk h.size [.int .i64 0,.int .i64 0,.int .i64 0,.int .i64 0] 45 :: .mp nb (N.map kyV)::A),⟨_,0,[],rfl,rfl,Nat.zero_le _,.nil,hs⟩,?_⟩;clear hs;rintro-_ h7 μ ⟨i,N,rfl,rfl,hi,hN,hs⟩;refine sBi (fun c1=>?_) (fun c1=>?_)
 .obtain⟨d,gd⟩:=get_some (l:=C) (i:=i) (by omega);have hdm:=Yb gd;refine (hC.r.rw.ext hs.ext).nbI (by omega) (by omega) fun b8 o9 d' gd' t=>?_;rw[Ys] at gd';replace gd':C[i]?=some d':=gd';rw[gd] at gd';cases gd';refine⟨d.c1,d.c2,t,?_⟩;refine hs.newput (vs:=[.slice d.c1.a d.c1.n d.c1.c,.slice d.c2.a d.c2.n d.c2.c]) rfl rfl fun h13 hs=>?_;refine⟨some nb,(hX.at hs (memP (P:=[_,_,_]))).nth 3 rfl,d.c1,d.c2,hs.at 0 rfl (o:=0) (n:=2) rfl,?_⟩;refine (key54 d.c1 d.c2 d.S d.B h13 ((hC.ext hs.ext).i d hdm) (enc_pro (hP d hdm))).mono ?_;rintro _ h19 ⟨rfl,E⟩;have hs:=hs.step E;refine⟨_,rfl,E.sm,?_⟩;have hkok:kokB (kyC d.cf):=ky_ok (c:=d.cf) (hP d hdm);refine hs.mput M92 (cv:=Value.bool) (l:=N) (a:=kyC d.cf) 2 rfl hN.ok hN.nd hkok true fun h20 hs=>?_;refine⟨_,(show C.length-(i+1)<C.length-i by omega),i+1,mset N (kyC d.cf) true,by rw[w64 (by omega) (by omega)];omega,rfl,by omega,?_,hs.drop 1⟩;rw[take_snoc gd,Ym];exact hN.put hkok
 .have hie:i=C.length:=by omega
  subst hie;rw[Yye] at hN;refine⟨s,(hX.at hs mem2).hd,?_⟩;refine (start14 L s h7 (hS.ext hs.ext)).mono ?_;rintro _ h27 ⟨ss,sb,S,B,e,A2,rfl,hs2,hM,hv1,-⟩;obtain⟨rfl,rfl,rfl⟩:=hv1 hV;have hs:=hs.join hs2;refine⟨ss,sb,0,rfl,?_⟩;refine hs.newput (vs:=[.slice ss.a ss.n ss.c,.slice sb.a sb.n sb.c]) rfl rfl fun h29 hs=>?_;have hmA:∀i∈A,i∈(.blk h27.size [.slice ss.a ss.n ss.c,.slice sb.a sb.n sb.c] 52::((.blk h.size [.int .i64 0,.int .i64 0,.int .i64 0,.int .i64 0] 45 :: .mp nb (N.map kyV)::A)++A2):List It):=fun i hi=>Yn _ (List.mem_append_left _ (Yn _ (Yn _ hi)));refine⟨some nb,(hX.at hs hmA).nth 3 rfl,ss,sb,hs.at 0 rfl (o:=0) (n:=2) rfl,?_⟩;refine (key54 ss sb _ _ h29 ((hM.mono fun i hi=>Yn _ (List.mem_append_right _ hi)).cfi hs) (enc_pro (xpro_start hV hk))).mono ?_;rintro _ h35 ⟨rfl,E⟩;have hs:=hs.step E;refine⟨_,rfl,E.sm,?_⟩;have hkok:kokB (kyC (startS (L.map MR.m),(List.replicate ((L.map MR.m).length*(L.map MR.m).length) bx0).map Bx.l)):=ky_ok (c:=(_,_)) (xpro_start hV hk);rw[bxs0] at hkok ⊢;obtain⟨b,hb,hbm⟩:=kys hN (startS (L.map MR.m),startB (L.map MR.m));refine hs.mlook M92 (cv:=Value.bool) (l:=N) (a:=kyC (startS (L.map MR.m),startB (L.map MR.m))) 2 rfl hN.ok hN.nd hkok false ?_;refine⟨b,by rw[hb];cases b<;>rfl,sB_intro (fun c2=>?_) (fun c2=>?_)⟩
  .refine hs.put 1 rfl (o:=0) (vs:=fltC (4,0,0,0)) rfl (show 4<=4 by decide) fun h39 hs=>?_;refine⟨4,0,0,0,hs.at 1 rfl (o:=0) (n:=4) rfl,(4,0,0,0),N,rfl,.inr ⟨rfl,fun hm=>?_⟩,hN,hs.sub (.cons _ (.cons _ (List.sublist_append_left _ _)))⟩;rw[hbm.2 hm] at c2;cases c2
  .refine hs.put 1 rfl (o:=0) (vs:=fltC flt0) rfl (show 4<=4 by decide) fun h44 hs=>?_;exact⟨0,0,0,0,hs.at 1 rfl (o:=0) (n:=4) rfl,flt0,N,rfl,.inl ⟨rfl,hbm.1 (by cases b with | true=>rfl | false=>cases c2)⟩,hN,hs.sub (.cons _ (.cons _ (List.sublist_append_left _ _)))⟩
theorem find_first {α:Type} {P:α->Bool}:∀ {l:List α} {j:Nat} {x:α},l[j]?=some x->P x=true->(∀(t:Nat) y,t<j->l[t]?=some y->P y=false)->l.find? P=some x
 | [],j,x,h,_,_=>by cases h
 | a::r,0,x,h,hp,_=>by cases h;rw[List.find?_cons_of_pos hp]
 | a::r,j+1,x,h,hp,hb=>by
  rw[List.find?_cons_of_neg (by rw[hb 0 a (by omega) rfl];decide)];exact find_first (l:=r) (j:=j) h hp fun t y ht hy=>hb (t+1) y (by omega) hy
theorem lev_none {L:List Mch} {k:Int} {Q:List Cf} {c:Cf} (h:∀q∈stepsS L k c.1 c.2,nxS L c q∈Q):levS L k Q c=none:=by
 unfold levS;rw[List.find?_eq_none];intro q hq;rw[decide_eq_true_eq];exact fun hn=>hn (h q hq)
theorem lev_some {L:List Mch} {k:Int} {Q:List Cf} {c:Cf} {j:Nat} {q:Nat × Nat} (hj:(stepsS L k c.1 c.2)[j]?=some q) (hq:nxS L c q∉Q) (hb:∀(t:Nat) y,t<j->(stepsS L k c.1 c.2)[t]?=some y->nxS L c y∈Q):levS L k Q c=some q:=by
 unfold levS;refine find_first hj (by rw[decide_eq_true_eq];exact hq) fun t y ht hy=>?_;rw[decide_eq_false_iff_not];exact fun hn=>hn (hb t y ht hy)
theorem cls_some {L:List Mch} {k:Int} {Q:List Cf} {i:Nat} {c:Cf} {q:Nat × Nat} (hb:∀(j:Nat) d,j<i->Q[j]?=some d->levS L k Q d=none) (hc:Q[i]?=some c) (hq:levS L k Q c=some q):clsS L k Q=(5,(i:Int),(q.1:Int),(q.2:Int)):=by
 unfold clsS;rw[fstI_some (fun j d hj hd=>by rw[hb j d hj hd];decide) hc (by rw[hq];rfl)];dsimp only;rw[hc];dsimp only[Option.bind];rw[hq]
theorem cls_none {L:List Mch} {k:Int} {Q:List Cf} (hb:∀(j:Nat) d,Q[j]?=some d->levS L k Q d=none):clsS L k Q=flt0:=by
 unfold clsS;rw[fstI_none fun j d hd=>by rw[hb j d hd];decide]
theorem closed42 (L:List MR) (C:List Cr) (s cs:Sl) (k:Int) (xb nb:Nat) (N:List (ByteArray × Bool)) {h0 h:Heap} {A:List It} (hs:St h0 h (.mp nb (N.map kyV)::A)) (hN:KyOk N (C.map Cr.cf)) (hS:SyI h0 s L) (hX:Sta A fun h=>CkI h xb s k cs nb) (hC:CtI h0 cs C) (hP:∀c∈C,ProS (L.map MR.m) k c.S (c.B.map Bx.l)) :
  Fn Pz 42 #[.pointer (some ⟨xb,0,none⟩)] h fun v h'=>v=.agg ⟨fltC (clsS (L.map MR.m) k (C.map Cr.cf))⟩/\St h0 h' (.mp nb (N.map kyV)::A):=by
 apply vc42 ⟨xb,0,none⟩;unfold W42 V42a V42b;have hcn:=hC.r.ln;have hcm:=hC.r.sm;refine hs.newb fun h1 hs=>?_;refine hs.mmake 104 fun h4 E4 hs=>⟨_,rfl,?_⟩;refine⟨cs,(hX.at hs (memP (P:=[_,_,_]))).nth 2 rfl,?_⟩;refine⟨fun x h' μ=>∃(i:Nat) (D:List (ByteArray × Bool)),x=(i:Int)/\μ=C.length-i/\i<=C.length/\KyOk D ((C.take i).map Cr.cf)/\(∀(j:Nat) d,j<i->(C.map Cr.cf)[j]?=some d->levS (L.map MR.m) k (C.map Cr.cf) d=none) /\
  St h0 h' (.mp h1.size (D.map kyV) :: .blk h.size [.int .i64 0,.int .i64 0,.int .i64 0,.int .i64 0] 45 :: .mp nb (N.map kyV)::A),⟨_,0,[],rfl,rfl,Nat.zero_le _,.nil,fun j d hj=>by omega,hs⟩,?_⟩
 clear hs;rintro-_ h10 μ ⟨i,D,rfl,rfl,hi,hD,hq,hs⟩;refine sBi (fun c1=>?_) (fun c1=>?_)
 .obtain⟨d,gd⟩:=get_some (l:=C) (i:=i) (by omega);have hdm:=Yb gd;have gq:(C.map Cr.cf)[i]?=some d.cf:=by rw[Yd,gd];rfl
  have hpd:=hP d hdm;refine (hC.r.rw.ext hs.ext).nbI (by omega) (by omega) fun b8 o9 d' gd' t=>?_;rw[Ys] at gd';replace gd':C[i]?=some d':=gd';rw[gd] at gd';cases gd';refine⟨d.c1,d.c2,t,?_⟩;refine hs.newput (vs:=[.slice d.c1.a d.c1.n d.c1.c,.slice d.c2.a d.c2.n d.c2.c]) rfl rfl fun h16 hs=>?_;refine⟨d.c1,d.c2,hs.at 0 rfl (o:=0) (n:=2) rfl,?_⟩;refine (key54 d.c1 d.c2 d.S d.B h16 ((hC.ext hs.ext).i d hdm) (enc_pro hpd)).mono ?_;rintro _ h21 ⟨rfl,E⟩;have hs:=hs.step E;refine⟨_,rfl,?_⟩;have hkok:kokB (kyC d.cf):=ky_ok (c:=d.cf) hpd;obtain⟨b,hb,hbm⟩:=kys hD d.cf;refine hs.mlook M92 (cv:=Value.bool) (l:=D) (a:=kyC d.cf) 1 rfl hD.ok hD.nd hkok false ?_;have hnext:∀ {D':List (ByteArray × Bool)},(i+1<=C.length)->True:=fun _=>trivial;refine⟨b,by rw[hb];cases b<;>rfl,sB_intro (fun c2=>?_) (fun c2=>?_)⟩
  .have hm:=hbm.1 c2;refine⟨_,(show C.length-(i+1)<C.length-i by omega),i+1,D,by rw[w64 (by omega) (by omega)];omega,rfl,by omega,?_,fun j e hj he=>?_,hs.drop 1⟩
   .rw[take_snoc gd,Ym];refine⟨hD.nd,hD.ok,fun c hc=>?_,fun c hc=>hD.n c fun h=>hc (List.mem_append_left _ h)⟩;rcases Yk.1 hc with hc | hc
    .exact hD.y c hc
    .rw[Ye.1 hc];exact hD.y _ hm
   .by_cases e2:j=i
    .subst e2;rw[gq] at he;cases he;obtain⟨c',hc',e3⟩:=Yp.1 hm;obtain⟨t,gt⟩:=Yf.1 hc';have htl:=(Ya.1 gt).1;rw[Yu] at htl;rw[List.getElem?_take_of_lt (by omega)] at gt;exact hq t d.cf (by omega) (by rw[Yd,gt];exact congrArg some e3)
    .exact hq j e (by omega) he
  .refine hs.mput M92 (cv:=Value.bool) (l:=D) (a:=kyC d.cf) 1 rfl hD.ok hD.nd hkok true fun h26 hs=>?_;have hD2:=hD.put (c:=d.cf) hkok;generalize mset D (kyC d.cf) true=D2 at *;have hX26:=hX.at hs (memP (P:=[_,_,_,_]));refine⟨s,hX26.hd,k,hX26.nth 1 rfl,d.c1,d.c2,hs.at 0 rfl (o:=0) (n:=2) rfl,?_⟩;refine (steps16 L s k d.c1 d.c2 d.S d.B h26 (hS.ext hs.ext) ((hC.ext hs.ext).i d hdm)).mono ?_;rintro _ h34 ⟨E34,r,e,X,rfl,hr,hpos,-⟩;obtain⟨rfl,hXe⟩:=hpos hpd;have hs:=hs.step E34;have hrn:=hr.ln;have hrm:=hr.sm;refine⟨r,0,rfl,?_⟩;have hs34:=hs;refine⟨fun x h' μ=>∃j:Nat,x=(j:Int)/\μ=X.length-j/\j<=X.length/\(∀(t:Nat) y,t<j->(stepsS (L.map MR.m) k d.cf.1 d.cf.2)[t]?=some y->nxS (L.map MR.m) d.cf y∈C.map Cr.cf) /\
    Ext h34 h'/\St h0 h' ([.blk h10.size [.slice d.c1.a d.c1.n d.c1.c,.slice d.c2.a d.c2.n d.c2.c] 52,.mp h1.size (D2.map kyV),.blk h.size [.int .i64 0,.int .i64 0,.int .i64 0,.int .i64 0] 45,.mp nb (N.map kyV)]++A),⟨_,0,rfl,rfl,Nat.zero_le _,fun t y ht=>by omega,.rfl',hs⟩,?_⟩
   clear hs hs34;rintro-_ h39 μ2 ⟨j,rfl,rfl,hj,hst,E39,hs⟩;refine sBi (fun c3=>?_) (fun c3=>?_)
   .obtain⟨⟨a,b0⟩,gz'⟩:=get_some (l:=X) (i:=j) (by omega);have gz:(stepsS (L.map MR.m) k d.cf.1 d.cf.2)[j]?=some (a,b0):=by rw[hXe] at gz';exact gz'
    have hzm:=Yb gz;obtain⟨-,hpn⟩:=stp_of (c:=d.cf) hpd hzm;refine (hr.rw.ext E39).nbI (by omega) (by omega) fun b83 o84 z gz2 t=>?_;rw[Ys,gz'] at gz2;cases gz2;refine⟨(a:Int),(b0:Int),t,?_⟩;refine (St.refl h39).newput (vs:=[.int .i64 (a:Int),.int .i64 (b0:Int)]) rfl rfl fun h45 hl=>?_;have hX45:=hX.at (hs.step hl.ext) (memP (P:=[_,_,_,_]));refine⟨s,hX45.hd,k,hX45.nth 1 rfl,d.c1,d.c2,(hs.step hl.ext).at 0 rfl (o:=0) (n:=2) rfl,(a:Int),(b0:Int),hl.at 0 rfl (o:=0) (n:=2) rfl,?_⟩;have hdo2:doS (L.map MR.m) k d.S (d.B.map Bx.l) (a:Int) (b0:Int)=(0,nxS (L.map MR.m) d.cf (a,b0)):=do_of (c:=d.cf) (q:=(a,b0)) hpd hzm;have e2:=fun h' (E:Ext h39 h')=>do27 L s k d.c1 d.c2 d.S d.B (a:Int) (b0:Int) h' (hS.ext (hs.step E).ext) ((hC.ext (hs.step E).ext).i d hdm);rw[hdo2] at e2;refine And.intro ?_ ?_;refine (e2 h45 hl.ext).mono ?_;rintro _ h56 ⟨ts,tb,T,A3,rfl,hT,hs7,hM3⟩;dsimp only at hT hM3;have hl:=hl.join hs7;refine⟨ts,tb,_,rfl,?_⟩;refine hl.newbE fun h57 E57 hl=>⟨E57.sm,?_⟩;rotate_left;refine hl.newbE fun h76 E76 hl=>⟨E76.sm,?_⟩;refine (e2 h76 hl.ext).mono ?_;rintro _ h81 ⟨ts,tb,T,A3,rfl,hT,hs7,hM3⟩;dsimp only at hT hM3;have hl:=hl.join hs7;refine⟨ts,tb,_,rfl,?_⟩;all_goals
     refine hl.put 0 rfl (o:=0) (vs:=[.slice ts.a ts.n ts.c,.slice tb.a tb.n tb.c]) rfl (show 2<=2 by decide) fun h58 hl=>?_;have hs:=hs.step hl.ext;refine⟨some nb,(hX.at hs (memP (P:=[_,_,_,_]))).nth 3 rfl,ts,tb,hl.at 0 rfl (o:=0) (n:=2) rfl,?_⟩;refine (key54 ts tb _ T h58 ((hM3.mono mem2).cfi hl) (by rw[hT];exact enc_pro hpn)).mono ?_;rintro _ h64 ⟨rfl,E64⟩;have hs:=hs.step E64;have hl:=hl.step E64;refine⟨_,rfl,E64.sm,?_⟩;obtain⟨b,hb,hbm⟩:=kys hN (nxS (L.map MR.m) d.cf (a,b0));rw[hT];refine hs.mlook M92 (cv:=Value.bool) (l:=N) (a:=kyC (nxS (L.map MR.m) d.cf (a,b0))) 3 rfl hN.ok hN.nd (ky_ok hpn) false ?_;refine⟨b,by rw[hb];cases b<;>rfl,sB_intro (fun c4=>?_) (fun c4=>?_)⟩
     .have hnm:nxS (L.map MR.m) d.cf (a,b0)∉C.map Cr.cf:=fun hm=>by rw[hbm.2 hm] at c4;cases c4
      have hlv:=lev_some (Q:=C.map Cr.cf) (c:=d.cf) gz hnm hst;refine⟨(a:Int),(b0:Int),hl.at 1 rfl (o:=0) (n:=2) rfl,?_⟩;refine hs.put 2 rfl (o:=0) (vs:=fltC (5,(i:Int),(a:Int),(b0:Int))) rfl (show 4<=4 by decide) fun h70 hs=>?_;refine⟨5,i,a,b0,hs.at 2 rfl (o:=0) (n:=4) rfl,by rw[cls_some hq gq hlv];rfl,hs.drop 3⟩
     .have hbt:b=true:=by cases b with | true=>rfl | false=>cases c4
      refine⟨_,(show X.length-(j+1)<X.length-j by omega),j+1,by rw[w64 (by omega) (by omega)];omega,rfl,by omega,?_,E39.trans hl.ext,hs⟩;intro t y ht hy;by_cases e:t=j
      .subst e;rw[gz] at hy;cases hy;exact hbm.1 hbt
      .exact hst t y (by omega) hy
   .have hlv:levS (L.map MR.m) k (C.map Cr.cf) d.cf=none:=lev_none fun q hqm=>by
     obtain⟨t,gt⟩:=Yf.1 hqm;refine hst t q ?_ gt;have h1:=(Ya.1 gt).1;rw[show stepsS (L.map MR.m) k d.cf.1 d.cf.2=X from hXe.symm] at h1;omega
    refine⟨_,(show C.length-(i+1)<C.length-i by omega),i+1,D2,by rw[w64 (by omega) (by omega)];omega,rfl,by omega,?_,fun t e ht he=>?_,hs.drop 1⟩
    .rw[take_snoc gd,Ym];exact hD2
    .by_cases e2:t=i
     .subst e2;rw[gq] at he;cases he;exact hlv
     .exact hq t e (by omega) he
 .have hie:i=C.length:=by omega
  subst hie;refine hs.put 1 rfl (o:=0) (vs:=fltC flt0) rfl (show 4<=4 by decide) fun h101 hs=>?_;refine⟨0,0,0,0,hs.at 1 rfl (o:=0) (n:=4) rfl,?_,hs.drop 2⟩;rw[cls_none fun j d hd=>hq j d (by have:=(Ya.1 hd).1;rw[Yc] at this;exact this) hd];rfl
theorem cal38:callable Pz 38=true:=by kernel_rfl
theorem cal39:callable Pz 39=true:=by kernel_rfl
theorem cal40:callable Pz 40=true:=by kernel_rfl
theorem cal41:callable Pz 41=true:=by kernel_rfl
theorem cal42:callable Pz 42=true:=by kernel_rfl
structure ChkP (L:List Mch) (k:Int) (Q:List Cf) (i:Nat):Prop where
 a:1<=i->¬(k<1\/4<k\/20000<Q.length)
 b:2<=i->fstI (fun c=>¬ProS L k c.1 c.2) Q=none
 c:3<=i->fstI (fun c=>badS L k c.1 c.2≠0) Q=none
 d:4<=i->(startS L,startB L)∈Q
 e:5<=i->(clsS L k Q).1=0
theorem chk_1 {L:List Mch} {k:Int} {Q:List Cf} (hV:SysV L) (h:k<1\/4<k\/20000<Q.length):chkV L k Q=((1,0,0,0),23):=by
 unfold chkV;rw[if_neg (fun h=>h hV),if_pos h]
theorem chk_2 {L:List Mch} {k:Int} {Q:List Cf} {i:Nat} (hV:SysV L) (hP:ChkP L k Q 1) (h:fstI (fun c=>¬ProS L k c.1 c.2) Q=some i):chkV L k Q=((2,(i:Int),0,0),23):=by
 unfold chkV;rw[if_neg (fun h=>h hV),if_neg (hP.a (by omega)),h]
theorem chk_3 {L:List Mch} {k:Int} {Q:List Cf} {i:Nat} (hV:SysV L) (hP:ChkP L k Q 2) (h:fstI (fun c=>badS L k c.1 c.2≠0) Q=some i):chkV L k Q=((3,(i:Int),0,0),23):=by
 unfold chkV;rw[if_neg (fun h=>h hV),if_neg (hP.a (by omega)),hP.b (by omega)];dsimp only;rw[h]
theorem chk_4 {L:List Mch} {k:Int} {Q:List Cf} (hV:SysV L) (hP:ChkP L k Q 3) (h:(startS L,startB L)∉Q):chkV L k Q=((4,0,0,0),23):=by
 unfold chkV;rw[if_neg (fun h=>h hV),if_neg (hP.a (by omega)),hP.b (by omega)];dsimp only;rw[hP.c (by omega)];dsimp only;rw[if_pos h]
theorem chk_5 {L:List Mch} {k:Int} {Q:List Cf} (hV:SysV L) (hP:ChkP L k Q 4) (h:(clsS L k Q).1≠0):chkV L k Q=(clsS L k Q,23):=by
 unfold chkV;rw[if_neg (fun h=>h hV),if_neg (hP.a (by omega)),hP.b (by omega)];dsimp only;rw[hP.c (by omega)];dsimp only;rw[if_neg (fun hn=>hn (hP.d (by omega))),if_pos h]
theorem chk_0 {L:List Mch} {k:Int} {Q:List Cf} (hV:SysV L) (hP:ChkP L k Q 5):chkV L k Q=(flt0,0):=by
 unfold chkV;rw[if_neg (fun h=>h hV),if_neg (hP.a (by omega)),hP.b (by omega)];dsimp only;rw[hP.c (by omega)];dsimp only;rw[if_neg (fun hn=>hn (hP.d (by omega))),if_neg (fun hn=>hn (hP.e (by omega)))]
def ChkR (o:Flt × Int) (h:Heap) (v:Value) (h':Heap):Prop:=v=.tuple ⟨[.agg ⟨fltC o.1⟩,.int .i64 o.2]⟩/\Ext h h'
theorem pro_all {L:List Mch} {k:Int} {C:List Cr} (h:fstI (fun c=>¬ProS L k c.1 c.2) (C.map Cr.cf)=none):∀c∈C,ProS L k c.S (c.B.map Bx.l):=fun c hc=>Classical.not_not.1 (fstI_no h (List.mem_map_of_mem (f:=Cr.cf) hc))
theorem check15 (L:List MR) (C:List Cr) (s cs:Sl) (k:Int) (h:Heap) (hS:SyI h s L) (hC:CtI h cs C) :
  Fn Pz 15 #[.slice s.a s.n s.c,.agg ⟨[.int .i64 k,.slice cs.a cs.n cs.c]⟩] h (ChkR (chkV (L.map MR.m) k (C.map Cr.cf)) h):=by
 apply vc15 s k cs;unfold W15 V15a;have hcn:=hC.r.ln;have hQl:(C.map Cr.cf).length=cs.n:=by rw[Yc];exact hcn.symm
 refine (St.refl h).newb fun h3 hs=>?_;refine hs.newb fun h4 hs=>?_;refine (valid22 L s h4 (hS.ext hs.ext)).mono ?_;rintro _ h7 ⟨⟨b,rfl,hb⟩,E7⟩;have hs:=hs.step E7;refine⟨b,rfl,sB_intro (fun c0=>?_) (fun c0=>?_)⟩
 .have hn:¬SysV (L.map MR.m):=fun hp=>by rw[hb.2 hp] at c0;cases c0
  refine hs.put 0 rfl (o:=0) (vs:=fltC flt0) rfl (show 4<=4 by decide) fun h8 hs=>?_;refine⟨0,0,0,0,hs.at 0 rfl (o:=0) (n:=4) rfl,?_,hs.ext⟩;have:chkV (L.map MR.m) k (C.map Cr.cf)=(flt0,1):=by unfold chkV;rw[if_pos hn]
  rw[this];rfl
 have hV:=hb.1 (by cases b with | true=>rfl | false=>cases c0);refine⟨k,cs,hs.at 1 rfl (o:=0) (n:=2) rfl,?_⟩;refine hs.mmake 104 fun h17 E17 hs=>⟨_,rfl,?_⟩;refine hs.newb fun h18 hs=>?_;obtain⟨xb,hxb⟩:∃xb,xb=h17.size:=⟨_,rfl⟩;rw[<-hxb] at hs ⊢;have hX:∀ {A:List It},Sta (.blk xb [.slice s.a s.n s.c,.int .i64 k,.slice cs.a cs.n cs.c,.map (some h7.size)] 106::A) fun h=>CkI h xb s k cs h7.size:=fun {A} h0 hh A' hA hs=>hs.atm (hA _ Yx);have hs:St h h18 (.mp h7.size (([]:List (ByteArray × Bool)).map kyV) :: .blk xb [.slice s.a s.n s.c,.int .i64 k,.slice cs.a cs.n cs.c,.map (some h7.size)] 106 :: .blk h3.size [.int .i64 0,.int .i64 0,.int .i64 0,.int .i64 0] 45 :: .blk h.size [.int .i64 k,.slice cs.a cs.n cs.c] 31::[]):=hs.perm (List.Perm.swap _ _ _);refine⟨fun x h' μ=>∃(i:Nat) (N:List (ByteArray × Bool)),x=(i:Int)/\μ=5-i/\i<=5/\ChkP (L.map MR.m) k (C.map Cr.cf) i/\(i<=3->N=[])/\(4<=i->KyOk N (C.map Cr.cf)) /\
  St h h' (.mp h7.size (N.map kyV) :: .blk xb [.slice s.a s.n s.c,.int .i64 k,.slice cs.a cs.n cs.c,.map (some h7.size)] 106 :: .blk h3.size [.int .i64 0,.int .i64 0,.int .i64 0,.int .i64 0] 45 :: .blk h.size [.int .i64 k,.slice cs.a cs.n cs.c] 31::[]),⟨_,0,[],rfl,rfl,Nat.zero_le _,⟨fun h=>by omega,fun h=>by omega,fun h=>by omega,fun h=>by omega,fun h=>by omega⟩,fun _=>rfl,fun h=>by omega,hs⟩,?_⟩
 clear hs;rintro-_ h23 μ ⟨i,N,rfl,rfl,hi,hP,hN0,hN4,hs⟩;refine sBi (fun c1=>⟨⟨by omega,by omega⟩,?_⟩) (fun c1=>?_);rotate_left
 .have hie:i=5:=by omega
  subst hie;refine hs.put 2 rfl (o:=0) (vs:=fltC flt0) rfl (show 4<=4 by decide) fun h47 hs=>?_;exact⟨0,0,0,0,hs.at 2 rfl (o:=0) (n:=4) rfl,by rw[chk_0 hV hP];rfl,hs.ext⟩
 have hXh:=(hX (A:=[])).at hs fun i hi=>Yn _ (by rw[Ye.1 hi];exact Yx);rcases (by omega:i=0\/i=1\/i=2\/i=3\/i=4) with rfl | rfl | rfl | rfl | rfl
 .refine⟨_,rfl,?_⟩;show bif callable Pz 38 then _ else _
  rw[cal38,cond_true];refine (limits38 xb s cs k h7.size h23 hXh).mono ?_;rintro _ h33 ⟨⟨f,rfl,hf⟩,E⟩;have hs:=hs.step E;rw[<-hQl] at hf;have hbad:f.1≠0->chkV (L.map MR.m) k (C.map Cr.cf)=(f,23):=fun hn=>by
   by_cases hl:k<1\/4<k\/20000<(C.map Cr.cf).length
   .rw[chk_1 hV hl,hf,if_pos hl]
   .rw[hf,if_neg hl] at hn;exact absurd rfl hn
  have hgood:f.1=0->ChkP (L.map MR.m) k (C.map Cr.cf) (0+1)/\((0+1<=3->N=[])/\(4<=0+1->KyOk N (C.map Cr.cf))):=fun hn=>by
   refine⟨⟨fun _ hl=>?_,fun h=>by omega,fun h=>by omega,fun h=>by omega,fun h=>by omega⟩,fun _=>hN0 (by omega),fun h=>by omega⟩;rw[hf,if_pos hl] at hn;exact absurd hn (by decide)
  refine⟨_,_,_,_,rfl,?_⟩;refine hs.newput (vs:=fltC f) rfl rfl fun h35 hs=>?_;refine⟨f.1,hs.rd 0 rfl (i:=0) rfl,sBn (fun c2=>?_) (fun c2=>?_)⟩
  .refine⟨f.1,f.2.1,f.2.2.1,f.2.2.2,hs.at 0 rfl (o:=0) (n:=4) rfl,?_⟩;refine hs.put 3 rfl (o:=0) (vs:=fltC f) rfl (show 4<=4 by decide) fun h41 hs=>?_;exact⟨f.1,f.2.1,f.2.2.1,f.2.2.2,hs.at 3 rfl (o:=0) (n:=4) rfl,by rw[hbad c2];rfl,hs.ext⟩
  .obtain⟨hP',hN'⟩:=hgood c2;exact⟨_,(show 5-(0+1)<5-0 by omega),0+1,_,by rw[w64 (by omega) (by omega)];omega,rfl,by omega,hP',hN'.1,hN'.2,hs.drop 1⟩
 .refine⟨_,rfl,?_⟩;show bif callable Pz 39 then _ else _
  rw[cal39,cond_true];refine (proper39 L C s cs k xb h7.size h23 (hS.ext hs.ext) hXh (hC.ext hs.ext)).mono ?_;rintro _ h33 ⟨rfl,E⟩;have hs:=hs.step E;obtain⟨f,hf⟩:∃f,f=fltO 2 (fstI (fun c=>¬ProS (L.map MR.m) k c.1 c.2) (C.map Cr.cf)):=⟨_,rfl⟩;rw[<-hf];have hbad:f.1≠0->chkV (L.map MR.m) k (C.map Cr.cf)=(f,23):=fun hn=>by
   cases ho:fstI (fun c=>¬ProS (L.map MR.m) k c.1 c.2) (C.map Cr.cf) with
   | none=>rw[hf,ho] at hn;exact absurd rfl hn
   | some i=>rw[chk_2 hV hP ho,hf,ho];rfl
  have hgood:f.1=0->ChkP (L.map MR.m) k (C.map Cr.cf) (1+1)/\((1+1<=3->N=[])/\(4<=1+1->KyOk N (C.map Cr.cf))):=fun hn=>by
   refine⟨⟨fun _=>hP.a (by omega),fun _=>?_,fun h=>by omega,fun h=>by omega,fun h=>by omega⟩,fun _=>hN0 (by omega),fun h=>by omega⟩;cases ho:fstI (fun c=>¬ProS (L.map MR.m) k c.1 c.2) (C.map Cr.cf) with
   | none=>rfl
   | some i=>rw[hf,ho] at hn;exact absurd hn (show ¬((2:Int)=0) by decide)
  refine⟨_,_,_,_,rfl,?_⟩;refine hs.newput (vs:=fltC f) rfl rfl fun h35 hs=>?_;refine⟨f.1,hs.rd 0 rfl (i:=0) rfl,sBn (fun c2=>?_) (fun c2=>?_)⟩
  .refine⟨f.1,f.2.1,f.2.2.1,f.2.2.2,hs.at 0 rfl (o:=0) (n:=4) rfl,?_⟩;refine hs.put 3 rfl (o:=0) (vs:=fltC f) rfl (show 4<=4 by decide) fun h41 hs=>?_;exact⟨f.1,f.2.1,f.2.2.1,f.2.2.2,hs.at 3 rfl (o:=0) (n:=4) rfl,by rw[hbad c2];rfl,hs.ext⟩
  .obtain⟨hP',hN'⟩:=hgood c2;exact⟨_,(show 5-(1+1)<5-1 by omega),1+1,_,by rw[w64 (by omega) (by omega)];omega,rfl,by omega,hP',hN'.1,hN'.2,hs.drop 1⟩
 .refine⟨_,rfl,?_⟩;show bif callable Pz 40 then _ else _
  rw[cal40,cond_true];have hpa:=pro_all (hP.b (by omega));refine (good40 L C s cs k xb h7.size h23 (hS.ext hs.ext) hXh (hC.ext hs.ext) hpa).mono ?_;rintro _ h33 ⟨rfl,E⟩;have hs:=hs.step E;obtain⟨f,hf⟩:∃f,f=fltO 3 (fstI (fun c=>badS (L.map MR.m) k c.1 c.2≠0) (C.map Cr.cf)):=⟨_,rfl⟩;rw[<-hf];have hbad:f.1≠0->chkV (L.map MR.m) k (C.map Cr.cf)=(f,23):=fun hn=>by
   cases ho:fstI (fun c=>badS (L.map MR.m) k c.1 c.2≠0) (C.map Cr.cf) with
   | none=>rw[hf,ho] at hn;exact absurd rfl hn
   | some i=>rw[chk_3 hV hP ho,hf,ho];rfl
  have hgood:f.1=0->ChkP (L.map MR.m) k (C.map Cr.cf) (2+1)/\((2+1<=3->N=[])/\(4<=2+1->KyOk N (C.map Cr.cf))):=fun hn=>by
   refine⟨⟨fun _=>hP.a (by omega),fun _=>hP.b (by omega),fun _=>?_,fun h=>by omega,fun h=>by omega⟩,fun _=>hN0 (by omega),fun h=>by omega⟩;cases ho:fstI (fun c=>badS (L.map MR.m) k c.1 c.2≠0) (C.map Cr.cf) with
   | none=>rfl
   | some i=>rw[hf,ho] at hn;exact absurd hn (show ¬((3:Int)=0) by decide)
  refine⟨_,_,_,_,rfl,?_⟩;refine hs.newput (vs:=fltC f) rfl rfl fun h35 hs=>?_;refine⟨f.1,hs.rd 0 rfl (i:=0) rfl,sBn (fun c2=>?_) (fun c2=>?_)⟩
  .refine⟨f.1,f.2.1,f.2.2.1,f.2.2.2,hs.at 0 rfl (o:=0) (n:=4) rfl,?_⟩;refine hs.put 3 rfl (o:=0) (vs:=fltC f) rfl (show 4<=4 by decide) fun h41 hs=>?_;exact⟨f.1,f.2.1,f.2.2.1,f.2.2.2,hs.at 3 rfl (o:=0) (n:=4) rfl,by rw[hbad c2];rfl,hs.ext⟩
  .obtain⟨hP',hN'⟩:=hgood c2;exact⟨_,(show 5-(2+1)<5-2 by omega),2+1,_,by rw[w64 (by omega) (by omega)];omega,rfl,by omega,hP',hN'.1,hN'.2,hs.drop 1⟩
 .refine⟨_,rfl,?_⟩;show bif callable Pz 41 then _ else _
  rw[cal41,cond_true];have hpa:=pro_all (hP.b (by omega));have hka:=hP.a (by omega);have hN:=hN0 (by omega);subst hN;refine (starts41 L C s cs k xb h7.size hs hS hV hX hC ⟨by omega,by omega⟩ hpa).mono ?_;rintro _ h33 ⟨f,N2,rfl,hf,hN2,hs⟩;have hbad:f.1≠0->chkV (L.map MR.m) k (C.map Cr.cf)=(f,23):=fun hn=>by
   rcases hf with ⟨rfl,hm⟩ | ⟨rfl,hm⟩
   .exact absurd rfl hn
   .exact chk_4 hV hP hm
  have hgood:f.1=0->ChkP (L.map MR.m) k (C.map Cr.cf) (3+1)/\((3+1<=3->N2=[])/\(4<=3+1->KyOk N2 (C.map Cr.cf))):=fun hn=>by
   refine⟨⟨fun _=>hP.a (by omega),fun _=>hP.b (by omega),fun _=>hP.c (by omega),fun _=>?_,fun h=>by omega⟩,fun h=>by omega,fun _=>hN2⟩;rcases hf with ⟨rfl,hm⟩ | ⟨rfl,hm⟩
   .exact hm
   .exact absurd hn (by decide)
  refine⟨_,_,_,_,rfl,?_⟩;refine hs.newput (vs:=fltC f) rfl rfl fun h35 hs=>?_;refine⟨f.1,hs.rd 0 rfl (i:=0) rfl,sBn (fun c2=>?_) (fun c2=>?_)⟩
  .refine⟨f.1,f.2.1,f.2.2.1,f.2.2.2,hs.at 0 rfl (o:=0) (n:=4) rfl,?_⟩;refine hs.put 3 rfl (o:=0) (vs:=fltC f) rfl (show 4<=4 by decide) fun h41 hs=>?_;exact⟨f.1,f.2.1,f.2.2.1,f.2.2.2,hs.at 3 rfl (o:=0) (n:=4) rfl,by rw[hbad c2];rfl,hs.ext⟩
  .obtain⟨hP',hN'⟩:=hgood c2;exact⟨_,(show 5-(3+1)<5-3 by omega),3+1,_,by rw[w64 (by omega) (by omega)];omega,rfl,by omega,hP',hN'.1,hN'.2,hs.drop 1⟩
 .refine⟨_,rfl,?_⟩;show bif callable Pz 42 then _ else _
  rw[cal42,cond_true];have hpa:=pro_all (hP.b (by omega));refine (closed42 L C s cs k xb h7.size N hs (hN4 (by omega)) hS hX hC hpa).mono ?_;rintro _ h33 ⟨rfl,hs⟩;obtain⟨f,hf⟩:∃f,f=clsS (L.map MR.m) k (C.map Cr.cf):=⟨_,rfl⟩;rw[<-hf];have hbad:f.1≠0->chkV (L.map MR.m) k (C.map Cr.cf)=(f,23):=fun hn=>by rw[hf] at hn ⊢;exact chk_5 hV hP hn
  have hgood:f.1=0->ChkP (L.map MR.m) k (C.map Cr.cf) (4+1)/\((4+1<=3->N=[])/\(4<=4+1->KyOk N (C.map Cr.cf))):=fun hn=>by
   rw[hf] at hn;exact⟨⟨fun _=>hP.a (by omega),fun _=>hP.b (by omega),fun _=>hP.c (by omega),fun _=>hP.d (by omega),fun _=>hn⟩,fun h=>by omega,fun _=>hN4 (by omega)⟩
  refine⟨_,_,_,_,rfl,?_⟩;refine hs.newput (vs:=fltC f) rfl rfl fun h35 hs=>?_;refine⟨f.1,hs.rd 0 rfl (i:=0) rfl,sBn (fun c2=>?_) (fun c2=>?_)⟩
  .refine⟨f.1,f.2.1,f.2.2.1,f.2.2.2,hs.at 0 rfl (o:=0) (n:=4) rfl,?_⟩;refine hs.put 3 rfl (o:=0) (vs:=fltC f) rfl (show 4<=4 by decide) fun h41 hs=>?_;exact⟨f.1,f.2.1,f.2.2.1,f.2.2.2,hs.at 3 rfl (o:=0) (n:=4) rfl,by rw[hbad c2];rfl,hs.ext⟩
  .obtain⟨hP',hN'⟩:=hgood c2;exact⟨_,(show 5-(4+1)<5-4 by omega),4+1,_,by rw[w64 (by omega) (by omega)];omega,rfl,by omega,hP',hN'.1,hN'.2,hs.drop 1⟩
end Go.VC
end

section
namespace Go.VC
open Go.Proofs Go.LexS

end Go.VC
end

section
namespace Go.VC
open Go.Proofs Go.LexS Go.Maps

theorem cal27:callable Pz 27=true:=by kernel_rfl
theorem CtI.own {h h':Heap} {cs o:Sl} {e:TypeId} {C:List Cr} (hC:CtI h cs C) (hs:St h h' [.sl o e 2 (C.map Cr.cs)]):CtI h' o C:=⟨hs.rl 0 rfl (by omega) hC.r.sm,fun c hc=>(hC.ext hs.ext).i c hc⟩
theorem ownO17 (C:List Cr) (cs:Sl) (k:Int) (h:Heap) (hC:CtI h cs C) :
  Fn Pz 17 #[.agg ⟨[.int .i64 k,.slice cs.a cs.n cs.c]⟩] h fun v h'=>∃o:Sl,v=.agg ⟨[.int .i64 k,.slice o.a o.n o.c]⟩/\St h h' [.sl o 52 2 (C.map Cr.cs)]:=by
 apply vc17 k cs;unfold W17;have hcn:=hC.r.ln;have hcm:=hC.r.sm;refine (St.refl h).newb fun h3 hs=>?_;refine hs.newb fun h4 hs=>?_;refine⟨k,hs.rd 1 rfl (i:=0) rfl,?_⟩;refine hs.newput (vs:=[.int .i64 k,.slice none 0 0]) rfl rfl fun h7 hs=>?_;refine⟨cs,hs.rd 2 rfl (i:=1) rfl,?_⟩;have hs:=hs.nil_ 52 2;refine⟨fun x h' μ=>∃(i:Nat) (o:Sl),x=(i:Int)/\μ=C.length-i/\i<=C.length/\St h h' [.sl o 52 2 ((C.take i).map Cr.cs),.blk h4.size [.int .i64 k,.slice o.a o.n o.c] 31,.blk h3.size [.int .i64 0,.slice none 0 0] 31,.blk h.size [.int .i64 k,.slice cs.a cs.n cs.c] 37],⟨_,0,⟨none,0,0⟩,rfl,rfl,Nat.zero_le _,by rw[Yyk];exact hs⟩,?_⟩;clear hs;rintro-_ h13 μ ⟨i,o,rfl,rfl,hi,hs⟩;have hon:=(hs.rows 0 (s:=o) (cs:=Cr.cs) rfl (by omega)).ln;rw[Yu] at hon;refine sBi (fun c1=>?_) (fun c1=>?_)
 .obtain⟨d,gd⟩:=get_some (l:=C) (i:=i) (by omega);refine⟨o,hs.rd 1 rfl (i:=1) rfl,cs,hs.rd 3 rfl (i:=1) rfl,?_⟩;refine (hC.r.rw.ext hs.ext).nbI (by omega) (by omega) fun b8 o9 d' gd' t=>?_;rw[Ys] at gd';replace gd':C[i]?=some d':=gd';rw[gd] at gd';cases gd';refine⟨d.c1,d.c2,t,?_⟩;refine VC.newb fun h20 E20 o20=>?_;have hs:=hs.more E20 (i:=.blk h13.size (Cr.cs d) 52) o20 fun b hb=>by cases hb;exact Yyt _
  refine⟨E20.sm,?_⟩;refine hs.appended 1 (s:=o) (n:=2) (rows:=(C.take i).map Cr.cs) rfl app29 (m:=1) (news:=[Cr.cs d]) (hs.at 0 rfl (n:=2) rfl) rfl (fun r hr=>by rw[Ye] at hr;rw[hr];rfl) rfl (by omega) (by simp only[maxLen];omega) fun r2 h22 nr hs=>?_;refine hs.put 2 rfl (o:=1) (vs:=[.slice r2.a r2.n r2.c]) rfl (show 1+1<=2 by decide) fun h23 hs=>?_;refine⟨_,(show C.length-(i+1)<C.length-i by omega),i+1,r2,by rw[w64 (by omega) (by omega)];omega,rfl,by omega,?_⟩;rw[take_snoc gd,Ym];exact hs.drop 1
 .have hil:i=C.length:=by omega
  subst hil;rw[Yye] at hs;refine⟨k,o,hs.at 1 rfl (o:=0) (n:=2) rfl,?_⟩;refine hs.put 2 rfl (o:=0) (vs:=[.int .i64 k,.slice o.a o.n o.c]) rfl (show 2<=2 by decide) fun h27 hs=>?_;exact⟨k,o,hs.at 2 rfl (o:=0) (n:=2) rfl,o,rfl,hs.sub (.cons_cons _ (List.nil_sublist _))⟩
theorem own17 (C:List Cr) (cs:Sl) (k:Int) (h:Heap) (hC:CtI h cs C) :
  Fn Pz 17 #[.agg ⟨[.int .i64 k,.slice cs.a cs.n cs.c]⟩] h fun v h'=>∃o:Sl,v=.agg ⟨[.int .i64 k,.slice o.a o.n o.c]⟩/\Ext h h'/\CtI h' o C:=by
 refine (ownO17 C cs k h hC).mono ?_;rintro v h' ⟨o,e,hs⟩;exact⟨o,e,hs.ext,hC.own hs⟩
theorem theirsO14 (C:List Cr) (cs:Sl) (k:Int) (h:Heap) (hC:CtI h cs C) :
  Fn Pz 14 #[.agg ⟨[.int .i64 k,.slice cs.a cs.n cs.c]⟩] h fun v h'=>∃o:Sl,v=.agg ⟨[.int .i64 k,.slice o.a o.n o.c]⟩/\St h h' [.sl o 28 2 (C.map Cr.cs)]:=by
 apply vc14 k cs;unfold W14;have hcn:=hC.r.ln;have hcm:=hC.r.sm;refine (St.refl h).newb fun h3 hs=>?_;refine hs.newb fun h4 hs=>?_;refine⟨k,hs.rd 1 rfl (i:=0) rfl,?_⟩;refine hs.newput (vs:=[.int .i64 k,.slice none 0 0]) rfl rfl fun h7 hs=>?_;refine⟨cs,hs.rd 2 rfl (i:=1) rfl,?_⟩;have hs:=hs.nil_ 28 2;refine⟨fun x h' μ=>∃(i:Nat) (o:Sl),x=(i:Int)/\μ=C.length-i/\i<=C.length/\St h h' [.sl o 28 2 ((C.take i).map Cr.cs),.blk h4.size [.int .i64 k,.slice o.a o.n o.c] 37,.blk h3.size [.int .i64 0,.slice none 0 0] 37,.blk h.size [.int .i64 k,.slice cs.a cs.n cs.c] 31],⟨_,0,⟨none,0,0⟩,rfl,rfl,Nat.zero_le _,by rw[Yyk];exact hs⟩,?_⟩;clear hs;rintro-_ h13 μ ⟨i,o,rfl,rfl,hi,hs⟩;have hon:=(hs.rows 0 (s:=o) (cs:=Cr.cs) rfl (by omega)).ln;rw[Yu] at hon;refine sBi (fun c1=>?_) (fun c1=>?_)
 .obtain⟨d,gd⟩:=get_some (l:=C) (i:=i) (by omega);refine⟨o,hs.rd 1 rfl (i:=1) rfl,cs,hs.rd 3 rfl (i:=1) rfl,?_⟩;refine (hC.r.rw.ext hs.ext).nbI (by omega) (by omega) fun b8 o9 d' gd' t=>?_;rw[Ys] at gd';replace gd':C[i]?=some d':=gd';rw[gd] at gd';cases gd';refine⟨d.c1,d.c2,t,?_⟩;refine VC.newb fun h20 E20 o20=>?_;have hs:=hs.more E20 (i:=.blk h13.size (Cr.cs d) 28) o20 fun b hb=>by cases hb;exact Yyt _
  refine⟨E20.sm,?_⟩;refine hs.appended 1 (s:=o) (n:=2) (rows:=(C.take i).map Cr.cs) rfl app36r (m:=1) (news:=[Cr.cs d]) (hs.at 0 rfl (n:=2) rfl) rfl (fun r hr=>by rw[Ye] at hr;rw[hr];rfl) rfl (by omega) (by simp only[maxLen];omega) fun r2 h22 nr hs=>?_;refine hs.put 2 rfl (o:=1) (vs:=[.slice r2.a r2.n r2.c]) rfl (show 1+1<=2 by decide) fun h23 hs=>?_;refine⟨_,(show C.length-(i+1)<C.length-i by omega),i+1,r2,by rw[w64 (by omega) (by omega)];omega,rfl,by omega,?_⟩;rw[take_snoc gd,Ym];exact hs.drop 1
 .have hil:i=C.length:=by omega
  subst hil;rw[Yye] at hs;refine⟨k,o,hs.at 1 rfl (o:=0) (n:=2) rfl,?_⟩;refine hs.put 2 rfl (o:=0) (vs:=[.int .i64 k,.slice o.a o.n o.c]) rfl (show 2<=2 by decide) fun h27 hs=>?_;exact⟨k,o,hs.at 2 rfl (o:=0) (n:=2) rfl,o,rfl,hs.sub (.cons_cons _ (List.nil_sublist _))⟩
theorem theirs14 (C:List Cr) (cs:Sl) (k:Int) (h:Heap) (hC:CtI h cs C) :
  Fn Pz 14 #[.agg ⟨[.int .i64 k,.slice cs.a cs.n cs.c]⟩] h fun v h'=>∃o:Sl,v=.agg ⟨[.int .i64 k,.slice o.a o.n o.c]⟩/\Ext h h'/\CtI h' o C:=by
 refine (theirsO14 C cs k h hC).mono ?_;rintro v h' ⟨o,e,hs⟩;exact⟨o,e,hs.ext,hC.own hs⟩
theorem equalF52 (C D:List Cr) (a b:Sl) (h:Heap) (hC:CtI h a C) (hD:CtI h b D) :
  Fn Pz 52 #[.slice a.a a.n a.c,.slice b.a b.n b.c,.func (.func 27) #[] #[]] h (RP (C.map Cr.cf=D.map Cr.cf) h):=by
 apply vc52 a b 27;unfold W52;have n1:=hC.r.ln;have n2:=hD.r.ln;have m1:=hC.r.sm;refine sBn (fun c=>RP.f (fun hG=>?_) .rfl') (fun c1=>?_)
 .have:=congrArg List.length hG;rw[Yc,Yc] at this;omega
 refine up_loopS (n:=a.n) (St.refl h) (fun i=>∀(j:Nat),j<i->(C.map Cr.cf)[j]?=(D.map Cr.cf)[j]?) (fun j hj=>by omega) ?_;rintro-i h5 hi ⟨hs,hq⟩;refine sB_intro (fun c=>?_) (fun c=>?_)
 .replace c:=lt_t c;refine (hC.r.rw.ext hs.ext).nbI (by omega) (by omega) fun b3 o3 x gx t3=>?_;replace gx:C[i]?=some x:=gx;refine⟨x.c1,x.c2,t3,?_⟩;refine hs.newput (vs:=Cr.cs x) rfl rfl fun h11 hs=>?_;refine (hD.r.rw.ext hs.ext).nbI (by omega) (by omega) fun b4 o4 y gy t4=>?_;replace gy:D[i]?=some y:=gy;refine⟨y.c1,y.c2,t4,?_⟩;refine hs.newput (vs:=Cr.cs y) rfl rfl fun h17 hs=>?_;refine⟨x.c1,x.c2,hs.at 1 rfl (o:=0) (n:=2) rfl,y.c1,y.c2,hs.at 0 rfl (o:=0) (n:=2) rfl,?_⟩;rw[cal27,cond_true];refine (equal32 x.c1 x.c2 y.c1 y.c2 x.S y.S x.B y.B h17 ((hC.ext hs.ext).i x (Yb gx)) ((hD.ext hs.ext).i y (Yb gy))).mono ?_;rintro _ h24 ⟨⟨b',rfl,hb'⟩,E⟩;have hs:=hs.step E;have ex:(C.map Cr.cf)[i]?=some x.cf:=by rw[Yd,gx];rfl
  have ey:(D.map Cr.cf)[i]?=some y.cf:=by rw[Yd,gy];rfl
  refine⟨_,rfl,sB_intro (fun c2=>RP.f (fun hG=>?_) hs.ext) (fun c2=>?_)⟩
  .rw[hG,ey] at ex;have e:=(Yyp ex).symm;rw[hb'.2 ⟨congrArg Prod.fst e,congrArg Prod.snd e⟩] at c2;cases c2
  .refine Up.next c (by omega) ⟨hs.drop 2,fun j hj=>?_⟩;by_cases e:j=i
   .subst e;rw[ex,ey];have hp:=hb'.1 (by cases b' with | true=>rfl | false=>cases c2);exact congrArg some (Prod.ext hp.1 hp.2)
   .exact hq j (by omega)
 .replace c:=lt_f c;refine RP.t (Yyr fun j=>?_) hs.ext;by_cases hj:j<i
  .exact hq j hj
  .rw[Yl (by rw[Yc];omega),Yl (by rw[Yc];omega)]
theorem equal23 (C D:List Cr) (k l:Int) (a b:Sl) (h:Heap) (hC:CtI h a C) (hD:CtI h b D) :
  Fn Pz 23 #[.agg ⟨[.int .i64 k,.slice a.a a.n a.c]⟩,.agg ⟨[.int .i64 l,.slice b.a b.n b.c]⟩] h (RP (k=l/\C.map Cr.cf=D.map Cr.cf) h):=by
 apply vc23 k a l b;unfold W23;refine (St.refl h).newb fun h5 hs=>?_;refine hs.newb fun h6 hs=>?_;refine⟨k,hs.rd 1 rfl (i:=0) rfl,l,hs.rd 0 rfl (i:=0) rfl,sBe (fun c=>?_) (fun c=>RP.f (fun hG=>c hG.1) hs.ext)⟩;refine⟨a,hs.rd 1 rfl (i:=1) rfl,b,hs.rd 0 rfl (i:=1) rfl,?_⟩;refine (equalF52 C D a b h6 (hC.ext hs.ext) (hD.ext hs.ext)).mono ?_;rintro _ h13 ⟨⟨b',rfl,hb'⟩,E⟩;exact⟨b',rfl,RP.e ⟨fun e=>⟨c,hb'.1 e⟩,fun e=>hb'.2 e.2⟩ (hs.ext.trans E)⟩
theorem same13 (C D:List Cr) (k l:Int) (a b:Sl) (h:Heap) (hC:CtI h a C) (hD:CtI h b D) :
  Fn Pz 13 #[.agg ⟨[.int .i64 k,.slice a.a a.n a.c]⟩,.agg ⟨[.int .i64 l,.slice b.a b.n b.c]⟩] h (RP (k=l/\C.map Cr.cf=D.map Cr.cf) h):=by
 apply vc13 k a l b;unfold W13;have n1:=hC.r.ln;have n2:=hD.r.ln;have m1:=hC.r.sm;refine (St.refl h).newb fun h5 hs=>?_;refine hs.newb fun h6 hs=>?_;refine⟨k,hs.rd 1 rfl (i:=0) rfl,l,hs.rd 0 rfl (i:=0) rfl,sBn (fun c=>RP.f (fun hG=>c hG.1) hs.ext) (fun c0=>?_)⟩;refine⟨a,hs.rd 1 rfl (i:=1) rfl,b,hs.rd 0 rfl (i:=1) rfl,sBn (fun c=>RP.f (fun hG=>?_) hs.ext) (fun c1=>?_)⟩
 .have:=congrArg List.length hG.2;rw[Yc,Yc] at this;omega
 refine up_loopS (n:=a.n) hs (fun i=>∀(j:Nat),j<i->(C.map Cr.cf)[j]?=(D.map Cr.cf)[j]?) (fun j hj=>by omega) ?_;rintro-i h15 hi ⟨hs,hq⟩;refine⟨a,hs.rd 1 rfl (i:=1) rfl,sB_intro (fun c=>?_) (fun c=>?_)⟩
 .replace c:=lt_t c;refine⟨a,hs.rd 1 rfl (i:=1) rfl,?_⟩;refine (hC.r.rw.ext hs.ext).nbI (by omega) (by omega) fun b3 o3 x gx t3=>?_;replace gx:C[i]?=some x:=gx;refine⟨x.c1,x.c2,t3,b,hs.rd 0 rfl (i:=1) rfl,?_⟩;refine (hD.r.rw.ext hs.ext).nbI (by omega) (by omega) fun b4 o4 y gy t4=>?_;replace gy:D[i]?=some y:=gy;refine⟨y.c1,y.c2,t4,?_⟩;refine (sameC19 x.c1 x.c2 y.c1 y.c2 x.S y.S x.B y.B h15 ((hC.ext hs.ext).i x (Yb gx)) ((hD.ext hs.ext).i y (Yb gy))).mono ?_;rintro _ h29 ⟨⟨b',rfl,hb'⟩,E⟩;have hs:=hs.step E;have ex:(C.map Cr.cf)[i]?=some x.cf:=by rw[Yd,gx];rfl
  have ey:(D.map Cr.cf)[i]?=some y.cf:=by rw[Yd,gy];rfl
  refine⟨_,rfl,sB_intro (fun c2=>RP.f (fun hG=>?_) hs.ext) (fun c2=>?_)⟩
  .rw[hG.2,ey] at ex;have e:=(Yyp ex).symm;rw[hb'.2 ⟨congrArg Prod.fst e,congrArg Prod.snd e⟩] at c2;cases c2
  .refine Up.next c (by omega) ⟨hs,fun j hj=>?_⟩;by_cases e:j=i
   .subst e;rw[ex,ey];have hp:=hb'.1 (by cases b' with | true=>rfl | false=>cases c2);exact congrArg some (Prod.ext hp.1 hp.2)
   .exact hq j (by omega)
 .replace c:=lt_f c;refine RP.t ⟨c0,Yyr fun j=>?_⟩ hs.ext;by_cases hj:j<i
  .exact hq j hj
  .rw[Yl (by rw[Yc];omega),Yl (by rw[Yc];omega)]
theorem sy_nil {h:Heap}:SyI h ⟨none,0,0⟩ []:=⟨⟨Rw.nil,Yyt _,fun _=>⟨rfl,rfl⟩,Nat.zero_le _⟩,fun x hx=>by cases hx⟩
end Go.VC
end

section
namespace Go.VC
open Go.Proofs Go.LexS
def rdU:Nat->Bool->List Int->Option (Nat × List Int)
 | 0,_,_=>none
 | _+1,_,[]=>none
 | k+1,fst,c::r=>if c<128 then (if (c=0/\fst=false)\/(k=0/\1<c) then none else some (c.toNat,r)) else (rdU k false r).map fun q=>(c.toNat-128+128*q.1,q.2)
theorem rdU_venc:∀(k u:Nat) (fst:Bool) (r:List Int),u<2*128^k->(u=0->fst=true)->rdU (k+1) fst (venc u++r)=some (u,r):=by
 intro k
 induction k with
 | zero=>
  intro u fst r h h0;rw[venc_lt (by omega),List.cons_append,List.nil_append];unfold rdU;rw[if_pos (by omega),if_neg]
  .rfl
  .rintro (⟨a,b⟩ | ⟨a,b⟩)
   .rw[h0 (by omega)] at b;cases b
   .omega
 | succ k ih=>
  intro u fst r h h0;by_cases hu:u<128
  .rw[venc_lt hu,List.cons_append,List.nil_append];unfold rdU;rw[if_pos (by omega),if_neg]
   .rfl
   .rintro (⟨a,b⟩ | ⟨a,b⟩)
    .rw[h0 (by omega)] at b;cases b
    .cases a
  .rw[venc_ge hu,List.cons_append];unfold rdU;rw[if_neg (by omega),ih (u/128) false r (by rw[Nat.pow_succ] at h;omega) (fun e=>by omega)];simp only[Option.map_some,Option.some.injEq,Prod.mk.injEq,and_true];omega
def zag (u:Nat):Int:=if u%2=0 then ((u/2:Nat):Int) else -((u/2:Nat):Int)-1
theorem zag_zig (n:Int):zag (zigN n)=n:=by
 unfold zag zigN;split<;>split<;>omega
def rIq (l:List Int):Option (Int × List Int):=(rdU 10 true l).map fun q=>(zag q.1,q.2)
theorem rI_enc {n:Int} (hn:I64 n) (r:List Int):rIq (encI n++r)=some (n,r):=by
 unfold rIq encI;rw[rdU_venc 9 (zigN n) true r (Nat.lt_of_lt_of_le (zig_lt hn.1 hn.2) (by decide)) (fun _=>rfl)];simp only[Option.map_some,zag_zig]
def rBq (hi:Int) (l:List Int):Option (Int × List Int):=(rIq l).bind fun q=>if 0<=q.1/\q.1<=hi then some q else none
def rMany {α:Type} (f:List Int->Option (α × List Int)):Nat->List Int->Option (List α × List Int)
 | 0,l=>some ([],l)
 | n+1,l=>(rMany f n l).bind fun p=>(f p.2).map fun q=>(p.1++[q.1],q.2)
theorem rMany_none {α:Type} {f:List Int->Option (α × List Int)} {l:List Int} {i:Nat} (h:rMany f i l=none):∀n,i<=n->rMany f n l=none:=by
 intro n hn
 induction n with
 | zero=>rw[show i=0 by omega] at h;exact h
 | succ n ih=>
  by_cases hi:i=n+1
  .rw[<-hi];exact h
  .unfold rMany;rw[ih (by omega)];rfl
theorem rMany_end {α:Type} {f:List Int->Option (α × List Int)} (hf:f []=none) {l:List Int} {i n:Nat} {X:List α} (h:rMany f i l=some (X,[])) (hn:i<n):rMany f n l=none:=
 rMany_none (i:=i+1) (by unfold rMany;rw[h];simp[hf]) n hn
theorem rMany_lng {α:Type} {f:List Int->Option (α × List Int)} {l:List Int}:∀ {n:Nat} {X:List α} {r:List Int},rMany f n l=some (X,r)->X.length=n
 | 0,X,r,h=>by unfold rMany at h;injection h with h;injection h with h1 h2;rw[<-h1];rfl
 | n+1,X,r,h=>by
  unfold rMany at h;rcases hq:rMany f n l with _ | ⟨Y,s⟩
  .rw[hq] at h;cases h
  .rw[hq] at h;rcases ht:f s with _ | ⟨a,t⟩
   .simp[ht] at h
   .simp only[Option.bind_some,ht,Option.map_some] at h;injection h with h;injection h with h1 h2;rw[<-h1,Yh,rMany_lng hq];rfl
theorem rMany_enc {α:Type} {f:List Int->Option (α × List Int)} {g:α->List Int} {ok:α->Bool} {X:List α} (hf:∀a∈X,∀r,f (g a++r)=if ok a then some (a,r) else none) (r:List Int) :
  ∀i,i<=X.length->rMany f i (X.flatMap g++r)=if (X.take i).all ok then some (X.take i,(X.drop i).flatMap g++r) else none:=by
 intro i
 induction i with
 | zero=>intro _;rfl
 | succ i ih=>
  intro hi;obtain⟨a,ha⟩:∃a,X[i]?=some a:=⟨X[i],Yi (by omega)⟩;unfold rMany;rw[ih (by omega),take_snoc ha,List.all_append];have hd:X.drop i=a::X.drop (i+1):=by
   obtain⟨h1,h2⟩:=Ya.1 ha;rw[List.drop_eq_getElem_cons h1,h2]
  cases hb:(X.take i).all ok with
  | false=>rfl
  | true=>
   rw[if_pos rfl,hd,List.flatMap_cons,Yz];simp only[Option.bind_some,hf a (Yb ha),List.all_cons,List.all_nil,Bool.and_true,Bool.true_and];cases ok a<;>simp
theorem rMany_all {α:Type} {f:List Int->Option (α × List Int)} {g:α->List Int} {ok:α->Bool} {X:List α} (hf:∀a∈X,∀r,f (g a++r)=if ok a then some (a,r) else none) (r:List Int) :
  rMany f X.length (X.flatMap g++r)=if X.all ok then some (X,r) else none:=by
 rw[rMany_enc hf r X.length (Yyt _),Yye,List.drop_length];rfl
theorem rB_enc {n hi:Int} (hn:I64 n) (r:List Int):rBq hi (encI n++r)=if 0<=n/\n<=hi then some (n,r) else none:=by
 unfold rBq;rw[rI_enc hn];rfl
def rL (most:Int) (l:List Int):Option (List Int × List Int):=(rBq most l).bind fun q=>rMany rIq q.1.toNat q.2
theorem rL_enc {X:List Int} {most:Int} (hX:∀x∈X,I64 x) (hl:X.length<=1000000) (r:List Int):rL most (encL X++r)=if decide ((X.length:Int)<=most) then some (X,r) else none:=by
 unfold rL encL;rw[Yz,rB_enc ⟨by omega,by omega⟩];by_cases h:(X.length:Int)<=most
 .rw[if_pos ⟨by omega,h⟩,decide_eq_true h,if_pos rfl];have:=rMany_all (f:=rIq) (g:=encI) (ok:=fun _=>true) (X:=X) (fun a ha r=>by rw[if_pos rfl];exact rI_enc (hX a ha) r) r;rw[if_pos (by rw[List.all_eq_true];exact fun _ _=>rfl)] at this;exact this
 .rw[if_neg (fun e=>h e.2),decide_eq_false h];rfl
def rC (l:List Int):Option ((List Int × List (List Int)) × List Int):=(rL 6 l).bind fun s=>(rBq 36 s.2).bind fun m=>(rMany (rL 4) m.1.toNat m.2).map fun p=>((s.1,p.1),p.2)
theorem rC_nil:rC []=none:=rfl
def fitC (c:List Int × List (List Int)):Bool:=decide ((c.1.length:Int)<=6)&&(decide ((c.2.length:Int)<=36)&&c.2.all fun q=>decide ((q.length:Int)<=4))
theorem rC_enc {S:List Int} {BL:List (List Int)} (hS:∀x∈S,I64 x) (hb:∀q∈BL,q.length<=1000/\∀x∈q,I64 x) (hn:S.length<=1000/\BL.length<=1000) (r:List Int) :
  rC (encC S BL++r)=if fitC (S,BL) then some ((S,BL),r) else none:=by
 unfold rC encC fitC;rw[Yz,rL_enc hS (by omega)];cases h1:decide ((S.length:Int)<=6) with
 | false=>rfl
 | true=>
  rw[if_pos rfl,Option.bind_some,Yz,rB_enc ⟨by omega,by omega⟩,Bool.true_and];by_cases h2:(BL.length:Int)<=36
  .rw[if_pos ⟨by omega,h2⟩,decide_eq_true h2,Bool.true_and,Option.bind_some];have:=rMany_all (f:=rL 4) (g:=encL) (ok:=fun q=>decide ((q.length:Int)<=4)) (X:=BL) (fun a ha r=>rL_enc (hb a ha).2 (by have:=(hb a ha).1;omega) r) r;show Option.map _ (rMany (rL 4) BL.length _)=_;rw[this];cases BL.all fun q=>decide ((q.length:Int)<=4)<;>rfl
  .rw[if_neg (fun e=>h2 e.2),decide_eq_false h2];rfl
def rTq (l:List Int):Option (Int × List (List Int × List (List Int))):=(rIq l).bind fun k=>(rBq 20000 k.2).bind fun n=>(rMany rC n.1.toNat n.2).bind fun c=>if c.2=[] then some (k.1,c.1) else none
def encT (K:Int) (C:List (List Int × List (List Int))):List Int:=encI K++(encI C.length++C.flatMap fun c=>encC c.1 c.2)
theorem rT_enc {K:Int} {C:List (List Int × List (List Int))} (hK:I64 K) (hC:C.length<=20000) (hc:∀c∈C,(∀x∈c.1,I64 x)/\(∀q∈c.2,q.length<=1000/\∀x∈q,I64 x)/\c.1.length<=1000/\c.2.length<=1000) :
  rTq (encT K C)=if C.all fitC then some (K,C) else none:=by
 unfold rTq encT;rw[rI_enc hK,Option.bind_some,rB_enc ⟨by omega,by omega⟩,if_pos ⟨by omega,by omega⟩,Option.bind_some];have:=rMany_all (f:=rC) (g:=fun c=>encC c.1 c.2) (ok:=fitC) (X:=C) (fun a ha r=>rC_enc (hc a ha).1 (hc a ha).2.1 (hc a ha).2.2 r) [];rw[Yw] at this;show Option.bind (rMany rC C.length _) _=_;rw[this];cases C.all fitC<;>rfl
def fnvS (h c:Nat):Nat:=(1099511628211*(h ^^^ c))%18446744073709551616
def fnv (h:Nat) (l:List Int):Nat:=l.foldl (fun h c=>fnvS h c.toNat) h
def hsh (l:List Int):Nat:=fnv 14695981039346656037 l
theorem fnvS_lt (h c:Nat):fnvS h c<18446744073709551616:=Nat.mod_lt _ (by decide)
theorem fnv_lt:∀(l:List Int) (h:Nat),h<18446744073709551616->fnv h l<18446744073709551616
 | [],_,hh=>hh
 | c::l,h,_=>fnv_lt l (fnvS h c.toNat) (fnvS_lt _ _)
theorem hsh_lt (l:List Int):hsh l<18446744073709551616:=fnv_lt l _ (by decide)
theorem fnv_app (h:Nat) (l m:List Int):fnv h (l++m)=fnv (fnv h l) m:=List.foldl_append
theorem fnv_snoc (h:Nat) (l:List Int) (m:Nat):fnv h (l++[(m:Int)])=fnvS (fnv h l) m:=by
 rw[fnv_app];simp only[fnv,List.foldl_cons,List.foldl_nil,Ys]
theorem odd_inj {a b:Nat} (ha:a<18446744073709551616) (hb:b<18446744073709551616) (h:1099511628211*a%18446744073709551616=1099511628211*b%18446744073709551616):a=b:=by
 rw[Nat.mul_comm _ a,Nat.mul_comm _ b] at h;have key:∀x:Nat,x<18446744073709551616->(x*1099511628211%18446744073709551616)*14886173955864302971%18446744073709551616=x:=fun x hx=>by
  rw[Nat.mod_mul_mod,Nat.mul_assoc,show 1099511628211*14886173955864302971=18446744073709551616*887285111055+1 from by decide,Nat.mul_add,Nat.mul_one,Nat.add_comm,Nat.mul_left_comm,Nat.add_mul_mod_self_left,Nat.mod_eq_of_lt hx]
 rw[<-key a ha,<-key b hb,h]
theorem xor_c {a b c:Nat} (h:a ^^^ c=b ^^^ c):a=b:=by
 have:=congrArg (· ^^^ c) h;simpa [Nat.xor_assoc] using this
theorem c_xor {a b c:Nat} (h:c ^^^ a=c ^^^ b):a=b:=xor_c (c:=c) (by rw[Nat.xor_comm a,Nat.xor_comm b];exact h)
theorem fnvS_injH {a b c:Nat} (ha:a<18446744073709551616) (hb:b<18446744073709551616) (hc:c<256) (h:fnvS a c=fnvS b c):a=b:=
 xor_c (odd_inj (Nat.xor_lt_two_pow (n:=64) ha (by omega)) (Nat.xor_lt_two_pow (n:=64) hb (by omega)) h)
theorem fnvS_injC {a b c:Nat} (hc:c<18446744073709551616) (ha:a<256) (hb:b<256) (h:fnvS c a=fnvS c b):a=b:=
 c_xor (odd_inj (Nat.xor_lt_two_pow (n:=64) hc (by omega)) (Nat.xor_lt_two_pow (n:=64) hc (by omega)) h)
def Byt (l:List Int):Prop:=∀x∈l,0<=x/\x<256
theorem fnv_injH:∀(l:List Int) {a b:Nat},Byt l->a<18446744073709551616->b<18446744073709551616->fnv a l=fnv b l->a=b
 | [],a,b,_,_,_,h=>h
 | c::l,a,b,hl,ha,hb,h=>by
  have hc:=hl c Yx;exact fnvS_injH ha hb (c:=c.toNat) (by omega) (fnv_injH l (fun x hx=>hl x (Yn _ hx)) (fnvS_lt _ _) (fnvS_lt _ _) h)
theorem hsh_set {l:List Int} (hl:Byt l) {k:Nat} {x y:Int} (hx:l[k]?=some x) (hy:0<=y/\y<256) (hne:y≠x):hsh (l.set k y)≠hsh l:=by
 obtain⟨hk,he⟩:=Ya.1 hx;have e1:l=l.take k++x::l.drop (k+1):=by
  rw[<-he,<-List.drop_eq_getElem_cons hk,List.take_append_drop]
 have e2:l.set k y=l.take k++y::l.drop (k+1):=List.set_eq_take_append_cons_drop.trans (if_pos hk);have hb:=hl x (Yb hx);intro h;rw[e2] at h
 conv at h=>rhs;rw[e1]
 unfold hsh at h;rw[fnv_app,fnv_app] at h;have h2:=fnv_injH (l.drop (k+1)) (a:=fnvS _ y.toNat) (b:=fnvS _ x.toNat) (fun z hz=>hl z (List.mem_of_mem_drop hz)) (fnvS_lt _ _) (fnvS_lt _ _) h;have h3:=fnvS_injC (fnv_lt (l.take k) _ (by decide)) (by omega) (by omega) h2;omega
def eight (u:Nat):List Int:=[((u/72057594037927936%256:Nat):Int),((u/281474976710656%256:Nat):Int),((u/1099511627776%256:Nat):Int),((u/4294967296%256:Nat):Int),
 ((u/16777216%256:Nat):Int),((u/65536%256:Nat):Int),((u/256%256:Nat):Int),((u%256:Nat):Int)]
theorem eight_inj {u v:Nat} (hu:u<18446744073709551616) (hv:v<18446744073709551616) (h:eight u=eight v):u=v:=by
 unfold eight at h;simp only[List.cons.injEq,and_true] at h;omega
theorem eight_byt (u:Nat):Byt (eight u):=fun x hx=>by
 unfold eight at hx;simp only[Yr,List.not_mem_nil,or_false] at hx;omega
def sealB (b:List Int):List Int:=b++eight (hsh b)
def magicC:List Int:=[70,82,68,67,49]
def decT (b:List Int):Int × Int × List (List Int × List (List Int)):=
 if b.length<13\/b.take 5≠magicC then (4,0,[]) else
 if eight (hsh (b.take (b.length-8)))≠b.drop (b.length-8) then (5,0,[]) else
 match rTq ((b.take (b.length-8)).drop 5) with
 | some (K,C)=>(0,K,C)
 | none=>(4,0,[])
theorem decT_enc {K:Int} {C:List (List Int × List (List Int))} (hK:I64 K) (hC:C.length<=20000) (hc:∀c∈C,(∀x∈c.1,I64 x)/\(∀q∈c.2,q.length<=1000/\∀x∈q,I64 x)/\c.1.length<=1000/\c.2.length<=1000) :
  decT (sealB (magicC++encT K C))=if C.all fitC then (0,K,C) else (4,0,[]):=by
 have hl:(sealB (magicC++encT K C)).length-8=(magicC++encT K C).length:=by
  unfold sealB;rw[Yh];rfl
 have h13:¬((sealB (magicC++encT K C)).length<13\/(sealB (magicC++encT K C)).take 5≠magicC):=by
  rintro (h | h)
  .unfold sealB at h;rw[Yh,Yh] at h;have e5:magicC.length=5:=rfl;have e8:(eight (hsh (magicC++encT K C))).length=8:=rfl;omega
  .exact h rfl
 unfold decT;rw[if_neg h13,hl,show (sealB (magicC++encT K C)).take (magicC++encT K C).length=magicC++encT K C from List.take_left' rfl,show (sealB (magicC++encT K C)).drop (magicC++encT K C).length=eight (hsh (magicC++encT K C)) from List.drop_left' rfl,if_neg (fun h=>h rfl),
  show (magicC++encT K C).drop 5=encT K C from rfl,rT_enc hK hC hc]
 cases C.all fitC<;>rfl
theorem decT_change {b:List Int} (hb:Byt b) {k:Nat} {x y:Int} (hx:(sealB b)[k]?=some x) (hy:0<=y/\y<256) (hne:y≠x):(decT ((sealB b).set k y)).1≠0:=by
 have hk:=(Ya.1 hx).1;have e8:(eight (hsh b)).length=8:=rfl;have hl:((sealB b).set k y).length-8=b.length:=by
  rw[Yyh];unfold sealB;rw[Yh,e8];omega
 have hlen:(sealB b).length=b.length+8:=by unfold sealB;rw[Yh,e8]
 unfold decT;rw[hl];have key:eight (hsh (((sealB b).set k y).take b.length))≠((sealB b).set k y).drop b.length:=by
  unfold sealB at hx ⊢;by_cases hkb:k<b.length
  .rw[List.set_append_left _ _ hkb];rw[Yyi hkb] at hx;rw[List.take_left' (by rw[Yyh]),List.drop_left' (by rw[Yyh])];exact fun h=>hsh_set hb hx hy hne (eight_inj (hsh_lt _) (hsh_lt _) h)
  .rw[List.set_append_right _ _ (by omega)];rw[Yyc (by omega)] at hx;rw[List.take_left' rfl,List.drop_left' rfl];intro h;have h2:=congrArg (·[k-b.length]?) h;simp only[Yq (show k-b.length<(eight (hsh b)).length by omega),hx] at h2;injection h2 with h2;exact hne h2.symm
 split
 .decide
 .first | decide | (rw[if_pos key];decide)
theorem wrapU (n:Nat):IntKind.wrap .u64 (n:Int)=((n%18446744073709551616:Nat):Int):=by
 simp[IntKind.wrap,IntKind.signed,IntKind.bits]
theorem wrap8 (n:Nat):IntKind.wrap .u8 (n:Int)=((n%256:Nat):Int):=by
 simp[IntKind.wrap,IntKind.signed,IntKind.bits]
theorem xorU {a b:Nat} (ha:a<2^64) (hb:b<2^64):xorI .u64 (a:Int) (b:Int)=((a ^^^ b:Nat):Int):=by
 unfold xorI;have e:(BitVec.ofInt (IntKind.bits .u64) (a:Int) ^^^ BitVec.ofInt (IntKind.bits .u64) (b:Int)).toNat=a ^^^ b:=by
  show (BitVec.ofInt 64 (a:Int) ^^^ BitVec.ofInt 64 (b:Int)).toNat=_;rw[BitVec.ofInt_natCast,BitVec.ofInt_natCast,BitVec.toNat_xor,BitVec.toNat_ofNat,BitVec.toNat_ofNat,Nat.mod_eq_of_lt ha,Nat.mod_eq_of_lt hb]
 rw[e];have:=Nat.xor_lt_two_pow ha hb;exact wu64 (by omega) (by omega)
theorem fnv_step {u m:Nat} (hu:u<18446744073709551616) (hm:m<256):IntKind.wrap .u64 ((xorI .u64 (u:Int) (IntKind.wrap .u64 (m:Int)))*1099511628211)=((fnvS u m:Nat):Int):=by
 rw[wu64 (n:=(m:Int)) (by omega) (by omega),xorU (by omega) (by omega)];unfold fnvS;rw[<-wrapU];congr 1;generalize u ^^^ m=x;omega
theorem from166 (u:Nat) (p1:Sl) (B:List Int) (h:Heap) (hB:RL h 1 p1 u8C B) (hb:Byt B) (hu:u<18446744073709551616) :
  Fn Pz 166 #[.int .u64 (u:Int),.slice p1.a p1.n p1.c] h fun v h'=>v=.int .u64 ((fnv u B:Nat):Int)/\h'=h:=by
 apply vc166 _ p1;unfold W166;have hn:=hB.ln;have hsm:=hB.sm;refine⟨fun s x h' μ=>∃i:Nat,x=(i:Int)/\μ=B.length-i/\i<=B.length/\s=((fnv u (B.take i):Nat):Int)/\h'=h,⟨_,0,rfl,rfl,Nat.zero_le _,rfl,rfl⟩,?_⟩;rintro-_ _ h6 μ ⟨i,rfl,rfl,hi,rfl,rfl⟩;refine sBi (fun c=>?_) (fun c=>?_)
 .refine hB.rw.nbI (by omega) (by omega) fun b7 o8 x gx t=>?_;replace gx:B[i]?=some x:=gx;obtain⟨m,rfl⟩:∃m:Nat,x=(m:Int):=⟨x.toNat,by have:=hb x (Yb gx);omega⟩;have hm:=hb _ (Yb gx);refine⟨_,t.hd,_,(show B.length-(i+1)<B.length-i by omega),i+1,by rw[w64 (by omega) (by omega)];omega,rfl,by omega,?_,rfl⟩;rw[take_snoc gx,fnv_snoc,fnv_step (fnv_lt _ _ hu) (by omega)]
 .have hie:i=B.length:=by omega
  subst hie;rw[Yye];exact⟨rfl,rfl⟩
theorem of129 (p1:Sl) (B:List Int) (h:Heap) (hB:RL h 1 p1 u8C B) (hb:Byt B):Fn Pz 129 #[.slice p1.a p1.n p1.c] h fun v h'=>v=.int .u64 ((hsh B:Nat):Int)/\h'=h:=by
 apply vc129 p1;unfold W129;refine (from166 14695981039346656037 p1 B h hB hb (by decide)).mono ?_;rintro _ _ ⟨rfl,rfl⟩;exact⟨_,rfl,rfl,rfl⟩
theorem from168 (u:Nat) (p1:Sl) (B:List Int) (h:Heap) (hB:RL h 1 p1 u8C B) (hb:Byt B) (hu:u<18446744073709551616) :
  Fn Pz 168 #[.int .u64 (u:Int),.slice p1.a p1.n p1.c] h fun v h'=>v=.int .u64 ((fnv u B:Nat):Int)/\h'=h:=by
 apply vc168 _ p1;unfold W168;have hn:=hB.ln;have hsm:=hB.sm;refine⟨fun s x h' μ=>∃i:Nat,x=(i:Int)/\μ=B.length-i/\i<=B.length/\s=((fnv u (B.take i):Nat):Int)/\h'=h,⟨_,0,rfl,rfl,Nat.zero_le _,rfl,rfl⟩,?_⟩;rintro-_ _ h6 μ ⟨i,rfl,rfl,hi,rfl,rfl⟩;refine sBi (fun c=>?_) (fun c=>?_)
 .refine hB.rw.nbI (by omega) (by omega) fun b7 o8 x gx t=>?_;replace gx:B[i]?=some x:=gx;obtain⟨m,rfl⟩:∃m:Nat,x=(m:Int):=⟨x.toNat,by have:=hb x (Yb gx);omega⟩;have hm:=hb _ (Yb gx);refine⟨_,t.hd,_,(show B.length-(i+1)<B.length-i by omega),i+1,by rw[w64 (by omega) (by omega)];omega,rfl,by omega,?_,rfl⟩;rw[take_snoc gx,fnv_snoc,fnv_step (fnv_lt _ _ hu) (by omega)]
 .have hie:i=B.length:=by omega
  subst hie;rw[Yye];exact⟨rfl,rfl⟩
theorem of138 (p1:Sl) (B:List Int) (h:Heap) (hB:RL h 1 p1 u8C B) (hb:Byt B):Fn Pz 138 #[.slice p1.a p1.n p1.c] h fun v h'=>v=.int .u64 ((hsh B:Nat):Int)/\h'=h:=by
 apply vc138 p1;unfold W138;refine (from168 14695981039346656037 p1 B h hB hb (by decide)).mono ?_;rintro _ _ ⟨rfl,rfl⟩;exact⟨_,rfl,rfl,rfl⟩
/-! ### the eight bytes -/
def u8V (b:Int):Value:=.int .u8 b
theorem eight_get {u i:Nat} (hi:i<8):(eight u)[i]?=some (((u/2^(8*(7-i))%256:Nat)):Int):=by
 rcases (show i=0\/i=1\/i=2\/i=3\/i=4\/i=5\/i=6\/i=7 by omega) with rfl | rfl | rfl | rfl | rfl | rfl | rfl | rfl<;>first | rfl | (simp[eight])
def part8 (u i:Nat):List Value:=((eight u).take i++List.replicate (8-i) 0).map u8V
theorem part8_step {u i:Nat} (hi:i<8):splice (part8 u i) i [.int .u8 ((u/2^(8*(7-i))%256:Nat):Int)]=part8 u (i+1):=by
 have h8:∀k,k<=8->((eight u).take k).length=k:=fun k hk=>by rw[Yu];exact Nat.min_eq_left hk
 unfold part8 splice;rw[take_snoc (eight_get hi),Ym,Ym,Ym];have e1:(List.map u8V ((eight u).take i)).length=i:=by rw[Yc,h8 i (by omega)]
 rw[List.take_left' e1,List.drop_append,e1,List.drop_eq_nil_of_le (by rw[e1];simp)];have e2:i+[Value.int .u8 ((u/2^(8*(7-i))%256:Nat):Int)].length-i=1:=by simp
 rw[e2,<-List.map_drop,List.drop_replicate,List.nil_append,show 8-i-1=8-(i+1) by omega];rfl
theorem shr8 {u i:Nat} (hi:i<8):IntKind.wrap .u8 (shrI .u64 (u:Int) (IntKind.wrap .i64 (8*(IntKind.wrap .i64 (7-(i:Int))))))=((u/2^(8*(7-i))%256:Nat):Int):=by
 rw[w64 (n:=7-(i:Int)) (by omega) (by omega),w64 (by omega) (by omega),show 8*(7-(i:Int))=((8*(7-i):Nat):Int) by omega,shr_nat (by omega),wrap8]
theorem eight128 (u:Nat) (h:Heap):Fn Pz 128 #[.int .u64 (u:Int)] h fun v h'=>v=.agg ⟨(eight u).map u8V⟩/\Ext h h':=by
 apply vc128 _;unfold W128;refine (St.refl h).newb fun h1 hs=>?_;refine hs.newb fun h2 hs=>?_;refine⟨fun x h' μ=>∃i:Nat,x=(i:Int)/\μ=8-i/\i<=8/\St h h' [.blk h1.size (part8 u i) 208,.blk h.size (part8 u 0) 208],⟨_,0,rfl,rfl,by omega,hs⟩,?_⟩;clear hs;rintro-_ h7 μ ⟨i,rfl,rfl,hi,hs⟩;refine sBi (fun c=>?_) (fun c=>?_)
 .refine⟨by rw[w64 (n:=7-(i:Int)) (by omega) (by omega),w64 (by omega) (by omega)];omega,⟨by omega,by omega⟩,?_⟩;rw[shr8 (by omega),show Int.toNat (i:Int)*1=i by omega,Nat.zero_add];refine hs.put 0 rfl (n:=1) (vs:=[_]) rfl (by unfold part8;simp[eight];omega) fun h8 hs=>?_;rw[part8_step (by omega)] at hs;exact⟨_,(show 8-(i+1)<8-i by omega),i+1,by rw[w64 (by omega) (by omega)];omega,rfl,by omega,hs⟩
 .have hie:i=8:=by omega
  subst hie;refine⟨_,_,_,_,_,_,_,_,hs.at 0 rfl (o:=0) (n:=8) rfl,?_⟩;refine hs.put 1 rfl (o:=0) (n:=8) (vs:=[_,_,_,_,_,_,_,_]) rfl (Yyt 8) fun h18 hs=>?_;exact⟨_,_,_,_,_,_,_,_,hs.at 1 rfl (o:=0) (n:=8) rfl,rfl,hs.ext⟩
end Go.VC
end

section
namespace Go.VC
open Go.Proofs Go.LexS Go.RowKit
theorem RL.from {α:Type} {h:Heap} {k:Nat} {s:Sl} {cs:α->List Value} {l:List α} (hr:RL h k s cs l) {i:Nat} (hi:i<=s.n):RL h k ⟨subA s.a i s.c k,s.n-i,s.c-i⟩ cs (l.drop i):=by
 have hn:=hr.ln;have hc:=hr.cap;refine⟨?_,by show s.n-i<=s.c-i;omega,fun ha=>?_,by have:=hr.sm;rw[List.length_drop];omega⟩
 .rw[List.map_drop];by_cases h1:i<s.n
  .exact hr.rw.from hc h1
  .rw[List.drop_eq_nil_of_le (by rw[Yc];omega)];exact Rw.empty (by show s.n-i=0;omega)
 .have h0:s.a=none:=by
   cases hsa:s.a with
   | none=>rfl
   | some x=>
    exfalso;have ha':subA s.a i s.c k=none:=ha;unfold subA at ha';split at ha'
    .rw[hsa] at ha';cases ha'
    .rw[hsa] at ha';cases ha'
  have:=hr.nil h0;exact⟨by show s.n-i=0;omega,by show s.c-i=0;omega⟩
theorem cv_rl {h:Heap} {s:Sl} {l:List Int} (hr:RL h 1 s u8C l) (hb:Byt l):RunW Pz (Go.convert 54 9 (.slice s.a s.n s.c)) h fun v h'=>v=.string (bs (toB l))/\h'=h:=by
 intro w hw;subst hw;have hn:=hr.ln;have hln:(toB l).length=s.n:=by rw[hn];exact Yc _
 have u1:Pz.underlying 54=some (.slice 5):=by kernel_rfl
 have u2:Pz.underlying 5=some (.int .u8):=by kernel_rfl
 have u3:Pz.underlying 9=some .string:=by kernel_rfl
 cases hsa:s.a with
 | none=>
  obtain⟨h0,hc⟩:=hr.nil hsa;have:l=[]:=List.length_eq_zero_iff.1 (by omega);subst this;rw[h0,hc];exact⟨_,w,Go.Lib.run_convert_nil_bytes w 54 9 5 0 u1 u2 u3,⟨rfl,rfl⟩,rfl,rfl,rfl⟩
 | some a=>
  refine⟨_,w,?_,⟨rfl,rfl⟩,rfl,rfl,rfl⟩;rw[<-hln];exact Go.run_convert_bytes_back w 54 9 5 a s.c (toB l) u1 u2 u3 fun j hj=>by
   have hjl:j<l.length:=by omega
   obtain⟨b,o,ha,hall⟩:=hr.rw.2 (by rw[Yc];omega);rw[hsa] at ha;cases ha;have h1:=(hall j (u8C l[j]) (by rw[Yd,Yi hjl];rfl)).hd;have hx:=hb l[j] (List.getElem_mem hjl);have e:(⟨b,o,none⟩:Addr).add j=⟨b,o+j*1,none⟩:=by rw[add_n,Nat.mul_one]
   rw[e];refine h1.trans ?_;have e2:(toB l)[j]=UInt8.ofNat (l[j]).toNat:=by simp[toB]
   rw[e2,UInt8.toNat_ofNat',Nat.mod_eq_of_lt (by omega),Int.toNat_of_nonneg hx.1]
theorem RL.flat8 {h:Heap} {s:Sl} {l:List Int} (hr:RL h 1 s u8C l) (hl:0<l.length):∃b o,s.a=some ⟨b,o,none⟩/\atC h ⟨b,o,none⟩ (l.map u8V):=by
 obtain⟨b,o,ha,hall⟩:=hr.rw.2 (by rw[Yc];exact hl);refine⟨b,o,ha,?_⟩;have h1:=atC_flat (k:=1) (l.map u8C) o (u8rows l) hall;have e:∀l:List Int,(l.map u8C).flatten=l.map u8V:=fun l=>by
  induction l with
  | nil=>rfl
  | cons a l ih=>rw[Yyl,Yyu,ih];rfl
 rwa [e] at h1
theorem oneU (l:List Int):(l.map u8C).flatten.all oneB=true:=by
 induction l with
 | nil=>rfl
 | cons a l ih=>rw[Yyl,Yyu,List.all_append,ih];rfl
def tail8 (u i:Nat):List Value:=(List.replicate i 0++(eight u).drop i).map u8V
theorem tail8_step {u i:Nat} (hi:i<8):splice (tail8 u (i+1)) i [.int .u8 ((u/2^(8*(7-i))%256:Nat):Int)]=tail8 u i:=by
 unfold tail8 splice;have hd:(eight u).drop i=((u/2^(8*(7-i))%256:Nat):Int)::(eight u).drop (i+1):=by
  obtain⟨h1,h2⟩:=Ya.1 (eight_get (u:=u) hi);rw[List.drop_eq_getElem_cons h1,h2]
 rw[hd,Ym,Yyq (by simp),List.drop_left' (by simp),<-List.map_take,List.take_replicate,Nat.min_eq_left (by omega),Ym,Yyl,Yz];rfl
theorem div8 {u i:Nat} (hi:i<8):u/2^(8*(7-i))/256=u/2^(8*(8-i)):=by
 rw[Nat.div_div_eq_div_mul];rcases (show i=0\/i=1\/i=2\/i=3\/i=4\/i=5\/i=6\/i=7 by omega) with rfl | rfl | rfl | rfl | rfl | rfl | rfl | rfl<;>rfl
theorem made5 (n:Nat):madeL Pz 5 n=List.replicate n (.int .u8 0):=by
 have hz:zeroC Pz 5=[.int .u8 0]:=by kernel_rfl
 unfold madeL;rw[hz]
 induction n with
 | zero=>rfl
 | succ n ih=>rw[List.replicate_succ,Yyu,ih];rfl
theorem eight137 (u:Nat) (h:Heap) (hu:u<18446744073709551616):Fn Pz 137 #[.int .u64 (u:Int)] h fun v h'=>∃s:Sl,v=.slice s.a s.n s.c/\St h h' [.sl s 5 1 ((eight u).map u8C)]:=by
 apply vc137 _;unfold W137;refine⟨⟨by decide,by decide,by decide⟩,?_⟩;rw[made5];refine (St.refl h).newb fun h1 hs=>?_;refine⟨fun q x h' μ=>∃i:Nat,x=(i:Int)-1/\μ=i/\i<=8/\q=((u/2^(8*(8-i)):Nat):Int)/\St h h' [.blk h.size (tail8 u i) 5],⟨_,8,rfl,rfl,by omega,by simp,hs⟩,?_⟩;clear hs;rintro-_ _ h7 i ⟨_,rfl,rfl,hi,rfl,hs⟩;refine sBi (fun c=>?_) (fun c=>?_)
 .obtain⟨j,rfl⟩:∃j,i=j+1:=⟨i-1,by omega⟩;have hq:u/2^(8*(8-(j+1)))<18446744073709551616:=Nat.lt_of_le_of_lt (Nat.div_le_self _ _) hu;have e1:((j+1:Nat):Int)-1=(j:Int):=by omega
  rw[e1,show 8-(j+1)=7-j by omega] at *;refine⟨by decide,⟨by omega,by show (j:Int)<((8:Nat):Int);omega⟩,?_⟩;have e2:Int.tmod ((u/2^(8*(7-j)):Nat):Int) 256=((u/2^(8*(7-j))%256:Nat):Int):=rfl;rw[e2,wrap8,Nat.mod_mod,show 0+Int.toNat (j:Int)*1=j by omega];refine hs.put 0 rfl (n:=1) (vs:=[_]) rfl (by unfold tail8;simp[eight]) fun h8 hs=>?_;rw[tail8_step (by omega)] at hs;refine⟨by decide,_,(show j<j+1 by omega),j,by rw[w64 (by omega) (by omega)],rfl,by omega,?_,hs⟩;have e3:Int.tdiv ((u/2^(8*(7-j)):Nat):Int) 256=((u/2^(8*(7-j))/256:Nat):Int):=rfl;have hz:u/2^(8*(8-j))<=18446744073709551615:=Yys (Nat.div_le_self _ _) (by omega);rw[e3,div8 (by omega),wu64 (Int.natCast_nonneg _) (Int.ofNat_le.2 hz)]
 .have hi0:i=0:=by omega
  subst hi0;exact⟨⟨some ⟨h.size,0,none⟩,8,8⟩,rfl,hs.blkS 8 1 ((eight u).map u8C) rfl (u8rows _) rfl (by decide)⟩
end Go.VC
end

section
namespace Go.VC
open Go.Proofs Go.LexS
theorem refInt83 (n:Int) (h:Heap) (hn:I64 n) :
  Fn Pz 83 #[.int .i64 n] h fun v h'=>∃b:Sl,v=.slice b.a b.n b.c/\St h h' [.sl b 5 1 ((encI n).map u8C)]:=by
 apply vc83 n;unfold W83;have hz:=zig_lt hn.1 hn.2;refine⟨fun u h'=>u=(zigN n:Int)/\h'=h,sBi (fun c=>⟨?_,rfl⟩) (fun c=>⟨?_,rfl⟩),?_⟩
 .obtain⟨h0,h1⟩:=hn;rw[w64 (n:=n+1) (by omega) (by omega),w64 (n:=0-(n+1)) (by omega) (by omega),wu64 (n:=0-(n+1)) (by omega) (by omega),wu64 (n:=(0-(n+1))*2) (by omega) (by omega),wu64 (by omega) (by omega)];unfold zigN;rw[if_neg (by omega)];omega
 .obtain⟨h0,h1⟩:=hn;rw[wu64 (n:=n) (by omega) (by omega),wu64 (by omega) (by omega)];unfold zigN;rw[if_pos (by omega)];omega
 rintro-_ h3 ⟨rfl,rfl⟩;have hs:St h3 h3 [.sl ⟨none,0,0⟩ 5 1 (([]:List Int).map u8C)]:=(St.refl h3).nil_ 5 1;refine⟨fun u b h' μ=>∃(v:Nat) (pre:List Int),u=(v:Int)/\μ=v/\v<18446744073709551616/\pre++venc v=encI n/\St h3 h' [.sl b 5 1 (pre.map u8C)],⟨_,zigN n,[],rfl,rfl,hz,rfl,hs⟩,?_⟩;clear hs;rintro-_ b2 h6 μ ⟨v,pre,rfl,hμ,hv,he,hs⟩;have hlen:=(hs.rows 0 (s:=b2) (cs:=u8C) rfl (by omega)).ln;have hpl:pre.length<=10:=by
  have h1:=congrArg List.length he;rw[Yh] at h1;have h2:=encI_len hn;omega
 refine sBi (fun c=>?_) (fun c=>?_)
 .have hv1:¬v<128:=by omega
  rw[venc_ge hv1] at he;have eb:IntKind.wrap .u8 (IntKind.wrap .u8 (Int.tmod (v:Int) 128)+128)=((v%128+128:Nat):Int):=by
   rw[show Int.tmod (v:Int) 128=((v%128:Nat):Int) from rfl,wu8 (n:=((v%128:Nat):Int)) (by omega) (by omega),wu8 (by omega) (by omega)];omega
  rw[eb];refine⟨by decide,?_⟩;refine hs.app 0 (s:=b2) (rows:=pre.map u8C) rfl app48 (m:=1) [[.int .u8 ((v%128+128:Nat):Int)]] rfl rfl (by simp) rfl (by omega) (by simp only[maxLen];omega) fun s8 h9 ns hs=>?_;refine⟨by decide,v/128,by omega,v/128,pre++[((v%128+128:Nat):Int)],?_,rfl,by omega,by rw[Yz];exact he,?_⟩
  .rw[show Int.tdiv (v:Int) 128=((v/128:Nat):Int) from rfl,wu64 (by omega) (by omega)]
  .rw[Ym];exact hs
 .have hv1:v<128:=by omega
  rw[venc_lt hv1] at he;rw[wu8 (n:=(v:Int)) (by omega) (by omega)];refine hs.app 0 (s:=b2) (rows:=pre.map u8C) rfl app48 (m:=1) [[.int .u8 (v:Int)]] rfl rfl (by simp) rfl (by omega) (by simp only[maxLen];omega) fun s12 h13 ns hs=>?_;refine⟨s12,rfl,?_⟩;rw[<-he,Ym];exact hs
theorem refInts140 (X:List Int) (p0:Sl) (h:Heap) (hX:RL h 1 p0 inC X) (hI:∀x∈X,I64 x) (hXl:X.length<=1000000) :
  Fn Pz 140 #[.slice p0.a p0.n p0.c] h fun v h'=>∃b:Sl,v=.slice b.a b.n b.c/\St h h' [.sl b 5 1 ((encL X).map u8C)]:=by
 apply vc140 p0;unfold W140;have hn:=hX.ln;have hI0:I64 (p0.n:Int):=⟨by omega,by omega⟩;refine (refInt83 (p0.n:Int) h hI0).mono ?_;rintro _ h3 ⟨b1,rfl,hs⟩;refine⟨b1,rfl,?_⟩;refine⟨fun b x h' μ=>∃i:Nat,x=(i:Int)/\μ=X.length-i/\i<=X.length/\St h h' [.sl b 5 1 ((encI (p0.n:Int)++(X.take i).flatMap encI).map u8C)],⟨_,0,rfl,rfl,Nat.zero_le _,by rw[Yyk,List.flatMap_nil,Yw];exact hs⟩,?_⟩;clear hs;rintro-b2 _ h9 μ ⟨i,rfl,rfl,hi,hs⟩;refine sBi (fun c=>?_) (fun c=>?_)
 .refine (hX.rw.ext hs.ext).nbI (by omega) (by omega) fun b10 o11 x gx t=>?_;replace gx:X[i]?=some x:=gx;refine⟨x,t.hd,?_⟩;have hfl:=flat_len (f:=encI) (c:=10) (X.take i) fun a ha=>encI_len (hI a (List.mem_of_mem_take ha));have h1:=encI_len hI0;have h2:(X.take i).length<=1000000:=by rw[Yu];omega
  have hix:=hI x (Yb gx);have h4:=encI_len hix;refine (refInt83 x h9 hix).mono ?_;rintro _ h15 ⟨b3,rfl,hs1⟩;have hs:=hs.join hs1;have hb2:=(hs.rows 0 (s:=b2) (cs:=u8C) rfl (by omega)).ln;have hb3:=(hs.rows 1 (s:=b3) (cs:=u8C) rfl (by omega)).ln;rw[Yh] at hb2;refine⟨b3,rfl,?_⟩;refine hs.appRw 0 (s:=b2) (y:=b3) (rows:=(encI (p0.n:Int)++(X.take i).flatMap encI).map u8C) (news:=(encI x).map u8C) rfl app48 (hs.rows 1 (s:=b3) (cs:=u8C) rfl (by omega)) (u8rows _) (hs.len 1 (s:=b3) (e:=5) (n:=1) rfl (by omega)).2.2 (flat_oneB (fun _=>rfl) _) (by omega) (by simp only[maxLen];omega) fun s16 h17 ns hs=>?_;refine⟨_,(show X.length-(i+1)<X.length-i by omega),i+1,by rw[w64 (by omega) (by omega)];omega,rfl,by omega,?_⟩;rw[take_snoc gx,List.flatMap_append,List.flatMap_cons,List.flatMap_nil,Yw,<-Yz,Ym];exact hs.eras 1
 .have hie:i=X.length:=by omega
  subst hie;rw[Yye] at hs;refine⟨b2,rfl,?_⟩;unfold encL;rw[<-hn];exact hs
theorem refEncode84 (ss sb:Sl) (S:List Int) (B:List Bx) (h:Heap) (hC:CfI h ss sb S B) (hE:EncOk S (B.map Bx.l)) :
  Fn Pz 84 #[.agg ⟨[.slice ss.a ss.n ss.c,.slice sb.a sb.n sb.c]⟩] h fun v h'=>∃b:Sl,v=.slice b.a b.n b.c/\St h h' [.sl b 5 1 ((encC S (B.map Bx.l)).map u8C)]:=by
 apply vc84 ss sb;unfold W84;have hbn:=hC.b.ln;have hbm:(B.map Bx.l).length=B.length:=Yc _;obtain⟨hE1,hE2⟩:=hE.n;rw[hbm] at hE2;have hI0:I64 (sb.n:Int):=⟨by omega,by omega⟩;have hel:=encL_len hE.s (by omega);have hi0:=encI_len hI0;refine (St.refl h).newb fun h3 hs=>?_;refine⟨ss,hs.rd 0 rfl rfl,sb,hs.rd 0 rfl (i:=1) rfl,?_⟩;have hs3:=hs;refine (refInts140 S ss h3 (hC.s.ext hs.ext) hE.s (by omega)).mono ?_;rintro _ h8 ⟨b1,rfl,hs1⟩;have hs:=hs.join hs1;refine⟨b1,rfl,hs1.ext.sm,?_⟩;refine (refInt83 (sb.n:Int) h8 hI0).mono ?_;rintro _ h11 ⟨b2,rfl,hs2⟩;have hs:=hs.join hs2;have hb1:=(hs.rows 1 (s:=b1) (cs:=u8C) rfl (by omega)).ln;have hb2:=(hs.rows 2 (s:=b2) (cs:=u8C) rfl (by omega)).ln;refine⟨b2,rfl,hs2.ext.sm,?_⟩;refine hs.appRw 1 (s:=b1) (y:=b2) (rows:=(encL S).map u8C) (news:=(encI (sb.n:Int)).map u8C) rfl app48 (hs.rows 2 (s:=b2) (cs:=u8C) rfl (by omega)) (u8rows _) (hs.len 2 (s:=b2) (e:=5) (n:=1) rfl (by omega)).2.2 (flat_oneB (fun _=>rfl) _) (by omega) (by simp only[maxLen];omega) fun s12 h13 ns hs=>?_;rw[<-Ym] at hs;have hs:=hs.eras 2;refine⟨fun b x h' μ=>∃i:Nat,x=(i:Int)/\μ=B.length-i/\i<=B.length/\St h h' [.blk h.size [.slice ss.a ss.n ss.c,.slice sb.a sb.n sb.c] 28,.sl b 5 1 ((encL S++encI (sb.n:Int)++((B.map Bx.l).take i).flatMap encL).map u8C)],⟨_,0,rfl,rfl,Nat.zero_le _,by rw[Yyk,List.flatMap_nil,Yw];exact hs⟩,?_⟩;clear hs hs3;rintro-b3 _ h19 μ ⟨i,rfl,rfl,hi,hs⟩;refine⟨sb,hs.rd 0 rfl (i:=1) rfl,sBi (fun c=>?_) (fun c=>?_)⟩
 .refine⟨sb,hs.rd 0 rfl (i:=1) rfl,?_⟩;refine (hC.b.rw.ext hs.ext).nbI (by omega) (by omega) fun b22 o23 q gq t=>?_;replace gq:B[i]?=some q:=gq;have gq1:(B.map Bx.l)[i]?=some q.l:=by rw[Yd,gq];rfl
  obtain⟨hq1,hq2⟩:=hE.b q.l (Yb gq1);have hfl:=hE.fl i;have hql:=encL_len hq2 (by omega);refine⟨q.s,t.hd,?_⟩;refine (refInts140 q.l q.s h19 ((hC.i q (Yb gq)).ext hs.ext) hq2 (by omega)).mono ?_;rintro _ h27 ⟨b4,rfl,hs4⟩;have hs:=hs.join hs4;have hb3:=(hs.rows 1 (s:=b3) (cs:=u8C) rfl (by omega)).ln;have hb4:=(hs.rows 2 (s:=b4) (cs:=u8C) rfl (by omega)).ln;rw[Yh,Yh] at hb3;refine⟨b4,rfl,?_⟩;refine hs.appRw 1 (s:=b3) (y:=b4) (rows:=(encL S++encI (sb.n:Int)++((B.map Bx.l).take i).flatMap encL).map u8C) (news:=(encL q.l).map u8C) rfl app48 (hs.rows 2 (s:=b4) (cs:=u8C) rfl (by omega)) (u8rows _) (hs.len 2 (s:=b4) (e:=5) (n:=1) rfl (by omega)).2.2 (flat_oneB (fun _=>rfl) _) (by omega) (by simp only[maxLen];omega) fun s28 h29 ns hs=>?_;refine⟨_,(show B.length-(i+1)<B.length-i by omega),i+1,by rw[w64 (by omega) (by omega)];omega,rfl,by omega,?_⟩;rw[take_snoc gq1,List.flatMap_append,List.flatMap_cons,List.flatMap_nil,Yw,<-Yz,Ym];exact hs.eras 2
 .have hie:i=(B.map Bx.l).length:=by omega
  rw[hie,Yye] at hs;refine⟨b3,rfl,?_⟩;unfold encC;rw[hbm,<-hbn,<-Yz];exact hs.drop 1
end Go.VC
end

section
namespace Go.VC
open Go.Proofs Go.LexS Go.RowKit
theorem cvS {h0 h:Heap} {L:List It} {b:Nat} {xs:List Value} (hs:St h0 h (.blk b xs 5::L)) (n:Nat) :
  RunW Pz (Go.convert 54 54 (.slice (some ⟨b,0,none⟩) n n)) h fun v h'=>v=.slice (some ⟨b,0,none⟩) n n/\St h0 h' L/\atC h' ⟨b,0,none⟩ xs/\(∀c,c<h.size->c≠b->h'[c]?=h[c]?):=by
 intro w hw;subst hw;have u1:Pz.underlying 54=some (.slice 5):=by kernel_rfl
 have u2:Pz.underlying 5=some (.int .u8):=by kernel_rfl
 have ho:Own w.heap b xs 5:=hs.get (k:=0) rfl;have hsh:w.shape? b=some (5,xs.length):=by
  unfold World.shape?;rw[show w.heap[b]?=some (.cells ⟨xs⟩ 5 (0,0)) from ho];rfl
 have hb:(w.freeze ⟨b,xs.length,none⟩ 1).heap[b]?=some (.cells ⟨xs⟩ 5 (xs.length,xs.length+1)):=by
  show (w.heap.modify b _)[b]?=_;rw[Array.getElem?_modify,if_pos rfl,show w.heap[b]?=some (.cells ⟨xs⟩ 5 (0,0)) from ho];rfl
 have hne:∀c,c≠b->(w.freeze ⟨b,xs.length,none⟩ 1).heap[c]?=w.heap[c]?:=fun c hc=>by
  show (w.heap.modify b _)[c]?=_;rw[Array.getElem?_modify,if_neg (Ne.symm hc)]
 refine⟨_,w.freeze ⟨b,xs.length,none⟩ 1,?_,⟨rfl,?_,?_,fun c _ hc=>hne c hc⟩,rfl,rfl,rfl⟩
 .unfold Go.convert;simp only[Sem.run_bind,run_underlying u1,Result.andThen_ok];simp[run_underlying u2,markStringish,hsh]
 .have h2:St h0 (w.freeze ⟨b,xs.length,none⟩ 1).heap (.sl ⟨none,0,0⟩ 5 1 []::L):=hs.turn (k:=0) (j:=.sl ⟨none,0,0⟩ 5 1 []) rfl (by show _<=(w.heap.modify b _).size;rw[Array.size_modify];exact Yyt _) ⟨OwnS.nil,fun r hr=>by cases hr⟩ (fun c hc=>by cases hc) fun c _ hc=>hne c fun e=>hc (by rw[e];rfl);exact h2.drop 1
 .intro i v hv;rw[addk_at];unfold hc;rw[hb];simpa using hv
theorem flatU (l:List Int):(l.map u8C).flatten=l.map u8V:=by
 induction l with
 | nil=>rfl
 | cons a l ih=>rw[Yyl,Yyu,ih];rfl
theorem App_fullU {h0 h:Heap} {L:List It} (hs:St h0 h L) {b x:Addr} {n cap m c:Nat} {xs ys:List Int} (hold:atC h b (xs.map u8V)) (hn:n=xs.length) (hx:atC h x (ys.map u8V)) (hm:m=ys.length) (hg:cap<n+m) (hb:n+m<=100000000) {K:Sl->Heap->Prop}
  (hK:∀(r:Sl) (h':Heap),r.n=n+m->St h0 h' (.sl r 5 1 ((xs++ys).map u8C)::L)->K r h'):App Pz 54 54 (.slice (some b) n cap) (.slice (some x) m c) h K:=by
 intro ty w hw;subst hw;have hT:=app48;unfold appB at hT;simp only[Yt] at hT;obtain⟨⟨⟨⟨⟨⟨⟨hsl,he⟩,ht⟩,hz⟩,hzl⟩,hsz⟩,hby⟩,hpos⟩:=hT;have hu:Pz.underlying 54=some (.slice 5):=by kernel_rfl
 obtain⟨i,hi⟩:=isT_info ht;obtain⟨z,hz'⟩:=Option.isSome_iff_exists.1 hz;rw[hi] at hz';simp only[Option.bind_some] at hz';have e1:i.size=1:=by have:=beqT hsz;simpa [szOf,hi] using this
 have e2:i.bytes=1:=by have:=beqT hby;simpa [byOf,hi] using this
 have e3:z.cells.size=1:=by have:=beqT hzl;simpa [zeroC,hi,hz'] using this
 have run:=run_append_grow (P:=Pz) w 54 ty 5 i z hu hi hz' b n cap (xs.map u8V) (by rw[e1,Yc];omega) (fun j u hj=>by rw[addk_add];exact hold j u hj) x m c (ys.map u8V) (by rw[e1,Yc];omega) (fun j u hj=>by rw[addk_add];exact hx j u hj) hg (by omega) (growslice_fits (by omega) (by rw[e2];omega));have hge:=grownCap_ge w (n+m) cap 5;have hle:=grownCap_le_maxLen w (n+m) cap 5 (by simp only[maxLen];omega);generalize grownCap w (n+m) cap 5=cp at *;refine⟨_,_,run,⟨⟨some ⟨w.heap.size,0,none⟩,n+m,cp⟩,rfl,hK _ _ rfl ?_⟩,rfl,rfl,rfl⟩;have hzl:=zeroCells_len z.cells (cp-(n+m));rw[e3] at hzl;refine hs.more (Ext.push _ _) ⟨⟨?_,.inr ⟨w.heap.size,_,rfl,Nat.zero_le _,push_eq,hge,hle,?_,?_⟩⟩,u8rows _⟩ (fun c hc=>?_)
 .rw[flatU,Yc,Yh];show _=(n+m)*1;omega
 .rw[<-Array.length_toList];simp only[Array.toList_append,Yh,Yc,hzl];show _=cp*1;omega
 .simp only[Array.toList_append];rw[flatU,Ym];exact List.take_left' (by rw[Yh,Yc,Yc];show _=(n+m)*1;omega)
 .injection hc with hc;rw[<-hc];exact Yyt _
theorem int69F (b:Addr) (xs:List Int) (n:Int) (h0 h:Heap) (L:List It) (hs:St h0 h L) (hold:atC h b (xs.map u8V)) (hn:I64 n) (hl:xs.length<=10000000) :
  Fn Pz 69 #[.slice (some b) xs.length xs.length,.int .i64 n] h fun v h'=>∃b':Sl,v=.slice b'.a b'.n b'.c/\St h0 h' (.sl b' 5 1 ((xs++encI n).map u8C)::L):=by
 apply vc69 ⟨some b,xs.length,xs.length⟩ n;unfold W69;rw[zig_bits hn];refine⟨by decide,by decide,?_⟩;have hz:=zig_lt hn.1 hn.2;refine⟨fun bb u h' μ=>∃(v:Nat) (pre:List Int),u=(v:Int)/\μ=v/\v<18446744073709551616/\pre++venc v=encI n/\((pre=[]/\bb=⟨some b,xs.length,xs.length⟩/\h'=h)\/St h0 h' (.sl bb 5 1 ((xs++pre).map u8C)::L)),⟨_,zigN n,[],rfl,rfl,hz,rfl,.inl ⟨rfl,rfl,rfl⟩⟩,?_⟩;rintro-b2 _ h6 μ ⟨v,pre,rfl,hμ,hv,he,hs6⟩;have hpl:pre.length<=10:=by
  have h1:=congrArg List.length he;rw[Yh] at h1;have h2:=encI_len hn;omega
 have app1:∀(y:Int) {K:Sl->Heap->Prop},(∀(r:Sl) (h':Heap),St h0 h' (.sl r 5 1 ((xs++pre++[y]).map u8C)::L)->K r h')->∀h2:Heap,h2=h6.push (.cells ⟨[.int .u8 y]⟩ 5)->App Pz 54 54 (.slice b2.a b2.n b2.c) (.slice (some ⟨h6.size,0,none⟩) 1 1) h2 K:=fun y K hK=>by
  rcases hs6 with ⟨rfl,rfl,rfl⟩ | hs
  .refine hs.newbE fun h2 E hs2=>?_;refine App_fullU (xs:=xs) (ys:=[y]) hs2 (atC_ext' E hold) rfl (hs2.at 0 rfl (o:=0) (n:=1) rfl) rfl (by show xs.length<xs.length+1;omega) (by show xs.length+1<=_;omega) fun r h' _ hs3=>hK r h' ?_;rw[Yw];exact hs3.eras 1
  .have hlen:=(hs.rows 0 (s:=b2) (cs:=u8C) rfl (by decide)).ln;rw[Yh] at hlen;refine hs.app 0 (s:=b2) (rows:=(xs++pre).map u8C) rfl app48 (m:=1) [[.int .u8 y]] rfl rfl (by simp) rfl (by omega) (by simp only[maxLen];omega) fun s8 h9 ns hs=>hK s8 h9 ?_;rw[Ym];exact hs
 refine sBi (fun c=>?_) (fun c=>?_)
 .have hv1:¬v<128:=by omega
  rw[venc_ge hv1] at he;rw[or_bits];refine app1 _ fun s8 h9 hs=>?_;refine⟨by decide,v/128,by omega,v/128,pre++[((v%128+128:Nat):Int)],shr7,rfl,by omega,by rw[Yz];exact he,.inr ?_⟩;rw[<-Yz];exact hs
 .have hv1:v<128:=by omega
  rw[venc_lt hv1] at he;rw[wu8 (n:=(v:Int)) (by omega) (by omega)];refine app1 _ fun s12 h13 hs=>?_;refine⟨s12,rfl,?_⟩;rw[<-he,<-Yz];exact hs
theorem made5u (n:Nat):madeL Pz 5 n=((List.replicate n 0).map u8C).flatten:=by
 rw[made5]
 induction n with
 | zero=>rfl
 | succ n ih=>rw[List.replicate_succ,List.replicate_succ,Yyl,Yyu,ih];rfl
theorem seal70 (p:Sl) (B:List Int) (h:Heap) (hB:RL h 1 p u8C B) (hb:Byt B):Fn Pz 70 #[.slice p.a p.n p.c] h fun v h'=>∃s:Sl,v=.slice s.a s.n s.c/\St h h' [.sl s 5 1 ((sealB B).map u8C)]:=by
 apply vc70 p;unfold W70;have hn:=hB.ln;have hsm:=hB.sm;refine (of129 p B h hB hb).mono ?_;rintro _ _ ⟨rfl,rfl⟩;refine⟨_,rfl,(eight128 (hsh B) _).mono ?_⟩;rintro _ h13 ⟨rfl,hE⟩;refine⟨_,_,_,_,_,_,_,_,rfl,?_⟩;have hs:=(St.refl _).step hE;refine hs.newput (vs:=[_,_,_,_,_,_,_,_]) rfl rfl fun h15 hs=>?_;refine⟨⟨by decide,by decide,by decide⟩,?_⟩;rw[w64 (n:=(p.n:Int)+8) (by omega) (by omega)];refine⟨⟨by decide,by omega,by omega⟩,?_⟩;rw[show Int.toNat ((p.n:Int)+8)=p.n+8 by omega,made5u];refine hs.newb fun h16 hs=>?_;have hs:=hs.blkS (p.n+8) 1 ((List.replicate (p.n+8) 0).map u8C) rfl (u8rows _) (by simp) (by simp only[maxLen];omega);have hs:=hs.cut 0 rfl (by decide) 0 (Nat.zero_le _);refine hs.appRw 0 rfl app48 (hB.rw.ext hs.ext) (u8rows _) hB.nil (oneU _) (by show (0+p.n)*1<=_;omega) (by show 0+p.n<=_;simp only[maxLen];omega) fun s17 h18 ns hs=>?_;have ns1:s17.n=p.n:=by rw[ns];exact Nat.zero_add _
 refine hs.appended 0 rfl app48 (x:=⟨h13.size,0,none⟩) (m:=8) (c:=8) (news:=(eight (hsh B)).map u8C) (hs.at 1 rfl (o:=0) (n:=8) rfl) rfl (u8rows _) (oneU _) (by omega) (by simp only[maxLen];omega) fun s19 h20 _ hs=>?_;refine⟨s19,rfl,?_⟩;unfold sealB;rw[Ym];exact hs.sub (.cons_cons _ (List.nil_sublist _))
theorem seal85 (p:Sl) (B:List Int) (h:Heap) (hB:RL h 1 p u8C B) (hb:Byt B):Fn Pz 85 #[.slice p.a p.n p.c] h fun v h'=>∃s:Sl,v=.slice s.a s.n s.c/\St h h' [.sl s 5 1 ((sealB B).map u8C)]:=by
 apply vc85 p;unfold W85;have hn:=hB.ln;have hsm:=hB.sm;refine (St.refl h).newb fun h1 hs=>?_;have hs:=hs.blkS 0 1 (([]:List Int).map u8C) rfl (u8rows _) rfl (Nat.zero_le _);refine hs.appRw 0 rfl app48 (hB.rw.ext hs.ext) (u8rows _) hB.nil (oneU _) (by show (0+p.n)*1<=_;omega) (by show 0+p.n<=_;simp only[maxLen];omega) fun s2 h3 ns hs=>?_;have ns1:s2.n=p.n:=by rw[ns];exact Nat.zero_add _
 refine (of138 p B h3 (hB.ext hs.ext) hb).mono ?_;rintro _ _ ⟨rfl,rfl⟩;refine⟨_,rfl,(eight137 (hsh B) _ (hsh_lt B)).mono ?_⟩;rintro _ h9 ⟨s8,rfl,hs8⟩;refine⟨s8,rfl,?_⟩;have hs:=hs.join hs8;have h8:=(hs.rows 1 (s:=s8) (cs:=u8C) rfl (by decide));have hl8:=hs.len 1 (s:=s8) rfl (by decide);have hn8:s8.n=8:=by rw[hl8.1];rfl
 refine hs.appRw 0 (s:=s2) rfl app48 h8 (u8rows _) hl8.2.2 (oneU _) (by omega) (by simp only[maxLen];omega) fun s10 h11 _ hs=>?_;refine⟨s10,rfl,?_⟩;unfold sealB;rw[Ym];exact hs.sub (.cons_cons _ (List.nil_sublist _))
def openS (b:List Int):Int × List Int:=if b.length<8 then (4,[]) else if eight (hsh (b.take (b.length-8)))≠b.drop (b.length-8) then (5,[]) else (0,b.take (b.length-8))
def OpnV (b:List Int) (h:Heap) (v:Value) (h':Heap):Prop:=∃s:Sl,v=.tuple ⟨[.slice s.a s.n s.c,.int .i64 (openS b).1]⟩/\St h h' [.sl s 5 1 ((openS b).2.map u8C)]
theorem list8 {l:List Int} (h:l.length=8):∃a b c d e f g i,l=[a,b,c,d,e,f,g,i]:=by
 match l,h with
 | [a,b,c,d,e,f,g,i],_=>exact⟨a,b,c,d,e,f,g,i,rfl⟩
theorem open71 (p:Sl) (B:List Int) (h:Heap) (hB:RL h 1 p u8C B) (hb:Byt B):Fn Pz 71 #[.slice p.a p.n p.c] h (OpnV B h):=by
 apply vc71 p;unfold W71;have hn:=hB.ln;have hsm:=hB.sm;have hcap:=hB.cap;rw[w64 (n:=(p.n:Int)-8) (by omega) (by omega)];refine sBi (fun c=>?_) (fun c=>?_)
 .have e:openS B=(4,[]):=if_pos (by omega);exact⟨⟨none,0,0⟩,by rw[e],by rw[e];exact (St.refl h).nil_ 5 1⟩
 .obtain⟨k,hk⟩:∃k:Nat,p.n=k+8:=⟨p.n-8,by omega⟩;have ek:(p.n:Int)-8=(k:Int):=by omega
  rw[ek];refine⟨⟨by decide,by omega,by omega⟩,⟨by omega,by omega,by omega⟩,by omega,?_⟩;have hT:=hB.take (i:=k) (by omega);have hD:=hB.from (i:=k) (by omega)
  have hlD:(B.drop k).length=8:=by rw[List.length_drop];omega
  obtain⟨b,o,ha,hat⟩:=hD.flat8 (by omega);obtain⟨d0,d1,d2,d3,d4,d5,d6,d7,hd⟩:=list8 hlD;rw[hd] at hat;have hbT:Byt (B.take k):=fun x hx=>hb x (List.mem_of_mem_take hx);rw[show Int.toNat (k:Int)=k from rfl,show subA p.a k p.c 1=some ⟨b,o,none⟩ from ha];refine⟨d0,d1,d2,d3,d4,d5,d6,d7,hat,(of129 _ (B.take k) h hT hbT).mono ?_⟩;rintro _ _ ⟨rfl,rfl⟩;refine⟨_,rfl,fun a _ j v hv=>hv,(eight128 (hsh (B.take k)) _).mono ?_⟩;rintro _ h22 ⟨rfl,hE⟩;refine⟨_,_,_,_,_,_,_,_,rfl,fun a _ j v hv=>hc_ext hE hv,?_⟩;have hs:=(St.refl _).step hE;refine sB_intro (fun c=>?_) (fun c=>?_)
  .have hne:eight (hsh (B.take k))≠B.drop k:=fun e=>by
    rw[hd] at e;unfold eight at e;injection e with e0 e;injection e with e1 e;injection e with e2 e;injection e with e3 e;injection e with e4 e;injection e with e5 e;injection e with e6 e;injection e with e7 e;rw[e0,e1,e2,e3,e4,e5,e6,e7] at c;simp at c
   have e:openS B=(5,[]):=by
    unfold openS;rw[if_neg (by omega),show B.length-8=k by omega,if_pos hne]
   exact⟨⟨none,0,0⟩,by rw[e],by rw[e];exact hs.nil_ 5 1⟩
  .have heq:eight (hsh (B.take k))=B.drop k:=by
    rw[hd];simp only[Bool.not_eq_false',Yt,beq_iff_eq,and_true] at c;unfold eight;obtain⟨c0,c1,c2,c3,c4,c5,c6,c7⟩:=c;rw[c0,c1,c2,c3,c4,c5,c6,c7]
   have e:openS B=(0,B.take k):=by
    unfold openS;rw[if_neg (by omega),show B.length-8=k by omega,if_neg (fun h=>h heq)]
   refine⟨⟨by decide,by omega,by omega⟩,?_⟩;have hs:=hs.nil_ 5 1;refine hs.appRw 0 rfl app48 (hT.rw.ext hs.ext) (u8rows _) hT.nil (oneU _) (by show (0+k)*1<=_;omega) (by show 0+k<=_;simp only[maxLen];omega) fun s23 h24 _ hs=>?_;exact⟨s23,by rw[e],by rw[e];exact hs⟩
theorem sB_not {b:Bool} {p q:Prop} (h:sB b q p):sB (!b) p q:=by cases b<;>exact h
theorem open78 (p:Sl) (B:List Int) (h:Heap) (hB:RL h 1 p u8C B) (hb:Byt B):Fn Pz 78 #[.slice p.a p.n p.c] h (OpnV B h):=by
 apply vc78 p;unfold W78 V78a;have hn:=hB.ln;have hsm:=hB.sm;have hcap:=hB.cap;refine sBi (fun c=>?_) (fun c=>?_)
 .have e:openS B=(4,[]):=if_pos (by omega);exact⟨⟨none,0,0⟩,by rw[e],by rw[e];exact (St.refl h).nil_ 5 1⟩
 .rw[w64 (n:=(p.n:Int)-8) (by omega) (by omega)];obtain⟨k,hk⟩:∃k:Nat,p.n=k+8:=⟨p.n-8,by omega⟩;have ek:(p.n:Int)-8=(k:Int):=by omega
  rw[ek];have hT:=hB.take (i:=k) (by omega);have hD:=hB.from (i:=k) (by omega)
  have hbT:Byt (B.take k):=fun x hx=>hb x (List.mem_of_mem_take hx);have hbD:Byt (B.drop k):=fun x hx=>hb x (List.mem_of_mem_drop hx);refine (St.refl h).newb fun h1 hs=>?_;have hs:=hs.blkS 0 1 (([]:List Int).map u8C) rfl (u8rows _) rfl (Nat.zero_le _);refine⟨⟨by decide,by omega,by omega⟩,?_⟩;refine hs.appRw 0 rfl app48 (hT.rw.ext hs.ext) (u8rows _) hT.nil (oneU _) (by show (0+k)*1<=_;omega) (by show 0+k<=_;simp only[maxLen];omega) fun s2 h3 _ hs=>?_;replace hs:St h h3 [.sl s2 5 1 ((B.take k).map u8C)]:=hs;have h2:∀ {hX:Heap} {L:List It},St h hX (.sl s2 5 1 ((B.take k).map u8C)::L)->RL hX 1 s2 u8C (B.take k):=fun hs=>hs.rl 0 rfl (by decide) (by rw[Yu];omega);refine⟨⟨by omega,by omega,by omega⟩,?_⟩;have fin:∀ {hX:Heap} {L:List It},St h hX (.sl s2 5 1 ((B.take k).map u8C)::L)->sB (!(ByteArray.toList (bs (toB (eight (hsh (B.take k)))))==ByteArray.toList (bs (toB (B.drop k))))) (OpnV B h (.tuple ⟨[.slice none 0 0,.int .i64 5]⟩) hX) (OpnV B h (.tuple ⟨[.slice s2.a s2.n s2.c,.int .i64 0]⟩) hX):=fun {hX L} hs=>by
   refine sB_not (sBs (fun c=>?_) (fun c=>?_))
   .have e:openS B=(0,B.take k):=by
     unfold openS;rw[if_neg (by omega),show B.length-8=k by omega,if_neg (fun h=>h (toB_inj (eight_byt _) hbD c))]
    exact⟨s2,by rw[e],by rw[e];exact hs.sub (.cons_cons _ (List.nil_sublist _))⟩
   .have e:openS B=(5,[]):=by
     unfold openS;rw[if_neg (by omega),show B.length-8=k by omega,if_pos (fun h=>c (by rw[h]))]
    exact⟨⟨none,0,0⟩,by rw[e],by rw[e];exact (hs.sub (List.nil_sublist _)).nil_ 5 1⟩
  have cvD:∀ {hX:Heap} {L:List It},St h hX L->RunW Pz (Go.convert 54 9 (.slice (subA p.a (Int.toNat (k:Int)) p.c 1) (Int.toNat (p.n:Nat)-Int.toNat (k:Int)) (p.c-Int.toNat (k:Int)))) hX fun v h'=>v=.string (bs (toB (B.drop k)))/\h'=hX:=fun hs=>cv_rl (hD.ext hs.ext) hbD;have cv8:∀ {hX:Heap} {s8:Sl} {L:List It},St h hX L->It.sl s8 5 1 ((eight (hsh (B.take k))).map u8C)∈L->RunW Pz (Go.convert 54 9 (.slice s8.a s8.n s8.c)) hX fun v h'=>v=.string (bs (toB (eight (hsh (B.take k)))))/\h'=hX:=fun hs hm=>cv_rl (hs.rlm hm (by decide) (by show 8<=_;decide)) (eight_byt _);have m8:∀(s8:Sl),It.sl s8 5 1 ((eight (hsh (B.take k))).map u8C)∈[It.sl s2 5 1 ((B.take k).map u8C)]++[.sl s8 5 1 ((eight (hsh (B.take k))).map u8C)]:=fun s8=>by simp
  have hl:=hsh_lt (B.take k);refine⟨?_,?_⟩
  .refine (of138 s2 (B.take k) _ (h2 hs) hbT).mono ?_;rintro _ _ ⟨rfl,rfl⟩;refine⟨_,rfl,?_,?_⟩
   .refine (eight137 _ _ hl).mono ?_;rintro _ h9 ⟨s8,rfl,hs8⟩;have hs:=hs.join hs8;refine⟨s8,rfl,?_,?_⟩
    .refine (cv8 hs (m8 s8)).mono ?_;rintro _ _ ⟨rfl,rfl⟩;refine⟨_,rfl,(cvD hs).mono ?_⟩;rintro _ _ ⟨rfl,rfl⟩;exact⟨_,rfl,fin hs⟩
    .refine (cvD hs).mono ?_;rintro _ _ ⟨rfl,rfl⟩;refine⟨_,rfl,(cv8 hs (m8 s8)).mono ?_⟩;rintro _ _ ⟨rfl,rfl⟩;exact⟨_,rfl,fin hs⟩
   .refine (cvD hs).mono ?_;rintro _ _ ⟨rfl,rfl⟩;refine⟨_,rfl,(eight137 _ _ hl).mono ?_⟩;rintro _ h9 ⟨s8,rfl,hs8⟩;have hs:=hs.join hs8;refine⟨s8,rfl,(cv8 hs (m8 s8)).mono ?_⟩;rintro _ _ ⟨rfl,rfl⟩;exact⟨_,rfl,fin hs⟩
  .refine (cvD hs).mono ?_;rintro _ _ ⟨rfl,rfl⟩;refine⟨_,rfl,(of138 s2 (B.take k) _ (h2 hs) hbT).mono ?_⟩;rintro _ _ ⟨rfl,rfl⟩;refine⟨_,rfl,(eight137 _ _ hl).mono ?_⟩;rintro _ h9 ⟨s8,rfl,hs8⟩;have hs:=hs.join hs8;refine⟨s8,rfl,(cv8 hs (m8 s8)).mono ?_⟩;rintro _ _ ⟨rfl,rfl⟩;exact⟨_,rfl,fin hs⟩
theorem Sm.two {a b:Addr} {h h':Heap} (h1:Sm [a] h h') (h2:Sm [b] h h'):Sm [a,b] h h':=fun x hx k v hv=>by
 rcases Yr.1 hx with rfl | hx
 .exact h1 _ Yx k v hv
 .exact h2 x hx k v hv
structure FewT (C:List Cf):Prop where
 n:C.length<=120
 c:∀c∈C,c.1.length<=10/\c.2.length<=50/\∀q∈c.2,q.length<=10
def I64T (C:List Cf):Prop:=∀c∈C,(∀x∈c.1,I64 x)/\∀q∈c.2,∀x∈q,I64 x
theorem FewT.enc {C:List Cf} (hF:FewT C) (hI:I64T C) {c:Cf} (hc:c∈C):EncOk c.1 c.2:=by
 obtain⟨h1,h2,h3⟩:=hF.c c hc;obtain⟨h4,h5⟩:=hI c hc;exact⟨h4,fun q hq=>⟨by have:=h3 q hq;omega,h5 q hq⟩,by omega,by omega⟩
theorem FewT.len {C:List Cf} (hF:FewT C) (hI:I64T C) {c:Cf} (hc:c∈C):(encC c.1 c.2).length<=5630:=by
 obtain⟨h1,h2,h3⟩:=hF.c c hc;obtain⟨h4,h5⟩:=hI c hc;unfold encC;rw[Yh,Yh];have a1:=encL_len h4 (by omega);have a2:=encI_len (n:=(c.2.length:Int)) ⟨by omega,by omega⟩;have a3:=flat_len (f:=encL) (c:=110) c.2 fun q hq=>by
  have:=encL_len (h5 q hq) (by have:=h3 q hq;omega);have:=h3 q hq;omega
 omega
theorem FewT.flat {C:List Cf} (hF:FewT C) (hI:I64T C) (i:Nat):((C.take i).flatMap fun c=>encC c.1 c.2).length<=675600:=by
 have h1:=flat_len (f:=fun c:Cf=>encC c.1 c.2) (c:=5630) (C.take i) fun c hc=>hF.len hI (List.mem_of_mem_take hc);have h2:(C.take i).length<=120:=by rw[Yu];have:=hF.n;omega
 omega
theorem magic_len:magicC.length=5:=rfl
def bodyT (k:Int) (C:List Cf):List Int:=magicC++encT k C
theorem bodyT_byt (k:Int) (C:List Cf):Byt (bodyT k C):=fun x hx=>by
 unfold bodyT encT at hx;rcases Yk.1 hx with h | h
 .have key:∀y∈magicC,0<=y/\y<256:=by decide
  exact key x h
 .rcases Yk.1 h with h | h
  .exact encI_byte x h
  .rcases Yk.1 h with h | h
   .exact encI_byte x h
   .exact flat_byte (fun _=>encC_byte) C x h
theorem few21T (C:List Cr) (cs:Sl) (k:Int) (h:Heap) (hC:CtI h cs C) :
  Fn Pz 21 #[.agg ⟨[.int .i64 k,.slice cs.a cs.n cs.c]⟩] h fun v h'=>∃b:Bool,v=.bool b/\(b=true->FewT (C.map Cr.cf))/\Ext h h':=by
 apply vc21 k cs;unfold W21;have hn:=hC.r.ln;have hm:=hC.r.sm;refine (St.refl h).newb fun h3 hs=>?_;refine up_loopS (n:=cs.n) hs (fun i=>∀(j:Nat) (x:Cr),j<i->C[j]?=some x->FewC [] x.S (x.B.map Bx.l)) (fun j x hj=>by omega) ?_;rintro-i h8 hi ⟨hs,hq⟩;refine⟨cs,hs.rd 0 rfl (i:=1) rfl,sB_intro (fun c=>?_) (fun c=>?_)⟩
 .replace c:=lt_t c;refine⟨cs,hs.rd 0 rfl (i:=1) rfl,?_⟩;refine (hC.r.rw.ext hs.ext).nbI (by omega) (by omega) fun b3 o3 x gx t3=>?_;replace gx:C[i]?=some x:=gx;refine⟨x.c1,x.c2,t3,?_⟩;refine (fewC13 [] ⟨none,0,0⟩ x.c1 x.c2 x.S x.B h8 sy_nil ((hC.ext hs.ext).i x (Yb gx))).mono ?_;rintro _ h17 ⟨⟨b',rfl,hb'⟩,E⟩;have hs:=hs.step E;refine⟨_,rfl,sB_intro (fun c2=>⟨false,rfl,(fun e=>by cases e),hs.ext⟩) (fun c2=>Up.next c (by omega) ⟨hs,fun j y hj hy=>?_⟩)⟩;by_cases e:j=i
  .subst e;rw[gx] at hy;cases hy;exact hb'.1 (bT c2)
  .exact hq j y (by omega) hy
 .replace c:=lt_f c;refine⟨cs,hs.rd 0 rfl (i:=1) rfl,_,rfl,(fun e=>?_),hs.ext⟩;refine⟨by rw[Yc];have:=Yyn e;omega,fun d hd=>?_⟩;obtain⟨x,hx,rfl⟩:=Yp.1 hd;obtain⟨j,hj⟩:=Yf.1 hx;have hF:=hq j x (by have:=(Ya.1 hj).1;omega) hj;exact⟨hF.n.2.1,hF.n.2.2,hF.b⟩
theorem encode28 (C:List Cr) (cs:Sl) (k:Int) (h:Heap) (hC:CtI h cs C) (hk:I64 k) (hF:FewT (C.map Cr.cf)) (hI:I64T (C.map Cr.cf)) :
  Fn Pz 28 #[.agg ⟨[.int .i64 k,.slice cs.a cs.n cs.c]⟩] h fun v h'=>∃s:Sl,v=.slice s.a s.n s.c/\St h h' [.sl s 5 1 ((sealB (bodyT k (C.map Cr.cf))).map u8C)]:=by
 apply vc28 k cs;unfold W28;have hn:=hC.r.ln;have hcl:(C.map Cr.cf).length=C.length:=Yc _;have hC1:=hF.n;have hin:I64 (cs.n:Int):=⟨by omega,by omega⟩;have l1:=encI_len hk;have l2:=encI_len hin;refine (St.refl h).newb fun h3 hs=>?_;refine⟨k,hs.rd 0 rfl (i:=0) rfl,cs,hs.rd 0 rfl (i:=1) rfl,?_⟩;have hs3:=hs;refine hs.newb fun h6 hs=>?_;refine⟨(hs3.smbO hs 0 1 1 rfl rfl).two (hs3.smbO hs 0 1 0 rfl rfl),?_⟩;refine (cvS hs 5).mono ?_;rintro _ h9 ⟨rfl,hs9,hat,-⟩;refine⟨⟨some ⟨h3.size,0,none⟩,5,5⟩,rfl,(hs.smbO hs9 1 0 1 rfl rfl).two (hs.smbO hs9 1 0 0 rfl rfl),?_⟩;have hs6:=hs9;refine (int69F ⟨h3.size,0,none⟩ magicC k h h9 _ hs9 hat hk (by decide)).mono ?_;rintro _ h12 ⟨b1,rfl,hs⟩;refine⟨b1,rfl,hs6.smbO hs 0 1 1 rfl rfl,?_⟩;refine (int65 b1 _ (cs.n:Int) h h12 _ hs hin (by rw[Yh,magic_len];omega)).mono ?_;rintro _ h15 ⟨b2,rfl,hs⟩;refine⟨b2,rfl,cs,hs.rd 1 rfl (i:=1) rfl,?_⟩;refine⟨fun b x h' μ=>∃i:Nat,x=(i:Int)/\μ=C.length-i/\i<=C.length/\St h h' [.sl b 5 1 ((magicC++encI k++encI (cs.n:Int)++((C.map Cr.cf).take i).flatMap fun c=>encC c.1 c.2).map u8C)],⟨_,0,rfl,rfl,Nat.zero_le _,by rw[Yyk,List.flatMap_nil,Yw];exact hs.eras 1⟩,?_⟩;clear hs hs3 hs6;rintro-b3 _ h22 μ ⟨i,rfl,rfl,hi,hs⟩;have hfl:=hF.flat hI i;have hlen:=(hs.rows 0 (s:=b3) (cs:=u8C) rfl (by decide)).ln;rw[Yh,Yh,Yh,magic_len] at hlen;refine sBi (fun c=>?_) (fun c=>?_)
 .refine (hC.r.rw.ext hs.ext).nbI (by omega) (by omega) fun b23 o24 x gx t=>?_;replace gx:C[i]?=some x:=gx;have gx1:(C.map Cr.cf)[i]?=some x.cf:=by rw[Yd,gx];rfl
  refine⟨x.c1,x.c2,t,?_⟩;refine hs.newput (vs:=[.slice x.c1.a x.c1.n x.c1.c,.slice x.c2.a x.c2.n x.c2.c]) rfl rfl fun h28 hs=>?_;refine⟨x.c1,x.c2,hs.at 0 rfl (o:=0) (n:=2) rfl,?_⟩;have hxl:=hF.len hI (Yb gx1);refine (encode35 x.c1 x.c2 x.S x.B h28 ((hC.ext hs.ext).i x (Yb gx)) (hF.enc hI (Yb gx1))).mono ?_;rintro _ h33 ⟨s32,rfl,hs1⟩;have hs:=hs.join hs1;have hb4:=(hs.rows 2 (s:=s32) (cs:=u8C) rfl (by decide));have hb4l:=hb4.ln;refine⟨s32,rfl,?_⟩;refine hs.appRw 1 (s:=b3) (y:=s32) rfl app48 hb4 (u8rows _) (hs.len 2 (s:=s32) (e:=5) (n:=1) rfl (by decide)).2.2 (oneU _) (by rw[hb4l];show (b3.n+(encC x.cf.1 x.cf.2).length)*1<=_;omega) (by rw[hb4l];show b3.n+(encC x.cf.1 x.cf.2).length<=_;simp only[maxLen];omega) fun s34 h35 _ hs=>?_;refine⟨_,(show C.length-(i+1)<C.length-i by omega),i+1,by rw[w64 (by omega) (by omega)];omega,rfl,by omega,?_⟩;rw[take_snoc gx1,List.flatMap_append,List.flatMap_cons,List.flatMap_nil,Yw,<-Yz,Ym (f:=u8C)];exact (hs.eras 2).drop 1
 .have hie:i=(C.map Cr.cf).length:=by omega
  rw[hie,Yye] at hs;have e:magicC++encI k++encI (cs.n:Int)++((C.map Cr.cf).flatMap fun c=>encC c.1 c.2)=bodyT k (C.map Cr.cf):=by
   unfold bodyT encT;rw[hcl,<-hn,Yz,Yz]
  rw[e] at hs;rw[hie,Yye] at hfl;have hbl:(bodyT k (C.map Cr.cf)).length<=1048576:=by
   rw[<-e,Yh,Yh,Yh,magic_len];omega
  refine (seal70 b3 _ h22 (hs.rl 0 rfl (by decide) hbl) (bodyT_byt _ _)).mono ?_;rintro _ h39 ⟨s38,rfl,hs1⟩;exact⟨s38,rfl,s38,rfl,(hs.join hs1).drop 1⟩
theorem refEncode31 (C:List Cr) (cs:Sl) (k:Int) (h:Heap) (hC:CtI h cs C) (hk:I64 k) (hF:FewT (C.map Cr.cf)) (hI:I64T (C.map Cr.cf)) :
  Fn Pz 31 #[.agg ⟨[.int .i64 k,.slice cs.a cs.n cs.c]⟩] h fun v h'=>∃s:Sl,v=.slice s.a s.n s.c/\St h h' [.sl s 5 1 ((sealB (bodyT k (C.map Cr.cf))).map u8C)]:=by
 apply vc31 k cs;unfold W31;have hn:=hC.r.ln;have hcl:(C.map Cr.cf).length=C.length:=Yc _;have hC1:=hF.n;have hin:I64 (cs.n:Int):=⟨by omega,by omega⟩;have l1:=encI_len hk;have l2:=encI_len hin;refine (St.refl h).newb fun h3 hs=>?_;refine hs.newb fun h4 hs=>?_;refine (cvS hs 5).mono ?_;rintro _ h9 ⟨rfl,hs,hat,-⟩;refine⟨⟨some ⟨h3.size,0,none⟩,5,5⟩,rfl,k,hs.rd 0 rfl (i:=0) rfl,?_⟩;refine (refInt83 k _ hk).mono ?_;rintro _ h11 ⟨b1,rfl,hs1⟩;have hat:=atC_ext' hs1.ext hat;have hs:=hs.join hs1;have r1:=hs.rl 1 (s:=b1) (cs:=u8C) rfl (by decide) (by omega);have r1l:=r1.ln;have p1:0<(encI k).length:=List.length_pos_iff.2 encI_pos;obtain⟨bb,oo,ha,hat1⟩:=r1.flat8 p1;refine⟨b1,rfl,?_⟩;show App Pz 54 54 _ (.slice b1.a b1.n b1.c) _ _;rw[ha];refine App_fullU (xs:=magicC) hs hat rfl hat1 r1l (by show 5<5+b1.n;omega) (by show 5+b1.n<=_;omega) fun s12 h13 n12 hs=>?_;replace n12:s12.n=5+b1.n:=n12;have hs:St h h13 [.sl s12 5 1 ((magicC++encI k).map u8C),.blk h.size [.int .i64 k,.slice cs.a cs.n cs.c] 37]:=hs.eras 2;refine⟨cs,hs.rd 1 rfl (i:=1) rfl,?_⟩;refine (refInt83 (cs.n:Int) _ hin).mono ?_;rintro _ h17 ⟨b2,rfl,hs2⟩;have hs:=hs.join hs2;have r2:=(hs.rows 2 (s:=b2) (cs:=u8C) rfl (by decide));have r2l:=r2.ln;refine⟨b2,rfl,?_⟩;refine hs.appRw 0 (s:=s12) (y:=b2) rfl app48 r2 (u8rows _) (hs.len 2 (s:=b2) (e:=5) (n:=1) rfl (by decide)).2.2 (oneU _) (by omega) (by simp only[maxLen];omega) fun s18 h19 n18 hs=>?_;rw[<-Ym] at hs;have hs:=hs.eras 2;refine⟨fun b x h' μ=>∃i:Nat,x=(i:Int)/\μ=C.length-i/\i<=C.length/\St h h' [.sl b 5 1 ((magicC++encI k++encI (cs.n:Int)++((C.map Cr.cf).take i).flatMap fun c=>encC c.1 c.2).map u8C),.blk h.size [.int .i64 k,.slice cs.a cs.n cs.c] 37],⟨_,0,rfl,rfl,Nat.zero_le _,by rw[Yyk,List.flatMap_nil,Yw];exact hs⟩,?_⟩;clear hs;rintro-b3 _ h22 μ ⟨i,rfl,rfl,hi,hs⟩;have hfl:=hF.flat hI i;have hlen:=(hs.rows 0 (s:=b3) (cs:=u8C) rfl (by decide)).ln;rw[Yh,Yh,Yh,magic_len] at hlen;refine⟨cs,hs.rd 1 rfl (i:=1) rfl,sBi (fun c=>?_) (fun c=>?_)⟩
 .refine⟨cs,hs.rd 1 rfl (i:=1) rfl,?_⟩;refine (hC.r.rw.ext hs.ext).nbI (by omega) (by omega) fun b23 o24 x gx t=>?_;replace gx:C[i]?=some x:=gx;have gx1:(C.map Cr.cf)[i]?=some x.cf:=by rw[Yd,gx];rfl
  refine⟨x.c1,x.c2,t,?_⟩;have hxl:=hF.len hI (Yb gx1);refine (refEncode84 x.c1 x.c2 x.S x.B h22 ((hC.ext hs.ext).i x (Yb gx)) (hF.enc hI (Yb gx1))).mono ?_;rintro _ h33 ⟨s32,rfl,hs1⟩;have hs:=hs.join hs1;have hb4:=(hs.rows 2 (s:=s32) (cs:=u8C) rfl (by decide));have hb4l:=hb4.ln;refine⟨s32,rfl,?_⟩;refine hs.appRw 0 (s:=b3) (y:=s32) rfl app48 hb4 (u8rows _) (hs.len 2 (s:=s32) (e:=5) (n:=1) rfl (by decide)).2.2 (oneU _) (by rw[hb4l];show (b3.n+(encC x.cf.1 x.cf.2).length)*1<=_;omega) (by rw[hb4l];show b3.n+(encC x.cf.1 x.cf.2).length<=_;simp only[maxLen];omega) fun s34 h35 _ hs=>?_;refine⟨_,(show C.length-(i+1)<C.length-i by omega),i+1,by rw[w64 (by omega) (by omega)];omega,rfl,by omega,?_⟩;rw[take_snoc gx1,List.flatMap_append,List.flatMap_cons,List.flatMap_nil,Yw,<-Yz,Ym (f:=u8C)];exact hs.eras 2
 .have hie:i=(C.map Cr.cf).length:=by omega
  rw[hie,Yye] at hs;have e:magicC++encI k++encI (cs.n:Int)++((C.map Cr.cf).flatMap fun c=>encC c.1 c.2)=bodyT k (C.map Cr.cf):=by
   unfold bodyT encT;rw[hcl,<-hn,Yz,Yz]
  rw[e] at hs;rw[hie,Yye] at hfl;have hbl:(bodyT k (C.map Cr.cf)).length<=1048576:=by
   rw[<-e,Yh,Yh,Yh,magic_len];omega
  refine (seal85 b3 _ h22 (hs.rl 0 rfl (by decide) hbl) (bodyT_byt _ _)).mono ?_;rintro _ h39 ⟨s38,rfl,hs1⟩;exact⟨s38,rfl,s38,rfl,(hs.join hs1).drop 2⟩
theorem fit_iff {c:Cr}:fitC c.cf=true ↔ (c.S.length:Int)<=6/\(c.B.length:Int)<=36/\∀q∈c.B,(q.l.length:Int)<=4:=by
 unfold fitC Cr.cf;simp only[Yt,decide_eq_true_eq,Yc,List.all_eq_true,Yp];exact⟨fun ⟨a,b,c⟩=>⟨a,b,fun q hq=>c q.l ⟨q,hq,rfl⟩⟩,fun ⟨a,b,c⟩=>⟨a,b,fun q ⟨y,hy,e⟩=>by rw[<-e];exact c y hy⟩⟩
theorem fits32 (C:List Cr) (cs:Sl) (k:Int) (h:Heap) (hC:CtI h cs C) :
  Fn Pz 32 #[.agg ⟨[.int .i64 k,.slice cs.a cs.n cs.c]⟩] h (RP ((C.map Cr.cf).all fitC=true) h):=by
 apply vc32 k cs;unfold W32;have hn:=hC.r.ln;have hm:=hC.r.sm;refine (St.refl h).newb fun h3 hs=>?_;refine up_loopS (n:=cs.n) hs (fun i=>∀(j:Nat) (x:Cr),j<i->C[j]?=some x->fitC x.cf=true) (fun j x hj=>by omega) ?_;rintro-i h8 hi ⟨hs,hq⟩;refine⟨cs,hs.rd 0 rfl (i:=1) rfl,sB_intro (fun c=>?_) (fun c=>?_)⟩
 .replace c:=lt_t c;refine⟨cs,hs.rd 0 rfl (i:=1) rfl,?_⟩;refine (hC.r.rw.ext hs.ext).nbI (by omega) (by omega) fun b3 o3 x gx t3=>?_;replace gx:C[i]?=some x:=gx;have hxm:=Yb gx;have hno:fitC x.cf≠true->¬(C.map Cr.cf).all fitC=true:=fun h1 h2=>h1 (List.all_eq_true.1 h2 _ (List.mem_map_of_mem hxm));have hx:=hC.i x hxm;have hsn:=hx.s.ln;have hbn:=hx.b.ln;have hbm:=hx.b.sm;refine⟨x.c1,x.c2,t3,?_⟩;refine hs.newput (vs:=[.slice x.c1.a x.c1.n x.c1.c,.slice x.c2.a x.c2.n x.c2.c]) rfl rfl fun h16 hs=>?_;refine⟨x.c1,hs.rd 0 rfl (i:=0) rfl,sBi (fun c1=>RP.f (hno fun hf=>by have:=(fit_iff.1 hf).1;omega) hs.ext) (fun c1=>?_)⟩;refine⟨x.c2,hs.rd 0 rfl (i:=1) rfl,sBi (fun c2=>RP.f (hno fun hf=>by have:=(fit_iff.1 hf).2.1;omega) hs.ext) (fun c2=>?_)⟩;refine up_loopS (n:=x.c2.n) hs (fun i=>∀(j:Nat) (q:Bx),j<i->x.B[j]?=some q->(q.l.length:Int)<=4) (fun j x hj=>by omega) ?_;rintro-k2 h23 hk2 ⟨hs,hq2⟩;refine⟨x.c2,hs.rd 0 rfl (i:=1) rfl,sB_intro (fun d=>?_) (fun d=>?_)⟩
  .replace d:=lt_t d;refine⟨x.c2,hs.rd 0 rfl (i:=1) rfl,?_⟩;refine (hx.b.rw.ext hs.ext).nbI (by omega) (by omega) fun b26 o27 q gq t=>?_;replace gq:x.B[k2]?=some q:=gq;have hqm:=Yb gq;have hql:=(hx.i q hqm).ln;refine⟨q.s,t.hd,sBi (fun c5=>RP.f (hno fun hf=>by have:=(fit_iff.1 hf).2.2 q hqm;omega) hs.ext) (fun c5=>?_)⟩;refine Up.next (by omega) (by omega) ⟨hs,fun j y hj hy=>?_⟩;by_cases e:j=k2
   .subst e;rw[gq] at hy;cases hy;omega
   .exact hq2 j y (by omega) hy
  .replace d:=lt_f d;refine Up.next c (by omega) ⟨hs.drop 1,fun j y hj hy=>?_⟩;by_cases e:j=i
   .subst e;rw[gx] at hy;cases hy;refine fit_iff.2 ⟨by omega,by omega,fun q hqm=>?_⟩;obtain⟨j2,hj2⟩:=Yf.1 hqm;exact hq2 j2 q (by have:=(Ya.1 hj2).1;omega) hj2
   .exact hq j y (by omega) hy
 .replace c:=lt_f c;refine RP.t (List.all_eq_true.2 fun d hd=>?_) hs.ext;obtain⟨x,hx,rfl⟩:=Yp.1 hd;obtain⟨j,hj⟩:=Yf.1 hx;exact hq j x (by have:=(Ya.1 hj).1;omega) hj
end Go.VC
end

section
namespace Go.VC
open Go.Proofs Go.LexS
theorem and127 {x:Nat} (hx:x<256):andI .u8 (x:Int) 127=((x%128:Nat):Int):=by
 unfold andI;have e:(BitVec.ofInt (IntKind.bits .u8) (x:Int)&&&BitVec.ofInt (IntKind.bits .u8) 127).toNat=x%128:=by
  show (BitVec.ofInt 8 (x:Int)&&&BitVec.ofInt 8 ((127:Nat):Int)).toNat=_;rw[BitVec.ofInt_natCast,BitVec.ofInt_natCast,BitVec.toNat_and,BitVec.toNat_ofNat,BitVec.toNat_ofNat,Nat.mod_eq_of_lt hx];exact Nat.and_two_pow_sub_one_eq_mod x 7
 rw[e,wu8 (by omega) (by omega)]
theorem orU {a b:Nat} (ha:a<2^64) (hb:b<2^64):orI .u64 (a:Int) (b:Int)=((a|||b:Nat):Int):=by
 unfold orI;have e:(BitVec.ofInt (IntKind.bits .u64) (a:Int)|||BitVec.ofInt (IntKind.bits .u64) (b:Int)).toNat=a|||b:=by
  show (BitVec.ofInt 64 (a:Int)|||BitVec.ofInt 64 (b:Int)).toNat=_;rw[BitVec.ofInt_natCast,BitVec.ofInt_natCast,BitVec.toNat_or,BitVec.toNat_ofNat,BitVec.toNat_ofNat,Nat.mod_eq_of_lt ha,Nat.mod_eq_of_lt hb]
 rw[e];have:=Nat.or_lt_two_pow ha hb;exact wu64 (by omega) (by omega)
theorem shlU {a k:Nat} (hk:k<64) (ha:a*2^k<18446744073709551616):shlI .u64 (a:Int) (k:Int)=((a*2^k:Nat):Int):=by
 unfold shlI;have e:min (Int.toNat (k:Int)) (IntKind.bits .u64)=k:=by simp[IntKind.bits];omega
 rw[e];have e2:(a:Int)*2^k=((a*2^k:Nat):Int):=by simp
 rw[e2];exact wu64 (Int.natCast_nonneg _) (by omega)
theorem acc_bits {a i c:Nat} (hi:i<=9) (hc:c<256) (ha:a<128^i) (h9:i=9->c%128<=1) :
  orI .u64 (a:Int) (shlI .u64 (IntKind.wrap .u64 (andI .u8 (c:Int) 127)) (IntKind.wrap .i64 (7*(i:Int))))=((a+128^i*(c%128):Nat):Int)/\a+128^i*(c%128)<(if i=9 then 18446744073709551616 else 128^(i+1)):=by
 have e128:128^i=2^(7*i):=by rw[Nat.pow_mul]
 have hb:a+128^i*(c%128)<(if i=9 then 18446744073709551616 else 128^(i+1)):=by
  split
  .rename_i h;subst h;have:=h9 rfl;have e:128^9=9223372036854775808:=by decide
   rw[e] at ha ⊢;omega
  .rw[Nat.pow_succ];have h1:c%128<=127:=by omega
   have h2:=Nat.mul_le_mul_left (128^i) h1;omega
 have hlt:a+128^i*(c%128)<18446744073709551616:=by
  refine Nat.lt_of_lt_of_le hb ?_;split
  .exact Yyt _
  .have:128^(i+1)<=128^9:=Nat.pow_le_pow_right (by decide) (by omega);have e:128^9=9223372036854775808:=by decide
   omega
 refine⟨?_,hb⟩;rw[and127 hc,wu64 (n:=((c%128:Nat):Int)) (by omega) (by omega),w64 (by omega) (by omega),show 7*(i:Int)=((7*i:Nat):Int) by omega,shlU (by omega) (by rw[<-e128,Nat.mul_comm];omega),orU (by omega) (by rw[<-e128,Nat.mul_comm];omega)];congr 1;rw[Nat.or_comm,Nat.mul_comm (c%128),<-Nat.two_pow_add_eq_or_of_lt (by rw[<-e128];exact ha),<-e128,Nat.add_comm]
theorem zag_bits {u:Nat} (hu:u<18446744073709551616):xorI .i64 (IntKind.wrap .i64 (shrI .u64 (u:Int) 1)) (IntKind.wrap .i64 (0-(IntKind.wrap .i64 (andI .u64 (u:Int) 1))))=zag u:=by
 have e1:shrI .u64 (u:Int) 1=((u/2:Nat):Int):=shr_nat (w:=u) (k:=1) (by decide);rw[e1,and_one (by omega),w64 (n:=((u/2:Nat):Int)) (by omega) (by omega),w64 (n:=((u%2:Nat):Int)) (by omega) (by omega),w64 (by omega) (by omega)];unfold zag xorI;generalize hm:u/2=m;have hmlt:m<9223372036854775808:=by omega
 by_cases h:u%2=0
 .rw[h,if_pos rfl];have e:(BitVec.ofInt (IntKind.bits .i64) (m:Int) ^^^ BitVec.ofInt (IntKind.bits .i64) (0-((0:Nat):Int))).toNat=m:=by
   show (BitVec.ofInt 64 (m:Int) ^^^ BitVec.ofInt 64 ((0:Nat):Int)).toNat=_;rw[BitVec.ofInt_natCast,BitVec.ofInt_natCast,BitVec.toNat_xor,BitVec.toNat_ofNat,BitVec.toNat_ofNat,Nat.mod_eq_of_lt (by omega),Nat.zero_mod,Nat.xor_zero]
  rw[e,w64 (by omega) (by omega)]
 .rw[show u%2=1 by omega,if_neg (by decide)];have e:(BitVec.ofInt (IntKind.bits .i64) (m:Int) ^^^ BitVec.ofInt (IntKind.bits .i64) (0-((1:Nat):Int))).toNat=18446744073709551615-m:=by
   show (BitVec.ofInt 64 (m:Int) ^^^ BitVec.ofInt 64 (-1)).toNat=_;have h2:(BitVec.ofNat 64 m ^^^ BitVec.allOnes 64).toNat=(~~~ (BitVec.ofNat 64 m)).toNat:=by rw[BitVec.xor_allOnes]
   rw[BitVec.toNat_not,BitVec.toNat_ofNat,Nat.mod_eq_of_lt (show m<2^64 by omega)] at h2;rw[BitVec.ofInt_natCast];exact h2
  rw[e];have e2:((18446744073709551615-m:Nat):Int)=18446744073709551615-(m:Int):=by omega
  rw[e2];simp[IntKind.wrap,IntKind.signed,IntKind.bits];omega
end Go.VC
end
