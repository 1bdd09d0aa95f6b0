/- KeG KeH KeI KwVeJ KeJ KeSort KwVeC KeK KwAf KwVcR KwAg KeL0 KeL KeR0 KeM KwVeD KeN0 KeN. -/
import Derived.Test.YtknallccojglcaaGreatDoorM25
set_option linter.unusedVariables false
set_option linter.unusedSimpArgs false
set_option maxRecDepth 100000

section
namespace Go.VC
open Go.Proofs Go.LexS
set_option maxHeartbeats 3200000 in
theorem bad35 (L:List MR) (s:Sl) (k:Int) (eb wb:Nat) (ss sb:Sl) (S:List Int) (B:List Bx) (nz:Bool) (K:List (Wt × Bool)) (osl:Sl) (os:Nat->Sl) (qs:Nat->Nat->Sl) {h0 h:Heap} {A:List It} (hs:St h0 h (.mp wb (K.map wtC)::A)) (hS:SyI h0 s L)
  (hE:Sta A fun h=>EngX h eb wb s k L osl os qs) (hC:CfN A ss sb S B) (hP:ProS (L.map MR.m) k S (B.map Bx.l)) (hK:WtOk L K) (hnz:nz=true ↔ stepsS (L.map MR.m) k S (B.map Bx.l)≠[]) :
  Fn Pz 35 #[.pointer (some ⟨eb,0,none⟩),.agg ⟨[.slice ss.a ss.n ss.c,.slice sb.a sb.n sb.c]⟩,.bool nz] h fun v h'=>∃K':List (Wt × Bool),v=.int .i64 (badS (L.map MR.m) k S (B.map Bx.l))/\WtOk L K'/\St h0 h' (.mp wb (K'.map wtC)::A):=by
 apply vc35 ⟨eb,0,none⟩ ss sb nz;unfold W35;have hn:=hS.r.ln;have hlm:(L.map MR.m).length=s.n:=by rw[Yc,hn]
 have hbm:(B.map Bx.l).length=B.length:=Yc _;have hV6:=hP.v.n;rw[hlm] at hV6;have hSl:S.length=s.n:=by rw[hP.p.s,hlm]
 have hBl:B.length=s.n*s.n:=by rw[<-hbm,hP.p.b,hlm]
 have h36:=sq6 hV6.2;refine hs.newb fun h3 hs=>?_;have hsn:=((hC.at hs mem2).s).ln;have hbn:=((hC.at hs mem2).b).ln;refine⟨s,(hE.at hs mem2).e.hd,sb,hs.rd 0 rfl (i:=1) rfl,?_⟩;refine⟨fun x h' μ=>∃(i:Nat) (K':List (Wt × Bool)),x=(i:Int)/\μ=sb.n-i/\i<=sb.n/\St h0 h' (.blk h.size [.slice ss.a ss.n ss.c,.slice sb.a sb.n sb.c] 50 :: .mp wb (K'.map wtC)::A)/\WtOk L K'/\∀j<i,¬UnxI (L.map MR.m) S (B.map Bx.l) j,⟨_,0,K,rfl,rfl,Nat.zero_le _,hs,hK,fun j hj=>by omega⟩,?_⟩;clear hs hK;rintro-_ h10 μ ⟨i,K',rfl,rfl,hi,hs,hK,hq⟩;have hCc:=hC.at hs mem2;refine sBi (fun c1=>?_) (fun c1=>?_)
 ·obtain⟨q,gq⟩:=get_some (l:=B) (i:=i) (by omega);have gq1:(B.map Bx.l)[i]?=some q.l:=by rw[Yd,gq];rfl
  have hqi:=hCc.i q (Yb gq);have hqn:=hqi.ln;refine hCc.b.rw.nbI (by omega) (by omega) fun b11 o12 q' gq' t=>?_;rw[Ys,gq] at gq';cases gq';refine⟨q.s,t.hd,sBi (fun c2=>?_) (fun c2=>?_)⟩
  ·have hmod:i%s.n<s.n:=Nat.mod_lt _ (by omega);have em:Int.tmod (i:Int) (s.n:Int)=((i%s.n:Nat):Int):=rfl;have hdl:i/s.n<=i:=Nat.div_le_self _ _;have hd0:(-9223372036854775808:Int)<=((i/s.n:Nat):Int):=Int.le_trans (by decide) (Int.natCast_nonneg _);have hd1:((i/s.n:Nat):Int)<=9223372036854775807:=Int.le_trans (Int.ofNat_le.2 hdl) (by omega);have ed:IntKind.wrap .i64 (Int.tdiv (i:Int) (s.n:Int))=((i/s.n:Nat):Int):=by rw[tdiv_nat,w64 hd0 hd1]
   rw[em,ed];obtain⟨y,gy⟩:=get_some (l:=L) (i:=i%s.n) (by omega);have gm:(L.map MR.m)[i%s.n]?=some y.m:=by rw[Yd,gy];rfl
   refine⟨by omega,ss,hs.rd 0 rfl (i:=0) rfl,by omega,?_⟩;refine hCc.s.rw.nbI (by omega) (by omega) fun b15 o16 z gz t3=>?_;rw[Ys] at gz;replace gz:S[i%s.n]?=some z:=gz;refine⟨z,t3.hd,by omega,?_⟩;refine hqi.rw.nbI (by decide) (by omega) fun b18 o19 x gx t4=>?_;replace gx:q.l[0]?=some x:=gx;have hxr:=((hP.p.bx i q.l gq1).2.2 x (Yb gx));refine⟨x,t4.hd,?_⟩;refine (expected70 L s k eb wb (i%s.n) y z _ x K' osl os qs (hs.perm (List.Perm.swap _ _ _)) hS hP.v (hE.mono mem1) hK gy (hP.p.st _ z y.m gz gm) (show inR ((i/s.n:Nat):Int) from ⟨hd0,hd1⟩) (show inR x from ⟨by omega,by omega⟩)).mono ?_;rintro _ h23 ⟨b3,K2,rfl,hb3,hK2,hs2⟩;have hs:=hs2.perm (List.Perm.swap _ _ _);have hui:=unx_iff (L:=L.map MR.m) (S:=S) gq1 (by rw[hlm];exact gm) (by rw[hlm];exact gz) gx;rw[hlm] at hui;refine⟨b3,rfl,sB_intro (fun c3=>?_) (fun c3=>?_)⟩
   ·have hu:=hui.2 fun he=>iff_f hb3 (bF c3) he;exact⟨K2,by rw[badS_1 hu],hK2,hs.drop 1⟩
   ·refine⟨_,(show sb.n-(i+1)<sb.n-i by omega),i+1,K2,by rw[w64 (by omega) (by omega)];omega,rfl,by omega,hs,hK2,fun j hj=>?_⟩;by_cases e:j=i
    ·subst e;exact fun hu=>hui.1 hu (hb3.1 (bT c3))
    ·exact hq j (by omega)
  ·refine⟨_,(show sb.n-(i+1)<sb.n-i by omega),i+1,K',by rw[w64 (by omega) (by omega)];omega,rfl,by omega,hs,hK,fun j hj=>?_⟩;by_cases e:j=i
   ·subst e;rintro⟨b',l',m',s',h1,-⟩;rw[gq1] at h1;have h2:=congrArg List.length (Yyp h1);rw[Yyj] at h2;omega
   ·exact hq j (by omega)
 ·have hno:=unx_none (show sb.n=(B.map Bx.l).length by omega) fun j hj=>hq j (by omega);refine sB_intro (fun c2=>?_) (fun c2=>?_)
  ·have hnn:stepsS (L.map MR.m) k S (B.map Bx.l)=[]:=Classical.byContradiction fun h=>by have:=hnz.2 h;rw[this] at c2;cases c2
   refine⟨ss,sb,hs.at 0 rfl (o:=0) (n:=2) rfl,?_⟩;refine (final71 L s k eb ss sb S B h10 (hS.ext hs.ext) (hE.at hs mem2).r hCc hP).mono ?_;rintro _ h30 ⟨⟨b2,rfl,hb2⟩,E⟩;have hs:=hs.step E;refine⟨b2,rfl,sB_intro (fun c3=>?_) (fun c3=>?_)⟩
   ·exact⟨K',by rw[badS_2 hno (fun hf=>iff_f hb2 (bF c3) hf) hnn],hK,hs.drop 1⟩
   ·exact⟨K',by rw[badS_0 hno (.inl (hb2.1 (bT c3)))],hK,hs.drop 1⟩
  ·exact⟨K',by rw[badS_0 hno (.inr (hnz.1 (bT c2)))],hK,hs.drop 1⟩
set_option maxHeartbeats 1600000 in
theorem reverse72 (X:List (Nat × Nat)) (s:Sl) {h0 h:Heap} {A:List It} (hs:St h0 h (.sl s 48 2 (X.map stpC)::A)) (hl:X.length<=1048576) :
  Fn Pz 72 #[.slice s.a s.n s.c] h fun v h'=>v=.tuple ⟨[]⟩/\St h0 h' (.sl s 48 2 (X.reverse.map stpC)::A):=by
 apply vc72 s;unfold W72;have hn:=(hs.rows 0 (s:=s) (cs:=stpC) rfl (by omega)).ln;refine⟨fun i j h' μ=>∃(a:Nat) (Y:List (Nat × Nat)),i=(a:Int)/\j=(s.n:Int)-1-(a:Int)/\μ=s.n-a/\2*a<=s.n/\Y.length=X.length/\(∀t,t<s.n->Y[t]?=if t<a\/s.n-a<=t then X[s.n-1-t]? else X[t]?)/\St h0 h' (.sl s 48 2 (Y.map stpC)::A),⟨_,0,X,rfl,by rw[w64 (by omega) (by omega)];omega,rfl,by omega,rfl,fun t ht=>by rw[if_neg (by omega)],hs⟩,?_⟩;clear hs;rintro-_ _ h6 μ ⟨a,Y,rfl,rfl,rfl,ha,hY,hq,hs⟩;refine sBi (fun c=>?_) (fun c=>?_)
 ·have ej:(s.n:Int)-1-(a:Int)=((s.n-1-a:Nat):Int):=by omega
  rw[ej];obtain⟨b,hb⟩:∃b,b=s.n-1-a:=⟨_,rfl⟩;rw[<-hb];obtain⟨x,gx⟩:=get_some (l:=Y) (i:=b) (by omega);obtain⟨y,gy⟩:=get_some (l:=Y) (i:=a) (by omega);refine (hs.rows 0 (s:=s) (cs:=stpC) rfl (by omega)).nbI (by omega) (by omega) fun b7 o8 x' gx' t=>?_;rw[Ys,gx] at gx';cases gx';refine⟨(x.1:Int),(x.2:Int),t,?_⟩;refine (hs.rows 0 (s:=s) (cs:=stpC) rfl (by omega)).nbI (by omega) (by omega) fun b11 o12 y' gy' t2=>?_;rw[Ys,gy] at gy';cases gy';refine⟨(y.1:Int),(y.2:Int),t2,?_⟩;refine hs.set 0 (s:=s) (cs:=stpC) (x:=(a:Int)) rfl (by omega) (by omega) (by omega) x rfl rfl (fun b15 o16 h17 hs=>?_) rfl;rw[Ys] at hs;refine hs.set 0 (s:=s) (cs:=stpC) (x:=(b:Int)) rfl (by omega) (by omega) (by omega) y rfl rfl (fun b18 o19 h20 hs=>?_) rfl;rw[Ys] at hs;refine⟨_,(show s.n-(a+1)<s.n-a by omega),a+1,(Y.set a x).set b y,by rw[w64 (by omega) (by omega)];omega,by rw[w64 (by omega) (by omega)];omega,rfl,by omega,by rw[Yyh,Yyh,hY],fun w ht=>?_,hs⟩;have hab:a<b:=by omega
  have h1:=hq a (by omega);have h2:=hq b (by omega);rw[gy,if_neg (by omega)] at h1;rw[gx,if_neg (by omega)] at h2;by_cases e1:w=b
  ·rw[e1,Yq (by rw[Yyh];omega),if_pos (by omega),show s.n-1-b=a by omega];exact h1
  ·rw[Yy (Ne.symm e1)];by_cases e2:w=a
   ·rw[e2,Yq (by omega),if_pos (by omega),show s.n-1-a=b by omega];exact h2
   ·rw[Yy (Ne.symm e2),hq w ht];by_cases e3:w<a\/s.n-a<=w
    ·rw[if_pos e3,if_pos (by omega)]
    ·rw[if_neg e3,if_neg (by omega)]
 ·have hYX:Y=X.reverse:=by
   refine Yyr fun t=>?_;by_cases ht:t<s.n
   ·rw[List.getElem?_reverse (by omega),hq t ht,<-hn];by_cases e3:t<a\/s.n-a<=t
    ·rw[if_pos e3]
    ·rw[if_neg e3,show s.n-1-t=t by omega]
   ·rw[Yl (by omega),Yl (by rw[List.length_reverse];omega)]
  rw[hYX] at hs;exact⟨rfl,hs⟩
structure Vs where
 c1:Sl
 c2:Sl
 S:List Int
 B:List Bx
 ah:Int
 a:Nat
 b:Nat
 tr:List (Nat × Nat)
def Vs.cs (v:Vs):List Value:=[.slice v.c1.a v.c1.n v.c1.c,.slice v.c2.a v.c2.n v.c2.c,.int .i64 v.ah,.int .i64 (v.a:Int),.int .i64 (v.b:Int)]
def TrOk (V:List Vs):Prop:=∀(j:Nat) (v:Vs),V[j]?=some v->v.tr.length<=j/\((v.ah=-1/\v.tr=[])\/∃(p:Nat) (u:Vs),p<j/\V[p]?=some u/\v.ah=(p:Int)/\v.tr=u.tr++[(v.a,v.b)])
set_option maxHeartbeats 1600000 in
theorem trace36 (V:List Vs) (s:Sl) (i:Nat) (v0:Vs) (h:Heap) (hr:Rw h 5 s (V.map Vs.cs)) (hl:V.length<=1048576) (g0:V[i]?=some v0) (hT:TrOk V) :
  Fn Pz 36 #[.slice s.a s.n s.c,.int .i64 (i:Int)] h fun v h'=>∃r:Sl,v=.slice r.a r.n r.c/\St h h' [.sl r 48 2 (v0.tr.map stpC)]:=by
 apply vc36 s (i:Int);unfold W36;have hn:=hr.ln;have h0l:=(hT i v0 g0).1;have hil:=(Ya.1 g0).1;have hs:=(St.refl h).nil_ 48 2;refine⟨fun x out h' μ=>∃(j:Nat) (u:Vs) (O:List (Nat × Nat)),x=(j:Int)/\μ=j/\V[j]?=some u/\u.tr++O.reverse=v0.tr/\St h h' [.sl out 48 2 (O.map stpC)],⟨_,i,v0,[],rfl,rfl,g0,by simp,hs⟩,?_⟩;clear hs;rintro-_ out h6 μ ⟨j,u,O,rfl,hμ,gu,ho,hs⟩;have hjl:=(Ya.1 gu).1;have hol:O.length<=V.length:=by
  have:=congrArg List.length ho;rw[Yh,List.length_reverse] at this;omega
 have hon:=(hs.rows 0 (s:=out) (cs:=stpC) rfl (by omega)).ln;have rd:∀ {h':Heap} {F:Nat->Nat->Prop},Ext h h'->(∀b o,atC h' ⟨b,o+Int.toNat (j:Int)*5,none⟩ u.cs->F b o)->NB s.a fun b o=>(0<=(j:Int)/\(j:Int)<(s.n:Nat))/\F b o:=fun E hF=>
  (hr.ext E).nbI (by omega) (by omega) fun b o u' gu' t=>by
   rw[Ys,gu] at gu';cases gu';exact hF b o t
 refine rd hs.ext fun b7 o8 t=>?_;refine⟨u.ah,t.nth 2 rfl,sBi (fun c=>?_) (fun c=>?_)⟩
 ·rcases (hT j u gu).2 with ⟨e1,_⟩ | ⟨p,w,hp,gw,e1,e2⟩
  ·omega
  ·refine rd hs.ext fun b10 o11 t=>?_;refine⟨(u.a:Int),(u.b:Int),t.sub 3 2 rfl,?_⟩;refine hs.app 0 (s:=out) (n:=2) (rows:=O.map stpC) rfl app30e (m:=1) [stpC (u.a,u.b)] rfl rfl (by simp[stpC,stC]) rfl (by omega) (by simp only[maxLen];omega) fun r h16 nr hs=>?_;refine rd hs.ext fun b17 o18 t=>?_;refine⟨u.ah,t.nth 2 rfl,p,by omega,p,w,O++[(u.a,u.b)],e1,rfl,gw,?_,by rw[Ym];exact hs⟩;rw[<-ho,e2,List.reverse_append,Yz];rfl
 ·rcases (hT j u gu).2 with ⟨e1,e2⟩ | ⟨p,w,hp,gw,e1,e2⟩
  ·refine (reverse72 O out hs (by omega)).mono ?_;rintro _ h22 ⟨rfl,hs⟩;rw[e2,List.nil_append] at ho;rw[ho] at hs;exact⟨rfl,out,rfl,hs⟩
  ·omega
set_option maxHeartbeats 3200000 in
theorem clone38 (ss sb:Sl) (S:List Int) (B:List Bx) (h:Heap) (hC:CfI h ss sb S B) :
  Fn Pz 38 #[.agg ⟨[.slice ss.a ss.n ss.c,.slice sb.a sb.n sb.c]⟩] h (CloV S B h):=by
 apply vc38 ss sb;unfold W38 V38b V38a;have hbn:=hC.b.ln;have hbs:=hC.b.sm;refine (St.refl h).newb fun h3 hs=>?_;refine hs.newb fun h4 hs=>?_;refine⟨ss,hs.rd 1 rfl (i:=0) rfl,sb,hs.rd 1 rfl (i:=1) rfl,?_⟩;rw[Ys];have hc:((0:Int)<=(sb.n:Int)/\((sb.n:Int):Int)<=(sb.n:Int)/\((24:Nat):Int)*(sb.n:Int)<=140737488355328):=⟨by omega,by omega,by omega⟩;have mk:∀ {hX:Heap} {b:Nat} {L:List It},St h hX (.blk b (madeL Pz 25 sb.n) 25::L)->St h hX (.sl ⟨some ⟨b,0,none⟩,sb.n,sb.n⟩ 25 1 ((List.replicate B.length bx0).map Bx.cs)::L):=fun hs=>
  hs.blkS sb.n 1 _ (by rw[hbn];exact boxes0 _) (bxrows _) (by rw[Yc,Yg,hbn]) (by simp only[maxLen];omega)
 refine And.intro ?_ (And.intro ?_ ?_)
 ·refine (clone92 S ss h4 (hC.s.ext hs.ext)).mono ?_;rintro _ h9 ⟨ts,rfl,hs2⟩;have hs:=hs.join hs2;refine⟨ts,rfl,hs2.ext.sm,And.intro ?_ ?_⟩
  ·refine⟨hc,hs.newbE fun h10 E10 hs=>⟨E10.sm,?_⟩⟩;have hs:=mk hs;refine hs.newbE fun h11 E11 hs=>⟨E11.sm,?_⟩;refine hs.put 0 rfl (o:=0) (vs:=[.slice ts.a ts.n ts.c,.slice (some ⟨h9.size,0,none⟩) sb.n sb.n]) rfl (show 2<=2 by decide) fun h12 hs=>?_;exact cloneB _ _ _ ss sb ts ⟨some ⟨h9.size,0,none⟩,sb.n,sb.n⟩ ⟨none,0,0⟩ ⟨none,0,0⟩ S B h h12 hC hs
  ·refine hs.newbE fun h10 E10 hs=>⟨E10.sm,hc,?_⟩;refine hs.newbE fun h11 E11 hs=>⟨E11.sm,?_⟩;have hs:=mk hs;refine hs.put 1 rfl (o:=0) (vs:=[.slice ts.a ts.n ts.c,.slice (some ⟨h10.size,0,none⟩) sb.n sb.n]) rfl (show 2<=2 by decide) fun h12 hs=>?_;exact cloneB _ _ _ ss sb ts ⟨some ⟨h10.size,0,none⟩,sb.n,sb.n⟩ ⟨none,0,0⟩ ⟨none,0,0⟩ S B h h12 hC (hs.perm (List.Perm.swap _ _ _))
 ·refine⟨hc,hs.newbE fun h10 E10 hs=>⟨E10.sm,?_⟩⟩;have hs:=mk hs;refine And.intro ?_ ?_;refine (clone92 S ss h10 (hC.s.ext hs.ext)).mono ?_;rintro _ h9 ⟨ts,rfl,hs2⟩;have hs:=hs.join hs2;refine⟨ts,rfl,hs2.ext.sm,?_⟩;refine hs.newbE fun h11 E11 hs=>⟨E11.sm,?_⟩;rotate_left;refine hs.newbE fun h11 E11 hs=>⟨E11.sm,?_⟩;refine (clone92 S ss h11 (hC.s.ext hs.ext)).mono ?_;rintro _ h9 ⟨ts,rfl,hs2⟩;have hs:=hs.join hs2;refine⟨ts,rfl,hs2.ext.sm,?_⟩;all_goals
   refine hs.put 0 rfl (o:=0) (vs:=[.slice ts.a ts.n ts.c,.slice (some ⟨h4.size,0,none⟩) sb.n sb.n]) rfl (show 2<=2 by decide) fun h12 hs=>?_;exact cloneB _ _ _ ss sb ts ⟨some ⟨h4.size,0,none⟩,sb.n,sb.n⟩ ⟨none,0,0⟩ ⟨none,0,0⟩ S B h h12 hC hs
 ·refine hs.newbE fun h10 E10 hs=>⟨E10.sm,And.intro ?_ ?_⟩
  ·refine (clone92 S ss h10 (hC.s.ext hs.ext)).mono ?_;rintro _ h9 ⟨ts,rfl,hs2⟩;have hs:=hs.join hs2;refine⟨ts,rfl,hs2.ext.sm,hc,?_⟩;refine hs.newbE fun h11 E11 hs=>⟨E11.sm,?_⟩;have hs:=mk hs;refine hs.put 1 rfl (o:=0) (vs:=[.slice ts.a ts.n ts.c,.slice (some ⟨h9.size,0,none⟩) sb.n sb.n]) rfl (show 2<=2 by decide) fun h12 hs=>?_;exact cloneB _ _ _ ss sb ts ⟨some ⟨h9.size,0,none⟩,sb.n,sb.n⟩ ⟨none,0,0⟩ ⟨none,0,0⟩ S B h h12 hC (hs.perm (List.Perm.swap _ _ _))
  ·refine⟨hc,hs.newbE fun h11 E11 hs=>⟨E11.sm,?_⟩⟩;have hs:=mk hs;refine (clone92 S ss h11 (hC.s.ext hs.ext)).mono ?_;rintro _ h9 ⟨ts,rfl,hs2⟩;have hs:=hs.join hs2;refine⟨ts,rfl,hs2.ext.sm,?_⟩;refine hs.put 1 rfl (o:=0) (vs:=[.slice ts.a ts.n ts.c,.slice (some ⟨h10.size,0,none⟩) sb.n sb.n]) rfl (show 2<=2 by decide) fun h12 hs=>?_;exact cloneB _ _ _ ss sb ts ⟨some ⟨h10.size,0,none⟩,sb.n,sb.n⟩ ⟨none,0,0⟩ ⟨none,0,0⟩ S B h h12 hC (hs.perm (List.Perm.swap _ _ _))
end Go.VC
end

section
namespace Go.VC
open Go.Proofs
variable [Mono]
namespace M

def W65 (p0 p1:Int) (c0:Addr) (h:Heap) (R:Value->Heap->Prop):Prop:=
 ∃x1,rS h ⟨c0.block,c0.off+4,none⟩ x1 /\
 NB x1.a fun b2 o3=>Ib p0 x1.n /\
 ∃x4 x5 x6 x7 x8 x9,aL0 h ⟨b2,o3+Int.toNat p0*6,none⟩ x4 x5 x6 x7 x8 x9 /\
 ∃x10,rS h ⟨c0.block,c0.off+4,none⟩ x10 /\
 NB x10.a fun b11 o12=>Ib p1 x10.n /\
 ∃x13 x14 x15 x16 x17 x18,aL0 h ⟨b11,o12+Int.toNat p1*6,none⟩ x13 x14 x15 x16 x17 x18 /\
 Fn Pz 66 #[.agg ⟨(L0 x4 x5 x6 x7 x8 x9)⟩,.agg ⟨(L0 x13 x14 x15 x16 x17 x18)⟩] h
 (fun v19 h21=>∃x20,iI v19 x20 /\
 R (vI x20) h21)
theorem vc65 (p0 p1:Int) (c0:Addr) (h:Heap) (R:Value->Heap->Prop) (H:W65 p0 p1 c0 h R):Fn Pz 65 #[vI p0,vI p1,.pointer (some c0)] h R:=fnI (A:=.z) (by kernel_rfl) H

def W66 (p0_1:Int) (p0_2:Bool) (p0_3 p0_4 p0_5:Int) (p0_6:Bool) (p1_7:Int) (p1_8:Bool) (p1_9 p1_10 p1_11:Int) (p1_12:Bool) (h:Heap) (R:Value->Heap->Prop):Prop:=
 Wn h (L0 p0_1 p0_2 p0_3 p0_4 p0_5 p0_6) 116 fun h13=>
 Wn h13 (L0 p1_7 p1_8 p1_9 p1_10 p1_11 p1_12) 116 fun h14=>
 ∃x15,rB h14 (aS h 1) x15 /\
 ∃x16,rB h14 (aS h13 1) x16 /\
 sB (!(x15==x16))
 (∃x17,rB h14 (aS h 1) x17 /\
 sB x17
 (R (vI (-1)) h14)
 (R (vI 1) h14))
 (∃x18,rI h14 (aS h 2) x18 /\
 ∃x19,rI h14 (aS h13 2) x19 /\
 ∃x20,rI h14 (aS h 3) x20 /\
 ∃x21,rI h14 (aS h13 3) x21 /\
 Fn Pz 110 #[vI x18,vI x19] h14
 (fun v22 h24=>∃x23,iI v22 x23 /\
 Sm [(aS h13 3),(aS h 3)] h14 h24 /\
 Fn Pz 110 #[vI x20,vI x21] h24
 (fun v25 h27=>∃x26,iI v25 x26 /\
 Sm [(aS h13 2),(aS h 2)] h24 h27 /\
 Wn h27 [vI x23,vI x26] 3 fun h28=>
 Fn Pz 109 #[.slice (some (aS h27 0)) 2 2] h28
 (fun v29 h31=>∃x30,iI v29 x30 /\
 R (vI x30) h31))))
theorem vc66 (p0_1:Int) (p0_2:Bool) (p0_3 p0_4 p0_5:Int) (p0_6:Bool) (p1_7:Int) (p1_8:Bool) (p1_9 p1_10 p1_11:Int) (p1_12:Bool) (h:Heap) (R:Value->Heap->Prop) (H:W66 p0_1 p0_2 p0_3 p0_4 p0_5 p0_6 p1_7 p1_8 p1_9 p1_10 p1_11 p1_12 h R):Fn Pz 66 #[.agg ⟨(L0 p0_1 p0_2 p0_3 p0_4 p0_5 p0_6)⟩,.agg ⟨(L0 p1_7 p1_8 p1_9 p1_10 p1_11 p1_12)⟩] h R:=fnI (A:=.z) (by kernel_rfl) H

end M
end Go.VC
end

section
namespace Go.VC
open Go.Proofs Go.LexS
variable [Mono]
namespace M
theorem order66 (x y:Mv) (h:Heap):Fn Pz 66 #[.agg ⟨x.cs⟩,.agg ⟨y.cs⟩] h fun v h'=>v=.int .i64 (cmpE x.ev y.ev)/\Ext h h':=by
 apply vc66 x.f x.send x.peer x.label x.t x.ag y.f y.send y.peer y.label y.t y.ag;unfold W66;refine (St.refl h).newb fun h13 hs=>?_;refine hs.newb fun h14 hs=>?_;refine⟨x.send,hs.rd 1 rfl (i:=1) rfl,y.send,hs.rd 0 rfl (i:=1) rfl,sB_intro (fun c=>?_) (fun c=>?_)⟩
 ·refine⟨x.send,hs.rd 1 rfl (i:=1) rfl,sB_intro (fun d=>⟨?_,hs.ext⟩) (fun d=>⟨?_,hs.ext⟩)⟩
  ·congr 1;obtain⟨f,s,p,l,t,a⟩:=x;obtain⟨f',s',p',l',t',a'⟩:=y;dsimp only at c d;unfold cmpE Mv.ev;cases s<;>cases s'<;>simp_all
  ·congr 1;obtain⟨f,s,p,l,t,a⟩:=x;obtain⟨f',s',p',l',t',a'⟩:=y;dsimp only at c d;unfold cmpE Mv.ev;cases s<;>cases s'<;>simp_all
 ·refine⟨x.peer,hs.rd 1 rfl (i:=2) rfl,y.peer,hs.rd 0 rfl (i:=2) rfl,x.label,hs.rd 1 rfl (i:=3) rfl,y.label,hs.rd 0 rfl (i:=3) rfl,?_⟩;refine (cmp110 _ _ _).mono ?_;rintro _ _ ⟨rfl,rfl⟩;refine⟨_,rfl,fun _ _ _ _ hv=>hv,?_⟩;refine (cmp110 _ _ _).mono ?_;rintro _ _ ⟨rfl,rfl⟩;refine⟨_,rfl,fun _ _ _ _ hv=>hv,?_⟩;refine hs.newb fun h28 hs=>?_;have hs2:=hs.blkS 2 1 ([cmpI x.peer y.peer,cmpI x.label y.label].map inC) rfl (inrows _) rfl (by decide);refine (or109 [cmpI x.peer y.peer,cmpI x.label y.label] _ h28 (hs2.rows 0 rfl (by omega)) (show 2<=1048576 by decide)).mono ?_;rintro _ _ ⟨rfl,rfl⟩;refine⟨_,rfl,?_,hs.ext⟩;show Value.int .i64 (orI3 _ (orI3 _ 0))=_;congr 1;obtain⟨f,s,p,l,t,a⟩:=x;obtain⟨f',s',p',l',t',a'⟩:=y;dsimp only at c;unfold cmpE orI3 Mv.ev;cases s<;>cases s'<;>simp_all [cmpI]<;>(repeat' split)<;>omega
theorem start65 (mv:List Mv) (sm:Sl) (a:Addr) (i k:Nat) (x y:Mv) (h:Heap) (ha:hc h ⟨a.block,a.off+4,none⟩=some (.slice sm.a sm.n sm.c)) (hr:Rw h 6 sm (mv.map Mv.cs)) (hx:mv[i]?=some x) (hy:mv[k]?=some y) :
  Fn Pz 65 #[.int .i64 (i:Int),.int .i64 (k:Int),.pointer (some a)] h fun v h'=>v=.int .i64 (cmpE x.ev y.ev)/\Ext h h':=by
 apply vc65 (i:Int) (k:Int) a;unfold W65;have hn:=hr.ln;have hxl:=(Ya.1 hx).1;have hyl:=(Ya.1 hy).1;refine⟨sm,ha,?_⟩;refine hr.nbI (by omega) (by omega) fun b o x' gx t=>?_;rw[Ys,hx] at gx;cases gx;refine⟨_,_,_,_,_,_,t,sm,ha,?_⟩;refine hr.nbI (by omega) (by omega) fun b2 o2 y' gy t2=>?_;rw[Ys,hy] at gy;cases gy;refine⟨_,_,_,_,_,_,t2,?_⟩;refine (order66 x y h).mono ?_;rintro _ h29 ⟨rfl,E⟩;exact⟨_,rfl,rfl,E⟩
end M
def Sort64:Prop:=∀(m:Mch) (sm:Sl) (a:Addr) {h0 h:Heap} {Ls:List It},St h0 h Ls->∀(i:Nat) {s:Sl} {l:List Nat},Ls[i]?=some (.sl s 3 1 ((natI l).map inC))->(∀x∈l,x<m.mv.length)->(l=[]->s.a=none)->m.mv.length<=1048576->l.length<=1048576 ->
 (∀h':Heap,h.size<=h'.size->(∀c,c<h.size->s.a.map (·.block)≠some c->h'[c]?=h[c]?)->hc h' ⟨a.block,a.off+4,none⟩=some (.slice sm.a sm.n sm.c)/\Rw h' 6 sm (m.mv.map Mv.cs)) ->
 Fn Pz 64 #[.slice s.a s.n s.c,.func (.func 65) #[] #[.pointer (some a)]] h fun v h'=>v=.tuple ⟨[]⟩/\∃l':List Nat,l'.Perm l/\l'.Pairwise (fun a b=>¬evLt (evI m b) (evI m a))/\St h0 h' (Ls.set i (.sl s 3 1 ((natI l').map inC)))
end Go.VC
end

section
namespace Go.VC
open Go.Proofs Go.Shelf
theorem sort64:Sort64:=by
 intro m sm a h0 h Ls hs i s l hi hlm hnil hml hll hread;by_cases hl0:l=[]
 ·subst hl0;have ha:=hnil rfl;have hget:=hs.get hi;rcases hget.1.2 with ⟨_,hn0,hc0⟩ | ⟨b,cur,ha',_⟩
  ·have hset:Ls.set i (.sl s 3 1 ((natI []).map inC))=Ls:=by
    obtain⟨p,q⟩:=Ya.1 hi;rw[<-q];exact List.set_getElem_self p
   intro w hw;subst hw;rw[ha,hn0,hc0];refine (AnyF.slices_SortFunc_none { Tryz.sortL152 with } none ((0:Nat):Nat) (.func (.func 65) #[] #[.pointer (some a)]) w).mono ?_;rintro e' w' ⟨rfl,rfl⟩;exact⟨_,rfl,⟨rfl,[],List.Perm.refl _,List.Pairwise.nil,by rw[hset];exact hs⟩,rfl,rfl,rfl,trivial⟩
  ·rw[ha] at ha';cases ha'
 ·have hpos:0<m.mv.length:=by
   cases l with
   | nil=>exact absurd rfl hl0
   | cons x r=>have:=hlm x Yx;omega
  haveI:Inhabited (Fin m.mv.length):=⟨⟨0,hpos⟩⟩
  obtain⟨k,rfl⟩:=fin_list hlm;have hi':Ls[i]?=some (.sl s 3 1 (k.map fun x=>[finE x])):=by rw[hi,natI_fin]
  rw[Yc] at hll;refine Fn.mono (sort_own1 Tryz.sortL152 3 (finE (n:=m.mv.length)) (fun _=>rfl) (fun x y:Fin m.mv.length=>cmpE (evI m x.val) (evI m y.val)) (swo_on swoE fun x:Fin m.mv.length=>evI m x.val) 65 #[.pointer (some a)] (enters_of Tryz.func65 (by kernel_rfl) rfl) hs i hi' (by omega) (fun x y h' hsz hoth=>?_)) ?_
  ·obtain⟨r1,r2⟩:=hread h' hsz hoth;have g:∀x:Fin m.mv.length,m.mv[x.val]?=some m.mv[x.val]:=fun x=>Yi x.isLt;have ev:∀x:Fin m.mv.length,evI m x.val=m.mv[x.val].ev:=fun x=>by unfold evI;rw[g x]
   rw[ev x,ev y];exact @M.start65 monoDrawn m.mv sm a x.val y.val m.mv[x.val] m.mv[y.val] h' r1 r2 (g x) (g y)
  ·rintro v h' ⟨rfl,k',hp,hw,hs'⟩;refine⟨rfl,k'.map Fin.val,hp.map _,?_,by rw[natI_fin];exact hs'⟩;rw[List.pairwise_map];refine hw.imp fun {a b} hab=>?_;unfold ltOf at hab;rw[decide_eq_false_iff_not,cmpE_neg] at hab;exact hab
end Go.VC
end

section
namespace Go.VC
open Go.Proofs
variable {h:Heap} {R:Value->Heap->Prop}

def W32 (p0:Sl) (p1:Int):Prop:=
 RunW Pz (Instr.makeMap 144 (none)) h
 (fun v1 h3=>∃x2:Option Nat,v1=.map x2 /\
 Wn h3 [vS p0,vI p1,.slice none 0 0,.map x2] 147 fun h4=>
 QI 0 h4 fun I5 x_8 h9 m7=>
 sB (decide (x_8<(p0.n:Int)))
 (NB p0.a fun b10 o11=>Ib x_8 p0.n /\
 ∃x12 x13 x14 x15 x16 x17,aL1 h9 ⟨b10,o11+Int.toNat x_8*6,none⟩ x12 x13 x14 x15 x16 x17 /\
 Wn h9 [vI 0,vI 0,vI 0,.slice none 0 0,.slice none 0 0,.slice none 0 0] 88 fun h18=>
 Wp h18 ⟨h9.size,0,none⟩ 6 (L1 x12 x13 x14 x15 x16 x17) fun h19=>
 ∃x20,rI h19 ⟨h9.size,1,none⟩ x20 /\
 Mk x20 x20 24/\Wn h19 (madeL Pz 25 (Int.toNat x20)) 25 fun h21=>
 ∃x22,rS h21 ⟨h9.size,4,none⟩ x22 /\
 QI 0 h21 fun I23 x_26 h27 m25=>
 sB (decide (x_26<(x22.n:Int)))
 (NB x22.a fun b28 o29=>Ib x_26 x22.n /\
 ∃x30 x31 x32 x33 x34 x35,aL0 h27 ⟨b28,o29+Int.toNat x_26*6,none⟩ x30 x31 x32 x33 x34 x35 /\
 Wn h27 [vI 0,.bool false,vI 0,vI 0,vI 0,.bool false] 116 fun h36=>
 Wp h36 ⟨h27.size,0,none⟩ 6 (L0 x30 x31 x32 x33 x34 x35) fun h37=>
 ∃x38,rI h37 ⟨h27.size,0,none⟩ x38 /\
 ∃x39,rI h37 ⟨h27.size,0,none⟩ x39 /\
 (0<=(x39:Int)/\(x39:Int)<((Int.toNat x20):Nat)) /\
 ∃x40,rS h37 ⟨h19.size,0+Int.toNat x39*1,none⟩ x40 /\
 Wn h37 [vI x_26] 3 fun h41=>
 Sm [⟨h19.size,0+Int.toNat x39*1,none⟩,⟨h27.size,0,none⟩,⟨h27.size,0,none⟩] h37 h41 /\
 App Pz 25 25 (vS x40) (.slice (some ⟨h37.size,0,none⟩) 1 1) h41 fun s42 h43=>
 Sm [⟨h27.size,0,none⟩] h41 h43 /\
 (0<=(x38:Int)/\(x38:Int)<((Int.toNat x20):Nat)) /\
 Wp h43 ⟨h19.size,0+Int.toNat x38*1,none⟩ 1 [vS s42] fun h44=>
 ∃m45,m45<m25/\I23 (IntKind.wrap .i64 (x_26+1)) h44 m45)
 (QI 0 h27 fun I46 x_49 h50 m48=>
 sB (decide (x_49<((Int.toNat x20):Int)))
 ((0<=(x_49:Int)/\(x_49:Int)<((Int.toNat x20):Nat)) /\
 ∃x51,rS h50 ⟨h19.size,0+Int.toNat x_49*1,none⟩ x51 /\
 Fn Pz 64 #[vS x51,.func (.func 65) #[] #[.pointer (some ⟨h9.size,0,none⟩)]] h50
 (fun v52 h53=>v52=.tuple ⟨[]⟩ /\
 ∃m54,m54<m48/\I46 (IntKind.wrap .i64 (x_49+1)) h53 m54))
 (∃x55,rS h50 ⟨h3.size,2,none⟩ x55 /\
 Wn h50 [.slice (some ⟨h19.size,0,none⟩) (Int.toNat x20) (Int.toNat x20)] 26 fun h56=>
 App Pz 145 145 (vS x55) (.slice (some ⟨h50.size,0,none⟩) 1 1) h56 fun s57 h58=>
 Wp h58 ⟨h3.size,2,none⟩ 1 [vS s57] fun h59=>
 ∃m60,m60<m7/\I5 (IntKind.wrap .i64 (x_8+1)) h59 m60)))
 (R (.pointer (some ⟨h3.size,0,none⟩)) h9))
theorem vc32 (p0:Sl) (p1:Int) (H:@W32 h R p0 p1):Fn Pz 32 #[vS p0,vI p1] h R:=fnI (A:=(.s .z (.s .z (.s (.s .z (.b (.l [(20,.one (.int .i64))] (.s .z (.s .z (.s (.b (.s .z (.s .z (.s (.s .z (.b (.l [(30,.one (.int .i64))] .z))) (.s (.s .z (.b (.l [(50,.one (.int .i64))] .z))) .z))))) .z)))))) .z)))) (by kernel_rfl) H

def V13a (h8 h:Heap) (R:Value->Heap->Prop):Prop:=
 Wp h8 (aS h 0) 5 [vI 0,.slice none 0 0,.slice none 0 0,vI 0,.slice none 0 0] fun h9=>∃x10 x11 x12 x13 x14,aL6 h9 (aS h 0) x10 x11 x12 x13 x14/\R (.tuple ⟨[.agg ⟨(L6 x10 x11 x12 x13 x14)⟩,vI 1]⟩) h9
def V13b (h82 h:Heap) (R:Value->Heap->Prop):Prop:=
 ∃x83 x84 x85 x86 x87,aL6 h82 (aS h 0) x83 x84 x85 x86 x87/\R (.tuple ⟨[.agg ⟨(L6 x83 x84 x85 x86 x87)⟩,vI 0]⟩) h82
def V13c (h8 h:Heap) (R:Value->Heap->Prop):Prop:=
 Wp h8 (aS h 0) 5 [vI 0,.slice none 0 0,.slice none 0 0,vI 0,.slice none 0 0] fun h27=>∃x28 x29 x30 x31 x32,aL6 h27 (aS h 0) x28 x29 x30 x31 x32/\R (.tuple ⟨[.agg ⟨(L6 x28 x29 x30 x31 x32)⟩,vI 2]⟩) h27
def W13 (p0:Sl) (p1 p2:Int):Prop:=
 Wn h [vI 0,.slice none 0 0,.slice none 0 0,vI 0,.slice none 0 0] 32 fun h1=>Fn Pz 25 #[vS p0] h1 (fun v2 h6=>∃(x3 x4:Sl) (x5:Int),v2=.tuple ⟨[.agg ⟨[vS x3,vS x4]⟩,vI x5]⟩/\Wn h6 [.slice none 0 0,.slice none 0 0] 50 fun h7=>Wp h7 (aS h6 0) 2 [vS x3,vS x4] fun h8=>sB (x5 != 0) (V13a h8 h R) (sB (decide (p1<1)) (V13a h8 h R) (sB (decide (p1>4)) (V13a h8 h R) (sB (decide (p2<1)) (V13c h8 h R) (sB (decide (p2>20000)) (V13c h8 h R) (Fn Pz 32 #[vS p0,vI p1] h8 (fun v39 h41=>∃x40:Option Addr,v39=.pointer x40/\RunW Pz (Instr.makeMap 92 (none)) h41 (fun v42 h44=>∃x43:Option Nat,v42=.map x43/\∃(x45 x46:Sl),atC h44 (aS h6 0) [vS x45,vS x46]/\Fn Pz 33 #[.agg ⟨[vS x45,vS x46]⟩] h44 (fun v47 h49=>∃x48,iS v47 x48/\RunW Pz (Go.convert 60 9 (vS x48)) h49 (fun v50 h52=>∃x51:ByteArray,v50=.string x51/\RunW Pz (Instr.mapUpdate 92 (.map x43) (.string x51) (.bool true)) h52 (fun _ h53=>∃(x54 x55:Sl),atC h53 (aS h6 0) [vS x54,vS x55]/\Wn h53 [vS x54,vS x55,vI (-1),vI 0,vI 0] 94 fun h56=>QSI ⟨(some (aS h53 0)),1,1⟩ 0 h56 fun I57 queue_60 head_61 h62 m59=>sB (decide (head_61<(queue_60.n:Int))) (NB queue_60.a fun b63 o64=>Ib head_61 queue_60.n/\∃(x65 x66:Sl),atC h62 ⟨b63,o64+Int.toNat head_61*5,none⟩ [vS x65,vS x66]/\Wn h62 [.slice none 0 0,.slice none 0 0] 50 fun h67=>Wp h67 (aS h62 0) 2 [vS x65,vS x66] fun h68=>∃(x69 x70:Sl),atC h68 (aS h62 0) [vS x69,vS x70]/\Fn Pz 34 #[.pointer x40,.agg ⟨[vS x69,vS x70]⟩] h68 (fun v71 h73=>∃x72,iS v71 x72/\∃(x74 x75:Sl),atC h73 (aS h62 0) [vS x74,vS x75]/\Fn Pz 35 #[.pointer x40,.agg ⟨[vS x74,vS x75]⟩,.bool (decide ((x72.n:Int)>0))] h73 (fun v76 h78=>∃x77,iI v76 x77/\sB (x77 != 0) (Fn Pz 36 #[vS queue_60,vI head_61] h78 (fun v79 h81=>∃x80,iS v79 x80/\Wp h81 (aS h 0) 5 [vI 2,.slice none 0 0,.slice none 0 0,vI x77,vS x80] fun h82=>V13b h82 h R)) (QSI queue_60 0 h78 fun I88 queue_91 x_92 h93 m90=>sB (decide (x_92<(x72.n:Int))) (NB x72.a fun b94 o95=>Ib x_92 x72.n/\∃(x96 x97:Int),atC h93 ⟨b94,o95+Int.toNat x_92*2,none⟩ [vI x96,vI x97]/\Wn h93 [vI 0,vI 0] 48 fun h98=>Wp h98 (aS h93 0) 2 [vI x96,vI x97] fun h99=>∃(x100 x101:Sl),atC h99 (aS h62 0) [vS x100,vS x101]/\∃(x102 x103:Int),atC h99 (aS h93 0) [vI x102,vI x103]/\Fn Pz 37 #[.pointer x40,.agg ⟨[vS x100,vS x101]⟩,.agg ⟨[vI x102,vI x103]⟩] h99 (fun v104 h107=>∃(x105 x106:Sl),v104=.agg ⟨[vS x105,vS x106]⟩/\Wn h107 [.slice none 0 0,.slice none 0 0] 50 fun h108=>Wp h108 (aS h107 0) 2 [vS x105,vS x106] fun h109=>∃(x110 x111:Sl),atC h109 (aS h107 0) [vS x110,vS x111]/\Fn Pz 33 #[.agg ⟨[vS x110,vS x111]⟩] h109 (fun v112 h114=>∃x113,iS v112 x113/\RunW Pz (Go.convert 60 9 (vS x113)) h114 (fun v115 h117=>∃x116:ByteArray,v115=.string x116/\RunW Pz (Instr.lookup 92 (.map x43) (.string x116) false) h117 (fun v118 h120=>∃x119,iB v118 x119/\sB x119 (∃m121,m121<m90/\I88 queue_91 (IntKind.wrap .i64 (x_92+1)) h120 m121) (sB ((queue_91.n:Int)==p2) (Wp h120 (aS h 0) 5 [vI 3,.slice none 0 0,.slice none 0 0,vI 0,.slice none 0 0] fun h122=>V13b h122 h R) (RunW Pz (Instr.mapUpdate 92 (.map x43) (.string x116) (.bool true)) h120 (fun _ h128=>∃(x129 x130:Sl),atC h128 (aS h107 0) [vS x129,vS x130]/\∃(x131 x132:Int),atC h128 (aS h93 0) [vI x131,vI x132]/\Wn h128 [vS x129,vS x130,vI head_61,vI x131,vI x132] 94 fun h133=>App Pz 95 95 (vS queue_91) (.slice (some (aS h128 0)) 1 1) h133 fun s134 h135=>∃m136,m136<m90/\I88 s134 (IntKind.wrap .i64 (x_92+1)) h135 m136)))))))) (∃m137,m137<m59/\I57 queue_91 (IntKind.wrap .i64 (head_61+1)) h93 m137))))) (((0:Int)<=(IntKind.wrap .i64 ((p0.n:Int)*(p0.n:Int)))/\((IntKind.wrap .i64 ((p0.n:Int)*(p0.n:Int))):Int)<=(IntKind.wrap .i64 ((p0.n:Int)*(p0.n:Int)))/\((8:Nat):Int)*(IntKind.wrap .i64 ((p0.n:Int)*(p0.n:Int)))<=140737488355328)/\Wn h62 (madeL Pz 3 (Int.toNat (IntKind.wrap .i64 ((p0.n:Int)*(p0.n:Int))))) 3 fun h138=>Wn h138 [vI 0,.slice none 0 0,.slice none 0 0,vI 0,.slice none 0 0] 32 fun h139=>Wp h139 (aS h138 0) 5 [vI 1,.slice none 0 0,.slice (some (aS h62 0)) (Int.toNat (IntKind.wrap .i64 ((p0.n:Int)*(p0.n:Int)))) (Int.toNat (IntKind.wrap .i64 ((p0.n:Int)*(p0.n:Int)))),vI 0,.slice none 0 0] fun h140=>QI 0 h140 fun I141 x_144 h145 m143=>sB (decide (x_144<(queue_60.n:Int))) (NB queue_60.a fun b146 o147=>Ib x_144 queue_60.n/\∃(x148 x149:Sl) (x150 x151 x152:Int),atC h145 ⟨b146,o147+Int.toNat x_144*5,none⟩ [vS x148,vS x149,vI x150,vI x151,vI x152]/\Wn h145 [.slice none 0 0,.slice none 0 0,vI 0,vI 0,vI 0] 94 fun h153=>Wp h153 (aS h145 0) 5 [vS x148,vS x149,vI x150,vI x151,vI x152] fun h154=>∃x155,rS h154 (aS h138 1) x155/\∃(x156 x157:Sl),atC h154 (aS h145 0) [vS x156,vS x157]/\Fn Pz 38 #[.agg ⟨[vS x156,vS x157]⟩] h154 (fun v158 h161=>∃(x159 x160:Sl),v158=.agg ⟨[vS x159,vS x160]⟩/\Sm [(aS h138 1)] h154 h161/\Wn h161 [vS x159,vS x160] 50 fun h162=>Sm [(aS h138 1)] h161 h162/\App Pz 29 29 (vS x155) (.slice (some (aS h161 0)) 1 1) h162 fun s163 h164=>Wp h164 (aS h138 1) 1 [vS s163] fun h165=>∃x166,rS h165 (aS h145 1) x166/\QI 0 h165 fun I167 x_170 h171 m169=>sB (decide (x_170<(x166.n:Int))) (NB x166.a fun b172 o173=>Ib x_170 x166.n/\∃x174,rS h171 ⟨b172,o173+Int.toNat x_170*1,none⟩ x174/\∃x175,rS h171 (aS h138 2) x175/\∃x176,rS h171 (aS h138 2) x176/\NB x176.a fun b177 o178=>Ib x_170 x176.n/\∃x179,rI h171 ⟨b177,o178+Int.toNat x_170*1,none⟩ x179/\NB x175.a fun b180 o181=>Ib x_170 x175.n/\Wp h171 ⟨b180,o181+Int.toNat x_170*1,none⟩ 1 [vI (imax x179 (x174.n:Int))] fun h182=>∃m183,m183<m169/\I167 (IntKind.wrap .i64 (x_170+1)) h182 m183) (∃m184,m184<m143/\I141 (IntKind.wrap .i64 (x_144+1)) h171 m184))) (∃x185 x186 x187 x188 x189,aL6 h145 (aS h138 0) x185 x186 x187 x188 x189/\Wp h145 (aS h 0) 5 (L6 x185 x186 x187 x188 x189) fun h190=>V13b h190 h R)))))))))))))
theorem vc13 (p0:Sl) (p1 p2:Int) (H:@W13 h R p0 p1 p2):Fn Pz 13 #[vS p0,vI p1,vI p2] h R:=fnI (A:=(.s .z (.s .z (.s .z (.s .z (.s .z (.s .z (.s (.s .z (.b (.l [(12,.one (.slice)),(13,.one (.int .i64))] (.s .z (.s (.b (.s .z (.s .z (.s .z (.s .z (.b (.l [(12,.one (.slice)),(91,.one (.int .i64))] .z))))))) .z))))) (.s .z (.s (.s .z (.b (.l [(129,.one (.int .i64))] (.s .z (.s .z (.s (.b (.s .z (.s .z (.s .z (.b (.l [(145,.one (.int .i64))] .z)))))) .z)))))) .z)))))))))) (by kernel_rfl) H

end Go.VC
end

section
namespace Go.VC
open Go.Proofs Go.LexS
structure Tbr where
 o:Sl
 q:List (Sl × List Int)
instance:Inhabited Tbr:=⟨⟨⟨none,0,0⟩,[]⟩⟩
def tabs (T:List Tbr):List It:=T.flatMap fun t=>.sl t.o 25 1 ((t.q.map Prod.fst).map slC)::t.q.map (nest 3 1 inC)
structure TbF (m:Mch) (t:Tbr):Prop where
 n:t.o.n=m.n.toNat
 l:t.q.length=m.n.toNat
 q:∀(j:Nat) q,t.q[j]?=some q->q.2=natI (mvS m (j:Int))
def tbP (y:MR) (bm:Nat) (ho:Sl) (qs:List (Sl × List Int)):List It:=[.sl ho 25 1 ((qs.map Prod.fst).map slC),.blk bm (MR.cs y) 88]
theorem app145:appB Pz 145 26 1 24=true:=by kernel_rfl
theorem tabs_snoc (T:List Tbr) (t:Tbr):tabs (T++[t])=tabs T++(.sl t.o 25 1 ((t.q.map Prod.fst).map slC)::t.q.map (nest 3 1 inC)):=by
 unfold tabs;rw[List.flatMap_append,List.flatMap_cons,List.flatMap_nil,Yw]
theorem tabs_o {T:List Tbr} {t:Tbr} (ht:t∈T):It.sl t.o 25 1 ((t.q.map Prod.fst).map slC)∈tabs T:=List.mem_flatMap.2 ⟨t,ht,Yx⟩
theorem tabs_q {T:List Tbr} {t:Tbr} (ht:t∈T) {q:Sl × List Int} (hq:q∈t.q):nest 3 1 inC q∈tabs T:=List.mem_flatMap.2 ⟨t,ht,Yn _ (List.mem_map_of_mem hq)⟩
theorem St.rwm {h0 h:Heap} {L:List It} (hs:St h0 h L) {s:Sl} {e n:Nat} {rows:List (List Value)} (hk:It.sl s e n rows∈L) (hn:0<n):Rw h n s rows:=by
 obtain⟨k,hk⟩:=Yf.1 hk;exact hs.rw k hk hn
theorem St.atm {h0 h:Heap} {L:List It} (hs:St h0 h L) {b:Nat} {xs:List Value} {e:TypeId} (hk:It.blk b xs e∈L):atC h ⟨b,0,none⟩ xs:=by
 obtain⟨k,hk⟩:=Yf.1 hk;exact hs.at k hk (o:=0) (n:=xs.length) (by rw[List.drop_zero,Yye])
theorem Rw.one {α:Type} {h:Heap} {b n c:Nat} {l:List α} {cs:α->List Value} (hr:Rw h 1 ⟨some ⟨b,0,none⟩,n,c⟩ (l.map cs)) {x:Int} (h0:0<=x) (h1:x<(n:Int)) {d:α} (hd:l[x.toNat]?=some d) {v:Value} (hv:(cs d)[0]?=some v):hc h ⟨b,0+x.toNat*1,none⟩=some v:=by
 have:NB (some ⟨b,0,none⟩) fun b o=>((0<=x/\x<(n:Int))/\hc h ⟨b,o+x.toNat*1,none⟩=some v):=hr.nbI h0 h1 fun b o d' hd' t=>by
  rw[hd] at hd';cases hd';exact t.nth 0 hv
 exact this.2
theorem St.set0 {α:Type} {h0 h:Heap} {L:List It} (hs:St h0 h L) (k:Nat) {b n c:Nat} {e:TypeId} {cs:α->List Value} {l:List α} (hk:L[k]?=some (.sl ⟨some ⟨b,0,none⟩,n,c⟩ e 1 (l.map cs))) {x:Int} (hx0:0<=x) (hx1:x<(n:Int)) (y:α) {vs:List Value} (hv:vs=cs y)
  {m:Nat} (hm:m=vs.length) (hy:(cs y).length=1) {K:Heap->Prop} (hK:∀h',St h0 h' (L.set k (.sl ⟨some ⟨b,0,none⟩,n,c⟩ e 1 ((l.set x.toNat y).map cs)))->K h') :
  okAt h ⟨b,0+x.toNat*1,none⟩ m/\∀h',h'=hputs h ⟨b,0+x.toNat*1,none⟩ 0 vs->K h':=by
 have:NB (some ⟨b,0,none⟩) fun b o=>(0<=x/\x<(n:Int))/\(okAt h ⟨b,o+x.toNat*1,none⟩ m/\∀h',h'=hputs h ⟨b,o+x.toNat*1,none⟩ 0 vs->K h'):=hs.set k hk (by omega) hx0 hx1 y hv hm (K:=fun _ _ h'=>K h') (fun _ _ h' hh=>hK h' hh) hy;exact this.2
theorem eng_sta (L:List MR) (s:Sl) (k:Int) (eb wb:Nat) (osl:Sl) (T:List Tbr) (hT:T.length=L.length) (hF:∀(p:Nat) y t,L[p]?=some y->T[p]?=some t->TbF y.m t) :
  Sta (.blk eb [.slice s.a s.n s.c,.int .i64 k,.slice osl.a osl.n osl.c,.map (some wb)] 147 :: .sl osl 26 1 (T.map fun t=>slC t.o)::tabs T) fun h=>EngX h eb wb s k L osl (fun p=>(T.getD p default).o) fun p s=>((T.getD p default).q.getD s default).1:=by
 intro h0 h A' hA hs;have hm:∀i∈tabs T,i∈A':=fun i hi=>hA i (Yn _ (Yn _ hi));have gT:∀(p:Nat) x,L[p]?=some x->T[p]?=some (T.getD p default):=fun p x hx=>by
  have:=(Ya.1 hx).1;rw[Yo,Yi (by omega)];rfl
 refine⟨hs.atm (hA _ Yx),?_,fun p x hx=>?_,fun p x hx j hj=>?_⟩
 ·have:=hs.rwm (hA _ (Yn _ Yx)) (by omega);rw[map_range,hT] at this;exact this
 ·have gt:=gT p x hx;have hF:=hF p x _ hx gt;have:=hs.rwm (hm _ (tabs_o (Yb gt))) (by omega);rw[List.map_map,map_range,hF.l] at this;exact this
 ·have gt:=gT p x hx;have hF:=hF p x _ hx gt;generalize T.getD p default=t at *;have gq:t.q[j]?=some (t.q.getD j default):=by
   rw[Yo,Yi (by have:=hF.l;omega)];rfl
  have:=hs.rwm (hm _ (tabs_q (Yb gt) (Yb gq))) (by omega);rw[hF.q j _ gq] at this;exact this
set_option maxHeartbeats 6400000 in
theorem start32 (L:List MR) (s:Sl) (k:Int) (h:Heap) (hS:SyI h s L) (hV:SysV (L.map MR.m)) :
  Fn Pz 32 #[.slice s.a s.n s.c,.int .i64 k] h fun v h'=>∃(eb wb:Nat) (A:List It) (osl:Sl) (os:Nat->Sl) (qs:Nat->Nat->Sl),v=.pointer (some ⟨eb,0,none⟩)/\St h h' (.mp wb []::A)/\Sta A fun h=>EngX h eb wb s k L osl os qs:=by
 apply vc32 s k;unfold W32;have hn:=hS.r.ln;have hsm:=hS.r.sm;have hlm:(L.map MR.m).length=L.length:=Yc _;have hV6:=hV.n;rw[hlm] at hV6;refine (St.refl h).mmake 144 fun h3 E3 hs=>⟨_,rfl,?_⟩;refine hs.newb fun h4 hs=>?_;obtain⟨eb,heb⟩:∃eb,eb=h3.size:=⟨_,rfl⟩;rw[<-heb] at hs ⊢;have hs:=hs.nil_ 26 1;have hs:=hs.picks (L':=[.mp h.size [],.blk eb [.slice s.a s.n s.c,.int .i64 k,.slice none 0 0,.map (some h.size)] 147,.sl ⟨none,0,0⟩ 26 1 []]) [2,1,0] (by decide) rfl;refine⟨fun x h' μ=>∃(i:Nat) (T:List Tbr) (osl:Sl),x=(i:Int)/\μ=L.length-i/\i<=L.length/\T.length=i/\(∀(p:Nat) y t,L[p]?=some y->T[p]?=some t->TbF y.m t) /\
  St h h' (.mp h.size [] :: .blk eb [.slice s.a s.n s.c,.int .i64 k,.slice osl.a osl.n osl.c,.map (some h.size)] 147 :: .sl osl 26 1 (T.map fun t=>slC t.o)::tabs T),⟨_,0,[],⟨none,0,0⟩,rfl,rfl,Nat.zero_le _,rfl,fun p y t _ ht=>(by cases ht),hs⟩,?_⟩
 clear hs;rintro-_ h9 μ ⟨i,T,osl,rfl,rfl,hi,hTl,hF,hs⟩;refine sBi (fun c1=>?_) (fun c1=>?_)
 ·obtain⟨y,gy⟩:=get_some (l:=L) (i:=i) (by omega);have gm:(L.map MR.m)[i]?=some y.m:=by rw[Yd,gy];rfl
  have hM:=hS.i y (Yb gy);have hvm:=hV.m i y.m gm;have hN:=hvm.2.1.n;have hmn:=hM.pm.ln;have hmm:=hM.pm.sm;have hNn:=hN.n;have hml:=hN.ml;have hmx:y.m.n.toNat<=maxLen:=by simp only[maxLen];omega
  refine (hS.r.rw.ext hs.ext).nbI (by omega) (by omega) fun b10 o11 y' gy' t=>?_;rw[Ys] at gy';replace gy':L[i]?=some y':=gy';rw[gy] at gy';cases gy';refine⟨_,_,_,_,_,_,t,?_⟩;have hbm9:h.size<=h9.size:=hs.ext.1;refine hs.newput (vs:=MR.cs y) rfl rfl fun h19 hs=>?_;refine⟨y.m.n,hs.rd 0 rfl (i:=1) rfl,⟨by omega,by omega,by omega⟩,?_⟩;rw[made42];refine hs.newb fun h21 hs=>?_;have hs:=hs.blkS y.m.n.toNat 1 _ rfl (slrows _) (by rw[Yc,Yg]) hmx;have hrep:((List.replicate y.m.n.toNat ((⟨none,0,0⟩,[]):Sl × List Int)).map Prod.fst)=List.replicate y.m.n.toNat (⟨none,0,0⟩:Sl):=List.map_replicate;generalize hO:(.mp h.size [] :: .blk eb [.slice s.a s.n s.c,.int .i64 k,.slice osl.a osl.n osl.c,.map (some h.size)] 147 :: .sl osl 26 1 (T.map fun t=>slC t.o)::tabs T:List It)=O at *;have hs:St h h21 (tbP y h9.size ⟨some ⟨h19.size,0,none⟩,y.m.n.toNat,y.m.n.toNat⟩ (List.replicate y.m.n.toNat (⟨none,0,0⟩,[]))++(List.replicate y.m.n.toNat ((⟨none,0,0⟩,[]):Sl × List Int)).map (nest 3 1 inC)++O):=by
   have h1:St h h21 (tbP y h9.size ⟨some ⟨h19.size,0,none⟩,y.m.n.toNat,y.m.n.toNat⟩ (List.replicate y.m.n.toNat (⟨none,0,0⟩,[]))++O):=by
    unfold tbP;rw[hrep];exact hs
   exact h1.nests (α:=Int) (e:=3) (k:=1) (cs:=inC) y.m.n.toNat
  refine⟨y.g,hs.rd 1 rfl (i:=4) rfl,?_⟩;refine up_loop (n:=y.g.n) (fun i h'=>∃qs,TbL y.m i qs/\St h h' (tbP y h9.size ⟨some ⟨h19.size,0,none⟩,y.m.n.toNat,y.m.n.toNat⟩ qs++qs.map (nest 3 1 inC)++O)) ⟨_,TbL.start y.m,hs⟩ ?_;clear hs;rintro-j h27 hj ⟨qs,hL,hs⟩;refine sB_intro (fun c=>?_) (fun c=>?_)
  ·replace c:=lt_t c;refine (hM.pm.ext hs.ext).rw.nbI (by omega) (by omega) fun b23 o24 x gx t=>?_;replace gx:y.m.mv[j]?=some x:=gx;have hx:=hN.mv x (Yb gx);obtain⟨f,hf⟩:∃f:Nat,x.f=f:=⟨x.f.toNat,by omega⟩;obtain⟨q,hq⟩:=get_some (l:=qs) (i:=f) (by rw[hL.l];omega);have hql:=hL.len hq;have hqn:q.1.n=q.2.length:=by
    have:=hs.len (2+f) (s:=q.1) (e:=3) (n:=1) (rows:=q.2.map inC) (by
     have:=get_mid (P:=tbP y h9.size ⟨some ⟨h19.size,0,none⟩,y.m.n.toNat,y.m.n.toNat⟩ qs) (Q:=qs.map (nest 3 1 inC)) (R:=O) (i:=f) (by rw[Yc];exact (Ya.1 hq).1);rw[show (tbP y h9.size ⟨some ⟨h19.size,0,none⟩,y.m.n.toNat,y.m.n.toNat⟩ qs).length=2 from rfl] at this;rw[this,Yd,hq];rfl) (by omega)
    rw[this.1,Yc]
   refine⟨_,_,_,_,_,_,t,?_⟩;refine hs.newput (vs:=x.cs) rfl rfl fun h37 hs=>?_;refine⟨_,hs.rd 0 rfl (i:=0) rfl,_,hs.rd 0 rfl (i:=0) rfl,⟨by omega,by omega⟩,?_⟩;have hqs:(qs.map Prod.fst)[x.f.toNat]?=some q.1:=by rw[Yd,show x.f.toNat=f by omega,hq];rfl
   refine⟨q.1,Rw.one (l:=qs.map Prod.fst) (cs:=slC) (hs.rows 1 rfl (by omega)) (by omega) (by omega) hqs rfl,?_⟩;refine hs.newbE fun h41 E41 hs=>⟨E41.sm,?_⟩;have hs':St h h41 ((.blk h37.size (inC (j:Int)) 3 :: .blk h27.size x.cs 116::tbP y h9.size ⟨some ⟨h19.size,0,none⟩,y.m.n.toNat,y.m.n.toNat⟩ qs)++qs.map (nest 3 1 inC)++O):=hs;refine hs'.nestAt hq app42 (j:Int) (hs'.at 0 rfl (n:=1) rfl) rfl rfl (by omega) (by simp only[maxLen];omega) fun r h42 hr hs3=>⟨sm_cons (hs'.same hs3 1 1 rfl rfl) sm_nil,⟨by omega,by omega⟩,?_⟩;refine hs3.set0 2 (cs:=slC) (l:=qs.map Prod.fst) rfl (by omega) (by omega) r rfl rfl rfl fun h45 hs4=>?_;refine Up.next c (by omega) ⟨qs.set f (r,q.2++[(j:Int)]),hL.next gx hf hq,?_⟩;unfold tbP;rw[fst_set];rw[hf] at hs4;exact hs4.drop 2
  ·replace c:=lt_f c;have him:j=y.m.mv.length:=by omega
   subst him;have hS0:TbS y.m 0 qs:=⟨hL.l,fun n q hq=>⟨_,hL.q n q hq,List.Perm.refl _,fun hn=>by omega⟩,hL.e⟩;refine up_loop (n:=Int.toNat y.m.n) (fun i h'=>∃qs,TbS y.m i qs/\St h h' (tbP y h9.size ⟨some ⟨h19.size,0,none⟩,y.m.n.toNat,y.m.n.toNat⟩ qs++qs.map (nest 3 1 inC)++O)) ⟨qs,hS0,hs⟩ ?_;clear hs hS0 hL;rintro-a h52 ha ⟨qs,hS',hs⟩;have hl:=hS'.l;refine sB_intro (fun c=>?_) (fun c=>?_)
   ·replace c:=lt_t c;obtain⟨q,hq⟩:=get_some (l:=qs) (i:=a) (by omega);have hqs:(qs.map Prod.fst)[((a:Nat):Int).toNat]?=some q.1:=by rw[Ys,Yd,hq];rfl
    refine⟨⟨by omega,by omega⟩,q.1,Rw.one (l:=qs.map Prod.fst) (cs:=slC) (hs.rows 0 rfl (by omega)) (by omega) (by omega) hqs rfl,?_⟩;obtain⟨l,hql,hlp,_⟩:=hS'.q a q hq;have hilt:=(Ya.1 hq).1;have hidx:(tbP y h9.size ⟨some ⟨h19.size,0,none⟩,y.m.n.toNat,y.m.n.toNat⟩ qs++qs.map (nest 3 1 inC)++O)[2+a]?=some (.sl q.1 3 1 ((natI l).map inC)):=by
     have:=get_mid (P:=tbP y h9.size ⟨some ⟨h19.size,0,none⟩,y.m.n.toNat,y.m.n.toNat⟩ qs) (Q:=qs.map (nest 3 1 inC)) (R:=O) (i:=a) (by rw[Yc];exact hilt);rw[show (tbP y h9.size ⟨some ⟨h19.size,0,none⟩,y.m.n.toNat,y.m.n.toNat⟩ qs).length=2 from rfl] at this;rw[this,Yd,hq,<-hql];rfl
    have hlm':∀z∈l,z<y.m.mv.length:=fun z hz=>by
     obtain⟨x,hx,_⟩:=outIx_mem.1 (hlp.mem_iff.1 hz);exact (Ya.1 hx).1
    have hll:l.length<=1048576:=by
     rw[hlp.length_eq];unfold outIx;exact Yys (List.length_filter_le _ _) (by rw[Yyd];omega)
    have hbg:(tbP y h9.size ⟨some ⟨h19.size,0,none⟩,y.m.n.toNat,y.m.n.toNat⟩ qs++qs.map (nest 3 1 inC)++O)[1]?=some (.blk h9.size (MR.cs y) 88):=rfl;have hap:∀b,q.1.a.map (·.block)=some b->b≠h9.size:=fun b hb e=>by
     have h1:=(List.pairwise_iff_getElem.1 hs.ap) 1 (2+a) (Ya.1 hbg).1 (Ya.1 hidx).1 (by omega);rw[(Ya.1 hbg).2,(Ya.1 hidx).2] at h1;exact h1 h9.size rfl (by show q.1.a.map (·.block)=_;rw[hb,e])
    have hfr:∀b,q.1.a.map (·.block)=some b->h.size<=b:=fun b hb=>(hs.ok _ (Yb hidx)).2 b hb;refine (sort64 y.m y.g ⟨h9.size,0,none⟩ hs (2+a) hidx hlm' (fun hl0=>hS'.e a q hq (by rw[hql,hl0];rfl)) (by omega) hll fun h' hsz hoth=>?_).mono ?_
    ·have E':Ext h h':=⟨Yys hs.ext.1 hsz,fun c hc=>by
      rw[hoth c (by have:=hs.ext.1;omega) fun e=>by have:=hfr c e;omega];exact hs.ext.2 c hc⟩
     refine⟨?_,hM.pm.rw.ext E'⟩;have h1:hc h52 ⟨h9.size,0+4,none⟩=some (.slice y.g.a y.g.n y.g.c):=hs.rd 1 rfl rfl;rw[hc_of_block (h:=h52) (by
      show h'[h9.size]?=h52[h9.size]?;refine hoth h9.size (hc_blk h1) fun e=>hap h9.size e rfl)]
     exact h1
    ·rintro _ h57 ⟨rfl,l',hp',hs'',hst⟩;refine⟨rfl,?_⟩;have hset:(tbP y h9.size ⟨some ⟨h19.size,0,none⟩,y.m.n.toNat,y.m.n.toNat⟩ qs++qs.map (nest 3 1 inC)++O).set (2+a) (.sl q.1 3 1 ((natI l').map inC))=tbP y h9.size ⟨some ⟨h19.size,0,none⟩,y.m.n.toNat,y.m.n.toNat⟩ (qs.set a (q.1,natI l'))++(qs.set a (q.1,natI l')).map (nest 3 1 inC)++O:=by
      have h1:=set_mid (P:=tbP y h9.size ⟨some ⟨h19.size,0,none⟩,y.m.n.toNat,y.m.n.toNat⟩ qs) (R:=O) (Q:=qs.map (nest 3 1 inC)) (i:=a) (by rw[Yc];exact hilt) (.sl q.1 3 1 ((natI l').map inC));rw[show (tbP y h9.size ⟨some ⟨h19.size,0,none⟩,y.m.n.toNat,y.m.n.toNat⟩ qs).length=2 from rfl] at h1;rw[h1,List.map_set];have h2:tbP y h9.size ⟨some ⟨h19.size,0,none⟩,y.m.n.toNat,y.m.n.toNat⟩ (qs.set a (q.1,natI l'))=tbP y h9.size ⟨some ⟨h19.size,0,none⟩,y.m.n.toNat,y.m.n.toNat⟩ qs:=by
       unfold tbP;rw[fst_set,list_set_self (by rw[Yd,hq];rfl)]
      rw[h2];rfl
     rw[hset] at hst;refine Up.next c (by omega) ⟨qs.set a (q.1,natI l'),⟨by rw[Yyh];exact hl,fun n q' hq'=>?_,fun n q' hq' he=>?_⟩,hst⟩;rotate_left
     ·by_cases e:n=a
      ·subst e;rw[Yq hilt] at hq';cases hq';have hl0:l'=[]:=by
        cases l' with
        | nil=>rfl
        | cons a r=>cases he
       subst hl0;exact hS'.e n q hq (by rw[hql,List.nil_perm.1 hp'];rfl)
      ·rw[Yy (fun h=>e h.symm)] at hq';exact hS'.e n q' hq' he
     by_cases e:n=a
     ·subst e;rw[Yq hilt] at hq';cases hq';exact⟨l',rfl,hp'.trans hlp,fun _=>hs''⟩
     ·rw[Yy (fun h=>e h.symm)] at hq';obtain⟨l2,k1,k2,k3⟩:=hS'.q n q' hq';exact⟨l2,k1,k2,fun hn=>k3 (by omega)⟩
   ·replace c:=lt_f c;have hs:=hs.perm List.perm_append_comm;rw[<-hO] at hs;have hon:=hs.len 2 (s:=osl) rfl (by omega);rw[Yc,hTl] at hon;refine⟨osl,hs.rd 1 rfl (i:=2) rfl,?_⟩;refine hs.app 2 (s:=osl) (n:=1) (rows:=T.map fun t=>slC t.o) rfl app145 (m:=1) [slC ⟨some ⟨h19.size,0,none⟩,y.m.n.toNat,y.m.n.toNat⟩] rfl rfl (fun r hr=>by rw[Ye] at hr;rw[hr];rfl) rfl (by omega) (by simp only[maxLen];omega) fun r2 h58 nr hs=>?_;refine hs.put 1 rfl (o:=2) (vs:=[.slice r2.a r2.n r2.c]) rfl (show 3<=4 by decide) fun h59 hs=>?_;refine⟨_,(show L.length-(i+1)<L.length-i by omega),i+1,T++[⟨⟨some ⟨h19.size,0,none⟩,y.m.n.toNat,y.m.n.toNat⟩,qs⟩],r2,by rw[w64 (by omega) (by omega)];omega,rfl,by omega,by rw[Yh,hTl];rfl,fun p y' t hy' ht=>?_,?_⟩
    ·by_cases e:p=i
     ·subst e;rw[gy] at hy';cases hy';rw[Yyc (by omega),hTl,Nat.sub_self] at ht;cases ht;refine⟨rfl,hl,fun j q hq=>?_⟩;obtain⟨l,k1,k2,k3⟩:=hS'.q j q hq;have hjl:=(Ya.1 hq).1;dsimp only at hjl;rw[k1,mvS_eq hvm.2.1.d k2 (k3 (by omega))]
     ·have htl:=(Ya.1 ht).1;rw[Yh,Yv] at htl;rw[Yyi (by omega)] at ht;exact hF p y' t hy' ht
    ·rw[tabs_snoc,Ym];refine hs.sub ?_;refine .cons_cons _ (.cons_cons _ (.cons_cons _ ?_));refine List.Sublist.append (l₁:=tabs T) (List.Sublist.refl _) ?_;exact .cons_cons _ (.cons _ (List.Sublist.refl _))
 ·have hil:i=L.length:=by omega
  exact⟨eb,h.size,_,osl,_,_,rfl,hs,eng_sta L s k eb h.size osl T (by omega) hF⟩
def zigN (n:Int):Nat:=if 0<=n then (2*n).toNat else (-2*n-1).toNat
theorem zig_inj {a b:Int} (h:zigN a=zigN b):a=b:=by
 unfold zigN at h;split at h<;>split at h<;>omega
theorem zig_lt {n:Int} (h0:-9223372036854775808<=n) (h1:n<=9223372036854775807):zigN n<18446744073709551616:=by
 unfold zigN;split<;>omega
def venc (u:Nat):List Int:=if h:u<128 then [(u:Int)] else ((u%128+128:Nat):Int)::venc (u/128)
termination_by u
decreasing_by omega
theorem venc_lt {u:Nat} (h:u<128):venc u=[(u:Int)]:=by rw[venc,dif_pos h]
theorem venc_ge {u:Nat} (h:¬u<128):venc u=((u%128+128:Nat):Int)::venc (u/128):=by rw[venc,dif_neg h]
theorem venc_inj:∀(u v:Nat) (r s:List Int),venc u++r=venc v++s->u=v/\r=s:=by
 intro u
 induction u using Nat.strongRecOn with
 | ind u ih=>
  intro v r s h;by_cases hu:u<128
  ·rw[venc_lt hu] at h;by_cases hv:v<128
   ·rw[venc_lt hv,List.cons_append,List.cons_append,List.nil_append,List.nil_append] at h;injection h with h1 h2;exact⟨by omega,h2⟩
   ·rw[venc_ge hv,List.cons_append,List.cons_append] at h;injection h with h1 h2;omega
  ·rw[venc_ge hu] at h;by_cases hv:v<128
   ·rw[venc_lt hv,List.cons_append,List.cons_append] at h;injection h with h1 h2;omega
   ·rw[venc_ge hv,List.cons_append,List.cons_append] at h;injection h with h1 h2;obtain⟨h3,h4⟩:=ih (u/128) (by omega) _ _ _ h2;exact⟨by omega,h4⟩
theorem venc_len:∀(k u:Nat),u<128^(k+1)->(venc u).length<=k+1
 | 0,u,h=>by rw[venc_lt (by simpa using h)];exact Yyt _
 | k+1,u,h=>by
  by_cases hu:u<128
  ·rw[venc_lt hu];simp
  ·rw[venc_ge hu,Yyj];have:=venc_len k (u/128) (by rw[Nat.div_lt_iff_lt_mul (by decide)];rw[Nat.pow_succ] at h;exact h);omega
theorem venc_byte:∀(u:Nat),∀x∈venc u,0<=x/\x<256:=by
 intro u
 induction u using Nat.strongRecOn with
 | ind u ih=>
  intro x hx;by_cases hu:u<128
  ·rw[venc_lt hu,Ye] at hx;omega
  ·rw[venc_ge hu,Yr] at hx;rcases hx with rfl | hx
   ·omega
   ·exact ih (u/128) (by omega) x hx
def I64 (n:Int):Prop:=-9223372036854775808<=n/\n<=9223372036854775807
def encI (n:Int):List Int:=venc (zigN n)
theorem encI_len {n:Int} (h:I64 n):(encI n).length<=10:=venc_len 9 _ (Nat.lt_of_lt_of_le (zig_lt h.1 h.2) (by decide))
theorem encI_byte {n:Int}:∀x∈encI n,0<=x/\x<256:=venc_byte _
theorem encI_inj {a b:Int} {r s:List Int} (h:encI a++r=encI b++s):a=b/\r=s:=by
 obtain⟨h1,h2⟩:=venc_inj _ _ _ _ h;exact⟨zig_inj h1,h2⟩
def encL (X:List Int):List Int:=encI X.length++X.flatMap encI
theorem flat_inj {α:Type} {f:α->List Int} (hf:∀a b r s,f a++r=f b++s->a=b/\r=s):∀(X Y:List α) (r s:List Int),X.length=Y.length->X.flatMap f++r=Y.flatMap f++s->X=Y/\r=s
 | [],[],r,s,_,h=>⟨rfl,h⟩
 | a::X,b::Y,r,s,hl,h=>by
  rw[List.flatMap_cons,List.flatMap_cons,Yz,Yz] at h;obtain⟨h1,h2⟩:=hf _ _ _ _ h;obtain⟨h3,h4⟩:=flat_inj hf X Y r s (Nat.succ.inj hl) h2;exact⟨by rw[h1,h3],h4⟩
 | [],b::Y,r,s,hl,h=>by cases hl
 | a::X,[],r,s,hl,h=>by cases hl
theorem encL_inj {X Y:List Int} {r s:List Int} (h:encL X++r=encL Y++s):X=Y/\r=s:=by
 unfold encL at h;rw[Yz,Yz] at h;obtain⟨h1,h2⟩:=encI_inj h;exact flat_inj (fun _ _ _ _=>encI_inj) X Y r s (by omega) h2
theorem flat_len {α:Type} {f:α->List Int} {c:Nat}:∀(X:List α),(∀a∈X,(f a).length<=c)->(X.flatMap f).length<=X.length*c
 | [],_=>Nat.zero_le _
 | a::X,h=>by
  rw[List.flatMap_cons,Yh,Yyj,Nat.succ_mul];have h1:=h a Yx;have h2:=flat_len X fun b hb=>h b (Yn _ hb);omega
theorem flat_byte {α:Type} {f:α->List Int} (hf:∀a,∀x∈f a,0<=x/\x<256) (X:List α):∀x∈X.flatMap f,0<=x/\x<256:=fun x hx=>by
 obtain⟨a,_,h⟩:=List.mem_flatMap.1 hx;exact hf a x h
theorem encL_byte {X:List Int}:∀x∈encL X,0<=x/\x<256:=fun x hx=>by
 unfold encL at hx;rcases Yk.1 hx with h | h
 ·exact encI_byte x h
 ·exact flat_byte (fun _=>encI_byte) X x h
theorem encL_len {X:List Int} (hX:∀x∈X,I64 x) (hl:X.length<=9223372036854775807):(encL X).length<=10+X.length*10:=by
 unfold encL;rw[Yh];have h1:=encI_len (n:=(X.length:Int)) ⟨by omega,by omega⟩;have h2:=flat_len (f:=encI) (c:=10) X fun a ha=>encI_len (hX a ha);omega
def encC (S:List Int) (BL:List (List Int)):List Int:=encL S++(encI BL.length++BL.flatMap encL)
theorem encC_inj {S S':List Int} {BL BL':List (List Int)} (h:encC S BL=encC S' BL'):S=S'/\BL=BL':=by
 unfold encC at h;obtain⟨h1,h2⟩:=encL_inj h;obtain⟨h3,h4⟩:=encI_inj h2;have h5:=flat_inj (f:=encL) (fun _ _ _ _=>encL_inj) BL BL' [] [] (by omega) (by rw[Yw,Yw];exact h4);exact⟨h1,h5.1⟩
theorem encC_byte {S:List Int} {BL:List (List Int)}:∀x∈encC S BL,0<=x/\x<256:=fun x hx=>by
 unfold encC at hx;rcases Yk.1 hx with h | h
 ·exact encL_byte x h
 ·rcases Yk.1 h with h | h
  ·exact encI_byte x h
  ·exact flat_byte (fun _=>encL_byte) BL x h
/-! ### What the words of bits are -/
theorem zig_bits {n:Int} (h:I64 n):xorI .u64 (shlI .u64 (IntKind.wrap .u64 n) 1) (IntKind.wrap .u64 (shrI .i64 n 63))=(zigN n:Int):=by
 obtain⟨h0,h1⟩:=h;have e63:min (Int.toNat 63) (IntKind.bits .i64)=63:=by decide
 have e1:min (Int.toNat 1) (IntKind.bits .u64)=1:=by decide
 have es:shrI .i64 n 63=n/9223372036854775808:=by
  unfold shrI;rw[e63,Int.fdiv_eq_ediv_of_nonneg _ (by decide)];rfl
 have ex:∀a b:Nat,a<2^64->b<2^64->xorI .u64 (a:Int) (b:Int)=((a ^^^ b:Nat):Int):=fun a b ha hb=>by
  unfold xorI;have e:(BitVec.ofInt (IntKind.bits .u64) (a:Int) ^^^ BitVec.ofInt (IntKind.bits .u64) (b:Int)).toNat=a ^^^ b:=by
   show (BitVec.ofInt 64 (a:Int) ^^^ BitVec.ofInt 64 (b:Int)).toNat=_;rw[BitVec.ofInt_natCast,BitVec.ofInt_natCast,BitVec.toNat_xor,BitVec.toNat_ofNat,BitVec.toNat_ofNat,Nat.mod_eq_of_lt ha,Nat.mod_eq_of_lt hb]
  rw[e];have:=Nat.xor_lt_two_pow ha hb;exact wu64 (by omega) (by omega)
 rw[es];unfold shlI;rw[e1];by_cases hn:0<=n
 ·have ez:n/9223372036854775808=0:=by omega
  rw[ez,wu64 (n:=n) hn (by omega),show n*2^1=2*n by omega,wu64 (n:=2*n) (by omega) (by omega),wu64 (n:=0) (by decide) (by decide)];obtain⟨m,rfl⟩:∃m:Nat,n=(m:Int):=⟨n.toNat,by omega⟩;rw[show (2:Int)*(m:Int)=((2*m:Nat):Int) by omega];have:=ex (2*m) 0 (by omega) (by decide);rw[Nat.xor_zero] at this;unfold zigN;rw[if_pos hn];refine this.trans ?_;omega
 ·have ez:n/9223372036854775808=-1:=by omega
  have ew:IntKind.wrap .u64 n=n+18446744073709551616:=by
   simp[IntKind.wrap,IntKind.signed,IntKind.bits];omega
  have ew2:IntKind.wrap .u64 ((n+18446744073709551616)*2^1)=2*n+18446744073709551616:=by
   simp[IntKind.wrap,IntKind.signed,IntKind.bits];omega
  have ew3:IntKind.wrap .u64 (-1)=((18446744073709551615:Nat):Int):=by decide
  rw[ez,ew,ew2,ew3];obtain⟨m,hm⟩:∃m:Nat,2*n+18446744073709551616=(m:Int):=⟨(2*n+18446744073709551616).toNat,by omega⟩;rw[hm,ex m 18446744073709551615 (by omega) (by decide)];have hx:m ^^^ 18446744073709551615=18446744073709551615-m:=by
   have h2:(BitVec.ofNat 64 m ^^^ BitVec.allOnes 64).toNat=(~~~ (BitVec.ofNat 64 m)).toNat:=by rw[BitVec.xor_allOnes]
   rw[BitVec.toNat_xor,BitVec.toNat_not,BitVec.toNat_allOnes,BitVec.toNat_ofNat,Nat.mod_eq_of_lt (show m<2^64 by omega)] at h2;exact h2
  rw[hx];unfold zigN;rw[if_neg hn];omega
theorem or128 {b:Nat} (h:b<256):b|||128=b%128+128:=by
 have key:∀b<256,b|||128=b%128+128:=by decide
 exact key b h
theorem or_bits {u:Nat}:orI .u8 (IntKind.wrap .u8 (u:Int)) 128=((u%128+128:Nat):Int):=by
 have ew:IntKind.wrap .u8 (u:Int)=((u%256:Nat):Int):=by
  simp[IntKind.wrap,IntKind.signed,IntKind.bits]
 rw[ew];unfold orI;have e:(BitVec.ofInt (IntKind.bits .u8) ((u%256:Nat):Int)|||BitVec.ofInt (IntKind.bits .u8) 128).toNat=u%128+128:=by
  show (BitVec.ofInt 8 ((u%256:Nat):Int)|||BitVec.ofInt 8 ((128:Nat):Int)).toNat=_;rw[BitVec.ofInt_natCast,BitVec.ofInt_natCast,BitVec.toNat_or,BitVec.toNat_ofNat,BitVec.toNat_ofNat,Nat.mod_eq_of_lt (show u%256<2^8 by omega),Nat.mod_eq_of_lt (show 128<2^8 by decide),or128 (by omega)];omega
 rw[e];exact wu8 (by omega) (by omega)
theorem shr7 {u:Nat}:shrI .u64 (u:Int) 7=((u/128:Nat):Int):=by
 have:=shr_nat (w:=u) (k:=7) (by decide);exact this
end Go.VC
end

section
namespace Go.VC
open Go.Proofs
variable {h:Heap} {R:Value->Heap->Prop}

def W67 (p0:Sl) (p1:Int):Prop:=
 0<=(1:Int)/\0<=(63:Int)/\QSI p0 (xorI .u64 (shlI .u64 (IntKind.wrap .u64 p1) 1) (IntKind.wrap .u64 (shrI .i64 p1 63))) h fun I1 b_4 u_5 h6 m3=>
 sB (decide (u_5>=128))
 (Wn h6 [.int .u8 (orI .u8 (IntKind.wrap .u8 u_5) 128)] 5 fun h7=>
 App Pz 60 60 (vS b_4) (.slice (some (aS h6 0)) 1 1) h7 fun s8 h9=>
 0<=(7:Int)/\∃m10,m10<m3/\I1 s8 (shrI .u64 u_5 7) h9 m10)
 (Wn h6 [.int .u8 (IntKind.wrap .u8 u_5)] 5 fun h11=>
 App Pz 60 60 (vS b_4) (.slice (some (aS h6 0)) 1 1) h11 fun s12 h13=>
 R (vS s12) h13)
theorem vc67 (p0:Sl) (p1:Int) (H:@W67 h R p0 p1):Fn Pz 67 #[vS p0,vI p1] h R:=fnI (A:=(.s .z (.s .z (.s (.b (.l [(0,.one (.slice)),(5,.one (.int .u64))] .z)) .z)))) (by kernel_rfl) H

def W68 (p0 p1:Sl):Prop:=
 Fn Pz 67 #[vS p0,vI (p1.n:Int)] h
 (fun v1 h3=>∃x2,iS v1 x2 /\
 QSI x2 0 h3 fun I4 b_7 x_8 h9 m6=>
 sB (decide (x_8<(p1.n:Int)))
 (NB p1.a fun b10 o11=>Ib x_8 p1.n /\
 ∃x12,rI h9 ⟨b10,o11+Int.toNat x_8*1,none⟩ x12 /\
 Fn Pz 67 #[vS b_7,vI x12] h9
 (fun v13 h15=>∃x14,iS v13 x14 /\
 ∃m16,m16<m6/\I4 x14 (IntKind.wrap .i64 (x_8+1)) h15 m16))
 (R (vS b_7) h9))
theorem vc68 (p0 p1:Sl) (H:@W68 h R p0 p1):Fn Pz 68 #[vS p0,vS p1] h R:=fnI (A:=(.s .z (.s .z (.s (.s .z (.b (.l [(0,.one (.slice)),(13,.one (.int .i64))] .z))) .z)))) (by kernel_rfl) H

def W33 (p0_1 p0_2:Sl):Prop:=
 Wn h [vS p0_1,vS p0_2] 50 fun h3=>
 ∃x4,rS h3 (aS h 0) x4 /\
 ∃x5,rS h3 (aS h 1) x5 /\
 Fn Pz 68 #[.slice none 0 0,vS x4] h3
 (fun v6 h8=>∃x7,iS v6 x7 /\
 Sm [(aS h 1)] h3 h8 /\
 Fn Pz 67 #[vS x7,vI (x5.n:Int)] h8
 (fun v9 h11=>∃x10,iS v9 x10 /\
 ∃x12,rS h11 (aS h 1) x12 /\
 QSI x10 0 h11 fun I13 b_16 x_17 h18 m15=>
 sB (decide (x_17<(x12.n:Int)))
 (NB x12.a fun b19 o20=>Ib x_17 x12.n /\
 ∃x21,rS h18 ⟨b19,o20+Int.toNat x_17*1,none⟩ x21 /\
 Fn Pz 68 #[vS b_16,vS x21] h18
 (fun v22 h24=>∃x23,iS v22 x23 /\
 ∃m25,m25<m15/\I13 x23 (IntKind.wrap .i64 (x_17+1)) h24 m25))
 (R (vS b_16) h18)))
theorem vc33 (p0_1 p0_2:Sl) (H:@W33 h R p0_1 p0_2):Fn Pz 33 #[.agg ⟨[vS p0_1,vS p0_2]⟩] h R:=fnI (A:=(.s .z (.s .z (.s (.s .z (.b (.l [(3,.one (.slice)),(16,.one (.int .i64))] .z))) .z)))) (by kernel_rfl) H

end Go.VC
end

section
namespace Go.VC
open Go.Proofs Go.LexS
theorem app48:appB Pz 60 5 1 1=true:=by kernel_rfl
set_option maxHeartbeats 800000 in
theorem int65 (b:Sl) (xs:List Int) (n:Int) (h0 h:Heap) (L:List It) (hs:St h0 h (.sl b 5 1 (xs.map u8C)::L)) (hn:I64 n) (hl:xs.length<=100000000) :
  Fn Pz 67 #[.slice b.a b.n b.c,.int .i64 n] h fun v h'=>∃b':Sl,v=.slice b'.a b'.n b'.c/\St h0 h' (.sl b' 5 1 ((xs++encI n).map u8C)::L):=by
 apply vc67 b n;unfold W67;rw[zig_bits hn];refine⟨by decide,by decide,?_⟩;have hz:=zig_lt hn.1 hn.2;refine⟨fun b u h' μ=>∃(v:Nat) (pre:List Int),u=(v:Int)/\μ=v/\v<18446744073709551616/\pre++venc v=encI n/\St h0 h' (.sl b 5 1 ((xs++pre).map u8C)::L),⟨_,zigN n,[],rfl,rfl,hz,rfl,by rw[Yw];exact hs⟩,?_⟩;clear hs;rintro-b2 _ h6 μ ⟨v,pre,rfl,hμ,hv,he,hs⟩;have hlen:=(hs.rows 0 (s:=b2) (cs:=u8C) rfl (by omega)).ln;have hpl:pre.length<=10:=by
  have h1:=congrArg List.length he;rw[Yh] at h1;have h2:=encI_len hn;omega
 rw[Yh] at hlen;refine sBi (fun c=>?_) (fun c=>?_)
 ·have hv1:¬v<128:=by omega
  rw[venc_ge hv1] at he;rw[or_bits];refine hs.app 0 (s:=b2) (rows:=(xs++pre).map u8C) rfl app48 (m:=1) [[.int .u8 ((v%128+128:Nat):Int)]] rfl rfl (by simp) rfl (by omega) (by simp only[maxLen];omega) fun s8 h9 ns hs=>?_;refine⟨by decide,v/128,by omega,v/128,pre++[((v%128+128:Nat):Int)],shr7,rfl,by omega,by rw[Yz];exact he,?_⟩;rw[<-Yz,Ym];exact hs
 ·have hv1:v<128:=by omega
  rw[venc_lt hv1] at he;rw[wu8 (n:=(v:Int)) (by omega) (by omega)];refine hs.app 0 (s:=b2) (rows:=(xs++pre).map u8C) rfl app48 (m:=1) [[.int .u8 (v:Int)]] rfl rfl (by simp) rfl (by omega) (by simp only[maxLen];omega) fun s12 h13 ns hs=>?_;refine⟨s12,rfl,?_⟩;rw[<-he,<-Yz,Ym];exact hs
set_option maxHeartbeats 800000 in
theorem ints66 (b:Sl) (xs X:List Int) (p1:Sl) (h0 h:Heap) (L:List It) (hs:St h0 h (.sl b 5 1 (xs.map u8C)::L)) (hX:RL h0 1 p1 inC X) (hI:∀x∈X,I64 x) (hl:xs.length<=50000000) (hXl:X.length<=1000000) :
  Fn Pz 68 #[.slice b.a b.n b.c,.slice p1.a p1.n p1.c] h fun v h'=>∃b':Sl,v=.slice b'.a b'.n b'.c/\St h0 h' (.sl b' 5 1 ((xs++encL X).map u8C)::L):=by
 apply vc68 b p1;unfold W68;have hn:=hX.ln;have hI0:I64 (p1.n:Int):=⟨by omega,by omega⟩;refine (int65 b xs (p1.n:Int) h0 h L hs hI0 (by omega)).mono ?_;rintro _ h3 ⟨b1,rfl,hs⟩;refine⟨b1,rfl,?_⟩;refine⟨fun b x h' μ=>∃i:Nat,x=(i:Int)/\μ=X.length-i/\i<=X.length/\St h0 h' (.sl b 5 1 ((xs++encI (p1.n:Int)++(X.take i).flatMap encI).map u8C)::L),⟨_,0,rfl,rfl,Nat.zero_le _,by rw[Yyk,List.flatMap_nil,Yw];exact hs⟩,?_⟩;clear hs;rintro-b2 _ h9 μ ⟨i,rfl,rfl,hi,hs⟩;refine sBi (fun c=>?_) (fun c=>?_)
 ·refine (hX.rw.ext hs.ext).nbI (by omega) (by omega) fun b10 o11 x gx t=>?_;replace gx:X[i]?=some x:=gx;refine⟨x,t.hd,?_⟩;have hfl:=flat_len (f:=encI) (c:=10) (X.take i) fun a ha=>encI_len (hI a (List.mem_of_mem_take ha));have h1:=encI_len hI0;have h2:(X.take i).length<=1000000:=by rw[Yu];omega
  refine (int65 b2 _ x h0 h9 L hs (hI x (Yb gx)) (by rw[Yh,Yh];omega)).mono ?_;rintro _ h15 ⟨b3,rfl,hs⟩;refine⟨b3,rfl,_,(show X.length-(i+1)<X.length-i by omega),i+1,by rw[w64 (by omega) (by omega)];omega,rfl,by omega,?_⟩;rw[take_snoc gx,List.flatMap_append,List.flatMap_cons,List.flatMap_nil,Yw,<-Yz];exact hs
 ·have hie:i=X.length:=by omega
  subst hie;rw[Yye] at hs;refine⟨b2,rfl,?_⟩;unfold encL;rw[<-hn,<-Yz];exact hs
structure EncOk (S:List Int) (BL:List (List Int)):Prop where
 s:∀x∈S,I64 x
 b:∀q∈BL,q.length<=1000/\∀x∈q,I64 x
 n:S.length<=1000/\BL.length<=1000
theorem EncOk.fl {S:List Int} {BL:List (List Int)} (h:EncOk S BL) (i:Nat):((BL.take i).flatMap encL).length<=10010000:=by
 have h1:=flat_len (f:=encL) (c:=10010) (BL.take i) fun q hq=>by
  obtain⟨h2,h3⟩:=h.b q (List.mem_of_mem_take hq);have:=encL_len h3 (by omega);omega
 have h2:(BL.take i).length<=1000:=by rw[Yu];have:=h.n.2;omega
 omega
set_option maxHeartbeats 800000 in
theorem encode35 (ss sb:Sl) (S:List Int) (B:List Bx) (h:Heap) (hC:CfI h ss sb S B) (hE:EncOk S (B.map Bx.l)) :
  Fn Pz 33 #[.agg ⟨[.slice ss.a ss.n ss.c,.slice sb.a sb.n sb.c]⟩] h fun v h'=>∃b:Sl,v=.slice b.a b.n b.c/\St h h' [.sl b 5 1 ((encC S (B.map Bx.l)).map u8C)]:=by
 apply vc33 ss sb;unfold W33;have hbn:=hC.b.ln;have hbm:(B.map Bx.l).length=B.length:=Yc _;obtain⟨hE1,hE2⟩:=hE.n;rw[hbm] at hE2;have hI0:I64 (sb.n:Int):=⟨by omega,by omega⟩;refine (St.refl h).newb fun h3 hs=>?_;refine⟨ss,hs.rd 0 rfl rfl,sb,hs.rd 0 rfl (i:=1) rfl,?_⟩;have hs3:=hs;have hs:St h h3 (.sl ⟨none,0,0⟩ 5 1 (([]:List Int).map u8C)::_):=hs.nil_ 5 1;refine (ints66 ⟨none,0,0⟩ [] S ss h h3 _ hs hC.s hE.s (by simp) (by omega)).mono ?_;rintro _ h8 ⟨b1,rfl,hs⟩;rw[List.nil_append] at hs;have hel:=encL_len hE.s (by omega);have hi0:=encI_len hI0;refine⟨b1,rfl,hs3.smbO hs 0 1 1 rfl rfl,?_⟩;refine (int65 b1 _ (sb.n:Int) h h8 _ hs hI0 (by omega)).mono ?_;rintro _ h11 ⟨b2,rfl,hs⟩;refine⟨b2,rfl,sb,hs.rd 1 rfl (i:=1) rfl,?_⟩;refine⟨fun b x h' μ=>∃i:Nat,x=(i:Int)/\μ=B.length-i/\i<=B.length/\St h h' [.sl b 5 1 ((encL S++encI (sb.n:Int)++((B.map Bx.l).take i).flatMap encL).map u8C),.blk h.size [.slice ss.a ss.n ss.c,.slice sb.a sb.n sb.c] 50],⟨_,0,rfl,rfl,Nat.zero_le _,by rw[Yyk,List.flatMap_nil,Yw];exact hs⟩,?_⟩;clear hs hs3;rintro-b3 _ h18 μ ⟨i,rfl,rfl,hi,hs⟩;refine sBi (fun c=>?_) (fun c=>?_)
 ·refine (hC.b.rw.ext hs.ext).nbI (by omega) (by omega) fun b19 o20 q gq t=>?_;replace gq:B[i]?=some q:=gq;have gq1:(B.map Bx.l)[i]?=some q.l:=by rw[Yd,gq];rfl
  obtain⟨hq1,hq2⟩:=hE.b q.l (Yb gq1);have hfl:=hE.fl i;refine⟨q.s,t.hd,?_⟩;refine (ints66 b3 _ q.l q.s h h18 _ hs (hC.i q (Yb gq)) hq2 (by rw[Yh,Yh];omega) (by omega)).mono ?_;rintro _ h24 ⟨b4,rfl,hs⟩;refine⟨b4,rfl,_,(show B.length-(i+1)<B.length-i by omega),i+1,by rw[w64 (by omega) (by omega)];omega,rfl,by omega,?_⟩;rw[take_snoc gq1,List.flatMap_append,List.flatMap_cons,List.flatMap_nil,Yw,<-Yz];exact hs
 ·have hie:i=(B.map Bx.l).length:=by omega
  rw[hie,Yye] at hs;refine⟨b3,rfl,?_⟩;unfold encC;rw[hbm,<-hbn,<-Yz];exact hs.sub (.cons_cons _ (List.nil_sublist _))
end Go.VC
end

section
namespace Go.VC
open Go.Proofs Go.LexS Go.Maps
abbrev Cf:=List Int × List (List Int)
abbrev Qe:=Cf × List (Nat × Nat)
def nxS (L:List Mch) (c:Cf) (q:Nat × Nat):Cf:=match L[q.1]? with
 | some m=>match m.mv[q.2]? with
  | some x=>(c.1.set q.1 x.t,doB L.length q.1 x c.2)
  | none=>c
 | none=>c
def exI (L:List Mch) (lim:Nat) (e:Qe):List (Nat × Nat)->List Qe->Option (List Qe)
 | [],Q=>some Q
 | q::r,Q=>if nxS L e.1 q∈Q.map Prod.fst then exI L lim e r Q else if Q.length=lim then none else exI L lim e r (Q++[(nxS L e.1 q,e.2++[q])])
inductive Res
 | bad (k:Int) (t:List (Nat × Nat))
 | unk
 | safe (Q:List Cf)
noncomputable def exO (L:List Mch) (k:Int) (lim:Nat):Nat->Nat->List Qe->Res
 | 0,_,Q=>.safe (Q.map Prod.fst)
 | f+1,i,Q=>match Q[i]? with
  | none=>.safe (Q.map Prod.fst)
  | some e=>if badS L k e.1.1 e.1.2≠0 then .bad (badS L k e.1.1 e.1.2) e.2 else match exI L lim e (stepsS L k e.1.1 e.1.2) Q with
   | none=>.unk
   | some Q'=>exO L k lim f (i+1) Q'
def q0 (L:List Mch):List Qe:=[((startS L,startB L),[])]
noncomputable def exS (L:List Mch) (k:Int) (lim:Nat):Res:=exO L k lim (lim+1) 0 (q0 L)
def mostS (n:Nat) (Q:List Cf):List Int:=Q.foldl (fun a c=>a.mapIdx fun i x=>imax x ((c.2.getD i []).length:Int)) (List.replicate (n*n) 0)
theorem nxS_of {L:List Mch} {c:Cf} {a b:Nat} {m:Mch} {x:Mv} (gm:L[a]?=some m) (gx:m.mv[b]?=some x):nxS L c (a,b)=(c.1.set a x.t,doB L.length a x c.2):=by
 unfold nxS;rw[gm];dsimp only;rw[gx]
def toB (l:List Int):List UInt8:=l.map fun x=>UInt8.ofNat x.toNat
theorem toB_c {l:List Int} (h:∀x∈l,0<=x/\x<256):(l.map u8C).flatten=byteC (toB l):=by
 induction l with
 | nil=>rfl
 | cons x r ih=>
  have hx:=h x Yx;rw[Yyl,Yyu,ih fun y hy=>h y (Yn _ hy)];show [Value.int .u8 x]++byteC (toB r)=Value.int .u8 ((UInt8.ofNat x.toNat).toNat:Int)::byteC (toB r);rw[UInt8.toNat_ofNat',Nat.mod_eq_of_lt (by omega),Int.toNat_of_nonneg hx.1];rfl
theorem toB_inj {l l':List Int} (h:∀x∈l,0<=x/\x<256) (h':∀x∈l',0<=x/\x<256) (e:toB l=toB l'):l=l':=by
 have back:∀ {l:List Int},(∀x∈l,0<=x/\x<256)->(toB l).map (fun b=>(b.toNat:Int))=l:=fun {l} h=>by
  unfold toB;rw[List.map_map];refine (List.map_congr_left fun x hx=>?_).trans (List.map_id _);have hx:=h x hx;show (((UInt8.ofNat x.toNat).toNat:Nat):Int)=x;rw[UInt8.toNat_ofNat',Nat.mod_eq_of_lt (by omega),Int.toNat_of_nonneg hx.1]
 rw[<-back h,<-back h',e]
def kyC (c:Cf):ByteArray:=bs (toB (encC c.1 c.2))
theorem kyC_inj {c d:Cf} (h:kyC c=kyC d):c=d:=by
 have h1:toB (encC c.1 c.2)=toB (encC d.1 d.2):=by
  have:=congrArg (fun b:ByteArray=>b.data.toList) h;exact this
 obtain⟨h2,h3⟩:=encC_inj (toB_inj encC_byte encC_byte h1);exact Prod.ext h2 h3
end Go.VC
end

section
namespace Go.VC
open Go.Proofs Go.LexS Go.Maps
theorem St.picksA {h0 h:Heap} {P P' A:List It} (hs:St h0 h (P++A)) (ks:List Nat) (nd:ks.Nodup) (hL:P'.map some=ks.map fun k=>P[k]?):St h0 h (P'++A):=by
 have hk:∀k∈ks,k<P.length:=fun k hk=>by
  have h1:P[k]?∈P'.map some:=by rw[hL];exact List.mem_map_of_mem hk
  obtain⟨x,_,h2⟩:=Yp.1 h1;exact (Ya.1 h2.symm).1
 refine hs.picks (ks++(List.range A.length).map fun j=>P.length+j) ?_ ?_
 ·rw[List.nodup_append];refine⟨nd,?_,fun a ha b hb=>?_⟩
  ·exact List.Pairwise.map _ (fun a b h=>by omega) List.nodup_range
  ·obtain⟨j,_,rfl⟩:=Yp.1 hb;have:=hk a ha;omega
 ·rw[Ym,Ym,hL];congr 1
  ·exact List.map_congr_left fun k h=>by rw[Yyi (hk k h)]
  ·rw[List.map_map];refine Yyr fun j=>?_;rw[Yd,Yd];by_cases hj:j<A.length
   ·rw[Yyb hj,Yi hj];show some (some A[j])=some ((P++A)[P.length+j]?);rw[Yyc (by omega),Nat.add_sub_cancel_left,Yi hj]
   ·rw[Yl (by omega),Yl (by rw[Yyd];omega)];rfl
theorem memP {P A:List It}:∀i∈A,i∈P++A:=fun _ hi=>List.mem_append_right _ hi
def kokB (s:ByteArray):Prop:=s.size<=maxLen
theorem M92:MT Pz 92 9 4 Value.string kokB (.bool false) where
 K:=Keyed.of_law (Go.WideMaps.string_law (by kernel_rfl))
 ht:=by kernel_rfl
 key:=fun s hs=>⟨_,Go.WideMaps.keyOf_string_mk (by kernel_rfl) hs⟩
 inj:=fun a b h=>Value.string.inj h
 z:=fun w=>by kernel_rfl
def vq (v:Vs):Qe:=((v.S,v.B.map Bx.l),v.tr)
def kyP (v:Vs):ByteArray × Bool:=(kyC (vq v).1,true)
def kyV (q:ByteArray × Bool):Value × Value:=(.string q.1,.bool q.2)
structure SeaV (L:List MR) (k:Int) (A:List It) (V:List Vs):Prop where
 c:∀v∈V,CfN A v.c1 v.c2 v.S v.B
 p:∀v∈V,ProS (L.map MR.m) k v.S (v.B.map Bx.l)
 t:TrOk V
 d:(V.map fun v=>(vq v).1).Nodup
theorem SeaV.mono {L:List MR} {k:Int} {A A':List It} {V:List Vs} (h:SeaV L k A V) (hA:∀i∈A,i∈A'):SeaV L k A' V:=⟨fun v hv=>(h.c v hv).mono hA,h.p,h.t,h.d⟩
theorem enc_pro {L:List Mch} {k:Int} {S:List Int} {BL:List (List Int)} (hP:ProS L k S BL):EncOk S BL:=by
 have h6:=hP.v.n;have h36:=sq6 h6.2;have hk:=hP.c;have hs:=hP.p.s;have hb:=hP.p.b;refine⟨fun x hx=>?_,fun q hq=>?_,by omega,by omega⟩
 ·obtain⟨p,gp⟩:=Yf.1 hx;have hp:=(Ya.1 gp).1;obtain⟨m,gm⟩:=get_some (l:=L) (i:=p) (by omega);have h1:=hP.p.st p x m gp gm;have h2:=(hP.v.m p m gm).2.1.n.n;exact⟨by omega,by omega⟩
 ·obtain⟨i,gi⟩:=Yf.1 hq;obtain⟨h1,-,h3⟩:=hP.p.bx i q gi;exact⟨by omega,fun x hx=>by have:=h3 x hx;exact⟨by omega,by omega⟩⟩
theorem enc_len {S:List Int} {BL:List (List Int)} (h:EncOk S BL):(encC S BL).length<=20000000:=by
 have h1:=encL_len h.s (by have:=h.n.1;omega);have h2:=h.fl BL.length;rw[Yye] at h2;have h3:=encI_len (n:=(BL.length:Int)) ⟨by omega,by have:=h.n.2;omega⟩;have h4:=h.n.1;unfold encC;rw[Yh,Yh];omega
theorem ky_ok {L:List Mch} {k:Int} {c:Cf} (hP:ProS L k c.1 c.2):kokB (kyC c):=by
 have:=enc_len (enc_pro hP);show (toB (encC c.1 c.2)).length<=maxLen;unfold toB;rw[Yc];simp only[maxLen];omega
theorem SeaV.kok {L:List MR} {k:Int} {A:List It} {V:List Vs} (h:SeaV L k A V):∀q∈V.map kyP,kokB q.1:=fun q hq=>by
 obtain⟨v,hv,rfl⟩:=Yp.1 hq;exact ky_ok (c:=(vq v).1) (h.p v hv)
theorem SeaV.knd {L:List MR} {k:Int} {A:List It} {V:List Vs} (h:SeaV L k A V):((V.map kyP).map Prod.fst).Nodup:=by
 rw[List.map_map];have e:(Prod.fst∘kyP)=kyC∘fun v=>(vq v).1:=rfl;rw[e,<-List.map_map];exact List.Pairwise.map _ (fun a b hab e=>hab (kyC_inj e)) h.d
theorem ky_mem {V:List Vs} {c:Cf}:c∈(V.map vq).map Prod.fst ↔ mget (V.map kyP) (kyC c)≠none:=by
 constructor
 ·intro h hn;obtain⟨q,hq,rfl⟩:=Yp.1 h;obtain⟨v,hv,rfl⟩:=Yp.1 hq;exact mget_nomem hn (kyP v) (List.mem_map_of_mem hv) rfl
 ·intro h;cases hg:mget (V.map kyP) (kyC c) with
  | none=>exact absurd hg h
  | some y=>
   obtain⟨v,hv,e⟩:=Yp.1 (mgetE_mem hg);have e1:kyC (vq v).1=kyC c:=congrArg Prod.fst e;rw[<-kyC_inj e1];exact List.mem_map_of_mem (List.mem_map_of_mem hv)
theorem SeaV.snoc {L:List MR} {k:Int} {A:List It} {V:List Vs} (h:SeaV L k A V) {v:Vs} (hc:CfN A v.c1 v.c2 v.S v.B) (hp:ProS (L.map MR.m) k v.S (v.B.map Bx.l)) (hn:(vq v).1∉(V.map vq).map Prod.fst)
  {p:Nat} {u:Vs} (hu:V[p]?=some u) (ha:v.ah=(p:Int)) (ht:v.tr=u.tr++[(v.a,v.b)]):SeaV L k A (V++[v]):=by
 refine⟨fun w hw=>?_,fun w hw=>?_,fun j w hw=>?_,?_⟩
 ·rcases Yk.1 hw with hw | hw
  ·exact h.c w hw
  ·rw[Ye.1 hw];exact hc
 ·rcases Yk.1 hw with hw | hw
  ·exact h.p w hw
  ·rw[Ye.1 hw];exact hp
 ·have hpl:=(Ya.1 hu).1;by_cases hj:j<V.length
  ·rw[Yyi hj] at hw;obtain⟨h1,h2⟩:=h.t j w hw;refine⟨h1,h2.imp id ?_⟩;rintro⟨p',u',k1,k2,k3,k4⟩;exact⟨p',u',k1,by rw[Yyi (by omega)];exact k2,k3,k4⟩
  ·rw[Yyc (by omega)] at hw;have hj0:j-V.length=0:=by
    have:=(Ya.1 hw).1;simpa using this
   rw[hj0] at hw;cases hw;have h1:=(h.t p u hu).1;refine⟨?_,.inr ⟨p,u,by omega,by rw[Yyi hpl];exact hu,ha,ht⟩⟩;rw[ht,Yh,Yv];omega
 ·rw[Ym,List.nodup_append];refine⟨h.d,by simp,fun a ha b hb=>?_⟩;rw[Yyl,List.map_nil,Ye] at hb;rw[hb];rintro rfl;exact hn (by rw[List.map_map];exact ha)
theorem doB_newL {n a:Nat} {x:Mv} {B:List Bx} {q:Bx} {u:Sl} (gq:B[bxI n a x]?=some q):(B.set (bxI n a x) ⟨u,newL x q.l⟩).map Bx.l=doB n a x (B.map Bx.l):=by
 unfold doB;rw[List.map_set,getD_map gq];rfl
structure RV where
 v:Int
 Q:List Cf
 m:List Int
 k:Int
 t:List (Nat × Nat)
def Res.rv (n:Nat):Res->RV
 | .bad k t=>⟨2,[],[],k,t⟩
 | .unk=>⟨3,[],[],0,[]⟩
 | .safe Q=>⟨1,Q,mostS n Q,0,[]⟩
def rv0:RV:=⟨0,[],[],0,[]⟩
open Classical in
noncomputable def expV (L:List Mch) (k lim:Int):RV × Int:=if ¬SysV L\/k<1\/4<k then (rv0,1) else if lim<1\/20000<lim then (rv0,2) else ((exS L k lim.toNat).rv L.length,0)
structure Cr where
 c1:Sl
 c2:Sl
 S:List Int
 B:List Bx
def Cr.cs (c:Cr):List Value:=[.slice c.c1.a c.c1.n c.c1.c,.slice c.c2.a c.c2.n c.c2.c]
def Cr.cf (c:Cr):Cf:=(c.S,c.B.map Bx.l)
structure ResI (h:Heap) (cf mo tr:Sl) (r:RV):Prop where
 c:∃C:List Cr,RL h 2 cf Cr.cs C/\(∀c∈C,CfI h c.c1 c.c2 c.S c.B)/\C.map Cr.cf=r.Q
 m:RL h 1 mo inC r.m
 t:RL h 2 tr stpC r.t
def resA (v:Int) (cf mo:Sl) (k:Int) (tr:Sl):List Value:=[.int .i64 v,.slice cf.a cf.n cf.c,.slice mo.a mo.n mo.c,.int .i64 k,.slice tr.a tr.n tr.c]
def ExV (o:RV × Int) (h:Heap) (v:Value) (h':Heap):Prop:=∃(cf mo tr:Sl) (A:List It),v=.tuple ⟨[.agg ⟨resA o.1.v cf mo o.1.k tr⟩,.int .i64 o.2]⟩/\St h h' A/\Sta A fun h=>ResI h cf mo tr o.1
theorem RL.nil0 {α:Type} {h:Heap} {n:Nat} {cs:α->List Value}:RL h n ⟨none,0,0⟩ cs ([]:List α):=⟨Rw.nil,Yyt _,fun _=>⟨rfl,rfl⟩,Nat.zero_le _⟩
theorem ExV.empty {h h':Heap} {A:List It} (hs:St h h' A) {v k e:Int} {tr:Sl} {t:List (Nat × Nat)} (ht:It.sl tr 48 2 (t.map stpC)∈A/\t.length<=1048576\/(tr=⟨none,0,0⟩/\t=[])) {o:RV × Int} (ho:o=(⟨v,[],[],k,t⟩,e)) :
  ExV o h (.tuple ⟨[.agg ⟨resA v ⟨none,0,0⟩ ⟨none,0,0⟩ k tr⟩,.int .i64 e]⟩) h':=by
 subst ho;refine⟨⟨none,0,0⟩,⟨none,0,0⟩,tr,A,rfl,hs,fun h0 h2 A' hA hs'=>⟨⟨[],RL.nil0,(fun c hc=>by cases hc),rfl⟩,RL.nil0,?_⟩⟩;rcases ht with ⟨h1,h2⟩ | ⟨rfl,rfl⟩
 ·exact hs'.rlm (hA _ h1) (by omega) h2
 ·exact RL.nil0
theorem bxs0 (n:Nat):(List.replicate (n*n) bx0).map Bx.l=List.replicate (n*n) []:=by rw[List.map_replicate];rfl
theorem inC_flat:∀l:List Int,l.map iv=(l.map inC).flatten
 | []=>rfl
 | x::r=>by rw[Yyl,Yyl,Yyu,inC_flat r];rfl
def stepM (B:List (List Int)) (j:Nat) (M:List Int):List Int:=M.mapIdx fun i x=>if i<j then imax x ((B.getD i []).length:Int) else x
theorem stepM_len {B:List (List Int)} {j:Nat} {M:List Int}:(stepM B j M).length=M.length:=by unfold stepM;rw[List.length_mapIdx]
theorem stepM_0 {B:List (List Int)} {M:List Int}:stepM B 0 M=M:=by
 unfold stepM;refine Yyr fun i=>?_;rw[List.getElem?_mapIdx];cases M[i]?<;>rfl
theorem stepM_get {B:List (List Int)} {M:List Int} {j:Nat}:(stepM B j M)[j]?=M[j]?:=by
 unfold stepM;rw[List.getElem?_mapIdx];cases M[j]? with
 | none=>rfl
 | some x=>rw[Option.map_some,if_neg (Nat.lt_irrefl _)]
theorem stepM_next {B:List (List Int)} {M:List Int} {j:Nat} {y:Int} (hy:M[j]?=some y):(stepM B j M).set j (imax y ((B.getD j []).length:Int))=stepM B (j+1) M:=by
 have hj:=(Ya.1 hy).1;refine Yyr fun i=>?_;by_cases e:j=i
 ·subst e;rw[Yq (by rw[stepM_len];exact hj)];unfold stepM;rw[List.getElem?_mapIdx,hy,Option.map_some,if_pos (by omega)]
 ·rw[Yy e];unfold stepM;rw[List.getElem?_mapIdx,List.getElem?_mapIdx];cases M[i]? with
  | none=>rfl
  | some x=>
   rw[Option.map_some,Option.map_some];by_cases e2:i<j
   ·rw[if_pos e2,if_pos (by omega)]
   ·rw[if_neg e2,if_neg (by omega)]
theorem stepM_end {B:List (List Int)} {M:List Int} {j:Nat} (hj:M.length<=j):stepM B j M=M.mapIdx fun i x=>imax x ((B.getD i []).length:Int):=by
 unfold stepM;refine Yyr fun i=>?_;rw[List.getElem?_mapIdx,List.getElem?_mapIdx];by_cases e:i<M.length
 ·rw[Yi e,Option.map_some,Option.map_some,if_pos (by omega)]
 ·rw[Yl (by omega)];rfl
theorem most_snoc (n:Nat) (Q:List Cf) (c:Cf):mostS n (Q++[c])=(mostS n Q).mapIdx fun i x=>imax x ((c.2.getD i []).length:Int):=by
 unfold mostS;rw[List.foldl_append];rfl
theorem most_len (n:Nat) (Q:List Cf):(mostS n Q).length=n*n:=by
 unfold mostS;have:∀(Q:List Cf) (a:List Int),(Q.foldl (fun a c=>a.mapIdx fun i x=>imax x ((c.2.getD i []).length:Int)) a).length=a.length:=fun Q=>by
  induction Q with
  | nil=>intro a;rfl
  | cons c r ih=>intro a;rw[List.foldl_cons,ih,List.length_mapIdx]
 rw[this,Yg]
end Go.VC
end

section
namespace Go.VC
open Go.Proofs Go.LexS
def DrQ (o:Int × List Int × List (List Int)) (A:List It) (h:Heap) (v:Value) (h':Heap):Prop:=∃(ts tb:Sl) (T:List Bx) (A2:List It),v=.tuple ⟨[cfA ts tb,.int .i64 o.1]⟩/\T.map Bx.l=o.2.2/\St h h' A2/\CfN (A++A2) ts tb o.2.1 T
theorem DrQ.none_ {o:Int × List Int × List (List Int)} {h h':Heap} {A A2:List It} {e:Int} (hs:St h h' A2) (ho:o=(e,[],[])):DrQ o A h (.tuple ⟨[.agg ⟨[.slice none 0 0,.slice none 0 0]⟩,.int .i64 e]⟩) h':=by
 subst ho;exact⟨⟨none,0,0⟩,⟨none,0,0⟩,[],A2,rfl,rfl,hs,fun _ _ _ _ _=>CfI.none_⟩
set_option maxHeartbeats 3200000 in
theorem refDoQ (L:List MR) (s:Sl) (k:Int) (ss sb:Sl) (S:List Int) (B:List Bx) (r i:Int) {hq h:Heap} {A:List It} (hA0:St hq h A) (hS:SyI h s L) (hCN:CfN A ss sb S B) :
  Fn Pz 48 #[.slice s.a s.n s.c,.int .i64 k,.agg ⟨[.slice ss.a ss.n ss.c,.slice sb.a sb.n sb.c]⟩,.agg ⟨[.int .i64 r,.int .i64 i]⟩] h (DrQ (doS (L.map MR.m) k S (B.map Bx.l) r i) A h):=by
 have hC:CfI h ss sb S B:=hCN.at hA0 fun _ h=>h;have E0:Ext h h:=.rfl';apply vc48 s k ss sb r i;unfold W48;have hlm:(L.map MR.m).length=L.length:=Yc _;have hbm:(B.map Bx.l).length=B.length:=Yc _;refine (St.refl h).newb fun h5 hs=>?_;refine hs.newb fun h6 hs=>?_;refine hs.newb fun h7 hs=>?_;refine⟨ss,sb,hs.at 2 rfl (o:=0) (n:=2) rfl,?_⟩;refine (refProper25 L s k ss sb S B h7 (hS.ext hs.ext) ((hC.ext E0).ext hs.ext)).mono ?_;rintro _ h12 ⟨⟨b,rfl,hb⟩,E⟩;have hs:=hs.step E;refine⟨_,rfl,sB_intro (fun c=>?_) (fun c=>?_)⟩
 ·have hnp:¬ProS (L.map MR.m) k S (B.map Bx.l):=fun hp=>by rw[hb.2 hp] at c;cases c
  refine hs.put 0 rfl (o:=0) (vs:=[.slice none 0 0,.slice none 0 0]) rfl (show 2<=2 by decide) fun h13 hs=>?_;exact⟨⟨none,0,0⟩,⟨none,0,0⟩,hs.at 0 rfl (o:=0) (n:=2) rfl,DrQ.none_ hs (by unfold doS;rw[if_neg hnp])⟩
 have hP:=hb.1 (bT c);have hSl:S.length=L.length:=by rw[hP.p.s,hlm]
 have hBl:B.length=L.length*L.length:=by rw[<-hbm,hP.p.b,hlm]
 have hV6:=hP.v.n;rw[hlm] at hV6;have h36:=sq6 hV6.2;refine⟨ss,sb,hs.at 2 rfl (o:=0) (n:=2) rfl,r,i,hs.at 1 rfl (o:=0) (n:=2) rfl,?_⟩;refine (possible61 L s k ss sb S B r i h12 (hS.ext hs.ext) hP.v ((hC.ext E0).ext hs.ext) hSl hBl).mono ?_;rintro _ h22 ⟨rfl,E⟩;have hs:=hs.step E;have hpe:=posS_eq (L.map MR.m) k S (B.map Bx.l) r i;refine⟨_,rfl,sBn (fun c=>?_) (fun c=>?_)⟩
 ·refine hs.put 0 rfl (o:=0) (vs:=[.slice none 0 0,.slice none 0 0]) rfl (show 2<=2 by decide) fun h13 hs=>?_;refine⟨⟨none,0,0⟩,⟨none,0,0⟩,hs.at 0 rfl (o:=0) (n:=2) rfl,DrQ.none_ hs ?_⟩;unfold doS;rw[if_pos hP];cases hmo:mvO (L.map MR.m) r i with
  | none=>rw[hmo] at hpe;rw[hpe]
  | some x=>rw[hmo] at hpe;rw[hpe] at c ⊢;dsimp only at c ⊢;rw[if_neg c]
 ·cases hmo:mvO (L.map MR.m) r i with
  | none=>rw[hmo] at hpe;rw[hpe] at c;exact absurd c (show ¬((2:Int)=0) by decide)
  | some x=>
   rw[hmo] at hpe;rw[hpe] at c;dsimp only at c;have hdo:doS (L.map MR.m) k S (B.map Bx.l) r i=(0,S.set r.toNat x.t,doB L.length r.toNat x (B.map Bx.l)):=by
    unfold doS;rw[if_pos hP,hmo];dsimp only;rw[if_pos c,hlm]
   rw[hlm] at c;rw[hdo];obtain⟨p,j,rfl,rfl,m,gm,gx⟩:=mvO_get hmo;rw[Yd] at gm;cases gy:L[p]? with
   | none=>rw[gy] at gm;cases gm
   | some y=>
    have gmm:=gm;rw[gy] at gm;cases gm;have hxm:=Yb gx;have hp:=(Ya.1 gy).1;have hvm:=hP.v.m p y.m (by rw[Yd,gy];rfl);have hx0:0<=x.peer:=(hvm.2.1.n.mv x hxm).2.2.2.2.1;have hx1:x.peer<(L.length:Int):=by have:=hvm.2.2 x hxm;rw[hlm] at this;exact this
    have hj:=bxI_lt (n:=L.length) (x:=x) hp hx0 hx1;obtain⟨q,gq⟩:=get_some (l:=B) (i:=bxI L.length p x) (by omega);have hk4:=hP.c.2;have hall:∀z∈B,z.l.length<=4:=fun z hz=>by
     obtain⟨j',gj⟩:=Yf.1 hz;have:=(hP.p.bx j' z.l (by rw[Yd,gj];rfl)).1;omega
    have hqm:=Yb gq;have hql:(B.map Bx.l).getD (bxI L.length p x) []=q.l:=getD_map gq;rw[Ys] at c ⊢;refine⟨ss,sb,hs.at 2 rfl (o:=0) (n:=2) rfl,(p:Int),(j:Int),hs.at 1 rfl (o:=0) (n:=2) rfl,?_⟩;refine (next56 L L.length s ss sb S B p j y x q (if x.send=true then q.l++[x.label] else q.l.tail) h22 (hS.ext hs.ext) ((hC.ext E0).ext hs.ext) rfl hV6.2 gy gx hx0 hx1 hSl hBl gq (hall q hqm) rfl (fun d=>?_)).mono ?_
    ·unfold canS at c;rw[hql] at c;split at c
     ·exact absurd c (by decide)
     ·rw[if_neg (by rw[d];decide)] at c;cases hq:q.l with
      | nil=>rw[hq] at c;exact absurd c (show ¬((23:Int)=0) by decide)
      | cons a b=>rw[Yyj];omega
    ·rintro _ h33 ⟨ts,tb,u,rfl,hs2⟩;have hs:=hs.join hs2;refine⟨ts,tb,rfl,?_⟩;refine hs.put 0 rfl (o:=0) (vs:=[.slice ts.a ts.n ts.c,.slice tb.a tb.n tb.c]) rfl (show 2<=2 by decide) fun h34 hs=>?_;refine⟨ts,tb,hs.at 0 rfl (o:=0) (n:=2) rfl,ts,tb,B.set (bxI L.length p x) ⟨u,if x.send=true then q.l++[x.label] else q.l.tail⟩,_,rfl,?_,hs,fun h0' hh A' hA hs'=>?_⟩
     ·rw[List.map_set];unfold doB;rw[hql]
     ·have hC':=hCN h0' hh A' (fun i hi=>hA i (List.mem_append_left _ hi)) hs';refine⟨hs'.rlm (hA _ (List.mem_append_right _ (Yb (i:=3) rfl))) (by omega) (by rw[Yyh];omega),hs'.rlm (hA _ (List.mem_append_right _ (Yb (i:=4) rfl))) (by omega) (by rw[Yyh];omega),fun z hz=>?_⟩;rcases List.mem_or_eq_of_mem_set hz with hz | rfl
      ·exact hC'.i z hz
      ·refine hs'.rlm (hA _ (List.mem_append_right _ (Yb (i:=5) rfl))) (by omega) ?_;have:=hall q hqm;dsimp only;split
       ·rw[Yh,Yv];omega
       ·rw[List.length_tail];omega
end Go.VC
end

section
namespace Go.VC
open Go.Proofs Go.LexS Go.Maps
theorem app95:appB Pz 95 94 5 72=true:=by kernel_rfl
theorem app29:appB Pz 29 50 2 48=true:=by kernel_rfl
theorem cv_str {h h0:Heap} {s:Sl} {l:List Int} (hs:St h0 h [.sl s 5 1 (l.map u8C)]) (hb:∀x∈l,0<=x/\x<256):RunW Pz (Go.convert 60 9 (.slice s.a s.n s.c)) h fun v h'=>v=.string (bs (toB l))/\h'=h:=
 str_c (e:=5) (base:=h0.size) (ty:=5) (by kernel_rfl) (by kernel_rfl) (by kernel_rfl) (by have:=hs.give 0 rfl;rw[toB_c hb] at this;exact this)
set_option maxHeartbeats 12800000 in
theorem explore13 (L:List MR) (s:Sl) (k lim:Int) (h:Heap) (hS:SyI h s L) :
  Fn Pz 13 #[.slice s.a s.n s.c,.int .i64 k,.int .i64 lim] h (ExV (expV (L.map MR.m) k lim) h):=by
 apply vc13 s k lim;unfold W13 V13c V13b V13a;have hn:=hS.r.ln;have hsm:=hS.r.sm;have hlm:(L.map MR.m).length=L.length:=Yc _;refine (St.refl h).newb fun h1 hs=>?_;refine (start14 L s h1 (hS.ext hs.ext)).mono ?_;rintro _ h6 ⟨ss,sb,S,B,e,A1,rfl,hs1,hM,hv1,hv2⟩;have hs:=hs.join hs1;refine⟨ss,sb,e,rfl,?_⟩;refine hs.newput (vs:=[.slice ss.a ss.n ss.c,.slice sb.a sb.n sb.c]) rfl rfl fun h8 hs=>?_;have fin:∀ {hX:Heap} {i0:It} (e':Int),St h hX ([i0,.blk h.size [.int .i64 0,.slice none 0 0,.slice none 0 0,.int .i64 0,.slice none 0 0] 32]++A1)->expV (L.map MR.m) k lim=(rv0,e')->okAt hX ⟨h.size,0,none⟩ 5/\∀h9:Heap,h9=hputs hX ⟨h.size,0,none⟩ 0 [.int .i64 0,.slice none 0 0,.slice none 0 0,.int .i64 0,.slice none 0 0] -> 
  (∃x10:Int,∃x11:Sl,∃x12:Sl,∃x13:Int,∃x14:Sl,atC h9 ⟨h.size,0,none⟩ [.int .i64 x10,.slice x11.a x11.n x11.c,.slice x12.a x12.n x12.c,.int .i64 x13,.slice x14.a x14.n x14.c] /\ 
  ExV (expV (L.map MR.m) k lim) h (.tuple ⟨[.agg ⟨[.int .i64 x10,.slice x11.a x11.n x11.c,.slice x12.a x12.n x12.c,.int .i64 x13,.slice x14.a x14.n x14.c]⟩,.int .i64 e']⟩) h9):=fun {hX i0} e' hs he=>by
  refine hs.put 1 rfl (o:=0) (vs:=[.int .i64 0,.slice none 0 0,.slice none 0 0,.int .i64 0,.slice none 0 0]) rfl (show 5<=5 by decide) fun h9 hs=>?_;exact⟨0,⟨none,0,0⟩,⟨none,0,0⟩,0,⟨none,0,0⟩,hs.at 1 rfl (o:=0) (n:=5) rfl,ExV.empty hs (.inr ⟨rfl,rfl⟩) he⟩
 by_cases hV:SysV (L.map MR.m);rotate_left
 ·obtain⟨rfl,-,-⟩:=hv2 hV;exact sB_t rfl (fin 1 hs (if_pos (.inl hV)))
 obtain⟨rfl,rfl,rfl⟩:=hv1 hV;clear hv1 hv2;refine sB_f rfl ?_;refine sBi (fun c1=>fin 1 hs (if_pos (.inr (.inl c1)))) (fun c1=>?_);refine sBi (fun c2=>fin 1 hs (if_pos (.inr (.inr c2)))) (fun c2=>?_);have hno:¬(¬SysV (L.map MR.m)\/k<1\/4<k):=fun h=>by
  rcases h with h | h | h
  ·exact h hV
  ·omega
  ·omega
 refine sBi (fun c3=>fin 2 hs ((if_neg hno).trans (if_pos (.inl c3)))) (fun c3=>?_);refine sBi (fun c4=>fin 2 hs ((if_neg hno).trans (if_pos (.inr c4)))) (fun c4=>?_);have hx:expV (L.map MR.m) k lim=((exS (L.map MR.m) k lim.toNat).rv (L.map MR.m).length,0):=(if_neg hno).trans (if_neg (by omega));clear fin;have hV6:=hV.n;rw[hlm] at hV6;have h36:=sq6 hV6.2;obtain⟨lm,hlim⟩:∃lm:Nat,lim=(lm:Int):=⟨lim.toNat,by omega⟩;subst hlim;rw[Ys] at hx;have hP0:ProS (L.map MR.m) k (startS (L.map MR.m)) ((List.replicate ((L.map MR.m).length*(L.map MR.m).length) bx0).map Bx.l):=xpro_start hV (by omega);generalize hBB:List.replicate ((L.map MR.m).length*(L.map MR.m).length) bx0=B0 at *;refine (start32 L s k h8 (hS.ext hs.ext) hV).mono ?_;rintro _ h41 ⟨eb,wb,A2,osl,os,qs,rfl,hs2,hE⟩;have hs:=(hs.join hs2).perm List.perm_middle;refine⟨some ⟨eb,0,none⟩,rfl,?_⟩;refine hs.mmake 92 fun h44 E44 hs=>⟨_,rfl,?_⟩;have hs:St h h44 ([.mp h41.size [],.mp wb [],.blk h6.size [.slice ss.a ss.n ss.c,.slice sb.a sb.n sb.c] 50,.blk h.size [.int .i64 0,.slice none 0 0,.slice none 0 0,.int .i64 0,.slice none 0 0] 32]++(A1++A2)):=hs;have hA1:CfN (A1++A2) ss sb (startS (L.map MR.m)) B0:=fun h0 hh A' hA hs=>hM.mono (fun i hi=>hA i (List.mem_append_left _ hi)) |>.cfi hs
 replace hE:Sta (A1++A2) fun h=>EngX h eb wb s k L osl os qs:=hE.mono memP;generalize A1++A2=A at *;refine⟨ss,sb,hs.at 2 rfl (o:=0) (n:=2) rfl,?_⟩;refine (encode35 ss sb _ _ h44 (hA1.at hs memP) (enc_pro hP0)).mono ?_;rintro _ h49 ⟨b,rfl,hse⟩;have hs:=hs.step hse.ext;refine⟨b,rfl,(cv_str hse encC_byte).mono ?_⟩;rintro _ _ ⟨rfl,rfl⟩;refine⟨_,rfl,?_⟩;obtain⟨v0,hv0⟩:∃v0:Vs,v0=⟨ss,sb,startS (L.map MR.m),B0,-1,0,0,[]⟩:=⟨_,rfl⟩;have hkv:bs (toB (encC (startS (L.map MR.m)) (B0.map Bx.l)))=kyC (vq v0).1:=by rw[hv0];rfl
 rw[hkv];refine hs.mput M92 (cv:=Value.bool) (l:=[]) (a:=kyC (vq v0).1) 0 rfl (fun q hq=>by cases hq) .nil (by rw[hv0];exact ky_ok (c:=(_,_)) hP0) true fun h53 hs=>?_;refine⟨ss,sb,hs.at 2 rfl (o:=0) (n:=2) rfl,?_⟩;refine hs.newb fun h56 hs=>?_;have hs:=hs.blkS 1 5 ([v0].map Vs.cs) (by rw[hv0];rfl) (fun r hr=>by rw[Yyl,List.map_nil,Ye] at hr;rw[hr];rfl) rfl (by decide);have hs:St h h56 ([.mp wb (([]:List (Wt × Bool)).map wtC),.mp h41.size (([v0].map kyP).map kyV),.sl ⟨some ⟨h53.size,0,none⟩,1,1⟩ 94 5 ([v0].map Vs.cs),.blk h.size [.int .i64 0,.slice none 0 0,.slice none 0 0,.int .i64 0,.slice none 0 0] 32]++A):=
  St.picksA (P:=[_,_,_,_,_]) hs [2,1,0,4] (by decide) rfl
 have hsea:SeaV L k A [v0]:=by
  refine⟨fun v hv=>?_,fun v hv=>?_,fun j v hj=>?_,by simp⟩
  ·rw[Ye.1 hv,hv0];exact hA1
  ·rw[Ye.1 hv,hv0];exact hP0
  ·have hj0:j=0:=by have:=(Ya.1 hj).1;simpa using this
   subst hj0;cases hj;rw[hv0];exact⟨Nat.zero_le _,.inl ⟨rfl,rfl⟩⟩
 have hex:exO (L.map MR.m) k lm (lm+1) 0 ([v0].map vq)=exS (L.map MR.m) k lm:=by
  unfold exS q0;congr 1;rw[hv0];unfold vq startB;rw[Yyl,List.map_nil,<-hBB,bxs0]
 have hwt0:WtOk L []:=⟨.nil,fun q hq=>by cases hq⟩;refine⟨fun queue x h' μ=>∃(i f:Nat) (V:List Vs) (K:List (Wt × Bool)) (A:List It),x=(i:Int)/\μ=f/\f+i=lm+1/\i<=V.length/\V.length<=lm/\exO (L.map MR.m) k lm f i (V.map vq)=exS (L.map MR.m) k lm/\SeaV L k A V/\WtOk L K/\Sta A (fun h=>EngX h eb wb s k L osl os qs) /\
  St h h' ([.mp wb (K.map wtC),.mp h41.size ((V.map kyP).map kyV),.sl queue 94 5 (V.map Vs.cs),.blk h.size [.int .i64 0,.slice none 0 0,.slice none 0 0,.int .i64 0,.slice none 0 0] 32]++A),⟨_,0,lm+1,[v0],[],A,rfl,rfl,rfl,Nat.zero_le _,by show 1<=lm;omega,hex,hsea,hwt0,hE,hs⟩,?_⟩
 clear hs hex hsea hwt0 hE hkv hv0 hA1 hse hs1 hs2 hM;rintro-queue _ h62 μ ⟨i,f,V,K,A,rfl,hμ,hfi,hi,hVl,hex,hsea,hK,hE,hs⟩;have hqn:=(hs.rows 2 (s:=queue) (cs:=Vs.cs) rfl (by omega)).ln;refine sBi (fun c5=>?_) (fun c5=>?_)
 ·obtain⟨v,gv⟩:=get_some (l:=V) (i:=i) (by omega);have hvm:=Yb gv;have hcv:=hsea.c v hvm;have hpv:=hsea.p v hvm;refine (hs.rows 2 (s:=queue) (cs:=Vs.cs) rfl (by omega)).nbI (by omega) (by omega) fun b63 o64 v' gv' t=>?_;rw[Ys,gv] at gv';cases gv';refine⟨v.c1,v.c2,t.sub0 2 rfl,?_⟩;refine hs.newput (vs:=[.slice v.c1.a v.c1.n v.c1.c,.slice v.c2.a v.c2.n v.c2.c]) rfl rfl fun h68 hs=>?_;refine⟨v.c1,v.c2,hs.at 0 rfl (o:=0) (n:=2) rfl,?_⟩;refine (steps34 L s k eb v.c1 v.c2 v.S v.B h68 (hS.ext hs.ext) (hE.at hs (memP (P:=[_,_,_,_,_]))).r (hcv.at hs (memP (P:=[_,_,_,_,_]))) hpv).mono ?_;rintro _ h73 ⟨r,rfl,hsr⟩;have hs:=(hs.join hsr).perm List.perm_append_comm;have hs:St h h73 (.mp wb (K.map wtC)::[.sl r 48 2 ((stepsS (L.map MR.m) k v.S (v.B.map Bx.l)).map stpC),.blk h62.size [.slice v.c1.a v.c1.n v.c1.c,.slice v.c2.a v.c2.n v.c2.c] 50,.mp h41.size ((V.map kyP).map kyV),.sl queue 94 5 (V.map Vs.cs),.blk h.size [.int .i64 0,.slice none 0 0,.slice none 0 0,.int .i64 0,.slice none 0 0] 32]++A):=
   St.picksA (P:=[_,_,_,_,_,_]) hs [2,0,1,3,4,5] (by decide) rfl
  have hrn:=(hs.rows 1 (s:=r) (cs:=stpC) rfl (by omega)).ln;obtain⟨X,hX⟩:∃X,X=stepsS (L.map MR.m) k v.S (v.B.map Bx.l):=⟨_,rfl⟩;rw[<-hX] at hs hrn;refine⟨r,rfl,v.c1,v.c2,hs.at 2 rfl (o:=0) (n:=2) rfl,?_⟩;refine (bad35 L s k eb wb v.c1 v.c2 v.S v.B (decide ((r.n:Int)>0)) K osl os qs hs (hS) (hE.mono (memP (P:=[_,_,_,_,_]))) (hcv.mono (memP (P:=[_,_,_,_,_]))) hpv hK (by
   rw[decide_eq_true_eq,<-hX];constructor
   ·intro h1 h2;rw[h2] at hrn;simp at hrn;omega
   ·intro h1;have:X.length≠0:=fun h2=>h1 (List.length_eq_zero_iff.1 h2);omega)).mono ?_
  rintro _ h78 ⟨K2,rfl,hK2,hs⟩;obtain⟨f2,hf2⟩:∃f',f=f'+1:=⟨f-1,by omega⟩;have gvq:(V.map vq)[i]?=some (vq v):=by rw[Yd,gv];rfl
  rw[hf2,exO,gvq] at hex;dsimp only at hex;have hbadE:badS (L.map MR.m) k (vq v).1.1 (vq v).1.2=badS (L.map MR.m) k v.S (v.B.map Bx.l):=rfl;have hstE:stepsS (L.map MR.m) k (vq v).1.1 (vq v).1.2=X:=hX.symm;rw[hbadE,hstE] at hex;refine⟨_,rfl,?_⟩;generalize badS (L.map MR.m) k v.S (v.B.map Bx.l)=bd at *;by_cases hbd:bd=0;rotate_left
  ·rw[if_pos hbd] at hex;refine sB_t (by rw[bne_iff_ne];exact hbd) ?_;refine (trace36 V queue i v h78 (hs.rows 4 (s:=queue) (cs:=Vs.cs) rfl (by omega)) (by omega) gv hsea.t).mono ?_;rintro _ h81 ⟨tr,rfl,hst⟩;have hs:=(hs.join hst).perm List.perm_append_comm;refine⟨tr,rfl,?_⟩;refine hs.put 6 rfl (o:=0) (vs:=[.int .i64 2,.slice none 0 0,.slice none 0 0,.int .i64 bd,.slice tr.a tr.n tr.c]) rfl (show 5<=5 by decide) fun h82 hs=>?_;have htl:v.tr.length<=i:=(hsea.t i v gv).1;refine⟨2,⟨none,0,0⟩,⟨none,0,0⟩,bd,tr,hs.at 6 rfl (o:=0) (n:=5) rfl,ExV.empty hs (.inl ⟨Yx,by omega⟩) ?_⟩;rw[hx,<-hex];rfl
  rw[if_neg (fun h=>h hbd)] at hex;refine sB_f (by rw[hbd];rfl) ?_;obtain⟨g,hg⟩:∃g,g=exI (L.map MR.m) lm (vq v) X (V.map vq):=⟨_,rfl⟩;rw[<-hg] at hex;have hXs:∀z∈X,∃m x,(L.map MR.m)[z.1]?=some m/\m.mv[z.2]?=some x/\canS (L.map MR.m).length k v.S (v.B.map Bx.l) z.1 x=0:=fun z hz=>by
   obtain⟨a,b⟩:=z;rw[hX] at hz;exact steps_mem hz
  have hXl:X.length<=2400:=by
   have:=steps_len (n:=(L.map MR.m).length) (k:=k) (S:=v.S) (BL:=v.B.map Bx.l) hV (L.map MR.m).length;rw[hX];unfold stepsS;omega
  refine⟨fun queue x h' μ=>∃(j:Nat) (V:List Vs) (A:List It),x=(j:Int)/\μ=X.length-j/\j<=X.length/\i<V.length/\V.length<=lm/\V[i]?=some v/\exI (L.map MR.m) lm (vq v) (X.drop j) (V.map vq)=g/\SeaV L k A V/\Sta A (fun h=>EngX h eb wb s k L osl os qs) /\
   St h h' ([.mp wb (K2.map wtC),.sl r 48 2 (X.map stpC),.blk h62.size [.slice v.c1.a v.c1.n v.c1.c,.slice v.c2.a v.c2.n v.c2.c] 50,.mp h41.size ((V.map kyP).map kyV),.sl queue 94 5 (V.map Vs.cs),.blk h.size [.int .i64 0,.slice none 0 0,.slice none 0 0,.int .i64 0,.slice none 0 0] 32]++A),⟨_,0,V,A,rfl,rfl,Nat.zero_le _,by omega,hVl,gv,by rw[List.drop_zero];exact hg.symm,hsea,hE,hs⟩,?_⟩
  clear hs hsea hE hcv gv hVl hqn c5 hg hi gvq hvm hK;clear t hsr;rintro-queue2 _ h93 μ ⟨j,V,A,rfl,rfl,hj,hiV,hVl,gv,hgI,hsea,hE,hs⟩;have hqn:=(hs.rows 4 (s:=queue2) (cs:=Vs.cs) rfl (by omega)).ln;have hcv:=hsea.c v (Yb gv);refine sBi (fun c6=>?_) (fun c6=>?_)
  ·obtain⟨⟨a,b⟩,gz⟩:=get_some (l:=X) (i:=j) (by omega);obtain⟨m,x,gm,gx,hc⟩:=hXs _ (Yb gz);dsimp only at gm gx hc;have hxm:=Yb gx;have hvmm:=hpv.v.m a m gm;have ha:a<(L.map MR.m).length:=(Ya.1 gm).1;have hx0:=(hvmm.2.1.n.mv x hxm).2.2.2.2.1;have hx1:=hvmm.2.2 x hxm;rw[hlm] at hc hx1 ha;have hBl:v.B.length=L.length*L.length:=by have:=hpv.p.b;rw[Yc,hlm] at this;exact this
   have hSl:v.S.length=L.length:=by rw[hpv.p.s,hlm]
   obtain⟨q,gq⟩:=get_some (l:=v.B) (i:=bxI L.length a x) (by rw[hBl];exact bxI_lt ha hx0 hx1);have hql:(v.B.map Bx.l)[bxI L.length a x]?=some q.l:=by rw[Yd,gq];rfl
   have hqd:(v.B.map Bx.l).getD (bxI L.length a x) []=q.l:=getD_map gq;have hq4:q.l.length<=4:=by have:=(hpv.p.bx _ q.l hql).1;omega
   have hq1:x.send=false->1<=q.l.length:=fun d=>by
    obtain⟨r,hr⟩:=(can_parts.1 hc).2.2 d;rw[hqd] at hr;rw[hr,Yyj];omega
   refine (hs.rows 1 (s:=r) (cs:=stpC) rfl (by omega)).nbI (by omega) (by omega) fun b94 o95 z gz' t=>?_;rw[Ys,gz] at gz';cases gz';refine⟨(a:Int),(b:Int),t,?_⟩;refine hs.newput (vs:=[.int .i64 (a:Int),.int .i64 (b:Int)]) rfl rfl fun h99 hs=>?_;refine⟨v.c1,v.c2,hs.at 3 rfl (o:=0) (n:=2) rfl,(a:Int),(b:Int),hs.at 0 rfl (o:=0) (n:=2) rfl,?_⟩;refine (do37 L s k eb v.c1 v.c2 v.S v.B a b m x q h99 (hS.ext hs.ext) (hE.at hs (memP (P:=[_,_,_,_,_,_,_]))).r (hcv.at hs (memP (P:=[_,_,_,_,_,_,_]))) hpv gm gx hc gq).mono ?_;rintro _ h107 ⟨ts,tb,u,A3,rfl,hs3,m1,m2,m3,m4⟩;rw[hn] at m2;have hs:St h h107 ([.blk h93.size [.int .i64 (a:Int),.int .i64 (b:Int)] 48,.mp wb (K2.map wtC),.sl r 48 2 (X.map stpC),.blk h62.size [.slice v.c1.a v.c1.n v.c1.c,.slice v.c2.a v.c2.n v.c2.c] 50,.mp h41.size ((V.map kyP).map kyV),.sl queue2 94 5 (V.map Vs.cs),.blk h.size [.int .i64 0,.slice none 0 0,.slice none 0 0,.int .i64 0,.slice none 0 0] 32]++(A++A3)):=hs.join hs3;have hSS:(v.S.set a x.t).length<=1048576:=by rw[Yyh];omega
   have hcn:CfN (A++A3) ts tb (v.S.set a x.t) (v.B.set (bxI L.length a x) ⟨u,newL x q.l⟩):=do_next hcv gq hSS (by omega) hq4 hq1 m1 m2 m3 m4;have hBn:(v.B.set (bxI L.length a x) ⟨u,newL x q.l⟩).map Bx.l=doB (L.map MR.m).length a x (v.B.map Bx.l):=by rw[hlm];exact doB_newL gq
   have hpn:ProS (L.map MR.m) k (v.S.set a x.t) ((v.B.set (bxI L.length a x) ⟨u,newL x q.l⟩).map Bx.l):=by
    rw[hBn];exact pro_do hpv gm hxm (by rw[hlm];exact hc)
   have hnx:((v.S.set a x.t,(v.B.set (bxI L.length a x) ⟨u,newL x q.l⟩).map Bx.l):Cf)=nxS (L.map MR.m) (vq v).1 (a,b):=by rw[nxS_of gm gx,hBn];rfl
   replace hsea:SeaV L k (A++A3) V:=hsea.mono fun i hi=>List.mem_append_left _ hi;replace hE:Sta (A++A3) fun h=>EngX h eb wb s k L osl os qs:=hE.mono fun i hi=>List.mem_append_left _ hi;clear hs3 m1 m2 m3 m4 hcv t;generalize A++A3=A at *;obtain⟨nv,hnv⟩:∃nv:Vs,nv=⟨ts,tb,v.S.set a x.t,v.B.set (bxI L.length a x) ⟨u,newL x q.l⟩,(i:Int),a,b,v.tr++[(a,b)]⟩:=⟨_,rfl⟩;have hnq:(vq nv).1=nxS (L.map MR.m) (vq v).1 (a,b):=by rw[hnv];exact hnx
   have hnt:vq nv=(nxS (L.map MR.m) (vq v).1 (a,b),(vq v).2++[(a,b)]):=Prod.ext hnq (by rw[hnv];rfl);refine⟨ts,tb,rfl,?_⟩;refine hs.newput (vs:=[.slice ts.a ts.n ts.c,.slice tb.a tb.n tb.c]) rfl rfl fun h109 hs=>?_;refine⟨ts,tb,hs.at 0 rfl (o:=0) (n:=2) rfl,?_⟩;refine (encode35 ts tb _ _ h109 (hcn.at hs (memP (P:=[_,_,_,_,_,_,_,_]))) (enc_pro hpn)).mono ?_;rintro _ h114 ⟨b3,rfl,hse⟩;have hs:=hs.step hse.ext;refine⟨b3,rfl,(cv_str hse encC_byte).mono ?_⟩;rintro _ _ ⟨rfl,rfl⟩;refine⟨_,rfl,?_⟩;have hkv:bs (toB (encC (v.S.set a x.t) ((v.B.set (bxI L.length a x) ⟨u,newL x q.l⟩).map Bx.l)))=kyC (vq nv).1:=by rw[hnv];rfl
   rw[hkv];have hkok:kokB (kyC (vq nv).1):=by rw[hnv];exact ky_ok (c:=(_,_)) hpn
   rw[drop_get gz,exI] at hgI;refine hs.mlook M92 (cv:=Value.bool) (l:=V.map kyP) (a:=kyC (vq nv).1) 5 rfl hsea.kok hsea.knd hkok false ?_;have hmm:=ky_mem (V:=V) (c:=(vq nv).1);cases hg:mget (V.map kyP) (kyC (vq nv).1) with
   | some y=>
    have hy:y=true:=by
     obtain⟨w,_,e⟩:=Yp.1 (mgetE_mem hg);exact (congrArg Prod.snd e).symm
    subst hy;rw[hg] at hmm;refine⟨true,rfl,sB_t rfl ?_⟩;rw[if_pos (by rw[<-hnq];exact hmm.2 (by simp))] at hgI;refine⟨_,(show X.length-(j+1)<X.length-j by omega),j+1,V,A,by rw[w64 (by omega) (by omega)];omega,rfl,by omega,hiV,hVl,gv,hgI,hsea,hE,hs.drop 2⟩
   | none=>
    rw[hg] at hmm;have hnm:(vq nv).1∉(V.map vq).map Prod.fst:=fun h=>hmm.1 h rfl;refine⟨false,rfl,sB_f rfl ?_⟩;rw[if_neg (by rw[<-hnq];exact hnm),Yc] at hgI;refine sBe (fun c7=>?_) (fun c7=>?_)
    ·rw[if_pos (by omega)] at hgI;rw[<-hgI] at hex;refine hs.put 7 rfl (o:=0) (vs:=[.int .i64 3,.slice none 0 0,.slice none 0 0,.int .i64 0,.slice none 0 0]) rfl (show 5<=5 by decide) fun h122 hs=>?_;refine⟨3,⟨none,0,0⟩,⟨none,0,0⟩,0,⟨none,0,0⟩,hs.at 7 rfl (o:=0) (n:=5) rfl,ExV.empty hs (.inr ⟨rfl,rfl⟩) ?_⟩;rw[hx,<-hex];rfl
    ·rw[if_neg (by omega)] at hgI;refine hs.mput M92 (cv:=Value.bool) (l:=V.map kyP) (a:=kyC (vq nv).1) 5 rfl hsea.kok hsea.knd hkok true fun h128 hs=>?_;rw[mset_none (mget_nomem hg)] at hs;refine⟨ts,tb,hs.at 0 rfl (o:=0) (n:=2) rfl,(a:Int),(b:Int),hs.at 1 rfl (o:=0) (n:=2) rfl,?_⟩;refine hs.app 6 (s:=queue2) (n:=5) (rows:=V.map Vs.cs) rfl app95 (m:=1) [nv.cs] (by rw[hnv];rfl) rfl (fun r hr=>by rw[Ye] at hr;rw[hr];rfl) rfl (by omega) (by simp only[maxLen];omega) fun q2 h135 nr hs=>?_;refine⟨_,(show X.length-(j+1)<X.length-j by omega),j+1,V++[nv],A,by rw[w64 (by omega) (by omega)];omega,rfl,by omega,by rw[Yh];omega,by rw[Yh,Yv];omega,by rw[Yyi hiV];exact gv,?_,hsea.snoc (p:=i) (u:=v) ?_ ?_ hnm gv ?_ ?_,hE,?_⟩
     ·rw[Ym,Yyl,List.map_nil,hnt];exact hgI
     ·rw[hnv];exact hcn
     ·rw[hnv];exact hpn
     ·rw[hnv]
     ·rw[hnv]
     ·have e1:(V++[nv]).map kyP=V.map kyP++[(kyC (vq nv).1,true)]:=by rw[Ym];rfl
      have e2:(V++[nv]).map Vs.cs=V.map Vs.cs++[nv.cs]:=by rw[Ym];rfl
      rw[e1,e2];exact hs.drop 2
  ·have hje:j=X.length:=by omega
   rw[hje,List.drop_length,exI] at hgI;rw[<-hgI] at hex;refine⟨f2,by omega,i+1,f2,V,K2,A,by rw[w64 (by omega) (by omega)];omega,rfl,by omega,by omega,hVl,hex,hsea,hK2,hE,?_⟩;exact St.picksA (P:=[_,_,_,_,_,_]) hs [0,3,4,5] (by decide) rfl
 ·have hiV:V.length<=i:=by omega
  obtain⟨f2,hf2⟩:∃f',f=f'+1:=⟨f-1,by omega⟩;rw[hf2,exO,Yl (by rw[Yc];exact hiV)] at hex;dsimp only at hex;have hsq:(s.n:Int)*(s.n:Int)=((L.length*L.length:Nat):Int):=by rw[hn];rfl
  obtain⟨nn,hnn⟩:∃nn,nn=L.length*L.length:=⟨_,rfl⟩;rw[hsq,<-hnn,w64 (n:=((nn:Nat):Int)) (by omega) (by omega),Ys,made3i];refine⟨⟨by omega,by omega,by omega⟩,?_⟩;refine hs.newb fun h138 hs=>?_;have hs:=hs.blkS nn 1 ((List.replicate nn (0:Int)).map inC) (inC_flat _) (inrows _) (by rw[Yc,Yg]) (by simp only[maxLen];omega);refine hs.newput (vs:=[.int .i64 1,.slice none 0 0,.slice (some ⟨h62.size,0,none⟩) nn nn,.int .i64 0,.slice none 0 0]) rfl rfl fun h140 hs=>?_;have hs:=hs.nil_ 50 2;obtain⟨mo,hmo⟩:∃mo:Sl,mo=⟨some ⟨h62.size,0,none⟩,nn,nn⟩:=⟨_,rfl⟩;have hs:St h h140 ([.sl ⟨none,0,0⟩ 50 2 (([]:List Cr).map Cr.cs),.blk h138.size (resA 1 ⟨none,0,0⟩ mo 0 ⟨none,0,0⟩) 32,.sl mo 3 1 ((List.replicate nn (0:Int)).map inC),.sl queue 94 5 (V.map Vs.cs),.blk h.size [.int .i64 0,.slice none 0 0,.slice none 0 0,.int .i64 0,.slice none 0 0] 32]++A):=
   St.picksA (P:=[_,_,_,_,_,_,_]) (by rw[hmo];exact hs) [0,1,2,5,6] (by decide) rfl
  have hm0:List.replicate nn (0:Int)=mostS L.length ((V.take 0).map fun v=>(vq v).1):=by rw[hnn];rfl
  rw[hm0] at hs;refine⟨fun x h' μ=>∃(i:Nat) (C:List Cr) (cf:Sl) (A:List It),x=(i:Int)/\μ=V.length-i/\i<=V.length/\C.map Cr.cf=(V.take i).map (fun v=>(vq v).1)/\(∀c∈C,CfN A c.c1 c.c2 c.S c.B)/\SeaV L k A V /\
   St h h' ([.sl cf 50 2 (C.map Cr.cs),.blk h138.size (resA 1 cf mo 0 ⟨none,0,0⟩) 32,.sl mo 3 1 ((mostS L.length ((V.take i).map fun v=>(vq v).1)).map inC),.sl queue 94 5 (V.map Vs.cs),.blk h.size [.int .i64 0,.slice none 0 0,.slice none 0 0,.int .i64 0,.slice none 0 0] 32]++A),⟨_,0,[],⟨none,0,0⟩,A,rfl,rfl,Nat.zero_le _,rfl,fun c hc=>(by cases hc),hsea,hs⟩,?_⟩
  clear hs hsea hE hm0;rintro-_ h145 μ2 ⟨i2,C,cf,A,rfl,rfl,hi2,hC,hCn,hsea,hs⟩;have hCl:C.length=i2:=by
   have:=congrArg List.length hC;rw[Yc,Yc,Yu] at this;omega
  refine sBi (fun c6=>?_) (fun c6=>?_)
  ·obtain⟨v,gv⟩:=get_some (l:=V) (i:=i2) (by omega);have hvm:=Yb gv;have hcv:=hsea.c v hvm;have hpv:=hsea.p v hvm;have hBl:v.B.length=nn:=by have:=hpv.p.b;rw[Yc,hlm] at this;rw[hnn];exact this
   have hSl:v.S.length=L.length:=by rw[hpv.p.s,hlm]
   refine (hs.rows 3 (s:=queue) (cs:=Vs.cs) rfl (by omega)).nbI (by omega) (by omega) fun b146 o147 v' gv' t=>?_;rw[Ys,gv] at gv';cases gv';refine⟨v.c1,v.c2,v.ah,(v.a:Int),(v.b:Int),t,?_⟩;refine hs.newput (vs:=v.cs) rfl rfl fun h154 hs=>?_;refine⟨cf,hs.rd 2 rfl (i:=1) rfl,v.c1,v.c2,hs.at 0 rfl (o:=0) (n:=2) rfl,?_⟩;refine (clone38 v.c1 v.c2 v.S v.B h154 (hcv.at hs (memP (P:=[_,_,_,_,_,_])))).mono ?_;rintro _ h161 ⟨ts,tb,T,rfl,hTB,hst⟩;have hTl:T.length=nn:=by
    have:=congrArg List.length hTB;rw[Yc,Yc] at this;omega
   refine⟨ts,tb,rfl,hst.ext.sm,?_⟩;have hs:=hs.join hst;refine hs.newbE fun h162 E162 hs=>⟨E162.sm,?_⟩;have hcn:CfN (A++([.sl ts 3 1 (v.S.map inC),.sl tb 25 1 (T.map Bx.cs)]++T.map Bx.it)) ts tb v.S T:=fun h0 hh A' hA hs=>by
    have m1:∀it∈([.sl ts 3 1 (v.S.map inC),.sl tb 25 1 (T.map Bx.cs)]++T.map Bx.it:List It),it∈A':=fun it h=>hA it (List.mem_append_right _ h);refine⟨hs.rlm (m1 _ Yx) (by omega) (by omega),hs.rlm (m1 _ (Yn _ Yx)) (by omega) (by omega),fun q hq=>?_⟩;refine hs.rlm (m1 _ (List.mem_append_right _ (List.mem_map_of_mem hq))) (by omega) ?_;have hq1:q.l∈v.B.map Bx.l:=by rw[<-hTB];exact List.mem_map_of_mem hq
    obtain⟨j,gj⟩:=Yf.1 hq1;have:=(hpv.p.bx j q.l gj).1;have:=hpv.c;omega
   have hs:St h h162 ([.blk h161.size [.slice ts.a ts.n ts.c,.slice tb.a tb.n tb.c] 50,.blk h145.size v.cs 94,.sl cf 50 2 (C.map Cr.cs),.blk h138.size (resA 1 cf mo 0 ⟨none,0,0⟩) 32,.sl mo 3 1 ((mostS L.length ((V.take i2).map fun v=>(vq v).1)).map inC),.sl queue 94 5 (V.map Vs.cs),.blk h.size [.int .i64 0,.slice none 0 0,.slice none 0 0,.int .i64 0,.slice none 0 0] 32]++(A++([.sl ts 3 1 (v.S.map inC),.sl tb 25 1 (T.map Bx.cs)]++T.map Bx.it))):=hs;replace hsea:=hsea.mono (A':=A++([.sl ts 3 1 (v.S.map inC),.sl tb 25 1 (T.map Bx.cs)]++T.map Bx.it)) fun i hi=>List.mem_append_left _ hi;replace hCn:∀c∈C,CfN (A++([.sl ts 3 1 (v.S.map inC),.sl tb 25 1 (T.map Bx.cs)]++T.map Bx.it)) c.c1 c.c2 c.S c.B:=fun c hc=>(hCn c hc).mono fun i hi=>List.mem_append_left _ hi;clear hst hcv t;generalize A++([.sl ts 3 1 (v.S.map inC),.sl tb 25 1 (T.map Bx.cs)]++T.map Bx.it)=A at *;have hcv:=hsea.c v hvm;have hcfn:=(hs.len 2 (s:=cf) rfl (by omega)).1;rw[Yc] at hcfn;refine hs.appended 2 (s:=cf) (n:=2) (rows:=C.map Cr.cs) rfl app29 (m:=1) (news:=[Cr.cs (⟨ts,tb,v.S,T⟩:Cr)]) (hs.at 0 rfl (n:=2) rfl) rfl (fun r hr=>by rw[Ye] at hr;rw[hr];rfl) rfl (by omega) (by simp only[maxLen];omega) fun r2 h164 nr hs=>?_;refine hs.put 3 rfl (o:=1) (vs:=[.slice r2.a r2.n r2.c]) rfl (show 2<=5 by decide) fun h165 hs=>?_;refine⟨v.c2,hs.rd 1 rfl (i:=1) rfl,?_⟩;have hbn:=(hcv.at hs (memP (P:=[_,_,_,_,_,_,_]))).b.ln;generalize hMM:mostS L.length ((V.take i2).map fun v=>(vq v).1)=M at *;have hMl:M.length=nn:=by rw[<-hMM,most_len,hnn]
   refine⟨fun x h' μ=>∃j:Nat,x=(j:Int)/\μ=v.B.length-j/\j<=v.B.length/\St h h' ([.blk h161.size [.slice ts.a ts.n ts.c,.slice tb.a tb.n tb.c] 50,.blk h145.size v.cs 94,.sl r2 50 2 ((C++[(⟨ts,tb,v.S,T⟩:Cr)]).map Cr.cs),.blk h138.size (resA 1 r2 mo 0 ⟨none,0,0⟩) 32,.sl mo 3 1 ((stepM (v.B.map Bx.l) j M).map inC),.sl queue 94 5 (V.map Vs.cs),.blk h.size [.int .i64 0,.slice none 0 0,.slice none 0 0,.int .i64 0,.slice none 0 0] 32]++A),⟨_,0,rfl,rfl,Nat.zero_le _,by rw[stepM_0,Ym];exact hs⟩,?_⟩;clear hs;rintro-_ h171 μ3 ⟨j,rfl,rfl,hj,hs⟩;have hmn:=(hs.rows 4 (s:=mo) (cs:=inC) rfl (by omega)).ln;rw[stepM_len] at hmn;refine sBi (fun c7=>?_) (fun c7=>?_)
   ·obtain⟨q,gq⟩:=get_some (l:=v.B) (i:=j) (by omega);obtain⟨y,gy⟩:=get_some (l:=M) (i:=j) (by omega);have hCf:=hcv.at hs (memP (P:=[_,_,_,_,_,_,_]));have hqi:=hCf.i q (Yb gq);have hqn:=hqi.ln;refine hCf.b.rw.nbI (by omega) (by omega) fun b172 o173 q' gq' t=>?_;rw[Ys,gq] at gq';cases gq';refine⟨q.s,t.hd,mo,hs.rd 3 rfl (i:=2) rfl,mo,hs.rd 3 rfl (i:=2) rfl,?_⟩;refine (hs.rows 4 (s:=mo) (cs:=inC) rfl (by omega)).nbI (by omega) (by omega) fun b177 o178 y' gy' t2=>?_;rw[Ys,stepM_get,gy] at gy';cases gy';refine⟨y,t2.hd,?_⟩;refine hs.set 4 (s:=mo) (cs:=inC) (x:=(j:Int)) rfl (by omega) (by omega) (by omega) (imax y (q.s.n:Int)) rfl rfl (fun b180 o181 h182 hs=>?_) rfl;rw[Ys] at hs;have hql:(v.B.map Bx.l).getD j []=q.l:=getD_map gq;have e1:=stepM_next (B:=v.B.map Bx.l) gy;rw[hql,<-hqn] at e1;refine⟨_,(show v.B.length-(j+1)<v.B.length-j by omega),j+1,by rw[w64 (by omega) (by omega)];omega,rfl,by omega,?_⟩;rw[<-e1];exact hs
   ·have hjB:j=v.B.length:=by omega
    have e1:(V.take (i2+1)).map (fun v=>(vq v).1)=(V.take i2).map (fun v=>(vq v).1)++[(vq v).1]:=by rw[take_snoc gv,Ym];rfl
    refine⟨_,(show V.length-(i2+1)<V.length-i2 by omega),i2+1,C++[(⟨ts,tb,v.S,T⟩:Cr)],r2,A,by rw[w64 (by omega) (by omega)];omega,rfl,by omega,?_,?_,hsea,?_⟩
    ·rw[e1,Ym,hC];congr 1;show [(v.S,T.map Bx.l)]=_;rw[hTB];rfl
    ·intro c hc;rcases Yk.1 hc with hc | hc
     ·exact hCn c hc
     ·rw[Ye.1 hc];exact hcn
    ·rw[e1,most_snoc,hMM];have e2:=stepM_end (B:=v.B.map Bx.l) (M:=M) (j:=j) (by omega);rw[e2] at hs;exact hs.drop 2
  ·have hie:i2=V.length:=by omega
   subst hie;rw[Yye] at hC hs;refine⟨1,cf,mo,0,⟨none,0,0⟩,hs.at 1 rfl (o:=0) (n:=5) rfl,?_⟩;refine hs.put 4 rfl (o:=0) (vs:=resA 1 cf mo 0 ⟨none,0,0⟩) rfl (show 5<=5 by decide) fun h190 hs=>?_;refine⟨1,cf,mo,0,⟨none,0,0⟩,hs.at 4 rfl (o:=0) (n:=5) rfl,cf,mo,⟨none,0,0⟩,_,?_,hs,fun h0 h2 A' hA hs'=>?_⟩
   ·rw[hx,<-hex];rfl
   ·have hr:(expV (L.map MR.m) k (lm:Int)).1=⟨1,(V.map vq).map Prod.fst,mostS (L.map MR.m).length ((V.map vq).map Prod.fst),0,[]⟩:=by rw[hx,<-hex];rfl
    have eV:(V.map vq).map Prod.fst=V.map fun v=>(vq v).1:=by rw[List.map_map];rfl
    rw[hr,eV,hlm];have hml:=most_len L.length (V.map fun v=>(vq v).1);exact⟨⟨C,hs'.rlm (hA _ Yx) (by omega) (by omega),fun c hc=>hCn c hc h0 h2 A' (fun i hi=>hA i (memP (P:=[_,_,_,_,_]) i hi)) hs',hC⟩,
     hs'.rlm (hA _ (Yn _ (Yn _ Yx))) (by omega) (Yys (Nat.le_of_eq hml) (by omega)),RL.nil0⟩
end Go.VC
end

section
namespace Go.VC
open Go.Proofs
variable {h:Heap} {R:Value->Heap->Prop}

def V19a (h7 h:Heap) (R:Value->Heap->Prop):Prop:=
 Wp h7 (aS h 0) 2 [.slice none 0 0,.slice none 0 0] fun h8=>∃(x9 x10:Sl),atC h8 (aS h 0) [vS x9,vS x10]/\R (.tuple ⟨[.agg ⟨[vS x9,vS x10]⟩,vI 0,vI 1]⟩) h8
def W19 (p0:Sl) (p1:Int) (p2:Sl):Prop:=
 Wn h [.slice none 0 0,.slice none 0 0] 50 fun h1=>Fn Pz 25 #[vS p0] h1 (fun v2 h6=>∃(x3 x4:Sl) (x5:Int),v2=.tuple ⟨[.agg ⟨[vS x3,vS x4]⟩,vI x5]⟩/\Wp h6 (aS h 0) 2 [vS x3,vS x4] fun h7=>sB (x5 != 0) (V19a h7 h R) (sB (decide (p1<1)) (V19a h7 h R) (sB (decide (p1>4)) (V19a h7 h R) (QI 0 h7 fun I17 x_20 h21 m19=>sB (decide (x_20<(p2.n:Int))) (NB p2.a fun b22 o23=>Ib x_20 p2.n/\∃(x24 x25:Int),atC h21 ⟨b22,o23+Int.toNat x_20*2,none⟩ [vI x24,vI x25]/\Wn h21 [vI 0,vI 0] 48 fun h26=>Wp h26 (aS h21 0) 2 [vI x24,vI x25] fun h27=>∃(x28 x29:Sl),atC h27 (aS h 0) [vS x28,vS x29]/\∃(x30 x31:Int),atC h27 (aS h21 0) [vI x30,vI x31]/\Fn Pz 27 #[vS p0,vI p1,.agg ⟨[vS x28,vS x29]⟩,.agg ⟨[vI x30,vI x31]⟩] h27 (fun v32 h36=>∃(x33 x34:Sl) (x35:Int),v32=.tuple ⟨[.agg ⟨[vS x33,vS x34]⟩,vI x35]⟩/\Wn h36 [.slice none 0 0,.slice none 0 0] 50 fun h37=>Wp h37 (aS h36 0) 2 [vS x33,vS x34] fun h38=>sB (x35 != 0) (∃(x39 x40:Sl),atC h38 (aS h 0) [vS x39,vS x40]/\Wp h38 (aS h 0) 2 [vS x39,vS x40] fun h41=>∃(x42 x43:Sl),atC h41 (aS h 0) [vS x42,vS x43]/\R (.tuple ⟨[.agg ⟨[vS x42,vS x43]⟩,vI x_20,vI x35]⟩) h41) (∃(x44 x45:Sl),atC h38 (aS h36 0) [vS x44,vS x45]/\Wp h38 (aS h 0) 2 [vS x44,vS x45] fun h46=>∃m47,m47<m19/\I17 (IntKind.wrap .i64 (x_20+1)) h46 m47))) (∃(x48 x49:Sl),atC h21 (aS h 0) [vS x48,vS x49]/\Wp h21 (aS h 0) 2 [vS x48,vS x49] fun h50=>∃(x51 x52:Sl),atC h50 (aS h 0) [vS x51,vS x52]/\R (.tuple ⟨[.agg ⟨[vS x51,vS x52]⟩,vI (p2.n:Int),vI 0]⟩) h50)))))
theorem vc19 (p0:Sl) (p1:Int) (p2:Sl) (H:@W19 h R p0 p1 p2):Fn Pz 19 #[vS p0,vI p1,vS p2] h R:=fnI (A:=(.s .z (.s .z (.s .z (.s (.s .z (.b (.l [(31,.one (.int .i64))] .z))) .z))))) (by kernel_rfl) H

def V20a (h36 h35:Heap) (x32 x33:Sl) (x34:Int) (h17 h:Heap) (R:Value->Heap->Prop) (i_23:Int) (m22:Nat) (I20:Int->Heap->Nat->Prop):Prop:=
 Wp h36 (aS h35 0) 2 [vS x32,vS x33] fun h37=>sB (x34 != 0) (∃(x38 x39:Sl),atC h37 (aS h17 0) [vS x38,vS x39]/\Wp h37 (aS h 0) 2 [vS x38,vS x39] fun h40=>∃(x41 x42:Sl),atC h40 (aS h 0) [vS x41,vS x42]/\R (.tuple ⟨[.agg ⟨[vS x41,vS x42]⟩,vI i_23,vI x34]⟩) h40) (∃(x43 x44:Sl),atC h37 (aS h35 0) [vS x43,vS x44]/\Wp h37 (aS h17 0) 2 [vS x43,vS x44] fun h45=>∃m46,m46<m22/\I20 (IntKind.wrap .i64 (i_23+1)) h45 m46)
def V20b (h4 h:Heap) (R:Value->Heap->Prop):Prop:=
 Wp h4 (aS h 0) 2 [.slice none 0 0,.slice none 0 0] fun h5=>∃(x6 x7:Sl),atC h5 (aS h 0) [vS x6,vS x7]/\R (.tuple ⟨[.agg ⟨[vS x6,vS x7]⟩,vI 0,vI 1]⟩) h5
def W20 (p0:Sl) (p1:Int) (p2:Sl):Prop:=
 Wn h [.slice none 0 0,.slice none 0 0] 28 fun h1=>Fn Pz 39 #[vS p0] h1 (fun v2 h4=>∃x3,iB v2 x3/\sB (!x3) (V20b h4 h R) (sB (decide (p1<1)) (V20b h4 h R) (sB (decide (p1>4)) (V20b h4 h R) (Fn Pz 40 #[vS p0] h4 (fun v14 h17=>∃(x15 x16:Sl),v14=.agg ⟨[vS x15,vS x16]⟩/\Wn h17 [.slice none 0 0,.slice none 0 0] 28 fun h18=>Wp h18 (aS h17 0) 2 [vS x15,vS x16] fun h19=>QI 0 h19 fun I20 i_23 h24 m22=>sB (decide (i_23<(p2.n:Int))) (∃(x25 x26:Sl),atC h24 (aS h17 0) [vS x25,vS x26]/\NB p2.a fun b27 o28=>Ib i_23 p2.n/\∃(x29 x30:Int),atC h24 ⟨b27,o28+Int.toNat i_23*2,none⟩ [vI x29,vI x30]/\(Fn Pz 48 #[vS p0,vI p1,.agg ⟨[vS x25,vS x26]⟩,.agg ⟨[vI x29,vI x30]⟩] h24 (fun v31 h35=>∃(x32 x33:Sl) (x34:Int),v31=.tuple ⟨[.agg ⟨[vS x32,vS x33]⟩,vI x34]⟩/\Wn h35 [.slice none 0 0,.slice none 0 0] 28 fun h36=>Sm [⟨b27,o28+Int.toNat i_23*2,none⟩,(aS h17 0)] h35 h36/\V20a h36 h35 x32 x33 x34 h17 h R i_23 m22 I20))/\Wn h24 [.slice none 0 0,.slice none 0 0] 28 fun h47=>Sm [⟨b27,o28+Int.toNat i_23*2,none⟩,(aS h17 0)] h24 h47/\Fn Pz 48 #[vS p0,vI p1,.agg ⟨[vS x25,vS x26]⟩,.agg ⟨[vI x29,vI x30]⟩] h47 (fun v48 h52=>∃(x49 x50:Sl) (x51:Int),v48=.tuple ⟨[.agg ⟨[vS x49,vS x50]⟩,vI x51]⟩/\V20a h52 h24 x49 x50 x51 h17 h R i_23 m22 I20)) (∃(x63 x64:Sl),atC h24 (aS h17 0) [vS x63,vS x64]/\Wp h24 (aS h 0) 2 [vS x63,vS x64] fun h65=>∃(x66 x67:Sl),atC h65 (aS h 0) [vS x66,vS x67]/\R (.tuple ⟨[.agg ⟨[vS x66,vS x67]⟩,vI (p2.n:Int),vI 0]⟩) h65))))))
theorem vc20 (p0:Sl) (p1:Int) (p2:Sl) (H:@W20 h R p0 p1 p2):Fn Pz 20 #[vS p0,vI p1,vS p2] h R:=fnI (A:=(.s .z (.s .z (.s .z (.s (.s .z (.b (.l [(10,.one (.int .i64))] .z))) .z))))) (by kernel_rfl) H

end Go.VC
end

section
namespace Go.VC
open Go.Proofs Go.LexS

structure Vr where
 c:Cr
 t:Sl
 tr:List (Nat × Nat)
def Vr.cs (v:Vr):List Value:=v.c.cs
def Vr.ts (v:Vr):List Value:=[.slice v.t.a v.t.n v.t.c]
end Go.VC
end
