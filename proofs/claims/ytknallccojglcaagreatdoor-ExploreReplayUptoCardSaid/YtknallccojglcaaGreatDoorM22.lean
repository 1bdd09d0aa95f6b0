/- KwD KwVcJ KwE KwF. -/
import Derived.Test.YtknallccojglcaaGreatDoorM21
set_option linter.unusedVariables false
set_option linter.unusedSimpArgs false
set_option maxRecDepth 100000

section
namespace Go.VC
open Go.Proofs Go.LexS
set_option maxHeartbeats 800000 in
theorem sameC19 (a1 b1 a2 b2:Sl) (S1 S2:List Int) (B1 B2:List Bx) (h:Heap) (h1:CfI h a1 b1 S1 B1) (h2:CfI h a2 b2 S2 B2) :
  Fn Pz 21 #[.agg ⟨[.slice a1.a a1.n a1.c,.slice b1.a b1.n b1.c]⟩,.agg ⟨[.slice a2.a a2.n a2.c,.slice b2.a b2.n b2.c]⟩] h (RP (S1=S2/\B1.map Bx.l=B2.map Bx.l) h):=by
 apply vc21 a1 b1 a2 b2;unfold W21;have n1:=h1.b.ln;have n2:=h2.b.ln;have m1:=h1.b.sm;refine (St.refl h).newb fun h5 hs=>?_;refine hs.newb fun h6 hs=>?_;refine⟨a1,hs.rd 1 rfl rfl,a2,hs.rd 0 rfl rfl,?_⟩;refine (same34 S1 S2 a1 a2 h6 (h1.s.ext hs.ext) (h2.s.ext hs.ext)).mono ?_;rintro _ h11 ⟨⟨b,rfl,hb⟩,E⟩;have hs:=hs.step E;refine⟨_,rfl,sB_intro (fun c=>RP.f (fun hG=>iff_f hb (bF c) hG.1) hs.ext) (fun c0=>?_)⟩;refine⟨b1,hs.rd 1 rfl (i:=1) rfl,b2,hs.rd 0 rfl (i:=1) rfl,sBn (fun c=>RP.f (fun hG=>?_) hs.ext) (fun c1=>?_)⟩
 ·have:=congrArg List.length hG.2;rw[Yc,Yc] at this;omega
 refine up_loopS (n:=b1.n) hs (fun i=>∀(j:Nat),j<i->(B1.map Bx.l)[j]?=(B2.map Bx.l)[j]?) (fun j hj=>by omega) ?_;rintro-i h18 hi ⟨hs,hq⟩;refine⟨b1,hs.rd 1 rfl (i:=1) rfl,sB_intro (fun c=>?_) (fun c=>?_)⟩
 ·replace c:=lt_t c;refine⟨b1,hs.rd 1 rfl (i:=1) rfl,?_⟩;refine (h1.b.rw.ext hs.ext).nbI (by omega) (by omega) fun b3 o3 x gx t3=>?_;replace gx:B1[i]?=some x:=gx;refine⟨x.s,t3.hd,b2,hs.rd 0 rfl (i:=1) rfl,?_⟩;refine (h2.b.rw.ext hs.ext).nbI (by omega) (by omega) fun b4 o4 y gy t4=>?_;replace gy:B2[i]?=some y:=gy;refine⟨y.s,t4.hd,?_⟩;refine (same34 x.l y.l x.s y.s h18 ((h1.i x (Yb gx)).ext hs.ext) ((h2.i y (Yb gy)).ext hs.ext)).mono ?_;rintro _ h30 ⟨⟨b',rfl,hb'⟩,E⟩;have hs:=hs.step E;have ex:(B1.map Bx.l)[i]?=some x.l:=by rw[Yd,gx];rfl
  have ey:(B2.map Bx.l)[i]?=some y.l:=by rw[Yd,gy];rfl
  refine⟨_,rfl,sB_intro (fun c=>RP.f (fun hG=>iff_f hb' (bF c) ?_) hs.ext) (fun c2=>?_)⟩
  ·rw[hG.2,ey] at ex;exact (Yyp ex).symm
  ·refine Up.next (by omega) (by omega) ⟨hs,fun j hj=>?_⟩;by_cases e:j=i
   ·subst e;rw[ex,ey,hb'.1 (bT c2)]
   ·exact hq j (by omega)
 ·replace c:=lt_f c;refine RP.t ⟨hb.1 (bT c0),Yyr fun j=>?_⟩ hs.ext;by_cases hj:j<B1.length
  ·exact hq j (by omega)
  ·rw[Yl (by rw[Yc];omega),Yl (by rw[Yc];omega)]
structure FewC (L:List Mch) (S:List Int) (B:List (List Int)):Prop where
 m:∀x∈L,FewM x
 b:∀b∈B,b.length<=10
 n:L.length<=7/\S.length<=10/\B.length<=50
theorem fewC13 (L:List MR) (s:Sl) (ss sb:Sl) (S:List Int) (B:List Bx) (h:Heap) (hS:SyI h s L) (hC:CfI h ss sb S B) :
  Fn Pz 12 #[.slice s.a s.n s.c,.agg ⟨[.slice ss.a ss.n ss.c,.slice sb.a sb.n sb.c]⟩] h (RP (FewC (L.map MR.m) S (B.map Bx.l)) h):=by
 apply vc12 s ss sb;unfold W12;have hn:=hS.r.ln;have hnm:=hS.r.sm;have hsn:=hC.s.ln;have hbn:=hC.b.ln;have hbm:=hC.b.sm;have hlm:(L.map MR.m).length=L.length:=Yc _;have hlb:(B.map Bx.l).length=B.length:=Yc _;refine (St.refl h).newb fun h3 hs=>?_;refine up_loopS (n:=s.n) hs (fun i=>∀(j:Nat) (x:MR),j<i->L[j]?=some x->FewM x.m) (fun j x hj=>by omega) ?_;rintro-i h8 hi ⟨hs,hq⟩;refine sB_intro (fun c=>?_) (fun c=>?_)
 ·replace c:=lt_t c;refine (hS.r.rw.ext hs.ext).nbI (by omega) (by omega) fun b o x gx t=>?_;replace gx:L[i]?=some x:=gx;have hxm:=Yb gx;refine⟨_,_,_,_,_,_,t,?_⟩;refine (few13 x.m x.f x.g x.l h8 ((hS.i x hxm).ext hs.ext)).mono ?_;rintro _ h19 ⟨⟨b1,rfl,hb1⟩,E⟩;have hs:=hs.step E;refine⟨_,rfl,sB_intro (fun c=>RP.f (fun hG=>iff_f hb1 (bF c) (hG.m x.m (List.mem_map_of_mem hxm))) hs.ext) (fun c2=>?_)⟩;refine Up.next (by omega) (by omega) ⟨hs,fun j y hj hy=>?_⟩;by_cases e:j=i
  ·subst e;rw[gx] at hy;cases hy;exact hb1.1 (bT c2)
  ·exact hq j y (by omega) hy
 ·replace c:=lt_f c;refine up_loopS (n:=sb.n) hs (fun i=>∀(j:Nat) (q:Bx),j<i->B[j]?=some q->q.l.length<=10) (fun j x hj=>by omega) ?_;rintro-k h25 hk ⟨hs,hq2⟩;refine⟨sb,hs.rd 0 rfl (i:=1) rfl,sB_intro (fun d=>?_) (fun d=>?_)⟩
  ·replace d:=lt_t d;refine⟨sb,hs.rd 0 rfl (i:=1) rfl,?_⟩;refine (hC.b.rw.ext hs.ext).nbI (by omega) (by omega) fun b o q gq t=>?_;replace gq:B[k]?=some q:=gq;have hqm:=Yb gq;have hql:=(hC.i q hqm).ln;refine⟨q.s,t.hd,sBi (fun c5=>RP.f (fun hG=>by have:=hG.b q.l (List.mem_map_of_mem hqm);omega) hs.ext) (fun c5=>?_)⟩;refine Up.next (by omega) (by omega) ⟨hs,fun j y hj hy=>?_⟩;by_cases e:j=k
   ·subst e;rw[gq] at hy;cases hy;omega
   ·exact hq2 j y (by omega) hy
  ·replace d:=lt_f d;refine sBi (fun c1=>?_) (fun c1=>RP.f (fun hG=>by have:=hG.n;omega) hs.ext);refine⟨ss,hs.rd 0 rfl rfl,sBi (fun c2=>?_) (fun c2=>RP.f (fun hG=>by have:=hG.n;omega) hs.ext)⟩;refine⟨sb,hs.rd 0 rfl (i:=1) rfl,RP.e ?_ hs.ext⟩;rw[decide_eq_true_eq];refine⟨fun c3=>⟨fun x hx=>?_,fun b hb=>?_,by omega⟩,fun hG=>by have:=hG.n;omega⟩
   ·obtain⟨y,hy,rfl⟩:=Yp.1 hx;obtain⟨j,hj⟩:=Yf.1 hy;exact hq j y (by have:=(Ya.1 hj).1;omega) hj
   ·obtain⟨y,hy,rfl⟩:=Yp.1 hb;obtain⟨j,hj⟩:=Yf.1 hy;exact hq2 j y (by have:=(Ya.1 hj).1;omega) hj
def cfA (ss sb:Sl):Value:=.agg ⟨[.slice ss.a ss.n ss.c,.slice sb.a sb.n sb.c]⟩
theorem CfI.none_ {h:Heap}:CfI h ⟨none,0,0⟩ ⟨none,0,0⟩ [] []:=⟨⟨Rw.nil,Yyt _,fun _=>⟨rfl,rfl⟩,Nat.zero_le _⟩,⟨Rw.nil,Yyt _,fun _=>⟨rfl,rfl⟩,Nat.zero_le _⟩,fun q hq=>by cases hq⟩
def startS (L:List Mch):List Int:=L.map fun m=>m.s
def startB (L:List Mch):List (List Int):=List.replicate (L.length*L.length) []
def bx0:Bx:=⟨⟨none,0,0⟩,[]⟩
theorem bxrows (B:List Bx):∀r∈B.map Bx.cs,r.length=1:=fun r hr=>by obtain⟨x,_,rfl⟩:=Yp.1 hr;rfl
theorem inrows' (L:List Int):∀r∈L.map inC,r.length=1:=fun r hr=>by obtain⟨x,_,rfl⟩:=Yp.1 hr;rfl
def Bx.itq (q:Bx):It:=.q q.s 3 1 (q.l.map inC)
structure CfM (A:List It) (ss sb:Sl) (S:List Int) (B:List Bx):Prop where
 s:It.sl ss 3 1 (S.map inC)∈A
 b:It.sl sb 25 1 (B.map Bx.cs)∈A
 i:∀q∈B,q=bx0\/q.it∈A\/q.itq∈A
 n:S.length<=1048576/\B.length<=1048576/\∀q∈B,q.l.length<=1048576
theorem CfM.mono {A A':List It} {ss sb:Sl} {S:List Int} {B:List Bx} (h:CfM A ss sb S B) (hA:∀i∈A,i∈A'):CfM A' ss sb S B:=⟨hA _ h.s,hA _ h.b,fun q hq=>(h.i q hq).imp id (Or.imp (hA _) (hA _)),h.n⟩
theorem CfM.cfi {h0 h:Heap} {A:List It} {ss sb:Sl} {S:List Int} {B:List Bx} (hs:St h0 h A) (hM:CfM A ss sb S B):CfI h ss sb S B:=by
 obtain⟨k,hk⟩:=Yf.1 hM.s;obtain⟨k',hk'⟩:=Yf.1 hM.b;have l1:=hs.len k hk (by omega);have l2:=hs.len k' hk' (by omega);refine⟨⟨hs.rows k hk (by omega),l1.2.1,l1.2.2,hM.n.1⟩,⟨hs.rows k' hk' (by omega),l2.2.1,l2.2.2,hM.n.2.1⟩,fun q hq=>?_⟩;rcases hM.i q hq with rfl | hi | hi
 ·exact⟨Rw.nil,Yyt _,fun _=>⟨rfl,rfl⟩,Nat.zero_le _⟩
 ·obtain⟨j,hj⟩:=Yf.1 hi;have l3:=hs.len j hj (by omega);exact⟨hs.rows j hj (by omega),l3.2.1,l3.2.2,hM.n.2.2 q hq⟩
 ·obtain⟨j,hj⟩:=Yf.1 hi;have l3:=hs.qlen j hj;refine⟨hs.qrw j hj (by omega),l3.2,fun ha=>?_,hM.n.2.2 q hq⟩;rcases (hs.get hj).1.2 with ⟨_,h2,h3⟩ | ⟨g,o,cur,hb,_⟩
  ·exact⟨h2,h3⟩
  ·rw[ha] at hb;cases hb
theorem CfM.none_:CfM [.sl ⟨none,0,0⟩ 3 1 [],.sl ⟨none,0,0⟩ 25 1 []] ⟨none,0,0⟩ ⟨none,0,0⟩ [] []:=⟨Yx,Yn _ Yx,fun q hq=>(by cases hq),Nat.zero_le _,Nat.zero_le _,fun q hq=>(by cases hq)⟩
set_option maxHeartbeats 1600000 in
theorem first46 (L:List MR) (s:Sl) (h:Heap) (hS:SyI h s L) (h6:L.length<=6) :
  Fn Pz 40 #[.slice s.a s.n s.c] h fun v h'=>∃(ss sb:Sl) (A:List It),v=cfA ss sb/\St h h' A/\CfM A ss sb (startS (L.map MR.m)) (List.replicate (L.length*L.length) bx0):=by
 apply vc40 s;unfold W40;have hn:=hS.r.ln;have h36:=sq6 h6;have hsq:(s.n:Int)*(s.n:Int)=((L.length*L.length:Nat):Int):=by rw[hn];rfl
 generalize hnn:L.length*L.length=nn at *;refine (St.refl h).newb fun h1 hs=>?_;rw[hsq,w64 (n:=((nn:Nat):Int)) (by omega) (by omega),Ys];refine⟨⟨by omega,by omega,by omega⟩,?_⟩;refine hs.newb fun h2 hs=>?_;have hs:=hs.blkS nn 1 ((List.replicate nn bx0).map Bx.cs) (by rw[made42,List.map_replicate,List.map_replicate];rfl) (bxrows _) (by rw[Yc,Yg]) (by simp only[maxLen];omega);refine hs.newput (vs:=[.slice none 0 0,.slice (some ⟨h1.size,0,none⟩) nn nn]) rfl rfl fun h4 hs=>?_;have hs:=hs.nil_ 3 1;have hSl:(startS (L.map MR.m)).length=L.length:=by unfold startS;rw[Yc,Yc]
 refine⟨fun x h' μ=>∃(i:Nat) (st:Sl),x=(i:Int)/\μ=L.length-i/\i<=L.length/\St h h' [.sl st 3 1 (((startS (L.map MR.m)).take i).map inC),.blk h2.size [.slice st.a st.n st.c,.slice (some ⟨h1.size,0,none⟩) nn nn] 28,.sl ⟨some ⟨h1.size,0,none⟩,nn,nn⟩ 25 1 ((List.replicate nn bx0).map Bx.cs),.blk h.size [.slice none 0 0,.slice none 0 0] 28],⟨_,0,_,rfl,rfl,Nat.zero_le _,hs⟩,?_⟩;clear hs;rintro-_ h9 μ ⟨i,st,rfl,rfl,hi,hs⟩;refine sBi (fun c=>?_) (fun c=>?_)
 ·obtain⟨y,gy⟩:=get_some (l:=L) (i:=i) (by omega);have gs:(startS (L.map MR.m))[i]?=some y.m.s:=by unfold startS;rw[Yd,Yd,gy];rfl
  have hst:=(hs.rows 0 (s:=st) (cs:=inC) rfl (by omega)).ln;rw[Yu] at hst;refine⟨st,hs.rd 1 rfl rfl,?_⟩;refine (hS.r.rw.ext hs.ext).nbI (by omega) (by omega) fun b o y' gy' t=>?_;rw[Ys] at gy';replace gy':L[i]?=some y':=gy';rw[gy] at gy';cases gy';refine⟨_,t.nth 2 rfl,?_⟩;refine hs.newbE fun h14 E14 hs=>⟨E14.sm,?_⟩;refine hs.appended 1 (rows:=((startS (L.map MR.m)).take i).map inC) rfl app42 (m:=1) (news:=[inC y.m.s]) (hs.at 0 rfl (n:=1) rfl) rfl (by simp[inC]) rfl (by omega) (by simp only[maxLen];omega) fun r h16 nr hs=>?_;refine hs.put 2 rfl (o:=0) (vs:=[.slice r.a r.n r.c]) rfl (show 1<=2 by decide) fun h17 hs=>?_;refine⟨_,(show L.length-(i+1)<L.length-i by omega),i+1,r,by rw[w64 (by omega) (by omega)];omega,rfl,by omega,?_⟩;rw[take_snoc gs,Ym];exact hs.drop 1
 ·have hil:i=L.length:=by omega
  subst hil;rw[Yj (by omega)] at hs;refine⟨st,⟨some ⟨h1.size,0,none⟩,nn,nn⟩,hs.at 1 rfl (o:=0) (n:=2) rfl,?_⟩;refine hs.put 3 rfl (o:=0) (vs:=[.slice st.a st.n st.c,.slice (some ⟨h1.size,0,none⟩) nn nn]) rfl (show 2<=2 by decide) fun h21 hs=>?_;refine⟨st,⟨some ⟨h1.size,0,none⟩,nn,nn⟩,hs.at 3 rfl (o:=0) (n:=2) rfl,st,_,_,rfl,hs,?_⟩;refine⟨Yx,Yn _ (Yn _ Yx),fun q hq=>.inl (List.eq_of_mem_replicate hq),by omega,by rw[Yg];omega,fun q hq=>?_⟩;rw[List.eq_of_mem_replicate hq];exact Nat.zero_le _
end Go.VC
end

section
namespace Go.VC
open Go.Proofs
variable [Mono]
namespace M

end M
end Go.VC
end

section
namespace Go.VC
open Go.Proofs Go.LexS
def stC (p:Int) (k:Nat):List Value:=[.int .i64 p,.int .i64 (k:Int)]
variable [Mono]
namespace M
end M
end Go.VC
end

section
namespace Go.VC
open Go.Proofs Go.LexS
def bxI (n p:Nat) (x:Mv):Nat:=if x.send=true then n*p+x.peer.toNat else n*x.peer.toNat+p
theorem two_lt {n a b:Nat} (ha:a<n) (hb:b<n):n*a+b<n*n:=by
 have h1:n*(a+1)<=n*n:=Nat.mul_le_mul_left _ (by omega);rw[Nat.mul_succ] at h1;omega
theorem bxI_lt {n p:Nat} {x:Mv} (hp:p<n) (h0:0<=x.peer) (h1:x.peer<(n:Int)):bxI n p x<n*n:=by
 unfold bxI;split
 ·exact two_lt hp (by omega)
 ·exact two_lt (by omega) hp
def canS (n:Nat) (k:Int) (S:List Int) (BL:List (List Int)) (p:Nat) (x:Mv):Int:=
 if x.f≠S.getD p 0 then 7 else
 if x.send=true then (if k<=((BL.getD (bxI n p x) []).length:Int) then 19 else 0)
 else match BL.getD (bxI n p x) [] with
  | []=>23
  | l::_=>if l≠x.label then 23 else 0
theorem box60 (n p:Nat) (x:Mv) (h:Heap) (hn:n<=6) (hp:p<n) (h0:0<=x.peer) (h1:x.peer<(n:Int)) :
  Fn Pz 57 #[.int .i64 (n:Int),.int .i64 (p:Int),.agg ⟨x.cs⟩] h fun v h'=>v=.int .i64 (bxI n p x:Nat)/\Ext h h':=by
 apply vc57 (n:Int) (p:Int) x.f x.send x.peer x.label x.t x.ag;unfold W57;have h36:=sq6 hn;refine (St.refl h).newb fun h7 hs=>?_;refine⟨_,hs.rd 0 rfl (i:=1) rfl,?_⟩;obtain⟨q,hq⟩:∃q:Nat,x.peer=(q:Int):=⟨x.peer.toNat,by omega⟩;have hqn:q<n:=by omega
 have hqt:x.peer.toNat=q:=by omega
 have b1:=two_lt hp hqn;have b2:=two_lt hqn hp;unfold bxI;rw[hqt];refine sB_intro (fun c=>?_) (fun c=>?_)
 ·refine⟨(q:Int),by rw[<-hq];exact hs.rd 0 rfl (i:=2) rfl,?_⟩;have e1:(n:Int)*(p:Int)=((n*p:Nat):Int):=rfl;have e2:((n*p:Nat):Int)+(q:Int)=((n*p+q:Nat):Int):=rfl;rw[if_pos c,e1,w64 (n:=((n*p:Nat):Int)) (by omega) (by omega),e2,w64 (n:=((n*p+q:Nat):Int)) (by omega) (by omega)];exact⟨rfl,hs.ext⟩
 ·refine⟨(q:Int),by rw[<-hq];exact hs.rd 0 rfl (i:=2) rfl,?_⟩;have e1:(n:Int)*(q:Int)=((n*q:Nat):Int):=rfl;have e2:((n*q:Nat):Int)+(p:Int)=((n*q+p:Nat):Int):=rfl;rw[if_neg (by rw[c];exact Bool.false_ne_true),e1,w64 (n:=((n*q:Nat):Int)) (by omega) (by omega),e2,w64 (n:=((n*q+p:Nat):Int)) (by omega) (by omega)];exact⟨rfl,hs.ext⟩
set_option maxHeartbeats 800000 in
theorem can58 (n:Nat) (k:Int) (ss sb:Sl) (S:List Int) (B:List Bx) (p:Nat) (x:Mv) (h:Heap) (hC:CfI h ss sb S B) (hn:n<=6) (hS:S.length=n) (hB:B.length=n*n) (hp:p<n) (h0:0<=x.peer) (h1:x.peer<(n:Int)) :
  Fn Pz 55 #[.int .i64 (n:Int),.int .i64 k,.agg ⟨[.slice ss.a ss.n ss.c,.slice sb.a sb.n sb.c]⟩,.int .i64 (p:Int),.agg ⟨x.cs⟩] h fun v h'=>v=.int .i64 (canS n k S (B.map Bx.l) p x)/\Ext h h':=by
 apply vc55 (n:Int) k ss sb (p:Int) x.f x.send x.peer x.label x.t x.ag;unfold W55 V55a;have hsn:=hC.s.ln;have hbn:=hC.b.ln;have hlt:=bxI_lt hp h0 h1;refine (St.refl h).newb fun h9 hs=>?_;refine hs.newb fun h10 hs=>?_;refine⟨sb,hs.rd 1 rfl (i:=1) rfl,_,_,_,_,_,_,hs.at 0 rfl (o:=0) (n:=6) rfl,?_⟩;refine (box60 n p x h10 hn hp h0 h1).mono ?_;rintro _ h20 ⟨rfl,E⟩;have hs:=hs.step E;refine⟨_,rfl,E.sm,?_⟩;refine (hC.b.rw.ext hs.ext).nbI (Int.natCast_nonneg _) (Int.ofNat_lt.2 (by rw[hbn,hB];exact hlt)) fun b21 o22 q gq t=>?_;rw[Ys] at gq;replace gq:B[bxI n p x]?=some q:=gq;have hqi:=hC.i q (Yb gq);have hql:=hqi.ln;refine⟨q.s,t.hd,_,hs.rd 0 rfl (i:=0) rfl,ss,hs.rd 1 rfl rfl,?_⟩;refine (hC.s.rw.ext hs.ext).nbI (by omega) (by omega) fun b o z gz t2=>?_;rw[Ys] at gz;replace gz:S[p]?=some z:=gz;have hSg:S.getD p 0=z:=getD_some gz;have hBg:(B.map Bx.l).getD (bxI n p x) []=q.l:=getD_some (by rw[Yd,gq];rfl);refine⟨_,t2.hd,?_⟩;unfold canS;rw[hSg,hBg];refine sBn (fun c=>⟨by rw[if_pos c],hs.ext⟩) (fun c=>?_);rw[if_neg (fun h=>h c)];refine⟨_,hs.rd 0 rfl (i:=1) rfl,sB_intro (fun d=>?_) (fun d=>?_)⟩
 ·rw[if_pos d];refine sBi (fun e=>⟨by rw[if_pos (by omega)],hs.ext⟩) (fun e=>?_);rw[if_neg (by omega)];exact⟨_,hs.rd 0 rfl (i:=1) rfl,sB_f (by rw[d];rfl) ⟨rfl,hs.ext⟩⟩
 ·rw[if_neg (by rw[d];exact Bool.false_ne_true)];refine⟨_,hs.rd 0 rfl (i:=1) rfl,sB_t (by rw[d];rfl) (sBe (fun e=>?_) (fun e=>?_))⟩
  ·rw[List.eq_nil_of_length_eq_zero (l:=q.l) (by omega)];exact⟨rfl,hs.ext⟩
  ·refine (hqi.rw.ext hs.ext).nbI (by omega) (by omega) fun b3 o3 y gy t3=>?_;replace gy:q.l[0]?=some y:=gy;cases hl:q.l with
   | nil=>rw[hl] at gy;cases gy
   | cons a r=>
    rw[hl] at gy;cases gy;refine⟨_,t3.hd,_,hs.rd 0 rfl (i:=3) rfl,sBn (fun f=>⟨?_,hs.ext⟩) (fun f=>⟨?_,hs.ext⟩)⟩
    ·show _=Value.int .i64 (if y≠x.label then 23 else 0);rw[if_pos f]
    ·show _=Value.int .i64 (if y≠x.label then 23 else 0);rw[if_neg (fun h=>h f)]
def posS (L:List Mch) (k:Int) (S:List Int) (BL:List (List Int)) (r i:Int):Int:=
 if r<0\/(L.length:Int)<=r then 2 else match L[r.toNat]? with
 | none=>2
 | some m=>if i<0\/(m.mv.length:Int)<=i then 2 else match m.mv[i.toNat]? with
  | none=>2
  | some x=>canS L.length k S BL r.toNat x
set_option maxHeartbeats 1600000 in
theorem possible61 (L:List MR) (s:Sl) (k:Int) (ss sb:Sl) (S:List Int) (B:List Bx) (r i:Int) (h:Heap) (hS:SyI h s L) (hV:SysV (L.map MR.m)) (hC:CfI h ss sb S B) (hSl:S.length=L.length) (hBl:B.length=L.length*L.length) :
  Fn Pz 79 #[.slice s.a s.n s.c,.int .i64 k,.agg ⟨[.slice ss.a ss.n ss.c,.slice sb.a sb.n sb.c]⟩,.agg ⟨[.int .i64 r,.int .i64 i]⟩] h fun v h'=>v=.int .i64 (posS (L.map MR.m) k S (B.map Bx.l) r i)/\Ext h h':=by
 apply vc79 s k ss sb r i;unfold W79;have hn:=hS.r.ln;have hsn:=hC.s.ln;have hbn:=hC.b.ln;have hlm:(L.map MR.m).length=L.length:=Yc _;have hV6:=hV.n;rw[hlm] at hV6;have h36:=sq6 hV6.2;refine (St.refl h).newb fun h5 hs=>?_;refine hs.newb fun h6 hs=>?_;unfold posS;rw[hlm];refine⟨_,hs.rd 0 rfl (i:=0) rfl,sBi (fun c=>⟨by rw[if_pos (.inl c)],hs.ext⟩) (fun c1=>?_)⟩;refine⟨_,hs.rd 0 rfl (i:=0) rfl,sBi (fun c=>⟨by rw[if_pos (.inr (by omega))],hs.ext⟩) (fun c2=>?_)⟩;rw[if_neg (by omega)];obtain⟨p,rfl⟩:∃p:Nat,r=(p:Int):=⟨r.toNat,by omega⟩;have hp:p<L.length:=by omega
 obtain⟨y,gy⟩:=get_some (l:=L) (i:=p) hp;have gm:(L.map MR.m)[p]?=some y.m:=by rw[Yd,gy];rfl
 rw[Ys,gm];have hyi:=hS.i y (Yb gy);have hgn:=hyi.pm.ln;refine⟨_,hs.rd 0 rfl (i:=1) rfl,sBi (fun c=>⟨?_,hs.ext⟩) (fun c3=>?_)⟩
 ·show _=Value.int .i64 (if i<0\/(y.m.mv.length:Int)<=i then 2 else _);rw[if_pos (.inl c)]
 refine⟨_,hs.rd 0 rfl (i:=1) rfl,_,hs.rd 0 rfl (i:=0) rfl,?_⟩;have rdL:∀ {F:Nat->Nat->Prop} {h':Heap},Ext h h'->(∀b o,atC h' ⟨b,o+p*6,none⟩ y.cs->F b o)->NB s.a fun b o=>(0<=(p:Int)/\(p:Int)<(s.n:Nat))/\F b o:=fun {F h'} E hF=>(hS.r.rw.ext E).nbI (by omega) (by omega) fun b o y' gy' t=>by
  rw[Ys] at gy' t;replace gy':L[p]?=some y':=gy';rw[gy] at gy';cases gy';exact hF b o t
 refine rdL hs.ext fun b1 o1 t1=>?_;refine⟨y.g,t1.nth 4 rfl,sBi (fun c=>⟨?_,hs.ext⟩) (fun c4=>?_)⟩
 ·show _=Value.int .i64 (if i<0\/(y.m.mv.length:Int)<=i then 2 else _);rw[if_pos (.inr (by omega))]
 obtain⟨j,rfl⟩:∃j:Nat,i=(j:Int):=⟨i.toNat,by omega⟩;obtain⟨x,gx⟩:=get_some (l:=y.m.mv) (i:=j) (by omega);refine⟨_,hs.rd 0 rfl (i:=0) rfl,rdL hs.ext fun b2 o2 t2=>?_⟩;refine⟨y.g,t2.nth 4 rfl,_,hs.rd 0 rfl (i:=1) rfl,?_⟩;refine (hyi.pm.rw.ext hs.ext).nbI (by omega) (by omega) fun b3 o3 x' gx' t3=>?_;rw[Ys] at gx';replace gx':y.m.mv[j]?=some x':=gx';rw[gx] at gx';cases gx';refine⟨_,_,_,_,_,_,t3,?_⟩;have hxm:=Yb gx;have hvm:=hV.m p y.m gm;have hx0:0<=x.peer:=(hvm.2.1.n.mv x hxm).2.2.2.2.1;have hx1:x.peer<(L.length:Int):=by have:=hvm.2.2 x hxm;rw[hlm] at this;exact this
 refine hs.newbE fun h28 E28 hs=>⟨E28.sm,?_⟩;refine hs.put 0 rfl (o:=0) (vs:=x.cs) rfl (show 6<=6 by decide) fun h29 hs=>?_;refine⟨ss,hs.rd 2 rfl rfl,_,hs.rd 1 rfl (i:=0) rfl,?_⟩;refine (hC.s.rw.ext hs.ext).nbI (by omega) (by omega) fun b4 o4 z gz t4=>?_;rw[Ys] at gz;replace gz:S[p]?=some z:=gz;have hSg:S.getD p 0=z:=getD_some gz;refine⟨_,t4.hd,_,hs.rd 0 rfl (i:=0) rfl,?_⟩;show sB _ (Value.int .i64 7=.int .i64 (if (j:Int)<0\/(y.m.mv.length:Int)<=(j:Int) then 2 else match y.m.mv[(j:Int).toNat]? with | none=>2 | some x=>canS L.length k S (B.map Bx.l) p x)/\Ext h h29) _;rw[if_neg (by omega),Ys,gx];refine sBn (fun c=>⟨?_,hs.ext⟩) (fun c5=>?_)
 ·show _=Value.int .i64 (canS L.length k S (B.map Bx.l) p x);unfold canS;rw[hSg,if_pos (fun e=>c e.symm)]
 have key:∀v:Int,v=canS L.length k S (B.map Bx.l) p x->∀h',Ext h h'->(Value.int .i64 v=.int .i64 (if (j:Int)<0\/(y.m.mv.length:Int)<=(j:Int) then 2 else match y.m.mv[(j:Int).toNat]? with | none=>2 | some x=>canS L.length k S (B.map Bx.l) p x)/\Ext h h'):=fun v hv h' E=>by
  rw[if_neg (by omega),Ys,gx,hv];exact⟨rfl,E⟩
 obtain⟨q,hq⟩:∃q:Nat,x.peer=(q:Int):=⟨x.peer.toNat,by omega⟩;have hqn:q<L.length:=by omega
 have hqt:x.peer.toNat=q:=by omega
 have b1':=two_lt hp hqn;have b2':=two_lt hqn hp;refine⟨_,hs.rd 0 rfl (i:=1) rfl,sB_intro (fun d=>?_) (fun d=>?_)⟩
 ·refine⟨sb,hs.rd 2 rfl (i:=1) rfl,_,hs.rd 1 rfl (i:=0) rfl,(q:Int),by rw[<-hq];exact hs.rd 0 rfl (i:=2) rfl,?_⟩;have e1:(s.n:Int)*(p:Int)=((L.length*p:Nat):Int):=by rw[hn];rfl
  have e2:((L.length*p:Nat):Int)+(q:Int)=((L.length*p+q:Nat):Int):=rfl;rw[e1,w64 (n:=((L.length*p:Nat):Int)) (by omega) (by omega),e2,w64 (n:=((L.length*p+q:Nat):Int)) (by omega) (by omega)];refine (hC.b.rw.ext hs.ext).nbI (Int.natCast_nonneg _) (Int.ofNat_lt.2 (by rw[hbn,hBl];exact b1')) fun b5 o5 u gu t5=>?_;rw[Ys] at gu;replace gu:B[L.length*p+q]?=some u:=gu;have hul:=(hC.i u (Yb gu)).ln;have hBg:(B.map Bx.l).getD (bxI L.length p x) []=u.l:=by
   unfold bxI;rw[if_pos d,hqt];exact getD_some (by rw[Yd,gu];rfl)
  refine⟨u.s,t5.hd,sBi (fun e=>key _ ?_ _ hs.ext) (fun e=>key _ ?_ _ hs.ext)⟩
  ·unfold canS;rw[hSg,hBg,if_neg (fun h=>h c5.symm),if_pos d,if_pos (by omega)]
  ·unfold canS;rw[hSg,hBg,if_neg (fun h=>h c5.symm),if_pos d,if_neg (by omega)]
 ·have hdn:¬x.send=true:=by rw[d];exact Bool.false_ne_true
  refine⟨sb,hs.rd 2 rfl (i:=1) rfl,(q:Int),by rw[<-hq];exact hs.rd 0 rfl (i:=2) rfl,_,hs.rd 1 rfl (i:=0) rfl,?_⟩;have e1:(s.n:Int)*(q:Int)=((L.length*q:Nat):Int):=by rw[hn];rfl
  have e2:((L.length*q:Nat):Int)+(p:Int)=((L.length*q+p:Nat):Int):=rfl;rw[e1,w64 (n:=((L.length*q:Nat):Int)) (by omega) (by omega),e2,w64 (n:=((L.length*q+p:Nat):Int)) (by omega) (by omega)];refine (hC.b.rw.ext hs.ext).nbI (Int.natCast_nonneg _) (Int.ofNat_lt.2 (by rw[hbn,hBl];exact b2')) fun b5 o5 u gu t5=>?_;rw[Ys] at gu;replace gu:B[L.length*q+p]?=some u:=gu;have hui:=hC.i u (Yb gu);have hul:=hui.ln;have hBg:(B.map Bx.l).getD (bxI L.length p x) []=u.l:=by
   unfold bxI;rw[if_neg hdn,hqt];exact getD_some (by rw[Yd,gu];rfl)
  have hcan:canS L.length k S (B.map Bx.l) p x=match u.l with | []=>23 | l::_=>if l≠x.label then 23 else 0:=by
   unfold canS;rw[hSg,hBg,if_neg (fun h=>h c5.symm),if_neg hdn]
  refine⟨u.s,t5.hd,sBe (fun e=>key _ ?_ _ hs.ext) (fun e=>?_)⟩
  ·rw[hcan,List.eq_nil_of_length_eq_zero (l:=u.l) (by omega)]
  ·refine (hui.rw.ext hs.ext).nbI (by omega) (by omega) fun b6 o6 w gw t6=>?_;replace gw:u.l[0]?=some w:=gw;cases hl:u.l with
   | nil=>rw[hl] at gw;cases gw
   | cons a r=>
    rw[hl] at gw;cases gw;rw[hl] at hcan;refine⟨_,t6.hd,_,hs.rd 0 rfl (i:=3) rfl,sBn (fun f=>key _ ?_ _ hs.ext) (fun f=>key _ ?_ _ hs.ext)⟩
    ·rw[hcan];show _=if w≠x.label then 23 else 0;rw[if_pos f]
    ·rw[hcan];show _=if w≠x.label then 23 else 0;rw[if_neg (fun h=>h f)]
end Go.VC
end
