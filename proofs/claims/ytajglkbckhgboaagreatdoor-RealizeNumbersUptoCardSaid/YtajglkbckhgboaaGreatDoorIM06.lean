/- SxRe0 SxRe SxRf SxRg SxHa SxIa SxHb SxHc SxHd SxIb SxIc SxId SxIe SxUa SxUb SxUc SxUd SxUe SxUf SxUg SxUh SxUi SxKm SxLa SxLb SxLc SxLd SxLe0 SxLs SxLe SxLf SxLg SxLh SxLj SxLk SxLl SxLm SxLn0 SxLn SxLo. -/
import Derived.Test.YtajglkbckhgboaaGreatDoorIM05
import Derived.Lib.AppendZerosOnto
set_option linter.all false
set_option maxRecDepth 100000
set_option maxHeartbeats 8000000

section
namespace Go.VC
structure EN (es:List Ed) (e:Int) (N n:Nat) (D:List Int):Prop where
 len:D.length=N
 src:kX D e
 r:∀v,kX D v->eV es true e v
 b:∀d∈D,-1<=d/\d+D.count (-1)<=(N:Int)-1
 c:∀x∈es,∀d,0<=x.t->D[x.t.toNat]?=some d->0<=d->d<n->kX D x.f
def Jz(es:List Ed)(n k:Nat)(D:List Int):Prop:=∀(j:Nat) (y:Ed),j<k->es[j]?=some y->0<=y.t->D[y.t.toNat]?=some (n:Int)->kX D y.f
theorem BU(N:Nat):(List.replicate N (-1:Int)).count (-1)=N:=by rw[List.count_replicate,if_pos (by simp)]
theorem EN.start{es:List Ed}{e:Int}{N:Nat}(h0:0<=e)(h1:e<N):EN es e N 0 ((List.replicate N (-1:Int)).set e.toNat 0):=by
 have hl:e<(List.replicate N (-1:Int)).length:=by rw[Yg];exact h1
 have hv:∀v,kX ((List.replicate N (-1:Int)).set e.toNat 0) v ↔ v=e:=fun v=>by
  rw[iy h0 hl (by omega)];refine⟨fun h=>h.elim id fun h=>?_,.inl⟩;obtain⟨_,d,hd,h2⟩:=h;have:=List.eq_of_mem_replicate (Yb hd);omega
 have hc:((List.replicate N (-1:Int)).set e.toNat 0).count (-1)+1=N:=by
  rw[List.count_set (by rw[Yg];omega),BU,List.getElem_replicate];simp;omega
 refine⟨by rw[mF,Yg],(hv e).2 rfl,fun v h=>?_,fun d hd=>?_,fun x _ d _ _ uN Sr=>by omega⟩
 .rw[(hv v).1 h];exact .refl
 .rcases List.mem_or_eq_of_mem_set hd with hd | rfl
  .rw[List.eq_of_mem_replicate hd];omega
  .omega
theorem EN.set{es:List Ed}{e:Int}{N n k:Nat}{D:List Int}(h:EN es e N n D)(hk:Jz es n k D){x:Ed}(hx:es[k]?=some x){d:Int}(Lv:0<=x.t)(ht:D[x.t.toNat]?=some (n:Int))(pD:0<=x.f)(hf:D[x.f.toNat]?=some d)(hd:d<0):
  EN es e N n (D.set x.f.toNat (n+1))/\Jz es n (k+1) (D.set x.f.toNat (n+1)):=by
 have ie:=(Ya.1 hf).1;have Eu:=(Ya.1 hf).2;have Sr:d=-1:=by have:=(h.b d (Yb hf)).1;omega
 subst Sr;have xp:∀v,kX (D.set x.f.toNat (n+1)) v ↔ v=x.f\/kX D v:=fun v=>iy pD (by omega) (by omega);have fq:0<D.count (-1):=List.count_pos_iff.2 (Yb hf);have IE:(D.set x.f.toNat ((n:Int)+1)).count (-1)+1=D.count (-1):=by
  rw[List.count_set ie,Eu];have:(((n:Int)+1)==(-1:Int))=false:=by simp;omega
  rw[this];simp;omega
 have hub:=(h.b n (Yb ht)).2;have bz:∀ {y:Int} {d:Int},0<=y->(D.set x.f.toNat ((n:Int)+1))[y.toNat]?=some d->d<=n->D[y.toNat]?=some d:=fun {y d} hy hg hle=>by
  by_cases e:y.toNat=x.f.toNat
  .rw[e,Yq ie] at hg;cases hg;omega
  .rwa [Yy (by omega)] at hg
 refine⟨⟨by rw[mF];exact h.len,(xp e).2 (.inr h.src),fun v hv=>?_,fun d hd=>?_,fun y hy d h0 hg uN Sr=>?_⟩,fun j y hj hy h0 hg=>?_⟩
 .rcases (xp v).1 hv with rfl | hv
  .exact (h.r x.t ⟨Lv,_,ht,by omega⟩).step ⟨x,Yb hx,rfl,rfl⟩
  .exact h.r v hv
 .rcases List.mem_or_eq_of_mem_set hd with hd | rfl
  .have:=h.b d hd;omega
  .omega
 .exact (xp y.f).2 (.inr (h.c y hy d h0 (bz h0 hg (by omega)) uN Sr))
 .by_cases e:j=k
  .subst e;rw[hx] at hy;cases hy;exact (xp x.f).2 (.inl rfl)
  .exact (xp y.f).2 (.inr (hk j y (by omega) hy h0 (bz h0 hg (by omega))))
theorem Jz.skip{es:List Ed}{n k:Nat}{D:List Int}(hk:Jz es n k D){x:Ed}(hx:es[k]?=some x)(h:0<=x.t->D[x.t.toNat]?=some (n:Int)->kX D x.f):Jz es n (k+1) D:=fun j y hj hy h0 hg=>by
 by_cases e:j=k
 .subst e;rw[hx] at hy;cases hy;exact h h0 hg
 .exact hk j y (by omega) hy h0 hg
theorem EN.next{es:List Ed}{e:Int}{N n k:Nat}{D:List Int}(h:EN es e N n D)(hk:Jz es n k D)(hl:es.length<=k):EN es e N (n+1) D:=
 ⟨h.len,h.src,h.r,h.b,fun x hx d h0 hg uN Sr=>by
  obtain⟨j,hj⟩:=Yf.1 hx;by_cases hd:d=n
  .subst hd;exact hk j x (by have:=(Ya.1 hj).1;omega) hj h0 hg
  .exact h.c x hx d h0 hg uN (by omega)⟩
theorem EN.end_{es:List Ed}{e:Int}{N:Nat}{D:List Int}(h:EN es e N N D)(v:Int):kX D v ↔ eV es true e v:=by
 refine⟨h.r v,fun hr=>?_⟩
 induction hr with
 | refl=>exact h.src
 | step _ hbc ih=>
  obtain⟨x,hx,h1,h2⟩:=hbc;obtain⟨h0,d,hd,uN⟩:=ih;have hb:=(h.b d (Yb hd)).2;have SQ:x.t=_:=h1;have V7:x.f=_:=h2;rw[<-V7];rw[<-SQ] at hd h0;exact h.c x hx d h0 hd uN (by omega)
def VB(R:List Bool)(v:Int):Prop:=0<=v/\R[v.toNat]?=some true
def ClB(es:List Ed)(k:Nat)(R:List Bool):Prop:=∀(j:Nat) (y:Ed),j<k->es[j]?=some y->VB R y.f->VB R y.t
structure RE (es:List Ed) (s:Int) (N:Nat) (R:List Bool):Prop where
 len:R.length=N
 src:VB R s
 r:∀v,VB R v->eV es false s v
def RN(es:List Ed)(n k:Nat)(R:List Bool):Prop:=ClB es es.length R\/(n+1<=R.count true/\(ClB es k R\/n+2<=R.count true))
theorem CJ{R:List Bool}{b v:Int}(EA:0<=b)(hb:b.toNat<R.length):VB (R.set b.toNat true) v ↔ v=b\/VB R v:=by
 unfold VB;constructor
 .rintro⟨h0,h1⟩;by_cases e:v=b
  .exact .inl e
  .rw[Yy (by omega)] at h1;exact .inr ⟨h0,h1⟩
 .rintro (rfl | ⟨h0,h1⟩)
  .exact⟨EA,by rw[Yq hb]⟩
  .by_cases e:v=b
   .subst e;exact⟨EA,by rw[Yq hb]⟩
   .exact⟨h0,by rw[Yy (by omega)];exact h1⟩
theorem RE.start{es:List Ed}{s:Int}{N:Nat}(h0:0<=s)(h1:s<N):RE es s N ((List.replicate N false).set s.toNat true)/\RN es 0 0 ((List.replicate N false).set s.toNat true):=by
 have hv:∀v,VB ((List.replicate N false).set s.toNat true) v ↔ v=s:=fun v=>by
  rw[CJ h0 (by rw[Yg];omega)];refine⟨fun h=>h.elim id fun h=>?_,.inl⟩;have:=List.eq_of_mem_replicate (Yb h.2);cases this
 refine⟨⟨by rw[mF,Yg],(hv s).2 rfl,fun v h=>by rw[(hv v).1 h];exact .refl⟩,.inr ⟨?_,.inl fun j y hj=>by omega⟩⟩;exact List.count_pos_iff.2 (Yb (i:=s.toNat) (by rw[Yq (by rw[Yg];omega)]))
theorem RE.set{es:List Ed}{s:Int}{N n k:Nat}{R:List Bool}(h:RE es s N R)(hn:RN es n k R){x:Ed}(hx:es[k]?=some x)(Lv:0<=x.t)(ht:R[x.t.toNat]?=some false)(pD:0<=x.f)(hf:R[x.f.toNat]?=some true):
  RE es s N (R.set x.t.toNat true)/\RN es n (k+1) (R.set x.t.toNat true):=by
 have zd:=(Ya.1 ht).1;have hte:=(Ya.1 ht).2;have xp:∀v,VB (R.set x.t.toNat true) v ↔ v=x.t\/VB R v:=fun v=>CJ Lv zd;have IE:(R.set x.t.toNat true).count true=R.count true+1:=by
  rw[List.count_set zd,hte];simp
 refine⟨⟨by rw[mF];exact h.len,(xp s).2 (.inr h.src),fun v hv=>?_⟩,?_⟩
 .rcases (xp v).1 hv with rfl | hv
  .exact (h.r x.f ⟨pD,hf⟩).step ⟨x,Yb hx,rfl,rfl⟩
  .exact h.r v hv
 .rcases hn with hn | ⟨h1,_⟩
  .have:=hn k x (Ya.1 hx).1 hx ⟨pD,hf⟩;rw[this.2] at ht;cases ht
  .exact .inr ⟨by omega,.inr (by omega)⟩
theorem RN.skip{es:List Ed}{n k:Nat}{R:List Bool}(hn:RN es n k R){x:Ed}(hx:es[k]?=some x)(h:VB R x.f->VB R x.t):RN es n (k+1) R:=by
 rcases hn with hn | ⟨h1,h2⟩
 .exact .inl hn
 .refine .inr ⟨h1,h2.imp_left fun hc j y hj hy hv=>?_⟩;by_cases e:j=k
  .subst e;rw[hx] at hy;cases hy;exact h hv
  .exact hc j y (by omega) hy hv
theorem RN.next{es:List Ed}{n k:Nat}{R:List Bool}(hn:RN es n k R)(hl:es.length<=k):RN es (n+1) 0 R:=by
 rcases hn with hn | ⟨h1,h2 | h2⟩
 .exact .inl hn
 .exact .inl fun j y hj hy=>h2 j y (by omega) hy
 .exact .inr ⟨by omega,.inl fun j y hj=>by omega⟩
theorem RE.end_{es:List Ed}{s:Int}{N:Nat}{R:List Bool}(h:RE es s N R)(hn:RN es N 0 R)(v:Int):VB R v ↔ eV es false s v:=by
 refine⟨h.r v,fun hr=>?_⟩;have hc:ClB es es.length R:=by
  rcases hn with hn | ⟨h1,_⟩
  .exact hn
  .have:=h.len;have:R.count true<=R.length:=List.count_le_length;omega
 induction hr with
 | refl=>exact h.src
 | step _ hbc ih=>
  obtain⟨x,hx,h1,h2⟩:=hbc;obtain⟨j,hj⟩:=Yf.1 hx;have SQ:x.f=_:=h1;have V7:x.t=_:=h2;rw[<-V7];exact hc j x (Ya.1 hj).1 hj (by rw[SQ];exact ih)
end Go.VC
end

section
namespace Go.VC
open Go.Proofs Go.LexS
theorem ints_set{L:List Int}{i:Nat}(h:i<L.length)(y:Int):ay (L.map (Value.int .i64)) i [.int .i64 y]=(L.set i y).map (Value.int .i64):=by
 rw[nq (by rw[Yc];exact h),List.map_set]
theorem lQ{L:List Bool}{i:Nat}(h:i<L.length)(y:Bool):ay (L.map Value.bool) i [.bool y]=(L.set i y).map Value.bool:=by
 rw[nq (by rw[Yc];exact h),List.map_set]
theorem qd:∀L:List Int,L.map (Value.int .i64)=(L.map a6).flatten
 | []=>rfl
 | a::L=>by rw[kf,kf,ss,qd L];rfl
theorem Lc(n:Nat):ah Pz 3 n=(List.replicate n (0:Int)).map (Value.int .i64):=by rw[DV,List.map_replicate]
theorem zG{L:List Int}{i:Nat}(h:i<L.length):∃y,(L.map (Value.int .i64))[i]?=some (.int .i64 y)/\L[i]?=some y:=⟨L[i],by rw[Yd,Yi h];rfl,Yi h⟩
theorem ov{L:List Bool}{i:Nat}(h:i<L.length):∃y,(L.map Value.bool)[i]?=some (.bool y)/\L[i]?=some y:=⟨L[i],by rw[Yd,Yi h];rfl,Yi h⟩
theorem I8(g:Gl)(h:Heap)(hg:GI h g)(hN:N9 g):Fn Pz 104 #[g.v] h fun v h'=>Ext h h'/\∃(s:Sl) (L:List Int),v=.slice s.a s.n s.c/\Rw h' 1 s (L.map a6)/\L.length=g.n.toNat/\∀v,kX L v ↔ eV g.es true g.e v:=by
 apply QP (bs g.nm) g.hr g.hd g.n g.s g.e g.he g.ht;unfold Va;have qk:=hg.e.ln;have Kn:=hg.e.sm;obtain⟨N,Mi⟩:∃N:Nat,g.n=N:=⟨g.n.toNat,by have:=hN.n;omega⟩;have LH:=hN.n;have hE:=hN.e;have VH:g.n.toNat=N:=by omega
 refine (St.refl h).aq fun h9 hs=>?_;refine⟨_,hs.rd 0 rfl rfl,⟨by omega,by omega,by omega⟩,?_⟩;rw[Lc];refine hs.aq fun xG hs=>?_;refine⟨fun x h' m=>∃(i:Nat) (L:List Int),x=i/\i<=N/\m=N-i/\(L.length=N/\∀(j:Nat),j<i->L[j]?=some (-1))/\St h h' [.af h9.size (L.map (Value.int .i64)) 3,.af h.size g.cs 27],⟨_,0,_,rfl,by omega,rfl,⟨by rw[Yg];exact VH,fun j hj=>by omega⟩,hs⟩,?_⟩;rintro-_ fR m ⟨i,L,rfl,hi,rfl,⟨hL,hLv⟩,hs⟩;refine⟨_,hs.rd 1 rfl rfl,aa (fun c=>?_) (fun c0=>?_)⟩
 .replace c:=bM c;refine⟨⟨by omega,by omega⟩,?_⟩;rw[show 0+Int.toNat (i:Int)*1=i by simp];refine hs.put 0 rfl (o:=i) (vs:=[.int .i64 (-1)]) rfl (by rw[Yc];show i+1<=_;omega) fun xB hs=>?_;rw[ints_set (by omega)] at hs;refine⟨_,by omega,i+1,L.set i (-1),by rw[aZ (by omega) (by omega)];omega,by omega,rfl,⟨by rw[mF];exact hL,fun j hj=>?_⟩,hs⟩;by_cases e:j=i
  .subst e;rw[Yq (by omega)]
  .rw[Yy (by omega)];exact hLv j (by omega)
 replace c0:=eB c0;have hLr:L=List.replicate N (-1):=wm fun j=>by
  by_cases hj:j<N
  .rw[hLv j (by omega),List.getElem?_replicate,if_pos hj]
  .rw[Yl (by omega),List.getElem?_replicate,if_neg hj]
 subst hLr;refine⟨_,hs.rd 1 rfl rfl,⟨by omega,by omega⟩,?_⟩;obtain⟨e,he⟩:∃e:Nat,g.e=e:=⟨g.e.toNat,by omega⟩;rw[he,show 0+Int.toNat (e:Int)*1=e by simp];refine hs.put 0 rfl (o:=e) (vs:=[.int .i64 0]) rfl (by rw[Yc];show e+1<=_;omega) fun mn hs=>?_;rw[ints_set (by omega)] at hs;refine⟨fun x h' m=>∃(i:Nat) (L:List Int),x=i/\i<=N/\m=N-i/\EN g.es g.e N i L/\St h h' [.af h9.size (L.map (Value.int .i64)) 3,.af h.size g.cs 27],⟨_,0,_,rfl,by omega,rfl,?_,hs⟩,?_⟩
 .have:=EN.start (es:=g.es) (e:=g.e) (N:=N) (by omega) (by omega);rw[he] at this ⊢;exact this
 rintro-_ G4 m ⟨n,pK,rfl,hn,rfl,en2,hs⟩;have wj:=en2.len;refine⟨_,hs.rd 1 rfl rfl,aa (fun c=>?_) (fun cE=>?_)⟩
 .replace c:=bM c;refine⟨fun x h' m=>∃(i:Nat) (L:List Int),x=i/\i<=g.he.n/\m=g.he.n-i/\(EN g.es g.e N n L/\Jz g.es n i L)/\St h h' [.af h9.size (L.map (Value.int .i64)) 3,.af h.size g.cs 27],⟨_,0,pK,rfl,by omega,rfl,⟨en2,fun j y hj=>by omega⟩,hs⟩,?_⟩;rintro-_ OZ m ⟨k,L3,rfl,hk,rfl,⟨MQ,ek⟩,hs⟩;have hL3:=MQ.len;refine⟨_,hs.rd 1 rfl rfl,aa (fun c2=>?_) (fun c2=>⟨_,by omega,n+1,L3,by rw[aZ (by omega) (by omega)];omega,by omega,rfl,MQ.next ek (by have:=bd c2;omega),hs⟩)⟩;replace c2:=ba c2;refine⟨_,hs.rd 1 rfl rfl,?_⟩;refine (hg.e.rw.ext hs.ext).aF (by omega) (by omega) fun b o x gx t=>?_;replace gx:g.es[k]?=some x:=gx;have hx:=hN.es x (Yb gx);obtain⟨xt,Ea⟩:∃a:Nat,x.t=a:=⟨x.t.toNat,by omega⟩;obtain⟨xf,sQ⟩:∃a:Nat,x.f=a:=⟨x.f.toNat,by omega⟩;refine⟨_,_,_,_,_,_,t,?_⟩;refine hs.ai (vs:=x.cs) rfl rfl fun xz hs=>?_;obtain⟨y1,Rt,Bo⟩:=zG (L:=L3) (i:=xt) (by omega);obtain⟨y2,X7,J4⟩:=zG (L:=L3) (i:=xf) (by omega);have J9:x.t.toNat=xt:=by omega
  have OC:x.f.toNat=xf:=by omega
  have q8:∀ {h':Heap} {L4:List Int},(EN g.es g.e N n L4/\Jz g.es n (k+1) L4)->St h h' [.af h9.size (L4.map (Value.int .i64)) 3,.af h.size g.cs 27]->∃Rg,Rg<g.he.n-k/\∃(i:Nat) (L:List Int),IntKind.wrap .i64 ((k:Int)+1)=i/\i<=g.he.n/\Rg=g.he.n-i/\(EN g.es g.e N n L/\Jz g.es n i L)/\St h h' [.af h9.size (L.map (Value.int .i64)) 3,.af h.size g.cs 27]:=fun h4 hs=>
   ⟨_,by omega,k+1,_,by rw[aZ (by omega) (by omega)];omega,by omega,rfl,h4,hs⟩
  refine⟨x.t,hs.rd 0 rfl rfl,⟨by omega,by omega⟩,?_⟩;rw[Ea,show 0+Int.toNat (xt:Int)*1=xt by simp];refine⟨y1,hs.rd 1 rfl Rt,eh (fun e1=>?_) (fun e1=>q8 ⟨MQ,ek.skip gx fun _ VQ=>by rw[J9,Bo] at VQ;cases VQ;exact absurd rfl e1⟩ (hs.drop 1))⟩;refine⟨x.f,hs.rd 0 rfl rfl,⟨by omega,by omega⟩,?_⟩;rw[sQ,show 0+Int.toNat (xf:Int)*1=xf by simp];refine⟨y2,hs.rd 1 rfl X7,aQ (fun e2=>?_) (fun e2=>q8 ⟨MQ,ek.skip gx fun _ _=>⟨by omega,y2,by rw[OC];exact J4,by omega⟩⟩ (hs.drop 1))⟩;refine⟨x.f,hs.rd 0 rfl rfl,⟨by omega,by omega⟩,?_⟩;rw[sQ,show 0+Int.toNat (xf:Int)*1=xf by simp];refine hs.put 1 rfl (o:=xf) (vs:=[.int .i64 (IntKind.wrap .i64 ((n:Int)+1))]) rfl (by rw[Yc];show xf+1<=_;omega) fun n4 hs=>?_;rw[ints_set (by omega)] at hs;rw[show IntKind.wrap .i64 ((n:Int)+1)=(n:Int)+1 from aZ (by omega) (by omega)] at hs;refine q8 ?_ (hs.drop 1);have:=MQ.set ek gx (by omega) (by rw[J9,Bo,e1]) (by omega) (by rw[OC];exact J4) e2;rw[OC] at this;exact this
 .have ie:=qd pK;rw[VH];have cp:=hs.fx N 1 (pK.map a6) ie (cy _) (by rw[Yc];exact wj) (by show N<=9223372036854775807;omega);have YX:n=N:=by have:=eB cE;omega
  have MQ:EN g.es g.e N N pK:=by rw[YX] at en2;exact en2
  exact⟨hs.ext,⟨some ⟨h9.size,0,none⟩,N,N⟩,pK,rfl,cp.rows 0 rfl (by omega),wj,fun v=>by rw[<-he];exact MQ.end_ v⟩
theorem La(n:Nat):ah Pz 4 n=(List.replicate n false).map Value.bool:=JZ n
structure Vl (g:Gl):Prop where
 f:∀v:Int,0<=v->v<g.n->eV g.es false g.s v
 b:∀v:Int,0<=v->v<g.n->eV g.es true g.e v
 e:∀x∈g.es,x.f≠g.e
theorem vm(g:Gl)(h:Heap)(hg:GI h g)(hN:N9 g):Fn Pz 46 #[g.v] h (RP (Vl g) h):=by
 apply Xc (bs g.nm) g.hr g.hd g.n g.s g.e g.he g.ht;unfold W46;have qk:=hg.e.ln;have Kn:=hg.e.sm;obtain⟨N,Mi⟩:∃N:Nat,g.n=N:=⟨g.n.toNat,by have:=hN.n;omega⟩;have LH:=hN.n;have hS:=hN.s;have VH:g.n.toNat=N:=by omega
 refine (St.refl h).aq fun h9 hs=>?_;refine⟨_,hs.rd 0 rfl rfl,⟨by omega,by omega,by omega⟩,?_⟩;rw[La];refine hs.aq fun xG hs=>?_;refine⟨_,hs.rd 1 rfl rfl,⟨by omega,by omega⟩,?_⟩;obtain⟨s0,Kb⟩:∃e:Nat,g.s=e:=⟨g.s.toNat,by omega⟩;rw[Kb,show 0+Int.toNat (s0:Int)*1=s0 by simp];refine hs.put 0 rfl (o:=s0) (vs:=[.bool true]) rfl (by rw[Yc,Yg];show s0+1<=_;omega) fun EL hs=>?_;rw[lQ (by rw[Yg];omega)] at hs;refine⟨fun x h' m=>∃(i:Nat) (L:List Bool),x=i/\i<=N/\m=N-i/\(RE g.es g.s N L/\RN g.es i 0 L)/\St h h' [.af h9.size (L.map Value.bool) 4,.af h.size g.cs 27],⟨_,0,_,rfl,by omega,rfl,?_,hs⟩,?_⟩
 .have:=RE.start (es:=g.es) (s:=g.s) (N:=N) (by omega) (by omega);rw[VH];rw[Kb] at this ⊢;exact this
 rintro-_ xB m ⟨n,L,rfl,hn,rfl,⟨re1,rn1⟩,hs⟩;have hL:=re1.len;refine⟨_,hs.rd 1 rfl rfl,aa (fun c=>?_) (fun cE=>?_)⟩
 .replace c:=bM c;refine⟨fun x h' m=>∃(i:Nat) (L:List Bool),x=i/\i<=g.he.n/\m=g.he.n-i/\(RE g.es g.s N L/\RN g.es n i L)/\St h h' [.af h9.size (L.map Value.bool) 4,.af h.size g.cs 27],⟨_,0,L,rfl,by omega,rfl,⟨re1,rn1⟩,hs⟩,?_⟩;rintro-_ EI m ⟨k,L3,rfl,hk,rfl,⟨re3,rn3⟩,hs⟩;have hL3:=re3.len;refine⟨_,hs.rd 1 rfl rfl,aa (fun c2=>?_) (fun c2=>⟨_,by omega,n+1,L3,by rw[aZ (by omega) (by omega)];omega,by omega,rfl,⟨re3,rn3.next (by have:=bd c2;omega)⟩,hs⟩)⟩;replace c2:=ba c2;have q8:∀ {h':Heap} {L4:List Bool},(RE g.es g.s N L4/\RN g.es n (k+1) L4)->St h h' [.af h9.size (L4.map Value.bool) 4,.af h.size g.cs 27]->∃Rg,Rg<g.he.n-k/\∃(i:Nat) (L:List Bool),IntKind.wrap .i64 ((k:Int)+1)=i/\i<=g.he.n/\Rg=g.he.n-i/\(RE g.es g.s N L/\RN g.es n i L)/\St h h' [.af h9.size (L.map Value.bool) 4,.af h.size g.cs 27]:=fun h4 hs=>
   ⟨_,by omega,k+1,_,by rw[aZ (by omega) (by omega)];omega,by omega,rfl,h4,hs⟩
  refine⟨_,hs.rd 1 rfl rfl,?_⟩;have kF:=hg.e.rw.ext hs.ext;refine kF.aF (by omega) (by omega) fun b o x gx t=>?_;replace gx:g.es[k]?=some x:=gx;have hx:=hN.es x (Yb gx);obtain⟨xt,Ea⟩:∃a:Nat,x.t=a:=⟨x.t.toNat,by omega⟩;obtain⟨xf,sQ⟩:∃a:Nat,x.f=a:=⟨x.f.toNat,by omega⟩;obtain⟨y1,Rt,Bo⟩:=ov (L:=L3) (i:=xt) (by omega);obtain⟨y2,X7,J4⟩:=ov (L:=L3) (i:=xf) (by omega);have J9:x.t.toNat=xt:=by omega
  have OC:x.f.toNat=xf:=by omega
  have same:∀ {b:Bool},L3[xt]?=some b->L3.set xt b=L3:=fun {b} hb=>by
   obtain⟨hl,he⟩:=Ya.1 hb;rw[<-he,List.set_getElem_self]
  refine⟨x.t,t.nth 4 rfl,?_⟩;refine⟨_,hs.rd 1 rfl rfl,?_⟩;refine kF.aF (by omega) (by omega) fun b o x' sV t'=>?_;replace sV:g.es[k]?=some x':=sV;rw[gx] at sV;cases sV;refine⟨x.t,t'.nth 4 rfl,⟨by omega,by omega⟩,?_⟩;rw[Ea,show 0+Int.toNat (xt:Int)*1=xt by simp];refine⟨y1,hs.rd 0 rfl Rt,aa (fun e1=>?_) (fun e1=>?_)⟩
  .refine⟨⟨by omega,by omega⟩,?_⟩;refine hs.put 0 rfl (o:=xt) (vs:=[.bool true]) rfl (by rw[Yc];show xt+1<=_;omega) fun bx hs=>?_;rw[lQ (by omega),same (by rw[Bo,e1])] at hs;exact q8 ⟨re3,rn3.skip gx fun _=>⟨by omega,by rw[J9,Bo,e1]⟩⟩ hs
  .refine⟨_,hs.rd 1 rfl rfl,?_⟩;refine kF.aF (by omega) (by omega) fun b o x' sV t'=>?_;replace sV:g.es[k]?=some x':=sV;rw[gx] at sV;cases sV;refine⟨x.f,t'.nth 0 rfl,⟨by omega,by omega⟩,?_⟩;rw[sQ,show 0+Int.toNat (xf:Int)*1=xf by simp];refine⟨y2,hs.rd 0 rfl X7,⟨by omega,by omega⟩,?_⟩;refine hs.put 0 rfl (o:=xt) (vs:=[.bool y2]) rfl (by rw[Yc];show xt+1<=_;omega) fun xA hs=>?_;rw[lQ (by omega)] at hs;refine q8 ?_ hs;cases y2 with
   | true=>
    have:=re3.set rn3 gx (by omega) (by rw[J9,Bo,e1]) (by omega) (by rw[OC];exact J4);rw[J9] at this;exact this
   | false=>
    rw[same (by rw[Bo,e1])];exact⟨re3,rn3.skip gx fun hv=>by have:=hv.2;rw[OC,J4] at this;cases this⟩
 .refine⟨_,_,_,_,_,_,_,_,hs.at 1 rfl (o:=0) (n:=8) rfl,?_⟩;refine (I8 g xB (hg.ext hs.ext) hN).mono ?_;rintro _ OX ⟨E,l,pK,rfl,hl,gM,hvis⟩;have YX:n=N:=by have:=eB cE;omega
  have rn2:RN g.es N 0 L:=by rw[YX] at rn1;exact rn1
  have Eh:=re1.end_ rn2;have hs:=hs.step E;have R5:=hl.ln;refine⟨_,rfl,?_⟩;refine⟨fun x h' m=>∃i:Nat,x=i/\i<=N/\m=N-i/\h'=OX/\∀v:Int,0<=v->v<i->eV g.es false g.s v/\eV g.es true g.e v,⟨_,0,rfl,by omega,rfl,rfl,fun v h1 h2=>by omega⟩,?_⟩;rintro-_ V6 m ⟨i,rfl,hi,rfl,rfl,hq⟩;refine⟨_,hs.rd 1 rfl rfl,aa (fun c=>?_) (fun c=>?_)⟩
  .replace c:=bM c;obtain⟨y1,Rt,Bo⟩:=ov (L:=L) (i:=i) (by omega);refine⟨⟨by omega,by omega⟩,?_⟩;rw[show 0+Int.toNat (i:Int)*1=i by simp];refine⟨y1,hs.rd 0 rfl Rt,aa (fun e1=>RP.f (fun hG=>?_) hs.ext) (fun e1=>?_)⟩
   .have:=((Eh i).2 (hG.f i (by omega) (by omega))).2;rw[show ((i:Int)).toNat=i from rfl,Bo] at this;cases this;cases e1
   refine hl.aF (by omega) (by omega) fun b o y gy t=>?_;replace gy:pK[i]?=some y:=gy;refine⟨_,t.nth 0 rfl,aQ (fun e2=>RP.f (fun hG=>?_) hs.ext) (fun e2=>⟨_,by omega,i+1,by rw[aZ (by omega) (by omega)];omega,by omega,rfl,rfl,fun v h1 h2=>?_⟩)⟩
   .obtain⟨_,d,hd,uN⟩:=(hvis i).2 (hG.b i (by omega) (by omega));rw[show ((i:Int)).toNat=i from rfl,gy] at hd;cases hd;omega
   .by_cases e:v=(i:Int)
    .subst e;exact⟨(Eh i).1 ⟨by omega,by rw[show ((i:Int)).toNat=i from rfl,Bo,bT e1]⟩,(hvis i).1 ⟨by omega,y,gy,by omega⟩⟩
    .exact hq v h1 (by omega)
  .refine⟨_,_,_,_,_,_,_,_,hs.at 1 rfl (o:=0) (n:=8) rfl,_,hs.rd 1 rfl rfl,?_⟩;refine (Fe g g.e _ (hg.ext hs.ext)).mono ?_;rintro _ h78 ⟨⟨q,rfl,YO⟩,E⟩;replace c:=eB c;refine⟨_,rfl,RP.e ?_ (hs.step E).ext⟩;have hb:∀b:Bool,(b=true ↔ q.n=0)->(b=true ↔ Vl g):=fun b hb=>hb.trans (YO.trans ⟨fun he=>⟨fun v h1 h2=>(hq v h1 (by omega)).1,fun v h1 h2=>(hq v h1 (by omega)).2,he⟩,fun hG=>hG.e⟩);refine hb _ ?_;simp
theorem HU(g:Gl)(h:Heap)(hg:GI h g)(hM:Wq g.ds):Fn Pz 43 #[g.v] h (RP (sE g/\jy g.ds) h):=by
 apply Xf (bs g.nm) g.hr g.hd g.n g.s g.e g.he g.ht;unfold W43;have uG:=hg.r.ln;have hrm:=hg.r.sm;refine (St.refl h).aq fun h9 hs=>?_;refine aM (n:=g.hr.n) hs (fun i=>∀(j:Nat) (s:Nm),j<i->g.rs[j]?=some s->isWord s=true/\s∉g.rs.take j) (fun j s hj=>by omega) ?_;rintro-i zu hi ⟨hs,hq⟩;refine⟨_,hs.rd 0 rfl rfl,aa (fun c=>?_) (fun c=>?_)⟩
 .replace c:=ba c;refine⟨_,hs.rd 0 rfl rfl,?_⟩;refine (hg.r.rw.ext hs.ext).aF (by omega) (by omega) fun b o x gx t=>?_;replace gx:g.rs[i]?=some x:=gx;refine⟨_,t.nth 0 rfl,?_⟩;refine (iL (bs x) zu).mono ?_;rintro _ fK ⟨rfl,E⟩;have hs:=hs.step E;refine⟨_,rfl,aa (fun c1=>RP.f (fun hG=>?_) hs.ext) (fun c1=>?_)⟩
  .have:=(hG.1.r i x gx).1;rw[cH,this] at c1;cases c1
  refine⟨_,hs.rd 0 rfl rfl,_,hs.rd 0 rfl rfl,?_⟩;refine (hg.r.rw.ext hs.ext).aF (by omega) (by omega) fun b o x2 V8 t=>?_;replace V8:g.rs[i]?=some x2:=V8;rw[gx] at V8;cases V8;refine⟨_,t.nth 0 rfl,?_⟩;refine (D7 g.rs g.hr (bs x) fK (hg.r.rw.ext hs.ext) hrm).mono ?_;rintro _ Ky ⟨⟨k,rfl,hk⟩,rfl⟩;replace hk:=hk i (by omega);rw[cH] at hk;have J6:x∈g.rs:=Yb gx;refine⟨_,rfl,fun _ _ _ _ hv=>hv,aQ (fun c2=>RP.f (fun hG=>?_) hs.ext) (fun c2=>Up.next c (by omega) ⟨hs,fun j s hj R9=>?_⟩)⟩
  .rcases hk.1 c2 with h1 | h1
   .exact (hG.1.r i x gx).2 h1
   .exact h1 J6
  .by_cases e:j=i
   .subst e;rw[gx] at R9;cases R9;refine⟨by have:=bT c1;rw[cH] at this;exact this,fun hm=>c2 (hk.2 (.inl hm))⟩
   .exact hq j s (by omega) R9
 .replace c:=bd c;refine⟨_,hs.rd 0 rfl rfl,?_⟩;refine (iL (bs g.nm) zu).mono ?_;rintro _ bx ⟨rfl,E⟩;have hs:=hs.step E;refine⟨_,rfl,aa (fun c1=>⟨_,hs.rd 0 rfl rfl,aQ (fun c2=>⟨_,hs.rd 0 rfl rfl,aQ (fun c3=>⟨_,hs.rd 0 rfl rfl,?_⟩) (fun c3=>RP.f (fun hG=>c3 (by have:=hG.1.n6;omega)) hs.ext)⟩) (fun c2=>RP.f (fun hG=>c2 (by have:=hG.1.n1;omega)) hs.ext)⟩) (fun c1=>RP.f (fun hG=>by rw[cH,hG.1.w] at c1;cases c1) hs.ext)⟩;refine (tC g.ds g.hd bx (hg.d.ext hs.ext) hM).mono ?_;rintro _ Mr ⟨⟨b2,rfl,mj⟩,E⟩;refine⟨_,rfl,RP.e (mj.trans ⟨fun hd=>⟨⟨by rw[cH] at c1;exact c1,by omega,by omega,fun j s hj=>hq j s (by have:=(Ya.1 hj).1;omega) hj⟩,hd⟩,fun hG=>hG.2⟩) (hs.step E).ext⟩
theorem wE(g:Gl)(h:Heap)(hg:GI h g)(hM:Wq g.ds):Fn Pz 17 #[g.v] h (RP (ae g) h):=by
 apply Xo (bs g.nm) g.hr g.hd g.n g.s g.e g.he g.ht;unfold W17;refine (St.refl h).aq fun h9 hs=>?_;refine⟨_,_,_,_,_,_,_,_,hs.at 0 rfl (o:=0) (n:=8) rfl,?_⟩;refine (HU g h9 (hg.ext hs.ext) hM).mono ?_;rintro _ aA ⟨⟨b1,rfl,rL⟩,E⟩;have hs:=hs.step E;refine⟨_,rfl,aa (fun c1=>?_) (fun c1=>RP.f (fun hG=>fg rL c1 ⟨hG.GW,hG.dcl⟩) hs.ext)⟩;refine⟨_,_,_,_,_,_,_,_,hs.at 0 rfl (o:=0) (n:=8) rfl,?_⟩;refine (Be g aA (hg.ext hs.ext)).mono ?_;rintro _ IM ⟨⟨b2,rfl,mj⟩,E⟩;have hs:=hs.step E;refine⟨_,rfl,aa (fun c2=>?_) (fun c2=>RP.f (fun hG=>fg mj c2 hG.num) hs.ext)⟩;have hN:=mj.1 c2;refine⟨_,_,_,_,_,_,_,_,hs.at 0 rfl (o:=0) (n:=8) rfl,?_⟩;refine (Jt g IM (hg.ext hs.ext)).mono ?_;rintro _ xA ⟨⟨b3,rfl,Md⟩,E⟩;have hs:=hs.step E;refine⟨_,rfl,aa (fun c3=>?_) (fun c3=>RP.f (fun hG=>fg Md c3 ⟨hG.ord.s,hG.ord.p⟩) hs.ext)⟩;refine⟨_,_,_,_,_,_,_,_,hs.at 0 rfl (o:=0) (n:=8) rfl,?_⟩;refine (vm g xA (hg.ext hs.ext) hN.R).mono ?_;rintro _ Mo ⟨⟨b4,rfl,OP⟩,E⟩;have hs:=hs.step E;refine⟨_,rfl,aa (fun c4=>?_) (fun c4=>RP.f (fun hG=>fg OP c4 ⟨hG.fwd,hG.bwd,hG.ord.e⟩) hs.ext)⟩;refine⟨_,_,_,_,_,_,_,_,hs.at 0 rfl (o:=0) (n:=8) rfl,?_⟩;refine (Hm g Mo (hg.ext hs.ext) hN).mono ?_;rintro _ V5 ⟨⟨b5,rfl,hb5⟩,E⟩;have f1:=rL.1 c1;have f3:=Md.1 c3;have f4:=OP.1 c4;exact⟨_,rfl,RP.e (hb5.trans ⟨fun ht=>⟨f1.1,hN,f1.2,⟨f4.e,f3.s,f3.p⟩,ht,f4.f,f4.b⟩,fun hG=>hG.Hn⟩) (hs.step E).ext⟩
structure Hv where
 role:Int
 send:Bool
 peer:Int
 label:Int
 vs:Sl
def Hv.cs(x:Hv):List Value:=[.int .i64 x.role,.bool x.send,.int .i64 x.peer,.int .i64 x.label,.slice x.vs.a x.vs.n x.vs.c]
end Go.VC
end

section
namespace Go.VC
open Go.LexS

def Hv.ev(x:Hv):Ev:=⟨x.send,x.peer,x.label⟩
end Go.VC
end

section
namespace Go.VC
open Go.Proofs Go.LexS
def dD(es:List Ed)(s:Int)(i:Nat):Bool:=match es[i]? with | some x=>decide (x.f=s) | none=>false
def ao(es:List Ed)(s:Int):List Nat:=(List.range es.length).filter (dD es s)
theorem az{es:List Ed}{s:Int}{k:Nat}:k∈ao es s ↔ ∃x,es[k]?=some x/\x.f=s:=by
 unfold ao;rw[List.mem_filter,List.mem_range];constructor
 .rintro⟨h1,h2⟩;unfold dD at h2;rw[Yi h1] at h2;exact⟨_,Yi h1,bM h2⟩
 .rintro⟨x,hx,hf⟩;refine⟨(Ya.1 hx).1,?_⟩;unfold dD;rw[hx];exact decide_eq_true hf
theorem cX(es:List Ed)(s:Int):(ao es s).length<=es.length:=mQ (List.length_filter_le _ _) (by rw[mG];exact aY _)
theorem qG:cn Pz 30 65 3 24=true:=by kernel_rfl
end Go.VC
end

section
namespace Go.VC
def Oj(c:Nat):Nat->Nat
 | 0=>0
 | k+1=>c+256*Oj c k
def s1(k x:Nat):Nat:=((x/2)&&&Oj 0x55 k)+(x&&&Oj 0x55 k)
def s2(k x:Nat):Nat:=((x/4)&&&Oj 0x33 k)+(x&&&Oj 0x33 k)
def s3(k x:Nat):Nat:=(x/16+x)&&&Oj 0x0f k
def b1(b:Nat):Nat:=((b/2)&&&0x55)+(b&&&0x55)
def b2(b:Nat):Nat:=((b/4)&&&0x33)+(b&&&0x33)
def b3(b:Nat):Nat:=(b/16+b)&&&0x0f
set_option maxRecDepth 100000 in
theorem f1:∀b,b<256->∀t,t<2->(b/2+128*t)&&&0x55=(b/2)&&&0x55:=by decide
set_option maxRecDepth 100000 in
theorem f2:∀b,b<256->∀t,t<4->(b/4+64*t)&&&0x33=(b/4)&&&0x33:=by decide
set_option maxRecDepth 100000 in
theorem f3:∀b,b<69->∀t,t<5->(b/16+16*t+b)&&&0x0f=b3 b:=by decide
set_option maxRecDepth 100000 in
theorem f4:∀b,b<256->b1 b<256/\b2 (b1 b)<69/\b2 (b1 b)%16<5/\b3 (b2 (b1 b))<9/\(b3 (b2 (b1 b))=0->b=0):=by decide
end Go.VC
end

section
namespace Go.VC
open Go.Proofs Go.LexS


theorem wq{g:Gl}(hT:vQ g):∀(j i:Nat) (a b:To),i<j->g.ts[i]?=some a->g.ts[j]?=some b->a.s<b.s
 | 0,i,a,b,h,_,_=>by omega
 | j+1,i,a,b,h,ha,hb=>by
  have h1:=(hT (j+1) b hb).o;have hl:=(Ya.1 hb).1;obtain⟨c,hc⟩:=get_some (l:=g.ts) (i:=j) (by omega);rw[nS hc] at h1;by_cases e:i=j
  .subst e;rw[ha] at hc;cases hc;exact h1
  .have:=wq hT j i a c (by omega) ha hc;omega
theorem s9{g:Gl}(hT:vQ g){a b:To}(ha:a∈g.ts)(hb:b∈g.ts)(e:a.s=b.s):a=b:=by
 obtain⟨i,hi⟩:=Yf.1 ha;obtain⟨j,hj⟩:=Yf.1 hb;rcases Nat.lt_trichotomy i j with h | h | h
 .have:=wq hT j i a b h hi hj;omega
 .subst h;rw[hi] at hj;cases hj;rfl
 .have:=wq hT i j b a h hj hi;omega
end Go.VC
end

section
namespace Go.VC
open Go.LexS



end Go.VC
end

section
namespace Go.VC
open Go.Proofs Go.LexS
def AK(p:dv):List Int:=aK (elems p)
theorem fC{p:dv}{v:Int}:v∈AK p ↔ 0<=v/\v<4096/\p v.toNat=true:=by
 unfold AK aK;rw[Yp];constructor
 .rintro⟨j,hj,rfl⟩;have:=ez.1 hj;exact⟨by omega,by omega,by rw[Ys];exact this.2⟩
 .rintro⟨h0,h1,h2⟩;exact⟨v.toNat,ez.2 ⟨by omega,h2⟩,by omega⟩
/-! ### events -/
theorem E7{g:Gl}(hV:ae g){role:Int}{p:dv}{e:Ev}:e∈zz g.es role p ↔ ∃x∈g.es,bm role x=some e/\x.f∈AK p:=by
 have hN:=hV.num.n;unfold zz;rw[iz];unfold MM;rw[List.mem_flatMap];constructor
 .rintro⟨n,hn,hm⟩;obtain⟨a,ha,rfl⟩:=Yp.1 hm;unfold gB at ha;obtain⟨x,hx,h2⟩:=Wl.1 ha;split at h2
  .rename_i hf;cases hv:bm role x with
   | none=>rw[hv] at h2;cases h2
   | some e=>
    rw[hv] at h2;injection h2 with h2;refine⟨x,hx,by rw[<-h2];exact hv,fC.2 ?_⟩;have:=ez.1 hn;rw[hf];exact⟨by omega,by omega,this.2⟩
  .cases h2
 .rintro⟨x,hx,hv,hf⟩;obtain⟨h0,h1,h2⟩:=fC.1 hf;refine⟨x.f.toNat,ez.2 ⟨by omega,h2⟩,Yp.2 ⟨⟨e,x.t⟩,?_,rfl⟩⟩;unfold gB;refine Wl.2 ⟨x,hx,?_⟩;rw[if_pos (by omega),hv];rfl
/-! ### sets in memory -/
structure SR where
 s:Sl
 p:dv
def SR.cs(x:SR):List Value:=fB x.s
def Below(p:dv):Prop:=∀j,p j=true->j<4096
theorem St.XF{h0 h:Heap}{L:List It}(hs:St h0 h L){s:Sl}{e n:Nat}{α:Type}{cs:α->List Value}{X:List α}(hk:It.sl s e n (X.map cs)∈L)(hn:0<n)(hX:X.length<=1048576):RL h n s cs X:=by
 obtain⟨k,hk⟩:=Yf.1 hk;exact hs.rl k hk hn hX
theorem St.Rn{h0 h h1 h':Heap}{L L':List It}(hs:St h0 h L)(dW:St h1 h' L')(k k' o:Nat){b:Nat}{xs:List Value}{e:TypeId}(hk:L[k]?=some (.af b xs e))(mX:L'[k']?=some (.af b xs e)):Sm [⟨b,o,none⟩] h h':=by
 intro a ha i v hv;rw[Ye.1 ha] at hv ⊢;have e1:h[b]?=some (.cells ⟨xs⟩ e):=hs.get hk;have e2:h'[b]?=some (.cells ⟨xs⟩ e):=dW.get mX;have e3:h'[b]?=h[b]?:=by rw[e1,e2]
 rw[dI (h:=h) (h':=h') (a:=ef ⟨b,o,none⟩ i) (by rw[dM];exact e3)];exact hv
theorem St.TF{h0 h h2:Heap}{L:List It}(hs:St h0 h L)(kb ks:Nat){cb:Nat}{xs:List Value}{e0 t e:TypeId}{n bytes:Nat}{α:Type}{cs:α->List Value}{so:Sl}{X:List α}{x:α}(Bz:L[kb]?=some (.af cb xs e0))(G2:L[ks]?=some (.sl so e n (X.map cs)))
  (hT:cn Pz t e n bytes=true) (e2:h2=h.push (.cells ⟨cs x⟩ e)) (hc:(cs x).length=n) (ho:(cs x).all fF=true) (hn:X.length<=1000000) (Ki:0<n/\bytes<=56) (f:Nat) (hf:f<xs.length) (bz:ks≠kb) {K:Heap->Prop}
  (hK:∀(s':Sl) (h':Heap),St h0 h' ((L.set ks (.sl s' e n ((X++[x]).map cs))).set kb (.af cb (ay xs f [.slice s'.a s'.n s'.c]) e0))->K h') :
  Sm [⟨cb,f,none⟩] h h2/\App Pz t t (.slice so.a so.n so.c) (.slice (some ⟨h.size,0,none⟩) 1 1) h2 fun ko oK=>fG oK ⟨cb,f,none⟩ 1/\∀wk:Heap,wk=bh oK ⟨cb,f,none⟩ 0 [.slice ko.a ko.n ko.c]->K wk:=by
 have cp:St h0 h2 (.af h.size (cs x) e::L):=hs.aq (K:=fun h2=>St h0 h2 (.af h.size (cs x) e::L)) (fun _ h=>h) h2 e2;have hl:=(hs.len ks (s:=so) G2 Ki.1).1;rw[Yc] at hl;refine⟨hs.Rn cp kb (kb+1) f Bz Bz,?_⟩;have rL:(so.n+1)*bytes<=1000001*56:=Nat.mul_le_mul (by omega) Ki.2;refine cp.appended (ks+1) (s:=so) G2 hT (x:=⟨h.size,0,none⟩) (m:=1) (c:=1) (news:=[cs x]) (cp.at 0 rfl (o:=0) (n:=n) (by rw[List.drop_zero,<-hc,xW];simp)) rfl (by intro r hr;rw[Ye.1 hr];exact hc) (by simpa using ho) (by omega) (by simp only[maxLen];omega) fun ko oK n55 mg=>?_;have mg:St h0 oK (L.set ks (.sl ko e n (X.map cs++[cs x]))):=mg.drop 1;refine mg.put kb (by rw[Yy bz];exact Bz) (o:=f) (vs:=[.slice ko.a ko.n ko.c]) rfl (by show f+1<=xs.length;omega) fun wk Ir=>hK ko wk ?_;rw[Ym];exact Ir
/-! ### the view table -/
def SR.it(q:SR):It:=.sl q.s 3 1 ((AK q.p).map a6)
theorem qN{g:Gl}(hV:ae g){u:To}(hu:u∈g.ts):0<=u.s/\1<=u.k/\0<=u.e/\∃z,g.es[u.e.toNat]?=some z/\z.f=u.s:=by
 obtain⟨i,hi⟩:=Yf.1 hu;obtain⟨_,hk,he,z,hz,hf,_⟩:=hV.Hn i u hi;have J4:=hV.num.e z (Yb hz);unfold gN at J4;exact⟨by omega,hk.1,he,z,hz,hf⟩
/-! ### the timing of a view -/
/-! ### the sending conditions al the reference asks them -/


/-! ### plain -/
def CpJ(M:List Mv)(n k j:Nat):Prop:=j<=M.length/\∀(i:Nat) y,M[i]?=some y->(i<j ↔ y.f<(n:Int)\/(y.f=(n:Int)/\i<k))
theorem CpJ.end_{M:List Mv}{n j:Nat}(h:CpJ M n 0 j)(hM:∀y∈M,y.f<(n:Int)):j=M.length:=by
 rcases Nat.lt_or_ge j M.length with c | c
 .obtain⟨x,gx⟩:=get_some (l:=M) (i:=j) c;have:=(h.2 j x gx).2 (.inl (hM x (Yb gx)));omega
 .exact Nat.le_antisymm h.1 c
/-! ### the walk -/
end Go.VC
end

section
namespace Go.VC
open Go.Proofs Go.LexS Go.Maps
def t0:To:=⟨0,0,0⟩
structure Vs where
 a:Int
 b:Int
 h:List Ev
def Vs.p(v:Vs):Int × Int:=(v.a,v.b)
/-! ### the queue -/
structure Vt where
 a:Int
 b:Int
 ahead:Int
 x:Ev
def Vt.cs(v:Vt):List Value:=[.int .i64 v.a,.int .i64 v.b,.int .i64 v.ahead,.bool v.x.send,.int .i64 v.x.peer,.int .i64 v.x.label]
/-! ### what tells states apart, al the table tells it -/
/-! ### the machine whose targets are the least ones of their classes -/
section
variable {m:kY} {C:List Nat}
end
section
variable {m:kY} {C:List Nat}
end
section
variable {m:kY} {C:List Nat}
end
section
variable {m:kY} {C:List Nat}
end
section
variable {m:kY} {C:List Nat}
end
section
variable {m:kY} {C:List Nat}
end
section
variable {m:kY} {C:List Nat}
end
section
variable {m:kY} {C:List Nat} {Cw:Nat}
end
section
variable {m:kY} {C:List Nat} {Cw:Nat}
end
section
variable {m:kY} {C:List Nat} {Cw:Nat}
end
section
variable {m:kY} {C:List Nat} {Cw:Nat}
variable {c0:Nat} {M:kY} {Q:List Nat}
end
section
variable {m:kY} {C:List Nat} {Cw:Nat}
variable {c0:Nat} {M:kY} {Q:List Nat}
end
section
variable {m:kY} {C:List Nat} {Cw:Nat}
variable {c0:Nat} {M:kY} {Q:List Nat}
end
section
variable {m:kY} {C:List Nat} {Cw:Nat}
variable {c0:Nat} {M:kY} {Q:List Nat}
end
section
variable {M K:kY} {R:Nat->Nat->Prop}
theorem yi{α:Type}{P:α->α->Prop}(hi:∀a,¬P a a)(htr:∀a b c,P a b->P b c->P a c):∀ {l k:List α},l.Pairwise P->k.Pairwise P->(∀x,x∈l ↔ x∈k)->l=k
 | [],[],_,_,_=>rfl
 | [],b::k,_,_,h=>by cases (h b).2 Yx
 | a::l,[],_,_,h=>by cases (h a).1 Yx
 | a::l,b::k,h1,h2,h=>by
  rw[List.pairwise_cons] at h1 h2;have iO:a=b:=by
   rcases Yr.1 ((h a).1 Yx) with e | ha
   .exact e
   .rcases Yr.1 ((h b).2 Yx) with e | hb
    .exact e.symm
    .exact absurd (htr _ _ _ (h1.1 b hb) (h2.1 a ha)) (hi a)
  subst iO;rw[yi hi htr h1.2 h2.2 fun x=>⟨fun hx=>by
   rcases Yr.1 ((h x).1 (Yn _ hx)) with e | rD
   .subst e;exact absurd (h1.1 x hx) (hi x)
   .exact rD,fun hx=>by
   rcases Yr.1 ((h x).2 (Yn _ hx)) with e | rD
   .subst e;exact absurd (h2.1 x hx) (hi x)
   .exact rD⟩]
end
section
variable {M K:kY} {R:Nat->Nat->Prop}
end
section
variable {m:kY} {C:List Nat} {Cw c0:Nat} {M:kY} {Q:List Nat}
end
section
variable {m:kY} {C:List Nat} {Cw c0:Nat} {M:kY} {Q:List Nat}
end
section
variable {n:Nat} {to:List Nat}
end
section
variable {n:Nat} {to:List Nat}
end
section
variable {n:Nat} {to:List Nat}
end
section
variable {n:Nat} {to:List Nat}
end
end Go.VC
end

section
namespace Go.VC
open Go.Proofs Go.LexS

structure PM where
 m:kY
 f:Sl
 v:Sl
 l:Sl
def PM.cs(p:PM):List Value:=mC p.m p.f p.v p.l
theorem km(p:Addr)(role:Int)(x:Ed)(h:Heap)(hp:hc h ⟨p.block,p.off+8,none⟩=some (.int .i64 role)):Fn Pz 106 #[.pointer (some p),.agg ⟨x.cs⟩] h fun v h'=>Ext h h'/\v=(match bm role x with | some e=>.tuple ⟨[.agg ⟨e.cs⟩,.bool true]⟩ | none=>.tuple ⟨[.agg ⟨[.bool false,.int .i64 0,.int .i64 0]⟩,.bool false]⟩):=by
 apply QN p x.f x.a x.b x.l x.t x.ag;unfold U8;refine (St.refl h).aq fun h7 hs=>?_;refine hs.aq fun h8 hs=>?_;refine⟨role,aw hs.ext hp,x.a,hs.rd 1 rfl (i:=1) rfl,eh (fun c=>?_) (fun c=>?_)⟩
 .refine⟨x.b,hs.rd 1 rfl (i:=2) rfl,x.l,hs.rd 1 rfl (i:=3) rfl,?_⟩;refine hs.put 0 rfl (o:=0) (vs:=[.bool true,.int .i64 x.b,.int .i64 x.l]) rfl (aY 3) fun EL hs=>?_;refine⟨true,x.b,x.l,hs.at 0 rfl (o:=0) (n:=3) rfl,hs.ext,?_⟩;unfold bm;rw[if_pos c];rfl
 .refine⟨x.b,hs.rd 1 rfl (i:=2) rfl,eh (fun c2=>?_) (fun c2=>?_)⟩
  .refine⟨x.a,hs.rd 1 rfl (i:=1) rfl,x.l,hs.rd 1 rfl (i:=3) rfl,?_⟩;refine hs.put 0 rfl (o:=0) (vs:=[.bool false,.int .i64 x.a,.int .i64 x.l]) rfl (aY 3) fun EL hs=>?_;refine⟨false,x.a,x.l,hs.at 0 rfl (o:=0) (n:=3) rfl,hs.ext,?_⟩;unfold bm;rw[if_neg c,if_pos c2];rfl
  .refine hs.put 0 rfl (o:=0) (vs:=[.bool false,.int .i64 0,.int .i64 0]) rfl (aY 3) fun EL hs=>?_;refine⟨false,0,0,hs.at 0 rfl (o:=0) (n:=3) rfl,hs.ext,?_⟩;unfold bm;rw[if_neg c,if_neg c2]
theorem nO(a b s t:Int)(h:Heap):Fn Pz 169 #[.agg ⟨[.int .i64 a,.int .i64 b,.int .i64 s,.int .i64 t]⟩] h fun v h'=>v=.int .i64 (if 0<=a/\0<=b then 2 else 1)/\Ext h h':=by
 apply Qk a b s t;unfold UE;refine (St.refl h).aq fun h5 hs=>?_;refine⟨a,hs.rd 0 rfl (i:=0) rfl,aQ (fun c=>?_) (fun c=>?_)⟩
 .refine⟨b,hs.rd 0 rfl (i:=1) rfl,aQ (fun c2=>?_) (fun c2=>?_)⟩
  .exact⟨by rw[if_pos ⟨c,c2⟩],hs.ext⟩
  .exact⟨by rw[if_neg fun h=>c2 h.2],hs.ext⟩
 .exact⟨by rw[if_neg fun h=>c h.1],hs.ext⟩
theorem C3(L:List Ev)(b:Bool)(s:Sl)(h:Heap)(hr:Rw h 3 s (L.map Ev.cs)):Fn Pz 148 #[.agg ⟨[.slice s.a s.n s.c,.bool b]⟩] h fun v h'=>v=.bool (eE L 0)/\Ext h h':=by
 apply Qy s b;unfold UR;have hn:=hr.ln;refine (St.refl h).aq fun h3 hs=>?_;refine⟨s,hs.rd 0 rfl (i:=0) rfl,aQ (fun c=>?_) (fun c=>?_)⟩
 .refine⟨s,hs.rd 0 rfl (i:=0) rfl,?_⟩;refine (hr.ext hs.ext).aF (by omega) (by omega) fun b6 o7 e ge t=>?_;replace ge:L[0]?=some e:=ge;refine⟨e.send,t.nth 0 rfl,?_,hs.ext⟩;unfold eE;rw[ge]
 .refine⟨?_,hs.ext⟩;have:L=[]:=List.length_eq_zero_iff.1 (by omega);subst this;rfl
theorem DR(L:List Ev)(b:Bool)(s:Sl)(h:Heap)(hr:Rw h 3 s (L.map Ev.cs))(hl:L.length<=1048576):Fn Pz 149 #[.agg ⟨[.slice s.a s.n s.c,.bool b]⟩] h fun v h'=>v=.bool (eE L 0&&(b || !eE L (L.length-1)))/\Ext h h':=by
 apply Qx s b;unfold UQ;have hn:=hr.ln;refine (St.refl h).aq fun h3 hs=>?_;refine⟨s,b,hs.at 0 rfl (o:=0) (n:=2) rfl,?_⟩;refine (C3 L b s h3 (hr.ext hs.ext)).mono ?_;rintro _ h8 ⟨rfl,E⟩;have hs:=hs.step E;refine⟨_,rfl,aa (fun c=>?_) (fun c=>⟨by rw[c];rfl,hs.ext⟩)⟩;have fq:0<L.length:=by
  cases L with
  | nil=>cases c
  | cons a l=>exact Nat.succ_pos _
 refine⟨b,hs.rd 0 rfl (i:=1) rfl,aa (fun c2=>⟨by rw[c,c2];rfl,hs.ext⟩) (fun c2=>?_)⟩;refine⟨s,hs.rd 0 rfl (i:=0) rfl,s,hs.rd 0 rfl (i:=0) rfl,?_⟩;rw[aZ (n:=(s.n:Int)-1) (by omega) (by omega)];refine (hr.ext hs.ext).aF (by omega) (by omega) fun b6 o7 e ge t=>?_;rw[show ((s.n:Int)-1).toNat=L.length-1 by omega] at ge;refine⟨e.send,t.nth 0 rfl,?_,hs.ext⟩;have h1:eE L (L.length-1)=e.send:=by unfold eE;rw[ge]
 rw[c,c2,h1];rfl
theorem mz(x y:Ev)(h:Heap):Fn Pz 185 #[.agg ⟨x.cs⟩,.agg ⟨y.cs⟩] h fun v h'=>v=.int .i64 (pI x y)/\Ext h h':=by
 apply CH x.send x.peer x.label y.send y.peer y.label;unfold FX;have hs:=St.refl h;refine hs.aq fun h7 hs=>?_;refine hs.aq fun h8 hs=>?_;refine⟨_,hs.rd 1 rfl rfl,?_⟩;refine⟨_,hs.rd 0 rfl rfl,?_⟩;refine aa (fun c=>?_) (fun c=>?_)
 .have bz:x.send≠y.send:=by simpa using c
  refine⟨_,hs.rd 1 rfl rfl,?_⟩;unfold pI;rw[if_pos bz];refine aa (fun d=>?_) (fun d=>?_)
  .exact⟨by rw[if_pos d],hs.ext⟩
  .exact⟨by rw[if_neg (by rw[d];simp)],hs.ext⟩
 .have he:x.send=y.send:=by simpa using c
  refine⟨_,hs.rd 1 rfl rfl,_,hs.rd 0 rfl rfl,_,hs.rd 1 rfl rfl,_,hs.rd 0 rfl rfl,?_⟩;refine (dh _ _ _).mono ?_;rintro _ _ ⟨rfl,rfl⟩;refine⟨_,rfl,fun _ _ _ _ hv=>hv,?_⟩;refine (dh _ _ _).mono ?_;rintro _ _ ⟨rfl,rfl⟩;refine⟨_,rfl,fun _ _ _ _ hv=>hv,?_⟩;refine hs.aq fun fK hs=>?_;have cp:=hs.fx 2 1 ([bK x.peer y.peer,bK x.label y.label].map a6) rfl (cy _) rfl (by decide);refine (nI [bK x.peer y.peer,bK x.label y.label] _ fK (cp.rows 0 rfl (by omega)) (show 2<=1048576 by decide)).mono ?_;rintro _ _ ⟨rfl,rfl⟩;refine⟨_,rfl,?_,hs.ext⟩;unfold pI;rw[if_neg (by simpa using he)];show Value.int .i64 (di _ (di _ 0))=_;congr 1;unfold di;split
  .rfl
  .split<;>omega
theorem I3{x y:Ev}(h:((x.send==y.send)&&((x.peer==y.peer)&&((x.label==y.label)&&true)))=true):x=y:=by
 cases x;cases y;simp_all
theorem Bm(L:List Ev)(e:Ev)(s:Sl)(h:Heap)(hr:Rw h 3 s (L.map Ev.cs))(hl:L.length<=1048576):Fn Pz 295 #[.slice s.a s.n s.c,.agg ⟨e.cs⟩] h fun v h'=>∃i:Int,v=.int .i64 i/\Ext h h'/\(0<=i ↔ e∈L):=by
 apply Pv s e.send e.peer e.label;unfold TS;have hn:=hr.ln;refine (St.refl h).aq fun h4 hs=>?_;refine aM (n:=s.n) hs (fun i=>∀(j:Nat) x,j<i->L[j]?=some x->x≠e) (fun j x hj=>by omega) ?_;clear hs;rintro-i h9 hi ⟨hs,hq⟩;refine aa (fun c=>?_) (fun c=>?_)
 .replace c:=ba c;refine⟨e.send,e.peer,e.label,hs.at 0 rfl (o:=0) (n:=3) rfl,?_⟩;refine (hr.ext hs.ext).aF (by omega) (by omega) fun b13 o14 x gx t=>?_;replace gx:L[i]?=some x:=gx;refine⟨x.send,x.peer,x.label,t,aa (fun c2=>?_) (fun c2=>?_)⟩
  .have jT:=I3 c2;exact⟨i,rfl,hs.ext,iff_of_true (by omega) (by rw[jT];exact Yb gx)⟩
  .refine Up.next c (by omega) ⟨hs,fun j x' hj sV=>?_⟩;by_cases e1:j=i
   .subst e1;rw[gx] at sV;cases sV;rintro rfl;simp at c2
   .exact hq j x' (by omega) sV
 .replace c:=bd c;refine⟨-1,rfl,hs.ext,iff_of_false (by omega) fun hm=>?_⟩;obtain⟨j,hj⟩:=Yf.1 hm;exact hq j e (by have:=(Ya.1 hj).1;omega) hj rfl
theorem r8(L:List Ev)(e:Ev)(s:Sl)(h:Heap)(hr:Rw h 3 s (L.map Ev.cs))(hl:L.length<=1048576):Fn Pz 263 #[.slice s.a s.n s.c,.agg ⟨e.cs⟩] h (RP (e∈L) h):=by
 apply PK s e.send e.peer e.label;unfold T8;refine (St.refl h).aq fun h4 hs=>?_;refine⟨e.send,e.peer,e.label,hs.at 0 rfl (o:=0) (n:=3) rfl,?_⟩;refine (Bm L e s h4 (hr.ext hs.ext) hl).mono ?_;rintro _ cA ⟨i,rfl,E,hi⟩;exact⟨i,rfl,RP.e (by rw[decide_eq_true_eq];exact hi) (hs.step E).ext⟩
theorem zq(L:List Ev)(b:Bool)(e:Ev)(s:Sl)(h:Heap)(hr:Rw h 3 s (L.map Ev.cs))(hl:L.length<=1048576):Fn Pz 214 #[.agg ⟨[.slice s.a s.n s.c,.bool b]⟩,.agg ⟨e.cs⟩] h (RP (e∈L) h):=by
 apply P2 s b e.send e.peer e.label;unfold Ul;refine (St.refl h).aq fun h6 hs=>?_;refine hs.aq fun h7 hs=>?_;refine⟨s,hs.rd 1 rfl (i:=0) rfl,e.send,e.peer,e.label,hs.at 0 rfl (o:=0) (n:=3) rfl,?_⟩;refine (r8 L e s h7 (hr.ext hs.ext) hl).mono ?_;rintro _ zu ⟨⟨b2,rfl,hb⟩,E⟩;exact⟨b2,rfl,⟨b2,rfl,hb⟩,(hs.step E).ext⟩
structure Lm where
 k:Int
 x:Ev
def Lm.cs(l:Lm):List Value:=[.int .i64 l.k,.bool l.x.send,.int .i64 l.x.peer,.int .i64 l.x.label]
structure Fs where
 s:Sl
 l:List Ev
 b:Bool
def Fs.cs(f:Fs):List Value:=[.slice f.s.a f.s.n f.s.c,.bool f.b]
structure Pd (h:Heap) (p:Addr) (role:Int) (bO bE bc bI:Sl) (fi:List Fs) (li:List Lm) (ag ow:List Bool):Prop where
 ro:hc h ⟨p.block,p.off+8,none⟩=some (.int .i64 role)
 f:hc h ⟨p.block,p.off+10,none⟩=some (.slice bO.a bO.n bO.c)
 l:hc h ⟨p.block,p.off+11,none⟩=some (.slice bE.a bE.n bE.c)
 a:hc h ⟨p.block,p.off+12,none⟩=some (.slice bc.a bc.n bc.c)
 o:hc h ⟨p.block,p.off+13,none⟩=some (.slice bI.a bI.n bI.c)
 rf:RL h 2 bO Fs.cs fi
 re:∀f∈fi,RL h 3 f.s Ev.cs f.l
 rl:RL h 4 bE Lm.cs li
 ra:RL h 1 bc bC ag
 rw:RL h 1 bI bC ow
theorem Pd.ext{h h':Heap}{p:Addr}{role:Int}{bO bE bc bI:Sl}{fi:List Fs}{li:List Lm}{ag ow:List Bool}(hA:Pd h p role bO bE bc bI fi li ag ow)(E:Ext h h'):Pd h' p role bO bE bc bI fi li ag ow:=
 ⟨aw E hA.ro,aw E hA.f,aw E hA.l,aw E hA.a,aw E hA.o,hA.rf.ext E,fun f hf=>(hA.re f hf).ext E,hA.rl.ext E,hA.ra.ext E,hA.rw.ext E⟩
theorem J2{x y:Lm}:((x.k==y.k)&&(((x.x.send==y.x.send)&&((x.x.peer==y.x.peer)&&((x.x.label==y.x.label)&&true)))&&true))=true ↔ x=y:=by
 constructor
 .intro h;obtain⟨k,e⟩:=x;obtain⟨k',e'⟩:=y;cases e;cases e'
  simp_all
 .rintro rfl;simp
def JA(li:List Lm)(ag ow:List Bool)(s t:Nat):Prop:=ow[s]?=some true/\ow[t]?=some true/\(li[s]?≠li[t]?\/ag[s]?≠ag[t]?)
theorem BX(p:Addr)(role:Int)(bO bE bc bI:Sl)(fi:List Fs)(li:List Lm)(ag ow:List Bool)(s t:Nat)(h:Heap)(hA:Pd h p role bO bE bc bI fi li ag ow)(l1:s<ow.length/\t<ow.length)(l2:s<li.length/\t<li.length)(l3:s<ag.length/\t<ag.length):
  Fn Pz 151 #[.pointer (some p),.agg ⟨[.int .i64 (s:Nat),.int .i64 (t:Nat)]⟩] h (RP (JA li ag ow s t) h):=by
 apply Qw p (s:Nat) (t:Nat);unfold UP;have n1:=hA.rw.ln;have n2:=hA.rl.ln;have n3:=hA.ra.ln;refine (St.refl h).aq fun h3 hs=>?_;have hA:=hA.ext hs.ext;refine⟨bI,hA.o,s,hs.rd 0 rfl (i:=0) rfl,?_⟩;refine hA.rw.rw.aF (by omega) (by omega) fun _ _ o1 g1 u1=>⟨o1,u1.hd,aa (fun c1=>?_) (fun c1=>RP.f (fun hc=>?_) hs.ext)⟩
 case refine_2=>
  have:=hc.1;rw[show ow[s]?=some o1 from g1,c1] at this;cases this
 refine⟨bI,hA.o,t,hs.rd 0 rfl (i:=1) rfl,?_⟩;refine hA.rw.rw.aF (by omega) (by omega) fun _ _ o2 g2 u2=>⟨o2,u2.hd,aa (fun c2=>?_) (fun c2=>RP.f (fun hc=>?_) hs.ext)⟩
 case refine_2=>
  have:=hc.2.1;rw[show ow[t]?=some o2 from g2,c2] at this;cases this
 refine⟨bE,hA.l,s,hs.rd 0 rfl (i:=0) rfl,?_⟩;refine hA.rl.rw.aF (by omega) (by omega) fun _ _ x gx ux=>⟨x.k,x.x.send,x.x.peer,x.x.label,ux,bE,hA.l,t,hs.rd 0 rfl (i:=1) rfl,?_⟩;refine hA.rl.rw.aF (by omega) (by omega) fun _ _ y gy uy=>⟨y.k,y.x.send,y.x.peer,y.x.label,uy,?_⟩;replace gx:li[s]?=some x:=gx;replace gy:li[t]?=some y:=gy;replace g1:ow[s]?=some o1:=g1;replace g2:ow[t]?=some o2:=g2;rw[c1] at g1;rw[c2] at g2;refine aa (fun c3=>RP.t ⟨g1,g2,.inl fun e=>?_⟩ hs.ext) (fun c3=>?_)
 .rw[gx,gy] at e;have:=J2.2 (eU e);rw[this] at c3;cases c3
 have J5:x=y:=J2.1 (by simpa using c3);refine⟨bc,hA.a,s,hs.rd 0 rfl (i:=0) rfl,?_⟩;refine hA.ra.rw.aF (by omega) (by omega) fun _ _ a1 k1 v1=>⟨a1,v1.hd,bc,hA.a,t,hs.rd 0 rfl (i:=1) rfl,?_⟩;refine hA.ra.rw.aF (by omega) (by omega) fun _ _ a2 k2 v2=>⟨a2,v2.hd,RP.e ?_ hs.ext⟩;replace k1:ag[s]?=some a1:=k1;replace k2:ag[t]?=some a2:=k2;unfold JA;rw[g1,g2,gx,gy,k1,k2,J5];cases a1<;>cases a2<;>simp
theorem r3{α:Type}{p:α->Bool}:∀(L:List α) (i:Nat) (x:α),(∀(j:Nat) y,j<i->L[j]?=some y->p y=false)->L[i]?=some x->p x=true->L.find? p=some x
 | [],i,x,_,h,_=>by cases h
 | a::L,0,x,_,h,hp=>by cases h;exact List.find?_cons_of_pos hp
 | a::L,i+1,x,hq,h,hp=>by
  rw[List.find?_cons_of_neg (by rw[hq 0 a (by omega) rfl];decide)];exact r3 L i x (fun j y hj hy=>hq (j+1) y (by omega) hy) h hp
theorem zv{α:Type}{p:α->Bool}{L:List α}(h:∀(j:Nat) y,L[j]?=some y->p y=false):L.find? p=none:=by
 rw[List.find?_eq_none];intro x hx;obtain⟨j,hj⟩:=Yf.1 hx;rw[h j x hj];decide
def fw(K:List Ev)(x:Ev):Bool:=x.send && !decide (x∈K)
theorem om(p:Addr)(role:Int)(bO bE bc bI:Sl)(fi:List Fs)(li:List Lm)(ag ow:List Bool)(s t:Nat)(fs ft:Fs)(h:Heap)(hA:Pd h p role bO bE bc bI fi li ag ow)(gs:fi[s]?=some fs)(gt:fi[t]?=some ft):
  Fn Pz 170 #[.pointer (some p),.agg ⟨[.int .i64 (s:Nat),.int .i64 (t:Nat)]⟩] h fun v h'=>Ext h h'/\v=(match fs.l.find? (fw ft.l) with | some x=>.tuple ⟨[.agg ⟨x.cs⟩,.bool true]⟩ | none=>.tuple ⟨[.agg ⟨[.bool false,.int .i64 0,.int .i64 0]⟩,.bool false]⟩):=by
 apply Qj p (s:Nat) (t:Nat);unfold UD;have n1:=hA.rf.ln;have ls:=(Ya.1 gs).1;have lt:=(Ya.1 gt).1;have Km:=hA.re fs (Yb gs);have hft:=hA.re ft (Yb gt);have n2:=Km.ln;have m2:=Km.sm;refine (St.refl h).aq fun h3 hs=>?_;refine hs.aq fun h4 hs=>?_;refine⟨bO,(hA.ext hs.ext).f,s,hs.rd 1 rfl (i:=0) rfl,?_⟩;refine (hA.rf.ext hs.ext).rw.aF (by omega) (by omega) fun b7 o8 f gf u=>?_;replace gf:fi[s]?=some f:=gf;rw[gs] at gf;cases gf;refine⟨fs.s,u.nth 0 rfl,?_⟩;refine aM (n:=fs.s.n) hs (fun i=>∀(j:Nat) x,j<i->fs.l[j]?=some x->fw ft.l x=false) (fun j x hj=>by omega) ?_;clear hs;rintro-i zu hi ⟨hs,hq⟩;refine aa (fun c=>?_) (fun c=>?_)
 .replace c:=ba c;refine (Km.ext hs.ext).rw.aF (by omega) (by omega) fun b15 Oi x gx ux=>?_;replace gx:fs.l[i]?=some x:=gx;refine⟨x.send,x.peer,x.label,ux,?_⟩;refine hs.ai (vs:=x.cs) rfl rfl fun mn hs=>?_;have q8:∀ {hZ:Heap},Ext mn hZ->fw ft.l x=false->∃m42,m42<fs.s.n-i/\Up fs.s.n (fun i h'=>St h h' [.af h3.size [.bool false,.int .i64 0,.int .i64 0] 188,.af h.size [.int .i64 (s:Nat),.int .i64 (t:Nat)] 97]/\∀(j:Nat) x,j<i->fs.l[j]?=some x->fw ft.l x=false) (IntKind.wrap .i64 ((i:Int)+1)) hZ m42:=fun {hZ} E hd=>by
   refine Up.next c (by omega) ⟨(hs.step E).drop 1,fun j y hj gy=>?_⟩;by_cases e:j=i
   .subst e;rw[gx] at gy;cases gy;exact hd
   .exact hq j y (by omega) gy
  refine⟨x.send,hs.rd 0 rfl (i:=0) rfl,aa (fun c2=>?_) (fun c2=>q8 .cD (by unfold fw;rw[c2];rfl))⟩;refine⟨bO,(hA.ext hs.ext).f,t,hs.rd 2 rfl (i:=1) rfl,?_⟩;refine (hA.rf.ext hs.ext).rw.aF (by omega) (by omega) fun b25 o26 f2 Wb u2=>?_;replace Wb:fi[t]?=some f2:=Wb;rw[gt] at Wb;cases Wb;refine⟨ft.s,ft.b,u2,x.send,x.peer,x.label,hs.at 0 rfl (o:=0) (n:=3) rfl,?_⟩;refine (zq ft.l ft.b x ft.s mn (hft.ext hs.ext).rw hft.sm).mono ?_;rintro _ mm ⟨⟨b,rfl,hb⟩,E⟩;refine⟨b,rfl,E.sm,aa (fun c3=>?_) (fun c3=>q8 E ?_)⟩
  .have hs:=hs.step E;have fQ:x∉ft.l:=fg hb (bF c3);refine⟨x.send,x.peer,x.label,hs.at 0 rfl (o:=0) (n:=3) rfl,?_⟩;refine hs.put 1 rfl (o:=0) (vs:=x.cs) rfl (aY 3) fun sU hs=>?_;refine⟨x.send,x.peer,x.label,hs.at 1 rfl (o:=0) (n:=3) rfl,hs.ext,?_⟩;rw[r3 fs.l i x hq gx (by unfold fw;rw[c2,decide_eq_false fQ];rfl)];rfl
  .unfold fw;rw[decide_eq_true (hb.1 (bT c3))];simp
 .replace c:=bd c;refine hs.put 0 rfl (o:=0) (vs:=[.bool false,.int .i64 0,.int .i64 0]) rfl (aY 3) fun xz hs=>?_;refine⟨false,0,0,hs.at 0 rfl (o:=0) (n:=3) rfl,hs.ext,?_⟩;rw[zv fun j y hj=>hq j y (by have:=(Ya.1 hj).1;omega) hj]
theorem KN:Pz.underlying 193=some (.slice 188):=by kernel_rfl
theorem He(w:World):(zeroValue 188).run Pz w=.ok (.agg #[.bool false,.int .i64 0,.int .i64 0]) w:=by
 have hi:(Pz.info? 188).bind (·.zero)=some (.agg #[.bool false,.int .i64 0,.int .i64 0]):=by kernel_rfl
 cases h:Pz.info? 188 with
 | none=>rw[h] at hi;cases hi
 | some i=>rw[h] at hi;simp only[Option.bind_some] at hi;simp[zeroValue,typeInfo,h,hi]
theorem xQ{h0 h:Heap}{L:List It}(hs:St h0 h L)(k:Nat){s:Sl}{l:List Ev}(hk:L[k]?=some (.sl s 188 3 (l.map Ev.cs)))(hm:l.length<=1048576):
  Fn Pz 186 #[.slice s.a s.n s.c] h fun v h'=>∃r:Sl,v=.slice r.a r.n r.c/\St h0 h' (L.set k (.sl r 188 3 ((aJ l).map Ev.cs))):=by
 apply P5 s;unfold Uo;have hlen:=hs.len k hk (by omega);have hn:s.n=l.length:=by rw[hlen.1,Yc]
 have rH:k<L.length:=(Ya.1 hk).1;have dH:L.set k (.sl s 188 3 (l.map Ev.cs))=L:=by
  obtain⟨a,b⟩:=Ya.1 hk;rw[<-b];exact List.set_getElem_self a
 have zf:aJ l=l->(∃r:Sl,Value.slice s.a s.n s.c=.slice r.a r.n r.c/\St h0 h (L.set k (.sl r 188 3 ((aJ l).map Ev.cs)))):=fun e=>⟨s,rfl,by rw[e,dH];exact hs⟩;refine aa (fun c=>?_) (fun c=>?_)
 .have:l.length<2:=by have:=bM c;omega
  refine zf ?_
  match l,this with
  | [],_=>rfl
  | [a],_=>rfl
 .have h2:2<=l.length:=by have:=eB c;omega
  refine⟨fun x h' m=>∃i:Nat,x=i/\1<=i/\i<=l.length/\m=l.length-i/\h'=h/\aJ (l.take i)=l.take i,⟨_,1,rfl,by omega,by omega,rfl,rfl,?_⟩,?_⟩
  .match l,h2 with
   | a::r,_=>rfl
  rintro-x h5 m ⟨i,rfl,VP,dQ,rfl,rfl,sT⟩;refine aa (fun l2=>?_) (fun l2=>?_)
  .replace l2:=ba l2;have kF:=hs.rows k hk (by omega);refine kF.aF (by omega) (by omega) fun b o x1 g t=>?_;replace g:l[i]?=some x1:=g;refine⟨_,_,_,t,?_⟩;have hw1:IntKind.wrap .i64 ((i:Int)-1)=((i-1:Nat):Int):=by rw[aZ (by omega) (by omega)];omega
   rw[hw1];refine kF.aF (x:=((i-1:Nat):Int)) (by omega) (by omega) fun b' o' y1 g' t'=>?_;replace g':l[i-1]?=some y1:=g';refine⟨_,_,_,t',?_⟩;rw[MN];have ze:=jt g VP g';refine aa (fun e=>?_) (fun e=>?_)
   .replace e:=bM e;rw[if_pos e,sT] at ze;have uP:=hlen.2.1;refine⟨⟨by omega,by omega,by omega⟩,?_⟩;refine⟨fun kk x h' m=>∃(q j:Nat) (cl:List Ev),kk=q/\x=j/\1<=j/\i+j<=l.length/\q<=i+j-1/\m=l.length-j/\cl.length=l.length/\cl.take q=aJ (l.take (i+j))/\(∀a,i+j-1<=a->cl[a]?=l[a]?)/\St h0 h' (L.set k (.sl s 188 3 (cl.map Ev.cs))),
     ⟨_,i,1,l,rfl,rfl,by omega,by omega,by omega,rfl,rfl,ze.symm,fun _ _=>rfl,by rw[dH];exact hs⟩,?_⟩
    rintro-kk x mn m' ⟨q,j,cl,rfl,rfl,hj1,OI,hq,rfl,ew,hct,xq,hs⟩;have LL:(L.set k (.sl s 188 3 (cl.map Ev.cs)))[k]?=some (.sl s 188 3 (cl.map Ev.cs)):=by rw[Yq rH]
    have zi:=(hs.rows k LL (by omega)).from (i:=i) (by omega) (by omega)
    rw[<-List.map_drop] at zi;have OA:Int.toNat ((s.n:Nat):Int)-Int.toNat ((i:Nat):Int)=s.n-i:=by simp
    have htI:Int.toNat ((i:Nat):Int)=i:=by simp
    refine aa (fun c2=>?_) (fun c2=>?_)
    .have Eo:i+j<l.length:=by have:=bM c2;rw[OA] at this;omega
     rw[OA,htI];refine zi.aF (x:=(j:Int)) (by omega) (by show (j:Int)<((s.n-i:Nat):Int);omega) fun b2 o2 x2 g2 t2=>?_;replace g2:(cl.drop i)[j]?=some x2:=g2;rw[List.getElem?_drop,xq _ (by omega)] at g2;refine⟨_,_,_,t2,?_⟩;have GY:IntKind.wrap .i64 ((j:Int)-1)=((j-1:Nat):Int):=by rw[aZ (by omega) (by omega)];omega
     rw[GY];refine zi.aF (x:=((j-1:Nat):Int)) (by omega) (by show ((j-1:Nat):Int)<((s.n-i:Nat):Int);omega) fun b3 o3 y2 g3 t3=>?_;replace g3:(cl.drop i)[j-1]?=some y2:=g3;rw[List.getElem?_drop,show i+(j-1)=i+j-1 by omega,xq _ (by omega)] at g3;refine⟨_,_,_,t3,?_⟩;rw[MN];have Br:=jt g2 (by omega) g3;have VA:IntKind.wrap .i64 ((j:Int)+1)=((j+1:Nat):Int):=by rw[aZ (by omega) (by omega)];omega
     have hwq:IntKind.wrap .i64 ((q:Int)+1)=((q+1:Nat):Int):=by rw[aZ (by omega) (by omega)];omega
     refine aa (fun e2=>?_) (fun e2=>?_)
     .have bz:x2≠y2:=by simpa using e2
      rw[if_neg bz] at Br;refine zi.aF (x:=(j:Int)) (by omega) (by show (j:Int)<((s.n-i:Nat):Int);omega) fun b4 o4 x3 g4 t4=>?_;replace g4:(cl.drop i)[j]?=some x3:=g4;rw[List.getElem?_drop,xq _ (by omega)] at g4;rw[g2] at g4;cases g4;refine⟨_,_,_,t4,?_⟩;refine hs.set k LL (by omega) (x:=(q:Int)) (by omega) (by omega) x2 rfl rfl (fun b5 o5 Cu hs=>?_) rfl;rw[List.set_set] at hs;refine⟨l.length-(j+1),by omega,q+1,j+1,cl.set q x2,hwq,VA,by omega,by omega,by omega,rfl,by rw[mF];exact ew,?_,?_,hs⟩
      .rw[show i+(j+1)=i+j+1 by omega,Br,<-hct,aj (x:=x2) (by rw[Yq (by omega)]),List.take_set_of_le (aY _)]
      .intro a ha;rw[Yy (by omega)];exact xq a (by omega)
     .have heq:x2=y2:=by simpa using e2
      rw[if_pos heq] at Br;refine⟨l.length-(j+1),by omega,q,j+1,cl,rfl,VA,by omega,by omega,by omega,rfl,ew,?_,fun a ha=>xq a (by omega),hs⟩;rw[show i+(j+1)=i+j+1 by omega,Br];exact hct
    .have Eo:i+j=l.length:=by have:=eB c2;rw[OA] at this;omega
     refine⟨⟨by omega,by omega,by omega⟩,?_⟩;have htq:Int.toNat ((q:Nat):Int)=q:=by simp
     have Lr:Int.toNat ((s.n:Nat):Int)=s.n:=by simp
     rw[htq,Lr];refine hs.clear k LL (by omega) q (by omega) KN He rfl rfl fun v xA hs=>?_;refine⟨⟨by omega,by omega,by omega⟩,⟨s.a,q,s.c⟩,?_,?_⟩
     .rw[show Int.toNat 0=0 from rfl,cC];rfl
     .rw[List.set_set,<-List.map_take,hct,Eo,xW] at hs;exact hs
   .replace e:=eB e;rw[if_neg e,sT] at ze;refine⟨l.length-(i+1),by omega,i+1,by rw[aZ (by omega) (by omega)];omega,by omega,by omega,rfl,rfl,?_⟩;rw[ze,aj g]
  .replace l2:=bd l2;rw[Yj (by omega)] at sT;exact zf sT
end Go.VC
end

section
namespace Go.VC
open Go.Proofs Go.LexS Go.Shelf
theorem QY:Go.Sort.SWO (ltOf vp) where
 irrefl x:=by unfold ltOf;rw[decide_eq_false_iff_not,iR];unfold dP;omega
 trans x y z h1 h2:=by unfold ltOf at *;rw[decide_eq_true_eq,iR] at *;unfold dP at *;omega
 ntrans x y z h1 h2:=by unfold ltOf at *;rw[decide_eq_false_iff_not,iR] at *;unfold dP at *;omega
theorem QZ:Go.Sort.SWO (ltOf oo) where
 irrefl x:=by unfold ltOf oo;rw[decide_eq_false_iff_not,kT];unfold acLt;omega
 trans x y z h1 h2:=by unfold ltOf oo at *;rw[decide_eq_true_eq,kT] at *;unfold acLt at *;omega
 ntrans x y z h1 h2:=by unfold ltOf oo at *;rw[decide_eq_false_iff_not,kT] at *;unfold acLt at *;omega
instance:Inhabited Ms:=⟨⟨0,0⟩⟩
instance:Inhabited Ed:=⟨⟨0,0,0,0,0,false⟩⟩
theorem Hx{h0 h:Heap}{L:List It}(hs:St h0 h L)(k:Nat){s:Sl}{l:List Ev}(hk:L[k]?=some (.sl s 188 3 (l.map Ev.cs)))(hm:l.length<=1048576):
  Fn Pz 184 #[.slice s.a s.n s.c,.func (.func 185) #[] #[]] h fun v h'=>v=.tuple ⟨[]⟩/\∃l':List Ev,l'.Perm l/\l'.Pairwise (fun a b=>¬dJ b a)/\St h0 h' (L.set k (.sl s 188 3 (l'.map Ev.cs))):=by
 refine Fn.mono (nu Tryz.CZ 3 188 Tryz.isAgg188 Tryz.sizeOf188 Ev.cs (fun _=>rfl) (fun x v hv=>by simp[Ev.cs] at hv;rcases hv with rfl | rfl | rfl<;>rfl) pI Xx 185 (enters_of Tryz.func185 (by kernel_rfl) rfl) (fun x y h=>@M.mz fH x y h) hs k hk (by omega) (by omega)) ?_;rintro v h' ⟨rfl,l',hp,hw,dW⟩;exact⟨rfl,l',hp,hw.imp fun {a b} iO=>by unfold ltOf at iO;rw[decide_eq_false_iff_not,kS] at iO;exact iO,dW⟩
theorem Hw{h0 h:Heap}{L:List It}(hs:St h0 h L)(k:Nat){s:Sl}{l:List Ms}(hk:L[k]?=some (.sl s 72 2 (l.map Ms.cs)))(hm:l.length<=1048576):
  Fn Pz 69 #[.slice s.a s.n s.c,.func (.func 70) #[] #[]] h fun v h'=>v=.tuple ⟨[]⟩/\∃l':List Ms,l'.Perm l/\l'.Pairwise (fun a b=>¬dP b a)/\St h0 h' (L.set k (.sl s 72 2 (l'.map Ms.cs))):=by
 refine Fn.mono (nu Tryz.CY 2 72 Tryz.isAgg72 Tryz.sizeOf72 Ms.cs (fun _=>rfl) (fun x v hv=>by simp[Ms.cs] at hv;rcases hv with rfl | rfl<;>rfl) vp QY 70 (enters_of Tryz.func70 (by kernel_rfl) rfl) (fun x y h=>@M.Jg fH x y h) hs k hk (by omega) (by omega)) ?_;rintro v h' ⟨rfl,l',hp,hw,dW⟩;exact⟨rfl,l',hp,hw.imp fun {a b} iO=>by unfold ltOf at iO;rw[decide_eq_false_iff_not,iR] at iO;exact iO,dW⟩
theorem Hu{h0 h:Heap}{L:List It}(hs:St h0 h L)(k:Nat){s:Sl}{l:List Ed}(hk:L[k]?=some (.sl s 67 6 (l.map Ed.cs)))(hm:l.length<=1048576):
  Fn Pz 128 #[.slice s.a s.n s.c,.func (.func 129) #[] #[]] h fun v h'=>v=.tuple ⟨[]⟩/\∃l':List Ed,l'.Perm l/\l'.Pairwise (fun a b=>¬acLt b.act a.act)/\St h0 h' (L.set k (.sl s 67 6 (l'.map Ed.cs))):=by
 refine Fn.mono (nu Tryz.CX 6 67 Tryz.isAgg67 Tryz.sizeOf67 Ed.cs (fun _=>rfl) (fun x v hv=>by simp[Ed.cs] at hv;rcases hv with rfl | rfl | rfl | rfl | rfl | rfl<;>rfl) oo QZ 129 (enters_of Tryz.func129 (by kernel_rfl) rfl) (fun x y h=>@M.Jh fH x y h) hs k hk (by omega) (by omega)) ?_;rintro v h' ⟨rfl,l',hp,hw,dW⟩;exact⟨rfl,l',hp,hw.imp fun {a b} iO=>by unfold ltOf oo at iO;rw[decide_eq_false_iff_not,kT] at iO;exact iO,dW⟩
end Go.VC
end

section
namespace Go.VC
open Go.Proofs Go.LexS
structure Hd (h:Heap) (b:Nat) (g:Gl) (role:Int) (ho:Sl) (os:Nat->Sl):Prop where
 at_:a8 h ⟨b,0,none⟩ (g.cs++[.int .i64 role,.slice ho.a ho.n ho.c])
 gi:GI h g
 ro:Rw h 1 ho ((List.range g.n.toNat).map fun i=>fB (os i))
 rs:∀i,i<g.n.toNat->Rw h 1 (os i) ((aK (ao g.es (i:Nat))).map a6)
theorem Hd.ext{h h':Heap}{b:Nat}{g:Gl}{role:Int}{ho:Sl}{os:Nat->Sl}(hA:Hd h b g role ho os)(E:Ext h h'):Hd h' b g role ho os:=
 ⟨fj E hA.at_,hA.gi.ext E,hA.ro.ext E,fun i hi=>(hA.rs i hi).ext E⟩
theorem CL.perm{es:List Ed}{role:Int}{n:Nat}{l:List Int}{D:List Bool}{T T':List Int}(h:CL es role n l D T)(hp:T.Perm T'):CL es role n l D T':=
 ⟨h.len,by rw[<-hp.length_eq];exact h.Cw,fun v=>hp.mem_iff.symm.trans (h.mem v),fun v hv=>h.r v (hp.mem_iff.2 hv)⟩
def xM(es:List Ed)(role:Int)(k:Nat):Option Ev:=(es[k]?).bind (bm role)
theorem ES{α β:Type}(f:α->Option β)(es:List α):es.filterMap f=(List.range es.length).filterMap fun i=>(es[i]?).bind f:=by
 have key:∀n,n<=es.length->(es.take n).filterMap f=(List.range n).filterMap fun i=>(es[i]?).bind f:=by
  intro n
  induction n with
  | zero=>intro _;simp
  | succ n ih=>
   intro hn;have hx:=Yi (l:=es) (i:=n) (by omega);rw[List.range_succ,List.filterMap_append,<-ih (by omega),aj hx,List.filterMap_append];congr 1;simp only[List.filterMap_cons,List.filterMap_nil,hx,Option.bind_some]
 have:=key es.length (aY _)
 rwa [xW] at this
theorem uZ{α β:Type}{f g:α->Option β}:∀ {l:List α},(∀x∈l,f x=g x)->l.filterMap f=l.filterMap g
 | [],_=>rfl
 | a::l,h=>by rw[List.filterMap_cons,List.filterMap_cons,h a (by simp),uZ fun x hx=>h x (Yn _ hx)]
theorem WG(es:List Ed)(role:Int)(n:Nat):(ao es (n:Nat)).filterMap (xM es role)=(gB es role n).map (·.x):=by
 unfold ao gB;rw[List.filterMap_filter,List.map_filterMap,ES _ es];refine uZ fun i hi=>?_;unfold dD xM;have hx:=Yi (l:=es) (i:=i) (by simpa using hi);rw[hx];simp only[Option.bind_some];by_cases h:(es[i]'(by simpa using hi)).f=(n:Int)
 .simp only[h,decide_true,if_true,Option.map_map];cases bm role _<;>rfl
 .simp only[h,decide_false,if_false,Bool.false_eq_true,Option.map_none]
def ML(es:List Ed)(role v:Int):List Ev:=(gB es role v.toNat).map (·.x)
structure FI (g:Gl) (role s:Int) (D:List Bool) (P T:List Int) (E:List Ev):Prop where
 cl:CL g.es role g.n.toNat [s] D (P++T)
 nd:(P++T).Nodup
 q:∀v∈P,∀b∈nD g.es role v.toNat,b∈P++T
 e:E=P.flatMap (ML g.es role)
 s:s∈P++T
structure FJ (g:Gl) (role s:Int) (v:Int) (j:Nat) (D:List Bool) (P T:List Int) (E:List Ev):Prop where
 cl:CL g.es role g.n.toNat [s] D (P++v::T)
 nd:(P++v::T).Nodup
 q:∀w∈P,∀b∈nD g.es role w.toNat,b∈P++v::T
 qj:∀k∈(ao g.es v).take j,∀x,g.es[k]?=some x->bm role x=none->x.t∈P++v::T
 e:E=P.flatMap (ML g.es role)++((ao g.es v).take j).filterMap (xM g.es role)
 s:s∈P++v::T
theorem FI.pop{g:Gl}{role s v:Int}{D:List Bool}{P T:List Int}{E:List Ev}(h:FI g role s D P (T++[v]) E):FJ g role s v 0 D P T E:=by
 have hp:(P++(T++[v])).Perm (P++v::T):=List.Perm.append_left P List.perm_append_comm;exact⟨h.cl.perm hp,hp.nodup_iff.1 h.nd,fun w hw b hb=>hp.mem_iff.1 (h.q w hw b hb),fun k hk=>by simp at hk,by rw[h.e];simp,hp.mem_iff.1 h.s⟩
theorem FJ.fin{g:Gl}{role s v:Int}{D:List Bool}{P T:List Int}{E:List Ev}{j:Nat}(h:FJ g role s v j D P T E)(h0:0<=v)(hj:(ao g.es v).length<=j):FI g role s D (P++[v]) T E:=by
 have hp:P++v::T=P++[v]++T:=by simp
 obtain⟨n,rfl⟩:∃n:Nat,v=n:=⟨v.toNat,by omega⟩;refine⟨hp ▸ h.cl,hp ▸ h.nd,fun w hw b hb=>?_,?_,hp ▸ h.s⟩
 .rw[<-hp];rcases Yk.1 hw with hw | hw
  .exact h.q w hw b hb
  .rw[Ye] at hw;subst hw;obtain⟨x,hx,hv,hf,rfl⟩:=nC.1 hb;obtain⟨k,hk⟩:=Yf.1 hx;exact h.qj k (by rw[Yj hj];exact az.2 ⟨x,hk,by omega⟩) x hk hv
 .rw[h.e,Yj hj,WG,List.flatMap_append];unfold ML;simp
theorem FJ.vis{g:Gl}{role s v:Int}{D:List Bool}{P T:List Int}{E:List Ev}{j k:Nat}{x:Ed}{e:Ev}(h:FJ g role s v j D P T E)(hk:(ao g.es v)[j]?=some k)(hx:g.es[k]?=some x)(hv:bm role x=some e):FJ g role s v (j+1) D P T (E++[e]):=by
 refine⟨h.cl,h.nd,h.q,fun i hi y hy hn=>?_,?_,h.s⟩
 .rw[aj hk,Yk,Ye] at hi;rcases hi with hi | rfl
  .exact h.qj i hi y hy hn
  .rw[hx] at hy;cases hy;rw[hv] at hn;cases hn
 .rw[aj hk,List.filterMap_append,<-Yz,<-h.e];simp[xM,hx,hv]
theorem FJ.v8{g:Gl}{role s v:Int}{D:List Bool}{P T:List Int}{E:List Ev}{j k:Nat}{x:Ed}(h:FJ g role s v j D P T E)(hk:(ao g.es v)[j]?=some k)(hx:g.es[k]?=some x)(hv:bm role x=none)(h0:0<=x.t)(hd:D[x.t.toNat]?=some true):FJ g role s v (j+1) D P T E:=by
 refine⟨h.cl,h.nd,h.q,fun i hi y hy hn=>?_,?_,h.s⟩
 .rw[aj hk,Yk,Ye] at hi;rcases hi with hi | rfl
  .exact h.qj i hi y hy hn
  .rw[hx] at hy;cases hy;exact (h.cl.mem _).2 ⟨h0,hd⟩
 .rw[aj hk,List.filterMap_append,<-Yz,<-h.e];simp[xM,hx,hv]
theorem FJ.new{g:Gl}{role s v:Int}{D:List Bool}{P T:List Int}{E:List Ev}{j k:Nat}{x:Ed}(h:FJ g role s v j D P T E)(hk:(ao g.es v)[j]?=some k)(hx:g.es[k]?=some x)(hv:bm role x=none)(h0:0<=x.t)(hd:D[x.t.toNat]?=some false):FJ g role s v (j+1) (D.set x.t.toNat true) P (T++[x.t]) E:=by
 have Ry:Qr g.es role [s] v:=h.cl.r v (by simp);have VL:=az.1 (Yb hk);obtain⟨x',rE,hf⟩:=VL;rw[hx] at rE;cases rE;have ew:=h.cl.push h0 hd (.step Ry ⟨x,Yb hx,hv,hf,rfl⟩);have hp:P++v::T++[x.t]=P++v::(T++[x.t]):=by simp
 rw[hp] at ew;have fQ:x.t∉P++v::T:=fun hm=>by have:=((h.cl.mem _).1 hm).2;rw[hd] at this;cases this
 refine⟨ew,?_,fun w hw b hb=>?_,fun i hi y hy hn=>?_,?_,?_⟩
 .rw[<-hp,List.nodup_append];exact⟨h.nd,by simp,fun a ha c hc e=>by rw[Ye] at hc;subst hc;subst e;exact fQ ha⟩
 .rw[<-hp];exact List.mem_append_left _ (h.q w hw b hb)
 .rw[<-hp];rw[aj hk,Yk,Ye] at hi;rcases hi with hi | rfl
  .exact List.mem_append_left _ (h.qj i hi y hy hn)
  .rw[hx] at hy;cases hy;simp
 .rw[aj hk,List.filterMap_append,<-Yz,<-h.e];simp[xM,hx,hv]
 .rw[<-hp];exact List.mem_append_left _ h.s
theorem vd{es:List Ed}{role:Int}{P:List Int}(hP:P.Nodup)(h0:∀v∈P,0<=v):(P.flatMap (ML es role)).length<=es.length:=by
 have h1:=pM es role (P.map Int.toNat) (by
  rw[List.Nodup,List.pairwise_map];refine hP.imp_of_mem fun {a b} ha hb iO e=>iO ?_;have:=h0 a ha;have:=h0 b hb;omega)
 rw[List.flatMap_map] at h1;have h2:∀P:List Int,(P.flatMap (ML es role)).length=(P.flatMap fun v=>gB es role v.toNat).length:=by
  intro P
  induction P with
  | nil=>rfl
  | cons a P ih=>rw[List.flatMap_cons,List.flatMap_cons,Yh,Yh,ih];unfold ML;rw[Yc]
 rw[h2];exact h1
theorem FJ.len{g:Gl}{role s v:Int}{D:List Bool}{P T:List Int}{E:List Ev}{j:Nat}(h:FJ g role s v j D P T E):E.length<=2*g.es.length:=by
 rw[h.e,Yh];have h1:=vd (es:=g.es) (role:=role) (P:=P) (h.nd.sublist (List.sublist_append_left _ _)) fun v hv=>((h.cl.mem v).1 (by simp[hv])).1;have h2:(((ao g.es v).take j).filterMap (xM g.es role)).length<=(ao g.es v).length:=mQ (List.length_filterMap_le _ _) (by rw[Yu];omega);have h3:=cX g.es v;omega
theorem FI.fin{g:Gl}{role s:Int}{D:List Bool}{P:List Int}{E:List Ev}(h:FI g role s D P [] E)(hV:ae g)(h0:0<=s)(h1:s<g.n):(∀v,v∈P ↔ Qr g.es role [s] v)/\gS E=aH g role s:=by
 have hc:=h.cl;rw[Yw] at hc;have hq:∀v,v∈P ↔ Qr g.es role [s] v:=hc.end_ (fun x hx=>by rw[Ye] at hx;subst hx;have:=h.s;rwa [Yw] at this) fun v hv b hb=>by have:=h.q v hv b hb;rwa [Yw] at this
 refine⟨hq,jC _ _ (cT _) (cT _) fun x=>?_⟩;unfold aH zz;rw[iz,iz,h.e];unfold MM ML;rw[List.mem_flatMap,List.mem_flatMap];have hN:=hV.num.n;have hl:∀x∈[s],0<=x/\x<g.n:=fun x hx=>by rw[Ye] at hx;omega
 constructor
 .rintro⟨v,hv,hx⟩;have hb:=((hq v).1 hv).lt hV hl;refine⟨v.toNat,ez.2 ⟨by omega,fh.2 ?_⟩,hx⟩;rw[Int.toNat_of_nonneg hb.1];exact (hq v).1 hv
 .rintro⟨n,hn,hx⟩;exact⟨(n:Int),(hq _).2 (fh.1 (ez.1 hn).2),hx⟩
theorem NA:cn Pz 193 188 3 24=true:=by kernel_rfl
def G6(fb ib:Nat)(td fs:Sl)(D:List Bool)(T:List Int)(E:List Ev)(bl:Bool)(R:List It):List It:=
 .sl td 3 1 (T.map a6) :: .af fb [.slice fs.a fs.n fs.c,.bool bl] 195 :: .sl fs 188 3 (E.map Ev.cs) :: .af ib (D.map Value.bool) 4::R
theorem qz{b:Nat}{g:Gl}{role:Int}{ho:Sl}{os:Nat->Sl}{s v:Int}{h0 fR h4 h1:Heap}{R:List It}{td fs:Sl}{bl:Bool}{D:List Bool}{P T:List Int}{E:List Ev}{m9:Nat}{I7:Sl->Heap->Nat->Prop}
  (hA:Hd h0 b g role ho os) (hV:ae g) (hv0:0<=v) (hv1:v<g.n) (htd:0<td.n) (Bq:td.n<=4096)
  (hs:St h0 fR (G6 h4.size h1.size ⟨bg td.a (Int.toNat 0) td.c 1,Int.toNat ((td.n-1:Nat):Int)-Int.toNat 0,td.c-Int.toNat 0⟩ fs D T E bl R)) (hJ:FJ g role s v 0 D P T E)
  (Ze:∀(CQ BL:Sl) (D':List Bool) (T':List Int) (E':List Ev) (h':Heap),St h0 h' (G6 h4.size h1.size CQ BL D' T' E' bl R)->FJ g role s v (ao g.es v).length D' P T' E'->∃m,m<m9/\I7 CQ h' m) :
  Ao fR ⟨b,0,none⟩ v td h4 g.n h1 m9 I7:=by
 unfold Ao;have hE:=hV.num.e;have hN:=hV.num.n;have hM:=hV.num.m;rw[show IntKind.wrap .i64 ((td.n:Int)-1)=((td.n-1:Nat):Int) by rw[aZ (by omega) (by omega)];omega];have Lo:((v.toNat:Nat):Int)=v:=Int.toNat_of_nonneg hv0;refine⟨ho,(hA.ext hs.ext).at_.nth 9 rfl,?_⟩;refine (hA.ro.ext hs.ext).aF (by omega) (by have:=hA.ro.ln;rw[mG] at this;omega) fun b18 o19 d gd t=>?_;obtain⟨rfl,_⟩:=qX gd;refine⟨os v.toNat,t.hd,?_⟩;have dq:=hA.rs v.toNat (by omega);rw[Lo] at dq;have uG:=dq.ln;rw[show (aK (ao g.es v)).length=(ao g.es v).length from Yc _] at uG;have we:=cX g.es v;refine⟨fun CQ x h' m=>∃(j:Nat) (BL:Sl) (D':List Bool) (T':List Int) (E':List Ev),x=j/\m=(os v.toNat).n-j/\j<=(os v.toNat).n/\St h0 h' (G6 h4.size h1.size CQ BL D' T' E' bl R)/\FJ g role s v j D' P T' E',⟨_,0,fs,D,T,E,rfl,rfl,by omega,hs,hJ⟩,?_⟩;clear hs hJ;rintro-CQ _ G4 m ⟨j,BL,D',T',E',rfl,rfl,hj,hs,hJ⟩;have hle:=hJ.cl.le;have ZH:=hJ.cl.len;have hEl:=hJ.len;have zd:=hs.len 0 (s:=CQ) (e:=3) (n:=1) (rows:=T'.map a6) rfl (by omega);have ie:=hs.len 2 (s:=BL) (e:=188) (n:=3) (rows:=E'.map Ev.cs) rfl (by omega);rw[Yc] at zd ie;rw[Yh,mD] at hle;refine aQ (fun c=>?_) (fun c=>?_)
 .refine (dq.ext hs.ext).aF (by omega) (by omega) fun b27 o28 d gd t=>?_;replace gd:(aK (ao g.es v))[j]?=some d:=gd;obtain⟨k,hk,rfl⟩:∃k:Nat,(ao g.es v)[j]?=some k/\d=(k:Int):=by
   unfold aK at gd;rw[Yd] at gd;obtain⟨k,hk,e⟩:=zL.1 gd;exact⟨k,hk,e.symm⟩
  obtain⟨x0,jr,sQ⟩:=az.1 (Yb hk);have rH:=(Ya.1 jr).1;refine⟨_,t.hd,g.he,(hA.ext hs.ext).at_.nth 6 rfl,?_⟩;have qk:=hA.gi.e.ln;refine (hA.gi.e.rw.ext hs.ext).aF (by omega) (by omega) fun b31 o32 x gx t2=>?_;replace gx:g.es[k]?=some x:=gx;rw[jr] at gx;cases gx;refine⟨x0.f,x0.a,x0.b,x0.l,x0.t,x0.ag,t2,?_⟩;have Cl:=hE x0 (Yb jr);unfold gN at Cl;refine hs.ai (vs:=x0.cs) rfl rfl fun uU hs=>?_;refine⟨x0.f,x0.a,x0.b,x0.l,x0.t,x0.ag,hs.at 0 rfl (o:=0) (n:=6) rfl,?_⟩;refine (km ⟨b,0,none⟩ role x0 uU ((hA.ext hs.ext).at_.nth 8 rfl)).mono ?_;rintro _ EF ⟨E52,rfl⟩;replace hs:=hs.step E52;cases hvis:bm role x0 with
  | some e=>
   refine⟨e.send,e.peer,e.label,true,rfl,?_⟩;refine hs.ai (vs:=e.cs) rfl rfl fun h54 hs=>?_;refine oU rfl ?_;refine⟨BL,hs.rd 3 rfl (i:=0) rfl,e.send,e.peer,e.label,hs.at 0 rfl (o:=0) (n:=3) rfl,?_⟩;refine hs.app 4 rfl NA (m:=1) [e.cs] rfl rfl (fun r hr=>by rw[Ye] at hr;rw[hr];rfl) rfl (by omega) (by simp only[maxLen];omega) fun Og Mn n60 hs=>?_;refine hs.put 3 rfl (o:=0) (vs:=[.slice Og.a Og.n Og.c]) rfl (show 1<=2 by decide) fun h62 hs=>?_;refine⟨_,by omega,j+1,Og,D',T',E'++[e],by rw[aZ (by omega) (by omega)];omega,rfl,by omega,?_,hJ.vis hk jr hvis⟩;have hs:=hs.drop 2;unfold G6;rw[Ym];exact hs
  | none=>
   refine⟨false,0,0,false,rfl,?_⟩;refine hs.ai (vs:=[.bool false,.int .i64 0,.int .i64 0]) rfl rfl fun h54 hs=>?_;refine iX rfl ?_;obtain⟨y,hy⟩:=get_some (l:=D') (i:=x0.t.toNat) (by omega);have e0:0+Int.toNat x0.t*1=x0.t.toNat:=by omega
   refine⟨x0.t,hs.rd 1 rfl (i:=4) rfl,⟨by omega,by omega⟩,?_⟩;rw[e0];refine⟨y,hs.rd 5 rfl (by rw[Ia,hy];rfl),?_⟩;refine aa (fun c2=>?_) (fun c2=>?_)
   .have hyf:y=false:=bF c2;subst hyf;refine⟨x0.t,hs.rd 1 rfl (i:=4) rfl,⟨by omega,by omega⟩,?_⟩;rw[e0];refine hs.put 5 rfl (o:=x0.t.toNat) (vs:=[.bool true]) rfl (by rw[Yc,Yv];omega) fun ZM hs=>?_;refine⟨x0.t,hs.rd 1 rfl (i:=4) rfl,?_⟩;refine hs.app 2 rfl jv (m:=1) [[.int .i64 x0.t]] rfl rfl (by simp) rfl (by omega) (by simp only[maxLen];omega) fun s70 Kx n70 hs=>?_;refine⟨_,by omega,j+1,BL,D'.set x0.t.toNat true,T'++[x0.t],E',by rw[aZ (by omega) (by omega)];omega,rfl,by omega,?_,hJ.new hk jr hvis (by omega) hy⟩;have hs:=hs.drop 2;unfold G6;rw[Ym,<-fW _ (by omega)];exact hs
   .have X5:y=true:=bT c2;subst X5;refine⟨_,by omega,j+1,BL,D',T',E',by rw[aZ (by omega) (by omega)];omega,rfl,by omega,hs.drop 2,hJ.v8 hk jr hvis (by omega) hy⟩
 .refine Ze CQ BL D' T' E' G4 hs ?_;rw[show (ao g.es v).length=j by omega];exact hJ
theorem xJ(b:Nat)(g:Gl)(role:Int)(ho:Sl)(os:Nat->Sl)(s:Nat)(h:Heap)(hA:Hd h b g role ho os)(hV:ae g)(jW:(s:Int)<g.n):
  Fn Pz 107 #[.pointer (some ⟨b,0,none⟩),.int .i64 (s:Nat)] h fun v h'=>∃r:Sl,v=.agg ⟨[.slice r.a r.n r.c,.bool (bP g role s)]⟩/\St h h' [.sl r 188 3 ((aH g role s).map Ev.cs)]:=by
 apply QM ⟨b,0,none⟩ (s:Nat);unfold U7;have hN:=hV.num.n;have hM:=hV.num.m;refine (St.refl h).aq fun h1 hs=>?_;refine⟨g.n,(hA.ext hs.ext).at_.nth 3 rfl,by omega,?_⟩;rw[JZ];refine hs.aq fun h3 hs=>?_;have e0:0+Int.toNat ((s:Nat):Int)*1=s:=by omega
 refine⟨⟨by omega,by omega⟩,?_⟩;rw[e0];refine hs.put 0 rfl (o:=s) (vs:=[.bool true]) rfl (by rw[Yc,Yg,Yv];omega) fun h4 hs=>?_;refine hs.aq fun h5 hs=>?_;refine hs.aq fun h6 hs=>?_;have pt:=hs.fx 1 1 ([((s:Nat):Int)].map a6) rfl (cy _) rfl (by decide);have pt:=pt.cN 188 3;have ew:CL g.es role g.n.toNat [(s:Int)] ((List.replicate g.n.toNat false).set s true) ([]++[(s:Int)]):=
  (CL.start g.es role g.n.toNat [(s:Int)]).push (b:=(s:Int)) (by omega) (by rw[Ys,List.getElem?_replicate,if_pos (by omega)]) (.base (by simp))
 have hl:∀x∈[(s:Int)],0<=x/\x<g.n:=fun x hx=>by rw[Ye] at hx;omega
 refine⟨fun td h' m=>∃(fs:Sl) (D:List Bool) (P T:List Int) (E:List Ev),m=g.n.toNat-P.length/\St h h' (G6 h4.size h1.size td fs D T E (decide (g.e∈P)) [.af h.size [.slice none 0 0,.bool false] 195])/\FI g role s D P T E,⟨_,⟨none,0,0⟩,(List.replicate g.n.toNat false).set s true,[],[(s:Int)],[],rfl,?_,⟨ew,by simp,fun v hv=>(by cases hv),rfl,by simp⟩⟩,?_⟩
 .refine pt.perm ?_;unfold G6;rw[<-fW _ (by rw[Yg];omega)];exact (List.Perm.swap _ _ _).trans (List.Perm.cons _ (List.Perm.swap _ _ _))
 clear hs pt ew;rintro-td xG m ⟨fs,D,P,T,E,rfl,hs,hI⟩;have hle:=hI.cl.le;rw[Yh] at hle;have zd:=hs.len 0 (s:=td) (e:=3) (n:=1) (rows:=T.map a6) rfl (by omega);rw[Yc] at zd;refine aQ (fun c=>?_) (fun c=>?_)
 .rw[show IntKind.wrap .i64 ((td.n:Int)-1)=((td.n-1:Nat):Int) by rw[aZ (by omega) (by omega)];omega];refine (hs.rows 0 rfl (by omega)).aF (by omega) (by omega) fun b12 o13 v gv t=>?_;replace gv:T[td.n-1]?=some v:=gv;have hT:T=T.take (td.n-1)++[v]:=by rw[<-aj gv,Yj (by omega)]
  refine⟨v,t.hd,⟨by omega,by omega,by omega⟩,?_⟩;have hJ:FJ g role s v 0 D P (T.take (td.n-1)) E:=by rw[hT] at hI;exact hI.pop
  have Ry:=(hJ.cl.mem v).1 (by simp);have VE:v<g.n:=((hJ.cl.r v (by simp)).lt hV hl).2;refine⟨_,hs.rd 1 rfl (i:=1) rfl,?_⟩;have fin:∀(bl:Bool),bl=decide (g.e∈P++[v])->∀(CQ BL:Sl) (D':List Bool) (T':List Int) (E':List Ev) (h':Heap),St h h' (G6 h4.size h1.size CQ BL D' T' E' bl [.af h.size [.slice none 0 0,.bool false] 195])->FJ g role s v (ao g.es v).length D' P T' E' ->
    ∃m,m<g.n.toNat-P.length/\∃(fs:Sl) (D:List Bool) (P T:List Int) (E:List Ev),m=g.n.toNat-P.length/\St h h' (G6 h4.size h1.size CQ fs D T E (decide (g.e∈P)) [.af h.size [.slice none 0 0,.bool false] 195])/\FI g role s D P T E:=fun bl BD CQ BL D' T' E' h' dW hJ'=>by
   subst BD;refine⟨_,?_,BL,D',P++[v],T',E',rfl,dW,hJ'.fin Ry.1 (aY _)⟩;rw[Yh,Yv];omega
  refine aa (fun c2=>?_) (fun c2=>?_)
  .refine hs.put 1 rfl (o:=1) (vs:=[.bool true]) rfl (show 2<=2 by decide) fun fR hs=>?_;refine qz hA hV Ry.1 VE (by omega) (by omega) (bl:=true) (fs:=fs) (D:=D) (P:=P) (T:=T.take (td.n-1)) (E:=E) ?_ hJ (fin true ?_)
   .have h9:=hs.cut 0 rfl (by omega) (td.n-1) (by omega);rw[<-List.map_take] at h9;rw[show bg td.a (Int.toNat 0) td.c 1=td.a from cC _ _ _];exact h9
   .rw[decide_eq_true];exact List.mem_append_left _ (bM c2)
  .refine⟨g.e,(hA.ext hs.ext).at_.nth 5 rfl,?_⟩;refine hs.put 1 rfl (o:=1) (vs:=[.bool (v==g.e)]) rfl (show 2<=2 by decide) fun fR hs=>?_;refine qz hA hV Ry.1 VE (by omega) (by omega) (bl:=v==g.e) (fs:=fs) (D:=D) (P:=P) (T:=T.take (td.n-1)) (E:=E) ?_ hJ (fin _ ?_)
   .have h9:=hs.cut 0 rfl (by omega) (td.n-1) (by omega);rw[<-List.map_take] at h9;rw[show bg td.a (Int.toNat 0) td.c 1=td.a from cC _ _ _];exact h9
   .have h8:¬g.e∈P:=eB c2;rw[Bool.eq_iff_iff,decide_eq_true_eq,Yk,Ye,beq_iff_eq];exact⟨fun e=>.inr e.symm,fun h=>h.elim (fun h=>absurd h h8) Eq.symm⟩
 .have hT:T=[]:=List.length_eq_zero_iff.1 (by omega);subst hT;have ie:=hs.len 2 (s:=fs) (e:=188) (n:=3) (rows:=E.map Ev.cs) rfl (by omega);have hEl:E.length<=g.es.length:=by
   rw[hI.e];exact vd (hI.nd.sublist (List.sublist_append_left _ _)) fun v hv=>((hI.cl.mem v).1 (by simp[hv])).1
  refine⟨fs,hs.rd 1 rfl (i:=0) rfl,?_⟩;refine (Hx hs 2 rfl (by omega)).mono ?_;rintro _ IQ ⟨rfl,E',hp,hw,hs⟩;refine⟨rfl,fs,hs.rd 1 rfl (i:=0) rfl,?_⟩;refine (xQ hs 2 rfl (by rw[hp.length_eq];omega)).mono ?_;rintro _ EK ⟨r,rfl,hs⟩;refine⟨r,rfl,?_⟩;refine hs.put 1 rfl (o:=0) (vs:=[.slice r.a r.n r.c]) rfl (show 1<=2 by decide) fun Z4 hs=>?_;refine⟨r,_,hs.at 1 rfl (o:=0) (n:=2) rfl,?_⟩;refine hs.put 4 rfl (o:=0) (vs:=[.slice r.a r.n r.c,.bool (decide (g.e∈P))]) rfl (show 2<=2 by decide) fun SM hs=>?_;refine⟨r,_,hs.at 4 rfl (o:=0) (n:=2) rfl,r,?_,?_⟩
  .obtain⟨hq,_⟩:=hI.fin hV (by omega) jW;have hb:decide (g.e∈P)=bP g role s:=by
    unfold bP;rw[Bool.eq_iff_iff,decide_eq_true_eq,fh,hq,Int.toNat_of_nonneg (by omega)]
   rw[hb]
  .obtain⟨_,he⟩:=hI.fin hV (by omega) jW;rw[pH hp hw,he] at hs;exact hs.sub (L':=[_]) (by
    refine List.Sublist.trans ?_ (List.drop_sublist 2 _);exact List.singleton_sublist.2 (by simp[G6]))
end Go.VC
end

section
namespace Go.VC
open Go.Proofs Go.LexS Go.RowKit Go.Lib
theorem Ch{P:Program}{t u e:TypeId}{size bytes:Nat}{kn:IntKind}(hT:cn P t e size bytes=true)(xq:P.underlying u=some (.int kn)){h:Heap}{n:Nat}{m:Int}(hm:m=n)(h0:0<n)(cz:n*bytes<=140737488355328)(qm:n<=maxLen)
  {K:Sl->Heap->Prop} (hK:∀(r:Sl) (h':Heap) (xs:List Value),r.n=n->Ext h h'->b9 h' h.size e size r xs->K r h'):App P t u (.slice none 0 0) (.int .i64 m) h K:=by
 intro ty w hw;subst hw;subst hm;unfold cn at hT;simp only[Yt] at hT;obtain⟨⟨⟨⟨⟨⟨⟨hs,he⟩,ht⟩,hz⟩,GX⟩,eK⟩,zo⟩,fq⟩:=hT;have hu:=cq hs;rw[dK he] at hu;obtain⟨i,hi⟩:=fJ ht;obtain⟨z,nX⟩:=Option.isSome_iff_exists.1 hz;rw[hi] at nX;simp only[Option.bind_some] at nX;have e1:i.size=size:=by have:=dK eK;simpa [aO,hi] using this
 have e2:i.bytes=bytes:=by have:=dK zo;simpa [vv,hi] using this
 have e3:z.cells.size=size:=by have:=dK GX;simpa [bL,hi,nX] using this
 have hp:0<size:=by simpa using fq
 have Y2:((0+n:Nat):Int)<=9223372036854775807:=by simp only[maxLen] at qm;omega
 have hr:=Lib.run_append_grow_zeros w t u ty e i z .i64 kn hu xq hi nX none 0 0 [] (run_firstCells_none w.drew i.size 0 0 0) n h0 (by omega) (by omega) Y2
  (by rw[e2];omega) (growslice_fits (by omega) (by rw[Nat.zero_add,e2];exact cz))
 rw[Nat.zero_add] at hr;have Kl:=grownCap_ge w n 0 e;have hle:=grownCap_le_maxLen w n 0 e qm;refine⟨_,_,hr,⟨⟨some ⟨w.heap.size,0,none⟩,n,grownCap w n 0 e⟩,rfl,hK _ _ _ rfl (Ext.push _ _) ⟨?_,.inr ⟨w.heap.size,_,rfl,aY _,Array.getElem?_push_size,Kl,hle,?_,rfl⟩⟩⟩,rfl,rfl,rfl⟩
 .rw[Yu];have:(List.toArray ([]:List Value)++Builtin.zeroCells z.cells n++Builtin.zeroCells z.cells (grownCap w n 0 e-n)).toList.length=grownCap w n 0 e*size:=by
   simp only[Array.toList_append,Yh,fm,e3];rw[List.length_nil,Nat.zero_add,<-Nat.add_mul];congr 1;omega
  rw[this];exact Nat.min_eq_left (Nat.mul_le_mul_right _ Kl)
 .show (List.toArray ([]:List Value)++Builtin.zeroCells z.cells n++Builtin.zeroCells z.cells (grownCap w n 0 e-n)).toList.length=grownCap w n 0 e*size;simp only[Array.toList_append,Yh,fm,e3];rw[List.length_nil,Nat.zero_add,<-Nat.add_mul];congr 1;omega
structure aV where
 x:Int
 y:Int
 s:Int
 t:Int
 deriving DecidableEq
def aV.cs(m:aV):List Value:=[.int .i64 m.x,.int .i64 m.y,.int .i64 m.s,.int .i64 m.t]
theorem KV(L:List aV):∀r∈L.map aV.cs,r.length=4:=fun r hr=>by obtain⟨x,_,rfl⟩:=Yp.1 hr;rfl
theorem j8:cn Pz 197 200 4 32=true:=by kernel_rfl
theorem Xu:Pz.underlying 3=some (.int .i64):=by kernel_rfl
theorem IT(n:Nat)(h:Heap)(hn:n<=1048576):Fn Pz 232 #[.slice none 0 0,.int .i64 (n:Nat)] h fun v h'=>∃r:Sl,v=.slice r.a r.n r.c/\St h h' [.sl r 200 4 []]:=by
 apply PQ ⟨none,0,0⟩ (n:Nat);unfold Ub;refine⟨fun h'=>h'=h,aQ (fun c=>by omega) (fun _=>rfl),?_⟩;rintro-_ rfl;have e0:IntKind.wrap .i64 (((0:Nat):Int)-((0:Nat):Int))=0:=by rw[aZ (by omega) (by omega)];omega
 have e1:IntKind.wrap .i64 ((n:Int)-IntKind.wrap .i64 (((0:Nat):Int)-((0:Nat):Int)))=n:=by rw[e0,aZ (by omega) (by omega)];omega
 show sB (decide ((IntKind.wrap .i64 ((n:Int)-IntKind.wrap .i64 (((0:Nat):Int)-((0:Nat):Int))))>0)) _ _;refine aQ (fun c=>?_) (fun c=>⟨⟨none,0,0⟩,rfl,(St.refl _).cN 200 4⟩);rw[e1] at c;refine⟨⟨by omega,by show (0:Int)<=((0:Nat):Int);omega,by show ((0:Nat):Int)<=((0:Nat):Int);omega⟩,?_⟩;refine Ch j8 Xu (n:=n) e1 (by omega) (by omega) (by simp only[maxLen];omega) fun r h' xs uG E ho=>?_;refine⟨⟨by omega,by show (0:Int)<=((0:Nat):Int);omega,by show ((0:Nat):Int)<=_;omega⟩,⟨bg r.a (Int.toNat 0) r.c 4,Int.toNat ((0:Nat):Int)-Int.toNat 0,r.c-Int.toNat 0⟩,rfl,?_⟩;have h0:(It.sl ⟨bg r.a (Int.toNat 0) r.c 4,Int.toNat ((0:Nat):Int)-Int.toNat 0,r.c-Int.toNat 0⟩ 200 4 []).ok h':=by
  rw[show bg r.a (Int.toNat 0) r.c 4=r.a from cC _ _ _];refine⟨⟨rfl,?_⟩,fun r hr=>by cases hr⟩;rcases ho.2 with ⟨ha,sS,ig⟩ | ⟨g,cur,ha,_,hh,Bv,zm,zl,_⟩
  .exact .inl ⟨ha,rfl,ig⟩
  .exact .inr ⟨g,cur,ha,Nat.zero_le _,hh,Nat.zero_le _,zm,zl,rfl⟩
 refine (St.refl _).more E h0 fun b hb=>?_;rw[show bg r.a (Int.toNat 0) r.c 4=r.a from cC _ _ _] at hb;exact (fe ho hb).2.2
theorem te{α:Type}{L:List (Sl × List α)}{i:Nat}{q:Sl × List α}(h:L[i]?=some q):((L.take (i+1)).map fun q=>q.2.length).sum=((L.take i).map fun q=>q.2.length).sum+q.2.length:=by
 rw[aj h,Ym,List.sum_append];simp
theorem lZ{α:Type}(L:List (Sl × List α))(i:Nat):((L.take i).map fun q=>q.2.length).sum<=(L.map fun q=>q.2.length).sum:=by
 conv=>rhs;rw[<-List.take_append_drop i L,Ym,List.sum_append]
 omega
theorem BV(Ls:List (Sl × List aV))(s:Sl)(h:Heap)(hr:Rw h 1 s (Ls.map fun q=>fB q.1))(hL:∀q∈Ls,RL h 4 q.1 aV.cs q.2)(hn:Ls.length<=1048576)(RB:(Ls.map fun q=>q.2.length).sum<=1048576):
  Fn Pz 187 #[.slice s.a s.n s.c] h fun v h'=>∃r:Sl,v=.slice r.a r.n r.c/\St h h' [.sl r 200 4 ((Ls.flatMap Prod.snd).map aV.cs)]:=by
 apply P4 s;unfold Un;have jU:=hr.ln;refine⟨fun z x h' m=>∃i:Nat,x=i/\m=s.n-i/\i<=s.n/\h'=h/\z=(((Ls.take i).map fun q=>q.2.length).sum:Nat),⟨_,0,rfl,rfl,by omega,rfl,rfl⟩,?_⟩;rintro-_ _ h6 m ⟨i,rfl,rfl,hi,rfl,rfl⟩;refine aQ (fun c=>?_) (fun c=>?_)
 .refine hr.aF (by omega) (by omega) fun b o q gq t=>?_;replace gq:Ls[i]?=some q:=gq;have hq:=hL q (Yb gq);have py:=hq.ln;have h1:=te gq;have h2:=lZ Ls (i+1);refine⟨q.1,t.hd,?_⟩;have e:IntKind.wrap .i64 (((((Ls.take i).map fun q=>q.2.length).sum:Nat):Int)+(q.1.n:Int))=(((Ls.take (i+1)).map fun q=>q.2.length).sum:Nat):=by rw[aZ (by omega) (by omega)];omega
  rw[e];refine aQ (fun c2=>by omega) (fun _=>⟨_,by omega,i+1,by rw[aZ (by omega) (by omega)];omega,rfl,by omega,rfl,rfl⟩)
 .have Sh:Ls.take i=Ls:=Yj (by omega);rw[Sh];refine (IT _ h6 RB).mono ?_;rintro _ EL ⟨r,rfl,hs⟩;refine⟨r,rfl,?_⟩;refine gP (n:=s.n) hs (fun i rows=>rows=((Ls.take i).flatMap Prod.snd).map aV.cs) rfl ?_;clear hs;rintro-i2 ns ZU rows Zb hs rfl;have uP:=hs.len 0 (s:=ns) (e:=200) (n:=4) rfl (by omega);rw[Yc,List.length_flatMap] at uP;refine aQ (fun c2=>?_) (fun c2=>?_)
  .refine (hr.ext hs.ext).aF (by omega) (by omega) fun b o q gq t=>?_;replace gq:Ls[i2]?=some q:=gq;have hq:=hL q (Yb gq);have py:=hq.ln;have h1:=te gq;have h2:=lZ Ls (i2+1);refine⟨q.1,t.hd,?_⟩;refine hs.oz 0 rfl j8 (hq.rw.ext hs.ext) (KV _) hq.nil (by
    rw[List.all_eq_true];intro v hv;obtain⟨r,hr,hv⟩:=List.mem_flatten.1 hv;obtain⟨x,_,rfl⟩:=Yp.1 hr;simp[aV.cs] at hv;rcases hv with rfl | rfl | rfl | rfl<;>rfl) (by omega) (by simp only[maxLen];omega) fun s23 EI n23 hs=>?_
   refine Ha.next (by omega) (by omega) ⟨_,hs,?_⟩;rw[aj gq,List.flatMap_append,Ym];simp
  .rw[Yj (by omega)] at hs;exact⟨ns,rfl,hs⟩
def eA(es:List Ed)(k:Nat):Ed:=es.getD k ⟨0,0,0,0,0,false⟩
theorem aI{es:List Ed}{k:Nat}{x:Ed}(h:es[k]?=some x):eA es k=x:=by unfold eA;rw[Yo,h];rfl
def v7(es:List Ed)(role:Int)(k:Nat):Bool:=(bm role (eA es k)).isNone
def p6(es:List Ed)(role:Int)(t:Nat)(l:List Nat):List aV:=(l.filter (v7 es role)).map fun i:Nat=>⟨(i:Int),-1,(eA es i).t,(t:Nat)⟩
def yX(es:List Ed)(role:Int)(s:Nat)(l:List Nat):List aV:=(l.filter (v7 es role)).map fun k:Nat=>⟨-1,(k:Int),(s:Nat),(eA es k).t⟩
def sP(es:List Ed)(role:Int)(i:Nat)(l:List Nat):List aV:=match bm role (eA es i) with
 | none=>[]
 | some a=>(l.filter fun k=>decide (bm role (eA es k)=some a)).map fun k:Nat=>⟨(i:Int),(k:Int),(eA es i).t,(eA es k).t⟩
def nP(es:List Ed)(role:Int)(l m:List Nat):List aV:=l.flatMap fun i=>sP es role i m
def bA(es:List Ed)(role:Int)(s t:Nat):List aV:=p6 es role t (ao es (s:Nat))++yX es role s (ao es (t:Nat))++nP es role (ao es (s:Nat)) (ao es (t:Nat))
theorem yV{es:List Ed}{role:Int}{t:Nat}{l:List Nat}:(p6 es role t l).length<=l.length:=by unfold p6;rw[Yc];exact List.length_filter_le _ _
theorem yW{es:List Ed}{role:Int}{t:Nat}{l:List Nat}:(yX es role t l).length<=l.length:=by unfold yX;rw[Yc];exact List.length_filter_le _ _
theorem rv{es:List Ed}{role:Int}{i:Nat}{l:List Nat}:(sP es role i l).length<=l.length:=by
 unfold sP;split
 .exact Nat.zero_le _
 .rw[Yc];exact List.length_filter_le _ _
theorem ru{es:List Ed}{role:Int}:∀ {l m:List Nat},(nP es role l m).length<=l.length*m.length
 | [],m=>by simp[nP]
 | a::l,m=>by
  have h1:=ru (es:=es) (role:=role) (l:=l) (m:=m);have h2:=rv (es:=es) (role:=role) (i:=a) (l:=m);unfold nP at h1 ⊢;rw[List.flatMap_cons,Yh,mD,Nat.succ_mul];omega
theorem ni{role:Int}{x:Ed}:bm role x=none ↔ x.a≠role/\x.b≠role:=by
 unfold bm;by_cases h1:role=x.a
 .rw[if_pos h1];simp[h1.symm]
 .rw[if_neg h1];by_cases h2:role=x.b
  .rw[if_pos h2];simp[h2.symm]
  .rw[if_neg h2];simp;exact⟨fun e=>h1 e.symm,fun e=>h2 e.symm⟩
theorem RL.wM{α:Type}{h0 h:Heap}{L:List It}(hs:St h0 h L)(k:Nat){s:Sl}{e:TypeId}{n:Nat}{cs:α->List Value}{l:List α}(hk:L[k]?=some (.sl s e n (l.map cs)))(hn:0<n)(hm:l.length<=1048576):RL h n s cs l:=
 ⟨hs.rw k hk hn,(hs.len k hk hn).2.1,(hs.len k hk hn).2.2,hm⟩
end Go.VC
end

section
namespace Go.VC
open Go.Proofs Go.LexS
theorem ub{es:List Ed}{role:Int}{t:Nat}{l:List Nat}{j k:Nat}(hk:l[j]?=some k):p6 es role t (l.take (j+1))=p6 es role t (l.take j)++(if v7 es role k then [⟨(k:Int),-1,(eA es k).t,(t:Nat)⟩] else []):=by
 unfold p6;rw[aj hk,List.filter_append,Ym];congr 1;by_cases h:v7 es role k=true
 .rw[if_pos h,List.filter_cons_of_pos h];rfl
 .rw[if_neg h,List.filter_cons_of_neg h];rfl
theorem ud{es:List Ed}{role:Int}{t:Nat}{l:List Nat}{j k:Nat}(hk:l[j]?=some k):yX es role t (l.take (j+1))=yX es role t (l.take j)++(if v7 es role k then [⟨-1,(k:Int),(t:Nat),(eA es k).t⟩] else []):=by
 unfold yX;rw[aj hk,List.filter_append,Ym];congr 1;by_cases h:v7 es role k=true
 .rw[if_pos h,List.filter_cons_of_pos h];rfl
 .rw[if_neg h,List.filter_cons_of_neg h];rfl
theorem ug{es:List Ed}{role:Int}{i:Nat}{l:List Nat}{j k:Nat}{a:Ev}(ha:bm role (eA es i)=some a)(hk:l[j]?=some k):sP es role i (l.take (j+1))=sP es role i (l.take j)++(if bm role (eA es k)=some a then [⟨(i:Int),(k:Int),(eA es i).t,(eA es k).t⟩] else []):=by
 unfold sP;rw[ha];simp only;rw[aj hk,List.filter_append,Ym];congr 1;by_cases h:bm role (eA es k)=some a
 .rw[if_pos h,List.filter_cons_of_pos (by rw[decide_eq_true h])];rfl
 .rw[if_neg h,List.filter_cons_of_neg (by rw[decide_eq_false h];decide)];rfl
theorem uf{es:List Ed}{role:Int}{l m:List Nat}{j k:Nat}(hk:l[j]?=some k):nP es role (l.take (j+1)) m=nP es role (l.take j) m++sP es role k m:=by
 unfold nP;rw[aj hk,List.flatMap_append,List.flatMap_singleton]
theorem DT{es:List Ed}{role:Int}{i:Nat}{l:List Nat}(ha:bm role (eA es i)=none):sP es role i l=[]:=by unfold sP;rw[ha]
def JX(h:Heap)(q bo:Sl)(Q B:List aV)(s t:Nat):List It:=[.sl q 200 4 (Q.map aV.cs),.sl bo 200 4 (B.map aV.cs),.af h.size [.int .i64 (s:Nat),.int .i64 (t:Nat)] 97]
theorem Bg(b:Nat)(g:Gl)(role:Int)(ho:Sl)(os:Nat->Sl)(s t:Nat)(h:Heap)(hA:Hd h b g role ho os)(hV:ae g)(jW:(s:Int)<g.n)(YE:(t:Int)<g.n):
  Fn Pz 108 #[.pointer (some ⟨b,0,none⟩),.agg ⟨[.int .i64 (s:Nat),.int .i64 (t:Nat)]⟩] h fun v h'=>∃r:Sl,v=.slice r.a r.n r.c/\St h h' [.sl r 200 4 ((bA g.es role s t).map aV.cs)]:=by
 apply QL ⟨b,0,none⟩ (s:Nat) (t:Nat);unfold U6;have hN:=hV.num.n;have hM:=hV.num.m;have RR:=hA.ro.ln;rw[mG] at RR;have qk:=hA.gi.e.ln;have Cn:=cX g.es (s:Nat);have hto:=cX g.es (t:Nat);have rs:=hA.rs s (by omega);have rt:=hA.rs t (by omega);have rsn:(os s).n=(ao g.es (s:Nat)).length:=by rw[rs.ln];exact Yc _
 have rtn:(os t).n=(ao g.es (t:Nat)).length:=by rw[rt.ln];exact Yc _
 refine (St.refl h).aq fun h3 hs=>?_;refine⟨ho,(hA.ext hs.ext).at_.nth 9 rfl,(s:Nat),hs.rd 0 rfl (i:=0) rfl,?_⟩;refine (hA.ro.ext hs.ext).aF (by omega) (by omega) fun b6 o7 d gd u=>?_;obtain rfl:s=d:=(qX gd).1;refine⟨os s,u.hd,?_⟩;have hs:=(hs.cN 200 4).cN 200 4;refine⟨fun q bo x h' m=>∃j:Nat,x=j/\m=(os s).n-j/\j<=(os s).n/\St h h' (JX h q bo (p6 g.es role t ((ao g.es (s:Nat)).take j)) (nP g.es role ((ao g.es (s:Nat)).take j) (ao g.es (t:Nat))) s t),⟨_,0,rfl,rfl,by omega,hs⟩,?_⟩;clear hs;rintro-q bo _ mq m ⟨j,rfl,rfl,hj,hs⟩;have Ei:=(hs.len 0 (s:=q) (e:=200) (n:=4) rfl (by omega)).1;have BD:=(hs.len 1 (s:=bo) (e:=200) (n:=4) rfl (by omega)).1;rw[Yc] at Ei BD;have Bu:=yV (es:=g.es) (role:=role) (t:=t) (l:=(ao g.es (s:Nat)).take j);have rL:=ru (es:=g.es) (role:=role) (l:=(ao g.es (s:Nat)).take j) (m:=ao g.es (t:Nat));have mj:((ao g.es (s:Nat)).take j).length*(ao g.es (t:Nat)).length<=400*400:=Nat.mul_le_mul (by rw[Yu];omega) (by omega);rw[Yu] at Bu;refine aQ (fun c=>?_) (fun c=>?_)
 .refine (rs.ext hs.ext).aF (by omega) (by omega) fun b16 XT d gd u=>?_;obtain⟨k,hk,rfl⟩:=bS gd;replace hk:(ao g.es (s:Nat))[j]?=some k:=hk;obtain⟨x0,jr,sQ⟩:=az.1 (Yb hk);have rH:=(Ya.1 jr).1;have jT:=aI jr;refine⟨_,u.hd,g.he,(hA.ext hs.ext).at_.nth 6 rfl,?_⟩;refine (hA.gi.e.rw.ext hs.ext).aF (by omega) (by omega) fun Wj Vv x gx u2=>?_;replace gx:g.es[k]?=some x:=gx;rw[jr] at gx;cases gx;refine⟨x0.f,x0.a,x0.b,x0.l,x0.t,x0.ag,u2,?_⟩;refine hs.ai (vs:=x0.cs) rfl rfl fun O2 hs=>?_;refine⟨x0.f,x0.a,x0.b,x0.l,x0.t,x0.ag,hs.at 0 rfl (o:=0) (n:=6) rfl,?_⟩;refine (km ⟨b,0,none⟩ role x0 O2 ((hA.ext hs.ext).at_.nth 8 rfl)).mono ?_;rintro _ Mr ⟨E41,rfl⟩;replace hs:=hs.step E41;cases hvis:bm role x0 with
  | none=>
   refine⟨false,0,0,false,rfl,?_⟩;refine hs.ai (vs:=[.bool false,.int .i64 0,.int .i64 0]) rfl rfl fun SI hs=>?_;refine oU rfl ?_;refine⟨x0.t,hs.rd 1 rfl (i:=4) rfl,(t:Nat),hs.rd 4 rfl (i:=1) rfl,?_⟩;refine hs.app 2 rfl j8 (m:=1) [aV.cs ⟨(k:Int),-1,x0.t,(t:Nat)⟩] rfl rfl (fun r hr=>by rw[Ye] at hr;rw[hr];rfl) rfl (by omega) (by simp only[maxLen];omega) fun s47 n5 n47 hs=>?_;refine⟨_,by omega,j+1,by rw[aZ (by omega) (by omega)];omega,rfl,by omega,?_⟩;have hs:=hs.drop 2;rw[ub hk,uf hk,DT (by rw[jT];exact hvis),Yw,if_pos (by unfold v7;rw[jT,hvis];rfl),jT];unfold JX;rw[Ym];exact hs
  | some e=>
   refine⟨e.send,e.peer,e.label,true,rfl,?_⟩;refine hs.ai (vs:=e.cs) rfl rfl fun SI hs=>?_;refine iX rfl ?_;refine⟨ho,(hA.ext hs.ext).at_.nth 9 rfl,(t:Nat),hs.rd 4 rfl (i:=1) rfl,?_⟩;refine (hA.ro.ext hs.ext).aF (by omega) (by omega) fun b52 o53 d gd u3=>?_;obtain rfl:t=d:=(qX gd).1;refine⟨os t,u3.hd,?_⟩;have jX:p6 g.es role t ((ao g.es (s:Nat)).take (j+1))=p6 g.es role t ((ao g.es (s:Nat)).take j):=by
    rw[ub hk,if_neg (by unfold v7;rw[jT,hvis];exact fun h9=>by cases h9),Yw]
   refine⟨fun bo x h' m=>∃j2:Nat,x=j2/\m=(os t).n-j2/\j2<=(os t).n/\St h h' (.af Mr.size e.cs 188 :: .af mq.size x0.cs 67::JX h q bo (p6 g.es role t ((ao g.es (s:Nat)).take j)) (nP g.es role ((ao g.es (s:Nat)).take j) (ao g.es (t:Nat))++sP g.es role k ((ao g.es (t:Nat)).take j2)) s t),⟨_,0,rfl,rfl,by omega,?_⟩,?_⟩
   .have:sP g.es role k ((ao g.es (t:Nat)).take 0)=[]:=List.length_eq_zero_iff.1 (by have:=rv (es:=g.es) (role:=role) (i:=k) (l:=(ao g.es (t:Nat)).take 0);rw[sX,List.length_nil] at this;rw[sX];omega);rw[this,Yw];exact hs
   clear hs;rintro-bo2 _ V6 m ⟨j2,rfl,rfl,R9,hs⟩;have Zp:=(hs.len 3 (s:=bo2) (e:=200) (n:=4) rfl (by omega)).1;rw[Yc,Yh] at Zp;have Md:=rv (es:=g.es) (role:=role) (i:=k) (l:=(ao g.es (t:Nat)).take j2);rw[Yu] at Md;refine aQ (fun c2=>?_) (fun c2=>?_)
   .refine (rt.ext hs.ext).aF (by omega) (by omega) fun b61 XP d gd u4=>?_;obtain⟨k2,dV,rfl⟩:=bS gd;replace dV:(ao g.es (t:Nat))[j2]?=some k2:=dV;obtain⟨x2,rD,X8⟩:=az.1 (Yb dV);have Y7:=(Ya.1 rD).1;have uE:=aI rD;refine⟨_,u4.hd,g.he,(hA.ext hs.ext).at_.nth 6 rfl,?_⟩;refine (hA.gi.e.rw.ext hs.ext).aF (by omega) (by omega) fun b65 o66 x gx u5=>?_;replace gx:g.es[k2]?=some x:=gx;rw[rD] at gx;cases gx;refine⟨x2.f,x2.a,x2.b,x2.l,x2.t,x2.ag,u5,?_⟩;refine hs.ai (vs:=x2.cs) rfl rfl fun h74 hs=>?_;refine⟨x2.f,x2.a,x2.b,x2.l,x2.t,x2.ag,hs.at 0 rfl (o:=0) (n:=6) rfl,?_⟩;refine (km ⟨b,0,none⟩ role x2 h74 ((hA.ext hs.ext).at_.nth 8 rfl)).mono ?_;rintro _ pE ⟨E86,rfl⟩;replace hs:=hs.step E86;have hvk:bm role (eA g.es k)=some e:=by rw[jT];exact hvis
    have skip:∀ {hZ:Heap},bm role (eA g.es k2)≠some e->St h hZ (.af Mr.size e.cs 188 :: .af mq.size x0.cs 67::JX h q bo2 (p6 g.es role t ((ao g.es (s:Nat)).take j)) (nP g.es role ((ao g.es (s:Nat)).take j) (ao g.es (t:Nat))++sP g.es role k ((ao g.es (t:Nat)).take j2)) s t) ->
      ∃m,m<(os t).n-j2/\∃j3:Nat,IntKind.wrap .i64 ((j2:Int)+1)=j3/\m=(os t).n-j3/\j3<=(os t).n/\St h hZ (.af Mr.size e.cs 188 :: .af mq.size x0.cs 67::JX h q bo2 (p6 g.es role t ((ao g.es (s:Nat)).take j)) (nP g.es role ((ao g.es (s:Nat)).take j) (ao g.es (t:Nat))++sP g.es role k ((ao g.es (t:Nat)).take j3)) s t):=fun {hZ} bz hs=>by
     refine⟨_,by omega,j2+1,by rw[aZ (by omega) (by omega)];omega,rfl,by omega,?_⟩;rw[ug hvk dV,if_neg bz,Yw];exact hs
    cases hvis2:bm role x2 with
    | none=>
     refine⟨false,0,0,false,rfl,?_⟩;refine hs.ai (vs:=[.bool false,.int .i64 0,.int .i64 0]) rfl rfl fun ZK hs=>?_;refine iX rfl (skip (by rw[uE,hvis2];exact fun e=>by cases e) (hs.drop 2))
    | some e2=>
     refine⟨e2.send,e2.peer,e2.label,true,rfl,?_⟩;refine hs.ai (vs:=e2.cs) rfl rfl fun ZK hs=>?_;refine oU rfl ?_;refine⟨e.send,e.peer,e.label,hs.at 2 rfl (o:=0) (n:=3) rfl,e2.send,e2.peer,e2.label,hs.at 0 rfl (o:=0) (n:=3) rfl,?_⟩;rw[MN];refine aQ (fun c3=>?_) (fun c3=>skip (by rw[uE,hvis2];exact fun e9=>c3 (eU e9).symm) (hs.drop 2));subst c3;refine⟨x0.t,hs.rd 3 rfl (i:=4) rfl,x2.t,hs.rd 1 rfl (i:=4) rfl,?_⟩;refine hs.app 5 rfl j8 (m:=1) [aV.cs ⟨(k:Int),(k2:Int),x0.t,x2.t⟩] rfl rfl (fun r hr=>by rw[Ye] at hr;rw[hr];rfl) rfl (by omega) (by simp only[maxLen];omega) fun s98 h99 n98 hs=>?_;refine⟨_,by omega,j2+1,by rw[aZ (by omega) (by omega)];omega,rfl,by omega,?_⟩;have hs:=hs.drop 2;rw[ug hvk dV,if_pos (by rw[uE,hvis2]),jT,uE,<-Yz];unfold JX;rw[Ym (l₁:=nP _ _ _ _++_)];exact hs
   .refine⟨_,by omega,j+1,by rw[aZ (by omega) (by omega)];omega,rfl,by omega,?_⟩;rw[jX,uf hk];rw[Yj (l:=ao g.es (t:Nat)) (by omega)] at hs;exact hs.drop 2
 .rw[Yj (by omega)] at hs Bu rL mj;refine⟨ho,(hA.ext hs.ext).at_.nth 9 rfl,(t:Nat),hs.rd 2 rfl (i:=1) rfl,?_⟩;refine (hA.ro.ext hs.ext).aF (by omega) (by omega) fun ade abG d gd u3=>?_;obtain rfl:t=d:=(qX gd).1;refine⟨os t,u3.hd,?_⟩;replace hs:=hs.cN 200 4;refine⟨fun ot x h' m=>∃j2:Nat,x=j2/\m=(os t).n-j2/\j2<=(os t).n/\St h h' (.sl ot 200 4 ((yX g.es role s ((ao g.es (t:Nat)).take j2)).map aV.cs)::JX h q bo (p6 g.es role t (ao g.es (s:Nat))) (nP g.es role (ao g.es (s:Nat)) (ao g.es (t:Nat))) s t),⟨_,0,rfl,rfl,by omega,hs⟩,?_⟩;clear hs;rintro-ot _ rP m ⟨j2,rfl,rfl,R9,hs⟩;have we:=(hs.len 0 (s:=ot) (e:=200) (n:=4) rfl (by omega)).1;rw[Yc] at we;have RT:=yW (es:=g.es) (role:=role) (t:=s) (l:=(ao g.es (t:Nat)).take j2);rw[Yu] at RT;refine aQ (fun c2=>?_) (fun c2=>?_)
  .refine (rt.ext hs.ext).aF (by omega) (by omega) fun b61 XP d gd u4=>?_;obtain⟨k2,dV,rfl⟩:=bS gd;replace dV:(ao g.es (t:Nat))[j2]?=some k2:=dV;obtain⟨x2,rD,X8⟩:=az.1 (Yb dV);have Y7:=(Ya.1 rD).1;have uE:=aI rD;refine⟨_,u4.hd,g.he,(hA.ext hs.ext).at_.nth 6 rfl,?_⟩;refine (hA.gi.e.rw.ext hs.ext).aF (by omega) (by omega) fun b65 o66 x gx u5=>?_;replace gx:g.es[k2]?=some x:=gx;rw[rD] at gx;cases gx;refine⟨x2.f,x2.a,x2.b,x2.l,x2.t,x2.ag,u5,?_⟩;refine hs.ai (vs:=x2.cs) rfl rfl fun Mx hs=>?_;have skip:bm role x2≠none->∃m,m<(os t).n-j2/\∃j3:Nat,IntKind.wrap .i64 ((j2:Int)+1)=j3/\m=(os t).n-j3/\j3<=(os t).n/\St h Mx (.sl ot 200 4 ((yX g.es role s ((ao g.es (t:Nat)).take j3)).map aV.cs)::JX h q bo (p6 g.es role t (ao g.es (s:Nat))) (nP g.es role (ao g.es (s:Nat)) (ao g.es (t:Nat))) s t):=fun bz=>by
    refine⟨_,by omega,j2+1,by rw[aZ (by omega) (by omega)];omega,rfl,by omega,?_⟩;rw[ud dV,if_neg (by unfold v7;rw[uE];intro h9;exact bz (Option.isNone_iff_eq_none.1 h9)),Yw];exact hs.drop 1
   refine⟨x2.a,hs.rd 0 rfl (i:=1) rfl,role,(hA.ext hs.ext).at_.nth 8 rfl,?_⟩;refine iC (fun c3=>?_) (fun c3=>skip fun h9=>(ni.1 h9).1 c3);refine⟨x2.b,hs.rd 0 rfl (i:=2) rfl,role,(hA.ext hs.ext).at_.nth 8 rfl,?_⟩;refine iC (fun c4=>?_) (fun c4=>skip fun h9=>(ni.1 h9).2 c4);have Lo:=ni.2 ⟨c3,c4⟩;refine⟨(s:Nat),hs.rd 4 rfl (i:=0) rfl,x2.t,hs.rd 0 rfl (i:=4) rfl,?_⟩;refine hs.app 1 rfl j8 (m:=1) [aV.cs ⟨-1,(k2:Int),(s:Nat),x2.t⟩] rfl rfl (fun r hr=>by rw[Ye] at hr;rw[hr];rfl) rfl (by omega) (by simp only[maxLen];omega) fun s98 h99 n98 hs=>?_;refine⟨_,by omega,j2+1,by rw[aZ (by omega) (by omega)];omega,rfl,by omega,?_⟩;have hs:=hs.drop 1;rw[ud dV,if_pos (by unfold v7;rw[uE,Lo];rfl),uE,Ym];exact hs
  .rw[Yj (by omega)] at hs RT;refine hs.aq fun EK hs=>?_;have pt:=hs.fx 3 1 ([q,ot,bo].map fB) rfl (fun r hr=>by obtain⟨x,_,rfl⟩:=Yp.1 hr;rfl) rfl (by decide);refine (BV [(q,p6 g.es role t (ao g.es (s:Nat))),(ot,yX g.es role s (ao g.es (t:Nat))),(bo,nP g.es role (ao g.es (s:Nat)) (ao g.es (t:Nat)))] _ EK (pt.rw 0 rfl (by omega)) ?_ (show 3<=1048576 by decide) ?_).mono ?_
   .intro z hz;simp only[Yr,List.not_mem_nil,or_false] at hz;rcases hz with rfl | rfl | rfl
    .exact RL.wM hs 2 rfl (by omega) (by show (p6 _ _ _ _).length<=_;omega)
    .exact RL.wM hs 1 rfl (by omega) (by show (yX _ _ _ _).length<=_;omega)
    .exact RL.wM hs 3 rfl (by omega) (by show (nP _ _ _ _).length<=_;omega)
   .simp only[kf,List.map_nil,List.sum_cons,List.sum_nil];omega
   .rintro _ pG ⟨r,rfl,cp⟩;refine⟨r,rfl,r,rfl,?_⟩;have h5:=hs.join cp;have h6:=h5.sub (L':=[.sl r 200 4 ((([(q,p6 g.es role t (ao g.es (s:Nat))),(ot,yX g.es role s (ao g.es (t:Nat))),(bo,nP g.es role (ao g.es (s:Nat)) (ao g.es (t:Nat)))]:List (Sl × List aV)).flatMap Prod.snd).map aV.cs)]) (List.singleton_sublist.2 (by simp));have e9:(([(q,p6 g.es role t (ao g.es (s:Nat))),(ot,yX g.es role s (ao g.es (t:Nat))),(bo,nP g.es role (ao g.es (s:Nat)) (ao g.es (t:Nat)))]:List (Sl × List aV)).flatMap Prod.snd)=bA g.es role s t:=by
     unfold bA;simp
    rw[e9] at h6;exact h6
end Go.VC
end

section
namespace Go.VC
open Go.Proofs Go.LexS Go.Maps
theorem cu{α β:Type}[DecidableEq α](a x:α)(b:β):∀l:List (α × β),aG (bU l a b) x=if x=a then some b else aG l x
 | []=>by
  unfold bU aG;by_cases h:x=a
  .rw[if_pos h,if_pos h.symm]
  .rw[if_neg h,if_neg (fun e=>h e.symm)];rfl
 | (c,y)::r=>by
  have ih:=cu a x b r;by_cases hc:c=a
  .rw[bU,if_pos hc];by_cases h:x=a
   .rw[aG,if_pos (by rw[hc,h]),if_pos h]
   .rw[aG,if_neg (fun e=>h (e.symm.trans hc)),if_neg h,aG,if_neg (fun e=>h (e.symm.trans hc))]
  .rw[bU,if_neg hc];by_cases h:c=x
   .rw[aG,if_pos h,if_neg (fun e=>hc (h.trans e)),aG,if_pos h]
   .rw[aG,if_neg h,ih,aG,if_neg h]
theorem cw{α β:Type}[DecidableEq α](x:α):∀l:List (α × β),(aG l x).isSome=true ↔ x∈l.map Prod.fst
 | []=>by simp[aG]
 | (c,y)::r=>by
  rw[aG];by_cases h:c=x
  .rw[if_pos h];simp[h]
  .rw[if_neg h,cw x r,kf,Yr];exact⟨.inr,fun h9=>h9.resolve_left fun e=>h e.symm⟩
def pC(p:Nat × Nat):List Value:=[.int .i64 (p.1:Nat),.int .i64 (p.2:Nat)]
def pV(p:Nat × Nat):Value:=.agg ⟨pC p⟩
def dG(p:Nat × Nat):Prop:=p.1<1048576/\p.2<1048576
theorem XC : ∃ fs, Pz.underlying 97 = some (.struct fs) /\ fs.all (·.name != "_") = true /\ fs.toList.map (fun f => (f.type, f.offset)) = [(3, 0), (3, 1)] := su (by kernel_rfl)
theorem TA:Pz.cellsOf 97=2:=by kernel_rfl
theorem uu(p:Nat × Nat)(h:dG p):∃l,keyOf Pz 97 (pV p)=some l:=by
 obtain⟨fs,hu,hn,hf⟩:=XC;obtain⟨h1,h2⟩:=h;have eK:∃n,Pz.types.size+1=n+2:=⟨Pz.types.size-1,by kernel_rfl⟩;obtain⟨n,eK⟩:=eK;have w1:Rp ((p.1:Nat):Int):=⟨by omega,by omega⟩;have w2:Rp ((p.2:Nat):Int):=⟨by omega,by omega⟩;have hl:Pz.keyLits (n+2) 97 (pC p)=some [[.int .i64 ((p.1:Nat):Int)],[.int .i64 ((p.2:Nat):Int)]].flatten:=by
  refine qb hu (by rw[TA];rfl) hn hf ?_;simp only[List.mapM_cons,List.mapM_nil,c3,pC,List.drop_zero,List.take_succ_cons,sX,List.drop_succ_cons,nT u3 w1.wf,nT u3 w2.wf];rfl
 have Y5:Pz.keyType 97=true:=by kernel_rfl
 have OJ:(pV p).formed Pz 97=true:=by
  unfold pV Value.formed;simp only[hu,TA];rfl
 have e:keyOf Pz 97 (pV p)=(Pz.keyLits (n+2) 97 (pC p)).map fun ls=>.string (keyBytes ls):=by
  unfold keyOf;simp only[hu,Y5,OJ,Bool.and_self,if_true,eK];rfl
 rw[e,hl];exact⟨_,rfl⟩
theorem Dp(a b:Nat × Nat)(h:pV a=pV b):a=b:=by
 unfold pV pC at h;simp at h;exact Prod.ext (by omega) (by omega)
theorem vU:MT Pz 93 97 197 pV dG (.slice none 0 0) where
 K:=Keyed.of_law (deep_law_laid xi (m:=2) (by omega) (bM (by kernel_rfl)) (by kernel_rfl) (by kernel_rfl))
 ht:=by kernel_rfl
 key:=uu
 inj:=Dp
 z:=fun w=>by kernel_rfl
theorem GJ:MT Pz 293 97 3 pV dG (.int .i64 0) where
 K:=Keyed.of_law (deep_law_laid xi (m:=2) (by omega) (bM (by kernel_rfl)) (by kernel_rfl) (by kernel_rfl))
 ht:=by kernel_rfl
 key:=uu
 inj:=Dp
 z:=fun w=>by kernel_rfl
def bp(m:aV):Nat × Nat:=(m.s.toNat,m.t.toNat)
inductive mR (g:Gl) (role:Int):Nat × Nat->Prop where
 | start:mR g role (g.s.toNat,g.s.toNat)
 | step {p:Nat × Nat} {m:aV}:mR g role p->m∈bA g.es role p.1 p.2->mR g role (bp m)
theorem MR{es:List Ed}{k:Nat}{s:Int}(h:k∈ao es s):eA es k∈es/\(eA es k).f=s:=by
 obtain⟨x,hx,hf⟩:=az.1 h;rw[aI hx];exact⟨Yb hx,hf⟩
theorem H7{g:Gl}{role:Int}{s t:Nat}(hV:ae g)(hs:(s:Int)<g.n)(ht:(t:Int)<g.n){m:aV}(hm:m∈bA g.es role s t):0<=m.s/\m.s<g.n/\0<=m.t/\m.t<g.n:=by
 have hE:∀ {k:Nat} {s:Int},k∈ao g.es s->0<=(eA g.es k).t/\(eA g.es k).t<g.n:=fun {k s} hk=>by
  have:=hV.num.e _ (MR hk).1;unfold gN at this;omega
 unfold bA at hm;rcases Yk.1 hm with hm | hm
 .rcases Yk.1 hm with hm | hm
  .obtain⟨k,hk,rfl⟩:=Yp.1 hm;have:=hE (List.mem_filter.1 hk).1;exact⟨this.1,this.2,by show (0:Int)<=((t:Nat):Int);omega,ht⟩
  .obtain⟨k,hk,rfl⟩:=Yp.1 hm;have:=hE (List.mem_filter.1 hk).1;exact⟨by show (0:Int)<=((s:Nat):Int);omega,hs,this.1,this.2⟩
 .unfold nP at hm;obtain⟨i,hi,hm⟩:=List.mem_flatMap.1 hm;unfold sP at hm;split at hm
  .cases hm
  .obtain⟨k,hk,rfl⟩:=Yp.1 hm;have h1:=hE hi;have h2:=hE (List.mem_filter.1 hk).1;exact⟨h1.1,h1.2,h2.1,h2.2⟩
theorem jO{g:Gl}{role:Int}{p:Nat × Nat}(hV:ae g)(hp:(p.1:Int)<g.n/\(p.2:Int)<g.n){m:aV}(hm:m∈bA g.es role p.1 p.2):((bp m).1:Int)<g.n/\((bp m).2:Int)<g.n/\((bp m).1:Int)=m.s/\((bp m).2:Int)=m.t:=by
 have:=H7 hV hp.1 hp.2 hm;unfold bp;refine⟨?_,?_,?_,?_⟩<;>simp only<;>omega
theorem mR.lt{g:Gl}{role:Int}(hV:ae g){p:Nat × Nat}(h:mR g role p):(p.1:Int)<g.n/\(p.2:Int)<g.n:=by
 induction h with
 | start=>have:=hV.num.n;exact⟨by simp only;omega,by simp only;omega⟩
 | step _ hm ih=>have:=jO hV ih hm;exact⟨this.1,this.2.1⟩
theorem rR{n:Nat}{A:List (Nat × Nat)}(hn:A.Nodup)(h:∀p∈A,p.1<n/\p.2<n):A.length<=n*n:=by
 have h1:=List.Nodup.length_le_of_subset hn (l₂:=(List.range n).flatMap fun i=>(List.range n).map fun j=>(i,j)) fun p hp=>by
  have:=h p hp;exact List.mem_flatMap.2 ⟨p.1,List.mem_range.2 this.1,Yp.2 ⟨p.2,List.mem_range.2 this.2,rfl⟩⟩
 have h2:((List.range n).flatMap fun i=>(List.range n).map fun j=>(i,j)).length=n*n:=by
  rw[List.length_flatMap];simp only[Yc,mG];have:∀(l:List Nat),(l.map fun _=>n).sum=l.length*n:=fun l=>by
   induction l with
   | nil=>simp
   | cons a l ih=>rw[kf,List.sum_cons,ih,mD,Nat.succ_mul];omega
  rw[this,mG]
 omega
theorem kx{es:List Ed}{role:Int}{s t:Nat}(h:es.length<=400):(bA es role s t).length<=160800:=by
 unfold bA;rw[Yh,Yh];have h1:=yV (es:=es) (role:=role) (t:=t) (l:=ao es (s:Nat));have h2:=yW (es:=es) (role:=role) (t:=s) (l:=ao es (t:Nat));have h3:=ru (es:=es) (role:=role) (l:=ao es (s:Nat)) (m:=ao es (t:Nat));have h4:=cX es (s:Nat);have h5:=cX es (t:Nat);have h6:(ao es (s:Nat)).length*(ao es (t:Nat)).length<=400*400:=Nat.mul_le_mul (by omega) (by omega);omega
end Go.VC
end

section
namespace Go.VC
open Go.Proofs Go.LexS
theorem kv{α:Type}{L:List α}(hn:L.Nodup){i j:Nat}{x:α}(hi:L[i]?=some x)(hj:L[j]?=some x):i=j:=by
 obtain⟨h1,e1⟩:=Ya.1 hi;obtain⟨h2,e2⟩:=Ya.1 hj;have hp:=List.pairwise_iff_getElem.1 hn;rcases Nat.lt_trichotomy i j with h | h | h
 .exact absurd (e1.trans e2.symm) (hp i j h1 h2 h)
 .exact h
 .exact absurd (e2.trans e1.symm) (hp j i h2 h1 h)
structure RI (g:Gl) (role:Int) (i c:Nat) (A:List (Nat × Nat)) (Q:List (Sl × List aV)) (l:List ((Nat × Nat) × Sl)):Prop where
 qn:Q.length=c
 q:∀(k:Nat) (q:Sl × List aV),Q[k]?=some q->∃p,A[k]?=some p/\aG l p=some q.1/\q.2=bA g.es role p.1 p.2
 ky:∀p,p∈l.map Prod.fst ↔ p∈A
 ln:(l.map Prod.fst).Nodup
 nd:A.Nodup
 pr:∀p∈A,mR g role p
 st:(g.s.toNat,g.s.toNat)∈A
 cl:∀(k:Nat) (p:Nat × Nat),k<i->A[k]?=some p->∀m∈bA g.es role p.1 p.2,bp m∈A
theorem RI.gH{g:Gl}{role:Int}{i c:Nat}{A:List (Nat × Nat)}{Q:List (Sl × List aV)}{l:List ((Nat × Nat) × Sl)}(h:RI g role i c A Q l)(hV:ae g):∀q∈l,dG q.1:=fun q hq=>by
 have h1:=(h.pr _ ((h.ky q.1).1 (Yp.2 ⟨q,hq,rfl⟩))).lt hV;have:=hV.num.n;exact⟨by omega,by omega⟩
theorem RI.len{g:Gl}{role:Int}{i c:Nat}{A:List (Nat × Nat)}{Q:List (Sl × List aV)}{l:List ((Nat × Nat) × Sl)}(h:RI g role i c A Q l)(hV:ae g):A.length<=g.n.toNat*g.n.toNat:=
 rR h.nd fun p hp=>by have:=(h.pr p hp).lt hV;have:=hV.num.n;exact⟨by omega,by omega⟩
theorem RI.Hk{g:Gl}{role:Int}{i:Nat}{A:List (Nat × Nat)}{Q:List (Sl × List aV)}{l:List ((Nat × Nat) × Sl)}(h:RI g role i i A Q l){p:Nat × Nat}(hp:A[i]?=some p)(r:Sl):RI g role i (i+1) A (Q++[(r,bA g.es role p.1 p.2)]) (bU l p r):=by
 refine⟨by rw[Yh,h.qn];rfl,fun k q hq=>?_,fun x=>?_,eI _ _ _ h.ln,h.nd,h.pr,h.st,h.cl⟩
 .by_cases hk:k<i
  .rw[jw (by rw[h.qn];exact hk)] at hq;obtain⟨p',h1,h2,h3⟩:=h.q k q hq;refine⟨p',h1,?_,h3⟩;rw[cu,if_neg (fun e=>by subst e;have:=kv h.nd h1 hp;omega)];exact h2
  .rw[qJ (by rw[h.qn];omega),h.qn] at hq;have h9:=(Ya.1 hq).1;rw[Yv] at h9;obtain rfl:k=i:=by omega
   rw[Nat.sub_self] at hq;cases hq;exact⟨p,hp,by rw[cu,if_pos rfl],rfl⟩
 .rw[et,h.ky];exact⟨fun h9=>h9.elim id fun e=>by rw[e];exact Yb hp,.inl⟩
theorem RI.new{g:Gl}{role:Int}{i c:Nat}{A:List (Nat × Nat)}{Q:List (Sl × List aV)}{l:List ((Nat × Nat) × Sl)}(h:RI g role i c A Q l)(hi:i<=A.length){p:Nat × Nat}(hp:p∉A)(hr:mR g role p)(r:Sl):RI g role i c (A++[p]) Q (bU l p r):=by
 refine⟨h.qn,fun k q hq=>?_,fun x=>?_,eI _ _ _ h.ln,?_,fun x hx=>?_,List.mem_append_left _ h.st,fun k x hk hx m hm=>?_⟩
 .obtain⟨p',h1,h2,h3⟩:=h.q k q hq;refine⟨p',by rw[jw (Ya.1 h1).1];exact h1,?_,h3⟩;rw[cu,if_neg (fun e=>hp (by subst e;exact Yb h1))];exact h2
 .rw[et,h.ky,Yk,Ye]
 .rw[List.nodup_append];exact⟨h.nd,by simp,fun a ha b hb e=>by rw[Ye] at hb;subst hb;subst e;exact hp ha⟩
 .rcases Yk.1 hx with hx | hx
  .exact h.pr x hx
  .rw[Ye] at hx;rw[hx];exact hr
 .rcases Nat.lt_or_ge k A.length with h9 | h9
  .rw[jw h9] at hx;exact List.mem_append_left _ (h.cl k x hk hx m hm)
  .omega
def wG(all:Sl)(mb:Nat)(A:List (Nat × Nat))(Q:List (Sl × List aV))(l:List ((Nat × Nat) × Sl))(R:List It):List It:=
 .sl all 97 2 (A.map pC) :: .mp mb (l.map fun q=>(pV q.1,iA q.2))::(R++Q.map (nest 200 4 aV.cs))
theorem yp{all:Sl}{mb:Nat}{A:List (Nat × Nat)}{Q:List (Sl × List aV)}{l:List ((Nat × Nat) × Sl)}{R0:It}{i:Nat}{q:Sl × List aV}(hq:Q[i]?=some q):(wG all mb A Q l [R0])[3+i]?=some (nest 200 4 aV.cs q):=by
 unfold wG;rw[show 3+i=i+1+1+1 by omega,List.getElem?_cons_succ,List.getElem?_cons_succ,List.singleton_append,List.getElem?_cons_succ,Yd,hq];rfl
structure Hb (h:Heap) (g:Gl) (role:Int) (all:Sl) (mb:Nat) (A:List (Nat × Nat)) (l:List ((Nat × Nat) × Sl)):Prop where
 ra:RL h 2 all pC A
 mp:It.ok h (.mp mb (l.map fun q=>(pV q.1,iA q.2)))
 lk:∀q∈l,dG q.1
 ln:(l.map Prod.fst).Nodup
 mv:∀p∈A,∃r,aG l p=some r/\RL h 4 r aV.cs (bA g.es role p.1 p.2)
 nd:A.Nodup
 pr:∀p,p∈A ↔ mR g role p
theorem Hb.ext{h h':Heap}{g:Gl}{role:Int}{all:Sl}{mb:Nat}{A:List (Nat × Nat)}{l:List ((Nat × Nat) × Sl)}(hM:Hb h g role all mb A l)(E:Ext h h'):Hb h' g role all mb A l:=
 ⟨hM.ra.ext E,hM.mp.bH fun b hb=>E.2 b (hM.mp.lt hb),hM.lk,hM.ln,fun p hp=>(hM.mv p hp).imp fun r hr=>⟨hr.1,hr.2.ext E⟩,hM.nd,hM.pr⟩
theorem FO:cn Pz 92 97 2 16=true:=by kernel_rfl
theorem wF(b:Nat)(g:Gl)(role:Int)(ho:Sl)(os:Nat->Sl)(h:Heap)(hA:Hd h b g role ho os)(hV:ae g):
  Fn Pz 50 #[.pointer (some ⟨b,0,none⟩)] h fun v h'=>Ext h h'/\∃(all:Sl) (mb:Nat) (A:List (Nat × Nat)) (l:List ((Nat × Nat) × Sl)),v=.tuple ⟨[.slice all.a all.n all.c,.map (some mb)]⟩/\Hb h' g role all mb A l:=by
 apply W9 ⟨b,0,none⟩;unfold W50;have hN:=hV.num.n;have hM:=hV.num.m;have jU:((g.s.toNat:Nat):Int)=g.s:=Int.toNat_of_nonneg (by omega);have hnn:g.n.toNat*g.n.toNat<=200*200:=Nat.mul_le_mul (by omega) (by omega);refine⟨g.s,hA.at_.nth 4 rfl,g.s,hA.at_.nth 4 rfl,?_⟩;refine (St.refl h).ak fun h3 E3 hs=>⟨E3.sm,?_⟩;refine hs.put 0 rfl (o:=0) (vs:=[.int .i64 g.s,.int .i64 g.s]) rfl (aY 2) fun h4 hs=>?_;refine⟨g.s,g.s,hs.at 0 rfl (o:=0) (n:=2) rfl,?_⟩;refine hs.aq fun h7 hs=>?_;have hs:=hs.fx 1 2 ([(g.s.toNat,g.s.toNat)].map pC) (by unfold pC;simp only[kf,List.map_nil,ss,List.flatten_nil,Yw];rw[jU]) (fun r hr=>by obtain⟨x,_,rfl⟩:=Yp.1 hr;rfl) rfl (by decide);refine hs.yY 93 fun cA E10 hs=>⟨some h7.size,rfl,?_⟩;refine⟨((g.s.toNat:Nat):Int),((g.s.toNat:Nat):Int),by rw[jU];exact hs.at 2 rfl (o:=0) (n:=2) rfl,?_⟩;refine hs.Bf (cv:=iA) (l:=[]) vU 0 rfl (fun q hq=>by cases hq) .nil (a:=(g.s.toNat,g.s.toNat)) ⟨by simp only;omega,by simp only;omega⟩ ⟨none,0,0⟩ fun EL hs=>?_;have hI:RI g role 0 0 [(g.s.toNat,g.s.toNat)] [] [((g.s.toNat,g.s.toNat),⟨none,0,0⟩)]:=
  ⟨rfl,fun k q hq=>(by simp at hq),fun p=>by simp,by simp,by simp,fun p hp=>by rw[Ye] at hp;rw[hp];exact .start,by simp,fun k p hk=>by omega⟩
 refine⟨fun all x h' m=>∃(i:Nat) (A:List (Nat × Nat)) (Q:List (Sl × List aV)) (l:List ((Nat × Nat) × Sl)),x=i/\m=g.n.toNat*g.n.toNat-i/\i<=A.length/\St h h' (wG all h7.size A Q l [.af h.size [.int .i64 g.s,.int .i64 g.s] 97])/\RI g role i i A Q l,⟨_,0,_,[],_,rfl,rfl,Nat.zero_le _,hs.perm (List.Perm.swap _ _ _),hI⟩,?_⟩;clear hs hI;rintro-all _ ZU m ⟨i,A,Q,l,rfl,rfl,hi,hs,hI⟩;have uT:=hI.len hV;have Zt:=hs.len 0 (s:=all) (e:=97) (n:=2) (rows:=A.map pC) rfl (by omega);rw[Yc] at Zt;refine aQ (fun c=>?_) (fun c=>?_)
 .refine (hs.rows 0 rfl (by omega)).aF (by omega) (by omega) fun Wj Vv p gp t=>?_;replace gp:A[i]?=some p:=gp;have OE:=hI.pr p (Yb gp);have sR:=OE.lt hV;refine⟨((p.1:Nat):Int),((p.2:Nat):Int),t,?_⟩;refine (Bg b g role ho os p.1 p.2 ZU (hA.ext hs.ext) hV sR.1 sR.2).mono ?_;rintro _ G4 ⟨r,rfl,cp⟩;refine⟨r,rfl,?_⟩;replace hs:=hs.join cp;refine (hs.rows 0 (s:=all) (e:=97) (n:=2) (cs:=pC) (l:=A) rfl (by omega)).aF (by omega) (by omega) fun b27 o28 p' V9 t'=>?_;replace V9:A[i]?=some p':=V9;rw[gp] at V9;cases V9;refine⟨((p.1:Nat):Int),((p.2:Nat):Int),t',?_⟩;refine hs.Bf (cv:=iA) (l:=l) vU 1 rfl (hI.gH hV) hI.ln (a:=p) ⟨by omega,by omega⟩ r fun IM hs=>?_;have oJ:=hI.Hk gp r;have hs:St h IM (wG all h7.size A (Q++[(r,bA g.es role p.1 p.2)]) (bU l p r) [.af h.size [.int .i64 g.s,.int .i64 g.s] 97]):=by
   refine hs.perm (List.Perm.of_eq ?_);unfold wG;rw[Ym];simp[nest]
  clear cp t t';have Cr:=kx (es:=g.es) (role:=role) (s:=p.1) (t:=p.2) hM;refine⟨fun all x h' m=>∃(j:Nat) (A':List (Nat × Nat)) (l':List ((Nat × Nat) × Sl)),x=j/\m=r.n-j/\j<=r.n/\A.length<=A'.length/\St h h' (wG all h7.size A' (Q++[(r,bA g.es role p.1 p.2)]) l' [.af h.size [.int .i64 g.s,.int .i64 g.s] 97])/\Ext IM IM/\RI g role i (i+1) A' (Q++[(r,bA g.es role p.1 p.2)]) l'/\A'[i]?=some p/\∀m∈(bA g.es role p.1 p.2).take j,bp m∈A',⟨_,0,A,_,rfl,rfl,Nat.zero_le _,aY _,hs,⟨aY _,fun _ _=>rfl⟩,oJ,gp,fun m hm=>by rw[sX] at hm;cases hm⟩,?_⟩;clear hs oJ;rintro-all2 _ qs m ⟨j,A',l',rfl,rfl,hj,hAA,hs,-,oJ,gp2,ew⟩;have hgq:(Q++[(r,bA g.es role p.1 p.2)])[i]?=some (r,bA g.es role p.1 p.2):=by
   rw[qJ (by rw[hI.qn];exact aY _),hI.qn,Nat.sub_self];rfl
  have GY:Rw qs 4 r ((bA g.es role p.1 p.2).map aV.cs):=hs.rw (3+i) (yp hgq) (by omega);have uG:=GY.ln;have acg:=oJ.len hV;have Zs:=hs.len 0 (s:=all2) (e:=97) (n:=2) (rows:=A'.map pC) rfl (by omega);rw[Yc] at Zs;refine aQ (fun c2=>?_) (fun c2=>?_)
  .refine GY.aF (by omega) (by omega) fun b38 o39 mv gm t=>?_;replace gm:(bA g.es role p.1 p.2)[j]?=some mv:=gm;have Em:=Yb gm;have Cq:=jO hV sR Em;refine⟨mv.x,mv.y,mv.s,mv.t,t,?_⟩;refine hs.ai (vs:=mv.cs) rfl rfl fun Mp hs=>?_;refine⟨((bp mv).1:Nat),((bp mv).2:Nat),by rw[Cq.2.2.1,Cq.2.2.2];exact hs.at 0 rfl (o:=2) (n:=2) rfl,?_⟩;refine hs.yZ (cv:=iA) (l:=l') vU 2 rfl (oJ.gH hV) oJ.ln (a:=bp mv) ⟨by omega,by omega⟩ ?_;refine⟨(aG l' (bp mv)).getD ⟨none,0,0⟩,(aG l' (bp mv)).isSome,by cases aG l' (bp mv)<;>rfl,?_⟩;refine aa (fun c3=>?_) (fun c3=>?_)
   .have fQ:bp mv∉A':=fun hm=>by
     have h9:=(cw (bp mv) l').2 ((oJ.ky _).2 hm);rw[h9] at c3;cases c3
    refine⟨((bp mv).1:Nat),((bp mv).2:Nat),by rw[Cq.2.2.1,Cq.2.2.2];exact hs.at 0 rfl (o:=2) (n:=2) rfl,?_⟩;refine hs.Bf (cv:=iA) (l:=l') vU 2 rfl (oJ.gH hV) oJ.ln (a:=bp mv) ⟨by omega,by omega⟩ ⟨none,0,0⟩ fun h54 hs=>?_;refine⟨((bp mv).1:Nat),((bp mv).2:Nat),by rw[Cq.2.2.1,Cq.2.2.2];exact hs.at 0 rfl (o:=2) (n:=2) rfl,?_⟩;refine hs.app 1 rfl FO (m:=1) [pC (bp mv)] rfl rfl (fun r hr=>by rw[Ye] at hr;rw[hr];rfl) rfl (by omega) (by simp only[maxLen];omega) fun s58 OV n58 hs=>?_;have hI3:=oJ.new (by omega) fQ (.step OE Em) ⟨none,0,0⟩;refine⟨_,by omega,j+1,A'++[bp mv],_,by rw[aZ (by omega) (by omega)];omega,rfl,by omega,by rw[Yh];omega,?_,⟨aY _,fun _ _=>rfl⟩,hI3,by rw[jw (by omega)];exact gp2,fun m hm=>?_⟩
    .have hs:=hs.drop 1;unfold wG;rw[Ym (f:=pC)];exact hs
    .rw[aj gm,Yk,Ye] at hm;rcases hm with hm | rfl
     .exact List.mem_append_left _ (ew m hm)
     .simp
   .have dQ:bp mv∈A':=(oJ.ky _).1 ((cw (bp mv) l').1 (bT c3));refine⟨_,by omega,j+1,A',l',by rw[aZ (by omega) (by omega)];omega,rfl,by omega,hAA,hs.drop 1,⟨aY _,fun _ _=>rfl⟩,oJ,gp2,fun m hm=>?_⟩;rw[aj gm,Yk,Ye] at hm;rcases hm with hm | rfl
    .exact ew m hm
    .exact dQ
  .rw[Yj (by omega)] at ew;refine⟨_,by omega,i+1,A',_,l',by rw[aZ (by omega) (by omega)];omega,rfl,by omega,hs,⟨oJ.qn,oJ.q,oJ.ky,oJ.ln,oJ.nd,oJ.pr,oJ.st,fun k x hk hx m hm=>?_⟩⟩;by_cases LK:k=i
   .subst LK;rw[gp2] at hx;cases hx;exact ew m hm
   .exact oJ.cl k x (by omega) hx m hm
 .refine⟨hs.ext,all,h7.size,A,l,rfl,RL.wM hs 0 rfl (by omega) (by omega),hs.get (k:=1) rfl,hI.gH hV,hI.ln,fun p hp=>?_,hI.nd,fun p=>⟨hI.pr p,fun hp=>?_⟩⟩
  .obtain⟨k,hk⟩:=Yf.1 hp;have rH:=(Ya.1 hk).1;obtain⟨q,hq⟩:=get_some (l:=Q) (i:=k) (by rw[hI.qn];omega);obtain⟨p',h1,h2,h3⟩:=hI.q k q hq;rw[hk] at h1;cases h1;have Cr:=kx (es:=g.es) (role:=role) (s:=p.1) (t:=p.2) hM;refine⟨q.1,h2,?_⟩;rw[<-h3];exact RL.wM hs (3+k) (yp hq) (by omega) (by rw[h3];omega)
  .induction hp with
   | start=>exact hI.st
   | step _ hm ih=>
    obtain⟨k,hk⟩:=Yf.1 ih;exact hI.cl k _ (by have:=(Ya.1 hk).1;omega) hk _ hm
structure fk where
 e:Int
 n:Int
 m:Ms
def fk.cs(x:fk):List Value:=[.int .i64 x.e,.int .i64 x.n,.int .i64 x.m.p,.int .i64 x.m.l]
def Ms.ev(m:Ms):Ev:=⟨false,m.p,m.l⟩
def gK(K:List Ev)(b:Option fk)(x:fk):Option fk:=
 if x.m.ev∈K then (match b with | none=>some x | some y=>if x.n<y.n then some x else b) else b
def bX(K:List Ev)(L:List fk):Option fk:=L.foldl (gK K) none
def cB:fk:=⟨0,0,⟨0,0⟩⟩
def ArB(b:Option fk):Prop:=∀y,b=some y->0<y.n
structure An where
 ho:Sl
 os:Nat->Sl
 bO:Sl
 fi:List Fs
 bE:Sl
 li:List Lm
 bc:Sl
 ag:List Bool
 bI:Sl
 ow:List Bool
 bV:Sl
 ar:List (Sl × List fk)
structure s7 (h:Heap) (b:Nat) (g:Gl) (role:Int) (X:An):Prop where
 gg:Hd h b g role X.ho X.os
 r:Pd h ⟨b,0,none⟩ role X.bO X.bE X.bc X.bI X.fi X.li X.ag X.ow
 a:hc h ⟨b,14,none⟩=some (.slice X.bV.a X.bV.n X.bV.c)
 ra:RL h 1 X.bV fB (X.ar.map Prod.fst)
 re:∀q∈X.ar,RL h 4 q.1 fk.cs q.2
 nf:X.fi.length=g.n.toNat
 nl:X.li.length=g.n.toNat
 na:X.ag.length=g.n.toNat
 nw:X.ow.length=g.n.toNat
 nr:X.ar.length=g.n.toNat
theorem s7.ext{h h':Heap}{b:Nat}{g:Gl}{role:Int}{X:An}(hA:s7 h b g role X)(E:Ext h h'):s7 h' b g role X:=
 ⟨hA.gg.ext E,hA.r.ext E,aw E hA.a,hA.ra.ext E,fun q hq=>(hA.re q hq).ext E,hA.nf,hA.nl,hA.na,hA.nw,hA.nr⟩
theorem oy(b:Nat)(g:Gl)(role:Int)(X:An)(s t:Nat)(fs:Fs)(q:Sl × List fk)(h:Heap)(hA:s7 h b g role X)(gt:X.fi[t]?=some fs)(gq:X.ar[s]?=some q)(hq:∀x∈q.2,0<x.n):
  Fn Pz 152 #[.pointer (some ⟨b,0,none⟩),.agg ⟨[.int .i64 (s:Nat),.int .i64 (t:Nat)]⟩] h fun v h'=>Ext h h'/\v=.tuple ⟨[.agg ⟨((bX fs.l q.2).getD cB).cs⟩,.bool (bX fs.l q.2).isSome]⟩:=by
 apply Qv ⟨b,0,none⟩ (s:Nat) (t:Nat);unfold UO GD;have n1:=hA.ra.ln;have n2:=hA.r.rf.ln;have ls:=(Ya.1 gq).1;have lt:=(Ya.1 gt).1;have Ei:=hA.re q (Yb gq);have ie:=hA.r.re fs (Yb gt);have n3:=Ei.ln;have m3:=Ei.sm;rw[Yc] at n1;refine (St.refl h).aq fun h3 hs=>?_;refine hs.aq fun h4 hs=>?_;refine hs.aq fun h5 hs=>?_;refine⟨X.bV,(hA.ext hs.ext).a,(s:Nat),hs.rd 2 rfl (i:=0) rfl,?_⟩;refine (hA.ra.ext hs.ext).rw.aF (by omega) (by omega) fun b8 o9 d gd u=>?_;replace gd:(X.ar.map Prod.fst)[s]?=some d:=gd;rw[Yd,gq] at gd;cases gd;refine⟨q.1,u.hd,?_⟩;refine⟨fun x h' m=>∃(i:Nat) (o:Option fk),x=i/\m=q.1.n-i/\i<=q.1.n/\St h h' [.af h4.size (o.getD cB).cs 276,.af h3.size [.int .i64 0,.int .i64 0,.int .i64 0,.int .i64 0] 276,.af h.size [.int .i64 (s:Nat),.int .i64 (t:Nat)] 97]/\o=(q.2.take i).foldl (gK fs.l) none/\ArB o,⟨_,0,none,rfl,rfl,by omega,hs,rfl,fun y hy=>by cases hy⟩,?_⟩;clear hs;rintro-_ mq m ⟨i,o,rfl,rfl,hi,hs,ho,hob⟩;have q8:∀ {hZ:Heap} {x:fk} {o':Option fk} (c:i<q.1.n) (gx:q.2[i]?=some x) (e:o'=gK fs.l o x),ArB o'->St h hZ [.af h4.size (o'.getD cB).cs 276,.af h3.size [.int .i64 0,.int .i64 0,.int .i64 0,.int .i64 0] 276,.af h.size [.int .i64 (s:Nat),.int .i64 (t:Nat)] 97] ->
   ∃m,m<q.1.n-i/\∃(i':Nat) (o:Option fk),IntKind.wrap .i64 ((i:Int)+1)=i'/\m=q.1.n-i'/\i'<=q.1.n/\St h hZ [.af h4.size (o.getD cB).cs 276,.af h3.size [.int .i64 0,.int .i64 0,.int .i64 0,.int .i64 0] 276,.af h.size [.int .i64 (s:Nat),.int .i64 (t:Nat)] 97]/\o=(q.2.take i').foldl (gK fs.l) none/\ArB o:=fun {hZ x o'} c gx e hb hs=>by
  refine⟨_,?_,i+1,o',by rw[aZ (by omega) (by omega)];omega,rfl,by omega,hs,?_,hb⟩
  .omega
  .rw[aj gx,List.foldl_append,<-ho,e];rfl
 refine aQ (fun c=>?_) (fun c=>?_)
 .refine (Ei.ext hs.ext).rw.aF (by omega) (by omega) fun b16 XT x gx u2=>?_;replace gx:q.2[i]?=some x:=gx;have jr:=hq x (Yb gx);refine⟨x.e,x.n,x.m.p,x.m.l,u2,?_⟩;refine hs.ai (vs:=x.cs) rfl rfl fun qt hs=>?_;refine⟨X.bO,(hA.ext hs.ext).r.f,(t:Nat),hs.rd 3 rfl (i:=1) rfl,?_⟩;refine (hA.r.rf.ext hs.ext).rw.aF (by omega) (by omega) fun b26 o27 f gf u3=>?_;replace gf:X.fi[t]?=some f:=gf;rw[gt] at gf;cases gf;refine⟨fs.s,fs.b,u3,x.m.p,hs.rd 0 rfl (i:=2) rfl,x.m.l,hs.rd 0 rfl (i:=3) rfl,?_⟩;refine (zq fs.l fs.b x.m.ev fs.s qt (ie.ext hs.ext).rw ie.sm).mono ?_;rintro _ mm ⟨⟨b2,rfl,mj⟩,E⟩;replace hs:=hs.step E;refine⟨b2,rfl,aa (fun c2=>?_) (fun c2=>?_)⟩
  .have dQ:x.m.ev∈fs.l:=mj.1 c2;cases o with
   | none=>
    refine⟨0,hs.rd 1 rfl (i:=1) rfl,oU rfl ?_⟩;refine⟨x.e,x.n,x.m.p,x.m.l,hs.at 0 rfl (o:=0) (n:=4) rfl,?_⟩;refine hs.put 1 rfl (o:=0) (vs:=x.cs) rfl (aY 4) fun uU hs=>?_;exact q8 (by omega) gx (o':=some x) (by unfold gK;rw[if_pos dQ]) (fun y hy=>by cases hy;exact jr) (hs.drop 1)
   | some y=>
    have hy0:=hob y rfl;refine⟨y.n,hs.rd 1 rfl (i:=1) rfl,eh (fun e=>by omega) (fun _=>?_)⟩;refine⟨x.n,hs.rd 0 rfl (i:=1) rfl,y.n,hs.rd 1 rfl (i:=1) rfl,aQ (fun c3=>?_) (fun c3=>?_)⟩
    .refine⟨x.e,x.n,x.m.p,x.m.l,hs.at 0 rfl (o:=0) (n:=4) rfl,?_⟩;refine hs.put 1 rfl (o:=0) (vs:=x.cs) rfl (aY 4) fun uU hs=>?_;exact q8 (by omega) gx (o':=some x) (by unfold gK;rw[if_pos dQ];simp only;rw[if_pos c3]) (fun y hy=>by cases hy;exact jr) (hs.drop 1)
    .exact q8 (by omega) gx (o':=some y) (by unfold gK;rw[if_pos dQ];simp only;rw[if_neg c3]) hob (hs.drop 1)
  .have fQ:x.m.ev∉fs.l:=fun hm=>by rw[mj.2 hm] at c2;cases c2
   exact q8 (by omega) gx (o':=o) (by unfold gK;rw[if_neg fQ]) hob (hs.drop 1)
 .rw[Yj (by omega)] at ho;have hoF:o=bX fs.l q.2:=ho;refine⟨(o.getD cB).e,(o.getD cB).n,(o.getD cB).m.p,(o.getD cB).m.l,hs.at 0 rfl (o:=0) (n:=4) rfl,(o.getD cB).n,hs.rd 0 rfl (i:=1) rfl,?_⟩;have OP:=hs.get (k:=0) rfl;refine hs.put 1 rfl (o:=0) (vs:=(o.getD cB).cs) rfl (aY 4) fun wk cp=>⟨?_,?_⟩
  .exact fT (hs.same cp 0 0 rfl rfl) lu
  .refine⟨(o.getD cB).e,(o.getD cB).n,(o.getD cB).m.p,(o.getD cB).m.l,cp.at 1 rfl (o:=0) (n:=4) rfl,cp.ext,?_⟩;rw[<-hoF];have:decide ((o.getD cB).n>0)=o.isSome:=by
    cases o with
    | none=>rfl
    | some y=>exact decide_eq_true (hob y rfl)
   rw[this];rfl
noncomputable def dY(X:An)(kind:Int)(p:Nat × Nat):Option Int:=by
 classical exact if kind=1 then (match X.fi[p.1]?,X.fi[p.2]? with | some fs,some ft=>if (fs.l.find? (fw ft.l)).isSome then some 0 else none | _,_=>none)
 else if kind=3 then (if JA X.li X.ag X.ow p.1 p.2 then some 0 else none)
 else (match X.fi[p.2]?,X.ar[p.1]? with | some ft,some q=>(bX ft.l q.2).map (·.n) | _,_=>none)
theorem vj(b:Nat)(g:Gl)(role:Int)(X:An)(kind:Int)(p:Nat × Nat)(h:Heap)(hA:s7 h b g role X)(hp:(p.1:Int)<g.n/\(p.2:Int)<g.n)(hq:∀q∈X.ar,∀x∈q.2,0<x.n):
  Fn Pz 166 #[.pointer (some ⟨b,0,none⟩),.int .i64 kind,.agg ⟨pC p⟩] h fun v h'=>Ext h h'/\v=.tuple ⟨[.int .i64 ((dY X kind p).getD 0),.bool (dY X kind p).isSome]⟩:=by
 apply Qn ⟨b,0,none⟩ kind (p.1:Nat) (p.2:Nat);unfold UH;obtain⟨fs,gs⟩:=get_some (l:=X.fi) (i:=p.1) (by rw[hA.nf];omega);obtain⟨ft,gt⟩:=get_some (l:=X.fi) (i:=p.2) (by rw[hA.nf];omega);obtain⟨q,gq⟩:=get_some (l:=X.ar) (i:=p.1) (by rw[hA.nr];omega);refine (St.refl h).aq fun h3 hs=>?_;refine eh (fun c=>?_) (fun c=>eh (fun c2=>?_) (fun c2=>?_))
 .refine⟨(p.1:Nat),(p.2:Nat),hs.at 0 rfl (o:=0) (n:=2) rfl,?_⟩;refine (om ⟨b,0,none⟩ role X.bO X.bE X.bc X.bI X.fi X.li X.ag X.ow p.1 p.2 fs ft h3 (hA.ext hs.ext).r gs gt).mono ?_;rintro _ xG ⟨E,rfl⟩;replace hs:=hs.step E;have hc:dY X kind p=if (fs.l.find? (fw ft.l)).isSome then some 0 else none:=by unfold dY;rw[if_pos c,gs,gt]
  cases hf:fs.l.find? (fw ft.l) with
  | some x=>
   refine⟨x.send,x.peer,x.label,true,rfl,?_⟩;refine hs.ai (vs:=x.cs) rfl rfl fun EL hs=>⟨hs.ext,?_⟩;rw[hc,hf];rfl
  | none=>
   refine⟨false,0,0,false,rfl,?_⟩;refine hs.ai (vs:=[.bool false,.int .i64 0,.int .i64 0]) rfl rfl fun EL hs=>⟨hs.ext,?_⟩;rw[hc,hf];rfl
 .refine⟨(p.1:Nat),(p.2:Nat),hs.at 0 rfl (o:=0) (n:=2) rfl,?_⟩;refine (BX ⟨b,0,none⟩ role X.bO X.bE X.bc X.bI X.fi X.li X.ag X.ow p.1 p.2 h3 (hA.ext hs.ext).r (by rw[hA.nw];omega) (by rw[hA.nl];omega) (by rw[hA.na];omega)).mono ?_;rintro _ xB ⟨⟨b2,rfl,mj⟩,E⟩;refine⟨b2,rfl,(hs.step E).ext,?_⟩;unfold dY;rw[if_neg c,if_pos c2];by_cases hC:JA X.li X.ag X.ow p.1 p.2
  .rw[if_pos hC,mj.2 hC];rfl
  .have:b2=false:=by
    cases b2
    .rfl
    .exact absurd (mj.1 rfl) hC
   rw[if_neg hC,this];rfl
 .refine⟨(p.1:Nat),(p.2:Nat),hs.at 0 rfl (o:=0) (n:=2) rfl,?_⟩;refine (oy b g role X p.1 p.2 ft q h3 (hA.ext hs.ext) gt gq (hq q (Yb gq))).mono ?_;rintro _ IP ⟨E,rfl⟩;replace hs:=hs.step E;refine⟨_,_,_,_,_,rfl,?_⟩;refine hs.ai (vs:=((bX ft.l q.2).getD cB).cs) rfl rfl fun O2 hs=>?_;refine⟨((bX ft.l q.2).getD cB).n,hs.rd 0 rfl (i:=1) rfl,hs.ext,?_⟩;unfold dY;rw[if_neg c,if_neg c2,gt,gq];simp only;cases bX ft.l q.2<;>rfl
abbrev Pr:=Nat × Nat
def mK(B:List (List Pr))(m:Nat):List (List Pr):=B++List.replicate (m-B.length) []
def fE(B:List (List Pr))(n:Nat)(p:Pr):List (List Pr):=(mK B (n+1)).set n ((mK B (n+1)).getD n []++[p])
def gU(O:List (Pr × Nat))(p:Pr)(n:Nat):Bool:=match aG O p with | some k=>decide (k<=n) | none=>false
def pq(cb ob bb:Nat)(bk:Sl)(O:List (Pr × Nat))(BS:List (Sl × List Pr))(R:List It):List It:=
 [.af cb [.map (some ob)] 293,.mp ob (O.map fun q=>(pV q.1,mM q.2)),.af bb [.slice bk.a bk.n bk.c] 350,.sl bk 92 1 ((BS.map Prod.fst).map fB)]++BS.map (nest 97 2 pC)++R
theorem Nv:cn Pz 350 92 1 24=true:=by kernel_rfl
theorem tF{h0 h cA:Heap}{cb ob bb:Nat}{bk:Sl}{O:List (Pr × Nat)}{BS:List (Sl × List Pr)}{R:List It}{p:Pr}{n:Nat}{K:Value->Heap->Prop}
  (hs:St h0 cA (.af h.size (pC p) 97::pq cb ob bb bk O BS R)) (hO:∀q∈O,dG q.1) (SB:(O.map Prod.fst).Nodup) (hp:dG p) (hn:n<=16777216) (hB:BS.length<=16777216) (zt:∀q∈BS,q.2.length<=1048576)
  (hK:∀(ng:Sl) (jk:List (Sl × List Pr)) (h':Heap),St h0 h' (pq cb ob bb ng (bU O p n) jk R)->jk.map Prod.snd=fE (BS.map Prod.snd) n p->K (.tuple ⟨[]⟩) h') :
  Am cA ⟨cb,0,none⟩ h (n:Nat) ⟨bb,0,none⟩ K:=by
 unfold Am;refine⟨some ob,hs.rd 1 rfl (i:=0) rfl,(p.1:Nat),(p.2:Nat),hs.at 0 rfl (o:=0) (n:=2) rfl,?_⟩;refine hs.Bf (cv:=mM) (l:=O) GJ 2 rfl hO SB (a:=p) hp n fun zu hs=>?_;refine⟨fun h' m=>∃(ng:Sl) (jk:List (Sl × List Pr)) (k:Nat),m=n+1-jk.length/\St h0 h' (.af h.size (pC p) 97::pq cb ob bb ng (bU O p n) jk R)/\jk.map Prod.snd=BS.map Prod.snd++List.replicate k []/\(k=0\/jk.length<=n+1),⟨_,bk,BS,0,rfl,hs,by simp,.inl rfl⟩,?_⟩;clear hs;rintro-xB m ⟨ng,jk,k,rfl,hs,hBS,hk⟩;have BD:jk.length=BS.length+k:=by have:=congrArg List.length hBS;simpa using this
 have Mc:=hs.len 4 (s:=ng) (e:=92) (n:=1) (rows:=(jk.map Prod.fst).map fB) rfl (by omega);rw[Yc,Yc] at Mc;refine⟨ng,hs.rd 3 rfl (i:=0) rfl,aQ (fun c=>?_) (fun c=>?_)⟩
 .refine⟨ng,hs.rd 3 rfl (i:=0) rfl,?_⟩;refine hs.app 4 rfl Nv (m:=1) [fB ⟨none,0,0⟩] rfl rfl (fun r hr=>by rw[Ye] at hr;rw[hr];rfl) rfl (by omega) (by simp only[maxLen];omega) fun JU qt n22 hs=>?_;refine hs.put 3 rfl (o:=0) (vs:=[.slice JU.a JU.n JU.c]) rfl (aY 1) fun EI hs=>?_;have hs:=hs.cN 97 2;refine⟨_,?_,JU,jk++[(⟨none,0,0⟩,[])],k+1,rfl,hs.perm ?_,by rw[Ym,hBS,Yz,List.replicate_succ'];rfl,?_⟩
  .rw[Yh,Yv];omega
  .unfold pq;rw[Ym (f:=nest 97 2 pC),Ym (f:=Prod.fst),Ym (f:=fB)];have:(jk.map (nest 97 2 pC)++[(⟨none,0,0⟩,[])].map (nest 97 2 pC):List It)=jk.map (nest 97 2 pC)++[.sl ⟨none,0,0⟩ 97 2 []]:=rfl;rw[this];refine List.Perm.trans (l₂:=(.af h.size (pC p) 97::[.af cb [.map (some ob)] 293,.mp ob ((bU O p n).map fun q=>(pV q.1,mM q.2)),.af bb [.slice JU.a JU.n JU.c] 350,.sl JU 92 1 ((jk.map Prod.fst).map fB++[fB ⟨none,0,0⟩])]++jk.map (nest 97 2 pC)) ++ .sl ⟨none,0,0⟩ 97 2 []::R) ?_ (List.Perm.of_eq (by simp[fB]));refine List.Perm.trans ?_ List.perm_middle.symm;exact List.Perm.of_eq (by simp[ay])
  .right
   rw[Yh,Yv];omega
 .have LC:n<jk.length:=by omega
  obtain⟨q,hq⟩:=get_some LC;have YQ:mK (BS.map Prod.snd) (n+1)=jk.map Prod.snd:=by
   unfold mK;rw[hBS,Yc];congr 2;omega
  have Ei:q.2.length<=1048576:=by
   have h1:(jk.map Prod.snd)[n]?=some q.2:=by rw[Yd,hq];rfl
   rw[hBS] at h1;rcases Nat.lt_or_ge n BS.length with h9 | h9
   .rw[jw (by rw[Yc];exact h9),Yd] at h1;obtain⟨q2,h2,h3⟩:=zL.1 h1;rw[<-h3];exact zt q2 (Yb h2)
   .rw[qJ (by rw[Yc];exact h9)] at h1;have:=List.eq_of_mem_replicate (Yb h1);rw[this];exact Nat.zero_le _
  refine⟨ng,hs.rd 3 rfl (i:=0) rfl,ng,hs.rd 3 rfl (i:=0) rfl,?_⟩;refine (hs.rows 4 rfl (by omega)).aF (by omega) (by omega) fun b28 o29 d gd u=>?_;replace gd:(jk.map Prod.fst)[n]?=some d:=gd;rw[Yd,hq] at gd;cases gd;refine⟨q.1,u.hd,(p.1:Nat),(p.2:Nat),hs.at 0 rfl (o:=0) (n:=2) rfl,?_⟩;refine hs.ak fun OY E33 hs=>⟨E33.sm,?_⟩;have jW:St h0 OY ((.af xB.size (pC p) 97 :: .af h.size (pC p) 97::[.af cb [.map (some ob)] 293,.mp ob ((bU O p n).map fun q=>(pV q.1,mM q.2)),.af bb [.slice ng.a ng.n ng.c] 350,.sl ng 92 1 ((jk.map Prod.fst).map fB)])++jk.map (nest 97 2 pC)++R):=hs;have py:=(jW.lF hq (by omega)).ln;refine jW.nL hq FO p (jW.at 0 rfl (o:=0) (n:=2) rfl) rfl rfl (by omega) (by simp only[maxLen];omega) fun r bx rn cp=>⟨?_,?_⟩
  .exact fT (jW.same cp 4 4 rfl rfl) lu
  .refine cp.set 5 rfl (by omega) (x:=(n:Nat)) (by omega) (by omega) r rfl rfl (fun b36 o37 sU mg=>?_) rfl;refine hK ng (jk.set n (r,q.2++[p])) sU ?_ ?_
   .have:=mg.drop 2;unfold pq;rw[List.map_set (f:=Prod.fst)];exact this
   .unfold fE;rw[YQ,List.map_set,Yo,Yd,hq];rfl
theorem Dk(h0 h:Heap)(cb ob bb:Nat)(bk:Sl)(O:List (Pr × Nat))(BS:List (Sl × List Pr))(R:List It)(p:Pr)(n:Nat)(hs:St h0 h (pq cb ob bb bk O BS R))(hO:∀q∈O,dG q.1)(SB:(O.map Prod.fst).Nodup)(hp:dG p)(hn:n<=16777216)(hB:BS.length<=16777216)(zt:∀q∈BS,q.2.length<=1048576):
  Fn Pz 226 #[.agg ⟨pC p⟩,.int .i64 (n:Nat),.pointer (some ⟨cb,0,none⟩),.pointer (some ⟨bb,0,none⟩)] h fun v h'=>v=.tuple ⟨[]⟩/\∃(ng:Sl) (jk:List (Sl × List Pr)),St h0 h' (pq cb ob bb ng (if gU O p n then O else bU O p n) jk R)/\jk.map Prod.snd=if gU O p n then BS.map Prod.snd else fE (BS.map Prod.snd) n p:=by
 apply PV (p.1:Nat) (p.2:Nat) (n:Nat) ⟨cb,0,none⟩ ⟨bb,0,none⟩;unfold Ug;refine hs.aq fun h3 hs=>?_;refine⟨some ob,hs.rd 1 rfl (i:=0) rfl,(p.1:Nat),(p.2:Nat),hs.at 0 rfl (o:=0) (n:=2) rfl,?_⟩;refine hs.yZ (cv:=mM) (l:=O) GJ 2 rfl hO SB (a:=p) hp ?_;cases hm:aG O p with
 | none=>
  refine⟨0,false,rfl,iX rfl ?_⟩;have hr:gU O p n=false:=by unfold gU;rw[hm]
  refine tF hs hO SB hp hn hB zt fun ng jk h' dW hb=>⟨rfl,ng,jk,?_,?_⟩
  .rw[hr];exact dW
  .rw[hr];exact hb
 | some k=>
  refine⟨(k:Nat),true,rfl,oU rfl ?_⟩;refine aQ (fun c=>?_) (fun c=>?_)
  .have hr:gU O p n=true:=by unfold gU;rw[hm];exact decide_eq_true (by omega)
   refine⟨rfl,bk,BS,?_,?_⟩
   .rw[hr];exact hs.drop 1
   .rw[hr];rfl
  .have hr:gU O p n=false:=by unfold gU;rw[hm];exact decide_eq_false (by omega)
   refine tF hs hO SB hp hn hB zt fun ng jk h' dW hb=>⟨rfl,ng,jk,?_,?_⟩
   .rw[hr];exact dW
   .rw[hr];exact hb
end Go.VC
end

section
namespace Go.VC
def bu(m:aV):Nat:=if 0<=m.x/\0<=m.y then 2 else 1
theorem cV(m:aV):1<=bu m/\bu m<=2:=by unfold bu;split<;>omega
inductive Dn (mv:Pr->List aV) (bj:Pr->Option Nat):Pr->Nat->Prop where
 | base {p:Pr} {c:Nat}:bj p=some c->Dn mv bj p c
 | step {p:Pr} {m:aV} {n:Nat}:m∈mv p->Dn mv bj (bp m) n->Dn mv bj p (n+bu m)
def lh(mv:Pr->List aV)(bj:Pr->Option Nat)(p:Pr)(n:Nat):Prop:=Dn mv bj p n/\∀k,Dn mv bj p k->n<=k
theorem nG{B:List (List Pr)}{m n:Nat}{l:List Pr}(h:(mK B n)[m]?=some l):B[m]?=some l\/l=[]:=by
 unfold mK at h;rcases Nat.lt_or_ge m B.length with h1 | h1
 .rw[jw h1] at h;exact .inl h
 .rw[qJ h1] at h;exact .inr (List.eq_of_mem_replicate (Yb h))
theorem tL{B:List (List Pr)}{m n:Nat}{l:List Pr}(h:B[m]?=some l):(mK B n)[m]?=some l:=by
 unfold mK;rw[jw (Ya.1 h).1];exact h
theorem tM(B:List (List Pr))(n:Nat):(mK B n).length=max B.length n:=by
 unfold mK;rw[Yh,Yg];omega
theorem AV(B:List (List Pr))(n:Nat)(p:Pr):(fE B n p).length=max B.length (n+1):=by
 unfold fE;rw[mF,tM]
theorem kr(B:List (List Pr))(n:Nat)(p:Pr):∃l0,(B[n]?=some l0\/l0=[])/\(mK B (n+1))[n]?=some l0/\(fE B n p)[n]?=some (l0++[p]):=by
 have hl:n<(mK B (n+1)).length:=by rw[tM];omega
 obtain⟨l0,h0⟩:=get_some hl;refine⟨l0,nG h0,h0,?_⟩;unfold fE;rw[Yq hl,Yo,h0];rfl
theorem Dl{B:List (List Pr)}{n m:Nat}{p x:Pr}{l:List Pr}(h:(fE B n p)[m]?=some l)(hx:x∈l):(∃l0,B[m]?=some l0/\x∈l0)\/(m=n/\x=p):=by
 by_cases e:n=m
 .subst e;obtain⟨l0,h1,_,h2⟩:=kr B n p;rw[h2] at h;cases h;rcases Yk.1 hx with hx | hx
  .rcases h1 with h1 | h1
   .exact .inl ⟨l0,h1,hx⟩
   .subst h1;cases hx
  .exact .inr ⟨rfl,by simpa using hx⟩
 .unfold fE at h;rw[Yy e] at h;rcases nG h with h1 | h1
  .exact .inl ⟨l,h1,hx⟩
  .subst h1;cases hx
theorem pR{B:List (List Pr)}{n m:Nat}{p:Pr}{l0:List Pr}(h:B[m]?=some l0):∃l,(fE B n p)[m]?=some l/\(l=l0\/(m=n/\l=l0++[p])):=by
 by_cases e:n=m
 .subst e;obtain⟨l1,_,h1,h2⟩:=kr B n p;rw[tL h] at h1;cases h1;exact⟨_,h2,.inr ⟨rfl,rfl⟩⟩
 .refine⟨l0,?_,.inl rfl⟩;unfold fE;rw[Yy e];exact tL h
structure OB (A:List Pr) (mv:Pr->List aV) (bj:Pr->Option Nat) (O:List (Pr × Nat)) (B:List (List Pr)):Prop where
 on:(O.map Prod.fst).Nodup
 oa:∀q∈O,q.1∈A
 d:∀p n,aG O p=some n->Dn mv bj p n
 b1:∀(n:Nat) (l:List Pr),B[n]?=some l->∀p∈l,p∈A/\∃k,k<=n/\aG O p=some k
 b2:∀p n,aG O p=some n->∃l,B[n]?=some l/\p∈l
 nd:∀(n:Nat) (l:List Pr),B[n]?=some l->l.Nodup
def lA(O:List (Pr × Nat))(p:Pr)(n:Nat):List (Pr × Nat):=if gU O p n then O else bU O p n
def oX(O:List (Pr × Nat))(B:List (List Pr))(p:Pr)(n:Nat):List (List Pr):=if gU O p n then B else fE B n p
theorem yl{O:List (Pr × Nat)}{p:Pr}{n:Nat}:gU O p n=true ↔ ∃k,k<=n/\aG O p=some k:=by
 unfold gU;cases h:aG O p with
 | none=>simp
 | some k=>simp
theorem OB.put{A:List Pr}{mv:Pr->List aV}{bj:Pr->Option Nat}{O:List (Pr × Nat)}{B:List (List Pr)}(h:OB A mv bj O B){p:Pr}{n:Nat}(hp:p∈A)(hd:Dn mv bj p n):OB A mv bj (lA O p n) (oX O B p n):=by
 unfold lA oX;by_cases hr:gU O p n=true
 .rw[if_pos hr,if_pos hr];exact h
 .rw[if_neg hr,if_neg hr];have fQ:¬∃k,k<=n/\aG O p=some k:=fun h9=>hr (yl.2 h9);refine⟨eI _ _ _ h.on,fun q hq=>?_,fun x m hx=>?_,fun m l hl x hx=>?_,fun x m hx=>?_,fun m l hl=>?_⟩
  .have:=(et p n O q.1).1 (Yp.2 ⟨q,hq,rfl⟩);rcases this with h1 | h1
   .obtain⟨q2,h2,h3⟩:=Yp.1 h1;rw[<-h3];exact h.oa q2 h2
   .rw[h1];exact hp
  .rw[cu] at hx;split at hx
   .rename_i e;cases hx;rw[e];exact hd
   .exact h.d x m hx
  .rw[cu];rcases Dl hl hx with ⟨l0,h1,h2⟩ | ⟨h1,h2⟩
   .obtain⟨h3,k,h4,h5⟩:=h.b1 m l0 h1 x h2;refine⟨h3,?_⟩;by_cases e:x=p
    .refine⟨n,?_,by rw[if_pos e]⟩;subst e;rcases Nat.lt_or_ge n k with h6 | h6
     .omega
     .exact absurd ⟨k,h6,h5⟩ fQ
    .exact⟨k,h4,by rw[if_neg e];exact h5⟩
   .subst h2;exact⟨hp,n,by omega,by rw[if_pos rfl]⟩
  .rw[cu] at hx;split at hx
   .rename_i e;cases hx;subst e;obtain⟨l0,_,_,h2⟩:=kr B n x;exact⟨_,h2,by simp⟩
   .obtain⟨l0,h1,h2⟩:=h.b2 x m hx;obtain⟨l,h3,h4⟩:=pR (n:=n) (p:=p) h1;refine⟨l,h3,?_⟩;rcases h4 with rfl | ⟨_,rfl⟩
    .exact h2
    .exact List.mem_append_left _ h2
  .by_cases e:n=m
   .subst e;obtain⟨l0,h1,_,h2⟩:=kr B n p;rw[h2] at hl;cases hl;rw[List.nodup_append];refine⟨?_,by simp,fun a ha b hb e=>?_⟩
    .rcases h1 with h1 | h1
     .exact h.nd n l0 h1
     .subst h1;exact .nil
    .rw[Ye] at hb;subst hb;subst e;rcases h1 with h1 | h1
     .obtain⟨_,k,h4,h5⟩:=h.b1 n l0 h1 a ha;exact fQ ⟨k,h4,h5⟩
     .subst h1;cases ha
   .unfold fE at hl;rw[Yy e] at hl;rcases nG hl with h1 | h1
    .exact h.nd m l h1
    .subst h1;exact .nil
theorem mU{O:List (Pr × Nat)}{p x:Pr}{n k:Nat}(h:aG O x=some k):∃k',k'<=k/\aG (lA O p n) x=some k':=by
 unfold lA;by_cases hr:gU O p n=true
 .rw[if_pos hr];exact⟨k,aY _,h⟩
 .rw[if_neg hr,cu];by_cases e:x=p
  .refine⟨n,?_,by rw[if_pos e]⟩;subst e;rcases Nat.lt_or_ge n k with h6 | h6
   .omega
   .exact absurd (yl.2 ⟨k,h6,h⟩) hr
  .exact⟨k,aY _,by rw[if_neg e];exact h⟩
theorem yq(O:List (Pr × Nat))(p:Pr)(n:Nat):∃k',k'<=n/\aG (lA O p n) p=some k':=by
 unfold lA;by_cases hr:gU O p n=true
 .rw[if_pos hr];exact yl.1 hr
 .rw[if_neg hr,cu,if_pos rfl];exact⟨n,aY _,rfl⟩
theorem tG{O:List (Pr × Nat)}{p x:Pr}{n k:Nat}(h:aG O x=some k)(hk:k<=n):aG (lA O p n) x=some k:=by
 unfold lA;by_cases hr:gU O p n=true
 .rw[if_pos hr];exact h
 .rw[if_neg hr,cu,if_neg (fun e=>hr (yl.2 ⟨k,hk,by rw[<-e];exact h⟩))];exact h
theorem Dj{O:List (Pr × Nat)}{p x:Pr}{n k:Nat}(h:aG (lA O p n) x=some k):aG O x=some k\/(x=p/\k=n):=by
 unfold lA at h;by_cases hr:gU O p n=true
 .rw[if_pos hr] at h;exact .inl h
 .rw[if_neg hr,cu] at h;split at h
  .rename_i e;cases h;exact .inr ⟨e,rfl⟩
  .exact .inl h
theorem tJ(O:List (Pr × Nat))(B:List (List Pr))(p:Pr)(n:Nat):(oX O B p n).length<=max B.length (n+1):=by
 unfold oX;split
 .omega
 .rw[AV];exact aY _
theorem pQ{O:List (Pr × Nat)}{B:List (List Pr)}{p:Pr}{n m:Nat}{l:List Pr}(h:B[m]?=some l)(hm:m≠n):(oX O B p n)[m]?=some l:=by
 unfold oX;split
 .exact h
 .obtain⟨l',h1,h2⟩:=pR (n:=n) (p:=p) h;rcases h2 with rfl | ⟨h2,_⟩
  .exact h1
  .exact absurd h2 hm
structure vV (A:List Pr) (mv:Pr->List aV) (bj:Pr->Option Nat) (C n i:Nat) (Z:List Pr) (O:List (Pr × Nat)) (B:List (List Pr)):Prop where
 ob:OB A mv bj O B
 c:∀p∈A,∀c,bj p=some c->∃k,k<=c/\aG O p=some k
 zn:Z.Nodup
 za:∀p∈Z,p∈A
 f:∀p∈Z,∃k,aG O p=some k/\(k<n\/(k=n/\∃l,B[n]?=some l/\p∈l.take i))/\∀q∈A,∀m∈mv q,bp m=p->∃k',k'<=k+bu m/\aG O q=some k'
 g:∀p k,aG O p=some k->(k<n\/(k=n/\∃l,B[n]?=some l/\p∈l.take i))->p∈Z
 ln:B.length<=C+2*Z.length
theorem vV.start{A:List Pr}{mv:Pr->List aV}{bj:Pr->Option Nat}{C:Nat}{O:List (Pr × Nat)}{B:List (List Pr)}(h:OB A mv bj O B)(hc:∀p∈A,∀c,bj p=some c->∃k,k<=c/\aG O p=some k)(hl:B.length<=C):vV A mv bj C 0 0 [] O B:=
 ⟨h,hc,.nil,fun p hp=>(by cases hp),fun p hp=>(by cases hp),fun p k _ hk=>(by rcases hk with hk | ⟨_,l,_,hk⟩;omega;simp at hk),by simpa using hl⟩
theorem vV.next{A:List Pr}{mv:Pr->List aV}{bj:Pr->Option Nat}{C n i:Nat}{Z:List Pr}{O:List (Pr × Nat)}{B:List (List Pr)}(h:vV A mv bj C n i Z O B){l:List Pr}(hl:B[n]?=some l)(hi:l.length<=i):vV A mv bj C (n+1) 0 Z O B:=by
 refine⟨h.ob,h.c,h.zn,h.za,fun p hp=>?_,fun p k hk h1=>?_,h.ln⟩
 .obtain⟨k,h1,h2,h3⟩:=h.f p hp;exact⟨k,h1,.inl (by omega),h3⟩
 .refine h.g p k hk ?_;rcases h1 with h1 | ⟨_,l',_,h1⟩
  .by_cases e:k<n
   .exact .inl e
   .obtain rfl:k=n:=by omega
    obtain⟨l2,h4,h5⟩:=h.ob.b2 p k hk;rw[hl] at h4;cases h4;exact .inr ⟨rfl,l,hl,by rw[Yj hi];exact h5⟩
  .simp at h1
theorem vV.skip{A:List Pr}{mv:Pr->List aV}{bj:Pr->Option Nat}{C n i:Nat}{Z:List Pr}{O:List (Pr × Nat)}{B:List (List Pr)}(h:vV A mv bj C n i Z O B){l:List Pr}(hl:B[n]?=some l){p:Pr}(hp:l[i]?=some p)(bz:aG O p≠some n):vV A mv bj C n (i+1) Z O B:=by
 refine⟨h.ob,h.c,h.zn,h.za,fun q hq=>?_,fun q k hk h1=>?_,h.ln⟩
 .obtain⟨k,h1,h2,h3⟩:=h.f q hq;refine⟨k,h1,h2.imp_right fun ⟨h4,l',h5,h6⟩=>⟨h4,l',h5,?_⟩,h3⟩;rw[hl] at h5;cases h5;rw[aj hp];exact List.mem_append_left _ h6
 .refine h.g q k hk (h1.imp_right fun ⟨h4,l',h5,h6⟩=>⟨h4,l',h5,?_⟩);rw[hl] at h5;cases h5;rw[aj hp,Yk,Ye] at h6;rcases h6 with h6 | rfl
  .exact h6
  .exact absurd (h4 ▸ hk) bz
structure Oc (A:List Pr) (mv:Pr->List aV) (bj:Pr->Option Nat) (C n i:Nat) (Z:List Pr) (p:Pr) (rec:List aV) (j:Nat) (O:List (Pr × Nat)) (B:List (List Pr)):Prop where
 ob:OB A mv bj O B
 c:∀p∈A,∀c,bj p=some c->∃k,k<=c/\aG O p=some k
 f:∀q∈Z,∃k,aG O q=some k/\(k<n\/(k=n/\∃l,B[n]?=some l/\q∈l.take i))/\∀q'∈A,∀m∈mv q',bp m=q->∃k',k'<=k+bu m/\aG O q'=some k'
 g:∀q k,aG O q=some k->(k<n\/(k=n/\∃l,B[n]?=some l/\q∈l.take i))->q∈Z
 pn:aG O p=some n
 bn:∃l,B[n]?=some l/\l[i]?=some p
 r:∀m∈rec.take j,∃k',k'<=n+bu m/\aG O (bp m)=some k'
 ln:B.length<=C+2*(Z.length+1)
theorem vV.take{A:List Pr}{mv:Pr->List aV}{bj:Pr->Option Nat}{C n i:Nat}{Z:List Pr}{O:List (Pr × Nat)}{B:List (List Pr)}(h:vV A mv bj C n i Z O B){l:List Pr}(hl:B[n]?=some l){p:Pr}(hp:l[i]?=some p)(he:aG O p=some n)(rec:List aV):Oc A mv bj C n i Z p rec 0 O B:=
 ⟨h.ob,h.c,h.f,h.g,he,⟨l,hl,hp⟩,fun m hm=>(by simp at hm),by have:=h.ln;omega⟩
theorem Oc.put{A:List Pr}{mv:Pr->List aV}{bj:Pr->Option Nat}{C n i:Nat}{Z:List Pr}{p:Pr}{rec:List aV}{j:Nat}{O:List (Pr × Nat)}{B:List (List Pr)}(h:Oc A mv bj C n i Z p rec j O B)(oI:n+1<=C+2*Z.length){m:aV}(hm:rec[j]?=some m)(ha:bp m∈A)(hd:Dn mv bj (bp m) (n+bu m)):
  Oc A mv bj C n i Z p rec (j+1) (lA O (bp m) (n+bu m)) (oX O B (bp m) (n+bu m)):=by
 have sR:=cV m;have bH:∀ {m':Nat} {l:List Pr},m'<=n->B[m']?=some l->(oX O B (bp m) (n+bu m))[m']?=some l:=fun {m' l} h1 h2=>pQ h2 (by omega);have bk:∀ {l:List Pr},(oX O B (bp m) (n+bu m))[n]?=some l->B[n]?=some l:=fun {l} h1=>by
  obtain⟨l0,h2,_⟩:=h.bn;rw[bH (aY _) h2] at h1;cases h1;exact h2
 refine⟨h.ob.put ha hd,fun q hq c hc=>?_,fun q hq=>?_,fun q k hk h1=>?_,tG h.pn (by omega),?_,fun m' gL=>?_,?_⟩
 .obtain⟨k,h1,h2⟩:=h.c q hq c hc;obtain⟨k',h3,h4⟩:=mU (p:=bp m) (n:=n+bu m) h2;exact⟨k',by omega,h4⟩
 .obtain⟨k,h1,h2,h3⟩:=h.f q hq;refine⟨k,tG h1 (by rcases h2 with h2 | ⟨h2,_⟩<;>omega),h2.imp_right fun ⟨h4,l,h5,h6⟩=>⟨h4,l,bH (aY _) h5,h6⟩,fun q' uI m' gL he=>?_⟩;obtain⟨k',h4,h5⟩:=h3 q' uI m' gL he;obtain⟨k2,h6,h7⟩:=mU (p:=bp m) (n:=n+bu m) h5;exact⟨k2,by omega,h7⟩
 .rcases Dj hk with h2 | ⟨_,h2⟩
  .exact h.g q k h2 (h1.imp_right fun ⟨h4,l,h5,h6⟩=>⟨h4,l,bk h5,h6⟩)
  .rcases h1 with h1 | ⟨h1,_⟩<;>omega
 .obtain⟨l,h1,h2⟩:=h.bn;exact⟨l,bH (aY _) h1,h2⟩
 .rw[aj hm,Yk,Ye] at gL;rcases gL with gL | rfl
  .obtain⟨k,h1,h2⟩:=h.r m' gL;obtain⟨k',h3,h4⟩:=mU (p:=bp m) (n:=n+bu m) h2;exact⟨k',by omega,h4⟩
  .exact yq O (bp m') (n+bu m')
 .have h1:=tJ O B (bp m) (n+bu m);have h2:=h.ln;omega
theorem Oc.fin{A:List Pr}{mv:Pr->List aV}{bj:Pr->Option Nat}{C n i:Nat}{Z:List Pr}{p:Pr}{rec:List aV}{j:Nat}{O:List (Pr × Nat)}{B:List (List Pr)}(h:Oc A mv bj C n i Z p rec j O B)(hj:rec.length<=j)(zg:p∈A)(hz:Z.Nodup)(hza:∀p∈Z,p∈A)
  (Iu:∀q∈A,∀m∈mv q,bp m=p->∃r∈rec,bp r=q/\bu r=bu m):vV A mv bj C n (i+1) (p::Z) O B:=by
 obtain⟨l,hl,hp⟩:=h.bn;have hpZ:p∉Z:=fun hm=>by
  obtain⟨k,h1,h2,_⟩:=h.f p hm;rw[h.pn] at h1;cases h1;rcases h2 with h2 | ⟨_,l',h3,h4⟩
  .omega
  .rw[hl] at h3;cases h3;obtain⟨a,ha⟩:=Yf.1 h4;rw[vM] at ha;split at ha
   .have:=kv (h.ob.nd n l hl) ha hp;omega
   .cases ha
 refine⟨h.ob,h.c,List.nodup_cons.2 ⟨hpZ,hz⟩,fun q hq=>?_,fun q hq=>?_,fun q k hk h1=>?_,?_⟩
 .rcases Yr.1 hq with rfl | hq
  .exact zg
  .exact hza q hq
 .rcases Yr.1 hq with rfl | hq
  .refine⟨n,h.pn,.inr ⟨rfl,l,hl,by rw[aj hp];simp⟩,fun q' uI m hm he=>?_⟩;obtain⟨r,h1,h2,h3⟩:=Iu q' uI m hm he;obtain⟨k',h4,h5⟩:=h.r r (by rw[Yj hj];exact h1);rw[h2] at h5;exact⟨k',by omega,h5⟩
  .obtain⟨k,h1,h2,h3⟩:=h.f q hq;refine⟨k,h1,h2.imp_right fun ⟨h4,l',h5,h6⟩=>⟨h4,l',h5,?_⟩,h3⟩;rw[hl] at h5;cases h5;rw[aj hp];exact List.mem_append_left _ h6
 .by_cases e:q=p
  .rw[e];exact Yx
  .refine Yn _ (h.g q k hk (h1.imp_right fun ⟨h4,l',h5,h6⟩=>⟨h4,l',h5,?_⟩));rw[hl] at h5;cases h5;rw[aj hp,Yk,Ye] at h6;exact h6.resolve_right e
 .have:=h.ln;rw[mD];exact this
theorem vV.fin{A:List Pr}{mv:Pr->List aV}{bj:Pr->Option Nat}{C n i:Nat}{Z:List Pr}{O:List (Pr × Nat)}{B:List (List Pr)}(h:vV A mv bj C n i Z O B)(hn:B.length<=n)(ew:∀p∈A,∀m∈mv p,bp m∈A){p:Pr}(hp:p∈A)(k:Nat):(aG O p=some k ↔ lh mv bj p k)/\(aG O p=some k->k<B.length):=by
 have dQ:∀ {q:Pr} {k:Nat},aG O q=some k->k<B.length:=fun {q k} hk=>by
  obtain⟨l,h1,_⟩:=h.ob.b2 q k hk;exact (Ya.1 h1).1
 have key:∀ {q:Pr} {k:Nat},Dn mv bj q k->q∈A->∃k',k'<=k/\aG O q=some k':=fun {q k} hd=>by
  induction hd with
  | base hc=>exact fun hq=>h.c _ hq _ hc
  | @step q m k hm _ ih=>
   intro hq;obtain⟨k1,h1,h2⟩:=ih (ew q hq m hm);have h3:=h.g _ _ h2 (.inl (by have:=dQ h2;omega));obtain⟨k2,h4,_,h5⟩:=h.f _ h3;rw[h2] at h4;cases h4;obtain⟨k',h6,h7⟩:=h5 q hq m hm rfl;exact⟨k',by omega,h7⟩
 refine⟨⟨fun hk=>⟨h.ob.d p k hk,fun k2 hd=>?_⟩,fun ⟨h1,h2⟩=>?_⟩,dQ⟩
 .obtain⟨k',h3,h4⟩:=key hd hp;rw[hk] at h4;cases h4;exact h3
 .obtain⟨k',h3,h4⟩:=key h1 hp;have h5:=h2 k' (h.ob.d p k' h4);rw[h4,show k'=k by omega]
end Go.VC
end

section
namespace Go.VC
open Go.Proofs Go.LexS
abbrev NE:=Pr × (Sl × List aV)
def wa(e:NE):It:=nest 200 4 aV.cs e.2
def mL(N:List NE):List (Pr × Sl):=N.map fun e=>(e.1,e.2.1)
def sA(N:List NE)(q:Pr)(r:aV):Prop:=∃e∈N,e.1=q/\r∈e.2.2
def nj(N:List NE):Nat:=(N.map fun e=>e.2.2.length).sum
structure KJ (N:List NE) (a:Pr) (r:aV) (N':List NE):Prop where
 nd:(N'.map Prod.fst).Nodup
 ky:∀x,x∈N'.map Prod.fst ↔ x∈N.map Prod.fst\/x=a
 rc:∀q r',sA N' q r' ↔ sA N q r'\/(q=a/\r'=r)
 JP:nj N'=nj N+1
theorem ff(N:List NE):(mL N).map Prod.fst=N.map Prod.fst:=by unfold mL;rw[List.map_map];rfl
theorem th{α:Type}{l:List α}{j:Nat}{e:α}(h:l[j]?=some e):∃A B,l=A++e::B/\j=A.length:=by
 obtain⟨h1,h2⟩:=Ya.1 h;refine⟨l.take j,l.drop (j+1),?_,by rw[Yu];omega⟩;rw[<-h2,<-List.drop_eq_getElem_cons h1,List.take_append_drop]
theorem wI{α:Type}(x y e:α)(A R:List α):(x::y::(A++e::R)).Perm (e::x::y::(A++R)):=
 (((List.perm_middle (l₁:=A) (a:=e) (l₂:=R)).cons y).cons x).trans (((List.Perm.swap e y _).cons x).trans (List.Perm.swap e x _))
theorem KJ.v8{A B:List NE}{a:Pr}{s s':Sl}{rows:List aV}(r:aV)(hn:((A++(a,(s,rows))::B).map Prod.fst).Nodup):KJ (A++(a,(s,rows))::B) a r (A++(a,(s',rows++[r]))::B):=by
 have e1:(A++(a,(s',rows++[r]))::B).map Prod.fst=(A++(a,(s,rows))::B).map Prod.fst:=by simp
 refine⟨by rw[e1];exact hn,fun x=>by rw[e1];exact⟨.inl,fun h=>h.elim id fun e=>by rw[e];simp⟩,fun q r'=>?_,?_⟩
 .unfold sA;constructor
  .rintro⟨e,he,h1,h2⟩;rcases Yk.1 he with he | he
   .exact .inl ⟨e,List.mem_append_left _ he,h1,h2⟩
   .rcases Yr.1 he with rfl | he
    .simp only at h1 h2;rcases Yk.1 h2 with h2 | h2
     .exact .inl ⟨(a,(s,rows)),by simp,h1,h2⟩
     .exact .inr ⟨h1.symm,by simpa using h2⟩
    .exact .inl ⟨e,by simp[he],h1,h2⟩
  .rintro (⟨e,he,h1,h2⟩ | ⟨rfl,rfl⟩)
   .rcases Yk.1 he with he | he
    .exact⟨e,List.mem_append_left _ he,h1,h2⟩
    .rcases Yr.1 he with rfl | he
     .exact⟨(a,(s',rows++[r])),by simp,h1,List.mem_append_left _ h2⟩
     .exact⟨e,by simp[he],h1,h2⟩
   .exact⟨(q,(s',rows++[r'])),by simp,rfl,by simp⟩
 .unfold nj;simp only[Ym,kf,List.sum_append,List.sum_cons,Yh,Yv];omega
theorem KJ.new{N:List NE}{a:Pr}{s':Sl}(r:aV)(hn:(N.map Prod.fst).Nodup)(ha:a∉N.map Prod.fst):KJ N a r (N++[(a,(s',[r]))]):=by
 refine⟨?_,fun x=>by rw[Ym,Yk];simp,fun q r'=>?_,?_⟩
 .rw[Ym,List.nodup_append];exact⟨hn,by simp,fun x hx y hy e=>by simp only[kf,List.map_nil,Ye] at hy;subst hy;subst e;exact ha hx⟩
 .unfold sA;constructor
  .rintro⟨e,he,h1,h2⟩;rcases Yk.1 he with he | he
   .exact .inl ⟨e,he,h1,h2⟩
   .rw[Ye] at he;subst he;exact .inr ⟨h1.symm,by simpa using h2⟩
  .rintro (⟨e,he,h1,h2⟩ | ⟨rfl,rfl⟩)
   .exact⟨e,List.mem_append_left _ he,h1,h2⟩
   .exact⟨(q,(s',[r'])),by simp,rfl,by simp⟩
 .unfold nj;rw[Ym,List.sum_append];simp
theorem CO{N:List NE}{e:NE}(h:e∈N):e.2.2.length<=nj N:=by
 obtain⟨A,B,rfl⟩:=List.append_of_mem h;unfold nj;simp only[Ym,kf,List.sum_append,List.sum_cons];omega
theorem Bl{h0 h:Heap}{rb ib:Nat}{N:List NE}{R:List It}{r:aV}{a:Pr}{K:Heap->Prop}(hs:St h0 h (.af rb r.cs 200 :: .mp ib ((mL N).map fun q=>(pV q.1,iA q.2))::(N.map wa++R)))
  (hN:(N.map Prod.fst).Nodup) (hk:∀x∈N.map Prod.fst,dG x) (ha:dG a) (ht:nj N<=10000000000)
  (hK:∀(h':Heap) (N':List NE),St h0 h' (.af rb r.cs 200 :: .mp ib ((mL N').map fun q=>(pV q.1,iA q.2))::(N'.map wa++R))->KJ N a r N'->K h') :
  br Pz (Instr.mapEntry 93 (.map (some ib)) (pV a)) h fun v46 pF=>∃Oe:Sl,∃n49:Int,v46=.tuple ⟨[.slice Oe.a Oe.n Oe.c,.int .i64 n49]⟩ /\
   (App Pz 197 197 (.slice Oe.a Oe.n Oe.c) (.slice (some ⟨rb,0,none⟩) 1 1) pF fun HD BG=>(br Pz (Instr.entryStore 93 (.map (some ib)) (.int .i64 n49) (.slice HD.a HD.n HD.c)) BG (fun _ EF=>K EF))):=by
 have El:((mL N).map Prod.fst).Nodup:=by rw[ff];exact hN
 refine hs.K9 (cv:=iA) (l:=mL N) vU 1 rfl (fun q hq=>hk _ (by rw[<-ff];exact Yp.2 ⟨q,hq,rfl⟩)) El ha fun st o pF hs Bs=>?_;replace hs:St h0 pF (.af rb r.cs 200 :: .raw ib o::(N.map wa++R)):=hs;have one:([r.cs].flatten).all fF=true:=rfl;by_cases dQ:a∈N.map Prod.fst
 .obtain⟨e,he,rfl⟩:=Yp.1 dQ;obtain⟨A,B,rfl⟩:=List.append_of_mem he;obtain⟨a,s,rows⟩:=e;have hj:(mL (A++(a,(s,rows))::B))[A.length]?=some (a,s):=by unfold mL;simp
  have hg:aG (mL (A++(a,(s,rows))::B)) a=some s:=eu El hj;have hm:∀y:Sl,bU (mL (A++(a,(s,rows))::B)) a y=mL (A++(a,(y,rows++[r]))::B):=fun y=>by
   rw[iG El hj];unfold mL;simp
  simp only at Bs ⊢;rw[hg];refine⟨s,st,rfl,?_⟩;rw[Ym,kf,Yz,List.cons_append] at hs;replace hs:=hs.perm (wI _ _ _ _ _);have hlen:=hs.len 0 (s:=s) (e:=200) (n:=4) (rows:=rows.map aV.cs) rfl (by omega);rw[Yc] at hlen;have zd:=CO he;simp only at zd;refine hs.appended 0 (news:=[r.cs]) rfl j8 (hs.at 1 rfl (o:=0) (n:=4) rfl) rfl (fun q hq=>by rw[Ye] at hq;rw[hq];rfl) one (by show (s.n+1)*32<=140737488355328;omega) (by show s.n+1<=9223372036854775807;omega) fun HD BG n50 hs=>?_;refine hs.DG 2 rfl Bs HD fun EF hs=>?_;refine hK EF (A++(a,(HD,rows++[r]))::B) ?_ (KJ.v8 r hN);rw[hm] at hs;rw[Ym (f:=wa),kf,Yz,List.cons_append];refine hs.perm (List.Perm.trans ?_ (wI _ _ _ _ _).symm);refine List.Perm.of_eq ?_;simp[wa,nest]
 .have hg:aG (mL N) a=none:=iJ fun q hq e=>dQ (by rw[<-ff];exact Yp.2 ⟨q,hq,e⟩);have hm:∀y:Sl,bU (mL N) a y=mL (N++[(a,(y,[r]))]):=fun y=>by
   rw[iH fun q hq e=>dQ (by rw[<-ff];exact Yp.2 ⟨q,hq,e⟩)];unfold mL;simp
  rw[hg];refine⟨⟨none,0,0⟩,st,rfl,?_⟩;replace hs:=hs.cN 200 4;refine hs.appended 0 (news:=[r.cs]) rfl j8 (hs.at 1 rfl (o:=0) (n:=4) rfl) rfl (fun q hq=>by rw[Ye] at hq;rw[hq];rfl) one (by show (0+1)*32<=140737488355328;decide) (by show 0+1<=9223372036854775807;decide) fun HD BG n50 hs=>?_;refine hs.DG 2 rfl Bs HD fun EF hs=>?_;refine hK EF (N++[(a,(HD,[r]))]) ?_ (KJ.new r hN dQ);rw[hm] at hs;rw[Ym (f:=wa),Yz];exact hs.perm (wI _ _ _ _ _).symm
theorem St.K8{P:Program}{h0 h:Heap}{L:List It}(hs:St h0 h L){t kt e:TypeId}(ht:P.underlying t=some (.map kt e))(n:Int){K:Value->Heap->Prop}(hK:∀h',Ext h h'->St h0 h' (.mp h.size []::L)->K (.map (some h.size)) h'):br P (Instr.makeMap t (some (.int .i64 n))) h K:=by
 intro w hw;subst hw;obtain⟨v,w',h1,h2⟩:=hs.yY (P:=P) t hK w rfl;refine⟨v,w',?_,h2⟩;rw[<-h1];simp[Instr.makeMap,run_underlying ht,asInt,asIntOf,Result.andThen]
theorem St.Dd{h0 h:Heap}{L:List It}(hs:St h0 h L){s:Sl}{e:TypeId}{n:Nat}{rows:List (List Value)}(hi:.sl s e n rows∈L)(hn:0<n):Rw h n s rows:=(hs.ok _ hi).1.1.rw (hs.ok _ hi).1.2 hn
theorem kA{cb ob bb:Nat}{bk:Sl}{O:List (Pr × Nat)}{BS:List (Sl × List Pr)}{z:It}{NS:List It}:(pq cb ob bb bk O BS (z::NS)).Perm (z::(NS++pq cb ob bb bk O BS [])):=by
 have e:∀R,pq cb ob bb bk O BS R=pq cb ob bb bk O BS []++R:=fun R=>by unfold pq;simp
 rw[e (z::NS)];exact List.perm_middle.trans (List.perm_append_comm.cons _)
theorem pS{α:Type}(c a b z:α)(NS R:List α):(c::a::b::z::(NS++R)).Perm (c::z::(NS++a::b::R)):=by
 refine List.Perm.cons _ ?_;refine (List.Perm.cons a (List.Perm.swap z b _)).trans ((List.Perm.swap z a _).trans (List.Perm.cons z ?_));refine (List.Perm.trans ?_ List.perm_middle.symm);exact List.Perm.cons a List.perm_middle.symm
noncomputable def dZ(X:An)(kind:Int)(p:Pr):Option Nat:=(dY X kind p).map Int.toNat
def cO(g:Gl)(role:Int)(p:Pr):List aV:=bA g.es role p.1 p.2
def gD(p:Pr)(m:aV):aV:=⟨m.x,m.y,(p.1:Nat),(p.2:Nat)⟩
structure Jy (A:List Pr) (mv:Pr->List aV) (bj:Pr->Option Nat) (CB i:Nat) (O:List (Pr × Nat)) (B:List (List Pr)) (N:List NE):Prop where
 ob:OB A mv bj O B
 c:∀p∈A.take i,∀c,bj p=some c->∃k,k<=c/\aG O p=some k
 ln:B.length<=CB
 nn:(N.map Prod.fst).Nodup
 nk:∀x∈N.map Prod.fst,x∈A
 rc:∀q r,sA N q r ↔ ∃p∈A.take i,∃m∈mv p,bp m=q/\r=gD p m
 JP:nj N<=i*160800
structure pK (A:List Pr) (mv:Pr->List aV) (i j:Nat) (p:Pr) (N:List NE):Prop where
 nn:(N.map Prod.fst).Nodup
 nk:∀x∈N.map Prod.fst,x∈A
 rc:∀q r,sA N q r ↔ (∃p∈A.take i,∃m∈mv p,bp m=q/\r=gD p m)\/∃m∈(mv p).take j,bp m=q/\r=gD p m
 JP:nj N<=i*160800+j
theorem pK.step{A:List Pr}{mv:Pr->List aV}{i j:Nat}{p:Pr}{N N':List NE}(h:pK A mv i j p N){m:aV}(hm:(mv p)[j]?=some m)(ha:bp m∈A)(hu:KJ N (bp m) (gD p m) N'):pK A mv i (j+1) p N':=by
 refine⟨hu.nd,fun x hx=>?_,fun q r=>?_,by rw[hu.JP];have:=h.JP;omega⟩
 .rcases (hu.ky x).1 hx with h1 | h1
  .exact h.nk x h1
  .rw[h1];exact ha
 .rw[hu.rc,h.rc,aj hm];constructor
  .rintro ((h1 | ⟨m',h1,h2⟩) | ⟨h1,h2⟩)
   .exact .inl h1
   .exact .inr ⟨m',List.mem_append_left _ h1,h2⟩
   .exact .inr ⟨m,by simp,h1.symm,h2⟩
  .rintro (h1 | ⟨m',h1,h2⟩)
   .exact .inl (.inl h1)
   .rcases Yk.1 h1 with h1 | h1
    .exact .inl (.inr ⟨m',h1,h2⟩)
    .rw[Ye] at h1;subst h1;exact .inr ⟨h2.1.symm,h2.2⟩
theorem OB.bl{A:List Pr}{mv:Pr->List aV}{bj:Pr->Option Nat}{O:List (Pr × Nat)}{BS:List (Sl × List Pr)}(h:OB A mv bj O (BS.map Prod.snd))(hA:A.length<=40000):∀q∈BS,q.2.length<=1048576:=fun q hq=>by
 obtain⟨n,hn⟩:=Yf.1 hq;have hl:(BS.map Prod.snd)[n]?=some q.2:=by rw[Yd,hn];rfl
 have:=List.Nodup.length_le_of_subset (h.nd n q.2 hl) (l₂:=A) fun x hx=>(h.b1 n q.2 hl x hx).1;omega
theorem OB.gH{A:List Pr}{mv:Pr->List aV}{bj:Pr->Option Nat}{O:List (Pr × Nat)}{B:List (List Pr)}(h:OB A mv bj O B)(hk:∀p∈A,dG p):∀q∈O,dG q.1:=fun q hq=>hk _ (h.oa q hq)
theorem OB.empty(A:List Pr)(mv:Pr->List aV)(bj:Pr->Option Nat):OB A mv bj [] []:=
 ⟨.nil,fun q hq=>(by cases hq),fun p n h=>(by cases h),fun n l h=>(by simp at h),fun p n h=>(by cases h),fun n l h=>(by simp at h)⟩
abbrev JY(ib:Nat)(N:List NE):It:=.mp ib ((mL N).map fun q=>(pV q.1,iA q.2))
structure Pb (X:An) (kind:Int) (A:List Pr) (CB:Nat):Prop where
 a:∀q∈X.ar,∀x∈q.2,0<x.n
 c:∀p∈A,∀c,dY X kind p=some c->0<=c/\c<CB
 b:CB<=4194304
end Go.VC
end
