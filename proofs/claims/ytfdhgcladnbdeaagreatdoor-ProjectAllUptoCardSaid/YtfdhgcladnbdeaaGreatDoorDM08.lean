/- PjRe PjRf PjRg PjHa PjIa PjHb PjHc PjHd PjIb PjIc PjId PjIe PjUa PjUb PjUc PjUd PjUe PjUf PjUg PjUh PjUi PjKm PjLa PjLb PjLc PjLd PjLe0 PjShelfB PjLs PjLe PjLf PjLg PjLh PjLj PjLk PjLl PjLm. -/
import Derived.Test.YtfdhgcladnbdeaaGreatDoorDM07
import Derived.Lib.AppendZerosOnto
set_option linter.all false
set_option maxRecDepth 100000
set_option maxHeartbeats 8000000

section
namespace Go.VC
open Go.Proofs Go.LexS
theorem ints_set {L:List Int} {i:Nat} (h:i<L.length) (y:Int):splice (L.map (Value.int .i64)) i [.int .i64 y]=(L.set i y).map (Value.int .i64):=by
 rw[splice_set (by rw[Yc];exact h),List.map_set]
theorem bools_set {L:List Bool} {i:Nat} (h:i<L.length) (y:Bool):splice (L.map Value.bool) i [.bool y]=(L.set i y).map Value.bool:=by
 rw[splice_set (by rw[Yc];exact h),List.map_set]
theorem ints_flat:∀L:List Int,L.map (Value.int .i64)=(L.map inC).flatten
 | []=>rfl
 | a::L=>by rw[Yyl,Yyl,Yyu,ints_flat L];rfl
theorem made3I (n:Nat):madeL Pz 3 n=(List.replicate n (0:Int)).map (Value.int .i64):=by rw[made3,List.map_replicate]
theorem at_ints {L:List Int} {i:Nat} (h:i<L.length):∃y,(L.map (Value.int .i64))[i]?=some (.int .i64 y)/\L[i]?=some y:=⟨L[i],by rw[Yd,Yi h];rfl,Yi h⟩
theorem at_bools {L:List Bool} {i:Nat} (h:i<L.length):∃y,(L.map Value.bool)[i]?=some (.bool y)/\L[i]?=some y:=⟨L[i],by rw[Yd,Yi h];rfl,Yi h⟩
theorem ends115 (g:Gl) (h:Heap) (hg:GI h g) (hN:NumR g):Fn Pz 115 #[g.v] h fun v h'=>Ext h h'/\∃(s:Sl) (L:List Int),v=.slice s.a s.n s.c/\Rw h' 1 s (L.map inC)/\L.length=g.n.toNat/\∀v,Vis L v ↔ Rch g.es true g.e v:=by
 apply vc115 (bs g.nm) g.hr g.hd g.n g.s g.e g.he g.ht;unfold W115;have hen:=hg.e.ln;have hem:=hg.e.sm;obtain⟨N,hNn⟩:∃N:Nat,g.n=N:=⟨g.n.toNat,by have:=hN.n;omega⟩;have hn1:=hN.n;have hE:=hN.e;have htN:g.n.toNat=N:=by omega
 refine (St.refl h).newb fun h9 hs=>?_;refine⟨_,hs.rd 0 rfl rfl,⟨by omega,by omega,by omega⟩,?_⟩;rw[made3I];refine hs.newb fun h11 hs=>?_;refine⟨fun x h' m=>∃(i:Nat) (L:List Int),x=i/\i<=N/\m=N-i/\(L.length=N/\∀(j:Nat),j<i->L[j]?=some (-1))/\St h h' [.blk h9.size (L.map (Value.int .i64)) 3,.blk h.size g.cs 27],⟨_,0,_,rfl,by omega,rfl,⟨by rw[Yg];exact htN,fun j hj=>by omega⟩,hs⟩,?_⟩;rintro-_ h16 m ⟨i,L,rfl,hi,rfl,⟨hL,hLv⟩,hs⟩;refine⟨_,hs.rd 1 rfl rfl,sB_intro (fun c=>?_) (fun c0=>?_)⟩
 .replace c:=Yyn c;refine⟨⟨by omega,by omega⟩,?_⟩;rw[show 0+Int.toNat (i:Int)*1=i by simp];refine hs.put 0 rfl (o:=i) (vs:=[.int .i64 (-1)]) rfl (by rw[Yc];show i+1<=_;omega) fun h18 hs=>?_;rw[ints_set (by omega)] at hs;refine⟨_,by omega,i+1,L.set i (-1),by rw[w64 (by omega) (by omega)];omega,by omega,rfl,⟨by rw[Yyh];exact hL,fun j hj=>?_⟩,hs⟩;by_cases e:j=i
  .subst e;rw[Yq (by omega)]
  .rw[Yy (by omega)];exact hLv j (by omega)
 replace c0:=Yyo c0;have hLr:L=List.replicate N (-1):=Yyr fun j=>by
  by_cases hj:j<N
  .rw[hLv j (by omega),List.getElem?_replicate,if_pos hj]
  .rw[Yl (by omega),List.getElem?_replicate,if_neg hj]
 subst hLr;refine⟨_,hs.rd 1 rfl rfl,⟨by omega,by omega⟩,?_⟩;obtain⟨e,he⟩:∃e:Nat,g.e=e:=⟨g.e.toNat,by omega⟩;rw[he,show 0+Int.toNat (e:Int)*1=e by simp];refine hs.put 0 rfl (o:=e) (vs:=[.int .i64 0]) rfl (by rw[Yc];show e+1<=_;omega) fun h21 hs=>?_;rw[ints_set (by omega)] at hs;refine⟨fun x h' m=>∃(i:Nat) (L:List Int),x=i/\i<=N/\m=N-i/\EN g.es g.e N i L/\St h h' [.blk h9.size (L.map (Value.int .i64)) 3,.blk h.size g.cs 27],⟨_,0,_,rfl,by omega,rfl,?_,hs⟩,?_⟩
 .have:=EN.start (es:=g.es) (e:=g.e) (N:=N) (by omega) (by omega);rw[he] at this ⊢;exact this
 rintro-_ h26 m ⟨n,L2q,rfl,hn,rfl,en2,hs⟩;have hL2:=en2.len;refine⟨_,hs.rd 1 rfl rfl,sB_intro (fun c=>?_) (fun cE=>?_)⟩
 .replace c:=Yyn c;refine⟨fun x h' m=>∃(i:Nat) (L:List Int),x=i/\i<=g.he.n/\m=g.he.n-i/\(EN g.es g.e N n L/\ENk g.es n i L)/\St h h' [.blk h9.size (L.map (Value.int .i64)) 3,.blk h.size g.cs 27],⟨_,0,L2q,rfl,by omega,rfl,⟨en2,fun j y hj=>by omega⟩,hs⟩,?_⟩;rintro-_ h32 m ⟨k,L3,rfl,hk,rfl,⟨en3,ek⟩,hs⟩;have hL3:=en3.len;refine⟨_,hs.rd 1 rfl rfl,sB_intro (fun c2=>?_) (fun c2=>⟨_,by omega,n+1,L3,by rw[w64 (by omega) (by omega)];omega,by omega,rfl,en3.next ek (by have:=lt_f c2;omega),hs⟩)⟩;replace c2:=lt_t c2;refine⟨_,hs.rd 1 rfl rfl,?_⟩;refine (hg.e.rw.ext hs.ext).nbI (by omega) (by omega) fun b o x gx t=>?_;replace gx:g.es[k]?=some x:=gx;have hx:=hN.es x (Yb gx);obtain⟨xt,hxt⟩:∃a:Nat,x.t=a:=⟨x.t.toNat,by omega⟩;obtain⟨xf,hxf⟩:∃a:Nat,x.f=a:=⟨x.f.toNat,by omega⟩;refine⟨_,_,_,_,_,_,t,?_⟩;refine hs.newput (vs:=x.cs) rfl rfl fun h44 hs=>?_;obtain⟨y1,hy1,hz1⟩:=at_ints (L:=L3) (i:=xt) (by omega);obtain⟨y2,hy2,hz2⟩:=at_ints (L:=L3) (i:=xf) (by omega);have htt:x.t.toNat=xt:=by omega
  have htf:x.f.toNat=xf:=by omega
  have nxt:∀ {h':Heap} {L4:List Int},(EN g.es g.e N n L4/\ENk g.es n (k+1) L4)->St h h' [.blk h9.size (L4.map (Value.int .i64)) 3,.blk h.size g.cs 27]->∃m53,m53<g.he.n-k/\∃(i:Nat) (L:List Int),IntKind.wrap .i64 ((k:Int)+1)=i/\i<=g.he.n/\m53=g.he.n-i/\(EN g.es g.e N n L/\ENk g.es n i L)/\St h h' [.blk h9.size (L.map (Value.int .i64)) 3,.blk h.size g.cs 27]:=fun h4 hs=>
   ⟨_,by omega,k+1,_,by rw[w64 (by omega) (by omega)];omega,by omega,rfl,h4,hs⟩
  refine⟨x.t,hs.rd 0 rfl rfl,⟨by omega,by omega⟩,?_⟩;rw[hxt,show 0+Int.toNat (xt:Int)*1=xt by simp];refine⟨y1,hs.rd 1 rfl hy1,sBe (fun e1=>?_) (fun e1=>nxt ⟨en3,ek.skip gx fun _ hg1=>by rw[htt,hz1] at hg1;cases hg1;exact absurd rfl e1⟩ (hs.drop 1))⟩;refine⟨x.f,hs.rd 0 rfl rfl,⟨by omega,by omega⟩,?_⟩;rw[hxf,show 0+Int.toNat (xf:Int)*1=xf by simp];refine⟨y2,hs.rd 1 rfl hy2,sBi (fun e2=>?_) (fun e2=>nxt ⟨en3,ek.skip gx fun _ _=>⟨by omega,y2,by rw[htf];exact hz2,by omega⟩⟩ (hs.drop 1))⟩;refine⟨x.f,hs.rd 0 rfl rfl,⟨by omega,by omega⟩,?_⟩;rw[hxf,show 0+Int.toNat (xf:Int)*1=xf by simp];refine hs.put 1 rfl (o:=xf) (vs:=[.int .i64 (IntKind.wrap .i64 ((n:Int)+1))]) rfl (by rw[Yc];show xf+1<=_;omega) fun h50 hs=>?_;rw[ints_set (by omega)] at hs;rw[show IntKind.wrap .i64 ((n:Int)+1)=(n:Int)+1 from w64 (by omega) (by omega)] at hs;refine nxt ?_ (hs.drop 1);have:=en3.set ek gx (by omega) (by rw[htt,hz1,e1]) (by omega) (by rw[htf];exact hz2) e2;rw[htf] at this;exact this
 .have hfl:=ints_flat L2q;rw[htN];have hs2:=hs.blkS N 1 (L2q.map inC) hfl (inrows _) (by rw[Yc];exact hL2) (by show N<=9223372036854775807;omega);have hnN:n=N:=by have:=Yyo cE;omega
  have en3:EN g.es g.e N N L2q:=by rw[hnN] at en2;exact en2
  exact⟨hs.ext,⟨some ⟨h9.size,0,none⟩,N,N⟩,L2q,rfl,hs2.rows 0 rfl (by omega),hL2,fun v=>by rw[<-he];exact en3.end_ v⟩
theorem made4l (n:Nat):madeL Pz 4 n=(List.replicate n false).map Value.bool:=made4 n
structure ConS (g:Gl):Prop where
 f:∀v:Int,0<=v->v<g.n->Rch g.es false g.s v
 b:∀v:Int,0<=v->v<g.n->Rch g.es true g.e v
 e:∀x∈g.es,x.f≠g.e
theorem connected67 (g:Gl) (h:Heap) (hg:GI h g) (hN:NumR g):Fn Pz 67 #[g.v] h (RP (ConS g) h):=by
 apply vc67 (bs g.nm) g.hr g.hd g.n g.s g.e g.he g.ht;unfold W67;have hen:=hg.e.ln;have hem:=hg.e.sm;obtain⟨N,hNn⟩:∃N:Nat,g.n=N:=⟨g.n.toNat,by have:=hN.n;omega⟩;have hn1:=hN.n;have hS:=hN.s;have htN:g.n.toNat=N:=by omega
 refine (St.refl h).newb fun h9 hs=>?_;refine⟨_,hs.rd 0 rfl rfl,⟨by omega,by omega,by omega⟩,?_⟩;rw[made4l];refine hs.newb fun h11 hs=>?_;refine⟨_,hs.rd 1 rfl rfl,⟨by omega,by omega⟩,?_⟩;obtain⟨s0,hs0⟩:∃e:Nat,g.s=e:=⟨g.s.toNat,by omega⟩;rw[hs0,show 0+Int.toNat (s0:Int)*1=s0 by simp];refine hs.put 0 rfl (o:=s0) (vs:=[.bool true]) rfl (by rw[Yc,Yg];show s0+1<=_;omega) fun h13 hs=>?_;rw[bools_set (by rw[Yg];omega)] at hs;refine⟨fun x h' m=>∃(i:Nat) (L:List Bool),x=i/\i<=N/\m=N-i/\(RE g.es g.s N L/\RN g.es i 0 L)/\St h h' [.blk h9.size (L.map Value.bool) 4,.blk h.size g.cs 27],⟨_,0,_,rfl,by omega,rfl,?_,hs⟩,?_⟩
 .have:=RE.start (es:=g.es) (s:=g.s) (N:=N) (by omega) (by omega);rw[htN];rw[hs0] at this ⊢;exact this
 rintro-_ h18 m ⟨n,L,rfl,hn,rfl,⟨re1,rn1⟩,hs⟩;have hL:=re1.len;refine⟨_,hs.rd 1 rfl rfl,sB_intro (fun c=>?_) (fun cE=>?_)⟩
 .replace c:=Yyn c;refine⟨fun x h' m=>∃(i:Nat) (L:List Bool),x=i/\i<=g.he.n/\m=g.he.n-i/\(RE g.es g.s N L/\RN g.es n i L)/\St h h' [.blk h9.size (L.map Value.bool) 4,.blk h.size g.cs 27],⟨_,0,L,rfl,by omega,rfl,⟨re1,rn1⟩,hs⟩,?_⟩;rintro-_ h24 m ⟨k,L3,rfl,hk,rfl,⟨re3,rn3⟩,hs⟩;have hL3:=re3.len;refine⟨_,hs.rd 1 rfl rfl,sB_intro (fun c2=>?_) (fun c2=>⟨_,by omega,n+1,L3,by rw[w64 (by omega) (by omega)];omega,by omega,rfl,⟨re3,rn3.next (by have:=lt_f c2;omega)⟩,hs⟩)⟩;replace c2:=lt_t c2;have nxt:∀ {h':Heap} {L4:List Bool},(RE g.es g.s N L4/\RN g.es n (k+1) L4)->St h h' [.blk h9.size (L4.map Value.bool) 4,.blk h.size g.cs 27]->∃m53,m53<g.he.n-k/\∃(i:Nat) (L:List Bool),IntKind.wrap .i64 ((k:Int)+1)=i/\i<=g.he.n/\m53=g.he.n-i/\(RE g.es g.s N L/\RN g.es n i L)/\St h h' [.blk h9.size (L.map Value.bool) 4,.blk h.size g.cs 27]:=fun h4 hs=>
   ⟨_,by omega,k+1,_,by rw[w64 (by omega) (by omega)];omega,by omega,rfl,h4,hs⟩
  refine⟨_,hs.rd 1 rfl rfl,?_⟩;have hrw:=hg.e.rw.ext hs.ext;refine hrw.nbI (by omega) (by omega) fun b o x gx t=>?_;replace gx:g.es[k]?=some x:=gx;have hx:=hN.es x (Yb gx);obtain⟨xt,hxt⟩:∃a:Nat,x.t=a:=⟨x.t.toNat,by omega⟩;obtain⟨xf,hxf⟩:∃a:Nat,x.f=a:=⟨x.f.toNat,by omega⟩;obtain⟨y1,hy1,hz1⟩:=at_bools (L:=L3) (i:=xt) (by omega);obtain⟨y2,hy2,hz2⟩:=at_bools (L:=L3) (i:=xf) (by omega);have htt:x.t.toNat=xt:=by omega
  have htf:x.f.toNat=xf:=by omega
  have same:∀ {b:Bool},L3[xt]?=some b->L3.set xt b=L3:=fun {b} hb=>by
   obtain⟨hl,he⟩:=Ya.1 hb;rw[<-he,List.set_getElem_self]
  refine⟨x.t,t.nth 4 rfl,?_⟩;refine⟨_,hs.rd 1 rfl rfl,?_⟩;refine hrw.nbI (by omega) (by omega) fun b o x' gx' t'=>?_;replace gx':g.es[k]?=some x':=gx';rw[gx] at gx';cases gx';refine⟨x.t,t'.nth 4 rfl,⟨by omega,by omega⟩,?_⟩;rw[hxt,show 0+Int.toNat (xt:Int)*1=xt by simp];refine⟨y1,hs.rd 0 rfl hy1,sB_intro (fun e1=>?_) (fun e1=>?_)⟩
  .refine⟨⟨by omega,by omega⟩,?_⟩;refine hs.put 0 rfl (o:=xt) (vs:=[.bool true]) rfl (by rw[Yc];show xt+1<=_;omega) fun h35 hs=>?_;rw[bools_set (by omega),same (by rw[hz1,e1])] at hs;exact nxt ⟨re3,rn3.skip gx fun _=>⟨by omega,by rw[htt,hz1,e1]⟩⟩ hs
  .refine⟨_,hs.rd 1 rfl rfl,?_⟩;refine hrw.nbI (by omega) (by omega) fun b o x' gx' t'=>?_;replace gx':g.es[k]?=some x':=gx';rw[gx] at gx';cases gx';refine⟨x.f,t'.nth 0 rfl,⟨by omega,by omega⟩,?_⟩;rw[hxf,show 0+Int.toNat (xf:Int)*1=xf by simp];refine⟨y2,hs.rd 0 rfl hy2,⟨by omega,by omega⟩,?_⟩;refine hs.put 0 rfl (o:=xt) (vs:=[.bool y2]) rfl (by rw[Yc];show xt+1<=_;omega) fun h42 hs=>?_;rw[bools_set (by omega)] at hs;refine nxt ?_ hs;cases y2 with
   | true=>
    have:=re3.set rn3 gx (by omega) (by rw[htt,hz1,e1]) (by omega) (by rw[htf];exact hz2);rw[htt] at this;exact this
   | false=>
    rw[same (by rw[hz1,e1])];exact⟨re3,rn3.skip gx fun hv=>by have:=hv.2;rw[htf,hz2] at this;cases this⟩
 .refine⟨_,_,_,_,_,_,_,_,hs.at 1 rfl (o:=0) (n:=8) rfl,?_⟩;refine (ends115 g h18 (hg.ext hs.ext) hN).mono ?_;rintro _ h55 ⟨E,l,L2q,rfl,hl,hl2,hvis⟩;have hnN:n=N:=by have:=Yyo cE;omega
  have rn2:RN g.es N 0 L:=by rw[hnN] at rn1;exact rn1
  have hreach:=re1.end_ rn2;have hs:=hs.step E;have hln:=hl.ln;refine⟨_,rfl,?_⟩;refine⟨fun x h' m=>∃i:Nat,x=i/\i<=N/\m=N-i/\h'=h55/\∀v:Int,0<=v->v<i->Rch g.es false g.s v/\Rch g.es true g.e v,⟨_,0,rfl,by omega,rfl,rfl,fun v h1 h2=>by omega⟩,?_⟩;rintro-_ h60 m ⟨i,rfl,hi,rfl,rfl,hq⟩;refine⟨_,hs.rd 1 rfl rfl,sB_intro (fun c=>?_) (fun c=>?_)⟩
  .replace c:=Yyn c;obtain⟨y1,hy1,hz1⟩:=at_bools (L:=L) (i:=i) (by omega);refine⟨⟨by omega,by omega⟩,?_⟩;rw[show 0+Int.toNat (i:Int)*1=i by simp];refine⟨y1,hs.rd 0 rfl hy1,sB_intro (fun e1=>RP.f (fun hG=>?_) hs.ext) (fun e1=>?_)⟩
   .have:=((hreach i).2 (hG.f i (by omega) (by omega))).2;rw[show ((i:Int)).toNat=i from rfl,hz1] at this;cases this;cases e1
   refine hl.nbI (by omega) (by omega) fun b o y gy t=>?_;replace gy:L2q[i]?=some y:=gy;refine⟨_,t.nth 0 rfl,sBi (fun e2=>RP.f (fun hG=>?_) hs.ext) (fun e2=>⟨_,by omega,i+1,by rw[w64 (by omega) (by omega)];omega,by omega,rfl,rfl,fun v h1 h2=>?_⟩)⟩
   .obtain⟨_,d,hd,hd0⟩:=(hvis i).2 (hG.b i (by omega) (by omega));rw[show ((i:Int)).toNat=i from rfl,gy] at hd;cases hd;omega
   .by_cases e:v=(i:Int)
    .subst e;exact⟨(hreach i).1 ⟨by omega,by rw[show ((i:Int)).toNat=i from rfl,hz1,bT e1]⟩,(hvis i).1 ⟨by omega,y,gy,by omega⟩⟩
    .exact hq v h1 (by omega)
  .refine⟨_,_,_,_,_,_,_,_,hs.at 1 rfl (o:=0) (n:=8) rfl,_,hs.rd 1 rfl rfl,?_⟩;refine (edges116 g g.e _ (hg.ext hs.ext)).mono ?_;rintro _ h78 ⟨⟨q,rfl,hqe⟩,E⟩;replace c:=Yyo c;refine⟨_,rfl,RP.e ?_ (hs.step E).ext⟩;have hb:∀b:Bool,(b=true ↔ q.n=0)->(b=true ↔ ConS g):=fun b hb=>hb.trans (hqe.trans ⟨fun he=>⟨fun v h1 h2=>(hq v h1 (by omega)).1,fun v h1 h2=>(hq v h1 (by omega)).2,he⟩,fun hG=>hG.e⟩);refine hb _ ?_;simp
theorem names64 (g:Gl) (h:Heap) (hg:GI h g) (hM:GNm g.ds):Fn Pz 64 #[g.v] h (RP (NamedS g/\DeclS g.ds) h):=by
 apply vc64 (bs g.nm) g.hr g.hd g.n g.s g.e g.he g.ht;unfold W64;have hrn:=hg.r.ln;have hrm:=hg.r.sm;refine (St.refl h).newb fun h9 hs=>?_;refine up_loopS (n:=g.hr.n) hs (fun i=>∀(j:Nat) (s:Nm),j<i->g.rs[j]?=some s->isWord s=true/\s∉g.rs.take j) (fun j s hj=>by omega) ?_;rintro-i h14 hi ⟨hs,hq⟩;refine⟨_,hs.rd 0 rfl rfl,sB_intro (fun c=>?_) (fun c=>?_)⟩
 .replace c:=lt_t c;refine⟨_,hs.rd 0 rfl rfl,?_⟩;refine (hg.r.rw.ext hs.ext).nbI (by omega) (by omega) fun b o x gx t=>?_;replace gx:g.rs[i]?=some x:=gx;refine⟨_,t.nth 0 rfl,?_⟩;refine (isWord111 (bs x) h14).mono ?_;rintro _ h22 ⟨rfl,E⟩;have hs:=hs.step E;refine⟨_,rfl,sB_intro (fun c1=>RP.f (fun hG=>?_) hs.ext) (fun c1=>?_)⟩
  .have:=(hG.1.r i x gx).1;rw[bs_list,this] at c1;cases c1
  refine⟨_,hs.rd 0 rfl rfl,_,hs.rd 0 rfl rfl,?_⟩;refine (hg.r.rw.ext hs.ext).nbI (by omega) (by omega) fun b o x2 gx2 t=>?_;replace gx2:g.rs[i]?=some x2:=gx2;rw[gx] at gx2;cases gx2;refine⟨_,t.nth 0 rfl,?_⟩;refine (index112 g.rs g.hr (bs x) h22 (hg.r.rw.ext hs.ext) hrm).mono ?_;rintro _ h30 ⟨⟨k,rfl,hk⟩,rfl⟩;replace hk:=hk i (by omega);rw[bs_list] at hk;have hxm:x∈g.rs:=Yb gx;refine⟨_,rfl,fun _ _ _ _ hv=>hv,sBi (fun c2=>RP.f (fun hG=>?_) hs.ext) (fun c2=>Up.next c (by omega) ⟨hs,fun j s hj hj2=>?_⟩)⟩
  .rcases hk.1 c2 with h1 | h1
   .exact (hG.1.r i x gx).2 h1
   .exact h1 hxm
  .by_cases e:j=i
   .subst e;rw[gx] at hj2;cases hj2;refine⟨by have:=bT c1;rw[bs_list] at this;exact this,fun hm=>c2 (hk.2 (.inl hm))⟩
   .exact hq j s (by omega) hj2
 .replace c:=lt_f c;refine⟨_,hs.rd 0 rfl rfl,?_⟩;refine (isWord111 (bs g.nm) h14).mono ?_;rintro _ h35 ⟨rfl,E⟩;have hs:=hs.step E;refine⟨_,rfl,sB_intro (fun c1=>⟨_,hs.rd 0 rfl rfl,sBi (fun c2=>⟨_,hs.rd 0 rfl rfl,sBi (fun c3=>⟨_,hs.rd 0 rfl rfl,?_⟩) (fun c3=>RP.f (fun hG=>c3 (by have:=hG.1.n6;omega)) hs.ext)⟩) (fun c2=>RP.f (fun hG=>c2 (by have:=hG.1.n1;omega)) hs.ext)⟩) (fun c1=>RP.f (fun hG=>by rw[bs_list,hG.1.w] at c1;cases c1) hs.ext)⟩;refine (refValid113 g.ds g.hd h35 (hg.d.ext hs.ext) hM).mono ?_;rintro _ h41 ⟨⟨b2,rfl,hb2⟩,E⟩;refine⟨_,rfl,RP.e (hb2.trans ⟨fun hd=>⟨⟨by rw[bs_list] at c1;exact c1,by omega,by omega,fun j s hj=>hq j s (by have:=(Ya.1 hj).1;omega) hj⟩,hd⟩,fun hG=>hG.2⟩) (hs.step E).ext⟩
theorem refValid31 (g:Gl) (h:Heap) (hg:GI h g) (hM:GNm g.ds):Fn Pz 31 #[g.v] h (RP (ValidS g) h):=by
 apply vc31 (bs g.nm) g.hr g.hd g.n g.s g.e g.he g.ht;unfold W31;refine (St.refl h).newb fun h9 hs=>?_;refine⟨_,_,_,_,_,_,_,_,hs.at 0 rfl (o:=0) (n:=8) rfl,?_⟩;refine (names64 g h9 (hg.ext hs.ext) hM).mono ?_;rintro _ h20 ⟨⟨b1,rfl,hb1⟩,E⟩;have hs:=hs.step E;refine⟨_,rfl,sB_intro (fun c1=>?_) (fun c1=>RP.f (fun hG=>iff_f hb1 c1 ⟨hG.nam,hG.dcl⟩) hs.ext)⟩;refine⟨_,_,_,_,_,_,_,_,hs.at 0 rfl (o:=0) (n:=8) rfl,?_⟩;refine (numbers65 g h20 (hg.ext hs.ext)).mono ?_;rintro _ h31 ⟨⟨b2,rfl,hb2⟩,E⟩;have hs:=hs.step E;refine⟨_,rfl,sB_intro (fun c2=>?_) (fun c2=>RP.f (fun hG=>iff_f hb2 c2 hG.num) hs.ext)⟩;have hN:=hb2.1 c2;refine⟨_,_,_,_,_,_,_,_,hs.at 0 rfl (o:=0) (n:=8) rfl,?_⟩;refine (apart66 g h31 (hg.ext hs.ext)).mono ?_;rintro _ h42 ⟨⟨b3,rfl,hb3⟩,E⟩;have hs:=hs.step E;refine⟨_,rfl,sB_intro (fun c3=>?_) (fun c3=>RP.f (fun hG=>iff_f hb3 c3 ⟨hG.ord.s,hG.ord.p⟩) hs.ext)⟩;refine⟨_,_,_,_,_,_,_,_,hs.at 0 rfl (o:=0) (n:=8) rfl,?_⟩;refine (connected67 g h42 (hg.ext hs.ext) hN.R).mono ?_;rintro _ h53 ⟨⟨b4,rfl,hb4⟩,E⟩;have hs:=hs.step E;refine⟨_,rfl,sB_intro (fun c4=>?_) (fun c4=>RP.f (fun hG=>iff_f hb4 c4 ⟨hG.fwd,hG.bwd,hG.ord.e⟩) hs.ext)⟩;refine⟨_,_,_,_,_,_,_,_,hs.at 0 rfl (o:=0) (n:=8) rfl,?_⟩;refine (timed68 g h53 (hg.ext hs.ext) hN).mono ?_;rintro _ h64 ⟨⟨b5,rfl,hb5⟩,E⟩;have f1:=hb1.1 c1;have f3:=hb3.1 c3;have f4:=hb4.1 c4;exact⟨_,rfl,RP.e (hb5.trans ⟨fun ht=>⟨f1.1,hN,f1.2,⟨f4.e,f3.s,f3.p⟩,ht,f4.f,f4.b⟩,fun hG=>hG.tim⟩) (hs.step E).ext⟩
structure Hv where
 role:Int
 send:Bool
 peer:Int
 label:Int
 vs:Sl
def Hv.cs (x:Hv):List Value:=[.int .i64 x.role,.bool x.send,.int .i64 x.peer,.int .i64 x.label,.slice x.vs.a x.vs.n x.vs.c]
end Go.VC
end

section
namespace Go.VC
open Go.LexS

def Hv.ev (x:Hv):Ev:=⟨x.send,x.peer,x.label⟩
end Go.VC
end

section
namespace Go.VC
open Go.Proofs Go.LexS
def outGP (es:List Ed) (s:Int) (i:Nat):Bool:=match es[i]? with | some x=>decide (x.f=s) | none=>false
def outG (es:List Ed) (s:Int):List Nat:=(List.range es.length).filter (outGP es s)
theorem outG_mem {es:List Ed} {s:Int} {k:Nat}:k∈outG es s ↔ ∃x,es[k]?=some x/\x.f=s:=by
 unfold outG;rw[List.mem_filter,List.mem_range];constructor
 .rintro⟨h1,h2⟩;unfold outGP at h2;rw[Yi h1] at h2;exact⟨_,Yi h1,Yyn h2⟩
 .rintro⟨x,hx,hf⟩;refine⟨(Ya.1 hx).1,?_⟩;unfold outGP;rw[hx];exact decide_eq_true hf
theorem outG_len (es:List Ed) (s:Int):(outG es s).length<=es.length:=Yys (List.length_filter_le _ _) (by rw[Yyd];exact Yyt _)
theorem app48:appB Pz 48 53 3 24=true:=by kernel_rfl
end Go.VC
end

section
namespace Go.VC
def mk8 (c:Nat):Nat->Nat
 | 0=>0
 | k+1=>c+256*mk8 c k
def s1 (k x:Nat):Nat:=((x/2)&&&mk8 0x55 k)+(x&&&mk8 0x55 k)
def s2 (k x:Nat):Nat:=((x/4)&&&mk8 0x33 k)+(x&&&mk8 0x33 k)
def s3 (k x:Nat):Nat:=(x/16+x)&&&mk8 0x0f k
def b1 (b:Nat):Nat:=((b/2)&&&0x55)+(b&&&0x55)
def b2 (b:Nat):Nat:=((b/4)&&&0x33)+(b&&&0x33)
def b3 (b:Nat):Nat:=(b/16+b)&&&0x0f
set_option maxRecDepth 100000 in
theorem f1:∀b,b<256->∀t,t<2->(b/2+128*t)&&&0x55=(b/2)&&&0x55:=by decide
set_option maxRecDepth 100000 in
theorem f2:∀b,b<256->∀t,t<4->(b/4+64*t)&&&0x33=(b/4)&&&0x33:=by decide
set_option maxRecDepth 100000 in
theorem f3:∀b,b<69->∀t,t<5->(b/16+16*t+b)&&&0x0f=b3 b:=by decide
set_option maxRecDepth 100000 in
theorem f4:∀b,b<256->b1 b<256/\b2 (b1 b)<69/\b2 (b1 b)%16<5/\b3 (b2 (b1 b))<9/\(b3 (b2 (b1 b))=0->b=0):=by decide
end Go.VC
end

section
namespace Go.VC
open Go.Proofs Go.LexS


theorem tim_lt {g:Gl} (hT:TimS g):∀(j i:Nat) (a b:To),i<j->g.ts[i]?=some a->g.ts[j]?=some b->a.s<b.s
 | 0,i,a,b,h,_,_=>by omega
 | j+1,i,a,b,h,ha,hb=>by
  have h1:=(hT (j+1) b hb).o;have hl:=(Ya.1 hb).1;obtain⟨c,hc⟩:=get_some (l:=g.ts) (i:=j) (by omega);rw[lastS_next hc] at h1;by_cases e:i=j
  .subst e;rw[ha] at hc;cases hc;exact h1
  .have:=tim_lt hT j i a c (by omega) ha hc;omega
theorem tim_uniq {g:Gl} (hT:TimS g) {a b:To} (ha:a∈g.ts) (hb:b∈g.ts) (e:a.s=b.s):a=b:=by
 obtain⟨i,hi⟩:=Yf.1 ha;obtain⟨j,hj⟩:=Yf.1 hb;rcases Nat.lt_trichotomy i j with h | h | h
 .have:=tim_lt hT j i a b h hi hj;omega
 .subst h;rw[hi] at hj;cases hj;rfl
 .have:=tim_lt hT i j b a h hj hi;omega
end Go.VC
end

section
namespace Go.VC
open Go.LexS
theorem foldV {F:Nat->List Ev} {en:Nat->Bool} {O:List Bool} {T:List Ti} {l:List Nat}:∀(m:List Nat) (k:Bool) (o:Ti) {k':Bool} {o':Ti},m.foldl (stepV F en O T l) (some (k,o))=some (k',o') ->
  (k=true->k'=true/\o'=o)/\∀n∈m,badV F en l n=false/\∀t,O[n]?=some true->T[n]?=some t->k'=true/\o'=t
 | [],k,o,k',o',h=>by cases h;exact⟨fun h=>⟨h,rfl⟩,fun n hn=>by cases hn⟩
 | n::m,k,o,k',o',h=>by
  rw[List.foldl_cons] at h;cases hb:badV F en l n with
  | true=>
   have e:stepV F en O T l (some (k,o)) n=none:=by simp only[stepV,hb,if_true]
   rw[e,stepV_none] at h;cases h
  | false=>
   cases hO:O[n]? with
   | none=>
    have e:stepV F en O T l (some (k,o)) n=some (k,o):=by simp[stepV,hb,hO]
    rw[e] at h;obtain⟨h1,h2⟩:=foldV m k o h;refine⟨h1,fun n' hn'=>?_⟩;rcases Yr.1 hn' with rfl | hn'
    .exact⟨hb,fun t h3=>by rw[hO] at h3;cases h3⟩
    .exact h2 n' hn'
   | some b=>
    cases b with
    | false=>
     have e:stepV F en O T l (some (k,o)) n=some (k,o):=by simp[stepV,hb,hO]
     rw[e] at h;obtain⟨h1,h2⟩:=foldV m k o h;refine⟨h1,fun n' hn'=>?_⟩;rcases Yr.1 hn' with rfl | hn'
     .exact⟨hb,fun t h3=>by rw[hO] at h3;cases h3⟩
     .exact h2 n' hn'
    | true=>
     cases hT:T[n]? with
     | none=>
      have e:stepV F en O T l (some (k,o)) n=some (k,o):=by simp[stepV,hb,hO,hT]
      rw[e] at h;obtain⟨h1,h2⟩:=foldV m k o h;refine⟨h1,fun n' hn'=>?_⟩;rcases Yr.1 hn' with rfl | hn'
      .exact⟨hb,fun t _ h4=>by rw[hT] at h4;cases h4⟩
      .exact h2 n' hn'
     | some t=>
      have e:stepV F en O T l (some (k,o)) n=if k&&decide (t≠o) then none else some (true,t):=by simp[stepV,hb,hO,hT]
      rw[e] at h;split at h
      .rw[stepV_none] at h;cases h
      .rename_i hk;obtain⟨h1,h2⟩:=foldV m true t h;obtain⟨h3,h4⟩:=h1 rfl;refine⟨fun hkt=>⟨h3,?_⟩,fun n' hn'=>?_⟩
       .rw[hkt,Bool.true_and,decide_eq_true_eq,Classical.not_not] at hk;rw[h4,hk]
       .rcases Yr.1 hn' with rfl | hn'
        .exact⟨hb,fun t' _ h6=>by rw[hT] at h6;cases h6;exact⟨h3,h4⟩⟩
        .exact h2 n' hn'
theorem viewV_row {F:Nat->List Ev} {en:Nat->Bool} {O:List Bool} {T:List Ti} {l:List Nat} {o:Ti} (h:viewV F en O T l=some o) {n:Nat} (hn:n∈l):badV F en l n=false/\∀t,O[n]?=some true->T[n]?=some t->o=t:=by
 unfold viewV at h;obtain⟨⟨k,o'⟩,h1,h2⟩:=Yya.1 h;obtain⟨_,h3⟩:=foldV l false ti0 h1;obtain⟨h4,h5⟩:=h3 n hn;exact⟨h4,fun t hO hT=>by rw[<-h2];exact (h5 t hO hT).2⟩
theorem updT_at (T:List Ti) (n:Nat) (f:Ti->Ti) (k:Nat):(updT T n f)[k]?=if k=n then (T[k]?).map f else T[k]?:=by
 unfold updT;split
 .rename_i t ht;by_cases e:k=n
  .subst e;rw[if_pos rfl,Yq (Ya.1 ht).1,ht];rfl
  .rw[if_neg e,Yy (fun h=>e h.symm)]
 .rename_i ht;by_cases e:k=n
  .subst e;rw[if_pos rfl,ht];rfl
  .rw[if_neg e]
theorem ownE_row {es:List Ed} {role:Int} {n k:Nat} (hk:k<n):(∀x∈es,0<=x.f)->(∀x∈es,¬(x.f=(k:Int)/\x.a=role))/\(ownE es role n).1[k]?=some false/\(ownE es role n).2[k]?=some ti0\/∃x∈es,x.f=(k:Int)/\x.a=role/\(ownE es role n).1[k]?=some true/\(ownE es role n).2[k]?=some ⟨x.ag,0,ti0.x⟩:=by
 intro hf;unfold ownE
 suffices h:∀(l:List Ed) (s:List Bool × List Ti),s.1.length=n->(∀x∈l,0<=x.f)->((l.foldl (own1 role) s).1[k]?=s.1[k]?/\(l.foldl (own1 role) s).2[k]?=s.2[k]?/\∀x∈l,¬(x.f=(k:Int)/\x.a=role))\/∃x∈l,x.f=(k:Int)/\x.a=role/\(l.foldl (own1 role) s).1[k]?=some true/\∀t,s.2[k]?=some t->(l.foldl (own1 role) s).2[k]?=some ⟨x.ag,t.k,t.x⟩ by
  rcases h es (List.replicate n false,List.replicate n ti0) (by rw[Yg]) hf with ⟨h1,h2,h3⟩ | ⟨x,h1,h2,h3,h4,h5⟩
  .refine .inl ⟨h3,?_,?_⟩
   .rw[h1,List.getElem?_replicate,if_pos hk]
   .rw[h2,List.getElem?_replicate,if_pos hk]
  .exact .inr ⟨x,h1,h2,h3,h4,h5 ti0 (by rw[List.getElem?_replicate,if_pos hk])⟩
 intro l
 induction l with
 | nil=>intro s _ _;exact .inl ⟨rfl,rfl,fun x hx=>by cases hx⟩
 | cons a l ih=>
  intro s hs hf;rw[List.foldl_cons];have hfa:=hf a (Yx ..);have hfl:∀x∈l,0<=x.f:=fun x hx=>hf x (Yn _ hx);by_cases ha:a.a=role
  .have e:own1 role s a=(s.1.set a.f.toNat true,updT s.2 a.f.toNat fun t=>{ t with ag:=a.ag }):=by unfold own1;rw[if_pos ha]
   rw[e];have hs':(s.1.set a.f.toNat true).length=n:=by rw[Yyh];exact hs
   by_cases hk2:a.f=(k:Int)
   .have hkn:a.f.toNat=k:=by omega
    rw[hkn] at hs' ⊢;have g1:(s.1.set k true)[k]?=some true:=Yq (by omega);have g2:∀t,s.2[k]?=some t->(updT s.2 k fun t=>{ t with ag:=a.ag })[k]?=some ⟨a.ag,t.k,t.x⟩:=fun t ht=>by rw[updT_at,if_pos rfl,ht];rfl
    rcases ih (s.1.set k true,updT s.2 k fun t=>{ t with ag:=a.ag }) hs' hfl with ⟨h1,h2,h3⟩ | ⟨x,h1,h2,h3,h4,h5⟩
    .exact .inr ⟨a,Yx ..,hk2,ha,by rw[h1];exact g1,fun t ht=>by rw[h2];exact g2 t ht⟩
    .exact .inr ⟨x,Yn _ h1,h2,h3,h4,fun t ht=>h5 ⟨a.ag,t.k,t.x⟩ (g2 t ht)⟩
   .have hkn:¬k=a.f.toNat:=by omega
    have g1:(s.1.set a.f.toNat true)[k]?=s.1[k]?:=Yy (by omega);have g2:(updT s.2 a.f.toNat fun t=>{ t with ag:=a.ag })[k]?=s.2[k]?:=by rw[updT_at,if_neg hkn]
    rcases ih (s.1.set a.f.toNat true,updT s.2 a.f.toNat fun t=>{ t with ag:=a.ag }) hs' hfl with ⟨h1,h2,h3⟩ | ⟨x,h1,h2,h3,h4,h5⟩
    .refine .inl ⟨by rw[h1];exact g1,by rw[h2];exact g2,fun x hx=>?_⟩;rcases Yr.1 hx with rfl | hx
     .exact fun h=>hk2 h.1
     .exact h3 x hx
    .exact .inr ⟨x,Yn _ h1,h2,h3,h4,fun t ht=>h5 t (by rw[g2];exact ht)⟩
  .have e:own1 role s a=s:=by unfold own1;rw[if_neg ha]
   rw[e];rcases ih s hs hfl with ⟨h1,h2,h3⟩ | ⟨x,h1,h2,h3,h4,h5⟩
   .refine .inl ⟨h1,h2,fun x hx=>?_⟩;rcases Yr.1 hx with rfl | hx
    .exact fun h=>ha h.2
    .exact h3 x hx
   .exact .inr ⟨x,Yn _ h1,h2,h3,h4,h5⟩
theorem ownT_row {es:List Ed} {O:List Bool} {k:Nat} (hO:O[k]?=some true):∀(l:List To) (T:List Ti) (t:Ti),(∀u∈l,0<=u.s/\∃z,es[u.e.toNat]?=some z)->T[k]?=some t ->
  ((∀u∈l,u.s≠(k:Int))/\(l.foldl (own2 es O) T)[k]?=some t)\/∃u∈l,u.s=(k:Int)/\∃z,es[u.e.toNat]?=some z/\(l.foldl (own2 es O) T)[k]?=some ⟨t.ag,u.k,⟨true,z.b,z.l⟩⟩
 | [],T,t,_,ht=>.inl ⟨fun u hu=>(by cases hu),ht⟩
 | u::l,T,t,hl,ht=>by
  rw[List.foldl_cons];obtain⟨hu0,z,hz⟩:=hl u (Yx ..);have hl':∀u∈l,0<=u.s/\∃z,es[u.e.toNat]?=some z:=fun u hu=>hl u (Yn _ hu);by_cases hk:u.s=(k:Int)
  .have hkn:u.s.toNat=k:=by omega
   have e:own2 es O T u=updT T k fun q=>⟨q.ag,u.k,⟨true,z.b,z.l⟩⟩:=by
    unfold own2;rw[hkn,hO,hz]
   have g:(own2 es O T u)[k]?=some ⟨t.ag,u.k,⟨true,z.b,z.l⟩⟩:=by rw[e,updT_at,if_pos rfl,ht];rfl
   rcases ownT_row hO l _ _ hl' g with ⟨_,h2⟩ | ⟨v,h1,h2,z',h3,h4⟩
   .exact .inr ⟨u,Yx ..,hk,z,hz,h2⟩
   .exact .inr ⟨v,Yn _ h1,h2,z',h3,h4⟩
  .have g:(own2 es O T u)[k]?=some t:=by
    unfold own2;split
    .rw[updT_at,if_neg (by omega)];exact ht
    .exact ht
   rcases ownT_row hO l _ _ hl' g with ⟨h1,h2⟩ | ⟨v,h1,h2,z',h3,h4⟩
   .refine .inl ⟨fun v hv=>?_,h2⟩;rcases Yr.1 hv with rfl | hv
    .exact hk
    .exact h1 v hv
   .exact .inr ⟨v,Yn _ h1,h2,z',h3,h4⟩
theorem row_same {g:Gl} (hV:ValidS g) {x y:Ed} (hx:x∈g.es) (hy:y∈g.es) (e:x.f=y.f):x.a=y.a/\x.ag=y.ag:=by
 obtain⟨i,hi⟩:=Yf.1 hx;obtain⟨k,hk⟩:=Yf.1 hy;by_cases eik:i=k
 .subst eik;rw[hi] at hk;cases hk;exact⟨rfl,rfl⟩
 .have h1:=hV.ord.p i x hi k y hk;have h2:=hV.ord.p k y hk i x hi;unfold PairBad at h1 h2;have e1:x.ag=false:=by cases h:x.ag with | false=>rfl | true=>exact absurd (.inl ⟨eik,e,.inr (.inr h)⟩) h1
  have e2:y.ag=false:=by cases h:y.ag with | false=>rfl | true=>exact absurd (.inl ⟨fun h=>eik h.symm,e.symm,.inr (.inr h)⟩) h2
  refine⟨Classical.byContradiction fun h=>h1 (.inl ⟨eik,e,.inr (.inl h)⟩),by rw[e1,e2]⟩

end Go.VC
end

section
namespace Go.VC
open Go.Proofs Go.LexS
def setI (p:PSet):List Int:=natI (elems p)
/-! ### events -/
/-! ### sets in memory -/
structure SR where
 s:Sl
 p:PSet
def SR.cs (x:SR):List Value:=slC x.s
def Below (p:PSet):Prop:=∀j,p j=true->j<4096
/-! ### the view table -/
def SR.it (q:SR):It:=.sl q.s 3 1 ((setI q.p).map inC)
def TmR (g:Gl) (x:Ed) (t:Ti):Prop:=(∃u∈g.ts,u.s=x.f/\∃z,g.es[u.e.toNat]?=some z/\t=⟨x.ag,u.k,⟨true,z.b,z.l⟩⟩)\/((∀u∈g.ts,u.s≠x.f)/\t=⟨x.ag,0,ti0.x⟩)
theorem tim_ex {g:Gl} (hV:ValidS g) {u:To} (hu:u∈g.ts):0<=u.s/\1<=u.k/\0<=u.e/\∃z,g.es[u.e.toNat]?=some z/\z.f=u.s:=by
 obtain⟨i,hi⟩:=Yf.1 hu;obtain⟨_,hk,he,z,hz,hf,_⟩:=hV.tim i u hi;have hz2:=hV.num.e z (Yb hz);unfold EdS at hz2;exact⟨by omega,hk.1,he,z,hz,hf⟩
theorem own_row2 {g:Gl} (hV:ValidS g) {role:Int} {x:Ed} (hx:x∈g.es) (ha:x.a=role):(ownE g.es role g.n.toNat).1[x.f.toNat]?=some true/\∃t,(ownT g.es g.ts role g.n.toNat)[x.f.toNat]?=some t/\TmR g x t:=by
 have hr:=hV.num.e x hx;unfold EdS at hr;have hkf:((x.f.toNat:Nat):Int)=x.f:=by omega
 rcases ownE_row (es:=g.es) (role:=role) (n:=g.n.toNat) (k:=x.f.toNat) (by omega) (fun y hy=>by have:=hV.num.e y hy;unfold EdS at this;omega) with ⟨h1,_⟩ | ⟨y,h1,h2,h3,h4,h5⟩
 .exact absurd ⟨hkf.symm,ha⟩ (h1 x hx)
 .have hsame:=(row_same hV h1 hx (by omega)).2;refine⟨h4,?_⟩;unfold ownT;rcases ownT_row (es:=g.es) h4 g.ts _ _ (fun u hu=>by obtain⟨h0,_,_,z,hz,_⟩:=tim_ex hV hu;exact⟨h0,z,hz⟩) h5 with ⟨h6,h7⟩ | ⟨u,hu,hus,z,hz,h7⟩
  .exact⟨_,h7,.inr ⟨fun u hu=>by have:=h6 u hu;omega,by rw[hsame]⟩⟩
  .exact⟨_,h7,.inl ⟨u,hu,by omega,z,hz,by rw[hsame]⟩⟩
def OwnS_ (g:Gl) (p s:Int):Prop:=∃x∈g.es,x.f=s/\x.a=p
theorem own_iff {g:Gl} (hV:ValidS g) {p:Int} {k:Nat} (hk:(k:Int)<g.n):(ownE g.es p g.n.toNat).1[k]?=some true ↔ OwnS_ g p (k:Int):=by
 rcases ownE_row (es:=g.es) (role:=p) (n:=g.n.toNat) (k:=k) (by omega) (fun y hy=>by have:=hV.num.e y hy;unfold EdS at this;omega) with ⟨h1,h2,_⟩ | ⟨y,h1,h2,h3,h4,_⟩
 .rw[h2];exact⟨fun h=>(by cases h),fun ⟨x,hx,hf,ha⟩=>absurd ⟨hf,ha⟩ (h1 x hx)⟩
 .exact⟨fun _=>⟨y,h1,h2,h3⟩,fun _=>h4⟩
/-! ### the timing of a view -/
theorem fold_some {F:Nat->List Ev} {en:Nat->Bool} {O:List Bool} {T:List Ti} {l:List Nat}:∀(m:List Nat) (k:Bool) (o:Ti),(∀n∈m,badV F en l n=false) ->
  (∀n∈m,∀t,O[n]?=some true->T[n]?=some t->(k=true->t=o)/\∀n'∈m,∀t',O[n']?=some true->T[n']?=some t'->t=t')->∃r,m.foldl (stepV F en O T l) (some (k,o))=some r
 | [],k,o,_,_=>⟨_,rfl⟩
 | n::m,k,o,hb,hp=>by
  rw[List.foldl_cons];have hbn:=hb n Yx;have hb':∀n∈m,badV F en l n=false:=fun n hn=>hb n (Yn _ hn);cases hO:O[n]? with
  | none=>
   have e:stepV F en O T l (some (k,o)) n=some (k,o):=by simp[stepV,hbn,hO]
   rw[e];exact fold_some m k o hb' fun n1 h1 t a1 a2=>⟨(hp n1 (Yn _ h1) t a1 a2).1,fun n2 h2=>(hp n1 (Yn _ h1) t a1 a2).2 n2 (Yn _ h2)⟩
  | some b=>
   cases b with
   | false=>
    have e:stepV F en O T l (some (k,o)) n=some (k,o):=by simp[stepV,hbn,hO]
    rw[e];exact fold_some m k o hb' fun n1 h1 t a1 a2=>⟨(hp n1 (Yn _ h1) t a1 a2).1,fun n2 h2=>(hp n1 (Yn _ h1) t a1 a2).2 n2 (Yn _ h2)⟩
   | true=>
    cases hT:T[n]? with
    | none=>
     have e:stepV F en O T l (some (k,o)) n=some (k,o):=by simp[stepV,hbn,hO,hT]
     rw[e];exact fold_some m k o hb' fun n1 h1 t a1 a2=>⟨(hp n1 (Yn _ h1) t a1 a2).1,fun n2 h2=>(hp n1 (Yn _ h1) t a1 a2).2 n2 (Yn _ h2)⟩
    | some t=>
     have h1:=hp n Yx t hO hT;have e:stepV F en O T l (some (k,o)) n=some (true,t):=by
      simp only[stepV,hbn,hO,hT];cases k with
      | false=>rfl
      | true=>rw[h1.1 rfl];simp
     rw[e];exact fold_some m true t hb' fun n1 hn1 t' a1 a2=>⟨fun _=>((h1.2 n1 (Yn _ hn1) t' a1 a2)).symm,fun n2 hn2=>(hp n1 (Yn _ hn1) t' a1 a2).2 n2 (Yn _ hn2)⟩
theorem vw_iff {F:Nat->List Ev} {en:Nat->Bool} {O:List Bool} {T:List Ti} {l:List Nat}:(∃o,viewV F en O T l=some o) ↔ (∀n∈l,badV F en l n=false)/\∀n∈l,∀k∈l,∀t u,O[n]?=some true->T[n]?=some t->O[k]?=some true->T[k]?=some u->t=u:=by
 constructor
 .rintro⟨o,h⟩;refine⟨fun n hn=>(viewV_row h hn).1,fun n hn k hk t u a1 a2 b1 b2=>?_⟩;rw[<- (viewV_row h hn).2 t a1 a2,<- (viewV_row h hk).2 u b1 b2]
 .rintro⟨h1,h2⟩;obtain⟨r,hr⟩:=fold_some (F:=F) (en:=en) (O:=O) (T:=T) (l:=l) l false ti0 h1 fun n hn t a1 a2=>⟨fun h=>(by cases h),fun n' hn' t' b1 b2=>h2 n hn n' hn' t t' a1 a2 b1 b2⟩;exact⟨r.2,by unfold viewV;rw[hr];rfl⟩
/-! ### the sending conditions al the reference asks them -/


/-! ### plain -/
def CpJ (M:List Mv) (n k j:Nat):Prop:=j<=M.length/\∀(i:Nat) y,M[i]?=some y->(i<j ↔ y.f<(n:Int)\/(y.f=(n:Int)/\i<k))
theorem CpJ.end_ {M:List Mv} {n j:Nat} (h:CpJ M n 0 j) (hM:∀y∈M,y.f<(n:Int)):j=M.length:=by
 rcases Nat.lt_or_ge j M.length with c | c
 .obtain⟨x,gx⟩:=get_some (l:=M) (i:=j) c;have:=(h.2 j x gx).2 (.inl (hM x (Yb gx)));omega
 .exact Nat.le_antisymm h.1 c
/-! ### the walk -/
end Go.VC
end

section
namespace Go.VC
open Go.Proofs Go.LexS Go.Maps
theorem mv_ext {x y:Mv} (c:((x.f==y.f)&&((x.send==y.send)&&((x.peer==y.peer)&&((x.label==y.label)&&((x.t==y.t)&&((x.ag==y.ag)&&true))))))=true):x=y:=by
 cases x;cases y;simp only[Bool.and_true,Yt,beq_iff_eq] at c;obtain⟨h1,h2,h3,h4,h5,h6⟩:=c;simp only[Mv.mk.injEq];exact⟨h1,h2,h3,h4,h5,h6⟩
theorem to_ext {x y:To} (c:((x.s==y.s)&&((x.k==y.k)&&((x.e==y.e)&&true)))=true):x=y:=by
 cases x;cases y;simp only[Bool.and_true,Yt,beq_iff_eq] at c;obtain⟨h1,h2,h3⟩:=c;simp only[To.mk.injEq];exact⟨h1,h2,h3⟩
theorem mch_ext {m k:Mch} (h1:m.role=k.role) (h2:m.n=k.n) (h3:m.s=k.s) (h4:m.fin=k.fin) (h5:m.mv=k.mv) (h6:m.li=k.li):m=k:=by
 cases m;cases k;simp only[Mch.mk.injEq];exact⟨h1,h2,h3,h4,h5,h6⟩
theorem same17 (m k:Mch) (sf sm sl tf tm tl:Sl) (h:Heap) (hM:MI h m sf sm sl) (hK:MI h k tf tm tl) :
  Fn Pz 16 #[.agg ⟨mC m sf sm sl⟩,.agg ⟨mC k tf tm tl⟩] h (RP (m=k) h):=by
 apply vc16 m.role m.n m.s sf sm sl k.role k.n k.s tf tm tl;unfold W16;have f1:=hM.pf.ln;have f2:=hK.pf.ln;have m1:=hM.pm.ln;have m2:=hK.pm.ln;have l1:=hM.pl.ln;have l2:=hK.pl.ln;have f3:=hM.pf.sm;have m3:=hM.pm.sm;have l3:=hM.pl.sm;refine (St.refl h).newb fun h13 hs=>?_;refine hs.newb fun h14 hs=>?_;refine⟨_,hs.rd 1 rfl rfl,_,hs.rd 0 rfl rfl,sBn (fun c1=>RP.f (fun e=>c1 (by rw[e])) hs.ext) (fun c1=>?_)⟩;refine⟨_,hs.rd 1 rfl rfl,_,hs.rd 0 rfl rfl,sBn (fun c2=>RP.f (fun e=>c2 (by rw[e])) hs.ext) (fun c2=>?_)⟩;refine⟨_,hs.rd 1 rfl rfl,_,hs.rd 0 rfl rfl,sBn (fun c3=>RP.f (fun e=>c3 (by rw[e])) hs.ext) (fun c3=>?_)⟩;refine⟨sf,hs.rd 1 rfl rfl,tf,hs.rd 0 rfl rfl,sBn (fun c4=>RP.f (fun e=>by rw[<-e] at f2;omega) hs.ext) (fun c4=>?_)⟩;refine⟨sm,hs.rd 1 rfl rfl,tm,hs.rd 0 rfl rfl,sBn (fun c5=>RP.f (fun e=>by rw[<-e] at m2;omega) hs.ext) (fun c5=>?_)⟩;refine⟨sl,hs.rd 1 rfl rfl,tl,hs.rd 0 rfl rfl,sBn (fun c6=>RP.f (fun e=>by rw[<-e] at l2;omega) hs.ext) (fun c6=>?_)⟩;have allEq:∀ {α:Type} {L K:List α} {n:Nat},n=L.length->n=K.length->(∀(j:Nat) x y,j<n->L[j]?=some x->K[j]?=some y->x=y)->L=K:=fun {α L K n} e1 e2 hq=>by
  refine Yyr fun i=>?_;by_cases hil:i<n
  .obtain⟨x,hx⟩:=get_some (l:=L) (i:=i) (by omega);obtain⟨y,hy⟩:=get_some (l:=K) (i:=i) (by omega);rw[hx,hy,hq i x y (by omega) hx hy]
  .rw[Yl (by omega),Yl (by omega)]
 refine up_loopS (n:=sf.n) hs (fun i=>∀(j:Nat) x y,j<i->m.fin[j]?=some x->k.fin[j]?=some y->x=y) (fun j x y hj=>by omega) ?_;clear hs;rintro-i h31 hi ⟨hs,hq⟩;refine⟨sf,hs.rd 1 rfl rfl,sB_intro (fun d=>?_) (fun d=>?_)⟩
 .replace d:=lt_t d;refine⟨sf,hs.rd 1 rfl rfl,?_⟩;refine (hM.pf.rw.ext hs.ext).nbI (by omega) (by omega) fun b34 o35 x gx t=>?_;replace gx:m.fin[i]?=some x:=gx;refine⟨_,t.hd,tf,hs.rd 0 rfl rfl,?_⟩;refine (hK.pf.rw.ext hs.ext).nbI (by omega) (by omega) fun b38 o39 y gy t2=>?_;replace gy:k.fin[i]?=some y:=gy;refine⟨_,t2.hd,sB_intro (fun c=>RP.f (fun e=>by rw[<-e,gx] at gy;cases gy;simp at c) hs.ext) (fun c=>Up.next d (by omega) ⟨hs,fun j x' y' hj hx hy=>?_⟩)⟩;by_cases e:j=i
  .subst e;rw[gx] at hx;rw[gy] at hy;cases hx;cases hy;simpa using c
  .exact hq j x' y' (by omega) hx hy
 have hF:m.fin=k.fin:=allEq f1 (by omega) fun j x y hj=>hq j x y (by have:=lt_f d;omega);clear hq;refine up_loopS (n:=sm.n) hs (fun i=>∀(j:Nat) x y,j<i->m.mv[j]?=some x->k.mv[j]?=some y->x=y) (fun j x y hj=>by omega) ?_;clear hs;rintro-i h46 hi ⟨hs,hq⟩;refine⟨sm,hs.rd 1 rfl rfl,sB_intro (fun d=>?_) (fun d=>?_)⟩
 .replace d:=lt_t d;refine⟨sm,hs.rd 1 rfl rfl,?_⟩;refine (hM.pm.rw.ext hs.ext).nbI (by omega) (by omega) fun b34 o35 x gx t=>?_;replace gx:m.mv[i]?=some x:=gx;refine⟨_,_,_,_,_,_,t,tm,hs.rd 0 rfl rfl,?_⟩;refine (hK.pm.rw.ext hs.ext).nbI (by omega) (by omega) fun b38 o39 y gy t2=>?_;replace gy:k.mv[i]?=some y:=gy;refine⟨_,_,_,_,_,_,t2,sB_intro (fun c=>RP.f (fun e=>by rw[<-e,gx] at gy;cases gy;simp at c) hs.ext) (fun c=>Up.next d (by omega) ⟨hs,fun j x' y' hj hx hy=>?_⟩)⟩;by_cases e:j=i
  .subst e;rw[gx] at hx;rw[gy] at hy;cases hx;cases hy;exact mv_ext (bT c)
  .exact hq j x' y' (by omega) hx hy
 have hG:m.mv=k.mv:=allEq m1 (by omega) fun j x y hj=>hq j x y (by have:=lt_f d;omega);clear hq;refine up_loopS (n:=sl.n) hs (fun i=>∀(j:Nat) x y,j<i->m.li[j]?=some x->k.li[j]?=some y->x=y) (fun j x y hj=>by omega) ?_;clear hs;rintro-i h71 hi ⟨hs,hq⟩;refine⟨sl,hs.rd 1 rfl rfl,sB_intro (fun d=>?_) (fun d=>?_)⟩
 .replace d:=lt_t d;refine⟨sl,hs.rd 1 rfl rfl,?_⟩;refine (hM.pl.rw.ext hs.ext).nbI (by omega) (by omega) fun b34 o35 x gx t=>?_;replace gx:m.li[i]?=some x:=gx;refine⟨_,_,_,t,tl,hs.rd 0 rfl rfl,?_⟩;refine (hK.pl.rw.ext hs.ext).nbI (by omega) (by omega) fun b38 o39 y gy t2=>?_;replace gy:k.li[i]?=some y:=gy;refine⟨_,_,_,t2,sB_intro (fun c=>RP.f (fun e=>by rw[<-e,gx] at gy;cases gy;simp at c) hs.ext) (fun c=>Up.next d (by omega) ⟨hs,fun j x' y' hj hx hy=>?_⟩)⟩;by_cases e:j=i
  .subst e;rw[gx] at hx;rw[gy] at hy;cases hx;cases hy;exact to_ext (bT c)
  .exact hq j x' y' (by omega) hx hy
 have hH:m.li=k.li:=allEq l1 (by omega) fun j x y hj=>hq j x y (by have:=lt_f d;omega);exact RP.t (mch_ext c1 c2 c3 hF hG hH) hs.ext
def t0:To:=⟨0,0,0⟩
structure Vs where
 a:Int
 b:Int
 h:List Ev
def Vs.p (v:Vs):Int × Int:=(v.a,v.b)
/-! ### the queue -/
structure Vt where
 a:Int
 b:Int
 ahead:Int
 x:Ev
def Vt.cs (v:Vt):List Value:=[.int .i64 v.a,.int .i64 v.b,.int .i64 v.ahead,.bool v.x.send,.int .i64 v.x.peer,.int .i64 v.x.label]
/-! ### what tells states apart, al the table tells it -/
/-! ### the machine whose targets are the least ones of their classes -/
section
variable {m:Mch} {C:List Nat}
end
section
variable {m:Mch} {C:List Nat}
end
section
variable {m:Mch} {C:List Nat}
end
section
variable {m:Mch} {C:List Nat}
end
section
variable {m:Mch} {C:List Nat}
end
section
variable {m:Mch} {C:List Nat}
end
section
variable {m:Mch} {C:List Nat}
end
section
variable {m:Mch} {C:List Nat} {cnt:Nat}
end
section
variable {m:Mch} {C:List Nat} {cnt:Nat}
end
section
variable {m:Mch} {C:List Nat} {cnt:Nat}
end
section
variable {m:Mch} {C:List Nat} {cnt:Nat}
variable {c0:Nat} {M:Mch} {Q:List Nat}
end
section
variable {m:Mch} {C:List Nat} {cnt:Nat}
variable {c0:Nat} {M:Mch} {Q:List Nat}
end
section
variable {m:Mch} {C:List Nat} {cnt:Nat}
variable {c0:Nat} {M:Mch} {Q:List Nat}
end
section
variable {m:Mch} {C:List Nat} {cnt:Nat}
variable {c0:Nat} {M:Mch} {Q:List Nat}
end
section
variable {M K:Mch} {R:Nat->Nat->Prop}
end
section
variable {M K:Mch} {R:Nat->Nat->Prop}
end
section
variable {m:Mch} {C:List Nat} {cnt c0:Nat} {M:Mch} {Q:List Nat}
end
section
variable {m:Mch} {C:List Nat} {cnt c0:Nat} {M:Mch} {Q:List Nat}
end
section
variable {n:Nat} {to:List Nat}
end
section
variable {n:Nat} {to:List Nat}
end
section
variable {n:Nat} {to:List Nat}
end
section
variable {n:Nat} {to:List Nat}
end
end Go.VC
end

section
namespace Go.VC
open Go.Proofs Go.LexS
def maM (o:Option Mch × Int):Mch:=o.1.getD ⟨0,0,0,[],[],[]⟩
theorem MaR.u {o:Option Mch × Int} {h h':Heap} {v:Value} (E:Ext h h') (hr:MaR o h h' v):∃sf sm sl:Sl,v=.tuple ⟨[.agg ⟨mC (maM o) sf sm sl⟩,.int .i64 o.2]⟩/\St h h' (mL (maM o) sf sm sl):=by
 cases hr with
 | err he h0=>
  subst he;exact⟨⟨none,0,0⟩,⟨none,0,0⟩,⟨none,0,0⟩,rfl,((((St.refl h).step E).nil_ 63 3).nil_ 45 6).nil_ 4 1⟩
 | @ok m sf sm sl he hs=>
  subst he;exact⟨sf,sm,sl,rfl,hs⟩
def McS (m:Mch):Prop:=m.fin.length<=1048576/\m.mv.length<=1048576/\m.li.length<=1048576
theorem mcS_none:McS ⟨0,0,0,[],[],[]⟩:=⟨by decide,by decide,by decide⟩
theorem proj_s {g:Gl} {role:Int} (hr:g.rs.length<=1048576) (hd:g.ds.length<=1048576):McS (maM (proj g role)):=by
 unfold maM;cases h:(proj g role).1 with
 | none=>exact mcS_none
 | some m=>
  have he:proj g role=(some m,0):=by
   unfold proj at h ⊢;split at h
   .rename_i w e hw;cases h;rfl
   .cases h
  obtain⟨hG,_,h3,h4⟩:=proj_law hr hd m he;have h1:=hG.fl;have h2:=hG.n;show McS m;unfold McS;omega
theorem app74k:appB Pz 74 33 6 96=true:=by kernel_rfl
structure PM where
 m:Mch
 f:Sl
 v:Sl
 l:Sl
def PM.cs (p:PM):List Value:=mC p.m p.f p.v p.l
inductive AllR (g:Gl) (h h':Heap):Value->Prop
 | bad (hV:¬ValidS g) (E:Ext h h'):AllR g h h' (.tuple ⟨[.slice none 0 0,.int .i64 1]⟩)
 | err {i:Nat} {e:Int} (hV:ValidS g) (hi:i<g.rs.length) (hq:∀j:Nat,j<i->∃m,proj g j=(some m,0)) (he:proj g i=(none,e)) (h0:e≠0) (E:Ext h h'):AllR g h h' (.tuple ⟨[.slice none 0 0,.int .i64 e]⟩)
 | ok {s:Sl} {P:List PM} {A:List It} (hV:ValidS g) (hs:St h h' (.sl s 33 6 (P.map PM.cs)::A)) (hP:P.length=g.rs.length) (hq:∀(j:Nat) p,P[j]?=some p->proj g j=(some p.m,0)/\∀x∈mL p.m p.f p.v p.l,x∈A):AllR g h h' (.tuple ⟨[.slice s.a s.n s.c,.int .i64 0]⟩)
theorem all32 (g:Gl) (h:Heap) (hg:GI h g) (hx:Gx h):Fn Pz 32 #[g.v] h fun v h'=>AllR g h h' v:=by
 apply vc32 (bs g.nm) g.hr g.hd g.n g.s g.e g.he g.ht;unfold W32;have hrn:=hg.r.ln;refine (St.refl h).newb fun h9 hs=>?_;refine⟨_,_,_,_,_,_,_,_,hs.at 0 rfl (o:=0) (n:=8) rfl,?_⟩;refine (valid38 g h9 (hg.ext hs.ext) (hx.ext hs.ext)).mono ?_;rintro _ h20 ⟨rfl,E⟩;have hs:=hs.step E;refine⟨_,rfl,sB_intro (fun c=>.bad (Yyo (bF c)) hs.ext) (fun c=>?_)⟩;have hV:=Yyn (bT c);have hr6:=hV.nam.n6;refine⟨g.hr,hs.rd 0 rfl (i:=1) rfl,?_⟩;have hs:=hs.nil_ 33 6;refine⟨fun so x h' μ=>∃(i:Nat) (P:List PM) (A:List It),x=(i:Int)/\μ=g.hr.n-i/\i<=g.hr.n/\St h h' (.sl so 33 6 (P.map PM.cs) :: .blk h.size g.cs 27::A)/\P.length=i/\∀(j:Nat) p,P[j]?=some p->proj g j=(some p.m,0)/\∀x∈mL p.m p.f p.v p.l,x∈A,
  ⟨_,0,[],[],rfl,rfl,Nat.zero_le _,hs,rfl,fun j p hp=>by cases hp⟩,?_⟩
 clear hs;rintro-so _ h27 μ ⟨i,P,A,rfl,rfl,hi,hs,hPl,hq⟩;refine sB_intro (fun c=>?_) (fun c=>?_)
 .replace c:=lt_t c;refine⟨_,_,_,_,_,_,_,_,hs.at 1 rfl (o:=0) (n:=8) rfl,?_⟩;refine (project12 g i h27 (hg.ext hs.ext) (hx.ext hs.ext)).mono ?_;rintro _ h44 ⟨E,hr⟩;cases hr with
  | @err e he h0=>
   have hs:=hs.step E;refine⟨0,0,0,⟨none,0,0⟩,⟨none,0,0⟩,⟨none,0,0⟩,e,rfl,?_⟩;refine hs.newput (vs:=m0) rfl rfl fun h46 hs=>?_;refine sBn (fun _=>.err hV (i:=i) (by omega) (fun j hj=>?_) he h0 hs.ext) (fun c1=>absurd c1 h0);obtain⟨p,hp⟩:=get_some (l:=P) (i:=j) (by omega);exact⟨p.m,(hq j p hp).1⟩
  | @ok m sf sm sl he hm=>
   have hs:=hs.join hm;refine⟨m.role,m.n,m.s,sf,sm,sl,0,rfl,?_⟩;refine hs.newput (vs:=mC m sf sm sl) rfl rfl fun h46 hs=>?_;refine sBn (fun c1=>absurd rfl c1) (fun _=>?_);refine⟨m.role,m.n,m.s,sf,sm,sl,hs.at 0 rfl (o:=0) (n:=6) rfl,?_⟩;have hso:=(hs.len 1 (s:=so) rfl (by decide)).1;rw[Yc,hPl] at hso;refine hs.app 1 rfl app74k (m:=1) [mC m sf sm sl] rfl rfl (fun r hr=>by rw[Ye] at hr;rw[hr];rfl) rfl (by omega) (by simp only[maxLen];omega) fun s54 h55 _ hs=>?_;refine⟨_,(show g.hr.n-(i+1)<g.hr.n-i by omega),i+1,P++[⟨m,sf,sm,sl⟩],A++mL m sf sm sl,by rw[w64 (by omega) (by omega)];omega,rfl,by omega,?_,by rw[Yh,hPl];rfl,fun j p hp=>?_⟩
   .rw[Ym];exact hs.drop 1
   .by_cases c2:j<P.length
    .rw[Yyi c2] at hp;obtain⟨h1,h2⟩:=hq j p hp;exact⟨h1,fun x hx=>List.mem_append_left _ (h2 x hx)⟩
    .have:=(Ya.1 hp).1;rw[Yh] at this;have e1:([(⟨m,sf,sm,sl⟩:PM)]).length=1:=rfl;have:j=i:=by omega
     subst this;rw[Yyc (by omega),hPl,Nat.sub_self] at hp;cases hp;exact⟨he,fun x hx=>List.mem_append_right _ hx⟩
 .replace c:=lt_f c;have:i=g.hr.n:=by omega
  subst this;exact .ok hV (A:=.blk h.size g.cs 27::A) hs (by omega) fun j p hp=>⟨(hq j p hp).1,fun x hx=>Yn _ ((hq j p hp).2 x hx)⟩
theorem seenR160 (p:Addr) (role:Int) (x:Ed) (h:Heap) (hp:hc h ⟨p.block,p.off+8,none⟩=some (.int .i64 role)):Fn Pz 160 #[.pointer (some p),.agg ⟨x.cs⟩] h fun v h'=>Ext h h'/\v=(match vis1 role x with | some e=>.tuple ⟨[.agg ⟨e.cs⟩,.bool true]⟩ | none=>.tuple ⟨[.agg ⟨[.bool false,.int .i64 0,.int .i64 0]⟩,.bool false]⟩):=by
 apply vc160 p x.f x.a x.b x.l x.t x.ag;unfold W160;refine (St.refl h).newb fun h7 hs=>?_;refine hs.newb fun h8 hs=>?_;refine⟨role,hc_ext hs.ext hp,x.a,hs.rd 1 rfl (i:=1) rfl,sBe (fun c=>?_) (fun c=>?_)⟩
 .refine⟨x.b,hs.rd 1 rfl (i:=2) rfl,x.l,hs.rd 1 rfl (i:=3) rfl,?_⟩;refine hs.put 0 rfl (o:=0) (vs:=[.bool true,.int .i64 x.b,.int .i64 x.l]) rfl (Yyt 3) fun h13 hs=>?_;refine⟨true,x.b,x.l,hs.at 0 rfl (o:=0) (n:=3) rfl,hs.ext,?_⟩;unfold vis1;rw[if_pos c];rfl
 .refine⟨x.b,hs.rd 1 rfl (i:=2) rfl,sBe (fun c2=>?_) (fun c2=>?_)⟩
  .refine⟨x.a,hs.rd 1 rfl (i:=1) rfl,x.l,hs.rd 1 rfl (i:=3) rfl,?_⟩;refine hs.put 0 rfl (o:=0) (vs:=[.bool false,.int .i64 x.a,.int .i64 x.l]) rfl (Yyt 3) fun h13 hs=>?_;refine⟨false,x.a,x.l,hs.at 0 rfl (o:=0) (n:=3) rfl,hs.ext,?_⟩;unfold vis1;rw[if_neg c,if_pos c2];rfl
  .refine hs.put 0 rfl (o:=0) (vs:=[.bool false,.int .i64 0,.int .i64 0]) rfl (Yyt 3) fun h13 hs=>?_;refine⟨false,0,0,hs.at 0 rfl (o:=0) (n:=3) rfl,hs.ext,?_⟩;unfold vis1;rw[if_neg c,if_neg c2]
theorem moveLen170 (a b s t:Int) (h:Heap):Fn Pz 170 #[.agg ⟨[.int .i64 a,.int .i64 b,.int .i64 s,.int .i64 t]⟩] h fun v h'=>v=.int .i64 (if 0<=a/\0<=b then 2 else 1)/\Ext h h':=by
 apply vc170 a b s t;unfold W170;refine (St.refl h).newb fun h5 hs=>?_;refine⟨a,hs.rd 0 rfl (i:=0) rfl,sBi (fun c=>?_) (fun c=>?_)⟩
 .refine⟨b,hs.rd 0 rfl (i:=1) rfl,sBi (fun c2=>?_) (fun c2=>?_)⟩
  .exact⟨by rw[if_pos ⟨c,c2⟩],hs.ext⟩
  .exact⟨by rw[if_neg fun h=>c2 h.2],hs.ext⟩
 .exact⟨by rw[if_neg fun h=>c h.1],hs.ext⟩
theorem sends215 (L:List Ev) (b:Bool) (s:Sl) (h:Heap) (hr:Rw h 3 s (L.map Ev.cs)):Fn Pz 215 #[.agg ⟨[.slice s.a s.n s.c,.bool b]⟩] h fun v h'=>v=.bool (sndAt L 0)/\Ext h h':=by
 apply vc215 s b;unfold W215;have hn:=hr.ln;refine (St.refl h).newb fun h3 hs=>?_;refine⟨s,hs.rd 0 rfl (i:=0) rfl,sBi (fun c=>?_) (fun c=>?_)⟩
 .refine⟨s,hs.rd 0 rfl (i:=0) rfl,?_⟩;refine (hr.ext hs.ext).nbI (by omega) (by omega) fun b6 o7 e ge t=>?_;replace ge:L[0]?=some e:=ge;refine⟨e.send,t.nth 0 rfl,?_,hs.ext⟩;unfold sndAt;rw[ge]
 .refine⟨?_,hs.ext⟩;have:L=[]:=List.length_eq_zero_iff.1 (by omega);subst this;rfl
theorem mixed174 (L:List Ev) (b:Bool) (s:Sl) (h:Heap) (hr:Rw h 3 s (L.map Ev.cs)) (hl:L.length<=1048576):Fn Pz 174 #[.agg ⟨[.slice s.a s.n s.c,.bool b]⟩] h fun v h'=>v=.bool (sndAt L 0&&(b || !sndAt L (L.length-1)))/\Ext h h':=by
 apply vc174 s b;unfold W174;have hn:=hr.ln;refine (St.refl h).newb fun h3 hs=>?_;refine⟨s,b,hs.at 0 rfl (o:=0) (n:=2) rfl,?_⟩;refine (sends215 L b s h3 (hr.ext hs.ext)).mono ?_;rintro _ h8 ⟨rfl,E⟩;have hs:=hs.step E;refine⟨_,rfl,sB_intro (fun c=>?_) (fun c=>⟨by rw[c];rfl,hs.ext⟩)⟩;have hpos:0<L.length:=by
  cases L with
  | nil=>cases c
  | cons a l=>exact Nat.succ_pos _
 refine⟨b,hs.rd 0 rfl (i:=1) rfl,sB_intro (fun c2=>⟨by rw[c,c2];rfl,hs.ext⟩) (fun c2=>?_)⟩;refine⟨s,hs.rd 0 rfl (i:=0) rfl,s,hs.rd 0 rfl (i:=0) rfl,?_⟩;rw[w64 (n:=(s.n:Int)-1) (by omega) (by omega)];refine (hr.ext hs.ext).nbI (by omega) (by omega) fun b6 o7 e ge t=>?_;rw[show ((s.n:Int)-1).toNat=L.length-1 by omega] at ge;refine⟨e.send,t.nth 0 rfl,?_,hs.ext⟩;have h1:sndAt L (L.length-1)=e.send:=by unfold sndAt;rw[ge]
 rw[c,c2,h1];rfl
theorem compareR204 (x y:Ev) (h:Heap):Fn Pz 204 #[.agg ⟨x.cs⟩,.agg ⟨y.cs⟩] h fun v h'=>v=.int .i64 (cmpE x y)/\Ext h h':=by
 apply vc204 x.send x.peer x.label y.send y.peer y.label;unfold W204;have hs:=St.refl h;refine hs.newb fun h7 hs=>?_;refine hs.newb fun h8 hs=>?_;refine⟨_,hs.rd 1 rfl rfl,?_⟩;refine⟨_,hs.rd 0 rfl rfl,?_⟩;refine sB_intro (fun c=>?_) (fun c=>?_)
 .have hne:x.send≠y.send:=by simpa using c
  refine⟨_,hs.rd 1 rfl rfl,?_⟩;unfold cmpE;rw[if_pos hne];refine sB_intro (fun d=>?_) (fun d=>?_)
  .exact⟨by rw[if_pos d],hs.ext⟩
  .exact⟨by rw[if_neg (by rw[d];simp)],hs.ext⟩
 .have he:x.send=y.send:=by simpa using c
  refine⟨_,hs.rd 1 rfl rfl,_,hs.rd 0 rfl rfl,_,hs.rd 1 rfl rfl,_,hs.rd 0 rfl rfl,?_⟩;refine (cmp110 _ _ _).mono ?_;rintro _ _ ⟨rfl,rfl⟩;refine⟨_,rfl,fun _ _ _ _ hv=>hv,?_⟩;refine (cmp110 _ _ _).mono ?_;rintro _ _ ⟨rfl,rfl⟩;refine⟨_,rfl,fun _ _ _ _ hv=>hv,?_⟩;refine hs.newb fun h22 hs=>?_;have hs2:=hs.blkS 2 1 ([cmpI x.peer y.peer,cmpI x.label y.label].map inC) rfl (inrows _) rfl (by decide);refine (or109 [cmpI x.peer y.peer,cmpI x.label y.label] _ h22 (hs2.rows 0 rfl (by omega)) (show 2<=1048576 by decide)).mono ?_;rintro _ _ ⟨rfl,rfl⟩;refine⟨_,rfl,?_,hs.ext⟩;unfold cmpE;rw[if_neg (by simpa using he)];show Value.int .i64 (orI3 _ (orI3 _ 0))=_;congr 1;unfold orI3;split
  .rfl
  .split<;>omega
theorem ev_extb {x y:Ev} (h:((x.send==y.send)&&((x.peer==y.peer)&&((x.label==y.label)&&true)))=true):x=y:=by
 cases x;cases y;simp_all
theorem indexR280 (L:List Ev) (e:Ev) (s:Sl) (h:Heap) (hr:Rw h 3 s (L.map Ev.cs)) (hl:L.length<=1048576):Fn Pz 280 #[.slice s.a s.n s.c,.agg ⟨e.cs⟩] h fun v h'=>∃i:Int,v=.int .i64 i/\Ext h h'/\(0<=i ↔ e∈L):=by
 apply vc280 s e.send e.peer e.label;unfold W280;have hn:=hr.ln;refine (St.refl h).newb fun h4 hs=>?_;refine up_loopS (n:=s.n) hs (fun i=>∀(j:Nat) x,j<i->L[j]?=some x->x≠e) (fun j x hj=>by omega) ?_;clear hs;rintro-i h9 hi ⟨hs,hq⟩;refine sB_intro (fun c=>?_) (fun c=>?_)
 .replace c:=lt_t c;refine⟨e.send,e.peer,e.label,hs.at 0 rfl (o:=0) (n:=3) rfl,?_⟩;refine (hr.ext hs.ext).nbI (by omega) (by omega) fun b13 o14 x gx t=>?_;replace gx:L[i]?=some x:=gx;refine⟨x.send,x.peer,x.label,t,sB_intro (fun c2=>?_) (fun c2=>?_)⟩
  .have hxe:=ev_extb c2;exact⟨i,rfl,hs.ext,iff_of_true (by omega) (by rw[hxe];exact Yb gx)⟩
  .refine Up.next c (by omega) ⟨hs,fun j x' hj gx'=>?_⟩;by_cases e1:j=i
   .subst e1;rw[gx] at gx';cases gx';rintro rfl;simp at c2
   .exact hq j x' (by omega) gx'
 .replace c:=lt_f c;refine⟨-1,rfl,hs.ext,iff_of_false (by omega) fun hm=>?_⟩;obtain⟨j,hj⟩:=Yf.1 hm;exact hq j e (by have:=(Ya.1 hj).1;omega) hj rfl
theorem containsR251 (L:List Ev) (e:Ev) (s:Sl) (h:Heap) (hr:Rw h 3 s (L.map Ev.cs)) (hl:L.length<=1048576):Fn Pz 251 #[.slice s.a s.n s.c,.agg ⟨e.cs⟩] h (RP (e∈L) h):=by
 apply vc251 s e.send e.peer e.label;unfold W251;refine (St.refl h).newb fun h4 hs=>?_;refine⟨e.send,e.peer,e.label,hs.at 0 rfl (o:=0) (n:=3) rfl,?_⟩;refine (indexR280 L e s h4 (hr.ext hs.ext) hl).mono ?_;rintro _ h10 ⟨i,rfl,E,hi⟩;exact⟨i,rfl,RP.e (by rw[decide_eq_true_eq];exact hi) (hs.step E).ext⟩
theorem hasR214 (L:List Ev) (b:Bool) (e:Ev) (s:Sl) (h:Heap) (hr:Rw h 3 s (L.map Ev.cs)) (hl:L.length<=1048576):Fn Pz 214 #[.agg ⟨[.slice s.a s.n s.c,.bool b]⟩,.agg ⟨e.cs⟩] h (RP (e∈L) h):=by
 apply vc214 s b e.send e.peer e.label;unfold W214;refine (St.refl h).newb fun h6 hs=>?_;refine hs.newb fun h7 hs=>?_;refine⟨s,hs.rd 1 rfl (i:=0) rfl,e.send,e.peer,e.label,hs.at 0 rfl (o:=0) (n:=3) rfl,?_⟩;refine (containsR251 L e s h7 (hr.ext hs.ext) hl).mono ?_;rintro _ h14 ⟨⟨b2,rfl,hb⟩,E⟩;exact⟨b2,rfl,⟨b2,rfl,hb⟩,(hs.step E).ext⟩
structure Lm where
 k:Int
 x:Ev
def Lm.cs (l:Lm):List Value:=[.int .i64 l.k,.bool l.x.send,.int .i64 l.x.peer,.int .i64 l.x.label]
structure Fs where
 s:Sl
 l:List Ev
 b:Bool
def Fs.cs (f:Fs):List Value:=[.slice f.s.a f.s.n f.s.c,.bool f.b]
structure AnR (h:Heap) (p:Addr) (role:Int) (hfi hli hag how:Sl) (fi:List Fs) (li:List Lm) (ag ow:List Bool):Prop where
 ro:hc h ⟨p.block,p.off+8,none⟩=some (.int .i64 role)
 f:hc h ⟨p.block,p.off+10,none⟩=some (.slice hfi.a hfi.n hfi.c)
 l:hc h ⟨p.block,p.off+11,none⟩=some (.slice hli.a hli.n hli.c)
 a:hc h ⟨p.block,p.off+12,none⟩=some (.slice hag.a hag.n hag.c)
 o:hc h ⟨p.block,p.off+13,none⟩=some (.slice how.a how.n how.c)
 rf:RL h 2 hfi Fs.cs fi
 re:∀f∈fi,RL h 3 f.s Ev.cs f.l
 rl:RL h 4 hli Lm.cs li
 ra:RL h 1 hag bC ag
 rw:RL h 1 how bC ow
theorem AnR.ext {h h':Heap} {p:Addr} {role:Int} {hfi hli hag how:Sl} {fi:List Fs} {li:List Lm} {ag ow:List Bool} (hA:AnR h p role hfi hli hag how fi li ag ow) (E:Ext h h'):AnR h' p role hfi hli hag how fi li ag ow:=
 ⟨hc_ext E hA.ro,hc_ext E hA.f,hc_ext E hA.l,hc_ext E hA.a,hc_ext E hA.o,hA.rf.ext E,fun f hf=>(hA.re f hf).ext E,hA.rl.ext E,hA.ra.ext E,hA.rw.ext E⟩
theorem lm_eq {x y:Lm}:((x.k==y.k)&&(((x.x.send==y.x.send)&&((x.x.peer==y.x.peer)&&((x.x.label==y.x.label)&&true)))&&true))=true ↔ x=y:=by
 constructor
 .intro h;obtain⟨k,e⟩:=x;obtain⟨k',e'⟩:=y;cases e;cases e'
  simp_all
 .rintro rfl;simp
def ClA (li:List Lm) (ag ow:List Bool) (s t:Nat):Prop:=ow[s]?=some true/\ow[t]?=some true/\(li[s]?≠li[t]?\/ag[s]?≠ag[t]?)
theorem clockR213 (p:Addr) (role:Int) (hfi hli hag how:Sl) (fi:List Fs) (li:List Lm) (ag ow:List Bool) (s t:Nat) (h:Heap) (hA:AnR h p role hfi hli hag how fi li ag ow) (l1:s<ow.length/\t<ow.length) (l2:s<li.length/\t<li.length) (l3:s<ag.length/\t<ag.length) :
  Fn Pz 213 #[.pointer (some p),.agg ⟨[.int .i64 (s:Nat),.int .i64 (t:Nat)]⟩] h (RP (ClA li ag ow s t) h):=by
 apply vc213 p (s:Nat) (t:Nat);unfold W213;have n1:=hA.rw.ln;have n2:=hA.rl.ln;have n3:=hA.ra.ln;refine (St.refl h).newb fun h3 hs=>?_;have hA:=hA.ext hs.ext;refine⟨how,hA.o,s,hs.rd 0 rfl (i:=0) rfl,?_⟩;refine hA.rw.rw.nbI (by omega) (by omega) fun _ _ o1 g1 u1=>⟨o1,u1.hd,sB_intro (fun c1=>?_) (fun c1=>RP.f (fun hc=>?_) hs.ext)⟩
 case refine_2=>
  have:=hc.1;rw[show ow[s]?=some o1 from g1,c1] at this;cases this
 refine⟨how,hA.o,t,hs.rd 0 rfl (i:=1) rfl,?_⟩;refine hA.rw.rw.nbI (by omega) (by omega) fun _ _ o2 g2 u2=>⟨o2,u2.hd,sB_intro (fun c2=>?_) (fun c2=>RP.f (fun hc=>?_) hs.ext)⟩
 case refine_2=>
  have:=hc.2.1;rw[show ow[t]?=some o2 from g2,c2] at this;cases this
 refine⟨hli,hA.l,s,hs.rd 0 rfl (i:=0) rfl,?_⟩;refine hA.rl.rw.nbI (by omega) (by omega) fun _ _ x gx ux=>⟨x.k,x.x.send,x.x.peer,x.x.label,ux,hli,hA.l,t,hs.rd 0 rfl (i:=1) rfl,?_⟩;refine hA.rl.rw.nbI (by omega) (by omega) fun _ _ y gy uy=>⟨y.k,y.x.send,y.x.peer,y.x.label,uy,?_⟩;replace gx:li[s]?=some x:=gx;replace gy:li[t]?=some y:=gy;replace g1:ow[s]?=some o1:=g1;replace g2:ow[t]?=some o2:=g2;rw[c1] at g1;rw[c2] at g2;refine sB_intro (fun c3=>RP.t ⟨g1,g2,.inl fun e=>?_⟩ hs.ext) (fun c3=>?_)
 .rw[gx,gy] at e;have:=lm_eq.2 (Yyp e);rw[this] at c3;cases c3
 have hxy:x=y:=lm_eq.1 (by simpa using c3);refine⟨hag,hA.a,s,hs.rd 0 rfl (i:=0) rfl,?_⟩;refine hA.ra.rw.nbI (by omega) (by omega) fun _ _ a1 k1 v1=>⟨a1,v1.hd,hag,hA.a,t,hs.rd 0 rfl (i:=1) rfl,?_⟩;refine hA.ra.rw.nbI (by omega) (by omega) fun _ _ a2 k2 v2=>⟨a2,v2.hd,RP.e ?_ hs.ext⟩;replace k1:ag[s]?=some a1:=k1;replace k2:ag[t]?=some a2:=k2;unfold ClA;rw[g1,g2,gx,gy,k1,k2,hxy];cases a1<;>cases a2<;>simp
theorem find_at {α:Type} {p:α->Bool}:∀(L:List α) (i:Nat) (x:α),(∀(j:Nat) y,j<i->L[j]?=some y->p y=false)->L[i]?=some x->p x=true->L.find? p=some x
 | [],i,x,_,h,_=>by cases h
 | a::L,0,x,_,h,hp=>by cases h;exact List.find?_cons_of_pos hp
 | a::L,i+1,x,hq,h,hp=>by
  rw[List.find?_cons_of_neg (by rw[hq 0 a (by omega) rfl];decide)];exact find_at L i x (fun j y hj hy=>hq (j+1) y (by omega) hy) h hp
theorem find_no {α:Type} {p:α->Bool} {L:List α} (h:∀(j:Nat) y,L[j]?=some y->p y=false):L.find? p=none:=by
 rw[List.find?_eq_none];intro x hx;obtain⟨j,hj⟩:=Yf.1 hx;rw[h j x hj];decide
def difP (K:List Ev) (x:Ev):Bool:=x.send && !decide (x∈K)
theorem differR171 (p:Addr) (role:Int) (hfi hli hag how:Sl) (fi:List Fs) (li:List Lm) (ag ow:List Bool) (s t:Nat) (fs ft:Fs) (h:Heap) (hA:AnR h p role hfi hli hag how fi li ag ow) (gs:fi[s]?=some fs) (gt:fi[t]?=some ft) :
  Fn Pz 171 #[.pointer (some p),.agg ⟨[.int .i64 (s:Nat),.int .i64 (t:Nat)]⟩] h fun v h'=>Ext h h'/\v=(match fs.l.find? (difP ft.l) with | some x=>.tuple ⟨[.agg ⟨x.cs⟩,.bool true]⟩ | none=>.tuple ⟨[.agg ⟨[.bool false,.int .i64 0,.int .i64 0]⟩,.bool false]⟩):=by
 apply vc171 p (s:Nat) (t:Nat);unfold W171;have n1:=hA.rf.ln;have ls:=(Ya.1 gs).1;have lt:=(Ya.1 gt).1;have hfs:=hA.re fs (Yb gs);have hft:=hA.re ft (Yb gt);have n2:=hfs.ln;have m2:=hfs.sm;refine (St.refl h).newb fun h3 hs=>?_;refine hs.newb fun h4 hs=>?_;refine⟨hfi,(hA.ext hs.ext).f,s,hs.rd 1 rfl (i:=0) rfl,?_⟩;refine (hA.rf.ext hs.ext).rw.nbI (by omega) (by omega) fun b7 o8 f gf u=>?_;replace gf:fi[s]?=some f:=gf;rw[gs] at gf;cases gf;refine⟨fs.s,u.nth 0 rfl,?_⟩;refine up_loopS (n:=fs.s.n) hs (fun i=>∀(j:Nat) x,j<i->fs.l[j]?=some x->difP ft.l x=false) (fun j x hj=>by omega) ?_;clear hs;rintro-i h14 hi ⟨hs,hq⟩;refine sB_intro (fun c=>?_) (fun c=>?_)
 .replace c:=lt_t c;refine (hfs.ext hs.ext).rw.nbI (by omega) (by omega) fun b15 o16 x gx ux=>?_;replace gx:fs.l[i]?=some x:=gx;refine⟨x.send,x.peer,x.label,ux,?_⟩;refine hs.newput (vs:=x.cs) rfl rfl fun h21 hs=>?_;have nxt:∀ {hZ:Heap},Ext h21 hZ->difP ft.l x=false->∃m42,m42<fs.s.n-i/\Up fs.s.n (fun i h'=>St h h' [.blk h3.size [.bool false,.int .i64 0,.int .i64 0] 252,.blk h.size [.int .i64 (s:Nat),.int .i64 (t:Nat)] 272]/\∀(j:Nat) x,j<i->fs.l[j]?=some x->difP ft.l x=false) (IntKind.wrap .i64 ((i:Int)+1)) hZ m42:=fun {hZ} E hd=>by
   refine Up.next c (by omega) ⟨(hs.step E).drop 1,fun j y hj gy=>?_⟩;by_cases e:j=i
   .subst e;rw[gx] at gy;cases gy;exact hd
   .exact hq j y (by omega) gy
  refine⟨x.send,hs.rd 0 rfl (i:=0) rfl,sB_intro (fun c2=>?_) (fun c2=>nxt .rfl' (by unfold difP;rw[c2];rfl))⟩;refine⟨hfi,(hA.ext hs.ext).f,t,hs.rd 2 rfl (i:=1) rfl,?_⟩;refine (hA.rf.ext hs.ext).rw.nbI (by omega) (by omega) fun b25 o26 f2 gf2 u2=>?_;replace gf2:fi[t]?=some f2:=gf2;rw[gt] at gf2;cases gf2;refine⟨ft.s,ft.b,u2,x.send,x.peer,x.label,hs.at 0 rfl (o:=0) (n:=3) rfl,?_⟩;refine (hasR214 ft.l ft.b x ft.s h21 (hft.ext hs.ext).rw hft.sm).mono ?_;rintro _ h34 ⟨⟨b,rfl,hb⟩,E⟩;refine⟨b,rfl,E.sm,sB_intro (fun c3=>?_) (fun c3=>nxt E ?_)⟩
  .have hs:=hs.step E;have hno:x∉ft.l:=iff_f hb (bF c3);refine⟨x.send,x.peer,x.label,hs.at 0 rfl (o:=0) (n:=3) rfl,?_⟩;refine hs.put 1 rfl (o:=0) (vs:=x.cs) rfl (Yyt 3) fun h38 hs=>?_;refine⟨x.send,x.peer,x.label,hs.at 1 rfl (o:=0) (n:=3) rfl,hs.ext,?_⟩;rw[find_at fs.l i x hq gx (by unfold difP;rw[c2,decide_eq_false hno];rfl)];rfl
  .unfold difP;rw[decide_eq_true (hb.1 (bT c3))];simp
 .replace c:=lt_f c;refine hs.put 0 rfl (o:=0) (vs:=[.bool false,.int .i64 0,.int .i64 0]) rfl (Yyt 3) fun h44 hs=>?_;refine⟨false,0,0,hs.at 0 rfl (o:=0) (n:=3) rfl,hs.ext,?_⟩;rw[find_no fun j y hj=>hq j y (by have:=(Ya.1 hj).1;omega) hj]
theorem und257:Pz.underlying 257=some (.slice 252):=by kernel_rfl
theorem zero252 (w:World):(zeroValue 252).run Pz w=.ok (.agg #[.bool false,.int .i64 0,.int .i64 0]) w:=by
 have hi:(Pz.info? 252).bind (·.zero)=some (.agg #[.bool false,.int .i64 0,.int .i64 0]):=by kernel_rfl
 cases h:Pz.info? 252 with
 | none=>rw[h] at hi;cases hi
 | some i=>rw[h] at hi;simp only[Option.bind_some] at hi;simp[zeroValue,typeInfo,h,hi]
theorem compact205 {h0 h:Heap} {L:List It} (hs:St h0 h L) (k:Nat) {s:Sl} {l:List Ev} (hk:L[k]?=some (.sl s 252 3 (l.map Ev.cs))) (hm:l.length<=1048576) :
  Fn Pz 205 #[.slice s.a s.n s.c] h fun v h'=>∃r:Sl,v=.slice r.a r.n r.c/\St h0 h' (L.set k (.sl r 252 3 ((compactL l).map Ev.cs))):=by
 apply vc205 s;unfold W205;have hlen:=hs.len k hk (by omega);have hn:s.n=l.length:=by rw[hlen.1,Yc]
 have hkl:k<L.length:=(Ya.1 hk).1;have hset:L.set k (.sl s 252 3 (l.map Ev.cs))=L:=by
  obtain⟨a,b⟩:=Ya.1 hk;rw[<-b];exact List.set_getElem_self a
 have hself:compactL l=l->(∃r:Sl,Value.slice s.a s.n s.c=.slice r.a r.n r.c/\St h0 h (L.set k (.sl r 252 3 ((compactL l).map Ev.cs)))):=fun e=>⟨s,rfl,by rw[e,hset];exact hs⟩;refine sB_intro (fun c=>?_) (fun c=>?_)
 .have:l.length<2:=by have:=Yyn c;omega
  refine hself ?_
  match l,this with
  | [],_=>rfl
  | [a],_=>rfl
 .have h2:2<=l.length:=by have:=Yyo c;omega
  refine⟨fun x h' m=>∃i:Nat,x=i/\1<=i/\i<=l.length/\m=l.length-i/\h'=h/\compactL (l.take i)=l.take i,⟨_,1,rfl,by omega,by omega,rfl,rfl,?_⟩,?_⟩
  .match l,h2 with
   | a::r,_=>rfl
  rintro-x h5 m ⟨i,rfl,hi1,hin,rfl,rfl,hcc⟩;refine sB_intro (fun l2=>?_) (fun l2=>?_)
  .replace l2:=lt_t l2;have hrw:=hs.rows k hk (by omega);refine hrw.nbI (by omega) (by omega) fun b o x1 g t=>?_;replace g:l[i]?=some x1:=g;refine⟨_,_,_,t,?_⟩;have hw1:IntKind.wrap .i64 ((i:Int)-1)=((i-1:Nat):Int):=by rw[w64 (by omega) (by omega)];omega
   rw[hw1];refine hrw.nbI (x:=((i-1:Nat):Int)) (by omega) (by omega) fun b' o' y1 g' t'=>?_;replace g':l[i-1]?=some y1:=g';refine⟨_,_,_,t',?_⟩;rw[evEq];have hstep:=compactL_step g hi1 g';refine sB_intro (fun e=>?_) (fun e=>?_)
   .replace e:=Yyn e;rw[if_pos e,hcc] at hstep;have hcap:=hlen.2.1;refine⟨⟨by omega,by omega,by omega⟩,?_⟩;refine⟨fun kk x h' m=>∃(q j:Nat) (cl:List Ev),kk=q/\x=j/\1<=j/\i+j<=l.length/\q<=i+j-1/\m=l.length-j/\cl.length=l.length/\cl.take q=compactL (l.take (i+j))/\(∀a,i+j-1<=a->cl[a]?=l[a]?)/\St h0 h' (L.set k (.sl s 252 3 (cl.map Ev.cs))),
     ⟨_,i,1,l,rfl,rfl,by omega,by omega,by omega,rfl,rfl,hstep.symm,fun _ _=>rfl,by rw[hset];exact hs⟩,?_⟩
    rintro-kk x h21 m' ⟨q,j,cl,rfl,rfl,hj1,hjn,hq,rfl,hcl,hct,hun,hs⟩;have hkI:(L.set k (.sl s 252 3 (cl.map Ev.cs)))[k]?=some (.sl s 252 3 (cl.map Ev.cs)):=by rw[Yq hkl]
    have hfrom:=(hs.rows k hkI (by omega)).from (i:=i) (by omega) (by omega)
    rw[<-List.map_drop] at hfrom;have hti:Int.toNat ((s.n:Nat):Int)-Int.toNat ((i:Nat):Int)=s.n-i:=by simp
    have htI:Int.toNat ((i:Nat):Int)=i:=by simp
    refine sB_intro (fun c2=>?_) (fun c2=>?_)
    .have hjl:i+j<l.length:=by have:=Yyn c2;rw[hti] at this;omega
     rw[hti,htI];refine hfrom.nbI (x:=(j:Int)) (by omega) (by show (j:Int)<((s.n-i:Nat):Int);omega) fun b2 o2 x2 g2 t2=>?_;replace g2:(cl.drop i)[j]?=some x2:=g2;rw[List.getElem?_drop,hun _ (by omega)] at g2;refine⟨_,_,_,t2,?_⟩;have hw2:IntKind.wrap .i64 ((j:Int)-1)=((j-1:Nat):Int):=by rw[w64 (by omega) (by omega)];omega
     rw[hw2];refine hfrom.nbI (x:=((j-1:Nat):Int)) (by omega) (by show ((j-1:Nat):Int)<((s.n-i:Nat):Int);omega) fun b3 o3 y2 g3 t3=>?_;replace g3:(cl.drop i)[j-1]?=some y2:=g3;rw[List.getElem?_drop,show i+(j-1)=i+j-1 by omega,hun _ (by omega)] at g3;refine⟨_,_,_,t3,?_⟩;rw[evEq];have hst2:=compactL_step g2 (by omega) g3;have hwj:IntKind.wrap .i64 ((j:Int)+1)=((j+1:Nat):Int):=by rw[w64 (by omega) (by omega)];omega
     have hwq:IntKind.wrap .i64 ((q:Int)+1)=((q+1:Nat):Int):=by rw[w64 (by omega) (by omega)];omega
     refine sB_intro (fun e2=>?_) (fun e2=>?_)
     .have hne:x2≠y2:=by simpa using e2
      rw[if_neg hne] at hst2;refine hfrom.nbI (x:=(j:Int)) (by omega) (by show (j:Int)<((s.n-i:Nat):Int);omega) fun b4 o4 x3 g4 t4=>?_;replace g4:(cl.drop i)[j]?=some x3:=g4;rw[List.getElem?_drop,hun _ (by omega)] at g4;rw[g2] at g4;cases g4;refine⟨_,_,_,t4,?_⟩;refine hs.set k hkI (by omega) (x:=(q:Int)) (by omega) (by omega) x2 rfl rfl (fun b5 o5 h39 hs=>?_) rfl;rw[List.set_set] at hs;refine⟨l.length-(j+1),by omega,q+1,j+1,cl.set q x2,hwq,hwj,by omega,by omega,by omega,rfl,by rw[Yyh];exact hcl,?_,?_,hs⟩
      .rw[show i+(j+1)=i+j+1 by omega,hst2,<-hct,take_snoc (x:=x2) (by rw[Yq (by omega)]),List.take_set_of_le (Yyt _)]
      .intro a ha;rw[Yy (by omega)];exact hun a (by omega)
     .have heq:x2=y2:=by simpa using e2
      rw[if_pos heq] at hst2;refine⟨l.length-(j+1),by omega,q,j+1,cl,rfl,hwj,by omega,by omega,by omega,rfl,hcl,?_,fun a ha=>hun a (by omega),hs⟩;rw[show i+(j+1)=i+j+1 by omega,hst2];exact hct
    .have hjl:i+j=l.length:=by have:=Yyo c2;rw[hti] at this;omega
     refine⟨⟨by omega,by omega,by omega⟩,?_⟩;have htq:Int.toNat ((q:Nat):Int)=q:=by simp
     have htn:Int.toNat ((s.n:Nat):Int)=s.n:=by simp
     rw[htq,htn];refine hs.clear k hkI (by omega) q (by omega) und257 zero252 rfl rfl fun v h42 hs=>?_;refine⟨⟨by omega,by omega,by omega⟩,⟨s.a,q,s.c⟩,?_,?_⟩
     .rw[show Int.toNat 0=0 from rfl,subA_zero];rfl
     .rw[List.set_set,<-List.map_take,hct,hjl,Yye] at hs;exact hs
   .replace e:=Yyo e;rw[if_neg e,hcc] at hstep;refine⟨l.length-(i+1),by omega,i+1,by rw[w64 (by omega) (by omega)];omega,by omega,by omega,rfl,rfl,?_⟩;rw[hstep,take_snoc g]
  .replace l2:=lt_f l2;rw[Yj (by omega)] at hcc;exact hself hcc
end Go.VC
end

section
namespace Go.Proofs
open Go.Shelf
def Tryz.sortL203_ren:Go.Shelf.Ren:=⟨fun | 6=>203 | 15=>128 | 14=>242 | 28=>187 | 29=>188 | 20=>263 | 21=>264 | 22=>265 | 23=>266 | 24=>267 | 25=>268 | 26=>269 | 27=>270 | 46=>284 | 47=>217 | 48=>218 | 49=>285 | 50=>286 | 57=>301 | n=>n,fun | 22=>257 | 24=>252 | 25=>311 | 3=>3 | 39=>178 | 0=>0 | 53=>236 | 55=>121 | 4=>4 | 46=>294 | 45=>293 | 50=>213 | 5=>5 | 9=>9 | 66=>327 | 70=>331 | 76=>362 | 77=>363 | n=>n,fun | n=>n⟩
theorem Tryz.sortL203:Go.Proofs.SlLaysF0.n6 Tryz.prog Tryz.sortL203_ren:={
 mixed:=by kernel_rfl
 f6:=⟨Tryz.f203.name,by decide,Tryz.func203.trans (congrArg some (by kernel_rfl))⟩
 f14:=⟨Tryz.f242.name,by decide,Tryz.func242.trans (congrArg some (by kernel_rfl))⟩
 f15:=Tryz.func128.trans (congrArg some (by kernel_rfl))
 f20:=⟨Tryz.f263.name,by decide,Tryz.func263.trans (congrArg some (by kernel_rfl))⟩
 f21:=⟨Tryz.f264.name,by decide,Tryz.func264.trans (congrArg some (by kernel_rfl))⟩
 f22:=⟨Tryz.f265.name,by decide,Tryz.func265.trans (congrArg some (by kernel_rfl))⟩
 f23:=⟨Tryz.f266.name,by decide,Tryz.func266.trans (congrArg some (by kernel_rfl))⟩
 f24:=⟨Tryz.f267.name,by decide,Tryz.func267.trans (congrArg some (by kernel_rfl))⟩
 f25:=⟨Tryz.f268.name,by decide,Tryz.func268.trans (congrArg some (by kernel_rfl))⟩
 f26:=⟨Tryz.f269.name,by decide,Tryz.func269.trans (congrArg some (by kernel_rfl))⟩
 f27:=⟨Tryz.f270.name,by decide,Tryz.func270.trans (congrArg some (by kernel_rfl))⟩
 f28:=Tryz.func187.trans (congrArg some (by kernel_rfl))
 f29:=Tryz.func188.trans (congrArg some (by kernel_rfl))
 f46:=⟨Tryz.f284.name,by decide,Tryz.func284.trans (congrArg some (by kernel_rfl))⟩
 f47:=Tryz.func217.trans (congrArg some (by kernel_rfl))
 f48:=Tryz.func218.trans (congrArg some (by kernel_rfl))
 f49:=⟨Tryz.f285.name,by decide,Tryz.func285.trans (congrArg some (by kernel_rfl))⟩
 f50:=⟨Tryz.f286.name,by decide,Tryz.func286.trans (congrArg some (by kernel_rfl))⟩
 f57:=⟨Tryz.f301.name,by decide,Tryz.func301.trans (congrArg some (by kernel_rfl))⟩
 t0:=Tryz.underlying0
 a0:=Tryz.isAgg0
 z0:=Tryz.sizeOf0
 v0:=Tryz.zeroValue0
 t3:=Tryz.underlying3
 a3:=Tryz.isAgg3
 z3:=Tryz.sizeOf3
 v3:=Tryz.zeroValue3
 t4:=Tryz.underlying4
 a4:=Tryz.isAgg4
 z4:=Tryz.sizeOf4
 v4:=Tryz.zeroValue4
 t5:=Tryz.underlying5
 a5:=Tryz.isAgg5
 z5:=Tryz.sizeOf5
 v5:=Tryz.zeroValue5
 t9:=Tryz.underlying9
 a9:=Tryz.isAgg9
 z9:=Tryz.sizeOf9
 v9:=Tryz.zeroValue9
 t22:=Tryz.underlying257
 a22:=Tryz.isAgg257
 z22:=Tryz.sizeOf257
 v22:=Tryz.zeroValue257
 t25:=Tryz.underlying311
 a25:=Tryz.isAgg311
 z25:=Tryz.sizeOf311
 v25:=Tryz.zeroValue311
 t39:=Tryz.underlying178
 a39:=Tryz.isAgg178
 z39:=Tryz.sizeOf178
 v39:=Tryz.zeroValue178
 t45:=Tryz.underlying293
 a45:=Tryz.isAgg293
 z45:=Tryz.sizeOf293
 v45:=Tryz.zeroValue293
 t46:=Tryz.underlying294
 a46:=Tryz.isAgg294
 z46:=Tryz.sizeOf294
 v46:=Tryz.zeroValue294
 t50:=Tryz.underlying213
 a50:=Tryz.isAgg213
 z50:=Tryz.sizeOf213
 v50:=Tryz.zeroValue213
 t53:=Tryz.underlying236
 a53:=Tryz.isAgg236
 z53:=Tryz.sizeOf236
 v53:=Tryz.zeroValue236
 t55:=Tryz.underlying121
 a55:=Tryz.isAgg121
 z55:=Tryz.sizeOf121
 v55:=Tryz.zeroValue121
 t66:=Tryz.underlying327
 a66:=Tryz.isAgg327
 z66:=Tryz.sizeOf327
 v66:=Tryz.zeroValue327
 t70:=Tryz.underlying331
 a70:=Tryz.isAgg331
 z70:=Tryz.sizeOf331
 v70:=Tryz.zeroValue331
 t76:=Tryz.underlying362
 a76:=Tryz.isAgg362
 z76:=Tryz.sizeOf362
 v76:=Tryz.zeroValue362
 t77:=Tryz.underlying363
 a77:=Tryz.isAgg363
 z77:=Tryz.sizeOf363
 v77:=Tryz.zeroValue363 }
def Tryz.sortL207_ren:Go.Shelf.Ren:=⟨fun | 6=>207 | 15=>128 | 14=>249 | 28=>187 | 29=>188 | 20=>272 | 21=>273 | 22=>274 | 23=>275 | 24=>276 | 25=>277 | 26=>278 | 27=>279 | 46=>295 | 47=>217 | 48=>218 | 49=>296 | 50=>297 | 57=>305 | n=>n,fun | 22=>261 | 24=>265 | 25=>320 | 3=>3 | 39=>178 | 0=>0 | 53=>236 | 55=>121 | 4=>4 | 46=>294 | 45=>293 | 50=>213 | 5=>5 | 9=>9 | 66=>327 | 70=>331 | 76=>362 | 77=>363 | n=>n,fun | n=>n⟩
theorem Tryz.sortL207:Go.Proofs.SlLaysF0.n6 Tryz.prog Tryz.sortL207_ren:={
 mixed:=by kernel_rfl
 f6:=⟨Tryz.f207.name,by decide,Tryz.func207.trans (congrArg some (by kernel_rfl))⟩
 f14:=⟨Tryz.f249.name,by decide,Tryz.func249.trans (congrArg some (by kernel_rfl))⟩
 f15:=Tryz.func128.trans (congrArg some (by kernel_rfl))
 f20:=⟨Tryz.f272.name,by decide,Tryz.func272.trans (congrArg some (by kernel_rfl))⟩
 f21:=⟨Tryz.f273.name,by decide,Tryz.func273.trans (congrArg some (by kernel_rfl))⟩
 f22:=⟨Tryz.f274.name,by decide,Tryz.func274.trans (congrArg some (by kernel_rfl))⟩
 f23:=⟨Tryz.f275.name,by decide,Tryz.func275.trans (congrArg some (by kernel_rfl))⟩
 f24:=⟨Tryz.f276.name,by decide,Tryz.func276.trans (congrArg some (by kernel_rfl))⟩
 f25:=⟨Tryz.f277.name,by decide,Tryz.func277.trans (congrArg some (by kernel_rfl))⟩
 f26:=⟨Tryz.f278.name,by decide,Tryz.func278.trans (congrArg some (by kernel_rfl))⟩
 f27:=⟨Tryz.f279.name,by decide,Tryz.func279.trans (congrArg some (by kernel_rfl))⟩
 f28:=Tryz.func187.trans (congrArg some (by kernel_rfl))
 f29:=Tryz.func188.trans (congrArg some (by kernel_rfl))
 f46:=⟨Tryz.f295.name,by decide,Tryz.func295.trans (congrArg some (by kernel_rfl))⟩
 f47:=Tryz.func217.trans (congrArg some (by kernel_rfl))
 f48:=Tryz.func218.trans (congrArg some (by kernel_rfl))
 f49:=⟨Tryz.f296.name,by decide,Tryz.func296.trans (congrArg some (by kernel_rfl))⟩
 f50:=⟨Tryz.f297.name,by decide,Tryz.func297.trans (congrArg some (by kernel_rfl))⟩
 f57:=⟨Tryz.f305.name,by decide,Tryz.func305.trans (congrArg some (by kernel_rfl))⟩
 t0:=Tryz.underlying0
 a0:=Tryz.isAgg0
 z0:=Tryz.sizeOf0
 v0:=Tryz.zeroValue0
 t3:=Tryz.underlying3
 a3:=Tryz.isAgg3
 z3:=Tryz.sizeOf3
 v3:=Tryz.zeroValue3
 t4:=Tryz.underlying4
 a4:=Tryz.isAgg4
 z4:=Tryz.sizeOf4
 v4:=Tryz.zeroValue4
 t5:=Tryz.underlying5
 a5:=Tryz.isAgg5
 z5:=Tryz.sizeOf5
 v5:=Tryz.zeroValue5
 t9:=Tryz.underlying9
 a9:=Tryz.isAgg9
 z9:=Tryz.sizeOf9
 v9:=Tryz.zeroValue9
 t22:=Tryz.underlying261
 a22:=Tryz.isAgg261
 z22:=Tryz.sizeOf261
 v22:=Tryz.zeroValue261
 t25:=Tryz.underlying320
 a25:=Tryz.isAgg320
 z25:=Tryz.sizeOf320
 v25:=Tryz.zeroValue320
 t39:=Tryz.underlying178
 a39:=Tryz.isAgg178
 z39:=Tryz.sizeOf178
 v39:=Tryz.zeroValue178
 t45:=Tryz.underlying293
 a45:=Tryz.isAgg293
 z45:=Tryz.sizeOf293
 v45:=Tryz.zeroValue293
 t46:=Tryz.underlying294
 a46:=Tryz.isAgg294
 z46:=Tryz.sizeOf294
 v46:=Tryz.zeroValue294
 t50:=Tryz.underlying213
 a50:=Tryz.isAgg213
 z50:=Tryz.sizeOf213
 v50:=Tryz.zeroValue213
 t53:=Tryz.underlying236
 a53:=Tryz.isAgg236
 z53:=Tryz.sizeOf236
 v53:=Tryz.zeroValue236
 t55:=Tryz.underlying121
 a55:=Tryz.isAgg121
 z55:=Tryz.sizeOf121
 v55:=Tryz.zeroValue121
 t66:=Tryz.underlying327
 a66:=Tryz.isAgg327
 z66:=Tryz.sizeOf327
 v66:=Tryz.zeroValue327
 t70:=Tryz.underlying331
 a70:=Tryz.isAgg331
 z70:=Tryz.sizeOf331
 v70:=Tryz.zeroValue331
 t76:=Tryz.underlying362
 a76:=Tryz.isAgg362
 z76:=Tryz.sizeOf362
 v76:=Tryz.zeroValue362
 t77:=Tryz.underlying363
 a77:=Tryz.isAgg363
 z77:=Tryz.sizeOf363
 v77:=Tryz.zeroValue363 }
def Tryz.sortL243_ren:Go.Shelf.Ren:=⟨fun | 6=>243 | 15=>128 | 14=>271 | 28=>187 | 29=>188 | 20=>287 | 21=>288 | 22=>289 | 23=>290 | 24=>291 | 25=>292 | 26=>293 | 27=>294 | 46=>302 | 47=>217 | 48=>218 | 49=>303 | 50=>304 | 57=>310 | n=>n,fun | 22=>24 | 24=>55 | 25=>349 | 3=>3 | 39=>178 | 0=>0 | 53=>236 | 55=>121 | 4=>4 | 46=>294 | 45=>293 | 50=>213 | 5=>5 | 9=>9 | 66=>327 | 70=>331 | 76=>362 | 77=>363 | n=>n,fun | n=>n⟩
theorem Tryz.sortL243:Go.Proofs.SlLaysF0.n6 Tryz.prog Tryz.sortL243_ren:={
 mixed:=by kernel_rfl
 f6:=⟨Tryz.f243.name,by decide,Tryz.func243.trans (congrArg some (by kernel_rfl))⟩
 f14:=⟨Tryz.f271.name,by decide,Tryz.func271.trans (congrArg some (by kernel_rfl))⟩
 f15:=Tryz.func128.trans (congrArg some (by kernel_rfl))
 f20:=⟨Tryz.f287.name,by decide,Tryz.func287.trans (congrArg some (by kernel_rfl))⟩
 f21:=⟨Tryz.f288.name,by decide,Tryz.func288.trans (congrArg some (by kernel_rfl))⟩
 f22:=⟨Tryz.f289.name,by decide,Tryz.func289.trans (congrArg some (by kernel_rfl))⟩
 f23:=⟨Tryz.f290.name,by decide,Tryz.func290.trans (congrArg some (by kernel_rfl))⟩
 f24:=⟨Tryz.f291.name,by decide,Tryz.func291.trans (congrArg some (by kernel_rfl))⟩
 f25:=⟨Tryz.f292.name,by decide,Tryz.func292.trans (congrArg some (by kernel_rfl))⟩
 f26:=⟨Tryz.f293.name,by decide,Tryz.func293.trans (congrArg some (by kernel_rfl))⟩
 f27:=⟨Tryz.f294.name,by decide,Tryz.func294.trans (congrArg some (by kernel_rfl))⟩
 f28:=Tryz.func187.trans (congrArg some (by kernel_rfl))
 f29:=Tryz.func188.trans (congrArg some (by kernel_rfl))
 f46:=⟨Tryz.f302.name,by decide,Tryz.func302.trans (congrArg some (by kernel_rfl))⟩
 f47:=Tryz.func217.trans (congrArg some (by kernel_rfl))
 f48:=Tryz.func218.trans (congrArg some (by kernel_rfl))
 f49:=⟨Tryz.f303.name,by decide,Tryz.func303.trans (congrArg some (by kernel_rfl))⟩
 f50:=⟨Tryz.f304.name,by decide,Tryz.func304.trans (congrArg some (by kernel_rfl))⟩
 f57:=⟨Tryz.f310.name,by decide,Tryz.func310.trans (congrArg some (by kernel_rfl))⟩
 t0:=Tryz.underlying0
 a0:=Tryz.isAgg0
 z0:=Tryz.sizeOf0
 v0:=Tryz.zeroValue0
 t3:=Tryz.underlying3
 a3:=Tryz.isAgg3
 z3:=Tryz.sizeOf3
 v3:=Tryz.zeroValue3
 t4:=Tryz.underlying4
 a4:=Tryz.isAgg4
 z4:=Tryz.sizeOf4
 v4:=Tryz.zeroValue4
 t5:=Tryz.underlying5
 a5:=Tryz.isAgg5
 z5:=Tryz.sizeOf5
 v5:=Tryz.zeroValue5
 t9:=Tryz.underlying9
 a9:=Tryz.isAgg9
 z9:=Tryz.sizeOf9
 v9:=Tryz.zeroValue9
 t22:=Tryz.underlying24
 a22:=Tryz.isAgg24
 z22:=Tryz.sizeOf24
 v22:=Tryz.zeroValue24
 t25:=Tryz.underlying349
 a25:=Tryz.isAgg349
 z25:=Tryz.sizeOf349
 v25:=Tryz.zeroValue349
 t39:=Tryz.underlying178
 a39:=Tryz.isAgg178
 z39:=Tryz.sizeOf178
 v39:=Tryz.zeroValue178
 t45:=Tryz.underlying293
 a45:=Tryz.isAgg293
 z45:=Tryz.sizeOf293
 v45:=Tryz.zeroValue293
 t46:=Tryz.underlying294
 a46:=Tryz.isAgg294
 z46:=Tryz.sizeOf294
 v46:=Tryz.zeroValue294
 t50:=Tryz.underlying213
 a50:=Tryz.isAgg213
 z50:=Tryz.sizeOf213
 v50:=Tryz.zeroValue213
 t53:=Tryz.underlying236
 a53:=Tryz.isAgg236
 z53:=Tryz.sizeOf236
 v53:=Tryz.zeroValue236
 t55:=Tryz.underlying121
 a55:=Tryz.isAgg121
 z55:=Tryz.sizeOf121
 v55:=Tryz.zeroValue121
 t66:=Tryz.underlying327
 a66:=Tryz.isAgg327
 z66:=Tryz.sizeOf327
 v66:=Tryz.zeroValue327
 t70:=Tryz.underlying331
 a70:=Tryz.isAgg331
 z70:=Tryz.sizeOf331
 v70:=Tryz.zeroValue331
 t76:=Tryz.underlying362
 a76:=Tryz.isAgg362
 z76:=Tryz.sizeOf362
 v76:=Tryz.zeroValue362
 t77:=Tryz.underlying363
 a77:=Tryz.isAgg363
 z77:=Tryz.sizeOf363
 v77:=Tryz.zeroValue363 }
end Go.Proofs
end

section
namespace Go.VC
open Go.Proofs Go.LexS Go.Shelf
theorem swoMs:Go.Sort.SWO (ltOf cmpMs) where
 irrefl x:=by unfold ltOf;rw[decide_eq_false_iff_not,cmpMs_neg];unfold msLt;omega
 trans x y z h1 h2:=by unfold ltOf at *;rw[decide_eq_true_eq,cmpMs_neg] at *;unfold msLt at *;omega
 ntrans x y z h1 h2:=by unfold ltOf at *;rw[decide_eq_false_iff_not,cmpMs_neg] at *;unfold msLt at *;omega
theorem swoEd:Go.Sort.SWO (ltOf cmpEd) where
 irrefl x:=by unfold ltOf cmpEd;rw[decide_eq_false_iff_not,cmpA_neg];unfold acLt;omega
 trans x y z h1 h2:=by unfold ltOf cmpEd at *;rw[decide_eq_true_eq,cmpA_neg] at *;unfold acLt at *;omega
 ntrans x y z h1 h2:=by unfold ltOf cmpEd at *;rw[decide_eq_false_iff_not,cmpA_neg] at *;unfold acLt at *;omega
instance:Inhabited Ms:=⟨⟨0,0⟩⟩
instance:Inhabited Ed:=⟨⟨0,0,0,0,0,false⟩⟩
theorem sort203 {h0 h:Heap} {L:List It} (hs:St h0 h L) (k:Nat) {s:Sl} {l:List Ev} (hk:L[k]?=some (.sl s 252 3 (l.map Ev.cs))) (hm:l.length<=1048576) :
  Fn Pz 203 #[.slice s.a s.n s.c,.func (.func 204) #[] #[]] h fun v h'=>v=.tuple ⟨[]⟩/\∃l':List Ev,l'.Perm l/\l'.Pairwise (fun a b=>¬evLt b a)/\St h0 h' (L.set k (.sl s 252 3 (l'.map Ev.cs))):=by
 refine Fn.mono (sort_own Tryz.sortL203 3 252 Tryz.isAgg252 Tryz.sizeOf252 Ev.cs (fun _=>rfl) (fun x v hv=>by simp[Ev.cs] at hv;rcases hv with rfl | rfl | rfl<;>rfl) cmpE swoE 204 (enters_of Tryz.func204 (by kernel_rfl) rfl) (fun x y h=>@M.compareR204 monoDrawn x y h) hs k hk (by omega) (by omega)) ?_;rintro v h' ⟨rfl,l',hp,hw,hs'⟩;exact⟨rfl,l',hp,hw.imp fun {a b} hab=>by unfold ltOf at hab;rw[decide_eq_false_iff_not,cmpE_neg] at hab;exact hab,hs'⟩
theorem sort207 {h0 h:Heap} {L:List It} (hs:St h0 h L) (k:Nat) {s:Sl} {l:List Ms} (hk:L[k]?=some (.sl s 265 2 (l.map Ms.cs))) (hm:l.length<=1048576) :
  Fn Pz 207 #[.slice s.a s.n s.c,.func (.func 208) #[] #[]] h fun v h'=>v=.tuple ⟨[]⟩/\∃l':List Ms,l'.Perm l/\l'.Pairwise (fun a b=>¬msLt b a)/\St h0 h' (L.set k (.sl s 265 2 (l'.map Ms.cs))):=by
 refine Fn.mono (sort_own Tryz.sortL207 2 265 Tryz.isAgg265 Tryz.sizeOf265 Ms.cs (fun _=>rfl) (fun x v hv=>by simp[Ms.cs] at hv;rcases hv with rfl | rfl<;>rfl) cmpMs swoMs 208 (enters_of Tryz.func208 (by kernel_rfl) rfl) (fun x y h=>@M.cmpM208 monoDrawn x y h) hs k hk (by omega) (by omega)) ?_;rintro v h' ⟨rfl,l',hp,hw,hs'⟩;exact⟨rfl,l',hp,hw.imp fun {a b} hab=>by unfold ltOf at hab;rw[decide_eq_false_iff_not,cmpMs_neg] at hab;exact hab,hs'⟩
theorem sort243 {h0 h:Heap} {L:List It} (hs:St h0 h L) (k:Nat) {s:Sl} {l:List Ed} (hk:L[k]?=some (.sl s 55 6 (l.map Ed.cs))) (hm:l.length<=1048576) :
  Fn Pz 243 #[.slice s.a s.n s.c,.func (.func 244) #[] #[]] h fun v h'=>v=.tuple ⟨[]⟩/\∃l':List Ed,l'.Perm l/\l'.Pairwise (fun a b=>¬acLt b.act a.act)/\St h0 h' (L.set k (.sl s 55 6 (l'.map Ed.cs))):=by
 refine Fn.mono (sort_own Tryz.sortL243 6 55 Tryz.isAgg55 Tryz.sizeOf55 Ed.cs (fun _=>rfl) (fun x v hv=>by simp[Ed.cs] at hv;rcases hv with rfl | rfl | rfl | rfl | rfl | rfl<;>rfl) cmpEd swoEd 244 (enters_of Tryz.func244 (by kernel_rfl) rfl) (fun x y h=>@M.cmpE244 monoDrawn x y h) hs k hk (by omega) (by omega)) ?_;rintro v h' ⟨rfl,l',hp,hw,hs'⟩;exact⟨rfl,l',hp,hw.imp fun {a b} hab=>by unfold ltOf cmpEd at hab;rw[decide_eq_false_iff_not,cmpA_neg] at hab;exact hab,hs'⟩
end Go.VC
end

section
namespace Go.VC
open Go.Proofs Go.LexS
structure AnG (h:Heap) (b:Nat) (g:Gl) (role:Int) (ho:Sl) (os:Nat->Sl):Prop where
 at_:atC h ⟨b,0,none⟩ (g.cs++[.int .i64 role,.slice ho.a ho.n ho.c])
 gi:GI h g
 ro:Rw h 1 ho ((List.range g.n.toNat).map fun i=>slC (os i))
 rs:∀i,i<g.n.toNat->Rw h 1 (os i) ((natI (outG g.es (i:Nat))).map inC)
theorem AnG.ext {h h':Heap} {b:Nat} {g:Gl} {role:Int} {ho:Sl} {os:Nat->Sl} (hA:AnG h b g role ho os) (E:Ext h h'):AnG h' b g role ho os:=
 ⟨atC_ext E hA.at_,hA.gi.ext E,hA.ro.ext E,fun i hi=>(hA.rs i hi).ext E⟩
theorem CL.perm {es:List Ed} {role:Int} {n:Nat} {l:List Int} {D:List Bool} {T T':List Int} (h:CL es role n l D T) (hp:T.Perm T'):CL es role n l D T':=
 ⟨h.len,by rw[<-hp.length_eq];exact h.cnt,fun v=>hp.mem_iff.symm.trans (h.mem v),fun v hv=>h.r v (hp.mem_iff.2 hv)⟩
def evIx (es:List Ed) (role:Int) (k:Nat):Option Ev:=(es[k]?).bind (vis1 role)
theorem fm_range {α β:Type} (f:α->Option β) (es:List α):es.filterMap f=(List.range es.length).filterMap fun i=>(es[i]?).bind f:=by
 have key:∀n,n<=es.length->(es.take n).filterMap f=(List.range n).filterMap fun i=>(es[i]?).bind f:=by
  intro n
  induction n with
  | zero=>intro _;simp
  | succ n ih=>
   intro hn;have hx:=Yi (l:=es) (i:=n) (by omega);rw[List.range_succ,List.filterMap_append,<-ih (by omega),take_snoc hx,List.filterMap_append];congr 1;simp only[List.filterMap_cons,List.filterMap_nil,hx,Option.bind_some]
 have:=key es.length (Yyt _)
 rwa [Yye] at this
theorem fm_congr {α β:Type} {f g:α->Option β}:∀ {l:List α},(∀x∈l,f x=g x)->l.filterMap f=l.filterMap g
 | [],_=>rfl
 | a::l,h=>by rw[List.filterMap_cons,List.filterMap_cons,h a (by simp),fm_congr fun x hx=>h x (Yn _ hx)]
theorem visI (es:List Ed) (role:Int) (n:Nat):(outG es (n:Nat)).filterMap (evIx es role)=(visL es role n).map (·.x):=by
 unfold outG visL;rw[List.filterMap_filter,List.map_filterMap,fm_range _ es];refine fm_congr fun i hi=>?_;unfold outGP evIx;have hx:=Yi (l:=es) (i:=i) (by simpa using hi);rw[hx];simp only[Option.bind_some];by_cases h:(es[i]'(by simpa using hi)).f=(n:Int)
 .simp only[h,decide_true,if_true,Option.map_map];cases vis1 role _<;>rfl
 .simp only[h,decide_false,if_false,Bool.false_eq_true,Option.map_none]
def evP (es:List Ed) (role:Int) (v:Int):List Ev:=(visL es role v.toNat).map (·.x)
structure FI (g:Gl) (role s:Int) (D:List Bool) (P T:List Int) (E:List Ev):Prop where
 cl:CL g.es role g.n.toNat [s] D (P++T)
 nd:(P++T).Nodup
 q:∀v∈P,∀b∈quietL g.es role v.toNat,b∈P++T
 e:E=P.flatMap (evP g.es role)
 s:s∈P++T
structure FJ (g:Gl) (role s:Int) (v:Int) (j:Nat) (D:List Bool) (P T:List Int) (E:List Ev):Prop where
 cl:CL g.es role g.n.toNat [s] D (P++v::T)
 nd:(P++v::T).Nodup
 q:∀w∈P,∀b∈quietL g.es role w.toNat,b∈P++v::T
 qj:∀k∈(outG g.es v).take j,∀x,g.es[k]?=some x->vis1 role x=none->x.t∈P++v::T
 e:E=P.flatMap (evP g.es role)++((outG g.es v).take j).filterMap (evIx g.es role)
 s:s∈P++v::T
theorem FI.pop {g:Gl} {role s v:Int} {D:List Bool} {P T:List Int} {E:List Ev} (h:FI g role s D P (T++[v]) E):FJ g role s v 0 D P T E:=by
 have hp:(P++(T++[v])).Perm (P++v::T):=List.Perm.append_left P List.perm_append_comm;exact⟨h.cl.perm hp,hp.nodup_iff.1 h.nd,fun w hw b hb=>hp.mem_iff.1 (h.q w hw b hb),fun k hk=>by simp at hk,by rw[h.e];simp,hp.mem_iff.1 h.s⟩
theorem FJ.fin {g:Gl} {role s v:Int} {D:List Bool} {P T:List Int} {E:List Ev} {j:Nat} (h:FJ g role s v j D P T E) (h0:0<=v) (hj:(outG g.es v).length<=j):FI g role s D (P++[v]) T E:=by
 have hp:P++v::T=P++[v]++T:=by simp
 obtain⟨n,rfl⟩:∃n:Nat,v=n:=⟨v.toNat,by omega⟩;refine⟨hp ▸ h.cl,hp ▸ h.nd,fun w hw b hb=>?_,?_,hp ▸ h.s⟩
 .rw[<-hp];rcases Yk.1 hw with hw | hw
  .exact h.q w hw b hb
  .rw[Ye] at hw;subst hw;obtain⟨x,hx,hv,hf,rfl⟩:=quietL_mem.1 hb;obtain⟨k,hk⟩:=Yf.1 hx;exact h.qj k (by rw[Yj hj];exact outG_mem.2 ⟨x,hk,by omega⟩) x hk hv
 .rw[h.e,Yj hj,visI,List.flatMap_append];unfold evP;simp
theorem FJ.vis {g:Gl} {role s v:Int} {D:List Bool} {P T:List Int} {E:List Ev} {j k:Nat} {x:Ed} {e:Ev} (h:FJ g role s v j D P T E) (hk:(outG g.es v)[j]?=some k) (hx:g.es[k]?=some x) (hv:vis1 role x=some e):FJ g role s v (j+1) D P T (E++[e]):=by
 refine⟨h.cl,h.nd,h.q,fun i hi y hy hn=>?_,?_,h.s⟩
 .rw[take_snoc hk,Yk,Ye] at hi;rcases hi with hi | rfl
  .exact h.qj i hi y hy hn
  .rw[hx] at hy;cases hy;rw[hv] at hn;cases hn
 .rw[take_snoc hk,List.filterMap_append,<-Yz,<-h.e];simp[evIx,hx,hv]
theorem FJ.old {g:Gl} {role s v:Int} {D:List Bool} {P T:List Int} {E:List Ev} {j k:Nat} {x:Ed} (h:FJ g role s v j D P T E) (hk:(outG g.es v)[j]?=some k) (hx:g.es[k]?=some x) (hv:vis1 role x=none) (h0:0<=x.t) (hd:D[x.t.toNat]?=some true):FJ g role s v (j+1) D P T E:=by
 refine⟨h.cl,h.nd,h.q,fun i hi y hy hn=>?_,?_,h.s⟩
 .rw[take_snoc hk,Yk,Ye] at hi;rcases hi with hi | rfl
  .exact h.qj i hi y hy hn
  .rw[hx] at hy;cases hy;exact (h.cl.mem _).2 ⟨h0,hd⟩
 .rw[take_snoc hk,List.filterMap_append,<-Yz,<-h.e];simp[evIx,hx,hv]
theorem FJ.new {g:Gl} {role s v:Int} {D:List Bool} {P T:List Int} {E:List Ev} {j k:Nat} {x:Ed} (h:FJ g role s v j D P T E) (hk:(outG g.es v)[j]?=some k) (hx:g.es[k]?=some x) (hv:vis1 role x=none) (h0:0<=x.t) (hd:D[x.t.toNat]?=some false):FJ g role s v (j+1) (D.set x.t.toNat true) P (T++[x.t]) E:=by
 have hvm:Qr g.es role [s] v:=h.cl.r v (by simp);have hkm:=outG_mem.1 (Yb hk);obtain⟨x',hx',hf⟩:=hkm;rw[hx] at hx';cases hx';have hcl:=h.cl.push h0 hd (.step hvm ⟨x,Yb hx,hv,hf,rfl⟩);have hp:P++v::T++[x.t]=P++v::(T++[x.t]):=by simp
 rw[hp] at hcl;have hno:x.t∉P++v::T:=fun hm=>by have:=((h.cl.mem _).1 hm).2;rw[hd] at this;cases this
 refine⟨hcl,?_,fun w hw b hb=>?_,fun i hi y hy hn=>?_,?_,?_⟩
 .rw[<-hp,List.nodup_append];exact⟨h.nd,by simp,fun a ha c hc e=>by rw[Ye] at hc;subst hc;subst e;exact hno ha⟩
 .rw[<-hp];exact List.mem_append_left _ (h.q w hw b hb)
 .rw[<-hp];rw[take_snoc hk,Yk,Ye] at hi;rcases hi with hi | rfl
  .exact List.mem_append_left _ (h.qj i hi y hy hn)
  .rw[hx] at hy;cases hy;simp
 .rw[take_snoc hk,List.filterMap_append,<-Yz,<-h.e];simp[evIx,hx,hv]
 .rw[<-hp];exact List.mem_append_left _ h.s
theorem ev_total {es:List Ed} {role:Int} {P:List Int} (hP:P.Nodup) (h0:∀v∈P,0<=v):(P.flatMap (evP es role)).length<=es.length:=by
 have h1:=vis_total es role (P.map Int.toNat) (by
  rw[List.Nodup,List.pairwise_map];refine hP.imp_of_mem fun {a b} ha hb hab e=>hab ?_;have:=h0 a ha;have:=h0 b hb;omega)
 rw[List.flatMap_map] at h1;have h2:∀P:List Int,(P.flatMap (evP es role)).length=(P.flatMap fun v=>visL es role v.toNat).length:=by
  intro P
  induction P with
  | nil=>rfl
  | cons a P ih=>rw[List.flatMap_cons,List.flatMap_cons,Yh,Yh,ih];unfold evP;rw[Yc]
 rw[h2];exact h1
theorem FJ.len {g:Gl} {role s v:Int} {D:List Bool} {P T:List Int} {E:List Ev} {j:Nat} (h:FJ g role s v j D P T E):E.length<=2*g.es.length:=by
 rw[h.e,Yh];have h1:=ev_total (es:=g.es) (role:=role) (P:=P) (h.nd.sublist (List.sublist_append_left _ _)) fun v hv=>((h.cl.mem v).1 (by simp[hv])).1;have h2:(((outG g.es v).take j).filterMap (evIx g.es role)).length<=(outG g.es v).length:=Yys (List.length_filterMap_le _ _) (by rw[Yu];omega);have h3:=outG_len g.es v;omega
theorem FI.fin {g:Gl} {role s:Int} {D:List Bool} {P:List Int} {E:List Ev} (h:FI g role s D P [] E) (hV:ValidS g) (h0:0<=s) (h1:s<g.n):(∀v,v∈P ↔ Qr g.es role [s] v)/\sortE E=firstE g role s:=by
 have hc:=h.cl;rw[Yw] at hc;have hq:∀v,v∈P ↔ Qr g.es role [s] v:=hc.end_ (fun x hx=>by rw[Ye] at hx;subst hx;have:=h.s;rwa [Yw] at this) fun v hv b hb=>by have:=h.q v hv b hb;rwa [Yw] at this
 refine⟨hq,sorted_ext _ _ (sortE_sorted _) (sortE_sorted _) fun x=>?_⟩;unfold firstE evs;rw[sortE_mem,sortE_mem,h.e];unfold evL evP;rw[List.mem_flatMap,List.mem_flatMap];have hN:=hV.num.n;have hl:∀x∈[s],0<=x/\x<g.n:=fun x hx=>by rw[Ye] at hx;omega
 constructor
 .rintro⟨v,hv,hx⟩;have hb:=((hq v).1 hv).lt hV hl;refine⟨v.toNat,elems_mem.2 ⟨by omega,clo_iff.2 ?_⟩,hx⟩;rw[Int.toNat_of_nonneg hb.1];exact (hq v).1 hv
 .rintro⟨n,hn,hx⟩;exact⟨(n:Int),(hq _).2 (clo_iff.1 (elems_mem.1 hn).2),hx⟩
theorem app257:appB Pz 257 252 3 24=true:=by kernel_rfl
def fsL (fb ib:Nat) (td fs:Sl) (D:List Bool) (T:List Int) (E:List Ev) (bl:Bool) (R:List It):List It:=
 .sl td 3 1 (T.map inC) :: .blk fb [.slice fs.a fs.n fs.c,.bool bl] 259 :: .sl fs 252 3 (E.map Ev.cs) :: .blk ib (D.map Value.bool) 4::R
theorem firsts_in {b:Nat} {g:Gl} {role:Int} {ho:Sl} {os:Nat->Sl} {s v:Int} {h0 h16 h4 h1:Heap} {R:List It} {td fs:Sl} {bl:Bool} {D:List Bool} {P T:List Int} {E:List Ev} {m9:Nat} {I7:Sl->Heap->Nat->Prop}
  (hA:AnG h0 b g role ho os) (hV:ValidS g) (hv0:0<=v) (hv1:v<g.n) (htd:0<td.n) (htm:td.n<=4096)
  (hs:St h0 h16 (fsL h4.size h1.size ⟨subA td.a (Int.toNat 0) td.c 1,Int.toNat ((td.n-1:Nat):Int)-Int.toNat 0,td.c-Int.toNat 0⟩ fs D T E bl R)) (hJ:FJ g role s v 0 D P T E)
  (hfin:∀(td' fs':Sl) (D':List Bool) (T':List Int) (E':List Ev) (h':Heap),St h0 h' (fsL h4.size h1.size td' fs' D' T' E' bl R)->FJ g role s v (outG g.es v).length D' P T' E'->∃m,m<m9/\I7 td' h' m) :
  V161a h16 ⟨b,0,none⟩ v td h4 g.n h1 m9 I7:=by
 unfold V161a;have hE:=hV.num.e;have hN:=hV.num.n;have hM:=hV.num.m;rw[show IntKind.wrap .i64 ((td.n:Int)-1)=((td.n-1:Nat):Int) by rw[w64 (by omega) (by omega)];omega];have hvn:((v.toNat:Nat):Int)=v:=Int.toNat_of_nonneg hv0;refine⟨ho,(hA.ext hs.ext).at_.nth 9 rfl,?_⟩;refine (hA.ro.ext hs.ext).nbI (by omega) (by have:=hA.ro.ln;rw[Yyd] at this;omega) fun b18 o19 d gd t=>?_;obtain⟨rfl,_⟩:=rangeG gd;refine⟨os v.toNat,t.hd,?_⟩;have hrow:=hA.rs v.toNat (by omega);rw[hvn] at hrow;have hrn:=hrow.ln;rw[show (natI (outG g.es v)).length=(outG g.es v).length from Yc _] at hrn;have hol:=outG_len g.es v;refine⟨fun td' x h' m=>∃(j:Nat) (fs':Sl) (D':List Bool) (T':List Int) (E':List Ev),x=j/\m=(os v.toNat).n-j/\j<=(os v.toNat).n/\St h0 h' (fsL h4.size h1.size td' fs' D' T' E' bl R)/\FJ g role s v j D' P T' E',⟨_,0,fs,D,T,E,rfl,rfl,by omega,hs,hJ⟩,?_⟩;clear hs hJ;rintro-td' _ h26 m ⟨j,fs',D',T',E',rfl,rfl,hj,hs,hJ⟩;have hle:=hJ.cl.le;have hDl:=hJ.cl.len;have hEl:=hJ.len;have htl:=hs.len 0 (s:=td') (e:=3) (n:=1) (rows:=T'.map inC) rfl (by omega);have hfl:=hs.len 2 (s:=fs') (e:=252) (n:=3) (rows:=E'.map Ev.cs) rfl (by omega);rw[Yc] at htl hfl;rw[Yh,Yyj] at hle;refine sBi (fun c=>?_) (fun c=>?_)
 .refine (hrow.ext hs.ext).nbI (by omega) (by omega) fun b27 o28 d gd t=>?_;replace gd:(natI (outG g.es v))[j]?=some d:=gd;obtain⟨k,hk,rfl⟩:∃k:Nat,(outG g.es v)[j]?=some k/\d=(k:Int):=by
   unfold natI at gd;rw[Yd] at gd;obtain⟨k,hk,e⟩:=Yya.1 gd;exact⟨k,hk,e.symm⟩
  obtain⟨x0,hx0,hxf⟩:=outG_mem.1 (Yb hk);have hkl:=(Ya.1 hx0).1;refine⟨_,t.hd,g.he,(hA.ext hs.ext).at_.nth 6 rfl,?_⟩;have hen:=hA.gi.e.ln;refine (hA.gi.e.rw.ext hs.ext).nbI (by omega) (by omega) fun b31 o32 x gx t2=>?_;replace gx:g.es[k]?=some x:=gx;rw[hx0] at gx;cases gx;refine⟨x0.f,x0.a,x0.b,x0.l,x0.t,x0.ag,t2,?_⟩;have hxE:=hE x0 (Yb hx0);unfold EdS at hxE;refine hs.newput (vs:=x0.cs) rfl rfl fun h40 hs=>?_;refine⟨x0.f,x0.a,x0.b,x0.l,x0.t,x0.ag,hs.at 0 rfl (o:=0) (n:=6) rfl,?_⟩;refine (seenR160 ⟨b,0,none⟩ role x0 h40 ((hA.ext hs.ext).at_.nth 8 rfl)).mono ?_;rintro _ h52 ⟨E52,rfl⟩;replace hs:=hs.step E52;cases hvis:vis1 role x0 with
  | some e=>
   refine⟨e.send,e.peer,e.label,true,rfl,?_⟩;refine hs.newput (vs:=e.cs) rfl rfl fun h54 hs=>?_;refine sB_t rfl ?_;refine⟨fs',hs.rd 3 rfl (i:=0) rfl,e.send,e.peer,e.label,hs.at 0 rfl (o:=0) (n:=3) rfl,?_⟩;refine hs.app 4 rfl app257 (m:=1) [e.cs] rfl rfl (fun r hr=>by rw[Ye] at hr;rw[hr];rfl) rfl (by omega) (by simp only[maxLen];omega) fun s60 h61 n60 hs=>?_;refine hs.put 3 rfl (o:=0) (vs:=[.slice s60.a s60.n s60.c]) rfl (show 1<=2 by decide) fun h62 hs=>?_;refine⟨_,by omega,j+1,s60,D',T',E'++[e],by rw[w64 (by omega) (by omega)];omega,rfl,by omega,?_,hJ.vis hk hx0 hvis⟩;have hs:=hs.drop 2;unfold fsL;rw[Ym];exact hs
  | none=>
   refine⟨false,0,0,false,rfl,?_⟩;refine hs.newput (vs:=[.bool false,.int .i64 0,.int .i64 0]) rfl rfl fun h54 hs=>?_;refine sB_f rfl ?_;obtain⟨y,hy⟩:=get_some (l:=D') (i:=x0.t.toNat) (by omega);have e0:0+Int.toNat x0.t*1=x0.t.toNat:=by omega
   refine⟨x0.t,hs.rd 1 rfl (i:=4) rfl,⟨by omega,by omega⟩,?_⟩;rw[e0];refine⟨y,hs.rd 5 rfl (by rw[map_get,hy];rfl),?_⟩;refine sB_intro (fun c2=>?_) (fun c2=>?_)
   .have hyf:y=false:=bF c2;subst hyf;refine⟨x0.t,hs.rd 1 rfl (i:=4) rfl,⟨by omega,by omega⟩,?_⟩;rw[e0];refine hs.put 5 rfl (o:=x0.t.toNat) (vs:=[.bool true]) rfl (by rw[Yc,Yv];omega) fun h67 hs=>?_;refine⟨x0.t,hs.rd 1 rfl (i:=4) rfl,?_⟩;refine hs.app 2 rfl app42 (m:=1) [[.int .i64 x0.t]] rfl rfl (by simp) rfl (by omega) (by simp only[maxLen];omega) fun s70 h71 n70 hs=>?_;refine⟨_,by omega,j+1,fs',D'.set x0.t.toNat true,T'++[x0.t],E',by rw[w64 (by omega) (by omega)];omega,rfl,by omega,?_,hJ.new hk hx0 hvis (by omega) hy⟩;have hs:=hs.drop 2;unfold fsL;rw[Ym,<-map_splice _ (by omega)];exact hs
   .have hyt:y=true:=bT c2;subst hyt;refine⟨_,by omega,j+1,fs',D',T',E',by rw[w64 (by omega) (by omega)];omega,rfl,by omega,hs.drop 2,hJ.old hk hx0 hvis (by omega) hy⟩
 .refine hfin td' fs' D' T' E' h26 hs ?_;rw[show (outG g.es v).length=j by omega];exact hJ
theorem firstsR161 (b:Nat) (g:Gl) (role:Int) (ho:Sl) (os:Nat->Sl) (s:Nat) (h:Heap) (hA:AnG h b g role ho os) (hV:ValidS g) (hs1:(s:Int)<g.n) :
  Fn Pz 161 #[.pointer (some ⟨b,0,none⟩),.int .i64 (s:Nat)] h fun v h'=>∃r:Sl,v=.agg ⟨[.slice r.a r.n r.c,.bool (firstB g role s)]⟩/\St h h' [.sl r 252 3 ((firstE g role s).map Ev.cs)]:=by
 apply vc161 ⟨b,0,none⟩ (s:Nat);unfold W161;have hN:=hV.num.n;have hM:=hV.num.m;refine (St.refl h).newb fun h1 hs=>?_;refine⟨g.n,(hA.ext hs.ext).at_.nth 3 rfl,by omega,?_⟩;rw[made4];refine hs.newb fun h3 hs=>?_;have e0:0+Int.toNat ((s:Nat):Int)*1=s:=by omega
 refine⟨⟨by omega,by omega⟩,?_⟩;rw[e0];refine hs.put 0 rfl (o:=s) (vs:=[.bool true]) rfl (by rw[Yc,Yg,Yv];omega) fun h4 hs=>?_;refine hs.newb fun h5 hs=>?_;refine hs.newb fun h6 hs=>?_;have hsl:=hs.blkS 1 1 ([((s:Nat):Int)].map inC) rfl (inrows _) rfl (by decide);have hsl:=hsl.nil_ 252 3;have hcl:CL g.es role g.n.toNat [(s:Int)] ((List.replicate g.n.toNat false).set s true) ([]++[(s:Int)]):=
  (CL.start g.es role g.n.toNat [(s:Int)]).push (b:=(s:Int)) (by omega) (by rw[Ys,List.getElem?_replicate,if_pos (by omega)]) (.base (by simp))
 have hl:∀x∈[(s:Int)],0<=x/\x<g.n:=fun x hx=>by rw[Ye] at hx;omega
 refine⟨fun td h' m=>∃(fs:Sl) (D:List Bool) (P T:List Int) (E:List Ev),m=g.n.toNat-P.length/\St h h' (fsL h4.size h1.size td fs D T E (decide (g.e∈P)) [.blk h.size [.slice none 0 0,.bool false] 259])/\FI g role s D P T E,⟨_,⟨none,0,0⟩,(List.replicate g.n.toNat false).set s true,[],[(s:Int)],[],rfl,?_,⟨hcl,by simp,fun v hv=>(by cases hv),rfl,by simp⟩⟩,?_⟩
 .refine hsl.perm ?_;unfold fsL;rw[<-map_splice _ (by rw[Yg];omega)];exact (List.Perm.swap _ _ _).trans (List.Perm.cons _ (List.Perm.swap _ _ _))
 clear hs hsl hcl;rintro-td h11 m ⟨fs,D,P,T,E,rfl,hs,hI⟩;have hle:=hI.cl.le;rw[Yh] at hle;have htl:=hs.len 0 (s:=td) (e:=3) (n:=1) (rows:=T.map inC) rfl (by omega);rw[Yc] at htl;refine sBi (fun c=>?_) (fun c=>?_)
 .rw[show IntKind.wrap .i64 ((td.n:Int)-1)=((td.n-1:Nat):Int) by rw[w64 (by omega) (by omega)];omega];refine (hs.rows 0 rfl (by omega)).nbI (by omega) (by omega) fun b12 o13 v gv t=>?_;replace gv:T[td.n-1]?=some v:=gv;have hT:T=T.take (td.n-1)++[v]:=by rw[<-take_snoc gv,Yj (by omega)]
  refine⟨v,t.hd,⟨by omega,by omega,by omega⟩,?_⟩;have hJ:FJ g role s v 0 D P (T.take (td.n-1)) E:=by rw[hT] at hI;exact hI.pop
  have hvm:=(hJ.cl.mem v).1 (by simp);have hvl:v<g.n:=((hJ.cl.r v (by simp)).lt hV hl).2;refine⟨_,hs.rd 1 rfl (i:=1) rfl,?_⟩;have fin:∀(bl:Bool),bl=decide (g.e∈P++[v])->∀(td' fs':Sl) (D':List Bool) (T':List Int) (E':List Ev) (h':Heap),St h h' (fsL h4.size h1.size td' fs' D' T' E' bl [.blk h.size [.slice none 0 0,.bool false] 259])->FJ g role s v (outG g.es v).length D' P T' E' ->
    ∃m,m<g.n.toNat-P.length/\∃(fs:Sl) (D:List Bool) (P T:List Int) (E:List Ev),m=g.n.toNat-P.length/\St h h' (fsL h4.size h1.size td' fs D T E (decide (g.e∈P)) [.blk h.size [.slice none 0 0,.bool false] 259])/\FI g role s D P T E:=fun bl hbl td' fs' D' T' E' h' hs' hJ'=>by
   subst hbl;refine⟨_,?_,fs',D',P++[v],T',E',rfl,hs',hJ'.fin hvm.1 (Yyt _)⟩;rw[Yh,Yv];omega
  refine sB_intro (fun c2=>?_) (fun c2=>?_)
  .refine hs.put 1 rfl (o:=1) (vs:=[.bool true]) rfl (show 2<=2 by decide) fun h16 hs=>?_;refine firsts_in hA hV hvm.1 hvl (by omega) (by omega) (bl:=true) (fs:=fs) (D:=D) (P:=P) (T:=T.take (td.n-1)) (E:=E) ?_ hJ (fin true ?_)
   .have h9:=hs.cut 0 rfl (by omega) (td.n-1) (by omega);rw[<-List.map_take] at h9;rw[show subA td.a (Int.toNat 0) td.c 1=td.a from subA_zero _ _ _];exact h9
   .rw[decide_eq_true];exact List.mem_append_left _ (Yyn c2)
  .refine⟨g.e,(hA.ext hs.ext).at_.nth 5 rfl,?_⟩;refine hs.put 1 rfl (o:=1) (vs:=[.bool (v==g.e)]) rfl (show 2<=2 by decide) fun h16 hs=>?_;refine firsts_in hA hV hvm.1 hvl (by omega) (by omega) (bl:=v==g.e) (fs:=fs) (D:=D) (P:=P) (T:=T.take (td.n-1)) (E:=E) ?_ hJ (fin _ ?_)
   .have h9:=hs.cut 0 rfl (by omega) (td.n-1) (by omega);rw[<-List.map_take] at h9;rw[show subA td.a (Int.toNat 0) td.c 1=td.a from subA_zero _ _ _];exact h9
   .have h8:¬g.e∈P:=Yyo c2;rw[Bool.eq_iff_iff,decide_eq_true_eq,Yk,Ye,beq_iff_eq];exact⟨fun e=>.inr e.symm,fun h=>h.elim (fun h=>absurd h h8) Eq.symm⟩
 .have hT:T=[]:=List.length_eq_zero_iff.1 (by omega);subst hT;have hfl:=hs.len 2 (s:=fs) (e:=252) (n:=3) (rows:=E.map Ev.cs) rfl (by omega);have hEl:E.length<=g.es.length:=by
   rw[hI.e];exact ev_total (hI.nd.sublist (List.sublist_append_left _ _)) fun v hv=>((hI.cl.mem v).1 (by simp[hv])).1
  refine⟨fs,hs.rd 1 rfl (i:=0) rfl,?_⟩;refine (sort203 hs 2 rfl (by omega)).mono ?_;rintro _ h137 ⟨rfl,E',hp,hw,hs⟩;refine⟨rfl,fs,hs.rd 1 rfl (i:=0) rfl,?_⟩;refine (compact205 hs 2 rfl (by rw[hp.length_eq];omega)).mono ?_;rintro _ h141 ⟨r,rfl,hs⟩;refine⟨r,rfl,?_⟩;refine hs.put 1 rfl (o:=0) (vs:=[.slice r.a r.n r.c]) rfl (show 1<=2 by decide) fun h142 hs=>?_;refine⟨r,_,hs.at 1 rfl (o:=0) (n:=2) rfl,?_⟩;refine hs.put 4 rfl (o:=0) (vs:=[.slice r.a r.n r.c,.bool (decide (g.e∈P))]) rfl (show 2<=2 by decide) fun h145 hs=>?_;refine⟨r,_,hs.at 4 rfl (o:=0) (n:=2) rfl,r,?_,?_⟩
  .obtain⟨hq,_⟩:=hI.fin hV (by omega) hs1;have hb:decide (g.e∈P)=firstB g role s:=by
    unfold firstB;rw[Bool.eq_iff_iff,decide_eq_true_eq,clo_iff,hq,Int.toNat_of_nonneg (by omega)]
   rw[hb]
  .obtain⟨_,he⟩:=hI.fin hV (by omega) hs1;rw[compact_sortE hp hw,he] at hs;exact hs.sub (L':=[_]) (by
    refine List.Sublist.trans ?_ (List.drop_sublist 2 _);exact List.singleton_sublist.2 (by simp[fsL]))
end Go.VC
end

section
namespace Go.VC
open Go.Proofs Go.LexS Go.RowKit Go.Lib
theorem App_zeros {P:Program} {t u e:TypeId} {size bytes:Nat} {kn:IntKind} (hT:appB P t e size bytes=true) (hun:P.underlying u=some (.int kn)) {h:Heap} {n:Nat} {m:Int} (hm:m=n) (h0:0<n) (hbytes:n*bytes<=140737488355328) (h63:n<=maxLen)
  {K:Sl->Heap->Prop} (hK:∀(r:Sl) (h':Heap) (xs:List Value),r.n=n->Ext h h'->OwnS h' h.size e size r xs->K r h'):App P t u (.slice none 0 0) (.int .i64 m) h K:=by
 intro ty w hw;subst hw;subst hm;unfold appB at hT;simp only[Yt] at hT;obtain⟨⟨⟨⟨⟨⟨⟨hs,he⟩,ht⟩,hz⟩,hzl⟩,hsz⟩,hby⟩,hpos⟩:=hT;have hu:=sliceB_e hs;rw[beqT he] at hu;obtain⟨i,hi⟩:=isT_info ht;obtain⟨z,hz'⟩:=Option.isSome_iff_exists.1 hz;rw[hi] at hz';simp only[Option.bind_some] at hz';have e1:i.size=size:=by have:=beqT hsz;simpa [szOf,hi] using this
 have e2:i.bytes=bytes:=by have:=beqT hby;simpa [byOf,hi] using this
 have e3:z.cells.size=size:=by have:=beqT hzl;simpa [zeroC,hi,hz'] using this
 have hp:0<size:=by simpa using hpos
 have hmax:((0+n:Nat):Int)<=9223372036854775807:=by simp only[maxLen] at h63;omega
 have hr:=Lib.run_append_grow_zeros w t u ty e i z .i64 kn hu hun hi hz' none 0 0 [] (run_firstCells_none w.drew i.size 0 0 0) n h0 (by omega) (by omega) hmax
  (by rw[e2];omega) (growslice_fits (by omega) (by rw[Nat.zero_add,e2];exact hbytes))
 rw[Nat.zero_add] at hr;have hge:=grownCap_ge w n 0 e;have hle:=grownCap_le_maxLen w n 0 e h63;refine⟨_,_,hr,⟨⟨some ⟨w.heap.size,0,none⟩,n,grownCap w n 0 e⟩,rfl,hK _ _ _ rfl (Ext.push _ _) ⟨?_,.inr ⟨w.heap.size,_,rfl,Yyt _,Array.getElem?_push_size,hge,hle,?_,rfl⟩⟩⟩,rfl,rfl,rfl⟩
 .rw[Yu];have:(List.toArray ([]:List Value)++Builtin.zeroCells z.cells n++Builtin.zeroCells z.cells (grownCap w n 0 e-n)).toList.length=grownCap w n 0 e*size:=by
   simp only[Array.toList_append,Yh,zeroCells_len,e3];rw[List.length_nil,Nat.zero_add,<-Nat.add_mul];congr 1;omega
  rw[this];exact Nat.min_eq_left (Nat.mul_le_mul_right _ hge)
 .show (List.toArray ([]:List Value)++Builtin.zeroCells z.cells n++Builtin.zeroCells z.cells (grownCap w n 0 e-n)).toList.length=grownCap w n 0 e*size;simp only[Array.toList_append,Yh,zeroCells_len,e3];rw[List.length_nil,Nat.zero_add,<-Nat.add_mul];congr 1;omega
structure Pmv where
 x:Int
 y:Int
 s:Int
 t:Int
 deriving DecidableEq
def Pmv.cs (m:Pmv):List Value:=[.int .i64 m.x,.int .i64 m.y,.int .i64 m.s,.int .i64 m.t]
theorem pmrows (L:List Pmv):∀r∈L.map Pmv.cs,r.length=4:=fun r hr=>by obtain⟨x,_,rfl⟩:=Yp.1 hr;rfl
theorem app273:appB Pz 273 276 4 32=true:=by kernel_rfl
theorem und3:Pz.underlying 3=some (.int .i64):=by kernel_rfl
theorem grow250 (n:Nat) (h:Heap) (hn:n<=1048576):Fn Pz 250 #[.slice none 0 0,.int .i64 (n:Nat)] h fun v h'=>∃r:Sl,v=.slice r.a r.n r.c/\St h h' [.sl r 276 4 []]:=by
 apply vc250 ⟨none,0,0⟩ (n:Nat);unfold W250;refine⟨fun h'=>h'=h,sBi (fun c=>by omega) (fun _=>rfl),?_⟩;rintro-_ rfl;have e0:IntKind.wrap .i64 (((0:Nat):Int)-((0:Nat):Int))=0:=by rw[w64 (by omega) (by omega)];omega
 have e1:IntKind.wrap .i64 ((n:Int)-IntKind.wrap .i64 (((0:Nat):Int)-((0:Nat):Int)))=n:=by rw[e0,w64 (by omega) (by omega)];omega
 show sB (decide ((IntKind.wrap .i64 ((n:Int)-IntKind.wrap .i64 (((0:Nat):Int)-((0:Nat):Int))))>0)) _ _;refine sBi (fun c=>?_) (fun c=>⟨⟨none,0,0⟩,rfl,(St.refl _).nil_ 276 4⟩);rw[e1] at c;refine⟨⟨by omega,by show (0:Int)<=((0:Nat):Int);omega,by show ((0:Nat):Int)<=((0:Nat):Int);omega⟩,?_⟩;refine App_zeros app273 und3 (n:=n) e1 (by omega) (by omega) (by simp only[maxLen];omega) fun r h' xs hrn E ho=>?_;refine⟨⟨by omega,by show (0:Int)<=((0:Nat):Int);omega,by show ((0:Nat):Int)<=_;omega⟩,⟨subA r.a (Int.toNat 0) r.c 4,Int.toNat ((0:Nat):Int)-Int.toNat 0,r.c-Int.toNat 0⟩,rfl,?_⟩;have h0:(It.sl ⟨subA r.a (Int.toNat 0) r.c 4,Int.toNat ((0:Nat):Int)-Int.toNat 0,r.c-Int.toNat 0⟩ 276 4 []).ok h':=by
  rw[show subA r.a (Int.toNat 0) r.c 4=r.a from subA_zero _ _ _];refine⟨⟨rfl,?_⟩,fun r hr=>by cases hr⟩;rcases ho.2 with ⟨ha,hn0,hc0⟩ | ⟨g,cur,ha,_,hh,hnc,hcm,hcs,_⟩
  .exact .inl ⟨ha,rfl,hc0⟩
  .exact .inr ⟨g,cur,ha,Nat.zero_le _,hh,Nat.zero_le _,hcm,hcs,rfl⟩
 refine (St.refl _).more E h0 fun b hb=>?_;rw[show subA r.a (Int.toNat 0) r.c 4=r.a from subA_zero _ _ _] at hb;exact (own_at_zero ho hb).2.2
theorem sum_take {α:Type} {L:List (Sl × List α)} {i:Nat} {q:Sl × List α} (h:L[i]?=some q):((L.take (i+1)).map fun q=>q.2.length).sum=((L.take i).map fun q=>q.2.length).sum+q.2.length:=by
 rw[take_snoc h,Ym,List.sum_append];simp
theorem sum_take_le {α:Type} (L:List (Sl × List α)) (i:Nat):((L.take i).map fun q=>q.2.length).sum<=(L.map fun q=>q.2.length).sum:=by
 conv=>rhs;rw[<-List.take_append_drop i L,Ym,List.sum_append]
 omega
theorem concat211 (Ls:List (Sl × List Pmv)) (s:Sl) (h:Heap) (hr:Rw h 1 s (Ls.map fun q=>slC q.1)) (hL:∀q∈Ls,RL h 4 q.1 Pmv.cs q.2) (hn:Ls.length<=1048576) (hsm:(Ls.map fun q=>q.2.length).sum<=1048576) :
  Fn Pz 211 #[.slice s.a s.n s.c] h fun v h'=>∃r:Sl,v=.slice r.a r.n r.c/\St h h' [.sl r 276 4 ((Ls.flatMap Prod.snd).map Pmv.cs)]:=by
 apply vc211 s;unfold W211;have hsn:=hr.ln;refine⟨fun z x h' m=>∃i:Nat,x=i/\m=s.n-i/\i<=s.n/\h'=h/\z=(((Ls.take i).map fun q=>q.2.length).sum:Nat),⟨_,0,rfl,rfl,by omega,rfl,rfl⟩,?_⟩;rintro-_ _ h6 m ⟨i,rfl,rfl,hi,rfl,rfl⟩;refine sBi (fun c=>?_) (fun c=>?_)
 .refine hr.nbI (by omega) (by omega) fun b o q gq t=>?_;replace gq:Ls[i]?=some q:=gq;have hq:=hL q (Yb gq);have hqn:=hq.ln;have h1:=sum_take gq;have h2:=sum_take_le Ls (i+1);refine⟨q.1,t.hd,?_⟩;have e:IntKind.wrap .i64 (((((Ls.take i).map fun q=>q.2.length).sum:Nat):Int)+(q.1.n:Int))=(((Ls.take (i+1)).map fun q=>q.2.length).sum:Nat):=by rw[w64 (by omega) (by omega)];omega
  rw[e];refine sBi (fun c2=>by omega) (fun _=>⟨_,by omega,i+1,by rw[w64 (by omega) (by omega)];omega,rfl,by omega,rfl,rfl⟩)
 .have hfull:Ls.take i=Ls:=Yj (by omega);rw[hfull];refine (grow250 _ h6 hsm).mono ?_;rintro _ h13 ⟨r,rfl,hs⟩;refine⟨r,rfl,?_⟩;refine up_loopA (n:=s.n) hs (fun i rows=>rows=((Ls.take i).flatMap Prod.snd).map Pmv.cs) rfl ?_;clear hs;rintro-i2 ns h19 rows hi2 hs rfl;have hcap:=hs.len 0 (s:=ns) (e:=276) (n:=4) rfl (by omega);rw[Yc,List.length_flatMap] at hcap;refine sBi (fun c2=>?_) (fun c2=>?_)
  .refine (hr.ext hs.ext).nbI (by omega) (by omega) fun b o q gq t=>?_;replace gq:Ls[i2]?=some q:=gq;have hq:=hL q (Yb gq);have hqn:=hq.ln;have h1:=sum_take gq;have h2:=sum_take_le Ls (i2+1);refine⟨q.1,t.hd,?_⟩;refine hs.appRw 0 rfl app273 (hq.rw.ext hs.ext) (pmrows _) hq.nil (by
    rw[List.all_eq_true];intro v hv;obtain⟨r,hr,hv⟩:=List.mem_flatten.1 hv;obtain⟨x,_,rfl⟩:=Yp.1 hr;simp[Pmv.cs] at hv;rcases hv with rfl | rfl | rfl | rfl<;>rfl) (by omega) (by simp only[maxLen];omega) fun s23 h24 n23 hs=>?_
   refine UpA.next (by omega) (by omega) ⟨_,hs,?_⟩;rw[take_snoc gq,List.flatMap_append,Ym];simp
  .rw[Yj (by omega)] at hs;exact⟨ns,rfl,hs⟩
def eA (es:List Ed) (k:Nat):Ed:=es.getD k ⟨0,0,0,0,0,false⟩
theorem eA_get {es:List Ed} {k:Nat} {x:Ed} (h:es[k]?=some x):eA es k=x:=by unfold eA;rw[Yo,h];rfl
def qtB (es:List Ed) (role:Int) (k:Nat):Bool:=(vis1 role (eA es k)).isNone
def mqL (es:List Ed) (role:Int) (t:Nat) (l:List Nat):List Pmv:=(l.filter (qtB es role)).map fun i:Nat=>⟨(i:Int),-1,(eA es i).t,(t:Nat)⟩
def moL (es:List Ed) (role:Int) (s:Nat) (l:List Nat):List Pmv:=(l.filter (qtB es role)).map fun k:Nat=>⟨-1,(k:Int),(s:Nat),(eA es k).t⟩
def mb1 (es:List Ed) (role:Int) (i:Nat) (l:List Nat):List Pmv:=match vis1 role (eA es i) with
 | none=>[]
 | some a=>(l.filter fun k=>decide (vis1 role (eA es k)=some a)).map fun k:Nat=>⟨(i:Int),(k:Int),(eA es i).t,(eA es k).t⟩
def mbL (es:List Ed) (role:Int) (l m:List Nat):List Pmv:=l.flatMap fun i=>mb1 es role i m
def movL (es:List Ed) (role:Int) (s t:Nat):List Pmv:=mqL es role t (outG es (s:Nat))++moL es role s (outG es (t:Nat))++mbL es role (outG es (s:Nat)) (outG es (t:Nat))
theorem mqL_len {es:List Ed} {role:Int} {t:Nat} {l:List Nat}:(mqL es role t l).length<=l.length:=by unfold mqL;rw[Yc];exact List.length_filter_le _ _
theorem moL_len {es:List Ed} {role:Int} {t:Nat} {l:List Nat}:(moL es role t l).length<=l.length:=by unfold moL;rw[Yc];exact List.length_filter_le _ _
theorem mb1_len {es:List Ed} {role:Int} {i:Nat} {l:List Nat}:(mb1 es role i l).length<=l.length:=by
 unfold mb1;split
 .exact Nat.zero_le _
 .rw[Yc];exact List.length_filter_le _ _
theorem mbL_len {es:List Ed} {role:Int}:∀ {l m:List Nat},(mbL es role l m).length<=l.length*m.length
 | [],m=>by simp[mbL]
 | a::l,m=>by
  have h1:=mbL_len (es:=es) (role:=role) (l:=l) (m:=m);have h2:=mb1_len (es:=es) (role:=role) (i:=a) (l:=m);unfold mbL at h1 ⊢;rw[List.flatMap_cons,Yh,Yyj,Nat.succ_mul];omega
theorem vis_none {role:Int} {x:Ed}:vis1 role x=none ↔ x.a≠role/\x.b≠role:=by
 unfold vis1;by_cases h1:role=x.a
 .rw[if_pos h1];simp[h1.symm]
 .rw[if_neg h1];by_cases h2:role=x.b
  .rw[if_pos h2];simp[h2.symm]
  .rw[if_neg h2];simp;exact⟨fun e=>h1 e.symm,fun e=>h2 e.symm⟩
theorem RL.ofSt {α:Type} {h0 h:Heap} {L:List It} (hs:St h0 h L) (k:Nat) {s:Sl} {e:TypeId} {n:Nat} {cs:α->List Value} {l:List α} (hk:L[k]?=some (.sl s e n (l.map cs))) (hn:0<n) (hm:l.length<=1048576):RL h n s cs l:=
 ⟨hs.rw k hk hn,(hs.len k hk hn).2.1,(hs.len k hk hn).2.2,hm⟩
end Go.VC
end

section
namespace Go.VC
open Go.Proofs Go.LexS
theorem mqL_snoc {es:List Ed} {role:Int} {t:Nat} {l:List Nat} {j k:Nat} (hk:l[j]?=some k):mqL es role t (l.take (j+1))=mqL es role t (l.take j)++(if qtB es role k then [⟨(k:Int),-1,(eA es k).t,(t:Nat)⟩] else []):=by
 unfold mqL;rw[take_snoc hk,List.filter_append,Ym];congr 1;by_cases h:qtB es role k=true
 .rw[if_pos h,List.filter_cons_of_pos h];rfl
 .rw[if_neg h,List.filter_cons_of_neg h];rfl
theorem moL_snoc {es:List Ed} {role:Int} {t:Nat} {l:List Nat} {j k:Nat} (hk:l[j]?=some k):moL es role t (l.take (j+1))=moL es role t (l.take j)++(if qtB es role k then [⟨-1,(k:Int),(t:Nat),(eA es k).t⟩] else []):=by
 unfold moL;rw[take_snoc hk,List.filter_append,Ym];congr 1;by_cases h:qtB es role k=true
 .rw[if_pos h,List.filter_cons_of_pos h];rfl
 .rw[if_neg h,List.filter_cons_of_neg h];rfl
theorem mb1_snoc {es:List Ed} {role:Int} {i:Nat} {l:List Nat} {j k:Nat} {a:Ev} (ha:vis1 role (eA es i)=some a) (hk:l[j]?=some k):mb1 es role i (l.take (j+1))=mb1 es role i (l.take j)++(if vis1 role (eA es k)=some a then [⟨(i:Int),(k:Int),(eA es i).t,(eA es k).t⟩] else []):=by
 unfold mb1;rw[ha];simp only;rw[take_snoc hk,List.filter_append,Ym];congr 1;by_cases h:vis1 role (eA es k)=some a
 .rw[if_pos h,List.filter_cons_of_pos (by rw[decide_eq_true h])];rfl
 .rw[if_neg h,List.filter_cons_of_neg (by rw[decide_eq_false h];decide)];rfl
theorem mbL_snoc {es:List Ed} {role:Int} {l m:List Nat} {j k:Nat} (hk:l[j]?=some k):mbL es role (l.take (j+1)) m=mbL es role (l.take j) m++mb1 es role k m:=by
 unfold mbL;rw[take_snoc hk,List.flatMap_append,List.flatMap_singleton]
theorem mb1_none {es:List Ed} {role:Int} {i:Nat} {l:List Nat} (ha:vis1 role (eA es i)=none):mb1 es role i l=[]:=by unfold mb1;rw[ha]
def mvB (h:Heap) (q bo:Sl) (Q B:List Pmv) (s t:Nat):List It:=[.sl q 276 4 (Q.map Pmv.cs),.sl bo 276 4 (B.map Pmv.cs),.blk h.size [.int .i64 (s:Nat),.int .i64 (t:Nat)] 272]
theorem movesR164 (b:Nat) (g:Gl) (role:Int) (ho:Sl) (os:Nat->Sl) (s t:Nat) (h:Heap) (hA:AnG h b g role ho os) (hV:ValidS g) (hs1:(s:Int)<g.n) (ht1:(t:Int)<g.n) :
  Fn Pz 164 #[.pointer (some ⟨b,0,none⟩),.agg ⟨[.int .i64 (s:Nat),.int .i64 (t:Nat)]⟩] h fun v h'=>∃r:Sl,v=.slice r.a r.n r.c/\St h h' [.sl r 276 4 ((movL g.es role s t).map Pmv.cs)]:=by
 apply vc164 ⟨b,0,none⟩ (s:Nat) (t:Nat);unfold W164;have hN:=hV.num.n;have hM:=hV.num.m;have hon:=hA.ro.ln;rw[Yyd] at hon;have hen:=hA.gi.e.ln;have hso:=outG_len g.es (s:Nat);have hto:=outG_len g.es (t:Nat);have rs:=hA.rs s (by omega);have rt:=hA.rs t (by omega);have rsn:(os s).n=(outG g.es (s:Nat)).length:=by rw[rs.ln];exact Yc _
 have rtn:(os t).n=(outG g.es (t:Nat)).length:=by rw[rt.ln];exact Yc _
 refine (St.refl h).newb fun h3 hs=>?_;refine⟨ho,(hA.ext hs.ext).at_.nth 9 rfl,(s:Nat),hs.rd 0 rfl (i:=0) rfl,?_⟩;refine (hA.ro.ext hs.ext).nbI (by omega) (by omega) fun b6 o7 d gd u=>?_;obtain rfl:s=d:=(rangeG gd).1;refine⟨os s,u.hd,?_⟩;have hs:=(hs.nil_ 276 4).nil_ 276 4;refine⟨fun q bo x h' m=>∃j:Nat,x=j/\m=(os s).n-j/\j<=(os s).n/\St h h' (mvB h q bo (mqL g.es role t ((outG g.es (s:Nat)).take j)) (mbL g.es role ((outG g.es (s:Nat)).take j) (outG g.es (t:Nat))) s t),⟨_,0,rfl,rfl,by omega,hs⟩,?_⟩;clear hs;rintro-q bo _ h15 m ⟨j,rfl,rfl,hj,hs⟩;have hql:=(hs.len 0 (s:=q) (e:=276) (n:=4) rfl (by omega)).1;have hbl:=(hs.len 1 (s:=bo) (e:=276) (n:=4) rfl (by omega)).1;rw[Yc] at hql hbl;have hq1:=mqL_len (es:=g.es) (role:=role) (t:=t) (l:=(outG g.es (s:Nat)).take j);have hb1:=mbL_len (es:=g.es) (role:=role) (l:=(outG g.es (s:Nat)).take j) (m:=outG g.es (t:Nat));have hb2:((outG g.es (s:Nat)).take j).length*(outG g.es (t:Nat)).length<=400*400:=Nat.mul_le_mul (by rw[Yu];omega) (by omega);rw[Yu] at hq1;refine sBi (fun c=>?_) (fun c=>?_)
 .refine (rs.ext hs.ext).nbI (by omega) (by omega) fun b16 o17 d gd u=>?_;obtain⟨k,hk,rfl⟩:=natI_get gd;replace hk:(outG g.es (s:Nat))[j]?=some k:=hk;obtain⟨x0,hx0,hxf⟩:=outG_mem.1 (Yb hk);have hkl:=(Ya.1 hx0).1;have hxe:=eA_get hx0;refine⟨_,u.hd,g.he,(hA.ext hs.ext).at_.nth 6 rfl,?_⟩;refine (hA.gi.e.rw.ext hs.ext).nbI (by omega) (by omega) fun b20 o21 x gx u2=>?_;replace gx:g.es[k]?=some x:=gx;rw[hx0] at gx;cases gx;refine⟨x0.f,x0.a,x0.b,x0.l,x0.t,x0.ag,u2,?_⟩;refine hs.newput (vs:=x0.cs) rfl rfl fun h29 hs=>?_;refine⟨x0.f,x0.a,x0.b,x0.l,x0.t,x0.ag,hs.at 0 rfl (o:=0) (n:=6) rfl,?_⟩;refine (seenR160 ⟨b,0,none⟩ role x0 h29 ((hA.ext hs.ext).at_.nth 8 rfl)).mono ?_;rintro _ h41 ⟨E41,rfl⟩;replace hs:=hs.step E41;cases hvis:vis1 role x0 with
  | none=>
   refine⟨false,0,0,false,rfl,?_⟩;refine hs.newput (vs:=[.bool false,.int .i64 0,.int .i64 0]) rfl rfl fun h43 hs=>?_;refine sB_t rfl ?_;refine⟨x0.t,hs.rd 1 rfl (i:=4) rfl,(t:Nat),hs.rd 4 rfl (i:=1) rfl,?_⟩;refine hs.app 2 rfl app273 (m:=1) [Pmv.cs ⟨(k:Int),-1,x0.t,(t:Nat)⟩] rfl rfl (fun r hr=>by rw[Ye] at hr;rw[hr];rfl) rfl (by omega) (by simp only[maxLen];omega) fun s47 h48 n47 hs=>?_;refine⟨_,by omega,j+1,by rw[w64 (by omega) (by omega)];omega,rfl,by omega,?_⟩;have hs:=hs.drop 2;rw[mqL_snoc hk,mbL_snoc hk,mb1_none (by rw[hxe];exact hvis),Yw,if_pos (by unfold qtB;rw[hxe,hvis];rfl),hxe];unfold mvB;rw[Ym];exact hs
  | some e=>
   refine⟨e.send,e.peer,e.label,true,rfl,?_⟩;refine hs.newput (vs:=e.cs) rfl rfl fun h43 hs=>?_;refine sB_f rfl ?_;refine⟨ho,(hA.ext hs.ext).at_.nth 9 rfl,(t:Nat),hs.rd 4 rfl (i:=1) rfl,?_⟩;refine (hA.ro.ext hs.ext).nbI (by omega) (by omega) fun b52 o53 d gd u3=>?_;obtain rfl:t=d:=(rangeG gd).1;refine⟨os t,u3.hd,?_⟩;have hq2:mqL g.es role t ((outG g.es (s:Nat)).take (j+1))=mqL g.es role t ((outG g.es (s:Nat)).take j):=by
    rw[mqL_snoc hk,if_neg (by unfold qtB;rw[hxe,hvis];exact fun h9=>by cases h9),Yw]
   refine⟨fun bo x h' m=>∃j2:Nat,x=j2/\m=(os t).n-j2/\j2<=(os t).n/\St h h' (.blk h41.size e.cs 252 :: .blk h15.size x0.cs 55::mvB h q bo (mqL g.es role t ((outG g.es (s:Nat)).take j)) (mbL g.es role ((outG g.es (s:Nat)).take j) (outG g.es (t:Nat))++mb1 g.es role k ((outG g.es (t:Nat)).take j2)) s t),⟨_,0,rfl,rfl,by omega,?_⟩,?_⟩
   .have:mb1 g.es role k ((outG g.es (t:Nat)).take 0)=[]:=List.length_eq_zero_iff.1 (by have:=mb1_len (es:=g.es) (role:=role) (i:=k) (l:=(outG g.es (t:Nat)).take 0);rw[Yyk,List.length_nil] at this;rw[Yyk];omega);rw[this,Yw];exact hs
   clear hs;rintro-bo2 _ h60 m ⟨j2,rfl,rfl,hj2,hs⟩;have hbl2:=(hs.len 3 (s:=bo2) (e:=276) (n:=4) rfl (by omega)).1;rw[Yc,Yh] at hbl2;have hb3:=mb1_len (es:=g.es) (role:=role) (i:=k) (l:=(outG g.es (t:Nat)).take j2);rw[Yu] at hb3;refine sBi (fun c2=>?_) (fun c2=>?_)
   .refine (rt.ext hs.ext).nbI (by omega) (by omega) fun b61 o62 d gd u4=>?_;obtain⟨k2,hk2,rfl⟩:=natI_get gd;replace hk2:(outG g.es (t:Nat))[j2]?=some k2:=hk2;obtain⟨x2,hx2,hxf2⟩:=outG_mem.1 (Yb hk2);have hkl2:=(Ya.1 hx2).1;have hxe2:=eA_get hx2;refine⟨_,u4.hd,g.he,(hA.ext hs.ext).at_.nth 6 rfl,?_⟩;refine (hA.gi.e.rw.ext hs.ext).nbI (by omega) (by omega) fun b65 o66 x gx u5=>?_;replace gx:g.es[k2]?=some x:=gx;rw[hx2] at gx;cases gx;refine⟨x2.f,x2.a,x2.b,x2.l,x2.t,x2.ag,u5,?_⟩;refine hs.newput (vs:=x2.cs) rfl rfl fun h74 hs=>?_;refine⟨x2.f,x2.a,x2.b,x2.l,x2.t,x2.ag,hs.at 0 rfl (o:=0) (n:=6) rfl,?_⟩;refine (seenR160 ⟨b,0,none⟩ role x2 h74 ((hA.ext hs.ext).at_.nth 8 rfl)).mono ?_;rintro _ h86 ⟨E86,rfl⟩;replace hs:=hs.step E86;have hvk:vis1 role (eA g.es k)=some e:=by rw[hxe];exact hvis
    have skip:∀ {hZ:Heap},vis1 role (eA g.es k2)≠some e->St h hZ (.blk h41.size e.cs 252 :: .blk h15.size x0.cs 55::mvB h q bo2 (mqL g.es role t ((outG g.es (s:Nat)).take j)) (mbL g.es role ((outG g.es (s:Nat)).take j) (outG g.es (t:Nat))++mb1 g.es role k ((outG g.es (t:Nat)).take j2)) s t) ->
      ∃m,m<(os t).n-j2/\∃j3:Nat,IntKind.wrap .i64 ((j2:Int)+1)=j3/\m=(os t).n-j3/\j3<=(os t).n/\St h hZ (.blk h41.size e.cs 252 :: .blk h15.size x0.cs 55::mvB h q bo2 (mqL g.es role t ((outG g.es (s:Nat)).take j)) (mbL g.es role ((outG g.es (s:Nat)).take j) (outG g.es (t:Nat))++mb1 g.es role k ((outG g.es (t:Nat)).take j3)) s t):=fun {hZ} hne hs=>by
     refine⟨_,by omega,j2+1,by rw[w64 (by omega) (by omega)];omega,rfl,by omega,?_⟩;rw[mb1_snoc hvk hk2,if_neg hne,Yw];exact hs
    cases hvis2:vis1 role x2 with
    | none=>
     refine⟨false,0,0,false,rfl,?_⟩;refine hs.newput (vs:=[.bool false,.int .i64 0,.int .i64 0]) rfl rfl fun h88 hs=>?_;refine sB_f rfl (skip (by rw[hxe2,hvis2];exact fun e=>by cases e) (hs.drop 2))
    | some e2=>
     refine⟨e2.send,e2.peer,e2.label,true,rfl,?_⟩;refine hs.newput (vs:=e2.cs) rfl rfl fun h88 hs=>?_;refine sB_t rfl ?_;refine⟨e.send,e.peer,e.label,hs.at 2 rfl (o:=0) (n:=3) rfl,e2.send,e2.peer,e2.label,hs.at 0 rfl (o:=0) (n:=3) rfl,?_⟩;rw[evEq];refine sBi (fun c3=>?_) (fun c3=>skip (by rw[hxe2,hvis2];exact fun e9=>c3 (Yyp e9).symm) (hs.drop 2));subst c3;refine⟨x0.t,hs.rd 3 rfl (i:=4) rfl,x2.t,hs.rd 1 rfl (i:=4) rfl,?_⟩;refine hs.app 5 rfl app273 (m:=1) [Pmv.cs ⟨(k:Int),(k2:Int),x0.t,x2.t⟩] rfl rfl (fun r hr=>by rw[Ye] at hr;rw[hr];rfl) rfl (by omega) (by simp only[maxLen];omega) fun s98 h99 n98 hs=>?_;refine⟨_,by omega,j2+1,by rw[w64 (by omega) (by omega)];omega,rfl,by omega,?_⟩;have hs:=hs.drop 2;rw[mb1_snoc hvk hk2,if_pos (by rw[hxe2,hvis2]),hxe,hxe2,<-Yz];unfold mvB;rw[Ym (l₁:=mbL _ _ _ _++_)];exact hs
   .refine⟨_,by omega,j+1,by rw[w64 (by omega) (by omega)];omega,rfl,by omega,?_⟩;rw[hq2,mbL_snoc hk];rw[Yj (l:=outG g.es (t:Nat)) (by omega)] at hs;exact hs.drop 2
 .rw[Yj (by omega)] at hs hq1 hb1 hb2;refine⟨ho,(hA.ext hs.ext).at_.nth 9 rfl,(t:Nat),hs.rd 2 rfl (i:=1) rfl,?_⟩;refine (hA.ro.ext hs.ext).nbI (by omega) (by omega) fun b106 o107 d gd u3=>?_;obtain rfl:t=d:=(rangeG gd).1;refine⟨os t,u3.hd,?_⟩;replace hs:=hs.nil_ 276 4;refine⟨fun ot x h' m=>∃j2:Nat,x=j2/\m=(os t).n-j2/\j2<=(os t).n/\St h h' (.sl ot 276 4 ((moL g.es role s ((outG g.es (t:Nat)).take j2)).map Pmv.cs)::mvB h q bo (mqL g.es role t (outG g.es (s:Nat))) (mbL g.es role (outG g.es (s:Nat)) (outG g.es (t:Nat))) s t),⟨_,0,rfl,rfl,by omega,hs⟩,?_⟩;clear hs;rintro-ot _ h114 m ⟨j2,rfl,rfl,hj2,hs⟩;have hol:=(hs.len 0 (s:=ot) (e:=276) (n:=4) rfl (by omega)).1;rw[Yc] at hol;have ho1:=moL_len (es:=g.es) (role:=role) (t:=s) (l:=(outG g.es (t:Nat)).take j2);rw[Yu] at ho1;refine sBi (fun c2=>?_) (fun c2=>?_)
  .refine (rt.ext hs.ext).nbI (by omega) (by omega) fun b61 o62 d gd u4=>?_;obtain⟨k2,hk2,rfl⟩:=natI_get gd;replace hk2:(outG g.es (t:Nat))[j2]?=some k2:=hk2;obtain⟨x2,hx2,hxf2⟩:=outG_mem.1 (Yb hk2);have hkl2:=(Ya.1 hx2).1;have hxe2:=eA_get hx2;refine⟨_,u4.hd,g.he,(hA.ext hs.ext).at_.nth 6 rfl,?_⟩;refine (hA.gi.e.rw.ext hs.ext).nbI (by omega) (by omega) fun b65 o66 x gx u5=>?_;replace gx:g.es[k2]?=some x:=gx;rw[hx2] at gx;cases gx;refine⟨x2.f,x2.a,x2.b,x2.l,x2.t,x2.ag,u5,?_⟩;refine hs.newput (vs:=x2.cs) rfl rfl fun h128 hs=>?_;have skip:vis1 role x2≠none->∃m,m<(os t).n-j2/\∃j3:Nat,IntKind.wrap .i64 ((j2:Int)+1)=j3/\m=(os t).n-j3/\j3<=(os t).n/\St h h128 (.sl ot 276 4 ((moL g.es role s ((outG g.es (t:Nat)).take j3)).map Pmv.cs)::mvB h q bo (mqL g.es role t (outG g.es (s:Nat))) (mbL g.es role (outG g.es (s:Nat)) (outG g.es (t:Nat))) s t):=fun hne=>by
    refine⟨_,by omega,j2+1,by rw[w64 (by omega) (by omega)];omega,rfl,by omega,?_⟩;rw[moL_snoc hk2,if_neg (by unfold qtB;rw[hxe2];intro h9;exact hne (Option.isNone_iff_eq_none.1 h9)),Yw];exact hs.drop 1
   refine⟨x2.a,hs.rd 0 rfl (i:=1) rfl,role,(hA.ext hs.ext).at_.nth 8 rfl,?_⟩;refine sBn (fun c3=>?_) (fun c3=>skip fun h9=>(vis_none.1 h9).1 c3);refine⟨x2.b,hs.rd 0 rfl (i:=2) rfl,role,(hA.ext hs.ext).at_.nth 8 rfl,?_⟩;refine sBn (fun c4=>?_) (fun c4=>skip fun h9=>(vis_none.1 h9).2 c4);have hvn:=vis_none.2 ⟨c3,c4⟩;refine⟨(s:Nat),hs.rd 4 rfl (i:=0) rfl,x2.t,hs.rd 0 rfl (i:=4) rfl,?_⟩;refine hs.app 1 rfl app273 (m:=1) [Pmv.cs ⟨-1,(k2:Int),(s:Nat),x2.t⟩] rfl rfl (fun r hr=>by rw[Ye] at hr;rw[hr];rfl) rfl (by omega) (by simp only[maxLen];omega) fun s98 h99 n98 hs=>?_;refine⟨_,by omega,j2+1,by rw[w64 (by omega) (by omega)];omega,rfl,by omega,?_⟩;have hs:=hs.drop 1;rw[moL_snoc hk2,if_pos (by unfold qtB;rw[hxe2,hvn];rfl),hxe2,Ym];exact hs
  .rw[Yj (by omega)] at hs ho1;refine hs.newb fun h141 hs=>?_;have hsl:=hs.blkS 3 1 ([q,ot,bo].map slC) rfl (fun r hr=>by obtain⟨x,_,rfl⟩:=Yp.1 hr;rfl) rfl (by decide);refine (concat211 [(q,mqL g.es role t (outG g.es (s:Nat))),(ot,moL g.es role s (outG g.es (t:Nat))),(bo,mbL g.es role (outG g.es (s:Nat)) (outG g.es (t:Nat)))] _ h141 (hsl.rw 0 rfl (by omega)) ?_ (show 3<=1048576 by decide) ?_).mono ?_
   .intro z hz;simp only[Yr,List.not_mem_nil,or_false] at hz;rcases hz with rfl | rfl | rfl
    .exact RL.ofSt hs 2 rfl (by omega) (by show (mqL _ _ _ _).length<=_;omega)
    .exact RL.ofSt hs 1 rfl (by omega) (by show (moL _ _ _ _).length<=_;omega)
    .exact RL.ofSt hs 3 rfl (by omega) (by show (mbL _ _ _ _).length<=_;omega)
   .simp only[Yyl,List.map_nil,List.sum_cons,List.sum_nil];omega
   .rintro _ h144 ⟨r,rfl,hs2⟩;refine⟨r,rfl,r,rfl,?_⟩;have h5:=hs.join hs2;have h6:=h5.sub (L':=[.sl r 276 4 ((([(q,mqL g.es role t (outG g.es (s:Nat))),(ot,moL g.es role s (outG g.es (t:Nat))),(bo,mbL g.es role (outG g.es (s:Nat)) (outG g.es (t:Nat)))]:List (Sl × List Pmv)).flatMap Prod.snd).map Pmv.cs)]) (List.singleton_sublist.2 (by simp));have e9:(([(q,mqL g.es role t (outG g.es (s:Nat))),(ot,moL g.es role s (outG g.es (t:Nat))),(bo,mbL g.es role (outG g.es (s:Nat)) (outG g.es (t:Nat)))]:List (Sl × List Pmv)).flatMap Prod.snd)=movL g.es role s t:=by
     unfold movL;simp
    rw[e9] at h6;exact h6
end Go.VC
end

section
namespace Go.VC
open Go.Proofs Go.LexS Go.Maps
theorem mget_set {α β:Type} [DecidableEq α] (a x:α) (b:β):∀l:List (α × β),mget (mset l a b) x=if x=a then some b else mget l x
 | []=>by
  unfold mset mget;by_cases h:x=a
  .rw[if_pos h,if_pos h.symm]
  .rw[if_neg h,if_neg (fun e=>h e.symm)];rfl
 | (c,y)::r=>by
  have ih:=mget_set a x b r;by_cases hc:c=a
  .rw[mset,if_pos hc];by_cases h:x=a
   .rw[mget,if_pos (by rw[hc,h]),if_pos h]
   .rw[mget,if_neg (fun e=>h (e.symm.trans hc)),if_neg h,mget,if_neg (fun e=>h (e.symm.trans hc))]
  .rw[mset,if_neg hc];by_cases h:c=x
   .rw[mget,if_pos h,if_neg (fun e=>hc (h.trans e)),mget,if_pos h]
   .rw[mget,if_neg h,ih,mget,if_neg h]
theorem mget_isSome {α β:Type} [DecidableEq α] (x:α):∀l:List (α × β),(mget l x).isSome=true ↔ x∈l.map Prod.fst
 | []=>by simp[mget]
 | (c,y)::r=>by
  rw[mget];by_cases h:c=x
  .rw[if_pos h];simp[h]
  .rw[if_neg h,mget_isSome x r,Yyl,Yr];exact⟨.inr,fun h9=>h9.resolve_left fun e=>h e.symm⟩
def pC (p:Nat × Nat):List Value:=[.int .i64 (p.1:Nat),.int .i64 (p.2:Nat)]
def pV (p:Nat × Nat):Value:=.agg ⟨pC p⟩
def kokP (p:Nat × Nat):Prop:=p.1<1048576/\p.2<1048576
theorem s272 : ∃ fs, Pz.underlying 272 = some (.struct fs) /\ fs.all (·.name != "_") = true /\ fs.toList.map (fun f => (f.type, f.offset)) = [(3, 0), (3, 1)] := su (by kernel_rfl)
theorem c272:Pz.cellsOf 272=2:=by kernel_rfl
theorem key_pair (p:Nat × Nat) (h:kokP p):∃l,keyOf Pz 272 (pV p)=some l:=by
 obtain⟨fs,hu,hn,hf⟩:=s272;obtain⟨h1,h2⟩:=h;have hsz:∃n,Pz.types.size+1=n+2:=⟨Pz.types.size-1,by kernel_rfl⟩;obtain⟨n,hsz⟩:=hsz;have w1:inR ((p.1:Nat):Int):=⟨by omega,by omega⟩;have w2:inR ((p.2:Nat):Int):=⟨by omega,by omega⟩;have hl:Pz.keyLits (n+2) 272 (pC p)=some [[.int .i64 ((p.1:Nat):Int)],[.int .i64 ((p.2:Nat):Int)]].flatten:=by
  refine kl_struct hu (by rw[c272];rfl) hn hf ?_;simp only[List.mapM_cons,List.mapM_nil,c3,pC,List.drop_zero,List.take_succ_cons,Yyk,List.drop_succ_cons,kl_int u3 w1.wf,kl_int u3 w2.wf];rfl
 have hkt:Pz.keyType 272=true:=by kernel_rfl
 have hfo:(pV p).formed Pz 272=true:=by
  unfold pV Value.formed;simp only[hu,c272];rfl
 have e:keyOf Pz 272 (pV p)=(Pz.keyLits (n+2) 272 (pC p)).map fun ls=>.string (keyBytes ls):=by
  unfold keyOf;simp only[hu,hkt,hfo,Bool.and_self,if_true,hsz];rfl
 rw[e,hl];exact⟨_,rfl⟩
theorem pV_inj (a b:Nat × Nat) (h:pV a=pV b):a=b:=by
 unfold pV pC at h;simp at h;exact Prod.ext (by omega) (by omega)
theorem M202:MT Pz 202 272 273 pV kokP (.slice none 0 0) where
 K:=Keyed.of_law (deep_law_laid laid25 (m:=2) (by omega) (Yyn (by kernel_rfl)) (by kernel_rfl) (by kernel_rfl))
 ht:=by kernel_rfl
 key:=key_pair
 inj:=pV_inj
 z:=fun w=>by kernel_rfl
theorem M278:MT Pz 278 272 3 pV kokP (.int .i64 0) where
 K:=Keyed.of_law (deep_law_laid laid25 (m:=2) (by omega) (Yyn (by kernel_rfl)) (by kernel_rfl) (by kernel_rfl))
 ht:=by kernel_rfl
 key:=key_pair
 inj:=pV_inj
 z:=fun w=>by kernel_rfl
def pto (m:Pmv):Nat × Nat:=(m.s.toNat,m.t.toNat)
inductive Prr (g:Gl) (role:Int):Nat × Nat->Prop where
 | start:Prr g role (g.s.toNat,g.s.toNat)
 | step {p:Nat × Nat} {m:Pmv}:Prr g role p->m∈movL g.es role p.1 p.2->Prr g role (pto m)
theorem eA_mem {es:List Ed} {k:Nat} {s:Int} (h:k∈outG es s):eA es k∈es/\(eA es k).f=s:=by
 obtain⟨x,hx,hf⟩:=outG_mem.1 h;rw[eA_get hx];exact⟨Yb hx,hf⟩
theorem movL_lt {g:Gl} {role:Int} {s t:Nat} (hV:ValidS g) (hs:(s:Int)<g.n) (ht:(t:Int)<g.n) {m:Pmv} (hm:m∈movL g.es role s t):0<=m.s/\m.s<g.n/\0<=m.t/\m.t<g.n:=by
 have hE:∀ {k:Nat} {s:Int},k∈outG g.es s->0<=(eA g.es k).t/\(eA g.es k).t<g.n:=fun {k s} hk=>by
  have:=hV.num.e _ (eA_mem hk).1;unfold EdS at this;omega
 unfold movL at hm;rcases Yk.1 hm with hm | hm
 .rcases Yk.1 hm with hm | hm
  .obtain⟨k,hk,rfl⟩:=Yp.1 hm;have:=hE (List.mem_filter.1 hk).1;exact⟨this.1,this.2,by show (0:Int)<=((t:Nat):Int);omega,ht⟩
  .obtain⟨k,hk,rfl⟩:=Yp.1 hm;have:=hE (List.mem_filter.1 hk).1;exact⟨by show (0:Int)<=((s:Nat):Int);omega,hs,this.1,this.2⟩
 .unfold mbL at hm;obtain⟨i,hi,hm⟩:=List.mem_flatMap.1 hm;unfold mb1 at hm;split at hm
  .cases hm
  .obtain⟨k,hk,rfl⟩:=Yp.1 hm;have h1:=hE hi;have h2:=hE (List.mem_filter.1 hk).1;exact⟨h1.1,h1.2,h2.1,h2.2⟩
theorem pto_lt {g:Gl} {role:Int} {p:Nat × Nat} (hV:ValidS g) (hp:(p.1:Int)<g.n/\(p.2:Int)<g.n) {m:Pmv} (hm:m∈movL g.es role p.1 p.2):((pto m).1:Int)<g.n/\((pto m).2:Int)<g.n/\((pto m).1:Int)=m.s/\((pto m).2:Int)=m.t:=by
 have:=movL_lt hV hp.1 hp.2 hm;unfold pto;refine⟨?_,?_,?_,?_⟩<;>simp only<;>omega
theorem Prr.lt {g:Gl} {role:Int} (hV:ValidS g) {p:Nat × Nat} (h:Prr g role p):(p.1:Int)<g.n/\(p.2:Int)<g.n:=by
 induction h with
 | start=>have:=hV.num.n;exact⟨by simp only;omega,by simp only;omega⟩
 | step _ hm ih=>have:=pto_lt hV ih hm;exact⟨this.1,this.2.1⟩
theorem grid_le {n:Nat} {A:List (Nat × Nat)} (hn:A.Nodup) (h:∀p∈A,p.1<n/\p.2<n):A.length<=n*n:=by
 have h1:=List.Nodup.length_le_of_subset hn (l₂:=(List.range n).flatMap fun i=>(List.range n).map fun j=>(i,j)) fun p hp=>by
  have:=h p hp;exact List.mem_flatMap.2 ⟨p.1,List.mem_range.2 this.1,Yp.2 ⟨p.2,List.mem_range.2 this.2,rfl⟩⟩
 have h2:((List.range n).flatMap fun i=>(List.range n).map fun j=>(i,j)).length=n*n:=by
  rw[List.length_flatMap];simp only[Yc,Yyd];have:∀(l:List Nat),(l.map fun _=>n).sum=l.length*n:=fun l=>by
   induction l with
   | nil=>simp
   | cons a l ih=>rw[Yyl,List.sum_cons,ih,Yyj,Nat.succ_mul];omega
  rw[this,Yyd]
 omega
theorem movL_len {es:List Ed} {role:Int} {s t:Nat} (h:es.length<=400):(movL es role s t).length<=160800:=by
 unfold movL;rw[Yh,Yh];have h1:=mqL_len (es:=es) (role:=role) (t:=t) (l:=outG es (s:Nat));have h2:=moL_len (es:=es) (role:=role) (t:=s) (l:=outG es (t:Nat));have h3:=mbL_len (es:=es) (role:=role) (l:=outG es (s:Nat)) (m:=outG es (t:Nat));have h4:=outG_len es (s:Nat);have h5:=outG_len es (t:Nat);have h6:(outG es (s:Nat)).length*(outG es (t:Nat)).length<=400*400:=Nat.mul_le_mul (by omega) (by omega);omega
end Go.VC
end

section
namespace Go.VC
open Go.Proofs Go.LexS
theorem nodup_ix {α:Type} {L:List α} (hn:L.Nodup) {i j:Nat} {x:α} (hi:L[i]?=some x) (hj:L[j]?=some x):i=j:=by
 obtain⟨h1,e1⟩:=Ya.1 hi;obtain⟨h2,e2⟩:=Ya.1 hj;have hp:=List.pairwise_iff_getElem.1 hn;rcases Nat.lt_trichotomy i j with h | h | h
 .exact absurd (e1.trans e2.symm) (hp i j h1 h2 h)
 .exact h
 .exact absurd (e2.trans e1.symm) (hp j i h2 h1 h)
structure RI (g:Gl) (role:Int) (i c:Nat) (A:List (Nat × Nat)) (Q:List (Sl × List Pmv)) (l:List ((Nat × Nat) × Sl)):Prop where
 qn:Q.length=c
 q:∀(k:Nat) (q:Sl × List Pmv),Q[k]?=some q->∃p,A[k]?=some p/\mget l p=some q.1/\q.2=movL g.es role p.1 p.2
 ky:∀p,p∈l.map Prod.fst ↔ p∈A
 ln:(l.map Prod.fst).Nodup
 nd:A.Nodup
 pr:∀p∈A,Prr g role p
 st:(g.s.toNat,g.s.toNat)∈A
 cl:∀(k:Nat) (p:Nat × Nat),k<i->A[k]?=some p->∀m∈movL g.es role p.1 p.2,pto m∈A
theorem RI.kok {g:Gl} {role:Int} {i c:Nat} {A:List (Nat × Nat)} {Q:List (Sl × List Pmv)} {l:List ((Nat × Nat) × Sl)} (h:RI g role i c A Q l) (hV:ValidS g):∀q∈l,kokP q.1:=fun q hq=>by
 have h1:=(h.pr _ ((h.ky q.1).1 (Yp.2 ⟨q,hq,rfl⟩))).lt hV;have:=hV.num.n;exact⟨by omega,by omega⟩
theorem RI.len {g:Gl} {role:Int} {i c:Nat} {A:List (Nat × Nat)} {Q:List (Sl × List Pmv)} {l:List ((Nat × Nat) × Sl)} (h:RI g role i c A Q l) (hV:ValidS g):A.length<=g.n.toNat*g.n.toNat:=
 grid_le h.nd fun p hp=>by have:=(h.pr p hp).lt hV;have:=hV.num.n;exact⟨by omega,by omega⟩
theorem RI.upd {g:Gl} {role:Int} {i:Nat} {A:List (Nat × Nat)} {Q:List (Sl × List Pmv)} {l:List ((Nat × Nat) × Sl)} (h:RI g role i i A Q l) {p:Nat × Nat} (hp:A[i]?=some p) (r:Sl):RI g role i (i+1) A (Q++[(r,movL g.es role p.1 p.2)]) (mset l p r):=by
 refine⟨by rw[Yh,h.qn];rfl,fun k q hq=>?_,fun x=>?_,mset_nodup _ _ _ h.ln,h.nd,h.pr,h.st,h.cl⟩
 .by_cases hk:k<i
  .rw[Yyi (by rw[h.qn];exact hk)] at hq;obtain⟨p',h1,h2,h3⟩:=h.q k q hq;refine⟨p',h1,?_,h3⟩;rw[mget_set,if_neg (fun e=>by subst e;have:=nodup_ix h.nd h1 hp;omega)];exact h2
  .rw[Yyc (by rw[h.qn];omega),h.qn] at hq;have h9:=(Ya.1 hq).1;rw[Yv] at h9;obtain rfl:k=i:=by omega
   rw[Nat.sub_self] at hq;cases hq;exact⟨p,hp,by rw[mget_set,if_pos rfl],rfl⟩
 .rw[mset_keys,h.ky];exact⟨fun h9=>h9.elim id fun e=>by rw[e];exact Yb hp,.inl⟩
theorem RI.new {g:Gl} {role:Int} {i c:Nat} {A:List (Nat × Nat)} {Q:List (Sl × List Pmv)} {l:List ((Nat × Nat) × Sl)} (h:RI g role i c A Q l) (hi:i<=A.length) {p:Nat × Nat} (hp:p∉A) (hr:Prr g role p) (r:Sl):RI g role i c (A++[p]) Q (mset l p r):=by
 refine⟨h.qn,fun k q hq=>?_,fun x=>?_,mset_nodup _ _ _ h.ln,?_,fun x hx=>?_,List.mem_append_left _ h.st,fun k x hk hx m hm=>?_⟩
 .obtain⟨p',h1,h2,h3⟩:=h.q k q hq;refine⟨p',by rw[Yyi (Ya.1 h1).1];exact h1,?_,h3⟩;rw[mget_set,if_neg (fun e=>hp (by subst e;exact Yb h1))];exact h2
 .rw[mset_keys,h.ky,Yk,Ye]
 .rw[List.nodup_append];exact⟨h.nd,by simp,fun a ha b hb e=>by rw[Ye] at hb;subst hb;subst e;exact hp ha⟩
 .rcases Yk.1 hx with hx | hx
  .exact h.pr x hx
  .rw[Ye] at hx;rw[hx];exact hr
 .rcases Nat.lt_or_ge k A.length with h9 | h9
  .rw[Yyi h9] at hx;exact List.mem_append_left _ (h.cl k x hk hx m hm)
  .omega
def rchL (all:Sl) (mb:Nat) (A:List (Nat × Nat)) (Q:List (Sl × List Pmv)) (l:List ((Nat × Nat) × Sl)) (R:List It):List It:=
 .sl all 272 2 (A.map pC) :: .mp mb (l.map fun q=>(pV q.1,slV q.2))::(R++Q.map (nest 276 4 Pmv.cs))
theorem rch_get {all:Sl} {mb:Nat} {A:List (Nat × Nat)} {Q:List (Sl × List Pmv)} {l:List ((Nat × Nat) × Sl)} {R0:It} {i:Nat} {q:Sl × List Pmv} (hq:Q[i]?=some q):(rchL all mb A Q l [R0])[3+i]?=some (nest 276 4 Pmv.cs q):=by
 unfold rchL;rw[show 3+i=i+1+1+1 by omega,List.getElem?_cons_succ,List.getElem?_cons_succ,List.singleton_append,List.getElem?_cons_succ,Yd,hq];rfl
structure PrM (h:Heap) (g:Gl) (role:Int) (all:Sl) (mb:Nat) (A:List (Nat × Nat)) (l:List ((Nat × Nat) × Sl)):Prop where
 ra:RL h 2 all pC A
 mp:It.ok h (.mp mb (l.map fun q=>(pV q.1,slV q.2)))
 lk:∀q∈l,kokP q.1
 ln:(l.map Prod.fst).Nodup
 mv:∀p∈A,∃r,mget l p=some r/\RL h 4 r Pmv.cs (movL g.es role p.1 p.2)
 nd:A.Nodup
 pr:∀p,p∈A ↔ Prr g role p
theorem PrM.ext {h h':Heap} {g:Gl} {role:Int} {all:Sl} {mb:Nat} {A:List (Nat × Nat)} {l:List ((Nat × Nat) × Sl)} (hM:PrM h g role all mb A l) (E:Ext h h'):PrM h' g role all mb A l:=
 ⟨hM.ra.ext E,hM.mp.keep fun b hb=>E.2 b (hM.mp.lt hb),hM.lk,hM.ln,fun p hp=>(hM.mv p hp).imp fun r hr=>⟨hr.1,hr.2.ext E⟩,hM.nd,hM.pr⟩
theorem app201:appB Pz 201 272 2 16=true:=by kernel_rfl
theorem reached119 (b:Nat) (g:Gl) (role:Int) (ho:Sl) (os:Nat->Sl) (h:Heap) (hA:AnG h b g role ho os) (hV:ValidS g) :
  Fn Pz 119 #[.pointer (some ⟨b,0,none⟩)] h fun v h'=>Ext h h'/\∃(all:Sl) (mb:Nat) (A:List (Nat × Nat)) (l:List ((Nat × Nat) × Sl)),v=.tuple ⟨[.slice all.a all.n all.c,.map (some mb)]⟩/\PrM h' g role all mb A l:=by
 apply vc119 ⟨b,0,none⟩;unfold W119;have hN:=hV.num.n;have hM:=hV.num.m;have hsn:((g.s.toNat:Nat):Int)=g.s:=Int.toNat_of_nonneg (by omega);have hnn:g.n.toNat*g.n.toNat<=200*200:=Nat.mul_le_mul (by omega) (by omega);refine⟨g.s,hA.at_.nth 4 rfl,g.s,hA.at_.nth 4 rfl,?_⟩;refine (St.refl h).newbE fun h3 E3 hs=>⟨E3.sm,?_⟩;refine hs.put 0 rfl (o:=0) (vs:=[.int .i64 g.s,.int .i64 g.s]) rfl (Yyt 2) fun h4 hs=>?_;refine⟨g.s,g.s,hs.at 0 rfl (o:=0) (n:=2) rfl,?_⟩;refine hs.newb fun h7 hs=>?_;have hs:=hs.blkS 1 2 ([(g.s.toNat,g.s.toNat)].map pC) (by unfold pC;simp only[Yyl,List.map_nil,Yyu,List.flatten_nil,Yw];rw[hsn]) (fun r hr=>by obtain⟨x,_,rfl⟩:=Yp.1 hr;rfl) rfl (by decide);refine hs.mmake 202 fun h10 E10 hs=>⟨some h7.size,rfl,?_⟩;refine⟨((g.s.toNat:Nat):Int),((g.s.toNat:Nat):Int),by rw[hsn];exact hs.at 2 rfl (o:=0) (n:=2) rfl,?_⟩;refine hs.mput (cv:=slV) (l:=[]) M202 0 rfl (fun q hq=>by cases hq) .nil (a:=(g.s.toNat,g.s.toNat)) ⟨by simp only;omega,by simp only;omega⟩ ⟨none,0,0⟩ fun h13 hs=>?_;have hI:RI g role 0 0 [(g.s.toNat,g.s.toNat)] [] [((g.s.toNat,g.s.toNat),⟨none,0,0⟩)]:=
  ⟨rfl,fun k q hq=>(by simp at hq),fun p=>by simp,by simp,by simp,fun p hp=>by rw[Ye] at hp;rw[hp];exact .start,by simp,fun k p hk=>by omega⟩
 refine⟨fun all x h' m=>∃(i:Nat) (A:List (Nat × Nat)) (Q:List (Sl × List Pmv)) (l:List ((Nat × Nat) × Sl)),x=i/\m=g.n.toNat*g.n.toNat-i/\i<=A.length/\St h h' (rchL all h7.size A Q l [.blk h.size [.int .i64 g.s,.int .i64 g.s] 272])/\RI g role i i A Q l,⟨_,0,_,[],_,rfl,rfl,Nat.zero_le _,hs.perm (List.Perm.swap _ _ _),hI⟩,?_⟩;clear hs hI;rintro-all _ h19 m ⟨i,A,Q,l,rfl,rfl,hi,hs,hI⟩;have hAl:=hI.len hV;have hal:=hs.len 0 (s:=all) (e:=272) (n:=2) (rows:=A.map pC) rfl (by omega);rw[Yc] at hal;refine sBi (fun c=>?_) (fun c=>?_)
 .refine (hs.rows 0 rfl (by omega)).nbI (by omega) (by omega) fun b20 o21 p gp t=>?_;replace gp:A[i]?=some p:=gp;have hpr:=hI.pr p (Yb gp);have hpl:=hpr.lt hV;refine⟨((p.1:Nat):Int),((p.2:Nat):Int),t,?_⟩;refine (movesR164 b g role ho os p.1 p.2 h19 (hA.ext hs.ext) hV hpl.1 hpl.2).mono ?_;rintro _ h26 ⟨r,rfl,hs2⟩;refine⟨r,rfl,?_⟩;replace hs:=hs.join hs2;refine (hs.rows 0 (s:=all) (e:=272) (n:=2) (cs:=pC) (l:=A) rfl (by omega)).nbI (by omega) (by omega) fun b27 o28 p' gp' t'=>?_;replace gp':A[i]?=some p':=gp';rw[gp] at gp';cases gp';refine⟨((p.1:Nat):Int),((p.2:Nat):Int),t',?_⟩;refine hs.mput (cv:=slV) (l:=l) M202 1 rfl (hI.kok hV) hI.ln (a:=p) ⟨by omega,by omega⟩ r fun h31 hs=>?_;have hI2:=hI.upd gp r;have hs:St h h31 (rchL all h7.size A (Q++[(r,movL g.es role p.1 p.2)]) (mset l p r) [.blk h.size [.int .i64 g.s,.int .i64 g.s] 272]):=by
   refine hs.perm (List.Perm.of_eq ?_);unfold rchL;rw[Ym];simp[nest]
  clear hs2 t t';have hml:=movL_len (es:=g.es) (role:=role) (s:=p.1) (t:=p.2) hM;refine⟨fun all x h' m=>∃(j:Nat) (A':List (Nat × Nat)) (l':List ((Nat × Nat) × Sl)),x=j/\m=r.n-j/\j<=r.n/\A.length<=A'.length/\St h h' (rchL all h7.size A' (Q++[(r,movL g.es role p.1 p.2)]) l' [.blk h.size [.int .i64 g.s,.int .i64 g.s] 272])/\Ext h31 h31/\RI g role i (i+1) A' (Q++[(r,movL g.es role p.1 p.2)]) l'/\A'[i]?=some p/\∀m∈(movL g.es role p.1 p.2).take j,pto m∈A',⟨_,0,A,_,rfl,rfl,Nat.zero_le _,Yyt _,hs,⟨Yyt _,fun _ _=>rfl⟩,hI2,gp,fun m hm=>by rw[Yyk] at hm;cases hm⟩,?_⟩;clear hs hI2;rintro-all2 _ h37 m ⟨j,A',l',rfl,rfl,hj,hAA,hs,-,hI2,gp2,hcl⟩;have hgq:(Q++[(r,movL g.es role p.1 p.2)])[i]?=some (r,movL g.es role p.1 p.2):=by
   rw[Yyc (by rw[hI.qn];exact Yyt _),hI.qn,Nat.sub_self];rfl
  have hw2:Rw h37 4 r ((movL g.es role p.1 p.2).map Pmv.cs):=hs.rw (3+i) (rch_get hgq) (by omega);have hrn:=hw2.ln;have hAl2:=hI2.len hV;have hal2:=hs.len 0 (s:=all2) (e:=272) (n:=2) (rows:=A'.map pC) rfl (by omega);rw[Yc] at hal2;refine sBi (fun c2=>?_) (fun c2=>?_)
  .refine hw2.nbI (by omega) (by omega) fun b38 o39 mv gm t=>?_;replace gm:(movL g.es role p.1 p.2)[j]?=some mv:=gm;have hmm:=Yb gm;have hpt:=pto_lt hV hpl hmm;refine⟨mv.x,mv.y,mv.s,mv.t,t,?_⟩;refine hs.newput (vs:=mv.cs) rfl rfl fun h45 hs=>?_;refine⟨((pto mv).1:Nat),((pto mv).2:Nat),by rw[hpt.2.2.1,hpt.2.2.2];exact hs.at 0 rfl (o:=2) (n:=2) rfl,?_⟩;refine hs.mlookOk (cv:=slV) (l:=l') M202 2 rfl (hI2.kok hV) hI2.ln (a:=pto mv) ⟨by omega,by omega⟩ ?_;refine⟨(mget l' (pto mv)).getD ⟨none,0,0⟩,(mget l' (pto mv)).isSome,by cases mget l' (pto mv)<;>rfl,?_⟩;refine sB_intro (fun c3=>?_) (fun c3=>?_)
   .have hno:pto mv∉A':=fun hm=>by
     have h9:=(mget_isSome (pto mv) l').2 ((hI2.ky _).2 hm);rw[h9] at c3;cases c3
    refine⟨((pto mv).1:Nat),((pto mv).2:Nat),by rw[hpt.2.2.1,hpt.2.2.2];exact hs.at 0 rfl (o:=2) (n:=2) rfl,?_⟩;refine hs.mput (cv:=slV) (l:=l') M202 2 rfl (hI2.kok hV) hI2.ln (a:=pto mv) ⟨by omega,by omega⟩ ⟨none,0,0⟩ fun h54 hs=>?_;refine⟨((pto mv).1:Nat),((pto mv).2:Nat),by rw[hpt.2.2.1,hpt.2.2.2];exact hs.at 0 rfl (o:=2) (n:=2) rfl,?_⟩;refine hs.app 1 rfl app201 (m:=1) [pC (pto mv)] rfl rfl (fun r hr=>by rw[Ye] at hr;rw[hr];rfl) rfl (by omega) (by simp only[maxLen];omega) fun s58 h59 n58 hs=>?_;have hI3:=hI2.new (by omega) hno (.step hpr hmm) ⟨none,0,0⟩;refine⟨_,by omega,j+1,A'++[pto mv],_,by rw[w64 (by omega) (by omega)];omega,rfl,by omega,by rw[Yh];omega,?_,⟨Yyt _,fun _ _=>rfl⟩,hI3,by rw[Yyi (by omega)];exact gp2,fun m hm=>?_⟩
    .have hs:=hs.drop 1;unfold rchL;rw[Ym (f:=pC)];exact hs
    .rw[take_snoc gm,Yk,Ye] at hm;rcases hm with hm | rfl
     .exact List.mem_append_left _ (hcl m hm)
     .simp
   .have hin:pto mv∈A':=(hI2.ky _).1 ((mget_isSome (pto mv) l').1 (bT c3));refine⟨_,by omega,j+1,A',l',by rw[w64 (by omega) (by omega)];omega,rfl,by omega,hAA,hs.drop 1,⟨Yyt _,fun _ _=>rfl⟩,hI2,gp2,fun m hm=>?_⟩;rw[take_snoc gm,Yk,Ye] at hm;rcases hm with hm | rfl
    .exact hcl m hm
    .exact hin
  .rw[Yj (by omega)] at hcl;refine⟨_,by omega,i+1,A',_,l',by rw[w64 (by omega) (by omega)];omega,rfl,by omega,hs,⟨hI2.qn,hI2.q,hI2.ky,hI2.ln,hI2.nd,hI2.pr,hI2.st,fun k x hk hx m hm=>?_⟩⟩;by_cases hki:k=i
   .subst hki;rw[gp2] at hx;cases hx;exact hcl m hm
   .exact hI2.cl k x (by omega) hx m hm
 .refine⟨hs.ext,all,h7.size,A,l,rfl,RL.ofSt hs 0 rfl (by omega) (by omega),hs.get (k:=1) rfl,hI.kok hV,hI.ln,fun p hp=>?_,hI.nd,fun p=>⟨hI.pr p,fun hp=>?_⟩⟩
  .obtain⟨k,hk⟩:=Yf.1 hp;have hkl:=(Ya.1 hk).1;obtain⟨q,hq⟩:=get_some (l:=Q) (i:=k) (by rw[hI.qn];omega);obtain⟨p',h1,h2,h3⟩:=hI.q k q hq;rw[hk] at h1;cases h1;have hml:=movL_len (es:=g.es) (role:=role) (s:=p.1) (t:=p.2) hM;refine⟨q.1,h2,?_⟩;rw[<-h3];exact RL.ofSt hs (3+k) (rch_get hq) (by omega) (by rw[h3];omega)
  .induction hp with
   | start=>exact hI.st
   | step _ hm ih=>
    obtain⟨k,hk⟩:=Yf.1 ih;exact hI.cl k _ (by have:=(Ya.1 hk).1;omega) hk _ hm
structure Arv where
 e:Int
 n:Int
 m:Ms
def Arv.cs (x:Arv):List Value:=[.int .i64 x.e,.int .i64 x.n,.int .i64 x.m.p,.int .i64 x.m.l]
def Ms.ev (m:Ms):Ev:=⟨false,m.p,m.l⟩
def arvS (K:List Ev) (b:Option Arv) (x:Arv):Option Arv:=
 if x.m.ev∈K then (match b with | none=>some x | some y=>if x.n<y.n then some x else b) else b
def arvF (K:List Ev) (L:List Arv):Option Arv:=L.foldl (arvS K) none
def arv0:Arv:=⟨0,0,⟨0,0⟩⟩
def ArB (b:Option Arv):Prop:=∀y,b=some y->0<y.n
structure An where
 ho:Sl
 os:Nat->Sl
 hfi:Sl
 fi:List Fs
 hli:Sl
 li:List Lm
 hag:Sl
 ag:List Bool
 how:Sl
 ow:List Bool
 har:Sl
 ar:List (Sl × List Arv)
structure AnF (h:Heap) (b:Nat) (g:Gl) (role:Int) (X:An):Prop where
 gg:AnG h b g role X.ho X.os
 r:AnR h ⟨b,0,none⟩ role X.hfi X.hli X.hag X.how X.fi X.li X.ag X.ow
 a:hc h ⟨b,14,none⟩=some (.slice X.har.a X.har.n X.har.c)
 ra:RL h 1 X.har slC (X.ar.map Prod.fst)
 re:∀q∈X.ar,RL h 4 q.1 Arv.cs q.2
 nf:X.fi.length=g.n.toNat
 nl:X.li.length=g.n.toNat
 na:X.ag.length=g.n.toNat
 nw:X.ow.length=g.n.toNat
 nr:X.ar.length=g.n.toNat
theorem AnF.ext {h h':Heap} {b:Nat} {g:Gl} {role:Int} {X:An} (hA:AnF h b g role X) (E:Ext h h'):AnF h' b g role X:=
 ⟨hA.gg.ext E,hA.r.ext E,hc_ext E hA.a,hA.ra.ext E,fun q hq=>(hA.re q hq).ext E,hA.nf,hA.nl,hA.na,hA.nw,hA.nr⟩
theorem arrives173 (b:Nat) (g:Gl) (role:Int) (X:An) (s t:Nat) (fs:Fs) (q:Sl × List Arv) (h:Heap) (hA:AnF h b g role X) (gt:X.fi[t]?=some fs) (gq:X.ar[s]?=some q) (hq:∀x∈q.2,0<x.n) :
  Fn Pz 173 #[.pointer (some ⟨b,0,none⟩),.agg ⟨[.int .i64 (s:Nat),.int .i64 (t:Nat)]⟩] h fun v h'=>Ext h h'/\v=.tuple ⟨[.agg ⟨((arvF fs.l q.2).getD arv0).cs⟩,.bool (arvF fs.l q.2).isSome]⟩:=by
 apply vc173 ⟨b,0,none⟩ (s:Nat) (t:Nat);unfold W173 V173a;have n1:=hA.ra.ln;have n2:=hA.r.rf.ln;have ls:=(Ya.1 gq).1;have lt:=(Ya.1 gt).1;have hql:=hA.re q (Yb gq);have hfl:=hA.r.re fs (Yb gt);have n3:=hql.ln;have m3:=hql.sm;rw[Yc] at n1;refine (St.refl h).newb fun h3 hs=>?_;refine hs.newb fun h4 hs=>?_;refine hs.newb fun h5 hs=>?_;refine⟨X.har,(hA.ext hs.ext).a,(s:Nat),hs.rd 2 rfl (i:=0) rfl,?_⟩;refine (hA.ra.ext hs.ext).rw.nbI (by omega) (by omega) fun b8 o9 d gd u=>?_;replace gd:(X.ar.map Prod.fst)[s]?=some d:=gd;rw[Yd,gq] at gd;cases gd;refine⟨q.1,u.hd,?_⟩;refine⟨fun x h' m=>∃(i:Nat) (o:Option Arv),x=i/\m=q.1.n-i/\i<=q.1.n/\St h h' [.blk h4.size (o.getD arv0).cs 270,.blk h3.size [.int .i64 0,.int .i64 0,.int .i64 0,.int .i64 0] 270,.blk h.size [.int .i64 (s:Nat),.int .i64 (t:Nat)] 272]/\o=(q.2.take i).foldl (arvS fs.l) none/\ArB o,⟨_,0,none,rfl,rfl,by omega,hs,rfl,fun y hy=>by cases hy⟩,?_⟩;clear hs;rintro-_ h15 m ⟨i,o,rfl,rfl,hi,hs,ho,hob⟩;have nxt:∀ {hZ:Heap} {x:Arv} {o':Option Arv} (c:i<q.1.n) (gx:q.2[i]?=some x) (e:o'=arvS fs.l o x),ArB o'->St h hZ [.blk h4.size (o'.getD arv0).cs 270,.blk h3.size [.int .i64 0,.int .i64 0,.int .i64 0,.int .i64 0] 270,.blk h.size [.int .i64 (s:Nat),.int .i64 (t:Nat)] 272] ->
   ∃m,m<q.1.n-i/\∃(i':Nat) (o:Option Arv),IntKind.wrap .i64 ((i:Int)+1)=i'/\m=q.1.n-i'/\i'<=q.1.n/\St h hZ [.blk h4.size (o.getD arv0).cs 270,.blk h3.size [.int .i64 0,.int .i64 0,.int .i64 0,.int .i64 0] 270,.blk h.size [.int .i64 (s:Nat),.int .i64 (t:Nat)] 272]/\o=(q.2.take i').foldl (arvS fs.l) none/\ArB o:=fun {hZ x o'} c gx e hb hs=>by
  refine⟨_,?_,i+1,o',by rw[w64 (by omega) (by omega)];omega,rfl,by omega,hs,?_,hb⟩
  .omega
  .rw[take_snoc gx,List.foldl_append,<-ho,e];rfl
 refine sBi (fun c=>?_) (fun c=>?_)
 .refine (hql.ext hs.ext).rw.nbI (by omega) (by omega) fun b16 o17 x gx u2=>?_;replace gx:q.2[i]?=some x:=gx;have hx0:=hq x (Yb gx);refine⟨x.e,x.n,x.m.p,x.m.l,u2,?_⟩;refine hs.newput (vs:=x.cs) rfl rfl fun h23 hs=>?_;refine⟨X.hfi,(hA.ext hs.ext).r.f,(t:Nat),hs.rd 3 rfl (i:=1) rfl,?_⟩;refine (hA.r.rf.ext hs.ext).rw.nbI (by omega) (by omega) fun b26 o27 f gf u3=>?_;replace gf:X.fi[t]?=some f:=gf;rw[gt] at gf;cases gf;refine⟨fs.s,fs.b,u3,x.m.p,hs.rd 0 rfl (i:=2) rfl,x.m.l,hs.rd 0 rfl (i:=3) rfl,?_⟩;refine (hasR214 fs.l fs.b x.m.ev fs.s h23 (hfl.ext hs.ext).rw hfl.sm).mono ?_;rintro _ h34 ⟨⟨b2,rfl,hb2⟩,E⟩;replace hs:=hs.step E;refine⟨b2,rfl,sB_intro (fun c2=>?_) (fun c2=>?_)⟩
  .have hin:x.m.ev∈fs.l:=hb2.1 c2;cases o with
   | none=>
    refine⟨0,hs.rd 1 rfl (i:=1) rfl,sB_t rfl ?_⟩;refine⟨x.e,x.n,x.m.p,x.m.l,hs.at 0 rfl (o:=0) (n:=4) rfl,?_⟩;refine hs.put 1 rfl (o:=0) (vs:=x.cs) rfl (Yyt 4) fun h40 hs=>?_;exact nxt (by omega) gx (o':=some x) (by unfold arvS;rw[if_pos hin]) (fun y hy=>by cases hy;exact hx0) (hs.drop 1)
   | some y=>
    have hy0:=hob y rfl;refine⟨y.n,hs.rd 1 rfl (i:=1) rfl,sBe (fun e=>by omega) (fun _=>?_)⟩;refine⟨x.n,hs.rd 0 rfl (i:=1) rfl,y.n,hs.rd 1 rfl (i:=1) rfl,sBi (fun c3=>?_) (fun c3=>?_)⟩
    .refine⟨x.e,x.n,x.m.p,x.m.l,hs.at 0 rfl (o:=0) (n:=4) rfl,?_⟩;refine hs.put 1 rfl (o:=0) (vs:=x.cs) rfl (Yyt 4) fun h40 hs=>?_;exact nxt (by omega) gx (o':=some x) (by unfold arvS;rw[if_pos hin];simp only;rw[if_pos c3]) (fun y hy=>by cases hy;exact hx0) (hs.drop 1)
    .exact nxt (by omega) gx (o':=some y) (by unfold arvS;rw[if_pos hin];simp only;rw[if_neg c3]) hob (hs.drop 1)
  .have hno:x.m.ev∉fs.l:=fun hm=>by rw[hb2.2 hm] at c2;cases c2
   exact nxt (by omega) gx (o':=o) (by unfold arvS;rw[if_neg hno]) hob (hs.drop 1)
 .rw[Yj (by omega)] at ho;have hoF:o=arvF fs.l q.2:=ho;refine⟨(o.getD arv0).e,(o.getD arv0).n,(o.getD arv0).m.p,(o.getD arv0).m.l,hs.at 0 rfl (o:=0) (n:=4) rfl,(o.getD arv0).n,hs.rd 0 rfl (i:=1) rfl,?_⟩;have hb4:=hs.get (k:=0) rfl;refine hs.put 1 rfl (o:=0) (vs:=(o.getD arv0).cs) rfl (Yyt 4) fun h57 hs2=>⟨?_,?_⟩
  .exact sm_cons (hs.same hs2 0 0 rfl rfl) sm_nil
  .refine⟨(o.getD arv0).e,(o.getD arv0).n,(o.getD arv0).m.p,(o.getD arv0).m.l,hs2.at 1 rfl (o:=0) (n:=4) rfl,hs2.ext,?_⟩;rw[<-hoF];have:decide ((o.getD arv0).n>0)=o.isSome:=by
    cases o with
    | none=>rfl
    | some y=>exact decide_eq_true (hob y rfl)
   rw[this];rfl
noncomputable def cstS (X:An) (kind:Int) (p:Nat × Nat):Option Int:=by
 classical exact if kind=1 then (match X.fi[p.1]?,X.fi[p.2]? with | some fs,some ft=>if (fs.l.find? (difP ft.l)).isSome then some 0 else none | _,_=>none)
 else if kind=3 then (if ClA X.li X.ag X.ow p.1 p.2 then some 0 else none)
 else (match X.fi[p.2]?,X.ar[p.1]? with | some ft,some q=>(arvF ft.l q.2).map (·.n) | _,_=>none)
theorem costs167 (b:Nat) (g:Gl) (role:Int) (X:An) (kind:Int) (p:Nat × Nat) (h:Heap) (hA:AnF h b g role X) (hp:(p.1:Int)<g.n/\(p.2:Int)<g.n) (hq:∀q∈X.ar,∀x∈q.2,0<x.n) :
  Fn Pz 167 #[.pointer (some ⟨b,0,none⟩),.int .i64 kind,.agg ⟨pC p⟩] h fun v h'=>Ext h h'/\v=.tuple ⟨[.int .i64 ((cstS X kind p).getD 0),.bool (cstS X kind p).isSome]⟩:=by
 apply vc167 ⟨b,0,none⟩ kind (p.1:Nat) (p.2:Nat);unfold W167;obtain⟨fs,gs⟩:=get_some (l:=X.fi) (i:=p.1) (by rw[hA.nf];omega);obtain⟨ft,gt⟩:=get_some (l:=X.fi) (i:=p.2) (by rw[hA.nf];omega);obtain⟨q,gq⟩:=get_some (l:=X.ar) (i:=p.1) (by rw[hA.nr];omega);refine (St.refl h).newb fun h3 hs=>?_;refine sBe (fun c=>?_) (fun c=>sBe (fun c2=>?_) (fun c2=>?_))
 .refine⟨(p.1:Nat),(p.2:Nat),hs.at 0 rfl (o:=0) (n:=2) rfl,?_⟩;refine (differR171 ⟨b,0,none⟩ role X.hfi X.hli X.hag X.how X.fi X.li X.ag X.ow p.1 p.2 fs ft h3 (hA.ext hs.ext).r gs gt).mono ?_;rintro _ h11 ⟨E,rfl⟩;replace hs:=hs.step E;have hc:cstS X kind p=if (fs.l.find? (difP ft.l)).isSome then some 0 else none:=by unfold cstS;rw[if_pos c,gs,gt]
  cases hf:fs.l.find? (difP ft.l) with
  | some x=>
   refine⟨x.send,x.peer,x.label,true,rfl,?_⟩;refine hs.newput (vs:=x.cs) rfl rfl fun h13 hs=>⟨hs.ext,?_⟩;rw[hc,hf];rfl
  | none=>
   refine⟨false,0,0,false,rfl,?_⟩;refine hs.newput (vs:=[.bool false,.int .i64 0,.int .i64 0]) rfl rfl fun h13 hs=>⟨hs.ext,?_⟩;rw[hc,hf];rfl
 .refine⟨(p.1:Nat),(p.2:Nat),hs.at 0 rfl (o:=0) (n:=2) rfl,?_⟩;refine (clockR213 ⟨b,0,none⟩ role X.hfi X.hli X.hag X.how X.fi X.li X.ag X.ow p.1 p.2 h3 (hA.ext hs.ext).r (by rw[hA.nw];omega) (by rw[hA.nl];omega) (by rw[hA.na];omega)).mono ?_;rintro _ h18 ⟨⟨b2,rfl,hb2⟩,E⟩;refine⟨b2,rfl,(hs.step E).ext,?_⟩;unfold cstS;rw[if_neg c,if_pos c2];by_cases hC:ClA X.li X.ag X.ow p.1 p.2
  .rw[if_pos hC,hb2.2 hC];rfl
  .have:b2=false:=by
    cases b2
    .rfl
    .exact absurd (hb2.1 rfl) hC
   rw[if_neg hC,this];rfl
 .refine⟨(p.1:Nat),(p.2:Nat),hs.at 0 rfl (o:=0) (n:=2) rfl,?_⟩;refine (arrives173 b g role X p.1 p.2 ft q h3 (hA.ext hs.ext) gt gq (hq q (Yb gq))).mono ?_;rintro _ h27 ⟨E,rfl⟩;replace hs:=hs.step E;refine⟨_,_,_,_,_,rfl,?_⟩;refine hs.newput (vs:=((arvF ft.l q.2).getD arv0).cs) rfl rfl fun h29 hs=>?_;refine⟨((arvF ft.l q.2).getD arv0).n,hs.rd 0 rfl (i:=1) rfl,hs.ext,?_⟩;unfold cstS;rw[if_neg c,if_neg c2,gt,gq];simp only;cases arvF ft.l q.2<;>rfl
abbrev Pr:=Nat × Nat
def padB (B:List (List Pr)) (m:Nat):List (List Pr):=B++List.replicate (m-B.length) []
def pushB (B:List (List Pr)) (n:Nat) (p:Pr):List (List Pr):=(padB B (n+1)).set n ((padB B (n+1)).getD n []++[p])
def rejB (O:List (Pr × Nat)) (p:Pr) (n:Nat):Bool:=match mget O p with | some k=>decide (k<=n) | none=>false
def lfL (cb ob bb:Nat) (bk:Sl) (O:List (Pr × Nat)) (BS:List (Sl × List Pr)) (R:List It):List It:=
 [.blk cb [.map (some ob)] 278,.mp ob (O.map fun q=>(pV q.1,natV q.2)),.blk bb [.slice bk.a bk.n bk.c] 324,.sl bk 201 1 ((BS.map Prod.fst).map slC)]++BS.map (nest 272 2 pC)++R
theorem app324:appB Pz 324 201 1 24=true:=by kernel_rfl
theorem put_tail {h0 h h10:Heap} {cb ob bb:Nat} {bk:Sl} {O:List (Pr × Nat)} {BS:List (Sl × List Pr)} {R:List It} {p:Pr} {n:Nat} {K:Value->Heap->Prop}
  (hs:St h0 h10 (.blk h.size (pC p) 272::lfL cb ob bb bk O BS R)) (hO:∀q∈O,kokP q.1) (hOn:(O.map Prod.fst).Nodup) (hp:kokP p) (hn:n<=16777216) (hB:BS.length<=16777216) (hBl:∀q∈BS,q.2.length<=1048576)
  (hK:∀(bk':Sl) (BS':List (Sl × List Pr)) (h':Heap),St h0 h' (lfL cb ob bb bk' (mset O p n) BS' R)->BS'.map Prod.snd=pushB (BS.map Prod.snd) n p->K (.tuple ⟨[]⟩) h') :
  V212a h10 ⟨cb,0,none⟩ h (n:Nat) ⟨bb,0,none⟩ K:=by
 unfold V212a;refine⟨some ob,hs.rd 1 rfl (i:=0) rfl,(p.1:Nat),(p.2:Nat),hs.at 0 rfl (o:=0) (n:=2) rfl,?_⟩;refine hs.mput (cv:=natV) (l:=O) M278 2 rfl hO hOn (a:=p) hp n fun h14 hs=>?_;refine⟨fun h' m=>∃(bk':Sl) (BS':List (Sl × List Pr)) (k:Nat),m=n+1-BS'.length/\St h0 h' (.blk h.size (pC p) 272::lfL cb ob bb bk' (mset O p n) BS' R)/\BS'.map Prod.snd=BS.map Prod.snd++List.replicate k []/\(k=0\/BS'.length<=n+1),⟨_,bk,BS,0,rfl,hs,by simp,.inl rfl⟩,?_⟩;clear hs;rintro-h18 m ⟨bk',BS',k,rfl,hs,hBS,hk⟩;have hbl:BS'.length=BS.length+k:=by have:=congrArg List.length hBS;simpa using this
 have hbk:=hs.len 4 (s:=bk') (e:=201) (n:=1) (rows:=(BS'.map Prod.fst).map slC) rfl (by omega);rw[Yc,Yc] at hbk;refine⟨bk',hs.rd 3 rfl (i:=0) rfl,sBi (fun c=>?_) (fun c=>?_)⟩
 .refine⟨bk',hs.rd 3 rfl (i:=0) rfl,?_⟩;refine hs.app 4 rfl app324 (m:=1) [slC ⟨none,0,0⟩] rfl rfl (fun r hr=>by rw[Ye] at hr;rw[hr];rfl) rfl (by omega) (by simp only[maxLen];omega) fun s22 h23 n22 hs=>?_;refine hs.put 3 rfl (o:=0) (vs:=[.slice s22.a s22.n s22.c]) rfl (Yyt 1) fun h24 hs=>?_;have hs:=hs.nil_ 272 2;refine⟨_,?_,s22,BS'++[(⟨none,0,0⟩,[])],k+1,rfl,hs.perm ?_,by rw[Ym,hBS,Yz,List.replicate_succ'];rfl,?_⟩
  .rw[Yh,Yv];omega
  .unfold lfL;rw[Ym (f:=nest 272 2 pC),Ym (f:=Prod.fst),Ym (f:=slC)];have:(BS'.map (nest 272 2 pC)++[(⟨none,0,0⟩,[])].map (nest 272 2 pC):List It)=BS'.map (nest 272 2 pC)++[.sl ⟨none,0,0⟩ 272 2 []]:=rfl;rw[this];refine List.Perm.trans (l₂:=(.blk h.size (pC p) 272::[.blk cb [.map (some ob)] 278,.mp ob ((mset O p n).map fun q=>(pV q.1,natV q.2)),.blk bb [.slice s22.a s22.n s22.c] 324,.sl s22 201 1 ((BS'.map Prod.fst).map slC++[slC ⟨none,0,0⟩])]++BS'.map (nest 272 2 pC)) ++ .sl ⟨none,0,0⟩ 272 2 []::R) ?_ (List.Perm.of_eq (by simp[slC]));refine List.Perm.trans ?_ List.perm_middle.symm;exact List.Perm.of_eq (by simp[splice])
  .right
   rw[Yh,Yv];omega
 .have hnl:n<BS'.length:=by omega
  obtain⟨q,hq⟩:=get_some hnl;have hpad:padB (BS.map Prod.snd) (n+1)=BS'.map Prod.snd:=by
   unfold padB;rw[hBS,Yc];congr 2;omega
  have hql:q.2.length<=1048576:=by
   have h1:(BS'.map Prod.snd)[n]?=some q.2:=by rw[Yd,hq];rfl
   rw[hBS] at h1;rcases Nat.lt_or_ge n BS.length with h9 | h9
   .rw[Yyi (by rw[Yc];exact h9),Yd] at h1;obtain⟨q2,h2,h3⟩:=Yya.1 h1;rw[<-h3];exact hBl q2 (Yb h2)
   .rw[Yyc (by rw[Yc];exact h9)] at h1;have:=List.eq_of_mem_replicate (Yb h1);rw[this];exact Nat.zero_le _
  refine⟨bk',hs.rd 3 rfl (i:=0) rfl,bk',hs.rd 3 rfl (i:=0) rfl,?_⟩;refine (hs.rows 4 rfl (by omega)).nbI (by omega) (by omega) fun b28 o29 d gd u=>?_;replace gd:(BS'.map Prod.fst)[n]?=some d:=gd;rw[Yd,hq] at gd;cases gd;refine⟨q.1,u.hd,(p.1:Nat),(p.2:Nat),hs.at 0 rfl (o:=0) (n:=2) rfl,?_⟩;refine hs.newbE fun h33 E33 hs=>⟨E33.sm,?_⟩;have hs1:St h0 h33 ((.blk h18.size (pC p) 272 :: .blk h.size (pC p) 272::[.blk cb [.map (some ob)] 278,.mp ob ((mset O p n).map fun q=>(pV q.1,natV q.2)),.blk bb [.slice bk'.a bk'.n bk'.c] 324,.sl bk' 201 1 ((BS'.map Prod.fst).map slC)])++BS'.map (nest 272 2 pC)++R):=hs;have hqn:=(hs1.nestLn hq (by omega)).ln;refine hs1.nestAt hq app201 p (hs1.at 0 rfl (o:=0) (n:=2) rfl) rfl rfl (by omega) (by simp only[maxLen];omega) fun r h35 rn hs2=>⟨?_,?_⟩
  .exact sm_cons (hs1.same hs2 4 4 rfl rfl) sm_nil
  .refine hs2.set 5 rfl (by omega) (x:=(n:Nat)) (by omega) (by omega) r rfl rfl (fun b36 o37 h38 hs3=>?_) rfl;refine hK bk' (BS'.set n (r,q.2++[p])) h38 ?_ ?_
   .have:=hs3.drop 2;unfold lfL;rw[List.map_set (f:=Prod.fst)];exact this
   .unfold pushB;rw[hpad,List.map_set,Yo,Yd,hq];rfl
theorem put212 (h0 h:Heap) (cb ob bb:Nat) (bk:Sl) (O:List (Pr × Nat)) (BS:List (Sl × List Pr)) (R:List It) (p:Pr) (n:Nat) (hs:St h0 h (lfL cb ob bb bk O BS R)) (hO:∀q∈O,kokP q.1) (hOn:(O.map Prod.fst).Nodup) (hp:kokP p) (hn:n<=16777216) (hB:BS.length<=16777216) (hBl:∀q∈BS,q.2.length<=1048576) :
  Fn Pz 212 #[.agg ⟨pC p⟩,.int .i64 (n:Nat),.pointer (some ⟨cb,0,none⟩),.pointer (some ⟨bb,0,none⟩)] h fun v h'=>v=.tuple ⟨[]⟩/\∃(bk':Sl) (BS':List (Sl × List Pr)),St h0 h' (lfL cb ob bb bk' (if rejB O p n then O else mset O p n) BS' R)/\BS'.map Prod.snd=if rejB O p n then BS.map Prod.snd else pushB (BS.map Prod.snd) n p:=by
 apply vc212 (p.1:Nat) (p.2:Nat) (n:Nat) ⟨cb,0,none⟩ ⟨bb,0,none⟩;unfold W212;refine hs.newb fun h3 hs=>?_;refine⟨some ob,hs.rd 1 rfl (i:=0) rfl,(p.1:Nat),(p.2:Nat),hs.at 0 rfl (o:=0) (n:=2) rfl,?_⟩;refine hs.mlookOk (cv:=natV) (l:=O) M278 2 rfl hO hOn (a:=p) hp ?_;cases hm:mget O p with
 | none=>
  refine⟨0,false,rfl,sB_f rfl ?_⟩;have hr:rejB O p n=false:=by unfold rejB;rw[hm]
  refine put_tail hs hO hOn hp hn hB hBl fun bk' BS' h' hs' hb=>⟨rfl,bk',BS',?_,?_⟩
  .rw[hr];exact hs'
  .rw[hr];exact hb
 | some k=>
  refine⟨(k:Nat),true,rfl,sB_t rfl ?_⟩;refine sBi (fun c=>?_) (fun c=>?_)
  .have hr:rejB O p n=true:=by unfold rejB;rw[hm];exact decide_eq_true (by omega)
   refine⟨rfl,bk,BS,?_,?_⟩
   .rw[hr];exact hs.drop 1
   .rw[hr];rfl
  .have hr:rejB O p n=false:=by unfold rejB;rw[hm];exact decide_eq_false (by omega)
   refine put_tail hs hO hOn hp hn hB hBl fun bk' BS' h' hs' hb=>⟨rfl,bk',BS',?_,?_⟩
   .rw[hr];exact hs'
   .rw[hr];exact hb
end Go.VC
end
