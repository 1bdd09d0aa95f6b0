/- SxLt0 SxLt SxLu SxLx0 SxLx SxLy SxLz SxM1 SxM2 SxM3 SxM4 SxM5 SxM6 SxM7 SxM8 SxM9. -/
import Derived.Test.YtajglkbckhgboaaGreatDoorGM07
import Derived.Test.YtajglkbckhgboaaGreatDoorGM04
set_option linter.all false
set_option maxRecDepth 100000
set_option maxHeartbeats 8000000

section
namespace Go.VC
open Go.Proofs Go.LexS
structure AK (g:Gl) (F:List rO):Prop where
 nd:(F.map (·.m)).Nodup
 e:∀f∈F,∃x∈g.es,f.m=⟨x.a,x.l⟩
 pl:∀f∈F,f.path.length<=1000000
theorem AK.len{g:Gl}{F:List rO}(h:AK g F):F.length<=g.es.length:=by
 have:=List.Nodup.length_le_of_subset h.nd (l₂:=g.es.map fun x=>(⟨x.a,x.l⟩:Ms)) fun m hm=>by
  obtain⟨f,hf,rfl⟩:=Yp.1 hm;obtain⟨x,hx,e⟩:=h.e f hf;exact Yp.2 ⟨x,hx,e.symm⟩
 rwa [Yc,Yc] at this
theorem AK.note{g:Gl}{F:List rO}(h:AK g F){x:Ed}(hx:x∈g.es){path:List Ac}(hp:path.length<=1000000):AK g (nZ F ⟨⟨x.a,x.l⟩,path⟩):=by
 unfold nZ;split
 .exact h
 .rename_i bK;refine⟨?_,fun f hf=>?_,fun f hf=>?_⟩
  .rw[Ym,List.nodup_append];refine⟨h.nd,by simp,fun a ha b hb e=>?_⟩;simp only[gJ,List.map_nil,Ye] at hb;subst hb;subst e;obtain⟨y,hy,e⟩:=Yp.1 ha;exact bK ⟨y,hy,e⟩
  .rcases Yk.1 hf with hf | hf
   .exact h.e f hf
   .rw[Ye] at hf;subst hf;exact⟨x,hx,rfl⟩
  .rcases Yk.1 hf with hf | hf
   .exact h.pl f hf
   .rw[Ye] at hf;subst hf;exact hp
theorem wh{g:Gl}{role:Int}{p:dX}{path:List Ac}{st:List nM × List rO}{x:Ed}(h:AK g st.2)(hx:x∈g.es)(hp:path.length<1000000):AK g (iZ role p path st x).2:=by
 unfold iZ;simp only;split
 .exact h.note hx (by rw[Yh,Yv];omega)
 .exact h
theorem Mq{h0 uX B9 sF Ep:Heap}{hd:Nat}{g:Gl}{gb ob mb:Nat}{qu al:Sl}{V:List Cv}{K:List (dX × Bool)}{F:List FS}{MS:List (Sl × List Ed)}{Q:List nM}{q:nM}{x:Ed}{role:Int}{V6:Nat}{I:Sl->Sl->Int->Heap->Nat->Prop}{y:Int}
  (hV:af g) (hr:role=((role.toNat:Nat):Int))
  (hs:St h0 uX (.ae Ep.size [.int .i64 x.t,.int .u8 (q.1.b:Nat),.int .u8 (q.1.d:Nat)] 245 :: .ae sF.size x.cs 67 :: .ae B9.size q.1.cs 245::fw gb ob mb g qu al V K F MS)) (hQ:AD g.n.toNat Q V K) (hq:Q[hd]?=some q) (hF:AK g (F.map Prod.fst)) (hx:x∈g.es)
  (hI:∀(qu' Fy:Sl) (Q':List nM) (V':List Cv) (K':List (dX × Bool)) (F':List FS) (h':Heap),St h0 h' (.ae B9.size q.1.cs 245::fw gb ob mb g qu' Fy V' K' F' MS)->AD g.n.toNat Q' V' K'->(Q',F'.map Prod.fst)=iZ role q.1 q.2 (Q,F.map Prod.fst) x->(∀(k:Nat) z,Q[k]?=some z->Q'[k]?=some z)->∃m,m<V6/\I qu' Fy (IntKind.wrap .i64 (y+1)) h' m) :
  R7 uX B9 sF Ep al role (hd:Nat) qu (some mb) V6 I y:=by
 unfold R7;have hN:=hV.num.n;have hM:=hV.num.m;have h6:=hV.Nr.n6;have vF:=hV.num.e x hx;unfold gV at vF;have Wo:=hQ.ok q (Yb hq);obtain⟨SX,ho2,ho3⟩:=Wo;have JU:=A3 hV (hQ.ok q (Yb hq)) hx role;have JS:x.a=((x.a.toNat:Nat):Int):=by omega
 have Hc:x.b=((x.b.toNat:Nat):Int):=by omega
 have yz:x.t=((x.t.toNat:Nat):Int):=by omega
 have fO:=hF.len;rw[Yc] at fO;have b1:=Ic ⟨q.1.b,by omega⟩ ⟨x.a.toNat,by omega⟩;have b2:=Ic ⟨q.1.d,by omega⟩ ⟨x.a.toNat,by omega⟩;have b3:=Ic ⟨q.1.b,by omega⟩ ⟨x.b.toNat,by omega⟩;simp only[<-JS,<-Hc] at b1 b2 b3;refine⟨fun Fy h'=>∃F':List FS,St h0 h' (.ae Ep.size (ec role q.1 x).1.cs 245 :: .ae sF.size x.cs 67 :: .ae B9.size q.1.cs 245::fw gb ob mb g qu Fy V K F' MS)/\F'.map Prod.fst=(if (ec role q.1 x).2 then nZ (F.map Prod.fst) ⟨⟨x.a,x.l⟩,q.2++[x.act]⟩ else F.map Prod.fst),?_,?_⟩
 .refine⟨(q.1.b:Nat),hs.rd 2 rfl (i:=1) rfl,x.a,hs.rd 1 rfl (i:=1) rfl,by omega,?_⟩;rw[b1.1];refine aa (fun c=>?_) (fun c=>?_)
  .refine⟨(q.1.b:Nat),hs.rd 0 rfl (i:=1) rfl,x.b,hs.rd 1 rfl (i:=2) rfl,by omega,?_⟩;rw[b3.2.2];refine hs.put 0 rfl (o:=1) (vs:=[.int .u8 ((q.1.b|||2^x.b.toNat:Nat):Int)]) rfl (show 2<=3 by decide) fun aen hs=>?_;have e:ec role q.1 x=(⟨x.t.toNat,q.1.b|||2^x.b.toNat,q.1.d⟩,false):=by unfold ec;rw[if_pos c]
   rw[e];refine⟨F,?_,rfl⟩;unfold dX.cs;simp only;rw[<-yz];exact hs
  .refine⟨x.b,hs.rd 1 rfl (i:=2) rfl,?_⟩;have e0:∀(e:dX),(⟨x.t.toNat,q.1.b,q.1.d⟩:dX).cs=[.int .i64 x.t,.int .u8 (q.1.b:Nat),.int .u8 (q.1.d:Nat)]:=fun _=>by unfold dX.cs;simp only;rw[<-yz]
   refine dw (fun c2=>?_) (fun c2=>?_)
   .refine⟨(q.1.d:Nat),hs.rd 2 rfl (i:=2) rfl,x.a,hs.rd 1 rfl (i:=1) rfl,by omega,?_⟩;rw[b2.2.1];refine aa (fun c3=>?_) (fun c3=>?_)
    .have Oc:q.1.d.testBit x.a.toNat=false:=bF c3;have e:ec role q.1 x=(⟨x.t.toNat,q.1.b,q.1.d|||2^x.a.toNat⟩,true):=by unfold ec;rw[if_neg (by rw[c];decide),if_pos ⟨c2,Oc⟩]
     refine⟨(q.1.d:Nat),hs.rd 0 rfl (i:=2) rfl,x.a,hs.rd 1 rfl (i:=1) rfl,by omega,?_⟩;rw[b2.2.2];refine hs.put 0 rfl (o:=2) (vs:=[.int .u8 ((q.1.d|||2^x.a.toNat:Nat):Int)]) rfl (show 3<=3 by decide) fun sE hs=>?_;refine⟨x.a,hs.rd 1 rfl (i:=1) rfl,x.l,hs.rd 1 rfl (i:=3) rfl,?_⟩;refine hs.ao (vs:=[.int .i64 x.a,.int .i64 x.l]) rfl rfl fun Mb hs=>?_;have hs:St h0 Mb (.ae sE.size (⟨x.a,x.l⟩:Ms).cs 72 :: .ae Ep.size (⟨x.t.toNat,q.1.b,q.1.d|||2^x.a.toNat⟩:dX).cs 245 :: .ae sF.size x.cs 67 :: .ae B9.size q.1.cs 245::fw gb ob mb g qu al V K F MS):=by
      unfold dX.cs;simp only;rw[<-yz];exact hs
     refine (xS F ⟨x.a,x.l⟩ sE.size al Mb (hs.rw 5 rfl (by omega)) (hs.at 0 rfl (o:=0) (n:=2) rfl) (by omega)).mono ?_;rintro _ Eo ⟨⟨r,rfl,od⟩,E⟩;replace hs:=hs.step E;have hr3:r=true ↔ ∃y∈F.map Prod.fst,y.m=⟨x.a,x.l⟩:=od.trans ⟨fun ⟨y,h1,h2⟩=>⟨y.1,Yp.2 ⟨y,h1,rfl⟩,h2⟩,fun ⟨y,h1,h2⟩=>by obtain⟨z,h3,rfl⟩:=Yp.1 h1;exact⟨z,h3,h2⟩⟩;rw[e];simp only[if_true];refine⟨r,rfl,aa (fun c4=>?_) (fun c4=>?_)⟩
     .have bK:¬∃y∈F.map Prod.fst,y.m=⟨x.a,x.l⟩:=fun h9=>by rw[hr3.2 h9] at c4;cases c4
      refine⟨x.a,x.b,x.l,hs.at 2 rfl (o:=1) (n:=3) rfl,?_⟩;refine hs.aj fun xB hs=>?_;have hs:=hs.dG 1 3 ([x.act].map Ac.cs) rfl (fun r hr=>by obtain⟨x,_,rfl⟩:=Yp.1 hr;rfl) rfl (by decide);refine KO (R:=[.ae Ep.size (⟨x.t.toNat,q.1.b,q.1.d|||2^x.a.toNat⟩:dX).cs 245,.ae sF.size x.cs 67,.ae B9.size q.1.cs 245]) (q:=q) (m:=⟨x.a,x.l⟩) hs hQ (by omega) hq (by omega) fun Fy r h' hs=>⟨_,hs,?_⟩;unfold nZ;rw[if_neg bK,Ym];rfl
     .refine⟨F,hs.drop 1,?_⟩;unfold nZ;rw[if_pos (hr3.1 (bT c4))]
    .have e:ec role q.1 x=(⟨x.t.toNat,q.1.b,q.1.d⟩,false):=by unfold ec;rw[if_neg (by rw[c];decide),if_neg (fun h9=>by rw[h9.2] at c3;cases c3)]
     rw[e];refine⟨F,?_,rfl⟩;rw[e0 q.1];exact hs
   .have e:ec role q.1 x=(⟨x.t.toNat,q.1.b,q.1.d⟩,false):=by unfold ec;rw[if_neg (by rw[c];decide),if_neg (fun h9=>c2 h9.1)]
    rw[e];refine⟨F,?_,rfl⟩;rw[e0 q.1];exact hs
 .clear hs b1 b2 b3;rintro-Fy Qm ⟨F',hs,LU⟩;generalize hnxt:(ec role q.1 x).1=nx at *;obtain⟨BT,BR,WE⟩:=JU;have kY:∀Q':List nM,Q'=(if nx∈Q.map Prod.fst then Q else Q++[(nx,q.2++[x.act])])->(Q',F'.map Prod.fst)=iZ role q.1 q.2 (Q,F.map Prod.fst) x:=fun Q' e=>by
   unfold iZ;simp only;rw[hnxt,<-e,LU]
  refine⟨(nx.s:Nat),(nx.b:Nat),(nx.d:Nat),hs.at 0 rfl (o:=0) (n:=3) rfl,?_⟩;refine hs.GL (cv:=Value.bool) (l:=K) Sq 5 rfl (hQ.iO (by omega)) hQ.kn (a:=nx) ⟨by omega,by omega,by omega⟩ ?_;rw[hQ.look];refine⟨_,rfl,aa (fun c=>?_) (fun c=>?_)⟩
  .have bK:nx∉Q.map Prod.fst:=eZ (bF c);refine⟨(nx.s:Nat),(nx.b:Nat),(nx.d:Nat),hs.at 0 rfl (o:=0) (n:=3) rfl,?_⟩;refine hs.DV (cv:=Value.bool) (l:=K) Sq 5 rfl (hQ.iO (by omega)) hQ.kn (a:=nx) ⟨by omega,by omega,by omega⟩ true fun ahN hs=>?_;refine⟨(nx.s:Nat),(nx.b:Nat),(nx.d:Nat),hs.at 0 rfl (o:=0) (n:=3) rfl,x.a,x.b,x.l,hs.at 1 rfl (o:=1) (n:=3) rfl,?_⟩;have LD:=hs.len 3 (s:=qu) (e:=248) (n:=7) (rows:=V.map vC) rfl (by omega);rw[Yc] at LD;have hle:=hQ.le;have Lz:=hQ.vn;have agP:g.n.toNat*4096<=200*4096:=Nat.mul_le_mul_right _ (by omega);refine hs.app 3 rfl Ru (m:=1) [vC (nx,((hd:Int),x.act))] rfl rfl (fun r hr=>by rw[Ye] at hr;rw[hr];rfl) rfl (by omega) (by simp only[maxLen];omega) fun acv aea n192 hs=>?_;refine hI acv Fy _ (V++[(nx,((hd:Int),x.act))]) (cI K nx true) F' aea ?_ (hQ.push hq bK ⟨BT,BR,WE⟩) (kY _ (by rw[if_neg bK])) fun k z hz=>by rw[jt (Ya.1 hz).1];exact hz
   have hs:=hs.drop 2;unfold fw;rw[Ym (f:=vC)];exact hs
  .have cO:nx∈Q.map Prod.fst:=cm (bT c);exact hI qu Fy Q V K F' _ (hs.drop 2) hQ (kY Q (by rw[if_pos cO])) fun k z hz=>hz
theorem sS{es:List Ed}{role:Int}{f hd:Nat}{Q:List nM}{F:List rO}{q:nM}(hq:Q[hd]?=some q):oK es role (f+1) hd Q F=oK es role f (hd+1) ((gu es q.1.s).foldl (iZ role q.1 q.2) (Q,F)).1 ((gu es q.1.s).foldl (iZ role q.1 q.2) (Q,F)).2:=by
 rw[oK,hq]
theorem wg{es:List Ed}{role:Int}{f hd:Nat}{Q:List nM}{F:List rO}(hq:Q[hd]?=none):oK es role f hd Q F=F:=by
 cases f with
 | zero=>rfl
 | succ f=>rw[oK,hq]
theorem xJ{es:List Ed}{j:Nat}{x:Ed}(hx:es[j]?=some x)(s:Nat):(es.take (j+1)).filter (fun y=>decide (y.f=(s:Int)))=(es.take j).filter (fun y=>decide (y.f=(s:Int)))++(if x.f=(s:Int) then [x] else []):=by
 rw[ak hx,List.filter_append];congr 1;by_cases h:x.f=(s:Int)
 .rw[if_pos h,List.filter_cons_of_pos (by rw[decide_eq_true h])];rfl
 .rw[if_neg h,List.filter_cons_of_neg (by rw[decide_eq_false h];decide)];rfl
theorem aR{α:Type}{L:List α}{n:Nat}{f:Nat->α}(h:L=(List.range n).map f){s:Nat}(hs:s<n):L[s]?=some (f s):=by
 rw[h,Yd,yi hs];rfl
theorem sR(g:Gl)(i:Nat)(x0:Ed)(h:Heap)(hg:GI h g)(hx:Gm h)(hV:af g)(hi:g.es[i]?=some x0):
  Fn Pz 68 #[g.v,.int .i64 (i:Nat)] h fun v h'=>Ext h h'/\∃(s:Sl) (F:List FS),v=.tuple ⟨[.slice s.a s.n s.c,.int .i64 0]⟩/\F.map Prod.fst=ef g i/\RL h' 3 s dz F/\(∀q∈F,RL h' 3 q.2 Ac.cs q.1.path)/\AK g (ef g i)/\St h h' (.sl s 134 3 (F.map dz)::F.map dm):=by
 apply aby (bs g.nm) g.hr g.hd g.n g.s g.e g.he g.ht (i:Nat);unfold W68;have hN:=hV.num.n;have hM:=hV.num.m;have h6:=hV.Nr.n6;have ke:=hg.e.ln;have oU:=(Ya.1 hi).1;have vF:=hV.num.e x0 (Yb hi);have hE:=hV.num.e;unfold gV at vF;have Hc:x0.b=((x0.b.toNat:Nat):Int):=by omega
 have yz:x0.t=((x0.t.toNat:Nat):Int):=by omega
 refine (St.refl h).aj fun h9 hs=>?_;refine⟨_,_,_,_,_,_,_,_,hs.at 0 rfl (n:=8) rfl,?_⟩;refine (ua g h9 (hg.ext hs.ext) (hx.ext hs.ext)).mono ?_;rintro _ aD ⟨rfl,E20⟩;replace hs:=hs.step E20;refine⟨_,rfl,?_⟩;rw[decide_eq_true hV];refine gZ rfl ?_;refine aM (fun c=>by omega) (fun _=>?_);refine⟨g.he,hs.rd 0 rfl (i:=6) rfl,aM (fun c=>by omega) (fun _=>?_)⟩;refine⟨g.n,hs.rd 0 rfl (i:=3) rfl,by omega,?_⟩;rw[Pb];refine hs.aj fun uW hs=>?_;have hs:=hs.qF (α:=Ed) (e:=67) (k:=6) (cs:=Ed.cs) (A:=[_,_]) (B:=[]) g.n.toNat;refine⟨g.he,hs.rd 1 rfl (i:=6) rfl,?_⟩;refine⟨fun x h' μ=>∃(j:Nat) (MS:List (Sl × List Ed)),x=(j:Int)/\μ=g.es.length-j/\j<=g.es.length/\MS.map Prod.snd=((List.range g.n.toNat).map fun s:Nat=>(g.es.take j).filter (fun y=>decide (y.f=(s:Int)))) /\
  St h h' ([.ae aD.size ((MS.map Prod.fst).map eS) 24,.ae h.size g.cs 27]++MS.map (nest 67 6 Ed.cs)++[]),
  ⟨_,0,List.replicate g.n.toNat ((⟨.none,0,0⟩,[]):Sl × List Ed),rfl,rfl,by omega,?_,?_⟩,?_⟩
 .rw[my,List.map_replicate];apply yL;intro s;rw[List.getElem?_replicate,Yd];by_cases hs:s<g.n.toNat
  .rw[if_pos hs,yi hs];rfl
  .rw[if_neg hs,Yl (by rw[kV];omega)];rfl
 .rw[List.map_replicate (f:=Prod.fst)];exact hs
 clear hs;rintro-_ Qi μ ⟨j,MS,rfl,rfl,hj,hMS,hs⟩;have Xk:MS.length=g.n.toNat:=by have:=congrArg List.length hMS;simpa using this
 refine aM (fun c1=>?_) (fun c1=>?_)
 .refine (hg.e.rw.ext hs.ext).aA (by omega) (by omega) fun b30 o31 x gx t=>?_;replace gx:g.es[j]?=some x:=gx;have kK:=hE x (Yb gx);unfold gV at kK;obtain⟨q,hq⟩:=get_some (l:=MS) (i:=x.f.toNat) (by omega);refine⟨_,_,_,_,_,_,t,?_⟩;refine hs.ao (vs:=x.cs) rfl rfl fun yJ hs=>?_;refine⟨x.f,hs.rd 0 rfl (i:=0) rfl,x.f,hs.rd 0 rfl (i:=0) rfl,⟨by omega,by omega⟩,?_⟩;rw[show 0+Int.toNat x.f*1=x.f.toNat by omega];refine⟨q.1,hs.rd 1 rfl (by rw[Yd,Yd,hq];rfl),?_⟩;refine⟨_,_,_,_,_,_,hs.at 0 rfl (o:=0) (n:=6) rfl,?_⟩;refine hs.aq fun Td E49 hs=>⟨E49.sm,?_⟩;have hs:St h Td ((.ae yJ.size x.cs 67 :: .ae Qi.size x.cs 67::[.ae aD.size ((MS.map Prod.fst).map eS) 24,.ae h.size g.cs 27])++MS.map (nest 67 6 Ed.cs)++[]):=hs;have nz:=(hs.kF hq (by omega)).ln;have fY:q.2=(g.es.take j).filter (fun y=>decide (y.f=((x.f.toNat:Nat):Int))):=by
   have h1:=aR hMS (s:=x.f.toNat) (by omega);rw[Yd,hq] at h1;exact fL h1
  have uO:q.2.length<=400:=by rw[fY];refine mw (List.length_filter_le _ _) ?_;rw[Yu];omega
  refine hs.nj hq Y3 x (hs.at 0 rfl (o:=0) (n:=6) rfl) rfl rfl (by omega) (by simp only[maxLen];omega) fun r zU hr fN=>?_;refine⟨fV (hs.same fN 1 1 rfl rfl) kv,⟨by omega,by omega⟩,?_⟩;refine fN.put 2 rfl (o:=x.f.toNat) (vs:=[eS r]) rfl (by rw[Yc,Yc,Yv];omega) fun zT hs=>?_;rw[bw eS (by rw[Yc];omega)] at hs;refine⟨_,by omega,j+1,MS.set x.f.toNat (r,q.2++[x]),by rw[a7 (by omega) (by omega)];omega,rfl,by omega,?_,?_⟩
  .apply yL;intro s;rw[Yd,Yd];by_cases iA:s<g.n.toNat
   .rw[yi iA];have h1:=aR hMS iA;rw[Yd] at h1;by_cases e:x.f.toNat=s
    .subst e;rw[Yq (by omega),Option.map_some,Option.map_some,xJ gx,if_pos (by omega),fY]
    .rw[Yy e,h1,Option.map_some,xJ gx,if_neg (by omega),Yw]
   .rw[Yl (by rw[jR];omega),Yl (by rw[kV];omega)];rfl
  .rw[List.map_set];exact hs.drop 2
 have LH:j=g.es.length:=by omega
 subst LH;rw[vM] at hMS;refine⟨fun x h' μ=>∃(j:Nat) (MS:List (Sl × List Ed)),x=(j:Int)/\μ=g.n.toNat-j/\j<=g.n.toNat/\MS.map Prod.snd=((List.range g.n.toNat).map fun s:Nat=>if s<j then gu g.es s else g.es.filter (fun y=>decide (y.f=(s:Int)))) /\
  St h h' ([.ae aD.size ((MS.map Prod.fst).map eS) 24,.ae h.size g.cs 27]++MS.map (nest 67 6 Ed.cs)++[]),
  ⟨_,0,MS,rfl,rfl,by omega,by rw[hMS];rfl,hs⟩,?_⟩
 clear hs hMS Xk hj c1;rintro-_ N2 μ ⟨j,MS,rfl,rfl,hj,hMS,hs⟩;have Xk:MS.length=g.n.toNat:=by have:=congrArg List.length hMS;simpa using this
 refine aM (fun c1=>?_) (fun c1=>?_)
 .obtain⟨q,hq⟩:=get_some (l:=MS) (i:=j) (by omega);refine⟨⟨by omega,by omega⟩,?_⟩;rw[show 0+Int.toNat ((j:Nat):Int)*1=j by omega];refine⟨q.1,hs.rd 0 rfl (by rw[Yd,Yd,hq];rfl),?_⟩;have Hq:j<(MS.map (nest 67 6 Ed.cs)).length:=by rw[Yc];omega
  have fY:q.2=g.es.filter (fun y=>decide (y.f=((j:Nat):Int))):=by
   have h1:=aR hMS (s:=j) (by omega);rw[Yd,hq,if_neg (by omega)] at h1;exact fL h1
  have uO:q.2.length<=400:=by rw[fY];exact mw (List.length_filter_le _ _) hM
  have jY:=u7 (P:=[.ae aD.size ((MS.map Prod.fst).map eS) 24,.ae h.size g.cs 27]) (R:=[]) Hq;rw[Yd,hq] at jY;refine (Ku hs _ jY (by omega)).mono ?_;rintro _ NZ ⟨rfl,l',hp,hw,hs⟩;have k6:l'=gu g.es j:=by unfold gu;rw[<-fY];exact OD hp hw (by rw[fY];exact rL hV _)
  rw[AZ Hq] at hs;refine⟨rfl,_,by omega,j+1,MS.set j (q.1,l'),by rw[a7 (by omega) (by omega)];omega,rfl,by omega,?_,?_⟩
  .apply yL;intro s;rw[Yd,Yd];by_cases iA:s<g.n.toNat
   .rw[yi iA];have h1:=aR hMS iA;rw[Yd] at h1;by_cases e:j=s
    .subst e;rw[Yq (by omega),Option.map_some,Option.map_some,if_pos (by omega),k6]
    .rw[Yy e,h1,Option.map_some];by_cases e2:s<j
     .rw[if_pos e2,if_pos (by omega)]
     .rw[if_neg e2,if_neg (by omega)]
   .rw[Yl (by rw[jR];omega),Yl (by rw[kV];omega)];rfl
  .have e1:(MS.map Prod.fst).set j (q.1,l').1=MS.map Prod.fst:=by
    have h9:(MS.map Prod.fst)[j]?=some q.1:=by rw[Yd,hq];rfl
    obtain⟨a,b⟩:=Ya.1 h9;show (MS.map Prod.fst).set j q.1=_;rw[<-b];exact List.set_getElem_self a
   rw[List.map_set (f:=Prod.fst),e1,List.map_set (f:=nest 67 6 Ed.cs)];exact hs
 have adC:MS.map Prod.snd=(List.range g.n.toNat).map (gu g.es):=by
  rw[hMS];apply List.map_congr_left;intro s hs;rw[List.mem_range] at hs;rw[if_pos (by omega)]
 clear hMS c1 hj;rw[Yw] at hs;refine⟨g.he,hs.rd 1 rfl (i:=6) rfl,?_⟩;refine (hg.e.rw.ext hs.ext).aA (by omega) (by omega) fun b64 o65 x gx t=>?_;replace gx:g.es[i]?=some x:=gx;rw[hi] at gx;cases gx;refine⟨x0.b,t.nth 2 rfl,g.he,hs.rd 1 rfl (i:=6) rfl,?_⟩;refine (hg.e.rw.ext hs.ext).aA (by omega) (by omega) fun b68 o69 x gx t2=>?_;replace gx:g.es[i]?=some x:=gx;rw[hi] at gx;cases gx;refine⟨x0.t,t2.nth 4 rfl,by omega,?_⟩;have e8:=aco ⟨x0.b.toNat,by omega⟩;simp only[<-Hc] at e8;rw[e8];have Wz:(⟨x0.t.toNat,2^x0.b.toNat,0⟩:dX).ok g.n.toNat:=⟨by simp only;omega,VE (by omega),(show 0<64 by decide)⟩;have LG:Lp (⟨x0.t.toNat,2^x0.b.toNat,0⟩:dX):=⟨by simp only;omega,acm (by omega),(show 0<256 by decide)⟩;have agW:(⟨x0.t.toNat,2^x0.b.toNat,0⟩:dX).cs=[.int .i64 x0.t,.int .u8 ((2^x0.b.toNat:Nat):Int),.int .u8 0]:=by unfold dX.cs;simp only;rw[<-yz];rfl
 refine hs.aq fun LW E71 hs=>⟨E71.sm,?_⟩;refine hs.put 0 rfl (o:=0) (vs:=[.int .i64 x0.t,.int .u8 ((2^x0.b.toNat:Nat):Int),.int .u8 0]) rfl (bc 3) fun Ft hs=>?_;refine hs.BD 246 fun im E75 hs=>⟨some Ft.size,rfl,?_⟩;refine⟨((x0.t.toNat:Nat):Int),((2^x0.b.toNat:Nat):Int),((0:Nat):Int),by rw[<-yz];exact hs.at 1 rfl (o:=0) (n:=3) rfl,?_⟩;refine hs.DV (cv:=Value.bool) (l:=[]) Sq 0 rfl (fun q hq=>by cases hq) .nil (a:=⟨x0.t.toNat,2^x0.b.toNat,0⟩) LG true fun J3 hs=>?_;refine⟨((x0.t.toNat:Nat):Int),((2^x0.b.toNat:Nat):Int),((0:Nat):Int),by rw[<-yz];exact hs.at 1 rfl (o:=0) (n:=3) rfl,?_⟩;refine hs.aj fun Qd hs=>?_;generalize tx:(⟨x0.t.toNat,2^x0.b.toNat,0⟩:dX)=p0 at *;have hs:=hs.dG 1 7 ([(p0,((-1:Int),(⟨0,0,0⟩:Ac)))].map vC) (by subst tx;rfl) (fun r hr=>by obtain⟨x,_,rfl⟩:=Yp.1 hr;rfl) rfl (by decide);have hs:=hs.bH 134 3;have hs:St h Qd (fw h.size aD.size Ft.size g ⟨some ⟨J3.size,0,none⟩,1,1⟩ ⟨none,0,0⟩ [(p0,((-1:Int),(⟨0,0,0⟩:Ac)))] [(p0,true)] [] MS):=by
  refine (hs.sub (.cons_cons _ (.cons_cons _ (.cons_cons _ (.cons _ (List.Sublist.refl _)))))).perm ?_;unfold fw;rw[List.map_nil (f:=dm),Yw];exact List.Perm.swap _ _ _
 have Xi:AD g.n.toNat [(p0,[])] [(p0,((-1:Int),(⟨0,0,0⟩:Ac)))] [(p0,true)]:=by
  refine⟨rfl,fun k v q hv hq=>?_,by simp,fun q hq=>?_,fun k q hq=>?_,fun p=>by simp,fun q hq=>?_,by simp⟩
  .have:=(Ya.1 hv).1;rw[Yv] at this;obtain rfl:k=0:=by omega
   cases hv;cases hq;exact⟨rfl,.inl ⟨rfl,rfl⟩⟩
  .rw[Ye] at hq;rw[hq];exact Wz
  .have:=(Ya.1 hq).1;rw[Yv] at this;obtain rfl:k=0:=by omega
   cases hq;exact Nat.zero_le _
  .rw[Ye] at hq;rw[hq]
 have hF0:AK g (([]:List FS).map Prod.fst):=⟨.nil,fun f hf=>(by cases hf),fun f hf=>(by cases hf)⟩;have hS0:ef g i=oK g.es x0.b (g.n.toNat*65536+1-0) 0 [(p0,[])] (([]:List FS).map Prod.fst):=by unfold ef;rw[hi];simp only;rw[tx];rfl
 refine⟨fun qu al x h' μ=>∃(hd:Nat) (Q:List nM) (V:List Cv) (K:List (dX × Bool)) (F:List FS),x=(hd:Int)/\μ=g.n.toNat*4096-hd/\hd<=Q.length/\St h h' (fw h.size aD.size Ft.size g qu al V K F MS)/\AD g.n.toNat Q V K/\AK g (F.map Prod.fst)/\ef g i=oK g.es x0.b (g.n.toNat*65536+1-hd) hd Q (F.map Prod.fst),⟨_,0,_,_,_,[],rfl,rfl,Nat.zero_le _,hs,Xi,hF0,hS0⟩,?_⟩;clear hs Xi hF0 hS0;rintro-qu al _ B9 μ ⟨hd,Q,V,K,F,rfl,rfl,hhd,hs,hQ,hF,hS⟩;have hle:=hQ.le;have Lz:=hQ.vn;have hn4:g.n.toNat*4096<=200*4096:=Nat.mul_le_mul_right _ (by omega);have LD:=hs.len 0 (s:=qu) (e:=248) (n:=7) (rows:=V.map vC) rfl (by omega);rw[Yc] at LD;refine aM (fun c=>?_) (fun c=>?_)
 .obtain⟨q,hq⟩:=get_some (l:=Q) (i:=hd) (by omega);obtain⟨v,hv⟩:=get_some (l:=V) (i:=hd) (by omega);have hvq:=(hQ.vq hd v q hv hq).1;obtain⟨SX,ho2,ho3⟩:=hQ.ok q (Yb hq);refine (hs.rows 0 rfl (by omega)).aA (by omega) (by omega) fun b91 o92 v' gv t=>?_;replace gv:V[hd]?=some v':=gv;rw[hv] at gv;cases gv;refine⟨(v.1.s:Nat),(v.1.b:Nat),(v.1.d:Nat),t.Dk 3 rfl,?_⟩;rw[hvq];refine hs.ao (vs:=q.1.cs) rfl rfl fun h97 hs=>?_;refine⟨(q.1.s:Nat),hs.rd 0 rfl (i:=0) rfl,⟨by omega,by omega⟩,?_⟩;rw[show 0+Int.toNat ((q.1.s:Nat):Int)*1=q.1.s by omega];obtain⟨ms,Ef⟩:=get_some (l:=MS) (i:=q.1.s) (by omega);have PC:ms.2=gu g.es q.1.s:=by
   have h1:=aR adC (s:=q.1.s) SX;rw[Yd,Ef] at h1;exact fL h1
  have agQ:ms.2.length<=400:=by rw[PC];unfold gu;rw[vY];exact mw (List.length_filter_le _ _) hM
  have agI:=(Ya.1 hq).1;have acO:=hQ.pl hd q hq;refine⟨ms.1,hs.rd 4 rfl (by rw[Yd,Yd,Ef];rfl),?_⟩;have eK:∀ {qu al V K F},.sl ms.1 67 6 (ms.2.map Ed.cs)∈(.ae B9.size q.1.cs 245::fw h.size aD.size Ft.size g qu al V K F MS:List It):=fun {qu al V K F}=>by
   refine Yn _ ?_;unfold fw;simp only[Yr,Yk]
   right;right;right;right;right;left
   exact Yp.2 ⟨ms,Yb Ef,rfl⟩
  have NJ:=hs.mD (eK) (by omega);have kc:ms.1.n=ms.2.length:=by have:=NJ.1;rwa [Yc] at this
  refine⟨fun qu al x h' μ=>∃(j:Nat) (Q':List nM) (V:List Cv) (K:List (dX × Bool)) (F':List FS),x=(j:Int)/\μ=ms.1.n-j/\j<=ms.1.n/\St h h' (.ae B9.size q.1.cs 245::fw h.size aD.size Ft.size g qu al V K F' MS)/\AD g.n.toNat Q' V K/\AK g (F'.map Prod.fst)/\Q'[hd]?=some q/\(Q',F'.map Prod.fst)=((gu g.es q.1.s).take j).foldl (iZ x0.b q.1 q.2) (Q,F.map Prod.fst),⟨_,0,Q,V,K,F,rfl,rfl,Nat.zero_le _,hs,hQ,hF,hq,rfl⟩,?_⟩;have Xi:=hQ;clear hs hQ hF LD Lz hle hv NJ;rintro-qu al _ sF μ ⟨j,Q',V,K,F',rfl,rfl,hj,hs,hQ,hF,pK,hfold⟩;have eU:Rw sF 6 ms.1 (ms.2.map Ed.cs):=hs.mD eK (by omega);refine aM (fun c2=>?_) (fun c2=>?_)
  .refine eU.aA (by omega) (by omega) fun aiw agv x gx t3=>?_;replace gx:ms.2[j]?=some x:=gx;rw[PC] at gx;have sv:x∈g.es:=by
    have h1:=(lj _ _).1 (Yb gx);exact (List.mem_filter.1 h1).1
   refine⟨x.f,x.a,x.b,x.l,x.t,x.ag,t3,?_⟩;refine hs.ao (vs:=x.cs) rfl rfl fun Ep hs=>?_;refine⟨x.t,hs.rd 0 rfl (i:=4) rfl,(q.1.b:Nat),hs.rd 1 rfl (i:=1) rfl,(q.1.d:Nat),hs.rd 1 rfl (i:=2) rfl,?_⟩;refine hs.ao (vs:=[.int .i64 x.t,.int .u8 (q.1.b:Nat),.int .u8 (q.1.d:Nat)]) rfl rfl fun uX hs=>?_;refine Mq hV Hc hs hQ pK hF sv fun qu' Fy Q2 V2 K2 F2 h' bD hQ2 he hk=>?_;refine⟨_,?_,j+1,Q2,V2,K2,F2,by rw[a7 (by omega) (by omega)];omega,rfl,by omega,bD,hQ2,?_,hk hd q pK,?_⟩
   .omega
   .have agS:=Xi.le;have:=wh (role:=x0.b) (p:=q.1) (path:=q.2) (st:=(Q',F'.map Prod.fst)) hF sv (by omega);rw[<-he] at this;exact this
   .rw[ak gx,List.foldl_append,<-hfold,he];rfl
  .rw[Yj (by rw[<-PC];omega)] at hfold;have hle:=Xi.le;have hqd:=(Ya.1 pK).1;refine⟨_,?_,hd+1,Q',V,K,F',by rw[a7 (by omega) (by omega)];omega,rfl,by omega,hs.drop 1,hQ,hF,?_⟩
   .omega
   .rw[hS,show g.n.toNat*65536+1-hd=(g.n.toNat*65536+1-(hd+1))+1 by omega,sS hq,<-hfold]
 .have WV:ef g i=F.map Prod.fst:=by rw[hS,wg (Yl (by omega))]
  have fO:=hF.len;rw[Yc] at fO;refine⟨hs.ext,al,F,rfl,WV.symm,RL.y6 hs 1 rfl (by omega) (by omega),fun f hf=>?_,by rw[WV];exact hF,hs.sub (.cons _ (.cons_cons _ (.cons _ (.cons _ (.cons _ (List.sublist_append_right _ _))))))⟩;have hm:dm f∈fw h.size aD.size Ft.size g qu al V K F MS:=by
   unfold fw;simp only[Yr,Yk]
   right;right;right;right;right;right
   exact Yp.2 ⟨f,hf,rfl⟩
  obtain⟨k,hk⟩:=Yf.1 hm;exact RL.y6 hs k hk (by omega) (by have:=hF.pl f.1 (Yp.2 ⟨f,hf,rfl⟩);omega)
def lR(x:Ms):List Ms->List Ms
 | []=>[x]
 | y::r=>if cu y x then y::lR x r else x::y::r
def sQ(l:List Ms):List Ms:=l.foldr lR []
theorem uG{x y z:Ms}(h1:cu x y)(h2:cu y z):cu x z:=by unfold cu at *;omega
theorem GJ(x:Ms):¬cu x x:=by unfold cu;omega
theorem wV{x y:Ms}(h:x≠y)(h1:¬cu y x):cu x y:=by
 obtain⟨a,b⟩:=x;obtain⟨a',b'⟩:=y;unfold cu at *;simp only[ne_eq,Ms.mk.injEq] at h;simp only at *;omega
theorem nu(x z:Ms):∀l:List Ms,z∈lR x l ↔ z=x\/z∈l
 | []=>by simp[lR]
 | y::r=>by
  unfold lR;split
  .rw[Yr,nu x z r,Yr];constructor
   .rintro (h | h | h)
    .exact .inr (.inl h)
    .exact .inl h
    .exact .inr (.inr h)
   .rintro (h | h | h)
    .exact .inr (.inl h)
    .exact .inl h
    .exact .inr (.inr h)
  .simp
theorem lQ{x:Ms}:∀ {l:List Ms},l.Pairwise cu->(∀y∈l,y≠x)->(lR x l).Pairwise cu
 | [],_,_=>by simp[lR]
 | y::r,hl,hx=>by
  obtain⟨h1,h2⟩:=List.pairwise_cons.1 hl;unfold lR;by_cases h:cu y x
  .rw[if_pos h,List.pairwise_cons];refine⟨fun z hz=>?_,lQ h2 fun z hz=>hx z (Yn _ hz)⟩;rcases (nu x z r).1 hz with rfl | hz
   .exact h
   .exact h1 z hz
  .rw[if_neg h,List.pairwise_cons];have h3:cu x y:=wV (fun e=>hx y (by simp) e.symm) h;refine⟨fun z hz=>?_,hl⟩;rcases Yr.1 hz with rfl | hz
   .exact h3
   .exact uG h3 (h1 z hz)
theorem mM(l:List Ms)(z:Ms):z∈sQ l ↔ z∈l:=by
 induction l with
 | nil=>simp[sQ]
 | cons a l ih=>
  show z∈lR a (sQ l) ↔ _;rw[nu,ih,Yr]
theorem lh:∀ {l:List Ms},l.Nodup->(sQ l).Pairwise cu
 | [],_=>.nil
 | a::l,h=>by
  obtain⟨h1,h2⟩:=List.nodup_cons.1 h;exact lQ (lh h2) fun y hy e=>h1 (by rw[<-e];exact (mM l y).1 hy)
theorem vX{l l':List Ms}(hp:l'.Perm l)(hw:l'.Pairwise fun a b=>¬cu b a)(hd:l.Nodup):l'=sQ l:=by
 refine fU (R:=cu) GJ (fun a b c=>uG) _ _ ?_ (lh hd) fun x=>by rw[mM];exact hp.mem_iff
 exact (hw.and (hp.nodup_iff.2 hd)).imp fun ⟨h1,h2⟩=>wV h2 h1
def dP(g:Gl)(i:Nat):List Ms:=sQ ((ef g i).map (·.m))
def gA(g:Gl)(i:Nat)(m:Ms):List Ac:=((ef g i).find? fun f=>decide (f.m=m)).elim [] (·.path)
theorem HY(g:Gl)(i:Nat)(x0:Ed)(h:Heap)(hg:GI h g)(hx:Gm h)(hV:af g)(hi:g.es[i]?=some x0):
  Fn Pz 31 #[g.v,.int .i64 (i:Nat)] h fun v h'=>Ext h h'/\∃s:Sl,v=.tuple ⟨[.slice s.a s.n s.c,.int .i64 0]⟩/\St h h' [.sl s 72 2 ((dP g i).map Ms.cs)]/\(dP g i).length<=400:=by
 apply abT (bs g.nm) g.hr g.hd g.n g.s g.e g.he g.ht (i:Nat);unfold W31;have hM:=hV.num.m;refine (St.refl h).aj fun h9 hs=>?_;refine⟨_,_,_,_,_,_,_,_,hs.at 0 rfl (n:=8) rfl,?_⟩;refine (sR g i x0 h9 (hg.ext hs.ext) (hx.ext hs.ext) hV hi).mono ?_;rintro _ l8 ⟨E,s,F,rfl,hF,hr,_,hI,_⟩;have E21:=(hs.step E).ext;have hFl:=hI.len;have adD:F.length=(ef g i).length:=by rw[<-hF,Yc]
 have iA:=hr.ln;refine⟨s,0,rfl,?_⟩;have hs:=(St.refl l8).bH 72 2;refine⟨fun out x h' μ=>∃j:Nat,x=j/\μ=s.n-j/\j<=s.n/\St l8 h' [.sl out 72 2 (((F.take j).map (·.1.m)).map Ms.cs)],⟨_,0,rfl,rfl,Nat.zero_le _,hs⟩,?_⟩;clear hs;rintro-out _ zW μ ⟨j,rfl,rfl,hj,hs⟩;have zP:=hs.len 0 (s:=out) (e:=72) (n:=2) rfl (by omega);rw[Yc,Yc,Yu] at zP;refine aM (fun c=>?_) (fun c=>?_)
 .refine (hr.ext hs.ext).rw.aA (by omega) (by omega) fun b28 o29 f gf t=>?_;replace gf:F[j]?=some f:=gf;refine⟨f.1.m.p,f.1.m.l,f.2,t,?_⟩;refine hs.ao (vs:=dz f) rfl rfl fun oq hs=>?_;refine⟨f.1.m.p,f.1.m.l,hs.at 0 rfl (o:=0) (n:=2) rfl,?_⟩;refine hs.app 1 rfl RA (m:=1) [f.1.m.cs] rfl rfl (fun r hr=>by rw[Ye] at hr;rw[hr];rfl) rfl (by omega) (by simp only[maxLen];omega) fun s38 yJ n38 hs=>?_;refine⟨_,by omega,j+1,by rw[a7 (by omega) (by omega)];omega,rfl,by omega,?_⟩;rw[ak gf,Ym,Ym];exact hs.drop 1
 .rw[Yj (by omega)] at hs;have Ef:F.map (·.1.m)=(ef g i).map (·.m):=by rw[<-hF,List.map_map];rfl
  rw[Ef] at hs;have hlm:((ef g i).map (·.m)).length<=400:=by rw[Yc];omega
  refine (Kv hs 0 rfl (by omega)).mono ?_;rintro _ zV ⟨rfl,l',hp,hw,hs⟩;have k6:l'=dP g i:=vX hp hw hI.nd;refine⟨rfl,E21.trans hs.ext,out,rfl,?_⟩;rw[<-k6];exact⟨((St.refl h).step E21).join hs,by rw[hp.length_eq];exact hlm⟩
theorem A9(g:Gl)(i:Nat)(x0:Ed)(m:Ms)(h:Heap)(hg:GI h g)(hx:Gm h)(hV:af g)(hi:g.es[i]?=some x0)(hm:m∈dP g i):
  Fn Pz 32 #[g.v,.int .i64 (i:Nat),.agg ⟨m.cs⟩] h fun v h'=>Ext h h'/\∃s:Sl,v=.tuple ⟨[.slice s.a s.n s.c,.int .i64 0]⟩/\St h h' [.sl s 65 3 ((gA g i m).map Ac.cs)]/\(gA g i m).length<=1000000:=by
 apply abS (bs g.nm) g.hr g.hd g.n g.s g.e g.he g.ht (i:Nat) m.p m.l;unfold W32;have hM:=hV.num.m;refine (St.refl h).aj fun iT hs=>?_;refine hs.aj fun kh hs=>?_;refine⟨_,_,_,_,_,_,_,_,hs.at 1 rfl (n:=8) rfl,?_⟩;refine (sR g i x0 kh (hg.ext hs.ext) (hx.ext hs.ext) hV hi).mono ?_;rintro _ qW ⟨E,s,F,rfl,hF,hr,hp,hI,Pq⟩;have qR:=hs;replace hs:=hs.step E;have hFl:=hI.len;have adD:F.length=(ef g i).length:=by rw[<-hF,Yc]
 have iA:=hr.ln;refine⟨s,0,rfl,eY (fun c=>absurd rfl c) (fun _=>?_)⟩;refine (xc 72 Rc F m iT.size s qW hr.rw (hs.at 0 rfl (o:=0) (n:=2) rfl) (by omega) fun q h hc=>KB q m iT.size h hc).mono ?_;rintro _ zW ⟨rfl,E2⟩;refine⟨_,rfl,?_⟩;have cO:∃f∈F,f.1.m=m:=by
  have h1:=(mM _ _).1 hm;rw[<-hF] at h1;obtain⟨f,h2,h3⟩:=Yp.1 h1;obtain⟨q,h4,rfl⟩:=Yp.1 h2;exact⟨q,h4,h3⟩
 unfold uM;cases hf:F.findIdx? fun q=>decide (q.1.m=m) with
 | none=>
  rw[List.findIdx?_eq_none_iff] at hf;obtain⟨f,h1,h2⟩:=cO;have:=hf f h1;rw[decide_eq_true h2] at this;cases this
 | some k=>
  obtain⟨h1,h2,_⟩:=List.findIdx?_eq_some_iff_getElem.1 hf;simp only;refine aM (fun c=>by omega) (fun _=>?_);refine (hr.ext E2).rw.aA (by omega) (by omega) fun b28 o29 f gf t=>?_;replace gf:F[k]?=some f:=gf;have hfm:f.1.m=m:=by
   rw[Yi h1] at gf;rw[<-fL gf];exact cm h2
  have hfF:=Yb gf;have hpe:gA g i m=f.1.path:=by
   have eK:f.1∈ef g i:=by rw[<-hF];exact Yp.2 ⟨f,hfF,rfl⟩
   unfold gA;cases hq:(ef g i).find? fun f=>decide (f.m=m) with
   | none=>have:=List.find?_eq_none.1 hq f.1 eK;rw[decide_eq_true hfm] at this;exact absurd rfl this
   | some f'=>
    have h3:=List.mem_of_find?_eq_some hq;have h4:f'.m=m:=by have:=List.find?_some hq;exact cm this
    show f'.path=f.1.path;obtain⟨a,ha⟩:=Yf.1 h3;obtain⟨b,hb⟩:=Yf.1 eK;have h5:((ef g i).map (·.m))[a]?=some m:=by rw[Yd,ha,<-h4];rfl
    have h6:((ef g i).map (·.m))[b]?=some m:=by rw[Yd,hb,<-hfm];rfl
    have h7:=eH hI.nd h5 h6;subst h7;rw[ha] at hb;cases hb;rfl
  refine⟨f.2,t.nth 2 rfl,(hs.ext.trans E2),f.2,rfl,?_⟩;rw[hpe];refine⟨(qR.sub (List.nil_sublist _)).join ((Pq.step E2).sub (List.singleton_sublist.2 (Yn _ (Yp.2 ⟨f,hfF,rfl⟩)))),hI.pl f.1 (by rw[<-hF];exact Yp.2 ⟨f,hfF,rfl⟩)⟩
noncomputable abbrev dN(a:Heap)(g:Gl):It:=.ae a.size (ai Pz 102 (Int.toNat g.n)) 102
noncomputable abbrev dM(a:Heap)(g:Gl):It:=.ae a.size (ai Pz 192 (Int.toNat g.n)) 192
noncomputable abbrev dK(a:Heap)(g:Gl):It:=.ae a.size (ai Pz 4 (Int.toNat g.n)) 4
noncomputable abbrev dJ(a:Heap)(g:Gl):It:=.ae a.size (ai Pz 4 (Int.toNat g.n)) 4
noncomputable abbrev dI(a:Heap)(g:Gl):It:=.ae a.size (ai Pz 274 (Int.toNat g.n)) 274
def aN(g:Gl)(role:Int)(h:Heap)(R:Value->Heap->Prop):Prop:=∀hF a b c d e:Heap,St h hF [dN a g,dM b g,dK c g,dJ d g,dI e g,.ae h.size g.cs 27]->Ay hF (bs g.nm) g.hr g.hd g.n g.s g.e g.he g.ht role a g.n b g.n c g.n d g.n e g.n h R
theorem uB{g:Gl}{role:Int}{h sD aD bL fQ oV:Heap}{R:Value->Heap->Prop}(hT:aN g role h R)(hn:1<=g.n/\g.n<=200)(hs:St h sD [dN aD g,dM bL g,dK fQ g,dJ oV g,.ae h.size g.cs 27]):ES g.n sD h (bs g.nm) g.hr g.hd g.n g.s g.e g.he g.ht role aD g.n bL g.n fQ g.n oV g.n R:=by
 unfold ES;refine⟨⟨by omega,by omega,by omega⟩,hs.aq fun yJ E hs=>⟨E.sm,?_⟩⟩;have hs:=hs.perm (List.perm_middle (l₁:=[_,_,_,_])).symm;exact hT _ _ _ _ _ _ hs
theorem zc{g:Gl}{role:Int}{h oV aD bL fQ:Heap}{R:Value->Heap->Prop}(hT:aN g role h R)(hn:1<=g.n/\g.n<=200)(hs:St h oV [dN aD g,dM bL g,dK fQ g,.ae h.size g.cs 27]):IL g.n oV h g.n (bs g.nm) g.hr g.hd g.n g.s g.e g.he g.ht role aD g.n bL g.n fQ g.n R:=by
 unfold IL;refine⟨⟨by omega,by omega,by omega⟩,hs.aq fun sD E hs=>⟨E.sm,?_⟩⟩;have hs:=hs.perm (List.perm_middle (l₁:=[_,_,_])).symm;exact uB hT hn hs
theorem uD{g:Gl}{role:Int}{h zX aD bL fQ oV:Heap}{R:Value->Heap->Prop}(hT:aN g role h R)(hn:1<=g.n/\g.n<=200)(hs:St h zX [dN aD g,dM bL g,dK fQ g,dI oV g,.ae h.size g.cs 27]):EU g.n zX h (bs g.nm) g.hr g.hd g.n g.s g.e g.he g.ht role aD g.n bL g.n fQ g.n oV g.n R:=by
 unfold EU;refine⟨⟨by omega,by omega,by omega⟩,hs.aq fun Qm E hs=>⟨E.sm,?_⟩⟩;have hs:=hs.perm (List.perm_middle (l₁:=[_,_,_])).symm;exact hT _ _ _ _ _ _ hs
theorem zg{g:Gl}{role:Int}{h oV aD bL fQ:Heap}{R:Value->Heap->Prop}(hT:aN g role h R)(hn:1<=g.n/\g.n<=200)(hs:St h oV [dN aD g,dM bL g,dK fQ g,.ae h.size g.cs 27]):IT g.n oV h g.n (bs g.nm) g.hr g.hd g.n g.s g.e g.he g.ht role aD g.n bL g.n fQ g.n R:=by
 unfold IT;refine⟨⟨by omega,by omega,by omega⟩,hs.aq fun zX E hs=>⟨E.sm,?_⟩⟩;have hs:=hs.perm (List.perm_middle (l₁:=[_,_,_])).symm;exact uD hT hn hs
theorem wO{g:Gl}{role:Int}{h fQ aD bL:Heap}{R:Value->Heap->Prop}(hT:aN g role h R)(hn:1<=g.n/\g.n<=200)(hs:St h fQ [dN aD g,dM bL g,.ae h.size g.cs 27]):vk g.n fQ h g.n g.n (bs g.nm) g.hr g.hd g.n g.s g.e g.he g.ht role aD g.n bL g.n R:=by
 unfold vk;refine⟨⟨by omega,by omega,by omega⟩,hs.aq fun oV E hs=>⟨E.sm,?_⟩⟩;have hs:=hs.perm (List.perm_middle (l₁:=[_,_])).symm;exact⟨zc hT hn hs,zg hT hn hs⟩
theorem zf{g:Gl}{role:Int}{h uU aD bL fQ:Heap}{R:Value->Heap->Prop}(hT:aN g role h R)(hn:1<=g.n/\g.n<=200)(hs:St h uU [dN aD g,dM bL g,dJ fQ g,.ae h.size g.cs 27]):IQ g.n uU h g.n (bs g.nm) g.hr g.hd g.n g.s g.e g.he g.ht role aD g.n bL g.n fQ g.n R:=by
 unfold IQ;refine⟨⟨by omega,by omega,by omega⟩,hs.aq fun ahz E hs=>⟨E.sm,?_⟩⟩;have hs:=hs.perm (List.perm_middle (l₁:=[_,_])).symm;exact uB hT hn hs
theorem uC{g:Gl}{role:Int}{h Qg aD bL fQ uU:Heap}{R:Value->Heap->Prop}(hT:aN g role h R)(hn:1<=g.n/\g.n<=200)(hs:St h Qg [dN aD g,dM bL g,dJ fQ g,dI uU g,.ae h.size g.cs 27]):ET g.n Qg h (bs g.nm) g.hr g.hd g.n g.s g.e g.he g.ht role aD g.n bL g.n fQ g.n uU g.n R:=by
 unfold ET;refine⟨⟨by omega,by omega,by omega⟩,hs.aq fun ahr E hs=>⟨E.sm,?_⟩⟩;have hs:=hs.perm (List.perm_middle (l₁:=[_,_])).symm;exact hT _ _ _ _ _ _ hs
theorem zk{g:Gl}{role:Int}{h uU aD bL fQ:Heap}{R:Value->Heap->Prop}(hT:aN g role h R)(hn:1<=g.n/\g.n<=200)(hs:St h uU [dN aD g,dM bL g,dJ fQ g,.ae h.size g.cs 27]):IX g.n uU h g.n (bs g.nm) g.hr g.hd g.n g.s g.e g.he g.ht role aD g.n bL g.n fQ g.n R:=by
 unfold IX;refine⟨⟨by omega,by omega,by omega⟩,hs.aq fun Qg E hs=>⟨E.sm,?_⟩⟩;have hs:=hs.perm (List.perm_middle (l₁:=[_,_,_])).symm;exact uC hT hn hs
theorem wP{g:Gl}{role:Int}{h fQ aD bL:Heap}{R:Value->Heap->Prop}(hT:aN g role h R)(hn:1<=g.n/\g.n<=200)(hs:St h fQ [dN aD g,dM bL g,.ae h.size g.cs 27]):vl g.n fQ h g.n g.n (bs g.nm) g.hr g.hd g.n g.s g.e g.he g.ht role aD g.n bL g.n R:=by
 unfold vl;refine⟨⟨by omega,by omega,by omega⟩,hs.aq fun uU E hs=>⟨E.sm,?_⟩⟩;have hs:=hs.perm (List.perm_middle (l₁:=[_,_])).symm;exact⟨zf hT hn hs,zk hT hn hs⟩
theorem ze{g:Gl}{role:Int}{h Em aD bL fQ:Heap}{R:Value->Heap->Prop}(hT:aN g role h R)(hn:1<=g.n/\g.n<=200)(hs:St h Em [dN aD g,dM bL g,dI fQ g,.ae h.size g.cs 27]):IP g.n Em h g.n (bs g.nm) g.hr g.hd g.n g.s g.e g.he g.ht role aD g.n bL g.n fQ g.n R:=by
 unfold IP;refine⟨⟨by omega,by omega,by omega⟩,hs.aq fun ahm E hs=>⟨E.sm,?_⟩⟩;have hs:=hs.perm (List.perm_middle (l₁:=[_,_])).symm;exact uD hT hn hs
theorem zd{g:Gl}{role:Int}{h Em aD bL fQ:Heap}{R:Value->Heap->Prop}(hT:aN g role h R)(hn:1<=g.n/\g.n<=200)(hs:St h Em [dN aD g,dM bL g,dI fQ g,.ae h.size g.cs 27]):IM g.n Em h g.n (bs g.nm) g.hr g.hd g.n g.s g.e g.he g.ht role aD g.n bL g.n fQ g.n R:=by
 unfold IM;refine⟨⟨by omega,by omega,by omega⟩,hs.aq fun ahe E hs=>⟨E.sm,?_⟩⟩;have hs:=hs.perm (List.perm_middle (l₁:=[_,_])).symm;exact uC hT hn hs
theorem Bd{g:Gl}{role:Int}{h fQ aD bL:Heap}{R:Value->Heap->Prop}(hT:aN g role h R)(hn:1<=g.n/\g.n<=200)(hs:St h fQ [dN aD g,dM bL g,.ae h.size g.cs 27]):Cy g.n fQ h g.n g.n (bs g.nm) g.hr g.hd g.n g.s g.e g.he g.ht role aD g.n bL g.n R:=by
 unfold Cy;refine⟨⟨by omega,by omega,by omega⟩,hs.aq fun Em E hs=>⟨E.sm,?_⟩⟩;have hs:=hs.perm (List.perm_middle (l₁:=[_,_])).symm;exact⟨ze hT hn hs,zd hT hn hs⟩
theorem Bf{g:Gl}{role:Int}{h fe aD bL:Heap}{R:Value->Heap->Prop}(hT:aN g role h R)(hn:1<=g.n/\g.n<=200)(hs:St h fe [dN aD g,dK bL g,.ae h.size g.cs 27]):CA g.n fe h g.n g.n (bs g.nm) g.hr g.hd g.n g.s g.e g.he g.ht role aD g.n bL g.n R:=by
 unfold CA;refine⟨⟨by omega,by omega,by omega⟩,hs.aq fun ahb E hs=>⟨E.sm,?_⟩⟩;have hs:=hs.perm (List.perm_middle (l₁:=[_])).symm;exact⟨zc hT hn hs,zg hT hn hs⟩
theorem zz{g:Gl}{role:Int}{h l9 aD bL fe:Heap}{R:Value->Heap->Prop}(hT:aN g role h R)(hn:1<=g.n/\g.n<=200)(hs:St h l9 [dN aD g,dK bL g,dJ fe g,.ae h.size g.cs 27]):Jd g.n l9 h g.n (bs g.nm) g.hr g.hd g.n g.s g.e g.he g.ht role aD g.n bL g.n fe g.n R:=by
 unfold Jd;refine⟨⟨by omega,by omega,by omega⟩,hs.aq fun afU E hs=>⟨E.sm,?_⟩⟩;have hs:=hs.perm (List.perm_middle (l₁:=[_])).symm;exact uB hT hn hs
theorem uF{g:Gl}{role:Int}{h HI aD bL fe l9:Heap}{R:Value->Heap->Prop}(hT:aN g role h R)(hn:1<=g.n/\g.n<=200)(hs:St h HI [dN aD g,dK bL g,dJ fe g,dI l9 g,.ae h.size g.cs 27]):EW g.n HI h (bs g.nm) g.hr g.hd g.n g.s g.e g.he g.ht role aD g.n bL g.n fe g.n l9 g.n R:=by
 unfold EW;refine⟨⟨by omega,by omega,by omega⟩,hs.aq fun afT E hs=>⟨E.sm,?_⟩⟩;have hs:=hs.perm (List.perm_middle (l₁:=[_])).symm;exact hT _ _ _ _ _ _ hs
theorem zy{g:Gl}{role:Int}{h l9 aD bL fe:Heap}{R:Value->Heap->Prop}(hT:aN g role h R)(hn:1<=g.n/\g.n<=200)(hs:St h l9 [dN aD g,dK bL g,dJ fe g,.ae h.size g.cs 27]):Jc g.n l9 h g.n (bs g.nm) g.hr g.hd g.n g.s g.e g.he g.ht role aD g.n bL g.n fe g.n R:=by
 unfold Jc;refine⟨⟨by omega,by omega,by omega⟩,hs.aq fun HI E hs=>⟨E.sm,?_⟩⟩;have hs:=hs.perm (List.perm_middle (l₁:=[_,_,_])).symm;exact uF hT hn hs
theorem Be{g:Gl}{role:Int}{h fe aD bL:Heap}{R:Value->Heap->Prop}(hT:aN g role h R)(hn:1<=g.n/\g.n<=200)(hs:St h fe [dN aD g,dK bL g,.ae h.size g.cs 27]):Cz g.n fe h g.n g.n (bs g.nm) g.hr g.hd g.n g.s g.e g.he g.ht role aD g.n bL g.n R:=by
 unfold Cz;refine⟨⟨by omega,by omega,by omega⟩,hs.aq fun l9 E hs=>⟨E.sm,?_⟩⟩;have hs:=hs.perm (List.perm_middle (l₁:=[_,_])).symm;exact⟨zz hT hn hs,zy hT hn hs⟩
theorem zw{g:Gl}{role:Int}{h tG aD bL fe:Heap}{R:Value->Heap->Prop}(hT:aN g role h R)(hn:1<=g.n/\g.n<=200)(hs:St h tG [dN aD g,dK bL g,dI fe g,.ae h.size g.cs 27]):Jb g.n tG h g.n (bs g.nm) g.hr g.hd g.n g.s g.e g.he g.ht role aD g.n bL g.n fe g.n R:=by
 unfold Jb;refine⟨⟨by omega,by omega,by omega⟩,hs.aq fun afS E hs=>⟨E.sm,?_⟩⟩;have hs:=hs.perm (List.perm_middle (l₁:=[_])).symm;exact uD hT hn hs
theorem zl{g:Gl}{role:Int}{h tG aD bL fe:Heap}{R:Value->Heap->Prop}(hT:aN g role h R)(hn:1<=g.n/\g.n<=200)(hs:St h tG [dN aD g,dK bL g,dI fe g,.ae h.size g.cs 27]):IY g.n tG h g.n (bs g.nm) g.hr g.hd g.n g.s g.e g.he g.ht role aD g.n bL g.n fe g.n R:=by
 unfold IY;refine⟨⟨by omega,by omega,by omega⟩,hs.aq fun afR E hs=>⟨E.sm,?_⟩⟩;have hs:=hs.perm (List.perm_middle (l₁:=[_,_])).symm;exact uF hT hn hs
theorem Bv{g:Gl}{role:Int}{h fe aD bL:Heap}{R:Value->Heap->Prop}(hT:aN g role h R)(hn:1<=g.n/\g.n<=200)(hs:St h fe [dN aD g,dK bL g,.ae h.size g.cs 27]):CR g.n fe h g.n g.n (bs g.nm) g.hr g.hd g.n g.s g.e g.he g.ht role aD g.n bL g.n R:=by
 unfold CR;refine⟨⟨by omega,by omega,by omega⟩,hs.aq fun tG E hs=>⟨E.sm,?_⟩⟩;have hs:=hs.perm (List.perm_middle (l₁:=[_,_])).symm;exact⟨zw hT hn hs,zl hT hn hs⟩
theorem Bz{g:Gl}{role:Int}{h fI aD bL:Heap}{R:Value->Heap->Prop}(hT:aN g role h R)(hn:1<=g.n/\g.n<=200)(hs:St h fI [dN aD g,dJ bL g,.ae h.size g.cs 27]):CU g.n fI h g.n g.n (bs g.nm) g.hr g.hd g.n g.s g.e g.he g.ht role aD g.n bL g.n R:=by
 unfold CU;refine⟨⟨by omega,by omega,by omega⟩,hs.aq fun afQ E hs=>⟨E.sm,?_⟩⟩;have hs:=hs.perm (List.perm_middle (l₁:=[_])).symm;exact⟨zf hT hn hs,zk hT hn hs⟩
theorem Bi{g:Gl}{role:Int}{h fI aD bL:Heap}{R:Value->Heap->Prop}(hT:aN g role h R)(hn:1<=g.n/\g.n<=200)(hs:St h fI [dN aD g,dJ bL g,.ae h.size g.cs 27]):CE g.n fI h g.n g.n (bs g.nm) g.hr g.hd g.n g.s g.e g.he g.ht role aD g.n bL g.n R:=by
 unfold CE;refine⟨⟨by omega,by omega,by omega⟩,hs.aq fun afP E hs=>⟨E.sm,?_⟩⟩;have hs:=hs.perm (List.perm_middle (l₁:=[_])).symm;exact⟨zz hT hn hs,zy hT hn hs⟩
theorem zv{g:Gl}{role:Int}{h tF aD bL fI:Heap}{R:Value->Heap->Prop}(hT:aN g role h R)(hn:1<=g.n/\g.n<=200)(hs:St h tF [dN aD g,dJ bL g,dI fI g,.ae h.size g.cs 27]):Ja g.n tF h g.n (bs g.nm) g.hr g.hd g.n g.s g.e g.he g.ht role aD g.n bL g.n fI g.n R:=by
 unfold Ja;refine⟨⟨by omega,by omega,by omega⟩,hs.aq fun afO E hs=>⟨E.sm,?_⟩⟩;have hs:=hs.perm (List.perm_middle (l₁:=[_])).symm;exact uC hT hn hs
theorem zj{g:Gl}{role:Int}{h tF aD bL fI:Heap}{R:Value->Heap->Prop}(hT:aN g role h R)(hn:1<=g.n/\g.n<=200)(hs:St h tF [dN aD g,dJ bL g,dI fI g,.ae h.size g.cs 27]):IW g.n tF h g.n (bs g.nm) g.hr g.hd g.n g.s g.e g.he g.ht role aD g.n bL g.n fI g.n R:=by
 unfold IW;refine⟨⟨by omega,by omega,by omega⟩,hs.aq fun afN E hs=>⟨E.sm,?_⟩⟩;have hs:=hs.perm (List.perm_middle (l₁:=[_])).symm;exact uF hT hn hs
theorem Bx{g:Gl}{role:Int}{h fI aD bL:Heap}{R:Value->Heap->Prop}(hT:aN g role h R)(hn:1<=g.n/\g.n<=200)(hs:St h fI [dN aD g,dJ bL g,.ae h.size g.cs 27]):CT g.n fI h g.n g.n (bs g.nm) g.hr g.hd g.n g.s g.e g.he g.ht role aD g.n bL g.n R:=by
 unfold CT;refine⟨⟨by omega,by omega,by omega⟩,hs.aq fun tF E hs=>⟨E.sm,?_⟩⟩;have hs:=hs.perm (List.perm_middle (l₁:=[_,_])).symm;exact⟨zv hT hn hs,zj hT hn hs⟩
theorem Bw{g:Gl}{role:Int}{h l6 aD bL:Heap}{R:Value->Heap->Prop}(hT:aN g role h R)(hn:1<=g.n/\g.n<=200)(hs:St h l6 [dN aD g,dI bL g,.ae h.size g.cs 27]):CS g.n l6 h g.n g.n (bs g.nm) g.hr g.hd g.n g.s g.e g.he g.ht role aD g.n bL g.n R:=by
 unfold CS;refine⟨⟨by omega,by omega,by omega⟩,hs.aq fun afM E hs=>⟨E.sm,?_⟩⟩;have hs:=hs.perm (List.perm_middle (l₁:=[_])).symm;exact⟨ze hT hn hs,zd hT hn hs⟩
theorem Bh{g:Gl}{role:Int}{h l6 aD bL:Heap}{R:Value->Heap->Prop}(hT:aN g role h R)(hn:1<=g.n/\g.n<=200)(hs:St h l6 [dN aD g,dI bL g,.ae h.size g.cs 27]):CD g.n l6 h g.n g.n (bs g.nm) g.hr g.hd g.n g.s g.e g.he g.ht role aD g.n bL g.n R:=by
 unfold CD;refine⟨⟨by omega,by omega,by omega⟩,hs.aq fun afL E hs=>⟨E.sm,?_⟩⟩;have hs:=hs.perm (List.perm_middle (l₁:=[_])).symm;exact⟨zw hT hn hs,zl hT hn hs⟩
theorem Bg{g:Gl}{role:Int}{h l6 aD bL:Heap}{R:Value->Heap->Prop}(hT:aN g role h R)(hn:1<=g.n/\g.n<=200)(hs:St h l6 [dN aD g,dI bL g,.ae h.size g.cs 27]):CC g.n l6 h g.n g.n (bs g.nm) g.hr g.hd g.n g.s g.e g.he g.ht role aD g.n bL g.n R:=by
 unfold CC;refine⟨⟨by omega,by omega,by omega⟩,hs.aq fun afK E hs=>⟨E.sm,?_⟩⟩;have hs:=hs.perm (List.perm_middle (l₁:=[_])).symm;exact⟨zv hT hn hs,zj hT hn hs⟩
theorem Bt{g:Gl}{role:Int}{h cR aD ba:Heap}{R:Value->Heap->Prop}(hT:aN g role h R)(hn:1<=g.n/\g.n<=200)(hs:St h cR [dM aD g,dK ba g,.ae h.size g.cs 27]):CP g.n cR h g.n g.n (bs g.nm) g.hr g.hd g.n g.s g.e g.he g.ht role aD g.n ba g.n R:=by
 unfold CP;refine⟨⟨by omega,by omega,by omega⟩,hs.aq fun afI E hs=>⟨E.sm,?_⟩⟩;exact⟨zc hT hn hs,zg hT hn hs⟩
theorem zu{g:Gl}{role:Int}{h l5 aD ba cR:Heap}{R:Value->Heap->Prop}(hT:aN g role h R)(hn:1<=g.n/\g.n<=200)(hs:St h l5 [dM aD g,dK ba g,dJ cR g,.ae h.size g.cs 27]):I9 g.n l5 h g.n (bs g.nm) g.hr g.hd g.n g.s g.e g.he g.ht role aD g.n ba g.n cR g.n R:=by
 unfold I9;refine⟨⟨by omega,by omega,by omega⟩,hs.aq fun afH E hs=>⟨E.sm,?_⟩⟩;exact uB hT hn hs
theorem uE{g:Gl}{role:Int}{h HE aD ba cR l5:Heap}{R:Value->Heap->Prop}(hT:aN g role h R)(hn:1<=g.n/\g.n<=200)(hs:St h HE [dM aD g,dK ba g,dJ cR g,dI l5 g,.ae h.size g.cs 27]):EV g.n HE h (bs g.nm) g.hr g.hd g.n g.s g.e g.he g.ht role aD g.n ba g.n cR g.n l5 g.n R:=by
 unfold EV;refine⟨⟨by omega,by omega,by omega⟩,hs.aq fun afG E hs=>⟨E.sm,?_⟩⟩;exact hT _ _ _ _ _ _ hs
theorem zt{g:Gl}{role:Int}{h l5 aD ba cR:Heap}{R:Value->Heap->Prop}(hT:aN g role h R)(hn:1<=g.n/\g.n<=200)(hs:St h l5 [dM aD g,dK ba g,dJ cR g,.ae h.size g.cs 27]):I8 g.n l5 h g.n (bs g.nm) g.hr g.hd g.n g.s g.e g.he g.ht role aD g.n ba g.n cR g.n R:=by
 unfold I8;refine⟨⟨by omega,by omega,by omega⟩,hs.aq fun HE E hs=>⟨E.sm,?_⟩⟩;have hs:=hs.perm (List.perm_middle (l₁:=[_,_,_])).symm;exact uE hT hn hs
theorem Bc{g:Gl}{role:Int}{h cR aD ba:Heap}{R:Value->Heap->Prop}(hT:aN g role h R)(hn:1<=g.n/\g.n<=200)(hs:St h cR [dM aD g,dK ba g,.ae h.size g.cs 27]):Cx g.n cR h g.n g.n (bs g.nm) g.hr g.hd g.n g.s g.e g.he g.ht role aD g.n ba g.n R:=by
 unfold Cx;refine⟨⟨by omega,by omega,by omega⟩,hs.aq fun l5 E hs=>⟨E.sm,?_⟩⟩;have hs:=hs.perm (List.perm_middle (l₁:=[_,_])).symm;exact⟨zu hT hn hs,zt hT hn hs⟩
theorem zq{g:Gl}{role:Int}{h tE aD ba cR:Heap}{R:Value->Heap->Prop}(hT:aN g role h R)(hn:1<=g.n/\g.n<=200)(hs:St h tE [dM aD g,dK ba g,dI cR g,.ae h.size g.cs 27]):I6 g.n tE h g.n (bs g.nm) g.hr g.hd g.n g.s g.e g.he g.ht role aD g.n ba g.n cR g.n R:=by
 unfold I6;refine⟨⟨by omega,by omega,by omega⟩,hs.aq fun afF E hs=>⟨E.sm,?_⟩⟩;exact uD hT hn hs
theorem zi{g:Gl}{role:Int}{h tE aD ba cR:Heap}{R:Value->Heap->Prop}(hT:aN g role h R)(hn:1<=g.n/\g.n<=200)(hs:St h tE [dM aD g,dK ba g,dI cR g,.ae h.size g.cs 27]):IV g.n tE h g.n (bs g.nm) g.hr g.hd g.n g.s g.e g.he g.ht role aD g.n ba g.n cR g.n R:=by
 unfold IV;refine⟨⟨by omega,by omega,by omega⟩,hs.aq fun afE E hs=>⟨E.sm,?_⟩⟩;have hs:=hs.perm (List.perm_middle (l₁:=[_,_])).symm;exact uE hT hn hs
theorem Bs{g:Gl}{role:Int}{h cR aD ba:Heap}{R:Value->Heap->Prop}(hT:aN g role h R)(hn:1<=g.n/\g.n<=200)(hs:St h cR [dM aD g,dK ba g,.ae h.size g.cs 27]):CO g.n cR h g.n g.n (bs g.nm) g.hr g.hd g.n g.s g.e g.he g.ht role aD g.n ba g.n R:=by
 unfold CO;refine⟨⟨by omega,by omega,by omega⟩,hs.aq fun tE E hs=>⟨E.sm,?_⟩⟩;have hs:=hs.perm (List.perm_middle (l₁:=[_,_])).symm;exact⟨zq hT hn hs,zi hT hn hs⟩
theorem Br{g:Gl}{role:Int}{h fH aD ba:Heap}{R:Value->Heap->Prop}(hT:aN g role h R)(hn:1<=g.n/\g.n<=200)(hs:St h fH [dM aD g,dJ ba g,.ae h.size g.cs 27]):CN g.n fH h g.n g.n (bs g.nm) g.hr g.hd g.n g.s g.e g.he g.ht role aD g.n ba g.n R:=by
 unfold CN;refine⟨⟨by omega,by omega,by omega⟩,hs.aq fun afD E hs=>⟨E.sm,?_⟩⟩;exact⟨zf hT hn hs,zk hT hn hs⟩
theorem Bb{g:Gl}{role:Int}{h fH aD ba:Heap}{R:Value->Heap->Prop}(hT:aN g role h R)(hn:1<=g.n/\g.n<=200)(hs:St h fH [dM aD g,dJ ba g,.ae h.size g.cs 27]):Cw g.n fH h g.n g.n (bs g.nm) g.hr g.hd g.n g.s g.e g.he g.ht role aD g.n ba g.n R:=by
 unfold Cw;refine⟨⟨by omega,by omega,by omega⟩,hs.aq fun afC E hs=>⟨E.sm,?_⟩⟩;have hs:=hs.perm (List.perm_middle (l₁:=[_])).symm;exact⟨zu hT hn hs,zt hT hn hs⟩
theorem zp{g:Gl}{role:Int}{h tD aD ba fH:Heap}{R:Value->Heap->Prop}(hT:aN g role h R)(hn:1<=g.n/\g.n<=200)(hs:St h tD [dM aD g,dJ ba g,dI fH g,.ae h.size g.cs 27]):I5 g.n tD h g.n (bs g.nm) g.hr g.hd g.n g.s g.e g.he g.ht role aD g.n ba g.n fH g.n R:=by
 unfold I5;refine⟨⟨by omega,by omega,by omega⟩,hs.aq fun afB E hs=>⟨E.sm,?_⟩⟩;exact uC hT hn hs
theorem zh{g:Gl}{role:Int}{h tD aD ba fH:Heap}{R:Value->Heap->Prop}(hT:aN g role h R)(hn:1<=g.n/\g.n<=200)(hs:St h tD [dM aD g,dJ ba g,dI fH g,.ae h.size g.cs 27]):IU g.n tD h g.n (bs g.nm) g.hr g.hd g.n g.s g.e g.he g.ht role aD g.n ba g.n fH g.n R:=by
 unfold IU;refine⟨⟨by omega,by omega,by omega⟩,hs.aq fun afA E hs=>⟨E.sm,?_⟩⟩;have hs:=hs.perm (List.perm_middle (l₁:=[_])).symm;exact uE hT hn hs
theorem Bq{g:Gl}{role:Int}{h fH aD ba:Heap}{R:Value->Heap->Prop}(hT:aN g role h R)(hn:1<=g.n/\g.n<=200)(hs:St h fH [dM aD g,dJ ba g,.ae h.size g.cs 27]):CM g.n fH h g.n g.n (bs g.nm) g.hr g.hd g.n g.s g.e g.he g.ht role aD g.n ba g.n R:=by
 unfold CM;refine⟨⟨by omega,by omega,by omega⟩,hs.aq fun tD E hs=>⟨E.sm,?_⟩⟩;have hs:=hs.perm (List.perm_middle (l₁:=[_,_])).symm;exact⟨zp hT hn hs,zh hT hn hs⟩
theorem Bp{g:Gl}{role:Int}{h l4 aD ba:Heap}{R:Value->Heap->Prop}(hT:aN g role h R)(hn:1<=g.n/\g.n<=200)(hs:St h l4 [dM aD g,dI ba g,.ae h.size g.cs 27]):CK g.n l4 h g.n g.n (bs g.nm) g.hr g.hd g.n g.s g.e g.he g.ht role aD g.n ba g.n R:=by
 unfold CK;refine⟨⟨by omega,by omega,by omega⟩,hs.aq fun afz E hs=>⟨E.sm,?_⟩⟩;exact⟨ze hT hn hs,zd hT hn hs⟩
theorem wS{g:Gl}{role:Int}{h l4 aD ba:Heap}{R:Value->Heap->Prop}(hT:aN g role h R)(hn:1<=g.n/\g.n<=200)(hs:St h l4 [dM aD g,dI ba g,.ae h.size g.cs 27]):vp g.n l4 h g.n g.n (bs g.nm) g.hr g.hd g.n g.s g.e g.he g.ht role aD g.n ba g.n R:=by
 unfold vp;refine⟨⟨by omega,by omega,by omega⟩,hs.aq fun afy E hs=>⟨E.sm,?_⟩⟩;have hs:=hs.perm (List.perm_middle (l₁:=[_])).symm;exact⟨zq hT hn hs,zi hT hn hs⟩
theorem wR{g:Gl}{role:Int}{h l4 aD ba:Heap}{R:Value->Heap->Prop}(hT:aN g role h R)(hn:1<=g.n/\g.n<=200)(hs:St h l4 [dM aD g,dI ba g,.ae h.size g.cs 27]):vo g.n l4 h g.n g.n (bs g.nm) g.hr g.hd g.n g.s g.e g.he g.ht role aD g.n ba g.n R:=by
 unfold vo;refine⟨⟨by omega,by omega,by omega⟩,hs.aq fun afx E hs=>⟨E.sm,?_⟩⟩;have hs:=hs.perm (List.perm_middle (l₁:=[_])).symm;exact⟨zp hT hn hs,zh hT hn hs⟩
theorem Bo{g:Gl}{role:Int}{h fG aD cQ:Heap}{R:Value->Heap->Prop}(hT:aN g role h R)(hn:1<=g.n/\g.n<=200)(hs:St h fG [dK aD g,dJ cQ g,.ae h.size g.cs 27]):CJ g.n fG h g.n g.n (bs g.nm) g.hr g.hd g.n g.s g.e g.he g.ht role aD g.n cQ g.n R:=by
 unfold CJ;refine⟨⟨by omega,by omega,by omega⟩,hs.aq fun afu E hs=>⟨E.sm,?_⟩⟩;exact⟨zz hT hn hs,zy hT hn hs⟩
theorem Bm{g:Gl}{role:Int}{h fG aD cQ:Heap}{R:Value->Heap->Prop}(hT:aN g role h R)(hn:1<=g.n/\g.n<=200)(hs:St h fG [dK aD g,dJ cQ g,.ae h.size g.cs 27]):CI g.n fG h g.n g.n (bs g.nm) g.hr g.hd g.n g.s g.e g.he g.ht role aD g.n cQ g.n R:=by
 unfold CI;refine⟨⟨by omega,by omega,by omega⟩,hs.aq fun aft E hs=>⟨E.sm,?_⟩⟩;exact⟨zu hT hn hs,zt hT hn hs⟩
theorem zo{g:Gl}{role:Int}{h tC aD cQ fG:Heap}{R:Value->Heap->Prop}(hT:aN g role h R)(hn:1<=g.n/\g.n<=200)(hs:St h tC [dK aD g,dJ cQ g,dI fG g,.ae h.size g.cs 27]):I3 g.n tC h g.n (bs g.nm) g.hr g.hd g.n g.s g.e g.he g.ht role aD g.n cQ g.n fG g.n R:=by
 unfold I3;refine⟨⟨by omega,by omega,by omega⟩,hs.aq fun afs E hs=>⟨E.sm,?_⟩⟩;exact uF hT hn hs
theorem zm{g:Gl}{role:Int}{h tC aD cQ fG:Heap}{R:Value->Heap->Prop}(hT:aN g role h R)(hn:1<=g.n/\g.n<=200)(hs:St h tC [dK aD g,dJ cQ g,dI fG g,.ae h.size g.cs 27]):IZ g.n tC h g.n (bs g.nm) g.hr g.hd g.n g.s g.e g.he g.ht role aD g.n cQ g.n fG g.n R:=by
 unfold IZ;refine⟨⟨by omega,by omega,by omega⟩,hs.aq fun afr E hs=>⟨E.sm,?_⟩⟩;exact uE hT hn hs
theorem Bl{g:Gl}{role:Int}{h fG aD cQ:Heap}{R:Value->Heap->Prop}(hT:aN g role h R)(hn:1<=g.n/\g.n<=200)(hs:St h fG [dK aD g,dJ cQ g,.ae h.size g.cs 27]):CH g.n fG h g.n g.n (bs g.nm) g.hr g.hd g.n g.s g.e g.he g.ht role aD g.n cQ g.n R:=by
 unfold CH;refine⟨⟨by omega,by omega,by omega⟩,hs.aq fun tC E hs=>⟨E.sm,?_⟩⟩;have hs:=hs.perm (List.perm_middle (l₁:=[_,_])).symm;exact⟨zo hT hn hs,zm hT hn hs⟩
theorem Bk{g:Gl}{role:Int}{h lZ aD cQ:Heap}{R:Value->Heap->Prop}(hT:aN g role h R)(hn:1<=g.n/\g.n<=200)(hs:St h lZ [dK aD g,dI cQ g,.ae h.size g.cs 27]):CG g.n lZ h g.n g.n (bs g.nm) g.hr g.hd g.n g.s g.e g.he g.ht role aD g.n cQ g.n R:=by
 unfold CG;refine⟨⟨by omega,by omega,by omega⟩,hs.aq fun afq E hs=>⟨E.sm,?_⟩⟩;exact⟨zw hT hn hs,zl hT hn hs⟩
theorem Bj{g:Gl}{role:Int}{h lZ aD cQ:Heap}{R:Value->Heap->Prop}(hT:aN g role h R)(hn:1<=g.n/\g.n<=200)(hs:St h lZ [dK aD g,dI cQ g,.ae h.size g.cs 27]):CF g.n lZ h g.n g.n (bs g.nm) g.hr g.hd g.n g.s g.e g.he g.ht role aD g.n cQ g.n R:=by
 unfold CF;refine⟨⟨by omega,by omega,by omega⟩,hs.aq fun afp E hs=>⟨E.sm,?_⟩⟩;exact⟨zq hT hn hs,zi hT hn hs⟩
theorem wQ{g:Gl}{role:Int}{h lZ aD cQ:Heap}{R:Value->Heap->Prop}(hT:aN g role h R)(hn:1<=g.n/\g.n<=200)(hs:St h lZ [dK aD g,dI cQ g,.ae h.size g.cs 27]):vm g.n lZ h g.n g.n (bs g.nm) g.hr g.hd g.n g.s g.e g.he g.ht role aD g.n cQ g.n R:=by
 unfold vm;refine⟨⟨by omega,by omega,by omega⟩,hs.aq fun afo E hs=>⟨E.sm,?_⟩⟩;have hs:=hs.perm (List.perm_middle (l₁:=[_])).symm;exact⟨zo hT hn hs,zm hT hn hs⟩
theorem BB{g:Gl}{role:Int}{h iq aD lY:Heap}{R:Value->Heap->Prop}(hT:aN g role h R)(hn:1<=g.n/\g.n<=200)(hs:St h iq [dJ aD g,dI lY g,.ae h.size g.cs 27]):CW g.n iq h g.n g.n (bs g.nm) g.hr g.hd g.n g.s g.e g.he g.ht role aD g.n lY g.n R:=by
 unfold CW;refine⟨⟨by omega,by omega,by omega⟩,hs.aq fun aer E hs=>⟨E.sm,?_⟩⟩;exact⟨zv hT hn hs,zj hT hn hs⟩
theorem BA{g:Gl}{role:Int}{h iq aD lY:Heap}{R:Value->Heap->Prop}(hT:aN g role h R)(hn:1<=g.n/\g.n<=200)(hs:St h iq [dJ aD g,dI lY g,.ae h.size g.cs 27]):CV g.n iq h g.n g.n (bs g.nm) g.hr g.hd g.n g.s g.e g.he g.ht role aD g.n lY g.n R:=by
 unfold CV;refine⟨⟨by omega,by omega,by omega⟩,hs.aq fun aeo E hs=>⟨E.sm,?_⟩⟩;exact⟨zp hT hn hs,zh hT hn hs⟩
theorem Bu{g:Gl}{role:Int}{h iq aD lY:Heap}{R:Value->Heap->Prop}(hT:aN g role h R)(hn:1<=g.n/\g.n<=200)(hs:St h iq [dJ aD g,dI lY g,.ae h.size g.cs 27]):CQ g.n iq h g.n g.n (bs g.nm) g.hr g.hd g.n g.s g.e g.he g.ht role aD g.n lY g.n R:=by
 unfold CQ;refine⟨⟨by omega,by omega,by omega⟩,hs.aq fun aem E hs=>⟨E.sm,?_⟩⟩;exact⟨zo hT hn hs,zm hT hn hs⟩
theorem K6{g:Gl}{role:Int}{h aD:Heap}{R:Value->Heap->Prop}(hT:aN g role h R)(hn:1<=g.n/\g.n<=200)(hs:St h aD [.ae h.size g.cs 27]):Ji g.n aD h g.n g.n g.n g.n (bs g.nm) g.hr g.hd g.n g.s g.e g.he g.ht role R:=by
 unfold Ji;refine⟨⟨by omega,by omega,by omega⟩,hs.aq fun bL E hs=>⟨E.sm,?_,?_,?_,?_⟩⟩
 .refine⟨⟨by omega,by omega,by omega⟩,hs.aq fun fQ E hs=>⟨E.sm,?_⟩⟩;have hs:=hs.perm (List.perm_middle (l₁:=[_])).symm;exact⟨wO hT hn hs,wP hT hn hs,Bd hT hn hs⟩
 .refine⟨⟨by omega,by omega,by omega⟩,hs.aq fun fe E hs=>⟨E.sm,?_⟩⟩;have hs:=hs.perm (List.perm_middle (l₁:=[_])).symm;exact⟨Bf hT hn hs,Be hT hn hs,Bv hT hn hs⟩
 .refine⟨⟨by omega,by omega,by omega⟩,hs.aq fun fI E hs=>⟨E.sm,?_⟩⟩;have hs:=hs.perm (List.perm_middle (l₁:=[_])).symm;exact⟨Bz hT hn hs,Bi hT hn hs,Bx hT hn hs⟩
 .refine⟨⟨by omega,by omega,by omega⟩,hs.aq fun l6 E hs=>⟨E.sm,?_⟩⟩;have hs:=hs.perm (List.perm_middle (l₁:=[_])).symm;exact⟨Bw hT hn hs,Bh hT hn hs,Bg hT hn hs⟩
theorem K5{g:Gl}{role:Int}{h aD:Heap}{R:Value->Heap->Prop}(hT:aN g role h R)(hn:1<=g.n/\g.n<=200)(hs:St h aD [.ae h.size g.cs 27]):Jh g.n aD h g.n g.n g.n g.n (bs g.nm) g.hr g.hd g.n g.s g.e g.he g.ht role R:=by
 unfold Jh;refine⟨⟨by omega,by omega,by omega⟩,hs.aq fun ba E hs=>⟨E.sm,?_,?_,?_,?_⟩⟩
 .refine⟨⟨by omega,by omega,by omega⟩,hs.aq fun afJ E hs=>⟨E.sm,?_⟩⟩;exact⟨wO hT hn hs,wP hT hn hs,Bd hT hn hs⟩
 .refine⟨⟨by omega,by omega,by omega⟩,hs.aq fun cR E hs=>⟨E.sm,?_⟩⟩;have hs:=hs.perm (List.perm_middle (l₁:=[_])).symm;exact⟨Bt hT hn hs,Bc hT hn hs,Bs hT hn hs⟩
 .refine⟨⟨by omega,by omega,by omega⟩,hs.aq fun fH E hs=>⟨E.sm,?_⟩⟩;have hs:=hs.perm (List.perm_middle (l₁:=[_])).symm;exact⟨Br hT hn hs,Bb hT hn hs,Bq hT hn hs⟩
 .refine⟨⟨by omega,by omega,by omega⟩,hs.aq fun l4 E hs=>⟨E.sm,?_⟩⟩;have hs:=hs.perm (List.perm_middle (l₁:=[_])).symm;exact⟨Bp hT hn hs,wS hT hn hs,wR hT hn hs⟩
theorem K4{g:Gl}{role:Int}{h aD:Heap}{R:Value->Heap->Prop}(hT:aN g role h R)(hn:1<=g.n/\g.n<=200)(hs:St h aD [.ae h.size g.cs 27]):Jg g.n aD h g.n g.n g.n g.n (bs g.nm) g.hr g.hd g.n g.s g.e g.he g.ht role R:=by
 unfold Jg;refine⟨⟨by omega,by omega,by omega⟩,hs.aq fun cQ E hs=>⟨E.sm,?_,?_,?_,?_⟩⟩
 .refine⟨⟨by omega,by omega,by omega⟩,hs.aq fun afw E hs=>⟨E.sm,?_⟩⟩;exact⟨Bf hT hn hs,Be hT hn hs,Bv hT hn hs⟩
 .refine⟨⟨by omega,by omega,by omega⟩,hs.aq fun afv E hs=>⟨E.sm,?_⟩⟩;exact⟨Bt hT hn hs,Bc hT hn hs,Bs hT hn hs⟩
 .refine⟨⟨by omega,by omega,by omega⟩,hs.aq fun fG E hs=>⟨E.sm,?_⟩⟩;have hs:=hs.perm (List.perm_middle (l₁:=[_])).symm;exact⟨Bo hT hn hs,Bm hT hn hs,Bl hT hn hs⟩
 .refine⟨⟨by omega,by omega,by omega⟩,hs.aq fun lZ E hs=>⟨E.sm,?_⟩⟩;have hs:=hs.perm (List.perm_middle (l₁:=[_])).symm;exact⟨Bk hT hn hs,Bj hT hn hs,wQ hT hn hs⟩
theorem K3{g:Gl}{role:Int}{h aD:Heap}{R:Value->Heap->Prop}(hT:aN g role h R)(hn:1<=g.n/\g.n<=200)(hs:St h aD [.ae h.size g.cs 27]):Jf g.n aD h g.n g.n g.n g.n (bs g.nm) g.hr g.hd g.n g.s g.e g.he g.ht role R:=by
 unfold Jf;refine⟨⟨by omega,by omega,by omega⟩,hs.aq fun lY E hs=>⟨E.sm,?_,?_,?_,?_⟩⟩
 .refine⟨⟨by omega,by omega,by omega⟩,hs.aq fun afn E hs=>⟨E.sm,?_⟩⟩;exact⟨Bz hT hn hs,Bi hT hn hs,Bx hT hn hs⟩
 .refine⟨⟨by omega,by omega,by omega⟩,hs.aq fun aeu E hs=>⟨E.sm,?_⟩⟩;exact⟨Br hT hn hs,Bb hT hn hs,Bq hT hn hs⟩
 .refine⟨⟨by omega,by omega,by omega⟩,hs.aq fun aet E hs=>⟨E.sm,?_⟩⟩;exact⟨Bo hT hn hs,Bm hT hn hs,Bl hT hn hs⟩
 .refine⟨⟨by omega,by omega,by omega⟩,hs.aq fun iq E hs=>⟨E.sm,?_⟩⟩;have hs:=hs.perm (List.perm_middle (l₁:=[_])).symm;exact⟨BB hT hn hs,BA hT hn hs,Bu hT hn hs⟩
theorem KZ{g:Gl}{role:Int}{h aD:Heap}{R:Value->Heap->Prop}(hT:aN g role h R)(hn:1<=g.n/\g.n<=200)(hs:St h aD [.ae h.size g.cs 27]):Je g.n aD h g.n g.n g.n g.n (bs g.nm) g.hr g.hd g.n g.s g.e g.he g.ht role R:=by
 unfold Je;refine⟨⟨by omega,by omega,by omega⟩,hs.aq fun aek E hs=>⟨E.sm,?_,?_,?_,?_⟩⟩
 .refine⟨⟨by omega,by omega,by omega⟩,hs.aq fun aej E hs=>⟨E.sm,?_⟩⟩;exact⟨Bw hT hn hs,Bh hT hn hs,Bg hT hn hs⟩
 .refine⟨⟨by omega,by omega,by omega⟩,hs.aq fun aeh E hs=>⟨E.sm,?_⟩⟩;exact⟨Bp hT hn hs,wS hT hn hs,wR hT hn hs⟩
 .refine⟨⟨by omega,by omega,by omega⟩,hs.aq fun aee E hs=>⟨E.sm,?_⟩⟩;exact⟨Bk hT hn hs,Bj hT hn hs,wQ hT hn hs⟩
 .refine⟨⟨by omega,by omega,by omega⟩,hs.aq fun aec E hs=>⟨E.sm,?_⟩⟩;exact⟨BB hT hn hs,BA hT hn hs,Bu hT hn hs⟩
theorem St.km{h0 h:Heap}{L:List It}(hs:St h0 h L)(k:Nat){b:Nat}{xs:List Value}{e:TypeId}(hk:L[k]?=some (.ae b xs e))(m n:Nat)(rows:List (List Value))(hx:xs=rows.flatten)(hr:∀r∈rows,r.length=n)(hl:rows.length=m)(hm:m<=maxLen):St h0 h (L.set k (.sl ⟨some ⟨b,0,none⟩,m,m⟩ e n rows)):=by
 have hp:L.Perm (.ae b xs e::L.eraseIdx k):=by
  obtain⟨A,B,rfl,rfl⟩:=p8 hk;rw[List.eraseIdx_append_of_length_le (bc _),Nat.sub_self];exact List.perm_middle
 have h1:=(hs.perm hp).dG m n rows hx hr hl hm;refine h1.perm ?_;obtain⟨A,B,rfl,rfl⟩:=p8 hk;rw[List.eraseIdx_append_of_length_le (bc _),Nat.sub_self,List.set_append_right _ _ (bc _),Nat.sub_self];exact List.perm_middle.symm
theorem BH(n:Nat):ai Pz 102 n=((List.replicate n (⟨none,0,0⟩:Sl)).map eD).flatten:=by
 have e:bV Pz 102=[.slice none 0 0]:=by kernel_rfl
 unfold ai;rw[e,List.map_replicate];rfl
theorem GY(n:Nat):ai Pz 274 n=((List.replicate n (⟨none,0,0⟩:Sl)).map eD).flatten:=by
 have e:bV Pz 274=[.slice none 0 0]:=by kernel_rfl
 unfold ai;rw[e,List.map_replicate];rfl
def X4:Ev:=⟨false,0,0⟩
def Ff:Lm:=⟨0,X4⟩
theorem GZ(n:Nat):ai Pz 192 n=((List.replicate n Ff).map Lm.cs).flatten:=by
 have e:bV Pz 192=Lm.cs Ff:=by kernel_rfl
 unfold ai;rw[e,List.map_replicate]
theorem RC:cC Pz 184 195 2 32=true:=by kernel_rfl
theorem Rz:cC Pz 274 276 4 32=true:=by kernel_rfl
abbrev C9:=Sl × List Int
abbrev tY:=Sl × List fT
def N5(f:Fs):It:=.sl f.s 188 3 (f.l.map Ev.cs)
def RS(g:Gl)(role:Int)(ho cn cc bt cj cF:Sl):List Value:=g.cs++[.int .i64 role,.slice ho.a ho.n ho.c,.slice cn.a cn.n cn.c,.slice cc.a cc.n cc.c,.slice bt.a bt.n bt.c,.slice cj.a cj.n cj.c,.slice cF.a cF.n cF.c]
def r5(ab gb:Nat)(g:Gl)(role:Int)(ho cn cc bt cj cF:Sl)(OU:List C9)(FI:List Fs)(LI:List Lm)(AG OW:List Bool)(AR:List tY):List It:=
 [.ae ab (RS g role ho cn cc bt cj cF) 186,.sl ho 102 1 ((OU.map Prod.fst).map eD),.sl cn 195 2 (FI.map Fs.cs),.sl cc 192 4 (LI.map Lm.cs),.sl bt 4 1 (AG.map bC),.sl cj 4 1 (OW.map bC),.sl cF 274 1 ((AR.map Prod.fst).map eD),.ae gb g.cs 27]++OU.map (nest 3 1 aO)++(FI.map N5++AR.map (nest 276 4 fT.cs))
def tg(g:Gl)(role:Int)(t:To):Lm:=⟨t.k,(aW role (eA g.es t.e.toNat)).getD X4⟩
def cy(g:Gl)(role:Int)(ts:List To)(s:Nat):Lm:=ts.foldl (fun b t=>if t.s=(s:Int) then tg g role t else b) Ff
def dW(es:List Ed)(s:Nat):Bool:=es.any fun x=>decide (x.f=(s:Int))&&x.ag
def dR(es:List Ed)(role:Int)(s:Nat):Bool:=es.any fun x=>decide (x.f=(s:Int))&&decide (x.a=role)
def oP(es:List Ed)(j s:Nat):List Nat:=(List.range j).filter (cH es (s:Int))
theorem ng{es:List Ed}{j:Nat}{x:Ed}(hx:es[j]?=some x)(s:Nat):oP es (j+1) s=oP es j s++(if x.f=(s:Int) then [j] else []):=by
 unfold oP;rw[List.range_succ,List.filter_append];congr 1;have hp:cH es (s:Int) j=decide (x.f=(s:Int)):=by unfold cH;rw[hx]
 by_cases e:x.f=(s:Int)
 .rw[if_pos e,List.filter_cons_of_pos (by rw[hp];exact decide_eq_true e)];rfl
 .rw[if_neg e,List.filter_cons_of_neg (by rw[hp,decide_eq_false e];simp)];rfl
theorem yc{α:Type}{l:List α}{j:Nat}{x:α}(hx:l[j]?=some x)(p:α->Bool):(l.take (j+1)).any p=((l.take j).any p||p x):=by
 rw[ak hx,List.any_append];simp
theorem cN{α:Type}{n:Nat}{f f':Nat->α}{k:Nat}{y:α}(hk:k<n)(h1:f' k=y)(h2:∀s,s≠k->f' s=f s):((List.range n).map f).set k y=(List.range n).map f':=by
 apply yL;intro s;by_cases hs:s<n
 .by_cases e:k=s
  .subst e;rw[Yq (by rw[Yc,kV];exact hs),Yd,yi hs,<-h1];rfl
  .rw[Yy e,Yd,Yd,yi hs];show some (f s)=some (f' s);rw[h2 s (fun h=>e h.symm)]
 .rw[Yl (by rw[jR,Yc,kV];omega),Yl (by rw[Yc,kV];omega)]
theorem dH{α:Type}{n:Nat}(f:Nat->α){s:Nat}(hs:s<n):((List.range n).map f)[s]?=some (f s):=by rw[Yd,yi hs];rfl
theorem nc{es:List Ed}{j:Nat}{x:Ed}(hx:es[j]?=some x)(role:Int)(s:Nat):dR (es.take (j+1)) role s=(dR (es.take j) role s||(decide (x.f=(s:Int))&&decide (x.a=role))):=by unfold dR;rw[yc hx]
theorem nL{es:List Ed}{j:Nat}{x:Ed}(hx:es[j]?=some x)(s:Nat):dW (es.take (j+1)) s=(dW (es.take j) s||(decide (x.f=(s:Int))&&x.ag)):=by unfold dW;rw[yc hx]
theorem OT{h0 J3 yJ nD:Heap}{m44:Nat}{I:Int->Heap->Nat->Prop}{y:Int}{g:Gl}{role:Int}{ho cn cc bt cj cF:Sl}{OU:List C9}{FI:List Fs}{LI:List Lm}{AG:List Bool}{AR:List tY}{gb j n:Nat}{x:Ed}(hx:g.es[j]?=some x)(sz:0<=x.f)(hf1:x.f.toNat<n)
  (hs:St h0 J3 (.ae nD.size x.cs 67::r5 yJ.size gb g role ho cn cc bt cj cF OU FI LI AG ((List.range n).map (dR (g.es.take j) role)) AR))
  (hI:∀h':Heap,St h0 h' (r5 yJ.size gb g role ho cn cc bt cj cF OU FI LI AG ((List.range n).map (dR (g.es.take (j+1)) role)) AR)->∃m,m<m44/\I (IntKind.wrap .i64 (y+1)) h' m) :
  yj J3 yJ nD m44 I y role:=by
 unfold yj;have hwn:=(hs.len 6 (s:=cj) (e:=4) (n:=1) (rows:=((List.range n).map (dR (g.es.take j) role)).map bC) rfl (by omega)).1;rw[Yc,Yc,kV] at hwn;have BZ:((x.f.toNat:Nat):Int)=x.f:=Int.toNat_of_nonneg sz;have fin:∀(v:Bool),v=dR (g.es.take (j+1)) role x.f.toNat->((List.range n).map (dR (g.es.take j) role)).set x.f.toNat v=(List.range n).map (dR (g.es.take (j+1)) role):=fun v hv=>cN hf1 hv.symm fun s bI=>by
  rw[nc hx,decide_eq_false (by omega)];simp
 refine⟨cj,hs.rd 1 rfl (i:=13) rfl,x.f,hs.rd 0 rfl (i:=0) rfl,cj,hs.rd 1 rfl (i:=13) rfl,x.f,hs.rd 0 rfl (i:=0) rfl,?_⟩;refine (hs.rows 6 rfl (by omega)).aA (by omega) (by omega) fun b84 o85 d gd t=>?_;rw[dH _ hf1] at gd;cases gd;refine⟨_,t.hd,aa (fun c=>?_) (fun c=>?_)⟩
 .refine hs.set 6 rfl (by omega) (x:=x.f) (by omega) (by omega) true rfl rfl (fun b87 o88 Ca hs=>hI Ca ?_) rfl;rw[fin true (by rw[nc hx,c];rfl)] at hs;exact hs.drop 1
 .refine⟨x.a,hs.rd 0 rfl (i:=1) rfl,?_⟩;refine hs.set 6 rfl (by omega) (x:=x.f) (by omega) (by omega) (x.a==role) rfl rfl (fun b92 o93 h94 hs=>hI h94 ?_) rfl;rw[fin (x.a==role) (by rw[nc hx,c,BZ,decide_eq_true rfl,Bool.false_or,Bool.true_and];exact (Bool.eq_iff_iff.2 (by simp)))] at hs;exact hs.drop 1
theorem Iy{h0 h:Heap}{ab gb:Nat}{g:Gl}{role:Int}{ho cn cc bt cj cF:Sl}{OU:List C9}{FI:List Fs}{LI:List Lm}{AG OW:List Bool}{AR:List tY}{R:List It}(hs:St h0 h (r5 ab gb g role ho cn cc bt cj cF OU FI LI AG OW AR++R))(hg:GI h0 g)(hO:OU.map Prod.snd=(List.range g.n.toNat).map fun s=>aw (ah g.es (s:Nat))):
  Kb h ab g role ho (fun i=>((OU[i]?).map Prod.fst).getD ⟨none,0,0⟩):=by
 have NX:OU.length=g.n.toNat:=by have:=congrArg List.length hO;simpa using this
 refine⟨hs.at 0 rfl (o:=0) (n:=10) rfl,hg.ext hs.ext,?_,fun i hi=>?_⟩
 .have h1:=hs.rw 1 (s:=ho) (e:=102) (n:=1) (rows:=(OU.map Prod.fst).map eD) rfl (by omega);have e:(OU.map Prod.fst).map eD=(List.range g.n.toNat).map fun i=>eD (((OU[i]?).map Prod.fst).getD ⟨none,0,0⟩):=by
   apply yL;intro i;rw[Yd,Yd,Yd];by_cases hi:i<g.n.toNat
   .obtain⟨q,hq⟩:=get_some (l:=OU) (i:=i) (by omega);rw[hq,yi hi,Option.map_some,Option.map_some,Option.map_some,hq];rfl
   .rw[Yl (by omega),Yl (by rw[kV];omega)];rfl
  rw[e] at h1;exact h1
 .obtain⟨q,hq⟩:=get_some (l:=OU) (i:=i) (by omega);have h1:=aR hO hi;rw[Yd,hq] at h1;have h2:q.2=aw (ah g.es (i:Nat)):=fL h1;show Rw h 1 ((Option.map Prod.fst OU[i]?).getD ⟨none,0,0⟩) _;rw[hq,<-h2];refine hs.mD (e:=3) ?_ (by omega);unfold r5;refine List.mem_append_left _ (List.mem_append_left _ (List.mem_append_right _ (Yp.2 ⟨q,Yb hq,rfl⟩)))
def vA(g:Gl)(role:Int)(OU:List C9)(FI:List Fs)(LI:List Lm)(AG OW:List Bool):Prop:=
 OU.map Prod.snd=((List.range g.n.toNat).map fun s=>aw (ah g.es (s:Nat)))/\FI.map (fun f=>(f.l,f.b))=((List.range g.n.toNat).map fun s=>(ay g role (s:Nat),bQ g role (s:Nat)))/\LI=(List.range g.n.toNat).map (cy g role g.ts)/\AG=(List.range g.n.toNat).map (dW g.es)/\OW=(List.range g.n.toNat).map (dR g.es role)
abbrev au:Sl:=⟨none,0,0⟩
theorem Gr(es:List Ed)(j s:Nat):(oP es j s).length<=j:=mw (List.length_filter_le _ _) (by rw[kV];exact bc _)
theorem y9(l:List Nat)(j:Nat):aw (l++[j])=aw l++[(j:Int)]:=by unfold aw;rw[Ym];rfl
theorem Kn{g:Gl}{role:Int}{h:Heap}{R:Value->Heap->Prop}(hg:GI h g)(hV:af g)
  (hK:∀(ab:Nat) (ho cn cc bt cj cF:Sl) (OU:List C9) (FI:List Fs) (LI:List Lm) (AG OW:List Bool) (h':Heap),St h h' (r5 ab h.size g role ho cn cc bt cj cF OU FI LI AG OW (List.replicate g.n.toNat (au,[])))->vA g role OU FI LI AG OW->R (.tuple ⟨[.pointer (some ⟨ab,0,none⟩),.int .i64 0]⟩) h') :
  aN g role h R:=by
 intro hF a b c d e hs;unfold Ay;have hN:=hV.num.n;have hM:=hV.num.m;have hE:=hV.num.e;have ke:=hg.e.ln;have SO:=hg.t.ln;have Pn:=hg.t.sm;have yC:g.n.toNat<=9223372036854775807:=by omega
 refine hs.aj fun sC hs=>?_;have hs:=hs.km 1 rfl g.n.toNat 1 ((List.replicate g.n.toNat au).map eD) (BH _) (fun r hr=>by obtain⟨x,_,rfl⟩:=Yp.1 hr;rfl) (by rw[Yc,Yg]) yC;have hs:=hs.km 2 rfl g.n.toNat 4 ((List.replicate g.n.toNat Ff).map Lm.cs) (GZ _) (fun r hr=>by obtain⟨x,_,rfl⟩:=Yp.1 hr;rfl) (by rw[Yc,Yg]) yC;have hs:=hs.km 3 rfl g.n.toNat 1 ((List.replicate g.n.toNat false).map bC) (GV _) (fun r hr=>by obtain⟨x,_,rfl⟩:=Yp.1 hr;rfl) (by rw[Yc,Yg]) yC;have hs:=hs.km 4 rfl g.n.toNat 1 ((List.replicate g.n.toNat false).map bC) (GV _) (fun r hr=>by obtain⟨x,_,rfl⟩:=Yp.1 hr;rfl) (by rw[Yc,Yg]) yC;have hs:=hs.km 5 rfl g.n.toNat 1 ((List.replicate g.n.toNat au).map eD) (GY _) (fun r hr=>by obtain⟨x,_,rfl⟩:=Yp.1 hr;rfl) (by rw[Yc,Yg]) yC;have hs:=(hs.bH 195 2).perm (List.perm_middle (l₁:=[_,_])).symm;have hs:=hs.qF (α:=fT) (e:=276) (k:=4) (cs:=fT.cs) (A:=[_,_,_,_,_,_,_,_]) (B:=[]) g.n.toNat;rw[Yw] at hs;have hs:=hs.qF (α:=Int) (e:=3) (k:=1) (cs:=aO) (A:=[_,_,_,_,_,_,_,_]) (B:=_) g.n.toNat;generalize hho:(⟨some ⟨a.size,0,none⟩,g.n.toNat,g.n.toNat⟩:Sl)=ho at *;generalize hhl:(⟨some ⟨b.size,0,none⟩,g.n.toNat,g.n.toNat⟩:Sl)=cc at *;generalize hha:(⟨some ⟨c.size,0,none⟩,g.n.toNat,g.n.toNat⟩:Sl)=bt at *;generalize hhw:(⟨some ⟨d.size,0,none⟩,g.n.toNat,g.n.toNat⟩:Sl)=cj at *;generalize hhr:(⟨some ⟨e.size,0,none⟩,g.n.toNat,g.n.toNat⟩:Sl)=cF at *;have hs:St h sC (r5 hF.size h.size g role ho au cc bt cj cF (List.replicate g.n.toNat (au,[])) [] (List.replicate g.n.toNat Ff) (List.replicate g.n.toNat false) (List.replicate g.n.toNat false) (List.replicate g.n.toNat (au,[]))):=by
  subst hho hhl hha hhw hhr;unfold r5;rw[List.map_replicate (f:=Prod.fst),List.map_replicate (f:=Prod.fst)];exact hs
 clear hho hhl hha hhw hhr;refine⟨g.he,hs.rd 7 rfl (i:=6) rfl,?_⟩;have rr:∀ {α:Type} (f:Nat->α) (z:α),(∀s,f s=z)->List.replicate g.n.toNat z=(List.range g.n.toNat).map f:=fun {α} f z hz=>by
  apply yL;intro s;rw[List.getElem?_replicate];by_cases iA:s<g.n.toNat
  .rw[if_pos iA,dH f iA,hz]
  .rw[if_neg iA,Yl (by rw[Yc,kV];omega)]
 refine⟨fun x h' μ=>∃(j:Nat) (OU:List C9),x=(j:Int)/\μ=g.es.length-j/\j<=g.es.length/\OU.map Prod.snd=((List.range g.n.toNat).map fun s=>aw (oP g.es j s)) /\
  St h h' (r5 hF.size h.size g role ho au cc bt cj cF OU [] (List.replicate g.n.toNat Ff) ((List.range g.n.toNat).map (dW (g.es.take j))) ((List.range g.n.toNat).map (dR (g.es.take j) role)) (List.replicate g.n.toNat (au,[]))),
  ⟨_,0,List.replicate g.n.toNat (au,[]),rfl,rfl,by omega,?_,?_⟩,?_⟩
 .rw[List.map_replicate];exact rr _ _ fun s=>rfl
 .rw[<-rr (dW (g.es.take 0)) false fun s=>rfl,<-rr (dR (g.es.take 0) role) false fun s=>rfl];exact hs
 clear hs;rintro-_ nD μ ⟨j,OU,rfl,rfl,hj,hOU,hs⟩;have NX:OU.length=g.n.toNat:=by have:=congrArg List.length hOU;simpa using this
 refine aM (fun c1=>?_) (fun c1=>?_)
 .refine (hg.e.rw.ext hs.ext).aA (by omega) (by omega) fun b47 o48 x gx t=>?_;replace gx:g.es[j]?=some x:=gx;have kK:=hE x (Yb gx);unfold gV at kK;have D8:((x.f.toNat:Nat):Int)=x.f:=by omega
  have BN:x.f.toNat<g.n.toNat:=by omega
  obtain⟨q,hq⟩:=get_some (l:=OU) (i:=x.f.toNat) (by omega);refine⟨_,_,_,_,_,_,t,?_⟩;refine hs.ao (vs:=x.cs) rfl rfl fun kM hs=>?_;refine⟨ho,hs.rd 1 rfl (i:=9) rfl,x.f,hs.rd 0 rfl (i:=0) rfl,ho,hs.rd 1 rfl (i:=9) rfl,x.f,hs.rd 0 rfl (i:=0) rfl,?_⟩;have zP:=(hs.len 2 (s:=ho) (e:=102) (n:=1) (rows:=(OU.map Prod.fst).map eD) rfl (by omega)).1;rw[Yc,Yc] at zP;refine (hs.rows 2 rfl (by omega)).aA (by omega) (by omega) fun b61 o62 d gd u=>?_;rw[Yd,hq] at gd;cases gd;refine⟨q.1,u.hd,?_⟩;refine hs.aq fun J4 E64 hs=>⟨E64.sm,?_⟩;have fY:q.2=aw (oP g.es j x.f.toNat):=by
   have h1:=aR hOU BN;rw[Yd,hq] at h1;exact fL h1
  have uO:q.2.length<=400:=by rw[fY];unfold aw;rw[Yc];have:=Gr g.es j x.f.toNat;omega
  have hs:St h J4 ((.ae kM.size (aO (j:Int)) 3 :: .ae nD.size x.cs 67::[.ae hF.size (RS g role ho au cc bt cj cF) 186,.sl ho 102 1 ((OU.map Prod.fst).map eD),.sl au 195 2 (([]:List Fs).map Fs.cs),.sl cc 192 4 ((List.replicate g.n.toNat Ff).map Lm.cs),.sl bt 4 1 (((List.range g.n.toNat).map (dW (g.es.take j))).map bC),.sl cj 4 1 (((List.range g.n.toNat).map (dR (g.es.take j) role)).map bC),.sl cF 274 1 (((List.replicate g.n.toNat ((au,[]):tY)).map Prod.fst).map eD),.ae h.size g.cs 27])++OU.map (nest 3 1 aO)++(([]:List Fs).map N5++(List.replicate g.n.toNat ((au,[]):tY)).map (nest 276 4 fT.cs))):=hs;have nz:=(hs.kF hq (by omega)).ln;refine hs.nj hq dv (j:Int) (hs.at 0 rfl (o:=0) (n:=1) rfl) rfl rfl (by omega) (by simp only[maxLen];omega) fun r xz hr fN=>?_;refine⟨fV (hs.same fN 1 1 rfl rfl) (fV (hs.same fN 2 2 rfl rfl) kv),?_⟩;refine fN.set 3 rfl (by omega) (x:=x.f) (by omega) (by omega) r rfl rfl (fun b67 o68 Qe hs=>?_) rfl;replace hs:=hs.drop 1;have hs:St h Qe (.ae nD.size x.cs 67::r5 hF.size h.size g role ho au cc bt cj cF (OU.set x.f.toNat (r,q.2++[(j:Int)])) [] (List.replicate g.n.toNat Ff) ((List.range g.n.toNat).map (dW (g.es.take j))) ((List.range g.n.toNat).map (dR (g.es.take j) role)) (List.replicate g.n.toNat (au,[]))):=by
   unfold r5;rw[List.map_set (f:=Prod.fst)];exact hs
  have adB:(OU.set x.f.toNat (r,q.2++[(j:Int)])).map Prod.snd=((List.range g.n.toNat).map fun s=>aw (oP g.es (j+1) s)):=by
   rw[List.map_set,hOU];refine cN BN ?_ fun s hs=>?_
   .show aw (oP g.es (j+1) x.f.toNat)=q.2++[(j:Int)];rw[ng gx,if_pos D8.symm,y9,fY]
   .show aw (oP g.es (j+1) s)=aw (oP g.es j s);rw[ng gx,if_neg (by omega),Yw]
  generalize OU.set x.f.toNat (r,q.2++[(j:Int)])=OU' at *;have adu:=(hs.len 5 (s:=bt) (e:=4) (n:=1) (rows:=((List.range g.n.toNat).map (dW (g.es.take j))).map bC) rfl (by omega)).1;rw[Yc,Yc,kV] at adu;have fin:∀(v:Bool),v=dW (g.es.take (j+1)) x.f.toNat->((List.range g.n.toNat).map (dW (g.es.take j))).set x.f.toNat v=(List.range g.n.toNat).map (dW (g.es.take (j+1))):=fun v hv=>cN BN hv.symm fun s bI=>by
   rw[nL gx,decide_eq_false (by omega)];simp
  refine⟨bt,hs.rd 1 rfl (i:=12) rfl,x.f,hs.rd 0 rfl (i:=0) rfl,bt,hs.rd 1 rfl (i:=12) rfl,x.f,hs.rd 0 rfl (i:=0) rfl,?_⟩;refine (hs.rows 5 rfl (by omega)).aA (by omega) (by omega) fun b74 o75 d gd u2=>?_;rw[dH _ BN] at gd;cases gd;have last:∀ {hZ:Heap},St h hZ (.ae nD.size x.cs 67::r5 hF.size h.size g role ho au cc bt cj cF OU' [] (List.replicate g.n.toNat Ff) ((List.range g.n.toNat).map (dW (g.es.take (j+1)))) ((List.range g.n.toNat).map (dR (g.es.take j) role)) (List.replicate g.n.toNat (au,[]))) ->
    yj hZ hF nD (g.es.length-j) (fun x h' μ=>∃(j:Nat) (OU:List C9),x=(j:Int)/\μ=g.es.length-j/\j<=g.es.length/\OU.map Prod.snd=((List.range g.n.toNat).map fun s=>aw (oP g.es j s))/\St h h' (r5 hF.size h.size g role ho au cc bt cj cF OU [] (List.replicate g.n.toNat Ff) ((List.range g.n.toNat).map (dW (g.es.take j))) ((List.range g.n.toNat).map (dR (g.es.take j) role)) (List.replicate g.n.toNat (au,[])))) j role:=fun {hZ} hs=>by
   refine OT gx (by omega) BN hs fun h' bI=>⟨_,?_,j+1,OU',by rw[a7 (by omega) (by omega)];omega,rfl,by omega,adB,bI⟩;omega
  refine⟨_,u2.hd,aa (fun c2=>?_) (fun c2=>?_)⟩
  .refine hs.set 5 rfl (by omega) (x:=x.f) (by omega) (by omega) true rfl rfl (fun b77 o78 J3 hs=>last ?_) rfl;rw[fin true (by rw[nL gx,c2];rfl)] at hs;exact hs
  .refine⟨x.ag,hs.rd 0 rfl (i:=5) rfl,?_⟩;refine hs.set 5 rfl (by omega) (x:=x.f) (by omega) (by omega) x.ag rfl rfl (fun b97 o98 Xo hs=>last ?_) rfl;rw[fin x.ag (by rw[nL gx,c2,D8,decide_eq_true rfl,Bool.false_or,Bool.true_and])] at hs;exact hs
 .have LH:j=g.es.length:=by omega
  subst LH;rw[vM] at hs;refine⟨g.ht,hs.rd 7 rfl (i:=7) rfl,?_⟩;refine⟨fun x h' μ=>∃j:Nat,x=(j:Int)/\μ=g.ht.n-j/\j<=g.ht.n/\St h h' (r5 hF.size h.size g role ho au cc bt cj cF OU [] ((List.range g.n.toNat).map (cy g role (g.ts.take j))) ((List.range g.n.toNat).map (dW g.es)) ((List.range g.n.toNat).map (dR g.es role)) (List.replicate g.n.toNat (au,[]))),⟨_,0,rfl,rfl,by omega,?_⟩,?_⟩
  .rw[<-rr (cy g role (g.ts.take 0)) Ff fun s=>rfl];exact hs
  clear hs c1;rintro-_ uX μ ⟨k,rfl,rfl,hk,hs⟩;refine aM (fun c2=>?_) (fun c2=>?_)
  .refine (hg.t.rw.ext hs.ext).aA (by omega) (by omega) fun aiu agt t gt u=>?_;replace gt:g.ts[k]?=some t:=gt;have htS:=hV.Sw k t gt;obtain⟨JY,x,hx,D8,_⟩:=htS.e;have BN:=(Ya.1 hx).1;have kK:=hE x (Yb hx);unfold gV at kK;have hts:t.s.toNat<g.n.toNat:=by omega
   refine⟨t.s,t.k,t.e,u,?_⟩;refine hs.ao (vs:=t.cs) rfl rfl fun Mc hs=>?_;refine⟨g.he,hs.rd 8 rfl (i:=6) rfl,t.e,hs.rd 0 rfl (i:=2) rfl,?_⟩;refine (hg.e.rw.ext hs.ext).aA (by omega) (by omega) fun air agq x' gx u2=>?_;rw[hx] at gx;cases gx;refine⟨_,_,_,_,_,_,u2,?_⟩;refine (lu ⟨hF.size,0,none⟩ role x Mc (hs.rd 1 rfl (i:=8) rfl)).mono ?_;rintro _ xB ⟨E144,rfl⟩;replace hs:=hs.step E144;have ada:=(hs.len 4 (s:=cc) (e:=192) (n:=4) (rows:=((List.range g.n.toNat).map (cy g role (g.ts.take k))).map Lm.cs) rfl (by omega)).1;rw[Yc,Yc,kV] at ada;have rest:∀(y:Ev) (hy:(aW role x).getD X4=y) {hZ:Heap},St h hZ (.ae xB.size y.cs 188 :: .ae uX.size t.cs 149::r5 hF.size h.size g role ho au cc bt cj cF OU [] ((List.range g.n.toNat).map (cy g role (g.ts.take k))) ((List.range g.n.toNat).map (dW g.es)) ((List.range g.n.toNat).map (dR g.es role)) (List.replicate g.n.toNat (au,[]))) ->
     (NB cc.a fun Rr O3=>(0<=t.s/\t.s<(cc.n:Nat))/\(jd hZ ⟨Rr,O3+Int.toNat t.s*4,none⟩ 4/\∀HH:Heap,HH=bJ hZ ⟨Rr,O3+Int.toNat t.s*4,none⟩ 0 [.int .i64 t.k,.bool y.send,.int .i64 y.peer,.int .i64 y.label]->(∃V4,V4<g.ht.n-k/\∃j:Nat,IntKind.wrap .i64 ((k:Int)+1)=(j:Int)/\V4=g.ht.n-j/\j<=g.ht.n/\St h HH (r5 hF.size h.size g role ho au cc bt cj cF OU [] ((List.range g.n.toNat).map (cy g role (g.ts.take j))) ((List.range g.n.toNat).map (dW g.es)) ((List.range g.n.toNat).map (dR g.es role)) (List.replicate g.n.toNat (au,[])))))):=fun y hy {hZ} hs=>by
    refine hs.set 5 rfl (by omega) (x:=t.s) (by omega) (by omega) (⟨t.k,y⟩:Lm) rfl rfl (fun Rr O3 HH hs=>⟨_,?_,k+1,by rw[a7 (by omega) (by omega)];omega,rfl,by omega,?_⟩) rfl
    .omega
    .have e1:((List.range g.n.toNat).map (cy g role (g.ts.take k))).set t.s.toNat (⟨t.k,y⟩:Lm)=(List.range g.n.toNat).map (cy g role (g.ts.take (k+1))):=by
      refine cN hts ?_ fun s hs=>?_
      .unfold cy;rw[ak gt,List.foldl_append];show (if t.s=((t.s.toNat:Nat):Int) then tg g role t else _)=_;rw[if_pos (by omega)];unfold tg;rw[aL hx,hy]
      .unfold cy;rw[ak gt,List.foldl_append];show (if t.s=((s:Nat):Int) then tg g role t else _)=_;rw[if_neg (by omega)]
     rw[e1] at hs;exact hs.drop 2
   cases hvis:aW role x with
   | some y=>
    refine⟨y.send,y.peer,y.label,true,rfl,?_⟩;refine hs.ao (vs:=y.cs) rfl rfl fun aef hs=>?_;refine⟨cc,hs.rd 2 rfl (i:=11) rfl,t.s,hs.rd 1 rfl (i:=0) rfl,t.k,hs.rd 1 rfl (i:=1) rfl,y.send,y.peer,y.label,hs.at 0 rfl (o:=0) (n:=3) rfl,?_⟩;exact rest y (by rw[hvis];rfl) hs
   | none=>
    refine⟨false,0,0,false,rfl,?_⟩;refine hs.ao (vs:=X4.cs) rfl rfl fun aef hs=>?_;refine⟨cc,hs.rd 2 rfl (i:=11) rfl,t.s,hs.rd 1 rfl (i:=0) rfl,t.k,hs.rd 1 rfl (i:=1) rfl,false,0,0,hs.at 0 rfl (o:=0) (n:=3) rfl,?_⟩;exact rest X4 (by rw[hvis];rfl) hs
  .rw[Yj (by omega)] at hs;refine⟨g.n,hs.rd 7 rfl (i:=3) rfl,?_⟩;refine⟨fun x h' μ=>∃(j:Nat) (cn:Sl) (FI:List Fs),x=(j:Int)/\μ=g.n.toNat-j/\j<=g.n.toNat/\FI.map (fun f=>(f.l,f.b))=((List.range j).map fun s=>(ay g role (s:Nat),bQ g role (s:Nat)))/\St h h' (r5 hF.size h.size g role ho cn cc bt cj cF OU FI ((List.range g.n.toNat).map (cy g role g.ts)) ((List.range g.n.toNat).map (dW g.es)) ((List.range g.n.toNat).map (dR g.es role)) (List.replicate g.n.toNat (au,[]))),⟨_,0,au,[],rfl,rfl,Nat.zero_le _,rfl,hs⟩,?_⟩;clear hs c2 hk;rintro-_ h162 μ ⟨k,cn,FI,rfl,rfl,hk,hFI,hs⟩;have hFl:FI.length=k:=by have:=congrArg List.length hFI;simpa using this
   refine aM (fun c3=>?_) (fun c3=>?_)
   .refine⟨cn,hs.rd 0 rfl (i:=10) rfl,?_⟩;have hOG:OU.map Prod.snd=((List.range g.n.toNat).map fun s=>aw (ah g.es (s:Nat))):=hOU;have hG:=Iy (R:=[]) (by rw[Yw];exact hs) hg hOG;refine (Aa hF.size g role ho _ k h162 hG hV (by omega)).mono ?_;rintro _ Qo ⟨r,rfl,bD⟩;refine⟨r,bQ g role (k:Nat),rfl,bD.ext.sm,?_⟩;have hs:=hs.join bD;refine hs.aq fun ahR afh hs=>⟨afh.sm,?_⟩;have fO:=hs.len 3 (s:=cn) (e:=195) (n:=2) (rows:=FI.map Fs.cs) rfl (by omega);rw[Yc] at fO;refine hs.appended 3 rfl RC (news:=[Fs.cs ⟨r,ay g role (k:Nat),bQ g role (k:Nat)⟩]) (hs.at 0 rfl (o:=0) (n:=2) rfl) rfl (fun q hq=>by rw[Ye] at hq;rw[hq];rfl) rfl (by show (cn.n+1)*32<=140737488355328;omega) (by show cn.n+1<=9223372036854775807;omega) fun wi Ma n169 hs=>?_;refine hs.put 1 rfl (o:=10) (vs:=[.slice wi.a wi.n wi.c]) rfl (show 11<=15 by decide) fun ahQ hs=>?_;refine⟨_,?_,k+1,wi,FI++[⟨r,ay g role (k:Nat),bQ g role (k:Nat)⟩],by rw[a7 (by omega) (by omega)];omega,rfl,by omega,by rw[Ym,hFI,List.range_succ,Ym];rfl,?_⟩
    .omega
    .refine (hs.drop 1).perm ?_;unfold r5;rw[Ym (f:=Fs.cs),Ym (f:=N5)];refine List.Perm.trans (List.Perm.of_eq (l₂:=[.ae hF.size (RS g role ho wi cc bt cj cF) 186,.sl ho 102 1 ((OU.map Prod.fst).map eD),.sl wi 195 2 (FI.map Fs.cs++[⟨r,ay g role (k:Nat),bQ g role (k:Nat)⟩].map Fs.cs),.sl cc 192 4 (((List.range g.n.toNat).map (cy g role g.ts)).map Lm.cs),.sl bt 4 1 (((List.range g.n.toNat).map (dW g.es)).map bC),.sl cj 4 1 (((List.range g.n.toNat).map (dR g.es role)).map bC),.sl cF 274 1 (((List.replicate g.n.toNat ((au,[]):tY)).map Prod.fst).map eD),.ae h.size g.cs 27]++OU.map (nest 3 1 aO)++((FI.map N5++(List.replicate g.n.toNat ((au,[]):tY)).map (nest 276 4 fT.cs))++[.sl r 188 3 ((ay g role (k:Nat)).map Ev.cs)])) ?_) (List.Perm.append_left _ ?_)
     .exact Yz ([.ae hF.size (RS g role ho wi cc bt cj cF) 186,.sl ho 102 1 ((OU.map Prod.fst).map eD),.sl wi 195 2 (FI.map Fs.cs++[⟨r,ay g role (k:Nat),bQ g role (k:Nat)⟩].map Fs.cs),.sl cc 192 4 (((List.range g.n.toNat).map (cy g role g.ts)).map Lm.cs),.sl bt 4 1 (((List.range g.n.toNat).map (dW g.es)).map bC),.sl cj 4 1 (((List.range g.n.toNat).map (dR g.es role)).map bC),.sl cF 274 1 (((List.replicate g.n.toNat ((au,[]):tY)).map Prod.fst).map eD),.ae h.size g.cs 27]++OU.map (nest 3 1 aO)) (FI.map N5++(List.replicate g.n.toNat ((au,[]):tY)).map (nest 276 4 fT.cs)) [.sl r 188 3 ((ay g role (k:Nat)).map Ev.cs)]
     .rw[Yz,Yz];exact List.Perm.append_left _ List.perm_append_comm
   .have JW:k=g.n.toNat:=by omega
    subst JW;exact hK hF.size ho cn cc bt cj cF OU FI _ _ _ h162 hs ⟨hOU,hFI,rfl,rfl,rfl⟩
theorem kT(g:Gl)(role:Int)(h:Heap)(hg:GI h g)(hx:Gm h):
  Fn Pz 49 #[g.v,.int .i64 role] h fun v h'=>(¬(af g/\0<=role/\role<g.rs.length)/\v=.tuple ⟨[.pointer none,.int .i64 1]⟩/\Ext h h') \/
   ((af g/\0<=role/\role<g.rs.length)/\∃(ab:Nat) (ho cn cc bt cj cF:Sl) (OU:List C9) (FI:List Fs) (LI:List Lm) (AG OW:List Bool),v=.tuple ⟨[.pointer (some ⟨ab,0,none⟩),.int .i64 0]⟩/\St h h' (r5 ab h.size g role ho cn cc bt cj cF OU FI LI AG OW (List.replicate g.n.toNat (au,[])))/\vA g role OU FI LI AG OW):=by
 apply abI (bs g.nm) g.hr g.hd g.n g.s g.e g.he g.ht role;unfold W49;have kc:=hg.r.ln;refine (St.refl h).aj fun h9 hs=>?_;refine⟨_,_,_,_,_,_,_,_,hs.at 0 rfl (n:=8) rfl,?_⟩;refine (ua g h9 (hg.ext hs.ext) (hx.ext hs.ext)).mono ?_;rintro _ aD ⟨rfl,E20⟩;replace hs:=hs.step E20;refine⟨_,rfl,?_⟩;by_cases hV:af g
 .rw[decide_eq_true hV];refine gZ rfl ?_;refine aM (fun c=>.inl ⟨fun h=>by omega,rfl,hs.ext⟩) (fun c1=>?_);refine⟨g.hr,hs.rd 0 rfl (i:=1) rfl,aM (fun c=>.inl ⟨fun h=>by omega,rfl,hs.ext⟩) (fun c2=>?_)⟩;have hN:=hV.num.n;refine⟨_,_,_,_,_,_,_,_,hs.at 0 rfl (n:=8) rfl,g.n,hs.rd 0 rfl (i:=3) rfl,g.n,hs.rd 0 rfl (i:=3) rfl,g.n,hs.rd 0 rfl (i:=3) rfl,g.n,hs.rd 0 rfl (i:=3) rfl,g.n,hs.rd 0 rfl (i:=3) rfl,?_⟩;have hT:aN g role h fun v h'=>(¬(af g/\0<=role/\role<g.rs.length)/\v=.tuple ⟨[.pointer none,.int .i64 1]⟩/\Ext h h') \/
   ((af g/\0<=role/\role<g.rs.length)/\∃(ab:Nat) (ho cn cc bt cj cF:Sl) (OU:List C9) (FI:List Fs) (LI:List Lm) (AG OW:List Bool),v=.tuple ⟨[.pointer (some ⟨ab,0,none⟩),.int .i64 0]⟩/\St h h' (r5 ab h.size g role ho cn cc bt cj cF OU FI LI AG OW (List.replicate g.n.toNat (au,[])))/\vA g role OU FI LI AG OW):=
   Kn hg hV fun ab ho cn cc bt cj cF OU FI LI AG OW h' hs Fh=>.inr ⟨⟨hV,by omega,by omega⟩,ab,ho,cn,cc,bt,cj,cF,OU,FI,LI,AG,OW,rfl,hs,Fh⟩
  have hn:1<=g.n/\g.n<=200:=⟨by omega,by omega⟩;exact⟨K6 hT hn hs,K5 hT hn hs,K4 hT hn hs,K3 hT hn hs,KZ hT hn hs⟩
 .rw[decide_eq_false hV];refine ql rfl (.inl ⟨fun h=>hV h.1,rfl,hs.ext⟩)
def jr(g:Gl)(i:Nat)(m:Ms):fT:=⟨(i:Int),1+((gA g i m).length:Int),m⟩
def tP(g:Gl)(i:Nat)(l:List Ms):List fT:=(l.filter fun m=>decide (m.p≠(eA g.es i).a)).map (jr g i)
def iy(g:Gl)(role:Int)(i:Nat):List fT:=if (eA g.es i).b=role then tP g i (dP g i) else []
def du(g:Gl)(role:Int)(s:Nat):List fT:=(ah g.es (s:Nat)).flatMap (iy g role)
theorem rG{g:Gl}{i:Nat}{l:List Ms}{k:Nat}{m:Ms}(hm:l[k]?=some m):tP g i (l.take (k+1))=tP g i (l.take k)++(if m.p≠(eA g.es i).a then [jr g i m] else []):=by
 unfold tP;rw[ak hm,List.filter_append,Ym];congr 1;by_cases e:m.p≠(eA g.es i).a
 .rw[if_pos e,List.filter_cons_of_pos (by rw[decide_eq_true e])];rfl
 .rw[if_neg e,List.filter_cons_of_neg (by rw[decide_eq_false e];decide)];rfl
def tQ(ab gb:Nat)(g:Gl)(role:Int)(ho cn cc bt cj cF:Sl)(OU:List C9)(FI:List Fs)(LI:List Lm)(AG OW:List Bool)(AR:List tY)(R:List It):List It:=
 ([.ae ab (RS g role ho cn cc bt cj cF) 186,.sl ho 102 1 ((OU.map Prod.fst).map eD),.sl cn 195 2 (FI.map Fs.cs),.sl cc 192 4 (LI.map Lm.cs),.sl bt 4 1 (AG.map bC),.sl cj 4 1 (OW.map bC),.sl cF 274 1 ((AR.map Prod.fst).map eD),.ae gb g.cs 27]++OU.map (nest 3 1 aO)++FI.map N5)++AR.map (nest 276 4 fT.cs)++R
theorem Ix(ab gb:Nat)(g:Gl)(role:Int)(ho cn cc bt cj cF:Sl)(OU:List C9)(FI:List Fs)(LI:List Lm)(AG OW:List Bool)(AR:List tY)(R:List It):tQ ab gb g role ho cn cc bt cj cF OU FI LI AG OW AR R=r5 ab gb g role ho cn cc bt cj cF OU FI LI AG OW AR++R:=by
 unfold tQ r5;simp only[Yz]
structure MW (g:Gl) (role:Int) (f:Nat->List fT) (AR:List tY):Prop where
 l:AR.map Prod.snd=(List.range g.n.toNat).map f
 b:∀q∈AR,∀x∈q.2,0<x.n/\x.n<=1048577
theorem MW.len{g:Gl}{role:Int}{f:Nat->List fT}{AR:List tY}(h:MW g role f AR):AR.length=g.n.toNat:=by have:=congrArg List.length h.l;simpa using this
theorem HZ{h0 h:Heap}{ab gb:Nat}{g:Gl}{role:Int}{ho cn cc bt cj cF:Sl}{OU:List C9}{FI:List Fs}{LI:List Lm}{AG OW:List Bool}{R:List It}(hs:St h0 h (tQ ab gb g role ho cn cc bt cj cF OU FI LI AG OW (List.replicate g.n.toNat (au,[])) R))(hg:GI h0 g)(hx:Gm h0)(hV:af g)
  (hO:OU.map Prod.snd=(List.range g.n.toNat).map fun s=>aw (ah g.es (s:Nat))) :
  Fn Pz 82 #[.pointer (some ⟨ab,0,none⟩)] h fun v h'=>v=.tuple ⟨[]⟩/\∃AR:List tY,St h0 h' (tQ ab gb g role ho cn cc bt cj cF OU FI LI AG OW AR R)/\MW g role (du g role) AR/\∀q∈AR,q.2.length<=160000:=by
 apply abt ⟨ab,0,none⟩;unfold W82;have hN:=hV.num.n;have hM:=hV.num.m;have hE:=hV.num.e;have ke:=hg.e.ln;have NX:OU.length=g.n.toNat:=by have:=congrArg List.length hO;simpa using this
 refine⟨g.n,hs.rd 0 rfl (i:=3) rfl,?_⟩;refine⟨fun x h' μ=>∃(s:Nat) (AR:List tY),x=(s:Int)/\μ=g.n.toNat-s/\s<=g.n.toNat/\St h0 h' (tQ ab gb g role ho cn cc bt cj cF OU FI LI AG OW AR R)/\MW g role (fun t=>if t<s then du g role t else []) AR/\∀q∈AR,q.2.length<=160000,⟨_,0,_,rfl,rfl,Nat.zero_le _,hs,⟨?_,fun q hq x hx=>?_⟩,fun q hq=>?_⟩,?_⟩
 .rw[List.map_replicate];apply yL;intro s;rw[List.getElem?_replicate,Yd];by_cases hs:s<g.n.toNat
  .rw[if_pos hs,yi hs];rfl
  .rw[if_neg hs,Yl (by rw[kV];omega)];rfl
 .rw[List.eq_of_mem_replicate hq] at hx;cases hx
 .rw[List.eq_of_mem_replicate hq];exact Nat.zero_le _
 clear hs;rintro-_ h6 μ ⟨s,AR,rfl,rfl,iA,hs,nC,lX⟩;refine aM (fun c=>?_) (fun c=>?_)
 .obtain⟨qo,Wo⟩:=get_some (l:=OU) (i:=s) (by omega);have Wm:qo.2=aw (ah g.es (s:Nat)):=by
   have h1:=aR hO (s:=s) (by omega);rw[Yd,Wo] at h1;exact fL h1
  have rQ:=cG g.es (s:Nat);have PN:=(hs.len 1 (s:=ho) (e:=102) (n:=1) (rows:=(OU.map Prod.fst).map eD) rfl (by omega)).1;rw[Yc,Yc] at PN;refine⟨ho,hs.rd 0 rfl (i:=9) rfl,?_⟩;refine (hs.rows 1 rfl (by omega)).aA (by omega) (by omega) fun b8 o9 d gd u=>?_;replace gd:(OU.map Prod.fst)[s]?=some d:=gd;rw[Yd,Wo] at gd;cases gd;refine⟨qo.1,u.hd,?_⟩;have eK:∀ {AR F},.sl qo.1 3 1 (qo.2.map aO)∈(F++tQ ab gb g role ho cn cc bt cj cF OU FI LI AG OW AR R:List It):=fun {AR F}=>by
   refine List.mem_append_right _ ?_;unfold tQ;refine List.mem_append_left _ (List.mem_append_left _ (List.mem_append_left _ (List.mem_append_right _ (Yp.2 ⟨qo,Yb Wo,rfl⟩))))
  have Wk:Rw h6 1 qo.1 (qo.2.map aO):=hs.mD (eK (F:=[])) (by omega);have nz:qo.1.n=(ah g.es (s:Nat)).length:=by have:=Wk.1;rw[Yc,Wm] at this;rw[this];exact Yc _
  clear Wk;refine⟨fun x h' μ=>∃(j:Nat) (AR:List tY),x=(j:Int)/\μ=qo.1.n-j/\j<=qo.1.n/\St h0 h' (tQ ab gb g role ho cn cc bt cj cF OU FI LI AG OW AR R)/\MW g role (fun t=>if t<s then du g role t else if t=s then ((ah g.es (s:Nat)).take j).flatMap (iy g role) else []) AR/\(∀q∈AR,q.2.length<=160000)/\(((ah g.es (s:Nat)).take j).flatMap (iy g role)).length<=400*j,⟨_,0,AR,rfl,rfl,Nat.zero_le _,hs,?_,lX,Nat.zero_le _⟩,?_⟩
  .refine⟨?_,nC.b⟩;rw[nC.l];apply List.map_congr_left;intro t _;by_cases e1:t<s
   .rw[if_pos e1,if_pos e1]
   .rw[if_neg e1,if_neg e1];by_cases e2:t=s
    .rw[if_pos e2];rfl
    .rw[if_neg e2]
  clear hs nC lX;rintro-_ rY μ ⟨j,AR,rfl,rfl,hj,hs,nC,lX,BV⟩;have jW:Rw rY 1 qo.1 (qo.2.map aO):=hs.mD (eK (F:=[])) (by omega);refine aM (fun c2=>?_) (fun c2=>?_)
  .refine jW.aA (by omega) (by omega) fun b16 o17 d gd u2=>?_;rw[Wm] at gd;obtain⟨k,hk,rfl⟩:=cX gd;replace hk:(ah g.es (s:Nat))[j]?=some k:=hk;obtain⟨x0,jG,D8⟩:=az.1 (Yb hk);have qT:=(Ya.1 jG).1;have kK:=aL jG;have Ni:∀ {AR':List tY},MW g role (fun t=>if t<s then du g role t else if t=s then ((ah g.es (s:Nat)).take j).flatMap (iy g role)++iy g role k else []) AR'->MW g role (fun t=>if t<s then du g role t else if t=s then ((ah g.es (s:Nat)).take (j+1)).flatMap (iy g role) else []) AR':=fun {AR'} h9=>by
    rw[ak hk,List.flatMap_append,List.flatMap_singleton];exact h9
   refine⟨(k:Int),u2.hd,g.he,hs.rd 0 rfl (i:=6) rfl,?_⟩;refine (hg.e.rw.ext hs.ext).aA (by omega) (by omega) fun b20 o21 x gx u3=>?_;replace gx:g.es[k]?=some x:=gx;rw[jG] at gx;cases gx;refine⟨x0.b,u3.nth 2 rfl,role,hs.rd 0 rfl (i:=8) rfl,eY (fun c3=>?_) (fun c3=>?_)⟩
   .have e1:iy g role k=[]:=by unfold iy;rw[kK,if_neg c3]
    refine⟨_,?_,j+1,AR,by rw[a7 (by omega) (by omega)];omega,rfl,by omega,hs,Ni (by rw[e1,Yw];exact nC),lX,?_⟩
    .omega
    .rw[ak hk,List.flatMap_append,List.flatMap_singleton,e1,Yw];omega
   .have e1:iy g role k=tP g k (dP g k):=by unfold iy;rw[kK,if_pos c3]
    refine⟨_,_,_,_,_,_,_,_,hs.at 0 rfl (o:=0) (n:=8) rfl,?_⟩;refine (HY g k x0 rY (hg.ext hs.ext) (hx.ext hs.ext) hV jG).mono ?_;rintro _ fQ ⟨E36,sl,rfl,Pq,WY⟩;replace hs:=(hs.join Pq).perm (List.perm_append_comm (l₁:=tQ ab gb g role ho cn cc bt cj cF OU FI LI AG OW AR R) (l₂:=[_]));refine⟨sl,0,rfl,?_⟩;refine⟨fun x h' μ=>∃(l:Nat) (AR:List tY),x=(l:Int)/\μ=sl.n-l/\l<=sl.n/\St h0 h' (.sl sl 72 2 ((dP g k).map Ms.cs)::tQ ab gb g role ho cn cc bt cj cF OU FI LI AG OW AR R)/\MW g role (fun t=>if t<s then du g role t else if t=s then ((ah g.es (s:Nat)).take j).flatMap (iy g role)++tP g k ((dP g k).take l) else []) AR/\(∀q∈AR,q.2.length<=160000)/\(tP g k ((dP g k).take l)).length<=l,⟨_,0,AR,rfl,rfl,Nat.zero_le _,hs,?_,lX,Nat.zero_le _⟩,?_⟩
    .have:tP g k ((dP g k).take 0)=[]:=rfl;rw[this,Yw];exact nC
    clear hs nC lX jW;rintro-_ LX μ ⟨l,AR,rfl,rfl,hl,hs,nC,lX,Fl⟩;have n9:=(hs.len 0 (s:=sl) (e:=72) (n:=2) (rows:=(dP g k).map Ms.cs) rfl (by omega)).1;rw[Yc] at n9;refine aM (fun c4=>?_) (fun c4=>?_)
    .refine (hs.rows 0 rfl (by omega)).aA (by omega) (by omega) fun b42 o43 m gm u4=>?_;replace gm:(dP g k)[l]?=some m:=gm;have mF:=Yb gm;refine⟨m.p,m.l,u4,?_⟩;refine hs.ao (vs:=m.cs) rfl rfl fun qV hs=>?_;refine⟨m.p,hs.rd 0 rfl (i:=0) rfl,g.he,hs.rd 2 rfl (i:=6) rfl,?_⟩;refine (hg.e.rw.ext hs.ext).aA (by omega) (by omega) fun b50 o51 x gx u5=>?_;replace gx:g.es[k]?=some x:=gx;rw[jG] at gx;cases gx;refine⟨x0.a,u5.nth 1 rfl,dw (fun c5=>?_) (fun c5=>?_)⟩
     .have e2:tP g k ((dP g k).take (l+1))=tP g k ((dP g k).take l):=by rw[rG gm,if_neg (by rw[kK];exact fun h9=>h9 c5),Yw]
      refine⟨_,?_,l+1,AR,by rw[a7 (by omega) (by omega)];omega,rfl,by omega,hs.drop 1,by rw[e2];exact nC,lX,by rw[e2];omega⟩;omega
     .have e2:tP g k ((dP g k).take (l+1))=tP g k ((dP g k).take l)++[jr g k m]:=by rw[rG gm,if_pos (by rw[kK];exact c5)]
      refine⟨_,_,_,_,_,_,_,_,hs.at 2 rfl (o:=0) (n:=8) rfl,m.p,m.l,hs.at 0 rfl (o:=0) (n:=2) rfl,?_⟩;refine (A9 g k x0 m qV (hg.ext hs.ext) (hx.ext hs.ext) hV jG mF).mono ?_;rintro _ h67 ⟨E67,sp,rfl,Fh,de⟩;replace hs:=hs.step E67;have Hf:=(Fh.len 0 (s:=sp) (e:=65) (n:=3) rfl (by omega)).1;rw[Yc] at Hf;have Xn:=nC.len;obtain⟨q,hq⟩:=get_some (l:=AR) (i:=s) (by omega);have fY:q.2=((ah g.es (s:Nat)).take j).flatMap (iy g role)++tP g k ((dP g k).take l):=by
       have h1:=aR nC.l (s:=s) (by omega);rw[Yd,hq,if_neg (by omega),if_pos rfl] at h1;exact fL h1
      have uO:q.2.length<=400*j+l:=by rw[fY,Yh];omega
      have WQ:=(hs.len 8 (s:=cF) (e:=274) (n:=1) (rows:=(AR.map Prod.fst).map eD) rfl (by omega)).1;rw[Yc,Yc] at WQ;refine⟨sp,0,rfl,cF,hs.rd 2 rfl (i:=14) rfl,cF,hs.rd 2 rfl (i:=14) rfl,?_⟩;refine (hs.rows 8 rfl (by omega)).aA (by omega) (by omega) fun b70 o71 d gd u6=>?_;replace gd:(AR.map Prod.fst)[s]?=some d:=gd;rw[Yd,hq] at gd;cases gd;refine⟨q.1,u6.hd,m.p,m.l,hs.at 0 rfl (o:=0) (n:=2) rfl,?_⟩;have hw:IntKind.wrap .i64 (1+(sp.n:Int))=1+((gA g k m).length:Int):=by rw[a7 (by omega) (by omega),Hf]
      rw[hw];refine hs.aq fun im E75 hs=>⟨E75.sm,?_⟩;have hs:St h0 im ((.ae h67.size (jr g k m).cs 276 :: .ae LX.size m.cs 72 :: .sl sl 72 2 ((dP g k).map Ms.cs)::([.ae ab (RS g role ho cn cc bt cj cF) 186,.sl ho 102 1 ((OU.map Prod.fst).map eD),.sl cn 195 2 (FI.map Fs.cs),.sl cc 192 4 (LI.map Lm.cs),.sl bt 4 1 (AG.map bC),.sl cj 4 1 (OW.map bC),.sl cF 274 1 ((AR.map Prod.fst).map eD),.ae gb g.cs 27]++OU.map (nest 3 1 aO)++FI.map N5))++AR.map (nest 276 4 fT.cs)++R):=hs;have nz:=(hs.kF hq (by omega)).ln;refine hs.nj hq Rz (jr g k m) (hs.at 0 rfl (o:=0) (n:=4) rfl) rfl rfl (by omega) (by simp only[maxLen];omega) fun r Tb hr fN=>⟨?_,?_⟩
      .exact fV (hs.same fN 3 3 rfl rfl) kv
      .refine fN.set 9 rfl (by omega) (x:=(s:Int)) (by omega) (by omega) r rfl rfl (fun Od OV h80 hs=>?_) rfl;refine⟨_,?_,l+1,AR.set s (r,q.2++[jr g k m]),by rw[a7 (by omega) (by omega)];omega,rfl,by omega,?_,⟨?_,fun q' pK x D9=>?_⟩,fun q' pK=>?_,by rw[e2,Yh,Yv];omega⟩
       .omega
       .have hs:=hs.drop 2;unfold tQ;rw[List.map_set (f:=Prod.fst)];exact hs
       .rw[List.map_set,nC.l];refine cN (by omega) ?_ fun t ht=>?_
        .simp only[Nat.lt_irrefl,if_false,if_true];rw[e2,fY,Yz]
        .show (if t<s then du g role t else if t=s then _ else _)=(if t<s then du g role t else if t=s then _ else _);by_cases e3:t<s
         .rw[if_pos e3,if_pos e3]
         .rw[if_neg e3,if_neg e3,if_neg ht,if_neg ht]
       .rcases List.mem_or_eq_of_mem_set pK with pK | rfl
        .exact nC.b q' pK x D9
        .rcases Yk.1 D9 with D9 | D9
         .exact nC.b q (Yb hq) x D9
         .rw[Ye] at D9;subst D9;show 0<1+((gA g k m).length:Int)/\1+((gA g k m).length:Int)<=1048577;omega
       .rcases List.mem_or_eq_of_mem_set pK with pK | rfl
        .exact lX q' pK
        .show (q.2++[jr g k m]).length<=160000;rw[Yh,Yv];omega
    .rw[Yj (l:=dP g k) (by omega)] at nC Fl;refine⟨_,?_,j+1,AR,by rw[a7 (by omega) (by omega)];omega,rfl,by omega,hs.drop 1,Ni (by rw[e1];exact nC),lX,?_⟩
     .omega
     .rw[ak hk,List.flatMap_append,List.flatMap_singleton,Yh,e1];omega
  .rw[Yj (by omega)] at nC;refine⟨_,?_,s+1,AR,by rw[a7 (by omega) (by omega)];omega,rfl,by omega,hs,⟨?_,nC.b⟩,lX⟩
   .omega
   .rw[nC.l];apply List.map_congr_left;intro t _;by_cases e1:t<s
    .rw[if_pos e1,if_pos (by omega)]
    .rw[if_neg e1];by_cases e2:t=s
     .subst e2;rw[if_pos rfl,if_pos (by omega)];rfl
     .rw[if_neg e2,if_neg (by omega)]
 .refine⟨rfl,AR,hs,⟨?_,nC.b⟩,lX⟩;rw[nC.l];apply List.map_congr_left;intro t ht;rw[List.mem_range] at ht;rw[if_pos (by omega)]
def aH:Int:=1073741824
def dO(O:List (Pr × Nat))(p:Pr):Int:=(aU O p).elim aH fun k=>(k:Int)
theorem Cp(ob:Nat)(O:List (Pr × Nat))(p:Pr)(h:Heap)(hm:It.ok h (.mp ob (O.map fun q=>(pV q.1,oS q.2))))(hk:∀q∈O,eI q.1)(hn:(O.map Prod.fst).Nodup)(hp:eI p):
  Fn Pz 165 #[.map (some ob),.agg ⟨pC p⟩] h fun v h'=>v=.int .i64 (dO O p)/\Ext h h':=by
 apply US (some ob) (p.1:Nat) (p.2:Nat);unfold aad;refine (St.refl h).aj fun h3 hs=>?_;refine⟨_,_,hs.at 0 rfl (o:=0) (n:=2) rfl,?_⟩;refine uK (a:=p) JA (hm.bW fun b hb=>hs.ext.2 b (hm.lt hb)) hk hn hp true ?_;unfold dO;generalize aU O p=o;cases o with
 | none=>exact⟨0,false,rfl,rfl,hs.ext⟩
 | some k=>exact⟨(k:Int),true,rfl,rfl,hs.ext⟩
def qD(D:Pr->Int)(p:Pr)(m:aP):Bool:=decide ((bO m:Int)+D (bj m)=D p)
theorem QY(ob:Nat)(O:List (Pr × Nat))(m:aP)(p:Pr)(c0 c1:Addr)(h:Heap)(fZ:hc h c0=some (.map (some ob)))(sA:aZ h c1 (pC p))(hm:It.ok h (.mp ob (O.map fun q=>(pV q.1,oS q.2))))(hk:∀q∈O,eI q.1)(hn:(O.map Prod.fst).Nodup)(hp:eI p)(hq:eI (bj m))(e1:((bj m).1:Int)=m.s)(e2:((bj m).2:Int)=m.t)(hb:0<=dO O (bj m)/\dO O (bj m)<=aH):
  Fn Pz 168 #[.agg ⟨m.cs⟩,.pointer (some c0),.pointer (some c1)] h fun v h'=>v=.bool (qD (dO O) p m)/\Ext h h':=by
 apply UP m.x m.y m.s m.t c0 c1;unfold aaa;have hpc:pC (bj m)=[.int .i64 m.s,.int .i64 m.t]:=by unfold pC;rw[e1,e2]
 have de:=bM m;unfold aH at hb;refine (St.refl h).aj fun h5 hs=>?_;refine⟨_,_,_,_,hs.at 0 rfl (o:=0) (n:=4) rfl,some ob,ax hs.ext fZ,_,_,hs.at 0 rfl (o:=2) (n:=2) rfl,some ob,ax hs.ext fZ,_,_,gh hs.ext sA,?_⟩;refine (qI m.x m.y m.s m.t h5).mono ?_;rintro _ fR ⟨rfl,E1⟩;replace hs:=hs.step E1;refine⟨_,rfl,E1.sm,?_⟩;have zY:=Cp ob O (bj m) fR (hm.bW fun b hb=>hs.ext.2 b (hm.lt hb)) hk hn hq;rw[hpc] at zY;refine zY.mono ?_;rintro _ l8 ⟨rfl,E2⟩;replace hs:=hs.step E2;refine⟨_,rfl,E2.sm,?_⟩;refine (Cp ob O p l8 (hm.bW fun b hb=>hs.ext.2 b (hm.lt hb)) hk hn hp).mono ?_;rintro _ qW ⟨rfl,E3⟩;replace hs:=hs.step E3;refine⟨_,rfl,E3.sm,?_,hs.ext⟩;have hw:(if 0<=m.x/\0<=m.y then (2:Int) else 1)=(bO m:Int):=by unfold bO;split<;>rfl
 rw[hw,a7 (by omega) (by omega)];unfold qD;congr 1
theorem Rg:aK Pz 168=true:=by kernel_rfl
theorem G7(ob:Nat)(O:List (Pr × Nat))(L:List aP)(p:Pr)(c0 c1:Addr)(s:Sl)(h:Heap)(hr:Rw h 4 s (L.map aP.cs))(hl:L.length<=16777216)(fZ:hc h c0=some (.map (some ob)))(sA:aZ h c1 (pC p))(hm:It.ok h (.mp ob (O.map fun q=>(pV q.1,oS q.2))))(hk:∀q∈O,eI q.1)(hn:(O.map Prod.fst).Nodup)(hp:eI p)
  (hL:∀m∈L,eI (bj m)/\((bj m).1:Int)=m.s/\((bj m).2:Int)=m.t/\0<=dO O (bj m)/\dO O (bj m)<=aH) :
  Fn Pz 167 #[.slice s.a s.n s.c,.func (.func 168) #[] #[.pointer (some c0),.pointer (some c1)]] h fun v h'=>v=.int .i64 (uM (qD (dO O) p) L)/\Ext h h':=by
 apply UQ;unfold aab;have WC:=hr.1;rw[Yc] at WC;refine⟨fun x h' μ=>∃i:Nat,x=i/\μ=s.n-i/\i<=s.n/\Ext h h'/\∀(j:Nat) (y:aP),j<i->L[j]?=some y->qD (dO O) p y=false,⟨_,0,rfl,rfl,Nat.zero_le _,.iK,fun j y hj=>by omega⟩,?_⟩;rintro-_ h5 μ ⟨i,rfl,rfl,hi,E,hd⟩;refine aM (fun c=>?_) (fun c=>?_)
 .refine (hr.ext E).aA (by omega) (by omega) fun b6 o7 q g t=>?_;replace g:L[i]?=some q:=g;obtain⟨q1,q2,q3,q4⟩:=hL q (Yb g);refine⟨q.x,q.y,q.s,q.t,t,?_⟩;show cond (aK Pz 168) _ _;rw[Rg,cond_true];refine (QY ob O q p c0 c1 h5 (ax E fZ) (gh E sA) (hm.bW fun b hb=>E.2 b (hm.lt hb)) hk hn hp q1 q2 q3 q4).mono ?_;rintro _ cB ⟨rfl,E2⟩;refine⟨_,rfl,aa (fun c1=>⟨?_,E.trans E2⟩) (fun c1=>⟨_,by omega,i+1,by rw[a7 (by omega) (by omega)];omega,rfl,by omega,E.trans E2,fun j y hj hy=>?_⟩)⟩
  .unfold uM;rw[kH hd g c1]
  .by_cases e1:j=i
   .subst e1;rw[g] at hy;cases hy;exact c1
   .exact hd j y (by omega) hy
 .refine⟨?_,E⟩;unfold uM;rw[w9 fun j y hj=>hd j y (by have:=(Ya.1 hj).1;omega) hj]
structure AN where
 r:Int
 s:Bool
 p:Int
 l:Int
 deriving DecidableEq
def AN.cs(x:AN):List Value:=[.int .i64 x.r,.bool x.s,.int .i64 x.p,.int .i64 x.l,.slice none 0 0]
def bp:AN:=⟨0,false,0,0⟩
structure Wt where
 k:Int
 r:Int
 f:Sl
 s:Sl
 e:AN
 o:AN
def Wt.cs(w:Wt):List Value:=[.int .i64 w.k,.int .i64 w.r,.slice w.f.a w.f.n w.f.c,.slice w.s.a w.s.n w.s.c,.int .i64 w.e.r,.bool w.e.s,.int .i64 w.e.p,.int .i64 w.e.l,.slice none 0 0,.int .i64 w.o.r,.bool w.o.s,.int .i64 w.o.p,.int .i64 w.o.l,.slice none 0 0]
def cq:Wt:=⟨0,0,au,au,bp,bp⟩
def aI(role:Int)(x:Ev):AN:=⟨role,x.send,x.peer,x.label⟩
theorem mc(b:Nat)(role:Int)(x:Ev)(h:Heap)(Fj:hc h ⟨b,8,none⟩=some (.int .i64 role)):Fn Pz 171 #[.pointer (some ⟨b,0,none⟩),.agg ⟨x.cs⟩] h fun v h'=>Ext h h'/\v=.agg ⟨(aI role x).cs⟩:=by
 apply UM ⟨b,0,none⟩ x.send x.peer x.label;unfold Z7;refine (St.refl h).aj fun h4 hs=>?_;refine hs.aj fun h5 hs=>?_;refine⟨role,ax hs.ext Fj,x.send,hs.rd 1 rfl (i:=0) rfl,x.peer,hs.rd 1 rfl (i:=1) rfl,x.label,hs.rd 1 rfl (i:=2) rfl,?_⟩;refine hs.put 0 rfl (o:=0) (vs:=(aI role x).cs) rfl (bc 5) fun cw hs=>?_;exact⟨_,_,_,_,au,hs.at 0 rfl (o:=0) (n:=5) rfl,hs.ext,rfl⟩
inductive nO (mv:Pr->List aP) (bu:Pr->Option Int) (D:Pr->Int) (p0:Pr):List aP->Pr->Prop
 | nil:nO mv bu D p0 [] p0
 | snoc {ms:List aP} {p:Pr} {m:aP} {k:Nat}:nO mv bu D p0 ms p->bu p≠some (D p)->(mv p).findIdx? (qD D p)=some k->(mv p)[k]?=some m->nO mv bu D p0 (ms++[m]) (bj m)
def facts(g:Gl)(ms:List aP):List Ac:=ms.flatMap fun m=>if 0<=m.x then [(eA g.es m.x.toNat).act] else []
def cx(g:Gl)(ms:List aP):List Ac:=ms.flatMap fun m=>if 0<=m.y then [(eA g.es m.y.toNat).act] else []
theorem rj(g:Gl)(ms:List aP)(m:aP):facts g (ms++[m])=facts g ms++if 0<=m.x then [(eA g.es m.x.toNat).act] else []:=by
 unfold facts;rw[List.flatMap_append,List.flatMap_singleton]
theorem qh(g:Gl)(ms:List aP)(m:aP):cx g (ms++[m])=cx g ms++if 0<=m.y then [(eA g.es m.y.toNat).act] else []:=by
 unfold cx;rw[List.flatMap_append,List.flatMap_singleton]
theorem nF(g:Gl)(ms:List aP):(facts g ms).length<=ms.length:=by
 induction ms with
 | nil=>exact Nat.zero_le _
 | cons a l ih=>
  unfold facts at *;rw[List.flatMap_cons,Yh,j5];split<;>simp only[Yv,List.length_nil]<;>omega
theorem sU(g:Gl)(ms:List aP):(cx g ms).length<=ms.length:=by
 induction ms with
 | nil=>exact Nat.zero_le _
 | cons a l ih=>
  unfold cx at *;rw[List.flatMap_cons,Yh,j5];split<;>simp only[Yv,List.length_nil]<;>omega
theorem BC{g:Gl}{role:Int}{s t:Nat}{m:aP}(hm:m∈bq g.es role s t):(0<=m.x->m.x.toNat<g.es.length)/\(0<=m.y->m.y.toNat<g.es.length):=by
 have hE:∀ {k:Nat} {s:Int},k∈ah g.es s->k<g.es.length:=fun {k s} hk=>by
  obtain⟨x,hx,_⟩:=az.1 hk;exact (Ya.1 hx).1
 unfold bq at hm;rcases Yk.1 hm with hm | hm
 .rcases Yk.1 hm with hm | hm
  .obtain⟨k,hk,rfl⟩:=Yp.1 hm;have:=hE (List.mem_filter.1 hk).1;exact⟨fun _=>this,fun h9=>absurd h9 (by show ¬(0:Int) <= -1;decide)⟩
  .obtain⟨k,hk,rfl⟩:=Yp.1 hm;have:=hE (List.mem_filter.1 hk).1;exact⟨fun h9=>absurd h9 (by show ¬(0:Int) <= -1;decide),fun _=>this⟩
 .unfold kG at hm;obtain⟨i,hi,hm⟩:=List.mem_flatMap.1 hm;unfold lM at hm;split at hm
  .cases hm
  .obtain⟨k,hk,rfl⟩:=Yp.1 hm;exact⟨fun _=>hE hi,fun _=>hE (List.mem_filter.1 hk).1⟩
theorem St.rH{h0 h h2:Heap}{L:List It}(hs:St h0 h L)(kb ks:Nat){cb:Nat}{xs:List Value}{e0 t e:TypeId}{n bytes:Nat}{α:Type}{cs:α->List Value}{so:Sl}{X:List α}{x:α}(PG:L[kb]?=some (.ae cb xs e0))(hks:L[ks]?=some (.sl so e n (X.map cs)))
  (hT:cC Pz t e n bytes=true) (e2:h2=h.push (.cells ⟨cs x⟩ e)) (hc:(cs x).length=n) (ho:(cs x).all dU=true) (hn:X.length<=16777216) (hnb:0<n/\bytes<=128) (f:Nat) (hf:f<xs.length) (bE:ks≠kb) {K:Heap->Prop}
  (hK:∀(s':Sl) (h':Heap),St h0 h' ((L.set ks (.sl s' e n ((X++[x]).map cs))).set kb (.ae cb (aG xs f [.slice s'.a s'.n s'.c]) e0))->K h') :
  App Pz t t (.slice so.a so.n so.c) (.slice (some ⟨h.size,0,none⟩) 1 1) h2 fun KC kM=>jd kM ⟨cb,f,none⟩ 1/\∀uT:Heap,uT=bJ kM ⟨cb,f,none⟩ 0 [.slice KC.a KC.n KC.c]->K uT:=by
 have bD:St h0 h2 (.ae h.size (cs x) e::L):=hs.aj (K:=fun h2=>St h0 h2 (.ae h.size (cs x) e::L)) (fun _ h=>h) h2 e2;have hl:=(hs.len ks (s:=so) hks hnb.1).1;rw[Yc] at hl;have oh:(so.n+1)*bytes<=16777217*128:=Nat.mul_le_mul (by omega) hnb.2;refine bD.appended (ks+1) (s:=so) hks hT (x:=⟨h.size,0,none⟩) (m:=1) (c:=1) (news:=[cs x]) (bD.at 0 rfl (o:=0) (n:=n) (by rw[List.drop_zero,<-hc,vM];simp)) rfl (by intro r hr;rw[Ye.1 hr];exact hc) (by simpa using ho) (by omega) (by simp only[maxLen];omega) fun KC kM n55 fN=>?_;have fN:St h0 kM (L.set ks (.sl KC e n (X.map cs++[cs x]))):=fN.drop 1;refine fN.put kb (by rw[Yy bE];exact PG) (o:=f) (vs:=[.slice KC.a KC.n KC.c]) rfl (by show f+1<=xs.length;omega) fun uT ik=>hK KC uT ?_;rw[Ym];exact ik
def H9(wb pb lb ob:Nat)(kind role:Int)(wf ws:Sl)(p:Pr)(F S:List Ac):List It:=
 [.ae wb (Wt.cs ⟨kind,role,wf,ws,bp,bp⟩) 35,.ae pb (pC p) 97,.ae lb [.map (some ob)] 293,.sl wf 65 3 (F.map Ac.cs),.sl ws 65 3 (S.map Ac.cs)]
def rZ(g:Gl)(x:Int):List Ac:=if 0<=x then [(eA g.es x.toNat).act] else []
theorem Kr{hb oo h4 h6 cB:Heap}{b ob mb:Nat}{kind role:Int}{wf ws all:Sl}{p:Pr}{F S:List Ac}{g:Gl}{X:An}{A:List Pr}{l:List (Pr × Sl)}{O:List (Pr × Nat)}{k:Nat}{m:aP}{V3:Nat}{I35:Heap->Nat->Prop}
  (hs:St hb oo (H9 cB.size h6.size h4.size ob kind role wf ws p F S)) (hA:vP hb b g role X) (hV:af g) (hM:J8 hb g role all mb A l) (NO:It.ok hb (.mp ob (O.map fun q=>(pV q.1,oS q.2)))) (hk:∀q∈O,eI q.1) (hn:(O.map Prod.fst).Nodup) (hp:p∈A)
  (gG:(bB g role p).findIdx? (qD (dO O) p)=some k) (gm:(bB g role p)[k]?=some m) (hF:F.length<=8388608) (hS:S.length<=8388608) (LP:∀q∈A,0<=dO O q/\dO O q<=aH)
  (hI:∀(h':Heap) (Fb ws':Sl),St hb h' (H9 cB.size h6.size h4.size ob kind role Fb ws' (bj m) (F++rZ g m.x) (S++rZ g m.y))->∃m9,m9<V3/\I35 h' m9):IH oo h6 (some mb) h4 cB ⟨b,0,none⟩ V3 I35:=by
 unfold IH;have hN:=hV.num.n;have hE:=hV.num.m;have hg:=hA.gg.gi;have ke:=hg.e.ln;have BQ:∀p∈A,(p.1:Int)<g.n/\(p.2:Int)<g.n:=fun p hp=>((hM.pr p).1 hp).lt hV;have uP:∀p∈A,eI p:=fun p hp=>by have:=BQ p hp;exact⟨by omega,by omega⟩
 have eR:∀m∈bB g role p,bj m∈A:=fun m hm=>(hM.pr _).2 (.step ((hM.pr p).1 hp) hm);have mF:=Yb gm;have Fl:=(Ya.1 gm).1;have hlen:(bB g role p).length<=160800:=fC (by omega);have pL:=ie hV (BQ p hp) mF;obtain⟨edx,edy⟩:=BC mF;obtain⟨r,Hl,od⟩:=hM.mv p hp;have kc:r.n=(bB g role p).length:=od.ln;refine⟨_,_,hs.at 1 rfl (o:=0) (n:=2) rfl,?_⟩;refine uK (a:=p) (cv:=eS) yn (hM.mp.bW fun b hb=>hs.ext.2 b (hM.mp.lt hb)) hM.lk hM.ln (uP p hp) false ?_;rw[Hl];refine⟨r,rfl,?_⟩;refine (G7 ob O (bB g role p) p ⟨h4.size,0,none⟩ ⟨h6.size,0,none⟩ r oo (od.ext hs.ext).rw (by omega) (hs.rd 2 rfl (i:=0) rfl) (hs.at 1 rfl (o:=0) (n:=2) rfl) (NO.bW fun b hb=>hs.ext.2 b (NO.lt hb)) hk hn (uP p hp) fun m hm=>?_).mono ?_
 .have h1:=ie hV (BQ p hp) hm;have h2:=LP _ (eR m hm);exact⟨uP _ (eR m hm),h1.2.2.1,h1.2.2.2,h2.1,h2.2⟩
 rintro _ adT ⟨rfl,E⟩;replace hs:=hs.step E;refine⟨_,rfl,?_⟩;have hk9:uM (qD (dO O) p) (bB g role p)=(k:Int):=by unfold uM;rw[gG]
 rw[hk9];refine (od.ext hs.ext).rw.aA (by omega) (by omega) fun aif age m' gm' t=>?_;replace gm':(bB g role p)[k]?=some m':=gm';rw[gm] at gm';cases gm';refine⟨m.x,m.y,m.s,m.t,t,?_⟩;refine hs.ao (vs:=m.cs) rfl rfl fun adR hs=>?_;refine⟨fun h'=>∃Fb,St hb h' (.ae adT.size m.cs 200::H9 cB.size h6.size h4.size ob kind role Fb ws p (F++rZ g m.x) S),?_,?_⟩
 .refine⟨m.x,hs.rd 0 rfl (i:=0) rfl,aM (fun c=>?_) (fun c=>?_)⟩
  .have BN:=edx c;refine⟨wf,hs.rd 1 rfl (i:=2) rfl,g.he,ax hs.ext (hA.gg.at_.nth 6 rfl),m.x,hs.rd 0 rfl (i:=0) rfl,?_⟩;refine (hg.e.rw.ext hs.ext).aA (by omega) (by omega) fun Rq OZ x gx u=>?_;replace gx:g.es[m.x.toNat]?=some x:=gx;have uS:rZ g m.x=[x.act]:=by unfold rZ;rw[if_pos c,aL gx]
   refine⟨x.a,x.b,x.l,u.sub 1 3 rfl,fun uV e2=>⟨?_,?_⟩⟩
   .exact (show Ext adR uV by rw[e2];exact Ext.push _ _).sm
   .refine hs.rH 1 4 rfl rfl eM (x:=x.act) e2 rfl rfl (by omega) (by decide) 2 (by show 2<14;decide) (by decide) fun s' h' hs=>?_;refine⟨s',?_⟩;rw[uS];exact hs
  .have uS:rZ g m.x=[]:=by unfold rZ;rw[if_neg c]
   refine⟨wf,?_⟩;rw[uS,Yw];exact hs
 .clear hs t;rintro-Qj ⟨Fb,hs⟩;have hpc:pC (bj m)=[.int .i64 m.s,.int .i64 m.t]:=by unfold pC;rw[pL.2.2.1,pL.2.2.2]
  refine⟨m.y,hs.rd 0 rfl (i:=1) rfl,aM (fun c=>?_) (fun c=>?_)⟩
  .have hyl:=edy c;refine⟨ws,hs.rd 1 rfl (i:=3) rfl,g.he,ax hs.ext (hA.gg.at_.nth 6 rfl),m.y,hs.rd 0 rfl (i:=1) rfl,?_⟩;refine (hg.e.rw.ext hs.ext).aA (by omega) (by omega) fun Rq OZ x gx u=>?_;replace gx:g.es[m.y.toNat]?=some x:=gx;have uS:rZ g m.y=[x.act]:=by unfold rZ;rw[if_pos c,aL gx]
   refine⟨x.a,x.b,x.l,u.sub 1 3 rfl,fun uV e2=>⟨?_,?_⟩⟩
   .exact (show Ext Qj uV by rw[e2];exact Ext.push _ _).sm
   .refine hs.rH 1 5 rfl rfl eM (x:=x.act) e2 rfl rfl (by omega) (by decide) 3 (by show 3<14;decide) (by decide) fun s' h' hs=>?_;refine⟨m.s,m.t,hs.at 0 rfl (o:=2) (n:=2) rfl,?_⟩;refine hs.put 2 rfl (o:=0) (vs:=[.int .i64 m.s,.int .i64 m.t]) rfl (bc 2) fun h' hs=>hI h' Fb s' ?_;have hs:=hs.drop 1;unfold H9;rw[uS,hpc];exact hs
  .have uS:rZ g m.y=[]:=by unfold rZ;rw[if_neg c]
   refine⟨m.s,m.t,hs.at 0 rfl (o:=2) (n:=2) rfl,?_⟩;refine hs.put 2 rfl (o:=0) (vs:=[.int .i64 m.s,.int .i64 m.t]) rfl (bc 2) fun h' hs=>hI h' Fb ws ?_;have hs:=hs.drop 1;unfold H9;rw[uS,Yw,hpc];exact hs
theorem FP{xA h6 h4 cB:Heap}{mp:Option Nat}{p0:Addr}{V3:Nat}{I35:Heap->Nat->Prop}(h:IH xA h6 mp h4 cB p0 V3 I35):aaP xA h6 mp h4 cB p0 V3 I35:=h
theorem oL{h:Heap}{b:Nat}{w:Wt}(ha:aZ h ⟨b,0,none⟩ w.cs){Q:List Value->Prop}(hq:Q w.cs):
  ∃M8:Int,∃M7:Int,∃nQ:Sl,∃vE:Sl,∃M6:Int,∃yv:Bool,∃M5:Int,∃M4:Int,∃vD:Sl,∃M3:Int,∃MZ:Bool,∃Ke:Int,∃MY:Int,∃vB:Sl,aZ h ⟨b,0,none⟩ [.int .i64 M8,.int .i64 M7,.slice nQ.a nQ.n nQ.c,.slice vE.a vE.n vE.c,.int .i64 M6,.bool yv,.int .i64 M5,.int .i64 M4,.slice vD.a vD.n vD.c,.int .i64 M3,.bool MZ,.int .i64 Ke,.int .i64 MY,.slice vB.a vB.n vB.c] /\
   Q [.int .i64 M8,.int .i64 M7,.slice nQ.a nQ.n nQ.c,.slice vE.a vE.n vE.c,.int .i64 M6,.bool yv,.int .i64 M5,.int .i64 M4,.slice vD.a vD.n vD.c,.int .i64 M3,.bool MZ,.int .i64 Ke,.int .i64 MY,.slice vB.a vB.n vB.c]:=
 ⟨w.k,w.r,w.f,w.s,w.e.r,w.e.s,w.e.p,w.e.l,au,w.o.r,w.o.s,w.o.p,w.o.l,au,ha,hq⟩
theorem Ah{h0 h:Heap}{L:List It}(hs:St h0 h L)(i j:Nat){wb rb:Nat}{w w0:Wt}{e1 e2:TypeId}(hi:L[i]?=some (.ae wb w.cs e1))(hj:L[j]?=some (.ae rb w0.cs e2)){K:Heap->Prop}(hK:∀h',St h0 h' (L.set j (.ae rb w.cs e2))->K h'):
  ∃M8:Int,∃M7:Int,∃nQ:Sl,∃vE:Sl,∃M6:Int,∃yv:Bool,∃M5:Int,∃M4:Int,∃vD:Sl,∃M3:Int,∃MZ:Bool,∃Ke:Int,∃MY:Int,∃vB:Sl,aZ h ⟨wb,0,none⟩ [.int .i64 M8,.int .i64 M7,.slice nQ.a nQ.n nQ.c,.slice vE.a vE.n vE.c,.int .i64 M6,.bool yv,.int .i64 M5,.int .i64 M4,.slice vD.a vD.n vD.c,.int .i64 M3,.bool MZ,.int .i64 Ke,.int .i64 MY,.slice vB.a vB.n vB.c] /\
   (jd h ⟨rb,0,none⟩ 14/\∀jZ:Heap,jZ=bJ h ⟨rb,0,none⟩ 0 [.int .i64 M8,.int .i64 M7,.slice nQ.a nQ.n nQ.c,.slice vE.a vE.n vE.c,.int .i64 M6,.bool yv,.int .i64 M5,.int .i64 M4,.slice vD.a vD.n vD.c,.int .i64 M3,.bool MZ,.int .i64 Ke,.int .i64 MY,.slice vB.a vB.n vB.c]->K jZ):=by
 refine⟨w.k,w.r,w.f,w.s,w.e.r,w.e.s,w.e.p,w.e.l,au,w.o.r,w.o.s,w.o.p,w.o.l,au,hs.at i hi (o:=0) (n:=14) rfl,?_⟩;refine hs.put j hj (o:=0) (vs:=w.cs) rfl (bc 14) fun h' hs=>hK h' ?_;exact hs
theorem mu{K:List Ev}:∀ {L:List fT} {x:fT},cU K L=some x->x∈L/\x.m.ev∈K:=by
 intro L x;unfold cU
 suffices h:∀(l:List fT) (b:Option fT),(∀y,b=some y->y∈L/\y.m.ev∈K)->(∀y∈l,y∈L)->l.foldl (fj K) b=some x->x∈L/\x.m.ev∈K from h L none (fun y hy=>by cases hy) (fun y hy=>hy)
 intro l
 induction l with
 | nil=>intro b hb _ hx;exact hb x hx
 | cons a l ih=>
  intro b hb hl hx;refine ih (fj K b a) (fun y hy=>?_) (fun y hy=>hl y (Yn _ hy)) hx;unfold fj at hy;by_cases cO:a.m.ev∈K
  .rw[if_pos cO] at hy;cases b with
   | none=>cases hy;exact⟨hl _ Yx,cO⟩
   | some z=>
    simp only at hy;split at hy
    .cases hy;exact⟨hl _ Yx,cO⟩
    .exact hb y hy
  .rw[if_neg cO] at hy;exact hb y hy
def E7(g:Gl)(X:An):Prop:=∀q∈X.ar,∀y∈q.2,∃(i:Nat) (m:Ms),y=jr g i m/\i<g.es.length/\m∈dP g i
def vK(g:Gl)(role kind:Int)(X:An)(F:List Ac)(p:Pr):List Ac × AN × AN:=
 if kind=1 then (F,(match X.fi[p.1]?,X.fi[p.2]? with | some fs,some ft=>aI role ((fs.l.find? (dA ft.l)).getD ⟨false,0,0⟩) | _,_=>bp),bp)
 else if kind=4 then (match X.fi[p.2]?,X.ar[p.1]? with | some ft,some q=>(F++[(eA g.es ((cU ft.l q.2).getD dd).e.toNat).act]++gA g ((cU ft.l q.2).getD dd).e.toNat ((cU ft.l q.2).getD dd).m,aI role ((cU ft.l q.2).getD dd).m.ev,aI role ⟨false,(eA g.es ((cU ft.l q.2).getD dd).e.toNat).a,(eA g.es ((cU ft.l q.2).getD dd).e.toNat).l⟩) | _,_=>(F,bp,bp))
 else (F,bp,bp)
theorem Av(l:List Ac):∀r∈l.map Ac.cs,r.length=3:=fun r hr=>by obtain⟨x,_,rfl⟩:=Yp.1 hr;rfl
theorem Mj{h0 oo h6 cB h:Heap}{b ob lb:Nat}{kind role:Int}{wf ws:Sl}{p:Pr}{F S:List Ac}{g:Gl}{X:An}{kW:Int}{R:Value->Heap->Prop}
  (hs:St h0 oo (H9 cB.size h6.size lb ob kind role wf ws p F S++[.ae h.size cq.cs 35])) (hA:vP h0 b g role X) (hx:Gm h0) (hV:af g) (hp:(p.1:Int)<g.n/\(p.2:Int)<g.n) (Hn:∀q∈X.ar,∀x∈q.2,0<x.n) (yI:E7 g X) (hco:kind=4->(ff X kind p).isSome=true) (hF:F.length<=8388608)
  (hK:∀(h':Heap) (w:Wt) (L:List It),w.k=kind->w.r=role->w.e=(vK g role kind X F p).2.1->w.o=(vK g role kind X F p).2.2->St h0 h' (.sl w.f 65 3 ((vK g role kind X F p).1.map Ac.cs) :: .sl w.s 65 3 (S.map Ac.cs)::L)->R (.tuple ⟨[.agg ⟨w.cs⟩,.int .i64 kW]⟩) h') :
  R5 kind oo h6 ⟨b,0,none⟩ cB h R kW:=by
 unfold R5;obtain⟨fs,gs⟩:=get_some (l:=X.fi) (i:=p.1) (by rw[hA.nf];omega);obtain⟨ft,gt⟩:=get_some (l:=X.fi) (i:=p.2) (by rw[hA.nf];omega);obtain⟨q,gq⟩:=get_some (l:=X.ar) (i:=p.1) (by rw[hA.nr];omega);have hN:=hV.num.n;have hM:=hV.num.m;have hg:=hA.gg.gi;have ke:=hg.e.ln;have Fj:hc h0 ⟨b,8,none⟩=some (Value.int .i64 role):=hA.r.ro;refine dw (fun c=>?_) (fun c=>dw (fun c2=>?_) (fun c2=>?_))
 .refine⟨(p.1:Nat),(p.2:Nat),hs.at 1 rfl (o:=0) (n:=2) rfl,?_⟩;refine (ru ⟨b,0,none⟩ role X.cn X.cc X.bt X.cj X.fi X.li X.ag X.ow p.1 p.2 fs ft oo (hA.ext hs.ext).r gs gt).mono ?_;rintro v58 N2 ⟨E,hv⟩;replace hs:=hs.step E;have hex:vK g role kind X F p=(F,aI role ((fs.l.find? (dA ft.l)).getD ⟨false,0,0⟩),bp):=by unfold vK;rw[if_pos c,gs,gt]
  rw[hex] at hK;have NA:v58=Value.tuple ⟨[Value.agg ⟨((fs.l.find? (dA ft.l)).getD ⟨false,0,0⟩).cs⟩,Value.bool (fs.l.find? (dA ft.l)).isSome]⟩:=by rw[hv];cases fs.l.find? (dA ft.l)<;>rfl
  clear hv;subst NA;generalize (fs.l.find? (dA ft.l)).getD ⟨false,0,0⟩=x at *;refine⟨x.send,x.peer,x.label,_,rfl,?_⟩;refine hs.ao (vs:=x.cs) rfl rfl fun Qf hs=>?_;refine⟨x.send,x.peer,x.label,hs.at 0 rfl (o:=0) (n:=3) rfl,?_⟩;refine (mc b role x Qf (ax hs.ext Fj)).mono ?_;rintro _ mG ⟨E3,rfl⟩;replace hs:=hs.step E3;refine⟨role,x.send,x.peer,x.label,au,rfl,?_⟩;refine hs.put 1 rfl (o:=4) (vs:=(aI role x).cs) rfl (by show 4+5<=14;decide) fun LW hs=>?_;refine Ah hs 1 6 (w:=⟨kind,role,wf,ws,aI role x,bp⟩) (w0:=cq) rfl rfl fun jZ hs=>?_;refine oL (w:=⟨kind,role,wf,ws,aI role x,bp⟩) (Q:=fun cs=>R (.tuple ⟨[.agg ⟨cs⟩,.int .i64 kW]⟩) jZ) (hs.at 6 rfl (o:=0) (n:=14) rfl) ?_;exact hK jZ ⟨kind,role,wf,ws,aI role x,bp⟩ _ rfl rfl rfl rfl (hs.drop 4)
 .refine⟨(p.1:Nat),(p.2:Nat),hs.at 1 rfl (o:=0) (n:=2) rfl,?_⟩;refine (rF b g role X p.1 p.2 ft q oo (hA.ext hs.ext) gt gq (Hn q (Yb gq))).mono ?_;rintro _ HJ ⟨E,rfl⟩;replace hs:=hs.step E;obtain⟨y,hy⟩:∃y,cU ft.l q.2=some y:=by
   have h9:=hco c2;unfold ff at h9;rw[if_neg c,if_neg (by omega),gt,gq] at h9;simp only[Option.isSome_map] at h9;exact Option.isSome_iff_exists.1 h9
  obtain⟨i,m,rfl,oU,PJ⟩:=yI q (Yb gq) y (mu hy).1;obtain⟨x0,jG⟩:=get_some oU;have kK:=aL jG;have hex:vK g role kind X F p=(F++[x0.act]++gA g i m,aI role m.ev,aI role ⟨false,x0.a,x0.l⟩):=by
   have h8:vK g role kind X F p=(F++[(eA g.es ((cU ft.l q.2).getD dd).e.toNat).act]++gA g ((cU ft.l q.2).getD dd).e.toNat ((cU ft.l q.2).getD dd).m,aI role ((cU ft.l q.2).getD dd).m.ev,aI role ⟨false,(eA g.es ((cU ft.l q.2).getD dd).e.toNat).a,(eA g.es ((cU ft.l q.2).getD dd).e.toNat).l⟩):=by
    unfold vK;rw[if_neg c,if_pos c2,gt,gq]
   rw[h8,hy];show (F++[(eA g.es i).act]++gA g i m,aI role m.ev,aI role ⟨false,(eA g.es i).a,(eA g.es i).l⟩)=_;rw[kK]
  rw[hex] at hK;rw[hy];refine⟨(i:Int),(jr g i m).n,m.p,m.l,_,rfl,?_⟩;refine hs.ao (vs:=(jr g i m).cs) rfl rfl fun Qt hs=>?_;refine⟨bs g.nm,g.hr,g.hd,g.n,g.s,g.e,g.he,g.ht,(gh hs.ext hA.gg.at_).Dk 8 rfl,?_⟩;refine⟨(i:Int),hs.rd 0 rfl (i:=0) rfl,m.p,m.l,hs.at 0 rfl (o:=2) (n:=2) rfl,?_⟩;refine (A9 g i x0 m Qt (hg.ext hs.ext) (hx.ext hs.ext) hV jG PJ).mono ?_;rintro _ XF ⟨E3,sp,rfl,Fh,de⟩;replace hs:=hs.join Fh;have Hf:=hs.len 7 (s:=sp) (e:=65) (n:=3) rfl (by omega);rw[Yc] at Hf;refine⟨sp,0,rfl,g.he,ax hs.ext (hA.gg.at_.nth 6 rfl),(i:Int),hs.rd 0 rfl (i:=0) rfl,?_⟩;refine (hg.e.rw.ext hs.ext).aA (by omega) (by omega) fun b20 o21 x gx u3=>?_;replace gx:g.es[i]?=some x:=gx;rw[jG] at gx;cases gx;refine⟨x0.a,x0.b,x0.l,u3.sub 1 3 rfl,?_⟩;refine hs.aq fun ahU E4 hs=>⟨E4.sm,?_⟩;refine hs.put 0 rfl (o:=0) (vs:=x0.act.cs) rfl (bc 3) fun aei hs=>?_;refine⟨wf,hs.rd 2 rfl (i:=2) rfl,x0.a,x0.b,x0.l,hs.at 0 rfl (o:=0) (n:=3) rfl,?_⟩;have acI:=(hs.len 5 (s:=wf) (e:=65) (n:=3) rfl (by omega)).1;rw[Yc] at acI;refine hs.app 5 rfl eM (m:=1) [x0.act.cs] rfl rfl (fun r hr=>by rw[Ye] at hr;rw[hr];rfl) rfl (by omega) (by simp only[maxLen];omega) fun afW aeg n141 hs=>?_;refine hs.dZ 5 rfl eM (hs.rows 8 rfl (by omega)) (Av _) Hf.2.2 (y4 (fun _=>rfl) _) (by omega) (by simp only[maxLen];omega) fun yR xB n143 hs=>?_;refine hs.put 2 rfl (o:=2) (vs:=[.slice yR.a yR.n yR.c]) rfl (by show 2+1<=14;decide) fun XB hs=>?_;refine⟨m.p,hs.rd 1 rfl (i:=2) rfl,m.l,hs.rd 1 rfl (i:=3) rfl,?_⟩;refine (mc b role m.ev XB (ax hs.ext Fj)).mono ?_;rintro _ aed ⟨E5,rfl⟩;replace hs:=hs.step E5;refine⟨role,false,m.p,m.l,au,rfl,?_⟩;refine hs.put 2 rfl (o:=4) (vs:=(aI role m.ev).cs) rfl (by show 4+5<=14;decide) fun HH hs=>?_;refine⟨x0.a,hs.rd 0 rfl (i:=0) rfl,x0.l,hs.rd 0 rfl (i:=2) rfl,?_⟩;refine (mc b role ⟨false,x0.a,x0.l⟩ HH (ax hs.ext Fj)).mono ?_;rintro _ ahT ⟨E6,rfl⟩;replace hs:=hs.step E6;refine⟨role,false,x0.a,x0.l,au,rfl,?_⟩;refine hs.put 2 rfl (o:=9) (vs:=(aI role ⟨false,x0.a,x0.l⟩).cs) rfl (by show 9+5<=14;decide) fun ahS hs=>?_;refine Ah hs 2 7 (w:=⟨kind,role,yR,ws,aI role m.ev,aI role ⟨false,x0.a,x0.l⟩⟩) (w0:=cq) rfl rfl fun jZ hs=>?_;refine oL (w:=⟨kind,role,yR,ws,aI role m.ev,aI role ⟨false,x0.a,x0.l⟩⟩) (Q:=fun cs=>R (.tuple ⟨[.agg ⟨cs⟩,.int .i64 kW]⟩) jZ) (hs.at 7 rfl (o:=0) (n:=14) rfl) ?_;refine hK jZ ⟨kind,role,yR,ws,aI role m.ev,aI role ⟨false,x0.a,x0.l⟩⟩ [.ae h.size (Wt.cs ⟨kind,role,yR,ws,aI role m.ev,aI role ⟨false,x0.a,x0.l⟩⟩) 35,.sl sp 65 3 ((gA g i m).map Ac.cs)] rfl rfl rfl rfl ?_;have hs:=hs.drop 5;simp only[Ym];exact hs
 .refine Ah hs 0 5 (w:=⟨kind,role,wf,ws,bp,bp⟩) (w0:=cq) rfl rfl fun jZ hs=>?_;refine oL (w:=⟨kind,role,wf,ws,bp,bp⟩) (Q:=fun cs=>R (.tuple ⟨[.agg ⟨cs⟩,.int .i64 kW]⟩) jZ) (hs.at 5 rfl (o:=0) (n:=14) rfl) ?_;have hex:vK g role kind X F p=(F,bp,bp):=by unfold vK;rw[if_neg c,if_neg c2]
  rw[hex] at hK;exact hK jZ ⟨kind,role,wf,ws,bp,bp⟩ _ rfl rfl rfl rfl (hs.drop 3)
theorem Dn.lst{mv:Pr->List aP}{bu:Pr->Option Nat}{p:Pr}{k:Nat}(hL:iR mv bu p k)(bE:bu p≠some k):∃m∈mv p,∃n,iR mv bu (bj m) n/\n+bO m=k:=by
 obtain⟨hd,hl⟩:=hL;cases hd with
 | base h=>exact absurd h bE
 | step hm hn=>exact⟨_,hm,_,⟨hn,fun j hj=>by have:=hl _ (.step hm hj);omega⟩,rfl⟩
theorem iR.uniq{mv:Pr->List aP}{bu:Pr->Option Nat}{p:Pr}{k n:Nat}(h1:iR mv bu p k)(h2:iR mv bu p n):k=n:=Nat.le_antisymm (h1.2 n h2.1) (h2.2 k h1.1)
noncomputable def dL(mv:Pr->List aP)(bu:Pr->Option Nat)(p:Pr):Int:=by
 classical exact if h:∃n,iR mv bu p n then (Classical.choose h:Nat) else aH
theorem jo{mv:Pr->List aP}{bu:Pr->Option Nat}{p:Pr}{n:Nat}(h:iR mv bu p n):dL mv bu p=n:=by
 unfold dL;rw[dif_pos ⟨n,h⟩];have:=iR.uniq (Classical.choose_spec (⟨n,h⟩:∃n,iR mv bu p n)) h;omega
theorem tM{mv:Pr->List aP}{bu:Pr->Option Nat}{p:Pr}(h:∀n,¬iR mv bu p n):dL mv bu p=aH:=by
 unfold dL;rw[dif_neg (fun ⟨n,h9⟩=>h n h9)]
def eP(g:Gl):Pr:=(g.s.toNat,g.s.toNat)
inductive Ty (g:Gl) (role kind:Int) (X:An) (h h':Heap):Value->Prop
 | jL (hn:∀n,¬iR (bB g role) (fg X kind) (eP g) n) (E:Ext h h'):Ty g role kind X h h' (.tuple ⟨[.agg ⟨cq.cs⟩,.int .i64 aH]⟩)
 | hit {n:Nat} {D:Pr->Int} {ms:List aP} {p:Pr} {w:Wt} {L:List It} (hl:iR (bB g role) (fg X kind) (eP g) n) (hn:n<=8388608) (hD:∀q,dC g role q->D q=dL (bB g role) (fg X kind) q) (hG:nO (bB g role) (ff X kind) D (eP g) ms p) (hc:ff X kind p=some (D p))
   (hk:w.k=kind) (hr:w.r=role) (he:w.e=(vK g role kind X (facts g ms) p).2.1) (ho:w.o=(vK g role kind X (facts g ms) p).2.2)
   (hs:St h h' (.sl w.f 65 3 ((vK g role kind X (facts g ms) p).1.map Ac.cs) :: .sl w.s 65 3 ((cx g ms).map Ac.cs)::L)):Ty g role kind X h h' (.tuple ⟨[.agg ⟨w.cs⟩,.int .i64 (n:Nat)]⟩)
theorem kP(b:Nat)(g:Gl)(role:Int)(X:An)(kind:Int)(all:Sl)(mb:Nat)(A:List Pr)(l:List (Pr × Sl))(CB:Nat)(h:Heap)(hA:vP h b g role X)(hx:Gm h)(hV:af g)(hM:J8 h g role all mb A l)(hC:Tx X kind A CB)(yI:E7 g X):
  Fn Pz 96 #[.pointer (some ⟨b,0,none⟩),.int .i64 kind,.slice all.a all.n all.c,.map (some mb)] h fun v h'=>Ty g role kind X h h' v:=by
 apply abi ⟨b,0,none⟩ kind all (some mb);unfold W96;have hN:=hV.num.n;have hE:=hV.num.m;have BQ:∀p∈A,(p.1:Int)<g.n/\(p.2:Int)<g.n:=fun p hp=>((hM.pr p).1 hp).lt hV;have uP:∀p∈A,eI p:=fun p hp=>by have:=BQ p hp;exact⟨by omega,by omega⟩
 have eR:∀p∈A,∀m∈bB g role p,bj m∈A:=fun p hp m hm=>(hM.pr _).2 (.step ((hM.pr p).1 hp) hm);have Th:eP g∈A:=(hM.pr _).2 .start;have Wx:pC (eP g)=[.int .i64 g.s,.int .i64 g.s]:=by unfold pC eP;simp only;rw[Int.toNat_of_nonneg (by omega)]
 have hA4:A.length<=40000:=by
  have h1:=jK (n:=g.n.toNat) hM.nd fun p hp=>by have:=BQ p hp;exact⟨by omega,by omega⟩
  have h2:g.n.toNat*g.n.toNat<=200*200:=Nat.mul_le_mul (by omega) (by omega);omega
 have hCb:=hC.b;refine (St.refl h).aj fun h1 dx=>?_;refine (Lk b g role X kind all mb A l CB h1 (hA.ext dx.ext) hV (hM.ext dx.ext) hC).mono ?_;rintro _ h4 ⟨E4,ob,O,rfl,NO,hk,hn,hO⟩;refine⟨some ob,rfl,?_⟩;have ik:=dx.step E4;have hX4:=ik.ext;have HD:=hA.ext hX4;have P9:=hM.ext hX4;have LP:∀q∈A,0<=dO O q/\dO O q<=aH:=fun q hq=>by
  have h9:=fun k=>(hO q hq k).2;unfold dO aH;cases hg:aU O q with
  | none=>exact⟨by decide,by decide⟩
  | some k=>have:=h9 k hg;simp only[Option.elim];omega
 have hdL:∀q,dC g role q->dO O q=dL (bB g role) (fg X kind) q:=fun q hq=>by
  have hqA:=(hM.pr q).2 hq;unfold dO;cases hg:aU O q with
  | none=>exact (tM fun n hn=>by rw[((hO q hqA n).1).2 hn] at hg;cases hg).symm
  | some k=>exact (jo (((hO q hqA k).1).1 hg)).symm
 refine (St.refl h4).ao (vs:=[.map (some ob)]) rfl rfl fun h6 hs=>?_;refine⟨g.s,ax hs.ext (HD.gg.at_.nth 4 rfl),g.s,ax hs.ext (HD.gg.at_.nth 4 rfl),?_⟩;refine hs.aq fun h9 E9 hs=>⟨E9.sm,?_⟩;refine hs.put 0 rfl (o:=0) (vs:=[.int .i64 g.s,.int .i64 g.s]) rfl (bc 2) fun cw hs=>?_;refine⟨some ob,hs.rd 1 rfl (i:=0) rfl,g.s,g.s,hs.at 0 rfl (o:=0) (n:=2) rfl,?_⟩;have zY:=Cp ob O (eP g) cw (NO.bW fun b hb=>hs.ext.2 b (NO.lt hb)) hk hn (uP _ Th);rw[Wx] at zY;refine zY.mono ?_;rintro _ cB ⟨rfl,E16⟩;replace hs:=hs.step E16;refine⟨_,rfl,dw (fun c=>?_) (fun c=>?_)⟩
 .have hs:=ik.join hs;refine hs.put 0 rfl (o:=0) (vs:=cq.cs) rfl (bc 14) fun iQ hs=>?_;refine oL (w:=cq) (Q:=fun cs=>Ty g role kind X h iQ (.tuple ⟨[.agg ⟨cs⟩,.int .i64 1073741824]⟩)) (hs.at 0 rfl (o:=0) (n:=14) rfl) ?_;refine .jL (fun n hl=>?_) hs.ext;have h9:=(hO _ Th n).1.2 hl;have cw:=(hO _ Th n).2 h9;unfold dO at c;rw[h9] at c;simp only[Option.elim] at c;omega
 .obtain⟨k0,Fm⟩:∃k0,aU O (eP g)=some k0:=by
   cases hg:aU O (eP g) with
   | none=>unfold dO at c;rw[hg] at c;exact absurd rfl c
   | some k=>exact⟨k,rfl⟩
  have yE:dO O (eP g)=(k0:Int):=by unfold dO;rw[Fm];rfl
  have agU:=(hO _ Th k0).2 Fm;refine⟨role,ax hs.ext HD.r.ro,?_⟩;refine hs.ao (vs:=(Wt.cs ⟨kind,role,au,au,bp,bp⟩)) rfl rfl fun oq hs=>?_;have hs:=((hs.bH 65 3).bH 65 3).perm (List.perm_append_comm (l₁:=[_,_]) (l₂:=[_,_,_]));refine⟨fun h' μ=>∃(ms:List aP) (p:Pr) (wf ws:Sl) (k:Nat),μ=k/\aU O p=some k/\p∈A/\St h4 h' (H9 cB.size h6.size h4.size ob kind role wf ws p (facts g ms) (cx g ms))/\nO (bB g role) (ff X kind) (dO O) (eP g) ms p/\ms.length+k<=8388608,⟨_,[],eP g,au,au,k0,rfl,Fm,Th,?_,.nil,?_⟩,?_⟩
  .unfold H9;rw[Wx];exact hs
  .simp only[List.length_nil];omega
  clear hs;rintro-sD k ⟨ms,p,wf,ws,k9,rfl,sy,oT,hs,hG,Fl⟩;have Ej:dO O p=(k:Int):=by unfold dO;rw[sy];rfl
  have PG:=(hO p oT k).2 sy;have hLp:=(hO p oT k).1.1 sy;have fO:=nF g ms;have n9:=sU g ms
  have stp:∀(oo:Heap),St h4 oo (H9 cB.size h6.size h4.size ob kind role wf ws p (facts g ms) (cx g ms))->ff X kind p≠some (dO O p) ->
    IH oo h6 (some mb) h4 cB ⟨b,0,none⟩ k (fun h' μ=>∃(ms:List aP) (p:Pr) (wf ws:Sl) (k:Nat),μ=k/\aU O p=some k/\p∈A/\St h4 h' (H9 cB.size h6.size h4.size ob kind role wf ws p (facts g ms) (cx g ms))/\nO (bB g role) (ff X kind) (dO O) (eP g) ms p/\ms.length+k<=8388608):=by
   intro oo hs bE;have PA:fg X kind p≠some k:=fun e=>by
    unfold fg at e;cases B4:ff X kind p with
    | none=>rw[B4] at e;cases e
    | some c=>
     have h1:=hC.c p oT c B4;rw[B4] at e;simp only[Option.map_some,Option.some.injEq] at e;exact bE (by rw[B4,Ej];congr 1;omega)
   obtain⟨m,hm,n,WC,hnk⟩:=Dn.lst hLp PA;have hmA:=eR p oT m hm;have hgn:=(hO _ hmA n).1.2 WC;have lV:qD (dO O) p m=true:=by
    unfold qD;refine decide_eq_true ?_;rw[Ej];have:dO O (bj m)=(n:Int):=by unfold dO;rw[hgn];rfl
    omega
   cases gG:(bB g role p).findIdx? (qD (dO O) p) with
   | none=>
    rw[List.findIdx?_eq_none_iff] at gG;rw[gG m hm] at lV;cases lV
   | some k2=>
    obtain⟨h1,h2,_⟩:=List.findIdx?_eq_some_iff_getElem.1 gG;have gm2:(bB g role p)[k2]?=some (bB g role p)[k2]:=Yi h1;generalize kd:(bB g role p)[k2]=m2 at *;have h3:(bO m2:Int)+dO O (bj m2)=dO O p:=cm h2;have acY:=eR p oT m2 (Yb gm2);have de:=bM m2;obtain⟨k',tB⟩:∃k',aU O (bj m2)=some k':=by
     cases hg:aU O (bj m2) with
     | none=>unfold dO at h3;rw[hg,sy] at h3;simp only[Option.elim,aH] at h3;omega
     | some k'=>exact⟨k',rfl⟩
    have Hx:dO O (bj m2)=(k':Int):=by unfold dO;rw[tB];rfl
    refine Kr hs HD hV P9 NO hk hn oT gG gm2 (by omega) (by omega) LP fun h' Fb ws' hs=>⟨k',by omega,ms++[m2],bj m2,Fb,ws',k',rfl,tB,acY,?_,.snoc hG bE gG gm2,by rw[Yh,Yv];omega⟩;rw[rj,qh];exact hs
  refine⟨(p.1:Nat),(p.2:Nat),hs.at 1 rfl (o:=0) (n:=2) rfl,?_⟩;refine (xR b g role X kind p sD (HD.ext hs.ext) (BQ p oT) hC.a).mono ?_;rintro _ xA ⟨E,rfl⟩;replace hs:=hs.step E;refine⟨_,_,rfl,aa (fun c1=>?_) (fun c1=>?_)⟩
  .obtain⟨n1,BT⟩:=Option.isSome_iff_exists.1 c1;refine⟨some ob,hs.rd 2 rfl (i:=0) rfl,(p.1:Nat),(p.2:Nat),hs.at 1 rfl (o:=0) (n:=2) rfl,?_⟩;refine (Cp ob O p xA (NO.bW fun b hb=>hs.ext.2 b (NO.lt hb)) hk hn (uP p oT)).mono ?_;rintro _ oo ⟨rfl,E50⟩;replace hs:=hs.step E50;refine⟨_,rfl,dw (fun c2=>?_) (fun c2=>?_)⟩
   .have Fq:ff X kind p=some (dO O p):=by rw[BT] at c2 ⊢;exact congrArg some c2
    have hs:=(ik.join hs).perm (List.perm_append_comm (l₁:=[_]) (l₂:=H9 cB.size h6.size h4.size ob kind role wf ws p (facts g ms) (cx g ms)));refine Mj hs hA hx hV (BQ p oT) hC.a yI (fun _=>c1) (by omega) fun h' w L h1 h2 h3 h4 hs=>?_;rw[yE];exact .hit ((hO _ Th k0).1.1 Fm) (by omega) hdL hG Fq h1 h2 h3 h4 hs
   .exact stp oo hs fun e=>c2 (by rw[e];rfl)
  .exact FP (stp xA hs fun e=>by rw[e] at c1;cases c1)
end Go.VC
end

section
namespace Go.VC
inductive r7 (es:List Ed) (MX:Nat->Prop):Nat->Nat->Prop
 | base {s:Nat}:MX s->r7 es MX s 0
 | step {s:Nat} {e:Ed} {n:Nat}:e∈es->e.f=(s:Int)->r7 es MX e.t.toNat n->r7 es MX s (n+1)
def fS(es:List Ed)(MX:Nat->Prop)(s n:Nat):Prop:=r7 es MX s n/\∀k,r7 es MX s k->n<=k
def df:Int:=1073741824
structure nP (g:Gl) (MX:Nat->Prop) (LF:List Int) (Q:List Nat) (hd c:Nat):Prop where
 ln:LF.length=g.n.toNat
 d:∀(s:Nat) x,LF[s]?=some x->x=df\/(∃k:Nat,x=(k:Int)/\r7 g.es MX s k/\k<=c)
 q:∀s:Nat,s∈Q ↔ ∃x,LF[s]?=some x/\x≠df
 nd:Q.Nodup
 m:∀s:Nat,s<g.n.toNat->MX s->LF[s]?=some 0
 so:∀(i j s t:Nat) x y,i<=j->Q[i]?=some s->Q[j]?=some t->LF[s]?=some x->LF[t]?=some y->x<=y
 hi:∀(s t:Nat) x y,Q[hd]?=some s->t∈Q->LF[s]?=some x->LF[t]?=some y->y<=x+1
 cl:∀(i t:Nat) x,i<hd->Q[i]?=some t->LF[t]?=some x->∀e∈g.es,e.t=(t:Int)->∃y,LF[e.f.toNat]?=some y/\y<=x+1
theorem nP.lt{g:Gl}{MX:Nat->Prop}{LF:List Int}{Q:List Nat}{hd c:Nat}(h:nP g MX LF Q hd c){s:Nat}(hs:s∈Q):s<g.n.toNat:=by
 obtain⟨x,hx,_⟩:=(h.q s).1 hs;have:=(Ya.1 hx).1;rw[h.ln] at this;exact this
theorem nP.len{g:Gl}{MX:Nat->Prop}{LF:List Int}{Q:List Nat}{hd c:Nat}(h:nP g MX LF Q hd c):Q.length<=g.n.toNat:=by
 have:=List.Nodup.length_le_of_subset h.nd (l₂:=List.range g.n.toNat) fun s hs=>List.mem_range.2 (h.lt hs)
 rwa [kV] at this
theorem nP.val{g:Gl}{MX:Nat->Prop}{LF:List Int}{Q:List Nat}{hd c:Nat}(h:nP g MX LF Q hd c){s:Nat}(hs:s∈Q):∃k:Nat,LF[s]?=some (k:Int)/\r7 g.es MX s k/\k<=c:=by
 obtain⟨x,hx,hf⟩:=(h.q s).1 hs;rcases h.d s x hx with rfl | ⟨k,rfl,hk⟩
 .exact absurd rfl hf
 .exact⟨k,hx,hk⟩
theorem nP.TC{g:Gl}{MX:Nat->Prop}{LF:List Int}{Q:List Nat}{hd c c':Nat}(h:nP g MX LF Q hd c)(hc:c<=c'):nP g MX LF Q hd c':=
 { h with d:=fun s x hx=>(h.d s x hx).imp id fun ⟨k,h1,h2,h3⟩=>⟨k,h1,h2,by omega⟩ }
theorem nP.put{g:Gl}{MX:Nat->Prop}{LF:List Int}{Q:List Nat}{hd c:Nat}(h:nP g MX LF Q hd c){t s:Nat}{e:Ed}{x:Nat}(ht:Q[hd]?=some t)(hx:LF[t]?=some (x:Int))(hxc:x+1<=c)(hc:c<=100000)(he:e∈g.es)(h1:e.t=(t:Int))(h2:e.f=(s:Int))(hs:LF[s]?=some df):
  nP g MX (LF.set s ((x:Int)+1)) (Q++[s]) hd c:=by
 have n9:=(Ya.1 hs).1;have bK:s∉Q:=fun hm=>by
  obtain⟨y,hy,hf⟩:=(h.q s).1 hm;rw[hs] at hy;cases hy;exact hf rfl
 have hdt:r7 g.es MX t x:=by
  rcases h.d t _ hx with h9 | ⟨k,h9,cw,_⟩
  .exact absurd h9 (by unfold df;omega)
  .have:k=x:=by omega
   subst this;exact cw
 have qB:∀ {u:Nat},u∈Q->(LF.set s ((x:Int)+1))[u]?=LF[u]?:=fun {u} hu=>Yy (fun e=>bK (by rw[e];exact hu));have yD:=(Ya.1 ht).1;refine⟨by rw[jR];exact h.ln,fun u y hu=>?_,fun u=>?_,?_,fun u hu hm=>?_,fun i j a b y z hij ha hb hy hz=>?_,fun a b y z ha hb hy hz=>?_,fun i a y hi ha hy e' LJ JT=>?_⟩
 .by_cases e1:s=u
  .subst e1;rw[Yq n9] at hu;cases hu;refine .inr ⟨x+1,by omega,.step he h2 ?_,hxc⟩;rw[h1,Ys];exact hdt
  .rw[Yy e1] at hu;exact h.d u y hu
 .rw[Yk,Ye];by_cases e1:s=u
  .subst e1;rw[Yq n9];exact iff_of_true (.inr rfl) ⟨_,rfl,by unfold df;omega⟩
  .rw[Yy e1,<-h.q u];exact⟨fun h9=>h9.elim id fun e=>absurd e.symm e1,.inl⟩
 .rw[List.nodup_append];exact⟨h.nd,by simp,fun a ha b hb e=>by rw[Ye] at hb;subst hb;subst e;exact bK ha⟩
 .have h9:=h.m u hu hm;rw[Yy (fun e=>by subst e;rw[hs] at h9;exact absurd (fL h9) (by unfold df;decide))];exact h9
 .rcases Nat.lt_or_ge j Q.length with hj | hj
  .rw[jt hj] at hb;rw[jt (by omega)] at ha;rw[qB (Yb ha)] at hy;rw[qB (Yb hb)] at hz;exact h.so i j a b y z hij ha hb hy hz
  .have BV:=(Ya.1 hb).1;rw[Yh,Yv] at BV;rw[tT hj,show j-Q.length=0 by omega] at hb;cases hb;rw[Yq n9] at hz;cases hz;rcases Nat.lt_or_ge i Q.length with hi | hi
   .rw[jt hi] at ha;rw[qB (Yb ha)] at hy;exact h.hi t a _ y ht (Yb ha) hx hy
   .rw[tT hi,show i-Q.length=0 by omega] at ha;cases ha;rw[Yq n9] at hy;cases hy;omega
 .rw[jt yD,ht] at ha;cases ha;rw[qB (Yb ht),hx] at hy;cases hy;rcases Yk.1 hb with hb | hb
  .rw[qB hb] at hz;exact h.hi t b _ z ht hb hx hz
  .rw[Ye] at hb;subst hb;rw[Yq n9] at hz;cases hz;omega
 .rw[jt (by omega)] at ha;rw[qB (Yb ha)] at hy;obtain⟨z,h3,h4⟩:=h.cl i a y hi ha hy e' LJ JT;have hyb:y<=c:=by
   obtain⟨k,h5,_,h6⟩:=h.val (Yb ha);rw[h5] at hy;cases hy;omega
  refine⟨z,?_,h4⟩;rw[Yy (fun e=>by rw[<-e,hs] at h3;cases h3;unfold df at h4;omega)];exact h3
theorem nP.next{g:Gl}{MX:Nat->Prop}{LF:List Int}{Q:List Nat}{hd c:Nat}(h:nP g MX LF Q hd c){t x:Nat}(ht:Q[hd]?=some t)(hx:LF[t]?=some (x:Int))(eR:∀e∈g.es,e.t=(t:Int)->∃y,LF[e.f.toNat]?=some y/\y<=x+1):nP g MX LF Q (hd+1) c:=by
 refine⟨h.ln,h.d,h.q,h.nd,h.m,h.so,fun s u y z hs hu hy hz=>?_,fun i a y hi ha hy e he het=>?_⟩
 .have h1:=h.hi t u _ z ht hu hx hz;have h2:=h.so hd (hd+1) t s _ y (by omega) ht hs hx hy;omega
 .by_cases e1:i=hd
  .subst e1;rw[ht] at ha;cases ha;rw[hx] at hy;cases hy;exact eR e he het
  .exact h.cl i a y (by omega) ha hy e he het
theorem nP.fin{g:Gl}{MX:Nat->Prop}{LF:List Int}{Q:List Nat}{c:Nat}(h:nP g MX LF Q Q.length c)(hc:c<=100000)(hE:∀e∈g.es,0<=e.f/\0<=e.t/\e.t<g.n){s k:Nat}(hd:r7 g.es MX s k):s<g.n.toNat->∃y:Nat,LF[s]?=some (y:Int)/\y<=k/\y<=c/\r7 g.es MX s y:=by
 induction hd with
 | base hm=>exact fun hs=>⟨0,h.m _ hs hm,bc _,Nat.zero_le _,.base hm⟩
 | @step s e k he hf hd ih=>
  intro hs;have hE1:=hE e he;obtain⟨y,h1,h2,Tg,h3⟩:=ih (by omega);have hq:e.t.toNat∈Q:=(h.q _).2 ⟨_,h1,fun e9=>by unfold df at e9;omega⟩;obtain⟨i,hi⟩:=Yf.1 hq;obtain⟨z,h4,h5⟩:=h.cl i e.t.toNat _ (Ya.1 hi).1 hi h1 e he (by omega);have WU:e.f.toNat=s:=by omega
  rw[WU] at h4;rcases h.d s z h4 with rfl | ⟨k',rfl,h6,h7⟩
  .unfold df at h5;omega
  .exact⟨k',h4,by omega,h7,h6⟩
theorem nP.lst{g:Gl}{MX:Nat->Prop}{LF:List Int}{Q:List Nat}{c:Nat}(h:nP g MX LF Q Q.length c)(hc:c<=100000)(hE:∀e∈g.es,0<=e.f/\0<=e.t/\e.t<g.n){s:Nat}(hs:s<g.n.toNat):
  (LF[s]?=some df/\∀k,¬r7 g.es MX s k)\/∃k:Nat,LF[s]?=some (k:Int)/\fS g.es MX s k/\k<=c:=by
 obtain⟨x,hx⟩:=get_some (l:=LF) (i:=s) (by rw[h.ln];exact hs);rcases h.d s x hx with rfl | ⟨k,rfl,h1,h2⟩
 .refine .inl ⟨hx,fun k hk=>?_⟩;obtain⟨y,h3,_,h4,_⟩:=h.fin hc hE hk hs;rw[hx] at h3;have:=fL h3;unfold df at this;omega
 .refine .inr ⟨k,hx,⟨h1,fun j hj=>?_⟩,h2⟩;obtain⟨y,h3,h4,_⟩:=h.fin hc hE hj hs;rw[hx] at h3;have:=fL h3;omega
theorem fS.next{es:List Ed}{MX:Nat->Prop}{s k:Nat}(h:fS es MX s (k+1)):∃e∈es,e.f=(s:Int)/\fS es MX e.t.toNat k:=by
 obtain⟨hd,hl⟩:=h;cases hd with
 | step he hf hn=>exact⟨_,he,hf,hn,fun j hj=>by have:=hl _ (.step he hf hj);omega⟩
theorem fS.uniq{es:List Ed}{MX:Nat->Prop}{s k n:Nat}(h1:fS es MX s k)(h2:fS es MX s n):k=n:=Nat.le_antisymm (h1.2 n h2.1) (h2.2 k h1.1)
theorem nP.init{g:Gl}{MX:Nat->Prop}{LF:List Int}{Q:List Nat}{c:Nat}(ln:LF.length=g.n.toNat)(h:∀s:Nat,s<g.n.toNat->(MX s/\LF[s]?=some 0/\s∈Q)\/(¬MX s/\LF[s]?=some df/\s∉Q))(hq:∀s∈Q,s<g.n.toNat)(nd:Q.Nodup):nP g MX LF Q 0 c:=by
 have hv:∀ {s:Nat} {x:Int},s∈Q->LF[s]?=some x->x=0:=fun {s x} hs hx=>by
  rcases h s (hq s hs) with ⟨_,h2,_⟩ | ⟨_,_,h2⟩
  .rw[hx] at h2;exact fL h2
  .exact absurd hs h2
 refine⟨ln,fun s x hx=>?_,fun s=>?_,nd,fun s hs hm=>?_,fun i j s t x y _ hs ht hx hy=>?_,fun s t x y hs ht hx hy=>?_,fun i t x hi=>by omega⟩
 .have hs:s<g.n.toNat:=by rw[<-ln];exact (Ya.1 hx).1
  rcases h s hs with ⟨h1,h2,_⟩ | ⟨_,h2,_⟩
  .rw[hx] at h2;exact .inr ⟨0,fL h2,.base h1,Nat.zero_le _⟩
  .rw[hx] at h2;exact .inl (fL h2)
 .constructor
  .intro hs;rcases h s (hq s hs) with ⟨_,h2,_⟩ | ⟨_,_,h2⟩
   .exact⟨0,h2,by unfold df;decide⟩
   .exact absurd hs h2
  .rintro⟨x,hx,hf⟩;have hs:s<g.n.toNat:=by rw[<-ln];exact (Ya.1 hx).1
   rcases h s hs with ⟨_,_,h2⟩ | ⟨_,h2,_⟩
   .exact h2
   .rw[hx] at h2;exact absurd (fL h2) hf
 .rcases h s hs with ⟨_,h2,_⟩ | ⟨h2,_,_⟩
  .exact h2
  .exact absurd hm h2
 .rw[hv (Yb hs) hx,hv (Yb ht) hy];exact Int.le_refl _
 .rw[hv (Yb hs) hx,hv ht hy];omega
end Go.VC
end

section
namespace Go.VC
open Go.Proofs Go.LexS
theorem QX(b:Nat)(g:Gl)(k:Nat)(x:Ed)(LF:List Int)(lf:Sl)(s:Nat)(AP kW:Int)(c0 c1 c2:Addr)(h:Heap)(h0:hc h c0=some (Value.slice lf.a lf.n lf.c))(h1:hc h c1=some (Value.pointer (some ⟨b,0,none⟩)))(h2:hc h c2=some (Value.int .i64 (s:Nat)))
  (Fj:hc h ⟨b,6,none⟩=some (Value.slice g.he.a g.he.n g.he.c)) (hg:GI h g) (hr:Rw h 1 lf (LF.map aO)) (hk:g.es[k]?=some x) (ht:0<=x.t) (hx:LF[x.t.toNat]?=some AP) (hs:LF[s]?=some kW) (hb:0<=kW/\kW<=df) :
  Fn Pz 173 #[.int .i64 (k:Nat),.pointer (some c0),.pointer (some c1),.pointer (some c2)] h fun v h'=>v=.bool (decide (AP=kW-1))/\Ext h h':=by
 apply UK (k:Nat) c0 c1 c2;unfold Z5;have qT:=(Ya.1 hk).1;have BN:=(Ya.1 hx).1;have n9:=(Ya.1 hs).1;have ke:=hg.e.ln;have sx:=hr.ln;unfold df at hb;refine⟨lf,h0,some ⟨b,0,none⟩,h1,?_⟩;show ∃x4:Sl,hc h ⟨b,0+6,none⟩=some (.slice x4.a x4.n x4.c)/\_;refine⟨g.he,Fj,?_⟩;refine hg.e.rw.aA (by omega) (by omega) fun b5 o6 x' gx u=>?_;replace gx:g.es[k]?=some x':=gx;rw[hk] at gx;cases gx;refine⟨x.t,u.nth 4 rfl,?_⟩;refine hr.aA (by omega) (by omega) fun b8 o9 d gd u2=>?_;rw[hx] at gd;cases gd;refine⟨AP,u2.hd,lf,h0,(s:Nat),h2,?_⟩;refine hr.aA (by omega) (by omega) fun b13 o14 d gd u3=>?_;replace gd:LF[s]?=some d:=gd;rw[hs] at gd;cases gd;refine⟨kW,u3.hd,?_,.iK⟩;rw[a7 (by omega) (by omega)];congr 1
theorem Rf:aK Pz 173=true:=by kernel_rfl
def GB(LF:List Int)(es:List Ed)(kW:Int)(k:Nat):Bool:=decide (LF.getD (eA es k).t.toNat 0=kW-1)
theorem xd(b:Nat)(g:Gl)(L:List Nat)(LF:List Int)(lf:Sl)(s:Nat)(kW:Int)(c0 c1 c2:Addr)(sl:Sl)(h:Heap)(hL:Rw h 1 sl ((aw L).map aO))(hl:L.length<=1048576)(h0:hc h c0=some (Value.slice lf.a lf.n lf.c))(h1:hc h c1=some (Value.pointer (some ⟨b,0,none⟩)))(h2:hc h c2=some (Value.int .i64 (s:Nat)))
  (Fj:hc h ⟨b,6,none⟩=some (Value.slice g.he.a g.he.n g.he.c)) (hg:GI h g) (hr:Rw h 1 lf (LF.map aO)) (hk:∀k∈L,k<g.es.length) (hE:∀x∈g.es,0<=x.t/\x.t.toNat<LF.length) (hs:LF[s]?=some kW) (hb:0<=kW/\kW<=df) :
  Fn Pz 172 #[.slice sl.a sl.n sl.c,.func (.func 173) #[] #[.pointer (some c0),.pointer (some c1),.pointer (some c2)]] h fun v h'=>v=.int .i64 (uM (GB LF g.es kW) L)/\Ext h h':=by
 apply UL;unfold Z6;have WC:sl.n=L.length:=by have:=hL.ln;unfold aw at this;rwa [Yc] at this
 refine⟨fun x h' μ=>∃i:Nat,x=i/\μ=sl.n-i/\i<=sl.n/\Ext h h'/\∀(j:Nat) (y:Nat),j<i->L[j]?=some y->GB LF g.es kW y=false,⟨_,0,rfl,rfl,Nat.zero_le _,.iK,fun j y hj=>by omega⟩,?_⟩;rintro-_ h5 μ ⟨i,rfl,rfl,hi,E,hd⟩;refine aM (fun c=>?_) (fun c=>?_)
 .refine (hL.ext E).aA (by omega) (by omega) fun b6 o7 d gd t=>?_;obtain⟨k,gk,rfl⟩:=cX gd;replace gk:L[i]?=some k:=gk;obtain⟨x,hx⟩:=get_some (hk k (Yb gk));have vF:=hE x (Yb hx);obtain⟨AP,We⟩:=get_some vF.2;refine⟨(k:Int),t.hd,?_⟩;show cond (aK Pz 173) _ _;rw[Rf,cond_true];refine (QX b g k x LF lf s AP kW c0 c1 c2 h5 (ax E h0) (ax E h1) (ax E h2) (ax E Fj) (hg.ext E) (hr.ext E) hx vF.1 We hs hb).mono ?_;rintro _ cB ⟨rfl,E2⟩;have lV:GB LF g.es kW k=decide (AP=kW-1):=by
   unfold GB;rw[aL hx,Yo,We];rfl
  refine⟨_,rfl,aa (fun c1=>⟨?_,E.trans E2⟩) (fun c1=>⟨_,by omega,i+1,by rw[a7 (by omega) (by omega)];omega,rfl,by omega,E.trans E2,fun j y hj hy=>?_⟩)⟩
  .unfold uM;rw[kH hd gk (by rw[lV];exact c1)]
  .by_cases e1:j=i
   .subst e1;rw[gk] at hy;cases hy;rw[lV];exact c1
   .exact hd j y (by omega) hy
 .refine⟨?_,E⟩;unfold uM;rw[w9 fun j y hj=>hd j y (by have:=(Ya.1 hj).1;omega) hj]
theorem Re:aK Pz 175=true:=by kernel_rfl
theorem G6(L:List Ev)(s:Sl)(h:Heap)(hr:Rw h 3 s (L.map Ev.cs))(hl:L.length<=1048576):
  Fn Pz 174 #[.slice s.a s.n s.c,.func (.func 175) #[] #[]] h fun v h'=>v=.int .i64 (uM (fun x=>!x.send) L)/\Ext h h':=by
 apply UJ;unfold Z4;have hn:=hr.ln;refine⟨fun x h' μ=>∃i:Nat,x=i/\μ=s.n-i/\i<=s.n/\Ext h h'/\∀(j:Nat) (y:Ev),j<i->L[j]?=some y->(!y.send)=false,⟨_,0,rfl,rfl,Nat.zero_le _,.iK,fun j y hj=>by omega⟩,?_⟩;rintro-_ h5 μ ⟨i,rfl,rfl,hi,E,hd⟩;refine aM (fun c=>?_) (fun c=>?_)
 .refine (hr.ext E).aA (by omega) (by omega) fun b6 o7 q g t=>?_;replace g:L[i]?=some q:=g;refine⟨q.send,q.peer,q.label,t,?_⟩;show cond (aK Pz 175) _ _;rw[Re,cond_true];show Fn Pz 175 #[.agg ⟨q.cs⟩] h5 _;apply UI q.send q.peer q.label;unfold Z3;refine (St.refl h5).aj fun h4 hs=>?_;refine⟨q.send,hs.rd 0 rfl (i:=0) rfl,?_⟩;refine⟨_,rfl,aa (fun c1=>⟨?_,E.trans hs.ext⟩) (fun c1=>⟨_,by omega,i+1,by rw[a7 (by omega) (by omega)];omega,rfl,by omega,E.trans hs.ext,fun j y hj hy=>?_⟩)⟩
  .unfold uM;rw[kH hd g c1]
  .by_cases e1:j=i
   .subst e1;rw[g] at hy;cases hy;exact c1
   .exact hd j y (by omega) hy
 .refine⟨?_,E⟩;unfold uM;rw[w9 fun j y hj=>hd j y (by have:=(Ya.1 hj).1;omega) hj]
abbrev Ka:=Sl × List Int
def qH(ib lb h1b hb b:Nat)(IN:List Ka)(lf:Sl)(LF:List Int)(q:Sl)(Q:List Nat):List It:=
 [.sl q 3 1 ((aw Q).map aO),.ae lb [.slice lf.a lf.n lf.c] 102,.sl lf 3 1 (LF.map aO),.ae ib ((IN.map Prod.fst).map eS) 102,.ae h1b cq.cs 35,.ae hb [.pointer (some ⟨b,0,none⟩)] 89]++IN.map (nest 3 1 aO)++[]
def K7(f:Fs):Bool:=dq f.l 0&&(f.b || !dq f.l (f.l.length-1))
def r6(X:An)(s:Nat):Prop:=∃f,X.fi[s]?=some f/\K7 f=true
def BM(es:List Ed)(t:Nat):List Int:=(es.filter fun e=>decide (e.t=(t:Int))).map (·.f)
theorem BJ{es:List Ed}{t:Nat}{p:Int}:p∈BM es t ↔ ∃e∈es,e.t=(t:Int)/\e.f=p:=by
 unfold BM;rw[Yp];constructor
 .rintro⟨e,he,rfl⟩;rw[List.mem_filter,decide_eq_true_eq] at he;exact⟨e,he.1,he.2,rfl⟩
 .rintro⟨e,he,h1,rfl⟩;exact⟨e,List.mem_filter.2 ⟨he,decide_eq_true h1⟩,rfl⟩
theorem BK(es:List Ed)(t:Nat):(BM es t).length<=es.length:=by unfold BM;rw[Yc];exact List.length_filter_le _ _
theorem Pa(n:Nat):ai Pz 3 n=((List.replicate n (0:Int)).map aO).flatten:=by
 rw[GX,List.map_replicate]
 induction n with
 | zero=>rfl
 | succ n ih=>rw[List.replicate_succ,List.replicate_succ,oC,<-ih];rfl
theorem Lf(n:Nat):ai Pz 102 n=(List.replicate n au).map eS:=by
 rw[BH,List.map_replicate,List.map_replicate]
 induction n with
 | zero=>rfl
 | succ n ih=>rw[List.replicate_succ,List.replicate_succ,oC,ih];rfl
theorem Ha(L:List Int):∀r∈L.map aO,r.length=1:=fun r hr=>by obtain⟨x,_,rfl⟩:=Yp.1 hr;rfl
structure Tw (g:Gl) (IN:List Ka):Prop where
 e:IN.map Prod.snd=(List.range g.n.toNat).map (BM g.es)
theorem Tw.len{g:Gl}{IN:List Ka}(h:Tw g IN):IN.length=g.n.toNat:=by have:=congrArg List.length h.e;simpa using this
theorem Tw.at{g:Gl}{IN:List Ka}(h:Tw g IN){t:Nat}(ht:t<g.n.toNat):∃q,IN[t]?=some q/\q.2=BM g.es t:=by
 obtain⟨q,hq⟩:=get_some (l:=IN) (i:=t) (by rw[h.len];exact ht);have h1:=aR h.e ht;rw[Yd,hq] at h1;exact⟨q,hq,fL h1⟩
theorem Ro{h nD h2 cw h1:Heap}{b:Nat}{g:Gl}{X:An}{IN:List Ka}{lf q0:Sl}{LF0:List Int}{Q0:List Nat}{R:Value->Heap->Prop}
  (hs:St h nD (qH h2.size cw.size h1.size h.size b IN lf LF0 q0 Q0)) (hV:af g) (hI:Tw g IN) (hB:nP g (r6 X) LF0 Q0 0 0)
  (hK:∀(im:Heap) (q:Sl) (LF:List Int) (Q:List Nat),St h im (qH h2.size cw.size h1.size h.size b IN lf LF q Q)->nP g (r6 X) LF Q Q.length 1000->IG im h cw h1 R) :
  RZ q0 nD g.n h2 cw h h1 R:=by
 unfold RZ;have hN:=hV.num.n;have hM:=hV.num.m;have hE:=hV.num.e;refine⟨fun q x h' μ=>∃(hd:Nat) (LF:List Int) (Q:List Nat),x=(hd:Int)/\μ=g.n.toNat-hd/\hd<=Q.length/\St h h' (qH h2.size cw.size h1.size h.size b IN lf LF q Q)/\nP g (r6 X) LF Q hd hd,⟨_,0,LF0,Q0,rfl,rfl,Nat.zero_le _,hs,hB⟩,?_⟩;clear hs hB;rintro-q _ im μ ⟨hd,LF,Q,rfl,rfl,hhd,hs,hB⟩;have hQl:=hB.len;have nz:=(hs.len 0 (s:=q) (e:=3) (n:=1) (rows:=(aw Q).map aO) rfl (by omega)).1;rw[Yc] at nz;have Pv:q.n=Q.length:=by unfold aw at nz;rwa [Yc] at nz
 refine aM (fun c=>?_) (fun c=>?_)
 .refine (hs.rows 0 rfl (by omega)).aA (by omega) (by omega) fun b76 o77 d gd u=>?_;obtain⟨t,ht,rfl⟩:=cX gd;replace ht:Q[hd]?=some t:=ht;have Pn:=Yb ht;have SO:=hB.lt Pn;obtain⟨xx,zH,_,hxc⟩:=hB.val Pn;obtain⟨qi,Wr,Wq⟩:=hI.at SO;refine⟨(t:Int),u.hd,⟨by omega,by omega⟩,?_⟩;rw[show 0+Int.toNat ((t:Nat):Int)*1=t by omega];refine⟨qi.1,hs.rd 3 rfl (by rw[Yd,Yd,Wr];rfl),?_⟩;have eK:∀ {LF:List Int} {q:Sl} {Q:List Nat},.sl qi.1 3 1 (qi.2.map aO)∈qH h2.size cw.size h1.size h.size b IN lf LF q Q:=fun {LF q Q}=>by
   unfold qH;exact List.mem_append_left _ (List.mem_append_right _ (Yp.2 ⟨qi,Yb Wr,rfl⟩))
  have cO:qi.1.n=(BM g.es t).length:=by
   have:=(hs.mD eK (by omega)).1
   rwa [Yc,Wq] at this
  have oU:=BK g.es t;unfold aaO;refine⟨fun q x h' μ=>∃(j:Nat) (LF:List Int) (Q:List Nat),x=(j:Int)/\μ=qi.1.n-j/\j<=qi.1.n/\St h h' (qH h2.size cw.size h1.size h.size b IN lf LF q Q)/\nP g (r6 X) LF Q hd (hd+1)/\Q[hd]?=some t/\LF[t]?=some (xx:Int)/\∀(i:Nat) p,i<j->(BM g.es t)[i]?=some p->∃y,LF[p.toNat]?=some y/\y<=xx+1,⟨_,0,LF,Q,rfl,rfl,Nat.zero_le _,hs,hB.TC (by omega),ht,zH,fun i p hi=>by omega⟩,?_⟩;clear hs hB hQl nz Pv hhd zH ht Pn gd u c;rintro-q h85 h85' μ ⟨j,LF,Q,rfl,rfl,hj,hs,hB,ht,zH,Ec⟩;have hQl:=hB.len;have yD:=(Ya.1 ht).1;have nz:=(hs.len 0 (s:=q) (e:=3) (n:=1) (rows:=(aw Q).map aO) rfl (by omega)).1;rw[Yc] at nz;have Pv:q.n=Q.length:=by unfold aw at nz;rwa [Yc] at nz
  have Eg:=(hs.len 2 (s:=lf) (e:=3) (n:=1) (rows:=LF.map aO) rfl (by omega)).1;rw[Yc,hB.ln] at Eg;refine aM (fun c=>?_) (fun c=>?_)
  .refine (hs.mD eK (by omega)).aA (by omega) (by omega) fun b86 o87 p gp u=>?_;rw[Wq] at gp;replace gp:(BM g.es t)[j]?=some p:=gp;obtain⟨e,he,het,Ei⟩:=BJ.1 (Yb gp);have kK:=hE e he;unfold gV at kK;obtain⟨p',oe⟩:∃p':Nat,p=(p':Int):=⟨p.toNat,by omega⟩;subst oe;refine⟨(p':Int),u.hd,lf,hs.rd 1 rfl (i:=0) rfl,?_⟩;refine (hs.rows 2 rfl (by omega)).aA (by omega) (by omega) fun b90 o91 v gv u2=>?_;replace gv:LF[p']?=some v:=gv;refine⟨v,u2.hd,dw (fun c2=>?_) (fun c2=>?_)⟩
   .have SM:LF[p']?=some df:=by rw[gv,c2];rfl
    refine⟨lf,hs.rd 1 rfl (i:=0) rfl,lf,hs.rd 1 rfl (i:=0) rfl,?_⟩;refine (hs.rows 0 rfl (by omega)).aA (by omega) (by omega) fun b95 o96 d gd u3=>?_;obtain⟨t',JT,rfl⟩:=cX gd;replace JT:Q[hd]?=some t':=JT;rw[ht] at JT;cases JT;refine⟨(t:Int),u3.hd,?_⟩;refine (hs.rows 2 rfl (by omega)).aA (by omega) (by omega) fun b98 o99 w gw u4=>?_;replace gw:LF[t]?=some w:=gw;rw[zH] at gw;cases gw;refine⟨(xx:Int),u4.hd,?_⟩;rw[a7 (by omega) (by omega)];refine hs.set 2 rfl (by omega) (x:=(p':Int)) (by omega) (by omega) ((xx:Int)+1) rfl rfl (fun b17 Sy aew hs=>?_) rfl;have hs:St h aew (qH h2.size cw.size h1.size h.size b IN lf (LF.set p' ((xx:Int)+1)) q Q):=hs;refine hs.app 0 rfl dv (m:=1) [aO (p':Int)] rfl rfl (fun r hr=>by rw[Ye] at hr;rw[hr];rfl) rfl (by omega) (by simp only[maxLen];omega) fun afY sF n105 hs=>?_;have hB':=hB.put ht zH (by omega) (by omega) he het (s:=p') Ei SM;refine⟨_,?_,j+1,_,Q++[p'],by rw[a7 (by omega) (by omega)];omega,rfl,by omega,?_,hB',by rw[jt yD];exact ht,?_,fun i r hi gr=>?_⟩
    .omega
    .have e9:(aw (Q++[p'])).map aO=(aw Q).map aO++[aO (p':Int)]:=by rw[jz,Ym];rfl
     unfold qH;rw[e9];exact hs
    .rw[Yy (fun e9=>by subst e9;rw[SM] at zH;have:=fL zH;unfold df at this;omega)];exact zH
    .by_cases e9:i=j
     .subst e9;rw[gp] at gr;cases gr;refine⟨(xx:Int)+1,?_,Int.le_refl _⟩;rw[Ys];exact Yq (by rw[hB.ln];omega)
     .obtain⟨y,h5,h6⟩:=Ec i r (by omega) gr;by_cases e10:p'=r.toNat
      .rw[<-e10,SM] at h5;have:=fL h5;unfold df at this;omega
      .exact⟨y,by rw[Yy e10];exact h5,h6⟩
   .refine⟨_,?_,j+1,LF,Q,by rw[a7 (by omega) (by omega)];omega,rfl,by omega,hs,hB,ht,zH,fun i r hi gr=>?_⟩
    .omega
    .by_cases e9:i=j
     .subst e9;rw[gp] at gr;cases gr;refine⟨v,gv,hB.hi t p' _ v ht ((hB.q p').2 ⟨v,gv,c2⟩) zH gv⟩
     .exact Ec i r (by omega) gr
  .refine⟨_,?_,hd+1,LF,Q,by rw[a7 (by omega) (by omega)];omega,rfl,by omega,hs,hB.next ht zH fun e he het=>?_⟩
   .omega
   .obtain⟨i,hi⟩:=Yf.1 (BJ.2 ⟨e,he,het,rfl⟩);have:=(Ya.1 hi).1;exact Ec i e.f (by omega) hi
 .have:hd=Q.length:=by omega
  subst this;exact hK im q LF Q hs (hB.TC (by omega))
end Go.VC
end
