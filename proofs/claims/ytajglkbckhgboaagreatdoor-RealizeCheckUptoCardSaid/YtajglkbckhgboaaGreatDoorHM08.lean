/- SxLt0 SxLt SxLu SxLx0 SxLx SxLy SxLz SxM1 SxM2 SxM3 SxM4 SxM5 SxM6 SxM7 SxM8 SxM9. -/
import Derived.Test.YtajglkbckhgboaaGreatDoorHM07
import Derived.Test.YtajglkbckhgboaaGreatDoorHM04
set_option linter.all false
set_option maxRecDepth 100000
set_option maxHeartbeats 8000000

section
namespace Go.VC
open Go.Proofs Go.LexS
structure Ay (g:Gl) (F:List rH):Prop where
 nd:(F.map (·.m)).Nodup
 e:∀f∈F,∃x∈g.es,f.m=⟨x.a,x.l⟩
 pl:∀f∈F,f.path.length<=1000000
theorem Ay.len{g:Gl}{F:List rH}(h:Ay g F):F.length<=g.es.length:=by
 have:=List.Nodup.length_le_of_subset h.nd (l₂:=g.es.map fun x=>(⟨x.a,x.l⟩:Ms)) fun m hm=>by
  obtain⟨f,hf,rfl⟩:=Yp.1 hm;obtain⟨x,hx,e⟩:=h.e f hf;exact Yp.2 ⟨x,hx,e.symm⟩
 rwa [Yc,Yc] at this
theorem Ay.note{g:Gl}{F:List rH}(h:Ay g F){x:Ed}(hx:x∈g.es){path:List Ac}(hp:path.length<=1000000):Ay g (nT F ⟨⟨x.a,x.l⟩,path⟩):=by
 unfold nT;split
 .exact h
 .rename_i ca;refine⟨?_,fun f hf=>?_,fun f hf=>?_⟩
  .rw[Ym,List.nodup_append];refine⟨h.nd,by simp,fun a ha b hb e=>?_⟩;simp only[gG,List.map_nil,Ye] at hb;subst hb;subst e;obtain⟨y,hy,e⟩:=Yp.1 ha;exact ca ⟨y,hy,e⟩
  .rcases Yk.1 hf with hf | hf
   .exact h.e f hf
   .rw[Ye] at hf;subst hf;exact⟨x,hx,rfl⟩
  .rcases Yk.1 hf with hf | hf
   .exact h.pl f hf
   .rw[Ye] at hf;subst hf;exact hp
theorem wc{g:Gl}{role:Int}{p:dV}{path:List Ac}{st:List nG × List rH}{x:Ed}(h:Ay g st.2)(hx:x∈g.es)(hp:path.length<1000000):Ay g (iZ role p path st x).2:=by
 unfold iZ;simp only;split
 .exact h.note hx (by rw[Yh,Yv];omega)
 .exact h
theorem Mb{h0 uU B3 sC El:Heap}{hd:Nat}{g:Gl}{gb ob mb:Nat}{qu al:Sl}{V:List Cp}{K:List (dV × Bool)}{F:List FS}{MS:List (Sl × List Ed)}{Q:List nG}{q:nG}{x:Ed}{role:Int}{VJ:Nat}{I:Sl->Sl->Int->Heap->Nat->Prop}{y:Int}
  (hV:af g) (hr:role=((role.toNat:Nat):Int))
  (hs:St h0 uU (.ae El.size [.int .i64 x.t,.int .u8 (q.1.b:Nat),.int .u8 (q.1.d:Nat)] 245 :: .ae sC.size x.cs 67 :: .ae B3.size q.1.cs 245::fo gb ob mb g qu al V K F MS)) (hQ:Aq g.n.toNat Q V K) (hq:Q[hd]?=some q) (hF:Ay g (F.map Prod.fst)) (hx:x∈g.es)
  (hI:∀(qu' Fq:Sl) (Q':List nG) (V':List Cp) (K':List (dV × Bool)) (F':List FS) (h':Heap),St h0 h' (.ae B3.size q.1.cs 245::fo gb ob mb g qu' Fq V' K' F' MS)->Aq g.n.toNat Q' V' K'->(Q',F'.map Prod.fst)=iZ role q.1 q.2 (Q,F.map Prod.fst) x->(∀(k:Nat) z,Q[k]?=some z->Q'[k]?=some z)->∃m,m<VJ/\I qu' Fq (IntKind.wrap .i64 (y+1)) h' m) :
  RM uU B3 sC El al role (hd:Nat) qu (some mb) VJ I y:=by
 unfold RM;have hN:=hV.num.n;have hM:=hV.num.m;have h6:=hV.Nb.n6;have vD:=hV.num.e x hx;unfold gU at vD;have VZ:=hQ.ok q (Yb hq);obtain⟨SC,ho2,ho3⟩:=VZ;have JP:=AP hV (hQ.ok q (Yb hq)) hx role;have JN:x.a=((x.a.toNat:Nat):Int):=by omega
 have G8:x.b=((x.b.toNat:Nat):Int):=by omega
 have yv:x.t=((x.t.toNat:Nat):Int):=by omega
 have fJ:=hF.len;rw[Yc] at fJ;have b1:=H7 ⟨q.1.b,by omega⟩ ⟨x.a.toNat,by omega⟩;have b2:=H7 ⟨q.1.d,by omega⟩ ⟨x.a.toNat,by omega⟩;have b3:=H7 ⟨q.1.b,by omega⟩ ⟨x.b.toNat,by omega⟩;simp only[<-JN,<-G8] at b1 b2 b3;refine⟨fun Fq h'=>∃F':List FS,St h0 h' (.ae El.size (ec role q.1 x).1.cs 245 :: .ae sC.size x.cs 67 :: .ae B3.size q.1.cs 245::fo gb ob mb g qu Fq V K F' MS)/\F'.map Prod.fst=(if (ec role q.1 x).2 then nT (F.map Prod.fst) ⟨⟨x.a,x.l⟩,q.2++[x.act]⟩ else F.map Prod.fst),?_,?_⟩
 .refine⟨(q.1.b:Nat),hs.rd 2 rfl (i:=1) rfl,x.a,hs.rd 1 rfl (i:=1) rfl,by omega,?_⟩;rw[b1.1];refine aa (fun c=>?_) (fun c=>?_)
  .refine⟨(q.1.b:Nat),hs.rd 0 rfl (i:=1) rfl,x.b,hs.rd 1 rfl (i:=2) rfl,by omega,?_⟩;rw[b3.2.2];refine hs.put 0 rfl (o:=1) (vs:=[.int .u8 ((q.1.b|||2^x.b.toNat:Nat):Int)]) rfl (show 2<=3 by decide) fun adU hs=>?_;have e:ec role q.1 x=(⟨x.t.toNat,q.1.b|||2^x.b.toNat,q.1.d⟩,false):=by unfold ec;rw[if_pos c]
   rw[e];refine⟨F,?_,rfl⟩;unfold dV.cs;simp only;rw[<-yv];exact hs
  .refine⟨x.b,hs.rd 1 rfl (i:=2) rfl,?_⟩;have e0:∀(e:dV),(⟨x.t.toNat,q.1.b,q.1.d⟩:dV).cs=[.int .i64 x.t,.int .u8 (q.1.b:Nat),.int .u8 (q.1.d:Nat)]:=fun _=>by unfold dV.cs;simp only;rw[<-yv]
   refine dp (fun c2=>?_) (fun c2=>?_)
   .refine⟨(q.1.d:Nat),hs.rd 2 rfl (i:=2) rfl,x.a,hs.rd 1 rfl (i:=1) rfl,by omega,?_⟩;rw[b2.2.1];refine aa (fun c3=>?_) (fun c3=>?_)
    .have N2:q.1.d.testBit x.a.toNat=false:=bF c3;have e:ec role q.1 x=(⟨x.t.toNat,q.1.b,q.1.d|||2^x.a.toNat⟩,true):=by unfold ec;rw[if_neg (by rw[c];decide),if_pos ⟨c2,N2⟩]
     refine⟨(q.1.d:Nat),hs.rd 0 rfl (i:=2) rfl,x.a,hs.rd 1 rfl (i:=1) rfl,by omega,?_⟩;rw[b2.2.2];refine hs.put 0 rfl (o:=2) (vs:=[.int .u8 ((q.1.d|||2^x.a.toNat:Nat):Int)]) rfl (show 3<=3 by decide) fun sA hs=>?_;refine⟨x.a,hs.rd 1 rfl (i:=1) rfl,x.l,hs.rd 1 rfl (i:=3) rfl,?_⟩;refine hs.ao (vs:=[.int .i64 x.a,.int .i64 x.l]) rfl rfl fun Qb hs=>?_;have hs:St h0 Qb (.ae sA.size (⟨x.a,x.l⟩:Ms).cs 72 :: .ae El.size (⟨x.t.toNat,q.1.b,q.1.d|||2^x.a.toNat⟩:dV).cs 245 :: .ae sC.size x.cs 67 :: .ae B3.size q.1.cs 245::fo gb ob mb g qu al V K F MS):=by
      unfold dV.cs;simp only;rw[<-yv];exact hs
     refine (xM F ⟨x.a,x.l⟩ sA.size al Qb (hs.rw 5 rfl (by omega)) (hs.at 0 rfl (o:=0) (n:=2) rfl) (by omega)).mono ?_;rintro _ Ek ⟨⟨r,rfl,sk⟩,E⟩;replace hs:=hs.step E;have hr3:r=true ↔ ∃y∈F.map Prod.fst,y.m=⟨x.a,x.l⟩:=sk.trans ⟨fun ⟨y,h1,h2⟩=>⟨y.1,Yp.2 ⟨y,h1,rfl⟩,h2⟩,fun ⟨y,h1,h2⟩=>by obtain⟨z,h3,rfl⟩:=Yp.1 h1;exact⟨z,h3,h2⟩⟩;rw[e];simp only[if_true];refine⟨r,rfl,aa (fun c4=>?_) (fun c4=>?_)⟩
     .have ca:¬∃y∈F.map Prod.fst,y.m=⟨x.a,x.l⟩:=fun h9=>by rw[hr3.2 h9] at c4;cases c4
      refine⟨x.a,x.b,x.l,hs.at 2 rfl (o:=1) (n:=3) rfl,?_⟩;refine hs.ak fun xu hs=>?_;have hs:=hs.dP 1 3 ([x.act].map Ac.cs) rfl (fun r hr=>by obtain⟨x,_,rfl⟩:=Yp.1 hr;rfl) rfl (by decide);refine KF (R:=[.ae El.size (⟨x.t.toNat,q.1.b,q.1.d|||2^x.a.toNat⟩:dV).cs 245,.ae sC.size x.cs 67,.ae B3.size q.1.cs 245]) (q:=q) (m:=⟨x.a,x.l⟩) hs hQ (by omega) hq (by omega) fun Fq r h' hs=>⟨_,hs,?_⟩;unfold nT;rw[if_neg ca,Ym];rfl
     .refine⟨F,hs.drop 1,?_⟩;unfold nT;rw[if_pos (hr3.1 (bT c4))]
    .have e:ec role q.1 x=(⟨x.t.toNat,q.1.b,q.1.d⟩,false):=by unfold ec;rw[if_neg (by rw[c];decide),if_neg (fun h9=>by rw[h9.2] at c3;cases c3)]
     rw[e];refine⟨F,?_,rfl⟩;rw[e0 q.1];exact hs
   .have e:ec role q.1 x=(⟨x.t.toNat,q.1.b,q.1.d⟩,false):=by unfold ec;rw[if_neg (by rw[c];decide),if_neg (fun h9=>c2 h9.1)]
    rw[e];refine⟨F,?_,rfl⟩;rw[e0 q.1];exact hs
 .clear hs b1 b2 b3;rintro-Fq P8 ⟨F',hs,uO⟩;generalize hnxt:(ec role q.1 x).1=nx at *;obtain⟨D8,BK,Wg⟩:=JP;have oL:∀Q':List nG,Q'=(if nx∈Q.map Prod.fst then Q else Q++[(nx,q.2++[x.act])])->(Q',F'.map Prod.fst)=iZ role q.1 q.2 (Q,F.map Prod.fst) x:=fun Q' e=>by
   unfold iZ;simp only;rw[hnxt,<-e,uO]
  refine⟨(nx.s:Nat),(nx.b:Nat),(nx.d:Nat),hs.at 0 rfl (o:=0) (n:=3) rfl,?_⟩;refine hs.GG (cv:=Value.bool) (l:=K) R6 5 rfl (hQ.iH (by omega)) hQ.kn (a:=nx) ⟨by omega,by omega,by omega⟩ ?_;rw[hQ.look];refine⟨_,rfl,aa (fun c=>?_) (fun c=>?_)⟩
  .have ca:nx∉Q.map Prod.fst:=eU (bF c);refine⟨(nx.s:Nat),(nx.b:Nat),(nx.d:Nat),hs.at 0 rfl (o:=0) (n:=3) rfl,?_⟩;refine hs.DN (cv:=Value.bool) (l:=K) R6 5 rfl (hQ.iH (by omega)) hQ.kn (a:=nx) ⟨by omega,by omega,by omega⟩ true fun ahr hs=>?_;refine⟨(nx.s:Nat),(nx.b:Nat),(nx.d:Nat),hs.at 0 rfl (o:=0) (n:=3) rfl,x.a,x.b,x.l,hs.at 1 rfl (o:=1) (n:=3) rfl,?_⟩;have Lp:=hs.len 3 (s:=qu) (e:=248) (n:=7) (rows:=V.map vC) rfl (by omega);rw[Yc] at Lp;have hle:=hQ.le;have Lk:=hQ.vn;have agu:g.n.toNat*4096<=200*4096:=Nat.mul_le_mul_right _ (by omega);refine hs.app 3 rfl Re (m:=1) [vC (nx,((hd:Int),x.act))] rfl rfl (fun r hr=>by rw[Ye] at hr;rw[hr];rfl) rfl (by omega) (by simp only[maxLen];omega) fun abW adG n192 hs=>?_;refine hI abW Fq _ (V++[(nx,((hd:Int),x.act))]) (cC K nx true) F' adG ?_ (hQ.push hq ca ⟨D8,BK,Wg⟩) (oL _ (by rw[if_neg ca])) fun k z hz=>by rw[jw (Ya.1 hz).1];exact hz
   have hs:=hs.drop 2;unfold fo;rw[Ym (f:=vC)];exact hs
  .have cN:nx∈Q.map Prod.fst:=cd (bT c);exact hI qu Fq Q V K F' _ (hs.drop 2) hQ (oL Q (by rw[if_pos cN])) fun k z hz=>hz
theorem sP{es:List Ed}{role:Int}{f hd:Nat}{Q:List nG}{F:List rH}{q:nG}(hq:Q[hd]?=some q):oE es role (f+1) hd Q F=oE es role f (hd+1) ((fY es q.1.s).foldl (iZ role q.1 q.2) (Q,F)).1 ((fY es q.1.s).foldl (iZ role q.1 q.2) (Q,F)).2:=by
 rw[oE,hq]
theorem wa{es:List Ed}{role:Int}{f hd:Nat}{Q:List nG}{F:List rH}(hq:Q[hd]?=none):oE es role f hd Q F=F:=by
 cases f with
 | zero=>rfl
 | succ f=>rw[oE,hq]
theorem xD{es:List Ed}{j:Nat}{x:Ed}(hx:es[j]?=some x)(s:Nat):(es.take (j+1)).filter (fun y=>decide (y.f=(s:Int)))=(es.take j).filter (fun y=>decide (y.f=(s:Int)))++(if x.f=(s:Int) then [x] else []):=by
 rw[aj hx,List.filter_append];congr 1;by_cases h:x.f=(s:Int)
 .rw[if_pos h,List.filter_cons_of_pos (by rw[decide_eq_true h])];rfl
 .rw[if_neg h,List.filter_cons_of_neg (by rw[decide_eq_false h];decide)];rfl
theorem aR{α:Type}{L:List α}{n:Nat}{f:Nat->α}(h:L=(List.range n).map f){s:Nat}(hs:s<n):L[s]?=some (f s):=by
 rw[h,Yd,ye hs];rfl
theorem sO(g:Gl)(i:Nat)(x0:Ed)(h:Heap)(hg:GI h g)(hx:Gm h)(hV:af g)(hi:g.es[i]?=some x0):
  Fn Pz 68 #[g.v,.int .i64 (i:Nat)] h fun v h'=>Ext h h'/\∃(s:Sl) (F:List FS),v=.tuple ⟨[.slice s.a s.n s.c,.int .i64 0]⟩/\F.map Prod.fst=ef g i/\RL h' 3 s dw F/\(∀q∈F,RL h' 3 q.2 Ac.cs q.1.path)/\Ay g (ef g i)/\St h h' (.sl s 134 3 (F.map dw)::F.map di):=by
 apply abc (bs g.nm) g.hr g.hd g.n g.s g.e g.he g.ht (i:Nat);unfold W68;have hN:=hV.num.n;have hM:=hV.num.m;have h6:=hV.Nb.n6;have ki:=hg.e.ln;have n4:=(Ya.1 hi).1;have vD:=hV.num.e x0 (Yb hi);have hE:=hV.num.e;unfold gU at vD;have G8:x0.b=((x0.b.toNat:Nat):Int):=by omega
 have yv:x0.t=((x0.t.toNat:Nat):Int):=by omega
 refine (St.refl h).ak fun h9 hs=>?_;refine⟨_,_,_,_,_,_,_,_,hs.at 0 rfl (n:=8) rfl,?_⟩;refine (tX g h9 (hg.ext hs.ext) (hx.ext hs.ext)).mono ?_;rintro _ aG ⟨rfl,E20⟩;replace hs:=hs.step E20;refine⟨_,rfl,?_⟩;rw[decide_eq_true hV];refine ja rfl ?_;refine aM (fun c=>by omega) (fun _=>?_);refine⟨g.he,hs.rd 0 rfl (i:=6) rfl,aM (fun c=>by omega) (fun _=>?_)⟩;refine⟨g.n,hs.rd 0 rfl (i:=3) rfl,by omega,?_⟩;rw[OX];refine hs.ak fun uT hs=>?_;have hs:=hs.qA (α:=Ed) (e:=67) (k:=6) (cs:=Ed.cs) (A:=[_,_]) (B:=[]) g.n.toNat;refine⟨g.he,hs.rd 1 rfl (i:=6) rfl,?_⟩;refine⟨fun x h' μ=>∃(j:Nat) (MS:List (Sl × List Ed)),x=(j:Int)/\μ=g.es.length-j/\j<=g.es.length/\MS.map Prod.snd=((List.range g.n.toNat).map fun s:Nat=>(g.es.take j).filter (fun y=>decide (y.f=(s:Int)))) /\
  St h h' ([.ae aG.size ((MS.map Prod.fst).map eO) 24,.ae h.size g.cs 27]++MS.map (nest 67 6 Ed.cs)++[]),
  ⟨_,0,List.replicate g.n.toNat ((⟨.none,0,0⟩,[]):Sl × List Ed),rfl,rfl,by omega,?_,?_⟩,?_⟩
 .rw[mq,List.map_replicate];apply yG;intro s;rw[List.getElem?_replicate,Yd];by_cases hs:s<g.n.toNat
  .rw[if_pos hs,ye hs];rfl
  .rw[if_neg hs,Yl (by rw[mr];omega)];rfl
 .rw[List.map_replicate (f:=Prod.fst)];exact hs
 clear hs;rintro-_ P4 μ ⟨j,MS,rfl,rfl,hj,hMS,hs⟩;have WU:MS.length=g.n.toNat:=by have:=congrArg List.length hMS;simpa using this
 refine aM (fun c1=>?_) (fun c1=>?_)
 .refine (hg.e.rw.ext hs.ext).aD (by omega) (by omega) fun b30 o31 x gx t=>?_;replace gx:g.es[j]?=some x:=gx;have kM:=hE x (Yb gx);unfold gU at kM;obtain⟨q,hq⟩:=get_some (l:=MS) (i:=x.f.toNat) (by omega);refine⟨_,_,_,_,_,_,t,?_⟩;refine hs.ao (vs:=x.cs) rfl rfl fun B6 hs=>?_;refine⟨x.f,hs.rd 0 rfl (i:=0) rfl,x.f,hs.rd 0 rfl (i:=0) rfl,⟨by omega,by omega⟩,?_⟩;rw[show 0+Int.toNat x.f*1=x.f.toNat by omega];refine⟨q.1,hs.rd 1 rfl (by rw[Yd,Yd,hq];rfl),?_⟩;refine⟨_,_,_,_,_,_,hs.at 0 rfl (o:=0) (n:=6) rfl,?_⟩;refine hs.au fun SS E49 hs=>⟨E49.sm,?_⟩;have hs:St h SS ((.ae B6.size x.cs 67 :: .ae P4.size x.cs 67::[.ae aG.size ((MS.map Prod.fst).map eO) 24,.ae h.size g.cs 27])++MS.map (nest 67 6 Ed.cs)++[]):=hs;have nt:=(hs.kH hq (by omega)).ln;have fL:q.2=(g.es.take j).filter (fun y=>decide (y.f=((x.f.toNat:Nat):Int))):=by
   have h1:=aR hMS (s:=x.f.toNat) (by omega);rw[Yd,hq] at h1;exact fH h1
  have sn:q.2.length<=400:=by rw[fL];refine mn (List.length_filter_le _ _) ?_;rw[Yu];omega
  refine hs.ng hq YG x (hs.at 0 rfl (o:=0) (n:=6) rfl) rfl rfl (by omega) (by simp only[maxLen];omega) fun r zN hr fU=>?_;refine⟨fR (hs.same fU 1 1 rfl rfl) kz,⟨by omega,by omega⟩,?_⟩;refine fU.put 2 rfl (o:=x.f.toNat) (vs:=[eO r]) rfl (by rw[Yc,Yc,Yv];omega) fun zM hs=>?_;rw[bz eO (by rw[Yc];omega)] at hs;refine⟨_,by omega,j+1,MS.set x.f.toNat (r,q.2++[x]),by rw[a7 (by omega) (by omega)];omega,rfl,by omega,?_,?_⟩
  .apply yG;intro s;rw[Yd,Yd];by_cases jm:s<g.n.toNat
   .rw[ye jm];have h1:=aR hMS jm;rw[Yd] at h1;by_cases e:x.f.toNat=s
    .subst e;rw[Yq (by omega),Option.map_some,Option.map_some,xD gx,if_pos (by omega),fL]
    .rw[Yy e,h1,Option.map_some,xD gx,if_neg (by omega),Yw]
   .rw[Yl (by rw[jT];omega),Yl (by rw[mr];omega)];rfl
  .rw[List.map_set];exact hs.drop 2
 have Lr:j=g.es.length:=by omega
 subst Lr;rw[yd] at hMS;refine⟨fun x h' μ=>∃(j:Nat) (MS:List (Sl × List Ed)),x=(j:Int)/\μ=g.n.toNat-j/\j<=g.n.toNat/\MS.map Prod.snd=((List.range g.n.toNat).map fun s:Nat=>if s<j then fY g.es s else g.es.filter (fun y=>decide (y.f=(s:Int)))) /\
  St h h' ([.ae aG.size ((MS.map Prod.fst).map eO) 24,.ae h.size g.cs 27]++MS.map (nest 67 6 Ed.cs)++[]),
  ⟨_,0,MS,rfl,rfl,by omega,by rw[hMS];rfl,hs⟩,?_⟩
 clear hs hMS WU hj c1;rintro-_ NP μ ⟨j,MS,rfl,rfl,hj,hMS,hs⟩;have WU:MS.length=g.n.toNat:=by have:=congrArg List.length hMS;simpa using this
 refine aM (fun c1=>?_) (fun c1=>?_)
 .obtain⟨q,hq⟩:=get_some (l:=MS) (i:=j) (by omega);refine⟨⟨by omega,by omega⟩,?_⟩;rw[show 0+Int.toNat ((j:Nat):Int)*1=j by omega];refine⟨q.1,hs.rd 0 rfl (by rw[Yd,Yd,hq];rfl),?_⟩;have Hl:j<(MS.map (nest 67 6 Ed.cs)).length:=by rw[Yc];omega
  have fL:q.2=g.es.filter (fun y=>decide (y.f=((j:Nat):Int))):=by
   have h1:=aR hMS (s:=j) (by omega);rw[Yd,hq,if_neg (by omega)] at h1;exact fH h1
  have sn:q.2.length<=400:=by rw[fL];exact mn (List.length_filter_le _ _) hM
  have j4:=uX (P:=[.ae aG.size ((MS.map Prod.fst).map eO) 24,.ae h.size g.cs 27]) (R:=[]) Hl;rw[Yd,hq] at j4;refine (Km hs _ j4 (by omega)).mono ?_;rintro _ NO ⟨rfl,l',hp,hw,hs⟩;have k8:l'=fY g.es j:=by unfold fY;rw[<-fL];exact Oq hp hw (by rw[fL];exact rE hV _)
  rw[AO Hl] at hs;refine⟨rfl,_,by omega,j+1,MS.set j (q.1,l'),by rw[a7 (by omega) (by omega)];omega,rfl,by omega,?_,?_⟩
  .apply yG;intro s;rw[Yd,Yd];by_cases jm:s<g.n.toNat
   .rw[ye jm];have h1:=aR hMS jm;rw[Yd] at h1;by_cases e:j=s
    .subst e;rw[Yq (by omega),Option.map_some,Option.map_some,if_pos (by omega),k8]
    .rw[Yy e,h1,Option.map_some];by_cases e2:s<j
     .rw[if_pos e2,if_pos (by omega)]
     .rw[if_neg e2,if_neg (by omega)]
   .rw[Yl (by rw[jT];omega),Yl (by rw[mr];omega)];rfl
  .have e1:(MS.map Prod.fst).set j (q.1,l').1=MS.map Prod.fst:=by
    have h9:(MS.map Prod.fst)[j]?=some q.1:=by rw[Yd,hq];rfl
    obtain⟨a,b⟩:=Ya.1 h9;show (MS.map Prod.fst).set j q.1=_;rw[<-b];exact List.set_getElem_self a
   rw[List.map_set (f:=Prod.fst),e1,List.map_set (f:=nest 67 6 Ed.cs)];exact hs
 have adf:MS.map Prod.snd=(List.range g.n.toNat).map (fY g.es):=by
  rw[hMS];apply List.map_congr_left;intro s hs;rw[List.mem_range] at hs;rw[if_pos (by omega)]
 clear hMS c1 hj;rw[Yw] at hs;refine⟨g.he,hs.rd 1 rfl (i:=6) rfl,?_⟩;refine (hg.e.rw.ext hs.ext).aD (by omega) (by omega) fun b64 o65 x gx t=>?_;replace gx:g.es[i]?=some x:=gx;rw[hi] at gx;cases gx;refine⟨x0.b,t.nth 2 rfl,g.he,hs.rd 1 rfl (i:=6) rfl,?_⟩;refine (hg.e.rw.ext hs.ext).aD (by omega) (by omega) fun b68 o69 x gx t2=>?_;replace gx:g.es[i]?=some x:=gx;rw[hi] at gx;cases gx;refine⟨x0.t,t2.nth 4 rfl,by omega,?_⟩;have e8:=abQ ⟨x0.b.toNat,by omega⟩;simp only[<-G8] at e8;rw[e8];have Wb:(⟨x0.t.toNat,2^x0.b.toNat,0⟩:dV).ok g.n.toNat:=⟨by simp only;omega,Ve (by omega),(show 0<64 by decide)⟩;have Lq:Lc (⟨x0.t.toNat,2^x0.b.toNat,0⟩:dV):=⟨by simp only;omega,abO (by omega),(show 0<256 by decide)⟩;have agB:(⟨x0.t.toNat,2^x0.b.toNat,0⟩:dV).cs=[.int .i64 x0.t,.int .u8 ((2^x0.b.toNat:Nat):Int),.int .u8 0]:=by unfold dV.cs;simp only;rw[<-yv];rfl
 refine hs.au fun LH E71 hs=>⟨E71.sm,?_⟩;refine hs.put 0 rfl (o:=0) (vs:=[.int .i64 x0.t,.int .u8 ((2^x0.b.toNat:Nat):Int),.int .u8 0]) rfl (bc 3) fun zL hs=>?_;refine hs.Bu 246 fun ij E75 hs=>⟨some zL.size,rfl,?_⟩;refine⟨((x0.t.toNat:Nat):Int),((2^x0.b.toNat:Nat):Int),((0:Nat):Int),by rw[<-yv];exact hs.at 1 rfl (o:=0) (n:=3) rfl,?_⟩;refine hs.DN (cv:=Value.bool) (l:=[]) R6 0 rfl (fun q hq=>by cases hq) .nil (a:=⟨x0.t.toNat,2^x0.b.toNat,0⟩) Lq true fun JU hs=>?_;refine⟨((x0.t.toNat:Nat):Int),((2^x0.b.toNat:Nat):Int),((0:Nat):Int),by rw[<-yv];exact hs.at 1 rfl (o:=0) (n:=3) rfl,?_⟩;refine hs.ak fun WZ hs=>?_;generalize tq:(⟨x0.t.toNat,2^x0.b.toNat,0⟩:dV)=p0 at *;have hs:=hs.dP 1 7 ([(p0,((-1:Int),(⟨0,0,0⟩:Ac)))].map vC) (by subst tq;rfl) (fun r hr=>by obtain⟨x,_,rfl⟩:=Yp.1 hr;rfl) rfl (by decide);have hs:=hs.bJ 134 3;have hs:St h WZ (fo h.size aG.size zL.size g ⟨some ⟨JU.size,0,none⟩,1,1⟩ ⟨none,0,0⟩ [(p0,((-1:Int),(⟨0,0,0⟩:Ac)))] [(p0,true)] [] MS):=by
  refine (hs.sub (.cons_cons _ (.cons_cons _ (.cons_cons _ (.cons _ (List.Sublist.refl _)))))).perm ?_;unfold fo;rw[List.map_nil (f:=di),Yw];exact List.Perm.swap _ _ _
 have WR:Aq g.n.toNat [(p0,[])] [(p0,((-1:Int),(⟨0,0,0⟩:Ac)))] [(p0,true)]:=by
  refine⟨rfl,fun k v q hv hq=>?_,by simp,fun q hq=>?_,fun k q hq=>?_,fun p=>by simp,fun q hq=>?_,by simp⟩
  .have:=(Ya.1 hv).1;rw[Yv] at this;obtain rfl:k=0:=by omega
   cases hv;cases hq;exact⟨rfl,.inl ⟨rfl,rfl⟩⟩
  .rw[Ye] at hq;rw[hq];exact Wb
  .have:=(Ya.1 hq).1;rw[Yv] at this;obtain rfl:k=0:=by omega
   cases hq;exact Nat.zero_le _
  .rw[Ye] at hq;rw[hq]
 have hF0:Ay g (([]:List FS).map Prod.fst):=⟨.nil,fun f hf=>(by cases hf),fun f hf=>(by cases hf)⟩;have hS0:ef g i=oE g.es x0.b (g.n.toNat*65536+1-0) 0 [(p0,[])] (([]:List FS).map Prod.fst):=by unfold ef;rw[hi];simp only;rw[tq];rfl
 refine⟨fun qu al x h' μ=>∃(hd:Nat) (Q:List nG) (V:List Cp) (K:List (dV × Bool)) (F:List FS),x=(hd:Int)/\μ=g.n.toNat*4096-hd/\hd<=Q.length/\St h h' (fo h.size aG.size zL.size g qu al V K F MS)/\Aq g.n.toNat Q V K/\Ay g (F.map Prod.fst)/\ef g i=oE g.es x0.b (g.n.toNat*65536+1-hd) hd Q (F.map Prod.fst),⟨_,0,_,_,_,[],rfl,rfl,Nat.zero_le _,hs,WR,hF0,hS0⟩,?_⟩;clear hs WR hF0 hS0;rintro-qu al _ B3 μ ⟨hd,Q,V,K,F,rfl,rfl,hhd,hs,hQ,hF,hS⟩;have hle:=hQ.le;have Lk:=hQ.vn;have hn4:g.n.toNat*4096<=200*4096:=Nat.mul_le_mul_right _ (by omega);have Lp:=hs.len 0 (s:=qu) (e:=248) (n:=7) (rows:=V.map vC) rfl (by omega);rw[Yc] at Lp;refine aM (fun c=>?_) (fun c=>?_)
 .obtain⟨q,hq⟩:=get_some (l:=Q) (i:=hd) (by omega);obtain⟨v,hv⟩:=get_some (l:=V) (i:=hd) (by omega);have hvq:=(hQ.vq hd v q hv hq).1;obtain⟨SC,ho2,ho3⟩:=hQ.ok q (Yb hq);refine (hs.rows 0 rfl (by omega)).aD (by omega) (by omega) fun b91 o92 v' gv t=>?_;replace gv:V[hd]?=some v':=gv;rw[hv] at gv;cases gv;refine⟨(v.1.s:Nat),(v.1.b:Nat),(v.1.d:Nat),t.Dd 3 rfl,?_⟩;rw[hvq];refine hs.ao (vs:=q.1.cs) rfl rfl fun h97 hs=>?_;refine⟨(q.1.s:Nat),hs.rd 0 rfl (i:=0) rfl,⟨by omega,by omega⟩,?_⟩;rw[show 0+Int.toNat ((q.1.s:Nat):Int)*1=q.1.s by omega];obtain⟨ms,D9⟩:=get_some (l:=MS) (i:=q.1.s) (by omega);have Po:ms.2=fY g.es q.1.s:=by
   have h1:=aR adf (s:=q.1.s) SC;rw[Yd,D9] at h1;exact fH h1
  have agv:ms.2.length<=400:=by rw[Po];unfold fY;rw[vW];exact mn (List.length_filter_le _ _) hM
  have agn:=(Ya.1 hq).1;have acs:=hQ.pl hd q hq;refine⟨ms.1,hs.rd 4 rfl (by rw[Yd,Yd,D9];rfl),?_⟩;have eH:∀ {qu al V K F},.sl ms.1 67 6 (ms.2.map Ed.cs)∈(.ae B3.size q.1.cs 245::fo h.size aG.size zL.size g qu al V K F MS:List It):=fun {qu al V K F}=>by
   refine Yn _ ?_;unfold fo;simp only[Yr,Yk]
   right;right;right;right;right;left
   exact Yp.2 ⟨ms,Yb D9,rfl⟩
  have Ns:=hs.nO (eH) (by omega);have jY:ms.1.n=ms.2.length:=by have:=Ns.1;rwa [Yc] at this
  refine⟨fun qu al x h' μ=>∃(j:Nat) (Q':List nG) (V:List Cp) (K:List (dV × Bool)) (F':List FS),x=(j:Int)/\μ=ms.1.n-j/\j<=ms.1.n/\St h h' (.ae B3.size q.1.cs 245::fo h.size aG.size zL.size g qu al V K F' MS)/\Aq g.n.toNat Q' V K/\Ay g (F'.map Prod.fst)/\Q'[hd]?=some q/\(Q',F'.map Prod.fst)=((fY g.es q.1.s).take j).foldl (iZ x0.b q.1 q.2) (Q,F.map Prod.fst),⟨_,0,Q,V,K,F,rfl,rfl,Nat.zero_le _,hs,hQ,hF,hq,rfl⟩,?_⟩;have WR:=hQ;clear hs hQ hF Lp Lk hle hv Ns;rintro-qu al _ sC μ ⟨j,Q',V,K,F',rfl,rfl,hj,hs,hQ,hF,pF,hfold⟩;have eR:Rw sC 6 ms.1 (ms.2.map Ed.cs):=hs.nO eH (by omega);refine aM (fun c2=>?_) (fun c2=>?_)
  .refine eR.aD (by omega) (by omega) fun ahX agb x gx t3=>?_;replace gx:ms.2[j]?=some x:=gx;rw[Po] at gx;have si:x∈g.es:=by
    have h1:=(lj _ _).1 (Yb gx);exact (List.mem_filter.1 h1).1
   refine⟨x.f,x.a,x.b,x.l,x.t,x.ag,t3,?_⟩;refine hs.ao (vs:=x.cs) rfl rfl fun El hs=>?_;refine⟨x.t,hs.rd 0 rfl (i:=4) rfl,(q.1.b:Nat),hs.rd 1 rfl (i:=1) rfl,(q.1.d:Nat),hs.rd 1 rfl (i:=2) rfl,?_⟩;refine hs.ao (vs:=[.int .i64 x.t,.int .u8 (q.1.b:Nat),.int .u8 (q.1.d:Nat)]) rfl rfl fun uU hs=>?_;refine Mb hV G8 hs hQ pF hF si fun qu' Fq Q2 V2 K2 F2 h' bG hQ2 he hk=>?_;refine⟨_,?_,j+1,Q2,V2,K2,F2,by rw[a7 (by omega) (by omega)];omega,rfl,by omega,bG,hQ2,?_,hk hd q pF,?_⟩
   .omega
   .have agx:=WR.le;have:=wc (role:=x0.b) (p:=q.1) (path:=q.2) (st:=(Q',F'.map Prod.fst)) hF si (by omega);rw[<-he] at this;exact this
   .rw[aj gx,List.foldl_append,<-hfold,he];rfl
  .rw[Yj (by rw[<-Po];omega)] at hfold;have hle:=WR.le;have hqd:=(Ya.1 pF).1;refine⟨_,?_,hd+1,Q',V,K,F',by rw[a7 (by omega) (by omega)];omega,rfl,by omega,hs.drop 1,hQ,hF,?_⟩
   .omega
   .rw[hS,show g.n.toNat*65536+1-hd=(g.n.toNat*65536+1-(hd+1))+1 by omega,sP hq,<-hfold]
 .have Wx:ef g i=F.map Prod.fst:=by rw[hS,wa (Yl (by omega))]
  have fJ:=hF.len;rw[Yc] at fJ;refine⟨hs.ext,al,F,rfl,Wx.symm,RL.yY hs 1 rfl (by omega) (by omega),fun f hf=>?_,by rw[Wx];exact hF,hs.sub (.cons _ (.cons_cons _ (.cons _ (.cons _ (.cons _ (List.sublist_append_right _ _))))))⟩;have hm:di f∈fo h.size aG.size zL.size g qu al V K F MS:=by
   unfold fo;simp only[Yr,Yk]
   right;right;right;right;right;right
   exact Yp.2 ⟨f,hf,rfl⟩
  obtain⟨k,hk⟩:=Yf.1 hm;exact RL.yY hs k hk (by omega) (by have:=hF.pl f.1 (Yp.2 ⟨f,hf,rfl⟩);omega)
def lO(x:Ms):List Ms->List Ms
 | []=>[x]
 | y::r=>if cW y x then y::lO x r else x::y::r
def sN(l:List Ms):List Ms:=l.foldr lO []
theorem uC{x y z:Ms}(h1:cW x y)(h2:cW y z):cW x z:=by unfold cW at *;omega
theorem GD(x:Ms):¬cW x x:=by unfold cW;omega
theorem wU{x y:Ms}(h:x≠y)(h1:¬cW y x):cW x y:=by
 obtain⟨a,b⟩:=x;obtain⟨a',b'⟩:=y;unfold cW at *;simp only[ne_eq,Ms.mk.injEq] at h;simp only at *;omega
theorem ni(x z:Ms):∀l:List Ms,z∈lO x l ↔ z=x\/z∈l
 | []=>by simp[lO]
 | y::r=>by
  unfold lO;split
  .rw[Yr,ni x z r,Yr];constructor
   .rintro (h | h | h)
    .exact .inr (.inl h)
    .exact .inl h
    .exact .inr (.inr h)
   .rintro (h | h | h)
    .exact .inr (.inl h)
    .exact .inl h
    .exact .inr (.inr h)
  .simp
theorem lN{x:Ms}:∀ {l:List Ms},l.Pairwise cW->(∀y∈l,y≠x)->(lO x l).Pairwise cW
 | [],_,_=>by simp[lO]
 | y::r,hl,hx=>by
  obtain⟨h1,h2⟩:=List.pairwise_cons.1 hl;unfold lO;by_cases h:cW y x
  .rw[if_pos h,List.pairwise_cons];refine⟨fun z hz=>?_,lN h2 fun z hz=>hx z (Yn _ hz)⟩;rcases (ni x z r).1 hz with rfl | hz
   .exact h
   .exact h1 z hz
  .rw[if_neg h,List.pairwise_cons];have h3:cW x y:=wU (fun e=>hx y (by simp) e.symm) h;refine⟨fun z hz=>?_,hl⟩;rcases Yr.1 hz with rfl | hz
   .exact h3
   .exact uC h3 (h1 z hz)
theorem mJ(l:List Ms)(z:Ms):z∈sN l ↔ z∈l:=by
 induction l with
 | nil=>simp[sN]
 | cons a l ih=>
  show z∈lO a (sN l) ↔ _;rw[ni,ih,Yr]
theorem lh:∀ {l:List Ms},l.Nodup->(sN l).Pairwise cW
 | [],_=>.nil
 | a::l,h=>by
  obtain⟨h1,h2⟩:=List.nodup_cons.1 h;exact lN (lh h2) fun y hy e=>h1 (by rw[<-e];exact (mJ l y).1 hy)
theorem vV{l l':List Ms}(hp:l'.Perm l)(hw:l'.Pairwise fun a b=>¬cW b a)(hd:l.Nodup):l'=sN l:=by
 refine fQ (R:=cW) GD (fun a b c=>uC) _ _ ?_ (lh hd) fun x=>by rw[mJ];exact hp.mem_iff
 exact (hw.and (hp.nodup_iff.2 hd)).imp fun ⟨h1,h2⟩=>wU h2 h1
def dM(g:Gl)(i:Nat):List Ms:=sN ((ef g i).map (·.m))
def gh(g:Gl)(i:Nat)(m:Ms):List Ac:=((ef g i).find? fun f=>decide (f.m=m)).elim [] (·.path)
theorem HT(g:Gl)(i:Nat)(x0:Ed)(h:Heap)(hg:GI h g)(hx:Gm h)(hV:af g)(hi:g.es[i]?=some x0):
  Fn Pz 31 #[g.v,.int .i64 (i:Nat)] h fun v h'=>Ext h h'/\∃s:Sl,v=.tuple ⟨[.slice s.a s.n s.c,.int .i64 0]⟩/\St h h' [.sl s 72 2 ((dM g i).map Ms.cs)]/\(dM g i).length<=400:=by
 apply aby (bs g.nm) g.hr g.hd g.n g.s g.e g.he g.ht (i:Nat);unfold W31;have hM:=hV.num.m;refine (St.refl h).ak fun h9 hs=>?_;refine⟨_,_,_,_,_,_,_,_,hs.at 0 rfl (n:=8) rfl,?_⟩;refine (sO g i x0 h9 (hg.ext hs.ext) (hx.ext hs.ext) hV hi).mono ?_;rintro _ iP ⟨E,s,F,rfl,hF,hr,_,hI,_⟩;have E21:=(hs.step E).ext;have hFl:=hI.len;have adg:F.length=(ef g i).length:=by rw[<-hF,Yc]
 have jm:=hr.ln;refine⟨s,0,rfl,?_⟩;have hs:=(St.refl iP).bJ 72 2;refine⟨fun out x h' μ=>∃j:Nat,x=j/\μ=s.n-j/\j<=s.n/\St iP h' [.sl out 72 2 (((F.take j).map (·.1.m)).map Ms.cs)],⟨_,0,rfl,rfl,Nat.zero_le _,hs⟩,?_⟩;clear hs;rintro-out _ zO μ ⟨j,rfl,rfl,hj,hs⟩;have zJ:=hs.len 0 (s:=out) (e:=72) (n:=2) rfl (by omega);rw[Yc,Yc,Yu] at zJ;refine aM (fun c=>?_) (fun c=>?_)
 .refine (hr.ext hs.ext).rw.aD (by omega) (by omega) fun b28 o29 f gf t=>?_;replace gf:F[j]?=some f:=gf;refine⟨f.1.m.p,f.1.m.l,f.2,t,?_⟩;refine hs.ao (vs:=dw f) rfl rfl fun oe hs=>?_;refine⟨f.1.m.p,f.1.m.l,hs.at 0 rfl (o:=0) (n:=2) rfl,?_⟩;refine hs.app 1 rfl Rj (m:=1) [f.1.m.cs] rfl rfl (fun r hr=>by rw[Ye] at hr;rw[hr];rfl) rfl (by omega) (by simp only[maxLen];omega) fun s38 B6 n38 hs=>?_;refine⟨_,by omega,j+1,by rw[a7 (by omega) (by omega)];omega,rfl,by omega,?_⟩;rw[aj gf,Ym,Ym];exact hs.drop 1
 .rw[Yj (by omega)] at hs;have D9:F.map (·.1.m)=(ef g i).map (·.m):=by rw[<-hF,List.map_map];rfl
  rw[D9] at hs;have hlm:((ef g i).map (·.m)).length<=400:=by rw[Yc];omega
  refine (Kn hs 0 rfl (by omega)).mono ?_;rintro _ B5 ⟨rfl,l',hp,hw,hs⟩;have k8:l'=dM g i:=vV hp hw hI.nd;refine⟨rfl,E21.trans hs.ext,out,rfl,?_⟩;rw[<-k8];exact⟨((St.refl h).step E21).join hs,by rw[hp.length_eq];exact hlm⟩
theorem AY(g:Gl)(i:Nat)(x0:Ed)(m:Ms)(h:Heap)(hg:GI h g)(hx:Gm h)(hV:af g)(hi:g.es[i]?=some x0)(hm:m∈dM g i):
  Fn Pz 32 #[g.v,.int .i64 (i:Nat),.agg ⟨m.cs⟩] h fun v h'=>Ext h h'/\∃s:Sl,v=.tuple ⟨[.slice s.a s.n s.c,.int .i64 0]⟩/\St h h' [.sl s 65 3 ((gh g i m).map Ac.cs)]/\(gh g i m).length<=1000000:=by
 apply abx (bs g.nm) g.hr g.hd g.n g.s g.e g.he g.ht (i:Nat) m.p m.l;unfold W32;have hM:=hV.num.m;refine (St.refl h).ak fun iQ hs=>?_;refine hs.ak fun kj hs=>?_;refine⟨_,_,_,_,_,_,_,_,hs.at 1 rfl (n:=8) rfl,?_⟩;refine (sO g i x0 kj (hg.ext hs.ext) (hx.ext hs.ext) hV hi).mono ?_;rintro _ rO ⟨E,s,F,rfl,hF,hr,hp,hI,Pd⟩;have sj:=hs;replace hs:=hs.step E;have hFl:=hI.len;have adg:F.length=(ef g i).length:=by rw[<-hF,Yc]
 have jm:=hr.ln;refine⟨s,0,rfl,fZ (fun c=>absurd rfl c) (fun _=>?_)⟩;refine (w9 72 QT F m iQ.size s rO hr.rw (hs.at 0 rfl (o:=0) (n:=2) rfl) (by omega) fun q h hc=>Ku q m iQ.size h hc).mono ?_;rintro _ zO ⟨rfl,E2⟩;refine⟨_,rfl,?_⟩;have cN:∃f∈F,f.1.m=m:=by
  have h1:=(mJ _ _).1 hm;rw[<-hF] at h1;obtain⟨f,h2,h3⟩:=Yp.1 h1;obtain⟨q,h4,rfl⟩:=Yp.1 h2;exact⟨q,h4,h3⟩
 unfold uI;cases hf:F.findIdx? fun q=>decide (q.1.m=m) with
 | none=>
  rw[List.findIdx?_eq_none_iff] at hf;obtain⟨f,h1,h2⟩:=cN;have:=hf f h1;rw[decide_eq_true h2] at this;cases this
 | some k=>
  obtain⟨h1,h2,_⟩:=List.findIdx?_eq_some_iff_getElem.1 hf;simp only;refine aM (fun c=>by omega) (fun _=>?_);refine (hr.ext E2).rw.aD (by omega) (by omega) fun b28 o29 f gf t=>?_;replace gf:F[k]?=some f:=gf;have hfm:f.1.m=m:=by
   rw[Yi h1] at gf;rw[<-fH gf];exact cd h2
  have hfF:=Yb gf;have hpe:gh g i m=f.1.path:=by
   have eH:f.1∈ef g i:=by rw[<-hF];exact Yp.2 ⟨f,hfF,rfl⟩
   unfold gh;cases hq:(ef g i).find? fun f=>decide (f.m=m) with
   | none=>have:=List.find?_eq_none.1 hq f.1 eH;rw[decide_eq_true hfm] at this;exact absurd rfl this
   | some f'=>
    have h3:=List.mem_of_find?_eq_some hq;have h4:f'.m=m:=by have:=List.find?_some hq;exact cd this
    show f'.path=f.1.path;obtain⟨a,ha⟩:=Yf.1 h3;obtain⟨b,hb⟩:=Yf.1 eH;have h5:((ef g i).map (·.m))[a]?=some m:=by rw[Yd,ha,<-h4];rfl
    have h6:((ef g i).map (·.m))[b]?=some m:=by rw[Yd,hb,<-hfm];rfl
    have h7:=eF hI.nd h5 h6;subst h7;rw[ha] at hb;cases hb;rfl
  refine⟨f.2,t.nth 2 rfl,(hs.ext.trans E2),f.2,rfl,?_⟩;rw[hpe];refine⟨(sj.sub (List.nil_sublist _)).join ((Pd.step E2).sub (List.singleton_sublist.2 (Yn _ (Yp.2 ⟨f,hfF,rfl⟩)))),hI.pl f.1 (by rw[<-hF];exact Yp.2 ⟨f,hfF,rfl⟩)⟩
noncomputable abbrev dK(a:Heap)(g:Gl):It:=.ae a.size (ai Pz 102 (Int.toNat g.n)) 102
noncomputable abbrev dJ(a:Heap)(g:Gl):It:=.ae a.size (ai Pz 192 (Int.toNat g.n)) 192
noncomputable abbrev dI(a:Heap)(g:Gl):It:=.ae a.size (ai Pz 4 (Int.toNat g.n)) 4
noncomputable abbrev dH(a:Heap)(g:Gl):It:=.ae a.size (ai Pz 4 (Int.toNat g.n)) 4
noncomputable abbrev dG(a:Heap)(g:Gl):It:=.ae a.size (ai Pz 274 (Int.toNat g.n)) 274
def aN(g:Gl)(role:Int)(h:Heap)(R:Value->Heap->Prop):Prop:=∀hF a b c d e:Heap,St h hF [dK a g,dJ b g,dI c g,dH d g,dG e g,.ae h.size g.cs 27]->Am hF (bs g.nm) g.hr g.hd g.n g.s g.e g.he g.ht role a g.n b g.n c g.n d g.n e g.n h R
theorem uv{g:Gl}{role:Int}{h tB aG bK gn pI:Heap}{R:Value->Heap->Prop}(hT:aN g role h R)(hn:1<=g.n/\g.n<=200)(hs:St h tB [dK aG g,dJ bK g,dI gn g,dH pI g,.ae h.size g.cs 27]):EL g.n tB h (bs g.nm) g.hr g.hd g.n g.s g.e g.he g.ht role aG g.n bK g.n gn g.n pI g.n R:=by
 unfold EL;refine⟨⟨by omega,by omega,by omega⟩,hs.au fun B6 E hs=>⟨E.sm,?_⟩⟩;have hs:=hs.perm (List.perm_middle (l₁:=[_,_,_,_])).symm;exact hT _ _ _ _ _ _ hs
theorem y5{g:Gl}{role:Int}{h pI aG bK gn:Heap}{R:Value->Heap->Prop}(hT:aN g role h R)(hn:1<=g.n/\g.n<=200)(hs:St h pI [dK aG g,dJ bK g,dI gn g,.ae h.size g.cs 27]):IG g.n pI h g.n (bs g.nm) g.hr g.hd g.n g.s g.e g.he g.ht role aG g.n bK g.n gn g.n R:=by
 unfold IG;refine⟨⟨by omega,by omega,by omega⟩,hs.au fun tB E hs=>⟨E.sm,?_⟩⟩;have hs:=hs.perm (List.perm_middle (l₁:=[_,_,_])).symm;exact uv hT hn hs
theorem uz{g:Gl}{role:Int}{h zP aG bK gn pI:Heap}{R:Value->Heap->Prop}(hT:aN g role h R)(hn:1<=g.n/\g.n<=200)(hs:St h zP [dK aG g,dJ bK g,dI gn g,dG pI g,.ae h.size g.cs 27]):EO g.n zP h (bs g.nm) g.hr g.hd g.n g.s g.e g.he g.ht role aG g.n bK g.n gn g.n pI g.n R:=by
 unfold EO;refine⟨⟨by omega,by omega,by omega⟩,hs.au fun P8 E hs=>⟨E.sm,?_⟩⟩;have hs:=hs.perm (List.perm_middle (l₁:=[_,_,_])).symm;exact hT _ _ _ _ _ _ hs
theorem y9{g:Gl}{role:Int}{h pI aG bK gn:Heap}{R:Value->Heap->Prop}(hT:aN g role h R)(hn:1<=g.n/\g.n<=200)(hs:St h pI [dK aG g,dJ bK g,dI gn g,.ae h.size g.cs 27]):IK g.n pI h g.n (bs g.nm) g.hr g.hd g.n g.s g.e g.he g.ht role aG g.n bK g.n gn g.n R:=by
 unfold IK;refine⟨⟨by omega,by omega,by omega⟩,hs.au fun zP E hs=>⟨E.sm,?_⟩⟩;have hs:=hs.perm (List.perm_middle (l₁:=[_,_,_])).symm;exact uz hT hn hs
theorem wN{g:Gl}{role:Int}{h gn aG bK:Heap}{R:Value->Heap->Prop}(hT:aN g role h R)(hn:1<=g.n/\g.n<=200)(hs:St h gn [dK aG g,dJ bK g,.ae h.size g.cs 27]):vi g.n gn h g.n g.n (bs g.nm) g.hr g.hd g.n g.s g.e g.he g.ht role aG g.n bK g.n R:=by
 unfold vi;refine⟨⟨by omega,by omega,by omega⟩,hs.au fun pI E hs=>⟨E.sm,?_⟩⟩;have hs:=hs.perm (List.perm_middle (l₁:=[_,_])).symm;exact⟨y5 hT hn hs,y9 hT hn hs⟩
theorem y8{g:Gl}{role:Int}{h uR aG bK gn:Heap}{R:Value->Heap->Prop}(hT:aN g role h R)(hn:1<=g.n/\g.n<=200)(hs:St h uR [dK aG g,dJ bK g,dH gn g,.ae h.size g.cs 27]):IJ g.n uR h g.n (bs g.nm) g.hr g.hd g.n g.s g.e g.he g.ht role aG g.n bK g.n gn g.n R:=by
 unfold IJ;refine⟨⟨by omega,by omega,by omega⟩,hs.au fun ahe E hs=>⟨E.sm,?_⟩⟩;have hs:=hs.perm (List.perm_middle (l₁:=[_,_])).symm;exact uv hT hn hs
theorem uw{g:Gl}{role:Int}{h PZ aG bK gn uR:Heap}{R:Value->Heap->Prop}(hT:aN g role h R)(hn:1<=g.n/\g.n<=200)(hs:St h PZ [dK aG g,dJ bK g,dH gn g,dG uR g,.ae h.size g.cs 27]):EM g.n PZ h (bs g.nm) g.hr g.hd g.n g.s g.e g.he g.ht role aG g.n bK g.n gn g.n uR g.n R:=by
 unfold EM;refine⟨⟨by omega,by omega,by omega⟩,hs.au fun agW E hs=>⟨E.sm,?_⟩⟩;have hs:=hs.perm (List.perm_middle (l₁:=[_,_])).symm;exact hT _ _ _ _ _ _ hs
theorem zf{g:Gl}{role:Int}{h uR aG bK gn:Heap}{R:Value->Heap->Prop}(hT:aN g role h R)(hn:1<=g.n/\g.n<=200)(hs:St h uR [dK aG g,dJ bK g,dH gn g,.ae h.size g.cs 27]):IQ g.n uR h g.n (bs g.nm) g.hr g.hd g.n g.s g.e g.he g.ht role aG g.n bK g.n gn g.n R:=by
 unfold IQ;refine⟨⟨by omega,by omega,by omega⟩,hs.au fun PZ E hs=>⟨E.sm,?_⟩⟩;have hs:=hs.perm (List.perm_middle (l₁:=[_,_,_])).symm;exact uw hT hn hs
theorem wO{g:Gl}{role:Int}{h gn aG bK:Heap}{R:Value->Heap->Prop}(hT:aN g role h R)(hn:1<=g.n/\g.n<=200)(hs:St h gn [dK aG g,dJ bK g,.ae h.size g.cs 27]):vj g.n gn h g.n g.n (bs g.nm) g.hr g.hd g.n g.s g.e g.he g.ht role aG g.n bK g.n R:=by
 unfold vj;refine⟨⟨by omega,by omega,by omega⟩,hs.au fun uR E hs=>⟨E.sm,?_⟩⟩;have hs:=hs.perm (List.perm_middle (l₁:=[_,_])).symm;exact⟨y8 hT hn hs,zf hT hn hs⟩
theorem y7{g:Gl}{role:Int}{h Ei aG bK gn:Heap}{R:Value->Heap->Prop}(hT:aN g role h R)(hn:1<=g.n/\g.n<=200)(hs:St h Ei [dK aG g,dJ bK g,dG gn g,.ae h.size g.cs 27]):II g.n Ei h g.n (bs g.nm) g.hr g.hd g.n g.s g.e g.he g.ht role aG g.n bK g.n gn g.n R:=by
 unfold II;refine⟨⟨by omega,by omega,by omega⟩,hs.au fun agR E hs=>⟨E.sm,?_⟩⟩;have hs:=hs.perm (List.perm_middle (l₁:=[_,_])).symm;exact uz hT hn hs
theorem y6{g:Gl}{role:Int}{h Ei aG bK gn:Heap}{R:Value->Heap->Prop}(hT:aN g role h R)(hn:1<=g.n/\g.n<=200)(hs:St h Ei [dK aG g,dJ bK g,dG gn g,.ae h.size g.cs 27]):IH g.n Ei h g.n (bs g.nm) g.hr g.hd g.n g.s g.e g.he g.ht role aG g.n bK g.n gn g.n R:=by
 unfold IH;refine⟨⟨by omega,by omega,by omega⟩,hs.au fun agJ E hs=>⟨E.sm,?_⟩⟩;have hs:=hs.perm (List.perm_middle (l₁:=[_,_])).symm;exact uw hT hn hs
theorem A5{g:Gl}{role:Int}{h gn aG bK:Heap}{R:Value->Heap->Prop}(hT:aN g role h R)(hn:1<=g.n/\g.n<=200)(hs:St h gn [dK aG g,dJ bK g,.ae h.size g.cs 27]):Cs g.n gn h g.n g.n (bs g.nm) g.hr g.hd g.n g.s g.e g.he g.ht role aG g.n bK g.n R:=by
 unfold Cs;refine⟨⟨by omega,by omega,by omega⟩,hs.au fun Ei E hs=>⟨E.sm,?_⟩⟩;have hs:=hs.perm (List.perm_middle (l₁:=[_,_])).symm;exact⟨y7 hT hn hs,y6 hT hn hs⟩
theorem A7{g:Gl}{role:Int}{h eX aG bK:Heap}{R:Value->Heap->Prop}(hT:aN g role h R)(hn:1<=g.n/\g.n<=200)(hs:St h eX [dK aG g,dI bK g,.ae h.size g.cs 27]):Cu g.n eX h g.n g.n (bs g.nm) g.hr g.hd g.n g.s g.e g.he g.ht role aG g.n bK g.n R:=by
 unfold Cu;refine⟨⟨by omega,by omega,by omega⟩,hs.au fun agG E hs=>⟨E.sm,?_⟩⟩;have hs:=hs.perm (List.perm_middle (l₁:=[_])).symm;exact⟨y5 hT hn hs,y9 hT hn hs⟩
theorem zt{g:Gl}{role:Int}{h lZ aG bK eX:Heap}{R:Value->Heap->Prop}(hT:aN g role h R)(hn:1<=g.n/\g.n<=200)(hs:St h lZ [dK aG g,dI bK g,dH eX g,.ae h.size g.cs 27]):I8 g.n lZ h g.n (bs g.nm) g.hr g.hd g.n g.s g.e g.he g.ht role aG g.n bK g.n eX g.n R:=by
 unfold I8;refine⟨⟨by omega,by omega,by omega⟩,hs.au fun afD E hs=>⟨E.sm,?_⟩⟩;have hs:=hs.perm (List.perm_middle (l₁:=[_])).symm;exact uv hT hn hs
theorem uB{g:Gl}{role:Int}{h HD aG bK eX lZ:Heap}{R:Value->Heap->Prop}(hT:aN g role h R)(hn:1<=g.n/\g.n<=200)(hs:St h HD [dK aG g,dI bK g,dH eX g,dG lZ g,.ae h.size g.cs 27]):ER g.n HD h (bs g.nm) g.hr g.hd g.n g.s g.e g.he g.ht role aG g.n bK g.n eX g.n lZ g.n R:=by
 unfold ER;refine⟨⟨by omega,by omega,by omega⟩,hs.au fun afC E hs=>⟨E.sm,?_⟩⟩;have hs:=hs.perm (List.perm_middle (l₁:=[_])).symm;exact hT _ _ _ _ _ _ hs
theorem zq{g:Gl}{role:Int}{h lZ aG bK eX:Heap}{R:Value->Heap->Prop}(hT:aN g role h R)(hn:1<=g.n/\g.n<=200)(hs:St h lZ [dK aG g,dI bK g,dH eX g,.ae h.size g.cs 27]):I6 g.n lZ h g.n (bs g.nm) g.hr g.hd g.n g.s g.e g.he g.ht role aG g.n bK g.n eX g.n R:=by
 unfold I6;refine⟨⟨by omega,by omega,by omega⟩,hs.au fun HD E hs=>⟨E.sm,?_⟩⟩;have hs:=hs.perm (List.perm_middle (l₁:=[_,_,_])).symm;exact uB hT hn hs
theorem A6{g:Gl}{role:Int}{h eX aG bK:Heap}{R:Value->Heap->Prop}(hT:aN g role h R)(hn:1<=g.n/\g.n<=200)(hs:St h eX [dK aG g,dI bK g,.ae h.size g.cs 27]):Ct g.n eX h g.n g.n (bs g.nm) g.hr g.hd g.n g.s g.e g.he g.ht role aG g.n bK g.n R:=by
 unfold Ct;refine⟨⟨by omega,by omega,by omega⟩,hs.au fun lZ E hs=>⟨E.sm,?_⟩⟩;have hs:=hs.perm (List.perm_middle (l₁:=[_,_])).symm;exact⟨zt hT hn hs,zq hT hn hs⟩
theorem zp{g:Gl}{role:Int}{h tD aG bK eX:Heap}{R:Value->Heap->Prop}(hT:aN g role h R)(hn:1<=g.n/\g.n<=200)(hs:St h tD [dK aG g,dI bK g,dG eX g,.ae h.size g.cs 27]):I5 g.n tD h g.n (bs g.nm) g.hr g.hd g.n g.s g.e g.he g.ht role aG g.n bK g.n eX g.n R:=by
 unfold I5;refine⟨⟨by omega,by omega,by omega⟩,hs.au fun afB E hs=>⟨E.sm,?_⟩⟩;have hs:=hs.perm (List.perm_middle (l₁:=[_])).symm;exact uz hT hn hs
theorem zg{g:Gl}{role:Int}{h tD aG bK eX:Heap}{R:Value->Heap->Prop}(hT:aN g role h R)(hn:1<=g.n/\g.n<=200)(hs:St h tD [dK aG g,dI bK g,dG eX g,.ae h.size g.cs 27]):IT g.n tD h g.n (bs g.nm) g.hr g.hd g.n g.s g.e g.he g.ht role aG g.n bK g.n eX g.n R:=by
 unfold IT;refine⟨⟨by omega,by omega,by omega⟩,hs.au fun afA E hs=>⟨E.sm,?_⟩⟩;have hs:=hs.perm (List.perm_middle (l₁:=[_,_])).symm;exact uB hT hn hs
theorem Bm{g:Gl}{role:Int}{h eX aG bK:Heap}{R:Value->Heap->Prop}(hT:aN g role h R)(hn:1<=g.n/\g.n<=200)(hs:St h eX [dK aG g,dI bK g,.ae h.size g.cs 27]):CK g.n eX h g.n g.n (bs g.nm) g.hr g.hd g.n g.s g.e g.he g.ht role aG g.n bK g.n R:=by
 unfold CK;refine⟨⟨by omega,by omega,by omega⟩,hs.au fun tD E hs=>⟨E.sm,?_⟩⟩;have hs:=hs.perm (List.perm_middle (l₁:=[_,_])).symm;exact⟨zp hT hn hs,zg hT hn hs⟩
theorem Bq{g:Gl}{role:Int}{h fE aG bK:Heap}{R:Value->Heap->Prop}(hT:aN g role h R)(hn:1<=g.n/\g.n<=200)(hs:St h fE [dK aG g,dH bK g,.ae h.size g.cs 27]):CO g.n fE h g.n g.n (bs g.nm) g.hr g.hd g.n g.s g.e g.he g.ht role aG g.n bK g.n R:=by
 unfold CO;refine⟨⟨by omega,by omega,by omega⟩,hs.au fun afz E hs=>⟨E.sm,?_⟩⟩;have hs:=hs.perm (List.perm_middle (l₁:=[_])).symm;exact⟨y8 hT hn hs,zf hT hn hs⟩
theorem Ba{g:Gl}{role:Int}{h fE aG bK:Heap}{R:Value->Heap->Prop}(hT:aN g role h R)(hn:1<=g.n/\g.n<=200)(hs:St h fE [dK aG g,dH bK g,.ae h.size g.cs 27]):Cx g.n fE h g.n g.n (bs g.nm) g.hr g.hd g.n g.s g.e g.he g.ht role aG g.n bK g.n R:=by
 unfold Cx;refine⟨⟨by omega,by omega,by omega⟩,hs.au fun afy E hs=>⟨E.sm,?_⟩⟩;have hs:=hs.perm (List.perm_middle (l₁:=[_])).symm;exact⟨zt hT hn hs,zq hT hn hs⟩
theorem zo{g:Gl}{role:Int}{h tC aG bK fE:Heap}{R:Value->Heap->Prop}(hT:aN g role h R)(hn:1<=g.n/\g.n<=200)(hs:St h tC [dK aG g,dH bK g,dG fE g,.ae h.size g.cs 27]):I3 g.n tC h g.n (bs g.nm) g.hr g.hd g.n g.s g.e g.he g.ht role aG g.n bK g.n fE g.n R:=by
 unfold I3;refine⟨⟨by omega,by omega,by omega⟩,hs.au fun afx E hs=>⟨E.sm,?_⟩⟩;have hs:=hs.perm (List.perm_middle (l₁:=[_])).symm;exact uw hT hn hs
theorem ze{g:Gl}{role:Int}{h tC aG bK fE:Heap}{R:Value->Heap->Prop}(hT:aN g role h R)(hn:1<=g.n/\g.n<=200)(hs:St h tC [dK aG g,dH bK g,dG fE g,.ae h.size g.cs 27]):IP g.n tC h g.n (bs g.nm) g.hr g.hd g.n g.s g.e g.he g.ht role aG g.n bK g.n fE g.n R:=by
 unfold IP;refine⟨⟨by omega,by omega,by omega⟩,hs.au fun afw E hs=>⟨E.sm,?_⟩⟩;have hs:=hs.perm (List.perm_middle (l₁:=[_])).symm;exact uB hT hn hs
theorem Bp{g:Gl}{role:Int}{h fE aG bK:Heap}{R:Value->Heap->Prop}(hT:aN g role h R)(hn:1<=g.n/\g.n<=200)(hs:St h fE [dK aG g,dH bK g,.ae h.size g.cs 27]):CN g.n fE h g.n g.n (bs g.nm) g.hr g.hd g.n g.s g.e g.he g.ht role aG g.n bK g.n R:=by
 unfold CN;refine⟨⟨by omega,by omega,by omega⟩,hs.au fun tC E hs=>⟨E.sm,?_⟩⟩;have hs:=hs.perm (List.perm_middle (l₁:=[_,_])).symm;exact⟨zo hT hn hs,ze hT hn hs⟩
theorem Bo{g:Gl}{role:Int}{h lY aG bK:Heap}{R:Value->Heap->Prop}(hT:aN g role h R)(hn:1<=g.n/\g.n<=200)(hs:St h lY [dK aG g,dG bK g,.ae h.size g.cs 27]):CM g.n lY h g.n g.n (bs g.nm) g.hr g.hd g.n g.s g.e g.he g.ht role aG g.n bK g.n R:=by
 unfold CM;refine⟨⟨by omega,by omega,by omega⟩,hs.au fun afv E hs=>⟨E.sm,?_⟩⟩;have hs:=hs.perm (List.perm_middle (l₁:=[_])).symm;exact⟨y7 hT hn hs,y6 hT hn hs⟩
theorem A9{g:Gl}{role:Int}{h lY aG bK:Heap}{R:Value->Heap->Prop}(hT:aN g role h R)(hn:1<=g.n/\g.n<=200)(hs:St h lY [dK aG g,dG bK g,.ae h.size g.cs 27]):Cw g.n lY h g.n g.n (bs g.nm) g.hr g.hd g.n g.s g.e g.he g.ht role aG g.n bK g.n R:=by
 unfold Cw;refine⟨⟨by omega,by omega,by omega⟩,hs.au fun afu E hs=>⟨E.sm,?_⟩⟩;have hs:=hs.perm (List.perm_middle (l₁:=[_])).symm;exact⟨zp hT hn hs,zg hT hn hs⟩
theorem A8{g:Gl}{role:Int}{h lY aG bK:Heap}{R:Value->Heap->Prop}(hT:aN g role h R)(hn:1<=g.n/\g.n<=200)(hs:St h lY [dK aG g,dG bK g,.ae h.size g.cs 27]):Cv g.n lY h g.n g.n (bs g.nm) g.hr g.hd g.n g.s g.e g.he g.ht role aG g.n bK g.n R:=by
 unfold Cv;refine⟨⟨by omega,by omega,by omega⟩,hs.au fun aft E hs=>⟨E.sm,?_⟩⟩;have hs:=hs.perm (List.perm_middle (l₁:=[_])).symm;exact⟨zo hT hn hs,ze hT hn hs⟩
theorem Bk{g:Gl}{role:Int}{h cP aG ba:Heap}{R:Value->Heap->Prop}(hT:aN g role h R)(hn:1<=g.n/\g.n<=200)(hs:St h cP [dJ aG g,dI ba g,.ae h.size g.cs 27]):CI g.n cP h g.n g.n (bs g.nm) g.hr g.hd g.n g.s g.e g.he g.ht role aG g.n ba g.n R:=by
 unfold CI;refine⟨⟨by omega,by omega,by omega⟩,hs.au fun afr E hs=>⟨E.sm,?_⟩⟩;exact⟨y5 hT hn hs,y9 hT hn hs⟩
theorem zm{g:Gl}{role:Int}{h lX aG ba cP:Heap}{R:Value->Heap->Prop}(hT:aN g role h R)(hn:1<=g.n/\g.n<=200)(hs:St h lX [dJ aG g,dI ba g,dH cP g,.ae h.size g.cs 27]):IZ g.n lX h g.n (bs g.nm) g.hr g.hd g.n g.s g.e g.he g.ht role aG g.n ba g.n cP g.n R:=by
 unfold IZ;refine⟨⟨by omega,by omega,by omega⟩,hs.au fun afq E hs=>⟨E.sm,?_⟩⟩;exact uv hT hn hs
theorem uA{g:Gl}{role:Int}{h Hz aG ba cP lX:Heap}{R:Value->Heap->Prop}(hT:aN g role h R)(hn:1<=g.n/\g.n<=200)(hs:St h Hz [dJ aG g,dI ba g,dH cP g,dG lX g,.ae h.size g.cs 27]):EP g.n Hz h (bs g.nm) g.hr g.hd g.n g.s g.e g.he g.ht role aG g.n ba g.n cP g.n lX g.n R:=by
 unfold EP;refine⟨⟨by omega,by omega,by omega⟩,hs.au fun afp E hs=>⟨E.sm,?_⟩⟩;exact hT _ _ _ _ _ _ hs
theorem zl{g:Gl}{role:Int}{h lX aG ba cP:Heap}{R:Value->Heap->Prop}(hT:aN g role h R)(hn:1<=g.n/\g.n<=200)(hs:St h lX [dJ aG g,dI ba g,dH cP g,.ae h.size g.cs 27]):IY g.n lX h g.n (bs g.nm) g.hr g.hd g.n g.s g.e g.he g.ht role aG g.n ba g.n cP g.n R:=by
 unfold IY;refine⟨⟨by omega,by omega,by omega⟩,hs.au fun Hz E hs=>⟨E.sm,?_⟩⟩;have hs:=hs.perm (List.perm_middle (l₁:=[_,_,_])).symm;exact uA hT hn hs
theorem A4{g:Gl}{role:Int}{h cP aG ba:Heap}{R:Value->Heap->Prop}(hT:aN g role h R)(hn:1<=g.n/\g.n<=200)(hs:St h cP [dJ aG g,dI ba g,.ae h.size g.cs 27]):Cr g.n cP h g.n g.n (bs g.nm) g.hr g.hd g.n g.s g.e g.he g.ht role aG g.n ba g.n R:=by
 unfold Cr;refine⟨⟨by omega,by omega,by omega⟩,hs.au fun lX E hs=>⟨E.sm,?_⟩⟩;have hs:=hs.perm (List.perm_middle (l₁:=[_,_])).symm;exact⟨zm hT hn hs,zl hT hn hs⟩
theorem zk{g:Gl}{role:Int}{h tA aG ba cP:Heap}{R:Value->Heap->Prop}(hT:aN g role h R)(hn:1<=g.n/\g.n<=200)(hs:St h tA [dJ aG g,dI ba g,dG cP g,.ae h.size g.cs 27]):IX g.n tA h g.n (bs g.nm) g.hr g.hd g.n g.s g.e g.he g.ht role aG g.n ba g.n cP g.n R:=by
 unfold IX;refine⟨⟨by omega,by omega,by omega⟩,hs.au fun afo E hs=>⟨E.sm,?_⟩⟩;exact uz hT hn hs
theorem zd{g:Gl}{role:Int}{h tA aG ba cP:Heap}{R:Value->Heap->Prop}(hT:aN g role h R)(hn:1<=g.n/\g.n<=200)(hs:St h tA [dJ aG g,dI ba g,dG cP g,.ae h.size g.cs 27]):IM g.n tA h g.n (bs g.nm) g.hr g.hd g.n g.s g.e g.he g.ht role aG g.n ba g.n cP g.n R:=by
 unfold IM;refine⟨⟨by omega,by omega,by omega⟩,hs.au fun afn E hs=>⟨E.sm,?_⟩⟩;have hs:=hs.perm (List.perm_middle (l₁:=[_,_])).symm;exact uA hT hn hs
theorem Bj{g:Gl}{role:Int}{h cP aG ba:Heap}{R:Value->Heap->Prop}(hT:aN g role h R)(hn:1<=g.n/\g.n<=200)(hs:St h cP [dJ aG g,dI ba g,.ae h.size g.cs 27]):CH g.n cP h g.n g.n (bs g.nm) g.hr g.hd g.n g.s g.e g.he g.ht role aG g.n ba g.n R:=by
 unfold CH;refine⟨⟨by omega,by omega,by omega⟩,hs.au fun tA E hs=>⟨E.sm,?_⟩⟩;have hs:=hs.perm (List.perm_middle (l₁:=[_,_])).symm;exact⟨zk hT hn hs,zd hT hn hs⟩
theorem Bi{g:Gl}{role:Int}{h fD aG ba:Heap}{R:Value->Heap->Prop}(hT:aN g role h R)(hn:1<=g.n/\g.n<=200)(hs:St h fD [dJ aG g,dH ba g,.ae h.size g.cs 27]):CG g.n fD h g.n g.n (bs g.nm) g.hr g.hd g.n g.s g.e g.he g.ht role aG g.n ba g.n R:=by
 unfold CG;refine⟨⟨by omega,by omega,by omega⟩,hs.au fun afm E hs=>⟨E.sm,?_⟩⟩;exact⟨y8 hT hn hs,zf hT hn hs⟩
theorem A3{g:Gl}{role:Int}{h fD aG ba:Heap}{R:Value->Heap->Prop}(hT:aN g role h R)(hn:1<=g.n/\g.n<=200)(hs:St h fD [dJ aG g,dH ba g,.ae h.size g.cs 27]):Cq g.n fD h g.n g.n (bs g.nm) g.hr g.hd g.n g.s g.e g.he g.ht role aG g.n ba g.n R:=by
 unfold Cq;refine⟨⟨by omega,by omega,by omega⟩,hs.au fun afl E hs=>⟨E.sm,?_⟩⟩;have hs:=hs.perm (List.perm_middle (l₁:=[_])).symm;exact⟨zm hT hn hs,zl hT hn hs⟩
theorem zj{g:Gl}{role:Int}{h tx aG ba fD:Heap}{R:Value->Heap->Prop}(hT:aN g role h R)(hn:1<=g.n/\g.n<=200)(hs:St h tx [dJ aG g,dH ba g,dG fD g,.ae h.size g.cs 27]):IW g.n tx h g.n (bs g.nm) g.hr g.hd g.n g.s g.e g.he g.ht role aG g.n ba g.n fD g.n R:=by
 unfold IW;refine⟨⟨by omega,by omega,by omega⟩,hs.au fun afk E hs=>⟨E.sm,?_⟩⟩;exact uw hT hn hs
theorem zc{g:Gl}{role:Int}{h tx aG ba fD:Heap}{R:Value->Heap->Prop}(hT:aN g role h R)(hn:1<=g.n/\g.n<=200)(hs:St h tx [dJ aG g,dH ba g,dG fD g,.ae h.size g.cs 27]):IL g.n tx h g.n (bs g.nm) g.hr g.hd g.n g.s g.e g.he g.ht role aG g.n ba g.n fD g.n R:=by
 unfold IL;refine⟨⟨by omega,by omega,by omega⟩,hs.au fun afj E hs=>⟨E.sm,?_⟩⟩;have hs:=hs.perm (List.perm_middle (l₁:=[_])).symm;exact uA hT hn hs
theorem Bh{g:Gl}{role:Int}{h fD aG ba:Heap}{R:Value->Heap->Prop}(hT:aN g role h R)(hn:1<=g.n/\g.n<=200)(hs:St h fD [dJ aG g,dH ba g,.ae h.size g.cs 27]):CF g.n fD h g.n g.n (bs g.nm) g.hr g.hd g.n g.s g.e g.he g.ht role aG g.n ba g.n R:=by
 unfold CF;refine⟨⟨by omega,by omega,by omega⟩,hs.au fun tx E hs=>⟨E.sm,?_⟩⟩;have hs:=hs.perm (List.perm_middle (l₁:=[_,_])).symm;exact⟨zj hT hn hs,zc hT hn hs⟩
theorem Bg{g:Gl}{role:Int}{h lW aG ba:Heap}{R:Value->Heap->Prop}(hT:aN g role h R)(hn:1<=g.n/\g.n<=200)(hs:St h lW [dJ aG g,dG ba g,.ae h.size g.cs 27]):CE g.n lW h g.n g.n (bs g.nm) g.hr g.hd g.n g.s g.e g.he g.ht role aG g.n ba g.n R:=by
 unfold CE;refine⟨⟨by omega,by omega,by omega⟩,hs.au fun afi E hs=>⟨E.sm,?_⟩⟩;exact⟨y7 hT hn hs,y6 hT hn hs⟩
theorem wR{g:Gl}{role:Int}{h lW aG ba:Heap}{R:Value->Heap->Prop}(hT:aN g role h R)(hn:1<=g.n/\g.n<=200)(hs:St h lW [dJ aG g,dG ba g,.ae h.size g.cs 27]):vm g.n lW h g.n g.n (bs g.nm) g.hr g.hd g.n g.s g.e g.he g.ht role aG g.n ba g.n R:=by
 unfold vm;refine⟨⟨by omega,by omega,by omega⟩,hs.au fun afh E hs=>⟨E.sm,?_⟩⟩;have hs:=hs.perm (List.perm_middle (l₁:=[_])).symm;exact⟨zk hT hn hs,zd hT hn hs⟩
theorem wQ{g:Gl}{role:Int}{h lW aG ba:Heap}{R:Value->Heap->Prop}(hT:aN g role h R)(hn:1<=g.n/\g.n<=200)(hs:St h lW [dJ aG g,dG ba g,.ae h.size g.cs 27]):vl g.n lW h g.n g.n (bs g.nm) g.hr g.hd g.n g.s g.e g.he g.ht role aG g.n ba g.n R:=by
 unfold vl;refine⟨⟨by omega,by omega,by omega⟩,hs.au fun afg E hs=>⟨E.sm,?_⟩⟩;have hs:=hs.perm (List.perm_middle (l₁:=[_])).symm;exact⟨zj hT hn hs,zc hT hn hs⟩
theorem Bf{g:Gl}{role:Int}{h fC aG cO:Heap}{R:Value->Heap->Prop}(hT:aN g role h R)(hn:1<=g.n/\g.n<=200)(hs:St h fC [dI aG g,dH cO g,.ae h.size g.cs 27]):CD g.n fC h g.n g.n (bs g.nm) g.hr g.hd g.n g.s g.e g.he g.ht role aG g.n cO g.n R:=by
 unfold CD;refine⟨⟨by omega,by omega,by omega⟩,hs.au fun afd E hs=>⟨E.sm,?_⟩⟩;exact⟨zt hT hn hs,zq hT hn hs⟩
theorem Be{g:Gl}{role:Int}{h fC aG cO:Heap}{R:Value->Heap->Prop}(hT:aN g role h R)(hn:1<=g.n/\g.n<=200)(hs:St h fC [dI aG g,dH cO g,.ae h.size g.cs 27]):CC g.n fC h g.n g.n (bs g.nm) g.hr g.hd g.n g.s g.e g.he g.ht role aG g.n cO g.n R:=by
 unfold CC;refine⟨⟨by omega,by omega,by omega⟩,hs.au fun afc E hs=>⟨E.sm,?_⟩⟩;exact⟨zm hT hn hs,zl hT hn hs⟩
theorem zi{g:Gl}{role:Int}{h tw aG cO fC:Heap}{R:Value->Heap->Prop}(hT:aN g role h R)(hn:1<=g.n/\g.n<=200)(hs:St h tw [dI aG g,dH cO g,dG fC g,.ae h.size g.cs 27]):IV g.n tw h g.n (bs g.nm) g.hr g.hd g.n g.s g.e g.he g.ht role aG g.n cO g.n fC g.n R:=by
 unfold IV;refine⟨⟨by omega,by omega,by omega⟩,hs.au fun afb E hs=>⟨E.sm,?_⟩⟩;exact uB hT hn hs
theorem zh{g:Gl}{role:Int}{h tw aG cO fC:Heap}{R:Value->Heap->Prop}(hT:aN g role h R)(hn:1<=g.n/\g.n<=200)(hs:St h tw [dI aG g,dH cO g,dG fC g,.ae h.size g.cs 27]):IU g.n tw h g.n (bs g.nm) g.hr g.hd g.n g.s g.e g.he g.ht role aG g.n cO g.n fC g.n R:=by
 unfold IU;refine⟨⟨by omega,by omega,by omega⟩,hs.au fun afa E hs=>⟨E.sm,?_⟩⟩;exact uA hT hn hs
theorem Bd{g:Gl}{role:Int}{h fC aG cO:Heap}{R:Value->Heap->Prop}(hT:aN g role h R)(hn:1<=g.n/\g.n<=200)(hs:St h fC [dI aG g,dH cO g,.ae h.size g.cs 27]):CA g.n fC h g.n g.n (bs g.nm) g.hr g.hd g.n g.s g.e g.he g.ht role aG g.n cO g.n R:=by
 unfold CA;refine⟨⟨by omega,by omega,by omega⟩,hs.au fun tw E hs=>⟨E.sm,?_⟩⟩;have hs:=hs.perm (List.perm_middle (l₁:=[_,_])).symm;exact⟨zi hT hn hs,zh hT hn hs⟩
theorem Bc{g:Gl}{role:Int}{h lV aG cO:Heap}{R:Value->Heap->Prop}(hT:aN g role h R)(hn:1<=g.n/\g.n<=200)(hs:St h lV [dI aG g,dG cO g,.ae h.size g.cs 27]):Cz g.n lV h g.n g.n (bs g.nm) g.hr g.hd g.n g.s g.e g.he g.ht role aG g.n cO g.n R:=by
 unfold Cz;refine⟨⟨by omega,by omega,by omega⟩,hs.au fun aeZ E hs=>⟨E.sm,?_⟩⟩;exact⟨zp hT hn hs,zg hT hn hs⟩
theorem Bb{g:Gl}{role:Int}{h lV aG cO:Heap}{R:Value->Heap->Prop}(hT:aN g role h R)(hn:1<=g.n/\g.n<=200)(hs:St h lV [dI aG g,dG cO g,.ae h.size g.cs 27]):Cy g.n lV h g.n g.n (bs g.nm) g.hr g.hd g.n g.s g.e g.he g.ht role aG g.n cO g.n R:=by
 unfold Cy;refine⟨⟨by omega,by omega,by omega⟩,hs.au fun aeY E hs=>⟨E.sm,?_⟩⟩;exact⟨zk hT hn hs,zd hT hn hs⟩
theorem wP{g:Gl}{role:Int}{h lV aG cO:Heap}{R:Value->Heap->Prop}(hT:aN g role h R)(hn:1<=g.n/\g.n<=200)(hs:St h lV [dI aG g,dG cO g,.ae h.size g.cs 27]):vk g.n lV h g.n g.n (bs g.nm) g.hr g.hd g.n g.s g.e g.he g.ht role aG g.n cO g.n R:=by
 unfold vk;refine⟨⟨by omega,by omega,by omega⟩,hs.au fun aeX E hs=>⟨E.sm,?_⟩⟩;have hs:=hs.perm (List.perm_middle (l₁:=[_])).symm;exact⟨zi hT hn hs,zh hT hn hs⟩
theorem Bs{g:Gl}{role:Int}{h ik aG lU:Heap}{R:Value->Heap->Prop}(hT:aN g role h R)(hn:1<=g.n/\g.n<=200)(hs:St h ik [dH aG g,dG lU g,.ae h.size g.cs 27]):CQ g.n ik h g.n g.n (bs g.nm) g.hr g.hd g.n g.s g.e g.he g.ht role aG g.n lU g.n R:=by
 unfold CQ;refine⟨⟨by omega,by omega,by omega⟩,hs.au fun adY E hs=>⟨E.sm,?_⟩⟩;exact⟨zo hT hn hs,ze hT hn hs⟩
theorem Br{g:Gl}{role:Int}{h ik aG lU:Heap}{R:Value->Heap->Prop}(hT:aN g role h R)(hn:1<=g.n/\g.n<=200)(hs:St h ik [dH aG g,dG lU g,.ae h.size g.cs 27]):CP g.n ik h g.n g.n (bs g.nm) g.hr g.hd g.n g.s g.e g.he g.ht role aG g.n lU g.n R:=by
 unfold CP;refine⟨⟨by omega,by omega,by omega⟩,hs.au fun adV E hs=>⟨E.sm,?_⟩⟩;exact⟨zj hT hn hs,zc hT hn hs⟩
theorem Bl{g:Gl}{role:Int}{h ik aG lU:Heap}{R:Value->Heap->Prop}(hT:aN g role h R)(hn:1<=g.n/\g.n<=200)(hs:St h ik [dH aG g,dG lU g,.ae h.size g.cs 27]):CJ g.n ik h g.n g.n (bs g.nm) g.hr g.hd g.n g.s g.e g.he g.ht role aG g.n lU g.n R:=by
 unfold CJ;refine⟨⟨by omega,by omega,by omega⟩,hs.au fun adT E hs=>⟨E.sm,?_⟩⟩;exact⟨zi hT hn hs,zh hT hn hs⟩
theorem KS{g:Gl}{role:Int}{h aG:Heap}{R:Value->Heap->Prop}(hT:aN g role h R)(hn:1<=g.n/\g.n<=200)(hs:St h aG [.ae h.size g.cs 27]):Jd g.n aG h g.n g.n g.n g.n (bs g.nm) g.hr g.hd g.n g.s g.e g.he g.ht role R:=by
 unfold Jd;refine⟨⟨by omega,by omega,by omega⟩,hs.au fun bK E hs=>⟨E.sm,?_,?_,?_,?_⟩⟩
 .refine⟨⟨by omega,by omega,by omega⟩,hs.au fun gn E hs=>⟨E.sm,?_⟩⟩;have hs:=hs.perm (List.perm_middle (l₁:=[_])).symm;exact⟨wN hT hn hs,wO hT hn hs,A5 hT hn hs⟩
 .refine⟨⟨by omega,by omega,by omega⟩,hs.au fun eX E hs=>⟨E.sm,?_⟩⟩;have hs:=hs.perm (List.perm_middle (l₁:=[_])).symm;exact⟨A7 hT hn hs,A6 hT hn hs,Bm hT hn hs⟩
 .refine⟨⟨by omega,by omega,by omega⟩,hs.au fun fE E hs=>⟨E.sm,?_⟩⟩;have hs:=hs.perm (List.perm_middle (l₁:=[_])).symm;exact⟨Bq hT hn hs,Ba hT hn hs,Bp hT hn hs⟩
 .refine⟨⟨by omega,by omega,by omega⟩,hs.au fun lY E hs=>⟨E.sm,?_⟩⟩;have hs:=hs.perm (List.perm_middle (l₁:=[_])).symm;exact⟨Bo hT hn hs,A9 hT hn hs,A8 hT hn hs⟩
theorem KR{g:Gl}{role:Int}{h aG:Heap}{R:Value->Heap->Prop}(hT:aN g role h R)(hn:1<=g.n/\g.n<=200)(hs:St h aG [.ae h.size g.cs 27]):Jc g.n aG h g.n g.n g.n g.n (bs g.nm) g.hr g.hd g.n g.s g.e g.he g.ht role R:=by
 unfold Jc;refine⟨⟨by omega,by omega,by omega⟩,hs.au fun ba E hs=>⟨E.sm,?_,?_,?_,?_⟩⟩
 .refine⟨⟨by omega,by omega,by omega⟩,hs.au fun afs E hs=>⟨E.sm,?_⟩⟩;exact⟨wN hT hn hs,wO hT hn hs,A5 hT hn hs⟩
 .refine⟨⟨by omega,by omega,by omega⟩,hs.au fun cP E hs=>⟨E.sm,?_⟩⟩;have hs:=hs.perm (List.perm_middle (l₁:=[_])).symm;exact⟨Bk hT hn hs,A4 hT hn hs,Bj hT hn hs⟩
 .refine⟨⟨by omega,by omega,by omega⟩,hs.au fun fD E hs=>⟨E.sm,?_⟩⟩;have hs:=hs.perm (List.perm_middle (l₁:=[_])).symm;exact⟨Bi hT hn hs,A3 hT hn hs,Bh hT hn hs⟩
 .refine⟨⟨by omega,by omega,by omega⟩,hs.au fun lW E hs=>⟨E.sm,?_⟩⟩;have hs:=hs.perm (List.perm_middle (l₁:=[_])).symm;exact⟨Bg hT hn hs,wR hT hn hs,wQ hT hn hs⟩
theorem KQ{g:Gl}{role:Int}{h aG:Heap}{R:Value->Heap->Prop}(hT:aN g role h R)(hn:1<=g.n/\g.n<=200)(hs:St h aG [.ae h.size g.cs 27]):Jb g.n aG h g.n g.n g.n g.n (bs g.nm) g.hr g.hd g.n g.s g.e g.he g.ht role R:=by
 unfold Jb;refine⟨⟨by omega,by omega,by omega⟩,hs.au fun cO E hs=>⟨E.sm,?_,?_,?_,?_⟩⟩
 .refine⟨⟨by omega,by omega,by omega⟩,hs.au fun aff E hs=>⟨E.sm,?_⟩⟩;exact⟨A7 hT hn hs,A6 hT hn hs,Bm hT hn hs⟩
 .refine⟨⟨by omega,by omega,by omega⟩,hs.au fun afe E hs=>⟨E.sm,?_⟩⟩;exact⟨Bk hT hn hs,A4 hT hn hs,Bj hT hn hs⟩
 .refine⟨⟨by omega,by omega,by omega⟩,hs.au fun fC E hs=>⟨E.sm,?_⟩⟩;have hs:=hs.perm (List.perm_middle (l₁:=[_])).symm;exact⟨Bf hT hn hs,Be hT hn hs,Bd hT hn hs⟩
 .refine⟨⟨by omega,by omega,by omega⟩,hs.au fun lV E hs=>⟨E.sm,?_⟩⟩;have hs:=hs.perm (List.perm_middle (l₁:=[_])).symm;exact⟨Bc hT hn hs,Bb hT hn hs,wP hT hn hs⟩
theorem KP{g:Gl}{role:Int}{h aG:Heap}{R:Value->Heap->Prop}(hT:aN g role h R)(hn:1<=g.n/\g.n<=200)(hs:St h aG [.ae h.size g.cs 27]):Ja g.n aG h g.n g.n g.n g.n (bs g.nm) g.hr g.hd g.n g.s g.e g.he g.ht role R:=by
 unfold Ja;refine⟨⟨by omega,by omega,by omega⟩,hs.au fun lU E hs=>⟨E.sm,?_,?_,?_,?_⟩⟩
 .refine⟨⟨by omega,by omega,by omega⟩,hs.au fun aeW E hs=>⟨E.sm,?_⟩⟩;exact⟨Bq hT hn hs,Ba hT hn hs,Bp hT hn hs⟩
 .refine⟨⟨by omega,by omega,by omega⟩,hs.au fun aee E hs=>⟨E.sm,?_⟩⟩;exact⟨Bi hT hn hs,A3 hT hn hs,Bh hT hn hs⟩
 .refine⟨⟨by omega,by omega,by omega⟩,hs.au fun aec E hs=>⟨E.sm,?_⟩⟩;exact⟨Bf hT hn hs,Be hT hn hs,Bd hT hn hs⟩
 .refine⟨⟨by omega,by omega,by omega⟩,hs.au fun ik E hs=>⟨E.sm,?_⟩⟩;have hs:=hs.perm (List.perm_middle (l₁:=[_])).symm;exact⟨Bs hT hn hs,Br hT hn hs,Bl hT hn hs⟩
theorem KO{g:Gl}{role:Int}{h aG:Heap}{R:Value->Heap->Prop}(hT:aN g role h R)(hn:1<=g.n/\g.n<=200)(hs:St h aG [.ae h.size g.cs 27]):I9 g.n aG h g.n g.n g.n g.n (bs g.nm) g.hr g.hd g.n g.s g.e g.he g.ht role R:=by
 unfold I9;refine⟨⟨by omega,by omega,by omega⟩,hs.au fun adR E hs=>⟨E.sm,?_,?_,?_,?_⟩⟩
 .refine⟨⟨by omega,by omega,by omega⟩,hs.au fun adQ E hs=>⟨E.sm,?_⟩⟩;exact⟨Bo hT hn hs,A9 hT hn hs,A8 hT hn hs⟩
 .refine⟨⟨by omega,by omega,by omega⟩,hs.au fun adO E hs=>⟨E.sm,?_⟩⟩;exact⟨Bg hT hn hs,wR hT hn hs,wQ hT hn hs⟩
 .refine⟨⟨by omega,by omega,by omega⟩,hs.au fun adL E hs=>⟨E.sm,?_⟩⟩;exact⟨Bc hT hn hs,Bb hT hn hs,wP hT hn hs⟩
 .refine⟨⟨by omega,by omega,by omega⟩,hs.au fun adJ E hs=>⟨E.sm,?_⟩⟩;exact⟨Bs hT hn hs,Br hT hn hs,Bl hT hn hs⟩
theorem St.kq{h0 h:Heap}{L:List It}(hs:St h0 h L)(k:Nat){b:Nat}{xs:List Value}{e:TypeId}(hk:L[k]?=some (.ae b xs e))(m n:Nat)(rows:List (List Value))(hx:xs=rows.flatten)(hr:∀r∈rows,r.length=n)(hl:rows.length=m)(hm:m<=maxLen):St h0 h (L.set k (.sl ⟨some ⟨b,0,none⟩,m,m⟩ e n rows)):=by
 have hp:L.Perm (.ae b xs e::L.eraseIdx k):=by
  obtain⟨A,B,rfl,rfl⟩:=pX hk;rw[List.eraseIdx_append_of_length_le (bc _),Nat.sub_self];exact List.perm_middle
 have h1:=(hs.perm hp).dP m n rows hx hr hl hm;refine h1.perm ?_;obtain⟨A,B,rfl,rfl⟩:=pX hk;rw[List.eraseIdx_append_of_length_le (bc _),Nat.sub_self,List.set_append_right _ _ (bc _),Nat.sub_self];exact List.perm_middle.symm
theorem Bx(n:Nat):ai Pz 102 n=((List.replicate n (⟨none,0,0⟩:Sl)).map eC).flatten:=by
 have e:bV Pz 102=[.slice none 0 0]:=by kernel_rfl
 unfold ai;rw[e,List.map_replicate];rfl
theorem GU(n:Nat):ai Pz 274 n=((List.replicate n (⟨none,0,0⟩:Sl)).map eC).flatten:=by
 have e:bV Pz 274=[.slice none 0 0]:=by kernel_rfl
 unfold ai;rw[e,List.map_replicate];rfl
def XE:Ev:=⟨false,0,0⟩
def EZ:Lm:=⟨0,XE⟩
theorem GV(n:Nat):ai Pz 192 n=((List.replicate n EZ).map Lm.cs).flatten:=by
 have e:bV Pz 192=Lm.cs EZ:=by kernel_rfl
 unfold ai;rw[e,List.map_replicate]
theorem Rm:cI Pz 184 195 2 32=true:=by kernel_rfl
theorem Ri:cI Pz 274 276 4 32=true:=by kernel_rfl
abbrev C3:=Sl × List Int
abbrev tV:=Sl × List fP
def NT(f:Fs):It:=.sl f.s 188 3 (f.l.map Ev.cs)
def Rx(g:Gl)(role:Int)(ho cn cc bu cm cD:Sl):List Value:=g.cs++[.int .i64 role,.slice ho.a ho.n ho.c,.slice cn.a cn.n cn.c,.slice cc.a cc.n cc.c,.slice bu.a bu.n bu.c,.slice cm.a cm.n cm.c,.slice cD.a cD.n cD.c]
def rU(ab gb:Nat)(g:Gl)(role:Int)(ho cn cc bu cm cD:Sl)(OU:List C3)(FI:List Fs)(LI:List Lm)(AG OW:List Bool)(AR:List tV):List It:=
 [.ae ab (Rx g role ho cn cc bu cm cD) 186,.sl ho 102 1 ((OU.map Prod.fst).map eC),.sl cn 195 2 (FI.map Fs.cs),.sl cc 192 4 (LI.map Lm.cs),.sl bu 4 1 (AG.map bC),.sl cm 4 1 (OW.map bC),.sl cD 274 1 ((AR.map Prod.fst).map eC),.ae gb g.cs 27]++OU.map (nest 3 1 aO)++(FI.map NT++AR.map (nest 276 4 fP.cs))
def ta(g:Gl)(role:Int)(t:To):Lm:=⟨t.k,(aW role (eA g.es t.e.toNat)).getD XE⟩
def cu(g:Gl)(role:Int)(ts:List To)(s:Nat):Lm:=ts.foldl (fun b t=>if t.s=(s:Int) then ta g role t else b) EZ
def dU(es:List Ed)(s:Nat):Bool:=es.any fun x=>decide (x.f=(s:Int))&&x.ag
def dQ(es:List Ed)(role:Int)(s:Nat):Bool:=es.any fun x=>decide (x.f=(s:Int))&&decide (x.a=role)
def oI(es:List Ed)(j s:Nat):List Nat:=(List.range j).filter (cB es (s:Int))
theorem mY{es:List Ed}{j:Nat}{x:Ed}(hx:es[j]?=some x)(s:Nat):oI es (j+1) s=oI es j s++(if x.f=(s:Int) then [j] else []):=by
 unfold oI;rw[List.range_succ,List.filter_append];congr 1;have hp:cB es (s:Int) j=decide (x.f=(s:Int)):=by unfold cB;rw[hx]
 by_cases e:x.f=(s:Int)
 .rw[if_pos e,List.filter_cons_of_pos (by rw[hp];exact decide_eq_true e)];rfl
 .rw[if_neg e,List.filter_cons_of_neg (by rw[hp,decide_eq_false e];simp)];rfl
theorem xX{α:Type}{l:List α}{j:Nat}{x:α}(hx:l[j]?=some x)(p:α->Bool):(l.take (j+1)).any p=((l.take j).any p||p x):=by
 rw[aj hx,List.any_append];simp
theorem cK{α:Type}{n:Nat}{f f':Nat->α}{k:Nat}{y:α}(hk:k<n)(h1:f' k=y)(h2:∀s,s≠k->f' s=f s):((List.range n).map f).set k y=(List.range n).map f':=by
 apply yG;intro s;by_cases hs:s<n
 .by_cases e:k=s
  .subst e;rw[Yq (by rw[Yc,mr];exact hs),Yd,ye hs,<-h1];rfl
  .rw[Yy e,Yd,Yd,ye hs];show some (f s)=some (f' s);rw[h2 s (fun h=>e h.symm)]
 .rw[Yl (by rw[jT,Yc,mr];omega),Yl (by rw[Yc,mr];omega)]
theorem dD{α:Type}{n:Nat}(f:Nat->α){s:Nat}(hs:s<n):((List.range n).map f)[s]?=some (f s):=by rw[Yd,ye hs];rfl
theorem mX{es:List Ed}{j:Nat}{x:Ed}(hx:es[j]?=some x)(role:Int)(s:Nat):dQ (es.take (j+1)) role s=(dQ (es.take j) role s||(decide (x.f=(s:Int))&&decide (x.a=role))):=by unfold dQ;rw[xX hx]
theorem nF{es:List Ed}{j:Nat}{x:Ed}(hx:es[j]?=some x)(s:Nat):dU (es.take (j+1)) s=(dU (es.take j) s||(decide (x.f=(s:Int))&&x.ag)):=by unfold dU;rw[xX hx]
theorem OE{h0 JU B6 od:Heap}{m44:Nat}{I:Int->Heap->Nat->Prop}{y:Int}{g:Gl}{role:Int}{ho cn cc bu cm cD:Sl}{OU:List C3}{FI:List Fs}{LI:List Lm}{AG:List Bool}{AR:List tV}{gb j n:Nat}{x:Ed}(hx:g.es[j]?=some x)(sx:0<=x.f)(hf1:x.f.toNat<n)
  (hs:St h0 JU (.ae od.size x.cs 67::rU B6.size gb g role ho cn cc bu cm cD OU FI LI AG ((List.range n).map (dQ (g.es.take j) role)) AR))
  (hI:∀h':Heap,St h0 h' (rU B6.size gb g role ho cn cc bu cm cD OU FI LI AG ((List.range n).map (dQ (g.es.take (j+1)) role)) AR)->∃m,m<m44/\I (IntKind.wrap .i64 (y+1)) h' m) :
  yf JU B6 od m44 I y role:=by
 unfold yf;have hwn:=(hs.len 6 (s:=cm) (e:=4) (n:=1) (rows:=((List.range n).map (dQ (g.es.take j) role)).map bC) rfl (by omega)).1;rw[Yc,Yc,mr] at hwn;have BQ:((x.f.toNat:Nat):Int)=x.f:=Int.toNat_of_nonneg sx;have fin:∀(v:Bool),v=dQ (g.es.take (j+1)) role x.f.toNat->((List.range n).map (dQ (g.es.take j) role)).set x.f.toNat v=(List.range n).map (dQ (g.es.take (j+1)) role):=fun v hv=>cK hf1 hv.symm fun s bL=>by
  rw[mX hx,decide_eq_false (by omega)];simp
 refine⟨cm,hs.rd 1 rfl (i:=13) rfl,x.f,hs.rd 0 rfl (i:=0) rfl,cm,hs.rd 1 rfl (i:=13) rfl,x.f,hs.rd 0 rfl (i:=0) rfl,?_⟩;refine (hs.rows 6 rfl (by omega)).aD (by omega) (by omega) fun b84 o85 d gd t=>?_;rw[dD _ hf1] at gd;cases gd;refine⟨_,t.hd,aa (fun c=>?_) (fun c=>?_)⟩
 .refine hs.set 6 rfl (by omega) (x:=x.f) (by omega) (by omega) true rfl rfl (fun b87 o88 Fk hs=>hI Fk ?_) rfl;rw[fin true (by rw[mX hx,c];rfl)] at hs;exact hs.drop 1
 .refine⟨x.a,hs.rd 0 rfl (i:=1) rfl,?_⟩;refine hs.set 6 rfl (by omega) (x:=x.f) (by omega) (by omega) (x.a==role) rfl rfl (fun b92 o93 h94 hs=>hI h94 ?_) rfl;rw[fin (x.a==role) (by rw[mX hx,c,BQ,decide_eq_true rfl,Bool.false_or,Bool.true_and];exact (Bool.eq_iff_iff.2 (by simp)))] at hs;exact hs.drop 1
theorem N8{h0 h:Heap}{ab gb:Nat}{g:Gl}{role:Int}{ho cn cc bu cm cD:Sl}{OU:List C3}{FI:List Fs}{LI:List Lm}{AG OW:List Bool}{AR:List tV}{R:List It}(hs:St h0 h (rU ab gb g role ho cn cc bu cm cD OU FI LI AG OW AR++R))(hg:GI h0 g)(hO:OU.map Prod.snd=(List.range g.n.toNat).map fun s=>aw (ah g.es (s:Nat))):
  J5 h ab g role ho (fun i=>((OU[i]?).map Prod.fst).getD ⟨none,0,0⟩):=by
 have NM:OU.length=g.n.toNat:=by have:=congrArg List.length hO;simpa using this
 refine⟨hs.at 0 rfl (o:=0) (n:=10) rfl,hg.ext hs.ext,?_,fun i hi=>?_⟩
 .have h1:=hs.rw 1 (s:=ho) (e:=102) (n:=1) (rows:=(OU.map Prod.fst).map eC) rfl (by omega);have e:(OU.map Prod.fst).map eC=(List.range g.n.toNat).map fun i=>eC (((OU[i]?).map Prod.fst).getD ⟨none,0,0⟩):=by
   apply yG;intro i;rw[Yd,Yd,Yd];by_cases hi:i<g.n.toNat
   .obtain⟨q,hq⟩:=get_some (l:=OU) (i:=i) (by omega);rw[hq,ye hi,Option.map_some,Option.map_some,Option.map_some,hq];rfl
   .rw[Yl (by omega),Yl (by rw[mr];omega)];rfl
  rw[e] at h1;exact h1
 .obtain⟨q,hq⟩:=get_some (l:=OU) (i:=i) (by omega);have h1:=aR hO hi;rw[Yd,hq] at h1;have h2:q.2=aw (ah g.es (i:Nat)):=fH h1;show Rw h 1 ((Option.map Prod.fst OU[i]?).getD ⟨none,0,0⟩) _;rw[hq,<-h2];refine hs.nO (e:=3) ?_ (by omega);unfold rU;refine List.mem_append_left _ (List.mem_append_left _ (List.mem_append_right _ (Yp.2 ⟨q,Yb hq,rfl⟩)))
def vy(g:Gl)(role:Int)(OU:List C3)(FI:List Fs)(LI:List Lm)(AG OW:List Bool):Prop:=
 OU.map Prod.snd=((List.range g.n.toNat).map fun s=>aw (ah g.es (s:Nat)))/\FI.map (fun f=>(f.l,f.b))=((List.range g.n.toNat).map fun s=>(az g role (s:Nat),bP g role (s:Nat)))/\LI=(List.range g.n.toNat).map (cu g role g.ts)/\AG=(List.range g.n.toNat).map (dU g.es)/\OW=(List.range g.n.toNat).map (dQ g.es role)
abbrev aq:Sl:=⟨none,0,0⟩
theorem Gk(es:List Ed)(j s:Nat):(oI es j s).length<=j:=mn (List.length_filter_le _ _) (by rw[mr];exact bc _)
theorem y4(l:List Nat)(j:Nat):aw (l++[j])=aw l++[(j:Int)]:=by unfold aw;rw[Ym];rfl
theorem Kh{g:Gl}{role:Int}{h:Heap}{R:Value->Heap->Prop}(hg:GI h g)(hV:af g)
  (hK:∀(ab:Nat) (ho cn cc bu cm cD:Sl) (OU:List C3) (FI:List Fs) (LI:List Lm) (AG OW:List Bool) (h':Heap),St h h' (rU ab h.size g role ho cn cc bu cm cD OU FI LI AG OW (List.replicate g.n.toNat (aq,[])))->vy g role OU FI LI AG OW->R (.tuple ⟨[.pointer (some ⟨ab,0,none⟩),.int .i64 0]⟩) h') :
  aN g role h R:=by
 intro hF a b c d e hs;unfold Am;have hN:=hV.num.n;have hM:=hV.num.m;have hE:=hV.num.e;have ki:=hg.e.ln;have Sw:=hg.t.ln;have Pa:=hg.t.sm;have yy:g.n.toNat<=9223372036854775807:=by omega
 refine hs.ak fun sz hs=>?_;have hs:=hs.kq 1 rfl g.n.toNat 1 ((List.replicate g.n.toNat aq).map eC) (Bx _) (fun r hr=>by obtain⟨x,_,rfl⟩:=Yp.1 hr;rfl) (by rw[Yc,Yg]) yy;have hs:=hs.kq 2 rfl g.n.toNat 4 ((List.replicate g.n.toNat EZ).map Lm.cs) (GV _) (fun r hr=>by obtain⟨x,_,rfl⟩:=Yp.1 hr;rfl) (by rw[Yc,Yg]) yy;have hs:=hs.kq 3 rfl g.n.toNat 1 ((List.replicate g.n.toNat false).map bC) (GN _) (fun r hr=>by obtain⟨x,_,rfl⟩:=Yp.1 hr;rfl) (by rw[Yc,Yg]) yy;have hs:=hs.kq 4 rfl g.n.toNat 1 ((List.replicate g.n.toNat false).map bC) (GN _) (fun r hr=>by obtain⟨x,_,rfl⟩:=Yp.1 hr;rfl) (by rw[Yc,Yg]) yy;have hs:=hs.kq 5 rfl g.n.toNat 1 ((List.replicate g.n.toNat aq).map eC) (GU _) (fun r hr=>by obtain⟨x,_,rfl⟩:=Yp.1 hr;rfl) (by rw[Yc,Yg]) yy;have hs:=(hs.bJ 195 2).perm (List.perm_middle (l₁:=[_,_])).symm;have hs:=hs.qA (α:=fP) (e:=276) (k:=4) (cs:=fP.cs) (A:=[_,_,_,_,_,_,_,_]) (B:=[]) g.n.toNat;rw[Yw] at hs;have hs:=hs.qA (α:=Int) (e:=3) (k:=1) (cs:=aO) (A:=[_,_,_,_,_,_,_,_]) (B:=_) g.n.toNat;generalize hho:(⟨some ⟨a.size,0,none⟩,g.n.toNat,g.n.toNat⟩:Sl)=ho at *;generalize hhl:(⟨some ⟨b.size,0,none⟩,g.n.toNat,g.n.toNat⟩:Sl)=cc at *;generalize hha:(⟨some ⟨c.size,0,none⟩,g.n.toNat,g.n.toNat⟩:Sl)=bu at *;generalize hhw:(⟨some ⟨d.size,0,none⟩,g.n.toNat,g.n.toNat⟩:Sl)=cm at *;generalize hhr:(⟨some ⟨e.size,0,none⟩,g.n.toNat,g.n.toNat⟩:Sl)=cD at *;have hs:St h sz (rU hF.size h.size g role ho aq cc bu cm cD (List.replicate g.n.toNat (aq,[])) [] (List.replicate g.n.toNat EZ) (List.replicate g.n.toNat false) (List.replicate g.n.toNat false) (List.replicate g.n.toNat (aq,[]))):=by
  subst hho hhl hha hhw hhr;unfold rU;rw[List.map_replicate (f:=Prod.fst),List.map_replicate (f:=Prod.fst)];exact hs
 clear hho hhl hha hhw hhr;refine⟨g.he,hs.rd 7 rfl (i:=6) rfl,?_⟩;have rr:∀ {α:Type} (f:Nat->α) (z:α),(∀s,f s=z)->List.replicate g.n.toNat z=(List.range g.n.toNat).map f:=fun {α} f z hz=>by
  apply yG;intro s;rw[List.getElem?_replicate];by_cases jm:s<g.n.toNat
  .rw[if_pos jm,dD f jm,hz]
  .rw[if_neg jm,Yl (by rw[Yc,mr];omega)]
 refine⟨fun x h' μ=>∃(j:Nat) (OU:List C3),x=(j:Int)/\μ=g.es.length-j/\j<=g.es.length/\OU.map Prod.snd=((List.range g.n.toNat).map fun s=>aw (oI g.es j s)) /\
  St h h' (rU hF.size h.size g role ho aq cc bu cm cD OU [] (List.replicate g.n.toNat EZ) ((List.range g.n.toNat).map (dU (g.es.take j))) ((List.range g.n.toNat).map (dQ (g.es.take j) role)) (List.replicate g.n.toNat (aq,[]))),
  ⟨_,0,List.replicate g.n.toNat (aq,[]),rfl,rfl,by omega,?_,?_⟩,?_⟩
 .rw[List.map_replicate];exact rr _ _ fun s=>rfl
 .rw[<-rr (dU (g.es.take 0)) false fun s=>rfl,<-rr (dQ (g.es.take 0) role) false fun s=>rfl];exact hs
 clear hs;rintro-_ od μ ⟨j,OU,rfl,rfl,hj,hOU,hs⟩;have NM:OU.length=g.n.toNat:=by have:=congrArg List.length hOU;simpa using this
 refine aM (fun c1=>?_) (fun c1=>?_)
 .refine (hg.e.rw.ext hs.ext).aD (by omega) (by omega) fun b47 o48 x gx t=>?_;replace gx:g.es[j]?=some x:=gx;have kM:=hE x (Yb gx);unfold gU at kM;have DY:((x.f.toNat:Nat):Int)=x.f:=by omega
  have BE:x.f.toNat<g.n.toNat:=by omega
  obtain⟨q,hq⟩:=get_some (l:=OU) (i:=x.f.toNat) (by omega);refine⟨_,_,_,_,_,_,t,?_⟩;refine hs.ao (vs:=x.cs) rfl rfl fun kO hs=>?_;refine⟨ho,hs.rd 1 rfl (i:=9) rfl,x.f,hs.rd 0 rfl (i:=0) rfl,ho,hs.rd 1 rfl (i:=9) rfl,x.f,hs.rd 0 rfl (i:=0) rfl,?_⟩;have zJ:=(hs.len 2 (s:=ho) (e:=102) (n:=1) (rows:=(OU.map Prod.fst).map eC) rfl (by omega)).1;rw[Yc,Yc] at zJ;refine (hs.rows 2 rfl (by omega)).aD (by omega) (by omega) fun b61 o62 d gd u=>?_;rw[Yd,hq] at gd;cases gd;refine⟨q.1,u.hd,?_⟩;refine hs.au fun JV E64 hs=>⟨E64.sm,?_⟩;have fL:q.2=aw (oI g.es j x.f.toNat):=by
   have h1:=aR hOU BE;rw[Yd,hq] at h1;exact fH h1
  have sn:q.2.length<=400:=by rw[fL];unfold aw;rw[Yc];have:=Gk g.es j x.f.toNat;omega
  have hs:St h JV ((.ae kO.size (aO (j:Int)) 3 :: .ae od.size x.cs 67::[.ae hF.size (Rx g role ho aq cc bu cm cD) 186,.sl ho 102 1 ((OU.map Prod.fst).map eC),.sl aq 195 2 (([]:List Fs).map Fs.cs),.sl cc 192 4 ((List.replicate g.n.toNat EZ).map Lm.cs),.sl bu 4 1 (((List.range g.n.toNat).map (dU (g.es.take j))).map bC),.sl cm 4 1 (((List.range g.n.toNat).map (dQ (g.es.take j) role)).map bC),.sl cD 274 1 (((List.replicate g.n.toNat ((aq,[]):tV)).map Prod.fst).map eC),.ae h.size g.cs 27])++OU.map (nest 3 1 aO)++(([]:List Fs).map NT++(List.replicate g.n.toNat ((aq,[]):tV)).map (nest 276 4 fP.cs))):=hs;have nt:=(hs.kH hq (by omega)).ln;refine hs.ng hq dv (j:Int) (hs.at 0 rfl (o:=0) (n:=1) rfl) rfl rfl (by omega) (by simp only[maxLen];omega) fun r xr hr fU=>?_;refine⟨fR (hs.same fU 1 1 rfl rfl) (fR (hs.same fU 2 2 rfl rfl) kz),?_⟩;refine fU.set 3 rfl (by omega) (x:=x.f) (by omega) (by omega) r rfl rfl (fun b67 o68 PX hs=>?_) rfl;replace hs:=hs.drop 1;have hs:St h PX (.ae od.size x.cs 67::rU hF.size h.size g role ho aq cc bu cm cD (OU.set x.f.toNat (r,q.2++[(j:Int)])) [] (List.replicate g.n.toNat EZ) ((List.range g.n.toNat).map (dU (g.es.take j))) ((List.range g.n.toNat).map (dQ (g.es.take j) role)) (List.replicate g.n.toNat (aq,[]))):=by
   unfold rU;rw[List.map_set (f:=Prod.fst)];exact hs
  have ade:(OU.set x.f.toNat (r,q.2++[(j:Int)])).map Prod.snd=((List.range g.n.toNat).map fun s=>aw (oI g.es (j+1) s)):=by
   rw[List.map_set,hOU];refine cK BE ?_ fun s hs=>?_
   .show aw (oI g.es (j+1) x.f.toNat)=q.2++[(j:Int)];rw[mY gx,if_pos DY.symm,y4,fL]
   .show aw (oI g.es (j+1) s)=aw (oI g.es j s);rw[mY gx,if_neg (by omega),Yw]
  generalize OU.set x.f.toNat (r,q.2++[(j:Int)])=OU' at *;have acW:=(hs.len 5 (s:=bu) (e:=4) (n:=1) (rows:=((List.range g.n.toNat).map (dU (g.es.take j))).map bC) rfl (by omega)).1;rw[Yc,Yc,mr] at acW;have fin:∀(v:Bool),v=dU (g.es.take (j+1)) x.f.toNat->((List.range g.n.toNat).map (dU (g.es.take j))).set x.f.toNat v=(List.range g.n.toNat).map (dU (g.es.take (j+1))):=fun v hv=>cK BE hv.symm fun s bL=>by
   rw[nF gx,decide_eq_false (by omega)];simp
  refine⟨bu,hs.rd 1 rfl (i:=12) rfl,x.f,hs.rd 0 rfl (i:=0) rfl,bu,hs.rd 1 rfl (i:=12) rfl,x.f,hs.rd 0 rfl (i:=0) rfl,?_⟩;refine (hs.rows 5 rfl (by omega)).aD (by omega) (by omega) fun b74 o75 d gd u2=>?_;rw[dD _ BE] at gd;cases gd;have last:∀ {hZ:Heap},St h hZ (.ae od.size x.cs 67::rU hF.size h.size g role ho aq cc bu cm cD OU' [] (List.replicate g.n.toNat EZ) ((List.range g.n.toNat).map (dU (g.es.take (j+1)))) ((List.range g.n.toNat).map (dQ (g.es.take j) role)) (List.replicate g.n.toNat (aq,[]))) ->
    yf hZ hF od (g.es.length-j) (fun x h' μ=>∃(j:Nat) (OU:List C3),x=(j:Int)/\μ=g.es.length-j/\j<=g.es.length/\OU.map Prod.snd=((List.range g.n.toNat).map fun s=>aw (oI g.es j s))/\St h h' (rU hF.size h.size g role ho aq cc bu cm cD OU [] (List.replicate g.n.toNat EZ) ((List.range g.n.toNat).map (dU (g.es.take j))) ((List.range g.n.toNat).map (dQ (g.es.take j) role)) (List.replicate g.n.toNat (aq,[])))) j role:=fun {hZ} hs=>by
   refine OE gx (by omega) BE hs fun h' bL=>⟨_,?_,j+1,OU',by rw[a7 (by omega) (by omega)];omega,rfl,by omega,ade,bL⟩;omega
  refine⟨_,u2.hd,aa (fun c2=>?_) (fun c2=>?_)⟩
  .refine hs.set 5 rfl (by omega) (x:=x.f) (by omega) (by omega) true rfl rfl (fun b77 o78 JU hs=>last ?_) rfl;rw[fin true (by rw[nF gx,c2];rfl)] at hs;exact hs
  .refine⟨x.ag,hs.rd 0 rfl (i:=5) rfl,?_⟩;refine hs.set 5 rfl (by omega) (x:=x.f) (by omega) (by omega) x.ag rfl rfl (fun b97 o98 WY hs=>last ?_) rfl;rw[fin x.ag (by rw[nF gx,c2,DY,decide_eq_true rfl,Bool.false_or,Bool.true_and])] at hs;exact hs
 .have Lr:j=g.es.length:=by omega
  subst Lr;rw[yd] at hs;refine⟨g.ht,hs.rd 7 rfl (i:=7) rfl,?_⟩;refine⟨fun x h' μ=>∃j:Nat,x=(j:Int)/\μ=g.ht.n-j/\j<=g.ht.n/\St h h' (rU hF.size h.size g role ho aq cc bu cm cD OU [] ((List.range g.n.toNat).map (cu g role (g.ts.take j))) ((List.range g.n.toNat).map (dU g.es)) ((List.range g.n.toNat).map (dQ g.es role)) (List.replicate g.n.toNat (aq,[]))),⟨_,0,rfl,rfl,by omega,?_⟩,?_⟩
  .rw[<-rr (cu g role (g.ts.take 0)) EZ fun s=>rfl];exact hs
  clear hs c1;rintro-_ uU μ ⟨k,rfl,rfl,hk,hs⟩;refine aM (fun c2=>?_) (fun c2=>?_)
  .refine (hg.t.rw.ext hs.ext).aD (by omega) (by omega) fun ahV afZ t gt u=>?_;replace gt:g.ts[k]?=some t:=gt;have htS:=hV.Sa k t gt;obtain⟨JR,x,hx,DY,_⟩:=htS.e;have BE:=(Ya.1 hx).1;have kM:=hE x (Yb hx);unfold gU at kM;have hts:t.s.toNat<g.n.toNat:=by omega
   refine⟨t.s,t.k,t.e,u,?_⟩;refine hs.ao (vs:=t.cs) rfl rfl fun LN hs=>?_;refine⟨g.he,hs.rd 8 rfl (i:=6) rfl,t.e,hs.rd 0 rfl (i:=2) rfl,?_⟩;refine (hg.e.rw.ext hs.ext).aD (by omega) (by omega) fun ahS afW x' gx u2=>?_;rw[hx] at gx;cases gx;refine⟨_,_,_,_,_,_,u2,?_⟩;refine (lr ⟨hF.size,0,none⟩ role x LN (hs.rd 1 rfl (i:=8) rfl)).mono ?_;rintro _ xu ⟨E144,rfl⟩;replace hs:=hs.step E144;have acF:=(hs.len 4 (s:=cc) (e:=192) (n:=4) (rows:=((List.range g.n.toNat).map (cu g role (g.ts.take k))).map Lm.cs) rfl (by omega)).1;rw[Yc,Yc,mr] at acF;have rest:∀(y:Ev) (hy:(aW role x).getD XE=y) {hZ:Heap},St h hZ (.ae xu.size y.cs 188 :: .ae uU.size t.cs 149::rU hF.size h.size g role ho aq cc bu cm cD OU [] ((List.range g.n.toNat).map (cu g role (g.ts.take k))) ((List.range g.n.toNat).map (dU g.es)) ((List.range g.n.toNat).map (dQ g.es role)) (List.replicate g.n.toNat (aq,[]))) ->
     (NB cc.a fun Ra OL=>(0<=t.s/\t.s<(cc.n:Nat))/\(je hZ ⟨Ra,OL+Int.toNat t.s*4,none⟩ 4/\∀HC:Heap,HC=bI hZ ⟨Ra,OL+Int.toNat t.s*4,none⟩ 0 [.int .i64 t.k,.bool y.send,.int .i64 y.peer,.int .i64 y.label]->(∃VH,VH<g.ht.n-k/\∃j:Nat,IntKind.wrap .i64 ((k:Int)+1)=(j:Int)/\VH=g.ht.n-j/\j<=g.ht.n/\St h HC (rU hF.size h.size g role ho aq cc bu cm cD OU [] ((List.range g.n.toNat).map (cu g role (g.ts.take j))) ((List.range g.n.toNat).map (dU g.es)) ((List.range g.n.toNat).map (dQ g.es role)) (List.replicate g.n.toNat (aq,[])))))):=fun y hy {hZ} hs=>by
    refine hs.set 5 rfl (by omega) (x:=t.s) (by omega) (by omega) (⟨t.k,y⟩:Lm) rfl rfl (fun Ra OL HC hs=>⟨_,?_,k+1,by rw[a7 (by omega) (by omega)];omega,rfl,by omega,?_⟩) rfl
    .omega
    .have e1:((List.range g.n.toNat).map (cu g role (g.ts.take k))).set t.s.toNat (⟨t.k,y⟩:Lm)=(List.range g.n.toNat).map (cu g role (g.ts.take (k+1))):=by
      refine cK hts ?_ fun s hs=>?_
      .unfold cu;rw[aj gt,List.foldl_append];show (if t.s=((t.s.toNat:Nat):Int) then ta g role t else _)=_;rw[if_pos (by omega)];unfold ta;rw[aK hx,hy]
      .unfold cu;rw[aj gt,List.foldl_append];show (if t.s=((s:Nat):Int) then ta g role t else _)=_;rw[if_neg (by omega)]
     rw[e1] at hs;exact hs.drop 2
   cases hvis:aW role x with
   | some y=>
    refine⟨y.send,y.peer,y.label,true,rfl,?_⟩;refine hs.ao (vs:=y.cs) rfl rfl fun adM hs=>?_;refine⟨cc,hs.rd 2 rfl (i:=11) rfl,t.s,hs.rd 1 rfl (i:=0) rfl,t.k,hs.rd 1 rfl (i:=1) rfl,y.send,y.peer,y.label,hs.at 0 rfl (o:=0) (n:=3) rfl,?_⟩;exact rest y (by rw[hvis];rfl) hs
   | none=>
    refine⟨false,0,0,false,rfl,?_⟩;refine hs.ao (vs:=XE.cs) rfl rfl fun adM hs=>?_;refine⟨cc,hs.rd 2 rfl (i:=11) rfl,t.s,hs.rd 1 rfl (i:=0) rfl,t.k,hs.rd 1 rfl (i:=1) rfl,false,0,0,hs.at 0 rfl (o:=0) (n:=3) rfl,?_⟩;exact rest XE (by rw[hvis];rfl) hs
  .rw[Yj (by omega)] at hs;refine⟨g.n,hs.rd 7 rfl (i:=3) rfl,?_⟩;refine⟨fun x h' μ=>∃(j:Nat) (cn:Sl) (FI:List Fs),x=(j:Int)/\μ=g.n.toNat-j/\j<=g.n.toNat/\FI.map (fun f=>(f.l,f.b))=((List.range j).map fun s=>(az g role (s:Nat),bP g role (s:Nat)))/\St h h' (rU hF.size h.size g role ho cn cc bu cm cD OU FI ((List.range g.n.toNat).map (cu g role g.ts)) ((List.range g.n.toNat).map (dU g.es)) ((List.range g.n.toNat).map (dQ g.es role)) (List.replicate g.n.toNat (aq,[]))),⟨_,0,aq,[],rfl,rfl,Nat.zero_le _,rfl,hs⟩,?_⟩;clear hs c2 hk;rintro-_ h162 μ ⟨k,cn,FI,rfl,rfl,hk,hFI,hs⟩;have hFl:FI.length=k:=by have:=congrArg List.length hFI;simpa using this
   refine aM (fun c3=>?_) (fun c3=>?_)
   .refine⟨cn,hs.rd 0 rfl (i:=10) rfl,?_⟩;have hOG:OU.map Prod.snd=((List.range g.n.toNat).map fun s=>aw (ah g.es (s:Nat))):=hOU;have hG:=N8 (R:=[]) (by rw[Yw];exact hs) hg hOG;refine (zU hF.size g role ho _ k h162 hG hV (by omega)).mono ?_;rintro _ P9 ⟨r,rfl,bG⟩;refine⟨r,bP g role (k:Nat),rfl,bG.ext.sm,?_⟩;have hs:=hs.join bG;refine hs.au fun ahv aeR hs=>⟨aeR.sm,?_⟩;have fJ:=hs.len 3 (s:=cn) (e:=195) (n:=2) (rows:=FI.map Fs.cs) rfl (by omega);rw[Yc] at fJ;refine hs.appended 3 rfl Rm (news:=[Fs.cs ⟨r,az g role (k:Nat),bP g role (k:Nat)⟩]) (hs.at 0 rfl (o:=0) (n:=2) rfl) rfl (fun q hq=>by rw[Ye] at hq;rw[hq];rfl) rfl (by show (cn.n+1)*32<=140737488355328;omega) (by show cn.n+1<=9223372036854775807;omega) fun we LM n169 hs=>?_;refine hs.put 1 rfl (o:=10) (vs:=[.slice we.a we.n we.c]) rfl (show 11<=15 by decide) fun ahu hs=>?_;refine⟨_,?_,k+1,we,FI++[⟨r,az g role (k:Nat),bP g role (k:Nat)⟩],by rw[a7 (by omega) (by omega)];omega,rfl,by omega,by rw[Ym,hFI,List.range_succ,Ym];rfl,?_⟩
    .omega
    .refine (hs.drop 1).perm ?_;unfold rU;rw[Ym (f:=Fs.cs),Ym (f:=NT)];refine List.Perm.trans (List.Perm.of_eq (l₂:=[.ae hF.size (Rx g role ho we cc bu cm cD) 186,.sl ho 102 1 ((OU.map Prod.fst).map eC),.sl we 195 2 (FI.map Fs.cs++[⟨r,az g role (k:Nat),bP g role (k:Nat)⟩].map Fs.cs),.sl cc 192 4 (((List.range g.n.toNat).map (cu g role g.ts)).map Lm.cs),.sl bu 4 1 (((List.range g.n.toNat).map (dU g.es)).map bC),.sl cm 4 1 (((List.range g.n.toNat).map (dQ g.es role)).map bC),.sl cD 274 1 (((List.replicate g.n.toNat ((aq,[]):tV)).map Prod.fst).map eC),.ae h.size g.cs 27]++OU.map (nest 3 1 aO)++((FI.map NT++(List.replicate g.n.toNat ((aq,[]):tV)).map (nest 276 4 fP.cs))++[.sl r 188 3 ((az g role (k:Nat)).map Ev.cs)])) ?_) (List.Perm.append_left _ ?_)
     .exact Yz ([.ae hF.size (Rx g role ho we cc bu cm cD) 186,.sl ho 102 1 ((OU.map Prod.fst).map eC),.sl we 195 2 (FI.map Fs.cs++[⟨r,az g role (k:Nat),bP g role (k:Nat)⟩].map Fs.cs),.sl cc 192 4 (((List.range g.n.toNat).map (cu g role g.ts)).map Lm.cs),.sl bu 4 1 (((List.range g.n.toNat).map (dU g.es)).map bC),.sl cm 4 1 (((List.range g.n.toNat).map (dQ g.es role)).map bC),.sl cD 274 1 (((List.replicate g.n.toNat ((aq,[]):tV)).map Prod.fst).map eC),.ae h.size g.cs 27]++OU.map (nest 3 1 aO)) (FI.map NT++(List.replicate g.n.toNat ((aq,[]):tV)).map (nest 276 4 fP.cs)) [.sl r 188 3 ((az g role (k:Nat)).map Ev.cs)]
     .rw[Yz,Yz];exact List.Perm.append_left _ List.perm_append_comm
   .have ND:k=g.n.toNat:=by omega
    subst ND;exact hK hF.size ho cn cc bu cm cD OU FI _ _ _ h162 hs ⟨hOU,hFI,rfl,rfl,rfl⟩
theorem Ai(g:Gl)(role:Int)(h:Heap)(hg:GI h g)(hx:Gm h):
  Fn Pz 49 #[g.v,.int .i64 role] h fun v h'=>(¬(af g/\0<=role/\role<g.rs.length)/\v=.tuple ⟨[.pointer none,.int .i64 1]⟩/\Ext h h') \/
   ((af g/\0<=role/\role<g.rs.length)/\∃(ab:Nat) (ho cn cc bu cm cD:Sl) (OU:List C3) (FI:List Fs) (LI:List Lm) (AG OW:List Bool),v=.tuple ⟨[.pointer (some ⟨ab,0,none⟩),.int .i64 0]⟩/\St h h' (rU ab h.size g role ho cn cc bu cm cD OU FI LI AG OW (List.replicate g.n.toNat (aq,[])))/\vy g role OU FI LI AG OW):=by
 apply abl (bs g.nm) g.hr g.hd g.n g.s g.e g.he g.ht role;unfold W49;have jY:=hg.r.ln;refine (St.refl h).ak fun h9 hs=>?_;refine⟨_,_,_,_,_,_,_,_,hs.at 0 rfl (n:=8) rfl,?_⟩;refine (tX g h9 (hg.ext hs.ext) (hx.ext hs.ext)).mono ?_;rintro _ aG ⟨rfl,E20⟩;replace hs:=hs.step E20;refine⟨_,rfl,?_⟩;by_cases hV:af g
 .rw[decide_eq_true hV];refine ja rfl ?_;refine aM (fun c=>.inl ⟨fun h=>by omega,rfl,hs.ext⟩) (fun c1=>?_);refine⟨g.hr,hs.rd 0 rfl (i:=1) rfl,aM (fun c=>.inl ⟨fun h=>by omega,rfl,hs.ext⟩) (fun c2=>?_)⟩;have hN:=hV.num.n;refine⟨_,_,_,_,_,_,_,_,hs.at 0 rfl (n:=8) rfl,g.n,hs.rd 0 rfl (i:=3) rfl,g.n,hs.rd 0 rfl (i:=3) rfl,g.n,hs.rd 0 rfl (i:=3) rfl,g.n,hs.rd 0 rfl (i:=3) rfl,g.n,hs.rd 0 rfl (i:=3) rfl,?_⟩;have hT:aN g role h fun v h'=>(¬(af g/\0<=role/\role<g.rs.length)/\v=.tuple ⟨[.pointer none,.int .i64 1]⟩/\Ext h h') \/
   ((af g/\0<=role/\role<g.rs.length)/\∃(ab:Nat) (ho cn cc bu cm cD:Sl) (OU:List C3) (FI:List Fs) (LI:List Lm) (AG OW:List Bool),v=.tuple ⟨[.pointer (some ⟨ab,0,none⟩),.int .i64 0]⟩/\St h h' (rU ab h.size g role ho cn cc bu cm cD OU FI LI AG OW (List.replicate g.n.toNat (aq,[])))/\vy g role OU FI LI AG OW):=
   Kh hg hV fun ab ho cn cc bu cm cD OU FI LI AG OW h' hs Fa=>.inr ⟨⟨hV,by omega,by omega⟩,ab,ho,cn,cc,bu,cm,cD,OU,FI,LI,AG,OW,rfl,hs,Fa⟩
  have hn:1<=g.n/\g.n<=200:=⟨by omega,by omega⟩;exact⟨KS hT hn hs,KR hT hn hs,KQ hT hn hs,KP hT hn hs,KO hT hn hs⟩
 .rw[decide_eq_false hV];refine qf rfl (.inl ⟨fun h=>hV h.1,rfl,hs.ext⟩)
def ju(g:Gl)(i:Nat)(m:Ms):fP:=⟨(i:Int),1+((gh g i m).length:Int),m⟩
def tM(g:Gl)(i:Nat)(l:List Ms):List fP:=(l.filter fun m=>decide (m.p≠(eA g.es i).a)).map (ju g i)
def iv(g:Gl)(role:Int)(i:Nat):List fP:=if (eA g.es i).b=role then tM g i (dM g i) else []
def du(g:Gl)(role:Int)(s:Nat):List fP:=(ah g.es (s:Nat)).flatMap (iv g role)
theorem ry{g:Gl}{i:Nat}{l:List Ms}{k:Nat}{m:Ms}(hm:l[k]?=some m):tM g i (l.take (k+1))=tM g i (l.take k)++(if m.p≠(eA g.es i).a then [ju g i m] else []):=by
 unfold tM;rw[aj hm,List.filter_append,Ym];congr 1;by_cases e:m.p≠(eA g.es i).a
 .rw[if_pos e,List.filter_cons_of_pos (by rw[decide_eq_true e])];rfl
 .rw[if_neg e,List.filter_cons_of_neg (by rw[decide_eq_false e];decide)];rfl
def tN(ab gb:Nat)(g:Gl)(role:Int)(ho cn cc bu cm cD:Sl)(OU:List C3)(FI:List Fs)(LI:List Lm)(AG OW:List Bool)(AR:List tV)(R:List It):List It:=
 ([.ae ab (Rx g role ho cn cc bu cm cD) 186,.sl ho 102 1 ((OU.map Prod.fst).map eC),.sl cn 195 2 (FI.map Fs.cs),.sl cc 192 4 (LI.map Lm.cs),.sl bu 4 1 (AG.map bC),.sl cm 4 1 (OW.map bC),.sl cD 274 1 ((AR.map Prod.fst).map eC),.ae gb g.cs 27]++OU.map (nest 3 1 aO)++FI.map NT)++AR.map (nest 276 4 fP.cs)++R
theorem Ir(ab gb:Nat)(g:Gl)(role:Int)(ho cn cc bu cm cD:Sl)(OU:List C3)(FI:List Fs)(LI:List Lm)(AG OW:List Bool)(AR:List tV)(R:List It):tN ab gb g role ho cn cc bu cm cD OU FI LI AG OW AR R=rU ab gb g role ho cn cc bu cm cD OU FI LI AG OW AR++R:=by
 unfold tN rU;simp only[Yz]
structure MG (g:Gl) (role:Int) (f:Nat->List fP) (AR:List tV):Prop where
 l:AR.map Prod.snd=(List.range g.n.toNat).map f
 b:∀q∈AR,∀x∈q.2,0<x.n/\x.n<=1048577
theorem MG.len{g:Gl}{role:Int}{f:Nat->List fP}{AR:List tV}(h:MG g role f AR):AR.length=g.n.toNat:=by have:=congrArg List.length h.l;simpa using this
theorem HU{h0 h:Heap}{ab gb:Nat}{g:Gl}{role:Int}{ho cn cc bu cm cD:Sl}{OU:List C3}{FI:List Fs}{LI:List Lm}{AG OW:List Bool}{R:List It}(hs:St h0 h (tN ab gb g role ho cn cc bu cm cD OU FI LI AG OW (List.replicate g.n.toNat (aq,[])) R))(hg:GI h0 g)(hx:Gm h0)(hV:af g)
  (hO:OU.map Prod.snd=(List.range g.n.toNat).map fun s=>aw (ah g.es (s:Nat))) :
  Fn Pz 82 #[.pointer (some ⟨ab,0,none⟩)] h fun v h'=>v=.tuple ⟨[]⟩/\∃AR:List tV,St h0 h' (tN ab gb g role ho cn cc bu cm cD OU FI LI AG OW AR R)/\MG g role (du g role) AR/\∀q∈AR,q.2.length<=160000:=by
 apply aaX ⟨ab,0,none⟩;unfold W82;have hN:=hV.num.n;have hM:=hV.num.m;have hE:=hV.num.e;have ki:=hg.e.ln;have NM:OU.length=g.n.toNat:=by have:=congrArg List.length hO;simpa using this
 refine⟨g.n,hs.rd 0 rfl (i:=3) rfl,?_⟩;refine⟨fun x h' μ=>∃(s:Nat) (AR:List tV),x=(s:Int)/\μ=g.n.toNat-s/\s<=g.n.toNat/\St h0 h' (tN ab gb g role ho cn cc bu cm cD OU FI LI AG OW AR R)/\MG g role (fun t=>if t<s then du g role t else []) AR/\∀q∈AR,q.2.length<=160000,⟨_,0,_,rfl,rfl,Nat.zero_le _,hs,⟨?_,fun q hq x hx=>?_⟩,fun q hq=>?_⟩,?_⟩
 .rw[List.map_replicate];apply yG;intro s;rw[List.getElem?_replicate,Yd];by_cases hs:s<g.n.toNat
  .rw[if_pos hs,ye hs];rfl
  .rw[if_neg hs,Yl (by rw[mr];omega)];rfl
 .rw[List.eq_of_mem_replicate hq] at hx;cases hx
 .rw[List.eq_of_mem_replicate hq];exact Nat.zero_le _
 clear hs;rintro-_ h6 μ ⟨s,AR,rfl,rfl,jm,hs,ny,mB⟩;refine aM (fun c=>?_) (fun c=>?_)
 .obtain⟨qo,VZ⟩:=get_some (l:=OU) (i:=s) (by omega);have VY:qo.2=aw (ah g.es (s:Nat)):=by
   have h1:=aR hO (s:=s) (by omega);rw[Yd,VZ] at h1;exact fH h1
  have tt:=cA g.es (s:Nat);have Py:=(hs.len 1 (s:=ho) (e:=102) (n:=1) (rows:=(OU.map Prod.fst).map eC) rfl (by omega)).1;rw[Yc,Yc] at Py;refine⟨ho,hs.rd 0 rfl (i:=9) rfl,?_⟩;refine (hs.rows 1 rfl (by omega)).aD (by omega) (by omega) fun b8 o9 d gd u=>?_;replace gd:(OU.map Prod.fst)[s]?=some d:=gd;rw[Yd,VZ] at gd;cases gd;refine⟨qo.1,u.hd,?_⟩;have eH:∀ {AR F},.sl qo.1 3 1 (qo.2.map aO)∈(F++tN ab gb g role ho cn cc bu cm cD OU FI LI AG OW AR R:List It):=fun {AR F}=>by
   refine List.mem_append_right _ ?_;unfold tN;refine List.mem_append_left _ (List.mem_append_left _ (List.mem_append_left _ (List.mem_append_right _ (Yp.2 ⟨qo,Yb VZ,rfl⟩))))
  have VW:Rw h6 1 qo.1 (qo.2.map aO):=hs.nO (eH (F:=[])) (by omega);have nt:qo.1.n=(ah g.es (s:Nat)).length:=by have:=VW.1;rw[Yc,VY] at this;rw[this];exact Yc _
  clear VW;refine⟨fun x h' μ=>∃(j:Nat) (AR:List tV),x=(j:Int)/\μ=qo.1.n-j/\j<=qo.1.n/\St h0 h' (tN ab gb g role ho cn cc bu cm cD OU FI LI AG OW AR R)/\MG g role (fun t=>if t<s then du g role t else if t=s then ((ah g.es (s:Nat)).take j).flatMap (iv g role) else []) AR/\(∀q∈AR,q.2.length<=160000)/\(((ah g.es (s:Nat)).take j).flatMap (iv g role)).length<=400*j,⟨_,0,AR,rfl,rfl,Nat.zero_le _,hs,?_,mB,Nat.zero_le _⟩,?_⟩
  .refine⟨?_,ny.b⟩;rw[ny.l];apply List.map_congr_left;intro t _;by_cases e1:t<s
   .rw[if_pos e1,if_pos e1]
   .rw[if_neg e1,if_neg e1];by_cases e2:t=s
    .rw[if_pos e2];rfl
    .rw[if_neg e2]
  clear hs ny mB;rintro-_ rP μ ⟨j,AR,rfl,rfl,hj,hs,ny,mB,BN⟩;have jX:Rw rP 1 qo.1 (qo.2.map aO):=hs.nO (eH (F:=[])) (by omega);refine aM (fun c2=>?_) (fun c2=>?_)
  .refine jX.aD (by omega) (by omega) fun b16 o17 d gd u2=>?_;rw[VY] at gd;obtain⟨k,hk,rfl⟩:=cV gd;replace hk:(ah g.es (s:Nat))[j]?=some k:=hk;obtain⟨x0,jJ,DY⟩:=aA.1 (Yb hk);have qP:=(Ya.1 jJ).1;have kM:=aK jJ;have M3:∀ {AR':List tV},MG g role (fun t=>if t<s then du g role t else if t=s then ((ah g.es (s:Nat)).take j).flatMap (iv g role)++iv g role k else []) AR'->MG g role (fun t=>if t<s then du g role t else if t=s then ((ah g.es (s:Nat)).take (j+1)).flatMap (iv g role) else []) AR':=fun {AR'} h9=>by
    rw[aj hk,List.flatMap_append,List.flatMap_singleton];exact h9
   refine⟨(k:Int),u2.hd,g.he,hs.rd 0 rfl (i:=6) rfl,?_⟩;refine (hg.e.rw.ext hs.ext).aD (by omega) (by omega) fun b20 o21 x gx u3=>?_;replace gx:g.es[k]?=some x:=gx;rw[jJ] at gx;cases gx;refine⟨x0.b,u3.nth 2 rfl,role,hs.rd 0 rfl (i:=8) rfl,fZ (fun c3=>?_) (fun c3=>?_)⟩
   .have e1:iv g role k=[]:=by unfold iv;rw[kM,if_neg c3]
    refine⟨_,?_,j+1,AR,by rw[a7 (by omega) (by omega)];omega,rfl,by omega,hs,M3 (by rw[e1,Yw];exact ny),mB,?_⟩
    .omega
    .rw[aj hk,List.flatMap_append,List.flatMap_singleton,e1,Yw];omega
   .have e1:iv g role k=tM g k (dM g k):=by unfold iv;rw[kM,if_pos c3]
    refine⟨_,_,_,_,_,_,_,_,hs.at 0 rfl (o:=0) (n:=8) rfl,?_⟩;refine (HT g k x0 rP (hg.ext hs.ext) (hx.ext hs.ext) hV jJ).mono ?_;rintro _ gn ⟨E36,sl,rfl,Pd,WA⟩;replace hs:=(hs.join Pd).perm (List.perm_append_comm (l₁:=tN ab gb g role ho cn cc bu cm cD OU FI LI AG OW AR R) (l₂:=[_]));refine⟨sl,0,rfl,?_⟩;refine⟨fun x h' μ=>∃(l:Nat) (AR:List tV),x=(l:Int)/\μ=sl.n-l/\l<=sl.n/\St h0 h' (.sl sl 72 2 ((dM g k).map Ms.cs)::tN ab gb g role ho cn cc bu cm cD OU FI LI AG OW AR R)/\MG g role (fun t=>if t<s then du g role t else if t=s then ((ah g.es (s:Nat)).take j).flatMap (iv g role)++tM g k ((dM g k).take l) else []) AR/\(∀q∈AR,q.2.length<=160000)/\(tM g k ((dM g k).take l)).length<=l,⟨_,0,AR,rfl,rfl,Nat.zero_le _,hs,?_,mB,Nat.zero_le _⟩,?_⟩
    .have:tM g k ((dM g k).take 0)=[]:=rfl;rw[this,Yw];exact ny
    clear hs ny mB jX;rintro-_ LJ μ ⟨l,AR,rfl,rfl,hl,hs,ny,mB,Ff⟩;have nX:=(hs.len 0 (s:=sl) (e:=72) (n:=2) (rows:=(dM g k).map Ms.cs) rfl (by omega)).1;rw[Yc] at nX;refine aM (fun c4=>?_) (fun c4=>?_)
    .refine (hs.rows 0 rfl (by omega)).aD (by omega) (by omega) fun b42 o43 m gm u4=>?_;replace gm:(dM g k)[l]?=some m:=gm;have mz:=Yb gm;refine⟨m.p,m.l,u4,?_⟩;refine hs.ao (vs:=m.cs) rfl rfl fun qR hs=>?_;refine⟨m.p,hs.rd 0 rfl (i:=0) rfl,g.he,hs.rd 2 rfl (i:=6) rfl,?_⟩;refine (hg.e.rw.ext hs.ext).aD (by omega) (by omega) fun b50 o51 x gx u5=>?_;replace gx:g.es[k]?=some x:=gx;rw[jJ] at gx;cases gx;refine⟨x0.a,u5.nth 1 rfl,dp (fun c5=>?_) (fun c5=>?_)⟩
     .have e2:tM g k ((dM g k).take (l+1))=tM g k ((dM g k).take l):=by rw[ry gm,if_neg (by rw[kM];exact fun h9=>h9 c5),Yw]
      refine⟨_,?_,l+1,AR,by rw[a7 (by omega) (by omega)];omega,rfl,by omega,hs.drop 1,by rw[e2];exact ny,mB,by rw[e2];omega⟩;omega
     .have e2:tM g k ((dM g k).take (l+1))=tM g k ((dM g k).take l)++[ju g k m]:=by rw[ry gm,if_pos (by rw[kM];exact c5)]
      refine⟨_,_,_,_,_,_,_,_,hs.at 2 rfl (o:=0) (n:=8) rfl,m.p,m.l,hs.at 0 rfl (o:=0) (n:=2) rfl,?_⟩;refine (AY g k x0 m qR (hg.ext hs.ext) (hx.ext hs.ext) hV jJ mz).mono ?_;rintro _ h67 ⟨E67,sp,rfl,Fa,dz⟩;replace hs:=hs.step E67;have Hb:=(Fa.len 0 (s:=sp) (e:=65) (n:=3) rfl (by omega)).1;rw[Yc] at Hb;have WX:=ny.len;obtain⟨q,hq⟩:=get_some (l:=AR) (i:=s) (by omega);have fL:q.2=((ah g.es (s:Nat)).take j).flatMap (iv g role)++tM g k ((dM g k).take l):=by
       have h1:=aR ny.l (s:=s) (by omega);rw[Yd,hq,if_neg (by omega),if_pos rfl] at h1;exact fH h1
      have sn:q.2.length<=400*j+l:=by rw[fL,Yh];omega
      have Ws:=(hs.len 8 (s:=cD) (e:=274) (n:=1) (rows:=(AR.map Prod.fst).map eC) rfl (by omega)).1;rw[Yc,Yc] at Ws;refine⟨sp,0,rfl,cD,hs.rd 2 rfl (i:=14) rfl,cD,hs.rd 2 rfl (i:=14) rfl,?_⟩;refine (hs.rows 8 rfl (by omega)).aD (by omega) (by omega) fun b70 o71 d gd u6=>?_;replace gd:(AR.map Prod.fst)[s]?=some d:=gd;rw[Yd,hq] at gd;cases gd;refine⟨q.1,u6.hd,m.p,m.l,hs.at 0 rfl (o:=0) (n:=2) rfl,?_⟩;have hw:IntKind.wrap .i64 (1+(sp.n:Int))=1+((gh g k m).length:Int):=by rw[a7 (by omega) (by omega),Hb]
      rw[hw];refine hs.au fun ij E75 hs=>⟨E75.sm,?_⟩;have hs:St h0 ij ((.ae h67.size (ju g k m).cs 276 :: .ae LJ.size m.cs 72 :: .sl sl 72 2 ((dM g k).map Ms.cs)::([.ae ab (Rx g role ho cn cc bu cm cD) 186,.sl ho 102 1 ((OU.map Prod.fst).map eC),.sl cn 195 2 (FI.map Fs.cs),.sl cc 192 4 (LI.map Lm.cs),.sl bu 4 1 (AG.map bC),.sl cm 4 1 (OW.map bC),.sl cD 274 1 ((AR.map Prod.fst).map eC),.ae gb g.cs 27]++OU.map (nest 3 1 aO)++FI.map NT))++AR.map (nest 276 4 fP.cs)++R):=hs;have nt:=(hs.kH hq (by omega)).ln;refine hs.ng hq Ri (ju g k m) (hs.at 0 rfl (o:=0) (n:=4) rfl) rfl rfl (by omega) (by simp only[maxLen];omega) fun r SP hr fU=>⟨?_,?_⟩
      .exact fR (hs.same fU 3 3 rfl rfl) kz
      .refine fU.set 9 rfl (by omega) (x:=(s:Int)) (by omega) (by omega) r rfl rfl (fun N3 OG h80 hs=>?_) rfl;refine⟨_,?_,l+1,AR.set s (r,q.2++[ju g k m]),by rw[a7 (by omega) (by omega)];omega,rfl,by omega,?_,⟨?_,fun q' pF x DZ=>?_⟩,fun q' pF=>?_,by rw[e2,Yh,Yv];omega⟩
       .omega
       .have hs:=hs.drop 2;unfold tN;rw[List.map_set (f:=Prod.fst)];exact hs
       .rw[List.map_set,ny.l];refine cK (by omega) ?_ fun t ht=>?_
        .simp only[Nat.lt_irrefl,if_false,if_true];rw[e2,fL,Yz]
        .show (if t<s then du g role t else if t=s then _ else _)=(if t<s then du g role t else if t=s then _ else _);by_cases e3:t<s
         .rw[if_pos e3,if_pos e3]
         .rw[if_neg e3,if_neg e3,if_neg ht,if_neg ht]
       .rcases List.mem_or_eq_of_mem_set pF with pF | rfl
        .exact ny.b q' pF x DZ
        .rcases Yk.1 DZ with DZ | DZ
         .exact ny.b q (Yb hq) x DZ
         .rw[Ye] at DZ;subst DZ;show 0<1+((gh g k m).length:Int)/\1+((gh g k m).length:Int)<=1048577;omega
       .rcases List.mem_or_eq_of_mem_set pF with pF | rfl
        .exact mB q' pF
        .show (q.2++[ju g k m]).length<=160000;rw[Yh,Yv];omega
    .rw[Yj (l:=dM g k) (by omega)] at ny Ff;refine⟨_,?_,j+1,AR,by rw[a7 (by omega) (by omega)];omega,rfl,by omega,hs.drop 1,M3 (by rw[e1];exact ny),mB,?_⟩
     .omega
     .rw[aj hk,List.flatMap_append,List.flatMap_singleton,Yh,e1];omega
  .rw[Yj (by omega)] at ny;refine⟨_,?_,s+1,AR,by rw[a7 (by omega) (by omega)];omega,rfl,by omega,hs,⟨?_,ny.b⟩,mB⟩
   .omega
   .rw[ny.l];apply List.map_congr_left;intro t _;by_cases e1:t<s
    .rw[if_pos e1,if_pos (by omega)]
    .rw[if_neg e1];by_cases e2:t=s
     .subst e2;rw[if_pos rfl,if_pos (by omega)];rfl
     .rw[if_neg e2,if_neg (by omega)]
 .refine⟨rfl,AR,hs,⟨?_,ny.b⟩,mB⟩;rw[ny.l];apply List.map_congr_left;intro t ht;rw[List.mem_range] at ht;rw[if_pos (by omega)]
def ax:Int:=1073741824
def dO(O:List (Pr × Nat))(p:Pr):Int:=(aU O p).elim ax fun k=>(k:Int)
theorem Cj(ob:Nat)(O:List (Pr × Nat))(p:Pr)(h:Heap)(hm:It.ok h (.mp ob (O.map fun q=>(pV q.1,oK q.2))))(hk:∀q∈O,eG q.1)(hn:(O.map Prod.fst).Nodup)(hp:eG p):
  Fn Pz 165 #[.map (some ob),.agg ⟨pC p⟩] h fun v h'=>v=.int .i64 (dO O p)/\Ext h h':=by
 apply Ux (some ob) (p.1:Nat) (p.2:Nat);unfold ZQ;refine (St.refl h).ak fun h3 hs=>?_;refine⟨_,_,hs.at 0 rfl (o:=0) (n:=2) rfl,?_⟩;refine uG (a:=p) Jw (hm.br fun b hb=>hs.ext.2 b (hm.lt hb)) hk hn hp true ?_;unfold dO;generalize aU O p=o;cases o with
 | none=>exact⟨0,false,rfl,rfl,hs.ext⟩
 | some k=>exact⟨(k:Int),true,rfl,rfl,hs.ext⟩
def qy(D:Pr->Int)(p:Pr)(m:aP):Bool:=decide ((bO m:Int)+D (bj m)=D p)
theorem QH(ob:Nat)(O:List (Pr × Nat))(m:aP)(p:Pr)(c0 c1:Addr)(h:Heap)(fV:hc h c0=some (.map (some ob)))(sy:a6 h c1 (pC p))(hm:It.ok h (.mp ob (O.map fun q=>(pV q.1,oK q.2))))(hk:∀q∈O,eG q.1)(hn:(O.map Prod.fst).Nodup)(hp:eG p)(hq:eG (bj m))(e1:((bj m).1:Int)=m.s)(e2:((bj m).2:Int)=m.t)(hb:0<=dO O (bj m)/\dO O (bj m)<=ax):
  Fn Pz 168 #[.agg ⟨m.cs⟩,.pointer (some c0),.pointer (some c1)] h fun v h'=>v=.bool (qy (dO O) p m)/\Ext h h':=by
 apply Uu m.x m.y m.s m.t c0 c1;unfold ZN;have hpc:pC (bj m)=[.int .i64 m.s,.int .i64 m.t]:=by unfold pC;rw[e1,e2]
 have dz:=bM m;unfold ax at hb;refine (St.refl h).ak fun h5 hs=>?_;refine⟨_,_,_,_,hs.at 0 rfl (o:=0) (n:=4) rfl,some ob,ay hs.ext fV,_,_,hs.at 0 rfl (o:=2) (n:=2) rfl,some ob,ay hs.ext fV,_,_,fW hs.ext sy,?_⟩;refine (qE m.x m.y m.s m.t h5).mono ?_;rintro _ fN ⟨rfl,E1⟩;replace hs:=hs.step E1;refine⟨_,rfl,E1.sm,?_⟩;have zQ:=Cj ob O (bj m) fN (hm.br fun b hb=>hs.ext.2 b (hm.lt hb)) hk hn hq;rw[hpc] at zQ;refine zQ.mono ?_;rintro _ iP ⟨rfl,E2⟩;replace hs:=hs.step E2;refine⟨_,rfl,E2.sm,?_⟩;refine (Cj ob O p iP (hm.br fun b hb=>hs.ext.2 b (hm.lt hb)) hk hn hp).mono ?_;rintro _ rO ⟨rfl,E3⟩;replace hs:=hs.step E3;refine⟨_,rfl,E3.sm,?_,hs.ext⟩;have hw:(if 0<=m.x/\0<=m.y then (2:Int) else 1)=(bO m:Int):=by unfold bO;split<;>rfl
 rw[hw,a7 (by omega) (by omega)];unfold qy;congr 1
theorem QW:aJ Pz 168=true:=by kernel_rfl
theorem G3(ob:Nat)(O:List (Pr × Nat))(L:List aP)(p:Pr)(c0 c1:Addr)(s:Sl)(h:Heap)(hr:Rw h 4 s (L.map aP.cs))(hl:L.length<=16777216)(fV:hc h c0=some (.map (some ob)))(sy:a6 h c1 (pC p))(hm:It.ok h (.mp ob (O.map fun q=>(pV q.1,oK q.2))))(hk:∀q∈O,eG q.1)(hn:(O.map Prod.fst).Nodup)(hp:eG p)
  (hL:∀m∈L,eG (bj m)/\((bj m).1:Int)=m.s/\((bj m).2:Int)=m.t/\0<=dO O (bj m)/\dO O (bj m)<=ax) :
  Fn Pz 167 #[.slice s.a s.n s.c,.func (.func 168) #[] #[.pointer (some c0),.pointer (some c1)]] h fun v h'=>v=.int .i64 (uI (qy (dO O) p) L)/\Ext h h':=by
 apply Uv;unfold ZO;have SF:=hr.1;rw[Yc] at SF;refine⟨fun x h' μ=>∃i:Nat,x=i/\μ=s.n-i/\i<=s.n/\Ext h h'/\∀(j:Nat) (y:aP),j<i->L[j]?=some y->qy (dO O) p y=false,⟨_,0,rfl,rfl,Nat.zero_le _,.iC,fun j y hj=>by omega⟩,?_⟩;rintro-_ h5 μ ⟨i,rfl,rfl,hi,E,hd⟩;refine aM (fun c=>?_) (fun c=>?_)
 .refine (hr.ext E).aD (by omega) (by omega) fun b6 o7 q g t=>?_;replace g:L[i]?=some q:=g;obtain⟨q1,q2,q3,q4⟩:=hL q (Yb g);refine⟨q.x,q.y,q.s,q.t,t,?_⟩;show cond (aJ Pz 168) _ _;rw[QW,cond_true];refine (QH ob O q p c0 c1 h5 (ay E fV) (fW E sy) (hm.br fun b hb=>E.2 b (hm.lt hb)) hk hn hp q1 q2 q3 q4).mono ?_;rintro _ cy ⟨rfl,E2⟩;refine⟨_,rfl,aa (fun c1=>⟨?_,E.trans E2⟩) (fun c1=>⟨_,by omega,i+1,by rw[a7 (by omega) (by omega)];omega,rfl,by omega,E.trans E2,fun j y hj hy=>?_⟩)⟩
  .unfold uI;rw[kJ hd g c1]
  .by_cases e1:j=i
   .subst e1;rw[g] at hy;cases hy;exact c1
   .exact hd j y (by omega) hy
 .refine⟨?_,E⟩;unfold uI;rw[w7 fun j y hj=>hd j y (by have:=(Ya.1 hj).1;omega) hj]
structure AA where
 r:Int
 s:Bool
 p:Int
 l:Int
 deriving DecidableEq
def AA.cs(x:AA):List Value:=[.int .i64 x.r,.bool x.s,.int .i64 x.p,.int .i64 x.l,.slice none 0 0]
def bp:AA:=⟨0,false,0,0⟩
structure Wt where
 k:Int
 r:Int
 f:Sl
 s:Sl
 e:AA
 o:AA
def Wt.cs(w:Wt):List Value:=[.int .i64 w.k,.int .i64 w.r,.slice w.f.a w.f.n w.f.c,.slice w.s.a w.s.n w.s.c,.int .i64 w.e.r,.bool w.e.s,.int .i64 w.e.p,.int .i64 w.e.l,.slice none 0 0,.int .i64 w.o.r,.bool w.o.s,.int .i64 w.o.p,.int .i64 w.o.l,.slice none 0 0]
def cx:Wt:=⟨0,0,aq,aq,bp,bp⟩
def aI(role:Int)(x:Ev):AA:=⟨role,x.send,x.peer,x.label⟩
theorem l5(b:Nat)(role:Int)(x:Ev)(h:Heap)(Fc:hc h ⟨b,8,none⟩=some (.int .i64 role)):Fn Pz 171 #[.pointer (some ⟨b,0,none⟩),.agg ⟨x.cs⟩] h fun v h'=>Ext h h'/\v=.agg ⟨(aI role x).cs⟩:=by
 apply Ur ⟨b,0,none⟩ x.send x.peer x.label;unfold ZK;refine (St.refl h).ak fun h4 hs=>?_;refine hs.ak fun h5 hs=>?_;refine⟨role,ay hs.ext Fc,x.send,hs.rd 1 rfl (i:=0) rfl,x.peer,hs.rd 1 rfl (i:=1) rfl,x.label,hs.rd 1 rfl (i:=2) rfl,?_⟩;refine hs.put 0 rfl (o:=0) (vs:=(aI role x).cs) rfl (bc 5) fun cF hs=>?_;exact⟨_,_,_,_,aq,hs.at 0 rfl (o:=0) (n:=5) rfl,hs.ext,rfl⟩
inductive nI (mv:Pr->List aP) (bw:Pr->Option Int) (D:Pr->Int) (p0:Pr):List aP->Pr->Prop
 | nil:nI mv bw D p0 [] p0
 | snoc {ms:List aP} {p:Pr} {m:aP} {k:Nat}:nI mv bw D p0 ms p->bw p≠some (D p)->(mv p).findIdx? (qy D p)=some k->(mv p)[k]?=some m->nI mv bw D p0 (ms++[m]) (bj m)
def facts(g:Gl)(ms:List aP):List Ac:=ms.flatMap fun m=>if 0<=m.x then [(eA g.es m.x.toNat).act] else []
def ct(g:Gl)(ms:List aP):List Ac:=ms.flatMap fun m=>if 0<=m.y then [(eA g.es m.y.toNat).act] else []
theorem q6(g:Gl)(ms:List aP)(m:aP):facts g (ms++[m])=facts g ms++if 0<=m.x then [(eA g.es m.x.toNat).act] else []:=by
 unfold facts;rw[List.flatMap_append,List.flatMap_singleton]
theorem qc(g:Gl)(ms:List aP)(m:aP):ct g (ms++[m])=ct g ms++if 0<=m.y then [(eA g.es m.y.toNat).act] else []:=by
 unfold ct;rw[List.flatMap_append,List.flatMap_singleton]
theorem nz(g:Gl)(ms:List aP):(facts g ms).length<=ms.length:=by
 induction ms with
 | nil=>exact Nat.zero_le _
 | cons a l ih=>
  unfold facts at *;rw[List.flatMap_cons,Yh,j8];split<;>simp only[Yv,List.length_nil]<;>omega
theorem sR(g:Gl)(ms:List aP):(ct g ms).length<=ms.length:=by
 induction ms with
 | nil=>exact Nat.zero_le _
 | cons a l ih=>
  unfold ct at *;rw[List.flatMap_cons,Yh,j8];split<;>simp only[Yv,List.length_nil]<;>omega
theorem Bt{g:Gl}{role:Int}{s t:Nat}{m:aP}(hm:m∈bq g.es role s t):(0<=m.x->m.x.toNat<g.es.length)/\(0<=m.y->m.y.toNat<g.es.length):=by
 have hE:∀ {k:Nat} {s:Int},k∈ah g.es s->k<g.es.length:=fun {k s} hk=>by
  obtain⟨x,hx,_⟩:=aA.1 hk;exact (Ya.1 hx).1
 unfold bq at hm;rcases Yk.1 hm with hm | hm
 .rcases Yk.1 hm with hm | hm
  .obtain⟨k,hk,rfl⟩:=Yp.1 hm;have:=hE (List.mem_filter.1 hk).1;exact⟨fun _=>this,fun h9=>absurd h9 (by show ¬(0:Int) <= -1;decide)⟩
  .obtain⟨k,hk,rfl⟩:=Yp.1 hm;have:=hE (List.mem_filter.1 hk).1;exact⟨fun h9=>absurd h9 (by show ¬(0:Int) <= -1;decide),fun _=>this⟩
 .unfold kI at hm;obtain⟨i,hi,hm⟩:=List.mem_flatMap.1 hm;unfold lJ at hm;split at hm
  .cases hm
  .obtain⟨k,hk,rfl⟩:=Yp.1 hm;exact⟨fun _=>hE hi,fun _=>hE (List.mem_filter.1 hk).1⟩
theorem St.rz{h0 h h2:Heap}{L:List It}(hs:St h0 h L)(kb ks:Nat){cb:Nat}{xs:List Value}{e0 t e:TypeId}{n bytes:Nat}{α:Type}{cs:α->List Value}{so:Sl}{X:List α}{x:α}(Pt:L[kb]?=some (.ae cb xs e0))(hks:L[ks]?=some (.sl so e n (X.map cs)))
  (hT:cI Pz t e n bytes=true) (e2:h2=h.push (.cells ⟨cs x⟩ e)) (hc:(cs x).length=n) (ho:(cs x).all dR=true) (hn:X.length<=16777216) (hnb:0<n/\bytes<=128) (f:Nat) (hf:f<xs.length) (bH:ks≠kb) {K:Heap->Prop}
  (hK:∀(s':Sl) (h':Heap),St h0 h' ((L.set ks (.sl s' e n ((X++[x]).map cs))).set kb (.ae cb (aH xs f [.slice s'.a s'.n s'.c]) e0))->K h') :
  App Pz t t (.slice so.a so.n so.c) (.slice (some ⟨h.size,0,none⟩) 1 1) h2 fun Kv kO=>je kO ⟨cb,f,none⟩ 1/\∀uP:Heap,uP=bI kO ⟨cb,f,none⟩ 0 [.slice Kv.a Kv.n Kv.c]->K uP:=by
 have bG:St h0 h2 (.ae h.size (cs x) e::L):=hs.ak (K:=fun h2=>St h0 h2 (.ae h.size (cs x) e::L)) (fun _ h=>h) h2 e2;have hl:=(hs.len ks (s:=so) hks hnb.1).1;rw[Yc] at hl;have n5:(so.n+1)*bytes<=16777217*128:=Nat.mul_le_mul (by omega) hnb.2;refine bG.appended (ks+1) (s:=so) hks hT (x:=⟨h.size,0,none⟩) (m:=1) (c:=1) (news:=[cs x]) (bG.at 0 rfl (o:=0) (n:=n) (by rw[List.drop_zero,<-hc,yd];simp)) rfl (by intro r hr;rw[Ye.1 hr];exact hc) (by simpa using ho) (by omega) (by simp only[maxLen];omega) fun Kv kO n55 fU=>?_;have fU:St h0 kO (L.set ks (.sl Kv e n (X.map cs++[cs x]))):=fU.drop 1;refine fU.put kb (by rw[Yy bH];exact Pt) (o:=f) (vs:=[.slice Kv.a Kv.n Kv.c]) rfl (by show f+1<=xs.length;omega) fun uP iK=>hK Kv uP ?_;rw[Ym];exact iK
def H5(wb pb lb ob:Nat)(kind role:Int)(wf ws:Sl)(p:Pr)(F S:List Ac):List It:=
 [.ae wb (Wt.cs ⟨kind,role,wf,ws,bp,bp⟩) 35,.ae pb (pC p) 97,.ae lb [.map (some ob)] 293,.sl wf 65 3 (F.map Ac.cs),.sl ws 65 3 (S.map Ac.cs)]
def rQ(g:Gl)(x:Int):List Ac:=if 0<=x then [(eA g.es x.toNat).act] else []
theorem Kk{hb oc h4 h6 cy:Heap}{b ob mb:Nat}{kind role:Int}{wf ws all:Sl}{p:Pr}{F S:List Ac}{g:Gl}{X:An}{A:List Pr}{l:List (Pr × Sl)}{O:List (Pr × Nat)}{k:Nat}{m:aP}{VG:Nat}{I35:Heap->Nat->Prop}
  (hs:St hb oc (H5 cy.size h6.size h4.size ob kind role wf ws p F S)) (hA:vM hb b g role X) (hV:af g) (hM:JZ hb g role all mb A l) (NA:It.ok hb (.mp ob (O.map fun q=>(pV q.1,oK q.2)))) (hk:∀q∈O,eG q.1) (hn:(O.map Prod.fst).Nodup) (hp:p∈A)
  (gE:(bE g role p).findIdx? (qy (dO O) p)=some k) (gm:(bE g role p)[k]?=some m) (hF:F.length<=8388608) (hS:S.length<=8388608) (LA:∀q∈A,0<=dO O q/\dO O q<=ax)
  (hI:∀(h':Heap) (EW ws':Sl),St hb h' (H5 cy.size h6.size h4.size ob kind role EW ws' (bj m) (F++rQ g m.x) (S++rQ g m.y))->∃m9,m9<VG/\I35 h' m9):IA oc h6 (some mb) h4 cy ⟨b,0,none⟩ VG I35:=by
 unfold IA;have hN:=hV.num.n;have hE:=hV.num.m;have hg:=hA.gg.gi;have ki:=hg.e.ln;have BJ:∀p∈A,(p.1:Int)<g.n/\(p.2:Int)<g.n:=fun p hp=>((hM.pr p).1 hp).lt hV;have uK:∀p∈A,eG p:=fun p hp=>by have:=BJ p hp;exact⟨by omega,by omega⟩
 have eN:∀m∈bE g role p,bj m∈A:=fun m hm=>(hM.pr _).2 (.step ((hM.pr p).1 hp) hm);have mz:=Yb gm;have Ff:=(Ya.1 gm).1;have hlen:(bE g role p).length<=160800:=fw (by omega);have pG:=ia hV (BJ p hp) mz;obtain⟨edx,edy⟩:=Bt mz;obtain⟨r,Nv,sk⟩:=hM.mv p hp;have jY:r.n=(bE g role p).length:=sk.ln;refine⟨_,_,hs.at 1 rfl (o:=0) (n:=2) rfl,?_⟩;refine uG (a:=p) (cv:=eO) yj (hM.mp.br fun b hb=>hs.ext.2 b (hM.mp.lt hb)) hM.lk hM.ln (uK p hp) false ?_;rw[Nv];refine⟨r,rfl,?_⟩;refine (G3 ob O (bE g role p) p ⟨h4.size,0,none⟩ ⟨h6.size,0,none⟩ r oc (sk.ext hs.ext).rw (by omega) (hs.rd 2 rfl (i:=0) rfl) (hs.at 1 rfl (o:=0) (n:=2) rfl) (NA.br fun b hb=>hs.ext.2 b (NA.lt hb)) hk hn (uK p hp) fun m hm=>?_).mono ?_
 .have h1:=ia hV (BJ p hp) hm;have h2:=LA _ (eN m hm);exact⟨uK _ (eN m hm),h1.2.2.1,h1.2.2.2,h2.1,h2.2⟩
 rintro _ adx ⟨rfl,E⟩;replace hs:=hs.step E;refine⟨_,rfl,?_⟩;have hk9:uI (qy (dO O) p) (bE g role p)=(k:Int):=by unfold uI;rw[gE]
 rw[hk9];refine (sk.ext hs.ext).rw.aD (by omega) (by omega) fun ahI afN m' gm' t=>?_;replace gm':(bE g role p)[k]?=some m':=gm';rw[gm] at gm';cases gm';refine⟨m.x,m.y,m.s,m.t,t,?_⟩;refine hs.ao (vs:=m.cs) rfl rfl fun adv hs=>?_;refine⟨fun h'=>∃EW,St hb h' (.ae adx.size m.cs 200::H5 cy.size h6.size h4.size ob kind role EW ws p (F++rQ g m.x) S),?_,?_⟩
 .refine⟨m.x,hs.rd 0 rfl (i:=0) rfl,aM (fun c=>?_) (fun c=>?_)⟩
  .have BE:=edx c;refine⟨wf,hs.rd 1 rfl (i:=2) rfl,g.he,ay hs.ext (hA.gg.at_.nth 6 rfl),m.x,hs.rd 0 rfl (i:=0) rfl,?_⟩;refine (hg.e.rw.ext hs.ext).aD (by omega) (by omega) fun Q9 OJ x gx u=>?_;replace gx:g.es[m.x.toNat]?=some x:=gx;have uN:rQ g m.x=[x.act]:=by unfold rQ;rw[if_pos c,aK gx]
   refine⟨x.a,x.b,x.l,u.sub 1 3 rfl,fun uS e2=>⟨?_,?_⟩⟩
   .exact (show Ext adv uS by rw[e2];exact Ext.push _ _).sm
   .refine hs.rz 1 4 rfl rfl eJ (x:=x.act) e2 rfl rfl (by omega) (by decide) 2 (by show 2<14;decide) (by decide) fun s' h' hs=>?_;refine⟨s',?_⟩;rw[uN];exact hs
  .have uN:rQ g m.x=[]:=by unfold rQ;rw[if_neg c]
   refine⟨wf,?_⟩;rw[uN,Yw];exact hs
 .clear hs t;rintro-P5 ⟨EW,hs⟩;have hpc:pC (bj m)=[.int .i64 m.s,.int .i64 m.t]:=by unfold pC;rw[pG.2.2.1,pG.2.2.2]
  refine⟨m.y,hs.rd 0 rfl (i:=1) rfl,aM (fun c=>?_) (fun c=>?_)⟩
  .have hyl:=edy c;refine⟨ws,hs.rd 1 rfl (i:=3) rfl,g.he,ay hs.ext (hA.gg.at_.nth 6 rfl),m.y,hs.rd 0 rfl (i:=1) rfl,?_⟩;refine (hg.e.rw.ext hs.ext).aD (by omega) (by omega) fun Q9 OJ x gx u=>?_;replace gx:g.es[m.y.toNat]?=some x:=gx;have uN:rQ g m.y=[x.act]:=by unfold rQ;rw[if_pos c,aK gx]
   refine⟨x.a,x.b,x.l,u.sub 1 3 rfl,fun uS e2=>⟨?_,?_⟩⟩
   .exact (show Ext P5 uS by rw[e2];exact Ext.push _ _).sm
   .refine hs.rz 1 5 rfl rfl eJ (x:=x.act) e2 rfl rfl (by omega) (by decide) 3 (by show 3<14;decide) (by decide) fun s' h' hs=>?_;refine⟨m.s,m.t,hs.at 0 rfl (o:=2) (n:=2) rfl,?_⟩;refine hs.put 2 rfl (o:=0) (vs:=[.int .i64 m.s,.int .i64 m.t]) rfl (bc 2) fun h' hs=>hI h' EW s' ?_;have hs:=hs.drop 1;unfold H5;rw[uN,hpc];exact hs
  .have uN:rQ g m.y=[]:=by unfold rQ;rw[if_neg c]
   refine⟨m.s,m.t,hs.at 0 rfl (o:=2) (n:=2) rfl,?_⟩;refine hs.put 2 rfl (o:=0) (vs:=[.int .i64 m.s,.int .i64 m.t]) rfl (bc 2) fun h' hs=>hI h' EW ws ?_;have hs:=hs.drop 1;unfold H5;rw[uN,Yw,hpc];exact hs
theorem FL{uQ h6 h4 cy:Heap}{mp:Option Nat}{p0:Addr}{VG:Nat}{I35:Heap->Nat->Prop}(h:IA uQ h6 mp h4 cy p0 VG I35):aau uQ h6 mp h4 cy p0 VG I35:=h
theorem oS{h:Heap}{b:Nat}{w:Wt}(ha:a6 h ⟨b,0,none⟩ w.cs){Q:List Value->Prop}(hq:Q w.cs):
  ∃MO:Int,∃MN:Int,∃nK:Sl,∃vB:Sl,∃MM:Int,∃yq:Bool,∃ML:Int,∃MK:Int,∃vA:Sl,∃MJ:Int,∃MI:Bool,∃J7:Int,∃MH:Int,∃vz:Sl,a6 h ⟨b,0,none⟩ [.int .i64 MO,.int .i64 MN,.slice nK.a nK.n nK.c,.slice vB.a vB.n vB.c,.int .i64 MM,.bool yq,.int .i64 ML,.int .i64 MK,.slice vA.a vA.n vA.c,.int .i64 MJ,.bool MI,.int .i64 J7,.int .i64 MH,.slice vz.a vz.n vz.c] /\
   Q [.int .i64 MO,.int .i64 MN,.slice nK.a nK.n nK.c,.slice vB.a vB.n vB.c,.int .i64 MM,.bool yq,.int .i64 ML,.int .i64 MK,.slice vA.a vA.n vA.c,.int .i64 MJ,.bool MI,.int .i64 J7,.int .i64 MH,.slice vz.a vz.n vz.c]:=
 ⟨w.k,w.r,w.f,w.s,w.e.r,w.e.s,w.e.p,w.e.l,aq,w.o.r,w.o.s,w.o.p,w.o.l,aq,ha,hq⟩
theorem yF{h0 h:Heap}{L:List It}(hs:St h0 h L)(i j:Nat){wb rb:Nat}{w w0:Wt}{e1 e2:TypeId}(hi:L[i]?=some (.ae wb w.cs e1))(hj:L[j]?=some (.ae rb w0.cs e2)){K:Heap->Prop}(hK:∀h',St h0 h' (L.set j (.ae rb w.cs e2))->K h'):
  ∃MO:Int,∃MN:Int,∃nK:Sl,∃vB:Sl,∃MM:Int,∃yq:Bool,∃ML:Int,∃MK:Int,∃vA:Sl,∃MJ:Int,∃MI:Bool,∃J7:Int,∃MH:Int,∃vz:Sl,a6 h ⟨wb,0,none⟩ [.int .i64 MO,.int .i64 MN,.slice nK.a nK.n nK.c,.slice vB.a vB.n vB.c,.int .i64 MM,.bool yq,.int .i64 ML,.int .i64 MK,.slice vA.a vA.n vA.c,.int .i64 MJ,.bool MI,.int .i64 J7,.int .i64 MH,.slice vz.a vz.n vz.c] /\
   (je h ⟨rb,0,none⟩ 14/\∀j5:Heap,j5=bI h ⟨rb,0,none⟩ 0 [.int .i64 MO,.int .i64 MN,.slice nK.a nK.n nK.c,.slice vB.a vB.n vB.c,.int .i64 MM,.bool yq,.int .i64 ML,.int .i64 MK,.slice vA.a vA.n vA.c,.int .i64 MJ,.bool MI,.int .i64 J7,.int .i64 MH,.slice vz.a vz.n vz.c]->K j5):=by
 refine⟨w.k,w.r,w.f,w.s,w.e.r,w.e.s,w.e.p,w.e.l,aq,w.o.r,w.o.s,w.o.p,w.o.l,aq,hs.at i hi (o:=0) (n:=14) rfl,?_⟩;refine hs.put j hj (o:=0) (vs:=w.cs) rfl (bc 14) fun h' hs=>hK h' ?_;exact hs
theorem mj{K:List Ev}:∀ {L:List fP} {x:fP},cR K L=some x->x∈L/\x.m.ev∈K:=by
 intro L x;unfold cR
 suffices h:∀(l:List fP) (b:Option fP),(∀y,b=some y->y∈L/\y.m.ev∈K)->(∀y∈l,y∈L)->l.foldl (fc K) b=some x->x∈L/\x.m.ev∈K from h L none (fun y hy=>by cases hy) (fun y hy=>hy)
 intro l
 induction l with
 | nil=>intro b hb _ hx;exact hb x hx
 | cons a l ih=>
  intro b hb hl hx;refine ih (fc K b a) (fun y hy=>?_) (fun y hy=>hl y (Yn _ hy)) hx;unfold fc at hy;by_cases cN:a.m.ev∈K
  .rw[if_pos cN] at hy;cases b with
   | none=>cases hy;exact⟨hl _ Yx,cN⟩
   | some z=>
    simp only at hy;split at hy
    .cases hy;exact⟨hl _ Yx,cN⟩
    .exact hb y hy
  .rw[if_neg cN] at hy;exact hb y hy
def EU(g:Gl)(X:An):Prop:=∀q∈X.ar,∀y∈q.2,∃(i:Nat) (m:Ms),y=ju g i m/\i<g.es.length/\m∈dM g i
def vJ(g:Gl)(role kind:Int)(X:An)(F:List Ac)(p:Pr):List Ac × AA × AA:=
 if kind=1 then (F,(match X.fi[p.1]?,X.fi[p.2]? with | some fs,some ft=>aI role ((fs.l.find? (dx ft.l)).getD ⟨false,0,0⟩) | _,_=>bp),bp)
 else if kind=4 then (match X.fi[p.2]?,X.ar[p.1]? with | some ft,some q=>(F++[(eA g.es ((cR ft.l q.2).getD dc).e.toNat).act]++gh g ((cR ft.l q.2).getD dc).e.toNat ((cR ft.l q.2).getD dc).m,aI role ((cR ft.l q.2).getD dc).m.ev,aI role ⟨false,(eA g.es ((cR ft.l q.2).getD dc).e.toNat).a,(eA g.es ((cR ft.l q.2).getD dc).e.toNat).l⟩) | _,_=>(F,bp,bp))
 else (F,bp,bp)
theorem Aj(l:List Ac):∀r∈l.map Ac.cs,r.length=3:=fun r hr=>by obtain⟨x,_,rfl⟩:=Yp.1 hr;rfl
theorem LV{h0 oc h6 cy h:Heap}{b ob lb:Nat}{kind role:Int}{wf ws:Sl}{p:Pr}{F S:List Ac}{g:Gl}{X:An}{kX:Int}{R:Value->Heap->Prop}
  (hs:St h0 oc (H5 cy.size h6.size lb ob kind role wf ws p F S++[.ae h.size cx.cs 35])) (hA:vM h0 b g role X) (hx:Gm h0) (hV:af g) (hp:(p.1:Int)<g.n/\(p.2:Int)<g.n) (Hh:∀q∈X.ar,∀x∈q.2,0<x.n) (yD:EU g X) (hco:kind=4->(eY X kind p).isSome=true) (hF:F.length<=8388608)
  (hK:∀(h':Heap) (w:Wt) (L:List It),w.k=kind->w.r=role->w.e=(vJ g role kind X F p).2.1->w.o=(vJ g role kind X F p).2.2->St h0 h' (.sl w.f 65 3 ((vJ g role kind X F p).1.map Ac.cs) :: .sl w.s 65 3 (S.map Ac.cs)::L)->R (.tuple ⟨[.agg ⟨w.cs⟩,.int .i64 kX]⟩) h') :
  RH kind oc h6 ⟨b,0,none⟩ cy h R kX:=by
 unfold RH;obtain⟨fs,gs⟩:=get_some (l:=X.fi) (i:=p.1) (by rw[hA.nf];omega);obtain⟨ft,gt⟩:=get_some (l:=X.fi) (i:=p.2) (by rw[hA.nf];omega);obtain⟨q,gq⟩:=get_some (l:=X.ar) (i:=p.1) (by rw[hA.nr];omega);have hN:=hV.num.n;have hM:=hV.num.m;have hg:=hA.gg.gi;have ki:=hg.e.ln;have Fc:hc h0 ⟨b,8,none⟩=some (Value.int .i64 role):=hA.r.ro;refine dp (fun c=>?_) (fun c=>dp (fun c2=>?_) (fun c2=>?_))
 .refine⟨(p.1:Nat),(p.2:Nat),hs.at 1 rfl (o:=0) (n:=2) rfl,?_⟩;refine (q9 ⟨b,0,none⟩ role X.cn X.cc X.bu X.cm X.fi X.li X.ag X.ow p.1 p.2 fs ft oc (hA.ext hs.ext).r gs gt).mono ?_;rintro v58 NP ⟨E,hv⟩;replace hs:=hs.step E;have hex:vJ g role kind X F p=(F,aI role ((fs.l.find? (dx ft.l)).getD ⟨false,0,0⟩),bp):=by unfold vJ;rw[if_pos c,gs,gt]
  rw[hex] at hK;have Nl:v58=Value.tuple ⟨[Value.agg ⟨((fs.l.find? (dx ft.l)).getD ⟨false,0,0⟩).cs⟩,Value.bool (fs.l.find? (dx ft.l)).isSome]⟩:=by rw[hv];cases fs.l.find? (dx ft.l)<;>rfl
  clear hv;subst Nl;generalize (fs.l.find? (dx ft.l)).getD ⟨false,0,0⟩=x at *;refine⟨x.send,x.peer,x.label,_,rfl,?_⟩;refine hs.ao (vs:=x.cs) rfl rfl fun PY hs=>?_;refine⟨x.send,x.peer,x.label,hs.at 0 rfl (o:=0) (n:=3) rfl,?_⟩;refine (l5 b role x PY (ay hs.ext Fc)).mono ?_;rintro _ j6 ⟨E3,rfl⟩;replace hs:=hs.step E3;refine⟨role,x.send,x.peer,x.label,aq,rfl,?_⟩;refine hs.put 1 rfl (o:=4) (vs:=(aI role x).cs) rfl (by show 4+5<=14;decide) fun LH hs=>?_;refine yF hs 1 6 (w:=⟨kind,role,wf,ws,aI role x,bp⟩) (w0:=cx) rfl rfl fun j5 hs=>?_;refine oS (w:=⟨kind,role,wf,ws,aI role x,bp⟩) (Q:=fun cs=>R (.tuple ⟨[.agg ⟨cs⟩,.int .i64 kX]⟩) j5) (hs.at 6 rfl (o:=0) (n:=14) rfl) ?_;exact hK j5 ⟨kind,role,wf,ws,aI role x,bp⟩ _ rfl rfl rfl rfl (hs.drop 4)
 .refine⟨(p.1:Nat),(p.2:Nat),hs.at 1 rfl (o:=0) (n:=2) rfl,?_⟩;refine (ru b g role X p.1 p.2 ft q oc (hA.ext hs.ext) gt gq (Hh q (Yb gq))).mono ?_;rintro _ HE ⟨E,rfl⟩;replace hs:=hs.step E;obtain⟨y,hy⟩:∃y,cR ft.l q.2=some y:=by
   have h9:=hco c2;unfold eY at h9;rw[if_neg c,if_neg (by omega),gt,gq] at h9;simp only[Option.isSome_map] at h9;exact Option.isSome_iff_exists.1 h9
  obtain⟨i,m,rfl,n4,Pv⟩:=yD q (Yb gq) y (mj hy).1;obtain⟨x0,jJ⟩:=get_some n4;have kM:=aK jJ;have hex:vJ g role kind X F p=(F++[x0.act]++gh g i m,aI role m.ev,aI role ⟨false,x0.a,x0.l⟩):=by
   have h8:vJ g role kind X F p=(F++[(eA g.es ((cR ft.l q.2).getD dc).e.toNat).act]++gh g ((cR ft.l q.2).getD dc).e.toNat ((cR ft.l q.2).getD dc).m,aI role ((cR ft.l q.2).getD dc).m.ev,aI role ⟨false,(eA g.es ((cR ft.l q.2).getD dc).e.toNat).a,(eA g.es ((cR ft.l q.2).getD dc).e.toNat).l⟩):=by
    unfold vJ;rw[if_neg c,if_pos c2,gt,gq]
   rw[h8,hy];show (F++[(eA g.es i).act]++gh g i m,aI role m.ev,aI role ⟨false,(eA g.es i).a,(eA g.es i).l⟩)=_;rw[kM]
  rw[hex] at hK;rw[hy];refine⟨(i:Int),(ju g i m).n,m.p,m.l,_,rfl,?_⟩;refine hs.ao (vs:=(ju g i m).cs) rfl rfl fun Qd hs=>?_;refine⟨bs g.nm,g.hr,g.hd,g.n,g.s,g.e,g.he,g.ht,(fW hs.ext hA.gg.at_).Dd 8 rfl,?_⟩;refine⟨(i:Int),hs.rd 0 rfl (i:=0) rfl,m.p,m.l,hs.at 0 rfl (o:=2) (n:=2) rfl,?_⟩;refine (AY g i x0 m Qd (hg.ext hs.ext) (hx.ext hs.ext) hV jJ Pv).mono ?_;rintro _ Xk ⟨E3,sp,rfl,Fa,dz⟩;replace hs:=hs.join Fa;have Hb:=hs.len 7 (s:=sp) (e:=65) (n:=3) rfl (by omega);rw[Yc] at Hb;refine⟨sp,0,rfl,g.he,ay hs.ext (hA.gg.at_.nth 6 rfl),(i:Int),hs.rd 0 rfl (i:=0) rfl,?_⟩;refine (hg.e.rw.ext hs.ext).aD (by omega) (by omega) fun b20 o21 x gx u3=>?_;replace gx:g.es[i]?=some x:=gx;rw[jJ] at gx;cases gx;refine⟨x0.a,x0.b,x0.l,u3.sub 1 3 rfl,?_⟩;refine hs.au fun ahy E4 hs=>⟨E4.sm,?_⟩;refine hs.put 0 rfl (o:=0) (vs:=x0.act.cs) rfl (bc 3) fun adP hs=>?_;refine⟨wf,hs.rd 2 rfl (i:=2) rfl,x0.a,x0.b,x0.l,hs.at 0 rfl (o:=0) (n:=3) rfl,?_⟩;have acm:=(hs.len 5 (s:=wf) (e:=65) (n:=3) rfl (by omega)).1;rw[Yc] at acm;refine hs.app 5 rfl eJ (m:=1) [x0.act.cs] rfl rfl (fun r hr=>by rw[Ye] at hr;rw[hr];rfl) rfl (by omega) (by simp only[maxLen];omega) fun afF adN n141 hs=>?_;refine hs.dY 5 rfl eJ (hs.rows 8 rfl (by omega)) (Aj _) Hb.2.2 (yW (fun _=>rfl) _) (by omega) (by simp only[maxLen];omega) fun yM xu n143 hs=>?_;refine hs.put 2 rfl (o:=2) (vs:=[.slice yM.a yM.n yM.c]) rfl (by show 2+1<=14;decide) fun Xg hs=>?_;refine⟨m.p,hs.rd 1 rfl (i:=2) rfl,m.l,hs.rd 1 rfl (i:=3) rfl,?_⟩;refine (l5 b role m.ev Xg (ay hs.ext Fc)).mono ?_;rintro _ adK ⟨E5,rfl⟩;replace hs:=hs.step E5;refine⟨role,false,m.p,m.l,aq,rfl,?_⟩;refine hs.put 2 rfl (o:=4) (vs:=(aI role m.ev).cs) rfl (by show 4+5<=14;decide) fun HC hs=>?_;refine⟨x0.a,hs.rd 0 rfl (i:=0) rfl,x0.l,hs.rd 0 rfl (i:=2) rfl,?_⟩;refine (l5 b role ⟨false,x0.a,x0.l⟩ HC (ay hs.ext Fc)).mono ?_;rintro _ ahx ⟨E6,rfl⟩;replace hs:=hs.step E6;refine⟨role,false,x0.a,x0.l,aq,rfl,?_⟩;refine hs.put 2 rfl (o:=9) (vs:=(aI role ⟨false,x0.a,x0.l⟩).cs) rfl (by show 9+5<=14;decide) fun ahw hs=>?_;refine yF hs 2 7 (w:=⟨kind,role,yM,ws,aI role m.ev,aI role ⟨false,x0.a,x0.l⟩⟩) (w0:=cx) rfl rfl fun j5 hs=>?_;refine oS (w:=⟨kind,role,yM,ws,aI role m.ev,aI role ⟨false,x0.a,x0.l⟩⟩) (Q:=fun cs=>R (.tuple ⟨[.agg ⟨cs⟩,.int .i64 kX]⟩) j5) (hs.at 7 rfl (o:=0) (n:=14) rfl) ?_;refine hK j5 ⟨kind,role,yM,ws,aI role m.ev,aI role ⟨false,x0.a,x0.l⟩⟩ [.ae h.size (Wt.cs ⟨kind,role,yM,ws,aI role m.ev,aI role ⟨false,x0.a,x0.l⟩⟩) 35,.sl sp 65 3 ((gh g i m).map Ac.cs)] rfl rfl rfl rfl ?_;have hs:=hs.drop 5;simp only[Ym];exact hs
 .refine yF hs 0 5 (w:=⟨kind,role,wf,ws,bp,bp⟩) (w0:=cx) rfl rfl fun j5 hs=>?_;refine oS (w:=⟨kind,role,wf,ws,bp,bp⟩) (Q:=fun cs=>R (.tuple ⟨[.agg ⟨cs⟩,.int .i64 kX]⟩) j5) (hs.at 5 rfl (o:=0) (n:=14) rfl) ?_;have hex:vJ g role kind X F p=(F,bp,bp):=by unfold vJ;rw[if_neg c,if_neg c2]
  rw[hex] at hK;exact hK j5 ⟨kind,role,wf,ws,bp,bp⟩ _ rfl rfl rfl rfl (hs.drop 3)
theorem Dn.lst{mv:Pr->List aP}{bw:Pr->Option Nat}{p:Pr}{k:Nat}(hL:iM mv bw p k)(bH:bw p≠some k):∃m∈mv p,∃n,iM mv bw (bj m) n/\n+bO m=k:=by
 obtain⟨hd,hl⟩:=hL;cases hd with
 | base h=>exact absurd h bH
 | step hm hn=>exact⟨_,hm,_,⟨hn,fun j hj=>by have:=hl _ (.step hm hj);omega⟩,rfl⟩
theorem iM.uniq{mv:Pr->List aP}{bw:Pr->Option Nat}{p:Pr}{k n:Nat}(h1:iM mv bw p k)(h2:iM mv bw p n):k=n:=Nat.le_antisymm (h1.2 n h2.1) (h2.2 k h1.1)
noncomputable def dL(mv:Pr->List aP)(bw:Pr->Option Nat)(p:Pr):Int:=by
 classical exact if h:∃n,iM mv bw p n then (Classical.choose h:Nat) else ax
theorem js{mv:Pr->List aP}{bw:Pr->Option Nat}{p:Pr}{n:Nat}(h:iM mv bw p n):dL mv bw p=n:=by
 unfold dL;rw[dif_pos ⟨n,h⟩];have:=iM.uniq (Classical.choose_spec (⟨n,h⟩:∃n,iM mv bw p n)) h;omega
theorem tK{mv:Pr->List aP}{bw:Pr->Option Nat}{p:Pr}(h:∀n,¬iM mv bw p n):dL mv bw p=ax:=by
 unfold dL;rw[dif_neg (fun ⟨n,h9⟩=>h n h9)]
def eM(g:Gl):Pr:=(g.s.toNat,g.s.toNat)
inductive Td (g:Gl) (role kind:Int) (X:An) (h h':Heap):Value->Prop
 | iR (hn:∀n,¬iM (bE g role) (eZ X kind) (eM g) n) (E:Ext h h'):Td g role kind X h h' (.tuple ⟨[.agg ⟨cx.cs⟩,.int .i64 ax]⟩)
 | hit {n:Nat} {D:Pr->Int} {ms:List aP} {p:Pr} {w:Wt} {L:List It} (hl:iM (bE g role) (eZ X kind) (eM g) n) (hn:n<=8388608) (hD:∀q,dB g role q->D q=dL (bE g role) (eZ X kind) q) (hG:nI (bE g role) (eY X kind) D (eM g) ms p) (hc:eY X kind p=some (D p))
   (hk:w.k=kind) (hr:w.r=role) (he:w.e=(vJ g role kind X (facts g ms) p).2.1) (ho:w.o=(vJ g role kind X (facts g ms) p).2.2)
   (hs:St h h' (.sl w.f 65 3 ((vJ g role kind X (facts g ms) p).1.map Ac.cs) :: .sl w.s 65 3 ((ct g ms).map Ac.cs)::L)):Td g role kind X h h' (.tuple ⟨[.agg ⟨w.cs⟩,.int .i64 (n:Nat)]⟩)
theorem kS(b:Nat)(g:Gl)(role:Int)(X:An)(kind:Int)(all:Sl)(mb:Nat)(A:List Pr)(l:List (Pr × Sl))(CB:Nat)(h:Heap)(hA:vM h b g role X)(hx:Gm h)(hV:af g)(hM:JZ h g role all mb A l)(hC:Tc X kind A CB)(yD:EU g X):
  Fn Pz 96 #[.pointer (some ⟨b,0,none⟩),.int .i64 kind,.slice all.a all.n all.c,.map (some mb)] h fun v h'=>Td g role kind X h h' v:=by
 apply aaN ⟨b,0,none⟩ kind all (some mb);unfold W96;have hN:=hV.num.n;have hE:=hV.num.m;have BJ:∀p∈A,(p.1:Int)<g.n/\(p.2:Int)<g.n:=fun p hp=>((hM.pr p).1 hp).lt hV;have uK:∀p∈A,eG p:=fun p hp=>by have:=BJ p hp;exact⟨by omega,by omega⟩
 have eN:∀p∈A,∀m∈bE g role p,bj m∈A:=fun p hp m hm=>(hM.pr _).2 (.step ((hM.pr p).1 hp) hm);have SX:eM g∈A:=(hM.pr _).2 .start;have V9:pC (eM g)=[.int .i64 g.s,.int .i64 g.s]:=by unfold pC eM;simp only;rw[Int.toNat_of_nonneg (by omega)]
 have hA4:A.length<=40000:=by
  have h1:=l4 (n:=g.n.toNat) hM.nd fun p hp=>by have:=BJ p hp;exact⟨by omega,by omega⟩
  have h2:g.n.toNat*g.n.toNat<=200*200:=Nat.mul_le_mul (by omega) (by omega);omega
 have hCb:=hC.b;refine (St.refl h).ak fun h1 dC=>?_;refine (K8 b g role X kind all mb A l CB h1 (hA.ext dC.ext) hV (hM.ext dC.ext) hC).mono ?_;rintro _ h4 ⟨E4,ob,O,rfl,NA,hk,hn,hO⟩;refine⟨some ob,rfl,?_⟩;have iK:=dC.step E4;have hX4:=iK.ext;have Hy:=hA.ext hX4;have PT:=hM.ext hX4;have LA:∀q∈A,0<=dO O q/\dO O q<=ax:=fun q hq=>by
  have h9:=fun k=>(hO q hq k).2;unfold dO ax;cases hg:aU O q with
  | none=>exact⟨by decide,by decide⟩
  | some k=>have:=h9 k hg;simp only[Option.elim];omega
 have hdL:∀q,dB g role q->dO O q=dL (bE g role) (eZ X kind) q:=fun q hq=>by
  have hqA:=(hM.pr q).2 hq;unfold dO;cases hg:aU O q with
  | none=>exact (tK fun n hn=>by rw[((hO q hqA n).1).2 hn] at hg;cases hg).symm
  | some k=>exact (js (((hO q hqA k).1).1 hg)).symm
 refine (St.refl h4).ao (vs:=[.map (some ob)]) rfl rfl fun h6 hs=>?_;refine⟨g.s,ay hs.ext (Hy.gg.at_.nth 4 rfl),g.s,ay hs.ext (Hy.gg.at_.nth 4 rfl),?_⟩;refine hs.au fun h9 E9 hs=>⟨E9.sm,?_⟩;refine hs.put 0 rfl (o:=0) (vs:=[.int .i64 g.s,.int .i64 g.s]) rfl (bc 2) fun cF hs=>?_;refine⟨some ob,hs.rd 1 rfl (i:=0) rfl,g.s,g.s,hs.at 0 rfl (o:=0) (n:=2) rfl,?_⟩;have zQ:=Cj ob O (eM g) cF (NA.br fun b hb=>hs.ext.2 b (NA.lt hb)) hk hn (uK _ SX);rw[V9] at zQ;refine zQ.mono ?_;rintro _ cy ⟨rfl,E16⟩;replace hs:=hs.step E16;refine⟨_,rfl,dp (fun c=>?_) (fun c=>?_)⟩
 .have hs:=iK.join hs;refine hs.put 0 rfl (o:=0) (vs:=cx.cs) rfl (bc 14) fun iL hs=>?_;refine oS (w:=cx) (Q:=fun cs=>Td g role kind X h iL (.tuple ⟨[.agg ⟨cs⟩,.int .i64 1073741824]⟩)) (hs.at 0 rfl (o:=0) (n:=14) rfl) ?_;refine .iR (fun n hl=>?_) hs.ext;have h9:=(hO _ SX n).1.2 hl;have cF:=(hO _ SX n).2 h9;unfold dO at c;rw[h9] at c;simp only[Option.elim] at c;omega
 .obtain⟨k0,Fg⟩:∃k0,aU O (eM g)=some k0:=by
   cases hg:aU O (eM g) with
   | none=>unfold dO at c;rw[hg] at c;exact absurd rfl c
   | some k=>exact⟨k,rfl⟩
  have yz:dO O (eM g)=(k0:Int):=by unfold dO;rw[Fg];rfl
  have agz:=(hO _ SX k0).2 Fg;refine⟨role,ay hs.ext Hy.r.ro,?_⟩;refine hs.ao (vs:=(Wt.cs ⟨kind,role,aq,aq,bp,bp⟩)) rfl rfl fun oe hs=>?_;have hs:=((hs.bJ 65 3).bJ 65 3).perm (List.perm_append_comm (l₁:=[_,_]) (l₂:=[_,_,_]));refine⟨fun h' μ=>∃(ms:List aP) (p:Pr) (wf ws:Sl) (k:Nat),μ=k/\aU O p=some k/\p∈A/\St h4 h' (H5 cy.size h6.size h4.size ob kind role wf ws p (facts g ms) (ct g ms))/\nI (bE g role) (eY X kind) (dO O) (eM g) ms p/\ms.length+k<=8388608,⟨_,[],eM g,aq,aq,k0,rfl,Fg,SX,?_,.nil,?_⟩,?_⟩
  .unfold H5;rw[V9];exact hs
  .simp only[List.length_nil];omega
  clear hs;rintro-tB k ⟨ms,p,wf,ws,k9,rfl,sw,oM,hs,hG,Ff⟩;have Ef:dO O p=(k:Int):=by unfold dO;rw[sw];rfl
  have Pt:=(hO p oM k).2 sw;have hLp:=(hO p oM k).1.1 sw;have fJ:=nz g ms;have nX:=sR g ms
  have stp:∀(oc:Heap),St h4 oc (H5 cy.size h6.size h4.size ob kind role wf ws p (facts g ms) (ct g ms))->eY X kind p≠some (dO O p) ->
    IA oc h6 (some mb) h4 cy ⟨b,0,none⟩ k (fun h' μ=>∃(ms:List aP) (p:Pr) (wf ws:Sl) (k:Nat),μ=k/\aU O p=some k/\p∈A/\St h4 h' (H5 cy.size h6.size h4.size ob kind role wf ws p (facts g ms) (ct g ms))/\nI (bE g role) (eY X kind) (dO O) (eM g) ms p/\ms.length+k<=8388608):=by
   intro oc hs bH;have Pm:eZ X kind p≠some k:=fun e=>by
    unfold eZ at e;cases BU:eY X kind p with
    | none=>rw[BU] at e;cases e
    | some c=>
     have h1:=hC.c p oM c BU;rw[BU] at e;simp only[Option.map_some,Option.some.injEq] at e;exact bH (by rw[BU,Ef];congr 1;omega)
   obtain⟨m,hm,n,SF,hnk⟩:=Dn.lst hLp Pm;have hmA:=eN p oM m hm;have hgn:=(hO _ hmA n).1.2 SF;have lR:qy (dO O) p m=true:=by
    unfold qy;refine decide_eq_true ?_;rw[Ef];have:dO O (bj m)=(n:Int):=by unfold dO;rw[hgn];rfl
    omega
   cases gE:(bE g role p).findIdx? (qy (dO O) p) with
   | none=>
    rw[List.findIdx?_eq_none_iff] at gE;rw[gE m hm] at lR;cases lR
   | some k2=>
    obtain⟨h1,h2,_⟩:=List.findIdx?_eq_some_iff_getElem.1 gE;have gm2:(bE g role p)[k2]?=some (bE g role p)[k2]:=Yi h1;generalize kh:(bE g role p)[k2]=m2 at *;have h3:(bO m2:Int)+dO O (bj m2)=dO O p:=cd h2;have acD:=eN p oM m2 (Yb gm2);have dz:=bM m2;obtain⟨k',tv⟩:∃k',aU O (bj m2)=some k':=by
     cases hg:aU O (bj m2) with
     | none=>unfold dO at h3;rw[hg,sw] at h3;simp only[Option.elim,ax] at h3;omega
     | some k'=>exact⟨k',rfl⟩
    have Hr:dO O (bj m2)=(k':Int):=by unfold dO;rw[tv];rfl
    refine Kk hs Hy hV PT NA hk hn oM gE gm2 (by omega) (by omega) LA fun h' EW ws' hs=>⟨k',by omega,ms++[m2],bj m2,EW,ws',k',rfl,tv,acD,?_,.snoc hG bH gE gm2,by rw[Yh,Yv];omega⟩;rw[q6,qc];exact hs
  refine⟨(p.1:Nat),(p.2:Nat),hs.at 1 rfl (o:=0) (n:=2) rfl,?_⟩;refine (xL b g role X kind p tB (Hy.ext hs.ext) (BJ p oM) hC.a).mono ?_;rintro _ uQ ⟨E,rfl⟩;replace hs:=hs.step E;refine⟨_,_,rfl,aa (fun c1=>?_) (fun c1=>?_)⟩
  .obtain⟨n1,D8⟩:=Option.isSome_iff_exists.1 c1;refine⟨some ob,hs.rd 2 rfl (i:=0) rfl,(p.1:Nat),(p.2:Nat),hs.at 1 rfl (o:=0) (n:=2) rfl,?_⟩;refine (Cj ob O p uQ (NA.br fun b hb=>hs.ext.2 b (NA.lt hb)) hk hn (uK p oM)).mono ?_;rintro _ oc ⟨rfl,E50⟩;replace hs:=hs.step E50;refine⟨_,rfl,dp (fun c2=>?_) (fun c2=>?_)⟩
   .have Fj:eY X kind p=some (dO O p):=by rw[D8] at c2 ⊢;exact congrArg some c2
    have hs:=(iK.join hs).perm (List.perm_append_comm (l₁:=[_]) (l₂:=H5 cy.size h6.size h4.size ob kind role wf ws p (facts g ms) (ct g ms)));refine LV hs hA hx hV (BJ p oM) hC.a yD (fun _=>c1) (by omega) fun h' w L h1 h2 h3 h4 hs=>?_;rw[yz];exact .hit ((hO _ SX k0).1.1 Fg) (by omega) hdL hG Fj h1 h2 h3 h4 hs
   .exact stp oc hs fun e=>c2 (by rw[e];rfl)
  .exact FL (stp uQ hs fun e=>by rw[e] at c1;cases c1)
end Go.VC
end

section
namespace Go.VC
inductive rX (es:List Ed) (MX:Nat->Prop):Nat->Nat->Prop
 | base {s:Nat}:MX s->rX es MX s 0
 | step {s:Nat} {e:Ed} {n:Nat}:e∈es->e.f=(s:Int)->rX es MX e.t.toNat n->rX es MX s (n+1)
def fO(es:List Ed)(MX:Nat->Prop)(s n:Nat):Prop:=rX es MX s n/\∀k,rX es MX s k->n<=k
def dd:Int:=1073741824
structure nJ (g:Gl) (MX:Nat->Prop) (LF:List Int) (Q:List Nat) (hd c:Nat):Prop where
 ln:LF.length=g.n.toNat
 d:∀(s:Nat) x,LF[s]?=some x->x=dd\/(∃k:Nat,x=(k:Int)/\rX g.es MX s k/\k<=c)
 q:∀s:Nat,s∈Q ↔ ∃x,LF[s]?=some x/\x≠dd
 nd:Q.Nodup
 m:∀s:Nat,s<g.n.toNat->MX s->LF[s]?=some 0
 so:∀(i j s t:Nat) x y,i<=j->Q[i]?=some s->Q[j]?=some t->LF[s]?=some x->LF[t]?=some y->x<=y
 hi:∀(s t:Nat) x y,Q[hd]?=some s->t∈Q->LF[s]?=some x->LF[t]?=some y->y<=x+1
 cl:∀(i t:Nat) x,i<hd->Q[i]?=some t->LF[t]?=some x->∀e∈g.es,e.t=(t:Int)->∃y,LF[e.f.toNat]?=some y/\y<=x+1
theorem nJ.lt{g:Gl}{MX:Nat->Prop}{LF:List Int}{Q:List Nat}{hd c:Nat}(h:nJ g MX LF Q hd c){s:Nat}(hs:s∈Q):s<g.n.toNat:=by
 obtain⟨x,hx,_⟩:=(h.q s).1 hs;have:=(Ya.1 hx).1;rw[h.ln] at this;exact this
theorem nJ.len{g:Gl}{MX:Nat->Prop}{LF:List Int}{Q:List Nat}{hd c:Nat}(h:nJ g MX LF Q hd c):Q.length<=g.n.toNat:=by
 have:=List.Nodup.length_le_of_subset h.nd (l₂:=List.range g.n.toNat) fun s hs=>List.mem_range.2 (h.lt hs)
 rwa [mr] at this
theorem nJ.val{g:Gl}{MX:Nat->Prop}{LF:List Int}{Q:List Nat}{hd c:Nat}(h:nJ g MX LF Q hd c){s:Nat}(hs:s∈Q):∃k:Nat,LF[s]?=some (k:Int)/\rX g.es MX s k/\k<=c:=by
 obtain⟨x,hx,hf⟩:=(h.q s).1 hs;rcases h.d s x hx with rfl | ⟨k,rfl,hk⟩
 .exact absurd rfl hf
 .exact⟨k,hx,hk⟩
theorem nJ.Th{g:Gl}{MX:Nat->Prop}{LF:List Int}{Q:List Nat}{hd c c':Nat}(h:nJ g MX LF Q hd c)(hc:c<=c'):nJ g MX LF Q hd c':=
 { h with d:=fun s x hx=>(h.d s x hx).imp id fun ⟨k,h1,h2,h3⟩=>⟨k,h1,h2,by omega⟩ }
theorem nJ.put{g:Gl}{MX:Nat->Prop}{LF:List Int}{Q:List Nat}{hd c:Nat}(h:nJ g MX LF Q hd c){t s:Nat}{e:Ed}{x:Nat}(ht:Q[hd]?=some t)(hx:LF[t]?=some (x:Int))(hxc:x+1<=c)(hc:c<=100000)(he:e∈g.es)(h1:e.t=(t:Int))(h2:e.f=(s:Int))(hs:LF[s]?=some dd):
  nJ g MX (LF.set s ((x:Int)+1)) (Q++[s]) hd c:=by
 have nX:=(Ya.1 hs).1;have ca:s∉Q:=fun hm=>by
  obtain⟨y,hy,hf⟩:=(h.q s).1 hm;rw[hs] at hy;cases hy;exact hf rfl
 have hdt:rX g.es MX t x:=by
  rcases h.d t _ hx with h9 | ⟨k,h9,cF,_⟩
  .exact absurd h9 (by unfold dd;omega)
  .have:k=x:=by omega
   subst this;exact cF
 have qx:∀ {u:Nat},u∈Q->(LF.set s ((x:Int)+1))[u]?=LF[u]?:=fun {u} hu=>Yy (fun e=>ca (by rw[e];exact hu));have BR:=(Ya.1 ht).1;refine⟨by rw[jT];exact h.ln,fun u y hu=>?_,fun u=>?_,?_,fun u hu hm=>?_,fun i j a b y z hij ha hb hy hz=>?_,fun a b y z ha hb hy hz=>?_,fun i a y hi ha hy e' Lu JO=>?_⟩
 .by_cases e1:s=u
  .subst e1;rw[Yq nX] at hu;cases hu;refine .inr ⟨x+1,by omega,.step he h2 ?_,hxc⟩;rw[h1,Ys];exact hdt
  .rw[Yy e1] at hu;exact h.d u y hu
 .rw[Yk,Ye];by_cases e1:s=u
  .subst e1;rw[Yq nX];exact iff_of_true (.inr rfl) ⟨_,rfl,by unfold dd;omega⟩
  .rw[Yy e1,<-h.q u];exact⟨fun h9=>h9.elim id fun e=>absurd e.symm e1,.inl⟩
 .rw[List.nodup_append];exact⟨h.nd,by simp,fun a ha b hb e=>by rw[Ye] at hb;subst hb;subst e;exact ca ha⟩
 .have h9:=h.m u hu hm;rw[Yy (fun e=>by subst e;rw[hs] at h9;exact absurd (fH h9) (by unfold dd;decide))];exact h9
 .rcases Nat.lt_or_ge j Q.length with hj | hj
  .rw[jw hj] at hb;rw[jw (by omega)] at ha;rw[qx (Yb ha)] at hy;rw[qx (Yb hb)] at hz;exact h.so i j a b y z hij ha hb hy hz
  .have BN:=(Ya.1 hb).1;rw[Yh,Yv] at BN;rw[tR hj,show j-Q.length=0 by omega] at hb;cases hb;rw[Yq nX] at hz;cases hz;rcases Nat.lt_or_ge i Q.length with hi | hi
   .rw[jw hi] at ha;rw[qx (Yb ha)] at hy;exact h.hi t a _ y ht (Yb ha) hx hy
   .rw[tR hi,show i-Q.length=0 by omega] at ha;cases ha;rw[Yq nX] at hy;cases hy;omega
 .rw[jw BR,ht] at ha;cases ha;rw[qx (Yb ht),hx] at hy;cases hy;rcases Yk.1 hb with hb | hb
  .rw[qx hb] at hz;exact h.hi t b _ z ht hb hx hz
  .rw[Ye] at hb;subst hb;rw[Yq nX] at hz;cases hz;omega
 .rw[jw (by omega)] at ha;rw[qx (Yb ha)] at hy;obtain⟨z,h3,h4⟩:=h.cl i a y hi ha hy e' Lu JO;have hyb:y<=c:=by
   obtain⟨k,h5,_,h6⟩:=h.val (Yb ha);rw[h5] at hy;cases hy;omega
  refine⟨z,?_,h4⟩;rw[Yy (fun e=>by rw[<-e,hs] at h3;cases h3;unfold dd at h4;omega)];exact h3
theorem nJ.next{g:Gl}{MX:Nat->Prop}{LF:List Int}{Q:List Nat}{hd c:Nat}(h:nJ g MX LF Q hd c){t x:Nat}(ht:Q[hd]?=some t)(hx:LF[t]?=some (x:Int))(eN:∀e∈g.es,e.t=(t:Int)->∃y,LF[e.f.toNat]?=some y/\y<=x+1):nJ g MX LF Q (hd+1) c:=by
 refine⟨h.ln,h.d,h.q,h.nd,h.m,h.so,fun s u y z hs hu hy hz=>?_,fun i a y hi ha hy e he het=>?_⟩
 .have h1:=h.hi t u _ z ht hu hx hz;have h2:=h.so hd (hd+1) t s _ y (by omega) ht hs hx hy;omega
 .by_cases e1:i=hd
  .subst e1;rw[ht] at ha;cases ha;rw[hx] at hy;cases hy;exact eN e he het
  .exact h.cl i a y (by omega) ha hy e he het
theorem nJ.fin{g:Gl}{MX:Nat->Prop}{LF:List Int}{Q:List Nat}{c:Nat}(h:nJ g MX LF Q Q.length c)(hc:c<=100000)(hE:∀e∈g.es,0<=e.f/\0<=e.t/\e.t<g.n){s k:Nat}(hd:rX g.es MX s k):s<g.n.toNat->∃y:Nat,LF[s]?=some (y:Int)/\y<=k/\y<=c/\rX g.es MX s y:=by
 induction hd with
 | base hm=>exact fun hs=>⟨0,h.m _ hs hm,bc _,Nat.zero_le _,.base hm⟩
 | @step s e k he hf hd ih=>
  intro hs;have hE1:=hE e he;obtain⟨y,h1,h2,SV,h3⟩:=ih (by omega);have hq:e.t.toNat∈Q:=(h.q _).2 ⟨_,h1,fun e9=>by unfold dd at e9;omega⟩;obtain⟨i,hi⟩:=Yf.1 hq;obtain⟨z,h4,h5⟩:=h.cl i e.t.toNat _ (Ya.1 hi).1 hi h1 e he (by omega);have Ww:e.f.toNat=s:=by omega
  rw[Ww] at h4;rcases h.d s z h4 with rfl | ⟨k',rfl,h6,h7⟩
  .unfold dd at h5;omega
  .exact⟨k',h4,by omega,h7,h6⟩
theorem nJ.lst{g:Gl}{MX:Nat->Prop}{LF:List Int}{Q:List Nat}{c:Nat}(h:nJ g MX LF Q Q.length c)(hc:c<=100000)(hE:∀e∈g.es,0<=e.f/\0<=e.t/\e.t<g.n){s:Nat}(hs:s<g.n.toNat):
  (LF[s]?=some dd/\∀k,¬rX g.es MX s k)\/∃k:Nat,LF[s]?=some (k:Int)/\fO g.es MX s k/\k<=c:=by
 obtain⟨x,hx⟩:=get_some (l:=LF) (i:=s) (by rw[h.ln];exact hs);rcases h.d s x hx with rfl | ⟨k,rfl,h1,h2⟩
 .refine .inl ⟨hx,fun k hk=>?_⟩;obtain⟨y,h3,_,h4,_⟩:=h.fin hc hE hk hs;rw[hx] at h3;have:=fH h3;unfold dd at this;omega
 .refine .inr ⟨k,hx,⟨h1,fun j hj=>?_⟩,h2⟩;obtain⟨y,h3,h4,_⟩:=h.fin hc hE hj hs;rw[hx] at h3;have:=fH h3;omega
theorem fO.next{es:List Ed}{MX:Nat->Prop}{s k:Nat}(h:fO es MX s (k+1)):∃e∈es,e.f=(s:Int)/\fO es MX e.t.toNat k:=by
 obtain⟨hd,hl⟩:=h;cases hd with
 | step he hf hn=>exact⟨_,he,hf,hn,fun j hj=>by have:=hl _ (.step he hf hj);omega⟩
theorem fO.uniq{es:List Ed}{MX:Nat->Prop}{s k n:Nat}(h1:fO es MX s k)(h2:fO es MX s n):k=n:=Nat.le_antisymm (h1.2 n h2.1) (h2.2 k h1.1)
theorem nJ.init{g:Gl}{MX:Nat->Prop}{LF:List Int}{Q:List Nat}{c:Nat}(ln:LF.length=g.n.toNat)(h:∀s:Nat,s<g.n.toNat->(MX s/\LF[s]?=some 0/\s∈Q)\/(¬MX s/\LF[s]?=some dd/\s∉Q))(hq:∀s∈Q,s<g.n.toNat)(nd:Q.Nodup):nJ g MX LF Q 0 c:=by
 have hv:∀ {s:Nat} {x:Int},s∈Q->LF[s]?=some x->x=0:=fun {s x} hs hx=>by
  rcases h s (hq s hs) with ⟨_,h2,_⟩ | ⟨_,_,h2⟩
  .rw[hx] at h2;exact fH h2
  .exact absurd hs h2
 refine⟨ln,fun s x hx=>?_,fun s=>?_,nd,fun s hs hm=>?_,fun i j s t x y _ hs ht hx hy=>?_,fun s t x y hs ht hx hy=>?_,fun i t x hi=>by omega⟩
 .have hs:s<g.n.toNat:=by rw[<-ln];exact (Ya.1 hx).1
  rcases h s hs with ⟨h1,h2,_⟩ | ⟨_,h2,_⟩
  .rw[hx] at h2;exact .inr ⟨0,fH h2,.base h1,Nat.zero_le _⟩
  .rw[hx] at h2;exact .inl (fH h2)
 .constructor
  .intro hs;rcases h s (hq s hs) with ⟨_,h2,_⟩ | ⟨_,_,h2⟩
   .exact⟨0,h2,by unfold dd;decide⟩
   .exact absurd hs h2
  .rintro⟨x,hx,hf⟩;have hs:s<g.n.toNat:=by rw[<-ln];exact (Ya.1 hx).1
   rcases h s hs with ⟨_,_,h2⟩ | ⟨_,h2,_⟩
   .exact h2
   .rw[hx] at h2;exact absurd (fH h2) hf
 .rcases h s hs with ⟨_,h2,_⟩ | ⟨h2,_,_⟩
  .exact h2
  .exact absurd hm h2
 .rw[hv (Yb hs) hx,hv (Yb ht) hy];exact Int.le_refl _
 .rw[hv (Yb hs) hx,hv ht hy];omega
end Go.VC
end

section
namespace Go.VC
open Go.Proofs Go.LexS
theorem QG(b:Nat)(g:Gl)(k:Nat)(x:Ed)(LF:List Int)(lf:Sl)(s:Nat)(AD kX:Int)(c0 c1 c2:Addr)(h:Heap)(h0:hc h c0=some (Value.slice lf.a lf.n lf.c))(h1:hc h c1=some (Value.pointer (some ⟨b,0,none⟩)))(h2:hc h c2=some (Value.int .i64 (s:Nat)))
  (Fc:hc h ⟨b,6,none⟩=some (Value.slice g.he.a g.he.n g.he.c)) (hg:GI h g) (hr:Rw h 1 lf (LF.map aO)) (hk:g.es[k]?=some x) (ht:0<=x.t) (hx:LF[x.t.toNat]?=some AD) (hs:LF[s]?=some kX) (hb:0<=kX/\kX<=dd) :
  Fn Pz 173 #[.int .i64 (k:Nat),.pointer (some c0),.pointer (some c1),.pointer (some c2)] h fun v h'=>v=.bool (decide (AD=kX-1))/\Ext h h':=by
 apply Uo (k:Nat) c0 c1 c2;unfold ZI;have qP:=(Ya.1 hk).1;have BE:=(Ya.1 hx).1;have nX:=(Ya.1 hs).1;have ki:=hg.e.ln;have sv:=hr.ln;unfold dd at hb;refine⟨lf,h0,some ⟨b,0,none⟩,h1,?_⟩;show ∃x4:Sl,hc h ⟨b,0+6,none⟩=some (.slice x4.a x4.n x4.c)/\_;refine⟨g.he,Fc,?_⟩;refine hg.e.rw.aD (by omega) (by omega) fun b5 o6 x' gx u=>?_;replace gx:g.es[k]?=some x':=gx;rw[hk] at gx;cases gx;refine⟨x.t,u.nth 4 rfl,?_⟩;refine hr.aD (by omega) (by omega) fun b8 o9 d gd u2=>?_;rw[hx] at gd;cases gd;refine⟨AD,u2.hd,lf,h0,(s:Nat),h2,?_⟩;refine hr.aD (by omega) (by omega) fun b13 o14 d gd u3=>?_;replace gd:LF[s]?=some d:=gd;rw[hs] at gd;cases gd;refine⟨kX,u3.hd,?_,.iC⟩;rw[a7 (by omega) (by omega)];congr 1
theorem QV:aJ Pz 173=true:=by kernel_rfl
def Gw(LF:List Int)(es:List Ed)(kX:Int)(k:Nat):Bool:=decide (LF.getD (eA es k).t.toNat 0=kX-1)
theorem xa(b:Nat)(g:Gl)(L:List Nat)(LF:List Int)(lf:Sl)(s:Nat)(kX:Int)(c0 c1 c2:Addr)(sl:Sl)(h:Heap)(hL:Rw h 1 sl ((aw L).map aO))(hl:L.length<=1048576)(h0:hc h c0=some (Value.slice lf.a lf.n lf.c))(h1:hc h c1=some (Value.pointer (some ⟨b,0,none⟩)))(h2:hc h c2=some (Value.int .i64 (s:Nat)))
  (Fc:hc h ⟨b,6,none⟩=some (Value.slice g.he.a g.he.n g.he.c)) (hg:GI h g) (hr:Rw h 1 lf (LF.map aO)) (hk:∀k∈L,k<g.es.length) (hE:∀x∈g.es,0<=x.t/\x.t.toNat<LF.length) (hs:LF[s]?=some kX) (hb:0<=kX/\kX<=dd) :
  Fn Pz 172 #[.slice sl.a sl.n sl.c,.func (.func 173) #[] #[.pointer (some c0),.pointer (some c1),.pointer (some c2)]] h fun v h'=>v=.int .i64 (uI (Gw LF g.es kX) L)/\Ext h h':=by
 apply Uq;unfold ZJ;have SF:sl.n=L.length:=by have:=hL.ln;unfold aw at this;rwa [Yc] at this
 refine⟨fun x h' μ=>∃i:Nat,x=i/\μ=sl.n-i/\i<=sl.n/\Ext h h'/\∀(j:Nat) (y:Nat),j<i->L[j]?=some y->Gw LF g.es kX y=false,⟨_,0,rfl,rfl,Nat.zero_le _,.iC,fun j y hj=>by omega⟩,?_⟩;rintro-_ h5 μ ⟨i,rfl,rfl,hi,E,hd⟩;refine aM (fun c=>?_) (fun c=>?_)
 .refine (hL.ext E).aD (by omega) (by omega) fun b6 o7 d gd t=>?_;obtain⟨k,gk,rfl⟩:=cV gd;replace gk:L[i]?=some k:=gk;obtain⟨x,hx⟩:=get_some (hk k (Yb gk));have vD:=hE x (Yb hx);obtain⟨AD,VR⟩:=get_some vD.2;refine⟨(k:Int),t.hd,?_⟩;show cond (aJ Pz 173) _ _;rw[QV,cond_true];refine (QG b g k x LF lf s AD kX c0 c1 c2 h5 (ay E h0) (ay E h1) (ay E h2) (ay E Fc) (hg.ext E) (hr.ext E) hx vD.1 VR hs hb).mono ?_;rintro _ cy ⟨rfl,E2⟩;have lR:Gw LF g.es kX k=decide (AD=kX-1):=by
   unfold Gw;rw[aK hx,Yo,VR];rfl
  refine⟨_,rfl,aa (fun c1=>⟨?_,E.trans E2⟩) (fun c1=>⟨_,by omega,i+1,by rw[a7 (by omega) (by omega)];omega,rfl,by omega,E.trans E2,fun j y hj hy=>?_⟩)⟩
  .unfold uI;rw[kJ hd gk (by rw[lR];exact c1)]
  .by_cases e1:j=i
   .subst e1;rw[gk] at hy;cases hy;rw[lR];exact c1
   .exact hd j y (by omega) hy
 .refine⟨?_,E⟩;unfold uI;rw[w7 fun j y hj=>hd j y (by have:=(Ya.1 hj).1;omega) hj]
theorem QU:aJ Pz 175=true:=by kernel_rfl
theorem G2(L:List Ev)(s:Sl)(h:Heap)(hr:Rw h 3 s (L.map Ev.cs))(hl:L.length<=1048576):
  Fn Pz 174 #[.slice s.a s.n s.c,.func (.func 175) #[] #[]] h fun v h'=>v=.int .i64 (uI (fun x=>!x.send) L)/\Ext h h':=by
 apply Un;unfold ZH;have hn:=hr.ln;refine⟨fun x h' μ=>∃i:Nat,x=i/\μ=s.n-i/\i<=s.n/\Ext h h'/\∀(j:Nat) (y:Ev),j<i->L[j]?=some y->(!y.send)=false,⟨_,0,rfl,rfl,Nat.zero_le _,.iC,fun j y hj=>by omega⟩,?_⟩;rintro-_ h5 μ ⟨i,rfl,rfl,hi,E,hd⟩;refine aM (fun c=>?_) (fun c=>?_)
 .refine (hr.ext E).aD (by omega) (by omega) fun b6 o7 q g t=>?_;replace g:L[i]?=some q:=g;refine⟨q.send,q.peer,q.label,t,?_⟩;show cond (aJ Pz 175) _ _;rw[QU,cond_true];show Fn Pz 175 #[.agg ⟨q.cs⟩] h5 _;apply Um q.send q.peer q.label;unfold ZG;refine (St.refl h5).ak fun h4 hs=>?_;refine⟨q.send,hs.rd 0 rfl (i:=0) rfl,?_⟩;refine⟨_,rfl,aa (fun c1=>⟨?_,E.trans hs.ext⟩) (fun c1=>⟨_,by omega,i+1,by rw[a7 (by omega) (by omega)];omega,rfl,by omega,E.trans hs.ext,fun j y hj hy=>?_⟩)⟩
  .unfold uI;rw[kJ hd g c1]
  .by_cases e1:j=i
   .subst e1;rw[g] at hy;cases hy;exact c1
   .exact hd j y (by omega) hy
 .refine⟨?_,E⟩;unfold uI;rw[w7 fun j y hj=>hd j y (by have:=(Ya.1 hj).1;omega) hj]
abbrev J3:=Sl × List Int
def qD(ib lb h1b hb b:Nat)(IN:List J3)(lf:Sl)(LF:List Int)(q:Sl)(Q:List Nat):List It:=
 [.sl q 3 1 ((aw Q).map aO),.ae lb [.slice lf.a lf.n lf.c] 102,.sl lf 3 1 (LF.map aO),.ae ib ((IN.map Prod.fst).map eO) 102,.ae h1b cx.cs 35,.ae hb [.pointer (some ⟨b,0,none⟩)] 89]++IN.map (nest 3 1 aO)++[]
def KT(f:Fs):Bool:=dm f.l 0&&(f.b || !dm f.l (f.l.length-1))
def rV(X:An)(s:Nat):Prop:=∃f,X.fi[s]?=some f/\KT f=true
def BD(es:List Ed)(t:Nat):List Int:=(es.filter fun e=>decide (e.t=(t:Int))).map (·.f)
theorem BB{es:List Ed}{t:Nat}{p:Int}:p∈BD es t ↔ ∃e∈es,e.t=(t:Int)/\e.f=p:=by
 unfold BD;rw[Yp];constructor
 .rintro⟨e,he,rfl⟩;rw[List.mem_filter,decide_eq_true_eq] at he;exact⟨e,he.1,he.2,rfl⟩
 .rintro⟨e,he,h1,rfl⟩;exact⟨e,List.mem_filter.2 ⟨he,decide_eq_true h1⟩,rfl⟩
theorem BC(es:List Ed)(t:Nat):(BD es t).length<=es.length:=by unfold BD;rw[Yc];exact List.length_filter_le _ _
theorem OV(n:Nat):ai Pz 3 n=((List.replicate n (0:Int)).map aO).flatten:=by
 rw[GR,List.map_replicate]
 induction n with
 | zero=>rfl
 | succ n ih=>rw[List.replicate_succ,List.replicate_succ,ox,<-ih];rfl
theorem K3(n:Nat):ai Pz 102 n=(List.replicate n aq).map eO:=by
 rw[Bx,List.map_replicate,List.map_replicate]
 induction n with
 | zero=>rfl
 | succ n ih=>rw[List.replicate_succ,List.replicate_succ,ox,ih];rfl
theorem G6(L:List Int):∀r∈L.map aO,r.length=1:=fun r hr=>by obtain⟨x,_,rfl⟩:=Yp.1 hr;rfl
structure Ta (g:Gl) (IN:List J3):Prop where
 e:IN.map Prod.snd=(List.range g.n.toNat).map (BD g.es)
theorem Ta.len{g:Gl}{IN:List J3}(h:Ta g IN):IN.length=g.n.toNat:=by have:=congrArg List.length h.e;simpa using this
theorem Ta.at{g:Gl}{IN:List J3}(h:Ta g IN){t:Nat}(ht:t<g.n.toNat):∃q,IN[t]?=some q/\q.2=BD g.es t:=by
 obtain⟨q,hq⟩:=get_some (l:=IN) (i:=t) (by rw[h.len];exact ht);have h1:=aR h.e ht;rw[Yd,hq] at h1;exact⟨q,hq,fH h1⟩
theorem Q6{h od h2 cF h1:Heap}{b:Nat}{g:Gl}{X:An}{IN:List J3}{lf q0:Sl}{LF0:List Int}{Q0:List Nat}{R:Value->Heap->Prop}
  (hs:St h od (qD h2.size cF.size h1.size h.size b IN lf LF0 q0 Q0)) (hV:af g) (hI:Ta g IN) (hB:nJ g (rV X) LF0 Q0 0 0)
  (hK:∀(ij:Heap) (q:Sl) (LF:List Int) (Q:List Nat),St h ij (qD h2.size cF.size h1.size h.size b IN lf LF q Q)->nJ g (rV X) LF Q Q.length 1000->Iz ij h cF h1 R) :
  RD q0 od g.n h2 cF h h1 R:=by
 unfold RD;have hN:=hV.num.n;have hM:=hV.num.m;have hE:=hV.num.e;refine⟨fun q x h' μ=>∃(hd:Nat) (LF:List Int) (Q:List Nat),x=(hd:Int)/\μ=g.n.toNat-hd/\hd<=Q.length/\St h h' (qD h2.size cF.size h1.size h.size b IN lf LF q Q)/\nJ g (rV X) LF Q hd hd,⟨_,0,LF0,Q0,rfl,rfl,Nat.zero_le _,hs,hB⟩,?_⟩;clear hs hB;rintro-q _ ij μ ⟨hd,LF,Q,rfl,rfl,hhd,hs,hB⟩;have hQl:=hB.len;have nt:=(hs.len 0 (s:=q) (e:=3) (n:=1) (rows:=(aw Q).map aO) rfl (by omega)).1;rw[Yc] at nt;have Ph:q.n=Q.length:=by unfold aw at nt;rwa [Yc] at nt
 refine aM (fun c=>?_) (fun c=>?_)
 .refine (hs.rows 0 rfl (by omega)).aD (by omega) (by omega) fun b76 o77 d gd u=>?_;obtain⟨t,ht,rfl⟩:=cV gd;replace ht:Q[hd]?=some t:=ht;have Pa:=Yb ht;have Sw:=hB.lt Pa;obtain⟨xx,zB,_,hxc⟩:=hB.val Pa;obtain⟨qi,V4,V3⟩:=hI.at Sw;refine⟨(t:Int),u.hd,⟨by omega,by omega⟩,?_⟩;rw[show 0+Int.toNat ((t:Nat):Int)*1=t by omega];refine⟨qi.1,hs.rd 3 rfl (by rw[Yd,Yd,V4];rfl),?_⟩;have eH:∀ {LF:List Int} {q:Sl} {Q:List Nat},.sl qi.1 3 1 (qi.2.map aO)∈qD h2.size cF.size h1.size h.size b IN lf LF q Q:=fun {LF q Q}=>by
   unfold qD;exact List.mem_append_left _ (List.mem_append_right _ (Yp.2 ⟨qi,Yb V4,rfl⟩))
  have cN:qi.1.n=(BD g.es t).length:=by
   have:=(hs.nO eH (by omega)).1
   rwa [Yc,V3] at this
  have n4:=BC g.es t;unfold aat;refine⟨fun q x h' μ=>∃(j:Nat) (LF:List Int) (Q:List Nat),x=(j:Int)/\μ=qi.1.n-j/\j<=qi.1.n/\St h h' (qD h2.size cF.size h1.size h.size b IN lf LF q Q)/\nJ g (rV X) LF Q hd (hd+1)/\Q[hd]?=some t/\LF[t]?=some (xx:Int)/\∀(i:Nat) p,i<j->(BD g.es t)[i]?=some p->∃y,LF[p.toNat]?=some y/\y<=xx+1,⟨_,0,LF,Q,rfl,rfl,Nat.zero_le _,hs,hB.Th (by omega),ht,zB,fun i p hi=>by omega⟩,?_⟩;clear hs hB hQl nt Ph hhd zB ht Pa gd u c;rintro-q h85 h85' μ ⟨j,LF,Q,rfl,rfl,hj,hs,hB,ht,zB,D5⟩;have hQl:=hB.len;have BR:=(Ya.1 ht).1;have nt:=(hs.len 0 (s:=q) (e:=3) (n:=1) (rows:=(aw Q).map aO) rfl (by omega)).1;rw[Yc] at nt;have Ph:q.n=Q.length:=by unfold aw at nt;rwa [Yc] at nt
  have Eb:=(hs.len 2 (s:=lf) (e:=3) (n:=1) (rows:=LF.map aO) rfl (by omega)).1;rw[Yc,hB.ln] at Eb;refine aM (fun c=>?_) (fun c=>?_)
  .refine (hs.nO eH (by omega)).aD (by omega) (by omega) fun b86 o87 p gp u=>?_;rw[V3] at gp;replace gp:(BD g.es t)[j]?=some p:=gp;obtain⟨e,he,het,Ee⟩:=BB.1 (Yb gp);have kM:=hE e he;unfold gU at kM;obtain⟨p',pH⟩:∃p':Nat,p=(p':Int):=⟨p.toNat,by omega⟩;subst pH;refine⟨(p':Int),u.hd,lf,hs.rd 1 rfl (i:=0) rfl,?_⟩;refine (hs.rows 2 rfl (by omega)).aD (by omega) (by omega) fun b90 o91 v gv u2=>?_;replace gv:LF[p']?=some v:=gv;refine⟨v,u2.hd,dp (fun c2=>?_) (fun c2=>?_)⟩
   .have Su:LF[p']?=some dd:=by rw[gv,c2];rfl
    refine⟨lf,hs.rd 1 rfl (i:=0) rfl,lf,hs.rd 1 rfl (i:=0) rfl,?_⟩;refine (hs.rows 0 rfl (by omega)).aD (by omega) (by omega) fun b95 o96 d gd u3=>?_;obtain⟨t',JO,rfl⟩:=cV gd;replace JO:Q[hd]?=some t':=JO;rw[ht] at JO;cases JO;refine⟨(t:Int),u3.hd,?_⟩;refine (hs.rows 2 rfl (by omega)).aD (by omega) (by omega) fun b98 o99 w gw u4=>?_;replace gw:LF[t]?=some w:=gw;rw[zB] at gw;cases gw;refine⟨(xx:Int),u4.hd,?_⟩;rw[a7 (by omega) (by omega)];refine hs.set 2 rfl (by omega) (x:=(p':Int)) (by omega) (by omega) ((xx:Int)+1) rfl rfl (fun b17 Sc aeg hs=>?_) rfl;have hs:St h aeg (qD h2.size cF.size h1.size h.size b IN lf (LF.set p' ((xx:Int)+1)) q Q):=hs;refine hs.app 0 rfl dv (m:=1) [aO (p':Int)] rfl rfl (fun r hr=>by rw[Ye] at hr;rw[hr];rfl) rfl (by omega) (by simp only[maxLen];omega) fun afH sC n105 hs=>?_;have hB':=hB.put ht zB (by omega) (by omega) he het (s:=p') Ee Su;refine⟨_,?_,j+1,_,Q++[p'],by rw[a7 (by omega) (by omega)];omega,rfl,by omega,?_,hB',by rw[jw BR];exact ht,?_,fun i r hi gr=>?_⟩
    .omega
    .have e9:(aw (Q++[p'])).map aO=(aw Q).map aO++[aO (p':Int)]:=by rw[jC,Ym];rfl
     unfold qD;rw[e9];exact hs
    .rw[Yy (fun e9=>by subst e9;rw[Su] at zB;have:=fH zB;unfold dd at this;omega)];exact zB
    .by_cases e9:i=j
     .subst e9;rw[gp] at gr;cases gr;refine⟨(xx:Int)+1,?_,Int.le_refl _⟩;rw[Ys];exact Yq (by rw[hB.ln];omega)
     .obtain⟨y,h5,h6⟩:=D5 i r (by omega) gr;by_cases e10:p'=r.toNat
      .rw[<-e10,Su] at h5;have:=fH h5;unfold dd at this;omega
      .exact⟨y,by rw[Yy e10];exact h5,h6⟩
   .refine⟨_,?_,j+1,LF,Q,by rw[a7 (by omega) (by omega)];omega,rfl,by omega,hs,hB,ht,zB,fun i r hi gr=>?_⟩
    .omega
    .by_cases e9:i=j
     .subst e9;rw[gp] at gr;cases gr;refine⟨v,gv,hB.hi t p' _ v ht ((hB.q p').2 ⟨v,gv,c2⟩) zB gv⟩
     .exact D5 i r (by omega) gr
  .refine⟨_,?_,hd+1,LF,Q,by rw[a7 (by omega) (by omega)];omega,rfl,by omega,hs,hB.next ht zB fun e he het=>?_⟩
   .omega
   .obtain⟨i,hi⟩:=Yf.1 (BB.2 ⟨e,he,het,rfl⟩);have:=(Ya.1 hi).1;exact D5 i e.f (by omega) hi
 .have:hd=Q.length:=by omega
  subst this;exact hK ij q LF Q hs (hB.Th (by omega))
end Go.VC
end
