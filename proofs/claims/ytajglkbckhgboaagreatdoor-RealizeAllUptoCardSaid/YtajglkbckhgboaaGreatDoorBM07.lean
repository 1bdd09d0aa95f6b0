/- SxLt0 SxLt SxLu SxVcSa SxLx0 SxLx SxLy SxLz SxM1 SxVcSb. -/
import Derived.Test.YtajglkbckhgboaaGreatDoorBM06
set_option linter.all false
set_option maxRecDepth 100000
set_option maxHeartbeats 8000000

section
namespace Go.VC
open Go.Proofs Go.LexS
structure FnI (g:Gl) (F:List Fnd):Prop where
 nd:(F.map (·.m)).Nodup
 e:∀f∈F,∃x∈g.es,f.m=⟨x.a,x.l⟩
 pl:∀f∈F,f.path.length<=1000000
theorem FnI.len {g:Gl} {F:List Fnd} (h:FnI g F):F.length<=g.es.length:=by
 have:=List.Nodup.length_le_of_subset h.nd (l₂:=g.es.map fun x=>(⟨x.a,x.l⟩:Ms)) fun m hm=>by
  obtain⟨f,hf,rfl⟩:=Yp.1 hm;obtain⟨x,hx,e⟩:=h.e f hf;exact Yp.2 ⟨x,hx,e.symm⟩
 rwa [Yc,Yc] at this
theorem FnI.note {g:Gl} {F:List Fnd} (h:FnI g F) {x:Ed} (hx:x∈g.es) {path:List Ac} (hp:path.length<=1000000):FnI g (noteF F ⟨⟨x.a,x.l⟩,path⟩):=by
 unfold noteF;split
 .exact h
 .rename_i hno;refine⟨?_,fun f hf=>?_,fun f hf=>?_⟩
  .rw[Ym,List.nodup_append];refine⟨h.nd,by simp,fun a ha b hb e=>?_⟩;simp only[Yyl,List.map_nil,Ye] at hb;subst hb;subst e;obtain⟨y,hy,e⟩:=Yp.1 ha;exact hno ⟨y,hy,e⟩
  .rcases Yk.1 hf with hf | hf
   .exact h.e f hf
   .rw[Ye] at hf;subst hf;exact⟨x,hx,rfl⟩
  .rcases Yk.1 hf with hf | hf
   .exact h.pl f hf
   .rw[Ye] at hf;subst hf;exact hp
theorem seaE_fni {g:Gl} {role:Int} {p:Plc} {path:List Ac} {st:List Vst × List Fnd} {x:Ed} (h:FnI g st.2) (hx:x∈g.es) (hp:path.length<1000000):FnI g (seaE role p path st x).2:=by
 unfold seaE;simp only;split
 .exact h.note hx (by rw[Yh,Yv];omega)
 .exact h
theorem edge206 {h0 h121 h90 h106 h116:Heap} {hd:Nat} {g:Gl} {gb ob mb:Nat} {qu al:Sl} {V:List Vzt} {K:List (Plc × Bool)} {F:List FS} {MS:List (Sl × List Ed)} {Q:List Vst} {q:Vst} {x:Ed} {role:Int} {m102:Nat} {I:Sl->Sl->Int->Heap->Nat->Prop} {y:Int}
  (hV:ValidS g) (hr:role=((role.toNat:Nat):Int))
  (hs:St h0 h121 (.blk h116.size [.int .i64 x.t,.int .u8 (q.1.b:Nat),.int .u8 (q.1.d:Nat)] 245 :: .blk h106.size x.cs 67 :: .blk h90.size q.1.cs 245::seaL gb ob mb g qu al V K F MS)) (hQ:QuI g.n.toNat Q V K) (hq:Q[hd]?=some q) (hF:FnI g (F.map Prod.fst)) (hx:x∈g.es)
  (hI:∀(qu' al':Sl) (Q':List Vst) (V':List Vzt) (K':List (Plc × Bool)) (F':List FS) (h':Heap),St h0 h' (.blk h90.size q.1.cs 245::seaL gb ob mb g qu' al' V' K' F' MS)->QuI g.n.toNat Q' V' K'->(Q',F'.map Prod.fst)=seaE role q.1 q.2 (Q,F.map Prod.fst) x->(∀(k:Nat) z,Q[k]?=some z->Q'[k]?=some z)->∃m,m<m102/\I qu' al' (IntKind.wrap .i64 (y+1)) h' m) :
  V68b h121 h90 h106 h116 al role (hd:Nat) qu (some mb) m102 I y:=by
 unfold V68b;have hN:=hV.num.n;have hM:=hV.num.m;have h6:=hV.nam.n6;have hxE:=hV.num.e x hx;unfold EdS at hxE;have hqo:=hQ.ok q (Yb hq);obtain⟨ho1,ho2,ho3⟩:=hqo;have hnx:=seaT_ok hV (hQ.ok q (Yb hq)) hx role;have hxa:x.a=((x.a.toNat:Nat):Int):=by omega
 have hxb:x.b=((x.b.toNat:Nat):Int):=by omega
 have hxt:x.t=((x.t.toNat:Nat):Int):=by omega
 have hfl:=hF.len;rw[Yc] at hfl;have b1:=bits8 ⟨q.1.b,by omega⟩ ⟨x.a.toNat,by omega⟩;have b2:=bits8 ⟨q.1.d,by omega⟩ ⟨x.a.toNat,by omega⟩;have b3:=bits8 ⟨q.1.b,by omega⟩ ⟨x.b.toNat,by omega⟩;simp only[<-hxa,<-hxb] at b1 b2 b3;refine⟨fun al' h'=>∃F':List FS,St h0 h' (.blk h116.size (seaT role q.1 x).1.cs 245 :: .blk h106.size x.cs 67 :: .blk h90.size q.1.cs 245::seaL gb ob mb g qu al' V K F' MS)/\F'.map Prod.fst=(if (seaT role q.1 x).2 then noteF (F.map Prod.fst) ⟨⟨x.a,x.l⟩,q.2++[x.act]⟩ else F.map Prod.fst),?_,?_⟩
 .refine⟨(q.1.b:Nat),hs.rd 2 rfl (i:=1) rfl,x.a,hs.rd 1 rfl (i:=1) rfl,by omega,?_⟩;rw[b1.1];refine sB_intro (fun c=>?_) (fun c=>?_)
  .refine⟨(q.1.b:Nat),hs.rd 0 rfl (i:=1) rfl,x.b,hs.rd 1 rfl (i:=2) rfl,by omega,?_⟩;rw[b3.2.2];refine hs.put 0 rfl (o:=1) (vs:=[.int .u8 ((q.1.b|||2^x.b.toNat:Nat):Int)]) rfl (show 2<=3 by decide) fun h127 hs=>?_;have e:seaT role q.1 x=(⟨x.t.toNat,q.1.b|||2^x.b.toNat,q.1.d⟩,false):=by unfold seaT;rw[if_pos c]
   rw[e];refine⟨F,?_,rfl⟩;unfold Plc.cs;simp only;rw[<-hxt];exact hs
  .refine⟨x.b,hs.rd 1 rfl (i:=2) rfl,?_⟩;have e0:∀(e:Plc),(⟨x.t.toNat,q.1.b,q.1.d⟩:Plc).cs=[.int .i64 x.t,.int .u8 (q.1.b:Nat),.int .u8 (q.1.d:Nat)]:=fun _=>by unfold Plc.cs;simp only;rw[<-hxt]
   refine sBe (fun c2=>?_) (fun c2=>?_)
   .refine⟨(q.1.d:Nat),hs.rd 2 rfl (i:=2) rfl,x.a,hs.rd 1 rfl (i:=1) rfl,by omega,?_⟩;rw[b2.2.1];refine sB_intro (fun c3=>?_) (fun c3=>?_)
    .have c3':q.1.d.testBit x.a.toNat=false:=bF c3;have e:seaT role q.1 x=(⟨x.t.toNat,q.1.b,q.1.d|||2^x.a.toNat⟩,true):=by unfold seaT;rw[if_neg (by rw[c];decide),if_pos ⟨c2,c3'⟩]
     refine⟨(q.1.d:Nat),hs.rd 0 rfl (i:=2) rfl,x.a,hs.rd 1 rfl (i:=1) rfl,by omega,?_⟩;rw[b2.2.2];refine hs.put 0 rfl (o:=2) (vs:=[.int .u8 ((q.1.d|||2^x.a.toNat:Nat):Int)]) rfl (show 3<=3 by decide) fun h133 hs=>?_;refine⟨x.a,hs.rd 1 rfl (i:=1) rfl,x.l,hs.rd 1 rfl (i:=3) rfl,?_⟩;refine hs.newput (vs:=[.int .i64 x.a,.int .i64 x.l]) rfl rfl fun h137 hs=>?_;have hs:St h0 h137 (.blk h133.size (⟨x.a,x.l⟩:Ms).cs 72 :: .blk h116.size (⟨x.t.toNat,q.1.b,q.1.d|||2^x.a.toNat⟩:Plc).cs 245 :: .blk h106.size x.cs 67 :: .blk h90.size q.1.cs 245::seaL gb ob mb g qu al V K F MS):=by
      unfold Plc.cs;simp only;rw[<-hxt];exact hs
     refine (contains246 F ⟨x.a,x.l⟩ h133.size al h137 (hs.rw 5 rfl (by omega)) (hs.at 0 rfl (o:=0) (n:=2) rfl) (by omega)).mono ?_;rintro _ h140 ⟨⟨r,rfl,hr2⟩,E⟩;replace hs:=hs.step E;have hr3:r=true ↔ ∃y∈F.map Prod.fst,y.m=⟨x.a,x.l⟩:=hr2.trans ⟨fun ⟨y,h1,h2⟩=>⟨y.1,Yp.2 ⟨y,h1,rfl⟩,h2⟩,fun ⟨y,h1,h2⟩=>by obtain⟨z,h3,rfl⟩:=Yp.1 h1;exact⟨z,h3,h2⟩⟩;rw[e];simp only[if_true];refine⟨r,rfl,sB_intro (fun c4=>?_) (fun c4=>?_)⟩
     .have hno:¬∃y∈F.map Prod.fst,y.m=⟨x.a,x.l⟩:=fun h9=>by rw[hr3.2 h9] at c4;cases c4
      refine⟨x.a,x.b,x.l,hs.at 2 rfl (o:=1) (n:=3) rfl,?_⟩;refine hs.newb fun h144 hs=>?_;have hs:=hs.blkS 1 3 ([x.act].map Ac.cs) rfl (fun r hr=>by obtain⟨x,_,rfl⟩:=Yp.1 hr;rfl) rfl (by decide);refine path206 (R:=[.blk h116.size (⟨x.t.toNat,q.1.b,q.1.d|||2^x.a.toNat⟩:Plc).cs 245,.blk h106.size x.cs 67,.blk h90.size q.1.cs 245]) (q:=q) (m:=⟨x.a,x.l⟩) hs hQ (by omega) hq (by omega) fun al' r h' hs=>⟨_,hs,?_⟩;unfold noteF;rw[if_neg hno,Ym];rfl
     .refine⟨F,hs.drop 1,?_⟩;unfold noteF;rw[if_pos (hr3.1 (bT c4))]
    .have e:seaT role q.1 x=(⟨x.t.toNat,q.1.b,q.1.d⟩,false):=by unfold seaT;rw[if_neg (by rw[c];decide),if_neg (fun h9=>by rw[h9.2] at c3;cases c3)]
     rw[e];refine⟨F,?_,rfl⟩;rw[e0 q.1];exact hs
   .have e:seaT role q.1 x=(⟨x.t.toNat,q.1.b,q.1.d⟩,false):=by unfold seaT;rw[if_neg (by rw[c];decide),if_neg (fun h9=>c2 h9.1)]
    rw[e];refine⟨F,?_,rfl⟩;rw[e0 q.1];exact hs
 .clear hs b1 b2 b3;rintro-al' h174 ⟨F',hs,hF'⟩;generalize hnxt:(seaT role q.1 x).1=nx at *;obtain⟨hn1,hn2,hn3⟩:=hnx;have hst:∀Q':List Vst,Q'=(if nx∈Q.map Prod.fst then Q else Q++[(nx,q.2++[x.act])])->(Q',F'.map Prod.fst)=seaE role q.1 q.2 (Q,F.map Prod.fst) x:=fun Q' e=>by
   unfold seaE;simp only;rw[hnxt,<-e,hF']
  refine⟨(nx.s:Nat),(nx.b:Nat),(nx.d:Nat),hs.at 0 rfl (o:=0) (n:=3) rfl,?_⟩;refine hs.mlook1 (cv:=Value.bool) (l:=K) M352 5 rfl (hQ.kok (by omega)) hQ.kn (a:=nx) ⟨by omega,by omega,by omega⟩ ?_;rw[hQ.look];refine⟨_,rfl,sB_intro (fun c=>?_) (fun c=>?_)⟩
  .have hno:nx∉Q.map Prod.fst:=Yyo (bF c);refine⟨(nx.s:Nat),(nx.b:Nat),(nx.d:Nat),hs.at 0 rfl (o:=0) (n:=3) rfl,?_⟩;refine hs.mput (cv:=Value.bool) (l:=K) M352 5 rfl (hQ.kok (by omega)) hQ.kn (a:=nx) ⟨by omega,by omega,by omega⟩ true fun h184 hs=>?_;refine⟨(nx.s:Nat),(nx.b:Nat),(nx.d:Nat),hs.at 0 rfl (o:=0) (n:=3) rfl,x.a,x.b,x.l,hs.at 1 rfl (o:=1) (n:=3) rfl,?_⟩;have hqun:=hs.len 3 (s:=qu) (e:=248) (n:=7) (rows:=V.map vC) rfl (by omega);rw[Yc] at hqun;have hle:=hQ.le;have hvn:=hQ.vn;have hn2':g.n.toNat*4096<=200*4096:=Nat.mul_le_mul_right _ (by omega);refine hs.app 3 rfl app355 (m:=1) [vC (nx,((hd:Int),x.act))] rfl rfl (fun r hr=>by rw[Ye] at hr;rw[hr];rfl) rfl (by omega) (by simp only[maxLen];omega) fun s192 h193 n192 hs=>?_;refine hI s192 al' _ (V++[(nx,((hd:Int),x.act))]) (mset K nx true) F' h193 ?_ (hQ.push hq hno ⟨hn1,hn2,hn3⟩) (hst _ (by rw[if_neg hno])) fun k z hz=>by rw[Yyi (Ya.1 hz).1];exact hz
   have hs:=hs.drop 2;unfold seaL;rw[Ym (f:=vC)];exact hs
  .have hin:nx∈Q.map Prod.fst:=Yyn (bT c);exact hI qu al' Q V K F' _ (hs.drop 2) hQ (hst Q (by rw[if_pos hin])) fun k z hz=>hz
theorem seaN_step {es:List Ed} {role:Int} {f hd:Nat} {Q:List Vst} {F:List Fnd} {q:Vst} (hq:Q[hd]?=some q):seaN es role (f+1) hd Q F=seaN es role f (hd+1) ((srtS es q.1.s).foldl (seaE role q.1 q.2) (Q,F)).1 ((srtS es q.1.s).foldl (seaE role q.1 q.2) (Q,F)).2:=by
 rw[seaN,hq]
theorem seaN_end {es:List Ed} {role:Int} {f hd:Nat} {Q:List Vst} {F:List Fnd} (hq:Q[hd]?=none):seaN es role f hd Q F=F:=by
 cases f with
 | zero=>rfl
 | succ f=>rw[seaN,hq]
theorem fan_snoc {es:List Ed} {j:Nat} {x:Ed} (hx:es[j]?=some x) (s:Nat):(es.take (j+1)).filter (fun y=>decide (y.f=(s:Int)))=(es.take j).filter (fun y=>decide (y.f=(s:Int)))++(if x.f=(s:Int) then [x] else []):=by
 rw[take_snoc hx,List.filter_append];congr 1;by_cases h:x.f=(s:Int)
 .rw[if_pos h,List.filter_cons_of_pos (by rw[decide_eq_true h])];rfl
 .rw[if_neg h,List.filter_cons_of_neg (by rw[decide_eq_false h];decide)];rfl
theorem map_range_get {α:Type} {L:List α} {n:Nat} {f:Nat->α} (h:L=(List.range n).map f) {s:Nat} (hs:s<n):L[s]?=some (f s):=by
 rw[h,Yd,Yyb hs];rfl
theorem search206 (g:Gl) (i:Nat) (x0:Ed) (h:Heap) (hg:GI h g) (hx:Gm h) (hV:ValidS g) (hi:g.es[i]?=some x0) :
  Fn Pz 68 #[g.v,.int .i64 (i:Nat)] h fun v h'=>Ext h h'/\∃(s:Sl) (F:List FS),v=.tuple ⟨[.slice s.a s.n s.c,.int .i64 0]⟩/\F.map Prod.fst=seaS g i/\RL h' 3 s fnC F/\(∀q∈F,RL h' 3 q.2 Ac.cs q.1.path)/\FnI g (seaS g i)/\St h h' (.sl s 134 3 (F.map fnC)::F.map pathIt):=by
 apply vc68 (bs g.nm) g.hr g.hd g.n g.s g.e g.he g.ht (i:Nat);unfold W68;have hN:=hV.num.n;have hM:=hV.num.m;have h6:=hV.nam.n6;have hen:=hg.e.ln;have hil:=(Ya.1 hi).1;have hxE:=hV.num.e x0 (Yb hi);have hE:=hV.num.e;unfold EdS at hxE;have hxb:x0.b=((x0.b.toNat:Nat):Int):=by omega
 have hxt:x0.t=((x0.t.toNat:Nat):Int):=by omega
 refine (St.refl h).newb fun h9 hs=>?_;refine⟨_,_,_,_,_,_,_,_,hs.at 0 rfl (n:=8) rfl,?_⟩;refine (valid38 g h9 (hg.ext hs.ext) (hx.ext hs.ext)).mono ?_;rintro _ h20 ⟨rfl,E20⟩;replace hs:=hs.step E20;refine⟨_,rfl,?_⟩;rw[decide_eq_true hV];refine sB_f rfl ?_;refine sBi (fun c=>by omega) (fun _=>?_);refine⟨g.he,hs.rd 0 rfl (i:=6) rfl,sBi (fun c=>by omega) (fun _=>?_)⟩;refine⟨g.n,hs.rd 0 rfl (i:=3) rfl,by omega,?_⟩;rw[made24];refine hs.newb fun h23 hs=>?_;have hs:=hs.nests (α:=Ed) (e:=67) (k:=6) (cs:=Ed.cs) (A:=[_,_]) (B:=[]) g.n.toNat;refine⟨g.he,hs.rd 1 rfl (i:=6) rfl,?_⟩;refine⟨fun x h' μ=>∃(j:Nat) (MS:List (Sl × List Ed)),x=(j:Int)/\μ=g.es.length-j/\j<=g.es.length/\MS.map Prod.snd=((List.range g.n.toNat).map fun s:Nat=>(g.es.take j).filter (fun y=>decide (y.f=(s:Int)))) /\
  St h h' ([.blk h20.size ((MS.map Prod.fst).map slV) 24,.blk h.size g.cs 27]++MS.map (nest 67 6 Ed.cs)++[]),
  ⟨_,0,List.replicate g.n.toNat ((⟨.none,0,0⟩,[]):Sl × List Ed),rfl,rfl,by omega,?_,?_⟩,?_⟩
 .rw[Yyk,List.map_replicate];apply Yyr;intro s;rw[List.getElem?_replicate,Yd];by_cases hs:s<g.n.toNat
  .rw[if_pos hs,Yyb hs];rfl
  .rw[if_neg hs,Yl (by rw[Yyd];omega)];rfl
 .rw[List.map_replicate (f:=Prod.fst)];exact hs
 clear hs;rintro-_ h29 μ ⟨j,MS,rfl,rfl,hj,hMS,hs⟩;have hMSl:MS.length=g.n.toNat:=by have:=congrArg List.length hMS;simpa using this
 refine sBi (fun c1=>?_) (fun c1=>?_)
 .refine (hg.e.rw.ext hs.ext).nbI (by omega) (by omega) fun b30 o31 x gx t=>?_;replace gx:g.es[j]?=some x:=gx;have hxe:=hE x (Yb gx);unfold EdS at hxe;obtain⟨q,hq⟩:=get_some (l:=MS) (i:=x.f.toNat) (by omega);refine⟨_,_,_,_,_,_,t,?_⟩;refine hs.newput (vs:=x.cs) rfl rfl fun h39 hs=>?_;refine⟨x.f,hs.rd 0 rfl (i:=0) rfl,x.f,hs.rd 0 rfl (i:=0) rfl,⟨by omega,by omega⟩,?_⟩;rw[show 0+Int.toNat x.f*1=x.f.toNat by omega];refine⟨q.1,hs.rd 1 rfl (by rw[Yd,Yd,hq];rfl),?_⟩;refine⟨_,_,_,_,_,_,hs.at 0 rfl (o:=0) (n:=6) rfl,?_⟩;refine hs.newbE fun h49 E49 hs=>⟨E49.sm,?_⟩;have hs:St h h49 ((.blk h39.size x.cs 67 :: .blk h29.size x.cs 67::[.blk h20.size ((MS.map Prod.fst).map slV) 24,.blk h.size g.cs 27])++MS.map (nest 67 6 Ed.cs)++[]):=hs;have hqn:=(hs.nestLn hq (by omega)).ln;have hq2:q.2=(g.es.take j).filter (fun y=>decide (y.f=((x.f.toNat:Nat):Int))):=by
   have h1:=map_range_get hMS (s:=x.f.toNat) (by omega);rw[Yd,hq] at h1;exact Yyp h1
  have hql:q.2.length<=400:=by rw[hq2];refine Yys (List.length_filter_le _ _) ?_;rw[Yu];omega
  refine hs.nestAt hq app24 x (hs.at 0 rfl (o:=0) (n:=6) rfl) rfl rfl (by omega) (by simp only[maxLen];omega) fun r h51 hr hs3=>?_;refine⟨sm_cons (hs.same hs3 1 1 rfl rfl) sm_nil,⟨by omega,by omega⟩,?_⟩;refine hs3.put 2 rfl (o:=x.f.toNat) (vs:=[slV r]) rfl (by rw[Yc,Yc,Yv];omega) fun h52 hs=>?_;rw[map_splice slV (by rw[Yc];omega)] at hs;refine⟨_,by omega,j+1,MS.set x.f.toNat (r,q.2++[x]),by rw[w64 (by omega) (by omega)];omega,rfl,by omega,?_,?_⟩
  .apply Yyr;intro s;rw[Yd,Yd];by_cases hsn:s<g.n.toNat
   .rw[Yyb hsn];have h1:=map_range_get hMS hsn;rw[Yd] at h1;by_cases e:x.f.toNat=s
    .subst e;rw[Yq (by omega),Option.map_some,Option.map_some,fan_snoc gx,if_pos (by omega),hq2]
    .rw[Yy e,h1,Option.map_some,fan_snoc gx,if_neg (by omega),Yw]
   .rw[Yl (by rw[Yyh];omega),Yl (by rw[Yyd];omega)];rfl
  .rw[List.map_set];exact hs.drop 2
 have hjn:j=g.es.length:=by omega
 subst hjn;rw[Yye] at hMS;refine⟨fun x h' μ=>∃(j:Nat) (MS:List (Sl × List Ed)),x=(j:Int)/\μ=g.n.toNat-j/\j<=g.n.toNat/\MS.map Prod.snd=((List.range g.n.toNat).map fun s:Nat=>if s<j then srtS g.es s else g.es.filter (fun y=>decide (y.f=(s:Int)))) /\
  St h h' ([.blk h20.size ((MS.map Prod.fst).map slV) 24,.blk h.size g.cs 27]++MS.map (nest 67 6 Ed.cs)++[]),
  ⟨_,0,MS,rfl,rfl,by omega,by rw[hMS];rfl,hs⟩,?_⟩
 clear hs hMS hMSl hj c1;rintro-_ h58 μ ⟨j,MS,rfl,rfl,hj,hMS,hs⟩;have hMSl:MS.length=g.n.toNat:=by have:=congrArg List.length hMS;simpa using this
 refine sBi (fun c1=>?_) (fun c1=>?_)
 .obtain⟨q,hq⟩:=get_some (l:=MS) (i:=j) (by omega);refine⟨⟨by omega,by omega⟩,?_⟩;rw[show 0+Int.toNat ((j:Nat):Int)*1=j by omega];refine⟨q.1,hs.rd 0 rfl (by rw[Yd,Yd,hq];rfl),?_⟩;have hil':j<(MS.map (nest 67 6 Ed.cs)).length:=by rw[Yc];omega
  have hq2:q.2=g.es.filter (fun y=>decide (y.f=((j:Nat):Int))):=by
   have h1:=map_range_get hMS (s:=j) (by omega);rw[Yd,hq,if_neg (by omega)] at h1;exact Yyp h1
  have hql:q.2.length<=400:=by rw[hq2];exact Yys (List.length_filter_le _ _) hM
  have hget:=get_mid (P:=[.blk h20.size ((MS.map Prod.fst).map slV) 24,.blk h.size g.cs 27]) (R:=[]) hil';rw[Yd,hq] at hget;refine (sort243 hs _ hget (by omega)).mono ?_;rintro _ h61 ⟨rfl,l',hp,hw,hs⟩;have hl':l'=srtS g.es j:=by unfold srtS;rw[<-hq2];exact srt_of hp hw (by rw[hq2];exact acts_apart hV _)
  rw[set_mid hil'] at hs;refine⟨rfl,_,by omega,j+1,MS.set j (q.1,l'),by rw[w64 (by omega) (by omega)];omega,rfl,by omega,?_,?_⟩
  .apply Yyr;intro s;rw[Yd,Yd];by_cases hsn:s<g.n.toNat
   .rw[Yyb hsn];have h1:=map_range_get hMS hsn;rw[Yd] at h1;by_cases e:j=s
    .subst e;rw[Yq (by omega),Option.map_some,Option.map_some,if_pos (by omega),hl']
    .rw[Yy e,h1,Option.map_some];by_cases e2:s<j
     .rw[if_pos e2,if_pos (by omega)]
     .rw[if_neg e2,if_neg (by omega)]
   .rw[Yl (by rw[Yyh];omega),Yl (by rw[Yyd];omega)];rfl
  .have e1:(MS.map Prod.fst).set j (q.1,l').1=MS.map Prod.fst:=by
    have h9:(MS.map Prod.fst)[j]?=some q.1:=by rw[Yd,hq];rfl
    obtain⟨a,b⟩:=Ya.1 h9;show (MS.map Prod.fst).set j q.1=_;rw[<-b];exact List.set_getElem_self a
   rw[List.map_set (f:=Prod.fst),e1,List.map_set (f:=nest 67 6 Ed.cs)];exact hs
 have hMS2:MS.map Prod.snd=(List.range g.n.toNat).map (srtS g.es):=by
  rw[hMS];apply List.map_congr_left;intro s hs;rw[List.mem_range] at hs;rw[if_pos (by omega)]
 clear hMS c1 hj;rw[Yw] at hs;refine⟨g.he,hs.rd 1 rfl (i:=6) rfl,?_⟩;refine (hg.e.rw.ext hs.ext).nbI (by omega) (by omega) fun b64 o65 x gx t=>?_;replace gx:g.es[i]?=some x:=gx;rw[hi] at gx;cases gx;refine⟨x0.b,t.nth 2 rfl,g.he,hs.rd 1 rfl (i:=6) rfl,?_⟩;refine (hg.e.rw.ext hs.ext).nbI (by omega) (by omega) fun b68 o69 x gx t2=>?_;replace gx:g.es[i]?=some x:=gx;rw[hi] at gx;cases gx;refine⟨x0.t,t2.nth 4 rfl,by omega,?_⟩;have e8:=shl8 ⟨x0.b.toNat,by omega⟩;simp only[<-hxb] at e8;rw[e8];have hok0:(⟨x0.t.toNat,2^x0.b.toNat,0⟩:Plc).ok g.n.toNat:=⟨by simp only;omega,two6 (by omega),(show 0<64 by decide)⟩;have hkk:kokL (⟨x0.t.toNat,2^x0.b.toNat,0⟩:Plc):=⟨by simp only;omega,two8 (by omega),(show 0<256 by decide)⟩;have hcs0:(⟨x0.t.toNat,2^x0.b.toNat,0⟩:Plc).cs=[.int .i64 x0.t,.int .u8 ((2^x0.b.toNat:Nat):Int),.int .u8 0]:=by unfold Plc.cs;simp only;rw[<-hxt];rfl
 refine hs.newbE fun h71 E71 hs=>⟨E71.sm,?_⟩;refine hs.put 0 rfl (o:=0) (vs:=[.int .i64 x0.t,.int .u8 ((2^x0.b.toNat:Nat):Int),.int .u8 0]) rfl (Yyt 3) fun h72 hs=>?_;refine hs.mmake 246 fun h75 E75 hs=>⟨some h72.size,rfl,?_⟩;refine⟨((x0.t.toNat:Nat):Int),((2^x0.b.toNat:Nat):Int),((0:Nat):Int),by rw[<-hxt];exact hs.at 1 rfl (o:=0) (n:=3) rfl,?_⟩;refine hs.mput (cv:=Value.bool) (l:=[]) M352 0 rfl (fun q hq=>by cases hq) .nil (a:=⟨x0.t.toNat,2^x0.b.toNat,0⟩) hkk true fun h79 hs=>?_;refine⟨((x0.t.toNat:Nat):Int),((2^x0.b.toNat:Nat):Int),((0:Nat):Int),by rw[<-hxt];exact hs.at 1 rfl (o:=0) (n:=3) rfl,?_⟩;refine hs.newb fun h83 hs=>?_;generalize hp0:(⟨x0.t.toNat,2^x0.b.toNat,0⟩:Plc)=p0 at *;have hs:=hs.blkS 1 7 ([(p0,((-1:Int),(⟨0,0,0⟩:Ac)))].map vC) (by subst hp0;rfl) (fun r hr=>by obtain⟨x,_,rfl⟩:=Yp.1 hr;rfl) rfl (by decide);have hs:=hs.nil_ 134 3;have hs:St h h83 (seaL h.size h20.size h72.size g ⟨some ⟨h79.size,0,none⟩,1,1⟩ ⟨none,0,0⟩ [(p0,((-1:Int),(⟨0,0,0⟩:Ac)))] [(p0,true)] [] MS):=by
  refine (hs.sub (.cons_cons _ (.cons_cons _ (.cons_cons _ (.cons _ (List.Sublist.refl _)))))).perm ?_;unfold seaL;rw[List.map_nil (f:=pathIt),Yw];exact List.Perm.swap _ _ _
 have hQ0:QuI g.n.toNat [(p0,[])] [(p0,((-1:Int),(⟨0,0,0⟩:Ac)))] [(p0,true)]:=by
  refine⟨rfl,fun k v q hv hq=>?_,by simp,fun q hq=>?_,fun k q hq=>?_,fun p=>by simp,fun q hq=>?_,by simp⟩
  .have:=(Ya.1 hv).1;rw[Yv] at this;obtain rfl:k=0:=by omega
   cases hv;cases hq;exact⟨rfl,.inl ⟨rfl,rfl⟩⟩
  .rw[Ye] at hq;rw[hq];exact hok0
  .have:=(Ya.1 hq).1;rw[Yv] at this;obtain rfl:k=0:=by omega
   cases hq;exact Nat.zero_le _
  .rw[Ye] at hq;rw[hq]
 have hF0:FnI g (([]:List FS).map Prod.fst):=⟨.nil,fun f hf=>(by cases hf),fun f hf=>(by cases hf)⟩;have hS0:seaS g i=seaN g.es x0.b (g.n.toNat*65536+1-0) 0 [(p0,[])] (([]:List FS).map Prod.fst):=by unfold seaS;rw[hi];simp only;rw[hp0];rfl
 refine⟨fun qu al x h' μ=>∃(hd:Nat) (Q:List Vst) (V:List Vzt) (K:List (Plc × Bool)) (F:List FS),x=(hd:Int)/\μ=g.n.toNat*4096-hd/\hd<=Q.length/\St h h' (seaL h.size h20.size h72.size g qu al V K F MS)/\QuI g.n.toNat Q V K/\FnI g (F.map Prod.fst)/\seaS g i=seaN g.es x0.b (g.n.toNat*65536+1-hd) hd Q (F.map Prod.fst),⟨_,0,_,_,_,[],rfl,rfl,Nat.zero_le _,hs,hQ0,hF0,hS0⟩,?_⟩;clear hs hQ0 hF0 hS0;rintro-qu al _ h90 μ ⟨hd,Q,V,K,F,rfl,rfl,hhd,hs,hQ,hF,hS⟩;have hle:=hQ.le;have hvn:=hQ.vn;have hn4:g.n.toNat*4096<=200*4096:=Nat.mul_le_mul_right _ (by omega);have hqun:=hs.len 0 (s:=qu) (e:=248) (n:=7) (rows:=V.map vC) rfl (by omega);rw[Yc] at hqun;refine sBi (fun c=>?_) (fun c=>?_)
 .obtain⟨q,hq⟩:=get_some (l:=Q) (i:=hd) (by omega);obtain⟨v,hv⟩:=get_some (l:=V) (i:=hd) (by omega);have hvq:=(hQ.vq hd v q hv hq).1;obtain⟨ho1,ho2,ho3⟩:=hQ.ok q (Yb hq);refine (hs.rows 0 rfl (by omega)).nbI (by omega) (by omega) fun b91 o92 v' gv t=>?_;replace gv:V[hd]?=some v':=gv;rw[hv] at gv;cases gv;refine⟨(v.1.s:Nat),(v.1.b:Nat),(v.1.d:Nat),t.sub0 3 rfl,?_⟩;rw[hvq];refine hs.newput (vs:=q.1.cs) rfl rfl fun h97 hs=>?_;refine⟨(q.1.s:Nat),hs.rd 0 rfl (i:=0) rfl,⟨by omega,by omega⟩,?_⟩;rw[show 0+Int.toNat ((q.1.s:Nat):Int)*1=q.1.s by omega];obtain⟨ms,hms⟩:=get_some (l:=MS) (i:=q.1.s) (by omega);have hms2:ms.2=srtS g.es q.1.s:=by
   have h1:=map_range_get hMS2 (s:=q.1.s) ho1;rw[Yd,hms] at h1;exact Yyp h1
  have hmsl:ms.2.length<=400:=by rw[hms2];unfold srtS;rw[srtL_len];exact Yys (List.length_filter_le _ _) hM
  have hqd0:=(Ya.1 hq).1;have hqpl:=hQ.pl hd q hq;refine⟨ms.1,hs.rd 4 rfl (by rw[Yd,Yd,hms];rfl),?_⟩;have hmem:∀ {qu al V K F},.sl ms.1 67 6 (ms.2.map Ed.cs)∈(.blk h90.size q.1.cs 245::seaL h.size h20.size h72.size g qu al V K F MS:List It):=fun {qu al V K F}=>by
   refine Yn _ ?_;unfold seaL;simp only[Yr,Yk]
   right;right;right;right;right;left
   exact Yp.2 ⟨ms,Yb hms,rfl⟩
  have hrow0:=hs.rwm (hmem) (by omega);have hrn:ms.1.n=ms.2.length:=by have:=hrow0.1;rwa [Yc] at this
  refine⟨fun qu al x h' μ=>∃(j:Nat) (Q':List Vst) (V:List Vzt) (K:List (Plc × Bool)) (F':List FS),x=(j:Int)/\μ=ms.1.n-j/\j<=ms.1.n/\St h h' (.blk h90.size q.1.cs 245::seaL h.size h20.size h72.size g qu al V K F' MS)/\QuI g.n.toNat Q' V K/\FnI g (F'.map Prod.fst)/\Q'[hd]?=some q/\(Q',F'.map Prod.fst)=((srtS g.es q.1.s).take j).foldl (seaE x0.b q.1 q.2) (Q,F.map Prod.fst),⟨_,0,Q,V,K,F,rfl,rfl,Nat.zero_le _,hs,hQ,hF,hq,rfl⟩,?_⟩;have hQ0:=hQ;clear hs hQ hF hqun hvn hle hv hrow0;rintro-qu al _ h106 μ ⟨j,Q',V,K,F',rfl,rfl,hj,hs,hQ,hF,hq',hfold⟩;have hrow:Rw h106 6 ms.1 (ms.2.map Ed.cs):=hs.rwm hmem (by omega);refine sBi (fun c2=>?_) (fun c2=>?_)
  .refine hrow.nbI (by omega) (by omega) fun b107 o108 x gx t3=>?_;replace gx:ms.2[j]?=some x:=gx;rw[hms2] at gx;have hxm:x∈g.es:=by
    have h1:=(srtL_mem _ _).1 (Yb gx);exact (List.mem_filter.1 h1).1
   refine⟨x.f,x.a,x.b,x.l,x.t,x.ag,t3,?_⟩;refine hs.newput (vs:=x.cs) rfl rfl fun h116 hs=>?_;refine⟨x.t,hs.rd 0 rfl (i:=4) rfl,(q.1.b:Nat),hs.rd 1 rfl (i:=1) rfl,(q.1.d:Nat),hs.rd 1 rfl (i:=2) rfl,?_⟩;refine hs.newput (vs:=[.int .i64 x.t,.int .u8 (q.1.b:Nat),.int .u8 (q.1.d:Nat)]) rfl rfl fun h121 hs=>?_;refine edge206 hV hxb hs hQ hq' hF hxm fun qu' al' Q2 V2 K2 F2 h' hs2 hQ2 he hk=>?_;refine⟨_,?_,j+1,Q2,V2,K2,F2,by rw[w64 (by omega) (by omega)];omega,rfl,by omega,hs2,hQ2,?_,hk hd q hq',?_⟩
   .omega
   .have hle0:=hQ0.le;have:=seaE_fni (role:=x0.b) (p:=q.1) (path:=q.2) (st:=(Q',F'.map Prod.fst)) hF hxm (by omega);rw[<-he] at this;exact this
   .rw[take_snoc gx,List.foldl_append,<-hfold,he];rfl
  .rw[Yj (by rw[<-hms2];omega)] at hfold;have hle:=hQ0.le;have hqd:=(Ya.1 hq').1;refine⟨_,?_,hd+1,Q',V,K,F',by rw[w64 (by omega) (by omega)];omega,rfl,by omega,hs.drop 1,hQ,hF,?_⟩
   .omega
   .rw[hS,show g.n.toNat*65536+1-hd=(g.n.toNat*65536+1-(hd+1))+1 by omega,seaN_step hq,<-hfold]
 .have hend:seaS g i=F.map Prod.fst:=by rw[hS,seaN_end (Yl (by omega))]
  have hfl:=hF.len;rw[Yc] at hfl;refine⟨hs.ext,al,F,rfl,hend.symm,RL.ofSt hs 1 rfl (by omega) (by omega),fun f hf=>?_,by rw[hend];exact hF,hs.sub (.cons _ (.cons_cons _ (.cons _ (.cons _ (.cons _ (List.sublist_append_right _ _))))))⟩;have hm:pathIt f∈seaL h.size h20.size h72.size g qu al V K F MS:=by
   unfold seaL;simp only[Yr,Yk]
   right;right;right;right;right;right
   exact Yp.2 ⟨f,hf,rfl⟩
  obtain⟨k,hk⟩:=Yf.1 hm;exact RL.ofSt hs k hk (by omega) (by have:=hF.pl f.1 (Yp.2 ⟨f,hf,rfl⟩);omega)
def insMs (x:Ms):List Ms->List Ms
 | []=>[x]
 | y::r=>if msLt y x then y::insMs x r else x::y::r
def srtMs (l:List Ms):List Ms:=l.foldr insMs []
theorem msLt_tr {x y z:Ms} (h1:msLt x y) (h2:msLt y z):msLt x z:=by unfold msLt at *;omega
theorem msLt_irr (x:Ms):¬msLt x x:=by unfold msLt;omega
theorem msLt_tri {x y:Ms} (h:x≠y) (h1:¬msLt y x):msLt x y:=by
 obtain⟨a,b⟩:=x;obtain⟨a',b'⟩:=y;unfold msLt at *;simp only[ne_eq,Ms.mk.injEq] at h;simp only at *;omega
theorem insMs_mem (x z:Ms):∀l:List Ms,z∈insMs x l ↔ z=x\/z∈l
 | []=>by simp[insMs]
 | y::r=>by
  unfold insMs;split
  .rw[Yr,insMs_mem x z r,Yr];constructor
   .rintro (h | h | h)
    .exact .inr (.inl h)
    .exact .inl h
    .exact .inr (.inr h)
   .rintro (h | h | h)
    .exact .inr (.inl h)
    .exact .inl h
    .exact .inr (.inr h)
  .simp
theorem insMs_sorted {x:Ms}:∀ {l:List Ms},l.Pairwise msLt->(∀y∈l,y≠x)->(insMs x l).Pairwise msLt
 | [],_,_=>by simp[insMs]
 | y::r,hl,hx=>by
  obtain⟨h1,h2⟩:=List.pairwise_cons.1 hl;unfold insMs;by_cases h:msLt y x
  .rw[if_pos h,List.pairwise_cons];refine⟨fun z hz=>?_,insMs_sorted h2 fun z hz=>hx z (Yn _ hz)⟩;rcases (insMs_mem x z r).1 hz with rfl | hz
   .exact h
   .exact h1 z hz
  .rw[if_neg h,List.pairwise_cons];have h3:msLt x y:=msLt_tri (fun e=>hx y (by simp) e.symm) h;refine⟨fun z hz=>?_,hl⟩;rcases Yr.1 hz with rfl | hz
   .exact h3
   .exact msLt_tr h3 (h1 z hz)
theorem srtMs_mem (l:List Ms) (z:Ms):z∈srtMs l ↔ z∈l:=by
 induction l with
 | nil=>simp[srtMs]
 | cons a l ih=>
  show z∈insMs a (srtMs l) ↔ _;rw[insMs_mem,ih,Yr]
theorem srtMs_sorted:∀ {l:List Ms},l.Nodup->(srtMs l).Pairwise msLt
 | [],_=>.nil
 | a::l,h=>by
  obtain⟨h1,h2⟩:=List.nodup_cons.1 h;exact insMs_sorted (srtMs_sorted h2) fun y hy e=>h1 (by rw[<-e];exact (srtMs_mem l y).1 hy)
theorem srtMs_of {l l':List Ms} (hp:l'.Perm l) (hw:l'.Pairwise fun a b=>¬msLt b a) (hd:l.Nodup):l'=srtMs l:=by
 refine sorted_uniq (R:=msLt) msLt_irr (fun a b c=>msLt_tr) _ _ ?_ (srtMs_sorted hd) fun x=>by rw[srtMs_mem];exact hp.mem_iff
 exact (hw.and (hp.nodup_iff.2 hd)).imp fun ⟨h1,h2⟩=>msLt_tri h2 h1
def earS (g:Gl) (i:Nat):List Ms:=srtMs ((seaS g i).map (·.m))
def pthS (g:Gl) (i:Nat) (m:Ms):List Ac:=((seaS g i).find? fun f=>decide (f.m=m)).elim [] (·.path)
theorem early162 (g:Gl) (i:Nat) (x0:Ed) (h:Heap) (hg:GI h g) (hx:Gm h) (hV:ValidS g) (hi:g.es[i]?=some x0) :
  Fn Pz 31 #[g.v,.int .i64 (i:Nat)] h fun v h'=>Ext h h'/\∃s:Sl,v=.tuple ⟨[.slice s.a s.n s.c,.int .i64 0]⟩/\St h h' [.sl s 72 2 ((earS g i).map Ms.cs)]/\(earS g i).length<=400:=by
 apply vc31 (bs g.nm) g.hr g.hd g.n g.s g.e g.he g.ht (i:Nat);unfold W31;have hM:=hV.num.m;refine (St.refl h).newb fun h9 hs=>?_;refine⟨_,_,_,_,_,_,_,_,hs.at 0 rfl (n:=8) rfl,?_⟩;refine (search206 g i x0 h9 (hg.ext hs.ext) (hx.ext hs.ext) hV hi).mono ?_;rintro _ h21 ⟨E,s,F,rfl,hF,hr,_,hI,_⟩;have E21:=(hs.step E).ext;have hFl:=hI.len;have hFl2:F.length=(seaS g i).length:=by rw[<-hF,Yc]
 have hsn:=hr.ln;refine⟨s,0,rfl,?_⟩;have hs:=(St.refl h21).nil_ 72 2;refine⟨fun out x h' μ=>∃j:Nat,x=j/\μ=s.n-j/\j<=s.n/\St h21 h' [.sl out 72 2 (((F.take j).map (·.1.m)).map Ms.cs)],⟨_,0,rfl,rfl,Nat.zero_le _,hs⟩,?_⟩;clear hs;rintro-out _ h27 μ ⟨j,rfl,rfl,hj,hs⟩;have hon:=hs.len 0 (s:=out) (e:=72) (n:=2) rfl (by omega);rw[Yc,Yc,Yu] at hon;refine sBi (fun c=>?_) (fun c=>?_)
 .refine (hr.ext hs.ext).rw.nbI (by omega) (by omega) fun b28 o29 f gf t=>?_;replace gf:F[j]?=some f:=gf;refine⟨f.1.m.p,f.1.m.l,f.2,t,?_⟩;refine hs.newput (vs:=fnC f) rfl rfl fun h34 hs=>?_;refine⟨f.1.m.p,f.1.m.l,hs.at 0 rfl (o:=0) (n:=2) rfl,?_⟩;refine hs.app 1 rfl app261 (m:=1) [f.1.m.cs] rfl rfl (fun r hr=>by rw[Ye] at hr;rw[hr];rfl) rfl (by omega) (by simp only[maxLen];omega) fun s38 h39 n38 hs=>?_;refine⟨_,by omega,j+1,by rw[w64 (by omega) (by omega)];omega,rfl,by omega,?_⟩;rw[take_snoc gf,Ym,Ym];exact hs.drop 1
 .rw[Yj (by omega)] at hs;have hms:F.map (·.1.m)=(seaS g i).map (·.m):=by rw[<-hF,List.map_map];rfl
  rw[hms] at hs;have hlm:((seaS g i).map (·.m)).length<=400:=by rw[Yc];omega
  refine (sort207 hs 0 rfl (by omega)).mono ?_;rintro _ h42 ⟨rfl,l',hp,hw,hs⟩;have hl':l'=earS g i:=srtMs_of hp hw hI.nd;refine⟨rfl,E21.trans hs.ext,out,rfl,?_⟩;rw[<-hl'];exact⟨((St.refl h).step E21).join hs,by rw[hp.length_eq];exact hlm⟩
theorem path163 (g:Gl) (i:Nat) (x0:Ed) (m:Ms) (h:Heap) (hg:GI h g) (hx:Gm h) (hV:ValidS g) (hi:g.es[i]?=some x0) (hm:m∈earS g i) :
  Fn Pz 32 #[g.v,.int .i64 (i:Nat),.agg ⟨m.cs⟩] h fun v h'=>Ext h h'/\∃s:Sl,v=.tuple ⟨[.slice s.a s.n s.c,.int .i64 0]⟩/\St h h' [.sl s 65 3 ((pthS g i m).map Ac.cs)]/\(pthS g i m).length<=1000000:=by
 apply vc32 (bs g.nm) g.hr g.hd g.n g.s g.e g.he g.ht (i:Nat) m.p m.l;unfold W32;have hM:=hV.num.m;refine (St.refl h).newb fun h11 hs=>?_;refine hs.newb fun h12 hs=>?_;refine⟨_,_,_,_,_,_,_,_,hs.at 1 rfl (n:=8) rfl,?_⟩;refine (search206 g i x0 h12 (hg.ext hs.ext) (hx.ext hs.ext) hV hi).mono ?_;rintro _ h24 ⟨E,s,F,rfl,hF,hr,hp,hI,hso⟩;have hs0:=hs;replace hs:=hs.step E;have hFl:=hI.len;have hFl2:F.length=(seaS g i).length:=by rw[<-hF,Yc]
 have hsn:=hr.ln;refine⟨s,0,rfl,sBn (fun c=>absurd rfl c) (fun _=>?_)⟩;refine (index209 72 cal210 F m h11.size s h24 hr.rw (hs.at 0 rfl (o:=0) (n:=2) rfl) (by omega) fun q h hc=>same210 q m h11.size h hc).mono ?_;rintro _ h27 ⟨rfl,E2⟩;refine⟨_,rfl,?_⟩;have hin:∃f∈F,f.1.m=m:=by
  have h1:=(srtMs_mem _ _).1 hm;rw[<-hF] at h1;obtain⟨f,h2,h3⟩:=Yp.1 h1;obtain⟨q,h4,rfl⟩:=Yp.1 h2;exact⟨q,h4,h3⟩
 unfold ixI;cases hf:F.findIdx? fun q=>decide (q.1.m=m) with
 | none=>
  rw[List.findIdx?_eq_none_iff] at hf;obtain⟨f,h1,h2⟩:=hin;have:=hf f h1;rw[decide_eq_true h2] at this;cases this
 | some k=>
  obtain⟨h1,h2,_⟩:=List.findIdx?_eq_some_iff_getElem.1 hf;simp only;refine sBi (fun c=>by omega) (fun _=>?_);refine (hr.ext E2).rw.nbI (by omega) (by omega) fun b28 o29 f gf t=>?_;replace gf:F[k]?=some f:=gf;have hfm:f.1.m=m:=by
   rw[Yi h1] at gf;rw[<-Yyp gf];exact Yyn h2
  have hfF:=Yb gf;have hpe:pthS g i m=f.1.path:=by
   have hmem:f.1∈seaS g i:=by rw[<-hF];exact Yp.2 ⟨f,hfF,rfl⟩
   unfold pthS;cases hq:(seaS g i).find? fun f=>decide (f.m=m) with
   | none=>have:=List.find?_eq_none.1 hq f.1 hmem;rw[decide_eq_true hfm] at this;exact absurd rfl this
   | some f'=>
    have h3:=List.mem_of_find?_eq_some hq;have h4:f'.m=m:=by have:=List.find?_some hq;exact Yyn this
    show f'.path=f.1.path;obtain⟨a,ha⟩:=Yf.1 h3;obtain⟨b,hb⟩:=Yf.1 hmem;have h5:((seaS g i).map (·.m))[a]?=some m:=by rw[Yd,ha,<-h4];rfl
    have h6:((seaS g i).map (·.m))[b]?=some m:=by rw[Yd,hb,<-hfm];rfl
    have h7:=nodup_ix hI.nd h5 h6;subst h7;rw[ha] at hb;cases hb;rfl
  refine⟨f.2,t.nth 2 rfl,(hs.ext.trans E2),f.2,rfl,?_⟩;rw[hpe];refine⟨(hs0.sub (List.nil_sublist _)).join ((hso.step E2).sub (List.singleton_sublist.2 (Yn _ (Yp.2 ⟨f,hfF,rfl⟩)))),hI.pl f.1 (by rw[<-hF];exact Yp.2 ⟨f,hfF,rfl⟩)⟩
end Go.VC
end

section
namespace Go.VC
open Go.Proofs
/- farandole/realize.analyse
   loop rrrrrlrb: x_161:Int
   loop rrrrlrb: x_120:Int
   loop rrrlrb: x_45:Int
   loop rrrrrlrb: x_296:Int
   loop rrrrlrb: x_255:Int
   loop rrrlrb: x_180:Int
   loop rrrrrlrb: x_432:Int
   loop rrrrlrb: x_391:Int
   loop rrrlrb: x_316:Int
   loop rrrrrlrb: x_567:Int
   loop rrrrlrb: x_526:Int
   loop rrrlrb: x_451:Int
   loop rrrrrlrb: x_703:Int
   loop rrrrlrb: x_662:Int
   loop rrrlrb: x_587:Int
   loop rrrrrlrb: x_838:Int
   loop rrrrlrb: x_797:Int
   loop rrrlrb: x_722:Int
   loop rrrrrlrb: x_975:Int
   loop rrrrlrb: x_934:Int
   loop rrrlrb: x_859:Int
   loop rrrrrlrb: x_1110:Int
   loop rrrrlrb: x_1069:Int
   loop rrrlrb: x_994:Int
   loop rrrrrlrb: x_1246:Int
   loop rrrrlrb: x_1205:Int
   loop rrrlrb: x_1130:Int
   loop rrrrrlrb: x_1381:Int
   loop rrrrlrb: x_1340:Int
   loop rrrlrb: x_1265:Int
   loop rrrrrlrb: x_1517:Int
   loop rrrrlrb: x_1476:Int
   loop rrrlrb: x_1401:Int
   loop rrrrrlrb: x_1652:Int
   loop rrrrlrb: x_1611:Int
   loop rrrlrb: x_1536:Int
   loop rrrrrlrb: x_1789:Int
   loop rrrrlrb: x_1748:Int
   loop rrrlrb: x_1673:Int
   loop rrrrrlrb: x_1924:Int
   loop rrrrlrb: x_1883:Int
   loop rrrlrb: x_1808:Int
   loop rrrrrlrb: x_2060:Int
   loop rrrrlrb: x_2019:Int
   loop rrrlrb: x_1944:Int
   loop rrrrrlrb: x_2195:Int
   loop rrrrlrb: x_2154:Int
   loop rrrlrb: x_2079:Int
   loop rrrrrlrb: x_2331:Int
   loop rrrrlrb: x_2290:Int
   loop rrrlrb: x_2215:Int
   loop rrrrrlrb: x_2466:Int
   loop rrrrlrb: x_2425:Int
   loop rrrlrb: x_2350:Int
   loop rrrrrlrb: x_2603:Int
   loop rrrrlrb: x_2562:Int
   loop rrrlrb: x_2487:Int
   loop rrrrrlrb: x_2738:Int
   loop rrrrlrb: x_2697:Int
   loop rrrlrb: x_2622:Int
   loop rrrrrlrb: x_2874:Int
   loop rrrrlrb: x_2833:Int
   loop rrrlrb: x_2758:Int
   loop rrrrrlrb: x_3009:Int
   loop rrrrlrb: x_2968:Int
   loop rrrlrb: x_2893:Int
   loop rrrrrlrb: x_3145:Int
   loop rrrrlrb: x_3104:Int
   loop rrrlrb: x_3029:Int
   loop rrrrrlrb: x_3280:Int
   loop rrrrlrb: x_3239:Int
   loop rrrlrb: x_3164:Int
   loop rrrrrlrb: x_3418:Int
   loop rrrrlrb: x_3377:Int
   loop rrrlrb: x_3302:Int
   loop rrrrrlrb: x_3553:Int
   loop rrrrlrb: x_3512:Int
   loop rrrlrb: x_3437:Int
   loop rrrrrlrb: x_3689:Int
   loop rrrrlrb: x_3648:Int
   loop rrrlrb: x_3573:Int
   loop rrrrrlrb: x_3824:Int
   loop rrrrlrb: x_3783:Int
   loop rrrlrb: x_3708:Int
   loop rrrrrlrb: x_3960:Int
   loop rrrrlrb: x_3919:Int
   loop rrrlrb: x_3844:Int
   loop rrrrrlrb: x_4095:Int
   loop rrrrlrb: x_4054:Int
   loop rrrlrb: x_3979:Int
   loop rrrrrlrb: x_4232:Int
   loop rrrrlrb: x_4191:Int
   loop rrrlrb: x_4116:Int
   loop rrrrrlrb: x_4367:Int
   loop rrrrlrb: x_4326:Int
   loop rrrlrb: x_4251:Int
   loop rrrrrlrb: x_4503:Int
   loop rrrrlrb: x_4462:Int
   loop rrrlrb: x_4387:Int
   loop rrrrrlrb: x_4638:Int
   loop rrrrlrb: x_4597:Int
   loop rrrlrb: x_4522:Int
   loop rrrrrlrb: x_4774:Int
   loop rrrrlrb: x_4733:Int
   loop rrrlrb: x_4658:Int
   loop rrrrrlrb: x_4909:Int
   loop rrrrlrb: x_4868:Int
   loop rrrlrb: x_4793:Int
   loop rrrrrlrb: x_5046:Int
   loop rrrrlrb: x_5005:Int
   loop rrrlrb: x_4930:Int
   loop rrrrrlrb: x_5181:Int
   loop rrrrlrb: x_5140:Int
   loop rrrlrb: x_5065:Int
   loop rrrrrlrb: x_5317:Int
   loop rrrrlrb: x_5276:Int
   loop rrrlrb: x_5201:Int
   loop rrrrrlrb: x_5452:Int
   loop rrrrlrb: x_5411:Int
   loop rrrlrb: x_5336:Int
   loop rrrrrlrb: x_5588:Int
   loop rrrrlrb: x_5547:Int
   loop rrrlrb: x_5472:Int
   loop rrrrrlrb: x_5723:Int
   loop rrrrlrb: x_5682:Int
   loop rrrlrb: x_5607:Int
   loop rrrrrlrb: x_5860:Int
   loop rrrrlrb: x_5819:Int
   loop rrrlrb: x_5744:Int
   loop rrrrrlrb: x_5995:Int
   loop rrrrlrb: x_5954:Int
   loop rrrlrb: x_5879:Int
   loop rrrrrlrb: x_6131:Int
   loop rrrrlrb: x_6090:Int
   loop rrrlrb: x_6015:Int
   loop rrrrrlrb: x_6266:Int
   loop rrrrlrb: x_6225:Int
   loop rrrlrb: x_6150:Int
   loop rrrrrlrb: x_6402:Int
   loop rrrrlrb: x_6361:Int
   loop rrrlrb: x_6286:Int
   loop rrrrrlrb: x_6537:Int
   loop rrrrlrb: x_6496:Int
   loop rrrlrb: x_6421:Int
   loop rrrrrlrb: x_6675:Int
   loop rrrrlrb: x_6634:Int
   loop rrrlrb: x_6559:Int
   loop rrrrrlrb: x_6810:Int
   loop rrrrlrb: x_6769:Int
   loop rrrlrb: x_6694:Int
   loop rrrrrlrb: x_6946:Int
   loop rrrrlrb: x_6905:Int
   loop rrrlrb: x_6830:Int
   loop rrrrrlrb: x_7081:Int
   loop rrrrlrb: x_7040:Int
   loop rrrlrb: x_6965:Int
   loop rrrrrlrb: x_7217:Int
   loop rrrrlrb: x_7176:Int
   loop rrrlrb: x_7101:Int
   loop rrrrrlrb: x_7352:Int
   loop rrrrlrb: x_7311:Int
   loop rrrlrb: x_7236:Int
   loop rrrrrlrb: x_7489:Int
   loop rrrrlrb: x_7448:Int
   loop rrrlrb: x_7373:Int
   loop rrrrrlrb: x_7624:Int
   loop rrrrlrb: x_7583:Int
   loop rrrlrb: x_7508:Int
   loop rrrrrlrb: x_7760:Int
   loop rrrrlrb: x_7719:Int
   loop rrrlrb: x_7644:Int
   loop rrrrrlrb: x_7895:Int
   loop rrrrlrb: x_7854:Int
   loop rrrlrb: x_7779:Int
   loop rrrrrlrb: x_8031:Int
   loop rrrrlrb: x_7990:Int
   loop rrrlrb: x_7915:Int
   loop rrrrrlrb: x_8166:Int
   loop rrrrlrb: x_8125:Int
   loop rrrlrb: x_8050:Int
   loop rrrrrlrb: x_8303:Int
   loop rrrrlrb: x_8262:Int
   loop rrrlrb: x_8187:Int
   loop rrrrrlrb: x_8438:Int
   loop rrrrlrb: x_8397:Int
   loop rrrlrb: x_8322:Int
   loop rrrrrlrb: x_8574:Int
   loop rrrrlrb: x_8533:Int
   loop rrrlrb: x_8458:Int
   loop rrrrrlrb: x_8709:Int
   loop rrrrlrb: x_8668:Int
   loop rrrlrb: x_8593:Int
   loop rrrrrlrb: x_8845:Int
   loop rrrrlrb: x_8804:Int
   loop rrrlrb: x_8729:Int
   loop rrrrrlrb: x_8980:Int
   loop rrrrlrb: x_8939:Int
   loop rrrlrb: x_8864:Int
   loop rrrrrlrb: x_9117:Int
   loop rrrrlrb: x_9076:Int
   loop rrrlrb: x_9001:Int
   loop rrrrrlrb: x_9252:Int
   loop rrrrlrb: x_9211:Int
   loop rrrlrb: x_9136:Int
   loop rrrrrlrb: x_9388:Int
   loop rrrrlrb: x_9347:Int
   loop rrrlrb: x_9272:Int
   loop rrrrrlrb: x_9523:Int
   loop rrrrlrb: x_9482:Int
   loop rrrlrb: x_9407:Int
   loop rrrrrlrb: x_9659:Int
   loop rrrrlrb: x_9618:Int
   loop rrrlrb: x_9543:Int
   loop rrrrrlrb: x_9794:Int
   loop rrrrlrb: x_9753:Int
   loop rrrlrb: x_9678:Int
   loop rrrrrlrb: x_9932:Int
   loop rrrrlrb: x_9891:Int
   loop rrrlrb: x_9816:Int
   loop rrrrrlrb: x_10067:Int
   loop rrrrlrb: x_10026:Int
   loop rrrlrb: x_9951:Int
   loop rrrrrlrb: x_10203:Int
   loop rrrrlrb: x_10162:Int
   loop rrrlrb: x_10087:Int
   loop rrrrrlrb: x_10338:Int
   loop rrrrlrb: x_10297:Int
   loop rrrlrb: x_10222:Int
   loop rrrrrlrb: x_10474:Int
   loop rrrrlrb: x_10433:Int
   loop rrrlrb: x_10358:Int
   loop rrrrrlrb: x_10609:Int
   loop rrrrlrb: x_10568:Int
   loop rrrlrb: x_10493:Int
   loop rrrrrlrb: x_10746:Int
   loop rrrrlrb: x_10705:Int
   loop rrrlrb: x_10630:Int
   loop rrrrrlrb: x_10881:Int
   loop rrrrlrb: x_10840:Int
   loop rrrlrb: x_10765:Int
   loop rrrrrlrb: x_11017:Int
   loop rrrrlrb: x_10976:Int
   loop rrrlrb: x_10901:Int
   loop rrrrrlrb: x_11152:Int
   loop rrrrlrb: x_11111:Int
   loop rrrlrb: x_11036:Int
   loop rrrrrlrb: x_11288:Int
   loop rrrrlrb: x_11247:Int
   loop rrrlrb: x_11172:Int
   loop rrrrrlrb: x_11423:Int
   loop rrrrlrb: x_11382:Int
   loop rrrlrb: x_11307:Int
   loop rrrrrlrb: x_11560:Int
   loop rrrrlrb: x_11519:Int
   loop rrrlrb: x_11444:Int
   loop rrrrrlrb: x_11695:Int
   loop rrrrlrb: x_11654:Int
   loop rrrlrb: x_11579:Int
   loop rrrrrlrb: x_11831:Int
   loop rrrrlrb: x_11790:Int
   loop rrrlrb: x_11715:Int
   loop rrrrrlrb: x_11966:Int
   loop rrrrlrb: x_11925:Int
   loop rrrlrb: x_11850:Int
   loop rrrrrlrb: x_12102:Int
   loop rrrrlrb: x_12061:Int
   loop rrrlrb: x_11986:Int
   loop rrrrrlrb: x_12237:Int
   loop rrrrlrb: x_12196:Int
   loop rrrlrb: x_12121:Int
   loop rrrrrlrb: x_12374:Int
   loop rrrrlrb: x_12333:Int
   loop rrrlrb: x_12258:Int
   loop rrrrrlrb: x_12509:Int
   loop rrrrlrb: x_12468:Int
   loop rrrlrb: x_12393:Int
   loop rrrrrlrb: x_12645:Int
   loop rrrrlrb: x_12604:Int
   loop rrrlrb: x_12529:Int
   loop rrrrrlrb: x_12780:Int
   loop rrrrlrb: x_12739:Int
   loop rrrlrb: x_12664:Int
   loop rrrrrlrb: x_12916:Int
   loop rrrrlrb: x_12875:Int
   loop rrrlrb: x_12800:Int
   loop rrrrrlrb: x_13051:Int
   loop rrrrlrb: x_13010:Int
   loop rrrlrb: x_12935:Int
   loop rrrrrlrb: x_13189:Int
   loop rrrrlrb: x_13148:Int
   loop rrrlrb: x_13073:Int
   loop rrrrrlrb: x_13324:Int
   loop rrrrlrb: x_13283:Int
   loop rrrlrb: x_13208:Int
   loop rrrrrlrb: x_13460:Int
   loop rrrrlrb: x_13419:Int
   loop rrrlrb: x_13344:Int
   loop rrrrrlrb: x_13595:Int
   loop rrrrlrb: x_13554:Int
   loop rrrlrb: x_13479:Int
   loop rrrrrlrb: x_13731:Int
   loop rrrrlrb: x_13690:Int
   loop rrrlrb: x_13615:Int
   loop rrrrrlrb: x_13866:Int
   loop rrrrlrb: x_13825:Int
   loop rrrlrb: x_13750:Int
   loop rrrrrlrb: x_14003:Int
   loop rrrrlrb: x_13962:Int
   loop rrrlrb: x_13887:Int
   loop rrrrrlrb: x_14138:Int
   loop rrrrlrb: x_14097:Int
   loop rrrlrb: x_14022:Int
   loop rrrrrlrb: x_14274:Int
   loop rrrrlrb: x_14233:Int
   loop rrrlrb: x_14158:Int
   loop rrrrrlrb: x_14409:Int
   loop rrrrlrb: x_14368:Int
   loop rrrlrb: x_14293:Int
   loop rrrrrlrb: x_14545:Int
   loop rrrrlrb: x_14504:Int
   loop rrrlrb: x_14429:Int
   loop rrrrrlrb: x_14680:Int
   loop rrrrlrb: x_14639:Int
   loop rrrlrb: x_14564:Int
   loop rrrrrlrb: x_14817:Int
   loop rrrrlrb: x_14776:Int
   loop rrrlrb: x_14701:Int
   loop rrrrrlrb: x_14952:Int
   loop rrrrlrb: x_14911:Int
   loop rrrlrb: x_14836:Int
   loop rrrrrlrb: x_15088:Int
   loop rrrrlrb: x_15047:Int
   loop rrrlrb: x_14972:Int
   loop rrrrrlrb: x_15223:Int
   loop rrrrlrb: x_15182:Int
   loop rrrlrb: x_15107:Int
   loop rrrrrlrb: x_15359:Int
   loop rrrrlrb: x_15318:Int
   loop rrrlrb: x_15243:Int
   loop rrrrrlrb: x_15494:Int
   loop rrrrlrb: x_15453:Int
   loop rrrlrb: x_15378:Int
   loop rrrrrlrb: x_15631:Int
   loop rrrrlrb: x_15590:Int
   loop rrrlrb: x_15515:Int
   loop rrrrrlrb: x_15766:Int
   loop rrrrlrb: x_15725:Int
   loop rrrlrb: x_15650:Int
   loop rrrrrlrb: x_15902:Int
   loop rrrrlrb: x_15861:Int
   loop rrrlrb: x_15786:Int
   loop rrrrrlrb: x_16037:Int
   loop rrrrlrb: x_15996:Int
   loop rrrlrb: x_15921:Int
   loop rrrrrlrb: x_16173:Int
   loop rrrrlrb: x_16132:Int
   loop rrrlrb: x_16057:Int
   loop rrrrrlrb: x_16308:Int
   loop rrrrlrb: x_16267:Int
   loop rrrlrb: x_16192:Int -/
def V49za (h79 h39 h46:Heap) (m44:Nat) (I42:Int->Heap->Nat->Prop) (x_45 p1:Int):Prop:=
 (∃x80:Sl,hc h79 ⟨h39.size,13,none⟩=some (.slice x80.a x80.n x80.c)/\(∃x81:Int,hc h79 ⟨h46.size,0,none⟩=some (.int .i64 x81)/\(∃x82:Sl,hc h79 ⟨h39.size,13,none⟩=some (.slice x82.a x82.n x82.c)/\(∃x83:Int,hc h79 ⟨h46.size,0,none⟩=some (.int .i64 x83)/\(NB x82.a fun b84 o85=>((0<=(x83:Int)/\(x83:Int)<(x82.n:Nat))/\(∃x86:Bool,hc h79 ⟨b84,o85+Int.toNat x83*1,none⟩=some (.bool x86)/\(sB x86 ((NB x80.a fun b87 o88=>((0<=(x81:Int)/\(x81:Int)<(x80.n:Nat))/\(okAt h79 ⟨b87,o88+Int.toNat x81*1,none⟩ 1/\∀h89:Heap,h89=hputs h79 ⟨b87,o88+Int.toNat x81*1,none⟩ 0 [.bool true]->(∃m90,m90<m44/\I42 (IntKind.wrap .i64 (x_45+1)) h89 m90))))) ((∃x91:Int,hc h79 ⟨h46.size,1,none⟩=some (.int .i64 x91)/\(NB x80.a fun b92 o93=>((0<=(x81:Int)/\(x81:Int)<(x80.n:Nat))/\(okAt h79 ⟨b92,o93+Int.toNat x81*1,none⟩ 1/\∀h94:Heap,h94=hputs h79 ⟨b92,o93+Int.toNat x81*1,none⟩ 0 [.bool (x91==p1)]->(∃m95,m95<m44/\I42 (IntKind.wrap .i64 (x_45+1)) h94 m95))))))))))))))
def V49a (h39:Heap) (x22:ByteArray) (x23 x24:Sl) (x25 x26 x27:Int) (x28 x29:Sl) (p1:Int) (h20:Heap) (x30:Int) (h35:Heap) (x31:Int) (h36:Heap) (x32:Int) (h37:Heap) (x33:Int) (h38:Heap) (x34:Int) (h:Heap) (R:Value->Heap->Prop):Prop:=
 (Wn h39 [.string x22,vS x23,vS x24,vI x25,vI x26,vI x27,vS x28,vS x29,vI p1,.slice (some (aS h20 0)) (Int.toNat x30) (Int.toNat x30),.slice none 0 0,.slice (some (aS h35 0)) (Int.toNat x31) (Int.toNat x31),.slice (some (aS h36 0)) (Int.toNat x32) (Int.toNat x32),.slice (some (aS h37 0)) (Int.toNat x33) (Int.toNat x33),.slice (some (aS h38 0)) (Int.toNat x34) (Int.toNat x34)] 186 fun h40=>(∃x41,rS h40 (aS h 6) x41/\(QI 0 h40 fun I42 x_45 h46 m44=>((sB (decide (x_45<(x41.n:Int))) ((NB x41.a fun b47 o48=>(Ib x_45 x41.n/\(∃x49:Int,∃x50:Int,∃x51:Int,∃x52:Int,∃x53:Int,∃x54:Bool,atC h46 ⟨b47,o48+Int.toNat x_45*6,none⟩ [vI x49,vI x50,vI x51,vI x52,vI x53,.bool x54]/\(Wn h46 [vI 0,vI 0,vI 0,vI 0,vI 0,.bool false] 67 fun h55=>(Wp h55 (aS h46 0) 6 [vI x49,vI x50,vI x51,vI x52,vI x53,.bool x54] fun h56=>(∃x57,rS h56 (aS h39 9) x57/\(∃x58,rI h56 (aS h46 0) x58/\(∃x59,rS h56 (aS h39 9) x59/\(∃x60,rI h56 (aS h46 0) x60/\(NB x59.a fun b61 o62=>(Ib x60 x59.n/\(∃x63,rS h56 ⟨b61,o62+Int.toNat x60*1,none⟩ x63/\(Wn h56 [vI x_45] 3 fun h64=>(Sm [⟨b61,o62+Int.toNat x60*1,none⟩,(aS h46 0),(aS h39 9),(aS h46 0),(aS h39 9)] h56 h64/\(App Pz 102 102 (vS x63) (.slice (some (aS h56 0)) 1 1) h64 fun s65 h66=>(Sm [(aS h46 0),(aS h39 9)] h64 h66/\(NB x57.a fun b67 o68=>(Ib x58 x57.n/\(Wp h66 ⟨b67,o68+Int.toNat x58*1,none⟩ 1 [vS s65] fun h69=>(∃x70,rS h69 (aS h39 12) x70/\(∃x71,rI h69 (aS h46 0) x71/\(∃x72,rS h69 (aS h39 12) x72/\(∃x73,rI h69 (aS h46 0) x73/\(NB x72.a fun b74 o75=>(Ib x73 x72.n/\(∃x76,rB h69 ⟨b74,o75+Int.toNat x73*1,none⟩ x76/\(sB x76 ((NB x70.a fun b77 o78=>(Ib x71 x70.n/\(Wp h69 ⟨b77,o78+Int.toNat x71*1,none⟩ 1 [.bool true] fun h79=>(V49za h79 h39 h46 m44 I42 x_45 p1))))) ((∃x96,rB h69 (aS h46 5) x96/\(NB x70.a fun b97 o98=>(Ib x71 x70.n/\(Wp h69 ⟨b97,o98+Int.toNat x71*1,none⟩ 1 [.bool x96] fun h99=>(V49za h99 h39 h46 m44 I42 x_45 p1)))))))))))))))))))))))))))))))))) ((∃x116,rS h46 (aS h 7) x116/\(QI 0 h46 fun I117 x_120 h121 m119=>((sB (decide (x_120<(x116.n:Int))) ((NB x116.a fun b122 o123=>(Ib x_120 x116.n/\(∃x124:Int,∃x125:Int,∃x126:Int,atC h121 ⟨b122,o123+Int.toNat x_120*3,none⟩ [vI x124,vI x125,vI x126]/\(Wn h121 [vI 0,vI 0,vI 0] 149 fun h127=>(Wp h127 (aS h121 0) 3 [vI x124,vI x125,vI x126] fun h128=>(∃x129,rS h128 (aS h 6) x129/\(∃x130,rI h128 (aS h121 2) x130/\(NB x129.a fun b131 o132=>(Ib x130 x129.n/\(∃x133:Int,∃x134:Int,∃x135:Int,∃x136:Int,∃x137:Int,∃x138:Bool,atC h128 ⟨b131,o132+Int.toNat x130*6,none⟩ [vI x133,vI x134,vI x135,vI x136,vI x137,.bool x138]/\(Fn Pz 106 #[.pointer (some (aS h39 0)),.agg ⟨[vI x133,vI x134,vI x135,vI x136,vI x137,.bool x138]⟩] h128 (fun v139 h144=>∃x140:Bool,∃x141:Int,∃x142:Int,∃x143:Bool,v139=.tuple ⟨[.agg ⟨[.bool x140,vI x141,vI x142]⟩,.bool x143]⟩/\(Wn h144 [.bool false,vI 0,vI 0] 188 fun h145=>(Wp h145 (aS h144 0) 3 [.bool x140,vI x141,vI x142] fun h146=>(∃x147,rS h146 (aS h39 11) x147/\(∃x148,rI h146 (aS h121 0) x148/\(∃x149,rI h146 (aS h121 1) x149/\(∃x150:Bool,∃x151:Int,∃x152:Int,atC h146 (aS h144 0) [.bool x150,vI x151,vI x152]/\(NB x147.a fun b153 o154=>(Ib x148 x147.n/\(Wp h146 ⟨b153,o154+Int.toNat x148*4,none⟩ 4 [vI x149,.bool x150,vI x151,vI x152] fun h155=>(∃m156,m156<m119/\I117 (IntKind.wrap .i64 (x_120+1)) h155 m156))))))))))))))))))))))) ((∃x157,rI h121 (aS h 3) x157/\(QI 0 h121 fun I158 x_161 h162 m160=>((sB (decide (x_161<x157)) ((∃x163,rS h162 (aS h39 10) x163/\(Fn Pz 107 #[.pointer (some (aS h39 0)),vI x_161] h162 (fun v164 h167=>∃x165:Sl,∃x166:Bool,v164=.agg ⟨[vS x165,.bool x166]⟩/\(Sm [(aS h39 10)] h162 h167/\(Wn h167 [vS x165,.bool x166] 195 fun h168=>(Sm [(aS h39 10)] h167 h168/\(App Pz 184 184 (vS x163) (.slice (some (aS h167 0)) 1 1) h168 fun s169 h170=>(Wp h170 (aS h39 10) 1 [vS s169] fun h171=>(∃m172,m172<m160/\I158 (IntKind.wrap .i64 (x_161+1)) h171 m172)))))))))) (R (.tuple ⟨[.pointer (some (aS h39 0)),vI 0]⟩) h162))))))))))))))))
def V49e (x32:Int) (h444 h:Heap) (x22:ByteArray) (x23 x24:Sl) (x25 x26 x27:Int) (x28 x29:Sl) (p1:Int) (h20:Heap) (x30:Int) (h35:Heap) (x31:Int) (h36:Heap) (x33:Int) (h308:Heap) (x34:Int) (R:Value->Heap->Prop):Prop:=
 (((0:Int)<=x32/\(x32:Int)<=x32/\((1:Nat):Int)*x32<=140737488355328)/\∀h445:Heap,h445=h444.push (.cells ⟨madeL Pz 4 (Int.toNat x32)⟩ 4)->(Sm [⟨h.size,3,none⟩,⟨h.size,3,none⟩,⟨h.size,3,none⟩,⟨h.size,3,none⟩,⟨h.size,0,none⟩] h444 h445/\(V49a h445 x22 x23 x24 x25 x26 x27 x28 x29 p1 h20 x30 h35 x31 h444 x32 h36 x33 h308 x34 h R)))
def V49j (x31:Int) (h2207 h:Heap) (x32:Int) (x22:ByteArray) (x23 x24:Sl) (x25 x26 x27:Int) (x28 x29:Sl) (p1:Int) (h20:Heap) (x30:Int) (h35:Heap) (x33:Int) (h1664:Heap) (x34:Int) (R:Value->Heap->Prop):Prop:=
 ((((0:Int)<=x31/\(x31:Int)<=x31/\((32:Nat):Int)*x31<=140737488355328)/\∀h2208:Heap,h2208=h2207.push (.cells ⟨madeL Pz 192 (Int.toNat x31)⟩ 192)->(Sm [⟨h.size,3,none⟩,⟨h.size,3,none⟩,⟨h.size,3,none⟩,⟨h.size,3,none⟩,⟨h.size,0,none⟩] h2207 h2208/\(V49e x32 h2208 h x22 x23 x24 x25 x26 x27 x28 x29 p1 h20 x30 h2207 x31 h35 x33 h1664 x34 R))))
def V49b (x31:Int) (h1258 h:Heap) (x22:ByteArray) (x23 x24:Sl) (x25 x26 x27:Int) (x28 x29:Sl) (p1:Int) (h20:Heap) (x30:Int) (h35:Heap) (x32:Int) (h850:Heap) (x33:Int) (h1122:Heap) (x34:Int) (R:Value->Heap->Prop):Prop:=
 (((0:Int)<=x31/\(x31:Int)<=x31/\((32:Nat):Int)*x31<=140737488355328)/\∀h1259:Heap,h1259=h1258.push (.cells ⟨madeL Pz 192 (Int.toNat x31)⟩ 192)->(Sm [⟨h.size,3,none⟩,⟨h.size,3,none⟩,⟨h.size,3,none⟩,⟨h.size,3,none⟩,⟨h.size,0,none⟩] h1258 h1259/\(V49a h1259 x22 x23 x24 x25 x26 x27 x28 x29 p1 h20 x30 h1258 x31 h35 x32 h850 x33 h1122 x34 h R)))
def V49s (x32:Int) (h2207 h:Heap) (x31:Int) (x22:ByteArray) (x23 x24:Sl) (x25 x26 x27:Int) (x28 x29:Sl) (p1:Int) (h20:Heap) (x30:Int) (h35:Heap) (x33:Int) (h1664:Heap) (x34:Int) (R:Value->Heap->Prop):Prop:=
 ((((0:Int)<=x32/\(x32:Int)<=x32/\((1:Nat):Int)*x32<=140737488355328)/\∀h2343:Heap,h2343=h2207.push (.cells ⟨madeL Pz 4 (Int.toNat x32)⟩ 4)->(Sm [⟨h.size,3,none⟩,⟨h.size,3,none⟩,⟨h.size,3,none⟩,⟨h.size,3,none⟩,⟨h.size,0,none⟩] h2207 h2343/\(V49b x31 h2343 h x22 x23 x24 x25 x26 x27 x28 x29 p1 h20 x30 h2207 x32 h35 x33 h1664 x34 R))))
def V49zb (x30:Int) (h12249 h:Heap) (x31 x32:Int) (x22:ByteArray) (x23 x24:Sl) (x25 x26 x27:Int) (x28 x29:Sl) (p1:Int) (h20:Heap) (x33:Int) (h9806:Heap) (x34:Int) (R:Value->Heap->Prop):Prop:=
 ((((0:Int)<=x30/\(x30:Int)<=x30/\((24:Nat):Int)*x30<=140737488355328)/\∀h12250:Heap,h12250=h12249.push (.cells ⟨madeL Pz 102 (Int.toNat x30)⟩ 102)->(Sm [⟨h.size,3,none⟩,⟨h.size,3,none⟩,⟨h.size,3,none⟩,⟨h.size,3,none⟩,⟨h.size,0,none⟩] h12249 h12250/\(V49j x31 h12250 h x32 x22 x23 x24 x25 x26 x27 x28 x29 p1 h12249 x30 h20 x33 h9806 x34 R)/\(V49s x32 h12250 h x31 x22 x23 x24 x25 x26 x27 x28 x29 p1 h12249 x30 h20 x33 h9806 x34 R))))
def V49n (x30:Int) (h5464 h:Heap) (x32:Int) (x22:ByteArray) (x23 x24:Sl) (x25 x26 x27:Int) (x28 x29:Sl) (p1:Int) (h20:Heap) (x31:Int) (h3292:Heap) (x33:Int) (h4921:Heap) (x34:Int) (R:Value->Heap->Prop):Prop:=
 ((((0:Int)<=x30/\(x30:Int)<=x30/\((24:Nat):Int)*x30<=140737488355328)/\∀h5465:Heap,h5465=h5464.push (.cells ⟨madeL Pz 102 (Int.toNat x30)⟩ 102)->(Sm [⟨h.size,3,none⟩,⟨h.size,3,none⟩,⟨h.size,3,none⟩,⟨h.size,3,none⟩,⟨h.size,0,none⟩] h5464 h5465/\(V49e x32 h5465 h x22 x23 x24 x25 x26 x27 x28 x29 p1 h5464 x30 h20 x31 h3292 x33 h4921 x34 R))))
def V49c (x30:Int) (h4515 h:Heap) (x22:ByteArray) (x23 x24:Sl) (x25 x26 x27:Int) (x28 x29:Sl) (p1:Int) (h20:Heap) (x31:Int) (h3292:Heap) (x32:Int) (h4107:Heap) (x33:Int) (h4379:Heap) (x34:Int) (R:Value->Heap->Prop):Prop:=
 (((0:Int)<=x30/\(x30:Int)<=x30/\((24:Nat):Int)*x30<=140737488355328)/\∀h4516:Heap,h4516=h4515.push (.cells ⟨madeL Pz 102 (Int.toNat x30)⟩ 102)->(Sm [⟨h.size,3,none⟩,⟨h.size,3,none⟩,⟨h.size,3,none⟩,⟨h.size,3,none⟩,⟨h.size,0,none⟩] h4515 h4516/\(V49a h4516 x22 x23 x24 x25 x26 x27 x28 x29 p1 h4515 x30 h20 x31 h3292 x32 h4107 x33 h4379 x34 h R)))
def V49u (x32:Int) (h5464 h:Heap) (x30:Int) (x22:ByteArray) (x23 x24:Sl) (x25 x26 x27:Int) (x28 x29:Sl) (p1:Int) (h20:Heap) (x31:Int) (h3292:Heap) (x33:Int) (h4921:Heap) (x34:Int) (R:Value->Heap->Prop):Prop:=
 ((((0:Int)<=x32/\(x32:Int)<=x32/\((1:Nat):Int)*x32<=140737488355328)/\∀h5600:Heap,h5600=h5464.push (.cells ⟨madeL Pz 4 (Int.toNat x32)⟩ 4)->(Sm [⟨h.size,3,none⟩,⟨h.size,3,none⟩,⟨h.size,3,none⟩,⟨h.size,3,none⟩,⟨h.size,0,none⟩] h5464 h5600/\(V49c x30 h5600 h x22 x23 x24 x25 x26 x27 x28 x29 p1 h20 x31 h5464 x32 h3292 x33 h4921 x34 R))))
def V49zc (x31:Int) (h12249 h:Heap) (x30 x32:Int) (x22:ByteArray) (x23 x24:Sl) (x25 x26 x27:Int) (x28 x29:Sl) (p1:Int) (h20:Heap) (x33:Int) (h9806:Heap) (x34:Int) (R:Value->Heap->Prop):Prop:=
 ((((0:Int)<=x31/\(x31:Int)<=x31/\((32:Nat):Int)*x31<=140737488355328)/\∀h12521:Heap,h12521=h12249.push (.cells ⟨madeL Pz 192 (Int.toNat x31)⟩ 192)->(Sm [⟨h.size,3,none⟩,⟨h.size,3,none⟩,⟨h.size,3,none⟩,⟨h.size,3,none⟩,⟨h.size,0,none⟩] h12249 h12521/\(V49n x30 h12521 h x32 x22 x23 x24 x25 x26 x27 x28 x29 p1 h12249 x31 h20 x33 h9806 x34 R)/\(V49u x32 h12521 h x30 x22 x23 x24 x25 x26 x27 x28 x29 p1 h12249 x31 h20 x33 h9806 x34 R))))
def V49r (x34:Int) (h308 h:Heap) (x32:Int) (x22:ByteArray) (x23 x24:Sl) (x25 x26 x27:Int) (x28 x29:Sl) (p1:Int) (h20:Heap) (x30:Int) (h35:Heap) (x31:Int) (h36:Heap) (x33:Int) (R:Value->Heap->Prop):Prop:=
 ((((0:Int)<=x34/\(x34:Int)<=x34/\((24:Nat):Int)*x34<=140737488355328)/\∀h444:Heap,h444=h308.push (.cells ⟨madeL Pz 274 (Int.toNat x34)⟩ 274)->(Sm [⟨h.size,3,none⟩,⟨h.size,3,none⟩,⟨h.size,3,none⟩,⟨h.size,3,none⟩,⟨h.size,0,none⟩] h308 h444/\(V49e x32 h444 h x22 x23 x24 x25 x26 x27 x28 x29 p1 h20 x30 h35 x31 h36 x33 h308 x34 R))))
def V49f (x34:Int) (h38 h:Heap) (x22:ByteArray) (x23 x24:Sl) (x25 x26 x27:Int) (x28 x29:Sl) (p1:Int) (h20:Heap) (x30:Int) (h35:Heap) (x31:Int) (h36:Heap) (x32:Int) (h37:Heap) (x33:Int) (R:Value->Heap->Prop):Prop:=
 (((0:Int)<=x34/\(x34:Int)<=x34/\((24:Nat):Int)*x34<=140737488355328)/\∀h39:Heap,h39=h38.push (.cells ⟨madeL Pz 274 (Int.toNat x34)⟩ 274)->(Sm [⟨h.size,3,none⟩,⟨h.size,3,none⟩,⟨h.size,3,none⟩,⟨h.size,3,none⟩,⟨h.size,0,none⟩] h38 h39/\(V49a h39 x22 x23 x24 x25 x26 x27 x28 x29 p1 h20 x30 h35 x31 h36 x32 h37 x33 h38 x34 h R)))
def V49w (x32:Int) (h308 h:Heap) (x34:Int) (x22:ByteArray) (x23 x24:Sl) (x25 x26 x27:Int) (x28 x29:Sl) (p1:Int) (h20:Heap) (x30:Int) (h35:Heap) (x31:Int) (h36:Heap) (x33:Int) (R:Value->Heap->Prop):Prop:=
 ((((0:Int)<=x32/\(x32:Int)<=x32/\((1:Nat):Int)*x32<=140737488355328)/\∀h309:Heap,h309=h308.push (.cells ⟨madeL Pz 4 (Int.toNat x32)⟩ 4)->(Sm [⟨h.size,3,none⟩,⟨h.size,3,none⟩,⟨h.size,3,none⟩,⟨h.size,3,none⟩,⟨h.size,0,none⟩] h308 h309/\(V49f x34 h309 h x22 x23 x24 x25 x26 x27 x28 x29 p1 h20 x30 h35 x31 h308 x32 h36 x33 R))))
def V49zd (x31:Int) (h1664 h:Heap) (x32 x34:Int) (x22:ByteArray) (x23 x24:Sl) (x25 x26 x27:Int) (x28 x29:Sl) (p1:Int) (h20:Heap) (x30:Int) (h35:Heap) (x33:Int) (R:Value->Heap->Prop):Prop:=
 ((((0:Int)<=x31/\(x31:Int)<=x31/\((32:Nat):Int)*x31<=140737488355328)/\∀h1665:Heap,h1665=h1664.push (.cells ⟨madeL Pz 192 (Int.toNat x31)⟩ 192)->(Sm [⟨h.size,3,none⟩,⟨h.size,3,none⟩,⟨h.size,3,none⟩,⟨h.size,3,none⟩,⟨h.size,0,none⟩] h1664 h1665/\(V49w x32 h1665 h x34 x22 x23 x24 x25 x26 x27 x28 x29 p1 h20 x30 h1664 x31 h35 x33 R)/\(V49r x34 h1665 h x32 x22 x23 x24 x25 x26 x27 x28 x29 p1 h20 x30 h1664 x31 h35 x33 R))))
def V49ze (x34:Int) (h1664 h:Heap) (x31 x32:Int) (x22:ByteArray) (x23 x24:Sl) (x25 x26 x27:Int) (x28 x29:Sl) (p1:Int) (h20:Heap) (x30:Int) (h35:Heap) (x33:Int) (R:Value->Heap->Prop):Prop:=
 ((((0:Int)<=x34/\(x34:Int)<=x34/\((24:Nat):Int)*x34<=140737488355328)/\∀h2207:Heap,h2207=h1664.push (.cells ⟨madeL Pz 274 (Int.toNat x34)⟩ 274)->(Sm [⟨h.size,3,none⟩,⟨h.size,3,none⟩,⟨h.size,3,none⟩,⟨h.size,3,none⟩,⟨h.size,0,none⟩] h1664 h2207/\(V49j x31 h2207 h x32 x22 x23 x24 x25 x26 x27 x28 x29 p1 h20 x30 h35 x33 h1664 x34 R)/\(V49s x32 h2207 h x31 x22 x23 x24 x25 x26 x27 x28 x29 p1 h20 x30 h35 x33 h1664 x34 R))))
def V49d (x33:Int) (h173 h:Heap) (x22:ByteArray) (x23 x24:Sl) (x25 x26 x27:Int) (x28 x29:Sl) (p1:Int) (h20:Heap) (x30:Int) (h35:Heap) (x31:Int) (h36:Heap) (x32:Int) (h37:Heap) (x34:Int) (R:Value->Heap->Prop):Prop:=
 (((0:Int)<=x33/\(x33:Int)<=x33/\((1:Nat):Int)*x33<=140737488355328)/\∀h174:Heap,h174=h173.push (.cells ⟨madeL Pz 4 (Int.toNat x33)⟩ 4)->(Sm [⟨h.size,3,none⟩,⟨h.size,3,none⟩,⟨h.size,3,none⟩,⟨h.size,3,none⟩,⟨h.size,0,none⟩] h173 h174/\(V49a h174 x22 x23 x24 x25 x26 x27 x28 x29 p1 h20 x30 h35 x31 h36 x32 h173 x33 h37 x34 h R)))
def V49x (x32:Int) (h579 h:Heap) (x33:Int) (x22:ByteArray) (x23 x24:Sl) (x25 x26 x27:Int) (x28 x29:Sl) (p1:Int) (h20:Heap) (x30:Int) (h35:Heap) (x31:Int) (h36:Heap) (x34:Int) (R:Value->Heap->Prop):Prop:=
 ((((0:Int)<=x32/\(x32:Int)<=x32/\((1:Nat):Int)*x32<=140737488355328)/\∀h580:Heap,h580=h579.push (.cells ⟨madeL Pz 4 (Int.toNat x32)⟩ 4)->(Sm [⟨h.size,3,none⟩,⟨h.size,3,none⟩,⟨h.size,3,none⟩,⟨h.size,3,none⟩,⟨h.size,0,none⟩] h579 h580/\(V49d x33 h580 h x22 x23 x24 x25 x26 x27 x28 x29 p1 h20 x30 h35 x31 h579 x32 h36 x34 R))))
def V49y (x33:Int) (h579 h:Heap) (x32:Int) (x22:ByteArray) (x23 x24:Sl) (x25 x26 x27:Int) (x28 x29:Sl) (p1:Int) (h20:Heap) (x30:Int) (h35:Heap) (x31:Int) (h36:Heap) (x34:Int) (R:Value->Heap->Prop):Prop:=
 ((((0:Int)<=x33/\(x33:Int)<=x33/\((1:Nat):Int)*x33<=140737488355328)/\∀h715:Heap,h715=h579.push (.cells ⟨madeL Pz 4 (Int.toNat x33)⟩ 4)->(Sm [⟨h.size,3,none⟩,⟨h.size,3,none⟩,⟨h.size,3,none⟩,⟨h.size,3,none⟩,⟨h.size,0,none⟩] h579 h715/\(V49e x32 h715 h x22 x23 x24 x25 x26 x27 x28 x29 p1 h20 x30 h35 x31 h579 x33 h36 x34 R))))
def V49zf (x31:Int) (h2478 h:Heap) (x32 x33:Int) (x22:ByteArray) (x23 x24:Sl) (x25 x26 x27:Int) (x28 x29:Sl) (p1:Int) (h20:Heap) (x30:Int) (h35:Heap) (x34:Int) (R:Value->Heap->Prop):Prop:=
 ((((0:Int)<=x31/\(x31:Int)<=x31/\((32:Nat):Int)*x31<=140737488355328)/\∀h2479:Heap,h2479=h2478.push (.cells ⟨madeL Pz 192 (Int.toNat x31)⟩ 192)->(Sm [⟨h.size,3,none⟩,⟨h.size,3,none⟩,⟨h.size,3,none⟩,⟨h.size,3,none⟩,⟨h.size,0,none⟩] h2478 h2479/\(V49x x32 h2479 h x33 x22 x23 x24 x25 x26 x27 x28 x29 p1 h20 x30 h2478 x31 h35 x34 R)/\(V49y x33 h2479 h x32 x22 x23 x24 x25 x26 x27 x28 x29 p1 h20 x30 h2478 x31 h35 x34 R))))
def V49i (x31:Int) (h1393 h:Heap) (x33:Int) (x22:ByteArray) (x23 x24:Sl) (x25 x26 x27:Int) (x28 x29:Sl) (p1:Int) (h20:Heap) (x30:Int) (h35:Heap) (x32:Int) (h850:Heap) (x34:Int) (R:Value->Heap->Prop):Prop:=
 ((((0:Int)<=x31/\(x31:Int)<=x31/\((32:Nat):Int)*x31<=140737488355328)/\∀h1394:Heap,h1394=h1393.push (.cells ⟨madeL Pz 192 (Int.toNat x31)⟩ 192)->(Sm [⟨h.size,3,none⟩,⟨h.size,3,none⟩,⟨h.size,3,none⟩,⟨h.size,3,none⟩,⟨h.size,0,none⟩] h1393 h1394/\(V49d x33 h1394 h x22 x23 x24 x25 x26 x27 x28 x29 p1 h20 x30 h1393 x31 h35 x32 h850 x34 R))))
def V49q (x33:Int) (h1393 h:Heap) (x31:Int) (x22:ByteArray) (x23 x24:Sl) (x25 x26 x27:Int) (x28 x29:Sl) (p1:Int) (h20:Heap) (x30:Int) (h35:Heap) (x32:Int) (h850:Heap) (x34:Int) (R:Value->Heap->Prop):Prop:=
 ((((0:Int)<=x33/\(x33:Int)<=x33/\((1:Nat):Int)*x33<=140737488355328)/\∀h1529:Heap,h1529=h1393.push (.cells ⟨madeL Pz 4 (Int.toNat x33)⟩ 4)->(Sm [⟨h.size,3,none⟩,⟨h.size,3,none⟩,⟨h.size,3,none⟩,⟨h.size,3,none⟩,⟨h.size,0,none⟩] h1393 h1529/\(V49b x31 h1529 h x22 x23 x24 x25 x26 x27 x28 x29 p1 h20 x30 h35 x32 h1393 x33 h850 x34 R))))
def V49zg (x34:Int) (h850 h:Heap) (x31 x33:Int) (x22:ByteArray) (x23 x24:Sl) (x25 x26 x27:Int) (x28 x29:Sl) (p1:Int) (h20:Heap) (x30:Int) (h35:Heap) (x32:Int) (R:Value->Heap->Prop):Prop:=
 ((((0:Int)<=x34/\(x34:Int)<=x34/\((24:Nat):Int)*x34<=140737488355328)/\∀h1393:Heap,h1393=h850.push (.cells ⟨madeL Pz 274 (Int.toNat x34)⟩ 274)->(Sm [⟨h.size,3,none⟩,⟨h.size,3,none⟩,⟨h.size,3,none⟩,⟨h.size,3,none⟩,⟨h.size,0,none⟩] h850 h1393/\(V49i x31 h1393 h x33 x22 x23 x24 x25 x26 x27 x28 x29 p1 h20 x30 h35 x32 h850 x34 R)/\(V49q x33 h1393 h x31 x22 x23 x24 x25 x26 x27 x28 x29 p1 h20 x30 h35 x32 h850 x34 R))))
def V49o (x30:Int) (h8721 h:Heap) (x31:Int) (x22:ByteArray) (x23 x24:Sl) (x25 x26 x27:Int) (x28 x29:Sl) (p1:Int) (h20:Heap) (x32:Int) (h6549:Heap) (x33:Int) (h8178:Heap) (x34:Int) (R:Value->Heap->Prop):Prop:=
 ((((0:Int)<=x30/\(x30:Int)<=x30/\((24:Nat):Int)*x30<=140737488355328)/\∀h8722:Heap,h8722=h8721.push (.cells ⟨madeL Pz 102 (Int.toNat x30)⟩ 102)->(Sm [⟨h.size,3,none⟩,⟨h.size,3,none⟩,⟨h.size,3,none⟩,⟨h.size,3,none⟩,⟨h.size,0,none⟩] h8721 h8722/\(V49b x31 h8722 h x22 x23 x24 x25 x26 x27 x28 x29 p1 h8721 x30 h20 x32 h6549 x33 h8178 x34 R))))
def V49p (x31:Int) (h8721 h:Heap) (x30:Int) (x22:ByteArray) (x23 x24:Sl) (x25 x26 x27:Int) (x28 x29:Sl) (p1:Int) (h20:Heap) (x32:Int) (h6549:Heap) (x33:Int) (h8178:Heap) (x34:Int) (R:Value->Heap->Prop):Prop:=
 ((((0:Int)<=x31/\(x31:Int)<=x31/\((32:Nat):Int)*x31<=140737488355328)/\∀h8857:Heap,h8857=h8721.push (.cells ⟨madeL Pz 192 (Int.toNat x31)⟩ 192)->(Sm [⟨h.size,3,none⟩,⟨h.size,3,none⟩,⟨h.size,3,none⟩,⟨h.size,3,none⟩,⟨h.size,0,none⟩] h8721 h8857/\(V49c x30 h8857 h x22 x23 x24 x25 x26 x27 x28 x29 p1 h8721 x31 h20 x32 h6549 x33 h8178 x34 R))))
def V49zh (x32:Int) (h12249 h:Heap) (x30 x31:Int) (x22:ByteArray) (x23 x24:Sl) (x25 x26 x27:Int) (x28 x29:Sl) (p1:Int) (h20:Heap) (x33:Int) (h9806:Heap) (x34:Int) (R:Value->Heap->Prop):Prop:=
 ((((0:Int)<=x32/\(x32:Int)<=x32/\((1:Nat):Int)*x32<=140737488355328)/\∀h12792:Heap,h12792=h12249.push (.cells ⟨madeL Pz 4 (Int.toNat x32)⟩ 4)->(Sm [⟨h.size,3,none⟩,⟨h.size,3,none⟩,⟨h.size,3,none⟩,⟨h.size,3,none⟩,⟨h.size,0,none⟩] h12249 h12792/\(V49o x30 h12792 h x31 x22 x23 x24 x25 x26 x27 x28 x29 p1 h12249 x32 h20 x33 h9806 x34 R)/\(V49p x31 h12792 h x30 x22 x23 x24 x25 x26 x27 x28 x29 p1 h12249 x32 h20 x33 h9806 x34 R))))
def V49v (x34:Int) (h37 h:Heap) (x33:Int) (x22:ByteArray) (x23 x24:Sl) (x25 x26 x27:Int) (x28 x29:Sl) (p1:Int) (h20:Heap) (x30:Int) (h35:Heap) (x31:Int) (h36:Heap) (x32:Int) (R:Value->Heap->Prop):Prop:=
 ((((0:Int)<=x34/\(x34:Int)<=x34/\((24:Nat):Int)*x34<=140737488355328)/\∀h173:Heap,h173=h37.push (.cells ⟨madeL Pz 274 (Int.toNat x34)⟩ 274)->(Sm [⟨h.size,3,none⟩,⟨h.size,3,none⟩,⟨h.size,3,none⟩,⟨h.size,3,none⟩,⟨h.size,0,none⟩] h37 h173/\(V49d x33 h173 h x22 x23 x24 x25 x26 x27 x28 x29 p1 h20 x30 h35 x31 h36 x32 h37 x34 R))))
def V49z (x33:Int) (h37 h:Heap) (x34:Int) (x22:ByteArray) (x23 x24:Sl) (x25 x26 x27:Int) (x28 x29:Sl) (p1:Int) (h20:Heap) (x30:Int) (h35:Heap) (x31:Int) (h36:Heap) (x32:Int) (R:Value->Heap->Prop):Prop:=
 ((((0:Int)<=x33/\(x33:Int)<=x33/\((1:Nat):Int)*x33<=140737488355328)/\∀h38:Heap,h38=h37.push (.cells ⟨madeL Pz 4 (Int.toNat x33)⟩ 4)->(Sm [⟨h.size,3,none⟩,⟨h.size,3,none⟩,⟨h.size,3,none⟩,⟨h.size,3,none⟩,⟨h.size,0,none⟩] h37 h38/\(V49f x34 h38 h x22 x23 x24 x25 x26 x27 x28 x29 p1 h20 x30 h35 x31 h36 x32 h37 x33 R))))
def V49zi (x30:Int) (h4107 h:Heap) (x33 x34:Int) (x22:ByteArray) (x23 x24:Sl) (x25 x26 x27:Int) (x28 x29:Sl) (p1:Int) (h20:Heap) (x31:Int) (h3292:Heap) (x32:Int) (R:Value->Heap->Prop):Prop:=
 ((((0:Int)<=x30/\(x30:Int)<=x30/\((24:Nat):Int)*x30<=140737488355328)/\∀h4108:Heap,h4108=h4107.push (.cells ⟨madeL Pz 102 (Int.toNat x30)⟩ 102)->(Sm [⟨h.size,3,none⟩,⟨h.size,3,none⟩,⟨h.size,3,none⟩,⟨h.size,3,none⟩,⟨h.size,0,none⟩] h4107 h4108/\(V49z x33 h4108 h x34 x22 x23 x24 x25 x26 x27 x28 x29 p1 h4107 x30 h20 x31 h3292 x32 R)/\(V49v x34 h4108 h x33 x22 x23 x24 x25 x26 x27 x28 x29 p1 h4107 x30 h20 x31 h3292 x32 R))))
def V49m (x30:Int) (h4650 h:Heap) (x33:Int) (x22:ByteArray) (x23 x24:Sl) (x25 x26 x27:Int) (x28 x29:Sl) (p1:Int) (h20:Heap) (x31:Int) (h3292:Heap) (x32:Int) (h4107:Heap) (x34:Int) (R:Value->Heap->Prop):Prop:=
 ((((0:Int)<=x30/\(x30:Int)<=x30/\((24:Nat):Int)*x30<=140737488355328)/\∀h4651:Heap,h4651=h4650.push (.cells ⟨madeL Pz 102 (Int.toNat x30)⟩ 102)->(Sm [⟨h.size,3,none⟩,⟨h.size,3,none⟩,⟨h.size,3,none⟩,⟨h.size,3,none⟩,⟨h.size,0,none⟩] h4650 h4651/\(V49d x33 h4651 h x22 x23 x24 x25 x26 x27 x28 x29 p1 h4650 x30 h20 x31 h3292 x32 h4107 x34 R))))
def V49t (x33:Int) (h4650 h:Heap) (x30:Int) (x22:ByteArray) (x23 x24:Sl) (x25 x26 x27:Int) (x28 x29:Sl) (p1:Int) (h20:Heap) (x31:Int) (h3292:Heap) (x32:Int) (h4107:Heap) (x34:Int) (R:Value->Heap->Prop):Prop:=
 ((((0:Int)<=x33/\(x33:Int)<=x33/\((1:Nat):Int)*x33<=140737488355328)/\∀h4786:Heap,h4786=h4650.push (.cells ⟨madeL Pz 4 (Int.toNat x33)⟩ 4)->(Sm [⟨h.size,3,none⟩,⟨h.size,3,none⟩,⟨h.size,3,none⟩,⟨h.size,3,none⟩,⟨h.size,0,none⟩] h4650 h4786/\(V49c x30 h4786 h x22 x23 x24 x25 x26 x27 x28 x29 p1 h20 x31 h3292 x32 h4650 x33 h4107 x34 R))))
def V49zj (x34:Int) (h4107 h:Heap) (x30 x33:Int) (x22:ByteArray) (x23 x24:Sl) (x25 x26 x27:Int) (x28 x29:Sl) (p1:Int) (h20:Heap) (x31:Int) (h3292:Heap) (x32:Int) (R:Value->Heap->Prop):Prop:=
 ((((0:Int)<=x34/\(x34:Int)<=x34/\((24:Nat):Int)*x34<=140737488355328)/\∀h4650:Heap,h4650=h4107.push (.cells ⟨madeL Pz 274 (Int.toNat x34)⟩ 274)->(Sm [⟨h.size,3,none⟩,⟨h.size,3,none⟩,⟨h.size,3,none⟩,⟨h.size,3,none⟩,⟨h.size,0,none⟩] h4107 h4650/\(V49m x30 h4650 h x33 x22 x23 x24 x25 x26 x27 x28 x29 p1 h20 x31 h3292 x32 h4107 x34 R)/\(V49t x33 h4650 h x30 x22 x23 x24 x25 x26 x27 x28 x29 p1 h20 x31 h3292 x32 h4107 x34 R))))
def V49zk (x30:Int) (h4921 h:Heap) (x32 x34:Int) (x22:ByteArray) (x23 x24:Sl) (x25 x26 x27:Int) (x28 x29:Sl) (p1:Int) (h20:Heap) (x31:Int) (h3292:Heap) (x33:Int) (R:Value->Heap->Prop):Prop:=
 ((((0:Int)<=x30/\(x30:Int)<=x30/\((24:Nat):Int)*x30<=140737488355328)/\∀h4922:Heap,h4922=h4921.push (.cells ⟨madeL Pz 102 (Int.toNat x30)⟩ 102)->(Sm [⟨h.size,3,none⟩,⟨h.size,3,none⟩,⟨h.size,3,none⟩,⟨h.size,3,none⟩,⟨h.size,0,none⟩] h4921 h4922/\(V49w x32 h4922 h x34 x22 x23 x24 x25 x26 x27 x28 x29 p1 h4921 x30 h20 x31 h3292 x33 R)/\(V49r x34 h4922 h x32 x22 x23 x24 x25 x26 x27 x28 x29 p1 h4921 x30 h20 x31 h3292 x33 R))))
def V49zl (x34:Int) (h4921 h:Heap) (x30 x32:Int) (x22:ByteArray) (x23 x24:Sl) (x25 x26 x27:Int) (x28 x29:Sl) (p1:Int) (h20:Heap) (x31:Int) (h3292:Heap) (x33:Int) (R:Value->Heap->Prop):Prop:=
 ((((0:Int)<=x34/\(x34:Int)<=x34/\((24:Nat):Int)*x34<=140737488355328)/\∀h5464:Heap,h5464=h4921.push (.cells ⟨madeL Pz 274 (Int.toNat x34)⟩ 274)->(Sm [⟨h.size,3,none⟩,⟨h.size,3,none⟩,⟨h.size,3,none⟩,⟨h.size,3,none⟩,⟨h.size,0,none⟩] h4921 h5464/\(V49n x30 h5464 h x32 x22 x23 x24 x25 x26 x27 x28 x29 p1 h20 x31 h3292 x33 h4921 x34 R)/\(V49u x32 h5464 h x30 x22 x23 x24 x25 x26 x27 x28 x29 p1 h20 x31 h3292 x33 h4921 x34 R))))
def V49zm (x30:Int) (h5735 h:Heap) (x32 x33:Int) (x22:ByteArray) (x23 x24:Sl) (x25 x26 x27:Int) (x28 x29:Sl) (p1:Int) (h20:Heap) (x31:Int) (h3292:Heap) (x34:Int) (R:Value->Heap->Prop):Prop:=
 ((((0:Int)<=x30/\(x30:Int)<=x30/\((24:Nat):Int)*x30<=140737488355328)/\∀h5736:Heap,h5736=h5735.push (.cells ⟨madeL Pz 102 (Int.toNat x30)⟩ 102)->(Sm [⟨h.size,3,none⟩,⟨h.size,3,none⟩,⟨h.size,3,none⟩,⟨h.size,3,none⟩,⟨h.size,0,none⟩] h5735 h5736/\(V49x x32 h5736 h x33 x22 x23 x24 x25 x26 x27 x28 x29 p1 h5735 x30 h20 x31 h3292 x34 R)/\(V49y x33 h5736 h x32 x22 x23 x24 x25 x26 x27 x28 x29 p1 h5735 x30 h20 x31 h3292 x34 R))))
def V49g (x31:Int) (h1122 h:Heap) (x34:Int) (x22:ByteArray) (x23 x24:Sl) (x25 x26 x27:Int) (x28 x29:Sl) (p1:Int) (h20:Heap) (x30:Int) (h35:Heap) (x32:Int) (h850:Heap) (x33:Int) (R:Value->Heap->Prop):Prop:=
 ((((0:Int)<=x31/\(x31:Int)<=x31/\((32:Nat):Int)*x31<=140737488355328)/\∀h1123:Heap,h1123=h1122.push (.cells ⟨madeL Pz 192 (Int.toNat x31)⟩ 192)->(Sm [⟨h.size,3,none⟩,⟨h.size,3,none⟩,⟨h.size,3,none⟩,⟨h.size,3,none⟩,⟨h.size,0,none⟩] h1122 h1123/\(V49f x34 h1123 h x22 x23 x24 x25 x26 x27 x28 x29 p1 h20 x30 h1122 x31 h35 x32 h850 x33 R))))
def V49h (x34:Int) (h1122 h:Heap) (x31:Int) (x22:ByteArray) (x23 x24:Sl) (x25 x26 x27:Int) (x28 x29:Sl) (p1:Int) (h20:Heap) (x30:Int) (h35:Heap) (x32:Int) (h850:Heap) (x33:Int) (R:Value->Heap->Prop):Prop:=
 ((((0:Int)<=x34/\(x34:Int)<=x34/\((24:Nat):Int)*x34<=140737488355328)/\∀h1258:Heap,h1258=h1122.push (.cells ⟨madeL Pz 274 (Int.toNat x34)⟩ 274)->(Sm [⟨h.size,3,none⟩,⟨h.size,3,none⟩,⟨h.size,3,none⟩,⟨h.size,3,none⟩,⟨h.size,0,none⟩] h1122 h1258/\(V49b x31 h1258 h x22 x23 x24 x25 x26 x27 x28 x29 p1 h20 x30 h35 x32 h850 x33 h1122 x34 R))))
def V49zn (x30:Int) (h8178 h:Heap) (x31 x34:Int) (x22:ByteArray) (x23 x24:Sl) (x25 x26 x27:Int) (x28 x29:Sl) (p1:Int) (h20:Heap) (x32:Int) (h6549:Heap) (x33:Int) (R:Value->Heap->Prop):Prop:=
 ((((0:Int)<=x30/\(x30:Int)<=x30/\((24:Nat):Int)*x30<=140737488355328)/\∀h8179:Heap,h8179=h8178.push (.cells ⟨madeL Pz 102 (Int.toNat x30)⟩ 102)->(Sm [⟨h.size,3,none⟩,⟨h.size,3,none⟩,⟨h.size,3,none⟩,⟨h.size,3,none⟩,⟨h.size,0,none⟩] h8178 h8179/\(V49g x31 h8179 h x34 x22 x23 x24 x25 x26 x27 x28 x29 p1 h8178 x30 h20 x32 h6549 x33 R)/\(V49h x34 h8179 h x31 x22 x23 x24 x25 x26 x27 x28 x29 p1 h8178 x30 h20 x32 h6549 x33 R))))
def V49k (x30:Int) (h4379 h:Heap) (x34:Int) (x22:ByteArray) (x23 x24:Sl) (x25 x26 x27:Int) (x28 x29:Sl) (p1:Int) (h20:Heap) (x31:Int) (h3292:Heap) (x32:Int) (h4107:Heap) (x33:Int) (R:Value->Heap->Prop):Prop:=
 ((((0:Int)<=x30/\(x30:Int)<=x30/\((24:Nat):Int)*x30<=140737488355328)/\∀h4380:Heap,h4380=h4379.push (.cells ⟨madeL Pz 102 (Int.toNat x30)⟩ 102)->(Sm [⟨h.size,3,none⟩,⟨h.size,3,none⟩,⟨h.size,3,none⟩,⟨h.size,3,none⟩,⟨h.size,0,none⟩] h4379 h4380/\(V49f x34 h4380 h x22 x23 x24 x25 x26 x27 x28 x29 p1 h4379 x30 h20 x31 h3292 x32 h4107 x33 R))))
def V49l (x34:Int) (h4379 h:Heap) (x30:Int) (x22:ByteArray) (x23 x24:Sl) (x25 x26 x27:Int) (x28 x29:Sl) (p1:Int) (h20:Heap) (x31:Int) (h3292:Heap) (x32:Int) (h4107:Heap) (x33:Int) (R:Value->Heap->Prop):Prop:=
 ((((0:Int)<=x34/\(x34:Int)<=x34/\((24:Nat):Int)*x34<=140737488355328)/\∀h4515:Heap,h4515=h4379.push (.cells ⟨madeL Pz 274 (Int.toNat x34)⟩ 274)->(Sm [⟨h.size,3,none⟩,⟨h.size,3,none⟩,⟨h.size,3,none⟩,⟨h.size,3,none⟩,⟨h.size,0,none⟩] h4379 h4515/\(V49c x30 h4515 h x22 x23 x24 x25 x26 x27 x28 x29 p1 h20 x31 h3292 x32 h4107 x33 h4379 x34 R))))
def V49zo (x31:Int) (h8178 h:Heap) (x30 x34:Int) (x22:ByteArray) (x23 x24:Sl) (x25 x26 x27:Int) (x28 x29:Sl) (p1:Int) (h20:Heap) (x32:Int) (h6549:Heap) (x33:Int) (R:Value->Heap->Prop):Prop:=
 ((((0:Int)<=x31/\(x31:Int)<=x31/\((32:Nat):Int)*x31<=140737488355328)/\∀h8450:Heap,h8450=h8178.push (.cells ⟨madeL Pz 192 (Int.toNat x31)⟩ 192)->(Sm [⟨h.size,3,none⟩,⟨h.size,3,none⟩,⟨h.size,3,none⟩,⟨h.size,3,none⟩,⟨h.size,0,none⟩] h8178 h8450/\(V49k x30 h8450 h x34 x22 x23 x24 x25 x26 x27 x28 x29 p1 h8178 x31 h20 x32 h6549 x33 R)/\(V49l x34 h8450 h x30 x22 x23 x24 x25 x26 x27 x28 x29 p1 h8178 x31 h20 x32 h6549 x33 R))))
def V49zp (x34:Int) (h8178 h:Heap) (x30 x31:Int) (x22:ByteArray) (x23 x24:Sl) (x25 x26 x27:Int) (x28 x29:Sl) (p1:Int) (h20:Heap) (x32:Int) (h6549:Heap) (x33:Int) (R:Value->Heap->Prop):Prop:=
 ((((0:Int)<=x34/\(x34:Int)<=x34/\((24:Nat):Int)*x34<=140737488355328)/\∀h8721:Heap,h8721=h8178.push (.cells ⟨madeL Pz 274 (Int.toNat x34)⟩ 274)->(Sm [⟨h.size,3,none⟩,⟨h.size,3,none⟩,⟨h.size,3,none⟩,⟨h.size,3,none⟩,⟨h.size,0,none⟩] h8178 h8721/\(V49o x30 h8721 h x31 x22 x23 x24 x25 x26 x27 x28 x29 p1 h20 x32 h6549 x33 h8178 x34 R)/\(V49p x31 h8721 h x30 x22 x23 x24 x25 x26 x27 x28 x29 p1 h20 x32 h6549 x33 h8178 x34 R))))
def V49zq (x30:Int) (h8992 h:Heap) (x31 x33:Int) (x22:ByteArray) (x23 x24:Sl) (x25 x26 x27:Int) (x28 x29:Sl) (p1:Int) (h20:Heap) (x32:Int) (h6549:Heap) (x34:Int) (R:Value->Heap->Prop):Prop:=
 ((((0:Int)<=x30/\(x30:Int)<=x30/\((24:Nat):Int)*x30<=140737488355328)/\∀h8993:Heap,h8993=h8992.push (.cells ⟨madeL Pz 102 (Int.toNat x30)⟩ 102)->(Sm [⟨h.size,3,none⟩,⟨h.size,3,none⟩,⟨h.size,3,none⟩,⟨h.size,3,none⟩,⟨h.size,0,none⟩] h8992 h8993/\(V49i x31 h8993 h x33 x22 x23 x24 x25 x26 x27 x28 x29 p1 h8992 x30 h20 x32 h6549 x34 R)/\(V49q x33 h8993 h x31 x22 x23 x24 x25 x26 x27 x28 x29 p1 h8992 x30 h20 x32 h6549 x34 R))))
def V49zr (x31:Int) (h8992 h:Heap) (x30 x33:Int) (x22:ByteArray) (x23 x24:Sl) (x25 x26 x27:Int) (x28 x29:Sl) (p1:Int) (h20:Heap) (x32:Int) (h6549:Heap) (x34:Int) (R:Value->Heap->Prop):Prop:=
 ((((0:Int)<=x31/\(x31:Int)<=x31/\((32:Nat):Int)*x31<=140737488355328)/\∀h9264:Heap,h9264=h8992.push (.cells ⟨madeL Pz 192 (Int.toNat x31)⟩ 192)->(Sm [⟨h.size,3,none⟩,⟨h.size,3,none⟩,⟨h.size,3,none⟩,⟨h.size,3,none⟩,⟨h.size,0,none⟩] h8992 h9264/\(V49m x30 h9264 h x33 x22 x23 x24 x25 x26 x27 x28 x29 p1 h8992 x31 h20 x32 h6549 x34 R)/\(V49t x33 h9264 h x30 x22 x23 x24 x25 x26 x27 x28 x29 p1 h8992 x31 h20 x32 h6549 x34 R))))
def V49zs (x32:Int) (h1664 h:Heap) (x31 x34:Int) (x22:ByteArray) (x23 x24:Sl) (x25 x26 x27:Int) (x28 x29:Sl) (p1:Int) (h20:Heap) (x30:Int) (h35:Heap) (x33:Int) (R:Value->Heap->Prop):Prop:=
 ((((0:Int)<=x32/\(x32:Int)<=x32/\((1:Nat):Int)*x32<=140737488355328)/\∀h1936:Heap,h1936=h1664.push (.cells ⟨madeL Pz 4 (Int.toNat x32)⟩ 4)->(Sm [⟨h.size,3,none⟩,⟨h.size,3,none⟩,⟨h.size,3,none⟩,⟨h.size,3,none⟩,⟨h.size,0,none⟩] h1664 h1936/\(V49g x31 h1936 h x34 x22 x23 x24 x25 x26 x27 x28 x29 p1 h20 x30 h1664 x32 h35 x33 R)/\(V49h x34 h1936 h x31 x22 x23 x24 x25 x26 x27 x28 x29 p1 h20 x30 h1664 x32 h35 x33 R))))
def V49zt (x32:Int) (h2478 h:Heap) (x31 x33:Int) (x22:ByteArray) (x23 x24:Sl) (x25 x26 x27:Int) (x28 x29:Sl) (p1:Int) (h20:Heap) (x30:Int) (h35:Heap) (x34:Int) (R:Value->Heap->Prop):Prop:=
 ((((0:Int)<=x32/\(x32:Int)<=x32/\((1:Nat):Int)*x32<=140737488355328)/\∀h2750:Heap,h2750=h2478.push (.cells ⟨madeL Pz 4 (Int.toNat x32)⟩ 4)->(Sm [⟨h.size,3,none⟩,⟨h.size,3,none⟩,⟨h.size,3,none⟩,⟨h.size,3,none⟩,⟨h.size,0,none⟩] h2478 h2750/\(V49i x31 h2750 h x33 x22 x23 x24 x25 x26 x27 x28 x29 p1 h20 x30 h2478 x32 h35 x34 R)/\(V49q x33 h2750 h x31 x22 x23 x24 x25 x26 x27 x28 x29 p1 h20 x30 h2478 x32 h35 x34 R))))
def V49zu (x33:Int) (h2478 h:Heap) (x31 x32:Int) (x22:ByteArray) (x23 x24:Sl) (x25 x26 x27:Int) (x28 x29:Sl) (p1:Int) (h20:Heap) (x30:Int) (h35:Heap) (x34:Int) (R:Value->Heap->Prop):Prop:=
 ((((0:Int)<=x33/\(x33:Int)<=x33/\((1:Nat):Int)*x33<=140737488355328)/\∀h3021:Heap,h3021=h2478.push (.cells ⟨madeL Pz 4 (Int.toNat x33)⟩ 4)->(Sm [⟨h.size,3,none⟩,⟨h.size,3,none⟩,⟨h.size,3,none⟩,⟨h.size,3,none⟩,⟨h.size,0,none⟩] h2478 h3021/\(V49j x31 h3021 h x32 x22 x23 x24 x25 x26 x27 x28 x29 p1 h20 x30 h2478 x33 h35 x34 R)/\(V49s x32 h3021 h x31 x22 x23 x24 x25 x26 x27 x28 x29 p1 h20 x30 h2478 x33 h35 x34 R))))
def V49zv (x31:Int) (h850 h:Heap) (x33 x34:Int) (x22:ByteArray) (x23 x24:Sl) (x25 x26 x27:Int) (x28 x29:Sl) (p1:Int) (h20:Heap) (x30:Int) (h35:Heap) (x32:Int) (R:Value->Heap->Prop):Prop:=
 ((((0:Int)<=x31/\(x31:Int)<=x31/\((32:Nat):Int)*x31<=140737488355328)/\∀h851:Heap,h851=h850.push (.cells ⟨madeL Pz 192 (Int.toNat x31)⟩ 192)->(Sm [⟨h.size,3,none⟩,⟨h.size,3,none⟩,⟨h.size,3,none⟩,⟨h.size,3,none⟩,⟨h.size,0,none⟩] h850 h851/\(V49z x33 h851 h x34 x22 x23 x24 x25 x26 x27 x28 x29 p1 h20 x30 h850 x31 h35 x32 R)/\(V49v x34 h851 h x33 x22 x23 x24 x25 x26 x27 x28 x29 p1 h20 x30 h850 x31 h35 x32 R))))
def V49zw (x33:Int) (h850 h:Heap) (x31 x34:Int) (x22:ByteArray) (x23 x24:Sl) (x25 x26 x27:Int) (x28 x29:Sl) (p1:Int) (h20:Heap) (x30:Int) (h35:Heap) (x32:Int) (R:Value->Heap->Prop):Prop:=
 ((((0:Int)<=x33/\(x33:Int)<=x33/\((1:Nat):Int)*x33<=140737488355328)/\∀h1122:Heap,h1122=h850.push (.cells ⟨madeL Pz 4 (Int.toNat x33)⟩ 4)->(Sm [⟨h.size,3,none⟩,⟨h.size,3,none⟩,⟨h.size,3,none⟩,⟨h.size,3,none⟩,⟨h.size,0,none⟩] h850 h1122/\(V49g x31 h1122 h x34 x22 x23 x24 x25 x26 x27 x28 x29 p1 h20 x30 h35 x32 h850 x33 R)/\(V49h x34 h1122 h x31 x22 x23 x24 x25 x26 x27 x28 x29 p1 h20 x30 h35 x32 h850 x33 R))))
def V49zx (x34:Int) (h36 h:Heap) (x32 x33:Int) (x22:ByteArray) (x23 x24:Sl) (x25 x26 x27:Int) (x28 x29:Sl) (p1:Int) (h20:Heap) (x30:Int) (h35:Heap) (x31:Int) (R:Value->Heap->Prop):Prop:=
 ((((0:Int)<=x34/\(x34:Int)<=x34/\((24:Nat):Int)*x34<=140737488355328)/\∀h579:Heap,h579=h36.push (.cells ⟨madeL Pz 274 (Int.toNat x34)⟩ 274)->(Sm [⟨h.size,3,none⟩,⟨h.size,3,none⟩,⟨h.size,3,none⟩,⟨h.size,3,none⟩,⟨h.size,0,none⟩] h36 h579/\(V49x x32 h579 h x33 x22 x23 x24 x25 x26 x27 x28 x29 p1 h20 x30 h35 x31 h36 x34 R)/\(V49y x33 h579 h x32 x22 x23 x24 x25 x26 x27 x28 x29 p1 h20 x30 h35 x31 h36 x34 R))))
def V49zy (x33:Int) (h4107 h:Heap) (x30 x34:Int) (x22:ByteArray) (x23 x24:Sl) (x25 x26 x27:Int) (x28 x29:Sl) (p1:Int) (h20:Heap) (x31:Int) (h3292:Heap) (x32:Int) (R:Value->Heap->Prop):Prop:=
 ((((0:Int)<=x33/\(x33:Int)<=x33/\((1:Nat):Int)*x33<=140737488355328)/\∀h4379:Heap,h4379=h4107.push (.cells ⟨madeL Pz 4 (Int.toNat x33)⟩ 4)->(Sm [⟨h.size,3,none⟩,⟨h.size,3,none⟩,⟨h.size,3,none⟩,⟨h.size,3,none⟩,⟨h.size,0,none⟩] h4107 h4379/\(V49k x30 h4379 h x34 x22 x23 x24 x25 x26 x27 x28 x29 p1 h20 x31 h3292 x32 h4107 x33 R)/\(V49l x34 h4379 h x30 x22 x23 x24 x25 x26 x27 x28 x29 p1 h20 x31 h3292 x32 h4107 x33 R))))
def V49zz (x32:Int) (h4921 h:Heap) (x30 x34:Int) (x22:ByteArray) (x23 x24:Sl) (x25 x26 x27:Int) (x28 x29:Sl) (p1:Int) (h20:Heap) (x31:Int) (h3292:Heap) (x33:Int) (R:Value->Heap->Prop):Prop:=
 ((((0:Int)<=x32/\(x32:Int)<=x32/\((1:Nat):Int)*x32<=140737488355328)/\∀h5193:Heap,h5193=h4921.push (.cells ⟨madeL Pz 4 (Int.toNat x32)⟩ 4)->(Sm [⟨h.size,3,none⟩,⟨h.size,3,none⟩,⟨h.size,3,none⟩,⟨h.size,3,none⟩,⟨h.size,0,none⟩] h4921 h5193/\(V49k x30 h5193 h x34 x22 x23 x24 x25 x26 x27 x28 x29 p1 h20 x31 h4921 x32 h3292 x33 R)/\(V49l x34 h5193 h x30 x22 x23 x24 x25 x26 x27 x28 x29 p1 h20 x31 h4921 x32 h3292 x33 R))))
def V49zza (x32:Int) (h5735 h:Heap) (x30 x33:Int) (x22:ByteArray) (x23 x24:Sl) (x25 x26 x27:Int) (x28 x29:Sl) (p1:Int) (h20:Heap) (x31:Int) (h3292:Heap) (x34:Int) (R:Value->Heap->Prop):Prop:=
 ((((0:Int)<=x32/\(x32:Int)<=x32/\((1:Nat):Int)*x32<=140737488355328)/\∀h6007:Heap,h6007=h5735.push (.cells ⟨madeL Pz 4 (Int.toNat x32)⟩ 4)->(Sm [⟨h.size,3,none⟩,⟨h.size,3,none⟩,⟨h.size,3,none⟩,⟨h.size,3,none⟩,⟨h.size,0,none⟩] h5735 h6007/\(V49m x30 h6007 h x33 x22 x23 x24 x25 x26 x27 x28 x29 p1 h20 x31 h5735 x32 h3292 x34 R)/\(V49t x33 h6007 h x30 x22 x23 x24 x25 x26 x27 x28 x29 p1 h20 x31 h5735 x32 h3292 x34 R))))
def V49zzb (x33:Int) (h5735 h:Heap) (x30 x32:Int) (x22:ByteArray) (x23 x24:Sl) (x25 x26 x27:Int) (x28 x29:Sl) (p1:Int) (h20:Heap) (x31:Int) (h3292:Heap) (x34:Int) (R:Value->Heap->Prop):Prop:=
 ((((0:Int)<=x33/\(x33:Int)<=x33/\((1:Nat):Int)*x33<=140737488355328)/\∀h6278:Heap,h6278=h5735.push (.cells ⟨madeL Pz 4 (Int.toNat x33)⟩ 4)->(Sm [⟨h.size,3,none⟩,⟨h.size,3,none⟩,⟨h.size,3,none⟩,⟨h.size,3,none⟩,⟨h.size,0,none⟩] h5735 h6278/\(V49n x30 h6278 h x32 x22 x23 x24 x25 x26 x27 x28 x29 p1 h20 x31 h5735 x33 h3292 x34 R)/\(V49u x32 h6278 h x30 x22 x23 x24 x25 x26 x27 x28 x29 p1 h20 x31 h5735 x33 h3292 x34 R))))
def V49zzc (x33:Int) (h8992 h:Heap) (x30 x31:Int) (x22:ByteArray) (x23 x24:Sl) (x25 x26 x27:Int) (x28 x29:Sl) (p1:Int) (h20:Heap) (x32:Int) (h6549:Heap) (x34:Int) (R:Value->Heap->Prop):Prop:=
 ((((0:Int)<=x33/\(x33:Int)<=x33/\((1:Nat):Int)*x33<=140737488355328)/\∀h9535:Heap,h9535=h8992.push (.cells ⟨madeL Pz 4 (Int.toNat x33)⟩ 4)->(Sm [⟨h.size,3,none⟩,⟨h.size,3,none⟩,⟨h.size,3,none⟩,⟨h.size,3,none⟩,⟨h.size,0,none⟩] h8992 h9535/\(V49o x30 h9535 h x31 x22 x23 x24 x25 x26 x27 x28 x29 p1 h20 x32 h8992 x33 h6549 x34 R)/\(V49p x31 h9535 h x30 x22 x23 x24 x25 x26 x27 x28 x29 p1 h20 x32 h8992 x33 h6549 x34 R))))
def V49zzd (x33:Int) (h36 h:Heap) (x32 x34:Int) (x22:ByteArray) (x23 x24:Sl) (x25 x26 x27:Int) (x28 x29:Sl) (p1:Int) (h20:Heap) (x30:Int) (h35:Heap) (x31:Int) (R:Value->Heap->Prop):Prop:=
 ((((0:Int)<=x33/\(x33:Int)<=x33/\((1:Nat):Int)*x33<=140737488355328)/\∀h308:Heap,h308=h36.push (.cells ⟨madeL Pz 4 (Int.toNat x33)⟩ 4)->(Sm [⟨h.size,3,none⟩,⟨h.size,3,none⟩,⟨h.size,3,none⟩,⟨h.size,3,none⟩,⟨h.size,0,none⟩] h36 h308/\(V49w x32 h308 h x34 x22 x23 x24 x25 x26 x27 x28 x29 p1 h20 x30 h35 x31 h36 x33 R)/\(V49r x34 h308 h x32 x22 x23 x24 x25 x26 x27 x28 x29 p1 h20 x30 h35 x31 h36 x33 R))))
def V49zze (x32:Int) (h36 h:Heap) (x33 x34:Int) (x22:ByteArray) (x23 x24:Sl) (x25 x26 x27:Int) (x28 x29:Sl) (p1:Int) (h20:Heap) (x30:Int) (h35:Heap) (x31:Int) (R:Value->Heap->Prop):Prop:=
 ((((0:Int)<=x32/\(x32:Int)<=x32/\((1:Nat):Int)*x32<=140737488355328)/\∀h37:Heap,h37=h36.push (.cells ⟨madeL Pz 4 (Int.toNat x32)⟩ 4)->(Sm [⟨h.size,3,none⟩,⟨h.size,3,none⟩,⟨h.size,3,none⟩,⟨h.size,3,none⟩,⟨h.size,0,none⟩] h36 h37/\(V49z x33 h37 h x34 x22 x23 x24 x25 x26 x27 x28 x29 p1 h20 x30 h35 x31 h36 x32 R)/\(V49v x34 h37 h x33 x22 x23 x24 x25 x26 x27 x28 x29 p1 h20 x30 h35 x31 h36 x32 R))))
def V49H0 (x30:Int) (h20:Heap) (h:Heap) (x31:Int) (x32:Int) (x33:Int) (x34:Int) (x22:ByteArray) (x23:Sl) (x24:Sl) (x25:Int) (x26:Int) (x27:Int) (x28:Sl) (x29:Sl) (p1:Int) (R:Value->Heap->Prop):Prop:=
 ((((0:Int)<=x30/\(x30:Int)<=x30/\((24:Nat):Int)*x30<=140737488355328)/\∀h35:Heap,h35=h20.push (.cells ⟨madeL Pz 102 (Int.toNat x30)⟩ 102)->(Sm [⟨h.size,3,none⟩,⟨h.size,3,none⟩,⟨h.size,3,none⟩,⟨h.size,3,none⟩,⟨h.size,0,none⟩] h20 h35/\((((0:Int)<=x31/\(x31:Int)<=x31/\((32:Nat):Int)*x31<=140737488355328)/\∀h36:Heap,h36=h35.push (.cells ⟨madeL Pz 192 (Int.toNat x31)⟩ 192)->(Sm [⟨h.size,3,none⟩,⟨h.size,3,none⟩,⟨h.size,3,none⟩,⟨h.size,3,none⟩,⟨h.size,0,none⟩] h35 h36/\(V49zze x32 h36 h x33 x34 x22 x23 x24 x25 x26 x27 x28 x29 p1 h20 x30 h35 x31 R)/\(V49zzd x33 h36 h x32 x34 x22 x23 x24 x25 x26 x27 x28 x29 p1 h20 x30 h35 x31 R)/\(V49zx x34 h36 h x32 x33 x22 x23 x24 x25 x26 x27 x28 x29 p1 h20 x30 h35 x31 R))))/\((((0:Int)<=x32/\(x32:Int)<=x32/\((1:Nat):Int)*x32<=140737488355328)/\∀h850:Heap,h850=h35.push (.cells ⟨madeL Pz 4 (Int.toNat x32)⟩ 4)->(Sm [⟨h.size,3,none⟩,⟨h.size,3,none⟩,⟨h.size,3,none⟩,⟨h.size,3,none⟩,⟨h.size,0,none⟩] h35 h850/\(V49zv x31 h850 h x33 x34 x22 x23 x24 x25 x26 x27 x28 x29 p1 h20 x30 h35 x32 R)/\(V49zw x33 h850 h x31 x34 x22 x23 x24 x25 x26 x27 x28 x29 p1 h20 x30 h35 x32 R)/\(V49zg x34 h850 h x31 x33 x22 x23 x24 x25 x26 x27 x28 x29 p1 h20 x30 h35 x32 R))))/\((((0:Int)<=x33/\(x33:Int)<=x33/\((1:Nat):Int)*x33<=140737488355328)/\∀h1664:Heap,h1664=h35.push (.cells ⟨madeL Pz 4 (Int.toNat x33)⟩ 4)->(Sm [⟨h.size,3,none⟩,⟨h.size,3,none⟩,⟨h.size,3,none⟩,⟨h.size,3,none⟩,⟨h.size,0,none⟩] h35 h1664/\(V49zd x31 h1664 h x32 x34 x22 x23 x24 x25 x26 x27 x28 x29 p1 h20 x30 h35 x33 R)/\(V49zs x32 h1664 h x31 x34 x22 x23 x24 x25 x26 x27 x28 x29 p1 h20 x30 h35 x33 R)/\(V49ze x34 h1664 h x31 x32 x22 x23 x24 x25 x26 x27 x28 x29 p1 h20 x30 h35 x33 R))))/\((((0:Int)<=x34/\(x34:Int)<=x34/\((24:Nat):Int)*x34<=140737488355328)/\∀h2478:Heap,h2478=h35.push (.cells ⟨madeL Pz 274 (Int.toNat x34)⟩ 274)->(Sm [⟨h.size,3,none⟩,⟨h.size,3,none⟩,⟨h.size,3,none⟩,⟨h.size,3,none⟩,⟨h.size,0,none⟩] h35 h2478/\(V49zf x31 h2478 h x32 x33 x22 x23 x24 x25 x26 x27 x28 x29 p1 h20 x30 h35 x34 R)/\(V49zt x32 h2478 h x31 x33 x22 x23 x24 x25 x26 x27 x28 x29 p1 h20 x30 h35 x34 R)/\(V49zu x33 h2478 h x31 x32 x22 x23 x24 x25 x26 x27 x28 x29 p1 h20 x30 h35 x34 R)))))))
def V49H1 (x31:Int) (h20:Heap) (h:Heap) (x30:Int) (x32:Int) (x33:Int) (x34:Int) (x22:ByteArray) (x23:Sl) (x24:Sl) (x25:Int) (x26:Int) (x27:Int) (x28:Sl) (x29:Sl) (p1:Int) (R:Value->Heap->Prop):Prop:=
 ((((0:Int)<=x31/\(x31:Int)<=x31/\((32:Nat):Int)*x31<=140737488355328)/\∀h3292:Heap,h3292=h20.push (.cells ⟨madeL Pz 192 (Int.toNat x31)⟩ 192)->(Sm [⟨h.size,3,none⟩,⟨h.size,3,none⟩,⟨h.size,3,none⟩,⟨h.size,3,none⟩,⟨h.size,0,none⟩] h20 h3292/\((((0:Int)<=x30/\(x30:Int)<=x30/\((24:Nat):Int)*x30<=140737488355328)/\∀h3293:Heap,h3293=h3292.push (.cells ⟨madeL Pz 102 (Int.toNat x30)⟩ 102)->(Sm [⟨h.size,3,none⟩,⟨h.size,3,none⟩,⟨h.size,3,none⟩,⟨h.size,3,none⟩,⟨h.size,0,none⟩] h3292 h3293/\(V49zze x32 h3293 h x33 x34 x22 x23 x24 x25 x26 x27 x28 x29 p1 h3292 x30 h20 x31 R)/\(V49zzd x33 h3293 h x32 x34 x22 x23 x24 x25 x26 x27 x28 x29 p1 h3292 x30 h20 x31 R)/\(V49zx x34 h3293 h x32 x33 x22 x23 x24 x25 x26 x27 x28 x29 p1 h3292 x30 h20 x31 R))))/\((((0:Int)<=x32/\(x32:Int)<=x32/\((1:Nat):Int)*x32<=140737488355328)/\∀h4107:Heap,h4107=h3292.push (.cells ⟨madeL Pz 4 (Int.toNat x32)⟩ 4)->(Sm [⟨h.size,3,none⟩,⟨h.size,3,none⟩,⟨h.size,3,none⟩,⟨h.size,3,none⟩,⟨h.size,0,none⟩] h3292 h4107/\(V49zi x30 h4107 h x33 x34 x22 x23 x24 x25 x26 x27 x28 x29 p1 h20 x31 h3292 x32 R)/\(V49zy x33 h4107 h x30 x34 x22 x23 x24 x25 x26 x27 x28 x29 p1 h20 x31 h3292 x32 R)/\(V49zj x34 h4107 h x30 x33 x22 x23 x24 x25 x26 x27 x28 x29 p1 h20 x31 h3292 x32 R))))/\((((0:Int)<=x33/\(x33:Int)<=x33/\((1:Nat):Int)*x33<=140737488355328)/\∀h4921:Heap,h4921=h3292.push (.cells ⟨madeL Pz 4 (Int.toNat x33)⟩ 4)->(Sm [⟨h.size,3,none⟩,⟨h.size,3,none⟩,⟨h.size,3,none⟩,⟨h.size,3,none⟩,⟨h.size,0,none⟩] h3292 h4921/\(V49zk x30 h4921 h x32 x34 x22 x23 x24 x25 x26 x27 x28 x29 p1 h20 x31 h3292 x33 R)/\(V49zz x32 h4921 h x30 x34 x22 x23 x24 x25 x26 x27 x28 x29 p1 h20 x31 h3292 x33 R)/\(V49zl x34 h4921 h x30 x32 x22 x23 x24 x25 x26 x27 x28 x29 p1 h20 x31 h3292 x33 R))))/\((((0:Int)<=x34/\(x34:Int)<=x34/\((24:Nat):Int)*x34<=140737488355328)/\∀h5735:Heap,h5735=h3292.push (.cells ⟨madeL Pz 274 (Int.toNat x34)⟩ 274)->(Sm [⟨h.size,3,none⟩,⟨h.size,3,none⟩,⟨h.size,3,none⟩,⟨h.size,3,none⟩,⟨h.size,0,none⟩] h3292 h5735/\(V49zm x30 h5735 h x32 x33 x22 x23 x24 x25 x26 x27 x28 x29 p1 h20 x31 h3292 x34 R)/\(V49zza x32 h5735 h x30 x33 x22 x23 x24 x25 x26 x27 x28 x29 p1 h20 x31 h3292 x34 R)/\(V49zzb x33 h5735 h x30 x32 x22 x23 x24 x25 x26 x27 x28 x29 p1 h20 x31 h3292 x34 R)))))))
def V49H2 (x32:Int) (h20:Heap) (h:Heap) (x30:Int) (x31:Int) (x33:Int) (x34:Int) (x22:ByteArray) (x23:Sl) (x24:Sl) (x25:Int) (x26:Int) (x27:Int) (x28:Sl) (x29:Sl) (p1:Int) (R:Value->Heap->Prop):Prop:=
 ((((0:Int)<=x32/\(x32:Int)<=x32/\((1:Nat):Int)*x32<=140737488355328)/\∀h6549:Heap,h6549=h20.push (.cells ⟨madeL Pz 4 (Int.toNat x32)⟩ 4)->(Sm [⟨h.size,3,none⟩,⟨h.size,3,none⟩,⟨h.size,3,none⟩,⟨h.size,3,none⟩,⟨h.size,0,none⟩] h20 h6549/\((((0:Int)<=x30/\(x30:Int)<=x30/\((24:Nat):Int)*x30<=140737488355328)/\∀h6550:Heap,h6550=h6549.push (.cells ⟨madeL Pz 102 (Int.toNat x30)⟩ 102)->(Sm [⟨h.size,3,none⟩,⟨h.size,3,none⟩,⟨h.size,3,none⟩,⟨h.size,3,none⟩,⟨h.size,0,none⟩] h6549 h6550/\(V49zv x31 h6550 h x33 x34 x22 x23 x24 x25 x26 x27 x28 x29 p1 h6549 x30 h20 x32 R)/\(V49zw x33 h6550 h x31 x34 x22 x23 x24 x25 x26 x27 x28 x29 p1 h6549 x30 h20 x32 R)/\(V49zg x34 h6550 h x31 x33 x22 x23 x24 x25 x26 x27 x28 x29 p1 h6549 x30 h20 x32 R))))/\((((0:Int)<=x31/\(x31:Int)<=x31/\((32:Nat):Int)*x31<=140737488355328)/\∀h7364:Heap,h7364=h6549.push (.cells ⟨madeL Pz 192 (Int.toNat x31)⟩ 192)->(Sm [⟨h.size,3,none⟩,⟨h.size,3,none⟩,⟨h.size,3,none⟩,⟨h.size,3,none⟩,⟨h.size,0,none⟩] h6549 h7364/\(V49zi x30 h7364 h x33 x34 x22 x23 x24 x25 x26 x27 x28 x29 p1 h6549 x31 h20 x32 R)/\(V49zy x33 h7364 h x30 x34 x22 x23 x24 x25 x26 x27 x28 x29 p1 h6549 x31 h20 x32 R)/\(V49zj x34 h7364 h x30 x33 x22 x23 x24 x25 x26 x27 x28 x29 p1 h6549 x31 h20 x32 R))))/\((((0:Int)<=x33/\(x33:Int)<=x33/\((1:Nat):Int)*x33<=140737488355328)/\∀h8178:Heap,h8178=h6549.push (.cells ⟨madeL Pz 4 (Int.toNat x33)⟩ 4)->(Sm [⟨h.size,3,none⟩,⟨h.size,3,none⟩,⟨h.size,3,none⟩,⟨h.size,3,none⟩,⟨h.size,0,none⟩] h6549 h8178/\(V49zn x30 h8178 h x31 x34 x22 x23 x24 x25 x26 x27 x28 x29 p1 h20 x32 h6549 x33 R)/\(V49zo x31 h8178 h x30 x34 x22 x23 x24 x25 x26 x27 x28 x29 p1 h20 x32 h6549 x33 R)/\(V49zp x34 h8178 h x30 x31 x22 x23 x24 x25 x26 x27 x28 x29 p1 h20 x32 h6549 x33 R))))/\((((0:Int)<=x34/\(x34:Int)<=x34/\((24:Nat):Int)*x34<=140737488355328)/\∀h8992:Heap,h8992=h6549.push (.cells ⟨madeL Pz 274 (Int.toNat x34)⟩ 274)->(Sm [⟨h.size,3,none⟩,⟨h.size,3,none⟩,⟨h.size,3,none⟩,⟨h.size,3,none⟩,⟨h.size,0,none⟩] h6549 h8992/\(V49zq x30 h8992 h x31 x33 x22 x23 x24 x25 x26 x27 x28 x29 p1 h20 x32 h6549 x34 R)/\(V49zr x31 h8992 h x30 x33 x22 x23 x24 x25 x26 x27 x28 x29 p1 h20 x32 h6549 x34 R)/\(V49zzc x33 h8992 h x30 x31 x22 x23 x24 x25 x26 x27 x28 x29 p1 h20 x32 h6549 x34 R)))))))
def V49H3 (x33:Int) (h20:Heap) (h:Heap) (x30:Int) (x31:Int) (x32:Int) (x34:Int) (x22:ByteArray) (x23:Sl) (x24:Sl) (x25:Int) (x26:Int) (x27:Int) (x28:Sl) (x29:Sl) (p1:Int) (R:Value->Heap->Prop):Prop:=
 ((((0:Int)<=x33/\(x33:Int)<=x33/\((1:Nat):Int)*x33<=140737488355328)/\∀h9806:Heap,h9806=h20.push (.cells ⟨madeL Pz 4 (Int.toNat x33)⟩ 4)->(Sm [⟨h.size,3,none⟩,⟨h.size,3,none⟩,⟨h.size,3,none⟩,⟨h.size,3,none⟩,⟨h.size,0,none⟩] h20 h9806/\((((0:Int)<=x30/\(x30:Int)<=x30/\((24:Nat):Int)*x30<=140737488355328)/\∀h9807:Heap,h9807=h9806.push (.cells ⟨madeL Pz 102 (Int.toNat x30)⟩ 102)->(Sm [⟨h.size,3,none⟩,⟨h.size,3,none⟩,⟨h.size,3,none⟩,⟨h.size,3,none⟩,⟨h.size,0,none⟩] h9806 h9807/\(V49zd x31 h9807 h x32 x34 x22 x23 x24 x25 x26 x27 x28 x29 p1 h9806 x30 h20 x33 R)/\(V49zs x32 h9807 h x31 x34 x22 x23 x24 x25 x26 x27 x28 x29 p1 h9806 x30 h20 x33 R)/\(V49ze x34 h9807 h x31 x32 x22 x23 x24 x25 x26 x27 x28 x29 p1 h9806 x30 h20 x33 R))))/\((((0:Int)<=x31/\(x31:Int)<=x31/\((32:Nat):Int)*x31<=140737488355328)/\∀h10621:Heap,h10621=h9806.push (.cells ⟨madeL Pz 192 (Int.toNat x31)⟩ 192)->(Sm [⟨h.size,3,none⟩,⟨h.size,3,none⟩,⟨h.size,3,none⟩,⟨h.size,3,none⟩,⟨h.size,0,none⟩] h9806 h10621/\(V49zk x30 h10621 h x32 x34 x22 x23 x24 x25 x26 x27 x28 x29 p1 h9806 x31 h20 x33 R)/\(V49zz x32 h10621 h x30 x34 x22 x23 x24 x25 x26 x27 x28 x29 p1 h9806 x31 h20 x33 R)/\(V49zl x34 h10621 h x30 x32 x22 x23 x24 x25 x26 x27 x28 x29 p1 h9806 x31 h20 x33 R))))/\((((0:Int)<=x32/\(x32:Int)<=x32/\((1:Nat):Int)*x32<=140737488355328)/\∀h11435:Heap,h11435=h9806.push (.cells ⟨madeL Pz 4 (Int.toNat x32)⟩ 4)->(Sm [⟨h.size,3,none⟩,⟨h.size,3,none⟩,⟨h.size,3,none⟩,⟨h.size,3,none⟩,⟨h.size,0,none⟩] h9806 h11435/\(V49zn x30 h11435 h x31 x34 x22 x23 x24 x25 x26 x27 x28 x29 p1 h9806 x32 h20 x33 R)/\(V49zo x31 h11435 h x30 x34 x22 x23 x24 x25 x26 x27 x28 x29 p1 h9806 x32 h20 x33 R)/\(V49zp x34 h11435 h x30 x31 x22 x23 x24 x25 x26 x27 x28 x29 p1 h9806 x32 h20 x33 R))))/\((((0:Int)<=x34/\(x34:Int)<=x34/\((24:Nat):Int)*x34<=140737488355328)/\∀h12249:Heap,h12249=h9806.push (.cells ⟨madeL Pz 274 (Int.toNat x34)⟩ 274)->(Sm [⟨h.size,3,none⟩,⟨h.size,3,none⟩,⟨h.size,3,none⟩,⟨h.size,3,none⟩,⟨h.size,0,none⟩] h9806 h12249/\(V49zb x30 h12249 h x31 x32 x22 x23 x24 x25 x26 x27 x28 x29 p1 h20 x33 h9806 x34 R)/\(V49zc x31 h12249 h x30 x32 x22 x23 x24 x25 x26 x27 x28 x29 p1 h20 x33 h9806 x34 R)/\(V49zh x32 h12249 h x30 x31 x22 x23 x24 x25 x26 x27 x28 x29 p1 h20 x33 h9806 x34 R)))))))
def V49H4 (x34:Int) (h20:Heap) (h:Heap) (x30:Int) (x31:Int) (x32:Int) (x33:Int) (x22:ByteArray) (x23:Sl) (x24:Sl) (x25:Int) (x26:Int) (x27:Int) (x28:Sl) (x29:Sl) (p1:Int) (R:Value->Heap->Prop):Prop:=
 ((((0:Int)<=x34/\(x34:Int)<=x34/\((24:Nat):Int)*x34<=140737488355328)/\∀h13063:Heap,h13063=h20.push (.cells ⟨madeL Pz 274 (Int.toNat x34)⟩ 274)->(Sm [⟨h.size,3,none⟩,⟨h.size,3,none⟩,⟨h.size,3,none⟩,⟨h.size,3,none⟩,⟨h.size,0,none⟩] h20 h13063/\((((0:Int)<=x30/\(x30:Int)<=x30/\((24:Nat):Int)*x30<=140737488355328)/\∀h13064:Heap,h13064=h13063.push (.cells ⟨madeL Pz 102 (Int.toNat x30)⟩ 102)->(Sm [⟨h.size,3,none⟩,⟨h.size,3,none⟩,⟨h.size,3,none⟩,⟨h.size,3,none⟩,⟨h.size,0,none⟩] h13063 h13064/\(V49zf x31 h13064 h x32 x33 x22 x23 x24 x25 x26 x27 x28 x29 p1 h13063 x30 h20 x34 R)/\(V49zt x32 h13064 h x31 x33 x22 x23 x24 x25 x26 x27 x28 x29 p1 h13063 x30 h20 x34 R)/\(V49zu x33 h13064 h x31 x32 x22 x23 x24 x25 x26 x27 x28 x29 p1 h13063 x30 h20 x34 R))))/\((((0:Int)<=x31/\(x31:Int)<=x31/\((32:Nat):Int)*x31<=140737488355328)/\∀h13878:Heap,h13878=h13063.push (.cells ⟨madeL Pz 192 (Int.toNat x31)⟩ 192)->(Sm [⟨h.size,3,none⟩,⟨h.size,3,none⟩,⟨h.size,3,none⟩,⟨h.size,3,none⟩,⟨h.size,0,none⟩] h13063 h13878/\(V49zm x30 h13878 h x32 x33 x22 x23 x24 x25 x26 x27 x28 x29 p1 h13063 x31 h20 x34 R)/\(V49zza x32 h13878 h x30 x33 x22 x23 x24 x25 x26 x27 x28 x29 p1 h13063 x31 h20 x34 R)/\(V49zzb x33 h13878 h x30 x32 x22 x23 x24 x25 x26 x27 x28 x29 p1 h13063 x31 h20 x34 R))))/\((((0:Int)<=x32/\(x32:Int)<=x32/\((1:Nat):Int)*x32<=140737488355328)/\∀h14692:Heap,h14692=h13063.push (.cells ⟨madeL Pz 4 (Int.toNat x32)⟩ 4)->(Sm [⟨h.size,3,none⟩,⟨h.size,3,none⟩,⟨h.size,3,none⟩,⟨h.size,3,none⟩,⟨h.size,0,none⟩] h13063 h14692/\(V49zq x30 h14692 h x31 x33 x22 x23 x24 x25 x26 x27 x28 x29 p1 h13063 x32 h20 x34 R)/\(V49zr x31 h14692 h x30 x33 x22 x23 x24 x25 x26 x27 x28 x29 p1 h13063 x32 h20 x34 R)/\(V49zzc x33 h14692 h x30 x31 x22 x23 x24 x25 x26 x27 x28 x29 p1 h13063 x32 h20 x34 R))))/\((((0:Int)<=x33/\(x33:Int)<=x33/\((1:Nat):Int)*x33<=140737488355328)/\∀h15506:Heap,h15506=h13063.push (.cells ⟨madeL Pz 4 (Int.toNat x33)⟩ 4)->(Sm [⟨h.size,3,none⟩,⟨h.size,3,none⟩,⟨h.size,3,none⟩,⟨h.size,3,none⟩,⟨h.size,0,none⟩] h13063 h15506/\(V49zb x30 h15506 h x31 x32 x22 x23 x24 x25 x26 x27 x28 x29 p1 h13063 x33 h20 x34 R)/\(V49zc x31 h15506 h x30 x32 x22 x23 x24 x25 x26 x27 x28 x29 p1 h13063 x33 h20 x34 R)/\(V49zh x32 h15506 h x30 x31 x22 x23 x24 x25 x26 x27 x28 x29 p1 h13063 x33 h20 x34 R)))))))
def W49 (p0_1:ByteArray) (p0_2:Sl) (p0_3:Sl) (p0_4:Int) (p0_5:Int) (p0_6:Int) (p0_7:Sl) (p0_8:Sl) (p1:Int) (h:Heap) (R:Value->Heap->Prop):Prop:=
 (∀h9:Heap,h9=h.push (.cells ⟨[.string p0_1,.slice p0_2.a p0_2.n p0_2.c,.slice p0_3.a p0_3.n p0_3.c,.int .i64 p0_4,.int .i64 p0_5,.int .i64 p0_6,.slice p0_7.a p0_7.n p0_7.c,.slice p0_8.a p0_8.n p0_8.c]⟩ 27)->(∃x10:ByteArray,∃x11:Sl,∃x12:Sl,∃x13:Int,∃x14:Int,∃x15:Int,∃x16:Sl,∃x17:Sl,atC h9 ⟨h.size,0,none⟩ [.string x10,.slice x11.a x11.n x11.c,.slice x12.a x12.n x12.c,.int .i64 x13,.int .i64 x14,.int .i64 x15,.slice x16.a x16.n x16.c,.slice x17.a x17.n x17.c]/\(Fn Pz 40 #[.agg ⟨[.string x10,.slice x11.a x11.n x11.c,.slice x12.a x12.n x12.c,.int .i64 x13,.int .i64 x14,.int .i64 x15,.slice x16.a x16.n x16.c,.slice x17.a x17.n x17.c]⟩] h9 (fun v18 h20=>∃x19:Bool,v18=.bool x19/\(sB (!x19) (R (.tuple ⟨[.pointer none,.int .i64 1]⟩) h20) ((sB (decide (p1<0)) (R (.tuple ⟨[.pointer none,.int .i64 1]⟩) h20) ((∃x21:Sl,hc h20 ⟨h.size,1,none⟩=some (.slice x21.a x21.n x21.c)/\(sB (decide (p1>=(x21.n:Int))) (R (.tuple ⟨[.pointer none,.int .i64 1]⟩) h20) ((∃x22:ByteArray,∃x23:Sl,∃x24:Sl,∃x25:Int,∃x26:Int,∃x27:Int,∃x28:Sl,∃x29:Sl,atC h20 ⟨h.size,0,none⟩ [.string x22,.slice x23.a x23.n x23.c,.slice x24.a x24.n x24.c,.int .i64 x25,.int .i64 x26,.int .i64 x27,.slice x28.a x28.n x28.c,.slice x29.a x29.n x29.c]/\(∃x30:Int,hc h20 ⟨h.size,3,none⟩=some (.int .i64 x30)/\(∃x31:Int,hc h20 ⟨h.size,3,none⟩=some (.int .i64 x31)/\(∃x32:Int,hc h20 ⟨h.size,3,none⟩=some (.int .i64 x32)/\(∃x33:Int,hc h20 ⟨h.size,3,none⟩=some (.int .i64 x33)/\(∃x34:Int,hc h20 ⟨h.size,3,none⟩=some (.int .i64 x34)/\(V49H0 x30 h20 h x31 x32 x33 x34 x22 x23 x24 x25 x26 x27 x28 x29 p1 R)/\(V49H1 x31 h20 h x30 x32 x33 x34 x22 x23 x24 x25 x26 x27 x28 x29 p1 R)/\(V49H2 x32 h20 h x30 x31 x33 x34 x22 x23 x24 x25 x26 x27 x28 x29 p1 R)/\(V49H3 x33 h20 h x30 x31 x32 x34 x22 x23 x24 x25 x26 x27 x28 x29 p1 R)/\(V49H4 x34 h20 h x30 x31 x32 x33 x22 x23 x24 x25 x26 x27 x28 x29 p1 R))))))))))))))))))
theorem vc49e (p0_1:ByteArray) (p0_2:Sl) (p0_3:Sl) (p0_4:Int) (p0_5:Int) (p0_6:Int) (p0_7:Sl) (p0_8:Sl) (p1:Int) (h:Heap) (R:Value->Heap->Prop):W49 p0_1 p0_2 p0_3 p0_4 p0_5 p0_6 p0_7 p0_8 p1 h R=fnW Pz 49 (.s .z (.s .z (.s .z (.s (.s .z (.b (.l [(50,.one (.int .i64))] .z))) (.s (.s .z (.b (.l [(118,.one (.int .i64))] .z))) (.s (.s .z (.b (.l [(147,.one (.int .i64))] .z))) .z)))))) #[.agg ⟨[.string p0_1,.slice p0_2.a p0_2.n p0_2.c,.slice p0_3.a p0_3.n p0_3.c,.int .i64 p0_4,.int .i64 p0_5,.int .i64 p0_6,.slice p0_7.a p0_7.n p0_7.c,.slice p0_8.a p0_8.n p0_8.c]⟩,.int .i64 p1] h R:=by kernel_rfl
theorem vc49 (p0_1:ByteArray) (p0_2:Sl) (p0_3:Sl) (p0_4:Int) (p0_5:Int) (p0_6:Int) (p0_7:Sl) (p0_8:Sl) (p1:Int) (h:Heap) (R:Value->Heap->Prop) (H:W49 p0_1 p0_2 p0_3 p0_4 p0_5 p0_6 p0_7 p0_8 p1 h R):Fn Pz 49 #[.agg ⟨[.string p0_1,.slice p0_2.a p0_2.n p0_2.c,.slice p0_3.a p0_3.n p0_3.c,.int .i64 p0_4,.int .i64 p0_5,.int .i64 p0_6,.slice p0_7.a p0_7.n p0_7.c,.slice p0_8.a p0_8.n p0_8.c]⟩,.int .i64 p1] h R:=fnI (vc49e p0_1 p0_2 p0_3 p0_4 p0_5 p0_6 p0_7 p0_8 p1 h R) H
end Go.VC
end

section
namespace Go.VC
open Go.Proofs Go.LexS
noncomputable abbrev it30 (a:Heap) (g:Gl):It:=.blk a.size (madeL Pz 102 (Int.toNat g.n)) 102
noncomputable abbrev it31 (a:Heap) (g:Gl):It:=.blk a.size (madeL Pz 192 (Int.toNat g.n)) 192
noncomputable abbrev it32 (a:Heap) (g:Gl):It:=.blk a.size (madeL Pz 4 (Int.toNat g.n)) 4
noncomputable abbrev it33 (a:Heap) (g:Gl):It:=.blk a.size (madeL Pz 4 (Int.toNat g.n)) 4
noncomputable abbrev it34 (a:Heap) (g:Gl):It:=.blk a.size (madeL Pz 274 (Int.toNat g.n)) 274
def TailH (g:Gl) (role:Int) (h:Heap) (R:Value->Heap->Prop):Prop:=∀hF a b c d e:Heap,St h hF [it30 a g,it31 b g,it32 c g,it33 d g,it34 e g,.blk h.size g.cs 27]->V49a hF (bs g.nm) g.hr g.hd g.n g.s g.e g.he g.ht role a g.n b g.n c g.n d g.n e g.n h R
theorem nV117f {g:Gl} {role:Int} {h h38 h20 h35 h36 h37:Heap} {R:Value->Heap->Prop} (hT:TailH g role h R) (hn:1<=g.n/\g.n<=200) (hs:St h h38 [it30 h20 g,it31 h35 g,it32 h36 g,it33 h37 g,.blk h.size g.cs 27]):V49f g.n h38 h (bs g.nm) g.hr g.hd g.n g.s g.e g.he g.ht role h20 g.n h35 g.n h36 g.n h37 g.n R:=by
 unfold V49f;refine⟨⟨by omega,by omega,by omega⟩,hs.newbE fun h39 E hs=>⟨E.sm,?_⟩⟩;have hs:=hs.perm (List.perm_middle (l₁:=[_,_,_,_])).symm;exact hT _ _ _ _ _ _ hs
theorem nV117z {g:Gl} {role:Int} {h h37 h20 h35 h36:Heap} {R:Value->Heap->Prop} (hT:TailH g role h R) (hn:1<=g.n/\g.n<=200) (hs:St h h37 [it30 h20 g,it31 h35 g,it32 h36 g,.blk h.size g.cs 27]):V49z g.n h37 h g.n (bs g.nm) g.hr g.hd g.n g.s g.e g.he g.ht role h20 g.n h35 g.n h36 g.n R:=by
 unfold V49z;refine⟨⟨by omega,by omega,by omega⟩,hs.newbE fun h38 E hs=>⟨E.sm,?_⟩⟩;have hs:=hs.perm (List.perm_middle (l₁:=[_,_,_])).symm;exact nV117f hT hn hs
theorem nV117d {g:Gl} {role:Int} {h h173 h20 h35 h36 h37:Heap} {R:Value->Heap->Prop} (hT:TailH g role h R) (hn:1<=g.n/\g.n<=200) (hs:St h h173 [it30 h20 g,it31 h35 g,it32 h36 g,it34 h37 g,.blk h.size g.cs 27]):V49d g.n h173 h (bs g.nm) g.hr g.hd g.n g.s g.e g.he g.ht role h20 g.n h35 g.n h36 g.n h37 g.n R:=by
 unfold V49d;refine⟨⟨by omega,by omega,by omega⟩,hs.newbE fun h174 E hs=>⟨E.sm,?_⟩⟩;have hs:=hs.perm (List.perm_middle (l₁:=[_,_,_])).symm;exact hT _ _ _ _ _ _ hs
theorem nV117v {g:Gl} {role:Int} {h h37 h20 h35 h36:Heap} {R:Value->Heap->Prop} (hT:TailH g role h R) (hn:1<=g.n/\g.n<=200) (hs:St h h37 [it30 h20 g,it31 h35 g,it32 h36 g,.blk h.size g.cs 27]):V49v g.n h37 h g.n (bs g.nm) g.hr g.hd g.n g.s g.e g.he g.ht role h20 g.n h35 g.n h36 g.n R:=by
 unfold V49v;refine⟨⟨by omega,by omega,by omega⟩,hs.newbE fun h173 E hs=>⟨E.sm,?_⟩⟩;have hs:=hs.perm (List.perm_middle (l₁:=[_,_,_])).symm;exact nV117d hT hn hs
theorem nV117zze {g:Gl} {role:Int} {h h36 h20 h35:Heap} {R:Value->Heap->Prop} (hT:TailH g role h R) (hn:1<=g.n/\g.n<=200) (hs:St h h36 [it30 h20 g,it31 h35 g,.blk h.size g.cs 27]):V49zze g.n h36 h g.n g.n (bs g.nm) g.hr g.hd g.n g.s g.e g.he g.ht role h20 g.n h35 g.n R:=by
 unfold V49zze;refine⟨⟨by omega,by omega,by omega⟩,hs.newbE fun h37 E hs=>⟨E.sm,?_⟩⟩;have hs:=hs.perm (List.perm_middle (l₁:=[_,_])).symm;exact⟨nV117z hT hn hs,nV117v hT hn hs⟩
theorem nV117w {g:Gl} {role:Int} {h h308 h20 h35 h36:Heap} {R:Value->Heap->Prop} (hT:TailH g role h R) (hn:1<=g.n/\g.n<=200) (hs:St h h308 [it30 h20 g,it31 h35 g,it33 h36 g,.blk h.size g.cs 27]):V49w g.n h308 h g.n (bs g.nm) g.hr g.hd g.n g.s g.e g.he g.ht role h20 g.n h35 g.n h36 g.n R:=by
 unfold V49w;refine⟨⟨by omega,by omega,by omega⟩,hs.newbE fun h309 E hs=>⟨E.sm,?_⟩⟩;have hs:=hs.perm (List.perm_middle (l₁:=[_,_])).symm;exact nV117f hT hn hs
theorem nV117e {g:Gl} {role:Int} {h h444 h20 h35 h36 h308:Heap} {R:Value->Heap->Prop} (hT:TailH g role h R) (hn:1<=g.n/\g.n<=200) (hs:St h h444 [it30 h20 g,it31 h35 g,it33 h36 g,it34 h308 g,.blk h.size g.cs 27]):V49e g.n h444 h (bs g.nm) g.hr g.hd g.n g.s g.e g.he g.ht role h20 g.n h35 g.n h36 g.n h308 g.n R:=by
 unfold V49e;refine⟨⟨by omega,by omega,by omega⟩,hs.newbE fun h445 E hs=>⟨E.sm,?_⟩⟩;have hs:=hs.perm (List.perm_middle (l₁:=[_,_])).symm;exact hT _ _ _ _ _ _ hs
theorem nV117r {g:Gl} {role:Int} {h h308 h20 h35 h36:Heap} {R:Value->Heap->Prop} (hT:TailH g role h R) (hn:1<=g.n/\g.n<=200) (hs:St h h308 [it30 h20 g,it31 h35 g,it33 h36 g,.blk h.size g.cs 27]):V49r g.n h308 h g.n (bs g.nm) g.hr g.hd g.n g.s g.e g.he g.ht role h20 g.n h35 g.n h36 g.n R:=by
 unfold V49r;refine⟨⟨by omega,by omega,by omega⟩,hs.newbE fun h444 E hs=>⟨E.sm,?_⟩⟩;have hs:=hs.perm (List.perm_middle (l₁:=[_,_,_])).symm;exact nV117e hT hn hs
theorem nV117zzd {g:Gl} {role:Int} {h h36 h20 h35:Heap} {R:Value->Heap->Prop} (hT:TailH g role h R) (hn:1<=g.n/\g.n<=200) (hs:St h h36 [it30 h20 g,it31 h35 g,.blk h.size g.cs 27]):V49zzd g.n h36 h g.n g.n (bs g.nm) g.hr g.hd g.n g.s g.e g.he g.ht role h20 g.n h35 g.n R:=by
 unfold V49zzd;refine⟨⟨by omega,by omega,by omega⟩,hs.newbE fun h308 E hs=>⟨E.sm,?_⟩⟩;have hs:=hs.perm (List.perm_middle (l₁:=[_,_])).symm;exact⟨nV117w hT hn hs,nV117r hT hn hs⟩
theorem nV117x {g:Gl} {role:Int} {h h579 h20 h35 h36:Heap} {R:Value->Heap->Prop} (hT:TailH g role h R) (hn:1<=g.n/\g.n<=200) (hs:St h h579 [it30 h20 g,it31 h35 g,it34 h36 g,.blk h.size g.cs 27]):V49x g.n h579 h g.n (bs g.nm) g.hr g.hd g.n g.s g.e g.he g.ht role h20 g.n h35 g.n h36 g.n R:=by
 unfold V49x;refine⟨⟨by omega,by omega,by omega⟩,hs.newbE fun h580 E hs=>⟨E.sm,?_⟩⟩;have hs:=hs.perm (List.perm_middle (l₁:=[_,_])).symm;exact nV117d hT hn hs
theorem nV117y {g:Gl} {role:Int} {h h579 h20 h35 h36:Heap} {R:Value->Heap->Prop} (hT:TailH g role h R) (hn:1<=g.n/\g.n<=200) (hs:St h h579 [it30 h20 g,it31 h35 g,it34 h36 g,.blk h.size g.cs 27]):V49y g.n h579 h g.n (bs g.nm) g.hr g.hd g.n g.s g.e g.he g.ht role h20 g.n h35 g.n h36 g.n R:=by
 unfold V49y;refine⟨⟨by omega,by omega,by omega⟩,hs.newbE fun h715 E hs=>⟨E.sm,?_⟩⟩;have hs:=hs.perm (List.perm_middle (l₁:=[_,_])).symm;exact nV117e hT hn hs
theorem nV117zx {g:Gl} {role:Int} {h h36 h20 h35:Heap} {R:Value->Heap->Prop} (hT:TailH g role h R) (hn:1<=g.n/\g.n<=200) (hs:St h h36 [it30 h20 g,it31 h35 g,.blk h.size g.cs 27]):V49zx g.n h36 h g.n g.n (bs g.nm) g.hr g.hd g.n g.s g.e g.he g.ht role h20 g.n h35 g.n R:=by
 unfold V49zx;refine⟨⟨by omega,by omega,by omega⟩,hs.newbE fun h579 E hs=>⟨E.sm,?_⟩⟩;have hs:=hs.perm (List.perm_middle (l₁:=[_,_])).symm;exact⟨nV117x hT hn hs,nV117y hT hn hs⟩
theorem nV117zv {g:Gl} {role:Int} {h h850 h20 h35:Heap} {R:Value->Heap->Prop} (hT:TailH g role h R) (hn:1<=g.n/\g.n<=200) (hs:St h h850 [it30 h20 g,it32 h35 g,.blk h.size g.cs 27]):V49zv g.n h850 h g.n g.n (bs g.nm) g.hr g.hd g.n g.s g.e g.he g.ht role h20 g.n h35 g.n R:=by
 unfold V49zv;refine⟨⟨by omega,by omega,by omega⟩,hs.newbE fun h851 E hs=>⟨E.sm,?_⟩⟩;have hs:=hs.perm (List.perm_middle (l₁:=[_])).symm;exact⟨nV117z hT hn hs,nV117v hT hn hs⟩
theorem nV117g {g:Gl} {role:Int} {h h1122 h20 h35 h850:Heap} {R:Value->Heap->Prop} (hT:TailH g role h R) (hn:1<=g.n/\g.n<=200) (hs:St h h1122 [it30 h20 g,it32 h35 g,it33 h850 g,.blk h.size g.cs 27]):V49g g.n h1122 h g.n (bs g.nm) g.hr g.hd g.n g.s g.e g.he g.ht role h20 g.n h35 g.n h850 g.n R:=by
 unfold V49g;refine⟨⟨by omega,by omega,by omega⟩,hs.newbE fun h1123 E hs=>⟨E.sm,?_⟩⟩;have hs:=hs.perm (List.perm_middle (l₁:=[_])).symm;exact nV117f hT hn hs
theorem nV117b {g:Gl} {role:Int} {h h1258 h20 h35 h850 h1122:Heap} {R:Value->Heap->Prop} (hT:TailH g role h R) (hn:1<=g.n/\g.n<=200) (hs:St h h1258 [it30 h20 g,it32 h35 g,it33 h850 g,it34 h1122 g,.blk h.size g.cs 27]):V49b g.n h1258 h (bs g.nm) g.hr g.hd g.n g.s g.e g.he g.ht role h20 g.n h35 g.n h850 g.n h1122 g.n R:=by
 unfold V49b;refine⟨⟨by omega,by omega,by omega⟩,hs.newbE fun h1259 E hs=>⟨E.sm,?_⟩⟩;have hs:=hs.perm (List.perm_middle (l₁:=[_])).symm;exact hT _ _ _ _ _ _ hs
theorem nV117h {g:Gl} {role:Int} {h h1122 h20 h35 h850:Heap} {R:Value->Heap->Prop} (hT:TailH g role h R) (hn:1<=g.n/\g.n<=200) (hs:St h h1122 [it30 h20 g,it32 h35 g,it33 h850 g,.blk h.size g.cs 27]):V49h g.n h1122 h g.n (bs g.nm) g.hr g.hd g.n g.s g.e g.he g.ht role h20 g.n h35 g.n h850 g.n R:=by
 unfold V49h;refine⟨⟨by omega,by omega,by omega⟩,hs.newbE fun h1258 E hs=>⟨E.sm,?_⟩⟩;have hs:=hs.perm (List.perm_middle (l₁:=[_,_,_])).symm;exact nV117b hT hn hs
theorem nV117zw {g:Gl} {role:Int} {h h850 h20 h35:Heap} {R:Value->Heap->Prop} (hT:TailH g role h R) (hn:1<=g.n/\g.n<=200) (hs:St h h850 [it30 h20 g,it32 h35 g,.blk h.size g.cs 27]):V49zw g.n h850 h g.n g.n (bs g.nm) g.hr g.hd g.n g.s g.e g.he g.ht role h20 g.n h35 g.n R:=by
 unfold V49zw;refine⟨⟨by omega,by omega,by omega⟩,hs.newbE fun h1122 E hs=>⟨E.sm,?_⟩⟩;have hs:=hs.perm (List.perm_middle (l₁:=[_,_])).symm;exact⟨nV117g hT hn hs,nV117h hT hn hs⟩
theorem nV117i {g:Gl} {role:Int} {h h1393 h20 h35 h850:Heap} {R:Value->Heap->Prop} (hT:TailH g role h R) (hn:1<=g.n/\g.n<=200) (hs:St h h1393 [it30 h20 g,it32 h35 g,it34 h850 g,.blk h.size g.cs 27]):V49i g.n h1393 h g.n (bs g.nm) g.hr g.hd g.n g.s g.e g.he g.ht role h20 g.n h35 g.n h850 g.n R:=by
 unfold V49i;refine⟨⟨by omega,by omega,by omega⟩,hs.newbE fun h1394 E hs=>⟨E.sm,?_⟩⟩;have hs:=hs.perm (List.perm_middle (l₁:=[_])).symm;exact nV117d hT hn hs
theorem nV117q {g:Gl} {role:Int} {h h1393 h20 h35 h850:Heap} {R:Value->Heap->Prop} (hT:TailH g role h R) (hn:1<=g.n/\g.n<=200) (hs:St h h1393 [it30 h20 g,it32 h35 g,it34 h850 g,.blk h.size g.cs 27]):V49q g.n h1393 h g.n (bs g.nm) g.hr g.hd g.n g.s g.e g.he g.ht role h20 g.n h35 g.n h850 g.n R:=by
 unfold V49q;refine⟨⟨by omega,by omega,by omega⟩,hs.newbE fun h1529 E hs=>⟨E.sm,?_⟩⟩;have hs:=hs.perm (List.perm_middle (l₁:=[_,_])).symm;exact nV117b hT hn hs
theorem nV117zg {g:Gl} {role:Int} {h h850 h20 h35:Heap} {R:Value->Heap->Prop} (hT:TailH g role h R) (hn:1<=g.n/\g.n<=200) (hs:St h h850 [it30 h20 g,it32 h35 g,.blk h.size g.cs 27]):V49zg g.n h850 h g.n g.n (bs g.nm) g.hr g.hd g.n g.s g.e g.he g.ht role h20 g.n h35 g.n R:=by
 unfold V49zg;refine⟨⟨by omega,by omega,by omega⟩,hs.newbE fun h1393 E hs=>⟨E.sm,?_⟩⟩;have hs:=hs.perm (List.perm_middle (l₁:=[_,_])).symm;exact⟨nV117i hT hn hs,nV117q hT hn hs⟩
theorem nV117zd {g:Gl} {role:Int} {h h1664 h20 h35:Heap} {R:Value->Heap->Prop} (hT:TailH g role h R) (hn:1<=g.n/\g.n<=200) (hs:St h h1664 [it30 h20 g,it33 h35 g,.blk h.size g.cs 27]):V49zd g.n h1664 h g.n g.n (bs g.nm) g.hr g.hd g.n g.s g.e g.he g.ht role h20 g.n h35 g.n R:=by
 unfold V49zd;refine⟨⟨by omega,by omega,by omega⟩,hs.newbE fun h1665 E hs=>⟨E.sm,?_⟩⟩;have hs:=hs.perm (List.perm_middle (l₁:=[_])).symm;exact⟨nV117w hT hn hs,nV117r hT hn hs⟩
theorem nV117zs {g:Gl} {role:Int} {h h1664 h20 h35:Heap} {R:Value->Heap->Prop} (hT:TailH g role h R) (hn:1<=g.n/\g.n<=200) (hs:St h h1664 [it30 h20 g,it33 h35 g,.blk h.size g.cs 27]):V49zs g.n h1664 h g.n g.n (bs g.nm) g.hr g.hd g.n g.s g.e g.he g.ht role h20 g.n h35 g.n R:=by
 unfold V49zs;refine⟨⟨by omega,by omega,by omega⟩,hs.newbE fun h1936 E hs=>⟨E.sm,?_⟩⟩;have hs:=hs.perm (List.perm_middle (l₁:=[_])).symm;exact⟨nV117g hT hn hs,nV117h hT hn hs⟩
theorem nV117j {g:Gl} {role:Int} {h h2207 h20 h35 h1664:Heap} {R:Value->Heap->Prop} (hT:TailH g role h R) (hn:1<=g.n/\g.n<=200) (hs:St h h2207 [it30 h20 g,it33 h35 g,it34 h1664 g,.blk h.size g.cs 27]):V49j g.n h2207 h g.n (bs g.nm) g.hr g.hd g.n g.s g.e g.he g.ht role h20 g.n h35 g.n h1664 g.n R:=by
 unfold V49j;refine⟨⟨by omega,by omega,by omega⟩,hs.newbE fun h2208 E hs=>⟨E.sm,?_⟩⟩;have hs:=hs.perm (List.perm_middle (l₁:=[_])).symm;exact nV117e hT hn hs
theorem nV117s {g:Gl} {role:Int} {h h2207 h20 h35 h1664:Heap} {R:Value->Heap->Prop} (hT:TailH g role h R) (hn:1<=g.n/\g.n<=200) (hs:St h h2207 [it30 h20 g,it33 h35 g,it34 h1664 g,.blk h.size g.cs 27]):V49s g.n h2207 h g.n (bs g.nm) g.hr g.hd g.n g.s g.e g.he g.ht role h20 g.n h35 g.n h1664 g.n R:=by
 unfold V49s;refine⟨⟨by omega,by omega,by omega⟩,hs.newbE fun h2343 E hs=>⟨E.sm,?_⟩⟩;have hs:=hs.perm (List.perm_middle (l₁:=[_])).symm;exact nV117b hT hn hs
theorem nV117ze {g:Gl} {role:Int} {h h1664 h20 h35:Heap} {R:Value->Heap->Prop} (hT:TailH g role h R) (hn:1<=g.n/\g.n<=200) (hs:St h h1664 [it30 h20 g,it33 h35 g,.blk h.size g.cs 27]):V49ze g.n h1664 h g.n g.n (bs g.nm) g.hr g.hd g.n g.s g.e g.he g.ht role h20 g.n h35 g.n R:=by
 unfold V49ze;refine⟨⟨by omega,by omega,by omega⟩,hs.newbE fun h2207 E hs=>⟨E.sm,?_⟩⟩;have hs:=hs.perm (List.perm_middle (l₁:=[_,_])).symm;exact⟨nV117j hT hn hs,nV117s hT hn hs⟩
theorem nV117zf {g:Gl} {role:Int} {h h2478 h20 h35:Heap} {R:Value->Heap->Prop} (hT:TailH g role h R) (hn:1<=g.n/\g.n<=200) (hs:St h h2478 [it30 h20 g,it34 h35 g,.blk h.size g.cs 27]):V49zf g.n h2478 h g.n g.n (bs g.nm) g.hr g.hd g.n g.s g.e g.he g.ht role h20 g.n h35 g.n R:=by
 unfold V49zf;refine⟨⟨by omega,by omega,by omega⟩,hs.newbE fun h2479 E hs=>⟨E.sm,?_⟩⟩;have hs:=hs.perm (List.perm_middle (l₁:=[_])).symm;exact⟨nV117x hT hn hs,nV117y hT hn hs⟩
theorem nV117zt {g:Gl} {role:Int} {h h2478 h20 h35:Heap} {R:Value->Heap->Prop} (hT:TailH g role h R) (hn:1<=g.n/\g.n<=200) (hs:St h h2478 [it30 h20 g,it34 h35 g,.blk h.size g.cs 27]):V49zt g.n h2478 h g.n g.n (bs g.nm) g.hr g.hd g.n g.s g.e g.he g.ht role h20 g.n h35 g.n R:=by
 unfold V49zt;refine⟨⟨by omega,by omega,by omega⟩,hs.newbE fun h2750 E hs=>⟨E.sm,?_⟩⟩;have hs:=hs.perm (List.perm_middle (l₁:=[_])).symm;exact⟨nV117i hT hn hs,nV117q hT hn hs⟩
theorem nV117zu {g:Gl} {role:Int} {h h2478 h20 h35:Heap} {R:Value->Heap->Prop} (hT:TailH g role h R) (hn:1<=g.n/\g.n<=200) (hs:St h h2478 [it30 h20 g,it34 h35 g,.blk h.size g.cs 27]):V49zu g.n h2478 h g.n g.n (bs g.nm) g.hr g.hd g.n g.s g.e g.he g.ht role h20 g.n h35 g.n R:=by
 unfold V49zu;refine⟨⟨by omega,by omega,by omega⟩,hs.newbE fun h3021 E hs=>⟨E.sm,?_⟩⟩;have hs:=hs.perm (List.perm_middle (l₁:=[_])).symm;exact⟨nV117j hT hn hs,nV117s hT hn hs⟩
theorem nV117zi {g:Gl} {role:Int} {h h4107 h20 h3292:Heap} {R:Value->Heap->Prop} (hT:TailH g role h R) (hn:1<=g.n/\g.n<=200) (hs:St h h4107 [it31 h20 g,it32 h3292 g,.blk h.size g.cs 27]):V49zi g.n h4107 h g.n g.n (bs g.nm) g.hr g.hd g.n g.s g.e g.he g.ht role h20 g.n h3292 g.n R:=by
 unfold V49zi;refine⟨⟨by omega,by omega,by omega⟩,hs.newbE fun h4108 E hs=>⟨E.sm,?_⟩⟩;exact⟨nV117z hT hn hs,nV117v hT hn hs⟩
theorem nV117k {g:Gl} {role:Int} {h h4379 h20 h3292 h4107:Heap} {R:Value->Heap->Prop} (hT:TailH g role h R) (hn:1<=g.n/\g.n<=200) (hs:St h h4379 [it31 h20 g,it32 h3292 g,it33 h4107 g,.blk h.size g.cs 27]):V49k g.n h4379 h g.n (bs g.nm) g.hr g.hd g.n g.s g.e g.he g.ht role h20 g.n h3292 g.n h4107 g.n R:=by
 unfold V49k;refine⟨⟨by omega,by omega,by omega⟩,hs.newbE fun h4380 E hs=>⟨E.sm,?_⟩⟩;exact nV117f hT hn hs
theorem nV117c {g:Gl} {role:Int} {h h4515 h20 h3292 h4107 h4379:Heap} {R:Value->Heap->Prop} (hT:TailH g role h R) (hn:1<=g.n/\g.n<=200) (hs:St h h4515 [it31 h20 g,it32 h3292 g,it33 h4107 g,it34 h4379 g,.blk h.size g.cs 27]):V49c g.n h4515 h (bs g.nm) g.hr g.hd g.n g.s g.e g.he g.ht role h20 g.n h3292 g.n h4107 g.n h4379 g.n R:=by
 unfold V49c;refine⟨⟨by omega,by omega,by omega⟩,hs.newbE fun h4516 E hs=>⟨E.sm,?_⟩⟩;exact hT _ _ _ _ _ _ hs
theorem nV117l {g:Gl} {role:Int} {h h4379 h20 h3292 h4107:Heap} {R:Value->Heap->Prop} (hT:TailH g role h R) (hn:1<=g.n/\g.n<=200) (hs:St h h4379 [it31 h20 g,it32 h3292 g,it33 h4107 g,.blk h.size g.cs 27]):V49l g.n h4379 h g.n (bs g.nm) g.hr g.hd g.n g.s g.e g.he g.ht role h20 g.n h3292 g.n h4107 g.n R:=by
 unfold V49l;refine⟨⟨by omega,by omega,by omega⟩,hs.newbE fun h4515 E hs=>⟨E.sm,?_⟩⟩;have hs:=hs.perm (List.perm_middle (l₁:=[_,_,_])).symm;exact nV117c hT hn hs
theorem nV117zy {g:Gl} {role:Int} {h h4107 h20 h3292:Heap} {R:Value->Heap->Prop} (hT:TailH g role h R) (hn:1<=g.n/\g.n<=200) (hs:St h h4107 [it31 h20 g,it32 h3292 g,.blk h.size g.cs 27]):V49zy g.n h4107 h g.n g.n (bs g.nm) g.hr g.hd g.n g.s g.e g.he g.ht role h20 g.n h3292 g.n R:=by
 unfold V49zy;refine⟨⟨by omega,by omega,by omega⟩,hs.newbE fun h4379 E hs=>⟨E.sm,?_⟩⟩;have hs:=hs.perm (List.perm_middle (l₁:=[_,_])).symm;exact⟨nV117k hT hn hs,nV117l hT hn hs⟩
theorem nV117m {g:Gl} {role:Int} {h h4650 h20 h3292 h4107:Heap} {R:Value->Heap->Prop} (hT:TailH g role h R) (hn:1<=g.n/\g.n<=200) (hs:St h h4650 [it31 h20 g,it32 h3292 g,it34 h4107 g,.blk h.size g.cs 27]):V49m g.n h4650 h g.n (bs g.nm) g.hr g.hd g.n g.s g.e g.he g.ht role h20 g.n h3292 g.n h4107 g.n R:=by
 unfold V49m;refine⟨⟨by omega,by omega,by omega⟩,hs.newbE fun h4651 E hs=>⟨E.sm,?_⟩⟩;exact nV117d hT hn hs
theorem nV117t {g:Gl} {role:Int} {h h4650 h20 h3292 h4107:Heap} {R:Value->Heap->Prop} (hT:TailH g role h R) (hn:1<=g.n/\g.n<=200) (hs:St h h4650 [it31 h20 g,it32 h3292 g,it34 h4107 g,.blk h.size g.cs 27]):V49t g.n h4650 h g.n (bs g.nm) g.hr g.hd g.n g.s g.e g.he g.ht role h20 g.n h3292 g.n h4107 g.n R:=by
 unfold V49t;refine⟨⟨by omega,by omega,by omega⟩,hs.newbE fun h4786 E hs=>⟨E.sm,?_⟩⟩;have hs:=hs.perm (List.perm_middle (l₁:=[_,_])).symm;exact nV117c hT hn hs
theorem nV117zj {g:Gl} {role:Int} {h h4107 h20 h3292:Heap} {R:Value->Heap->Prop} (hT:TailH g role h R) (hn:1<=g.n/\g.n<=200) (hs:St h h4107 [it31 h20 g,it32 h3292 g,.blk h.size g.cs 27]):V49zj g.n h4107 h g.n g.n (bs g.nm) g.hr g.hd g.n g.s g.e g.he g.ht role h20 g.n h3292 g.n R:=by
 unfold V49zj;refine⟨⟨by omega,by omega,by omega⟩,hs.newbE fun h4650 E hs=>⟨E.sm,?_⟩⟩;have hs:=hs.perm (List.perm_middle (l₁:=[_,_])).symm;exact⟨nV117m hT hn hs,nV117t hT hn hs⟩
theorem nV117zk {g:Gl} {role:Int} {h h4921 h20 h3292:Heap} {R:Value->Heap->Prop} (hT:TailH g role h R) (hn:1<=g.n/\g.n<=200) (hs:St h h4921 [it31 h20 g,it33 h3292 g,.blk h.size g.cs 27]):V49zk g.n h4921 h g.n g.n (bs g.nm) g.hr g.hd g.n g.s g.e g.he g.ht role h20 g.n h3292 g.n R:=by
 unfold V49zk;refine⟨⟨by omega,by omega,by omega⟩,hs.newbE fun h4922 E hs=>⟨E.sm,?_⟩⟩;exact⟨nV117w hT hn hs,nV117r hT hn hs⟩
theorem nV117zz {g:Gl} {role:Int} {h h4921 h20 h3292:Heap} {R:Value->Heap->Prop} (hT:TailH g role h R) (hn:1<=g.n/\g.n<=200) (hs:St h h4921 [it31 h20 g,it33 h3292 g,.blk h.size g.cs 27]):V49zz g.n h4921 h g.n g.n (bs g.nm) g.hr g.hd g.n g.s g.e g.he g.ht role h20 g.n h3292 g.n R:=by
 unfold V49zz;refine⟨⟨by omega,by omega,by omega⟩,hs.newbE fun h5193 E hs=>⟨E.sm,?_⟩⟩;have hs:=hs.perm (List.perm_middle (l₁:=[_])).symm;exact⟨nV117k hT hn hs,nV117l hT hn hs⟩
theorem nV117n {g:Gl} {role:Int} {h h5464 h20 h3292 h4921:Heap} {R:Value->Heap->Prop} (hT:TailH g role h R) (hn:1<=g.n/\g.n<=200) (hs:St h h5464 [it31 h20 g,it33 h3292 g,it34 h4921 g,.blk h.size g.cs 27]):V49n g.n h5464 h g.n (bs g.nm) g.hr g.hd g.n g.s g.e g.he g.ht role h20 g.n h3292 g.n h4921 g.n R:=by
 unfold V49n;refine⟨⟨by omega,by omega,by omega⟩,hs.newbE fun h5465 E hs=>⟨E.sm,?_⟩⟩;exact nV117e hT hn hs
theorem nV117u {g:Gl} {role:Int} {h h5464 h20 h3292 h4921:Heap} {R:Value->Heap->Prop} (hT:TailH g role h R) (hn:1<=g.n/\g.n<=200) (hs:St h h5464 [it31 h20 g,it33 h3292 g,it34 h4921 g,.blk h.size g.cs 27]):V49u g.n h5464 h g.n (bs g.nm) g.hr g.hd g.n g.s g.e g.he g.ht role h20 g.n h3292 g.n h4921 g.n R:=by
 unfold V49u;refine⟨⟨by omega,by omega,by omega⟩,hs.newbE fun h5600 E hs=>⟨E.sm,?_⟩⟩;have hs:=hs.perm (List.perm_middle (l₁:=[_])).symm;exact nV117c hT hn hs
theorem nV117zl {g:Gl} {role:Int} {h h4921 h20 h3292:Heap} {R:Value->Heap->Prop} (hT:TailH g role h R) (hn:1<=g.n/\g.n<=200) (hs:St h h4921 [it31 h20 g,it33 h3292 g,.blk h.size g.cs 27]):V49zl g.n h4921 h g.n g.n (bs g.nm) g.hr g.hd g.n g.s g.e g.he g.ht role h20 g.n h3292 g.n R:=by
 unfold V49zl;refine⟨⟨by omega,by omega,by omega⟩,hs.newbE fun h5464 E hs=>⟨E.sm,?_⟩⟩;have hs:=hs.perm (List.perm_middle (l₁:=[_,_])).symm;exact⟨nV117n hT hn hs,nV117u hT hn hs⟩
theorem nV117zm {g:Gl} {role:Int} {h h5735 h20 h3292:Heap} {R:Value->Heap->Prop} (hT:TailH g role h R) (hn:1<=g.n/\g.n<=200) (hs:St h h5735 [it31 h20 g,it34 h3292 g,.blk h.size g.cs 27]):V49zm g.n h5735 h g.n g.n (bs g.nm) g.hr g.hd g.n g.s g.e g.he g.ht role h20 g.n h3292 g.n R:=by
 unfold V49zm;refine⟨⟨by omega,by omega,by omega⟩,hs.newbE fun h5736 E hs=>⟨E.sm,?_⟩⟩;exact⟨nV117x hT hn hs,nV117y hT hn hs⟩
theorem nV117zza {g:Gl} {role:Int} {h h5735 h20 h3292:Heap} {R:Value->Heap->Prop} (hT:TailH g role h R) (hn:1<=g.n/\g.n<=200) (hs:St h h5735 [it31 h20 g,it34 h3292 g,.blk h.size g.cs 27]):V49zza g.n h5735 h g.n g.n (bs g.nm) g.hr g.hd g.n g.s g.e g.he g.ht role h20 g.n h3292 g.n R:=by
 unfold V49zza;refine⟨⟨by omega,by omega,by omega⟩,hs.newbE fun h6007 E hs=>⟨E.sm,?_⟩⟩;have hs:=hs.perm (List.perm_middle (l₁:=[_])).symm;exact⟨nV117m hT hn hs,nV117t hT hn hs⟩
theorem nV117zzb {g:Gl} {role:Int} {h h5735 h20 h3292:Heap} {R:Value->Heap->Prop} (hT:TailH g role h R) (hn:1<=g.n/\g.n<=200) (hs:St h h5735 [it31 h20 g,it34 h3292 g,.blk h.size g.cs 27]):V49zzb g.n h5735 h g.n g.n (bs g.nm) g.hr g.hd g.n g.s g.e g.he g.ht role h20 g.n h3292 g.n R:=by
 unfold V49zzb;refine⟨⟨by omega,by omega,by omega⟩,hs.newbE fun h6278 E hs=>⟨E.sm,?_⟩⟩;have hs:=hs.perm (List.perm_middle (l₁:=[_])).symm;exact⟨nV117n hT hn hs,nV117u hT hn hs⟩
theorem nV117zn {g:Gl} {role:Int} {h h8178 h20 h6549:Heap} {R:Value->Heap->Prop} (hT:TailH g role h R) (hn:1<=g.n/\g.n<=200) (hs:St h h8178 [it32 h20 g,it33 h6549 g,.blk h.size g.cs 27]):V49zn g.n h8178 h g.n g.n (bs g.nm) g.hr g.hd g.n g.s g.e g.he g.ht role h20 g.n h6549 g.n R:=by
 unfold V49zn;refine⟨⟨by omega,by omega,by omega⟩,hs.newbE fun h8179 E hs=>⟨E.sm,?_⟩⟩;exact⟨nV117g hT hn hs,nV117h hT hn hs⟩
theorem nV117zo {g:Gl} {role:Int} {h h8178 h20 h6549:Heap} {R:Value->Heap->Prop} (hT:TailH g role h R) (hn:1<=g.n/\g.n<=200) (hs:St h h8178 [it32 h20 g,it33 h6549 g,.blk h.size g.cs 27]):V49zo g.n h8178 h g.n g.n (bs g.nm) g.hr g.hd g.n g.s g.e g.he g.ht role h20 g.n h6549 g.n R:=by
 unfold V49zo;refine⟨⟨by omega,by omega,by omega⟩,hs.newbE fun h8450 E hs=>⟨E.sm,?_⟩⟩;exact⟨nV117k hT hn hs,nV117l hT hn hs⟩
theorem nV117o {g:Gl} {role:Int} {h h8721 h20 h6549 h8178:Heap} {R:Value->Heap->Prop} (hT:TailH g role h R) (hn:1<=g.n/\g.n<=200) (hs:St h h8721 [it32 h20 g,it33 h6549 g,it34 h8178 g,.blk h.size g.cs 27]):V49o g.n h8721 h g.n (bs g.nm) g.hr g.hd g.n g.s g.e g.he g.ht role h20 g.n h6549 g.n h8178 g.n R:=by
 unfold V49o;refine⟨⟨by omega,by omega,by omega⟩,hs.newbE fun h8722 E hs=>⟨E.sm,?_⟩⟩;exact nV117b hT hn hs
theorem nV117p {g:Gl} {role:Int} {h h8721 h20 h6549 h8178:Heap} {R:Value->Heap->Prop} (hT:TailH g role h R) (hn:1<=g.n/\g.n<=200) (hs:St h h8721 [it32 h20 g,it33 h6549 g,it34 h8178 g,.blk h.size g.cs 27]):V49p g.n h8721 h g.n (bs g.nm) g.hr g.hd g.n g.s g.e g.he g.ht role h20 g.n h6549 g.n h8178 g.n R:=by
 unfold V49p;refine⟨⟨by omega,by omega,by omega⟩,hs.newbE fun h8857 E hs=>⟨E.sm,?_⟩⟩;exact nV117c hT hn hs
theorem nV117zp {g:Gl} {role:Int} {h h8178 h20 h6549:Heap} {R:Value->Heap->Prop} (hT:TailH g role h R) (hn:1<=g.n/\g.n<=200) (hs:St h h8178 [it32 h20 g,it33 h6549 g,.blk h.size g.cs 27]):V49zp g.n h8178 h g.n g.n (bs g.nm) g.hr g.hd g.n g.s g.e g.he g.ht role h20 g.n h6549 g.n R:=by
 unfold V49zp;refine⟨⟨by omega,by omega,by omega⟩,hs.newbE fun h8721 E hs=>⟨E.sm,?_⟩⟩;have hs:=hs.perm (List.perm_middle (l₁:=[_,_])).symm;exact⟨nV117o hT hn hs,nV117p hT hn hs⟩
theorem nV117zq {g:Gl} {role:Int} {h h8992 h20 h6549:Heap} {R:Value->Heap->Prop} (hT:TailH g role h R) (hn:1<=g.n/\g.n<=200) (hs:St h h8992 [it32 h20 g,it34 h6549 g,.blk h.size g.cs 27]):V49zq g.n h8992 h g.n g.n (bs g.nm) g.hr g.hd g.n g.s g.e g.he g.ht role h20 g.n h6549 g.n R:=by
 unfold V49zq;refine⟨⟨by omega,by omega,by omega⟩,hs.newbE fun h8993 E hs=>⟨E.sm,?_⟩⟩;exact⟨nV117i hT hn hs,nV117q hT hn hs⟩
theorem nV117zr {g:Gl} {role:Int} {h h8992 h20 h6549:Heap} {R:Value->Heap->Prop} (hT:TailH g role h R) (hn:1<=g.n/\g.n<=200) (hs:St h h8992 [it32 h20 g,it34 h6549 g,.blk h.size g.cs 27]):V49zr g.n h8992 h g.n g.n (bs g.nm) g.hr g.hd g.n g.s g.e g.he g.ht role h20 g.n h6549 g.n R:=by
 unfold V49zr;refine⟨⟨by omega,by omega,by omega⟩,hs.newbE fun h9264 E hs=>⟨E.sm,?_⟩⟩;exact⟨nV117m hT hn hs,nV117t hT hn hs⟩
theorem nV117zzc {g:Gl} {role:Int} {h h8992 h20 h6549:Heap} {R:Value->Heap->Prop} (hT:TailH g role h R) (hn:1<=g.n/\g.n<=200) (hs:St h h8992 [it32 h20 g,it34 h6549 g,.blk h.size g.cs 27]):V49zzc g.n h8992 h g.n g.n (bs g.nm) g.hr g.hd g.n g.s g.e g.he g.ht role h20 g.n h6549 g.n R:=by
 unfold V49zzc;refine⟨⟨by omega,by omega,by omega⟩,hs.newbE fun h9535 E hs=>⟨E.sm,?_⟩⟩;have hs:=hs.perm (List.perm_middle (l₁:=[_])).symm;exact⟨nV117o hT hn hs,nV117p hT hn hs⟩
theorem nV117zb {g:Gl} {role:Int} {h h12249 h20 h9806:Heap} {R:Value->Heap->Prop} (hT:TailH g role h R) (hn:1<=g.n/\g.n<=200) (hs:St h h12249 [it33 h20 g,it34 h9806 g,.blk h.size g.cs 27]):V49zb g.n h12249 h g.n g.n (bs g.nm) g.hr g.hd g.n g.s g.e g.he g.ht role h20 g.n h9806 g.n R:=by
 unfold V49zb;refine⟨⟨by omega,by omega,by omega⟩,hs.newbE fun h12250 E hs=>⟨E.sm,?_⟩⟩;exact⟨nV117j hT hn hs,nV117s hT hn hs⟩
theorem nV117zc {g:Gl} {role:Int} {h h12249 h20 h9806:Heap} {R:Value->Heap->Prop} (hT:TailH g role h R) (hn:1<=g.n/\g.n<=200) (hs:St h h12249 [it33 h20 g,it34 h9806 g,.blk h.size g.cs 27]):V49zc g.n h12249 h g.n g.n (bs g.nm) g.hr g.hd g.n g.s g.e g.he g.ht role h20 g.n h9806 g.n R:=by
 unfold V49zc;refine⟨⟨by omega,by omega,by omega⟩,hs.newbE fun h12521 E hs=>⟨E.sm,?_⟩⟩;exact⟨nV117n hT hn hs,nV117u hT hn hs⟩
theorem nV117zh {g:Gl} {role:Int} {h h12249 h20 h9806:Heap} {R:Value->Heap->Prop} (hT:TailH g role h R) (hn:1<=g.n/\g.n<=200) (hs:St h h12249 [it33 h20 g,it34 h9806 g,.blk h.size g.cs 27]):V49zh g.n h12249 h g.n g.n (bs g.nm) g.hr g.hd g.n g.s g.e g.he g.ht role h20 g.n h9806 g.n R:=by
 unfold V49zh;refine⟨⟨by omega,by omega,by omega⟩,hs.newbE fun h12792 E hs=>⟨E.sm,?_⟩⟩;exact⟨nV117o hT hn hs,nV117p hT hn hs⟩
theorem nV117H0 {g:Gl} {role:Int} {h h20:Heap} {R:Value->Heap->Prop} (hT:TailH g role h R) (hn:1<=g.n/\g.n<=200) (hs:St h h20 [.blk h.size g.cs 27]):V49H0 g.n h20 h g.n g.n g.n g.n (bs g.nm) g.hr g.hd g.n g.s g.e g.he g.ht role R:=by
 unfold V49H0;refine⟨⟨by omega,by omega,by omega⟩,hs.newbE fun h35 E hs=>⟨E.sm,?_,?_,?_,?_⟩⟩
 .refine⟨⟨by omega,by omega,by omega⟩,hs.newbE fun h36 E hs=>⟨E.sm,?_⟩⟩;have hs:=hs.perm (List.perm_middle (l₁:=[_])).symm;exact⟨nV117zze hT hn hs,nV117zzd hT hn hs,nV117zx hT hn hs⟩
 .refine⟨⟨by omega,by omega,by omega⟩,hs.newbE fun h850 E hs=>⟨E.sm,?_⟩⟩;have hs:=hs.perm (List.perm_middle (l₁:=[_])).symm;exact⟨nV117zv hT hn hs,nV117zw hT hn hs,nV117zg hT hn hs⟩
 .refine⟨⟨by omega,by omega,by omega⟩,hs.newbE fun h1664 E hs=>⟨E.sm,?_⟩⟩;have hs:=hs.perm (List.perm_middle (l₁:=[_])).symm;exact⟨nV117zd hT hn hs,nV117zs hT hn hs,nV117ze hT hn hs⟩
 .refine⟨⟨by omega,by omega,by omega⟩,hs.newbE fun h2478 E hs=>⟨E.sm,?_⟩⟩;have hs:=hs.perm (List.perm_middle (l₁:=[_])).symm;exact⟨nV117zf hT hn hs,nV117zt hT hn hs,nV117zu hT hn hs⟩
theorem nV117H1 {g:Gl} {role:Int} {h h20:Heap} {R:Value->Heap->Prop} (hT:TailH g role h R) (hn:1<=g.n/\g.n<=200) (hs:St h h20 [.blk h.size g.cs 27]):V49H1 g.n h20 h g.n g.n g.n g.n (bs g.nm) g.hr g.hd g.n g.s g.e g.he g.ht role R:=by
 unfold V49H1;refine⟨⟨by omega,by omega,by omega⟩,hs.newbE fun h3292 E hs=>⟨E.sm,?_,?_,?_,?_⟩⟩
 .refine⟨⟨by omega,by omega,by omega⟩,hs.newbE fun h3293 E hs=>⟨E.sm,?_⟩⟩;exact⟨nV117zze hT hn hs,nV117zzd hT hn hs,nV117zx hT hn hs⟩
 .refine⟨⟨by omega,by omega,by omega⟩,hs.newbE fun h4107 E hs=>⟨E.sm,?_⟩⟩;have hs:=hs.perm (List.perm_middle (l₁:=[_])).symm;exact⟨nV117zi hT hn hs,nV117zy hT hn hs,nV117zj hT hn hs⟩
 .refine⟨⟨by omega,by omega,by omega⟩,hs.newbE fun h4921 E hs=>⟨E.sm,?_⟩⟩;have hs:=hs.perm (List.perm_middle (l₁:=[_])).symm;exact⟨nV117zk hT hn hs,nV117zz hT hn hs,nV117zl hT hn hs⟩
 .refine⟨⟨by omega,by omega,by omega⟩,hs.newbE fun h5735 E hs=>⟨E.sm,?_⟩⟩;have hs:=hs.perm (List.perm_middle (l₁:=[_])).symm;exact⟨nV117zm hT hn hs,nV117zza hT hn hs,nV117zzb hT hn hs⟩
theorem nV117H2 {g:Gl} {role:Int} {h h20:Heap} {R:Value->Heap->Prop} (hT:TailH g role h R) (hn:1<=g.n/\g.n<=200) (hs:St h h20 [.blk h.size g.cs 27]):V49H2 g.n h20 h g.n g.n g.n g.n (bs g.nm) g.hr g.hd g.n g.s g.e g.he g.ht role R:=by
 unfold V49H2;refine⟨⟨by omega,by omega,by omega⟩,hs.newbE fun h6549 E hs=>⟨E.sm,?_,?_,?_,?_⟩⟩
 .refine⟨⟨by omega,by omega,by omega⟩,hs.newbE fun h6550 E hs=>⟨E.sm,?_⟩⟩;exact⟨nV117zv hT hn hs,nV117zw hT hn hs,nV117zg hT hn hs⟩
 .refine⟨⟨by omega,by omega,by omega⟩,hs.newbE fun h7364 E hs=>⟨E.sm,?_⟩⟩;exact⟨nV117zi hT hn hs,nV117zy hT hn hs,nV117zj hT hn hs⟩
 .refine⟨⟨by omega,by omega,by omega⟩,hs.newbE fun h8178 E hs=>⟨E.sm,?_⟩⟩;have hs:=hs.perm (List.perm_middle (l₁:=[_])).symm;exact⟨nV117zn hT hn hs,nV117zo hT hn hs,nV117zp hT hn hs⟩
 .refine⟨⟨by omega,by omega,by omega⟩,hs.newbE fun h8992 E hs=>⟨E.sm,?_⟩⟩;have hs:=hs.perm (List.perm_middle (l₁:=[_])).symm;exact⟨nV117zq hT hn hs,nV117zr hT hn hs,nV117zzc hT hn hs⟩
theorem nV117H3 {g:Gl} {role:Int} {h h20:Heap} {R:Value->Heap->Prop} (hT:TailH g role h R) (hn:1<=g.n/\g.n<=200) (hs:St h h20 [.blk h.size g.cs 27]):V49H3 g.n h20 h g.n g.n g.n g.n (bs g.nm) g.hr g.hd g.n g.s g.e g.he g.ht role R:=by
 unfold V49H3;refine⟨⟨by omega,by omega,by omega⟩,hs.newbE fun h9806 E hs=>⟨E.sm,?_,?_,?_,?_⟩⟩
 .refine⟨⟨by omega,by omega,by omega⟩,hs.newbE fun h9807 E hs=>⟨E.sm,?_⟩⟩;exact⟨nV117zd hT hn hs,nV117zs hT hn hs,nV117ze hT hn hs⟩
 .refine⟨⟨by omega,by omega,by omega⟩,hs.newbE fun h10621 E hs=>⟨E.sm,?_⟩⟩;exact⟨nV117zk hT hn hs,nV117zz hT hn hs,nV117zl hT hn hs⟩
 .refine⟨⟨by omega,by omega,by omega⟩,hs.newbE fun h11435 E hs=>⟨E.sm,?_⟩⟩;exact⟨nV117zn hT hn hs,nV117zo hT hn hs,nV117zp hT hn hs⟩
 .refine⟨⟨by omega,by omega,by omega⟩,hs.newbE fun h12249 E hs=>⟨E.sm,?_⟩⟩;have hs:=hs.perm (List.perm_middle (l₁:=[_])).symm;exact⟨nV117zb hT hn hs,nV117zc hT hn hs,nV117zh hT hn hs⟩
theorem nV117H4 {g:Gl} {role:Int} {h h20:Heap} {R:Value->Heap->Prop} (hT:TailH g role h R) (hn:1<=g.n/\g.n<=200) (hs:St h h20 [.blk h.size g.cs 27]):V49H4 g.n h20 h g.n g.n g.n g.n (bs g.nm) g.hr g.hd g.n g.s g.e g.he g.ht role R:=by
 unfold V49H4;refine⟨⟨by omega,by omega,by omega⟩,hs.newbE fun h13063 E hs=>⟨E.sm,?_,?_,?_,?_⟩⟩
 .refine⟨⟨by omega,by omega,by omega⟩,hs.newbE fun h13064 E hs=>⟨E.sm,?_⟩⟩;exact⟨nV117zf hT hn hs,nV117zt hT hn hs,nV117zu hT hn hs⟩
 .refine⟨⟨by omega,by omega,by omega⟩,hs.newbE fun h13878 E hs=>⟨E.sm,?_⟩⟩;exact⟨nV117zm hT hn hs,nV117zza hT hn hs,nV117zzb hT hn hs⟩
 .refine⟨⟨by omega,by omega,by omega⟩,hs.newbE fun h14692 E hs=>⟨E.sm,?_⟩⟩;exact⟨nV117zq hT hn hs,nV117zr hT hn hs,nV117zzc hT hn hs⟩
 .refine⟨⟨by omega,by omega,by omega⟩,hs.newbE fun h15506 E hs=>⟨E.sm,?_⟩⟩;exact⟨nV117zb hT hn hs,nV117zc hT hn hs,nV117zh hT hn hs⟩
theorem St.blkAt {h0 h:Heap} {L:List It} (hs:St h0 h L) (k:Nat) {b:Nat} {xs:List Value} {e:TypeId} (hk:L[k]?=some (.blk b xs e)) (m n:Nat) (rows:List (List Value)) (hx:xs=rows.flatten) (hr:∀r∈rows,r.length=n) (hl:rows.length=m) (hm:m<=maxLen):St h0 h (L.set k (.sl ⟨some ⟨b,0,none⟩,m,m⟩ e n rows)):=by
 have hp:L.Perm (.blk b xs e::L.eraseIdx k):=by
  obtain⟨A,B,rfl,rfl⟩:=split_at hk;rw[List.eraseIdx_append_of_length_le (Yyt _),Nat.sub_self];exact List.perm_middle
 have h1:=(hs.perm hp).blkS m n rows hx hr hl hm;refine h1.perm ?_;obtain⟨A,B,rfl,rfl⟩:=split_at hk;rw[List.eraseIdx_append_of_length_le (Yyt _),Nat.sub_self,List.set_append_right _ _ (Yyt _),Nat.sub_self];exact List.perm_middle.symm
theorem made42s (n:Nat):madeL Pz 102 n=((List.replicate n (⟨none,0,0⟩:Sl)).map slC).flatten:=by
 have e:zeroC Pz 102=[.slice none 0 0]:=by kernel_rfl
 unfold madeL;rw[e,List.map_replicate];rfl
theorem made268s (n:Nat):madeL Pz 274 n=((List.replicate n (⟨none,0,0⟩:Sl)).map slC).flatten:=by
 have e:zeroC Pz 274=[.slice none 0 0]:=by kernel_rfl
 unfold madeL;rw[e,List.map_replicate];rfl
def evZ:Ev:=⟨false,0,0⟩
def lm0:Lm:=⟨0,evZ⟩
theorem made256s (n:Nat):madeL Pz 192 n=((List.replicate n lm0).map Lm.cs).flatten:=by
 have e:zeroC Pz 192=Lm.cs lm0:=by kernel_rfl
 unfold madeL;rw[e,List.map_replicate]
theorem app248:appB Pz 184 195 2 32=true:=by kernel_rfl
theorem app268:appB Pz 274 276 4 32=true:=by kernel_rfl
abbrev OuR:=Sl × List Int
abbrev ArR:=Sl × List Arv
def fIt (f:Fs):It:=.sl f.s 188 3 (f.l.map Ev.cs)
def anC (g:Gl) (role:Int) (ho hfi hli hag how har:Sl):List Value:=g.cs++[.int .i64 role,.slice ho.a ho.n ho.c,.slice hfi.a hfi.n hfi.c,.slice hli.a hli.n hli.c,.slice hag.a hag.n hag.c,.slice how.a how.n how.c,.slice har.a har.n har.c]
def anA (ab gb:Nat) (g:Gl) (role:Int) (ho hfi hli hag how har:Sl) (OU:List OuR) (FI:List Fs) (LI:List Lm) (AG OW:List Bool) (AR:List ArR):List It:=
 [.blk ab (anC g role ho hfi hli hag how har) 186,.sl ho 102 1 ((OU.map Prod.fst).map slC),.sl hfi 195 2 (FI.map Fs.cs),.sl hli 192 4 (LI.map Lm.cs),.sl hag 4 1 (AG.map bC),.sl how 4 1 (OW.map bC),.sl har 274 1 ((AR.map Prod.fst).map slC),.blk gb g.cs 27]++OU.map (nest 3 1 inC)++(FI.map fIt++AR.map (nest 276 4 Arv.cs))
def limTo (g:Gl) (role:Int) (t:To):Lm:=⟨t.k,(vis1 role (eA g.es t.e.toNat)).getD evZ⟩
def limFo (g:Gl) (role:Int) (ts:List To) (s:Nat):Lm:=ts.foldl (fun b t=>if t.s=(s:Int) then limTo g role t else b) lm0
def agFo (es:List Ed) (s:Nat):Bool:=es.any fun x=>decide (x.f=(s:Int))&&x.ag
def owFo (es:List Ed) (role:Int) (s:Nat):Bool:=es.any fun x=>decide (x.f=(s:Int))&&decide (x.a=role)
def outJ (es:List Ed) (j:Nat) (s:Nat):List Nat:=(List.range j).filter (outGP es (s:Int))
theorem outJ_snoc {es:List Ed} {j:Nat} {x:Ed} (hx:es[j]?=some x) (s:Nat):outJ es (j+1) s=outJ es j s++(if x.f=(s:Int) then [j] else []):=by
 unfold outJ;rw[List.range_succ,List.filter_append];congr 1;have hp:outGP es (s:Int) j=decide (x.f=(s:Int)):=by unfold outGP;rw[hx]
 by_cases e:x.f=(s:Int)
 .rw[if_pos e,List.filter_cons_of_pos (by rw[hp];exact decide_eq_true e)];rfl
 .rw[if_neg e,List.filter_cons_of_neg (by rw[hp,decide_eq_false e];simp)];rfl
theorem any_snoc {α:Type} {l:List α} {j:Nat} {x:α} (hx:l[j]?=some x) (p:α->Bool):(l.take (j+1)).any p=((l.take j).any p||p x):=by
 rw[take_snoc hx,List.any_append];simp
theorem range_set {α:Type} {n:Nat} {f f':Nat->α} {k:Nat} {y:α} (hk:k<n) (h1:f' k=y) (h2:∀s,s≠k->f' s=f s):((List.range n).map f).set k y=(List.range n).map f':=by
 apply Yyr;intro s;by_cases hs:s<n
 .by_cases e:k=s
  .subst e;rw[Yq (by rw[Yc,Yyd];exact hs),Yd,Yyb hs,<-h1];rfl
  .rw[Yy e,Yd,Yd,Yyb hs];show some (f s)=some (f' s);rw[h2 s (fun h=>e h.symm)]
 .rw[Yl (by rw[Yyh,Yc,Yyd];omega),Yl (by rw[Yc,Yyd];omega)]
theorem range_at {α:Type} {n:Nat} (f:Nat->α) {s:Nat} (hs:s<n):((List.range n).map f)[s]?=some (f s):=by rw[Yd,Yyb hs];rfl
theorem owFo_snoc {es:List Ed} {j:Nat} {x:Ed} (hx:es[j]?=some x) (role:Int) (s:Nat):owFo (es.take (j+1)) role s=(owFo (es.take j) role s||(decide (x.f=(s:Int))&&decide (x.a=role))):=by unfold owFo;rw[any_snoc hx]
theorem agFo_snoc {es:List Ed} {j:Nat} {x:Ed} (hx:es[j]?=some x) (s:Nat):agFo (es.take (j+1)) s=(agFo (es.take j) s||(decide (x.f=(s:Int))&&x.ag)):=by unfold agFo;rw[any_snoc hx]
theorem own117 {h0 h79 h39 h46:Heap} {m44:Nat} {I:Int->Heap->Nat->Prop} {y:Int} {g:Gl} {role:Int} {ho hfi hli hag how har:Sl} {OU:List OuR} {FI:List Fs} {LI:List Lm} {AG:List Bool} {AR:List ArR} {gb j n:Nat} {x:Ed} (hx:g.es[j]?=some x) (hf0:0<=x.f) (hf1:x.f.toNat<n)
  (hs:St h0 h79 (.blk h46.size x.cs 67::anA h39.size gb g role ho hfi hli hag how har OU FI LI AG ((List.range n).map (owFo (g.es.take j) role)) AR))
  (hI:∀h':Heap,St h0 h' (anA h39.size gb g role ho hfi hli hag how har OU FI LI AG ((List.range n).map (owFo (g.es.take (j+1)) role)) AR)->∃m,m<m44/\I (IntKind.wrap .i64 (y+1)) h' m) :
  V49za h79 h39 h46 m44 I y role:=by
 unfold V49za;have hwn:=(hs.len 6 (s:=how) (e:=4) (n:=1) (rows:=((List.range n).map (owFo (g.es.take j) role)).map bC) rfl (by omega)).1;rw[Yc,Yc,Yyd] at hwn;have hfn:((x.f.toNat:Nat):Int)=x.f:=Int.toNat_of_nonneg hf0;have fin:∀(v:Bool),v=owFo (g.es.take (j+1)) role x.f.toNat->((List.range n).map (owFo (g.es.take j) role)).set x.f.toNat v=(List.range n).map (owFo (g.es.take (j+1)) role):=fun v hv=>range_set hf1 hv.symm fun s hs'=>by
  rw[owFo_snoc hx,decide_eq_false (by omega)];simp
 refine⟨how,hs.rd 1 rfl (i:=13) rfl,x.f,hs.rd 0 rfl (i:=0) rfl,how,hs.rd 1 rfl (i:=13) rfl,x.f,hs.rd 0 rfl (i:=0) rfl,?_⟩;refine (hs.rows 6 rfl (by omega)).nbI (by omega) (by omega) fun b84 o85 d gd t=>?_;rw[range_at _ hf1] at gd;cases gd;refine⟨_,t.hd,sB_intro (fun c=>?_) (fun c=>?_)⟩
 .refine hs.set 6 rfl (by omega) (x:=x.f) (by omega) (by omega) true rfl rfl (fun b87 o88 h89 hs=>hI h89 ?_) rfl;rw[fin true (by rw[owFo_snoc hx,c];rfl)] at hs;exact hs.drop 1
 .refine⟨x.a,hs.rd 0 rfl (i:=1) rfl,?_⟩;refine hs.set 6 rfl (by omega) (x:=x.f) (by omega) (by omega) (x.a==role) rfl rfl (fun b92 o93 h94 hs=>hI h94 ?_) rfl;rw[fin (x.a==role) (by rw[owFo_snoc hx,c,hfn,decide_eq_true rfl,Bool.false_or,Bool.true_and];exact (Bool.eq_iff_iff.2 (by simp)))] at hs;exact hs.drop 1
theorem anA_G {h0 h:Heap} {ab gb:Nat} {g:Gl} {role:Int} {ho hfi hli hag how har:Sl} {OU:List OuR} {FI:List Fs} {LI:List Lm} {AG OW:List Bool} {AR:List ArR} {R:List It} (hs:St h0 h (anA ab gb g role ho hfi hli hag how har OU FI LI AG OW AR++R)) (hg:GI h0 g) (hO:OU.map Prod.snd=(List.range g.n.toNat).map fun s=>natI (outG g.es (s:Nat))) :
  AnG h ab g role ho (fun i=>((OU[i]?).map Prod.fst).getD ⟨none,0,0⟩):=by
 have hOl:OU.length=g.n.toNat:=by have:=congrArg List.length hO;simpa using this
 refine⟨hs.at 0 rfl (o:=0) (n:=10) rfl,hg.ext hs.ext,?_,fun i hi=>?_⟩
 .have h1:=hs.rw 1 (s:=ho) (e:=102) (n:=1) (rows:=(OU.map Prod.fst).map slC) rfl (by omega);have e:(OU.map Prod.fst).map slC=(List.range g.n.toNat).map fun i=>slC (((OU[i]?).map Prod.fst).getD ⟨none,0,0⟩):=by
   apply Yyr;intro i;rw[Yd,Yd,Yd];by_cases hi:i<g.n.toNat
   .obtain⟨q,hq⟩:=get_some (l:=OU) (i:=i) (by omega);rw[hq,Yyb hi,Option.map_some,Option.map_some,Option.map_some,hq];rfl
   .rw[Yl (by omega),Yl (by rw[Yyd];omega)];rfl
  rw[e] at h1;exact h1
 .obtain⟨q,hq⟩:=get_some (l:=OU) (i:=i) (by omega);have h1:=map_range_get hO hi;rw[Yd,hq] at h1;have h2:q.2=natI (outG g.es (i:Nat)):=Yyp h1;show Rw h 1 ((Option.map Prod.fst OU[i]?).getD ⟨none,0,0⟩) _;rw[hq,<-h2];refine hs.rwm (e:=3) ?_ (by omega);unfold anA;refine List.mem_append_left _ (List.mem_append_left _ (List.mem_append_right _ (Yp.2 ⟨q,Yb hq,rfl⟩)))
def AnSpec (g:Gl) (role:Int) (OU:List OuR) (FI:List Fs) (LI:List Lm) (AG OW:List Bool):Prop:=
 OU.map Prod.snd=((List.range g.n.toNat).map fun s=>natI (outG g.es (s:Nat)))/\FI.map (fun f=>(f.l,f.b))=((List.range g.n.toNat).map fun s=>(firstE g role (s:Nat),firstB g role (s:Nat)))/\LI=(List.range g.n.toNat).map (limFo g role g.ts)/\AG=(List.range g.n.toNat).map (agFo g.es)/\OW=(List.range g.n.toNat).map (owFo g.es role)
abbrev nilS:Sl:=⟨none,0,0⟩
theorem outJ_len (es:List Ed) (j s:Nat):(outJ es j s).length<=j:=Yys (List.length_filter_le _ _) (by rw[Yyd];exact Yyt _)
theorem natI_snoc1 (l:List Nat) (j:Nat):natI (l++[j])=natI l++[(j:Int)]:=by unfold natI;rw[Ym];rfl
theorem tail117 {g:Gl} {role:Int} {h:Heap} {R:Value->Heap->Prop} (hg:GI h g) (hV:ValidS g)
  (hK:∀(ab:Nat) (ho hfi hli hag how har:Sl) (OU:List OuR) (FI:List Fs) (LI:List Lm) (AG OW:List Bool) (h':Heap),St h h' (anA ab h.size g role ho hfi hli hag how har OU FI LI AG OW (List.replicate g.n.toNat (nilS,[])))->AnSpec g role OU FI LI AG OW->R (.tuple ⟨[.pointer (some ⟨ab,0,none⟩),.int .i64 0]⟩) h') :
  TailH g role h R:=by
 intro hF a b c d e hs;unfold V49a;have hN:=hV.num.n;have hM:=hV.num.m;have hE:=hV.num.e;have hen:=hg.e.ln;have htn:=hg.t.ln;have htm:=hg.t.sm;have hmx:g.n.toNat<=9223372036854775807:=by omega
 refine hs.newb fun h40 hs=>?_;have hs:=hs.blkAt 1 rfl g.n.toNat 1 ((List.replicate g.n.toNat nilS).map slC) (made42s _) (fun r hr=>by obtain⟨x,_,rfl⟩:=Yp.1 hr;rfl) (by rw[Yc,Yg]) hmx;have hs:=hs.blkAt 2 rfl g.n.toNat 4 ((List.replicate g.n.toNat lm0).map Lm.cs) (made256s _) (fun r hr=>by obtain⟨x,_,rfl⟩:=Yp.1 hr;rfl) (by rw[Yc,Yg]) hmx;have hs:=hs.blkAt 3 rfl g.n.toNat 1 ((List.replicate g.n.toNat false).map bC) (made4b _) (fun r hr=>by obtain⟨x,_,rfl⟩:=Yp.1 hr;rfl) (by rw[Yc,Yg]) hmx;have hs:=hs.blkAt 4 rfl g.n.toNat 1 ((List.replicate g.n.toNat false).map bC) (made4b _) (fun r hr=>by obtain⟨x,_,rfl⟩:=Yp.1 hr;rfl) (by rw[Yc,Yg]) hmx;have hs:=hs.blkAt 5 rfl g.n.toNat 1 ((List.replicate g.n.toNat nilS).map slC) (made268s _) (fun r hr=>by obtain⟨x,_,rfl⟩:=Yp.1 hr;rfl) (by rw[Yc,Yg]) hmx;have hs:=(hs.nil_ 195 2).perm (List.perm_middle (l₁:=[_,_])).symm;have hs:=hs.nests (α:=Arv) (e:=276) (k:=4) (cs:=Arv.cs) (A:=[_,_,_,_,_,_,_,_]) (B:=[]) g.n.toNat;rw[Yw] at hs;have hs:=hs.nests (α:=Int) (e:=3) (k:=1) (cs:=inC) (A:=[_,_,_,_,_,_,_,_]) (B:=_) g.n.toNat;generalize hho:(⟨some ⟨a.size,0,none⟩,g.n.toNat,g.n.toNat⟩:Sl)=ho at *;generalize hhl:(⟨some ⟨b.size,0,none⟩,g.n.toNat,g.n.toNat⟩:Sl)=hli at *;generalize hha:(⟨some ⟨c.size,0,none⟩,g.n.toNat,g.n.toNat⟩:Sl)=hag at *;generalize hhw:(⟨some ⟨d.size,0,none⟩,g.n.toNat,g.n.toNat⟩:Sl)=how at *;generalize hhr:(⟨some ⟨e.size,0,none⟩,g.n.toNat,g.n.toNat⟩:Sl)=har at *;have hs:St h h40 (anA hF.size h.size g role ho nilS hli hag how har (List.replicate g.n.toNat (nilS,[])) [] (List.replicate g.n.toNat lm0) (List.replicate g.n.toNat false) (List.replicate g.n.toNat false) (List.replicate g.n.toNat (nilS,[]))):=by
  subst hho hhl hha hhw hhr;unfold anA;rw[List.map_replicate (f:=Prod.fst),List.map_replicate (f:=Prod.fst)];exact hs
 clear hho hhl hha hhw hhr;refine⟨g.he,hs.rd 7 rfl (i:=6) rfl,?_⟩;have rr:∀ {α:Type} (f:Nat->α) (z:α),(∀s,f s=z)->List.replicate g.n.toNat z=(List.range g.n.toNat).map f:=fun {α} f z hz=>by
  apply Yyr;intro s;rw[List.getElem?_replicate];by_cases hsn:s<g.n.toNat
  .rw[if_pos hsn,range_at f hsn,hz]
  .rw[if_neg hsn,Yl (by rw[Yc,Yyd];omega)]
 refine⟨fun x h' μ=>∃(j:Nat) (OU:List OuR),x=(j:Int)/\μ=g.es.length-j/\j<=g.es.length/\OU.map Prod.snd=((List.range g.n.toNat).map fun s=>natI (outJ g.es j s)) /\
  St h h' (anA hF.size h.size g role ho nilS hli hag how har OU [] (List.replicate g.n.toNat lm0) ((List.range g.n.toNat).map (agFo (g.es.take j))) ((List.range g.n.toNat).map (owFo (g.es.take j) role)) (List.replicate g.n.toNat (nilS,[]))),
  ⟨_,0,List.replicate g.n.toNat (nilS,[]),rfl,rfl,by omega,?_,?_⟩,?_⟩
 .rw[List.map_replicate];exact rr _ _ fun s=>rfl
 .rw[<-rr (agFo (g.es.take 0)) false fun s=>rfl,<-rr (owFo (g.es.take 0) role) false fun s=>rfl];exact hs
 clear hs;rintro-_ h46 μ ⟨j,OU,rfl,rfl,hj,hOU,hs⟩;have hOl:OU.length=g.n.toNat:=by have:=congrArg List.length hOU;simpa using this
 refine sBi (fun c1=>?_) (fun c1=>?_)
 .refine (hg.e.rw.ext hs.ext).nbI (by omega) (by omega) fun b47 o48 x gx t=>?_;replace gx:g.es[j]?=some x:=gx;have hxe:=hE x (Yb gx);unfold EdS at hxe;have hxf:((x.f.toNat:Nat):Int)=x.f:=by omega
  have hxl:x.f.toNat<g.n.toNat:=by omega
  obtain⟨q,hq⟩:=get_some (l:=OU) (i:=x.f.toNat) (by omega);refine⟨_,_,_,_,_,_,t,?_⟩;refine hs.newput (vs:=x.cs) rfl rfl fun h56 hs=>?_;refine⟨ho,hs.rd 1 rfl (i:=9) rfl,x.f,hs.rd 0 rfl (i:=0) rfl,ho,hs.rd 1 rfl (i:=9) rfl,x.f,hs.rd 0 rfl (i:=0) rfl,?_⟩;have hon:=(hs.len 2 (s:=ho) (e:=102) (n:=1) (rows:=(OU.map Prod.fst).map slC) rfl (by omega)).1;rw[Yc,Yc] at hon;refine (hs.rows 2 rfl (by omega)).nbI (by omega) (by omega) fun b61 o62 d gd u=>?_;rw[Yd,hq] at gd;cases gd;refine⟨q.1,u.hd,?_⟩;refine hs.newbE fun h64 E64 hs=>⟨E64.sm,?_⟩;have hq2:q.2=natI (outJ g.es j x.f.toNat):=by
   have h1:=map_range_get hOU hxl;rw[Yd,hq] at h1;exact Yyp h1
  have hql:q.2.length<=400:=by rw[hq2];unfold natI;rw[Yc];have:=outJ_len g.es j x.f.toNat;omega
  have hs:St h h64 ((.blk h56.size (inC (j:Int)) 3 :: .blk h46.size x.cs 67::[.blk hF.size (anC g role ho nilS hli hag how har) 186,.sl ho 102 1 ((OU.map Prod.fst).map slC),.sl nilS 195 2 (([]:List Fs).map Fs.cs),.sl hli 192 4 ((List.replicate g.n.toNat lm0).map Lm.cs),.sl hag 4 1 (((List.range g.n.toNat).map (agFo (g.es.take j))).map bC),.sl how 4 1 (((List.range g.n.toNat).map (owFo (g.es.take j) role)).map bC),.sl har 274 1 (((List.replicate g.n.toNat ((nilS,[]):ArR)).map Prod.fst).map slC),.blk h.size g.cs 27])++OU.map (nest 3 1 inC)++(([]:List Fs).map fIt++(List.replicate g.n.toNat ((nilS,[]):ArR)).map (nest 276 4 Arv.cs))):=hs;have hqn:=(hs.nestLn hq (by omega)).ln;refine hs.nestAt hq app42 (j:Int) (hs.at 0 rfl (o:=0) (n:=1) rfl) rfl rfl (by omega) (by simp only[maxLen];omega) fun r h66 hr hs3=>?_;refine⟨sm_cons (hs.same hs3 1 1 rfl rfl) (sm_cons (hs.same hs3 2 2 rfl rfl) sm_nil),?_⟩;refine hs3.set 3 rfl (by omega) (x:=x.f) (by omega) (by omega) r rfl rfl (fun b67 o68 h69 hs=>?_) rfl;replace hs:=hs.drop 1;have hs:St h h69 (.blk h46.size x.cs 67::anA hF.size h.size g role ho nilS hli hag how har (OU.set x.f.toNat (r,q.2++[(j:Int)])) [] (List.replicate g.n.toNat lm0) ((List.range g.n.toNat).map (agFo (g.es.take j))) ((List.range g.n.toNat).map (owFo (g.es.take j) role)) (List.replicate g.n.toNat (nilS,[]))):=by
   unfold anA;rw[List.map_set (f:=Prod.fst)];exact hs
  have hOU2:(OU.set x.f.toNat (r,q.2++[(j:Int)])).map Prod.snd=((List.range g.n.toNat).map fun s=>natI (outJ g.es (j+1) s)):=by
   rw[List.map_set,hOU];refine range_set hxl ?_ fun s hs=>?_
   .show natI (outJ g.es (j+1) x.f.toNat)=q.2++[(j:Int)];rw[outJ_snoc gx,if_pos hxf.symm,natI_snoc1,hq2]
   .show natI (outJ g.es (j+1) s)=natI (outJ g.es j s);rw[outJ_snoc gx,if_neg (by omega),Yw]
  generalize OU.set x.f.toNat (r,q.2++[(j:Int)])=OU' at *;have hagn:=(hs.len 5 (s:=hag) (e:=4) (n:=1) (rows:=((List.range g.n.toNat).map (agFo (g.es.take j))).map bC) rfl (by omega)).1;rw[Yc,Yc,Yyd] at hagn;have fin:∀(v:Bool),v=agFo (g.es.take (j+1)) x.f.toNat->((List.range g.n.toNat).map (agFo (g.es.take j))).set x.f.toNat v=(List.range g.n.toNat).map (agFo (g.es.take (j+1))):=fun v hv=>range_set hxl hv.symm fun s hs'=>by
   rw[agFo_snoc gx,decide_eq_false (by omega)];simp
  refine⟨hag,hs.rd 1 rfl (i:=12) rfl,x.f,hs.rd 0 rfl (i:=0) rfl,hag,hs.rd 1 rfl (i:=12) rfl,x.f,hs.rd 0 rfl (i:=0) rfl,?_⟩;refine (hs.rows 5 rfl (by omega)).nbI (by omega) (by omega) fun b74 o75 d gd u2=>?_;rw[range_at _ hxl] at gd;cases gd;have last:∀ {hZ:Heap},St h hZ (.blk h46.size x.cs 67::anA hF.size h.size g role ho nilS hli hag how har OU' [] (List.replicate g.n.toNat lm0) ((List.range g.n.toNat).map (agFo (g.es.take (j+1)))) ((List.range g.n.toNat).map (owFo (g.es.take j) role)) (List.replicate g.n.toNat (nilS,[]))) ->
    V49za hZ hF h46 (g.es.length-j) (fun x h' μ=>∃(j:Nat) (OU:List OuR),x=(j:Int)/\μ=g.es.length-j/\j<=g.es.length/\OU.map Prod.snd=((List.range g.n.toNat).map fun s=>natI (outJ g.es j s))/\St h h' (anA hF.size h.size g role ho nilS hli hag how har OU [] (List.replicate g.n.toNat lm0) ((List.range g.n.toNat).map (agFo (g.es.take j))) ((List.range g.n.toNat).map (owFo (g.es.take j) role)) (List.replicate g.n.toNat (nilS,[])))) j role:=fun {hZ} hs=>by
   refine own117 gx (by omega) hxl hs fun h' hs'=>⟨_,?_,j+1,OU',by rw[w64 (by omega) (by omega)];omega,rfl,by omega,hOU2,hs'⟩;omega
  refine⟨_,u2.hd,sB_intro (fun c2=>?_) (fun c2=>?_)⟩
  .refine hs.set 5 rfl (by omega) (x:=x.f) (by omega) (by omega) true rfl rfl (fun b77 o78 h79 hs=>last ?_) rfl;rw[fin true (by rw[agFo_snoc gx,c2];rfl)] at hs;exact hs
  .refine⟨x.ag,hs.rd 0 rfl (i:=5) rfl,?_⟩;refine hs.set 5 rfl (by omega) (x:=x.f) (by omega) (by omega) x.ag rfl rfl (fun b97 o98 h99 hs=>last ?_) rfl;rw[fin x.ag (by rw[agFo_snoc gx,c2,hxf,decide_eq_true rfl,Bool.false_or,Bool.true_and])] at hs;exact hs
 .have hjn:j=g.es.length:=by omega
  subst hjn;rw[Yye] at hs;refine⟨g.ht,hs.rd 7 rfl (i:=7) rfl,?_⟩;refine⟨fun x h' μ=>∃j:Nat,x=(j:Int)/\μ=g.ht.n-j/\j<=g.ht.n/\St h h' (anA hF.size h.size g role ho nilS hli hag how har OU [] ((List.range g.n.toNat).map (limFo g role (g.ts.take j))) ((List.range g.n.toNat).map (agFo g.es)) ((List.range g.n.toNat).map (owFo g.es role)) (List.replicate g.n.toNat (nilS,[]))),⟨_,0,rfl,rfl,by omega,?_⟩,?_⟩
  .rw[<-rr (limFo g role (g.ts.take 0)) lm0 fun s=>rfl];exact hs
  clear hs c1;rintro-_ h121 μ ⟨k,rfl,rfl,hk,hs⟩;refine sBi (fun c2=>?_) (fun c2=>?_)
  .refine (hg.t.rw.ext hs.ext).nbI (by omega) (by omega) fun b122 o123 t gt u=>?_;replace gt:g.ts[k]?=some t:=gt;have htS:=hV.tim k t gt;obtain⟨he0,x,hx,hxf,_⟩:=htS.e;have hxl:=(Ya.1 hx).1;have hxe:=hE x (Yb hx);unfold EdS at hxe;have hts:t.s.toNat<g.n.toNat:=by omega
   refine⟨t.s,t.k,t.e,u,?_⟩;refine hs.newput (vs:=t.cs) rfl rfl fun h128 hs=>?_;refine⟨g.he,hs.rd 8 rfl (i:=6) rfl,t.e,hs.rd 0 rfl (i:=2) rfl,?_⟩;refine (hg.e.rw.ext hs.ext).nbI (by omega) (by omega) fun b131 o132 x' gx u2=>?_;rw[hx] at gx;cases gx;refine⟨_,_,_,_,_,_,u2,?_⟩;refine (seenR160 ⟨hF.size,0,none⟩ role x h128 (hs.rd 1 rfl (i:=8) rfl)).mono ?_;rintro _ h144 ⟨E144,rfl⟩;replace hs:=hs.step E144;have hlin:=(hs.len 4 (s:=hli) (e:=192) (n:=4) (rows:=((List.range g.n.toNat).map (limFo g role (g.ts.take k))).map Lm.cs) rfl (by omega)).1;rw[Yc,Yc,Yyd] at hlin;have rest:∀(y:Ev) (hy:(vis1 role x).getD evZ=y) {hZ:Heap},St h hZ (.blk h144.size y.cs 188 :: .blk h121.size t.cs 149::anA hF.size h.size g role ho nilS hli hag how har OU [] ((List.range g.n.toNat).map (limFo g role (g.ts.take k))) ((List.range g.n.toNat).map (agFo g.es)) ((List.range g.n.toNat).map (owFo g.es role)) (List.replicate g.n.toNat (nilS,[]))) ->
     (NB hli.a fun b153 o154=>(0<=t.s/\t.s<(hli.n:Nat))/\(okAt hZ ⟨b153,o154+Int.toNat t.s*4,none⟩ 4/\∀h155:Heap,h155=hputs hZ ⟨b153,o154+Int.toNat t.s*4,none⟩ 0 [.int .i64 t.k,.bool y.send,.int .i64 y.peer,.int .i64 y.label]->(∃m156,m156<g.ht.n-k/\∃j:Nat,IntKind.wrap .i64 ((k:Int)+1)=(j:Int)/\m156=g.ht.n-j/\j<=g.ht.n/\St h h155 (anA hF.size h.size g role ho nilS hli hag how har OU [] ((List.range g.n.toNat).map (limFo g role (g.ts.take j))) ((List.range g.n.toNat).map (agFo g.es)) ((List.range g.n.toNat).map (owFo g.es role)) (List.replicate g.n.toNat (nilS,[])))))):=fun y hy {hZ} hs=>by
    refine hs.set 5 rfl (by omega) (x:=t.s) (by omega) (by omega) (⟨t.k,y⟩:Lm) rfl rfl (fun b153 o154 h155 hs=>⟨_,?_,k+1,by rw[w64 (by omega) (by omega)];omega,rfl,by omega,?_⟩) rfl
    .omega
    .have e1:((List.range g.n.toNat).map (limFo g role (g.ts.take k))).set t.s.toNat (⟨t.k,y⟩:Lm)=(List.range g.n.toNat).map (limFo g role (g.ts.take (k+1))):=by
      refine range_set hts ?_ fun s hs=>?_
      .unfold limFo;rw[take_snoc gt,List.foldl_append];show (if t.s=((t.s.toNat:Nat):Int) then limTo g role t else _)=_;rw[if_pos (by omega)];unfold limTo;rw[eA_get hx,hy]
      .unfold limFo;rw[take_snoc gt,List.foldl_append];show (if t.s=((s:Nat):Int) then limTo g role t else _)=_;rw[if_neg (by omega)]
     rw[e1] at hs;exact hs.drop 2
   cases hvis:vis1 role x with
   | some y=>
    refine⟨y.send,y.peer,y.label,true,rfl,?_⟩;refine hs.newput (vs:=y.cs) rfl rfl fun h146 hs=>?_;refine⟨hli,hs.rd 2 rfl (i:=11) rfl,t.s,hs.rd 1 rfl (i:=0) rfl,t.k,hs.rd 1 rfl (i:=1) rfl,y.send,y.peer,y.label,hs.at 0 rfl (o:=0) (n:=3) rfl,?_⟩;exact rest y (by rw[hvis];rfl) hs
   | none=>
    refine⟨false,0,0,false,rfl,?_⟩;refine hs.newput (vs:=evZ.cs) rfl rfl fun h146 hs=>?_;refine⟨hli,hs.rd 2 rfl (i:=11) rfl,t.s,hs.rd 1 rfl (i:=0) rfl,t.k,hs.rd 1 rfl (i:=1) rfl,false,0,0,hs.at 0 rfl (o:=0) (n:=3) rfl,?_⟩;exact rest evZ (by rw[hvis];rfl) hs
  .rw[Yj (by omega)] at hs;refine⟨g.n,hs.rd 7 rfl (i:=3) rfl,?_⟩;refine⟨fun x h' μ=>∃(j:Nat) (hfi:Sl) (FI:List Fs),x=(j:Int)/\μ=g.n.toNat-j/\j<=g.n.toNat/\FI.map (fun f=>(f.l,f.b))=((List.range j).map fun s=>(firstE g role (s:Nat),firstB g role (s:Nat)))/\St h h' (anA hF.size h.size g role ho hfi hli hag how har OU FI ((List.range g.n.toNat).map (limFo g role g.ts)) ((List.range g.n.toNat).map (agFo g.es)) ((List.range g.n.toNat).map (owFo g.es role)) (List.replicate g.n.toNat (nilS,[]))),⟨_,0,nilS,[],rfl,rfl,Nat.zero_le _,rfl,hs⟩,?_⟩;clear hs c2 hk;rintro-_ h162 μ ⟨k,hfi,FI,rfl,rfl,hk,hFI,hs⟩;have hFl:FI.length=k:=by have:=congrArg List.length hFI;simpa using this
   refine sBi (fun c3=>?_) (fun c3=>?_)
   .refine⟨hfi,hs.rd 0 rfl (i:=10) rfl,?_⟩;have hOG:OU.map Prod.snd=((List.range g.n.toNat).map fun s=>natI (outG g.es (s:Nat))):=hOU;have hG:=anA_G (R:=[]) (by rw[Yw];exact hs) hg hOG;refine (firstsR161 hF.size g role ho _ k h162 hG hV (by omega)).mono ?_;rintro _ h167 ⟨r,rfl,hs2⟩;refine⟨r,firstB g role (k:Nat),rfl,hs2.ext.sm,?_⟩;have hs:=hs.join hs2;refine hs.newbE fun h168 E168 hs=>⟨E168.sm,?_⟩;have hfl:=hs.len 3 (s:=hfi) (e:=195) (n:=2) (rows:=FI.map Fs.cs) rfl (by omega);rw[Yc] at hfl;refine hs.appended 3 rfl app248 (news:=[Fs.cs ⟨r,firstE g role (k:Nat),firstB g role (k:Nat)⟩]) (hs.at 0 rfl (o:=0) (n:=2) rfl) rfl (fun q hq=>by rw[Ye] at hq;rw[hq];rfl) rfl (by show (hfi.n+1)*32<=140737488355328;omega) (by show hfi.n+1<=9223372036854775807;omega) fun s169 h170 n169 hs=>?_;refine hs.put 1 rfl (o:=10) (vs:=[.slice s169.a s169.n s169.c]) rfl (show 11<=15 by decide) fun h171 hs=>?_;refine⟨_,?_,k+1,s169,FI++[⟨r,firstE g role (k:Nat),firstB g role (k:Nat)⟩],by rw[w64 (by omega) (by omega)];omega,rfl,by omega,by rw[Ym,hFI,List.range_succ,Ym];rfl,?_⟩
    .omega
    .refine (hs.drop 1).perm ?_;unfold anA;rw[Ym (f:=Fs.cs),Ym (f:=fIt)];refine List.Perm.trans (List.Perm.of_eq (l₂:=[.blk hF.size (anC g role ho s169 hli hag how har) 186,.sl ho 102 1 ((OU.map Prod.fst).map slC),.sl s169 195 2 (FI.map Fs.cs++[⟨r,firstE g role (k:Nat),firstB g role (k:Nat)⟩].map Fs.cs),.sl hli 192 4 (((List.range g.n.toNat).map (limFo g role g.ts)).map Lm.cs),.sl hag 4 1 (((List.range g.n.toNat).map (agFo g.es)).map bC),.sl how 4 1 (((List.range g.n.toNat).map (owFo g.es role)).map bC),.sl har 274 1 (((List.replicate g.n.toNat ((nilS,[]):ArR)).map Prod.fst).map slC),.blk h.size g.cs 27]++OU.map (nest 3 1 inC)++((FI.map fIt++(List.replicate g.n.toNat ((nilS,[]):ArR)).map (nest 276 4 Arv.cs))++[.sl r 188 3 ((firstE g role (k:Nat)).map Ev.cs)])) ?_) (List.Perm.append_left _ ?_)
     .exact Yz ([.blk hF.size (anC g role ho s169 hli hag how har) 186,.sl ho 102 1 ((OU.map Prod.fst).map slC),.sl s169 195 2 (FI.map Fs.cs++[⟨r,firstE g role (k:Nat),firstB g role (k:Nat)⟩].map Fs.cs),.sl hli 192 4 (((List.range g.n.toNat).map (limFo g role g.ts)).map Lm.cs),.sl hag 4 1 (((List.range g.n.toNat).map (agFo g.es)).map bC),.sl how 4 1 (((List.range g.n.toNat).map (owFo g.es role)).map bC),.sl har 274 1 (((List.replicate g.n.toNat ((nilS,[]):ArR)).map Prod.fst).map slC),.blk h.size g.cs 27]++OU.map (nest 3 1 inC)) (FI.map fIt++(List.replicate g.n.toNat ((nilS,[]):ArR)).map (nest 276 4 Arv.cs)) [.sl r 188 3 ((firstE g role (k:Nat)).map Ev.cs)]
     .rw[Yz,Yz];exact List.Perm.append_left _ List.perm_append_comm
   .have hkn:k=g.n.toNat:=by omega
    subst hkn;exact hK hF.size ho hfi hli hag how har OU FI _ _ _ h162 hs ⟨hOU,hFI,rfl,rfl,rfl⟩
theorem analyse117 (g:Gl) (role:Int) (h:Heap) (hg:GI h g) (hx:Gm h) :
  Fn Pz 49 #[g.v,.int .i64 role] h fun v h'=>(¬(ValidS g/\0<=role/\role<g.rs.length)/\v=.tuple ⟨[.pointer none,.int .i64 1]⟩/\Ext h h') \/
   ((ValidS g/\0<=role/\role<g.rs.length)/\∃(ab:Nat) (ho hfi hli hag how har:Sl) (OU:List OuR) (FI:List Fs) (LI:List Lm) (AG OW:List Bool),v=.tuple ⟨[.pointer (some ⟨ab,0,none⟩),.int .i64 0]⟩/\St h h' (anA ab h.size g role ho hfi hli hag how har OU FI LI AG OW (List.replicate g.n.toNat (nilS,[])))/\AnSpec g role OU FI LI AG OW):=by
 apply vc49 (bs g.nm) g.hr g.hd g.n g.s g.e g.he g.ht role;unfold W49;have hrn:=hg.r.ln;refine (St.refl h).newb fun h9 hs=>?_;refine⟨_,_,_,_,_,_,_,_,hs.at 0 rfl (n:=8) rfl,?_⟩;refine (valid38 g h9 (hg.ext hs.ext) (hx.ext hs.ext)).mono ?_;rintro _ h20 ⟨rfl,E20⟩;replace hs:=hs.step E20;refine⟨_,rfl,?_⟩;by_cases hV:ValidS g
 .rw[decide_eq_true hV];refine sB_f rfl ?_;refine sBi (fun c=>.inl ⟨fun h=>by omega,rfl,hs.ext⟩) (fun c1=>?_);refine⟨g.hr,hs.rd 0 rfl (i:=1) rfl,sBi (fun c=>.inl ⟨fun h=>by omega,rfl,hs.ext⟩) (fun c2=>?_)⟩;have hN:=hV.num.n;refine⟨_,_,_,_,_,_,_,_,hs.at 0 rfl (n:=8) rfl,g.n,hs.rd 0 rfl (i:=3) rfl,g.n,hs.rd 0 rfl (i:=3) rfl,g.n,hs.rd 0 rfl (i:=3) rfl,g.n,hs.rd 0 rfl (i:=3) rfl,g.n,hs.rd 0 rfl (i:=3) rfl,?_⟩;have hT:TailH g role h fun v h'=>(¬(ValidS g/\0<=role/\role<g.rs.length)/\v=.tuple ⟨[.pointer none,.int .i64 1]⟩/\Ext h h') \/
   ((ValidS g/\0<=role/\role<g.rs.length)/\∃(ab:Nat) (ho hfi hli hag how har:Sl) (OU:List OuR) (FI:List Fs) (LI:List Lm) (AG OW:List Bool),v=.tuple ⟨[.pointer (some ⟨ab,0,none⟩),.int .i64 0]⟩/\St h h' (anA ab h.size g role ho hfi hli hag how har OU FI LI AG OW (List.replicate g.n.toNat (nilS,[])))/\AnSpec g role OU FI LI AG OW):=
   tail117 hg hV fun ab ho hfi hli hag how har OU FI LI AG OW h' hs hsp=>.inr ⟨⟨hV,by omega,by omega⟩,ab,ho,hfi,hli,hag,how,har,OU,FI,LI,AG,OW,rfl,hs,hsp⟩
  have hn:1<=g.n/\g.n<=200:=⟨by omega,by omega⟩;exact⟨nV117H0 hT hn hs,nV117H1 hT hn hs,nV117H2 hT hn hs,nV117H3 hT hn hs,nV117H4 hT hn hs⟩
 .rw[decide_eq_false hV];refine sB_t rfl (.inl ⟨fun h=>hV h.1,rfl,hs.ext⟩)
end Go.VC
end

section
namespace Go.VC
open Go.Proofs
/- (*farandole/realize.analysis).early
   loop rborrlbrrborrlbrrrrb: x_40:Int
   loop rborrlbrrb: x_14:Int
   loop rb: x_5:Int -/
def W82 (p0:Addr) (h:Heap) (R:Value->Heap->Prop):Prop:=
 (∃x1,rI h ⟨p0.block,p0.off+3,none⟩ x1 /\ 
 (QI 0 h fun I2 x_5 h6 m4=>(
 (sB (decide (x_5<x1)) 
 ((∃x7,rS h6 ⟨p0.block,p0.off+9,none⟩ x7 /\ 
 (NB x7.a fun b8 o9=>(Ib x_5 x7.n /\ 
 (∃x10,rS h6 ⟨b8,o9+Int.toNat x_5*1,none⟩ x10 /\ 
 (QI 0 h6 fun I11 x_14 h15 m13=>(
 (sB (decide (x_14<(x10.n:Int))) 
 ((NB x10.a fun b16 o17=>(Ib x_14 x10.n /\ 
 (∃x18,rI h15 ⟨b16,o17+Int.toNat x_14*1,none⟩ x18 /\ 
 (∃x19,rS h15 ⟨p0.block,p0.off+6,none⟩ x19 /\ 
 (NB x19.a fun b20 o21=>(Ib x18 x19.n /\ 
 (∃x22,rI h15 ⟨b20,o21+Int.toNat x18*6+1+1,none⟩ x22 /\ 
 (∃x23,rI h15 ⟨p0.block,p0.off+8,none⟩ x23 /\ 
 (sB (x22 != x23) 
 ((∃m24,m24<m13/\I11 (IntKind.wrap .i64 (x_14+1)) h15 m24)) 
 ((∃x25:ByteArray,∃x26:Sl,∃x27:Sl,∃x28:Int,∃x29:Int,∃x30:Int,∃x31:Sl,∃x32:Sl,atC h15 p0 [.string x25,vS x26,vS x27,vI x28,vI x29,vI x30,vS x31,vS x32] /\ 
 (Fn Pz 31 #[.agg ⟨[.string x25,vS x26,vS x27,vI x28,vI x29,vI x30,vS x31,vS x32]⟩,vI x18] h15 
 (fun v33 h36=>∃x34:Sl,∃x35:Int,v33=.tuple ⟨[vS x34,vI x35]⟩ /\ 
 (QI 0 h36 fun I37 x_40 h41 m39=>(
 (sB (decide (x_40<(x34.n:Int))) 
 ((NB x34.a fun b42 o43=>(Ib x_40 x34.n /\ 
 (∃x44:Int,∃x45:Int,atC h41 ⟨b42,o43+Int.toNat x_40*2,none⟩ [vI x44,vI x45] /\ 
 (Wn h41 [vI 0,vI 0] 72 fun h46=>
 (Wp h46 (aS h41 0) 2 [vI x44,vI x45] fun h47=>
 (∃x48,rI h47 (aS h41 0) x48 /\ 
 (∃x49,rS h47 ⟨p0.block,p0.off+6,none⟩ x49 /\ 
 (NB x49.a fun b50 o51=>(Ib x18 x49.n /\ 
 (∃x52,rI h47 ⟨b50,o51+Int.toNat x18*6+1,none⟩ x52 /\ 
 (sB (x48==x52) 
 ((∃m53,m53<m39/\I37 (IntKind.wrap .i64 (x_40+1)) h47 m53)) 
 ((∃x54:ByteArray,∃x55:Sl,∃x56:Sl,∃x57:Int,∃x58:Int,∃x59:Int,∃x60:Sl,∃x61:Sl,atC h47 p0 [.string x54,vS x55,vS x56,vI x57,vI x58,vI x59,vS x60,vS x61] /\ 
 (∃x62:Int,∃x63:Int,atC h47 (aS h41 0) [vI x62,vI x63] /\ 
 (Fn Pz 32 #[.agg ⟨[.string x54,vS x55,vS x56,vI x57,vI x58,vI x59,vS x60,vS x61]⟩,vI x18,.agg ⟨[vI x62,vI x63]⟩] h47 
 (fun v64 h67=>∃x65:Sl,∃x66:Int,v64=.tuple ⟨[vS x65,vI x66]⟩ /\ 
 (∃x68,rS h67 ⟨p0.block,p0.off+14,none⟩ x68 /\ 
 (∃x69,rS h67 ⟨p0.block,p0.off+14,none⟩ x69 /\ 
 (NB x69.a fun b70 o71=>(Ib x_5 x69.n /\ 
 (∃x72,rS h67 ⟨b70,o71+Int.toNat x_5*1,none⟩ x72 /\ 
 (∃x73:Int,∃x74:Int,atC h67 (aS h41 0) [vI x73,vI x74] /\ 
 (Wn h67 [vI x18,vI (IntKind.wrap .i64 (1+(x65.n:Int))),vI x73,vI x74] 276 fun h75=>
 (Sm [⟨b70,o71+Int.toNat x_5*1,none⟩,⟨p0.block,p0.off+14,none⟩,⟨p0.block,p0.off+14,none⟩] h67 h75 /\ 
 (App Pz 274 274 (vS x72) (.slice (some (aS h67 0)) 1 1) h75 fun s76 h77=>
 (Sm [⟨p0.block,p0.off+14,none⟩] h75 h77 /\ 
 (NB x68.a fun b78 o79=>(Ib x_5 x68.n /\ 
 (Wp h77 ⟨b78,o79+Int.toNat x_5*1,none⟩ 1 [vS s76] fun h80=>
 (∃m81,m81<m39/\I37 (IntKind.wrap .i64 (x_40+1)) h80 m81))))))))))))))))))))))))))))))) 
 ((∃m82,m82<m13/\I11 (IntKind.wrap .i64 (x_14+1)) h41 m82))))))))))))))))))) 
 ((∃m83,m83<m4/\I2 (IntKind.wrap .i64 (x_5+1)) h15 m83)))))))))) 
 (R (.tuple ⟨[]⟩) h6)))))
theorem vc82e (p0:Addr) (h:Heap) (R:Value->Heap->Prop):W82 p0 h R=fnW Pz 82 (.s .z (.b (.l [(16,.one (.int .i64))] (.s .z (.s .z (.s (.b (.s .z (.s .z (.b (.l [(27,.one (.int .i64))] (.s .z (.s .z (.s (.b (.s .z (.s .z (.s .z (.s .z (.b (.l [(57,.one (.int .i64))] .z))))))) .z)))))))) .z)))))) #[.pointer (some p0)] h R:=by kernel_rfl
theorem vc82 (p0:Addr) (h:Heap) (R:Value->Heap->Prop) (H:W82 p0 h R):Fn Pz 82 #[.pointer (some p0)] h R:=fnI (vc82e p0 h R) H
end Go.VC
end
