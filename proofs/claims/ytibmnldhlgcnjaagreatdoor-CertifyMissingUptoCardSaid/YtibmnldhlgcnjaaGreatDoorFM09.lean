/- PwAd PwAe PeG PeH PeI PeJ PeSort PeK PwAf PwAg PeL0 PeL PeP PeM PeN0 PeN PeO PwAh PeQ PeS PeT PeU FkA FkB FkC FkD FkE FkF FkG. -/
import Derived.Test.YtibmnldhlgcnjaaGreatDoorFM08
set_option linter.all false
set_option maxRecDepth 100000
set_option maxHeartbeats 8000000

section
namespace Go.VC
open Go.Proofs Go.LexS
theorem expected69 (m:Mch) (sf sm sl:Sl) (s peer label:Int) (h:Heap) (hM:MI h m sf sm sl) (hN:NumM m) (hs0:0<=s/\s<m.n) :
  Fn Pz 57 #[.agg ⟨mC m sf sm sl⟩,.int .i64 s,.int .i64 peer,.int .i64 label] h (RP (ExpM m s peer label) h):=by
 apply vc57 m.role m.n m.s sf sm sl s peer label;unfold W57 V57a;have hmn:=hM.pm.ln;have hmm:=hM.pm.sm;have hn:=hN.n;have hml:=hN.ml;refine (St.refl h).newb fun h7 hs=>?_;refine⟨_,hs.rd 0 rfl (i:=1) rfl,⟨by omega,by omega,by omega⟩,?_⟩;rw[made4];refine hs.newb fun h9 hs=>?_;refine⟨⟨by omega,by omega⟩,?_⟩;rw[show 0+Int.toNat s*1=s.toNat by omega];refine hs.put 0 rfl (o:=s.toNat) (vs:=[.bool true]) rfl (by rw[Yc,Yg,Yv];omega) fun h10 hs=>?_;rw[map_splice _ (by rw[Yg];omega)] at hs;refine hs.newb fun h11 hs=>?_;have hs:=hs.blkS 1 1 ([s].map inC) rfl (inrows _) rfl (by decide);have hC0:CL (medB m peer) (-1) m.n.toNat [s] ((List.replicate m.n.toNat false).set s.toNat true) [s]:=
  (CL.start (medB m peer) (-1) m.n.toNat [s]).push hs0.1 (by rw[List.getElem?_replicate,if_pos (by omega)]) (.base (Ye.2 rfl))
 refine⟨fun todo h' μ=>∃(D:List Bool) (T U:List Int),μ=(m.n.toNat-T.length)+U.length/\St h h' [.sl todo 3 1 (U.map inC),.blk h7.size (D.map Value.bool) 4,.blk h.size (mC m sf sm sl) 98]/\CL (medB m peer) (-1) m.n.toNat [s] D T/\s∈T/\(∀v∈U,v∈T)/\m.n.toNat-T.length+U.length<=m.n.toNat/\∀v∈T,v∈U\/DoneM m peer label T v,⟨_,_,[s],[s],rfl,hs,hC0,Ye.2 rfl,fun v hv=>hv,by rw[Yv];omega,fun v hv=>.inl hv⟩,?_⟩;clear hs hC0;rintro-todo h16 μ ⟨D,T,U,rfl,hs,hC,hsT,hUT,hcnt,hd⟩;obtain⟨hln,hcap,-⟩:=hs.len 0 (s:=todo) (e:=3) (n:=1) rfl (by omega);rw[Yc] at hln;have hle:=hC.le;refine sBi (fun c1=>?_) (fun c1=>?_)
 .have ew:IntKind.wrap .i64 ((todo.n:Int)-1)=((U.length-1:Nat):Int):=by rw[w64 (by omega) (by omega)];omega
  rw[ew];refine (hs.rows 0 (s:=todo) (cs:=inC) rfl (by omega)).nbI (by omega) (by omega) fun b17 o18 v gv t=>?_;rw[Ys] at gv;have hU:U=U.take (U.length-1)++[v]:=by
   rw[<-take_snoc gv,show U.length-1+1=U.length by omega,Yye]
  have hvT:=hUT v (Yb gv);have hqv:=hC.r v hvT;refine⟨v,t.hd,⟨by omega,by omega,by omega⟩,sm,hs.rd 2 rfl (i:=4) rfl,?_⟩;have hs:=hs.cut 0 (s:=todo) (e:=3) (n:=1) rfl (by omega) (U.length-1) (by omega);rw[<-List.map_take] at hs;have hU1:(U.take (U.length-1)).length=U.length-1:=by rw[Yu];omega
  generalize U.take (U.length-1)=U1 at *;refine⟨fun todo x h' μ=>∃(j:Nat) (D:List Bool) (T' U2:List Int),x=j/\μ=m.mv.length-j/\j<=m.mv.length/\St h h' [.sl todo 3 1 (U2.map inC),.blk h7.size (D.map Value.bool) 4,.blk h.size (mC m sf sm sl) 98]/\CL (medB m peer) (-1) m.n.toNat [s] D T'/\(∃R,T'=T++R)/\(∀y∈U2,y∈T')/\m.n.toNat-T'.length+U2.length=m.n.toNat-T.length+(U.length-1)/\(∀y∈T',y∈U2\/y=v\/DoneM m peer label T' y)/\∀k<j,∀y,m.mv[k]?=some y->y.f=v->DoneV m peer label T' y,⟨_,0,D,T,U1,rfl,rfl,Nat.zero_le _,hs,hC,⟨[],by simp⟩,fun y hy=>hUT y (by rw[hU];exact List.mem_append_left _ hy),by rw[hU1],fun y hy=>?_,fun k hk=>by omega⟩,?_⟩
  .rcases hd y hy with h1 | h1
   .rw[hU,Yk,Ye] at h1;exact h1.imp id .inl
   .exact .inr (.inr h1)
  have hU0:0<U.length:=by omega
  clear hs hC hln hcap;rintro-todo2 _ h26 μ ⟨j,D,T',U2,rfl,rfl,hj,hs,hC,⟨R,rfl⟩,hUT2,hcnt2,hd2,hm2⟩;have hle2:=hC.le;have hDl:=hC.len;obtain⟨hln,hcap,-⟩:=hs.len 0 (s:=todo2) (e:=3) (n:=1) rfl (by omega);rw[Yc] at hln;refine sBi (fun c2=>?_) (fun c2=>?_)
  .refine (hM.pm.rw.ext hs.ext).nbI (by omega) (by omega) fun b27 o28 x gx t2=>?_;replace gx:m.mv[j]?=some x:=gx;have hxm:=Yb gx;have hxr:=hN.mv x hxm;refine⟨_,_,_,_,_,_,t2,?_⟩;refine hs.newput (vs:=x.cs) rfl rfl fun h36 hs=>?_;have hstay:(x.f=v->DoneV m peer label (T++R) x)->∀k<j+1,∀y,m.mv[k]?=some y->y.f=v->DoneV m peer label (T++R) y:=fun hx1 k hk y hy hf=>by
    by_cases e:k=j
    .subst e;rw[gx] at hy;cases hy;exact hx1 hf
    .exact hm2 k (by omega) y hy hf
   have hgrow:¬Blk peer x->∀k<j+1,∀y,m.mv[k]?=some y->y.f=v->DoneV m peer label (T++R++[x.t]) y:=fun hnb k hk y hy hf=>by
    by_cases e:k=j
    .subst e;rw[gx] at hy;cases hy;exact⟨fun hb=>absurd hb hnb,fun _=>List.mem_append_right _ (Ye.2 rfl)⟩
    .exact (hm2 k (by omega) y hy hf).mono fun z hz=>List.mem_append_left _ hz
   have e1:0+Int.toNat x.t*1=x.t.toNat:=by omega
   obtain⟨z,hz⟩:=get_some (l:=D) (i:=x.t.toNat) (by omega);refine⟨x.f,hs.rd 0 rfl (i:=0) rfl,sBn (fun c3=>?_) (fun c3=>?_)⟩
   .exact⟨_,(show m.mv.length-(j+1)<m.mv.length-j by omega),j+1,D,T++R,U2,by rw[w64 (by omega) (by omega)];omega,rfl,by omega,hs.drop 1,hC,⟨R,rfl⟩,hUT2,hcnt2,hd2,hstay fun hf=>absurd hf c3⟩
   refine⟨x.send,hs.rd 0 rfl (i:=1) rfl,sB_intro (fun cs=>?_) (fun cs=>?_)⟩
   .refine⟨x.peer,hs.rd 0 rfl (i:=2) rfl,sBe (fun cp=>?_) (fun cp=>?_)⟩
    .have hbl:Blk peer x:=⟨bF cs,cp⟩;refine⟨x.label,hs.rd 0 rfl (i:=3) rfl,sBe (fun cl=>RP.t ⟨v,hqv,x,hxm,c3,hbl,cl⟩ hs.ext) (fun cl=>?_)⟩;exact⟨_,(show m.mv.length-(j+1)<m.mv.length-j by omega),j+1,D,T++R,U2,by rw[w64 (by omega) (by omega)];omega,rfl,by omega,hs.drop 1,hC,⟨R,rfl⟩,hUT2,hcnt2,hd2,hstay fun hf=>⟨fun _=>cl,fun hn=>absurd hbl hn⟩⟩
    .have hnb:¬Blk peer x:=fun hb=>cp hb.2;refine⟨x.t,hs.rd 0 rfl (i:=4) rfl,⟨by omega,by omega⟩,?_⟩;rw[e1];refine⟨z,hs.rd 2 rfl (by rw[map_get,hz];rfl),sB_intro (fun cz=>?_) (fun cz=>?_)⟩
     .have hzf:z=false:=bF cz;subst hzf;refine⟨x.t,hs.rd 0 rfl (i:=4) rfl,⟨by omega,by omega⟩,?_⟩;rw[e1];have hC2:=hC.push (by omega) hz (medB_step hqv hxm hnb c3);have hle3:=hC2.le;have hl3:(T++R++[x.t]).length=(T++R).length+1:=by rw[Yh,Yv]
      have hl4:(U2++[x.t]).length=U2.length+1:=by rw[Yh,Yv]
      refine hs.put 2 rfl (o:=x.t.toNat) (vs:=[.bool true]) rfl (by rw[Yc,Yv];omega) fun h46 hs=>?_;rw[map_splice _ (by omega)] at hs;refine⟨x.t,hs.rd 0 rfl (i:=4) rfl,?_⟩;refine hs.app 1 (s:=todo2) (rows:=U2.map inC) rfl app42 (m:=1) [[.int .i64 x.t]] rfl rfl (by simp) rfl (by omega) (by simp only[maxLen];omega) fun s49 h50 ns hs=>?_;refine⟨_,(show m.mv.length-(j+1)<m.mv.length-j by omega),j+1,D.set x.t.toNat true,T++R++[x.t],U2++[x.t],by rw[w64 (by omega) (by omega)];omega,rfl,by omega,?_,hC2,⟨R++[x.t],by rw[Yz]⟩,fun y hy=>?_,by omega,fun y hy=>?_,hgrow hnb⟩
      .rw[Ym];exact hs.drop 1
      .rcases Yk.1 hy with hy | hy
       .exact List.mem_append_left _ (hUT2 y hy)
       .exact List.mem_append_right _ hy
      .rcases Yk.1 hy with hy | hy
       .rcases hd2 y hy with h1 | h1 | h1
        .exact .inl (List.mem_append_left _ h1)
        .exact .inr (.inl h1)
        .exact .inr (.inr (h1.mono fun z hz=>List.mem_append_left _ hz))
       .exact .inl (List.mem_append_right _ hy)
     .have hzt:z=true:=bT cz;subst hzt;exact⟨_,(show m.mv.length-(j+1)<m.mv.length-j by omega),j+1,D,T++R,U2,by rw[w64 (by omega) (by omega)];omega,rfl,by omega,hs.drop 1,hC,⟨R,rfl⟩,hUT2,hcnt2,hd2,hstay fun hf=>⟨fun hb=>absurd hb hnb,fun _=>(hC.mem _).2 ⟨by omega,hz⟩⟩⟩
   .have hnb:¬Blk peer x:=fun hb=>by rw[hb.1] at cs;cases cs
    refine⟨x.t,hs.rd 0 rfl (i:=4) rfl,⟨by omega,by omega⟩,?_⟩;rw[e1];refine⟨z,hs.rd 2 rfl (by rw[map_get,hz];rfl),sB_intro (fun cz=>?_) (fun cz=>?_)⟩
    .have hzf:z=false:=bF cz;subst hzf;refine⟨x.t,hs.rd 0 rfl (i:=4) rfl,⟨by omega,by omega⟩,?_⟩;rw[e1];have hC2:=hC.push (by omega) hz (medB_step hqv hxm hnb c3);have hle3:=hC2.le;have hl3:(T++R++[x.t]).length=(T++R).length+1:=by rw[Yh,Yv]
     have hl4:(U2++[x.t]).length=U2.length+1:=by rw[Yh,Yv]
     refine hs.put 2 rfl (o:=x.t.toNat) (vs:=[.bool true]) rfl (by rw[Yc,Yv];omega) fun h46 hs=>?_;rw[map_splice _ (by omega)] at hs;refine⟨x.t,hs.rd 0 rfl (i:=4) rfl,?_⟩;refine hs.app 1 (s:=todo2) (rows:=U2.map inC) rfl app42 (m:=1) [[.int .i64 x.t]] rfl rfl (by simp) rfl (by omega) (by simp only[maxLen];omega) fun s49 h50 ns hs=>?_;refine⟨_,(show m.mv.length-(j+1)<m.mv.length-j by omega),j+1,D.set x.t.toNat true,T++R++[x.t],U2++[x.t],by rw[w64 (by omega) (by omega)];omega,rfl,by omega,?_,hC2,⟨R++[x.t],by rw[Yz]⟩,fun y hy=>?_,by omega,fun y hy=>?_,hgrow hnb⟩
     .rw[Ym];exact hs.drop 1
     .rcases Yk.1 hy with hy | hy
      .exact List.mem_append_left _ (hUT2 y hy)
      .exact List.mem_append_right _ hy
     .rcases Yk.1 hy with hy | hy
      .rcases hd2 y hy with h1 | h1 | h1
       .exact .inl (List.mem_append_left _ h1)
       .exact .inr (.inl h1)
       .exact .inr (.inr (h1.mono fun z hz=>List.mem_append_left _ hz))
      .exact .inl (List.mem_append_right _ hy)
    .have hzt:z=true:=bT cz;subst hzt;exact⟨_,(show m.mv.length-(j+1)<m.mv.length-j by omega),j+1,D,T++R,U2,by rw[w64 (by omega) (by omega)];omega,rfl,by omega,hs.drop 1,hC,⟨R,rfl⟩,hUT2,hcnt2,hd2,hstay fun hf=>⟨fun hb=>absurd hb hnb,fun _=>(hC.mem _).2 ⟨by omega,hz⟩⟩⟩
  .refine⟨_,(show (m.n.toNat-(T++R).length)+U2.length<(m.n.toNat-T.length)+U.length by omega),D,T++R,U2,rfl,hs,hC,List.mem_append_left _ hsT,hUT2,by omega,fun y hy=>?_⟩;rcases hd2 y hy with h1 | rfl | h1
   .exact .inl h1
   .refine .inr fun x hx hf=>?_;obtain⟨k,hk⟩:=Yf.1 hx;exact hm2 k (by have:=(Ya.1 hk).1;omega) x hk hf
   .exact .inr h1
 .refine RP.f (exp_end hC hsT fun v hv=>(hd v hv).resolve_left fun hu=>?_) hs.ext;have:U=[]:=List.eq_nil_of_length_eq_zero (by omega);rw[this] at hu;cases hu
end Go.VC
end

section
namespace Go.VC
open Go.Proofs Go.LexS
def UnxI (L:List Mch) (S:List Int) (BL:List (List Int)) (i:Nat):Prop:=∃(b:Int) (l:List Int) (m:Mch) (s:Int),BL[i]?=some (b::l)/\L[i%L.length]?=some m/\S[i%L.length]?=some s/\¬ExpM m s ((i/L.length:Nat):Int) b
open Classical in
noncomputable def badS (L:List Mch) (k:Int) (S:List Int) (BL:List (List Int)):Int:=if ∃i,UnxI L S BL i then 1 else if ¬FinS L S BL/\stepsS L k S BL=[] then 2 else 0
theorem badS_1 {L:List Mch} {k:Int} {S:List Int} {BL:List (List Int)} {i:Nat} (h:UnxI L S BL i):badS L k S BL=1:=by
 unfold badS;rw[if_pos ⟨i,h⟩]
theorem badS_2 {L:List Mch} {k:Int} {S:List Int} {BL:List (List Int)} (h:¬∃i,UnxI L S BL i) (h1:¬FinS L S BL) (h2:stepsS L k S BL=[]):badS L k S BL=2:=by
 unfold badS;rw[if_neg h,if_pos ⟨h1,h2⟩]
theorem badS_0 {L:List Mch} {k:Int} {S:List Int} {BL:List (List Int)} (h:¬∃i,UnxI L S BL i) (h1:FinS L S BL\/stepsS L k S BL≠[]):badS L k S BL=0:=by
 unfold badS;rw[if_neg h,if_neg (fun hc=>h1.elim hc.1 fun h2=>h2 hc.2)]
theorem unx_none {L:List Mch} {S:List Int} {BL:List (List Int)} {n:Nat} (hn:n=BL.length) (hq:∀j<n,¬UnxI L S BL j):¬∃i,UnxI L S BL i:=by
 rintro⟨j,hu⟩;by_cases hj:j<n
 .exact hq j hj hu
 .obtain⟨b,l,m,s,hb,_⟩:=hu;have:=(Ya.1 hb).1;omega
theorem unx_iff {L:List Mch} {S:List Int} {BL:List (List Int)} {i:Nat} {q:List Int} {m:Mch} {s x:Int} (hb:BL[i]?=some q) (hm:L[i%L.length]?=some m) (hs:S[i%L.length]?=some s) (hx:q[0]?=some x):UnxI L S BL i ↔ ¬ExpM m s ((i/L.length:Nat):Int) x:=by
 cases q with
 | nil=>cases hx
 | cons a l=>
  have e:a=x:=Yyp hx;subst e;constructor
  .rintro⟨b',l',m',s',h1,h2,h3,h4⟩;rw[hb] at h1;cases h1;rw[hm] at h2;cases h2;rw[hs] at h3;cases h3;exact h4
  .exact fun h=>⟨a,l,m,s,hb,hm,hs,h⟩
theorem bad38 (L:List MR) (s:Sl) (k:Int) (ss sb:Sl) (S:List Int) (B:List Bx) (h:Heap) (hS:SyI h s L) (hC:CfI h ss sb S B) :
  Fn Pz 25 #[.slice s.a s.n s.c,.int .i64 k,.agg ⟨[.slice ss.a ss.n ss.c,.slice sb.a sb.n sb.c]⟩] h fun v h'=>Ext h h'/\∃(b e:Int),v=.tuple ⟨[.int .i64 b,.int .i64 e]⟩/\(ProS (L.map MR.m) k S (B.map Bx.l)->e=0/\b=badS (L.map MR.m) k S (B.map Bx.l))/\(¬ProS (L.map MR.m) k S (B.map Bx.l)->e=1/\b=0):=by
 apply vc25 s k ss sb;unfold W25;have hn:=hS.r.ln;have hbn:=hC.b.ln;have hsn:=hC.s.ln;have hlm:(L.map MR.m).length=s.n:=by rw[Yc,hn]
 have hbm:(B.map Bx.l).length=B.length:=Yc _;refine (St.refl h).newb fun h3 hs=>?_;refine⟨ss,sb,hs.at 0 rfl (o:=0) (n:=2) rfl,?_⟩;refine (proper24 L s k ss sb S B h3 (hS.ext hs.ext) (hC.ext hs.ext)).mono ?_;rintro _ h8 ⟨⟨b,rfl,hb⟩,E⟩;have hs:=hs.step E;refine⟨_,rfl,sB_intro (fun c=>?_) (fun c=>?_)⟩
 .have hn:¬ProS (L.map MR.m) k S (B.map Bx.l):=fun hp=>by rw[hb.2 hp] at c;cases c
  exact⟨hs.ext,0,1,rfl,fun hp=>absurd hp hn,fun _=>⟨rfl,rfl⟩⟩
 have hp:=hb.1 (bT c);have hV6:=hp.v.n;rw[hlm] at hV6;have hSl:S.length=L.length:=by rw[hp.p.s,hlm,hn]
 have hBl:B.length=L.length*L.length:=by rw[<-hbm,hp.p.b,hlm,hn]
 have h36:=sq6 hV6.2;have hB36:B.length=s.n*s.n:=by rw[hBl,hn]
 refine⟨sb,hs.rd 0 rfl (i:=1) rfl,?_⟩;refine up_loopS (n:=sb.n) hs (fun i=>∀j<i,¬UnxI (L.map MR.m) S (B.map Bx.l) j) (fun j hj=>by omega) ?_;rintro-i h14 hi ⟨hs,hq⟩;refine sB_intro (fun c1=>?_) (fun c1=>?_)
 .replace c1:=lt_t c1;obtain⟨q,gq⟩:=get_some (l:=B) (i:=i) (by omega);have gq1:(B.map Bx.l)[i]?=some q.l:=by rw[Yd,gq];rfl
  have hqi:=hC.i q (Yb gq);have hqn:=hqi.ln;refine (hC.b.rw.ext hs.ext).nbI (by omega) (by omega) fun b15 o16 q' gq' t=>?_;replace gq':B[i]?=some q':=gq';rw[gq] at gq';cases gq';refine⟨q.s,t.hd,sBi (fun c2=>?_) (fun c2=>?_)⟩
  .have hmod:i%s.n<s.n:=Nat.mod_lt _ (by omega);have em:Int.tmod (i:Int) (s.n:Int)=((i%s.n:Nat):Int):=rfl;have hdl:i/s.n<=i:=Nat.div_le_self _ _;have ed:IntKind.wrap .i64 (Int.tdiv (i:Int) (s.n:Int))=((i/s.n:Nat):Int):=by rw[tdiv_nat,w64 (Int.le_trans (by decide) (Int.natCast_nonneg _)) (Int.le_trans (Int.ofNat_le.2 hdl) (by omega))]
   rw[em,ed];refine⟨by omega,?_⟩;refine (hS.r.rw.ext hs.ext).nbI (by omega) (by omega) fun b18 o19 y gy t2=>?_;rw[Ys] at gy;replace gy:L[i%s.n]?=some y:=gy;have gm:(L.map MR.m)[i%s.n]?=some y.m:=by rw[Yd,gy];rfl
   have hyi:=hS.i y (Yb gy);have hvm:=hp.v.m _ y.m gm;refine⟨_,_,_,_,_,_,t2,ss,hs.rd 0 rfl (i:=0) rfl,by omega,?_⟩;refine (hC.s.rw.ext hs.ext).nbI (by omega) (by omega) fun b27 o28 z gz t3=>?_;rw[Ys] at gz;replace gz:S[i%s.n]?=some z:=gz;refine⟨z,t3.hd,by omega,?_⟩;refine (hqi.rw.ext hs.ext).nbI (by decide) (by omega) fun b30 o31 x gx t4=>?_;replace gx:q.l[0]?=some x:=gx;refine⟨x,t4.hd,?_⟩;refine (expected69 y.m y.f y.g y.l z _ x h14 (hyi.ext hs.ext) hvm.2.1.n (hp.p.st _ z y.m gz gm)).mono ?_;rintro _ h35 ⟨⟨b3,rfl,hb3⟩,E⟩;have hs:=hs.step E;have hui:=unx_iff (L:=L.map MR.m) (S:=S) gq1 (by rw[hlm];exact gm) (by rw[hlm];exact gz) gx;rw[hlm] at hui;refine⟨b3,rfl,sB_intro (fun c3=>?_) (fun c3=>?_)⟩
   .have hu:=hui.2 fun he=>iff_f hb3 (bF c3) he;exact⟨hs.ext,1,0,rfl,fun _=>⟨rfl,(badS_1 hu).symm⟩,fun hn=>absurd hp hn⟩
   .refine Up.next (by omega) (by omega) ⟨hs,fun j hj=>?_⟩;by_cases e:j=i
    .subst e;exact fun hu=>hui.1 hu (hb3.1 (bT c3))
    .exact hq j (by omega)
  .refine Up.next (by omega) (by omega) ⟨hs,fun j hj=>?_⟩;by_cases e:j=i
   .subst e;rintro⟨b',l',m',s',h1,-⟩;rw[gq1] at h1;have h2:=congrArg List.length (Yyp h1);rw[Yyj] at h2;omega
   .exact hq j (by omega)
 .replace c1:=lt_f c1;have hno:=unx_none (show sb.n=(B.map Bx.l).length by omega) fun j hj=>hq j (by omega);refine⟨ss,sb,hs.at 0 rfl (o:=0) (n:=2) rfl,?_⟩;refine (final67 L s k ss sb S B h14 (hS.ext hs.ext) (hC.ext hs.ext) hp).mono ?_;rintro _ h42 ⟨⟨b2,rfl,hb2⟩,E⟩;have hs:=hs.step E;refine⟨b2,rfl,sB_intro (fun c3=>?_) (fun c3=>?_)⟩
  .have hnf:¬FinS (L.map MR.m) S (B.map Bx.l):=fun hf=>iff_f hb2 (bF c3) hf;refine⟨ss,sb,hs.at 0 rfl (o:=0) (n:=2) rfl,?_⟩;refine (steps47 L s k ss sb S B h42 (hS.ext hs.ext) hp.v (hC.ext hs.ext) hSl hBl).mono ?_;rintro _ h47 ⟨E,r,rfl,hr⟩;have hrn:=hr.ln;refine⟨r,rfl,sBe (fun c4=>?_) (fun c4=>?_)⟩
   .exact⟨hs.ext.trans E,2,0,rfl,fun _=>⟨rfl,(badS_2 hno hnf (List.eq_nil_of_length_eq_zero (by omega))).symm⟩,fun hn=>absurd hp hn⟩
   .exact⟨hs.ext.trans E,0,0,rfl,fun _=>⟨rfl,(badS_0 hno (.inr fun he=>c4 (by rw[hrn,he];rfl))).symm⟩,fun hn=>absurd hp hn⟩
  .exact⟨hs.ext,0,0,rfl,fun _=>⟨rfl,(badS_0 hno (.inl (hb2.1 (bT c3)))).symm⟩,fun hn=>absurd hp hn⟩
end Go.VC
end

section
namespace Go.VC
open Go.Proofs Go.LexS
theorem bad35 (L:List MR) (s:Sl) (k:Int) (eb wb:Nat) (ss sb:Sl) (S:List Int) (B:List Bx) (nz:Bool) (K:List (Wt × Bool)) (osl:Sl) (os:Nat->Sl) (qs:Nat->Nat->Sl) {h0 h:Heap} {A:List It} (hs:St h0 h (.mp wb (K.map wtC)::A)) (hS:SyI h0 s L)
  (hE:Sta A fun h=>EngX h eb wb s k L osl os qs) (hC:CfN A ss sb S B) (hP:ProS (L.map MR.m) k S (B.map Bx.l)) (hK:WtOk L K) (hnz:nz=true ↔ stepsS (L.map MR.m) k S (B.map Bx.l)≠[]) :
  Fn Pz 63 #[.pointer (some ⟨eb,0,none⟩),.agg ⟨[.slice ss.a ss.n ss.c,.slice sb.a sb.n sb.c]⟩,.bool nz] h fun v h'=>∃K':List (Wt × Bool),v=.int .i64 (badS (L.map MR.m) k S (B.map Bx.l))/\WtOk L K'/\St h0 h' (.mp wb (K'.map wtC)::A):=by
 apply vc63 ⟨eb,0,none⟩ ss sb nz;unfold W63;have hn:=hS.r.ln;have hlm:(L.map MR.m).length=s.n:=by rw[Yc,hn]
 have hbm:(B.map Bx.l).length=B.length:=Yc _;have hV6:=hP.v.n;rw[hlm] at hV6;have hSl:S.length=s.n:=by rw[hP.p.s,hlm]
 have hBl:B.length=s.n*s.n:=by rw[<-hbm,hP.p.b,hlm]
 have h36:=sq6 hV6.2;refine hs.newb fun h3 hs=>?_;have hsn:=((hC.at hs mem2).s).ln;have hbn:=((hC.at hs mem2).b).ln;refine⟨s,(hE.at hs mem2).e.hd,sb,hs.rd 0 rfl (i:=1) rfl,?_⟩;refine⟨fun x h' μ=>∃(i:Nat) (K':List (Wt × Bool)),x=(i:Int)/\μ=sb.n-i/\i<=sb.n/\St h0 h' (.blk h.size [.slice ss.a ss.n ss.c,.slice sb.a sb.n sb.c] 52 :: .mp wb (K'.map wtC)::A)/\WtOk L K'/\∀j<i,¬UnxI (L.map MR.m) S (B.map Bx.l) j,⟨_,0,K,rfl,rfl,Nat.zero_le _,hs,hK,fun j hj=>by omega⟩,?_⟩;clear hs hK;rintro-_ h10 μ ⟨i,K',rfl,rfl,hi,hs,hK,hq⟩;have hCc:=hC.at hs mem2;refine sBi (fun c1=>?_) (fun c1=>?_)
 .obtain⟨q,gq⟩:=get_some (l:=B) (i:=i) (by omega);have gq1:(B.map Bx.l)[i]?=some q.l:=by rw[Yd,gq];rfl
  have hqi:=hCc.i q (Yb gq);have hqn:=hqi.ln;refine hCc.b.rw.nbI (by omega) (by omega) fun b11 o12 q' gq' t=>?_;rw[Ys,gq] at gq';cases gq';refine⟨q.s,t.hd,sBi (fun c2=>?_) (fun c2=>?_)⟩
  .have hmod:i%s.n<s.n:=Nat.mod_lt _ (by omega);have em:Int.tmod (i:Int) (s.n:Int)=((i%s.n:Nat):Int):=rfl;have hdl:i/s.n<=i:=Nat.div_le_self _ _;have hd0:(-9223372036854775808:Int)<=((i/s.n:Nat):Int):=Int.le_trans (by decide) (Int.natCast_nonneg _);have hd1:((i/s.n:Nat):Int)<=9223372036854775807:=Int.le_trans (Int.ofNat_le.2 hdl) (by omega);have ed:IntKind.wrap .i64 (Int.tdiv (i:Int) (s.n:Int))=((i/s.n:Nat):Int):=by rw[tdiv_nat,w64 hd0 hd1]
   rw[em,ed];obtain⟨y,gy⟩:=get_some (l:=L) (i:=i%s.n) (by omega);have gm:(L.map MR.m)[i%s.n]?=some y.m:=by rw[Yd,gy];rfl
   refine⟨by omega,ss,hs.rd 0 rfl (i:=0) rfl,by omega,?_⟩;refine hCc.s.rw.nbI (by omega) (by omega) fun b15 o16 z gz t3=>?_;rw[Ys] at gz;replace gz:S[i%s.n]?=some z:=gz;refine⟨z,t3.hd,by omega,?_⟩;refine hqi.rw.nbI (by decide) (by omega) fun b18 o19 x gx t4=>?_;replace gx:q.l[0]?=some x:=gx;have hxr:=((hP.p.bx i q.l gq1).2.2 x (Yb gx));refine⟨x,t4.hd,?_⟩;refine (expected70 L s k eb wb (i%s.n) y z _ x K' osl os qs (hs.perm (List.Perm.swap _ _ _)) hS hP.v (hE.mono mem1) hK gy (hP.p.st _ z y.m gz gm) (show inR ((i/s.n:Nat):Int) from ⟨hd0,hd1⟩) (show inR x from ⟨by omega,by omega⟩)).mono ?_;rintro _ h23 ⟨b3,K2,rfl,hb3,hK2,hs2⟩;have hs:=hs2.perm (List.Perm.swap _ _ _);have hui:=unx_iff (L:=L.map MR.m) (S:=S) gq1 (by rw[hlm];exact gm) (by rw[hlm];exact gz) gx;rw[hlm] at hui;refine⟨b3,rfl,sB_intro (fun c3=>?_) (fun c3=>?_)⟩
   .have hu:=hui.2 fun he=>iff_f hb3 (bF c3) he;exact⟨K2,by rw[badS_1 hu],hK2,hs.drop 1⟩
   .refine⟨_,(show sb.n-(i+1)<sb.n-i by omega),i+1,K2,by rw[w64 (by omega) (by omega)];omega,rfl,by omega,hs,hK2,fun j hj=>?_⟩;by_cases e:j=i
    .subst e;exact fun hu=>hui.1 hu (hb3.1 (bT c3))
    .exact hq j (by omega)
  .refine⟨_,(show sb.n-(i+1)<sb.n-i by omega),i+1,K',by rw[w64 (by omega) (by omega)];omega,rfl,by omega,hs,hK,fun j hj=>?_⟩;by_cases e:j=i
   .subst e;rintro⟨b',l',m',s',h1,-⟩;rw[gq1] at h1;have h2:=congrArg List.length (Yyp h1);rw[Yyj] at h2;omega
   .exact hq j (by omega)
 .have hno:=unx_none (show sb.n=(B.map Bx.l).length by omega) fun j hj=>hq j (by omega);refine sB_intro (fun c2=>?_) (fun c2=>?_)
  .have hnn:stepsS (L.map MR.m) k S (B.map Bx.l)=[]:=Classical.byContradiction fun h=>by have:=hnz.2 h;rw[this] at c2;cases c2
   refine⟨ss,sb,hs.at 0 rfl (o:=0) (n:=2) rfl,?_⟩;refine (final71 L s k eb ss sb S B h10 (hS.ext hs.ext) (hE.at hs mem2).r hCc hP).mono ?_;rintro _ h30 ⟨⟨b2,rfl,hb2⟩,E⟩;have hs:=hs.step E;refine⟨b2,rfl,sB_intro (fun c3=>?_) (fun c3=>?_)⟩
   .exact⟨K',by rw[badS_2 hno (fun hf=>iff_f hb2 (bF c3) hf) hnn],hK,hs.drop 1⟩
   .exact⟨K',by rw[badS_0 hno (.inl (hb2.1 (bT c3)))],hK,hs.drop 1⟩
  .exact⟨K',by rw[badS_0 hno (.inr (hnz.1 (bT c2)))],hK,hs.drop 1⟩
theorem reverse72 (X:List (Nat × Nat)) (s:Sl) {h0 h:Heap} {A:List It} (hs:St h0 h (.sl s 43 2 (X.map stpC)::A)) (hl:X.length<=1048576) :
  Fn Pz 125 #[.slice s.a s.n s.c] h fun v h'=>v=.tuple ⟨[]⟩/\St h0 h' (.sl s 43 2 (X.reverse.map stpC)::A):=by
 apply vc125 s;unfold W125;have hn:=(hs.rows 0 (s:=s) (cs:=stpC) rfl (by omega)).ln;refine⟨fun i j h' μ=>∃(a:Nat) (Y:List (Nat × Nat)),i=(a:Int)/\j=(s.n:Int)-1-(a:Int)/\μ=s.n-a/\2*a<=s.n/\Y.length=X.length/\(∀t,t<s.n->Y[t]?=if t<a\/s.n-a<=t then X[s.n-1-t]? else X[t]?)/\St h0 h' (.sl s 43 2 (Y.map stpC)::A),⟨_,0,X,rfl,by rw[w64 (by omega) (by omega)];omega,rfl,by omega,rfl,fun t ht=>by rw[if_neg (by omega)],hs⟩,?_⟩;clear hs;rintro-_ _ h6 μ ⟨a,Y,rfl,rfl,rfl,ha,hY,hq,hs⟩;refine sBi (fun c=>?_) (fun c=>?_)
 .have ej:(s.n:Int)-1-(a:Int)=((s.n-1-a:Nat):Int):=by omega
  rw[ej];obtain⟨b,hb⟩:∃b,b=s.n-1-a:=⟨_,rfl⟩;rw[<-hb];obtain⟨x,gx⟩:=get_some (l:=Y) (i:=b) (by omega);obtain⟨y,gy⟩:=get_some (l:=Y) (i:=a) (by omega);refine (hs.rows 0 (s:=s) (cs:=stpC) rfl (by omega)).nbI (by omega) (by omega) fun b7 o8 x' gx' t=>?_;rw[Ys,gx] at gx';cases gx';refine⟨(x.1:Int),(x.2:Int),t,?_⟩;refine (hs.rows 0 (s:=s) (cs:=stpC) rfl (by omega)).nbI (by omega) (by omega) fun b11 o12 y' gy' t2=>?_;rw[Ys,gy] at gy';cases gy';refine⟨(y.1:Int),(y.2:Int),t2,?_⟩;refine hs.set 0 (s:=s) (cs:=stpC) (x:=(a:Int)) rfl (by omega) (by omega) (by omega) x rfl rfl (fun b15 o16 h17 hs=>?_) rfl;rw[Ys] at hs;refine hs.set 0 (s:=s) (cs:=stpC) (x:=(b:Int)) rfl (by omega) (by omega) (by omega) y rfl rfl (fun b18 o19 h20 hs=>?_) rfl;rw[Ys] at hs;refine⟨_,(show s.n-(a+1)<s.n-a by omega),a+1,(Y.set a x).set b y,by rw[w64 (by omega) (by omega)];omega,by rw[w64 (by omega) (by omega)];omega,rfl,by omega,by rw[Yyh,Yyh,hY],fun w ht=>?_,hs⟩;have hab:a<b:=by omega
  have h1:=hq a (by omega);have h2:=hq b (by omega);rw[gy,if_neg (by omega)] at h1;rw[gx,if_neg (by omega)] at h2;by_cases e1:w=b
  .rw[e1,Yq (by rw[Yyh];omega),if_pos (by omega),show s.n-1-b=a by omega];exact h1
  .rw[Yy (Ne.symm e1)];by_cases e2:w=a
   .rw[e2,Yq (by omega),if_pos (by omega),show s.n-1-a=b by omega];exact h2
   .rw[Yy (Ne.symm e2),hq w ht];by_cases e3:w<a\/s.n-a<=w
    .rw[if_pos e3,if_pos (by omega)]
    .rw[if_neg e3,if_neg (by omega)]
 .have hYX:Y=X.reverse:=by
   refine Yyr fun t=>?_;by_cases ht:t<s.n
   .rw[List.getElem?_reverse (by omega),hq t ht,<-hn];by_cases e3:t<a\/s.n-a<=t
    .rw[if_pos e3]
    .rw[if_neg e3,show s.n-1-t=t by omega]
   .rw[Yl (by omega),Yl (by rw[List.length_reverse];omega)]
  rw[hYX] at hs;exact⟨rfl,hs⟩
structure Vs where
 c1:Sl
 c2:Sl
 S:List Int
 B:List Bx
 ah:Int
 a:Nat
 b:Nat
 tr:List (Nat × Nat)
def Vs.cs (v:Vs):List Value:=[.slice v.c1.a v.c1.n v.c1.c,.slice v.c2.a v.c2.n v.c2.c,.int .i64 v.ah,.int .i64 (v.a:Int),.int .i64 (v.b:Int)]
def TrOk (V:List Vs):Prop:=∀(j:Nat) (v:Vs),V[j]?=some v->v.tr.length<=j/\((v.ah=-1/\v.tr=[])\/∃(p:Nat) (u:Vs),p<j/\V[p]?=some u/\v.ah=(p:Int)/\v.tr=u.tr++[(v.a,v.b)])
theorem trace36 (V:List Vs) (s:Sl) (i:Nat) (v0:Vs) (h:Heap) (hr:Rw h 5 s (V.map Vs.cs)) (hl:V.length<=1048576) (g0:V[i]?=some v0) (hT:TrOk V) :
  Fn Pz 64 #[.slice s.a s.n s.c,.int .i64 (i:Int)] h fun v h'=>∃r:Sl,v=.slice r.a r.n r.c/\St h h' [.sl r 43 2 (v0.tr.map stpC)]:=by
 apply vc64 s (i:Int);unfold W64;have hn:=hr.ln;have h0l:=(hT i v0 g0).1;have hil:=(Ya.1 g0).1;have hs:=(St.refl h).nil_ 43 2;refine⟨fun x out h' μ=>∃(j:Nat) (u:Vs) (O:List (Nat × Nat)),x=(j:Int)/\μ=j/\V[j]?=some u/\u.tr++O.reverse=v0.tr/\St h h' [.sl out 43 2 (O.map stpC)],⟨_,i,v0,[],rfl,rfl,g0,by simp,hs⟩,?_⟩;clear hs;rintro-_ out h6 μ ⟨j,u,O,rfl,hμ,gu,ho,hs⟩;have hjl:=(Ya.1 gu).1;have hol:O.length<=V.length:=by
  have:=congrArg List.length ho;rw[Yh,List.length_reverse] at this;omega
 have hon:=(hs.rows 0 (s:=out) (cs:=stpC) rfl (by omega)).ln;have rd:∀ {h':Heap} {F:Nat->Nat->Prop},Ext h h'->(∀b o,atC h' ⟨b,o+Int.toNat (j:Int)*5,none⟩ u.cs->F b o)->NB s.a fun b o=>(0<=(j:Int)/\(j:Int)<(s.n:Nat))/\F b o:=fun E hF=>
  (hr.ext E).nbI (by omega) (by omega) fun b o u' gu' t=>by
   rw[Ys,gu] at gu';cases gu';exact hF b o t
 refine rd hs.ext fun b7 o8 t=>?_;refine⟨u.ah,t.nth 2 rfl,sBi (fun c=>?_) (fun c=>?_)⟩
 .rcases (hT j u gu).2 with ⟨e1,_⟩ | ⟨p,w,hp,gw,e1,e2⟩
  .omega
  .refine rd hs.ext fun b10 o11 t=>?_;refine⟨(u.a:Int),(u.b:Int),t.sub 3 2 rfl,?_⟩;refine hs.app 0 (s:=out) (n:=2) (rows:=O.map stpC) rfl app30e (m:=1) [stpC (u.a,u.b)] rfl rfl (by simp[stpC,stC]) rfl (by omega) (by simp only[maxLen];omega) fun r h16 nr hs=>?_;refine rd hs.ext fun b17 o18 t=>?_;refine⟨u.ah,t.nth 2 rfl,p,by omega,p,w,O++[(u.a,u.b)],e1,rfl,gw,?_,by rw[Ym];exact hs⟩;rw[<-ho,e2,List.reverse_append,Yz];rfl
 .rcases (hT j u gu).2 with ⟨e1,e2⟩ | ⟨p,w,hp,gw,e1,e2⟩
  .refine (reverse72 O out hs (by omega)).mono ?_;rintro _ h22 ⟨rfl,hs⟩;rw[e2,List.nil_append] at ho;rw[ho] at hs;exact⟨rfl,out,rfl,hs⟩
  .omega
theorem clone38 (ss sb:Sl) (S:List Int) (B:List Bx) (h:Heap) (hC:CfI h ss sb S B) :
  Fn Pz 66 #[.agg ⟨[.slice ss.a ss.n ss.c,.slice sb.a sb.n sb.c]⟩] h (CloV S B h):=by
 apply vc66 ss sb;unfold W66 V66b V66a;have hbn:=hC.b.ln;have hbs:=hC.b.sm;refine (St.refl h).newb fun h3 hs=>?_;refine hs.newb fun h4 hs=>?_;refine⟨ss,hs.rd 1 rfl (i:=0) rfl,sb,hs.rd 1 rfl (i:=1) rfl,?_⟩;rw[Ys];have hc:((0:Int)<=(sb.n:Int)/\((sb.n:Int):Int)<=(sb.n:Int)/\((24:Nat):Int)*(sb.n:Int)<=140737488355328):=⟨by omega,by omega,by omega⟩;have mk:∀ {hX:Heap} {b:Nat} {L:List It},St h hX (.blk b (madeL Pz 25 sb.n) 25::L)->St h hX (.sl ⟨some ⟨b,0,none⟩,sb.n,sb.n⟩ 25 1 ((List.replicate B.length bx0).map Bx.cs)::L):=fun hs=>
  hs.blkS sb.n 1 _ (by rw[hbn];exact boxes0 _) (bxrows _) (by rw[Yc,Yg,hbn]) (by simp only[maxLen];omega)
 refine And.intro ?_ (And.intro ?_ ?_)
 .refine (clone92 S ss h4 (hC.s.ext hs.ext)).mono ?_;rintro _ h9 ⟨ts,rfl,hs2⟩;have hs:=hs.join hs2;refine⟨ts,rfl,hs2.ext.sm,And.intro ?_ ?_⟩
  .refine⟨hc,hs.newbE fun h10 E10 hs=>⟨E10.sm,?_⟩⟩;have hs:=mk hs;refine hs.newbE fun h11 E11 hs=>⟨E11.sm,?_⟩;refine hs.put 0 rfl (o:=0) (vs:=[.slice ts.a ts.n ts.c,.slice (some ⟨h9.size,0,none⟩) sb.n sb.n]) rfl (show 2<=2 by decide) fun h12 hs=>?_;exact cloneB _ _ _ ss sb ts ⟨some ⟨h9.size,0,none⟩,sb.n,sb.n⟩ ⟨none,0,0⟩ ⟨none,0,0⟩ S B h h12 hC hs
  .refine hs.newbE fun h10 E10 hs=>⟨E10.sm,hc,?_⟩;refine hs.newbE fun h11 E11 hs=>⟨E11.sm,?_⟩;have hs:=mk hs;refine hs.put 1 rfl (o:=0) (vs:=[.slice ts.a ts.n ts.c,.slice (some ⟨h10.size,0,none⟩) sb.n sb.n]) rfl (show 2<=2 by decide) fun h12 hs=>?_;exact cloneB _ _ _ ss sb ts ⟨some ⟨h10.size,0,none⟩,sb.n,sb.n⟩ ⟨none,0,0⟩ ⟨none,0,0⟩ S B h h12 hC (hs.perm (List.Perm.swap _ _ _))
 .refine⟨hc,hs.newbE fun h10 E10 hs=>⟨E10.sm,?_⟩⟩;have hs:=mk hs;refine And.intro ?_ ?_;refine (clone92 S ss h10 (hC.s.ext hs.ext)).mono ?_;rintro _ h9 ⟨ts,rfl,hs2⟩;have hs:=hs.join hs2;refine⟨ts,rfl,hs2.ext.sm,?_⟩;refine hs.newbE fun h11 E11 hs=>⟨E11.sm,?_⟩;rotate_left;refine hs.newbE fun h11 E11 hs=>⟨E11.sm,?_⟩;refine (clone92 S ss h11 (hC.s.ext hs.ext)).mono ?_;rintro _ h9 ⟨ts,rfl,hs2⟩;have hs:=hs.join hs2;refine⟨ts,rfl,hs2.ext.sm,?_⟩;all_goals
   refine hs.put 0 rfl (o:=0) (vs:=[.slice ts.a ts.n ts.c,.slice (some ⟨h4.size,0,none⟩) sb.n sb.n]) rfl (show 2<=2 by decide) fun h12 hs=>?_;exact cloneB _ _ _ ss sb ts ⟨some ⟨h4.size,0,none⟩,sb.n,sb.n⟩ ⟨none,0,0⟩ ⟨none,0,0⟩ S B h h12 hC hs
 .refine hs.newbE fun h10 E10 hs=>⟨E10.sm,And.intro ?_ ?_⟩
  .refine (clone92 S ss h10 (hC.s.ext hs.ext)).mono ?_;rintro _ h9 ⟨ts,rfl,hs2⟩;have hs:=hs.join hs2;refine⟨ts,rfl,hs2.ext.sm,hc,?_⟩;refine hs.newbE fun h11 E11 hs=>⟨E11.sm,?_⟩;have hs:=mk hs;refine hs.put 1 rfl (o:=0) (vs:=[.slice ts.a ts.n ts.c,.slice (some ⟨h9.size,0,none⟩) sb.n sb.n]) rfl (show 2<=2 by decide) fun h12 hs=>?_;exact cloneB _ _ _ ss sb ts ⟨some ⟨h9.size,0,none⟩,sb.n,sb.n⟩ ⟨none,0,0⟩ ⟨none,0,0⟩ S B h h12 hC (hs.perm (List.Perm.swap _ _ _))
  .refine⟨hc,hs.newbE fun h11 E11 hs=>⟨E11.sm,?_⟩⟩;have hs:=mk hs;refine (clone92 S ss h11 (hC.s.ext hs.ext)).mono ?_;rintro _ h9 ⟨ts,rfl,hs2⟩;have hs:=hs.join hs2;refine⟨ts,rfl,hs2.ext.sm,?_⟩;refine hs.put 1 rfl (o:=0) (vs:=[.slice ts.a ts.n ts.c,.slice (some ⟨h10.size,0,none⟩) sb.n sb.n]) rfl (show 2<=2 by decide) fun h12 hs=>?_;exact cloneB _ _ _ ss sb ts ⟨some ⟨h10.size,0,none⟩,sb.n,sb.n⟩ ⟨none,0,0⟩ ⟨none,0,0⟩ S B h h12 hC (hs.perm (List.Perm.swap _ _ _))
end Go.VC
end

section
namespace Go.VC
open Go.Proofs Go.LexS
variable [Mono]
namespace M
theorem order66 (x y:Mv) (h:Heap):Fn Pz 120 #[.agg ⟨x.cs⟩,.agg ⟨y.cs⟩] h fun v h'=>v=.int .i64 (cmpE x.ev y.ev)/\Ext h h':=by
 apply vc120 x.f x.send x.peer x.label x.t x.ag y.f y.send y.peer y.label y.t y.ag;unfold W120;refine (St.refl h).newb fun h13 hs=>?_;refine hs.newb fun h14 hs=>?_;refine⟨x.send,hs.rd 1 rfl (i:=1) rfl,y.send,hs.rd 0 rfl (i:=1) rfl,sB_intro (fun c=>?_) (fun c=>?_)⟩
 .refine⟨x.send,hs.rd 1 rfl (i:=1) rfl,sB_intro (fun d=>⟨?_,hs.ext⟩) (fun d=>⟨?_,hs.ext⟩)⟩
  .congr 1;obtain⟨f,s,p,l,t,a⟩:=x;obtain⟨f',s',p',l',t',a'⟩:=y;dsimp only at c d;unfold cmpE Mv.ev;cases s<;>cases s'<;>simp_all
  .congr 1;obtain⟨f,s,p,l,t,a⟩:=x;obtain⟨f',s',p',l',t',a'⟩:=y;dsimp only at c d;unfold cmpE Mv.ev;cases s<;>cases s'<;>simp_all
 .refine⟨x.peer,hs.rd 1 rfl (i:=2) rfl,y.peer,hs.rd 0 rfl (i:=2) rfl,x.label,hs.rd 1 rfl (i:=3) rfl,y.label,hs.rd 0 rfl (i:=3) rfl,?_⟩;refine (cmp110 _ _ _).mono ?_;rintro _ _ ⟨rfl,rfl⟩;refine⟨_,rfl,fun _ _ _ _ hv=>hv,?_⟩;refine (cmp110 _ _ _).mono ?_;rintro _ _ ⟨rfl,rfl⟩;refine⟨_,rfl,fun _ _ _ _ hv=>hv,?_⟩;refine hs.newb fun h28 hs=>?_;have hs2:=hs.blkS 2 1 ([cmpI x.peer y.peer,cmpI x.label y.label].map inC) rfl (inrows _) rfl (by decide);refine (or109 [cmpI x.peer y.peer,cmpI x.label y.label] _ h28 (hs2.rows 0 rfl (by omega)) (show 2<=1048576 by decide)).mono ?_;rintro _ _ ⟨rfl,rfl⟩;refine⟨_,rfl,?_,hs.ext⟩;show Value.int .i64 (orI3 _ (orI3 _ 0))=_;congr 1;obtain⟨f,s,p,l,t,a⟩:=x;obtain⟨f',s',p',l',t',a'⟩:=y;dsimp only at c;unfold cmpE orI3 Mv.ev;cases s<;>cases s'<;>simp_all [cmpI]<;>(repeat' split)<;>omega
theorem start65 (mv:List Mv) (sm:Sl) (a:Addr) (i k:Nat) (x y:Mv) (h:Heap) (ha:hc h ⟨a.block,a.off+4,none⟩=some (.slice sm.a sm.n sm.c)) (hr:Rw h 6 sm (mv.map Mv.cs)) (hx:mv[i]?=some x) (hy:mv[k]?=some y) :
  Fn Pz 119 #[.int .i64 (i:Int),.int .i64 (k:Int),.pointer (some a)] h fun v h'=>v=.int .i64 (cmpE x.ev y.ev)/\Ext h h':=by
 apply vc119 (i:Int) (k:Int) a;unfold W119;have hn:=hr.ln;have hxl:=(Ya.1 hx).1;have hyl:=(Ya.1 hy).1;refine⟨sm,ha,?_⟩;refine hr.nbI (by omega) (by omega) fun b o x' gx t=>?_;rw[Ys,hx] at gx;cases gx;refine⟨_,_,_,_,_,_,t,sm,ha,?_⟩;refine hr.nbI (by omega) (by omega) fun b2 o2 y' gy t2=>?_;rw[Ys,hy] at gy;cases gy;refine⟨_,_,_,_,_,_,t2,?_⟩;refine (order66 x y h).mono ?_;rintro _ h29 ⟨rfl,E⟩;exact⟨_,rfl,rfl,E⟩
end M
def Sort64:Prop:=∀(m:Mch) (sm:Sl) (a:Addr) {h0 h:Heap} {Ls:List It},St h0 h Ls->∀(i:Nat) {s:Sl} {l:List Nat},Ls[i]?=some (.sl s 3 1 ((natI l).map inC))->(∀x∈l,x<m.mv.length)->(l=[]->s.a=none)->m.mv.length<=1048576->l.length<=1048576 ->
 (∀h':Heap,h.size<=h'.size->(∀c,c<h.size->s.a.map (·.block)≠some c->h'[c]?=h[c]?)->hc h' ⟨a.block,a.off+4,none⟩=some (.slice sm.a sm.n sm.c)/\Rw h' 6 sm (m.mv.map Mv.cs)) ->
 Fn Pz 118 #[.slice s.a s.n s.c,.func (.func 119) #[] #[.pointer (some a)]] h fun v h'=>v=.tuple ⟨[]⟩/\∃l':List Nat,l'.Perm l/\l'.Pairwise (fun a b=>¬evLt (evI m b) (evI m a))/\St h0 h' (Ls.set i (.sl s 3 1 ((natI l').map inC)))
end Go.VC
end

section
namespace Go.VC
open Go.Proofs Go.Shelf
theorem sort64:Sort64:=by
 intro m sm a h0 h Ls hs i s l hi hlm hnil hml hll hread;by_cases hl0:l=[]
 .subst hl0;have ha:=hnil rfl;have hget:=hs.get hi;rcases hget.1.2 with ⟨_,hn0,hc0⟩ | ⟨b,cur,ha',_⟩
  .have hset:Ls.set i (.sl s 3 1 ((natI []).map inC))=Ls:=by
    obtain⟨p,q⟩:=Ya.1 hi;rw[<-q];exact List.set_getElem_self p
   intro w hw;subst hw;rw[ha,hn0,hc0];refine (AnyF.slices_SortFunc_none { Tryz.sortL152 with } none ((0:Nat):Nat) (.func (.func 119) #[] #[.pointer (some a)]) w).mono ?_;rintro e' w' ⟨rfl,rfl⟩;exact⟨_,rfl,⟨rfl,[],List.Perm.refl _,List.Pairwise.nil,by rw[hset];exact hs⟩,rfl,rfl,rfl,trivial⟩
  .rw[ha] at ha';cases ha'
 .have hpos:0<m.mv.length:=by
   cases l with
   | nil=>exact absurd rfl hl0
   | cons x r=>have:=hlm x Yx;omega
  haveI:Inhabited (Fin m.mv.length):=⟨⟨0,hpos⟩⟩
  obtain⟨k,rfl⟩:=fin_list hlm;have hi':Ls[i]?=some (.sl s 3 1 (k.map fun x=>[finE x])):=by rw[hi,natI_fin]
  rw[Yc] at hll;refine Fn.mono (sort_own1 Tryz.sortL152 3 (finE (n:=m.mv.length)) (fun _=>rfl) (fun x y:Fin m.mv.length=>cmpE (evI m x.val) (evI m y.val)) (swo_on swoE fun x:Fin m.mv.length=>evI m x.val) 119 #[.pointer (some a)] (enters_of Tryz.func119 (by kernel_rfl) rfl) hs i hi' (by omega) (fun x y h' hsz hoth=>?_)) ?_
  .obtain⟨r1,r2⟩:=hread h' hsz hoth;have g:∀x:Fin m.mv.length,m.mv[x.val]?=some m.mv[x.val]:=fun x=>Yi x.isLt;have ev:∀x:Fin m.mv.length,evI m x.val=m.mv[x.val].ev:=fun x=>by unfold evI;rw[g x]
   rw[ev x,ev y];exact @M.start65 monoDrawn m.mv sm a x.val y.val m.mv[x.val] m.mv[y.val] h' r1 r2 (g x) (g y)
  .rintro v h' ⟨rfl,k',hp,hw,hs'⟩;refine⟨rfl,k'.map Fin.val,hp.map _,?_,by rw[natI_fin];exact hs'⟩;rw[List.pairwise_map];refine hw.imp fun {a b} hab=>?_;unfold ltOf at hab;rw[decide_eq_false_iff_not,cmpE_neg] at hab;exact hab
end Go.VC
end

section
namespace Go.VC
open Go.Proofs Go.LexS
structure Tbr where
 o:Sl
 q:List (Sl × List Int)
instance:Inhabited Tbr:=⟨⟨⟨none,0,0⟩,[]⟩⟩
def tabs (T:List Tbr):List It:=T.flatMap fun t=>.sl t.o 25 1 ((t.q.map Prod.fst).map slC)::t.q.map (nest 3 1 inC)
structure TbF (m:Mch) (t:Tbr):Prop where
 n:t.o.n=m.n.toNat
 l:t.q.length=m.n.toNat
 q:∀(j:Nat) q,t.q[j]?=some q->q.2=natI (mvS m (j:Int))
def tbP (y:MR) (bm:Nat) (ho:Sl) (qs:List (Sl × List Int)):List It:=[.sl ho 25 1 ((qs.map Prod.fst).map slC),.blk bm (MR.cs y) 98]
theorem app145:appB Pz 194 26 1 24=true:=by kernel_rfl
theorem tabs_snoc (T:List Tbr) (t:Tbr):tabs (T++[t])=tabs T++(.sl t.o 25 1 ((t.q.map Prod.fst).map slC)::t.q.map (nest 3 1 inC)):=by
 unfold tabs;rw[List.flatMap_append,List.flatMap_cons,List.flatMap_nil,Yw]
theorem tabs_o {T:List Tbr} {t:Tbr} (ht:t∈T):It.sl t.o 25 1 ((t.q.map Prod.fst).map slC)∈tabs T:=List.mem_flatMap.2 ⟨t,ht,Yx⟩
theorem tabs_q {T:List Tbr} {t:Tbr} (ht:t∈T) {q:Sl × List Int} (hq:q∈t.q):nest 3 1 inC q∈tabs T:=List.mem_flatMap.2 ⟨t,ht,Yn _ (List.mem_map_of_mem hq)⟩
theorem St.rwm {h0 h:Heap} {L:List It} (hs:St h0 h L) {s:Sl} {e n:Nat} {rows:List (List Value)} (hk:It.sl s e n rows∈L) (hn:0<n):Rw h n s rows:=by
 obtain⟨k,hk⟩:=Yf.1 hk;exact hs.rw k hk hn
theorem St.atm {h0 h:Heap} {L:List It} (hs:St h0 h L) {b:Nat} {xs:List Value} {e:TypeId} (hk:It.blk b xs e∈L):atC h ⟨b,0,none⟩ xs:=by
 obtain⟨k,hk⟩:=Yf.1 hk;exact hs.at k hk (o:=0) (n:=xs.length) (by rw[List.drop_zero,Yye])
theorem Rw.one {α:Type} {h:Heap} {b n c:Nat} {l:List α} {cs:α->List Value} (hr:Rw h 1 ⟨some ⟨b,0,none⟩,n,c⟩ (l.map cs)) {x:Int} (h0:0<=x) (h1:x<(n:Int)) {d:α} (hd:l[x.toNat]?=some d) {v:Value} (hv:(cs d)[0]?=some v):hc h ⟨b,0+x.toNat*1,none⟩=some v:=by
 have:NB (some ⟨b,0,none⟩) fun b o=>((0<=x/\x<(n:Int))/\hc h ⟨b,o+x.toNat*1,none⟩=some v):=hr.nbI h0 h1 fun b o d' hd' t=>by
  rw[hd] at hd';cases hd';exact t.nth 0 hv
 exact this.2
theorem St.set0 {α:Type} {h0 h:Heap} {L:List It} (hs:St h0 h L) (k:Nat) {b n c:Nat} {e:TypeId} {cs:α->List Value} {l:List α} (hk:L[k]?=some (.sl ⟨some ⟨b,0,none⟩,n,c⟩ e 1 (l.map cs))) {x:Int} (hx0:0<=x) (hx1:x<(n:Int)) (y:α) {vs:List Value} (hv:vs=cs y)
  {m:Nat} (hm:m=vs.length) (hy:(cs y).length=1) {K:Heap->Prop} (hK:∀h',St h0 h' (L.set k (.sl ⟨some ⟨b,0,none⟩,n,c⟩ e 1 ((l.set x.toNat y).map cs)))->K h') :
  okAt h ⟨b,0+x.toNat*1,none⟩ m/\∀h',h'=hputs h ⟨b,0+x.toNat*1,none⟩ 0 vs->K h':=by
 have:NB (some ⟨b,0,none⟩) fun b o=>(0<=x/\x<(n:Int))/\(okAt h ⟨b,o+x.toNat*1,none⟩ m/\∀h',h'=hputs h ⟨b,o+x.toNat*1,none⟩ 0 vs->K h'):=hs.set k hk (by omega) hx0 hx1 y hv hm (K:=fun _ _ h'=>K h') (fun _ _ h' hh=>hK h' hh) hy;exact this.2
theorem eng_sta (L:List MR) (s:Sl) (k:Int) (eb wb:Nat) (osl:Sl) (T:List Tbr) (hT:T.length=L.length) (hF:∀(p:Nat) y t,L[p]?=some y->T[p]?=some t->TbF y.m t) :
  Sta (.blk eb [.slice s.a s.n s.c,.int .i64 k,.slice osl.a osl.n osl.c,.map (some wb)] 196 :: .sl osl 26 1 (T.map fun t=>slC t.o)::tabs T) fun h=>EngX h eb wb s k L osl (fun p=>(T.getD p default).o) fun p s=>((T.getD p default).q.getD s default).1:=by
 intro h0 h A' hA hs;have hm:∀i∈tabs T,i∈A':=fun i hi=>hA i (Yn _ (Yn _ hi));have gT:∀(p:Nat) x,L[p]?=some x->T[p]?=some (T.getD p default):=fun p x hx=>by
  have:=(Ya.1 hx).1;rw[Yo,Yi (by omega)];rfl
 refine⟨hs.atm (hA _ Yx),?_,fun p x hx=>?_,fun p x hx j hj=>?_⟩
 .have:=hs.rwm (hA _ (Yn _ Yx)) (by omega);rw[map_range,hT] at this;exact this
 .have gt:=gT p x hx;have hF:=hF p x _ hx gt;have:=hs.rwm (hm _ (tabs_o (Yb gt))) (by omega);rw[List.map_map,map_range,hF.l] at this;exact this
 .have gt:=gT p x hx;have hF:=hF p x _ hx gt;generalize T.getD p default=t at *;have gq:t.q[j]?=some (t.q.getD j default):=by
   rw[Yo,Yi (by have:=hF.l;omega)];rfl
  have:=hs.rwm (hm _ (tabs_q (Yb gt) (Yb gq))) (by omega);rw[hF.q j _ gq] at this;exact this
theorem start32 (L:List MR) (s:Sl) (k:Int) (h:Heap) (hS:SyI h s L) (hV:SysV (L.map MR.m)) :
  Fn Pz 60 #[.slice s.a s.n s.c,.int .i64 k] h fun v h'=>∃(eb wb:Nat) (A:List It) (osl:Sl) (os:Nat->Sl) (qs:Nat->Nat->Sl),v=.pointer (some ⟨eb,0,none⟩)/\St h h' (.mp wb []::A)/\Sta A fun h=>EngX h eb wb s k L osl os qs:=by
 apply vc60 s k;unfold W60;have hn:=hS.r.ln;have hsm:=hS.r.sm;have hlm:(L.map MR.m).length=L.length:=Yc _;have hV6:=hV.n;rw[hlm] at hV6;refine (St.refl h).mmake 193 fun h3 E3 hs=>⟨_,rfl,?_⟩;refine hs.newb fun h4 hs=>?_;obtain⟨eb,heb⟩:∃eb,eb=h3.size:=⟨_,rfl⟩;rw[<-heb] at hs ⊢;have hs:=hs.nil_ 26 1;have hs:=hs.picks (L':=[.mp h.size [],.blk eb [.slice s.a s.n s.c,.int .i64 k,.slice none 0 0,.map (some h.size)] 196,.sl ⟨none,0,0⟩ 26 1 []]) [2,1,0] (by decide) rfl;refine⟨fun x h' μ=>∃(i:Nat) (T:List Tbr) (osl:Sl),x=(i:Int)/\μ=L.length-i/\i<=L.length/\T.length=i/\(∀(p:Nat) y t,L[p]?=some y->T[p]?=some t->TbF y.m t) /\
  St h h' (.mp h.size [] :: .blk eb [.slice s.a s.n s.c,.int .i64 k,.slice osl.a osl.n osl.c,.map (some h.size)] 196 :: .sl osl 26 1 (T.map fun t=>slC t.o)::tabs T),⟨_,0,[],⟨none,0,0⟩,rfl,rfl,Nat.zero_le _,rfl,fun p y t _ ht=>(by cases ht),hs⟩,?_⟩
 clear hs;rintro-_ h9 μ ⟨i,T,osl,rfl,rfl,hi,hTl,hF,hs⟩;refine sBi (fun c1=>?_) (fun c1=>?_)
 .obtain⟨y,gy⟩:=get_some (l:=L) (i:=i) (by omega);have gm:(L.map MR.m)[i]?=some y.m:=by rw[Yd,gy];rfl
  have hM:=hS.i y (Yb gy);have hvm:=hV.m i y.m gm;have hN:=hvm.2.1.n;have hmn:=hM.pm.ln;have hmm:=hM.pm.sm;have hNn:=hN.n;have hml:=hN.ml;have hmx:y.m.n.toNat<=maxLen:=by simp only[maxLen];omega
  refine (hS.r.rw.ext hs.ext).nbI (by omega) (by omega) fun b10 o11 y' gy' t=>?_;rw[Ys] at gy';replace gy':L[i]?=some y':=gy';rw[gy] at gy';cases gy';refine⟨_,_,_,_,_,_,t,?_⟩;have hbm9:h.size<=h9.size:=hs.ext.1;refine hs.newput (vs:=MR.cs y) rfl rfl fun h19 hs=>?_;refine⟨y.m.n,hs.rd 0 rfl (i:=1) rfl,⟨by omega,by omega,by omega⟩,?_⟩;rw[made42];refine hs.newb fun h21 hs=>?_;have hs:=hs.blkS y.m.n.toNat 1 _ rfl (slrows _) (by rw[Yc,Yg]) hmx;have hrep:((List.replicate y.m.n.toNat ((⟨none,0,0⟩,[]):Sl × List Int)).map Prod.fst)=List.replicate y.m.n.toNat (⟨none,0,0⟩:Sl):=List.map_replicate;generalize hO:(.mp h.size [] :: .blk eb [.slice s.a s.n s.c,.int .i64 k,.slice osl.a osl.n osl.c,.map (some h.size)] 196 :: .sl osl 26 1 (T.map fun t=>slC t.o)::tabs T:List It)=O at *;have hs:St h h21 (tbP y h9.size ⟨some ⟨h19.size,0,none⟩,y.m.n.toNat,y.m.n.toNat⟩ (List.replicate y.m.n.toNat (⟨none,0,0⟩,[]))++(List.replicate y.m.n.toNat ((⟨none,0,0⟩,[]):Sl × List Int)).map (nest 3 1 inC)++O):=by
   have h1:St h h21 (tbP y h9.size ⟨some ⟨h19.size,0,none⟩,y.m.n.toNat,y.m.n.toNat⟩ (List.replicate y.m.n.toNat (⟨none,0,0⟩,[]))++O):=by
    unfold tbP;rw[hrep];exact hs
   exact h1.nests (α:=Int) (e:=3) (k:=1) (cs:=inC) y.m.n.toNat
  refine⟨y.g,hs.rd 1 rfl (i:=4) rfl,?_⟩;refine up_loop (n:=y.g.n) (fun i h'=>∃qs,TbL y.m i qs/\St h h' (tbP y h9.size ⟨some ⟨h19.size,0,none⟩,y.m.n.toNat,y.m.n.toNat⟩ qs++qs.map (nest 3 1 inC)++O)) ⟨_,TbL.start y.m,hs⟩ ?_;clear hs;rintro-j h27 hj ⟨qs,hL,hs⟩;refine sB_intro (fun c=>?_) (fun c=>?_)
  .replace c:=lt_t c;refine (hM.pm.ext hs.ext).rw.nbI (by omega) (by omega) fun b23 o24 x gx t=>?_;replace gx:y.m.mv[j]?=some x:=gx;have hx:=hN.mv x (Yb gx);obtain⟨f,hf⟩:∃f:Nat,x.f=f:=⟨x.f.toNat,by omega⟩;obtain⟨q,hq⟩:=get_some (l:=qs) (i:=f) (by rw[hL.l];omega);have hql:=hL.len hq;have hqn:q.1.n=q.2.length:=by
    have:=hs.len (2+f) (s:=q.1) (e:=3) (n:=1) (rows:=q.2.map inC) (by
     have:=get_mid (P:=tbP y h9.size ⟨some ⟨h19.size,0,none⟩,y.m.n.toNat,y.m.n.toNat⟩ qs) (Q:=qs.map (nest 3 1 inC)) (R:=O) (i:=f) (by rw[Yc];exact (Ya.1 hq).1);rw[show (tbP y h9.size ⟨some ⟨h19.size,0,none⟩,y.m.n.toNat,y.m.n.toNat⟩ qs).length=2 from rfl] at this;rw[this,Yd,hq];rfl) (by omega)
    rw[this.1,Yc]
   refine⟨_,_,_,_,_,_,t,?_⟩;refine hs.newput (vs:=x.cs) rfl rfl fun h37 hs=>?_;refine⟨_,hs.rd 0 rfl (i:=0) rfl,_,hs.rd 0 rfl (i:=0) rfl,⟨by omega,by omega⟩,?_⟩;have hqs:(qs.map Prod.fst)[x.f.toNat]?=some q.1:=by rw[Yd,show x.f.toNat=f by omega,hq];rfl
   refine⟨q.1,Rw.one (l:=qs.map Prod.fst) (cs:=slC) (hs.rows 1 rfl (by omega)) (by omega) (by omega) hqs rfl,?_⟩;refine hs.newbE fun h41 E41 hs=>⟨E41.sm,?_⟩;have hs':St h h41 ((.blk h37.size (inC (j:Int)) 3 :: .blk h27.size x.cs 110::tbP y h9.size ⟨some ⟨h19.size,0,none⟩,y.m.n.toNat,y.m.n.toNat⟩ qs)++qs.map (nest 3 1 inC)++O):=hs;refine hs'.nestAt hq app42 (j:Int) (hs'.at 0 rfl (n:=1) rfl) rfl rfl (by omega) (by simp only[maxLen];omega) fun r h42 hr hs3=>⟨sm_cons (hs'.same hs3 1 1 rfl rfl) sm_nil,⟨by omega,by omega⟩,?_⟩;refine hs3.set0 2 (cs:=slC) (l:=qs.map Prod.fst) rfl (by omega) (by omega) r rfl rfl rfl fun h45 hs4=>?_;refine Up.next c (by omega) ⟨qs.set f (r,q.2++[(j:Int)]),hL.next gx hf hq,?_⟩;unfold tbP;rw[fst_set];rw[hf] at hs4;exact hs4.drop 2
  .replace c:=lt_f c;have him:j=y.m.mv.length:=by omega
   subst him;have hS0:TbS y.m 0 qs:=⟨hL.l,fun n q hq=>⟨_,hL.q n q hq,List.Perm.refl _,fun hn=>by omega⟩,hL.e⟩;refine up_loop (n:=Int.toNat y.m.n) (fun i h'=>∃qs,TbS y.m i qs/\St h h' (tbP y h9.size ⟨some ⟨h19.size,0,none⟩,y.m.n.toNat,y.m.n.toNat⟩ qs++qs.map (nest 3 1 inC)++O)) ⟨qs,hS0,hs⟩ ?_;clear hs hS0 hL;rintro-a h52 ha ⟨qs,hS',hs⟩;have hl:=hS'.l;refine sB_intro (fun c=>?_) (fun c=>?_)
   .replace c:=lt_t c;obtain⟨q,hq⟩:=get_some (l:=qs) (i:=a) (by omega);have hqs:(qs.map Prod.fst)[((a:Nat):Int).toNat]?=some q.1:=by rw[Ys,Yd,hq];rfl
    refine⟨⟨by omega,by omega⟩,q.1,Rw.one (l:=qs.map Prod.fst) (cs:=slC) (hs.rows 0 rfl (by omega)) (by omega) (by omega) hqs rfl,?_⟩;obtain⟨l,hql,hlp,_⟩:=hS'.q a q hq;have hilt:=(Ya.1 hq).1;have hidx:(tbP y h9.size ⟨some ⟨h19.size,0,none⟩,y.m.n.toNat,y.m.n.toNat⟩ qs++qs.map (nest 3 1 inC)++O)[2+a]?=some (.sl q.1 3 1 ((natI l).map inC)):=by
     have:=get_mid (P:=tbP y h9.size ⟨some ⟨h19.size,0,none⟩,y.m.n.toNat,y.m.n.toNat⟩ qs) (Q:=qs.map (nest 3 1 inC)) (R:=O) (i:=a) (by rw[Yc];exact hilt);rw[show (tbP y h9.size ⟨some ⟨h19.size,0,none⟩,y.m.n.toNat,y.m.n.toNat⟩ qs).length=2 from rfl] at this;rw[this,Yd,hq,<-hql];rfl
    have hlm':∀z∈l,z<y.m.mv.length:=fun z hz=>by
     obtain⟨x,hx,_⟩:=outIx_mem.1 (hlp.mem_iff.1 hz);exact (Ya.1 hx).1
    have hll:l.length<=1048576:=by
     rw[hlp.length_eq];unfold outIx;exact Yys (List.length_filter_le _ _) (by rw[Yyd];omega)
    have hbg:(tbP y h9.size ⟨some ⟨h19.size,0,none⟩,y.m.n.toNat,y.m.n.toNat⟩ qs++qs.map (nest 3 1 inC)++O)[1]?=some (.blk h9.size (MR.cs y) 98):=rfl;have hap:∀b,q.1.a.map (·.block)=some b->b≠h9.size:=fun b hb e=>by
     have h1:=(List.pairwise_iff_getElem.1 hs.ap) 1 (2+a) (Ya.1 hbg).1 (Ya.1 hidx).1 (by omega);rw[(Ya.1 hbg).2,(Ya.1 hidx).2] at h1;exact h1 h9.size rfl (by show q.1.a.map (·.block)=_;rw[hb,e])
    have hfr:∀b,q.1.a.map (·.block)=some b->h.size<=b:=fun b hb=>(hs.ok _ (Yb hidx)).2 b hb;refine (sort64 y.m y.g ⟨h9.size,0,none⟩ hs (2+a) hidx hlm' (fun hl0=>hS'.e a q hq (by rw[hql,hl0];rfl)) (by omega) hll fun h' hsz hoth=>?_).mono ?_
    .have E':Ext h h':=⟨Yys hs.ext.1 hsz,fun c hc=>by
      rw[hoth c (by have:=hs.ext.1;omega) fun e=>by have:=hfr c e;omega];exact hs.ext.2 c hc⟩
     refine⟨?_,hM.pm.rw.ext E'⟩;have h1:hc h52 ⟨h9.size,0+4,none⟩=some (.slice y.g.a y.g.n y.g.c):=hs.rd 1 rfl rfl;rw[hc_of_block (h:=h52) (by
      show h'[h9.size]?=h52[h9.size]?;refine hoth h9.size (hc_blk h1) fun e=>hap h9.size e rfl)]
     exact h1
    .rintro _ h57 ⟨rfl,l',hp',hs'',hst⟩;refine⟨rfl,?_⟩;have hset:(tbP y h9.size ⟨some ⟨h19.size,0,none⟩,y.m.n.toNat,y.m.n.toNat⟩ qs++qs.map (nest 3 1 inC)++O).set (2+a) (.sl q.1 3 1 ((natI l').map inC))=tbP y h9.size ⟨some ⟨h19.size,0,none⟩,y.m.n.toNat,y.m.n.toNat⟩ (qs.set a (q.1,natI l'))++(qs.set a (q.1,natI l')).map (nest 3 1 inC)++O:=by
      have h1:=set_mid (P:=tbP y h9.size ⟨some ⟨h19.size,0,none⟩,y.m.n.toNat,y.m.n.toNat⟩ qs) (R:=O) (Q:=qs.map (nest 3 1 inC)) (i:=a) (by rw[Yc];exact hilt) (.sl q.1 3 1 ((natI l').map inC));rw[show (tbP y h9.size ⟨some ⟨h19.size,0,none⟩,y.m.n.toNat,y.m.n.toNat⟩ qs).length=2 from rfl] at h1;rw[h1,List.map_set];have h2:tbP y h9.size ⟨some ⟨h19.size,0,none⟩,y.m.n.toNat,y.m.n.toNat⟩ (qs.set a (q.1,natI l'))=tbP y h9.size ⟨some ⟨h19.size,0,none⟩,y.m.n.toNat,y.m.n.toNat⟩ qs:=by
       unfold tbP;rw[fst_set,list_set_self (by rw[Yd,hq];rfl)]
      rw[h2];rfl
     rw[hset] at hst;refine Up.next c (by omega) ⟨qs.set a (q.1,natI l'),⟨by rw[Yyh];exact hl,fun n q' hq'=>?_,fun n q' hq' he=>?_⟩,hst⟩;rotate_left
     .by_cases e:n=a
      .subst e;rw[Yq hilt] at hq';cases hq';have hl0:l'=[]:=by
        cases l' with
        | nil=>rfl
        | cons a r=>cases he
       subst hl0;exact hS'.e n q hq (by rw[hql,List.nil_perm.1 hp'];rfl)
      .rw[Yy (fun h=>e h.symm)] at hq';exact hS'.e n q' hq' he
     by_cases e:n=a
     .subst e;rw[Yq hilt] at hq';cases hq';exact⟨l',rfl,hp'.trans hlp,fun _=>hs''⟩
     .rw[Yy (fun h=>e h.symm)] at hq';obtain⟨l2,k1,k2,k3⟩:=hS'.q n q' hq';exact⟨l2,k1,k2,fun hn=>k3 (by omega)⟩
   .replace c:=lt_f c;have hs:=hs.perm List.perm_append_comm;rw[<-hO] at hs;have hon:=hs.len 2 (s:=osl) rfl (by omega);rw[Yc,hTl] at hon;refine⟨osl,hs.rd 1 rfl (i:=2) rfl,?_⟩;refine hs.app 2 (s:=osl) (n:=1) (rows:=T.map fun t=>slC t.o) rfl app145 (m:=1) [slC ⟨some ⟨h19.size,0,none⟩,y.m.n.toNat,y.m.n.toNat⟩] rfl rfl (fun r hr=>by rw[Ye] at hr;rw[hr];rfl) rfl (by omega) (by simp only[maxLen];omega) fun r2 h58 nr hs=>?_;refine hs.put 1 rfl (o:=2) (vs:=[.slice r2.a r2.n r2.c]) rfl (show 3<=4 by decide) fun h59 hs=>?_;refine⟨_,(show L.length-(i+1)<L.length-i by omega),i+1,T++[⟨⟨some ⟨h19.size,0,none⟩,y.m.n.toNat,y.m.n.toNat⟩,qs⟩],r2,by rw[w64 (by omega) (by omega)];omega,rfl,by omega,by rw[Yh,hTl];rfl,fun p y' t hy' ht=>?_,?_⟩
    .by_cases e:p=i
     .subst e;rw[gy] at hy';cases hy';rw[Yyc (by omega),hTl,Nat.sub_self] at ht;cases ht;refine⟨rfl,hl,fun j q hq=>?_⟩;obtain⟨l,k1,k2,k3⟩:=hS'.q j q hq;have hjl:=(Ya.1 hq).1;dsimp only at hjl;rw[k1,mvS_eq hvm.2.1.d k2 (k3 (by omega))]
     .have htl:=(Ya.1 ht).1;rw[Yh,Yv] at htl;rw[Yyi (by omega)] at ht;exact hF p y' t hy' ht
    .rw[tabs_snoc,Ym];refine hs.sub ?_;refine .cons_cons _ (.cons_cons _ (.cons_cons _ ?_));refine List.Sublist.append (l₁:=tabs T) (List.Sublist.refl _) ?_;exact .cons_cons _ (.cons _ (List.Sublist.refl _))
 .have hil:i=L.length:=by omega
  exact⟨eb,h.size,_,osl,_,_,rfl,hs,eng_sta L s k eb h.size osl T (by omega) hF⟩
def zigN (n:Int):Nat:=if 0<=n then (2*n).toNat else (-2*n-1).toNat
theorem zig_inj {a b:Int} (h:zigN a=zigN b):a=b:=by
 unfold zigN at h;split at h<;>split at h<;>omega
theorem zig_lt {n:Int} (h0:-9223372036854775808<=n) (h1:n<=9223372036854775807):zigN n<18446744073709551616:=by
 unfold zigN;split<;>omega
def venc (u:Nat):List Int:=if h:u<128 then [(u:Int)] else ((u%128+128:Nat):Int)::venc (u/128)
termination_by u
decreasing_by omega
theorem venc_lt {u:Nat} (h:u<128):venc u=[(u:Int)]:=by rw[venc,dif_pos h]
theorem venc_ge {u:Nat} (h:¬u<128):venc u=((u%128+128:Nat):Int)::venc (u/128):=by rw[venc,dif_neg h]
theorem venc_inj:∀(u v:Nat) (r s:List Int),venc u++r=venc v++s->u=v/\r=s:=by
 intro u
 induction u using Nat.strongRecOn with
 | ind u ih=>
  intro v r s h;by_cases hu:u<128
  .rw[venc_lt hu] at h;by_cases hv:v<128
   .rw[venc_lt hv,List.cons_append,List.cons_append,List.nil_append,List.nil_append] at h;injection h with h1 h2;exact⟨by omega,h2⟩
   .rw[venc_ge hv,List.cons_append,List.cons_append] at h;injection h with h1 h2;omega
  .rw[venc_ge hu] at h;by_cases hv:v<128
   .rw[venc_lt hv,List.cons_append,List.cons_append] at h;injection h with h1 h2;omega
   .rw[venc_ge hv,List.cons_append,List.cons_append] at h;injection h with h1 h2;obtain⟨h3,h4⟩:=ih (u/128) (by omega) _ _ _ h2;exact⟨by omega,h4⟩
theorem venc_len:∀(k u:Nat),u<128^(k+1)->(venc u).length<=k+1
 | 0,u,h=>by rw[venc_lt (by simpa using h)];exact Yyt _
 | k+1,u,h=>by
  by_cases hu:u<128
  .rw[venc_lt hu];simp
  .rw[venc_ge hu,Yyj];have:=venc_len k (u/128) (by rw[Nat.div_lt_iff_lt_mul (by decide)];rw[Nat.pow_succ] at h;exact h);omega
theorem venc_byte:∀(u:Nat),∀x∈venc u,0<=x/\x<256:=by
 intro u
 induction u using Nat.strongRecOn with
 | ind u ih=>
  intro x hx;by_cases hu:u<128
  .rw[venc_lt hu,Ye] at hx;omega
  .rw[venc_ge hu,Yr] at hx;rcases hx with rfl | hx
   .omega
   .exact ih (u/128) (by omega) x hx
def I64 (n:Int):Prop:=-9223372036854775808<=n/\n<=9223372036854775807
def encI (n:Int):List Int:=venc (zigN n)
theorem encI_len {n:Int} (h:I64 n):(encI n).length<=10:=venc_len 9 _ (Nat.lt_of_lt_of_le (zig_lt h.1 h.2) (by decide))
theorem encI_byte {n:Int}:∀x∈encI n,0<=x/\x<256:=venc_byte _
theorem encI_inj {a b:Int} {r s:List Int} (h:encI a++r=encI b++s):a=b/\r=s:=by
 obtain⟨h1,h2⟩:=venc_inj _ _ _ _ h;exact⟨zig_inj h1,h2⟩
def encL (X:List Int):List Int:=encI X.length++X.flatMap encI
theorem flat_inj {α:Type} {f:α->List Int} (hf:∀a b r s,f a++r=f b++s->a=b/\r=s):∀(X Y:List α) (r s:List Int),X.length=Y.length->X.flatMap f++r=Y.flatMap f++s->X=Y/\r=s
 | [],[],r,s,_,h=>⟨rfl,h⟩
 | a::X,b::Y,r,s,hl,h=>by
  rw[List.flatMap_cons,List.flatMap_cons,Yz,Yz] at h;obtain⟨h1,h2⟩:=hf _ _ _ _ h;obtain⟨h3,h4⟩:=flat_inj hf X Y r s (Nat.succ.inj hl) h2;exact⟨by rw[h1,h3],h4⟩
 | [],b::Y,r,s,hl,h=>by cases hl
 | a::X,[],r,s,hl,h=>by cases hl
theorem encL_inj {X Y:List Int} {r s:List Int} (h:encL X++r=encL Y++s):X=Y/\r=s:=by
 unfold encL at h;rw[Yz,Yz] at h;obtain⟨h1,h2⟩:=encI_inj h;exact flat_inj (fun _ _ _ _=>encI_inj) X Y r s (by omega) h2
theorem flat_len {α:Type} {f:α->List Int} {c:Nat}:∀(X:List α),(∀a∈X,(f a).length<=c)->(X.flatMap f).length<=X.length*c
 | [],_=>Nat.zero_le _
 | a::X,h=>by
  rw[List.flatMap_cons,Yh,Yyj,Nat.succ_mul];have h1:=h a Yx;have h2:=flat_len X fun b hb=>h b (Yn _ hb);omega
theorem flat_byte {α:Type} {f:α->List Int} (hf:∀a,∀x∈f a,0<=x/\x<256) (X:List α):∀x∈X.flatMap f,0<=x/\x<256:=fun x hx=>by
 obtain⟨a,_,h⟩:=List.mem_flatMap.1 hx;exact hf a x h
theorem encL_byte {X:List Int}:∀x∈encL X,0<=x/\x<256:=fun x hx=>by
 unfold encL at hx;rcases Yk.1 hx with h | h
 .exact encI_byte x h
 .exact flat_byte (fun _=>encI_byte) X x h
theorem encL_len {X:List Int} (hX:∀x∈X,I64 x) (hl:X.length<=9223372036854775807):(encL X).length<=10+X.length*10:=by
 unfold encL;rw[Yh];have h1:=encI_len (n:=(X.length:Int)) ⟨by omega,by omega⟩;have h2:=flat_len (f:=encI) (c:=10) X fun a ha=>encI_len (hX a ha);omega
def encC (S:List Int) (BL:List (List Int)):List Int:=encL S++(encI BL.length++BL.flatMap encL)
theorem encC_inj {S S':List Int} {BL BL':List (List Int)} (h:encC S BL=encC S' BL'):S=S'/\BL=BL':=by
 unfold encC at h;obtain⟨h1,h2⟩:=encL_inj h;obtain⟨h3,h4⟩:=encI_inj h2;have h5:=flat_inj (f:=encL) (fun _ _ _ _=>encL_inj) BL BL' [] [] (by omega) (by rw[Yw,Yw];exact h4);exact⟨h1,h5.1⟩
theorem encC_byte {S:List Int} {BL:List (List Int)}:∀x∈encC S BL,0<=x/\x<256:=fun x hx=>by
 unfold encC at hx;rcases Yk.1 hx with h | h
 .exact encL_byte x h
 .rcases Yk.1 h with h | h
  .exact encI_byte x h
  .exact flat_byte (fun _=>encL_byte) BL x h
/-! ### What the words of bits are -/
theorem zig_bits {n:Int} (h:I64 n):xorI .u64 (shlI .u64 (IntKind.wrap .u64 n) 1) (IntKind.wrap .u64 (shrI .i64 n 63))=(zigN n:Int):=by
 obtain⟨h0,h1⟩:=h;have e63:min (Int.toNat 63) (IntKind.bits .i64)=63:=by decide
 have e1:min (Int.toNat 1) (IntKind.bits .u64)=1:=by decide
 have es:shrI .i64 n 63=n/9223372036854775808:=by
  unfold shrI;rw[e63,Int.fdiv_eq_ediv_of_nonneg _ (by decide)];rfl
 have ex:∀a b:Nat,a<2^64->b<2^64->xorI .u64 (a:Int) (b:Int)=((a ^^^ b:Nat):Int):=fun a b ha hb=>by
  unfold xorI;have e:(BitVec.ofInt (IntKind.bits .u64) (a:Int) ^^^ BitVec.ofInt (IntKind.bits .u64) (b:Int)).toNat=a ^^^ b:=by
   show (BitVec.ofInt 64 (a:Int) ^^^ BitVec.ofInt 64 (b:Int)).toNat=_;rw[BitVec.ofInt_natCast,BitVec.ofInt_natCast,BitVec.toNat_xor,BitVec.toNat_ofNat,BitVec.toNat_ofNat,Nat.mod_eq_of_lt ha,Nat.mod_eq_of_lt hb]
  rw[e];have:=Nat.xor_lt_two_pow ha hb;exact wu64 (by omega) (by omega)
 rw[es];unfold shlI;rw[e1];by_cases hn:0<=n
 .have ez:n/9223372036854775808=0:=by omega
  rw[ez,wu64 (n:=n) hn (by omega),show n*2^1=2*n by omega,wu64 (n:=2*n) (by omega) (by omega),wu64 (n:=0) (by decide) (by decide)];obtain⟨m,rfl⟩:∃m:Nat,n=(m:Int):=⟨n.toNat,by omega⟩;rw[show (2:Int)*(m:Int)=((2*m:Nat):Int) by omega];have:=ex (2*m) 0 (by omega) (by decide);rw[Nat.xor_zero] at this;unfold zigN;rw[if_pos hn];refine this.trans ?_;omega
 .have ez:n/9223372036854775808=-1:=by omega
  have ew:IntKind.wrap .u64 n=n+18446744073709551616:=by
   simp[IntKind.wrap,IntKind.signed,IntKind.bits];omega
  have ew2:IntKind.wrap .u64 ((n+18446744073709551616)*2^1)=2*n+18446744073709551616:=by
   simp[IntKind.wrap,IntKind.signed,IntKind.bits];omega
  have ew3:IntKind.wrap .u64 (-1)=((18446744073709551615:Nat):Int):=by decide
  rw[ez,ew,ew2,ew3];obtain⟨m,hm⟩:∃m:Nat,2*n+18446744073709551616=(m:Int):=⟨(2*n+18446744073709551616).toNat,by omega⟩;rw[hm,ex m 18446744073709551615 (by omega) (by decide)];have hx:m ^^^ 18446744073709551615=18446744073709551615-m:=by
   have h2:(BitVec.ofNat 64 m ^^^ BitVec.allOnes 64).toNat=(~~~ (BitVec.ofNat 64 m)).toNat:=by rw[BitVec.xor_allOnes]
   rw[BitVec.toNat_xor,BitVec.toNat_not,BitVec.toNat_allOnes,BitVec.toNat_ofNat,Nat.mod_eq_of_lt (show m<2^64 by omega)] at h2;exact h2
  rw[hx];unfold zigN;rw[if_neg hn];omega
theorem or128 {b:Nat} (h:b<256):b|||128=b%128+128:=by
 have key:∀b<256,b|||128=b%128+128:=by decide
 exact key b h
theorem or_bits {u:Nat}:orI .u8 (IntKind.wrap .u8 (u:Int)) 128=((u%128+128:Nat):Int):=by
 have ew:IntKind.wrap .u8 (u:Int)=((u%256:Nat):Int):=by
  simp[IntKind.wrap,IntKind.signed,IntKind.bits]
 rw[ew];unfold orI;have e:(BitVec.ofInt (IntKind.bits .u8) ((u%256:Nat):Int)|||BitVec.ofInt (IntKind.bits .u8) 128).toNat=u%128+128:=by
  show (BitVec.ofInt 8 ((u%256:Nat):Int)|||BitVec.ofInt 8 ((128:Nat):Int)).toNat=_;rw[BitVec.ofInt_natCast,BitVec.ofInt_natCast,BitVec.toNat_or,BitVec.toNat_ofNat,BitVec.toNat_ofNat,Nat.mod_eq_of_lt (show u%256<2^8 by omega),Nat.mod_eq_of_lt (show 128<2^8 by decide),or128 (by omega)];omega
 rw[e];exact wu8 (by omega) (by omega)
theorem shr7 {u:Nat}:shrI .u64 (u:Int) 7=((u/128:Nat):Int):=by
 have:=shr_nat (w:=u) (k:=7) (by decide);exact this
theorem app48:appB Pz 54 5 1 1=true:=by kernel_rfl
theorem int65 (b:Sl) (xs:List Int) (n:Int) (h0 h:Heap) (L:List It) (hs:St h0 h (.sl b 5 1 (xs.map u8C)::L)) (hn:I64 n) (hl:xs.length<=100000000) :
  Fn Pz 69 #[.slice b.a b.n b.c,.int .i64 n] h fun v h'=>∃b':Sl,v=.slice b'.a b'.n b'.c/\St h0 h' (.sl b' 5 1 ((xs++encI n).map u8C)::L):=by
 apply vc69 b n;unfold W69;rw[zig_bits hn];refine⟨by decide,by decide,?_⟩;have hz:=zig_lt hn.1 hn.2;refine⟨fun b u h' μ=>∃(v:Nat) (pre:List Int),u=(v:Int)/\μ=v/\v<18446744073709551616/\pre++venc v=encI n/\St h0 h' (.sl b 5 1 ((xs++pre).map u8C)::L),⟨_,zigN n,[],rfl,rfl,hz,rfl,by rw[Yw];exact hs⟩,?_⟩;clear hs;rintro-b2 _ h6 μ ⟨v,pre,rfl,hμ,hv,he,hs⟩;have hlen:=(hs.rows 0 (s:=b2) (cs:=u8C) rfl (by omega)).ln;have hpl:pre.length<=10:=by
  have h1:=congrArg List.length he;rw[Yh] at h1;have h2:=encI_len hn;omega
 rw[Yh] at hlen;refine sBi (fun c=>?_) (fun c=>?_)
 .have hv1:¬v<128:=by omega
  rw[venc_ge hv1] at he;rw[or_bits];refine hs.app 0 (s:=b2) (rows:=(xs++pre).map u8C) rfl app48 (m:=1) [[.int .u8 ((v%128+128:Nat):Int)]] rfl rfl (by simp) rfl (by omega) (by simp only[maxLen];omega) fun s8 h9 ns hs=>?_;refine⟨by decide,v/128,by omega,v/128,pre++[((v%128+128:Nat):Int)],shr7,rfl,by omega,by rw[Yz];exact he,?_⟩;rw[<-Yz,Ym];exact hs
 .have hv1:v<128:=by omega
  rw[venc_lt hv1] at he;rw[wu8 (n:=(v:Int)) (by omega) (by omega)];refine hs.app 0 (s:=b2) (rows:=(xs++pre).map u8C) rfl app48 (m:=1) [[.int .u8 (v:Int)]] rfl rfl (by simp) rfl (by omega) (by simp only[maxLen];omega) fun s12 h13 ns hs=>?_;refine⟨s12,rfl,?_⟩;rw[<-he,<-Yz,Ym];exact hs
theorem ints66 (b:Sl) (xs X:List Int) (p1:Sl) (h0 h:Heap) (L:List It) (hs:St h0 h (.sl b 5 1 (xs.map u8C)::L)) (hX:RL h0 1 p1 inC X) (hI:∀x∈X,I64 x) (hl:xs.length<=50000000) (hXl:X.length<=1000000) :
  Fn Pz 121 #[.slice b.a b.n b.c,.slice p1.a p1.n p1.c] h fun v h'=>∃b':Sl,v=.slice b'.a b'.n b'.c/\St h0 h' (.sl b' 5 1 ((xs++encL X).map u8C)::L):=by
 apply vc121 b p1;unfold W121;have hn:=hX.ln;have hI0:I64 (p1.n:Int):=⟨by omega,by omega⟩;refine (int65 b xs (p1.n:Int) h0 h L hs hI0 (by omega)).mono ?_;rintro _ h3 ⟨b1,rfl,hs⟩;refine⟨b1,rfl,?_⟩;refine⟨fun b x h' μ=>∃i:Nat,x=(i:Int)/\μ=X.length-i/\i<=X.length/\St h0 h' (.sl b 5 1 ((xs++encI (p1.n:Int)++(X.take i).flatMap encI).map u8C)::L),⟨_,0,rfl,rfl,Nat.zero_le _,by rw[Yyk,List.flatMap_nil,Yw];exact hs⟩,?_⟩;clear hs;rintro-b2 _ h9 μ ⟨i,rfl,rfl,hi,hs⟩;refine sBi (fun c=>?_) (fun c=>?_)
 .refine (hX.rw.ext hs.ext).nbI (by omega) (by omega) fun b10 o11 x gx t=>?_;replace gx:X[i]?=some x:=gx;refine⟨x,t.hd,?_⟩;have hfl:=flat_len (f:=encI) (c:=10) (X.take i) fun a ha=>encI_len (hI a (List.mem_of_mem_take ha));have h1:=encI_len hI0;have h2:(X.take i).length<=1000000:=by rw[Yu];omega
  refine (int65 b2 _ x h0 h9 L hs (hI x (Yb gx)) (by rw[Yh,Yh];omega)).mono ?_;rintro _ h15 ⟨b3,rfl,hs⟩;refine⟨b3,rfl,_,(show X.length-(i+1)<X.length-i by omega),i+1,by rw[w64 (by omega) (by omega)];omega,rfl,by omega,?_⟩;rw[take_snoc gx,List.flatMap_append,List.flatMap_cons,List.flatMap_nil,Yw,<-Yz];exact hs
 .have hie:i=X.length:=by omega
  subst hie;rw[Yye] at hs;refine⟨b2,rfl,?_⟩;unfold encL;rw[<-hn,<-Yz];exact hs
structure EncOk (S:List Int) (BL:List (List Int)):Prop where
 s:∀x∈S,I64 x
 b:∀q∈BL,q.length<=1000/\∀x∈q,I64 x
 n:S.length<=1000/\BL.length<=1000
theorem EncOk.fl {S:List Int} {BL:List (List Int)} (h:EncOk S BL) (i:Nat):((BL.take i).flatMap encL).length<=10010000:=by
 have h1:=flat_len (f:=encL) (c:=10010) (BL.take i) fun q hq=>by
  obtain⟨h2,h3⟩:=h.b q (List.mem_of_mem_take hq);have:=encL_len h3 (by omega);omega
 have h2:(BL.take i).length<=1000:=by rw[Yu];have:=h.n.2;omega
 omega
theorem encode35 (ss sb:Sl) (S:List Int) (B:List Bx) (h:Heap) (hC:CfI h ss sb S B) (hE:EncOk S (B.map Bx.l)) :
  Fn Pz 61 #[.agg ⟨[.slice ss.a ss.n ss.c,.slice sb.a sb.n sb.c]⟩] h fun v h'=>∃b:Sl,v=.slice b.a b.n b.c/\St h h' [.sl b 5 1 ((encC S (B.map Bx.l)).map u8C)]:=by
 apply vc61 ss sb;unfold W61;have hbn:=hC.b.ln;have hbm:(B.map Bx.l).length=B.length:=Yc _;obtain⟨hE1,hE2⟩:=hE.n;rw[hbm] at hE2;have hI0:I64 (sb.n:Int):=⟨by omega,by omega⟩;refine (St.refl h).newb fun h3 hs=>?_;refine⟨ss,hs.rd 0 rfl rfl,sb,hs.rd 0 rfl (i:=1) rfl,?_⟩;have hs3:=hs;have hs:St h h3 (.sl ⟨none,0,0⟩ 5 1 (([]:List Int).map u8C)::_):=hs.nil_ 5 1;refine (ints66 ⟨none,0,0⟩ [] S ss h h3 _ hs hC.s hE.s (by simp) (by omega)).mono ?_;rintro _ h8 ⟨b1,rfl,hs⟩;rw[List.nil_append] at hs;have hel:=encL_len hE.s (by omega);have hi0:=encI_len hI0;refine⟨b1,rfl,hs3.smbO hs 0 1 1 rfl rfl,?_⟩;refine (int65 b1 _ (sb.n:Int) h h8 _ hs hI0 (by omega)).mono ?_;rintro _ h11 ⟨b2,rfl,hs⟩;refine⟨b2,rfl,sb,hs.rd 1 rfl (i:=1) rfl,?_⟩;refine⟨fun b x h' μ=>∃i:Nat,x=(i:Int)/\μ=B.length-i/\i<=B.length/\St h h' [.sl b 5 1 ((encL S++encI (sb.n:Int)++((B.map Bx.l).take i).flatMap encL).map u8C),.blk h.size [.slice ss.a ss.n ss.c,.slice sb.a sb.n sb.c] 52],⟨_,0,rfl,rfl,Nat.zero_le _,by rw[Yyk,List.flatMap_nil,Yw];exact hs⟩,?_⟩;clear hs hs3;rintro-b3 _ h18 μ ⟨i,rfl,rfl,hi,hs⟩;refine sBi (fun c=>?_) (fun c=>?_)
 .refine (hC.b.rw.ext hs.ext).nbI (by omega) (by omega) fun b19 o20 q gq t=>?_;replace gq:B[i]?=some q:=gq;have gq1:(B.map Bx.l)[i]?=some q.l:=by rw[Yd,gq];rfl
  obtain⟨hq1,hq2⟩:=hE.b q.l (Yb gq1);have hfl:=hE.fl i;refine⟨q.s,t.hd,?_⟩;refine (ints66 b3 _ q.l q.s h h18 _ hs (hC.i q (Yb gq)) hq2 (by rw[Yh,Yh];omega) (by omega)).mono ?_;rintro _ h24 ⟨b4,rfl,hs⟩;refine⟨b4,rfl,_,(show B.length-(i+1)<B.length-i by omega),i+1,by rw[w64 (by omega) (by omega)];omega,rfl,by omega,?_⟩;rw[take_snoc gq1,List.flatMap_append,List.flatMap_cons,List.flatMap_nil,Yw,<-Yz];exact hs
 .have hie:i=(B.map Bx.l).length:=by omega
  rw[hie,Yye] at hs;refine⟨b3,rfl,?_⟩;unfold encC;rw[hbm,<-hbn,<-Yz];exact hs.sub (.cons_cons _ (List.nil_sublist _))
end Go.VC
end

section
namespace Go.VC
open Go.Proofs Go.LexS Go.Maps
abbrev Cf:=List Int × List (List Int)
abbrev Qe:=Cf × List (Nat × Nat)
def nxS (L:List Mch) (c:Cf) (q:Nat × Nat):Cf:=match L[q.1]? with
 | some m=>match m.mv[q.2]? with
  | some x=>(c.1.set q.1 x.t,doB L.length q.1 x c.2)
  | none=>c
 | none=>c
def exI (L:List Mch) (lim:Nat) (e:Qe):List (Nat × Nat)->List Qe->Option (List Qe)
 | [],Q=>some Q
 | q::r,Q=>if nxS L e.1 q∈Q.map Prod.fst then exI L lim e r Q else if Q.length=lim then none else exI L lim e r (Q++[(nxS L e.1 q,e.2++[q])])
inductive Res
 | bad (k:Int) (t:List (Nat × Nat))
 | unk
 | safe (Q:List Cf)
noncomputable def exO (L:List Mch) (k:Int) (lim:Nat):Nat->Nat->List Qe->Res
 | 0,_,Q=>.safe (Q.map Prod.fst)
 | f+1,i,Q=>match Q[i]? with
  | none=>.safe (Q.map Prod.fst)
  | some e=>if badS L k e.1.1 e.1.2≠0 then .bad (badS L k e.1.1 e.1.2) e.2 else match exI L lim e (stepsS L k e.1.1 e.1.2) Q with
   | none=>.unk
   | some Q'=>exO L k lim f (i+1) Q'
def q0 (L:List Mch):List Qe:=[((startS L,startB L),[])]
noncomputable def exS (L:List Mch) (k:Int) (lim:Nat):Res:=exO L k lim (lim+1) 0 (q0 L)
def mostS (n:Nat) (Q:List Cf):List Int:=Q.foldl (fun a c=>a.mapIdx fun i x=>imax x ((c.2.getD i []).length:Int)) (List.replicate (n*n) 0)
theorem nxS_of {L:List Mch} {c:Cf} {a b:Nat} {m:Mch} {x:Mv} (gm:L[a]?=some m) (gx:m.mv[b]?=some x):nxS L c (a,b)=(c.1.set a x.t,doB L.length a x c.2):=by
 unfold nxS;rw[gm];dsimp only;rw[gx]
def toB (l:List Int):List UInt8:=l.map fun x=>UInt8.ofNat x.toNat
theorem toB_c {l:List Int} (h:∀x∈l,0<=x/\x<256):(l.map u8C).flatten=byteC (toB l):=by
 induction l with
 | nil=>rfl
 | cons x r ih=>
  have hx:=h x Yx;rw[Yyl,Yyu,ih fun y hy=>h y (Yn _ hy)];show [Value.int .u8 x]++byteC (toB r)=Value.int .u8 ((UInt8.ofNat x.toNat).toNat:Int)::byteC (toB r);rw[UInt8.toNat_ofNat',Nat.mod_eq_of_lt (by omega),Int.toNat_of_nonneg hx.1];rfl
theorem toB_inj {l l':List Int} (h:∀x∈l,0<=x/\x<256) (h':∀x∈l',0<=x/\x<256) (e:toB l=toB l'):l=l':=by
 have back:∀ {l:List Int},(∀x∈l,0<=x/\x<256)->(toB l).map (fun b=>(b.toNat:Int))=l:=fun {l} h=>by
  unfold toB;rw[List.map_map];refine (List.map_congr_left fun x hx=>?_).trans (List.map_id _);have hx:=h x hx;show (((UInt8.ofNat x.toNat).toNat:Nat):Int)=x;rw[UInt8.toNat_ofNat',Nat.mod_eq_of_lt (by omega),Int.toNat_of_nonneg hx.1]
 rw[<-back h,<-back h',e]
def kyC (c:Cf):ByteArray:=bs (toB (encC c.1 c.2))
theorem kyC_inj {c d:Cf} (h:kyC c=kyC d):c=d:=by
 have h1:toB (encC c.1 c.2)=toB (encC d.1 d.2):=by
  have:=congrArg (fun b:ByteArray=>b.data.toList) h;exact this
 obtain⟨h2,h3⟩:=encC_inj (toB_inj encC_byte encC_byte h1);exact Prod.ext h2 h3
end Go.VC
end

section
namespace Go.VC
open Go.Proofs Go.LexS Go.Maps
theorem St.picksA {h0 h:Heap} {P P' A:List It} (hs:St h0 h (P++A)) (ks:List Nat) (nd:ks.Nodup) (hL:P'.map some=ks.map fun k=>P[k]?):St h0 h (P'++A):=by
 have hk:∀k∈ks,k<P.length:=fun k hk=>by
  have h1:P[k]?∈P'.map some:=by rw[hL];exact List.mem_map_of_mem hk
  obtain⟨x,_,h2⟩:=Yp.1 h1;exact (Ya.1 h2.symm).1
 refine hs.picks (ks++(List.range A.length).map fun j=>P.length+j) ?_ ?_
 .rw[List.nodup_append];refine⟨nd,?_,fun a ha b hb=>?_⟩
  .exact List.Pairwise.map _ (fun a b h=>by omega) List.nodup_range
  .obtain⟨j,_,rfl⟩:=Yp.1 hb;have:=hk a ha;omega
 .rw[Ym,Ym,hL];congr 1
  .exact List.map_congr_left fun k h=>by rw[Yyi (hk k h)]
  .rw[List.map_map];refine Yyr fun j=>?_;rw[Yd,Yd];by_cases hj:j<A.length
   .rw[Yyb hj,Yi hj];show some (some A[j])=some ((P++A)[P.length+j]?);rw[Yyc (by omega),Nat.add_sub_cancel_left,Yi hj]
   .rw[Yl (by omega),Yl (by rw[Yyd];omega)];rfl
theorem memP {P A:List It}:∀i∈A,i∈P++A:=fun _ hi=>List.mem_append_right _ hi
def kokB (s:ByteArray):Prop:=s.size<=maxLen
theorem M92:MT Pz 104 9 4 Value.string kokB (.bool false) where
 K:=Keyed.of_law (Go.WideMaps.string_law (by kernel_rfl))
 ht:=by kernel_rfl
 key:=fun s hs=>⟨_,Go.WideMaps.keyOf_string_mk (by kernel_rfl) hs⟩
 inj:=fun a b h=>Value.string.inj h
 z:=fun w=>by kernel_rfl
def vq (v:Vs):Qe:=((v.S,v.B.map Bx.l),v.tr)
def kyP (v:Vs):ByteArray × Bool:=(kyC (vq v).1,true)
def kyV (q:ByteArray × Bool):Value × Value:=(.string q.1,.bool q.2)
structure SeaV (L:List MR) (k:Int) (A:List It) (V:List Vs):Prop where
 c:∀v∈V,CfN A v.c1 v.c2 v.S v.B
 p:∀v∈V,ProS (L.map MR.m) k v.S (v.B.map Bx.l)
 t:TrOk V
 d:(V.map fun v=>(vq v).1).Nodup
theorem SeaV.mono {L:List MR} {k:Int} {A A':List It} {V:List Vs} (h:SeaV L k A V) (hA:∀i∈A,i∈A'):SeaV L k A' V:=⟨fun v hv=>(h.c v hv).mono hA,h.p,h.t,h.d⟩
theorem enc_pro {L:List Mch} {k:Int} {S:List Int} {BL:List (List Int)} (hP:ProS L k S BL):EncOk S BL:=by
 have h6:=hP.v.n;have h36:=sq6 h6.2;have hk:=hP.c;have hs:=hP.p.s;have hb:=hP.p.b;refine⟨fun x hx=>?_,fun q hq=>?_,by omega,by omega⟩
 .obtain⟨p,gp⟩:=Yf.1 hx;have hp:=(Ya.1 gp).1;obtain⟨m,gm⟩:=get_some (l:=L) (i:=p) (by omega);have h1:=hP.p.st p x m gp gm;have h2:=(hP.v.m p m gm).2.1.n.n;exact⟨by omega,by omega⟩
 .obtain⟨i,gi⟩:=Yf.1 hq;obtain⟨h1,-,h3⟩:=hP.p.bx i q gi;exact⟨by omega,fun x hx=>by have:=h3 x hx;exact⟨by omega,by omega⟩⟩
theorem enc_len {S:List Int} {BL:List (List Int)} (h:EncOk S BL):(encC S BL).length<=20000000:=by
 have h1:=encL_len h.s (by have:=h.n.1;omega);have h2:=h.fl BL.length;rw[Yye] at h2;have h3:=encI_len (n:=(BL.length:Int)) ⟨by omega,by have:=h.n.2;omega⟩;have h4:=h.n.1;unfold encC;rw[Yh,Yh];omega
theorem ky_ok {L:List Mch} {k:Int} {c:Cf} (hP:ProS L k c.1 c.2):kokB (kyC c):=by
 have:=enc_len (enc_pro hP);show (toB (encC c.1 c.2)).length<=maxLen;unfold toB;rw[Yc];simp only[maxLen];omega
theorem SeaV.kok {L:List MR} {k:Int} {A:List It} {V:List Vs} (h:SeaV L k A V):∀q∈V.map kyP,kokB q.1:=fun q hq=>by
 obtain⟨v,hv,rfl⟩:=Yp.1 hq;exact ky_ok (c:=(vq v).1) (h.p v hv)
theorem SeaV.knd {L:List MR} {k:Int} {A:List It} {V:List Vs} (h:SeaV L k A V):((V.map kyP).map Prod.fst).Nodup:=by
 rw[List.map_map];have e:(Prod.fst∘kyP)=kyC∘fun v=>(vq v).1:=rfl;rw[e,<-List.map_map];exact List.Pairwise.map _ (fun a b hab e=>hab (kyC_inj e)) h.d
theorem ky_mem {V:List Vs} {c:Cf}:c∈(V.map vq).map Prod.fst ↔ mget (V.map kyP) (kyC c)≠none:=by
 constructor
 .intro h hn;obtain⟨q,hq,rfl⟩:=Yp.1 h;obtain⟨v,hv,rfl⟩:=Yp.1 hq;exact mget_nomem hn (kyP v) (List.mem_map_of_mem hv) rfl
 .intro h;cases hg:mget (V.map kyP) (kyC c) with
  | none=>exact absurd hg h
  | some y=>
   obtain⟨v,hv,e⟩:=Yp.1 (mgetE_mem hg);have e1:kyC (vq v).1=kyC c:=congrArg Prod.fst e;rw[<-kyC_inj e1];exact List.mem_map_of_mem (List.mem_map_of_mem hv)
theorem SeaV.snoc {L:List MR} {k:Int} {A:List It} {V:List Vs} (h:SeaV L k A V) {v:Vs} (hc:CfN A v.c1 v.c2 v.S v.B) (hp:ProS (L.map MR.m) k v.S (v.B.map Bx.l)) (hn:(vq v).1∉(V.map vq).map Prod.fst)
  {p:Nat} {u:Vs} (hu:V[p]?=some u) (ha:v.ah=(p:Int)) (ht:v.tr=u.tr++[(v.a,v.b)]):SeaV L k A (V++[v]):=by
 refine⟨fun w hw=>?_,fun w hw=>?_,fun j w hw=>?_,?_⟩
 .rcases Yk.1 hw with hw | hw
  .exact h.c w hw
  .rw[Ye.1 hw];exact hc
 .rcases Yk.1 hw with hw | hw
  .exact h.p w hw
  .rw[Ye.1 hw];exact hp
 .have hpl:=(Ya.1 hu).1;by_cases hj:j<V.length
  .rw[Yyi hj] at hw;obtain⟨h1,h2⟩:=h.t j w hw;refine⟨h1,h2.imp id ?_⟩;rintro⟨p',u',k1,k2,k3,k4⟩;exact⟨p',u',k1,by rw[Yyi (by omega)];exact k2,k3,k4⟩
  .rw[Yyc (by omega)] at hw;have hj0:j-V.length=0:=by
    have:=(Ya.1 hw).1;simpa using this
   rw[hj0] at hw;cases hw;have h1:=(h.t p u hu).1;refine⟨?_,.inr ⟨p,u,by omega,by rw[Yyi hpl];exact hu,ha,ht⟩⟩;rw[ht,Yh,Yv];omega
 .rw[Ym,List.nodup_append];refine⟨h.d,by simp,fun a ha b hb=>?_⟩;rw[Yyl,List.map_nil,Ye] at hb;rw[hb];rintro rfl;exact hn (by rw[List.map_map];exact ha)
theorem doB_newL {n a:Nat} {x:Mv} {B:List Bx} {q:Bx} {u:Sl} (gq:B[bxI n a x]?=some q):(B.set (bxI n a x) ⟨u,newL x q.l⟩).map Bx.l=doB n a x (B.map Bx.l):=by
 unfold doB;rw[List.map_set,getD_map gq];rfl
structure RV where
 v:Int
 Q:List Cf
 m:List Int
 k:Int
 t:List (Nat × Nat)
def Res.rv (n:Nat):Res->RV
 | .bad k t=>⟨2,[],[],k,t⟩
 | .unk=>⟨3,[],[],0,[]⟩
 | .safe Q=>⟨1,Q,mostS n Q,0,[]⟩
def rv0:RV:=⟨0,[],[],0,[]⟩
open Classical in
noncomputable def expV (L:List Mch) (k lim:Int):RV × Int:=if ¬SysV L\/k<1\/4<k then (rv0,1) else if lim<1\/20000<lim then (rv0,2) else ((exS L k lim.toNat).rv L.length,0)
structure Cr where
 c1:Sl
 c2:Sl
 S:List Int
 B:List Bx
def Cr.cs (c:Cr):List Value:=[.slice c.c1.a c.c1.n c.c1.c,.slice c.c2.a c.c2.n c.c2.c]
def Cr.cf (c:Cr):Cf:=(c.S,c.B.map Bx.l)
structure ResI (h:Heap) (cf mo tr:Sl) (r:RV):Prop where
 c:∃C:List Cr,RL h 2 cf Cr.cs C/\(∀c∈C,CfI h c.c1 c.c2 c.S c.B)/\C.map Cr.cf=r.Q
 m:RL h 1 mo inC r.m
 t:RL h 2 tr stpC r.t
def resA (v:Int) (cf mo:Sl) (k:Int) (tr:Sl):List Value:=[.int .i64 v,.slice cf.a cf.n cf.c,.slice mo.a mo.n mo.c,.int .i64 k,.slice tr.a tr.n tr.c]
def ExV (o:RV × Int) (h:Heap) (v:Value) (h':Heap):Prop:=∃(cf mo tr:Sl) (A:List It),v=.tuple ⟨[.agg ⟨resA o.1.v cf mo o.1.k tr⟩,.int .i64 o.2]⟩/\St h h' A/\Sta A fun h=>ResI h cf mo tr o.1
theorem RL.nil0 {α:Type} {h:Heap} {n:Nat} {cs:α->List Value}:RL h n ⟨none,0,0⟩ cs ([]:List α):=⟨Rw.nil,Yyt _,fun _=>⟨rfl,rfl⟩,Nat.zero_le _⟩
theorem ExV.empty {h h':Heap} {A:List It} (hs:St h h' A) {v k e:Int} {tr:Sl} {t:List (Nat × Nat)} (ht:It.sl tr 43 2 (t.map stpC)∈A/\t.length<=1048576\/(tr=⟨none,0,0⟩/\t=[])) {o:RV × Int} (ho:o=(⟨v,[],[],k,t⟩,e)) :
  ExV o h (.tuple ⟨[.agg ⟨resA v ⟨none,0,0⟩ ⟨none,0,0⟩ k tr⟩,.int .i64 e]⟩) h':=by
 subst ho;refine⟨⟨none,0,0⟩,⟨none,0,0⟩,tr,A,rfl,hs,fun h0 h2 A' hA hs'=>⟨⟨[],RL.nil0,(fun c hc=>by cases hc),rfl⟩,RL.nil0,?_⟩⟩;rcases ht with ⟨h1,h2⟩ | ⟨rfl,rfl⟩
 .exact hs'.rlm (hA _ h1) (by omega) h2
 .exact RL.nil0
theorem bxs0 (n:Nat):(List.replicate (n*n) bx0).map Bx.l=List.replicate (n*n) []:=by rw[List.map_replicate];rfl
theorem inC_flat:∀l:List Int,l.map iv=(l.map inC).flatten
 | []=>rfl
 | x::r=>by rw[Yyl,Yyl,Yyu,inC_flat r];rfl
def stepM (B:List (List Int)) (j:Nat) (M:List Int):List Int:=M.mapIdx fun i x=>if i<j then imax x ((B.getD i []).length:Int) else x
theorem stepM_len {B:List (List Int)} {j:Nat} {M:List Int}:(stepM B j M).length=M.length:=by unfold stepM;rw[List.length_mapIdx]
theorem stepM_0 {B:List (List Int)} {M:List Int}:stepM B 0 M=M:=by
 unfold stepM;refine Yyr fun i=>?_;rw[List.getElem?_mapIdx];cases M[i]?<;>rfl
theorem stepM_get {B:List (List Int)} {M:List Int} {j:Nat}:(stepM B j M)[j]?=M[j]?:=by
 unfold stepM;rw[List.getElem?_mapIdx];cases M[j]? with
 | none=>rfl
 | some x=>rw[Option.map_some,if_neg (Nat.lt_irrefl _)]
theorem stepM_next {B:List (List Int)} {M:List Int} {j:Nat} {y:Int} (hy:M[j]?=some y):(stepM B j M).set j (imax y ((B.getD j []).length:Int))=stepM B (j+1) M:=by
 have hj:=(Ya.1 hy).1;refine Yyr fun i=>?_;by_cases e:j=i
 .subst e;rw[Yq (by rw[stepM_len];exact hj)];unfold stepM;rw[List.getElem?_mapIdx,hy,Option.map_some,if_pos (by omega)]
 .rw[Yy e];unfold stepM;rw[List.getElem?_mapIdx,List.getElem?_mapIdx];cases M[i]? with
  | none=>rfl
  | some x=>
   rw[Option.map_some,Option.map_some];by_cases e2:i<j
   .rw[if_pos e2,if_pos (by omega)]
   .rw[if_neg e2,if_neg (by omega)]
theorem stepM_end {B:List (List Int)} {M:List Int} {j:Nat} (hj:M.length<=j):stepM B j M=M.mapIdx fun i x=>imax x ((B.getD i []).length:Int):=by
 unfold stepM;refine Yyr fun i=>?_;rw[List.getElem?_mapIdx,List.getElem?_mapIdx];by_cases e:i<M.length
 .rw[Yi e,Option.map_some,Option.map_some,if_pos (by omega)]
 .rw[Yl (by omega)];rfl
theorem most_snoc (n:Nat) (Q:List Cf) (c:Cf):mostS n (Q++[c])=(mostS n Q).mapIdx fun i x=>imax x ((c.2.getD i []).length:Int):=by
 unfold mostS;rw[List.foldl_append];rfl
theorem most_len (n:Nat) (Q:List Cf):(mostS n Q).length=n*n:=by
 unfold mostS;have:∀(Q:List Cf) (a:List Int),(Q.foldl (fun a c=>a.mapIdx fun i x=>imax x ((c.2.getD i []).length:Int)) a).length=a.length:=fun Q=>by
  induction Q with
  | nil=>intro a;rfl
  | cons c r ih=>intro a;rw[List.foldl_cons,ih,List.length_mapIdx]
 rw[this,Yg]
end Go.VC
end

section
namespace Go.VC
open Go.Proofs Go.LexS
theorem exI_pre {L:List Mch} {lim:Nat} {e:Qe}:∀ {X:List (Nat × Nat)} {Q Q':List Qe},exI L lim e X Q=some Q'->∃R,Q'=Q++R
 | [],Q,Q',h=>by cases h;exact⟨[],by simp⟩
 | q::r,Q,Q',h=>by
  rw[exI] at h;split at h
  .exact exI_pre h
  .split at h
   .cases h
   .obtain⟨R,rfl⟩:=exI_pre h;exact⟨(nxS L e.1 q,e.2++[q])::R,by simp⟩
theorem stp_inv {L:List Mch} {k:Int} {c d:Cf} {q:Nat × Nat} (h:stpS L k c q=some d):q∈stepsS L k c.1 c.2/\d=nxS L c q:=by
 obtain⟨a,b⟩:=q;unfold stpS at h;split at h
 .rename_i h0;by_cases hP:ProS L k c.1 c.2
  .cases hmo:mvO L (a:Int) (b:Int) with
   | none=>
    unfold doS at h0;rw[if_pos hP,hmo] at h0;cases h0
   | some x=>
    obtain⟨p,j,e1,e2,m,gm,gx⟩:=mvO_get hmo;obtain rfl:p=a:=by omega
    obtain rfl:j=b:=by omega
    rw[doS_at hP gm gx] at h0 h;by_cases hc:canS L.length k c.1 c.2 p x=0
    .rw[if_pos hc] at h;cases h;exact⟨mem_steps gm gx hc,(nxS_of gm gx).symm⟩
    .rw[if_neg hc] at h0;exact absurd h0 hc
  .unfold doS at h0;rw[if_neg hP] at h0;cases h0
 .cases h
theorem stp_of {L:List Mch} {k:Int} {c:Cf} {q:Nat × Nat} (hP:ProS L k c.1 c.2) (h:q∈stepsS L k c.1 c.2):stpS L k c q=some (nxS L c q)/\ProS L k (nxS L c q).1 (nxS L c q).2:=by
 obtain⟨a,b⟩:=q;obtain⟨m,x,gm,gx,hc⟩:=steps_mem h;rw[nxS_of gm gx];exact⟨stpS_ok hP gm gx hc,pro_do hP gm (Yb gx) hc⟩
structure Sea (L:List Mch) (k:Int) (lim i:Nat) (Q:List Qe):Prop where
 s:Q[0]?=some ((startS L,startB L),[])
 n:(Q.map Prod.fst).Nodup
 r:∀e∈Q,runS L k e.2=some e.1
 p:∀e∈Q,ProS L k e.1.1 e.1.2
 d:∀(j:Nat) e,j<i->Q[j]?=some e->badS L k e.1.1 e.1.2=0/\∀q∈stepsS L k e.1.1 e.1.2,∃(m:Nat) (e':Qe),Q[m]?=some e'/\e'.1=nxS L e.1 q/\e'.2.length<=e.2.length+1
 m:∀(a b:Nat) ea eb,a<=b->Q[a]?=some ea->Q[b]?=some eb->ea.2.length<=eb.2.length
 u:∀(b:Nat) eb ei,Q[b]?=some eb->Q[i]?=some ei->eb.2.length<=ei.2.length+1
 l:Q.length<=lim
theorem get_snoc {α:Type} {Q:List α} {x y:α} {j:Nat} (h:(Q++[x])[j]?=some y):(j<Q.length/\Q[j]?=some y)\/(j=Q.length/\y=x):=by
 by_cases hj:j<Q.length
 .rw[Yyi hj] at h;exact .inl ⟨hj,h⟩
 .rw[Yyc (by omega)] at h;have hj0:j-Q.length=0:=by
   have:=(Ya.1 h).1;simpa using this
  rw[hj0] at h;cases h;exact .inr ⟨by omega,rfl⟩
theorem get_left {α:Type} {Q R:List α} {y:α} {j:Nat} (h:Q[j]?=some y):(Q++R)[j]?=some y:=by
 rw[Yyi (Ya.1 h).1];exact h
theorem sea_exI {L:List Mch} {k:Int} {lim i:Nat} {e:Qe}:∀ {X:List (Nat × Nat)} {Q Q':List Qe},Sea L k lim i Q->Q[i]?=some e->(∀q∈X,q∈stepsS L k e.1.1 e.1.2)->exI L lim e X Q=some Q' ->
  Sea L k lim i Q'/\(∀q∈X,∃(m:Nat) (e':Qe),Q'[m]?=some e'/\e'.1=nxS L e.1 q/\e'.2.length<=e.2.length+1)/\Q'[i]?=some e
 | [],Q,Q',hs,hi,hX,h=>by cases h;exact⟨hs,fun q hq=>(by cases hq),hi⟩
 | q::r,Q,Q',hs,hi,hX,h=>by
  have hpre:=exI_pre h;rw[exI] at h;split at h
  .rename_i hm;obtain⟨h1,h2,h3⟩:=sea_exI hs hi (fun q hq=>hX q (Yn _ hq)) h;refine⟨h1,fun q' hq'=>?_,h3⟩;rcases Yr.1 hq' with rfl | hq'
   .obtain⟨e',he',he2⟩:=Yp.1 hm;obtain⟨m,gm⟩:=Yf.1 he';obtain⟨R,rfl⟩:=hpre;exact⟨m,e',get_left gm,he2,hs.u m e' e gm hi⟩
   .exact h2 q' hq'
  .rename_i hm;split at h
   .cases h
   .rename_i hn;have hq:=hX q Yx;have hem:=Yb hi;obtain⟨st1,st2⟩:=stp_of (hs.p e hem) hq;have hs':Sea L k lim i (Q++[(nxS L e.1 q,e.2++[q])]):=by
     refine⟨get_left hs.s,?_,fun w hw=>?_,fun w hw=>?_,fun j w hj hw=>?_,fun a b ea eb hab ga gb=>?_,fun b eb ei gb gi=>?_,?_⟩
     .rw[Ym,List.nodup_append];refine⟨hs.n,by simp,fun a ha b hb=>?_⟩;rw[Yyl,List.map_nil,Ye] at hb;rw[hb];rintro rfl;exact hm ha
     .rcases Yk.1 hw with hw | hw
      .exact hs.r w hw
      .rw[Ye.1 hw];show runS L k (e.2++[q])=some (nxS L e.1 q);rw[runS_snoc,hs.r e hem];exact st1
     .rcases Yk.1 hw with hw | hw
      .exact hs.p w hw
      .rw[Ye.1 hw];exact st2
     .have hil:=(Ya.1 hi).1;rcases get_snoc hw with ⟨_,hw⟩ | ⟨hj2,_⟩
      .obtain⟨k1,k2⟩:=hs.d j w hj hw;refine⟨k1,fun q' hq'=>?_⟩;obtain⟨m,e',h1,h2,h3⟩:=k2 q' hq';exact⟨m,e',get_left h1,h2,h3⟩
      .omega
     .rcases get_snoc gb with ⟨hb,gb⟩ | ⟨hb,rfl⟩
      .rcases get_snoc ga with ⟨_,ga⟩ | ⟨ha,_⟩
       .exact hs.m a b ea eb hab ga gb
       .omega
      .show ea.2.length<=(e.2++[q]).length;rw[Yh,Yv];rcases get_snoc ga with ⟨_,ga⟩ | ⟨ha,rfl⟩
       .exact hs.u a ea e ga hi
       .show (e.2++[q]).length<=_;rw[Yh,Yv];exact Yyt _
     .rw[get_left hi] at gi;cases gi;rcases get_snoc gb with ⟨_,gb⟩ | ⟨_,rfl⟩
      .exact hs.u b eb e gb hi
      .show (e.2++[q]).length<=_;rw[Yh,Yv];exact Yyt _
     .have:=hs.l;rw[Yh,Yv];omega
    obtain⟨h1,h2,h3⟩:=sea_exI hs' (get_left hi) (fun q hq=>hX q (Yn _ hq)) h;refine⟨h1,fun q' hq'=>?_,h3⟩;rcases Yr.1 hq' with rfl | hq'
    .obtain⟨R,rfl⟩:=exI_pre h;refine⟨Q.length,(nxS L e.1 q',e.2++[q']),get_left (by rw[Yyc (Yyt _),Nat.sub_self];rfl),rfl,?_⟩;show (e.2++[q']).length<=_;rw[Yh,Yv];exact Yyt _
    .exact h2 q' hq'
def ResOk (L:List Mch) (k:Int) (lim:Nat):Res->Prop
 | .bad b t=>∃(i:Nat) (Q:List Qe) (c:Cf),Sea L k lim i Q/\Q[i]?=some (c,t)/\badS L k c.1 c.2=b/\b≠0
 | .unk=>True
 | .safe R=>∃Q:List Qe,Sea L k lim Q.length Q/\R=Q.map Prod.fst
theorem sea_exO {L:List Mch} {k:Int} {lim:Nat}:∀ {f i:Nat} {Q:List Qe},Sea L k lim i Q->f+i=lim+1->i<=Q.length->ResOk L k lim (exO L k lim f i Q)
 | 0,i,Q,hs,h1,h2=>by have:=hs.l;omega
 | f+1,i,Q,hs,h1,h2=>by
  rw[exO];cases hq:Q[i]? with
  | none=>
   have hi:Q.length<=i:=List.getElem?_eq_none_iff.1 hq;have hi2:i=Q.length:=by omega
   subst hi2;exact⟨Q,hs,rfl⟩
  | some e=>
   dsimp only;by_cases hb:badS L k e.1.1 e.1.2≠0
   .rw[if_pos hb];exact⟨i,Q,e.1,hs,hq,rfl,hb⟩
   .rw[if_neg hb];cases hi:exI L lim e (stepsS L k e.1.1 e.1.2) Q with
    | none=>trivial
    | some Q'=>
     obtain⟨k1,k2,k3⟩:=sea_exI hs hq (fun q hq=>hq) hi;refine sea_exO (i:=i+1) ⟨k1.s,k1.n,k1.r,k1.p,fun j w hj hw=>?_,k1.m,fun b eb ei gb gi=>?_,k1.l⟩ (by omega) (by have:=(Ya.1 k3).1;omega)
     .by_cases hj2:j=i
      .subst hj2;rw[k3] at hw;cases hw;exact⟨Classical.byContradiction fun h=>hb h,k2⟩
      .exact k1.d j w (by omega) hw
     .have:=k1.u b eb e gb k3;have:=k1.m i (i+1) e ei (by omega) k3 gi;omega
theorem sea_start {L:List Mch} {k:Int} {lim:Nat} (hV:SysV L) (hk:1<=k/\k<=4) (hl:1<=lim):Sea L k lim 0 (q0 L):=by
 have hP:=xpro_start hV hk;rw[bxs0] at hP;have one:∀ {j:Nat} {e:Qe},(q0 L)[j]?=some e->j=0/\e=((startS L,startB L),[]):=fun {j e} h=>by
  have:=(Ya.1 h).1;have hj:j=0:=by simpa [q0] using this
  subst hj;cases h;exact⟨rfl,rfl⟩
 refine⟨rfl,by simp[q0],fun e he=>?_,fun e he=>?_,fun j e hj=>by omega,fun a b ea eb _ ga gb=>?_,fun b eb ei gb gi=>?_,hl⟩
 .rw[Ye.1 he];show some (startS L,(List.replicate (L.length*L.length) bx0).map Bx.l)=_;rw[bxs0];rfl
 .rw[Ye.1 he];exact hP
 .rw[(one ga).2,(one gb).2];exact Yyt _
 .rw[(one gb).2,(one gi).2];exact Nat.zero_le _
theorem exS_ok {L:List Mch} {k:Int} {lim:Nat} (hV:SysV L) (hk:1<=k/\k<=4) (hl:1<=lim):ResOk L k lim (exS L k lim):=sea_exO (sea_start hV hk hl) rfl (Nat.zero_le _)
end Go.VC
end

section
namespace Go.VC
open Go.Proofs Go.LexS Go.Maps
theorem app95:appB Pz 134 133 5 72=true:=by kernel_rfl
theorem app29:appB Pz 29 52 2 48=true:=by kernel_rfl
theorem cv_str {h h0:Heap} {s:Sl} {l:List Int} (hs:St h0 h [.sl s 5 1 (l.map u8C)]) (hb:∀x∈l,0<=x/\x<256):RunW Pz (Go.convert 54 9 (.slice s.a s.n s.c)) h fun v h'=>v=.string (bs (toB l))/\h'=h:=
 str_c (e:=5) (base:=h0.size) (ty:=5) (by kernel_rfl) (by kernel_rfl) (by kernel_rfl) (by have:=hs.give 0 rfl;rw[toB_c hb] at this;exact this)
theorem explore13 (L:List MR) (s:Sl) (k lim:Int) (h:Heap) (hS:SyI h s L) :
  Fn Pz 26 #[.slice s.a s.n s.c,.int .i64 k,.int .i64 lim] h (ExV (expV (L.map MR.m) k lim) h):=by
 apply vc26 s k lim;unfold W26 V26c V26b V26a;have hn:=hS.r.ln;have hsm:=hS.r.sm;have hlm:(L.map MR.m).length=L.length:=Yc _;refine (St.refl h).newb fun h1 hs=>?_;refine (start14 L s h1 (hS.ext hs.ext)).mono ?_;rintro _ h6 ⟨ss,sb,S,B,e,A1,rfl,hs1,hM,hv1,hv2⟩;have hs:=hs.join hs1;refine⟨ss,sb,e,rfl,?_⟩;refine hs.newput (vs:=[.slice ss.a ss.n ss.c,.slice sb.a sb.n sb.c]) rfl rfl fun h8 hs=>?_;have fin:∀ {hX:Heap} {i0:It} (e':Int),St h hX ([i0,.blk h.size [.int .i64 0,.slice none 0 0,.slice none 0 0,.int .i64 0,.slice none 0 0] 74]++A1)->expV (L.map MR.m) k lim=(rv0,e')->okAt hX ⟨h.size,0,none⟩ 5/\∀h9:Heap,h9=hputs hX ⟨h.size,0,none⟩ 0 [.int .i64 0,.slice none 0 0,.slice none 0 0,.int .i64 0,.slice none 0 0] -> 
  (∃x10:Int,∃x11:Sl,∃x12:Sl,∃x13:Int,∃x14:Sl,atC h9 ⟨h.size,0,none⟩ [.int .i64 x10,.slice x11.a x11.n x11.c,.slice x12.a x12.n x12.c,.int .i64 x13,.slice x14.a x14.n x14.c] /\ 
  ExV (expV (L.map MR.m) k lim) h (.tuple ⟨[.agg ⟨[.int .i64 x10,.slice x11.a x11.n x11.c,.slice x12.a x12.n x12.c,.int .i64 x13,.slice x14.a x14.n x14.c]⟩,.int .i64 e']⟩) h9):=fun {hX i0} e' hs he=>by
  refine hs.put 1 rfl (o:=0) (vs:=[.int .i64 0,.slice none 0 0,.slice none 0 0,.int .i64 0,.slice none 0 0]) rfl (show 5<=5 by decide) fun h9 hs=>?_;exact⟨0,⟨none,0,0⟩,⟨none,0,0⟩,0,⟨none,0,0⟩,hs.at 1 rfl (o:=0) (n:=5) rfl,ExV.empty hs (.inr ⟨rfl,rfl⟩) he⟩
 by_cases hV:SysV (L.map MR.m);rotate_left
 .obtain⟨rfl,-,-⟩:=hv2 hV;exact sB_t rfl (fin 1 hs (if_pos (.inl hV)))
 obtain⟨rfl,rfl,rfl⟩:=hv1 hV;clear hv1 hv2;refine sB_f rfl ?_;refine sBi (fun c1=>fin 1 hs (if_pos (.inr (.inl c1)))) (fun c1=>?_);refine sBi (fun c2=>fin 1 hs (if_pos (.inr (.inr c2)))) (fun c2=>?_);have hno:¬(¬SysV (L.map MR.m)\/k<1\/4<k):=fun h=>by
  rcases h with h | h | h
  .exact h hV
  .omega
  .omega
 refine sBi (fun c3=>fin 2 hs ((if_neg hno).trans (if_pos (.inl c3)))) (fun c3=>?_);refine sBi (fun c4=>fin 2 hs ((if_neg hno).trans (if_pos (.inr c4)))) (fun c4=>?_);have hx:expV (L.map MR.m) k lim=((exS (L.map MR.m) k lim.toNat).rv (L.map MR.m).length,0):=(if_neg hno).trans (if_neg (by omega));clear fin;have hV6:=hV.n;rw[hlm] at hV6;have h36:=sq6 hV6.2;obtain⟨lm,hlim⟩:∃lm:Nat,lim=(lm:Int):=⟨lim.toNat,by omega⟩;subst hlim;rw[Ys] at hx;have hP0:ProS (L.map MR.m) k (startS (L.map MR.m)) ((List.replicate ((L.map MR.m).length*(L.map MR.m).length) bx0).map Bx.l):=xpro_start hV (by omega);generalize hBB:List.replicate ((L.map MR.m).length*(L.map MR.m).length) bx0=B0 at *;refine (start32 L s k h8 (hS.ext hs.ext) hV).mono ?_;rintro _ h41 ⟨eb,wb,A2,osl,os,qs,rfl,hs2,hE⟩;have hs:=(hs.join hs2).perm List.perm_middle;refine⟨some ⟨eb,0,none⟩,rfl,?_⟩;refine hs.mmake 104 fun h44 E44 hs=>⟨_,rfl,?_⟩;have hs:St h h44 ([.mp h41.size [],.mp wb [],.blk h6.size [.slice ss.a ss.n ss.c,.slice sb.a sb.n sb.c] 52,.blk h.size [.int .i64 0,.slice none 0 0,.slice none 0 0,.int .i64 0,.slice none 0 0] 74]++(A1++A2)):=hs;have hA1:CfN (A1++A2) ss sb (startS (L.map MR.m)) B0:=fun h0 hh A' hA hs=>hM.mono (fun i hi=>hA i (List.mem_append_left _ hi)) |>.cfi hs
 replace hE:Sta (A1++A2) fun h=>EngX h eb wb s k L osl os qs:=hE.mono memP;generalize A1++A2=A at *;refine⟨ss,sb,hs.at 2 rfl (o:=0) (n:=2) rfl,?_⟩;refine (encode35 ss sb _ _ h44 (hA1.at hs memP) (enc_pro hP0)).mono ?_;rintro _ h49 ⟨b,rfl,hse⟩;have hs:=hs.step hse.ext;refine⟨b,rfl,(cv_str hse encC_byte).mono ?_⟩;rintro _ _ ⟨rfl,rfl⟩;refine⟨_,rfl,?_⟩;obtain⟨v0,hv0⟩:∃v0:Vs,v0=⟨ss,sb,startS (L.map MR.m),B0,-1,0,0,[]⟩:=⟨_,rfl⟩;have hkv:bs (toB (encC (startS (L.map MR.m)) (B0.map Bx.l)))=kyC (vq v0).1:=by rw[hv0];rfl
 rw[hkv];refine hs.mput M92 (cv:=Value.bool) (l:=[]) (a:=kyC (vq v0).1) 0 rfl (fun q hq=>by cases hq) .nil (by rw[hv0];exact ky_ok (c:=(_,_)) hP0) true fun h53 hs=>?_;refine⟨ss,sb,hs.at 2 rfl (o:=0) (n:=2) rfl,?_⟩;refine hs.newb fun h56 hs=>?_;have hs:=hs.blkS 1 5 ([v0].map Vs.cs) (by rw[hv0];rfl) (fun r hr=>by rw[Yyl,List.map_nil,Ye] at hr;rw[hr];rfl) rfl (by decide);have hs:St h h56 ([.mp wb (([]:List (Wt × Bool)).map wtC),.mp h41.size (([v0].map kyP).map kyV),.sl ⟨some ⟨h53.size,0,none⟩,1,1⟩ 133 5 ([v0].map Vs.cs),.blk h.size [.int .i64 0,.slice none 0 0,.slice none 0 0,.int .i64 0,.slice none 0 0] 74]++A):=
  St.picksA (P:=[_,_,_,_,_]) hs [2,1,0,4] (by decide) rfl
 have hsea:SeaV L k A [v0]:=by
  refine⟨fun v hv=>?_,fun v hv=>?_,fun j v hj=>?_,by simp⟩
  .rw[Ye.1 hv,hv0];exact hA1
  .rw[Ye.1 hv,hv0];exact hP0
  .have hj0:j=0:=by have:=(Ya.1 hj).1;simpa using this
   subst hj0;cases hj;rw[hv0];exact⟨Nat.zero_le _,.inl ⟨rfl,rfl⟩⟩
 have hex:exO (L.map MR.m) k lm (lm+1) 0 ([v0].map vq)=exS (L.map MR.m) k lm:=by
  unfold exS q0;congr 1;rw[hv0];unfold vq startB;rw[Yyl,List.map_nil,<-hBB,bxs0]
 have hwt0:WtOk L []:=⟨.nil,fun q hq=>by cases hq⟩;refine⟨fun queue x h' μ=>∃(i f:Nat) (V:List Vs) (K:List (Wt × Bool)) (A:List It),x=(i:Int)/\μ=f/\f+i=lm+1/\i<=V.length/\V.length<=lm/\exO (L.map MR.m) k lm f i (V.map vq)=exS (L.map MR.m) k lm/\SeaV L k A V/\WtOk L K/\Sta A (fun h=>EngX h eb wb s k L osl os qs) /\
  St h h' ([.mp wb (K.map wtC),.mp h41.size ((V.map kyP).map kyV),.sl queue 133 5 (V.map Vs.cs),.blk h.size [.int .i64 0,.slice none 0 0,.slice none 0 0,.int .i64 0,.slice none 0 0] 74]++A),⟨_,0,lm+1,[v0],[],A,rfl,rfl,rfl,Nat.zero_le _,by show 1<=lm;omega,hex,hsea,hwt0,hE,hs⟩,?_⟩
 clear hs hex hsea hwt0 hE hkv hv0 hA1 hse hs1 hs2 hM;rintro-queue _ h62 μ ⟨i,f,V,K,A,rfl,hμ,hfi,hi,hVl,hex,hsea,hK,hE,hs⟩;have hqn:=(hs.rows 2 (s:=queue) (cs:=Vs.cs) rfl (by omega)).ln;refine sBi (fun c5=>?_) (fun c5=>?_)
 .obtain⟨v,gv⟩:=get_some (l:=V) (i:=i) (by omega);have hvm:=Yb gv;have hcv:=hsea.c v hvm;have hpv:=hsea.p v hvm;refine (hs.rows 2 (s:=queue) (cs:=Vs.cs) rfl (by omega)).nbI (by omega) (by omega) fun b63 o64 v' gv' t=>?_;rw[Ys,gv] at gv';cases gv';refine⟨v.c1,v.c2,t.sub0 2 rfl,?_⟩;refine hs.newput (vs:=[.slice v.c1.a v.c1.n v.c1.c,.slice v.c2.a v.c2.n v.c2.c]) rfl rfl fun h68 hs=>?_;refine⟨v.c1,v.c2,hs.at 0 rfl (o:=0) (n:=2) rfl,?_⟩;refine (steps34 L s k eb v.c1 v.c2 v.S v.B h68 (hS.ext hs.ext) (hE.at hs (memP (P:=[_,_,_,_,_]))).r (hcv.at hs (memP (P:=[_,_,_,_,_]))) hpv).mono ?_;rintro _ h73 ⟨r,rfl,hsr⟩;have hs:=(hs.join hsr).perm List.perm_append_comm;have hs:St h h73 (.mp wb (K.map wtC)::[.sl r 43 2 ((stepsS (L.map MR.m) k v.S (v.B.map Bx.l)).map stpC),.blk h62.size [.slice v.c1.a v.c1.n v.c1.c,.slice v.c2.a v.c2.n v.c2.c] 52,.mp h41.size ((V.map kyP).map kyV),.sl queue 133 5 (V.map Vs.cs),.blk h.size [.int .i64 0,.slice none 0 0,.slice none 0 0,.int .i64 0,.slice none 0 0] 74]++A):=
   St.picksA (P:=[_,_,_,_,_,_]) hs [2,0,1,3,4,5] (by decide) rfl
  have hrn:=(hs.rows 1 (s:=r) (cs:=stpC) rfl (by omega)).ln;obtain⟨X,hX⟩:∃X,X=stepsS (L.map MR.m) k v.S (v.B.map Bx.l):=⟨_,rfl⟩;rw[<-hX] at hs hrn;refine⟨r,rfl,v.c1,v.c2,hs.at 2 rfl (o:=0) (n:=2) rfl,?_⟩;refine (bad35 L s k eb wb v.c1 v.c2 v.S v.B (decide ((r.n:Int)>0)) K osl os qs hs (hS) (hE.mono (memP (P:=[_,_,_,_,_]))) (hcv.mono (memP (P:=[_,_,_,_,_]))) hpv hK (by
   rw[decide_eq_true_eq,<-hX];constructor
   .intro h1 h2;rw[h2] at hrn;simp at hrn;omega
   .intro h1;have:X.length≠0:=fun h2=>h1 (List.length_eq_zero_iff.1 h2);omega)).mono ?_
  rintro _ h78 ⟨K2,rfl,hK2,hs⟩;obtain⟨f2,hf2⟩:∃f',f=f'+1:=⟨f-1,by omega⟩;have gvq:(V.map vq)[i]?=some (vq v):=by rw[Yd,gv];rfl
  rw[hf2,exO,gvq] at hex;dsimp only at hex;have hbadE:badS (L.map MR.m) k (vq v).1.1 (vq v).1.2=badS (L.map MR.m) k v.S (v.B.map Bx.l):=rfl;have hstE:stepsS (L.map MR.m) k (vq v).1.1 (vq v).1.2=X:=hX.symm;rw[hbadE,hstE] at hex;refine⟨_,rfl,?_⟩;generalize badS (L.map MR.m) k v.S (v.B.map Bx.l)=bd at *;by_cases hbd:bd=0;rotate_left
  .rw[if_pos hbd] at hex;refine sB_t (by rw[bne_iff_ne];exact hbd) ?_;refine (trace36 V queue i v h78 (hs.rows 4 (s:=queue) (cs:=Vs.cs) rfl (by omega)) (by omega) gv hsea.t).mono ?_;rintro _ h81 ⟨tr,rfl,hst⟩;have hs:=(hs.join hst).perm List.perm_append_comm;refine⟨tr,rfl,?_⟩;refine hs.put 6 rfl (o:=0) (vs:=[.int .i64 2,.slice none 0 0,.slice none 0 0,.int .i64 bd,.slice tr.a tr.n tr.c]) rfl (show 5<=5 by decide) fun h82 hs=>?_;have htl:v.tr.length<=i:=(hsea.t i v gv).1;refine⟨2,⟨none,0,0⟩,⟨none,0,0⟩,bd,tr,hs.at 6 rfl (o:=0) (n:=5) rfl,ExV.empty hs (.inl ⟨Yx,by omega⟩) ?_⟩;rw[hx,<-hex];rfl
  rw[if_neg (fun h=>h hbd)] at hex;refine sB_f (by rw[hbd];rfl) ?_;obtain⟨g,hg⟩:∃g,g=exI (L.map MR.m) lm (vq v) X (V.map vq):=⟨_,rfl⟩;rw[<-hg] at hex;have hXs:∀z∈X,∃m x,(L.map MR.m)[z.1]?=some m/\m.mv[z.2]?=some x/\canS (L.map MR.m).length k v.S (v.B.map Bx.l) z.1 x=0:=fun z hz=>by
   obtain⟨a,b⟩:=z;rw[hX] at hz;exact steps_mem hz
  have hXl:X.length<=2400:=by
   have:=steps_len (n:=(L.map MR.m).length) (k:=k) (S:=v.S) (BL:=v.B.map Bx.l) hV (L.map MR.m).length;rw[hX];unfold stepsS;omega
  refine⟨fun queue x h' μ=>∃(j:Nat) (V:List Vs) (A:List It),x=(j:Int)/\μ=X.length-j/\j<=X.length/\i<V.length/\V.length<=lm/\V[i]?=some v/\exI (L.map MR.m) lm (vq v) (X.drop j) (V.map vq)=g/\SeaV L k A V/\Sta A (fun h=>EngX h eb wb s k L osl os qs) /\
   St h h' ([.mp wb (K2.map wtC),.sl r 43 2 (X.map stpC),.blk h62.size [.slice v.c1.a v.c1.n v.c1.c,.slice v.c2.a v.c2.n v.c2.c] 52,.mp h41.size ((V.map kyP).map kyV),.sl queue 133 5 (V.map Vs.cs),.blk h.size [.int .i64 0,.slice none 0 0,.slice none 0 0,.int .i64 0,.slice none 0 0] 74]++A),⟨_,0,V,A,rfl,rfl,Nat.zero_le _,by omega,hVl,gv,by rw[List.drop_zero];exact hg.symm,hsea,hE,hs⟩,?_⟩
  clear hs hsea hE hcv gv hVl hqn c5 hg hi gvq hvm hK;clear t hsr;rintro-queue2 _ h93 μ ⟨j,V,A,rfl,rfl,hj,hiV,hVl,gv,hgI,hsea,hE,hs⟩;have hqn:=(hs.rows 4 (s:=queue2) (cs:=Vs.cs) rfl (by omega)).ln;have hcv:=hsea.c v (Yb gv);refine sBi (fun c6=>?_) (fun c6=>?_)
  .obtain⟨⟨a,b⟩,gz⟩:=get_some (l:=X) (i:=j) (by omega);obtain⟨m,x,gm,gx,hc⟩:=hXs _ (Yb gz);dsimp only at gm gx hc;have hxm:=Yb gx;have hvmm:=hpv.v.m a m gm;have ha:a<(L.map MR.m).length:=(Ya.1 gm).1;have hx0:=(hvmm.2.1.n.mv x hxm).2.2.2.2.1;have hx1:=hvmm.2.2 x hxm;rw[hlm] at hc hx1 ha;have hBl:v.B.length=L.length*L.length:=by have:=hpv.p.b;rw[Yc,hlm] at this;exact this
   have hSl:v.S.length=L.length:=by rw[hpv.p.s,hlm]
   obtain⟨q,gq⟩:=get_some (l:=v.B) (i:=bxI L.length a x) (by rw[hBl];exact bxI_lt ha hx0 hx1);have hql:(v.B.map Bx.l)[bxI L.length a x]?=some q.l:=by rw[Yd,gq];rfl
   have hqd:(v.B.map Bx.l).getD (bxI L.length a x) []=q.l:=getD_map gq;have hq4:q.l.length<=4:=by have:=(hpv.p.bx _ q.l hql).1;omega
   have hq1:x.send=false->1<=q.l.length:=fun d=>by
    obtain⟨r,hr⟩:=(can_parts.1 hc).2.2 d;rw[hqd] at hr;rw[hr,Yyj];omega
   refine (hs.rows 1 (s:=r) (cs:=stpC) rfl (by omega)).nbI (by omega) (by omega) fun b94 o95 z gz' t=>?_;rw[Ys,gz] at gz';cases gz';refine⟨(a:Int),(b:Int),t,?_⟩;refine hs.newput (vs:=[.int .i64 (a:Int),.int .i64 (b:Int)]) rfl rfl fun h99 hs=>?_;refine⟨v.c1,v.c2,hs.at 3 rfl (o:=0) (n:=2) rfl,(a:Int),(b:Int),hs.at 0 rfl (o:=0) (n:=2) rfl,?_⟩;refine (do37 L s k eb v.c1 v.c2 v.S v.B a b m x q h99 (hS.ext hs.ext) (hE.at hs (memP (P:=[_,_,_,_,_,_,_]))).r (hcv.at hs (memP (P:=[_,_,_,_,_,_,_]))) hpv gm gx hc gq).mono ?_;rintro _ h107 ⟨ts,tb,u,A3,rfl,hs3,m1,m2,m3,m4⟩;rw[hn] at m2;have hs:St h h107 ([.blk h93.size [.int .i64 (a:Int),.int .i64 (b:Int)] 43,.mp wb (K2.map wtC),.sl r 43 2 (X.map stpC),.blk h62.size [.slice v.c1.a v.c1.n v.c1.c,.slice v.c2.a v.c2.n v.c2.c] 52,.mp h41.size ((V.map kyP).map kyV),.sl queue2 133 5 (V.map Vs.cs),.blk h.size [.int .i64 0,.slice none 0 0,.slice none 0 0,.int .i64 0,.slice none 0 0] 74]++(A++A3)):=hs.join hs3;have hSS:(v.S.set a x.t).length<=1048576:=by rw[Yyh];omega
   have hcn:CfN (A++A3) ts tb (v.S.set a x.t) (v.B.set (bxI L.length a x) ⟨u,newL x q.l⟩):=do_next hcv gq hSS (by omega) hq4 hq1 m1 m2 m3 m4;have hBn:(v.B.set (bxI L.length a x) ⟨u,newL x q.l⟩).map Bx.l=doB (L.map MR.m).length a x (v.B.map Bx.l):=by rw[hlm];exact doB_newL gq
   have hpn:ProS (L.map MR.m) k (v.S.set a x.t) ((v.B.set (bxI L.length a x) ⟨u,newL x q.l⟩).map Bx.l):=by
    rw[hBn];exact pro_do hpv gm hxm (by rw[hlm];exact hc)
   have hnx:((v.S.set a x.t,(v.B.set (bxI L.length a x) ⟨u,newL x q.l⟩).map Bx.l):Cf)=nxS (L.map MR.m) (vq v).1 (a,b):=by rw[nxS_of gm gx,hBn];rfl
   replace hsea:SeaV L k (A++A3) V:=hsea.mono fun i hi=>List.mem_append_left _ hi;replace hE:Sta (A++A3) fun h=>EngX h eb wb s k L osl os qs:=hE.mono fun i hi=>List.mem_append_left _ hi;clear hs3 m1 m2 m3 m4 hcv t;generalize A++A3=A at *;obtain⟨nv,hnv⟩:∃nv:Vs,nv=⟨ts,tb,v.S.set a x.t,v.B.set (bxI L.length a x) ⟨u,newL x q.l⟩,(i:Int),a,b,v.tr++[(a,b)]⟩:=⟨_,rfl⟩;have hnq:(vq nv).1=nxS (L.map MR.m) (vq v).1 (a,b):=by rw[hnv];exact hnx
   have hnt:vq nv=(nxS (L.map MR.m) (vq v).1 (a,b),(vq v).2++[(a,b)]):=Prod.ext hnq (by rw[hnv];rfl);refine⟨ts,tb,rfl,?_⟩;refine hs.newput (vs:=[.slice ts.a ts.n ts.c,.slice tb.a tb.n tb.c]) rfl rfl fun h109 hs=>?_;refine⟨ts,tb,hs.at 0 rfl (o:=0) (n:=2) rfl,?_⟩;refine (encode35 ts tb _ _ h109 (hcn.at hs (memP (P:=[_,_,_,_,_,_,_,_]))) (enc_pro hpn)).mono ?_;rintro _ h114 ⟨b3,rfl,hse⟩;have hs:=hs.step hse.ext;refine⟨b3,rfl,(cv_str hse encC_byte).mono ?_⟩;rintro _ _ ⟨rfl,rfl⟩;refine⟨_,rfl,?_⟩;have hkv:bs (toB (encC (v.S.set a x.t) ((v.B.set (bxI L.length a x) ⟨u,newL x q.l⟩).map Bx.l)))=kyC (vq nv).1:=by rw[hnv];rfl
   rw[hkv];have hkok:kokB (kyC (vq nv).1):=by rw[hnv];exact ky_ok (c:=(_,_)) hpn
   rw[drop_get gz,exI] at hgI;refine hs.mlook M92 (cv:=Value.bool) (l:=V.map kyP) (a:=kyC (vq nv).1) 5 rfl hsea.kok hsea.knd hkok false ?_;have hmm:=ky_mem (V:=V) (c:=(vq nv).1);cases hg:mget (V.map kyP) (kyC (vq nv).1) with
   | some y=>
    have hy:y=true:=by
     obtain⟨w,_,e⟩:=Yp.1 (mgetE_mem hg);exact (congrArg Prod.snd e).symm
    subst hy;rw[hg] at hmm;refine⟨true,rfl,sB_t rfl ?_⟩;rw[if_pos (by rw[<-hnq];exact hmm.2 (by simp))] at hgI;refine⟨_,(show X.length-(j+1)<X.length-j by omega),j+1,V,A,by rw[w64 (by omega) (by omega)];omega,rfl,by omega,hiV,hVl,gv,hgI,hsea,hE,hs.drop 2⟩
   | none=>
    rw[hg] at hmm;have hnm:(vq nv).1∉(V.map vq).map Prod.fst:=fun h=>hmm.1 h rfl;refine⟨false,rfl,sB_f rfl ?_⟩;rw[if_neg (by rw[<-hnq];exact hnm),Yc] at hgI;refine sBe (fun c7=>?_) (fun c7=>?_)
    .rw[if_pos (by omega)] at hgI;rw[<-hgI] at hex;refine hs.put 7 rfl (o:=0) (vs:=[.int .i64 3,.slice none 0 0,.slice none 0 0,.int .i64 0,.slice none 0 0]) rfl (show 5<=5 by decide) fun h122 hs=>?_;refine⟨3,⟨none,0,0⟩,⟨none,0,0⟩,0,⟨none,0,0⟩,hs.at 7 rfl (o:=0) (n:=5) rfl,ExV.empty hs (.inr ⟨rfl,rfl⟩) ?_⟩;rw[hx,<-hex];rfl
    .rw[if_neg (by omega)] at hgI;refine hs.mput M92 (cv:=Value.bool) (l:=V.map kyP) (a:=kyC (vq nv).1) 5 rfl hsea.kok hsea.knd hkok true fun h128 hs=>?_;rw[mset_none (mget_nomem hg)] at hs;refine⟨ts,tb,hs.at 0 rfl (o:=0) (n:=2) rfl,(a:Int),(b:Int),hs.at 1 rfl (o:=0) (n:=2) rfl,?_⟩;refine hs.app 6 (s:=queue2) (n:=5) (rows:=V.map Vs.cs) rfl app95 (m:=1) [nv.cs] (by rw[hnv];rfl) rfl (fun r hr=>by rw[Ye] at hr;rw[hr];rfl) rfl (by omega) (by simp only[maxLen];omega) fun q2 h135 nr hs=>?_;refine⟨_,(show X.length-(j+1)<X.length-j by omega),j+1,V++[nv],A,by rw[w64 (by omega) (by omega)];omega,rfl,by omega,by rw[Yh];omega,by rw[Yh,Yv];omega,by rw[Yyi hiV];exact gv,?_,hsea.snoc (p:=i) (u:=v) ?_ ?_ hnm gv ?_ ?_,hE,?_⟩
     .rw[Ym,Yyl,List.map_nil,hnt];exact hgI
     .rw[hnv];exact hcn
     .rw[hnv];exact hpn
     .rw[hnv]
     .rw[hnv]
     .have e1:(V++[nv]).map kyP=V.map kyP++[(kyC (vq nv).1,true)]:=by rw[Ym];rfl
      have e2:(V++[nv]).map Vs.cs=V.map Vs.cs++[nv.cs]:=by rw[Ym];rfl
      rw[e1,e2];exact hs.drop 2
  .have hje:j=X.length:=by omega
   rw[hje,List.drop_length,exI] at hgI;rw[<-hgI] at hex;refine⟨f2,by omega,i+1,f2,V,K2,A,by rw[w64 (by omega) (by omega)];omega,rfl,by omega,by omega,hVl,hex,hsea,hK2,hE,?_⟩;exact St.picksA (P:=[_,_,_,_,_,_]) hs [0,3,4,5] (by decide) rfl
 .have hiV:V.length<=i:=by omega
  obtain⟨f2,hf2⟩:∃f',f=f'+1:=⟨f-1,by omega⟩;rw[hf2,exO,Yl (by rw[Yc];exact hiV)] at hex;dsimp only at hex;have hsq:(s.n:Int)*(s.n:Int)=((L.length*L.length:Nat):Int):=by rw[hn];rfl
  obtain⟨nn,hnn⟩:∃nn,nn=L.length*L.length:=⟨_,rfl⟩;rw[hsq,<-hnn,w64 (n:=((nn:Nat):Int)) (by omega) (by omega),Ys,made3i];refine⟨⟨by omega,by omega,by omega⟩,?_⟩;refine hs.newb fun h138 hs=>?_;have hs:=hs.blkS nn 1 ((List.replicate nn (0:Int)).map inC) (inC_flat _) (inrows _) (by rw[Yc,Yg]) (by simp only[maxLen];omega);refine hs.newput (vs:=[.int .i64 1,.slice none 0 0,.slice (some ⟨h62.size,0,none⟩) nn nn,.int .i64 0,.slice none 0 0]) rfl rfl fun h140 hs=>?_;have hs:=hs.nil_ 52 2;obtain⟨mo,hmo⟩:∃mo:Sl,mo=⟨some ⟨h62.size,0,none⟩,nn,nn⟩:=⟨_,rfl⟩;have hs:St h h140 ([.sl ⟨none,0,0⟩ 52 2 (([]:List Cr).map Cr.cs),.blk h138.size (resA 1 ⟨none,0,0⟩ mo 0 ⟨none,0,0⟩) 74,.sl mo 3 1 ((List.replicate nn (0:Int)).map inC),.sl queue 133 5 (V.map Vs.cs),.blk h.size [.int .i64 0,.slice none 0 0,.slice none 0 0,.int .i64 0,.slice none 0 0] 74]++A):=
   St.picksA (P:=[_,_,_,_,_,_,_]) (by rw[hmo];exact hs) [0,1,2,5,6] (by decide) rfl
  have hm0:List.replicate nn (0:Int)=mostS L.length ((V.take 0).map fun v=>(vq v).1):=by rw[hnn];rfl
  rw[hm0] at hs;refine⟨fun x h' μ=>∃(i:Nat) (C:List Cr) (cf:Sl) (A:List It),x=(i:Int)/\μ=V.length-i/\i<=V.length/\C.map Cr.cf=(V.take i).map (fun v=>(vq v).1)/\(∀c∈C,CfN A c.c1 c.c2 c.S c.B)/\SeaV L k A V /\
   St h h' ([.sl cf 52 2 (C.map Cr.cs),.blk h138.size (resA 1 cf mo 0 ⟨none,0,0⟩) 74,.sl mo 3 1 ((mostS L.length ((V.take i).map fun v=>(vq v).1)).map inC),.sl queue 133 5 (V.map Vs.cs),.blk h.size [.int .i64 0,.slice none 0 0,.slice none 0 0,.int .i64 0,.slice none 0 0] 74]++A),⟨_,0,[],⟨none,0,0⟩,A,rfl,rfl,Nat.zero_le _,rfl,fun c hc=>(by cases hc),hsea,hs⟩,?_⟩
  clear hs hsea hE hm0;rintro-_ h145 μ2 ⟨i2,C,cf,A,rfl,rfl,hi2,hC,hCn,hsea,hs⟩;have hCl:C.length=i2:=by
   have:=congrArg List.length hC;rw[Yc,Yc,Yu] at this;omega
  refine sBi (fun c6=>?_) (fun c6=>?_)
  .obtain⟨v,gv⟩:=get_some (l:=V) (i:=i2) (by omega);have hvm:=Yb gv;have hcv:=hsea.c v hvm;have hpv:=hsea.p v hvm;have hBl:v.B.length=nn:=by have:=hpv.p.b;rw[Yc,hlm] at this;rw[hnn];exact this
   have hSl:v.S.length=L.length:=by rw[hpv.p.s,hlm]
   refine (hs.rows 3 (s:=queue) (cs:=Vs.cs) rfl (by omega)).nbI (by omega) (by omega) fun b146 o147 v' gv' t=>?_;rw[Ys,gv] at gv';cases gv';refine⟨v.c1,v.c2,v.ah,(v.a:Int),(v.b:Int),t,?_⟩;refine hs.newput (vs:=v.cs) rfl rfl fun h154 hs=>?_;refine⟨cf,hs.rd 2 rfl (i:=1) rfl,v.c1,v.c2,hs.at 0 rfl (o:=0) (n:=2) rfl,?_⟩;refine (clone38 v.c1 v.c2 v.S v.B h154 (hcv.at hs (memP (P:=[_,_,_,_,_,_])))).mono ?_;rintro _ h161 ⟨ts,tb,T,rfl,hTB,hst⟩;have hTl:T.length=nn:=by
    have:=congrArg List.length hTB;rw[Yc,Yc] at this;omega
   refine⟨ts,tb,rfl,hst.ext.sm,?_⟩;have hs:=hs.join hst;refine hs.newbE fun h162 E162 hs=>⟨E162.sm,?_⟩;have hcn:CfN (A++([.sl ts 3 1 (v.S.map inC),.sl tb 25 1 (T.map Bx.cs)]++T.map Bx.it)) ts tb v.S T:=fun h0 hh A' hA hs=>by
    have m1:∀it∈([.sl ts 3 1 (v.S.map inC),.sl tb 25 1 (T.map Bx.cs)]++T.map Bx.it:List It),it∈A':=fun it h=>hA it (List.mem_append_right _ h);refine⟨hs.rlm (m1 _ Yx) (by omega) (by omega),hs.rlm (m1 _ (Yn _ Yx)) (by omega) (by omega),fun q hq=>?_⟩;refine hs.rlm (m1 _ (List.mem_append_right _ (List.mem_map_of_mem hq))) (by omega) ?_;have hq1:q.l∈v.B.map Bx.l:=by rw[<-hTB];exact List.mem_map_of_mem hq
    obtain⟨j,gj⟩:=Yf.1 hq1;have:=(hpv.p.bx j q.l gj).1;have:=hpv.c;omega
   have hs:St h h162 ([.blk h161.size [.slice ts.a ts.n ts.c,.slice tb.a tb.n tb.c] 52,.blk h145.size v.cs 133,.sl cf 52 2 (C.map Cr.cs),.blk h138.size (resA 1 cf mo 0 ⟨none,0,0⟩) 74,.sl mo 3 1 ((mostS L.length ((V.take i2).map fun v=>(vq v).1)).map inC),.sl queue 133 5 (V.map Vs.cs),.blk h.size [.int .i64 0,.slice none 0 0,.slice none 0 0,.int .i64 0,.slice none 0 0] 74]++(A++([.sl ts 3 1 (v.S.map inC),.sl tb 25 1 (T.map Bx.cs)]++T.map Bx.it))):=hs;replace hsea:=hsea.mono (A':=A++([.sl ts 3 1 (v.S.map inC),.sl tb 25 1 (T.map Bx.cs)]++T.map Bx.it)) fun i hi=>List.mem_append_left _ hi;replace hCn:∀c∈C,CfN (A++([.sl ts 3 1 (v.S.map inC),.sl tb 25 1 (T.map Bx.cs)]++T.map Bx.it)) c.c1 c.c2 c.S c.B:=fun c hc=>(hCn c hc).mono fun i hi=>List.mem_append_left _ hi;clear hst hcv t;generalize A++([.sl ts 3 1 (v.S.map inC),.sl tb 25 1 (T.map Bx.cs)]++T.map Bx.it)=A at *;have hcv:=hsea.c v hvm;have hcfn:=(hs.len 2 (s:=cf) rfl (by omega)).1;rw[Yc] at hcfn;refine hs.appended 2 (s:=cf) (n:=2) (rows:=C.map Cr.cs) rfl app29 (m:=1) (news:=[Cr.cs (⟨ts,tb,v.S,T⟩:Cr)]) (hs.at 0 rfl (n:=2) rfl) rfl (fun r hr=>by rw[Ye] at hr;rw[hr];rfl) rfl (by omega) (by simp only[maxLen];omega) fun r2 h164 nr hs=>?_;refine hs.put 3 rfl (o:=1) (vs:=[.slice r2.a r2.n r2.c]) rfl (show 2<=5 by decide) fun h165 hs=>?_;refine⟨v.c2,hs.rd 1 rfl (i:=1) rfl,?_⟩;have hbn:=(hcv.at hs (memP (P:=[_,_,_,_,_,_,_]))).b.ln;generalize hMM:mostS L.length ((V.take i2).map fun v=>(vq v).1)=M at *;have hMl:M.length=nn:=by rw[<-hMM,most_len,hnn]
   refine⟨fun x h' μ=>∃j:Nat,x=(j:Int)/\μ=v.B.length-j/\j<=v.B.length/\St h h' ([.blk h161.size [.slice ts.a ts.n ts.c,.slice tb.a tb.n tb.c] 52,.blk h145.size v.cs 133,.sl r2 52 2 ((C++[(⟨ts,tb,v.S,T⟩:Cr)]).map Cr.cs),.blk h138.size (resA 1 r2 mo 0 ⟨none,0,0⟩) 74,.sl mo 3 1 ((stepM (v.B.map Bx.l) j M).map inC),.sl queue 133 5 (V.map Vs.cs),.blk h.size [.int .i64 0,.slice none 0 0,.slice none 0 0,.int .i64 0,.slice none 0 0] 74]++A),⟨_,0,rfl,rfl,Nat.zero_le _,by rw[stepM_0,Ym];exact hs⟩,?_⟩;clear hs;rintro-_ h171 μ3 ⟨j,rfl,rfl,hj,hs⟩;have hmn:=(hs.rows 4 (s:=mo) (cs:=inC) rfl (by omega)).ln;rw[stepM_len] at hmn;refine sBi (fun c7=>?_) (fun c7=>?_)
   .obtain⟨q,gq⟩:=get_some (l:=v.B) (i:=j) (by omega);obtain⟨y,gy⟩:=get_some (l:=M) (i:=j) (by omega);have hCf:=hcv.at hs (memP (P:=[_,_,_,_,_,_,_]));have hqi:=hCf.i q (Yb gq);have hqn:=hqi.ln;refine hCf.b.rw.nbI (by omega) (by omega) fun b172 o173 q' gq' t=>?_;rw[Ys,gq] at gq';cases gq';refine⟨q.s,t.hd,mo,hs.rd 3 rfl (i:=2) rfl,mo,hs.rd 3 rfl (i:=2) rfl,?_⟩;refine (hs.rows 4 (s:=mo) (cs:=inC) rfl (by omega)).nbI (by omega) (by omega) fun b177 o178 y' gy' t2=>?_;rw[Ys,stepM_get,gy] at gy';cases gy';refine⟨y,t2.hd,?_⟩;refine hs.set 4 (s:=mo) (cs:=inC) (x:=(j:Int)) rfl (by omega) (by omega) (by omega) (imax y (q.s.n:Int)) rfl rfl (fun b180 o181 h182 hs=>?_) rfl;rw[Ys] at hs;have hql:(v.B.map Bx.l).getD j []=q.l:=getD_map gq;have e1:=stepM_next (B:=v.B.map Bx.l) gy;rw[hql,<-hqn] at e1;refine⟨_,(show v.B.length-(j+1)<v.B.length-j by omega),j+1,by rw[w64 (by omega) (by omega)];omega,rfl,by omega,?_⟩;rw[<-e1];exact hs
   .have hjB:j=v.B.length:=by omega
    have e1:(V.take (i2+1)).map (fun v=>(vq v).1)=(V.take i2).map (fun v=>(vq v).1)++[(vq v).1]:=by rw[take_snoc gv,Ym];rfl
    refine⟨_,(show V.length-(i2+1)<V.length-i2 by omega),i2+1,C++[(⟨ts,tb,v.S,T⟩:Cr)],r2,A,by rw[w64 (by omega) (by omega)];omega,rfl,by omega,?_,?_,hsea,?_⟩
    .rw[e1,Ym,hC];congr 1;show [(v.S,T.map Bx.l)]=_;rw[hTB];rfl
    .intro c hc;rcases Yk.1 hc with hc | hc
     .exact hCn c hc
     .rw[Ye.1 hc];exact hcn
    .rw[e1,most_snoc,hMM];have e2:=stepM_end (B:=v.B.map Bx.l) (M:=M) (j:=j) (by omega);rw[e2] at hs;exact hs.drop 2
  .have hie:i2=V.length:=by omega
   subst hie;rw[Yye] at hC hs;refine⟨1,cf,mo,0,⟨none,0,0⟩,hs.at 1 rfl (o:=0) (n:=5) rfl,?_⟩;refine hs.put 4 rfl (o:=0) (vs:=resA 1 cf mo 0 ⟨none,0,0⟩) rfl (show 5<=5 by decide) fun h190 hs=>?_;refine⟨1,cf,mo,0,⟨none,0,0⟩,hs.at 4 rfl (o:=0) (n:=5) rfl,cf,mo,⟨none,0,0⟩,_,?_,hs,fun h0 h2 A' hA hs'=>?_⟩
   .rw[hx,<-hex];rfl
   .have hr:(expV (L.map MR.m) k (lm:Int)).1=⟨1,(V.map vq).map Prod.fst,mostS (L.map MR.m).length ((V.map vq).map Prod.fst),0,[]⟩:=by rw[hx,<-hex];rfl
    have eV:(V.map vq).map Prod.fst=V.map fun v=>(vq v).1:=by rw[List.map_map];rfl
    rw[hr,eV,hlm];have hml:=most_len L.length (V.map fun v=>(vq v).1);exact⟨⟨C,hs'.rlm (hA _ Yx) (by omega) (by omega),fun c hc=>hCn c hc h0 h2 A' (fun i hi=>hA i (memP (P:=[_,_,_,_,_]) i hi)) hs',hC⟩,
     hs'.rlm (hA _ (Yn _ (Yn _ Yx))) (by omega) (Yys (Nat.le_of_eq hml) (by omega)),RL.nil0⟩
end Go.VC
end

section
namespace Go.VC
open Go.Proofs Go.LexS

structure Vr where
 c:Cr
 t:Sl
 tr:List (Nat × Nat)
def Vr.cs (v:Vr):List Value:=v.c.cs
def Vr.ts (v:Vr):List Value:=[.slice v.t.a v.t.n v.t.c]
def cstP (n:Nat) (k:Int) (S:List Int) (BL:List (List Int)) (p:Nat) (m:Mch):List Nat:=(List.range m.mv.length).filter (posB n k S BL p m)
def cstS (L:List Mch) (k:Int) (c:Cf):List (Nat × Nat):=(List.range L.length).flatMap fun p=>match L[p]? with
 | some m=>(cstP L.length k c.1 c.2 p m).map fun i=>(p,i)
 | none=>[]
def cstB (L:List Mch) (k:Int) (c:Cf):Bool:=(List.range L.length).all fun p=>match L[p]? with
 | some m=>decide ((cstP L.length k c.1 c.2 p m).Pairwise fun a b=>¬evLt (evI m b) (evI m a))
 | none=>true
theorem cst_eq {L:List Mch} {k:Int} {c:Cf} (hV:SysV L) (h:cstB L k c=true):stepsS L k c.1 c.2=cstS L k c:=by
 unfold stepsS cstS;rw[List.flatMap_def,List.flatMap_def];congr 1;refine List.map_congr_left fun p hp=>?_;unfold stepsR;unfold cstB at h;rw[List.all_eq_true] at h;have hp1:=h p hp;cases gm:L[p]? with
 | none=>rfl
 | some m=>
  rw[gm] at hp1;dsimp only at hp1 ⊢;rw[stepsP_of (hV.m p m gm).2.1.d rfl (Yyn hp1)];rfl
def cexp (m:Mch) (s peer label:Int):Bool:=m.mv.any fun x=>decide (x.f=s)&&(!x.send&&(decide (x.peer=peer)&&decide (x.label=label)))
theorem cexp_ok {m:Mch} {s peer label:Int} (h:cexp m s peer label=true):ExpM m s peer label:=by
 unfold cexp at h;rw[List.any_eq_true] at h;obtain⟨x,hx,h⟩:=h;simp only[Yt,decide_eq_true_eq,Bool.not_eq_true'] at h;exact⟨s,.base (Ye.2 rfl),x,hx,h.1,⟨h.2.1,h.2.2.1⟩,h.2.2.2⟩
def cbox (L:List Mch) (c:Cf):Bool:=(List.range c.2.length).all fun i=>match c.2[i]? with
 | some (b::_)=>match L[i%L.length]?,c.1[i%L.length]? with
  | some m,some s=>cexp m s ((i/L.length:Nat):Int) b
  | _,_=>true
 | _=>true
def cfin (L:List Mch) (c:Cf):Bool:=((List.range c.1.length).all fun p=>match c.1[p]?,L[p]? with
 | some s,some m=>decide (m.fin[s.toNat]?=some true)
 | _,_=>true)&&c.2.all fun b=>b.isEmpty
def cok (L:List Mch) (k:Int) (c:Cf):Bool:=cstB L k c&&(cbox L c&&(!(cstS L k c).isEmpty||cfin L c))
theorem cok_ok {L:List Mch} {k:Int} {c:Cf} (hV:SysV L) (h:cok L k c=true):badS L k c.1 c.2=0/\stepsS L k c.1 c.2=cstS L k c:=by
 unfold cok at h;simp only[Yt] at h;obtain⟨h1,h2,h3⟩:=h;have hst:=cst_eq hV h1;refine⟨badS_0 ?_ ?_,hst⟩
 .rintro⟨i,b,l,m,s,g1,g2,g3,g4⟩;unfold cbox at h2;rw[List.all_eq_true] at h2;have:=h2 i (List.mem_range.2 (Ya.1 g1).1);rw[g1] at this;dsimp only at this;rw[g2,g3] at this;exact g4 (cexp_ok this)
 .rw[Bool.or_eq_true] at h3;rcases h3 with h3 | h3
  .refine .inr fun h=>?_;rw[<-hst,h] at h3;cases h3
  .refine .inl ?_;unfold cfin at h3;rw[Yt,List.all_eq_true,List.all_eq_true] at h3;refine⟨fun p s m g1 g2=>?_,fun b hb=>List.isEmpty_iff.1 (h3.2 b hb)⟩;have:=h3.1 p (List.mem_range.2 (Ya.1 g1).1);rw[g1,g2] at this;exact Yyn this
def exC (L:List Mch) (k:Int) (lim:Nat):Nat->Nat->List Qe->Option (List Cf)
 | 0,_,_=>none
 | f+1,i,Q=>match Q[i]? with
  | none=>some (Q.map Prod.fst)
  | some e=>if cok L k e.1=true then match exI L lim e (cstS L k e.1) Q with
   | none=>none
   | some Q'=>exC L k lim f (i+1) Q'
   else none
theorem exC_eq {L:List Mch} {k:Int} {lim:Nat} (hV:SysV L):∀(f i:Nat) (Q:List Qe) (R:List Cf),exC L k lim f i Q=some R->exO L k lim f i Q=.safe R
 | 0,_,_,_,h=>by cases h
 | f+1,i,Q,R,h=>by
  rw[exC] at h;rw[exO];cases hq:Q[i]? with
  | none=>rw[hq] at h;cases h;rfl
  | some e=>
   rw[hq] at h;dsimp only at h ⊢;split at h
   .rename_i hc;obtain⟨h1,h2⟩:=cok_ok hV hc;rw[if_neg (fun hn=>hn h1),h2];cases hi:exI L lim e (cstS L k e.1) Q with
    | none=>rw[hi] at h;cases h
    | some Q'=>rw[hi] at h;exact exC_eq hV f (i+1) Q' R h
   .cases h
theorem exC_mono {L:List Mch} {k:Int} {lim:Nat}:∀(f i:Nat) (Q:List Qe) (R:List Cf),exC L k lim f i Q=some R->exC L k lim (f+1) i Q=some R
 | 0,_,_,_,h=>by cases h
 | f+1,i,Q,R,h=>by
  rw[exC] at h;rw[exC];cases hq:Q[i]? with
  | none=>rw[hq] at h;exact h
  | some e=>
   rw[hq] at h;dsimp only at h ⊢;split at h
   .rename_i hc;rw[if_pos hc];cases hi:exI L lim e (cstS L k e.1) Q with
    | none=>rw[hi] at h;cases h
    | some Q'=>rw[hi] at h;exact exC_mono f (i+1) Q' R h
   .cases h
theorem exC_more {L:List Mch} {k:Int} {lim:Nat} (f i:Nat) (Q:List Qe) (R:List Cf) (h:exC L k lim f i Q=some R):∀d,exC L k lim (f+d) i Q=some R
 | 0=>h
 | d+1=>exC_mono _ _ _ _ (exC_more f i Q R h d)
def xRes:List Cf:=((exC xL 1 1000 20 0 (q0 xL)).getD [])
theorem xres_eq:exC xL 1 1000 20 0 (q0 xL)=some xRes:=by kernel_rfl
theorem xres_len:xRes.length=12:=by kernel_rfl
theorem xsearch:exS xL 1 1000=.safe xRes:=exC_eq xsys _ _ _ _ (exC_more 20 0 (q0 xL) xRes xres_eq 981)



theorem RL.cut0 {α:Type} {h:Heap} {n:Nat} {s:Sl} {cs:α->List Value} {l:List α} (hr:RL h n s cs l) (i:Nat) (hi:i<=s.n):RL h n ⟨subA s.a (Int.toNat 0) s.c n,Int.toNat (i:Int)-Int.toNat 0,s.c-Int.toNat 0⟩ cs (l.take i):=by
 have e0:subA s.a (Int.toNat 0) s.c n=s.a:=subA_zero _ _ _;rw[e0,show Int.toNat (i:Int)-Int.toNat 0=i from rfl,show s.c-Int.toNat 0=s.c from rfl];have hln:=hr.ln;have hcap:=hr.cap;refine⟨⟨by show i=_;rw[Yc,Yu];omega,fun hp=>?_⟩,by show i<=s.c;omega,fun e=>?_,by rw[Yu];have:=hr.sm;omega⟩
 .obtain⟨b,o,e1,e2⟩:=hr.rw.2 (by rw[Yc] at hp ⊢;rw[Yu] at hp;omega);refine⟨b,o,e1,fun j row hj=>e2 j row ?_⟩;rw[Yd] at hj ⊢;have hjl:j<i:=Classical.byContradiction fun hn=>by
   rw[Yl (by rw[Yu];omega)] at hj;cases hj
  rw[List.getElem?_take_of_lt hjl] at hj;exact hj
 .have:=hr.nil e;exact⟨by show i=0;omega,this.2⟩
theorem do_of {L:List Mch} {k:Int} {c:Cf} {q:Nat × Nat} (hP:ProS L k c.1 c.2) (h:q∈stepsS L k c.1 c.2):doS L k c.1 c.2 (q.1:Int) (q.2:Int)=(0,nxS L c q):=by
 obtain⟨a,b⟩:=q;obtain⟨m,x,gm,gx,hc⟩:=steps_mem h;rw[nxS_of gm gx];dsimp only;rw[doS_at hP gm gx,if_pos hc]
end Go.VC
end

section
namespace Go.VC
open Go.Proofs Go.LexS Go.Maps
abbrev Flt:=Int × Int × Int × Int
def fltC (f:Flt):List Value:=[.int .i64 f.1,.int .i64 f.2.1,.int .i64 f.2.2.1,.int .i64 f.2.2.2]
def flt0:Flt:=(0,0,0,0)
open Classical in
noncomputable def fstI (p:Cf->Prop) (Q:List Cf):Option Nat:=(List.range Q.length).find? fun i=>decide (∃c,Q[i]?=some c/\p c)
open Classical in
theorem fstI_some {p:Cf->Prop} {Q:List Cf} {i:Nat} {c:Cf} (hb:∀(j:Nat) d,j<i->Q[j]?=some d->¬p d) (hc:Q[i]?=some c) (hp:p c):fstI p Q=some i:=by
 unfold fstI;rw[List.find?_range_eq_some];refine⟨by rw[decide_eq_true_eq];exact⟨c,hc,hp⟩,List.mem_range.2 (Ya.1 hc).1,fun j hj=>?_⟩;rw[Bool.not_eq_true',decide_eq_false_iff_not];rintro⟨d,h1,h2⟩;exact hb j d hj h1 h2
theorem fstI_none {p:Cf->Prop} {Q:List Cf} (hb:∀(j:Nat) d,Q[j]?=some d->¬p d):fstI p Q=none:=by
 unfold fstI;rw[List.find?_range_eq_none];intro j hj;rw[Bool.not_eq_true',decide_eq_false_iff_not];rintro⟨d,h1,h2⟩;exact hb j d h1 h2
theorem fstI_no {p:Cf->Prop} {Q:List Cf} (h:fstI p Q=none) {c:Cf} (hc:c∈Q):¬p c:=fun hp=>by
 unfold fstI at h;rw[List.find?_range_eq_none] at h;obtain⟨j,gj⟩:=Yf.1 hc;have:=h j (Ya.1 gj).1;rw[Bool.not_eq_true',decide_eq_false_iff_not] at this;exact this ⟨c,gj,hp⟩
open Classical in
theorem fstI_ex {p:Cf->Prop} {Q:List Cf} {i:Nat} (h:fstI p Q=some i):∃c,Q[i]?=some c/\p c:=by
 unfold fstI at h;rw[List.find?_range_eq_some] at h;have h1:=h.1;rw[decide_eq_true_eq] at h1;exact h1
open Classical in
noncomputable def levS (L:List Mch) (k:Int) (Q:List Cf) (c:Cf):Option (Nat × Nat):=(stepsS L k c.1 c.2).find? fun q=>decide (nxS L c q∉Q)
noncomputable def clsS (L:List Mch) (k:Int) (Q:List Cf):Flt:=match fstI (fun c=>(levS L k Q c).isSome=true) Q with
 | none=>flt0
 | some i=>match (Q[i]?).bind (levS L k Q) with
  | none=>flt0
  | some q=>(5,(i:Int),(q.1:Int),(q.2:Int))
def fltO (r:Int) (o:Option Nat):Flt:=match o with
 | some i=>(r,(i:Int),0,0)
 | none=>flt0
open Classical in
noncomputable def chkV (L:List Mch) (k:Int) (Q:List Cf):Flt × Int:=
 if ¬SysV L then (flt0,1) else if k<1\/4<k\/20000<Q.length then ((1,0,0,0),23) else
 match fstI (fun c=>¬ProS L k c.1 c.2) Q with
 | some i=>((2,(i:Int),0,0),23)
 | none=>match fstI (fun c=>badS L k c.1 c.2≠0) Q with
  | some i=>((3,(i:Int),0,0),23)
  | none=>if (startS L,startB L)∉Q then ((4,0,0,0),23) else if (clsS L k Q).1≠0 then (clsS L k Q,23) else (flt0,0)
structure CtI (h:Heap) (cs:Sl) (C:List Cr):Prop where
 r:RL h 2 cs Cr.cs C
 i:∀c∈C,CfI h c.c1 c.c2 c.S c.B
theorem CtI.ext {h h':Heap} {cs:Sl} {C:List Cr} (hC:CtI h cs C) (E:Ext h h'):CtI h' cs C:=⟨hC.r.ext E,fun c hc=>(hC.i c hc).ext E⟩
def CkI (h:Heap) (xb:Nat) (s:Sl) (k:Int) (cs:Sl) (nb:Nat):Prop:=atC h ⟨xb,0,none⟩ [.slice s.a s.n s.c,.int .i64 k,.slice cs.a cs.n cs.c,.map (some nb)]
theorem CkI.ext {h h':Heap} {xb:Nat} {s:Sl} {k:Int} {cs:Sl} {nb:Nat} (hX:CkI h xb s k cs nb) (E:Ext h h'):CkI h' xb s k cs nb:=atC_ext E hX
theorem cal95:callable Pz 95=true:=by kernel_rfl
theorem cal96:callable Pz 96=true:=by kernel_rfl
theorem limits38 (xb:Nat) (s cs:Sl) (k:Int) (nb:Nat) (h:Heap) (hX:CkI h xb s k cs nb) :
  Fn Pz 38 #[.pointer (some ⟨xb,0,none⟩)] h fun v h'=>(∃f:Flt,v=.agg ⟨fltC f⟩/\f=if k<1\/4<k\/20000<cs.n then (1,0,0,0) else flt0)/\Ext h h':=by
 apply vc38 ⟨xb,0,none⟩;unfold W38 V38a V38b;refine (St.refl h).newb fun h1 hs=>?_;have hX:=hX.ext hs.ext;have fin:∀f:Flt,okAt h1 ⟨h.size,0,none⟩ 4/\∀h3:Heap,h3=hputs h1 ⟨h.size,0,none⟩ 0 (fltC f)->(∃x4:Int,∃x5:Int,∃x6:Int,∃x7:Int,atC h3 ⟨h.size,0,none⟩ [.int .i64 x4,.int .i64 x5,.int .i64 x6,.int .i64 x7]/\((Value.agg ⟨[.int .i64 x4,.int .i64 x5,.int .i64 x6,.int .i64 x7]⟩=.agg ⟨fltC f⟩)/\Ext h h3)):=fun f=>by
  refine hs.put 0 rfl (o:=0) (vs:=fltC f) rfl (show 4<=4 by decide) fun h3 hs=>?_;exact⟨f.1,f.2.1,f.2.2.1,f.2.2.2,hs.at 0 rfl (o:=0) (n:=4) rfl,rfl,hs.ext⟩
 have fin2:∀f:Flt,f=(if k<1\/4<k\/20000<cs.n then (1,0,0,0) else flt0)->okAt h1 ⟨h.size,0,none⟩ 4/\∀h3:Heap,h3=hputs h1 ⟨h.size,0,none⟩ 0 (fltC f)->(∃x4:Int,∃x5:Int,∃x6:Int,∃x7:Int,atC h3 ⟨h.size,0,none⟩ [.int .i64 x4,.int .i64 x5,.int .i64 x6,.int .i64 x7]/\((∃f:Flt,Value.agg ⟨[.int .i64 x4,.int .i64 x5,.int .i64 x6,.int .i64 x7]⟩=.agg ⟨fltC f⟩/\f=if k<1\/4<k\/20000<cs.n then (1,0,0,0) else flt0)/\Ext h h3)):=fun f hf=>by
  refine⟨(fin f).1,fun h3 h=>?_⟩;obtain⟨a,b,c,d,h1,h2,h3⟩:=(fin f).2 h3 h;exact⟨a,b,c,d,h1,⟨f,h2,hf⟩,h3⟩
 refine⟨k,hX.nth 1 rfl,sBi (fun c1=>fin2 (1,0,0,0) (by rw[if_pos (.inl c1)])) (fun c1=>?_)⟩;refine⟨k,hX.nth 1 rfl,sBi (fun c2=>fin2 (1,0,0,0) (by rw[if_pos (.inr (.inl c2))])) (fun c2=>?_)⟩;refine⟨cs,hX.nth 2 rfl,sBi (fun c3=>fin2 (1,0,0,0) (by rw[if_pos (.inr (.inr (by omega)))])) (fun c3=>fin2 flt0 (by rw[if_neg (by omega)]))⟩
theorem index152 (C:List Cr) (cs:Sl) (g:FuncId) (a:Addr) (p:Cf->Prop) (h:Heap) (hC:CtI h cs C) (hg:callable Pz g=true) (hf:∀c∈C,∀h',Ext h h'->Fn Pz g #[.agg ⟨c.cs⟩,.pointer (some a)] h' (RP (p c.cf) h')) :
  Fn Pz 152 #[.slice cs.a cs.n cs.c,.func (.func g) #[] #[.pointer (some a)]] h fun v h'=>(∃k:Int,v=.int .i64 k/\((k=-1/\fstI p (C.map Cr.cf)=none)\/∃i:Nat,k=(i:Int)/\fstI p (C.map Cr.cf)=some i))/\Ext h h':=by
 apply vc152 cs g (some a);unfold W152;have hn:=hC.r.ln;have hm:=hC.r.sm;refine up_loop (n:=cs.n) (fun i h'=>Ext h h'/\∀(j:Nat) d,j<i->(C.map Cr.cf)[j]?=some d->¬p d) ⟨.rfl',fun j d hj=>by omega⟩ ?_;rintro-i h5 hi ⟨E,hq⟩;refine sB_intro (fun c=>?_) (fun c=>?_)
 .replace c:=lt_t c;refine (hC.r.rw.ext E).nbI (by omega) (by omega) fun b6 o7 d gd t=>?_;replace gd:C[i]?=some d:=gd;have gq:(C.map Cr.cf)[i]?=some d.cf:=by rw[Yd,gd];rfl
  refine⟨d.c1,d.c2,t,?_⟩;rw[hg,cond_true];refine (hf d (Yb gd) h5 E).mono ?_;rintro _ h12 ⟨⟨b,rfl,hb⟩,E12⟩;refine⟨b,rfl,sB_intro (fun c2=>?_) (fun c2=>?_)⟩
  .exact⟨⟨_,rfl,.inr ⟨i,rfl,fstI_some hq gq (hb.1 c2)⟩⟩,E.trans E12⟩
  .refine Up.next c (by omega) ⟨E.trans E12,fun j y hj hy=>?_⟩;by_cases e:j=i
   .subst e;rw[gq] at hy;cases hy;exact iff_f hb c2
   .exact hq j y (by omega) hy
 .replace c:=lt_f c;refine⟨⟨_,rfl,.inl ⟨rfl,fstI_none fun j d hj=>hq j d ?_ hj⟩⟩,E⟩;have:=(Ya.1 hj).1;rw[Yc] at this;omega
theorem each94 (C:List Cr) (s cs:Sl) (k r:Int) (xb nb:Nat) (g:FuncId) (a:Addr) (p:Cf->Prop) (h:Heap) (hX:CkI h xb s k cs nb) (hC:CtI h cs C) (hg:callable Pz g=true) (hf:∀c∈C,∀h',Ext h h'->Fn Pz g #[.agg ⟨c.cs⟩,.pointer (some a)] h' (RP (p c.cf) h')) :
  Fn Pz 94 #[.pointer (some ⟨xb,0,none⟩),.int .i64 r,.func (.func g) #[] #[.pointer (some a)]] h fun v h'=>v=.agg ⟨fltC (fltO r (fstI p (C.map Cr.cf)))⟩/\Ext h h':=by
 apply vc94 ⟨xb,0,none⟩ r g (some a);unfold W94 V94a;refine (St.refl h).newb fun h1 hs=>?_;refine⟨cs,(hX.ext hs.ext).nth 2 rfl,?_⟩;refine (index152 C cs g a p h1 (hC.ext hs.ext) hg fun c hc h' E=>hf c hc h' (hs.ext.trans E)).mono ?_;rintro _ h5 ⟨⟨x,rfl,hx⟩,E⟩;have hs:=hs.step E;refine⟨x,rfl,?_⟩;rcases hx with ⟨rfl,e⟩ | ⟨i,rfl,e⟩
 .refine sB_f rfl ?_;refine hs.put 0 rfl (o:=0) (vs:=fltC flt0) rfl (show 4<=4 by decide) fun h6 hs=>?_;exact⟨0,0,0,0,hs.at 0 rfl (o:=0) (n:=4) rfl,by rw[e];rfl,hs.ext⟩
 .refine sB_t (decide_eq_true (by omega)) ?_;refine hs.put 0 rfl (o:=0) (vs:=fltC (r,(i:Int),0,0)) rfl (show 4<=4 by decide) fun h6 hs=>?_;exact⟨r,i,0,0,hs.at 0 rfl (o:=0) (n:=4) rfl,by rw[e];rfl,hs.ext⟩
theorem proper39 (L:List MR) (C:List Cr) (s cs:Sl) (k:Int) (xb nb:Nat) (h:Heap) (hS:SyI h s L) (hX:CkI h xb s k cs nb) (hC:CtI h cs C) :
  Fn Pz 39 #[.pointer (some ⟨xb,0,none⟩)] h fun v h'=>v=.agg ⟨fltC (fltO 2 (fstI (fun c=>¬ProS (L.map MR.m) k c.1 c.2) (C.map Cr.cf)))⟩/\Ext h h':=by
 apply vc39 ⟨xb,0,none⟩;unfold W39;refine (St.refl h).newb fun h1 hs=>?_;refine hs.newb fun h2 hs=>?_;refine⟨some ⟨xb,0,none⟩,hs.rd 1 rfl (i:=0) rfl,?_⟩;refine (each94 C s cs k 2 xb nb 95 ⟨h.size,0,none⟩ (fun c=>¬ProS (L.map MR.m) k c.1 c.2) h2 (hX.ext hs.ext) (hC.ext hs.ext) cal95 fun c hc h' E=>?_).mono ?_
 .have hs:=hs.step E;apply vc95 c.c1 c.c2 ⟨h.size,0,none⟩;unfold W95;refine (St.refl h').newb fun h3 hs3=>?_;have hs:=hs.step hs3.ext;have hX:=hX.ext hs.ext;refine⟨some ⟨xb,0,none⟩,hs.rd 1 rfl (i:=0) rfl,s,hX.hd,some ⟨xb,0,none⟩,hs.rd 1 rfl (i:=0) rfl,k,hX.nth 1 rfl,c.c1,c.c2,hs3.at 0 rfl (o:=0) (n:=2) rfl,?_⟩;refine (proper24 L s k c.c1 c.c2 c.S c.B h3 (hS.ext hs.ext) ((hC.ext hs.ext).i c hc)).mono ?_;rintro _ h14 ⟨⟨b,rfl,hb⟩,E14⟩;refine⟨b,rfl,RP.e ?_ (hs3.ext.trans E14)⟩;cases b with
  | true=>exact iff_of_false (by decide) fun hn=>hn (hb.1 rfl)
  | false=>exact iff_of_true rfl fun hp=>by have:=hb.2 hp;cases this
 .rintro _ h9 ⟨rfl,E⟩;have hs:=hs.step E;refine⟨_,_,_,_,rfl,?_⟩;refine hs.put 0 rfl (o:=0) (vs:=fltC _) rfl (show 4<=4 by decide) fun h10 hs=>?_;exact⟨_,_,_,_,hs.at 0 rfl (o:=0) (n:=4) rfl,rfl,hs.ext⟩
theorem good40 (L:List MR) (C:List Cr) (s cs:Sl) (k:Int) (xb nb:Nat) (h:Heap) (hS:SyI h s L) (hX:CkI h xb s k cs nb) (hC:CtI h cs C) (hP:∀c∈C,ProS (L.map MR.m) k c.S (c.B.map Bx.l)) :
  Fn Pz 40 #[.pointer (some ⟨xb,0,none⟩)] h fun v h'=>v=.agg ⟨fltC (fltO 3 (fstI (fun c=>badS (L.map MR.m) k c.1 c.2≠0) (C.map Cr.cf)))⟩/\Ext h h':=by
 apply vc40 ⟨xb,0,none⟩;unfold W40;refine (St.refl h).newb fun h1 hs=>?_;refine hs.newb fun h2 hs=>?_;refine⟨some ⟨xb,0,none⟩,hs.rd 1 rfl (i:=0) rfl,?_⟩;refine (each94 C s cs k 3 xb nb 96 ⟨h.size,0,none⟩ (fun c=>badS (L.map MR.m) k c.1 c.2≠0) h2 (hX.ext hs.ext) (hC.ext hs.ext) cal96 fun c hc h' E=>?_).mono ?_
 .have hs:=hs.step E;apply vc96 c.c1 c.c2 ⟨h.size,0,none⟩;unfold W96;refine (St.refl h').newb fun h3 hs3=>?_;have hs:=hs.step hs3.ext;have hX:=hX.ext hs.ext;refine⟨some ⟨xb,0,none⟩,hs.rd 1 rfl (i:=0) rfl,s,hX.hd,some ⟨xb,0,none⟩,hs.rd 1 rfl (i:=0) rfl,k,hX.nth 1 rfl,c.c1,c.c2,hs3.at 0 rfl (o:=0) (n:=2) rfl,?_⟩;refine (bad38 L s k c.c1 c.c2 c.S c.B h3 (hS.ext hs.ext) ((hC.ext hs.ext).i c hc)).mono ?_;rintro _ h14 ⟨E14,b,e,rfl,hb,-⟩;obtain⟨rfl,rfl⟩:=hb (hP c hc);exact⟨_,_,rfl,RP.e bne_iff_ne (hs3.ext.trans E14)⟩
 .rintro _ h9 ⟨rfl,E⟩;have hs:=hs.step E;refine⟨_,_,_,_,rfl,?_⟩;refine hs.put 0 rfl (o:=0) (vs:=fltC _) rfl (show 4<=4 by decide) fun h10 hs=>?_;exact⟨_,_,_,_,hs.at 0 rfl (o:=0) (n:=4) rfl,rfl,hs.ext⟩
end Go.VC
end

section
namespace Go.VC
open Go.Proofs Go.LexS Go.Maps
theorem mget_mset {α β:Type} [DecidableEq α] (a x:α) (b:β):∀(l:List (α × β)),mget (mset l a b) x=if x=a then some b else mget l x
 | []=>by
  unfold mset mget;by_cases h:x=a
  .rw[if_pos h];first
    | rw[if_pos h.symm]
    | rw[if_pos h]
  .rw[if_neg h];first
    | rw[if_neg fun e=>h e.symm];rfl
    | rw[if_neg h];rfl
 | (c,y)::r=>by
  have ih:=mget_mset a x b r;rw[mset];split
  .rename_i hc;subst hc;unfold mget;by_cases h:x=c
   .subst h;rw[if_pos rfl,if_pos rfl]
   .rw[if_neg h];first
     | rw[if_neg fun e=>h e.symm,if_neg fun e=>h e.symm]
     | rw[if_neg h,if_neg h]
  .rename_i hc;rw[show mget ((c,y)::mset r a b) x=(if c=x then some y else mget (mset r a b) x) by first | rfl | (unfold mget;by_cases e:x=c;(· rw[if_pos e,if_pos e.symm]);(· rw[if_neg e,if_neg fun q=>e q.symm])),ih];rw[show mget ((c,y)::r) x=(if c=x then some y else mget r x) by first | rfl | (unfold mget;by_cases e:x=c;(· rw[if_pos e,if_pos e.symm]);(· rw[if_neg e,if_neg fun q=>e q.symm]))];by_cases h:c=x
   .subst h;rw[if_pos rfl,if_neg (fun e=>hc (by first | exact e | exact e.symm)),if_pos rfl]
   .rw[if_neg h,if_neg h]
structure KyOk (N:List (ByteArray × Bool)) (Q:List Cf):Prop where
 nd:(N.map Prod.fst).Nodup
 ok:∀q∈N,kokB q.1
 y:∀c∈Q,mget N (kyC c)=some true
 n:∀c,c∉Q->mget N (kyC c)=none
theorem KyOk.nil:KyOk [] []:=⟨.nil,fun q hq=>(by cases hq),fun c hc=>(by cases hc),fun c _=>rfl⟩
theorem KyOk.put {N:List (ByteArray × Bool)} {Q:List Cf} {c:Cf} (h:KyOk N Q) (hc:kokB (kyC c)):KyOk (mset N (kyC c) true) (Q++[c]):=by
 refine⟨mset_nodup _ _ _ h.nd,fun q hq=>?_,fun d hd=>?_,fun d hd=>?_⟩
 .have h1:=(mset_keys (kyC c) true N q.1).1 (List.mem_map_of_mem hq);rcases h1 with h1 | h1
  .obtain⟨q',hq',e⟩:=Yp.1 h1;rw[<-e];exact h.ok q' hq'
  .rw[h1];exact hc
 .rw[mget_mset];by_cases e:kyC d=kyC c
  .rw[if_pos e]
  .rw[if_neg e];rcases Yk.1 hd with hd | hd
   .exact h.y d hd
   .exact absurd (congrArg kyC (Ye.1 hd)) e
 .rw[mget_mset,if_neg (fun e=>hd (List.mem_append_right _ (Ye.2 (kyC_inj e))))];exact h.n d fun hm=>hd (List.mem_append_left _ hm)
theorem key54 (ss sb:Sl) (S:List Int) (B:List Bx) (h:Heap) (hC:CfI h ss sb S B) (hE:EncOk S (B.map Bx.l)) :
  Fn Pz 54 #[.agg ⟨[.slice ss.a ss.n ss.c,.slice sb.a sb.n sb.c]⟩] h fun v h'=>v=.string (kyC (S,B.map Bx.l))/\Ext h h':=by
 apply vc54 ss sb;unfold W54;refine (St.refl h).newb fun h3 hs=>?_;refine⟨ss,sb,hs.at 0 rfl (o:=0) (n:=2) rfl,?_⟩;refine (encode35 ss sb S B h3 (hC.ext hs.ext) hE).mono ?_;rintro _ h8 ⟨b,rfl,hse⟩;refine⟨b,rfl,(cv_str hse encC_byte).mono ?_⟩;rintro _ _ ⟨rfl,rfl⟩;exact⟨_,rfl,rfl,hs.ext.trans hse.ext⟩
theorem kys {N:List (ByteArray × Bool)} {Q:List Cf} (h:KyOk N Q) (c:Cf):∃b:Bool,(mget N (kyC c)=bif b then some true else none)/\(b=true ↔ c∈Q):=by
 by_cases hc:c∈Q
 .exact⟨true,h.y c hc,iff_of_true rfl hc⟩
 .exact⟨false,h.n c hc,iff_of_false (by decide) hc⟩
theorem starts41 (L:List MR) (C:List Cr) (s cs:Sl) (k:Int) (xb nb:Nat) {h0 h:Heap} {A:List It} (hs:St h0 h (.mp nb (([]:List (ByteArray × Bool)).map kyV)::A)) (hS:SyI h0 s L) (hV:SysV (L.map MR.m)) (hX:Sta A fun h=>CkI h xb s k cs nb) (hC:CtI h0 cs C) (hk:1<=k/\k<=4) (hP:∀c∈C,ProS (L.map MR.m) k c.S (c.B.map Bx.l)) :
  Fn Pz 41 #[.pointer (some ⟨xb,0,none⟩)] h fun v h'=>∃(f:Flt) (N:List (ByteArray × Bool)),v=.agg ⟨fltC f⟩/\((f=flt0/\(startS (L.map MR.m),startB (L.map MR.m))∈C.map Cr.cf)\/(f=(4,0,0,0)/\(startS (L.map MR.m),startB (L.map MR.m))∉C.map Cr.cf))/\KyOk N (C.map Cr.cf)/\St h0 h' (.mp nb (N.map kyV)::A):=by
 apply vc41 ⟨xb,0,none⟩;unfold W41 V41a;have hcn:=hC.r.ln;have hcm:=hC.r.sm;refine hs.newb fun h1 hs=>?_;refine⟨cs,(hX.at hs mem2).nth 2 rfl,?_⟩;refine⟨fun x h' μ=>∃(i:Nat) (N:List (ByteArray × Bool)),x=(i:Int)/\μ=C.length-i/\i<=C.length/\KyOk N ((C.take i).map Cr.cf)/\St h0 h' (.blk h.size [.int .i64 0,.int .i64 0,.int .i64 0,.int .i64 0] 45 :: .mp nb (N.map kyV)::A),⟨_,0,[],rfl,rfl,Nat.zero_le _,.nil,hs⟩,?_⟩;clear hs;rintro-_ h7 μ ⟨i,N,rfl,rfl,hi,hN,hs⟩;refine sBi (fun c1=>?_) (fun c1=>?_)
 .obtain⟨d,gd⟩:=get_some (l:=C) (i:=i) (by omega);have hdm:=Yb gd;refine (hC.r.rw.ext hs.ext).nbI (by omega) (by omega) fun b8 o9 d' gd' t=>?_;rw[Ys] at gd';replace gd':C[i]?=some d':=gd';rw[gd] at gd';cases gd';refine⟨d.c1,d.c2,t,?_⟩;refine hs.newput (vs:=[.slice d.c1.a d.c1.n d.c1.c,.slice d.c2.a d.c2.n d.c2.c]) rfl rfl fun h13 hs=>?_;refine⟨some nb,(hX.at hs (memP (P:=[_,_,_]))).nth 3 rfl,d.c1,d.c2,hs.at 0 rfl (o:=0) (n:=2) rfl,?_⟩;refine (key54 d.c1 d.c2 d.S d.B h13 ((hC.ext hs.ext).i d hdm) (enc_pro (hP d hdm))).mono ?_;rintro _ h19 ⟨rfl,E⟩;have hs:=hs.step E;refine⟨_,rfl,E.sm,?_⟩;have hkok:kokB (kyC d.cf):=ky_ok (c:=d.cf) (hP d hdm);refine hs.mput M92 (cv:=Value.bool) (l:=N) (a:=kyC d.cf) 2 rfl hN.ok hN.nd hkok true fun h20 hs=>?_;refine⟨_,(show C.length-(i+1)<C.length-i by omega),i+1,mset N (kyC d.cf) true,by rw[w64 (by omega) (by omega)];omega,rfl,by omega,?_,hs.drop 1⟩;rw[take_snoc gd,Ym];exact hN.put hkok
 .have hie:i=C.length:=by omega
  subst hie;rw[Yye] at hN;refine⟨s,(hX.at hs mem2).hd,?_⟩;refine (start14 L s h7 (hS.ext hs.ext)).mono ?_;rintro _ h27 ⟨ss,sb,S,B,e,A2,rfl,hs2,hM,hv1,-⟩;obtain⟨rfl,rfl,rfl⟩:=hv1 hV;have hs:=hs.join hs2;refine⟨ss,sb,0,rfl,?_⟩;refine hs.newput (vs:=[.slice ss.a ss.n ss.c,.slice sb.a sb.n sb.c]) rfl rfl fun h29 hs=>?_;have hmA:∀i∈A,i∈(.blk h27.size [.slice ss.a ss.n ss.c,.slice sb.a sb.n sb.c] 52::((.blk h.size [.int .i64 0,.int .i64 0,.int .i64 0,.int .i64 0] 45 :: .mp nb (N.map kyV)::A)++A2):List It):=fun i hi=>Yn _ (List.mem_append_left _ (Yn _ (Yn _ hi)));refine⟨some nb,(hX.at hs hmA).nth 3 rfl,ss,sb,hs.at 0 rfl (o:=0) (n:=2) rfl,?_⟩;refine (key54 ss sb _ _ h29 ((hM.mono fun i hi=>Yn _ (List.mem_append_right _ hi)).cfi hs) (enc_pro (xpro_start hV hk))).mono ?_;rintro _ h35 ⟨rfl,E⟩;have hs:=hs.step E;refine⟨_,rfl,E.sm,?_⟩;have hkok:kokB (kyC (startS (L.map MR.m),(List.replicate ((L.map MR.m).length*(L.map MR.m).length) bx0).map Bx.l)):=ky_ok (c:=(_,_)) (xpro_start hV hk);rw[bxs0] at hkok ⊢;obtain⟨b,hb,hbm⟩:=kys hN (startS (L.map MR.m),startB (L.map MR.m));refine hs.mlook M92 (cv:=Value.bool) (l:=N) (a:=kyC (startS (L.map MR.m),startB (L.map MR.m))) 2 rfl hN.ok hN.nd hkok false ?_;refine⟨b,by rw[hb];cases b<;>rfl,sB_intro (fun c2=>?_) (fun c2=>?_)⟩
  .refine hs.put 1 rfl (o:=0) (vs:=fltC (4,0,0,0)) rfl (show 4<=4 by decide) fun h39 hs=>?_;refine⟨4,0,0,0,hs.at 1 rfl (o:=0) (n:=4) rfl,(4,0,0,0),N,rfl,.inr ⟨rfl,fun hm=>?_⟩,hN,hs.sub (.cons _ (.cons _ (List.sublist_append_left _ _)))⟩;rw[hbm.2 hm] at c2;cases c2
  .refine hs.put 1 rfl (o:=0) (vs:=fltC flt0) rfl (show 4<=4 by decide) fun h44 hs=>?_;exact⟨0,0,0,0,hs.at 1 rfl (o:=0) (n:=4) rfl,flt0,N,rfl,.inl ⟨rfl,hbm.1 (by cases b with | true=>rfl | false=>cases c2)⟩,hN,hs.sub (.cons _ (.cons _ (List.sublist_append_left _ _)))⟩
theorem find_first {α:Type} {P:α->Bool}:∀ {l:List α} {j:Nat} {x:α},l[j]?=some x->P x=true->(∀(t:Nat) y,t<j->l[t]?=some y->P y=false)->l.find? P=some x
 | [],j,x,h,_,_=>by cases h
 | a::r,0,x,h,hp,_=>by cases h;rw[List.find?_cons_of_pos hp]
 | a::r,j+1,x,h,hp,hb=>by
  rw[List.find?_cons_of_neg (by rw[hb 0 a (by omega) rfl];decide)];exact find_first (l:=r) (j:=j) h hp fun t y ht hy=>hb (t+1) y (by omega) hy
theorem lev_none {L:List Mch} {k:Int} {Q:List Cf} {c:Cf} (h:∀q∈stepsS L k c.1 c.2,nxS L c q∈Q):levS L k Q c=none:=by
 unfold levS;rw[List.find?_eq_none];intro q hq;rw[decide_eq_true_eq];exact fun hn=>hn (h q hq)
theorem lev_some {L:List Mch} {k:Int} {Q:List Cf} {c:Cf} {j:Nat} {q:Nat × Nat} (hj:(stepsS L k c.1 c.2)[j]?=some q) (hq:nxS L c q∉Q) (hb:∀(t:Nat) y,t<j->(stepsS L k c.1 c.2)[t]?=some y->nxS L c y∈Q):levS L k Q c=some q:=by
 unfold levS;refine find_first hj (by rw[decide_eq_true_eq];exact hq) fun t y ht hy=>?_;rw[decide_eq_false_iff_not];exact fun hn=>hn (hb t y ht hy)
theorem cls_some {L:List Mch} {k:Int} {Q:List Cf} {i:Nat} {c:Cf} {q:Nat × Nat} (hb:∀(j:Nat) d,j<i->Q[j]?=some d->levS L k Q d=none) (hc:Q[i]?=some c) (hq:levS L k Q c=some q):clsS L k Q=(5,(i:Int),(q.1:Int),(q.2:Int)):=by
 unfold clsS;rw[fstI_some (fun j d hj hd=>by rw[hb j d hj hd];decide) hc (by rw[hq];rfl)];dsimp only;rw[hc];dsimp only[Option.bind];rw[hq]
theorem cls_none {L:List Mch} {k:Int} {Q:List Cf} (hb:∀(j:Nat) d,Q[j]?=some d->levS L k Q d=none):clsS L k Q=flt0:=by
 unfold clsS;rw[fstI_none fun j d hd=>by rw[hb j d hd];decide]
theorem closed42 (L:List MR) (C:List Cr) (s cs:Sl) (k:Int) (xb nb:Nat) (N:List (ByteArray × Bool)) {h0 h:Heap} {A:List It} (hs:St h0 h (.mp nb (N.map kyV)::A)) (hN:KyOk N (C.map Cr.cf)) (hS:SyI h0 s L) (hX:Sta A fun h=>CkI h xb s k cs nb) (hC:CtI h0 cs C) (hP:∀c∈C,ProS (L.map MR.m) k c.S (c.B.map Bx.l)) :
  Fn Pz 42 #[.pointer (some ⟨xb,0,none⟩)] h fun v h'=>v=.agg ⟨fltC (clsS (L.map MR.m) k (C.map Cr.cf))⟩/\St h0 h' (.mp nb (N.map kyV)::A):=by
 apply vc42 ⟨xb,0,none⟩;unfold W42 V42a V42b;have hcn:=hC.r.ln;have hcm:=hC.r.sm;refine hs.newb fun h1 hs=>?_;refine hs.mmake 104 fun h4 E4 hs=>⟨_,rfl,?_⟩;refine⟨cs,(hX.at hs (memP (P:=[_,_,_]))).nth 2 rfl,?_⟩;refine⟨fun x h' μ=>∃(i:Nat) (D:List (ByteArray × Bool)),x=(i:Int)/\μ=C.length-i/\i<=C.length/\KyOk D ((C.take i).map Cr.cf)/\(∀(j:Nat) d,j<i->(C.map Cr.cf)[j]?=some d->levS (L.map MR.m) k (C.map Cr.cf) d=none) /\
  St h0 h' (.mp h1.size (D.map kyV) :: .blk h.size [.int .i64 0,.int .i64 0,.int .i64 0,.int .i64 0] 45 :: .mp nb (N.map kyV)::A),⟨_,0,[],rfl,rfl,Nat.zero_le _,.nil,fun j d hj=>by omega,hs⟩,?_⟩
 clear hs;rintro-_ h10 μ ⟨i,D,rfl,rfl,hi,hD,hq,hs⟩;refine sBi (fun c1=>?_) (fun c1=>?_)
 .obtain⟨d,gd⟩:=get_some (l:=C) (i:=i) (by omega);have hdm:=Yb gd;have gq:(C.map Cr.cf)[i]?=some d.cf:=by rw[Yd,gd];rfl
  have hpd:=hP d hdm;refine (hC.r.rw.ext hs.ext).nbI (by omega) (by omega) fun b8 o9 d' gd' t=>?_;rw[Ys] at gd';replace gd':C[i]?=some d':=gd';rw[gd] at gd';cases gd';refine⟨d.c1,d.c2,t,?_⟩;refine hs.newput (vs:=[.slice d.c1.a d.c1.n d.c1.c,.slice d.c2.a d.c2.n d.c2.c]) rfl rfl fun h16 hs=>?_;refine⟨d.c1,d.c2,hs.at 0 rfl (o:=0) (n:=2) rfl,?_⟩;refine (key54 d.c1 d.c2 d.S d.B h16 ((hC.ext hs.ext).i d hdm) (enc_pro hpd)).mono ?_;rintro _ h21 ⟨rfl,E⟩;have hs:=hs.step E;refine⟨_,rfl,?_⟩;have hkok:kokB (kyC d.cf):=ky_ok (c:=d.cf) hpd;obtain⟨b,hb,hbm⟩:=kys hD d.cf;refine hs.mlook M92 (cv:=Value.bool) (l:=D) (a:=kyC d.cf) 1 rfl hD.ok hD.nd hkok false ?_;have hnext:∀ {D':List (ByteArray × Bool)},(i+1<=C.length)->True:=fun _=>trivial;refine⟨b,by rw[hb];cases b<;>rfl,sB_intro (fun c2=>?_) (fun c2=>?_)⟩
  .have hm:=hbm.1 c2;refine⟨_,(show C.length-(i+1)<C.length-i by omega),i+1,D,by rw[w64 (by omega) (by omega)];omega,rfl,by omega,?_,fun j e hj he=>?_,hs.drop 1⟩
   .rw[take_snoc gd,Ym];refine⟨hD.nd,hD.ok,fun c hc=>?_,fun c hc=>hD.n c fun h=>hc (List.mem_append_left _ h)⟩;rcases Yk.1 hc with hc | hc
    .exact hD.y c hc
    .rw[Ye.1 hc];exact hD.y _ hm
   .by_cases e2:j=i
    .subst e2;rw[gq] at he;cases he;obtain⟨c',hc',e3⟩:=Yp.1 hm;obtain⟨t,gt⟩:=Yf.1 hc';have htl:=(Ya.1 gt).1;rw[Yu] at htl;rw[List.getElem?_take_of_lt (by omega)] at gt;exact hq t d.cf (by omega) (by rw[Yd,gt];exact congrArg some e3)
    .exact hq j e (by omega) he
  .refine hs.mput M92 (cv:=Value.bool) (l:=D) (a:=kyC d.cf) 1 rfl hD.ok hD.nd hkok true fun h26 hs=>?_;have hD2:=hD.put (c:=d.cf) hkok;generalize mset D (kyC d.cf) true=D2 at *;have hX26:=hX.at hs (memP (P:=[_,_,_,_]));refine⟨s,hX26.hd,k,hX26.nth 1 rfl,d.c1,d.c2,hs.at 0 rfl (o:=0) (n:=2) rfl,?_⟩;refine (steps16 L s k d.c1 d.c2 d.S d.B h26 (hS.ext hs.ext) ((hC.ext hs.ext).i d hdm)).mono ?_;rintro _ h34 ⟨E34,r,e,X,rfl,hr,hpos,-⟩;obtain⟨rfl,hXe⟩:=hpos hpd;have hs:=hs.step E34;have hrn:=hr.ln;have hrm:=hr.sm;refine⟨r,0,rfl,?_⟩;have hs34:=hs;refine⟨fun x h' μ=>∃j:Nat,x=(j:Int)/\μ=X.length-j/\j<=X.length/\(∀(t:Nat) y,t<j->(stepsS (L.map MR.m) k d.cf.1 d.cf.2)[t]?=some y->nxS (L.map MR.m) d.cf y∈C.map Cr.cf) /\
    Ext h34 h'/\St h0 h' ([.blk h10.size [.slice d.c1.a d.c1.n d.c1.c,.slice d.c2.a d.c2.n d.c2.c] 52,.mp h1.size (D2.map kyV),.blk h.size [.int .i64 0,.int .i64 0,.int .i64 0,.int .i64 0] 45,.mp nb (N.map kyV)]++A),⟨_,0,rfl,rfl,Nat.zero_le _,fun t y ht=>by omega,.rfl',hs⟩,?_⟩
   clear hs hs34;rintro-_ h39 μ2 ⟨j,rfl,rfl,hj,hst,E39,hs⟩;refine sBi (fun c3=>?_) (fun c3=>?_)
   .obtain⟨⟨a,b0⟩,gz'⟩:=get_some (l:=X) (i:=j) (by omega);have gz:(stepsS (L.map MR.m) k d.cf.1 d.cf.2)[j]?=some (a,b0):=by rw[hXe] at gz';exact gz'
    have hzm:=Yb gz;obtain⟨-,hpn⟩:=stp_of (c:=d.cf) hpd hzm;refine (hr.rw.ext E39).nbI (by omega) (by omega) fun b83 o84 z gz2 t=>?_;rw[Ys,gz'] at gz2;cases gz2;refine⟨(a:Int),(b0:Int),t,?_⟩;refine (St.refl h39).newput (vs:=[.int .i64 (a:Int),.int .i64 (b0:Int)]) rfl rfl fun h45 hl=>?_;have hX45:=hX.at (hs.step hl.ext) (memP (P:=[_,_,_,_]));refine⟨s,hX45.hd,k,hX45.nth 1 rfl,d.c1,d.c2,(hs.step hl.ext).at 0 rfl (o:=0) (n:=2) rfl,(a:Int),(b0:Int),hl.at 0 rfl (o:=0) (n:=2) rfl,?_⟩;have hdo2:doS (L.map MR.m) k d.S (d.B.map Bx.l) (a:Int) (b0:Int)=(0,nxS (L.map MR.m) d.cf (a,b0)):=do_of (c:=d.cf) (q:=(a,b0)) hpd hzm;have e2:=fun h' (E:Ext h39 h')=>do27 L s k d.c1 d.c2 d.S d.B (a:Int) (b0:Int) h' (hS.ext (hs.step E).ext) ((hC.ext (hs.step E).ext).i d hdm);rw[hdo2] at e2;refine And.intro ?_ ?_;refine (e2 h45 hl.ext).mono ?_;rintro _ h56 ⟨ts,tb,T,A3,rfl,hT,hs7,hM3⟩;dsimp only at hT hM3;have hl:=hl.join hs7;refine⟨ts,tb,_,rfl,?_⟩;refine hl.newbE fun h57 E57 hl=>⟨E57.sm,?_⟩;rotate_left;refine hl.newbE fun h76 E76 hl=>⟨E76.sm,?_⟩;refine (e2 h76 hl.ext).mono ?_;rintro _ h81 ⟨ts,tb,T,A3,rfl,hT,hs7,hM3⟩;dsimp only at hT hM3;have hl:=hl.join hs7;refine⟨ts,tb,_,rfl,?_⟩;all_goals
     refine hl.put 0 rfl (o:=0) (vs:=[.slice ts.a ts.n ts.c,.slice tb.a tb.n tb.c]) rfl (show 2<=2 by decide) fun h58 hl=>?_;have hs:=hs.step hl.ext;refine⟨some nb,(hX.at hs (memP (P:=[_,_,_,_]))).nth 3 rfl,ts,tb,hl.at 0 rfl (o:=0) (n:=2) rfl,?_⟩;refine (key54 ts tb _ T h58 ((hM3.mono mem2).cfi hl) (by rw[hT];exact enc_pro hpn)).mono ?_;rintro _ h64 ⟨rfl,E64⟩;have hs:=hs.step E64;have hl:=hl.step E64;refine⟨_,rfl,E64.sm,?_⟩;obtain⟨b,hb,hbm⟩:=kys hN (nxS (L.map MR.m) d.cf (a,b0));rw[hT];refine hs.mlook M92 (cv:=Value.bool) (l:=N) (a:=kyC (nxS (L.map MR.m) d.cf (a,b0))) 3 rfl hN.ok hN.nd (ky_ok hpn) false ?_;refine⟨b,by rw[hb];cases b<;>rfl,sB_intro (fun c4=>?_) (fun c4=>?_)⟩
     .have hnm:nxS (L.map MR.m) d.cf (a,b0)∉C.map Cr.cf:=fun hm=>by rw[hbm.2 hm] at c4;cases c4
      have hlv:=lev_some (Q:=C.map Cr.cf) (c:=d.cf) gz hnm hst;refine⟨(a:Int),(b0:Int),hl.at 1 rfl (o:=0) (n:=2) rfl,?_⟩;refine hs.put 2 rfl (o:=0) (vs:=fltC (5,(i:Int),(a:Int),(b0:Int))) rfl (show 4<=4 by decide) fun h70 hs=>?_;refine⟨5,i,a,b0,hs.at 2 rfl (o:=0) (n:=4) rfl,by rw[cls_some hq gq hlv];rfl,hs.drop 3⟩
     .have hbt:b=true:=by cases b with | true=>rfl | false=>cases c4
      refine⟨_,(show X.length-(j+1)<X.length-j by omega),j+1,by rw[w64 (by omega) (by omega)];omega,rfl,by omega,?_,E39.trans hl.ext,hs⟩;intro t y ht hy;by_cases e:t=j
      .subst e;rw[gz] at hy;cases hy;exact hbm.1 hbt
      .exact hst t y (by omega) hy
   .have hlv:levS (L.map MR.m) k (C.map Cr.cf) d.cf=none:=lev_none fun q hqm=>by
     obtain⟨t,gt⟩:=Yf.1 hqm;refine hst t q ?_ gt;have h1:=(Ya.1 gt).1;rw[show stepsS (L.map MR.m) k d.cf.1 d.cf.2=X from hXe.symm] at h1;omega
    refine⟨_,(show C.length-(i+1)<C.length-i by omega),i+1,D2,by rw[w64 (by omega) (by omega)];omega,rfl,by omega,?_,fun t e ht he=>?_,hs.drop 1⟩
    .rw[take_snoc gd,Ym];exact hD2
    .by_cases e2:t=i
     .subst e2;rw[gq] at he;cases he;exact hlv
     .exact hq t e (by omega) he
 .have hie:i=C.length:=by omega
  subst hie;refine hs.put 1 rfl (o:=0) (vs:=fltC flt0) rfl (show 4<=4 by decide) fun h101 hs=>?_;refine⟨0,0,0,0,hs.at 1 rfl (o:=0) (n:=4) rfl,?_,hs.drop 2⟩;rw[cls_none fun j d hd=>hq j d (by have:=(Ya.1 hd).1;rw[Yc] at this;exact this) hd];rfl
theorem cal38:callable Pz 38=true:=by kernel_rfl
theorem cal39:callable Pz 39=true:=by kernel_rfl
theorem cal40:callable Pz 40=true:=by kernel_rfl
theorem cal41:callable Pz 41=true:=by kernel_rfl
theorem cal42:callable Pz 42=true:=by kernel_rfl
structure ChkP (L:List Mch) (k:Int) (Q:List Cf) (i:Nat):Prop where
 a:1<=i->¬(k<1\/4<k\/20000<Q.length)
 b:2<=i->fstI (fun c=>¬ProS L k c.1 c.2) Q=none
 c:3<=i->fstI (fun c=>badS L k c.1 c.2≠0) Q=none
 d:4<=i->(startS L,startB L)∈Q
 e:5<=i->(clsS L k Q).1=0
theorem chk_1 {L:List Mch} {k:Int} {Q:List Cf} (hV:SysV L) (h:k<1\/4<k\/20000<Q.length):chkV L k Q=((1,0,0,0),23):=by
 unfold chkV;rw[if_neg (fun h=>h hV),if_pos h]
theorem chk_2 {L:List Mch} {k:Int} {Q:List Cf} {i:Nat} (hV:SysV L) (hP:ChkP L k Q 1) (h:fstI (fun c=>¬ProS L k c.1 c.2) Q=some i):chkV L k Q=((2,(i:Int),0,0),23):=by
 unfold chkV;rw[if_neg (fun h=>h hV),if_neg (hP.a (by omega)),h]
theorem chk_3 {L:List Mch} {k:Int} {Q:List Cf} {i:Nat} (hV:SysV L) (hP:ChkP L k Q 2) (h:fstI (fun c=>badS L k c.1 c.2≠0) Q=some i):chkV L k Q=((3,(i:Int),0,0),23):=by
 unfold chkV;rw[if_neg (fun h=>h hV),if_neg (hP.a (by omega)),hP.b (by omega)];dsimp only;rw[h]
theorem chk_4 {L:List Mch} {k:Int} {Q:List Cf} (hV:SysV L) (hP:ChkP L k Q 3) (h:(startS L,startB L)∉Q):chkV L k Q=((4,0,0,0),23):=by
 unfold chkV;rw[if_neg (fun h=>h hV),if_neg (hP.a (by omega)),hP.b (by omega)];dsimp only;rw[hP.c (by omega)];dsimp only;rw[if_pos h]
theorem chk_5 {L:List Mch} {k:Int} {Q:List Cf} (hV:SysV L) (hP:ChkP L k Q 4) (h:(clsS L k Q).1≠0):chkV L k Q=(clsS L k Q,23):=by
 unfold chkV;rw[if_neg (fun h=>h hV),if_neg (hP.a (by omega)),hP.b (by omega)];dsimp only;rw[hP.c (by omega)];dsimp only;rw[if_neg (fun hn=>hn (hP.d (by omega))),if_pos h]
theorem chk_0 {L:List Mch} {k:Int} {Q:List Cf} (hV:SysV L) (hP:ChkP L k Q 5):chkV L k Q=(flt0,0):=by
 unfold chkV;rw[if_neg (fun h=>h hV),if_neg (hP.a (by omega)),hP.b (by omega)];dsimp only;rw[hP.c (by omega)];dsimp only;rw[if_neg (fun hn=>hn (hP.d (by omega))),if_neg (fun hn=>hn (hP.e (by omega)))]
def ChkR (o:Flt × Int) (h:Heap) (v:Value) (h':Heap):Prop:=v=.tuple ⟨[.agg ⟨fltC o.1⟩,.int .i64 o.2]⟩/\Ext h h'
theorem pro_all {L:List Mch} {k:Int} {C:List Cr} (h:fstI (fun c=>¬ProS L k c.1 c.2) (C.map Cr.cf)=none):∀c∈C,ProS L k c.S (c.B.map Bx.l):=fun c hc=>Classical.not_not.1 (fstI_no h (List.mem_map_of_mem (f:=Cr.cf) hc))
theorem check15 (L:List MR) (C:List Cr) (s cs:Sl) (k:Int) (h:Heap) (hS:SyI h s L) (hC:CtI h cs C) :
  Fn Pz 15 #[.slice s.a s.n s.c,.agg ⟨[.int .i64 k,.slice cs.a cs.n cs.c]⟩] h (ChkR (chkV (L.map MR.m) k (C.map Cr.cf)) h):=by
 apply vc15 s k cs;unfold W15 V15a;have hcn:=hC.r.ln;have hQl:(C.map Cr.cf).length=cs.n:=by rw[Yc];exact hcn.symm
 refine (St.refl h).newb fun h3 hs=>?_;refine hs.newb fun h4 hs=>?_;refine (valid22 L s h4 (hS.ext hs.ext)).mono ?_;rintro _ h7 ⟨⟨b,rfl,hb⟩,E7⟩;have hs:=hs.step E7;refine⟨b,rfl,sB_intro (fun c0=>?_) (fun c0=>?_)⟩
 .have hn:¬SysV (L.map MR.m):=fun hp=>by rw[hb.2 hp] at c0;cases c0
  refine hs.put 0 rfl (o:=0) (vs:=fltC flt0) rfl (show 4<=4 by decide) fun h8 hs=>?_;refine⟨0,0,0,0,hs.at 0 rfl (o:=0) (n:=4) rfl,?_,hs.ext⟩;have:chkV (L.map MR.m) k (C.map Cr.cf)=(flt0,1):=by unfold chkV;rw[if_pos hn]
  rw[this];rfl
 have hV:=hb.1 (by cases b with | true=>rfl | false=>cases c0);refine⟨k,cs,hs.at 1 rfl (o:=0) (n:=2) rfl,?_⟩;refine hs.mmake 104 fun h17 E17 hs=>⟨_,rfl,?_⟩;refine hs.newb fun h18 hs=>?_;obtain⟨xb,hxb⟩:∃xb,xb=h17.size:=⟨_,rfl⟩;rw[<-hxb] at hs ⊢;have hX:∀ {A:List It},Sta (.blk xb [.slice s.a s.n s.c,.int .i64 k,.slice cs.a cs.n cs.c,.map (some h7.size)] 106::A) fun h=>CkI h xb s k cs h7.size:=fun {A} h0 hh A' hA hs=>hs.atm (hA _ Yx);have hs:St h h18 (.mp h7.size (([]:List (ByteArray × Bool)).map kyV) :: .blk xb [.slice s.a s.n s.c,.int .i64 k,.slice cs.a cs.n cs.c,.map (some h7.size)] 106 :: .blk h3.size [.int .i64 0,.int .i64 0,.int .i64 0,.int .i64 0] 45 :: .blk h.size [.int .i64 k,.slice cs.a cs.n cs.c] 31::[]):=hs.perm (List.Perm.swap _ _ _);refine⟨fun x h' μ=>∃(i:Nat) (N:List (ByteArray × Bool)),x=(i:Int)/\μ=5-i/\i<=5/\ChkP (L.map MR.m) k (C.map Cr.cf) i/\(i<=3->N=[])/\(4<=i->KyOk N (C.map Cr.cf)) /\
  St h h' (.mp h7.size (N.map kyV) :: .blk xb [.slice s.a s.n s.c,.int .i64 k,.slice cs.a cs.n cs.c,.map (some h7.size)] 106 :: .blk h3.size [.int .i64 0,.int .i64 0,.int .i64 0,.int .i64 0] 45 :: .blk h.size [.int .i64 k,.slice cs.a cs.n cs.c] 31::[]),⟨_,0,[],rfl,rfl,Nat.zero_le _,⟨fun h=>by omega,fun h=>by omega,fun h=>by omega,fun h=>by omega,fun h=>by omega⟩,fun _=>rfl,fun h=>by omega,hs⟩,?_⟩
 clear hs;rintro-_ h23 μ ⟨i,N,rfl,rfl,hi,hP,hN0,hN4,hs⟩;refine sBi (fun c1=>⟨⟨by omega,by omega⟩,?_⟩) (fun c1=>?_);rotate_left
 .have hie:i=5:=by omega
  subst hie;refine hs.put 2 rfl (o:=0) (vs:=fltC flt0) rfl (show 4<=4 by decide) fun h47 hs=>?_;exact⟨0,0,0,0,hs.at 2 rfl (o:=0) (n:=4) rfl,by rw[chk_0 hV hP];rfl,hs.ext⟩
 have hXh:=(hX (A:=[])).at hs fun i hi=>Yn _ (by rw[Ye.1 hi];exact Yx);rcases (by omega:i=0\/i=1\/i=2\/i=3\/i=4) with rfl | rfl | rfl | rfl | rfl
 .refine⟨_,rfl,?_⟩;show bif callable Pz 38 then _ else _
  rw[cal38,cond_true];refine (limits38 xb s cs k h7.size h23 hXh).mono ?_;rintro _ h33 ⟨⟨f,rfl,hf⟩,E⟩;have hs:=hs.step E;rw[<-hQl] at hf;have hbad:f.1≠0->chkV (L.map MR.m) k (C.map Cr.cf)=(f,23):=fun hn=>by
   by_cases hl:k<1\/4<k\/20000<(C.map Cr.cf).length
   .rw[chk_1 hV hl,hf,if_pos hl]
   .rw[hf,if_neg hl] at hn;exact absurd rfl hn
  have hgood:f.1=0->ChkP (L.map MR.m) k (C.map Cr.cf) (0+1)/\((0+1<=3->N=[])/\(4<=0+1->KyOk N (C.map Cr.cf))):=fun hn=>by
   refine⟨⟨fun _ hl=>?_,fun h=>by omega,fun h=>by omega,fun h=>by omega,fun h=>by omega⟩,fun _=>hN0 (by omega),fun h=>by omega⟩;rw[hf,if_pos hl] at hn;exact absurd hn (by decide)
  refine⟨_,_,_,_,rfl,?_⟩;refine hs.newput (vs:=fltC f) rfl rfl fun h35 hs=>?_;refine⟨f.1,hs.rd 0 rfl (i:=0) rfl,sBn (fun c2=>?_) (fun c2=>?_)⟩
  .refine⟨f.1,f.2.1,f.2.2.1,f.2.2.2,hs.at 0 rfl (o:=0) (n:=4) rfl,?_⟩;refine hs.put 3 rfl (o:=0) (vs:=fltC f) rfl (show 4<=4 by decide) fun h41 hs=>?_;exact⟨f.1,f.2.1,f.2.2.1,f.2.2.2,hs.at 3 rfl (o:=0) (n:=4) rfl,by rw[hbad c2];rfl,hs.ext⟩
  .obtain⟨hP',hN'⟩:=hgood c2;exact⟨_,(show 5-(0+1)<5-0 by omega),0+1,_,by rw[w64 (by omega) (by omega)];omega,rfl,by omega,hP',hN'.1,hN'.2,hs.drop 1⟩
 .refine⟨_,rfl,?_⟩;show bif callable Pz 39 then _ else _
  rw[cal39,cond_true];refine (proper39 L C s cs k xb h7.size h23 (hS.ext hs.ext) hXh (hC.ext hs.ext)).mono ?_;rintro _ h33 ⟨rfl,E⟩;have hs:=hs.step E;obtain⟨f,hf⟩:∃f,f=fltO 2 (fstI (fun c=>¬ProS (L.map MR.m) k c.1 c.2) (C.map Cr.cf)):=⟨_,rfl⟩;rw[<-hf];have hbad:f.1≠0->chkV (L.map MR.m) k (C.map Cr.cf)=(f,23):=fun hn=>by
   cases ho:fstI (fun c=>¬ProS (L.map MR.m) k c.1 c.2) (C.map Cr.cf) with
   | none=>rw[hf,ho] at hn;exact absurd rfl hn
   | some i=>rw[chk_2 hV hP ho,hf,ho];rfl
  have hgood:f.1=0->ChkP (L.map MR.m) k (C.map Cr.cf) (1+1)/\((1+1<=3->N=[])/\(4<=1+1->KyOk N (C.map Cr.cf))):=fun hn=>by
   refine⟨⟨fun _=>hP.a (by omega),fun _=>?_,fun h=>by omega,fun h=>by omega,fun h=>by omega⟩,fun _=>hN0 (by omega),fun h=>by omega⟩;cases ho:fstI (fun c=>¬ProS (L.map MR.m) k c.1 c.2) (C.map Cr.cf) with
   | none=>rfl
   | some i=>rw[hf,ho] at hn;exact absurd hn (show ¬((2:Int)=0) by decide)
  refine⟨_,_,_,_,rfl,?_⟩;refine hs.newput (vs:=fltC f) rfl rfl fun h35 hs=>?_;refine⟨f.1,hs.rd 0 rfl (i:=0) rfl,sBn (fun c2=>?_) (fun c2=>?_)⟩
  .refine⟨f.1,f.2.1,f.2.2.1,f.2.2.2,hs.at 0 rfl (o:=0) (n:=4) rfl,?_⟩;refine hs.put 3 rfl (o:=0) (vs:=fltC f) rfl (show 4<=4 by decide) fun h41 hs=>?_;exact⟨f.1,f.2.1,f.2.2.1,f.2.2.2,hs.at 3 rfl (o:=0) (n:=4) rfl,by rw[hbad c2];rfl,hs.ext⟩
  .obtain⟨hP',hN'⟩:=hgood c2;exact⟨_,(show 5-(1+1)<5-1 by omega),1+1,_,by rw[w64 (by omega) (by omega)];omega,rfl,by omega,hP',hN'.1,hN'.2,hs.drop 1⟩
 .refine⟨_,rfl,?_⟩;show bif callable Pz 40 then _ else _
  rw[cal40,cond_true];have hpa:=pro_all (hP.b (by omega));refine (good40 L C s cs k xb h7.size h23 (hS.ext hs.ext) hXh (hC.ext hs.ext) hpa).mono ?_;rintro _ h33 ⟨rfl,E⟩;have hs:=hs.step E;obtain⟨f,hf⟩:∃f,f=fltO 3 (fstI (fun c=>badS (L.map MR.m) k c.1 c.2≠0) (C.map Cr.cf)):=⟨_,rfl⟩;rw[<-hf];have hbad:f.1≠0->chkV (L.map MR.m) k (C.map Cr.cf)=(f,23):=fun hn=>by
   cases ho:fstI (fun c=>badS (L.map MR.m) k c.1 c.2≠0) (C.map Cr.cf) with
   | none=>rw[hf,ho] at hn;exact absurd rfl hn
   | some i=>rw[chk_3 hV hP ho,hf,ho];rfl
  have hgood:f.1=0->ChkP (L.map MR.m) k (C.map Cr.cf) (2+1)/\((2+1<=3->N=[])/\(4<=2+1->KyOk N (C.map Cr.cf))):=fun hn=>by
   refine⟨⟨fun _=>hP.a (by omega),fun _=>hP.b (by omega),fun _=>?_,fun h=>by omega,fun h=>by omega⟩,fun _=>hN0 (by omega),fun h=>by omega⟩;cases ho:fstI (fun c=>badS (L.map MR.m) k c.1 c.2≠0) (C.map Cr.cf) with
   | none=>rfl
   | some i=>rw[hf,ho] at hn;exact absurd hn (show ¬((3:Int)=0) by decide)
  refine⟨_,_,_,_,rfl,?_⟩;refine hs.newput (vs:=fltC f) rfl rfl fun h35 hs=>?_;refine⟨f.1,hs.rd 0 rfl (i:=0) rfl,sBn (fun c2=>?_) (fun c2=>?_)⟩
  .refine⟨f.1,f.2.1,f.2.2.1,f.2.2.2,hs.at 0 rfl (o:=0) (n:=4) rfl,?_⟩;refine hs.put 3 rfl (o:=0) (vs:=fltC f) rfl (show 4<=4 by decide) fun h41 hs=>?_;exact⟨f.1,f.2.1,f.2.2.1,f.2.2.2,hs.at 3 rfl (o:=0) (n:=4) rfl,by rw[hbad c2];rfl,hs.ext⟩
  .obtain⟨hP',hN'⟩:=hgood c2;exact⟨_,(show 5-(2+1)<5-2 by omega),2+1,_,by rw[w64 (by omega) (by omega)];omega,rfl,by omega,hP',hN'.1,hN'.2,hs.drop 1⟩
 .refine⟨_,rfl,?_⟩;show bif callable Pz 41 then _ else _
  rw[cal41,cond_true];have hpa:=pro_all (hP.b (by omega));have hka:=hP.a (by omega);have hN:=hN0 (by omega);subst hN;refine (starts41 L C s cs k xb h7.size hs hS hV hX hC ⟨by omega,by omega⟩ hpa).mono ?_;rintro _ h33 ⟨f,N2,rfl,hf,hN2,hs⟩;have hbad:f.1≠0->chkV (L.map MR.m) k (C.map Cr.cf)=(f,23):=fun hn=>by
   rcases hf with ⟨rfl,hm⟩ | ⟨rfl,hm⟩
   .exact absurd rfl hn
   .exact chk_4 hV hP hm
  have hgood:f.1=0->ChkP (L.map MR.m) k (C.map Cr.cf) (3+1)/\((3+1<=3->N2=[])/\(4<=3+1->KyOk N2 (C.map Cr.cf))):=fun hn=>by
   refine⟨⟨fun _=>hP.a (by omega),fun _=>hP.b (by omega),fun _=>hP.c (by omega),fun _=>?_,fun h=>by omega⟩,fun h=>by omega,fun _=>hN2⟩;rcases hf with ⟨rfl,hm⟩ | ⟨rfl,hm⟩
   .exact hm
   .exact absurd hn (by decide)
  refine⟨_,_,_,_,rfl,?_⟩;refine hs.newput (vs:=fltC f) rfl rfl fun h35 hs=>?_;refine⟨f.1,hs.rd 0 rfl (i:=0) rfl,sBn (fun c2=>?_) (fun c2=>?_)⟩
  .refine⟨f.1,f.2.1,f.2.2.1,f.2.2.2,hs.at 0 rfl (o:=0) (n:=4) rfl,?_⟩;refine hs.put 3 rfl (o:=0) (vs:=fltC f) rfl (show 4<=4 by decide) fun h41 hs=>?_;exact⟨f.1,f.2.1,f.2.2.1,f.2.2.2,hs.at 3 rfl (o:=0) (n:=4) rfl,by rw[hbad c2];rfl,hs.ext⟩
  .obtain⟨hP',hN'⟩:=hgood c2;exact⟨_,(show 5-(3+1)<5-3 by omega),3+1,_,by rw[w64 (by omega) (by omega)];omega,rfl,by omega,hP',hN'.1,hN'.2,hs.drop 1⟩
 .refine⟨_,rfl,?_⟩;show bif callable Pz 42 then _ else _
  rw[cal42,cond_true];have hpa:=pro_all (hP.b (by omega));refine (closed42 L C s cs k xb h7.size N hs (hN4 (by omega)) hS hX hC hpa).mono ?_;rintro _ h33 ⟨rfl,hs⟩;obtain⟨f,hf⟩:∃f,f=clsS (L.map MR.m) k (C.map Cr.cf):=⟨_,rfl⟩;rw[<-hf];have hbad:f.1≠0->chkV (L.map MR.m) k (C.map Cr.cf)=(f,23):=fun hn=>by rw[hf] at hn ⊢;exact chk_5 hV hP hn
  have hgood:f.1=0->ChkP (L.map MR.m) k (C.map Cr.cf) (4+1)/\((4+1<=3->N=[])/\(4<=4+1->KyOk N (C.map Cr.cf))):=fun hn=>by
   rw[hf] at hn;exact⟨⟨fun _=>hP.a (by omega),fun _=>hP.b (by omega),fun _=>hP.c (by omega),fun _=>hP.d (by omega),fun _=>hn⟩,fun h=>by omega,fun _=>hN4 (by omega)⟩
  refine⟨_,_,_,_,rfl,?_⟩;refine hs.newput (vs:=fltC f) rfl rfl fun h35 hs=>?_;refine⟨f.1,hs.rd 0 rfl (i:=0) rfl,sBn (fun c2=>?_) (fun c2=>?_)⟩
  .refine⟨f.1,f.2.1,f.2.2.1,f.2.2.2,hs.at 0 rfl (o:=0) (n:=4) rfl,?_⟩;refine hs.put 3 rfl (o:=0) (vs:=fltC f) rfl (show 4<=4 by decide) fun h41 hs=>?_;exact⟨f.1,f.2.1,f.2.2.1,f.2.2.2,hs.at 3 rfl (o:=0) (n:=4) rfl,by rw[hbad c2];rfl,hs.ext⟩
  .obtain⟨hP',hN'⟩:=hgood c2;exact⟨_,(show 5-(4+1)<5-4 by omega),4+1,_,by rw[w64 (by omega) (by omega)];omega,rfl,by omega,hP',hN'.1,hN'.2,hs.drop 1⟩
end Go.VC
end

section
namespace Go.VC
open Go.Proofs Go.LexS

end Go.VC
end

section
namespace Go.VC
open Go.Proofs Go.LexS Go.Maps

theorem sy_nil {h:Heap}:SyI h ⟨none,0,0⟩ []:=⟨⟨Rw.nil,Yyt _,fun _=>⟨rfl,rfl⟩,Nat.zero_le _⟩,fun x hx=>by cases hx⟩
theorem few21 (C:List Cr) (cs:Sl) (k:Int) (h:Heap) (hC:CtI h cs C) :
  Fn Pz 21 #[.agg ⟨[.int .i64 k,.slice cs.a cs.n cs.c]⟩] h fun v h'=>∃b:Bool,v=.bool b/\(b=true->C.length<=120)/\Ext h h':=by
 apply vc21 k cs;unfold W21;have hn:=hC.r.ln;have hm:=hC.r.sm;refine (St.refl h).newb fun h3 hs=>?_;refine up_loopS (n:=cs.n) hs (fun _=>True) trivial ?_;rintro-i h8 hi ⟨hs,-⟩;refine⟨cs,hs.rd 0 rfl (i:=1) rfl,sB_intro (fun c=>?_) (fun c=>?_)⟩
 .replace c:=lt_t c;refine⟨cs,hs.rd 0 rfl (i:=1) rfl,?_⟩;refine (hC.r.rw.ext hs.ext).nbI (by omega) (by omega) fun b3 o3 x gx t3=>?_;replace gx:C[i]?=some x:=gx;refine⟨x.c1,x.c2,t3,?_⟩;refine (fewC13 [] ⟨none,0,0⟩ x.c1 x.c2 x.S x.B h8 sy_nil ((hC.ext hs.ext).i x (Yb gx))).mono ?_;rintro _ h17 ⟨⟨b',rfl,-⟩,E⟩;have hs:=hs.step E;exact⟨_,rfl,sB_intro (fun c2=>⟨false,rfl,(fun e=>by cases e),hs.ext⟩) (fun c2=>Up.next c (by omega) ⟨hs,trivial⟩)⟩
 .exact⟨cs,hs.rd 0 rfl (i:=1) rfl,_,rfl,(fun e=>by have:=Yyn e;omega),hs.ext⟩
theorem smallC16 (L:List MR) (s:Sl) (C:List Cr) (cs:Sl) (k:Int) (h:Heap) (hS:SyI h s L) (hC:CtI h cs C) :
  Fn Pz 16 #[.slice s.a s.n s.c,.agg ⟨[.int .i64 k,.slice cs.a cs.n cs.c]⟩] h fun v h'=>∃b:Bool,v=.bool b/\(b=true->C.length<=120)/\Ext h h':=by
 apply vc16 s k cs;unfold W16;refine (St.refl h).newb fun h3 hs=>?_;refine (fewC13 L s ⟨none,0,0⟩ ⟨none,0,0⟩ [] [] h3 (hS.ext hs.ext) CfI.none_).mono ?_;rintro _ h6 ⟨⟨b,rfl,-⟩,E⟩;have hs:=hs.step E;refine⟨b,rfl,sB_intro (fun c=>?_) (fun c=>⟨false,rfl,(fun h=>by cases h),hs.ext⟩)⟩;refine⟨k,cs,hs.at 0 rfl (o:=0) (n:=2) rfl,?_⟩;refine (few21 C cs k h6 (hC.ext hs.ext)).mono ?_;rintro _ h11 ⟨b2,rfl,hb2,E2⟩;exact⟨b2,rfl,b2,rfl,hb2,hs.ext.trans E2⟩
end Go.VC
end

section
namespace Go.VC
open Go.Proofs Go.LexS Go.Maps
theorem cls_5 (L:List Mch) (k:Int) (Q:List Cf):(clsS L k Q).1=0\/(clsS L k Q).1=5:=by
 unfold clsS;cases fstI (fun c=>(levS L k Q c).isSome=true) Q with
 | none=>exact .inl rfl
 | some i=>
  dsimp only;cases (Q[i]?).bind (levS L k Q) with
  | none=>exact .inl rfl
  | some q=>exact .inr rfl
theorem cls_0 {L:List Mch} {k:Int} {Q:List Cf} (h:(clsS L k Q).1=0) {c:Cf} (hc:c∈Q):levS L k Q c=none:=by
 unfold clsS at h;cases hf:fstI (fun c=>(levS L k Q c).isSome=true) Q with
 | none=>
  have h1:=fstI_no hf hc;cases hl:levS L k Q c with
  | none=>rfl
  | some q=>exact absurd (by rw[hl];rfl) h1
 | some i=>
  rw[hf] at h;dsimp only at h;obtain⟨c,gc,hs⟩:=fstI_ex hf;obtain⟨q,hq⟩:=Option.isSome_iff_exists.1 hs;rw[gc,Option.bind_some,hq] at h;exact absurd h (show ¬((5:Int)=0) by decide)
open Classical in
theorem lev_inv {L:List Mch} {k:Int} {Q:List Cf} {c:Cf} (h:levS L k Q c=none) {q:Nat × Nat} (hq:q∈stepsS L k c.1 c.2):nxS L c q∈Q:=by
 unfold levS at h;have h2:=List.find?_eq_none.1 h q hq;rw[decide_eq_true_eq] at h2;exact Classical.not_not.1 h2
theorem chk_cases {L:List Mch} {k:Int} {Q:List Cf} (hV:SysV L):((chkV L k Q).2=23/\1<=(chkV L k Q).1.1/\(chkV L k Q).1.1<=5)\/(chkV L k Q=(flt0,0)/\ChkP L k Q 5):=by
 by_cases h1:k<1\/4<k\/20000<Q.length
 .rw[chk_1 hV h1];exact .inl ⟨rfl,by decide,by decide⟩
 have p1:ChkP L k Q 1:=⟨fun _=>h1,fun h=>by omega,fun h=>by omega,fun h=>by omega,fun h=>by omega⟩;cases h2:fstI (fun c=>¬ProS L k c.1 c.2) Q with
 | some i=>rw[chk_2 hV p1 h2];exact .inl ⟨rfl,(show (1:Int)<=2 by decide),(show (2:Int)<=5 by decide)⟩
 | none=>
  have p2:ChkP L k Q 2:=⟨fun _=>h1,fun _=>h2,fun h=>by omega,fun h=>by omega,fun h=>by omega⟩;cases h3:fstI (fun c=>badS L k c.1 c.2≠0) Q with
  | some i=>rw[chk_3 hV p2 h3];exact .inl ⟨rfl,(show (1:Int)<=3 by decide),(show (3:Int)<=5 by decide)⟩
  | none=>
   have p3:ChkP L k Q 3:=⟨fun _=>h1,fun _=>h2,fun _=>h3,fun h=>by omega,fun h=>by omega⟩;by_cases h4:(startS L,startB L)∈Q
   .have p4:ChkP L k Q 4:=⟨fun _=>h1,fun _=>h2,fun _=>h3,fun _=>h4,fun h=>by omega⟩;rcases cls_5 L k Q with h5 | h5
    .have p5:ChkP L k Q 5:=⟨fun _=>h1,fun _=>h2,fun _=>h3,fun _=>h4,fun _=>h5⟩;exact .inr ⟨chk_0 hV p5,p5⟩
    .rw[chk_5 hV p4 (by rw[h5];decide)];exact .inl ⟨rfl,by show 1<=(clsS L k Q).1;rw[h5];decide,by show (clsS L k Q).1<=5;rw[h5];decide⟩
   .rw[chk_4 hV p3 h4];exact .inl ⟨rfl,(show (1:Int)<=4 by decide),(show (4:Int)<=5 by decide)⟩
theorem right_mem {L:List Mch} {k:Int} {Q:List Cf} (hP:ChkP L k Q 5):∀ {n:Nat} {l:List (Nat × Nat)} {c:Cf},l.length=n->runS L k l=some c->c∈Q
 | 0,l,c,hn,hr=>by
  obtain rfl:=List.length_eq_zero_iff.1 hn;have h2:some ((startS L,(List.replicate (L.length*L.length) bx0).map Bx.l):Cf)=some c:=hr;rw[bxs0] at h2;rw[<-Yyp h2];exact hP.d (by omega)
 | n+1,l,c,hn,hr=>by
  obtain⟨l',q,rfl⟩:∃l' q,l=l'++[q]:=⟨l.dropLast,l.getLast (by intro e;rw[e] at hn;cases hn),(List.dropLast_concat_getLast _).symm⟩;rw[Yh,Yv] at hn;rw[runS_snoc] at hr;cases h0:runS L k l' with
  | none=>rw[h0] at hr;cases hr
  | some c0=>
   rw[h0] at hr;have hc0:=right_mem (n:=n) hP (by omega) h0;obtain⟨hq,rfl⟩:=stp_inv hr;exact lev_inv (cls_0 (hP.e (by omega)) hc0) hq
theorem fst_get {Q:List Qe} {j:Nat} {d:Cf} (h:(Q.map Prod.fst)[j]?=some d):∃e,Q[j]?=some e/\e.1=d:=by
 rw[Yd] at h;cases g:Q[j]? with
 | none=>rw[g] at h;cases h
 | some e=>rw[g] at h;cases h;exact⟨e,rfl,rfl⟩
theorem sea_p4 {L:List Mch} {k:Int} {lm:Nat} {Q:List Qe} (hs:Sea L k lm Q.length Q) (hk:1<=k/\k<=4) (hl2:lm<=20000) {n:Nat} (h1:1<=n):ChkP L k ((Q.map Prod.fst).take n) 4:=by
 have hg:∀ {j:Nat} {d:Cf},((Q.map Prod.fst).take n)[j]?=some d->∃e,Q[j]?=some e/\e.1=d:=fun {j d} h=>by
  by_cases hj:j<n
  .rw[List.getElem?_take_of_lt hj] at h;exact fst_get h
  .rw[List.getElem?_take_eq_none (by omega)] at h;cases h
 refine⟨fun _ hx=>?_,fun _=>fstI_none fun j d hd=>?_,fun _=>fstI_none fun j d hd=>?_,fun _=>?_,fun h=>by omega⟩
 .have:=hs.l;rw[Yu,Yc] at hx;omega
 .obtain⟨e,ge,rfl⟩:=hg hd;exact fun h=>h (hs.p e (Yb ge))
 .obtain⟨e,ge,rfl⟩:=hg hd;exact fun h=>h (hs.d j e (Ya.1 ge).1 ge).1
 .refine Yb (i:=0) ?_;rw[List.getElem?_take_of_lt (by omega),Yd,hs.s];rfl
theorem safe_chk {L:List Mch} {k:Int} {lm:Nat} {Q:List Cf} (hV:SysV L) (hk:1<=k/\k<=4) (hl:1<=lm) (hl2:lm<=20000) (h:exS L k lm=.safe Q):chkV L k Q=(flt0,0):=by
 have hok:=exS_ok (lim:=lm) hV hk hl;rw[h] at hok;obtain⟨Q',hs,rfl⟩:=hok;have h0:0<Q'.length:=(Ya.1 hs.s).1;have p4:=sea_p4 hs hk hl2 (n:=Q'.length) (by omega);rw[Yj (by rw[Yc];exact Yyt _)] at p4;refine chk_0 hV ⟨fun _=>p4.a (by omega),fun _=>p4.b (by omega),fun _=>p4.c (by omega),fun _=>p4.d (by omega),fun _=>?_⟩;rw[cls_none fun j d hd=>lev_none fun q hq=>?_]
 .rfl
 .obtain⟨e,ge,rfl⟩:=fst_get hd;obtain⟨m,e',gm,he,-⟩:=(hs.d j e (Ya.1 ge).1 ge).2 q hq;rw[<-he];exact List.mem_map_of_mem (Yb gm)
theorem cut_chk {L:List Mch} {k:Int} {lm:Nat} {Q:List Cf} (hV:SysV L) (hk:1<=k/\k<=4) (hl:1<=lm) (hl2:lm<=20000) (h:exS L k lm=.safe Q) {n:Nat} (h1:1<=n) (hn:n<Q.length):(chkV L k (Q.take n)).2=23/\(chkV L k (Q.take n)).1.1=5:=by
 have hok:=exS_ok (lim:=lm) hV hk hl;rw[h] at hok;obtain⟨Q',hs,rfl⟩:=hok;have p4:=sea_p4 hs hk hl2 h1;rcases cls_5 L k ((Q'.map Prod.fst).take n) with h5 | h5
 .exfalso;have p5:ChkP L k ((Q'.map Prod.fst).take n) 5:=⟨fun _=>p4.a (by omega),fun _=>p4.b (by omega),fun _=>p4.c (by omega),fun _=>p4.d (by omega),fun _=>h5⟩;rw[Yc] at hn;obtain⟨e,ge⟩:=get_some hn;have hm:=right_mem p5 rfl (hs.r e (Yb ge));obtain⟨j,gj⟩:=Yf.1 hm;have hj:j<n:=by
   have:=(Ya.1 gj).1;rw[Yu] at this;omega
  rw[List.getElem?_take_of_lt hj] at gj;have gn:(Q'.map Prod.fst)[n]?=some e.1:=by rw[Yd,ge];rfl
  have hjl:j<(Q'.map Prod.fst).length:=(Ya.1 gj).1;have:=(List.getElem?_inj hjl hs.n).1 (gj.trans gn.symm);omega
 .rw[chk_5 hV p4 (by rw[h5];decide)];exact⟨rfl,h5⟩
end Go.VC
end
