/- PjNa PjNb PjNc PjNd PjNe PjRa PjRb PjRc PjRd PjRe0 PjRe PjRf PjRg PjHa PjIa PjHb PjHc PjHd PjIb PjIc PjId PjIe PjUa. -/
import Derived.Test.YtfdhgcladnbdeaaGreatDoorAM06
set_option linter.all false
set_option maxRecDepth 100000
set_option maxHeartbeats 8000000

section
namespace Go.VC
open Go.LexS
def itC (m:Mch):Nat->List Nat
 | 0=>List.replicate m.n.toNat 0
 | k+1=>canonL (clsK m (itC m k))
theorem itC_len (m:Mch):∀k,(itC m k).length=m.n.toNat
 | 0=>Yg
 | k+1=>by rw[itC,canonL_len,clsK_len]
theorem clsN_it {m:Mch} (hO:MOk m):∀(f N:Nat),202<=f+(if N=0 then 0 else (dedF (itC m N)).length)->∃N',N<=N'/\(clsN m f (itC m N) (if N=0 then 0 else (dedF (itC m N)).length)).1=itC m (N'+1)/\(dedF (clsK m (itC m N'))).length=(if N'=0 then 0 else (dedF (itC m N')).length)
 | 0,N,h=>by
  have hn:=hO.n;exfalso;split at h
  .omega
  .have:=dedF_len_le (itC m N);rw[itC_len] at this;omega
 | f+1,N,h=>by
  rw[clsN];have hn:=hO.n;have hge:=clsK_ge (itC_len m N);by_cases e:(dedF (clsK m (itC m N))).length=if N=0 then 0 else (dedF (itC m N)).length
  .rw[if_pos e];exact⟨N,Yyt _,rfl,e⟩
  .rw[if_neg e];have e1:(dedF (clsK m (itC m N))).length=if N+1=0 then 0 else (dedF (itC m (N+1))).length:=by
    rw[if_neg (by omega),itC,dedF_canon]
   have hlt:(if N=0 then 0 else (dedF (itC m N)).length)<(dedF (clsK m (itC m N))).length:=by
    split at e
    .rename_i h0;subst h0;rw[if_pos rfl];omega
    .rename_i h0;rw[if_neg h0];omega
   have ih:=clsN_it hO f (N+1) (by rw[<-e1];omega);rw[<-e1] at ih;obtain⟨N',h1,h2,h3⟩:=ih;exact⟨N',by omega,h2,h3⟩
theorem ded_inj {K K':Type} [DecidableEq K] [DecidableEq K'] {l:List K} {f:K->K'} (h:(dedF (l.map f)).length=(dedF l).length) {a b:K} (ha:a∈l) (hb:b∈l) (hab:f a=f b):a=b:=by
 by_cases e:a=b
 .exact e
 exfalso;have h1:=List.Nodup.length_le_of_subset (dedF_nodup (l.map f)) (l₂:=((dedF l).filter fun x=>decide (x≠b)).map f) fun y hy=>by
  rw[dedF_mem] at hy;obtain⟨x,hx,rfl⟩:=Yp.1 hy;by_cases ex:x=b
  .subst ex;exact Yp.2 ⟨a,List.mem_filter.2 ⟨(dedF_mem _ _).2 ha,by simpa using e⟩,hab⟩
  .exact Yp.2 ⟨x,List.mem_filter.2 ⟨(dedF_mem _ _).2 hx,by simpa using ex⟩,rfl⟩
 rw[Yc,h] at h1;have h2:((dedF l).filter fun x=>decide (x≠b)).length<(dedF l).length:=by
  rcases Nat.lt_or_ge ((dedF l).filter fun x=>decide (x≠b)).length (dedF l).length with h3 | h3
  .exact h3
  .have:=List.filter_eq_self.1 ((List.filter_sublist (l:=dedF l) (p:=fun x=>decide (x≠b))).eq_of_length_le h3) b ((dedF_mem _ _).2 hb);simp at this
 omega
theorem clsK_map {m:Mch} {C:List Nat} (hC:C.length=m.n.toNat):C=(clsK m C).map fun k=>match k.getLast? with | some s=>s.b.toNat | none=>0:=by
 apply Yyr;intro i;unfold clsK;rw[List.map_map,Yd];by_cases hi:i<m.n.toNat
 .rw[Yyb hi];obtain⟨c,hc⟩:=get_some (l:=C) (i:=i) (by omega);rw[hc];show _=some (match (keyS m C i).getLast? with | some s=>s.b.toNat | none=>0);have:(keyS m C i).getLast?=some (sgB C m.fin i):=by
   unfold keyS keyH;rw[<-Yz,List.getLast?_append];rfl
  rw[this];unfold sgB;simp[Yo,hc]
 .rw[Yl (by omega),Yl (by rw[Yyd];omega)];rfl
theorem clsK_get {m:Mch} {C:List Nat} {i:Nat} (hi:i<m.n.toNat):(clsK m C)[i]?=some (keyS m C i):=by unfold clsK;rw[Yd,Yyb hi];rfl
theorem keyS_b {m:Mch} {C:List Nat} (hC:C.length=m.n.toNat) {x y:Nat} (hx:x<m.n.toNat) (hy:y<m.n.toNat) (h:keyS m C x=keyS m C y):C[x]?=C[y]?:=by
 have e:=clsK_map hC;generalize hf:(fun k:List Sg=>match k.getLast? with | some s=>s.b.toNat | none=>0)=f at e;rw[e,Yd,Yd,clsK_get hx,clsK_get hy,h]
theorem cls_stable {m:Mch} (hO:MOk m):∃N,(cls m).1=itC m (N+1)/\(∀x y:Nat,x<m.n.toNat->y<m.n.toNat->((cls m).1[x]?=(cls m).1[y]? ↔ (itC m N)[x]?=(itC m N)[y]?))/\∀x y:Nat,x<m.n.toNat->y<m.n.toNat->(cls m).1[x]?=(cls m).1[y]?->keyS m (itC m N) x=keyS m (itC m N) y:=by
 have hn:=hO.n;obtain⟨N,_,h2,h3⟩:=clsN_it hO 202 0 (by rw[if_pos rfl];omega);rw[if_pos rfl] at h2;replace h2:(cls m).1=itC m (N+1):=h2;have hpos:0<(dedF (clsK m (itC m N))).length:=by
  have:keyS m (itC m N) 0∈dedF (clsK m (itC m N)):=(dedF_mem _ _).2 (Yb (clsK_get (i:=0) (by omega)));exact List.length_pos_of_mem this
 have hN:N≠0:=fun h=>by rw[if_pos h] at h3;omega
 rw[if_neg hN] at h3;have hmap:=clsK_map (itC_len m N);have key:∀x y:Nat,x<m.n.toNat->y<m.n.toNat->(itC m N)[x]?=(itC m N)[y]?->keyS m (itC m N) x=keyS m (itC m N) y:=by
  intro x y hx hy h;generalize hf:(fun k:List Sg=>match k.getLast? with | some s=>s.b.toNat | none=>0)=f at hmap;refine ded_inj (l:=clsK m (itC m N)) (f:=f) (by rw[<-hmap];exact h3.symm) (Yb (clsK_get hx)) (Yb (clsK_get hy)) ?_;have h1:((clsK m (itC m N)).map f)[x]?=((clsK m (itC m N)).map f)[y]?:=by rw[<-hmap];exact h
  rw[Yd,Yd,clsK_get hx,clsK_get hy] at h1;exact Yyp h1
 have hfin:∀x y:Nat,x<m.n.toNat->y<m.n.toNat->((cls m).1[x]?=(cls m).1[y]? ↔ keyS m (itC m N) x=keyS m (itC m N) y):=by
  intro x y hx hy;rw[h2,itC];exact canonL_eq (clsK_get hx) (clsK_get hy)
 refine⟨N,h2,fun x y hx hy=>?_,fun x y hx hy h=>(hfin x y hx hy).1 h⟩;rw[hfin x y hx hy];exact⟨keyS_b (itC_len m N) hx hy,key x y hx hy⟩
theorem itC_step {m:Mch} {k x y:Nat} (hx:x<m.n.toNat) (hy:y<m.n.toNat) (h:keyS m (itC m k) x=keyS m (itC m k) y):(itC m (k+1))[x]?=(itC m (k+1))[y]?:=by
 rw[itC];exact (canonL_eq (clsK_get hx) (clsK_get hy)).2 h
theorem foldl_ind {α β:Type} {f:β->α->β} {P:Nat->β->Prop} {l:List α} {b:β} (h0:P 0 b) (hs:∀(j:Nat) (x:α) (st:β),l[j]?=some x->P j st->P (j+1) (f st x)):P l.length (l.foldl f b):=by
 have key:∀n,n<=l.length->P n ((l.take n).foldl f b):=by
  intro n
  induction n with
  | zero=>intro _;exact h0
  | succ n ih=>
   intro hn;obtain⟨x,hx⟩:=get_some (l:=l) (i:=n) (by omega);rw[foldl_snoc hx];exact hs n x _ hx (ih (by omega))
 have:=key l.length (Yyt _)
 rwa [Yye] at this
def mvQ (C Q:List Nat) (i:Nat) (x:Mv):Mv:=⟨(i:Nat),x.send,x.peer,x.label,(idxF Q (C.getD x.t.toNat 0):Nat),x.ag⟩
def repQ (C Q:List Nat) (i:Nat):Nat:=idxF C (Q.getD i 0)
theorem mvQ_ext {C Q E:List Nat} {i:Nat} {x:Mv} (h:C.getD x.t.toNat 0∈Q):mvQ C (Q++E) i x=mvQ C Q i x:=by unfold mvQ;rw[idxF_mem h]
theorem repQ_ext {C Q E:List Nat} {i:Nat} (h:i<Q.length):repQ C (Q++E) i=repQ C Q i:=by
 unfold repQ;rw[Yo,Yo,Yyi h]
theorem addQ_ext (Q:List Nat) (c:Nat):∃E,addQ Q c=Q++E:=by
 unfold addQ;split
 .exact⟨[],by simp⟩
 .exact⟨[c],rfl⟩
def LimOf (r:Mch) (C Q:List Nat) (mv:List Mv) (t:To) (i:Nat) (x:Mv):Prop:=t.s=(i:Int)/\x∈outM r (repQ C Q i)/\0<=t.e/\mv[t.e.toNat]?=some (mvQ C Q i x)/\∃t0 y,mget (limM r.li) (repQ C Q i:Nat)=some t0/\r.mv[t0.e.toNat]?=some y/\t.k=t0.k/\x.ev=y.ev
structure CanI (r:Mch) (C:List Nat) (cnt hd:Nat) (Q:List Nat) (fin:List Bool) (mv:List Mv) (li:List To):Prop where
 pq:QOk Q cnt
 ph:hd<=Q.length
 pf:fin=(List.range hd).map fun i=>r.fin.getD (repQ C Q i) false
 pm:mv=(List.range hd).flatMap fun i=>(outM r (repQ C Q i)).map (mvQ C Q i)
 pt:∀i,i<hd->∀x∈outM r (repQ C Q i),C.getD x.t.toNat 0∈Q
 p1:∀t∈li,∃i x,i<hd/\LimOf r C Q mv t i x
 p2:∀i,i<hd->∀t0 y,mget (limM r.li) (repQ C Q i:Nat)=some t0->r.mv[t0.e.toNat]?=some y->(∃x∈outM r (repQ C Q i),x.ev=y.ev)->∃t∈li,t.s=(i:Int)
structure RowI (r:Mch) (C:List Nat) (cnt hd:Nat) (Q:List Nat) (mv:List Mv) (li:List To) (j:Nat) (st:List Nat × List Mv × List To):Prop where
 pe:∃E,st.1=Q++E
 pq:QOk st.1 cnt
 pt:∀x∈(outM r (repQ C Q hd)).take j,C.getD x.t.toNat 0∈st.1
 pm:st.2.1=mv++((outM r (repQ C Q hd)).take j).map (mvQ C st.1 hd)
 p1:∀t∈st.2.2,t∈li\/∃x∈(outM r (repQ C Q hd)).take j,LimOf r C st.1 st.2.1 t hd x
 p0:∀t∈li,t∈st.2.2
 p2:∀t0 y,mget (limM r.li) (repQ C Q hd:Nat)=some t0->r.mv[t0.e.toNat]?=some y->(∃x∈(outM r (repQ C Q hd)).take j,x.ev=y.ev)->∃t∈st.2.2,t.s=(hd:Int)
theorem LimOf.ext {r:Mch} {C Q E:List Nat} {mv mv':List Mv} {t:To} {i:Nat} {x:Mv} (h:LimOf r C Q mv t i x) (hi:i<Q.length) (hx:C.getD x.t.toNat 0∈Q) (hm:mv'=mv++mv'.drop mv.length):LimOf r C (Q++E) mv' t i x:=by
 obtain⟨h1,h2,h3,h4,t0,y,h5,h6,h7,h8⟩:=h;have hr:=repQ_ext (C:=C) (E:=E) hi;refine⟨h1,by rw[hr];exact h2,h3,?_,t0,y,by rw[hr];exact h5,h6,h7,h8⟩;rw[hm,Yyi (Ya.1 h4).1,h4,mvQ_ext hx]
theorem row_step {r:Mch} {C:List Nat} {cnt hd:Nat} {Q:List Nat} {mv:List Mv} {li:List To} (hO:MOk r) (hCl:C.length=r.n.toNat) (hCb:∀c∈C,c<cnt) (hhd:hd<Q.length) {j:Nat} {x:Mv} {st:List Nat × List Mv × List To} (hx:(outM r (repQ C Q hd))[j]?=some x) (h:RowI r C cnt hd Q mv li j st) :
  RowI r C cnt hd Q mv li (j+1) (minX r C hd (mget (limM r.li) (repQ C Q hd:Nat)) st x):=by
 have hxm:x∈outM r (repQ C Q hd):=Yb hx;have hxr:x∈r.mv:=(List.mem_filter.1 hxm).1;have hxo:=hO.mv x hxr;obtain⟨cx,hcx⟩:=get_some (l:=C) (i:=x.t.toNat) (by omega);have hcg:C.getD x.t.toNat 0=cx:=getD_some hcx;have hcb:=hCb cx (Yb hcx);obtain⟨E,hE⟩:=h.pe;obtain⟨E2,hE2⟩:=addQ_ext st.1 cx;have hlt:hd<st.1.length:=by rw[hE,Yh];omega
 have hm1:(minX r C hd (mget (limM r.li) (repQ C Q hd:Nat)) st x).1=st.1++E2:=by unfold minX;rw[hcg];exact hE2
 have hm2:(minX r C hd (mget (limM r.li) (repQ C Q hd:Nat)) st x).2.1=st.2.1++[mvQ C (st.1++E2) hd x]:=by unfold minX mvQ;rw[hcg,hE2]
 have htk:(outM r (repQ C Q hd)).take (j+1)=(outM r (repQ C Q hd)).take j++[x]:=take_snoc hx;have hin:cx∈st.1++E2:=by rw[<-hE2];exact addQ_mem
 have hrep:repQ C (st.1++E2) hd=repQ C Q hd:=by rw[repQ_ext hlt,hE,repQ_ext hhd]
 have hrep1:repQ C st.1 hd=repQ C Q hd:=by rw[hE,repQ_ext hhd]
 have hdrop:(minX r C hd (mget (limM r.li) (repQ C Q hd:Nat)) st x).2.1=st.2.1++((minX r C hd (mget (limM r.li) (repQ C Q hd:Nat)) st x).2.1).drop st.2.1.length:=by rw[hm2,List.drop_append_of_le_length (Yyt _),List.drop_length,List.nil_append]
 have hnew:(st.2.1++[mvQ C (st.1++E2) hd x])[st.2.1.length]?=some (mvQ C (st.1++E2) hd x):=by rw[Yyc (Yyt _),Nat.sub_self];rfl
 refine⟨⟨E++E2,by rw[hm1,hE,Yz]⟩,by rw[hm1,<-hE2];exact h.pq.add hcb,fun y hy=>?_,?_,fun t ht=>?_,fun t ht=>?_,fun t0 y h1 h2 h3=>?_⟩
 .rw[htk,Yk,Ye] at hy;rw[hm1];rcases hy with hy | rfl
  .exact Yk.2 (.inl (h.pt y hy))
  .rw[hcg];exact hin
 .rw[hm1,hm2,h.pm,htk,Ym,Yz];congr 1;congr 1;apply List.map_congr_left;intro y hy;exact (mvQ_ext (h.pt y hy)).symm
 .unfold minX at ht;rcases Yk.1 ht with ht | ht
  .rcases h.p1 t ht with h4 | ⟨x',hx'm,h4⟩
   .exact .inl h4
   .refine .inr ⟨x',by rw[htk];exact Yk.2 (.inl hx'm),?_⟩;rw[hm1];exact h4.ext hlt (h.pt x' hx'm) hdrop
  .split at ht
   .cases ht
   .rename_i t0 h0;split at ht
    .rename_i y hy;split at ht
     .rename_i hev;rw[Ye] at ht;subst ht;refine .inr ⟨x,by rw[htk];exact Yk.2 (.inr (Ye.2 rfl)),?_⟩;rw[hm1,hm2];refine⟨rfl,by rw[hrep];exact hxm,by show 0<=((st.2.1.length:Nat):Int);omega,?_,t0,y,by rw[hrep];exact h0,hy,rfl,hev⟩;show (st.2.1++_)[((st.2.1.length:Nat):Int).toNat]?=_;rw[Ys];exact hnew
     .cases ht
    .cases ht
 .unfold minX;exact Yk.2 (.inl (h.p0 t ht))
 .rw[htk] at h3;obtain⟨x',hx',hev⟩:=h3;rw[Yk,Ye] at hx';rcases hx' with hx' | rfl
  .obtain⟨t,ht,hts⟩:=h.p2 t0 y h1 h2 ⟨x',hx',hev⟩;exact⟨t,by unfold minX;exact Yk.2 (.inl ht),hts⟩
  .refine⟨⟨(hd:Nat),t0.k,(st.2.1.length:Nat)⟩,?_,rfl⟩;unfold minX;rw[h1];simp only[h2];rw[if_pos hev];exact Yk.2 (.inr (Ye.2 rfl))
theorem flatMap_congr' {α β:Type} {f g:α->List β}:∀ {l:List α},(∀x∈l,f x=g x)->l.flatMap f=l.flatMap g
 | [],_=>rfl
 | a::l,h=>by rw[List.flatMap_cons,List.flatMap_cons,h a (Yx ..),flatMap_congr' fun x hx=>h x (Yn _ hx)]
theorem can_step {r:Mch} {C:List Nat} {cnt hd:Nat} {Q:List Nat} {fin:List Bool} {mv:List Mv} {li:List To} (hO:MOk r) (hCl:C.length=r.n.toNat) (hCb:∀c∈C,c<cnt) (hhd:hd<Q.length) (h:CanI r C cnt hd Q fin mv li) :
  CanI r C cnt (hd+1) ((outM r (repQ C Q hd)).foldl (minX r C hd (mget (limM r.li) (repQ C Q hd:Nat))) (Q,mv,li)).1 (fin++[r.fin.getD (repQ C Q hd) false]) ((outM r (repQ C Q hd)).foldl (minX r C hd (mget (limM r.li) (repQ C Q hd:Nat))) (Q,mv,li)).2.1 ((outM r (repQ C Q hd)).foldl (minX r C hd (mget (limM r.li) (repQ C Q hd:Nat))) (Q,mv,li)).2.2:=by
 have key:=foldl_ind (f:=minX r C hd (mget (limM r.li) (repQ C Q hd:Nat))) (l:=outM r (repQ C Q hd)) (b:=(Q,mv,li)) (P:=RowI r C cnt hd Q mv li)
  ⟨⟨[],by simp⟩,h.pq,fun x hx=>(by rw[Yyk] at hx;cases hx),by rw[Yyk,List.map_nil,Yw],fun t ht=>.inl ht,fun t ht=>ht,fun t0 y _ _ h3=>(by obtain⟨x,hx,_⟩:=h3;rw[Yyk] at hx;cases hx)⟩
  (fun j x st hx hr=>row_step hO hCl hCb hhd hx hr)
 generalize (outM r (repQ C Q hd)).foldl (minX r C hd (mget (limM r.li) (repQ C Q hd:Nat))) (Q,mv,li)=st at *;obtain⟨⟨E,hE⟩,kq,kt,km,k1,k0,k2⟩:=key;rw[Yye] at kt km k2;have hrep:∀i,i<Q.length->repQ C st.1 i=repQ C Q i:=fun i hi=>by rw[hE,repQ_ext hi]
 have hph:=h.ph;refine⟨kq,by rw[hE,Yh];omega,?_,?_,fun i hi x hx=>?_,fun t ht=>?_,fun i hi t0 y h1 h2 h3=>?_⟩
 .rw[List.range_succ,Ym,h.pf];congr 1
  .apply List.map_congr_left;intro i hi;have:=List.mem_range.1 hi;rw[hrep i (by omega)]
  .show _=[r.fin.getD (repQ C st.1 hd) false];rw[hrep hd hhd]
 .rw[List.range_succ,List.flatMap_append,km,h.pm];congr 1
  .refine flatMap_congr' fun i hi=>?_;have hi:=List.mem_range.1 hi;rw[hrep i (by omega)];apply List.map_congr_left;intro x hx;rw[hE,mvQ_ext (h.pt i hi x hx)]
  .rw[List.flatMap_singleton,hrep hd hhd]
 .by_cases e:i=hd
  .subst e;rw[hrep i hhd] at hx;exact kt x hx
  .rw[hrep i (by omega)] at hx;rw[hE];exact Yk.2 (.inl (h.pt i (by omega) x hx))
 .rcases k1 t ht with h4 | ⟨x,hx,h4⟩
  .obtain⟨i,x,hi,h5⟩:=h.p1 t h4;refine⟨i,x,by omega,?_⟩;rw[hE];refine h5.ext (by omega) (h.pt i hi x h5.2.1) ?_;rw[km,List.drop_append_of_le_length (Yyt _),List.drop_length,List.nil_append]
  .exact⟨hd,x,by omega,h4⟩
 .by_cases e:i=hd
  .subst e;rw[hrep i hhd] at h1 h3;exact k2 t0 y h1 h2 h3
  .rw[hrep i (by omega)] at h1 h3;obtain⟨t,ht,hts⟩:=h.p2 i (by omega) t0 y h1 h2 h3;exact⟨t,k0 t ht,hts⟩
theorem minN_can {r:Mch} {C:List Nat} {cnt:Nat} (hO:MOk r) (hCl:C.length=r.n.toNat) (hCb:∀c∈C,c<cnt):∀(f hd:Nat) (Q:List Nat) (fin:List Bool) (mv:List Mv) (li:List To),cnt<f+hd->CanI r C cnt hd Q fin mv li ->
  ∃Q',(minN r C f hd Q fin mv li).n=(Q'.length:Nat)/\(minN r C f hd Q fin mv li).s=0/\CanI r C cnt Q'.length Q' (minN r C f hd Q fin mv li).fin (minN r C f hd Q fin mv li).mv (minN r C f hd Q fin mv li).li/\∃E,Q'=Q++E
 | 0,hd,Q,fin,mv,li,hf,h=>by
  exfalso;have:=h.ph;have:=h.pq.le;omega
 | f+1,hd,Q,fin,mv,li,hf,h=>by
  rw[minN];cases hq:Q[hd]? with
  | none=>
   have:hd=Q.length:=by have:=List.getElem?_eq_none_iff.1 hq;have:=h.ph;omega
   subst this;exact⟨Q,rfl,rfl,h,[],by simp⟩
  | some c=>
   have hhd:=(Ya.1 hq).1;have hrep:repQ C Q hd=idxF C c:=by unfold repQ;rw[getD_some hq]
   have hst:=can_step hO hCl hCb hhd h;rw[hrep] at hst;have hE:∃E,((outM r (idxF C c)).foldl (minX r C hd (mget (limM r.li) (idxF C c:Nat))) (Q,mv,li)).1=Q++E:=by
    suffices hh:∀(l:List Mv) (st:List Nat × List Mv × List To),∃E,(l.foldl (minX r C hd (mget (limM r.li) (idxF C c:Nat))) st).1=st.1++E from hh _ _
    intro l
    induction l with
    | nil=>intro st;exact⟨[],by simp⟩
    | cons a l ih=>
     intro st;rw[List.foldl_cons];obtain⟨E1,h1⟩:=ih (minX r C hd (mget (limM r.li) (idxF C c:Nat)) st a);obtain⟨E2,h2⟩:=addQ_ext st.1 (C.getD a.t.toNat 0);refine⟨E2++E1,?_⟩;rw[h1];show addQ st.1 (C.getD a.t.toNat 0)++E1=_;rw[h2,Yz]
   obtain⟨Q',h1,h2,h3,E',h4⟩:=minN_can hO hCl hCb f (hd+1) _ _ _ _ (by omega) hst;obtain⟨E,hE⟩:=hE;exact⟨Q',h1,h2,h3,E++E',by rw[h4,hE,Yz]⟩
theorem minF_can {r:Mch} (hO:MOk r):∃Q,(minF r).n=(Q.length:Nat)/\(minF r).s=0/\1<=Q.length/\Q.length<=r.n.toNat/\CanI r (cls r).1 (cls r).2 Q.length Q (minF r).fin (minF r).mv (minF r).li:=by
 have hC:=cls_ok hO;have hs:=hO.s;obtain⟨c0,hc0⟩:=get_some (l:=(cls r).1) (i:=r.s.toNat) (by have:=hC.cl;omega);have hc0b:=hC.cb c0 (Yb hc0);have h0:CanI r (cls r).1 (cls r).2 0 [c0] [] [] []:=⟨⟨by simp,fun c hc=>by rw[Ye] at hc;omega⟩,by simp,rfl,rfl,fun i hi=>(by omega),fun t ht=>(by cases ht),fun i hi=>(by omega)⟩;have hn:=hO.n;have hcc:=hC.cc;obtain⟨Q,h1,h2,h3,E,h4⟩:=minN_can hO hC.cl hC.cb 202 0 [c0] [] [] [] (by omega) h0;unfold minF;rw[getD_some hc0];refine⟨Q,h1,h2,by rw[h4];simp,Yys h3.pq.le hcc,h3⟩
theorem mget_mset {α β:Type} [DecidableEq α] (a:α) (b:β) (s:α):∀l:List (α × β),mget (mset l a b) s=if a=s then some b else mget l s
 | []=>rfl
 | (x,y)::r=>by
  rw[mset];split
  .rename_i e;subst e;rw[mget,mget];split<;>rfl
  .rename_i e;rw[mget,mget,mget_mset a b s r];by_cases h:x=s
   .rw[if_pos h,if_pos h,if_neg (fun h2=>e (h.trans h2.symm))]
   .rw[if_neg h,if_neg h]
theorem limM_get (li:List To) (s:Int):mget (limM li) s=(li.filter fun t=>t.s=s).getLast?:=by
 have key:∀n,n<=li.length->mget (limM (li.take n)) s=((li.take n).filter fun t=>t.s=s).getLast?:=by
  intro n
  induction n with
  | zero=>intro _;rfl
  | succ n ih=>
   intro hn;obtain⟨t,ht⟩:=get_some (l:=li) (i:=n) (by omega);rw[limM_snoc ht,mget_mset,take_snoc ht,List.filter_append,ih (by omega)];by_cases e:t.s=s
   .rw[if_pos e,List.filter_cons_of_pos (by simpa using e)];simp
   .rw[if_neg e,List.filter_cons_of_neg (by simpa using e)];simp
 have:=key li.length (Yyt _)
 rwa [Yye] at this
structure MRaw (r:Mch):Prop where
 ok:MOk r
 so:r.mv.Pairwise mvLt
 l1:∀t∈r.li,∃y,r.mv[t.e.toNat]?=some y/\y.f=t.s
 l2:(r.li.map (·.s)).Nodup
theorem MRaw.one {r:Mch} (h:MRaw r) (s:Int):(r.li.filter fun t=>t.s=s)=match mget (limM r.li) s with | some t=>[t] | none=>[]:=by
 rw[limM_get];have hsub:((r.li.filter fun t=>t.s=s).map (·.s)).Nodup:=h.l2.sublist (List.filter_sublist.map _);have hall:∀t∈r.li.filter (fun t=>t.s=s),t.s=s:=fun t ht=>by simpa using (List.mem_filter.1 ht).2
 generalize r.li.filter (fun t=>t.s=s)=l at *
 match l,hsub,hall with
 | [],_,_=>rfl
 | [t],_,_=>rfl
 | a::b::l,hsub,hall=>
  exfalso;rw[Yyl,List.nodup_cons] at hsub;exact hsub.1 (by rw[hall a (Yx ..)];exact Yp.2 ⟨b,by simp,hall b (by simp)⟩)
theorem outIx_get {m:Mch} {s:Int}:(outIx m s).map (fun a=>m.mv[a]?)=(m.mv.filter fun x=>x.f=s).map some:=by
 have key:∀n,n<=m.mv.length->((List.range n).filter (outP m s)).map (fun a=>m.mv[a]?)=((m.mv.take n).filter fun x=>x.f=s).map some:=by
  intro n
  induction n with
  | zero=>intro _;rfl
  | succ n ih=>
   intro hn;obtain⟨x,hx⟩:=get_some (l:=m.mv) (i:=n) (by omega);have hp:outP m s n=decide (x.f=s):=by unfold outP;rw[hx]
   rw[List.range_succ,List.filter_append,Ym,ih (by omega),take_snoc hx,List.filter_append,Ym];congr 1;by_cases e:x.f=s
   .rw[List.filter_cons_of_pos (by rw[hp];exact decide_eq_true e),List.filter_cons_of_pos (by simpa using e)];simp[hx]
   .rw[List.filter_cons_of_neg (by rw[hp,decide_eq_false e];simp),List.filter_cons_of_neg (by simpa using e)];simp
 have:=key m.mv.length (Yyt _);rw[Yye] at this;exact this
theorem outIx_nth {m:Mch} {s:Int} {j a:Nat} (h:(outIx m s)[j]?=some a):∃x,m.mv[a]?=some x/\(m.mv.filter fun x=>x.f=s)[j]?=some x:=by
 have h1:=congrArg (·[j]?) (outIx_get (m:=m) (s:=s));simp only[Yd,h,Option.map_some] at h1;obtain⟨x,hx,h2⟩:=Yya.1 h1.symm;exact⟨x,h2.symm,hx⟩
theorem outIx_len {m:Mch} {s:Int}:(outIx m s).length=(m.mv.filter fun x=>x.f=s).length:=by
 have:=congrArg List.length (outIx_get (m:=m) (s:=s))
 rwa [Yc,Yc] at this
theorem flat_filter {rows:Nat->List Mv} (h:∀k,∀y∈rows k,y.f=(k:Int)) (i:Nat):∀n,((List.range n).flatMap rows).filter (fun y=>y.f=(i:Int))=if i<n then rows i else []
 | 0=>rfl
 | n+1=>by
  rw[List.range_succ,List.flatMap_append,List.filter_append,flat_filter h i n,List.flatMap_singleton];by_cases e:i=n
  .subst e;rw[if_neg (by omega),if_pos (by omega),List.nil_append,List.filter_eq_self.2 fun y hy=>by simpa using h i y hy]
  .have:(rows n).filter (fun y=>y.f=(i:Int))=[]:=by
    rw[List.filter_eq_nil_iff];intro y hy;have:=h n y hy;simp only[decide_eq_true_eq];omega
   rw[this,Yw];by_cases e2:i<n
   .rw[if_pos e2,if_pos (by omega)]
   .rw[if_neg e2,if_neg (by omega)]
theorem filter_k {l:List Sg} {k:Int} (h:∀s∈l,s.k=k) (k':Int):l.filter (fun s=>s.k=k')=if k=k' then l else []:=by
 by_cases e:k=k'
 .rw[if_pos e,List.filter_eq_self];intro s hs;have:=h s hs;simp[this,e]
 .rw[if_neg e,List.filter_eq_nil_iff];intro s hs;have:=h s hs;simp[this,e]
theorem keyS_parts {m:Mch} {D D':List Nat} {x y:Nat} (h:keyS m D x=keyS m D' y):(outM m x).map (sgM D)=(outM m y).map (sgM D')/\((m.li.filter fun t=>t.s=(x:Int)).map (sgL m.mv))=((m.li.filter fun t=>t.s=(y:Int)).map (sgL m.mv))/\sgB D m.fin x=sgB D' m.fin y:=by
 have h2:∀(D:List Nat) (x:Nat),∀s∈((m.mv.filter fun y=>y.f=(x:Int)).map (sgM D)).reverse,s.k=2:=fun D x s hs=>by
  rw[List.mem_reverse] at hs;obtain⟨_,_,rfl⟩:=Yp.1 hs;rfl
 have h1:∀(x:Nat),∀s∈((m.li.filter fun t=>t.s=(x:Int)).map (sgL m.mv)).reverse,s.k=1:=fun x s hs=>by
  rw[List.mem_reverse] at hs;obtain⟨_,_,rfl⟩:=Yp.1 hs;rfl
 have h0:∀(D:List Nat) (x:Nat),∀s∈[sgB D m.fin x],s.k=0:=fun D x s hs=>by
  rw[Ye] at hs;subst hs;rfl
 have cut:∀(D:List Nat) (x:Nat) (k:Int),(keyS m D x).filter (fun s=>s.k=k)=(if (2:Int)=k then ((m.mv.filter fun y=>y.f=(x:Int)).map (sgM D)).reverse else [])++((if (1:Int)=k then ((m.li.filter fun t=>t.s=(x:Int)).map (sgL m.mv)).reverse else [])++(if (0:Int)=k then [sgB D m.fin x] else [])):=by
  intro D x k;unfold keyS keyH;rw[List.filter_append,List.filter_append,filter_k (h2 D x),filter_k (h1 x),filter_k (h0 D x)]
 refine⟨?_,?_,?_⟩
 .have:=congrArg (List.filter fun s=>s.k=(2:Int)) h;rw[cut,cut] at this;simpa [outM] using this
 .have:=congrArg (List.filter fun s=>s.k=(1:Int)) h;rw[cut,cut] at this;simpa using this
 .have:=congrArg (List.filter fun s=>s.k=(0:Int)) h;rw[cut,cut] at this;simpa using this
theorem keyS_mk {m:Mch} {D:List Nat} {x y:Nat} (h1:(outM m x).map (sgM D)=(outM m y).map (sgM D)) (h2:((m.li.filter fun t=>t.s=(x:Int)).map (sgL m.mv))=((m.li.filter fun t=>t.s=(y:Int)).map (sgL m.mv))) (h3:sgB D m.fin x=sgB D m.fin y):keyS m D x=keyS m D y:=by
 unfold keyS keyH;unfold outM at h1;rw[h1,h2,h3]
theorem outM_sorted {r:Mch} (hS:r.mv.Pairwise mvLt) (s:Nat):(outM r s).Pairwise mvLt:=hS.filter _
theorem outM_f {r:Mch} {s:Nat} {x:Mv} (h:x∈outM r s):x∈r.mv/\x.f=(s:Int):=by
 unfold outM at h;rw[List.mem_filter] at h;exact⟨h.1,by simpa using h.2⟩
theorem can_row {r:Mch} {C:List Nat} {cnt:Nat} {Q:List Nat} {fin:List Bool} {mv:List Mv} {li:List To} (h:CanI r C cnt Q.length Q fin mv li) {i:Nat} (hi:i<Q.length):mv.filter (fun y=>y.f=(i:Int))=(outM r (repQ C Q i)).map (mvQ C Q i):=by
 rw[h.pm,flat_filter (fun k y hy=>by obtain⟨x,_,rfl⟩:=Yp.1 hy;rfl) i,if_pos hi]
theorem mgood {r:Mch} (hR:MRaw r):MGood (minF r):=by
 obtain⟨Q,h1,h2,h3,h4,hc⟩:=minF_can hR.ok;have hn:=hR.ok.n;refine⟨by rw[h1];omega,by rw[h1,h2];omega,by rw[hc.pf,Yc,Yyd,h1];omega,fun x hx=>?_,fun t ht=>?_,?_⟩
 .rw[hc.pm] at hx;obtain⟨i,hi,h5⟩:=List.mem_flatMap.1 hx;have hi:=List.mem_range.1 hi;obtain⟨y,hy,rfl⟩:=Yp.1 h5;have:=idxF_lt (hc.pt i hi y hy);rw[h1];unfold mvQ;simp only;omega
 .obtain⟨i,x,hi,h5,h6,h7,h8,t0,y,h9,h10,h11,h12⟩:=hc.p1 t ht;have:=(Ya.1 h8).1;refine⟨by omega,by rw[h1];omega,h7,by omega,_,h8,?_⟩;rw[h5];rfl
 .rw[hc.pm,List.pairwise_flatMap];refine⟨fun i hi=>?_,?_⟩
  .rw[List.pairwise_map];refine (List.Pairwise.imp_of_mem ?_ (outM_sorted hR.so (repQ (cls r).1 Q i)));intro a b ha hb hab;have fa:=(outM_f ha).2;have fb:=(outM_f hb).2;rcases hab with h | ⟨_,h⟩
   .omega
   .exact .inr ⟨rfl,h⟩
  .refine List.Pairwise.imp ?_ (List.pairwise_lt_range (n:=Q.length));intro i k hik x hx y hy;obtain⟨x',_,rfl⟩:=Yp.1 hx;obtain⟨y',_,rfl⟩:=Yp.1 hy;exact .inl (show (i:Int)<(k:Int) by omega)
theorem limI_none {li:List To} {s:Int} (h:limI li s=none):∀t∈li,t.s≠s:=by
 unfold limI at h;rw[List.findIdx?_eq_none_iff] at h;intro t ht;have:=h t ht;simpa using this
theorem hmin {r:Mch} (hR:MRaw r):HMin (minF r):=by
 obtain⟨Q,h1,h2,h3,h4,hc⟩:=minF_can hR.ok;have hn:=hR.ok.n;have hC:=cls_ok hR.ok;obtain⟨N,hN1,hN2,hN3⟩:=cls_stable hR.ok;have hml:=hR.ok.mv;intro B hB;have hlt:∀i:Nat,(i:Int)<(minF r).n ↔ i<Q.length:=fun i=>by rw[h1];omega
 have hpl:∀x c:Nat,x<r.n.toNat->(cls r).1[x]?=some c->c∈Q->∃i s:Nat,i<Q.length/\i=idxF Q c/\s=repQ (cls r).1 Q i/\s<r.n.toNat/\keyS r (itC r N) x=keyS r (itC r N) s:=by
  intro x c hx hc0 hcQ;refine⟨idxF Q c,idxF (cls r).1 c,idxF_lt hcQ,rfl,?_,?_,?_⟩
  .unfold repQ;rw[getD_some (idxF_get hcQ)]
  .have:=idxF_lt (Yb hc0);rw[hC.cl] at this;exact this
  .refine hN3 _ _ hx (by have:=idxF_lt (Yb hc0);rw[hC.cl] at this;exact this) ?_;rw[hc0,idxF_get (Yb hc0)]
 have main:∀k x y c d:Nat,x<r.n.toNat->y<r.n.toNat->(cls r).1[x]?=some c->(cls r).1[y]?=some d->c∈Q->d∈Q->B (idxF Q c) (idxF Q d)=true->(itC r k)[x]?=(itC r k)[y]?:=by
  intro k
  induction k with
  | zero=>intro x y c d hx hy _ _ _ _ _;rw[itC,List.getElem?_replicate,List.getElem?_replicate,if_pos hx,if_pos hy]
  | succ k ih=>
   intro x y c d hx hy hxc hyd hcQ hdQ hb;refine itC_step hx hy ?_;have ihxy:=ih x y c d hx hy hxc hyd hcQ hdQ hb;obtain⟨i,s1,hi,rfl,hs1,hs1n,hk1⟩:=hpl x c hx hxc hcQ;obtain⟨l,s2,hl,rfl,hs2,hs2n,hk2⟩:=hpl y d hy hyd hdQ;generalize idxF Q c=i at *;generalize idxF Q d=l at *;obtain⟨hbase,hstep⟩:=hB i l ((hlt i).2 hi) ((hlt l).2 hl) hb;obtain⟨p1,p2,p3⟩:=keyS_parts hk1;obtain⟨q1,q2,q3⟩:=keyS_parts hk2;unfold base at hbase;rw[Yt] at hbase;obtain⟨hfin,hlim⟩:=hbase;have hfin:=Yyn hfin;have hgf:∀i:Nat,i<Q.length->(minF r).fin.getD i false=r.fin.getD (repQ (cls r).1 Q i) false:=fun i hi=>by
    refine getD_some ?_;rw[hc.pf,Yd,Yyb hi];rfl
   rw[hgf i hi,hgf l hl,<-hs1,<-hs2] at hfin;have hrow:∀i:Nat,i<Q.length->(minF r).mv.filter (fun y=>y.f=(i:Int))=(outM r (repQ (cls r).1 Q i)).map (mvQ (cls r).1 Q i):=fun i hi=>can_row hc hi;obtain⟨hlen,hst⟩:=hstep;rw[outIx_len,outIx_len,hrow i hi,hrow l hl,Yc,Yc,<-hs1,<-hs2] at hlen;have hpair:∀(j:Nat) (a b:Mv),(outM r s1)[j]?=some a->(outM r s2)[j]?=some b->sameMv (mvQ (cls r).1 Q i a) (mvQ (cls r).1 Q l b)=true/\B (idxF Q ((cls r).1.getD a.t.toNat 0)) (idxF Q ((cls r).1.getD b.t.toNat 0))=true:=by
    intro j a b ha hb';have h5:((minF r).mv.filter (fun y=>y.f=(i:Int)))[j]?=some (mvQ (cls r).1 Q i a):=by rw[hrow i hi,<-hs1,Yd,ha];rfl
    have h6:((minF r).mv.filter (fun y=>y.f=(l:Int)))[j]?=some (mvQ (cls r).1 Q l b):=by rw[hrow l hl,<-hs2,Yd,hb'];rfl
    obtain⟨u,hu⟩:=get_some (l:=outIx (minF r) i) (i:=j) (by rw[outIx_len];exact (Ya.1 h5).1);obtain⟨v,hv⟩:=get_some (l:=outIx (minF r) l) (i:=j) (by rw[outIx_len];exact (Ya.1 h6).1);obtain⟨xu,hxu,h7⟩:=outIx_nth hu;obtain⟨xv,hxv,h8⟩:=outIx_nth hv;rw[h5] at h7;cases h7;rw[h6] at h8;cases h8;have:=hst j u v _ _ hu hv hxu hxv;refine⟨this.1,?_⟩;have h9:=this.2;unfold mvQ at h9;simpa using h9
   refine keyS_mk ?_ ?_ ?_
   .-- moves
    have lx:(outM r x).length=(outM r s1).length:=by have:=congrArg List.length p1;rwa [Yc,Yc] at this
    have ly:(outM r y).length=(outM r s2).length:=by have:=congrArg List.length q1;rwa [Yc,Yc] at this
    apply Yyr;intro j;rw[Yd,Yd];by_cases hj:j<(outM r x).length
    .obtain⟨u,hu⟩:=get_some (l:=outM r x) (i:=j) hj;obtain⟨v,hv⟩:=get_some (l:=outM r y) (i:=j) (by omega);obtain⟨a,ha⟩:=get_some (l:=outM r s1) (i:=j) (by omega);obtain⟨b,hb'⟩:=get_some (l:=outM r s2) (i:=j) (by omega);have e1:sgM (itC r N) u=sgM (itC r N) a:=by
      have:=congrArg (·[j]?) p1;simp only[Yd,hu,ha,Option.map_some,Option.some.injEq] at this;exact this
     have e2:sgM (itC r N) v=sgM (itC r N) b:=by
      have:=congrArg (·[j]?) q1;simp only[Yd,hv,hb',Option.map_some,Option.some.injEq] at this;exact this
     obtain⟨hsm,hBab⟩:=hpair j a b ha hb';have mu:=hml u (outM_f (Yb hu)).1;have mv':=hml v (outM_f (Yb hv)).1;have ma:=hml a (outM_f (Yb ha)).1;have mb:=hml b (outM_f (Yb hb')).1;have tgt:∀p q:Mv,(0<=p.t/\p.t<r.n)->(0<=q.t/\q.t<r.n)->sgM (itC r N) p=sgM (itC r N) q->p.ev=q.ev/\p.ag=q.ag/\(cls r).1[p.t.toNat]?=(cls r).1[q.t.toNat]?:=by
      intro p q hp hq e;unfold sgM at e;simp only[Sg.mk.injEq,true_and] at e;refine⟨e.1,e.2.1,?_⟩;refine (hN2 p.t.toNat q.t.toNat (by omega) (by omega)).2 ?_;obtain⟨z,hz⟩:=get_some (l:=itC r N) (i:=p.t.toNat) (by rw[itC_len];omega);obtain⟨w,hw⟩:=get_some (l:=itC r N) (i:=q.t.toNat) (by rw[itC_len];omega);have e3:=e.2.2;rw[getD_some hz,getD_some hw] at e3;rw[hz,hw];congr 1;omega
     obtain⟨eu1,eu2,eu3⟩:=tgt u a ⟨mu.2.2.1,mu.2.2.2.1⟩ ⟨ma.2.2.1,ma.2.2.2.1⟩ e1;obtain⟨ev1,ev2,ev3⟩:=tgt v b ⟨mv'.2.2.1,mv'.2.2.2.1⟩ ⟨mb.2.2.1,mb.2.2.2.1⟩ e2;obtain⟨ca,hca⟩:=get_some (l:=(cls r).1) (i:=a.t.toNat) (by rw[hC.cl];omega);obtain⟨cb,hcb⟩:=get_some (l:=(cls r).1) (i:=b.t.toNat) (by rw[hC.cl];omega);have hcaQ:ca∈Q:=by have:=hc.pt i hi a (by rw[<-hs1];exact Yb ha);rwa [getD_some hca] at this
     have hcbQ:cb∈Q:=by have:=hc.pt l hl b (by rw[<-hs2];exact Yb hb');rwa [getD_some hcb] at this
     rw[getD_some hca,getD_some hcb] at hBab;have hit:=ih u.t.toNat v.t.toNat ca cb (by omega) (by omega) (by rw[eu3];exact hca) (by rw[ev3];exact hcb) hcaQ hcbQ hBab;unfold sameMv mvQ at hsm;simp only[decide_eq_true_eq] at hsm;have hab:a.ev=b.ev:=ev_ext hsm.1 hsm.2.1 hsm.2.2.1;rw[hu,hv,Option.map_some,Option.map_some];congr 1;unfold sgM;rw[eu1,ev1,hab,eu2,ev2,hsm.2.2.2];congr 2;rw[Yo,Yo,hit]
    .rw[Yl (by omega),Yl (by omega)]
   .-- limits
    rw[p2,q2,hR.one,hR.one];have hfindS:∀ {i:Nat},i<Q.length->∀t0,mget (limM r.li) ((repQ (cls r).1 Q i:Nat):Int)=some t0->∃idx,limI (minF r).li (i:Int)=some idx:=by
     intro i hi t0 h0;have htm:=limM_mem (mget_mem h0);obtain⟨y0,hy0,hyf⟩:=hR.l1 t0 htm.1;obtain⟨t,ht,hts⟩:=hc.p2 i hi t0 y0 h0 hy0 ⟨y0,by unfold outM;exact List.mem_filter.2 ⟨Yb hy0,by simp only[decide_eq_true_eq];rw[hyf];exact htm.2⟩,rfl⟩;cases hl:limI (minF r).li (i:Int) with
     | some idx=>exact⟨idx,rfl⟩
     | none=>exact absurd hts (limI_none hl t ht)
    have hfindL:∀ {i idx:Nat},i<Q.length->limI (minF r).li (i:Int)=some idx->∃t x,(minF r).li[idx]?=some t/\LimOf r (cls r).1 Q (minF r).mv t i x:=by
     intro i idx hi h0;obtain⟨t,ht,hts⟩:=limI_lt h0;obtain⟨i',x,hi',hL⟩:=hc.p1 t (Yb ht);have:i'=i:=by have:=hL.1;omega
     subst this;exact⟨t,x,ht,hL⟩
    rw[hs1,hs2];unfold sameLim at hlim;cases h0:mget (limM r.li) ((repQ (cls r).1 Q i:Nat):Int) with
    | none=>
     cases h0':mget (limM r.li) ((repQ (cls r).1 Q l:Nat):Int) with
     | none=>rfl
     | some t0'=>
      exfalso;obtain⟨idx,hidx⟩:=hfindS hl t0' h0';rw[hidx] at hlim;cases h5:limI (minF r).li (i:Int) with
      | none=>rw[h5] at hlim;cases hlim
      | some idx2=>
       obtain⟨t,x,_,hL⟩:=hfindL hi h5;obtain⟨_,_,_,_,t0,_,h6,_⟩:=hL;rw[h0] at h6;cases h6
    | some t0=>
     obtain⟨idx,hidx⟩:=hfindS hi t0 h0;cases h0':mget (limM r.li) ((repQ (cls r).1 Q l:Nat):Int) with
     | none=>
      exfalso;rw[hidx] at hlim;cases h5:limI (minF r).li (l:Int) with
      | none=>rw[h5] at hlim;cases hlim
      | some idx2=>
       obtain⟨t,x,_,hL⟩:=hfindL hl h5;obtain⟨_,_,_,_,t0,_,h6,_⟩:=hL;rw[h0'] at h6;cases h6
     | some t0'=>
      obtain⟨idx',hidx'⟩:=hfindS hl t0' h0';obtain⟨t,xx,ht,hL⟩:=hfindL hi hidx;obtain⟨t',xx',ht',hL'⟩:=hfindL hl hidx';obtain⟨_,_,_,g4,u0,y0,g5,g6,g7,g8⟩:=hL;obtain⟨_,_,_,g4',u0',y0',g5',g6',g7',g8'⟩:=hL';rw[h0] at g5;cases g5;rw[h0'] at g5';cases g5';simp only[hidx,hidx',ht,ht',g4,g4'] at hlim;rw[Yt] at hlim;have hk:=Yyn hlim.1;have hsm:=hlim.2;unfold sameMv mvQ at hsm;simp only[decide_eq_true_eq] at hsm;have hev:xx.ev=xx'.ev:=ev_ext hsm.1 hsm.2.1 hsm.2.2.1;show [sgL r.mv t0]=[sgL r.mv t0'];unfold sgL;rw[g6,g6',<-g7,<-g7',hk];simp only;rw[<-g8,<-g8',hev]
   .-- finals
    unfold sgB at p3 q3 ⊢;simp only[Sg.mk.injEq,true_and,and_true] at p3 q3 ⊢;refine⟨?_,?_⟩
    .rw[Yo,Yo,ihxy]
    .rw[p3.2,q3.2,hfin]
 intro i l hi hl hb;have hi:=(hlt i).1 hi;have hl:=(hlt l).1 hl;obtain⟨c,hc1⟩:=get_some (l:=Q) (i:=i) hi;obtain⟨d,hd1⟩:=get_some (l:=Q) (i:=l) hl;have hcQ:=Yb hc1;have hdQ:=Yb hd1;have hci:=hC.cs c (hc.pq.lt c hcQ);have hdi:=hC.cs d (hc.pq.lt d hdQ);have ix:∀ {i c:Nat},Q[i]?=some c->idxF Q c=i:=fun {i c} h=>by
  have hm:=Yb h;exact (List.getElem?_inj (idxF_lt hm) hc.pq.nd).1 ((idxF_get hm).trans h.symm)
 have:=main (N+1) (idxF (cls r).1 c) (idxF (cls r).1 d) c d (by have:=idxF_lt hci;rw[hC.cl] at this;exact this) (by have:=idxF_lt hdi;rw[hC.cl] at this;exact this) (idxF_get hci) (idxF_get hdi) hcQ hdQ (by rw[ix hc1,ix hd1];exact hb);rw[<-hN1,idxF_get hci,idxF_get hdi] at this;have hcd:=Yyp this;subst hcd;rw[<-ix hc1,<-ix hd1]
end Go.VC
end

section
namespace Go.VC
open Go.Proofs Go.LexS
theorem limR_facts {n:Nat} {o:Ti} {M:List Mv} (hM:M.Pairwise mvLt):(limR n o M).length<=1/\∀t∈limR n o M,t.s=(n:Int)/\∃y,M[t.e.toNat]?=some y/\y.f=(n:Int):=by
 have hmem:∀t∈limR n o M,t.s=(n:Int)/\∃(i:Nat) (y:Mv),t.e=(i:Int)/\M[i]?=some y/\y.f=(n:Int)/\y.ev=o.x:=by
  intro t ht;unfold limR at ht;obtain⟨q,hq,h2⟩:=Yym.1 ht;obtain⟨y,i⟩:=q;rw[List.mem_zipIdx_iff_getElem?] at hq;unfold limC at h2;split at h2
  .rename_i hc;cases h2;refine⟨rfl,i,y,rfl,hq,hc.1,?_⟩;rw[hc.2.2.2];exact ev_ext hc.2.1 rfl rfl
  .cases h2
 refine⟨?_,fun t ht=>?_⟩
 .have key:∀k,k<=M.length->((M.take k).zipIdx.filterMap (limC n o)).length<=1/\((∃i y,i<k/\M[i]?=some y/\limC n o (y,i)≠none)\/(M.take k).zipIdx.filterMap (limC n o)=[]):=by
   intro k
   induction k with
   | zero=>intro _;exact⟨by simp,.inr rfl⟩
   | succ k ih=>
    intro hk;obtain⟨y,hy⟩:=get_some (l:=M) (i:=k) (by omega);obtain⟨h1,h2⟩:=ih (by omega);rw[zip_snoc hy,List.filterMap_append];cases hl:limC n o (y,k) with
    | none=>
     have e:[(y,k)].filterMap (limC n o)=[]:=by simp[hl]
     rw[e,Yw];refine⟨h1,?_⟩;rcases h2 with ⟨i,z,hi,h3,h4⟩ | h2
     .exact .inl ⟨i,z,by omega,h3,h4⟩
     .exact .inr h2
    | some t=>
     have e:[(y,k)].filterMap (limC n o)=[t]:=by simp[hl]
     rw[e];rcases h2 with ⟨i,z,hi,h3,h4⟩ | h2
     .exfalso;have hz:z.f=(n:Int)/\z.ev=o.x:=by
       unfold limC at h4;split at h4
       .rename_i hc;exact⟨hc.1,by rw[hc.2.2.2];exact ev_ext hc.2.1 rfl rfl⟩
       .exact absurd rfl h4
      have hyy:y.f=(n:Int)/\y.ev=o.x:=by
       unfold limC at hl;split at hl
       .rename_i hc;exact⟨hc.1,by rw[hc.2.2.2];exact ev_ext hc.2.1 rfl rfl⟩
       .cases hl
      rcases mvLt_get hM hi h3 hy with h5 | ⟨_,h5⟩
      .omega
      .rw[hz.2,hyy.2] at h5;exact evLt_irr _ h5
     .rw[h2];exact⟨by simp,.inl ⟨k,y,by omega,hy,by rw[hl];simp⟩⟩
  have:=(key M.length (Yyt _)).1;rw[Yye] at this;exact this
 .obtain⟨h1,i,y,h2,h3,h4,_⟩:=hmem t ht;exact⟨h1,y,by rw[h2,Ys];exact h3,h4⟩
theorem rawL_lims {vw:List Nat->Option Ti}:∀(n:Nat) (S:List PSet) (M:List Mv) (L:List To) {M':List Mv} {L':List To},M.Pairwise mvLt->(L.map (·.s)).Nodup->(∀t∈L,t.s<(n:Int)/\∃y,M[t.e.toNat]?=some y/\y.f=t.s)->rawL vw n S M L=some (M',L') ->
  (L'.map (·.s)).Nodup/\∀t∈L',∃y,M'[t.e.toNat]?=some y/\y.f=t.s
 | n,[],M,L,M',L',_,hL,hl,h=>by cases h;exact⟨hL,fun t ht=>(hl t ht).2⟩
 | n,p::S,M,L,M',L',hM,hL,hl,h=>by
  rw[rawL] at h;cases hv:vw (elems p) with
  | none=>rw[hv] at h;cases h
  | some o=>
   rw[hv] at h;replace h:rawL vw (n+1) S (M.map (updR n o)) (L++limR n o M)=some (M',L'):=h;have hup:∀x,(updR n o x).f=x.f/\(updR n o x).ev=x.ev:=fun x=>by
    obtain⟨h1,h2,h3,h4,h5⟩:=updR_same n o x;exact⟨h1,by unfold Mv.ev;rw[h2,h3,h4]⟩
   obtain⟨f1,f2⟩:=limR_facts (n:=n) (o:=o) hM;refine rawL_lims (n+1) S (M.map (updR n o)) (L++limR n o M) ?_ ?_ ?_ h
   .rw[List.pairwise_map];refine hM.imp fun {a b} hab=>?_;unfold mvLt at hab ⊢;rw[(hup a).1,(hup b).1,(hup a).2,(hup b).2];exact hab
   .rw[Ym,List.nodup_append];refine⟨hL,?_,fun a ha b hb e=>?_⟩
    .generalize limR n o M=l at f1
     match l,f1 with
     | [],_=>simp
     | [a],_=>simp
    .obtain⟨t,ht,rfl⟩:=Yp.1 ha;obtain⟨u,hu,rfl⟩:=Yp.1 hb;have h5:=(hl t ht).1;have h6:=(f2 u hu).1;omega
   .intro t ht;have get:∀ {i:Nat} {y:Mv},M[i]?=some y->(M.map (updR n o))[i]?=some (updR n o y):=fun h=>by rw[Yd,h];rfl
    rcases Yk.1 ht with ht | ht
    .obtain⟨h5,y,h6,h7⟩:=hl t ht;exact⟨by omega,_,get h6,by rw[(hup y).1];exact h7⟩
    .obtain⟨h5,y,h6,h7⟩:=f2 t ht;exact⟨by omega,_,get h6,by rw[(hup y).1,h7,h5]⟩
theorem raw_raw {g:Gl} {role:Int} {m:Mch} (hr:g.rs.length<=1048576) (hd:g.ds.length<=1048576) (h:raw g role=(some m,0)):MRaw m:=by
 obtain⟨hO,hS⟩:=raw_ok hr hd h;refine⟨hO,hS,?_,?_⟩;all_goals
  unfold raw at h;split at h
  .cases h
  .rename_i hv;obtain⟨hV,hr0,hr1⟩:=Decidable.not_not.1 hv;cases hw:views g role with
   | none=>rw[hw] at h;cases h
   | some q=>
    obtain⟨S,M⟩:=q;rw[hw] at h;replace h:(if M.length>400 then ((none,6):Option Mch × Int) else
     match rawL (vwG g role) 0 S M [] with
     | none=>(none,18)
     | some (M',L)=>(some ⟨role,S.length,0,S.map (fun p=>p g.e.toNat),M',L⟩,0))=(some m,0):=h
    split at h
    .cases h
    .cases hl:rawL (vwG g role) 0 S M [] with
     | none=>rw[hl] at h;cases h
     | some q=>
      obtain⟨M',L⟩:=q;rw[hl] at h;cases h;have:=rawL_lims 0 S M [] (views_vi hV hw).1.so List.nodup_nil (fun t ht=>by cases ht) hl;first | exact this.2 | exact this.1
theorem minF_lens {r:Mch} (hR:MRaw r):(minF r).mv.length<=1048576/\(minF r).li.length<=1048576:=by
 have key:∀(f hd:Nat) (Q:List Nat) (fin:List Bool) (mv:List Mv) (li:List To),mv.length<=hd*400->li.length<=hd*400->hd<=202-f->f<=202->(minN r (cls r).1 f hd Q fin mv li).mv.length<=80800/\(minN r (cls r).1 f hd Q fin mv li).li.length<=80800:=by
  intro f
  induction f with
  | zero=>intro hd Q fin mv li h1 h2 h3 _;rw[minN];have:hd*400<=80800:=(by omega);exact⟨Yys h1 this,Yys h2 this⟩
  | succ f ih=>
   intro hd Q fin mv li h1 h2 h3 hf;rw[minN];cases hq:Q[hd]? with
   | none=>have:hd*400<=80800:=(by omega);exact⟨Yys h1 this,Yys h2 this⟩
   | some c=>
    have hfold:∀(l:List Mv) (tl:Option To) (st:List Nat × List Mv × List To),(l.foldl (minX r (cls r).1 hd tl) st).2.1.length=st.2.1.length+l.length/\(l.foldl (minX r (cls r).1 hd tl) st).2.2.length<=st.2.2.length+l.length:=by
     intro l tl
     induction l with
     | nil=>intro st;exact⟨rfl,Yyt _⟩
     | cons a l ih2=>
      intro st;rw[List.foldl_cons,Yyj];have h4:=ih2 (minX r (cls r).1 hd tl st a);have h5:=minX_len r (cls r).1 hd tl st a;omega
    have hout:(outM r (idxF (cls r).1 c)).length<=400:=Yys (List.length_filter_le _ _) hR.ok.ml;have h6:=hfold (outM r (idxF (cls r).1 c)) (mget (limM r.li) (idxF (cls r).1 c:Nat)) (Q,mv,li);simp only at h6;exact ih (hd+1) _ _ _ _ (by omega) (by omega) (by omega) (by omega)
 have:=key 202 0 [(cls r).1.getD r.s.toNat 0] [] [] [] (by simp) (by simp) (by omega) (by omega);unfold minF;omega
theorem proj_law {g:Gl} {role:Int} (hr:g.rs.length<=1048576) (hd:g.ds.length<=1048576):∀m,proj g role=(some m,0)->MGood m/\HMin m/\m.mv.length<=1048576/\m.li.length<=1048576:=by
 intro m h;unfold proj at h;cases hw:raw g role with
 | mk o e=>
  rw[hw] at h;cases o with
  | none=>cases h
  | some r=>
   cases h;have he:raw g role=(some r,0):=by
    rw[hw];unfold raw at hw;congr 1;split at hw
    .cases hw
    .split at hw
     .cases hw
     .split at hw
      .cases hw
      .split at hw
       .cases hw
       .cases hw;rfl
   have hR:=raw_raw hr hd he;have hl:=minF_lens hR;exact⟨mgood hR,hmin hR,hl.1,hl.2⟩
theorem letter199 (b:UInt8) (h:Heap):Fn Pz 199 #[.int .u8 b.toNat] h fun v h'=>v=.bool (lt b)/\h'=h:=by
 apply vc199;unfold W199;unfold lt isLetter;generalize (b.toNat:Int)=n
 repeat' first
  | refine sBi (fun _=>?_) (fun _=>?_)
 all_goals
  refine⟨?_,rfl⟩;congr 1;rw[Bool.eq_iff_iff];simp only[Bool.or_eq_true,Yt,decide_eq_true_eq,Bool.false_eq_true,true_iff,false_iff];omega
theorem digit240 (b:UInt8) (h:Heap):Fn Pz 240 #[.int .u8 b.toNat] h fun v h'=>v=.bool (dg b)/\h'=h:=by
 apply vc240;unfold W240;unfold dg isDigit;refine sBi (fun c=>⟨?_,rfl⟩) (fun c=>⟨?_,rfl⟩)
 .rw[decide_eq_true (p:=(48:Int)<=b.toNat) c,Bool.true_and]
 .rw[decide_eq_false (p:=(48:Int)<=b.toNat) c,Bool.false_and]
theorem inner200 (b:UInt8) (h:Heap):Fn Pz 200 #[.int .u8 b.toNat] h fun v h'=>v=.bool (inn b)/\h'=h:=by
 apply vc200;unfold W200;refine (letter199 b h).mono ?_;rintro _ h3 ⟨rfl,rfl⟩;refine⟨_,rfl,sB_intro (fun c=>?_) (fun c=>?_)⟩
 .exact⟨by rw[show inn b=(lt b||dg b||((b.toNat:Int)==95)) from rfl,c];rfl,rfl⟩
 .refine (digit240 b _).mono ?_;rintro _ h6 ⟨rfl,rfl⟩;refine⟨_,rfl,sB_intro (fun d=>?_) (fun d=>?_)⟩
  .exact⟨by rw[show inn b=(lt b||dg b||((b.toNat:Int)==95)) from rfl,c,d];rfl,rfl⟩
  .exact⟨by rw[show inn b=(lt b||dg b||((b.toNat:Int)==95)) from rfl,c,d];rfl,rfl⟩
theorem isName152 (s:ByteArray) (h:Heap):Fn Pz 152 #[.string s] h fun v h'=>v=.bool (isName s.data.toList)/\h'=h:=by
 apply vc152;unfold W152;have hsz:=size_len s;rw[strEq];generalize hL:s.data.toList=L at *;refine sB_intro (fun he=>?_) (fun he=>?_)
 .have:L=[]:=Yyn he;subst this;exact⟨rfl,rfl⟩
 .have hne:L≠[]:=Yyo he;have hpos:0<L.length:=List.length_pos_iff.2 hne;obtain⟨b,hb,hby⟩:=byte_get (s:=s) (i:=0) (by omega);rw[hL] at hb;have hcons:L=b::L.drop 1:=by have:=drop_cons hb;rwa [List.drop_zero] at this
  have hdef:isName L=(decide (L.length<=16)&&lt b&&L.all inn):=by
   conv=>lhs;rw[hcons]
   rw[isName,<-hcons]
  rw[hdef];refine⟨⟨by omega,by omega⟩,?_⟩;rw[show Int.toNat 0=0 from rfl,hby];refine (letter199 _ _).mono ?_;rintro v h3 ⟨rfl,rfl⟩;refine⟨_,rfl,sB_intro (fun hlet=>?_) (fun hlet=>?_)⟩
  .refine⟨?_,rfl⟩;rw[show lt b=false from by rw[Bool.not_eq_true'] at hlet;exact hlet,Bool.and_false];rfl
  rw[show lt b=true from by rw[Bool.not_eq_false'] at hlet;exact hlet];refine sB_intro (fun hgt=>?_) (fun hgt=>?_)
  .refine⟨?_,rfl⟩;rw[decide_eq_false (by have:=Yyn hgt;omega)];rfl
  .have h16:L.length<=16:=by have:=Yyo hgt;omega
   rw[decide_eq_true h16];refine up_loop (n:=s.size) (fun i h'=>h'=h3/\∀(j:Nat) (b:UInt8),j<i->L[j]?=some b->(!inn b)=false) ⟨rfl,fun j b hj=>by omega⟩ ?_;rintro-i h8 hi ⟨rfl,hd⟩;refine sB_intro (fun hlt=>?_) (fun hge=>?_)
   .have hlt':=lt_t hlt;obtain⟨y,hy,hby2⟩:=byte_get hlt';rw[hL] at hy;refine⟨⟨by omega,by omega⟩,?_⟩;rw[show Int.toNat (i:Int)=i from rfl,hby2];refine (inner200 _ _).mono ?_;rintro v h11 ⟨rfl,rfl⟩;refine⟨_,rfl,sB_intro (fun hp=>?_) (fun hp=>?_)⟩
    .refine⟨?_,rfl⟩;have:L.all inn=false:=by
      rw[<-Bool.not_eq_true,all_split];intro hh;have:=hh y i hy;rw[Bool.not_eq_true'] at hp;rw[show inn y=false from hp] at this;cases this
     rw[this];rfl
    .exact Up.next hlt' (by omega) ⟨rfl,scan_next (p:=fun b=>!inn b) hy hp hd⟩
   .have hge':=lt_f hge;refine⟨?_,rfl⟩;rw[(all_split inn L).2 fun b j hb=>by simpa using hd j b (by have:=(Ya.1 hb).1;omega) hb];rfl
theorem in153 (l:List Nm) (s:Sl) (x:ByteArray) (h:Heap) (hr:Rw h 1 s (l.map nmC)) (hm:l.length<=1048576):Fn Pz 153 #[.slice s.a s.n s.c,.string x] h fun v h'=>v=.bool (decide (x.data.toList∈l))/\h'=h:=by
 apply vc153;unfold W153;have hn:=hr.ln;refine up_loop (n:=s.n) (fun i h'=>h'=h/\x.data.toList∉l.take i) ⟨rfl,fun e=>by simp at e⟩ ?_;rintro-i h8 hi ⟨rfl,hd⟩;refine sB_intro (fun c=>?_) (fun c=>?_)
 .replace c:=lt_t c;refine hr.nbI (by omega) (by omega) fun b o d g t=>?_;replace g:l[i]?=some d:=g;refine⟨_,t.hd,?_⟩;rw[strEq,bs_list];refine sB_intro (fun he=>?_) (fun hne=>?_)
  .replace he:=Yyn he;exact⟨by rw[decide_eq_true (by first | (rw[he];exact Yb g) | (rw[<-he];exact Yb g))],rfl⟩
  .replace hne:=Yyo hne;refine Up.next c (by omega) ⟨rfl,fun hm2=>?_⟩;rw[List.take_add_one,g] at hm2;rcases Yk.1 hm2 with hm2 | hm2
   .exact hd hm2
   .first | exact hne (Ye.1 hm2) | exact hne (Ye.1 hm2).symm
 .replace c:=lt_f c;refine⟨?_,rfl⟩;rw[Yj (by omega)] at hd;rw[decide_eq_false hd]
theorem index112 (l:List Nm) (s:Sl) (x:ByteArray) (h:Heap) (hr:Rw h 1 s (l.map nmC)) (hm:l.length<=1048576):Fn Pz 112 #[.slice s.a s.n s.c,.string x] h fun v h'=>(∃k:Int,v=.int .i64 k/\(∀i:Nat,i<l.length->(k<(i:Int) ↔ x.data.toList∈l.take i\/x.data.toList∉l)))/\h'=h:=by
 apply vc112;unfold W112;have hn:=hr.ln;refine up_loop (n:=s.n) (fun i h'=>h'=h/\x.data.toList∉l.take i) ⟨rfl,fun e=>by simp at e⟩ ?_;rintro-i h8 hi ⟨rfl,hd⟩;refine sB_intro (fun c=>?_) (fun c=>?_)
 .replace c:=lt_t c;refine hr.nbI (by omega) (by omega) fun b o d g t=>?_;replace g:l[i]?=some d:=g;refine⟨_,t.hd,?_⟩;rw[strEq,bs_list];refine sB_intro (fun he=>?_) (fun hne=>?_)
  .replace he:=Yyn he;have he2:x.data.toList=d:=by first | exact he | exact he.symm
   have hmem:x.data.toList∈l:=by rw[he2];exact Yb g
   refine⟨⟨_,rfl,fun k hk=>⟨fun hik=>.inl ?_,fun hor=>?_⟩⟩,rfl⟩
   .have:l[i]?=some x.data.toList:=by rw[he2];exact g
    exact Yb (i:=i) (by rw[Yyf,if_pos (by omega)];exact this)
   .rcases hor with hor | hor
    .apply Classical.byContradiction;intro hki;have:l.take k=(l.take i).take k:=by rw[List.take_take,Nat.min_eq_left (by omega)]
     rw[this] at hor;exact hd (List.mem_of_mem_take hor)
    .exact absurd hmem hor
  .replace hne:=Yyo hne;refine Up.next c (by omega) ⟨rfl,fun hm2=>?_⟩;rw[List.take_add_one,g] at hm2;rcases Yk.1 hm2 with hm2 | hm2
   .exact hd hm2
   .first | exact hne (Ye.1 hm2) | exact hne (Ye.1 hm2).symm
 .replace c:=lt_f c;rw[Yj (by omega)] at hd;exact⟨⟨_,rfl,fun k hk=>⟨fun _=>.inr hd,fun _=>by omega⟩⟩,rfl⟩
def kwB:List ByteArray:=[⟨#[97,103,97,105,110]⟩,⟨#[97,110,100]⟩,⟨#[97,115]⟩,⟨#[97,116]⟩,⟨#[99,97,108,108]⟩,⟨#[99,104,111,105,99,101]⟩,⟨#[101,108,115,101]⟩,⟨#[102,114,111,109]⟩,⟨#[105,102]⟩,⟨#[105,110,116]⟩,⟨#[108,101,110]⟩,⟨#[108,111,111,112]⟩,⟨#[109,101,115,115,97,103,101]⟩,⟨#[111,102]⟩,⟨#[111,102,102,101,114]⟩,⟨#[111,110]⟩,⟨#[111,114]⟩,⟨#[112,97,114]⟩,⟨#[112,108,97,121,115]⟩,⟨#[112,114,111,116,111,99,111,108]⟩,⟨#[115,101,114,118,105,99,101]⟩,⟨#[116,101,120,116]⟩,⟨#[116,105,109,101,115]⟩,⟨#[116,111]⟩,⟨#[118,97,114]⟩,⟨#[119,104,101,114,101]⟩,⟨#[119,104,105,108,101]⟩,⟨#[119,105,116,104,105,110]⟩]
theorem kwB_eq:(kwB.map fun b=>b.data.toList)=keywords:=rfl
theorem keywords154 (h:Heap):Fn Pz 154 #[] h fun v h'=>Ext h h'/\∃s:Sl,v=.slice s.a s.n s.c/\Rw h' 1 s (keywords.map nmC):=by
 apply vc154;unfold W154;intro h1 e;have ho:Own h1 h.size (kwB.map Value.string) 9:=by rw[e];exact Own.push
 have hl:kwB.length=28:=rfl;rw[<-kwB_eq];refine⟨by rw[e];exact Ext.push _ _,⟨some ⟨h.size,0,none⟩,28,28⟩,rfl,by rw[Yc,Yc,hl],fun _=>⟨h.size,0,rfl,fun i row hi=>?_⟩⟩;rw[List.map_map,Yd] at hi;obtain⟨x,hx1,hx2⟩:=Yya.1 hi;subst hx2;refine ho.atC fun j v hj=>?_
 match j,hj with
 | 0,hj=>cases hj;rw[show 0+i*1+0=i by omega,Yd,hx1];rfl
theorem isWord111 (s:ByteArray) (h:Heap):Fn Pz 111 #[.string s] h fun v h'=>v=.bool (isWord s.data.toList)/\Ext h h':=by
 apply vc111;unfold W111;refine (isName152 s h).mono ?_;rintro _ h3 ⟨rfl,rfl⟩;refine⟨_,rfl,sB_intro (fun c=>?_) (fun c=>?_)⟩
 .refine (keywords154 h3).mono ?_;rintro _ h6 ⟨E2,k,rfl,hk⟩;refine⟨_,rfl,?_⟩;refine (in153 _ k s h6 hk (by decide)).mono ?_;rintro _ h9 ⟨rfl,rfl⟩;exact⟨_,rfl,by rw[isWord,c];rfl,E2⟩
 .exact⟨by rw[isWord,c];rfl,.rfl'⟩
theorem word201 (s:ByteArray) (h:Heap):Fn Pz 201 #[.string s] h fun v h'=>v=.bool (isWord s.data.toList)/\Ext h h':=by
 apply vc201;unfold W201;refine (isWord111 s h).mono ?_;rintro _ h3 ⟨rfl,E⟩;exact⟨_,rfl,rfl,E⟩
theorem ix_one {l:Nm}:Lib.index l [46]=Lib.indexByte l 46:=Lib.index_one l 46
theorem pieces_none {l:Nm} (hn:∀k:Nat,l[k]?≠some 46):pieces l=[l]:=by
 have h1:Lib.index l [46]=-1:=by
  have h0:=Lib.index_ge l [46];apply Classical.byContradiction;intro h2;obtain⟨o,ho⟩:∃o:Nat,Lib.index l [46]=o:=⟨(Lib.index l [46]).toNat,by omega⟩;rw[ix_one] at ho;exact hn o (Lib.indexByte_some ho).1
 unfold pieces Lib.split;rw[Lib.count_miss h1];rfl
theorem pieces_hit {l:Nm} {i:Nat} (hi:l[i]?=some 46) (hn:∀k:Nat,k<i->l[k]?≠some 46):pieces l=l.take i::pieces (l.drop (i+1)):=by
 have h1:Lib.index l [46]=(i:Int):=by
  have h0:=Lib.index_ge l [46];have h2:Lib.index l [46] ≠ -1:=fun h2=>by rw[ix_one] at h2;exact Lib.indexByte_none h2 i hi
  obtain⟨o,ho⟩:∃o:Nat,Lib.index l [46]=o:=⟨(Lib.index l [46]).toNat,by omega⟩;have h3:=Lib.indexByte_some (ix_one (l:=l) ▸ ho);have:o=i:=by
   rcases Nat.lt_trichotomy o i with h | h | h
   .exact absurd h3.1 (hn o h)
   .exact h
   .exact absurd hi (h3.2 i h)
  rw[ho,this]
 unfold pieces Lib.split;rw[Lib.count_hit (i:=i) (by decide) h1,Nat.add_comm 1,Lib.splitK,if_neg (by rw[h1];intro e;have:=eq_of_beq e;omega),h1];rfl
theorem isPath157 (s:ByteArray) (h:Heap) (hs:s.size<=1048576):Fn Pz 157 #[.string s] h fun v h'=>v=.bool (isPath s.data.toList)/\Ext h h':=by
 apply vc157;unfold W157 V157a;have hsz:=size_len s;generalize hL:s.data.toList=L at *;refine⟨fun f i h' m=>∃a b:Nat,f=a/\i=b/\a<=b/\b<=s.size+1/\m=s.size+1-b/\Ext h h'/\(b<=s.size->(∀k:Nat,a<=k->k<b->L[k]?≠some 46)/\(pieces L).all isWord=(pieces (L.drop a)).all isWord)/\(s.size<b->(pieces L).all isWord=true),⟨_,0,0,rfl,rfl,Yyt _,by omega,rfl,.rfl',fun _=>⟨fun k _ hk=>by omega,rfl⟩,fun hb=>by omega⟩,?_⟩;rintro-_ _ h6 m ⟨a,b,rfl,rfl,hab,hb,rfl,E,hq,hz⟩;refine sB_intro (fun c=>?_) (fun c=>?_)
 .replace c:=Yyn c;have hbs:b<=s.size:=by omega
  obtain⟨q1,q2⟩:=hq hbs;have hw:IntKind.wrap .i64 ((b:Int)+1)=((b+1:Nat):Int):=by rw[w64 (by omega) (by omega)];omega
  have hsl:(s.extract (Int.toNat (a:Int)) (Int.toNat (b:Int))).data.toList=(L.drop a).take (b-a):=by
   rw[show Int.toNat (a:Int)=a from rfl,show Int.toNat (b:Int)=b from rfl,ext_data,hL]
  refine sB_intro (fun c2=>?_) (fun c2=>?_)
  .have hbe:b=s.size:=by
    have:(b:Int)=s.size:=by simpa using c2
    omega
   have hp:pieces (L.drop a)=[L.drop a]:=pieces_none fun k hk=>by
    rw[List.getElem?_drop] at hk;exact q1 (a+k) (by omega) (by have:=(Ya.1 hk).1;omega) hk
   have hta:(L.drop a).take (b-a)=L.drop a:=Yj (by rw[List.length_drop];omega);refine⟨⟨by omega,by omega,by omega⟩,?_⟩;refine (word201 _ h6).mono ?_;rintro _ h9 ⟨rfl,E2⟩;rw[hsl,hta];rw[hp,List.all_cons,List.all_nil,Bool.and_true] at q2;refine⟨_,rfl,sB_intro (fun c3=>?_) (fun c3=>⟨_,by omega,b+1,b+1,hw,hw,by omega,by omega,rfl,E.trans E2,fun hb2=>by omega,fun _=>?_⟩)⟩
   .refine⟨?_,E.trans E2⟩;rw[isPath,q2,bF c3,Bool.and_false]
   .rw[q2,bT c3]
  .have hne:(b:Int)≠s.size:=by simpa using c2
   obtain⟨y,hy,hby⟩:=byte_get (s:=s) (i:=b) (by omega);rw[hL] at hy;refine⟨⟨by omega,by omega⟩,?_⟩;rw[show Int.toNat (b:Int)=b from rfl] at *;rw[hby];refine sB_intro (fun c3=>?_) (fun c3=>⟨_,by omega,a,b+1,rfl,hw,by omega,by omega,rfl,E,fun _=>⟨fun k hk1 hk2=>?_,q2⟩,fun hb2=>by omega⟩)
   .have hy46:y=46:=by
     have h4:(y.toNat:Int)=46:=by simpa using c3
     exact UInt8.toNat_inj.1 (by rw[show (46:UInt8).toNat=46 from rfl];omega)
    subst hy46;have hp:pieces (L.drop a)=(L.drop a).take (b-a)::pieces ((L.drop a).drop (b-a+1)):=pieces_hit (by rw[List.getElem?_drop,show a+(b-a)=b by omega];exact hy) fun k hk=>by
     rw[List.getElem?_drop];exact q1 (a+k) (by omega) (by omega)
    rw[List.drop_drop,show a+(b-a+1)=b+1 by omega] at hp;rw[hp,List.all_cons] at q2;refine⟨⟨by omega,by omega,by omega⟩,?_⟩;refine (word201 _ h6).mono ?_;rintro _ h9 ⟨rfl,E2⟩;rw[hsl];refine⟨_,rfl,sB_intro (fun c4=>?_) (fun c4=>⟨_,by omega,b+1,b+1,hw,hw,by omega,by omega,rfl,E.trans E2,fun hb2=>⟨fun k _ _=>by omega,?_⟩,fun hb2=>by omega⟩)⟩
    .refine⟨?_,E.trans E2⟩;rw[isPath,q2,bF c4,Bool.false_and,Bool.and_false]
    .rw[q2,bT c4,Bool.true_and]
   .by_cases hkb:k=b
    .subst hkb;rw[hy];intro e;cases e;simp at c3
    .exact q1 k hk1 (by omega)
 .replace c:=Yyo c;refine⟨?_,E⟩;rw[isPath,hz (by omega),Bool.and_true];first | rfl | (congr 1;rw[decide_eq_decide];omega)
theorem vars155 (ds:List Dc) (s:Sl) (h:Heap) (hd:DL h s ds):Fn Pz 155 #[.slice s.a s.n s.c] h fun v h'=>v=.int .i64 ((allF ds).length:Nat)/\(allF ds).length<=1099511627776/\h'=h:=by
 apply vc155;unfold W155;have hn:=hd.r.ln;have hm:=hd.r.sm;have hle:∀i,i<=ds.length->(allF (ds.take i)).length<=i*1048576:=fun i hi=>by
  have:=allF_le (ds.take i) fun d hd2=>(hd.i d (List.mem_of_mem_take hd2)).pf.sm;rw[Yu,Nat.min_eq_left hi] at this;exact this
 have hmx:∀i,i<=ds.length->(allF (ds.take i)).length<=1099511627776:=fun i hi=>by
  have:=hle i hi;have:i*1048576<=1048576*1048576:=Nat.mul_le_mul_right _ (by omega);omega
 refine⟨fun q i h' m=>∃b:Nat,i=b/\b<=s.n/\m=s.n-b/\h'=h/\q=((allF (ds.take b)).length:Nat),⟨_,0,rfl,by omega,rfl,rfl,rfl⟩,?_⟩;rintro-nn _ h6 m ⟨b,rfl,hb,rfl,rfl,rfl⟩;refine sB_intro (fun c=>?_) (fun c=>?_)
 .replace c:=lt_t c;refine hd.r.rw.nbI (by omega) (by omega) fun b7 o8 d g t=>?_;replace g:ds[b]?=some d:=g;have hfn:=(hd.i d (Yb g)).pf.ln;refine⟨_,t.nth 1 rfl,_,?_,b+1,by rw[w64 (by omega) (by omega)];omega,by omega,rfl,rfl,?_⟩
  .omega
  .have h1:=hmx (b+1) (by omega);rw[List.take_add_one,g,Option.toList_some,allF_snoc,Yh] at h1 ⊢;rw[w64 (by omega) (by omega)];omega
 .replace c:=lt_f c;have h1:=hmx ds.length (Yyt _);rw[Yye] at h1;rw[Yj (by omega)];exact⟨rfl,h1,rfl⟩
theorem goodSort156 (a b c:Int) (h:Heap):Fn Pz 156 #[.agg ⟨[.int .i64 a,.int .i64 b,.int .i64 c]⟩] h (RP (SortS a b c) h):=by
 apply vc156;unfold W156 V156a;refine (St.refl h).newb fun h4 hs=>?_;refine⟨fun l m h'=>h'=h4/\((a=2/\l=0/\m=40)\/(a≠2/\l=-1000/\m=1000)),⟨_,hs.rd 0 rfl rfl,sBi (fun c=>⟨rfl,.inl ⟨by simpa using c,rfl,rfl⟩⟩) (fun c=>⟨rfl,.inr ⟨by simpa using c,rfl,rfl⟩⟩)⟩,?_⟩;rintro-l m _ ⟨rfl,hlm⟩
 repeat' (first
  | (refine⟨_,hs.rd 0 rfl rfl,?_⟩)
  | (refine sBi (fun _=>?_) (fun _=>?_)))
 all_goals
  refine RP.e ?_ hs.ext;unfold SortS;simp only[Bool.false_eq_true,decide_eq_true_eq,beq_iff_eq,false_iff,true_iff] at *;omega
theorem field241 (ds:List Dc) (s:Sl) (p:Int) (h:Heap) (hd:DL h s ds) (h0:0<=p) (h1:p<(allF ds).length) (h2:(allF ds).length<=1099511627776) :
  Fn Pz 241 #[.slice s.a s.n s.c,.int .i64 p] h fun v h'=>(∃f,(allF ds)[p.toNat]?=some f/\v=.agg ⟨f.cs⟩)/\Ext h h':=by
 apply vc241;unfold W241 V241a;have hn:=hd.r.ln;have hm:=hd.r.sm;refine (St.refl h).newb fun h1' hs=>?_;refine⟨fun x i h' m=>∃b:Nat,i=b/\b<=s.n/\m=s.n-b/\h'=h1'/\0<=x/\x+((allF (ds.take b)).length:Nat)=p,⟨_,0,rfl,by omega,rfl,rfl,h0,by show p+((0:Nat):Int)=p;omega⟩,?_⟩;rintro-x _ h7 m ⟨b,rfl,hb,rfl,rfl,hx0,hx1⟩;refine sB_intro (fun c=>?_) (fun c=>?_)
 .replace c:=lt_t c;have hrw:=hd.r.rw.ext hs.ext;refine hrw.nbI (by omega) (by omega) fun b8 o9 d g t=>?_;replace g:ds[b]?=some d:=g;have hdi:=hd.i d (Yb g);have hfn:=hdi.pf.ln;have hfm:=hdi.pf.sm;have hsp:allF ds=allF (ds.take b)++(d.fs++allF (ds.drop (b+1))):=by
   have e:ds=ds.take b++d::ds.drop (b+1):=by
    have h3:=(List.take_append_drop b ds).symm;have hl:=(Ya.1 g).1;rw[List.drop_eq_getElem_cons hl,(Ya.1 g).2] at h3;exact h3
   conv=>lhs;rw[e]
   unfold allF;rw[List.flatMap_append,List.flatMap_cons]
  refine⟨_,t.nth 1 rfl,sB_intro (fun c2=>?_) (fun c2=>?_)⟩
  .replace c2:=Yyn c2;refine hrw.nbI (by omega) (by omega) fun b11 o12 d2 g2 t2=>?_;replace g2:ds[b]?=some d2:=g2;rw[g] at g2;cases g2;refine⟨_,t2.nth 1 rfl,?_⟩;refine (hdi.pf.rw.ext hs.ext).nbI hx0 c2 fun b14 o15 f g3 t3=>?_;refine⟨_,_,_,_,t3,?_⟩;refine hs.put 0 rfl (o:=0) (vs:=f.cs) rfl (show 4<=4 by decide) fun h20 hs=>?_;refine⟨_,_,_,_,hs.at 0 rfl (o:=0) (n:=4) rfl,⟨f,?_,rfl⟩,hs.ext⟩;have hxl:=(Ya.1 g3).1;rw[hsp,Yyc (by omega),Yyi (by omega),<-g3];congr 1;omega
  .replace c2:=Yyo c2;refine hrw.nbI (by omega) (by omega) fun b11 o12 d2 g2 t2=>?_;replace g2:ds[b]?=some d2:=g2;rw[g] at g2;cases g2;refine⟨_,t2.nth 1 rfl,s.n-(b+1),by omega,b+1,by rw[w64 (by omega) (by omega)];omega,by omega,rfl,rfl,?_⟩;rw[w64 (by omega) (by omega)];refine⟨by omega,?_⟩;rw[List.take_add_one,g,Option.toList_some,allF_snoc,Yh];omega
 .replace c:=lt_f c;rw[Yj (by omega)] at hx1;omega
theorem text202 (ds:List Dc) (s:Sl) (p:Int) (h:Heap) (hd:DL h s ds):Fn Pz 202 #[.slice s.a s.n s.c,.int .i64 p] h (RP (TextS (allF ds) p) h):=by
 apply vc202;unfold W202;refine sB_intro (fun c=>?_) (fun c=>?_)
 .replace c:=Yyn c;refine (vars155 ds s h hd).mono ?_;rintro _ h3 ⟨rfl,hk,rfl⟩;refine⟨_,rfl,sB_intro (fun c2=>?_) (fun c2=>?_)⟩
  .replace c2:=Yyn c2;refine (field241 ds s p _ hd (by omega) (by omega) hk).mono ?_;rintro _ h9 ⟨⟨f,hf,rfl⟩,E⟩;refine⟨_,_,_,_,rfl,RP.e ⟨fun hb=>⟨by omega,f,hf,by simpa using hb⟩,?_⟩ E⟩;rintro⟨_,f2,hf2,hk2⟩;rw[hf] at hf2;cases hf2;simpa using hk2
  .replace c2:=Yyo c2;refine RP.f ?_ .rfl';rintro⟨_,f2,hf2,_⟩;have:=(Ya.1 hf2).1;omega
 .replace c:=Yyo c;exact RP.f (fun hT=>by have:=hT.1;omega) .rfl'
theorem goodGuard158 (ds:List Dc) (s:Sl) (d:Dc) (h:Heap) (hd:DL h s ds) (hi:DI h d) :
  Fn Pz 158 #[.slice s.a s.n s.c,.agg ⟨[.slice d.hd.a d.hd.n d.hd.c,.slice d.he.a d.he.n d.he.c]⟩] h (RP (GuardS (allF ds) d.ds d.es) h):=by
 apply vc158 s d.hd d.he;unfold W158;have hdn:=hi.pd.ln;have hdm:=hi.pd.sm;have hen:=hi.pe.ln;have hem:=hi.pe.sm;refine (St.refl h).newb fun h3 hs=>?_;refine (vars155 ds s h3 (hd.ext hs.ext)).mono ?_;rintro _ h6 ⟨rfl,hk,rfl⟩;refine⟨_,rfl,?_⟩;refine up_loopS (n:=d.hd.n) hs (fun i=>∀(j:Nat) (x:Df),j<i->d.ds[j]?=some x -> -1<=min x.x x.y/\max x.x x.y<(allF ds).length /\ -20000<=x.c/\x.c<=20000) (fun j x hj=>by omega) ?_;rintro-i h11 hin ⟨hs,hq⟩;refine⟨_,hs.rd 0 rfl rfl,sB_intro (fun c=>?_) (fun c=>?_)⟩
 .replace c:=lt_t c;refine⟨_,hs.rd 0 rfl rfl,?_⟩;refine (hi.pd.rw.ext hs.ext).nbI (by omega) (by omega) fun b o x g t=>?_;replace g:d.ds[i]?=some x:=g;refine⟨_,_,_,t,?_⟩;refine hs.newput (vs:=x.cs) rfl rfl fun h20 hs=>?_
  repeat' (first
    | (refine⟨_,hs.rd 0 rfl rfl,?_⟩)
    | (refine⟨_,hs.rd 1 rfl rfl,?_⟩)
    | (refine sBi (fun _=>?_) (fun _=>?_))
    | (refine sBe (fun _=>?_) (fun _=>?_))
    | (refine sBn (fun _=>?_) (fun _=>?_)))
  all_goals first
   | exact RP.f (fun hG=>by have:=hG.d x (Yb g);omega) hs.ext
   | (refine Up.next c (by omega) ⟨hs.drop 1,fun j y hj hy=>?_⟩
      by_cases e:j=i
      .subst e;rw[g] at hy;cases hy;omega
      .exact hq j y (by omega) hy)
 .replace c:=lt_f c;have hqd:∀x∈d.ds,-1<=min x.x x.y/\max x.x x.y<(allF ds).length /\ -20000<=x.c/\x.c<=20000:=fun x hx=>by
   obtain⟨j,hj⟩:=Yf.1 hx;exact hq j x (by have:=(Ya.1 hj).1;omega) hj
  clear hq;refine up_loopS (n:=d.he.n) hs (fun i=>∀(j:Nat) (x:Eqs),j<i->d.es[j]?=some x->TextS (allF ds) x.x/\TextS (allF ds) x.y) (fun j x hj=>by omega) ?_;rintro-i h32 hin ⟨hs,hq⟩;refine⟨_,hs.rd 0 rfl rfl,sB_intro (fun c=>?_) (fun c=>?_)⟩
  .replace c:=lt_t c;refine⟨_,hs.rd 0 rfl rfl,?_⟩;refine (hi.pe.rw.ext hs.ext).nbI (by omega) (by omega) fun b o x g t=>?_;replace g:d.es[i]?=some x:=g;refine⟨⟨by omega,by omega⟩,_,t.nth 0 rfl,?_⟩;refine (text202 ds s _ h32 (hd.ext hs.ext)).mono ?_;rintro _ h40 ⟨⟨b1,rfl,hb1⟩,E⟩;have hs:=hs.step E;refine⟨_,rfl,sB_intro (fun c1=>RP.f (fun hG=>iff_f hb1 (bF c1) (hG.e x (Yb g)).1) hs.ext) (fun c1=>?_)⟩;refine⟨_,hs.rd 0 rfl rfl,?_⟩;refine (hi.pe.rw.ext hs.ext).nbI (by omega) (by omega) fun b o x' g' t=>?_;replace g':d.es[i]?=some x':=g';rw[g] at g';cases g';refine⟨⟨by omega,by omega⟩,_,t.nth 1 rfl,?_⟩;refine (text202 ds s _ h40 (hd.ext hs.ext)).mono ?_;rintro _ h47 ⟨⟨b2,rfl,hb2⟩,E⟩;have hs:=hs.step E;refine⟨_,rfl,sB_intro (fun c2=>RP.f (fun hG=>iff_f hb2 (bF c2) (hG.e x (Yb g)).2) hs.ext) (fun c2=>Up.next c (by omega) ⟨hs,fun j y hj hy=>?_⟩)⟩;by_cases e:j=i
   .subst e;rw[g] at hy;cases hy;exact⟨hb1.1 (bT c1),hb2.1 (bT c2)⟩
   .exact hq j y (by omega) hy
  .replace c:=lt_f c;have hqe:∀x∈d.es,TextS (allF ds) x.x/\TextS (allF ds) x.y:=fun x hx=>by
    obtain⟨j,hj⟩:=Yf.1 hx;exact hq j x (by have:=(Ya.1 hj).1;omega) hj
   refine⟨_,hs.rd 0 rfl rfl,sB_intro (fun c1=>⟨_,hs.rd 0 rfl rfl,?_⟩) (fun c1=>?_)⟩
   .replace c1:=Yyn c1;refine RP.e ⟨fun hb=>⟨by omega,by have:=Yyn hb;omega,hqd,hqe⟩,fun hG=>?_⟩ hs.ext;have:=hG.ne;exact decide_eq_true (by omega)
   .replace c1:=Yyo c1;exact RP.f (fun hG=>by have:=hG.nd;omega) hs.ext
def GNm (ds:List Dc):Prop:=∀d∈ds,d.nm.length<=1048576
theorem dup_iff {α:Type} {l:List α} {p:α->Bool}:(l.any p)=false ↔ ∀(j:Nat) (y:α),l[j]?=some y->p y=false:=by
 rw[List.any_eq_false];refine⟨fun h j y hj=>?_,fun h y hy=>?_⟩
 .have:=h y (Yb hj);cases hp:p y<;>simp_all
 .obtain⟨j,hj⟩:=Yf.1 hy;rw[h j y hj];decide
theorem refValid113 (ds:List Dc) (s:Sl) (h:Heap) (hd:DL h s ds) (hN:GNm ds):Fn Pz 113 #[.slice s.a s.n s.c] h (RP (DeclS ds) h):=by
 apply vc113;unfold W113;have hn:=hd.r.ln;have hm:=hd.r.sm;refine sB_intro (fun c0=>RP.f (fun hG=>by have:=hG.pn;have:=Yyn c0;omega) .rfl') (fun c0=>?_);replace c0:=Yyo c0;refine (vars155 ds s h hd).mono ?_;rintro _ h3 ⟨rfl,hk,rfl⟩;refine⟨_,rfl,sB_intro (fun c00=>RP.f (fun hG=>by have:=hG.pv;have:=Yyn c00;omega) .rfl') (fun c00=>?_)⟩;replace c00:=Yyo c00;refine⟨fun f i h' m=>∃b:Nat,i=b/\b<=s.n/\m=s.n-b/\St h3 h' []/\f=((allF (ds.take b)).length:Nat)/\∀(j:Nat) (y:Dc),j<b->ds[j]?=some y->DcS ds j y,⟨_,0,rfl,by omega,rfl,St.refl _,rfl,fun j y hj=>by omega⟩,?_⟩;rintro-_ _ h9 m ⟨b,rfl,hb,rfl,hs,rfl,hq⟩;refine sB_intro (fun c=>?_) (fun c=>RP.t ⟨by omega,by omega,fun j y hy=>hq j y (by have:=lt_f c;have:=(Ya.1 hy).1;omega) hy⟩ hs.ext);replace c:=lt_t c;refine (hd.r.rw.ext hs.ext).nbI (by omega) (by omega) fun b10 o11 d g t=>?_;replace g:ds[b]?=some d:=g;have hdm:=Yb g;have hdi:=hd.i d hdm;have hfn:=hdi.pf.ln;have hfm:=hdi.pf.sm;refine⟨_,_,_,_,_,t,?_⟩;refine hs.newput (vs:=d.cs) rfl rfl fun h18 hs=>?_;refine up_loopS (n:=b) hs (fun i=>∀(j:Nat) (y:Dc),j<i->ds[j]?=some y->y.nm≠d.nm) (fun j y hj=>by omega) ?_;rintro-k1 h23 hk1 ⟨hs,hq1⟩;refine sB_intro (fun c1=>?_) (fun c1=>?_)
 .replace c1:=lt_t c1;refine (hd.r.rw.ext hs.ext).nbI (by omega) (by omega) fun b24 o25 d2 g2 t2=>?_;replace g2:ds[k1]?=some d2:=g2;refine⟨_,t2.nth 0 rfl,_,hs.rd 0 rfl rfl,sBs (fun e=>?_) (fun e=>Up.next c1 (by omega) ⟨hs,fun j y hj hy=>?_⟩)⟩
  .refine RP.f (fun hG=>?_) hs.ext;have:=dup_iff.1 (hG.pd b d g).pd k1 d2 (by rw[Yyf,if_pos c1];exact g2);exact Yyo this e
  .by_cases e2:j=k1
   .subst e2;rw[g2] at hy;cases hy;exact e
   .exact hq1 j y (by omega) hy
 replace c1:=lt_f c1;have hdup:((ds.take b).any fun x=>decide (x.nm=d.nm))=false:=dup_iff.2 fun j y hy=>by
  rw[Yyf] at hy;split at hy
  .exact decide_eq_false (hq1 j y (by omega) hy)
  .cases hy
 clear hq1;refine up_loopS (n:=d.hf.n) hs (fun i=>∀(j:Nat) (y:Fld),j<i->d.fs[j]?=some y->FldS d.fs j y) (fun j y hj=>by omega) ?_;rintro-k2 h33 hk2 ⟨hs,hq2⟩;refine⟨_,hs.rd 0 rfl rfl,sB_intro (fun c2=>?_) (fun c2=>?_)⟩
 .replace c2:=lt_t c2;refine⟨_,hs.rd 0 rfl rfl,?_⟩;refine (hdi.pf.rw.ext hs.ext).nbI (by omega) (by omega) fun b36 o37 f g3 t3=>?_;replace g3:d.fs[k2]?=some f:=g3;refine⟨_,_,_,t3.sub 1 3 rfl,?_⟩;refine (goodSort156 _ _ _ h33).mono ?_;rintro _ h43 ⟨⟨b1,rfl,hb1⟩,E⟩;have hs:=hs.step E;refine⟨_,rfl,sB_intro (fun c3=>RP.f (fun hG=>iff_f hb1 (bF c3) ((hG.pd b d g).pfs k2 f g3).ps) hs.ext) (fun c3=>?_)⟩;refine⟨_,hs.rd 0 rfl rfl,?_⟩;refine (hdi.pf.rw.ext hs.ext).nbI (by omega) (by omega) fun b45 o46 f2 g4 t4=>?_;replace g4:d.fs[k2]?=some f2:=g4;rw[g3] at g4;cases g4;refine⟨_,t4.nth 0 rfl,?_⟩;refine (isWord111 (bs f.nm) h43).mono ?_;rintro _ h50 ⟨rfl,E⟩;have hs:=hs.step E;refine⟨_,rfl,sB_intro (fun c4=>RP.f (fun hG=>?_) hs.ext) (fun c4=>?_)⟩
  .have:=((hG.pd b d g).pfs k2 f g3).pw;rw[bs_list,this] at c4;cases c4
  refine up_loopS (n:=k2) hs (fun i=>∀(j:Nat) (y:Fld),j<i->d.fs[j]?=some y->y.nm≠f.nm) (fun j y hj=>by omega) ?_;rintro-j1 h55 hj1 ⟨hs,hq3⟩;refine sB_intro (fun c5=>?_) (fun c5=>?_)
  .replace c5:=lt_t c5;refine⟨_,hs.rd 0 rfl rfl,?_⟩;refine (hdi.pf.rw.ext hs.ext).nbI (by omega) (by omega) fun b57 o58 f3 g5 t5=>?_;replace g5:d.fs[j1]?=some f3:=g5;refine⟨_,t5.nth 0 rfl,_,hs.rd 0 rfl rfl,?_⟩;refine (hdi.pf.rw.ext hs.ext).nbI (by omega) (by omega) fun b61 o62 f4 g6 t6=>?_;replace g6:d.fs[k2]?=some f4:=g6;rw[g3] at g6;cases g6;refine⟨_,t6.nth 0 rfl,sBs (fun e=>?_) (fun e=>Up.next c5 (by omega) ⟨hs,fun j y hj hy=>?_⟩)⟩
   .refine RP.f (fun hG=>?_) hs.ext;have:=dup_iff.1 ((hG.pd b d g).pfs k2 f g3).pd j1 f3 (by rw[Yyf,if_pos c5];exact g5);exact Yyo this e
   .by_cases e2:j=j1
    .subst e2;rw[g5] at hy;cases hy;exact e
    .exact hq3 j y (by omega) hy
  .replace c5:=lt_f c5;refine Up.next c2 (by omega) ⟨hs,fun j y hj hy=>?_⟩;by_cases e2:j=k2
   .subst e2;rw[g3] at hy;cases hy;refine⟨?_,hb1.1 (bT c3),dup_iff.2 fun j' y' hy'=>?_⟩
    .have:=bT c4;rw[bs_list] at this;exact this
    .rw[Yyf] at hy';split at hy'
     .exact decide_eq_false (hq3 j' y' (by omega) hy')
     .cases hy'
   .exact hq2 j y (by omega) hy
 .replace c2:d.hf.n<=k2:=by have:=Yyo c2;omega
  have hfl:∀k f,d.fs[k]?=some f->FldS d.fs k f:=fun k f hf=>hq2 k f (by have:=(Ya.1 hf).1;omega) hf;refine⟨_,hs.rd 0 rfl rfl,?_⟩;refine (isPath157 (bs d.nm) h33 (hN d hdm)).mono ?_;rintro _ h69 ⟨rfl,E⟩;have hs:=hs.step E;refine⟨_,rfl,sB_intro (fun c3=>RP.f (fun hG=>?_) hs.ext) (fun c3=>?_)⟩
  .have:=(hG.pd b d g).pp;rw[bs_list,this] at c3;cases c3
  have hpp:isPath d.nm=true:=by have:=bT c3;rw[bs_list] at this;exact this
  refine⟨_,hs.rd 0 rfl rfl,sB_intro (fun c4=>RP.f (fun hG=>by have:=(hG.pd b d g).pn;have:=Yyn c4;omega) hs.ext) (fun c4=>?_)⟩;replace c4:=Yyo c4;refine⟨_,hs.rd 0 rfl rfl,sBn (fun c5=>RP.f (fun hG=>by have:=(hG.pd b d g).pf;omega) hs.ext) (fun c5=>?_)⟩;refine⟨_,_,hs.at 0 rfl (o:=3) (n:=2) rfl,?_⟩;refine (goodGuard158 ds s d h69 (hd.ext hs.ext) (hdi.ext hs.ext)).mono ?_;rintro _ h76 ⟨⟨b2,rfl,hb2⟩,E⟩;have hs:=hs.step E;refine⟨_,rfl,sB_intro (fun c6=>RP.f (fun hG=>iff_f hb2 (bF c6) (hG.pd b d g).pg) hs.ext) (fun c6=>?_)⟩;refine⟨_,hs.rd 0 rfl rfl,s.n-(b+1),by omega,b+1,by rw[w64 (by omega) (by omega)];omega,by omega,rfl,hs.drop 1,?_,fun j y hj hy=>?_⟩
  .have h1:(allF (ds.take (b+1))).length<=(allF ds).length:=allF_take ds (b+1);rw[List.take_add_one,g,Option.toList_some,allF_snoc,Yh] at h1 ⊢;rw[w64 (by omega) (by omega)];omega
  .by_cases e2:j=b
   .subst e2;rw[g] at hy;cases hy;exact⟨hpp,by omega,by omega,hdup,hfl,hb2.1 (bT c6)⟩
   .exact hq j y (by omega) hy
theorem St.cut {h0 h:Heap} {L:List It} (hs:St h0 h L) (k:Nat) {s:Sl} {e:TypeId} {n:Nat} {rows:List (List Value)} (hk:L[k]?=some (.sl s e n rows)) (hn:0<n) (i:Nat) (hi:i<=s.n) :
  St h0 h (L.set k (.sl ⟨s.a,i,s.c⟩ e n (rows.take i))):=by
 have hget:=hs.get hk;have hln:=(hs.rw k hk hn).1;refine hs.turn hk (Yyt _) (j:=.sl ⟨s.a,i,s.c⟩ e n (rows.take i)) ?_ (fun b hb=>.inr hb) (fun _ _ _=>rfl);have hrl:∀r∈rows.take i,r.length=n:=fun r hr=>hget.2 r (List.mem_of_mem_take hr);have hfl:(rows.take i).flatten=rows.flatten.take (i*n):=by
  have h5:rows=rows.take i++rows.drop i:=(List.take_append_drop i rows).symm;rw[congrArg List.flatten h5,List.flatten_append,Yyq (by rw[flatten_len _ hrl,Yu,Nat.min_eq_left (by omega)];exact Yyt _)];rw[Yj (l:=(rows.take i).flatten) (by rw[flatten_len _ hrl,Yu,Nat.min_eq_left (by omega)];exact Yyt _)]
 have hin:i*n<=s.n*n:=Nat.mul_le_mul_right _ hi;refine⟨⟨by rw[flatten_len _ hrl,Yu];show min i rows.length*n=i*n;rw[Nat.min_eq_left (by omega)],?_⟩,hrl⟩;rcases hget.1.2 with ⟨ha,h2,h3⟩ | ⟨g,cur,ha,hb0,hh,hnc,hcm,hsz,htk⟩
 .exact .inl ⟨ha,by show i=0;omega,h3⟩
 .refine .inr ⟨g,cur,ha,hb0,hh,by show i<=s.c;omega,hcm,hsz,?_⟩;show cur.toList.take (i*n)=_;rw[hfl,<-htk,List.take_take,Nat.min_eq_left hin]
theorem splice_set {xs:List Value} {i:Nat} {v:Value} (h:i<xs.length):splice xs i [v]=xs.set i v:=by
 unfold splice;rw[List.set_eq_take_append_cons_drop,if_pos h];simp
theorem state114 (g:Gl) (p:Int) (h:Heap):Fn Pz 114 #[g.v,.int .i64 p] h (RP (0<=p/\p<g.n) h):=by
 apply vc114 (bs g.nm) g.hr g.hd g.n g.s g.e g.he g.ht;unfold W114;refine (St.refl h).newb fun h9 hs=>?_;refine sB_intro (fun c=>?_) (fun c=>?_)
 .refine⟨_,hs.rd 0 rfl rfl,RP.e ?_ hs.ext⟩;have:=Yyn c;rw[decide_eq_true_eq];omega
 .exact RP.f (by have:=Yyo c;omega) hs.ext
structure NumR (g:Gl):Prop where
 n:1<=g.n/\g.n<=200
 s:0<=g.s/\g.s<g.n
 e:0<=g.e/\g.e<g.n
 es:∀x∈g.es,0<=x.f/\x.f<g.n/\0<=x.t/\x.t<g.n
theorem NumS.R {g:Gl} (h:NumS g):NumR g:=⟨⟨h.n.1,h.n.2.1⟩,⟨h.n.2.2.1,h.n.2.2.2.2.1⟩,⟨h.n.2.2.2.1,h.n.2.2.2.2.2⟩,fun x hx=>by
 have:=h.e x hx;unfold EdS at this;omega⟩
theorem numbers65 (g:Gl) (h:Heap) (hg:GI h g):Fn Pz 65 #[g.v] h (RP (NumS g) h):=by
 apply vc65 (bs g.nm) g.hr g.hd g.n g.s g.e g.he g.ht;unfold W65;have hen:=hg.e.ln;have hem:=hg.e.sm;have hrn:=hg.r.ln;have hdn:=hg.d.r.ln;refine (St.refl h).newb fun h9 hs=>?_;refine up_loopS (n:=g.he.n) hs (fun i=>∀j x,j<i->g.es[j]?=some x->EdS g x) (fun j x hj=>by omega) ?_;rintro-i h14 hi ⟨hs,hq⟩;refine⟨_,hs.rd 0 rfl rfl,sB_intro (fun c=>?_) (fun c=>?_)⟩
 .replace c:=lt_t c;refine⟨_,hs.rd 0 rfl rfl,?_⟩;refine (hg.e.rw.ext hs.ext).nbI (by omega) (by omega) fun b o x gx t=>?_;replace gx:g.es[i]?=some x:=gx;refine⟨_,_,_,_,_,_,t,?_⟩;refine hs.newput (vs:=x.cs) rfl rfl fun h26 hs=>?_;refine⟨_,_,_,_,_,_,_,_,hs.at 1 rfl (o:=0) (n:=8) rfl,_,hs.rd 0 rfl rfl,?_⟩;refine (state114 g x.f h26).mono ?_;rintro _ h38 ⟨⟨b1,rfl,hb1⟩,E⟩;have hs:=hs.step E;refine⟨_,rfl,sB_intro (fun c1=>RP.f (fun hG=>by have:=iff_f hb1 (bF c1);have:=hG.e x (Yb gx);unfold EdS at this;omega) hs.ext) (fun c1=>?_)⟩;refine⟨_,_,_,_,_,_,_,_,hs.at 1 rfl (o:=0) (n:=8) rfl,_,hs.rd 0 rfl rfl,?_⟩;refine (state114 g x.t h38).mono ?_;rintro _ h50 ⟨⟨b2,rfl,hb2⟩,E⟩;have hs:=hs.step E;refine⟨_,rfl,sB_intro (fun c2=>RP.f (fun hG=>by have:=iff_f hb2 (bF c2);have:=hG.e x (Yb gx);unfold EdS at this;omega) hs.ext) (fun c2=>?_)⟩;have f1:=hb1.1 (bT c1);have f2:=hb2.1 (bT c2)
  repeat' (first
     | (refine⟨_,hs.rd 0 rfl rfl,?_⟩)
     | (refine⟨_,hs.rd 1 rfl rfl,?_⟩)
     | (refine⟨_,hs.rd 2 rfl rfl,?_⟩)
     | (refine⟨_,_,_,hs.at 0 rfl (o:=1) (n:=3) rfl,?_⟩)
     | (refine⟨_,_,_,hs.at 1 rfl (o:=1) (n:=3) rfl,?_⟩)
     | (refine sBi (fun _=>?_) (fun _=>?_))
     | (refine sBe (fun _=>?_) (fun _=>?_))
     | (refine sBn (fun _=>?_) (fun _=>?_))
     | (refine sB_intro (fun _=>?_) (fun _=>?_)))
  all_goals first
   | exact RP.f (fun hG=>by have:=hG.e x (Yb gx);unfold EdS at this;omega) hs.ext
   | (refine Up.next c (by omega) ⟨hs.drop 1,fun j y hj hy=>?_⟩
      by_cases e:j=i
      .subst e;rw[gx] at hy;cases hy;unfold EdS;omega
      .exact hq j y (by omega) hy)
 .replace c:=lt_f c;refine⟨_,hs.rd 0 rfl rfl,sB_intro (fun c1=>?_) (fun c1=>RP.f (fun hG=>by have:=Yyo c1;have:=hG.n;omega) hs.ext)⟩;refine⟨_,hs.rd 0 rfl rfl,sB_intro (fun c2=>?_) (fun c2=>RP.f (fun hG=>by have:=Yyo c2;have:=hG.n;omega) hs.ext)⟩;refine⟨_,_,_,_,_,_,_,_,hs.at 0 rfl (o:=0) (n:=8) rfl,_,hs.rd 0 rfl rfl,?_⟩;refine (state114 g g.s h14).mono ?_;rintro _ h76 ⟨⟨b3,rfl,hb3⟩,E⟩;have hs:=hs.step E;refine⟨_,rfl,sB_intro (fun c3=>?_) (fun c3=>RP.f (fun hG=>by have:=iff_f hb3 c3;have:=hG.n;omega) hs.ext)⟩;refine⟨_,_,_,_,_,_,_,_,hs.at 0 rfl (o:=0) (n:=8) rfl,_,hs.rd 0 rfl rfl,?_⟩;refine (state114 g g.e h76).mono ?_;rintro _ h88 ⟨⟨b4,rfl,hb4⟩,E⟩;have hs:=hs.step E;refine⟨_,rfl,sB_intro (fun c4=>?_) (fun c4=>RP.f (fun hG=>by have:=iff_f hb4 c4;have:=hG.n;omega) hs.ext)⟩;have f1:=Yyn c1;have f2:=Yyn c2;have f3:=hb3.1 c3;have f4:=hb4.1 c4;refine⟨_,hs.rd 0 rfl rfl,RP.e ⟨fun hb=>⟨by omega,by have:=Yyn hb;omega,fun x hx=>?_⟩,fun hG=>decide_eq_true (by have:=hG.m;omega)⟩ hs.ext⟩;obtain⟨j,hj⟩:=Yf.1 hx;exact hq j x (by have:=(Ya.1 hj).1;omega) hj
structure ApS (g:Gl):Prop where
 s:∀x∈g.es,x.ag=true->x.f≠g.s
 p:∀i x,g.es[i]?=some x->∀k y,g.es[k]?=some y->¬PairBad i k x y
theorem apart66 (g:Gl) (h:Heap) (hg:GI h g):Fn Pz 66 #[g.v] h (RP (ApS g) h):=by
 apply vc66 (bs g.nm) g.hr g.hd g.n g.s g.e g.he g.ht;unfold W66 V66a V66b;have hen:=hg.e.ln;have hem:=hg.e.sm;refine (St.refl h).newb fun h9 hs=>?_;refine up_loopS (n:=g.he.n) hs (fun i=>∀(j:Nat) (x:Ed),j<i->g.es[j]?=some x->(x.ag=true->x.f≠g.s)/\∀k y,g.es[k]?=some y->¬PairBad j k x y) (fun j y hj=>by omega) ?_;rintro-i h14 hi ⟨hs,hq⟩;refine⟨_,hs.rd 0 rfl rfl,sB_intro (fun c=>?_) (fun c=>RP.t ⟨fun x hx=>?_,fun j x hx=>?_⟩ hs.ext)⟩
 .replace c:=lt_t c;refine⟨_,hs.rd 0 rfl rfl,?_⟩;refine (hg.e.rw.ext hs.ext).nbI (by omega) (by omega) fun b o x gx t=>?_;replace gx:g.es[i]?=some x:=gx;refine⟨_,_,_,_,_,_,t,?_⟩;refine hs.newput (vs:=x.cs) rfl rfl fun h26 hs=>?_;refine⟨_,hs.rd 0 rfl rfl,sB_intro (fun cg=>?_) (fun cg=>?_)⟩;refine⟨_,hs.rd 0 rfl rfl,_,hs.rd 1 rfl rfl,sBe (fun cs=>RP.f (fun hG=>hG.s x (Yb gx) cg cs) hs.ext) (fun cs=>?_)⟩;rotate_left;all_goals
   refine up_loopS (n:=g.he.n) hs (fun k=>∀(j:Nat) (y:Ed),j<k->g.es[j]?=some y->¬PairBad i j x y) (fun j y hj=>by omega) ?_;rintro-k h34 hk ⟨hs,hq2⟩;refine⟨_,hs.rd 1 rfl rfl,sB_intro (fun c2=>?_) (fun c2=>?_)⟩
   .replace c2:=lt_t c2;refine⟨_,hs.rd 1 rfl rfl,?_⟩;refine (hg.e.rw.ext hs.ext).nbI (by omega) (by omega) fun b o y gy ty=>?_;replace gy:g.es[k]?=some y:=gy;refine⟨_,_,_,_,_,_,ty,?_⟩;refine hs.newput (vs:=y.cs) rfl rfl fun h46 hs=>?_
    repeat' (first
       | (refine⟨_,hs.rd 0 rfl rfl,?_⟩)
       | (refine⟨_,hs.rd 1 rfl rfl,?_⟩)
       | (refine⟨_,hs.rd 2 rfl rfl,?_⟩)
       | (refine⟨_,_,_,hs.at 0 rfl (o:=1) (n:=3) rfl,?_⟩)
       | (refine⟨_,_,_,hs.at 1 rfl (o:=1) (n:=3) rfl,?_⟩)
       | (refine sBi (fun _=>?_) (fun _=>?_))
       | (refine sBe (fun _=>?_) (fun _=>?_))
       | (refine sBn (fun _=>?_) (fun _=>?_))
       | (refine sB_intro (fun _=>?_) (fun _=>?_)))
    all_goals first
     | (refine RP.f (fun hG=>hG.p i x gx k y gy ?_) hs.ext;clear hq hq2 hs hg t ty;unfold PairBad;grind)
     | (refine Up.next c2 (by omega) ⟨hs.drop 1,fun j z hj hz=>?_⟩
        by_cases e:j=k
        .subst e;rw[gy] at hz;cases hz;clear hq hq2 hs hg t ty;unfold PairBad;grind
        .exact hq2 j z (by omega) hz)
   .replace c2:g.he.n<=k:=by have:=Yyo c2;omega
    refine Up.next c (by omega) ⟨hs.drop 1,fun j z hj hz=>?_⟩;by_cases e:j=i
    .subst e;rw[gx] at hz;cases hz;exact⟨by grind,fun k' y' hy'=>hq2 k' y' (by have:=(Ya.1 hy').1;omega) hy'⟩
    .exact hq j z (by omega) hz
 .obtain⟨j,hj⟩:=Yf.1 hx;exact (hq j x (by have:=lt_f c;have:=(Ya.1 hj).1;omega) hj).1
 .exact (hq j x (by have:=lt_f c;have:=(Ya.1 hx).1;omega) hx).2
theorem timed68 (g:Gl) (h:Heap) (hg:GI h g) (hN:NumS g):Fn Pz 68 #[g.v] h (RP (TimS g) h):=by
 apply vc68 (bs g.nm) g.hr g.hd g.n g.s g.e g.he g.ht;unfold W68 V68a;have hen:=hg.e.ln;have hem:=hg.e.sm;have htn:=hg.t.ln;have htm:=hg.t.sm;refine (St.refl h).newb fun h9 hs=>?_;refine up_loopS (n:=g.ht.n) hs (fun i=>∀(j:Nat) (x:To),j<i->g.ts[j]?=some x->TmS g j x) (fun j y hj=>by omega) ?_;rintro-i h14 hi ⟨hs,hq⟩;refine⟨_,hs.rd 0 rfl rfl,sB_intro (fun c=>?_) (fun c=>RP.t (fun j x hx=>hq j x (by have:=lt_f c;have:=(Ya.1 hx).1;omega) hx) hs.ext)⟩;replace c:=lt_t c;refine⟨_,hs.rd 0 rfl rfl,?_⟩;refine (hg.t.rw.ext hs.ext).nbI (by omega) (by omega) fun b o x gx t=>?_;replace gx:g.ts[i]?=some x:=gx;have no:∀ {q:Prop},(TmS g i x->q)->TimS g->q:=fun f hT=>f (hT i x gx);refine⟨_,_,_,t,?_⟩;refine hs.newput (vs:=x.cs) rfl rfl fun h23 hs=>?_;refine⟨_,_,_,_,_,_,_,_,hs.at 1 rfl (o:=0) (n:=8) rfl,_,hs.rd 0 rfl rfl,?_⟩;refine (state114 g x.s h23).mono ?_;rintro _ h35 ⟨⟨b1,rfl,hb1⟩,E⟩;have hs:=hs.step E;refine⟨_,rfl,sB_intro (fun c1=>RP.f (no fun hT=>?_) hs.ext) (fun c1=>?_)⟩
 .obtain⟨_,y,hy,hf,_⟩:=hT.e;have:=iff_f hb1 (bF c1);have:=hN.R.es y (Yb hy);omega
 have f1:=hb1.1 (bT c1);refine sBi (fun c2=>?_) (fun c2=>?_);have hw:IntKind.wrap .i64 ((i:Int)-1)=((i-1:Nat):Int):=by rw[w64 (by omega) (by omega)];omega
 refine⟨_,hs.rd 0 rfl rfl,_,hs.rd 1 rfl rfl,?_⟩;rw[hw];refine (hg.t.rw.ext hs.ext).nbI (by omega) (by omega) fun b o z gz tz=>?_;replace gz:g.ts[i-1]?=some z:=gz;have hl:lastS g.ts i=z.s:=by unfold lastS;rw[if_neg (by omega),gz]
 refine⟨_,tz.nth 0 rfl,sBi (fun d0=>RP.f (no fun hT=>by have:=hT.o;omega) hs.ext) (fun d0=>?_)⟩;have ho:lastS g.ts i<x.s:=by omega
 rotate_left;have ho:lastS g.ts i<x.s:=by unfold lastS;rw[if_pos (by omega)];omega
 all_goals
  refine⟨_,hs.rd 0 rfl rfl,sBi (fun d1=>RP.f (no fun hT=>by have:=hT.k;omega) hs.ext) (fun d1=>?_)⟩;refine⟨_,hs.rd 0 rfl rfl,sBi (fun d2=>RP.f (no fun hT=>by have:=hT.k;omega) hs.ext) (fun d2=>?_)⟩;refine⟨_,hs.rd 0 rfl rfl,sBi (fun d3=>RP.f (no fun hT=>by have:=hT.e.1;omega) hs.ext) (fun d3=>?_)⟩;refine⟨_,hs.rd 0 rfl rfl,_,hs.rd 1 rfl rfl,sBi (fun d4=>RP.f (no fun hT=>by obtain⟨_,y,hy,_⟩:=hT.e;have:=(Ya.1 hy).1;omega) hs.ext) (fun d4=>?_)⟩;refine⟨_,hs.rd 1 rfl rfl,_,hs.rd 0 rfl rfl,?_⟩;refine (hg.e.rw.ext hs.ext).nbI (by omega) (by omega) fun b o y gy ty=>?_;refine⟨_,ty.nth 0 rfl,_,hs.rd 0 rfl rfl,sBn (fun d5=>RP.f (no fun hT=>by obtain⟨_,z,hz,hf,_⟩:=hT.e;rw[gy] at hz;cases hz;omega) hs.ext) (fun d5=>⟨_,hs.rd 1 rfl rfl,_,hs.rd 0 rfl rfl,?_⟩)⟩;refine (hg.e.rw.ext hs.ext).nbI (by omega) (by omega) fun b o y2 gy2 ty=>?_;rw[gy] at gy2;cases gy2;refine⟨_,ty.nth 5 rfl,sB_intro (fun d6=>RP.f (no fun hT=>by obtain⟨_,z,hz,_,hf⟩:=hT.e;rw[gy] at hz;cases hz;rw[hf] at d6;cases d6) hs.ext) (fun d6=>?_)⟩;refine Up.next c (by omega) ⟨hs.drop 1,fun j z hj hz=>?_⟩;by_cases e:j=i
  .subst e;rw[gx] at hz;cases hz;exact⟨ho,by omega,by omega,y,gy,by omega,d6⟩
  .exact hq j z (by omega) hz
theorem before159 (g:Gl) (p q:Int) (h:Heap) (hg:GI h g) (hp0:0<=p) (hp1:p<g.es.length) (hq0:0<=q) (hq1:q<g.es.length):Fn Pz 159 #[g.v,.int .i64 p,.int .i64 q] h (RBo h):=by
 apply vc159 (bs g.nm) g.hr g.hd g.n g.s g.e g.he g.ht;unfold W159 V159a;have hen:=hg.e.ln;refine (St.refl h).newb fun h9 hs=>?_;have hrw:=hg.e.rw.ext hs.ext;have hsz:h.size<h9.size:=hc_blk (hs.rd 0 rfl (i:=0) rfl);refine⟨_,hs.rd 0 rfl rfl,?_⟩;refine hrw.nbI (by omega) (by omega) fun b1 o1 x _ t1=>?_;refine⟨_,_,_,t1.sub 1 3 rfl,_,hs.rd 0 rfl rfl,?_⟩;refine hrw.nbI (by omega) (by omega) fun b2 o2 y _ t2=>?_;have hb2:b2<h9.size:=hc_blk t2.hd;refine⟨_,_,_,t2.sub 1 3 rfl,?_,?_⟩
 .intro h22 e22;have E22:Ext h9 h22:=by rw[e22];exact Ext.push _ _
  refine⟨smx E22,?_⟩;have hs:St h h22 [.blk h9.size [.int .i64 0,.int .i64 0,.int .i64 0] 53,.blk h.size g.cs 27]:=hs.newb (K:=fun h22=>St h h22 [.blk h9.size [.int .i64 0,.int .i64 0,.int .i64 0] 53,.blk h.size g.cs 27]) (fun _ hs=>hs) h22 e22;intro h23 e23;have E23:Ext h22 h23:=by rw[e23];exact Ext.push _ _
  refine⟨smx E23,?_⟩;have hs:St h h23 [.blk h22.size [.int .i64 0,.int .i64 0,.int .i64 0] 53,.blk h9.size [.int .i64 0,.int .i64 0,.int .i64 0] 53,.blk h.size g.cs 27]:=hs.newb (K:=fun h23=>St h h23 [.blk h22.size [.int .i64 0,.int .i64 0,.int .i64 0] 53,.blk h9.size [.int .i64 0,.int .i64 0,.int .i64 0] 53,.blk h.size g.cs 27]) (fun _ hs=>hs) h23 e23;obtain⟨k1,k2⟩:=hs.put (K:=fun h'=>St h h' [.blk h22.size [.int .i64 0,.int .i64 0,.int .i64 0] 53,.blk h9.size [.int .i64 x.a,.int .i64 x.b,.int .i64 x.l] 53,.blk h.size g.cs 27]) 1 rfl (o:=0) (vs:=[.int .i64 x.a,.int .i64 x.b,.int .i64 x.l]) (n:=3) rfl (show 3<=3 by decide) (fun h' hs=>hs);refine⟨k1,fun h24 e24=>?_⟩;have hs:=k2 h24 e24;have hB:But h9.size h23 h24:=by rw[e24];exact But.hputs (a:=⟨h9.size,0,none⟩) _ _ _
  refine⟨Sm_but hB (fun a ha=>?_),?_⟩
  .simp only[Yr,List.not_mem_nil,or_false] at ha;rcases ha with rfl | rfl
   .show b2≠h9.size;omega
   .show h.size≠h9.size;omega
  refine hs.put 0 rfl (o:=0) (vs:=[.int .i64 y.a,.int .i64 y.b,.int .i64 y.l]) rfl (show 3<=3 by decide) fun h25 hs=>?_
  repeat' (first
    | exact .mk hs.ext
    | (refine sB_intro (fun _=>?_) (fun _=>?_))
    | (refine⟨_,hs.rd 0 rfl rfl,?_⟩)
    | (refine⟨_,hs.rd 1 rfl rfl,?_⟩))
 .intro h34 e34;have E34:Ext h9 h34:=by rw[e34];exact Ext.push _ _
  refine⟨smx E34,?_⟩;have hs:St h h34 [.blk h9.size [.int .i64 0,.int .i64 0,.int .i64 0] 53,.blk h.size g.cs 27]:=hs.newb (K:=fun h34=>St h h34 [.blk h9.size [.int .i64 0,.int .i64 0,.int .i64 0] 53,.blk h.size g.cs 27]) (fun _ hs=>hs) h34 e34;intro h35 e35;have E35:Ext h34 h35:=by rw[e35];exact Ext.push _ _
  refine⟨smx E35,?_⟩;have hsz34:h9.size<h34.size:=by rw[e34];simp
  have hs:St h h35 [.blk h34.size [.int .i64 0,.int .i64 0,.int .i64 0] 53,.blk h9.size [.int .i64 0,.int .i64 0,.int .i64 0] 53,.blk h.size g.cs 27]:=hs.newb (K:=fun h35=>St h h35 [.blk h34.size [.int .i64 0,.int .i64 0,.int .i64 0] 53,.blk h9.size [.int .i64 0,.int .i64 0,.int .i64 0] 53,.blk h.size g.cs 27]) (fun _ hs=>hs) h35 e35;obtain⟨k1,k2⟩:=hs.put (K:=fun h'=>St h h' [.blk h34.size [.int .i64 x.a,.int .i64 x.b,.int .i64 x.l] 53,.blk h9.size [.int .i64 0,.int .i64 0,.int .i64 0] 53,.blk h.size g.cs 27]) 0 rfl (o:=0) (vs:=[.int .i64 x.a,.int .i64 x.b,.int .i64 x.l]) (n:=3) rfl (show 3<=3 by decide) (fun h' hs=>hs);refine⟨k1,fun h36 e36=>?_⟩;have hs:=k2 h36 e36;have hB:But h34.size h35 h36:=by rw[e36];exact But.hputs (a:=⟨h34.size,0,none⟩) _ _ _
  refine⟨Sm_but hB (fun a ha=>?_),?_⟩
  .simp only[Yr,List.not_mem_nil,or_false] at ha;rcases ha with rfl | rfl
   .show b2≠h34.size;omega
   .show h.size≠h34.size;omega
  refine hs.put 1 rfl (o:=0) (vs:=[.int .i64 y.a,.int .i64 y.b,.int .i64 y.l]) rfl (show 3<=3 by decide) fun h37 hs=>?_
  repeat' (first
    | exact .mk hs.ext
    | (refine sB_intro (fun _=>?_) (fun _=>?_))
    | (refine⟨_,hs.rd 0 rfl rfl,?_⟩)
    | (refine⟨_,hs.rd 1 rfl rfl,?_⟩))
theorem intrw {h:Heap} {s:Sl} {L:List Int} (hr:Rw h 1 s (L.map inC)) (hc:s.n<=s.c) {i:Nat} (hi:i<=s.n):Rw h 1 ⟨subA s.a i s.c 1,s.n-i,s.c-i⟩ ((L.drop i).map inC):=by
 have hn:=hr.ln;rw[List.map_drop];by_cases h0:i=s.n
 .rw[List.drop_eq_nil_of_le (by rw[Yc];omega)];exact Rw.empty (by show s.n-i=0;omega)
 .exact hr.from hc (by omega)
theorem subA_nil {s:Sl} {i:Nat} (hna:s.a=none->s.n=0/\s.c=0) (h:subA s.a i s.c 1=none):s.n-i=0/\s.c-i=0:=by
 unfold subA at h;split at h
 .have:=hna h;omega
 .cases ha:s.a with
  | none=>have:=hna ha;omega
  | some a=>rw[ha] at h;cases h
def LOk (g:Gl) (p:Int) (i:Nat) (L:List Int):Prop:=(∀y∈L,0<=y/\y<g.es.length)/\(L=[] ↔ ∀(j:Nat) (x:Ed),j<i->g.es[j]?=some x->x.f≠p)
theorem edges116 (g:Gl) (p:Int) (h:Heap) (hg:GI h g):Fn Pz 116 #[g.v,.int .i64 p] h fun v h'=>(∃s:Sl,v=.slice s.a s.n s.c/\(s.n=0 ↔ ∀x∈g.es,x.f≠p))/\Ext h h':=by
 apply vc116 (bs g.nm) g.hr g.hd g.n g.s g.e g.he g.ht;unfold W116 V116a;have hen:=hg.e.ln;have hem:=hg.e.sm;refine (St.refl h).newb fun h9 hs=>?_;have hs:=hs.nil_ 3 1;refine⟨fun out x h' m=>∃(i:Nat) (L:List Int),x=i/\i<=g.he.n/\m=g.he.n-i/\L.length<=i/\LOk g p i L/\St h h' [.sl out 3 1 (L.map inC),.blk h.size g.cs 27],
  ⟨_,0,[],rfl,by omega,rfl,Yyt _,⟨(fun y hy=>by cases hy),iff_of_true rfl fun j x hj=>by omega⟩,hs⟩,?_⟩
 rintro-out _ h15 m ⟨i,L,rfl,hi,rfl,hLl,hL,hs⟩;refine⟨_,hs.rd 1 rfl rfl,sB_intro (fun c=>?_) (fun c=>⟨⟨_,rfl,?_⟩,hs.ext⟩)⟩;rotate_left
 .replace c:=lt_f c;have hol:=hs.len 0 rfl (by omega);rw[Yc] at hol;have hLe:out.n=0 ↔ L=[]:=by rw[<-List.length_eq_zero_iff];omega
  rw[hLe,hL.2];exact⟨fun hq x hx=>by obtain⟨j,hj⟩:=Yf.1 hx;exact hq j x (by have:=(Ya.1 hj).1;omega) hj,fun hq j x _ hj=>hq x (Yb hj)⟩
 replace c:=lt_t c;refine⟨_,hs.rd 1 rfl rfl,?_⟩;refine (hg.e.rw.ext hs.ext).nbI (by omega) (by omega) fun b18 o19 x gx t=>?_;replace gx:g.es[i]?=some x:=gx;refine⟨_,t.nth 0 rfl,sBn (fun cf=>?_) (fun cf=>?_)⟩
 .refine⟨_,by omega,i+1,L,by rw[w64 (by omega) (by omega)];omega,by omega,rfl,by omega,⟨hL.1,hL.2.trans ⟨fun hq j y hj hy=>?_,fun hq j y hj hy=>hq j y (by omega) hy⟩⟩,hs⟩;by_cases e:j=i
  .subst e;rw[gx] at hy;cases hy;exact cf
  .exact hq j y (by omega) hy
 have hol:=hs.len 0 rfl (by omega);rw[Yc] at hol
 have ins:∀(a:Nat) (h40:Heap),a<=out.n->St h h40 [.sl out 3 1 (L.map inC),.blk h.size g.cs 27]->∀h42:Heap,h42=h40.push (.cells ⟨[.int .i64 i]⟩ 3) ->
   App Pz 42 42 (.slice (some ⟨h40.size,0,none⟩) 1 1) (.slice (subA out.a a out.c 1) (out.n-a) (out.c-a)) h42 fun s43 h44=>
    App Pz 42 42 (.slice out.a a out.c) (.slice s43.a s43.n s43.c) h44 fun s45 h46=>∃m47,m47<g.he.n-i/\(∃(i':Nat) (L:List Int),IntKind.wrap .i64 ((i:Int)+1)=i'/\i'<=g.he.n/\m47=g.he.n-i'/\L.length<=i'/\LOk g p i' L/\St h h46 [.sl s45 3 1 (L.map inC),.blk h.size g.cs 27]):=by
  intro a h40 ha hs;refine hs.newb fun h42 hs=>?_;have hs2:=hs.blkS 1 1 ([(i:Int)].map inC) rfl (inrows _) rfl (by decide);refine hs2.appRw 0 rfl app42 (y:=⟨subA out.a a out.c 1,out.n-a,out.c-a⟩) (intrw (hs2.rows 1 rfl (by omega)) hol.2.1 ha) (inrows _) (fun hn=>subA_nil hol.2.2 hn) (by rw[List.all_eq_true];intro v hv;obtain⟨r,hr,hv2⟩:=List.mem_flatten.1 hv;obtain⟨z,_,rfl⟩:=Yp.1 hr;rw[Ye.1 hv2];rfl) (by show (1+(out.n-a))*8<=_;omega) (by show 1+(out.n-a)<=9223372036854775807;omega) fun s43 h44 hn43 hs=>?_;replace hs:St h h44 [.sl s43 3 1 (((i:Int)::L.drop a).map inC),.sl out 3 1 (L.map inC),.blk h.size g.cs 27]:=hs;have hcut:=hs.cut 1 rfl (by omega) a ha;rw[<-List.map_take] at hcut;replace hcut:St h h44 [.sl s43 3 1 (((i:Int)::L.drop a).map inC),.sl ⟨out.a,a,out.c⟩ 3 1 ((L.take a).map inC),.blk h.size g.cs 27]:=hcut;have h43:=hcut.len 0 rfl (by omega);refine hcut.appRw 1 rfl app42 (hcut.rows 0 rfl (by omega)) (inrows _) h43.2.2 (by rw[List.all_eq_true];intro v hv;obtain⟨r,hr,hv2⟩:=List.mem_flatten.1 hv;obtain⟨z,_,rfl⟩:=Yp.1 hr;rw[Ye.1 hv2];rfl) (by show (a+s43.n)*8<=_;rw[hn43];show (a+(1+(out.n-a)))*8<=_;omega) (by show a+s43.n<=9223372036854775807;rw[hn43];show a+(1+(out.n-a))<=_;omega) fun s45 h46 hn45 hs=>?_;replace hs:St h h46 [.sl s43 3 1 (((i:Int)::L.drop a).map inC),.sl s45 3 1 ((L.take a).map inC++((i:Int)::L.drop a).map inC),.blk h.size g.cs 27]:=hs;rw[<-Ym] at hs;refine⟨g.he.n-(i+1),by omega,i+1,L.take a++((i:Int)::L.drop a),by rw[w64 (by omega) (by omega)];omega,by omega,rfl,?_,⟨fun y hy=>?_,iff_of_false (by simp) fun hq=>hq i x (by omega) gx cf⟩,hs.drop 1⟩
  .rw[Yh,Yyj,Yu,List.length_drop];omega
  .rcases Yk.1 hy with hy | hy
   .exact hL.1 y (List.mem_of_mem_take hy)
   .rcases Yr.1 hy with rfl | hy
    .omega
    .exact hL.1 y (List.mem_of_mem_drop hy)
 refine up_loopS (n:=out.n) hs (fun _=>True) trivial ?_;rintro-a h26 ha ⟨hs,-⟩;have ht1:Int.toNat ((a:Nat):Int)=a:=by simp
 have ht2:Int.toNat ((out.n:Nat):Int)=out.n:=by simp
 refine sB_intro (fun c1=>?_) (fun c1=>?_)
 .replace c1:=lt_t c1;refine⟨_,_,_,_,_,_,_,_,hs.at 1 rfl (o:=0) (n:=8) rfl,?_⟩;refine (hs.rows 0 rfl (by omega)).nbI (by omega) (by omega) fun b35 o36 y gy ty=>?_;have hy:=hL.1 y (Yb gy);refine⟨_,ty.nth 0 rfl,?_⟩;refine (before159 g y i h26 (hg.ext hs.ext) hy.1 hy.2 (by omega) (by omega)).mono ?_;rintro _ h40 ⟨⟨bb,rfl⟩,E⟩;have hs:=hs.step E;refine⟨_,rfl,sB_intro (fun _=>Up.next c1 (by omega) ⟨hs,trivial⟩) (fun _=>?_)⟩;refine⟨⟨by omega,by omega,by omega⟩,⟨by omega,by omega,by omega⟩,?_⟩;rw[ht1,ht2,show Int.toNat 0=0 from rfl,subA_zero,Nat.sub_zero,Nat.sub_zero];exact ins a h40 (by omega) hs
 .replace c1:=lt_f c1;refine⟨⟨by omega,by omega,by omega⟩,⟨by omega,by omega,by omega⟩,?_⟩;rw[ht1,ht2,show Int.toNat 0=0 from rfl,subA_zero,Nat.sub_zero,Nat.sub_zero];exact ins a h26 (by omega) hs
end Go.VC
end

section
namespace Go.VC
structure EN (es:List Ed) (e:Int) (N n:Nat) (D:List Int):Prop where
 len:D.length=N
 src:Vis D e
 r:∀v,Vis D v->Rch es true e v
 b:∀d∈D,-1<=d/\d+D.count (-1)<=(N:Int)-1
 c:∀x∈es,∀d,0<=x.t->D[x.t.toNat]?=some d->0<=d->d<n->Vis D x.f
def ENk (es:List Ed) (n k:Nat) (D:List Int):Prop:=∀(j:Nat) (y:Ed),j<k->es[j]?=some y->0<=y.t->D[y.t.toNat]?=some (n:Int)->Vis D y.f
theorem count_rep (N:Nat):(List.replicate N (-1:Int)).count (-1)=N:=by rw[List.count_replicate,if_pos (by simp)]
theorem EN.start {es:List Ed} {e:Int} {N:Nat} (h0:0<=e) (h1:e<N):EN es e N 0 ((List.replicate N (-1:Int)).set e.toNat 0):=by
 have hl:e<(List.replicate N (-1:Int)).length:=by rw[Yg];exact h1
 have hv:∀v,Vis ((List.replicate N (-1:Int)).set e.toNat 0) v ↔ v=e:=fun v=>by
  rw[vis_set h0 hl (by omega)];refine⟨fun h=>h.elim id fun h=>?_,.inl⟩;obtain⟨_,d,hd,h2⟩:=h;have:=List.eq_of_mem_replicate (Yb hd);omega
 have hc:((List.replicate N (-1:Int)).set e.toNat 0).count (-1)+1=N:=by
  rw[List.count_set (by rw[Yg];omega),count_rep,List.getElem_replicate];simp;omega
 refine⟨by rw[Yyh,Yg],(hv e).2 rfl,fun v h=>?_,fun d hd=>?_,fun x _ d _ _ hd0 hd1=>by omega⟩
 .rw[(hv v).1 h];exact .refl
 .rcases List.mem_or_eq_of_mem_set hd with hd | rfl
  .rw[List.eq_of_mem_replicate hd];omega
  .omega
theorem EN.set {es:List Ed} {e:Int} {N n k:Nat} {D:List Int} (h:EN es e N n D) (hk:ENk es n k D) {x:Ed} (hx:es[k]?=some x) {d:Int} (ht0:0<=x.t) (ht:D[x.t.toNat]?=some (n:Int)) (hf0:0<=x.f) (hf:D[x.f.toNat]?=some d) (hd:d<0) :
  EN es e N n (D.set x.f.toNat (n+1))/\ENk es n (k+1) (D.set x.f.toNat (n+1)):=by
 have hfl:=(Ya.1 hf).1;have hfe:=(Ya.1 hf).2;have hd1:d=-1:=by have:=(h.b d (Yb hf)).1;omega
 subst hd1;have hvs:∀v,Vis (D.set x.f.toNat (n+1)) v ↔ v=x.f\/Vis D v:=fun v=>vis_set hf0 (by omega) (by omega);have hpos:0<D.count (-1):=List.count_pos_iff.2 (Yb hf);have hcnt:(D.set x.f.toNat ((n:Int)+1)).count (-1)+1=D.count (-1):=by
  rw[List.count_set hfl,hfe];have:(((n:Int)+1)==(-1:Int))=false:=by simp;omega
  rw[this];simp;omega
 have hub:=(h.b n (Yb ht)).2;have hne:∀ {y:Int} {d:Int},0<=y->(D.set x.f.toNat ((n:Int)+1))[y.toNat]?=some d->d<=n->D[y.toNat]?=some d:=fun {y d} hy hg hle=>by
  by_cases e:y.toNat=x.f.toNat
  .rw[e,Yq hfl] at hg;cases hg;omega
  .rwa [Yy (by omega)] at hg
 refine⟨⟨by rw[Yyh];exact h.len,(hvs e).2 (.inr h.src),fun v hv=>?_,fun d hd=>?_,fun y hy d h0 hg hd0 hd1=>?_⟩,fun j y hj hy h0 hg=>?_⟩
 .rcases (hvs v).1 hv with rfl | hv
  .exact (h.r x.t ⟨ht0,_,ht,by omega⟩).step ⟨x,Yb hx,rfl,rfl⟩
  .exact h.r v hv
 .rcases List.mem_or_eq_of_mem_set hd with hd | rfl
  .have:=h.b d hd;omega
  .omega
 .exact (hvs y.f).2 (.inr (h.c y hy d h0 (hne h0 hg (by omega)) hd0 hd1))
 .by_cases e:j=k
  .subst e;rw[hx] at hy;cases hy;exact (hvs x.f).2 (.inl rfl)
  .exact (hvs y.f).2 (.inr (hk j y (by omega) hy h0 (hne h0 hg (by omega))))
theorem ENk.skip {es:List Ed} {n k:Nat} {D:List Int} (hk:ENk es n k D) {x:Ed} (hx:es[k]?=some x) (h:0<=x.t->D[x.t.toNat]?=some (n:Int)->Vis D x.f):ENk es n (k+1) D:=fun j y hj hy h0 hg=>by
 by_cases e:j=k
 .subst e;rw[hx] at hy;cases hy;exact h h0 hg
 .exact hk j y (by omega) hy h0 hg
theorem EN.next {es:List Ed} {e:Int} {N n k:Nat} {D:List Int} (h:EN es e N n D) (hk:ENk es n k D) (hl:es.length<=k):EN es e N (n+1) D:=
 ⟨h.len,h.src,h.r,h.b,fun x hx d h0 hg hd0 hd1=>by
  obtain⟨j,hj⟩:=Yf.1 hx;by_cases hd:d=n
  .subst hd;exact hk j x (by have:=(Ya.1 hj).1;omega) hj h0 hg
  .exact h.c x hx d h0 hg hd0 (by omega)⟩
theorem EN.end_ {es:List Ed} {e:Int} {N:Nat} {D:List Int} (h:EN es e N N D) (v:Int):Vis D v ↔ Rch es true e v:=by
 refine⟨h.r v,fun hr=>?_⟩
 induction hr with
 | refl=>exact h.src
 | step _ hbc ih=>
  obtain⟨x,hx,h1,h2⟩:=hbc;obtain⟨h0,d,hd,hd0⟩:=ih;have hb:=(h.b d (Yb hd)).2;have h1':x.t=_:=h1;have h2':x.f=_:=h2;rw[<-h2'];rw[<-h1'] at hd h0;exact h.c x hx d h0 hd hd0 (by omega)
def VB (R:List Bool) (v:Int):Prop:=0<=v/\R[v.toNat]?=some true
def ClB (es:List Ed) (k:Nat) (R:List Bool):Prop:=∀(j:Nat) (y:Ed),j<k->es[j]?=some y->VB R y.f->VB R y.t
structure RE (es:List Ed) (s:Int) (N:Nat) (R:List Bool):Prop where
 len:R.length=N
 src:VB R s
 r:∀v,VB R v->Rch es false s v
def RN (es:List Ed) (n k:Nat) (R:List Bool):Prop:=ClB es es.length R\/(n+1<=R.count true/\(ClB es k R\/n+2<=R.count true))
theorem vb_set {R:List Bool} {b v:Int} (hb0:0<=b) (hb:b.toNat<R.length):VB (R.set b.toNat true) v ↔ v=b\/VB R v:=by
 unfold VB;constructor
 .rintro⟨h0,h1⟩;by_cases e:v=b
  .exact .inl e
  .rw[Yy (by omega)] at h1;exact .inr ⟨h0,h1⟩
 .rintro (rfl | ⟨h0,h1⟩)
  .exact⟨hb0,by rw[Yq hb]⟩
  .by_cases e:v=b
   .subst e;exact⟨hb0,by rw[Yq hb]⟩
   .exact⟨h0,by rw[Yy (by omega)];exact h1⟩
theorem RE.start {es:List Ed} {s:Int} {N:Nat} (h0:0<=s) (h1:s<N):RE es s N ((List.replicate N false).set s.toNat true)/\RN es 0 0 ((List.replicate N false).set s.toNat true):=by
 have hv:∀v,VB ((List.replicate N false).set s.toNat true) v ↔ v=s:=fun v=>by
  rw[vb_set h0 (by rw[Yg];omega)];refine⟨fun h=>h.elim id fun h=>?_,.inl⟩;have:=List.eq_of_mem_replicate (Yb h.2);cases this
 refine⟨⟨by rw[Yyh,Yg],(hv s).2 rfl,fun v h=>by rw[(hv v).1 h];exact .refl⟩,.inr ⟨?_,.inl fun j y hj=>by omega⟩⟩;exact List.count_pos_iff.2 (Yb (i:=s.toNat) (by rw[Yq (by rw[Yg];omega)]))
theorem RE.set {es:List Ed} {s:Int} {N n k:Nat} {R:List Bool} (h:RE es s N R) (hn:RN es n k R) {x:Ed} (hx:es[k]?=some x) (ht0:0<=x.t) (ht:R[x.t.toNat]?=some false) (hf0:0<=x.f) (hf:R[x.f.toNat]?=some true) :
  RE es s N (R.set x.t.toNat true)/\RN es n (k+1) (R.set x.t.toNat true):=by
 have htl:=(Ya.1 ht).1;have hte:=(Ya.1 ht).2;have hvs:∀v,VB (R.set x.t.toNat true) v ↔ v=x.t\/VB R v:=fun v=>vb_set ht0 htl;have hcnt:(R.set x.t.toNat true).count true=R.count true+1:=by
  rw[List.count_set htl,hte];simp
 refine⟨⟨by rw[Yyh];exact h.len,(hvs s).2 (.inr h.src),fun v hv=>?_⟩,?_⟩
 .rcases (hvs v).1 hv with rfl | hv
  .exact (h.r x.f ⟨hf0,hf⟩).step ⟨x,Yb hx,rfl,rfl⟩
  .exact h.r v hv
 .rcases hn with hn | ⟨h1,_⟩
  .have:=hn k x (Ya.1 hx).1 hx ⟨hf0,hf⟩;rw[this.2] at ht;cases ht
  .exact .inr ⟨by omega,.inr (by omega)⟩
theorem RN.skip {es:List Ed} {n k:Nat} {R:List Bool} (hn:RN es n k R) {x:Ed} (hx:es[k]?=some x) (h:VB R x.f->VB R x.t):RN es n (k+1) R:=by
 rcases hn with hn | ⟨h1,h2⟩
 .exact .inl hn
 .refine .inr ⟨h1,h2.imp_left fun hc j y hj hy hv=>?_⟩;by_cases e:j=k
  .subst e;rw[hx] at hy;cases hy;exact h hv
  .exact hc j y (by omega) hy hv
theorem RN.next {es:List Ed} {n k:Nat} {R:List Bool} (hn:RN es n k R) (hl:es.length<=k):RN es (n+1) 0 R:=by
 rcases hn with hn | ⟨h1,h2 | h2⟩
 .exact .inl hn
 .exact .inl fun j y hj hy=>h2 j y (by omega) hy
 .exact .inr ⟨by omega,.inl fun j y hj=>by omega⟩
theorem RE.end_ {es:List Ed} {s:Int} {N:Nat} {R:List Bool} (h:RE es s N R) (hn:RN es N 0 R) (v:Int):VB R v ↔ Rch es false s v:=by
 refine⟨h.r v,fun hr=>?_⟩;have hc:ClB es es.length R:=by
  rcases hn with hn | ⟨h1,_⟩
  .exact hn
  .have:=h.len;have:R.count true<=R.length:=List.count_le_length;omega
 induction hr with
 | refl=>exact h.src
 | step _ hbc ih=>
  obtain⟨x,hx,h1,h2⟩:=hbc;obtain⟨j,hj⟩:=Yf.1 hx;have h1':x.f=_:=h1;have h2':x.t=_:=h2;rw[<-h2'];exact hc j x (Ya.1 hj).1 hj (by rw[h1'];exact ih)
end Go.VC
end

section
namespace Go.VC
open Go.Proofs Go.LexS
theorem ints_set {L:List Int} {i:Nat} (h:i<L.length) (y:Int):splice (L.map (Value.int .i64)) i [.int .i64 y]=(L.set i y).map (Value.int .i64):=by
 rw[splice_set (by rw[Yc];exact h),List.map_set]
theorem bools_set {L:List Bool} {i:Nat} (h:i<L.length) (y:Bool):splice (L.map Value.bool) i [.bool y]=(L.set i y).map Value.bool:=by
 rw[splice_set (by rw[Yc];exact h),List.map_set]
theorem ints_flat:∀L:List Int,L.map (Value.int .i64)=(L.map inC).flatten
 | []=>rfl
 | a::L=>by rw[Yyl,Yyl,Yyu,ints_flat L];rfl
theorem made3I (n:Nat):madeL Pz 3 n=(List.replicate n (0:Int)).map (Value.int .i64):=by rw[made3,List.map_replicate]
theorem at_ints {L:List Int} {i:Nat} (h:i<L.length):∃y,(L.map (Value.int .i64))[i]?=some (.int .i64 y)/\L[i]?=some y:=⟨L[i],by rw[Yd,Yi h];rfl,Yi h⟩
theorem at_bools {L:List Bool} {i:Nat} (h:i<L.length):∃y,(L.map Value.bool)[i]?=some (.bool y)/\L[i]?=some y:=⟨L[i],by rw[Yd,Yi h];rfl,Yi h⟩
theorem ends115 (g:Gl) (h:Heap) (hg:GI h g) (hN:NumR g):Fn Pz 115 #[g.v] h fun v h'=>Ext h h'/\∃(s:Sl) (L:List Int),v=.slice s.a s.n s.c/\Rw h' 1 s (L.map inC)/\L.length=g.n.toNat/\∀v,Vis L v ↔ Rch g.es true g.e v:=by
 apply vc115 (bs g.nm) g.hr g.hd g.n g.s g.e g.he g.ht;unfold W115;have hen:=hg.e.ln;have hem:=hg.e.sm;obtain⟨N,hNn⟩:∃N:Nat,g.n=N:=⟨g.n.toNat,by have:=hN.n;omega⟩;have hn1:=hN.n;have hE:=hN.e;have htN:g.n.toNat=N:=by omega
 refine (St.refl h).newb fun h9 hs=>?_;refine⟨_,hs.rd 0 rfl rfl,⟨by omega,by omega,by omega⟩,?_⟩;rw[made3I];refine hs.newb fun h11 hs=>?_;refine⟨fun x h' m=>∃(i:Nat) (L:List Int),x=i/\i<=N/\m=N-i/\(L.length=N/\∀(j:Nat),j<i->L[j]?=some (-1))/\St h h' [.blk h9.size (L.map (Value.int .i64)) 3,.blk h.size g.cs 27],⟨_,0,_,rfl,by omega,rfl,⟨by rw[Yg];exact htN,fun j hj=>by omega⟩,hs⟩,?_⟩;rintro-_ h16 m ⟨i,L,rfl,hi,rfl,⟨hL,hLv⟩,hs⟩;refine⟨_,hs.rd 1 rfl rfl,sB_intro (fun c=>?_) (fun c0=>?_)⟩
 .replace c:=Yyn c;refine⟨⟨by omega,by omega⟩,?_⟩;rw[show 0+Int.toNat (i:Int)*1=i by simp];refine hs.put 0 rfl (o:=i) (vs:=[.int .i64 (-1)]) rfl (by rw[Yc];show i+1<=_;omega) fun h18 hs=>?_;rw[ints_set (by omega)] at hs;refine⟨_,by omega,i+1,L.set i (-1),by rw[w64 (by omega) (by omega)];omega,by omega,rfl,⟨by rw[Yyh];exact hL,fun j hj=>?_⟩,hs⟩;by_cases e:j=i
  .subst e;rw[Yq (by omega)]
  .rw[Yy (by omega)];exact hLv j (by omega)
 replace c0:=Yyo c0;have hLr:L=List.replicate N (-1):=Yyr fun j=>by
  by_cases hj:j<N
  .rw[hLv j (by omega),List.getElem?_replicate,if_pos hj]
  .rw[Yl (by omega),List.getElem?_replicate,if_neg hj]
 subst hLr;refine⟨_,hs.rd 1 rfl rfl,⟨by omega,by omega⟩,?_⟩;obtain⟨e,he⟩:∃e:Nat,g.e=e:=⟨g.e.toNat,by omega⟩;rw[he,show 0+Int.toNat (e:Int)*1=e by simp];refine hs.put 0 rfl (o:=e) (vs:=[.int .i64 0]) rfl (by rw[Yc];show e+1<=_;omega) fun h21 hs=>?_;rw[ints_set (by omega)] at hs;refine⟨fun x h' m=>∃(i:Nat) (L:List Int),x=i/\i<=N/\m=N-i/\EN g.es g.e N i L/\St h h' [.blk h9.size (L.map (Value.int .i64)) 3,.blk h.size g.cs 27],⟨_,0,_,rfl,by omega,rfl,?_,hs⟩,?_⟩
 .have:=EN.start (es:=g.es) (e:=g.e) (N:=N) (by omega) (by omega);rw[he] at this ⊢;exact this
 rintro-_ h26 m ⟨n,L2,rfl,hn,rfl,en2,hs⟩;have hL2:=en2.len;refine⟨_,hs.rd 1 rfl rfl,sB_intro (fun c=>?_) (fun cE=>?_)⟩
 .replace c:=Yyn c;refine⟨fun x h' m=>∃(i:Nat) (L:List Int),x=i/\i<=g.he.n/\m=g.he.n-i/\(EN g.es g.e N n L/\ENk g.es n i L)/\St h h' [.blk h9.size (L.map (Value.int .i64)) 3,.blk h.size g.cs 27],⟨_,0,L2,rfl,by omega,rfl,⟨en2,fun j y hj=>by omega⟩,hs⟩,?_⟩;rintro-_ h32 m ⟨k,L3,rfl,hk,rfl,⟨en3,ek⟩,hs⟩;have hL3:=en3.len;refine⟨_,hs.rd 1 rfl rfl,sB_intro (fun c2=>?_) (fun c2=>⟨_,by omega,n+1,L3,by rw[w64 (by omega) (by omega)];omega,by omega,rfl,en3.next ek (by have:=lt_f c2;omega),hs⟩)⟩;replace c2:=lt_t c2;refine⟨_,hs.rd 1 rfl rfl,?_⟩;refine (hg.e.rw.ext hs.ext).nbI (by omega) (by omega) fun b o x gx t=>?_;replace gx:g.es[k]?=some x:=gx;have hx:=hN.es x (Yb gx);obtain⟨xt,hxt⟩:∃a:Nat,x.t=a:=⟨x.t.toNat,by omega⟩;obtain⟨xf,hxf⟩:∃a:Nat,x.f=a:=⟨x.f.toNat,by omega⟩;refine⟨_,_,_,_,_,_,t,?_⟩;refine hs.newput (vs:=x.cs) rfl rfl fun h44 hs=>?_;obtain⟨y1,hy1,hz1⟩:=at_ints (L:=L3) (i:=xt) (by omega);obtain⟨y2,hy2,hz2⟩:=at_ints (L:=L3) (i:=xf) (by omega);have htt:x.t.toNat=xt:=by omega
  have htf:x.f.toNat=xf:=by omega
  have nxt:∀ {h':Heap} {L4:List Int},(EN g.es g.e N n L4/\ENk g.es n (k+1) L4)->St h h' [.blk h9.size (L4.map (Value.int .i64)) 3,.blk h.size g.cs 27]->∃m53,m53<g.he.n-k/\∃(i:Nat) (L:List Int),IntKind.wrap .i64 ((k:Int)+1)=i/\i<=g.he.n/\m53=g.he.n-i/\(EN g.es g.e N n L/\ENk g.es n i L)/\St h h' [.blk h9.size (L.map (Value.int .i64)) 3,.blk h.size g.cs 27]:=fun h4 hs=>
   ⟨_,by omega,k+1,_,by rw[w64 (by omega) (by omega)];omega,by omega,rfl,h4,hs⟩
  refine⟨x.t,hs.rd 0 rfl rfl,⟨by omega,by omega⟩,?_⟩;rw[hxt,show 0+Int.toNat (xt:Int)*1=xt by simp];refine⟨y1,hs.rd 1 rfl hy1,sBe (fun e1=>?_) (fun e1=>nxt ⟨en3,ek.skip gx fun _ hg1=>by rw[htt,hz1] at hg1;cases hg1;exact absurd rfl e1⟩ (hs.drop 1))⟩;refine⟨x.f,hs.rd 0 rfl rfl,⟨by omega,by omega⟩,?_⟩;rw[hxf,show 0+Int.toNat (xf:Int)*1=xf by simp];refine⟨y2,hs.rd 1 rfl hy2,sBi (fun e2=>?_) (fun e2=>nxt ⟨en3,ek.skip gx fun _ _=>⟨by omega,y2,by rw[htf];exact hz2,by omega⟩⟩ (hs.drop 1))⟩;refine⟨x.f,hs.rd 0 rfl rfl,⟨by omega,by omega⟩,?_⟩;rw[hxf,show 0+Int.toNat (xf:Int)*1=xf by simp];refine hs.put 1 rfl (o:=xf) (vs:=[.int .i64 (IntKind.wrap .i64 ((n:Int)+1))]) rfl (by rw[Yc];show xf+1<=_;omega) fun h50 hs=>?_;rw[ints_set (by omega)] at hs;rw[show IntKind.wrap .i64 ((n:Int)+1)=(n:Int)+1 from w64 (by omega) (by omega)] at hs;refine nxt ?_ (hs.drop 1);have:=en3.set ek gx (by omega) (by rw[htt,hz1,e1]) (by omega) (by rw[htf];exact hz2) e2;rw[htf] at this;exact this
 .have hfl:=ints_flat L2;rw[htN];have hs2:=hs.blkS N 1 (L2.map inC) hfl (inrows _) (by rw[Yc];exact hL2) (by show N<=9223372036854775807;omega);have hnN:n=N:=by have:=Yyo cE;omega
  have en3:EN g.es g.e N N L2:=by rw[hnN] at en2;exact en2
  exact⟨hs.ext,⟨some ⟨h9.size,0,none⟩,N,N⟩,L2,rfl,hs2.rows 0 rfl (by omega),hL2,fun v=>by rw[<-he];exact en3.end_ v⟩
theorem made4l (n:Nat):madeL Pz 4 n=(List.replicate n false).map Value.bool:=made4 n
structure ConS (g:Gl):Prop where
 f:∀v:Int,0<=v->v<g.n->Rch g.es false g.s v
 b:∀v:Int,0<=v->v<g.n->Rch g.es true g.e v
 e:∀x∈g.es,x.f≠g.e
theorem connected67 (g:Gl) (h:Heap) (hg:GI h g) (hN:NumR g):Fn Pz 67 #[g.v] h (RP (ConS g) h):=by
 apply vc67 (bs g.nm) g.hr g.hd g.n g.s g.e g.he g.ht;unfold W67;have hen:=hg.e.ln;have hem:=hg.e.sm;obtain⟨N,hNn⟩:∃N:Nat,g.n=N:=⟨g.n.toNat,by have:=hN.n;omega⟩;have hn1:=hN.n;have hS:=hN.s;have htN:g.n.toNat=N:=by omega
 refine (St.refl h).newb fun h9 hs=>?_;refine⟨_,hs.rd 0 rfl rfl,⟨by omega,by omega,by omega⟩,?_⟩;rw[made4l];refine hs.newb fun h11 hs=>?_;refine⟨_,hs.rd 1 rfl rfl,⟨by omega,by omega⟩,?_⟩;obtain⟨s0,hs0⟩:∃e:Nat,g.s=e:=⟨g.s.toNat,by omega⟩;rw[hs0,show 0+Int.toNat (s0:Int)*1=s0 by simp];refine hs.put 0 rfl (o:=s0) (vs:=[.bool true]) rfl (by rw[Yc,Yg];show s0+1<=_;omega) fun h13 hs=>?_;rw[bools_set (by rw[Yg];omega)] at hs;refine⟨fun x h' m=>∃(i:Nat) (L:List Bool),x=i/\i<=N/\m=N-i/\(RE g.es g.s N L/\RN g.es i 0 L)/\St h h' [.blk h9.size (L.map Value.bool) 4,.blk h.size g.cs 27],⟨_,0,_,rfl,by omega,rfl,?_,hs⟩,?_⟩
 .have:=RE.start (es:=g.es) (s:=g.s) (N:=N) (by omega) (by omega);rw[htN];rw[hs0] at this ⊢;exact this
 rintro-_ h18 m ⟨n,L,rfl,hn,rfl,⟨re1,rn1⟩,hs⟩;have hL:=re1.len;refine⟨_,hs.rd 1 rfl rfl,sB_intro (fun c=>?_) (fun cE=>?_)⟩
 .replace c:=Yyn c;refine⟨fun x h' m=>∃(i:Nat) (L:List Bool),x=i/\i<=g.he.n/\m=g.he.n-i/\(RE g.es g.s N L/\RN g.es n i L)/\St h h' [.blk h9.size (L.map Value.bool) 4,.blk h.size g.cs 27],⟨_,0,L,rfl,by omega,rfl,⟨re1,rn1⟩,hs⟩,?_⟩;rintro-_ h24 m ⟨k,L3,rfl,hk,rfl,⟨re3,rn3⟩,hs⟩;have hL3:=re3.len;refine⟨_,hs.rd 1 rfl rfl,sB_intro (fun c2=>?_) (fun c2=>⟨_,by omega,n+1,L3,by rw[w64 (by omega) (by omega)];omega,by omega,rfl,⟨re3,rn3.next (by have:=lt_f c2;omega)⟩,hs⟩)⟩;replace c2:=lt_t c2;have nxt:∀ {h':Heap} {L4:List Bool},(RE g.es g.s N L4/\RN g.es n (k+1) L4)->St h h' [.blk h9.size (L4.map Value.bool) 4,.blk h.size g.cs 27]->∃m53,m53<g.he.n-k/\∃(i:Nat) (L:List Bool),IntKind.wrap .i64 ((k:Int)+1)=i/\i<=g.he.n/\m53=g.he.n-i/\(RE g.es g.s N L/\RN g.es n i L)/\St h h' [.blk h9.size (L.map Value.bool) 4,.blk h.size g.cs 27]:=fun h4 hs=>
   ⟨_,by omega,k+1,_,by rw[w64 (by omega) (by omega)];omega,by omega,rfl,h4,hs⟩
  refine⟨_,hs.rd 1 rfl rfl,?_⟩;have hrw:=hg.e.rw.ext hs.ext;refine hrw.nbI (by omega) (by omega) fun b o x gx t=>?_;replace gx:g.es[k]?=some x:=gx;have hx:=hN.es x (Yb gx);obtain⟨xt,hxt⟩:∃a:Nat,x.t=a:=⟨x.t.toNat,by omega⟩;obtain⟨xf,hxf⟩:∃a:Nat,x.f=a:=⟨x.f.toNat,by omega⟩;obtain⟨y1,hy1,hz1⟩:=at_bools (L:=L3) (i:=xt) (by omega);obtain⟨y2,hy2,hz2⟩:=at_bools (L:=L3) (i:=xf) (by omega);have htt:x.t.toNat=xt:=by omega
  have htf:x.f.toNat=xf:=by omega
  have same:∀ {b:Bool},L3[xt]?=some b->L3.set xt b=L3:=fun {b} hb=>by
   obtain⟨hl,he⟩:=Ya.1 hb;rw[<-he,List.set_getElem_self]
  refine⟨x.t,t.nth 4 rfl,?_⟩;refine⟨_,hs.rd 1 rfl rfl,?_⟩;refine hrw.nbI (by omega) (by omega) fun b o x' gx' t'=>?_;replace gx':g.es[k]?=some x':=gx';rw[gx] at gx';cases gx';refine⟨x.t,t'.nth 4 rfl,⟨by omega,by omega⟩,?_⟩;rw[hxt,show 0+Int.toNat (xt:Int)*1=xt by simp];refine⟨y1,hs.rd 0 rfl hy1,sB_intro (fun e1=>?_) (fun e1=>?_)⟩
  .refine⟨⟨by omega,by omega⟩,?_⟩;refine hs.put 0 rfl (o:=xt) (vs:=[.bool true]) rfl (by rw[Yc];show xt+1<=_;omega) fun h35 hs=>?_;rw[bools_set (by omega),same (by rw[hz1,e1])] at hs;exact nxt ⟨re3,rn3.skip gx fun _=>⟨by omega,by rw[htt,hz1,e1]⟩⟩ hs
  .refine⟨_,hs.rd 1 rfl rfl,?_⟩;refine hrw.nbI (by omega) (by omega) fun b o x' gx' t'=>?_;replace gx':g.es[k]?=some x':=gx';rw[gx] at gx';cases gx';refine⟨x.f,t'.nth 0 rfl,⟨by omega,by omega⟩,?_⟩;rw[hxf,show 0+Int.toNat (xf:Int)*1=xf by simp];refine⟨y2,hs.rd 0 rfl hy2,⟨by omega,by omega⟩,?_⟩;refine hs.put 0 rfl (o:=xt) (vs:=[.bool y2]) rfl (by rw[Yc];show xt+1<=_;omega) fun h42 hs=>?_;rw[bools_set (by omega)] at hs;refine nxt ?_ hs;cases y2 with
   | true=>
    have:=re3.set rn3 gx (by omega) (by rw[htt,hz1,e1]) (by omega) (by rw[htf];exact hz2);rw[htt] at this;exact this
   | false=>
    rw[same (by rw[hz1,e1])];exact⟨re3,rn3.skip gx fun hv=>by have:=hv.2;rw[htf,hz2] at this;cases this⟩
 .refine⟨_,_,_,_,_,_,_,_,hs.at 1 rfl (o:=0) (n:=8) rfl,?_⟩;refine (ends115 g h18 (hg.ext hs.ext) hN).mono ?_;rintro _ h55 ⟨E,l,L2,rfl,hl,hl2,hvis⟩;have hnN:n=N:=by have:=Yyo cE;omega
  have rn2:RN g.es N 0 L:=by rw[hnN] at rn1;exact rn1
  have hreach:=re1.end_ rn2;have hs:=hs.step E;have hln:=hl.ln;refine⟨_,rfl,?_⟩;refine⟨fun x h' m=>∃i:Nat,x=i/\i<=N/\m=N-i/\h'=h55/\∀v:Int,0<=v->v<i->Rch g.es false g.s v/\Rch g.es true g.e v,⟨_,0,rfl,by omega,rfl,rfl,fun v h1 h2=>by omega⟩,?_⟩;rintro-_ h60 m ⟨i,rfl,hi,rfl,rfl,hq⟩;refine⟨_,hs.rd 1 rfl rfl,sB_intro (fun c=>?_) (fun c=>?_)⟩
  .replace c:=Yyn c;obtain⟨y1,hy1,hz1⟩:=at_bools (L:=L) (i:=i) (by omega);refine⟨⟨by omega,by omega⟩,?_⟩;rw[show 0+Int.toNat (i:Int)*1=i by simp];refine⟨y1,hs.rd 0 rfl hy1,sB_intro (fun e1=>RP.f (fun hG=>?_) hs.ext) (fun e1=>?_)⟩
   .have:=((hreach i).2 (hG.f i (by omega) (by omega))).2;rw[show ((i:Int)).toNat=i from rfl,hz1] at this;cases this;cases e1
   refine hl.nbI (by omega) (by omega) fun b o y gy t=>?_;replace gy:L2[i]?=some y:=gy;refine⟨_,t.nth 0 rfl,sBi (fun e2=>RP.f (fun hG=>?_) hs.ext) (fun e2=>⟨_,by omega,i+1,by rw[w64 (by omega) (by omega)];omega,by omega,rfl,rfl,fun v h1 h2=>?_⟩)⟩
   .obtain⟨_,d,hd,hd0⟩:=(hvis i).2 (hG.b i (by omega) (by omega));rw[show ((i:Int)).toNat=i from rfl,gy] at hd;cases hd;omega
   .by_cases e:v=(i:Int)
    .subst e;exact⟨(hreach i).1 ⟨by omega,by rw[show ((i:Int)).toNat=i from rfl,hz1,bT e1]⟩,(hvis i).1 ⟨by omega,y,gy,by omega⟩⟩
    .exact hq v h1 (by omega)
  .refine⟨_,_,_,_,_,_,_,_,hs.at 1 rfl (o:=0) (n:=8) rfl,_,hs.rd 1 rfl rfl,?_⟩;refine (edges116 g g.e _ (hg.ext hs.ext)).mono ?_;rintro _ h78 ⟨⟨q,rfl,hqe⟩,E⟩;replace c:=Yyo c;refine⟨_,rfl,RP.e ?_ (hs.step E).ext⟩;have hb:∀b:Bool,(b=true ↔ q.n=0)->(b=true ↔ ConS g):=fun b hb=>hb.trans (hqe.trans ⟨fun he=>⟨fun v h1 h2=>(hq v h1 (by omega)).1,fun v h1 h2=>(hq v h1 (by omega)).2,he⟩,fun hG=>hG.e⟩);refine hb _ ?_;simp
theorem names64 (g:Gl) (h:Heap) (hg:GI h g) (hM:GNm g.ds):Fn Pz 64 #[g.v] h (RP (NamedS g/\DeclS g.ds) h):=by
 apply vc64 (bs g.nm) g.hr g.hd g.n g.s g.e g.he g.ht;unfold W64;have hrn:=hg.r.ln;have hrm:=hg.r.sm;refine (St.refl h).newb fun h9 hs=>?_;refine up_loopS (n:=g.hr.n) hs (fun i=>∀(j:Nat) (s:Nm),j<i->g.rs[j]?=some s->isWord s=true/\s∉g.rs.take j) (fun j s hj=>by omega) ?_;rintro-i h14 hi ⟨hs,hq⟩;refine⟨_,hs.rd 0 rfl rfl,sB_intro (fun c=>?_) (fun c=>?_)⟩
 .replace c:=lt_t c;refine⟨_,hs.rd 0 rfl rfl,?_⟩;refine (hg.r.rw.ext hs.ext).nbI (by omega) (by omega) fun b o x gx t=>?_;replace gx:g.rs[i]?=some x:=gx;refine⟨_,t.nth 0 rfl,?_⟩;refine (isWord111 (bs x) h14).mono ?_;rintro _ h22 ⟨rfl,E⟩;have hs:=hs.step E;refine⟨_,rfl,sB_intro (fun c1=>RP.f (fun hG=>?_) hs.ext) (fun c1=>?_)⟩
  .have:=(hG.1.r i x gx).1;rw[bs_list,this] at c1;cases c1
  refine⟨_,hs.rd 0 rfl rfl,_,hs.rd 0 rfl rfl,?_⟩;refine (hg.r.rw.ext hs.ext).nbI (by omega) (by omega) fun b o x2 gx2 t=>?_;replace gx2:g.rs[i]?=some x2:=gx2;rw[gx] at gx2;cases gx2;refine⟨_,t.nth 0 rfl,?_⟩;refine (index112 g.rs g.hr (bs x) h22 (hg.r.rw.ext hs.ext) hrm).mono ?_;rintro _ h30 ⟨⟨k,rfl,hk⟩,rfl⟩;replace hk:=hk i (by omega);rw[bs_list] at hk;have hxm:x∈g.rs:=Yb gx;refine⟨_,rfl,fun _ _ _ _ hv=>hv,sBi (fun c2=>RP.f (fun hG=>?_) hs.ext) (fun c2=>Up.next c (by omega) ⟨hs,fun j s hj hj2=>?_⟩)⟩
  .rcases hk.1 c2 with h1 | h1
   .exact (hG.1.r i x gx).2 h1
   .exact h1 hxm
  .by_cases e:j=i
   .subst e;rw[gx] at hj2;cases hj2;refine⟨by have:=bT c1;rw[bs_list] at this;exact this,fun hm=>c2 (hk.2 (.inl hm))⟩
   .exact hq j s (by omega) hj2
 .replace c:=lt_f c;refine⟨_,hs.rd 0 rfl rfl,?_⟩;refine (isWord111 (bs g.nm) h14).mono ?_;rintro _ h35 ⟨rfl,E⟩;have hs:=hs.step E;refine⟨_,rfl,sB_intro (fun c1=>⟨_,hs.rd 0 rfl rfl,sBi (fun c2=>⟨_,hs.rd 0 rfl rfl,sBi (fun c3=>⟨_,hs.rd 0 rfl rfl,?_⟩) (fun c3=>RP.f (fun hG=>c3 (by have:=hG.1.n6;omega)) hs.ext)⟩) (fun c2=>RP.f (fun hG=>c2 (by have:=hG.1.n1;omega)) hs.ext)⟩) (fun c1=>RP.f (fun hG=>by rw[bs_list,hG.1.w] at c1;cases c1) hs.ext)⟩;refine (refValid113 g.ds g.hd h35 (hg.d.ext hs.ext) hM).mono ?_;rintro _ h41 ⟨⟨b2,rfl,hb2⟩,E⟩;refine⟨_,rfl,RP.e (hb2.trans ⟨fun hd=>⟨⟨by rw[bs_list] at c1;exact c1,by omega,by omega,fun j s hj=>hq j s (by have:=(Ya.1 hj).1;omega) hj⟩,hd⟩,fun hG=>hG.2⟩) (hs.step E).ext⟩
theorem refValid31 (g:Gl) (h:Heap) (hg:GI h g) (hM:GNm g.ds):Fn Pz 31 #[g.v] h (RP (ValidS g) h):=by
 apply vc31 (bs g.nm) g.hr g.hd g.n g.s g.e g.he g.ht;unfold W31;refine (St.refl h).newb fun h9 hs=>?_;refine⟨_,_,_,_,_,_,_,_,hs.at 0 rfl (o:=0) (n:=8) rfl,?_⟩;refine (names64 g h9 (hg.ext hs.ext) hM).mono ?_;rintro _ h20 ⟨⟨b1,rfl,hb1⟩,E⟩;have hs:=hs.step E;refine⟨_,rfl,sB_intro (fun c1=>?_) (fun c1=>RP.f (fun hG=>iff_f hb1 c1 ⟨hG.nam,hG.dcl⟩) hs.ext)⟩;refine⟨_,_,_,_,_,_,_,_,hs.at 0 rfl (o:=0) (n:=8) rfl,?_⟩;refine (numbers65 g h20 (hg.ext hs.ext)).mono ?_;rintro _ h31 ⟨⟨b2,rfl,hb2⟩,E⟩;have hs:=hs.step E;refine⟨_,rfl,sB_intro (fun c2=>?_) (fun c2=>RP.f (fun hG=>iff_f hb2 c2 hG.num) hs.ext)⟩;have hN:=hb2.1 c2;refine⟨_,_,_,_,_,_,_,_,hs.at 0 rfl (o:=0) (n:=8) rfl,?_⟩;refine (apart66 g h31 (hg.ext hs.ext)).mono ?_;rintro _ h42 ⟨⟨b3,rfl,hb3⟩,E⟩;have hs:=hs.step E;refine⟨_,rfl,sB_intro (fun c3=>?_) (fun c3=>RP.f (fun hG=>iff_f hb3 c3 ⟨hG.ord.s,hG.ord.p⟩) hs.ext)⟩;refine⟨_,_,_,_,_,_,_,_,hs.at 0 rfl (o:=0) (n:=8) rfl,?_⟩;refine (connected67 g h42 (hg.ext hs.ext) hN.R).mono ?_;rintro _ h53 ⟨⟨b4,rfl,hb4⟩,E⟩;have hs:=hs.step E;refine⟨_,rfl,sB_intro (fun c4=>?_) (fun c4=>RP.f (fun hG=>iff_f hb4 c4 ⟨hG.fwd,hG.bwd,hG.ord.e⟩) hs.ext)⟩;refine⟨_,_,_,_,_,_,_,_,hs.at 0 rfl (o:=0) (n:=8) rfl,?_⟩;refine (timed68 g h53 (hg.ext hs.ext) hN).mono ?_;rintro _ h64 ⟨⟨b5,rfl,hb5⟩,E⟩;have f1:=hb1.1 c1;have f3:=hb3.1 c3;have f4:=hb4.1 c4;exact⟨_,rfl,RP.e (hb5.trans ⟨fun ht=>⟨f1.1,hN,f1.2,⟨f4.e,f3.s,f3.p⟩,ht,f4.f,f4.b⟩,fun hG=>hG.tim⟩) (hs.step E).ext⟩
theorem good49 (g:Gl) (role:Int) (h:Heap) (hg:GI h g) (hM:GNm g.ds):Fn Pz 49 #[g.v,.int .i64 role] h (RP (ValidS g/\0<=role/\role<g.rs.length) h):=by
 apply vc49 (bs g.nm) g.hr g.hd g.n g.s g.e g.he g.ht;unfold W49;have hrn:=hg.r.ln;refine (St.refl h).newb fun h9 hs=>?_;refine⟨_,_,_,_,_,_,_,_,hs.at 0 rfl (o:=0) (n:=8) rfl,?_⟩;refine (refValid31 g h9 (hg.ext hs.ext) hM).mono ?_;rintro _ h20 ⟨⟨b1,rfl,hb1⟩,E⟩;have hs:=hs.step E;exact⟨_,rfl,sB_intro (fun c1=>sBi (fun c2=>⟨_,hs.rd 0 rfl rfl,RP.e ⟨fun hb=>⟨hb1.1 c1,by omega,by have:=Yyn hb;omega⟩,fun hG=>decide_eq_true (by omega)⟩ hs.ext⟩) (fun c2=>RP.f (fun hG=>c2 (by omega)) hs.ext)) (fun c1=>RP.f (fun hG=>iff_f hb1 c1 hG.1) hs.ext)⟩
structure Hv where
 role:Int
 send:Bool
 peer:Int
 label:Int
 vs:Sl
def Hv.cs (x:Hv):List Value:=[.int .i64 x.role,.bool x.send,.int .i64 x.peer,.int .i64 x.label,.slice x.vs.a x.vs.n x.vs.c]
end Go.VC
end

section
namespace Go.VC
open Go.LexS
def nxL (l:List Mv):Int:=l.foldl (fun n x=>if x.t=n then n+1 else n) 1
theorem nxL_snoc (l:List Mv) (x:Mv):nxL (l++[x])=if x.t=nxL l then nxL l+1 else nxL l:=by unfold nxL;rw[List.foldl_append];rfl
theorem rowI_get {S:List PSet} {p:PSet}:(rowS S p)[rowI S p]?=some p:=by
 classical
 unfold rowS;split
 .rename_i h
  induction S with
  | nil=>cases h
  | cons q r ih=>
   rw[rowI];split
   .rename_i e;rw[e];rfl
   .rename_i e;rw[List.getElem?_cons_succ];refine ih ?_;rcases Yr.1 h with h | h
    .exact absurd h.symm e
    .exact h
 .rename_i h;rw[rowI_of_not h,Yyc (Yyt _),Nat.sub_self];rfl
def RowOk (es:List Ed) (role:Int) (S:List PSet) (k:Nat) (m:Mv):Prop:=∃(r:Nat) (p:PSet),m.f=(r:Int)/\r<k/\S[r]?=some p/\m.ev∈evs es role p/\∃t:Nat,m.t=(t:Int)/\S[t]?=some (clo es role (toL es role p m.ev))
theorem RowOk.ext {es:List Ed} {role:Int} {S:List PSet} {k:Nat} {m:Mv} {q:PSet} (h:RowOk es role S k m):RowOk es role (rowS S q) k m:=by
 obtain⟨r,p,h1,h2,h3,h4,t,h5,h6⟩:=h;exact⟨r,p,h1,h2,rowS_get h3,h4,t,h5,rowS_get h6⟩
structure VR (es:List Ed) (role:Int) (S:List PSet) (M:List Mv) (i:Nat):Prop where
 a:∀m∈M,RowOk es role S i m
 b:∀(r:Nat) p,r<i->S[r]?=some p->∀x∈evs es role p,∃m∈M,m.f=(r:Int)/\m.ev=x
theorem arcsF_vr {es:List Ed} {role:Int} {i:Nat} {p:PSet}:∀(l:List Ev) (S:List PSet) (M:List Mv),S[i]?=some p->(∀x∈l,x∈evs es role p)->(∀m∈M,RowOk es role S (i+1) m) ->
  (∀(r:Nat) q,r<i->S[r]?=some q->∀x∈evs es role q,∃m∈M,m.f=(r:Int)/\m.ev=x)->(∀x∈evs es role p,x∈l\/∃m∈M,m.f=(i:Int)/\m.ev=x) ->
  VR es role (arcsF es role i p l S M).1 (arcsF es role i p l S M).2 (i+1)/\∀(j:Nat) q,S[j]?=some q->(arcsF es role i p l S M).1[j]?=some q
 | [],S,M,hi,hl,hA,hB,hC=>⟨⟨hA,fun r q hr hq x hx=>by
   by_cases e:r=i
   .subst e;show ∃m∈M,_;have hq':S[r]?=some q:=hq;rw[hi] at hq';cases hq';rcases hC x hx with h | h
    .cases h
    .exact h
   .exact hB r q (by omega) hq x hx⟩,fun j q hq=>hq⟩
 | x::l,S,M,hi,hl,hA,hB,hC=>by
  rw[arcsF];have hil:=(Ya.1 hi).1;have ih:=arcsF_vr (es:=es) (role:=role) (i:=i) (p:=p) l (rowS S (clo es role (toL es role p x))) (M++[⟨i,x.send,x.peer,x.label,rowI S (clo es role (toL es role p x)),false⟩]) (rowS_get hi) (fun y hy=>hl y (Yn _ hy)) ?_ ?_ ?_
  .exact⟨ih.1,fun j q hq=>ih.2 j q (rowS_get hq)⟩
  .intro m hm;rcases Yk.1 hm with hm | hm
   .exact (hA m hm).ext
   .rw[Ye] at hm;subst hm;exact⟨i,p,rfl,by omega,rowS_get hi,hl x (Yx ..),_,rfl,rowI_get⟩
  .intro r q hr hq y hy;have hrl:r<S.length:=by omega
   have hq':S[r]?=some q:=by
    have h2:=rowS_get (p:=clo es role (toL es role p x)) (Yi hrl);rw[hq] at h2;rw[Yi hrl];exact h2.symm ▸ rfl
   obtain⟨m,hm,h1,h2⟩:=hB r q hr hq' y hy;exact⟨m,List.mem_append_left _ hm,h1,h2⟩
  .intro y hy;rcases hC y hy with h | ⟨m,hm,h1,h2⟩
   .rcases Yr.1 h with rfl | h
    .exact .inr ⟨_,List.mem_append_right _ (Ye.2 rfl),rfl,rfl⟩
    .exact .inl h
   .exact .inr ⟨m,List.mem_append_left _ hm,h1,h2⟩
theorem viewsF_vr {es:List Ed} {role:Int}:∀(f i:Nat) (S:List PSet) (M:List Mv) {S':List PSet} {M':List Mv},VR es role S M i->i<=S.length->viewsF es role f i S M=some (S',M')->VR es role S' M' S'.length/\∀(j:Nat) q,S[j]?=some q->S'[j]?=some q
 | 0,_,_,_,_,_,_,_,h=>by cases h
 | f+1,i,S,M,S',M',hv,hi,h=>by
  rw[viewsF] at h;cases hg:S[i]? with
  | none=>
   rw[hg] at h;cases h;have:i=S.length:=by have:=List.getElem?_eq_none_iff.1 hg;omega
   subst this;exact⟨hv,fun j q hq=>hq⟩
  | some p=>
   rw[hg] at h;replace h:(if (arcsF es role i p (evs es role p) S M).1.length>200 then none else viewsF es role f (i+1) (arcsF es role i p (evs es role p) S M).1 (arcsF es role i p (evs es role p) S M).2)=some (S',M'):=h;have hil:=(Ya.1 hg).1;obtain⟨h1,h2⟩:=arcsF_vr (es:=es) (role:=role) (i:=i) (p:=p) (evs es role p) S M hg (fun x hx=>hx) (fun m hm=>by
    obtain⟨r,q,a1,a2,a3⟩:=hv.a m hm;exact⟨r,q,a1,by omega,a3⟩) hv.b (fun x hx=>.inl hx)
   split at h
   .cases h
   .have hi2:=(Ya.1 (h2 i p hg)).1;have ih:=viewsF_vr f (i+1) _ _ h1 (by omega) h;exact⟨ih.1,fun j q hq=>ih.2 j q (h2 j q hq)⟩
theorem views_vr {g:Gl} {role:Int} {S:List PSet} {M:List Mv} (h:views g role=some (S,M)):VR g.es role S M S.length/\S[0]?=some (clo g.es role [g.s]):=by
 unfold views at h;obtain⟨h1,h2⟩:=viewsF_vr 202 0 _ [] ⟨fun m hm=>(by cases hm),fun r _ hr=>(by omega)⟩ (by simp) h;exact⟨h1,h2 0 _ rfl⟩
def skM (m:Mv):Int × Ev × Int:=(m.f,m.ev,m.t)
theorem updR_sk (n:Nat) (x:Ti) (y:Mv):skM (updR n x y)=skM y:=by
 obtain⟨h1,h2,h3,h4,h5⟩:=updR_same n x y;unfold skM Mv.ev;rw[h1,h2,h3,h4,h5]
theorem rawL_sk {vw:List Nat->Option Ti}:∀(n:Nat) (S:List PSet) (M:List Mv) (L:List To) {M':List Mv} {L':List To},rawL vw n S M L=some (M',L')->M'.map skM=M.map skM
 | _,[],M,L,M',L',h=>by cases h;rfl
 | n,p::S,M,L,M',L',h=>by
  rw[rawL] at h;cases hv:vw (elems p) with
  | none=>rw[hv] at h;cases h
  | some x=>
   rw[hv] at h;have:=rawL_sk (n+1) S _ _ h;rw[this,List.map_map];exact List.map_congr_left fun y _=>updR_sk n x y
structure RawV (g:Gl) (role:Int) (w:Mch) (S:List PSet):Prop where
 ro:w.role=role
 n:w.n=(S.length:Nat)
 s:w.s=0
 f:w.fin=S.map (fun p=>p g.e.toNat)
 z:S[0]?=some (clo g.es role [g.s])
 a:∀m∈w.mv,RowOk g.es role S S.length m
 b:∀(r:Nat) p,S[r]?=some p->∀x∈evs g.es role p,∃m∈w.mv,m.f=(r:Int)/\m.ev=x
def Hv.ev (x:Hv):Ev:=⟨x.send,x.peer,x.label⟩
theorem toL_some {es:List Ed} {role:Int} {p:PSet} {x:Ev} (h:x∈evs es role p):∃y,y∈toL es role p x:=by
 obtain⟨n,hn,h⟩:=List.mem_flatMap.1 ((sortE_mem _ _).1 h);obtain⟨a,ha,rfl⟩:=Yp.1 h;exact⟨a.to,List.mem_flatMap.2 ⟨n,hn,Yym.2 ⟨a,ha,if_pos rfl⟩⟩⟩
end Go.VC
end

section
namespace Go.VC
open Go.Proofs Go.LexS
def outGP (es:List Ed) (s:Int) (i:Nat):Bool:=match es[i]? with | some x=>decide (x.f=s) | none=>false
def outG (es:List Ed) (s:Int):List Nat:=(List.range es.length).filter (outGP es s)
theorem outG_mem {es:List Ed} {s:Int} {k:Nat}:k∈outG es s ↔ ∃x,es[k]?=some x/\x.f=s:=by
 unfold outG;rw[List.mem_filter,List.mem_range];constructor
 .rintro⟨h1,h2⟩;unfold outGP at h2;rw[Yi h1] at h2;exact⟨_,Yi h1,Yyn h2⟩
 .rintro⟨x,hx,hf⟩;refine⟨(Ya.1 hx).1,?_⟩;unfold outGP;rw[hx];exact decide_eq_true hf
theorem out23 (g:Gl) (s:Int) (h:Heap) (hg:GI h g):Fn Pz 23 #[g.v,.int .i64 s] h fun v h'=>Ext h h'/\∃r:Sl,v=.slice r.a r.n r.c/\Rw h' 1 r ((natI (outG g.es s)).map inC):=by
 apply vc23 (bs g.nm) g.hr g.hd g.n g.s g.e g.he g.ht;unfold W23;have hen:=hg.e.ln;have hem:=hg.e.sm;refine (St.refl h).newb fun h9 hs=>?_;have hs:=hs.nil_ 3 1;refine up_loopA (n:=g.he.n) hs (fun i rows=>rows=(natI ((List.range i).filter (outGP g.es s))).map inC) rfl ?_;clear hs;rintro-i out h15 rows hi hs rfl;have hocap:=hs.len 0 (s:=out) (e:=3) (n:=1) rfl (by omega);rw[Yc,show (natI ((List.range i).filter (outGP g.es s))).length=((List.range i).filter (outGP g.es s)).length from Yc _] at hocap;have hol:((List.range i).filter (outGP g.es s)).length<=i:=Yys (List.length_filter_le _ _) (by rw[Yyd];exact Yyt _);refine⟨g.he,hs.rd 1 rfl rfl,sBi (fun c=>?_) (fun c=>?_)⟩
 .refine⟨g.he,hs.rd 1 rfl rfl,?_⟩;refine (hg.e.rw.ext hs.ext).nbI (by omega) (by omega) fun b o x gx t=>?_;replace gx:g.es[i]?=some x:=gx;have hrs:(List.range (i+1)).filter (outGP g.es s)=if x.f=s then (List.range i).filter (outGP g.es s)++[i] else (List.range i).filter (outGP g.es s):=by
   rw[List.range_succ,List.filter_append];have hp:outGP g.es s i=decide (x.f=s):=by unfold outGP;rw[gx]
   by_cases e:x.f=s
   .rw[if_pos e,List.filter_cons_of_pos (by rw[hp];exact decide_eq_true e)];rfl
   .rw[if_neg e,List.filter_cons_of_neg (by rw[hp,decide_eq_false e];simp)];simp
  refine⟨_,t.hd,sBe (fun c2=>?_) (fun c2=>?_)⟩
  .refine hs.app 0 rfl app42 (m:=1) [inC (i:Int)] rfl rfl (fun r hr=>by rw[Ye] at hr;rw[hr];rfl) rfl (by omega) (by simp only[maxLen];omega) fun r h27 ns hs=>?_;refine UpA.next (by omega) (by omega) ⟨_,hs,?_⟩;rw[hrs,if_pos c2,natI_snoc,Ym];rfl
  .exact UpA.next (by omega) (by omega) ⟨_,hs,by rw[hrs,if_neg c2]⟩
 .have hie:i=g.es.length:=by omega
  subst hie;exact⟨hs.ext,out,rfl,hs.rows 0 rfl (by omega)⟩
theorem sees50 (x:Ed) (role:Int) (h:Heap):Fn Pz 50 #[.agg ⟨x.cs⟩,.int .i64 role] h fun v h'=>v=.bool (vis1 role x).isSome/\Ext h h':=by
 apply vc50 x.f x.a x.b x.l x.t x.ag;unfold W50;refine (St.refl h).newb fun h7 hs=>?_;refine⟨_,hs.rd 0 rfl rfl,sBe (fun c=>?_) (fun c=>⟨_,hs.rd 0 rfl rfl,?_,hs.ext⟩)⟩
 .refine⟨?_,hs.ext⟩;unfold vis1;rw[if_pos c.symm];rfl
 .unfold vis1;rw[if_neg (Ne.symm c)];by_cases e:x.b=role
  .rw[if_pos e.symm,e,beq_self_eq_true];rfl
  .rw[if_neg (Ne.symm e),beq_eq_false_iff_ne.2 e];rfl
theorem event51 (x:Ed) (role:Int) (e:Ev) (hv:vis1 role x=some e) (h:Heap):Fn Pz 51 #[.agg ⟨x.cs⟩,.int .i64 role] h fun v h'=>v=.agg ⟨aC role e⟩/\Ext h h':=by
 apply vc51 x.f x.a x.b x.l x.t x.ag;unfold W51 V51a;refine (St.refl h).newb fun h7 hs=>?_;refine hs.newb fun h8 hs=>?_;unfold vis1 at hv;refine⟨_,hs.rd 1 rfl rfl,sBe (fun c=>?_) (fun c=>?_)⟩
 .rw[if_pos c.symm] at hv;cases hv;refine⟨_,hs.rd 1 rfl rfl,_,hs.rd 1 rfl rfl,?_⟩;refine hs.put 0 rfl (o:=0) (vs:=aC role ⟨true,x.b,x.l⟩) rfl (show 5<=5 by decide) fun h12 hs=>?_;exact⟨_,_,_,_,⟨none,0,0⟩,hs.at 0 rfl (o:=0) (n:=5) rfl,rfl,hs.ext⟩
 .rw[if_neg (Ne.symm c)] at hv;split at hv
  .cases hv;refine⟨_,hs.rd 1 rfl rfl,_,hs.rd 1 rfl rfl,?_⟩;refine hs.put 0 rfl (o:=0) (vs:=aC role ⟨false,x.a,x.l⟩) rfl (show 5<=5 by decide) fun h12 hs=>?_;exact⟨_,_,_,_,⟨none,0,0⟩,hs.at 0 rfl (o:=0) (n:=5) rfl,rfl,hs.ext⟩
  .cases hv
end Go.VC
end

section
namespace Go.VC
def mk8 (c:Nat):Nat->Nat
 | 0=>0
 | k+1=>c+256*mk8 c k
def s1 (k x:Nat):Nat:=((x/2)&&&mk8 0x55 k)+(x&&&mk8 0x55 k)
def s2 (k x:Nat):Nat:=((x/4)&&&mk8 0x33 k)+(x&&&mk8 0x33 k)
def s3 (k x:Nat):Nat:=(x/16+x)&&&mk8 0x0f k
def b1 (b:Nat):Nat:=((b/2)&&&0x55)+(b&&&0x55)
def b2 (b:Nat):Nat:=((b/4)&&&0x33)+(b&&&0x33)
def b3 (b:Nat):Nat:=(b/16+b)&&&0x0f
set_option maxRecDepth 100000 in
theorem f1:∀b,b<256->∀t,t<2->(b/2+128*t)&&&0x55=(b/2)&&&0x55:=by decide
set_option maxRecDepth 100000 in
theorem f2:∀b,b<256->∀t,t<4->(b/4+64*t)&&&0x33=(b/4)&&&0x33:=by decide
set_option maxRecDepth 100000 in
theorem f3:∀b,b<69->∀t,t<5->(b/16+16*t+b)&&&0x0f=b3 b:=by decide
set_option maxRecDepth 100000 in
theorem f4:∀b,b<256->b1 b<256/\b2 (b1 b)<69/\b2 (b1 b)%16<5/\b3 (b2 (b1 b))<9/\(b3 (b2 (b1 b))=0->b=0):=by decide
end Go.VC
end

section
namespace Go.VC
open Go.Proofs Go.LexS


theorem tim_lt {g:Gl} (hT:TimS g):∀(j i:Nat) (a b:To),i<j->g.ts[i]?=some a->g.ts[j]?=some b->a.s<b.s
 | 0,i,a,b,h,_,_=>by omega
 | j+1,i,a,b,h,ha,hb=>by
  have h1:=(hT (j+1) b hb).o;have hl:=(Ya.1 hb).1;obtain⟨c,hc⟩:=get_some (l:=g.ts) (i:=j) (by omega);rw[lastS_next hc] at h1;by_cases e:i=j
  .subst e;rw[ha] at hc;cases hc;exact h1
  .have:=tim_lt hT j i a c (by omega) ha hc;omega
theorem tim_uniq {g:Gl} (hT:TimS g) {a b:To} (ha:a∈g.ts) (hb:b∈g.ts) (e:a.s=b.s):a=b:=by
 obtain⟨i,hi⟩:=Yf.1 ha;obtain⟨j,hj⟩:=Yf.1 hb;rcases Nat.lt_trichotomy i j with h | h | h
 .have:=tim_lt hT j i a b h hi hj;omega
 .subst h;rw[hi] at hj;cases hj;rfl
 .have:=tim_lt hT i j b a h hj hi;omega
end Go.VC
end

section
namespace Go.VC
open Go.LexS
theorem rawL_keep {vw:List Nat->Option Ti}:∀(n:Nat) (S:List PSet) (M:List Mv) (L:List To) {M':List Mv} {L':List To},rawL vw n S M L=some (M',L') ->
  (∀(k:Nat) y,M[k]?=some y->y.f<(n:Int)->M'[k]?=some y)/\∃E,L'=L++E/\∀t∈E,(n:Int)<=t.s
 | _,[],M,L,M',L',h=>by cases h;exact⟨fun k y hy _=>hy,[],by simp,fun t ht=>by cases ht⟩
 | n,p::S,M,L,M',L',h=>by
  rw[rawL] at h;cases hv:vw (elems p) with
  | none=>rw[hv] at h;cases h
  | some x=>
   rw[hv] at h;obtain⟨h1,E,h2,h3⟩:=rawL_keep (n+1) S _ _ h;refine⟨fun k y hy hf=>h1 k y ?_ (by omega),limR n x M++E,by rw[h2,Yz],fun t ht=>?_⟩
   .rw[Yd,hy];show some (updR n x y)=some y;unfold updR;rw[if_neg (fun e=>by have:=e.1;omega)]
   .rcases Yk.1 ht with ht | ht
    .unfold limR at ht;obtain⟨q,_,hq⟩:=Yym.1 ht;unfold limC at hq;split at hq
     .cases hq;show (n:Int)<=(n:Int);omega
     .cases hq
    .have:=h3 t ht;omega
theorem zip_mem {α:Type} {l:List α} {q:α × Nat}:q∈l.zipIdx ↔ l[q.2]?=some q.1:=by
 obtain⟨a,i⟩:=q;rw[List.mk_mem_zipIdx_iff_getElem?]
theorem rawL_row {vw:List Nat->Option Ti}:∀(n:Nat) (S:List PSet) (M:List Mv) (L:List To) {M':List Mv} {L':List To},rawL vw n S M L=some (M',L')->(∀t∈L,t.s<(n:Int)) ->
  ∀(i:Nat) p,S[i]?=some p->∃x,vw (elems p)=some x/\(∀y∈M',y.f=((n+i:Nat):Int)->y.send=true->y.ag=x.ag) /\
   (∀t∈L',t.s=((n+i:Nat):Int)->t.k=x.k/\0<x.k/\∃y,M'[t.e.toNat]?=some y/\y.f=((n+i:Nat):Int)/\y.send=true/\y.ev=x.x) /\
   (0<x.k->∀y∈M',y.f=((n+i:Nat):Int)->y.send=true->y.ev=x.x->∃t∈L',t.s=((n+i:Nat):Int))
 | _,[],M,L,M',L',h,_,i,p,hp=>by simp at hp
 | n,p0::S,M,L,M',L',h,hL,i,p,hp=>by
  rw[rawL] at h;cases hv:vw (elems p0) with
  | none=>rw[hv] at h;cases h
  | some x=>
   rw[hv] at h;replace h:rawL vw (n+1) S (M.map (updR n x)) (L++limR n x M)=some (M',L'):=h;have hlim:∀t∈limR n x M,t.s=(n:Int)/\t.k=x.k/\0<x.k/\∃(k:Nat) (y:Mv),t.e=(k:Int)/\M[k]?=some y/\y.f=(n:Int)/\y.send=true/\y.ev=x.x:=fun t ht=>by
    unfold limR at ht;obtain⟨q,hq1,hq⟩:=Yym.1 ht;unfold limC at hq;split at hq
    .rename_i hc;cases hq;refine⟨rfl,rfl,hc.2.2.1,q.2,q.1,rfl,zip_mem.1 hq1,hc.1,hc.2.1,?_⟩;unfold Mv.ev;rw[hc.2.1,hc.2.2.2]
    .cases hq
   cases i with
   | succ i=>
    have ih:=rawL_row (n+1) S _ _ h (fun t ht=>by
     rcases Yk.1 ht with ht | ht
     .have:=hL t ht;omega
     .have:=(hlim t ht).1;omega) i p (by simpa using hp)
    rw[show n+1+i=n+(i+1) by omega] at ih;exact ih
   | zero=>
    have hp':p0=p:=by simpa using hp
    subst hp';rw[Nat.add_zero];have hsk:=rawL_sk (n+1) S _ _ h;obtain⟨k1,E,k2,k3⟩:=rawL_keep (n+1) S _ _ h
    have back:∀(k:Nat) y,M'[k]?=some y->y.f=(n:Int)->∃y0,M[k]?=some y0/\y=updR n x y0:=fun k y hy hf=>by
     have hl:k<(M.map (updR n x)).length:=by
      have h1:=congrArg List.length hsk;rw[Yc,Yc] at h1;rw[<-h1];exact (Ya.1 hy).1
     obtain⟨y1,hy1⟩:=get_some hl;have h2:skM y=skM y1:=by
      have h3:=congrArg (·[k]?) hsk;simp only[Yd,hy,hy1] at h3;exact Yyp h3
     have h4:y.f=y1.f:=congrArg Prod.fst h2;have h5:=k1 k y1 hy1 (by omega);rw[hy] at h5;rw[Yd] at hy1;obtain⟨y0,hy0,e⟩:=Yya.1 hy1;exact⟨y0,hy0,by rw[e];exact Yyp h5⟩
    have forth:∀(k:Nat) y0,M[k]?=some y0->y0.f=(n:Int)->M'[k]?=some (updR n x y0):=fun k y0 hy0 hf=>by
     refine k1 k _ (by rw[Yd,hy0];rfl) ?_;rw[(updR_same n x y0).1];omega
    have evu:∀y0:Mv,(updR n x y0).ev=y0.ev:=fun y0=>by
     obtain⟨_,h2,h3,h4,_⟩:=updR_same n x y0;unfold Mv.ev;rw[h2,h3,h4]
    refine⟨x,hv,fun y hy hf hsd=>?_,fun t ht hts=>?_,fun hk y hy hf hsd hev=>?_⟩
    .obtain⟨k,hk⟩:=Yf.1 hy;obtain⟨y0,hy0,e⟩:=back k y hk hf;have hf0:y0.f=(n:Int):=by rw[<- (updR_same n x y0).1,<-e];exact hf
     have hs0:y0.send=true:=by rw[<- (updR_same n x y0).2.1,<-e];exact hsd
     rw[e];unfold updR;rw[if_pos ⟨hf0,hs0⟩]
    .rw[k2] at ht;rcases Yk.1 ht with ht | ht
     .rcases Yk.1 ht with ht | ht
      .have:=hL t ht;omega
      .obtain⟨_,a2,a3,k,y,a4,a5,a6,a7,a8⟩:=hlim t ht;refine⟨a2,a3,updR n x y,by rw[a4];exact forth k y a5 a6,?_,?_,by rw[evu];exact a8⟩
       .rw[(updR_same n x y).1];exact a6
       .rw[(updR_same n x y).2.1];exact a7
     .have:=k3 t ht;omega
    .obtain⟨k,hk2⟩:=Yf.1 hy;obtain⟨y0,hy0,e⟩:=back k y hk2 hf;have hf0:y0.f=(n:Int):=by rw[<- (updR_same n x y0).1,<-e];exact hf
     have hs0:y0.send=true:=by rw[<- (updR_same n x y0).2.1,<-e];exact hsd
     have he0:y0.ev=x.x:=by rw[<-evu,<-e];exact hev
     refine⟨⟨n,x.k,k⟩,?_,rfl⟩;rw[k2];refine List.mem_append_left _ (List.mem_append_right _ ?_);unfold limR;refine Yym.2 ⟨(y0,k),zip_mem.2 hy0,?_⟩;unfold limC;rw[if_pos ⟨hf0,hs0,hk,by rw[<-he0];unfold Mv.ev;rw[hs0]⟩]
theorem foldV {F:Nat->List Ev} {en:Nat->Bool} {O:List Bool} {T:List Ti} {l:List Nat}:∀(m:List Nat) (k:Bool) (o:Ti) {k':Bool} {o':Ti},m.foldl (stepV F en O T l) (some (k,o))=some (k',o') ->
  (k=true->k'=true/\o'=o)/\∀n∈m,badV F en l n=false/\∀t,O[n]?=some true->T[n]?=some t->k'=true/\o'=t
 | [],k,o,k',o',h=>by cases h;exact⟨fun h=>⟨h,rfl⟩,fun n hn=>by cases hn⟩
 | n::m,k,o,k',o',h=>by
  rw[List.foldl_cons] at h;cases hb:badV F en l n with
  | true=>
   have e:stepV F en O T l (some (k,o)) n=none:=by simp only[stepV,hb,if_true]
   rw[e,stepV_none] at h;cases h
  | false=>
   cases hO:O[n]? with
   | none=>
    have e:stepV F en O T l (some (k,o)) n=some (k,o):=by simp[stepV,hb,hO]
    rw[e] at h;obtain⟨h1,h2⟩:=foldV m k o h;refine⟨h1,fun n' hn'=>?_⟩;rcases Yr.1 hn' with rfl | hn'
    .exact⟨hb,fun t h3=>by rw[hO] at h3;cases h3⟩
    .exact h2 n' hn'
   | some b=>
    cases b with
    | false=>
     have e:stepV F en O T l (some (k,o)) n=some (k,o):=by simp[stepV,hb,hO]
     rw[e] at h;obtain⟨h1,h2⟩:=foldV m k o h;refine⟨h1,fun n' hn'=>?_⟩;rcases Yr.1 hn' with rfl | hn'
     .exact⟨hb,fun t h3=>by rw[hO] at h3;cases h3⟩
     .exact h2 n' hn'
    | true=>
     cases hT:T[n]? with
     | none=>
      have e:stepV F en O T l (some (k,o)) n=some (k,o):=by simp[stepV,hb,hO,hT]
      rw[e] at h;obtain⟨h1,h2⟩:=foldV m k o h;refine⟨h1,fun n' hn'=>?_⟩;rcases Yr.1 hn' with rfl | hn'
      .exact⟨hb,fun t _ h4=>by rw[hT] at h4;cases h4⟩
      .exact h2 n' hn'
     | some t=>
      have e:stepV F en O T l (some (k,o)) n=if k&&decide (t≠o) then none else some (true,t):=by simp[stepV,hb,hO,hT]
      rw[e] at h;split at h
      .rw[stepV_none] at h;cases h
      .rename_i hk;obtain⟨h1,h2⟩:=foldV m true t h;obtain⟨h3,h4⟩:=h1 rfl;refine⟨fun hkt=>⟨h3,?_⟩,fun n' hn'=>?_⟩
       .rw[hkt,Bool.true_and,decide_eq_true_eq,Classical.not_not] at hk;rw[h4,hk]
       .rcases Yr.1 hn' with rfl | hn'
        .exact⟨hb,fun t' _ h6=>by rw[hT] at h6;cases h6;exact⟨h3,h4⟩⟩
        .exact h2 n' hn'
theorem viewV_row {F:Nat->List Ev} {en:Nat->Bool} {O:List Bool} {T:List Ti} {l:List Nat} {o:Ti} (h:viewV F en O T l=some o) {n:Nat} (hn:n∈l):badV F en l n=false/\∀t,O[n]?=some true->T[n]?=some t->o=t:=by
 unfold viewV at h;obtain⟨⟨k,o'⟩,h1,h2⟩:=Yya.1 h;obtain⟨_,h3⟩:=foldV l false ti0 h1;obtain⟨h4,h5⟩:=h3 n hn;exact⟨h4,fun t hO hT=>by rw[<-h2];exact (h5 t hO hT).2⟩
theorem updT_at (T:List Ti) (n:Nat) (f:Ti->Ti) (k:Nat):(updT T n f)[k]?=if k=n then (T[k]?).map f else T[k]?:=by
 unfold updT;split
 .rename_i t ht;by_cases e:k=n
  .subst e;rw[if_pos rfl,Yq (Ya.1 ht).1,ht];rfl
  .rw[if_neg e,Yy (fun h=>e h.symm)]
 .rename_i ht;by_cases e:k=n
  .subst e;rw[if_pos rfl,ht];rfl
  .rw[if_neg e]
theorem ownE_row {es:List Ed} {role:Int} {n k:Nat} (hk:k<n):(∀x∈es,0<=x.f)->(∀x∈es,¬(x.f=(k:Int)/\x.a=role))/\(ownE es role n).1[k]?=some false/\(ownE es role n).2[k]?=some ti0\/∃x∈es,x.f=(k:Int)/\x.a=role/\(ownE es role n).1[k]?=some true/\(ownE es role n).2[k]?=some ⟨x.ag,0,ti0.x⟩:=by
 intro hf;unfold ownE
 suffices h:∀(l:List Ed) (s:List Bool × List Ti),s.1.length=n->(∀x∈l,0<=x.f)->((l.foldl (own1 role) s).1[k]?=s.1[k]?/\(l.foldl (own1 role) s).2[k]?=s.2[k]?/\∀x∈l,¬(x.f=(k:Int)/\x.a=role))\/∃x∈l,x.f=(k:Int)/\x.a=role/\(l.foldl (own1 role) s).1[k]?=some true/\∀t,s.2[k]?=some t->(l.foldl (own1 role) s).2[k]?=some ⟨x.ag,t.k,t.x⟩ by
  rcases h es (List.replicate n false,List.replicate n ti0) (by rw[Yg]) hf with ⟨h1,h2,h3⟩ | ⟨x,h1,h2,h3,h4,h5⟩
  .refine .inl ⟨h3,?_,?_⟩
   .rw[h1,List.getElem?_replicate,if_pos hk]
   .rw[h2,List.getElem?_replicate,if_pos hk]
  .exact .inr ⟨x,h1,h2,h3,h4,h5 ti0 (by rw[List.getElem?_replicate,if_pos hk])⟩
 intro l
 induction l with
 | nil=>intro s _ _;exact .inl ⟨rfl,rfl,fun x hx=>by cases hx⟩
 | cons a l ih=>
  intro s hs hf;rw[List.foldl_cons];have hfa:=hf a (Yx ..);have hfl:∀x∈l,0<=x.f:=fun x hx=>hf x (Yn _ hx);by_cases ha:a.a=role
  .have e:own1 role s a=(s.1.set a.f.toNat true,updT s.2 a.f.toNat fun t=>{ t with ag:=a.ag }):=by unfold own1;rw[if_pos ha]
   rw[e];have hs':(s.1.set a.f.toNat true).length=n:=by rw[Yyh];exact hs
   by_cases hk2:a.f=(k:Int)
   .have hkn:a.f.toNat=k:=by omega
    rw[hkn] at hs' ⊢;have g1:(s.1.set k true)[k]?=some true:=Yq (by omega);have g2:∀t,s.2[k]?=some t->(updT s.2 k fun t=>{ t with ag:=a.ag })[k]?=some ⟨a.ag,t.k,t.x⟩:=fun t ht=>by rw[updT_at,if_pos rfl,ht];rfl
    rcases ih (s.1.set k true,updT s.2 k fun t=>{ t with ag:=a.ag }) hs' hfl with ⟨h1,h2,h3⟩ | ⟨x,h1,h2,h3,h4,h5⟩
    .exact .inr ⟨a,Yx ..,hk2,ha,by rw[h1];exact g1,fun t ht=>by rw[h2];exact g2 t ht⟩
    .exact .inr ⟨x,Yn _ h1,h2,h3,h4,fun t ht=>h5 ⟨a.ag,t.k,t.x⟩ (g2 t ht)⟩
   .have hkn:¬k=a.f.toNat:=by omega
    have g1:(s.1.set a.f.toNat true)[k]?=s.1[k]?:=Yy (by omega);have g2:(updT s.2 a.f.toNat fun t=>{ t with ag:=a.ag })[k]?=s.2[k]?:=by rw[updT_at,if_neg hkn]
    rcases ih (s.1.set a.f.toNat true,updT s.2 a.f.toNat fun t=>{ t with ag:=a.ag }) hs' hfl with ⟨h1,h2,h3⟩ | ⟨x,h1,h2,h3,h4,h5⟩
    .refine .inl ⟨by rw[h1];exact g1,by rw[h2];exact g2,fun x hx=>?_⟩;rcases Yr.1 hx with rfl | hx
     .exact fun h=>hk2 h.1
     .exact h3 x hx
    .exact .inr ⟨x,Yn _ h1,h2,h3,h4,fun t ht=>h5 t (by rw[g2];exact ht)⟩
  .have e:own1 role s a=s:=by unfold own1;rw[if_neg ha]
   rw[e];rcases ih s hs hfl with ⟨h1,h2,h3⟩ | ⟨x,h1,h2,h3,h4,h5⟩
   .refine .inl ⟨h1,h2,fun x hx=>?_⟩;rcases Yr.1 hx with rfl | hx
    .exact fun h=>ha h.2
    .exact h3 x hx
   .exact .inr ⟨x,Yn _ h1,h2,h3,h4,h5⟩
theorem ownT_row {es:List Ed} {O:List Bool} {k:Nat} (hO:O[k]?=some true):∀(l:List To) (T:List Ti) (t:Ti),(∀u∈l,0<=u.s/\∃z,es[u.e.toNat]?=some z)->T[k]?=some t ->
  ((∀u∈l,u.s≠(k:Int))/\(l.foldl (own2 es O) T)[k]?=some t)\/∃u∈l,u.s=(k:Int)/\∃z,es[u.e.toNat]?=some z/\(l.foldl (own2 es O) T)[k]?=some ⟨t.ag,u.k,⟨true,z.b,z.l⟩⟩
 | [],T,t,_,ht=>.inl ⟨fun u hu=>(by cases hu),ht⟩
 | u::l,T,t,hl,ht=>by
  rw[List.foldl_cons];obtain⟨hu0,z,hz⟩:=hl u (Yx ..);have hl':∀u∈l,0<=u.s/\∃z,es[u.e.toNat]?=some z:=fun u hu=>hl u (Yn _ hu);by_cases hk:u.s=(k:Int)
  .have hkn:u.s.toNat=k:=by omega
   have e:own2 es O T u=updT T k fun q=>⟨q.ag,u.k,⟨true,z.b,z.l⟩⟩:=by
    unfold own2;rw[hkn,hO,hz]
   have g:(own2 es O T u)[k]?=some ⟨t.ag,u.k,⟨true,z.b,z.l⟩⟩:=by rw[e,updT_at,if_pos rfl,ht];rfl
   rcases ownT_row hO l _ _ hl' g with ⟨_,h2⟩ | ⟨v,h1,h2,z',h3,h4⟩
   .exact .inr ⟨u,Yx ..,hk,z,hz,h2⟩
   .exact .inr ⟨v,Yn _ h1,h2,z',h3,h4⟩
  .have g:(own2 es O T u)[k]?=some t:=by
    unfold own2;split
    .rw[updT_at,if_neg (by omega)];exact ht
    .exact ht
   rcases ownT_row hO l _ _ hl' g with ⟨h1,h2⟩ | ⟨v,h1,h2,z',h3,h4⟩
   .refine .inl ⟨fun v hv=>?_,h2⟩;rcases Yr.1 hv with rfl | hv
    .exact hk
    .exact h1 v hv
   .exact .inr ⟨v,Yn _ h1,h2,z',h3,h4⟩
theorem row_same {g:Gl} (hV:ValidS g) {x y:Ed} (hx:x∈g.es) (hy:y∈g.es) (e:x.f=y.f):x.a=y.a/\x.ag=y.ag:=by
 obtain⟨i,hi⟩:=Yf.1 hx;obtain⟨k,hk⟩:=Yf.1 hy;by_cases eik:i=k
 .subst eik;rw[hi] at hk;cases hk;exact⟨rfl,rfl⟩
 .have h1:=hV.ord.p i x hi k y hk;have h2:=hV.ord.p k y hk i x hi;unfold PairBad at h1 h2;have e1:x.ag=false:=by cases h:x.ag with | false=>rfl | true=>exact absurd (.inl ⟨eik,e,.inr (.inr h)⟩) h1
  have e2:y.ag=false:=by cases h:y.ag with | false=>rfl | true=>exact absurd (.inl ⟨fun h=>eik h.symm,e.symm,.inr (.inr h)⟩) h2
  refine⟨Classical.byContradiction fun h=>h1 (.inl ⟨eik,e,.inr (.inl h)⟩),by rw[e1,e2]⟩
structure OwnR (g:Gl) (q:Int) (x:Ed) (t:Ti):Prop where
 ag:t.ag=x.ag
 k:(∃u∈g.ts,u.s=q/\t.k=u.k/\∃z,g.es[u.e.toNat]?=some z/\t.x=⟨true,z.b,z.l⟩)\/(t.k=0/\∀u∈g.ts,u.s≠q)
theorem own_row {g:Gl} (hV:ValidS g) {role:Int} {x:Ed} (hx:x∈g.es) (ha:x.a=role):∃t,(ownE g.es role g.n.toNat).1[x.f.toNat]?=some true/\(ownT g.es g.ts role g.n.toNat)[x.f.toNat]?=some t/\OwnR g x.f x t:=by
 have hr:=hV.num.R.es x hx;have hkf:((x.f.toNat:Nat):Int)=x.f:=by omega
 rcases ownE_row (es:=g.es) (role:=role) (n:=g.n.toNat) (k:=x.f.toNat) (by omega) (fun y hy=>(hV.num.R.es y hy).1) with ⟨h1,_⟩ | ⟨y,h1,h2,h3,h4,h5⟩
 .exact absurd ⟨hkf.symm,ha⟩ (h1 x hx)
 .have hsame:=(row_same hV h1 hx (by omega)).2;have hts:∀u∈g.ts,0<=u.s/\∃z,g.es[u.e.toNat]?=some z:=fun u hu=>by
   obtain⟨i,hi⟩:=Yf.1 hu;obtain⟨_,z,hz,hzf,_⟩:=(hV.tim i u hi).e;have:=hV.num.R.es z (Yb hz);exact⟨by omega,z,hz⟩
  unfold ownT;rcases ownT_row h4 g.ts (ownE g.es role g.n.toNat).2 _ hts h5 with ⟨k1,k2⟩ | ⟨u,k1,k2,z,k3,k4⟩
  .exact⟨_,h4,k2,hsame,.inr ⟨rfl,fun u hu=>by have:=k1 u hu;omega⟩⟩
  .exact⟨_,h4,k4,hsame,.inl ⟨u,k1,by omega,rfl,z,k3,rfl⟩⟩
theorem first_own {g:Gl} (hV:ValidS g) {role:Int} {x:Ed} (hx:x∈g.es) (ha:x.a=role) (e:Ev):e∈firstE g role x.f ↔ ∃y∈g.es,y.f=x.f/\e=⟨true,y.b,y.l⟩:=by
 have hr:=hV.num.R.es x hx;have hn:=hV.num.n;have own:∀y∈g.es,y.f=x.f->vis1 role y=some ⟨true,y.b,y.l⟩:=fun y hy hf=>by
  unfold vis1;rw[if_pos (by rw[(row_same hV hy hx hf).1,ha])]
 have hq:∀b,Qr g.es role [x.f] b->b=x.f:=fun b hb=>by
  induction hb with
  | base h=>exact Ye.1 h
  | step _ hstep ih=>
   obtain⟨y,hy,hv,hf,_⟩:=hstep;rw[own y hy (by omega)] at hv;cases hv
 unfold firstE evs;rw[sortE_mem];unfold evL;rw[List.mem_flatMap];constructor
 .rintro⟨n,hn1,hn2⟩;obtain⟨a,ha1,rfl⟩:=Yp.1 hn2;have hnx:=hq _ (clo_iff.1 (elems_mem.1 hn1).2);unfold visL at ha1;obtain⟨y,hy,h2⟩:=Yym.1 ha1;split at h2
  .rename_i hyf;rw[own y hy (by omega)] at h2;cases h2;exact⟨y,hy,by omega,rfl⟩
  .cases h2
 .rintro⟨y,hy,hf,rfl⟩;refine⟨x.f.toNat,elems_mem.2 ⟨by omega,clo_iff.2 (.base (by rw[show ((x.f.toNat:Nat):Int)=x.f by omega];exact Ye.2 rfl))⟩,Yp.2 ⟨⟨⟨true,y.b,y.l⟩,y.t⟩,?_,rfl⟩⟩;unfold visL;refine Yym.2 ⟨y,hy,?_⟩;rw[if_pos (by omega),own y hy hf];rfl
theorem evs_own {g:Gl} (hV:ValidS g) {role:Int} {x:Ed} (hx:x∈g.es) (ha:x.a=role) {P:PSet} (hP:P x.f.toNat=true) {en:Nat->Bool}
  (hb:badV (fun j:Nat=>firstE g role j) en (elems P) x.f.toNat=false) (hlt:∀j,P j=true->(j:Int)<g.n) (e:Ev):e∈evs g.es role P ↔ ∃y∈g.es,y.f=x.f/\e=⟨true,y.b,y.l⟩:=by
 have hr:=hV.num.R.es x hx;have hn:=hV.num.n;have hxf:((x.f.toNat:Nat):Int)=x.f:=by omega
 have hfo:=first_own hV hx ha;have hF:∀k∈elems P,firstE g role x.f=firstE g role (k:Int):=by
  have hsnd:sndAt (firstE g role ((x.f.toNat:Nat):Int)) 0=true:=by
   rw[hxf];have hm:(⟨true,x.b,x.l⟩:Ev)∈firstE g role x.f:=(hfo _).2 ⟨x,hx,rfl,rfl⟩;obtain⟨e0,h0⟩:=get_some (l:=firstE g role x.f) (i:=0) (List.length_pos_of_mem hm);unfold sndAt;rw[h0];obtain⟨y,_,_,he⟩:=(hfo e0).1 (Yb h0);rw[he]
  unfold badV at hb;rw[hsnd,Bool.true_and,Bool.or_eq_false_iff,List.any_eq_false] at hb;intro k hk;have:=hb.2 k hk;rw[Bool.not_eq_true,Bool.or_eq_false_iff,decide_eq_false_iff_not,Classical.not_not] at this;have h9:firstE g role ((x.f.toNat:Nat):Int)=firstE g role (k:Int):=this.2;rw[hxf] at h9;exact h9
 rw[<-hfo];constructor
 .intro he;obtain⟨n,hn1,hn2⟩:=List.mem_flatMap.1 ((sortE_mem _ _).1 he);rw[hF n hn1];refine (sortE_mem _ _).2 (List.mem_flatMap.2 ⟨n,elems_mem.2 ⟨(elems_mem.1 hn1).1,clo_iff.2 (.base (Ye.2 rfl))⟩,hn2⟩)
 .intro he;obtain⟨y,hy,hf,rfl⟩:=(hfo e).1 he;have own:vis1 role y=some ⟨true,y.b,y.l⟩:=by
   unfold vis1;rw[if_pos (by rw[(row_same hV hy hx hf).1,ha])]
  refine (sortE_mem _ _).2 (List.mem_flatMap.2 ⟨x.f.toNat,elems_mem.2 ⟨by omega,hP⟩,Yp.2 ⟨⟨⟨true,y.b,y.l⟩,y.t⟩,?_,rfl⟩⟩);unfold visL;refine Yym.2 ⟨y,hy,?_⟩;rw[if_pos (by omega),own];rfl

end Go.VC
end

section
namespace Go.VC
open Go.Proofs Go.LexS
def withL (x:Int):List Int->List Int
 | []=>[x]
 | y::l=>if x<=y then (if x<y then x::y::l else y::l) else y::withL x l
theorem withL_mem {x v:Int}:∀ {T:List Int},v∈withL x T ↔ v=x\/v∈T
 | []=>by simp[withL]
 | y::l=>by
  unfold withL;split
  .split
   .rw[Yr]
   .have:x=y:=by omega
    subst this;simp
  .rw[Yr,withL_mem,Yr];constructor
   .rintro (h | h | h)
    .exact .inr (.inl h)
    .exact .inl h
    .exact .inr (.inr h)
   .rintro (h | h | h)
    .exact .inr (.inl h)
    .exact .inl h
    .exact .inr (.inr h)
theorem withL_sorted {x:Int}:∀ {T:List Int},T.Pairwise (· < ·)->(withL x T).Pairwise (· < ·)
 | [],_=>by simp[withL]
 | y::l,h=>by
  unfold withL;have h':=List.pairwise_cons.1 h;split
  .split
   .refine List.pairwise_cons.2 ⟨fun v hv=>?_,h⟩;rcases Yr.1 hv with rfl | hv
    .assumption
    .have:=h'.1 v hv;omega
   .exact h
  .refine List.pairwise_cons.2 ⟨fun v hv=>?_,withL_sorted h'.2⟩;rcases withL_mem.1 hv with rfl | hv
   .omega
   .exact h'.1 v hv
theorem withL_len {x:Int}:∀ {T:List Int},x∉T->(withL x T).length=T.length+1
 | [],_=>rfl
 | y::l,h=>by
  unfold withL;rw[Yr,not_or] at h;split
  .split
   .rfl
   .exact absurd (by omega) h.1
  .rw[Yyj,withL_len h.2,Yyj]
theorem withL_same {x:Int}:∀ {T:List Int},T.Pairwise (· < ·)->x∈T->withL x T=T
 | [],_,h=>by cases h
 | y::l,h,hm=>by
  unfold withL;have h':=List.pairwise_cons.1 h;split
  .split
   .rcases Yr.1 hm with e | e
    .omega
    .have:=h'.1 x e;omega
   .rfl
  .rcases Yr.1 hm with e | e
   .omega
   .rw[withL_same h'.2 e]
theorem refHas92 (L:List Int) (x:Int) (s:Sl) (h:Heap) (hr:Rw h 1 s (L.map inC)) (hl:L.length<=1048576):Fn Pz 92 #[.slice s.a s.n s.c,.int .i64 x] h (RP (x∈L) h):=by
 apply vc92;unfold W92;have hn:=hr.ln;refine up_loop (n:=s.n) (fun i h'=>Ext h h'/\∀(j:Nat) y,j<i->L[j]?=some y->y≠x) ⟨.rfl',fun j y hj=>by omega⟩ ?_;rintro-i h5 hi ⟨E,hq⟩;refine sB_intro (fun c=>?_) (fun c=>RP.f (fun hm=>?_) E)
 .replace c:=lt_t c;refine (hr.ext E).nbI (by omega) (by omega) fun b6 o7 y gy t=>?_;replace gy:L[i]?=some y:=gy;refine⟨_,t.hd,sBe (fun c1=>RP.t (by subst c1;exact Yb gy) E) (fun c1=>Up.next c (by omega) ⟨E,fun j z hj hz=>?_⟩)⟩;by_cases e:j=i
  .subst e;rw[gy] at hz;cases hz;exact c1
  .exact hq j z (by omega) hz
 .replace c:=lt_f c;obtain⟨j,hj⟩:=Yf.1 hm;exact hq j x (by have:=(Ya.1 hj).1;omega) hj rfl
theorem refWith144 (L:List Int) (x:Int) (s:Sl) (h:Heap) (hr:Rw h 1 s (L.map inC)) (hl:L.length<=1048575) :
  Fn Pz 144 #[.slice s.a s.n s.c,.int .i64 x] h fun v h'=>∃s':Sl,v=.slice s'.a s'.n s'.c/\St h h' [.sl s' 3 1 ((withL x L).map inC)]:=by
 apply vc144;unfold W144 V144b V144a;have hn:=hr.ln;refine⟨fun out done i h' μ=>∃(j:Nat) (T:List Int),i=j/\j<=s.n/\μ=s.n-j/\St h h' [.sl out 3 1 (T.map inC)]/\T.length<=j+1/\(done=false->T.length<=j)/\withL x L=T++(if done=true then L.drop j else withL x (L.drop j)),⟨_,0,[],rfl,by omega,rfl,(St.refl h).nil_ 3 1,by simp,by simp,rfl⟩,?_⟩;rintro-out done _ h7 μ ⟨j,T,rfl,hj,rfl,hs,hT,hTf,hw⟩;have hol:=(hs.rows 0 rfl (by omega)).ln;refine sB_intro (fun c=>?_) (fun c=>?_)
 .replace c:=lt_t c;obtain⟨y,hy⟩:=get_some (l:=L) (i:=j) (by omega);rw[drop_get hy] at hw;refine sB_intro (fun c1=>?_) (fun c1=>?_)
  .have hdn:done=false:=bF c1;subst hdn;have hTf:=hTf rfl;rw[if_neg (by decide)] at hw;refine (hr.ext hs.ext).nbI (by omega) (by omega) fun b8 o9 y' gy t=>?_;replace gy:L[j]?=some y':=gy;rw[hy] at gy;cases gy;refine⟨_,t.hd,sBi (fun c2=>?_) (fun c2=>?_)⟩
   .refine (hr.ext hs.ext).nbI (by omega) (by omega) fun b8 o9 y' gy t=>?_;replace gy:L[j]?=some y':=gy;rw[hy] at gy;cases gy;refine⟨_,t.hd,sBi (fun c3=>?_) (fun c3=>?_)⟩
    .refine hs.app 0 rfl app42 (m:=1) [[.int .i64 x]] rfl rfl (by simp) rfl (by omega) (by simp only[maxLen];omega) fun s15 h16 ns hs=>?_;have hs:St h h16 [.sl s15 3 1 ((T++[x]).map inC)]:=by rw[Ym];exact hs
     have hol:=(hs.rows 0 rfl (by omega)).ln;have hlx:(T++[x]).length=T.length+1:=Yh;refine (hr.ext hs.ext).nbI (by omega) (by omega) fun b8 o9 y' gy t=>?_;replace gy:L[j]?=some y':=gy;rw[hy] at gy;cases gy;refine⟨_,t.hd,?_⟩;refine hs.app 0 rfl app42 (m:=1) [[.int .i64 y]] rfl rfl (by simp) rfl (by omega) (by simp only[maxLen];omega) fun s21 h22 ns hs=>?_;have hs:St h h22 [.sl s21 3 1 ((T++[x]++[y]).map inC)]:=by rw[Ym];exact hs
     refine⟨_,?_,j+1,T++[x]++[y],by rw[w64 (by omega) (by omega)];omega,by omega,rfl,hs,by rw[Yh,hlx,Yv];omega,(fun hd=>by cases hd),?_⟩
     .omega
     .rw[if_pos rfl,hw,withL,if_pos c2,if_pos c3,Yz,Yz];rfl
    .refine (hr.ext hs.ext).nbI (by omega) (by omega) fun b8 o9 y' gy t=>?_;replace gy:L[j]?=some y':=gy;rw[hy] at gy;cases gy;refine⟨_,t.hd,?_⟩;refine hs.app 0 rfl app42 (m:=1) [[.int .i64 y]] rfl rfl (by simp) rfl (by omega) (by simp only[maxLen];omega) fun s21 h22 ns hs=>?_;have hs:St h h22 [.sl s21 3 1 ((T++[y]).map inC)]:=by rw[Ym];exact hs
     refine⟨_,?_,j+1,T++[y],by rw[w64 (by omega) (by omega)];omega,by omega,rfl,hs,by rw[Yh,Yv];omega,(fun hd=>by cases hd),?_⟩
     .omega
     .rw[if_pos rfl,hw,withL,if_pos c2,if_neg c3,Yz];rfl
   .refine (hr.ext hs.ext).nbI (by omega) (by omega) fun b8 o9 y' gy t=>?_;replace gy:L[j]?=some y':=gy;rw[hy] at gy;cases gy;refine⟨_,t.hd,?_⟩;refine hs.app 0 rfl app42 (m:=1) [[.int .i64 y]] rfl rfl (by simp) rfl (by omega) (by simp only[maxLen];omega) fun s21 h22 ns hs=>?_;have hs:St h h22 [.sl s21 3 1 ((T++[y]).map inC)]:=by rw[Ym];exact hs
    refine⟨_,?_,j+1,T++[y],by rw[w64 (by omega) (by omega)];omega,by omega,rfl,hs,by rw[Yh,Yv];omega,(fun _=>by rw[Yh,Yv];omega),?_⟩
    .omega
    .rw[if_neg (by decide),hw,withL,if_neg c2,Yz];rfl
  .have hdn:done=true:=bT c1;subst hdn;rw[if_pos rfl] at hw;refine (hr.ext hs.ext).nbI (by omega) (by omega) fun b8 o9 y' gy t=>?_;replace gy:L[j]?=some y':=gy;rw[hy] at gy;cases gy;refine⟨_,t.hd,?_⟩;refine hs.app 0 rfl app42 (m:=1) [[.int .i64 y]] rfl rfl (by simp) rfl (by omega) (by simp only[maxLen];omega) fun s21 h22 ns hs=>?_;have hs:St h h22 [.sl s21 3 1 ((T++[y]).map inC)]:=by rw[Ym];exact hs
   refine⟨_,?_,j+1,T++[y],by rw[w64 (by omega) (by omega)];omega,by omega,rfl,hs,by rw[Yh,Yv];omega,(fun hd=>by cases hd),?_⟩
   .omega
   .rw[if_pos rfl,hw,Yz];rfl
 .replace c:=lt_f c;rw[List.drop_eq_nil_of_le (by omega)] at hw;refine sB_intro (fun c1=>?_) (fun c1=>?_)
  .have hdn:done=false:=bF c1;subst hdn;rw[if_neg (by decide)] at hw;refine hs.app 0 rfl app42 (m:=1) [[.int .i64 x]] rfl rfl (by simp) rfl (by omega) (by simp only[maxLen];omega) fun s15 h16 ns hs=>?_;have hs:St h h16 [.sl s15 3 1 ((T++[x]).map inC)]:=by rw[Ym];exact hs
   exact⟨_,rfl,by rw[hw];exact hs⟩
  .have hdn:done=true:=bT c1;subst hdn;rw[if_pos rfl,Yw] at hw;exact⟨_,rfl,by rw[hw];exact hs⟩
theorem asc_ext:∀(l m:List Int),l.Pairwise (· < ·)->m.Pairwise (· < ·)->(∀x,x∈l ↔ x∈m)->l=m
 | [],[],_,_,_=>rfl
 | [],b::m,_,_,h=>absurd ((h b).2 (by simp)) (by simp)
 | a::l,[],_,_,h=>absurd ((h a).1 (by simp)) (by simp)
 | a::l,b::m,hl,hm,h=>by
  obtain⟨h1,h2⟩:=List.pairwise_cons.1 hl;obtain⟨h3,h4⟩:=List.pairwise_cons.1 hm;have hab:a=b:=by
   rcases Yr.1 ((h a).1 (by simp)) with e | ha
   .exact e
   .rcases Yr.1 ((h b).2 (by simp)) with e | hb
    .exact e.symm
    .have:=h1 b hb;have:=h3 a ha;omega
  subst hab;congr 1;refine asc_ext l m h2 h4 fun x=>?_;have hx:=h x;rw[Yr,Yr] at hx;constructor
  .intro hm';rcases hx.1 (.inr hm') with rfl | h5
   .have:=h1 x hm';omega
   .exact h5
  .intro hm';rcases hx.2 (.inr hm') with rfl | h5
   .have:=h3 x hm';omega
   .exact h5
def setI (p:PSet):List Int:=natI (elems p)
theorem setI_mem {p:PSet} {v:Int}:v∈setI p ↔ 0<=v/\v<4096/\p v.toNat=true:=by
 unfold setI natI;rw[Yp];constructor
 .rintro⟨j,hj,rfl⟩;have:=elems_mem.1 hj;exact⟨by omega,by omega,by rw[Ys];exact this.2⟩
 .rintro⟨h0,h1,h2⟩;exact⟨v.toNat,elems_mem.2 ⟨by omega,h2⟩,by omega⟩
theorem setI_asc (p:PSet):(setI p).Pairwise (· < ·):=by
 unfold setI natI elems;rw[List.pairwise_map];exact (List.pairwise_lt_range.filter _).imp fun h=>by omega
theorem setI_len (p:PSet):(setI p).length<=4096:=by
 unfold setI natI elems;rw[Yc];exact Yys (List.length_filter_le _ _) (by rw[Yyd];exact Yyt _)
theorem setI_inj {p q:PSet} (hp:∀j,p j=true->j<4096) (hq:∀j,q j=true->j<4096) (h:setI p=setI q):p=q:=by
 funext j
 have h1:((j:Int)∈setI p ↔ (j:Int)∈setI q):=by rw[h]
 rw[setI_mem,setI_mem,Ys] at h1;cases hpj:p j with
 | true=>
  have:=hp j hpj;exact (h1.1 ⟨by omega,by omega,hpj⟩).2.2.symm
 | false=>
  cases hqj:q j with
  | false=>rfl
  | true=>
   have:=hq j hqj;have:=(h1.2 ⟨by omega,by omega,hqj⟩).2.2;rw[hpj] at this;cases this
theorem setI_of {p:PSet} {l:List Int} (hl:l.Pairwise (· < ·)) (h:∀v,v∈l ↔ 0<=v/\v<4096/\p v.toNat=true):l=setI p:=asc_ext l (setI p) hl (setI_asc p) fun v=>by rw[h,setI_mem]
theorem same145 (A B:List Int) (s t:Sl) (h:Heap) (hA:Rw h 1 s (A.map inC)) (hB:Rw h 1 t (B.map inC)) (hl:A.length<=1048576):Fn Pz 145 #[.slice s.a s.n s.c,.slice t.a t.n t.c] h fun v h'=>v=.bool (decide (A=B))/\h'=h:=by
 apply vc145 s t;unfold W145;have hn:=hA.ln;have hm:=hB.ln;have no:A≠B->∀h',h'=h->(Value.bool false=.bool (decide (A=B))/\h'=h):=fun e h' eh=>⟨by rw[decide_eq_false e],eh⟩;refine sBn (fun c=>no (fun e=>c (by rw[hn,hm,e])) h rfl) (fun c=>?_);have hAB:A.length=B.length:=by omega
 refine up_loop (n:=s.n) (fun i h'=>h'=h/\∀(j:Nat) x y,j<i->A[j]?=some x->B[j]?=some y->x=y) ⟨rfl,fun j x y hj=>by omega⟩ ?_;rintro-i _ hi ⟨rfl,hq⟩;refine sB_intro (fun c1=>?_) (fun c1=>⟨?_,rfl⟩)
 .replace c1:=lt_t c1;refine hA.nbI (by omega) (by omega) fun b6 o7 x gx t6=>?_;replace gx:A[i]?=some x:=gx;refine⟨_,t6.hd,?_⟩;refine hB.nbI (by omega) (by omega) fun b9 o10 y gy t9=>?_;replace gy:B[i]?=some y:=gy;refine⟨_,t9.hd,sBn (fun c2=>no (fun e=>c2 (by rw[e] at gx;rw[gx] at gy;exact Yyp gy)) _ rfl) (fun c2=>Up.next c1 (by omega) ⟨rfl,fun j x' y' hj hx' hy'=>?_⟩)⟩;by_cases e:j=i
  .subst e;rw[gx] at hx';rw[gy] at hy';cases hx';cases hy';exact c2
  .exact hq j x' y' (by omega) hx' hy'
 .replace c1:=lt_f c1;have e:A=B:=by
   refine List.ext_getElem hAB fun j h1 h2=>?_;exact hq j _ _ (by omega) (Yi h1) (Yi h2)
  rw[decide_eq_true e]
theorem sameEv47 (r:Int) (x y:Ev) (h:Heap):Fn Pz 47 #[.agg ⟨aC r x⟩,.agg ⟨aC r y⟩] h fun v h'=>v=.bool (decide (x=y))/\Ext h h':=by
 apply vc47 r x.send x.peer x.label ⟨none,0,0⟩ r y.send y.peer y.label ⟨none,0,0⟩;unfold W47;refine (St.refl h).newb fun h11 hs=>?_;refine hs.newb fun h12 hs=>?_;refine⟨_,hs.rd 1 rfl (i:=0) rfl,_,hs.rd 0 rfl (i:=0) rfl,sB_t (by simp) ?_⟩;have no:x≠y->(Value.bool false=.bool (decide (x=y))/\Ext h h12):=fun e=>⟨by rw[decide_eq_false e],hs.ext⟩;refine⟨_,hs.rd 1 rfl (i:=1) rfl,_,hs.rd 0 rfl (i:=1) rfl,sB_intro (fun c1=>?_) (fun c1=>no fun e=>by rw[e] at c1;simp at c1)⟩;refine⟨_,hs.rd 1 rfl (i:=2) rfl,_,hs.rd 0 rfl (i:=2) rfl,sBe (fun c2=>?_) (fun c2=>no fun e=>c2 (by rw[e]))⟩;refine⟨_,hs.rd 1 rfl (i:=3) rfl,_,hs.rd 0 rfl (i:=3) rfl,?_,hs.ext⟩;have c1:x.send=y.send:=by simpa using c1
 by_cases c3:x.label=y.label
 .rw[decide_eq_true (ev_ext c1 c2 c3),c3,beq_self_eq_true]
 .rw[decide_eq_false (fun e=>c3 (by rw[e])),beq_eq_false_iff_ne.2 c3]
theorem before195 (r:Int) (x y:Ev) (h:Heap):Fn Pz 195 #[.agg ⟨aC r x⟩,.agg ⟨aC r y⟩] h (RP (evLt x y) h):=by
 apply vc195 r x.send x.peer x.label ⟨none,0,0⟩ r y.send y.peer y.label ⟨none,0,0⟩;unfold W195;refine (St.refl h).newb fun h11 hs=>?_;refine hs.newb fun h12 hs=>?_;refine⟨_,hs.rd 1 rfl (i:=1) rfl,_,hs.rd 0 rfl (i:=1) rfl,sB_intro (fun c1=>?_) (fun c1=>?_)⟩
 .refine⟨_,hs.rd 1 rfl (i:=1) rfl,RP.e ?_ hs.ext⟩;unfold evLt;cases hx:x.send<;>cases hy:y.send<;>simp_all
 .have c1:x.send=y.send:=by simpa using c1
  refine⟨_,hs.rd 1 rfl (i:=2) rfl,_,hs.rd 0 rfl (i:=2) rfl,sBn (fun c2=>?_) (fun c2=>?_)⟩
  .refine⟨_,hs.rd 1 rfl (i:=2) rfl,_,hs.rd 0 rfl (i:=2) rfl,RP.e ?_ hs.ext⟩;unfold evLt;rw[decide_eq_true_eq];constructor
   .intro hlt;exact .inr ⟨c1,.inl hlt⟩
   .rintro (⟨h1,h2⟩ | ⟨_,h1 | ⟨h1,_⟩⟩)
    .rw[c1,h2] at h1;cases h1
    .exact h1
    .exact absurd h1 c2
  .refine⟨_,hs.rd 1 rfl (i:=3) rfl,_,hs.rd 0 rfl (i:=3) rfl,RP.e ?_ hs.ext⟩;unfold evLt;rw[decide_eq_true_eq];constructor
   .intro hlt;exact .inr ⟨c1,.inr ⟨c2,hlt⟩⟩
   .rintro (⟨h1,h2⟩ | ⟨_,h1 | ⟨_,h1⟩⟩)
    .rw[c1,h2] at h1;cases h1
    .omega
    .exact h1
theorem sameEvs97 (r:Int) (A B:List Ev) (s t:Sl) (h:Heap) (hA:Rw h 5 s (A.map (aC r))) (hB:Rw h 5 t (B.map (aC r))) (hl:A.length<=1048576):Fn Pz 97 #[.slice s.a s.n s.c,.slice t.a t.n t.c] h fun v h'=>v=.bool (decide (A=B))/\Ext h h':=by
 apply vc97 s t;unfold W97;have hn:=hA.ln;have hm:=hB.ln;have no:A≠B->∀h',Ext h h'->(Value.bool false=.bool (decide (A=B))/\Ext h h'):=fun e h' E=>⟨by rw[decide_eq_false e],E⟩;refine sBn (fun c=>no (fun e=>c (by rw[hn,hm,e])) h .rfl') (fun c=>?_);have hAB:A.length=B.length:=by omega
 refine up_loop (n:=s.n) (fun i h'=>Ext h h'/\∀(j:Nat) x y,j<i->A[j]?=some x->B[j]?=some y->x=y) ⟨.rfl',fun j x y hj=>by omega⟩ ?_;rintro-i h5 hi ⟨E,hq⟩;refine sB_intro (fun c1=>?_) (fun c1=>⟨?_,E⟩)
 .replace c1:=lt_t c1;refine (hA.ext E).nbI (by omega) (by omega) fun b6 o7 x gx t6=>?_;replace gx:A[i]?=some x:=gx;refine⟨r,x.send,x.peer,x.label,⟨none,0,0⟩,t6,?_⟩;refine (hB.ext E).nbI (by omega) (by omega) fun b9 o10 y gy t9=>?_;replace gy:B[i]?=some y:=gy;refine⟨r,y.send,y.peer,y.label,⟨none,0,0⟩,t9,?_⟩;refine (sameEv47 r x y h5).mono ?_;rintro _ h22 ⟨rfl,E2⟩;refine⟨_,rfl,sB_intro (fun c2=>no (fun e=>?_) _ (E.trans E2)) (fun c2=>Up.next c1 (by omega) ⟨E.trans E2,fun j x' y' hj hx' hy'=>?_⟩)⟩
  .rw[e] at gx;rw[gx] at gy;have:=Yyo (bF c2);exact this (Yyp gy)
  .by_cases e:j=i
   .subst e;rw[gx] at hx';rw[gy] at hy';cases hx';cases hy';exact Yyn (bT c2)
   .exact hq j x' y' (by omega) hx' hy'
 .replace c1:=lt_f c1;have e:A=B:=by
   refine List.ext_getElem hAB fun j h1 h2=>?_;exact hq j _ _ (by omega) (Yi h1) (Yi h2)
  rw[decide_eq_true e]
theorem insert143 (r:Int) (L:List Ev) (x:Ev) (s:Sl) (h:Heap) (hr:Rw h 5 s (L.map (aC r))) (hl:L.length<=1048575) :
  Fn Pz 143 #[.slice s.a s.n s.c,.agg ⟨aC r x⟩] h fun v h'=>∃s':Sl,v=.slice s'.a s'.n s'.c/\St h h' [.sl s' 60 5 ((insE x L).map (aC r))]:=by
 apply vc143 s r x.send x.peer x.label ⟨none,0,0⟩;unfold W143 V143b V143a;have hn:=hr.ln;refine (St.refl h).newb fun h6 hs0=>?_;refine⟨fun out done i h' μ=>∃(j:Nat) (T:List Ev),i=j/\j<=s.n/\μ=s.n-j/\St h h' [.sl out 60 5 (T.map (aC r)),.blk h.size (aC r x) 60]/\T.length<=j+1/\(done=false->T.length<=j)/\insE x L=T++(if done=true then L.drop j else insE x (L.drop j)),⟨_,0,[],rfl,by omega,rfl,hs0.nil_ 60 5,by simp,by simp,rfl⟩,?_⟩;clear hs0;rintro-out done _ h7 μ ⟨j,T,rfl,hj,rfl,hs,hT,hTf,hw⟩;have hol:=(hs.rows 0 rfl (by decide)).ln
 have one:∀ {hX:Heap} {o:Sl} {T:List Ev} {y:Ev} {d:Bool},j<s.n->L[j]?=some y->St h hX [.sl o 60 5 (T.map (aC r)),.blk h.size (aC r x) 60]->T.length<=j+1->(T.length<=j\/d=true)->insE x L=T++[y]++(if d=true then L.drop (j+1) else insE x (L.drop (j+1))) ->
   NB s.a fun b o'=>((0<=(j:Int)/\(j:Int)<(s.n:Nat))/\(∃x54:Int,∃x55:Bool,∃x56:Int,∃x57:Int,∃x58:Sl,atC hX ⟨b,o'+Int.toNat (j:Int)*5,none⟩ [.int .i64 x54,.bool x55,.int .i64 x56,.int .i64 x57,.slice x58.a x58.n x58.c] /\
   (∀h59:Heap,h59=hX.push (.cells ⟨[.int .i64 x54,.bool x55,.int .i64 x56,.int .i64 x57,.slice x58.a x58.n x58.c]⟩ 60) ->
   (App Pz 56 56 (.slice o.a o.n o.c) (.slice (some ⟨hX.size,0,none⟩) 1 1) h59 fun s60 h61=>
   (∃m62,m62<s.n-j/\∃(j':Nat) (T:List Ev),IntKind.wrap .i64 ((j:Int)+1)=j'/\j'<=s.n/\m62=s.n-j'/\St h h61 [.sl s60 60 5 (T.map (aC r)),.blk h.size (aC r x) 60]/\T.length<=j'+1/\(d=false->T.length<=j')/\insE x L=T++(if d=true then L.drop j' else insE x (L.drop j'))))))):=fun {hX o T y d} hjn gy hs hT hTd hw=>by
  refine (hr.ext hs.ext).nbI (by omega) (by omega) fun b o' z gz t=>?_;replace gz:L[j]?=some z:=gz;rw[gy] at gz;cases gz;refine⟨r,y.send,y.peer,y.label,⟨none,0,0⟩,t,?_⟩;have hol:=(hs.rows 0 rfl (by decide)).ln;refine hs.app 0 rfl app56 (m:=1) [aC r y] rfl rfl (by intro q hq;rw[Ye.1 hq];rfl) rfl (by omega) (by simp only[maxLen];omega) fun s21 h22 ns hs=>?_;have hlen:(T++[y]).length=T.length+1:=Yh;refine⟨_,(show s.n-(j+1)<s.n-j by omega),j+1,T++[y],by rw[w64 (by omega) (by omega)];omega,by omega,rfl,by rw[Ym];exact hs,by omega,fun hd=>?_,hw⟩;rcases hTd with h1 | h1
  .omega
  .rw[h1] at hd;cases hd
 refine sB_intro (fun c=>?_) (fun c=>?_)
 .replace c:=lt_t c;obtain⟨y,hy⟩:=get_some (l:=L) (i:=j) (by omega);rw[drop_get hy] at hw;refine sB_intro (fun c1=>?_) (fun c1=>?_)
  .have hdn:done=false:=bF c1;subst hdn;have hTf:=hTf rfl;rw[if_neg (by decide)] at hw;refine (hr.ext hs.ext).nbI (by omega) (by omega) fun b8 o9 y' gy t=>?_;replace gy:L[j]?=some y':=gy;rw[hy] at gy;cases gy;refine⟨r,y.send,y.peer,y.label,⟨none,0,0⟩,t,r,x.send,x.peer,x.label,⟨none,0,0⟩,hs.at 1 rfl (o:=0) (n:=5) rfl,?_⟩;refine (before195 r y x h7).mono ?_;rintro _ h28 ⟨⟨bb,rfl,hbb⟩,E⟩;have hs:=hs.step E;refine⟨bb,rfl,sB_intro (fun c2=>?_) (fun c2=>?_)⟩
   .have hnl:¬evLt y x:=iff_f hbb (bF c2);refine (hr.ext hs.ext).nbI (by omega) (by omega) fun b8 o9 y' gy t=>?_;replace gy:L[j]?=some y':=gy;rw[hy] at gy;cases gy;refine⟨r,y.send,y.peer,y.label,⟨none,0,0⟩,t,r,x.send,x.peer,x.label,⟨none,0,0⟩,hs.at 1 rfl (o:=0) (n:=5) rfl,?_⟩;refine (sameEv47 r y x h28).mono ?_;rintro _ h43 ⟨rfl,E2⟩;have hs:=hs.step E2;refine⟨_,rfl,sB_intro (fun c3=>?_) (fun c3=>?_)⟩
    .have hne:y≠x:=Yyo (bF c3);refine⟨r,x.send,x.peer,x.label,⟨none,0,0⟩,hs.at 1 rfl (o:=0) (n:=5) rfl,?_⟩;have hol:=(hs.rows 0 rfl (by decide)).ln;refine hs.app 0 rfl app56 (m:=1) [aC r x] rfl rfl (by intro q hq;rw[Ye.1 hq];rfl) rfl (by omega) (by simp only[maxLen];omega) fun s50 h51 ns hs=>?_;have hs:St h h51 [.sl s50 60 5 ((T++[x]).map (aC r)),.blk h.size (aC r x) 60]:=by rw[Ym];exact hs
     refine one (d:=true) c hy hs (by rw[Yh,Yv];omega) (.inr rfl) ?_;rw[if_pos rfl,hw,insE,if_neg hnl,if_neg (Ne.symm hne),Yz,Yz];rfl
    .have he:y=x:=Yyn (bT c3);refine one (d:=true) c hy hs (by omega) (.inr rfl) ?_;rw[if_pos rfl,hw,insE,if_neg hnl,if_pos he.symm,Yz];rfl
   .have hlt:evLt y x:=hbb.1 (bT c2);refine one (d:=false) c hy hs (by omega) (.inl hTf) ?_;rw[if_neg (by decide),hw,insE,if_pos hlt,Yz];rfl
  .have hdn:done=true:=bT c1;subst hdn;rw[if_pos rfl] at hw;refine one (d:=true) c hy hs hT (.inr rfl) ?_;rw[if_pos rfl,hw,Yz];rfl
 .replace c:=lt_f c;rw[List.drop_eq_nil_of_le (by omega)] at hw;refine sB_intro (fun c1=>?_) (fun c1=>?_)
  .have hdn:done=false:=bF c1;subst hdn;rw[if_neg (by decide)] at hw;refine⟨r,x.send,x.peer,x.label,⟨none,0,0⟩,hs.at 1 rfl (o:=0) (n:=5) rfl,?_⟩;refine hs.app 0 rfl app56 (m:=1) [aC r x] rfl rfl (by intro q hq;rw[Ye.1 hq];rfl) rfl (by omega) (by simp only[maxLen];omega) fun s50 h51 ns hs=>?_;have hs:St h h51 [.sl s50 60 5 ((T++[x]).map (aC r)),.blk h.size (aC r x) 60]:=by rw[Ym];exact hs
   exact⟨_,rfl,by rw[hw];exact hs.sub (.cons_cons _ (List.nil_sublist _))⟩
  .have hdn:done=true:=bT c1;subst hdn;rw[if_pos rfl,Yw] at hw;exact⟨_,rfl,by rw[hw];exact hs.sub (.cons_cons _ (List.nil_sublist _))⟩
end Go.VC
end
