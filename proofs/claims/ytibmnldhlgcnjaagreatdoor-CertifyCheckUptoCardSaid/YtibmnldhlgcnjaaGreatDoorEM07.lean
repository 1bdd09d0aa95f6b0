/- PtV PtW0 PtW PuB PuSort PuC PuD PuE PwA PwB PuG PuH PwC PwD PwE. -/
import Derived.Test.YtibmnldhlgcnjaaGreatDoorEM06
set_option linter.all false
set_option maxRecDepth 100000
set_option maxHeartbeats 8000000

section
namespace Go.VC
open Go.Proofs Go.LexS
theorem St.nestLn {α:Type} {h0 h:Heap} {A B:List It} {Q:List (Sl × List α)} {e:TypeId} {n:Nat} {cs:α->List Value} (hs:St h0 h (A++Q.map (nest e n cs)++B)) {i:Nat} {q:Sl × List α} (hi:Q[i]?=some q) (hn:0<n):Rw h n q.1 (q.2.map cs):=by
 have hil:i<(Q.map (nest e n cs)).length:=by rw[Yc];exact (Ya.1 hi).1
 exact hs.rw (A.length+i) (rows:=q.2.map cs) (by rw[get_mid hil,Yd,hi];rfl) hn
theorem made31 (n:Nat):madeL Pz 96 n=(List.replicate n (⟨none,0,0⟩:Sl)).map slV:=by
 have e:zeroC Pz 96=[.slice none 0 0]:=by kernel_rfl
 unfold madeL;rw[e,List.map_replicate]
 induction n with
 | zero=>rfl
 | succ n ih=>rw[List.replicate_succ,List.replicate_succ,Yyu,ih];rfl
theorem list_set_self {α:Type} {L:List α} {k:Nat} {x:α} (h:L[k]?=some x):L.set k x=L:=by
 apply Yyr;intro m;by_cases hm:k=m
 .subst hm;rw[Yq (Ya.1 h).1,h]
 .rw[Yy hm]
def toV (t:To):Value:=.agg ⟨t.cs⟩
def natI (L:List Nat):List Int:=L.map fun c:Nat=>(c:Int)
theorem natI_snoc (L:List Nat) (c:Nat):natI (L++[c])=natI L++[(c:Int)]:=by unfold natI;rw[Ym];rfl
theorem natI_get {L:List Nat} {i:Nat} {d:Int} (h:(natI L)[i]?=some d):∃c:Nat,L[i]?=some c/\d=c:=by
 unfold natI at h;rw[Yd] at h;obtain⟨c,hc,rfl⟩:=Yya.1 h;exact⟨c,hc,rfl⟩
def mnA (xb lb msb sb ob gb nmb:Nat) (m:Mch) (sf sm sl sc q ofn omv oli:Sl) (C Q:List Nat) (NUM:List Int) (fin:List Bool) (mv:List Mv) (li:List To) (SM:List Nat) (MS:List Sl):List It:=
 [.blk xb [.int .i64 m.role,.int .i64 0,.int .i64 0,.slice ofn.a ofn.n ofn.c,.slice omv.a omv.n omv.c,.slice oli.a oli.n oli.c] 98,.sl q 3 1 ((natI Q).map inC),.blk nmb (NUM.map iv) 3,.mp lb ((limM m.li).map fun q=>(iv q.1,toV q.2)),.sl ofn 4 1 (fin.map bC),.sl omv 110 6 (mv.map Mv.cs),.sl oli 230 3 (li.map To.cs),
  .blk msb (MS.map slV) 96,.blk sb (SM.map natV) 3,.sl sc 3 1 ((natI C).map inC),.blk ob m0 98,.blk gb (mC m sf sm sl) 98]
theorem minimal36 (m:Mch) (sf sm sl:Sl) (h:Heap) (hM:MI h m sf sm sl) (hO:MOk m) (hS:m.mv.Pairwise mvLt) :
  Fn Pz 149 #[.agg ⟨mC m sf sm sl⟩] h fun v h'=>∃sf' sm' sl':Sl,v=.agg ⟨mC (minF m) sf' sm' sl'⟩/\St h h' (mL (minF m) sf' sm' sl'):=by
 apply vc149 m.role m.n m.s sf sm sl;unfold W149;have hs:=St.refl h;have hn:=hO.n;have hms:=hO.s;have hml:=hO.ml;have hll:=hO.ll;have hfl:=hO.fl;have hMl:=hM.pl.ln;have hMf:=hM.pf.ln;have hMm:=hM.pm.ln;have hCs:=cls_ok hO;have hmin:minF m=minN m (cls m).1 202 0 [(cls m).1.getD m.s.toNat 0] [] [] []:=rfl;refine hs.newb fun h7 hs=>?_;refine hs.newb fun h8 hs=>?_;refine⟨_,_,_,sf,sm,sl,hs.at 1 rfl (n:=6) rfl,?_⟩;refine (classes71 m sf sm sl h8 (hM.ext hs.ext) hO hS).mono ?_;rintro _ h18 ⟨sc,rfl,hsc⟩;have hs:=(hs.join hsc).perm (List.perm_append_comm (l₁:=[_,_]) (l₂:=[_]));generalize hC:(cls m).1=C at *;generalize hcnt:(cls m).2=cnt at *;obtain⟨hCl,hCb,hcc,hCsu⟩:=hCs;refine⟨sc,_,rfl,by omega,?_⟩;rw[made3n];refine hs.newb fun h19 hs=>?_;refine⟨_,hs.rd 3 rfl rfl,?_⟩;have hscn:=(hs.rows 1 (s:=sc) (cs:=inC) rfl (by omega)).ln;rw[Yc] at hscn;rw[w64 (n:=m.n-1) (by omega) (by omega)];refine⟨fun x h' μ=>∃(i:Nat) (SM:List Nat),x=(i:Int)-1/\μ=i/\i<=m.n.toNat/\SM.length=cnt/\(∀c,c<cnt->c∈C.drop i->SM[c]?=some (i+idxF (C.drop i) c))/\St h h' [.blk h18.size (SM.map natV) 3,.sl sc 3 1 ((natI C).map inC),.blk h7.size m0 98,.blk h.size (mC m sf sm sl) 98],
  ⟨_,m.n.toNat,_,by omega,rfl,by omega,by rw[Yg];omega,fun c _ hc=>(by rw[List.drop_eq_nil_of_le (by omega)] at hc;cases hc),hs⟩,?_⟩
 clear hs;rintro-_ h25 i ⟨_,SM,rfl,rfl,hi,hSMl,hSM,hs⟩;refine sBi (fun c1=>?_) (fun c1=>?_)
 .obtain⟨i,rfl⟩:∃i',i=i'+1:=⟨i-1,by omega⟩;rw[show (((i+1:Nat):Int)-1)=(i:Int) by omega];refine (hs.rows 1 (s:=sc) (cs:=inC) rfl (by omega)).nbI (by omega) (by omega) fun b26 o27 d26 g26 t26=>?_;rw[Ys] at g26;obtain⟨c,gc,rfl⟩:=natI_get g26;have hcb:=hCb c (Yb gc);refine⟨_,t26.hd,⟨by omega,by omega⟩,?_⟩;rw[show 0+Int.toNat (c:Int)*1=c by omega];refine hs.put 0 rfl (o:=c) (vs:=[natV i]) rfl (by rw[Yc,Yv];omega) fun h29 hs=>?_;rw[map_splice natV (by omega)] at hs;refine⟨_,by omega,i,_,by rw[w64 (by omega) (by omega)],rfl,by omega,by rw[Yyh];exact hSMl,fun c' hc' hm=>?_,hs⟩;rw[drop_get gc] at hm ⊢;rw[idxF];by_cases e:c=c'
  .subst e;rw[if_pos rfl,Yq (by omega)];rfl
  .rw[if_neg e,Yy e];rcases Yr.1 hm with hm | hm
   .exact absurd hm.symm e
   .rw[hSM c' hc' hm];congr 1;omega
 have hi0:i=0:=by omega
 subst hi0;have hSM':∀c,c<cnt->SM[c]?=some (idxF C c):=fun c hc=>by
  have:=hSM c hc (by rw[List.drop_zero];exact hCsu c hc)
  rwa [List.drop_zero,Nat.zero_add] at this
 clear hSM c1 hi;refine⟨_,hs.rd 3 rfl rfl,by omega,?_⟩;rw[made31];refine hs.newb fun h32 hs=>?_;have hs:=hs.nests (α:=Mv) (e:=110) (k:=6) (cs:=Mv.cs) (A:=[_,_,_,_,_]) (B:=[]) m.n.toNat;refine⟨sm,hs.rd 4 rfl rfl,?_⟩;refine⟨fun x h' μ=>∃(j:Nat) (MS:List (Sl × List Mv)),x=(j:Int)/\μ=m.mv.length-j/\j<=m.mv.length/\MS.map Prod.snd=((List.range m.n.toNat).map fun s:Nat=>(m.mv.take j).filter (fun y=>y.f=(s:Int))) /\
  St h h' ([.blk h25.size ((MS.map Prod.fst).map slV) 96,.blk h18.size (SM.map natV) 3,.sl sc 3 1 ((natI C).map inC),.blk h7.size m0 98,.blk h.size (mC m sf sm sl) 98]++MS.map (nest 110 6 Mv.cs)++[]),
  ⟨_,0,List.replicate m.n.toNat ((⟨.none,0,0⟩,[]):Sl × List Mv),rfl,rfl,by omega,?_,?_⟩,?_⟩
 rotate_left 2
 .clear hs;rintro-_ h38 μ ⟨j,MS,rfl,rfl,hj,hMS,hs⟩;have hMSl:MS.length=m.n.toNat:=by have:=congrArg List.length hMS;simpa using this
  refine sBi (fun c1=>?_) (fun c1=>?_)
  .refine (hM.pm.ext hs.ext).rw.nbI (by omega) (by omega) fun b39 o40 x g39 t39=>?_;replace g39:m.mv[j]?=some x:=g39;obtain⟨hx1,hx2,_,_,_,_⟩:=hO.mv x (Yb g39);obtain⟨q,hq⟩:=get_some (l:=MS) (i:=x.f.toNat) (by omega);refine⟨_,_,_,_,_,_,t39,?_⟩;refine hs.newput (vs:=x.cs) rfl rfl fun h48 hs=>?_;refine⟨_,hs.rd 0 rfl rfl,_,hs.rd 0 rfl rfl,⟨by omega,by omega⟩,?_⟩;rw[show 0+Int.toNat x.f*1=x.f.toNat by omega];refine⟨q.1,hs.rd 1 rfl (by rw[Yd,Yd,hq];rfl),?_⟩;refine⟨_,_,_,_,_,_,hs.at 0 rfl (n:=6) rfl,?_⟩;refine hs.newbE fun h58 E58 hs=>⟨E58.sm,?_⟩;have hs:St h h58 ((.blk h48.size x.cs 110 :: .blk h38.size x.cs 110::[.blk h25.size ((MS.map Prod.fst).map slV) 96,.blk h18.size (SM.map natV) 3,.sl sc 3 1 ((natI C).map inC),.blk h7.size m0 98,.blk h.size (mC m sf sm sl) 98])++MS.map (nest 110 6 Mv.cs)++[]):=hs;have hqn:=(hs.nestLn hq (by omega)).ln;have hq2:q.2=(m.mv.take j).filter (fun y=>y.f=((x.f.toNat:Nat):Int)):=by
    have:=congrArg (·[x.f.toNat]?) hMS;simp only[Yd,hq,Yyb (show x.f.toNat<m.n.toNat by omega),Option.map_some,Option.some.injEq] at this;exact this
   have hql:q.2.length<=400:=by rw[hq2];refine Yys (List.length_filter_le _ _) ?_;rw[Yu];omega
   refine hs.nestAt hq app31 x (hs.at 0 rfl (n:=6) rfl) rfl rfl (by omega) (by simp only[maxLen];omega) fun r h60 hr hs3=>?_;refine⟨sm_cons (hs.same hs3 1 1 rfl rfl) sm_nil,⟨by omega,by omega⟩,?_⟩;refine hs3.put 2 rfl (o:=x.f.toNat) (vs:=[slV r]) rfl (by rw[Yc,Yc,Yv];omega) fun h61 hs=>?_;rw[map_splice slV (by rw[Yc];omega)] at hs;refine⟨_,by omega,j+1,MS.set x.f.toNat (r,q.2++[x]),by rw[w64 (by omega) (by omega)];omega,rfl,by omega,?_,?_⟩
   .apply Yyr;intro s;rw[Yd,Yd];by_cases hsn:s<m.n.toNat
    .rw[Yyb hsn];have h1:=congrArg (·[s]?) hMS;simp only[Yd,Yyb hsn,Option.map_some] at h1;by_cases e:x.f.toNat=s
     .subst e;rw[Yq (by omega),Option.map_some,Option.map_some,outM_snoc g39,if_pos (by omega),hq2]
     .rw[Yy e,h1,Option.map_some,outM_snoc g39,if_neg (by omega)]
    .rw[Yl (by rw[Yyh];omega),Yl (by rw[Yyd];omega)];rfl
   .rw[List.map_set];exact hs.drop 2
  have hjn:j=m.mv.length:=by omega
  subst hjn;rw[Yye] at hMS;rw[Yw] at hs;have hMSl:MS.length=m.n.toNat:=by have:=congrArg List.length hMS;simpa using this
  have hMSg:∀s:Nat,s<m.n.toNat->∃q:Sl,MS[s]?=some (q,outM m s):=fun s hsn=>by
   obtain⟨q,hq⟩:=get_some (l:=MS) (i:=s) (by omega);have:=congrArg (·[s]?) hMS;simp only[Yd,hq,Yyb hsn,Option.map_some,Option.some.injEq] at this;exact⟨q.1,by rw[hq];congr 1;exact Prod.ext rfl this⟩
  clear hMS;refine hs.mmake 267 fun h65 E65 hs=>?_;refine⟨_,rfl,sl,hs.rd 5 rfl rfl,?_⟩;refine⟨fun x h' μ=>∃j:Nat,x=(j:Int)/\μ=m.li.length-j/\j<=m.li.length/\St h h' (.mp h38.size ((limM (m.li.take j)).map fun q=>(iv q.1,toV q.2))::[.blk h25.size ((MS.map Prod.fst).map slV) 96,.blk h18.size (SM.map natV) 3,.sl sc 3 1 ((natI C).map inC),.blk h7.size m0 98,.blk h.size (mC m sf sm sl) 98]++MS.map (nest 110 6 Mv.cs)),⟨_,0,rfl,rfl,by omega,hs⟩,?_⟩;clear hs;rintro-_ h71 μ ⟨j,rfl,rfl,hj,hs⟩;refine sBi (fun c2=>?_) (fun c2=>?_)
  .refine (hM.pl.ext hs.ext).rw.nbI (by omega) (by omega) fun b72 o73 t g72 t72=>?_;replace g72:m.li[j]?=some t:=g72;obtain⟨ht1,ht2,ht3,ht4,ht5⟩:=hO.li t (Yb g72);refine⟨_,_,_,t72,?_⟩;refine hs.newput (vs:=t.cs) rfl rfl fun h78 hs=>?_;refine⟨_,hs.rd 0 rfl rfl,_,_,_,hs.at 0 rfl (n:=3) rfl,?_⟩;have hlr:∀q∈limM (m.li.take j),inR q.1:=fun q hq=>by
    obtain⟨h1,h2⟩:=limM_mem hq;have:=hO.li _ (List.mem_of_mem_take h1);rw[<-h2];exact inRn (by omega) (by omega)
   refine hs.mput (ck:=iv) (cv:=toV) M140 1 rfl hlr (limM_nd _) (a:=t.s) (inRn (by omega) (by omega)) t fun h83 hs=>?_;rw[<-limM_snoc g72] at hs;exact⟨_,by omega,j+1,by rw[w64 (by omega) (by omega)];omega,rfl,by omega,hs.drop 1⟩
  have hjn:j=m.li.length:=by omega
  subst hjn;rw[Yye] at hs;refine⟨by omega,?_⟩;rw[<-made3n,made3i];refine hs.newb fun h85 hs=>?_;refine⟨fun x h' μ=>∃j:Nat,x=(j:Int)/\μ=cnt-j/\j<=cnt/\St h h' (.blk h71.size ((List.replicate j (-1)++List.replicate (cnt-j) 0).map iv) 3 :: .mp h38.size ((limM m.li).map fun q=>(iv q.1,toV q.2))::[.blk h25.size ((MS.map Prod.fst).map slV) 96,.blk h18.size (SM.map natV) 3,.sl sc 3 1 ((natI C).map inC),.blk h7.size m0 98,.blk h.size (mC m sf sm sl) 98]++MS.map (nest 110 6 Mv.cs)),⟨_,0,rfl,rfl,by omega,hs⟩,?_⟩;clear hs;rintro-_ h90 μ ⟨j,rfl,rfl,hj,hs⟩;refine sBi (fun c3=>?_) (fun c3=>?_)
  .refine⟨⟨by omega,by omega⟩,?_⟩;rw[show 0+Int.toNat (j:Int)*1=j by omega];refine hs.put 0 rfl (o:=j) (vs:=[iv (-1)]) rfl (by rw[Yc,Yh,Yg,Yg,Yv];omega) fun h91 hs=>?_;rw[map_splice iv (by rw[Yh,Yg,Yg];omega)] at hs;have e:(List.replicate j (-1:Int)++List.replicate (cnt-j) 0).set j (-1)=List.replicate (j+1) (-1)++List.replicate (cnt-(j+1)) 0:=by
    rw[List.set_append_right _ _ (by rw[Yg];omega),Yg,Nat.sub_self,show cnt-j=(cnt-(j+1))+1 by omega,List.replicate_succ,List.set_cons_zero,List.replicate_succ' (n:=j),Yz];rfl
   rw[e] at hs;exact⟨_,by omega,j+1,by rw[w64 (by omega) (by omega)];omega,rfl,by omega,hs⟩
  have hjn:j=cnt:=by omega
  subst hjn;rw[Nat.sub_self,List.replicate_zero,Yw] at hs;obtain⟨c0,hc0⟩:=get_some (l:=C) (i:=m.s.toNat) (by omega);have hc0b:=hCb c0 (Yb hc0);rw[getD_some hc0] at hmin;refine⟨_,hs.rd 6 rfl rfl,?_⟩;refine (hs.rows 4 (s:=sc) (cs:=inC) rfl (by omega)).nbI (by omega) (by omega) fun b94 o95 d94 g94 t94=>?_;obtain⟨c0',gc0,rfl⟩:=natI_get g94;rw[hc0] at gc0;cases gc0;refine⟨_,t94.hd,?_⟩;refine hs.newb fun h97 hs=>?_;refine⟨⟨by omega,by omega⟩,_,hs.rd 0 rfl rfl,⟨by omega,by omega⟩,?_⟩;rw[show 0+Int.toNat (c0:Int)*1=c0 by omega];refine hs.put 1 rfl (o:=c0) (vs:=[iv 0]) rfl (by rw[Yc,Yg,Yv];omega) fun h99 hs=>?_;rw[map_splice iv (by rw[Yg];omega)] at hs;have hs:=hs.blkS 1 1 ((natI [c0]).map inC) rfl (inrows _) rfl (by decide);refine⟨_,hs.rd 7 rfl rfl,?_⟩;refine hs.newput (vs:=[.int .i64 m.role,.int .i64 0,.int .i64 0,.slice none 0 0,.slice none 0 0,.slice none 0 0]) rfl rfl fun h102 hs=>?_;have hs:St h h102 (mnA h99.size h38.size h25.size h18.size h7.size h.size h71.size m sf sm sl sc ⟨some ⟨h90.size,0,none⟩,1,1⟩ ⟨none,0,0⟩ ⟨none,0,0⟩ ⟨none,0,0⟩ C [c0] ((List.replicate j (-1:Int)).set c0 0) [] [] [] SM (MS.map Prod.fst)++MS.map (nest 110 6 Mv.cs)):=
   (((hs.nil_ 230 3).nil_ 110 6).nil_ 4 1).perm (List.Perm.append_right _ (List.perm_append_comm (l₁:=[_,_,_]) (l₂:=[_,_,_,_])))
  have hq0:QOk [c0] j:=⟨by simp,fun c hc=>by rw[Ye] at hc;omega⟩;have hnq0:NumQ ((List.replicate j (-1:Int)).set c0 0) [c0] j:=by
   refine⟨by rw[Yyh,Yg],fun c hc=>?_⟩;by_cases e:c=c0
   .subst e;rw[Yq (by rw[Yg];exact hc),if_pos (by simp),idxF,if_pos rfl];rfl
   .rw[Yy (fun h=>e h.symm),if_neg (by simpa using e),List.getElem?_replicate,if_pos hc]
  generalize j=cnt at *;refine⟨fun q x h' μ=>∃(i:Nat) (ofn omv oli:Sl) (Q:List Nat) (NUM:List Int) (fin:List Bool) (mv:List Mv) (li:List To),x=(i:Int)/\μ=cnt-i/\i<=Q.length /\
   St h h' (mnA h99.size h38.size h25.size h18.size h7.size h.size h71.size m sf sm sl sc q ofn omv oli C Q NUM fin mv li SM (MS.map Prod.fst)++MS.map (nest 110 6 Mv.cs))/\QOk Q cnt/\NumQ NUM Q cnt/\mv.length<=i*400/\li.length<=i*400/\fin.length=i/\minF m=minN m C (202-i) i Q fin mv li,
   ⟨_,0,_,_,_,_,_,_,_,_,rfl,rfl,by omega,hs,hq0,hnq0,by decide,by decide,rfl,hmin⟩,?_⟩
  clear hs hq0 hnq0 hmin;rintro-q _ h108 μ ⟨i,ofn,omv,oli,Q,NUM,fin,mv,li,rfl,rfl,hi,hs,hQ,hNQ,hmvl,hlil,hfinl,hmin⟩;have hQl:=hQ.le;have hqn:=(hs.rows 1 (s:=q) (cs:=inC) rfl (by omega)).ln;rw[show (natI Q).length=Q.length from Yc _] at hqn;refine sBi (fun c4=>?_) (fun c4=>?_)
  .have hiQ:i<Q.length:=by omega
   obtain⟨c,hc⟩:=get_some (l:=Q) (i:=i) hiQ;have hcb:=hQ.lt c (Yb hc);have hcm:=hCsu c hcb;have hsl:idxF C c<m.n.toNat:=by have:=idxF_lt hcm;omega
   generalize hsr:idxF C c=s at *;obtain⟨bf,hbf⟩:=get_some (l:=m.fin) (i:=s) (by omega);obtain⟨ms,hms2⟩:=hMSg s hsl;rw[show 202-i=(202-(i+1))+1 by omega,minN,hc] at hmin;replace hmin:minF m=minN m C (202-(i+1)) (i+1) ((outM m (idxF C c)).foldl (minX m C i (mget (limM m.li) (idxF C c:Nat))) (Q,mv,li)).1 (fin++[m.fin.getD (idxF C c) false])
    ((outM m (idxF C c)).foldl (minX m C i (mget (limM m.li) (idxF C c:Nat))) (Q,mv,li)).2.1 ((outM m (idxF C c)).foldl (minX m C i (mget (limM m.li) (idxF C c:Nat))) (Q,mv,li)).2.2:=hmin
   rw[hsr,getD_some hbf] at hmin;have hout:(outM m s).length<=400:=Yys (List.length_filter_le _ _) hml;have houts:(outM m s).Pairwise mvLt:=hS.filter _;have houtm:∀x∈outM m s,x∈m.mv:=fun x hx=>(List.mem_filter.1 hx).1;generalize outM m s=OM at *;refine (hs.rows 1 (s:=q) (cs:=inC) rfl (by omega)).nbI (by omega) (by omega) fun b109 o110 d109 g109 t109=>?_;rw[Ys] at g109;obtain⟨c',gc',rfl⟩:=natI_get g109;rw[hc] at gc';cases gc';refine⟨_,t109.hd,⟨by omega,by omega⟩,?_⟩;rw[show 0+Int.toNat (c:Int)*1=c by omega];refine⟨_,hs.rd 8 rfl (by rw[Yd,hSM' c hcb,hsr];rfl),ofn,hs.rd 0 rfl rfl,sf,hs.rd 11 rfl rfl,?_⟩;have hofn:=(hs.rows 4 (s:=ofn) (cs:=bC) rfl (by omega)).ln;refine (hM.pf.ext hs.ext).rw.nbI (by omega) (by omega) fun b115 o116 bf' g115 t115=>?_;rw[Ys,hbf] at g115;cases g115;refine⟨_,t115.hd,?_⟩;refine hs.newbE fun h118 E118 hs=>⟨E118.sm,?_⟩;refine hs.appended 5 (rows:=fin.map bC) rfl app30 (m:=1) (news:=[bC bf]) (hs.at 0 rfl (n:=1) rfl) rfl (fun r hr=>by rw[Ye] at hr;rw[hr];rfl) rfl (by omega) (by simp only[maxLen];omega) fun s119 h120 n119 hs=>?_;refine hs.put 1 rfl (o:=3) (vs:=[.slice s119.a s119.n s119.c]) rfl (show 4<=6 by decide) fun h121 hs=>?_;have hs:St h h121 (mnA h99.size h38.size h25.size h18.size h7.size h.size h71.size m sf sm sl sc q s119 omv oli C Q NUM (fin++[bf]) mv li SM (MS.map Prod.fst)++MS.map (nest 110 6 Mv.cs)):=by
    unfold mnA;rw[Ym (l₁:=fin)];exact hs.drop 1
   refine⟨⟨by omega,by omega⟩,?_⟩;rw[show 0+Int.toNat (s:Int)*1=s by omega];refine⟨ms,hs.rd 7 rfl (by rw[Yd,Yd,hms2];rfl),?_⟩;have hk72:(mnA h99.size h38.size h25.size h18.size h7.size h.size h71.size m sf sm sl sc q s119 omv oli C Q NUM (fin++[bf]) mv li SM (MS.map Prod.fst)++MS.map (nest 110 6 Mv.cs))[12+s]?=some (.sl ms 110 6 (OM.map Mv.cs)):=by
    rw[Yyc (by show 12<=12+s;omega)];show (MS.map (nest 110 6 Mv.cs))[12+s-12]?=_;rw[show 12+s-12=s by omega,Yd,hms2];rfl
   refine (sort72 hs (12+s) hk72 (by omega)).mono ?_;rintro _ h124 ⟨rfl,l',hp,hso,hs⟩;have hle:=(mvSorted_same hp houts hso).symm;subst hle;rw[list_set_self hk72] at hs;refine⟨rfl,?_⟩;have hlr:∀q∈limM m.li,inR q.1:=fun q hq=>by
    obtain⟨h1,h2⟩:=limM_mem hq;have:=hO.li _ h1;rw[<-h2];exact inRn (by omega) (by omega)
   refine hs.mlookOk (ck:=iv) (cv:=toV) M140 3 rfl hlr (limM_nd _) (a:=(s:Int)) (inRn (by omega) (by omega)) ?_;generalize htl:mget (limM m.li) (s:Int)=tl at *;have htlm:∀t,tl=some t->t∈m.li:=fun t ht=>by subst ht;exact (limM_mem (mget_mem htl)).1
   have htup:tl.elim (.agg ⟨[.int .i64 0,.int .i64 0,.int .i64 0]⟩) toV=.agg ⟨(tl.getD ⟨0,0,0⟩).cs⟩:=by cases tl<;>rfl
   rw[htup];refine⟨_,_,_,_,rfl,?_⟩;generalize htt:tl.getD ⟨0,0,0⟩=tt at *;refine hs.newput (vs:=tt.cs) rfl rfl fun h132 hs=>?_;refine⟨⟨by omega,by omega⟩,?_⟩;refine⟨ms,hs.rd 8 rfl (by rw[Yd,Yd,hms2];rfl),?_⟩;refine⟨fun q x h' μ=>∃(j:Nat) (omv oli:Sl) (Q2:List Nat) (NUM2:List Int) (mv2:List Mv) (li2:List To),x=(j:Int)/\μ=OM.length-j/\j<=OM.length /\
    St h h' (.blk h124.size tt.cs 230::(mnA h99.size h38.size h25.size h18.size h7.size h.size h71.size m sf sm sl sc q s119 omv oli C Q2 NUM2 (fin++[bf]) mv2 li2 SM (MS.map Prod.fst)++MS.map (nest 110 6 Mv.cs)))/\QOk Q2 cnt/\NumQ NUM2 Q2 cnt/\mv2.length<=mv.length+j/\li2.length<=li.length+j/\Q.length<=Q2.length/\(OM.take j).foldl (minX m C i tl) (Q,mv,li)=(Q2,mv2,li2),
    ⟨_,0,omv,oli,Q,NUM,mv,li,rfl,rfl,by omega,hs,hQ,hNQ,by omega,by omega,by omega,rfl⟩,?_⟩
   clear hs hQ hNQ hqn hofn hQl c4;rintro-q2 _ h139 μ ⟨j,omv2,oli2,Q2,NUM2,mv2,li2,rfl,rfl,hj,hs,hQ,hNQ,hmv2,hli2,hQ2,hfold⟩;have hs':St h h139 ((.blk h124.size tt.cs 230::mnA h99.size h38.size h25.size h18.size h7.size h.size h71.size m sf sm sl sc q2 s119 omv2 oli2 C Q2 NUM2 (fin++[bf]) mv2 li2 SM (MS.map Prod.fst))++MS.map (nest 110 6 Mv.cs)++[]):=by rw[Yw];exact hs
   have hnl:Rw h139 6 ms (OM.map Mv.cs):=hs'.nestLn hms2 (by omega);clear hs';have hmsn:=hnl.ln;have hqn2:=(hs.rows 2 (s:=q2) (cs:=inC) rfl (by omega)).ln;rw[show (natI Q2).length=Q2.length from Yc _] at hqn2;have hQ2l:=hQ.le;refine sBi (fun c5=>?_) (fun c5=>?_)
   .refine hnl.nbI (by omega) (by omega) fun b140 o141 x g140 t140=>?_;replace g140:OM[j]?=some x:=g140;have hxm:=houtm x (Yb g140);obtain⟨hx1,hx2,hx3,hx4,_,_⟩:=hO.mv x hxm;have hmpos:0<m.mv.length:=List.length_pos_of_mem hxm;refine⟨_,_,_,_,_,_,t140,?_⟩;refine hs.newput (vs:=x.cs) rfl rfl fun h149 hs=>?_;refine⟨_,hs.rd 0 rfl rfl,?_⟩;refine (hs.rows 11 (s:=sc) (cs:=inC) rfl (by omega)).nbI (by omega) (by omega) fun b151 o152 d151 g151 t151=>?_;obtain⟨cx,gcx,rfl⟩:=natI_get g151;have hcxb:=hCb cx (Yb gcx);have hcxg:C.getD x.t.toNat 0=cx:=getD_some gcx;refine⟨_,t151.hd,?_⟩;refine⟨fun q' h'=>∃NUM3,St h h' (.blk h139.size x.cs 110 :: .blk h124.size tt.cs 230::(mnA h99.size h38.size h25.size h18.size h7.size h.size h71.size m sf sm sl sc q' s119 omv2 oli2 C (addQ Q2 cx) NUM3 (fin++[bf]) mv2 li2 SM (MS.map Prod.fst)++MS.map (nest 110 6 Mv.cs)))/\NumQ NUM3 (addQ Q2 cx) cnt,?_,?_⟩
    .have hnc:=hNQ.2 cx hcxb;refine⟨⟨by omega,by omega⟩,?_⟩;rw[show 0+Int.toNat (cx:Int)*1=cx by omega];refine⟨_,hs.rd 4 rfl (by rw[Yd,hnc];rfl),?_⟩;by_cases hm:cx∈Q2
     .rw[if_pos hm];refine sB_f (decide_eq_false (by omega)) ?_;have ea:addQ Q2 cx=Q2:=by unfold addQ;rw[if_pos hm]
      rw[ea];exact⟨NUM2,hs,hNQ⟩
     .rw[if_neg hm];refine sB_t (decide_eq_true (by decide)) ?_;have ea:addQ Q2 cx=Q2++[cx]:=by unfold addQ;rw[if_neg hm]
      refine⟨⟨by omega,by omega⟩,?_⟩;refine hs.put 4 rfl (o:=cx) (vs:=[iv (q2.n:Nat)]) rfl (by rw[Yc,Yv,hNQ.1];omega) fun h156 hs=>?_;rw[map_splice iv (by rw[hNQ.1];omega),hqn2] at hs;refine hs.app 3 rfl app42 (m:=1) [[.int .i64 cx]] rfl rfl (by simp) rfl (by omega) (by simp only[maxLen];omega) fun s158 h159 n158 hs=>?_;rw[ea];refine⟨_,?_,hNQ.add hcxb hm⟩;unfold mnA;rw[natI_snoc,Ym (l₁:=natI Q2)];exact hs
    .rintro-q3 h161 ⟨NUM3,hs,hNQ3⟩;refine⟨sm,hs.rd 13 rfl rfl,_,hs.rd 1 rfl rfl,?_⟩;have hye:0<=imax tt.e 0/\imax tt.e 0<m.mv.length/\∀t,tl=some t->imax tt.e 0=t.e:=by
      rw[imax_max];cases tl with
      | none=>subst htt;exact⟨by show (0:Int)<=max 0 0;omega,by show max (0:Int) 0<_;omega,fun t ht=>by cases ht⟩
      | some t=>
       subst htt;obtain⟨_,_,h3,h4,_⟩:=hO.li t (htlm t rfl);exact⟨by show (0:Int)<=max t.e 0;omega,by show max t.e 0<_;omega,fun t' ht=>by cases ht;show max t.e 0=t.e;omega⟩
     refine (hM.pm.ext hs.ext).rw.nbI hye.1 (by omega) fun b164 o165 y g164 t164=>?_;have hyt:∀t,tl=some t->m.mv[t.e.toNat]?=some y:=fun t ht=>by rw[<-hye.2.2 t ht];exact g164
     refine⟨_,_,_,_,_,_,t164,?_⟩;refine hs.newput (vs:=y.cs) rfl rfl fun h173 hs=>?_;have homv:=(hs.rows 8 (s:=omv2) (cs:=Mv.cs) rfl (by omega)).ln;have holi:=(hs.rows 9 (s:=oli2) (cs:=To.cs) rfl (by omega)).ln;have hno:(tl=none\/x.ev≠y.ev)->(minX m C i tl (Q2,mv2,li2) x).2.2=li2:=by
      intro h;unfold minX;cases tl with
      | none=>exact Yw _
      | some t=>
       show li2++(match m.mv[t.e.toNat]? with | some y=>if x.ev=y.ev then [⟨(i:Nat),t.k,(mv2.length:Nat)⟩] else [] | none=>[])=li2;rw[hyt t rfl];rcases h with h | h
       .cases h
       .show li2++(if x.ev=y.ev then _ else _)=li2;rw[if_neg h,Yw]
     have hyes:∀t,tl=some t->x.ev=y.ev->(minX m C i tl (Q2,mv2,li2) x).2.2=li2++[⟨(i:Nat),t.k,(mv2.length:Nat)⟩]:=by
      intro t ht h;unfold minX;subst ht;show li2++(match m.mv[t.e.toNat]? with | some y=>if x.ev=y.ev then [⟨(i:Nat),t.k,(mv2.length:Nat)⟩] else [] | none=>[])=_;rw[hyt t rfl];show li2++(if x.ev=y.ev then _ else _)=_;rw[if_pos h]
     have hminl:=minX_len m C i tl (Q2,mv2,li2) x;have hminq:(minX m C i tl (Q2,mv2,li2) x).1=addQ Q2 cx:=by unfold minX;rw[hcxg]
     have hminm:(minX m C i tl (Q2,mv2,li2) x).2.1=mv2++[⟨(i:Nat),x.send,x.peer,x.label,(idxF (addQ Q2 cx) cx:Nat),x.ag⟩]:=by unfold minX;rw[hcxg]
     generalize hLI:(minX m C i tl (Q2,mv2,li2) x).2.2=LI at *;refine⟨fun h'=>∃oli',St h h' (.blk h161.size y.cs 110 :: .blk h139.size x.cs 110 :: .blk h124.size tt.cs 230::(mnA h99.size h38.size h25.size h18.size h7.size h.size h71.size m sf sm sl sc q3 s119 omv2 oli' C (addQ Q2 cx) NUM3 (fin++[bf]) mv2 LI SM (MS.map Prod.fst)++MS.map (nest 110 6 Mv.cs))),?_,?_⟩
     .have hJ:LI=li2->∃oli',St h h173 (.blk h161.size y.cs 110 :: .blk h139.size x.cs 110 :: .blk h124.size tt.cs 230::(mnA h99.size h38.size h25.size h18.size h7.size h.size h71.size m sf sm sl sc q3 s119 omv2 oli' C (addQ Q2 cx) NUM3 (fin++[bf]) mv2 LI SM (MS.map Prod.fst)++MS.map (nest 110 6 Mv.cs))):=fun e=>by rw[e];exact⟨oli2,hs⟩
      refine sB_intro (fun c6=>?_) (fun c6=>?_)
      .obtain⟨t,ht⟩:=Option.isSome_iff_exists.1 c6;have hte:tt=t:=by rw[<-htt,ht];rfl
       refine⟨_,hs.rd 1 rfl rfl,_,hs.rd 0 rfl rfl,?_⟩;refine sB_intro (fun c7=>?_) (fun c7=>hJ (hno (.inr fun e=>by have e1:=congrArg Ev.send e;have e1:x.send=y.send:=e1;rw[e1] at c7;simp at c7)));refine⟨_,hs.rd 1 rfl rfl,_,hs.rd 0 rfl rfl,?_⟩;refine sBe (fun c8=>?_) (fun c8=>hJ (hno (.inr fun e=>c8 (congrArg Ev.peer e))));refine⟨_,hs.rd 1 rfl rfl,_,hs.rd 0 rfl rfl,?_⟩;refine sBe (fun c9=>?_) (fun c9=>hJ (hno (.inr fun e=>c9 (congrArg Ev.label e))));have hev:x.ev=y.ev:=ev_ext (show x.send=y.send by simpa using c7) c8 c9;refine⟨oli2,hs.rd 3 rfl rfl,_,hs.rd 2 rfl rfl,omv2,hs.rd 3 rfl rfl,?_⟩;refine hs.app 9 rfl app25 (m:=1) [To.cs ⟨(i:Nat),tt.k,(omv2.n:Nat)⟩] rfl rfl (fun r hr=>by rw[Ye] at hr;rw[hr];rfl) rfl (by omega) (by simp only[maxLen];omega) fun s185 h186 n185 hs=>?_;refine hs.put 3 rfl (o:=5) (vs:=[.slice s185.a s185.n s185.c]) rfl (show 6<=6 by decide) fun h187 hs=>?_;refine⟨s185,?_⟩;rw[hyes t ht hev];unfold mnA;rw[Ym (l₁:=li2),<-hte,<-homv];exact hs
      .have:tl=none:=by cases tl with
        | none=>rfl
        | some t=>cases c6
       exact hJ (hno (.inl this))
     .rintro-h188 ⟨oli',hs⟩;have hnc:=hNQ3.2 cx hcxb;rw[if_pos addQ_mem] at hnc;refine⟨⟨by omega,by omega⟩,?_⟩;rw[show 0+Int.toNat (cx:Int)*1=cx by omega];refine⟨_,hs.rd 5 rfl (by rw[Yd,hnc];rfl),?_⟩;refine hs.put 1 rfl (o:=0) (vs:=[.int .i64 (i:Nat)]) rfl (show 1<=6 by decide) fun h190 hs2=>?_;refine⟨sm_cons (hs.same hs2 5 5 rfl rfl) sm_nil,?_⟩;refine hs2.put 1 rfl (o:=4) (vs:=[.int .i64 (idxF (addQ Q2 cx) cx:Nat)]) rfl (show 5<=6 by decide) fun h191 hs=>?_;refine⟨omv2,hs.rd 3 rfl rfl,_,_,_,_,_,_,hs.at 1 rfl (n:=6) rfl,?_⟩;refine hs.app 8 rfl app31 (m:=1) [Mv.cs ⟨(i:Nat),x.send,x.peer,x.label,(idxF (addQ Q2 cx) cx:Nat),x.ag⟩] rfl rfl (fun r hr=>by rw[Ye] at hr;rw[hr];rfl) rfl (by omega) (by simp only[maxLen];omega) fun s200 h201 n200 hs=>?_;refine hs.put 3 rfl (o:=4) (vs:=[.slice s200.a s200.n s200.c]) rfl (show 5<=6 by decide) fun h202 hs=>?_;have hlm:(mv2++[(⟨(i:Nat),x.send,x.peer,x.label,(idxF (addQ Q2 cx) cx:Nat),x.ag⟩:Mv)]).length=mv2.length+1:=by simp
      refine⟨_,by omega,j+1,s200,oli',addQ Q2 cx,NUM3,mv2++[⟨(i:Nat),x.send,x.peer,x.label,(idxF (addQ Q2 cx) cx:Nat),x.ag⟩],LI,by rw[w64 (by omega) (by omega)];omega,rfl,by omega,?_,hQ.add hcxb,hNQ3,by omega,by have:=hminl.2;simp only at this;omega,Yys hQ2 addQ_len,?_⟩
      .unfold mnA;rw[Ym (l₁:=mv2)];exact hs.drop 2
      .rw[foldl_snoc g140,hfold];exact Prod.ext hminq (Prod.ext hminm hLI)
   .have hjn:j=OM.length:=by omega
    subst hjn;rw[Yye] at hfold;rw[hfold] at hmin;exact⟨_,by omega,i+1,s119,omv2,oli2,Q2,NUM2,fin++[bf],mv2,li2,by rw[w64 (by omega) (by omega)];omega,rfl,by omega,hs.drop 1,hQ,hNQ,by omega,by omega,by rw[Yh,hfinl];rfl,hmin⟩
  .have hiQ:i=Q.length:=by omega
   rw[show 202-i=(202-(i+1))+1 by omega,minN,Yl (by omega)] at hmin;replace hmin:minF m=⟨m.role,(Q.length:Nat),0,fin,mv,li⟩:=hmin;refine hs.put 0 rfl (o:=1) (vs:=[.int .i64 (q.n:Nat)]) rfl (show 2<=6 by decide) fun h205 hs=>?_;refine⟨_,_,_,ofn,omv,oli,hs.at 0 rfl (n:=6) rfl,?_⟩;refine hs.put 10 rfl (o:=0) (vs:=[.int .i64 m.role,.int .i64 (q.n:Nat),.int .i64 0,.slice ofn.a ofn.n ofn.c,.slice omv.a omv.n omv.c,.slice oli.a oli.n oli.c]) rfl (show 6<=6 by decide) fun h212 hs=>?_;refine⟨_,_,_,ofn,omv,oli,hs.at 10 rfl (n:=6) rfl,?_⟩;refine⟨ofn,omv,oli,?_,?_⟩
   .rw[hmin,hqn];rfl
   .rw[hmin];exact (hs.drop 4).sub (List.sublist_append_left [_,_,_] _)
 .rw[List.map_replicate];apply Yyr;intro s;rw[Yd,List.getElem?_replicate];by_cases hsn:s<m.n.toNat
  .rw[if_pos hsn,Yyb hsn];rfl
  .rw[if_neg hsn,Yl (by rw[Yyd];omega)];rfl
 .rw[List.map_replicate (f:=Prod.fst)];exact hs
end Go.VC
end

section
namespace Go.VC
open Go.LexS
def evOk (g:Gl) (x:Ev):Prop:=0<=x.peer/\x.peer<g.rs.length/\0<=x.label/\x.label<g.ds.length
theorem vis_ok {g:Gl} {role:Int} (hV:ValidS g) {e:Ed} (he:e∈g.es) {x:Ev} (hx:vis1 role e=some x):evOk g x:=by
 have:=hV.num.e e he;unfold EdS at this;unfold vis1 at hx;unfold evOk;split at hx
 .cases hx;simp only;omega
 .split at hx
  .cases hx;simp only;omega
  .cases hx
theorem evs_mem_ok {g:Gl} {role:Int} {p:PSet} (hV:ValidS g) {x:Ev} (hx:x∈evs g.es role p):evOk g x:=by
 unfold evs at hx;rw[sortE_mem] at hx;unfold evL at hx;obtain⟨n,_,h1⟩:=List.mem_flatMap.1 hx;obtain⟨a,ha,rfl⟩:=Yp.1 h1;unfold visL at ha;obtain⟨e,he,h2⟩:=Yym.1 ha;split at h2
 .rw[Yya] at h2;obtain⟨y,hy,rfl⟩:=h2;exact vis_ok hV he hy
 .cases h2
structure VI (g:Gl) (S:List PSet) (M:List Mv) (i:Nat):Prop where
 so:M.Pairwise mvLt
 mv:∀x∈M,0<=x.f/\x.f<i/\0<=x.t/\x.t<S.length/\evOk g x.ev
theorem rowI_le (S:List PSet) (p:PSet):rowI S p<(rowS S p).length:=by
 unfold rowS;split
 .rename_i h;exact rowI_lt.2 h
 .rename_i h;rw[rowI_of_not h,Yh];simp
theorem arcsF_vi {g:Gl} {role:Int} {i:Nat} {p:PSet}:∀(l:List Ev) (S:List PSet) (M:List Mv),l.Pairwise evLt->(∀x∈l,evOk g x)->M.Pairwise mvLt->(∀x∈M,0<=x.f/\(x.f<i\/(x.f=i/\∀y∈l,evLt x.ev y))/\0<=x.t/\x.t<S.length/\evOk g x.ev) ->
  VI g (arcsF g.es role i p l S M).1 (arcsF g.es role i p l S M).2 (i+1)/\S.length<=(arcsF g.es role i p l S M).1.length
 | [],S,M,_,_,hM,hm=>⟨⟨hM,fun x hx=>by obtain⟨h1,h2,h3,h4,h5⟩:=hm x hx;exact⟨h1,by rcases h2 with h2 | h2;omega;(have:=h2.1;omega),h3,h4,h5⟩⟩,Yyt _⟩
 | x::r,S,M,hl,hok,hM,hm=>by
  rw[arcsF];rw[List.pairwise_cons] at hl;have hlen:=rowS_len (S:=S) (p:=clo g.es role (toL g.es role p x));have hri:=rowI_le S (clo g.es role (toL g.es role p x));have ih:=arcsF_vi (g:=g) (role:=role) (i:=i) (p:=p) r (rowS S (clo g.es role (toL g.es role p x))) (M++[⟨i,x.send,x.peer,x.label,rowI S (clo g.es role (toL g.es role p x)),false⟩]) hl.2 (fun y hy=>hok y (Yn _ hy)) ?_ ?_
  .exact⟨ih.1,Yys hlen.2 ih.2⟩
  .rw[List.pairwise_append];refine⟨hM,List.pairwise_singleton _ _,fun a ha b hb=>?_⟩;rw[Ye] at hb;subst hb;obtain⟨_,h2,_⟩:=hm a ha;rcases h2 with h2 | ⟨h2,h3⟩
   .exact .inl h2
   .exact .inr ⟨h2,h3 x (Yx ..)⟩
  .intro y hy;rcases Yk.1 hy with hy | hy
   .obtain⟨h1,h2,h3,h4,h5⟩:=hm y hy;refine⟨h1,?_,h3,by omega,h5⟩;rcases h2 with h2 | ⟨h2,h6⟩
    .exact .inl h2
    .exact .inr ⟨h2,fun z hz=>h6 z (Yn _ hz)⟩
   .rw[Ye] at hy;subst hy;exact⟨by simp only;omega,.inr ⟨rfl,fun z hz=>hl.1 z hz⟩,by simp only;omega,by simp only;omega,hok x (Yx ..)⟩
theorem viewsF_vi {g:Gl} {role:Int} (hV:ValidS g):∀(f i:Nat) (S:List PSet) (M:List Mv) {S':List PSet} {M':List Mv},VI g S M i->i<=S.length->S.length<=200->viewsF g.es role f i S M=some (S',M')->VI g S' M' S'.length/\S'.length<=200/\S.length<=S'.length
 | 0,_,_,_,_,_,_,_,_,h=>by cases h
 | f+1,i,S,M,S',M',hv,hi,hS,h=>by
  rw[viewsF] at h;cases hg:S[i]? with
  | none=>
   rw[hg] at h;cases h;have:i=S.length:=by have:=List.getElem?_eq_none_iff.1 hg;omega
   subst this;exact⟨hv,hS,Yyt _⟩
  | some p=>
   rw[hg] at h;replace h:(if (arcsF g.es role i p (evs g.es role p) S M).1.length>200 then none else viewsF g.es role f (i+1) (arcsF g.es role i p (evs g.es role p) S M).1 (arcsF g.es role i p (evs g.es role p) S M).2)=some (S',M'):=h;have hil:=(Ya.1 hg).1;obtain⟨h1,h2⟩:=arcsF_vi (g:=g) (role:=role) (i:=i) (p:=p) (evs g.es role p) S M (sortE_sorted _) (fun x hx=>evs_mem_ok hV hx) hv.so (fun x hx=>by obtain⟨a,b,c,d,e⟩:=hv.mv x hx;exact⟨a,.inl b,c,d,e⟩);split at h
   .cases h
   .rename_i h3;have:=viewsF_vi hV f (i+1) _ _ h1 (by omega) (by omega) h;exact⟨this.1,this.2.1,Yys h2 this.2.2⟩
theorem views_vi {g:Gl} {role:Int} (hV:ValidS g) {S:List PSet} {M:List Mv} (h:views g role=some (S,M)):VI g S M S.length/\S.length<=200/\1<=S.length:=by
 unfold views at h;exact viewsF_vi hV 202 0 _ [] ⟨List.Pairwise.nil,fun x hx=>by cases hx⟩ (by simp) (by simp) h
theorem own_k {g:Gl} (hT:TimS g) (role:Int):∀t∈ownT g.es g.ts role g.n.toNat,0<=t.k/\t.k<=1000:=by
 have upd:∀(T:List Ti) (n:Nat) (f:Ti->Ti),(∀t∈T,0<=t.k/\t.k<=1000)->(∀t∈T,0<=(f t).k/\(f t).k<=1000)->∀t∈updT T n f,0<=t.k/\t.k<=1000:=by
  intro T n f h1 h2 t ht;unfold updT at ht;split at ht
  .rename_i t0 h0;rcases List.mem_or_eq_of_mem_set ht with h | rfl
   .exact h1 t h
   .exact h2 t0 (Yb h0)
  .exact h1 t ht
 have h0:∀t∈(ownE g.es role g.n.toNat).2,0<=t.k/\t.k<=1000:=by
  unfold ownE
  suffices h:∀(l:List Ed) (s:List Bool × List Ti),(∀t∈s.2,0<=t.k/\t.k<=1000)->∀t∈(l.foldl (own1 role) s).2,0<=t.k/\t.k<=1000 from h _ _ fun t ht=>by rw[List.mem_replicate] at ht;rw[ht.2];exact⟨by decide,by decide⟩
  intro l
  induction l with
  | nil=>intro s h;exact h
  | cons a l ih=>
   intro s h;rw[List.foldl_cons];refine ih _ ?_;unfold own1;split
   .exact upd _ _ _ h fun t ht=>h t ht
   .exact h
 unfold ownT
 suffices h:∀(l:List To) (T:List Ti),(∀x∈l,x∈g.ts)->(∀t∈T,0<=t.k/\t.k<=1000)->∀t∈l.foldl (own2 g.es (ownE g.es role g.n.toNat).1) T,0<=t.k/\t.k<=1000 from h _ _ (fun x hx=>hx) h0
 intro l
 induction l with
 | nil=>intro T _ h;exact h
 | cons a l ih=>
  intro T hsub h;rw[List.foldl_cons];refine ih _ (fun x hx=>hsub x (Yn _ hx)) ?_;unfold own2;split
  .refine upd _ _ _ h fun t ht=>?_;obtain⟨i,hi⟩:=Yf.1 (hsub a (Yx ..));have:=(hT i a hi).k;exact⟨by show 0<=a.k;omega,this.2⟩
  .exact h
theorem viewV_k {F:Nat->List Ev} {en:Nat->Bool} {O:List Bool} {T:List Ti} {l:List Nat} {o:Ti} (hT:∀t∈T,0<=t.k/\t.k<=1000) (h:viewV F en O T l=some o):0<=o.k/\o.k<=1000:=by
 unfold viewV at h;rw[Yya] at h;obtain⟨q,hq,rfl⟩:=h
 suffices hh:∀(m:List Nat) (st:Option (Bool × Ti)),(∀q,st=some q->0<=q.2.k/\q.2.k<=1000)->∀q,m.foldl (stepV F en O T l) st=some q->0<=q.2.k/\q.2.k<=1000 from hh l _ (fun q hq=>by cases hq;exact⟨by decide,by decide⟩) q hq
 intro m
 induction m with
 | nil=>intro st h q hq;exact h q hq
 | cons a m ih=>
  intro st h q hq;rw[List.foldl_cons] at hq;refine ih _ ?_ q hq;intro q' hq';unfold stepV at hq';split at hq'
  .cases hq'
  .split at hq'
   .cases hq'
   .split at hq'
    .rename_i t ht;split at hq'
     .cases hq'
     .cases hq';exact hT _ (Yb (by assumption))
    .cases hq';exact h _ rfl
theorem rawL_ok {g:Gl} {vw:List Nat->Option Ti} (hk:∀l o,vw l=some o->0<=o.k/\o.k<=1000):∀(n:Nat) (S:List PSet) (M:List Mv) (L:List To) {M':List Mv} {L':List To} {tot:Nat},n+S.length=tot->M.Pairwise mvLt->(∀x∈M,0<=x.f/\x.f<tot/\0<=x.t/\x.t<tot/\evOk g x.ev)->L.length<=n*M.length ->
  (∀t∈L,0<=t.s/\t.s<tot/\0<=t.e/\t.e<M.length/\0<=t.k/\t.k<=1000)->rawL vw n S M L=some (M',L') ->
  M'.Pairwise mvLt/\(∀x∈M',0<=x.f/\x.f<tot/\0<=x.t/\x.t<tot/\evOk g x.ev)/\M'.length=M.length/\L'.length<=tot*M.length/\∀t∈L',0<=t.s/\t.s<tot/\0<=t.e/\t.e<M.length/\0<=t.k/\t.k<=1000
 | n,[],M,L,M',L',tot,ht,hM,hm,hL,hl,h=>by
  cases h;have:n=tot:=by simpa using ht
  subst this;exact⟨hM,hm,rfl,hL,hl⟩
 | n,p::S,M,L,M',L',tot,ht,hM,hm,hL,hl,h=>by
  rw[rawL] at h;cases hv:vw (elems p) with
  | none=>rw[hv] at h;cases h
  | some o=>
   rw[hv] at h;replace h:rawL vw (n+1) S (M.map (updR n o)) (L++limR n o M)=some (M',L'):=h;rw[Yyj] at ht;have hko:=hk _ _ hv;have hup:∀x,(updR n o x).f=x.f/\(updR n o x).ev=x.ev/\(updR n o x).t=x.t:=fun x=>by
    obtain⟨h1,h2,h3,h4,h5⟩:=updR_same n o x;exact⟨h1,by unfold Mv.ev;rw[h2,h3,h4],h5⟩
   have hlen:(M.map (updR n o)).length=M.length:=Yc _;have:=rawL_ok (g:=g) hk (n+1) S (M.map (updR n o)) (L++limR n o M) (tot:=tot) (by omega) ?_ ?_ ?_ ?_ h
   .rw[hlen] at this;exact this
   .rw[List.pairwise_map];refine hM.imp fun {a b} hab=>?_;unfold mvLt at hab ⊢;rw[(hup a).1,(hup b).1,(hup a).2.1,(hup b).2.1];exact hab
   .intro x hx;obtain⟨y,hy,rfl⟩:=Yp.1 hx;rw[(hup y).1,(hup y).2.1,(hup y).2.2];exact hm y hy
   .rw[hlen,Yh,Nat.succ_mul];have:=limR_len n o M;omega
   .rw[hlen];intro t htm;rcases Yk.1 htm with htm | htm
    .exact hl t htm
    .unfold limR at htm;obtain⟨q,hq,h2⟩:=Yym.1 htm;have hqi:=List.snd_lt_of_mem_zipIdx hq;unfold limC at h2;split at h2
     .cases h2;simp only;omega
     .cases h2
theorem raw_ok {g:Gl} {role:Int} {m:Mch} (hr:g.rs.length<=1048576) (hd:g.ds.length<=1048576) (h:raw g role=(some m,0)):MOk m/\m.mv.Pairwise mvLt:=by
 unfold raw at h;split at h
 .cases h
 .rename_i hv;obtain⟨hV,hr0,hr1⟩:=Decidable.not_not.1 hv;cases hw:views g role with
  | none=>rw[hw] at h;cases h
  | some q=>
   obtain⟨S,M⟩:=q;rw[hw] at h;replace h:(if M.length>400 then ((none,6):Option Mch × Int) else
    match rawL (vwG g role) 0 S M [] with
    | none=>(none,18)
    | some (M',L)=>(some ⟨role,S.length,0,S.map (fun p=>p g.e.toNat),M',L⟩,0))=(some m,0):=h
   split at h
   .cases h
   .rename_i hM;cases hl:rawL (vwG g role) 0 S M [] with
    | none=>rw[hl] at h;cases h
    | some q=>
     obtain⟨M',L⟩:=q;rw[hl] at h;cases h;obtain⟨h1,h2,h3⟩:=views_vi hV hw;obtain⟨h4,h5,h6,h7,h8⟩:=rawL_ok (g:=g) (fun l o ho=>viewV_k (own_k hV.tim role) ho) 0 S M [] (tot:=S.length) (by omega) h1.so h1.mv (by simp) (fun t ht=>by cases ht) hl;refine⟨⟨by simp only;omega,by simp only;omega,?_,by simp only;omega,?_,fun x hx=>?_,fun t ht=>?_⟩,h4⟩
     .simp
     .have:S.length*M.length<=200*400:=Nat.mul_le_mul h2 (by omega);simp only;omega
     .obtain⟨a,b,c,d,e⟩:=h5 x hx;unfold evOk Mv.ev at e;simp only at *;omega
     .have:=h8 t ht;simp only at *;omega
end Go.VC
end

section
namespace Go.VC
open Go.Proofs Go.LexS
noncomputable def proj (g:Gl) (role:Int):Option Mch × Int:=match raw g role with
 | (some m,_)=>(some (minF m),0)
 | (none,e)=>(none,e)
theorem St.mi {h0 h:Heap} {L:List It} {m:Mch} {sf sm sl:Sl} (hs:St h0 h L) (k:Nat) (h1:L[k]?=some (.sl sf 4 1 (m.fin.map bC))) (h2:L[k+1]?=some (.sl sm 110 6 (m.mv.map Mv.cs))) (h3:L[k+2]?=some (.sl sl 230 3 (m.li.map To.cs)))
  (b1:m.fin.length<=1048576) (b2:m.mv.length<=1048576) (b3:m.li.length<=1048576):MI h m sf sm sl:=by
 have l1:=hs.len k h1 (by omega);have l2:=hs.len (k+1) h2 (by omega);have l3:=hs.len (k+2) h3 (by omega);exact⟨⟨hs.rows k h1 (by omega),l1.2.1,l1.2.2,b1⟩,⟨hs.rows (k+1) h2 (by omega),l2.2.1,l2.2.2,b2⟩,⟨hs.rows (k+2) h3 (by omega),l3.2.1,l3.2.2,b3⟩⟩
theorem project12 (g:Gl) (role:Int) (h:Heap) (hg:GI h g) (hx:Gx h) :
  Fn Pz 87 #[g.v,.int .i64 role] h fun v h'=>Ext h h'/\MaR (proj g role) h h' v:=by
 apply vc87 (bs g.nm) g.hr g.hd g.n g.s g.e g.he g.ht;unfold W87;have hs:=St.refl h;refine hs.newb fun h9 hs=>?_;refine hs.newb fun h10 hs=>?_;refine⟨_,_,_,_,_,_,_,_,hs.at 1 rfl (n:=8) rfl,?_⟩;refine (raw14 g role h10 (hg.ext hs.ext) (hx.ext hs.ext)).mono ?_;rintro _ h27 ⟨E27,hr⟩;cases hr with
 | @err e he h0=>
  replace hs:=hs.step E27;refine⟨0,0,0,⟨none,0,0⟩,⟨none,0,0⟩,⟨none,0,0⟩,e,rfl,?_⟩;refine hs.newput (vs:=m0) rfl rfl fun h29 hs=>?_;refine sBn (fun c1=>?_) (fun c1=>absurd c1 h0);refine hs.put 1 rfl (o:=0) (vs:=m0) rfl (by decide) fun h30 hs=>?_;refine⟨0,0,0,⟨none,0,0⟩,⟨none,0,0⟩,⟨none,0,0⟩,hs.at 1 rfl (n:=6) rfl,hs.ext,?_⟩;exact .err (by unfold proj;rw[he]) h0
 | @ok m sf sm sl he hm=>
  obtain⟨hO,hS⟩:=raw_ok hg.r.sm hg.d.r.sm he;replace hs:=hs.join hm;refine⟨m.role,m.n,m.s,sf,sm,sl,0,rfl,?_⟩;refine hs.newput (vs:=mC m sf sm sl) rfl rfl fun h29 hs=>?_;refine sBn (fun c1=>absurd rfl c1) (fun _=>?_);refine⟨_,_,_,sf,sm,sl,hs.at 0 rfl (n:=6) rfl,?_⟩;have hfl:=hO.fl;have hn:=hO.n;have hml:=hO.ml;have hll:=hO.ll;refine (minimal36 m sf sm sl h29 (hs.mi 3 rfl rfl rfl (by omega) (by omega) (by omega)) hO hS).mono ?_;rintro _ h50 ⟨sf',sm',sl',rfl,hs2⟩;replace hs:=hs.join hs2;refine⟨_,_,_,sf',sm',sl',rfl,?_⟩;refine hs.put 1 rfl (o:=0) (vs:=mC (minF m) sf' sm' sl') rfl (show 6<=6 by decide) fun h51 hs=>?_;refine⟨_,_,_,sf',sm',sl',hs.at 1 rfl (n:=6) rfl,hs.ext,?_⟩;exact .ok (m:=minF m) (by unfold proj;rw[he]) (hs.drop 6)
structure NumM (m:Mch):Prop where
 r:0<=m.role/\m.role<6
 n:1<=m.n/\m.n<=200
 s:0<=m.s/\m.s<m.n
 fl:(m.fin.length:Int)=m.n
 ml:m.mv.length<=400
 mv:∀x∈m.mv,0<=x.f/\x.f<m.n/\0<=x.t/\x.t<m.n/\0<=x.peer/\x.peer<6/\x.peer≠m.role/\0<=x.label/\x.label<40
theorem state151 (m:Mch) (sf sm sl:Sl) (p:Int) (h:Heap):Fn Pz 228 #[.agg ⟨mC m sf sm sl⟩,.int .i64 p] h (RP (0<=p/\p<m.n) h):=by
 apply vc228 m.role m.n m.s sf sm sl;unfold W228;refine (St.refl h).newb fun h7 hs=>?_;refine sBi (fun c=>⟨_,hs.rd 0 rfl rfl,RP.e ?_ hs.ext⟩) (fun c=>RP.f (by omega) hs.ext);rw[decide_eq_true_eq];omega
theorem numbers96 (m:Mch) (sf sm sl:Sl) (h:Heap) (hM:MI h m sf sm sl):Fn Pz 181 #[.agg ⟨mC m sf sm sl⟩] h (RP (NumM m) h):=by
 apply vc181 m.role m.n m.s sf sm sl;unfold W181;have hfn:=hM.pf.ln;have hmn:=hM.pm.ln;have hmm:=hM.pm.sm;refine (St.refl h).newb fun h7 hs=>?_;refine⟨_,hs.rd 0 rfl rfl,sBi (fun c=>RP.f (fun hG=>by have:=hG.r;omega) hs.ext) (fun c1=>?_)⟩;refine⟨_,hs.rd 0 rfl rfl,sBi (fun c=>RP.f (fun hG=>by have:=hG.r;omega) hs.ext) (fun c2=>?_)⟩;refine⟨_,hs.rd 0 rfl rfl,sBi (fun c=>RP.f (fun hG=>by have:=hG.n;omega) hs.ext) (fun c3=>?_)⟩;refine⟨_,hs.rd 0 rfl rfl,sBi (fun c=>RP.f (fun hG=>by have:=hG.n;omega) hs.ext) (fun c4=>?_)⟩;refine⟨_,_,_,sf,sm,sl,hs.at 0 rfl (o:=0) (n:=6) rfl,_,hs.rd 0 rfl rfl,?_⟩;refine (state151 m sf sm sl m.s h7).mono ?_;rintro _ h21 ⟨⟨b1,rfl,hb1⟩,E⟩;have hs:=hs.step E;refine⟨_,rfl,sB_intro (fun c=>RP.f (fun hG=>iff_f hb1 (bF c) hG.s) hs.ext) (fun c5=>?_)⟩;have f5:=hb1.1 (bT c5);refine⟨sf,hs.rd 0 rfl rfl,_,hs.rd 0 rfl rfl,sBn (fun c=>RP.f (fun hG=>by have:=hG.fl;omega) hs.ext) (fun c6=>?_)⟩;refine⟨sm,hs.rd 0 rfl rfl,sBi (fun c=>RP.f (fun hG=>by have:=hG.ml;omega) hs.ext) (fun c7=>?_)⟩;refine⟨sm,hs.rd 0 rfl rfl,?_⟩;refine up_loopS (n:=sm.n) hs (fun i=>∀(j:Nat) (x:Mv),j<i->m.mv[j]?=some x->0<=x.f/\x.f<m.n/\0<=x.t/\x.t<m.n/\0<=x.peer/\x.peer<6/\x.peer≠m.role/\0<=x.label/\x.label<40) (fun j x hj=>by omega) ?_;rintro-i h30 hi ⟨hs,hq⟩;refine sB_intro (fun c=>?_) (fun c=>RP.t ⟨by omega,by omega,f5,by omega,by omega,fun x hx=>?_⟩ hs.ext)
 .replace c:=lt_t c;refine (hM.pm.rw.ext hs.ext).nbI (by omega) (by omega) fun b o x gx t=>?_;replace gx:m.mv[i]?=some x:=gx;have hxm:=Yb gx;refine⟨_,_,_,_,_,_,t,?_⟩;refine hs.newput (vs:=x.cs) rfl rfl fun h40 hs=>?_;refine⟨_,_,_,sf,sm,sl,hs.at 1 rfl (o:=0) (n:=6) rfl,_,hs.rd 0 rfl rfl,?_⟩;refine (state151 m sf sm sl x.f h40).mono ?_;rintro _ h50 ⟨⟨b2,rfl,hb2⟩,E⟩;have hs:=hs.step E;refine⟨_,rfl,sB_intro (fun c=>RP.f (fun hG=>iff_f hb2 (bF c) (by have:=hG.mv x hxm;omega)) hs.ext) (fun d1=>?_)⟩;refine⟨_,_,_,sf,sm,sl,hs.at 1 rfl (o:=0) (n:=6) rfl,_,hs.rd 0 rfl rfl,?_⟩;refine (state151 m sf sm sl x.t h50).mono ?_;rintro _ h60 ⟨⟨b3,rfl,hb3⟩,E⟩;have hs:=hs.step E;refine⟨_,rfl,sB_intro (fun c=>RP.f (fun hG=>iff_f hb3 (bF c) (by have:=hG.mv x hxm;omega)) hs.ext) (fun d2=>?_)⟩;have g1:=hb2.1 (bT d1);have g2:=hb3.1 (bT d2)
  repeat' (first
    | (refine⟨_,hs.rd 0 rfl rfl,?_⟩)
    | (refine⟨_,hs.rd 1 rfl rfl,?_⟩)
    | (refine sBi (fun _=>?_) (fun _=>?_))
    | (refine sBe (fun _=>?_) (fun _=>?_))
    | (refine sBn (fun _=>?_) (fun _=>?_)))
  all_goals first
   | exact RP.f (fun hG=>by have:=hG.mv x hxm;omega) hs.ext
   | (refine Up.next c (by omega) ⟨hs.drop 1,fun j y hj hy=>?_⟩
      by_cases e:j=i
      .subst e;rw[gx] at hy;cases hy;omega
      .exact hq j y (by omega) hy)
 .replace c:=lt_f c;obtain⟨j,hj⟩:=Yf.1 hx;exact hq j x (by have:=(Ya.1 hj).1;omega) hj
def outP (m:Mch) (s:Int) (i:Nat):Bool:=match m.mv[i]? with | some x=>decide (x.f=s) | none=>false
def outIx (m:Mch) (s:Int):List Nat:=(List.range m.mv.length).filter (outP m s)
theorem outIx_mem {m:Mch} {s:Int} {k:Nat}:k∈outIx m s ↔ ∃x,m.mv[k]?=some x/\x.f=s:=by
 unfold outIx;rw[List.mem_filter,List.mem_range];constructor
 .rintro⟨h1,h2⟩;unfold outP at h2;rw[Yi h1] at h2;exact⟨_,Yi h1,Yyn h2⟩
 .rintro⟨x,hx,hf⟩;refine⟨(Ya.1 hx).1,?_⟩;unfold outP;rw[hx];exact decide_eq_true hf
def evI (m:Mch) (i:Nat):Ev:=match m.mv[i]? with | some x=>x.ev | none=>⟨false,0,0⟩
structure SrtM (m:Mch) (s:Nat) (l:List Nat):Prop where
 p:l.Perm (outIx m (s:Int))
 s:l.Pairwise fun a b=>¬evLt (evI m b) (evI m a)
structure TbI (h:Heap) (a:Addr) (m:Mch) (sf sm sl:Sl) (S:Nat->List Nat):Prop where
 ex:∃(ho:Sl) (qs:Nat->Sl),a.spot=none/\atC h a (mC m sf sm sl++[.slice ho.a ho.n ho.c])/\ho.n=m.n.toNat /\
  Rw h 1 ho ((List.range m.n.toNat).map fun i=>slC (qs i))/\∀i,i<m.n.toNat->Rw h 1 (qs i) ((natI (S i)).map inC)
 so:∀i,i<m.n.toNat->SrtM m i (S i)
theorem TbI.ext {h h':Heap} {a:Addr} {m:Mch} {sf sm sl:Sl} {S:Nat->List Nat} (hl:TbI h a m sf sm sl S) (E:Ext h h'):TbI h' a m sf sm sl S:=by
 obtain⟨ho,qs,h0,h1,h2,h3,h4⟩:=hl.ex;exact⟨⟨ho,qs,h0,atC_ext E h1,h2,h3.ext E,fun i hi=>(h4 i hi).ext E⟩,hl.so⟩
def Sort152:Prop:=∀(m:Mch) (sm:Sl) (a:Addr) {h0 h:Heap} {Ls:List It},St h0 h Ls->∀(i:Nat) {s:Sl} {l:List Nat},Ls[i]?=some (.sl s 3 1 ((natI l).map inC))->(∀x∈l,x<m.mv.length)->(l=[]->s.a=none)->m.mv.length<=1048576->l.length<=1048576 ->
 (∀h':Heap,h.size<=h'.size->(∀c,c<h.size->s.a.map (·.block)≠some c->h'[c]?=h[c]?)->hc h' ⟨a.block,a.off+4,none⟩=some (.slice sm.a sm.n sm.c)/\Rw h' 6 sm (m.mv.map Mv.cs)) ->
 Fn Pz 118 #[.slice s.a s.n s.c,.func (.func 229) #[] #[.pointer (some a)]] h fun v h'=>v=.tuple ⟨[]⟩/\∃l':List Nat,l'.Perm l/\l'.Pairwise (fun a b=>¬evLt (evI m b) (evI m a))/\St h0 h' (Ls.set i (.sl s 3 1 ((natI l').map inC)))
end Go.VC
end

section
namespace Go.VC
open Go.Proofs Go.Shelf
theorem swo_on {α β:Type} {cf:β->β->Int} (hO:Go.Sort.SWO (ltOf cf)) (f:α->β):Go.Sort.SWO (ltOf fun i j=>cf (f i) (f j)) where
 irrefl x:=hO.irrefl (f x)
 trans x y z:=hO.trans (f x) (f y) (f z)
 ntrans x y z:=hO.ntrans (f x) (f y) (f z)
theorem fin_list {n:Nat}:∀ {l:List Nat},(∀x∈l,x<n)->∃k:List (Fin n),l=k.map Fin.val
 | [],_=>⟨[],rfl⟩
 | a::l,h=>by
  obtain⟨k,hk⟩:=fin_list (l:=l) fun x hx=>h x (Yn _ hx);exact⟨⟨a,h a Yx⟩::k,by rw[Yyl,<-hk]⟩
def finE {n:Nat} (k:Fin n):Value:=.int .i64 ((k.val:Nat):Int)
theorem natI_fin {n:Nat} (k:List (Fin n)):(natI (k.map Fin.val)).map inC=k.map fun x=>[finE x]:=by
 unfold natI;rw[List.map_map,List.map_map];rfl
theorem sort152:Sort152:=by
 intro m sm a h0 h Ls hs i s l hi hlm hnil hml hll hread;by_cases hl0:l=[]
 .subst hl0;have ha:=hnil rfl;have hget:=hs.get hi;rcases hget.1.2 with ⟨_,hn0,hc0⟩ | ⟨b,cur,ha',_⟩
  .have hset:Ls.set i (.sl s 3 1 ((natI []).map inC))=Ls:=by
    obtain⟨p,q⟩:=Ya.1 hi;rw[<-q];exact List.set_getElem_self p
   intro w hw;subst hw;rw[ha,hn0,hc0];refine (AnyF.slices_SortFunc_none { Tryz.sortL152 with } none ((0:Nat):Nat) (.func (.func 229) #[] #[.pointer (some a)]) w).mono ?_;rintro e' w' ⟨rfl,rfl⟩;exact⟨_,rfl,⟨rfl,[],List.Perm.refl _,List.Pairwise.nil,by rw[hset];exact hs⟩,rfl,rfl,rfl,trivial⟩
  .rw[ha] at ha';cases ha'
 .have hpos:0<m.mv.length:=by
   cases l with
   | nil=>exact absurd rfl hl0
   | cons x r=>have:=hlm x Yx;omega
  haveI:Inhabited (Fin m.mv.length):=⟨⟨0,hpos⟩⟩
  obtain⟨k,rfl⟩:=fin_list hlm;have hi':Ls[i]?=some (.sl s 3 1 (k.map fun x=>[finE x])):=by rw[hi,natI_fin]
  rw[Yc] at hll;refine Fn.mono (sort_own1 Tryz.sortL152 3 (finE (n:=m.mv.length)) (fun _=>rfl) (fun x y:Fin m.mv.length=>cmpE (evI m x.val) (evI m y.val)) (swo_on swoE fun x:Fin m.mv.length=>evI m x.val) 229 #[.pointer (some a)] (enters_of Tryz.func229 (by kernel_rfl) rfl) hs i hi' (by omega) (fun x y h' hsz hoth=>?_)) ?_
  .obtain⟨r1,r2⟩:=hread h' hsz hoth;have g:∀x:Fin m.mv.length,m.mv[x.val]?=some m.mv[x.val]:=fun x=>Yi x.isLt;have ev:∀x:Fin m.mv.length,evI m x.val=m.mv[x.val].ev:=fun x=>by unfold evI;rw[g x]
   rw[ev x,ev y];exact @M.order153 monoDrawn m.mv sm a x.val y.val m.mv[x.val] m.mv[y.val] h' r1 r2 (g x) (g y)
  .rintro v h' ⟨rfl,k',hp,hw,hs'⟩;refine⟨rfl,k'.map Fin.val,hp.map _,?_,by rw[natI_fin];exact hs'⟩;rw[List.pairwise_map];refine hw.imp fun {a b} hab=>?_;unfold ltOf at hab;rw[decide_eq_false_iff_not,cmpE_neg] at hab;exact hab
end Go.VC
end

section
namespace Go.VC
open Go.Proofs Go.LexS
def tbA (m:Mch) (sf sm sl:Sl) (b bg:Nat) (ho:Sl) (qs:List (Sl × List Int)):List It:=
 [.blk b (mC m sf sm sl++[.slice ho.a ho.n ho.c]) 329,.sl ho 25 1 ((qs.map Prod.fst).map slC),.blk bg (mC m sf sm sl) 98]
structure TbL (m:Mch) (i:Nat) (qs:List (Sl × List Int)):Prop where
 l:qs.length=m.n.toNat
 q:∀(n:Nat) q,qs[n]?=some q->q.2=natI ((List.range i).filter (outP m n))
 e:∀(n:Nat) q,qs[n]?=some q->q.2=[]->q.1.a=none
theorem TbL.start (m:Mch):TbL m 0 (List.replicate m.n.toNat (⟨none,0,0⟩,[])):=
 ⟨by rw[Yg],fun n q hq=>by rw[List.eq_of_mem_replicate (Yb hq)];rfl,fun n q hq _=>by rw[List.eq_of_mem_replicate (Yb hq)]⟩
theorem TbL.len {m:Mch} {i n:Nat} {qs:List (Sl × List Int)} (h:TbL m i qs) {q:Sl × List Int} (hq:qs[n]?=some q):q.2.length<=i:=by
 rw[h.q n q hq,show (natI ((List.range i).filter (outP m n))).length=((List.range i).filter (outP m n)).length from Yc _];exact Yys (List.length_filter_le _ _) (by rw[Yyd];exact Yyt _)
theorem TbL.next {m:Mch} {i k:Nat} {qs:List (Sl × List Int)} {x:Mv} {q:Sl × List Int} {r:Sl} (h:TbL m i qs) (hx:m.mv[i]?=some x) (hm:x.f=(k:Int)) (hq:qs[k]?=some q):TbL m (i+1) (qs.set k (r,q.2++[(i:Int)])):=by
 refine⟨by rw[Yyh];exact h.l,fun n q' hq'=>?_,fun n q' hq' he=>by
  by_cases e:n=k
  .subst e;rw[Yq (Ya.1 hq).1] at hq';cases hq';exact absurd he (by simp)
  .rw[Yy (fun h=>e h.symm)] at hq';exact h.e n q' hq' he⟩
 have hp:outP m n i=decide (x.f=(n:Int)):=by unfold outP;rw[hx]
 rw[List.range_succ,List.filter_append];by_cases e:n=k
 .subst e;rw[Yq (Ya.1 hq).1] at hq';cases hq';rw[List.filter_cons_of_pos (by rw[hp];exact decide_eq_true hm),List.filter_nil,natI_snoc];show q.2++[(i:Int)]=_;rw[h.q n q hq]
 .rw[Yy (fun h=>e h.symm)] at hq';rw[List.filter_cons_of_neg (by rw[hp,decide_eq_false (by omega)];simp),List.filter_nil,Yw];exact h.q n q' hq'
structure TbS (m:Mch) (i:Nat) (qs:List (Sl × List Int)):Prop where
 l:qs.length=m.n.toNat
 q:∀(n:Nat) q,qs[n]?=some q->∃l:List Nat,q.2=natI l/\l.Perm (outIx m (n:Int))/\(n<i->l.Pairwise fun a b=>¬evLt (evI m b) (evI m a))
 e:∀(n:Nat) q,qs[n]?=some q->q.2=[]->q.1.a=none
theorem natI_back (l:List Nat):(natI l).map Int.toNat=l:=by
 unfold natI;rw[List.map_map];have:(Int.toNat∘fun c:Nat=>(c:Int))=id:=rfl;rw[this,List.map_id]
theorem sorted97 (m:Mch) (sf sm sl:Sl) (h:Heap) (hM:MI h m sf sm sl) (hN:NumM m) :
  Fn Pz 182 #[.agg ⟨mC m sf sm sl⟩] h fun v h'=>Ext h h'/\∃(b:Nat) (S:Nat->List Nat),v=.pointer (some ⟨b,0,none⟩)/\TbI h' ⟨b,0,none⟩ m sf sm sl S:=by
 apply vc182 m.role m.n m.s sf sm sl;unfold W182;have hmn:=hM.pm.ln;have hmm:=hM.pm.sm;have hn:=hN.n;have hml:=hN.ml;have hmx:m.n.toNat<=maxLen:=by simp only[maxLen];omega
 refine (St.refl h).newb fun h7 hs=>?_;have hs7:h.size<h7.size:=hc_blk (hs.rd 0 rfl (i:=0) rfl);refine⟨_,_,_,sf,sm,sl,hs.at 0 rfl (o:=0) (n:=6) rfl,_,hs.rd 0 rfl rfl,⟨by omega,by omega,by omega⟩,?_⟩;rw[made42];have hrep:((List.replicate m.n.toNat ((⟨none,0,0⟩,[]):Sl × List Int)).map Prod.fst)=List.replicate m.n.toNat (⟨none,0,0⟩:Sl):=List.map_replicate;refine hs.newbE fun h15 E15 hs=>⟨E15.sm,?_⟩;have hs:=hs.blkS m.n.toNat 1 _ rfl (slrows _) (by rw[Yc,Yg]) hmx;refine hs.newb fun h16 hs=>?_;obtain⟨ho,hho,hhn⟩:∃ho:Sl,ho=⟨some ⟨h7.size,0,none⟩,m.n.toNat,m.n.toNat⟩/\ho.n=m.n.toNat:=⟨_,rfl,rfl⟩;have hs:St h h16 (tbA m sf sm sl h15.size h.size ho (List.replicate m.n.toNat (⟨none,0,0⟩,[]))++(List.replicate m.n.toNat ((⟨none,0,0⟩,[]):Sl × List Int)).map (nest 3 1 inC)++[]):=by
  have h1:St h h16 (tbA m sf sm sl h15.size h.size ho (List.replicate m.n.toNat (⟨none,0,0⟩,[]))++[]):=by
   unfold tbA;rw[hrep,hho];exact hs
  exact h1.nests (α:=Int) (e:=3) (k:=1) (cs:=inC) m.n.toNat
 refine⟨sm,hs.rd 2 rfl rfl,?_⟩;refine up_loop (n:=sm.n) (fun i h'=>∃qs,TbL m i qs/\St h h' (tbA m sf sm sl h15.size h.size ho qs++qs.map (nest 3 1 inC)++[])) ⟨_,TbL.start m,hs⟩ ?_;clear hs;rintro-i h22 hi ⟨qs,hL,hs⟩;refine sB_intro (fun c=>?_) (fun c=>?_)
 .replace c:=lt_t c;refine (hM.pm.ext hs.ext).rw.nbI (by omega) (by omega) fun b23 o24 x gx t=>?_;replace gx:m.mv[i]?=some x:=gx;have hx:=hN.mv x (Yb gx);obtain⟨k,hk⟩:∃k:Nat,x.f=k:=⟨x.f.toNat,by omega⟩;obtain⟨q,hq⟩:=get_some (l:=qs) (i:=k) (by rw[hL.l];omega);have hql:=hL.len hq;have hqn:q.1.n=q.2.length:=by
   have:=hs.len (3+k) (s:=q.1) (e:=3) (n:=1) (rows:=q.2.map inC) (by
    have:=get_mid (P:=tbA m sf sm sl h15.size h.size ho qs) (Q:=qs.map (nest 3 1 inC)) (R:=[]) (i:=k) (by rw[Yc];exact (Ya.1 hq).1);rw[show (tbA m sf sm sl h15.size h.size ho qs).length=3 from rfl] at this;rw[this,Yd,hq];rfl) (by omega)
   rw[this.1,Yc]
  refine⟨_,_,_,_,_,_,t,?_⟩;refine hs.newput (vs:=x.cs) rfl rfl fun h32 hs=>?_;refine⟨ho,hs.rd 1 rfl rfl,_,hs.rd 0 rfl rfl,ho,hs.rd 1 rfl rfl,_,hs.rd 0 rfl rfl,?_⟩;refine (hs.rows 2 rfl (by omega)).nbI (cs:=slC) (L:=qs.map Prod.fst) (by omega) (by omega) fun b37 o38 d gd t37=>?_;have ed:d=q.1:=by
   rw[hk,show ((k:Int)).toNat=k from rfl,Yd,hq] at gd;exact (Yyp gd).symm
  subst ed;refine⟨_,t37.hd,?_⟩;refine hs.newbE fun h40 E40 hs=>⟨E40.sm,?_⟩;have hs':St h h40 ((.blk h32.size (inC (i:Int)) 3 :: .blk h22.size x.cs 110::tbA m sf sm sl h15.size h.size ho qs)++qs.map (nest 3 1 inC)++[]):=hs;refine hs'.nestAt hq app42 (i:Int) (hs'.at 0 rfl (n:=1) rfl) rfl rfl (by omega) (by simp only[maxLen];omega) fun r h42 hr hs3=>⟨sm_cons (hs'.same hs3 1 1 rfl rfl) (sm_cons (hs'.same hs3 2 2 rfl rfl) sm_nil),?_⟩;refine hs3.set 3 (cs:=slC) (l:=qs.map Prod.fst) rfl (by omega) (by omega) (by omega) r rfl rfl (fun b o h45 hs4=>?_) rfl;refine Up.next c (by omega) ⟨qs.set k (r,q.2++[(i:Int)]),hL.next gx hk hq,?_⟩;unfold tbA;rw[fst_set];rw[hk] at hs4;exact hs4.drop 2
 .replace c:=lt_f c;have him:i=m.mv.length:=by omega
  subst him;refine⟨ho,hs.rd 0 rfl rfl,?_⟩;have hS0:TbS m 0 qs:=⟨hL.l,fun n q hq=>⟨_,hL.q n q hq,List.Perm.refl _,fun hn=>by omega⟩,hL.e⟩;refine up_loop (n:=ho.n) (fun i h'=>∃qs,TbS m i qs/\St h h' (tbA m sf sm sl h15.size h.size ho qs++qs.map (nest 3 1 inC)++[])) ⟨qs,hS0,hs⟩ ?_;clear hs hS0 hL;rintro-i h52 hi ⟨qs,hS,hs⟩;have hl:=hS.l;refine sB_intro (fun c=>?_) (fun c=>?_)
  .replace c:=lt_t c;refine (hs.rows 1 rfl (by omega)).nbI (cs:=slC) (L:=qs.map Prod.fst) (by omega) (by omega) fun b53 o54 d gd t53=>?_;obtain⟨q,hq⟩:=get_some (l:=qs) (i:=i) (by omega);have ed:d=q.1:=by
    rw[show ((i:Int)).toNat=i from rfl,Yd,hq] at gd;exact (Yyp gd).symm
   subst ed;refine⟨_,t53.hd,?_⟩;obtain⟨l,hql,hlp,_⟩:=hS.q i q hq;have hilt:=(Ya.1 hq).1;have hidx:(tbA m sf sm sl h15.size h.size ho qs++qs.map (nest 3 1 inC)++[])[3+i]?=some (.sl q.1 3 1 ((natI l).map inC)):=by
    have:=get_mid (P:=tbA m sf sm sl h15.size h.size ho qs) (Q:=qs.map (nest 3 1 inC)) (R:=[]) (i:=i) (by rw[Yc];exact hilt);rw[show (tbA m sf sm sl h15.size h.size ho qs).length=3 from rfl] at this;rw[this,Yd,hq,<-hql];rfl
   have hlm:∀y∈l,y<m.mv.length:=fun y hy=>by
    obtain⟨x,hx,_⟩:=outIx_mem.1 (hlp.mem_iff.1 hy);exact (Ya.1 hx).1
   have hll:l.length<=1048576:=by
    rw[hlp.length_eq];unfold outIx;exact Yys (List.length_filter_le _ _) (by rw[Yyd];omega)
   have hbg:(tbA m sf sm sl h15.size h.size ho qs++qs.map (nest 3 1 inC)++[])[2]?=some (.blk h.size (mC m sf sm sl) 98):=rfl;have hap:∀b,q.1.a.map (·.block)=some b->b≠h.size:=fun b hb e=>by
    have h1:=(List.pairwise_iff_getElem.1 hs.ap) 2 (3+i) (Ya.1 hbg).1 (Ya.1 hidx).1 (by omega);rw[(Ya.1 hbg).2,(Ya.1 hidx).2] at h1;exact h1 h.size rfl (by show q.1.a.map (·.block)=_;rw[hb,e])
   have hfr:∀b,q.1.a.map (·.block)=some b->h.size<=b:=fun b hb=>(hs.ok _ (Yb hidx)).2 b hb;refine (sort152 m sm ⟨h.size,0,none⟩ hs (3+i) hidx hlm (fun hl0=>hS.e i q hq (by rw[hql,hl0];rfl)) (by omega) hll fun h' hsz hoth=>?_).mono ?_
   .have E':Ext h h':=⟨Yys hs.ext.1 hsz,fun c hc=>by
     rw[hoth c (by have:=hs.ext.1;omega) fun e=>by have:=hfr c e;omega];exact hs.ext.2 c hc⟩
    refine⟨?_,hM.pm.rw.ext E'⟩;have h1:hc h52 ⟨h.size,0+4,none⟩=some (.slice sm.a sm.n sm.c):=hs.rd 2 rfl rfl;rw[hc_of_block (h:=h52) (by
     show h'[h.size]?=h52[h.size]?;refine hoth h.size (hc_blk h1) fun e=>hap h.size e rfl)]
    exact h1
   .rintro _ h57 ⟨rfl,l',hp',hs'',hst⟩;refine⟨rfl,?_⟩;have hset:(tbA m sf sm sl h15.size h.size ho qs++qs.map (nest 3 1 inC)++[]).set (3+i) (.sl q.1 3 1 ((natI l').map inC))=tbA m sf sm sl h15.size h.size ho (qs.set i (q.1,natI l'))++(qs.set i (q.1,natI l')).map (nest 3 1 inC)++[]:=by
     have h1:=set_mid (P:=tbA m sf sm sl h15.size h.size ho qs) (R:=[]) (Q:=qs.map (nest 3 1 inC)) (i:=i) (by rw[Yc];exact hilt) (.sl q.1 3 1 ((natI l').map inC));rw[show (tbA m sf sm sl h15.size h.size ho qs).length=3 from rfl] at h1;rw[h1,List.map_set];have h2:tbA m sf sm sl h15.size h.size ho (qs.set i (q.1,natI l'))=tbA m sf sm sl h15.size h.size ho qs:=by
      unfold tbA;rw[fst_set,list_set_self (by rw[Yd,hq];rfl)]
     rw[h2];rfl
    rw[hset] at hst;refine Up.next c (by omega) ⟨qs.set i (q.1,natI l'),⟨by rw[Yyh];exact hl,fun n q' hq'=>?_,fun n q' hq' he=>?_⟩,hst⟩;rotate_left
    .by_cases e:n=i
     .subst e;rw[Yq hilt] at hq';cases hq';have hl0:l'=[]:=by
       cases l' with
       | nil=>rfl
       | cons a r=>cases he
      subst hl0;exact hS.e n q hq (by rw[hql,List.nil_perm.1 hp'];rfl)
     .rw[Yy (fun h=>e h.symm)] at hq';exact hS.e n q' hq' he
    by_cases e:n=i
    .subst e;rw[Yq hilt] at hq';cases hq';exact⟨l',rfl,hp'.trans hlp,fun _=>hs''⟩
    .rw[Yy (fun h=>e h.symm)] at hq';obtain⟨l2,k1,k2,k3⟩:=hS.q n q' hq';exact⟨l2,k1,k2,fun hn=>k3 (by omega)⟩
  .replace c:=lt_f c;refine⟨hs.ext,h15.size,fun i=>((qs.getD i default).2).map Int.toNat,rfl,⟨ho,fun i=>(qs.getD i default).1,rfl,hs.at 0 rfl (o:=0) (n:=7) rfl,hhn,?_,fun j hj=>?_⟩,fun j hj=>?_⟩
   .have:=hs.rw 1 rfl (by omega);have key:(qs.map Prod.fst).map slC=(List.range qs.length).map fun i=>slC ((qs.getD i default).1):=by rw[List.map_map,map_range];rfl
    rw[key,hl] at this;exact this
   all_goals
    have hg:qs[j]?=some (qs.getD j default):=by rw[Yo,Yi (by omega)];rfl
    obtain⟨l,k1,k2,k3⟩:=hS.q j _ hg
   .have:=hs.rw (3+j) (rows:=(qs.getD j default).2.map inC) (s:=(qs.getD j default).1) (e:=3) (n:=1) (by
     have:=get_mid (P:=tbA m sf sm sl h15.size h.size ho qs) (Q:=qs.map (nest 3 1 inC)) (R:=[]) (i:=j) (by rw[Yc];omega);rw[show (tbA m sf sm sl h15.size h.size ho qs).length=3 from rfl] at this;rw[this,Yd,hg];rfl) (by omega)
    rw[k1] at this ⊢;rw[natI_back];exact this
   .rw[k1,natI_back];exact⟨k2,k3 (by omega)⟩
def DetM (m:Mch):Prop:=∀(i k:Nat) x y,m.mv[i]?=some x->m.mv[k]?=some y->i≠k->x.f=y.f->x.ev≠y.ev/\x.send=y.send
theorem outIx_nodup (m:Mch) (s:Int):(outIx m s).Nodup:=List.Nodup.sublist List.filter_sublist List.nodup_range
theorem evI_of {m:Mch} {i:Nat} {x:Mv} (h:m.mv[i]?=some x):evI m i=x.ev:=by unfold evI;rw[h]
theorem evLt_of {x y:Ev} (h1:¬evLt y x) (h2:x≠y):evLt x y:=by
 rcases evLt_tri x y with h | h | h
 .exact h
 .exact absurd h h2
 .exact absurd h h1
theorem srt_lt {m:Mch} {s:Nat} {l:List Nat} (hS:SrtM m s l) (hA:∀(j:Nat) a b,l[j]?=some a->l[j+1]?=some b->evI m a≠evI m b):∀(j i:Nat) (a b:Nat),i<j->l[i]?=some a->l[j]?=some b->evLt (evI m a) (evI m b)
 | 0,i,a,b,h,_,_=>by omega
 | j+1,i,a,b,h,ha,hb=>by
  have hl:=(Ya.1 hb).1;obtain⟨c,hc⟩:=get_some (l:=l) (i:=j) (by omega);have h1:evLt (evI m c) (evI m b):=by
   refine evLt_of ?_ (hA j c b hc hb);have:=(List.pairwise_iff_getElem.1 hS.s) j (j+1) (by omega) hl (by omega);rw[(Ya.1 hc).2,(Ya.1 hb).2] at this;exact this
  by_cases e:i=j
  .subst e;rw[ha] at hc;cases hc;exact h1
  .exact evLt_trans (srt_lt hS hA j i a c (by omega) ha hc) h1
theorem srt_send {m:Mch} {l:List Nat} (hA:∀(j:Nat) a b,l[j]?=some a->l[j+1]?=some b->(evI m a).send=(evI m b).send):∀(j:Nat) (a b:Nat),l[0]?=some a->l[j]?=some b->(evI m a).send=(evI m b).send
 | 0,a,b,ha,hb=>by rw[ha] at hb;cases hb;rfl
 | j+1,a,b,ha,hb=>by
  have hl:=(Ya.1 hb).1;obtain⟨c,hc⟩:=get_some (l:=l) (i:=j) (by omega);exact (srt_send hA j a c ha hc).trans (hA j c b hc hb)
theorem det98 (m:Mch) (sf sm sl:Sl) (b:Nat) (S:Nat->List Nat) (h:Heap) (hM:MI h m sf sm sl) (hN:NumM m) (hT:TbI h ⟨b,0,none⟩ m sf sm sl S) :
  Fn Pz 183 #[.pointer (some ⟨b,0,none⟩)] h (RP (DetM m) h):=by
 apply vc183;unfold W183 V183a;obtain⟨ho,qs,_,hat,hhn,hho,hqs⟩:=hT.ex;have hmn:=hM.pm.ln;have hmm:=hM.pm.sm;have hn:=hN.n;have hbb:b<h.size:=hc_blk (hat.nth 0 rfl);refine⟨ho,hat.nth 6 rfl,?_⟩;refine up_loop (n:=ho.n) (fun i h'=>Ext h h'/\∀(v:Nat),v<i->∀(j:Nat) a b,(S v)[j]?=some a->(S v)[j+1]?=some b->evI m a≠evI m b/\(evI m a).send=(evI m b).send) ⟨.rfl',fun v hv=>by omega⟩ ?_;rintro-i h6 hi ⟨E6,hQ⟩;refine sB_intro (fun c=>?_) (fun c=>?_)
 .replace c:=lt_t c;have hil:i<m.n.toNat:=by omega
  refine (hho.ext E6).nbI (by omega) (by omega) fun b7 o8 v gv t7=>?_;have hv:v=i:=by rw[show ((i:Int)).toNat=i from rfl,Yyb hil] at gv;exact (Yyp gv).symm
  subst hv;have hS:=hT.so v hil;have hrow:=hqs v hil;have hrn:=hrow.ln;rw[show (natI (S v)).length=(S v).length from Yc _] at hrn;have hSl:(S v).length<=1048576:=by
   rw[hS.p.length_eq];unfold outIx;exact Yys (List.length_filter_le _ _) (by rw[Yyd];omega)
  refine⟨_,t7.hd,?_⟩;refine⟨fun x h' μ=>∃j:Nat,x=j/\1<=j/\j<=(qs v).n+1/\μ=(qs v).n+1-j/\Ext h h'/\∀(k:Nat) a b,k+1<j->(S v)[k]?=some a->(S v)[k+1]?=some b->evI m a≠evI m b/\(evI m a).send=(evI m b).send,⟨_,1,rfl,Yyt _,by omega,rfl,E6,fun k a b hk=>by omega⟩,?_⟩;rintro-_ h14 μ ⟨j,rfl,hj1,hj,rfl,E14,hq⟩;refine sB_intro (fun c1=>?_) (fun c1=>?_)
  .replace c1:=lt_t c1;have hw:IntKind.wrap .i64 ((j:Int)-1)=((j-1:Nat):Int):=by rw[w64 (by omega) (by omega)];omega
   rw[hw];refine⟨sm,(atC_ext E14 hat).nth 4 rfl,?_⟩;refine (hrow.ext E14).nbI (by omega) (by omega) fun b16 o17 d1 g16 t16=>?_;replace g16:(natI (S v))[j-1]?=some d1:=g16;obtain⟨p1,gi,rfl⟩:=natI_get g16;obtain⟨x,hx,hxf⟩:=outIx_mem.1 (hS.p.mem_iff.1 (Yb gi));have hxl:=(Ya.1 hx).1;refine⟨_,t16.nth 0 rfl,?_⟩;refine (hM.pm.rw.ext E14).nbI (by omega) (by omega) fun b19 o20 x' gx t19=>?_;replace gx:m.mv[p1]?=some x':=gx;rw[hx] at gx;cases gx;refine⟨_,_,_,_,_,_,t19,sm,(atC_ext E14 hat).nth 4 rfl,?_⟩;refine (hrow.ext E14).nbI (by omega) (by omega) fun b28 o29 d2 g28 t28=>?_;replace g28:(natI (S v))[j]?=some d2:=g28;obtain⟨p2,gj,rfl⟩:=natI_get g28;obtain⟨y,hy,hyf⟩:=outIx_mem.1 (hS.p.mem_iff.1 (Yb gj));have hyl:=(Ya.1 hy).1;refine⟨_,t28.nth 0 rfl,?_⟩;refine (hM.pm.rw.ext E14).nbI (by omega) (by omega) fun b31 o32 y' gy t31=>?_;replace gy:m.mv[p2]?=some y':=gy;rw[hy] at gy;cases gy;have hxy:x.f=y.f:=by omega
   have hne:p1≠p2:=fun e=>by
    have nd:=(hS.p.nodup_iff).2 (outIx_nodup m (v:Int));have h1:=(Ya.1 gi);have h2:=(Ya.1 gj);have h3:=(List.pairwise_iff_getElem.1 nd) (j-1) j h1.1 h2.1 (by omega);rw[h1.2,h2.2] at h3;exact h3 e
   have k31:b31<h14.size:=hc_blk t31.hd;have k28:b28<h14.size:=hc_blk t28.hd;have kb:b<h14.size:=by have:=E14.1;omega
   refine⟨_,_,_,_,_,_,t31,?_,?_⟩;refine (St.refl h14).newbE fun h39 E39 hs=>⟨E39.sm,?_⟩;have hs39:h14.size<h39.size:=hc_blk (hs.rd 0 rfl (i:=0) rfl);refine hs.newbE fun h40 E40 hs=>⟨E40.sm,?_⟩;obtain⟨k1,k2⟩:=hs.put (K:=fun h'=>St h14 h' [.blk h39.size [.int .i64 0,.bool false,.int .i64 0,.int .i64 0,.int .i64 0,.bool false] 110,.blk h14.size x.cs 110]) 1 rfl (o:=0) (vs:=x.cs) (n:=6) rfl (show 6<=6 by decide) (fun h' hs=>hs);refine⟨k1,fun h41 e41=>?_⟩;have hs:=k2 h41 e41;have hB:But h14.size h40 h41:=by rw[e41];exact But.hputs (a:=⟨h14.size,0,none⟩) _ _ _
   refine⟨Sm_but hB (fun a ha=>?_),?_⟩
   .simp only[Yr,List.not_mem_nil,or_false] at ha;rcases ha with rfl | rfl | rfl
    .show b31≠h14.size;omega
    .show b28≠h14.size;omega
    .show b≠h14.size;omega
   refine hs.put 0 rfl (o:=0) (vs:=y.cs) rfl (show 6<=6 by decide) fun h42 hs=>?_;replace hs:St h h42 [.blk h39.size y.cs 110,.blk h14.size x.cs 110]:=by
    refine⟨E14.trans hs.ext,fun i hi=>⟨(hs.ok i hi).1,fun b hb=>Yys E14.1 ((hs.ok i hi).2 b hb)⟩,hs.ap⟩
   refine⟨_,_,_,_,_,_,hs.at 1 rfl (o:=0) (n:=6) rfl,_,_,_,_,_,_,hs.at 0 rfl (o:=0) (n:=6) rfl,?_⟩;refine (M.of63 x _).mono ?_;rintro _ h59 ⟨rfl,E1⟩;have hs:=hs.step E1;refine⟨_,_,_,rfl,E1.sm,?_⟩;refine (M.of63 y h59).mono ?_;rintro _ h64 ⟨rfl,E2⟩;have hs:=hs.step E2;refine⟨_,_,_,rfl,E2.sm,?_⟩;refine sB_intro (fun d=>?_) (fun d=>?_)
   .have d':x.ev=y.ev:=Yyn ((evEq x.ev y.ev).symm.trans d);exact RP.f (fun hD=>(hD _ _ x y hx hy hne hxy).1 d') hs.ext
   have d':x.ev≠y.ev:=Yyo ((evEq x.ev y.ev).symm.trans d);refine⟨_,hs.rd 1 rfl rfl,_,hs.rd 0 rfl rfl,sB_intro (fun e=>?_) (fun e=>?_)⟩
   .exact RP.f (fun hD=>by rw[(hD _ _ x y hx hy hne hxy).2] at e;simp at e) hs.ext
   rotate_left;refine (St.refl h14).newbE fun h68 E68 hs=>⟨E68.sm,?_⟩;have hs68:h14.size<h68.size:=hc_blk (hs.rd 0 rfl (i:=0) rfl);refine hs.newbE fun h69 E69 hs=>⟨E69.sm,?_⟩;obtain⟨k1,k2⟩:=hs.put (K:=fun h'=>St h14 h' [.blk h68.size x.cs 110,.blk h14.size [.int .i64 0,.bool false,.int .i64 0,.int .i64 0,.int .i64 0,.bool false] 110]) 0 rfl (o:=0) (vs:=x.cs) (n:=6) rfl (show 6<=6 by decide) (fun h' hs=>hs);refine⟨k1,fun h70 e70=>?_⟩;have hs:=k2 h70 e70;have hB:But h68.size h69 h70:=by rw[e70];exact But.hputs (a:=⟨h68.size,0,none⟩) _ _ _
   refine⟨Sm_but hB (fun a ha=>?_),?_⟩
   .simp only[Yr,List.not_mem_nil,or_false] at ha;rcases ha with rfl | rfl | rfl
    .show b31≠h68.size;omega
    .show b28≠h68.size;omega
    .show b≠h68.size;omega
   refine hs.put 1 rfl (o:=0) (vs:=y.cs) rfl (show 6<=6 by decide) fun h71 hs=>?_;replace hs:St h h71 [.blk h68.size x.cs 110,.blk h14.size y.cs 110]:=by
    refine⟨E14.trans hs.ext,fun i hi=>⟨(hs.ok i hi).1,fun b hb=>Yys E14.1 ((hs.ok i hi).2 b hb)⟩,hs.ap⟩
   refine⟨_,_,_,_,_,_,hs.at 0 rfl (o:=0) (n:=6) rfl,_,_,_,_,_,_,hs.at 1 rfl (o:=0) (n:=6) rfl,?_⟩;refine (M.of63 x _).mono ?_;rintro _ h59 ⟨rfl,E1⟩;have hs:=hs.step E1;refine⟨_,_,_,rfl,E1.sm,?_⟩;refine (M.of63 y h59).mono ?_;rintro _ h64 ⟨rfl,E2⟩;have hs:=hs.step E2;refine⟨_,_,_,rfl,E2.sm,?_⟩;refine sB_intro (fun d=>?_) (fun d=>?_)
   .have d':x.ev=y.ev:=Yyn ((evEq x.ev y.ev).symm.trans d);exact RP.f (fun hD=>(hD _ _ x y hx hy hne hxy).1 d') hs.ext
   have d':x.ev≠y.ev:=Yyo ((evEq x.ev y.ev).symm.trans d);refine⟨_,hs.rd 0 rfl rfl,_,hs.rd 1 rfl rfl,sB_intro (fun e=>?_) (fun e=>?_)⟩
   .exact RP.f (fun hD=>by rw[(hD _ _ x y hx hy hne hxy).2] at e;simp at e) hs.ext
   all_goals
    have e':x.send=y.send:=by simpa using e
    refine⟨_,by omega,j+1,by rw[w64 (by omega) (by omega)];omega,by omega,by omega,rfl,hs.ext,fun k a b hk ha hb=>?_⟩;by_cases ek:k+1=j
    .have ek':k=j-1:=by omega
     subst ek';rw[ha] at gi;cases gi;rw[show j-1+1=j by omega] at hb;rw[hb] at gj;cases gj;rw[evI_of hx,evI_of hy];exact⟨d',e'⟩
    .exact hq k a b (by omega) ha hb
  .replace c1:(qs v).n<=j:=by have:=Yyo c1;omega
   refine Up.next c (by omega) ⟨E14,fun v' hv'=>?_⟩;by_cases e:v'=v
   .subst e;exact fun k a b ha hb=>hq k a b (by have:=(Ya.1 hb).1;omega) ha hb
   .exact hQ v' (by omega)
 .replace c:=lt_f c;refine RP.t (fun i1 k1 x y hx hy hne hf=>?_) E6;have hxr:=hN.mv x (Yb hx);have hv:x.f.toNat<m.n.toNat:=by omega
  have hS:=hT.so x.f.toNat hv;have hA:=hQ x.f.toNat (by omega);have hfi:((x.f.toNat:Nat):Int)=x.f:=by omega
  have m1:i1∈S x.f.toNat:=hS.p.mem_iff.2 (outIx_mem.2 ⟨x,hx,hfi.symm⟩);have m2:k1∈S x.f.toNat:=hS.p.mem_iff.2 (outIx_mem.2 ⟨y,hy,by omega⟩);obtain⟨a,ha⟩:=Yf.1 m1;obtain⟨c,hc⟩:=Yf.1 m2;have hne2:a≠c:=fun e=>by subst e;rw[ha] at hc;cases hc;exact hne rfl
  have hlt:=srt_lt hS (fun j a b h1 h2=>(hA j a b h1 h2).1);rw[<-evI_of hx,<-evI_of hy];constructor
  .rcases Nat.lt_or_gt_of_ne hne2 with h1 | h1
   .have:=hlt c a i1 k1 h1 ha hc;exact fun e=>by rw[e] at this;exact evLt_irr _ this
   .have:=hlt a c k1 i1 h1 hc ha;exact fun e=>by rw[e] at this;exact evLt_irr _ this
  .obtain⟨z,hz⟩:=get_some (l:=S x.f.toNat) (i:=0) (by have:=(Ya.1 ha).1;omega);have hs:=srt_send (m:=m) (l:=S x.f.toNat) (fun j a b h1 h2=>(hA j a b h1 h2).2);have e1:=hs a z i1 hz ha;have e2:=hs c z k1 hz hc;have e3:(evI m i1).send=(evI m k1).send:=e1.symm.trans e2;rw[evI_of hx,evI_of hy] at e3;exact e3
def meds (m:Mch):List Ed:=m.mv.map fun x=>⟨x.f,0,0,0,x.t,false⟩
theorem meds_q {m:Mch} {n:Nat} {b:Int}:b∈quietL (meds m) (-1) n ↔ ∃x∈m.mv,x.f=(n:Int)/\x.t=b:=by
 rw[quietL_mem];constructor
 .rintro⟨e,he,_,hf,ht⟩;obtain⟨x,hx,rfl⟩:=Yp.1 he;exact⟨x,hx,hf,ht⟩
 .rintro⟨x,hx,hf,ht⟩;exact⟨_,Yp.2 ⟨x,hx,rfl⟩,rfl,hf,ht⟩
def RchM (m:Mch):Prop:=∀v:Int,0<=v->v<m.n->Qr (meds m) (-1) [m.s] v
theorem reached99 (m:Mch) (sf sm sl:Sl) (b:Nat) (S:Nat->List Nat) (h:Heap) (hM:MI h m sf sm sl) (hN:NumM m) (hT:TbI h ⟨b,0,none⟩ m sf sm sl S) :
  Fn Pz 184 #[.pointer (some ⟨b,0,none⟩)] h (RP (RchM m) h):=by
 apply vc184;unfold W184;obtain⟨ho,qs,_,hat,hhn,hho,hqs⟩:=hT.ex;have hmn:=hM.pm.ln;have hmm:=hM.pm.sm;have hn:=hN.n;have hsn:=hN.s;refine⟨_,hat.nth 1 rfl,⟨by omega,by omega,by omega⟩,?_⟩;rw[made4];refine (St.refl h).newb fun h2' hs=>?_;refine⟨_,(atC_ext hs.ext hat).nth 2 rfl,⟨by omega,by omega⟩,?_⟩;have e0:0+Int.toNat m.s*1=m.s.toNat:=by omega
 rw[e0];refine hs.put 0 rfl (o:=m.s.toNat) (vs:=[.bool true]) rfl (by rw[Yc,Yg,Yv];omega) fun h4 hs=>?_;rw[map_splice _ (by rw[Yg];omega)] at hs;refine⟨_,(atC_ext hs.ext hat).nth 2 rfl,?_⟩;refine hs.newb fun h6 hs=>?_;have hs:=hs.blkS 1 1 ([m.s].map inC) rfl (inrows _) rfl (by decide);have hC0:CL (meds m) (-1) m.n.toNat [m.s] ((List.replicate m.n.toNat false).set m.s.toNat true) [m.s]:=
  (CL.start (meds m) (-1) m.n.toNat [m.s]).push hsn.1 (by rw[List.getElem?_replicate,if_pos (by omega)]) (.base (Ye.2 rfl))
 refine⟨fun todo x h' μ=>∃(i:Nat) (D:List Bool) (T:List Int),x=i/\μ=m.n.toNat-i/\i<=T.length/\St h h' [.sl todo 3 1 (T.map inC),.blk h.size (D.map Value.bool) 4]/\CL (meds m) (-1) m.n.toNat [m.s] D T/\m.s∈T/\∀v∈T.take i,∀b∈quietL (meds m) (-1) v.toNat,b∈T,⟨_,0,_,_,rfl,rfl,by omega,hs,hC0,Ye.2 rfl,fun v hv=>by rw[Yyk] at hv;cases hv⟩,?_⟩;clear hs hC0;rintro-todo_22 _ h24 μ ⟨i,D,T,rfl,rfl,hi,hs,hC,hlT,hcl⟩;have htl:=(hs.rows 0 rfl (by omega)).ln;have hle:=hC.le;refine sBi (fun c2=>?_) (fun c2=>?_)
 .refine⟨_,(atC_ext hs.ext hat).nth 6 rfl,?_⟩;refine (hs.rows 0 rfl (by omega)).nbI (by omega) (by omega) fun b26 o27 v g26 t26=>?_;replace g26:T[i]?=some v:=g26;have hvm:=(hC.mem v).1 (Yb g26);have hvl:v.toNat<m.n.toNat:=by have:=(Ya.1 hvm.2).1;have:=hC.len;omega
  refine⟨_,t26.hd,?_⟩;refine (hho.ext hs.ext).nbI (by omega) (by omega) fun b29 o30 k g29 t29=>?_;have hk:k=v.toNat:=by rw[Yyb hvl] at g29;exact (Yyp g29).symm
  subst hk;refine⟨_,t29.hd,?_⟩;have hiT:=(Ya.1 g26).1;have hS:=hT.so v.toNat hvl;have hrow:=hqs v.toNat hvl;have hrn:=hrow.ln;rw[show (natI (S v.toNat)).length=(S v.toNat).length from Yc _] at hrn;have hSl:(S v.toNat).length<=1048576:=by
   rw[hS.p.length_eq];unfold outIx;exact Yys (List.length_filter_le _ _) (by rw[Yyd];omega)
  refine⟨fun todo x h' μ=>∃(j:Nat) (D:List Bool) (T':List Int),x=j/\μ=(qs v.toNat).n-j/\j<=(qs v.toNat).n/\St h h' [.sl todo 3 1 (T'.map inC),.blk h.size (D.map Value.bool) 4]/\CL (meds m) (-1) m.n.toNat [m.s] D T'/\(∃R,T'=T++R)/\∀k∈(S v.toNat).take j,∀y,m.mv[k]?=some y->y.t∈T',⟨_,0,D,T,rfl,rfl,by omega,hs,hC,⟨[],by simp⟩,fun v hv=>by rw[Yyk] at hv;cases hv⟩,?_⟩;clear hs hC htl hle;rintro-todo_35 _ h37 μ ⟨j,D,T',rfl,rfl,hj,hs,hC,⟨R,rfl⟩,hcl2⟩;have htl:=(hs.rows 0 rfl (by omega)).ln;have hle:=hC.le;have hDl:=hC.len;refine sBi (fun c3=>?_) (fun c3=>?_)
  .refine (hrow.ext hs.ext).nbI (by omega) (by omega) fun b38 o39 d g38 t38=>?_;replace g38:(natI (S v.toNat))[j]?=some d:=g38;obtain⟨p1,gp,rfl⟩:=natI_get g38;obtain⟨x,hx,hxf⟩:=outIx_mem.1 (hS.p.mem_iff.1 (Yb gp));have hxl:=(Ya.1 hx).1;have hxr:=hN.mv x (Yb hx);refine⟨_,t38.hd,sm,(atC_ext hs.ext hat).nth 4 rfl,?_⟩;refine (hM.pm.rw.ext hs.ext).nbI (by omega) (by omega) fun b30 o31 x' gx t30=>?_;replace gx:m.mv[p1]?=some x':=gx;rw[hx] at gx;cases gx;refine⟨x.t,t30.nth 4 rfl,⟨by omega,by omega⟩,?_⟩;obtain⟨z,hz⟩:=get_some (l:=D) (i:=x.t.toNat) (by omega);have e1:0+Int.toNat x.t*1=x.t.toNat:=by omega
   rw[e1];refine⟨_,hs.rd 1 rfl (by rw[map_get,hz];rfl),?_⟩;refine sB_intro (fun c4=>?_) (fun c4=>?_)
   .have hzf:z=false:=bF c4;subst hzf;refine⟨⟨by omega,by omega⟩,?_⟩;refine hs.put 1 rfl (o:=x.t.toNat) (vs:=[.bool true]) rfl (by rw[Yc,Yv];omega) fun h42 hs=>?_;refine hs.app 0 rfl app42 (m:=1) [[.int .i64 x.t]] rfl rfl (by simp) rfl (by omega) (by simp only[maxLen];omega) fun s44 h45 ns44 hs=>?_;have hqr:Qr (meds m) (-1) [m.s] x.t:=.step (hC.r v (by rw[Yk];exact .inl (Yb g26))) ⟨⟨x.f,0,0,0,x.t,false⟩,Yp.2 ⟨x,Yb hx,rfl⟩,rfl,by show x.f=v;omega,rfl⟩;refine⟨_,by omega,j+1,D.set x.t.toNat true,T++R++[x.t],by rw[w64 (by omega) (by omega)];omega,rfl,by omega,?_,hC.push (by omega) hz hqr,⟨R++[x.t],by rw[Yz]⟩,fun k hk y hy=>?_⟩
    .rw[Ym,<-map_splice _ (by omega)];exact hs
    .rw[take_snoc gp,Yk,Ye] at hk;rw[Yk];rcases hk with hk | rfl
     .exact .inl (hcl2 k hk y hy)
     .rw[hx] at hy;cases hy;exact .inr (Ye.2 rfl)
   .have hzt:z=true:=bT c4;subst hzt;refine⟨_,by omega,j+1,D,T++R,by rw[w64 (by omega) (by omega)];omega,rfl,by omega,hs,hC,⟨R,rfl⟩,fun k hk y hy=>?_⟩;rw[take_snoc gp,Yk,Ye] at hk;rcases hk with hk | rfl
    .exact hcl2 k hk y hy
    .rw[hx] at hy;cases hy;exact (hC.mem _).2 ⟨by omega,hz⟩
  .have hTR:(T++R).length=T.length+R.length:=Yh;refine⟨_,by omega,i+1,D,T++R,by rw[w64 (by omega) (by omega)];omega,rfl,by rw[Yh];omega,hs,hC,List.mem_append_left _ hlT,fun v' hv'=>?_⟩;have ht1:(T++R).take (i+1)=T.take i++[v]:=by rw[Yyq (by omega),take_snoc g26]
   rw[ht1,Yk,Ye] at hv';rcases hv' with hv' | rfl
   .exact fun b hb=>List.mem_append_left _ (hcl v' hv' b hb)
   .intro b hb;obtain⟨x,hx,hxf,rfl⟩:=meds_q.1 hb;obtain⟨k,hk⟩:=Yf.1 hx;refine hcl2 k ?_ x hk;rw[Yj (by omega)];exact hS.p.mem_iff.2 (outIx_mem.2 ⟨x,hk,hxf⟩)
 .refine⟨_,(atC_ext hs.ext hat).nth 1 rfl,RP.e ?_ hs.ext⟩;have hend:=fun v=>hC.end_ (fun x hx=>by rw[Ye.1 hx];exact hlT) (fun v hv b hb=>hcl v (by rw[Yj (by omega)];exact hv) b hb) v;have hcnt:=hC.cnt;have hDl:=hC.len;have hk:(((todo_22.n:Nat):Int)==m.n)=true ↔ T.length=m.n.toNat:=by rw[beq_iff_eq];omega
  rw[hk];constructor
  .intro hTl v h0 h1;have hall:=List.count_eq_length.1 (show D.count true=D.length by omega);obtain⟨z,hz⟩:=get_some (l:=D) (i:=v.toNat) (by omega);have:=hall z (Yb hz);subst this;exact (hend v).1 ((hC.mem v).2 ⟨h0,hz⟩)
  .intro hR;have hall:D.count true=D.length:=List.count_eq_length.2 fun z hz=>by
    obtain⟨j,hj⟩:=Yf.1 hz;have hjl:=(Ya.1 hj).1;have h1:=((hC.mem (j:Int)).1 ((hend (j:Int)).2 (hR j (by omega) (by omega)))).2;rw[show ((j:Int)).toNat=j from rfl,hj] at h1;exact (Yyp h1).symm
   omega
structure AgM (m:Mch):Prop where
 s:∀x∈m.mv,x.ag=true->x.send=true
 o:∀x∈m.mv,x.ag=true->(outIx m x.f).length=1
 i:∀x∈m.mv,x.ag=true->x.f≠m.s
 f:∀x∈m.mv,x.ag=true->m.fin[x.f.toNat]?=some false
 p:∀x∈m.mv,x.ag=true->∀y∈m.mv,y.t=x.f->y.send=true/\y.label=x.label
theorem again100 (m:Mch) (sf sm sl:Sl) (b:Nat) (S:Nat->List Nat) (h:Heap) (hM:MI h m sf sm sl) (hN:NumM m) (hT:TbI h ⟨b,0,none⟩ m sf sm sl S) :
  Fn Pz 185 #[.pointer (some ⟨b,0,none⟩)] h (RP (AgM m) h):=by
 apply vc185;unfold W185;obtain⟨ho,qs,_,hat,hhn,hho,hqs⟩:=hT.ex;have hmn:=hM.pm.ln;have hmm:=hM.pm.sm;have hfn:=hM.pf.ln;have hn:=hN.n;have hfl:=hN.fl;refine⟨sm,hat.nth 4 rfl,?_⟩;refine up_loopS (n:=sm.n) (St.refl h) (fun i=>∀(j:Nat) x,j<i->m.mv[j]?=some x->x.ag=true->x.send=true/\(outIx m x.f).length=1/\x.f≠m.s/\m.fin[x.f.toNat]?=some false/\∀y∈m.mv,y.t=x.f->y.send=true/\y.label=x.label) (fun j x hj=>by omega) ?_;rintro-i h6 hi ⟨hs,hq⟩;refine sB_intro (fun c=>?_) (fun c=>?_)
 .replace c:=lt_t c;refine (hM.pm.rw.ext hs.ext).nbI (by omega) (by omega) fun b7 o8 x gx t=>?_;replace gx:m.mv[i]?=some x:=gx;have hxm:=Yb gx;have hxr:=hN.mv x hxm;refine⟨_,_,_,_,_,_,t,?_⟩;refine hs.newput (vs:=x.cs) rfl rfl fun h16 hs=>?_;refine⟨_,hs.rd 0 rfl rfl,sB_intro (fun c1=>?_) (fun c1=>?_)⟩
  .refine Up.next c (by omega) ⟨hs.drop 1,fun j z hj hz=>?_⟩;by_cases e:j=i
   .subst e;rw[gx] at hz;cases hz;exact fun ha=>by rw[ha] at c1;cases c1
   .exact hq j z (by omega) hz
  have hag:x.ag=true:=bT c1;refine⟨_,hs.rd 0 rfl rfl,sB_intro (fun c2=>RP.f (fun hG=>by rw[hG.s x hxm hag] at c2;cases c2) hs.ext) (fun c2=>?_)⟩;refine⟨ho,(atC_ext hs.ext hat).nth 6 rfl,_,hs.rd 0 rfl rfl,?_⟩;refine (hho.ext hs.ext).nbI (by omega) (by omega) fun b22 o23 v gv t22=>?_;have hvl:x.f.toNat<m.n.toNat:=by omega
  have hv:v=x.f.toNat:=by rw[Yyb hvl] at gv;exact (Yyp gv).symm
  subst hv;have hS:=hT.so x.f.toNat hvl;have hrn:=(hqs x.f.toNat hvl).ln;rw[show (natI (S x.f.toNat)).length=(S x.f.toNat).length from Yc _] at hrn;have hfi:((x.f.toNat:Nat):Int)=x.f:=by omega
  have hlen:(S x.f.toNat).length=(outIx m x.f).length:=by rw[hS.p.length_eq,hfi]
  refine⟨_,t22.hd,sBn (fun c3=>RP.f (fun hG=>by have:=hG.o x hxm hag;omega) hs.ext) (fun c3=>?_)⟩;refine⟨_,hs.rd 0 rfl rfl,_,(atC_ext hs.ext hat).nth 2 rfl,sBe (fun c4=>RP.f (fun hG=>hG.i x hxm hag c4) hs.ext) (fun c4=>?_)⟩;refine⟨sf,(atC_ext hs.ext hat).nth 3 rfl,_,hs.rd 0 rfl rfl,?_⟩;refine (hM.pf.rw.ext hs.ext).nbI (by omega) (by omega) fun b29 o30 f gf t29=>?_;refine⟨_,t29.hd,sB_intro (fun c5=>RP.f (fun hG=>by rw[hG.f x hxm hag] at gf;cases gf;cases c5) hs.ext) (fun c5=>?_)⟩;have hff:m.fin[x.f.toNat]?=some false:=by rw[gf,c5]
  refine⟨sm,(atC_ext hs.ext hat).nth 4 rfl,?_⟩;refine up_loopS (n:=sm.n) hs (fun k=>∀(j:Nat) y,j<k->m.mv[j]?=some y->y.t=x.f->y.send=true/\y.label=x.label) (fun j x hj=>by omega) ?_;clear hs;rintro-k h37 hk ⟨hs,hq2⟩;refine sB_intro (fun c6=>?_) (fun c6=>?_)
  .replace c6:=lt_t c6;refine (hM.pm.rw.ext hs.ext).nbI (by omega) (by omega) fun b38 o39 y gy t38=>?_;replace gy:m.mv[k]?=some y:=gy;have hym:=Yb gy;refine⟨_,_,_,_,_,_,t38,?_⟩;refine hs.newput (vs:=y.cs) rfl rfl fun h47 hs=>?_;refine⟨_,hs.rd 0 rfl rfl,_,hs.rd 1 rfl rfl,sBe (fun d1=>?_) (fun d1=>?_)⟩
   .refine⟨_,hs.rd 0 rfl rfl,sB_intro (fun d2=>RP.f (fun hG=>by rw[(hG.p x hxm hag y hym d1).1] at d2;cases d2) hs.ext) (fun d2=>?_)⟩;refine⟨_,hs.rd 0 rfl rfl,_,hs.rd 1 rfl rfl,sBn (fun d3=>RP.f (fun hG=>d3 (hG.p x hxm hag y hym d1).2) hs.ext) (fun d3=>?_)⟩;refine Up.next c6 (by omega) ⟨hs.drop 1,fun j z hj hz=>?_⟩;by_cases e:j=k
    .subst e;rw[gy] at hz;cases hz;exact fun _=>⟨bT d2,d3⟩
    .exact hq2 j z (by omega) hz
   .refine Up.next c6 (by omega) ⟨hs.drop 1,fun j z hj hz=>?_⟩;by_cases e:j=k
    .subst e;rw[gy] at hz;cases hz;exact fun h=>absurd h d1
    .exact hq2 j z (by omega) hz
  .replace c6:=lt_f c6;refine Up.next c (by omega) ⟨hs.drop 1,fun j z hj hz=>?_⟩;by_cases e:j=i
   .subst e;rw[gx] at hz;cases hz;refine fun _=>⟨bT c2,by omega,c4,hff,fun y hy=>?_⟩;obtain⟨p,hp⟩:=Yf.1 hy;exact hq2 p y (by have:=(Ya.1 hp).1;omega) hp
   .exact hq j z (by omega) hz
 .replace c:=lt_f c;have key:∀x∈m.mv,x.ag=true->x.send=true/\(outIx m x.f).length=1/\x.f≠m.s/\m.fin[x.f.toNat]?=some false/\∀y∈m.mv,y.t=x.f->y.send=true/\y.label=x.label:=fun x hx=>by
   obtain⟨j,hj⟩:=Yf.1 hx;exact hq j x (by have:=(Ya.1 hj).1;omega) hj
  exact RP.t ⟨fun x hx ha=>(key x hx ha).1,fun x hx ha=>(key x hx ha).2.1,fun x hx ha=>(key x hx ha).2.2.1,fun x hx ha=>(key x hx ha).2.2.2.1,fun x hx ha=>(key x hx ha).2.2.2.2⟩ hs.ext
structure TmM (m:Mch) (i:Nat) (t:To):Prop where
 o:∀z,0<i->m.li[i-1]?=some z->z.s<t.s
 k:1<=t.k/\t.k<=1000
 e:0<=t.e/\∃x,m.mv[t.e.toNat]?=some x/\x.f=t.s/\x.send=true/\x.ag=false
def TimM (m:Mch):Prop:=∀i t,m.li[i]?=some t->TmM m i t
theorem timed101 (m:Mch) (sf sm sl:Sl) (b:Nat) (S:Nat->List Nat) (h:Heap) (hM:MI h m sf sm sl) (hN:NumM m) (hT:TbI h ⟨b,0,none⟩ m sf sm sl S) :
  Fn Pz 186 #[.pointer (some ⟨b,0,none⟩)] h (RP (TimM m) h):=by
 apply vc186;unfold W186 V186a;obtain⟨ho,qs,_,hat,hhn,hho,hqs⟩:=hT.ex;have hmn:=hM.pm.ln;have hmm:=hM.pm.sm;have hln:=hM.pl.ln;have hlm:=hM.pl.sm;refine⟨sl,hat.nth 5 rfl,?_⟩;refine up_loopS (n:=sl.n) (St.refl h) (fun i=>∀(j:Nat) x,j<i->m.li[j]?=some x->TmM m j x) (fun j x hj=>by omega) ?_;rintro-i h6 hi ⟨hs,hq⟩;refine sB_intro (fun c=>?_) (fun c=>RP.t (fun j x hx=>hq j x (by have:=lt_f c;have:=(Ya.1 hx).1;omega) hx) hs.ext);replace c:=lt_t c;refine (hM.pl.rw.ext hs.ext).nbI (by omega) (by omega) fun b7 o8 x gx t=>?_;replace gx:m.li[i]?=some x:=gx;have no:∀ {q:Prop},(TmM m i x->q)->TimM m->q:=fun f hT=>f (hT i x gx);refine⟨_,_,_,t,?_⟩;refine hs.newput (vs:=x.cs) rfl rfl fun h13 hs=>?_;refine sBi (fun c1=>?_) (fun c1=>?_);have hw:IntKind.wrap .i64 ((i:Int)-1)=((i-1:Nat):Int):=by rw[w64 (by omega) (by omega)];omega
 rw[hw];refine⟨sl,(atC_ext hs.ext hat).nth 5 rfl,?_⟩;refine (hM.pl.rw.ext hs.ext).nbI (by omega) (by omega) fun b15 o16 z gz t15=>?_;replace gz:m.li[i-1]?=some z:=gz;refine⟨_,t15.nth 0 rfl,_,hs.rd 0 rfl rfl,sBi (fun d0=>RP.f (no fun hT=>by have:=hT.o z (by omega) gz;omega) hs.ext) (fun d0=>?_)⟩;have hord:∀z,0<i->m.li[i-1]?=some z->z.s<x.s:=fun z' _ hz'=>by rw[gz] at hz';cases hz';omega
 rotate_left;have hord:∀z,0<i->m.li[i-1]?=some z->z.s<x.s:=fun z' h0 _=>by omega
 all_goals
  refine⟨_,hs.rd 0 rfl rfl,sBi (fun d1=>RP.f (no fun hT=>by have:=hT.k;omega) hs.ext) (fun d1=>?_)⟩;refine⟨_,hs.rd 0 rfl rfl,sBi (fun d2=>RP.f (no fun hT=>by have:=hT.k;omega) hs.ext) (fun d2=>?_)⟩;refine⟨_,hs.rd 0 rfl rfl,sBi (fun d3=>RP.f (no fun hT=>by have:=hT.e.1;omega) hs.ext) (fun d3=>?_)⟩;refine⟨_,hs.rd 0 rfl rfl,sm,(atC_ext hs.ext hat).nth 4 rfl,sBi (fun d4=>RP.f (no fun hT=>by obtain⟨_,y,hy,_⟩:=hT.e;have:=(Ya.1 hy).1;omega) hs.ext) (fun d4=>?_)⟩;refine⟨sm,(atC_ext hs.ext hat).nth 4 rfl,_,hs.rd 0 rfl rfl,?_⟩;refine (hM.pm.rw.ext hs.ext).nbI (by omega) (by omega) fun b26 o27 y gy t26=>?_;refine⟨_,_,_,_,_,_,t26,?_⟩;intro h34 e34;refine⟨smx (by rw[e34];exact Ext.push _ _),?_⟩;refine hs.newput (zs:=[.int .i64 0,.bool false,.int .i64 0,.int .i64 0,.int .i64 0,.bool false]) (vs:=y.cs) (n:=6) (e:=110) rfl rfl (fun h35 hs=>?_) h34 e34;refine⟨_,hs.rd 0 rfl rfl,_,hs.rd 1 rfl rfl,sBn (fun d5=>RP.f (no fun hT=>by obtain⟨_,z,hz,hf,_⟩:=hT.e;rw[gy] at hz;cases hz;exact d5 hf) hs.ext) (fun d5=>?_)⟩;refine⟨_,hs.rd 0 rfl rfl,sB_intro (fun d6=>RP.f (no fun hT=>by obtain⟨_,z,hz,_,hf,_⟩:=hT.e;rw[gy] at hz;cases hz;rw[hf] at d6;cases d6) hs.ext) (fun d6=>?_)⟩;refine⟨_,hs.rd 0 rfl rfl,sB_intro (fun d7=>RP.f (no fun hT=>by obtain⟨_,z,hz,_,_,hf⟩:=hT.e;rw[gy] at hz;cases hz;rw[hf] at d7;cases d7) hs.ext) (fun d7=>?_)⟩;refine Up.next c (by omega) ⟨hs.drop 2,fun j z hj hz=>?_⟩;by_cases e:j=i
  .subst e;rw[gx] at hz;cases hz;exact⟨hord,by omega,by omega,y,gy,d5,bT d6,d7⟩
  .exact hq j z (by omega) hz
structure VM (m:Mch):Prop where
 n:NumM m
 d:DetM m
 r:RchM m
 a:AgM m
 t:TimM m
theorem open47 (m:Mch) (sf sm sl:Sl) (h:Heap) (hM:MI h m sf sm sl) :
  Fn Pz 150 #[.agg ⟨mC m sf sm sl⟩] h fun v h'=>Ext h h'/\∃(p:Option Addr) (b:Bool),v=.tuple ⟨[.pointer p,.bool b]⟩/\(b=true ↔ VM m)/\(b=true->∃c S,p=some ⟨c,0,none⟩/\TbI h' ⟨c,0,none⟩ m sf sm sl S):=by
 apply vc150 m.role m.n m.s sf sm sl;unfold W150;have no:∀ {q:Prop} {p:Option Addr} {h':Heap},Ext h h'->¬VM m->Ext h h'/\∃(p':Option Addr) (b:Bool),Value.tuple ⟨[.pointer p,.bool false]⟩=.tuple ⟨[.pointer p',.bool b]⟩/\(b=true ↔ VM m)/\(b=true->∃c S,p'=some ⟨c,0,none⟩/\TbI h' ⟨c,0,none⟩ m sf sm sl S):=fun E hn=>⟨E,_,false,rfl,iff_of_false (by decide) hn,fun e=>by cases e⟩;refine (St.refl h).newb fun h7 hs=>?_;refine⟨_,_,_,sf,sm,sl,hs.at 0 rfl (o:=0) (n:=6) rfl,?_⟩;refine (numbers96 m sf sm sl h7 (hM.ext hs.ext)).mono ?_;rintro _ h16 ⟨⟨b1,rfl,hb1⟩,E⟩;have hs:=hs.step E;refine⟨_,rfl,sB_intro (fun c=>no (q:=True) hs.ext fun hG=>iff_f hb1 (bF c) hG.n) (fun c=>?_)⟩;have hN:=hb1.1 (bT c);refine⟨_,_,_,sf,sm,sl,hs.at 0 rfl (o:=0) (n:=6) rfl,?_⟩;refine (sorted97 m sf sm sl h16 (hM.ext hs.ext) hN).mono ?_;rintro _ h25 ⟨E,b,S,rfl,hT⟩;have hs:=hs.step E;refine⟨_,rfl,?_⟩;refine (det98 m sf sm sl b S h25 (hM.ext hs.ext) hN hT).mono ?_;rintro _ h28 ⟨⟨b2,rfl,hb2⟩,E⟩;have hs:=hs.step E;have hT:=hT.ext E;refine⟨_,rfl,sB_intro (fun c2=>?_) (fun c2=>no (q:=True) hs.ext fun hG=>iff_f hb2 c2 hG.d)⟩;refine (reached99 m sf sm sl b S h28 (hM.ext hs.ext) hN hT).mono ?_;rintro _ h31 ⟨⟨b3,rfl,hb3⟩,E⟩;have hs:=hs.step E;have hT:=hT.ext E;refine⟨_,rfl,sB_intro (fun c3=>?_) (fun c3=>no (q:=True) hs.ext fun hG=>iff_f hb3 c3 hG.r)⟩;refine (again100 m sf sm sl b S h31 (hM.ext hs.ext) hN hT).mono ?_;rintro _ h34 ⟨⟨b4,rfl,hb4⟩,E⟩;have hs:=hs.step E;have hT:=hT.ext E;refine⟨_,rfl,sB_intro (fun c4=>?_) (fun c4=>no (q:=True) hs.ext fun hG=>iff_f hb4 c4 hG.a)⟩;refine (timed101 m sf sm sl b S h34 (hM.ext hs.ext) hN hT).mono ?_;rintro _ h37 ⟨⟨b5,rfl,hb5⟩,E⟩;have hs:=hs.step E;have hT:=hT.ext E;exact⟨_,rfl,hs.ext,_,_,rfl,hb5.trans ⟨fun ht=>⟨hN,hb2.1 c2,hb3.1 c3,hb4.1 c4,ht⟩,fun hG=>hG.t⟩,fun _=>⟨b,S,rfl,hT⟩⟩
theorem valid23 (m:Mch) (sf sm sl:Sl) (h:Heap) (hM:MI h m sf sm sl):Fn Pz 91 #[.agg ⟨mC m sf sm sl⟩] h (RP (VM m) h):=by
 apply vc91 m.role m.n m.s sf sm sl;unfold W91;refine (St.refl h).newb fun h7 hs=>?_;refine⟨_,_,_,sf,sm,sl,hs.at 0 rfl (o:=0) (n:=6) rfl,?_⟩;refine (open47 m sf sm sl h7 (hM.ext hs.ext)).mono ?_;rintro _ h17 ⟨E,p,b,rfl,hb,_⟩;exact⟨_,_,rfl,RP.e hb (hs.step E).ext⟩
structure MR where
 m:Mch
 f:Sl
 g:Sl
 l:Sl
def MR.cs (x:MR):List Value:=mC x.m x.f x.g x.l
structure SyI (h:Heap) (s:Sl) (L:List MR):Prop where
 r:RL h 6 s MR.cs L
 i:∀x∈L,MI h x.m x.f x.g x.l
theorem SyI.ext {h h':Heap} {s:Sl} {L:List MR} (hs:SyI h s L) (E:Ext h h'):SyI h' s L:=⟨hs.r.ext E,fun x hx=>(hs.i x hx).ext E⟩
structure SysV (L:List Mch):Prop where
 n:1<=L.length/\L.length<=6
 m:∀(p:Nat) m,L[p]?=some m->m.role=(p:Int)/\VM m/\∀x∈m.mv,x.peer<(L.length:Int)
theorem cal51:callable Pz 93=true:=by kernel_rfl
theorem index85 (L:List Mv) (s:Sl) (a:Addr) (t:Sl) (h:Heap) (hr:Rw h 6 s (L.map Mv.cs)) (hl:L.length<=1048576) (ha:hc h a=some (.slice t.a t.n t.c)) :
  Fn Pz 151 #[.slice s.a s.n s.c,.func (.func 93) #[] #[.pointer (some a)]] h fun v h'=>(∃k:Int,v=.int .i64 k/\(0<=k ↔ ∃x∈L,(t.n:Int)<=x.peer))/\Ext h h':=by
 apply vc151 s 93 (some a);unfold W151;have hn:=hr.ln;refine up_loop (n:=s.n) (fun i h'=>Ext h h'/\∀(j:Nat) (x:Mv),j<i->L[j]?=some x->¬(t.n:Int)<=x.peer) ⟨.rfl',fun j x hj=>by omega⟩ ?_;rintro-i h5 hi ⟨E,hq⟩;refine sB_intro (fun c=>?_) (fun c=>?_)
 .replace c:=lt_t c;refine (hr.ext E).nbI (by omega) (by omega) fun b6 o7 x gx t14=>?_;replace gx:L[i]?=some x:=gx;refine⟨_,_,_,_,_,_,t14,?_⟩;rw[cal51,cond_true];apply vc93 x.f x.send x.peer x.label x.t x.ag a;unfold W93;refine (St.refl h5).newb fun h7 hs=>?_;refine⟨_,hs.rd 0 rfl rfl,t,hc_ext hs.ext (hc_ext E ha),_,rfl,sBi (fun c2=>?_) (fun c2=>?_)⟩
  .exact⟨⟨_,rfl,iff_of_true (by omega) ⟨x,Yb gx,c2⟩⟩,E.trans hs.ext⟩
  .refine Up.next (by omega) (by omega) ⟨E.trans hs.ext,fun j y hj hy=>?_⟩;by_cases e:j=i
   .subst e;rw[gx] at hy;cases hy;exact c2
   .exact hq j y (by omega) hy
 .replace c:=lt_f c;refine⟨⟨_,rfl,iff_of_false (by omega) ?_⟩,E⟩;rintro⟨x,hx,hp⟩;obtain⟨j,hj⟩:=Yf.1 hx;exact hq j x (by have:=(Ya.1 hj).1;omega) hj hp
theorem any50 (L:List Mv) (s:Sl) (a:Addr) (t:Sl) (h:Heap) (hr:Rw h 6 s (L.map Mv.cs)) (hl:L.length<=1048576) (ha:hc h a=some (.slice t.a t.n t.c)) :
  Fn Pz 92 #[.slice s.a s.n s.c,.func (.func 93) #[] #[.pointer (some a)]] h (RP (∃x∈L,(t.n:Int)<=x.peer) h):=by
 apply vc92 s 93 (some a);unfold W92;refine (index85 L s a t h hr hl ha).mono ?_;rintro _ h3 ⟨⟨k,rfl,hk⟩,E⟩;exact⟨_,rfl,RP.e (by rw[decide_eq_true_eq];exact hk) E⟩
theorem valid22 (L:List MR) (s:Sl) (h:Heap) (hS:SyI h s L):Fn Pz 37 #[.slice s.a s.n s.c] h (RP (SysV (L.map MR.m)) h):=by
 apply vc37 s;unfold W37;have hn:=hS.r.ln;have hlm:(L.map MR.m).length=L.length:=Yc _;refine (St.refl h).newb fun h1 hs=>?_;refine⟨s,hs.rd 0 rfl rfl,sBi (fun c=>RP.f (fun hG=>by have:=hG.n;omega) hs.ext) (fun c1=>?_)⟩;refine⟨s,hs.rd 0 rfl rfl,sBi (fun c=>RP.f (fun hG=>by have:=hG.n;omega) hs.ext) (fun c2=>?_)⟩;refine⟨s,hs.rd 0 rfl rfl,?_⟩;refine up_loopS (n:=s.n) hs (fun i=>∀(j:Nat) (x:MR),j<i->L[j]?=some x->x.m.role=(j:Int)/\VM x.m/\∀y∈x.m.mv,y.peer<(L.length:Int)) (fun j x hj=>by omega) ?_;rintro-i h9 hi ⟨hs,hq⟩;refine sB_intro (fun c=>?_) (fun c=>?_)
 .replace c:=lt_t c;refine (hS.r.rw.ext hs.ext).nbI (by omega) (by omega) fun b o x gx t=>?_;replace gx:L[i]?=some x:=gx;have hxi:=hS.i x (Yb gx);have hmx:(L.map MR.m)[i]?=some x.m:=by rw[Yd,gx];rfl
  refine⟨_,_,_,_,_,_,t,?_⟩;refine hs.newput (vs:=mC x.m x.f x.g x.l) rfl rfl fun h19 hs=>?_;refine⟨_,hs.rd 0 rfl (i:=0) rfl,sBn (fun c=>RP.f (fun hG=>c (hG.m i x.m hmx).1) hs.ext) (fun c3=>?_)⟩;refine⟨_,_,_,x.f,x.g,x.l,hs.at 0 rfl (o:=0) (n:=6) rfl,?_⟩;refine (valid23 x.m x.f x.g x.l h19 (hxi.ext hs.ext)).mono ?_;rintro _ h29 ⟨⟨b1,rfl,hb1⟩,E⟩;have hs:=hs.step E;refine⟨_,rfl,sB_intro (fun c=>RP.f (fun hG=>iff_f hb1 (bF c) (hG.m i x.m hmx).2.1) hs.ext) (fun c4=>?_)⟩;refine⟨x.g,hs.rd 0 rfl (i:=4) rfl,?_⟩;refine (any50 x.m.mv x.g ⟨h.size,0,none⟩ s h29 (hxi.ext hs.ext).pm.rw hxi.pm.sm (hs.rd 1 rfl rfl)).mono ?_;rintro _ h33 ⟨⟨b2,rfl,hb2⟩,E⟩;have hs:=hs.step E;refine⟨_,rfl,sB_intro (fun c=>RP.f (fun hG=>?_) hs.ext) (fun c5=>?_)⟩
  .obtain⟨y,hy,hp⟩:=hb2.1 c;have:=(hG.m i x.m hmx).2.2 y hy;omega
  .refine Up.next (by omega) (by omega) ⟨hs.drop 1,fun j y hj hy=>?_⟩;by_cases e:j=i
   .subst e;rw[gx] at hy;cases hy;refine⟨c3,hb1.1 (bT c4),fun z hz=>?_⟩;have:¬(s.n:Int)<=z.peer:=fun hp=>by rw[hb2.2 ⟨z,hz,hp⟩] at c5;cases c5
    omega
   .exact hq j y (by omega) hy
 .replace c:=lt_f c;refine RP.t ⟨by omega,fun p m hm=>?_⟩ hs.ext;rw[Yd] at hm;obtain⟨x,hx,rfl⟩:=Yya.1 hm;rw[hlm];exact hq p x (by have:=(Ya.1 hx).1;omega) hx
structure Bx where
 s:Sl
 l:List Int
def Bx.cs (q:Bx):List Value:=slC q.s
def Bx.it (q:Bx):It:=.sl q.s 3 1 (q.l.map inC)
structure CfI (h:Heap) (ss sb:Sl) (S:List Int) (B:List Bx):Prop where
 s:RL h 1 ss inC S
 b:RL h 1 sb Bx.cs B
 i:∀q∈B,RL h 1 q.s inC q.l
theorem CfI.ext {h h':Heap} {ss sb:Sl} {S:List Int} {B:List Bx} (hs:CfI h ss sb S B) (E:Ext h h'):CfI h' ss sb S B:=⟨hs.s.ext E,hs.b.ext E,fun x hx=>(hs.i x hx).ext E⟩
structure PropS (L:List Mch) (k:Int) (S:List Int) (B:List (List Int)):Prop where
 s:S.length=L.length
 b:B.length=L.length*L.length
 st:∀(p:Nat) s m,S[p]?=some s->L[p]?=some m->0<=s/\s<m.n
 bx:∀(i:Nat) b,B[i]?=some b->(b.length:Int)<=k/\(i/L.length=i%L.length->b=[])/\∀x∈b,0<=x/\x<40
theorem cal91:callable Pz 157=true:=by kernel_rfl
theorem index130 (L:List Int) (s:Sl) (h:Heap) (hr:Rw h 1 s (L.map inC)) (hl:L.length<=1048576) :
  Fn Pz 187 #[.slice s.a s.n s.c,.func (.func 157) #[] #[]] h fun v h'=>(∃k:Int,v=.int .i64 k/\(0<=k ↔ ¬∀x∈L,0<=x/\x<40))/\Ext h h':=by
 apply vc187 s 157;unfold W187;have hn:=hr.ln;refine up_loop (n:=s.n) (fun i h'=>Ext h h'/\∀(j:Nat) (x:Int),j<i->L[j]?=some x->0<=x/\x<40) ⟨.rfl',fun j x hj=>by omega⟩ ?_;rintro-i h5 hi ⟨E,hq⟩;refine sB_intro (fun c=>?_) (fun c=>?_)
 .replace c:=lt_t c;refine (hr.ext E).nbI (by omega) (by omega) fun b6 o7 x gx t14=>?_;replace gx:L[i]?=some x:=gx;refine⟨_,t14.hd,?_⟩;rw[cal91,cond_true];apply vc157 x;unfold W157;have hm:=Yb gx;refine sBi (fun c2=>⟨_,rfl,sB_t rfl ⟨⟨_,rfl,iff_of_true (by omega) fun hall=>by have:=hall x hm;omega⟩,E⟩⟩) (fun c2=>⟨_,rfl,sBi (fun c3=>?_) (fun c3=>?_)⟩)
  .exact⟨⟨_,rfl,iff_of_true (by omega) fun hall=>by have:=hall x hm;omega⟩,E⟩
  .refine Up.next (by omega) (by omega) ⟨E,fun j y hj hy=>?_⟩;by_cases e:j=i
   .subst e;rw[gx] at hy;cases hy;omega
   .exact hq j y (by omega) hy
 .replace c:=lt_f c;refine⟨⟨_,rfl,iff_of_false (by omega) fun hall=>hall fun x hx=>?_⟩,E⟩;obtain⟨j,hj⟩:=Yf.1 hx;exact hq j x (by have:=(Ya.1 hj).1;omega) hj
theorem any90 (L:List Int) (s:Sl) (h:Heap) (hr:Rw h 1 s (L.map inC)) (hl:L.length<=1048576) :
  Fn Pz 156 #[.slice s.a s.n s.c,.func (.func 157) #[] #[]] h (RP (¬∀x∈L,0<=x/\x<40) h):=by
 apply vc156 s 157;unfold W156;refine (index130 L s h hr hl).mono ?_;rintro _ h3 ⟨⟨k,rfl,hk⟩,E⟩;exact⟨_,rfl,RP.e (by rw[decide_eq_true_eq];exact hk) E⟩
theorem capacity53 (k:Int) (h:Heap):Fn Pz 111 #[.int .i64 k] h (RP (1<=k/\k<=4) h):=by
 apply vc111 k;unfold W111;exact sBi (fun c=>RP.e (by rw[decide_eq_true_eq];omega) .rfl') (fun c=>RP.f (by omega) .rfl')
theorem tdiv_nat (a n:Nat):Int.tdiv (a:Int) (n:Int)=((a/n:Nat):Int):=rfl
theorem tmod_nat (a n:Nat):Int.tmod (a:Int) (n:Int)=((a%n:Nat):Int):=rfl
theorem sq6 {n:Nat} (h:n<=6):n*n<=36:=Nat.mul_le_mul h h
theorem proper54 (L:List MR) (s:Sl) (k:Int) (ss sb:Sl) (S:List Int) (B:List Bx) (h:Heap) (hS:SyI h s L) (hV:SysV (L.map MR.m)) (hC:CfI h ss sb S B) :
  Fn Pz 112 #[.slice s.a s.n s.c,.int .i64 k,.agg ⟨[.slice ss.a ss.n ss.c,.slice sb.a sb.n sb.c]⟩] h (RP (PropS (L.map MR.m) k S (B.map Bx.l)) h):=by
 apply vc112 s k ss sb;unfold W112;have hn:=hS.r.ln;have hsn:=hC.s.ln;have hbn:=hC.b.ln;have hlm:(L.map MR.m).length=L.length:=Yc _;have hbm:(B.map Bx.l).length=B.length:=Yc _;have hV6:=hV.n;rw[hlm] at hV6;have h36:=sq6 hV6.2;have hsq:(s.n:Int)*(s.n:Int)=((L.length*L.length:Nat):Int):=by rw[hn];rfl
 refine (St.refl h).newb fun h3 hs=>?_;refine⟨ss,hs.rd 0 rfl rfl,sBn (fun c=>RP.f (fun hG=>by have:=hG.s;rw[hlm] at this;omega) hs.ext) (fun c1=>?_)⟩;refine⟨sb,hs.rd 0 rfl (i:=1) rfl,?_⟩;rw[hsq,w64 (n:=((L.length*L.length:Nat):Int)) (by omega) (by omega)];refine sBn (fun c=>RP.f (fun hG=>by have:=hG.b;rw[hlm,hbm] at this;omega) hs.ext) (fun c2=>?_);refine⟨ss,hs.rd 0 rfl rfl,?_⟩;refine up_loopS (n:=ss.n) hs (fun i=>∀(j:Nat) (x:Int) m,j<i->S[j]?=some x->(L.map MR.m)[j]?=some m->0<=x/\x<m.n) (fun j x m hj=>by omega) ?_;rintro-i h11 hi ⟨hs,hq⟩;refine sB_intro (fun c=>?_) (fun c=>?_)
 .replace c:=lt_t c;refine (hC.s.rw.ext hs.ext).nbI (by omega) (by omega) fun b o x gx t=>?_;replace gx:S[i]?=some x:=gx;obtain⟨y,gy⟩:=get_some (l:=L) (i:=i) (by omega);have gm:(L.map MR.m)[i]?=some y.m:=by rw[Yd,gy];rfl
  refine⟨_,t.hd,sBi (fun c3=>RP.f (fun hG=>by have:=hG.st i x y.m gx gm;omega) hs.ext) (fun c3=>?_)⟩;refine (hS.r.rw.ext hs.ext).nbI (by omega) (by omega) fun b2 o2 y' gy' t2=>?_;replace gy':L[i]?=some y':=gy';rw[gy] at gy';cases gy';refine⟨_,t2.nth 1 rfl,sBi (fun c4=>RP.f (fun hG=>by have:=hG.st i x y.m gx gm;omega) hs.ext) (fun c4=>?_)⟩;refine Up.next (by omega) (by omega) ⟨hs,fun j x' m' hj hx' hm'=>?_⟩;by_cases e:j=i
  .subst e;rw[gx] at hx';rw[gm] at hm';cases hx';cases hm';omega
  .exact hq j x' m' (by omega) hx' hm'
 .replace c:=lt_f c;refine⟨sb,hs.rd 0 rfl (i:=1) rfl,?_⟩;refine up_loopS (n:=sb.n) hs (fun i=>∀(j:Nat) (q:Bx),j<i->B[j]?=some q->(q.l.length:Int)<=k/\(j/L.length=j%L.length->q.l=[])/\∀x∈q.l,0<=x/\x<40) (fun j x hj=>by omega) ?_;rintro-i2 h24 hi2 ⟨hs,hq2⟩;refine sB_intro (fun d=>?_) (fun d=>?_)
  .replace d:=lt_t d;refine (hC.b.rw.ext hs.ext).nbI (by omega) (by omega) fun b o q gq t=>?_;replace gq:B[i2]?=some q:=gq;have gl:(B.map Bx.l)[i2]?=some q.l:=by rw[Yd,gq];rfl
   have hqi:=hC.i q (Yb gq);have hql:=hqi.ln;refine⟨q.s,t.hd,sBi (fun c5=>RP.f (fun hG=>by have:=(hG.bx i2 q.l gl).1;omega) hs.ext) (fun c5=>⟨by omega,by omega,?_⟩)⟩;have hdl:=Nat.div_le_self i2 L.length;have hd1:(0:Int)<=((i2/L.length:Nat):Int):=Int.natCast_nonneg _;have hd2:((i2/L.length:Nat):Int)<=(i2:Int):=Int.ofNat_le.2 hdl;rw[hn,tdiv_nat,tmod_nat,w64 (n:=((i2/L.length:Nat):Int)) (by omega) (by omega)];have go:∀ {h25:Heap},Ext h24 h25->(i2/L.length=i2%L.length->q.l=[])->St h h25 [.blk h.size [.slice ss.a ss.n ss.c,.slice sb.a sb.n sb.c] 52]->Fn Pz 156 #[.slice q.s.a q.s.n q.s.c,.func (.func 157) #[] #[]] h25 (RP (¬∀x∈q.l,0<=x/\x<40) h25):=fun _ _ hs=>any90 q.l q.s _ (hqi.rw.ext hs.ext) hqi.sm;have fin:∀ {h34:Heap} {b1:Bool},(i2/L.length=i2%L.length->q.l=[])->St h h34 [.blk h.size [.slice ss.a ss.n ss.c,.slice sb.a sb.n sb.c] 52]->(b1=true ↔ ¬∀x∈q.l,0<=x/\x<40)->sB b1 (RP (PropS (L.map MR.m) k S (B.map Bx.l)) h (.bool false) h34) (∃m35,m35<sb.n-i2/\Up sb.n (fun i h'=>St h h' [.blk h.size [.slice ss.a ss.n ss.c,.slice sb.a sb.n sb.c] 52]/\∀(j:Nat) (q:Bx),j<i->B[j]?=some q->(q.l.length:Int)<=k/\(j/L.length=j%L.length->q.l=[])/\∀x∈q.l,0<=x/\x<40) (IntKind.wrap .i64 ((i2:Int)+1)) h34 m35):=fun hd hs hb=>by
    refine sB_intro (fun c6=>RP.f (fun hG=>hb.1 c6 (hG.bx i2 q.l gl).2.2) hs.ext) (fun c6=>?_);refine Up.next (by omega) (by omega) ⟨hs,fun j q' hj hq'=>?_⟩;by_cases e:j=i2
    .subst e;rw[gq] at hq';cases hq';refine⟨by omega,hd,Classical.byContradiction fun hn=>?_⟩;rw[hb.2 hn] at c6;cases c6
    .exact hq2 j q' (by omega) hq'
   refine sBe (fun c7=>?_) (fun c7=>?_)
   .refine sBi (fun c8=>RP.f (fun hG=>?_) hs.ext) (fun c8=>?_)
    .have:=(hG.bx i2 q.l gl).2.1 (by rw[hlm];exact Int.ofNat_inj.1 c7);rw[this] at hql;simp only[List.length_nil] at hql;omega
    .have hd:i2/L.length=i2%L.length->q.l=[]:=fun _=>List.eq_nil_of_length_eq_zero (by omega);refine (go .rfl' hd hs).mono ?_;rintro _ h30 ⟨⟨b1,rfl,hb1⟩,E⟩;exact⟨_,rfl,fin hd (hs.step E) hb1⟩
   .have hd:i2/L.length=i2%L.length->q.l=[]:=fun e=>absurd (by rw[e]) c7;refine (go .rfl' hd hs).mono ?_;rintro _ h30 ⟨⟨b1,rfl,hb1⟩,E⟩;exact⟨_,rfl,fin hd (hs.step E) hb1⟩
  .replace d:=lt_f d;refine RP.t ⟨by omega,by rw[hbm,hlm,<-hbn];exact Int.ofNat_inj.1 c2,fun p x m hx hm=>?_,fun j b hb=>?_⟩ hs.ext
   .exact hq p x m (by have:=(Ya.1 hx).1;omega) hx hm
   .rw[Yd] at hb;obtain⟨q,gq,rfl⟩:=Yya.1 hb;rw[hlm];exact hq2 j q (by have:=(Ya.1 gq).1;omega) gq
structure ProS (L:List Mch) (k:Int) (S:List Int) (B:List (List Int)):Prop where
 v:SysV L
 c:1<=k/\k<=4
 p:PropS L k S B
theorem proper24 (L:List MR) (s:Sl) (k:Int) (ss sb:Sl) (S:List Int) (B:List Bx) (h:Heap) (hS:SyI h s L) (hC:CfI h ss sb S B) :
  Fn Pz 56 #[.slice s.a s.n s.c,.int .i64 k,.agg ⟨[.slice ss.a ss.n ss.c,.slice sb.a sb.n sb.c]⟩] h (RP (ProS (L.map MR.m) k S (B.map Bx.l)) h):=by
 apply vc56 s k ss sb;unfold W56;refine (St.refl h).newb fun h3 hs=>?_;refine (valid22 L s h3 (hS.ext hs.ext)).mono ?_;rintro _ h6 ⟨⟨b1,rfl,hb1⟩,E⟩;have hs:=hs.step E;refine⟨_,rfl,sB_intro (fun c1=>?_) (fun c1=>RP.f (fun hG=>iff_f hb1 c1 hG.v) hs.ext)⟩;refine (capacity53 k h6).mono ?_;rintro _ h9 ⟨⟨b2,rfl,hb2⟩,E⟩;have hs:=hs.step E;refine⟨_,rfl,sB_intro (fun c2=>?_) (fun c2=>RP.f (fun hG=>iff_f hb2 c2 hG.c) hs.ext)⟩;refine⟨ss,sb,hs.at 0 rfl (o:=0) (n:=2) rfl,?_⟩;refine (proper54 L s k ss sb S B h9 (hS.ext hs.ext) (hb1.1 c1) (hC.ext hs.ext)).mono ?_;rintro _ h14 ⟨⟨b3,rfl,hb3⟩,E⟩;have hs:=hs.step E;exact⟨_,rfl,RP.e (hb3.trans ⟨fun hp=>⟨hb1.1 c1,hb2.1 c2,hp⟩,fun hp=>hp.p⟩) hs.ext⟩
theorem numbers58 (m:Mch) (sf sm sl:Sl) (h:Heap) (hM:MI h m sf sm sl):Fn Pz 98 #[.agg ⟨mC m sf sm sl⟩] h (RP (NumM m) h):=by
 apply vc98 m.role m.n m.s sf sm sl;unfold W98;have hfn:=hM.pf.ln;have hmn:=hM.pm.ln;have hmm:=hM.pm.sm;refine (St.refl h).newb fun h7 hs=>?_;refine⟨_,hs.rd 0 rfl rfl,sBi (fun c=>RP.f (fun hG=>by have:=hG.r;omega) hs.ext) (fun c1=>?_)⟩;refine⟨_,hs.rd 0 rfl rfl,sBi (fun c=>RP.f (fun hG=>by have:=hG.r;omega) hs.ext) (fun c2=>?_)⟩;refine⟨_,hs.rd 0 rfl rfl,sBi (fun c=>RP.f (fun hG=>by have:=hG.n;omega) hs.ext) (fun c3=>?_)⟩;refine⟨_,hs.rd 0 rfl rfl,sBi (fun c=>RP.f (fun hG=>by have:=hG.n;omega) hs.ext) (fun c4=>?_)⟩;refine⟨_,hs.rd 0 rfl rfl,sBi (fun c=>RP.f (fun hG=>by have:=hG.s;omega) hs.ext) (fun c5=>?_)⟩;refine⟨_,hs.rd 0 rfl rfl,_,hs.rd 0 rfl rfl,sBi (fun c=>RP.f (fun hG=>by have:=hG.s;omega) hs.ext) (fun c5b=>?_)⟩;refine⟨sf,hs.rd 0 rfl rfl,_,hs.rd 0 rfl rfl,sBn (fun c=>RP.f (fun hG=>by have:=hG.fl;omega) hs.ext) (fun c6=>?_)⟩;refine⟨sm,hs.rd 0 rfl rfl,sBi (fun c=>RP.f (fun hG=>by have:=hG.ml;omega) hs.ext) (fun c7=>?_)⟩;refine up_loopS (n:=sm.n) hs (fun i=>∀(j:Nat) (x:Mv),j<i->m.mv[j]?=some x->0<=x.f/\x.f<m.n/\0<=x.t/\x.t<m.n/\0<=x.peer/\x.peer<6/\x.peer≠m.role/\0<=x.label/\x.label<40) (fun j x hj=>by omega) ?_;rintro-i h30 hi ⟨hs,hq⟩;refine⟨sm,hs.rd 0 rfl rfl,?_⟩;refine sB_intro (fun c=>?_) (fun c=>RP.t ⟨by omega,by omega,by omega,by omega,by omega,fun x hx=>?_⟩ hs.ext)
 .replace c:=lt_t c;refine⟨sm,hs.rd 0 rfl rfl,?_⟩;refine (hM.pm.rw.ext hs.ext).nbI (by omega) (by omega) fun b o x gx t=>?_;replace gx:m.mv[i]?=some x:=gx;have hxm:=Yb gx;refine⟨_,_,_,_,_,_,t,?_⟩;refine hs.newput (vs:=x.cs) rfl rfl fun h40 hs=>?_
  repeat' (first
    | (refine⟨_,hs.rd 0 rfl rfl,?_⟩)
    | (refine⟨_,hs.rd 1 rfl rfl,?_⟩)
    | (refine sBi (fun _=>?_) (fun _=>?_))
    | (refine sBe (fun _=>?_) (fun _=>?_))
    | (refine sBn (fun _=>?_) (fun _=>?_)))
  all_goals first
   | exact RP.f (fun hG=>by have:=hG.mv x hxm;omega) hs.ext
   | (refine Up.next c (by omega) ⟨hs.drop 1,fun j y hj hy=>?_⟩
      by_cases e:j=i
      .subst e;rw[gx] at hy;cases hy;omega
      .exact hq j y (by omega) hy)
 .replace c:=lt_f c;obtain⟨j,hj⟩:=Yf.1 hx;exact hq j x (by have:=(Ya.1 hj).1;omega) hj
def ApA (m:Mch) (x:Mv):Prop:=x.ag=true->x.send=true/\x.f≠m.s/\m.fin[x.f.toNat]?=some false
def ApP (i:Nat) (x:Mv) (k:Nat) (y:Mv):Prop:=(k≠i->x.f=y.f->x.send=y.send/\¬(x.peer=y.peer/\x.label=y.label)/\x.ag=false)/\(x.ag=true->y.t=x.f->y.send=true/\y.label=x.label)
def ApM (m:Mch):Prop:=∀(i:Nat) x,m.mv[i]?=some x->ApA m x/\∀(k:Nat) y,m.mv[k]?=some y->ApP i x k y
theorem apart59 (m:Mch) (sf sm sl:Sl) (h:Heap) (hM:MI h m sf sm sl) (hN:NumM m):Fn Pz 99 #[.agg ⟨mC m sf sm sl⟩] h (RP (ApM m) h):=by
 apply vc99 m.role m.n m.s sf sm sl;unfold W99 V99b V99a;have hfn:=hM.pf.ln;have hmn:=hM.pm.ln;have hmm:=hM.pm.sm;have hfl:=hN.fl;refine (St.refl h).newb fun h7 hs=>?_;refine up_loopS (n:=sm.n) hs (fun i=>∀(j:Nat) x,j<i->m.mv[j]?=some x->ApA m x/\∀(k:Nat) y,m.mv[k]?=some y->ApP j x k y) (fun j x hj=>by omega) ?_;clear hs;rintro-i h6 hi ⟨hs,hq⟩;refine⟨sm,hs.rd 0 rfl rfl,?_⟩;refine sB_intro (fun c=>?_) (fun c=>?_)
 .replace c:=lt_t c;refine⟨sm,hs.rd 0 rfl rfl,?_⟩;refine (hM.pm.rw.ext hs.ext).nbI (by omega) (by omega) fun b7 o8 x gx t=>?_;replace gx:m.mv[i]?=some x:=gx;have hxm:=Yb gx;have hxr:=hN.mv x hxm;refine⟨_,_,_,_,_,_,t,?_⟩;refine hs.newput (vs:=x.cs) rfl rfl fun h16 hs=>?_;refine⟨_,hs.rd 0 rfl rfl,sB_intro (fun c1=>?_) (fun c1=>?_)⟩;refine⟨_,hs.rd 0 rfl rfl,sB_intro (fun c2=>RP.f (fun hG=>by have:=((hG i x gx).1 c1).1;rw[this] at c2;cases c2) hs.ext) (fun c2=>?_)⟩;refine⟨_,hs.rd 0 rfl rfl,_,hs.rd 1 rfl rfl,sBe (fun c4=>RP.f (fun hG=>((hG i x gx).1 c1).2.1 c4) hs.ext) (fun c4=>?_)⟩;refine⟨sf,hs.rd 1 rfl rfl,_,hs.rd 0 rfl rfl,?_⟩;refine (hM.pf.rw.ext hs.ext).nbI (by omega) (by omega) fun b29 o30 f gf t29=>?_;refine⟨_,t29.hd,sB_intro (fun c5=>RP.f (fun hG=>by have:=((hG i x gx).1 c1).2.2;rw[gf] at this;cases this;cases c5) hs.ext) (fun c5=>?_)⟩;have hff:m.fin[x.f.toNat]?=some false:=by rw[gf,c5]
  rotate_left;all_goals
   refine up_loopS (n:=sm.n) hs (fun k=>∀(j:Nat) y,j<k->m.mv[j]?=some y->ApP i x j y) (fun j x hj=>by omega) ?_;clear hs;rintro-k h37 hk ⟨hs,hq2⟩;refine⟨sm,hs.rd 1 rfl rfl,?_⟩;refine sB_intro (fun c6=>?_) (fun c6=>?_)
   .replace c6:=lt_t c6;refine⟨sm,hs.rd 1 rfl rfl,?_⟩;refine (hM.pm.rw.ext hs.ext).nbI (by omega) (by omega) fun b38 o39 y gy t38=>?_;replace gy:m.mv[k]?=some y:=gy;have hym:=Yb gy;refine⟨_,_,_,_,_,_,t38,?_⟩;refine hs.newput (vs:=y.cs) rfl rfl fun h47 hs=>?_
    repeat' (first
     | (refine⟨_,hs.rd 0 rfl rfl,?_⟩)
     | (refine⟨_,hs.rd 1 rfl rfl,?_⟩)
     | (refine sBe (fun _=>?_) (fun _=>?_))
     | (refine sBn (fun _=>?_) (fun _=>?_))
     | (refine sB_intro (fun _=>?_) (fun _=>?_)))
    all_goals first
     | (refine RP.f (fun hG=>?_) hs.ext
        have hG:=(hG i x gx).2 k y gy;unfold ApP at hG
        simp_all;done)
     | (refine RP.f (fun hG=>?_) hs.ext
        have hG:=(hG i x gx).2 k y gy;unfold ApP at hG;have hki:k≠i:=by omega
        simp_all;done)
     | (refine Up.next c6 (by omega) ⟨hs.drop 1,fun j z hj hz=>?_⟩
        by_cases e:j=k
        .subst e;rw[gy] at hz;cases hz;constructor
         .intro g1 g2;first
           | (exfalso;omega)
           | (refine⟨?_,?_,?_⟩<;>simp_all)
         .intro g1 g2;refine⟨?_,?_⟩<;>simp_all
        .exact hq2 j z (by omega) hz)
   .replace c6:=lt_f c6;refine Up.next c (by omega) ⟨hs.drop 1,fun j z hj hz=>?_⟩;by_cases e:j=i
    .subst e;rw[gx] at hz;cases hz;refine⟨?_,fun k y hy=>hq2 k y (by have:=(Ya.1 hy).1;omega) hy⟩;unfold ApA
     simp_all
    .exact hq j z (by omega) hz
 .replace c:=lt_f c;exact RP.t (fun i x hx=>hq i x (by have:=(Ya.1 hx).1;omega) hx) hs.ext
theorem timed60 (m:Mch) (sf sm sl:Sl) (h:Heap) (hM:MI h m sf sm sl):Fn Pz 100 #[.agg ⟨mC m sf sm sl⟩] h (RP (TimM m) h):=by
 apply vc100 m.role m.n m.s sf sm sl;unfold W100 V100a;have hmn:=hM.pm.ln;have hmm:=hM.pm.sm;have hln:=hM.pl.ln;have hlm:=hM.pl.sm;refine (St.refl h).newb fun h7 hs=>?_;refine up_loopS (n:=sl.n) hs (fun i=>∀(j:Nat) x,j<i->m.li[j]?=some x->TmM m j x) (fun j x hj=>by omega) ?_;clear hs;rintro-i h12 hi ⟨hs,hq⟩;refine⟨sl,hs.rd 0 rfl rfl,?_⟩;refine sB_intro (fun c=>?_) (fun c=>?_)
 .replace c:=lt_t c;refine⟨sl,hs.rd 0 rfl rfl,?_⟩;refine (hM.pl.rw.ext hs.ext).nbI (by omega) (by omega) fun b15 o16 x gx t=>?_;replace gx:m.li[i]?=some x:=gx;have no:∀ {p:Prop},(TmM m i x->p)->TimM m->p:=fun f hG=>f (hG i x gx);refine⟨_,_,_,t,?_⟩;refine hs.newput (vs:=x.cs) rfl rfl fun h21 hs=>?_;refine⟨_,hs.rd 0 rfl rfl,sBi (fun d1=>RP.f (no fun hT=>by have:=hT.k;omega) hs.ext) (fun d1=>?_)⟩;refine⟨_,hs.rd 0 rfl rfl,sBi (fun d2=>RP.f (no fun hT=>by have:=hT.k;omega) hs.ext) (fun d2=>?_)⟩;refine⟨_,hs.rd 0 rfl rfl,sBi (fun d3=>RP.f (no fun hT=>by have:=hT.e.1;omega) hs.ext) (fun d3=>?_)⟩;refine⟨_,hs.rd 0 rfl rfl,sm,hs.rd 1 rfl rfl,sBi (fun d4=>RP.f (no fun hT=>by obtain⟨_,y,hy,_⟩:=hT.e;have:=(Ya.1 hy).1;omega) hs.ext) (fun d4=>?_)⟩;refine sBi (fun c1=>?_) (fun c1=>?_);refine⟨_,hs.rd 0 rfl rfl,sl,hs.rd 1 rfl rfl,?_⟩;have hw:IntKind.wrap .i64 ((i:Int)-1)=((i-1:Nat):Int):=by rw[w64 (by omega) (by omega)];omega
  rw[hw];refine (hM.pl.rw.ext hs.ext).nbI (by omega) (by omega) fun b29 o30 w gw t29=>?_;replace gw:m.li[i-1]?=some w:=gw;refine⟨_,t29.hd,sBi (fun d0=>RP.f (no fun hT=>by have:=hT.o w (by omega) gw;omega) hs.ext) (fun d0=>?_)⟩;have hord:∀z,0<i->m.li[i-1]?=some z->z.s<x.s:=fun z _ hz=>by rw[gw] at hz;cases hz;omega
  rotate_left;have hord:∀z,0<i->m.li[i-1]?=some z->z.s<x.s:=fun z h0 _=>by omega
  all_goals
   refine⟨sm,hs.rd 1 rfl rfl,_,hs.rd 0 rfl rfl,?_⟩;refine (hM.pm.rw.ext hs.ext).nbI (by omega) (by omega) fun b26 o27 y gy t26=>?_;refine⟨_,_,_,_,_,_,t26,?_⟩;refine hs.newput (vs:=y.cs) rfl rfl fun h35 hs=>?_;refine⟨_,hs.rd 0 rfl rfl,_,hs.rd 1 rfl rfl,sBn (fun d5=>RP.f (no fun hT=>by obtain⟨_,z,hz,hf,_⟩:=hT.e;rw[gy] at hz;cases hz;exact d5 hf) hs.ext) (fun d5=>?_)⟩;refine⟨_,hs.rd 0 rfl rfl,sB_intro (fun d6=>RP.f (no fun hT=>by obtain⟨_,z,hz,_,hf,_⟩:=hT.e;rw[gy] at hz;cases hz;rw[hf] at d6;cases d6) hs.ext) (fun d6=>?_)⟩;refine⟨_,hs.rd 0 rfl rfl,sB_intro (fun d7=>RP.f (no fun hT=>by obtain⟨_,z,hz,_,_,hf⟩:=hT.e;rw[gy] at hz;cases hz;rw[hf] at d7;cases d7) hs.ext) (fun d7=>?_)⟩;refine Up.next c (by omega) ⟨hs.drop 2,fun j z hj hz=>?_⟩;by_cases e:j=i
   .subst e;rw[gx] at hz;cases hz;exact⟨hord,by omega,by omega,y,gy,d5,bT d6,d7⟩
   .exact hq j z (by omega) hz
 .replace c:=lt_f c;exact RP.t (fun i x hx=>hq i x (by have:=(Ya.1 hx).1;omega) hx) hs.ext
theorem ap_iff {m:Mch}:ApM m ↔ DetM m/\AgM m:=by
 constructor
 .intro hA;refine⟨fun i k x y hx hy hne hf=>?_,?_⟩
  .have h1:=((hA i x hx).2 k y hy).1 (fun e=>hne e.symm) hf;refine⟨fun e=>h1.2.1 ?_,h1.1⟩;have e1:=congrArg Ev.peer e;have e2:=congrArg Ev.label e;exact⟨e1,e2⟩
  .have g:∀x∈m.mv,∃i:Nat,m.mv[i]?=some x:=fun x hx=>Yf.1 hx;refine⟨fun x hx ha=>?_,fun x hx ha=>?_,fun x hx ha=>?_,fun x hx ha=>?_,fun x hx ha y hy ht=>?_⟩
   .obtain⟨i,hi⟩:=g x hx;exact ((hA i x hi).1 ha).1
   .obtain⟨i,hi⟩:=g x hx;have hm:i∈outIx m x.f:=outIx_mem.2 ⟨x,hi,rfl⟩;have hall:∀k∈outIx m x.f,k=i:=fun k hk=>by
     obtain⟨y,hy,hf⟩:=outIx_mem.1 hk;by_cases e:k=i
     .exact e
     .have:=(((hA i x hi).2 k y hy).1 e hf.symm).2.2;rw[ha] at this;cases this
    have nd:=outIx_nodup m x.f
    revert hm hall nd
    cases outIx m x.f with
    | nil=>intro hm;cases hm
    | cons a l=>
     cases l with
     | nil=>intros;rfl
     | cons b l=>
      intro hm hall nd;have h1:=hall a (Yx);have h2:=hall b (Yn _ Yx);rw[List.nodup_cons] at nd;exact absurd (by rw[h1,<-h2];exact Yx) nd.1
   .obtain⟨i,hi⟩:=g x hx;exact ((hA i x hi).1 ha).2.1
   .obtain⟨i,hi⟩:=g x hx;exact ((hA i x hi).1 ha).2.2
   .obtain⟨i,hi⟩:=g x hx;obtain⟨k,hk⟩:=g y hy;exact ((hA i x hi).2 k y hk).2 ha ht
 .rintro⟨hD,hG⟩ i x hx;have hxm:=Yb hx;refine⟨fun ha=>⟨hG.s x hxm ha,hG.i x hxm ha,hG.f x hxm ha⟩,fun k y hy=>⟨fun hne hf=>?_,fun ha ht=>hG.p x hxm ha y (Yb hy) ht⟩⟩;have h1:=hD i k x y hx hy (fun e=>hne e.symm) hf;refine⟨h1.2,fun e=>h1.1 (ev_ext h1.2 e.1 e.2),?_⟩;cases ha:x.ag with
  | false=>rfl
  | true=>
   have hl:=hG.o x hxm ha;have m1:i∈outIx m x.f:=outIx_mem.2 ⟨x,hx,rfl⟩;have m2:k∈outIx m x.f:=outIx_mem.2 ⟨y,hy,hf.symm⟩
   revert m1 m2 hl
   cases outIx m x.f with
   | nil=>intro h;cases h
   | cons a l=>
    intro hl m1 m2;have:l=[]:=List.eq_nil_of_length_eq_zero (by rw[Yyj] at hl;omega);subst this;rw[Ye] at m1 m2;exact absurd (m2.trans m1.symm) hne
def withL (x:Int):List Int->List Int
 | []=>[x]
 | y::l=>if x<=y then (if x<y then x::y::l else y::l) else y::withL x l
theorem withL_mem {x v:Int}:∀ {T:List Int},v∈withL x T ↔ v=x\/v∈T
 | []=>by simp[withL]
 | y::l=>by
  unfold withL;split
  .split
   .rw[Yr]
   .have:x=y:=by omega
    subst this;simp
  .rw[Yr,withL_mem,Yr];constructor
   .rintro (h | h | h)
    .exact .inr (.inl h)
    .exact .inl h
    .exact .inr (.inr h)
   .rintro (h | h | h)
    .exact .inr (.inl h)
    .exact .inl h
    .exact .inr (.inr h)
theorem withL_sorted {x:Int}:∀ {T:List Int},T.Pairwise (· < ·)->(withL x T).Pairwise (· < ·)
 | [],_=>by simp[withL]
 | y::l,h=>by
  unfold withL;have h':=List.pairwise_cons.1 h;split
  .split
   .refine List.pairwise_cons.2 ⟨fun v hv=>?_,h⟩;rcases Yr.1 hv with rfl | hv
    .assumption
    .have:=h'.1 v hv;omega
   .exact h
  .refine List.pairwise_cons.2 ⟨fun v hv=>?_,withL_sorted h'.2⟩;rcases withL_mem.1 hv with rfl | hv
   .omega
   .exact h'.1 v hv
theorem withL_len {x:Int}:∀ {T:List Int},x∉T->(withL x T).length=T.length+1
 | [],_=>rfl
 | y::l,h=>by
  unfold withL;rw[Yr,not_or] at h;split
  .split
   .rfl
   .exact absurd (by omega) h.1
  .rw[Yyj,withL_len h.2,Yyj]
theorem withL_same {x:Int}:∀ {T:List Int},T.Pairwise (· < ·)->x∈T->withL x T=T
 | [],_,h=>by cases h
 | y::l,h,hm=>by
  unfold withL;have h':=List.pairwise_cons.1 h;split
  .split
   .rcases Yr.1 hm with e | e
    .omega
    .have:=h'.1 x e;omega
   .rfl
  .rcases Yr.1 hm with e | e
   .omega
   .rw[withL_same h'.2 e]
theorem sorted_le:∀ {T:List Int} {a b:Int},a<=b->T.Pairwise (· < ·)->(∀v∈T,a<=v/\v<b)->(T.length:Int)<=b-a
 | [],a,b,hab,_,_=>by rw[List.length_nil];omega
 | x::l,a,b,hab,h,hm=>by
  have h':=List.pairwise_cons.1 h;have hx:=hm x Yx;have:=sorted_le (T:=l) (a:=x+1) (b:=b) (by omega) h'.2 fun v hv=>⟨by have:=h'.1 v hv;omega,(hm v (Yn _ hv)).2⟩;rw[Yyj];omega
theorem sorted_full:∀ {T:List Int} {a b:Int},a<=b->T.Pairwise (· < ·)->(∀v∈T,a<=v/\v<b)->((T.length:Int)=b-a ↔ ∀v,a<=v->v<b->v∈T)
 | [],a,b,hab,_,_=>by
  rw[List.length_nil];constructor
  .intro h v h1 h2;omega
  .intro h;by_cases e:a=b
   .omega
   .exact absurd (h a (Int.le_refl _) (by omega)) (by simp)
 | x::l,a,b,hab,h,hm=>by
  have h':=List.pairwise_cons.1 h;have hx:=hm x Yx;have hb:∀v∈l,x+1<=v/\v<b:=fun v hv=>⟨by have:=h'.1 v hv;omega,(hm v (Yn _ hv)).2⟩;have h1:=sorted_le (T:=l) (a:=x+1) (b:=b) (by omega) h'.2 hb;have h2:=sorted_full (T:=l) (a:=x+1) (b:=b) (by omega) h'.2 hb;rw[Yyj];constructor
  .intro he v h3 h4;have hxa:x=a:=by omega
   subst hxa;by_cases e:v=x
   .subst e;exact Yx
   .exact Yn _ (h2.1 (by omega) v (by omega) h4)
  .intro ha;have hxa:x=a:=by
    rcases Yr.1 (ha a (Int.le_refl _) (by omega)) with e | e
    .exact e.symm
    .have:=(hb a e).1;omega
   subst hxa;have:=h2.2 fun v h3 h4=>by
    rcases Yr.1 (ha v (by omega) h4) with e | e
    .omega
    .exact e
   omega
theorem refHas105 (L:List Int) (x:Int) (s:Sl) (h:Heap) (hr:Rw h 1 s (L.map inC)) (hl:L.length<=1048576):Fn Pz 153 #[.slice s.a s.n s.c,.int .i64 x] h (RP (x∈L) h):=by
 apply vc153;unfold W153;have hn:=hr.ln;refine up_loop (n:=s.n) (fun i h'=>Ext h h'/\∀(j:Nat) y,j<i->L[j]?=some y->y≠x) ⟨.rfl',fun j y hj=>by omega⟩ ?_;rintro-i h5 hi ⟨E,hq⟩;refine sB_intro (fun c=>?_) (fun c=>RP.f (fun hm=>?_) E)
 .replace c:=lt_t c;refine (hr.ext E).nbI (by omega) (by omega) fun b6 o7 y gy t=>?_;replace gy:L[i]?=some y:=gy;refine⟨_,t.hd,sBe (fun c1=>RP.t (by subst c1;exact Yb gy) E) (fun c1=>Up.next c (by omega) ⟨E,fun j z hj hz=>?_⟩)⟩;by_cases e:j=i
  .subst e;rw[gy] at hz;cases hz;exact c1
  .exact hq j z (by omega) hz
 .replace c:=lt_f c;obtain⟨j,hj⟩:=Yf.1 hm;exact hq j x (by have:=(Ya.1 hj).1;omega) hj rfl
theorem refWith106 (L:List Int) (x:Int) (s:Sl) (h:Heap) (hr:Rw h 1 s (L.map inC)) (hl:L.length<=1048576) :
  Fn Pz 154 #[.slice s.a s.n s.c,.int .i64 x] h fun v h'=>Ext h h'/\∃s':Sl,v=.slice s'.a s'.n s'.c/\Rw h' 1 s' ((withL x L).map inC):=by
 apply vc154;unfold W154 V154b V154a;have hn:=hr.ln;refine⟨fun out done i h' μ=>∃(j:Nat) (T:List Int),i=j/\j<=s.n/\μ=s.n-j/\St h h' [.sl out 3 1 (T.map inC)]/\T.length<=j+1/\(done=false->T.length<=j)/\withL x L=T++(if done=true then L.drop j else withL x (L.drop j)),⟨_,0,[],rfl,by omega,rfl,(St.refl h).nil_ 3 1,by simp,by simp,rfl⟩,?_⟩;rintro-out done _ h7 μ ⟨j,T,rfl,hj,rfl,hs,hT,hTf,hw⟩;have hol:=(hs.rows 0 rfl (by omega)).ln;refine sB_intro (fun c=>?_) (fun c=>?_)
 .replace c:=lt_t c;obtain⟨y,hy⟩:=get_some (l:=L) (i:=j) (by omega);rw[drop_get hy] at hw;refine sB_intro (fun c1=>?_) (fun c1=>?_)
  .have hdn:done=false:=bF c1;subst hdn;have hTf:=hTf rfl;rw[if_neg (by decide)] at hw;refine (hr.ext hs.ext).nbI (by omega) (by omega) fun b8 o9 y' gy t=>?_;replace gy:L[j]?=some y':=gy;rw[hy] at gy;cases gy;refine⟨_,t.hd,sBi (fun c2=>?_) (fun c2=>?_)⟩
   .refine (hr.ext hs.ext).nbI (by omega) (by omega) fun b8 o9 y' gy t=>?_;replace gy:L[j]?=some y':=gy;rw[hy] at gy;cases gy;refine⟨_,t.hd,sBi (fun c3=>?_) (fun c3=>?_)⟩
    .refine hs.app 0 rfl app42 (m:=1) [[.int .i64 x]] rfl rfl (by simp) rfl (by omega) (by simp only[maxLen];omega) fun s15 h16 ns hs=>?_;have hs:St h h16 [.sl s15 3 1 ((T++[x]).map inC)]:=by rw[Ym];exact hs
     have hol:=(hs.rows 0 rfl (by omega)).ln;have hlx:(T++[x]).length=T.length+1:=Yh;refine (hr.ext hs.ext).nbI (by omega) (by omega) fun b8 o9 y' gy t=>?_;replace gy:L[j]?=some y':=gy;rw[hy] at gy;cases gy;refine⟨_,t.hd,?_⟩;refine hs.app 0 rfl app42 (m:=1) [[.int .i64 y]] rfl rfl (by simp) rfl (by omega) (by simp only[maxLen];omega) fun s21 h22 ns hs=>?_;have hs:St h h22 [.sl s21 3 1 ((T++[x]++[y]).map inC)]:=by rw[Ym];exact hs
     refine⟨_,?_,j+1,T++[x]++[y],by rw[w64 (by omega) (by omega)];omega,by omega,rfl,hs,by rw[Yh,hlx,Yv];omega,(fun hd=>by cases hd),?_⟩
     .omega
     .rw[if_pos rfl,hw,withL,if_pos c2,if_pos c3,Yz,Yz];rfl
    .refine (hr.ext hs.ext).nbI (by omega) (by omega) fun b8 o9 y' gy t=>?_;replace gy:L[j]?=some y':=gy;rw[hy] at gy;cases gy;refine⟨_,t.hd,?_⟩;refine hs.app 0 rfl app42 (m:=1) [[.int .i64 y]] rfl rfl (by simp) rfl (by omega) (by simp only[maxLen];omega) fun s21 h22 ns hs=>?_;have hs:St h h22 [.sl s21 3 1 ((T++[y]).map inC)]:=by rw[Ym];exact hs
     refine⟨_,?_,j+1,T++[y],by rw[w64 (by omega) (by omega)];omega,by omega,rfl,hs,by rw[Yh,Yv];omega,(fun hd=>by cases hd),?_⟩
     .omega
     .rw[if_pos rfl,hw,withL,if_pos c2,if_neg c3,Yz];rfl
   .refine (hr.ext hs.ext).nbI (by omega) (by omega) fun b8 o9 y' gy t=>?_;replace gy:L[j]?=some y':=gy;rw[hy] at gy;cases gy;refine⟨_,t.hd,?_⟩;refine hs.app 0 rfl app42 (m:=1) [[.int .i64 y]] rfl rfl (by simp) rfl (by omega) (by simp only[maxLen];omega) fun s21 h22 ns hs=>?_;have hs:St h h22 [.sl s21 3 1 ((T++[y]).map inC)]:=by rw[Ym];exact hs
    refine⟨_,?_,j+1,T++[y],by rw[w64 (by omega) (by omega)];omega,by omega,rfl,hs,by rw[Yh,Yv];omega,(fun _=>by rw[Yh,Yv];omega),?_⟩
    .omega
    .rw[if_neg (by decide),hw,withL,if_neg c2,Yz];rfl
  .have hdn:done=true:=bT c1;subst hdn;rw[if_pos rfl] at hw;refine (hr.ext hs.ext).nbI (by omega) (by omega) fun b8 o9 y' gy t=>?_;replace gy:L[j]?=some y':=gy;rw[hy] at gy;cases gy;refine⟨_,t.hd,?_⟩;refine hs.app 0 rfl app42 (m:=1) [[.int .i64 y]] rfl rfl (by simp) rfl (by omega) (by simp only[maxLen];omega) fun s21 h22 ns hs=>?_;have hs:St h h22 [.sl s21 3 1 ((T++[y]).map inC)]:=by rw[Ym];exact hs
   refine⟨_,?_,j+1,T++[y],by rw[w64 (by omega) (by omega)];omega,by omega,rfl,hs,by rw[Yh,Yv];omega,(fun hd=>by cases hd),?_⟩
   .omega
   .rw[if_pos rfl,hw,Yz];rfl
 .replace c:=lt_f c;rw[List.drop_eq_nil_of_le (by omega)] at hw;refine sB_intro (fun c1=>?_) (fun c1=>?_)
  .have hdn:done=false:=bF c1;subst hdn;rw[if_neg (by decide)] at hw;refine hs.app 0 rfl app42 (m:=1) [[.int .i64 x]] rfl rfl (by simp) rfl (by omega) (by simp only[maxLen];omega) fun s15 h16 ns hs=>?_;have hs:St h h16 [.sl s15 3 1 ((T++[x]).map inC)]:=by rw[Ym];exact hs
   exact⟨hs.ext,_,rfl,by rw[hw];exact hs.rows 0 rfl (by omega)⟩
  .have hdn:done=true:=bT c1;subst hdn;rw[if_pos rfl,Yw] at hw;exact⟨hs.ext,_,rfl,by rw[hw];exact hs.rows 0 rfl (by omega)⟩
structure RcI (m:Mch) (T:List Int):Prop where
 so:T.Pairwise (· < ·)
 b:∀v∈T,0<=v/\v<m.n
 r:∀v∈T,Qr (meds m) (-1) [m.s] v
 s:m.s∈T
def ClM (m:Mch) (i:Nat) (T:List Int):Prop:=∀(j:Nat) (x:Mv),j<i->m.mv[j]?=some x->x.f∈T->x.t∈T
theorem reached61 (m:Mch) (sf sm sl:Sl) (h:Heap) (hM:MI h m sf sm sl) (hN:NumM m) :
  Fn Pz 101 #[.agg ⟨mC m sf sm sl⟩] h fun v h'=>Ext h h'/\∃s:Sl,v=.slice s.a s.n s.c/\((s.n:Int)=m.n ↔ RchM m):=by
 apply vc101 m.role m.n m.s sf sm sl;unfold W101;have hmn:=hM.pm.ln;have hmm:=hM.pm.sm;have hsn:=hN.s;have hnn:=hN.n;refine (St.refl h).newb fun h7 hs=>?_;refine⟨_,hs.rd 0 rfl rfl,?_⟩;refine hs.newb fun h9 hs=>?_;have hs:=hs.blkS 1 1 ([m.s].map inC) rfl (inrows _) rfl (by decide);have hR0:=hs.rows 0 rfl (by omega);have hs:=hs.drop 1;refine⟨fun out n h' μ=>∃(k:Nat) (T:List Int),n=k/\k<=m.n.toNat/\μ=m.n.toNat-k/\St h h' [.blk h.size (mC m sf sm sl) 98]/\Rw h' 1 out (T.map inC)/\RcI m T/\(ClM m m.mv.length T\/k+1<=T.length),⟨_,0,[m.s],rfl,by omega,rfl,hs,hR0,⟨by simp,fun v hv=>by rw[Ye.1 hv];omega,fun v hv=>.base hv,Ye.2 rfl⟩,.inr (by simp)⟩,?_⟩;clear hs hR0;rintro-out _ h15 μ ⟨k,T,rfl,hk,rfl,hs,hR,hT,hcl⟩;refine⟨_,hs.rd 0 rfl rfl,sBi (fun c=>?_) (fun c=>?_)⟩
 .refine⟨fun out i h' μ=>∃(j:Nat) (T:List Int),i=j/\j<=sm.n/\μ=sm.n-j/\St h h' [.blk h.size (mC m sf sm sl) 98]/\Rw h' 1 out (T.map inC)/\RcI m T/\(ClM m m.mv.length T\/(ClM m j T/\k+1<=T.length)\/k+2<=T.length),⟨_,0,T,rfl,by omega,rfl,hs,hR,hT,?_⟩,?_⟩
  .rcases hcl with h1 | h1
   .exact .inl h1
   .exact .inr (.inl ⟨fun j x hj=>by omega,h1⟩)
  clear hs hR hT hcl;rintro-out _ h22 μ ⟨j,T,rfl,hj,rfl,hs,hR,hT,hcl⟩;have hTl:=sorted_le (by omega) hT.so hT.b;refine⟨sm,hs.rd 0 rfl rfl,sB_intro (fun c1=>?_) (fun c1=>?_)⟩
  .replace c1:=lt_t c1;refine⟨sm,hs.rd 0 rfl rfl,?_⟩;refine (hM.pm.rw.ext hs.ext).nbI (by omega) (by omega) fun b25 o26 x gx t=>?_;replace gx:m.mv[j]?=some x:=gx;have hxm:=Yb gx;have hxr:=hN.mv x hxm;refine⟨_,t.nth 0 rfl,?_⟩;refine (refHas105 T x.f out h22 hR (by omega)).mono ?_;rintro _ h30 ⟨⟨b,rfl,hb⟩,E⟩;have hs:=hs.step E;have hR:=hR.ext E;refine⟨_,rfl,sB_intro (fun c2=>?_) (fun c2=>?_)⟩
   .have hfm:=hb.1 c2;refine⟨sm,hs.rd 0 rfl rfl,?_⟩;refine (hM.pm.rw.ext hs.ext).nbI (by omega) (by omega) fun b25 o26 x' gx' t=>?_;replace gx':m.mv[j]?=some x':=gx';rw[gx] at gx';cases gx';refine⟨_,t.nth 4 rfl,?_⟩;refine (refWith106 T x.t out h30 hR (by omega)).mono ?_;rintro _ h37 ⟨E2,s',rfl,hR2⟩;have hs:=hs.step E2;refine⟨_,rfl,?_⟩;have hT2:RcI m (withL x.t T):=⟨withL_sorted hT.so,fun v hv=>by
      rcases withL_mem.1 hv with rfl | hv
      .omega
      .exact hT.b v hv,fun v hv=>by
      rcases withL_mem.1 hv with rfl | hv
      .exact .step (hT.r x.f hfm) ⟨⟨x.f,0,0,0,x.t,false⟩,Yp.2 ⟨x,hxm,rfl⟩,rfl,rfl,rfl⟩
      .exact hT.r v hv,withL_mem.2 (.inr hT.s)⟩
    refine⟨sm.n-(j+1),by omega,j+1,withL x.t T,by rw[w64 (by omega) (by omega)];omega,by omega,rfl,hs,hR2,hT2,?_⟩;by_cases hm:x.t∈T
    .rw[withL_same hT.so hm];rcases hcl with h1 | h1 | h1
     .exact .inl h1
     .refine .inr (.inl ⟨fun i z hi hz hzf=>?_,h1.2⟩);by_cases e:i=j
      .subst e;rw[gx] at hz;cases hz;exact hm
      .exact h1.1 i z (by omega) hz hzf
     .exact .inr (.inr h1)
    .rw[withL_len hm];rcases hcl with h1 | h1 | h1
     .exact absurd (h1 j x (by omega) gx hfm) hm
     .exact .inr (.inr (by omega))
     .exact .inr (.inr (by omega))
   .have hfm:x.f∉T:=iff_f hb c2;refine⟨sm.n-(j+1),by omega,j+1,T,by rw[w64 (by omega) (by omega)];omega,by omega,rfl,hs,hR,hT,?_⟩;rcases hcl with h1 | h1 | h1
    .exact .inl h1
    .refine .inr (.inl ⟨fun i z hi hz hzf=>?_,h1.2⟩);by_cases e:i=j
     .subst e;rw[gx] at hz;cases hz;exact absurd hzf hfm
     .exact h1.1 i z (by omega) hz hzf
    .exact .inr (.inr h1)
  .replace c1:=lt_f c1;refine⟨m.n.toNat-(k+1),by omega,k+1,T,by rw[w64 (by omega) (by omega)];omega,by omega,rfl,hs,hR,hT,?_⟩;rcases hcl with h1 | h1 | h1
   .exact .inl h1
   .exact .inl fun i z hi hz hzf=>h1.1 i z (by omega) hz hzf
   .exact .inr (by omega)
 .have hTl:=sorted_le (by omega) hT.so hT.b;have hcl:ClM m m.mv.length T:=by
   rcases hcl with h1 | h1
   .exact h1
   .omega
  refine⟨hs.ext,_,rfl,?_⟩;have hol:=hR.ln;have hiff:∀v,v∈T ↔ Qr (meds m) (-1) [m.s] v:=fun v=>by
   refine⟨hT.r v,fun hq=>?_⟩
   induction hq with
   | base hm=>rw[Ye.1 hm];exact hT.s
   | step _ hx ih=>
    obtain⟨e,he,_,hf,ht⟩:=hx;obtain⟨x,hx,rfl⟩:=Yp.1 he;obtain⟨i,hi⟩:=Yf.1 hx;subst hf;subst ht;exact hcl i x (Ya.1 hi).1 hi ih
  have hfull:=sorted_full (a:=0) (b:=m.n) (by omega) hT.so hT.b;rw[show ((out.n:Nat):Int)=(T.length:Int) by rw[hol]];rw[Int.sub_zero] at hfull;rw[hfull];exact⟨fun hA v h0 h1=>(hiff v).1 (hA v h0 h1),fun hA v h0 h1=>(hiff v).2 (hA v h0 h1)⟩
theorem VM_iff {m:Mch}:VM m ↔ NumM m/\ApM m/\TimM m/\RchM m:=
 ⟨fun h=>⟨h.n,ap_iff.2 ⟨h.d,h.a⟩,h.t,h.r⟩,fun h=>⟨h.1,(ap_iff.1 h.2.1).1,h.2.2.2,(ap_iff.1 h.2.1).2,h.2.2.1⟩⟩
theorem refValid24 (m:Mch) (sf sm sl:Sl) (h:Heap) (hM:MI h m sf sm sl):Fn Pz 43 #[.agg ⟨mC m sf sm sl⟩] h (RP (VM m) h):=by
 apply vc43 m.role m.n m.s sf sm sl;unfold W43;refine (St.refl h).newb fun h7 hs=>?_;refine⟨_,_,_,sf,sm,sl,hs.at 0 rfl (o:=0) (n:=6) rfl,?_⟩;refine (numbers58 m sf sm sl h7 (hM.ext hs.ext)).mono ?_;rintro _ h16 ⟨⟨b1,rfl,hb1⟩,E⟩;have hs:=hs.step E;refine⟨_,rfl,sB_intro (fun c1=>?_) (fun c1=>RP.f (fun hG=>iff_f hb1 c1 (VM_iff.1 hG).1) hs.ext)⟩;have hN:=hb1.1 c1;refine⟨_,_,_,sf,sm,sl,hs.at 0 rfl (o:=0) (n:=6) rfl,?_⟩;refine (apart59 m sf sm sl h16 (hM.ext hs.ext) hN).mono ?_;rintro _ h25 ⟨⟨b2,rfl,hb2⟩,E⟩;have hs:=hs.step E;refine⟨_,rfl,E.sm,sB_intro (fun c2=>?_) (fun c2=>RP.f (fun hG=>iff_f hb2 c2 (VM_iff.1 hG).2.1) hs.ext)⟩;refine⟨_,_,_,sf,sm,sl,hs.at 0 rfl (o:=0) (n:=6) rfl,?_⟩;refine (timed60 m sf sm sl h25 (hM.ext hs.ext)).mono ?_;rintro _ h34 ⟨⟨b3,rfl,hb3⟩,E⟩;have hs:=hs.step E;refine⟨_,rfl,E.sm,sB_intro (fun c3=>?_) (fun c3=>RP.f (fun hG=>iff_f hb3 c3 (VM_iff.1 hG).2.2.1) hs.ext)⟩;refine⟨_,_,_,sf,sm,sl,hs.at 0 rfl (o:=0) (n:=6) rfl,_,hs.rd 0 rfl rfl,?_⟩;refine (reached61 m sf sm sl h34 (hM.ext hs.ext) hN).mono ?_;rintro _ h44 ⟨E,s,rfl,hb4⟩;refine⟨_,rfl,E.sm,RP.e ?_ (hs.step E).ext⟩;rw[beq_iff_eq,hb4,VM_iff];exact⟨fun hr=>⟨hN,hb2.1 c2,hb3.1 c3,hr⟩,fun hG=>hG.2.2.2⟩
structure FewM (m:Mch):Prop where
 n:m.n<=40
 f:m.fin.length<=45
 q:m.mv.length<=80
 l:m.li.length<=45
theorem few13 (m:Mch) (sf sm sl:Sl) (h:Heap) (hM:MI h m sf sm sl):Fn Pz 35 #[.agg ⟨mC m sf sm sl⟩] h (RP (FewM m) h):=by
 apply vc35 m.role m.n m.s sf sm sl;unfold W35;have hfn:=hM.pf.ln;have hmn:=hM.pm.ln;have hln:=hM.pl.ln;refine (St.refl h).newb fun h7 hs=>?_;refine⟨_,hs.rd 0 rfl rfl,sBi (fun c1=>?_) (fun c1=>RP.f (fun hG=>by have:=hG.n;omega) hs.ext)⟩;refine⟨sf,hs.rd 0 rfl rfl,sBi (fun c2=>?_) (fun c2=>RP.f (fun hG=>by have:=hG.f;omega) hs.ext)⟩;refine⟨sm,hs.rd 0 rfl rfl,sBi (fun c3=>?_) (fun c3=>RP.f (fun hG=>by have:=hG.q;omega) hs.ext)⟩;refine⟨sl,hs.rd 0 rfl rfl,RP.e ?_ hs.ext⟩;rw[decide_eq_true_eq];exact⟨fun c4=>⟨c1,by omega,by omega,by omega⟩,fun hG=>by have:=hG.l;omega⟩
theorem refSys23 (L:List MR) (s:Sl) (h:Heap) (hS:SyI h s L):Fn Pz 18 #[.slice s.a s.n s.c] h (RP (SysV (L.map MR.m)) h):=by
 apply vc18 s;unfold W18;have hn:=hS.r.ln;have hlm:(L.map MR.m).length=L.length:=Yc _;have hs:=St.refl h;refine sBi (fun c=>RP.f (fun hG=>by have:=hG.n;omega) .rfl') (fun c1=>?_);refine sBi (fun c=>RP.f (fun hG=>by have:=hG.n;omega) .rfl') (fun c2=>?_);refine up_loopS (n:=s.n) hs (fun i=>∀(j:Nat) (x:MR),j<i->L[j]?=some x->x.m.role=(j:Int)/\VM x.m/\∀y∈x.m.mv,y.peer<(L.length:Int)) (fun j x hj=>by omega) ?_;rintro-i h9 hi ⟨hs,hq⟩;refine sB_intro (fun c=>?_) (fun c=>?_)
 .replace c:=lt_t c;refine (hS.r.rw.ext hs.ext).nbI (by omega) (by omega) fun b o x gx t=>?_;replace gx:L[i]?=some x:=gx;have hxi:=hS.i x (Yb gx);have hmx:(L.map MR.m)[i]?=some x.m:=by rw[Yd,gx];rfl
  have hgn:=hxi.pm.ln;have hgm:=hxi.pm.sm;refine⟨_,_,_,_,_,_,t,?_⟩;refine (refValid24 x.m x.f x.g x.l h9 (hxi.ext hs.ext)).mono ?_;rintro _ h16 ⟨⟨b1,rfl,hb1⟩,E⟩;have hs:=hs.step E;refine⟨_,rfl,sB_intro (fun c=>RP.f (fun hG=>iff_f hb1 (bF c) (hG.m i x.m hmx).2.1) hs.ext) (fun c4=>?_)⟩;refine (hS.r.rw.ext hs.ext).nbI (by omega) (by omega) fun b2 o2 x2 gx2 t2=>?_;replace gx2:L[i]?=some x2:=gx2;rw[gx] at gx2;cases gx2;refine⟨_,t2.hd,sBn (fun c=>RP.f (fun hG=>c (hG.m i x.m hmx).1) hs.ext) (fun c3=>?_)⟩;refine up_loopS (n:=x.g.n) hs (fun k=>∀(j:Nat) (y:Mv),j<k->x.m.mv[j]?=some y->y.peer<(L.length:Int)) (fun j y hj=>by omega) ?_;rintro-k h24 hk ⟨hs,hq2⟩;refine (hS.r.rw.ext hs.ext).nbI (by omega) (by omega) fun b3 o3 x3 gx3 t3=>?_;replace gx3:L[i]?=some x3:=gx3;rw[gx] at gx3;cases gx3;refine⟨x.g,t3.nth 4 rfl,sB_intro (fun d=>?_) (fun d=>?_)⟩
  .replace d:=lt_t d;refine (hS.r.rw.ext hs.ext).nbI (by omega) (by omega) fun b4 o4 x4 gx4 t4=>?_;replace gx4:L[i]?=some x4:=gx4;rw[gx] at gx4;cases gx4;refine⟨x.g,t4.nth 4 rfl,?_⟩;refine (hxi.pm.rw.ext hs.ext).nbI (by omega) (by omega) fun b5 o5 y gy t5=>?_;replace gy:x.m.mv[k]?=some y:=gy;refine⟨_,t5.nth 2 rfl,sBi (fun c5=>RP.f (fun hG=>by have:=(hG.m i x.m hmx).2.2 y (Yb gy);omega) hs.ext) (fun c5=>?_)⟩;refine Up.next (by omega) (by omega) ⟨hs,fun j z hj hz=>?_⟩;by_cases e:j=k
   .subst e;rw[gy] at hz;cases hz;omega
   .exact hq2 j z (by omega) hz
  .replace d:=lt_f d;refine Up.next (by omega) (by omega) ⟨hs,fun j y hj hy=>?_⟩;by_cases e:j=i
   .subst e;rw[gx] at hy;cases hy;refine⟨c3,hb1.1 (bT c4),fun z hz=>?_⟩;obtain⟨q,hqz⟩:=Yf.1 hz;exact hq2 q z (by have:=(Ya.1 hqz).1;omega) hqz
   .exact hq j y (by omega) hy
 .replace c:=lt_f c;refine RP.t ⟨by omega,fun p m hm=>?_⟩ hs.ext;rw[Yd] at hm;obtain⟨x,hx,rfl⟩:=Yya.1 hm;rw[hlm];exact hq p x (by have:=(Ya.1 hx).1;omega) hx
theorem diag_lt {n i:Nat} (h:i<n):n*i+i<n*n:=by
 have h1:n*(i+1)<=n*n:=Nat.mul_le_mul_left _ (by omega);rw[Nat.mul_succ] at h1;omega
theorem shaped55 (L:List MR) (s:Sl) (k:Int) (ss sb:Sl) (S:List Int) (B:List Bx) (h:Heap) (hS:SyI h s L) (hV:SysV (L.map MR.m)) (hC:CfI h ss sb S B) :
  Fn Pz 104 #[.slice s.a s.n s.c,.int .i64 k,.agg ⟨[.slice ss.a ss.n ss.c,.slice sb.a sb.n sb.c]⟩] h (RP ((1<=k/\k<=4)/\PropS (L.map MR.m) k S (B.map Bx.l)) h):=by
 apply vc104 s k ss sb;unfold W104;have hn:=hS.r.ln;have hsn:=hC.s.ln;have hbn:=hC.b.ln;have hlm:(L.map MR.m).length=L.length:=Yc _;have hbm:(B.map Bx.l).length=B.length:=Yc _;have hV6:=hV.n;rw[hlm] at hV6;have h36:=sq6 hV6.2;have hsq:(s.n:Int)*(s.n:Int)=((L.length*L.length:Nat):Int):=by rw[hn];rfl
 refine (St.refl h).newb fun h3 hs=>?_;refine sBi (fun c=>RP.f (fun hG=>by have:=hG.1;omega) hs.ext) (fun k1=>sBi (fun c=>RP.f (fun hG=>by have:=hG.1;omega) hs.ext) (fun k4=>?_));refine⟨ss,hs.rd 0 rfl rfl,sBn (fun c=>RP.f (fun hG=>by have:=hG.2.s;rw[hlm] at this;omega) hs.ext) (fun c1=>?_)⟩;refine⟨sb,hs.rd 0 rfl (i:=1) rfl,?_⟩;rw[hsq,w64 (n:=((L.length*L.length:Nat):Int)) (by omega) (by omega)];refine sBn (fun c=>RP.f (fun hG=>by have:=hG.2.b;rw[hlm,hbm] at this;omega) hs.ext) (fun c2=>?_);have hbL:B.length=L.length*L.length:=by rw[<-hbn];exact Int.ofNat_inj.1 c2
 refine up_loopS (n:=s.n) hs (fun i=>∀(j:Nat),j<i->(∀(x:Int) m,S[j]?=some x->(L.map MR.m)[j]?=some m->0<=x/\x<m.n)/\∀q,B[L.length*j+j]?=some q->q.l=[]) (fun j hj=>by omega) ?_;rintro-i h11 hi ⟨hs,hq⟩;refine sB_intro (fun c=>?_) (fun c=>?_)
 .replace c:=lt_t c;have hiL:i<L.length:=by omega
  have hdi:=diag_lt hiL;refine⟨ss,hs.rd 0 rfl rfl,?_⟩;refine (hC.s.rw.ext hs.ext).nbI (by omega) (by omega) fun b o x gx t=>?_;replace gx:S[i]?=some x:=gx;obtain⟨y,gy⟩:=get_some (l:=L) (i:=i) (by omega);have gm:(L.map MR.m)[i]?=some y.m:=by rw[Yd,gy];rfl
  refine⟨_,t.hd,sBi (fun c3=>RP.f (fun hG=>by have:=hG.2.st i x y.m gx gm;omega) hs.ext) (fun c3=>?_)⟩;refine⟨ss,hs.rd 0 rfl rfl,?_⟩;refine (hC.s.rw.ext hs.ext).nbI (by omega) (by omega) fun b' o' x' gx' t'=>?_;replace gx':S[i]?=some x':=gx';rw[gx] at gx';cases gx';refine⟨_,t'.hd,?_⟩;refine (hS.r.rw.ext hs.ext).nbI (by omega) (by omega) fun b2 o2 y' gy' t2=>?_;replace gy':L[i]?=some y':=gy';rw[gy] at gy';cases gy';refine⟨_,t2.nth 1 rfl,sBi (fun c4=>RP.f (fun hG=>by have:=hG.2.st i x y.m gx gm;omega) hs.ext) (fun c4=>?_)⟩;refine⟨sb,hs.rd 0 rfl (i:=1) rfl,?_⟩;have hm36:L.length*i<=36:=Yys (Nat.mul_le_mul hV6.2 (by omega:i<=6)) (by decide);have e1:(s.n:Int)*(i:Int)=((L.length*i:Nat):Int):=by rw[hn];rfl
  have e2:((L.length*i:Nat):Int)+(i:Int)=((L.length*i+i:Nat):Int):=rfl;rw[e1,w64 (n:=((L.length*i:Nat):Int)) (by omega) (by omega),e2,w64 (n:=((L.length*i+i:Nat):Int)) (by omega) (by omega)];refine (hC.b.rw.ext hs.ext).nbI (Int.natCast_nonneg _) (Int.ofNat_lt.2 (by rw[hbn,hbL];exact hdi)) fun b3 o3 q gq t3=>?_;rw[Ys] at gq;replace gq:B[L.length*i+i]?=some q:=gq;have gl:(B.map Bx.l)[L.length*i+i]?=some q.l:=by rw[Yd,gq];rfl
  have hql:=(hC.i q (Yb gq)).ln;have hdv:(L.length*i+i)/L.length=i:=by rw[Nat.mul_add_div (by omega),Nat.div_eq_of_lt hiL];rfl
  have hdm:(L.length*i+i)%L.length=i:=by rw[Nat.mul_add_mod,Nat.mod_eq_of_lt hiL]
  refine⟨q.s,t3.hd,sBi (fun c5=>RP.f (fun hG=>?_) hs.ext) (fun c5=>?_)⟩
  .have:=(hG.2.bx _ q.l gl).2.1 (by rw[hlm,hdv,hdm]);rw[this] at hql;simp only[List.length_nil] at hql;omega
  .refine Up.next (by omega) (by omega) ⟨hs,fun j hj=>?_⟩;by_cases e:j=i
   .subst e;refine⟨fun x' m' hx' hm'=>?_,fun q' hq'=>?_⟩
    .rw[gx] at hx';rw[gm] at hm';cases hx';cases hm';omega
    .rw[gq] at hq';cases hq';exact List.eq_nil_of_length_eq_zero (by omega)
   .exact hq j (by omega)
 .replace c:=lt_f c;refine up_loopS (n:=sb.n) hs (fun i=>∀(j:Nat) (q:Bx),j<i->B[j]?=some q->(q.l.length:Int)<=k/\∀x∈q.l,0<=x/\x<40) (fun j x hj=>by omega) ?_;rintro-i2 h24 hi2 ⟨hs,hq2⟩;refine⟨sb,hs.rd 0 rfl (i:=1) rfl,sB_intro (fun d=>?_) (fun d=>?_)⟩
  .replace d:=lt_t d;refine⟨sb,hs.rd 0 rfl (i:=1) rfl,?_⟩;refine (hC.b.rw.ext hs.ext).nbI (by omega) (by omega) fun b o q gq t=>?_;replace gq:B[i2]?=some q:=gq;have gl:(B.map Bx.l)[i2]?=some q.l:=by rw[Yd,gq];rfl
   have hqi:=hC.i q (Yb gq);have hql:=hqi.ln;have hqm:=hqi.sm;refine⟨q.s,t.hd,sBi (fun c5=>RP.f (fun hG=>by have:=(hG.2.bx i2 q.l gl).1;omega) hs.ext) (fun c5=>?_)⟩;refine up_loopS (n:=q.s.n) hs (fun i=>∀(j:Nat) (x:Int),j<i->q.l[j]?=some x->0<=x/\x<40) (fun j x hj=>by omega) ?_;rintro-j h41 hj ⟨hs,hq3⟩;refine⟨sb,hs.rd 0 rfl (i:=1) rfl,?_⟩;refine (hC.b.rw.ext hs.ext).nbI (by omega) (by omega) fun b4 o4 q4 gq4 t4=>?_;replace gq4:B[i2]?=some q4:=gq4;rw[gq] at gq4;cases gq4;refine⟨q.s,t4.hd,sB_intro (fun f=>?_) (fun f=>?_)⟩
   .replace f:=lt_t f;refine⟨sb,hs.rd 0 rfl (i:=1) rfl,?_⟩;refine (hC.b.rw.ext hs.ext).nbI (by omega) (by omega) fun b5 o5 q5 gq5 t5=>?_;replace gq5:B[i2]?=some q5:=gq5;rw[gq] at gq5;cases gq5;refine⟨q.s,t5.hd,?_⟩;refine (hqi.rw.ext hs.ext).nbI (by omega) (by omega) fun b6 o6 x gx t6=>?_;replace gx:q.l[j]?=some x:=gx;have hxm:=Yb gx;refine⟨_,t6.hd,sBi (fun c6=>RP.f (fun hG=>by have:=(hG.2.bx i2 q.l gl).2.2 x hxm;omega) hs.ext) (fun c6=>?_)⟩;refine⟨sb,hs.rd 0 rfl (i:=1) rfl,?_⟩;refine (hC.b.rw.ext hs.ext).nbI (by omega) (by omega) fun b7 o7 q7 gq7 t7=>?_;replace gq7:B[i2]?=some q7:=gq7;rw[gq] at gq7;cases gq7;refine⟨q.s,t7.hd,?_⟩;refine (hqi.rw.ext hs.ext).nbI (by omega) (by omega) fun b8 o8 x8 gx8 t8=>?_;replace gx8:q.l[j]?=some x8:=gx8;rw[gx] at gx8;cases gx8;refine⟨_,t8.hd,sBi (fun c7=>RP.f (fun hG=>by have:=(hG.2.bx i2 q.l gl).2.2 x hxm;omega) hs.ext) (fun c7=>?_)⟩;refine Up.next (by omega) (by omega) ⟨hs,fun j' x' hj' hx'=>?_⟩;by_cases e:j'=j
    .subst e;rw[gx] at hx';cases hx';omega
    .exact hq3 j' x' (by omega) hx'
   .replace f:=lt_f f;refine Up.next (by omega) (by omega) ⟨hs,fun j' q' hj' hq'=>?_⟩;by_cases e:j'=i2
    .subst e;rw[gq] at hq';cases hq';refine⟨by omega,fun x hx=>?_⟩;obtain⟨p,hp⟩:=Yf.1 hx;exact hq3 p x (by have:=(Ya.1 hp).1;omega) hp
    .exact hq2 j' q' (by omega) hq'
  .replace d:=lt_f d;refine RP.t ⟨by omega,by omega,by rw[hbm,hlm];exact hbL,fun p x m hx hm=>?_,fun j b hb=>?_⟩ hs.ext
   .exact (hq p (by have:=(Ya.1 hx).1;omega)).1 x m hx hm
   .rw[Yd] at hb;obtain⟨q,gq,rfl⟩:=Yya.1 hb;rw[hlm];have hj:=(Ya.1 gq).1;obtain⟨g1,g2⟩:=hq2 j q (by omega) gq;refine⟨g1,fun e=>?_,g2⟩;have hjl:j/L.length<L.length:=Nat.div_lt_of_lt_mul (by omega);have hje:L.length*(j/L.length)+j/L.length=j:=by
     have:=Nat.div_add_mod j L.length;rw[<-e] at this;exact this
    exact (hq (j/L.length) (by omega)).2 q (by rw[hje];exact gq)
theorem refProper25 (L:List MR) (s:Sl) (k:Int) (ss sb:Sl) (S:List Int) (B:List Bx) (h:Heap) (hS:SyI h s L) (hC:CfI h ss sb S B) :
  Fn Pz 48 #[.slice s.a s.n s.c,.int .i64 k,.agg ⟨[.slice ss.a ss.n ss.c,.slice sb.a sb.n sb.c]⟩] h (RP (ProS (L.map MR.m) k S (B.map Bx.l)) h):=by
 apply vc48 s k ss sb;unfold W48;refine (St.refl h).newb fun h3 hs=>?_;refine (refSys23 L s h3 (hS.ext hs.ext)).mono ?_;rintro _ h6 ⟨⟨b1,rfl,hb1⟩,E⟩;have hs:=hs.step E;refine⟨_,rfl,sB_intro (fun c1=>?_) (fun c1=>RP.f (fun hG=>iff_f hb1 c1 hG.v) hs.ext)⟩;refine⟨ss,sb,hs.at 0 rfl (o:=0) (n:=2) rfl,?_⟩;refine (shaped55 L s k ss sb S B h6 (hS.ext hs.ext) (hb1.1 c1) (hC.ext hs.ext)).mono ?_;rintro _ h14 ⟨⟨b3,rfl,hb3⟩,E⟩;have hs:=hs.step E;exact⟨_,rfl,RP.e (hb3.trans ⟨fun hp=>⟨hb1.1 c1,hp.1,hp.2⟩,fun hp=>⟨hp.c,hp.p⟩⟩) hs.ext⟩
theorem same34 (X Y:List Int) (a b:Sl) (h:Heap) (hX:RL h 1 a inC X) (hY:RL h 1 b inC Y):Fn Pz 47 #[.slice a.a a.n a.c,.slice b.a b.n b.c] h (RP (X=Y) h):=by
 apply vc47 a b;unfold W47;have ha:=hX.ln;have hb:=hY.ln;have hsm:=hX.sm;refine sBn (fun c=>RP.f (fun hG=>by rw[hG] at ha;omega) .rfl') (fun c1=>?_);refine up_loopS (n:=a.n) (St.refl h) (fun i=>∀(j:Nat),j<i->X[j]?=Y[j]?) (fun j hj=>by omega) ?_;rintro-i h5 hi ⟨hs,hq⟩;refine sB_intro (fun c=>?_) (fun c=>?_)
 .replace c:=lt_t c;refine (hX.rw.ext hs.ext).nbI (by omega) (by omega) fun b1 o1 x gx t1=>?_;replace gx:X[i]?=some x:=gx;refine⟨_,t1.hd,?_⟩;refine (hY.rw.ext hs.ext).nbI (by omega) (by omega) fun b2 o2 y gy t2=>?_;replace gy:Y[i]?=some y:=gy;refine⟨_,t2.hd,sBn (fun c2=>RP.f (fun hG=>by rw[hG,gy] at gx;cases gx;exact c2 rfl) hs.ext) (fun c2=>?_)⟩;refine Up.next (by omega) (by omega) ⟨hs,fun j hj=>?_⟩;by_cases e:j=i
  .subst e;rw[gx,gy,c2]
  .exact hq j (by omega)
 .replace c:=lt_f c;refine RP.t (Yyr fun j=>?_) hs.ext;by_cases hj:j<X.length
  .exact hq j (by omega)
  .rw[Yl (by omega),Yl (by omega)]
theorem sameC19 (a1 b1 a2 b2:Sl) (S1 S2:List Int) (B1 B2:List Bx) (h:Heap) (h1:CfI h a1 b1 S1 B1) (h2:CfI h a2 b2 S2 B2) :
  Fn Pz 20 #[.agg ⟨[.slice a1.a a1.n a1.c,.slice b1.a b1.n b1.c]⟩,.agg ⟨[.slice a2.a a2.n a2.c,.slice b2.a b2.n b2.c]⟩] h (RP (S1=S2/\B1.map Bx.l=B2.map Bx.l) h):=by
 apply vc20 a1 b1 a2 b2;unfold W20;have n1:=h1.b.ln;have n2:=h2.b.ln;have m1:=h1.b.sm;refine (St.refl h).newb fun h5 hs=>?_;refine hs.newb fun h6 hs=>?_;refine⟨a1,hs.rd 1 rfl rfl,a2,hs.rd 0 rfl rfl,?_⟩;refine (same34 S1 S2 a1 a2 h6 (h1.s.ext hs.ext) (h2.s.ext hs.ext)).mono ?_;rintro _ h11 ⟨⟨b,rfl,hb⟩,E⟩;have hs:=hs.step E;refine⟨_,rfl,sB_intro (fun c=>RP.f (fun hG=>iff_f hb (bF c) hG.1) hs.ext) (fun c0=>?_)⟩;refine⟨b1,hs.rd 1 rfl (i:=1) rfl,b2,hs.rd 0 rfl (i:=1) rfl,sBn (fun c=>RP.f (fun hG=>?_) hs.ext) (fun c1=>?_)⟩
 .have:=congrArg List.length hG.2;rw[Yc,Yc] at this;omega
 refine up_loopS (n:=b1.n) hs (fun i=>∀(j:Nat),j<i->(B1.map Bx.l)[j]?=(B2.map Bx.l)[j]?) (fun j hj=>by omega) ?_;rintro-i h18 hi ⟨hs,hq⟩;refine⟨b1,hs.rd 1 rfl (i:=1) rfl,sB_intro (fun c=>?_) (fun c=>?_)⟩
 .replace c:=lt_t c;refine⟨b1,hs.rd 1 rfl (i:=1) rfl,?_⟩;refine (h1.b.rw.ext hs.ext).nbI (by omega) (by omega) fun b3 o3 x gx t3=>?_;replace gx:B1[i]?=some x:=gx;refine⟨x.s,t3.hd,b2,hs.rd 0 rfl (i:=1) rfl,?_⟩;refine (h2.b.rw.ext hs.ext).nbI (by omega) (by omega) fun b4 o4 y gy t4=>?_;replace gy:B2[i]?=some y:=gy;refine⟨y.s,t4.hd,?_⟩;refine (same34 x.l y.l x.s y.s h18 ((h1.i x (Yb gx)).ext hs.ext) ((h2.i y (Yb gy)).ext hs.ext)).mono ?_;rintro _ h30 ⟨⟨b',rfl,hb'⟩,E⟩;have hs:=hs.step E;have ex:(B1.map Bx.l)[i]?=some x.l:=by rw[Yd,gx];rfl
  have ey:(B2.map Bx.l)[i]?=some y.l:=by rw[Yd,gy];rfl
  refine⟨_,rfl,sB_intro (fun c=>RP.f (fun hG=>iff_f hb' (bF c) ?_) hs.ext) (fun c2=>?_)⟩
  .rw[hG.2,ey] at ex;exact (Yyp ex).symm
  .refine Up.next (by omega) (by omega) ⟨hs,fun j hj=>?_⟩;by_cases e:j=i
   .subst e;rw[ex,ey,hb'.1 (bT c2)]
   .exact hq j (by omega)
 .replace c:=lt_f c;refine RP.t ⟨hb.1 (bT c0),Yyr fun j=>?_⟩ hs.ext;by_cases hj:j<B1.length
  .exact hq j (by omega)
  .rw[Yl (by rw[Yc];omega),Yl (by rw[Yc];omega)]
structure FewC (L:List Mch) (S:List Int) (B:List (List Int)):Prop where
 m:∀x∈L,FewM x
 b:∀b∈B,b.length<=10
 n:L.length<=7/\S.length<=10/\B.length<=50
theorem fewC13 (L:List MR) (s:Sl) (ss sb:Sl) (S:List Int) (B:List Bx) (h:Heap) (hS:SyI h s L) (hC:CfI h ss sb S B) :
  Fn Pz 10 #[.slice s.a s.n s.c,.agg ⟨[.slice ss.a ss.n ss.c,.slice sb.a sb.n sb.c]⟩] h (RP (FewC (L.map MR.m) S (B.map Bx.l)) h):=by
 apply vc10 s ss sb;unfold W10;have hn:=hS.r.ln;have hnm:=hS.r.sm;have hsn:=hC.s.ln;have hbn:=hC.b.ln;have hbm:=hC.b.sm;have hlm:(L.map MR.m).length=L.length:=Yc _;have hlb:(B.map Bx.l).length=B.length:=Yc _;refine (St.refl h).newb fun h3 hs=>?_;refine up_loopS (n:=s.n) hs (fun i=>∀(j:Nat) (x:MR),j<i->L[j]?=some x->FewM x.m) (fun j x hj=>by omega) ?_;rintro-i h8 hi ⟨hs,hq⟩;refine sB_intro (fun c=>?_) (fun c=>?_)
 .replace c:=lt_t c;refine (hS.r.rw.ext hs.ext).nbI (by omega) (by omega) fun b o x gx t=>?_;replace gx:L[i]?=some x:=gx;have hxm:=Yb gx;refine⟨_,_,_,_,_,_,t,?_⟩;refine (few13 x.m x.f x.g x.l h8 ((hS.i x hxm).ext hs.ext)).mono ?_;rintro _ h19 ⟨⟨b1,rfl,hb1⟩,E⟩;have hs:=hs.step E;refine⟨_,rfl,sB_intro (fun c=>RP.f (fun hG=>iff_f hb1 (bF c) (hG.m x.m (List.mem_map_of_mem hxm))) hs.ext) (fun c2=>?_)⟩;refine Up.next (by omega) (by omega) ⟨hs,fun j y hj hy=>?_⟩;by_cases e:j=i
  .subst e;rw[gx] at hy;cases hy;exact hb1.1 (bT c2)
  .exact hq j y (by omega) hy
 .replace c:=lt_f c;refine up_loopS (n:=sb.n) hs (fun i=>∀(j:Nat) (q:Bx),j<i->B[j]?=some q->q.l.length<=10) (fun j x hj=>by omega) ?_;rintro-k h25 hk ⟨hs,hq2⟩;refine⟨sb,hs.rd 0 rfl (i:=1) rfl,sB_intro (fun d=>?_) (fun d=>?_)⟩
  .replace d:=lt_t d;refine⟨sb,hs.rd 0 rfl (i:=1) rfl,?_⟩;refine (hC.b.rw.ext hs.ext).nbI (by omega) (by omega) fun b o q gq t=>?_;replace gq:B[k]?=some q:=gq;have hqm:=Yb gq;have hql:=(hC.i q hqm).ln;refine⟨q.s,t.hd,sBi (fun c5=>RP.f (fun hG=>by have:=hG.b q.l (List.mem_map_of_mem hqm);omega) hs.ext) (fun c5=>?_)⟩;refine Up.next (by omega) (by omega) ⟨hs,fun j y hj hy=>?_⟩;by_cases e:j=k
   .subst e;rw[gq] at hy;cases hy;omega
   .exact hq2 j y (by omega) hy
  .replace d:=lt_f d;refine sBi (fun c1=>?_) (fun c1=>RP.f (fun hG=>by have:=hG.n;omega) hs.ext);refine⟨ss,hs.rd 0 rfl rfl,sBi (fun c2=>?_) (fun c2=>RP.f (fun hG=>by have:=hG.n;omega) hs.ext)⟩;refine⟨sb,hs.rd 0 rfl (i:=1) rfl,RP.e ?_ hs.ext⟩;rw[decide_eq_true_eq];refine⟨fun c3=>⟨fun x hx=>?_,fun b hb=>?_,by omega⟩,fun hG=>by have:=hG.n;omega⟩
   .obtain⟨y,hy,rfl⟩:=Yp.1 hx;obtain⟨j,hj⟩:=Yf.1 hy;exact hq j y (by have:=(Ya.1 hj).1;omega) hj
   .obtain⟨y,hy,rfl⟩:=Yp.1 hb;obtain⟨j,hj⟩:=Yf.1 hy;exact hq2 j y (by have:=(Ya.1 hj).1;omega) hj
def cfA (ss sb:Sl):Value:=.agg ⟨[.slice ss.a ss.n ss.c,.slice sb.a sb.n sb.c]⟩
theorem CfI.none_ {h:Heap}:CfI h ⟨none,0,0⟩ ⟨none,0,0⟩ [] []:=⟨⟨Rw.nil,Yyt _,fun _=>⟨rfl,rfl⟩,Nat.zero_le _⟩,⟨Rw.nil,Yyt _,fun _=>⟨rfl,rfl⟩,Nat.zero_le _⟩,fun q hq=>by cases hq⟩
def startS (L:List Mch):List Int:=L.map fun m=>m.s
def startB (L:List Mch):List (List Int):=List.replicate (L.length*L.length) []
def bx0:Bx:=⟨⟨none,0,0⟩,[]⟩
theorem bxrows (B:List Bx):∀r∈B.map Bx.cs,r.length=1:=fun r hr=>by obtain⟨x,_,rfl⟩:=Yp.1 hr;rfl
theorem inrows' (L:List Int):∀r∈L.map inC,r.length=1:=fun r hr=>by obtain⟨x,_,rfl⟩:=Yp.1 hr;rfl
def Bx.itq (q:Bx):It:=.q q.s 3 1 (q.l.map inC)
structure CfM (A:List It) (ss sb:Sl) (S:List Int) (B:List Bx):Prop where
 s:It.sl ss 3 1 (S.map inC)∈A
 b:It.sl sb 25 1 (B.map Bx.cs)∈A
 i:∀q∈B,q=bx0\/q.it∈A\/q.itq∈A
 n:S.length<=1048576/\B.length<=1048576/\∀q∈B,q.l.length<=1048576
theorem CfM.mono {A A':List It} {ss sb:Sl} {S:List Int} {B:List Bx} (h:CfM A ss sb S B) (hA:∀i∈A,i∈A'):CfM A' ss sb S B:=⟨hA _ h.s,hA _ h.b,fun q hq=>(h.i q hq).imp id (Or.imp (hA _) (hA _)),h.n⟩
theorem CfM.cfi {h0 h:Heap} {A:List It} {ss sb:Sl} {S:List Int} {B:List Bx} (hs:St h0 h A) (hM:CfM A ss sb S B):CfI h ss sb S B:=by
 obtain⟨k,hk⟩:=Yf.1 hM.s;obtain⟨k',hk'⟩:=Yf.1 hM.b;have l1:=hs.len k hk (by omega);have l2:=hs.len k' hk' (by omega);refine⟨⟨hs.rows k hk (by omega),l1.2.1,l1.2.2,hM.n.1⟩,⟨hs.rows k' hk' (by omega),l2.2.1,l2.2.2,hM.n.2.1⟩,fun q hq=>?_⟩;rcases hM.i q hq with rfl | hi | hi
 .exact⟨Rw.nil,Yyt _,fun _=>⟨rfl,rfl⟩,Nat.zero_le _⟩
 .obtain⟨j,hj⟩:=Yf.1 hi;have l3:=hs.len j hj (by omega);exact⟨hs.rows j hj (by omega),l3.2.1,l3.2.2,hM.n.2.2 q hq⟩
 .obtain⟨j,hj⟩:=Yf.1 hi;have l3:=hs.qlen j hj;refine⟨hs.qrw j hj (by omega),l3.2,fun ha=>?_,hM.n.2.2 q hq⟩;rcases (hs.get hj).1.2 with ⟨_,h2,h3⟩ | ⟨g,o,cur,hb,_⟩
  .exact⟨h2,h3⟩
  .rw[ha] at hb;cases hb
theorem CfM.none_:CfM [.sl ⟨none,0,0⟩ 3 1 [],.sl ⟨none,0,0⟩ 25 1 []] ⟨none,0,0⟩ ⟨none,0,0⟩ [] []:=⟨Yx,Yn _ Yx,fun q hq=>(by cases hq),Nat.zero_le _,Nat.zero_le _,fun q hq=>(by cases hq)⟩
theorem first46 (L:List MR) (s:Sl) (h:Heap) (hS:SyI h s L) (h6:L.length<=6) :
  Fn Pz 44 #[.slice s.a s.n s.c] h fun v h'=>∃(ss sb:Sl) (A:List It),v=cfA ss sb/\St h h' A/\CfM A ss sb (startS (L.map MR.m)) (List.replicate (L.length*L.length) bx0):=by
 apply vc44 s;unfold W44;have hn:=hS.r.ln;have h36:=sq6 h6;have hsq:(s.n:Int)*(s.n:Int)=((L.length*L.length:Nat):Int):=by rw[hn];rfl
 generalize hnn:L.length*L.length=nn at *;refine (St.refl h).newb fun h1 hs=>?_;rw[hsq,w64 (n:=((nn:Nat):Int)) (by omega) (by omega),Ys];refine⟨⟨by omega,by omega,by omega⟩,?_⟩;refine hs.newb fun h2 hs=>?_;have hs:=hs.blkS nn 1 ((List.replicate nn bx0).map Bx.cs) (by rw[made42,List.map_replicate,List.map_replicate];rfl) (bxrows _) (by rw[Yc,Yg]) (by simp only[maxLen];omega);refine hs.newput (vs:=[.slice none 0 0,.slice (some ⟨h1.size,0,none⟩) nn nn]) rfl rfl fun h4 hs=>?_;have hs:=hs.nil_ 3 1;have hSl:(startS (L.map MR.m)).length=L.length:=by unfold startS;rw[Yc,Yc]
 refine⟨fun x h' μ=>∃(i:Nat) (st:Sl),x=(i:Int)/\μ=L.length-i/\i<=L.length/\St h h' [.sl st 3 1 (((startS (L.map MR.m)).take i).map inC),.blk h2.size [.slice st.a st.n st.c,.slice (some ⟨h1.size,0,none⟩) nn nn] 28,.sl ⟨some ⟨h1.size,0,none⟩,nn,nn⟩ 25 1 ((List.replicate nn bx0).map Bx.cs),.blk h.size [.slice none 0 0,.slice none 0 0] 28],⟨_,0,_,rfl,rfl,Nat.zero_le _,hs⟩,?_⟩;clear hs;rintro-_ h9 μ ⟨i,st,rfl,rfl,hi,hs⟩;refine sBi (fun c=>?_) (fun c=>?_)
 .obtain⟨y,gy⟩:=get_some (l:=L) (i:=i) (by omega);have gs:(startS (L.map MR.m))[i]?=some y.m.s:=by unfold startS;rw[Yd,Yd,gy];rfl
  have hst:=(hs.rows 0 (s:=st) (cs:=inC) rfl (by omega)).ln;rw[Yu] at hst;refine⟨st,hs.rd 1 rfl rfl,?_⟩;refine (hS.r.rw.ext hs.ext).nbI (by omega) (by omega) fun b o y' gy' t=>?_;rw[Ys] at gy';replace gy':L[i]?=some y':=gy';rw[gy] at gy';cases gy';refine⟨_,t.nth 2 rfl,?_⟩;refine hs.newbE fun h14 E14 hs=>⟨E14.sm,?_⟩;refine hs.appended 1 (rows:=((startS (L.map MR.m)).take i).map inC) rfl app42 (m:=1) (news:=[inC y.m.s]) (hs.at 0 rfl (n:=1) rfl) rfl (by simp[inC]) rfl (by omega) (by simp only[maxLen];omega) fun r h16 nr hs=>?_;refine hs.put 2 rfl (o:=0) (vs:=[.slice r.a r.n r.c]) rfl (show 1<=2 by decide) fun h17 hs=>?_;refine⟨_,(show L.length-(i+1)<L.length-i by omega),i+1,r,by rw[w64 (by omega) (by omega)];omega,rfl,by omega,?_⟩;rw[take_snoc gs,Ym];exact hs.drop 1
 .have hil:i=L.length:=by omega
  subst hil;rw[Yj (by omega)] at hs;refine⟨st,⟨some ⟨h1.size,0,none⟩,nn,nn⟩,hs.at 1 rfl (o:=0) (n:=2) rfl,?_⟩;refine hs.put 3 rfl (o:=0) (vs:=[.slice st.a st.n st.c,.slice (some ⟨h1.size,0,none⟩) nn nn]) rfl (show 2<=2 by decide) fun h21 hs=>?_;refine⟨st,⟨some ⟨h1.size,0,none⟩,nn,nn⟩,hs.at 3 rfl (o:=0) (n:=2) rfl,st,_,_,rfl,hs,?_⟩;refine⟨Yx,Yn _ (Yn _ Yx),fun q hq=>.inl (List.eq_of_mem_replicate hq),by omega,by rw[Yg];omega,fun q hq=>?_⟩;rw[List.eq_of_mem_replicate hq];exact Nat.zero_le _
end Go.VC
end

section
namespace Go.VC
open Go.Proofs Go.LexS
def stC (p:Int) (k:Nat):List Value:=[.int .i64 p,.int .i64 (k:Int)]
variable [Mono]
namespace M
theorem side118 (x:Mv) (h:Heap):Fn Pz 161 #[.agg ⟨x.cs⟩] h fun v h'=>v=.int .i64 (sideM x)/\Ext h h':=by
 apply vc161 x.f x.send x.peer x.label x.t x.ag;unfold W161;refine (St.refl h).newb fun h7 hs=>?_;refine⟨_,hs.rd 0 rfl rfl,?_⟩;unfold sideM;refine sB_intro (fun c=>?_) (fun c=>?_)
 .exact⟨by rw[if_pos c],hs.ext⟩
 .exact⟨by rw[if_neg (by rw[c];simp)],hs.ext⟩
theorem order82 (x y:Mv) (h:Heap):Fn Pz 117 #[.agg ⟨x.cs⟩,.agg ⟨y.cs⟩] h fun v h'=>v=.int .i64 (cmpE x.ev y.ev)/\Ext h h':=by
 apply vc117 x.f x.send x.peer x.label x.t x.ag y.f y.send y.peer y.label y.t y.ag;unfold W117;refine (St.refl h).newb fun h13 hs=>?_;refine hs.newb fun h14 hs=>?_;refine⟨_,_,_,_,_,_,hs.at 1 rfl (o:=0) (n:=6) rfl,_,_,_,_,_,_,hs.at 0 rfl (o:=0) (n:=6) rfl,_,hs.rd 1 rfl rfl,_,hs.rd 0 rfl rfl,_,hs.rd 1 rfl rfl,_,hs.rd 0 rfl rfl,?_⟩;refine (side118 x _).mono ?_;rintro _ h33 ⟨rfl,E1⟩;refine⟨_,rfl,Sm_ext E1,?_⟩;have hs:=hs.step E1;refine (side118 y _).mono ?_;rintro _ h36 ⟨rfl,E2⟩;refine⟨_,rfl,Sm_ext E2,?_⟩;have hs:=hs.step E2;refine (cmp110 _ _ _).mono ?_;rintro _ _ ⟨rfl,rfl⟩;refine⟨_,rfl,fun _ _ _ _ hv=>hv,?_⟩;refine (cmp110 _ _ _).mono ?_;rintro _ _ ⟨rfl,rfl⟩;refine⟨_,rfl,fun _ _ _ _ hv=>hv,?_⟩;refine (cmp110 _ _ _).mono ?_;rintro _ _ ⟨rfl,rfl⟩;refine⟨_,rfl,fun _ _ _ _ hv=>hv,?_⟩;refine hs.newb fun h46 hs=>?_;have hs2:=hs.blkS 3 1 ([cmpI (sideM x) (sideM y),cmpI x.peer y.peer,cmpI x.label y.label].map inC) rfl (inrows _) rfl (by decide);refine (or109 [cmpI (sideM x) (sideM y),cmpI x.peer y.peer,cmpI x.label y.label] _ h46 (hs2.rows 0 rfl (by omega)) (show 3<=1048576 by decide)).mono ?_;rintro _ _ ⟨rfl,rfl⟩;refine⟨_,rfl,?_,hs.ext⟩;show Value.int .i64 (orI3 _ (orI3 _ (orI3 _ 0)))=_;congr 1;obtain⟨f,s,p,l,t,a⟩:=x;obtain⟨f',s',p',l',t',a'⟩:=y;unfold cmpE orI3 sideM Mv.ev;cases s<;>cases s'<;>simp[cmpI]<;>(repeat' split)<;>omega
theorem orderS81 (mv:List Mv) (sm:Sl) (a:Addr) (p q:Int) (i k:Nat) (x y:Mv) (h:Heap) (ha:hc h ⟨a.block,a.off+4,none⟩=some (.slice sm.a sm.n sm.c)) (hr:Rw h 6 sm (mv.map Mv.cs)) (hx:mv[i]?=some x) (hy:mv[k]?=some y) :
  Fn Pz 116 #[.agg ⟨stC p i⟩,.agg ⟨stC q k⟩,.pointer (some a)] h fun v h'=>v=.int .i64 (cmpE x.ev y.ev)/\Ext h h':=by
 apply vc116 p (i:Nat) q (k:Nat) a;unfold W116;have hn:=hr.ln;have hxl:=(Ya.1 hx).1;have hyl:=(Ya.1 hy).1;refine (St.refl h).newb fun h5 hs=>?_;refine hs.newb fun h6 hs=>?_;refine⟨sm,hc_ext hs.ext ha,_,hs.rd 1 rfl (i:=1) rfl,?_⟩;refine (hr.ext hs.ext).nbI (by omega) (by omega) fun b o x' gx t=>?_;replace gx:mv[i]?=some x':=gx;rw[hx] at gx;cases gx;refine⟨_,_,_,_,_,_,t,sm,hc_ext hs.ext ha,_,hs.rd 0 rfl (i:=1) rfl,?_⟩;refine (hr.ext hs.ext).nbI (by omega) (by omega) fun b2 o2 y' gy t2=>?_;replace gy:mv[k]?=some y':=gy;rw[hy] at gy;cases gy;refine⟨_,_,_,_,_,_,t2,?_⟩;refine (order82 x y h6).mono ?_;rintro _ h29 ⟨rfl,E⟩;exact⟨_,rfl,rfl,hs.ext.trans E⟩
end M
def Sort80:Prop:=∀(m:Mch) (sm:Sl) (a:Addr) (p:Int) {h0 h:Heap} {Ls:List It},St h0 h Ls->∀(i:Nat) {s:Sl} {l:List Nat},Ls[i]?=some (.sl s 43 2 (l.map (stC p)))->(∀x∈l,x<m.mv.length)->(l=[]->s.a=none)->m.mv.length<=1048576->l.length<=1048576 ->
 (∀h':Heap,h.size<=h'.size->(∀c,c<h.size->s.a.map (·.block)≠some c->h'[c]?=h[c]?)->hc h' ⟨a.block,a.off+4,none⟩=some (.slice sm.a sm.n sm.c)/\Rw h' 6 sm (m.mv.map Mv.cs)) ->
 Fn Pz 115 #[.slice s.a s.n s.c,.func (.func 116) #[] #[.pointer (some a)]] h fun v h'=>v=.tuple ⟨[]⟩/\∃l':List Nat,l'.Perm l/\l'.Pairwise (fun a b=>¬evLt (m.mv.getD b ⟨0,false,0,0,0,false⟩).ev (m.mv.getD a ⟨0,false,0,0,0,false⟩).ev)/\St h0 h' (Ls.set i (.sl s 43 2 (l'.map (stC p))))
end Go.VC
end
