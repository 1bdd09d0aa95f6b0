/- PjV PjW0 PjW PjX PjY PjZ PjRp PjMa PjMb PjMc PjMd PjMe PjNa PjNb PjNc PjNd PjNe PjRa PjRb PjRc PjRd PjRe0. -/
import Derived.Test.YtfdhgcladnbdeaaGreatDoorDM06
set_option linter.all false
set_option maxRecDepth 100000
set_option maxHeartbeats 8000000

section
namespace Go.VC
open Go.Proofs Go.LexS
theorem St.nestLn {α:Type} {h0 h:Heap} {A B:List It} {Q:List (Sl × List α)} {e:TypeId} {n:Nat} {cs:α->List Value} (hs:St h0 h (A++Q.map (nest e n cs)++B)) {i:Nat} {q:Sl × List α} (hi:Q[i]?=some q) (hn:0<n):Rw h n q.1 (q.2.map cs):=by
 have hil:i<(Q.map (nest e n cs)).length:=by rw[Yc];exact (Ya.1 hi).1
 exact hs.rw (A.length+i) (rows:=q.2.map cs) (by rw[get_mid hil,Yd,hi];rfl) hn
theorem made31 (n:Nat):madeL Pz 31 n=(List.replicate n (⟨none,0,0⟩:Sl)).map slV:=by
 have e:zeroC Pz 31=[.slice none 0 0]:=by kernel_rfl
 unfold madeL;rw[e,List.map_replicate]
 induction n with
 | zero=>rfl
 | succ n ih=>rw[List.replicate_succ,List.replicate_succ,Yyu,ih];rfl
theorem list_set_self {α:Type} {L:List α} {k:Nat} {x:α} (h:L[k]?=some x):L.set k x=L:=by
 apply Yyr;intro m;by_cases hm:k=m
 .subst hm;rw[Yq (Ya.1 h).1,h]
 .rw[Yy hm]
def toV (t:To):Value:=.agg ⟨t.cs⟩
def natI (L:List Nat):List Int:=L.map fun c:Nat=>(c:Int)
theorem natI_snoc (L:List Nat) (c:Nat):natI (L++[c])=natI L++[(c:Int)]:=by unfold natI;rw[Ym];rfl
theorem natI_get {L:List Nat} {i:Nat} {d:Int} (h:(natI L)[i]?=some d):∃c:Nat,L[i]?=some c/\d=c:=by
 unfold natI at h;rw[Yd] at h;obtain⟨c,hc,rfl⟩:=Yya.1 h;exact⟨c,hc,rfl⟩
def mnA (xb lb msb sb ob gb nmb:Nat) (m:Mch) (sf sm sl sc q ofn omv oli:Sl) (C Q:List Nat) (NUM:List Int) (fin:List Bool) (mv:List Mv) (li:List To) (SM:List Nat) (MS:List Sl):List It:=
 [.blk xb [.int .i64 m.role,.int .i64 0,.int .i64 0,.slice ofn.a ofn.n ofn.c,.slice omv.a omv.n omv.c,.slice oli.a oli.n oli.c] 33,.sl q 3 1 ((natI Q).map inC),.blk nmb (NUM.map iv) 3,.mp lb ((limM m.li).map fun q=>(iv q.1,toV q.2)),.sl ofn 4 1 (fin.map bC),.sl omv 45 6 (mv.map Mv.cs),.sl oli 63 3 (li.map To.cs),
  .blk msb (MS.map slV) 31,.blk sb (SM.map natV) 3,.sl sc 3 1 ((natI C).map inC),.blk ob m0 33,.blk gb (mC m sf sm sl) 33]
theorem minimal36 (m:Mch) (sf sm sl:Sl) (h:Heap) (hM:MI h m sf sm sl) (hO:MOk m) (hS:m.mv.Pairwise mvLt) :
  Fn Pz 36 #[.agg ⟨mC m sf sm sl⟩] h fun v h'=>∃sf' sm' sl':Sl,v=.agg ⟨mC (minF m) sf' sm' sl'⟩/\St h h' (mL (minF m) sf' sm' sl'):=by
 apply vc36 m.role m.n m.s sf sm sl;unfold W36;have hs:=St.refl h;have hn:=hO.n;have hms:=hO.s;have hml:=hO.ml;have hll:=hO.ll;have hfl:=hO.fl;have hMl:=hM.pl.ln;have hMf:=hM.pf.ln;have hMm:=hM.pm.ln;have hCs:=cls_ok hO;have hmin:minF m=minN m (cls m).1 202 0 [(cls m).1.getD m.s.toNat 0] [] [] []:=rfl;refine hs.newb fun h7 hs=>?_;refine hs.newb fun h8 hs=>?_;refine⟨_,_,_,sf,sm,sl,hs.at 1 rfl (n:=6) rfl,?_⟩;refine (classes71 m sf sm sl h8 (hM.ext hs.ext) hO hS).mono ?_;rintro _ h18 ⟨sc,rfl,hsc⟩;have hs:=(hs.join hsc).perm (List.perm_append_comm (l₁:=[_,_]) (l₂:=[_]));generalize hC:(cls m).1=C at *;generalize hcnt:(cls m).2=cnt at *;obtain⟨hCl,hCb,hcc,hCsu⟩:=hCs;refine⟨sc,_,rfl,by omega,?_⟩;rw[made3n];refine hs.newb fun h19 hs=>?_;refine⟨_,hs.rd 3 rfl rfl,?_⟩;have hscn:=(hs.rows 1 (s:=sc) (cs:=inC) rfl (by omega)).ln;rw[Yc] at hscn;rw[w64 (n:=m.n-1) (by omega) (by omega)];refine⟨fun x h' μ=>∃(i:Nat) (SM:List Nat),x=(i:Int)-1/\μ=i/\i<=m.n.toNat/\SM.length=cnt/\(∀c,c<cnt->c∈C.drop i->SM[c]?=some (i+idxF (C.drop i) c))/\St h h' [.blk h18.size (SM.map natV) 3,.sl sc 3 1 ((natI C).map inC),.blk h7.size m0 33,.blk h.size (mC m sf sm sl) 33],
  ⟨_,m.n.toNat,_,by omega,rfl,by omega,by rw[Yg];omega,fun c _ hc=>(by rw[List.drop_eq_nil_of_le (by omega)] at hc;cases hc),hs⟩,?_⟩
 clear hs;rintro-_ h25 i ⟨_,SM,rfl,rfl,hi,hSMl,hSM,hs⟩;refine sBi (fun c1=>?_) (fun c1=>?_)
 .obtain⟨i,rfl⟩:∃i',i=i'+1:=⟨i-1,by omega⟩;rw[show (((i+1:Nat):Int)-1)=(i:Int) by omega];refine (hs.rows 1 (s:=sc) (cs:=inC) rfl (by omega)).nbI (by omega) (by omega) fun b26 o27 d26 g26 t26=>?_;rw[Ys] at g26;obtain⟨c,gc,rfl⟩:=natI_get g26;have hcb:=hCb c (Yb gc);refine⟨_,t26.hd,⟨by omega,by omega⟩,?_⟩;rw[show 0+Int.toNat (c:Int)*1=c by omega];refine hs.put 0 rfl (o:=c) (vs:=[natV i]) rfl (by rw[Yc,Yv];omega) fun h29 hs=>?_;rw[map_splice natV (by omega)] at hs;refine⟨_,by omega,i,_,by rw[w64 (by omega) (by omega)],rfl,by omega,by rw[Yyh];exact hSMl,fun c' hc' hm=>?_,hs⟩;rw[drop_get gc] at hm ⊢;rw[idxF];by_cases e:c=c'
  .subst e;rw[if_pos rfl,Yq (by omega)];rfl
  .rw[if_neg e,Yy e];rcases Yr.1 hm with hm | hm
   .exact absurd hm.symm e
   .rw[hSM c' hc' hm];congr 1;omega
 have hi0:i=0:=by omega
 subst hi0;have hSM':∀c,c<cnt->SM[c]?=some (idxF C c):=fun c hc=>by
  have:=hSM c hc (by rw[List.drop_zero];exact hCsu c hc)
  rwa [List.drop_zero,Nat.zero_add] at this
 clear hSM c1 hi;refine⟨_,hs.rd 3 rfl rfl,by omega,?_⟩;rw[made31];refine hs.newb fun h32 hs=>?_;have hs:=hs.nests (α:=Mv) (e:=45) (k:=6) (cs:=Mv.cs) (A:=[_,_,_,_,_]) (B:=[]) m.n.toNat;refine⟨sm,hs.rd 4 rfl rfl,?_⟩;refine⟨fun x h' μ=>∃(j:Nat) (MS:List (Sl × List Mv)),x=(j:Int)/\μ=m.mv.length-j/\j<=m.mv.length/\MS.map Prod.snd=((List.range m.n.toNat).map fun s:Nat=>(m.mv.take j).filter (fun y=>y.f=(s:Int))) /\
  St h h' ([.blk h25.size ((MS.map Prod.fst).map slV) 31,.blk h18.size (SM.map natV) 3,.sl sc 3 1 ((natI C).map inC),.blk h7.size m0 33,.blk h.size (mC m sf sm sl) 33]++MS.map (nest 45 6 Mv.cs)++[]),
  ⟨_,0,List.replicate m.n.toNat ((⟨.none,0,0⟩,[]):Sl × List Mv),rfl,rfl,by omega,?_,?_⟩,?_⟩
 rotate_left 2
 .clear hs;rintro-_ h38 μ ⟨j,MS,rfl,rfl,hj,hMS,hs⟩;have hMSl:MS.length=m.n.toNat:=by have:=congrArg List.length hMS;simpa using this
  refine sBi (fun c1=>?_) (fun c1=>?_)
  .refine (hM.pm.ext hs.ext).rw.nbI (by omega) (by omega) fun b39 o40 x g39 t39=>?_;replace g39:m.mv[j]?=some x:=g39;obtain⟨hx1,hx2,_,_,_,_⟩:=hO.mv x (Yb g39);obtain⟨q,hq⟩:=get_some (l:=MS) (i:=x.f.toNat) (by omega);refine⟨_,_,_,_,_,_,t39,?_⟩;refine hs.newput (vs:=x.cs) rfl rfl fun h48 hs=>?_;refine⟨_,hs.rd 0 rfl rfl,_,hs.rd 0 rfl rfl,⟨by omega,by omega⟩,?_⟩;rw[show 0+Int.toNat x.f*1=x.f.toNat by omega];refine⟨q.1,hs.rd 1 rfl (by rw[Yd,Yd,hq];rfl),?_⟩;refine⟨_,_,_,_,_,_,hs.at 0 rfl (n:=6) rfl,?_⟩;refine hs.newbE fun h58 E58 hs=>⟨E58.sm,?_⟩;have hs:St h h58 ((.blk h48.size x.cs 45 :: .blk h38.size x.cs 45::[.blk h25.size ((MS.map Prod.fst).map slV) 31,.blk h18.size (SM.map natV) 3,.sl sc 3 1 ((natI C).map inC),.blk h7.size m0 33,.blk h.size (mC m sf sm sl) 33])++MS.map (nest 45 6 Mv.cs)++[]):=hs;have hqn:=(hs.nestLn hq (by omega)).ln;have hq2:q.2=(m.mv.take j).filter (fun y=>y.f=((x.f.toNat:Nat):Int)):=by
    have:=congrArg (·[x.f.toNat]?) hMS;simp only[Yd,hq,Yyb (show x.f.toNat<m.n.toNat by omega),Option.map_some,Option.some.injEq] at this;exact this
   have hql:q.2.length<=400:=by rw[hq2];refine Yys (List.length_filter_le _ _) ?_;rw[Yu];omega
   refine hs.nestAt hq app31 x (hs.at 0 rfl (n:=6) rfl) rfl rfl (by omega) (by simp only[maxLen];omega) fun r h60 hr hs3=>?_;refine⟨sm_cons (hs.same hs3 1 1 rfl rfl) sm_nil,⟨by omega,by omega⟩,?_⟩;refine hs3.put 2 rfl (o:=x.f.toNat) (vs:=[slV r]) rfl (by rw[Yc,Yc,Yv];omega) fun h61 hs=>?_;rw[map_splice slV (by rw[Yc];omega)] at hs;refine⟨_,by omega,j+1,MS.set x.f.toNat (r,q.2++[x]),by rw[w64 (by omega) (by omega)];omega,rfl,by omega,?_,?_⟩
   .apply Yyr;intro s;rw[Yd,Yd];by_cases hsn:s<m.n.toNat
    .rw[Yyb hsn];have h1:=congrArg (·[s]?) hMS;simp only[Yd,Yyb hsn,Option.map_some] at h1;by_cases e:x.f.toNat=s
     .subst e;rw[Yq (by omega),Option.map_some,Option.map_some,outM_snoc g39,if_pos (by omega),hq2]
     .rw[Yy e,h1,Option.map_some,outM_snoc g39,if_neg (by omega)]
    .rw[Yl (by rw[Yyh];omega),Yl (by rw[Yyd];omega)];rfl
   .rw[List.map_set];exact hs.drop 2
  have hjn:j=m.mv.length:=by omega
  subst hjn;rw[Yye] at hMS;rw[Yw] at hs;have hMSl:MS.length=m.n.toNat:=by have:=congrArg List.length hMS;simpa using this
  have hMSg:∀s:Nat,s<m.n.toNat->∃q:Sl,MS[s]?=some (q,outM m s):=fun s hsn=>by
   obtain⟨q,hq⟩:=get_some (l:=MS) (i:=s) (by omega);have:=congrArg (·[s]?) hMS;simp only[Yd,hq,Yyb hsn,Option.map_some,Option.some.injEq] at this;exact⟨q.1,by rw[hq];congr 1;exact Prod.ext rfl this⟩
  clear hMS;refine hs.mmake 140 fun h65 E65 hs=>?_;refine⟨_,rfl,sl,hs.rd 5 rfl rfl,?_⟩;refine⟨fun x h' μ=>∃j:Nat,x=(j:Int)/\μ=m.li.length-j/\j<=m.li.length/\St h h' (.mp h38.size ((limM (m.li.take j)).map fun q=>(iv q.1,toV q.2))::[.blk h25.size ((MS.map Prod.fst).map slV) 31,.blk h18.size (SM.map natV) 3,.sl sc 3 1 ((natI C).map inC),.blk h7.size m0 33,.blk h.size (mC m sf sm sl) 33]++MS.map (nest 45 6 Mv.cs)),⟨_,0,rfl,rfl,by omega,hs⟩,?_⟩;clear hs;rintro-_ h71 μ ⟨j,rfl,rfl,hj,hs⟩;refine sBi (fun c2=>?_) (fun c2=>?_)
  .refine (hM.pl.ext hs.ext).rw.nbI (by omega) (by omega) fun b72 o73 t g72 t72=>?_;replace g72:m.li[j]?=some t:=g72;obtain⟨ht1,ht2,ht3,ht4,ht5⟩:=hO.li t (Yb g72);refine⟨_,_,_,t72,?_⟩;refine hs.newput (vs:=t.cs) rfl rfl fun h78 hs=>?_;refine⟨_,hs.rd 0 rfl rfl,_,_,_,hs.at 0 rfl (n:=3) rfl,?_⟩;have hlr:∀q∈limM (m.li.take j),inR q.1:=fun q hq=>by
    obtain⟨h1,h2⟩:=limM_mem hq;have:=hO.li _ (List.mem_of_mem_take h1);rw[<-h2];exact inRn (by omega) (by omega)
   refine hs.mput (ck:=iv) (cv:=toV) M140 1 rfl hlr (limM_nd _) (a:=t.s) (inRn (by omega) (by omega)) t fun h83 hs=>?_;rw[<-limM_snoc g72] at hs;exact⟨_,by omega,j+1,by rw[w64 (by omega) (by omega)];omega,rfl,by omega,hs.drop 1⟩
  have hjn:j=m.li.length:=by omega
  subst hjn;rw[Yye] at hs;refine⟨by omega,?_⟩;rw[<-made3n,made3i];refine hs.newb fun h85 hs=>?_;refine⟨fun x h' μ=>∃j:Nat,x=(j:Int)/\μ=cnt-j/\j<=cnt/\St h h' (.blk h71.size ((List.replicate j (-1)++List.replicate (cnt-j) 0).map iv) 3 :: .mp h38.size ((limM m.li).map fun q=>(iv q.1,toV q.2))::[.blk h25.size ((MS.map Prod.fst).map slV) 31,.blk h18.size (SM.map natV) 3,.sl sc 3 1 ((natI C).map inC),.blk h7.size m0 33,.blk h.size (mC m sf sm sl) 33]++MS.map (nest 45 6 Mv.cs)),⟨_,0,rfl,rfl,by omega,hs⟩,?_⟩;clear hs;rintro-_ h90 μ ⟨j,rfl,rfl,hj,hs⟩;refine sBi (fun c3=>?_) (fun c3=>?_)
  .refine⟨⟨by omega,by omega⟩,?_⟩;rw[show 0+Int.toNat (j:Int)*1=j by omega];refine hs.put 0 rfl (o:=j) (vs:=[iv (-1)]) rfl (by rw[Yc,Yh,Yg,Yg,Yv];omega) fun h91 hs=>?_;rw[map_splice iv (by rw[Yh,Yg,Yg];omega)] at hs;have e:(List.replicate j (-1:Int)++List.replicate (cnt-j) 0).set j (-1)=List.replicate (j+1) (-1)++List.replicate (cnt-(j+1)) 0:=by
    rw[List.set_append_right _ _ (by rw[Yg];omega),Yg,Nat.sub_self,show cnt-j=(cnt-(j+1))+1 by omega,List.replicate_succ,List.set_cons_zero,List.replicate_succ' (n:=j),Yz];rfl
   rw[e] at hs;exact⟨_,by omega,j+1,by rw[w64 (by omega) (by omega)];omega,rfl,by omega,hs⟩
  have hjn:j=cnt:=by omega
  subst hjn;rw[Nat.sub_self,List.replicate_zero,Yw] at hs;obtain⟨c0,hc0⟩:=get_some (l:=C) (i:=m.s.toNat) (by omega);have hc0b:=hCb c0 (Yb hc0);rw[getD_some hc0] at hmin;refine⟨_,hs.rd 6 rfl rfl,?_⟩;refine (hs.rows 4 (s:=sc) (cs:=inC) rfl (by omega)).nbI (by omega) (by omega) fun b94 o95 d94 g94 t94=>?_;obtain⟨c0',gc0,rfl⟩:=natI_get g94;rw[hc0] at gc0;cases gc0;refine⟨_,t94.hd,?_⟩;refine hs.newb fun h97 hs=>?_;refine⟨⟨by omega,by omega⟩,_,hs.rd 0 rfl rfl,⟨by omega,by omega⟩,?_⟩;rw[show 0+Int.toNat (c0:Int)*1=c0 by omega];refine hs.put 1 rfl (o:=c0) (vs:=[iv 0]) rfl (by rw[Yc,Yg,Yv];omega) fun h99 hs=>?_;rw[map_splice iv (by rw[Yg];omega)] at hs;have hs:=hs.blkS 1 1 ((natI [c0]).map inC) rfl (inrows _) rfl (by decide);refine⟨_,hs.rd 7 rfl rfl,?_⟩;refine hs.newput (vs:=[.int .i64 m.role,.int .i64 0,.int .i64 0,.slice none 0 0,.slice none 0 0,.slice none 0 0]) rfl rfl fun h102 hs=>?_;have hs:St h h102 (mnA h99.size h38.size h25.size h18.size h7.size h.size h71.size m sf sm sl sc ⟨some ⟨h90.size,0,none⟩,1,1⟩ ⟨none,0,0⟩ ⟨none,0,0⟩ ⟨none,0,0⟩ C [c0] ((List.replicate j (-1:Int)).set c0 0) [] [] [] SM (MS.map Prod.fst)++MS.map (nest 45 6 Mv.cs)):=
   (((hs.nil_ 63 3).nil_ 45 6).nil_ 4 1).perm (List.Perm.append_right _ (List.perm_append_comm (l₁:=[_,_,_]) (l₂:=[_,_,_,_])))
  have hq0:QOk [c0] j:=⟨by simp,fun c hc=>by rw[Ye] at hc;omega⟩;have hnq0:NumQ ((List.replicate j (-1:Int)).set c0 0) [c0] j:=by
   refine⟨by rw[Yyh,Yg],fun c hc=>?_⟩;by_cases e:c=c0
   .subst e;rw[Yq (by rw[Yg];exact hc),if_pos (by simp),idxF,if_pos rfl];rfl
   .rw[Yy (fun h=>e h.symm),if_neg (by simpa using e),List.getElem?_replicate,if_pos hc]
  generalize j=cnt at *;refine⟨fun q x h' μ=>∃(i:Nat) (ofn omv oli:Sl) (Q:List Nat) (NUM:List Int) (fin:List Bool) (mv:List Mv) (li:List To),x=(i:Int)/\μ=cnt-i/\i<=Q.length /\
   St h h' (mnA h99.size h38.size h25.size h18.size h7.size h.size h71.size m sf sm sl sc q ofn omv oli C Q NUM fin mv li SM (MS.map Prod.fst)++MS.map (nest 45 6 Mv.cs))/\QOk Q cnt/\NumQ NUM Q cnt/\mv.length<=i*400/\li.length<=i*400/\fin.length=i/\minF m=minN m C (202-i) i Q fin mv li,
   ⟨_,0,_,_,_,_,_,_,_,_,rfl,rfl,by omega,hs,hq0,hnq0,by decide,by decide,rfl,hmin⟩,?_⟩
  clear hs hq0 hnq0 hmin;rintro-q _ h108 μ ⟨i,ofn,omv,oli,Q,NUM,fin,mv,li,rfl,rfl,hi,hs,hQ,hNQ,hmvl,hlil,hfinl,hmin⟩;have hQl:=hQ.le;have hqn:=(hs.rows 1 (s:=q) (cs:=inC) rfl (by omega)).ln;rw[show (natI Q).length=Q.length from Yc _] at hqn;refine sBi (fun c4=>?_) (fun c4=>?_)
  .have hiQ:i<Q.length:=by omega
   obtain⟨c,hc⟩:=get_some (l:=Q) (i:=i) hiQ;have hcb:=hQ.lt c (Yb hc);have hcm:=hCsu c hcb;have hsl:idxF C c<m.n.toNat:=by have:=idxF_lt hcm;omega
   generalize hsr:idxF C c=s at *;obtain⟨bf,hbf⟩:=get_some (l:=m.fin) (i:=s) (by omega);obtain⟨ms,hms2⟩:=hMSg s hsl;rw[show 202-i=(202-(i+1))+1 by omega,minN,hc] at hmin;replace hmin:minF m=minN m C (202-(i+1)) (i+1) ((outM m (idxF C c)).foldl (minX m C i (mget (limM m.li) (idxF C c:Nat))) (Q,mv,li)).1 (fin++[m.fin.getD (idxF C c) false])
    ((outM m (idxF C c)).foldl (minX m C i (mget (limM m.li) (idxF C c:Nat))) (Q,mv,li)).2.1 ((outM m (idxF C c)).foldl (minX m C i (mget (limM m.li) (idxF C c:Nat))) (Q,mv,li)).2.2:=hmin
   rw[hsr,getD_some hbf] at hmin;have hout:(outM m s).length<=400:=Yys (List.length_filter_le _ _) hml;have houts:(outM m s).Pairwise mvLt:=hS.filter _;have houtm:∀x∈outM m s,x∈m.mv:=fun x hx=>(List.mem_filter.1 hx).1;generalize outM m s=OM at *;refine (hs.rows 1 (s:=q) (cs:=inC) rfl (by omega)).nbI (by omega) (by omega) fun b109 o110 d109 g109 t109=>?_;rw[Ys] at g109;obtain⟨c',gc',rfl⟩:=natI_get g109;rw[hc] at gc';cases gc';refine⟨_,t109.hd,⟨by omega,by omega⟩,?_⟩;rw[show 0+Int.toNat (c:Int)*1=c by omega];refine⟨_,hs.rd 8 rfl (by rw[Yd,hSM' c hcb,hsr];rfl),ofn,hs.rd 0 rfl rfl,sf,hs.rd 11 rfl rfl,?_⟩;have hofn:=(hs.rows 4 (s:=ofn) (cs:=bC) rfl (by omega)).ln;refine (hM.pf.ext hs.ext).rw.nbI (by omega) (by omega) fun b115 o116 bf' g115 t115=>?_;rw[Ys,hbf] at g115;cases g115;refine⟨_,t115.hd,?_⟩;refine hs.newbE fun h118 E118 hs=>⟨E118.sm,?_⟩;refine hs.appended 5 (rows:=fin.map bC) rfl app30 (m:=1) (news:=[bC bf]) (hs.at 0 rfl (n:=1) rfl) rfl (fun r hr=>by rw[Ye] at hr;rw[hr];rfl) rfl (by omega) (by simp only[maxLen];omega) fun s119 h120 n119 hs=>?_;refine hs.put 1 rfl (o:=3) (vs:=[.slice s119.a s119.n s119.c]) rfl (show 4<=6 by decide) fun h121 hs=>?_;have hs:St h h121 (mnA h99.size h38.size h25.size h18.size h7.size h.size h71.size m sf sm sl sc q s119 omv oli C Q NUM (fin++[bf]) mv li SM (MS.map Prod.fst)++MS.map (nest 45 6 Mv.cs)):=by
    unfold mnA;rw[Ym (l₁:=fin)];exact hs.drop 1
   refine⟨⟨by omega,by omega⟩,?_⟩;rw[show 0+Int.toNat (s:Int)*1=s by omega];refine⟨ms,hs.rd 7 rfl (by rw[Yd,Yd,hms2];rfl),?_⟩;have hk72:(mnA h99.size h38.size h25.size h18.size h7.size h.size h71.size m sf sm sl sc q s119 omv oli C Q NUM (fin++[bf]) mv li SM (MS.map Prod.fst)++MS.map (nest 45 6 Mv.cs))[12+s]?=some (.sl ms 45 6 (OM.map Mv.cs)):=by
    rw[Yyc (by show 12<=12+s;omega)];show (MS.map (nest 45 6 Mv.cs))[12+s-12]?=_;rw[show 12+s-12=s by omega,Yd,hms2];rfl
   refine (sort72 hs (12+s) hk72 (by omega)).mono ?_;rintro _ h124 ⟨rfl,l',hp,hso,hs⟩;have hle:=(mvSorted_same hp houts hso).symm;subst hle;rw[list_set_self hk72] at hs;refine⟨rfl,?_⟩;have hlr:∀q∈limM m.li,inR q.1:=fun q hq=>by
    obtain⟨h1,h2⟩:=limM_mem hq;have:=hO.li _ h1;rw[<-h2];exact inRn (by omega) (by omega)
   refine hs.mlookOk (ck:=iv) (cv:=toV) M140 3 rfl hlr (limM_nd _) (a:=(s:Int)) (inRn (by omega) (by omega)) ?_;generalize htl:mget (limM m.li) (s:Int)=tl at *;have htlm:∀t,tl=some t->t∈m.li:=fun t ht=>by subst ht;exact (limM_mem (mget_mem htl)).1
   have htup:tl.elim (.agg ⟨[.int .i64 0,.int .i64 0,.int .i64 0]⟩) toV=.agg ⟨(tl.getD ⟨0,0,0⟩).cs⟩:=by cases tl<;>rfl
   rw[htup];refine⟨_,_,_,_,rfl,?_⟩;generalize htt:tl.getD ⟨0,0,0⟩=tt at *;refine hs.newput (vs:=tt.cs) rfl rfl fun h132 hs=>?_;refine⟨⟨by omega,by omega⟩,?_⟩;refine⟨ms,hs.rd 8 rfl (by rw[Yd,Yd,hms2];rfl),?_⟩;refine⟨fun q x h' μ=>∃(j:Nat) (omv oli:Sl) (Q2:List Nat) (NUM2:List Int) (mv2:List Mv) (li2:List To),x=(j:Int)/\μ=OM.length-j/\j<=OM.length /\
    St h h' (.blk h124.size tt.cs 63::(mnA h99.size h38.size h25.size h18.size h7.size h.size h71.size m sf sm sl sc q s119 omv oli C Q2 NUM2 (fin++[bf]) mv2 li2 SM (MS.map Prod.fst)++MS.map (nest 45 6 Mv.cs)))/\QOk Q2 cnt/\NumQ NUM2 Q2 cnt/\mv2.length<=mv.length+j/\li2.length<=li.length+j/\Q.length<=Q2.length/\(OM.take j).foldl (minX m C i tl) (Q,mv,li)=(Q2,mv2,li2),
    ⟨_,0,omv,oli,Q,NUM,mv,li,rfl,rfl,by omega,hs,hQ,hNQ,by omega,by omega,by omega,rfl⟩,?_⟩
   clear hs hQ hNQ hqn hofn hQl c4;rintro-q2 _ h139 μ ⟨j,omv2,oli2,Q2,NUM2,mv2,li2,rfl,rfl,hj,hs,hQ,hNQ,hmv2,hli2,hQ2,hfold⟩;have hs':St h h139 ((.blk h124.size tt.cs 63::mnA h99.size h38.size h25.size h18.size h7.size h.size h71.size m sf sm sl sc q2 s119 omv2 oli2 C Q2 NUM2 (fin++[bf]) mv2 li2 SM (MS.map Prod.fst))++MS.map (nest 45 6 Mv.cs)++[]):=by rw[Yw];exact hs
   have hnl:Rw h139 6 ms (OM.map Mv.cs):=hs'.nestLn hms2 (by omega);clear hs';have hmsn:=hnl.ln;have hqn2:=(hs.rows 2 (s:=q2) (cs:=inC) rfl (by omega)).ln;rw[show (natI Q2).length=Q2.length from Yc _] at hqn2;have hQ2l:=hQ.le;refine sBi (fun c5=>?_) (fun c5=>?_)
   .refine hnl.nbI (by omega) (by omega) fun b140 o141 x g140 t140=>?_;replace g140:OM[j]?=some x:=g140;have hxm:=houtm x (Yb g140);obtain⟨hx1,hx2,hx3,hx4,_,_⟩:=hO.mv x hxm;have hmpos:0<m.mv.length:=List.length_pos_of_mem hxm;refine⟨_,_,_,_,_,_,t140,?_⟩;refine hs.newput (vs:=x.cs) rfl rfl fun h149 hs=>?_;refine⟨_,hs.rd 0 rfl rfl,?_⟩;refine (hs.rows 11 (s:=sc) (cs:=inC) rfl (by omega)).nbI (by omega) (by omega) fun b151 o152 d151 g151 t151=>?_;obtain⟨cx,gcx,rfl⟩:=natI_get g151;have hcxb:=hCb cx (Yb gcx);have hcxg:C.getD x.t.toNat 0=cx:=getD_some gcx;refine⟨_,t151.hd,?_⟩;refine⟨fun q' h'=>∃NUM3,St h h' (.blk h139.size x.cs 45 :: .blk h124.size tt.cs 63::(mnA h99.size h38.size h25.size h18.size h7.size h.size h71.size m sf sm sl sc q' s119 omv2 oli2 C (addQ Q2 cx) NUM3 (fin++[bf]) mv2 li2 SM (MS.map Prod.fst)++MS.map (nest 45 6 Mv.cs)))/\NumQ NUM3 (addQ Q2 cx) cnt,?_,?_⟩
    .have hnc:=hNQ.2 cx hcxb;refine⟨⟨by omega,by omega⟩,?_⟩;rw[show 0+Int.toNat (cx:Int)*1=cx by omega];refine⟨_,hs.rd 4 rfl (by rw[Yd,hnc];rfl),?_⟩;by_cases hm:cx∈Q2
     .rw[if_pos hm];refine sB_f (decide_eq_false (by omega)) ?_;have ea:addQ Q2 cx=Q2:=by unfold addQ;rw[if_pos hm]
      rw[ea];exact⟨NUM2,hs,hNQ⟩
     .rw[if_neg hm];refine sB_t (decide_eq_true (by decide)) ?_;have ea:addQ Q2 cx=Q2++[cx]:=by unfold addQ;rw[if_neg hm]
      refine⟨⟨by omega,by omega⟩,?_⟩;refine hs.put 4 rfl (o:=cx) (vs:=[iv (q2.n:Nat)]) rfl (by rw[Yc,Yv,hNQ.1];omega) fun h156 hs=>?_;rw[map_splice iv (by rw[hNQ.1];omega),hqn2] at hs;refine hs.app 3 rfl app42 (m:=1) [[.int .i64 cx]] rfl rfl (by simp) rfl (by omega) (by simp only[maxLen];omega) fun s158 h159 n158 hs=>?_;rw[ea];refine⟨_,?_,hNQ.add hcxb hm⟩;unfold mnA;rw[natI_snoc,Ym (l₁:=natI Q2)];exact hs
    .rintro-q3 h161 ⟨NUM3,hs,hNQ3⟩;refine⟨sm,hs.rd 13 rfl rfl,_,hs.rd 1 rfl rfl,?_⟩;have hye:0<=imax tt.e 0/\imax tt.e 0<m.mv.length/\∀t,tl=some t->imax tt.e 0=t.e:=by
      rw[imax_max];cases tl with
      | none=>subst htt;exact⟨by show (0:Int)<=max 0 0;omega,by show max (0:Int) 0<_;omega,fun t ht=>by cases ht⟩
      | some t=>
       subst htt;obtain⟨_,_,h3,h4,_⟩:=hO.li t (htlm t rfl);exact⟨by show (0:Int)<=max t.e 0;omega,by show max t.e 0<_;omega,fun t' ht=>by cases ht;show max t.e 0=t.e;omega⟩
     refine (hM.pm.ext hs.ext).rw.nbI hye.1 (by omega) fun b164 o165 y g164 t164=>?_;have hyt:∀t,tl=some t->m.mv[t.e.toNat]?=some y:=fun t ht=>by rw[<-hye.2.2 t ht];exact g164
     refine⟨_,_,_,_,_,_,t164,?_⟩;refine hs.newput (vs:=y.cs) rfl rfl fun h173 hs=>?_;have homv:=(hs.rows 8 (s:=omv2) (cs:=Mv.cs) rfl (by omega)).ln;have holi:=(hs.rows 9 (s:=oli2) (cs:=To.cs) rfl (by omega)).ln;have hno:(tl=none\/x.ev≠y.ev)->(minX m C i tl (Q2,mv2,li2) x).2.2=li2:=by
      intro h;unfold minX;cases tl with
      | none=>exact Yw _
      | some t=>
       show li2++(match m.mv[t.e.toNat]? with | some y=>if x.ev=y.ev then [⟨(i:Nat),t.k,(mv2.length:Nat)⟩] else [] | none=>[])=li2;rw[hyt t rfl];rcases h with h | h
       .cases h
       .show li2++(if x.ev=y.ev then _ else _)=li2;rw[if_neg h,Yw]
     have hyes:∀t,tl=some t->x.ev=y.ev->(minX m C i tl (Q2,mv2,li2) x).2.2=li2++[⟨(i:Nat),t.k,(mv2.length:Nat)⟩]:=by
      intro t ht h;unfold minX;subst ht;show li2++(match m.mv[t.e.toNat]? with | some y=>if x.ev=y.ev then [⟨(i:Nat),t.k,(mv2.length:Nat)⟩] else [] | none=>[])=_;rw[hyt t rfl];show li2++(if x.ev=y.ev then _ else _)=_;rw[if_pos h]
     have hminl:=minX_len m C i tl (Q2,mv2,li2) x;have hminq:(minX m C i tl (Q2,mv2,li2) x).1=addQ Q2 cx:=by unfold minX;rw[hcxg]
     have hminm:(minX m C i tl (Q2,mv2,li2) x).2.1=mv2++[⟨(i:Nat),x.send,x.peer,x.label,(idxF (addQ Q2 cx) cx:Nat),x.ag⟩]:=by unfold minX;rw[hcxg]
     generalize hLI:(minX m C i tl (Q2,mv2,li2) x).2.2=LI at *;refine⟨fun h'=>∃oli',St h h' (.blk h161.size y.cs 45 :: .blk h139.size x.cs 45 :: .blk h124.size tt.cs 63::(mnA h99.size h38.size h25.size h18.size h7.size h.size h71.size m sf sm sl sc q3 s119 omv2 oli' C (addQ Q2 cx) NUM3 (fin++[bf]) mv2 LI SM (MS.map Prod.fst)++MS.map (nest 45 6 Mv.cs))),?_,?_⟩
     .have hJ:LI=li2->∃oli',St h h173 (.blk h161.size y.cs 45 :: .blk h139.size x.cs 45 :: .blk h124.size tt.cs 63::(mnA h99.size h38.size h25.size h18.size h7.size h.size h71.size m sf sm sl sc q3 s119 omv2 oli' C (addQ Q2 cx) NUM3 (fin++[bf]) mv2 LI SM (MS.map Prod.fst)++MS.map (nest 45 6 Mv.cs))):=fun e=>by rw[e];exact⟨oli2,hs⟩
      refine sB_intro (fun c6=>?_) (fun c6=>?_)
      .obtain⟨t,ht⟩:=Option.isSome_iff_exists.1 c6;have hte:tt=t:=by rw[<-htt,ht];rfl
       refine⟨_,hs.rd 1 rfl rfl,_,hs.rd 0 rfl rfl,?_⟩;refine sB_intro (fun c7=>?_) (fun c7=>hJ (hno (.inr fun e=>by have e1:=congrArg Ev.send e;have e1:x.send=y.send:=e1;rw[e1] at c7;simp at c7)));refine⟨_,hs.rd 1 rfl rfl,_,hs.rd 0 rfl rfl,?_⟩;refine sBe (fun c8=>?_) (fun c8=>hJ (hno (.inr fun e=>c8 (congrArg Ev.peer e))));refine⟨_,hs.rd 1 rfl rfl,_,hs.rd 0 rfl rfl,?_⟩;refine sBe (fun c9=>?_) (fun c9=>hJ (hno (.inr fun e=>c9 (congrArg Ev.label e))));have hev:x.ev=y.ev:=ev_ext (show x.send=y.send by simpa using c7) c8 c9;refine⟨oli2,hs.rd 3 rfl rfl,_,hs.rd 2 rfl rfl,omv2,hs.rd 3 rfl rfl,?_⟩;refine hs.app 9 rfl app25 (m:=1) [To.cs ⟨(i:Nat),tt.k,(omv2.n:Nat)⟩] rfl rfl (fun r hr=>by rw[Ye] at hr;rw[hr];rfl) rfl (by omega) (by simp only[maxLen];omega) fun s185 h186 n185 hs=>?_;refine hs.put 3 rfl (o:=5) (vs:=[.slice s185.a s185.n s185.c]) rfl (show 6<=6 by decide) fun h187 hs=>?_;refine⟨s185,?_⟩;rw[hyes t ht hev];unfold mnA;rw[Ym (l₁:=li2),<-hte,<-homv];exact hs
      .have:tl=none:=by cases tl with
        | none=>rfl
        | some t=>cases c6
       exact hJ (hno (.inl this))
     .rintro-h188 ⟨oli',hs⟩;have hnc:=hNQ3.2 cx hcxb;rw[if_pos addQ_mem] at hnc;refine⟨⟨by omega,by omega⟩,?_⟩;rw[show 0+Int.toNat (cx:Int)*1=cx by omega];refine⟨_,hs.rd 5 rfl (by rw[Yd,hnc];rfl),?_⟩;refine hs.put 1 rfl (o:=0) (vs:=[.int .i64 (i:Nat)]) rfl (show 1<=6 by decide) fun h190 hs2=>?_;refine⟨sm_cons (hs.same hs2 5 5 rfl rfl) sm_nil,?_⟩;refine hs2.put 1 rfl (o:=4) (vs:=[.int .i64 (idxF (addQ Q2 cx) cx:Nat)]) rfl (show 5<=6 by decide) fun h191 hs=>?_;refine⟨omv2,hs.rd 3 rfl rfl,_,_,_,_,_,_,hs.at 1 rfl (n:=6) rfl,?_⟩;refine hs.app 8 rfl app31 (m:=1) [Mv.cs ⟨(i:Nat),x.send,x.peer,x.label,(idxF (addQ Q2 cx) cx:Nat),x.ag⟩] rfl rfl (fun r hr=>by rw[Ye] at hr;rw[hr];rfl) rfl (by omega) (by simp only[maxLen];omega) fun s200 h201 n200 hs=>?_;refine hs.put 3 rfl (o:=4) (vs:=[.slice s200.a s200.n s200.c]) rfl (show 5<=6 by decide) fun h202 hs=>?_;have hlm:(mv2++[(⟨(i:Nat),x.send,x.peer,x.label,(idxF (addQ Q2 cx) cx:Nat),x.ag⟩:Mv)]).length=mv2.length+1:=by simp
      refine⟨_,by omega,j+1,s200,oli',addQ Q2 cx,NUM3,mv2++[⟨(i:Nat),x.send,x.peer,x.label,(idxF (addQ Q2 cx) cx:Nat),x.ag⟩],LI,by rw[w64 (by omega) (by omega)];omega,rfl,by omega,?_,hQ.add hcxb,hNQ3,by omega,by have:=hminl.2;simp only at this;omega,Yys hQ2 addQ_len,?_⟩
      .unfold mnA;rw[Ym (l₁:=mv2)];exact hs.drop 2
      .rw[foldl_snoc g140,hfold];exact Prod.ext hminq (Prod.ext hminm hLI)
   .have hjn:j=OM.length:=by omega
    subst hjn;rw[Yye] at hfold;rw[hfold] at hmin;exact⟨_,by omega,i+1,s119,omv2,oli2,Q2,NUM2,fin++[bf],mv2,li2,by rw[w64 (by omega) (by omega)];omega,rfl,by omega,hs.drop 1,hQ,hNQ,by omega,by omega,by rw[Yh,hfinl];rfl,hmin⟩
  .have hiQ:i=Q.length:=by omega
   rw[show 202-i=(202-(i+1))+1 by omega,minN,Yl (by omega)] at hmin;replace hmin:minF m=⟨m.role,(Q.length:Nat),0,fin,mv,li⟩:=hmin;refine hs.put 0 rfl (o:=1) (vs:=[.int .i64 (q.n:Nat)]) rfl (show 2<=6 by decide) fun h205 hs=>?_;refine⟨_,_,_,ofn,omv,oli,hs.at 0 rfl (n:=6) rfl,?_⟩;refine hs.put 10 rfl (o:=0) (vs:=[.int .i64 m.role,.int .i64 (q.n:Nat),.int .i64 0,.slice ofn.a ofn.n ofn.c,.slice omv.a omv.n omv.c,.slice oli.a oli.n oli.c]) rfl (show 6<=6 by decide) fun h212 hs=>?_;refine⟨_,_,_,ofn,omv,oli,hs.at 10 rfl (n:=6) rfl,?_⟩;refine⟨ofn,omv,oli,?_,?_⟩
   .rw[hmin,hqn];rfl
   .rw[hmin];exact (hs.drop 4).sub (List.sublist_append_left [_,_,_] _)
 .rw[List.map_replicate];apply Yyr;intro s;rw[Yd,List.getElem?_replicate];by_cases hsn:s<m.n.toNat
  .rw[if_pos hsn,Yyb hsn];rfl
  .rw[if_neg hsn,Yl (by rw[Yyd];omega)];rfl
 .rw[List.map_replicate (f:=Prod.fst)];exact hs
end Go.VC
end

section
namespace Go.VC
open Go.LexS
def evOk (g:Gl) (x:Ev):Prop:=0<=x.peer/\x.peer<g.rs.length/\0<=x.label/\x.label<g.ds.length
theorem vis_ok {g:Gl} {role:Int} (hV:ValidS g) {e:Ed} (he:e∈g.es) {x:Ev} (hx:vis1 role e=some x):evOk g x:=by
 have:=hV.num.e e he;unfold EdS at this;unfold vis1 at hx;unfold evOk;split at hx
 .cases hx;simp only;omega
 .split at hx
  .cases hx;simp only;omega
  .cases hx
theorem evs_mem_ok {g:Gl} {role:Int} {p:PSet} (hV:ValidS g) {x:Ev} (hx:x∈evs g.es role p):evOk g x:=by
 unfold evs at hx;rw[sortE_mem] at hx;unfold evL at hx;obtain⟨n,_,h1⟩:=List.mem_flatMap.1 hx;obtain⟨a,ha,rfl⟩:=Yp.1 h1;unfold visL at ha;obtain⟨e,he,h2⟩:=Yym.1 ha;split at h2
 .rw[Yya] at h2;obtain⟨y,hy,rfl⟩:=h2;exact vis_ok hV he hy
 .cases h2
structure VI (g:Gl) (S:List PSet) (M:List Mv) (i:Nat):Prop where
 so:M.Pairwise mvLt
 mv:∀x∈M,0<=x.f/\x.f<i/\0<=x.t/\x.t<S.length/\evOk g x.ev
theorem rowI_le (S:List PSet) (p:PSet):rowI S p<(rowS S p).length:=by
 unfold rowS;split
 .rename_i h;exact rowI_lt.2 h
 .rename_i h;rw[rowI_of_not h,Yh];simp
theorem arcsF_vi {g:Gl} {role:Int} {i:Nat} {p:PSet}:∀(l:List Ev) (S:List PSet) (M:List Mv),l.Pairwise evLt->(∀x∈l,evOk g x)->M.Pairwise mvLt->(∀x∈M,0<=x.f/\(x.f<i\/(x.f=i/\∀y∈l,evLt x.ev y))/\0<=x.t/\x.t<S.length/\evOk g x.ev) ->
  VI g (arcsF g.es role i p l S M).1 (arcsF g.es role i p l S M).2 (i+1)/\S.length<=(arcsF g.es role i p l S M).1.length
 | [],S,M,_,_,hM,hm=>⟨⟨hM,fun x hx=>by obtain⟨h1,h2,h3,h4,h5⟩:=hm x hx;exact⟨h1,by rcases h2 with h2 | h2;omega;(have:=h2.1;omega),h3,h4,h5⟩⟩,Yyt _⟩
 | x::r,S,M,hl,hok,hM,hm=>by
  rw[arcsF];rw[List.pairwise_cons] at hl;have hlen:=rowS_len (S:=S) (p:=clo g.es role (toL g.es role p x));have hri:=rowI_le S (clo g.es role (toL g.es role p x));have ih:=arcsF_vi (g:=g) (role:=role) (i:=i) (p:=p) r (rowS S (clo g.es role (toL g.es role p x))) (M++[⟨i,x.send,x.peer,x.label,rowI S (clo g.es role (toL g.es role p x)),false⟩]) hl.2 (fun y hy=>hok y (Yn _ hy)) ?_ ?_
  .exact⟨ih.1,Yys hlen.2 ih.2⟩
  .rw[List.pairwise_append];refine⟨hM,List.pairwise_singleton _ _,fun a ha b hb=>?_⟩;rw[Ye] at hb;subst hb;obtain⟨_,h2,_⟩:=hm a ha;rcases h2 with h2 | ⟨h2,h3⟩
   .exact .inl h2
   .exact .inr ⟨h2,h3 x (Yx ..)⟩
  .intro y hy;rcases Yk.1 hy with hy | hy
   .obtain⟨h1,h2,h3,h4,h5⟩:=hm y hy;refine⟨h1,?_,h3,by omega,h5⟩;rcases h2 with h2 | ⟨h2,h6⟩
    .exact .inl h2
    .exact .inr ⟨h2,fun z hz=>h6 z (Yn _ hz)⟩
   .rw[Ye] at hy;subst hy;exact⟨by simp only;omega,.inr ⟨rfl,fun z hz=>hl.1 z hz⟩,by simp only;omega,by simp only;omega,hok x (Yx ..)⟩
theorem viewsF_vi {g:Gl} {role:Int} (hV:ValidS g):∀(f i:Nat) (S:List PSet) (M:List Mv) {S':List PSet} {M':List Mv},VI g S M i->i<=S.length->S.length<=200->viewsF g.es role f i S M=some (S',M')->VI g S' M' S'.length/\S'.length<=200/\S.length<=S'.length
 | 0,_,_,_,_,_,_,_,_,h=>by cases h
 | f+1,i,S,M,S',M',hv,hi,hS,h=>by
  rw[viewsF] at h;cases hg:S[i]? with
  | none=>
   rw[hg] at h;cases h;have:i=S.length:=by have:=List.getElem?_eq_none_iff.1 hg;omega
   subst this;exact⟨hv,hS,Yyt _⟩
  | some p=>
   rw[hg] at h;replace h:(if (arcsF g.es role i p (evs g.es role p) S M).1.length>200 then none else viewsF g.es role f (i+1) (arcsF g.es role i p (evs g.es role p) S M).1 (arcsF g.es role i p (evs g.es role p) S M).2)=some (S',M'):=h;have hil:=(Ya.1 hg).1;obtain⟨h1,h2⟩:=arcsF_vi (g:=g) (role:=role) (i:=i) (p:=p) (evs g.es role p) S M (sortE_sorted _) (fun x hx=>evs_mem_ok hV hx) hv.so (fun x hx=>by obtain⟨a,b,c,d,e⟩:=hv.mv x hx;exact⟨a,.inl b,c,d,e⟩);split at h
   .cases h
   .rename_i h3;have:=viewsF_vi hV f (i+1) _ _ h1 (by omega) (by omega) h;exact⟨this.1,this.2.1,Yys h2 this.2.2⟩
theorem views_vi {g:Gl} {role:Int} (hV:ValidS g) {S:List PSet} {M:List Mv} (h:views g role=some (S,M)):VI g S M S.length/\S.length<=200/\1<=S.length:=by
 unfold views at h;exact viewsF_vi hV 202 0 _ [] ⟨List.Pairwise.nil,fun x hx=>by cases hx⟩ (by simp) (by simp) h
theorem own_k {g:Gl} (hT:TimS g) (role:Int):∀t∈ownT g.es g.ts role g.n.toNat,0<=t.k/\t.k<=1000:=by
 have upd:∀(T:List Ti) (n:Nat) (f:Ti->Ti),(∀t∈T,0<=t.k/\t.k<=1000)->(∀t∈T,0<=(f t).k/\(f t).k<=1000)->∀t∈updT T n f,0<=t.k/\t.k<=1000:=by
  intro T n f h1 h2 t ht;unfold updT at ht;split at ht
  .rename_i t0 h0;rcases List.mem_or_eq_of_mem_set ht with h | rfl
   .exact h1 t h
   .exact h2 t0 (Yb h0)
  .exact h1 t ht
 have h0:∀t∈(ownE g.es role g.n.toNat).2,0<=t.k/\t.k<=1000:=by
  unfold ownE
  suffices h:∀(l:List Ed) (s:List Bool × List Ti),(∀t∈s.2,0<=t.k/\t.k<=1000)->∀t∈(l.foldl (own1 role) s).2,0<=t.k/\t.k<=1000 from h _ _ fun t ht=>by rw[List.mem_replicate] at ht;rw[ht.2];exact⟨by decide,by decide⟩
  intro l
  induction l with
  | nil=>intro s h;exact h
  | cons a l ih=>
   intro s h;rw[List.foldl_cons];refine ih _ ?_;unfold own1;split
   .exact upd _ _ _ h fun t ht=>h t ht
   .exact h
 unfold ownT
 suffices h:∀(l:List To) (T:List Ti),(∀x∈l,x∈g.ts)->(∀t∈T,0<=t.k/\t.k<=1000)->∀t∈l.foldl (own2 g.es (ownE g.es role g.n.toNat).1) T,0<=t.k/\t.k<=1000 from h _ _ (fun x hx=>hx) h0
 intro l
 induction l with
 | nil=>intro T _ h;exact h
 | cons a l ih=>
  intro T hsub h;rw[List.foldl_cons];refine ih _ (fun x hx=>hsub x (Yn _ hx)) ?_;unfold own2;split
  .refine upd _ _ _ h fun t ht=>?_;obtain⟨i,hi⟩:=Yf.1 (hsub a (Yx ..));have:=(hT i a hi).k;exact⟨by show 0<=a.k;omega,this.2⟩
  .exact h
theorem viewV_k {F:Nat->List Ev} {en:Nat->Bool} {O:List Bool} {T:List Ti} {l:List Nat} {o:Ti} (hT:∀t∈T,0<=t.k/\t.k<=1000) (h:viewV F en O T l=some o):0<=o.k/\o.k<=1000:=by
 unfold viewV at h;rw[Yya] at h;obtain⟨q,hq,rfl⟩:=h
 suffices hh:∀(m:List Nat) (st:Option (Bool × Ti)),(∀q,st=some q->0<=q.2.k/\q.2.k<=1000)->∀q,m.foldl (stepV F en O T l) st=some q->0<=q.2.k/\q.2.k<=1000 from hh l _ (fun q hq=>by cases hq;exact⟨by decide,by decide⟩) q hq
 intro m
 induction m with
 | nil=>intro st h q hq;exact h q hq
 | cons a m ih=>
  intro st h q hq;rw[List.foldl_cons] at hq;refine ih _ ?_ q hq;intro q' hq';unfold stepV at hq';split at hq'
  .cases hq'
  .split at hq'
   .cases hq'
   .split at hq'
    .rename_i t ht;split at hq'
     .cases hq'
     .cases hq';exact hT _ (Yb (by assumption))
    .cases hq';exact h _ rfl
theorem rawL_ok {g:Gl} {vw:List Nat->Option Ti} (hk:∀l o,vw l=some o->0<=o.k/\o.k<=1000):∀(n:Nat) (S:List PSet) (M:List Mv) (L:List To) {M':List Mv} {L':List To} {tot:Nat},n+S.length=tot->M.Pairwise mvLt->(∀x∈M,0<=x.f/\x.f<tot/\0<=x.t/\x.t<tot/\evOk g x.ev)->L.length<=n*M.length ->
  (∀t∈L,0<=t.s/\t.s<tot/\0<=t.e/\t.e<M.length/\0<=t.k/\t.k<=1000)->rawL vw n S M L=some (M',L') ->
  M'.Pairwise mvLt/\(∀x∈M',0<=x.f/\x.f<tot/\0<=x.t/\x.t<tot/\evOk g x.ev)/\M'.length=M.length/\L'.length<=tot*M.length/\∀t∈L',0<=t.s/\t.s<tot/\0<=t.e/\t.e<M.length/\0<=t.k/\t.k<=1000
 | n,[],M,L,M',L',tot,ht,hM,hm,hL,hl,h=>by
  cases h;have:n=tot:=by simpa using ht
  subst this;exact⟨hM,hm,rfl,hL,hl⟩
 | n,p::S,M,L,M',L',tot,ht,hM,hm,hL,hl,h=>by
  rw[rawL] at h;cases hv:vw (elems p) with
  | none=>rw[hv] at h;cases h
  | some o=>
   rw[hv] at h;replace h:rawL vw (n+1) S (M.map (updR n o)) (L++limR n o M)=some (M',L'):=h;rw[Yyj] at ht;have hko:=hk _ _ hv;have hup:∀x,(updR n o x).f=x.f/\(updR n o x).ev=x.ev/\(updR n o x).t=x.t:=fun x=>by
    obtain⟨h1,h2,h3,h4,h5⟩:=updR_same n o x;exact⟨h1,by unfold Mv.ev;rw[h2,h3,h4],h5⟩
   have hlen:(M.map (updR n o)).length=M.length:=Yc _;have:=rawL_ok (g:=g) hk (n+1) S (M.map (updR n o)) (L++limR n o M) (tot:=tot) (by omega) ?_ ?_ ?_ ?_ h
   .rw[hlen] at this;exact this
   .rw[List.pairwise_map];refine hM.imp fun {a b} hab=>?_;unfold mvLt at hab ⊢;rw[(hup a).1,(hup b).1,(hup a).2.1,(hup b).2.1];exact hab
   .intro x hx;obtain⟨y,hy,rfl⟩:=Yp.1 hx;rw[(hup y).1,(hup y).2.1,(hup y).2.2];exact hm y hy
   .rw[hlen,Yh,Nat.succ_mul];have:=limR_len n o M;omega
   .rw[hlen];intro t htm;rcases Yk.1 htm with htm | htm
    .exact hl t htm
    .unfold limR at htm;obtain⟨q,hq,h2⟩:=Yym.1 htm;have hqi:=List.snd_lt_of_mem_zipIdx hq;unfold limC at h2;split at h2
     .cases h2;simp only;omega
     .cases h2
theorem raw_ok {g:Gl} {role:Int} {m:Mch} (hr:g.rs.length<=1048576) (hd:g.ds.length<=1048576) (h:raw g role=(some m,0)):MOk m/\m.mv.Pairwise mvLt:=by
 unfold raw at h;split at h
 .cases h
 .rename_i hv;obtain⟨hV,hr0,hr1⟩:=Decidable.not_not.1 hv;cases hw:views g role with
  | none=>rw[hw] at h;cases h
  | some q=>
   obtain⟨S,M⟩:=q;rw[hw] at h;replace h:(if M.length>400 then ((none,6):Option Mch × Int) else
    match rawL (vwG g role) 0 S M [] with
    | none=>(none,18)
    | some (M',L)=>(some ⟨role,S.length,0,S.map (fun p=>p g.e.toNat),M',L⟩,0))=(some m,0):=h
   split at h
   .cases h
   .rename_i hM;cases hl:rawL (vwG g role) 0 S M [] with
    | none=>rw[hl] at h;cases h
    | some q=>
     obtain⟨M',L⟩:=q;rw[hl] at h;cases h;obtain⟨h1,h2,h3⟩:=views_vi hV hw;obtain⟨h4,h5,h6,h7,h8⟩:=rawL_ok (g:=g) (fun l o ho=>viewV_k (own_k hV.tim role) ho) 0 S M [] (tot:=S.length) (by omega) h1.so h1.mv (by simp) (fun t ht=>by cases ht) hl;refine⟨⟨by simp only;omega,by simp only;omega,?_,by simp only;omega,?_,fun x hx=>?_,fun t ht=>?_⟩,h4⟩
     .simp
     .have:S.length*M.length<=200*400:=Nat.mul_le_mul h2 (by omega);simp only;omega
     .obtain⟨a,b,c,d,e⟩:=h5 x hx;unfold evOk Mv.ev at e;simp only at *;omega
     .have:=h8 t ht;simp only at *;omega
end Go.VC
end

section
namespace Go.VC
open Go.Proofs Go.LexS
noncomputable def proj (g:Gl) (role:Int):Option Mch × Int:=match raw g role with
 | (some m,_)=>(some (minF m),0)
 | (none,e)=>(none,e)
theorem St.mi {h0 h:Heap} {L:List It} {m:Mch} {sf sm sl:Sl} (hs:St h0 h L) (k:Nat) (h1:L[k]?=some (.sl sf 4 1 (m.fin.map bC))) (h2:L[k+1]?=some (.sl sm 45 6 (m.mv.map Mv.cs))) (h3:L[k+2]?=some (.sl sl 63 3 (m.li.map To.cs)))
  (b1:m.fin.length<=1048576) (b2:m.mv.length<=1048576) (b3:m.li.length<=1048576):MI h m sf sm sl:=by
 have l1:=hs.len k h1 (by omega);have l2:=hs.len (k+1) h2 (by omega);have l3:=hs.len (k+2) h3 (by omega);exact⟨⟨hs.rows k h1 (by omega),l1.2.1,l1.2.2,b1⟩,⟨hs.rows (k+1) h2 (by omega),l2.2.1,l2.2.2,b2⟩,⟨hs.rows (k+2) h3 (by omega),l3.2.1,l3.2.2,b3⟩⟩
theorem project12 (g:Gl) (role:Int) (h:Heap) (hg:GI h g) (hx:Gx h) :
  Fn Pz 12 #[g.v,.int .i64 role] h fun v h'=>Ext h h'/\MaR (proj g role) h h' v:=by
 apply vc12 (bs g.nm) g.hr g.hd g.n g.s g.e g.he g.ht;unfold W12;have hs:=St.refl h;refine hs.newb fun h9 hs=>?_;refine hs.newb fun h10 hs=>?_;refine⟨_,_,_,_,_,_,_,_,hs.at 1 rfl (n:=8) rfl,?_⟩;refine (raw14 g role h10 (hg.ext hs.ext) (hx.ext hs.ext)).mono ?_;rintro _ h27 ⟨E27,hr⟩;cases hr with
 | @err e he h0=>
  replace hs:=hs.step E27;refine⟨0,0,0,⟨none,0,0⟩,⟨none,0,0⟩,⟨none,0,0⟩,e,rfl,?_⟩;refine hs.newput (vs:=m0) rfl rfl fun h29 hs=>?_;refine sBn (fun c1=>?_) (fun c1=>absurd c1 h0);refine hs.put 1 rfl (o:=0) (vs:=m0) rfl (by decide) fun h30 hs=>?_;refine⟨0,0,0,⟨none,0,0⟩,⟨none,0,0⟩,⟨none,0,0⟩,hs.at 1 rfl (n:=6) rfl,hs.ext,?_⟩;exact .err (by unfold proj;rw[he]) h0
 | @ok m sf sm sl he hm=>
  obtain⟨hO,hS⟩:=raw_ok hg.r.sm hg.d.r.sm he;replace hs:=hs.join hm;refine⟨m.role,m.n,m.s,sf,sm,sl,0,rfl,?_⟩;refine hs.newput (vs:=mC m sf sm sl) rfl rfl fun h29 hs=>?_;refine sBn (fun c1=>absurd rfl c1) (fun _=>?_);refine⟨_,_,_,sf,sm,sl,hs.at 0 rfl (n:=6) rfl,?_⟩;have hfl:=hO.fl;have hn:=hO.n;have hml:=hO.ml;have hll:=hO.ll;refine (minimal36 m sf sm sl h29 (hs.mi 3 rfl rfl rfl (by omega) (by omega) (by omega)) hO hS).mono ?_;rintro _ h50 ⟨sf',sm',sl',rfl,hs2⟩;replace hs:=hs.join hs2;refine⟨_,_,_,sf',sm',sl',rfl,?_⟩;refine hs.put 1 rfl (o:=0) (vs:=mC (minF m) sf' sm' sl') rfl (show 6<=6 by decide) fun h51 hs=>?_;refine⟨_,_,_,sf',sm',sl',hs.at 1 rfl (n:=6) rfl,hs.ext,?_⟩;exact .ok (m:=minF m) (by unfold proj;rw[he]) (hs.drop 6)
end Go.VC
end

section
namespace Go.VC
open Go.LexS
def fC (g:Gl) (role:Int) (k:Nat):List Ev:=((cloC g.es role g.n.toNat [(k:Int)]).map (evsC g.es role)).getD []
def enC (g:Gl) (role:Int) (k:Nat):Bool:=((cloC g.es role g.n.toNat [(k:Int)]).map fun L=>decide (g.e.toNat∈L)).getD false
def vwC (g:Gl) (role:Int):List Nat->Option Ti:=viewV (fC g role) (enC g role) (ownE g.es role g.n.toNat).1 (ownT g.es g.ts role g.n.toNat)
def rawC (g:Gl) (role:Int):Option (Option Mch × Int):=
 if !(List.range g.n.toNat).all (fun k=>(cloC g.es role g.n.toNat [(k:Int)]).isSome) then none else
 match cloC g.es role g.n.toNat [g.s] with
 | none=>none
 | some L0=>match viewsCF g.es role g.n.toNat 202 0 [L0] [] with
  | none=>none
  | some none=>some (none,6)
  | some (some (S,M))=>if M.length>400 then some (none,6) else
   match rawLC (vwC g role) 0 S M [] with
   | none=>some (none,18)
   | some (M',L')=>some (some ⟨role,S.length,0,S.map (fun L=>decide (g.e.toNat∈L)),M',L'⟩,0)
theorem rawC_ok {g:Gl} {role:Int} {r:Option Mch × Int} (hV:ValidS g) (h0:0<=role) (h1:role<g.rs.length) (h:rawC g role=some r):raw g role=r:=by
 have hN:=hV.num.n;have hn:g.n.toNat<=4096:=by omega
 have hes:∀x∈g.es,0<=x.f/\0<=x.t:=fun x hx=>by have:=hV.num.e x hx;unfold EdS at this;omega
 have hlt:∀(l:List Int),(∀v∈l,0<=v/\v<g.n)->∀j:Nat,clo g.es role l j=true->j<g.n.toNat:=fun l hl j hj=>by have:=clo_lt hV hl j hj;omega
 have hto:∀(L:List Nat) (x:Ev) (j:Nat),clo g.es role (toC g.es role L x) j=true->j<g.n.toNat:=by
  intro L x;refine hlt _ fun v hv=>?_;unfold toC at hv;obtain⟨k,_,h2⟩:=List.mem_flatMap.1 hv;obtain⟨a,ha,h3⟩:=Yym.1 h2;unfold visL at ha;obtain⟨e,he,h4⟩:=Yym.1 ha;have:=hV.num.e e he;unfold EdS at this;split at h4
  .rw[Yya] at h4;obtain⟨_,_,rfl⟩:=h4;split at h3
   .cases h3;show 0<=e.t/\e.t<g.n;omega
   .cases h3
  .cases h4
 unfold rawC at h;split at h
 .cases h
 rename_i hall;have hall:∀k,k<g.n.toNat->(cloC g.es role g.n.toNat [(k:Int)]).isSome=true:=by
  intro k hk;have:(List.range g.n.toNat).all (fun k=>(cloC g.es role g.n.toNat [(k:Int)]).isSome)=true:=by
   revert hall
   generalize (List.range g.n.toNat).all (fun k=>(cloC g.es role g.n.toNat [(k:Int)]).isSome)=b;cases b<;>simp
  exact List.all_eq_true.1 this k (List.mem_range.2 hk)
 have hfirst:∀k,k<g.n.toNat->firstE g role (k:Int)=fC g role k/\firstB g role (k:Int)=enC g role k:=by
  intro k hk;obtain⟨L,hL⟩:=Option.isSome_iff_exists.1 (hall k hk);obtain⟨h2,h3⟩:=cloC_ok hes (hlt [(k:Int)] fun v hv=>by rw[Ye] at hv;omega) hL;unfold firstE firstB fC enC;rw[hL,h3,evs_setOf h2 hn];exact⟨rfl,rfl⟩
 cases hc0:cloC g.es role g.n.toNat [g.s] with
 | none=>simp only[hc0] at h;cases h
 | some L0=>
  simp only[hc0] at h;obtain⟨h2,h3⟩:=cloC_ok hes (hlt [g.s] fun v hv=>by rw[Ye] at hv;omega) hc0;cases hv:viewsCF g.es role g.n.toNat 202 0 [L0] [] with
  | none=>simp only[hv] at h;cases h
  | some w=>
   simp only[hv] at h;obtain⟨h4,h5⟩:=viewsCF_ok hn hes hto 202 0 [L0] [] (fun s hs=>by rw[Ye] at hs;rw[hs];exact h2) hv;have h6:views g role=w.map fun q=>(q.1.map setOf,q.2):=by
    unfold views;rw[h3];exact h4
   unfold raw;rw[if_neg (by simpa using ⟨hV,h0,h1⟩),h6];cases w with
   | none=>simpa using h
   | some q=>
    obtain⟨S,M⟩:=q;have hS:=h5 (S,M) rfl;simp only[Option.map_some] at h ⊢;split at h
    .rename_i hM;rw[if_pos hM];simpa using h
    .rename_i hM;rw[if_neg hM];rw[rawLC_ok (vw:=vwG g role) (vw':=vwC g role) hn 0 S M [] fun s hs=>⟨hS s hs,viewV_congr (fun k hk=>(hfirst k ((hS s hs).lt k hk)).1) fun k hk=>(hfirst k ((hS s hs).lt k hk)).2⟩];cases hl:rawLC (vwC g role) 0 S M [] with
     | none=>simp only[hl] at h ⊢;simpa using h
     | some q=>
      obtain⟨M',L'⟩:=q;simp only[hl] at h ⊢;rw[<-Yyp h,Yc,List.map_map];rfl
end Go.VC
end

section
namespace Go.VC
open Go.Proofs Go.LexS
def exD (x:Nm):Dc:=⟨x,⟨none,0,0⟩,0,⟨none,0,0⟩,⟨none,0,0⟩,[],[],[]⟩
def exEs:Bool->List Ed
 | true=>[⟨0,0,1,0,1,false⟩,⟨0,0,1,1,2,false⟩,⟨1,1,2,0,3,false⟩,⟨2,1,2,1,4,false⟩,⟨3,2,1,2,5,false⟩,⟨4,2,1,3,5,false⟩]
 | false=>[⟨0,0,1,0,1,false⟩,⟨0,0,1,1,2,false⟩,⟨1,2,1,2,3,false⟩,⟨2,2,1,3,3,false⟩]
def exGl (b:Bool) (hr hd he ht:Sl):Gl:=⟨[101],hr,hd,if b then 6 else 4,0,if b then 5 else 3,he,ht,[[112],[113],[114]],[exD [97],exD [98],exD [99],exD [100]],exEs b,[]⟩
theorem edge70 (p0 p1 p2 p3 p4:Int) (h:Heap):Fn Pz 70 #[.int .i64 p0,.int .i64 p1,.int .i64 p2,.int .i64 p3,.int .i64 p4] h fun v h'=>v=.agg ⟨Ed.cs ⟨p0,p1,p2,p3,p4,false⟩⟩/\Ext h h':=by
 apply vc70;unfold W70;have hs:=St.refl h;refine hs.newput (vs:=Ed.cs ⟨p0,p1,p2,p3,p4,false⟩) rfl rfl fun h2 hs=>?_;exact⟨_,_,_,_,_,_,hs.at 0 rfl (n:=6) rfl,rfl,hs.ext⟩
theorem RL.none_ {α:Type} {h:Heap} {k:Nat} {cs:α->List Value}:RL h k ⟨none,0,0⟩ cs []:=⟨Rw.nil,Yyt _,fun _=>⟨rfl,rfl⟩,Nat.zero_le _⟩
theorem St.rl {α:Type} {h0 h:Heap} {L:List It} (hs:St h0 h L) (k:Nat) {s:Sl} {e:TypeId} {n:Nat} {cs:α->List Value} {l:List α} (hk:L[k]?=some (.sl s e n (l.map cs))) (hn:0<n) (hl:l.length<=1048576):RL h n s cs l:=by
 have:=hs.len k hk hn;exact⟨hs.rows k hk hn,this.2.1,this.2.2,hl⟩
theorem nmrows (L:List Nm):∀r∈L.map nmC,r.length=1:=fun r hr=>by obtain⟨x,_,rfl⟩:=Yp.1 hr;rfl
theorem dcrows (L:List Dc):∀r∈L.map Dc.cs,r.length=5:=fun r hr=>by obtain⟨x,_,rfl⟩:=Yp.1 hr;rfl
theorem edrows (L:List Ed):∀r∈L.map Ed.cs,r.length=6:=fun r hr=>by obtain⟨x,_,rfl⟩:=Yp.1 hr;rfl
theorem example34 (b:Bool) (h:Heap):Fn Pz 34 #[.bool b] h fun v h'=>Ext h h'/\∃hr hd he:Sl,v=(exGl b hr hd he ⟨none,0,0⟩).v/\GI h' (exGl b hr hd he ⟨none,0,0⟩):=by
 apply vc34;unfold W34 V34a;have hs:=St.refl h;refine hs.newb fun h1 hs=>?_;refine hs.newb fun h2 hs=>?_;have hs:=hs.blkS 3 1 ([[112],[113],[114]].map nmC) rfl (nmrows _) rfl (by decide);refine hs.newb fun h3 hs=>?_;have hs:=hs.blkS 4 5 ([exD [97],exD [98],exD [99],exD [100]].map Dc.cs) rfl (dcrows _) rfl (by decide);refine hs.newput (vs:=[.string (bs [101]),.slice (some ⟨h1.size,0,none⟩) 3 3,.slice (some ⟨h2.size,0,none⟩) 4 4,.int .i64 4,.int .i64 0,.int .i64 3,.slice none 0 0,.slice none 0 0]) rfl rfl fun h5 hs=>?_;refine (edge70 _ _ _ _ _ _).mono ?_;rintro _ _ ⟨rfl,E⟩;replace hs:=hs.step E;clear E;refine⟨_,_,_,_,_,_,rfl,?_⟩;refine (edge70 _ _ _ _ _ _).mono ?_;rintro _ _ ⟨rfl,E⟩;replace hs:=hs.step E;clear E;refine⟨_,_,_,_,_,_,rfl,?_⟩;refine (edge70 _ _ _ _ _ _).mono ?_;rintro _ _ ⟨rfl,E⟩;replace hs:=hs.step E;clear E;refine⟨_,_,_,_,_,_,rfl,?_⟩;refine (edge70 _ _ _ _ _ _).mono ?_;rintro _ _ ⟨rfl,E⟩;replace hs:=hs.step E;clear E;refine⟨_,_,_,_,_,_,rfl,?_⟩;refine hs.newb fun h38 hs=>?_;have hs:=hs.blkS 4 6 ((exEs false).map Ed.cs) rfl (edrows _) rfl (by decide);refine hs.put 1 rfl (o:=6) (vs:=[.slice (some ⟨_,0,none⟩) 4 4]) rfl (show 7<=8 by decide) fun h39 hs=>?_;cases b
 .refine sB_f rfl ?_;refine⟨_,⟨some ⟨h1.size,0,none⟩,3,3⟩,⟨some ⟨h2.size,0,none⟩,4,4⟩,_,_,_,⟨some ⟨_,0,none⟩,4,4⟩,⟨none,0,0⟩,hs.at 1 rfl (n:=8) rfl,?_⟩;refine hs.put 4 rfl (o:=0) (vs:=(exGl false ⟨some ⟨h1.size,0,none⟩,3,3⟩ ⟨some ⟨h2.size,0,none⟩,4,4⟩ ⟨some ⟨_,0,none⟩,4,4⟩ ⟨none,0,0⟩).cs) rfl (show 8<=8 by decide) fun h117 hs=>?_;refine⟨_,⟨some ⟨h1.size,0,none⟩,3,3⟩,⟨some ⟨h2.size,0,none⟩,4,4⟩,_,_,_,⟨some ⟨_,0,none⟩,4,4⟩,⟨none,0,0⟩,hs.at 4 rfl (n:=8) rfl,hs.ext,_,_,_,rfl,?_⟩;refine⟨hs.rl 3 rfl (by decide) (show 3<=1048576 by decide),⟨hs.rl 2 rfl (by decide) (show 4<=1048576 by decide),fun d hd=>?_⟩,hs.rl 0 rfl (by decide) (show 4<=1048576 by decide),RL.none_⟩;have hd:d∈[exD [97],exD [98],exD [99],exD [100]]:=hd;simp only[Yr,List.not_mem_nil,or_false] at hd;rcases hd with rfl | rfl | rfl | rfl<;>exact⟨RL.none_,RL.none_,RL.none_⟩
 .refine sB_t rfl ?_;refine hs.put 1 rfl (o:=3) (vs:=[.int .i64 6]) rfl (show 4<=8 by decide) fun h40 hs=>?_;refine hs.put 1 rfl (o:=5) (vs:=[.int .i64 5]) rfl (show 6<=8 by decide) fun h41 hs=>?_;refine (edge70 _ _ _ _ _ _).mono ?_;rintro _ _ ⟨rfl,E⟩;replace hs:=hs.step E;clear E;refine⟨_,_,_,_,_,_,rfl,?_⟩;refine (edge70 _ _ _ _ _ _).mono ?_;rintro _ _ ⟨rfl,E⟩;replace hs:=hs.step E;clear E;refine⟨_,_,_,_,_,_,rfl,?_⟩;refine (edge70 _ _ _ _ _ _).mono ?_;rintro _ _ ⟨rfl,E⟩;replace hs:=hs.step E;clear E;refine⟨_,_,_,_,_,_,rfl,?_⟩;refine (edge70 _ _ _ _ _ _).mono ?_;rintro _ _ ⟨rfl,E⟩;replace hs:=hs.step E;clear E;refine⟨_,_,_,_,_,_,rfl,?_⟩;refine (edge70 _ _ _ _ _ _).mono ?_;rintro _ _ ⟨rfl,E⟩;replace hs:=hs.step E;clear E;refine⟨_,_,_,_,_,_,rfl,?_⟩;refine (edge70 _ _ _ _ _ _).mono ?_;rintro _ _ ⟨rfl,E⟩;replace hs:=hs.step E;clear E;refine⟨_,_,_,_,_,_,rfl,?_⟩;refine hs.newb fun h90 hs=>?_;have hs:=hs.blkS 6 6 ((exEs true).map Ed.cs) rfl (edrows _) rfl (by decide);refine hs.put 2 rfl (o:=6) (vs:=[.slice (some ⟨_,0,none⟩) 6 6]) rfl (show 7<=8 by decide) fun h91 hs=>?_;refine⟨_,⟨some ⟨h1.size,0,none⟩,3,3⟩,⟨some ⟨h2.size,0,none⟩,4,4⟩,_,_,_,⟨some ⟨_,0,none⟩,6,6⟩,⟨none,0,0⟩,hs.at 2 rfl (n:=8) rfl,?_⟩;refine hs.put 5 rfl (o:=0) (vs:=(exGl true ⟨some ⟨h1.size,0,none⟩,3,3⟩ ⟨some ⟨h2.size,0,none⟩,4,4⟩ ⟨some ⟨_,0,none⟩,6,6⟩ ⟨none,0,0⟩).cs) rfl (show 8<=8 by decide) fun h117 hs=>?_;refine⟨_,⟨some ⟨h1.size,0,none⟩,3,3⟩,⟨some ⟨h2.size,0,none⟩,4,4⟩,_,_,_,⟨some ⟨_,0,none⟩,6,6⟩,⟨none,0,0⟩,hs.at 5 rfl (n:=8) rfl,hs.ext,_,_,_,rfl,?_⟩;refine⟨hs.rl 4 rfl (by decide) (show 3<=1048576 by decide),⟨hs.rl 3 rfl (by decide) (show 4<=1048576 by decide),fun d hd=>?_⟩,hs.rl 0 rfl (by decide) (show 6<=1048576 by decide),RL.none_⟩;have hd:d∈[exD [97],exD [98],exD [99],exD [100]]:=hd;simp only[Yr,List.not_mem_nil,or_false] at hd;rcases hd with rfl | rfl | rfl | rfl<;>exact⟨RL.none_,RL.none_,RL.none_⟩
deriving instance DecidableEq for Ed
theorem ex_valid (b:Bool) (hr hd he ht:Sl):ValidS (exGl b hr hd he ht):=by
 have hrs:(exGl b hr hd he ht).rs=[[112],[113],[114]]:=rfl;have hds:(exGl b hr hd he ht).ds=[exD [97],exD [98],exD [99],exD [100]]:=rfl;have hes:(exGl b hr hd he ht).es=exEs b:=rfl;have hall:allF [exD [97],exD [98],exD [99],exD [100]]=[]:=rfl;have get3:∀ {α:Type} {P:Nat->α->Prop} {l:List α},(∀i (hi:i<l.length),P i l[i])->∀i x,l[i]?=some x->P i x:=by
  intro α P l h i x hx;obtain⟨h1,h2⟩:=Ya.1 hx;rw[<-h2];exact h i h1
 refine⟨⟨by rfl,by rw[hrs];decide,by rw[hrs];decide,?_⟩,⟨?_,?_,?_⟩,?_,⟨?_,?_,?_⟩,?_,?_,?_⟩
 .rw[hrs];refine get3 (P:=fun i s=>isWord s=true/\s∉List.take i [[112],[113],[114]]) fun i hi=>?_;have hi:i<3:=hi
  match i,hi with
  | 0,_=>exact Yyn rfl
  | 1,_=>exact Yyn rfl
  | 2,_=>exact Yyn rfl
 .cases b<;>exact⟨Yyn rfl,Yyn rfl,Yyn rfl,Yyn rfl,Yyn rfl,Yyn rfl⟩
 .rw[hes];cases b<;>decide
 .rw[hes];unfold EdS;rw[hrs,hds];cases b
  .show ∀x∈exEs false,0<=x.f/\0<=x.t/\0<=x.a/\0<=x.b/\0<=x.l/\x.f<4/\x.t<4/\x.a<((3:Nat):Int)/\x.b<((3:Nat):Int)/\x.a≠x.b/\x.l<((4:Nat):Int);decide
  .show ∀x∈exEs true,0<=x.f/\0<=x.t/\0<=x.a/\0<=x.b/\0<=x.l/\x.f<6/\x.t<6/\x.a<((3:Nat):Int)/\x.b<((3:Nat):Int)/\x.a≠x.b/\x.l<((4:Nat):Int);decide
 .rw[hds];refine⟨by decide,by rw[hall];decide,?_⟩;refine get3 (P:=fun i d=>DcS [exD [97],exD [98],exD [99],exD [100]] i d) fun i hi=>?_;have hi:i<4:=hi;have hg:GuardS [] [] []:=⟨by decide,by decide,fun x hx=>(by cases hx),fun x hx=>(by cases hx)⟩
  match i,hi with
  | 0,_=>exact⟨by rfl,Yyn rfl,Yyn rfl,by rfl,fun k f hf=>(by cases hf),by rw[hall];exact hg⟩
  | 1,_=>exact⟨by rfl,Yyn rfl,Yyn rfl,by rfl,fun k f hf=>(by cases hf),by rw[hall];exact hg⟩
  | 2,_=>exact⟨by rfl,Yyn rfl,Yyn rfl,by rfl,fun k f hf=>(by cases hf),by rw[hall];exact hg⟩
  | 3,_=>exact⟨by rfl,Yyn rfl,Yyn rfl,by rfl,fun k f hf=>(by cases hf),by rw[hall];exact hg⟩
 .rw[hes];cases b
  .show ∀x∈exEs false,x.f≠3;decide
  .show ∀x∈exEs true,x.f≠5;decide
 .rw[hes];cases b
  .show ∀x∈exEs false,x.ag=true->x.f≠0;decide
  .show ∀x∈exEs true,x.ag=true->x.f≠0;decide
 .rw[hes];have key:((exEs b).zipIdx.all fun p=>(exEs b).zipIdx.all fun q=>!decide ((p.2≠q.2/\p.1.f=q.1.f/\((p.1.a=q.1.a/\p.1.b=q.1.b/\p.1.l=q.1.l)\/p.1.a≠q.1.a\/p.1.ag=true))\/(p.1.ag=true/\q.1.t=p.1.f/\(p.1.a≠q.1.a\/p.1.l≠q.1.l))))=true:=by
   cases b<;>decide
  intro i x hx k y hy hbad;have h1:=List.all_eq_true.1 key (x,i) (Yf.2 ⟨i,by rw[List.getElem?_zipIdx,hx];simp⟩);have h2:=List.all_eq_true.1 h1 (y,k) (Yf.2 ⟨k,by rw[List.getElem?_zipIdx,hy];simp⟩);have h3:=Yyo (Bool.not_eq_true' _ ▸ h2);exact h3 hbad
 .intro i t ht;exact absurd ht (by show ([]:List To)[i]?≠some t;simp)
 .intro v h0 h1;rw[hes];cases b
  .have h1:v<4:=h1;show Rch (exEs false) false 0 v;have s0:Rch (exEs false) false 0 0:=.refl;have s1:Rch (exEs false) false 0 1:=.step s0 ⟨⟨0,0,1,0,1,false⟩,by decide,rfl,rfl⟩;have s2:Rch (exEs false) false 0 2:=.step s0 ⟨⟨0,0,1,1,2,false⟩,by decide,rfl,rfl⟩;have s3:Rch (exEs false) false 0 3:=.step s1 ⟨⟨1,2,1,2,3,false⟩,by decide,rfl,rfl⟩;have:v=0\/v=1\/v=2\/v=3:=by omega
   rcases this with rfl | rfl | rfl | rfl<;>assumption
  .have h1:v<6:=h1;show Rch (exEs true) false 0 v;have s0:Rch (exEs true) false 0 0:=.refl;have s1:Rch (exEs true) false 0 1:=.step s0 ⟨⟨0,0,1,0,1,false⟩,by decide,rfl,rfl⟩;have s2:Rch (exEs true) false 0 2:=.step s0 ⟨⟨0,0,1,1,2,false⟩,by decide,rfl,rfl⟩;have s3:Rch (exEs true) false 0 3:=.step s1 ⟨⟨1,1,2,0,3,false⟩,by decide,rfl,rfl⟩;have s4:Rch (exEs true) false 0 4:=.step s2 ⟨⟨2,1,2,1,4,false⟩,by decide,rfl,rfl⟩;have s5:Rch (exEs true) false 0 5:=.step s3 ⟨⟨3,2,1,2,5,false⟩,by decide,rfl,rfl⟩;have:v=0\/v=1\/v=2\/v=3\/v=4\/v=5:=by omega
   rcases this with rfl | rfl | rfl | rfl | rfl | rfl<;>assumption
 .intro v h0 h1;rw[hes];cases b
  .have h1:v<4:=h1;show Rch (exEs false) true 3 v;have s3:Rch (exEs false) true 3 3:=.refl;have s1:Rch (exEs false) true 3 1:=.step s3 ⟨⟨1,2,1,2,3,false⟩,by decide,rfl,rfl⟩;have s2:Rch (exEs false) true 3 2:=.step s3 ⟨⟨2,2,1,3,3,false⟩,by decide,rfl,rfl⟩;have s0:Rch (exEs false) true 3 0:=.step s1 ⟨⟨0,0,1,0,1,false⟩,by decide,rfl,rfl⟩;have:v=0\/v=1\/v=2\/v=3:=by omega
   rcases this with rfl | rfl | rfl | rfl<;>assumption
  .have h1:v<6:=h1;show Rch (exEs true) true 5 v;have s5:Rch (exEs true) true 5 5:=.refl;have s3:Rch (exEs true) true 5 3:=.step s5 ⟨⟨3,2,1,2,5,false⟩,by decide,rfl,rfl⟩;have s4:Rch (exEs true) true 5 4:=.step s5 ⟨⟨4,2,1,3,5,false⟩,by decide,rfl,rfl⟩;have s1:Rch (exEs true) true 5 1:=.step s3 ⟨⟨1,1,2,0,3,false⟩,by decide,rfl,rfl⟩;have s2:Rch (exEs true) true 5 2:=.step s4 ⟨⟨2,1,2,1,4,false⟩,by decide,rfl,rfl⟩;have s0:Rch (exEs true) true 5 0:=.step s1 ⟨⟨0,0,1,0,1,false⟩,by decide,rfl,rfl⟩;have:v=0\/v=1\/v=2\/v=3\/v=4\/v=5:=by omega
   rcases this with rfl | rfl | rfl | rfl | rfl | rfl<;>assumption
def exM:Mch:=⟨2,4,0,[false,false,false,true],[⟨0,false,1,0,1,false⟩,⟨0,false,1,1,2,false⟩,⟨1,true,1,2,3,false⟩,⟨2,true,1,3,3,false⟩],[]⟩
theorem ex_raw_true (hr hd he ht:Sl):rawC (exGl true hr hd he ht) 2=some (some exM,0):=by kernel_rfl
theorem ex_raw_false (hr hd he ht:Sl):rawC (exGl false hr hd he ht) 2=some (none,18):=by kernel_rfl
theorem ex_min:minF exM=exM:=by kernel_rfl
theorem ex_true (hr hd he ht:Sl):proj (exGl true hr hd he ht) 2=(some exM,0):=by
 have:=rawC_ok (ex_valid true hr hd he ht) (by decide) (show (2:Int)<((3:Nat):Int) by decide) (ex_raw_true hr hd he ht);unfold proj;rw[this];show (some (minF exM),0)=_;rw[ex_min]
theorem ex_false (hr hd he ht:Sl):proj (exGl false hr hd he ht) 2=(none,18):=by
 have:=rawC_ok (ex_valid false hr hd he ht) (by decide) (show (2:Int)<((3:Nat):Int) by decide) (ex_raw_false hr hd he ht);unfold proj;rw[this]
theorem awake10 (h:Heap) (hx:Gx h):Fn Pz 10 #[] h fun v h'=>v=.bool true/\Ext h h':=by
 apply vc10;unfold W10;have hs:=St.refl h;refine (example34 true h).mono ?_;rintro _ h10 ⟨E10,hr,hd,he,rfl,hg⟩;replace hs:=hs.step E10;refine⟨_,hr,hd,_,_,_,he,⟨none,0,0⟩,rfl,?_⟩;refine (project12 _ 2 h10 hg (hx.ext hs.ext)).mono ?_;rintro _ h19 ⟨E19,hm⟩;rw[ex_true] at hm;cases hm with
 | err he0 _=>cases he0
 | @ok m sf sm sl he0 hs2=>
  cases he0;have hs:=(hs.step (E19)).ext;have hs:=(St.refl h).step hs;have hs1:St h h19 (mL exM sf sm sl):=by
   have:=(St.step (St.refl h) E10).join hs2;exact this
  refine⟨_,_,_,sf,sm,sl,0,rfl,?_⟩;refine hs1.newput (vs:=mC exM sf sm sl) rfl rfl fun h21 hs=>?_;refine (example34 false h21).mono ?_;rintro _ h31 ⟨E31,hr2,hd2,he2,rfl,hg2⟩;replace hs:=hs.step E31;refine⟨_,hr2,hd2,_,_,_,he2,⟨none,0,0⟩,rfl,?_⟩;refine (project12 _ 2 h31 hg2 (hx.ext hs.ext)).mono ?_;rintro _ h40 ⟨E40,hm2⟩;rw[ex_false] at hm2;replace hs:=hs.step E40;cases hm2 with
  | ok he1 _=>cases he1
  | @err e he1 h0=>
   cases he1;refine⟨0,0,0,⟨none,0,0⟩,⟨none,0,0⟩,⟨none,0,0⟩,18,rfl,?_⟩;refine hs.newput (vs:=m0) rfl rfl fun h42 hs=>?_;refine sB_t rfl (sB_t rfl ?_);refine⟨_,hs.rd 1 rfl rfl,?_⟩;refine sB_t rfl ?_;have hmn:=(hs.rows 3 (s:=sm) (cs:=Mv.cs) rfl (by omega)).ln;have hfn:=(hs.rows 2 (s:=sf) (cs:=bC) rfl (by omega)).ln;have hmn:sm.n=4:=hmn;have hfn:sf.n=4:=hfn;refine⟨sm,hs.rd 1 rfl rfl,?_⟩;refine sBe (fun _=>?_) (fun c=>absurd (by rw[hmn];rfl) c);refine⟨sm,hs.rd 1 rfl rfl,?_⟩;refine (hs.rows 3 (s:=sm) (cs:=Mv.cs) rfl (by omega)).nbI (by decide) (by rw[hmn];decide) fun b46 o47 x g46 t46=>?_;cases g46;refine⟨_,_,_,_,_,_,t46,?_⟩;refine sB_t rfl ?_;refine⟨sf,hs.rd 1 rfl rfl,?_⟩;refine (hs.rows 2 (s:=sf) (cs:=bC) rfl (by omega)).nbI (by decide) (by rw[hfn];decide) fun b55 o56 x g55 t55=>?_;cases g55;exact⟨_,t55.hd,rfl,hs.ext⟩
def RBo (h:Heap) (v:Value) (h':Heap):Prop:=(∃b:Bool,v=.bool b)/\Ext h h'
theorem RBo.mk {h h':Heap} {b:Bool} (E:Ext h h'):RBo h (.bool b) h':=⟨⟨b,rfl⟩,E⟩
theorem Ext.rfl' {h:Heap}:Ext h h:=⟨Yyt _,fun _ _=>rfl⟩
def RP (p:Prop) (h:Heap) (v:Value) (h':Heap):Prop:=(∃b:Bool,v=.bool b/\(b=true ↔ p))/\Ext h h'
theorem RP.t {p:Prop} {h h':Heap} (hp:p) (E:Ext h h'):RP p h (.bool true) h':=⟨⟨true,rfl,iff_of_true rfl hp⟩,E⟩
theorem RP.f {p:Prop} {h h':Heap} (hp:¬p) (E:Ext h h'):RP p h (.bool false) h':=⟨⟨false,rfl,iff_of_false (by decide) hp⟩,E⟩
theorem RP.e {p:Prop} {h h':Heap} {b:Bool} (hb:b=true ↔ p) (E:Ext h h'):RP p h (.bool b) h':=⟨⟨b,rfl,hb⟩,E⟩
theorem iff_f {p:Prop} {b:Bool} (hp:b=true ↔ p) (c:b=false):¬p:=fun hq=>by
 rw[hp.2 hq] at c;cases c
theorem smx {al:List Addr} {h h':Heap} (E:Ext h h'):Sm al h h':=fun _ _ _ _ hv=>hc_ext E hv
theorem Sm_but {al:List Addr} {h h':Heap} {b:Nat} (hB:But b h h') (hn:∀a∈al,a.block≠b):Sm al h h':=fun a ha k v hv=>by
 rw[hc_of_block (hB.2 _ (by rw[addk_block'];exact hn a ha))];exact hv
theorem hc_blk {h:Heap} {a:Addr} {v:Value} (hv:hc h a=some v):a.block<h.size:=by
 rcases Nat.lt_or_ge a.block h.size with h1 | h1
 .exact h1
 .unfold VC.hc at hv;simp[Array.getElem?_eq_none h1] at hv
def sameMv (x y:Mv):Bool:=decide (x.send=y.send/\x.peer=y.peer/\x.label=y.label/\x.ag=y.ag)
def limI (li:List To) (s:Int):Option Nat:=li.findIdx? fun t=>decide (t.s=s)
def sameLim (m:Mch) (a b:Int):Bool:=match limI m.li a,limI m.li b with
 | none,none=>true
 | some i,some k=>match m.li[i]?,m.li[k]? with
  | some x,some y=>match m.mv[x.e.toNat]?,m.mv[y.e.toNat]? with
   | some p,some q=>decide (x.k=y.k)&&sameMv p q
   | _,_=>false
  | _,_=>false
 | _,_=>false
theorem limI_lt {li:List To} {s:Int} {i:Nat} (h:limI li s=some i):∃t,li[i]?=some t/\t.s=s:=by
 unfold limI at h;rw[List.findIdx?_eq_some_iff_getElem] at h;obtain⟨h1,h2,_⟩:=h;exact⟨_,Yi h1,by simpa using h2⟩
structure MGood (m:Mch):Prop where
 n:1<=m.n/\m.n<=200
 s:0<=m.s/\m.s<m.n
 fl:m.fin.length=m.n.toNat
 mv:∀x∈m.mv,0<=x.f/\x.f<m.n/\0<=x.t/\x.t<m.n
 li:∀t∈m.li,0<=t.s/\t.s<m.n/\0<=t.e/\t.e<m.mv.length/\∃y,m.mv[t.e.toNat]?=some y/\y.f=t.s
 so:m.mv.Pairwise mvLt
def FewS (g:Gl):Prop:=g.es.length<=50/\g.rs.length<=6/\g.ds.length<=40/\g.ts.length<=50
instance (g:Gl):Decidable (FewS g):=by unfold FewS;infer_instance
theorem few35 (g:Gl) (h:Heap) (hg:GI h g):Fn Pz 35 #[g.v] h fun v h'=>v=.bool (decide (FewS g))/\Ext h h':=by
 apply vc35 (bs g.nm) g.hr g.hd g.n g.s g.e g.he g.ht;unfold W35;have hs:=St.refl h;have h1:=hg.e.ln;have h2:=hg.r.ln;have h3:=hg.d.r.ln;have h4:=hg.t.ln;refine hs.newb fun h9 hs=>?_;refine⟨_,hs.rd 0 rfl rfl,?_⟩;refine sBi (fun c1=>?_) (fun c1=>⟨dF fun hc=>by unfold FewS at hc;omega,hs.ext⟩);refine⟨_,hs.rd 0 rfl rfl,?_⟩;refine sBi (fun c2=>?_) (fun c2=>⟨dF fun hc=>by unfold FewS at hc;omega,hs.ext⟩);refine⟨_,hs.rd 0 rfl rfl,?_⟩;refine sBi (fun c3=>?_) (fun c3=>⟨dF fun hc=>by unfold FewS at hc;omega,hs.ext⟩);refine⟨_,hs.rd 0 rfl rfl,?_,hs.ext⟩;congr 1;rw[decide_eq_decide];unfold FewS;omega
theorem few11 (g:Gl) (h:Heap) (hg:GI h g):Fn Pz 11 #[g.v] h fun v h'=>v=.bool (decide (FewS g/\g.n<=25))/\Ext h h':=by
 apply vc11 (bs g.nm) g.hr g.hd g.n g.s g.e g.he g.ht;unfold W11;have hs:=St.refl h;refine hs.newb fun h9 hs=>?_;refine⟨_,_,_,_,_,_,_,_,hs.at 0 rfl (n:=8) rfl,?_⟩;refine (few35 g h9 (hg.ext hs.ext)).mono ?_;rintro _ h20 ⟨rfl,E20⟩;replace hs:=hs.step E20;refine⟨_,rfl,?_⟩;refine sBi (fun c1=>?_) (fun c1=>⟨dF fun hc=>c1 hc.1,hs.ext⟩);refine⟨_,hs.rd 0 rfl rfl,?_,hs.ext⟩;congr 1;rw[decide_eq_decide];exact⟨fun h=>⟨c1,h⟩,fun h=>h.2⟩
def outP (m:Mch) (s:Int) (i:Nat):Bool:=match m.mv[i]? with | some x=>decide (x.f=s) | none=>false
def outIx (m:Mch) (s:Int):List Nat:=(List.range m.mv.length).filter (outP m s)
theorem mvLt_get {l:List Mv} (hS:l.Pairwise mvLt) {i j:Nat} {x y:Mv} (hij:i<j) (hx:l[i]?=some x) (hy:l[j]?=some y):mvLt x y:=by
 obtain⟨h1,h2⟩:=Ya.1 hx;obtain⟨h3,h4⟩:=Ya.1 hy;have:=List.pairwise_iff_getElem.1 hS i j h1 h3 hij
 rwa [h2,h4] at this
def base (m:Mch) (i k:Nat):Bool:=decide (m.fin.getD i false=m.fin.getD k false)&&sameLim m i k
def stepOk (m:Mch) (B:Nat->Nat->Bool) (i k:Nat):Prop:=
 (outIx m i).length=(outIx m k).length/\∀(j a b:Nat) (x y:Mv),(outIx m i)[j]?=some a->(outIx m k)[j]?=some b->m.mv[a]?=some x->m.mv[b]?=some y->sameMv x y=true/\B x.t.toNat y.t.toNat=true
def HMin (m:Mch):Prop:=∀B:Nat->Nat->Bool,(∀i k:Nat,i<m.n->k<m.n->B i k=true->base m i k=true/\stepOk m B i k)->∀i k:Nat,i<m.n->k<m.n->B i k=true->i=k

end Go.VC
end

section
namespace Go.VC
open Go.LexS
def itC (m:Mch):Nat->List Nat
 | 0=>List.replicate m.n.toNat 0
 | k+1=>canonL (clsK m (itC m k))
theorem itC_len (m:Mch):∀k,(itC m k).length=m.n.toNat
 | 0=>Yg
 | k+1=>by rw[itC,canonL_len,clsK_len]
theorem clsN_it {m:Mch} (hO:MOk m):∀(f N:Nat),202<=f+(if N=0 then 0 else (dedF (itC m N)).length)->∃N',N<=N'/\(clsN m f (itC m N) (if N=0 then 0 else (dedF (itC m N)).length)).1=itC m (N'+1)/\(dedF (clsK m (itC m N'))).length=(if N'=0 then 0 else (dedF (itC m N')).length)
 | 0,N,h=>by
  have hn:=hO.n;exfalso;split at h
  .omega
  .have:=dedF_len_le (itC m N);rw[itC_len] at this;omega
 | f+1,N,h=>by
  rw[clsN];have hn:=hO.n;have hge:=clsK_ge (itC_len m N);by_cases e:(dedF (clsK m (itC m N))).length=if N=0 then 0 else (dedF (itC m N)).length
  .rw[if_pos e];exact⟨N,Yyt _,rfl,e⟩
  .rw[if_neg e];have e1:(dedF (clsK m (itC m N))).length=if N+1=0 then 0 else (dedF (itC m (N+1))).length:=by
    rw[if_neg (by omega),itC,dedF_canon]
   have hlt:(if N=0 then 0 else (dedF (itC m N)).length)<(dedF (clsK m (itC m N))).length:=by
    split at e
    .rename_i h0;subst h0;rw[if_pos rfl];omega
    .rename_i h0;rw[if_neg h0];omega
   have ih:=clsN_it hO f (N+1) (by rw[<-e1];omega);rw[<-e1] at ih;obtain⟨N',h1,h2,h3⟩:=ih;exact⟨N',by omega,h2,h3⟩
theorem ded_inj {K K':Type} [DecidableEq K] [DecidableEq K'] {l:List K} {f:K->K'} (h:(dedF (l.map f)).length=(dedF l).length) {a b:K} (ha:a∈l) (hb:b∈l) (hab:f a=f b):a=b:=by
 by_cases e:a=b
 .exact e
 exfalso;have h1:=List.Nodup.length_le_of_subset (dedF_nodup (l.map f)) (l₂:=((dedF l).filter fun x=>decide (x≠b)).map f) fun y hy=>by
  rw[dedF_mem] at hy;obtain⟨x,hx,rfl⟩:=Yp.1 hy;by_cases ex:x=b
  .subst ex;exact Yp.2 ⟨a,List.mem_filter.2 ⟨(dedF_mem _ _).2 ha,by simpa using e⟩,hab⟩
  .exact Yp.2 ⟨x,List.mem_filter.2 ⟨(dedF_mem _ _).2 hx,by simpa using ex⟩,rfl⟩
 rw[Yc,h] at h1;have h2:((dedF l).filter fun x=>decide (x≠b)).length<(dedF l).length:=by
  rcases Nat.lt_or_ge ((dedF l).filter fun x=>decide (x≠b)).length (dedF l).length with h3 | h3
  .exact h3
  .have:=List.filter_eq_self.1 ((List.filter_sublist (l:=dedF l) (p:=fun x=>decide (x≠b))).eq_of_length_le h3) b ((dedF_mem _ _).2 hb);simp at this
 omega
theorem clsK_map {m:Mch} {C:List Nat} (hC:C.length=m.n.toNat):C=(clsK m C).map fun k=>match k.getLast? with | some s=>s.b.toNat | none=>0:=by
 apply Yyr;intro i;unfold clsK;rw[List.map_map,Yd];by_cases hi:i<m.n.toNat
 .rw[Yyb hi];obtain⟨c,hc⟩:=get_some (l:=C) (i:=i) (by omega);rw[hc];show _=some (match (keyS m C i).getLast? with | some s=>s.b.toNat | none=>0);have:(keyS m C i).getLast?=some (sgB C m.fin i):=by
   unfold keyS keyH;rw[<-Yz,List.getLast?_append];rfl
  rw[this];unfold sgB;simp[Yo,hc]
 .rw[Yl (by omega),Yl (by rw[Yyd];omega)];rfl
theorem clsK_get {m:Mch} {C:List Nat} {i:Nat} (hi:i<m.n.toNat):(clsK m C)[i]?=some (keyS m C i):=by unfold clsK;rw[Yd,Yyb hi];rfl
theorem keyS_b {m:Mch} {C:List Nat} (hC:C.length=m.n.toNat) {x y:Nat} (hx:x<m.n.toNat) (hy:y<m.n.toNat) (h:keyS m C x=keyS m C y):C[x]?=C[y]?:=by
 have e:=clsK_map hC;generalize hf:(fun k:List Sg=>match k.getLast? with | some s=>s.b.toNat | none=>0)=f at e;rw[e,Yd,Yd,clsK_get hx,clsK_get hy,h]
theorem cls_stable {m:Mch} (hO:MOk m):∃N,(cls m).1=itC m (N+1)/\(∀x y:Nat,x<m.n.toNat->y<m.n.toNat->((cls m).1[x]?=(cls m).1[y]? ↔ (itC m N)[x]?=(itC m N)[y]?))/\∀x y:Nat,x<m.n.toNat->y<m.n.toNat->(cls m).1[x]?=(cls m).1[y]?->keyS m (itC m N) x=keyS m (itC m N) y:=by
 have hn:=hO.n;obtain⟨N,_,h2,h3⟩:=clsN_it hO 202 0 (by rw[if_pos rfl];omega);rw[if_pos rfl] at h2;replace h2:(cls m).1=itC m (N+1):=h2;have hpos:0<(dedF (clsK m (itC m N))).length:=by
  have:keyS m (itC m N) 0∈dedF (clsK m (itC m N)):=(dedF_mem _ _).2 (Yb (clsK_get (i:=0) (by omega)));exact List.length_pos_of_mem this
 have hN:N≠0:=fun h=>by rw[if_pos h] at h3;omega
 rw[if_neg hN] at h3;have hmap:=clsK_map (itC_len m N);have key:∀x y:Nat,x<m.n.toNat->y<m.n.toNat->(itC m N)[x]?=(itC m N)[y]?->keyS m (itC m N) x=keyS m (itC m N) y:=by
  intro x y hx hy h;generalize hf:(fun k:List Sg=>match k.getLast? with | some s=>s.b.toNat | none=>0)=f at hmap;refine ded_inj (l:=clsK m (itC m N)) (f:=f) (by rw[<-hmap];exact h3.symm) (Yb (clsK_get hx)) (Yb (clsK_get hy)) ?_;have h1:((clsK m (itC m N)).map f)[x]?=((clsK m (itC m N)).map f)[y]?:=by rw[<-hmap];exact h
  rw[Yd,Yd,clsK_get hx,clsK_get hy] at h1;exact Yyp h1
 have hfin:∀x y:Nat,x<m.n.toNat->y<m.n.toNat->((cls m).1[x]?=(cls m).1[y]? ↔ keyS m (itC m N) x=keyS m (itC m N) y):=by
  intro x y hx hy;rw[h2,itC];exact canonL_eq (clsK_get hx) (clsK_get hy)
 refine⟨N,h2,fun x y hx hy=>?_,fun x y hx hy h=>(hfin x y hx hy).1 h⟩;rw[hfin x y hx hy];exact⟨keyS_b (itC_len m N) hx hy,key x y hx hy⟩
theorem itC_step {m:Mch} {k x y:Nat} (hx:x<m.n.toNat) (hy:y<m.n.toNat) (h:keyS m (itC m k) x=keyS m (itC m k) y):(itC m (k+1))[x]?=(itC m (k+1))[y]?:=by
 rw[itC];exact (canonL_eq (clsK_get hx) (clsK_get hy)).2 h
theorem foldl_ind {α β:Type} {f:β->α->β} {P:Nat->β->Prop} {l:List α} {b:β} (h0:P 0 b) (hs:∀(j:Nat) (x:α) (st:β),l[j]?=some x->P j st->P (j+1) (f st x)):P l.length (l.foldl f b):=by
 have key:∀n,n<=l.length->P n ((l.take n).foldl f b):=by
  intro n
  induction n with
  | zero=>intro _;exact h0
  | succ n ih=>
   intro hn;obtain⟨x,hx⟩:=get_some (l:=l) (i:=n) (by omega);rw[foldl_snoc hx];exact hs n x _ hx (ih (by omega))
 have:=key l.length (Yyt _)
 rwa [Yye] at this
def mvQ (C Q:List Nat) (i:Nat) (x:Mv):Mv:=⟨(i:Nat),x.send,x.peer,x.label,(idxF Q (C.getD x.t.toNat 0):Nat),x.ag⟩
def repQ (C Q:List Nat) (i:Nat):Nat:=idxF C (Q.getD i 0)
theorem mvQ_ext {C Q E:List Nat} {i:Nat} {x:Mv} (h:C.getD x.t.toNat 0∈Q):mvQ C (Q++E) i x=mvQ C Q i x:=by unfold mvQ;rw[idxF_mem h]
theorem repQ_ext {C Q E:List Nat} {i:Nat} (h:i<Q.length):repQ C (Q++E) i=repQ C Q i:=by
 unfold repQ;rw[Yo,Yo,Yyi h]
theorem addQ_ext (Q:List Nat) (c:Nat):∃E,addQ Q c=Q++E:=by
 unfold addQ;split
 .exact⟨[],by simp⟩
 .exact⟨[c],rfl⟩
def LimOf (r:Mch) (C Q:List Nat) (mv:List Mv) (t:To) (i:Nat) (x:Mv):Prop:=t.s=(i:Int)/\x∈outM r (repQ C Q i)/\0<=t.e/\mv[t.e.toNat]?=some (mvQ C Q i x)/\∃t0 y,mget (limM r.li) (repQ C Q i:Nat)=some t0/\r.mv[t0.e.toNat]?=some y/\t.k=t0.k/\x.ev=y.ev
structure CanI (r:Mch) (C:List Nat) (cnt hd:Nat) (Q:List Nat) (fin:List Bool) (mv:List Mv) (li:List To):Prop where
 pq:QOk Q cnt
 ph:hd<=Q.length
 pf:fin=(List.range hd).map fun i=>r.fin.getD (repQ C Q i) false
 pm:mv=(List.range hd).flatMap fun i=>(outM r (repQ C Q i)).map (mvQ C Q i)
 pt:∀i,i<hd->∀x∈outM r (repQ C Q i),C.getD x.t.toNat 0∈Q
 p1:∀t∈li,∃i x,i<hd/\LimOf r C Q mv t i x
 p2:∀i,i<hd->∀t0 y,mget (limM r.li) (repQ C Q i:Nat)=some t0->r.mv[t0.e.toNat]?=some y->(∃x∈outM r (repQ C Q i),x.ev=y.ev)->∃t∈li,t.s=(i:Int)
structure RowI (r:Mch) (C:List Nat) (cnt hd:Nat) (Q:List Nat) (mv:List Mv) (li:List To) (j:Nat) (st:List Nat × List Mv × List To):Prop where
 pe:∃E,st.1=Q++E
 pq:QOk st.1 cnt
 pt:∀x∈(outM r (repQ C Q hd)).take j,C.getD x.t.toNat 0∈st.1
 pm:st.2.1=mv++((outM r (repQ C Q hd)).take j).map (mvQ C st.1 hd)
 p1:∀t∈st.2.2,t∈li\/∃x∈(outM r (repQ C Q hd)).take j,LimOf r C st.1 st.2.1 t hd x
 p0:∀t∈li,t∈st.2.2
 p2:∀t0 y,mget (limM r.li) (repQ C Q hd:Nat)=some t0->r.mv[t0.e.toNat]?=some y->(∃x∈(outM r (repQ C Q hd)).take j,x.ev=y.ev)->∃t∈st.2.2,t.s=(hd:Int)
theorem LimOf.ext {r:Mch} {C Q E:List Nat} {mv mv':List Mv} {t:To} {i:Nat} {x:Mv} (h:LimOf r C Q mv t i x) (hi:i<Q.length) (hx:C.getD x.t.toNat 0∈Q) (hm:mv'=mv++mv'.drop mv.length):LimOf r C (Q++E) mv' t i x:=by
 obtain⟨h1,h2,h3,h4,t0,y,h5,h6,h7,h8⟩:=h;have hr:=repQ_ext (C:=C) (E:=E) hi;refine⟨h1,by rw[hr];exact h2,h3,?_,t0,y,by rw[hr];exact h5,h6,h7,h8⟩;rw[hm,Yyi (Ya.1 h4).1,h4,mvQ_ext hx]
theorem row_step {r:Mch} {C:List Nat} {cnt hd:Nat} {Q:List Nat} {mv:List Mv} {li:List To} (hO:MOk r) (hCl:C.length=r.n.toNat) (hCb:∀c∈C,c<cnt) (hhd:hd<Q.length) {j:Nat} {x:Mv} {st:List Nat × List Mv × List To} (hx:(outM r (repQ C Q hd))[j]?=some x) (h:RowI r C cnt hd Q mv li j st) :
  RowI r C cnt hd Q mv li (j+1) (minX r C hd (mget (limM r.li) (repQ C Q hd:Nat)) st x):=by
 have hxm:x∈outM r (repQ C Q hd):=Yb hx;have hxr:x∈r.mv:=(List.mem_filter.1 hxm).1;have hxo:=hO.mv x hxr;obtain⟨cx,hcx⟩:=get_some (l:=C) (i:=x.t.toNat) (by omega);have hcg:C.getD x.t.toNat 0=cx:=getD_some hcx;have hcb:=hCb cx (Yb hcx);obtain⟨E,hE⟩:=h.pe;obtain⟨E2,hE2⟩:=addQ_ext st.1 cx;have hlt:hd<st.1.length:=by rw[hE,Yh];omega
 have hm1:(minX r C hd (mget (limM r.li) (repQ C Q hd:Nat)) st x).1=st.1++E2:=by unfold minX;rw[hcg];exact hE2
 have hm2:(minX r C hd (mget (limM r.li) (repQ C Q hd:Nat)) st x).2.1=st.2.1++[mvQ C (st.1++E2) hd x]:=by unfold minX mvQ;rw[hcg,hE2]
 have htk:(outM r (repQ C Q hd)).take (j+1)=(outM r (repQ C Q hd)).take j++[x]:=take_snoc hx;have hin:cx∈st.1++E2:=by rw[<-hE2];exact addQ_mem
 have hrep:repQ C (st.1++E2) hd=repQ C Q hd:=by rw[repQ_ext hlt,hE,repQ_ext hhd]
 have hrep1:repQ C st.1 hd=repQ C Q hd:=by rw[hE,repQ_ext hhd]
 have hdrop:(minX r C hd (mget (limM r.li) (repQ C Q hd:Nat)) st x).2.1=st.2.1++((minX r C hd (mget (limM r.li) (repQ C Q hd:Nat)) st x).2.1).drop st.2.1.length:=by rw[hm2,List.drop_append_of_le_length (Yyt _),List.drop_length,List.nil_append]
 have hnew:(st.2.1++[mvQ C (st.1++E2) hd x])[st.2.1.length]?=some (mvQ C (st.1++E2) hd x):=by rw[Yyc (Yyt _),Nat.sub_self];rfl
 refine⟨⟨E++E2,by rw[hm1,hE,Yz]⟩,by rw[hm1,<-hE2];exact h.pq.add hcb,fun y hy=>?_,?_,fun t ht=>?_,fun t ht=>?_,fun t0 y h1 h2 h3=>?_⟩
 .rw[htk,Yk,Ye] at hy;rw[hm1];rcases hy with hy | rfl
  .exact Yk.2 (.inl (h.pt y hy))
  .rw[hcg];exact hin
 .rw[hm1,hm2,h.pm,htk,Ym,Yz];congr 1;congr 1;apply List.map_congr_left;intro y hy;exact (mvQ_ext (h.pt y hy)).symm
 .unfold minX at ht;rcases Yk.1 ht with ht | ht
  .rcases h.p1 t ht with h4 | ⟨x',hx'm,h4⟩
   .exact .inl h4
   .refine .inr ⟨x',by rw[htk];exact Yk.2 (.inl hx'm),?_⟩;rw[hm1];exact h4.ext hlt (h.pt x' hx'm) hdrop
  .split at ht
   .cases ht
   .rename_i t0 h0;split at ht
    .rename_i y hy;split at ht
     .rename_i hev;rw[Ye] at ht;subst ht;refine .inr ⟨x,by rw[htk];exact Yk.2 (.inr (Ye.2 rfl)),?_⟩;rw[hm1,hm2];refine⟨rfl,by rw[hrep];exact hxm,by show 0<=((st.2.1.length:Nat):Int);omega,?_,t0,y,by rw[hrep];exact h0,hy,rfl,hev⟩;show (st.2.1++_)[((st.2.1.length:Nat):Int).toNat]?=_;rw[Ys];exact hnew
     .cases ht
    .cases ht
 .unfold minX;exact Yk.2 (.inl (h.p0 t ht))
 .rw[htk] at h3;obtain⟨x',hx',hev⟩:=h3;rw[Yk,Ye] at hx';rcases hx' with hx' | rfl
  .obtain⟨t,ht,hts⟩:=h.p2 t0 y h1 h2 ⟨x',hx',hev⟩;exact⟨t,by unfold minX;exact Yk.2 (.inl ht),hts⟩
  .refine⟨⟨(hd:Nat),t0.k,(st.2.1.length:Nat)⟩,?_,rfl⟩;unfold minX;rw[h1];simp only[h2];rw[if_pos hev];exact Yk.2 (.inr (Ye.2 rfl))
theorem flatMap_congr' {α β:Type} {f g:α->List β}:∀ {l:List α},(∀x∈l,f x=g x)->l.flatMap f=l.flatMap g
 | [],_=>rfl
 | a::l,h=>by rw[List.flatMap_cons,List.flatMap_cons,h a (Yx ..),flatMap_congr' fun x hx=>h x (Yn _ hx)]
theorem can_step {r:Mch} {C:List Nat} {cnt hd:Nat} {Q:List Nat} {fin:List Bool} {mv:List Mv} {li:List To} (hO:MOk r) (hCl:C.length=r.n.toNat) (hCb:∀c∈C,c<cnt) (hhd:hd<Q.length) (h:CanI r C cnt hd Q fin mv li) :
  CanI r C cnt (hd+1) ((outM r (repQ C Q hd)).foldl (minX r C hd (mget (limM r.li) (repQ C Q hd:Nat))) (Q,mv,li)).1 (fin++[r.fin.getD (repQ C Q hd) false]) ((outM r (repQ C Q hd)).foldl (minX r C hd (mget (limM r.li) (repQ C Q hd:Nat))) (Q,mv,li)).2.1 ((outM r (repQ C Q hd)).foldl (minX r C hd (mget (limM r.li) (repQ C Q hd:Nat))) (Q,mv,li)).2.2:=by
 have key:=foldl_ind (f:=minX r C hd (mget (limM r.li) (repQ C Q hd:Nat))) (l:=outM r (repQ C Q hd)) (b:=(Q,mv,li)) (P:=RowI r C cnt hd Q mv li)
  ⟨⟨[],by simp⟩,h.pq,fun x hx=>(by rw[Yyk] at hx;cases hx),by rw[Yyk,List.map_nil,Yw],fun t ht=>.inl ht,fun t ht=>ht,fun t0 y _ _ h3=>(by obtain⟨x,hx,_⟩:=h3;rw[Yyk] at hx;cases hx)⟩
  (fun j x st hx hr=>row_step hO hCl hCb hhd hx hr)
 generalize (outM r (repQ C Q hd)).foldl (minX r C hd (mget (limM r.li) (repQ C Q hd:Nat))) (Q,mv,li)=st at *;obtain⟨⟨E,hE⟩,kq,kt,km,k1,k0,k2⟩:=key;rw[Yye] at kt km k2;have hrep:∀i,i<Q.length->repQ C st.1 i=repQ C Q i:=fun i hi=>by rw[hE,repQ_ext hi]
 have hph:=h.ph;refine⟨kq,by rw[hE,Yh];omega,?_,?_,fun i hi x hx=>?_,fun t ht=>?_,fun i hi t0 y h1 h2 h3=>?_⟩
 .rw[List.range_succ,Ym,h.pf];congr 1
  .apply List.map_congr_left;intro i hi;have:=List.mem_range.1 hi;rw[hrep i (by omega)]
  .show _=[r.fin.getD (repQ C st.1 hd) false];rw[hrep hd hhd]
 .rw[List.range_succ,List.flatMap_append,km,h.pm];congr 1
  .refine flatMap_congr' fun i hi=>?_;have hi:=List.mem_range.1 hi;rw[hrep i (by omega)];apply List.map_congr_left;intro x hx;rw[hE,mvQ_ext (h.pt i hi x hx)]
  .rw[List.flatMap_singleton,hrep hd hhd]
 .by_cases e:i=hd
  .subst e;rw[hrep i hhd] at hx;exact kt x hx
  .rw[hrep i (by omega)] at hx;rw[hE];exact Yk.2 (.inl (h.pt i (by omega) x hx))
 .rcases k1 t ht with h4 | ⟨x,hx,h4⟩
  .obtain⟨i,x,hi,h5⟩:=h.p1 t h4;refine⟨i,x,by omega,?_⟩;rw[hE];refine h5.ext (by omega) (h.pt i hi x h5.2.1) ?_;rw[km,List.drop_append_of_le_length (Yyt _),List.drop_length,List.nil_append]
  .exact⟨hd,x,by omega,h4⟩
 .by_cases e:i=hd
  .subst e;rw[hrep i hhd] at h1 h3;exact k2 t0 y h1 h2 h3
  .rw[hrep i (by omega)] at h1 h3;obtain⟨t,ht,hts⟩:=h.p2 i (by omega) t0 y h1 h2 h3;exact⟨t,k0 t ht,hts⟩
theorem minN_can {r:Mch} {C:List Nat} {cnt:Nat} (hO:MOk r) (hCl:C.length=r.n.toNat) (hCb:∀c∈C,c<cnt):∀(f hd:Nat) (Q:List Nat) (fin:List Bool) (mv:List Mv) (li:List To),cnt<f+hd->CanI r C cnt hd Q fin mv li ->
  ∃Q',(minN r C f hd Q fin mv li).n=(Q'.length:Nat)/\(minN r C f hd Q fin mv li).s=0/\CanI r C cnt Q'.length Q' (minN r C f hd Q fin mv li).fin (minN r C f hd Q fin mv li).mv (minN r C f hd Q fin mv li).li/\∃E,Q'=Q++E
 | 0,hd,Q,fin,mv,li,hf,h=>by
  exfalso;have:=h.ph;have:=h.pq.le;omega
 | f+1,hd,Q,fin,mv,li,hf,h=>by
  rw[minN];cases hq:Q[hd]? with
  | none=>
   have:hd=Q.length:=by have:=List.getElem?_eq_none_iff.1 hq;have:=h.ph;omega
   subst this;exact⟨Q,rfl,rfl,h,[],by simp⟩
  | some c=>
   have hhd:=(Ya.1 hq).1;have hrep:repQ C Q hd=idxF C c:=by unfold repQ;rw[getD_some hq]
   have hst:=can_step hO hCl hCb hhd h;rw[hrep] at hst;have hE:∃E,((outM r (idxF C c)).foldl (minX r C hd (mget (limM r.li) (idxF C c:Nat))) (Q,mv,li)).1=Q++E:=by
    suffices hh:∀(l:List Mv) (st:List Nat × List Mv × List To),∃E,(l.foldl (minX r C hd (mget (limM r.li) (idxF C c:Nat))) st).1=st.1++E from hh _ _
    intro l
    induction l with
    | nil=>intro st;exact⟨[],by simp⟩
    | cons a l ih=>
     intro st;rw[List.foldl_cons];obtain⟨E1,h1⟩:=ih (minX r C hd (mget (limM r.li) (idxF C c:Nat)) st a);obtain⟨E2,h2⟩:=addQ_ext st.1 (C.getD a.t.toNat 0);refine⟨E2++E1,?_⟩;rw[h1];show addQ st.1 (C.getD a.t.toNat 0)++E1=_;rw[h2,Yz]
   obtain⟨Q',h1,h2,h3,E',h4⟩:=minN_can hO hCl hCb f (hd+1) _ _ _ _ (by omega) hst;obtain⟨E,hE⟩:=hE;exact⟨Q',h1,h2,h3,E++E',by rw[h4,hE,Yz]⟩
theorem minF_can {r:Mch} (hO:MOk r):∃Q,(minF r).n=(Q.length:Nat)/\(minF r).s=0/\1<=Q.length/\Q.length<=r.n.toNat/\CanI r (cls r).1 (cls r).2 Q.length Q (minF r).fin (minF r).mv (minF r).li:=by
 have hC:=cls_ok hO;have hs:=hO.s;obtain⟨c0,hc0⟩:=get_some (l:=(cls r).1) (i:=r.s.toNat) (by have:=hC.cl;omega);have hc0b:=hC.cb c0 (Yb hc0);have h0:CanI r (cls r).1 (cls r).2 0 [c0] [] [] []:=⟨⟨by simp,fun c hc=>by rw[Ye] at hc;omega⟩,by simp,rfl,rfl,fun i hi=>(by omega),fun t ht=>(by cases ht),fun i hi=>(by omega)⟩;have hn:=hO.n;have hcc:=hC.cc;obtain⟨Q,h1,h2,h3,E,h4⟩:=minN_can hO hC.cl hC.cb 202 0 [c0] [] [] [] (by omega) h0;unfold minF;rw[getD_some hc0];refine⟨Q,h1,h2,by rw[h4];simp,Yys h3.pq.le hcc,h3⟩
theorem mget_mset {α β:Type} [DecidableEq α] (a:α) (b:β) (s:α):∀l:List (α × β),mget (mset l a b) s=if a=s then some b else mget l s
 | []=>rfl
 | (x,y)::r=>by
  rw[mset];split
  .rename_i e;subst e;rw[mget,mget];split<;>rfl
  .rename_i e;rw[mget,mget,mget_mset a b s r];by_cases h:x=s
   .rw[if_pos h,if_pos h,if_neg (fun h2=>e (h.trans h2.symm))]
   .rw[if_neg h,if_neg h]
theorem limM_get (li:List To) (s:Int):mget (limM li) s=(li.filter fun t=>t.s=s).getLast?:=by
 have key:∀n,n<=li.length->mget (limM (li.take n)) s=((li.take n).filter fun t=>t.s=s).getLast?:=by
  intro n
  induction n with
  | zero=>intro _;rfl
  | succ n ih=>
   intro hn;obtain⟨t,ht⟩:=get_some (l:=li) (i:=n) (by omega);rw[limM_snoc ht,mget_mset,take_snoc ht,List.filter_append,ih (by omega)];by_cases e:t.s=s
   .rw[if_pos e,List.filter_cons_of_pos (by simpa using e)];simp
   .rw[if_neg e,List.filter_cons_of_neg (by simpa using e)];simp
 have:=key li.length (Yyt _)
 rwa [Yye] at this
structure MRaw (r:Mch):Prop where
 ok:MOk r
 so:r.mv.Pairwise mvLt
 l1:∀t∈r.li,∃y,r.mv[t.e.toNat]?=some y/\y.f=t.s
 l2:(r.li.map (·.s)).Nodup
theorem MRaw.one {r:Mch} (h:MRaw r) (s:Int):(r.li.filter fun t=>t.s=s)=match mget (limM r.li) s with | some t=>[t] | none=>[]:=by
 rw[limM_get];have hsub:((r.li.filter fun t=>t.s=s).map (·.s)).Nodup:=h.l2.sublist (List.filter_sublist.map _);have hall:∀t∈r.li.filter (fun t=>t.s=s),t.s=s:=fun t ht=>by simpa using (List.mem_filter.1 ht).2
 generalize r.li.filter (fun t=>t.s=s)=l at *
 match l,hsub,hall with
 | [],_,_=>rfl
 | [t],_,_=>rfl
 | a::b::l,hsub,hall=>
  exfalso;rw[Yyl,List.nodup_cons] at hsub;exact hsub.1 (by rw[hall a (Yx ..)];exact Yp.2 ⟨b,by simp,hall b (by simp)⟩)
theorem outIx_get {m:Mch} {s:Int}:(outIx m s).map (fun a=>m.mv[a]?)=(m.mv.filter fun x=>x.f=s).map some:=by
 have key:∀n,n<=m.mv.length->((List.range n).filter (outP m s)).map (fun a=>m.mv[a]?)=((m.mv.take n).filter fun x=>x.f=s).map some:=by
  intro n
  induction n with
  | zero=>intro _;rfl
  | succ n ih=>
   intro hn;obtain⟨x,hx⟩:=get_some (l:=m.mv) (i:=n) (by omega);have hp:outP m s n=decide (x.f=s):=by unfold outP;rw[hx]
   rw[List.range_succ,List.filter_append,Ym,ih (by omega),take_snoc hx,List.filter_append,Ym];congr 1;by_cases e:x.f=s
   .rw[List.filter_cons_of_pos (by rw[hp];exact decide_eq_true e),List.filter_cons_of_pos (by simpa using e)];simp[hx]
   .rw[List.filter_cons_of_neg (by rw[hp,decide_eq_false e];simp),List.filter_cons_of_neg (by simpa using e)];simp
 have:=key m.mv.length (Yyt _);rw[Yye] at this;exact this
theorem outIx_nth {m:Mch} {s:Int} {j a:Nat} (h:(outIx m s)[j]?=some a):∃x,m.mv[a]?=some x/\(m.mv.filter fun x=>x.f=s)[j]?=some x:=by
 have h1:=congrArg (·[j]?) (outIx_get (m:=m) (s:=s));simp only[Yd,h,Option.map_some] at h1;obtain⟨x,hx,h2⟩:=Yya.1 h1.symm;exact⟨x,h2.symm,hx⟩
theorem outIx_len {m:Mch} {s:Int}:(outIx m s).length=(m.mv.filter fun x=>x.f=s).length:=by
 have:=congrArg List.length (outIx_get (m:=m) (s:=s))
 rwa [Yc,Yc] at this
theorem flat_filter {rows:Nat->List Mv} (h:∀k,∀y∈rows k,y.f=(k:Int)) (i:Nat):∀n,((List.range n).flatMap rows).filter (fun y=>y.f=(i:Int))=if i<n then rows i else []
 | 0=>rfl
 | n+1=>by
  rw[List.range_succ,List.flatMap_append,List.filter_append,flat_filter h i n,List.flatMap_singleton];by_cases e:i=n
  .subst e;rw[if_neg (by omega),if_pos (by omega),List.nil_append,List.filter_eq_self.2 fun y hy=>by simpa using h i y hy]
  .have:(rows n).filter (fun y=>y.f=(i:Int))=[]:=by
    rw[List.filter_eq_nil_iff];intro y hy;have:=h n y hy;simp only[decide_eq_true_eq];omega
   rw[this,Yw];by_cases e2:i<n
   .rw[if_pos e2,if_pos (by omega)]
   .rw[if_neg e2,if_neg (by omega)]
theorem filter_k {l:List Sg} {k:Int} (h:∀s∈l,s.k=k) (k':Int):l.filter (fun s=>s.k=k')=if k=k' then l else []:=by
 by_cases e:k=k'
 .rw[if_pos e,List.filter_eq_self];intro s hs;have:=h s hs;simp[this,e]
 .rw[if_neg e,List.filter_eq_nil_iff];intro s hs;have:=h s hs;simp[this,e]
theorem keyS_parts {m:Mch} {D D':List Nat} {x y:Nat} (h:keyS m D x=keyS m D' y):(outM m x).map (sgM D)=(outM m y).map (sgM D')/\((m.li.filter fun t=>t.s=(x:Int)).map (sgL m.mv))=((m.li.filter fun t=>t.s=(y:Int)).map (sgL m.mv))/\sgB D m.fin x=sgB D' m.fin y:=by
 have h2:∀(D:List Nat) (x:Nat),∀s∈((m.mv.filter fun y=>y.f=(x:Int)).map (sgM D)).reverse,s.k=2:=fun D x s hs=>by
  rw[List.mem_reverse] at hs;obtain⟨_,_,rfl⟩:=Yp.1 hs;rfl
 have h1:∀(x:Nat),∀s∈((m.li.filter fun t=>t.s=(x:Int)).map (sgL m.mv)).reverse,s.k=1:=fun x s hs=>by
  rw[List.mem_reverse] at hs;obtain⟨_,_,rfl⟩:=Yp.1 hs;rfl
 have h0:∀(D:List Nat) (x:Nat),∀s∈[sgB D m.fin x],s.k=0:=fun D x s hs=>by
  rw[Ye] at hs;subst hs;rfl
 have cut:∀(D:List Nat) (x:Nat) (k:Int),(keyS m D x).filter (fun s=>s.k=k)=(if (2:Int)=k then ((m.mv.filter fun y=>y.f=(x:Int)).map (sgM D)).reverse else [])++((if (1:Int)=k then ((m.li.filter fun t=>t.s=(x:Int)).map (sgL m.mv)).reverse else [])++(if (0:Int)=k then [sgB D m.fin x] else [])):=by
  intro D x k;unfold keyS keyH;rw[List.filter_append,List.filter_append,filter_k (h2 D x),filter_k (h1 x),filter_k (h0 D x)]
 refine⟨?_,?_,?_⟩
 .have:=congrArg (List.filter fun s=>s.k=(2:Int)) h;rw[cut,cut] at this;simpa [outM] using this
 .have:=congrArg (List.filter fun s=>s.k=(1:Int)) h;rw[cut,cut] at this;simpa using this
 .have:=congrArg (List.filter fun s=>s.k=(0:Int)) h;rw[cut,cut] at this;simpa using this
theorem keyS_mk {m:Mch} {D:List Nat} {x y:Nat} (h1:(outM m x).map (sgM D)=(outM m y).map (sgM D)) (h2:((m.li.filter fun t=>t.s=(x:Int)).map (sgL m.mv))=((m.li.filter fun t=>t.s=(y:Int)).map (sgL m.mv))) (h3:sgB D m.fin x=sgB D m.fin y):keyS m D x=keyS m D y:=by
 unfold keyS keyH;unfold outM at h1;rw[h1,h2,h3]
theorem outM_sorted {r:Mch} (hS:r.mv.Pairwise mvLt) (s:Nat):(outM r s).Pairwise mvLt:=hS.filter _
theorem outM_f {r:Mch} {s:Nat} {x:Mv} (h:x∈outM r s):x∈r.mv/\x.f=(s:Int):=by
 unfold outM at h;rw[List.mem_filter] at h;exact⟨h.1,by simpa using h.2⟩
theorem can_row {r:Mch} {C:List Nat} {cnt:Nat} {Q:List Nat} {fin:List Bool} {mv:List Mv} {li:List To} (h:CanI r C cnt Q.length Q fin mv li) {i:Nat} (hi:i<Q.length):mv.filter (fun y=>y.f=(i:Int))=(outM r (repQ C Q i)).map (mvQ C Q i):=by
 rw[h.pm,flat_filter (fun k y hy=>by obtain⟨x,_,rfl⟩:=Yp.1 hy;rfl) i,if_pos hi]
theorem mgood {r:Mch} (hR:MRaw r):MGood (minF r):=by
 obtain⟨Q,h1,h2,h3,h4,hc⟩:=minF_can hR.ok;have hn:=hR.ok.n;refine⟨by rw[h1];omega,by rw[h1,h2];omega,by rw[hc.pf,Yc,Yyd,h1];omega,fun x hx=>?_,fun t ht=>?_,?_⟩
 .rw[hc.pm] at hx;obtain⟨i,hi,h5⟩:=List.mem_flatMap.1 hx;have hi:=List.mem_range.1 hi;obtain⟨y,hy,rfl⟩:=Yp.1 h5;have:=idxF_lt (hc.pt i hi y hy);rw[h1];unfold mvQ;simp only;omega
 .obtain⟨i,x,hi,h5,h6,h7,h8,t0,y,h9,h10,h11,h12⟩:=hc.p1 t ht;have:=(Ya.1 h8).1;refine⟨by omega,by rw[h1];omega,h7,by omega,_,h8,?_⟩;rw[h5];rfl
 .rw[hc.pm,List.pairwise_flatMap];refine⟨fun i hi=>?_,?_⟩
  .rw[List.pairwise_map];refine (List.Pairwise.imp_of_mem ?_ (outM_sorted hR.so (repQ (cls r).1 Q i)));intro a b ha hb hab;have fa:=(outM_f ha).2;have fb:=(outM_f hb).2;rcases hab with h | ⟨_,h⟩
   .omega
   .exact .inr ⟨rfl,h⟩
  .refine List.Pairwise.imp ?_ (List.pairwise_lt_range (n:=Q.length));intro i k hik x hx y hy;obtain⟨x',_,rfl⟩:=Yp.1 hx;obtain⟨y',_,rfl⟩:=Yp.1 hy;exact .inl (show (i:Int)<(k:Int) by omega)
theorem limI_none {li:List To} {s:Int} (h:limI li s=none):∀t∈li,t.s≠s:=by
 unfold limI at h;rw[List.findIdx?_eq_none_iff] at h;intro t ht;have:=h t ht;simpa using this
theorem hmin {r:Mch} (hR:MRaw r):HMin (minF r):=by
 obtain⟨Q,h1,h2,h3,h4,hc⟩:=minF_can hR.ok;have hn:=hR.ok.n;have hC:=cls_ok hR.ok;obtain⟨N,hN1,hN2,hN3⟩:=cls_stable hR.ok;have hml:=hR.ok.mv;intro B hB;have hlt:∀i:Nat,(i:Int)<(minF r).n ↔ i<Q.length:=fun i=>by rw[h1];omega
 have hpl:∀x c:Nat,x<r.n.toNat->(cls r).1[x]?=some c->c∈Q->∃i s:Nat,i<Q.length/\i=idxF Q c/\s=repQ (cls r).1 Q i/\s<r.n.toNat/\keyS r (itC r N) x=keyS r (itC r N) s:=by
  intro x c hx hc0 hcQ;refine⟨idxF Q c,idxF (cls r).1 c,idxF_lt hcQ,rfl,?_,?_,?_⟩
  .unfold repQ;rw[getD_some (idxF_get hcQ)]
  .have:=idxF_lt (Yb hc0);rw[hC.cl] at this;exact this
  .refine hN3 _ _ hx (by have:=idxF_lt (Yb hc0);rw[hC.cl] at this;exact this) ?_;rw[hc0,idxF_get (Yb hc0)]
 have main:∀k x y c d:Nat,x<r.n.toNat->y<r.n.toNat->(cls r).1[x]?=some c->(cls r).1[y]?=some d->c∈Q->d∈Q->B (idxF Q c) (idxF Q d)=true->(itC r k)[x]?=(itC r k)[y]?:=by
  intro k
  induction k with
  | zero=>intro x y c d hx hy _ _ _ _ _;rw[itC,List.getElem?_replicate,List.getElem?_replicate,if_pos hx,if_pos hy]
  | succ k ih=>
   intro x y c d hx hy hxc hyd hcQ hdQ hb;refine itC_step hx hy ?_;have ihxy:=ih x y c d hx hy hxc hyd hcQ hdQ hb;obtain⟨i,s1,hi,rfl,hs1,hs1n,hk1⟩:=hpl x c hx hxc hcQ;obtain⟨l,s2,hl,rfl,hs2,hs2n,hk2⟩:=hpl y d hy hyd hdQ;generalize idxF Q c=i at *;generalize idxF Q d=l at *;obtain⟨hbase,hstep⟩:=hB i l ((hlt i).2 hi) ((hlt l).2 hl) hb;obtain⟨p1,p2,p3⟩:=keyS_parts hk1;obtain⟨q1,q2,q3⟩:=keyS_parts hk2;unfold base at hbase;rw[Yt] at hbase;obtain⟨hfin,hlim⟩:=hbase;have hfin:=Yyn hfin;have hgf:∀i:Nat,i<Q.length->(minF r).fin.getD i false=r.fin.getD (repQ (cls r).1 Q i) false:=fun i hi=>by
    refine getD_some ?_;rw[hc.pf,Yd,Yyb hi];rfl
   rw[hgf i hi,hgf l hl,<-hs1,<-hs2] at hfin;have hrow:∀i:Nat,i<Q.length->(minF r).mv.filter (fun y=>y.f=(i:Int))=(outM r (repQ (cls r).1 Q i)).map (mvQ (cls r).1 Q i):=fun i hi=>can_row hc hi;obtain⟨hlen,hst⟩:=hstep;rw[outIx_len,outIx_len,hrow i hi,hrow l hl,Yc,Yc,<-hs1,<-hs2] at hlen;have hpair:∀(j:Nat) (a b:Mv),(outM r s1)[j]?=some a->(outM r s2)[j]?=some b->sameMv (mvQ (cls r).1 Q i a) (mvQ (cls r).1 Q l b)=true/\B (idxF Q ((cls r).1.getD a.t.toNat 0)) (idxF Q ((cls r).1.getD b.t.toNat 0))=true:=by
    intro j a b ha hb';have h5:((minF r).mv.filter (fun y=>y.f=(i:Int)))[j]?=some (mvQ (cls r).1 Q i a):=by rw[hrow i hi,<-hs1,Yd,ha];rfl
    have h6:((minF r).mv.filter (fun y=>y.f=(l:Int)))[j]?=some (mvQ (cls r).1 Q l b):=by rw[hrow l hl,<-hs2,Yd,hb'];rfl
    obtain⟨u,hu⟩:=get_some (l:=outIx (minF r) i) (i:=j) (by rw[outIx_len];exact (Ya.1 h5).1);obtain⟨v,hv⟩:=get_some (l:=outIx (minF r) l) (i:=j) (by rw[outIx_len];exact (Ya.1 h6).1);obtain⟨xu,hxu,h7⟩:=outIx_nth hu;obtain⟨xv,hxv,h8⟩:=outIx_nth hv;rw[h5] at h7;cases h7;rw[h6] at h8;cases h8;have:=hst j u v _ _ hu hv hxu hxv;refine⟨this.1,?_⟩;have h9:=this.2;unfold mvQ at h9;simpa using h9
   refine keyS_mk ?_ ?_ ?_
   .-- moves
    have lx:(outM r x).length=(outM r s1).length:=by have:=congrArg List.length p1;rwa [Yc,Yc] at this
    have ly:(outM r y).length=(outM r s2).length:=by have:=congrArg List.length q1;rwa [Yc,Yc] at this
    apply Yyr;intro j;rw[Yd,Yd];by_cases hj:j<(outM r x).length
    .obtain⟨u,hu⟩:=get_some (l:=outM r x) (i:=j) hj;obtain⟨v,hv⟩:=get_some (l:=outM r y) (i:=j) (by omega);obtain⟨a,ha⟩:=get_some (l:=outM r s1) (i:=j) (by omega);obtain⟨b,hb'⟩:=get_some (l:=outM r s2) (i:=j) (by omega);have e1:sgM (itC r N) u=sgM (itC r N) a:=by
      have:=congrArg (·[j]?) p1;simp only[Yd,hu,ha,Option.map_some,Option.some.injEq] at this;exact this
     have e2:sgM (itC r N) v=sgM (itC r N) b:=by
      have:=congrArg (·[j]?) q1;simp only[Yd,hv,hb',Option.map_some,Option.some.injEq] at this;exact this
     obtain⟨hsm,hBab⟩:=hpair j a b ha hb';have mu:=hml u (outM_f (Yb hu)).1;have mv':=hml v (outM_f (Yb hv)).1;have ma:=hml a (outM_f (Yb ha)).1;have mb:=hml b (outM_f (Yb hb')).1;have tgt:∀p q:Mv,(0<=p.t/\p.t<r.n)->(0<=q.t/\q.t<r.n)->sgM (itC r N) p=sgM (itC r N) q->p.ev=q.ev/\p.ag=q.ag/\(cls r).1[p.t.toNat]?=(cls r).1[q.t.toNat]?:=by
      intro p q hp hq e;unfold sgM at e;simp only[Sg.mk.injEq,true_and] at e;refine⟨e.1,e.2.1,?_⟩;refine (hN2 p.t.toNat q.t.toNat (by omega) (by omega)).2 ?_;obtain⟨z,hz⟩:=get_some (l:=itC r N) (i:=p.t.toNat) (by rw[itC_len];omega);obtain⟨w,hw⟩:=get_some (l:=itC r N) (i:=q.t.toNat) (by rw[itC_len];omega);have e3:=e.2.2;rw[getD_some hz,getD_some hw] at e3;rw[hz,hw];congr 1;omega
     obtain⟨eu1,eu2,eu3⟩:=tgt u a ⟨mu.2.2.1,mu.2.2.2.1⟩ ⟨ma.2.2.1,ma.2.2.2.1⟩ e1;obtain⟨ev1,ev2,ev3⟩:=tgt v b ⟨mv'.2.2.1,mv'.2.2.2.1⟩ ⟨mb.2.2.1,mb.2.2.2.1⟩ e2;obtain⟨ca,hca⟩:=get_some (l:=(cls r).1) (i:=a.t.toNat) (by rw[hC.cl];omega);obtain⟨cb,hcb⟩:=get_some (l:=(cls r).1) (i:=b.t.toNat) (by rw[hC.cl];omega);have hcaQ:ca∈Q:=by have:=hc.pt i hi a (by rw[<-hs1];exact Yb ha);rwa [getD_some hca] at this
     have hcbQ:cb∈Q:=by have:=hc.pt l hl b (by rw[<-hs2];exact Yb hb');rwa [getD_some hcb] at this
     rw[getD_some hca,getD_some hcb] at hBab;have hit:=ih u.t.toNat v.t.toNat ca cb (by omega) (by omega) (by rw[eu3];exact hca) (by rw[ev3];exact hcb) hcaQ hcbQ hBab;unfold sameMv mvQ at hsm;simp only[decide_eq_true_eq] at hsm;have hab:a.ev=b.ev:=ev_ext hsm.1 hsm.2.1 hsm.2.2.1;rw[hu,hv,Option.map_some,Option.map_some];congr 1;unfold sgM;rw[eu1,ev1,hab,eu2,ev2,hsm.2.2.2];congr 2;rw[Yo,Yo,hit]
    .rw[Yl (by omega),Yl (by omega)]
   .-- limits
    rw[p2,q2,hR.one,hR.one];have hfindS:∀ {i:Nat},i<Q.length->∀t0,mget (limM r.li) ((repQ (cls r).1 Q i:Nat):Int)=some t0->∃idx,limI (minF r).li (i:Int)=some idx:=by
     intro i hi t0 h0;have htm:=limM_mem (mget_mem h0);obtain⟨y0,hy0,hyf⟩:=hR.l1 t0 htm.1;obtain⟨t,ht,hts⟩:=hc.p2 i hi t0 y0 h0 hy0 ⟨y0,by unfold outM;exact List.mem_filter.2 ⟨Yb hy0,by simp only[decide_eq_true_eq];rw[hyf];exact htm.2⟩,rfl⟩;cases hl:limI (minF r).li (i:Int) with
     | some idx=>exact⟨idx,rfl⟩
     | none=>exact absurd hts (limI_none hl t ht)
    have hfindL:∀ {i idx:Nat},i<Q.length->limI (minF r).li (i:Int)=some idx->∃t x,(minF r).li[idx]?=some t/\LimOf r (cls r).1 Q (minF r).mv t i x:=by
     intro i idx hi h0;obtain⟨t,ht,hts⟩:=limI_lt h0;obtain⟨i',x,hi',hL⟩:=hc.p1 t (Yb ht);have:i'=i:=by have:=hL.1;omega
     subst this;exact⟨t,x,ht,hL⟩
    rw[hs1,hs2];unfold sameLim at hlim;cases h0:mget (limM r.li) ((repQ (cls r).1 Q i:Nat):Int) with
    | none=>
     cases h0':mget (limM r.li) ((repQ (cls r).1 Q l:Nat):Int) with
     | none=>rfl
     | some t0'=>
      exfalso;obtain⟨idx,hidx⟩:=hfindS hl t0' h0';rw[hidx] at hlim;cases h5:limI (minF r).li (i:Int) with
      | none=>rw[h5] at hlim;cases hlim
      | some idx2=>
       obtain⟨t,x,_,hL⟩:=hfindL hi h5;obtain⟨_,_,_,_,t0,_,h6,_⟩:=hL;rw[h0] at h6;cases h6
    | some t0=>
     obtain⟨idx,hidx⟩:=hfindS hi t0 h0;cases h0':mget (limM r.li) ((repQ (cls r).1 Q l:Nat):Int) with
     | none=>
      exfalso;rw[hidx] at hlim;cases h5:limI (minF r).li (l:Int) with
      | none=>rw[h5] at hlim;cases hlim
      | some idx2=>
       obtain⟨t,x,_,hL⟩:=hfindL hl h5;obtain⟨_,_,_,_,t0,_,h6,_⟩:=hL;rw[h0'] at h6;cases h6
     | some t0'=>
      obtain⟨idx',hidx'⟩:=hfindS hl t0' h0';obtain⟨t,xx,ht,hL⟩:=hfindL hi hidx;obtain⟨t',xx',ht',hL'⟩:=hfindL hl hidx';obtain⟨_,_,_,g4,u0,y0,g5,g6,g7,g8⟩:=hL;obtain⟨_,_,_,g4',u0',y0',g5',g6',g7',g8'⟩:=hL';rw[h0] at g5;cases g5;rw[h0'] at g5';cases g5';simp only[hidx,hidx',ht,ht',g4,g4'] at hlim;rw[Yt] at hlim;have hk:=Yyn hlim.1;have hsm:=hlim.2;unfold sameMv mvQ at hsm;simp only[decide_eq_true_eq] at hsm;have hev:xx.ev=xx'.ev:=ev_ext hsm.1 hsm.2.1 hsm.2.2.1;show [sgL r.mv t0]=[sgL r.mv t0'];unfold sgL;rw[g6,g6',<-g7,<-g7',hk];simp only;rw[<-g8,<-g8',hev]
   .-- finals
    unfold sgB at p3 q3 ⊢;simp only[Sg.mk.injEq,true_and,and_true] at p3 q3 ⊢;refine⟨?_,?_⟩
    .rw[Yo,Yo,ihxy]
    .rw[p3.2,q3.2,hfin]
 intro i l hi hl hb;have hi:=(hlt i).1 hi;have hl:=(hlt l).1 hl;obtain⟨c,hc1⟩:=get_some (l:=Q) (i:=i) hi;obtain⟨d,hd1⟩:=get_some (l:=Q) (i:=l) hl;have hcQ:=Yb hc1;have hdQ:=Yb hd1;have hci:=hC.cs c (hc.pq.lt c hcQ);have hdi:=hC.cs d (hc.pq.lt d hdQ);have ix:∀ {i c:Nat},Q[i]?=some c->idxF Q c=i:=fun {i c} h=>by
  have hm:=Yb h;exact (List.getElem?_inj (idxF_lt hm) hc.pq.nd).1 ((idxF_get hm).trans h.symm)
 have:=main (N+1) (idxF (cls r).1 c) (idxF (cls r).1 d) c d (by have:=idxF_lt hci;rw[hC.cl] at this;exact this) (by have:=idxF_lt hdi;rw[hC.cl] at this;exact this) (idxF_get hci) (idxF_get hdi) hcQ hdQ (by rw[ix hc1,ix hd1];exact hb);rw[<-hN1,idxF_get hci,idxF_get hdi] at this;have hcd:=Yyp this;subst hcd;rw[<-ix hc1,<-ix hd1]
end Go.VC
end

section
namespace Go.VC
open Go.Proofs Go.LexS
theorem limR_facts {n:Nat} {o:Ti} {M:List Mv} (hM:M.Pairwise mvLt):(limR n o M).length<=1/\∀t∈limR n o M,t.s=(n:Int)/\∃y,M[t.e.toNat]?=some y/\y.f=(n:Int):=by
 have hmem:∀t∈limR n o M,t.s=(n:Int)/\∃(i:Nat) (y:Mv),t.e=(i:Int)/\M[i]?=some y/\y.f=(n:Int)/\y.ev=o.x:=by
  intro t ht;unfold limR at ht;obtain⟨q,hq,h2⟩:=Yym.1 ht;obtain⟨y,i⟩:=q;rw[List.mem_zipIdx_iff_getElem?] at hq;unfold limC at h2;split at h2
  .rename_i hc;cases h2;refine⟨rfl,i,y,rfl,hq,hc.1,?_⟩;rw[hc.2.2.2];exact ev_ext hc.2.1 rfl rfl
  .cases h2
 refine⟨?_,fun t ht=>?_⟩
 .have key:∀k,k<=M.length->((M.take k).zipIdx.filterMap (limC n o)).length<=1/\((∃i y,i<k/\M[i]?=some y/\limC n o (y,i)≠none)\/(M.take k).zipIdx.filterMap (limC n o)=[]):=by
   intro k
   induction k with
   | zero=>intro _;exact⟨by simp,.inr rfl⟩
   | succ k ih=>
    intro hk;obtain⟨y,hy⟩:=get_some (l:=M) (i:=k) (by omega);obtain⟨h1,h2⟩:=ih (by omega);rw[zip_snoc hy,List.filterMap_append];cases hl:limC n o (y,k) with
    | none=>
     have e:[(y,k)].filterMap (limC n o)=[]:=by simp[hl]
     rw[e,Yw];refine⟨h1,?_⟩;rcases h2 with ⟨i,z,hi,h3,h4⟩ | h2
     .exact .inl ⟨i,z,by omega,h3,h4⟩
     .exact .inr h2
    | some t=>
     have e:[(y,k)].filterMap (limC n o)=[t]:=by simp[hl]
     rw[e];rcases h2 with ⟨i,z,hi,h3,h4⟩ | h2
     .exfalso;have hz:z.f=(n:Int)/\z.ev=o.x:=by
       unfold limC at h4;split at h4
       .rename_i hc;exact⟨hc.1,by rw[hc.2.2.2];exact ev_ext hc.2.1 rfl rfl⟩
       .exact absurd rfl h4
      have hyy:y.f=(n:Int)/\y.ev=o.x:=by
       unfold limC at hl;split at hl
       .rename_i hc;exact⟨hc.1,by rw[hc.2.2.2];exact ev_ext hc.2.1 rfl rfl⟩
       .cases hl
      rcases mvLt_get hM hi h3 hy with h5 | ⟨_,h5⟩
      .omega
      .rw[hz.2,hyy.2] at h5;exact evLt_irr _ h5
     .rw[h2];exact⟨by simp,.inl ⟨k,y,by omega,hy,by rw[hl];simp⟩⟩
  have:=(key M.length (Yyt _)).1;rw[Yye] at this;exact this
 .obtain⟨h1,i,y,h2,h3,h4,_⟩:=hmem t ht;exact⟨h1,y,by rw[h2,Ys];exact h3,h4⟩
theorem rawL_lims {vw:List Nat->Option Ti}:∀(n:Nat) (S:List PSet) (M:List Mv) (L:List To) {M':List Mv} {L':List To},M.Pairwise mvLt->(L.map (·.s)).Nodup->(∀t∈L,t.s<(n:Int)/\∃y,M[t.e.toNat]?=some y/\y.f=t.s)->rawL vw n S M L=some (M',L') ->
  (L'.map (·.s)).Nodup/\∀t∈L',∃y,M'[t.e.toNat]?=some y/\y.f=t.s
 | n,[],M,L,M',L',_,hL,hl,h=>by cases h;exact⟨hL,fun t ht=>(hl t ht).2⟩
 | n,p::S,M,L,M',L',hM,hL,hl,h=>by
  rw[rawL] at h;cases hv:vw (elems p) with
  | none=>rw[hv] at h;cases h
  | some o=>
   rw[hv] at h;replace h:rawL vw (n+1) S (M.map (updR n o)) (L++limR n o M)=some (M',L'):=h;have hup:∀x,(updR n o x).f=x.f/\(updR n o x).ev=x.ev:=fun x=>by
    obtain⟨h1,h2,h3,h4,h5⟩:=updR_same n o x;exact⟨h1,by unfold Mv.ev;rw[h2,h3,h4]⟩
   obtain⟨f1,f2⟩:=limR_facts (n:=n) (o:=o) hM;refine rawL_lims (n+1) S (M.map (updR n o)) (L++limR n o M) ?_ ?_ ?_ h
   .rw[List.pairwise_map];refine hM.imp fun {a b} hab=>?_;unfold mvLt at hab ⊢;rw[(hup a).1,(hup b).1,(hup a).2,(hup b).2];exact hab
   .rw[Ym,List.nodup_append];refine⟨hL,?_,fun a ha b hb e=>?_⟩
    .generalize limR n o M=l at f1
     match l,f1 with
     | [],_=>simp
     | [a],_=>simp
    .obtain⟨t,ht,rfl⟩:=Yp.1 ha;obtain⟨u,hu,rfl⟩:=Yp.1 hb;have h5:=(hl t ht).1;have h6:=(f2 u hu).1;omega
   .intro t ht;have get:∀ {i:Nat} {y:Mv},M[i]?=some y->(M.map (updR n o))[i]?=some (updR n o y):=fun h=>by rw[Yd,h];rfl
    rcases Yk.1 ht with ht | ht
    .obtain⟨h5,y,h6,h7⟩:=hl t ht;exact⟨by omega,_,get h6,by rw[(hup y).1];exact h7⟩
    .obtain⟨h5,y,h6,h7⟩:=f2 t ht;exact⟨by omega,_,get h6,by rw[(hup y).1,h7,h5]⟩
theorem raw_raw {g:Gl} {role:Int} {m:Mch} (hr:g.rs.length<=1048576) (hd:g.ds.length<=1048576) (h:raw g role=(some m,0)):MRaw m:=by
 obtain⟨hO,hS⟩:=raw_ok hr hd h;refine⟨hO,hS,?_,?_⟩;all_goals
  unfold raw at h;split at h
  .cases h
  .rename_i hv;obtain⟨hV,hr0,hr1⟩:=Decidable.not_not.1 hv;cases hw:views g role with
   | none=>rw[hw] at h;cases h
   | some q=>
    obtain⟨S,M⟩:=q;rw[hw] at h;replace h:(if M.length>400 then ((none,6):Option Mch × Int) else
     match rawL (vwG g role) 0 S M [] with
     | none=>(none,18)
     | some (M',L)=>(some ⟨role,S.length,0,S.map (fun p=>p g.e.toNat),M',L⟩,0))=(some m,0):=h
    split at h
    .cases h
    .cases hl:rawL (vwG g role) 0 S M [] with
     | none=>rw[hl] at h;cases h
     | some q=>
      obtain⟨M',L⟩:=q;rw[hl] at h;cases h;have:=rawL_lims 0 S M [] (views_vi hV hw).1.so List.nodup_nil (fun t ht=>by cases ht) hl;first | exact this.2 | exact this.1
theorem minF_lens {r:Mch} (hR:MRaw r):(minF r).mv.length<=1048576/\(minF r).li.length<=1048576:=by
 have key:∀(f hd:Nat) (Q:List Nat) (fin:List Bool) (mv:List Mv) (li:List To),mv.length<=hd*400->li.length<=hd*400->hd<=202-f->f<=202->(minN r (cls r).1 f hd Q fin mv li).mv.length<=80800/\(minN r (cls r).1 f hd Q fin mv li).li.length<=80800:=by
  intro f
  induction f with
  | zero=>intro hd Q fin mv li h1 h2 h3 _;rw[minN];have:hd*400<=80800:=(by omega);exact⟨Yys h1 this,Yys h2 this⟩
  | succ f ih=>
   intro hd Q fin mv li h1 h2 h3 hf;rw[minN];cases hq:Q[hd]? with
   | none=>have:hd*400<=80800:=(by omega);exact⟨Yys h1 this,Yys h2 this⟩
   | some c=>
    have hfold:∀(l:List Mv) (tl:Option To) (st:List Nat × List Mv × List To),(l.foldl (minX r (cls r).1 hd tl) st).2.1.length=st.2.1.length+l.length/\(l.foldl (minX r (cls r).1 hd tl) st).2.2.length<=st.2.2.length+l.length:=by
     intro l tl
     induction l with
     | nil=>intro st;exact⟨rfl,Yyt _⟩
     | cons a l ih2=>
      intro st;rw[List.foldl_cons,Yyj];have h4:=ih2 (minX r (cls r).1 hd tl st a);have h5:=minX_len r (cls r).1 hd tl st a;omega
    have hout:(outM r (idxF (cls r).1 c)).length<=400:=Yys (List.length_filter_le _ _) hR.ok.ml;have h6:=hfold (outM r (idxF (cls r).1 c)) (mget (limM r.li) (idxF (cls r).1 c:Nat)) (Q,mv,li);simp only at h6;exact ih (hd+1) _ _ _ _ (by omega) (by omega) (by omega) (by omega)
 have:=key 202 0 [(cls r).1.getD r.s.toNat 0] [] [] [] (by simp) (by simp) (by omega) (by omega);unfold minF;omega
theorem proj_law {g:Gl} {role:Int} (hr:g.rs.length<=1048576) (hd:g.ds.length<=1048576):∀m,proj g role=(some m,0)->MGood m/\HMin m/\m.mv.length<=1048576/\m.li.length<=1048576:=by
 intro m h;unfold proj at h;cases hw:raw g role with
 | mk o e=>
  rw[hw] at h;cases o with
  | none=>cases h
  | some r=>
   cases h;have he:raw g role=(some r,0):=by
    rw[hw];unfold raw at hw;congr 1;split at hw
    .cases hw
    .split at hw
     .cases hw
     .split at hw
      .cases hw
      .split at hw
       .cases hw
       .cases hw;rfl
   have hR:=raw_raw hr hd he;have hl:=minF_lens hR;exact⟨mgood hR,hmin hR,hl.1,hl.2⟩
theorem letter199 (b:UInt8) (h:Heap):Fn Pz 199 #[.int .u8 b.toNat] h fun v h'=>v=.bool (lt b)/\h'=h:=by
 apply vc199;unfold W199;unfold lt isLetter;generalize (b.toNat:Int)=n
 repeat' first
  | refine sBi (fun _=>?_) (fun _=>?_)
 all_goals
  refine⟨?_,rfl⟩;congr 1;rw[Bool.eq_iff_iff];simp only[Bool.or_eq_true,Yt,decide_eq_true_eq,Bool.false_eq_true,true_iff,false_iff];omega
theorem digit240 (b:UInt8) (h:Heap):Fn Pz 240 #[.int .u8 b.toNat] h fun v h'=>v=.bool (dg b)/\h'=h:=by
 apply vc240;unfold W240;unfold dg isDigit;refine sBi (fun c=>⟨?_,rfl⟩) (fun c=>⟨?_,rfl⟩)
 .rw[decide_eq_true (p:=(48:Int)<=b.toNat) c,Bool.true_and]
 .rw[decide_eq_false (p:=(48:Int)<=b.toNat) c,Bool.false_and]
theorem inner200 (b:UInt8) (h:Heap):Fn Pz 200 #[.int .u8 b.toNat] h fun v h'=>v=.bool (inn b)/\h'=h:=by
 apply vc200;unfold W200;refine (letter199 b h).mono ?_;rintro _ h3 ⟨rfl,rfl⟩;refine⟨_,rfl,sB_intro (fun c=>?_) (fun c=>?_)⟩
 .exact⟨by rw[show inn b=(lt b||dg b||((b.toNat:Int)==95)) from rfl,c];rfl,rfl⟩
 .refine (digit240 b _).mono ?_;rintro _ h6 ⟨rfl,rfl⟩;refine⟨_,rfl,sB_intro (fun d=>?_) (fun d=>?_)⟩
  .exact⟨by rw[show inn b=(lt b||dg b||((b.toNat:Int)==95)) from rfl,c,d];rfl,rfl⟩
  .exact⟨by rw[show inn b=(lt b||dg b||((b.toNat:Int)==95)) from rfl,c,d];rfl,rfl⟩
theorem isName152 (s:ByteArray) (h:Heap):Fn Pz 152 #[.string s] h fun v h'=>v=.bool (isName s.data.toList)/\h'=h:=by
 apply vc152;unfold W152;have hsz:=size_len s;rw[strEq];generalize hL:s.data.toList=L at *;refine sB_intro (fun he=>?_) (fun he=>?_)
 .have:L=[]:=Yyn he;subst this;exact⟨rfl,rfl⟩
 .have hne:L≠[]:=Yyo he;have hpos:0<L.length:=List.length_pos_iff.2 hne;obtain⟨b,hb,hby⟩:=byte_get (s:=s) (i:=0) (by omega);rw[hL] at hb;have hcons:L=b::L.drop 1:=by have:=drop_cons hb;rwa [List.drop_zero] at this
  have hdef:isName L=(decide (L.length<=16)&&lt b&&L.all inn):=by
   conv=>lhs;rw[hcons]
   rw[isName,<-hcons]
  rw[hdef];refine⟨⟨by omega,by omega⟩,?_⟩;rw[show Int.toNat 0=0 from rfl,hby];refine (letter199 _ _).mono ?_;rintro v h3 ⟨rfl,rfl⟩;refine⟨_,rfl,sB_intro (fun hlet=>?_) (fun hlet=>?_)⟩
  .refine⟨?_,rfl⟩;rw[show lt b=false from by rw[Bool.not_eq_true'] at hlet;exact hlet,Bool.and_false];rfl
  rw[show lt b=true from by rw[Bool.not_eq_false'] at hlet;exact hlet];refine sB_intro (fun hgt=>?_) (fun hgt=>?_)
  .refine⟨?_,rfl⟩;rw[decide_eq_false (by have:=Yyn hgt;omega)];rfl
  .have h16:L.length<=16:=by have:=Yyo hgt;omega
   rw[decide_eq_true h16];refine up_loop (n:=s.size) (fun i h'=>h'=h3/\∀(j:Nat) (b:UInt8),j<i->L[j]?=some b->(!inn b)=false) ⟨rfl,fun j b hj=>by omega⟩ ?_;rintro-i h8 hi ⟨rfl,hd⟩;refine sB_intro (fun hlt=>?_) (fun hge=>?_)
   .have hlt':=lt_t hlt;obtain⟨y,hy,hby2⟩:=byte_get hlt';rw[hL] at hy;refine⟨⟨by omega,by omega⟩,?_⟩;rw[show Int.toNat (i:Int)=i from rfl,hby2];refine (inner200 _ _).mono ?_;rintro v h11 ⟨rfl,rfl⟩;refine⟨_,rfl,sB_intro (fun hp=>?_) (fun hp=>?_)⟩
    .refine⟨?_,rfl⟩;have:L.all inn=false:=by
      rw[<-Bool.not_eq_true,all_split];intro hh;have:=hh y i hy;rw[Bool.not_eq_true'] at hp;rw[show inn y=false from hp] at this;cases this
     rw[this];rfl
    .exact Up.next hlt' (by omega) ⟨rfl,scan_next (p:=fun b=>!inn b) hy hp hd⟩
   .have hge':=lt_f hge;refine⟨?_,rfl⟩;rw[(all_split inn L).2 fun b j hb=>by simpa using hd j b (by have:=(Ya.1 hb).1;omega) hb];rfl
theorem in153 (l:List Nm) (s:Sl) (x:ByteArray) (h:Heap) (hr:Rw h 1 s (l.map nmC)) (hm:l.length<=1048576):Fn Pz 153 #[.slice s.a s.n s.c,.string x] h fun v h'=>v=.bool (decide (x.data.toList∈l))/\h'=h:=by
 apply vc153;unfold W153;have hn:=hr.ln;refine up_loop (n:=s.n) (fun i h'=>h'=h/\x.data.toList∉l.take i) ⟨rfl,fun e=>by simp at e⟩ ?_;rintro-i h8 hi ⟨rfl,hd⟩;refine sB_intro (fun c=>?_) (fun c=>?_)
 .replace c:=lt_t c;refine hr.nbI (by omega) (by omega) fun b o d g t=>?_;replace g:l[i]?=some d:=g;refine⟨_,t.hd,?_⟩;rw[strEq,bs_list];refine sB_intro (fun he=>?_) (fun hne=>?_)
  .replace he:=Yyn he;exact⟨by rw[decide_eq_true (by first | (rw[he];exact Yb g) | (rw[<-he];exact Yb g))],rfl⟩
  .replace hne:=Yyo hne;refine Up.next c (by omega) ⟨rfl,fun hm2=>?_⟩;rw[List.take_add_one,g] at hm2;rcases Yk.1 hm2 with hm2 | hm2
   .exact hd hm2
   .first | exact hne (Ye.1 hm2) | exact hne (Ye.1 hm2).symm
 .replace c:=lt_f c;refine⟨?_,rfl⟩;rw[Yj (by omega)] at hd;rw[decide_eq_false hd]
theorem index112 (l:List Nm) (s:Sl) (x:ByteArray) (h:Heap) (hr:Rw h 1 s (l.map nmC)) (hm:l.length<=1048576):Fn Pz 112 #[.slice s.a s.n s.c,.string x] h fun v h'=>(∃k:Int,v=.int .i64 k/\(∀i:Nat,i<l.length->(k<(i:Int) ↔ x.data.toList∈l.take i\/x.data.toList∉l)))/\h'=h:=by
 apply vc112;unfold W112;have hn:=hr.ln;refine up_loop (n:=s.n) (fun i h'=>h'=h/\x.data.toList∉l.take i) ⟨rfl,fun e=>by simp at e⟩ ?_;rintro-i h8 hi ⟨rfl,hd⟩;refine sB_intro (fun c=>?_) (fun c=>?_)
 .replace c:=lt_t c;refine hr.nbI (by omega) (by omega) fun b o d g t=>?_;replace g:l[i]?=some d:=g;refine⟨_,t.hd,?_⟩;rw[strEq,bs_list];refine sB_intro (fun he=>?_) (fun hne=>?_)
  .replace he:=Yyn he;have he2:x.data.toList=d:=by first | exact he | exact he.symm
   have hmem:x.data.toList∈l:=by rw[he2];exact Yb g
   refine⟨⟨_,rfl,fun k hk=>⟨fun hik=>.inl ?_,fun hor=>?_⟩⟩,rfl⟩
   .have:l[i]?=some x.data.toList:=by rw[he2];exact g
    exact Yb (i:=i) (by rw[Yyf,if_pos (by omega)];exact this)
   .rcases hor with hor | hor
    .apply Classical.byContradiction;intro hki;have:l.take k=(l.take i).take k:=by rw[List.take_take,Nat.min_eq_left (by omega)]
     rw[this] at hor;exact hd (List.mem_of_mem_take hor)
    .exact absurd hmem hor
  .replace hne:=Yyo hne;refine Up.next c (by omega) ⟨rfl,fun hm2=>?_⟩;rw[List.take_add_one,g] at hm2;rcases Yk.1 hm2 with hm2 | hm2
   .exact hd hm2
   .first | exact hne (Ye.1 hm2) | exact hne (Ye.1 hm2).symm
 .replace c:=lt_f c;rw[Yj (by omega)] at hd;exact⟨⟨_,rfl,fun k hk=>⟨fun _=>.inr hd,fun _=>by omega⟩⟩,rfl⟩
def kwB:List ByteArray:=[⟨#[97,103,97,105,110]⟩,⟨#[97,110,100]⟩,⟨#[97,115]⟩,⟨#[97,116]⟩,⟨#[99,97,108,108]⟩,⟨#[99,104,111,105,99,101]⟩,⟨#[101,108,115,101]⟩,⟨#[102,114,111,109]⟩,⟨#[105,102]⟩,⟨#[105,110,116]⟩,⟨#[108,101,110]⟩,⟨#[108,111,111,112]⟩,⟨#[109,101,115,115,97,103,101]⟩,⟨#[111,102]⟩,⟨#[111,102,102,101,114]⟩,⟨#[111,110]⟩,⟨#[111,114]⟩,⟨#[112,97,114]⟩,⟨#[112,108,97,121,115]⟩,⟨#[112,114,111,116,111,99,111,108]⟩,⟨#[115,101,114,118,105,99,101]⟩,⟨#[116,101,120,116]⟩,⟨#[116,105,109,101,115]⟩,⟨#[116,111]⟩,⟨#[118,97,114]⟩,⟨#[119,104,101,114,101]⟩,⟨#[119,104,105,108,101]⟩,⟨#[119,105,116,104,105,110]⟩]
theorem kwB_eq:(kwB.map fun b=>b.data.toList)=keywords:=rfl
theorem keywords154 (h:Heap):Fn Pz 154 #[] h fun v h'=>Ext h h'/\∃s:Sl,v=.slice s.a s.n s.c/\Rw h' 1 s (keywords.map nmC):=by
 apply vc154;unfold W154;intro h1 e;have ho:Own h1 h.size (kwB.map Value.string) 9:=by rw[e];exact Own.push
 have hl:kwB.length=28:=rfl;rw[<-kwB_eq];refine⟨by rw[e];exact Ext.push _ _,⟨some ⟨h.size,0,none⟩,28,28⟩,rfl,by rw[Yc,Yc,hl],fun _=>⟨h.size,0,rfl,fun i row hi=>?_⟩⟩;rw[List.map_map,Yd] at hi;obtain⟨x,hx1,hx2⟩:=Yya.1 hi;subst hx2;refine ho.atC fun j v hj=>?_
 match j,hj with
 | 0,hj=>cases hj;rw[show 0+i*1+0=i by omega,Yd,hx1];rfl
theorem isWord111 (s:ByteArray) (h:Heap):Fn Pz 111 #[.string s] h fun v h'=>v=.bool (isWord s.data.toList)/\Ext h h':=by
 apply vc111;unfold W111;refine (isName152 s h).mono ?_;rintro _ h3 ⟨rfl,rfl⟩;refine⟨_,rfl,sB_intro (fun c=>?_) (fun c=>?_)⟩
 .refine (keywords154 h3).mono ?_;rintro _ h6 ⟨E2,k,rfl,hk⟩;refine⟨_,rfl,?_⟩;refine (in153 _ k s h6 hk (by decide)).mono ?_;rintro _ h9 ⟨rfl,rfl⟩;exact⟨_,rfl,by rw[isWord,c];rfl,E2⟩
 .exact⟨by rw[isWord,c];rfl,.rfl'⟩
theorem word201 (s:ByteArray) (h:Heap):Fn Pz 201 #[.string s] h fun v h'=>v=.bool (isWord s.data.toList)/\Ext h h':=by
 apply vc201;unfold W201;refine (isWord111 s h).mono ?_;rintro _ h3 ⟨rfl,E⟩;exact⟨_,rfl,rfl,E⟩
theorem ix_one {l:Nm}:Lib.index l [46]=Lib.indexByte l 46:=Lib.index_one l 46
theorem pieces_none {l:Nm} (hn:∀k:Nat,l[k]?≠some 46):pieces l=[l]:=by
 have h1:Lib.index l [46]=-1:=by
  have h0:=Lib.index_ge l [46];apply Classical.byContradiction;intro h2;obtain⟨o,ho⟩:∃o:Nat,Lib.index l [46]=o:=⟨(Lib.index l [46]).toNat,by omega⟩;rw[ix_one] at ho;exact hn o (Lib.indexByte_some ho).1
 unfold pieces Lib.split;rw[Lib.count_miss h1];rfl
theorem pieces_hit {l:Nm} {i:Nat} (hi:l[i]?=some 46) (hn:∀k:Nat,k<i->l[k]?≠some 46):pieces l=l.take i::pieces (l.drop (i+1)):=by
 have h1:Lib.index l [46]=(i:Int):=by
  have h0:=Lib.index_ge l [46];have h2:Lib.index l [46] ≠ -1:=fun h2=>by rw[ix_one] at h2;exact Lib.indexByte_none h2 i hi
  obtain⟨o,ho⟩:∃o:Nat,Lib.index l [46]=o:=⟨(Lib.index l [46]).toNat,by omega⟩;have h3:=Lib.indexByte_some (ix_one (l:=l) ▸ ho);have:o=i:=by
   rcases Nat.lt_trichotomy o i with h | h | h
   .exact absurd h3.1 (hn o h)
   .exact h
   .exact absurd hi (h3.2 i h)
  rw[ho,this]
 unfold pieces Lib.split;rw[Lib.count_hit (i:=i) (by decide) h1,Nat.add_comm 1,Lib.splitK,if_neg (by rw[h1];intro e;have:=eq_of_beq e;omega),h1];rfl
theorem isPath157 (s:ByteArray) (h:Heap) (hs:s.size<=1048576):Fn Pz 157 #[.string s] h fun v h'=>v=.bool (isPath s.data.toList)/\Ext h h':=by
 apply vc157;unfold W157 V157a;have hsz:=size_len s;generalize hL:s.data.toList=L at *;refine⟨fun f i h' m=>∃a b:Nat,f=a/\i=b/\a<=b/\b<=s.size+1/\m=s.size+1-b/\Ext h h'/\(b<=s.size->(∀k:Nat,a<=k->k<b->L[k]?≠some 46)/\(pieces L).all isWord=(pieces (L.drop a)).all isWord)/\(s.size<b->(pieces L).all isWord=true),⟨_,0,0,rfl,rfl,Yyt _,by omega,rfl,.rfl',fun _=>⟨fun k _ hk=>by omega,rfl⟩,fun hb=>by omega⟩,?_⟩;rintro-_ _ h6 m ⟨a,b,rfl,rfl,hab,hb,rfl,E,hq,hz⟩;refine sB_intro (fun c=>?_) (fun c=>?_)
 .replace c:=Yyn c;have hbs:b<=s.size:=by omega
  obtain⟨q1,q2⟩:=hq hbs;have hw:IntKind.wrap .i64 ((b:Int)+1)=((b+1:Nat):Int):=by rw[w64 (by omega) (by omega)];omega
  have hsl:(s.extract (Int.toNat (a:Int)) (Int.toNat (b:Int))).data.toList=(L.drop a).take (b-a):=by
   rw[show Int.toNat (a:Int)=a from rfl,show Int.toNat (b:Int)=b from rfl,ext_data,hL]
  refine sB_intro (fun c2=>?_) (fun c2=>?_)
  .have hbe:b=s.size:=by
    have:(b:Int)=s.size:=by simpa using c2
    omega
   have hp:pieces (L.drop a)=[L.drop a]:=pieces_none fun k hk=>by
    rw[List.getElem?_drop] at hk;exact q1 (a+k) (by omega) (by have:=(Ya.1 hk).1;omega) hk
   have hta:(L.drop a).take (b-a)=L.drop a:=Yj (by rw[List.length_drop];omega);refine⟨⟨by omega,by omega,by omega⟩,?_⟩;refine (word201 _ h6).mono ?_;rintro _ h9 ⟨rfl,E2⟩;rw[hsl,hta];rw[hp,List.all_cons,List.all_nil,Bool.and_true] at q2;refine⟨_,rfl,sB_intro (fun c3=>?_) (fun c3=>⟨_,by omega,b+1,b+1,hw,hw,by omega,by omega,rfl,E.trans E2,fun hb2=>by omega,fun _=>?_⟩)⟩
   .refine⟨?_,E.trans E2⟩;rw[isPath,q2,bF c3,Bool.and_false]
   .rw[q2,bT c3]
  .have hne:(b:Int)≠s.size:=by simpa using c2
   obtain⟨y,hy,hby⟩:=byte_get (s:=s) (i:=b) (by omega);rw[hL] at hy;refine⟨⟨by omega,by omega⟩,?_⟩;rw[show Int.toNat (b:Int)=b from rfl] at *;rw[hby];refine sB_intro (fun c3=>?_) (fun c3=>⟨_,by omega,a,b+1,rfl,hw,by omega,by omega,rfl,E,fun _=>⟨fun k hk1 hk2=>?_,q2⟩,fun hb2=>by omega⟩)
   .have hy46:y=46:=by
     have h4:(y.toNat:Int)=46:=by simpa using c3
     exact UInt8.toNat_inj.1 (by rw[show (46:UInt8).toNat=46 from rfl];omega)
    subst hy46;have hp:pieces (L.drop a)=(L.drop a).take (b-a)::pieces ((L.drop a).drop (b-a+1)):=pieces_hit (by rw[List.getElem?_drop,show a+(b-a)=b by omega];exact hy) fun k hk=>by
     rw[List.getElem?_drop];exact q1 (a+k) (by omega) (by omega)
    rw[List.drop_drop,show a+(b-a+1)=b+1 by omega] at hp;rw[hp,List.all_cons] at q2;refine⟨⟨by omega,by omega,by omega⟩,?_⟩;refine (word201 _ h6).mono ?_;rintro _ h9 ⟨rfl,E2⟩;rw[hsl];refine⟨_,rfl,sB_intro (fun c4=>?_) (fun c4=>⟨_,by omega,b+1,b+1,hw,hw,by omega,by omega,rfl,E.trans E2,fun hb2=>⟨fun k _ _=>by omega,?_⟩,fun hb2=>by omega⟩)⟩
    .refine⟨?_,E.trans E2⟩;rw[isPath,q2,bF c4,Bool.false_and,Bool.and_false]
    .rw[q2,bT c4,Bool.true_and]
   .by_cases hkb:k=b
    .subst hkb;rw[hy];intro e;cases e;simp at c3
    .exact q1 k hk1 (by omega)
 .replace c:=Yyo c;refine⟨?_,E⟩;rw[isPath,hz (by omega),Bool.and_true];first | rfl | (congr 1;rw[decide_eq_decide];omega)
theorem vars155 (ds:List Dc) (s:Sl) (h:Heap) (hd:DL h s ds):Fn Pz 155 #[.slice s.a s.n s.c] h fun v h'=>v=.int .i64 ((allF ds).length:Nat)/\(allF ds).length<=1099511627776/\h'=h:=by
 apply vc155;unfold W155;have hn:=hd.r.ln;have hm:=hd.r.sm;have hle:∀i,i<=ds.length->(allF (ds.take i)).length<=i*1048576:=fun i hi=>by
  have:=allF_le (ds.take i) fun d hd2=>(hd.i d (List.mem_of_mem_take hd2)).pf.sm;rw[Yu,Nat.min_eq_left hi] at this;exact this
 have hmx:∀i,i<=ds.length->(allF (ds.take i)).length<=1099511627776:=fun i hi=>by
  have:=hle i hi;have:i*1048576<=1048576*1048576:=Nat.mul_le_mul_right _ (by omega);omega
 refine⟨fun q i h' m=>∃b:Nat,i=b/\b<=s.n/\m=s.n-b/\h'=h/\q=((allF (ds.take b)).length:Nat),⟨_,0,rfl,by omega,rfl,rfl,rfl⟩,?_⟩;rintro-nn _ h6 m ⟨b,rfl,hb,rfl,rfl,rfl⟩;refine sB_intro (fun c=>?_) (fun c=>?_)
 .replace c:=lt_t c;refine hd.r.rw.nbI (by omega) (by omega) fun b7 o8 d g t=>?_;replace g:ds[b]?=some d:=g;have hfn:=(hd.i d (Yb g)).pf.ln;refine⟨_,t.nth 1 rfl,_,?_,b+1,by rw[w64 (by omega) (by omega)];omega,by omega,rfl,rfl,?_⟩
  .omega
  .have h1:=hmx (b+1) (by omega);rw[List.take_add_one,g,Option.toList_some,allF_snoc,Yh] at h1 ⊢;rw[w64 (by omega) (by omega)];omega
 .replace c:=lt_f c;have h1:=hmx ds.length (Yyt _);rw[Yye] at h1;rw[Yj (by omega)];exact⟨rfl,h1,rfl⟩
theorem goodSort156 (a b c:Int) (h:Heap):Fn Pz 156 #[.agg ⟨[.int .i64 a,.int .i64 b,.int .i64 c]⟩] h (RP (SortS a b c) h):=by
 apply vc156;unfold W156 V156a;refine (St.refl h).newb fun h4 hs=>?_;refine⟨fun l m h'=>h'=h4/\((a=2/\l=0/\m=40)\/(a≠2/\l=-1000/\m=1000)),⟨_,hs.rd 0 rfl rfl,sBi (fun c=>⟨rfl,.inl ⟨by simpa using c,rfl,rfl⟩⟩) (fun c=>⟨rfl,.inr ⟨by simpa using c,rfl,rfl⟩⟩)⟩,?_⟩;rintro-l m _ ⟨rfl,hlm⟩
 repeat' (first
  | (refine⟨_,hs.rd 0 rfl rfl,?_⟩)
  | (refine sBi (fun _=>?_) (fun _=>?_)))
 all_goals
  refine RP.e ?_ hs.ext;unfold SortS;simp only[Bool.false_eq_true,decide_eq_true_eq,beq_iff_eq,false_iff,true_iff] at *;omega
theorem field241 (ds:List Dc) (s:Sl) (p:Int) (h:Heap) (hd:DL h s ds) (h0:0<=p) (h1:p<(allF ds).length) (h2:(allF ds).length<=1099511627776) :
  Fn Pz 241 #[.slice s.a s.n s.c,.int .i64 p] h fun v h'=>(∃f,(allF ds)[p.toNat]?=some f/\v=.agg ⟨f.cs⟩)/\Ext h h':=by
 apply vc241;unfold W241 V241a;have hn:=hd.r.ln;have hm:=hd.r.sm;refine (St.refl h).newb fun h1' hs=>?_;refine⟨fun x i h' m=>∃b:Nat,i=b/\b<=s.n/\m=s.n-b/\h'=h1'/\0<=x/\x+((allF (ds.take b)).length:Nat)=p,⟨_,0,rfl,by omega,rfl,rfl,h0,by show p+((0:Nat):Int)=p;omega⟩,?_⟩;rintro-x _ h7 m ⟨b,rfl,hb,rfl,rfl,hx0,hx1⟩;refine sB_intro (fun c=>?_) (fun c=>?_)
 .replace c:=lt_t c;have hrw:=hd.r.rw.ext hs.ext;refine hrw.nbI (by omega) (by omega) fun b8 o9 d g t=>?_;replace g:ds[b]?=some d:=g;have hdi:=hd.i d (Yb g);have hfn:=hdi.pf.ln;have hfm:=hdi.pf.sm;have hsp:allF ds=allF (ds.take b)++(d.fs++allF (ds.drop (b+1))):=by
   have e:ds=ds.take b++d::ds.drop (b+1):=by
    have h3:=(List.take_append_drop b ds).symm;have hl:=(Ya.1 g).1;rw[List.drop_eq_getElem_cons hl,(Ya.1 g).2] at h3;exact h3
   conv=>lhs;rw[e]
   unfold allF;rw[List.flatMap_append,List.flatMap_cons]
  refine⟨_,t.nth 1 rfl,sB_intro (fun c2=>?_) (fun c2=>?_)⟩
  .replace c2:=Yyn c2;refine hrw.nbI (by omega) (by omega) fun b11 o12 d2 g2 t2=>?_;replace g2:ds[b]?=some d2:=g2;rw[g] at g2;cases g2;refine⟨_,t2.nth 1 rfl,?_⟩;refine (hdi.pf.rw.ext hs.ext).nbI hx0 c2 fun b14 o15 f g3 t3=>?_;refine⟨_,_,_,_,t3,?_⟩;refine hs.put 0 rfl (o:=0) (vs:=f.cs) rfl (show 4<=4 by decide) fun h20 hs=>?_;refine⟨_,_,_,_,hs.at 0 rfl (o:=0) (n:=4) rfl,⟨f,?_,rfl⟩,hs.ext⟩;have hxl:=(Ya.1 g3).1;rw[hsp,Yyc (by omega),Yyi (by omega),<-g3];congr 1;omega
  .replace c2:=Yyo c2;refine hrw.nbI (by omega) (by omega) fun b11 o12 d2 g2 t2=>?_;replace g2:ds[b]?=some d2:=g2;rw[g] at g2;cases g2;refine⟨_,t2.nth 1 rfl,s.n-(b+1),by omega,b+1,by rw[w64 (by omega) (by omega)];omega,by omega,rfl,rfl,?_⟩;rw[w64 (by omega) (by omega)];refine⟨by omega,?_⟩;rw[List.take_add_one,g,Option.toList_some,allF_snoc,Yh];omega
 .replace c:=lt_f c;rw[Yj (by omega)] at hx1;omega
theorem text202 (ds:List Dc) (s:Sl) (p:Int) (h:Heap) (hd:DL h s ds):Fn Pz 202 #[.slice s.a s.n s.c,.int .i64 p] h (RP (TextS (allF ds) p) h):=by
 apply vc202;unfold W202;refine sB_intro (fun c=>?_) (fun c=>?_)
 .replace c:=Yyn c;refine (vars155 ds s h hd).mono ?_;rintro _ h3 ⟨rfl,hk,rfl⟩;refine⟨_,rfl,sB_intro (fun c2=>?_) (fun c2=>?_)⟩
  .replace c2:=Yyn c2;refine (field241 ds s p _ hd (by omega) (by omega) hk).mono ?_;rintro _ h9 ⟨⟨f,hf,rfl⟩,E⟩;refine⟨_,_,_,_,rfl,RP.e ⟨fun hb=>⟨by omega,f,hf,by simpa using hb⟩,?_⟩ E⟩;rintro⟨_,f2,hf2,hk2⟩;rw[hf] at hf2;cases hf2;simpa using hk2
  .replace c2:=Yyo c2;refine RP.f ?_ .rfl';rintro⟨_,f2,hf2,_⟩;have:=(Ya.1 hf2).1;omega
 .replace c:=Yyo c;exact RP.f (fun hT=>by have:=hT.1;omega) .rfl'
theorem goodGuard158 (ds:List Dc) (s:Sl) (d:Dc) (h:Heap) (hd:DL h s ds) (hi:DI h d) :
  Fn Pz 158 #[.slice s.a s.n s.c,.agg ⟨[.slice d.hd.a d.hd.n d.hd.c,.slice d.he.a d.he.n d.he.c]⟩] h (RP (GuardS (allF ds) d.ds d.es) h):=by
 apply vc158 s d.hd d.he;unfold W158;have hdn:=hi.pd.ln;have hdm:=hi.pd.sm;have hen:=hi.pe.ln;have hem:=hi.pe.sm;refine (St.refl h).newb fun h3 hs=>?_;refine (vars155 ds s h3 (hd.ext hs.ext)).mono ?_;rintro _ h6 ⟨rfl,hk,rfl⟩;refine⟨_,rfl,?_⟩;refine up_loopS (n:=d.hd.n) hs (fun i=>∀(j:Nat) (x:Df),j<i->d.ds[j]?=some x -> -1<=min x.x x.y/\max x.x x.y<(allF ds).length /\ -20000<=x.c/\x.c<=20000) (fun j x hj=>by omega) ?_;rintro-i h11 hin ⟨hs,hq⟩;refine⟨_,hs.rd 0 rfl rfl,sB_intro (fun c=>?_) (fun c=>?_)⟩
 .replace c:=lt_t c;refine⟨_,hs.rd 0 rfl rfl,?_⟩;refine (hi.pd.rw.ext hs.ext).nbI (by omega) (by omega) fun b o x g t=>?_;replace g:d.ds[i]?=some x:=g;refine⟨_,_,_,t,?_⟩;refine hs.newput (vs:=x.cs) rfl rfl fun h20 hs=>?_
  repeat' (first
    | (refine⟨_,hs.rd 0 rfl rfl,?_⟩)
    | (refine⟨_,hs.rd 1 rfl rfl,?_⟩)
    | (refine sBi (fun _=>?_) (fun _=>?_))
    | (refine sBe (fun _=>?_) (fun _=>?_))
    | (refine sBn (fun _=>?_) (fun _=>?_)))
  all_goals first
   | exact RP.f (fun hG=>by have:=hG.d x (Yb g);omega) hs.ext
   | (refine Up.next c (by omega) ⟨hs.drop 1,fun j y hj hy=>?_⟩
      by_cases e:j=i
      .subst e;rw[g] at hy;cases hy;omega
      .exact hq j y (by omega) hy)
 .replace c:=lt_f c;have hqd:∀x∈d.ds,-1<=min x.x x.y/\max x.x x.y<(allF ds).length /\ -20000<=x.c/\x.c<=20000:=fun x hx=>by
   obtain⟨j,hj⟩:=Yf.1 hx;exact hq j x (by have:=(Ya.1 hj).1;omega) hj
  clear hq;refine up_loopS (n:=d.he.n) hs (fun i=>∀(j:Nat) (x:Eqs),j<i->d.es[j]?=some x->TextS (allF ds) x.x/\TextS (allF ds) x.y) (fun j x hj=>by omega) ?_;rintro-i h32 hin ⟨hs,hq⟩;refine⟨_,hs.rd 0 rfl rfl,sB_intro (fun c=>?_) (fun c=>?_)⟩
  .replace c:=lt_t c;refine⟨_,hs.rd 0 rfl rfl,?_⟩;refine (hi.pe.rw.ext hs.ext).nbI (by omega) (by omega) fun b o x g t=>?_;replace g:d.es[i]?=some x:=g;refine⟨⟨by omega,by omega⟩,_,t.nth 0 rfl,?_⟩;refine (text202 ds s _ h32 (hd.ext hs.ext)).mono ?_;rintro _ h40 ⟨⟨b1,rfl,hb1⟩,E⟩;have hs:=hs.step E;refine⟨_,rfl,sB_intro (fun c1=>RP.f (fun hG=>iff_f hb1 (bF c1) (hG.e x (Yb g)).1) hs.ext) (fun c1=>?_)⟩;refine⟨_,hs.rd 0 rfl rfl,?_⟩;refine (hi.pe.rw.ext hs.ext).nbI (by omega) (by omega) fun b o x' g' t=>?_;replace g':d.es[i]?=some x':=g';rw[g] at g';cases g';refine⟨⟨by omega,by omega⟩,_,t.nth 1 rfl,?_⟩;refine (text202 ds s _ h40 (hd.ext hs.ext)).mono ?_;rintro _ h47 ⟨⟨b2,rfl,hb2⟩,E⟩;have hs:=hs.step E;refine⟨_,rfl,sB_intro (fun c2=>RP.f (fun hG=>iff_f hb2 (bF c2) (hG.e x (Yb g)).2) hs.ext) (fun c2=>Up.next c (by omega) ⟨hs,fun j y hj hy=>?_⟩)⟩;by_cases e:j=i
   .subst e;rw[g] at hy;cases hy;exact⟨hb1.1 (bT c1),hb2.1 (bT c2)⟩
   .exact hq j y (by omega) hy
  .replace c:=lt_f c;have hqe:∀x∈d.es,TextS (allF ds) x.x/\TextS (allF ds) x.y:=fun x hx=>by
    obtain⟨j,hj⟩:=Yf.1 hx;exact hq j x (by have:=(Ya.1 hj).1;omega) hj
   refine⟨_,hs.rd 0 rfl rfl,sB_intro (fun c1=>⟨_,hs.rd 0 rfl rfl,?_⟩) (fun c1=>?_)⟩
   .replace c1:=Yyn c1;refine RP.e ⟨fun hb=>⟨by omega,by have:=Yyn hb;omega,hqd,hqe⟩,fun hG=>?_⟩ hs.ext;have:=hG.ne;exact decide_eq_true (by omega)
   .replace c1:=Yyo c1;exact RP.f (fun hG=>by have:=hG.nd;omega) hs.ext
def GNm (ds:List Dc):Prop:=∀d∈ds,d.nm.length<=1048576
theorem dup_iff {α:Type} {l:List α} {p:α->Bool}:(l.any p)=false ↔ ∀(j:Nat) (y:α),l[j]?=some y->p y=false:=by
 rw[List.any_eq_false];refine⟨fun h j y hj=>?_,fun h y hy=>?_⟩
 .have:=h y (Yb hj);cases hp:p y<;>simp_all
 .obtain⟨j,hj⟩:=Yf.1 hy;rw[h j y hj];decide
theorem refValid113 (ds:List Dc) (s:Sl) (h:Heap) (hd:DL h s ds) (hN:GNm ds):Fn Pz 113 #[.slice s.a s.n s.c] h (RP (DeclS ds) h):=by
 apply vc113;unfold W113;have hn:=hd.r.ln;have hm:=hd.r.sm;refine sB_intro (fun c0=>RP.f (fun hG=>by have:=hG.pn;have:=Yyn c0;omega) .rfl') (fun c0=>?_);replace c0:=Yyo c0;refine (vars155 ds s h hd).mono ?_;rintro _ h3 ⟨rfl,hk,rfl⟩;refine⟨_,rfl,sB_intro (fun c00=>RP.f (fun hG=>by have:=hG.pv;have:=Yyn c00;omega) .rfl') (fun c00=>?_)⟩;replace c00:=Yyo c00;refine⟨fun f i h' m=>∃b:Nat,i=b/\b<=s.n/\m=s.n-b/\St h3 h' []/\f=((allF (ds.take b)).length:Nat)/\∀(j:Nat) (y:Dc),j<b->ds[j]?=some y->DcS ds j y,⟨_,0,rfl,by omega,rfl,St.refl _,rfl,fun j y hj=>by omega⟩,?_⟩;rintro-_ _ h9 m ⟨b,rfl,hb,rfl,hs,rfl,hq⟩;refine sB_intro (fun c=>?_) (fun c=>RP.t ⟨by omega,by omega,fun j y hy=>hq j y (by have:=lt_f c;have:=(Ya.1 hy).1;omega) hy⟩ hs.ext);replace c:=lt_t c;refine (hd.r.rw.ext hs.ext).nbI (by omega) (by omega) fun b10 o11 d g t=>?_;replace g:ds[b]?=some d:=g;have hdm:=Yb g;have hdi:=hd.i d hdm;have hfn:=hdi.pf.ln;have hfm:=hdi.pf.sm;refine⟨_,_,_,_,_,t,?_⟩;refine hs.newput (vs:=d.cs) rfl rfl fun h18 hs=>?_;refine up_loopS (n:=b) hs (fun i=>∀(j:Nat) (y:Dc),j<i->ds[j]?=some y->y.nm≠d.nm) (fun j y hj=>by omega) ?_;rintro-k1 h23 hk1 ⟨hs,hq1⟩;refine sB_intro (fun c1=>?_) (fun c1=>?_)
 .replace c1:=lt_t c1;refine (hd.r.rw.ext hs.ext).nbI (by omega) (by omega) fun b24 o25 d2 g2 t2=>?_;replace g2:ds[k1]?=some d2:=g2;refine⟨_,t2.nth 0 rfl,_,hs.rd 0 rfl rfl,sBs (fun e=>?_) (fun e=>Up.next c1 (by omega) ⟨hs,fun j y hj hy=>?_⟩)⟩
  .refine RP.f (fun hG=>?_) hs.ext;have:=dup_iff.1 (hG.pd b d g).pd k1 d2 (by rw[Yyf,if_pos c1];exact g2);exact Yyo this e
  .by_cases e2:j=k1
   .subst e2;rw[g2] at hy;cases hy;exact e
   .exact hq1 j y (by omega) hy
 replace c1:=lt_f c1;have hdup:((ds.take b).any fun x=>decide (x.nm=d.nm))=false:=dup_iff.2 fun j y hy=>by
  rw[Yyf] at hy;split at hy
  .exact decide_eq_false (hq1 j y (by omega) hy)
  .cases hy
 clear hq1;refine up_loopS (n:=d.hf.n) hs (fun i=>∀(j:Nat) (y:Fld),j<i->d.fs[j]?=some y->FldS d.fs j y) (fun j y hj=>by omega) ?_;rintro-k2 h33 hk2 ⟨hs,hq2⟩;refine⟨_,hs.rd 0 rfl rfl,sB_intro (fun c2=>?_) (fun c2=>?_)⟩
 .replace c2:=lt_t c2;refine⟨_,hs.rd 0 rfl rfl,?_⟩;refine (hdi.pf.rw.ext hs.ext).nbI (by omega) (by omega) fun b36 o37 f g3 t3=>?_;replace g3:d.fs[k2]?=some f:=g3;refine⟨_,_,_,t3.sub 1 3 rfl,?_⟩;refine (goodSort156 _ _ _ h33).mono ?_;rintro _ h43 ⟨⟨b1,rfl,hb1⟩,E⟩;have hs:=hs.step E;refine⟨_,rfl,sB_intro (fun c3=>RP.f (fun hG=>iff_f hb1 (bF c3) ((hG.pd b d g).pfs k2 f g3).ps) hs.ext) (fun c3=>?_)⟩;refine⟨_,hs.rd 0 rfl rfl,?_⟩;refine (hdi.pf.rw.ext hs.ext).nbI (by omega) (by omega) fun b45 o46 f2 g4 t4=>?_;replace g4:d.fs[k2]?=some f2:=g4;rw[g3] at g4;cases g4;refine⟨_,t4.nth 0 rfl,?_⟩;refine (isWord111 (bs f.nm) h43).mono ?_;rintro _ h50 ⟨rfl,E⟩;have hs:=hs.step E;refine⟨_,rfl,sB_intro (fun c4=>RP.f (fun hG=>?_) hs.ext) (fun c4=>?_)⟩
  .have:=((hG.pd b d g).pfs k2 f g3).pw;rw[bs_list,this] at c4;cases c4
  refine up_loopS (n:=k2) hs (fun i=>∀(j:Nat) (y:Fld),j<i->d.fs[j]?=some y->y.nm≠f.nm) (fun j y hj=>by omega) ?_;rintro-j1 h55 hj1 ⟨hs,hq3⟩;refine sB_intro (fun c5=>?_) (fun c5=>?_)
  .replace c5:=lt_t c5;refine⟨_,hs.rd 0 rfl rfl,?_⟩;refine (hdi.pf.rw.ext hs.ext).nbI (by omega) (by omega) fun b57 o58 f3 g5 t5=>?_;replace g5:d.fs[j1]?=some f3:=g5;refine⟨_,t5.nth 0 rfl,_,hs.rd 0 rfl rfl,?_⟩;refine (hdi.pf.rw.ext hs.ext).nbI (by omega) (by omega) fun b61 o62 f4 g6 t6=>?_;replace g6:d.fs[k2]?=some f4:=g6;rw[g3] at g6;cases g6;refine⟨_,t6.nth 0 rfl,sBs (fun e=>?_) (fun e=>Up.next c5 (by omega) ⟨hs,fun j y hj hy=>?_⟩)⟩
   .refine RP.f (fun hG=>?_) hs.ext;have:=dup_iff.1 ((hG.pd b d g).pfs k2 f g3).pd j1 f3 (by rw[Yyf,if_pos c5];exact g5);exact Yyo this e
   .by_cases e2:j=j1
    .subst e2;rw[g5] at hy;cases hy;exact e
    .exact hq3 j y (by omega) hy
  .replace c5:=lt_f c5;refine Up.next c2 (by omega) ⟨hs,fun j y hj hy=>?_⟩;by_cases e2:j=k2
   .subst e2;rw[g3] at hy;cases hy;refine⟨?_,hb1.1 (bT c3),dup_iff.2 fun j' y' hy'=>?_⟩
    .have:=bT c4;rw[bs_list] at this;exact this
    .rw[Yyf] at hy';split at hy'
     .exact decide_eq_false (hq3 j' y' (by omega) hy')
     .cases hy'
   .exact hq2 j y (by omega) hy
 .replace c2:d.hf.n<=k2:=by have:=Yyo c2;omega
  have hfl:∀k f,d.fs[k]?=some f->FldS d.fs k f:=fun k f hf=>hq2 k f (by have:=(Ya.1 hf).1;omega) hf;refine⟨_,hs.rd 0 rfl rfl,?_⟩;refine (isPath157 (bs d.nm) h33 (hN d hdm)).mono ?_;rintro _ h69 ⟨rfl,E⟩;have hs:=hs.step E;refine⟨_,rfl,sB_intro (fun c3=>RP.f (fun hG=>?_) hs.ext) (fun c3=>?_)⟩
  .have:=(hG.pd b d g).pp;rw[bs_list,this] at c3;cases c3
  have hpp:isPath d.nm=true:=by have:=bT c3;rw[bs_list] at this;exact this
  refine⟨_,hs.rd 0 rfl rfl,sB_intro (fun c4=>RP.f (fun hG=>by have:=(hG.pd b d g).pn;have:=Yyn c4;omega) hs.ext) (fun c4=>?_)⟩;replace c4:=Yyo c4;refine⟨_,hs.rd 0 rfl rfl,sBn (fun c5=>RP.f (fun hG=>by have:=(hG.pd b d g).pf;omega) hs.ext) (fun c5=>?_)⟩;refine⟨_,_,hs.at 0 rfl (o:=3) (n:=2) rfl,?_⟩;refine (goodGuard158 ds s d h69 (hd.ext hs.ext) (hdi.ext hs.ext)).mono ?_;rintro _ h76 ⟨⟨b2,rfl,hb2⟩,E⟩;have hs:=hs.step E;refine⟨_,rfl,sB_intro (fun c6=>RP.f (fun hG=>iff_f hb2 (bF c6) (hG.pd b d g).pg) hs.ext) (fun c6=>?_)⟩;refine⟨_,hs.rd 0 rfl rfl,s.n-(b+1),by omega,b+1,by rw[w64 (by omega) (by omega)];omega,by omega,rfl,hs.drop 1,?_,fun j y hj hy=>?_⟩
  .have h1:(allF (ds.take (b+1))).length<=(allF ds).length:=allF_take ds (b+1);rw[List.take_add_one,g,Option.toList_some,allF_snoc,Yh] at h1 ⊢;rw[w64 (by omega) (by omega)];omega
  .by_cases e2:j=b
   .subst e2;rw[g] at hy;cases hy;exact⟨hpp,by omega,by omega,hdup,hfl,hb2.1 (bT c6)⟩
   .exact hq j y (by omega) hy
theorem St.cut {h0 h:Heap} {L:List It} (hs:St h0 h L) (k:Nat) {s:Sl} {e:TypeId} {n:Nat} {rows:List (List Value)} (hk:L[k]?=some (.sl s e n rows)) (hn:0<n) (i:Nat) (hi:i<=s.n) :
  St h0 h (L.set k (.sl ⟨s.a,i,s.c⟩ e n (rows.take i))):=by
 have hget:=hs.get hk;have hln:=(hs.rw k hk hn).1;refine hs.turn hk (Yyt _) (j:=.sl ⟨s.a,i,s.c⟩ e n (rows.take i)) ?_ (fun b hb=>.inr hb) (fun _ _ _=>rfl);have hrl:∀r∈rows.take i,r.length=n:=fun r hr=>hget.2 r (List.mem_of_mem_take hr);have hfl:(rows.take i).flatten=rows.flatten.take (i*n):=by
  have h5:rows=rows.take i++rows.drop i:=(List.take_append_drop i rows).symm;rw[congrArg List.flatten h5,List.flatten_append,Yyq (by rw[flatten_len _ hrl,Yu,Nat.min_eq_left (by omega)];exact Yyt _)];rw[Yj (l:=(rows.take i).flatten) (by rw[flatten_len _ hrl,Yu,Nat.min_eq_left (by omega)];exact Yyt _)]
 have hin:i*n<=s.n*n:=Nat.mul_le_mul_right _ hi;refine⟨⟨by rw[flatten_len _ hrl,Yu];show min i rows.length*n=i*n;rw[Nat.min_eq_left (by omega)],?_⟩,hrl⟩;rcases hget.1.2 with ⟨ha,h2,h3⟩ | ⟨g,cur,ha,hb0,hh,hnc,hcm,hsz,htk⟩
 .exact .inl ⟨ha,by show i=0;omega,h3⟩
 .refine .inr ⟨g,cur,ha,hb0,hh,by show i<=s.c;omega,hcm,hsz,?_⟩;show cur.toList.take (i*n)=_;rw[hfl,<-htk,List.take_take,Nat.min_eq_left hin]
theorem splice_set {xs:List Value} {i:Nat} {v:Value} (h:i<xs.length):splice xs i [v]=xs.set i v:=by
 unfold splice;rw[List.set_eq_take_append_cons_drop,if_pos h];simp
theorem state114 (g:Gl) (p:Int) (h:Heap):Fn Pz 114 #[g.v,.int .i64 p] h (RP (0<=p/\p<g.n) h):=by
 apply vc114 (bs g.nm) g.hr g.hd g.n g.s g.e g.he g.ht;unfold W114;refine (St.refl h).newb fun h9 hs=>?_;refine sB_intro (fun c=>?_) (fun c=>?_)
 .refine⟨_,hs.rd 0 rfl rfl,RP.e ?_ hs.ext⟩;have:=Yyn c;rw[decide_eq_true_eq];omega
 .exact RP.f (by have:=Yyo c;omega) hs.ext
structure NumR (g:Gl):Prop where
 n:1<=g.n/\g.n<=200
 s:0<=g.s/\g.s<g.n
 e:0<=g.e/\g.e<g.n
 es:∀x∈g.es,0<=x.f/\x.f<g.n/\0<=x.t/\x.t<g.n
theorem NumS.R {g:Gl} (h:NumS g):NumR g:=⟨⟨h.n.1,h.n.2.1⟩,⟨h.n.2.2.1,h.n.2.2.2.2.1⟩,⟨h.n.2.2.2.1,h.n.2.2.2.2.2⟩,fun x hx=>by
 have:=h.e x hx;unfold EdS at this;omega⟩
theorem numbers65 (g:Gl) (h:Heap) (hg:GI h g):Fn Pz 65 #[g.v] h (RP (NumS g) h):=by
 apply vc65 (bs g.nm) g.hr g.hd g.n g.s g.e g.he g.ht;unfold W65;have hen:=hg.e.ln;have hem:=hg.e.sm;have hrn:=hg.r.ln;have hdn:=hg.d.r.ln;refine (St.refl h).newb fun h9 hs=>?_;refine up_loopS (n:=g.he.n) hs (fun i=>∀j x,j<i->g.es[j]?=some x->EdS g x) (fun j x hj=>by omega) ?_;rintro-i h14 hi ⟨hs,hq⟩;refine⟨_,hs.rd 0 rfl rfl,sB_intro (fun c=>?_) (fun c=>?_)⟩
 .replace c:=lt_t c;refine⟨_,hs.rd 0 rfl rfl,?_⟩;refine (hg.e.rw.ext hs.ext).nbI (by omega) (by omega) fun b o x gx t=>?_;replace gx:g.es[i]?=some x:=gx;refine⟨_,_,_,_,_,_,t,?_⟩;refine hs.newput (vs:=x.cs) rfl rfl fun h26 hs=>?_;refine⟨_,_,_,_,_,_,_,_,hs.at 1 rfl (o:=0) (n:=8) rfl,_,hs.rd 0 rfl rfl,?_⟩;refine (state114 g x.f h26).mono ?_;rintro _ h38 ⟨⟨b1,rfl,hb1⟩,E⟩;have hs:=hs.step E;refine⟨_,rfl,sB_intro (fun c1=>RP.f (fun hG=>by have:=iff_f hb1 (bF c1);have:=hG.e x (Yb gx);unfold EdS at this;omega) hs.ext) (fun c1=>?_)⟩;refine⟨_,_,_,_,_,_,_,_,hs.at 1 rfl (o:=0) (n:=8) rfl,_,hs.rd 0 rfl rfl,?_⟩;refine (state114 g x.t h38).mono ?_;rintro _ h50 ⟨⟨b2,rfl,hb2⟩,E⟩;have hs:=hs.step E;refine⟨_,rfl,sB_intro (fun c2=>RP.f (fun hG=>by have:=iff_f hb2 (bF c2);have:=hG.e x (Yb gx);unfold EdS at this;omega) hs.ext) (fun c2=>?_)⟩;have f1:=hb1.1 (bT c1);have f2:=hb2.1 (bT c2)
  repeat' (first
     | (refine⟨_,hs.rd 0 rfl rfl,?_⟩)
     | (refine⟨_,hs.rd 1 rfl rfl,?_⟩)
     | (refine⟨_,hs.rd 2 rfl rfl,?_⟩)
     | (refine⟨_,_,_,hs.at 0 rfl (o:=1) (n:=3) rfl,?_⟩)
     | (refine⟨_,_,_,hs.at 1 rfl (o:=1) (n:=3) rfl,?_⟩)
     | (refine sBi (fun _=>?_) (fun _=>?_))
     | (refine sBe (fun _=>?_) (fun _=>?_))
     | (refine sBn (fun _=>?_) (fun _=>?_))
     | (refine sB_intro (fun _=>?_) (fun _=>?_)))
  all_goals first
   | exact RP.f (fun hG=>by have:=hG.e x (Yb gx);unfold EdS at this;omega) hs.ext
   | (refine Up.next c (by omega) ⟨hs.drop 1,fun j y hj hy=>?_⟩
      by_cases e:j=i
      .subst e;rw[gx] at hy;cases hy;unfold EdS;omega
      .exact hq j y (by omega) hy)
 .replace c:=lt_f c;refine⟨_,hs.rd 0 rfl rfl,sB_intro (fun c1=>?_) (fun c1=>RP.f (fun hG=>by have:=Yyo c1;have:=hG.n;omega) hs.ext)⟩;refine⟨_,hs.rd 0 rfl rfl,sB_intro (fun c2=>?_) (fun c2=>RP.f (fun hG=>by have:=Yyo c2;have:=hG.n;omega) hs.ext)⟩;refine⟨_,_,_,_,_,_,_,_,hs.at 0 rfl (o:=0) (n:=8) rfl,_,hs.rd 0 rfl rfl,?_⟩;refine (state114 g g.s h14).mono ?_;rintro _ h76 ⟨⟨b3,rfl,hb3⟩,E⟩;have hs:=hs.step E;refine⟨_,rfl,sB_intro (fun c3=>?_) (fun c3=>RP.f (fun hG=>by have:=iff_f hb3 c3;have:=hG.n;omega) hs.ext)⟩;refine⟨_,_,_,_,_,_,_,_,hs.at 0 rfl (o:=0) (n:=8) rfl,_,hs.rd 0 rfl rfl,?_⟩;refine (state114 g g.e h76).mono ?_;rintro _ h88 ⟨⟨b4,rfl,hb4⟩,E⟩;have hs:=hs.step E;refine⟨_,rfl,sB_intro (fun c4=>?_) (fun c4=>RP.f (fun hG=>by have:=iff_f hb4 c4;have:=hG.n;omega) hs.ext)⟩;have f1:=Yyn c1;have f2:=Yyn c2;have f3:=hb3.1 c3;have f4:=hb4.1 c4;refine⟨_,hs.rd 0 rfl rfl,RP.e ⟨fun hb=>⟨by omega,by have:=Yyn hb;omega,fun x hx=>?_⟩,fun hG=>decide_eq_true (by have:=hG.m;omega)⟩ hs.ext⟩;obtain⟨j,hj⟩:=Yf.1 hx;exact hq j x (by have:=(Ya.1 hj).1;omega) hj
structure ApS (g:Gl):Prop where
 s:∀x∈g.es,x.ag=true->x.f≠g.s
 p:∀i x,g.es[i]?=some x->∀k y,g.es[k]?=some y->¬PairBad i k x y
theorem apart66 (g:Gl) (h:Heap) (hg:GI h g):Fn Pz 66 #[g.v] h (RP (ApS g) h):=by
 apply vc66 (bs g.nm) g.hr g.hd g.n g.s g.e g.he g.ht;unfold W66 V66a V66b;have hen:=hg.e.ln;have hem:=hg.e.sm;refine (St.refl h).newb fun h9 hs=>?_;refine up_loopS (n:=g.he.n) hs (fun i=>∀(j:Nat) (x:Ed),j<i->g.es[j]?=some x->(x.ag=true->x.f≠g.s)/\∀k y,g.es[k]?=some y->¬PairBad j k x y) (fun j y hj=>by omega) ?_;rintro-i h14 hi ⟨hs,hq⟩;refine⟨_,hs.rd 0 rfl rfl,sB_intro (fun c=>?_) (fun c=>RP.t ⟨fun x hx=>?_,fun j x hx=>?_⟩ hs.ext)⟩
 .replace c:=lt_t c;refine⟨_,hs.rd 0 rfl rfl,?_⟩;refine (hg.e.rw.ext hs.ext).nbI (by omega) (by omega) fun b o x gx t=>?_;replace gx:g.es[i]?=some x:=gx;refine⟨_,_,_,_,_,_,t,?_⟩;refine hs.newput (vs:=x.cs) rfl rfl fun h26 hs=>?_;refine⟨_,hs.rd 0 rfl rfl,sB_intro (fun cg=>?_) (fun cg=>?_)⟩;refine⟨_,hs.rd 0 rfl rfl,_,hs.rd 1 rfl rfl,sBe (fun cs=>RP.f (fun hG=>hG.s x (Yb gx) cg cs) hs.ext) (fun cs=>?_)⟩;rotate_left;all_goals
   refine up_loopS (n:=g.he.n) hs (fun k=>∀(j:Nat) (y:Ed),j<k->g.es[j]?=some y->¬PairBad i j x y) (fun j y hj=>by omega) ?_;rintro-k h34 hk ⟨hs,hq2⟩;refine⟨_,hs.rd 1 rfl rfl,sB_intro (fun c2=>?_) (fun c2=>?_)⟩
   .replace c2:=lt_t c2;refine⟨_,hs.rd 1 rfl rfl,?_⟩;refine (hg.e.rw.ext hs.ext).nbI (by omega) (by omega) fun b o y gy ty=>?_;replace gy:g.es[k]?=some y:=gy;refine⟨_,_,_,_,_,_,ty,?_⟩;refine hs.newput (vs:=y.cs) rfl rfl fun h46 hs=>?_
    repeat' (first
       | (refine⟨_,hs.rd 0 rfl rfl,?_⟩)
       | (refine⟨_,hs.rd 1 rfl rfl,?_⟩)
       | (refine⟨_,hs.rd 2 rfl rfl,?_⟩)
       | (refine⟨_,_,_,hs.at 0 rfl (o:=1) (n:=3) rfl,?_⟩)
       | (refine⟨_,_,_,hs.at 1 rfl (o:=1) (n:=3) rfl,?_⟩)
       | (refine sBi (fun _=>?_) (fun _=>?_))
       | (refine sBe (fun _=>?_) (fun _=>?_))
       | (refine sBn (fun _=>?_) (fun _=>?_))
       | (refine sB_intro (fun _=>?_) (fun _=>?_)))
    all_goals first
     | (refine RP.f (fun hG=>hG.p i x gx k y gy ?_) hs.ext;clear hq hq2 hs hg t ty;unfold PairBad;grind)
     | (refine Up.next c2 (by omega) ⟨hs.drop 1,fun j z hj hz=>?_⟩
        by_cases e:j=k
        .subst e;rw[gy] at hz;cases hz;clear hq hq2 hs hg t ty;unfold PairBad;grind
        .exact hq2 j z (by omega) hz)
   .replace c2:g.he.n<=k:=by have:=Yyo c2;omega
    refine Up.next c (by omega) ⟨hs.drop 1,fun j z hj hz=>?_⟩;by_cases e:j=i
    .subst e;rw[gx] at hz;cases hz;exact⟨by grind,fun k' y' hy'=>hq2 k' y' (by have:=(Ya.1 hy').1;omega) hy'⟩
    .exact hq j z (by omega) hz
 .obtain⟨j,hj⟩:=Yf.1 hx;exact (hq j x (by have:=lt_f c;have:=(Ya.1 hj).1;omega) hj).1
 .exact (hq j x (by have:=lt_f c;have:=(Ya.1 hx).1;omega) hx).2
theorem timed68 (g:Gl) (h:Heap) (hg:GI h g) (hN:NumS g):Fn Pz 68 #[g.v] h (RP (TimS g) h):=by
 apply vc68 (bs g.nm) g.hr g.hd g.n g.s g.e g.he g.ht;unfold W68 V68a;have hen:=hg.e.ln;have hem:=hg.e.sm;have htn:=hg.t.ln;have htm:=hg.t.sm;refine (St.refl h).newb fun h9 hs=>?_;refine up_loopS (n:=g.ht.n) hs (fun i=>∀(j:Nat) (x:To),j<i->g.ts[j]?=some x->TmS g j x) (fun j y hj=>by omega) ?_;rintro-i h14 hi ⟨hs,hq⟩;refine⟨_,hs.rd 0 rfl rfl,sB_intro (fun c=>?_) (fun c=>RP.t (fun j x hx=>hq j x (by have:=lt_f c;have:=(Ya.1 hx).1;omega) hx) hs.ext)⟩;replace c:=lt_t c;refine⟨_,hs.rd 0 rfl rfl,?_⟩;refine (hg.t.rw.ext hs.ext).nbI (by omega) (by omega) fun b o x gx t=>?_;replace gx:g.ts[i]?=some x:=gx;have no:∀ {q:Prop},(TmS g i x->q)->TimS g->q:=fun f hT=>f (hT i x gx);refine⟨_,_,_,t,?_⟩;refine hs.newput (vs:=x.cs) rfl rfl fun h23 hs=>?_;refine⟨_,_,_,_,_,_,_,_,hs.at 1 rfl (o:=0) (n:=8) rfl,_,hs.rd 0 rfl rfl,?_⟩;refine (state114 g x.s h23).mono ?_;rintro _ h35 ⟨⟨b1,rfl,hb1⟩,E⟩;have hs:=hs.step E;refine⟨_,rfl,sB_intro (fun c1=>RP.f (no fun hT=>?_) hs.ext) (fun c1=>?_)⟩
 .obtain⟨_,y,hy,hf,_⟩:=hT.e;have:=iff_f hb1 (bF c1);have:=hN.R.es y (Yb hy);omega
 have f1:=hb1.1 (bT c1);refine sBi (fun c2=>?_) (fun c2=>?_);have hw:IntKind.wrap .i64 ((i:Int)-1)=((i-1:Nat):Int):=by rw[w64 (by omega) (by omega)];omega
 refine⟨_,hs.rd 0 rfl rfl,_,hs.rd 1 rfl rfl,?_⟩;rw[hw];refine (hg.t.rw.ext hs.ext).nbI (by omega) (by omega) fun b o z gz tz=>?_;replace gz:g.ts[i-1]?=some z:=gz;have hl:lastS g.ts i=z.s:=by unfold lastS;rw[if_neg (by omega),gz]
 refine⟨_,tz.nth 0 rfl,sBi (fun d0=>RP.f (no fun hT=>by have:=hT.o;omega) hs.ext) (fun d0=>?_)⟩;have ho:lastS g.ts i<x.s:=by omega
 rotate_left;have ho:lastS g.ts i<x.s:=by unfold lastS;rw[if_pos (by omega)];omega
 all_goals
  refine⟨_,hs.rd 0 rfl rfl,sBi (fun d1=>RP.f (no fun hT=>by have:=hT.k;omega) hs.ext) (fun d1=>?_)⟩;refine⟨_,hs.rd 0 rfl rfl,sBi (fun d2=>RP.f (no fun hT=>by have:=hT.k;omega) hs.ext) (fun d2=>?_)⟩;refine⟨_,hs.rd 0 rfl rfl,sBi (fun d3=>RP.f (no fun hT=>by have:=hT.e.1;omega) hs.ext) (fun d3=>?_)⟩;refine⟨_,hs.rd 0 rfl rfl,_,hs.rd 1 rfl rfl,sBi (fun d4=>RP.f (no fun hT=>by obtain⟨_,y,hy,_⟩:=hT.e;have:=(Ya.1 hy).1;omega) hs.ext) (fun d4=>?_)⟩;refine⟨_,hs.rd 1 rfl rfl,_,hs.rd 0 rfl rfl,?_⟩;refine (hg.e.rw.ext hs.ext).nbI (by omega) (by omega) fun b o y gy ty=>?_;refine⟨_,ty.nth 0 rfl,_,hs.rd 0 rfl rfl,sBn (fun d5=>RP.f (no fun hT=>by obtain⟨_,z,hz,hf,_⟩:=hT.e;rw[gy] at hz;cases hz;omega) hs.ext) (fun d5=>⟨_,hs.rd 1 rfl rfl,_,hs.rd 0 rfl rfl,?_⟩)⟩;refine (hg.e.rw.ext hs.ext).nbI (by omega) (by omega) fun b o y2 gy2 ty=>?_;rw[gy] at gy2;cases gy2;refine⟨_,ty.nth 5 rfl,sB_intro (fun d6=>RP.f (no fun hT=>by obtain⟨_,z,hz,_,hf⟩:=hT.e;rw[gy] at hz;cases hz;rw[hf] at d6;cases d6) hs.ext) (fun d6=>?_)⟩;refine Up.next c (by omega) ⟨hs.drop 1,fun j z hj hz=>?_⟩;by_cases e:j=i
  .subst e;rw[gx] at hz;cases hz;exact⟨ho,by omega,by omega,y,gy,by omega,d6⟩
  .exact hq j z (by omega) hz
theorem before159 (g:Gl) (p q:Int) (h:Heap) (hg:GI h g) (hp0:0<=p) (hp1:p<g.es.length) (hq0:0<=q) (hq1:q<g.es.length):Fn Pz 159 #[g.v,.int .i64 p,.int .i64 q] h (RBo h):=by
 apply vc159 (bs g.nm) g.hr g.hd g.n g.s g.e g.he g.ht;unfold W159 V159a;have hen:=hg.e.ln;refine (St.refl h).newb fun h9 hs=>?_;have hrw:=hg.e.rw.ext hs.ext;have hsz:h.size<h9.size:=hc_blk (hs.rd 0 rfl (i:=0) rfl);refine⟨_,hs.rd 0 rfl rfl,?_⟩;refine hrw.nbI (by omega) (by omega) fun b1 o1 x _ t1=>?_;refine⟨_,_,_,t1.sub 1 3 rfl,_,hs.rd 0 rfl rfl,?_⟩;refine hrw.nbI (by omega) (by omega) fun b2 o2 y _ t2=>?_;have hb2:b2<h9.size:=hc_blk t2.hd;refine⟨_,_,_,t2.sub 1 3 rfl,?_,?_⟩
 .intro h22 e22;have E22:Ext h9 h22:=by rw[e22];exact Ext.push _ _
  refine⟨smx E22,?_⟩;have hs:St h h22 [.blk h9.size [.int .i64 0,.int .i64 0,.int .i64 0] 53,.blk h.size g.cs 27]:=hs.newb (K:=fun h22=>St h h22 [.blk h9.size [.int .i64 0,.int .i64 0,.int .i64 0] 53,.blk h.size g.cs 27]) (fun _ hs=>hs) h22 e22;intro h23 e23;have E23:Ext h22 h23:=by rw[e23];exact Ext.push _ _
  refine⟨smx E23,?_⟩;have hs:St h h23 [.blk h22.size [.int .i64 0,.int .i64 0,.int .i64 0] 53,.blk h9.size [.int .i64 0,.int .i64 0,.int .i64 0] 53,.blk h.size g.cs 27]:=hs.newb (K:=fun h23=>St h h23 [.blk h22.size [.int .i64 0,.int .i64 0,.int .i64 0] 53,.blk h9.size [.int .i64 0,.int .i64 0,.int .i64 0] 53,.blk h.size g.cs 27]) (fun _ hs=>hs) h23 e23;obtain⟨k1,k2⟩:=hs.put (K:=fun h'=>St h h' [.blk h22.size [.int .i64 0,.int .i64 0,.int .i64 0] 53,.blk h9.size [.int .i64 x.a,.int .i64 x.b,.int .i64 x.l] 53,.blk h.size g.cs 27]) 1 rfl (o:=0) (vs:=[.int .i64 x.a,.int .i64 x.b,.int .i64 x.l]) (n:=3) rfl (show 3<=3 by decide) (fun h' hs=>hs);refine⟨k1,fun h24 e24=>?_⟩;have hs:=k2 h24 e24;have hB:But h9.size h23 h24:=by rw[e24];exact But.hputs (a:=⟨h9.size,0,none⟩) _ _ _
  refine⟨Sm_but hB (fun a ha=>?_),?_⟩
  .simp only[Yr,List.not_mem_nil,or_false] at ha;rcases ha with rfl | rfl
   .show b2≠h9.size;omega
   .show h.size≠h9.size;omega
  refine hs.put 0 rfl (o:=0) (vs:=[.int .i64 y.a,.int .i64 y.b,.int .i64 y.l]) rfl (show 3<=3 by decide) fun h25 hs=>?_
  repeat' (first
    | exact .mk hs.ext
    | (refine sB_intro (fun _=>?_) (fun _=>?_))
    | (refine⟨_,hs.rd 0 rfl rfl,?_⟩)
    | (refine⟨_,hs.rd 1 rfl rfl,?_⟩))
 .intro h34 e34;have E34:Ext h9 h34:=by rw[e34];exact Ext.push _ _
  refine⟨smx E34,?_⟩;have hs:St h h34 [.blk h9.size [.int .i64 0,.int .i64 0,.int .i64 0] 53,.blk h.size g.cs 27]:=hs.newb (K:=fun h34=>St h h34 [.blk h9.size [.int .i64 0,.int .i64 0,.int .i64 0] 53,.blk h.size g.cs 27]) (fun _ hs=>hs) h34 e34;intro h35 e35;have E35:Ext h34 h35:=by rw[e35];exact Ext.push _ _
  refine⟨smx E35,?_⟩;have hsz34:h9.size<h34.size:=by rw[e34];simp
  have hs:St h h35 [.blk h34.size [.int .i64 0,.int .i64 0,.int .i64 0] 53,.blk h9.size [.int .i64 0,.int .i64 0,.int .i64 0] 53,.blk h.size g.cs 27]:=hs.newb (K:=fun h35=>St h h35 [.blk h34.size [.int .i64 0,.int .i64 0,.int .i64 0] 53,.blk h9.size [.int .i64 0,.int .i64 0,.int .i64 0] 53,.blk h.size g.cs 27]) (fun _ hs=>hs) h35 e35;obtain⟨k1,k2⟩:=hs.put (K:=fun h'=>St h h' [.blk h34.size [.int .i64 x.a,.int .i64 x.b,.int .i64 x.l] 53,.blk h9.size [.int .i64 0,.int .i64 0,.int .i64 0] 53,.blk h.size g.cs 27]) 0 rfl (o:=0) (vs:=[.int .i64 x.a,.int .i64 x.b,.int .i64 x.l]) (n:=3) rfl (show 3<=3 by decide) (fun h' hs=>hs);refine⟨k1,fun h36 e36=>?_⟩;have hs:=k2 h36 e36;have hB:But h34.size h35 h36:=by rw[e36];exact But.hputs (a:=⟨h34.size,0,none⟩) _ _ _
  refine⟨Sm_but hB (fun a ha=>?_),?_⟩
  .simp only[Yr,List.not_mem_nil,or_false] at ha;rcases ha with rfl | rfl
   .show b2≠h34.size;omega
   .show h.size≠h34.size;omega
  refine hs.put 1 rfl (o:=0) (vs:=[.int .i64 y.a,.int .i64 y.b,.int .i64 y.l]) rfl (show 3<=3 by decide) fun h37 hs=>?_
  repeat' (first
    | exact .mk hs.ext
    | (refine sB_intro (fun _=>?_) (fun _=>?_))
    | (refine⟨_,hs.rd 0 rfl rfl,?_⟩)
    | (refine⟨_,hs.rd 1 rfl rfl,?_⟩))
theorem intrw {h:Heap} {s:Sl} {L:List Int} (hr:Rw h 1 s (L.map inC)) (hc:s.n<=s.c) {i:Nat} (hi:i<=s.n):Rw h 1 ⟨subA s.a i s.c 1,s.n-i,s.c-i⟩ ((L.drop i).map inC):=by
 have hn:=hr.ln;rw[List.map_drop];by_cases h0:i=s.n
 .rw[List.drop_eq_nil_of_le (by rw[Yc];omega)];exact Rw.empty (by show s.n-i=0;omega)
 .exact hr.from hc (by omega)
theorem subA_nil {s:Sl} {i:Nat} (hna:s.a=none->s.n=0/\s.c=0) (h:subA s.a i s.c 1=none):s.n-i=0/\s.c-i=0:=by
 unfold subA at h;split at h
 .have:=hna h;omega
 .cases ha:s.a with
  | none=>have:=hna ha;omega
  | some a=>rw[ha] at h;cases h
def LOk (g:Gl) (p:Int) (i:Nat) (L:List Int):Prop:=(∀y∈L,0<=y/\y<g.es.length)/\(L=[] ↔ ∀(j:Nat) (x:Ed),j<i->g.es[j]?=some x->x.f≠p)
theorem edges116 (g:Gl) (p:Int) (h:Heap) (hg:GI h g):Fn Pz 116 #[g.v,.int .i64 p] h fun v h'=>(∃s:Sl,v=.slice s.a s.n s.c/\(s.n=0 ↔ ∀x∈g.es,x.f≠p))/\Ext h h':=by
 apply vc116 (bs g.nm) g.hr g.hd g.n g.s g.e g.he g.ht;unfold W116 V116a;have hen:=hg.e.ln;have hem:=hg.e.sm;refine (St.refl h).newb fun h9 hs=>?_;have hs:=hs.nil_ 3 1;refine⟨fun out x h' m=>∃(i:Nat) (L:List Int),x=i/\i<=g.he.n/\m=g.he.n-i/\L.length<=i/\LOk g p i L/\St h h' [.sl out 3 1 (L.map inC),.blk h.size g.cs 27],
  ⟨_,0,[],rfl,by omega,rfl,Yyt _,⟨(fun y hy=>by cases hy),iff_of_true rfl fun j x hj=>by omega⟩,hs⟩,?_⟩
 rintro-out _ h15 m ⟨i,L,rfl,hi,rfl,hLl,hL,hs⟩;refine⟨_,hs.rd 1 rfl rfl,sB_intro (fun c=>?_) (fun c=>⟨⟨_,rfl,?_⟩,hs.ext⟩)⟩;rotate_left
 .replace c:=lt_f c;have hol:=hs.len 0 rfl (by omega);rw[Yc] at hol;have hLe:out.n=0 ↔ L=[]:=by rw[<-List.length_eq_zero_iff];omega
  rw[hLe,hL.2];exact⟨fun hq x hx=>by obtain⟨j,hj⟩:=Yf.1 hx;exact hq j x (by have:=(Ya.1 hj).1;omega) hj,fun hq j x _ hj=>hq x (Yb hj)⟩
 replace c:=lt_t c;refine⟨_,hs.rd 1 rfl rfl,?_⟩;refine (hg.e.rw.ext hs.ext).nbI (by omega) (by omega) fun b18 o19 x gx t=>?_;replace gx:g.es[i]?=some x:=gx;refine⟨_,t.nth 0 rfl,sBn (fun cf=>?_) (fun cf=>?_)⟩
 .refine⟨_,by omega,i+1,L,by rw[w64 (by omega) (by omega)];omega,by omega,rfl,by omega,⟨hL.1,hL.2.trans ⟨fun hq j y hj hy=>?_,fun hq j y hj hy=>hq j y (by omega) hy⟩⟩,hs⟩;by_cases e:j=i
  .subst e;rw[gx] at hy;cases hy;exact cf
  .exact hq j y (by omega) hy
 have hol:=hs.len 0 rfl (by omega);rw[Yc] at hol
 have ins:∀(a:Nat) (h40:Heap),a<=out.n->St h h40 [.sl out 3 1 (L.map inC),.blk h.size g.cs 27]->∀h42:Heap,h42=h40.push (.cells ⟨[.int .i64 i]⟩ 3) ->
   App Pz 42 42 (.slice (some ⟨h40.size,0,none⟩) 1 1) (.slice (subA out.a a out.c 1) (out.n-a) (out.c-a)) h42 fun s43 h44=>
    App Pz 42 42 (.slice out.a a out.c) (.slice s43.a s43.n s43.c) h44 fun s45 h46=>∃m47,m47<g.he.n-i/\(∃(i':Nat) (L:List Int),IntKind.wrap .i64 ((i:Int)+1)=i'/\i'<=g.he.n/\m47=g.he.n-i'/\L.length<=i'/\LOk g p i' L/\St h h46 [.sl s45 3 1 (L.map inC),.blk h.size g.cs 27]):=by
  intro a h40 ha hs;refine hs.newb fun h42 hs=>?_;have hs2:=hs.blkS 1 1 ([(i:Int)].map inC) rfl (inrows _) rfl (by decide);refine hs2.appRw 0 rfl app42 (y:=⟨subA out.a a out.c 1,out.n-a,out.c-a⟩) (intrw (hs2.rows 1 rfl (by omega)) hol.2.1 ha) (inrows _) (fun hn=>subA_nil hol.2.2 hn) (by rw[List.all_eq_true];intro v hv;obtain⟨r,hr,hv2⟩:=List.mem_flatten.1 hv;obtain⟨z,_,rfl⟩:=Yp.1 hr;rw[Ye.1 hv2];rfl) (by show (1+(out.n-a))*8<=_;omega) (by show 1+(out.n-a)<=9223372036854775807;omega) fun s43 h44 hn43 hs=>?_;replace hs:St h h44 [.sl s43 3 1 (((i:Int)::L.drop a).map inC),.sl out 3 1 (L.map inC),.blk h.size g.cs 27]:=hs;have hcut:=hs.cut 1 rfl (by omega) a ha;rw[<-List.map_take] at hcut;replace hcut:St h h44 [.sl s43 3 1 (((i:Int)::L.drop a).map inC),.sl ⟨out.a,a,out.c⟩ 3 1 ((L.take a).map inC),.blk h.size g.cs 27]:=hcut;have h43:=hcut.len 0 rfl (by omega);refine hcut.appRw 1 rfl app42 (hcut.rows 0 rfl (by omega)) (inrows _) h43.2.2 (by rw[List.all_eq_true];intro v hv;obtain⟨r,hr,hv2⟩:=List.mem_flatten.1 hv;obtain⟨z,_,rfl⟩:=Yp.1 hr;rw[Ye.1 hv2];rfl) (by show (a+s43.n)*8<=_;rw[hn43];show (a+(1+(out.n-a)))*8<=_;omega) (by show a+s43.n<=9223372036854775807;rw[hn43];show a+(1+(out.n-a))<=_;omega) fun s45 h46 hn45 hs=>?_;replace hs:St h h46 [.sl s43 3 1 (((i:Int)::L.drop a).map inC),.sl s45 3 1 ((L.take a).map inC++((i:Int)::L.drop a).map inC),.blk h.size g.cs 27]:=hs;rw[<-Ym] at hs;refine⟨g.he.n-(i+1),by omega,i+1,L.take a++((i:Int)::L.drop a),by rw[w64 (by omega) (by omega)];omega,by omega,rfl,?_,⟨fun y hy=>?_,iff_of_false (by simp) fun hq=>hq i x (by omega) gx cf⟩,hs.drop 1⟩
  .rw[Yh,Yyj,Yu,List.length_drop];omega
  .rcases Yk.1 hy with hy | hy
   .exact hL.1 y (List.mem_of_mem_take hy)
   .rcases Yr.1 hy with rfl | hy
    .omega
    .exact hL.1 y (List.mem_of_mem_drop hy)
 refine up_loopS (n:=out.n) hs (fun _=>True) trivial ?_;rintro-a h26 ha ⟨hs,-⟩;have ht1:Int.toNat ((a:Nat):Int)=a:=by simp
 have ht2:Int.toNat ((out.n:Nat):Int)=out.n:=by simp
 refine sB_intro (fun c1=>?_) (fun c1=>?_)
 .replace c1:=lt_t c1;refine⟨_,_,_,_,_,_,_,_,hs.at 1 rfl (o:=0) (n:=8) rfl,?_⟩;refine (hs.rows 0 rfl (by omega)).nbI (by omega) (by omega) fun b35 o36 y gy ty=>?_;have hy:=hL.1 y (Yb gy);refine⟨_,ty.nth 0 rfl,?_⟩;refine (before159 g y i h26 (hg.ext hs.ext) hy.1 hy.2 (by omega) (by omega)).mono ?_;rintro _ h40 ⟨⟨bb,rfl⟩,E⟩;have hs:=hs.step E;refine⟨_,rfl,sB_intro (fun _=>Up.next c1 (by omega) ⟨hs,trivial⟩) (fun _=>?_)⟩;refine⟨⟨by omega,by omega,by omega⟩,⟨by omega,by omega,by omega⟩,?_⟩;rw[ht1,ht2,show Int.toNat 0=0 from rfl,subA_zero,Nat.sub_zero,Nat.sub_zero];exact ins a h40 (by omega) hs
 .replace c1:=lt_f c1;refine⟨⟨by omega,by omega,by omega⟩,⟨by omega,by omega,by omega⟩,?_⟩;rw[ht1,ht2,show Int.toNat 0=0 from rfl,subA_zero,Nat.sub_zero,Nat.sub_zero];exact ins a h26 (by omega) hs
end Go.VC
end

section
namespace Go.VC
structure EN (es:List Ed) (e:Int) (N n:Nat) (D:List Int):Prop where
 len:D.length=N
 src:Vis D e
 r:∀v,Vis D v->Rch es true e v
 b:∀d∈D,-1<=d/\d+D.count (-1)<=(N:Int)-1
 c:∀x∈es,∀d,0<=x.t->D[x.t.toNat]?=some d->0<=d->d<n->Vis D x.f
def ENk (es:List Ed) (n k:Nat) (D:List Int):Prop:=∀(j:Nat) (y:Ed),j<k->es[j]?=some y->0<=y.t->D[y.t.toNat]?=some (n:Int)->Vis D y.f
theorem count_rep (N:Nat):(List.replicate N (-1:Int)).count (-1)=N:=by rw[List.count_replicate,if_pos (by simp)]
theorem EN.start {es:List Ed} {e:Int} {N:Nat} (h0:0<=e) (h1:e<N):EN es e N 0 ((List.replicate N (-1:Int)).set e.toNat 0):=by
 have hl:e<(List.replicate N (-1:Int)).length:=by rw[Yg];exact h1
 have hv:∀v,Vis ((List.replicate N (-1:Int)).set e.toNat 0) v ↔ v=e:=fun v=>by
  rw[vis_set h0 hl (by omega)];refine⟨fun h=>h.elim id fun h=>?_,.inl⟩;obtain⟨_,d,hd,h2⟩:=h;have:=List.eq_of_mem_replicate (Yb hd);omega
 have hc:((List.replicate N (-1:Int)).set e.toNat 0).count (-1)+1=N:=by
  rw[List.count_set (by rw[Yg];omega),count_rep,List.getElem_replicate];simp;omega
 refine⟨by rw[Yyh,Yg],(hv e).2 rfl,fun v h=>?_,fun d hd=>?_,fun x _ d _ _ hd0 hd1=>by omega⟩
 .rw[(hv v).1 h];exact .refl
 .rcases List.mem_or_eq_of_mem_set hd with hd | rfl
  .rw[List.eq_of_mem_replicate hd];omega
  .omega
theorem EN.set {es:List Ed} {e:Int} {N n k:Nat} {D:List Int} (h:EN es e N n D) (hk:ENk es n k D) {x:Ed} (hx:es[k]?=some x) {d:Int} (ht0:0<=x.t) (ht:D[x.t.toNat]?=some (n:Int)) (hf0:0<=x.f) (hf:D[x.f.toNat]?=some d) (hd:d<0) :
  EN es e N n (D.set x.f.toNat (n+1))/\ENk es n (k+1) (D.set x.f.toNat (n+1)):=by
 have hfl:=(Ya.1 hf).1;have hfe:=(Ya.1 hf).2;have hd1:d=-1:=by have:=(h.b d (Yb hf)).1;omega
 subst hd1;have hvs:∀v,Vis (D.set x.f.toNat (n+1)) v ↔ v=x.f\/Vis D v:=fun v=>vis_set hf0 (by omega) (by omega);have hpos:0<D.count (-1):=List.count_pos_iff.2 (Yb hf);have hcnt:(D.set x.f.toNat ((n:Int)+1)).count (-1)+1=D.count (-1):=by
  rw[List.count_set hfl,hfe];have:(((n:Int)+1)==(-1:Int))=false:=by simp;omega
  rw[this];simp;omega
 have hub:=(h.b n (Yb ht)).2;have hne:∀ {y:Int} {d:Int},0<=y->(D.set x.f.toNat ((n:Int)+1))[y.toNat]?=some d->d<=n->D[y.toNat]?=some d:=fun {y d} hy hg hle=>by
  by_cases e:y.toNat=x.f.toNat
  .rw[e,Yq hfl] at hg;cases hg;omega
  .rwa [Yy (by omega)] at hg
 refine⟨⟨by rw[Yyh];exact h.len,(hvs e).2 (.inr h.src),fun v hv=>?_,fun d hd=>?_,fun y hy d h0 hg hd0 hd1=>?_⟩,fun j y hj hy h0 hg=>?_⟩
 .rcases (hvs v).1 hv with rfl | hv
  .exact (h.r x.t ⟨ht0,_,ht,by omega⟩).step ⟨x,Yb hx,rfl,rfl⟩
  .exact h.r v hv
 .rcases List.mem_or_eq_of_mem_set hd with hd | rfl
  .have:=h.b d hd;omega
  .omega
 .exact (hvs y.f).2 (.inr (h.c y hy d h0 (hne h0 hg (by omega)) hd0 hd1))
 .by_cases e:j=k
  .subst e;rw[hx] at hy;cases hy;exact (hvs x.f).2 (.inl rfl)
  .exact (hvs y.f).2 (.inr (hk j y (by omega) hy h0 (hne h0 hg (by omega))))
theorem ENk.skip {es:List Ed} {n k:Nat} {D:List Int} (hk:ENk es n k D) {x:Ed} (hx:es[k]?=some x) (h:0<=x.t->D[x.t.toNat]?=some (n:Int)->Vis D x.f):ENk es n (k+1) D:=fun j y hj hy h0 hg=>by
 by_cases e:j=k
 .subst e;rw[hx] at hy;cases hy;exact h h0 hg
 .exact hk j y (by omega) hy h0 hg
theorem EN.next {es:List Ed} {e:Int} {N n k:Nat} {D:List Int} (h:EN es e N n D) (hk:ENk es n k D) (hl:es.length<=k):EN es e N (n+1) D:=
 ⟨h.len,h.src,h.r,h.b,fun x hx d h0 hg hd0 hd1=>by
  obtain⟨j,hj⟩:=Yf.1 hx;by_cases hd:d=n
  .subst hd;exact hk j x (by have:=(Ya.1 hj).1;omega) hj h0 hg
  .exact h.c x hx d h0 hg hd0 (by omega)⟩
theorem EN.end_ {es:List Ed} {e:Int} {N:Nat} {D:List Int} (h:EN es e N N D) (v:Int):Vis D v ↔ Rch es true e v:=by
 refine⟨h.r v,fun hr=>?_⟩
 induction hr with
 | refl=>exact h.src
 | step _ hbc ih=>
  obtain⟨x,hx,h1,h2⟩:=hbc;obtain⟨h0,d,hd,hd0⟩:=ih;have hb:=(h.b d (Yb hd)).2;have h1':x.t=_:=h1;have h2':x.f=_:=h2;rw[<-h2'];rw[<-h1'] at hd h0;exact h.c x hx d h0 hd hd0 (by omega)
def VB (R:List Bool) (v:Int):Prop:=0<=v/\R[v.toNat]?=some true
def ClB (es:List Ed) (k:Nat) (R:List Bool):Prop:=∀(j:Nat) (y:Ed),j<k->es[j]?=some y->VB R y.f->VB R y.t
structure RE (es:List Ed) (s:Int) (N:Nat) (R:List Bool):Prop where
 len:R.length=N
 src:VB R s
 r:∀v,VB R v->Rch es false s v
def RN (es:List Ed) (n k:Nat) (R:List Bool):Prop:=ClB es es.length R\/(n+1<=R.count true/\(ClB es k R\/n+2<=R.count true))
theorem vb_set {R:List Bool} {b v:Int} (hb0:0<=b) (hb:b.toNat<R.length):VB (R.set b.toNat true) v ↔ v=b\/VB R v:=by
 unfold VB;constructor
 .rintro⟨h0,h1⟩;by_cases e:v=b
  .exact .inl e
  .rw[Yy (by omega)] at h1;exact .inr ⟨h0,h1⟩
 .rintro (rfl | ⟨h0,h1⟩)
  .exact⟨hb0,by rw[Yq hb]⟩
  .by_cases e:v=b
   .subst e;exact⟨hb0,by rw[Yq hb]⟩
   .exact⟨h0,by rw[Yy (by omega)];exact h1⟩
theorem RE.start {es:List Ed} {s:Int} {N:Nat} (h0:0<=s) (h1:s<N):RE es s N ((List.replicate N false).set s.toNat true)/\RN es 0 0 ((List.replicate N false).set s.toNat true):=by
 have hv:∀v,VB ((List.replicate N false).set s.toNat true) v ↔ v=s:=fun v=>by
  rw[vb_set h0 (by rw[Yg];omega)];refine⟨fun h=>h.elim id fun h=>?_,.inl⟩;have:=List.eq_of_mem_replicate (Yb h.2);cases this
 refine⟨⟨by rw[Yyh,Yg],(hv s).2 rfl,fun v h=>by rw[(hv v).1 h];exact .refl⟩,.inr ⟨?_,.inl fun j y hj=>by omega⟩⟩;exact List.count_pos_iff.2 (Yb (i:=s.toNat) (by rw[Yq (by rw[Yg];omega)]))
theorem RE.set {es:List Ed} {s:Int} {N n k:Nat} {R:List Bool} (h:RE es s N R) (hn:RN es n k R) {x:Ed} (hx:es[k]?=some x) (ht0:0<=x.t) (ht:R[x.t.toNat]?=some false) (hf0:0<=x.f) (hf:R[x.f.toNat]?=some true) :
  RE es s N (R.set x.t.toNat true)/\RN es n (k+1) (R.set x.t.toNat true):=by
 have htl:=(Ya.1 ht).1;have hte:=(Ya.1 ht).2;have hvs:∀v,VB (R.set x.t.toNat true) v ↔ v=x.t\/VB R v:=fun v=>vb_set ht0 htl;have hcnt:(R.set x.t.toNat true).count true=R.count true+1:=by
  rw[List.count_set htl,hte];simp
 refine⟨⟨by rw[Yyh];exact h.len,(hvs s).2 (.inr h.src),fun v hv=>?_⟩,?_⟩
 .rcases (hvs v).1 hv with rfl | hv
  .exact (h.r x.f ⟨hf0,hf⟩).step ⟨x,Yb hx,rfl,rfl⟩
  .exact h.r v hv
 .rcases hn with hn | ⟨h1,_⟩
  .have:=hn k x (Ya.1 hx).1 hx ⟨hf0,hf⟩;rw[this.2] at ht;cases ht
  .exact .inr ⟨by omega,.inr (by omega)⟩
theorem RN.skip {es:List Ed} {n k:Nat} {R:List Bool} (hn:RN es n k R) {x:Ed} (hx:es[k]?=some x) (h:VB R x.f->VB R x.t):RN es n (k+1) R:=by
 rcases hn with hn | ⟨h1,h2⟩
 .exact .inl hn
 .refine .inr ⟨h1,h2.imp_left fun hc j y hj hy hv=>?_⟩;by_cases e:j=k
  .subst e;rw[hx] at hy;cases hy;exact h hv
  .exact hc j y (by omega) hy hv
theorem RN.next {es:List Ed} {n k:Nat} {R:List Bool} (hn:RN es n k R) (hl:es.length<=k):RN es (n+1) 0 R:=by
 rcases hn with hn | ⟨h1,h2 | h2⟩
 .exact .inl hn
 .exact .inl fun j y hj hy=>h2 j y (by omega) hy
 .exact .inr ⟨by omega,.inl fun j y hj=>by omega⟩
theorem RE.end_ {es:List Ed} {s:Int} {N:Nat} {R:List Bool} (h:RE es s N R) (hn:RN es N 0 R) (v:Int):VB R v ↔ Rch es false s v:=by
 refine⟨h.r v,fun hr=>?_⟩;have hc:ClB es es.length R:=by
  rcases hn with hn | ⟨h1,_⟩
  .exact hn
  .have:=h.len;have:R.count true<=R.length:=List.count_le_length;omega
 induction hr with
 | refl=>exact h.src
 | step _ hbc ih=>
  obtain⟨x,hx,h1,h2⟩:=hbc;obtain⟨j,hj⟩:=Yf.1 hx;have h1':x.f=_:=h1;have h2':x.t=_:=h2;rw[<-h2'];exact hc j x (Ya.1 hj).1 hj (by rw[h1'];exact ih)
end Go.VC
end
