/- PuC PuD PuE PwA PwB PuG PuH PwC PwD PwE PwF PwSort PuMv PtX0 PtX PtY PtMa PuJ PuL. -/
import Derived.Test.YtibmnldhlgcnjaaGreatDoorFM06
set_option linter.all false
set_option maxRecDepth 100000
set_option maxHeartbeats 8000000

section
namespace Go.VC
open Go.Proofs Go.LexS
def tbA (m:Mch) (sf sm sl:Sl) (b bg:Nat) (ho:Sl) (qs:List (Sl × List Int)):List It:=
 [.blk b (mC m sf sm sl++[.slice ho.a ho.n ho.c]) 329,.sl ho 25 1 ((qs.map Prod.fst).map slC),.blk bg (mC m sf sm sl) 98]
structure TbL (m:Mch) (i:Nat) (qs:List (Sl × List Int)):Prop where
 l:qs.length=m.n.toNat
 q:∀(n:Nat) q,qs[n]?=some q->q.2=natI ((List.range i).filter (outP m n))
 e:∀(n:Nat) q,qs[n]?=some q->q.2=[]->q.1.a=none
theorem TbL.start (m:Mch):TbL m 0 (List.replicate m.n.toNat (⟨none,0,0⟩,[])):=
 ⟨by rw[Yg],fun n q hq=>by rw[List.eq_of_mem_replicate (Yb hq)];rfl,fun n q hq _=>by rw[List.eq_of_mem_replicate (Yb hq)]⟩
theorem TbL.len {m:Mch} {i n:Nat} {qs:List (Sl × List Int)} (h:TbL m i qs) {q:Sl × List Int} (hq:qs[n]?=some q):q.2.length<=i:=by
 rw[h.q n q hq,show (natI ((List.range i).filter (outP m n))).length=((List.range i).filter (outP m n)).length from Yc _];exact Yys (List.length_filter_le _ _) (by rw[Yyd];exact Yyt _)
theorem TbL.next {m:Mch} {i k:Nat} {qs:List (Sl × List Int)} {x:Mv} {q:Sl × List Int} {r:Sl} (h:TbL m i qs) (hx:m.mv[i]?=some x) (hm:x.f=(k:Int)) (hq:qs[k]?=some q):TbL m (i+1) (qs.set k (r,q.2++[(i:Int)])):=by
 refine⟨by rw[Yyh];exact h.l,fun n q' hq'=>?_,fun n q' hq' he=>by
  by_cases e:n=k
  .subst e;rw[Yq (Ya.1 hq).1] at hq';cases hq';exact absurd he (by simp)
  .rw[Yy (fun h=>e h.symm)] at hq';exact h.e n q' hq' he⟩
 have hp:outP m n i=decide (x.f=(n:Int)):=by unfold outP;rw[hx]
 rw[List.range_succ,List.filter_append];by_cases e:n=k
 .subst e;rw[Yq (Ya.1 hq).1] at hq';cases hq';rw[List.filter_cons_of_pos (by rw[hp];exact decide_eq_true hm),List.filter_nil,natI_snoc];show q.2++[(i:Int)]=_;rw[h.q n q hq]
 .rw[Yy (fun h=>e h.symm)] at hq';rw[List.filter_cons_of_neg (by rw[hp,decide_eq_false (by omega)];simp),List.filter_nil,Yw];exact h.q n q' hq'
structure TbS (m:Mch) (i:Nat) (qs:List (Sl × List Int)):Prop where
 l:qs.length=m.n.toNat
 q:∀(n:Nat) q,qs[n]?=some q->∃l:List Nat,q.2=natI l/\l.Perm (outIx m (n:Int))/\(n<i->l.Pairwise fun a b=>¬evLt (evI m b) (evI m a))
 e:∀(n:Nat) q,qs[n]?=some q->q.2=[]->q.1.a=none
theorem natI_back (l:List Nat):(natI l).map Int.toNat=l:=by
 unfold natI;rw[List.map_map];have:(Int.toNat∘fun c:Nat=>(c:Int))=id:=rfl;rw[this,List.map_id]
theorem sorted97 (m:Mch) (sf sm sl:Sl) (h:Heap) (hM:MI h m sf sm sl) (hN:NumM m) :
  Fn Pz 182 #[.agg ⟨mC m sf sm sl⟩] h fun v h'=>Ext h h'/\∃(b:Nat) (S:Nat->List Nat),v=.pointer (some ⟨b,0,none⟩)/\TbI h' ⟨b,0,none⟩ m sf sm sl S:=by
 apply vc182 m.role m.n m.s sf sm sl;unfold W182;have hmn:=hM.pm.ln;have hmm:=hM.pm.sm;have hn:=hN.n;have hml:=hN.ml;have hmx:m.n.toNat<=maxLen:=by simp only[maxLen];omega
 refine (St.refl h).newb fun h7 hs=>?_;have hs7:h.size<h7.size:=hc_blk (hs.rd 0 rfl (i:=0) rfl);refine⟨_,_,_,sf,sm,sl,hs.at 0 rfl (o:=0) (n:=6) rfl,_,hs.rd 0 rfl rfl,⟨by omega,by omega,by omega⟩,?_⟩;rw[made42];have hrep:((List.replicate m.n.toNat ((⟨none,0,0⟩,[]):Sl × List Int)).map Prod.fst)=List.replicate m.n.toNat (⟨none,0,0⟩:Sl):=List.map_replicate;refine hs.newbE fun h15 E15 hs=>⟨E15.sm,?_⟩;have hs:=hs.blkS m.n.toNat 1 _ rfl (slrows _) (by rw[Yc,Yg]) hmx;refine hs.newb fun h16 hs=>?_;obtain⟨ho,hho,hhn⟩:∃ho:Sl,ho=⟨some ⟨h7.size,0,none⟩,m.n.toNat,m.n.toNat⟩/\ho.n=m.n.toNat:=⟨_,rfl,rfl⟩;have hs:St h h16 (tbA m sf sm sl h15.size h.size ho (List.replicate m.n.toNat (⟨none,0,0⟩,[]))++(List.replicate m.n.toNat ((⟨none,0,0⟩,[]):Sl × List Int)).map (nest 3 1 inC)++[]):=by
  have h1:St h h16 (tbA m sf sm sl h15.size h.size ho (List.replicate m.n.toNat (⟨none,0,0⟩,[]))++[]):=by
   unfold tbA;rw[hrep,hho];exact hs
  exact h1.nests (α:=Int) (e:=3) (k:=1) (cs:=inC) m.n.toNat
 refine⟨sm,hs.rd 2 rfl rfl,?_⟩;refine up_loop (n:=sm.n) (fun i h'=>∃qs,TbL m i qs/\St h h' (tbA m sf sm sl h15.size h.size ho qs++qs.map (nest 3 1 inC)++[])) ⟨_,TbL.start m,hs⟩ ?_;clear hs;rintro-i h22 hi ⟨qs,hL,hs⟩;refine sB_intro (fun c=>?_) (fun c=>?_)
 .replace c:=lt_t c;refine (hM.pm.ext hs.ext).rw.nbI (by omega) (by omega) fun b23 o24 x gx t=>?_;replace gx:m.mv[i]?=some x:=gx;have hx:=hN.mv x (Yb gx);obtain⟨k,hk⟩:∃k:Nat,x.f=k:=⟨x.f.toNat,by omega⟩;obtain⟨q,hq⟩:=get_some (l:=qs) (i:=k) (by rw[hL.l];omega);have hql:=hL.len hq;have hqn:q.1.n=q.2.length:=by
   have:=hs.len (3+k) (s:=q.1) (e:=3) (n:=1) (rows:=q.2.map inC) (by
    have:=get_mid (P:=tbA m sf sm sl h15.size h.size ho qs) (Q:=qs.map (nest 3 1 inC)) (R:=[]) (i:=k) (by rw[Yc];exact (Ya.1 hq).1);rw[show (tbA m sf sm sl h15.size h.size ho qs).length=3 from rfl] at this;rw[this,Yd,hq];rfl) (by omega)
   rw[this.1,Yc]
  refine⟨_,_,_,_,_,_,t,?_⟩;refine hs.newput (vs:=x.cs) rfl rfl fun h32 hs=>?_;refine⟨ho,hs.rd 1 rfl rfl,_,hs.rd 0 rfl rfl,ho,hs.rd 1 rfl rfl,_,hs.rd 0 rfl rfl,?_⟩;refine (hs.rows 2 rfl (by omega)).nbI (cs:=slC) (L:=qs.map Prod.fst) (by omega) (by omega) fun b37 o38 d gd t37=>?_;have ed:d=q.1:=by
   rw[hk,show ((k:Int)).toNat=k from rfl,Yd,hq] at gd;exact (Yyp gd).symm
  subst ed;refine⟨_,t37.hd,?_⟩;refine hs.newbE fun h40 E40 hs=>⟨E40.sm,?_⟩;have hs':St h h40 ((.blk h32.size (inC (i:Int)) 3 :: .blk h22.size x.cs 110::tbA m sf sm sl h15.size h.size ho qs)++qs.map (nest 3 1 inC)++[]):=hs;refine hs'.nestAt hq app42 (i:Int) (hs'.at 0 rfl (n:=1) rfl) rfl rfl (by omega) (by simp only[maxLen];omega) fun r h42 hr hs3=>⟨sm_cons (hs'.same hs3 1 1 rfl rfl) (sm_cons (hs'.same hs3 2 2 rfl rfl) sm_nil),?_⟩;refine hs3.set 3 (cs:=slC) (l:=qs.map Prod.fst) rfl (by omega) (by omega) (by omega) r rfl rfl (fun b o h45 hs4=>?_) rfl;refine Up.next c (by omega) ⟨qs.set k (r,q.2++[(i:Int)]),hL.next gx hk hq,?_⟩;unfold tbA;rw[fst_set];rw[hk] at hs4;exact hs4.drop 2
 .replace c:=lt_f c;have him:i=m.mv.length:=by omega
  subst him;refine⟨ho,hs.rd 0 rfl rfl,?_⟩;have hS0:TbS m 0 qs:=⟨hL.l,fun n q hq=>⟨_,hL.q n q hq,List.Perm.refl _,fun hn=>by omega⟩,hL.e⟩;refine up_loop (n:=ho.n) (fun i h'=>∃qs,TbS m i qs/\St h h' (tbA m sf sm sl h15.size h.size ho qs++qs.map (nest 3 1 inC)++[])) ⟨qs,hS0,hs⟩ ?_;clear hs hS0 hL;rintro-i h52 hi ⟨qs,hS,hs⟩;have hl:=hS.l;refine sB_intro (fun c=>?_) (fun c=>?_)
  .replace c:=lt_t c;refine (hs.rows 1 rfl (by omega)).nbI (cs:=slC) (L:=qs.map Prod.fst) (by omega) (by omega) fun b53 o54 d gd t53=>?_;obtain⟨q,hq⟩:=get_some (l:=qs) (i:=i) (by omega);have ed:d=q.1:=by
    rw[show ((i:Int)).toNat=i from rfl,Yd,hq] at gd;exact (Yyp gd).symm
   subst ed;refine⟨_,t53.hd,?_⟩;obtain⟨l,hql,hlp,_⟩:=hS.q i q hq;have hilt:=(Ya.1 hq).1;have hidx:(tbA m sf sm sl h15.size h.size ho qs++qs.map (nest 3 1 inC)++[])[3+i]?=some (.sl q.1 3 1 ((natI l).map inC)):=by
    have:=get_mid (P:=tbA m sf sm sl h15.size h.size ho qs) (Q:=qs.map (nest 3 1 inC)) (R:=[]) (i:=i) (by rw[Yc];exact hilt);rw[show (tbA m sf sm sl h15.size h.size ho qs).length=3 from rfl] at this;rw[this,Yd,hq,<-hql];rfl
   have hlm:∀y∈l,y<m.mv.length:=fun y hy=>by
    obtain⟨x,hx,_⟩:=outIx_mem.1 (hlp.mem_iff.1 hy);exact (Ya.1 hx).1
   have hll:l.length<=1048576:=by
    rw[hlp.length_eq];unfold outIx;exact Yys (List.length_filter_le _ _) (by rw[Yyd];omega)
   have hbg:(tbA m sf sm sl h15.size h.size ho qs++qs.map (nest 3 1 inC)++[])[2]?=some (.blk h.size (mC m sf sm sl) 98):=rfl;have hap:∀b,q.1.a.map (·.block)=some b->b≠h.size:=fun b hb e=>by
    have h1:=(List.pairwise_iff_getElem.1 hs.ap) 2 (3+i) (Ya.1 hbg).1 (Ya.1 hidx).1 (by omega);rw[(Ya.1 hbg).2,(Ya.1 hidx).2] at h1;exact h1 h.size rfl (by show q.1.a.map (·.block)=_;rw[hb,e])
   have hfr:∀b,q.1.a.map (·.block)=some b->h.size<=b:=fun b hb=>(hs.ok _ (Yb hidx)).2 b hb;refine (sort152 m sm ⟨h.size,0,none⟩ hs (3+i) hidx hlm (fun hl0=>hS.e i q hq (by rw[hql,hl0];rfl)) (by omega) hll fun h' hsz hoth=>?_).mono ?_
   .have E':Ext h h':=⟨Yys hs.ext.1 hsz,fun c hc=>by
     rw[hoth c (by have:=hs.ext.1;omega) fun e=>by have:=hfr c e;omega];exact hs.ext.2 c hc⟩
    refine⟨?_,hM.pm.rw.ext E'⟩;have h1:hc h52 ⟨h.size,0+4,none⟩=some (.slice sm.a sm.n sm.c):=hs.rd 2 rfl rfl;rw[hc_of_block (h:=h52) (by
     show h'[h.size]?=h52[h.size]?;refine hoth h.size (hc_blk h1) fun e=>hap h.size e rfl)]
    exact h1
   .rintro _ h57 ⟨rfl,l',hp',hs'',hst⟩;refine⟨rfl,?_⟩;have hset:(tbA m sf sm sl h15.size h.size ho qs++qs.map (nest 3 1 inC)++[]).set (3+i) (.sl q.1 3 1 ((natI l').map inC))=tbA m sf sm sl h15.size h.size ho (qs.set i (q.1,natI l'))++(qs.set i (q.1,natI l')).map (nest 3 1 inC)++[]:=by
     have h1:=set_mid (P:=tbA m sf sm sl h15.size h.size ho qs) (R:=[]) (Q:=qs.map (nest 3 1 inC)) (i:=i) (by rw[Yc];exact hilt) (.sl q.1 3 1 ((natI l').map inC));rw[show (tbA m sf sm sl h15.size h.size ho qs).length=3 from rfl] at h1;rw[h1,List.map_set];have h2:tbA m sf sm sl h15.size h.size ho (qs.set i (q.1,natI l'))=tbA m sf sm sl h15.size h.size ho qs:=by
      unfold tbA;rw[fst_set,list_set_self (by rw[Yd,hq];rfl)]
     rw[h2];rfl
    rw[hset] at hst;refine Up.next c (by omega) ⟨qs.set i (q.1,natI l'),⟨by rw[Yyh];exact hl,fun n q' hq'=>?_,fun n q' hq' he=>?_⟩,hst⟩;rotate_left
    .by_cases e:n=i
     .subst e;rw[Yq hilt] at hq';cases hq';have hl0:l'=[]:=by
       cases l' with
       | nil=>rfl
       | cons a r=>cases he
      subst hl0;exact hS.e n q hq (by rw[hql,List.nil_perm.1 hp'];rfl)
     .rw[Yy (fun h=>e h.symm)] at hq';exact hS.e n q' hq' he
    by_cases e:n=i
    .subst e;rw[Yq hilt] at hq';cases hq';exact⟨l',rfl,hp'.trans hlp,fun _=>hs''⟩
    .rw[Yy (fun h=>e h.symm)] at hq';obtain⟨l2,k1,k2,k3⟩:=hS.q n q' hq';exact⟨l2,k1,k2,fun hn=>k3 (by omega)⟩
  .replace c:=lt_f c;refine⟨hs.ext,h15.size,fun i=>((qs.getD i default).2).map Int.toNat,rfl,⟨ho,fun i=>(qs.getD i default).1,rfl,hs.at 0 rfl (o:=0) (n:=7) rfl,hhn,?_,fun j hj=>?_⟩,fun j hj=>?_⟩
   .have:=hs.rw 1 rfl (by omega);have key:(qs.map Prod.fst).map slC=(List.range qs.length).map fun i=>slC ((qs.getD i default).1):=by rw[List.map_map,map_range];rfl
    rw[key,hl] at this;exact this
   all_goals
    have hg:qs[j]?=some (qs.getD j default):=by rw[Yo,Yi (by omega)];rfl
    obtain⟨l,k1,k2,k3⟩:=hS.q j _ hg
   .have:=hs.rw (3+j) (rows:=(qs.getD j default).2.map inC) (s:=(qs.getD j default).1) (e:=3) (n:=1) (by
     have:=get_mid (P:=tbA m sf sm sl h15.size h.size ho qs) (Q:=qs.map (nest 3 1 inC)) (R:=[]) (i:=j) (by rw[Yc];omega);rw[show (tbA m sf sm sl h15.size h.size ho qs).length=3 from rfl] at this;rw[this,Yd,hg];rfl) (by omega)
    rw[k1] at this ⊢;rw[natI_back];exact this
   .rw[k1,natI_back];exact⟨k2,k3 (by omega)⟩
def DetM (m:Mch):Prop:=∀(i k:Nat) x y,m.mv[i]?=some x->m.mv[k]?=some y->i≠k->x.f=y.f->x.ev≠y.ev/\x.send=y.send
theorem outIx_nodup (m:Mch) (s:Int):(outIx m s).Nodup:=List.Nodup.sublist List.filter_sublist List.nodup_range
theorem evI_of {m:Mch} {i:Nat} {x:Mv} (h:m.mv[i]?=some x):evI m i=x.ev:=by unfold evI;rw[h]
theorem evLt_of {x y:Ev} (h1:¬evLt y x) (h2:x≠y):evLt x y:=by
 rcases evLt_tri x y with h | h | h
 .exact h
 .exact absurd h h2
 .exact absurd h h1
theorem srt_lt {m:Mch} {s:Nat} {l:List Nat} (hS:SrtM m s l) (hA:∀(j:Nat) a b,l[j]?=some a->l[j+1]?=some b->evI m a≠evI m b):∀(j i:Nat) (a b:Nat),i<j->l[i]?=some a->l[j]?=some b->evLt (evI m a) (evI m b)
 | 0,i,a,b,h,_,_=>by omega
 | j+1,i,a,b,h,ha,hb=>by
  have hl:=(Ya.1 hb).1;obtain⟨c,hc⟩:=get_some (l:=l) (i:=j) (by omega);have h1:evLt (evI m c) (evI m b):=by
   refine evLt_of ?_ (hA j c b hc hb);have:=(List.pairwise_iff_getElem.1 hS.s) j (j+1) (by omega) hl (by omega);rw[(Ya.1 hc).2,(Ya.1 hb).2] at this;exact this
  by_cases e:i=j
  .subst e;rw[ha] at hc;cases hc;exact h1
  .exact evLt_trans (srt_lt hS hA j i a c (by omega) ha hc) h1
theorem srt_send {m:Mch} {l:List Nat} (hA:∀(j:Nat) a b,l[j]?=some a->l[j+1]?=some b->(evI m a).send=(evI m b).send):∀(j:Nat) (a b:Nat),l[0]?=some a->l[j]?=some b->(evI m a).send=(evI m b).send
 | 0,a,b,ha,hb=>by rw[ha] at hb;cases hb;rfl
 | j+1,a,b,ha,hb=>by
  have hl:=(Ya.1 hb).1;obtain⟨c,hc⟩:=get_some (l:=l) (i:=j) (by omega);exact (srt_send hA j a c ha hc).trans (hA j c b hc hb)
theorem det98 (m:Mch) (sf sm sl:Sl) (b:Nat) (S:Nat->List Nat) (h:Heap) (hM:MI h m sf sm sl) (hN:NumM m) (hT:TbI h ⟨b,0,none⟩ m sf sm sl S) :
  Fn Pz 183 #[.pointer (some ⟨b,0,none⟩)] h (RP (DetM m) h):=by
 apply vc183;unfold W183 V183a;obtain⟨ho,qs,_,hat,hhn,hho,hqs⟩:=hT.ex;have hmn:=hM.pm.ln;have hmm:=hM.pm.sm;have hn:=hN.n;have hbb:b<h.size:=hc_blk (hat.nth 0 rfl);refine⟨ho,hat.nth 6 rfl,?_⟩;refine up_loop (n:=ho.n) (fun i h'=>Ext h h'/\∀(v:Nat),v<i->∀(j:Nat) a b,(S v)[j]?=some a->(S v)[j+1]?=some b->evI m a≠evI m b/\(evI m a).send=(evI m b).send) ⟨.rfl',fun v hv=>by omega⟩ ?_;rintro-i h6 hi ⟨E6,hQ⟩;refine sB_intro (fun c=>?_) (fun c=>?_)
 .replace c:=lt_t c;have hil:i<m.n.toNat:=by omega
  refine (hho.ext E6).nbI (by omega) (by omega) fun b7 o8 v gv t7=>?_;have hv:v=i:=by rw[show ((i:Int)).toNat=i from rfl,Yyb hil] at gv;exact (Yyp gv).symm
  subst hv;have hS:=hT.so v hil;have hrow:=hqs v hil;have hrn:=hrow.ln;rw[show (natI (S v)).length=(S v).length from Yc _] at hrn;have hSl:(S v).length<=1048576:=by
   rw[hS.p.length_eq];unfold outIx;exact Yys (List.length_filter_le _ _) (by rw[Yyd];omega)
  refine⟨_,t7.hd,?_⟩;refine⟨fun x h' μ=>∃j:Nat,x=j/\1<=j/\j<=(qs v).n+1/\μ=(qs v).n+1-j/\Ext h h'/\∀(k:Nat) a b,k+1<j->(S v)[k]?=some a->(S v)[k+1]?=some b->evI m a≠evI m b/\(evI m a).send=(evI m b).send,⟨_,1,rfl,Yyt _,by omega,rfl,E6,fun k a b hk=>by omega⟩,?_⟩;rintro-_ h14 μ ⟨j,rfl,hj1,hj,rfl,E14,hq⟩;refine sB_intro (fun c1=>?_) (fun c1=>?_)
  .replace c1:=lt_t c1;have hw:IntKind.wrap .i64 ((j:Int)-1)=((j-1:Nat):Int):=by rw[w64 (by omega) (by omega)];omega
   rw[hw];refine⟨sm,(atC_ext E14 hat).nth 4 rfl,?_⟩;refine (hrow.ext E14).nbI (by omega) (by omega) fun b16 o17 d1 g16 t16=>?_;replace g16:(natI (S v))[j-1]?=some d1:=g16;obtain⟨p1,gi,rfl⟩:=natI_get g16;obtain⟨x,hx,hxf⟩:=outIx_mem.1 (hS.p.mem_iff.1 (Yb gi));have hxl:=(Ya.1 hx).1;refine⟨_,t16.nth 0 rfl,?_⟩;refine (hM.pm.rw.ext E14).nbI (by omega) (by omega) fun b19 o20 x' gx t19=>?_;replace gx:m.mv[p1]?=some x':=gx;rw[hx] at gx;cases gx;refine⟨_,_,_,_,_,_,t19,sm,(atC_ext E14 hat).nth 4 rfl,?_⟩;refine (hrow.ext E14).nbI (by omega) (by omega) fun b28 o29 d2 g28 t28=>?_;replace g28:(natI (S v))[j]?=some d2:=g28;obtain⟨p2,gj,rfl⟩:=natI_get g28;obtain⟨y,hy,hyf⟩:=outIx_mem.1 (hS.p.mem_iff.1 (Yb gj));have hyl:=(Ya.1 hy).1;refine⟨_,t28.nth 0 rfl,?_⟩;refine (hM.pm.rw.ext E14).nbI (by omega) (by omega) fun b31 o32 y' gy t31=>?_;replace gy:m.mv[p2]?=some y':=gy;rw[hy] at gy;cases gy;have hxy:x.f=y.f:=by omega
   have hne:p1≠p2:=fun e=>by
    have nd:=(hS.p.nodup_iff).2 (outIx_nodup m (v:Int));have h1:=(Ya.1 gi);have h2:=(Ya.1 gj);have h3:=(List.pairwise_iff_getElem.1 nd) (j-1) j h1.1 h2.1 (by omega);rw[h1.2,h2.2] at h3;exact h3 e
   have k31:b31<h14.size:=hc_blk t31.hd;have k28:b28<h14.size:=hc_blk t28.hd;have kb:b<h14.size:=by have:=E14.1;omega
   refine⟨_,_,_,_,_,_,t31,?_,?_⟩;refine (St.refl h14).newbE fun h39 E39 hs=>⟨E39.sm,?_⟩;have hs39:h14.size<h39.size:=hc_blk (hs.rd 0 rfl (i:=0) rfl);refine hs.newbE fun h40 E40 hs=>⟨E40.sm,?_⟩;obtain⟨k1,k2⟩:=hs.put (K:=fun h'=>St h14 h' [.blk h39.size [.int .i64 0,.bool false,.int .i64 0,.int .i64 0,.int .i64 0,.bool false] 110,.blk h14.size x.cs 110]) 1 rfl (o:=0) (vs:=x.cs) (n:=6) rfl (show 6<=6 by decide) (fun h' hs=>hs);refine⟨k1,fun h41 e41=>?_⟩;have hs:=k2 h41 e41;have hB:But h14.size h40 h41:=by rw[e41];exact But.hputs (a:=⟨h14.size,0,none⟩) _ _ _
   refine⟨Sm_but hB (fun a ha=>?_),?_⟩
   .simp only[Yr,List.not_mem_nil,or_false] at ha;rcases ha with rfl | rfl | rfl
    .show b31≠h14.size;omega
    .show b28≠h14.size;omega
    .show b≠h14.size;omega
   refine hs.put 0 rfl (o:=0) (vs:=y.cs) rfl (show 6<=6 by decide) fun h42 hs=>?_;replace hs:St h h42 [.blk h39.size y.cs 110,.blk h14.size x.cs 110]:=by
    refine⟨E14.trans hs.ext,fun i hi=>⟨(hs.ok i hi).1,fun b hb=>Yys E14.1 ((hs.ok i hi).2 b hb)⟩,hs.ap⟩
   refine⟨_,_,_,_,_,_,hs.at 1 rfl (o:=0) (n:=6) rfl,_,_,_,_,_,_,hs.at 0 rfl (o:=0) (n:=6) rfl,?_⟩;refine (M.of63 x _).mono ?_;rintro _ h59 ⟨rfl,E1⟩;have hs:=hs.step E1;refine⟨_,_,_,rfl,E1.sm,?_⟩;refine (M.of63 y h59).mono ?_;rintro _ h64 ⟨rfl,E2⟩;have hs:=hs.step E2;refine⟨_,_,_,rfl,E2.sm,?_⟩;refine sB_intro (fun d=>?_) (fun d=>?_)
   .have d':x.ev=y.ev:=Yyn ((evEq x.ev y.ev).symm.trans d);exact RP.f (fun hD=>(hD _ _ x y hx hy hne hxy).1 d') hs.ext
   have d':x.ev≠y.ev:=Yyo ((evEq x.ev y.ev).symm.trans d);refine⟨_,hs.rd 1 rfl rfl,_,hs.rd 0 rfl rfl,sB_intro (fun e=>?_) (fun e=>?_)⟩
   .exact RP.f (fun hD=>by rw[(hD _ _ x y hx hy hne hxy).2] at e;simp at e) hs.ext
   rotate_left;refine (St.refl h14).newbE fun h68 E68 hs=>⟨E68.sm,?_⟩;have hs68:h14.size<h68.size:=hc_blk (hs.rd 0 rfl (i:=0) rfl);refine hs.newbE fun h69 E69 hs=>⟨E69.sm,?_⟩;obtain⟨k1,k2⟩:=hs.put (K:=fun h'=>St h14 h' [.blk h68.size x.cs 110,.blk h14.size [.int .i64 0,.bool false,.int .i64 0,.int .i64 0,.int .i64 0,.bool false] 110]) 0 rfl (o:=0) (vs:=x.cs) (n:=6) rfl (show 6<=6 by decide) (fun h' hs=>hs);refine⟨k1,fun h70 e70=>?_⟩;have hs:=k2 h70 e70;have hB:But h68.size h69 h70:=by rw[e70];exact But.hputs (a:=⟨h68.size,0,none⟩) _ _ _
   refine⟨Sm_but hB (fun a ha=>?_),?_⟩
   .simp only[Yr,List.not_mem_nil,or_false] at ha;rcases ha with rfl | rfl | rfl
    .show b31≠h68.size;omega
    .show b28≠h68.size;omega
    .show b≠h68.size;omega
   refine hs.put 1 rfl (o:=0) (vs:=y.cs) rfl (show 6<=6 by decide) fun h71 hs=>?_;replace hs:St h h71 [.blk h68.size x.cs 110,.blk h14.size y.cs 110]:=by
    refine⟨E14.trans hs.ext,fun i hi=>⟨(hs.ok i hi).1,fun b hb=>Yys E14.1 ((hs.ok i hi).2 b hb)⟩,hs.ap⟩
   refine⟨_,_,_,_,_,_,hs.at 0 rfl (o:=0) (n:=6) rfl,_,_,_,_,_,_,hs.at 1 rfl (o:=0) (n:=6) rfl,?_⟩;refine (M.of63 x _).mono ?_;rintro _ h59 ⟨rfl,E1⟩;have hs:=hs.step E1;refine⟨_,_,_,rfl,E1.sm,?_⟩;refine (M.of63 y h59).mono ?_;rintro _ h64 ⟨rfl,E2⟩;have hs:=hs.step E2;refine⟨_,_,_,rfl,E2.sm,?_⟩;refine sB_intro (fun d=>?_) (fun d=>?_)
   .have d':x.ev=y.ev:=Yyn ((evEq x.ev y.ev).symm.trans d);exact RP.f (fun hD=>(hD _ _ x y hx hy hne hxy).1 d') hs.ext
   have d':x.ev≠y.ev:=Yyo ((evEq x.ev y.ev).symm.trans d);refine⟨_,hs.rd 0 rfl rfl,_,hs.rd 1 rfl rfl,sB_intro (fun e=>?_) (fun e=>?_)⟩
   .exact RP.f (fun hD=>by rw[(hD _ _ x y hx hy hne hxy).2] at e;simp at e) hs.ext
   all_goals
    have e':x.send=y.send:=by simpa using e
    refine⟨_,by omega,j+1,by rw[w64 (by omega) (by omega)];omega,by omega,by omega,rfl,hs.ext,fun k a b hk ha hb=>?_⟩;by_cases ek:k+1=j
    .have ek':k=j-1:=by omega
     subst ek';rw[ha] at gi;cases gi;rw[show j-1+1=j by omega] at hb;rw[hb] at gj;cases gj;rw[evI_of hx,evI_of hy];exact⟨d',e'⟩
    .exact hq k a b (by omega) ha hb
  .replace c1:(qs v).n<=j:=by have:=Yyo c1;omega
   refine Up.next c (by omega) ⟨E14,fun v' hv'=>?_⟩;by_cases e:v'=v
   .subst e;exact fun k a b ha hb=>hq k a b (by have:=(Ya.1 hb).1;omega) ha hb
   .exact hQ v' (by omega)
 .replace c:=lt_f c;refine RP.t (fun i1 k1 x y hx hy hne hf=>?_) E6;have hxr:=hN.mv x (Yb hx);have hv:x.f.toNat<m.n.toNat:=by omega
  have hS:=hT.so x.f.toNat hv;have hA:=hQ x.f.toNat (by omega);have hfi:((x.f.toNat:Nat):Int)=x.f:=by omega
  have m1:i1∈S x.f.toNat:=hS.p.mem_iff.2 (outIx_mem.2 ⟨x,hx,hfi.symm⟩);have m2:k1∈S x.f.toNat:=hS.p.mem_iff.2 (outIx_mem.2 ⟨y,hy,by omega⟩);obtain⟨a,ha⟩:=Yf.1 m1;obtain⟨c,hc⟩:=Yf.1 m2;have hne2:a≠c:=fun e=>by subst e;rw[ha] at hc;cases hc;exact hne rfl
  have hlt:=srt_lt hS (fun j a b h1 h2=>(hA j a b h1 h2).1);rw[<-evI_of hx,<-evI_of hy];constructor
  .rcases Nat.lt_or_gt_of_ne hne2 with h1 | h1
   .have:=hlt c a i1 k1 h1 ha hc;exact fun e=>by rw[e] at this;exact evLt_irr _ this
   .have:=hlt a c k1 i1 h1 hc ha;exact fun e=>by rw[e] at this;exact evLt_irr _ this
  .obtain⟨z,hz⟩:=get_some (l:=S x.f.toNat) (i:=0) (by have:=(Ya.1 ha).1;omega);have hs:=srt_send (m:=m) (l:=S x.f.toNat) (fun j a b h1 h2=>(hA j a b h1 h2).2);have e1:=hs a z i1 hz ha;have e2:=hs c z k1 hz hc;have e3:(evI m i1).send=(evI m k1).send:=e1.symm.trans e2;rw[evI_of hx,evI_of hy] at e3;exact e3
def meds (m:Mch):List Ed:=m.mv.map fun x=>⟨x.f,0,0,0,x.t,false⟩
theorem meds_q {m:Mch} {n:Nat} {b:Int}:b∈quietL (meds m) (-1) n ↔ ∃x∈m.mv,x.f=(n:Int)/\x.t=b:=by
 rw[quietL_mem];constructor
 .rintro⟨e,he,_,hf,ht⟩;obtain⟨x,hx,rfl⟩:=Yp.1 he;exact⟨x,hx,hf,ht⟩
 .rintro⟨x,hx,hf,ht⟩;exact⟨_,Yp.2 ⟨x,hx,rfl⟩,rfl,hf,ht⟩
def RchM (m:Mch):Prop:=∀v:Int,0<=v->v<m.n->Qr (meds m) (-1) [m.s] v
theorem reached99 (m:Mch) (sf sm sl:Sl) (b:Nat) (S:Nat->List Nat) (h:Heap) (hM:MI h m sf sm sl) (hN:NumM m) (hT:TbI h ⟨b,0,none⟩ m sf sm sl S) :
  Fn Pz 184 #[.pointer (some ⟨b,0,none⟩)] h (RP (RchM m) h):=by
 apply vc184;unfold W184;obtain⟨ho,qs,_,hat,hhn,hho,hqs⟩:=hT.ex;have hmn:=hM.pm.ln;have hmm:=hM.pm.sm;have hn:=hN.n;have hsn:=hN.s;refine⟨_,hat.nth 1 rfl,⟨by omega,by omega,by omega⟩,?_⟩;rw[made4];refine (St.refl h).newb fun h2' hs=>?_;refine⟨_,(atC_ext hs.ext hat).nth 2 rfl,⟨by omega,by omega⟩,?_⟩;have e0:0+Int.toNat m.s*1=m.s.toNat:=by omega
 rw[e0];refine hs.put 0 rfl (o:=m.s.toNat) (vs:=[.bool true]) rfl (by rw[Yc,Yg,Yv];omega) fun h4 hs=>?_;rw[map_splice _ (by rw[Yg];omega)] at hs;refine⟨_,(atC_ext hs.ext hat).nth 2 rfl,?_⟩;refine hs.newb fun h6 hs=>?_;have hs:=hs.blkS 1 1 ([m.s].map inC) rfl (inrows _) rfl (by decide);have hC0:CL (meds m) (-1) m.n.toNat [m.s] ((List.replicate m.n.toNat false).set m.s.toNat true) [m.s]:=
  (CL.start (meds m) (-1) m.n.toNat [m.s]).push hsn.1 (by rw[List.getElem?_replicate,if_pos (by omega)]) (.base (Ye.2 rfl))
 refine⟨fun todo x h' μ=>∃(i:Nat) (D:List Bool) (T:List Int),x=i/\μ=m.n.toNat-i/\i<=T.length/\St h h' [.sl todo 3 1 (T.map inC),.blk h.size (D.map Value.bool) 4]/\CL (meds m) (-1) m.n.toNat [m.s] D T/\m.s∈T/\∀v∈T.take i,∀b∈quietL (meds m) (-1) v.toNat,b∈T,⟨_,0,_,_,rfl,rfl,by omega,hs,hC0,Ye.2 rfl,fun v hv=>by rw[Yyk] at hv;cases hv⟩,?_⟩;clear hs hC0;rintro-todo_22 _ h24 μ ⟨i,D,T,rfl,rfl,hi,hs,hC,hlT,hcl⟩;have htl:=(hs.rows 0 rfl (by omega)).ln;have hle:=hC.le;refine sBi (fun c2=>?_) (fun c2=>?_)
 .refine⟨_,(atC_ext hs.ext hat).nth 6 rfl,?_⟩;refine (hs.rows 0 rfl (by omega)).nbI (by omega) (by omega) fun b26 o27 v g26 t26=>?_;replace g26:T[i]?=some v:=g26;have hvm:=(hC.mem v).1 (Yb g26);have hvl:v.toNat<m.n.toNat:=by have:=(Ya.1 hvm.2).1;have:=hC.len;omega
  refine⟨_,t26.hd,?_⟩;refine (hho.ext hs.ext).nbI (by omega) (by omega) fun b29 o30 k g29 t29=>?_;have hk:k=v.toNat:=by rw[Yyb hvl] at g29;exact (Yyp g29).symm
  subst hk;refine⟨_,t29.hd,?_⟩;have hiT:=(Ya.1 g26).1;have hS:=hT.so v.toNat hvl;have hrow:=hqs v.toNat hvl;have hrn:=hrow.ln;rw[show (natI (S v.toNat)).length=(S v.toNat).length from Yc _] at hrn;have hSl:(S v.toNat).length<=1048576:=by
   rw[hS.p.length_eq];unfold outIx;exact Yys (List.length_filter_le _ _) (by rw[Yyd];omega)
  refine⟨fun todo x h' μ=>∃(j:Nat) (D:List Bool) (T':List Int),x=j/\μ=(qs v.toNat).n-j/\j<=(qs v.toNat).n/\St h h' [.sl todo 3 1 (T'.map inC),.blk h.size (D.map Value.bool) 4]/\CL (meds m) (-1) m.n.toNat [m.s] D T'/\(∃R,T'=T++R)/\∀k∈(S v.toNat).take j,∀y,m.mv[k]?=some y->y.t∈T',⟨_,0,D,T,rfl,rfl,by omega,hs,hC,⟨[],by simp⟩,fun v hv=>by rw[Yyk] at hv;cases hv⟩,?_⟩;clear hs hC htl hle;rintro-todo_35 _ h37 μ ⟨j,D,T',rfl,rfl,hj,hs,hC,⟨R,rfl⟩,hcl2⟩;have htl:=(hs.rows 0 rfl (by omega)).ln;have hle:=hC.le;have hDl:=hC.len;refine sBi (fun c3=>?_) (fun c3=>?_)
  .refine (hrow.ext hs.ext).nbI (by omega) (by omega) fun b38 o39 d g38 t38=>?_;replace g38:(natI (S v.toNat))[j]?=some d:=g38;obtain⟨p1,gp,rfl⟩:=natI_get g38;obtain⟨x,hx,hxf⟩:=outIx_mem.1 (hS.p.mem_iff.1 (Yb gp));have hxl:=(Ya.1 hx).1;have hxr:=hN.mv x (Yb hx);refine⟨_,t38.hd,sm,(atC_ext hs.ext hat).nth 4 rfl,?_⟩;refine (hM.pm.rw.ext hs.ext).nbI (by omega) (by omega) fun b30 o31 x' gx t30=>?_;replace gx:m.mv[p1]?=some x':=gx;rw[hx] at gx;cases gx;refine⟨x.t,t30.nth 4 rfl,⟨by omega,by omega⟩,?_⟩;obtain⟨z,hz⟩:=get_some (l:=D) (i:=x.t.toNat) (by omega);have e1:0+Int.toNat x.t*1=x.t.toNat:=by omega
   rw[e1];refine⟨_,hs.rd 1 rfl (by rw[map_get,hz];rfl),?_⟩;refine sB_intro (fun c4=>?_) (fun c4=>?_)
   .have hzf:z=false:=bF c4;subst hzf;refine⟨⟨by omega,by omega⟩,?_⟩;refine hs.put 1 rfl (o:=x.t.toNat) (vs:=[.bool true]) rfl (by rw[Yc,Yv];omega) fun h42 hs=>?_;refine hs.app 0 rfl app42 (m:=1) [[.int .i64 x.t]] rfl rfl (by simp) rfl (by omega) (by simp only[maxLen];omega) fun s44 h45 ns44 hs=>?_;have hqr:Qr (meds m) (-1) [m.s] x.t:=.step (hC.r v (by rw[Yk];exact .inl (Yb g26))) ⟨⟨x.f,0,0,0,x.t,false⟩,Yp.2 ⟨x,Yb hx,rfl⟩,rfl,by show x.f=v;omega,rfl⟩;refine⟨_,by omega,j+1,D.set x.t.toNat true,T++R++[x.t],by rw[w64 (by omega) (by omega)];omega,rfl,by omega,?_,hC.push (by omega) hz hqr,⟨R++[x.t],by rw[Yz]⟩,fun k hk y hy=>?_⟩
    .rw[Ym,<-map_splice _ (by omega)];exact hs
    .rw[take_snoc gp,Yk,Ye] at hk;rw[Yk];rcases hk with hk | rfl
     .exact .inl (hcl2 k hk y hy)
     .rw[hx] at hy;cases hy;exact .inr (Ye.2 rfl)
   .have hzt:z=true:=bT c4;subst hzt;refine⟨_,by omega,j+1,D,T++R,by rw[w64 (by omega) (by omega)];omega,rfl,by omega,hs,hC,⟨R,rfl⟩,fun k hk y hy=>?_⟩;rw[take_snoc gp,Yk,Ye] at hk;rcases hk with hk | rfl
    .exact hcl2 k hk y hy
    .rw[hx] at hy;cases hy;exact (hC.mem _).2 ⟨by omega,hz⟩
  .have hTR:(T++R).length=T.length+R.length:=Yh;refine⟨_,by omega,i+1,D,T++R,by rw[w64 (by omega) (by omega)];omega,rfl,by rw[Yh];omega,hs,hC,List.mem_append_left _ hlT,fun v' hv'=>?_⟩;have ht1:(T++R).take (i+1)=T.take i++[v]:=by rw[Yyq (by omega),take_snoc g26]
   rw[ht1,Yk,Ye] at hv';rcases hv' with hv' | rfl
   .exact fun b hb=>List.mem_append_left _ (hcl v' hv' b hb)
   .intro b hb;obtain⟨x,hx,hxf,rfl⟩:=meds_q.1 hb;obtain⟨k,hk⟩:=Yf.1 hx;refine hcl2 k ?_ x hk;rw[Yj (by omega)];exact hS.p.mem_iff.2 (outIx_mem.2 ⟨x,hk,hxf⟩)
 .refine⟨_,(atC_ext hs.ext hat).nth 1 rfl,RP.e ?_ hs.ext⟩;have hend:=fun v=>hC.end_ (fun x hx=>by rw[Ye.1 hx];exact hlT) (fun v hv b hb=>hcl v (by rw[Yj (by omega)];exact hv) b hb) v;have hcnt:=hC.cnt;have hDl:=hC.len;have hk:(((todo_22.n:Nat):Int)==m.n)=true ↔ T.length=m.n.toNat:=by rw[beq_iff_eq];omega
  rw[hk];constructor
  .intro hTl v h0 h1;have hall:=List.count_eq_length.1 (show D.count true=D.length by omega);obtain⟨z,hz⟩:=get_some (l:=D) (i:=v.toNat) (by omega);have:=hall z (Yb hz);subst this;exact (hend v).1 ((hC.mem v).2 ⟨h0,hz⟩)
  .intro hR;have hall:D.count true=D.length:=List.count_eq_length.2 fun z hz=>by
    obtain⟨j,hj⟩:=Yf.1 hz;have hjl:=(Ya.1 hj).1;have h1:=((hC.mem (j:Int)).1 ((hend (j:Int)).2 (hR j (by omega) (by omega)))).2;rw[show ((j:Int)).toNat=j from rfl,hj] at h1;exact (Yyp h1).symm
   omega
structure AgM (m:Mch):Prop where
 s:∀x∈m.mv,x.ag=true->x.send=true
 o:∀x∈m.mv,x.ag=true->(outIx m x.f).length=1
 i:∀x∈m.mv,x.ag=true->x.f≠m.s
 f:∀x∈m.mv,x.ag=true->m.fin[x.f.toNat]?=some false
 p:∀x∈m.mv,x.ag=true->∀y∈m.mv,y.t=x.f->y.send=true/\y.label=x.label
theorem again100 (m:Mch) (sf sm sl:Sl) (b:Nat) (S:Nat->List Nat) (h:Heap) (hM:MI h m sf sm sl) (hN:NumM m) (hT:TbI h ⟨b,0,none⟩ m sf sm sl S) :
  Fn Pz 185 #[.pointer (some ⟨b,0,none⟩)] h (RP (AgM m) h):=by
 apply vc185;unfold W185;obtain⟨ho,qs,_,hat,hhn,hho,hqs⟩:=hT.ex;have hmn:=hM.pm.ln;have hmm:=hM.pm.sm;have hfn:=hM.pf.ln;have hn:=hN.n;have hfl:=hN.fl;refine⟨sm,hat.nth 4 rfl,?_⟩;refine up_loopS (n:=sm.n) (St.refl h) (fun i=>∀(j:Nat) x,j<i->m.mv[j]?=some x->x.ag=true->x.send=true/\(outIx m x.f).length=1/\x.f≠m.s/\m.fin[x.f.toNat]?=some false/\∀y∈m.mv,y.t=x.f->y.send=true/\y.label=x.label) (fun j x hj=>by omega) ?_;rintro-i h6 hi ⟨hs,hq⟩;refine sB_intro (fun c=>?_) (fun c=>?_)
 .replace c:=lt_t c;refine (hM.pm.rw.ext hs.ext).nbI (by omega) (by omega) fun b7 o8 x gx t=>?_;replace gx:m.mv[i]?=some x:=gx;have hxm:=Yb gx;have hxr:=hN.mv x hxm;refine⟨_,_,_,_,_,_,t,?_⟩;refine hs.newput (vs:=x.cs) rfl rfl fun h16 hs=>?_;refine⟨_,hs.rd 0 rfl rfl,sB_intro (fun c1=>?_) (fun c1=>?_)⟩
  .refine Up.next c (by omega) ⟨hs.drop 1,fun j z hj hz=>?_⟩;by_cases e:j=i
   .subst e;rw[gx] at hz;cases hz;exact fun ha=>by rw[ha] at c1;cases c1
   .exact hq j z (by omega) hz
  have hag:x.ag=true:=bT c1;refine⟨_,hs.rd 0 rfl rfl,sB_intro (fun c2=>RP.f (fun hG=>by rw[hG.s x hxm hag] at c2;cases c2) hs.ext) (fun c2=>?_)⟩;refine⟨ho,(atC_ext hs.ext hat).nth 6 rfl,_,hs.rd 0 rfl rfl,?_⟩;refine (hho.ext hs.ext).nbI (by omega) (by omega) fun b22 o23 v gv t22=>?_;have hvl:x.f.toNat<m.n.toNat:=by omega
  have hv:v=x.f.toNat:=by rw[Yyb hvl] at gv;exact (Yyp gv).symm
  subst hv;have hS:=hT.so x.f.toNat hvl;have hrn:=(hqs x.f.toNat hvl).ln;rw[show (natI (S x.f.toNat)).length=(S x.f.toNat).length from Yc _] at hrn;have hfi:((x.f.toNat:Nat):Int)=x.f:=by omega
  have hlen:(S x.f.toNat).length=(outIx m x.f).length:=by rw[hS.p.length_eq,hfi]
  refine⟨_,t22.hd,sBn (fun c3=>RP.f (fun hG=>by have:=hG.o x hxm hag;omega) hs.ext) (fun c3=>?_)⟩;refine⟨_,hs.rd 0 rfl rfl,_,(atC_ext hs.ext hat).nth 2 rfl,sBe (fun c4=>RP.f (fun hG=>hG.i x hxm hag c4) hs.ext) (fun c4=>?_)⟩;refine⟨sf,(atC_ext hs.ext hat).nth 3 rfl,_,hs.rd 0 rfl rfl,?_⟩;refine (hM.pf.rw.ext hs.ext).nbI (by omega) (by omega) fun b29 o30 f gf t29=>?_;refine⟨_,t29.hd,sB_intro (fun c5=>RP.f (fun hG=>by rw[hG.f x hxm hag] at gf;cases gf;cases c5) hs.ext) (fun c5=>?_)⟩;have hff:m.fin[x.f.toNat]?=some false:=by rw[gf,c5]
  refine⟨sm,(atC_ext hs.ext hat).nth 4 rfl,?_⟩;refine up_loopS (n:=sm.n) hs (fun k=>∀(j:Nat) y,j<k->m.mv[j]?=some y->y.t=x.f->y.send=true/\y.label=x.label) (fun j x hj=>by omega) ?_;clear hs;rintro-k h37 hk ⟨hs,hq2⟩;refine sB_intro (fun c6=>?_) (fun c6=>?_)
  .replace c6:=lt_t c6;refine (hM.pm.rw.ext hs.ext).nbI (by omega) (by omega) fun b38 o39 y gy t38=>?_;replace gy:m.mv[k]?=some y:=gy;have hym:=Yb gy;refine⟨_,_,_,_,_,_,t38,?_⟩;refine hs.newput (vs:=y.cs) rfl rfl fun h47 hs=>?_;refine⟨_,hs.rd 0 rfl rfl,_,hs.rd 1 rfl rfl,sBe (fun d1=>?_) (fun d1=>?_)⟩
   .refine⟨_,hs.rd 0 rfl rfl,sB_intro (fun d2=>RP.f (fun hG=>by rw[(hG.p x hxm hag y hym d1).1] at d2;cases d2) hs.ext) (fun d2=>?_)⟩;refine⟨_,hs.rd 0 rfl rfl,_,hs.rd 1 rfl rfl,sBn (fun d3=>RP.f (fun hG=>d3 (hG.p x hxm hag y hym d1).2) hs.ext) (fun d3=>?_)⟩;refine Up.next c6 (by omega) ⟨hs.drop 1,fun j z hj hz=>?_⟩;by_cases e:j=k
    .subst e;rw[gy] at hz;cases hz;exact fun _=>⟨bT d2,d3⟩
    .exact hq2 j z (by omega) hz
   .refine Up.next c6 (by omega) ⟨hs.drop 1,fun j z hj hz=>?_⟩;by_cases e:j=k
    .subst e;rw[gy] at hz;cases hz;exact fun h=>absurd h d1
    .exact hq2 j z (by omega) hz
  .replace c6:=lt_f c6;refine Up.next c (by omega) ⟨hs.drop 1,fun j z hj hz=>?_⟩;by_cases e:j=i
   .subst e;rw[gx] at hz;cases hz;refine fun _=>⟨bT c2,by omega,c4,hff,fun y hy=>?_⟩;obtain⟨p,hp⟩:=Yf.1 hy;exact hq2 p y (by have:=(Ya.1 hp).1;omega) hp
   .exact hq j z (by omega) hz
 .replace c:=lt_f c;have key:∀x∈m.mv,x.ag=true->x.send=true/\(outIx m x.f).length=1/\x.f≠m.s/\m.fin[x.f.toNat]?=some false/\∀y∈m.mv,y.t=x.f->y.send=true/\y.label=x.label:=fun x hx=>by
   obtain⟨j,hj⟩:=Yf.1 hx;exact hq j x (by have:=(Ya.1 hj).1;omega) hj
  exact RP.t ⟨fun x hx ha=>(key x hx ha).1,fun x hx ha=>(key x hx ha).2.1,fun x hx ha=>(key x hx ha).2.2.1,fun x hx ha=>(key x hx ha).2.2.2.1,fun x hx ha=>(key x hx ha).2.2.2.2⟩ hs.ext
structure TmM (m:Mch) (i:Nat) (t:To):Prop where
 o:∀z,0<i->m.li[i-1]?=some z->z.s<t.s
 k:1<=t.k/\t.k<=1000
 e:0<=t.e/\∃x,m.mv[t.e.toNat]?=some x/\x.f=t.s/\x.send=true/\x.ag=false
def TimM (m:Mch):Prop:=∀i t,m.li[i]?=some t->TmM m i t
theorem timed101 (m:Mch) (sf sm sl:Sl) (b:Nat) (S:Nat->List Nat) (h:Heap) (hM:MI h m sf sm sl) (hN:NumM m) (hT:TbI h ⟨b,0,none⟩ m sf sm sl S) :
  Fn Pz 186 #[.pointer (some ⟨b,0,none⟩)] h (RP (TimM m) h):=by
 apply vc186;unfold W186 V186a;obtain⟨ho,qs,_,hat,hhn,hho,hqs⟩:=hT.ex;have hmn:=hM.pm.ln;have hmm:=hM.pm.sm;have hln:=hM.pl.ln;have hlm:=hM.pl.sm;refine⟨sl,hat.nth 5 rfl,?_⟩;refine up_loopS (n:=sl.n) (St.refl h) (fun i=>∀(j:Nat) x,j<i->m.li[j]?=some x->TmM m j x) (fun j x hj=>by omega) ?_;rintro-i h6 hi ⟨hs,hq⟩;refine sB_intro (fun c=>?_) (fun c=>RP.t (fun j x hx=>hq j x (by have:=lt_f c;have:=(Ya.1 hx).1;omega) hx) hs.ext);replace c:=lt_t c;refine (hM.pl.rw.ext hs.ext).nbI (by omega) (by omega) fun b7 o8 x gx t=>?_;replace gx:m.li[i]?=some x:=gx;have no:∀ {q:Prop},(TmM m i x->q)->TimM m->q:=fun f hT=>f (hT i x gx);refine⟨_,_,_,t,?_⟩;refine hs.newput (vs:=x.cs) rfl rfl fun h13 hs=>?_;refine sBi (fun c1=>?_) (fun c1=>?_);have hw:IntKind.wrap .i64 ((i:Int)-1)=((i-1:Nat):Int):=by rw[w64 (by omega) (by omega)];omega
 rw[hw];refine⟨sl,(atC_ext hs.ext hat).nth 5 rfl,?_⟩;refine (hM.pl.rw.ext hs.ext).nbI (by omega) (by omega) fun b15 o16 z gz t15=>?_;replace gz:m.li[i-1]?=some z:=gz;refine⟨_,t15.nth 0 rfl,_,hs.rd 0 rfl rfl,sBi (fun d0=>RP.f (no fun hT=>by have:=hT.o z (by omega) gz;omega) hs.ext) (fun d0=>?_)⟩;have hord:∀z,0<i->m.li[i-1]?=some z->z.s<x.s:=fun z' _ hz'=>by rw[gz] at hz';cases hz';omega
 rotate_left;have hord:∀z,0<i->m.li[i-1]?=some z->z.s<x.s:=fun z' h0 _=>by omega
 all_goals
  refine⟨_,hs.rd 0 rfl rfl,sBi (fun d1=>RP.f (no fun hT=>by have:=hT.k;omega) hs.ext) (fun d1=>?_)⟩;refine⟨_,hs.rd 0 rfl rfl,sBi (fun d2=>RP.f (no fun hT=>by have:=hT.k;omega) hs.ext) (fun d2=>?_)⟩;refine⟨_,hs.rd 0 rfl rfl,sBi (fun d3=>RP.f (no fun hT=>by have:=hT.e.1;omega) hs.ext) (fun d3=>?_)⟩;refine⟨_,hs.rd 0 rfl rfl,sm,(atC_ext hs.ext hat).nth 4 rfl,sBi (fun d4=>RP.f (no fun hT=>by obtain⟨_,y,hy,_⟩:=hT.e;have:=(Ya.1 hy).1;omega) hs.ext) (fun d4=>?_)⟩;refine⟨sm,(atC_ext hs.ext hat).nth 4 rfl,_,hs.rd 0 rfl rfl,?_⟩;refine (hM.pm.rw.ext hs.ext).nbI (by omega) (by omega) fun b26 o27 y gy t26=>?_;refine⟨_,_,_,_,_,_,t26,?_⟩;intro h34 e34;refine⟨smx (by rw[e34];exact Ext.push _ _),?_⟩;refine hs.newput (zs:=[.int .i64 0,.bool false,.int .i64 0,.int .i64 0,.int .i64 0,.bool false]) (vs:=y.cs) (n:=6) (e:=110) rfl rfl (fun h35 hs=>?_) h34 e34;refine⟨_,hs.rd 0 rfl rfl,_,hs.rd 1 rfl rfl,sBn (fun d5=>RP.f (no fun hT=>by obtain⟨_,z,hz,hf,_⟩:=hT.e;rw[gy] at hz;cases hz;exact d5 hf) hs.ext) (fun d5=>?_)⟩;refine⟨_,hs.rd 0 rfl rfl,sB_intro (fun d6=>RP.f (no fun hT=>by obtain⟨_,z,hz,_,hf,_⟩:=hT.e;rw[gy] at hz;cases hz;rw[hf] at d6;cases d6) hs.ext) (fun d6=>?_)⟩;refine⟨_,hs.rd 0 rfl rfl,sB_intro (fun d7=>RP.f (no fun hT=>by obtain⟨_,z,hz,_,_,hf⟩:=hT.e;rw[gy] at hz;cases hz;rw[hf] at d7;cases d7) hs.ext) (fun d7=>?_)⟩;refine Up.next c (by omega) ⟨hs.drop 2,fun j z hj hz=>?_⟩;by_cases e:j=i
  .subst e;rw[gx] at hz;cases hz;exact⟨hord,by omega,by omega,y,gy,d5,bT d6,d7⟩
  .exact hq j z (by omega) hz
structure VM (m:Mch):Prop where
 n:NumM m
 d:DetM m
 r:RchM m
 a:AgM m
 t:TimM m
theorem open47 (m:Mch) (sf sm sl:Sl) (h:Heap) (hM:MI h m sf sm sl) :
  Fn Pz 150 #[.agg ⟨mC m sf sm sl⟩] h fun v h'=>Ext h h'/\∃(p:Option Addr) (b:Bool),v=.tuple ⟨[.pointer p,.bool b]⟩/\(b=true ↔ VM m)/\(b=true->∃c S,p=some ⟨c,0,none⟩/\TbI h' ⟨c,0,none⟩ m sf sm sl S):=by
 apply vc150 m.role m.n m.s sf sm sl;unfold W150;have no:∀ {q:Prop} {p:Option Addr} {h':Heap},Ext h h'->¬VM m->Ext h h'/\∃(p':Option Addr) (b:Bool),Value.tuple ⟨[.pointer p,.bool false]⟩=.tuple ⟨[.pointer p',.bool b]⟩/\(b=true ↔ VM m)/\(b=true->∃c S,p'=some ⟨c,0,none⟩/\TbI h' ⟨c,0,none⟩ m sf sm sl S):=fun E hn=>⟨E,_,false,rfl,iff_of_false (by decide) hn,fun e=>by cases e⟩;refine (St.refl h).newb fun h7 hs=>?_;refine⟨_,_,_,sf,sm,sl,hs.at 0 rfl (o:=0) (n:=6) rfl,?_⟩;refine (numbers96 m sf sm sl h7 (hM.ext hs.ext)).mono ?_;rintro _ h16 ⟨⟨b1,rfl,hb1⟩,E⟩;have hs:=hs.step E;refine⟨_,rfl,sB_intro (fun c=>no (q:=True) hs.ext fun hG=>iff_f hb1 (bF c) hG.n) (fun c=>?_)⟩;have hN:=hb1.1 (bT c);refine⟨_,_,_,sf,sm,sl,hs.at 0 rfl (o:=0) (n:=6) rfl,?_⟩;refine (sorted97 m sf sm sl h16 (hM.ext hs.ext) hN).mono ?_;rintro _ h25 ⟨E,b,S,rfl,hT⟩;have hs:=hs.step E;refine⟨_,rfl,?_⟩;refine (det98 m sf sm sl b S h25 (hM.ext hs.ext) hN hT).mono ?_;rintro _ h28 ⟨⟨b2,rfl,hb2⟩,E⟩;have hs:=hs.step E;have hT:=hT.ext E;refine⟨_,rfl,sB_intro (fun c2=>?_) (fun c2=>no (q:=True) hs.ext fun hG=>iff_f hb2 c2 hG.d)⟩;refine (reached99 m sf sm sl b S h28 (hM.ext hs.ext) hN hT).mono ?_;rintro _ h31 ⟨⟨b3,rfl,hb3⟩,E⟩;have hs:=hs.step E;have hT:=hT.ext E;refine⟨_,rfl,sB_intro (fun c3=>?_) (fun c3=>no (q:=True) hs.ext fun hG=>iff_f hb3 c3 hG.r)⟩;refine (again100 m sf sm sl b S h31 (hM.ext hs.ext) hN hT).mono ?_;rintro _ h34 ⟨⟨b4,rfl,hb4⟩,E⟩;have hs:=hs.step E;have hT:=hT.ext E;refine⟨_,rfl,sB_intro (fun c4=>?_) (fun c4=>no (q:=True) hs.ext fun hG=>iff_f hb4 c4 hG.a)⟩;refine (timed101 m sf sm sl b S h34 (hM.ext hs.ext) hN hT).mono ?_;rintro _ h37 ⟨⟨b5,rfl,hb5⟩,E⟩;have hs:=hs.step E;have hT:=hT.ext E;exact⟨_,rfl,hs.ext,_,_,rfl,hb5.trans ⟨fun ht=>⟨hN,hb2.1 c2,hb3.1 c3,hb4.1 c4,ht⟩,fun hG=>hG.t⟩,fun _=>⟨b,S,rfl,hT⟩⟩
theorem valid23 (m:Mch) (sf sm sl:Sl) (h:Heap) (hM:MI h m sf sm sl):Fn Pz 91 #[.agg ⟨mC m sf sm sl⟩] h (RP (VM m) h):=by
 apply vc91 m.role m.n m.s sf sm sl;unfold W91;refine (St.refl h).newb fun h7 hs=>?_;refine⟨_,_,_,sf,sm,sl,hs.at 0 rfl (o:=0) (n:=6) rfl,?_⟩;refine (open47 m sf sm sl h7 (hM.ext hs.ext)).mono ?_;rintro _ h17 ⟨E,p,b,rfl,hb,_⟩;exact⟨_,_,rfl,RP.e hb (hs.step E).ext⟩
structure MR where
 m:Mch
 f:Sl
 g:Sl
 l:Sl
def MR.cs (x:MR):List Value:=mC x.m x.f x.g x.l
structure SyI (h:Heap) (s:Sl) (L:List MR):Prop where
 r:RL h 6 s MR.cs L
 i:∀x∈L,MI h x.m x.f x.g x.l
theorem SyI.ext {h h':Heap} {s:Sl} {L:List MR} (hs:SyI h s L) (E:Ext h h'):SyI h' s L:=⟨hs.r.ext E,fun x hx=>(hs.i x hx).ext E⟩
structure SysV (L:List Mch):Prop where
 n:1<=L.length/\L.length<=6
 m:∀(p:Nat) m,L[p]?=some m->m.role=(p:Int)/\VM m/\∀x∈m.mv,x.peer<(L.length:Int)
theorem cal51:callable Pz 93=true:=by kernel_rfl
theorem index85 (L:List Mv) (s:Sl) (a:Addr) (t:Sl) (h:Heap) (hr:Rw h 6 s (L.map Mv.cs)) (hl:L.length<=1048576) (ha:hc h a=some (.slice t.a t.n t.c)) :
  Fn Pz 151 #[.slice s.a s.n s.c,.func (.func 93) #[] #[.pointer (some a)]] h fun v h'=>(∃k:Int,v=.int .i64 k/\(0<=k ↔ ∃x∈L,(t.n:Int)<=x.peer))/\Ext h h':=by
 apply vc151 s 93 (some a);unfold W151;have hn:=hr.ln;refine up_loop (n:=s.n) (fun i h'=>Ext h h'/\∀(j:Nat) (x:Mv),j<i->L[j]?=some x->¬(t.n:Int)<=x.peer) ⟨.rfl',fun j x hj=>by omega⟩ ?_;rintro-i h5 hi ⟨E,hq⟩;refine sB_intro (fun c=>?_) (fun c=>?_)
 .replace c:=lt_t c;refine (hr.ext E).nbI (by omega) (by omega) fun b6 o7 x gx t14=>?_;replace gx:L[i]?=some x:=gx;refine⟨_,_,_,_,_,_,t14,?_⟩;rw[cal51,cond_true];apply vc93 x.f x.send x.peer x.label x.t x.ag a;unfold W93;refine (St.refl h5).newb fun h7 hs=>?_;refine⟨_,hs.rd 0 rfl rfl,t,hc_ext hs.ext (hc_ext E ha),_,rfl,sBi (fun c2=>?_) (fun c2=>?_)⟩
  .exact⟨⟨_,rfl,iff_of_true (by omega) ⟨x,Yb gx,c2⟩⟩,E.trans hs.ext⟩
  .refine Up.next (by omega) (by omega) ⟨E.trans hs.ext,fun j y hj hy=>?_⟩;by_cases e:j=i
   .subst e;rw[gx] at hy;cases hy;exact c2
   .exact hq j y (by omega) hy
 .replace c:=lt_f c;refine⟨⟨_,rfl,iff_of_false (by omega) ?_⟩,E⟩;rintro⟨x,hx,hp⟩;obtain⟨j,hj⟩:=Yf.1 hx;exact hq j x (by have:=(Ya.1 hj).1;omega) hj hp
theorem any50 (L:List Mv) (s:Sl) (a:Addr) (t:Sl) (h:Heap) (hr:Rw h 6 s (L.map Mv.cs)) (hl:L.length<=1048576) (ha:hc h a=some (.slice t.a t.n t.c)) :
  Fn Pz 92 #[.slice s.a s.n s.c,.func (.func 93) #[] #[.pointer (some a)]] h (RP (∃x∈L,(t.n:Int)<=x.peer) h):=by
 apply vc92 s 93 (some a);unfold W92;refine (index85 L s a t h hr hl ha).mono ?_;rintro _ h3 ⟨⟨k,rfl,hk⟩,E⟩;exact⟨_,rfl,RP.e (by rw[decide_eq_true_eq];exact hk) E⟩
theorem valid22 (L:List MR) (s:Sl) (h:Heap) (hS:SyI h s L):Fn Pz 37 #[.slice s.a s.n s.c] h (RP (SysV (L.map MR.m)) h):=by
 apply vc37 s;unfold W37;have hn:=hS.r.ln;have hlm:(L.map MR.m).length=L.length:=Yc _;refine (St.refl h).newb fun h1 hs=>?_;refine⟨s,hs.rd 0 rfl rfl,sBi (fun c=>RP.f (fun hG=>by have:=hG.n;omega) hs.ext) (fun c1=>?_)⟩;refine⟨s,hs.rd 0 rfl rfl,sBi (fun c=>RP.f (fun hG=>by have:=hG.n;omega) hs.ext) (fun c2=>?_)⟩;refine⟨s,hs.rd 0 rfl rfl,?_⟩;refine up_loopS (n:=s.n) hs (fun i=>∀(j:Nat) (x:MR),j<i->L[j]?=some x->x.m.role=(j:Int)/\VM x.m/\∀y∈x.m.mv,y.peer<(L.length:Int)) (fun j x hj=>by omega) ?_;rintro-i h9 hi ⟨hs,hq⟩;refine sB_intro (fun c=>?_) (fun c=>?_)
 .replace c:=lt_t c;refine (hS.r.rw.ext hs.ext).nbI (by omega) (by omega) fun b o x gx t=>?_;replace gx:L[i]?=some x:=gx;have hxi:=hS.i x (Yb gx);have hmx:(L.map MR.m)[i]?=some x.m:=by rw[Yd,gx];rfl
  refine⟨_,_,_,_,_,_,t,?_⟩;refine hs.newput (vs:=mC x.m x.f x.g x.l) rfl rfl fun h19 hs=>?_;refine⟨_,hs.rd 0 rfl (i:=0) rfl,sBn (fun c=>RP.f (fun hG=>c (hG.m i x.m hmx).1) hs.ext) (fun c3=>?_)⟩;refine⟨_,_,_,x.f,x.g,x.l,hs.at 0 rfl (o:=0) (n:=6) rfl,?_⟩;refine (valid23 x.m x.f x.g x.l h19 (hxi.ext hs.ext)).mono ?_;rintro _ h29 ⟨⟨b1,rfl,hb1⟩,E⟩;have hs:=hs.step E;refine⟨_,rfl,sB_intro (fun c=>RP.f (fun hG=>iff_f hb1 (bF c) (hG.m i x.m hmx).2.1) hs.ext) (fun c4=>?_)⟩;refine⟨x.g,hs.rd 0 rfl (i:=4) rfl,?_⟩;refine (any50 x.m.mv x.g ⟨h.size,0,none⟩ s h29 (hxi.ext hs.ext).pm.rw hxi.pm.sm (hs.rd 1 rfl rfl)).mono ?_;rintro _ h33 ⟨⟨b2,rfl,hb2⟩,E⟩;have hs:=hs.step E;refine⟨_,rfl,sB_intro (fun c=>RP.f (fun hG=>?_) hs.ext) (fun c5=>?_)⟩
  .obtain⟨y,hy,hp⟩:=hb2.1 c;have:=(hG.m i x.m hmx).2.2 y hy;omega
  .refine Up.next (by omega) (by omega) ⟨hs.drop 1,fun j y hj hy=>?_⟩;by_cases e:j=i
   .subst e;rw[gx] at hy;cases hy;refine⟨c3,hb1.1 (bT c4),fun z hz=>?_⟩;have:¬(s.n:Int)<=z.peer:=fun hp=>by rw[hb2.2 ⟨z,hz,hp⟩] at c5;cases c5
    omega
   .exact hq j y (by omega) hy
 .replace c:=lt_f c;refine RP.t ⟨by omega,fun p m hm=>?_⟩ hs.ext;rw[Yd] at hm;obtain⟨x,hx,rfl⟩:=Yya.1 hm;rw[hlm];exact hq p x (by have:=(Ya.1 hx).1;omega) hx
structure Bx where
 s:Sl
 l:List Int
def Bx.cs (q:Bx):List Value:=slC q.s
def Bx.it (q:Bx):It:=.sl q.s 3 1 (q.l.map inC)
structure CfI (h:Heap) (ss sb:Sl) (S:List Int) (B:List Bx):Prop where
 s:RL h 1 ss inC S
 b:RL h 1 sb Bx.cs B
 i:∀q∈B,RL h 1 q.s inC q.l
theorem CfI.ext {h h':Heap} {ss sb:Sl} {S:List Int} {B:List Bx} (hs:CfI h ss sb S B) (E:Ext h h'):CfI h' ss sb S B:=⟨hs.s.ext E,hs.b.ext E,fun x hx=>(hs.i x hx).ext E⟩
structure PropS (L:List Mch) (k:Int) (S:List Int) (B:List (List Int)):Prop where
 s:S.length=L.length
 b:B.length=L.length*L.length
 st:∀(p:Nat) s m,S[p]?=some s->L[p]?=some m->0<=s/\s<m.n
 bx:∀(i:Nat) b,B[i]?=some b->(b.length:Int)<=k/\(i/L.length=i%L.length->b=[])/\∀x∈b,0<=x/\x<40
theorem cal91:callable Pz 157=true:=by kernel_rfl
theorem index130 (L:List Int) (s:Sl) (h:Heap) (hr:Rw h 1 s (L.map inC)) (hl:L.length<=1048576) :
  Fn Pz 187 #[.slice s.a s.n s.c,.func (.func 157) #[] #[]] h fun v h'=>(∃k:Int,v=.int .i64 k/\(0<=k ↔ ¬∀x∈L,0<=x/\x<40))/\Ext h h':=by
 apply vc187 s 157;unfold W187;have hn:=hr.ln;refine up_loop (n:=s.n) (fun i h'=>Ext h h'/\∀(j:Nat) (x:Int),j<i->L[j]?=some x->0<=x/\x<40) ⟨.rfl',fun j x hj=>by omega⟩ ?_;rintro-i h5 hi ⟨E,hq⟩;refine sB_intro (fun c=>?_) (fun c=>?_)
 .replace c:=lt_t c;refine (hr.ext E).nbI (by omega) (by omega) fun b6 o7 x gx t14=>?_;replace gx:L[i]?=some x:=gx;refine⟨_,t14.hd,?_⟩;rw[cal91,cond_true];apply vc157 x;unfold W157;have hm:=Yb gx;refine sBi (fun c2=>⟨_,rfl,sB_t rfl ⟨⟨_,rfl,iff_of_true (by omega) fun hall=>by have:=hall x hm;omega⟩,E⟩⟩) (fun c2=>⟨_,rfl,sBi (fun c3=>?_) (fun c3=>?_)⟩)
  .exact⟨⟨_,rfl,iff_of_true (by omega) fun hall=>by have:=hall x hm;omega⟩,E⟩
  .refine Up.next (by omega) (by omega) ⟨E,fun j y hj hy=>?_⟩;by_cases e:j=i
   .subst e;rw[gx] at hy;cases hy;omega
   .exact hq j y (by omega) hy
 .replace c:=lt_f c;refine⟨⟨_,rfl,iff_of_false (by omega) fun hall=>hall fun x hx=>?_⟩,E⟩;obtain⟨j,hj⟩:=Yf.1 hx;exact hq j x (by have:=(Ya.1 hj).1;omega) hj
theorem any90 (L:List Int) (s:Sl) (h:Heap) (hr:Rw h 1 s (L.map inC)) (hl:L.length<=1048576) :
  Fn Pz 156 #[.slice s.a s.n s.c,.func (.func 157) #[] #[]] h (RP (¬∀x∈L,0<=x/\x<40) h):=by
 apply vc156 s 157;unfold W156;refine (index130 L s h hr hl).mono ?_;rintro _ h3 ⟨⟨k,rfl,hk⟩,E⟩;exact⟨_,rfl,RP.e (by rw[decide_eq_true_eq];exact hk) E⟩
theorem capacity53 (k:Int) (h:Heap):Fn Pz 111 #[.int .i64 k] h (RP (1<=k/\k<=4) h):=by
 apply vc111 k;unfold W111;exact sBi (fun c=>RP.e (by rw[decide_eq_true_eq];omega) .rfl') (fun c=>RP.f (by omega) .rfl')
theorem tdiv_nat (a n:Nat):Int.tdiv (a:Int) (n:Int)=((a/n:Nat):Int):=rfl
theorem tmod_nat (a n:Nat):Int.tmod (a:Int) (n:Int)=((a%n:Nat):Int):=rfl
theorem sq6 {n:Nat} (h:n<=6):n*n<=36:=Nat.mul_le_mul h h
theorem proper54 (L:List MR) (s:Sl) (k:Int) (ss sb:Sl) (S:List Int) (B:List Bx) (h:Heap) (hS:SyI h s L) (hV:SysV (L.map MR.m)) (hC:CfI h ss sb S B) :
  Fn Pz 112 #[.slice s.a s.n s.c,.int .i64 k,.agg ⟨[.slice ss.a ss.n ss.c,.slice sb.a sb.n sb.c]⟩] h (RP (PropS (L.map MR.m) k S (B.map Bx.l)) h):=by
 apply vc112 s k ss sb;unfold W112;have hn:=hS.r.ln;have hsn:=hC.s.ln;have hbn:=hC.b.ln;have hlm:(L.map MR.m).length=L.length:=Yc _;have hbm:(B.map Bx.l).length=B.length:=Yc _;have hV6:=hV.n;rw[hlm] at hV6;have h36:=sq6 hV6.2;have hsq:(s.n:Int)*(s.n:Int)=((L.length*L.length:Nat):Int):=by rw[hn];rfl
 refine (St.refl h).newb fun h3 hs=>?_;refine⟨ss,hs.rd 0 rfl rfl,sBn (fun c=>RP.f (fun hG=>by have:=hG.s;rw[hlm] at this;omega) hs.ext) (fun c1=>?_)⟩;refine⟨sb,hs.rd 0 rfl (i:=1) rfl,?_⟩;rw[hsq,w64 (n:=((L.length*L.length:Nat):Int)) (by omega) (by omega)];refine sBn (fun c=>RP.f (fun hG=>by have:=hG.b;rw[hlm,hbm] at this;omega) hs.ext) (fun c2=>?_);refine⟨ss,hs.rd 0 rfl rfl,?_⟩;refine up_loopS (n:=ss.n) hs (fun i=>∀(j:Nat) (x:Int) m,j<i->S[j]?=some x->(L.map MR.m)[j]?=some m->0<=x/\x<m.n) (fun j x m hj=>by omega) ?_;rintro-i h11 hi ⟨hs,hq⟩;refine sB_intro (fun c=>?_) (fun c=>?_)
 .replace c:=lt_t c;refine (hC.s.rw.ext hs.ext).nbI (by omega) (by omega) fun b o x gx t=>?_;replace gx:S[i]?=some x:=gx;obtain⟨y,gy⟩:=get_some (l:=L) (i:=i) (by omega);have gm:(L.map MR.m)[i]?=some y.m:=by rw[Yd,gy];rfl
  refine⟨_,t.hd,sBi (fun c3=>RP.f (fun hG=>by have:=hG.st i x y.m gx gm;omega) hs.ext) (fun c3=>?_)⟩;refine (hS.r.rw.ext hs.ext).nbI (by omega) (by omega) fun b2 o2 y' gy' t2=>?_;replace gy':L[i]?=some y':=gy';rw[gy] at gy';cases gy';refine⟨_,t2.nth 1 rfl,sBi (fun c4=>RP.f (fun hG=>by have:=hG.st i x y.m gx gm;omega) hs.ext) (fun c4=>?_)⟩;refine Up.next (by omega) (by omega) ⟨hs,fun j x' m' hj hx' hm'=>?_⟩;by_cases e:j=i
  .subst e;rw[gx] at hx';rw[gm] at hm';cases hx';cases hm';omega
  .exact hq j x' m' (by omega) hx' hm'
 .replace c:=lt_f c;refine⟨sb,hs.rd 0 rfl (i:=1) rfl,?_⟩;refine up_loopS (n:=sb.n) hs (fun i=>∀(j:Nat) (q:Bx),j<i->B[j]?=some q->(q.l.length:Int)<=k/\(j/L.length=j%L.length->q.l=[])/\∀x∈q.l,0<=x/\x<40) (fun j x hj=>by omega) ?_;rintro-i2 h24 hi2 ⟨hs,hq2⟩;refine sB_intro (fun d=>?_) (fun d=>?_)
  .replace d:=lt_t d;refine (hC.b.rw.ext hs.ext).nbI (by omega) (by omega) fun b o q gq t=>?_;replace gq:B[i2]?=some q:=gq;have gl:(B.map Bx.l)[i2]?=some q.l:=by rw[Yd,gq];rfl
   have hqi:=hC.i q (Yb gq);have hql:=hqi.ln;refine⟨q.s,t.hd,sBi (fun c5=>RP.f (fun hG=>by have:=(hG.bx i2 q.l gl).1;omega) hs.ext) (fun c5=>⟨by omega,by omega,?_⟩)⟩;have hdl:=Nat.div_le_self i2 L.length;have hd1:(0:Int)<=((i2/L.length:Nat):Int):=Int.natCast_nonneg _;have hd2:((i2/L.length:Nat):Int)<=(i2:Int):=Int.ofNat_le.2 hdl;rw[hn,tdiv_nat,tmod_nat,w64 (n:=((i2/L.length:Nat):Int)) (by omega) (by omega)];have go:∀ {h25:Heap},Ext h24 h25->(i2/L.length=i2%L.length->q.l=[])->St h h25 [.blk h.size [.slice ss.a ss.n ss.c,.slice sb.a sb.n sb.c] 52]->Fn Pz 156 #[.slice q.s.a q.s.n q.s.c,.func (.func 157) #[] #[]] h25 (RP (¬∀x∈q.l,0<=x/\x<40) h25):=fun _ _ hs=>any90 q.l q.s _ (hqi.rw.ext hs.ext) hqi.sm;have fin:∀ {h34:Heap} {b1:Bool},(i2/L.length=i2%L.length->q.l=[])->St h h34 [.blk h.size [.slice ss.a ss.n ss.c,.slice sb.a sb.n sb.c] 52]->(b1=true ↔ ¬∀x∈q.l,0<=x/\x<40)->sB b1 (RP (PropS (L.map MR.m) k S (B.map Bx.l)) h (.bool false) h34) (∃m35,m35<sb.n-i2/\Up sb.n (fun i h'=>St h h' [.blk h.size [.slice ss.a ss.n ss.c,.slice sb.a sb.n sb.c] 52]/\∀(j:Nat) (q:Bx),j<i->B[j]?=some q->(q.l.length:Int)<=k/\(j/L.length=j%L.length->q.l=[])/\∀x∈q.l,0<=x/\x<40) (IntKind.wrap .i64 ((i2:Int)+1)) h34 m35):=fun hd hs hb=>by
    refine sB_intro (fun c6=>RP.f (fun hG=>hb.1 c6 (hG.bx i2 q.l gl).2.2) hs.ext) (fun c6=>?_);refine Up.next (by omega) (by omega) ⟨hs,fun j q' hj hq'=>?_⟩;by_cases e:j=i2
    .subst e;rw[gq] at hq';cases hq';refine⟨by omega,hd,Classical.byContradiction fun hn=>?_⟩;rw[hb.2 hn] at c6;cases c6
    .exact hq2 j q' (by omega) hq'
   refine sBe (fun c7=>?_) (fun c7=>?_)
   .refine sBi (fun c8=>RP.f (fun hG=>?_) hs.ext) (fun c8=>?_)
    .have:=(hG.bx i2 q.l gl).2.1 (by rw[hlm];exact Int.ofNat_inj.1 c7);rw[this] at hql;simp only[List.length_nil] at hql;omega
    .have hd:i2/L.length=i2%L.length->q.l=[]:=fun _=>List.eq_nil_of_length_eq_zero (by omega);refine (go .rfl' hd hs).mono ?_;rintro _ h30 ⟨⟨b1,rfl,hb1⟩,E⟩;exact⟨_,rfl,fin hd (hs.step E) hb1⟩
   .have hd:i2/L.length=i2%L.length->q.l=[]:=fun e=>absurd (by rw[e]) c7;refine (go .rfl' hd hs).mono ?_;rintro _ h30 ⟨⟨b1,rfl,hb1⟩,E⟩;exact⟨_,rfl,fin hd (hs.step E) hb1⟩
  .replace d:=lt_f d;refine RP.t ⟨by omega,by rw[hbm,hlm,<-hbn];exact Int.ofNat_inj.1 c2,fun p x m hx hm=>?_,fun j b hb=>?_⟩ hs.ext
   .exact hq p x m (by have:=(Ya.1 hx).1;omega) hx hm
   .rw[Yd] at hb;obtain⟨q,gq,rfl⟩:=Yya.1 hb;rw[hlm];exact hq2 j q (by have:=(Ya.1 gq).1;omega) gq
structure ProS (L:List Mch) (k:Int) (S:List Int) (B:List (List Int)):Prop where
 v:SysV L
 c:1<=k/\k<=4
 p:PropS L k S B
theorem proper24 (L:List MR) (s:Sl) (k:Int) (ss sb:Sl) (S:List Int) (B:List Bx) (h:Heap) (hS:SyI h s L) (hC:CfI h ss sb S B) :
  Fn Pz 56 #[.slice s.a s.n s.c,.int .i64 k,.agg ⟨[.slice ss.a ss.n ss.c,.slice sb.a sb.n sb.c]⟩] h (RP (ProS (L.map MR.m) k S (B.map Bx.l)) h):=by
 apply vc56 s k ss sb;unfold W56;refine (St.refl h).newb fun h3 hs=>?_;refine (valid22 L s h3 (hS.ext hs.ext)).mono ?_;rintro _ h6 ⟨⟨b1,rfl,hb1⟩,E⟩;have hs:=hs.step E;refine⟨_,rfl,sB_intro (fun c1=>?_) (fun c1=>RP.f (fun hG=>iff_f hb1 c1 hG.v) hs.ext)⟩;refine (capacity53 k h6).mono ?_;rintro _ h9 ⟨⟨b2,rfl,hb2⟩,E⟩;have hs:=hs.step E;refine⟨_,rfl,sB_intro (fun c2=>?_) (fun c2=>RP.f (fun hG=>iff_f hb2 c2 hG.c) hs.ext)⟩;refine⟨ss,sb,hs.at 0 rfl (o:=0) (n:=2) rfl,?_⟩;refine (proper54 L s k ss sb S B h9 (hS.ext hs.ext) (hb1.1 c1) (hC.ext hs.ext)).mono ?_;rintro _ h14 ⟨⟨b3,rfl,hb3⟩,E⟩;have hs:=hs.step E;exact⟨_,rfl,RP.e (hb3.trans ⟨fun hp=>⟨hb1.1 c1,hb2.1 c2,hp⟩,fun hp=>hp.p⟩) hs.ext⟩
theorem numbers58 (m:Mch) (sf sm sl:Sl) (h:Heap) (hM:MI h m sf sm sl):Fn Pz 98 #[.agg ⟨mC m sf sm sl⟩] h (RP (NumM m) h):=by
 apply vc98 m.role m.n m.s sf sm sl;unfold W98;have hfn:=hM.pf.ln;have hmn:=hM.pm.ln;have hmm:=hM.pm.sm;refine (St.refl h).newb fun h7 hs=>?_;refine⟨_,hs.rd 0 rfl rfl,sBi (fun c=>RP.f (fun hG=>by have:=hG.r;omega) hs.ext) (fun c1=>?_)⟩;refine⟨_,hs.rd 0 rfl rfl,sBi (fun c=>RP.f (fun hG=>by have:=hG.r;omega) hs.ext) (fun c2=>?_)⟩;refine⟨_,hs.rd 0 rfl rfl,sBi (fun c=>RP.f (fun hG=>by have:=hG.n;omega) hs.ext) (fun c3=>?_)⟩;refine⟨_,hs.rd 0 rfl rfl,sBi (fun c=>RP.f (fun hG=>by have:=hG.n;omega) hs.ext) (fun c4=>?_)⟩;refine⟨_,hs.rd 0 rfl rfl,sBi (fun c=>RP.f (fun hG=>by have:=hG.s;omega) hs.ext) (fun c5=>?_)⟩;refine⟨_,hs.rd 0 rfl rfl,_,hs.rd 0 rfl rfl,sBi (fun c=>RP.f (fun hG=>by have:=hG.s;omega) hs.ext) (fun c5b=>?_)⟩;refine⟨sf,hs.rd 0 rfl rfl,_,hs.rd 0 rfl rfl,sBn (fun c=>RP.f (fun hG=>by have:=hG.fl;omega) hs.ext) (fun c6=>?_)⟩;refine⟨sm,hs.rd 0 rfl rfl,sBi (fun c=>RP.f (fun hG=>by have:=hG.ml;omega) hs.ext) (fun c7=>?_)⟩;refine up_loopS (n:=sm.n) hs (fun i=>∀(j:Nat) (x:Mv),j<i->m.mv[j]?=some x->0<=x.f/\x.f<m.n/\0<=x.t/\x.t<m.n/\0<=x.peer/\x.peer<6/\x.peer≠m.role/\0<=x.label/\x.label<40) (fun j x hj=>by omega) ?_;rintro-i h30 hi ⟨hs,hq⟩;refine⟨sm,hs.rd 0 rfl rfl,?_⟩;refine sB_intro (fun c=>?_) (fun c=>RP.t ⟨by omega,by omega,by omega,by omega,by omega,fun x hx=>?_⟩ hs.ext)
 .replace c:=lt_t c;refine⟨sm,hs.rd 0 rfl rfl,?_⟩;refine (hM.pm.rw.ext hs.ext).nbI (by omega) (by omega) fun b o x gx t=>?_;replace gx:m.mv[i]?=some x:=gx;have hxm:=Yb gx;refine⟨_,_,_,_,_,_,t,?_⟩;refine hs.newput (vs:=x.cs) rfl rfl fun h40 hs=>?_
  repeat' (first
    | (refine⟨_,hs.rd 0 rfl rfl,?_⟩)
    | (refine⟨_,hs.rd 1 rfl rfl,?_⟩)
    | (refine sBi (fun _=>?_) (fun _=>?_))
    | (refine sBe (fun _=>?_) (fun _=>?_))
    | (refine sBn (fun _=>?_) (fun _=>?_)))
  all_goals first
   | exact RP.f (fun hG=>by have:=hG.mv x hxm;omega) hs.ext
   | (refine Up.next c (by omega) ⟨hs.drop 1,fun j y hj hy=>?_⟩
      by_cases e:j=i
      .subst e;rw[gx] at hy;cases hy;omega
      .exact hq j y (by omega) hy)
 .replace c:=lt_f c;obtain⟨j,hj⟩:=Yf.1 hx;exact hq j x (by have:=(Ya.1 hj).1;omega) hj
def ApA (m:Mch) (x:Mv):Prop:=x.ag=true->x.send=true/\x.f≠m.s/\m.fin[x.f.toNat]?=some false
def ApP (i:Nat) (x:Mv) (k:Nat) (y:Mv):Prop:=(k≠i->x.f=y.f->x.send=y.send/\¬(x.peer=y.peer/\x.label=y.label)/\x.ag=false)/\(x.ag=true->y.t=x.f->y.send=true/\y.label=x.label)
def ApM (m:Mch):Prop:=∀(i:Nat) x,m.mv[i]?=some x->ApA m x/\∀(k:Nat) y,m.mv[k]?=some y->ApP i x k y
theorem apart59 (m:Mch) (sf sm sl:Sl) (h:Heap) (hM:MI h m sf sm sl) (hN:NumM m):Fn Pz 99 #[.agg ⟨mC m sf sm sl⟩] h (RP (ApM m) h):=by
 apply vc99 m.role m.n m.s sf sm sl;unfold W99 V99b V99a;have hfn:=hM.pf.ln;have hmn:=hM.pm.ln;have hmm:=hM.pm.sm;have hfl:=hN.fl;refine (St.refl h).newb fun h7 hs=>?_;refine up_loopS (n:=sm.n) hs (fun i=>∀(j:Nat) x,j<i->m.mv[j]?=some x->ApA m x/\∀(k:Nat) y,m.mv[k]?=some y->ApP j x k y) (fun j x hj=>by omega) ?_;clear hs;rintro-i h6 hi ⟨hs,hq⟩;refine⟨sm,hs.rd 0 rfl rfl,?_⟩;refine sB_intro (fun c=>?_) (fun c=>?_)
 .replace c:=lt_t c;refine⟨sm,hs.rd 0 rfl rfl,?_⟩;refine (hM.pm.rw.ext hs.ext).nbI (by omega) (by omega) fun b7 o8 x gx t=>?_;replace gx:m.mv[i]?=some x:=gx;have hxm:=Yb gx;have hxr:=hN.mv x hxm;refine⟨_,_,_,_,_,_,t,?_⟩;refine hs.newput (vs:=x.cs) rfl rfl fun h16 hs=>?_;refine⟨_,hs.rd 0 rfl rfl,sB_intro (fun c1=>?_) (fun c1=>?_)⟩;refine⟨_,hs.rd 0 rfl rfl,sB_intro (fun c2=>RP.f (fun hG=>by have:=((hG i x gx).1 c1).1;rw[this] at c2;cases c2) hs.ext) (fun c2=>?_)⟩;refine⟨_,hs.rd 0 rfl rfl,_,hs.rd 1 rfl rfl,sBe (fun c4=>RP.f (fun hG=>((hG i x gx).1 c1).2.1 c4) hs.ext) (fun c4=>?_)⟩;refine⟨sf,hs.rd 1 rfl rfl,_,hs.rd 0 rfl rfl,?_⟩;refine (hM.pf.rw.ext hs.ext).nbI (by omega) (by omega) fun b29 o30 f gf t29=>?_;refine⟨_,t29.hd,sB_intro (fun c5=>RP.f (fun hG=>by have:=((hG i x gx).1 c1).2.2;rw[gf] at this;cases this;cases c5) hs.ext) (fun c5=>?_)⟩;have hff:m.fin[x.f.toNat]?=some false:=by rw[gf,c5]
  rotate_left;all_goals
   refine up_loopS (n:=sm.n) hs (fun k=>∀(j:Nat) y,j<k->m.mv[j]?=some y->ApP i x j y) (fun j x hj=>by omega) ?_;clear hs;rintro-k h37 hk ⟨hs,hq2⟩;refine⟨sm,hs.rd 1 rfl rfl,?_⟩;refine sB_intro (fun c6=>?_) (fun c6=>?_)
   .replace c6:=lt_t c6;refine⟨sm,hs.rd 1 rfl rfl,?_⟩;refine (hM.pm.rw.ext hs.ext).nbI (by omega) (by omega) fun b38 o39 y gy t38=>?_;replace gy:m.mv[k]?=some y:=gy;have hym:=Yb gy;refine⟨_,_,_,_,_,_,t38,?_⟩;refine hs.newput (vs:=y.cs) rfl rfl fun h47 hs=>?_
    repeat' (first
     | (refine⟨_,hs.rd 0 rfl rfl,?_⟩)
     | (refine⟨_,hs.rd 1 rfl rfl,?_⟩)
     | (refine sBe (fun _=>?_) (fun _=>?_))
     | (refine sBn (fun _=>?_) (fun _=>?_))
     | (refine sB_intro (fun _=>?_) (fun _=>?_)))
    all_goals first
     | (refine RP.f (fun hG=>?_) hs.ext
        have hG:=(hG i x gx).2 k y gy;unfold ApP at hG
        simp_all;done)
     | (refine RP.f (fun hG=>?_) hs.ext
        have hG:=(hG i x gx).2 k y gy;unfold ApP at hG;have hki:k≠i:=by omega
        simp_all;done)
     | (refine Up.next c6 (by omega) ⟨hs.drop 1,fun j z hj hz=>?_⟩
        by_cases e:j=k
        .subst e;rw[gy] at hz;cases hz;constructor
         .intro g1 g2;first
           | (exfalso;omega)
           | (refine⟨?_,?_,?_⟩<;>simp_all)
         .intro g1 g2;refine⟨?_,?_⟩<;>simp_all
        .exact hq2 j z (by omega) hz)
   .replace c6:=lt_f c6;refine Up.next c (by omega) ⟨hs.drop 1,fun j z hj hz=>?_⟩;by_cases e:j=i
    .subst e;rw[gx] at hz;cases hz;refine⟨?_,fun k y hy=>hq2 k y (by have:=(Ya.1 hy).1;omega) hy⟩;unfold ApA
     simp_all
    .exact hq j z (by omega) hz
 .replace c:=lt_f c;exact RP.t (fun i x hx=>hq i x (by have:=(Ya.1 hx).1;omega) hx) hs.ext
theorem timed60 (m:Mch) (sf sm sl:Sl) (h:Heap) (hM:MI h m sf sm sl):Fn Pz 100 #[.agg ⟨mC m sf sm sl⟩] h (RP (TimM m) h):=by
 apply vc100 m.role m.n m.s sf sm sl;unfold W100 V100a;have hmn:=hM.pm.ln;have hmm:=hM.pm.sm;have hln:=hM.pl.ln;have hlm:=hM.pl.sm;refine (St.refl h).newb fun h7 hs=>?_;refine up_loopS (n:=sl.n) hs (fun i=>∀(j:Nat) x,j<i->m.li[j]?=some x->TmM m j x) (fun j x hj=>by omega) ?_;clear hs;rintro-i h12 hi ⟨hs,hq⟩;refine⟨sl,hs.rd 0 rfl rfl,?_⟩;refine sB_intro (fun c=>?_) (fun c=>?_)
 .replace c:=lt_t c;refine⟨sl,hs.rd 0 rfl rfl,?_⟩;refine (hM.pl.rw.ext hs.ext).nbI (by omega) (by omega) fun b15 o16 x gx t=>?_;replace gx:m.li[i]?=some x:=gx;have no:∀ {p:Prop},(TmM m i x->p)->TimM m->p:=fun f hG=>f (hG i x gx);refine⟨_,_,_,t,?_⟩;refine hs.newput (vs:=x.cs) rfl rfl fun h21 hs=>?_;refine⟨_,hs.rd 0 rfl rfl,sBi (fun d1=>RP.f (no fun hT=>by have:=hT.k;omega) hs.ext) (fun d1=>?_)⟩;refine⟨_,hs.rd 0 rfl rfl,sBi (fun d2=>RP.f (no fun hT=>by have:=hT.k;omega) hs.ext) (fun d2=>?_)⟩;refine⟨_,hs.rd 0 rfl rfl,sBi (fun d3=>RP.f (no fun hT=>by have:=hT.e.1;omega) hs.ext) (fun d3=>?_)⟩;refine⟨_,hs.rd 0 rfl rfl,sm,hs.rd 1 rfl rfl,sBi (fun d4=>RP.f (no fun hT=>by obtain⟨_,y,hy,_⟩:=hT.e;have:=(Ya.1 hy).1;omega) hs.ext) (fun d4=>?_)⟩;refine sBi (fun c1=>?_) (fun c1=>?_);refine⟨_,hs.rd 0 rfl rfl,sl,hs.rd 1 rfl rfl,?_⟩;have hw:IntKind.wrap .i64 ((i:Int)-1)=((i-1:Nat):Int):=by rw[w64 (by omega) (by omega)];omega
  rw[hw];refine (hM.pl.rw.ext hs.ext).nbI (by omega) (by omega) fun b29 o30 w gw t29=>?_;replace gw:m.li[i-1]?=some w:=gw;refine⟨_,t29.hd,sBi (fun d0=>RP.f (no fun hT=>by have:=hT.o w (by omega) gw;omega) hs.ext) (fun d0=>?_)⟩;have hord:∀z,0<i->m.li[i-1]?=some z->z.s<x.s:=fun z _ hz=>by rw[gw] at hz;cases hz;omega
  rotate_left;have hord:∀z,0<i->m.li[i-1]?=some z->z.s<x.s:=fun z h0 _=>by omega
  all_goals
   refine⟨sm,hs.rd 1 rfl rfl,_,hs.rd 0 rfl rfl,?_⟩;refine (hM.pm.rw.ext hs.ext).nbI (by omega) (by omega) fun b26 o27 y gy t26=>?_;refine⟨_,_,_,_,_,_,t26,?_⟩;refine hs.newput (vs:=y.cs) rfl rfl fun h35 hs=>?_;refine⟨_,hs.rd 0 rfl rfl,_,hs.rd 1 rfl rfl,sBn (fun d5=>RP.f (no fun hT=>by obtain⟨_,z,hz,hf,_⟩:=hT.e;rw[gy] at hz;cases hz;exact d5 hf) hs.ext) (fun d5=>?_)⟩;refine⟨_,hs.rd 0 rfl rfl,sB_intro (fun d6=>RP.f (no fun hT=>by obtain⟨_,z,hz,_,hf,_⟩:=hT.e;rw[gy] at hz;cases hz;rw[hf] at d6;cases d6) hs.ext) (fun d6=>?_)⟩;refine⟨_,hs.rd 0 rfl rfl,sB_intro (fun d7=>RP.f (no fun hT=>by obtain⟨_,z,hz,_,_,hf⟩:=hT.e;rw[gy] at hz;cases hz;rw[hf] at d7;cases d7) hs.ext) (fun d7=>?_)⟩;refine Up.next c (by omega) ⟨hs.drop 2,fun j z hj hz=>?_⟩;by_cases e:j=i
   .subst e;rw[gx] at hz;cases hz;exact⟨hord,by omega,by omega,y,gy,d5,bT d6,d7⟩
   .exact hq j z (by omega) hz
 .replace c:=lt_f c;exact RP.t (fun i x hx=>hq i x (by have:=(Ya.1 hx).1;omega) hx) hs.ext
theorem ap_iff {m:Mch}:ApM m ↔ DetM m/\AgM m:=by
 constructor
 .intro hA;refine⟨fun i k x y hx hy hne hf=>?_,?_⟩
  .have h1:=((hA i x hx).2 k y hy).1 (fun e=>hne e.symm) hf;refine⟨fun e=>h1.2.1 ?_,h1.1⟩;have e1:=congrArg Ev.peer e;have e2:=congrArg Ev.label e;exact⟨e1,e2⟩
  .have g:∀x∈m.mv,∃i:Nat,m.mv[i]?=some x:=fun x hx=>Yf.1 hx;refine⟨fun x hx ha=>?_,fun x hx ha=>?_,fun x hx ha=>?_,fun x hx ha=>?_,fun x hx ha y hy ht=>?_⟩
   .obtain⟨i,hi⟩:=g x hx;exact ((hA i x hi).1 ha).1
   .obtain⟨i,hi⟩:=g x hx;have hm:i∈outIx m x.f:=outIx_mem.2 ⟨x,hi,rfl⟩;have hall:∀k∈outIx m x.f,k=i:=fun k hk=>by
     obtain⟨y,hy,hf⟩:=outIx_mem.1 hk;by_cases e:k=i
     .exact e
     .have:=(((hA i x hi).2 k y hy).1 e hf.symm).2.2;rw[ha] at this;cases this
    have nd:=outIx_nodup m x.f
    revert hm hall nd
    cases outIx m x.f with
    | nil=>intro hm;cases hm
    | cons a l=>
     cases l with
     | nil=>intros;rfl
     | cons b l=>
      intro hm hall nd;have h1:=hall a (Yx);have h2:=hall b (Yn _ Yx);rw[List.nodup_cons] at nd;exact absurd (by rw[h1,<-h2];exact Yx) nd.1
   .obtain⟨i,hi⟩:=g x hx;exact ((hA i x hi).1 ha).2.1
   .obtain⟨i,hi⟩:=g x hx;exact ((hA i x hi).1 ha).2.2
   .obtain⟨i,hi⟩:=g x hx;obtain⟨k,hk⟩:=g y hy;exact ((hA i x hi).2 k y hk).2 ha ht
 .rintro⟨hD,hG⟩ i x hx;have hxm:=Yb hx;refine⟨fun ha=>⟨hG.s x hxm ha,hG.i x hxm ha,hG.f x hxm ha⟩,fun k y hy=>⟨fun hne hf=>?_,fun ha ht=>hG.p x hxm ha y (Yb hy) ht⟩⟩;have h1:=hD i k x y hx hy (fun e=>hne e.symm) hf;refine⟨h1.2,fun e=>h1.1 (ev_ext h1.2 e.1 e.2),?_⟩;cases ha:x.ag with
  | false=>rfl
  | true=>
   have hl:=hG.o x hxm ha;have m1:i∈outIx m x.f:=outIx_mem.2 ⟨x,hx,rfl⟩;have m2:k∈outIx m x.f:=outIx_mem.2 ⟨y,hy,hf.symm⟩
   revert m1 m2 hl
   cases outIx m x.f with
   | nil=>intro h;cases h
   | cons a l=>
    intro hl m1 m2;have:l=[]:=List.eq_nil_of_length_eq_zero (by rw[Yyj] at hl;omega);subst this;rw[Ye] at m1 m2;exact absurd (m2.trans m1.symm) hne
def withL (x:Int):List Int->List Int
 | []=>[x]
 | y::l=>if x<=y then (if x<y then x::y::l else y::l) else y::withL x l
theorem withL_mem {x v:Int}:∀ {T:List Int},v∈withL x T ↔ v=x\/v∈T
 | []=>by simp[withL]
 | y::l=>by
  unfold withL;split
  .split
   .rw[Yr]
   .have:x=y:=by omega
    subst this;simp
  .rw[Yr,withL_mem,Yr];constructor
   .rintro (h | h | h)
    .exact .inr (.inl h)
    .exact .inl h
    .exact .inr (.inr h)
   .rintro (h | h | h)
    .exact .inr (.inl h)
    .exact .inl h
    .exact .inr (.inr h)
theorem withL_sorted {x:Int}:∀ {T:List Int},T.Pairwise (· < ·)->(withL x T).Pairwise (· < ·)
 | [],_=>by simp[withL]
 | y::l,h=>by
  unfold withL;have h':=List.pairwise_cons.1 h;split
  .split
   .refine List.pairwise_cons.2 ⟨fun v hv=>?_,h⟩;rcases Yr.1 hv with rfl | hv
    .assumption
    .have:=h'.1 v hv;omega
   .exact h
  .refine List.pairwise_cons.2 ⟨fun v hv=>?_,withL_sorted h'.2⟩;rcases withL_mem.1 hv with rfl | hv
   .omega
   .exact h'.1 v hv
theorem withL_len {x:Int}:∀ {T:List Int},x∉T->(withL x T).length=T.length+1
 | [],_=>rfl
 | y::l,h=>by
  unfold withL;rw[Yr,not_or] at h;split
  .split
   .rfl
   .exact absurd (by omega) h.1
  .rw[Yyj,withL_len h.2,Yyj]
theorem withL_same {x:Int}:∀ {T:List Int},T.Pairwise (· < ·)->x∈T->withL x T=T
 | [],_,h=>by cases h
 | y::l,h,hm=>by
  unfold withL;have h':=List.pairwise_cons.1 h;split
  .split
   .rcases Yr.1 hm with e | e
    .omega
    .have:=h'.1 x e;omega
   .rfl
  .rcases Yr.1 hm with e | e
   .omega
   .rw[withL_same h'.2 e]
theorem sorted_le:∀ {T:List Int} {a b:Int},a<=b->T.Pairwise (· < ·)->(∀v∈T,a<=v/\v<b)->(T.length:Int)<=b-a
 | [],a,b,hab,_,_=>by rw[List.length_nil];omega
 | x::l,a,b,hab,h,hm=>by
  have h':=List.pairwise_cons.1 h;have hx:=hm x Yx;have:=sorted_le (T:=l) (a:=x+1) (b:=b) (by omega) h'.2 fun v hv=>⟨by have:=h'.1 v hv;omega,(hm v (Yn _ hv)).2⟩;rw[Yyj];omega
theorem sorted_full:∀ {T:List Int} {a b:Int},a<=b->T.Pairwise (· < ·)->(∀v∈T,a<=v/\v<b)->((T.length:Int)=b-a ↔ ∀v,a<=v->v<b->v∈T)
 | [],a,b,hab,_,_=>by
  rw[List.length_nil];constructor
  .intro h v h1 h2;omega
  .intro h;by_cases e:a=b
   .omega
   .exact absurd (h a (Int.le_refl _) (by omega)) (by simp)
 | x::l,a,b,hab,h,hm=>by
  have h':=List.pairwise_cons.1 h;have hx:=hm x Yx;have hb:∀v∈l,x+1<=v/\v<b:=fun v hv=>⟨by have:=h'.1 v hv;omega,(hm v (Yn _ hv)).2⟩;have h1:=sorted_le (T:=l) (a:=x+1) (b:=b) (by omega) h'.2 hb;have h2:=sorted_full (T:=l) (a:=x+1) (b:=b) (by omega) h'.2 hb;rw[Yyj];constructor
  .intro he v h3 h4;have hxa:x=a:=by omega
   subst hxa;by_cases e:v=x
   .subst e;exact Yx
   .exact Yn _ (h2.1 (by omega) v (by omega) h4)
  .intro ha;have hxa:x=a:=by
    rcases Yr.1 (ha a (Int.le_refl _) (by omega)) with e | e
    .exact e.symm
    .have:=(hb a e).1;omega
   subst hxa;have:=h2.2 fun v h3 h4=>by
    rcases Yr.1 (ha v (by omega) h4) with e | e
    .omega
    .exact e
   omega
theorem refHas105 (L:List Int) (x:Int) (s:Sl) (h:Heap) (hr:Rw h 1 s (L.map inC)) (hl:L.length<=1048576):Fn Pz 153 #[.slice s.a s.n s.c,.int .i64 x] h (RP (x∈L) h):=by
 apply vc153;unfold W153;have hn:=hr.ln;refine up_loop (n:=s.n) (fun i h'=>Ext h h'/\∀(j:Nat) y,j<i->L[j]?=some y->y≠x) ⟨.rfl',fun j y hj=>by omega⟩ ?_;rintro-i h5 hi ⟨E,hq⟩;refine sB_intro (fun c=>?_) (fun c=>RP.f (fun hm=>?_) E)
 .replace c:=lt_t c;refine (hr.ext E).nbI (by omega) (by omega) fun b6 o7 y gy t=>?_;replace gy:L[i]?=some y:=gy;refine⟨_,t.hd,sBe (fun c1=>RP.t (by subst c1;exact Yb gy) E) (fun c1=>Up.next c (by omega) ⟨E,fun j z hj hz=>?_⟩)⟩;by_cases e:j=i
  .subst e;rw[gy] at hz;cases hz;exact c1
  .exact hq j z (by omega) hz
 .replace c:=lt_f c;obtain⟨j,hj⟩:=Yf.1 hm;exact hq j x (by have:=(Ya.1 hj).1;omega) hj rfl
theorem refWith106 (L:List Int) (x:Int) (s:Sl) (h:Heap) (hr:Rw h 1 s (L.map inC)) (hl:L.length<=1048576) :
  Fn Pz 154 #[.slice s.a s.n s.c,.int .i64 x] h fun v h'=>Ext h h'/\∃s':Sl,v=.slice s'.a s'.n s'.c/\Rw h' 1 s' ((withL x L).map inC):=by
 apply vc154;unfold W154 V154b V154a;have hn:=hr.ln;refine⟨fun out done i h' μ=>∃(j:Nat) (T:List Int),i=j/\j<=s.n/\μ=s.n-j/\St h h' [.sl out 3 1 (T.map inC)]/\T.length<=j+1/\(done=false->T.length<=j)/\withL x L=T++(if done=true then L.drop j else withL x (L.drop j)),⟨_,0,[],rfl,by omega,rfl,(St.refl h).nil_ 3 1,by simp,by simp,rfl⟩,?_⟩;rintro-out done _ h7 μ ⟨j,T,rfl,hj,rfl,hs,hT,hTf,hw⟩;have hol:=(hs.rows 0 rfl (by omega)).ln;refine sB_intro (fun c=>?_) (fun c=>?_)
 .replace c:=lt_t c;obtain⟨y,hy⟩:=get_some (l:=L) (i:=j) (by omega);rw[drop_get hy] at hw;refine sB_intro (fun c1=>?_) (fun c1=>?_)
  .have hdn:done=false:=bF c1;subst hdn;have hTf:=hTf rfl;rw[if_neg (by decide)] at hw;refine (hr.ext hs.ext).nbI (by omega) (by omega) fun b8 o9 y' gy t=>?_;replace gy:L[j]?=some y':=gy;rw[hy] at gy;cases gy;refine⟨_,t.hd,sBi (fun c2=>?_) (fun c2=>?_)⟩
   .refine (hr.ext hs.ext).nbI (by omega) (by omega) fun b8 o9 y' gy t=>?_;replace gy:L[j]?=some y':=gy;rw[hy] at gy;cases gy;refine⟨_,t.hd,sBi (fun c3=>?_) (fun c3=>?_)⟩
    .refine hs.app 0 rfl app42 (m:=1) [[.int .i64 x]] rfl rfl (by simp) rfl (by omega) (by simp only[maxLen];omega) fun s15 h16 ns hs=>?_;have hs:St h h16 [.sl s15 3 1 ((T++[x]).map inC)]:=by rw[Ym];exact hs
     have hol:=(hs.rows 0 rfl (by omega)).ln;have hlx:(T++[x]).length=T.length+1:=Yh;refine (hr.ext hs.ext).nbI (by omega) (by omega) fun b8 o9 y' gy t=>?_;replace gy:L[j]?=some y':=gy;rw[hy] at gy;cases gy;refine⟨_,t.hd,?_⟩;refine hs.app 0 rfl app42 (m:=1) [[.int .i64 y]] rfl rfl (by simp) rfl (by omega) (by simp only[maxLen];omega) fun s21 h22 ns hs=>?_;have hs:St h h22 [.sl s21 3 1 ((T++[x]++[y]).map inC)]:=by rw[Ym];exact hs
     refine⟨_,?_,j+1,T++[x]++[y],by rw[w64 (by omega) (by omega)];omega,by omega,rfl,hs,by rw[Yh,hlx,Yv];omega,(fun hd=>by cases hd),?_⟩
     .omega
     .rw[if_pos rfl,hw,withL,if_pos c2,if_pos c3,Yz,Yz];rfl
    .refine (hr.ext hs.ext).nbI (by omega) (by omega) fun b8 o9 y' gy t=>?_;replace gy:L[j]?=some y':=gy;rw[hy] at gy;cases gy;refine⟨_,t.hd,?_⟩;refine hs.app 0 rfl app42 (m:=1) [[.int .i64 y]] rfl rfl (by simp) rfl (by omega) (by simp only[maxLen];omega) fun s21 h22 ns hs=>?_;have hs:St h h22 [.sl s21 3 1 ((T++[y]).map inC)]:=by rw[Ym];exact hs
     refine⟨_,?_,j+1,T++[y],by rw[w64 (by omega) (by omega)];omega,by omega,rfl,hs,by rw[Yh,Yv];omega,(fun hd=>by cases hd),?_⟩
     .omega
     .rw[if_pos rfl,hw,withL,if_pos c2,if_neg c3,Yz];rfl
   .refine (hr.ext hs.ext).nbI (by omega) (by omega) fun b8 o9 y' gy t=>?_;replace gy:L[j]?=some y':=gy;rw[hy] at gy;cases gy;refine⟨_,t.hd,?_⟩;refine hs.app 0 rfl app42 (m:=1) [[.int .i64 y]] rfl rfl (by simp) rfl (by omega) (by simp only[maxLen];omega) fun s21 h22 ns hs=>?_;have hs:St h h22 [.sl s21 3 1 ((T++[y]).map inC)]:=by rw[Ym];exact hs
    refine⟨_,?_,j+1,T++[y],by rw[w64 (by omega) (by omega)];omega,by omega,rfl,hs,by rw[Yh,Yv];omega,(fun _=>by rw[Yh,Yv];omega),?_⟩
    .omega
    .rw[if_neg (by decide),hw,withL,if_neg c2,Yz];rfl
  .have hdn:done=true:=bT c1;subst hdn;rw[if_pos rfl] at hw;refine (hr.ext hs.ext).nbI (by omega) (by omega) fun b8 o9 y' gy t=>?_;replace gy:L[j]?=some y':=gy;rw[hy] at gy;cases gy;refine⟨_,t.hd,?_⟩;refine hs.app 0 rfl app42 (m:=1) [[.int .i64 y]] rfl rfl (by simp) rfl (by omega) (by simp only[maxLen];omega) fun s21 h22 ns hs=>?_;have hs:St h h22 [.sl s21 3 1 ((T++[y]).map inC)]:=by rw[Ym];exact hs
   refine⟨_,?_,j+1,T++[y],by rw[w64 (by omega) (by omega)];omega,by omega,rfl,hs,by rw[Yh,Yv];omega,(fun hd=>by cases hd),?_⟩
   .omega
   .rw[if_pos rfl,hw,Yz];rfl
 .replace c:=lt_f c;rw[List.drop_eq_nil_of_le (by omega)] at hw;refine sB_intro (fun c1=>?_) (fun c1=>?_)
  .have hdn:done=false:=bF c1;subst hdn;rw[if_neg (by decide)] at hw;refine hs.app 0 rfl app42 (m:=1) [[.int .i64 x]] rfl rfl (by simp) rfl (by omega) (by simp only[maxLen];omega) fun s15 h16 ns hs=>?_;have hs:St h h16 [.sl s15 3 1 ((T++[x]).map inC)]:=by rw[Ym];exact hs
   exact⟨hs.ext,_,rfl,by rw[hw];exact hs.rows 0 rfl (by omega)⟩
  .have hdn:done=true:=bT c1;subst hdn;rw[if_pos rfl,Yw] at hw;exact⟨hs.ext,_,rfl,by rw[hw];exact hs.rows 0 rfl (by omega)⟩
structure RcI (m:Mch) (T:List Int):Prop where
 so:T.Pairwise (· < ·)
 b:∀v∈T,0<=v/\v<m.n
 r:∀v∈T,Qr (meds m) (-1) [m.s] v
 s:m.s∈T
def ClM (m:Mch) (i:Nat) (T:List Int):Prop:=∀(j:Nat) (x:Mv),j<i->m.mv[j]?=some x->x.f∈T->x.t∈T
theorem reached61 (m:Mch) (sf sm sl:Sl) (h:Heap) (hM:MI h m sf sm sl) (hN:NumM m) :
  Fn Pz 101 #[.agg ⟨mC m sf sm sl⟩] h fun v h'=>Ext h h'/\∃s:Sl,v=.slice s.a s.n s.c/\((s.n:Int)=m.n ↔ RchM m):=by
 apply vc101 m.role m.n m.s sf sm sl;unfold W101;have hmn:=hM.pm.ln;have hmm:=hM.pm.sm;have hsn:=hN.s;have hnn:=hN.n;refine (St.refl h).newb fun h7 hs=>?_;refine⟨_,hs.rd 0 rfl rfl,?_⟩;refine hs.newb fun h9 hs=>?_;have hs:=hs.blkS 1 1 ([m.s].map inC) rfl (inrows _) rfl (by decide);have hR0:=hs.rows 0 rfl (by omega);have hs:=hs.drop 1;refine⟨fun out n h' μ=>∃(k:Nat) (T:List Int),n=k/\k<=m.n.toNat/\μ=m.n.toNat-k/\St h h' [.blk h.size (mC m sf sm sl) 98]/\Rw h' 1 out (T.map inC)/\RcI m T/\(ClM m m.mv.length T\/k+1<=T.length),⟨_,0,[m.s],rfl,by omega,rfl,hs,hR0,⟨by simp,fun v hv=>by rw[Ye.1 hv];omega,fun v hv=>.base hv,Ye.2 rfl⟩,.inr (by simp)⟩,?_⟩;clear hs hR0;rintro-out _ h15 μ ⟨k,T,rfl,hk,rfl,hs,hR,hT,hcl⟩;refine⟨_,hs.rd 0 rfl rfl,sBi (fun c=>?_) (fun c=>?_)⟩
 .refine⟨fun out i h' μ=>∃(j:Nat) (T:List Int),i=j/\j<=sm.n/\μ=sm.n-j/\St h h' [.blk h.size (mC m sf sm sl) 98]/\Rw h' 1 out (T.map inC)/\RcI m T/\(ClM m m.mv.length T\/(ClM m j T/\k+1<=T.length)\/k+2<=T.length),⟨_,0,T,rfl,by omega,rfl,hs,hR,hT,?_⟩,?_⟩
  .rcases hcl with h1 | h1
   .exact .inl h1
   .exact .inr (.inl ⟨fun j x hj=>by omega,h1⟩)
  clear hs hR hT hcl;rintro-out _ h22 μ ⟨j,T,rfl,hj,rfl,hs,hR,hT,hcl⟩;have hTl:=sorted_le (by omega) hT.so hT.b;refine⟨sm,hs.rd 0 rfl rfl,sB_intro (fun c1=>?_) (fun c1=>?_)⟩
  .replace c1:=lt_t c1;refine⟨sm,hs.rd 0 rfl rfl,?_⟩;refine (hM.pm.rw.ext hs.ext).nbI (by omega) (by omega) fun b25 o26 x gx t=>?_;replace gx:m.mv[j]?=some x:=gx;have hxm:=Yb gx;have hxr:=hN.mv x hxm;refine⟨_,t.nth 0 rfl,?_⟩;refine (refHas105 T x.f out h22 hR (by omega)).mono ?_;rintro _ h30 ⟨⟨b,rfl,hb⟩,E⟩;have hs:=hs.step E;have hR:=hR.ext E;refine⟨_,rfl,sB_intro (fun c2=>?_) (fun c2=>?_)⟩
   .have hfm:=hb.1 c2;refine⟨sm,hs.rd 0 rfl rfl,?_⟩;refine (hM.pm.rw.ext hs.ext).nbI (by omega) (by omega) fun b25 o26 x' gx' t=>?_;replace gx':m.mv[j]?=some x':=gx';rw[gx] at gx';cases gx';refine⟨_,t.nth 4 rfl,?_⟩;refine (refWith106 T x.t out h30 hR (by omega)).mono ?_;rintro _ h37 ⟨E2,s',rfl,hR2⟩;have hs:=hs.step E2;refine⟨_,rfl,?_⟩;have hT2:RcI m (withL x.t T):=⟨withL_sorted hT.so,fun v hv=>by
      rcases withL_mem.1 hv with rfl | hv
      .omega
      .exact hT.b v hv,fun v hv=>by
      rcases withL_mem.1 hv with rfl | hv
      .exact .step (hT.r x.f hfm) ⟨⟨x.f,0,0,0,x.t,false⟩,Yp.2 ⟨x,hxm,rfl⟩,rfl,rfl,rfl⟩
      .exact hT.r v hv,withL_mem.2 (.inr hT.s)⟩
    refine⟨sm.n-(j+1),by omega,j+1,withL x.t T,by rw[w64 (by omega) (by omega)];omega,by omega,rfl,hs,hR2,hT2,?_⟩;by_cases hm:x.t∈T
    .rw[withL_same hT.so hm];rcases hcl with h1 | h1 | h1
     .exact .inl h1
     .refine .inr (.inl ⟨fun i z hi hz hzf=>?_,h1.2⟩);by_cases e:i=j
      .subst e;rw[gx] at hz;cases hz;exact hm
      .exact h1.1 i z (by omega) hz hzf
     .exact .inr (.inr h1)
    .rw[withL_len hm];rcases hcl with h1 | h1 | h1
     .exact absurd (h1 j x (by omega) gx hfm) hm
     .exact .inr (.inr (by omega))
     .exact .inr (.inr (by omega))
   .have hfm:x.f∉T:=iff_f hb c2;refine⟨sm.n-(j+1),by omega,j+1,T,by rw[w64 (by omega) (by omega)];omega,by omega,rfl,hs,hR,hT,?_⟩;rcases hcl with h1 | h1 | h1
    .exact .inl h1
    .refine .inr (.inl ⟨fun i z hi hz hzf=>?_,h1.2⟩);by_cases e:i=j
     .subst e;rw[gx] at hz;cases hz;exact absurd hzf hfm
     .exact h1.1 i z (by omega) hz hzf
    .exact .inr (.inr h1)
  .replace c1:=lt_f c1;refine⟨m.n.toNat-(k+1),by omega,k+1,T,by rw[w64 (by omega) (by omega)];omega,by omega,rfl,hs,hR,hT,?_⟩;rcases hcl with h1 | h1 | h1
   .exact .inl h1
   .exact .inl fun i z hi hz hzf=>h1.1 i z (by omega) hz hzf
   .exact .inr (by omega)
 .have hTl:=sorted_le (by omega) hT.so hT.b;have hcl:ClM m m.mv.length T:=by
   rcases hcl with h1 | h1
   .exact h1
   .omega
  refine⟨hs.ext,_,rfl,?_⟩;have hol:=hR.ln;have hiff:∀v,v∈T ↔ Qr (meds m) (-1) [m.s] v:=fun v=>by
   refine⟨hT.r v,fun hq=>?_⟩
   induction hq with
   | base hm=>rw[Ye.1 hm];exact hT.s
   | step _ hx ih=>
    obtain⟨e,he,_,hf,ht⟩:=hx;obtain⟨x,hx,rfl⟩:=Yp.1 he;obtain⟨i,hi⟩:=Yf.1 hx;subst hf;subst ht;exact hcl i x (Ya.1 hi).1 hi ih
  have hfull:=sorted_full (a:=0) (b:=m.n) (by omega) hT.so hT.b;rw[show ((out.n:Nat):Int)=(T.length:Int) by rw[hol]];rw[Int.sub_zero] at hfull;rw[hfull];exact⟨fun hA v h0 h1=>(hiff v).1 (hA v h0 h1),fun hA v h0 h1=>(hiff v).2 (hA v h0 h1)⟩
theorem VM_iff {m:Mch}:VM m ↔ NumM m/\ApM m/\TimM m/\RchM m:=
 ⟨fun h=>⟨h.n,ap_iff.2 ⟨h.d,h.a⟩,h.t,h.r⟩,fun h=>⟨h.1,(ap_iff.1 h.2.1).1,h.2.2.2,(ap_iff.1 h.2.1).2,h.2.2.1⟩⟩
theorem refValid24 (m:Mch) (sf sm sl:Sl) (h:Heap) (hM:MI h m sf sm sl):Fn Pz 43 #[.agg ⟨mC m sf sm sl⟩] h (RP (VM m) h):=by
 apply vc43 m.role m.n m.s sf sm sl;unfold W43;refine (St.refl h).newb fun h7 hs=>?_;refine⟨_,_,_,sf,sm,sl,hs.at 0 rfl (o:=0) (n:=6) rfl,?_⟩;refine (numbers58 m sf sm sl h7 (hM.ext hs.ext)).mono ?_;rintro _ h16 ⟨⟨b1,rfl,hb1⟩,E⟩;have hs:=hs.step E;refine⟨_,rfl,sB_intro (fun c1=>?_) (fun c1=>RP.f (fun hG=>iff_f hb1 c1 (VM_iff.1 hG).1) hs.ext)⟩;have hN:=hb1.1 c1;refine⟨_,_,_,sf,sm,sl,hs.at 0 rfl (o:=0) (n:=6) rfl,?_⟩;refine (apart59 m sf sm sl h16 (hM.ext hs.ext) hN).mono ?_;rintro _ h25 ⟨⟨b2,rfl,hb2⟩,E⟩;have hs:=hs.step E;refine⟨_,rfl,E.sm,sB_intro (fun c2=>?_) (fun c2=>RP.f (fun hG=>iff_f hb2 c2 (VM_iff.1 hG).2.1) hs.ext)⟩;refine⟨_,_,_,sf,sm,sl,hs.at 0 rfl (o:=0) (n:=6) rfl,?_⟩;refine (timed60 m sf sm sl h25 (hM.ext hs.ext)).mono ?_;rintro _ h34 ⟨⟨b3,rfl,hb3⟩,E⟩;have hs:=hs.step E;refine⟨_,rfl,E.sm,sB_intro (fun c3=>?_) (fun c3=>RP.f (fun hG=>iff_f hb3 c3 (VM_iff.1 hG).2.2.1) hs.ext)⟩;refine⟨_,_,_,sf,sm,sl,hs.at 0 rfl (o:=0) (n:=6) rfl,_,hs.rd 0 rfl rfl,?_⟩;refine (reached61 m sf sm sl h34 (hM.ext hs.ext) hN).mono ?_;rintro _ h44 ⟨E,s,rfl,hb4⟩;refine⟨_,rfl,E.sm,RP.e ?_ (hs.step E).ext⟩;rw[beq_iff_eq,hb4,VM_iff];exact⟨fun hr=>⟨hN,hb2.1 c2,hb3.1 c3,hr⟩,fun hG=>hG.2.2.2⟩
structure FewM (m:Mch):Prop where
 n:m.n<=40
 f:m.fin.length<=45
 q:m.mv.length<=80
 l:m.li.length<=45
theorem few13 (m:Mch) (sf sm sl:Sl) (h:Heap) (hM:MI h m sf sm sl):Fn Pz 35 #[.agg ⟨mC m sf sm sl⟩] h (RP (FewM m) h):=by
 apply vc35 m.role m.n m.s sf sm sl;unfold W35;have hfn:=hM.pf.ln;have hmn:=hM.pm.ln;have hln:=hM.pl.ln;refine (St.refl h).newb fun h7 hs=>?_;refine⟨_,hs.rd 0 rfl rfl,sBi (fun c1=>?_) (fun c1=>RP.f (fun hG=>by have:=hG.n;omega) hs.ext)⟩;refine⟨sf,hs.rd 0 rfl rfl,sBi (fun c2=>?_) (fun c2=>RP.f (fun hG=>by have:=hG.f;omega) hs.ext)⟩;refine⟨sm,hs.rd 0 rfl rfl,sBi (fun c3=>?_) (fun c3=>RP.f (fun hG=>by have:=hG.q;omega) hs.ext)⟩;refine⟨sl,hs.rd 0 rfl rfl,RP.e ?_ hs.ext⟩;rw[decide_eq_true_eq];exact⟨fun c4=>⟨c1,by omega,by omega,by omega⟩,fun hG=>by have:=hG.l;omega⟩
theorem refSys23 (L:List MR) (s:Sl) (h:Heap) (hS:SyI h s L):Fn Pz 18 #[.slice s.a s.n s.c] h (RP (SysV (L.map MR.m)) h):=by
 apply vc18 s;unfold W18;have hn:=hS.r.ln;have hlm:(L.map MR.m).length=L.length:=Yc _;have hs:=St.refl h;refine sBi (fun c=>RP.f (fun hG=>by have:=hG.n;omega) .rfl') (fun c1=>?_);refine sBi (fun c=>RP.f (fun hG=>by have:=hG.n;omega) .rfl') (fun c2=>?_);refine up_loopS (n:=s.n) hs (fun i=>∀(j:Nat) (x:MR),j<i->L[j]?=some x->x.m.role=(j:Int)/\VM x.m/\∀y∈x.m.mv,y.peer<(L.length:Int)) (fun j x hj=>by omega) ?_;rintro-i h9 hi ⟨hs,hq⟩;refine sB_intro (fun c=>?_) (fun c=>?_)
 .replace c:=lt_t c;refine (hS.r.rw.ext hs.ext).nbI (by omega) (by omega) fun b o x gx t=>?_;replace gx:L[i]?=some x:=gx;have hxi:=hS.i x (Yb gx);have hmx:(L.map MR.m)[i]?=some x.m:=by rw[Yd,gx];rfl
  have hgn:=hxi.pm.ln;have hgm:=hxi.pm.sm;refine⟨_,_,_,_,_,_,t,?_⟩;refine (refValid24 x.m x.f x.g x.l h9 (hxi.ext hs.ext)).mono ?_;rintro _ h16 ⟨⟨b1,rfl,hb1⟩,E⟩;have hs:=hs.step E;refine⟨_,rfl,sB_intro (fun c=>RP.f (fun hG=>iff_f hb1 (bF c) (hG.m i x.m hmx).2.1) hs.ext) (fun c4=>?_)⟩;refine (hS.r.rw.ext hs.ext).nbI (by omega) (by omega) fun b2 o2 x2 gx2 t2=>?_;replace gx2:L[i]?=some x2:=gx2;rw[gx] at gx2;cases gx2;refine⟨_,t2.hd,sBn (fun c=>RP.f (fun hG=>c (hG.m i x.m hmx).1) hs.ext) (fun c3=>?_)⟩;refine up_loopS (n:=x.g.n) hs (fun k=>∀(j:Nat) (y:Mv),j<k->x.m.mv[j]?=some y->y.peer<(L.length:Int)) (fun j y hj=>by omega) ?_;rintro-k h24 hk ⟨hs,hq2⟩;refine (hS.r.rw.ext hs.ext).nbI (by omega) (by omega) fun b3 o3 x3 gx3 t3=>?_;replace gx3:L[i]?=some x3:=gx3;rw[gx] at gx3;cases gx3;refine⟨x.g,t3.nth 4 rfl,sB_intro (fun d=>?_) (fun d=>?_)⟩
  .replace d:=lt_t d;refine (hS.r.rw.ext hs.ext).nbI (by omega) (by omega) fun b4 o4 x4 gx4 t4=>?_;replace gx4:L[i]?=some x4:=gx4;rw[gx] at gx4;cases gx4;refine⟨x.g,t4.nth 4 rfl,?_⟩;refine (hxi.pm.rw.ext hs.ext).nbI (by omega) (by omega) fun b5 o5 y gy t5=>?_;replace gy:x.m.mv[k]?=some y:=gy;refine⟨_,t5.nth 2 rfl,sBi (fun c5=>RP.f (fun hG=>by have:=(hG.m i x.m hmx).2.2 y (Yb gy);omega) hs.ext) (fun c5=>?_)⟩;refine Up.next (by omega) (by omega) ⟨hs,fun j z hj hz=>?_⟩;by_cases e:j=k
   .subst e;rw[gy] at hz;cases hz;omega
   .exact hq2 j z (by omega) hz
  .replace d:=lt_f d;refine Up.next (by omega) (by omega) ⟨hs,fun j y hj hy=>?_⟩;by_cases e:j=i
   .subst e;rw[gx] at hy;cases hy;refine⟨c3,hb1.1 (bT c4),fun z hz=>?_⟩;obtain⟨q,hqz⟩:=Yf.1 hz;exact hq2 q z (by have:=(Ya.1 hqz).1;omega) hqz
   .exact hq j y (by omega) hy
 .replace c:=lt_f c;refine RP.t ⟨by omega,fun p m hm=>?_⟩ hs.ext;rw[Yd] at hm;obtain⟨x,hx,rfl⟩:=Yya.1 hm;rw[hlm];exact hq p x (by have:=(Ya.1 hx).1;omega) hx
theorem same34 (X Y:List Int) (a b:Sl) (h:Heap) (hX:RL h 1 a inC X) (hY:RL h 1 b inC Y):Fn Pz 47 #[.slice a.a a.n a.c,.slice b.a b.n b.c] h (RP (X=Y) h):=by
 apply vc47 a b;unfold W47;have ha:=hX.ln;have hb:=hY.ln;have hsm:=hX.sm;refine sBn (fun c=>RP.f (fun hG=>by rw[hG] at ha;omega) .rfl') (fun c1=>?_);refine up_loopS (n:=a.n) (St.refl h) (fun i=>∀(j:Nat),j<i->X[j]?=Y[j]?) (fun j hj=>by omega) ?_;rintro-i h5 hi ⟨hs,hq⟩;refine sB_intro (fun c=>?_) (fun c=>?_)
 .replace c:=lt_t c;refine (hX.rw.ext hs.ext).nbI (by omega) (by omega) fun b1 o1 x gx t1=>?_;replace gx:X[i]?=some x:=gx;refine⟨_,t1.hd,?_⟩;refine (hY.rw.ext hs.ext).nbI (by omega) (by omega) fun b2 o2 y gy t2=>?_;replace gy:Y[i]?=some y:=gy;refine⟨_,t2.hd,sBn (fun c2=>RP.f (fun hG=>by rw[hG,gy] at gx;cases gx;exact c2 rfl) hs.ext) (fun c2=>?_)⟩;refine Up.next (by omega) (by omega) ⟨hs,fun j hj=>?_⟩;by_cases e:j=i
  .subst e;rw[gx,gy,c2]
  .exact hq j (by omega)
 .replace c:=lt_f c;refine RP.t (Yyr fun j=>?_) hs.ext;by_cases hj:j<X.length
  .exact hq j (by omega)
  .rw[Yl (by omega),Yl (by omega)]
theorem sameC19 (a1 b1 a2 b2:Sl) (S1 S2:List Int) (B1 B2:List Bx) (h:Heap) (h1:CfI h a1 b1 S1 B1) (h2:CfI h a2 b2 S2 B2) :
  Fn Pz 20 #[.agg ⟨[.slice a1.a a1.n a1.c,.slice b1.a b1.n b1.c]⟩,.agg ⟨[.slice a2.a a2.n a2.c,.slice b2.a b2.n b2.c]⟩] h (RP (S1=S2/\B1.map Bx.l=B2.map Bx.l) h):=by
 apply vc20 a1 b1 a2 b2;unfold W20;have n1:=h1.b.ln;have n2:=h2.b.ln;have m1:=h1.b.sm;refine (St.refl h).newb fun h5 hs=>?_;refine hs.newb fun h6 hs=>?_;refine⟨a1,hs.rd 1 rfl rfl,a2,hs.rd 0 rfl rfl,?_⟩;refine (same34 S1 S2 a1 a2 h6 (h1.s.ext hs.ext) (h2.s.ext hs.ext)).mono ?_;rintro _ h11 ⟨⟨b,rfl,hb⟩,E⟩;have hs:=hs.step E;refine⟨_,rfl,sB_intro (fun c=>RP.f (fun hG=>iff_f hb (bF c) hG.1) hs.ext) (fun c0=>?_)⟩;refine⟨b1,hs.rd 1 rfl (i:=1) rfl,b2,hs.rd 0 rfl (i:=1) rfl,sBn (fun c=>RP.f (fun hG=>?_) hs.ext) (fun c1=>?_)⟩
 .have:=congrArg List.length hG.2;rw[Yc,Yc] at this;omega
 refine up_loopS (n:=b1.n) hs (fun i=>∀(j:Nat),j<i->(B1.map Bx.l)[j]?=(B2.map Bx.l)[j]?) (fun j hj=>by omega) ?_;rintro-i h18 hi ⟨hs,hq⟩;refine⟨b1,hs.rd 1 rfl (i:=1) rfl,sB_intro (fun c=>?_) (fun c=>?_)⟩
 .replace c:=lt_t c;refine⟨b1,hs.rd 1 rfl (i:=1) rfl,?_⟩;refine (h1.b.rw.ext hs.ext).nbI (by omega) (by omega) fun b3 o3 x gx t3=>?_;replace gx:B1[i]?=some x:=gx;refine⟨x.s,t3.hd,b2,hs.rd 0 rfl (i:=1) rfl,?_⟩;refine (h2.b.rw.ext hs.ext).nbI (by omega) (by omega) fun b4 o4 y gy t4=>?_;replace gy:B2[i]?=some y:=gy;refine⟨y.s,t4.hd,?_⟩;refine (same34 x.l y.l x.s y.s h18 ((h1.i x (Yb gx)).ext hs.ext) ((h2.i y (Yb gy)).ext hs.ext)).mono ?_;rintro _ h30 ⟨⟨b',rfl,hb'⟩,E⟩;have hs:=hs.step E;have ex:(B1.map Bx.l)[i]?=some x.l:=by rw[Yd,gx];rfl
  have ey:(B2.map Bx.l)[i]?=some y.l:=by rw[Yd,gy];rfl
  refine⟨_,rfl,sB_intro (fun c=>RP.f (fun hG=>iff_f hb' (bF c) ?_) hs.ext) (fun c2=>?_)⟩
  .rw[hG.2,ey] at ex;exact (Yyp ex).symm
  .refine Up.next (by omega) (by omega) ⟨hs,fun j hj=>?_⟩;by_cases e:j=i
   .subst e;rw[ex,ey,hb'.1 (bT c2)]
   .exact hq j (by omega)
 .replace c:=lt_f c;refine RP.t ⟨hb.1 (bT c0),Yyr fun j=>?_⟩ hs.ext;by_cases hj:j<B1.length
  .exact hq j (by omega)
  .rw[Yl (by rw[Yc];omega),Yl (by rw[Yc];omega)]
structure FewC (L:List Mch) (S:List Int) (B:List (List Int)):Prop where
 m:∀x∈L,FewM x
 b:∀b∈B,b.length<=10
 n:L.length<=7/\S.length<=10/\B.length<=50
theorem fewC13 (L:List MR) (s:Sl) (ss sb:Sl) (S:List Int) (B:List Bx) (h:Heap) (hS:SyI h s L) (hC:CfI h ss sb S B) :
  Fn Pz 10 #[.slice s.a s.n s.c,.agg ⟨[.slice ss.a ss.n ss.c,.slice sb.a sb.n sb.c]⟩] h (RP (FewC (L.map MR.m) S (B.map Bx.l)) h):=by
 apply vc10 s ss sb;unfold W10;have hn:=hS.r.ln;have hnm:=hS.r.sm;have hsn:=hC.s.ln;have hbn:=hC.b.ln;have hbm:=hC.b.sm;have hlm:(L.map MR.m).length=L.length:=Yc _;have hlb:(B.map Bx.l).length=B.length:=Yc _;refine (St.refl h).newb fun h3 hs=>?_;refine up_loopS (n:=s.n) hs (fun i=>∀(j:Nat) (x:MR),j<i->L[j]?=some x->FewM x.m) (fun j x hj=>by omega) ?_;rintro-i h8 hi ⟨hs,hq⟩;refine sB_intro (fun c=>?_) (fun c=>?_)
 .replace c:=lt_t c;refine (hS.r.rw.ext hs.ext).nbI (by omega) (by omega) fun b o x gx t=>?_;replace gx:L[i]?=some x:=gx;have hxm:=Yb gx;refine⟨_,_,_,_,_,_,t,?_⟩;refine (few13 x.m x.f x.g x.l h8 ((hS.i x hxm).ext hs.ext)).mono ?_;rintro _ h19 ⟨⟨b1,rfl,hb1⟩,E⟩;have hs:=hs.step E;refine⟨_,rfl,sB_intro (fun c=>RP.f (fun hG=>iff_f hb1 (bF c) (hG.m x.m (List.mem_map_of_mem hxm))) hs.ext) (fun c2=>?_)⟩;refine Up.next (by omega) (by omega) ⟨hs,fun j y hj hy=>?_⟩;by_cases e:j=i
  .subst e;rw[gx] at hy;cases hy;exact hb1.1 (bT c2)
  .exact hq j y (by omega) hy
 .replace c:=lt_f c;refine up_loopS (n:=sb.n) hs (fun i=>∀(j:Nat) (q:Bx),j<i->B[j]?=some q->q.l.length<=10) (fun j x hj=>by omega) ?_;rintro-k h25 hk ⟨hs,hq2⟩;refine⟨sb,hs.rd 0 rfl (i:=1) rfl,sB_intro (fun d=>?_) (fun d=>?_)⟩
  .replace d:=lt_t d;refine⟨sb,hs.rd 0 rfl (i:=1) rfl,?_⟩;refine (hC.b.rw.ext hs.ext).nbI (by omega) (by omega) fun b o q gq t=>?_;replace gq:B[k]?=some q:=gq;have hqm:=Yb gq;have hql:=(hC.i q hqm).ln;refine⟨q.s,t.hd,sBi (fun c5=>RP.f (fun hG=>by have:=hG.b q.l (List.mem_map_of_mem hqm);omega) hs.ext) (fun c5=>?_)⟩;refine Up.next (by omega) (by omega) ⟨hs,fun j y hj hy=>?_⟩;by_cases e:j=k
   .subst e;rw[gq] at hy;cases hy;omega
   .exact hq2 j y (by omega) hy
  .replace d:=lt_f d;refine sBi (fun c1=>?_) (fun c1=>RP.f (fun hG=>by have:=hG.n;omega) hs.ext);refine⟨ss,hs.rd 0 rfl rfl,sBi (fun c2=>?_) (fun c2=>RP.f (fun hG=>by have:=hG.n;omega) hs.ext)⟩;refine⟨sb,hs.rd 0 rfl (i:=1) rfl,RP.e ?_ hs.ext⟩;rw[decide_eq_true_eq];refine⟨fun c3=>⟨fun x hx=>?_,fun b hb=>?_,by omega⟩,fun hG=>by have:=hG.n;omega⟩
   .obtain⟨y,hy,rfl⟩:=Yp.1 hx;obtain⟨j,hj⟩:=Yf.1 hy;exact hq j y (by have:=(Ya.1 hj).1;omega) hj
   .obtain⟨y,hy,rfl⟩:=Yp.1 hb;obtain⟨j,hj⟩:=Yf.1 hy;exact hq2 j y (by have:=(Ya.1 hj).1;omega) hj
def cfA (ss sb:Sl):Value:=.agg ⟨[.slice ss.a ss.n ss.c,.slice sb.a sb.n sb.c]⟩
theorem CfI.none_ {h:Heap}:CfI h ⟨none,0,0⟩ ⟨none,0,0⟩ [] []:=⟨⟨Rw.nil,Yyt _,fun _=>⟨rfl,rfl⟩,Nat.zero_le _⟩,⟨Rw.nil,Yyt _,fun _=>⟨rfl,rfl⟩,Nat.zero_le _⟩,fun q hq=>by cases hq⟩
def startS (L:List Mch):List Int:=L.map fun m=>m.s
def startB (L:List Mch):List (List Int):=List.replicate (L.length*L.length) []
def bx0:Bx:=⟨⟨none,0,0⟩,[]⟩
theorem bxrows (B:List Bx):∀r∈B.map Bx.cs,r.length=1:=fun r hr=>by obtain⟨x,_,rfl⟩:=Yp.1 hr;rfl
theorem inrows' (L:List Int):∀r∈L.map inC,r.length=1:=fun r hr=>by obtain⟨x,_,rfl⟩:=Yp.1 hr;rfl
def Bx.itq (q:Bx):It:=.q q.s 3 1 (q.l.map inC)
structure CfM (A:List It) (ss sb:Sl) (S:List Int) (B:List Bx):Prop where
 s:It.sl ss 3 1 (S.map inC)∈A
 b:It.sl sb 25 1 (B.map Bx.cs)∈A
 i:∀q∈B,q=bx0\/q.it∈A\/q.itq∈A
 n:S.length<=1048576/\B.length<=1048576/\∀q∈B,q.l.length<=1048576
theorem CfM.mono {A A':List It} {ss sb:Sl} {S:List Int} {B:List Bx} (h:CfM A ss sb S B) (hA:∀i∈A,i∈A'):CfM A' ss sb S B:=⟨hA _ h.s,hA _ h.b,fun q hq=>(h.i q hq).imp id (Or.imp (hA _) (hA _)),h.n⟩
theorem CfM.cfi {h0 h:Heap} {A:List It} {ss sb:Sl} {S:List Int} {B:List Bx} (hs:St h0 h A) (hM:CfM A ss sb S B):CfI h ss sb S B:=by
 obtain⟨k,hk⟩:=Yf.1 hM.s;obtain⟨k',hk'⟩:=Yf.1 hM.b;have l1:=hs.len k hk (by omega);have l2:=hs.len k' hk' (by omega);refine⟨⟨hs.rows k hk (by omega),l1.2.1,l1.2.2,hM.n.1⟩,⟨hs.rows k' hk' (by omega),l2.2.1,l2.2.2,hM.n.2.1⟩,fun q hq=>?_⟩;rcases hM.i q hq with rfl | hi | hi
 .exact⟨Rw.nil,Yyt _,fun _=>⟨rfl,rfl⟩,Nat.zero_le _⟩
 .obtain⟨j,hj⟩:=Yf.1 hi;have l3:=hs.len j hj (by omega);exact⟨hs.rows j hj (by omega),l3.2.1,l3.2.2,hM.n.2.2 q hq⟩
 .obtain⟨j,hj⟩:=Yf.1 hi;have l3:=hs.qlen j hj;refine⟨hs.qrw j hj (by omega),l3.2,fun ha=>?_,hM.n.2.2 q hq⟩;rcases (hs.get hj).1.2 with ⟨_,h2,h3⟩ | ⟨g,o,cur,hb,_⟩
  .exact⟨h2,h3⟩
  .rw[ha] at hb;cases hb
theorem CfM.none_:CfM [.sl ⟨none,0,0⟩ 3 1 [],.sl ⟨none,0,0⟩ 25 1 []] ⟨none,0,0⟩ ⟨none,0,0⟩ [] []:=⟨Yx,Yn _ Yx,fun q hq=>(by cases hq),Nat.zero_le _,Nat.zero_le _,fun q hq=>(by cases hq)⟩
theorem first46 (L:List MR) (s:Sl) (h:Heap) (hS:SyI h s L) (h6:L.length<=6) :
  Fn Pz 44 #[.slice s.a s.n s.c] h fun v h'=>∃(ss sb:Sl) (A:List It),v=cfA ss sb/\St h h' A/\CfM A ss sb (startS (L.map MR.m)) (List.replicate (L.length*L.length) bx0):=by
 apply vc44 s;unfold W44;have hn:=hS.r.ln;have h36:=sq6 h6;have hsq:(s.n:Int)*(s.n:Int)=((L.length*L.length:Nat):Int):=by rw[hn];rfl
 generalize hnn:L.length*L.length=nn at *;refine (St.refl h).newb fun h1 hs=>?_;rw[hsq,w64 (n:=((nn:Nat):Int)) (by omega) (by omega),Ys];refine⟨⟨by omega,by omega,by omega⟩,?_⟩;refine hs.newb fun h2 hs=>?_;have hs:=hs.blkS nn 1 ((List.replicate nn bx0).map Bx.cs) (by rw[made42,List.map_replicate,List.map_replicate];rfl) (bxrows _) (by rw[Yc,Yg]) (by simp only[maxLen];omega);refine hs.newput (vs:=[.slice none 0 0,.slice (some ⟨h1.size,0,none⟩) nn nn]) rfl rfl fun h4 hs=>?_;have hs:=hs.nil_ 3 1;have hSl:(startS (L.map MR.m)).length=L.length:=by unfold startS;rw[Yc,Yc]
 refine⟨fun x h' μ=>∃(i:Nat) (st:Sl),x=(i:Int)/\μ=L.length-i/\i<=L.length/\St h h' [.sl st 3 1 (((startS (L.map MR.m)).take i).map inC),.blk h2.size [.slice st.a st.n st.c,.slice (some ⟨h1.size,0,none⟩) nn nn] 28,.sl ⟨some ⟨h1.size,0,none⟩,nn,nn⟩ 25 1 ((List.replicate nn bx0).map Bx.cs),.blk h.size [.slice none 0 0,.slice none 0 0] 28],⟨_,0,_,rfl,rfl,Nat.zero_le _,hs⟩,?_⟩;clear hs;rintro-_ h9 μ ⟨i,st,rfl,rfl,hi,hs⟩;refine sBi (fun c=>?_) (fun c=>?_)
 .obtain⟨y,gy⟩:=get_some (l:=L) (i:=i) (by omega);have gs:(startS (L.map MR.m))[i]?=some y.m.s:=by unfold startS;rw[Yd,Yd,gy];rfl
  have hst:=(hs.rows 0 (s:=st) (cs:=inC) rfl (by omega)).ln;rw[Yu] at hst;refine⟨st,hs.rd 1 rfl rfl,?_⟩;refine (hS.r.rw.ext hs.ext).nbI (by omega) (by omega) fun b o y' gy' t=>?_;rw[Ys] at gy';replace gy':L[i]?=some y':=gy';rw[gy] at gy';cases gy';refine⟨_,t.nth 2 rfl,?_⟩;refine hs.newbE fun h14 E14 hs=>⟨E14.sm,?_⟩;refine hs.appended 1 (rows:=((startS (L.map MR.m)).take i).map inC) rfl app42 (m:=1) (news:=[inC y.m.s]) (hs.at 0 rfl (n:=1) rfl) rfl (by simp[inC]) rfl (by omega) (by simp only[maxLen];omega) fun r h16 nr hs=>?_;refine hs.put 2 rfl (o:=0) (vs:=[.slice r.a r.n r.c]) rfl (show 1<=2 by decide) fun h17 hs=>?_;refine⟨_,(show L.length-(i+1)<L.length-i by omega),i+1,r,by rw[w64 (by omega) (by omega)];omega,rfl,by omega,?_⟩;rw[take_snoc gs,Ym];exact hs.drop 1
 .have hil:i=L.length:=by omega
  subst hil;rw[Yj (by omega)] at hs;refine⟨st,⟨some ⟨h1.size,0,none⟩,nn,nn⟩,hs.at 1 rfl (o:=0) (n:=2) rfl,?_⟩;refine hs.put 3 rfl (o:=0) (vs:=[.slice st.a st.n st.c,.slice (some ⟨h1.size,0,none⟩) nn nn]) rfl (show 2<=2 by decide) fun h21 hs=>?_;refine⟨st,⟨some ⟨h1.size,0,none⟩,nn,nn⟩,hs.at 3 rfl (o:=0) (n:=2) rfl,st,_,_,rfl,hs,?_⟩;refine⟨Yx,Yn _ (Yn _ Yx),fun q hq=>.inl (List.eq_of_mem_replicate hq),by omega,by rw[Yg];omega,fun q hq=>?_⟩;rw[List.eq_of_mem_replicate hq];exact Nat.zero_le _
end Go.VC
end

section
namespace Go.VC
open Go.Proofs Go.LexS
def stC (p:Int) (k:Nat):List Value:=[.int .i64 p,.int .i64 (k:Int)]
variable [Mono]
namespace M
theorem side118 (x:Mv) (h:Heap):Fn Pz 161 #[.agg ⟨x.cs⟩] h fun v h'=>v=.int .i64 (sideM x)/\Ext h h':=by
 apply vc161 x.f x.send x.peer x.label x.t x.ag;unfold W161;refine (St.refl h).newb fun h7 hs=>?_;refine⟨_,hs.rd 0 rfl rfl,?_⟩;unfold sideM;refine sB_intro (fun c=>?_) (fun c=>?_)
 .exact⟨by rw[if_pos c],hs.ext⟩
 .exact⟨by rw[if_neg (by rw[c];simp)],hs.ext⟩
theorem order82 (x y:Mv) (h:Heap):Fn Pz 117 #[.agg ⟨x.cs⟩,.agg ⟨y.cs⟩] h fun v h'=>v=.int .i64 (cmpE x.ev y.ev)/\Ext h h':=by
 apply vc117 x.f x.send x.peer x.label x.t x.ag y.f y.send y.peer y.label y.t y.ag;unfold W117;refine (St.refl h).newb fun h13 hs=>?_;refine hs.newb fun h14 hs=>?_;refine⟨_,_,_,_,_,_,hs.at 1 rfl (o:=0) (n:=6) rfl,_,_,_,_,_,_,hs.at 0 rfl (o:=0) (n:=6) rfl,_,hs.rd 1 rfl rfl,_,hs.rd 0 rfl rfl,_,hs.rd 1 rfl rfl,_,hs.rd 0 rfl rfl,?_⟩;refine (side118 x _).mono ?_;rintro _ h33 ⟨rfl,E1⟩;refine⟨_,rfl,Sm_ext E1,?_⟩;have hs:=hs.step E1;refine (side118 y _).mono ?_;rintro _ h36 ⟨rfl,E2⟩;refine⟨_,rfl,Sm_ext E2,?_⟩;have hs:=hs.step E2;refine (cmp110 _ _ _).mono ?_;rintro _ _ ⟨rfl,rfl⟩;refine⟨_,rfl,fun _ _ _ _ hv=>hv,?_⟩;refine (cmp110 _ _ _).mono ?_;rintro _ _ ⟨rfl,rfl⟩;refine⟨_,rfl,fun _ _ _ _ hv=>hv,?_⟩;refine (cmp110 _ _ _).mono ?_;rintro _ _ ⟨rfl,rfl⟩;refine⟨_,rfl,fun _ _ _ _ hv=>hv,?_⟩;refine hs.newb fun h46 hs=>?_;have hs2:=hs.blkS 3 1 ([cmpI (sideM x) (sideM y),cmpI x.peer y.peer,cmpI x.label y.label].map inC) rfl (inrows _) rfl (by decide);refine (or109 [cmpI (sideM x) (sideM y),cmpI x.peer y.peer,cmpI x.label y.label] _ h46 (hs2.rows 0 rfl (by omega)) (show 3<=1048576 by decide)).mono ?_;rintro _ _ ⟨rfl,rfl⟩;refine⟨_,rfl,?_,hs.ext⟩;show Value.int .i64 (orI3 _ (orI3 _ (orI3 _ 0)))=_;congr 1;obtain⟨f,s,p,l,t,a⟩:=x;obtain⟨f',s',p',l',t',a'⟩:=y;unfold cmpE orI3 sideM Mv.ev;cases s<;>cases s'<;>simp[cmpI]<;>(repeat' split)<;>omega
theorem orderS81 (mv:List Mv) (sm:Sl) (a:Addr) (p q:Int) (i k:Nat) (x y:Mv) (h:Heap) (ha:hc h ⟨a.block,a.off+4,none⟩=some (.slice sm.a sm.n sm.c)) (hr:Rw h 6 sm (mv.map Mv.cs)) (hx:mv[i]?=some x) (hy:mv[k]?=some y) :
  Fn Pz 116 #[.agg ⟨stC p i⟩,.agg ⟨stC q k⟩,.pointer (some a)] h fun v h'=>v=.int .i64 (cmpE x.ev y.ev)/\Ext h h':=by
 apply vc116 p (i:Nat) q (k:Nat) a;unfold W116;have hn:=hr.ln;have hxl:=(Ya.1 hx).1;have hyl:=(Ya.1 hy).1;refine (St.refl h).newb fun h5 hs=>?_;refine hs.newb fun h6 hs=>?_;refine⟨sm,hc_ext hs.ext ha,_,hs.rd 1 rfl (i:=1) rfl,?_⟩;refine (hr.ext hs.ext).nbI (by omega) (by omega) fun b o x' gx t=>?_;replace gx:mv[i]?=some x':=gx;rw[hx] at gx;cases gx;refine⟨_,_,_,_,_,_,t,sm,hc_ext hs.ext ha,_,hs.rd 0 rfl (i:=1) rfl,?_⟩;refine (hr.ext hs.ext).nbI (by omega) (by omega) fun b2 o2 y' gy t2=>?_;replace gy:mv[k]?=some y':=gy;rw[hy] at gy;cases gy;refine⟨_,_,_,_,_,_,t2,?_⟩;refine (order82 x y h6).mono ?_;rintro _ h29 ⟨rfl,E⟩;exact⟨_,rfl,rfl,hs.ext.trans E⟩
end M
def Sort80:Prop:=∀(m:Mch) (sm:Sl) (a:Addr) (p:Int) {h0 h:Heap} {Ls:List It},St h0 h Ls->∀(i:Nat) {s:Sl} {l:List Nat},Ls[i]?=some (.sl s 43 2 (l.map (stC p)))->(∀x∈l,x<m.mv.length)->(l=[]->s.a=none)->m.mv.length<=1048576->l.length<=1048576 ->
 (∀h':Heap,h.size<=h'.size->(∀c,c<h.size->s.a.map (·.block)≠some c->h'[c]?=h[c]?)->hc h' ⟨a.block,a.off+4,none⟩=some (.slice sm.a sm.n sm.c)/\Rw h' 6 sm (m.mv.map Mv.cs)) ->
 Fn Pz 115 #[.slice s.a s.n s.c,.func (.func 116) #[] #[.pointer (some a)]] h fun v h'=>v=.tuple ⟨[]⟩/\∃l':List Nat,l'.Perm l/\l'.Pairwise (fun a b=>¬evLt (m.mv.getD b ⟨0,false,0,0,0,false⟩).ev (m.mv.getD a ⟨0,false,0,0,0,false⟩).ev)/\St h0 h' (Ls.set i (.sl s 43 2 (l'.map (stC p))))
end Go.VC
end

section
namespace Go.VC
open Go.Proofs Go.LexS
def bxI (n p:Nat) (x:Mv):Nat:=if x.send=true then n*p+x.peer.toNat else n*x.peer.toNat+p
theorem two_lt {n a b:Nat} (ha:a<n) (hb:b<n):n*a+b<n*n:=by
 have h1:n*(a+1)<=n*n:=Nat.mul_le_mul_left _ (by omega);rw[Nat.mul_succ] at h1;omega
theorem bxI_lt {n p:Nat} {x:Mv} (hp:p<n) (h0:0<=x.peer) (h1:x.peer<(n:Int)):bxI n p x<n*n:=by
 unfold bxI;split
 .exact two_lt hp (by omega)
 .exact two_lt (by omega) hp
def canS (n:Nat) (k:Int) (S:List Int) (BL:List (List Int)) (p:Nat) (x:Mv):Int:=
 if x.f≠S.getD p 0 then 7 else
 if x.send=true then (if k<=((BL.getD (bxI n p x) []).length:Int) then 19 else 0)
 else match BL.getD (bxI n p x) [] with
  | []=>23
  | l::_=>if l≠x.label then 23 else 0
theorem box60 (n p:Nat) (x:Mv) (h:Heap) (hn:n<=6) (hp:p<n) (h0:0<=x.peer) (h1:x.peer<(n:Int)) :
  Fn Pz 110 #[.int .i64 (n:Int),.int .i64 (p:Int),.agg ⟨x.cs⟩] h fun v h'=>v=.int .i64 (bxI n p x:Nat)/\Ext h h':=by
 apply vc110 (n:Int) (p:Int) x.f x.send x.peer x.label x.t x.ag;unfold W110;have h36:=sq6 hn;refine (St.refl h).newb fun h7 hs=>?_;refine⟨_,hs.rd 0 rfl (i:=1) rfl,?_⟩;obtain⟨q,hq⟩:∃q:Nat,x.peer=(q:Int):=⟨x.peer.toNat,by omega⟩;have hqn:q<n:=by omega
 have hqt:x.peer.toNat=q:=by omega
 have b1:=two_lt hp hqn;have b2:=two_lt hqn hp;unfold bxI;rw[hqt];refine sB_intro (fun c=>?_) (fun c=>?_)
 .refine⟨(q:Int),by rw[<-hq];exact hs.rd 0 rfl (i:=2) rfl,?_⟩;have e1:(n:Int)*(p:Int)=((n*p:Nat):Int):=rfl;have e2:((n*p:Nat):Int)+(q:Int)=((n*p+q:Nat):Int):=rfl;rw[if_pos c,e1,w64 (n:=((n*p:Nat):Int)) (by omega) (by omega),e2,w64 (n:=((n*p+q:Nat):Int)) (by omega) (by omega)];exact⟨rfl,hs.ext⟩
 .refine⟨(q:Int),by rw[<-hq];exact hs.rd 0 rfl (i:=2) rfl,?_⟩;have e1:(n:Int)*(q:Int)=((n*q:Nat):Int):=rfl;have e2:((n*q:Nat):Int)+(p:Int)=((n*q+p:Nat):Int):=rfl;rw[if_neg (by rw[c];exact Bool.false_ne_true),e1,w64 (n:=((n*q:Nat):Int)) (by omega) (by omega),e2,w64 (n:=((n*q+p:Nat):Int)) (by omega) (by omega)];exact⟨rfl,hs.ext⟩
theorem can58 (n:Nat) (k:Int) (ss sb:Sl) (S:List Int) (B:List Bx) (p:Nat) (x:Mv) (h:Heap) (hC:CfI h ss sb S B) (hn:n<=6) (hS:S.length=n) (hB:B.length=n*n) (hp:p<n) (h0:0<=x.peer) (h1:x.peer<(n:Int)) :
  Fn Pz 108 #[.int .i64 (n:Int),.int .i64 k,.agg ⟨[.slice ss.a ss.n ss.c,.slice sb.a sb.n sb.c]⟩,.int .i64 (p:Int),.agg ⟨x.cs⟩] h fun v h'=>v=.int .i64 (canS n k S (B.map Bx.l) p x)/\Ext h h':=by
 apply vc108 (n:Int) k ss sb (p:Int) x.f x.send x.peer x.label x.t x.ag;unfold W108 V108a;have hsn:=hC.s.ln;have hbn:=hC.b.ln;have hlt:=bxI_lt hp h0 h1;refine (St.refl h).newb fun h9 hs=>?_;refine hs.newb fun h10 hs=>?_;refine⟨sb,hs.rd 1 rfl (i:=1) rfl,_,_,_,_,_,_,hs.at 0 rfl (o:=0) (n:=6) rfl,?_⟩;refine (box60 n p x h10 hn hp h0 h1).mono ?_;rintro _ h20 ⟨rfl,E⟩;have hs:=hs.step E;refine⟨_,rfl,E.sm,?_⟩;refine (hC.b.rw.ext hs.ext).nbI (Int.natCast_nonneg _) (Int.ofNat_lt.2 (by rw[hbn,hB];exact hlt)) fun b21 o22 q gq t=>?_;rw[Ys] at gq;replace gq:B[bxI n p x]?=some q:=gq;have hqi:=hC.i q (Yb gq);have hql:=hqi.ln;refine⟨q.s,t.hd,_,hs.rd 0 rfl (i:=0) rfl,ss,hs.rd 1 rfl rfl,?_⟩;refine (hC.s.rw.ext hs.ext).nbI (by omega) (by omega) fun b o z gz t2=>?_;rw[Ys] at gz;replace gz:S[p]?=some z:=gz;have hSg:S.getD p 0=z:=getD_some gz;have hBg:(B.map Bx.l).getD (bxI n p x) []=q.l:=getD_some (by rw[Yd,gq];rfl);refine⟨_,t2.hd,?_⟩;unfold canS;rw[hSg,hBg];refine sBn (fun c=>⟨by rw[if_pos c],hs.ext⟩) (fun c=>?_);rw[if_neg (fun h=>h c)];refine⟨_,hs.rd 0 rfl (i:=1) rfl,sB_intro (fun d=>?_) (fun d=>?_)⟩
 .rw[if_pos d];refine sBi (fun e=>⟨by rw[if_pos (by omega)],hs.ext⟩) (fun e=>?_);rw[if_neg (by omega)];exact⟨_,hs.rd 0 rfl (i:=1) rfl,sB_f (by rw[d];rfl) ⟨rfl,hs.ext⟩⟩
 .rw[if_neg (by rw[d];exact Bool.false_ne_true)];refine⟨_,hs.rd 0 rfl (i:=1) rfl,sB_t (by rw[d];rfl) (sBe (fun e=>?_) (fun e=>?_))⟩
  .rw[List.eq_nil_of_length_eq_zero (l:=q.l) (by omega)];exact⟨rfl,hs.ext⟩
  .refine (hqi.rw.ext hs.ext).nbI (by omega) (by omega) fun b3 o3 y gy t3=>?_;replace gy:q.l[0]?=some y:=gy;cases hl:q.l with
   | nil=>rw[hl] at gy;cases gy
   | cons a r=>
    rw[hl] at gy;cases gy;refine⟨_,t3.hd,_,hs.rd 0 rfl (i:=3) rfl,sBn (fun f=>⟨?_,hs.ext⟩) (fun f=>⟨?_,hs.ext⟩)⟩
    .show _=Value.int .i64 (if y≠x.label then 23 else 0);rw[if_pos f]
    .show _=Value.int .i64 (if y≠x.label then 23 else 0);rw[if_neg (fun h=>h f)]
def posS (L:List Mch) (k:Int) (S:List Int) (BL:List (List Int)) (r i:Int):Int:=
 if r<0\/(L.length:Int)<=r then 2 else match L[r.toNat]? with
 | none=>2
 | some m=>if i<0\/(m.mv.length:Int)<=i then 2 else match m.mv[i.toNat]? with
  | none=>2
  | some x=>canS L.length k S BL r.toNat x
theorem possible61 (L:List MR) (s:Sl) (k:Int) (ss sb:Sl) (S:List Int) (B:List Bx) (r i:Int) (h:Heap) (hS:SyI h s L) (hV:SysV (L.map MR.m)) (hC:CfI h ss sb S B) (hSl:S.length=L.length) (hBl:B.length=L.length*L.length) :
  Fn Pz 103 #[.slice s.a s.n s.c,.int .i64 k,.agg ⟨[.slice ss.a ss.n ss.c,.slice sb.a sb.n sb.c]⟩,.agg ⟨[.int .i64 r,.int .i64 i]⟩] h fun v h'=>v=.int .i64 (posS (L.map MR.m) k S (B.map Bx.l) r i)/\Ext h h':=by
 apply vc103 s k ss sb r i;unfold W103;have hn:=hS.r.ln;have hsn:=hC.s.ln;have hbn:=hC.b.ln;have hlm:(L.map MR.m).length=L.length:=Yc _;have hV6:=hV.n;rw[hlm] at hV6;have h36:=sq6 hV6.2;refine (St.refl h).newb fun h5 hs=>?_;refine hs.newb fun h6 hs=>?_;unfold posS;rw[hlm];refine⟨_,hs.rd 0 rfl (i:=0) rfl,sBi (fun c=>⟨by rw[if_pos (.inl c)],hs.ext⟩) (fun c1=>?_)⟩;refine⟨_,hs.rd 0 rfl (i:=0) rfl,sBi (fun c=>⟨by rw[if_pos (.inr (by omega))],hs.ext⟩) (fun c2=>?_)⟩;rw[if_neg (by omega)];obtain⟨p,rfl⟩:∃p:Nat,r=(p:Int):=⟨r.toNat,by omega⟩;have hp:p<L.length:=by omega
 obtain⟨y,gy⟩:=get_some (l:=L) (i:=p) hp;have gm:(L.map MR.m)[p]?=some y.m:=by rw[Yd,gy];rfl
 rw[Ys,gm];have hyi:=hS.i y (Yb gy);have hgn:=hyi.pm.ln;refine⟨_,hs.rd 0 rfl (i:=1) rfl,sBi (fun c=>⟨?_,hs.ext⟩) (fun c3=>?_)⟩
 .show _=Value.int .i64 (if i<0\/(y.m.mv.length:Int)<=i then 2 else _);rw[if_pos (.inl c)]
 refine⟨_,hs.rd 0 rfl (i:=1) rfl,_,hs.rd 0 rfl (i:=0) rfl,?_⟩;have rdL:∀ {F:Nat->Nat->Prop} {h':Heap},Ext h h'->(∀b o,atC h' ⟨b,o+p*6,none⟩ y.cs->F b o)->NB s.a fun b o=>(0<=(p:Int)/\(p:Int)<(s.n:Nat))/\F b o:=fun {F h'} E hF=>(hS.r.rw.ext E).nbI (by omega) (by omega) fun b o y' gy' t=>by
  rw[Ys] at gy' t;replace gy':L[p]?=some y':=gy';rw[gy] at gy';cases gy';exact hF b o t
 refine rdL hs.ext fun b1 o1 t1=>?_;refine⟨y.g,t1.nth 4 rfl,sBi (fun c=>⟨?_,hs.ext⟩) (fun c4=>?_)⟩
 .show _=Value.int .i64 (if i<0\/(y.m.mv.length:Int)<=i then 2 else _);rw[if_pos (.inr (by omega))]
 obtain⟨j,rfl⟩:∃j:Nat,i=(j:Int):=⟨i.toNat,by omega⟩;obtain⟨x,gx⟩:=get_some (l:=y.m.mv) (i:=j) (by omega);refine⟨_,hs.rd 0 rfl (i:=0) rfl,rdL hs.ext fun b2 o2 t2=>?_⟩;refine⟨y.g,t2.nth 4 rfl,_,hs.rd 0 rfl (i:=1) rfl,?_⟩;refine (hyi.pm.rw.ext hs.ext).nbI (by omega) (by omega) fun b3 o3 x' gx' t3=>?_;rw[Ys] at gx';replace gx':y.m.mv[j]?=some x':=gx';rw[gx] at gx';cases gx';refine⟨_,_,_,_,_,_,t3,?_⟩;have hxm:=Yb gx;have hvm:=hV.m p y.m gm;have hx0:0<=x.peer:=(hvm.2.1.n.mv x hxm).2.2.2.2.1;have hx1:x.peer<(L.length:Int):=by have:=hvm.2.2 x hxm;rw[hlm] at this;exact this
 refine hs.newbE fun h28 E28 hs=>⟨E28.sm,?_⟩;refine hs.put 0 rfl (o:=0) (vs:=x.cs) rfl (show 6<=6 by decide) fun h29 hs=>?_;refine⟨ss,hs.rd 2 rfl rfl,_,hs.rd 1 rfl (i:=0) rfl,?_⟩;refine (hC.s.rw.ext hs.ext).nbI (by omega) (by omega) fun b4 o4 z gz t4=>?_;rw[Ys] at gz;replace gz:S[p]?=some z:=gz;have hSg:S.getD p 0=z:=getD_some gz;refine⟨_,t4.hd,_,hs.rd 0 rfl (i:=0) rfl,?_⟩;show sB _ (Value.int .i64 7=.int .i64 (if (j:Int)<0\/(y.m.mv.length:Int)<=(j:Int) then 2 else match y.m.mv[(j:Int).toNat]? with | none=>2 | some x=>canS L.length k S (B.map Bx.l) p x)/\Ext h h29) _;rw[if_neg (by omega),Ys,gx];refine sBn (fun c=>⟨?_,hs.ext⟩) (fun c5=>?_)
 .show _=Value.int .i64 (canS L.length k S (B.map Bx.l) p x);unfold canS;rw[hSg,if_pos (fun e=>c e.symm)]
 have key:∀v:Int,v=canS L.length k S (B.map Bx.l) p x->∀h',Ext h h'->(Value.int .i64 v=.int .i64 (if (j:Int)<0\/(y.m.mv.length:Int)<=(j:Int) then 2 else match y.m.mv[(j:Int).toNat]? with | none=>2 | some x=>canS L.length k S (B.map Bx.l) p x)/\Ext h h'):=fun v hv h' E=>by
  rw[if_neg (by omega),Ys,gx,hv];exact⟨rfl,E⟩
 obtain⟨q,hq⟩:∃q:Nat,x.peer=(q:Int):=⟨x.peer.toNat,by omega⟩;have hqn:q<L.length:=by omega
 have hqt:x.peer.toNat=q:=by omega
 have b1':=two_lt hp hqn;have b2':=two_lt hqn hp;refine⟨_,hs.rd 0 rfl (i:=1) rfl,sB_intro (fun d=>?_) (fun d=>?_)⟩
 .refine⟨sb,hs.rd 2 rfl (i:=1) rfl,_,hs.rd 1 rfl (i:=0) rfl,(q:Int),by rw[<-hq];exact hs.rd 0 rfl (i:=2) rfl,?_⟩;have e1:(s.n:Int)*(p:Int)=((L.length*p:Nat):Int):=by rw[hn];rfl
  have e2:((L.length*p:Nat):Int)+(q:Int)=((L.length*p+q:Nat):Int):=rfl;rw[e1,w64 (n:=((L.length*p:Nat):Int)) (by omega) (by omega),e2,w64 (n:=((L.length*p+q:Nat):Int)) (by omega) (by omega)];refine (hC.b.rw.ext hs.ext).nbI (Int.natCast_nonneg _) (Int.ofNat_lt.2 (by rw[hbn,hBl];exact b1')) fun b5 o5 u gu t5=>?_;rw[Ys] at gu;replace gu:B[L.length*p+q]?=some u:=gu;have hul:=(hC.i u (Yb gu)).ln;have hBg:(B.map Bx.l).getD (bxI L.length p x) []=u.l:=by
   unfold bxI;rw[if_pos d,hqt];exact getD_some (by rw[Yd,gu];rfl)
  refine⟨u.s,t5.hd,sBi (fun e=>key _ ?_ _ hs.ext) (fun e=>key _ ?_ _ hs.ext)⟩
  .unfold canS;rw[hSg,hBg,if_neg (fun h=>h c5.symm),if_pos d,if_pos (by omega)]
  .unfold canS;rw[hSg,hBg,if_neg (fun h=>h c5.symm),if_pos d,if_neg (by omega)]
 .have hdn:¬x.send=true:=by rw[d];exact Bool.false_ne_true
  refine⟨sb,hs.rd 2 rfl (i:=1) rfl,(q:Int),by rw[<-hq];exact hs.rd 0 rfl (i:=2) rfl,_,hs.rd 1 rfl (i:=0) rfl,?_⟩;have e1:(s.n:Int)*(q:Int)=((L.length*q:Nat):Int):=by rw[hn];rfl
  have e2:((L.length*q:Nat):Int)+(p:Int)=((L.length*q+p:Nat):Int):=rfl;rw[e1,w64 (n:=((L.length*q:Nat):Int)) (by omega) (by omega),e2,w64 (n:=((L.length*q+p:Nat):Int)) (by omega) (by omega)];refine (hC.b.rw.ext hs.ext).nbI (Int.natCast_nonneg _) (Int.ofNat_lt.2 (by rw[hbn,hBl];exact b2')) fun b5 o5 u gu t5=>?_;rw[Ys] at gu;replace gu:B[L.length*q+p]?=some u:=gu;have hui:=hC.i u (Yb gu);have hul:=hui.ln;have hBg:(B.map Bx.l).getD (bxI L.length p x) []=u.l:=by
   unfold bxI;rw[if_neg hdn,hqt];exact getD_some (by rw[Yd,gu];rfl)
  have hcan:canS L.length k S (B.map Bx.l) p x=match u.l with | []=>23 | l::_=>if l≠x.label then 23 else 0:=by
   unfold canS;rw[hSg,hBg,if_neg (fun h=>h c5.symm),if_neg hdn]
  refine⟨u.s,t5.hd,sBe (fun e=>key _ ?_ _ hs.ext) (fun e=>?_)⟩
  .rw[hcan,List.eq_nil_of_length_eq_zero (l:=u.l) (by omega)]
  .refine (hui.rw.ext hs.ext).nbI (by omega) (by omega) fun b6 o6 w gw t6=>?_;replace gw:u.l[0]?=some w:=gw;cases hl:u.l with
   | nil=>rw[hl] at gw;cases gw
   | cons a r=>
    rw[hl] at gw;cases gw;rw[hl] at hcan;refine⟨_,t6.hd,_,hs.rd 0 rfl (i:=3) rfl,sBn (fun f=>key _ ?_ _ hs.ext) (fun f=>key _ ?_ _ hs.ext)⟩
    .rw[hcan];show _=if w≠x.label then 23 else 0;rw[if_pos f]
    .rw[hcan];show _=if w≠x.label then 23 else 0;rw[if_neg (fun h=>h f)]
end Go.VC
end

section
namespace Go.VC
open Go.Proofs Go.Shelf
theorem stC_fin {n:Nat} (p:Int) (k:List (Fin n)):(k.map Fin.val).map (stC p)=k.map fun x=>stC p x.val:=by
 rw[List.map_map];rfl
theorem sort80:Sort80:=by
 intro m sm a p h0 h Ls hs i s l hi hlm hnil hml hll hread;by_cases hl0:l=[]
 .subst hl0;have ha:=hnil rfl;have hget:=hs.get hi;rcases hget.1.2 with ⟨_,hn0,hc0⟩ | ⟨b,cur,ha',_⟩
  .have hset:Ls.set i (.sl s 43 2 (([]:List Nat).map (stC p)))=Ls:=by
    obtain⟨p,q⟩:=Ya.1 hi;rw[<-q];exact List.set_getElem_self p
   intro w hw;subst hw;rw[ha,hn0,hc0];refine (AnyF.slices_SortFunc_none Tryz.sortL80 none ((0:Nat):Nat) (.func (.func 116) #[] #[.pointer (some a)]) w).mono ?_;rintro e' w' ⟨rfl,rfl⟩;exact⟨_,rfl,⟨rfl,[],List.Perm.refl _,List.Pairwise.nil,by rw[hset];exact hs⟩,rfl,rfl,rfl,trivial⟩
  .rw[ha] at ha';cases ha'
 .have hpos:0<m.mv.length:=by
   cases l with
   | nil=>exact absurd rfl hl0
   | cons x r=>have:=hlm x Yx;omega
  haveI:Inhabited (Fin m.mv.length):=⟨⟨0,hpos⟩⟩
  obtain⟨k,rfl⟩:=fin_list hlm;have hi':Ls[i]?=some (.sl s 43 2 (k.map fun x=>stC p x.val)):=by rw[hi,stC_fin]
  rw[Yc] at hll;have g:∀x:Fin m.mv.length,m.mv[x.val]?=some m.mv[x.val]:=fun x=>Yi x.isLt;have ev:∀x:Fin m.mv.length,(m.mv.getD x.val ⟨0,false,0,0,0,false⟩).ev=m.mv[x.val].ev:=fun x=>by rw[Yo,g x];rfl
  refine Fn.mono (sort_ownC Tryz.sortL80 2 43 Tryz.isAgg43 Tryz.sizeOf43 (fun x:Fin m.mv.length=>stC p x.val) (fun _=>rfl) (fun x v hv=>by simp[stC] at hv;rcases hv with rfl | rfl<;>rfl) (fun x y:Fin m.mv.length=>cmpE m.mv[x.val].ev m.mv[y.val].ev) (swo_on swoE fun x:Fin m.mv.length=>m.mv[x.val].ev) 116 #[.pointer (some a)] (enters_of Tryz.func116 (by kernel_rfl) rfl) hs i hi' (by omega) (by omega) (fun x y h' hsz hoth=>?_)) ?_
  .obtain⟨r1,r2⟩:=hread h' hsz hoth;exact @M.orderS81 monoDrawn m.mv sm a p p x.val y.val m.mv[x.val] m.mv[y.val] h' r1 r2 (g x) (g y)
  .rintro v h' ⟨rfl,k',hp,hw,hs'⟩;refine⟨rfl,k'.map Fin.val,hp.map _,?_,by rw[stC_fin];exact hs'⟩;rw[List.pairwise_map];refine hw.imp fun {a b} hab=>?_;unfold ltOf at hab;rw[decide_eq_false_iff_not,cmpE_neg] at hab;rw[ev a,ev b];exact hab
end Go.VC
end

section
namespace Go.VC
open Go.LexS
theorem srt_uniq {m:Mch} (hD:DetM m) {s:Int} {O Q:List Nat} (p1:O.Perm (outIx m s)) (s1:O.Pairwise fun a b=>¬evLt (evI m b) (evI m a)) (p2:Q.Perm (outIx m s)) (s2:Q.Pairwise fun a b=>¬evLt (evI m b) (evI m a)):O=Q:=by
 refine List.Perm.eq_of_pairwise (le:=fun a b=>¬evLt (evI m b) (evI m a)) (fun a b ha hb h3 h4=>?_) s1 s2 (p1.trans p2.symm);obtain⟨x,hx,hxf⟩:=outIx_mem.1 (p1.mem_iff.1 ha);obtain⟨y,hy,hyf⟩:=outIx_mem.1 (p2.mem_iff.1 hb);by_cases e:a=b
 .exact e
 .have:=(hD a b x y hx hy e (by rw[hxf,hyf])).1;rw[evI_of hx,evI_of hy] at h3 h4;exact absurd (evLt_of h3 this) h4
open Classical in
noncomputable def mvS (m:Mch) (s:Int):List Nat:=if h:∃O:List Nat,O.Perm (outIx m s)/\O.Pairwise fun a b=>¬evLt (evI m b) (evI m a) then Classical.choose h else outIx m s
theorem mvS_eq {m:Mch} (hD:DetM m) {s:Int} {O:List Nat} (p1:O.Perm (outIx m s)) (s1:O.Pairwise fun a b=>¬evLt (evI m b) (evI m a)):mvS m s=O:=by
 unfold mvS;have h:∃O:List Nat,O.Perm (outIx m s)/\O.Pairwise fun a b=>¬evLt (evI m b) (evI m a):=⟨O,p1,s1⟩;rw[dif_pos h];have:=Classical.choose_spec h;exact srt_uniq hD this.1 this.2 p1 s1
theorem evLt_nt {a b c:Ev} (h1:¬evLt b a) (h2:¬evLt c b):¬evLt c a:=fun h=>by
 rcases evLt_tri a b with h3 | h3 | h3
 .rcases evLt_tri b c with h4 | h4 | h4
  .exact evLt_irr _ (evLt_trans (evLt_trans h3 h4) h)
  .subst h4;exact evLt_irr _ (evLt_trans h3 h)
  .exact h2 h4
 .subst h3;exact h2 h
 .exact h1 h3
theorem mvS_srt (m:Mch) (s:Int):(mvS m s).Perm (outIx m s)/\(mvS m s).Pairwise fun a b=>¬evLt (evI m b) (evI m a):=by
 have hex:∃O:List Nat,O.Perm (outIx m s)/\O.Pairwise fun a b=>¬evLt (evI m b) (evI m a):=by
  refine⟨(outIx m s).mergeSort (fun a b=>!decide (evLt (evI m b) (evI m a))),List.mergeSort_perm _ _,?_⟩;have h:=List.pairwise_mergeSort (le:=fun a b=>!decide (evLt (evI m b) (evI m a))) (fun a b c h1 h2=>by
   simp only[Bool.not_eq_true',decide_eq_false_iff_not] at h1 h2 ⊢;exact evLt_nt h1 h2) (fun a b=>by
   simp only[Bool.or_eq_true,Bool.not_eq_true',decide_eq_false_iff_not];rcases evLt_tri (evI m a) (evI m b) with h3 | h3 | h3
   .exact .inl fun h=>evLt_irr _ (evLt_trans h3 h)
   .exact .inl fun h=>by rw[h3] at h;exact evLt_irr _ h
   .exact .inr fun h=>evLt_irr _ (evLt_trans h3 h)) (outIx m s)
  exact h.imp fun h=>by simpa using h
 unfold mvS;rw[dif_pos hex];exact Classical.choose_spec hex
end Go.VC
end

section
namespace Go.VC
def setOf (L:List Nat):PSet:=fun j=>decide (j∈L)
def Can (n:Nat) (L:List Nat):Prop:=L=(List.range n).filter fun j=>decide (j∈L)
theorem Can.mk (n:Nat) (p:Nat->Bool):Can n ((List.range n).filter p):=by
 unfold Can;apply List.filter_congr;intro x hx;by_cases hm:x∈(List.range n).filter p
 .rw[decide_eq_true hm];exact (List.mem_filter.1 hm).2
 .rw[decide_eq_false hm];cases hp:p x
  .rfl
  .exact absurd (List.mem_filter.2 ⟨hx,hp⟩) hm
theorem Can.lt {n:Nat} {L:List Nat} (h:Can n L):∀j∈L,j<n:=by
 intro j hj;rw[h,List.mem_filter,List.mem_range] at hj;exact hj.1
theorem setOf_inj {n:Nat} {L L':List Nat} (h:Can n L) (h':Can n L'):setOf L=setOf L' ↔ L=L':=by
 constructor
 .intro e;rw[h,h'];congr 1
 .intro e;rw[e]
theorem elems_setOf {n:Nat} {L:List Nat} (h:Can n L) (hn:n<=4096):elems (setOf L)=L:=by
 unfold elems;have e:List.range 4096=List.range n++(List.range (4096-n)).map (n + ·):=by rw[<-List.range_add];congr 1;omega
 rw[e,List.filter_append];have e2:((List.range (4096-n)).map (n + ·)).filter (setOf L)=[]:=by
  rw[List.filter_eq_nil_iff];intro x hx;obtain⟨y,_,rfl⟩:=Yp.1 hx;unfold setOf;simp only[decide_eq_true_eq];intro hm;have:=h.lt _ hm;omega
 rw[e2,Yw];exact h.symm
def evsC (es:List Ed) (role:Int) (L:List Nat):List Ev:=sortE (L.flatMap fun n=>(visL es role n).map (·.x))
def toC (es:List Ed) (role:Int) (L:List Nat) (x:Ev):List Int:=L.flatMap fun n=>(visL es role n).filterMap fun a=>if a.x=x then some a.to else none
theorem evs_setOf {n:Nat} {L:List Nat} (h:Can n L) (hn:n<=4096) (es:List Ed) (role:Int):evs es role (setOf L)=evsC es role L:=by unfold evs evL evsC;rw[elems_setOf h hn]
theorem toL_setOf {n:Nat} {L:List Nat} (h:Can n L) (hn:n<=4096) (es:List Ed) (role:Int) (x:Ev):toL es role (setOf L) x=toC es role L x:=by unfold toL toC;rw[elems_setOf h hn]
def addC (es:List Ed) (role:Int) (L:List Nat):List Nat:=es.foldl (fun L x=>if (vis1 role x).isNone&&decide (x.f.toNat∈L) && !decide (x.t.toNat∈L) then L++[x.t.toNat] else L) L
def bfsC (es:List Ed) (role:Int):Nat->List Nat->List Nat
 | 0,L=>L
 | f+1,L=>bfsC es role f (addC es role L)
def okC (es:List Ed) (role:Int) (l:List Int) (L:List Nat):Bool:=
 l.all (fun v=>decide (0<=v)&&decide (v.toNat∈L))&&es.all (fun x=>!(vis1 role x).isNone || !decide (x.f.toNat∈L)||decide (x.t.toNat∈L)) &&
  (List.range L.length).all fun i=>match L[i]? with
   | some j=>l.any (fun v=>decide (v=(j:Int)))||es.any fun x=>(vis1 role x).isNone&&decide (x.f.toNat∈L.take i)&&decide (x.t=(j:Int))
   | none=>false
theorem okC_clo {es:List Ed} {role:Int} {l:List Int} {L:List Nat} (hes:∀x∈es,0<=x.f/\0<=x.t) (h:okC es role l L=true) (j:Nat):clo es role l j=decide (j∈L):=by
 unfold okC at h;simp only[Yt,List.all_eq_true,List.mem_range] at h;obtain⟨⟨h1,h2⟩,h3⟩:=h;have fwd:∀a:Int,Qr es role l a->0<=a/\a.toNat∈L:=by
  intro a ha
  induction ha with
  | base hm=>have:=h1 _ hm;simpa using this
  | step _ hx ih=>
   obtain⟨x,hx,hv,hf,rfl⟩:=hx;refine⟨(hes x hx).2,?_⟩;have:=h2 x hx;simp only[Bool.or_eq_true,Bool.not_eq_true',decide_eq_false_iff_not,decide_eq_true_eq] at this;rcases this with (h4 | h4) | h4
   .rw[hv] at h4;cases h4
   .exact absurd (by rw[hf];exact ih.2) h4
   .exact h4
 have bwd:∀i,i<=L.length->∀j∈L.take i,Qr es role l (j:Int):=by
  intro i
  induction i with
  | zero=>intro _ j hj;rw[Yyk] at hj;cases hj
  | succ i ih=>
   intro hi j hj;obtain⟨y,hy⟩:=get_some (l:=L) (i:=i) (by omega);rw[take_snoc hy,Yk,Ye] at hj;rcases hj with hj | rfl
   .exact ih (by omega) j hj
   .have:=h3 i (by omega);rw[hy] at this;simp only[Bool.or_eq_true,List.any_eq_true,decide_eq_true_eq,Yt] at this;rcases this with ⟨v,hv,rfl⟩ | ⟨x,hx,⟨h4,h5⟩,h6⟩
    .exact .base hv
    .have hq:=ih (by omega) _ h5;rw[show ((x.f.toNat:Nat):Int)=x.f by have:=hes x hx;omega] at hq;exact .step hq ⟨x,hx,Option.isNone_iff_eq_none.1 h4,rfl,h6⟩
 have hiff:clo es role l j=true ↔ j∈L:=by
  rw[clo_iff];constructor
  .intro h;have:=(fwd _ h).2;rwa [Ys] at this
  .intro h;exact bwd L.length (Yyt _) j (by rw[Yye];exact h)
 by_cases hj:j∈L
 .rw[decide_eq_true hj];exact hiff.2 hj
 .rw[decide_eq_false hj];cases hc:clo es role l j
  .rfl
  .exact absurd (hiff.1 hc) hj
def cloC (es:List Ed) (role:Int) (n:Nat) (l:List Int):Option (List Nat):=
 let L:=bfsC es role n (l.map Int.toNat).eraseDups
 if okC es role l L then some ((List.range n).filter fun j=>decide (j∈L)) else none
theorem cloC_ok {es:List Ed} {role:Int} {n:Nat} {l:List Int} {L:List Nat} (hes:∀x∈es,0<=x.f/\0<=x.t) (hlt:∀j:Nat,clo es role l j=true->j<n) (h:cloC es role n l=some L):Can n L/\clo es role l=setOf L:=by
 unfold cloC at h;simp only at h;split at h
 .rename_i hk;cases h;refine⟨Can.mk _ _,?_⟩
  funext j
  rw[okC_clo hes hk];unfold setOf;by_cases hj:j∈bfsC es role n (l.map Int.toNat).eraseDups
  .rw[decide_eq_true hj,decide_eq_true];have:clo es role l j=true:=by rw[okC_clo hes hk,decide_eq_true hj]
   exact List.mem_filter.2 ⟨List.mem_range.2 (hlt j this),decide_eq_true hj⟩
  .rw[decide_eq_false hj,decide_eq_false];intro hm;exact hj (Yyn (List.mem_filter.1 hm).2)
 .cases h
def rowCS (S:List (List Nat)) (L:List Nat):List (List Nat):=if L∈S then S else S++[L]
theorem rowI_setOf {n:Nat} {L:List Nat} (hL:Can n L):∀ {S:List (List Nat)},(∀s∈S,Can n s)->rowI (S.map setOf) (setOf L)=idxF S L
 | [],_=>rfl
 | s::S,h=>by
  rw[Yyl,rowI,idxF];have hs:=setOf_inj (h s (Yx ..)) hL;by_cases e:s=L
  .rw[if_pos (hs.2 e),if_pos e]
  .rw[if_neg (fun h=>e (hs.1 h)),if_neg e,rowI_setOf hL fun s hs=>h s (Yn _ hs)]
theorem rowS_setOf {n:Nat} {L:List Nat} (hL:Can n L) {S:List (List Nat)} (hS:∀s∈S,Can n s):rowS (S.map setOf) (setOf L)=(rowCS S L).map setOf/\∀s∈rowCS S L,Can n s:=by
 have hiff:setOf L∈S.map setOf ↔ L∈S:=by
  rw[<-rowI_lt,rowI_setOf hL hS,Yc];constructor
  .intro h;by_cases hm:L∈S
   .exact hm
   .rw[idxF_not hm] at h;omega
  .intro h;exact idxF_lt h
 unfold rowS rowCS;by_cases hm:L∈S
 .rw[if_pos (hiff.2 hm),if_pos hm];exact⟨rfl,hS⟩
 .rw[if_neg (fun h=>hm (hiff.1 h)),if_neg hm,Ym];refine⟨rfl,fun s hs=>?_⟩;rcases Yk.1 hs with hs | hs
  .exact hS s hs
  .rw[Ye] at hs;rw[hs];exact hL
def arcsC (es:List Ed) (role:Int) (n:Nat) (i:Nat) (L:List Nat):List Ev->List (List Nat)->List Mv->Option (List (List Nat) × List Mv)
 | [],S,M=>some (S,M)
 | x::r,S,M=>match cloC es role n (toC es role L x) with
  | none=>none
  | some T=>arcsC es role n i L r (rowCS S T) (M++[⟨i,x.send,x.peer,x.label,(idxF S T:Nat),false⟩])
theorem arcsC_ok {es:List Ed} {role:Int} {n i:Nat} {L:List Nat} (hn:n<=4096) (hes:∀x∈es,0<=x.f/\0<=x.t) (hlt:∀(x:Ev) (j:Nat),clo es role (toC es role L x) j=true->j<n) (hL:Can n L):∀(l:List Ev) (S:List (List Nat)) (M:List Mv) {S':List (List Nat)} {M':List Mv},(∀s∈S,Can n s)->arcsC es role n i L l S M=some (S',M') ->
  arcsF es role i (setOf L) l (S.map setOf) M=(S'.map setOf,M')/\∀s∈S',Can n s
 | [],S,M,S',M',hS,h=>by cases h;exact⟨rfl,hS⟩
 | x::r,S,M,S',M',hS,h=>by
  rw[arcsC] at h;cases hc:cloC es role n (toC es role L x) with
  | none=>rw[hc] at h;cases h
  | some T=>
   rw[hc] at h;replace h:arcsC es role n i L r (rowCS S T) (M++[⟨i,x.send,x.peer,x.label,(idxF S T:Nat),false⟩])=some (S',M'):=h;obtain⟨h1,h2⟩:=cloC_ok hes (hlt x) hc;have h3:=rowS_setOf h1 hS;have:=arcsC_ok hn hes hlt hL r _ _ h3.2 h;rw[arcsF,toL_setOf hL hn,h2,rowI_setOf h1 hS,h3.1];exact this
def viewsCF (es:List Ed) (role:Int) (n:Nat):Nat->Nat->List (List Nat)->List Mv->Option (Option (List (List Nat) × List Mv))
 | 0,_,_,_=>some none
 | f+1,i,S,M=>match S[i]? with
  | none=>some (some (S,M))
  | some L=>match arcsC es role n i L (evsC es role L) S M with
   | none=>none
   | some (S',M')=>if S'.length>200 then some none else viewsCF es role n f (i+1) S' M'
theorem viewsCF_ok {es:List Ed} {role:Int} {n:Nat} (hn:n<=4096) (hes:∀x∈es,0<=x.f/\0<=x.t) (hlt:∀(L:List Nat) (x:Ev) (j:Nat),clo es role (toC es role L x) j=true->j<n):∀(f i:Nat) (S:List (List Nat)) (M:List Mv) {r:Option (List (List Nat) × List Mv)},(∀s∈S,Can n s)->viewsCF es role n f i S M=some r ->
  viewsF es role f i (S.map setOf) M=r.map (fun q=>(q.1.map setOf,q.2))/\∀q,r=some q->∀s∈q.1,Can n s
 | 0,i,S,M,r,_,h=>by cases h;exact⟨rfl,fun q hq=>by cases hq⟩
 | f+1,i,S,M,r,hS,h=>by
  rw[viewsCF] at h;rw[viewsF,Yd];cases hg:S[i]? with
  | none=>
   rw[hg] at h;cases h;exact⟨rfl,fun q hq=>by cases hq;exact hS⟩
  | some L=>
   rw[hg] at h;have hL:=hS L (Yb hg);cases ha:arcsC es role n i L (evsC es role L) S M with
   | none=>simp only[ha] at h;cases h
   | some q=>
    obtain⟨S',M'⟩:=q;simp only[ha] at h;have h1:=arcsC_ok hn hes (hlt L) hL _ S M hS ha;rw[<-evs_setOf hL hn] at h1;show (if (arcsF es role i (setOf L) (evs es role (setOf L)) (S.map setOf) M).1.length>200 then none else viewsF es role f (i+1) (arcsF es role i (setOf L) (evs es role (setOf L)) (S.map setOf) M).1 (arcsF es role i (setOf L) (evs es role (setOf L)) (S.map setOf) M).2)=_/\_;rw[h1.1];simp only[Yc];split
    .rename_i hc;rw[if_pos hc] at h;cases h;exact⟨rfl,fun q hq=>by cases hq⟩
    .rename_i hc;rw[if_neg hc] at h;exact viewsCF_ok hn hes hlt f (i+1) S' M' h1.2 h
theorem viewV_congr {F F':Nat->List Ev} {en en':Nat->Bool} {O:List Bool} {T:List Ti} {l:List Nat} (hF:∀k∈l,F k=F' k) (he:∀k∈l,en k=en' k):viewV F en O T l=viewV F' en' O T l:=by
 have hb:∀k∈l,badV F en l k=badV F' en' l k:=by
  intro k hk;unfold badV;have ha:(l.any fun q=>en q||decide (F k≠F q))=l.any fun q=>en' q||decide (F' k≠F' q):=by
   rw[Bool.eq_iff_iff,List.any_eq_true,List.any_eq_true];constructor
   .rintro⟨q,hq,h⟩;exact⟨q,hq,by rw[<-he q hq,<-hF q hq,<-hF k hk];exact h⟩
   .rintro⟨q,hq,h⟩;exact⟨q,hq,by rw[he q hq,hF q hq,hF k hk];exact h⟩
  rw[ha,hF k hk,he k hk]
 unfold viewV;congr 1
 suffices h:∀(m:List Nat) (st:Option (Bool × Ti)),(∀k∈m,k∈l)->m.foldl (stepV F en O T l) st=m.foldl (stepV F' en' O T l) st from h l _ fun k hk=>hk
 intro m
 induction m with
 | nil=>intro st _;rfl
 | cons a m ih=>
  intro st hs;rw[List.foldl_cons,List.foldl_cons];have:stepV F en O T l st a=stepV F' en' O T l st a:=by unfold stepV;rw[hb a (hs a (Yx ..))]
  rw[this];exact ih _ fun k hk=>hs k (Yn _ hk)
def rawLC (vw:List Nat->Option Ti):Nat->List (List Nat)->List Mv->List To->Option (List Mv × List To)
 | _,[],M,L=>some (M,L)
 | n,p::S,M,L=>match vw p with
  | none=>none
  | some x=>rawLC vw (n+1) S (M.map (updR n x)) (L++limR n x M)
theorem rawLC_ok {vw vw':List Nat->Option Ti} {N:Nat} (hN:N<=4096):∀(n:Nat) (S:List (List Nat)) (M:List Mv) (L:List To),(∀s∈S,Can N s/\vw s=vw' s)->rawL vw n (S.map setOf) M L=rawLC vw' n S M L
 | _,[],_,_,_=>rfl
 | n,p::S,M,L,h=>by
  obtain⟨h1,h2⟩:=h p (Yx ..);rw[Yyl,rawL,rawLC,elems_setOf h1 hN,h2];cases vw' p with
  | none=>rfl
  | some x=>exact rawLC_ok hN (n+1) S _ _ fun s hs=>h s (Yn _ hs)
end Go.VC
end

section
namespace Go.VC
open Go.LexS
def fC (g:Gl) (role:Int) (k:Nat):List Ev:=((cloC g.es role g.n.toNat [(k:Int)]).map (evsC g.es role)).getD []
def enC (g:Gl) (role:Int) (k:Nat):Bool:=((cloC g.es role g.n.toNat [(k:Int)]).map fun L=>decide (g.e.toNat∈L)).getD false
def vwC (g:Gl) (role:Int):List Nat->Option Ti:=viewV (fC g role) (enC g role) (ownE g.es role g.n.toNat).1 (ownT g.es g.ts role g.n.toNat)
def rawC (g:Gl) (role:Int):Option (Option Mch × Int):=
 if !(List.range g.n.toNat).all (fun k=>(cloC g.es role g.n.toNat [(k:Int)]).isSome) then none else
 match cloC g.es role g.n.toNat [g.s] with
 | none=>none
 | some L0=>match viewsCF g.es role g.n.toNat 202 0 [L0] [] with
  | none=>none
  | some none=>some (none,6)
  | some (some (S,M))=>if M.length>400 then some (none,6) else
   match rawLC (vwC g role) 0 S M [] with
   | none=>some (none,18)
   | some (M',L')=>some (some ⟨role,S.length,0,S.map (fun L=>decide (g.e.toNat∈L)),M',L'⟩,0)
theorem rawC_ok {g:Gl} {role:Int} {r:Option Mch × Int} (hV:ValidS g) (h0:0<=role) (h1:role<g.rs.length) (h:rawC g role=some r):raw g role=r:=by
 have hN:=hV.num.n;have hn:g.n.toNat<=4096:=by omega
 have hes:∀x∈g.es,0<=x.f/\0<=x.t:=fun x hx=>by have:=hV.num.e x hx;unfold EdS at this;omega
 have hlt:∀(l:List Int),(∀v∈l,0<=v/\v<g.n)->∀j:Nat,clo g.es role l j=true->j<g.n.toNat:=fun l hl j hj=>by have:=clo_lt hV hl j hj;omega
 have hto:∀(L:List Nat) (x:Ev) (j:Nat),clo g.es role (toC g.es role L x) j=true->j<g.n.toNat:=by
  intro L x;refine hlt _ fun v hv=>?_;unfold toC at hv;obtain⟨k,_,h2⟩:=List.mem_flatMap.1 hv;obtain⟨a,ha,h3⟩:=Yym.1 h2;unfold visL at ha;obtain⟨e,he,h4⟩:=Yym.1 ha;have:=hV.num.e e he;unfold EdS at this;split at h4
  .rw[Yya] at h4;obtain⟨_,_,rfl⟩:=h4;split at h3
   .cases h3;show 0<=e.t/\e.t<g.n;omega
   .cases h3
  .cases h4
 unfold rawC at h;split at h
 .cases h
 rename_i hall;have hall:∀k,k<g.n.toNat->(cloC g.es role g.n.toNat [(k:Int)]).isSome=true:=by
  intro k hk;have:(List.range g.n.toNat).all (fun k=>(cloC g.es role g.n.toNat [(k:Int)]).isSome)=true:=by
   revert hall
   generalize (List.range g.n.toNat).all (fun k=>(cloC g.es role g.n.toNat [(k:Int)]).isSome)=b;cases b<;>simp
  exact List.all_eq_true.1 this k (List.mem_range.2 hk)
 have hfirst:∀k,k<g.n.toNat->firstE g role (k:Int)=fC g role k/\firstB g role (k:Int)=enC g role k:=by
  intro k hk;obtain⟨L,hL⟩:=Option.isSome_iff_exists.1 (hall k hk);obtain⟨h2,h3⟩:=cloC_ok hes (hlt [(k:Int)] fun v hv=>by rw[Ye] at hv;omega) hL;unfold firstE firstB fC enC;rw[hL,h3,evs_setOf h2 hn];exact⟨rfl,rfl⟩
 cases hc0:cloC g.es role g.n.toNat [g.s] with
 | none=>simp only[hc0] at h;cases h
 | some L0=>
  simp only[hc0] at h;obtain⟨h2,h3⟩:=cloC_ok hes (hlt [g.s] fun v hv=>by rw[Ye] at hv;omega) hc0;cases hv:viewsCF g.es role g.n.toNat 202 0 [L0] [] with
  | none=>simp only[hv] at h;cases h
  | some w=>
   simp only[hv] at h;obtain⟨h4,h5⟩:=viewsCF_ok hn hes hto 202 0 [L0] [] (fun s hs=>by rw[Ye] at hs;rw[hs];exact h2) hv;have h6:views g role=w.map fun q=>(q.1.map setOf,q.2):=by
    unfold views;rw[h3];exact h4
   unfold raw;rw[if_neg (by simpa using ⟨hV,h0,h1⟩),h6];cases w with
   | none=>simpa using h
   | some q=>
    obtain⟨S,M⟩:=q;have hS:=h5 (S,M) rfl;simp only[Option.map_some] at h ⊢;split at h
    .rename_i hM;rw[if_pos hM];simpa using h
    .rename_i hM;rw[if_neg hM];rw[rawLC_ok (vw:=vwG g role) (vw':=vwC g role) hn 0 S M [] fun s hs=>⟨hS s hs,viewV_congr (fun k hk=>(hfirst k ((hS s hs).lt k hk)).1) fun k hk=>(hfirst k ((hS s hs).lt k hk)).2⟩];cases hl:rawLC (vwC g role) 0 S M [] with
     | none=>simp only[hl] at h ⊢;simpa using h
     | some q=>
      obtain⟨M',L'⟩:=q;simp only[hl] at h ⊢;rw[<-Yyp h,Yc,List.map_map];rfl
end Go.VC
end

section
namespace Go.VC
open Go.Proofs Go.LexS
def exD (x:Nm):Dc:=⟨x,⟨none,0,0⟩,0,⟨none,0,0⟩,⟨none,0,0⟩,[],[],[]⟩
def exEs:Bool->List Ed
 | true=>[⟨0,0,1,0,1,false⟩,⟨0,0,1,1,2,false⟩,⟨1,1,2,0,3,false⟩,⟨2,1,2,1,4,false⟩,⟨3,2,1,2,5,false⟩,⟨4,2,1,3,5,false⟩]
 | false=>[⟨0,0,1,0,1,false⟩,⟨0,0,1,1,2,false⟩,⟨1,2,1,2,3,false⟩,⟨2,2,1,3,3,false⟩]
def exGl (b:Bool) (hr hd he ht:Sl):Gl:=⟨[101],hr,hd,if b then 6 else 4,0,if b then 5 else 3,he,ht,[[112],[113],[114]],[exD [97],exD [98],exD [99],exD [100]],exEs b,[]⟩
theorem edge70 (p0 p1 p2 p3 p4:Int) (h:Heap):Fn Pz 88 #[.int .i64 p0,.int .i64 p1,.int .i64 p2,.int .i64 p3,.int .i64 p4] h fun v h'=>v=.agg ⟨Ed.cs ⟨p0,p1,p2,p3,p4,false⟩⟩/\Ext h h':=by
 apply vc88;unfold W88;have hs:=St.refl h;refine hs.newput (vs:=Ed.cs ⟨p0,p1,p2,p3,p4,false⟩) rfl rfl fun h2 hs=>?_;exact⟨_,_,_,_,_,_,hs.at 0 rfl (n:=6) rfl,rfl,hs.ext⟩
theorem RL.none_ {α:Type} {h:Heap} {k:Nat} {cs:α->List Value}:RL h k ⟨none,0,0⟩ cs []:=⟨Rw.nil,Yyt _,fun _=>⟨rfl,rfl⟩,Nat.zero_le _⟩
theorem St.rl {α:Type} {h0 h:Heap} {L:List It} (hs:St h0 h L) (k:Nat) {s:Sl} {e:TypeId} {n:Nat} {cs:α->List Value} {l:List α} (hk:L[k]?=some (.sl s e n (l.map cs))) (hn:0<n) (hl:l.length<=1048576):RL h n s cs l:=by
 have:=hs.len k hk hn;exact⟨hs.rows k hk hn,this.2.1,this.2.2,hl⟩
theorem nmrows (L:List Nm):∀r∈L.map nmC,r.length=1:=fun r hr=>by obtain⟨x,_,rfl⟩:=Yp.1 hr;rfl
theorem dcrows (L:List Dc):∀r∈L.map Dc.cs,r.length=5:=fun r hr=>by obtain⟨x,_,rfl⟩:=Yp.1 hr;rfl
theorem edrows (L:List Ed):∀r∈L.map Ed.cs,r.length=6:=fun r hr=>by obtain⟨x,_,rfl⟩:=Yp.1 hr;rfl
theorem example34 (b:Bool) (h:Heap):Fn Pz 34 #[.bool b] h fun v h'=>Ext h h'/\∃hr hd he:Sl,v=(exGl b hr hd he ⟨none,0,0⟩).v/\GI h' (exGl b hr hd he ⟨none,0,0⟩):=by
 apply vc34;unfold W34 V34a;have hs:=St.refl h;refine hs.newb fun h1 hs=>?_;refine hs.newb fun h2 hs=>?_;have hs:=hs.blkS 3 1 ([[112],[113],[114]].map nmC) rfl (nmrows _) rfl (by decide);refine hs.newb fun h3 hs=>?_;have hs:=hs.blkS 4 5 ([exD [97],exD [98],exD [99],exD [100]].map Dc.cs) rfl (dcrows _) rfl (by decide);refine hs.newput (vs:=[.string (bs [101]),.slice (some ⟨h1.size,0,none⟩) 3 3,.slice (some ⟨h2.size,0,none⟩) 4 4,.int .i64 4,.int .i64 0,.int .i64 3,.slice none 0 0,.slice none 0 0]) rfl rfl fun h5 hs=>?_;refine (edge70 _ _ _ _ _ _).mono ?_;rintro _ _ ⟨rfl,E⟩;replace hs:=hs.step E;clear E;refine⟨_,_,_,_,_,_,rfl,?_⟩;refine (edge70 _ _ _ _ _ _).mono ?_;rintro _ _ ⟨rfl,E⟩;replace hs:=hs.step E;clear E;refine⟨_,_,_,_,_,_,rfl,?_⟩;refine (edge70 _ _ _ _ _ _).mono ?_;rintro _ _ ⟨rfl,E⟩;replace hs:=hs.step E;clear E;refine⟨_,_,_,_,_,_,rfl,?_⟩;refine (edge70 _ _ _ _ _ _).mono ?_;rintro _ _ ⟨rfl,E⟩;replace hs:=hs.step E;clear E;refine⟨_,_,_,_,_,_,rfl,?_⟩;refine hs.newb fun h38 hs=>?_;have hs:=hs.blkS 4 6 ((exEs false).map Ed.cs) rfl (edrows _) rfl (by decide);refine hs.put 1 rfl (o:=6) (vs:=[.slice (some ⟨_,0,none⟩) 4 4]) rfl (show 7<=8 by decide) fun h39 hs=>?_;cases b
 .refine sB_f rfl ?_;refine⟨_,⟨some ⟨h1.size,0,none⟩,3,3⟩,⟨some ⟨h2.size,0,none⟩,4,4⟩,_,_,_,⟨some ⟨_,0,none⟩,4,4⟩,⟨none,0,0⟩,hs.at 1 rfl (n:=8) rfl,?_⟩;refine hs.put 4 rfl (o:=0) (vs:=(exGl false ⟨some ⟨h1.size,0,none⟩,3,3⟩ ⟨some ⟨h2.size,0,none⟩,4,4⟩ ⟨some ⟨_,0,none⟩,4,4⟩ ⟨none,0,0⟩).cs) rfl (show 8<=8 by decide) fun h117 hs=>?_;refine⟨_,⟨some ⟨h1.size,0,none⟩,3,3⟩,⟨some ⟨h2.size,0,none⟩,4,4⟩,_,_,_,⟨some ⟨_,0,none⟩,4,4⟩,⟨none,0,0⟩,hs.at 4 rfl (n:=8) rfl,hs.ext,_,_,_,rfl,?_⟩;refine⟨hs.rl 3 rfl (by decide) (show 3<=1048576 by decide),⟨hs.rl 2 rfl (by decide) (show 4<=1048576 by decide),fun d hd=>?_⟩,hs.rl 0 rfl (by decide) (show 4<=1048576 by decide),RL.none_⟩;have hd:d∈[exD [97],exD [98],exD [99],exD [100]]:=hd;simp only[Yr,List.not_mem_nil,or_false] at hd;rcases hd with rfl | rfl | rfl | rfl<;>exact⟨RL.none_,RL.none_,RL.none_⟩
 .refine sB_t rfl ?_;refine hs.put 1 rfl (o:=3) (vs:=[.int .i64 6]) rfl (show 4<=8 by decide) fun h40 hs=>?_;refine hs.put 1 rfl (o:=5) (vs:=[.int .i64 5]) rfl (show 6<=8 by decide) fun h41 hs=>?_;refine (edge70 _ _ _ _ _ _).mono ?_;rintro _ _ ⟨rfl,E⟩;replace hs:=hs.step E;clear E;refine⟨_,_,_,_,_,_,rfl,?_⟩;refine (edge70 _ _ _ _ _ _).mono ?_;rintro _ _ ⟨rfl,E⟩;replace hs:=hs.step E;clear E;refine⟨_,_,_,_,_,_,rfl,?_⟩;refine (edge70 _ _ _ _ _ _).mono ?_;rintro _ _ ⟨rfl,E⟩;replace hs:=hs.step E;clear E;refine⟨_,_,_,_,_,_,rfl,?_⟩;refine (edge70 _ _ _ _ _ _).mono ?_;rintro _ _ ⟨rfl,E⟩;replace hs:=hs.step E;clear E;refine⟨_,_,_,_,_,_,rfl,?_⟩;refine (edge70 _ _ _ _ _ _).mono ?_;rintro _ _ ⟨rfl,E⟩;replace hs:=hs.step E;clear E;refine⟨_,_,_,_,_,_,rfl,?_⟩;refine (edge70 _ _ _ _ _ _).mono ?_;rintro _ _ ⟨rfl,E⟩;replace hs:=hs.step E;clear E;refine⟨_,_,_,_,_,_,rfl,?_⟩;refine hs.newb fun h90 hs=>?_;have hs:=hs.blkS 6 6 ((exEs true).map Ed.cs) rfl (edrows _) rfl (by decide);refine hs.put 2 rfl (o:=6) (vs:=[.slice (some ⟨_,0,none⟩) 6 6]) rfl (show 7<=8 by decide) fun h91 hs=>?_;refine⟨_,⟨some ⟨h1.size,0,none⟩,3,3⟩,⟨some ⟨h2.size,0,none⟩,4,4⟩,_,_,_,⟨some ⟨_,0,none⟩,6,6⟩,⟨none,0,0⟩,hs.at 2 rfl (n:=8) rfl,?_⟩;refine hs.put 5 rfl (o:=0) (vs:=(exGl true ⟨some ⟨h1.size,0,none⟩,3,3⟩ ⟨some ⟨h2.size,0,none⟩,4,4⟩ ⟨some ⟨_,0,none⟩,6,6⟩ ⟨none,0,0⟩).cs) rfl (show 8<=8 by decide) fun h117 hs=>?_;refine⟨_,⟨some ⟨h1.size,0,none⟩,3,3⟩,⟨some ⟨h2.size,0,none⟩,4,4⟩,_,_,_,⟨some ⟨_,0,none⟩,6,6⟩,⟨none,0,0⟩,hs.at 5 rfl (n:=8) rfl,hs.ext,_,_,_,rfl,?_⟩;refine⟨hs.rl 4 rfl (by decide) (show 3<=1048576 by decide),⟨hs.rl 3 rfl (by decide) (show 4<=1048576 by decide),fun d hd=>?_⟩,hs.rl 0 rfl (by decide) (show 6<=1048576 by decide),RL.none_⟩;have hd:d∈[exD [97],exD [98],exD [99],exD [100]]:=hd;simp only[Yr,List.not_mem_nil,or_false] at hd;rcases hd with rfl | rfl | rfl | rfl<;>exact⟨RL.none_,RL.none_,RL.none_⟩
deriving instance DecidableEq for Ed
theorem ex_valid (b:Bool) (hr hd he ht:Sl):ValidS (exGl b hr hd he ht):=by
 have hrs:(exGl b hr hd he ht).rs=[[112],[113],[114]]:=rfl;have hds:(exGl b hr hd he ht).ds=[exD [97],exD [98],exD [99],exD [100]]:=rfl;have hes:(exGl b hr hd he ht).es=exEs b:=rfl;have hall:allF [exD [97],exD [98],exD [99],exD [100]]=[]:=rfl;have get3:∀ {α:Type} {P:Nat->α->Prop} {l:List α},(∀i (hi:i<l.length),P i l[i])->∀i x,l[i]?=some x->P i x:=by
  intro α P l h i x hx;obtain⟨h1,h2⟩:=Ya.1 hx;rw[<-h2];exact h i h1
 refine⟨⟨by rfl,by rw[hrs];decide,by rw[hrs];decide,?_⟩,⟨?_,?_,?_⟩,?_,⟨?_,?_,?_⟩,?_,?_,?_⟩
 .rw[hrs];refine get3 (P:=fun i s=>isWord s=true/\s∉List.take i [[112],[113],[114]]) fun i hi=>?_;have hi:i<3:=hi
  match i,hi with
  | 0,_=>exact Yyn rfl
  | 1,_=>exact Yyn rfl
  | 2,_=>exact Yyn rfl
 .cases b<;>exact⟨Yyn rfl,Yyn rfl,Yyn rfl,Yyn rfl,Yyn rfl,Yyn rfl⟩
 .rw[hes];cases b<;>decide
 .rw[hes];unfold EdS;rw[hrs,hds];cases b
  .show ∀x∈exEs false,0<=x.f/\0<=x.t/\0<=x.a/\0<=x.b/\0<=x.l/\x.f<4/\x.t<4/\x.a<((3:Nat):Int)/\x.b<((3:Nat):Int)/\x.a≠x.b/\x.l<((4:Nat):Int);decide
  .show ∀x∈exEs true,0<=x.f/\0<=x.t/\0<=x.a/\0<=x.b/\0<=x.l/\x.f<6/\x.t<6/\x.a<((3:Nat):Int)/\x.b<((3:Nat):Int)/\x.a≠x.b/\x.l<((4:Nat):Int);decide
 .rw[hds];refine⟨by decide,by rw[hall];decide,?_⟩;refine get3 (P:=fun i d=>DcS [exD [97],exD [98],exD [99],exD [100]] i d) fun i hi=>?_;have hi:i<4:=hi;have hg:GuardS [] [] []:=⟨by decide,by decide,fun x hx=>(by cases hx),fun x hx=>(by cases hx)⟩
  match i,hi with
  | 0,_=>exact⟨by rfl,Yyn rfl,Yyn rfl,by rfl,fun k f hf=>(by cases hf),by rw[hall];exact hg⟩
  | 1,_=>exact⟨by rfl,Yyn rfl,Yyn rfl,by rfl,fun k f hf=>(by cases hf),by rw[hall];exact hg⟩
  | 2,_=>exact⟨by rfl,Yyn rfl,Yyn rfl,by rfl,fun k f hf=>(by cases hf),by rw[hall];exact hg⟩
  | 3,_=>exact⟨by rfl,Yyn rfl,Yyn rfl,by rfl,fun k f hf=>(by cases hf),by rw[hall];exact hg⟩
 .rw[hes];cases b
  .show ∀x∈exEs false,x.f≠3;decide
  .show ∀x∈exEs true,x.f≠5;decide
 .rw[hes];cases b
  .show ∀x∈exEs false,x.ag=true->x.f≠0;decide
  .show ∀x∈exEs true,x.ag=true->x.f≠0;decide
 .rw[hes];have key:((exEs b).zipIdx.all fun p=>(exEs b).zipIdx.all fun q=>!decide ((p.2≠q.2/\p.1.f=q.1.f/\((p.1.a=q.1.a/\p.1.b=q.1.b/\p.1.l=q.1.l)\/p.1.a≠q.1.a\/p.1.ag=true))\/(p.1.ag=true/\q.1.t=p.1.f/\(p.1.a≠q.1.a\/p.1.l≠q.1.l))))=true:=by
   cases b<;>decide
  intro i x hx k y hy hbad;have h1:=List.all_eq_true.1 key (x,i) (Yf.2 ⟨i,by rw[List.getElem?_zipIdx,hx];simp⟩);have h2:=List.all_eq_true.1 h1 (y,k) (Yf.2 ⟨k,by rw[List.getElem?_zipIdx,hy];simp⟩);have h3:=Yyo (Bool.not_eq_true' _ ▸ h2);exact h3 hbad
 .intro i t ht;exact absurd ht (by show ([]:List To)[i]?≠some t;simp)
 .intro v h0 h1;rw[hes];cases b
  .have h1:v<4:=h1;show Rch (exEs false) false 0 v;have s0:Rch (exEs false) false 0 0:=.refl;have s1:Rch (exEs false) false 0 1:=.step s0 ⟨⟨0,0,1,0,1,false⟩,by decide,rfl,rfl⟩;have s2:Rch (exEs false) false 0 2:=.step s0 ⟨⟨0,0,1,1,2,false⟩,by decide,rfl,rfl⟩;have s3:Rch (exEs false) false 0 3:=.step s1 ⟨⟨1,2,1,2,3,false⟩,by decide,rfl,rfl⟩;have:v=0\/v=1\/v=2\/v=3:=by omega
   rcases this with rfl | rfl | rfl | rfl<;>assumption
  .have h1:v<6:=h1;show Rch (exEs true) false 0 v;have s0:Rch (exEs true) false 0 0:=.refl;have s1:Rch (exEs true) false 0 1:=.step s0 ⟨⟨0,0,1,0,1,false⟩,by decide,rfl,rfl⟩;have s2:Rch (exEs true) false 0 2:=.step s0 ⟨⟨0,0,1,1,2,false⟩,by decide,rfl,rfl⟩;have s3:Rch (exEs true) false 0 3:=.step s1 ⟨⟨1,1,2,0,3,false⟩,by decide,rfl,rfl⟩;have s4:Rch (exEs true) false 0 4:=.step s2 ⟨⟨2,1,2,1,4,false⟩,by decide,rfl,rfl⟩;have s5:Rch (exEs true) false 0 5:=.step s3 ⟨⟨3,2,1,2,5,false⟩,by decide,rfl,rfl⟩;have:v=0\/v=1\/v=2\/v=3\/v=4\/v=5:=by omega
   rcases this with rfl | rfl | rfl | rfl | rfl | rfl<;>assumption
 .intro v h0 h1;rw[hes];cases b
  .have h1:v<4:=h1;show Rch (exEs false) true 3 v;have s3:Rch (exEs false) true 3 3:=.refl;have s1:Rch (exEs false) true 3 1:=.step s3 ⟨⟨1,2,1,2,3,false⟩,by decide,rfl,rfl⟩;have s2:Rch (exEs false) true 3 2:=.step s3 ⟨⟨2,2,1,3,3,false⟩,by decide,rfl,rfl⟩;have s0:Rch (exEs false) true 3 0:=.step s1 ⟨⟨0,0,1,0,1,false⟩,by decide,rfl,rfl⟩;have:v=0\/v=1\/v=2\/v=3:=by omega
   rcases this with rfl | rfl | rfl | rfl<;>assumption
  .have h1:v<6:=h1;show Rch (exEs true) true 5 v;have s5:Rch (exEs true) true 5 5:=.refl;have s3:Rch (exEs true) true 5 3:=.step s5 ⟨⟨3,2,1,2,5,false⟩,by decide,rfl,rfl⟩;have s4:Rch (exEs true) true 5 4:=.step s5 ⟨⟨4,2,1,3,5,false⟩,by decide,rfl,rfl⟩;have s1:Rch (exEs true) true 5 1:=.step s3 ⟨⟨1,1,2,0,3,false⟩,by decide,rfl,rfl⟩;have s2:Rch (exEs true) true 5 2:=.step s4 ⟨⟨2,1,2,1,4,false⟩,by decide,rfl,rfl⟩;have s0:Rch (exEs true) true 5 0:=.step s1 ⟨⟨0,0,1,0,1,false⟩,by decide,rfl,rfl⟩;have:v=0\/v=1\/v=2\/v=3\/v=4\/v=5:=by omega
   rcases this with rfl | rfl | rfl | rfl | rfl | rfl<;>assumption
theorem before26 (x y:Mv) (h:Heap):Fn Pz 155 #[.agg ⟨x.cs⟩,.agg ⟨y.cs⟩] h fun v h'=>v=.bool (decide (evLt x.ev y.ev))/\Ext h h':=by
 apply vc155 x.f x.send x.peer x.label x.t x.ag y.f y.send y.peer y.label y.t y.ag;unfold W155;have hs:=St.refl h;refine hs.newb fun h13 hs=>?_;refine hs.newb fun h14 hs=>?_;refine⟨_,hs.rd 1 rfl rfl,_,hs.rd 0 rfl rfl,?_⟩;have hev:evLt x.ev y.ev ↔ (x.send=true/\y.send=false)\/(x.send=y.send/\(x.peer<y.peer\/(x.peer=y.peer/\x.label<y.label))):=Iff.rfl;refine sB_intro (fun c1=>?_) (fun c1=>?_)
 .have c1:x.send≠y.send:=by simpa using c1
  refine⟨_,hs.rd 1 rfl rfl,?_,hs.ext⟩;congr 1;cases hx:x.send<;>cases hy:y.send<;>simp[hx,hy] at c1 hev ⊢<;>simp[hev]
 .have c1:x.send=y.send:=by simpa using c1
  refine⟨_,hs.rd 1 rfl rfl,_,hs.rd 0 rfl rfl,?_⟩;refine sBn (fun c2=>?_) (fun c2=>?_)
  .refine⟨_,hs.rd 1 rfl rfl,_,hs.rd 0 rfl rfl,?_,hs.ext⟩;congr 1;rw[decide_eq_decide,hev,c1];constructor
   .intro h;exact .inr ⟨rfl,.inl h⟩
   .rintro (⟨h1,h2⟩ | ⟨_,h | ⟨h,_⟩⟩)
    .rw[h1] at h2;cases h2
    .exact h
    .exact absurd h c2
  .refine⟨_,hs.rd 1 rfl rfl,_,hs.rd 0 rfl rfl,?_,hs.ext⟩;congr 1;rw[decide_eq_decide,hev,c1];constructor
   .intro h;exact .inr ⟨rfl,.inr ⟨c2,h⟩⟩
   .rintro (⟨h1,h2⟩ | ⟨_,h | ⟨_,h⟩⟩)
    .rw[h1] at h2;cases h2
    .omega
    .exact h
end Go.VC
end

section
namespace Go.VC
theorem Rw.prefix {h:Heap} {k:Nat} {s:Sl} {rows:List (List Value)} (hr:Rw h k s rows) {i c:Nat} (hi:i<=s.n):Rw h k ⟨s.a,i,c⟩ (rows.take i):=by
 have hn:=hr.1;refine⟨by rw[Yu];show i=_;omega,fun hp=>?_⟩;rw[Yu] at hp;obtain⟨b,o,ha,hall⟩:=hr.2 (by omega);refine⟨b,o,ha,fun j row hj=>hall j row ?_⟩;rw[Yyf] at hj;split at hj
 .exact hj
 .cases hj
end Go.VC
end

section
namespace Go.VC
open Go.Proofs Go.LexS
namespace M
theorem intrw {h:Heap} {s:Sl} {L:List Int} (hr:Rw h 1 s (L.map inC)) (hc:s.n<=s.c) {i:Nat} (hi:i<=s.n):Rw h 1 ⟨subA s.a i s.c 1,s.n-i,s.c-i⟩ ((L.drop i).map inC):=by
 have hn:=hr.ln;rw[List.map_drop];by_cases h0:i=s.n
 .rw[List.drop_eq_nil_of_le (by rw[Yc];omega)];exact Rw.empty (by show s.n-i=0;omega)
 .exact hr.from hc (by omega)
theorem subA_nil {s:Sl} {i:Nat} (hna:s.a=none->s.n=0/\s.c=0) (h:subA s.a i s.c 1=none):s.n-i=0/\s.c-i=0:=by
 unfold subA at h;split at h
 .have:=hna h;omega
 .cases ha:s.a with
  | none=>have:=hna ha;omega
  | some a=>rw[ha] at h;cases h
end M
theorem ins_ok {m:Mch} {s:Int} {O:List Nat} {i k:Nat} (hP:O.Perm ((List.range i).filter (outP m s))) (hS:O.Pairwise fun a b=>¬evLt (evI m b) (evI m a)) (hx:outP m s i=true)
  (hb:∀(j a:Nat),j<k->O[j]?=some a->¬evLt (evI m i) (evI m a)) (ha:∀c,O[k]?=some c->evLt (evI m i) (evI m c)) :
  (O.take k++[i]++O.drop k).Perm ((List.range (i+1)).filter (outP m s))/\(O.take k++[i]++O.drop k).Pairwise fun a b=>¬evLt (evI m b) (evI m a):=by
 constructor
 .rw[List.range_succ,List.filter_append,List.filter_cons_of_pos hx,List.filter_nil];refine List.Perm.trans ?_ (hP.append_right [i]);rw[Yz];refine List.Perm.trans (List.Perm.append_left _ List.perm_append_comm) ?_;rw[<-Yz,List.take_append_drop]
 .have hS':=hS;rw[<-List.take_append_drop k O,List.pairwise_append] at hS';rw[Yz,List.pairwise_append];have hdr:∀b∈O.drop k,¬evLt (evI m b) (evI m i):=fun b hbm hlt=>by
   cases hd:O.drop k with
   | nil=>rw[hd] at hbm;cases hbm
   | cons c l=>
    have hc:O[k]?=some c:=by
     have:=List.getElem?_drop (xs:=O) (i:=k) (j:=0);rw[hd] at this;simpa using this.symm
    have h1:=ha c hc;have h2:=hS'.2.1;rw[hd] at hbm h2;rcases Yr.1 hbm with rfl | hbm
    .exact evLt_irr _ (evLt_trans h1 hlt)
    .exact (List.pairwise_cons.1 h2).1 b hbm (evLt_trans hlt h1)
  refine⟨hS'.1,?_,fun a ham b hbm=>?_⟩
  .rw[List.singleton_append,List.pairwise_cons];exact⟨hdr,hS'.2.1⟩
  .rcases Yk.1 hbm with hbm | hbm
   .rw[Ye.1 hbm];obtain⟨j,hj⟩:=Yf.1 ham;rw[Yyf] at hj;split at hj
    .exact hb j a (by assumption) hj
    .cases hj
   .exact hS'.2.2 a ham b hbm
theorem refOut62S (m:Mch) (sf sm sl:Sl) (s:Int) (h:Heap) (hM:MI h m sf sm sl) :
  Fn Pz 102 #[.agg ⟨mC m sf sm sl⟩,.int .i64 s] h fun v h'=>∃(r:Sl) (O:List Nat),v=.slice r.a r.n r.c/\St h h' [.sl r 3 1 ((natI O).map inC)]/\O.Perm (outIx m s)/\O.Pairwise fun a b=>¬evLt (evI m b) (evI m a):=by
 apply vc102 m.role m.n m.s sf sm sl;unfold W102 V102a V102b;have hs:=St.refl h;have hmn:=hM.pm.ln;have hmb:=hM.pm.sm;refine hs.newb fun h7 hs=>?_;have hs:=hs.nil_ 3 1;refine up_loopA (n:=m.mv.length) hs (fun i rows=>∃O:List Nat,rows=(natI O).map inC/\O.Perm ((List.range i).filter (outP m s))/\O.Pairwise fun a b=>¬evLt (evI m b) (evI m a)) ⟨[],rfl,List.Perm.refl _,List.Pairwise.nil⟩ ?_;clear hs;rintro-i out h13 _ hi hs ⟨O,rfl,hP,hSo⟩;have holn:=(hs.rows 0 (cs:=inC) rfl (by omega)).ln;have hocap:=hs.len 0 (s:=out) (e:=3) (n:=1) rfl (by omega);rw[show (natI O).length=O.length from Yc _] at holn;have hol:O.length<=i:=by rw[hP.length_eq];exact Yys (List.length_filter_le _ _) (by rw[Yyd];exact Yyt _)
 refine⟨sm,hs.rd 1 rfl rfl,?_⟩;refine sBi (fun c1=>?_) (fun c1=>?_)
 .have him:i<m.mv.length:=by omega
  refine⟨sm,hs.rd 1 rfl rfl,?_⟩;refine (hM.pm.ext hs.ext).rw.nbI (by omega) (by omega) fun b16 o17 x g16 t16=>?_;replace g16:m.mv[i]?=some x:=g16;refine⟨_,t16.hd,?_⟩;have hp:outP m s i=decide (x.f=s):=by unfold outP;rw[g16]
  refine sBn (fun c2=>?_) (fun c2=>?_)
  .refine UpA.next him (by omega) ⟨_,hs,O,rfl,?_,hSo⟩;rw[List.range_succ,List.filter_append,List.filter_cons_of_neg (by rw[hp,decide_eq_false c2];simp),List.filter_nil,Yw];exact hP
  .have hxi:outP m s i=true:=by rw[hp];exact decide_eq_true c2
   have hevi:evI m i=x.ev:=evI_of g16;have hOm:∀(k j:Nat),O[k]?=some j->∃y,m.mv[j]?=some y:=fun k j hk=>by
    have:=hP.mem_iff.1 (Yb hk);rw[List.mem_filter,List.mem_range] at this;exact get_some (by omega)
   refine up_loopS (n:=out.n) hs (fun k=>∀(j a:Nat),j<k->O[j]?=some a->¬evLt (evI m i) (evI m a)) (fun j a hj=>by omega) ?_;clear hs;rintro-k h24 hko ⟨hs,hq⟩;refine sBi (fun c3=>?_) (fun c3=>?_);rotate_left;have hat:∀c,O[k]?=some c->evLt (evI m i) (evI m c):=fun c hc=>by have:=(Ya.1 hc).1;omega
   rotate_left;refine⟨sm,hs.rd 1 rfl rfl,?_⟩;refine (hM.pm.ext hs.ext).rw.nbI (by omega) (by omega) fun b26 o27 x' g26 t26=>?_;rw[Ys,g16] at g26;cases g26;refine⟨_,_,_,_,_,_,t26,sm,hs.rd 1 rfl rfl,?_⟩;refine (hs.rows 0 (cs:=inC) rfl (by omega)).nbI (by omega) (by omega) fun b35 o36 d g35 t35=>?_;obtain⟨j,hj,rfl⟩:=natI_get g35;replace hj:O[k]?=some j:=hj;obtain⟨y,hy⟩:=hOm _ _ hj;have hyl:=(Ya.1 hy).1;have hevj:evI m j=y.ev:=evI_of hy;refine⟨_,t35.hd,?_⟩;refine (hM.pm.ext hs.ext).rw.nbI (by omega) (by omega) fun b38 o39 y' g38 t38=>?_;rw[Ys,hy] at g38;cases g38;refine⟨_,_,_,_,_,_,t38,?_⟩;refine (before26 x y h24).mono ?_;rintro _ h48 ⟨rfl,E48⟩;have hs:=hs.step E48;refine⟨_,rfl,sB_intro (fun c4=>?_) (fun c4=>?_)⟩
   .have hnl:¬evLt x.ev y.ev:=Yyo (bF c4);refine Up.next (by omega) (by omega) ⟨hs,fun j' a hj' ha=>?_⟩;by_cases e:j'=k
    .subst e;rw[hj] at ha;cases ha;rw[hevi,hevj];exact hnl
    .exact hq j' a (by omega) ha
   have hlt:evLt x.ev y.ev:=Yyn (bT c4);have hat:∀c,O[k]?=some c->evLt (evI m i) (evI m c):=fun c hc=>by rw[hj] at hc;cases hc;rw[hevi,hevj];exact hlt
   all_goals
    have fin:∀ {h':Heap} {r:Sl},St h h' [.sl r 3 1 ((natI (O.take k)).map inC++[[.int .i64 (i:Nat)]]++(natI (O.drop k)).map inC),.blk h.size (mC m sf sm sl) 98]->∃m',m'<m.mv.length-i/\UpA m.mv.length (fun i s_1 h'=>∃rows,St h h' (.sl s_1 3 1 rows::[.blk h.size (mC m sf sm sl) 98])/\∃O:List Nat,rows=(natI O).map inC/\O.Perm ((List.range i).filter (outP m s))/\O.Pairwise fun a b=>¬evLt (evI m b) (evI m a)) r (IntKind.wrap .i64 ((i:Int)+1)) h' m':=by
     intro h' r h1;have hok:=ins_ok hP hSo hxi hq hat;refine UpA.next him (by omega) ⟨_,h1,O.take k++[i]++O.drop k,?_,hok.1,hok.2⟩;unfold natI;rw[Ym,Ym,Ym,Ym];rfl
    have e0:subA out.a (Int.toNat 0) out.c 1=out.a:=subA_zero _ _ _;have hpre:∀ {h':Heap},Rw h' 1 out ((natI O).map inC)->Rw h' 1 (⟨subA out.a (Int.toNat 0) out.c 1,Int.toNat (k:Int)-Int.toNat 0,out.c-Int.toNat 0⟩:Sl) ((natI (O.take k)).map inC):=fun {h'} hr=>by
     have h1:=hr.prefix (i:=k) (c:=out.c-Int.toNat 0) hko;rw[e0];unfold natI at h1 ⊢;rw[List.map_take,List.map_take];exact h1
    have hsuf:∀ {h':Heap},Rw h' 1 out ((natI O).map inC)->Rw h' 1 (⟨subA out.a (Int.toNat (k:Int)) out.c 1,Int.toNat (out.n:Nat)-Int.toNat (k:Int),out.c-Int.toNat (k:Int)⟩:Sl) ((natI (O.drop k)).map inC):=fun {h'} hr=>by
     have h1:=M.intrw hr hocap.2.1 (i:=k) hko;unfold natI at h1 ⊢;rw[List.map_drop];exact h1
    have hnilp:(⟨subA out.a (Int.toNat 0) out.c 1,Int.toNat (k:Int)-Int.toNat 0,out.c-Int.toNat 0⟩:Sl).a=none->(⟨subA out.a (Int.toNat 0) out.c 1,Int.toNat (k:Int)-Int.toNat 0,out.c-Int.toNat 0⟩:Sl).n=0/\(⟨subA out.a (Int.toNat 0) out.c 1,Int.toNat (k:Int)-Int.toNat 0,out.c-Int.toNat 0⟩:Sl).c=0:=by
     intro hn;have hn:subA out.a (Int.toNat 0) out.c 1=none:=hn;rw[e0] at hn;have:=hocap.2.2 hn;exact⟨by show Int.toNat (k:Int)-Int.toNat 0=0;omega,by show out.c-Int.toNat 0=0;omega⟩
    have hnils:(⟨subA out.a (Int.toNat (k:Int)) out.c 1,Int.toNat (out.n:Nat)-Int.toNat (k:Int),out.c-Int.toNat (k:Int)⟩:Sl).a=none->(⟨subA out.a (Int.toNat (k:Int)) out.c 1,Int.toNat (out.n:Nat)-Int.toNat (k:Int),out.c-Int.toNat (k:Int)⟩:Sl).n=0/\(⟨subA out.a (Int.toNat (k:Int)) out.c 1,Int.toNat (out.n:Nat)-Int.toNat (k:Int),out.c-Int.toNat (k:Int)⟩:Sl).c=0:=fun hn=>M.subA_nil hocap.2.2 hn;refine⟨⟨by omega,by omega,by omega⟩,⟨by omega,by omega,by omega⟩,?_,?_⟩
    .refine hs.newb fun h76 hs=>?_;have hs:=hs.blkS 0 1 [] rfl (by simp) rfl (by decide);refine⟨?_,?_⟩
     .refine hs.appRw 0 (rows:=[]) (news:=(natI (O.take k)).map inC) rfl app42 (y:=⟨subA out.a (Int.toNat 0) out.c 1,Int.toNat (k:Int)-Int.toNat 0,out.c-Int.toNat 0⟩) (hpre (hs.rows 1 (s:=out) (cs:=inC) (l:=natI O) rfl (by omega))) (inrows _) hnilp (flat_oneB (fun _=>rfl) _) (by show (0+(Int.toNat (k:Int)-Int.toNat 0))*8<=_;omega) (by show 0+(Int.toNat (k:Int)-Int.toNat 0)<=_;simp only[maxLen];omega) fun s77 h78 n77 hs=>?_;replace n77:s77.n=k:=by rw[n77];show 0+(Int.toNat (k:Int)-Int.toNat 0)=k;omega
      refine hs.app 0 rfl app42 (m:=1) [[.int .i64 (i:Nat)]] rfl rfl (by simp) rfl (by omega) (by simp only[maxLen];omega) fun s80 h81 n80 hs=>?_;refine hs.appRw 0 (rows:=(natI (O.take k)).map inC++[[.int .i64 (i:Nat)]]) (news:=(natI (O.drop k)).map inC) rfl app42 (y:=⟨subA out.a (Int.toNat (k:Int)) out.c 1,Int.toNat (out.n:Nat)-Int.toNat (k:Int),out.c-Int.toNat (k:Int)⟩) (hsuf (hs.rows 1 (s:=out) (cs:=inC) (l:=natI O) rfl (by omega))) (inrows _) hnils (flat_oneB (fun _=>rfl) _) (by show (_+(Int.toNat (out.n:Nat)-Int.toNat (k:Int)))*8<=_;omega) (by show _+(Int.toNat (out.n:Nat)-Int.toNat (k:Int))<=_;simp only[maxLen];omega) fun s82 h83 n82 hs=>?_;refine fin (hs.sub ?_);exact .cons_cons _ (.cons _ (.cons_cons _ .slnil))
     .refine hs.newb fun h85 hs=>?_;refine hs.appRw 1 (rows:=[]) (news:=(natI (O.take k)).map inC) rfl app42 (y:=⟨subA out.a (Int.toNat 0) out.c 1,Int.toNat (k:Int)-Int.toNat 0,out.c-Int.toNat 0⟩) (hpre (hs.rows 2 (s:=out) (cs:=inC) (l:=natI O) rfl (by omega))) (inrows _) hnilp (flat_oneB (fun _=>rfl) _) (by show (0+(Int.toNat (k:Int)-Int.toNat 0))*8<=_;omega) (by show 0+(Int.toNat (k:Int)-Int.toNat 0)<=_;simp only[maxLen];omega) fun s77 h78 n77 hs=>?_;replace n77:s77.n=k:=by rw[n77];show 0+(Int.toNat (k:Int)-Int.toNat 0)=k;omega
      refine hs.appended 1 (rows:=(natI (O.take k)).map inC) rfl app42 (m:=1) (news:=[[.int .i64 (i:Nat)]]) (hs.at 0 rfl (n:=1) rfl) rfl (by simp) rfl (by omega) (by simp only[maxLen];omega) fun s80 h81 n80 hs=>?_;refine hs.appRw 1 (rows:=(natI (O.take k)).map inC++[[.int .i64 (i:Nat)]]) (news:=(natI (O.drop k)).map inC) rfl app42 (y:=⟨subA out.a (Int.toNat (k:Int)) out.c 1,Int.toNat (out.n:Nat)-Int.toNat (k:Int),out.c-Int.toNat (k:Int)⟩) (hsuf (hs.rows 2 (s:=out) (cs:=inC) (l:=natI O) rfl (by omega))) (inrows _) hnils (flat_oneB (fun _=>rfl) _) (by show (_+(Int.toNat (out.n:Nat)-Int.toNat (k:Int)))*8<=_;omega) (by show _+(Int.toNat (out.n:Nat)-Int.toNat (k:Int))<=_;simp only[maxLen];omega) fun s82 h83 n82 hs=>?_;refine fin (hs.sub ?_);exact .cons _ (.cons_cons _ (.cons _ (.cons_cons _ .slnil)))
    .refine hs.newb fun h93 hs=>?_;refine hs.newb fun h94 hs=>?_;have hs:=hs.blkS 0 1 [] rfl (by simp) rfl (by decide);refine hs.appRw 0 (rows:=[]) (news:=(natI (O.take k)).map inC) rfl app42 (y:=⟨subA out.a (Int.toNat 0) out.c 1,Int.toNat (k:Int)-Int.toNat 0,out.c-Int.toNat 0⟩) (hpre (hs.rows 2 (s:=out) (cs:=inC) (l:=natI O) rfl (by omega))) (inrows _) hnilp (flat_oneB (fun _=>rfl) _) (by show (0+(Int.toNat (k:Int)-Int.toNat 0))*8<=_;omega) (by show 0+(Int.toNat (k:Int)-Int.toNat 0)<=_;simp only[maxLen];omega) fun s77 h78 n77 hs=>?_;replace n77:s77.n=k:=by rw[n77];show 0+(Int.toNat (k:Int)-Int.toNat 0)=k;omega
     refine hs.appended 0 (rows:=(natI (O.take k)).map inC) rfl app42 (m:=1) (news:=[[.int .i64 (i:Nat)]]) (hs.at 1 rfl (n:=1) rfl) rfl (by simp) rfl (by omega) (by simp only[maxLen];omega) fun s80 h81 n80 hs=>?_;refine hs.appRw 0 (rows:=(natI (O.take k)).map inC++[[.int .i64 (i:Nat)]]) (news:=(natI (O.drop k)).map inC) rfl app42 (y:=⟨subA out.a (Int.toNat (k:Int)) out.c 1,Int.toNat (out.n:Nat)-Int.toNat (k:Int),out.c-Int.toNat (k:Int)⟩) (hsuf (hs.rows 2 (s:=out) (cs:=inC) (l:=natI O) rfl (by omega))) (inrows _) hnils (flat_oneB (fun _=>rfl) _) (by show (_+(Int.toNat (out.n:Nat)-Int.toNat (k:Int)))*8<=_;omega) (by show _+(Int.toNat (out.n:Nat)-Int.toNat (k:Int))<=_;simp only[maxLen];omega) fun s82 h83 n82 hs=>?_;refine fin (hs.sub ?_);exact .cons_cons _ (.cons _ (.cons _ (.cons_cons _ .slnil)))
 .refine⟨out,O,rfl,hs.sub (.cons_cons _ (.cons _ .slnil)),?_,hSo⟩;rw[show i=m.mv.length by omega] at hP;exact hP
end Go.VC
end
