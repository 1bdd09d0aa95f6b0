/- PuC PuD PuE PwA PwB PuG PuH PwC PwD PwE PwF PwSort PuMv PtX0 PtX PtY PtMa PuJ PuL PwG PwH PwI PwJ PwK PwL PwM PwN PwO PwQ PwR PwU PwV PwW PwY. -/
import Derived.Test.YtibmnldhlgcnjaaGreatDoorGM06
set_option linter.all false
set_option maxRecDepth 100000
set_option maxHeartbeats 8000000

section
namespace Go.VC
open Go.Proofs Go.LexS
def tbA (m:Mch) (sf sm sl:Sl) (b bg:Nat) (ho:Sl) (qs:List (Sl × List Int)):List It:=
 [.blk b (mC m sf sm sl++[.slice ho.a ho.n ho.c]) 329,.sl ho 25 1 ((qs.map Prod.fst).map slC),.blk bg (mC m sf sm sl) 98]
structure TbL (m:Mch) (i:Nat) (qs:List (Sl × List Int)):Prop where
 l:qs.length=m.n.toNat
 q:∀(n:Nat) q,qs[n]?=some q->q.2=natI ((List.range i).filter (outP m n))
 e:∀(n:Nat) q,qs[n]?=some q->q.2=[]->q.1.a=none
theorem TbL.start (m:Mch):TbL m 0 (List.replicate m.n.toNat (⟨none,0,0⟩,[])):=
 ⟨by rw[Yg],fun n q hq=>by rw[List.eq_of_mem_replicate (Yb hq)];rfl,fun n q hq _=>by rw[List.eq_of_mem_replicate (Yb hq)]⟩
theorem TbL.len {m:Mch} {i n:Nat} {qs:List (Sl × List Int)} (h:TbL m i qs) {q:Sl × List Int} (hq:qs[n]?=some q):q.2.length<=i:=by
 rw[h.q n q hq,show (natI ((List.range i).filter (outP m n))).length=((List.range i).filter (outP m n)).length from Yc _];exact Yys (List.length_filter_le _ _) (by rw[Yyd];exact Yyt _)
theorem TbL.next {m:Mch} {i k:Nat} {qs:List (Sl × List Int)} {x:Mv} {q:Sl × List Int} {r:Sl} (h:TbL m i qs) (hx:m.mv[i]?=some x) (hm:x.f=(k:Int)) (hq:qs[k]?=some q):TbL m (i+1) (qs.set k (r,q.2++[(i:Int)])):=by
 refine⟨by rw[Yyh];exact h.l,fun n q' hq'=>?_,fun n q' hq' he=>by
  by_cases e:n=k
  .subst e;rw[Yq (Ya.1 hq).1] at hq';cases hq';exact absurd he (by simp)
  .rw[Yy (fun h=>e h.symm)] at hq';exact h.e n q' hq' he⟩
 have hp:outP m n i=decide (x.f=(n:Int)):=by unfold outP;rw[hx]
 rw[List.range_succ,List.filter_append];by_cases e:n=k
 .subst e;rw[Yq (Ya.1 hq).1] at hq';cases hq';rw[List.filter_cons_of_pos (by rw[hp];exact decide_eq_true hm),List.filter_nil,natI_snoc];show q.2++[(i:Int)]=_;rw[h.q n q hq]
 .rw[Yy (fun h=>e h.symm)] at hq';rw[List.filter_cons_of_neg (by rw[hp,decide_eq_false (by omega)];simp),List.filter_nil,Yw];exact h.q n q' hq'
structure TbS (m:Mch) (i:Nat) (qs:List (Sl × List Int)):Prop where
 l:qs.length=m.n.toNat
 q:∀(n:Nat) q,qs[n]?=some q->∃l:List Nat,q.2=natI l/\l.Perm (outIx m (n:Int))/\(n<i->l.Pairwise fun a b=>¬evLt (evI m b) (evI m a))
 e:∀(n:Nat) q,qs[n]?=some q->q.2=[]->q.1.a=none
theorem natI_back (l:List Nat):(natI l).map Int.toNat=l:=by
 unfold natI;rw[List.map_map];have:(Int.toNat∘fun c:Nat=>(c:Int))=id:=rfl;rw[this,List.map_id]
theorem sorted97 (m:Mch) (sf sm sl:Sl) (h:Heap) (hM:MI h m sf sm sl) (hN:NumM m) :
  Fn Pz 182 #[.agg ⟨mC m sf sm sl⟩] h fun v h'=>Ext h h'/\∃(b:Nat) (S:Nat->List Nat),v=.pointer (some ⟨b,0,none⟩)/\TbI h' ⟨b,0,none⟩ m sf sm sl S:=by
 apply vc182 m.role m.n m.s sf sm sl;unfold W182;have hmn:=hM.pm.ln;have hmm:=hM.pm.sm;have hn:=hN.n;have hml:=hN.ml;have hmx:m.n.toNat<=maxLen:=by simp only[maxLen];omega
 refine (St.refl h).newb fun h7 hs=>?_;have hs7:h.size<h7.size:=hc_blk (hs.rd 0 rfl (i:=0) rfl);refine⟨_,_,_,sf,sm,sl,hs.at 0 rfl (o:=0) (n:=6) rfl,_,hs.rd 0 rfl rfl,⟨by omega,by omega,by omega⟩,?_⟩;rw[made42];have hrep:((List.replicate m.n.toNat ((⟨none,0,0⟩,[]):Sl × List Int)).map Prod.fst)=List.replicate m.n.toNat (⟨none,0,0⟩:Sl):=List.map_replicate;refine hs.newbE fun h15 E15 hs=>⟨E15.sm,?_⟩;have hs:=hs.blkS m.n.toNat 1 _ rfl (slrows _) (by rw[Yc,Yg]) hmx;refine hs.newb fun h16 hs=>?_;obtain⟨ho,hho,hhn⟩:∃ho:Sl,ho=⟨some ⟨h7.size,0,none⟩,m.n.toNat,m.n.toNat⟩/\ho.n=m.n.toNat:=⟨_,rfl,rfl⟩;have hs:St h h16 (tbA m sf sm sl h15.size h.size ho (List.replicate m.n.toNat (⟨none,0,0⟩,[]))++(List.replicate m.n.toNat ((⟨none,0,0⟩,[]):Sl × List Int)).map (nest 3 1 inC)++[]):=by
  have h1:St h h16 (tbA m sf sm sl h15.size h.size ho (List.replicate m.n.toNat (⟨none,0,0⟩,[]))++[]):=by
   unfold tbA;rw[hrep,hho];exact hs
  exact h1.nests (α:=Int) (e:=3) (k:=1) (cs:=inC) m.n.toNat
 refine⟨sm,hs.rd 2 rfl rfl,?_⟩;refine up_loop (n:=sm.n) (fun i h'=>∃qs,TbL m i qs/\St h h' (tbA m sf sm sl h15.size h.size ho qs++qs.map (nest 3 1 inC)++[])) ⟨_,TbL.start m,hs⟩ ?_;clear hs;rintro-i h22 hi ⟨qs,hL,hs⟩;refine sB_intro (fun c=>?_) (fun c=>?_)
 .replace c:=lt_t c;refine (hM.pm.ext hs.ext).rw.nbI (by omega) (by omega) fun b23 o24 x gx t=>?_;replace gx:m.mv[i]?=some x:=gx;have hx:=hN.mv x (Yb gx);obtain⟨k,hk⟩:∃k:Nat,x.f=k:=⟨x.f.toNat,by omega⟩;obtain⟨q,hq⟩:=get_some (l:=qs) (i:=k) (by rw[hL.l];omega);have hql:=hL.len hq;have hqn:q.1.n=q.2.length:=by
   have:=hs.len (3+k) (s:=q.1) (e:=3) (n:=1) (rows:=q.2.map inC) (by
    have:=get_mid (P:=tbA m sf sm sl h15.size h.size ho qs) (Q:=qs.map (nest 3 1 inC)) (R:=[]) (i:=k) (by rw[Yc];exact (Ya.1 hq).1);rw[show (tbA m sf sm sl h15.size h.size ho qs).length=3 from rfl] at this;rw[this,Yd,hq];rfl) (by omega)
   rw[this.1,Yc]
  refine⟨_,_,_,_,_,_,t,?_⟩;refine hs.newput (vs:=x.cs) rfl rfl fun h32 hs=>?_;refine⟨ho,hs.rd 1 rfl rfl,_,hs.rd 0 rfl rfl,ho,hs.rd 1 rfl rfl,_,hs.rd 0 rfl rfl,?_⟩;refine (hs.rows 2 rfl (by omega)).nbI (cs:=slC) (L:=qs.map Prod.fst) (by omega) (by omega) fun b37 o38 d gd t37=>?_;have ed:d=q.1:=by
   rw[hk,show ((k:Int)).toNat=k from rfl,Yd,hq] at gd;exact (Yyp gd).symm
  subst ed;refine⟨_,t37.hd,?_⟩;refine hs.newbE fun h40 E40 hs=>⟨E40.sm,?_⟩;have hs':St h h40 ((.blk h32.size (inC (i:Int)) 3 :: .blk h22.size x.cs 110::tbA m sf sm sl h15.size h.size ho qs)++qs.map (nest 3 1 inC)++[]):=hs;refine hs'.nestAt hq app42 (i:Int) (hs'.at 0 rfl (n:=1) rfl) rfl rfl (by omega) (by simp only[maxLen];omega) fun r h42 hr hs3=>⟨sm_cons (hs'.same hs3 1 1 rfl rfl) (sm_cons (hs'.same hs3 2 2 rfl rfl) sm_nil),?_⟩;refine hs3.set 3 (cs:=slC) (l:=qs.map Prod.fst) rfl (by omega) (by omega) (by omega) r rfl rfl (fun b o h45 hs4=>?_) rfl;refine Up.next c (by omega) ⟨qs.set k (r,q.2++[(i:Int)]),hL.next gx hk hq,?_⟩;unfold tbA;rw[fst_set];rw[hk] at hs4;exact hs4.drop 2
 .replace c:=lt_f c;have him:i=m.mv.length:=by omega
  subst him;refine⟨ho,hs.rd 0 rfl rfl,?_⟩;have hS0:TbS m 0 qs:=⟨hL.l,fun n q hq=>⟨_,hL.q n q hq,List.Perm.refl _,fun hn=>by omega⟩,hL.e⟩;refine up_loop (n:=ho.n) (fun i h'=>∃qs,TbS m i qs/\St h h' (tbA m sf sm sl h15.size h.size ho qs++qs.map (nest 3 1 inC)++[])) ⟨qs,hS0,hs⟩ ?_;clear hs hS0 hL;rintro-i h52 hi ⟨qs,hS,hs⟩;have hl:=hS.l;refine sB_intro (fun c=>?_) (fun c=>?_)
  .replace c:=lt_t c;refine (hs.rows 1 rfl (by omega)).nbI (cs:=slC) (L:=qs.map Prod.fst) (by omega) (by omega) fun b53 o54 d gd t53=>?_;obtain⟨q,hq⟩:=get_some (l:=qs) (i:=i) (by omega);have ed:d=q.1:=by
    rw[show ((i:Int)).toNat=i from rfl,Yd,hq] at gd;exact (Yyp gd).symm
   subst ed;refine⟨_,t53.hd,?_⟩;obtain⟨l,hql,hlp,_⟩:=hS.q i q hq;have hilt:=(Ya.1 hq).1;have hidx:(tbA m sf sm sl h15.size h.size ho qs++qs.map (nest 3 1 inC)++[])[3+i]?=some (.sl q.1 3 1 ((natI l).map inC)):=by
    have:=get_mid (P:=tbA m sf sm sl h15.size h.size ho qs) (Q:=qs.map (nest 3 1 inC)) (R:=[]) (i:=i) (by rw[Yc];exact hilt);rw[show (tbA m sf sm sl h15.size h.size ho qs).length=3 from rfl] at this;rw[this,Yd,hq,<-hql];rfl
   have hlm:∀y∈l,y<m.mv.length:=fun y hy=>by
    obtain⟨x,hx,_⟩:=outIx_mem.1 (hlp.mem_iff.1 hy);exact (Ya.1 hx).1
   have hll:l.length<=1048576:=by
    rw[hlp.length_eq];unfold outIx;exact Yys (List.length_filter_le _ _) (by rw[Yyd];omega)
   have hbg:(tbA m sf sm sl h15.size h.size ho qs++qs.map (nest 3 1 inC)++[])[2]?=some (.blk h.size (mC m sf sm sl) 98):=rfl;have hap:∀b,q.1.a.map (·.block)=some b->b≠h.size:=fun b hb e=>by
    have h1:=(List.pairwise_iff_getElem.1 hs.ap) 2 (3+i) (Ya.1 hbg).1 (Ya.1 hidx).1 (by omega);rw[(Ya.1 hbg).2,(Ya.1 hidx).2] at h1;exact h1 h.size rfl (by show q.1.a.map (·.block)=_;rw[hb,e])
   have hfr:∀b,q.1.a.map (·.block)=some b->h.size<=b:=fun b hb=>(hs.ok _ (Yb hidx)).2 b hb;refine (sort152 m sm ⟨h.size,0,none⟩ hs (3+i) hidx hlm (fun hl0=>hS.e i q hq (by rw[hql,hl0];rfl)) (by omega) hll fun h' hsz hoth=>?_).mono ?_
   .have E':Ext h h':=⟨Yys hs.ext.1 hsz,fun c hc=>by
     rw[hoth c (by have:=hs.ext.1;omega) fun e=>by have:=hfr c e;omega];exact hs.ext.2 c hc⟩
    refine⟨?_,hM.pm.rw.ext E'⟩;have h1:hc h52 ⟨h.size,0+4,none⟩=some (.slice sm.a sm.n sm.c):=hs.rd 2 rfl rfl;rw[hc_of_block (h:=h52) (by
     show h'[h.size]?=h52[h.size]?;refine hoth h.size (hc_blk h1) fun e=>hap h.size e rfl)]
    exact h1
   .rintro _ h57 ⟨rfl,l',hp',hs'',hst⟩;refine⟨rfl,?_⟩;have hset:(tbA m sf sm sl h15.size h.size ho qs++qs.map (nest 3 1 inC)++[]).set (3+i) (.sl q.1 3 1 ((natI l').map inC))=tbA m sf sm sl h15.size h.size ho (qs.set i (q.1,natI l'))++(qs.set i (q.1,natI l')).map (nest 3 1 inC)++[]:=by
     have h1:=set_mid (P:=tbA m sf sm sl h15.size h.size ho qs) (R:=[]) (Q:=qs.map (nest 3 1 inC)) (i:=i) (by rw[Yc];exact hilt) (.sl q.1 3 1 ((natI l').map inC));rw[show (tbA m sf sm sl h15.size h.size ho qs).length=3 from rfl] at h1;rw[h1,List.map_set];have h2:tbA m sf sm sl h15.size h.size ho (qs.set i (q.1,natI l'))=tbA m sf sm sl h15.size h.size ho qs:=by
      unfold tbA;rw[fst_set,list_set_self (by rw[Yd,hq];rfl)]
     rw[h2];rfl
    rw[hset] at hst;refine Up.next c (by omega) ⟨qs.set i (q.1,natI l'),⟨by rw[Yyh];exact hl,fun n q' hq'=>?_,fun n q' hq' he=>?_⟩,hst⟩;rotate_left
    .by_cases e:n=i
     .subst e;rw[Yq hilt] at hq';cases hq';have hl0:l'=[]:=by
       cases l' with
       | nil=>rfl
       | cons a r=>cases he
      subst hl0;exact hS.e n q hq (by rw[hql,List.nil_perm.1 hp'];rfl)
     .rw[Yy (fun h=>e h.symm)] at hq';exact hS.e n q' hq' he
    by_cases e:n=i
    .subst e;rw[Yq hilt] at hq';cases hq';exact⟨l',rfl,hp'.trans hlp,fun _=>hs''⟩
    .rw[Yy (fun h=>e h.symm)] at hq';obtain⟨l2,k1,k2,k3⟩:=hS.q n q' hq';exact⟨l2,k1,k2,fun hn=>k3 (by omega)⟩
  .replace c:=lt_f c;refine⟨hs.ext,h15.size,fun i=>((qs.getD i default).2).map Int.toNat,rfl,⟨ho,fun i=>(qs.getD i default).1,rfl,hs.at 0 rfl (o:=0) (n:=7) rfl,hhn,?_,fun j hj=>?_⟩,fun j hj=>?_⟩
   .have:=hs.rw 1 rfl (by omega);have key:(qs.map Prod.fst).map slC=(List.range qs.length).map fun i=>slC ((qs.getD i default).1):=by rw[List.map_map,map_range];rfl
    rw[key,hl] at this;exact this
   all_goals
    have hg:qs[j]?=some (qs.getD j default):=by rw[Yo,Yi (by omega)];rfl
    obtain⟨l,k1,k2,k3⟩:=hS.q j _ hg
   .have:=hs.rw (3+j) (rows:=(qs.getD j default).2.map inC) (s:=(qs.getD j default).1) (e:=3) (n:=1) (by
     have:=get_mid (P:=tbA m sf sm sl h15.size h.size ho qs) (Q:=qs.map (nest 3 1 inC)) (R:=[]) (i:=j) (by rw[Yc];omega);rw[show (tbA m sf sm sl h15.size h.size ho qs).length=3 from rfl] at this;rw[this,Yd,hg];rfl) (by omega)
    rw[k1] at this ⊢;rw[natI_back];exact this
   .rw[k1,natI_back];exact⟨k2,k3 (by omega)⟩
def DetM (m:Mch):Prop:=∀(i k:Nat) x y,m.mv[i]?=some x->m.mv[k]?=some y->i≠k->x.f=y.f->x.ev≠y.ev/\x.send=y.send
theorem outIx_nodup (m:Mch) (s:Int):(outIx m s).Nodup:=List.Nodup.sublist List.filter_sublist List.nodup_range
theorem evI_of {m:Mch} {i:Nat} {x:Mv} (h:m.mv[i]?=some x):evI m i=x.ev:=by unfold evI;rw[h]
theorem evLt_of {x y:Ev} (h1:¬evLt y x) (h2:x≠y):evLt x y:=by
 rcases evLt_tri x y with h | h | h
 .exact h
 .exact absurd h h2
 .exact absurd h h1
theorem srt_lt {m:Mch} {s:Nat} {l:List Nat} (hS:SrtM m s l) (hA:∀(j:Nat) a b,l[j]?=some a->l[j+1]?=some b->evI m a≠evI m b):∀(j i:Nat) (a b:Nat),i<j->l[i]?=some a->l[j]?=some b->evLt (evI m a) (evI m b)
 | 0,i,a,b,h,_,_=>by omega
 | j+1,i,a,b,h,ha,hb=>by
  have hl:=(Ya.1 hb).1;obtain⟨c,hc⟩:=get_some (l:=l) (i:=j) (by omega);have h1:evLt (evI m c) (evI m b):=by
   refine evLt_of ?_ (hA j c b hc hb);have:=(List.pairwise_iff_getElem.1 hS.s) j (j+1) (by omega) hl (by omega);rw[(Ya.1 hc).2,(Ya.1 hb).2] at this;exact this
  by_cases e:i=j
  .subst e;rw[ha] at hc;cases hc;exact h1
  .exact evLt_trans (srt_lt hS hA j i a c (by omega) ha hc) h1
theorem srt_send {m:Mch} {l:List Nat} (hA:∀(j:Nat) a b,l[j]?=some a->l[j+1]?=some b->(evI m a).send=(evI m b).send):∀(j:Nat) (a b:Nat),l[0]?=some a->l[j]?=some b->(evI m a).send=(evI m b).send
 | 0,a,b,ha,hb=>by rw[ha] at hb;cases hb;rfl
 | j+1,a,b,ha,hb=>by
  have hl:=(Ya.1 hb).1;obtain⟨c,hc⟩:=get_some (l:=l) (i:=j) (by omega);exact (srt_send hA j a c ha hc).trans (hA j c b hc hb)
theorem det98 (m:Mch) (sf sm sl:Sl) (b:Nat) (S:Nat->List Nat) (h:Heap) (hM:MI h m sf sm sl) (hN:NumM m) (hT:TbI h ⟨b,0,none⟩ m sf sm sl S) :
  Fn Pz 183 #[.pointer (some ⟨b,0,none⟩)] h (RP (DetM m) h):=by
 apply vc183;unfold W183 V183a;obtain⟨ho,qs,_,hat,hhn,hho,hqs⟩:=hT.ex;have hmn:=hM.pm.ln;have hmm:=hM.pm.sm;have hn:=hN.n;have hbb:b<h.size:=hc_blk (hat.nth 0 rfl);refine⟨ho,hat.nth 6 rfl,?_⟩;refine up_loop (n:=ho.n) (fun i h'=>Ext h h'/\∀(v:Nat),v<i->∀(j:Nat) a b,(S v)[j]?=some a->(S v)[j+1]?=some b->evI m a≠evI m b/\(evI m a).send=(evI m b).send) ⟨.rfl',fun v hv=>by omega⟩ ?_;rintro-i h6 hi ⟨E6,hQ⟩;refine sB_intro (fun c=>?_) (fun c=>?_)
 .replace c:=lt_t c;have hil:i<m.n.toNat:=by omega
  refine (hho.ext E6).nbI (by omega) (by omega) fun b7 o8 v gv t7=>?_;have hv:v=i:=by rw[show ((i:Int)).toNat=i from rfl,Yyb hil] at gv;exact (Yyp gv).symm
  subst hv;have hS:=hT.so v hil;have hrow:=hqs v hil;have hrn:=hrow.ln;rw[show (natI (S v)).length=(S v).length from Yc _] at hrn;have hSl:(S v).length<=1048576:=by
   rw[hS.p.length_eq];unfold outIx;exact Yys (List.length_filter_le _ _) (by rw[Yyd];omega)
  refine⟨_,t7.hd,?_⟩;refine⟨fun x h' μ=>∃j:Nat,x=j/\1<=j/\j<=(qs v).n+1/\μ=(qs v).n+1-j/\Ext h h'/\∀(k:Nat) a b,k+1<j->(S v)[k]?=some a->(S v)[k+1]?=some b->evI m a≠evI m b/\(evI m a).send=(evI m b).send,⟨_,1,rfl,Yyt _,by omega,rfl,E6,fun k a b hk=>by omega⟩,?_⟩;rintro-_ h14 μ ⟨j,rfl,hj1,hj,rfl,E14,hq⟩;refine sB_intro (fun c1=>?_) (fun c1=>?_)
  .replace c1:=lt_t c1;have hw:IntKind.wrap .i64 ((j:Int)-1)=((j-1:Nat):Int):=by rw[w64 (by omega) (by omega)];omega
   rw[hw];refine⟨sm,(atC_ext E14 hat).nth 4 rfl,?_⟩;refine (hrow.ext E14).nbI (by omega) (by omega) fun b16 o17 d1 g16 t16=>?_;replace g16:(natI (S v))[j-1]?=some d1:=g16;obtain⟨p1,gi,rfl⟩:=natI_get g16;obtain⟨x,hx,hxf⟩:=outIx_mem.1 (hS.p.mem_iff.1 (Yb gi));have hxl:=(Ya.1 hx).1;refine⟨_,t16.nth 0 rfl,?_⟩;refine (hM.pm.rw.ext E14).nbI (by omega) (by omega) fun b19 o20 x' gx t19=>?_;replace gx:m.mv[p1]?=some x':=gx;rw[hx] at gx;cases gx;refine⟨_,_,_,_,_,_,t19,sm,(atC_ext E14 hat).nth 4 rfl,?_⟩;refine (hrow.ext E14).nbI (by omega) (by omega) fun b28 o29 d2 g28 t28=>?_;replace g28:(natI (S v))[j]?=some d2:=g28;obtain⟨p2,gj,rfl⟩:=natI_get g28;obtain⟨y,hy,hyf⟩:=outIx_mem.1 (hS.p.mem_iff.1 (Yb gj));have hyl:=(Ya.1 hy).1;refine⟨_,t28.nth 0 rfl,?_⟩;refine (hM.pm.rw.ext E14).nbI (by omega) (by omega) fun b31 o32 y' gy t31=>?_;replace gy:m.mv[p2]?=some y':=gy;rw[hy] at gy;cases gy;have hxy:x.f=y.f:=by omega
   have hne:p1≠p2:=fun e=>by
    have nd:=(hS.p.nodup_iff).2 (outIx_nodup m (v:Int));have h1:=(Ya.1 gi);have h2:=(Ya.1 gj);have h3:=(List.pairwise_iff_getElem.1 nd) (j-1) j h1.1 h2.1 (by omega);rw[h1.2,h2.2] at h3;exact h3 e
   have k31:b31<h14.size:=hc_blk t31.hd;have k28:b28<h14.size:=hc_blk t28.hd;have kb:b<h14.size:=by have:=E14.1;omega
   refine⟨_,_,_,_,_,_,t31,?_,?_⟩;refine (St.refl h14).newbE fun h39 E39 hs=>⟨E39.sm,?_⟩;have hs39:h14.size<h39.size:=hc_blk (hs.rd 0 rfl (i:=0) rfl);refine hs.newbE fun h40 E40 hs=>⟨E40.sm,?_⟩;obtain⟨k1,k2⟩:=hs.put (K:=fun h'=>St h14 h' [.blk h39.size [.int .i64 0,.bool false,.int .i64 0,.int .i64 0,.int .i64 0,.bool false] 110,.blk h14.size x.cs 110]) 1 rfl (o:=0) (vs:=x.cs) (n:=6) rfl (show 6<=6 by decide) (fun h' hs=>hs);refine⟨k1,fun h41 e41=>?_⟩;have hs:=k2 h41 e41;have hB:But h14.size h40 h41:=by rw[e41];exact But.hputs (a:=⟨h14.size,0,none⟩) _ _ _
   refine⟨Sm_but hB (fun a ha=>?_),?_⟩
   .simp only[Yr,List.not_mem_nil,or_false] at ha;rcases ha with rfl | rfl | rfl
    .show b31≠h14.size;omega
    .show b28≠h14.size;omega
    .show b≠h14.size;omega
   refine hs.put 0 rfl (o:=0) (vs:=y.cs) rfl (show 6<=6 by decide) fun h42 hs=>?_;replace hs:St h h42 [.blk h39.size y.cs 110,.blk h14.size x.cs 110]:=by
    refine⟨E14.trans hs.ext,fun i hi=>⟨(hs.ok i hi).1,fun b hb=>Yys E14.1 ((hs.ok i hi).2 b hb)⟩,hs.ap⟩
   refine⟨_,_,_,_,_,_,hs.at 1 rfl (o:=0) (n:=6) rfl,_,_,_,_,_,_,hs.at 0 rfl (o:=0) (n:=6) rfl,?_⟩;refine (M.of63 x _).mono ?_;rintro _ h59 ⟨rfl,E1⟩;have hs:=hs.step E1;refine⟨_,_,_,rfl,E1.sm,?_⟩;refine (M.of63 y h59).mono ?_;rintro _ h64 ⟨rfl,E2⟩;have hs:=hs.step E2;refine⟨_,_,_,rfl,E2.sm,?_⟩;refine sB_intro (fun d=>?_) (fun d=>?_)
   .have d':x.ev=y.ev:=Yyn ((evEq x.ev y.ev).symm.trans d);exact RP.f (fun hD=>(hD _ _ x y hx hy hne hxy).1 d') hs.ext
   have d':x.ev≠y.ev:=Yyo ((evEq x.ev y.ev).symm.trans d);refine⟨_,hs.rd 1 rfl rfl,_,hs.rd 0 rfl rfl,sB_intro (fun e=>?_) (fun e=>?_)⟩
   .exact RP.f (fun hD=>by rw[(hD _ _ x y hx hy hne hxy).2] at e;simp at e) hs.ext
   rotate_left;refine (St.refl h14).newbE fun h68 E68 hs=>⟨E68.sm,?_⟩;have hs68:h14.size<h68.size:=hc_blk (hs.rd 0 rfl (i:=0) rfl);refine hs.newbE fun h69 E69 hs=>⟨E69.sm,?_⟩;obtain⟨k1,k2⟩:=hs.put (K:=fun h'=>St h14 h' [.blk h68.size x.cs 110,.blk h14.size [.int .i64 0,.bool false,.int .i64 0,.int .i64 0,.int .i64 0,.bool false] 110]) 0 rfl (o:=0) (vs:=x.cs) (n:=6) rfl (show 6<=6 by decide) (fun h' hs=>hs);refine⟨k1,fun h70 e70=>?_⟩;have hs:=k2 h70 e70;have hB:But h68.size h69 h70:=by rw[e70];exact But.hputs (a:=⟨h68.size,0,none⟩) _ _ _
   refine⟨Sm_but hB (fun a ha=>?_),?_⟩
   .simp only[Yr,List.not_mem_nil,or_false] at ha;rcases ha with rfl | rfl | rfl
    .show b31≠h68.size;omega
    .show b28≠h68.size;omega
    .show b≠h68.size;omega
   refine hs.put 1 rfl (o:=0) (vs:=y.cs) rfl (show 6<=6 by decide) fun h71 hs=>?_;replace hs:St h h71 [.blk h68.size x.cs 110,.blk h14.size y.cs 110]:=by
    refine⟨E14.trans hs.ext,fun i hi=>⟨(hs.ok i hi).1,fun b hb=>Yys E14.1 ((hs.ok i hi).2 b hb)⟩,hs.ap⟩
   refine⟨_,_,_,_,_,_,hs.at 0 rfl (o:=0) (n:=6) rfl,_,_,_,_,_,_,hs.at 1 rfl (o:=0) (n:=6) rfl,?_⟩;refine (M.of63 x _).mono ?_;rintro _ h59 ⟨rfl,E1⟩;have hs:=hs.step E1;refine⟨_,_,_,rfl,E1.sm,?_⟩;refine (M.of63 y h59).mono ?_;rintro _ h64 ⟨rfl,E2⟩;have hs:=hs.step E2;refine⟨_,_,_,rfl,E2.sm,?_⟩;refine sB_intro (fun d=>?_) (fun d=>?_)
   .have d':x.ev=y.ev:=Yyn ((evEq x.ev y.ev).symm.trans d);exact RP.f (fun hD=>(hD _ _ x y hx hy hne hxy).1 d') hs.ext
   have d':x.ev≠y.ev:=Yyo ((evEq x.ev y.ev).symm.trans d);refine⟨_,hs.rd 0 rfl rfl,_,hs.rd 1 rfl rfl,sB_intro (fun e=>?_) (fun e=>?_)⟩
   .exact RP.f (fun hD=>by rw[(hD _ _ x y hx hy hne hxy).2] at e;simp at e) hs.ext
   all_goals
    have e':x.send=y.send:=by simpa using e
    refine⟨_,by omega,j+1,by rw[w64 (by omega) (by omega)];omega,by omega,by omega,rfl,hs.ext,fun k a b hk ha hb=>?_⟩;by_cases ek:k+1=j
    .have ek':k=j-1:=by omega
     subst ek';rw[ha] at gi;cases gi;rw[show j-1+1=j by omega] at hb;rw[hb] at gj;cases gj;rw[evI_of hx,evI_of hy];exact⟨d',e'⟩
    .exact hq k a b (by omega) ha hb
  .replace c1:(qs v).n<=j:=by have:=Yyo c1;omega
   refine Up.next c (by omega) ⟨E14,fun v' hv'=>?_⟩;by_cases e:v'=v
   .subst e;exact fun k a b ha hb=>hq k a b (by have:=(Ya.1 hb).1;omega) ha hb
   .exact hQ v' (by omega)
 .replace c:=lt_f c;refine RP.t (fun i1 k1 x y hx hy hne hf=>?_) E6;have hxr:=hN.mv x (Yb hx);have hv:x.f.toNat<m.n.toNat:=by omega
  have hS:=hT.so x.f.toNat hv;have hA:=hQ x.f.toNat (by omega);have hfi:((x.f.toNat:Nat):Int)=x.f:=by omega
  have m1:i1∈S x.f.toNat:=hS.p.mem_iff.2 (outIx_mem.2 ⟨x,hx,hfi.symm⟩);have m2:k1∈S x.f.toNat:=hS.p.mem_iff.2 (outIx_mem.2 ⟨y,hy,by omega⟩);obtain⟨a,ha⟩:=Yf.1 m1;obtain⟨c,hc⟩:=Yf.1 m2;have hne2:a≠c:=fun e=>by subst e;rw[ha] at hc;cases hc;exact hne rfl
  have hlt:=srt_lt hS (fun j a b h1 h2=>(hA j a b h1 h2).1);rw[<-evI_of hx,<-evI_of hy];constructor
  .rcases Nat.lt_or_gt_of_ne hne2 with h1 | h1
   .have:=hlt c a i1 k1 h1 ha hc;exact fun e=>by rw[e] at this;exact evLt_irr _ this
   .have:=hlt a c k1 i1 h1 hc ha;exact fun e=>by rw[e] at this;exact evLt_irr _ this
  .obtain⟨z,hz⟩:=get_some (l:=S x.f.toNat) (i:=0) (by have:=(Ya.1 ha).1;omega);have hs:=srt_send (m:=m) (l:=S x.f.toNat) (fun j a b h1 h2=>(hA j a b h1 h2).2);have e1:=hs a z i1 hz ha;have e2:=hs c z k1 hz hc;have e3:(evI m i1).send=(evI m k1).send:=e1.symm.trans e2;rw[evI_of hx,evI_of hy] at e3;exact e3
def meds (m:Mch):List Ed:=m.mv.map fun x=>⟨x.f,0,0,0,x.t,false⟩
theorem meds_q {m:Mch} {n:Nat} {b:Int}:b∈quietL (meds m) (-1) n ↔ ∃x∈m.mv,x.f=(n:Int)/\x.t=b:=by
 rw[quietL_mem];constructor
 .rintro⟨e,he,_,hf,ht⟩;obtain⟨x,hx,rfl⟩:=Yp.1 he;exact⟨x,hx,hf,ht⟩
 .rintro⟨x,hx,hf,ht⟩;exact⟨_,Yp.2 ⟨x,hx,rfl⟩,rfl,hf,ht⟩
def RchM (m:Mch):Prop:=∀v:Int,0<=v->v<m.n->Qr (meds m) (-1) [m.s] v
theorem reached99 (m:Mch) (sf sm sl:Sl) (b:Nat) (S:Nat->List Nat) (h:Heap) (hM:MI h m sf sm sl) (hN:NumM m) (hT:TbI h ⟨b,0,none⟩ m sf sm sl S) :
  Fn Pz 184 #[.pointer (some ⟨b,0,none⟩)] h (RP (RchM m) h):=by
 apply vc184;unfold W184;obtain⟨ho,qs,_,hat,hhn,hho,hqs⟩:=hT.ex;have hmn:=hM.pm.ln;have hmm:=hM.pm.sm;have hn:=hN.n;have hsn:=hN.s;refine⟨_,hat.nth 1 rfl,⟨by omega,by omega,by omega⟩,?_⟩;rw[made4];refine (St.refl h).newb fun h2' hs=>?_;refine⟨_,(atC_ext hs.ext hat).nth 2 rfl,⟨by omega,by omega⟩,?_⟩;have e0:0+Int.toNat m.s*1=m.s.toNat:=by omega
 rw[e0];refine hs.put 0 rfl (o:=m.s.toNat) (vs:=[.bool true]) rfl (by rw[Yc,Yg,Yv];omega) fun h4 hs=>?_;rw[map_splice _ (by rw[Yg];omega)] at hs;refine⟨_,(atC_ext hs.ext hat).nth 2 rfl,?_⟩;refine hs.newb fun h6 hs=>?_;have hs:=hs.blkS 1 1 ([m.s].map inC) rfl (inrows _) rfl (by decide);have hC0:CL (meds m) (-1) m.n.toNat [m.s] ((List.replicate m.n.toNat false).set m.s.toNat true) [m.s]:=
  (CL.start (meds m) (-1) m.n.toNat [m.s]).push hsn.1 (by rw[List.getElem?_replicate,if_pos (by omega)]) (.base (Ye.2 rfl))
 refine⟨fun todo x h' μ=>∃(i:Nat) (D:List Bool) (T:List Int),x=i/\μ=m.n.toNat-i/\i<=T.length/\St h h' [.sl todo 3 1 (T.map inC),.blk h.size (D.map Value.bool) 4]/\CL (meds m) (-1) m.n.toNat [m.s] D T/\m.s∈T/\∀v∈T.take i,∀b∈quietL (meds m) (-1) v.toNat,b∈T,⟨_,0,_,_,rfl,rfl,by omega,hs,hC0,Ye.2 rfl,fun v hv=>by rw[Yyk] at hv;cases hv⟩,?_⟩;clear hs hC0;rintro-todo_22 _ h24 μ ⟨i,D,T,rfl,rfl,hi,hs,hC,hlT,hcl⟩;have htl:=(hs.rows 0 rfl (by omega)).ln;have hle:=hC.le;refine sBi (fun c2=>?_) (fun c2=>?_)
 .refine⟨_,(atC_ext hs.ext hat).nth 6 rfl,?_⟩;refine (hs.rows 0 rfl (by omega)).nbI (by omega) (by omega) fun b26 o27 v g26 t26=>?_;replace g26:T[i]?=some v:=g26;have hvm:=(hC.mem v).1 (Yb g26);have hvl:v.toNat<m.n.toNat:=by have:=(Ya.1 hvm.2).1;have:=hC.len;omega
  refine⟨_,t26.hd,?_⟩;refine (hho.ext hs.ext).nbI (by omega) (by omega) fun b29 o30 k g29 t29=>?_;have hk:k=v.toNat:=by rw[Yyb hvl] at g29;exact (Yyp g29).symm
  subst hk;refine⟨_,t29.hd,?_⟩;have hiT:=(Ya.1 g26).1;have hS:=hT.so v.toNat hvl;have hrow:=hqs v.toNat hvl;have hrn:=hrow.ln;rw[show (natI (S v.toNat)).length=(S v.toNat).length from Yc _] at hrn;have hSl:(S v.toNat).length<=1048576:=by
   rw[hS.p.length_eq];unfold outIx;exact Yys (List.length_filter_le _ _) (by rw[Yyd];omega)
  refine⟨fun todo x h' μ=>∃(j:Nat) (D:List Bool) (T':List Int),x=j/\μ=(qs v.toNat).n-j/\j<=(qs v.toNat).n/\St h h' [.sl todo 3 1 (T'.map inC),.blk h.size (D.map Value.bool) 4]/\CL (meds m) (-1) m.n.toNat [m.s] D T'/\(∃R,T'=T++R)/\∀k∈(S v.toNat).take j,∀y,m.mv[k]?=some y->y.t∈T',⟨_,0,D,T,rfl,rfl,by omega,hs,hC,⟨[],by simp⟩,fun v hv=>by rw[Yyk] at hv;cases hv⟩,?_⟩;clear hs hC htl hle;rintro-todo_35 _ h37 μ ⟨j,D,T',rfl,rfl,hj,hs,hC,⟨R,rfl⟩,hcl2⟩;have htl:=(hs.rows 0 rfl (by omega)).ln;have hle:=hC.le;have hDl:=hC.len;refine sBi (fun c3=>?_) (fun c3=>?_)
  .refine (hrow.ext hs.ext).nbI (by omega) (by omega) fun b38 o39 d g38 t38=>?_;replace g38:(natI (S v.toNat))[j]?=some d:=g38;obtain⟨p1,gp,rfl⟩:=natI_get g38;obtain⟨x,hx,hxf⟩:=outIx_mem.1 (hS.p.mem_iff.1 (Yb gp));have hxl:=(Ya.1 hx).1;have hxr:=hN.mv x (Yb hx);refine⟨_,t38.hd,sm,(atC_ext hs.ext hat).nth 4 rfl,?_⟩;refine (hM.pm.rw.ext hs.ext).nbI (by omega) (by omega) fun b30 o31 x' gx t30=>?_;replace gx:m.mv[p1]?=some x':=gx;rw[hx] at gx;cases gx;refine⟨x.t,t30.nth 4 rfl,⟨by omega,by omega⟩,?_⟩;obtain⟨z,hz⟩:=get_some (l:=D) (i:=x.t.toNat) (by omega);have e1:0+Int.toNat x.t*1=x.t.toNat:=by omega
   rw[e1];refine⟨_,hs.rd 1 rfl (by rw[map_get,hz];rfl),?_⟩;refine sB_intro (fun c4=>?_) (fun c4=>?_)
   .have hzf:z=false:=bF c4;subst hzf;refine⟨⟨by omega,by omega⟩,?_⟩;refine hs.put 1 rfl (o:=x.t.toNat) (vs:=[.bool true]) rfl (by rw[Yc,Yv];omega) fun h42 hs=>?_;refine hs.app 0 rfl app42 (m:=1) [[.int .i64 x.t]] rfl rfl (by simp) rfl (by omega) (by simp only[maxLen];omega) fun s44 h45 ns44 hs=>?_;have hqr:Qr (meds m) (-1) [m.s] x.t:=.step (hC.r v (by rw[Yk];exact .inl (Yb g26))) ⟨⟨x.f,0,0,0,x.t,false⟩,Yp.2 ⟨x,Yb hx,rfl⟩,rfl,by show x.f=v;omega,rfl⟩;refine⟨_,by omega,j+1,D.set x.t.toNat true,T++R++[x.t],by rw[w64 (by omega) (by omega)];omega,rfl,by omega,?_,hC.push (by omega) hz hqr,⟨R++[x.t],by rw[Yz]⟩,fun k hk y hy=>?_⟩
    .rw[Ym,<-map_splice _ (by omega)];exact hs
    .rw[take_snoc gp,Yk,Ye] at hk;rw[Yk];rcases hk with hk | rfl
     .exact .inl (hcl2 k hk y hy)
     .rw[hx] at hy;cases hy;exact .inr (Ye.2 rfl)
   .have hzt:z=true:=bT c4;subst hzt;refine⟨_,by omega,j+1,D,T++R,by rw[w64 (by omega) (by omega)];omega,rfl,by omega,hs,hC,⟨R,rfl⟩,fun k hk y hy=>?_⟩;rw[take_snoc gp,Yk,Ye] at hk;rcases hk with hk | rfl
    .exact hcl2 k hk y hy
    .rw[hx] at hy;cases hy;exact (hC.mem _).2 ⟨by omega,hz⟩
  .have hTR:(T++R).length=T.length+R.length:=Yh;refine⟨_,by omega,i+1,D,T++R,by rw[w64 (by omega) (by omega)];omega,rfl,by rw[Yh];omega,hs,hC,List.mem_append_left _ hlT,fun v' hv'=>?_⟩;have ht1:(T++R).take (i+1)=T.take i++[v]:=by rw[Yyq (by omega),take_snoc g26]
   rw[ht1,Yk,Ye] at hv';rcases hv' with hv' | rfl
   .exact fun b hb=>List.mem_append_left _ (hcl v' hv' b hb)
   .intro b hb;obtain⟨x,hx,hxf,rfl⟩:=meds_q.1 hb;obtain⟨k,hk⟩:=Yf.1 hx;refine hcl2 k ?_ x hk;rw[Yj (by omega)];exact hS.p.mem_iff.2 (outIx_mem.2 ⟨x,hk,hxf⟩)
 .refine⟨_,(atC_ext hs.ext hat).nth 1 rfl,RP.e ?_ hs.ext⟩;have hend:=fun v=>hC.end_ (fun x hx=>by rw[Ye.1 hx];exact hlT) (fun v hv b hb=>hcl v (by rw[Yj (by omega)];exact hv) b hb) v;have hcnt:=hC.cnt;have hDl:=hC.len;have hk:(((todo_22.n:Nat):Int)==m.n)=true ↔ T.length=m.n.toNat:=by rw[beq_iff_eq];omega
  rw[hk];constructor
  .intro hTl v h0 h1;have hall:=List.count_eq_length.1 (show D.count true=D.length by omega);obtain⟨z,hz⟩:=get_some (l:=D) (i:=v.toNat) (by omega);have:=hall z (Yb hz);subst this;exact (hend v).1 ((hC.mem v).2 ⟨h0,hz⟩)
  .intro hR;have hall:D.count true=D.length:=List.count_eq_length.2 fun z hz=>by
    obtain⟨j,hj⟩:=Yf.1 hz;have hjl:=(Ya.1 hj).1;have h1:=((hC.mem (j:Int)).1 ((hend (j:Int)).2 (hR j (by omega) (by omega)))).2;rw[show ((j:Int)).toNat=j from rfl,hj] at h1;exact (Yyp h1).symm
   omega
structure AgM (m:Mch):Prop where
 s:∀x∈m.mv,x.ag=true->x.send=true
 o:∀x∈m.mv,x.ag=true->(outIx m x.f).length=1
 i:∀x∈m.mv,x.ag=true->x.f≠m.s
 f:∀x∈m.mv,x.ag=true->m.fin[x.f.toNat]?=some false
 p:∀x∈m.mv,x.ag=true->∀y∈m.mv,y.t=x.f->y.send=true/\y.label=x.label
theorem again100 (m:Mch) (sf sm sl:Sl) (b:Nat) (S:Nat->List Nat) (h:Heap) (hM:MI h m sf sm sl) (hN:NumM m) (hT:TbI h ⟨b,0,none⟩ m sf sm sl S) :
  Fn Pz 185 #[.pointer (some ⟨b,0,none⟩)] h (RP (AgM m) h):=by
 apply vc185;unfold W185;obtain⟨ho,qs,_,hat,hhn,hho,hqs⟩:=hT.ex;have hmn:=hM.pm.ln;have hmm:=hM.pm.sm;have hfn:=hM.pf.ln;have hn:=hN.n;have hfl:=hN.fl;refine⟨sm,hat.nth 4 rfl,?_⟩;refine up_loopS (n:=sm.n) (St.refl h) (fun i=>∀(j:Nat) x,j<i->m.mv[j]?=some x->x.ag=true->x.send=true/\(outIx m x.f).length=1/\x.f≠m.s/\m.fin[x.f.toNat]?=some false/\∀y∈m.mv,y.t=x.f->y.send=true/\y.label=x.label) (fun j x hj=>by omega) ?_;rintro-i h6 hi ⟨hs,hq⟩;refine sB_intro (fun c=>?_) (fun c=>?_)
 .replace c:=lt_t c;refine (hM.pm.rw.ext hs.ext).nbI (by omega) (by omega) fun b7 o8 x gx t=>?_;replace gx:m.mv[i]?=some x:=gx;have hxm:=Yb gx;have hxr:=hN.mv x hxm;refine⟨_,_,_,_,_,_,t,?_⟩;refine hs.newput (vs:=x.cs) rfl rfl fun h16 hs=>?_;refine⟨_,hs.rd 0 rfl rfl,sB_intro (fun c1=>?_) (fun c1=>?_)⟩
  .refine Up.next c (by omega) ⟨hs.drop 1,fun j z hj hz=>?_⟩;by_cases e:j=i
   .subst e;rw[gx] at hz;cases hz;exact fun ha=>by rw[ha] at c1;cases c1
   .exact hq j z (by omega) hz
  have hag:x.ag=true:=bT c1;refine⟨_,hs.rd 0 rfl rfl,sB_intro (fun c2=>RP.f (fun hG=>by rw[hG.s x hxm hag] at c2;cases c2) hs.ext) (fun c2=>?_)⟩;refine⟨ho,(atC_ext hs.ext hat).nth 6 rfl,_,hs.rd 0 rfl rfl,?_⟩;refine (hho.ext hs.ext).nbI (by omega) (by omega) fun b22 o23 v gv t22=>?_;have hvl:x.f.toNat<m.n.toNat:=by omega
  have hv:v=x.f.toNat:=by rw[Yyb hvl] at gv;exact (Yyp gv).symm
  subst hv;have hS:=hT.so x.f.toNat hvl;have hrn:=(hqs x.f.toNat hvl).ln;rw[show (natI (S x.f.toNat)).length=(S x.f.toNat).length from Yc _] at hrn;have hfi:((x.f.toNat:Nat):Int)=x.f:=by omega
  have hlen:(S x.f.toNat).length=(outIx m x.f).length:=by rw[hS.p.length_eq,hfi]
  refine⟨_,t22.hd,sBn (fun c3=>RP.f (fun hG=>by have:=hG.o x hxm hag;omega) hs.ext) (fun c3=>?_)⟩;refine⟨_,hs.rd 0 rfl rfl,_,(atC_ext hs.ext hat).nth 2 rfl,sBe (fun c4=>RP.f (fun hG=>hG.i x hxm hag c4) hs.ext) (fun c4=>?_)⟩;refine⟨sf,(atC_ext hs.ext hat).nth 3 rfl,_,hs.rd 0 rfl rfl,?_⟩;refine (hM.pf.rw.ext hs.ext).nbI (by omega) (by omega) fun b29 o30 f gf t29=>?_;refine⟨_,t29.hd,sB_intro (fun c5=>RP.f (fun hG=>by rw[hG.f x hxm hag] at gf;cases gf;cases c5) hs.ext) (fun c5=>?_)⟩;have hff:m.fin[x.f.toNat]?=some false:=by rw[gf,c5]
  refine⟨sm,(atC_ext hs.ext hat).nth 4 rfl,?_⟩;refine up_loopS (n:=sm.n) hs (fun k=>∀(j:Nat) y,j<k->m.mv[j]?=some y->y.t=x.f->y.send=true/\y.label=x.label) (fun j x hj=>by omega) ?_;clear hs;rintro-k h37 hk ⟨hs,hq2⟩;refine sB_intro (fun c6=>?_) (fun c6=>?_)
  .replace c6:=lt_t c6;refine (hM.pm.rw.ext hs.ext).nbI (by omega) (by omega) fun b38 o39 y gy t38=>?_;replace gy:m.mv[k]?=some y:=gy;have hym:=Yb gy;refine⟨_,_,_,_,_,_,t38,?_⟩;refine hs.newput (vs:=y.cs) rfl rfl fun h47 hs=>?_;refine⟨_,hs.rd 0 rfl rfl,_,hs.rd 1 rfl rfl,sBe (fun d1=>?_) (fun d1=>?_)⟩
   .refine⟨_,hs.rd 0 rfl rfl,sB_intro (fun d2=>RP.f (fun hG=>by rw[(hG.p x hxm hag y hym d1).1] at d2;cases d2) hs.ext) (fun d2=>?_)⟩;refine⟨_,hs.rd 0 rfl rfl,_,hs.rd 1 rfl rfl,sBn (fun d3=>RP.f (fun hG=>d3 (hG.p x hxm hag y hym d1).2) hs.ext) (fun d3=>?_)⟩;refine Up.next c6 (by omega) ⟨hs.drop 1,fun j z hj hz=>?_⟩;by_cases e:j=k
    .subst e;rw[gy] at hz;cases hz;exact fun _=>⟨bT d2,d3⟩
    .exact hq2 j z (by omega) hz
   .refine Up.next c6 (by omega) ⟨hs.drop 1,fun j z hj hz=>?_⟩;by_cases e:j=k
    .subst e;rw[gy] at hz;cases hz;exact fun h=>absurd h d1
    .exact hq2 j z (by omega) hz
  .replace c6:=lt_f c6;refine Up.next c (by omega) ⟨hs.drop 1,fun j z hj hz=>?_⟩;by_cases e:j=i
   .subst e;rw[gx] at hz;cases hz;refine fun _=>⟨bT c2,by omega,c4,hff,fun y hy=>?_⟩;obtain⟨p,hp⟩:=Yf.1 hy;exact hq2 p y (by have:=(Ya.1 hp).1;omega) hp
   .exact hq j z (by omega) hz
 .replace c:=lt_f c;have key:∀x∈m.mv,x.ag=true->x.send=true/\(outIx m x.f).length=1/\x.f≠m.s/\m.fin[x.f.toNat]?=some false/\∀y∈m.mv,y.t=x.f->y.send=true/\y.label=x.label:=fun x hx=>by
   obtain⟨j,hj⟩:=Yf.1 hx;exact hq j x (by have:=(Ya.1 hj).1;omega) hj
  exact RP.t ⟨fun x hx ha=>(key x hx ha).1,fun x hx ha=>(key x hx ha).2.1,fun x hx ha=>(key x hx ha).2.2.1,fun x hx ha=>(key x hx ha).2.2.2.1,fun x hx ha=>(key x hx ha).2.2.2.2⟩ hs.ext
structure TmM (m:Mch) (i:Nat) (t:To):Prop where
 o:∀z,0<i->m.li[i-1]?=some z->z.s<t.s
 k:1<=t.k/\t.k<=1000
 e:0<=t.e/\∃x,m.mv[t.e.toNat]?=some x/\x.f=t.s/\x.send=true/\x.ag=false
def TimM (m:Mch):Prop:=∀i t,m.li[i]?=some t->TmM m i t
theorem timed101 (m:Mch) (sf sm sl:Sl) (b:Nat) (S:Nat->List Nat) (h:Heap) (hM:MI h m sf sm sl) (hN:NumM m) (hT:TbI h ⟨b,0,none⟩ m sf sm sl S) :
  Fn Pz 186 #[.pointer (some ⟨b,0,none⟩)] h (RP (TimM m) h):=by
 apply vc186;unfold W186 V186a;obtain⟨ho,qs,_,hat,hhn,hho,hqs⟩:=hT.ex;have hmn:=hM.pm.ln;have hmm:=hM.pm.sm;have hln:=hM.pl.ln;have hlm:=hM.pl.sm;refine⟨sl,hat.nth 5 rfl,?_⟩;refine up_loopS (n:=sl.n) (St.refl h) (fun i=>∀(j:Nat) x,j<i->m.li[j]?=some x->TmM m j x) (fun j x hj=>by omega) ?_;rintro-i h6 hi ⟨hs,hq⟩;refine sB_intro (fun c=>?_) (fun c=>RP.t (fun j x hx=>hq j x (by have:=lt_f c;have:=(Ya.1 hx).1;omega) hx) hs.ext);replace c:=lt_t c;refine (hM.pl.rw.ext hs.ext).nbI (by omega) (by omega) fun b7 o8 x gx t=>?_;replace gx:m.li[i]?=some x:=gx;have no:∀ {q:Prop},(TmM m i x->q)->TimM m->q:=fun f hT=>f (hT i x gx);refine⟨_,_,_,t,?_⟩;refine hs.newput (vs:=x.cs) rfl rfl fun h13 hs=>?_;refine sBi (fun c1=>?_) (fun c1=>?_);have hw:IntKind.wrap .i64 ((i:Int)-1)=((i-1:Nat):Int):=by rw[w64 (by omega) (by omega)];omega
 rw[hw];refine⟨sl,(atC_ext hs.ext hat).nth 5 rfl,?_⟩;refine (hM.pl.rw.ext hs.ext).nbI (by omega) (by omega) fun b15 o16 z gz t15=>?_;replace gz:m.li[i-1]?=some z:=gz;refine⟨_,t15.nth 0 rfl,_,hs.rd 0 rfl rfl,sBi (fun d0=>RP.f (no fun hT=>by have:=hT.o z (by omega) gz;omega) hs.ext) (fun d0=>?_)⟩;have hord:∀z,0<i->m.li[i-1]?=some z->z.s<x.s:=fun z' _ hz'=>by rw[gz] at hz';cases hz';omega
 rotate_left;have hord:∀z,0<i->m.li[i-1]?=some z->z.s<x.s:=fun z' h0 _=>by omega
 all_goals
  refine⟨_,hs.rd 0 rfl rfl,sBi (fun d1=>RP.f (no fun hT=>by have:=hT.k;omega) hs.ext) (fun d1=>?_)⟩;refine⟨_,hs.rd 0 rfl rfl,sBi (fun d2=>RP.f (no fun hT=>by have:=hT.k;omega) hs.ext) (fun d2=>?_)⟩;refine⟨_,hs.rd 0 rfl rfl,sBi (fun d3=>RP.f (no fun hT=>by have:=hT.e.1;omega) hs.ext) (fun d3=>?_)⟩;refine⟨_,hs.rd 0 rfl rfl,sm,(atC_ext hs.ext hat).nth 4 rfl,sBi (fun d4=>RP.f (no fun hT=>by obtain⟨_,y,hy,_⟩:=hT.e;have:=(Ya.1 hy).1;omega) hs.ext) (fun d4=>?_)⟩;refine⟨sm,(atC_ext hs.ext hat).nth 4 rfl,_,hs.rd 0 rfl rfl,?_⟩;refine (hM.pm.rw.ext hs.ext).nbI (by omega) (by omega) fun b26 o27 y gy t26=>?_;refine⟨_,_,_,_,_,_,t26,?_⟩;intro h34 e34;refine⟨smx (by rw[e34];exact Ext.push _ _),?_⟩;refine hs.newput (zs:=[.int .i64 0,.bool false,.int .i64 0,.int .i64 0,.int .i64 0,.bool false]) (vs:=y.cs) (n:=6) (e:=110) rfl rfl (fun h35 hs=>?_) h34 e34;refine⟨_,hs.rd 0 rfl rfl,_,hs.rd 1 rfl rfl,sBn (fun d5=>RP.f (no fun hT=>by obtain⟨_,z,hz,hf,_⟩:=hT.e;rw[gy] at hz;cases hz;exact d5 hf) hs.ext) (fun d5=>?_)⟩;refine⟨_,hs.rd 0 rfl rfl,sB_intro (fun d6=>RP.f (no fun hT=>by obtain⟨_,z,hz,_,hf,_⟩:=hT.e;rw[gy] at hz;cases hz;rw[hf] at d6;cases d6) hs.ext) (fun d6=>?_)⟩;refine⟨_,hs.rd 0 rfl rfl,sB_intro (fun d7=>RP.f (no fun hT=>by obtain⟨_,z,hz,_,_,hf⟩:=hT.e;rw[gy] at hz;cases hz;rw[hf] at d7;cases d7) hs.ext) (fun d7=>?_)⟩;refine Up.next c (by omega) ⟨hs.drop 2,fun j z hj hz=>?_⟩;by_cases e:j=i
  .subst e;rw[gx] at hz;cases hz;exact⟨hord,by omega,by omega,y,gy,d5,bT d6,d7⟩
  .exact hq j z (by omega) hz
structure VM (m:Mch):Prop where
 n:NumM m
 d:DetM m
 r:RchM m
 a:AgM m
 t:TimM m
theorem open47 (m:Mch) (sf sm sl:Sl) (h:Heap) (hM:MI h m sf sm sl) :
  Fn Pz 150 #[.agg ⟨mC m sf sm sl⟩] h fun v h'=>Ext h h'/\∃(p:Option Addr) (b:Bool),v=.tuple ⟨[.pointer p,.bool b]⟩/\(b=true ↔ VM m)/\(b=true->∃c S,p=some ⟨c,0,none⟩/\TbI h' ⟨c,0,none⟩ m sf sm sl S):=by
 apply vc150 m.role m.n m.s sf sm sl;unfold W150;have no:∀ {q:Prop} {p:Option Addr} {h':Heap},Ext h h'->¬VM m->Ext h h'/\∃(p':Option Addr) (b:Bool),Value.tuple ⟨[.pointer p,.bool false]⟩=.tuple ⟨[.pointer p',.bool b]⟩/\(b=true ↔ VM m)/\(b=true->∃c S,p'=some ⟨c,0,none⟩/\TbI h' ⟨c,0,none⟩ m sf sm sl S):=fun E hn=>⟨E,_,false,rfl,iff_of_false (by decide) hn,fun e=>by cases e⟩;refine (St.refl h).newb fun h7 hs=>?_;refine⟨_,_,_,sf,sm,sl,hs.at 0 rfl (o:=0) (n:=6) rfl,?_⟩;refine (numbers96 m sf sm sl h7 (hM.ext hs.ext)).mono ?_;rintro _ h16 ⟨⟨b1,rfl,hb1⟩,E⟩;have hs:=hs.step E;refine⟨_,rfl,sB_intro (fun c=>no (q:=True) hs.ext fun hG=>iff_f hb1 (bF c) hG.n) (fun c=>?_)⟩;have hN:=hb1.1 (bT c);refine⟨_,_,_,sf,sm,sl,hs.at 0 rfl (o:=0) (n:=6) rfl,?_⟩;refine (sorted97 m sf sm sl h16 (hM.ext hs.ext) hN).mono ?_;rintro _ h25 ⟨E,b,S,rfl,hT⟩;have hs:=hs.step E;refine⟨_,rfl,?_⟩;refine (det98 m sf sm sl b S h25 (hM.ext hs.ext) hN hT).mono ?_;rintro _ h28 ⟨⟨b2,rfl,hb2⟩,E⟩;have hs:=hs.step E;have hT:=hT.ext E;refine⟨_,rfl,sB_intro (fun c2=>?_) (fun c2=>no (q:=True) hs.ext fun hG=>iff_f hb2 c2 hG.d)⟩;refine (reached99 m sf sm sl b S h28 (hM.ext hs.ext) hN hT).mono ?_;rintro _ h31 ⟨⟨b3,rfl,hb3⟩,E⟩;have hs:=hs.step E;have hT:=hT.ext E;refine⟨_,rfl,sB_intro (fun c3=>?_) (fun c3=>no (q:=True) hs.ext fun hG=>iff_f hb3 c3 hG.r)⟩;refine (again100 m sf sm sl b S h31 (hM.ext hs.ext) hN hT).mono ?_;rintro _ h34 ⟨⟨b4,rfl,hb4⟩,E⟩;have hs:=hs.step E;have hT:=hT.ext E;refine⟨_,rfl,sB_intro (fun c4=>?_) (fun c4=>no (q:=True) hs.ext fun hG=>iff_f hb4 c4 hG.a)⟩;refine (timed101 m sf sm sl b S h34 (hM.ext hs.ext) hN hT).mono ?_;rintro _ h37 ⟨⟨b5,rfl,hb5⟩,E⟩;have hs:=hs.step E;have hT:=hT.ext E;exact⟨_,rfl,hs.ext,_,_,rfl,hb5.trans ⟨fun ht=>⟨hN,hb2.1 c2,hb3.1 c3,hb4.1 c4,ht⟩,fun hG=>hG.t⟩,fun _=>⟨b,S,rfl,hT⟩⟩
theorem valid23 (m:Mch) (sf sm sl:Sl) (h:Heap) (hM:MI h m sf sm sl):Fn Pz 91 #[.agg ⟨mC m sf sm sl⟩] h (RP (VM m) h):=by
 apply vc91 m.role m.n m.s sf sm sl;unfold W91;refine (St.refl h).newb fun h7 hs=>?_;refine⟨_,_,_,sf,sm,sl,hs.at 0 rfl (o:=0) (n:=6) rfl,?_⟩;refine (open47 m sf sm sl h7 (hM.ext hs.ext)).mono ?_;rintro _ h17 ⟨E,p,b,rfl,hb,_⟩;exact⟨_,_,rfl,RP.e hb (hs.step E).ext⟩
structure MR where
 m:Mch
 f:Sl
 g:Sl
 l:Sl
def MR.cs (x:MR):List Value:=mC x.m x.f x.g x.l
structure SyI (h:Heap) (s:Sl) (L:List MR):Prop where
 r:RL h 6 s MR.cs L
 i:∀x∈L,MI h x.m x.f x.g x.l
theorem SyI.ext {h h':Heap} {s:Sl} {L:List MR} (hs:SyI h s L) (E:Ext h h'):SyI h' s L:=⟨hs.r.ext E,fun x hx=>(hs.i x hx).ext E⟩
structure SysV (L:List Mch):Prop where
 n:1<=L.length/\L.length<=6
 m:∀(p:Nat) m,L[p]?=some m->m.role=(p:Int)/\VM m/\∀x∈m.mv,x.peer<(L.length:Int)
theorem cal51:callable Pz 93=true:=by kernel_rfl
theorem index85 (L:List Mv) (s:Sl) (a:Addr) (t:Sl) (h:Heap) (hr:Rw h 6 s (L.map Mv.cs)) (hl:L.length<=1048576) (ha:hc h a=some (.slice t.a t.n t.c)) :
  Fn Pz 151 #[.slice s.a s.n s.c,.func (.func 93) #[] #[.pointer (some a)]] h fun v h'=>(∃k:Int,v=.int .i64 k/\(0<=k ↔ ∃x∈L,(t.n:Int)<=x.peer))/\Ext h h':=by
 apply vc151 s 93 (some a);unfold W151;have hn:=hr.ln;refine up_loop (n:=s.n) (fun i h'=>Ext h h'/\∀(j:Nat) (x:Mv),j<i->L[j]?=some x->¬(t.n:Int)<=x.peer) ⟨.rfl',fun j x hj=>by omega⟩ ?_;rintro-i h5 hi ⟨E,hq⟩;refine sB_intro (fun c=>?_) (fun c=>?_)
 .replace c:=lt_t c;refine (hr.ext E).nbI (by omega) (by omega) fun b6 o7 x gx t14=>?_;replace gx:L[i]?=some x:=gx;refine⟨_,_,_,_,_,_,t14,?_⟩;rw[cal51,cond_true];apply vc93 x.f x.send x.peer x.label x.t x.ag a;unfold W93;refine (St.refl h5).newb fun h7 hs=>?_;refine⟨_,hs.rd 0 rfl rfl,t,hc_ext hs.ext (hc_ext E ha),_,rfl,sBi (fun c2=>?_) (fun c2=>?_)⟩
  .exact⟨⟨_,rfl,iff_of_true (by omega) ⟨x,Yb gx,c2⟩⟩,E.trans hs.ext⟩
  .refine Up.next (by omega) (by omega) ⟨E.trans hs.ext,fun j y hj hy=>?_⟩;by_cases e:j=i
   .subst e;rw[gx] at hy;cases hy;exact c2
   .exact hq j y (by omega) hy
 .replace c:=lt_f c;refine⟨⟨_,rfl,iff_of_false (by omega) ?_⟩,E⟩;rintro⟨x,hx,hp⟩;obtain⟨j,hj⟩:=Yf.1 hx;exact hq j x (by have:=(Ya.1 hj).1;omega) hj hp
theorem any50 (L:List Mv) (s:Sl) (a:Addr) (t:Sl) (h:Heap) (hr:Rw h 6 s (L.map Mv.cs)) (hl:L.length<=1048576) (ha:hc h a=some (.slice t.a t.n t.c)) :
  Fn Pz 92 #[.slice s.a s.n s.c,.func (.func 93) #[] #[.pointer (some a)]] h (RP (∃x∈L,(t.n:Int)<=x.peer) h):=by
 apply vc92 s 93 (some a);unfold W92;refine (index85 L s a t h hr hl ha).mono ?_;rintro _ h3 ⟨⟨k,rfl,hk⟩,E⟩;exact⟨_,rfl,RP.e (by rw[decide_eq_true_eq];exact hk) E⟩
theorem valid22 (L:List MR) (s:Sl) (h:Heap) (hS:SyI h s L):Fn Pz 37 #[.slice s.a s.n s.c] h (RP (SysV (L.map MR.m)) h):=by
 apply vc37 s;unfold W37;have hn:=hS.r.ln;have hlm:(L.map MR.m).length=L.length:=Yc _;refine (St.refl h).newb fun h1 hs=>?_;refine⟨s,hs.rd 0 rfl rfl,sBi (fun c=>RP.f (fun hG=>by have:=hG.n;omega) hs.ext) (fun c1=>?_)⟩;refine⟨s,hs.rd 0 rfl rfl,sBi (fun c=>RP.f (fun hG=>by have:=hG.n;omega) hs.ext) (fun c2=>?_)⟩;refine⟨s,hs.rd 0 rfl rfl,?_⟩;refine up_loopS (n:=s.n) hs (fun i=>∀(j:Nat) (x:MR),j<i->L[j]?=some x->x.m.role=(j:Int)/\VM x.m/\∀y∈x.m.mv,y.peer<(L.length:Int)) (fun j x hj=>by omega) ?_;rintro-i h9 hi ⟨hs,hq⟩;refine sB_intro (fun c=>?_) (fun c=>?_)
 .replace c:=lt_t c;refine (hS.r.rw.ext hs.ext).nbI (by omega) (by omega) fun b o x gx t=>?_;replace gx:L[i]?=some x:=gx;have hxi:=hS.i x (Yb gx);have hmx:(L.map MR.m)[i]?=some x.m:=by rw[Yd,gx];rfl
  refine⟨_,_,_,_,_,_,t,?_⟩;refine hs.newput (vs:=mC x.m x.f x.g x.l) rfl rfl fun h19 hs=>?_;refine⟨_,hs.rd 0 rfl (i:=0) rfl,sBn (fun c=>RP.f (fun hG=>c (hG.m i x.m hmx).1) hs.ext) (fun c3=>?_)⟩;refine⟨_,_,_,x.f,x.g,x.l,hs.at 0 rfl (o:=0) (n:=6) rfl,?_⟩;refine (valid23 x.m x.f x.g x.l h19 (hxi.ext hs.ext)).mono ?_;rintro _ h29 ⟨⟨b1,rfl,hb1⟩,E⟩;have hs:=hs.step E;refine⟨_,rfl,sB_intro (fun c=>RP.f (fun hG=>iff_f hb1 (bF c) (hG.m i x.m hmx).2.1) hs.ext) (fun c4=>?_)⟩;refine⟨x.g,hs.rd 0 rfl (i:=4) rfl,?_⟩;refine (any50 x.m.mv x.g ⟨h.size,0,none⟩ s h29 (hxi.ext hs.ext).pm.rw hxi.pm.sm (hs.rd 1 rfl rfl)).mono ?_;rintro _ h33 ⟨⟨b2,rfl,hb2⟩,E⟩;have hs:=hs.step E;refine⟨_,rfl,sB_intro (fun c=>RP.f (fun hG=>?_) hs.ext) (fun c5=>?_)⟩
  .obtain⟨y,hy,hp⟩:=hb2.1 c;have:=(hG.m i x.m hmx).2.2 y hy;omega
  .refine Up.next (by omega) (by omega) ⟨hs.drop 1,fun j y hj hy=>?_⟩;by_cases e:j=i
   .subst e;rw[gx] at hy;cases hy;refine⟨c3,hb1.1 (bT c4),fun z hz=>?_⟩;have:¬(s.n:Int)<=z.peer:=fun hp=>by rw[hb2.2 ⟨z,hz,hp⟩] at c5;cases c5
    omega
   .exact hq j y (by omega) hy
 .replace c:=lt_f c;refine RP.t ⟨by omega,fun p m hm=>?_⟩ hs.ext;rw[Yd] at hm;obtain⟨x,hx,rfl⟩:=Yya.1 hm;rw[hlm];exact hq p x (by have:=(Ya.1 hx).1;omega) hx
structure Bx where
 s:Sl
 l:List Int
def Bx.cs (q:Bx):List Value:=slC q.s
def Bx.it (q:Bx):It:=.sl q.s 3 1 (q.l.map inC)
structure CfI (h:Heap) (ss sb:Sl) (S:List Int) (B:List Bx):Prop where
 s:RL h 1 ss inC S
 b:RL h 1 sb Bx.cs B
 i:∀q∈B,RL h 1 q.s inC q.l
theorem CfI.ext {h h':Heap} {ss sb:Sl} {S:List Int} {B:List Bx} (hs:CfI h ss sb S B) (E:Ext h h'):CfI h' ss sb S B:=⟨hs.s.ext E,hs.b.ext E,fun x hx=>(hs.i x hx).ext E⟩
structure PropS (L:List Mch) (k:Int) (S:List Int) (B:List (List Int)):Prop where
 s:S.length=L.length
 b:B.length=L.length*L.length
 st:∀(p:Nat) s m,S[p]?=some s->L[p]?=some m->0<=s/\s<m.n
 bx:∀(i:Nat) b,B[i]?=some b->(b.length:Int)<=k/\(i/L.length=i%L.length->b=[])/\∀x∈b,0<=x/\x<40
theorem cal91:callable Pz 157=true:=by kernel_rfl
theorem index130 (L:List Int) (s:Sl) (h:Heap) (hr:Rw h 1 s (L.map inC)) (hl:L.length<=1048576) :
  Fn Pz 187 #[.slice s.a s.n s.c,.func (.func 157) #[] #[]] h fun v h'=>(∃k:Int,v=.int .i64 k/\(0<=k ↔ ¬∀x∈L,0<=x/\x<40))/\Ext h h':=by
 apply vc187 s 157;unfold W187;have hn:=hr.ln;refine up_loop (n:=s.n) (fun i h'=>Ext h h'/\∀(j:Nat) (x:Int),j<i->L[j]?=some x->0<=x/\x<40) ⟨.rfl',fun j x hj=>by omega⟩ ?_;rintro-i h5 hi ⟨E,hq⟩;refine sB_intro (fun c=>?_) (fun c=>?_)
 .replace c:=lt_t c;refine (hr.ext E).nbI (by omega) (by omega) fun b6 o7 x gx t14=>?_;replace gx:L[i]?=some x:=gx;refine⟨_,t14.hd,?_⟩;rw[cal91,cond_true];apply vc157 x;unfold W157;have hm:=Yb gx;refine sBi (fun c2=>⟨_,rfl,sB_t rfl ⟨⟨_,rfl,iff_of_true (by omega) fun hall=>by have:=hall x hm;omega⟩,E⟩⟩) (fun c2=>⟨_,rfl,sBi (fun c3=>?_) (fun c3=>?_)⟩)
  .exact⟨⟨_,rfl,iff_of_true (by omega) fun hall=>by have:=hall x hm;omega⟩,E⟩
  .refine Up.next (by omega) (by omega) ⟨E,fun j y hj hy=>?_⟩;by_cases e:j=i
   .subst e;rw[gx] at hy;cases hy;omega
   .exact hq j y (by omega) hy
 .replace c:=lt_f c;refine⟨⟨_,rfl,iff_of_false (by omega) fun hall=>hall fun x hx=>?_⟩,E⟩;obtain⟨j,hj⟩:=Yf.1 hx;exact hq j x (by have:=(Ya.1 hj).1;omega) hj
theorem any90 (L:List Int) (s:Sl) (h:Heap) (hr:Rw h 1 s (L.map inC)) (hl:L.length<=1048576) :
  Fn Pz 156 #[.slice s.a s.n s.c,.func (.func 157) #[] #[]] h (RP (¬∀x∈L,0<=x/\x<40) h):=by
 apply vc156 s 157;unfold W156;refine (index130 L s h hr hl).mono ?_;rintro _ h3 ⟨⟨k,rfl,hk⟩,E⟩;exact⟨_,rfl,RP.e (by rw[decide_eq_true_eq];exact hk) E⟩
theorem capacity53 (k:Int) (h:Heap):Fn Pz 111 #[.int .i64 k] h (RP (1<=k/\k<=4) h):=by
 apply vc111 k;unfold W111;exact sBi (fun c=>RP.e (by rw[decide_eq_true_eq];omega) .rfl') (fun c=>RP.f (by omega) .rfl')
theorem tdiv_nat (a n:Nat):Int.tdiv (a:Int) (n:Int)=((a/n:Nat):Int):=rfl
theorem tmod_nat (a n:Nat):Int.tmod (a:Int) (n:Int)=((a%n:Nat):Int):=rfl
theorem sq6 {n:Nat} (h:n<=6):n*n<=36:=Nat.mul_le_mul h h
theorem proper54 (L:List MR) (s:Sl) (k:Int) (ss sb:Sl) (S:List Int) (B:List Bx) (h:Heap) (hS:SyI h s L) (hV:SysV (L.map MR.m)) (hC:CfI h ss sb S B) :
  Fn Pz 112 #[.slice s.a s.n s.c,.int .i64 k,.agg ⟨[.slice ss.a ss.n ss.c,.slice sb.a sb.n sb.c]⟩] h (RP (PropS (L.map MR.m) k S (B.map Bx.l)) h):=by
 apply vc112 s k ss sb;unfold W112;have hn:=hS.r.ln;have hsn:=hC.s.ln;have hbn:=hC.b.ln;have hlm:(L.map MR.m).length=L.length:=Yc _;have hbm:(B.map Bx.l).length=B.length:=Yc _;have hV6:=hV.n;rw[hlm] at hV6;have h36:=sq6 hV6.2;have hsq:(s.n:Int)*(s.n:Int)=((L.length*L.length:Nat):Int):=by rw[hn];rfl
 refine (St.refl h).newb fun h3 hs=>?_;refine⟨ss,hs.rd 0 rfl rfl,sBn (fun c=>RP.f (fun hG=>by have:=hG.s;rw[hlm] at this;omega) hs.ext) (fun c1=>?_)⟩;refine⟨sb,hs.rd 0 rfl (i:=1) rfl,?_⟩;rw[hsq,w64 (n:=((L.length*L.length:Nat):Int)) (by omega) (by omega)];refine sBn (fun c=>RP.f (fun hG=>by have:=hG.b;rw[hlm,hbm] at this;omega) hs.ext) (fun c2=>?_);refine⟨ss,hs.rd 0 rfl rfl,?_⟩;refine up_loopS (n:=ss.n) hs (fun i=>∀(j:Nat) (x:Int) m,j<i->S[j]?=some x->(L.map MR.m)[j]?=some m->0<=x/\x<m.n) (fun j x m hj=>by omega) ?_;rintro-i h11 hi ⟨hs,hq⟩;refine sB_intro (fun c=>?_) (fun c=>?_)
 .replace c:=lt_t c;refine (hC.s.rw.ext hs.ext).nbI (by omega) (by omega) fun b o x gx t=>?_;replace gx:S[i]?=some x:=gx;obtain⟨y,gy⟩:=get_some (l:=L) (i:=i) (by omega);have gm:(L.map MR.m)[i]?=some y.m:=by rw[Yd,gy];rfl
  refine⟨_,t.hd,sBi (fun c3=>RP.f (fun hG=>by have:=hG.st i x y.m gx gm;omega) hs.ext) (fun c3=>?_)⟩;refine (hS.r.rw.ext hs.ext).nbI (by omega) (by omega) fun b2 o2 y' gy' t2=>?_;replace gy':L[i]?=some y':=gy';rw[gy] at gy';cases gy';refine⟨_,t2.nth 1 rfl,sBi (fun c4=>RP.f (fun hG=>by have:=hG.st i x y.m gx gm;omega) hs.ext) (fun c4=>?_)⟩;refine Up.next (by omega) (by omega) ⟨hs,fun j x' m' hj hx' hm'=>?_⟩;by_cases e:j=i
  .subst e;rw[gx] at hx';rw[gm] at hm';cases hx';cases hm';omega
  .exact hq j x' m' (by omega) hx' hm'
 .replace c:=lt_f c;refine⟨sb,hs.rd 0 rfl (i:=1) rfl,?_⟩;refine up_loopS (n:=sb.n) hs (fun i=>∀(j:Nat) (q:Bx),j<i->B[j]?=some q->(q.l.length:Int)<=k/\(j/L.length=j%L.length->q.l=[])/\∀x∈q.l,0<=x/\x<40) (fun j x hj=>by omega) ?_;rintro-i2 h24 hi2 ⟨hs,hq2⟩;refine sB_intro (fun d=>?_) (fun d=>?_)
  .replace d:=lt_t d;refine (hC.b.rw.ext hs.ext).nbI (by omega) (by omega) fun b o q gq t=>?_;replace gq:B[i2]?=some q:=gq;have gl:(B.map Bx.l)[i2]?=some q.l:=by rw[Yd,gq];rfl
   have hqi:=hC.i q (Yb gq);have hql:=hqi.ln;refine⟨q.s,t.hd,sBi (fun c5=>RP.f (fun hG=>by have:=(hG.bx i2 q.l gl).1;omega) hs.ext) (fun c5=>⟨by omega,by omega,?_⟩)⟩;have hdl:=Nat.div_le_self i2 L.length;have hd1:(0:Int)<=((i2/L.length:Nat):Int):=Int.natCast_nonneg _;have hd2:((i2/L.length:Nat):Int)<=(i2:Int):=Int.ofNat_le.2 hdl;rw[hn,tdiv_nat,tmod_nat,w64 (n:=((i2/L.length:Nat):Int)) (by omega) (by omega)];have go:∀ {h25:Heap},Ext h24 h25->(i2/L.length=i2%L.length->q.l=[])->St h h25 [.blk h.size [.slice ss.a ss.n ss.c,.slice sb.a sb.n sb.c] 52]->Fn Pz 156 #[.slice q.s.a q.s.n q.s.c,.func (.func 157) #[] #[]] h25 (RP (¬∀x∈q.l,0<=x/\x<40) h25):=fun _ _ hs=>any90 q.l q.s _ (hqi.rw.ext hs.ext) hqi.sm;have fin:∀ {h34:Heap} {b1:Bool},(i2/L.length=i2%L.length->q.l=[])->St h h34 [.blk h.size [.slice ss.a ss.n ss.c,.slice sb.a sb.n sb.c] 52]->(b1=true ↔ ¬∀x∈q.l,0<=x/\x<40)->sB b1 (RP (PropS (L.map MR.m) k S (B.map Bx.l)) h (.bool false) h34) (∃m35,m35<sb.n-i2/\Up sb.n (fun i h'=>St h h' [.blk h.size [.slice ss.a ss.n ss.c,.slice sb.a sb.n sb.c] 52]/\∀(j:Nat) (q:Bx),j<i->B[j]?=some q->(q.l.length:Int)<=k/\(j/L.length=j%L.length->q.l=[])/\∀x∈q.l,0<=x/\x<40) (IntKind.wrap .i64 ((i2:Int)+1)) h34 m35):=fun hd hs hb=>by
    refine sB_intro (fun c6=>RP.f (fun hG=>hb.1 c6 (hG.bx i2 q.l gl).2.2) hs.ext) (fun c6=>?_);refine Up.next (by omega) (by omega) ⟨hs,fun j q' hj hq'=>?_⟩;by_cases e:j=i2
    .subst e;rw[gq] at hq';cases hq';refine⟨by omega,hd,Classical.byContradiction fun hn=>?_⟩;rw[hb.2 hn] at c6;cases c6
    .exact hq2 j q' (by omega) hq'
   refine sBe (fun c7=>?_) (fun c7=>?_)
   .refine sBi (fun c8=>RP.f (fun hG=>?_) hs.ext) (fun c8=>?_)
    .have:=(hG.bx i2 q.l gl).2.1 (by rw[hlm];exact Int.ofNat_inj.1 c7);rw[this] at hql;simp only[List.length_nil] at hql;omega
    .have hd:i2/L.length=i2%L.length->q.l=[]:=fun _=>List.eq_nil_of_length_eq_zero (by omega);refine (go .rfl' hd hs).mono ?_;rintro _ h30 ⟨⟨b1,rfl,hb1⟩,E⟩;exact⟨_,rfl,fin hd (hs.step E) hb1⟩
   .have hd:i2/L.length=i2%L.length->q.l=[]:=fun e=>absurd (by rw[e]) c7;refine (go .rfl' hd hs).mono ?_;rintro _ h30 ⟨⟨b1,rfl,hb1⟩,E⟩;exact⟨_,rfl,fin hd (hs.step E) hb1⟩
  .replace d:=lt_f d;refine RP.t ⟨by omega,by rw[hbm,hlm,<-hbn];exact Int.ofNat_inj.1 c2,fun p x m hx hm=>?_,fun j b hb=>?_⟩ hs.ext
   .exact hq p x m (by have:=(Ya.1 hx).1;omega) hx hm
   .rw[Yd] at hb;obtain⟨q,gq,rfl⟩:=Yya.1 hb;rw[hlm];exact hq2 j q (by have:=(Ya.1 gq).1;omega) gq
structure ProS (L:List Mch) (k:Int) (S:List Int) (B:List (List Int)):Prop where
 v:SysV L
 c:1<=k/\k<=4
 p:PropS L k S B
theorem proper24 (L:List MR) (s:Sl) (k:Int) (ss sb:Sl) (S:List Int) (B:List Bx) (h:Heap) (hS:SyI h s L) (hC:CfI h ss sb S B) :
  Fn Pz 56 #[.slice s.a s.n s.c,.int .i64 k,.agg ⟨[.slice ss.a ss.n ss.c,.slice sb.a sb.n sb.c]⟩] h (RP (ProS (L.map MR.m) k S (B.map Bx.l)) h):=by
 apply vc56 s k ss sb;unfold W56;refine (St.refl h).newb fun h3 hs=>?_;refine (valid22 L s h3 (hS.ext hs.ext)).mono ?_;rintro _ h6 ⟨⟨b1,rfl,hb1⟩,E⟩;have hs:=hs.step E;refine⟨_,rfl,sB_intro (fun c1=>?_) (fun c1=>RP.f (fun hG=>iff_f hb1 c1 hG.v) hs.ext)⟩;refine (capacity53 k h6).mono ?_;rintro _ h9 ⟨⟨b2,rfl,hb2⟩,E⟩;have hs:=hs.step E;refine⟨_,rfl,sB_intro (fun c2=>?_) (fun c2=>RP.f (fun hG=>iff_f hb2 c2 hG.c) hs.ext)⟩;refine⟨ss,sb,hs.at 0 rfl (o:=0) (n:=2) rfl,?_⟩;refine (proper54 L s k ss sb S B h9 (hS.ext hs.ext) (hb1.1 c1) (hC.ext hs.ext)).mono ?_;rintro _ h14 ⟨⟨b3,rfl,hb3⟩,E⟩;have hs:=hs.step E;exact⟨_,rfl,RP.e (hb3.trans ⟨fun hp=>⟨hb1.1 c1,hb2.1 c2,hp⟩,fun hp=>hp.p⟩) hs.ext⟩

structure FewM (m:Mch):Prop where
 n:m.n<=40
 f:m.fin.length<=45
 q:m.mv.length<=80
 l:m.li.length<=45
theorem few13 (m:Mch) (sf sm sl:Sl) (h:Heap) (hM:MI h m sf sm sl):Fn Pz 35 #[.agg ⟨mC m sf sm sl⟩] h (RP (FewM m) h):=by
 apply vc35 m.role m.n m.s sf sm sl;unfold W35;have hfn:=hM.pf.ln;have hmn:=hM.pm.ln;have hln:=hM.pl.ln;refine (St.refl h).newb fun h7 hs=>?_;refine⟨_,hs.rd 0 rfl rfl,sBi (fun c1=>?_) (fun c1=>RP.f (fun hG=>by have:=hG.n;omega) hs.ext)⟩;refine⟨sf,hs.rd 0 rfl rfl,sBi (fun c2=>?_) (fun c2=>RP.f (fun hG=>by have:=hG.f;omega) hs.ext)⟩;refine⟨sm,hs.rd 0 rfl rfl,sBi (fun c3=>?_) (fun c3=>RP.f (fun hG=>by have:=hG.q;omega) hs.ext)⟩;refine⟨sl,hs.rd 0 rfl rfl,RP.e ?_ hs.ext⟩;rw[decide_eq_true_eq];exact⟨fun c4=>⟨c1,by omega,by omega,by omega⟩,fun hG=>by have:=hG.l;omega⟩

structure FewC (L:List Mch) (S:List Int) (B:List (List Int)):Prop where
 m:∀x∈L,FewM x
 b:∀b∈B,b.length<=10
 n:L.length<=7/\S.length<=10/\B.length<=50
theorem fewC13 (L:List MR) (s:Sl) (ss sb:Sl) (S:List Int) (B:List Bx) (h:Heap) (hS:SyI h s L) (hC:CfI h ss sb S B) :
  Fn Pz 10 #[.slice s.a s.n s.c,.agg ⟨[.slice ss.a ss.n ss.c,.slice sb.a sb.n sb.c]⟩] h (RP (FewC (L.map MR.m) S (B.map Bx.l)) h):=by
 apply vc10 s ss sb;unfold W10;have hn:=hS.r.ln;have hnm:=hS.r.sm;have hsn:=hC.s.ln;have hbn:=hC.b.ln;have hbm:=hC.b.sm;have hlm:(L.map MR.m).length=L.length:=Yc _;have hlb:(B.map Bx.l).length=B.length:=Yc _;refine (St.refl h).newb fun h3 hs=>?_;refine up_loopS (n:=s.n) hs (fun i=>∀(j:Nat) (x:MR),j<i->L[j]?=some x->FewM x.m) (fun j x hj=>by omega) ?_;rintro-i h8 hi ⟨hs,hq⟩;refine sB_intro (fun c=>?_) (fun c=>?_)
 .replace c:=lt_t c;refine (hS.r.rw.ext hs.ext).nbI (by omega) (by omega) fun b o x gx t=>?_;replace gx:L[i]?=some x:=gx;have hxm:=Yb gx;refine⟨_,_,_,_,_,_,t,?_⟩;refine (few13 x.m x.f x.g x.l h8 ((hS.i x hxm).ext hs.ext)).mono ?_;rintro _ h19 ⟨⟨b1,rfl,hb1⟩,E⟩;have hs:=hs.step E;refine⟨_,rfl,sB_intro (fun c=>RP.f (fun hG=>iff_f hb1 (bF c) (hG.m x.m (List.mem_map_of_mem hxm))) hs.ext) (fun c2=>?_)⟩;refine Up.next (by omega) (by omega) ⟨hs,fun j y hj hy=>?_⟩;by_cases e:j=i
  .subst e;rw[gx] at hy;cases hy;exact hb1.1 (bT c2)
  .exact hq j y (by omega) hy
 .replace c:=lt_f c;refine up_loopS (n:=sb.n) hs (fun i=>∀(j:Nat) (q:Bx),j<i->B[j]?=some q->q.l.length<=10) (fun j x hj=>by omega) ?_;rintro-k h25 hk ⟨hs,hq2⟩;refine⟨sb,hs.rd 0 rfl (i:=1) rfl,sB_intro (fun d=>?_) (fun d=>?_)⟩
  .replace d:=lt_t d;refine⟨sb,hs.rd 0 rfl (i:=1) rfl,?_⟩;refine (hC.b.rw.ext hs.ext).nbI (by omega) (by omega) fun b o q gq t=>?_;replace gq:B[k]?=some q:=gq;have hqm:=Yb gq;have hql:=(hC.i q hqm).ln;refine⟨q.s,t.hd,sBi (fun c5=>RP.f (fun hG=>by have:=hG.b q.l (List.mem_map_of_mem hqm);omega) hs.ext) (fun c5=>?_)⟩;refine Up.next (by omega) (by omega) ⟨hs,fun j y hj hy=>?_⟩;by_cases e:j=k
   .subst e;rw[gq] at hy;cases hy;omega
   .exact hq2 j y (by omega) hy
  .replace d:=lt_f d;refine sBi (fun c1=>?_) (fun c1=>RP.f (fun hG=>by have:=hG.n;omega) hs.ext);refine⟨ss,hs.rd 0 rfl rfl,sBi (fun c2=>?_) (fun c2=>RP.f (fun hG=>by have:=hG.n;omega) hs.ext)⟩;refine⟨sb,hs.rd 0 rfl (i:=1) rfl,RP.e ?_ hs.ext⟩;rw[decide_eq_true_eq];refine⟨fun c3=>⟨fun x hx=>?_,fun b hb=>?_,by omega⟩,fun hG=>by have:=hG.n;omega⟩
   .obtain⟨y,hy,rfl⟩:=Yp.1 hx;obtain⟨j,hj⟩:=Yf.1 hy;exact hq j y (by have:=(Ya.1 hj).1;omega) hj
   .obtain⟨y,hy,rfl⟩:=Yp.1 hb;obtain⟨j,hj⟩:=Yf.1 hy;exact hq2 j y (by have:=(Ya.1 hj).1;omega) hj
def cfA (ss sb:Sl):Value:=.agg ⟨[.slice ss.a ss.n ss.c,.slice sb.a sb.n sb.c]⟩
theorem CfI.none_ {h:Heap}:CfI h ⟨none,0,0⟩ ⟨none,0,0⟩ [] []:=⟨⟨Rw.nil,Yyt _,fun _=>⟨rfl,rfl⟩,Nat.zero_le _⟩,⟨Rw.nil,Yyt _,fun _=>⟨rfl,rfl⟩,Nat.zero_le _⟩,fun q hq=>by cases hq⟩
def startS (L:List Mch):List Int:=L.map fun m=>m.s
def startB (L:List Mch):List (List Int):=List.replicate (L.length*L.length) []
def bx0:Bx:=⟨⟨none,0,0⟩,[]⟩
theorem bxrows (B:List Bx):∀r∈B.map Bx.cs,r.length=1:=fun r hr=>by obtain⟨x,_,rfl⟩:=Yp.1 hr;rfl
theorem inrows' (L:List Int):∀r∈L.map inC,r.length=1:=fun r hr=>by obtain⟨x,_,rfl⟩:=Yp.1 hr;rfl
def Bx.itq (q:Bx):It:=.q q.s 3 1 (q.l.map inC)
structure CfM (A:List It) (ss sb:Sl) (S:List Int) (B:List Bx):Prop where
 s:It.sl ss 3 1 (S.map inC)∈A
 b:It.sl sb 25 1 (B.map Bx.cs)∈A
 i:∀q∈B,q=bx0\/q.it∈A\/q.itq∈A
 n:S.length<=1048576/\B.length<=1048576/\∀q∈B,q.l.length<=1048576
theorem CfM.mono {A A':List It} {ss sb:Sl} {S:List Int} {B:List Bx} (h:CfM A ss sb S B) (hA:∀i∈A,i∈A'):CfM A' ss sb S B:=⟨hA _ h.s,hA _ h.b,fun q hq=>(h.i q hq).imp id (Or.imp (hA _) (hA _)),h.n⟩
theorem CfM.cfi {h0 h:Heap} {A:List It} {ss sb:Sl} {S:List Int} {B:List Bx} (hs:St h0 h A) (hM:CfM A ss sb S B):CfI h ss sb S B:=by
 obtain⟨k,hk⟩:=Yf.1 hM.s;obtain⟨k',hk'⟩:=Yf.1 hM.b;have l1:=hs.len k hk (by omega);have l2:=hs.len k' hk' (by omega);refine⟨⟨hs.rows k hk (by omega),l1.2.1,l1.2.2,hM.n.1⟩,⟨hs.rows k' hk' (by omega),l2.2.1,l2.2.2,hM.n.2.1⟩,fun q hq=>?_⟩;rcases hM.i q hq with rfl | hi | hi
 .exact⟨Rw.nil,Yyt _,fun _=>⟨rfl,rfl⟩,Nat.zero_le _⟩
 .obtain⟨j,hj⟩:=Yf.1 hi;have l3:=hs.len j hj (by omega);exact⟨hs.rows j hj (by omega),l3.2.1,l3.2.2,hM.n.2.2 q hq⟩
 .obtain⟨j,hj⟩:=Yf.1 hi;have l3:=hs.qlen j hj;refine⟨hs.qrw j hj (by omega),l3.2,fun ha=>?_,hM.n.2.2 q hq⟩;rcases (hs.get hj).1.2 with ⟨_,h2,h3⟩ | ⟨g,o,cur,hb,_⟩
  .exact⟨h2,h3⟩
  .rw[ha] at hb;cases hb
theorem CfM.none_:CfM [.sl ⟨none,0,0⟩ 3 1 [],.sl ⟨none,0,0⟩ 25 1 []] ⟨none,0,0⟩ ⟨none,0,0⟩ [] []:=⟨Yx,Yn _ Yx,fun q hq=>(by cases hq),Nat.zero_le _,Nat.zero_le _,fun q hq=>(by cases hq)⟩
end Go.VC
end

section
namespace Go.VC
open Go.Proofs Go.LexS
def stC (p:Int) (k:Nat):List Value:=[.int .i64 p,.int .i64 (k:Int)]
variable [Mono]
namespace M
theorem side118 (x:Mv) (h:Heap):Fn Pz 161 #[.agg ⟨x.cs⟩] h fun v h'=>v=.int .i64 (sideM x)/\Ext h h':=by
 apply vc161 x.f x.send x.peer x.label x.t x.ag;unfold W161;refine (St.refl h).newb fun h7 hs=>?_;refine⟨_,hs.rd 0 rfl rfl,?_⟩;unfold sideM;refine sB_intro (fun c=>?_) (fun c=>?_)
 .exact⟨by rw[if_pos c],hs.ext⟩
 .exact⟨by rw[if_neg (by rw[c];simp)],hs.ext⟩
theorem order82 (x y:Mv) (h:Heap):Fn Pz 117 #[.agg ⟨x.cs⟩,.agg ⟨y.cs⟩] h fun v h'=>v=.int .i64 (cmpE x.ev y.ev)/\Ext h h':=by
 apply vc117 x.f x.send x.peer x.label x.t x.ag y.f y.send y.peer y.label y.t y.ag;unfold W117;refine (St.refl h).newb fun h13 hs=>?_;refine hs.newb fun h14 hs=>?_;refine⟨_,_,_,_,_,_,hs.at 1 rfl (o:=0) (n:=6) rfl,_,_,_,_,_,_,hs.at 0 rfl (o:=0) (n:=6) rfl,_,hs.rd 1 rfl rfl,_,hs.rd 0 rfl rfl,_,hs.rd 1 rfl rfl,_,hs.rd 0 rfl rfl,?_⟩;refine (side118 x _).mono ?_;rintro _ h33 ⟨rfl,E1⟩;refine⟨_,rfl,Sm_ext E1,?_⟩;have hs:=hs.step E1;refine (side118 y _).mono ?_;rintro _ h36 ⟨rfl,E2⟩;refine⟨_,rfl,Sm_ext E2,?_⟩;have hs:=hs.step E2;refine (cmp110 _ _ _).mono ?_;rintro _ _ ⟨rfl,rfl⟩;refine⟨_,rfl,fun _ _ _ _ hv=>hv,?_⟩;refine (cmp110 _ _ _).mono ?_;rintro _ _ ⟨rfl,rfl⟩;refine⟨_,rfl,fun _ _ _ _ hv=>hv,?_⟩;refine (cmp110 _ _ _).mono ?_;rintro _ _ ⟨rfl,rfl⟩;refine⟨_,rfl,fun _ _ _ _ hv=>hv,?_⟩;refine hs.newb fun h46 hs=>?_;have hs2:=hs.blkS 3 1 ([cmpI (sideM x) (sideM y),cmpI x.peer y.peer,cmpI x.label y.label].map inC) rfl (inrows _) rfl (by decide);refine (or109 [cmpI (sideM x) (sideM y),cmpI x.peer y.peer,cmpI x.label y.label] _ h46 (hs2.rows 0 rfl (by omega)) (show 3<=1048576 by decide)).mono ?_;rintro _ _ ⟨rfl,rfl⟩;refine⟨_,rfl,?_,hs.ext⟩;show Value.int .i64 (orI3 _ (orI3 _ (orI3 _ 0)))=_;congr 1;obtain⟨f,s,p,l,t,a⟩:=x;obtain⟨f',s',p',l',t',a'⟩:=y;unfold cmpE orI3 sideM Mv.ev;cases s<;>cases s'<;>simp[cmpI]<;>(repeat' split)<;>omega
theorem orderS81 (mv:List Mv) (sm:Sl) (a:Addr) (p q:Int) (i k:Nat) (x y:Mv) (h:Heap) (ha:hc h ⟨a.block,a.off+4,none⟩=some (.slice sm.a sm.n sm.c)) (hr:Rw h 6 sm (mv.map Mv.cs)) (hx:mv[i]?=some x) (hy:mv[k]?=some y) :
  Fn Pz 116 #[.agg ⟨stC p i⟩,.agg ⟨stC q k⟩,.pointer (some a)] h fun v h'=>v=.int .i64 (cmpE x.ev y.ev)/\Ext h h':=by
 apply vc116 p (i:Nat) q (k:Nat) a;unfold W116;have hn:=hr.ln;have hxl:=(Ya.1 hx).1;have hyl:=(Ya.1 hy).1;refine (St.refl h).newb fun h5 hs=>?_;refine hs.newb fun h6 hs=>?_;refine⟨sm,hc_ext hs.ext ha,_,hs.rd 1 rfl (i:=1) rfl,?_⟩;refine (hr.ext hs.ext).nbI (by omega) (by omega) fun b o x' gx t=>?_;replace gx:mv[i]?=some x':=gx;rw[hx] at gx;cases gx;refine⟨_,_,_,_,_,_,t,sm,hc_ext hs.ext ha,_,hs.rd 0 rfl (i:=1) rfl,?_⟩;refine (hr.ext hs.ext).nbI (by omega) (by omega) fun b2 o2 y' gy t2=>?_;replace gy:mv[k]?=some y':=gy;rw[hy] at gy;cases gy;refine⟨_,_,_,_,_,_,t2,?_⟩;refine (order82 x y h6).mono ?_;rintro _ h29 ⟨rfl,E⟩;exact⟨_,rfl,rfl,hs.ext.trans E⟩
end M
def Sort80:Prop:=∀(m:Mch) (sm:Sl) (a:Addr) (p:Int) {h0 h:Heap} {Ls:List It},St h0 h Ls->∀(i:Nat) {s:Sl} {l:List Nat},Ls[i]?=some (.sl s 43 2 (l.map (stC p)))->(∀x∈l,x<m.mv.length)->(l=[]->s.a=none)->m.mv.length<=1048576->l.length<=1048576 ->
 (∀h':Heap,h.size<=h'.size->(∀c,c<h.size->s.a.map (·.block)≠some c->h'[c]?=h[c]?)->hc h' ⟨a.block,a.off+4,none⟩=some (.slice sm.a sm.n sm.c)/\Rw h' 6 sm (m.mv.map Mv.cs)) ->
 Fn Pz 115 #[.slice s.a s.n s.c,.func (.func 116) #[] #[.pointer (some a)]] h fun v h'=>v=.tuple ⟨[]⟩/\∃l':List Nat,l'.Perm l/\l'.Pairwise (fun a b=>¬evLt (m.mv.getD b ⟨0,false,0,0,0,false⟩).ev (m.mv.getD a ⟨0,false,0,0,0,false⟩).ev)/\St h0 h' (Ls.set i (.sl s 43 2 (l'.map (stC p))))
end Go.VC
end

section
namespace Go.VC
open Go.Proofs Go.LexS
def bxI (n p:Nat) (x:Mv):Nat:=if x.send=true then n*p+x.peer.toNat else n*x.peer.toNat+p
theorem two_lt {n a b:Nat} (ha:a<n) (hb:b<n):n*a+b<n*n:=by
 have h1:n*(a+1)<=n*n:=Nat.mul_le_mul_left _ (by omega);rw[Nat.mul_succ] at h1;omega
theorem bxI_lt {n p:Nat} {x:Mv} (hp:p<n) (h0:0<=x.peer) (h1:x.peer<(n:Int)):bxI n p x<n*n:=by
 unfold bxI;split
 .exact two_lt hp (by omega)
 .exact two_lt (by omega) hp
def canS (n:Nat) (k:Int) (S:List Int) (BL:List (List Int)) (p:Nat) (x:Mv):Int:=
 if x.f≠S.getD p 0 then 7 else
 if x.send=true then (if k<=((BL.getD (bxI n p x) []).length:Int) then 19 else 0)
 else match BL.getD (bxI n p x) [] with
  | []=>23
  | l::_=>if l≠x.label then 23 else 0
theorem box60 (n p:Nat) (x:Mv) (h:Heap) (hn:n<=6) (hp:p<n) (h0:0<=x.peer) (h1:x.peer<(n:Int)) :
  Fn Pz 110 #[.int .i64 (n:Int),.int .i64 (p:Int),.agg ⟨x.cs⟩] h fun v h'=>v=.int .i64 (bxI n p x:Nat)/\Ext h h':=by
 apply vc110 (n:Int) (p:Int) x.f x.send x.peer x.label x.t x.ag;unfold W110;have h36:=sq6 hn;refine (St.refl h).newb fun h7 hs=>?_;refine⟨_,hs.rd 0 rfl (i:=1) rfl,?_⟩;obtain⟨q,hq⟩:∃q:Nat,x.peer=(q:Int):=⟨x.peer.toNat,by omega⟩;have hqn:q<n:=by omega
 have hqt:x.peer.toNat=q:=by omega
 have b1:=two_lt hp hqn;have b2:=two_lt hqn hp;unfold bxI;rw[hqt];refine sB_intro (fun c=>?_) (fun c=>?_)
 .refine⟨(q:Int),by rw[<-hq];exact hs.rd 0 rfl (i:=2) rfl,?_⟩;have e1:(n:Int)*(p:Int)=((n*p:Nat):Int):=rfl;have e2:((n*p:Nat):Int)+(q:Int)=((n*p+q:Nat):Int):=rfl;rw[if_pos c,e1,w64 (n:=((n*p:Nat):Int)) (by omega) (by omega),e2,w64 (n:=((n*p+q:Nat):Int)) (by omega) (by omega)];exact⟨rfl,hs.ext⟩
 .refine⟨(q:Int),by rw[<-hq];exact hs.rd 0 rfl (i:=2) rfl,?_⟩;have e1:(n:Int)*(q:Int)=((n*q:Nat):Int):=rfl;have e2:((n*q:Nat):Int)+(p:Int)=((n*q+p:Nat):Int):=rfl;rw[if_neg (by rw[c];exact Bool.false_ne_true),e1,w64 (n:=((n*q:Nat):Int)) (by omega) (by omega),e2,w64 (n:=((n*q+p:Nat):Int)) (by omega) (by omega)];exact⟨rfl,hs.ext⟩
theorem can58 (n:Nat) (k:Int) (ss sb:Sl) (S:List Int) (B:List Bx) (p:Nat) (x:Mv) (h:Heap) (hC:CfI h ss sb S B) (hn:n<=6) (hS:S.length=n) (hB:B.length=n*n) (hp:p<n) (h0:0<=x.peer) (h1:x.peer<(n:Int)) :
  Fn Pz 108 #[.int .i64 (n:Int),.int .i64 k,.agg ⟨[.slice ss.a ss.n ss.c,.slice sb.a sb.n sb.c]⟩,.int .i64 (p:Int),.agg ⟨x.cs⟩] h fun v h'=>v=.int .i64 (canS n k S (B.map Bx.l) p x)/\Ext h h':=by
 apply vc108 (n:Int) k ss sb (p:Int) x.f x.send x.peer x.label x.t x.ag;unfold W108 V108a;have hsn:=hC.s.ln;have hbn:=hC.b.ln;have hlt:=bxI_lt hp h0 h1;refine (St.refl h).newb fun h9 hs=>?_;refine hs.newb fun h10 hs=>?_;refine⟨sb,hs.rd 1 rfl (i:=1) rfl,_,_,_,_,_,_,hs.at 0 rfl (o:=0) (n:=6) rfl,?_⟩;refine (box60 n p x h10 hn hp h0 h1).mono ?_;rintro _ h20 ⟨rfl,E⟩;have hs:=hs.step E;refine⟨_,rfl,E.sm,?_⟩;refine (hC.b.rw.ext hs.ext).nbI (Int.natCast_nonneg _) (Int.ofNat_lt.2 (by rw[hbn,hB];exact hlt)) fun b21 o22 q gq t=>?_;rw[Ys] at gq;replace gq:B[bxI n p x]?=some q:=gq;have hqi:=hC.i q (Yb gq);have hql:=hqi.ln;refine⟨q.s,t.hd,_,hs.rd 0 rfl (i:=0) rfl,ss,hs.rd 1 rfl rfl,?_⟩;refine (hC.s.rw.ext hs.ext).nbI (by omega) (by omega) fun b o z gz t2=>?_;rw[Ys] at gz;replace gz:S[p]?=some z:=gz;have hSg:S.getD p 0=z:=getD_some gz;have hBg:(B.map Bx.l).getD (bxI n p x) []=q.l:=getD_some (by rw[Yd,gq];rfl);refine⟨_,t2.hd,?_⟩;unfold canS;rw[hSg,hBg];refine sBn (fun c=>⟨by rw[if_pos c],hs.ext⟩) (fun c=>?_);rw[if_neg (fun h=>h c)];refine⟨_,hs.rd 0 rfl (i:=1) rfl,sB_intro (fun d=>?_) (fun d=>?_)⟩
 .rw[if_pos d];refine sBi (fun e=>⟨by rw[if_pos (by omega)],hs.ext⟩) (fun e=>?_);rw[if_neg (by omega)];exact⟨_,hs.rd 0 rfl (i:=1) rfl,sB_f (by rw[d];rfl) ⟨rfl,hs.ext⟩⟩
 .rw[if_neg (by rw[d];exact Bool.false_ne_true)];refine⟨_,hs.rd 0 rfl (i:=1) rfl,sB_t (by rw[d];rfl) (sBe (fun e=>?_) (fun e=>?_))⟩
  .rw[List.eq_nil_of_length_eq_zero (l:=q.l) (by omega)];exact⟨rfl,hs.ext⟩
  .refine (hqi.rw.ext hs.ext).nbI (by omega) (by omega) fun b3 o3 y gy t3=>?_;replace gy:q.l[0]?=some y:=gy;cases hl:q.l with
   | nil=>rw[hl] at gy;cases gy
   | cons a r=>
    rw[hl] at gy;cases gy;refine⟨_,t3.hd,_,hs.rd 0 rfl (i:=3) rfl,sBn (fun f=>⟨?_,hs.ext⟩) (fun f=>⟨?_,hs.ext⟩)⟩
    .show _=Value.int .i64 (if y≠x.label then 23 else 0);rw[if_pos f]
    .show _=Value.int .i64 (if y≠x.label then 23 else 0);rw[if_neg (fun h=>h f)]
end Go.VC
end

section
namespace Go.VC
open Go.Proofs Go.Shelf
theorem stC_fin {n:Nat} (p:Int) (k:List (Fin n)):(k.map Fin.val).map (stC p)=k.map fun x=>stC p x.val:=by
 rw[List.map_map];rfl
theorem sort80:Sort80:=by
 intro m sm a p h0 h Ls hs i s l hi hlm hnil hml hll hread;by_cases hl0:l=[]
 .subst hl0;have ha:=hnil rfl;have hget:=hs.get hi;rcases hget.1.2 with ⟨_,hn0,hc0⟩ | ⟨b,cur,ha',_⟩
  .have hset:Ls.set i (.sl s 43 2 (([]:List Nat).map (stC p)))=Ls:=by
    obtain⟨p,q⟩:=Ya.1 hi;rw[<-q];exact List.set_getElem_self p
   intro w hw;subst hw;rw[ha,hn0,hc0];refine (AnyF.slices_SortFunc_none Tryz.sortL80 none ((0:Nat):Nat) (.func (.func 116) #[] #[.pointer (some a)]) w).mono ?_;rintro e' w' ⟨rfl,rfl⟩;exact⟨_,rfl,⟨rfl,[],List.Perm.refl _,List.Pairwise.nil,by rw[hset];exact hs⟩,rfl,rfl,rfl,trivial⟩
  .rw[ha] at ha';cases ha'
 .have hpos:0<m.mv.length:=by
   cases l with
   | nil=>exact absurd rfl hl0
   | cons x r=>have:=hlm x Yx;omega
  haveI:Inhabited (Fin m.mv.length):=⟨⟨0,hpos⟩⟩
  obtain⟨k,rfl⟩:=fin_list hlm;have hi':Ls[i]?=some (.sl s 43 2 (k.map fun x=>stC p x.val)):=by rw[hi,stC_fin]
  rw[Yc] at hll;have g:∀x:Fin m.mv.length,m.mv[x.val]?=some m.mv[x.val]:=fun x=>Yi x.isLt;have ev:∀x:Fin m.mv.length,(m.mv.getD x.val ⟨0,false,0,0,0,false⟩).ev=m.mv[x.val].ev:=fun x=>by rw[Yo,g x];rfl
  refine Fn.mono (sort_ownC Tryz.sortL80 2 43 Tryz.isAgg43 Tryz.sizeOf43 (fun x:Fin m.mv.length=>stC p x.val) (fun _=>rfl) (fun x v hv=>by simp[stC] at hv;rcases hv with rfl | rfl<;>rfl) (fun x y:Fin m.mv.length=>cmpE m.mv[x.val].ev m.mv[y.val].ev) (swo_on swoE fun x:Fin m.mv.length=>m.mv[x.val].ev) 116 #[.pointer (some a)] (enters_of Tryz.func116 (by kernel_rfl) rfl) hs i hi' (by omega) (by omega) (fun x y h' hsz hoth=>?_)) ?_
  .obtain⟨r1,r2⟩:=hread h' hsz hoth;exact @M.orderS81 monoDrawn m.mv sm a p p x.val y.val m.mv[x.val] m.mv[y.val] h' r1 r2 (g x) (g y)
  .rintro v h' ⟨rfl,k',hp,hw,hs'⟩;refine⟨rfl,k'.map Fin.val,hp.map _,?_,by rw[stC_fin];exact hs'⟩;rw[List.pairwise_map];refine hw.imp fun {a b} hab=>?_;unfold ltOf at hab;rw[decide_eq_false_iff_not,cmpE_neg] at hab;rw[ev a,ev b];exact hab
end Go.VC
end

section
namespace Go.VC
open Go.LexS
theorem srt_uniq {m:Mch} (hD:DetM m) {s:Int} {O Q:List Nat} (p1:O.Perm (outIx m s)) (s1:O.Pairwise fun a b=>¬evLt (evI m b) (evI m a)) (p2:Q.Perm (outIx m s)) (s2:Q.Pairwise fun a b=>¬evLt (evI m b) (evI m a)):O=Q:=by
 refine List.Perm.eq_of_pairwise (le:=fun a b=>¬evLt (evI m b) (evI m a)) (fun a b ha hb h3 h4=>?_) s1 s2 (p1.trans p2.symm);obtain⟨x,hx,hxf⟩:=outIx_mem.1 (p1.mem_iff.1 ha);obtain⟨y,hy,hyf⟩:=outIx_mem.1 (p2.mem_iff.1 hb);by_cases e:a=b
 .exact e
 .have:=(hD a b x y hx hy e (by rw[hxf,hyf])).1;rw[evI_of hx,evI_of hy] at h3 h4;exact absurd (evLt_of h3 this) h4
open Classical in
noncomputable def mvS (m:Mch) (s:Int):List Nat:=if h:∃O:List Nat,O.Perm (outIx m s)/\O.Pairwise fun a b=>¬evLt (evI m b) (evI m a) then Classical.choose h else outIx m s
theorem mvS_eq {m:Mch} (hD:DetM m) {s:Int} {O:List Nat} (p1:O.Perm (outIx m s)) (s1:O.Pairwise fun a b=>¬evLt (evI m b) (evI m a)):mvS m s=O:=by
 unfold mvS;have h:∃O:List Nat,O.Perm (outIx m s)/\O.Pairwise fun a b=>¬evLt (evI m b) (evI m a):=⟨O,p1,s1⟩;rw[dif_pos h];have:=Classical.choose_spec h;exact srt_uniq hD this.1 this.2 p1 s1
theorem evLt_nt {a b c:Ev} (h1:¬evLt b a) (h2:¬evLt c b):¬evLt c a:=fun h=>by
 rcases evLt_tri a b with h3 | h3 | h3
 .rcases evLt_tri b c with h4 | h4 | h4
  .exact evLt_irr _ (evLt_trans (evLt_trans h3 h4) h)
  .subst h4;exact evLt_irr _ (evLt_trans h3 h)
  .exact h2 h4
 .subst h3;exact h2 h
 .exact h1 h3
theorem mvS_srt (m:Mch) (s:Int):(mvS m s).Perm (outIx m s)/\(mvS m s).Pairwise fun a b=>¬evLt (evI m b) (evI m a):=by
 have hex:∃O:List Nat,O.Perm (outIx m s)/\O.Pairwise fun a b=>¬evLt (evI m b) (evI m a):=by
  refine⟨(outIx m s).mergeSort (fun a b=>!decide (evLt (evI m b) (evI m a))),List.mergeSort_perm _ _,?_⟩;have h:=List.pairwise_mergeSort (le:=fun a b=>!decide (evLt (evI m b) (evI m a))) (fun a b c h1 h2=>by
   simp only[Bool.not_eq_true',decide_eq_false_iff_not] at h1 h2 ⊢;exact evLt_nt h1 h2) (fun a b=>by
   simp only[Bool.or_eq_true,Bool.not_eq_true',decide_eq_false_iff_not];rcases evLt_tri (evI m a) (evI m b) with h3 | h3 | h3
   .exact .inl fun h=>evLt_irr _ (evLt_trans h3 h)
   .exact .inl fun h=>by rw[h3] at h;exact evLt_irr _ h
   .exact .inr fun h=>evLt_irr _ (evLt_trans h3 h)) (outIx m s)
  exact h.imp fun h=>by simpa using h
 unfold mvS;rw[dif_pos hex];exact Classical.choose_spec hex
end Go.VC
end

section
namespace Go.VC
def setOf (L:List Nat):PSet:=fun j=>decide (j∈L)
def Can (n:Nat) (L:List Nat):Prop:=L=(List.range n).filter fun j=>decide (j∈L)
theorem Can.mk (n:Nat) (p:Nat->Bool):Can n ((List.range n).filter p):=by
 unfold Can;apply List.filter_congr;intro x hx;by_cases hm:x∈(List.range n).filter p
 .rw[decide_eq_true hm];exact (List.mem_filter.1 hm).2
 .rw[decide_eq_false hm];cases hp:p x
  .rfl
  .exact absurd (List.mem_filter.2 ⟨hx,hp⟩) hm
theorem Can.lt {n:Nat} {L:List Nat} (h:Can n L):∀j∈L,j<n:=by
 intro j hj;rw[h,List.mem_filter,List.mem_range] at hj;exact hj.1
theorem setOf_inj {n:Nat} {L L':List Nat} (h:Can n L) (h':Can n L'):setOf L=setOf L' ↔ L=L':=by
 constructor
 .intro e;rw[h,h'];congr 1
 .intro e;rw[e]
theorem elems_setOf {n:Nat} {L:List Nat} (h:Can n L) (hn:n<=4096):elems (setOf L)=L:=by
 unfold elems;have e:List.range 4096=List.range n++(List.range (4096-n)).map (n + ·):=by rw[<-List.range_add];congr 1;omega
 rw[e,List.filter_append];have e2:((List.range (4096-n)).map (n + ·)).filter (setOf L)=[]:=by
  rw[List.filter_eq_nil_iff];intro x hx;obtain⟨y,_,rfl⟩:=Yp.1 hx;unfold setOf;simp only[decide_eq_true_eq];intro hm;have:=h.lt _ hm;omega
 rw[e2,Yw];exact h.symm
def evsC (es:List Ed) (role:Int) (L:List Nat):List Ev:=sortE (L.flatMap fun n=>(visL es role n).map (·.x))
def toC (es:List Ed) (role:Int) (L:List Nat) (x:Ev):List Int:=L.flatMap fun n=>(visL es role n).filterMap fun a=>if a.x=x then some a.to else none
theorem evs_setOf {n:Nat} {L:List Nat} (h:Can n L) (hn:n<=4096) (es:List Ed) (role:Int):evs es role (setOf L)=evsC es role L:=by unfold evs evL evsC;rw[elems_setOf h hn]
theorem toL_setOf {n:Nat} {L:List Nat} (h:Can n L) (hn:n<=4096) (es:List Ed) (role:Int) (x:Ev):toL es role (setOf L) x=toC es role L x:=by unfold toL toC;rw[elems_setOf h hn]
def addC (es:List Ed) (role:Int) (L:List Nat):List Nat:=es.foldl (fun L x=>if (vis1 role x).isNone&&decide (x.f.toNat∈L) && !decide (x.t.toNat∈L) then L++[x.t.toNat] else L) L
def bfsC (es:List Ed) (role:Int):Nat->List Nat->List Nat
 | 0,L=>L
 | f+1,L=>bfsC es role f (addC es role L)
def okC (es:List Ed) (role:Int) (l:List Int) (L:List Nat):Bool:=
 l.all (fun v=>decide (0<=v)&&decide (v.toNat∈L))&&es.all (fun x=>!(vis1 role x).isNone || !decide (x.f.toNat∈L)||decide (x.t.toNat∈L)) &&
  (List.range L.length).all fun i=>match L[i]? with
   | some j=>l.any (fun v=>decide (v=(j:Int)))||es.any fun x=>(vis1 role x).isNone&&decide (x.f.toNat∈L.take i)&&decide (x.t=(j:Int))
   | none=>false
theorem okC_clo {es:List Ed} {role:Int} {l:List Int} {L:List Nat} (hes:∀x∈es,0<=x.f/\0<=x.t) (h:okC es role l L=true) (j:Nat):clo es role l j=decide (j∈L):=by
 unfold okC at h;simp only[Yt,List.all_eq_true,List.mem_range] at h;obtain⟨⟨h1,h2⟩,h3⟩:=h;have fwd:∀a:Int,Qr es role l a->0<=a/\a.toNat∈L:=by
  intro a ha
  induction ha with
  | base hm=>have:=h1 _ hm;simpa using this
  | step _ hx ih=>
   obtain⟨x,hx,hv,hf,rfl⟩:=hx;refine⟨(hes x hx).2,?_⟩;have:=h2 x hx;simp only[Bool.or_eq_true,Bool.not_eq_true',decide_eq_false_iff_not,decide_eq_true_eq] at this;rcases this with (h4 | h4) | h4
   .rw[hv] at h4;cases h4
   .exact absurd (by rw[hf];exact ih.2) h4
   .exact h4
 have bwd:∀i,i<=L.length->∀j∈L.take i,Qr es role l (j:Int):=by
  intro i
  induction i with
  | zero=>intro _ j hj;rw[Yyk] at hj;cases hj
  | succ i ih=>
   intro hi j hj;obtain⟨y,hy⟩:=get_some (l:=L) (i:=i) (by omega);rw[take_snoc hy,Yk,Ye] at hj;rcases hj with hj | rfl
   .exact ih (by omega) j hj
   .have:=h3 i (by omega);rw[hy] at this;simp only[Bool.or_eq_true,List.any_eq_true,decide_eq_true_eq,Yt] at this;rcases this with ⟨v,hv,rfl⟩ | ⟨x,hx,⟨h4,h5⟩,h6⟩
    .exact .base hv
    .have hq:=ih (by omega) _ h5;rw[show ((x.f.toNat:Nat):Int)=x.f by have:=hes x hx;omega] at hq;exact .step hq ⟨x,hx,Option.isNone_iff_eq_none.1 h4,rfl,h6⟩
 have hiff:clo es role l j=true ↔ j∈L:=by
  rw[clo_iff];constructor
  .intro h;have:=(fwd _ h).2;rwa [Ys] at this
  .intro h;exact bwd L.length (Yyt _) j (by rw[Yye];exact h)
 by_cases hj:j∈L
 .rw[decide_eq_true hj];exact hiff.2 hj
 .rw[decide_eq_false hj];cases hc:clo es role l j
  .rfl
  .exact absurd (hiff.1 hc) hj
def cloC (es:List Ed) (role:Int) (n:Nat) (l:List Int):Option (List Nat):=
 let L:=bfsC es role n (l.map Int.toNat).eraseDups
 if okC es role l L then some ((List.range n).filter fun j=>decide (j∈L)) else none
theorem cloC_ok {es:List Ed} {role:Int} {n:Nat} {l:List Int} {L:List Nat} (hes:∀x∈es,0<=x.f/\0<=x.t) (hlt:∀j:Nat,clo es role l j=true->j<n) (h:cloC es role n l=some L):Can n L/\clo es role l=setOf L:=by
 unfold cloC at h;simp only at h;split at h
 .rename_i hk;cases h;refine⟨Can.mk _ _,?_⟩
  funext j
  rw[okC_clo hes hk];unfold setOf;by_cases hj:j∈bfsC es role n (l.map Int.toNat).eraseDups
  .rw[decide_eq_true hj,decide_eq_true];have:clo es role l j=true:=by rw[okC_clo hes hk,decide_eq_true hj]
   exact List.mem_filter.2 ⟨List.mem_range.2 (hlt j this),decide_eq_true hj⟩
  .rw[decide_eq_false hj,decide_eq_false];intro hm;exact hj (Yyn (List.mem_filter.1 hm).2)
 .cases h
def rowCS (S:List (List Nat)) (L:List Nat):List (List Nat):=if L∈S then S else S++[L]
theorem rowI_setOf {n:Nat} {L:List Nat} (hL:Can n L):∀ {S:List (List Nat)},(∀s∈S,Can n s)->rowI (S.map setOf) (setOf L)=idxF S L
 | [],_=>rfl
 | s::S,h=>by
  rw[Yyl,rowI,idxF];have hs:=setOf_inj (h s (Yx ..)) hL;by_cases e:s=L
  .rw[if_pos (hs.2 e),if_pos e]
  .rw[if_neg (fun h=>e (hs.1 h)),if_neg e,rowI_setOf hL fun s hs=>h s (Yn _ hs)]
theorem rowS_setOf {n:Nat} {L:List Nat} (hL:Can n L) {S:List (List Nat)} (hS:∀s∈S,Can n s):rowS (S.map setOf) (setOf L)=(rowCS S L).map setOf/\∀s∈rowCS S L,Can n s:=by
 have hiff:setOf L∈S.map setOf ↔ L∈S:=by
  rw[<-rowI_lt,rowI_setOf hL hS,Yc];constructor
  .intro h;by_cases hm:L∈S
   .exact hm
   .rw[idxF_not hm] at h;omega
  .intro h;exact idxF_lt h
 unfold rowS rowCS;by_cases hm:L∈S
 .rw[if_pos (hiff.2 hm),if_pos hm];exact⟨rfl,hS⟩
 .rw[if_neg (fun h=>hm (hiff.1 h)),if_neg hm,Ym];refine⟨rfl,fun s hs=>?_⟩;rcases Yk.1 hs with hs | hs
  .exact hS s hs
  .rw[Ye] at hs;rw[hs];exact hL
def arcsC (es:List Ed) (role:Int) (n:Nat) (i:Nat) (L:List Nat):List Ev->List (List Nat)->List Mv->Option (List (List Nat) × List Mv)
 | [],S,M=>some (S,M)
 | x::r,S,M=>match cloC es role n (toC es role L x) with
  | none=>none
  | some T=>arcsC es role n i L r (rowCS S T) (M++[⟨i,x.send,x.peer,x.label,(idxF S T:Nat),false⟩])
theorem arcsC_ok {es:List Ed} {role:Int} {n i:Nat} {L:List Nat} (hn:n<=4096) (hes:∀x∈es,0<=x.f/\0<=x.t) (hlt:∀(x:Ev) (j:Nat),clo es role (toC es role L x) j=true->j<n) (hL:Can n L):∀(l:List Ev) (S:List (List Nat)) (M:List Mv) {S':List (List Nat)} {M':List Mv},(∀s∈S,Can n s)->arcsC es role n i L l S M=some (S',M') ->
  arcsF es role i (setOf L) l (S.map setOf) M=(S'.map setOf,M')/\∀s∈S',Can n s
 | [],S,M,S',M',hS,h=>by cases h;exact⟨rfl,hS⟩
 | x::r,S,M,S',M',hS,h=>by
  rw[arcsC] at h;cases hc:cloC es role n (toC es role L x) with
  | none=>rw[hc] at h;cases h
  | some T=>
   rw[hc] at h;replace h:arcsC es role n i L r (rowCS S T) (M++[⟨i,x.send,x.peer,x.label,(idxF S T:Nat),false⟩])=some (S',M'):=h;obtain⟨h1,h2⟩:=cloC_ok hes (hlt x) hc;have h3:=rowS_setOf h1 hS;have:=arcsC_ok hn hes hlt hL r _ _ h3.2 h;rw[arcsF,toL_setOf hL hn,h2,rowI_setOf h1 hS,h3.1];exact this
def viewsCF (es:List Ed) (role:Int) (n:Nat):Nat->Nat->List (List Nat)->List Mv->Option (Option (List (List Nat) × List Mv))
 | 0,_,_,_=>some none
 | f+1,i,S,M=>match S[i]? with
  | none=>some (some (S,M))
  | some L=>match arcsC es role n i L (evsC es role L) S M with
   | none=>none
   | some (S',M')=>if S'.length>200 then some none else viewsCF es role n f (i+1) S' M'
theorem viewsCF_ok {es:List Ed} {role:Int} {n:Nat} (hn:n<=4096) (hes:∀x∈es,0<=x.f/\0<=x.t) (hlt:∀(L:List Nat) (x:Ev) (j:Nat),clo es role (toC es role L x) j=true->j<n):∀(f i:Nat) (S:List (List Nat)) (M:List Mv) {r:Option (List (List Nat) × List Mv)},(∀s∈S,Can n s)->viewsCF es role n f i S M=some r ->
  viewsF es role f i (S.map setOf) M=r.map (fun q=>(q.1.map setOf,q.2))/\∀q,r=some q->∀s∈q.1,Can n s
 | 0,i,S,M,r,_,h=>by cases h;exact⟨rfl,fun q hq=>by cases hq⟩
 | f+1,i,S,M,r,hS,h=>by
  rw[viewsCF] at h;rw[viewsF,Yd];cases hg:S[i]? with
  | none=>
   rw[hg] at h;cases h;exact⟨rfl,fun q hq=>by cases hq;exact hS⟩
  | some L=>
   rw[hg] at h;have hL:=hS L (Yb hg);cases ha:arcsC es role n i L (evsC es role L) S M with
   | none=>simp only[ha] at h;cases h
   | some q=>
    obtain⟨S',M'⟩:=q;simp only[ha] at h;have h1:=arcsC_ok hn hes (hlt L) hL _ S M hS ha;rw[<-evs_setOf hL hn] at h1;show (if (arcsF es role i (setOf L) (evs es role (setOf L)) (S.map setOf) M).1.length>200 then none else viewsF es role f (i+1) (arcsF es role i (setOf L) (evs es role (setOf L)) (S.map setOf) M).1 (arcsF es role i (setOf L) (evs es role (setOf L)) (S.map setOf) M).2)=_/\_;rw[h1.1];simp only[Yc];split
    .rename_i hc;rw[if_pos hc] at h;cases h;exact⟨rfl,fun q hq=>by cases hq⟩
    .rename_i hc;rw[if_neg hc] at h;exact viewsCF_ok hn hes hlt f (i+1) S' M' h1.2 h
theorem viewV_congr {F F':Nat->List Ev} {en en':Nat->Bool} {O:List Bool} {T:List Ti} {l:List Nat} (hF:∀k∈l,F k=F' k) (he:∀k∈l,en k=en' k):viewV F en O T l=viewV F' en' O T l:=by
 have hb:∀k∈l,badV F en l k=badV F' en' l k:=by
  intro k hk;unfold badV;have ha:(l.any fun q=>en q||decide (F k≠F q))=l.any fun q=>en' q||decide (F' k≠F' q):=by
   rw[Bool.eq_iff_iff,List.any_eq_true,List.any_eq_true];constructor
   .rintro⟨q,hq,h⟩;exact⟨q,hq,by rw[<-he q hq,<-hF q hq,<-hF k hk];exact h⟩
   .rintro⟨q,hq,h⟩;exact⟨q,hq,by rw[he q hq,hF q hq,hF k hk];exact h⟩
  rw[ha,hF k hk,he k hk]
 unfold viewV;congr 1
 suffices h:∀(m:List Nat) (st:Option (Bool × Ti)),(∀k∈m,k∈l)->m.foldl (stepV F en O T l) st=m.foldl (stepV F' en' O T l) st from h l _ fun k hk=>hk
 intro m
 induction m with
 | nil=>intro st _;rfl
 | cons a m ih=>
  intro st hs;rw[List.foldl_cons,List.foldl_cons];have:stepV F en O T l st a=stepV F' en' O T l st a:=by unfold stepV;rw[hb a (hs a (Yx ..))]
  rw[this];exact ih _ fun k hk=>hs k (Yn _ hk)
def rawLC (vw:List Nat->Option Ti):Nat->List (List Nat)->List Mv->List To->Option (List Mv × List To)
 | _,[],M,L=>some (M,L)
 | n,p::S,M,L=>match vw p with
  | none=>none
  | some x=>rawLC vw (n+1) S (M.map (updR n x)) (L++limR n x M)
theorem rawLC_ok {vw vw':List Nat->Option Ti} {N:Nat} (hN:N<=4096):∀(n:Nat) (S:List (List Nat)) (M:List Mv) (L:List To),(∀s∈S,Can N s/\vw s=vw' s)->rawL vw n (S.map setOf) M L=rawLC vw' n S M L
 | _,[],_,_,_=>rfl
 | n,p::S,M,L,h=>by
  obtain⟨h1,h2⟩:=h p (Yx ..);rw[Yyl,rawL,rawLC,elems_setOf h1 hN,h2];cases vw' p with
  | none=>rfl
  | some x=>exact rawLC_ok hN (n+1) S _ _ fun s hs=>h s (Yn _ hs)
end Go.VC
end

section
namespace Go.VC
open Go.LexS
def fC (g:Gl) (role:Int) (k:Nat):List Ev:=((cloC g.es role g.n.toNat [(k:Int)]).map (evsC g.es role)).getD []
def enC (g:Gl) (role:Int) (k:Nat):Bool:=((cloC g.es role g.n.toNat [(k:Int)]).map fun L=>decide (g.e.toNat∈L)).getD false
def vwC (g:Gl) (role:Int):List Nat->Option Ti:=viewV (fC g role) (enC g role) (ownE g.es role g.n.toNat).1 (ownT g.es g.ts role g.n.toNat)
def rawC (g:Gl) (role:Int):Option (Option Mch × Int):=
 if !(List.range g.n.toNat).all (fun k=>(cloC g.es role g.n.toNat [(k:Int)]).isSome) then none else
 match cloC g.es role g.n.toNat [g.s] with
 | none=>none
 | some L0=>match viewsCF g.es role g.n.toNat 202 0 [L0] [] with
  | none=>none
  | some none=>some (none,6)
  | some (some (S,M))=>if M.length>400 then some (none,6) else
   match rawLC (vwC g role) 0 S M [] with
   | none=>some (none,18)
   | some (M',L')=>some (some ⟨role,S.length,0,S.map (fun L=>decide (g.e.toNat∈L)),M',L'⟩,0)
theorem rawC_ok {g:Gl} {role:Int} {r:Option Mch × Int} (hV:ValidS g) (h0:0<=role) (h1:role<g.rs.length) (h:rawC g role=some r):raw g role=r:=by
 have hN:=hV.num.n;have hn:g.n.toNat<=4096:=by omega
 have hes:∀x∈g.es,0<=x.f/\0<=x.t:=fun x hx=>by have:=hV.num.e x hx;unfold EdS at this;omega
 have hlt:∀(l:List Int),(∀v∈l,0<=v/\v<g.n)->∀j:Nat,clo g.es role l j=true->j<g.n.toNat:=fun l hl j hj=>by have:=clo_lt hV hl j hj;omega
 have hto:∀(L:List Nat) (x:Ev) (j:Nat),clo g.es role (toC g.es role L x) j=true->j<g.n.toNat:=by
  intro L x;refine hlt _ fun v hv=>?_;unfold toC at hv;obtain⟨k,_,h2⟩:=List.mem_flatMap.1 hv;obtain⟨a,ha,h3⟩:=Yym.1 h2;unfold visL at ha;obtain⟨e,he,h4⟩:=Yym.1 ha;have:=hV.num.e e he;unfold EdS at this;split at h4
  .rw[Yya] at h4;obtain⟨_,_,rfl⟩:=h4;split at h3
   .cases h3;show 0<=e.t/\e.t<g.n;omega
   .cases h3
  .cases h4
 unfold rawC at h;split at h
 .cases h
 rename_i hall;have hall:∀k,k<g.n.toNat->(cloC g.es role g.n.toNat [(k:Int)]).isSome=true:=by
  intro k hk;have:(List.range g.n.toNat).all (fun k=>(cloC g.es role g.n.toNat [(k:Int)]).isSome)=true:=by
   revert hall
   generalize (List.range g.n.toNat).all (fun k=>(cloC g.es role g.n.toNat [(k:Int)]).isSome)=b;cases b<;>simp
  exact List.all_eq_true.1 this k (List.mem_range.2 hk)
 have hfirst:∀k,k<g.n.toNat->firstE g role (k:Int)=fC g role k/\firstB g role (k:Int)=enC g role k:=by
  intro k hk;obtain⟨L,hL⟩:=Option.isSome_iff_exists.1 (hall k hk);obtain⟨h2,h3⟩:=cloC_ok hes (hlt [(k:Int)] fun v hv=>by rw[Ye] at hv;omega) hL;unfold firstE firstB fC enC;rw[hL,h3,evs_setOf h2 hn];exact⟨rfl,rfl⟩
 cases hc0:cloC g.es role g.n.toNat [g.s] with
 | none=>simp only[hc0] at h;cases h
 | some L0=>
  simp only[hc0] at h;obtain⟨h2,h3⟩:=cloC_ok hes (hlt [g.s] fun v hv=>by rw[Ye] at hv;omega) hc0;cases hv:viewsCF g.es role g.n.toNat 202 0 [L0] [] with
  | none=>simp only[hv] at h;cases h
  | some w=>
   simp only[hv] at h;obtain⟨h4,h5⟩:=viewsCF_ok hn hes hto 202 0 [L0] [] (fun s hs=>by rw[Ye] at hs;rw[hs];exact h2) hv;have h6:views g role=w.map fun q=>(q.1.map setOf,q.2):=by
    unfold views;rw[h3];exact h4
   unfold raw;rw[if_neg (by simpa using ⟨hV,h0,h1⟩),h6];cases w with
   | none=>simpa using h
   | some q=>
    obtain⟨S,M⟩:=q;have hS:=h5 (S,M) rfl;simp only[Option.map_some] at h ⊢;split at h
    .rename_i hM;rw[if_pos hM];simpa using h
    .rename_i hM;rw[if_neg hM];rw[rawLC_ok (vw:=vwG g role) (vw':=vwC g role) hn 0 S M [] fun s hs=>⟨hS s hs,viewV_congr (fun k hk=>(hfirst k ((hS s hs).lt k hk)).1) fun k hk=>(hfirst k ((hS s hs).lt k hk)).2⟩];cases hl:rawLC (vwC g role) 0 S M [] with
     | none=>simp only[hl] at h ⊢;simpa using h
     | some q=>
      obtain⟨M',L'⟩:=q;simp only[hl] at h ⊢;rw[<-Yyp h,Yc,List.map_map];rfl
end Go.VC
end

section
namespace Go.VC
open Go.Proofs Go.LexS
def exD (x:Nm):Dc:=⟨x,⟨none,0,0⟩,0,⟨none,0,0⟩,⟨none,0,0⟩,[],[],[]⟩
def exEs:Bool->List Ed
 | true=>[⟨0,0,1,0,1,false⟩,⟨0,0,1,1,2,false⟩,⟨1,1,2,0,3,false⟩,⟨2,1,2,1,4,false⟩,⟨3,2,1,2,5,false⟩,⟨4,2,1,3,5,false⟩]
 | false=>[⟨0,0,1,0,1,false⟩,⟨0,0,1,1,2,false⟩,⟨1,2,1,2,3,false⟩,⟨2,2,1,3,3,false⟩]
def exGl (b:Bool) (hr hd he ht:Sl):Gl:=⟨[101],hr,hd,if b then 6 else 4,0,if b then 5 else 3,he,ht,[[112],[113],[114]],[exD [97],exD [98],exD [99],exD [100]],exEs b,[]⟩
theorem edge70 (p0 p1 p2 p3 p4:Int) (h:Heap):Fn Pz 88 #[.int .i64 p0,.int .i64 p1,.int .i64 p2,.int .i64 p3,.int .i64 p4] h fun v h'=>v=.agg ⟨Ed.cs ⟨p0,p1,p2,p3,p4,false⟩⟩/\Ext h h':=by
 apply vc88;unfold W88;have hs:=St.refl h;refine hs.newput (vs:=Ed.cs ⟨p0,p1,p2,p3,p4,false⟩) rfl rfl fun h2 hs=>?_;exact⟨_,_,_,_,_,_,hs.at 0 rfl (n:=6) rfl,rfl,hs.ext⟩
theorem RL.none_ {α:Type} {h:Heap} {k:Nat} {cs:α->List Value}:RL h k ⟨none,0,0⟩ cs []:=⟨Rw.nil,Yyt _,fun _=>⟨rfl,rfl⟩,Nat.zero_le _⟩
theorem St.rl {α:Type} {h0 h:Heap} {L:List It} (hs:St h0 h L) (k:Nat) {s:Sl} {e:TypeId} {n:Nat} {cs:α->List Value} {l:List α} (hk:L[k]?=some (.sl s e n (l.map cs))) (hn:0<n) (hl:l.length<=1048576):RL h n s cs l:=by
 have:=hs.len k hk hn;exact⟨hs.rows k hk hn,this.2.1,this.2.2,hl⟩
theorem nmrows (L:List Nm):∀r∈L.map nmC,r.length=1:=fun r hr=>by obtain⟨x,_,rfl⟩:=Yp.1 hr;rfl
theorem dcrows (L:List Dc):∀r∈L.map Dc.cs,r.length=5:=fun r hr=>by obtain⟨x,_,rfl⟩:=Yp.1 hr;rfl
theorem edrows (L:List Ed):∀r∈L.map Ed.cs,r.length=6:=fun r hr=>by obtain⟨x,_,rfl⟩:=Yp.1 hr;rfl
theorem example34 (b:Bool) (h:Heap):Fn Pz 34 #[.bool b] h fun v h'=>Ext h h'/\∃hr hd he:Sl,v=(exGl b hr hd he ⟨none,0,0⟩).v/\GI h' (exGl b hr hd he ⟨none,0,0⟩):=by
 apply vc34;unfold W34 V34a;have hs:=St.refl h;refine hs.newb fun h1 hs=>?_;refine hs.newb fun h2 hs=>?_;have hs:=hs.blkS 3 1 ([[112],[113],[114]].map nmC) rfl (nmrows _) rfl (by decide);refine hs.newb fun h3 hs=>?_;have hs:=hs.blkS 4 5 ([exD [97],exD [98],exD [99],exD [100]].map Dc.cs) rfl (dcrows _) rfl (by decide);refine hs.newput (vs:=[.string (bs [101]),.slice (some ⟨h1.size,0,none⟩) 3 3,.slice (some ⟨h2.size,0,none⟩) 4 4,.int .i64 4,.int .i64 0,.int .i64 3,.slice none 0 0,.slice none 0 0]) rfl rfl fun h5 hs=>?_;refine (edge70 _ _ _ _ _ _).mono ?_;rintro _ _ ⟨rfl,E⟩;replace hs:=hs.step E;clear E;refine⟨_,_,_,_,_,_,rfl,?_⟩;refine (edge70 _ _ _ _ _ _).mono ?_;rintro _ _ ⟨rfl,E⟩;replace hs:=hs.step E;clear E;refine⟨_,_,_,_,_,_,rfl,?_⟩;refine (edge70 _ _ _ _ _ _).mono ?_;rintro _ _ ⟨rfl,E⟩;replace hs:=hs.step E;clear E;refine⟨_,_,_,_,_,_,rfl,?_⟩;refine (edge70 _ _ _ _ _ _).mono ?_;rintro _ _ ⟨rfl,E⟩;replace hs:=hs.step E;clear E;refine⟨_,_,_,_,_,_,rfl,?_⟩;refine hs.newb fun h38 hs=>?_;have hs:=hs.blkS 4 6 ((exEs false).map Ed.cs) rfl (edrows _) rfl (by decide);refine hs.put 1 rfl (o:=6) (vs:=[.slice (some ⟨_,0,none⟩) 4 4]) rfl (show 7<=8 by decide) fun h39 hs=>?_;cases b
 .refine sB_f rfl ?_;refine⟨_,⟨some ⟨h1.size,0,none⟩,3,3⟩,⟨some ⟨h2.size,0,none⟩,4,4⟩,_,_,_,⟨some ⟨_,0,none⟩,4,4⟩,⟨none,0,0⟩,hs.at 1 rfl (n:=8) rfl,?_⟩;refine hs.put 4 rfl (o:=0) (vs:=(exGl false ⟨some ⟨h1.size,0,none⟩,3,3⟩ ⟨some ⟨h2.size,0,none⟩,4,4⟩ ⟨some ⟨_,0,none⟩,4,4⟩ ⟨none,0,0⟩).cs) rfl (show 8<=8 by decide) fun h117 hs=>?_;refine⟨_,⟨some ⟨h1.size,0,none⟩,3,3⟩,⟨some ⟨h2.size,0,none⟩,4,4⟩,_,_,_,⟨some ⟨_,0,none⟩,4,4⟩,⟨none,0,0⟩,hs.at 4 rfl (n:=8) rfl,hs.ext,_,_,_,rfl,?_⟩;refine⟨hs.rl 3 rfl (by decide) (show 3<=1048576 by decide),⟨hs.rl 2 rfl (by decide) (show 4<=1048576 by decide),fun d hd=>?_⟩,hs.rl 0 rfl (by decide) (show 4<=1048576 by decide),RL.none_⟩;have hd:d∈[exD [97],exD [98],exD [99],exD [100]]:=hd;simp only[Yr,List.not_mem_nil,or_false] at hd;rcases hd with rfl | rfl | rfl | rfl<;>exact⟨RL.none_,RL.none_,RL.none_⟩
 .refine sB_t rfl ?_;refine hs.put 1 rfl (o:=3) (vs:=[.int .i64 6]) rfl (show 4<=8 by decide) fun h40 hs=>?_;refine hs.put 1 rfl (o:=5) (vs:=[.int .i64 5]) rfl (show 6<=8 by decide) fun h41 hs=>?_;refine (edge70 _ _ _ _ _ _).mono ?_;rintro _ _ ⟨rfl,E⟩;replace hs:=hs.step E;clear E;refine⟨_,_,_,_,_,_,rfl,?_⟩;refine (edge70 _ _ _ _ _ _).mono ?_;rintro _ _ ⟨rfl,E⟩;replace hs:=hs.step E;clear E;refine⟨_,_,_,_,_,_,rfl,?_⟩;refine (edge70 _ _ _ _ _ _).mono ?_;rintro _ _ ⟨rfl,E⟩;replace hs:=hs.step E;clear E;refine⟨_,_,_,_,_,_,rfl,?_⟩;refine (edge70 _ _ _ _ _ _).mono ?_;rintro _ _ ⟨rfl,E⟩;replace hs:=hs.step E;clear E;refine⟨_,_,_,_,_,_,rfl,?_⟩;refine (edge70 _ _ _ _ _ _).mono ?_;rintro _ _ ⟨rfl,E⟩;replace hs:=hs.step E;clear E;refine⟨_,_,_,_,_,_,rfl,?_⟩;refine (edge70 _ _ _ _ _ _).mono ?_;rintro _ _ ⟨rfl,E⟩;replace hs:=hs.step E;clear E;refine⟨_,_,_,_,_,_,rfl,?_⟩;refine hs.newb fun h90 hs=>?_;have hs:=hs.blkS 6 6 ((exEs true).map Ed.cs) rfl (edrows _) rfl (by decide);refine hs.put 2 rfl (o:=6) (vs:=[.slice (some ⟨_,0,none⟩) 6 6]) rfl (show 7<=8 by decide) fun h91 hs=>?_;refine⟨_,⟨some ⟨h1.size,0,none⟩,3,3⟩,⟨some ⟨h2.size,0,none⟩,4,4⟩,_,_,_,⟨some ⟨_,0,none⟩,6,6⟩,⟨none,0,0⟩,hs.at 2 rfl (n:=8) rfl,?_⟩;refine hs.put 5 rfl (o:=0) (vs:=(exGl true ⟨some ⟨h1.size,0,none⟩,3,3⟩ ⟨some ⟨h2.size,0,none⟩,4,4⟩ ⟨some ⟨_,0,none⟩,6,6⟩ ⟨none,0,0⟩).cs) rfl (show 8<=8 by decide) fun h117 hs=>?_;refine⟨_,⟨some ⟨h1.size,0,none⟩,3,3⟩,⟨some ⟨h2.size,0,none⟩,4,4⟩,_,_,_,⟨some ⟨_,0,none⟩,6,6⟩,⟨none,0,0⟩,hs.at 5 rfl (n:=8) rfl,hs.ext,_,_,_,rfl,?_⟩;refine⟨hs.rl 4 rfl (by decide) (show 3<=1048576 by decide),⟨hs.rl 3 rfl (by decide) (show 4<=1048576 by decide),fun d hd=>?_⟩,hs.rl 0 rfl (by decide) (show 6<=1048576 by decide),RL.none_⟩;have hd:d∈[exD [97],exD [98],exD [99],exD [100]]:=hd;simp only[Yr,List.not_mem_nil,or_false] at hd;rcases hd with rfl | rfl | rfl | rfl<;>exact⟨RL.none_,RL.none_,RL.none_⟩
deriving instance DecidableEq for Ed
theorem ex_valid (b:Bool) (hr hd he ht:Sl):ValidS (exGl b hr hd he ht):=by
 have hrs:(exGl b hr hd he ht).rs=[[112],[113],[114]]:=rfl;have hds:(exGl b hr hd he ht).ds=[exD [97],exD [98],exD [99],exD [100]]:=rfl;have hes:(exGl b hr hd he ht).es=exEs b:=rfl;have hall:allF [exD [97],exD [98],exD [99],exD [100]]=[]:=rfl;have get3:∀ {α:Type} {P:Nat->α->Prop} {l:List α},(∀i (hi:i<l.length),P i l[i])->∀i x,l[i]?=some x->P i x:=by
  intro α P l h i x hx;obtain⟨h1,h2⟩:=Ya.1 hx;rw[<-h2];exact h i h1
 refine⟨⟨by rfl,by rw[hrs];decide,by rw[hrs];decide,?_⟩,⟨?_,?_,?_⟩,?_,⟨?_,?_,?_⟩,?_,?_,?_⟩
 .rw[hrs];refine get3 (P:=fun i s=>isWord s=true/\s∉List.take i [[112],[113],[114]]) fun i hi=>?_;have hi:i<3:=hi
  match i,hi with
  | 0,_=>exact Yyn rfl
  | 1,_=>exact Yyn rfl
  | 2,_=>exact Yyn rfl
 .cases b<;>exact⟨Yyn rfl,Yyn rfl,Yyn rfl,Yyn rfl,Yyn rfl,Yyn rfl⟩
 .rw[hes];cases b<;>decide
 .rw[hes];unfold EdS;rw[hrs,hds];cases b
  .show ∀x∈exEs false,0<=x.f/\0<=x.t/\0<=x.a/\0<=x.b/\0<=x.l/\x.f<4/\x.t<4/\x.a<((3:Nat):Int)/\x.b<((3:Nat):Int)/\x.a≠x.b/\x.l<((4:Nat):Int);decide
  .show ∀x∈exEs true,0<=x.f/\0<=x.t/\0<=x.a/\0<=x.b/\0<=x.l/\x.f<6/\x.t<6/\x.a<((3:Nat):Int)/\x.b<((3:Nat):Int)/\x.a≠x.b/\x.l<((4:Nat):Int);decide
 .rw[hds];refine⟨by decide,by rw[hall];decide,?_⟩;refine get3 (P:=fun i d=>DcS [exD [97],exD [98],exD [99],exD [100]] i d) fun i hi=>?_;have hi:i<4:=hi;have hg:GuardS [] [] []:=⟨by decide,by decide,fun x hx=>(by cases hx),fun x hx=>(by cases hx)⟩
  match i,hi with
  | 0,_=>exact⟨by rfl,Yyn rfl,Yyn rfl,by rfl,fun k f hf=>(by cases hf),by rw[hall];exact hg⟩
  | 1,_=>exact⟨by rfl,Yyn rfl,Yyn rfl,by rfl,fun k f hf=>(by cases hf),by rw[hall];exact hg⟩
  | 2,_=>exact⟨by rfl,Yyn rfl,Yyn rfl,by rfl,fun k f hf=>(by cases hf),by rw[hall];exact hg⟩
  | 3,_=>exact⟨by rfl,Yyn rfl,Yyn rfl,by rfl,fun k f hf=>(by cases hf),by rw[hall];exact hg⟩
 .rw[hes];cases b
  .show ∀x∈exEs false,x.f≠3;decide
  .show ∀x∈exEs true,x.f≠5;decide
 .rw[hes];cases b
  .show ∀x∈exEs false,x.ag=true->x.f≠0;decide
  .show ∀x∈exEs true,x.ag=true->x.f≠0;decide
 .rw[hes];have key:((exEs b).zipIdx.all fun p=>(exEs b).zipIdx.all fun q=>!decide ((p.2≠q.2/\p.1.f=q.1.f/\((p.1.a=q.1.a/\p.1.b=q.1.b/\p.1.l=q.1.l)\/p.1.a≠q.1.a\/p.1.ag=true))\/(p.1.ag=true/\q.1.t=p.1.f/\(p.1.a≠q.1.a\/p.1.l≠q.1.l))))=true:=by
   cases b<;>decide
  intro i x hx k y hy hbad;have h1:=List.all_eq_true.1 key (x,i) (Yf.2 ⟨i,by rw[List.getElem?_zipIdx,hx];simp⟩);have h2:=List.all_eq_true.1 h1 (y,k) (Yf.2 ⟨k,by rw[List.getElem?_zipIdx,hy];simp⟩);have h3:=Yyo (Bool.not_eq_true' _ ▸ h2);exact h3 hbad
 .intro i t ht;exact absurd ht (by show ([]:List To)[i]?≠some t;simp)
 .intro v h0 h1;rw[hes];cases b
  .have h1:v<4:=h1;show Rch (exEs false) false 0 v;have s0:Rch (exEs false) false 0 0:=.refl;have s1:Rch (exEs false) false 0 1:=.step s0 ⟨⟨0,0,1,0,1,false⟩,by decide,rfl,rfl⟩;have s2:Rch (exEs false) false 0 2:=.step s0 ⟨⟨0,0,1,1,2,false⟩,by decide,rfl,rfl⟩;have s3:Rch (exEs false) false 0 3:=.step s1 ⟨⟨1,2,1,2,3,false⟩,by decide,rfl,rfl⟩;have:v=0\/v=1\/v=2\/v=3:=by omega
   rcases this with rfl | rfl | rfl | rfl<;>assumption
  .have h1:v<6:=h1;show Rch (exEs true) false 0 v;have s0:Rch (exEs true) false 0 0:=.refl;have s1:Rch (exEs true) false 0 1:=.step s0 ⟨⟨0,0,1,0,1,false⟩,by decide,rfl,rfl⟩;have s2:Rch (exEs true) false 0 2:=.step s0 ⟨⟨0,0,1,1,2,false⟩,by decide,rfl,rfl⟩;have s3:Rch (exEs true) false 0 3:=.step s1 ⟨⟨1,1,2,0,3,false⟩,by decide,rfl,rfl⟩;have s4:Rch (exEs true) false 0 4:=.step s2 ⟨⟨2,1,2,1,4,false⟩,by decide,rfl,rfl⟩;have s5:Rch (exEs true) false 0 5:=.step s3 ⟨⟨3,2,1,2,5,false⟩,by decide,rfl,rfl⟩;have:v=0\/v=1\/v=2\/v=3\/v=4\/v=5:=by omega
   rcases this with rfl | rfl | rfl | rfl | rfl | rfl<;>assumption
 .intro v h0 h1;rw[hes];cases b
  .have h1:v<4:=h1;show Rch (exEs false) true 3 v;have s3:Rch (exEs false) true 3 3:=.refl;have s1:Rch (exEs false) true 3 1:=.step s3 ⟨⟨1,2,1,2,3,false⟩,by decide,rfl,rfl⟩;have s2:Rch (exEs false) true 3 2:=.step s3 ⟨⟨2,2,1,3,3,false⟩,by decide,rfl,rfl⟩;have s0:Rch (exEs false) true 3 0:=.step s1 ⟨⟨0,0,1,0,1,false⟩,by decide,rfl,rfl⟩;have:v=0\/v=1\/v=2\/v=3:=by omega
   rcases this with rfl | rfl | rfl | rfl<;>assumption
  .have h1:v<6:=h1;show Rch (exEs true) true 5 v;have s5:Rch (exEs true) true 5 5:=.refl;have s3:Rch (exEs true) true 5 3:=.step s5 ⟨⟨3,2,1,2,5,false⟩,by decide,rfl,rfl⟩;have s4:Rch (exEs true) true 5 4:=.step s5 ⟨⟨4,2,1,3,5,false⟩,by decide,rfl,rfl⟩;have s1:Rch (exEs true) true 5 1:=.step s3 ⟨⟨1,1,2,0,3,false⟩,by decide,rfl,rfl⟩;have s2:Rch (exEs true) true 5 2:=.step s4 ⟨⟨2,1,2,1,4,false⟩,by decide,rfl,rfl⟩;have s0:Rch (exEs true) true 5 0:=.step s1 ⟨⟨0,0,1,0,1,false⟩,by decide,rfl,rfl⟩;have:v=0\/v=1\/v=2\/v=3\/v=4\/v=5:=by omega
   rcases this with rfl | rfl | rfl | rfl | rfl | rfl<;>assumption

end Go.VC
end

section
namespace Go.VC

end Go.VC
end

section
namespace Go.VC
open Go.Proofs Go.LexS
namespace M
theorem intrw {h:Heap} {s:Sl} {L:List Int} (hr:Rw h 1 s (L.map inC)) (hc:s.n<=s.c) {i:Nat} (hi:i<=s.n):Rw h 1 ⟨subA s.a i s.c 1,s.n-i,s.c-i⟩ ((L.drop i).map inC):=by
 have hn:=hr.ln;rw[List.map_drop];by_cases h0:i=s.n
 .rw[List.drop_eq_nil_of_le (by rw[Yc];omega)];exact Rw.empty (by show s.n-i=0;omega)
 .exact hr.from hc (by omega)
theorem subA_nil {s:Sl} {i:Nat} (hna:s.a=none->s.n=0/\s.c=0) (h:subA s.a i s.c 1=none):s.n-i=0/\s.c-i=0:=by
 unfold subA at h;split at h
 .have:=hna h;omega
 .cases ha:s.a with
  | none=>have:=hna ha;omega
  | some a=>rw[ha] at h;cases h
end M
end Go.VC
end

section
namespace Go.VC
open Go.Proofs Go.LexS
theorem app35:appB Pz 69 43 2 16=true:=by kernel_rfl
def mv0:Mv:=⟨0,false,0,0,0,false⟩
def mvD (m:Mch) (i:Nat):Mv:=m.mv.getD i mv0
theorem mvD_of {m:Mch} {i:Nat} {x:Mv} (h:m.mv[i]?=some x):mvD m i=x:=getD_some h
theorem evI_mvD (m:Mch) (i:Nat):evI m i=(mvD m i).ev:=by
 unfold evI mvD;rw[Yo];cases m.mv[i]?<;>rfl
def posB (n:Nat) (k:Int) (S:List Int) (BL:List (List Int)) (p:Nat) (m:Mch) (i:Nat):Bool:=decide (canS n k S BL p (mvD m i)=0)
noncomputable def stepsP (n:Nat) (k:Int) (S:List Int) (BL:List (List Int)) (p:Nat) (m:Mch):List Nat:=(mvS m (S.getD p 0)).filter (posB n k S BL p m)
def stpC (q:Nat × Nat):List Value:=stC (q.1:Int) q.2
noncomputable def stepsR (n:Nat) (k:Int) (S:List Int) (BL:List (List Int)) (L:List Mch) (p:Nat):List (Nat × Nat):=match L[p]? with
 | some m=>(stepsP n k S BL p m).map fun i=>(p,i)
 | none=>[]
noncomputable def stepsS (L:List Mch) (k:Int) (S:List Int) (BL:List (List Int)):List (Nat × Nat):=(List.range L.length).flatMap (stepsR L.length k S BL L)
theorem posB_f {n:Nat} {k:Int} {S:List Int} {BL:List (List Int)} {p:Nat} {m:Mch} {i:Nat} (h:posB n k S BL p m i=true):(mvD m i).f=S.getD p 0:=by
 have h:=Yyn h;unfold canS at h;split at h
 .omega
 .rename_i c;exact Classical.not_not.1 c
theorem pos_ix {n:Nat} {k:Int} {S:List Int} {BL:List (List Int)} {p:Nat} {m:Mch}:(List.range m.mv.length).filter (posB n k S BL p m)=(outIx m (S.getD p 0)).filter (posB n k S BL p m):=by
 unfold outIx;rw[List.filter_filter];refine List.filter_congr fun i hi=>?_;obtain⟨x,hx⟩:=get_some (l:=m.mv) (i:=i) (List.mem_range.1 hi);cases hp:posB n k S BL p m i with
 | false=>rfl
 | true=>
  have hf:=posB_f hp;rw[mvD_of hx] at hf;show true=(true&&outP m _ i);unfold outP;rw[hx];show true=(true&&decide (x.f=_));rw[hf];simp
theorem steps_uniq {n:Nat} {k:Int} {S:List Int} {BL:List (List Int)} {p:Nat} {m:Mch} (hD:DetM m) {O:List Nat} (h1:O.Perm ((List.range m.mv.length).filter (posB n k S BL p m))) (h2:O.Pairwise fun a b=>¬evLt (evI m b) (evI m a)):O=stepsP n k S BL p m:=by
 obtain⟨s1,s2⟩:=mvS_srt m (S.getD p 0);rw[pos_ix] at h1;unfold stepsP;have h3:=(s1.filter (posB n k S BL p m)).symm;refine List.Perm.eq_of_pairwise (le:=fun a b=>¬evLt (evI m b) (evI m a)) (fun a b ha hb h3 h4=>?_) h2 (s2.sublist List.filter_sublist) (h1.trans h3);have ha':=(List.mem_filter.1 (h1.mem_iff.1 ha)).1;have hb':=s1.mem_iff.1 (List.mem_filter.1 hb).1;obtain⟨x,hx,hxf⟩:=outIx_mem.1 ha';obtain⟨y,hy,hyf⟩:=outIx_mem.1 hb';by_cases e:a=b
 .exact e
 .have:=(hD a b x y hx hy e (by rw[hxf,hyf])).1;rw[evI_of hx,evI_of hy] at h3 h4;exact absurd (evLt_of h3 this) h4
theorem stepsP_len {n:Nat} {k:Int} {S:List Int} {BL:List (List Int)} {p:Nat} {m:Mch}:(stepsP n k S BL p m).length<=m.mv.length:=by
 unfold stepsP;refine Yys (List.length_filter_le _ _) ?_;rw[(mvS_srt m (S.getD p 0)).1.length_eq];unfold outIx;refine Yys (List.length_filter_le _ _) ?_;rw[Yyd];exact Yyt _
theorem stpRows (p:Nat) (O:List Nat):(O.map fun i=>(p,i)).map stpC=O.map (stC (p:Int)):=by rw[List.map_map];rfl
theorem strows (p:Int) (l:List Nat):∀r∈l.map (stC p),r.length=2:=fun r hr=>by obtain⟨x,_,rfl⟩:=Yp.1 hr;rfl
theorem stepsR_len {n:Nat} {k:Int} {S:List Int} {BL:List (List Int)} {L:List Mch} (hV:SysV L) (p:Nat):(stepsR n k S BL L p).length<=400:=by
 unfold stepsR;cases h:L[p]? with
 | none=>exact Nat.zero_le _
 | some m=>
  show (List.map _ _).length<=400;rw[Yc];exact Yys stepsP_len (hV.m p m h).2.1.n.ml
theorem steps_len {n:Nat} {k:Int} {S:List Int} {BL:List (List Int)} {L:List Mch} (hV:SysV L):∀i,((List.range i).flatMap (stepsR n k S BL L)).length<=i*400
 | 0=>Nat.zero_le _
 | i+1=>by
  have h1:=steps_len (n:=n) (k:=k) (S:=S) (BL:=BL) hV i;have h2:=stepsR_len (n:=n) (k:=k) (S:=S) (BL:=BL) hV i;rw[List.range_succ,List.flatMap_append,Yh,List.flatMap_cons,List.flatMap_nil,Yw];omega
theorem steps47 (L:List MR) (s:Sl) (k:Int) (ss sb:Sl) (S:List Int) (B:List Bx) (h:Heap) (hS:SyI h s L) (hV:SysV (L.map MR.m)) (hC:CfI h ss sb S B) (hSl:S.length=L.length) (hBl:B.length=L.length*L.length) :
  Fn Pz 59 #[.slice s.a s.n s.c,.int .i64 k,.agg ⟨[.slice ss.a ss.n ss.c,.slice sb.a sb.n sb.c]⟩] h fun v h'=>Ext h h'/\∃r:Sl,v=.slice r.a r.n r.c/\RL h' 2 r stpC (stepsS (L.map MR.m) k S (B.map Bx.l)):=by
 apply vc59 s k ss sb;unfold W59;have hn:=hS.r.ln;have hlm:(L.map MR.m).length=L.length:=Yc _;have hV6:=hV.n;rw[hlm] at hV6;generalize hBB:B.map Bx.l=BL at *;have hLL:stepsS (L.map MR.m) k S BL=(List.range L.length).flatMap (stepsR L.length k S BL (L.map MR.m)):=by unfold stepsS;rw[hlm]
 refine (St.refl h).newb fun h3 hs=>?_;have hs:=hs.nil_ 43 2;refine⟨fun out x h' μ=>∃i:Nat,x=(i:Int)/\μ=L.length-i/\i<=L.length/\St h h' [.sl out 43 2 (((List.range i).flatMap (stepsR L.length k S BL (L.map MR.m))).map stpC),.blk h.size [.slice ss.a ss.n ss.c,.slice sb.a sb.n sb.c] 52],⟨_,0,rfl,rfl,Nat.zero_le _,hs⟩,?_⟩;clear hs;rintro-out _ h9 μ ⟨i,rfl,rfl,hi,hs⟩;have hon:=(hs.rows 0 (s:=out) (cs:=stpC) rfl (by omega)).ln;have hol:=steps_len (n:=L.length) (k:=k) (S:=S) (BL:=BL) hV i;refine sBi (fun c1=>?_) (fun c1=>?_)
 .obtain⟨y,gy⟩:=get_some (l:=L) (i:=i) (by omega);have gm:(L.map MR.m)[i]?=some y.m:=by rw[Yd,gy];rfl
  have hyi:=hS.i y (Yb gy);have hvm:=hV.m i y.m gm;have hgn:=hyi.pm.ln;have hml:=hvm.2.1.n.ml;refine (hS.r.rw.ext hs.ext).nbI (by omega) (by omega) fun b o y' gy' t=>?_;rw[Ys] at gy';replace gy':L[i]?=some y':=gy';rw[gy] at gy';cases gy';refine⟨_,_,_,_,_,_,t,?_⟩;refine hs.newput (vs:=mC y.m y.f y.g y.l) rfl rfl fun h19 hs=>?_;refine⟨y.g,hs.rd 0 rfl (i:=4) rfl,?_⟩;have hs:=hs.nil_ 43 2;refine⟨fun l x h' μ=>∃j:Nat,x=(j:Int)/\μ=y.m.mv.length-j/\j<=y.m.mv.length/\St h h' [.sl l 43 2 (((List.range j).filter (posB L.length k S BL i y.m)).map (stC (i:Int))),.blk h9.size (mC y.m y.f y.g y.l) 98,.sl out 43 2 (((List.range i).flatMap (stepsR L.length k S BL (L.map MR.m))).map stpC),.blk h.size [.slice ss.a ss.n ss.c,.slice sb.a sb.n sb.c] 52]/\((List.range j).filter (posB L.length k S BL i y.m)=[]->l.a=none),⟨_,0,rfl,rfl,Nat.zero_le _,hs,fun _=>rfl⟩,?_⟩;clear hs;rintro-l _ h26 μ ⟨j,rfl,rfl,hj,hs,hnil⟩;have hln:=(hs.rows 0 (s:=l) (cs:=stC (i:Int)) rfl (by omega)).ln;have hll:((List.range j).filter (posB L.length k S BL i y.m)).length<=j:=Yys (List.length_filter_le _ _) (by rw[Yyd];exact Yyt _);refine sBi (fun c2=>?_) (fun c2=>?_)
  .obtain⟨x,gx⟩:=get_some (l:=y.m.mv) (i:=j) (by omega);have hxm:=Yb gx;have hx0:0<=x.peer:=(hvm.2.1.n.mv x hxm).2.2.2.2.1;have hx1:x.peer<(L.length:Int):=by have:=hvm.2.2 x hxm;rw[hlm] at this;exact this
   refine (hyi.pm.rw.ext hs.ext).nbI (by omega) (by omega) fun b2 o2 x' gx' t2=>?_;rw[Ys] at gx';replace gx':y.m.mv[j]?=some x':=gx';rw[gx] at gx';cases gx';refine⟨_,_,_,_,_,_,t2,?_⟩;refine hs.newput (vs:=x.cs) rfl rfl fun h36 hs=>?_;refine⟨ss,sb,hs.at 4 rfl (o:=0) (n:=2) rfl,_,_,_,_,_,_,hs.at 0 rfl (o:=0) (n:=6) rfl,?_⟩;rw[hn];refine (can58 L.length k ss sb S B i x h36 (hC.ext hs.ext) hV6.2 hSl hBl (by omega) hx0 hx1).mono ?_;rintro _ h47 ⟨rfl,E⟩;have hs:=(hs.step E).drop 1;rw[hBB];have hmd:mvD y.m j=x:=mvD_of gx;refine⟨_,rfl,sBe (fun c3=>?_) (fun c3=>?_)⟩
   .have hp:posB L.length k S BL i y.m j=true:=by unfold posB;rw[hmd];exact decide_eq_true c3
    refine hs.app 0 (s:=l) (n:=2) (rows:=((List.range j).filter (posB L.length k S BL i y.m)).map (stC (i:Int))) rfl app35 (m:=1) [stC (i:Int) j] rfl rfl (fun r hr=>by rw[Ye] at hr;rw[hr];rfl) rfl (by omega) (by simp only[maxLen];omega) fun r h50 nr hs=>?_;refine⟨_,(show y.m.mv.length-(j+1)<y.m.mv.length-j by omega),j+1,by rw[w64 (by omega) (by omega)];omega,rfl,by omega,?_,?_⟩
    .rw[List.range_succ,List.filter_append,List.filter_cons_of_pos hp,List.filter_nil,Ym];exact hs
    .intro e;rw[List.range_succ,List.filter_append,List.filter_cons_of_pos hp] at e;exact absurd (List.append_eq_nil_iff.1 e).2 (by simp)
   .have hp:posB L.length k S BL i y.m j=false:=by unfold posB;rw[hmd];exact decide_eq_false c3
    have e1:(List.range (j+1)).filter (posB L.length k S BL i y.m)=(List.range j).filter (posB L.length k S BL i y.m):=by
     rw[List.range_succ,List.filter_append,List.filter_cons_of_neg (by rw[hp];exact Bool.false_ne_true),List.filter_nil,Yw]
    exact⟨_,(show y.m.mv.length-(j+1)<y.m.mv.length-j by omega),j+1,by rw[w64 (by omega) (by omega)];omega,rfl,by omega,by rw[e1];exact hs,by rw[e1];exact hnil⟩
  .have hjl:j=y.m.mv.length:=by omega
   subst hjl;have hbg:([.sl l 43 2 (((List.range y.m.mv.length).filter (posB L.length k S BL i y.m)).map (stC (i:Int))),.blk h9.size (mC y.m y.f y.g y.l) 98,.sl out 43 2 (((List.range i).flatMap (stepsR L.length k S BL (L.map MR.m))).map stpC),.blk h.size [.slice ss.a ss.n ss.c,.slice sb.a sb.n sb.c] 52]:List It)[0]?=some (.sl l 43 2 (((List.range y.m.mv.length).filter (posB L.length k S BL i y.m)).map (stC (i:Int)))):=rfl;have hap:l.a.map (·.block)≠some h9.size:=fun e=>by
    have h1:=(List.pairwise_cons.1 hs.ap).1 (.blk h9.size (mC y.m y.f y.g y.l) 98) (Yx);exact h1 h9.size e rfl
   have hfr:∀b,l.a.map (·.block)=some b->h.size<=b:=fun b hb=>(hs.ok _ Yx).2 b hb;refine (sort80 y.m y.g ⟨h9.size,0,none⟩ (i:Int) hs 0 hbg (fun x hx=>List.mem_range.1 (List.mem_filter.1 hx).1) hnil (by omega) (by omega) fun h' hsz hoth=>?_).mono ?_
   .have E':Ext h h':=⟨Yys hs.ext.1 hsz,fun c hc=>by
     rw[hoth c (by have:=hs.ext.1;omega) fun e=>by have:=hfr c e;omega];exact hs.ext.2 c hc⟩
    refine⟨?_,hyi.pm.rw.ext E'⟩;have h1:hc h26 ⟨h9.size,0+4,none⟩=some (.slice y.g.a y.g.n y.g.c):=hs.rd 1 rfl rfl;rw[hc_of_block (h:=h26) (h':=h') (a:=⟨h9.size,0+4,none⟩) (by
     show h'[h9.size]?=h26[h9.size]?;exact hoth h9.size (hc_blk h1) hap)]
    exact h1
   .rintro _ h54 ⟨rfl,l',hp',hw',hs⟩;refine⟨rfl,?_⟩;have hu:l'=stepsP L.length k S BL i y.m:=steps_uniq hvm.2.1.d hp' (hw'.imp fun {a b} hab=>by rw[evI_mvD,evI_mvD];exact hab);subst hu;have hs:St h h54 [.sl l 43 2 ((stepsP L.length k S BL i y.m).map (stC (i:Int))),.blk h9.size (mC y.m y.f y.g y.l) 98,.sl out 43 2 (((List.range i).flatMap (stepsR L.length k S BL (L.map MR.m))).map stpC),.blk h.size [.slice ss.a ss.n ss.c,.slice sb.a sb.n sb.c] 52]:=hs;have hln2:=(hs.rows 0 (s:=l) (cs:=stC (i:Int)) rfl (by omega)).ln;have hpl:(stepsP L.length k S BL i y.m).length<=y.m.mv.length:=stepsP_len;refine hs.appRw 2 (rows:=((List.range i).flatMap (stepsR L.length k S BL (L.map MR.m))).map stpC) (news:=(stepsP L.length k S BL i y.m).map (stC (i:Int))) rfl app35 (y:=l) (hs.rw 0 rfl (by omega)) (strows _ _) (hs.len 0 rfl (by omega)).2.2 (flat_oneB (fun _=>rfl) _) (by omega) (by simp only[maxLen];omega) fun r h56 nr hs=>?_;refine⟨_,(show L.length-(i+1)<L.length-i by omega),i+1,by rw[w64 (by omega) (by omega)];omega,rfl,by omega,?_⟩;have e1:stepsR L.length k S BL (L.map MR.m) i=(stepsP L.length k S BL i y.m).map fun q=>(i,q):=by unfold stepsR;rw[gm]
    rw[List.range_succ,List.flatMap_append,List.flatMap_cons,List.flatMap_nil,Yw,Ym,e1,stpRows];exact hs.sub (.cons _ (.cons _ (.cons_cons _ (.cons_cons _ (List.nil_sublist _)))))
 .have hil:i=L.length:=by omega
  subst hil;refine⟨hs.ext,out,rfl,?_⟩;rw[hLL];have:=hs.len 0 (s:=out) rfl (by omega);exact⟨hs.rows 0 rfl (by omega),this.2.1,this.2.2,by omega⟩
theorem steps16 (L:List MR) (s:Sl) (k:Int) (ss sb:Sl) (S:List Int) (B:List Bx) (h:Heap) (hS:SyI h s L) (hC:CfI h ss sb S B) :
  Fn Pz 97 #[.slice s.a s.n s.c,.int .i64 k,.agg ⟨[.slice ss.a ss.n ss.c,.slice sb.a sb.n sb.c]⟩] h fun v h'=>Ext h h'/\∃(r:Sl) (e:Int) (l:List (Nat × Nat)),v=.tuple ⟨[.slice r.a r.n r.c,.int .i64 e]⟩/\RL h' 2 r stpC l/\(ProS (L.map MR.m) k S (B.map Bx.l)->e=0/\l=stepsS (L.map MR.m) k S (B.map Bx.l))/\(¬ProS (L.map MR.m) k S (B.map Bx.l)->e=1/\l=[]):=by
 apply vc97 s k ss sb;unfold W97;have hlm:(L.map MR.m).length=L.length:=Yc _;have hbm:(B.map Bx.l).length=B.length:=Yc _;refine (St.refl h).newb fun h3 hs=>?_;refine⟨ss,sb,hs.at 0 rfl (o:=0) (n:=2) rfl,?_⟩;refine (proper24 L s k ss sb S B h3 (hS.ext hs.ext) (hC.ext hs.ext)).mono ?_;rintro _ h8 ⟨⟨b,rfl,hb⟩,E⟩;have hs:=hs.step E;refine⟨_,rfl,sB_intro (fun c=>?_) (fun c=>?_)⟩
 .have hn:¬ProS (L.map MR.m) k S (B.map Bx.l):=fun hp=>by rw[hb.2 hp] at c;cases c
  exact⟨hs.ext,⟨none,0,0⟩,1,[],rfl,⟨Rw.nil,Yyt _,fun _=>⟨rfl,rfl⟩,Nat.zero_le _⟩,fun hp=>absurd hp hn,fun _=>⟨rfl,rfl⟩⟩
 .have hp:=hb.1 (bT c);have h1:=hp.p.s;have h2:=hp.p.b;rw[hlm] at h1;rw[hbm,hlm] at h2;refine⟨ss,sb,hs.at 0 rfl (o:=0) (n:=2) rfl,?_⟩;refine (steps47 L s k ss sb S B h8 (hS.ext hs.ext) hp.v (hC.ext hs.ext) h1 h2).mono ?_;rintro _ h13 ⟨E,r,rfl,hr⟩;exact⟨r,rfl,(hs.step E).ext,r,0,_,rfl,hr,fun _=>⟨rfl,rfl⟩,fun hn=>absurd hp hn⟩
def StaV (L:List Mch) (h:Heap) (v:Value) (h':Heap):Prop:=∃(ss sb:Sl) (S:List Int) (B:List Bx) (e:Int) (A:List It),v=.tuple ⟨[cfA ss sb,.int .i64 e]⟩/\St h h' A/\CfM A ss sb S B/\(SysV L->e=0/\S=startS L/\B=List.replicate (L.length*L.length) bx0)/\(¬SysV L->e=1/\S=[]/\B=[])
theorem St.nil2 {h0 h:Heap} {A:List It} (hs:St h0 h A):St h0 h ([.sl ⟨none,0,0⟩ 3 1 [],.sl ⟨none,0,0⟩ 25 1 []]++A):=(hs.nil_ 25 1).nil_ 3 1
theorem start14 (L:List MR) (s:Sl) (h:Heap) (hS:SyI h s L):Fn Pz 53 #[.slice s.a s.n s.c] h fun v h'=>StaV (L.map MR.m) h v h':=by
 apply vc53 s;unfold W53;have hn:=hS.r.ln;have hlm:(L.map MR.m).length=L.length:=Yc _;refine (St.refl h).newb fun h1 hs=>?_;refine (valid22 L s h1 (hS.ext hs.ext)).mono ?_;rintro _ h4 ⟨⟨b,rfl,hb⟩,E⟩;have hs:=hs.step E;refine⟨_,rfl,sB_intro (fun c=>?_) (fun c=>?_)⟩
 .have hn:¬SysV (L.map MR.m):=fun hp=>by rw[hb.2 hp] at c;cases c
  refine hs.put 0 rfl (o:=0) (vs:=[.slice none 0 0,.slice none 0 0]) rfl (show 2<=2 by decide) fun h5 hs=>?_;exact⟨⟨none,0,0⟩,⟨none,0,0⟩,hs.at 0 rfl (o:=0) (n:=2) rfl,_,_,[],[],1,_,rfl,hs.nil2,CfM.none_.mono fun i hi=>List.mem_append_left _ hi,fun hp=>absurd hp hn,fun _=>⟨rfl,rfl,rfl⟩⟩
 .have hv:=hb.1 (bT c);have h6:=hv.n;rw[hlm] at h6;have h36:=sq6 h6.2;have hsq:(s.n:Int)*(s.n:Int)=((L.length*L.length:Nat):Int):=by rw[hn];rfl
  generalize hnn:L.length*L.length=nn at *;rw[hsq,w64 (n:=((nn:Nat):Int)) (by omega) (by omega),Ys];refine⟨⟨by omega,by omega,by omega⟩,?_⟩;refine hs.newb fun h8 hs=>?_;have hs:=hs.blkS nn 1 ((List.replicate nn bx0).map Bx.cs) (by rw[made42,List.map_replicate,List.map_replicate];rfl) (bxrows _) (by rw[Yc,Yg]) (by simp only[maxLen];omega);refine hs.newput (vs:=[.slice none 0 0,.slice (some ⟨h4.size,0,none⟩) nn nn]) rfl rfl fun h10 hs=>?_;have hs:=hs.nil_ 3 1;have hSl:(startS (L.map MR.m)).length=L.length:=by unfold startS;rw[Yc,Yc]
  refine⟨fun x h' μ=>∃(i:Nat) (st:Sl),x=(i:Int)/\μ=L.length-i/\i<=L.length/\St h h' [.sl st 3 1 (((startS (L.map MR.m)).take i).map inC),.blk h8.size [.slice st.a st.n st.c,.slice (some ⟨h4.size,0,none⟩) nn nn] 52,.sl ⟨some ⟨h4.size,0,none⟩,nn,nn⟩ 25 1 ((List.replicate nn bx0).map Bx.cs),.blk h.size [.slice none 0 0,.slice none 0 0] 52],⟨_,0,_,rfl,rfl,Nat.zero_le _,hs⟩,?_⟩;clear hs;rintro-_ h15 μ ⟨i,st,rfl,rfl,hi,hs⟩;refine sBi (fun c=>?_) (fun c=>?_)
  .obtain⟨y,gy⟩:=get_some (l:=L) (i:=i) (by omega);have gs:(startS (L.map MR.m))[i]?=some y.m.s:=by unfold startS;rw[Yd,Yd,gy];rfl
   have hst:=(hs.rows 0 (s:=st) (cs:=inC) rfl (by omega)).ln;rw[Yu] at hst;refine (hS.r.rw.ext hs.ext).nbI (by omega) (by omega) fun b o y' gy' t=>?_;rw[Ys] at gy';replace gy':L[i]?=some y':=gy';rw[gy] at gy';cases gy';refine⟨_,_,_,_,_,_,t,?_⟩;refine hs.newput (vs:=mC y.m y.f y.g y.l) rfl rfl fun h25 hs=>?_;refine⟨st,hs.rd 2 rfl rfl,_,hs.rd 0 rfl (i:=2) rfl,?_⟩;refine hs.app 1 (s:=st) (n:=1) (rows:=((startS (L.map MR.m)).take i).map inC) rfl app42 (m:=1) [inC y.m.s] rfl rfl (fun r hr=>by rw[Ye] at hr;rw[hr];rfl) rfl (by omega) (by simp only[maxLen];omega) fun r h30 nr hs=>?_;refine hs.put 2 rfl (o:=0) (vs:=[.slice r.a r.n r.c]) rfl (show 1<=2 by decide) fun h31 hs=>?_;refine⟨_,(show L.length-(i+1)<L.length-i by omega),i+1,r,by rw[w64 (by omega) (by omega)];omega,rfl,by omega,?_⟩;rw[take_snoc gs,Ym];exact hs.drop 1
  .have hil:i=L.length:=by omega
   subst hil;rw[Yj (by omega)] at hs;refine⟨st,⟨some ⟨h4.size,0,none⟩,nn,nn⟩,hs.at 1 rfl (o:=0) (n:=2) rfl,?_⟩;refine hs.put 3 rfl (o:=0) (vs:=[.slice st.a st.n st.c,.slice (some ⟨h4.size,0,none⟩) nn nn]) rfl (show 2<=2 by decide) fun h35 hs=>?_;refine⟨st,⟨some ⟨h4.size,0,none⟩,nn,nn⟩,hs.at 3 rfl (o:=0) (n:=2) rfl,st,_,_,_,0,_,rfl,hs,?_,fun _=>⟨rfl,rfl,by rw[hlm,hnn]⟩,fun hn=>absurd hv hn⟩;refine⟨Yx,Yn _ (Yn _ Yx),fun q hq=>.inl (List.eq_of_mem_replicate hq),by omega,by rw[Yg];omega,fun q hq=>?_⟩;rw[List.eq_of_mem_replicate hq];exact Nat.zero_le _
theorem app22:appB Pz 22 98 6 96=true:=by kernel_rfl
structure MrM (A:List It) (x:MR):Prop where
 f:It.sl x.f 4 1 (x.m.fin.map bC)∈A
 g:It.sl x.g 110 6 (x.m.mv.map Mv.cs)∈A
 l:It.sl x.l 230 3 (x.m.li.map To.cs)∈A
 n:x.m.fin.length<=1048576/\x.m.mv.length<=1048576/\x.m.li.length<=1048576
theorem MrM.mono {A A':List It} {x:MR} (h:MrM A x) (hA:∀i∈A,i∈A'):MrM A' x:=⟨hA _ h.f,hA _ h.g,hA _ h.l,h.n⟩
theorem MrM.mi {h0 h:Heap} {A:List It} {x:MR} (hs:St h0 h A) (hM:MrM A x):MI h x.m x.f x.g x.l:=by
 obtain⟨k1,e1⟩:=Yf.1 hM.f;obtain⟨k2,e2⟩:=Yf.1 hM.g;obtain⟨k3,e3⟩:=Yf.1 hM.l;exact⟨hs.rl k1 e1 (by omega) hM.n.1,hs.rl k2 e2 (by omega) hM.n.2.1,hs.rl k3 e3 (by omega) hM.n.2.2⟩
theorem all43 (g:Gl) (h:Heap) (hg:GI h g) (hx:Gx h) (hV:ValidS g) (Lm:List Mch) (hn:Lm.length=g.hr.n) (h6:Lm.length<=1048576)
  (hp:∀(i:Nat) m,Lm[i]?=some m->proj g (i:Int)=(some m,0)/\m.fin.length<=1048576/\m.mv.length<=1048576/\m.li.length<=1048576) :
  Fn Pz 33 #[g.v] h fun v h'=>∃(s:Sl) (L:List MR),v=.tuple ⟨[.slice s.a s.n s.c,.int .i64 0]⟩/\Ext h h'/\L.map MR.m=Lm/\SyI h' s L:=by
 apply vc33 (bs g.nm) g.hr g.hd g.n g.s g.e g.he g.ht;unfold W33;refine (St.refl h).newb fun h9 hs=>?_;refine⟨_,_,_,_,_,_,_,_,hs.at 0 rfl (o:=0) (n:=8) rfl,?_⟩;refine (valid38 g h9 (hg.ext hs.ext) (hx.ext hs.ext)).mono ?_;rintro _ h20 ⟨rfl,E⟩;have hs:=hs.step E;refine⟨_,rfl,?_⟩;refine sB_f (by rw[decide_eq_true hV];rfl) ?_;refine⟨g.hr,hs.rd 0 rfl (i:=1) rfl,?_⟩;have hs:=hs.nil_ 98 6;refine⟨fun out x h' μ=>∃(i:Nat) (L:List MR) (A:List It),x=(i:Int)/\μ=Lm.length-i/\i<=Lm.length/\L.map MR.m=Lm.take i/\St h h' (.sl out 98 6 (L.map MR.cs) :: .blk h.size [.string (bs g.nm),.slice g.hr.a g.hr.n g.hr.c,.slice g.hd.a g.hd.n g.hd.c,.int .i64 g.n,.int .i64 g.s,.int .i64 g.e,.slice g.he.a g.he.n g.he.c,.slice g.ht.a g.ht.n g.ht.c] 92::A)/\∀x∈L,MrM A x,⟨_,0,[],[],rfl,rfl,Nat.zero_le _,rfl,hs,fun x hx=>(by cases hx)⟩,?_⟩;clear hs;rintro-out _ h27 μ ⟨i,L,A,rfl,rfl,hi,hL,hs,hM⟩;have hLl:L.length=i:=by have:=congrArg List.length hL;rw[Yc,Yu] at this;omega
 have hst:=(hs.rows 0 (s:=out) (cs:=MR.cs) rfl (by omega)).ln;refine sBi (fun c=>?_) (fun c=>?_)
 .obtain⟨m',gm⟩:=get_some (l:=Lm) (i:=i) (by omega);obtain⟨hpr,hb⟩:=hp i m' gm;refine⟨_,_,_,_,_,_,_,_,hs.at 1 rfl (o:=0) (n:=8) rfl,?_⟩;refine (project12 g (i:Int) h27 (hg.ext hs.ext) (hx.ext hs.ext)).mono ?_;rintro _ h44 ⟨-,hm⟩;rw[hpr] at hm;cases hm with
  | err he0 _=>cases he0
  | @ok m sf sm sl he0 hs2=>
   cases he0;have hs:=hs.join hs2;refine⟨_,_,_,sf,sm,sl,0,rfl,?_⟩;refine hs.newput (vs:=mC m' sf sm sl) rfl rfl fun h46 hs=>?_;refine sB_f rfl ?_;refine⟨_,_,_,sf,sm,sl,hs.at 0 rfl (o:=0) (n:=6) rfl,?_⟩;refine hs.app 1 (s:=out) (n:=6) (rows:=L.map MR.cs) rfl app22 (m:=1) [mC m' sf sm sl] rfl rfl (fun r hr=>by rw[Ye] at hr;rw[hr];rfl) rfl (by omega) (by simp only[maxLen];omega) fun r h55 nr hs=>?_;refine⟨_,(show Lm.length-(i+1)<Lm.length-i by omega),i+1,L++[⟨m',sf,sm,sl⟩],A++[.sl sf 4 1 (m'.fin.map bC),.sl sm 110 6 (m'.mv.map Mv.cs),.sl sl 230 3 (m'.li.map To.cs)],by rw[w64 (by omega) (by omega)];omega,rfl,by omega,?_,?_,?_⟩
   .rw[take_snoc gm,Ym,hL];rfl
   .rw[Ym];exact hs.drop 1
   .intro x hx;rcases Yk.1 hx with hx | hx
    .exact (hM x hx).mono fun j hj=>List.mem_append_left _ hj
    .rw[Ye] at hx;subst hx;exact⟨List.mem_append_right _ (Yx),List.mem_append_right _ (Yn _ Yx),List.mem_append_right _ (Yn _ (Yn _ Yx)),hb⟩
 .have hil:i=Lm.length:=by omega
  rw[hil,Yj (Yyt _)] at hL;refine⟨out,L,rfl,hs.ext,hL,hs.rl 0 rfl (by omega) (by omega),fun x hx=>?_⟩;exact MrM.mi hs ((hM x hx).mono fun j hj=>Yn _ (Yn _ hj))
theorem clone92 (l:List Int) (s:Sl) (h:Heap) (hr:RL h 1 s inC l):Fn Pz 126 #[.slice s.a s.n s.c] h fun v h'=>∃t:Sl,v=.slice t.a t.n t.c/\St h h' [.sl t 3 1 (l.map inC)]:=by
 apply vc126 s;unfold W126;have hn:=hr.ln;have hsm:=hr.sm;refine sB_intro (fun c=>?_) (fun c=>?_)
 .have h0:=hr.nil (Option.isNone_iff_eq_none.1 c);have:l=[]:=List.eq_nil_of_length_eq_zero (by omega);subst this;exact⟨⟨none,0,0⟩,rfl,(St.refl h).nil_ 3 1⟩
 .refine (St.refl h).newb fun h1 hs=>?_;have hs:=hs.blkS 0 1 [] rfl (fun r hr=>by cases hr) rfl (Nat.zero_le _);refine hs.appRw 0 (s:=⟨some ⟨h.size,0,none⟩,0,0⟩) (rows:=[]) (y:=s) rfl app42 (hr.rw.ext hs.ext) (inrows' l) hr.nil (flat_oneB (fun _=>rfl) _) (by show (0+s.n)*8<=_;omega) (by show 0+s.n<=_;simp only[maxLen];omega) fun r h3 _ hs=>?_;exact⟨r,rfl,hs⟩
def clB (ob b0 b3:Nat) (h12:Heap) (R:Value->Heap->Prop):Prop:=
 (∃x13:Sl,hc h12 ⟨b0,1,none⟩=some (.slice x13.a x13.n x13.c) /\ 
 (∃I14:Int->Heap->Nat->Prop,(∃m15,I14 0 h12 m15) /\ 
 (∀(_:Env) (x_17:Int) (h18:Heap) (m16:Nat),I14 x_17 h18 m16 -> 
 (sB (decide (x_17<(x13.n:Int))) 
  ((NB x13.a fun b19 o20=>((0<=(x_17:Int)/\(x_17:Int)<(x13.n:Nat)) /\ 
  (∃x21:Sl,hc h18 ⟨b19,o20+Int.toNat x_17*1,none⟩=some (.slice x21.a x21.n x21.c) /\ 
  (∃x22:Sl,hc h18 ⟨ob,1,none⟩=some (.slice x22.a x22.n x22.c) /\ 
  (Fn Pz 126 #[.slice x21.a x21.n x21.c] h18 
  (fun v23 h25=>∃x24:Sl,v23=.slice x24.a x24.n x24.c /\ 
  (Sm [⟨ob,1,none⟩] h18 h25 /\ 
  (NB x22.a fun b26 o27=>((0<=(x_17:Int)/\(x_17:Int)<(x22.n:Nat)) /\ 
  (okAt h25 ⟨b26,o27+Int.toNat x_17*1,none⟩ 1/\∀h28:Heap,h28=hputs h25 ⟨b26,o27+Int.toNat x_17*1,none⟩ 0 [.slice x24.a x24.n x24.c] -> 
  (∃m29,m29<m16/\I14 (IntKind.wrap .i64 (x_17+1)) h28 m29)))))))))))) 
  ((∃x30:Sl,∃x31:Sl,atC h18 ⟨ob,0,none⟩ [.slice x30.a x30.n x30.c,.slice x31.a x31.n x31.c] /\ 
  (okAt h18 ⟨b3,0,none⟩ 2/\∀h32:Heap,h32=hputs h18 ⟨b3,0,none⟩ 0 [.slice x30.a x30.n x30.c,.slice x31.a x31.n x31.c] -> 
  (∃x33:Sl,∃x34:Sl,atC h32 ⟨b3,0,none⟩ [.slice x33.a x33.n x33.c,.slice x34.a x34.n x34.c] /\ 
  R (.agg ⟨[.slice x33.a x33.n x33.c,.slice x34.a x34.n x34.c]⟩) h32))))))))
def CloV (S:List Int) (B:List Bx) (h:Heap) (v:Value) (h':Heap):Prop:=∃(ts tb:Sl) (T:List Bx),v=cfA ts tb/\T.map Bx.l=B.map Bx.l/\St h h' ([.sl ts 3 1 (S.map inC),.sl tb 25 1 (T.map Bx.cs)]++T.map Bx.it)
theorem set_grow {α:Type} {T:List α} {i k:Nat} {z x:α} (hT:T.length=i):(T++List.replicate (k+1) z).set i x=(T++[x])++List.replicate k z:=by
 subst hT;rw[List.set_append_right _ _ (Yyt _),Nat.sub_self,List.replicate_succ,List.set_cons_zero,Yz];rfl
theorem cloneB (ob b0 b3:Nat) (ss sb ts tb u1 u2:Sl) (S:List Int) (B:List Bx) (h h12:Heap) (hC:CfI h ss sb S B)
  (hs:St h h12 [.blk ob [.slice ts.a ts.n ts.c,.slice tb.a tb.n tb.c] 52,.sl tb 25 1 ((List.replicate B.length bx0).map Bx.cs),.blk b3 [.slice u1.a u1.n u1.c,.slice u2.a u2.n u2.c] 52,.blk b0 [.slice ss.a ss.n ss.c,.slice sb.a sb.n sb.c] 52,.sl ts 3 1 (S.map inC)]) :
  clB ob b0 b3 h12 (CloV S B h):=by
 unfold clB;have hbn:=hC.b.ln;have hbs:=hC.b.sm;refine⟨sb,hs.rd 3 rfl (i:=1) rfl,?_⟩;refine⟨fun x h' μ=>∃(i:Nat) (T:List Bx),x=(i:Int)/\μ=B.length-i/\i<=B.length/\T.map Bx.l=(B.take i).map Bx.l/\St h h' (.blk ob [.slice ts.a ts.n ts.c,.slice tb.a tb.n tb.c] 52 :: .sl tb 25 1 ((T++List.replicate (B.length-i) bx0).map Bx.cs) :: .blk b3 [.slice u1.a u1.n u1.c,.slice u2.a u2.n u2.c] 52 :: .blk b0 [.slice ss.a ss.n ss.c,.slice sb.a sb.n sb.c] 52 :: .sl ts 3 1 (S.map inC)::T.map Bx.it),⟨_,0,[],rfl,rfl,Nat.zero_le _,rfl,hs⟩,?_⟩;clear hs;rintro-_ h18 μ ⟨i,T,rfl,rfl,hi,hT,hs⟩;have hTl:T.length=i:=by have:=congrArg List.length hT;rw[Yc,Yc,Yu] at this;omega
 have htb:=(hs.rows 1 (s:=tb) (cs:=Bx.cs) rfl (by omega)).ln;rw[Yh,Yg] at htb;refine sBi (fun c=>?_) (fun c=>?_)
 .obtain⟨q,gq⟩:=get_some (l:=B) (i:=i) (by omega);refine (hC.b.rw.ext hs.ext).nbI (by omega) (by omega) fun b o q' gq' t=>?_;rw[Ys] at gq';rw[gq] at gq';cases gq';refine⟨q.s,t.hd,tb,hs.rd 0 rfl (i:=1) rfl,?_⟩;refine (clone92 q.l q.s h18 ((hC.i q (Yb gq)).ext hs.ext)).mono ?_;rintro _ h25 ⟨u,rfl,hs2⟩;have hs:=hs.join hs2;refine⟨u,rfl,hs2.ext.sm,?_⟩;refine hs.set 1 (s:=tb) (cs:=Bx.cs) (x:=(i:Int)) rfl (by omega) (by omega) (by omega) (⟨u,q.l⟩:Bx) rfl rfl (fun b o h28 hs=>?_) rfl;refine⟨_,(show B.length-(i+1)<B.length-i by omega),i+1,T++[⟨u,q.l⟩],by rw[w64 (by omega) (by omega)];omega,rfl,by omega,?_,?_⟩
  .rw[take_snoc gq,Ym,Ym,hT];rfl
  .have e:=set_grow (k:=B.length-(i+1)) (z:=bx0) (x:=(⟨u,q.l⟩:Bx)) hTl;rw[show B.length-(i+1)+1=B.length-i by omega] at e;rw[Ys,e] at hs;rw[Ym (f:=Bx.it)];exact hs
 .have hil:i=B.length:=by omega
  rw[hil,Nat.sub_self,List.replicate_zero,Yw] at hs;rw[hil,Yj (Yyt _)] at hT;refine⟨ts,tb,hs.at 0 rfl (o:=0) (n:=2) rfl,?_⟩;refine hs.put 2 rfl (o:=0) (vs:=[.slice ts.a ts.n ts.c,.slice tb.a tb.n tb.c]) rfl (show 2<=2 by decide) fun h32 hs=>?_;refine⟨ts,tb,hs.at 2 rfl (o:=0) (n:=2) rfl,ts,tb,T,rfl,hT,?_⟩;refine (hs.sub (L':=.sl tb 25 1 (T.map Bx.cs) :: .sl ts 3 1 (S.map inC)::T.map Bx.it) ?_).perm (List.Perm.swap _ _ _);exact List.Sublist.cons _ (List.Sublist.cons_cons _ (List.Sublist.cons _ (List.Sublist.cons _ (List.Sublist.refl _))))
theorem boxes0 (n:Nat):madeL Pz 25 n=((List.replicate n bx0).map Bx.cs).flatten:=by rw[made42,List.map_replicate,List.map_replicate];rfl
theorem clone59 (ss sb:Sl) (S:List Int) (B:List Bx) (h:Heap) (hC:CfI h ss sb S B) :
  Fn Pz 109 #[.agg ⟨[.slice ss.a ss.n ss.c,.slice sb.a sb.n sb.c]⟩] h (CloV S B h):=by
 apply vc109 ss sb;unfold W109 V109b V109a;have hbn:=hC.b.ln;have hbs:=hC.b.sm;refine (St.refl h).newb fun h3 hs=>?_;refine hs.newb fun h4 hs=>?_;refine⟨ss,hs.rd 1 rfl (i:=0) rfl,sb,hs.rd 1 rfl (i:=1) rfl,?_⟩;rw[Ys];have hc:((0:Int)<=(sb.n:Int)/\((sb.n:Int):Int)<=(sb.n:Int)/\((24:Nat):Int)*(sb.n:Int)<=140737488355328):=⟨by omega,by omega,by omega⟩;have mk:∀ {hX:Heap} {b:Nat} {L:List It},St h hX (.blk b (madeL Pz 25 sb.n) 25::L)->St h hX (.sl ⟨some ⟨b,0,none⟩,sb.n,sb.n⟩ 25 1 ((List.replicate B.length bx0).map Bx.cs)::L):=fun hs=>
  hs.blkS sb.n 1 _ (by rw[hbn];exact boxes0 _) (bxrows _) (by rw[Yc,Yg,hbn]) (by simp only[maxLen];omega)
 refine And.intro ?_ (And.intro ?_ ?_)
 .refine (clone92 S ss h4 (hC.s.ext hs.ext)).mono ?_;rintro _ h9 ⟨ts,rfl,hs2⟩;have hs:=hs.join hs2;refine⟨ts,rfl,hs2.ext.sm,And.intro ?_ ?_⟩
  .refine⟨hc,hs.newbE fun h10 E10 hs=>⟨E10.sm,?_⟩⟩;have hs:=mk hs;refine hs.newbE fun h11 E11 hs=>⟨E11.sm,?_⟩;refine hs.put 0 rfl (o:=0) (vs:=[.slice ts.a ts.n ts.c,.slice (some ⟨h9.size,0,none⟩) sb.n sb.n]) rfl (show 2<=2 by decide) fun h12 hs=>?_;exact cloneB _ _ _ ss sb ts ⟨some ⟨h9.size,0,none⟩,sb.n,sb.n⟩ ⟨none,0,0⟩ ⟨none,0,0⟩ S B h h12 hC hs
  .refine hs.newbE fun h10 E10 hs=>⟨E10.sm,hc,?_⟩;refine hs.newbE fun h11 E11 hs=>⟨E11.sm,?_⟩;have hs:=mk hs;refine hs.put 1 rfl (o:=0) (vs:=[.slice ts.a ts.n ts.c,.slice (some ⟨h10.size,0,none⟩) sb.n sb.n]) rfl (show 2<=2 by decide) fun h12 hs=>?_;exact cloneB _ _ _ ss sb ts ⟨some ⟨h10.size,0,none⟩,sb.n,sb.n⟩ ⟨none,0,0⟩ ⟨none,0,0⟩ S B h h12 hC (hs.perm (List.Perm.swap _ _ _))
 .refine⟨hc,hs.newbE fun h10 E10 hs=>⟨E10.sm,?_⟩⟩;have hs:=mk hs;refine And.intro ?_ ?_;refine (clone92 S ss h10 (hC.s.ext hs.ext)).mono ?_;rintro _ h9 ⟨ts,rfl,hs2⟩;have hs:=hs.join hs2;refine⟨ts,rfl,hs2.ext.sm,?_⟩;refine hs.newbE fun h11 E11 hs=>⟨E11.sm,?_⟩;rotate_left;refine hs.newbE fun h11 E11 hs=>⟨E11.sm,?_⟩;refine (clone92 S ss h11 (hC.s.ext hs.ext)).mono ?_;rintro _ h9 ⟨ts,rfl,hs2⟩;have hs:=hs.join hs2;refine⟨ts,rfl,hs2.ext.sm,?_⟩;all_goals
   refine hs.put 0 rfl (o:=0) (vs:=[.slice ts.a ts.n ts.c,.slice (some ⟨h4.size,0,none⟩) sb.n sb.n]) rfl (show 2<=2 by decide) fun h12 hs=>?_;exact cloneB _ _ _ ss sb ts ⟨some ⟨h4.size,0,none⟩,sb.n,sb.n⟩ ⟨none,0,0⟩ ⟨none,0,0⟩ S B h h12 hC hs
 .refine hs.newbE fun h10 E10 hs=>⟨E10.sm,And.intro ?_ ?_⟩
  .refine (clone92 S ss h10 (hC.s.ext hs.ext)).mono ?_;rintro _ h9 ⟨ts,rfl,hs2⟩;have hs:=hs.join hs2;refine⟨ts,rfl,hs2.ext.sm,hc,?_⟩;refine hs.newbE fun h11 E11 hs=>⟨E11.sm,?_⟩;have hs:=mk hs;refine hs.put 1 rfl (o:=0) (vs:=[.slice ts.a ts.n ts.c,.slice (some ⟨h9.size,0,none⟩) sb.n sb.n]) rfl (show 2<=2 by decide) fun h12 hs=>?_;exact cloneB _ _ _ ss sb ts ⟨some ⟨h9.size,0,none⟩,sb.n,sb.n⟩ ⟨none,0,0⟩ ⟨none,0,0⟩ S B h h12 hC (hs.perm (List.Perm.swap _ _ _))
  .refine⟨hc,hs.newbE fun h11 E11 hs=>⟨E11.sm,?_⟩⟩;have hs:=mk hs;refine (clone92 S ss h11 (hC.s.ext hs.ext)).mono ?_;rintro _ h9 ⟨ts,rfl,hs2⟩;have hs:=hs.join hs2;refine⟨ts,rfl,hs2.ext.sm,?_⟩;refine hs.put 1 rfl (o:=0) (vs:=[.slice ts.a ts.n ts.c,.slice (some ⟨h10.size,0,none⟩) sb.n sb.n]) rfl (show 2<=2 by decide) fun h12 hs=>?_;exact cloneB _ _ _ ss sb ts ⟨some ⟨h10.size,0,none⟩,sb.n,sb.n⟩ ⟨none,0,0⟩ ⟨none,0,0⟩ S B h h12 hC (hs.perm (List.Perm.swap _ _ _))
def mvO (L:List Mch) (r i:Int):Option Mv:=if r<0\/(L.length:Int)<=r then none else match L[r.toNat]? with
 | none=>none
 | some m=>if i<0\/(m.mv.length:Int)<=i then none else m.mv[i.toNat]?
def mv00:Mv:=⟨0,false,0,0,0,false⟩
def MovV (o:Option Mv):Value:=match o with
 | none=>.tuple ⟨[.agg ⟨mv00.cs⟩,.bool false]⟩
 | some x=>.tuple ⟨[.agg ⟨x.cs⟩,.bool true]⟩
theorem move57 (L:List MR) (s:Sl) (r i:Int) (h:Heap) (hS:SyI h s L) :
  Fn Pz 107 #[.slice s.a s.n s.c,.agg ⟨[.int .i64 r,.int .i64 i]⟩] h fun v h'=>v=MovV (mvO (L.map MR.m) r i)/\Ext h h':=by
 apply vc107 s r i;unfold W107 V107a;have hn:=hS.r.ln;have hlm:(L.map MR.m).length=L.length:=Yc _;refine (St.refl h).newb fun h3 hs=>?_;refine hs.newb fun h4 hs=>?_;have no:∀ {h5:Heap},St h h5 [.blk h3.size mv00.cs 110,.blk h.size [.int .i64 r,.int .i64 i] 43]->mvO (L.map MR.m) r i=none->(okAt h5 ⟨h3.size,0,none⟩ 6/\∀h6:Heap,h6=hputs h5 ⟨h3.size,0,none⟩ 0 [.int .i64 0,.bool false,.int .i64 0,.int .i64 0,.int .i64 0,.bool false] -> 
   (∃x7:Int,∃x8:Bool,∃x9:Int,∃x10:Int,∃x11:Int,∃x12:Bool,atC h6 ⟨h3.size,0,none⟩ [.int .i64 x7,.bool x8,.int .i64 x9,.int .i64 x10,.int .i64 x11,.bool x12] /\ 
   (Value.tuple ⟨[.agg ⟨[.int .i64 x7,.bool x8,.int .i64 x9,.int .i64 x10,.int .i64 x11,.bool x12]⟩,.bool false]⟩=MovV (mvO (L.map MR.m) r i)/\Ext h h6))):=fun {h5} hs e=>by
  refine hs.put 0 rfl (o:=0) (vs:=mv00.cs) rfl (show 6<=6 by decide) fun h6 hs=>?_;exact⟨_,_,_,_,_,_,hs.at 0 rfl (o:=0) (n:=6) rfl,by rw[e];rfl,hs.ext⟩
 refine⟨_,hs.rd 1 rfl (i:=0) rfl,sBi (fun c=>no hs (by unfold mvO;rw[if_pos (.inl c)])) (fun c1=>?_)⟩;refine⟨_,hs.rd 1 rfl (i:=0) rfl,sBi (fun c=>no hs (by unfold mvO;rw[if_pos (.inr (by omega))])) (fun c2=>?_)⟩;obtain⟨p,rfl⟩:∃p:Nat,r=(p:Int):=⟨r.toNat,by omega⟩;have hp:p<L.length:=by omega
 obtain⟨y,gy⟩:=get_some (l:=L) (i:=p) hp;have gm:(L.map MR.m)[p]?=some y.m:=by rw[Yd,gy];rfl
 have hmv:mvO (L.map MR.m) (p:Int) i=if i<0\/(y.m.mv.length:Int)<=i then none else y.m.mv[i.toNat]?:=by
  unfold mvO;rw[if_neg (by omega),Ys,gm]
 have hyi:=hS.i y (Yb gy);have hgn:=hyi.pm.ln;refine⟨_,hs.rd 1 rfl (i:=1) rfl,sBi (fun c=>no hs (by rw[hmv,if_pos (.inl c)])) (fun c3=>?_)⟩;refine⟨_,hs.rd 1 rfl (i:=1) rfl,_,hs.rd 1 rfl (i:=0) rfl,?_⟩;have rdL:∀ {F:Nat->Nat->Prop} {h':Heap},Ext h h'->(∀b o,atC h' ⟨b,o+p*6,none⟩ y.cs->F b o)->NB s.a fun b o=>(0<=(p:Int)/\(p:Int)<(s.n:Nat))/\F b o:=fun {F h'} E hF=>(hS.r.rw.ext E).nbI (by omega) (by omega) fun b o y' gy' t=>by
  rw[Ys] at gy' t;replace gy':L[p]?=some y':=gy';rw[gy] at gy';cases gy';exact hF b o t
 refine rdL hs.ext fun b1 o1 t1=>?_;refine⟨y.g,t1.nth 4 rfl,sBi (fun c=>no hs (by rw[hmv,if_pos (.inr (by omega))])) (fun c4=>?_)⟩;obtain⟨j,rfl⟩:∃j:Nat,i=(j:Int):=⟨i.toNat,by omega⟩;obtain⟨x,gx⟩:=get_some (l:=y.m.mv) (i:=j) (by omega);refine⟨_,hs.rd 1 rfl (i:=0) rfl,rdL hs.ext fun b2 o2 t2=>?_⟩;refine⟨y.g,t2.nth 4 rfl,_,hs.rd 1 rfl (i:=1) rfl,?_⟩;refine (hyi.pm.rw.ext hs.ext).nbI (by omega) (by omega) fun b3 o3 x' gx' t3=>?_;rw[Ys] at gx';replace gx':y.m.mv[j]?=some x':=gx';rw[gx] at gx';cases gx';refine⟨_,_,_,_,_,_,t3,?_⟩;refine hs.put 0 rfl (o:=0) (vs:=x.cs) rfl (show 6<=6 by decide) fun h29 hs=>?_;refine⟨_,_,_,_,_,_,hs.at 0 rfl (o:=0) (n:=6) rfl,?_,hs.ext⟩;rw[hmv,if_neg (by omega),Ys,gx];rfl
end Go.VC
end

section
namespace Go.VC
open Go.Proofs Go.LexS
theorem St.smbO {h0 h h1 h':Heap} {L L':List It} (hs:St h0 h L) (hs':St h1 h' L') (k k' o:Nat) {b:Nat} {xs:List Value} {e:TypeId} (hk:L[k]?=some (.blk b xs e)) (hk':L'[k']?=some (.blk b xs e)):Sm [⟨b,o,none⟩] h h':=by
 intro a ha i v hv;rw[Ye.1 ha] at hv ⊢;have e1:h[b]?=some (.cells ⟨xs⟩ e):=hs.get hk;have e2:h'[b]?=some (.cells ⟨xs⟩ e):=hs'.get hk';have e3:h'[b]?=h[b]?:=by rw[e1,e2]
 rw[hc_of_block (h:=h) (h':=h') (a:=addk ⟨b,o,none⟩ i) (by rw[addk_block'];exact e3)];exact hv
def doB (n p:Nat) (x:Mv) (BL:List (List Int)):List (List Int):=BL.set (bxI n p x) (if x.send=true then BL.getD (bxI n p x) []++[x.label] else (BL.getD (bxI n p x) []).tail)
open Classical in
noncomputable def doS (L:List Mch) (k:Int) (S:List Int) (BL:List (List Int)) (r i:Int):Int × List Int × List (List Int):=
 if ProS L k S BL then match mvO L r i with
  | none=>(2,[],[])
  | some x=>if canS L.length k S BL r.toNat x=0 then (0,S.set r.toNat x.t,doB L.length r.toNat x BL) else (canS L.length k S BL r.toNat x,[],[])
 else (1,[],[])
def DoV (o:Int × List Int × List (List Int)) (h:Heap) (v:Value) (h':Heap):Prop:=∃(ts tb:Sl) (T:List Bx) (A:List It),v=.tuple ⟨[cfA ts tb,.int .i64 o.1]⟩/\T.map Bx.l=o.2.2/\St h h' A/\CfM A ts tb o.2.1 T
theorem DoV.none_ {o:Int × List Int × List (List Int)} {h h':Heap} {A:List It} {e:Int} (hs:St h h' A) (ho:o=(e,[],[])):DoV o h (.tuple ⟨[.agg ⟨[.slice none 0 0,.slice none 0 0]⟩,.int .i64 e]⟩) h':=by
 subst ho;exact⟨⟨none,0,0⟩,⟨none,0,0⟩,[],_,rfl,rfl,hs.nil2,CfM.none_.mono fun i hi=>List.mem_append_left _ hi⟩
theorem mvO_some {L:List Mch} {r i:Int} {x:Mv} (h:mvO L r i=some x):∃p:Nat,r=(p:Int)/\∃m,L[p]?=some m/\x∈m.mv:=by
 unfold mvO at h;split at h
 .cases h
 .rename_i c;refine⟨r.toNat,by omega,?_⟩;split at h
  .cases h
  .rename_i m gm;split at h
   .cases h
   .exact⟨m,gm,Yb h⟩
theorem getD_map {B:List Bx} {j:Nat} {q:Bx} (h:B[j]?=some q):(B.map Bx.l).getD j []=q.l:=by
 rw[Yo,Yd,h];rfl
theorem do27 (L:List MR) (s:Sl) (k:Int) (ss sb:Sl) (S:List Int) (B:List Bx) (r i:Int) (h:Heap) (hS:SyI h s L) (hC:CfI h ss sb S B) :
  Fn Pz 55 #[.slice s.a s.n s.c,.int .i64 k,.agg ⟨[.slice ss.a ss.n ss.c,.slice sb.a sb.n sb.c]⟩,.agg ⟨[.int .i64 r,.int .i64 i]⟩] h (DoV (doS (L.map MR.m) k S (B.map Bx.l) r i) h):=by
 apply vc55 s k ss sb r i;unfold W55 V55a;have hn:=hS.r.ln;have hlm:(L.map MR.m).length=s.n:=by rw[Yc,hn]
 have hbm:(B.map Bx.l).length=B.length:=Yc _;refine (St.refl h).newb fun h5 hs=>?_;refine hs.newb fun h6 hs=>?_;refine hs.newb fun h7 hs=>?_;refine⟨ss,sb,hs.at 2 rfl (o:=0) (n:=2) rfl,?_⟩;refine (proper24 L s k ss sb S B h7 (hS.ext hs.ext) (hC.ext hs.ext)).mono ?_;rintro _ h12 ⟨⟨b,rfl,hb⟩,E⟩;have hs:=hs.step E;refine⟨_,rfl,sB_intro (fun c=>?_) (fun c=>?_)⟩
 .have hnp:¬ProS (L.map MR.m) k S (B.map Bx.l):=fun hp=>by rw[hb.2 hp] at c;cases c
  refine hs.put 0 rfl (o:=0) (vs:=[.slice none 0 0,.slice none 0 0]) rfl (show 2<=2 by decide) fun h13 hs=>?_;exact⟨⟨none,0,0⟩,⟨none,0,0⟩,hs.at 0 rfl (o:=0) (n:=2) rfl,DoV.none_ hs (by unfold doS;rw[if_neg hnp])⟩
 have hP:=hb.1 (bT c);have hV6:=hP.v.n;have hSl:S.length=s.n:=by rw[hP.p.s,hlm]
 have hBl:B.length=s.n*s.n:=by rw[<-hbm,hP.p.b,hlm]
 rw[hlm] at hV6;have h36:=sq6 hV6.2;refine⟨r,i,hs.at 1 rfl (o:=0) (n:=2) rfl,?_⟩;refine (move57 L s r i h12 (hS.ext hs.ext)).mono ?_;rintro v h26 ⟨hv,E⟩;have hs:=hs.step E;cases hmo:mvO (L.map MR.m) r i with
 | none=>
  rw[hmo] at hv;subst hv;refine⟨_,_,_,_,_,_,false,rfl,?_⟩;refine hs.newput (vs:=mv00.cs) rfl rfl fun h28 hs=>sB_t rfl ?_;refine hs.put 1 rfl (o:=0) (vs:=[.slice none 0 0,.slice none 0 0]) rfl (show 2<=2 by decide) fun h29 hs=>?_;exact⟨⟨none,0,0⟩,⟨none,0,0⟩,hs.at 1 rfl (o:=0) (n:=2) rfl,DoV.none_ hs (by unfold doS;rw[if_pos hP,hmo])⟩
 | some x=>
  rw[hmo] at hv;subst hv;have hdo:doS (L.map MR.m) k S (B.map Bx.l) r i=if canS s.n k S (B.map Bx.l) r.toNat x=0 then (0,S.set r.toNat x.t,doB s.n r.toNat x (B.map Bx.l)) else (canS s.n k S (B.map Bx.l) r.toNat x,[],[]):=by
   unfold doS;rw[if_pos hP,hmo,<-hlm]
  obtain⟨p,rfl,m,gm,hxm⟩:=mvO_some hmo;rw[hdo];clear hdo hmo;rw[Ys];have hp:p<s.n:=by rw[<-hlm];exact (Ya.1 gm).1
  have hvm:=hP.v.m p m gm;have hx0:0<=x.peer:=(hvm.2.1.n.mv x hxm).2.2.2.2.1;have hx1:x.peer<(s.n:Int):=by have:=hvm.2.2 x hxm;rw[hlm] at this;exact this
  have hj:=bxI_lt (n:=s.n) (x:=x) hp hx0 hx1;refine⟨x.f,x.send,x.peer,x.label,x.t,x.ag,true,rfl,?_⟩;refine hs.newput (vs:=x.cs) rfl rfl fun h28 hs=>sB_f rfl ?_;refine⟨ss,sb,hs.at 3 rfl (o:=0) (n:=2) rfl,(p:Int),hs.rd 2 rfl (i:=0) rfl,x.f,x.send,x.peer,x.label,x.t,x.ag,hs.at 0 rfl (o:=0) (n:=6) rfl,?_⟩;refine (can58 s.n k ss sb S B p x h28 (hC.ext hs.ext) hV6.2 hSl hBl hp hx0 hx1).mono ?_;rintro _ h43 ⟨rfl,E⟩;have hs:=hs.step E;refine⟨_,rfl,sBn (fun c=>?_) (fun c=>?_)⟩
  .refine hs.put 1 rfl (o:=0) (vs:=[.slice none 0 0,.slice none 0 0]) rfl (show 2<=2 by decide) fun h29 hs=>?_;exact⟨⟨none,0,0⟩,⟨none,0,0⟩,hs.at 1 rfl (o:=0) (n:=2) rfl,DoV.none_ hs (by rw[if_neg c])⟩
  rw[if_pos c];refine⟨ss,sb,hs.at 3 rfl (o:=0) (n:=2) rfl,?_⟩;refine (clone59 ss sb S B h43 (hC.ext hs.ext)).mono ?_;rintro _ h52 ⟨ts,tb,T,rfl,hT,hs2⟩;have hs:=hs.join hs2;have hTl:T.length=B.length:=by rw[<-Yc (f:=Bx.l),hT,hbm]
  refine⟨ts,tb,rfl,?_⟩;refine hs.newput (vs:=[.slice ts.a ts.n ts.c,.slice tb.a tb.n tb.c]) rfl rfl fun h54 hs=>?_;have hts:=(hs.rows 5 (s:=ts) (cs:=inC) rfl (by omega)).ln;have htb:=(hs.rows 6 (s:=tb) (cs:=Bx.cs) rfl (by omega)).ln;refine⟨ts,hs.rd 0 rfl (i:=0) rfl,(p:Int),hs.rd 3 rfl (i:=0) rfl,x.t,hs.rd 1 rfl (i:=4) rfl,?_⟩;refine hs.set 5 (s:=ts) (cs:=inC) (x:=(p:Int)) rfl (by omega) (by omega) (by omega) x.t rfl rfl (fun b o h60 hs=>?_) rfl;refine⟨(p:Int),hs.rd 3 rfl (i:=0) rfl,x.f,x.send,x.peer,x.label,x.t,x.ag,hs.at 1 rfl (o:=0) (n:=6) rfl,?_⟩;refine (box60 s.n p x h60 hV6.2 hp hx0 hx1).mono ?_;rintro _ h70 ⟨rfl,E⟩;have hs:=hs.step E;rw[Ys] at hs;have hBd:=hP.p.bx;unfold doB;generalize hjj:bxI s.n p x=j at hj ⊢;obtain⟨q,gq⟩:=get_some (l:=T) (i:=j) (by omega);have hql:(B.map Bx.l).getD j []=q.l:=by rw[<-hT];exact getD_map gq
  have hqb:(B.map Bx.l)[j]?=some q.l:=by rw[<-hT,Yd,gq];rfl
  have hqk:=(hBd j q.l hqb).1;have hk4:=hP.c.2;have hall:∀z∈T,z.l.length<=4:=fun z hz=>by
   obtain⟨j',gj⟩:=Yf.1 hz;have:=(hBd j' z.l (by rw[<-hT,Yd,gj];rfl)).1;omega
  have hsl:(S.set p x.t).length<=1048576:=by rw[Yyh];omega
  have rdB:∀ {h':Heap} {L':List It} {F:Nat->Nat->Prop} (kk:Nat),St h h' L'->L'[kk]?=some (.sl tb 25 1 (T.map Bx.cs))->(∀b o,hc h' ⟨b,o+Int.toNat (j:Int)*1,none⟩=some (.slice q.s.a q.s.n q.s.c)->F b o)->NB tb.a fun b o=>(0<=(j:Int)/\(j:Int)<(tb.n:Nat))/\F b o:=fun kk hs hk hF=>
   (hs.rows kk (s:=tb) (cs:=Bx.cs) hk (by omega)).nbI (by omega) (by omega) fun b o q' gq' t=>by
    rw[Ys,gq] at gq';cases gq';exact hF b o t.hd
  refine⟨(j:Int),rfl,x.send,hs.rd 1 rfl (i:=1) rfl,sB_intro (fun d=>?_) (fun d=>?_)⟩
  .rw[if_pos d];refine⟨tb,hs.rd 0 rfl (i:=1) rfl,tb,hs.rd 0 rfl (i:=1) rfl,rdB 6 hs rfl fun b o t=>?_⟩;refine⟨q.s,t,x.label,hs.rd 1 rfl (i:=3) rfl,?_⟩;refine hs.newbE fun h78 E78 hs=>⟨E78.sm,?_⟩;have hs78:=hs;have hqi:(T.map Bx.it)[j]?=some q.it:=by rw[Yd,gq];rfl
   have hqn:=(hs.len (j+8) (s:=q.s) (e:=3) (n:=1) (rows:=q.l.map inC) hqi (by omega)).1;rw[Yc] at hqn;have hq4:=hall q (Yb gq);refine hs.appended (j+8) (s:=q.s) (n:=1) (rows:=q.l.map inC) hqi app42 (m:=1) (news:=[inC x.label]) (hs.at 0 rfl (n:=1) rfl) rfl (by simp[inC]) rfl (by omega) (by simp only[maxLen];omega) fun u h80 nr hs=>?_;refine⟨hs78.smbO hs 1 1 1 rfl rfl,?_⟩;refine hs.set 7 (s:=tb) (cs:=Bx.cs) (x:=(j:Int)) rfl (by omega) (by omega) (by omega) (⟨u,q.l++[x.label]⟩:Bx) rfl rfl (fun b o h83 hs=>?_) rfl;refine⟨ts,tb,hs.at 1 rfl (o:=0) (n:=2) rfl,?_⟩;refine hs.put 3 rfl (o:=0) (vs:=[.slice ts.a ts.n ts.c,.slice tb.a tb.n tb.c]) rfl (show 2<=2 by decide) fun h86 hs=>?_;rw[Ys] at hs;refine⟨ts,tb,hs.at 3 rfl (o:=0) (n:=2) rfl,ts,tb,T.set j ⟨u,q.l++[x.label]⟩,_,rfl,?_,hs,?_⟩
   .rw[List.map_set,hT,hql]
   .refine⟨Yb (i:=6) rfl,Yb (i:=7) rfl,fun z hz=>.inr (.inl ?_),hsl,by rw[Yyh];omega,fun z hz=>?_⟩
    .obtain⟨j',gj⟩:=Yf.1 hz;refine Yb (i:=j'+8) ?_;show ((T.map Bx.it).set j (.sl u 3 1 (q.l.map inC++[inC x.label])))[j']?=_;have e1:It.sl u 3 1 (q.l.map inC++[inC x.label])=Bx.it ⟨u,q.l++[x.label]⟩:=by unfold Bx.it;rw[Ym];rfl
     rw[e1,<-List.map_set,Yd,gj];rfl
    .rcases List.mem_or_eq_of_mem_set hz with hz | rfl
     .have:=hall z hz;omega
     .show (q.l++[x.label]).length<=_;rw[Yh,Yv];omega
  .rw[if_neg (by rw[d];decide)];have hqm:=Yb gq;have hqi:(T.map Bx.it)[j]?=some q.it:=by rw[Yd,gq];rfl
   have hql2:=hs.len (j+7) (s:=q.s) (e:=3) (n:=1) (rows:=q.l.map inC) hqi (by omega);have hqn:=hql2.1;rw[Yc] at hqn;obtain⟨tl,hqe⟩:∃tl,q.l=x.label::tl:=by
    unfold canS at c;rw[hjj,hql] at c;split at c
    .exact absurd c (by decide)
    .rw[if_neg (by rw[d];decide)] at c;cases hq:q.l with
     | nil=>rw[hq] at c;exact absurd c (show ¬((23:Int)=0) by decide)
     | cons l tl=>
      rw[hq] at c;dsimp only at c;split at c
      .exact absurd c (by decide)
      .rename_i e;exact⟨tl,by rw[Classical.not_not.1 e]⟩
   have hqn1:q.s.n=tl.length+1:=by rw[hqn,hqe,Yyj]
   refine⟨tb,hs.rd 0 rfl (i:=1) rfl,tb,hs.rd 0 rfl (i:=1) rfl,rdB 6 hs rfl fun b o t=>?_⟩;refine⟨q.s,t,⟨by omega,by omega,by have:=hql2.2.1;omega⟩,?_⟩;refine hs.set 6 (s:=tb) (cs:=Bx.cs) (x:=(j:Int)) rfl (by omega) (by omega) (by omega) (⟨⟨subA q.s.a (Int.toNat 1) q.s.c 1,Int.toNat (q.s.n:Nat)-Int.toNat 1,q.s.c-Int.toNat 1⟩,tl⟩:Bx) rfl rfl (fun b o h83 hs=>?_) rfl;refine⟨ts,tb,hs.at 0 rfl (o:=0) (n:=2) rfl,?_⟩;refine hs.put 2 rfl (o:=0) (vs:=[.slice ts.a ts.n ts.c,.slice tb.a tb.n tb.c]) rfl (show 2<=2 by decide) fun h86 hs=>?_;rw[Ys] at hs;refine⟨ts,tb,hs.at 2 rfl (o:=0) (n:=2) rfl,?_⟩;generalize hnw:(⟨⟨subA q.s.a (Int.toNat 1) q.s.c 1,Int.toNat (q.s.n:Nat)-Int.toNat 1,q.s.c-Int.toNat 1⟩,tl⟩:Bx)=nw at hs;have hs:=hs.sub (L':=.sl ts 3 1 ((S.set p x.t).map inC) :: .sl tb 25 1 ((T.set j nw).map Bx.cs)::T.map Bx.it) (.cons _ (.cons _ (.cons _ (.cons _ (.cons _ (.refl _))))));have hjt:j<T.length:=(Ya.1 gq).1;have hgj:T[j]=q:=(Ya.1 gq).2;have hp0:(T.map Bx.it).Perm (.sl q.s 3 1 (inC x.label::tl.map inC)::(T.eraseIdx j).map Bx.it):=by
    have h1:(T.map Bx.it).Perm ((T[j]::T.eraseIdx j).map Bx.it):=by
     rw[List.eraseIdx_eq_take_drop_succ];have e2:T=T.take j++T[j]::T.drop (j+1):=by rw[List.getElem_cons_drop,List.take_append_drop]
     have h2:T.Perm (T[j]::(T.take j++T.drop (j+1))):=by
      conv=>lhs;rw[e2]
      exact List.perm_middle
     exact h2.map _
    rw[Yyl,hgj] at h1;have e1:q.it=.sl q.s 3 1 (inC x.label::tl.map inC):=by unfold Bx.it;rw[hqe];rfl
    rw[e1] at h1;exact h1
   have hs:=hs.perm (((hp0.cons _).cons _).trans (List.perm_middle (l₁:=[_,_])));have hs:=(hs.toQ (by omega)).qtail;refine⟨ts,tb,T.set j nw,_,rfl,?_,hs,?_⟩
   .rw[List.map_set,hT,hql,hqe,<-hnw];rfl
   .refine⟨Yn _ Yx,Yn _ (Yn _ Yx),fun z hz=>.inr ?_,hsl,by rw[Yyh];omega,fun z hz=>?_⟩
    .obtain⟨j',gj⟩:=Yf.1 hz;by_cases e:j'=j
     .subst e;rw[Yq hjt] at gj;cases gj;refine .inr ?_;rw[<-hnw];exact Yx
     .rw[Yy (Ne.symm e)] at gj;exact .inl (Yn _ (Yn _ (Yn _ (List.mem_map_of_mem (List.mem_eraseIdx_iff_getElem?.2 ⟨j',e,gj⟩)))))
    .rcases List.mem_or_eq_of_mem_set hz with hz | rfl
     .have:=hall z hz;omega
     .rw[<-hnw];have:=hall q hqm;rw[hqe,Yyj] at this;show tl.length<=_;omega
end Go.VC
end

section
namespace Go.VC
open Go.Proofs Go.LexS
def xm0:Mch:=⟨0,2,0,[false,true],[⟨0,true,1,0,1,false⟩,⟨0,true,1,1,1,false⟩],[]⟩
theorem xm0_get (i:Nat) (x:Mv) (h:xm0.mv[i]?=some x):(i=0/\x=⟨0,true,1,0,1,false⟩)\/(i=1/\x=⟨0,true,1,1,1,false⟩):=by
 match i,h with
 | 0,h=>exact .inl ⟨rfl,(Yyp h).symm⟩
 | 1,h=>exact .inr ⟨rfl,(Yyp h).symm⟩
 | n+2,h=>exact absurd h (by simp[xm0])
theorem xm0_mem (x:Mv) (h:x∈xm0.mv):x=⟨0,true,1,0,1,false⟩\/x=⟨0,true,1,1,1,false⟩:=by
 obtain⟨i,hi⟩:=Yf.1 h;rcases xm0_get i x hi with ⟨_,e⟩ | ⟨_,e⟩
 .exact .inl e
 .exact .inr e
theorem xm0_ag (x:Mv) (h:x∈xm0.mv):x.ag=false:=by
 rcases xm0_mem x h with rfl | rfl<;>rfl
theorem xm0_vm:VM xm0:=by
 refine⟨⟨⟨by decide,by decide⟩,⟨by decide,by decide⟩,⟨by decide,by decide⟩,rfl,by decide,fun x hx=>?_⟩,fun i k x y hx hy hne hf=>?_,fun v h0 h1=>?_,⟨fun x hx ha=>?_,fun x hx ha=>?_,fun x hx ha=>?_,fun x hx ha=>?_,fun x hx ha=>?_⟩,fun i t h=>?_⟩
 .rcases xm0_mem x hx with rfl | rfl<;>decide
 .rcases xm0_get i x hx with ⟨rfl,rfl⟩ | ⟨rfl,rfl⟩<;>rcases xm0_get k y hy with ⟨rfl,rfl⟩ | ⟨rfl,rfl⟩<;>first
   | exact absurd rfl hne
   | exact absurd hf (by decide)
   | exact⟨fun e=>absurd (congrArg Ev.label e) (by decide),rfl⟩
 .have q0:Qr (meds xm0) (-1) [xm0.s] 0:=.base (Ye.2 rfl);have q1:Qr (meds xm0) (-1) [xm0.s] 1:=.step q0 ⟨⟨0,0,0,0,1,false⟩,Yp.2 ⟨⟨0,true,1,0,1,false⟩,by simp[xm0],rfl⟩,rfl,rfl,rfl⟩;have h1:v<2:=h1;have:v=0\/v=1:=by omega
  rcases this with rfl | rfl
  .exact q0
  .exact q1
 .rw[xm0_ag x hx] at ha;cases ha
 .rw[xm0_ag x hx] at ha;cases ha
 .rw[xm0_ag x hx] at ha;cases ha
 .rw[xm0_ag x hx] at ha;cases ha
 .rw[xm0_ag x hx] at ha;cases ha
 .simp[xm0] at h
def xm1:Mch:=⟨1,6,0,[false,false,false,false,false,true],[⟨0,false,0,0,1,false⟩,⟨0,false,0,1,2,false⟩,⟨1,true,2,0,3,false⟩,⟨2,true,2,1,4,false⟩,⟨3,false,2,2,5,false⟩,⟨4,false,2,3,5,false⟩],[]⟩
theorem xm1_get (i:Nat) (x:Mv) (h:xm1.mv[i]?=some x):(i=0/\x=⟨0,false,0,0,1,false⟩)\/(i=1/\x=⟨0,false,0,1,2,false⟩)\/(i=2/\x=⟨1,true,2,0,3,false⟩)\/(i=3/\x=⟨2,true,2,1,4,false⟩)\/(i=4/\x=⟨3,false,2,2,5,false⟩)\/(i=5/\x=⟨4,false,2,3,5,false⟩):=by
 match i,h with
 | 0,h=>exact .inl ⟨rfl,(Yyp h).symm⟩
 | 1,h=>exact .inr (.inl ⟨rfl,(Yyp h).symm⟩)
 | 2,h=>exact .inr (.inr (.inl ⟨rfl,(Yyp h).symm⟩))
 | 3,h=>exact .inr (.inr (.inr (.inl ⟨rfl,(Yyp h).symm⟩)))
 | 4,h=>exact .inr (.inr (.inr (.inr (.inl ⟨rfl,(Yyp h).symm⟩))))
 | 5,h=>exact .inr (.inr (.inr (.inr (.inr ⟨rfl,(Yyp h).symm⟩))))
 | n+6,h=>exact absurd h (by simp[xm1])
theorem xm1_mem (x:Mv) (h:x∈xm1.mv):x=⟨0,false,0,0,1,false⟩\/x=⟨0,false,0,1,2,false⟩\/x=⟨1,true,2,0,3,false⟩\/x=⟨2,true,2,1,4,false⟩\/x=⟨3,false,2,2,5,false⟩\/x=⟨4,false,2,3,5,false⟩:=by
 obtain⟨i,hi⟩:=Yf.1 h;rcases xm1_get i x hi with ⟨_,e⟩ | ⟨_,e⟩ | ⟨_,e⟩ | ⟨_,e⟩ | ⟨_,e⟩ | ⟨_,e⟩
 .exact .inl e
 .exact .inr (.inl e)
 .exact .inr (.inr (.inl e))
 .exact .inr (.inr (.inr (.inl e)))
 .exact .inr (.inr (.inr (.inr (.inl e))))
 .exact .inr (.inr (.inr (.inr (.inr e))))
theorem xm1_ag (x:Mv) (h:x∈xm1.mv):x.ag=false:=by
 rcases xm1_mem x h with rfl | rfl | rfl | rfl | rfl | rfl<;>rfl
theorem xm1_vm:VM xm1:=by
 refine⟨⟨⟨by decide,by decide⟩,⟨by decide,by decide⟩,⟨by decide,by decide⟩,rfl,by decide,fun x hx=>?_⟩,fun i k x y hx hy hne hf=>?_,fun v h0 h1=>?_,⟨fun x hx ha=>?_,fun x hx ha=>?_,fun x hx ha=>?_,fun x hx ha=>?_,fun x hx ha=>?_⟩,fun i t h=>?_⟩
 .rcases xm1_mem x hx with rfl | rfl | rfl | rfl | rfl | rfl<;>decide
 .rcases xm1_get i x hx with ⟨rfl,rfl⟩ | ⟨rfl,rfl⟩ | ⟨rfl,rfl⟩ | ⟨rfl,rfl⟩ | ⟨rfl,rfl⟩ | ⟨rfl,rfl⟩<;>rcases xm1_get k y hy with ⟨rfl,rfl⟩ | ⟨rfl,rfl⟩ | ⟨rfl,rfl⟩ | ⟨rfl,rfl⟩ | ⟨rfl,rfl⟩ | ⟨rfl,rfl⟩<;>first
   | exact absurd rfl hne
   | exact absurd hf (by decide)
   | exact⟨fun e=>absurd (congrArg Ev.label e) (by decide),rfl⟩
 .have q0:Qr (meds xm1) (-1) [xm1.s] 0:=.base (Ye.2 rfl);have q1:Qr (meds xm1) (-1) [xm1.s] 1:=.step q0 ⟨⟨0,0,0,0,1,false⟩,Yp.2 ⟨⟨0,false,0,0,1,false⟩,by simp[xm1],rfl⟩,rfl,rfl,rfl⟩;have q2:Qr (meds xm1) (-1) [xm1.s] 2:=.step q0 ⟨⟨0,0,0,0,2,false⟩,Yp.2 ⟨⟨0,false,0,1,2,false⟩,by simp[xm1],rfl⟩,rfl,rfl,rfl⟩;have q3:Qr (meds xm1) (-1) [xm1.s] 3:=.step q1 ⟨⟨1,0,0,0,3,false⟩,Yp.2 ⟨⟨1,true,2,0,3,false⟩,by simp[xm1],rfl⟩,rfl,rfl,rfl⟩;have q4:Qr (meds xm1) (-1) [xm1.s] 4:=.step q2 ⟨⟨2,0,0,0,4,false⟩,Yp.2 ⟨⟨2,true,2,1,4,false⟩,by simp[xm1],rfl⟩,rfl,rfl,rfl⟩;have q5:Qr (meds xm1) (-1) [xm1.s] 5:=.step q3 ⟨⟨3,0,0,0,5,false⟩,Yp.2 ⟨⟨3,false,2,2,5,false⟩,by simp[xm1],rfl⟩,rfl,rfl,rfl⟩;have h1:v<6:=h1;have:v=0\/v=1\/v=2\/v=3\/v=4\/v=5:=by omega
  rcases this with rfl | rfl | rfl | rfl | rfl | rfl
  .exact q0
  .exact q1
  .exact q2
  .exact q3
  .exact q4
  .exact q5
 .rw[xm1_ag x hx] at ha;cases ha
 .rw[xm1_ag x hx] at ha;cases ha
 .rw[xm1_ag x hx] at ha;cases ha
 .rw[xm1_ag x hx] at ha;cases ha
 .rw[xm1_ag x hx] at ha;cases ha
 .simp[xm1] at h
def xm2:Mch:=⟨2,4,0,[false,false,false,true],[⟨0,false,1,0,1,false⟩,⟨0,false,1,1,2,false⟩,⟨1,true,1,2,3,false⟩,⟨2,true,1,3,3,false⟩],[]⟩
theorem xm2_get (i:Nat) (x:Mv) (h:xm2.mv[i]?=some x):(i=0/\x=⟨0,false,1,0,1,false⟩)\/(i=1/\x=⟨0,false,1,1,2,false⟩)\/(i=2/\x=⟨1,true,1,2,3,false⟩)\/(i=3/\x=⟨2,true,1,3,3,false⟩):=by
 match i,h with
 | 0,h=>exact .inl ⟨rfl,(Yyp h).symm⟩
 | 1,h=>exact .inr (.inl ⟨rfl,(Yyp h).symm⟩)
 | 2,h=>exact .inr (.inr (.inl ⟨rfl,(Yyp h).symm⟩))
 | 3,h=>exact .inr (.inr (.inr ⟨rfl,(Yyp h).symm⟩))
 | n+4,h=>exact absurd h (by simp[xm2])
theorem xm2_mem (x:Mv) (h:x∈xm2.mv):x=⟨0,false,1,0,1,false⟩\/x=⟨0,false,1,1,2,false⟩\/x=⟨1,true,1,2,3,false⟩\/x=⟨2,true,1,3,3,false⟩:=by
 obtain⟨i,hi⟩:=Yf.1 h;rcases xm2_get i x hi with ⟨_,e⟩ | ⟨_,e⟩ | ⟨_,e⟩ | ⟨_,e⟩
 .exact .inl e
 .exact .inr (.inl e)
 .exact .inr (.inr (.inl e))
 .exact .inr (.inr (.inr e))
theorem xm2_ag (x:Mv) (h:x∈xm2.mv):x.ag=false:=by
 rcases xm2_mem x h with rfl | rfl | rfl | rfl<;>rfl
theorem xm2_vm:VM xm2:=by
 refine⟨⟨⟨by decide,by decide⟩,⟨by decide,by decide⟩,⟨by decide,by decide⟩,rfl,by decide,fun x hx=>?_⟩,fun i k x y hx hy hne hf=>?_,fun v h0 h1=>?_,⟨fun x hx ha=>?_,fun x hx ha=>?_,fun x hx ha=>?_,fun x hx ha=>?_,fun x hx ha=>?_⟩,fun i t h=>?_⟩
 .rcases xm2_mem x hx with rfl | rfl | rfl | rfl<;>decide
 .rcases xm2_get i x hx with ⟨rfl,rfl⟩ | ⟨rfl,rfl⟩ | ⟨rfl,rfl⟩ | ⟨rfl,rfl⟩<;>rcases xm2_get k y hy with ⟨rfl,rfl⟩ | ⟨rfl,rfl⟩ | ⟨rfl,rfl⟩ | ⟨rfl,rfl⟩<;>first
   | exact absurd rfl hne
   | exact absurd hf (by decide)
   | exact⟨fun e=>absurd (congrArg Ev.label e) (by decide),rfl⟩
 .have q0:Qr (meds xm2) (-1) [xm2.s] 0:=.base (Ye.2 rfl);have q1:Qr (meds xm2) (-1) [xm2.s] 1:=.step q0 ⟨⟨0,0,0,0,1,false⟩,Yp.2 ⟨⟨0,false,1,0,1,false⟩,by simp[xm2],rfl⟩,rfl,rfl,rfl⟩;have q2:Qr (meds xm2) (-1) [xm2.s] 2:=.step q0 ⟨⟨0,0,0,0,2,false⟩,Yp.2 ⟨⟨0,false,1,1,2,false⟩,by simp[xm2],rfl⟩,rfl,rfl,rfl⟩;have q3:Qr (meds xm2) (-1) [xm2.s] 3:=.step q1 ⟨⟨1,0,0,0,3,false⟩,Yp.2 ⟨⟨1,true,1,2,3,false⟩,by simp[xm2],rfl⟩,rfl,rfl,rfl⟩;have h1:v<4:=h1;have:v=0\/v=1\/v=2\/v=3:=by omega
  rcases this with rfl | rfl | rfl | rfl
  .exact q0
  .exact q1
  .exact q2
  .exact q3
 .rw[xm2_ag x hx] at ha;cases ha
 .rw[xm2_ag x hx] at ha;cases ha
 .rw[xm2_ag x hx] at ha;cases ha
 .rw[xm2_ag x hx] at ha;cases ha
 .rw[xm2_ag x hx] at ha;cases ha
 .simp[xm2] at h
def xr0:Mch:=⟨0,3,0,[false,true,true],[⟨0,true,1,0,1,false⟩,⟨0,true,1,1,2,false⟩],[]⟩
theorem xr0_raw (hr hd he ht:Sl):rawC (exGl true hr hd he ht) 0=some (some xr0,0):=by kernel_rfl
theorem xm1_raw (hr hd he ht:Sl):rawC (exGl true hr hd he ht) 1=some (some xm1,0):=by kernel_rfl
theorem xm2_raw (hr hd he ht:Sl):rawC (exGl true hr hd he ht) 2=some (some xm2,0):=by kernel_rfl
theorem xm0_min:minF xr0=xm0:=by kernel_rfl
theorem xm1_min:minF xm1=xm1:=by kernel_rfl
theorem xm2_min:minF xm2=xm2:=by kernel_rfl
theorem xproj (hr hd he ht:Sl) (i:Int) (w m:Mch) (h0:0<=i) (h3:i<((3:Nat):Int)) (hw:rawC (exGl true hr hd he ht) i=some (some w,0)) (hm:minF w=m):proj (exGl true hr hd he ht) i=(some m,0):=by
 have:=rawC_ok (ex_valid true hr hd he ht) h0 h3 hw;unfold proj;rw[this];show (some (minF w),0)=_;rw[hm]
def xL:List Mch:=[xm0,xm1,xm2]
theorem xsys:SysV xL:=by
 refine⟨⟨by decide,by decide⟩,fun p m h=>?_⟩
 match p,h with
 | 0,h=>cases h;exact⟨rfl,xm0_vm,fun x hx=>by rcases xm0_mem x hx with rfl | rfl<;>decide⟩
 | 1,h=>cases h;exact⟨rfl,xm1_vm,fun x hx=>by rcases xm1_mem x hx with rfl | rfl | rfl | rfl | rfl | rfl<;>decide⟩
 | 2,h=>cases h;exact⟨rfl,xm2_vm,fun x hx=>by rcases xm2_mem x hx with rfl | rfl | rfl | rfl<;>decide⟩
 | n+3,h=>exact absurd h (by simp[xL])
theorem stepsP_of {n:Nat} {k:Int} {S:List Int} {BL:List (List Int)} {p:Nat} {m:Mch} (hD:DetM m) {O:List Nat} (h1:(List.range m.mv.length).filter (posB n k S BL p m)=O) (h2:O.Pairwise fun a b=>¬evLt (evI m b) (evI m a)):stepsP n k S BL p m=O:=(steps_uniq hD (by rw[h1]) h2).symm

structure FinS (L:List Mch) (S:List Int) (BL:List (List Int)):Prop where
 s:∀(p:Nat) s m,S[p]?=some s->L[p]?=some m->m.fin[s.toNat]?=some true
 b:∀b∈BL,b=[]
theorem cal94:callable Pz 114=true:=by kernel_rfl
theorem index131 (B:List Bx) (s:Sl) (h:Heap) (hr:RL h 1 s Bx.cs B) (hi:∀q∈B,RL h 1 q.s inC q.l) :
  Fn Pz 158 #[.slice s.a s.n s.c,.func (.func 114) #[] #[]] h fun v h'=>(∃k:Int,v=.int .i64 k/\(0<=k ↔ ¬∀b∈B.map Bx.l,b=[]))/\Ext h h':=by
 apply vc158 s 114;unfold W158;have hn:=hr.ln;have hl:=hr.sm;refine up_loop (n:=s.n) (fun i h'=>Ext h h'/\∀(j:Nat) (x:Bx),j<i->B[j]?=some x->x.l=[]) ⟨.rfl',fun j x hj=>by omega⟩ ?_;rintro-i h5 hi' ⟨E,hq⟩;refine sB_intro (fun c=>?_) (fun c=>?_)
 .replace c:=lt_t c;refine (hr.rw.ext E).nbI (by omega) (by omega) fun b6 o7 x gx t14=>?_;replace gx:B[i]?=some x:=gx;have hm:=Yb gx;have hxn:=(hi x hm).ln;refine⟨x.s,t14.hd,?_⟩;rw[cal94,cond_true];apply vc114 x.s;unfold W114;refine⟨_,rfl,sBi (fun c2=>?_) (fun c2=>?_)⟩
  .refine⟨⟨_,rfl,iff_of_true (by omega) fun hall=>?_⟩,E⟩;have:=hall x.l (List.mem_map_of_mem hm);rw[this] at hxn;simp at hxn;omega
  .refine Up.next (by omega) (by omega) ⟨E,fun j y hj hy=>?_⟩;by_cases e:j=i
   .subst e;rw[gx] at hy;cases hy;exact List.eq_nil_of_length_eq_zero (by omega)
   .exact hq j y (by omega) hy
 .replace c:=lt_f c;refine⟨⟨_,rfl,iff_of_false (by omega) fun hall=>hall fun b hb=>?_⟩,E⟩;obtain⟨x,hx,rfl⟩:=Yp.1 hb;obtain⟨j,hj⟩:=Yf.1 hx;exact hq j x (by have:=(Ya.1 hj).1;omega) hj
theorem any93 (B:List Bx) (s:Sl) (h:Heap) (hr:RL h 1 s Bx.cs B) (hi:∀q∈B,RL h 1 q.s inC q.l) :
  Fn Pz 113 #[.slice s.a s.n s.c,.func (.func 114) #[] #[]] h (RP (¬∀b∈B.map Bx.l,b=[]) h):=by
 apply vc113 s 114;unfold W113;refine (index131 B s h hr hi).mono ?_;rintro _ h3 ⟨⟨k,rfl,hk⟩,E⟩;exact⟨_,rfl,RP.e (by rw[decide_eq_true_eq];exact hk) E⟩
theorem final67 (L:List MR) (s:Sl) (k:Int) (ss sb:Sl) (S:List Int) (B:List Bx) (h:Heap) (hS:SyI h s L) (hC:CfI h ss sb S B) (hP:ProS (L.map MR.m) k S (B.map Bx.l)) :
  Fn Pz 58 #[.slice s.a s.n s.c,.agg ⟨[.slice ss.a ss.n ss.c,.slice sb.a sb.n sb.c]⟩] h (RP (FinS (L.map MR.m) S (B.map Bx.l)) h):=by
 apply vc58 s ss sb;unfold W58;have hn:=hS.r.ln;have hsn:=hC.s.ln;have hsm:=hC.s.sm;have hlm:(L.map MR.m).length=L.length:=Yc _;have hSl:=hP.p.s;rw[hlm] at hSl;refine (St.refl h).newb fun h3 hs=>?_;refine⟨ss,hs.rd 0 rfl (i:=0) rfl,?_⟩;refine up_loopS (n:=ss.n) hs (fun i=>∀(p:Nat) z m,p<i->S[p]?=some z->(L.map MR.m)[p]?=some m->m.fin[z.toNat]?=some true) (fun p z m hj=>by omega) ?_;rintro-i h9 hi ⟨hs,hq⟩;refine sB_intro (fun c=>?_) (fun c=>?_)
 .replace c:=lt_t c;refine (hC.s.rw.ext hs.ext).nbI (by omega) (by omega) fun b10 o11 z gz t=>?_;replace gz:S[i]?=some z:=gz;refine⟨z,t.hd,?_⟩;refine (hS.r.rw.ext hs.ext).nbI (by omega) (by omega) fun b o y gy t2=>?_;replace gy:L[i]?=some y:=gy;have gm:(L.map MR.m)[i]?=some y.m:=by rw[Yd,gy];rfl
  have hyi:=hS.i y (Yb gy);have hfl:=(hP.v.m i y.m gm).2.1.n.fl;have hz:=hP.p.st i z y.m gz gm;have hfn:=hyi.pf.ln;refine⟨y.f,t2.nth 3 rfl,?_⟩;refine (hyi.pf.rw.ext hs.ext).nbI hz.1 (by omega) fun b o f gf t3=>?_;refine⟨f,t3.hd,sB_intro (fun d=>?_) (fun d=>?_)⟩
  .refine RP.f (fun hF=>?_) hs.ext;have:=hF.s i z y.m gz gm;rw[gf] at this;cases this;cases d
  .refine Up.next (by omega) (by omega) ⟨hs,fun p z' m' hj h1 h2=>?_⟩;by_cases e:p=i
   .subst e;rw[gz] at h1;rw[gm] at h2;cases h1;cases h2;rw[gf];cases f
    .cases d
    .rfl
   .exact hq p z' m' (by omega) h1 h2
 .replace c:=lt_f c;refine⟨sb,hs.rd 0 rfl (i:=1) rfl,?_⟩;refine (any93 B sb h9 (hC.b.ext hs.ext) fun q hq=>(hC.i q hq).ext hs.ext).mono ?_;rintro _ h23 ⟨⟨b,rfl,hb⟩,E⟩;refine⟨b,rfl,RP.e ?_ (hs.ext.trans E)⟩;have hall:∀(p:Nat) z m,S[p]?=some z->(L.map MR.m)[p]?=some m->m.fin[z.toNat]?=some true:=fun p z m h1 h2=>hq p z m (by have:=(Ya.1 h1).1;omega) h1 h2;cases b with
  | true=>exact iff_of_false (by decide) fun hF=>hb.1 rfl hF.b
  | false=>exact iff_of_true rfl ⟨hall,Classical.not_not.1 fun hn=>by have:=hb.2 hn;cases this⟩

theorem Rw.tail1 {h:Heap} {s:Sl} {row:List Value} {rows:List (List Value)} (hr:Rw h 1 s (row::rows)) (hc:s.n<=s.c) (h1:1<=s.n):Rw h 1 ⟨subA s.a (Int.toNat 1) s.c 1,Int.toNat (s.n:Nat)-Int.toNat 1,s.c-Int.toNat 1⟩ rows/\subA s.a (Int.toNat 1) s.c 1≠none:=by
 obtain⟨e1,e2⟩:=hr;rw[Yyj] at e1;obtain⟨b,o,ha,hrow⟩:=e2 (by simp);have e3:Int.toNat (1:Int)=1:=rfl;rw[e3,Ys];refine⟨⟨by show s.n-1=_;omega,fun hp=>?_⟩,?_⟩
 .have hc1:¬s.c=1:=by omega
  refine⟨b,o+1,?_,fun i r hi=>?_⟩
  .show subA s.a 1 s.c 1=_;unfold subA;rw[if_neg hc1,ha,Option.map_some,Nat.one_mul,Addr.add_lit]
  .have:=hrow (i+1) r hi
   rwa [show o+(i+1)*1=o+1+i*1 by omega] at this
 .show subA s.a 1 s.c 1≠none;unfold subA;rw[ha];split<;>simp

theorem mvO_get {L:List Mch} {r i:Int} {x:Mv} (h:mvO L r i=some x):∃p j:Nat,r=(p:Int)/\i=(j:Int)/\∃m,L[p]?=some m/\m.mv[j]?=some x:=by
 unfold mvO at h;split at h
 .cases h
 .rename_i c;split at h
  .cases h
  .rename_i m gm;split at h
   .cases h
   .rename_i c2;exact⟨r.toNat,i.toNat,by omega,by omega,m,gm,h⟩
theorem divmod_two {n a b:Nat} (hb:b<n):(n*a+b)/n=a/\(n*a+b)%n=b:=by
 constructor
 .rw[Nat.mul_add_div (by omega),Nat.div_eq_of_lt hb,Nat.add_zero]
 .rw[Nat.mul_add_mod,Nat.mod_eq_of_lt hb]
theorem pro_do {L:List Mch} {k:Int} {S:List Int} {BL:List (List Int)} {p:Nat} {m:Mch} {x:Mv} (hP:ProS L k S BL) (gm:L[p]?=some m) (hxm:x∈m.mv) (hc:canS L.length k S BL p x=0):ProS L k (S.set p x.t) (doB L.length p x BL):=by
 have hp:p<L.length:=(Ya.1 gm).1;have hvm:=hP.v.m p m gm;have hx:=hvm.2.1.n.mv x hxm;have hx1:=hvm.2.2 x hxm;have hj:=bxI_lt (n:=L.length) (x:=x) hp hx.2.2.2.2.1 hx1;obtain⟨q,gq⟩:=get_some (l:=BL) (i:=bxI L.length p x) (by rw[hP.p.b];exact hj);have hqd:BL.getD (bxI L.length p x) []=q:=by rw[Yo,gq];rfl
 have hbq:=hP.p.bx _ q gq;refine⟨hP.v,hP.c,⟨by rw[Yyh];exact hP.p.s,by unfold doB;rw[Yyh];exact hP.p.b,fun q' s m' h1 h2=>?_,fun j b hb=>?_⟩⟩
 .by_cases e:q'=p
  .subst e;rw[gm] at h2;cases h2;rw[Yq (by rw[hP.p.s];exact hp)] at h1;cases h1;exact⟨hx.2.2.1,hx.2.2.2.1⟩
  .rw[Yy (Ne.symm e)] at h1;exact hP.p.st q' s m' h1 h2
 .unfold doB at hb;by_cases e:j=bxI L.length p x
  .subst e;rw[Yq (by rw[hP.p.b];exact hj),hqd] at hb;cases hb;have hd:¬bxI L.length p x/L.length=bxI L.length p x%L.length:=by
    unfold bxI;have hpr:=hx.2.2.2.2.2.2.1;rw[hvm.1] at hpr;have h0:=hx.2.2.2.2.1;split
    .obtain⟨a,b⟩:=divmod_two (n:=L.length) (a:=p) (b:=x.peer.toNat) (by omega);rw[a,b];omega
    .obtain⟨a,b⟩:=divmod_two (n:=L.length) (a:=x.peer.toNat) (b:=p) hp;rw[a,b];omega
   refine⟨?_,fun h=>absurd h hd,?_⟩
   .unfold canS at hc;rw[hqd] at hc;split at hc
    .exact absurd hc (by decide)
    .split
     .rename_i hs;rw[if_pos hs] at hc;rw[Yh,Yv];split at hc
      .exact absurd hc (by decide)
      .omega
     .rw[List.length_tail];omega
   .intro z hz;split at hz
    .rcases Yk.1 hz with hz | hz
     .exact hbq.2.2 z hz
     .rw[Ye.1 hz];exact hx.2.2.2.2.2.2.2
    .exact hbq.2.2 z (List.mem_of_mem_tail hz)
  .rw[Yy (Ne.symm e)] at hb;exact hP.p.bx j b hb
end Go.VC
end
