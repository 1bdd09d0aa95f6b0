/- UkSort UkC UkD UkE WkA WkVcL TkX0 TkX TkVcH TkY TkVcI TkMa UkVcD. -/
import Derived.Test.YtnfkibjnkiojnaaGreatDoorM20
import Derived.Test.YtnfkibjnkiojnaaGreatDoorM11
import Derived.Test.YtnfkibjnkiojnaaGreatDoorM21
import Derived.Test.YtnfkibjnkiojnaaGreatDoorM01
import Derived.Test.YtnfkibjnkiojnaaGreatDoorM13
import Derived.Test.YtnfkibjnkiojnaaGreatDoorM16
import Derived.Test.YtnfkibjnkiojnaaGreatDoorM03
import Derived.Test.YtnfkibjnkiojnaaGreatDoorM02
import Derived.Test.YtnfkibjnkiojnaaGreatDoorProg
import Derived.KernelRfl
import Derived.Test.YtnfkibjnkiojnaaGreatDoorM09
import Derived.Test.YtnfkibjnkiojnaaGreatDoorM15
set_option linter.unusedVariables false
set_option linter.unusedSimpArgs false
set_option maxRecDepth 100000

section
/- slices.SortFunc at the numbers of moves, by the order of their events: from the kit's contract. (At the seat; over the development dump a stub stands for it.) -/
namespace Go.VC
open Go.Proofs Go.Shelf
theorem swo_on {α β:Type} {cf:β->β->Int} (hO:Go.Sort.SWO (ltOf cf)) (f:α->β):Go.Sort.SWO (ltOf fun i j=>cf (f i) (f j)) where
 irrefl x:=hO.irrefl (f x)
 trans x y z:=hO.trans (f x) (f y) (f z)
 ntrans x y z:=hO.ntrans (f x) (f y) (f z)
theorem fin_list {n:Nat}:∀ {l:List Nat},(∀ x ∈ l,x<n)->∃ k:List (Fin n),l=k.map Fin.val
 | [],_=>⟨[],rfl⟩
 | a::l,h=>by
  obtain ⟨k,hk⟩:=fin_list (l:=l) fun x hx=>h x (Yn _ hx)
  exact ⟨⟨a,h a Yx⟩::k,by rw [Yyl,<- hk]⟩
def finE {n:Nat} (k:Fin n):Value:=.int .i64 ((k.val:Nat):Int)
theorem natI_fin {n:Nat} (k:List (Fin n)):(natI (k.map Fin.val)).map inC=k.map fun x=>[finE x]:=by
 unfold natI
 rw [List.map_map,List.map_map]; rfl
theorem sort152:Sort152:=by
 intro m sm a h0 h Ls hs i s l hi hlm hnil hml hll hread
 by_cases hl0:l=[]
 ·
  subst hl0
  have ha:=hnil rfl
  have hget:=hs.get hi
  rcases hget.1.2 with ⟨_,hn0,hc0⟩ | ⟨b,cur,ha',_⟩
  ·
   have hset:Ls.set i (.sl s 3 1 ((natI []).map inC))=Ls:=by
    obtain ⟨p,q⟩:=Ya.1 hi
    rw [<- q]; exact List.set_getElem_self p
   intro w hw
   subst hw
   rw [ha,hn0,hc0]
   refine (AnyF.slices_SortFunc_none { Tryz.sortL152 with } none ((0:Nat):Nat) (.func (.func 173) #[] #[.pointer (some a)]) w).mono ?_
   rintro e' w' ⟨rfl,rfl⟩
   exact ⟨_,rfl,⟨rfl,[],List.Perm.refl _,List.Pairwise.nil,by rw [hset]; exact hs⟩,rfl,rfl,rfl,trivial⟩
  ·
   rw [ha] at ha'; cases ha'
 ·
  have hpos:0<m.mv.length:=by
   cases l with
   | nil=>exact absurd rfl hl0
   | cons x r=>have:=hlm x Yx; omega
  haveI:Inhabited (Fin m.mv.length):=⟨⟨0,hpos⟩⟩
  obtain ⟨k,rfl⟩:=fin_list hlm
  have hi':Ls[i]?=some (.sl s 3 1 (k.map fun x=>[finE x])):=by rw [hi,natI_fin]
  rw [Yc] at hll
  refine Fn.mono (sort_own1 Tryz.sortL152 3 (finE (n:=m.mv.length)) (fun _=>rfl) (fun x y:Fin m.mv.length=>cmpE (evI m x.val) (evI m y.val)) (swo_on swoE fun x:Fin m.mv.length=>evI m x.val) 173 #[.pointer (some a)] (enters_of Tryz.func173 (by kernel_rfl) rfl) hs i hi' (by omega) (fun x y h' hsz hoth=>?_)) ?_
  ·
   obtain ⟨r1,r2⟩:=hread h' hsz hoth
   have g:∀ x:Fin m.mv.length,m.mv[x.val]?=some m.mv[x.val]:=fun x=>Yi x.isLt
   have ev:∀ x:Fin m.mv.length,evI m x.val=m.mv[x.val].ev:=fun x=>by unfold evI; rw [g x]
   rw [ev x,ev y]
   exact @M.order153 monoDrawn m.mv sm a x.val y.val m.mv[x.val] m.mv[y.val] h' r1 r2 (g x) (g y)
  ·
   rintro v h' ⟨rfl,k',hp,hw,hs'⟩
   refine ⟨rfl,k'.map Fin.val,hp.map _,?_,by rw [natI_fin]; exact hs'⟩
   rw [List.pairwise_map]
   refine hw.imp fun {a b} hab=>?_
   unfold ltOf at hab
   rw [decide_eq_false_iff_not,cmpE_neg] at hab
   exact hab
end Go.VC
end

section
/- Contract: the sorted table of a machine. (Numbers of layer 26's seat.) -/
namespace Go.VC
open Go.Proofs Go.LexS
def tbA (m:Mch) (sf sm sl:Sl) (b bg:Nat) (ho:Sl) (qs:List (Sl × List Int)):List It:=
 [.blk b (mC m sf sm sl++[.slice ho.a ho.n ho.c]) 249,.sl ho 23 1 ((qs.map Prod.fst).map slC),.blk bg (mC m sf sm sl) 55]
structure TbL (m:Mch) (i:Nat) (qs:List (Sl × List Int)):Prop where
 l:qs.length=m.n.toNat
 q:∀ (n:Nat) q,qs[n]?=some q->q.2=natI ((List.range i).filter (outP m n))
 e:∀ (n:Nat) q,qs[n]?=some q->q.2=[]->q.1.a=none
theorem TbL.start (m:Mch):TbL m 0 (List.replicate m.n.toNat (⟨none,0,0⟩,[])):=
 ⟨by rw [Yg],fun n q hq=>by rw [List.eq_of_mem_replicate (Yb hq)]; rfl,fun n q hq _=>by rw [List.eq_of_mem_replicate (Yb hq)]⟩
theorem TbL.len {m:Mch} {i n:Nat} {qs:List (Sl × List Int)} (h:TbL m i qs) {q:Sl × List Int} (hq:qs[n]?=some q):q.2.length<=i:=by
 rw [h.q n q hq,show (natI ((List.range i).filter (outP m n))).length=((List.range i).filter (outP m n)).length from Yc _]
 exact Yys (List.length_filter_le _ _) (by rw [Yyd]; exact Yyt _)
theorem TbL.next {m:Mch} {i k:Nat} {qs:List (Sl × List Int)} {x:Mv} {q:Sl × List Int} {r:Sl} (h:TbL m i qs) (hx:m.mv[i]?=some x) (hm:x.f=(k:Int)) (hq:qs[k]?=some q):TbL m (i+1) (qs.set k (r,q.2++[(i:Int)])):=by
 refine ⟨by rw [Yyh]; exact h.l,fun n q' hq'=>?_,fun n q' hq' he=>by
  by_cases e:n=k
  ·
   subst e
   rw [Yq (Ya.1 hq).1] at hq'; cases hq'
   exact absurd he (by simp)
  ·
   rw [Yy (fun h=>e h.symm)] at hq'
   exact h.e n q' hq' he⟩
 have hp:outP m n i=decide (x.f=(n:Int)):=by unfold outP; rw [hx]
 rw [List.range_succ,List.filter_append]
 by_cases e:n=k
 ·
  subst e
  rw [Yq (Ya.1 hq).1] at hq'; cases hq'
  rw [List.filter_cons_of_pos (by rw [hp]; exact decide_eq_true hm),List.filter_nil,natI_snoc]
  show q.2++[(i:Int)]=_
  rw [h.q n q hq]
 ·
  rw [Yy (fun h=>e h.symm)] at hq'
  rw [List.filter_cons_of_neg (by rw [hp,decide_eq_false (by omega)]; simp),List.filter_nil,Yw]
  exact h.q n q' hq'
structure TbS (m:Mch) (i:Nat) (qs:List (Sl × List Int)):Prop where
 l:qs.length=m.n.toNat
 q:∀ (n:Nat) q,qs[n]?=some q->∃ l:List Nat,q.2=natI l/\l.Perm (outIx m (n:Int))/\(n<i->l.Pairwise fun a b=>¬ evLt (evI m b) (evI m a))
 e:∀ (n:Nat) q,qs[n]?=some q->q.2=[]->q.1.a=none
theorem natI_back (l:List Nat):(natI l).map Int.toNat=l:=by
 unfold natI
 rw [List.map_map]
 have:(Int.toNat ∘ fun c:Nat=>(c:Int))=id:=rfl
 rw [this,List.map_id]
set_option maxHeartbeats 1600000 in
theorem sorted97 (m:Mch) (sf sm sl:Sl) (h:Heap) (hM:MI h m sf sm sl) (hN:NumM m) :
  Fn Pz 123 #[.agg ⟨mC m sf sm sl⟩] h fun v h'=>Ext h h'/\∃ (b:Nat) (S:Nat->List Nat),v=.pointer (some ⟨b,0,none⟩)/\TbI h' ⟨b,0,none⟩ m sf sm sl S:=by
 apply vc123 m.role m.n m.s sf sm sl; unfold W123
 have hmn:=hM.pm.ln
 have hmm:=hM.pm.sm
 have hn:=hN.n
 have hml:=hN.ml
 have hmx:m.n.toNat<=maxLen:=by simp only [maxLen]; omega
 refine (St.refl h).newb fun h7 hs=>?_
 have hs7:h.size<h7.size:=hc_blk (hs.rd 0 rfl (i:=0) rfl)
 refine ⟨_,_,_,sf,sm,sl,hs.at 0 rfl (o:=0) (n:=6) rfl,_,hs.rd 0 rfl rfl,⟨by omega,by omega,by omega⟩,?_⟩
 rw [made42]
 have hrep:((List.replicate m.n.toNat ((⟨none,0,0⟩,[]):Sl × List Int)).map Prod.fst)=List.replicate m.n.toNat (⟨none,0,0⟩:Sl):=List.map_replicate
 refine hs.newbE fun h15 E15 hs=>⟨E15.sm,?_⟩
 have hs:=hs.blkS m.n.toNat 1 _ rfl (slrows _) (by rw [Yc,Yg]) hmx
 refine hs.newb fun h16 hs=>?_
 obtain ⟨ho,hho,hhn⟩:∃ ho:Sl,ho=⟨some ⟨h7.size,0,none⟩,m.n.toNat,m.n.toNat⟩/\ho.n=m.n.toNat:=⟨_,rfl,rfl⟩
 have hs:St h h16 (tbA m sf sm sl h15.size h.size ho (List.replicate m.n.toNat (⟨none,0,0⟩,[]))++(List.replicate m.n.toNat ((⟨none,0,0⟩,[]):Sl × List Int)).map (nest 3 1 inC)++[]):=by
  have h1:St h h16 (tbA m sf sm sl h15.size h.size ho (List.replicate m.n.toNat (⟨none,0,0⟩,[]))++[]):=by
   unfold tbA
   rw [hrep,hho]
   exact hs
  exact h1.nests (α:=Int) (e:=3) (k:=1) (cs:=inC) m.n.toNat
 refine ⟨sm,hs.rd 2 rfl rfl,?_⟩
 refine up_loop (n:=sm.n) (fun i h'=>∃ qs,TbL m i qs/\St h h' (tbA m sf sm sl h15.size h.size ho qs++qs.map (nest 3 1 inC)++[])) ⟨_,TbL.start m,hs⟩ ?_
 clear hs
 rintro - i h22 hi ⟨qs,hL,hs⟩
 refine sB_intro (fun c=>?_) (fun c=>?_)
 ·
  replace c:=lt_t c
  refine (hM.pm.ext hs.ext).rw.nbI (by omega) (by omega) fun b23 o24 x gx t=>?_
  replace gx:m.mv[i]?=some x:=gx
  have hx:=hN.mv x (Yb gx)
  obtain ⟨k,hk⟩:∃ k:Nat,x.f=k:=⟨x.f.toNat,by omega⟩
  obtain ⟨q,hq⟩:=get_some (l:=qs) (i:=k) (by rw [hL.l]; omega)
  have hql:=hL.len hq
  have hqn:q.1.n=q.2.length:=by
   have:=hs.len (3+k) (s:=q.1) (e:=3) (n:=1) (rows:=q.2.map inC) (by
    have:=get_mid (P:=tbA m sf sm sl h15.size h.size ho qs) (Q:=qs.map (nest 3 1 inC)) (R:=[]) (i:=k) (by rw [Yc]; exact (Ya.1 hq).1)
    rw [show (tbA m sf sm sl h15.size h.size ho qs).length=3 from rfl] at this
    rw [this,Yd,hq]; rfl) (by omega)
   rw [this.1,Yc]
  refine ⟨_,_,_,_,_,_,t,?_⟩
  refine hs.newput (vs:=x.cs) rfl rfl fun h32 hs=>?_
  refine ⟨ho,hs.rd 1 rfl rfl,_,hs.rd 0 rfl rfl,ho,hs.rd 1 rfl rfl,_,hs.rd 0 rfl rfl,?_⟩
  refine (hs.rows 2 rfl (by omega)).nbI (cs:=slC) (L:=qs.map Prod.fst) (by omega) (by omega) fun b37 o38 d gd t37=>?_
  have ed:d=q.1:=by
   rw [hk,show ((k:Int)).toNat=k from rfl,Yd,hq] at gd
   exact (Yyp gd).symm
  subst ed
  refine ⟨_,t37.hd,?_⟩
  refine hs.newbE fun h40 E40 hs=>⟨E40.sm,?_⟩
  have hs':St h h40 ((.blk h32.size (inC (i:Int)) 3 :: .blk h22.size x.cs 108::tbA m sf sm sl h15.size h.size ho qs)++qs.map (nest 3 1 inC)++[]):=hs
  refine hs'.nestAt hq app42 (i:Int) (hs'.at 0 rfl (n:=1) rfl) rfl rfl (by omega) (by simp only [maxLen]; omega) fun r h42 hr hs3=>⟨sm_cons (hs'.same hs3 1 1 rfl rfl) (sm_cons (hs'.same hs3 2 2 rfl rfl) sm_nil),?_⟩
  refine hs3.set 3 (cs:=slC) (l:=qs.map Prod.fst) rfl (by omega) (by omega) (by omega) r rfl rfl (fun b o h45 hs4=>?_) rfl
  refine Up.next c (by omega) ⟨qs.set k (r,q.2++[(i:Int)]),hL.next gx hk hq,?_⟩
  unfold tbA
  rw [fst_set]
  rw [hk] at hs4
  exact hs4.drop 2
 ·
  replace c:=lt_f c
  have him:i=m.mv.length:=by omega
  subst him
  refine ⟨ho,hs.rd 0 rfl rfl,?_⟩
  have hS0:TbS m 0 qs:=⟨hL.l,fun n q hq=>⟨_,hL.q n q hq,List.Perm.refl _,fun hn=>by omega⟩,hL.e⟩
  refine up_loop (n:=ho.n) (fun i h'=>∃ qs,TbS m i qs/\St h h' (tbA m sf sm sl h15.size h.size ho qs++qs.map (nest 3 1 inC)++[])) ⟨qs,hS0,hs⟩ ?_
  clear hs hS0 hL
  rintro - i h52 hi ⟨qs,hS,hs⟩
  have hl:=hS.l
  refine sB_intro (fun c=>?_) (fun c=>?_)
  ·
   replace c:=lt_t c
   refine (hs.rows 1 rfl (by omega)).nbI (cs:=slC) (L:=qs.map Prod.fst) (by omega) (by omega) fun b53 o54 d gd t53=>?_
   obtain ⟨q,hq⟩:=get_some (l:=qs) (i:=i) (by omega)
   have ed:d=q.1:=by
    rw [show ((i:Int)).toNat=i from rfl,Yd,hq] at gd
    exact (Yyp gd).symm
   subst ed
   refine ⟨_,t53.hd,?_⟩
   obtain ⟨l,hql,hlp,_⟩:=hS.q i q hq
   have hilt:=(Ya.1 hq).1
   have hidx:(tbA m sf sm sl h15.size h.size ho qs++qs.map (nest 3 1 inC)++[])[3+i]?=some (.sl q.1 3 1 ((natI l).map inC)):=by
    have:=get_mid (P:=tbA m sf sm sl h15.size h.size ho qs) (Q:=qs.map (nest 3 1 inC)) (R:=[]) (i:=i) (by rw [Yc]; exact hilt)
    rw [show (tbA m sf sm sl h15.size h.size ho qs).length=3 from rfl] at this
    rw [this,Yd,hq,<- hql]; rfl
   have hlm:∀ y ∈ l,y<m.mv.length:=fun y hy=>by
    obtain ⟨x,hx,_⟩:=outIx_mem.1 (hlp.mem_iff.1 hy)
    exact (Ya.1 hx).1
   have hll:l.length<=1048576:=by
    rw [hlp.length_eq]
    unfold outIx
    exact Yys (List.length_filter_le _ _) (by rw [Yyd]; omega)
   have hbg:(tbA m sf sm sl h15.size h.size ho qs++qs.map (nest 3 1 inC)++[])[2]?=some (.blk h.size (mC m sf sm sl) 55):=rfl
   have hap:∀ b,q.1.a.map (·.block)=some b->b ≠ h.size:=fun b hb e=>by
    have h1:=(List.pairwise_iff_getElem.1 hs.ap) 2 (3+i) (Ya.1 hbg).1 (Ya.1 hidx).1 (by omega)
    rw [(Ya.1 hbg).2,(Ya.1 hidx).2] at h1
    exact h1 h.size rfl (by show q.1.a.map (·.block)=_; rw [hb,e])
   have hfr:∀ b,q.1.a.map (·.block)=some b->h.size<=b:=fun b hb=>(hs.ok _ (Yb hidx)).2 b hb
   refine (sort152 m sm ⟨h.size,0,none⟩ hs (3+i) hidx hlm (fun hl0=>hS.e i q hq (by rw [hql,hl0]; rfl)) (by omega) hll fun h' hsz hoth=>?_).mono ?_
   ·
    have E':Ext h h':=⟨Yys hs.ext.1 hsz,fun c hc=>by
     rw [hoth c (by have:=hs.ext.1; omega) fun e=>by have:=hfr c e; omega]
     exact hs.ext.2 c hc⟩
    refine ⟨?_,hM.pm.rw.ext E'⟩
    have h1:hc h52 ⟨h.size,0+4,none⟩=some (.slice sm.a sm.n sm.c):=hs.rd 2 rfl rfl
    rw [hc_of_block (h:=h52) (by
     show h'[h.size]?=h52[h.size]?
     refine hoth h.size (hc_blk h1) fun e=>hap h.size e rfl)]
    exact h1
   ·
    rintro _ h57 ⟨rfl,l',hp',hs'',hst⟩
    refine ⟨rfl,?_⟩
    have hset:(tbA m sf sm sl h15.size h.size ho qs++qs.map (nest 3 1 inC)++[]).set (3+i) (.sl q.1 3 1 ((natI l').map inC))=tbA m sf sm sl h15.size h.size ho (qs.set i (q.1,natI l'))++(qs.set i (q.1,natI l')).map (nest 3 1 inC)++[]:=by
     have h1:=set_mid (P:=tbA m sf sm sl h15.size h.size ho qs) (R:=[]) (Q:=qs.map (nest 3 1 inC)) (i:=i) (by rw [Yc]; exact hilt) (.sl q.1 3 1 ((natI l').map inC))
     rw [show (tbA m sf sm sl h15.size h.size ho qs).length=3 from rfl] at h1
     rw [h1,List.map_set]
     have h2:tbA m sf sm sl h15.size h.size ho (qs.set i (q.1,natI l'))=tbA m sf sm sl h15.size h.size ho qs:=by
      unfold tbA
      rw [fst_set,list_set_self (by rw [Yd,hq]; rfl)]
     rw [h2]; rfl
    rw [hset] at hst
    refine Up.next c (by omega) ⟨qs.set i (q.1,natI l'),⟨by rw [Yyh]; exact hl,fun n q' hq'=>?_,fun n q' hq' he=>?_⟩,hst⟩
    rotate_left
    ·
     by_cases e:n=i
     ·
      subst e
      rw [Yq hilt] at hq'; cases hq'
      have hl0:l'=[]:=by
       cases l' with
       | nil=>rfl
       | cons a r=>cases he
      subst hl0
      exact hS.e n q hq (by rw [hql,List.nil_perm.1 hp']; rfl)
     ·
      rw [Yy (fun h=>e h.symm)] at hq'
      exact hS.e n q' hq' he
    by_cases e:n=i
    ·
     subst e
     rw [Yq hilt] at hq'; cases hq'
     exact ⟨l',rfl,hp'.trans hlp,fun _=>hs''⟩
    ·
     rw [Yy (fun h=>e h.symm)] at hq'
     obtain ⟨l2,k1,k2,k3⟩:=hS.q n q' hq'
     exact ⟨l2,k1,k2,fun hn=>k3 (by omega)⟩
  ·
   replace c:=lt_f c
   refine ⟨hs.ext,h15.size,fun i=>((qs.getD i default).2).map Int.toNat,rfl,⟨ho,fun i=>(qs.getD i default).1,rfl,hs.at 0 rfl (o:=0) (n:=7) rfl,hhn,?_,fun j hj=>?_⟩,fun j hj=>?_⟩
   ·
    have:=hs.rw 1 rfl (by omega)
    have key:(qs.map Prod.fst).map slC=(List.range qs.length).map fun i=>slC ((qs.getD i default).1):=by rw [List.map_map,map_range]; rfl
    rw [key,hl] at this; exact this
   all_goals
    have hg:qs[j]?=some (qs.getD j default):=by rw [Yo,Yi (by omega)]; rfl
    obtain ⟨l,k1,k2,k3⟩:=hS.q j _ hg
   ·
    have:=hs.rw (3+j) (rows:=(qs.getD j default).2.map inC) (s:=(qs.getD j default).1) (e:=3) (n:=1) (by
     have:=get_mid (P:=tbA m sf sm sl h15.size h.size ho qs) (Q:=qs.map (nest 3 1 inC)) (R:=[]) (i:=j) (by rw [Yc]; omega)
     rw [show (tbA m sf sm sl h15.size h.size ho qs).length=3 from rfl] at this
     rw [this,Yd,hg]; rfl) (by omega)
    rw [k1] at this ⊢
    rw [natI_back]; exact this
   ·
    rw [k1,natI_back]
    exact ⟨k2,k3 (by omega)⟩
end Go.VC
end

section
/- Contracts: what the validity of a machine asks: no event twice, all reached. (Numbers of layer 26's seat.) -/
namespace Go.VC
open Go.Proofs Go.LexS
def DetM (m:Mch):Prop:=∀ (i k:Nat) x y,m.mv[i]?=some x->m.mv[k]?=some y->i ≠ k->x.f=y.f->x.ev ≠ y.ev/\x.send=y.send
theorem outIx_nodup (m:Mch) (s:Int):(outIx m s).Nodup:=List.Nodup.sublist List.filter_sublist List.nodup_range
theorem evI_of {m:Mch} {i:Nat} {x:Mv} (h:m.mv[i]?=some x):evI m i=x.ev:=by unfold evI; rw [h]
theorem evLt_of {x y:Ev} (h1:¬ evLt y x) (h2:x ≠ y):evLt x y:=by
 rcases evLt_tri x y with h | h | h
 ·
  exact h
 ·
  exact absurd h h2
 ·
  exact absurd h h1
theorem srt_lt {m:Mch} {s:Nat} {l:List Nat} (hS:SrtM m s l) (hA:∀ (j:Nat) a b,l[j]?=some a->l[j+1]?=some b->evI m a ≠ evI m b):∀ (j i:Nat) (a b:Nat),i<j->l[i]?=some a->l[j]?=some b->evLt (evI m a) (evI m b)
 | 0,i,a,b,h,_,_=>by omega
 | j+1,i,a,b,h,ha,hb=>by
  have hl:=(Ya.1 hb).1
  obtain ⟨c,hc⟩:=get_some (l:=l) (i:=j) (by omega)
  have h1:evLt (evI m c) (evI m b):=by
   refine evLt_of ?_ (hA j c b hc hb)
   have:=(List.pairwise_iff_getElem.1 hS.s) j (j+1) (by omega) hl (by omega)
   rw [(Ya.1 hc).2,(Ya.1 hb).2] at this
   exact this
  by_cases e:i=j
  ·
   subst e; rw [ha] at hc; cases hc; exact h1
  ·
   exact evLt_trans (srt_lt hS hA j i a c (by omega) ha hc) h1
theorem srt_send {m:Mch} {l:List Nat} (hA:∀ (j:Nat) a b,l[j]?=some a->l[j+1]?=some b->(evI m a).send=(evI m b).send):∀ (j:Nat) (a b:Nat),l[0]?=some a->l[j]?=some b->(evI m a).send=(evI m b).send
 | 0,a,b,ha,hb=>by rw [ha] at hb; cases hb; rfl
 | j+1,a,b,ha,hb=>by
  have hl:=(Ya.1 hb).1
  obtain ⟨c,hc⟩:=get_some (l:=l) (i:=j) (by omega)
  exact (srt_send hA j a c ha hc).trans (hA j c b hc hb)
set_option maxHeartbeats 1600000 in
theorem det98 (m:Mch) (sf sm sl:Sl) (b:Nat) (S:Nat->List Nat) (h:Heap) (hM:MI h m sf sm sl) (hN:NumM m) (hT:TbI h ⟨b,0,none⟩ m sf sm sl S) :
  Fn Pz 124 #[.pointer (some ⟨b,0,none⟩)] h (RP (DetM m) h):=by
 apply vc124; unfold W124
 obtain ⟨ho,qs,_,hat,hhn,hho,hqs⟩:=hT.ex
 have hmn:=hM.pm.ln
 have hmm:=hM.pm.sm
 have hn:=hN.n
 have hbb:b<h.size:=hc_blk (hat.nth 0 rfl)
 refine ⟨ho,hat.nth 6 rfl,?_⟩
 refine up_loop (n:=ho.n) (fun i h'=>Ext h h'/\∀ (v:Nat),v<i->∀ (j:Nat) a b,(S v)[j]?=some a->(S v)[j+1]?=some b->evI m a ≠ evI m b/\(evI m a).send=(evI m b).send) ⟨.rfl',fun v hv=>by omega⟩ ?_
 rintro - i h6 hi ⟨E6,hQ⟩
 refine sB_intro (fun c=>?_) (fun c=>?_)
 ·
  replace c:=lt_t c
  have hil:i<m.n.toNat:=by omega
  refine (hho.ext E6).nbI (by omega) (by omega) fun b7 o8 v gv t7=>?_
  have hv:v=i:=by rw [show ((i:Int)).toNat=i from rfl,Yyb hil] at gv; exact (Yyp gv).symm
  subst hv
  have hS:=hT.so v hil
  have hrow:=hqs v hil
  have hrn:=hrow.ln
  rw [show (natI (S v)).length=(S v).length from Yc _] at hrn
  have hSl:(S v).length<=1048576:=by
   rw [hS.p.length_eq]
   unfold outIx
   exact Yys (List.length_filter_le _ _) (by rw [Yyd]; omega)
  refine ⟨_,t7.hd,?_⟩
  refine ⟨fun x h' μ=>∃ j:Nat,x=j/\1<=j/\j<=(qs v).n+1/\μ=(qs v).n+1 - j/\Ext h h'/\∀ (k:Nat) a b,k+1<j->(S v)[k]?=some a->(S v)[k+1]?=some b->evI m a ≠ evI m b/\(evI m a).send=(evI m b).send,⟨_,1,rfl,Yyt _,by omega,rfl,E6,fun k a b hk=>by omega⟩,?_⟩
  rintro - _ h14 μ ⟨j,rfl,hj1,hj,rfl,E14,hq⟩
  refine sB_intro (fun c1=>?_) (fun c1=>?_)
  ·
   replace c1:=lt_t c1
   have hw:IntKind.wrap .i64 ((j:Int) - 1)=((j - 1:Nat):Int):=by rw [w64 (by omega) (by omega)]; omega
   rw [hw]
   refine ⟨sm,(atC_ext E14 hat).nth 4 rfl,?_⟩
   refine (hrow.ext E14).nbI (by omega) (by omega) fun b16 o17 d1 g16 t16=>?_
   replace g16:(natI (S v))[j - 1]?=some d1:=g16
   obtain ⟨p1,gi,rfl⟩:=natI_get g16
   obtain ⟨x,hx,hxf⟩:=outIx_mem.1 (hS.p.mem_iff.1 (Yb gi))
   have hxl:=(Ya.1 hx).1
   refine ⟨_,t16.nth 0 rfl,?_⟩
   refine (hM.pm.rw.ext E14).nbI (by omega) (by omega) fun b19 o20 x' gx t19=>?_
   replace gx:m.mv[p1]?=some x':=gx
   rw [hx] at gx; cases gx
   refine ⟨_,_,_,_,_,_,t19,sm,(atC_ext E14 hat).nth 4 rfl,?_⟩
   refine (hrow.ext E14).nbI (by omega) (by omega) fun b28 o29 d2 g28 t28=>?_
   replace g28:(natI (S v))[j]?=some d2:=g28
   obtain ⟨p2,gj,rfl⟩:=natI_get g28
   obtain ⟨y,hy,hyf⟩:=outIx_mem.1 (hS.p.mem_iff.1 (Yb gj))
   have hyl:=(Ya.1 hy).1
   refine ⟨_,t28.nth 0 rfl,?_⟩
   refine (hM.pm.rw.ext E14).nbI (by omega) (by omega) fun b31 o32 y' gy t31=>?_
   replace gy:m.mv[p2]?=some y':=gy
   rw [hy] at gy; cases gy
   have hxy:x.f=y.f:=by omega
   have hne:p1 ≠ p2:=fun e=>by
    have nd:=(hS.p.nodup_iff).2 (outIx_nodup m (v:Int))
    have h1:=(Ya.1 gi)
    have h2:=(Ya.1 gj)
    have h3:=(List.pairwise_iff_getElem.1 nd) (j - 1) j h1.1 h2.1 (by omega)
    rw [h1.2,h2.2] at h3
    exact h3 e
   have k31:b31<h14.size:=hc_blk t31.hd
   have k28:b28<h14.size:=hc_blk t28.hd
   have kb:b<h14.size:=by have:=E14.1; omega
   refine ⟨_,_,_,_,_,_,t31,?_,?_⟩
   ·
    refine (St.refl h14).newbE fun h39 E39 hs=>⟨E39.sm,?_⟩
    have hs39:h14.size<h39.size:=hc_blk (hs.rd 0 rfl (i:=0) rfl)
    refine hs.newbE fun h40 E40 hs=>⟨E40.sm,?_⟩
    obtain ⟨k1,k2⟩:=hs.put (K:=fun h'=>St h14 h' [.blk h39.size [.int .i64 0,.bool false,.int .i64 0,.int .i64 0,.int .i64 0,.bool false] 108,.blk h14.size x.cs 108]) 1 rfl (o:=0) (vs:=x.cs) (n:=6) rfl (show 6<=6 by decide) (fun h' hs=>hs)
    refine ⟨k1,fun h41 e41=>?_⟩
    have hs:=k2 h41 e41
    have hB:But h14.size h40 h41:=by rw [e41]; exact But.hputs (a:=⟨h14.size,0,none⟩) _ _ _
    refine ⟨Sm_but hB (fun a ha=>?_),?_⟩
    ·
     simp only [Yr,List.not_mem_nil,or_false] at ha
     rcases ha with rfl | rfl | rfl
     ·
      show b31 ≠ h14.size; omega
     ·
      show b28 ≠ h14.size; omega
     ·
      show b ≠ h14.size; omega
    refine hs.put 0 rfl (o:=0) (vs:=y.cs) rfl (show 6<=6 by decide) fun h42 hs=>?_
    replace hs:St h h42 [.blk h39.size y.cs 108,.blk h14.size x.cs 108]:=by
     refine ⟨E14.trans hs.ext,fun i hi=>⟨(hs.ok i hi).1,fun b hb=>Yys E14.1 ((hs.ok i hi).2 b hb)⟩,hs.ap⟩
    refine ⟨_,_,_,_,_,_,hs.at 1 rfl (o:=0) (n:=6) rfl,_,_,_,_,_,_,hs.at 0 rfl (o:=0) (n:=6) rfl,?_⟩
    refine (M.of63 x _).mono ?_
    rintro _ h59 ⟨rfl,E1⟩
    have hs:=hs.step E1
    refine ⟨_,_,_,rfl,E1.sm,?_⟩
    refine (M.of63 y h59).mono ?_
    rintro _ h64 ⟨rfl,E2⟩
    have hs:=hs.step E2
    refine ⟨_,_,_,rfl,E2.sm,?_⟩
    refine sB_intro (fun d=>?_) (fun d=>?_)
    ·
     have d':x.ev=y.ev:=Yyn ((evEq x.ev y.ev).symm.trans d)
     exact RP.f (fun hD=>(hD _ _ x y hx hy hne hxy).1 d') hs.ext
    have d':x.ev ≠ y.ev:=Yyo ((evEq x.ev y.ev).symm.trans d)
    refine ⟨_,hs.rd 1 rfl rfl,_,hs.rd 0 rfl rfl,sB_intro (fun e=>?_) (fun e=>?_)⟩
    ·
     exact RP.f (fun hD=>by rw [(hD _ _ x y hx hy hne hxy).2] at e; simp at e) hs.ext
    have e':x.send=y.send:=by simpa using e
    refine ⟨_,by omega,j+1,by rw [w64 (by omega) (by omega)]; omega,by omega,by omega,rfl,hs.ext,fun k a b hk ha hb=>?_⟩
    by_cases ek:k+1=j
    ·
     have ek':k=j - 1:=by omega
     subst ek'
     rw [ha] at gi; cases gi
     rw [show j - 1+1=j by omega] at hb
     rw [hb] at gj; cases gj
     rw [evI_of hx,evI_of hy]
     exact ⟨d',e'⟩
    ·
     exact hq k a b (by omega) ha hb
   ·
    refine (St.refl h14).newbE fun h68 E68 hs=>⟨E68.sm,?_⟩
    have hs68:h14.size<h68.size:=hc_blk (hs.rd 0 rfl (i:=0) rfl)
    refine hs.newbE fun h69 E69 hs=>⟨E69.sm,?_⟩
    obtain ⟨k1,k2⟩:=hs.put (K:=fun h'=>St h14 h' [.blk h68.size x.cs 108,.blk h14.size [.int .i64 0,.bool false,.int .i64 0,.int .i64 0,.int .i64 0,.bool false] 108]) 0 rfl (o:=0) (vs:=x.cs) (n:=6) rfl (show 6<=6 by decide) (fun h' hs=>hs)
    refine ⟨k1,fun h70 e70=>?_⟩
    have hs:=k2 h70 e70
    have hB:But h68.size h69 h70:=by rw [e70]; exact But.hputs (a:=⟨h68.size,0,none⟩) _ _ _
    refine ⟨Sm_but hB (fun a ha=>?_),?_⟩
    ·
     simp only [Yr,List.not_mem_nil,or_false] at ha
     rcases ha with rfl | rfl | rfl
     ·
      show b31 ≠ h68.size; omega
     ·
      show b28 ≠ h68.size; omega
     ·
      show b ≠ h68.size; omega
    refine hs.put 1 rfl (o:=0) (vs:=y.cs) rfl (show 6<=6 by decide) fun h71 hs=>?_
    replace hs:St h h71 [.blk h68.size x.cs 108,.blk h14.size y.cs 108]:=by
     refine ⟨E14.trans hs.ext,fun i hi=>⟨(hs.ok i hi).1,fun b hb=>Yys E14.1 ((hs.ok i hi).2 b hb)⟩,hs.ap⟩
    refine ⟨_,_,_,_,_,_,hs.at 0 rfl (o:=0) (n:=6) rfl,_,_,_,_,_,_,hs.at 1 rfl (o:=0) (n:=6) rfl,?_⟩
    refine (M.of63 x _).mono ?_
    rintro _ h59 ⟨rfl,E1⟩
    have hs:=hs.step E1
    refine ⟨_,_,_,rfl,E1.sm,?_⟩
    refine (M.of63 y h59).mono ?_
    rintro _ h64 ⟨rfl,E2⟩
    have hs:=hs.step E2
    refine ⟨_,_,_,rfl,E2.sm,?_⟩
    refine sB_intro (fun d=>?_) (fun d=>?_)
    ·
     have d':x.ev=y.ev:=Yyn ((evEq x.ev y.ev).symm.trans d)
     exact RP.f (fun hD=>(hD _ _ x y hx hy hne hxy).1 d') hs.ext
    have d':x.ev ≠ y.ev:=Yyo ((evEq x.ev y.ev).symm.trans d)
    refine ⟨_,hs.rd 0 rfl rfl,_,hs.rd 1 rfl rfl,sB_intro (fun e=>?_) (fun e=>?_)⟩
    ·
     exact RP.f (fun hD=>by rw [(hD _ _ x y hx hy hne hxy).2] at e; simp at e) hs.ext
    have e':x.send=y.send:=by simpa using e
    refine ⟨_,by omega,j+1,by rw [w64 (by omega) (by omega)]; omega,by omega,by omega,rfl,hs.ext,fun k a b hk ha hb=>?_⟩
    by_cases ek:k+1=j
    ·
     have ek':k=j - 1:=by omega
     subst ek'
     rw [ha] at gi; cases gi
     rw [show j - 1+1=j by omega] at hb
     rw [hb] at gj; cases gj
     rw [evI_of hx,evI_of hy]
     exact ⟨d',e'⟩
    ·
     exact hq k a b (by omega) ha hb
  ·
   replace c1:(qs v).n<=j:=by have:=Yyo c1; omega
   refine Up.next c (by omega) ⟨E14,fun v' hv'=>?_⟩
   by_cases e:v'=v
   ·
    subst e
    exact fun k a b ha hb=>hq k a b (by have:=(Ya.1 hb).1; omega) ha hb
   ·
    exact hQ v' (by omega)
 ·
  replace c:=lt_f c
  refine RP.t (fun i1 k1 x y hx hy hne hf=>?_) E6
  have hxr:=hN.mv x (Yb hx)
  have hv:x.f.toNat<m.n.toNat:=by omega
  have hS:=hT.so x.f.toNat hv
  have hA:=hQ x.f.toNat (by omega)
  have hfi:((x.f.toNat:Nat):Int)=x.f:=by omega
  have m1:i1 ∈ S x.f.toNat:=hS.p.mem_iff.2 (outIx_mem.2 ⟨x,hx,hfi.symm⟩)
  have m2:k1 ∈ S x.f.toNat:=hS.p.mem_iff.2 (outIx_mem.2 ⟨y,hy,by omega⟩)
  obtain ⟨a,ha⟩:=Yf.1 m1
  obtain ⟨c,hc⟩:=Yf.1 m2
  have hne2:a ≠ c:=fun e=>by subst e; rw [ha] at hc; cases hc; exact hne rfl
  have hlt:=srt_lt hS (fun j a b h1 h2=>(hA j a b h1 h2).1)
  rw [<- evI_of hx,<- evI_of hy]
  constructor
  ·
   rcases Nat.lt_or_gt_of_ne hne2 with h1 | h1
   ·
    have:=hlt c a i1 k1 h1 ha hc
    exact fun e=>by rw [e] at this; exact evLt_irr _ this
   ·
    have:=hlt a c k1 i1 h1 hc ha
    exact fun e=>by rw [e] at this; exact evLt_irr _ this
  ·
   obtain ⟨z,hz⟩:=get_some (l:=S x.f.toNat) (i:=0) (by have:=(Ya.1 ha).1; omega)
   have hs:=srt_send (m:=m) (l:=S x.f.toNat) (fun j a b h1 h2=>(hA j a b h1 h2).2)
   have e1:=hs a z i1 hz ha
   have e2:=hs c z k1 hz hc
   have e3:(evI m i1).send=(evI m k1).send:=e1.symm.trans e2
   rw [evI_of hx,evI_of hy] at e3
   exact e3
end Go.VC
end

section
/- Contracts: what the validity of a machine asks: reach, Again, timeouts; open and Valid. (Numbers of layer 26's seat.) -/
namespace Go.VC
open Go.Proofs Go.LexS
def meds (m:Mch):List Ed:=m.mv.map fun x=>⟨x.f,0,0,0,x.t,false⟩
theorem meds_q {m:Mch} {n:Nat} {b:Int}:b ∈ quietL (meds m) (-1) n ↔ ∃ x ∈ m.mv,x.f=(n:Int)/\x.t=b:=by
 rw [quietL_mem]
 constructor
 ·
  rintro ⟨e,he,_,hf,ht⟩
  obtain ⟨x,hx,rfl⟩:=Yp.1 he
  exact ⟨x,hx,hf,ht⟩
 ·
  rintro ⟨x,hx,hf,ht⟩
  exact ⟨_,Yp.2 ⟨x,hx,rfl⟩,rfl,hf,ht⟩
def RchM (m:Mch):Prop:=∀ v:Int,0<=v->v<m.n->Qr (meds m) (-1) [m.s] v
theorem reached99 (m:Mch) (sf sm sl:Sl) (b:Nat) (S:Nat->List Nat) (h:Heap) (hM:MI h m sf sm sl) (hN:NumM m) (hT:TbI h ⟨b,0,none⟩ m sf sm sl S) :
  Fn Pz 125 #[.pointer (some ⟨b,0,none⟩)] h (RP (RchM m) h):=by
 apply vc125; unfold W125
 obtain ⟨ho,qs,_,hat,hhn,hho,hqs⟩:=hT.ex
 have hmn:=hM.pm.ln
 have hmm:=hM.pm.sm
 have hn:=hN.n
 have hsn:=hN.s
 refine ⟨_,hat.nth 1 rfl,⟨by omega,by omega,by omega⟩,?_⟩
 rw [made4]
 refine (St.refl h).newb fun h2' hs=>?_
 refine ⟨_,(atC_ext hs.ext hat).nth 2 rfl,⟨by omega,by omega⟩,?_⟩
 have e0:0+Int.toNat m.s*1=m.s.toNat:=by omega
 rw [e0]
 refine hs.put 0 rfl (o:=m.s.toNat) (vs:=[.bool true]) rfl (by rw [Yc,Yg,Yv]; omega) fun h4 hs=>?_
 rw [map_splice _ (by rw [Yg]; omega)] at hs
 refine ⟨_,(atC_ext hs.ext hat).nth 2 rfl,?_⟩
 refine hs.newb fun h6 hs=>?_
 have hs:=hs.blkS 1 1 ([m.s].map inC) rfl (inrows _) rfl (by decide)
 have hC0:CL (meds m) (-1) m.n.toNat [m.s] ((List.replicate m.n.toNat false).set m.s.toNat true) [m.s]:=
  (CL.start (meds m) (-1) m.n.toNat [m.s]).push hsn.1 (by rw [List.getElem?_replicate,if_pos (by omega)]) (.base (Ye.2 rfl))
 refine ⟨fun todo x h' μ=>∃ (i:Nat) (D:List Bool) (T:List Int),x=i/\μ=m.n.toNat - i/\i<=T.length/\St h h' [.sl todo 3 1 (T.map inC),.blk h.size (D.map Value.bool) 4]/\CL (meds m) (-1) m.n.toNat [m.s] D T/\m.s ∈ T/\∀ v ∈ T.take i,∀ b ∈ quietL (meds m) (-1) v.toNat,b ∈ T,⟨_,0,_,_,rfl,rfl,by omega,hs,hC0,Ye.2 rfl,fun v hv=>by rw [Yyk] at hv; cases hv⟩,?_⟩
 clear hs hC0
 rintro - todo_22 _ h24 μ ⟨i,D,T,rfl,rfl,hi,hs,hC,hlT,hcl⟩
 have htl:=(hs.rows 0 rfl (by omega)).ln
 have hle:=hC.le
 refine sBi (fun c2=>?_) (fun c2=>?_)
 ·
  refine ⟨_,(atC_ext hs.ext hat).nth 6 rfl,?_⟩
  refine (hs.rows 0 rfl (by omega)).nbI (by omega) (by omega) fun b26 o27 v g26 t26=>?_
  replace g26:T[i]?=some v:=g26
  have hvm:=(hC.mem v).1 (Yb g26)
  have hvl:v.toNat<m.n.toNat:=by have:=(Ya.1 hvm.2).1; have:=hC.len; omega
  refine ⟨_,t26.hd,?_⟩
  refine (hho.ext hs.ext).nbI (by omega) (by omega) fun b29 o30 k g29 t29=>?_
  have hk:k=v.toNat:=by rw [Yyb hvl] at g29; exact (Yyp g29).symm
  subst hk
  refine ⟨_,t29.hd,?_⟩
  have hiT:=(Ya.1 g26).1
  have hS:=hT.so v.toNat hvl
  have hrow:=hqs v.toNat hvl
  have hrn:=hrow.ln
  rw [show (natI (S v.toNat)).length=(S v.toNat).length from Yc _] at hrn
  have hSl:(S v.toNat).length<=1048576:=by
   rw [hS.p.length_eq]
   unfold outIx
   exact Yys (List.length_filter_le _ _) (by rw [Yyd]; omega)
  refine ⟨fun todo x h' μ=>∃ (j:Nat) (D:List Bool) (T':List Int),x=j/\μ=(qs v.toNat).n - j/\j<=(qs v.toNat).n/\St h h' [.sl todo 3 1 (T'.map inC),.blk h.size (D.map Value.bool) 4]/\CL (meds m) (-1) m.n.toNat [m.s] D T'/\(∃ R,T'=T++R)/\∀ k ∈ (S v.toNat).take j,∀ y,m.mv[k]?=some y->y.t ∈ T',⟨_,0,D,T,rfl,rfl,by omega,hs,hC,⟨[],by simp⟩,fun v hv=>by rw [Yyk] at hv; cases hv⟩,?_⟩
  clear hs hC htl hle
  rintro - todo_35 _ h37 μ ⟨j,D,T',rfl,rfl,hj,hs,hC,⟨R,rfl⟩,hcl2⟩
  have htl:=(hs.rows 0 rfl (by omega)).ln
  have hle:=hC.le
  have hDl:=hC.len
  refine sBi (fun c3=>?_) (fun c3=>?_)
  ·
   refine (hrow.ext hs.ext).nbI (by omega) (by omega) fun b38 o39 d g38 t38=>?_
   replace g38:(natI (S v.toNat))[j]?=some d:=g38
   obtain ⟨p1,gp,rfl⟩:=natI_get g38
   obtain ⟨x,hx,hxf⟩:=outIx_mem.1 (hS.p.mem_iff.1 (Yb gp))
   have hxl:=(Ya.1 hx).1
   have hxr:=hN.mv x (Yb hx)
   refine ⟨_,t38.hd,sm,(atC_ext hs.ext hat).nth 4 rfl,?_⟩
   refine (hM.pm.rw.ext hs.ext).nbI (by omega) (by omega) fun b30 o31 x' gx t30=>?_
   replace gx:m.mv[p1]?=some x':=gx
   rw [hx] at gx; cases gx
   refine ⟨x.t,t30.nth 4 rfl,⟨by omega,by omega⟩,?_⟩
   obtain ⟨z,hz⟩:=get_some (l:=D) (i:=x.t.toNat) (by omega)
   have e1:0+Int.toNat x.t*1=x.t.toNat:=by omega
   rw [e1]
   refine ⟨_,hs.rd 1 rfl (by rw [map_get,hz]; rfl),?_⟩
   refine sB_intro (fun c4=>?_) (fun c4=>?_)
   ·
    have hzf:z=false:=bF c4
    subst hzf
    refine ⟨⟨by omega,by omega⟩,?_⟩
    refine hs.put 1 rfl (o:=x.t.toNat) (vs:=[.bool true]) rfl (by rw [Yc,Yv]; omega) fun h42 hs=>?_
    refine hs.app 0 rfl app42 (m:=1) [[.int .i64 x.t]] rfl rfl (by simp) rfl (by omega) (by simp only [maxLen]; omega) fun s44 h45 ns44 hs=>?_
    have hqr:Qr (meds m) (-1) [m.s] x.t:=.step (hC.r v (by rw [Yk]; exact .inl (Yb g26))) ⟨⟨x.f,0,0,0,x.t,false⟩,Yp.2 ⟨x,Yb hx,rfl⟩,rfl,by show x.f=v; omega,rfl⟩
    refine ⟨_,by omega,j+1,D.set x.t.toNat true,T++R++[x.t],by rw [w64 (by omega) (by omega)]; omega,rfl,by omega,?_,hC.push (by omega) hz hqr,⟨R++[x.t],by rw [Yz]⟩,fun k hk y hy=>?_⟩
    ·
     rw [Ym,<- map_splice _ (by omega)]; exact hs
    ·
     rw [take_snoc gp,Yk,Ye] at hk
     rw [Yk]
     rcases hk with hk | rfl
     ·
      exact .inl (hcl2 k hk y hy)
     ·
      rw [hx] at hy; cases hy; exact .inr (Ye.2 rfl)
   ·
    have hzt:z=true:=bT c4
    subst hzt
    refine ⟨_,by omega,j+1,D,T++R,by rw [w64 (by omega) (by omega)]; omega,rfl,by omega,hs,hC,⟨R,rfl⟩,fun k hk y hy=>?_⟩
    rw [take_snoc gp,Yk,Ye] at hk
    rcases hk with hk | rfl
    ·
     exact hcl2 k hk y hy
    ·
     rw [hx] at hy; cases hy; exact (hC.mem _).2 ⟨by omega,hz⟩
  ·
   have hTR:(T++R).length=T.length+R.length:=Yh
   refine ⟨_,by omega,i+1,D,T++R,by rw [w64 (by omega) (by omega)]; omega,rfl,by rw [Yh]; omega,hs,hC,List.mem_append_left _ hlT,fun v' hv'=>?_⟩
   have ht1:(T++R).take (i+1)=T.take i++[v]:=by rw [Yyq (by omega),take_snoc g26]
   rw [ht1,Yk,Ye] at hv'
   rcases hv' with hv' | rfl
   ·
    exact fun b hb=>List.mem_append_left _ (hcl v' hv' b hb)
   ·
    intro b hb
    obtain ⟨x,hx,hxf,rfl⟩:=meds_q.1 hb
    obtain ⟨k,hk⟩:=Yf.1 hx
    refine hcl2 k ?_ x hk
    rw [Yj (by omega)]
    exact hS.p.mem_iff.2 (outIx_mem.2 ⟨x,hk,hxf⟩)
 ·
  refine ⟨_,(atC_ext hs.ext hat).nth 1 rfl,RP.e ?_ hs.ext⟩
  have hend:=fun v=>hC.end_ (fun x hx=>by rw [Ye.1 hx]; exact hlT) (fun v hv b hb=>hcl v (by rw [Yj (by omega)]; exact hv) b hb) v
  have hcnt:=hC.cnt
  have hDl:=hC.len
  have hk:(((todo_22.n:Nat):Int) == m.n)=true ↔ T.length=m.n.toNat:=by rw [beq_iff_eq]; omega
  rw [hk]
  constructor
  ·
   intro hTl v h0 h1
   have hall:=List.count_eq_length.1 (show D.count true=D.length by omega)
   obtain ⟨z,hz⟩:=get_some (l:=D) (i:=v.toNat) (by omega)
   have:=hall z (Yb hz)
   subst this
   exact (hend v).1 ((hC.mem v).2 ⟨h0,hz⟩)
  ·
   intro hR
   have hall:D.count true=D.length:=List.count_eq_length.2 fun z hz=>by
    obtain ⟨j,hj⟩:=Yf.1 hz
    have hjl:=(Ya.1 hj).1
    have h1:=((hC.mem (j:Int)).1 ((hend (j:Int)).2 (hR j (by omega) (by omega)))).2
    rw [show ((j:Int)).toNat=j from rfl,hj] at h1
    exact (Yyp h1).symm
   omega
structure AgM (m:Mch):Prop where
 s:∀ x ∈ m.mv,x.ag=true->x.send=true
 o:∀ x ∈ m.mv,x.ag=true->(outIx m x.f).length=1
 i:∀ x ∈ m.mv,x.ag=true->x.f ≠ m.s
 f:∀ x ∈ m.mv,x.ag=true->m.fin[x.f.toNat]?=some false
 p:∀ x ∈ m.mv,x.ag=true->∀ y ∈ m.mv,y.t=x.f->y.send=true/\y.label=x.label
set_option maxHeartbeats 1600000 in
theorem again100 (m:Mch) (sf sm sl:Sl) (b:Nat) (S:Nat->List Nat) (h:Heap) (hM:MI h m sf sm sl) (hN:NumM m) (hT:TbI h ⟨b,0,none⟩ m sf sm sl S) :
  Fn Pz 126 #[.pointer (some ⟨b,0,none⟩)] h (RP (AgM m) h):=by
 apply vc126; unfold W126
 obtain ⟨ho,qs,_,hat,hhn,hho,hqs⟩:=hT.ex
 have hmn:=hM.pm.ln
 have hmm:=hM.pm.sm
 have hfn:=hM.pf.ln
 have hn:=hN.n
 have hfl:=hN.fl
 refine ⟨sm,hat.nth 4 rfl,?_⟩
 refine up_loopS (n:=sm.n) (St.refl h) (fun i=>∀ (j:Nat) x,j<i->m.mv[j]?=some x->x.ag=true->x.send=true/\(outIx m x.f).length=1/\x.f ≠ m.s/\m.fin[x.f.toNat]?=some false/\∀ y ∈ m.mv,y.t=x.f->y.send=true/\y.label=x.label) (fun j x hj=>by omega) ?_
 rintro - i h6 hi ⟨hs,hq⟩
 refine sB_intro (fun c=>?_) (fun c=>?_)
 ·
  replace c:=lt_t c
  refine (hM.pm.rw.ext hs.ext).nbI (by omega) (by omega) fun b7 o8 x gx t=>?_
  replace gx:m.mv[i]?=some x:=gx
  have hxm:=Yb gx
  have hxr:=hN.mv x hxm
  refine ⟨_,_,_,_,_,_,t,?_⟩
  refine hs.newput (vs:=x.cs) rfl rfl fun h16 hs=>?_
  refine ⟨_,hs.rd 0 rfl rfl,sB_intro (fun c1=>?_) (fun c1=>?_)⟩
  ·
   refine Up.next c (by omega) ⟨hs.drop 1,fun j z hj hz=>?_⟩
   by_cases e:j=i
   ·
    subst e; rw [gx] at hz; cases hz
    exact fun ha=>by rw [ha] at c1; cases c1
   ·
    exact hq j z (by omega) hz
  have hag:x.ag=true:=bT c1
  refine ⟨_,hs.rd 0 rfl rfl,sB_intro (fun c2=>RP.f (fun hG=>by rw [hG.s x hxm hag] at c2; cases c2) hs.ext) (fun c2=>?_)⟩
  refine ⟨ho,(atC_ext hs.ext hat).nth 6 rfl,_,hs.rd 0 rfl rfl,?_⟩
  refine (hho.ext hs.ext).nbI (by omega) (by omega) fun b22 o23 v gv t22=>?_
  have hvl:x.f.toNat<m.n.toNat:=by omega
  have hv:v=x.f.toNat:=by rw [Yyb hvl] at gv; exact (Yyp gv).symm
  subst hv
  have hS:=hT.so x.f.toNat hvl
  have hrn:=(hqs x.f.toNat hvl).ln
  rw [show (natI (S x.f.toNat)).length=(S x.f.toNat).length from Yc _] at hrn
  have hfi:((x.f.toNat:Nat):Int)=x.f:=by omega
  have hlen:(S x.f.toNat).length=(outIx m x.f).length:=by rw [hS.p.length_eq,hfi]
  refine ⟨_,t22.hd,sBn (fun c3=>RP.f (fun hG=>by have:=hG.o x hxm hag; omega) hs.ext) (fun c3=>?_)⟩
  refine ⟨_,hs.rd 0 rfl rfl,_,(atC_ext hs.ext hat).nth 2 rfl,sBe (fun c4=>RP.f (fun hG=>hG.i x hxm hag c4) hs.ext) (fun c4=>?_)⟩
  refine ⟨sf,(atC_ext hs.ext hat).nth 3 rfl,_,hs.rd 0 rfl rfl,?_⟩
  refine (hM.pf.rw.ext hs.ext).nbI (by omega) (by omega) fun b29 o30 f gf t29=>?_
  refine ⟨_,t29.hd,sB_intro (fun c5=>RP.f (fun hG=>by rw [hG.f x hxm hag] at gf; cases gf; cases c5) hs.ext) (fun c5=>?_)⟩
  have hff:m.fin[x.f.toNat]?=some false:=by rw [gf,c5]
  refine ⟨sm,(atC_ext hs.ext hat).nth 4 rfl,?_⟩
  refine up_loopS (n:=sm.n) hs (fun k=>∀ (j:Nat) y,j<k->m.mv[j]?=some y->y.t=x.f->y.send=true/\y.label=x.label) (fun j x hj=>by omega) ?_
  clear hs
  rintro - k h37 hk ⟨hs,hq2⟩
  refine sB_intro (fun c6=>?_) (fun c6=>?_)
  ·
   replace c6:=lt_t c6
   refine (hM.pm.rw.ext hs.ext).nbI (by omega) (by omega) fun b38 o39 y gy t38=>?_
   replace gy:m.mv[k]?=some y:=gy
   have hym:=Yb gy
   refine ⟨_,_,_,_,_,_,t38,?_⟩
   refine hs.newput (vs:=y.cs) rfl rfl fun h47 hs=>?_
   refine ⟨_,hs.rd 0 rfl rfl,_,hs.rd 1 rfl rfl,sBe (fun d1=>?_) (fun d1=>?_)⟩
   ·
    refine ⟨_,hs.rd 0 rfl rfl,sB_intro (fun d2=>RP.f (fun hG=>by rw [(hG.p x hxm hag y hym d1).1] at d2; cases d2) hs.ext) (fun d2=>?_)⟩
    refine ⟨_,hs.rd 0 rfl rfl,_,hs.rd 1 rfl rfl,sBn (fun d3=>RP.f (fun hG=>d3 (hG.p x hxm hag y hym d1).2) hs.ext) (fun d3=>?_)⟩
    refine Up.next c6 (by omega) ⟨hs.drop 1,fun j z hj hz=>?_⟩
    by_cases e:j=k
    ·
     subst e; rw [gy] at hz; cases hz; exact fun _=>⟨bT d2,d3⟩
    ·
     exact hq2 j z (by omega) hz
   ·
    refine Up.next c6 (by omega) ⟨hs.drop 1,fun j z hj hz=>?_⟩
    by_cases e:j=k
    ·
     subst e; rw [gy] at hz; cases hz; exact fun h=>absurd h d1
    ·
     exact hq2 j z (by omega) hz
  ·
   replace c6:=lt_f c6
   refine Up.next c (by omega) ⟨hs.drop 1,fun j z hj hz=>?_⟩
   by_cases e:j=i
   ·
    subst e; rw [gx] at hz; cases hz
    refine fun _=>⟨bT c2,by omega,c4,hff,fun y hy=>?_⟩
    obtain ⟨p,hp⟩:=Yf.1 hy
    exact hq2 p y (by have:=(Ya.1 hp).1; omega) hp
   ·
    exact hq j z (by omega) hz
 ·
  replace c:=lt_f c
  have key:∀ x ∈ m.mv,x.ag=true->x.send=true/\(outIx m x.f).length=1/\x.f ≠ m.s/\m.fin[x.f.toNat]?=some false/\∀ y ∈ m.mv,y.t=x.f->y.send=true/\y.label=x.label:=fun x hx=>by
   obtain ⟨j,hj⟩:=Yf.1 hx
   exact hq j x (by have:=(Ya.1 hj).1; omega) hj
  exact RP.t ⟨fun x hx ha=>(key x hx ha).1,fun x hx ha=>(key x hx ha).2.1,fun x hx ha=>(key x hx ha).2.2.1,fun x hx ha=>(key x hx ha).2.2.2.1,fun x hx ha=>(key x hx ha).2.2.2.2⟩ hs.ext
structure TmM (m:Mch) (i:Nat) (t:To):Prop where
 o:∀ z,0<i->m.li[i - 1]?=some z->z.s<t.s
 k:1<=t.k/\t.k<=1000
 e:0<=t.e/\∃ x,m.mv[t.e.toNat]?=some x/\x.f=t.s/\x.send=true/\x.ag=false
def TimM (m:Mch):Prop:=∀ i t,m.li[i]?=some t->TmM m i t
set_option maxHeartbeats 1600000 in
theorem timed101 (m:Mch) (sf sm sl:Sl) (b:Nat) (S:Nat->List Nat) (h:Heap) (hM:MI h m sf sm sl) (hN:NumM m) (hT:TbI h ⟨b,0,none⟩ m sf sm sl S) :
  Fn Pz 127 #[.pointer (some ⟨b,0,none⟩)] h (RP (TimM m) h):=by
 apply vc127; unfold W127
 obtain ⟨ho,qs,_,hat,hhn,hho,hqs⟩:=hT.ex
 have hmn:=hM.pm.ln
 have hmm:=hM.pm.sm
 have hln:=hM.pl.ln
 have hlm:=hM.pl.sm
 refine ⟨sl,hat.nth 5 rfl,?_⟩
 refine up_loopS (n:=sl.n) (St.refl h) (fun i=>∀ (j:Nat) x,j<i->m.li[j]?=some x->TmM m j x) (fun j x hj=>by omega) ?_
 rintro - i h6 hi ⟨hs,hq⟩
 refine sB_intro (fun c=>?_) (fun c=>RP.t (fun j x hx=>hq j x (by have:=lt_f c; have:=(Ya.1 hx).1; omega) hx) hs.ext)
 replace c:=lt_t c
 refine (hM.pl.rw.ext hs.ext).nbI (by omega) (by omega) fun b7 o8 x gx t=>?_
 replace gx:m.li[i]?=some x:=gx
 have no:∀ {q:Prop},(TmM m i x->q)->TimM m->q:=fun f hT=>f (hT i x gx)
 refine ⟨_,_,_,t,?_⟩
 refine hs.newput (vs:=x.cs) rfl rfl fun h13 hs=>?_
 refine sBi (fun c1=>?_) (fun c1=>?_)
 ·
  have hw:IntKind.wrap .i64 ((i:Int) - 1)=((i - 1:Nat):Int):=by rw [w64 (by omega) (by omega)]; omega
  rw [hw]
  refine ⟨sl,(atC_ext hs.ext hat).nth 5 rfl,?_⟩
  refine (hM.pl.rw.ext hs.ext).nbI (by omega) (by omega) fun b15 o16 z gz t15=>?_
  replace gz:m.li[i - 1]?=some z:=gz
  refine ⟨_,t15.nth 0 rfl,_,hs.rd 0 rfl rfl,sBi (fun d0=>RP.f (no fun hT=>by have:=hT.o z (by omega) gz; omega) hs.ext) (fun d0=>?_)⟩
  have hord:∀ z,0<i->m.li[i - 1]?=some z->z.s<x.s:=fun z' _ hz'=>by rw [gz] at hz'; cases hz'; omega
  refine ⟨_,hs.rd 0 rfl rfl,sBi (fun d1=>RP.f (no fun hT=>by have:=hT.k; omega) hs.ext) (fun d1=>?_)⟩
  refine ⟨_,hs.rd 0 rfl rfl,sBi (fun d2=>RP.f (no fun hT=>by have:=hT.k; omega) hs.ext) (fun d2=>?_)⟩
  refine ⟨_,hs.rd 0 rfl rfl,sBi (fun d3=>RP.f (no fun hT=>by have:=hT.e.1; omega) hs.ext) (fun d3=>?_)⟩
  refine ⟨_,hs.rd 0 rfl rfl,sm,(atC_ext hs.ext hat).nth 4 rfl,sBi (fun d4=>RP.f (no fun hT=>by obtain ⟨_,y,hy,_⟩:=hT.e; have:=(Ya.1 hy).1; omega) hs.ext) (fun d4=>?_)⟩
  refine ⟨sm,(atC_ext hs.ext hat).nth 4 rfl,_,hs.rd 0 rfl rfl,?_⟩
  refine (hM.pm.rw.ext hs.ext).nbI (by omega) (by omega) fun b26 o27 y gy t26=>?_
  refine ⟨_,_,_,_,_,_,t26,?_⟩
  intro h34 e34
  refine ⟨smx (by rw [e34]; exact Ext.push _ _),?_⟩
  refine hs.newput (zs:=[.int .i64 0,.bool false,.int .i64 0,.int .i64 0,.int .i64 0,.bool false]) (vs:=y.cs) (n:=6) (e:=108) rfl rfl (fun h35 hs=>?_) h34 e34
  refine ⟨_,hs.rd 0 rfl rfl,_,hs.rd 1 rfl rfl,sBn (fun d5=>RP.f (no fun hT=>by obtain ⟨_,z,hz,hf,_⟩:=hT.e; rw [gy] at hz; cases hz; exact d5 hf) hs.ext) (fun d5=>?_)⟩
  refine ⟨_,hs.rd 0 rfl rfl,sB_intro (fun d6=>RP.f (no fun hT=>by obtain ⟨_,z,hz,_,hf,_⟩:=hT.e; rw [gy] at hz; cases hz; rw [hf] at d6; cases d6) hs.ext) (fun d6=>?_)⟩
  refine ⟨_,hs.rd 0 rfl rfl,sB_intro (fun d7=>RP.f (no fun hT=>by obtain ⟨_,z,hz,_,_,hf⟩:=hT.e; rw [gy] at hz; cases hz; rw [hf] at d7; cases d7) hs.ext) (fun d7=>?_)⟩
  refine Up.next c (by omega) ⟨hs.drop 2,fun j z hj hz=>?_⟩
  by_cases e:j=i
  ·
   subst e; rw [gx] at hz; cases hz
   exact ⟨hord,by omega,by omega,y,gy,d5,bT d6,d7⟩
  ·
   exact hq j z (by omega) hz
 ·
  have hord:∀ z,0<i->m.li[i - 1]?=some z->z.s<x.s:=fun z' h0 _=>by omega
  refine ⟨_,hs.rd 0 rfl rfl,sBi (fun d1=>RP.f (no fun hT=>by have:=hT.k; omega) hs.ext) (fun d1=>?_)⟩
  refine ⟨_,hs.rd 0 rfl rfl,sBi (fun d2=>RP.f (no fun hT=>by have:=hT.k; omega) hs.ext) (fun d2=>?_)⟩
  refine ⟨_,hs.rd 0 rfl rfl,sBi (fun d3=>RP.f (no fun hT=>by have:=hT.e.1; omega) hs.ext) (fun d3=>?_)⟩
  refine ⟨_,hs.rd 0 rfl rfl,sm,(atC_ext hs.ext hat).nth 4 rfl,sBi (fun d4=>RP.f (no fun hT=>by obtain ⟨_,y,hy,_⟩:=hT.e; have:=(Ya.1 hy).1; omega) hs.ext) (fun d4=>?_)⟩
  refine ⟨sm,(atC_ext hs.ext hat).nth 4 rfl,_,hs.rd 0 rfl rfl,?_⟩
  refine (hM.pm.rw.ext hs.ext).nbI (by omega) (by omega) fun b26 o27 y gy t26=>?_
  refine ⟨_,_,_,_,_,_,t26,?_⟩
  intro h34 e34
  refine ⟨smx (by rw [e34]; exact Ext.push _ _),?_⟩
  refine hs.newput (zs:=[.int .i64 0,.bool false,.int .i64 0,.int .i64 0,.int .i64 0,.bool false]) (vs:=y.cs) (n:=6) (e:=108) rfl rfl (fun h35 hs=>?_) h34 e34
  refine ⟨_,hs.rd 0 rfl rfl,_,hs.rd 1 rfl rfl,sBn (fun d5=>RP.f (no fun hT=>by obtain ⟨_,z,hz,hf,_⟩:=hT.e; rw [gy] at hz; cases hz; exact d5 hf) hs.ext) (fun d5=>?_)⟩
  refine ⟨_,hs.rd 0 rfl rfl,sB_intro (fun d6=>RP.f (no fun hT=>by obtain ⟨_,z,hz,_,hf,_⟩:=hT.e; rw [gy] at hz; cases hz; rw [hf] at d6; cases d6) hs.ext) (fun d6=>?_)⟩
  refine ⟨_,hs.rd 0 rfl rfl,sB_intro (fun d7=>RP.f (no fun hT=>by obtain ⟨_,z,hz,_,_,hf⟩:=hT.e; rw [gy] at hz; cases hz; rw [hf] at d7; cases d7) hs.ext) (fun d7=>?_)⟩
  refine Up.next c (by omega) ⟨hs.drop 2,fun j z hj hz=>?_⟩
  by_cases e:j=i
  ·
   subst e; rw [gx] at hz; cases hz
   exact ⟨hord,by omega,by omega,y,gy,d5,bT d6,d7⟩
  ·
   exact hq j z (by omega) hz
structure VM (m:Mch):Prop where
 n:NumM m
 d:DetM m
 r:RchM m
 a:AgM m
 t:TimM m
theorem open47 (m:Mch) (sf sm sl:Sl) (h:Heap) (hM:MI h m sf sm sl) :
  Fn Pz 84 #[.agg ⟨mC m sf sm sl⟩] h fun v h'=>Ext h h'/\∃ (p:Option Addr) (b:Bool),v=.tuple ⟨[.pointer p,.bool b]⟩/\(b=true ↔ VM m)/\(b=true->∃ c S,p=some ⟨c,0,none⟩/\TbI h' ⟨c,0,none⟩ m sf sm sl S):=by
 apply vc84 m.role m.n m.s sf sm sl; unfold W84
 have no:∀ {q:Prop} {p:Option Addr} {h':Heap},Ext h h'->¬ VM m->Ext h h'/\∃ (p':Option Addr) (b:Bool),Value.tuple ⟨[.pointer p,.bool false]⟩=.tuple ⟨[.pointer p',.bool b]⟩/\(b=true ↔ VM m)/\(b=true->∃ c S,p'=some ⟨c,0,none⟩/\TbI h' ⟨c,0,none⟩ m sf sm sl S):=fun E hn=>⟨E,_,false,rfl,iff_of_false (by decide) hn,fun e=>by cases e⟩
 refine (St.refl h).newb fun h7 hs=>?_
 refine ⟨_,_,_,sf,sm,sl,hs.at 0 rfl (o:=0) (n:=6) rfl,?_⟩
 refine (numbers96 m sf sm sl h7 (hM.ext hs.ext)).mono ?_
 rintro _ h16 ⟨⟨b1,rfl,hb1⟩,E⟩
 have hs:=hs.step E
 refine ⟨_,rfl,sB_intro (fun c=>no (q:=True) hs.ext fun hG=>iff_f hb1 (bF c) hG.n) (fun c=>?_)⟩
 have hN:=hb1.1 (bT c)
 refine ⟨_,_,_,sf,sm,sl,hs.at 0 rfl (o:=0) (n:=6) rfl,?_⟩
 refine (sorted97 m sf sm sl h16 (hM.ext hs.ext) hN).mono ?_
 rintro _ h25 ⟨E,b,S,rfl,hT⟩
 have hs:=hs.step E
 refine ⟨_,rfl,?_⟩
 refine (det98 m sf sm sl b S h25 (hM.ext hs.ext) hN hT).mono ?_
 rintro _ h28 ⟨⟨b2,rfl,hb2⟩,E⟩
 have hs:=hs.step E
 have hT:=hT.ext E
 refine ⟨_,rfl,sB_intro (fun c2=>?_) (fun c2=>no (q:=True) hs.ext fun hG=>iff_f hb2 c2 hG.d)⟩
 refine (reached99 m sf sm sl b S h28 (hM.ext hs.ext) hN hT).mono ?_
 rintro _ h31 ⟨⟨b3,rfl,hb3⟩,E⟩
 have hs:=hs.step E
 have hT:=hT.ext E
 refine ⟨_,rfl,sB_intro (fun c3=>?_) (fun c3=>no (q:=True) hs.ext fun hG=>iff_f hb3 c3 hG.r)⟩
 refine (again100 m sf sm sl b S h31 (hM.ext hs.ext) hN hT).mono ?_
 rintro _ h34 ⟨⟨b4,rfl,hb4⟩,E⟩
 have hs:=hs.step E
 have hT:=hT.ext E
 refine ⟨_,rfl,sB_intro (fun c4=>?_) (fun c4=>no (q:=True) hs.ext fun hG=>iff_f hb4 c4 hG.a)⟩
 refine (timed101 m sf sm sl b S h34 (hM.ext hs.ext) hN hT).mono ?_
 rintro _ h37 ⟨⟨b5,rfl,hb5⟩,E⟩
 have hs:=hs.step E
 have hT:=hT.ext E
 exact ⟨_,rfl,hs.ext,_,_,rfl,hb5.trans ⟨fun ht=>⟨hN,hb2.1 c2,hb3.1 c3,hb4.1 c4,ht⟩,fun hG=>hG.t⟩,fun _=>⟨b,S,rfl,hT⟩⟩
theorem valid23 (m:Mch) (sf sm sl:Sl) (h:Heap) (hM:MI h m sf sm sl):Fn Pz 49 #[.agg ⟨mC m sf sm sl⟩] h (RP (VM m) h):=by
 apply vc49 m.role m.n m.s sf sm sl; unfold W49
 refine (St.refl h).newb fun h7 hs=>?_
 refine ⟨_,_,_,sf,sm,sl,hs.at 0 rfl (o:=0) (n:=6) rfl,?_⟩
 refine (open47 m sf sm sl h7 (hM.ext hs.ext)).mono ?_
 rintro _ h17 ⟨E,p,b,rfl,hb,_⟩
 exact ⟨_,_,rfl,RP.e hb (hs.step E).ext⟩
end Go.VC
end

section
/- Contracts: systems of machines: valid. (Numbers of layer 27's development dump.) -/
namespace Go.VC
open Go.Proofs Go.LexS
structure MR where
 m:Mch
 f:Sl
 g:Sl
 l:Sl
def MR.cs (x:MR):List Value:=mC x.m x.f x.g x.l
structure SyI (h:Heap) (s:Sl) (L:List MR):Prop where
 r:RL h 6 s MR.cs L
 i:∀ x ∈ L,MI h x.m x.f x.g x.l
theorem SyI.ext {h h':Heap} {s:Sl} {L:List MR} (hs:SyI h s L) (E:Ext h h'):SyI h' s L:=⟨hs.r.ext E,fun x hx=>(hs.i x hx).ext E⟩
structure SysV (L:List Mch):Prop where
 n:1<=L.length/\L.length<=6
 m:∀ (p:Nat) m,L[p]?=some m->m.role=(p:Int)/\VM m/\∀ x ∈ m.mv,x.peer<(L.length:Int)
theorem cal51:callable Pz 51=true:=by kernel_rfl
theorem index85 (L:List Mv) (s:Sl) (a:Addr) (t:Sl) (h:Heap) (hr:Rw h 6 s (L.map Mv.cs)) (hl:L.length<=1048576) (ha:hc h a=some (.slice t.a t.n t.c)) :
  Fn Pz 85 #[.slice s.a s.n s.c,.func (.func 51) #[] #[.pointer (some a)]] h fun v h'=>(∃ k:Int,v=.int .i64 k/\(0<=k ↔ ∃ x ∈ L,(t.n:Int)<=x.peer))/\Ext h h':=by
 apply vc85 s 51 (some a); unfold W85
 have hn:=hr.ln
 refine up_loop (n:=s.n) (fun i h'=>Ext h h'/\∀ (j:Nat) (x:Mv),j<i->L[j]?=some x->¬ (t.n:Int)<=x.peer) ⟨.rfl',fun j x hj=>by omega⟩ ?_
 rintro - i h5 hi ⟨E,hq⟩
 refine sB_intro (fun c=>?_) (fun c=>?_)
 ·
  replace c:=lt_t c
  refine (hr.ext E).nbI (by omega) (by omega) fun b6 o7 x gx t14=>?_
  replace gx:L[i]?=some x:=gx
  refine ⟨_,_,_,_,_,_,t14,?_⟩
  rw [cal51,cond_true]
  apply vc51 x.f x.send x.peer x.label x.t x.ag a; unfold W51
  refine (St.refl h5).newb fun h7 hs=>?_
  refine ⟨_,hs.rd 0 rfl rfl,t,hc_ext hs.ext (hc_ext E ha),_,rfl,sBi (fun c2=>?_) (fun c2=>?_)⟩
  ·
   exact ⟨⟨_,rfl,iff_of_true (by omega) ⟨x,Yb gx,c2⟩⟩,E.trans hs.ext⟩
  ·
   refine Up.next (by omega) (by omega) ⟨E.trans hs.ext,fun j y hj hy=>?_⟩
   by_cases e:j=i
   ·
    subst e; rw [gx] at hy; cases hy; exact c2
   ·
    exact hq j y (by omega) hy
 ·
  replace c:=lt_f c
  refine ⟨⟨_,rfl,iff_of_false (by omega) ?_⟩,E⟩
  rintro ⟨x,hx,hp⟩
  obtain ⟨j,hj⟩:=Yf.1 hx
  exact hq j x (by have:=(Ya.1 hj).1; omega) hj hp
theorem any50 (L:List Mv) (s:Sl) (a:Addr) (t:Sl) (h:Heap) (hr:Rw h 6 s (L.map Mv.cs)) (hl:L.length<=1048576) (ha:hc h a=some (.slice t.a t.n t.c)) :
  Fn Pz 50 #[.slice s.a s.n s.c,.func (.func 51) #[] #[.pointer (some a)]] h (RP (∃ x ∈ L,(t.n:Int)<=x.peer) h):=by
 apply vc50 s 51 (some a); unfold W50
 refine (index85 L s a t h hr hl ha).mono ?_
 rintro _ h3 ⟨⟨k,rfl,hk⟩,E⟩
 exact ⟨_,rfl,RP.e (by rw [decide_eq_true_eq]; exact hk) E⟩
theorem valid22 (L:List MR) (s:Sl) (h:Heap) (hS:SyI h s L):Fn Pz 22 #[.slice s.a s.n s.c] h (RP (SysV (L.map MR.m)) h):=by
 apply vc22 s; unfold W22
 have hn:=hS.r.ln
 have hlm:(L.map MR.m).length=L.length:=Yc _
 refine (St.refl h).newb fun h1 hs=>?_
 refine ⟨s,hs.rd 0 rfl rfl,sBi (fun c=>RP.f (fun hG=>by have:=hG.n; omega) hs.ext) (fun c1=>?_)⟩
 refine ⟨s,hs.rd 0 rfl rfl,sBi (fun c=>RP.f (fun hG=>by have:=hG.n; omega) hs.ext) (fun c2=>?_)⟩
 refine ⟨s,hs.rd 0 rfl rfl,?_⟩
 refine up_loopS (n:=s.n) hs (fun i=>∀ (j:Nat) (x:MR),j<i->L[j]?=some x->x.m.role=(j:Int)/\VM x.m/\∀ y ∈ x.m.mv,y.peer<(L.length:Int)) (fun j x hj=>by omega) ?_
 rintro - i h9 hi ⟨hs,hq⟩
 refine sB_intro (fun c=>?_) (fun c=>?_)
 ·
  replace c:=lt_t c
  refine (hS.r.rw.ext hs.ext).nbI (by omega) (by omega) fun b o x gx t=>?_
  replace gx:L[i]?=some x:=gx
  have hxi:=hS.i x (Yb gx)
  have hmx:(L.map MR.m)[i]?=some x.m:=by rw [Yd,gx]; rfl
  refine ⟨_,_,_,_,_,_,t,?_⟩
  refine hs.newput (vs:=mC x.m x.f x.g x.l) rfl rfl fun h19 hs=>?_
  refine ⟨_,hs.rd 0 rfl (i:=0) rfl,sBn (fun c=>RP.f (fun hG=>c (hG.m i x.m hmx).1) hs.ext) (fun c3=>?_)⟩
  refine ⟨_,_,_,x.f,x.g,x.l,hs.at 0 rfl (o:=0) (n:=6) rfl,?_⟩
  refine (valid23 x.m x.f x.g x.l h19 (hxi.ext hs.ext)).mono ?_
  rintro _ h29 ⟨⟨b1,rfl,hb1⟩,E⟩
  have hs:=hs.step E
  refine ⟨_,rfl,sB_intro (fun c=>RP.f (fun hG=>iff_f hb1 (bF c) (hG.m i x.m hmx).2.1) hs.ext) (fun c4=>?_)⟩
  refine ⟨x.g,hs.rd 0 rfl (i:=4) rfl,?_⟩
  refine (any50 x.m.mv x.g ⟨h.size,0,none⟩ s h29 (hxi.ext hs.ext).pm.rw hxi.pm.sm (hs.rd 1 rfl rfl)).mono ?_
  rintro _ h33 ⟨⟨b2,rfl,hb2⟩,E⟩
  have hs:=hs.step E
  refine ⟨_,rfl,sB_intro (fun c=>RP.f (fun hG=>?_) hs.ext) (fun c5=>?_)⟩
  ·
   obtain ⟨y,hy,hp⟩:=hb2.1 c
   have:=(hG.m i x.m hmx).2.2 y hy
   omega
  ·
   refine Up.next (by omega) (by omega) ⟨hs.drop 1,fun j y hj hy=>?_⟩
   by_cases e:j=i
   ·
    subst e; rw [gx] at hy; cases hy
    refine ⟨c3,hb1.1 (bT c4),fun z hz=>?_⟩
    have:¬ (s.n:Int)<=z.peer:=fun hp=>by rw [hb2.2 ⟨z,hz,hp⟩] at c5; cases c5
    omega
   ·
    exact hq j y (by omega) hy
 ·
  replace c:=lt_f c
  refine RP.t ⟨by omega,fun p m hm=>?_⟩ hs.ext
  rw [Yd] at hm
  obtain ⟨x,hx,rfl⟩:=Yya.1 hm
  rw [hlm]
  exact hq p x (by have:=(Ya.1 hx).1; omega) hx
end Go.VC
end

section
namespace Go.VC
open Go.Proofs

def W95 (p0_1 p0_2 p0_3:Int) (p0_4 p0_5 p0_6:Sl) (p1 p2 p3:Int) (h:Heap) (R:Value->Heap->Prop):Prop:=
 (Wn h (L1 p0_1 p0_2 p0_3 p0_4 p0_5 p0_6) 55 fun h7=>
 (Wn h7 [vI p1] 3 fun h8=>
 (QSI ⟨(some (aS h7 0)),1,1⟩ 0 h8 fun I9 l_12 i_13 h14 m11=>(
 (sB (decide (i_13<(l_12.n:Int)))
 ((∃ x15 x16 x17 x18 x19 x20,aL1 h14 (aS h 0) x15 x16 x17 x18 x19 x20 /\
 (NB l_12.a fun b21 o22=>(Ib i_13 l_12.n /\
 (∃ x23,rI h14 ⟨b21,o22+Int.toNat i_13*1,none⟩ x23 /\
 (Fn Pz 83 #[.agg ⟨(L1 x15 x16 x17 x18 x19 x20)⟩,vI x23] h14
 (fun v24 h26=>∃ x25,iS v24 x25 /\
 (QSI l_12 0 h26 fun I27 l_30 k_31 h32 m29=>(
 (sB (decide (k_31<(x25.n:Int)))
 ((∃ x33,rS h32 (aS h 4) x33 /\
 (NB x25.a fun b34 o35=>(Ib k_31 x25.n /\
 (∃ x36,rI h32 ⟨b34,o35+Int.toNat k_31*1,none⟩ x36 /\
 (NB x33.a fun b37 o38=>(Ib x36 x33.n /\
 (∃ x39 x40 x41 x42 x43 x44,aL0 h32 ⟨b37,o38+Int.toNat x36*6,none⟩ x39 x40 x41 x42 x43 x44 /\
 (Wn h32 [vI 0,.bool false,vI 0,vI 0,vI 0,.bool false] 108 fun h45=>
 (Sm [⟨b37,o38+Int.toNat x36*6,none⟩,⟨b34,o35+Int.toNat k_31*1,none⟩,(aS h 4)] h32 h45 /\
 (Wp h45 (aS h32 0) 6 (L0 x39 x40 x41 x42 x43 x44) fun h46=>
 (∃ x47,rB h46 (aS h32 1) x47 /\
 (sB x47
 ((∃ x48,rI h46 (aS h32 4) x48 /\
 (Fn Pz 128 #[vS l_30,vI x48] h46
 (fun v49 h51=>∃ x50,iB v49 x50 /\
 (sB (!x50)
 ((∃ x52,rI h51 (aS h32 4) x52 /\
 (Wn h51 [vI x52] 3 fun h53=>
 (App Pz 23 23 (vS l_30) (.slice (some (aS h51 0)) 1 1) h53 fun s54 h55=>
 (∃ m56,m56<m29/\I27 s54 (IntKind.wrap .i64 (k_31+1)) h55 m56)))))
 ((∃ m57,m57<m29/\I27 l_30 (IntKind.wrap .i64 (k_31+1)) h51 m57)))))))
 ((∃ x58,rI h46 (aS h32 2) x58 /\
 (sB (x58 != p2)
 ((∃ x59,rI h46 (aS h32 4) x59 /\
 (Fn Pz 128 #[vS l_30,vI x59] h46
 (fun v60 h62=>∃ x61,iB v60 x61 /\
 (sB (!x61)
 ((∃ x63,rI h62 (aS h32 4) x63 /\
 (Wn h62 [vI x63] 3 fun h64=>
 (App Pz 23 23 (vS l_30) (.slice (some (aS h62 0)) 1 1) h64 fun s65 h66=>
 (∃ m67,m67<m29/\I27 s65 (IntKind.wrap .i64 (k_31+1)) h66 m67)))))
 ((∃ m68,m68<m29/\I27 l_30 (IntKind.wrap .i64 (k_31+1)) h62 m68)))))))
 ((∃ x69,rI h46 (aS h32 3) x69 /\
 (sB (x69 == p3)
 (R (.bool true) h46)
 ((∃ m70,m70<m29/\I27 l_30 (IntKind.wrap .i64 (k_31+1)) h46 m70)))))))))))))))))))))
 ((∃ m71,m71<m11/\I9 l_30 (IntKind.wrap .i64 (i_13+1)) h32 m71))))))))))))
 (R (.bool false) h14))))))
theorem vc95 (p0_1 p0_2 p0_3:Int) (p0_4 p0_5 p0_6:Sl) (p1 p2 p3:Int) (h:Heap) (R:Value->Heap->Prop) (H:W95 p0_1 p0_2 p0_3 p0_4 p0_5 p0_6 p1 p2 p3 h R):Fn Pz 95 #[.agg ⟨(L1 p0_1 p0_2 p0_3 p0_4 p0_5 p0_6)⟩,vI p1,vI p2,vI p3] h R:=fnI (A:=(.s .z (.s .z (.s (.s .z (.b (.l [(9,.one (.slice)),(10,.one (.int .i64))] (.s .z (.s (.b (.s .z (.s .z (.b (.l [(9,.one (.slice)),(12,.one (.int .i64))] .z))))) .z))))) .z)))) (by kernel_rfl) H

end Go.VC
end

section
/- The view table and the raw machine, computed with sets of states al lists. No program here. -/
namespace Go.VC

def setOf (L:List Nat):PSet:=fun j=>decide (j ∈ L)
def Can (n:Nat) (L:List Nat):Prop:=L=(List.range n).filter fun j=>decide (j ∈ L)
theorem Can.mk (n:Nat) (p:Nat->Bool):Can n ((List.range n).filter p):=by
 unfold Can
 apply List.filter_congr
 intro x hx
 by_cases hm:x ∈ (List.range n).filter p
 ·
  rw [decide_eq_true hm]; exact (List.mem_filter.1 hm).2
 ·
  rw [decide_eq_false hm]
  cases hp:p x
  ·
   rfl
  ·
   exact absurd (List.mem_filter.2 ⟨hx,hp⟩) hm
theorem Can.lt {n:Nat} {L:List Nat} (h:Can n L):∀ j ∈ L,j<n:=by
 intro j hj
 rw [h,List.mem_filter,List.mem_range] at hj
 exact hj.1
theorem setOf_inj {n:Nat} {L L':List Nat} (h:Can n L) (h':Can n L'):setOf L=setOf L' ↔ L=L':=by
 constructor
 ·
  intro e
  rw [h,h']
  congr 1
 ·
  intro e; rw [e]
theorem elems_setOf {n:Nat} {L:List Nat} (h:Can n L) (hn:n<=4096):elems (setOf L)=L:=by
 unfold elems
 have e:List.range 4096=List.range n++(List.range (4096 - n)).map (n + ·):=by rw [<- List.range_add]; congr 1; omega
 rw [e,List.filter_append]
 have e2:((List.range (4096 - n)).map (n + ·)).filter (setOf L)=[]:=by
  rw [List.filter_eq_nil_iff]
  intro x hx
  obtain ⟨y,_,rfl⟩:=Yp.1 hx
  unfold setOf
  simp only [decide_eq_true_eq]
  intro hm
  have:=h.lt _ hm
  omega
 rw [e2,Yw]
 exact h.symm
def evsC (es:List Ed) (role:Int) (L:List Nat):List Ev:=sortE (L.flatMap fun n=>(visL es role n).map (·.x))
def toC (es:List Ed) (role:Int) (L:List Nat) (x:Ev):List Int:=L.flatMap fun n=>(visL es role n).filterMap fun a=>if a.x=x then some a.to else none
theorem evs_setOf {n:Nat} {L:List Nat} (h:Can n L) (hn:n<=4096) (es:List Ed) (role:Int):evs es role (setOf L)=evsC es role L:=by unfold evs evL evsC; rw [elems_setOf h hn]
theorem toL_setOf {n:Nat} {L:List Nat} (h:Can n L) (hn:n<=4096) (es:List Ed) (role:Int) (x:Ev):toL es role (setOf L) x=toC es role L x:=by unfold toL toC; rw [elems_setOf h hn]
def addC (es:List Ed) (role:Int) (L:List Nat):List Nat:=es.foldl (fun L x=>if (vis1 role x).isNone && decide (x.f.toNat ∈ L) && !decide (x.t.toNat ∈ L) then L++[x.t.toNat] else L) L
def bfsC (es:List Ed) (role:Int):Nat->List Nat->List Nat
 | 0,L=>L
 | f+1,L=>bfsC es role f (addC es role L)
def okC (es:List Ed) (role:Int) (l:List Int) (L:List Nat):Bool:=
 l.all (fun v=>decide (0<=v) && decide (v.toNat ∈ L)) && es.all (fun x=>!(vis1 role x).isNone || !decide (x.f.toNat ∈ L) || decide (x.t.toNat ∈ L)) &&
  (List.range L.length).all fun i=>match L[i]? with
   | some j=>l.any (fun v=>decide (v=(j:Int))) || es.any fun x=>(vis1 role x).isNone && decide (x.f.toNat ∈ L.take i) && decide (x.t=(j:Int))
   | none=>false
theorem okC_clo {es:List Ed} {role:Int} {l:List Int} {L:List Nat} (hes:∀ x ∈ es,0<=x.f/\0<=x.t) (h:okC es role l L=true) (j:Nat):clo es role l j=decide (j ∈ L):=by
 unfold okC at h
 simp only [Yt,List.all_eq_true,List.mem_range] at h
 obtain ⟨⟨h1,h2⟩,h3⟩:=h
 have fwd:∀ a:Int,Qr es role l a->0<=a/\a.toNat ∈ L:=by
  intro a ha
  induction ha with
  | base hm=>have:=h1 _ hm; simpa using this
  | step _ hx ih=>
   obtain ⟨x,hx,hv,hf,rfl⟩:=hx
   refine ⟨(hes x hx).2,?_⟩
   have:=h2 x hx
   simp only [Bool.or_eq_true,Bool.not_eq_true',decide_eq_false_iff_not,decide_eq_true_eq] at this
   rcases this with (h4 | h4) | h4
   ·
    rw [hv] at h4; cases h4
   ·
    exact absurd (by rw [hf]; exact ih.2) h4
   ·
    exact h4
 have bwd:∀ i,i<=L.length->∀ j ∈ L.take i,Qr es role l (j:Int):=by
  intro i
  induction i with
  | zero=>intro _ j hj; rw [Yyk] at hj; cases hj
  | succ i ih=>
   intro hi j hj
   obtain ⟨y,hy⟩:=get_some (l:=L) (i:=i) (by omega)
   rw [take_snoc hy,Yk,Ye] at hj
   rcases hj with hj | rfl
   ·
    exact ih (by omega) j hj
   ·
    have:=h3 i (by omega)
    rw [hy] at this
    simp only [Bool.or_eq_true,List.any_eq_true,decide_eq_true_eq,Yt] at this
    rcases this with ⟨v,hv,rfl⟩ | ⟨x,hx,⟨h4,h5⟩,h6⟩
    ·
     exact .base hv
    ·
     have hq:=ih (by omega) _ h5
     rw [show ((x.f.toNat:Nat):Int)=x.f by have:=hes x hx; omega] at hq
     exact .step hq ⟨x,hx,Option.isNone_iff_eq_none.1 h4,rfl,h6⟩
 have hiff:clo es role l j=true ↔ j ∈ L:=by
  rw [clo_iff]
  constructor
  ·
   intro h; have:=(fwd _ h).2; rwa [Ys] at this
  ·
   intro h; exact bwd L.length (Yyt _) j (by rw [Yye]; exact h)
 by_cases hj:j ∈ L
 ·
  rw [decide_eq_true hj]; exact hiff.2 hj
 ·
  rw [decide_eq_false hj]
  cases hc:clo es role l j
  ·
   rfl
  ·
   exact absurd (hiff.1 hc) hj
def cloC (es:List Ed) (role:Int) (n:Nat) (l:List Int):Option (List Nat):=
 let L:=bfsC es role n (l.map Int.toNat).eraseDups
 if okC es role l L then some ((List.range n).filter fun j=>decide (j ∈ L)) else none
theorem cloC_ok {es:List Ed} {role:Int} {n:Nat} {l:List Int} {L:List Nat} (hes:∀ x ∈ es,0<=x.f/\0<=x.t) (hlt:∀ j:Nat,clo es role l j=true->j<n) (h:cloC es role n l=some L):Can n L/\clo es role l=setOf L:=by
 unfold cloC at h
 simp only at h
 split at h
 ·
  rename_i hk
  cases h
  refine ⟨Can.mk _ _,?_⟩
  funext j
  rw [okC_clo hes hk]
  unfold setOf
  by_cases hj:j ∈ bfsC es role n (l.map Int.toNat).eraseDups
  ·
   rw [decide_eq_true hj,decide_eq_true]
   have:clo es role l j=true:=by rw [okC_clo hes hk,decide_eq_true hj]
   exact List.mem_filter.2 ⟨List.mem_range.2 (hlt j this),decide_eq_true hj⟩
  ·
   rw [decide_eq_false hj,decide_eq_false]
   intro hm
   exact hj (Yyn (List.mem_filter.1 hm).2)
 ·
  cases h
def rowCS (S:List (List Nat)) (L:List Nat):List (List Nat):=if L ∈ S then S else S++[L]
theorem rowI_setOf {n:Nat} {L:List Nat} (hL:Can n L):∀ {S:List (List Nat)},(∀ s ∈ S,Can n s)->rowI (S.map setOf) (setOf L)=idxF S L
 | [],_=>rfl
 | s::S,h=>by
  rw [Yyl,rowI,idxF]
  have hs:=setOf_inj (h s (Yx ..)) hL
  by_cases e:s=L
  ·
   rw [if_pos (hs.2 e),if_pos e]
  ·
   rw [if_neg (fun h=>e (hs.1 h)),if_neg e,rowI_setOf hL fun s hs=>h s (Yn _ hs)]
theorem rowS_setOf {n:Nat} {L:List Nat} (hL:Can n L) {S:List (List Nat)} (hS:∀ s ∈ S,Can n s):rowS (S.map setOf) (setOf L)=(rowCS S L).map setOf/\∀ s ∈ rowCS S L,Can n s:=by
 have hiff:setOf L ∈ S.map setOf ↔ L ∈ S:=by
  rw [<- rowI_lt,rowI_setOf hL hS,Yc]
  constructor
  ·
   intro h
   by_cases hm:L ∈ S
   ·
    exact hm
   ·
    rw [idxF_not hm] at h; omega
  ·
   intro h; exact idxF_lt h
 unfold rowS rowCS
 by_cases hm:L ∈ S
 ·
  rw [if_pos (hiff.2 hm),if_pos hm]; exact ⟨rfl,hS⟩
 ·
  rw [if_neg (fun h=>hm (hiff.1 h)),if_neg hm,Ym]
  refine ⟨rfl,fun s hs=>?_⟩
  rcases Yk.1 hs with hs | hs
  ·
   exact hS s hs
  ·
   rw [Ye] at hs; rw [hs]; exact hL
def arcsC (es:List Ed) (role:Int) (n:Nat) (i:Nat) (L:List Nat):List Ev->List (List Nat)->List Mv->Option (List (List Nat) × List Mv)
 | [],S,M=>some (S,M)
 | x::r,S,M=>match cloC es role n (toC es role L x) with
  | none=>none
  | some T=>arcsC es role n i L r (rowCS S T) (M++[⟨i,x.send,x.peer,x.label,(idxF S T:Nat),false⟩])
theorem arcsC_ok {es:List Ed} {role:Int} {n i:Nat} {L:List Nat} (hn:n<=4096) (hes:∀ x ∈ es,0<=x.f/\0<=x.t) (hlt:∀ (x:Ev) (j:Nat),clo es role (toC es role L x) j=true->j<n) (hL:Can n L):∀ (l:List Ev) (S:List (List Nat)) (M:List Mv) {S':List (List Nat)} {M':List Mv},(∀ s ∈ S,Can n s)->arcsC es role n i L l S M=some (S',M') ->
  arcsF es role i (setOf L) l (S.map setOf) M=(S'.map setOf,M')/\∀ s ∈ S',Can n s
 | [],S,M,S',M',hS,h=>by cases h; exact ⟨rfl,hS⟩
 | x::r,S,M,S',M',hS,h=>by
  rw [arcsC] at h
  cases hc:cloC es role n (toC es role L x) with
  | none=>rw [hc] at h; cases h
  | some T=>
   rw [hc] at h
   replace h:arcsC es role n i L r (rowCS S T) (M++[⟨i,x.send,x.peer,x.label,(idxF S T:Nat),false⟩])=some (S',M'):=h
   obtain ⟨h1,h2⟩:=cloC_ok hes (hlt x) hc
   have h3:=rowS_setOf h1 hS
   have:=arcsC_ok hn hes hlt hL r _ _ h3.2 h
   rw [arcsF,toL_setOf hL hn,h2,rowI_setOf h1 hS,h3.1]
   exact this
def viewsCF (es:List Ed) (role:Int) (n:Nat):Nat->Nat->List (List Nat)->List Mv->Option (Option (List (List Nat) × List Mv))
 | 0,_,_,_=>some none
 | f+1,i,S,M=>match S[i]? with
  | none=>some (some (S,M))
  | some L=>match arcsC es role n i L (evsC es role L) S M with
   | none=>none
   | some (S',M')=>if S'.length > 200 then some none else viewsCF es role n f (i+1) S' M'
theorem viewsCF_ok {es:List Ed} {role:Int} {n:Nat} (hn:n<=4096) (hes:∀ x ∈ es,0<=x.f/\0<=x.t) (hlt:∀ (L:List Nat) (x:Ev) (j:Nat),clo es role (toC es role L x) j=true->j<n):∀ (f i:Nat) (S:List (List Nat)) (M:List Mv) {r:Option (List (List Nat) × List Mv)},(∀ s ∈ S,Can n s)->viewsCF es role n f i S M=some r ->
  viewsF es role f i (S.map setOf) M=r.map (fun q=>(q.1.map setOf,q.2))/\∀ q,r=some q->∀ s ∈ q.1,Can n s
 | 0,i,S,M,r,_,h=>by cases h; exact ⟨rfl,fun q hq=>by cases hq⟩
 | f+1,i,S,M,r,hS,h=>by
  rw [viewsCF] at h
  rw [viewsF,Yd]
  cases hg:S[i]? with
  | none=>
   rw [hg] at h
   cases h
   exact ⟨rfl,fun q hq=>by cases hq; exact hS⟩
  | some L=>
   rw [hg] at h
   have hL:=hS L (Yb hg)
   cases ha:arcsC es role n i L (evsC es role L) S M with
   | none=>simp only [ha] at h; cases h
   | some q=>
    obtain ⟨S',M'⟩:=q
    simp only [ha] at h
    have h1:=arcsC_ok hn hes (hlt L) hL _ S M hS ha
    rw [<- evs_setOf hL hn] at h1
    show (if (arcsF es role i (setOf L) (evs es role (setOf L)) (S.map setOf) M).1.length > 200 then none else viewsF es role f (i+1) (arcsF es role i (setOf L) (evs es role (setOf L)) (S.map setOf) M).1 (arcsF es role i (setOf L) (evs es role (setOf L)) (S.map setOf) M).2)=_/\_
    rw [h1.1]
    simp only [Yc]
    split
    ·
     rename_i hc
     rw [if_pos hc] at h
     cases h
     exact ⟨rfl,fun q hq=>by cases hq⟩
    ·
     rename_i hc
     rw [if_neg hc] at h
     exact viewsCF_ok hn hes hlt f (i+1) S' M' h1.2 h
theorem viewV_congr {F F':Nat->List Ev} {en en':Nat->Bool} {O:List Bool} {T:List Ti} {l:List Nat} (hF:∀ k ∈ l,F k=F' k) (he:∀ k ∈ l,en k=en' k):viewV F en O T l=viewV F' en' O T l:=by
 have hb:∀ k ∈ l,badV F en l k=badV F' en' l k:=by
  intro k hk
  unfold badV
  have ha:(l.any fun q=>en q || decide (F k ≠ F q))=l.any fun q=>en' q || decide (F' k ≠ F' q):=by
   rw [Bool.eq_iff_iff,List.any_eq_true,List.any_eq_true]
   constructor
   ·
    rintro ⟨q,hq,h⟩; exact ⟨q,hq,by rw [<- he q hq,<- hF q hq,<- hF k hk]; exact h⟩
   ·
    rintro ⟨q,hq,h⟩; exact ⟨q,hq,by rw [he q hq,hF q hq,hF k hk]; exact h⟩
  rw [ha,hF k hk,he k hk]
 unfold viewV
 congr 1
 suffices h:∀ (m:List Nat) (st:Option (Bool × Ti)),(∀ k ∈ m,k ∈ l)->m.foldl (stepV F en O T l) st=m.foldl (stepV F' en' O T l) st from h l _ fun k hk=>hk
 intro m
 induction m with
 | nil=>intro st _; rfl
 | cons a m ih=>
  intro st hs
  rw [List.foldl_cons,List.foldl_cons]
  have:stepV F en O T l st a=stepV F' en' O T l st a:=by unfold stepV; rw [hb a (hs a (Yx ..))]
  rw [this]
  exact ih _ fun k hk=>hs k (Yn _ hk)
def rawLC (vw:List Nat->Option Ti):Nat->List (List Nat)->List Mv->List To->Option (List Mv × List To)
 | _,[],M,L=>some (M,L)
 | n,p::S,M,L=>match vw p with
  | none=>none
  | some x=>rawLC vw (n+1) S (M.map (updR n x)) (L++limR n x M)
theorem rawLC_ok {vw vw':List Nat->Option Ti} {N:Nat} (hN:N<=4096):∀ (n:Nat) (S:List (List Nat)) (M:List Mv) (L:List To),(∀ s ∈ S,Can N s/\vw s=vw' s)->rawL vw n (S.map setOf) M L=rawLC vw' n S M L
 | _,[],_,_,_=>rfl
 | n,p::S,M,L,h=>by
  obtain ⟨h1,h2⟩:=h p (Yx ..)
  rw [Yyl,rawL,rawLC,elems_setOf h1 hN,h2]
  cases vw' p with
  | none=>rfl
  | some x=>exact rawLC_ok hN (n+1) S _ _ fun s hs=>h s (Yn _ hs)
end Go.VC
end

section
/- The raw machine, computed. No program here. -/
namespace Go.VC
open Go.LexS

def fC (g:Gl) (role:Int) (k:Nat):List Ev:=((cloC g.es role g.n.toNat [(k:Int)]).map (evsC g.es role)).getD []
def enC (g:Gl) (role:Int) (k:Nat):Bool:=((cloC g.es role g.n.toNat [(k:Int)]).map fun L=>decide (g.e.toNat ∈ L)).getD false
def vwC (g:Gl) (role:Int):List Nat->Option Ti:=viewV (fC g role) (enC g role) (ownE g.es role g.n.toNat).1 (ownT g.es g.ts role g.n.toNat)
def rawC (g:Gl) (role:Int):Option (Option Mch × Int):=
 if !(List.range g.n.toNat).all (fun k=>(cloC g.es role g.n.toNat [(k:Int)]).isSome) then none else
 match cloC g.es role g.n.toNat [g.s] with
 | none=>none
 | some L0=>match viewsCF g.es role g.n.toNat 202 0 [L0] [] with
  | none=>none
  | some none=>some (none,6)
  | some (some (S,M))=>if M.length > 400 then some (none,6) else
   match rawLC (vwC g role) 0 S M [] with
   | none=>some (none,18)
   | some (M',L')=>some (some ⟨role,S.length,0,S.map (fun L=>decide (g.e.toNat ∈ L)),M',L'⟩,0)
theorem rawC_ok {g:Gl} {role:Int} {r:Option Mch × Int} (hV:ValidS g) (h0:0<=role) (h1:role<g.rs.length) (h:rawC g role=some r):raw g role=r:=by
 have hN:=hV.num.n
 have hn:g.n.toNat<=4096:=by omega
 have hes:∀ x ∈ g.es,0<=x.f/\0<=x.t:=fun x hx=>by have:=hV.num.e x hx; unfold EdS at this; omega
 have hlt:∀ (l:List Int),(∀ v ∈ l,0<=v/\v<g.n)->∀ j:Nat,clo g.es role l j=true->j<g.n.toNat:=fun l hl j hj=>by have:=clo_lt hV hl j hj; omega
 have hto:∀ (L:List Nat) (x:Ev) (j:Nat),clo g.es role (toC g.es role L x) j=true->j<g.n.toNat:=by
  intro L x
  refine hlt _ fun v hv=>?_
  unfold toC at hv
  obtain ⟨k,_,h2⟩:=List.mem_flatMap.1 hv
  obtain ⟨a,ha,h3⟩:=Yym.1 h2
  unfold visL at ha
  obtain ⟨e,he,h4⟩:=Yym.1 ha
  have:=hV.num.e e he
  unfold EdS at this
  split at h4
  ·
   rw [Yya] at h4
   obtain ⟨_,_,rfl⟩:=h4
   split at h3
   ·
    cases h3; show 0<=e.t/\e.t<g.n; omega
   ·
    cases h3
  ·
   cases h4
 unfold rawC at h
 split at h
 ·
  cases h
 rename_i hall
 have hall:∀ k,k<g.n.toNat->(cloC g.es role g.n.toNat [(k:Int)]).isSome=true:=by
  intro k hk
  have:(List.range g.n.toNat).all (fun k=>(cloC g.es role g.n.toNat [(k:Int)]).isSome)=true:=by
   revert hall
   generalize (List.range g.n.toNat).all (fun k=>(cloC g.es role g.n.toNat [(k:Int)]).isSome)=b
   cases b <;> simp
  exact List.all_eq_true.1 this k (List.mem_range.2 hk)
 have hfirst:∀ k,k<g.n.toNat->firstE g role (k:Int)=fC g role k/\firstB g role (k:Int)=enC g role k:=by
  intro k hk
  obtain ⟨L,hL⟩:=Option.isSome_iff_exists.1 (hall k hk)
  obtain ⟨h2,h3⟩:=cloC_ok hes (hlt [(k:Int)] fun v hv=>by rw [Ye] at hv; omega) hL
  unfold firstE firstB fC enC
  rw [hL,h3,evs_setOf h2 hn]
  exact ⟨rfl,rfl⟩
 cases hc0:cloC g.es role g.n.toNat [g.s] with
 | none=>simp only [hc0] at h; cases h
 | some L0=>
  simp only [hc0] at h
  obtain ⟨h2,h3⟩:=cloC_ok hes (hlt [g.s] fun v hv=>by rw [Ye] at hv; omega) hc0
  cases hv:viewsCF g.es role g.n.toNat 202 0 [L0] [] with
  | none=>simp only [hv] at h; cases h
  | some w=>
   simp only [hv] at h
   obtain ⟨h4,h5⟩:=viewsCF_ok hn hes hto 202 0 [L0] [] (fun s hs=>by rw [Ye] at hs; rw [hs]; exact h2) hv
   have h6:views g role=w.map fun q=>(q.1.map setOf,q.2):=by
    unfold views
    rw [h3]; exact h4
   unfold raw
   rw [if_neg (by simpa using ⟨hV,h0,h1⟩),h6]
   cases w with
   | none=>simpa using h
   | some q=>
    obtain ⟨S,M⟩:=q
    have hS:=h5 (S,M) rfl
    simp only [Option.map_some] at h ⊢
    split at h
    ·
     rename_i hM; rw [if_pos hM]; simpa using h
    ·
     rename_i hM
     rw [if_neg hM]
     rw [rawLC_ok (vw:=vwG g role) (vw':=vwC g role) hn 0 S M [] fun s hs=>⟨hS s hs,viewV_congr (fun k hk=>(hfirst k ((hS s hs).lt k hk)).1) fun k hk=>(hfirst k ((hS s hs).lt k hk)).2⟩]
     cases hl:rawLC (vwC g role) 0 S M [] with
     | none=>simp only [hl] at h ⊢; simpa using h
     | some q=>
      obtain ⟨M',L'⟩:=q
      simp only [hl] at h ⊢
      rw [<- Yyp h,Yc,List.map_map]
      rfl
end Go.VC
end

section
namespace Go.VC
open Go.Proofs

def W44 (p0:Bool) (h:Heap) (R:Value->Heap->Prop):Prop:=
 (Wn h [.string ⟨#[]⟩,.slice none 0 0,.slice none 0 0,vI 0,vI 0,vI 0,.slice none 0 0,.slice none 0 0] 92 fun h1=>
 (Wn h1 [.string ⟨#[112]⟩,.string ⟨#[113]⟩,.string ⟨#[114]⟩] 9 fun h2=>
 (Wn h2 [.string ⟨#[97]⟩,.slice none 0 0,vI 0,.slice none 0 0,.slice none 0 0,.string ⟨#[98]⟩,.slice none 0 0,vI 0,.slice none 0 0,.slice none 0 0,.string ⟨#[99]⟩,.slice none 0 0,vI 0,.slice none 0 0,.slice none 0 0,.string ⟨#[100]⟩,.slice none 0 0,vI 0,.slice none 0 0,.slice none 0 0] 147 fun h3=>
 (Wn h3 [.string ⟨#[]⟩,.slice none 0 0,.slice none 0 0,vI 0,vI 0,vI 0,.slice none 0 0,.slice none 0 0] 92 fun h4=>
 (Wp h4 (aS h3 0) 8 [.string ⟨#[101]⟩,.slice (some (aS h1 0)) 3 3,.slice (some (aS h2 0)) 4 4,vI 4,vI 0,vI 3,.slice none 0 0,.slice none 0 0] fun h5=>
 (Fn Pz 79 #[vI 0,vI 0,vI 1,vI 0,vI 1] h5
 (fun v6 h13=>∃ (x7 x8 x9 x10 x11:Int) (x12:Bool),v6=.agg ⟨(L6 x7 x8 x9 x10 x11 x12)⟩ /\
 (Fn Pz 79 #[vI 0,vI 0,vI 1,vI 1,vI 2] h13
 (fun v14 h21=>∃ (x15 x16 x17 x18 x19:Int) (x20:Bool),v14=.agg ⟨(L6 x15 x16 x17 x18 x19 x20)⟩ /\
 (Fn Pz 79 #[vI 1,vI 2,vI 1,vI 2,vI 3] h21
 (fun v22 h29=>∃ (x23 x24 x25 x26 x27:Int) (x28:Bool),v22=.agg ⟨(L6 x23 x24 x25 x26 x27 x28)⟩ /\
 (Fn Pz 79 #[vI 2,vI 2,vI 1,vI 3,vI 3] h29
 (fun v30 h37=>∃ (x31 x32 x33 x34 x35:Int) (x36:Bool),v30=.agg ⟨(L6 x31 x32 x33 x34 x35 x36)⟩ /\
 (Wn h37 [vI x7,vI x8,vI x9,vI x10,vI x11,.bool x12,vI x15,vI x16,vI x17,vI x18,vI x19,.bool x20,vI x23,vI x24,vI x25,vI x26,vI x27,.bool x28,vI x31,vI x32,vI x33,vI x34,vI x35,.bool x36] 137 fun h38=>
 (Wp h38 (aS h3 6) 1 [.slice (some (aS h37 0)) 4 4] fun h39=>
 (sB p0
 ((Wp h39 (aS h3 3) 1 [vI 6] fun h40=>
 (Wp h40 (aS h3 5) 1 [vI 5] fun h41=>
 (Fn Pz 79 #[vI 0,vI 0,vI 1,vI 0,vI 1] h41
 (fun v42 h49=>∃ (x43 x44 x45 x46 x47:Int) (x48:Bool),v42=.agg ⟨(L6 x43 x44 x45 x46 x47 x48)⟩ /\
 (Fn Pz 79 #[vI 0,vI 0,vI 1,vI 1,vI 2] h49
 (fun v50 h57=>∃ (x51 x52 x53 x54 x55:Int) (x56:Bool),v50=.agg ⟨(L6 x51 x52 x53 x54 x55 x56)⟩ /\
 (Fn Pz 79 #[vI 1,vI 1,vI 2,vI 0,vI 3] h57
 (fun v58 h65=>∃ (x59 x60 x61 x62 x63:Int) (x64:Bool),v58=.agg ⟨(L6 x59 x60 x61 x62 x63 x64)⟩ /\
 (Fn Pz 79 #[vI 2,vI 1,vI 2,vI 1,vI 4] h65
 (fun v66 h73=>∃ (x67 x68 x69 x70 x71:Int) (x72:Bool),v66=.agg ⟨(L6 x67 x68 x69 x70 x71 x72)⟩ /\
 (Fn Pz 79 #[vI 3,vI 2,vI 1,vI 2,vI 5] h73
 (fun v74 h81=>∃ (x75 x76 x77 x78 x79:Int) (x80:Bool),v74=.agg ⟨(L6 x75 x76 x77 x78 x79 x80)⟩ /\
 (Fn Pz 79 #[vI 4,vI 2,vI 1,vI 3,vI 5] h81
 (fun v82 h89=>∃ (x83 x84 x85 x86 x87:Int) (x88:Bool),v82=.agg ⟨(L6 x83 x84 x85 x86 x87 x88)⟩ /\
 (Wn h89 [vI x43,vI x44,vI x45,vI x46,vI x47,.bool x48,vI x51,vI x52,vI x53,vI x54,vI x55,.bool x56,vI x59,vI x60,vI x61,vI x62,vI x63,.bool x64,vI x67,vI x68,vI x69,vI x70,vI x71,.bool x72,vI x75,vI x76,vI x77,vI x78,vI x79,.bool x80,vI x83,vI x84,vI x85,vI x86,vI x87,.bool x88] 137 fun h90=>
 (Wp h90 (aS h3 6) 1 [.slice (some (aS h89 0)) 6 6] fun h91=>
 (∃ x92 x93 x94 x95 x96 x97 x98 x99,aL2 h91 (aS h3 0) x92 x93 x94 x95 x96 x97 x98 x99 /\
 (Wp h91 (aS h 0) 8 (L2 x92 x93 x94 x95 x96 x97 x98 x99) fun h100=>
 (∃ x101 x102 x103 x104 x105 x106 x107 x108,aL2 h100 (aS h 0) x101 x102 x103 x104 x105 x106 x107 x108 /\
 R (.agg ⟨(L2 x101 x102 x103 x104 x105 x106 x107 x108)⟩) h100))))))))))))))))))))
 ((∃ x109 x110 x111 x112 x113 x114 x115 x116,aL2 h39 (aS h3 0) x109 x110 x111 x112 x113 x114 x115 x116 /\
 (Wp h39 (aS h 0) 8 (L2 x109 x110 x111 x112 x113 x114 x115 x116) fun h117=>
 (∃ x118 x119 x120 x121 x122 x123 x124 x125,aL2 h117 (aS h 0) x118 x119 x120 x121 x122 x123 x124 x125 /\
 R (.agg ⟨(L2 x118 x119 x120 x121 x122 x123 x124 x125)⟩) h117))))))))))))))))))))
theorem vc44 (p0:Bool) (h:Heap) (R:Value->Heap->Prop) (H:W44 p0 h R):Fn Pz 44 #[.bool p0] h R:=fnI (A:=.z) (by kernel_rfl) H

def W79 (p0 p1 p2 p3 p4:Int) (h:Heap) (R:Value->Heap->Prop):Prop:=
 (Wn h [vI 0,vI 0,vI 0,vI 0,vI 0,.bool false] 137 fun h1=>
 (Wp h1 (aS h 0) 6 [vI p0,vI p1,vI p2,vI p3,vI p4,.bool false] fun h2=>
 (∃ x3 x4 x5 x6 x7 x8,aL6 h2 (aS h 0) x3 x4 x5 x6 x7 x8 /\
 R (.agg ⟨(L6 x3 x4 x5 x6 x7 x8)⟩) h2)))
theorem vc79 (p0 p1 p2 p3 p4:Int) (h:Heap) (R:Value->Heap->Prop) (H:W79 p0 p1 p2 p3 p4 h R):Fn Pz 79 #[vI p0,vI p1,vI p2,vI p3,vI p4] h R:=fnI (A:=.z) (by kernel_rfl) H

def W83 (p0_1 p0_2 p0_3:Int) (p0_4 p0_5 p0_6:Sl) (p1:Int) (h:Heap) (R:Value->Heap->Prop):Prop:=
 (Wn h (L1 p0_1 p0_2 p0_3 p0_4 p0_5 p0_6) 55 fun h7=>
 (QSI ⟨none,0,0⟩ 0 h7 fun I8 out_11 i_12 h13 m10=>(
 (∃ x14,rS h13 (aS h 4) x14 /\
 (sB (decide (i_12<(x14.n:Int)))
 ((∃ x15,rS h13 (aS h 4) x15 /\
 (NB x15.a fun b16 o17=>(Ib i_12 x15.n /\
 (∃ x18,rI h13 ⟨b16,o17+Int.toNat i_12*6,none⟩ x18 /\
 (sB (x18 != p1)
 ((∃ m19,m19<m10/\I8 out_11 (IntKind.wrap .i64 (i_12+1)) h13 m19))
 ((QI 0 h13 fun I20 k_23 h24 m22=>(
 (sB (decide (k_23<(out_11.n:Int)))
 ((∃ x25,rS h24 (aS h 4) x25 /\
 (NB x25.a fun b26 o27=>(Ib i_12 x25.n /\
 (∃ x28 x29 x30 x31 x32 x33,aL0 h24 ⟨b26,o27+Int.toNat i_12*6,none⟩ x28 x29 x30 x31 x32 x33 /\
 (∃ x34,rS h24 (aS h 4) x34 /\
 (NB out_11.a fun b35 o36=>(Ib k_23 out_11.n /\
 (∃ x37,rI h24 ⟨b35,o36+Int.toNat k_23*1,none⟩ x37 /\
 (NB x34.a fun b38 o39=>(Ib x37 x34.n /\
 (∃ x40 x41 x42 x43 x44 x45,aL0 h24 ⟨b38,o39+Int.toNat x37*6,none⟩ x40 x41 x42 x43 x44 x45 /\
 (Fn Pz 121 #[.agg ⟨(L0 x28 x29 x30 x31 x32 x33)⟩,.agg ⟨(L0 x40 x41 x42 x43 x44 x45)⟩] h24
 (fun v46 h48=>∃ x47,iB v46 x47 /\
 (sB (!x47)
 ((∃ m49,m49<m22/\I20 (IntKind.wrap .i64 (k_23+1)) h48 m49))
 ((((0:Int)<=(0:Int)/\(0:Int)<=(k_23:Int)/\(k_23:Int)<=(out_11.c:Nat)) /\
 (((0:Int)<=(k_23:Int)/\(k_23:Int)<=((out_11.n:Nat):Int)/\((out_11.n:Nat):Int)<=(out_11.c:Nat)) /\
 ((Wn h48 [] 3 fun h50=>
 ((App Pz 23 23 (.slice (some (aS h48 0)) 0 0) (.slice (subA out_11.a (Int.toNat 0) out_11.c 1) (Int.toNat k_23 - Int.toNat 0) (out_11.c - Int.toNat 0)) h50 fun s51 h52=>
 (Wn h52 [vI i_12] 3 fun h53=>
 (App Pz 23 23 (vS s51) (.slice (some (aS h52 0)) 1 1) h53 fun s54 h55=>
 (App Pz 23 23 (vS s54) (.slice (subA out_11.a (Int.toNat k_23) out_11.c 1) (Int.toNat (out_11.n:Nat) - Int.toNat k_23) (out_11.c - Int.toNat k_23)) h55 fun s56 h57=>
 (∃ m58,m58<m10/\I8 s56 (IntKind.wrap .i64 (i_12+1)) h57 m58))))))/\((Wn h50 [vI i_12] 3 fun h59=>
 (App Pz 23 23 (.slice (some (aS h48 0)) 0 0) (.slice (subA out_11.a (Int.toNat 0) out_11.c 1) (Int.toNat k_23 - Int.toNat 0) (out_11.c - Int.toNat 0)) h59 fun s60 h61=>
 (App Pz 23 23 (vS s60) (.slice (some (aS h50 0)) 1 1) h61 fun s62 h63=>
 (App Pz 23 23 (vS s62) (.slice (subA out_11.a (Int.toNat k_23) out_11.c 1) (Int.toNat (out_11.n:Nat) - Int.toNat k_23) (out_11.c - Int.toNat k_23)) h63 fun s64 h65=>
 (∃ m66,m66<m10/\I8 s64 (IntKind.wrap .i64 (i_12+1)) h65 m66))))))))/\((Wn h48 [vI i_12] 3 fun h67=>
 (Wn h67 [] 3 fun h68=>
 (App Pz 23 23 (.slice (some (aS h67 0)) 0 0) (.slice (subA out_11.a (Int.toNat 0) out_11.c 1) (Int.toNat k_23 - Int.toNat 0) (out_11.c - Int.toNat 0)) h68 fun s69 h70=>
 (App Pz 23 23 (vS s69) (.slice (some (aS h48 0)) 1 1) h70 fun s71 h72=>
 (App Pz 23 23 (vS s71) (.slice (subA out_11.a (Int.toNat k_23) out_11.c 1) (Int.toNat (out_11.n:Nat) - Int.toNat k_23) (out_11.c - Int.toNat k_23)) h72 fun s73 h74=>
 (∃ m75,m75<m10/\I8 s73 (IntKind.wrap .i64 (i_12+1)) h74 m75)))))))))))))))))))))))))
 ((((0:Int)<=(0:Int)/\(0:Int)<=(k_23:Int)/\(k_23:Int)<=(out_11.c:Nat)) /\
 (((0:Int)<=(k_23:Int)/\(k_23:Int)<=((out_11.n:Nat):Int)/\((out_11.n:Nat):Int)<=(out_11.c:Nat)) /\
 ((Wn h24 [] 3 fun h76=>
 ((App Pz 23 23 (.slice (some (aS h24 0)) 0 0) (.slice (subA out_11.a (Int.toNat 0) out_11.c 1) (Int.toNat k_23 - Int.toNat 0) (out_11.c - Int.toNat 0)) h76 fun s77 h78=>
 (Wn h78 [vI i_12] 3 fun h79=>
 (App Pz 23 23 (vS s77) (.slice (some (aS h78 0)) 1 1) h79 fun s80 h81=>
 (App Pz 23 23 (vS s80) (.slice (subA out_11.a (Int.toNat k_23) out_11.c 1) (Int.toNat (out_11.n:Nat) - Int.toNat k_23) (out_11.c - Int.toNat k_23)) h81 fun s82 h83=>
 (∃ m84,m84<m10/\I8 s82 (IntKind.wrap .i64 (i_12+1)) h83 m84))))))/\((Wn h76 [vI i_12] 3 fun h85=>
 (App Pz 23 23 (.slice (some (aS h24 0)) 0 0) (.slice (subA out_11.a (Int.toNat 0) out_11.c 1) (Int.toNat k_23 - Int.toNat 0) (out_11.c - Int.toNat 0)) h85 fun s86 h87=>
 (App Pz 23 23 (vS s86) (.slice (some (aS h76 0)) 1 1) h87 fun s88 h89=>
 (App Pz 23 23 (vS s88) (.slice (subA out_11.a (Int.toNat k_23) out_11.c 1) (Int.toNat (out_11.n:Nat) - Int.toNat k_23) (out_11.c - Int.toNat k_23)) h89 fun s90 h91=>
 (∃ m92,m92<m10/\I8 s90 (IntKind.wrap .i64 (i_12+1)) h91 m92))))))))/\((Wn h24 [vI i_12] 3 fun h93=>
 (Wn h93 [] 3 fun h94=>
 (App Pz 23 23 (.slice (some (aS h93 0)) 0 0) (.slice (subA out_11.a (Int.toNat 0) out_11.c 1) (Int.toNat k_23 - Int.toNat 0) (out_11.c - Int.toNat 0)) h94 fun s95 h96=>
 (App Pz 23 23 (vS s95) (.slice (some (aS h24 0)) 1 1) h96 fun s97 h98=>
 (App Pz 23 23 (vS s97) (.slice (subA out_11.a (Int.toNat k_23) out_11.c 1) (Int.toNat (out_11.n:Nat) - Int.toNat k_23) (out_11.c - Int.toNat k_23)) h98 fun s99 h100=>
 (∃ m101,m101<m10/\I8 s99 (IntKind.wrap .i64 (i_12+1)) h100 m101))))))))))))))))))))
 (R (vS out_11) h13))))))
theorem vc83 (p0_1 p0_2 p0_3:Int) (p0_4 p0_5 p0_6:Sl) (p1:Int) (h:Heap) (R:Value->Heap->Prop) (H:W83 p0_1 p0_2 p0_3 p0_4 p0_5 p0_6 p1 h R):Fn Pz 83 #[.agg ⟨(L1 p0_1 p0_2 p0_3 p0_4 p0_5 p0_6)⟩,vI p1] h R:=fnI (A:=(.s .z (.s .z (.s (.s .z (.b (.l [(5,.one (.slice)),(6,.one (.int .i64))] (.s .z (.s (.b (.s .z (.s .z (.s (.b (.l [(7,.one (.int .i64))] .z)) .z)))) .z))))) .z)))) (by kernel_rfl) H

def W121 (p0_1:Int) (p0_2:Bool) (p0_3 p0_4 p0_5:Int) (p0_6:Bool) (p1_7:Int) (p1_8:Bool) (p1_9 p1_10 p1_11:Int) (p1_12:Bool) (h:Heap) (R:Value->Heap->Prop):Prop:=
 (Wn h (L0 p0_1 p0_2 p0_3 p0_4 p0_5 p0_6) 108 fun h13=>
 (Wn h13 (L0 p1_7 p1_8 p1_9 p1_10 p1_11 p1_12) 108 fun h14=>
 (∃ x15,rB h14 (aS h 1) x15 /\
 (∃ x16,rB h14 (aS h13 1) x16 /\
 (sB (!(x15 == x16))
 ((∃ x17,rB h14 (aS h 1) x17 /\
 R (.bool x17) h14))
 ((∃ x18,rI h14 (aS h 2) x18 /\
 (∃ x19,rI h14 (aS h13 2) x19 /\
 (sB (x18 != x19)
 ((∃ x20,rI h14 (aS h 2) x20 /\
 (∃ x21,rI h14 (aS h13 2) x21 /\
 R (.bool (decide (x20<x21))) h14)))
 ((∃ x22,rI h14 (aS h 3) x22 /\
 (∃ x23,rI h14 (aS h13 3) x23 /\
 R (.bool (decide (x22<x23))) h14))))))))))))
theorem vc121 (p0_1:Int) (p0_2:Bool) (p0_3 p0_4 p0_5:Int) (p0_6:Bool) (p1_7:Int) (p1_8:Bool) (p1_9 p1_10 p1_11:Int) (p1_12:Bool) (h:Heap) (R:Value->Heap->Prop) (H:W121 p0_1 p0_2 p0_3 p0_4 p0_5 p0_6 p1_7 p1_8 p1_9 p1_10 p1_11 p1_12 h R):Fn Pz 121 #[.agg ⟨(L0 p0_1 p0_2 p0_3 p0_4 p0_5 p0_6)⟩,.agg ⟨(L0 p1_7 p1_8 p1_9 p1_10 p1_11 p1_12)⟩] h R:=fnI (A:=.z) (by kernel_rfl) H

end Go.VC
end

section
/- The example, and that the laws are awake. -/
namespace Go.VC
open Go.Proofs Go.LexS

def exD (x:Nm):Dc:=⟨x,⟨none,0,0⟩,0,⟨none,0,0⟩,⟨none,0,0⟩,[],[],[]⟩
def exEs:Bool->List Ed
 | true=>[⟨0,0,1,0,1,false⟩,⟨0,0,1,1,2,false⟩,⟨1,1,2,0,3,false⟩,⟨2,1,2,1,4,false⟩,⟨3,2,1,2,5,false⟩,⟨4,2,1,3,5,false⟩]
 | false=>[⟨0,0,1,0,1,false⟩,⟨0,0,1,1,2,false⟩,⟨1,2,1,2,3,false⟩,⟨2,2,1,3,3,false⟩]
def exGl (b:Bool) (hr hd he ht:Sl):Gl:=⟨[101],hr,hd,if b then 6 else 4,0,if b then 5 else 3,he,ht,[[112],[113],[114]],[exD [97],exD [98],exD [99],exD [100]],exEs b,[]⟩
theorem edge70 (p0 p1 p2 p3 p4:Int) (h:Heap):Fn Pz 79 #[.int .i64 p0,.int .i64 p1,.int .i64 p2,.int .i64 p3,.int .i64 p4] h fun v h'=>v=.agg ⟨Ed.cs ⟨p0,p1,p2,p3,p4,false⟩⟩/\Ext h h':=by
 apply vc79; unfold W79
 have hs:=St.refl h
 refine hs.newput (vs:=Ed.cs ⟨p0,p1,p2,p3,p4,false⟩) rfl rfl fun h2 hs=>?_
 exact ⟨_,_,_,_,_,_,hs.at 0 rfl (n:=6) rfl,rfl,hs.ext⟩
theorem RL.none_ {α:Type} {h:Heap} {k:Nat} {cs:α->List Value}:RL h k ⟨none,0,0⟩ cs []:=⟨Rw.nil,Yyt _,fun _=>⟨rfl,rfl⟩,Nat.zero_le _⟩
theorem St.rl {α:Type} {h0 h:Heap} {L:List It} (hs:St h0 h L) (k:Nat) {s:Sl} {e:TypeId} {n:Nat} {cs:α->List Value} {l:List α} (hk:L[k]?=some (.sl s e n (l.map cs))) (hn:0<n) (hl:l.length<=1048576):RL h n s cs l:=by
 have:=hs.len k hk hn
 exact ⟨hs.rows k hk hn,this.2.1,this.2.2,hl⟩
theorem nmrows (L:List Nm):∀ r ∈ L.map nmC,r.length=1:=fun r hr=>by obtain ⟨x,_,rfl⟩:=Yp.1 hr; rfl
theorem dcrows (L:List Dc):∀ r ∈ L.map Dc.cs,r.length=5:=fun r hr=>by obtain ⟨x,_,rfl⟩:=Yp.1 hr; rfl
theorem edrows (L:List Ed):∀ r ∈ L.map Ed.cs,r.length=6:=fun r hr=>by obtain ⟨x,_,rfl⟩:=Yp.1 hr; rfl
set_option maxHeartbeats 1000000 in
theorem example34 (b:Bool) (h:Heap):Fn Pz 44 #[.bool b] h fun v h'=>Ext h h'/\∃ hr hd he:Sl,v=(exGl b hr hd he ⟨none,0,0⟩).v/\GI h' (exGl b hr hd he ⟨none,0,0⟩):=by
 apply vc44; unfold W44
 have hs:=St.refl h
 refine hs.newb fun h1 hs=>?_
 refine hs.newb fun h2 hs=>?_
 have hs:=hs.blkS 3 1 ([[112],[113],[114]].map nmC) rfl (nmrows _) rfl (by decide)
 refine hs.newb fun h3 hs=>?_
 have hs:=hs.blkS 4 5 ([exD [97],exD [98],exD [99],exD [100]].map Dc.cs) rfl (dcrows _) rfl (by decide)
 refine hs.newput (vs:=[.string (bs [101]),.slice (some ⟨h1.size,0,none⟩) 3 3,.slice (some ⟨h2.size,0,none⟩) 4 4,.int .i64 4,.int .i64 0,.int .i64 3,.slice none 0 0,.slice none 0 0]) rfl rfl fun h5 hs=>?_
 refine (edge70 _ _ _ _ _ _).mono ?_
 rintro _ _ ⟨rfl,E⟩
 replace hs:=hs.step E
 clear E
 refine ⟨_,_,_,_,_,_,rfl,?_⟩
 refine (edge70 _ _ _ _ _ _).mono ?_
 rintro _ _ ⟨rfl,E⟩
 replace hs:=hs.step E
 clear E
 refine ⟨_,_,_,_,_,_,rfl,?_⟩
 refine (edge70 _ _ _ _ _ _).mono ?_
 rintro _ _ ⟨rfl,E⟩
 replace hs:=hs.step E
 clear E
 refine ⟨_,_,_,_,_,_,rfl,?_⟩
 refine (edge70 _ _ _ _ _ _).mono ?_
 rintro _ _ ⟨rfl,E⟩
 replace hs:=hs.step E
 clear E
 refine ⟨_,_,_,_,_,_,rfl,?_⟩
 refine hs.newb fun h38 hs=>?_
 have hs:=hs.blkS 4 6 ((exEs false).map Ed.cs) rfl (edrows _) rfl (by decide)
 refine hs.put 1 rfl (o:=6) (vs:=[.slice (some ⟨_,0,none⟩) 4 4]) rfl (show 7<=8 by decide) fun h39 hs=>?_
 cases b
 ·
  refine sB_f rfl ?_
  refine ⟨_,⟨some ⟨h1.size,0,none⟩,3,3⟩,⟨some ⟨h2.size,0,none⟩,4,4⟩,_,_,_,⟨some ⟨_,0,none⟩,4,4⟩,⟨none,0,0⟩,hs.at 1 rfl (n:=8) rfl,?_⟩
  refine hs.put 4 rfl (o:=0) (vs:=(exGl false ⟨some ⟨h1.size,0,none⟩,3,3⟩ ⟨some ⟨h2.size,0,none⟩,4,4⟩ ⟨some ⟨_,0,none⟩,4,4⟩ ⟨none,0,0⟩).cs) rfl (show 8<=8 by decide) fun h117 hs=>?_
  refine ⟨_,⟨some ⟨h1.size,0,none⟩,3,3⟩,⟨some ⟨h2.size,0,none⟩,4,4⟩,_,_,_,⟨some ⟨_,0,none⟩,4,4⟩,⟨none,0,0⟩,hs.at 4 rfl (n:=8) rfl,hs.ext,_,_,_,rfl,?_⟩
  refine ⟨hs.rl 3 rfl (by decide) (show 3<=1048576 by decide),⟨hs.rl 2 rfl (by decide) (show 4<=1048576 by decide),fun d hd=>?_⟩,hs.rl 0 rfl (by decide) (show 4<=1048576 by decide),RL.none_⟩
  have hd:d ∈ [exD [97],exD [98],exD [99],exD [100]]:=hd
  simp only [Yr,List.not_mem_nil,or_false] at hd
  rcases hd with rfl | rfl | rfl | rfl <;> exact ⟨RL.none_,RL.none_,RL.none_⟩
 ·
  refine sB_t rfl ?_
  refine hs.put 1 rfl (o:=3) (vs:=[.int .i64 6]) rfl (show 4<=8 by decide) fun h40 hs=>?_
  refine hs.put 1 rfl (o:=5) (vs:=[.int .i64 5]) rfl (show 6<=8 by decide) fun h41 hs=>?_
  refine (edge70 _ _ _ _ _ _).mono ?_
  rintro _ _ ⟨rfl,E⟩
  replace hs:=hs.step E
  clear E
  refine ⟨_,_,_,_,_,_,rfl,?_⟩
  refine (edge70 _ _ _ _ _ _).mono ?_
  rintro _ _ ⟨rfl,E⟩
  replace hs:=hs.step E
  clear E
  refine ⟨_,_,_,_,_,_,rfl,?_⟩
  refine (edge70 _ _ _ _ _ _).mono ?_
  rintro _ _ ⟨rfl,E⟩
  replace hs:=hs.step E
  clear E
  refine ⟨_,_,_,_,_,_,rfl,?_⟩
  refine (edge70 _ _ _ _ _ _).mono ?_
  rintro _ _ ⟨rfl,E⟩
  replace hs:=hs.step E
  clear E
  refine ⟨_,_,_,_,_,_,rfl,?_⟩
  refine (edge70 _ _ _ _ _ _).mono ?_
  rintro _ _ ⟨rfl,E⟩
  replace hs:=hs.step E
  clear E
  refine ⟨_,_,_,_,_,_,rfl,?_⟩
  refine (edge70 _ _ _ _ _ _).mono ?_
  rintro _ _ ⟨rfl,E⟩
  replace hs:=hs.step E
  clear E
  refine ⟨_,_,_,_,_,_,rfl,?_⟩
  refine hs.newb fun h90 hs=>?_
  have hs:=hs.blkS 6 6 ((exEs true).map Ed.cs) rfl (edrows _) rfl (by decide)
  refine hs.put 2 rfl (o:=6) (vs:=[.slice (some ⟨_,0,none⟩) 6 6]) rfl (show 7<=8 by decide) fun h91 hs=>?_
  refine ⟨_,⟨some ⟨h1.size,0,none⟩,3,3⟩,⟨some ⟨h2.size,0,none⟩,4,4⟩,_,_,_,⟨some ⟨_,0,none⟩,6,6⟩,⟨none,0,0⟩,hs.at 2 rfl (n:=8) rfl,?_⟩
  refine hs.put 5 rfl (o:=0) (vs:=(exGl true ⟨some ⟨h1.size,0,none⟩,3,3⟩ ⟨some ⟨h2.size,0,none⟩,4,4⟩ ⟨some ⟨_,0,none⟩,6,6⟩ ⟨none,0,0⟩).cs) rfl (show 8<=8 by decide) fun h117 hs=>?_
  refine ⟨_,⟨some ⟨h1.size,0,none⟩,3,3⟩,⟨some ⟨h2.size,0,none⟩,4,4⟩,_,_,_,⟨some ⟨_,0,none⟩,6,6⟩,⟨none,0,0⟩,hs.at 5 rfl (n:=8) rfl,hs.ext,_,_,_,rfl,?_⟩
  refine ⟨hs.rl 4 rfl (by decide) (show 3<=1048576 by decide),⟨hs.rl 3 rfl (by decide) (show 4<=1048576 by decide),fun d hd=>?_⟩,hs.rl 0 rfl (by decide) (show 6<=1048576 by decide),RL.none_⟩
  have hd:d ∈ [exD [97],exD [98],exD [99],exD [100]]:=hd
  simp only [Yr,List.not_mem_nil,or_false] at hd
  rcases hd with rfl | rfl | rfl | rfl <;> exact ⟨RL.none_,RL.none_,RL.none_⟩

deriving instance DecidableEq for Ed
theorem ex_valid (b:Bool) (hr hd he ht:Sl):ValidS (exGl b hr hd he ht):=by
 have hrs:(exGl b hr hd he ht).rs=[[112],[113],[114]]:=rfl
 have hds:(exGl b hr hd he ht).ds=[exD [97],exD [98],exD [99],exD [100]]:=rfl
 have hes:(exGl b hr hd he ht).es=exEs b:=rfl
 have hall:allF [exD [97],exD [98],exD [99],exD [100]]=[]:=rfl
 have get3:∀ {α:Type} {P:Nat->α->Prop} {l:List α},(∀ i (hi:i<l.length),P i l[i])->∀ i x,l[i]?=some x->P i x:=by
  intro α P l h i x hx
  obtain ⟨h1,h2⟩:=Ya.1 hx
  rw [<- h2]; exact h i h1
 refine ⟨⟨by rfl,by rw [hrs]; decide,by rw [hrs]; decide,?_⟩,⟨?_,?_,?_⟩,?_,⟨?_,?_,?_⟩,?_,?_,?_⟩
 ·
  rw [hrs]
  refine get3 (P:=fun i s=>isWord s=true/\s ∉ List.take i [[112],[113],[114]]) fun i hi=>?_
  have hi:i<3:=hi
  match i,hi with
  | 0,_=>exact Yyn rfl
  | 1,_=>exact Yyn rfl
  | 2,_=>exact Yyn rfl
 ·
  cases b <;> exact ⟨Yyn rfl,Yyn rfl,Yyn rfl,Yyn rfl,Yyn rfl,Yyn rfl⟩
 ·
  rw [hes]; cases b <;> decide
 ·
  rw [hes]
  unfold EdS
  rw [hrs,hds]
  cases b
  ·
   show ∀ x ∈ exEs false,0<=x.f/\0<=x.t/\0<=x.a/\0<=x.b/\0<=x.l/\x.f<4/\x.t<4/\x.a<((3:Nat):Int)/\x.b<((3:Nat):Int)/\x.a ≠ x.b/\x.l<((4:Nat):Int)
   decide
  ·
   show ∀ x ∈ exEs true,0<=x.f/\0<=x.t/\0<=x.a/\0<=x.b/\0<=x.l/\x.f<6/\x.t<6/\x.a<((3:Nat):Int)/\x.b<((3:Nat):Int)/\x.a ≠ x.b/\x.l<((4:Nat):Int)
   decide
 ·
  rw [hds]
  refine ⟨by decide,by rw [hall]; decide,?_⟩
  refine get3 (P:=fun i d=>DcS [exD [97],exD [98],exD [99],exD [100]] i d) fun i hi=>?_
  have hi:i<4:=hi
  have hg:GuardS [] [] []:=⟨by decide,by decide,fun x hx=>(by cases hx),fun x hx=>(by cases hx)⟩
  match i,hi with
  | 0,_=>exact ⟨by rfl,Yyn rfl,Yyn rfl,by rfl,fun k f hf=>(by cases hf),by rw [hall]; exact hg⟩
  | 1,_=>exact ⟨by rfl,Yyn rfl,Yyn rfl,by rfl,fun k f hf=>(by cases hf),by rw [hall]; exact hg⟩
  | 2,_=>exact ⟨by rfl,Yyn rfl,Yyn rfl,by rfl,fun k f hf=>(by cases hf),by rw [hall]; exact hg⟩
  | 3,_=>exact ⟨by rfl,Yyn rfl,Yyn rfl,by rfl,fun k f hf=>(by cases hf),by rw [hall]; exact hg⟩
 ·
  rw [hes]; cases b
  ·
   show ∀ x ∈ exEs false,x.f ≠ 3
   decide
  ·
   show ∀ x ∈ exEs true,x.f ≠ 5
   decide
 ·
  rw [hes]; cases b
  ·
   show ∀ x ∈ exEs false,x.ag=true->x.f ≠ 0
   decide
  ·
   show ∀ x ∈ exEs true,x.ag=true->x.f ≠ 0
   decide
 ·
  rw [hes]
  have key:((exEs b).zipIdx.all fun p=>(exEs b).zipIdx.all fun q=>!decide ((p.2 ≠ q.2/\p.1.f=q.1.f/\((p.1.a=q.1.a/\p.1.b=q.1.b/\p.1.l=q.1.l)\/p.1.a ≠ q.1.a\/p.1.ag=true))\/(p.1.ag=true/\q.1.t=p.1.f/\(p.1.a ≠ q.1.a\/p.1.l ≠ q.1.l))))=true:=by
   cases b <;> decide
  intro i x hx k y hy hbad
  have h1:=List.all_eq_true.1 key (x,i) (Yf.2 ⟨i,by rw [List.getElem?_zipIdx,hx]; simp⟩)
  have h2:=List.all_eq_true.1 h1 (y,k) (Yf.2 ⟨k,by rw [List.getElem?_zipIdx,hy]; simp⟩)
  have h3:=Yyo (Bool.not_eq_true' _ ▸ h2)
  exact h3 hbad
 ·
  intro i t ht; exact absurd ht (by show ([]:List To)[i]? ≠ some t; simp)
 ·
  intro v h0 h1
  rw [hes]
  cases b
  ·
   have h1:v<4:=h1
   show Rch (exEs false) false 0 v
   have s0:Rch (exEs false) false 0 0:=.refl
   have s1:Rch (exEs false) false 0 1:=.step s0 ⟨⟨0,0,1,0,1,false⟩,by decide,rfl,rfl⟩
   have s2:Rch (exEs false) false 0 2:=.step s0 ⟨⟨0,0,1,1,2,false⟩,by decide,rfl,rfl⟩
   have s3:Rch (exEs false) false 0 3:=.step s1 ⟨⟨1,2,1,2,3,false⟩,by decide,rfl,rfl⟩
   have:v=0\/v=1\/v=2\/v=3:=by omega
   rcases this with rfl | rfl | rfl | rfl <;> assumption
  ·
   have h1:v<6:=h1
   show Rch (exEs true) false 0 v
   have s0:Rch (exEs true) false 0 0:=.refl
   have s1:Rch (exEs true) false 0 1:=.step s0 ⟨⟨0,0,1,0,1,false⟩,by decide,rfl,rfl⟩
   have s2:Rch (exEs true) false 0 2:=.step s0 ⟨⟨0,0,1,1,2,false⟩,by decide,rfl,rfl⟩
   have s3:Rch (exEs true) false 0 3:=.step s1 ⟨⟨1,1,2,0,3,false⟩,by decide,rfl,rfl⟩
   have s4:Rch (exEs true) false 0 4:=.step s2 ⟨⟨2,1,2,1,4,false⟩,by decide,rfl,rfl⟩
   have s5:Rch (exEs true) false 0 5:=.step s3 ⟨⟨3,2,1,2,5,false⟩,by decide,rfl,rfl⟩
   have:v=0\/v=1\/v=2\/v=3\/v=4\/v=5:=by omega
   rcases this with rfl | rfl | rfl | rfl | rfl | rfl <;> assumption
 ·
  intro v h0 h1
  rw [hes]
  cases b
  ·
   have h1:v<4:=h1
   show Rch (exEs false) true 3 v
   have s3:Rch (exEs false) true 3 3:=.refl
   have s1:Rch (exEs false) true 3 1:=.step s3 ⟨⟨1,2,1,2,3,false⟩,by decide,rfl,rfl⟩
   have s2:Rch (exEs false) true 3 2:=.step s3 ⟨⟨2,2,1,3,3,false⟩,by decide,rfl,rfl⟩
   have s0:Rch (exEs false) true 3 0:=.step s1 ⟨⟨0,0,1,0,1,false⟩,by decide,rfl,rfl⟩
   have:v=0\/v=1\/v=2\/v=3:=by omega
   rcases this with rfl | rfl | rfl | rfl <;> assumption
  ·
   have h1:v<6:=h1
   show Rch (exEs true) true 5 v
   have s5:Rch (exEs true) true 5 5:=.refl
   have s3:Rch (exEs true) true 5 3:=.step s5 ⟨⟨3,2,1,2,5,false⟩,by decide,rfl,rfl⟩
   have s4:Rch (exEs true) true 5 4:=.step s5 ⟨⟨4,2,1,3,5,false⟩,by decide,rfl,rfl⟩
   have s1:Rch (exEs true) true 5 1:=.step s3 ⟨⟨1,1,2,0,3,false⟩,by decide,rfl,rfl⟩
   have s2:Rch (exEs true) true 5 2:=.step s4 ⟨⟨2,1,2,1,4,false⟩,by decide,rfl,rfl⟩
   have s0:Rch (exEs true) true 5 0:=.step s1 ⟨⟨0,0,1,0,1,false⟩,by decide,rfl,rfl⟩
   have:v=0\/v=1\/v=2\/v=3\/v=4\/v=5:=by omega
   rcases this with rfl | rfl | rfl | rfl | rfl | rfl <;> assumption
end Go.VC
end

section
namespace Go.VC
open Go.Proofs

end Go.VC
end

section
/- Contracts of the reference's small functions over machines. -/
namespace Go.VC
open Go.Proofs Go.LexS

theorem before26 (x y:Mv) (h:Heap):Fn Pz 121 #[.agg ⟨x.cs⟩,.agg ⟨y.cs⟩] h fun v h'=>v=.bool (decide (evLt x.ev y.ev))/\Ext h h':=by
 apply vc121 x.f x.send x.peer x.label x.t x.ag y.f y.send y.peer y.label y.t y.ag; unfold W121
 have hs:=St.refl h
 refine hs.newb fun h13 hs=>?_
 refine hs.newb fun h14 hs=>?_
 refine ⟨_,hs.rd 1 rfl rfl,_,hs.rd 0 rfl rfl,?_⟩
 have hev:evLt x.ev y.ev ↔ (x.send=true/\y.send=false)\/(x.send=y.send/\(x.peer<y.peer\/(x.peer=y.peer/\x.label<y.label))):=Iff.rfl
 refine sB_intro (fun c1=>?_) (fun c1=>?_)
 ·
  have c1:x.send ≠ y.send:=by simpa using c1
  refine ⟨_,hs.rd 1 rfl rfl,?_,hs.ext⟩
  congr 1
  cases hx:x.send <;> cases hy:y.send <;> simp [hx,hy] at c1 hev ⊢ <;> simp [hev]
 ·
  have c1:x.send=y.send:=by simpa using c1
  refine ⟨_,hs.rd 1 rfl rfl,_,hs.rd 0 rfl rfl,?_⟩
  refine sBn (fun c2=>?_) (fun c2=>?_)
  ·
   refine ⟨_,hs.rd 1 rfl rfl,_,hs.rd 0 rfl rfl,?_,hs.ext⟩
   congr 1
   rw [decide_eq_decide,hev,c1]
   constructor
   ·
    intro h; exact .inr ⟨rfl,.inl h⟩
   ·
    rintro (⟨h1,h2⟩ | ⟨_,h | ⟨h,_⟩⟩)
    ·
     rw [h1] at h2; cases h2
    ·
     exact h
    ·
     exact absurd h c2
  ·
   refine ⟨_,hs.rd 1 rfl rfl,_,hs.rd 0 rfl rfl,?_,hs.ext⟩
   congr 1
   rw [decide_eq_decide,hev,c1]
   constructor
   ·
    intro h; exact .inr ⟨rfl,.inr ⟨c2,h⟩⟩
   ·
    rintro (⟨h1,h2⟩ | ⟨_,h | ⟨_,h⟩⟩)
    ·
     rw [h1] at h2; cases h2
    ·
     omega
    ·
     exact h
end Go.VC
end

section
namespace Go.VC
open Go.Proofs

def W128 (p0:Sl) (p1:Int) (h:Heap) (R:Value->Heap->Prop):Prop:=
 (QI 0 h fun I1 i_4 h5 m3=>(
 (sB (decide (i_4<(p0.n:Int)))
 ((NB p0.a fun b6 o7=>(Ib i_4 p0.n /\
 (∃ x8,rI h5 ⟨b6,o7+Int.toNat i_4*1,none⟩ x8 /\
 (sB (x8 == p1)
 (R (.bool true) h5)
 ((∃ m9,m9<m3/\I1 (IntKind.wrap .i64 (i_4+1)) h5 m9)))))))
 (R (.bool false) h5))))
theorem vc128 (p0:Sl) (p1:Int) (h:Heap) (R:Value->Heap->Prop) (H:W128 p0 p1 h R):Fn Pz 128 #[vS p0,vI p1] h R:=fnI (A:=(.s .z (.s (.s .z (.b (.l [(5,.one (.int .i64))] .z))) .z))) (by kernel_rfl) H

def W129 (p0:Sl) (p1:Int) (h:Heap) (R:Value->Heap->Prop):Prop:=
 (QSBI ⟨none,0,0⟩ false 0 h fun I1 out_4 done_5 i_6 h7 m3=>(
 (sB (decide (i_6<(p0.n:Int)))
 ((sB (!done_5)
 ((NB p0.a fun b8 o9=>(Ib i_6 p0.n /\
 (∃ x10,rI h7 ⟨b8,o9+Int.toNat i_6*1,none⟩ x10 /\
 (sB (decide (x10 >= p1))
 ((NB p0.a fun b11 o12=>(Ib i_6 p0.n /\
 (∃ x13,rI h7 ⟨b11,o12+Int.toNat i_6*1,none⟩ x13 /\
 (sB (decide (x13 > p1))
 ((Wn h7 [vI p1] 3 fun h14=>
 (App Pz 23 23 (vS out_4) (.slice (some (aS h7 0)) 1 1) h14 fun s15 h16=>
 (NB p0.a fun b17 o18=>(Ib i_6 p0.n /\
 (∃ x19,rI h16 ⟨b17,o18+Int.toNat i_6*1,none⟩ x19 /\
 (Wn h16 [vI x19] 3 fun h20=>
 (App Pz 23 23 (vS s15) (.slice (some (aS h16 0)) 1 1) h20 fun s21 h22=>
 (∃ m23,m23<m3/\I1 s21 true (IntKind.wrap .i64 (i_6+1)) h22 m23)))))))))
 ((NB p0.a fun b24 o25=>(Ib i_6 p0.n /\
 (∃ x26,rI h7 ⟨b24,o25+Int.toNat i_6*1,none⟩ x26 /\
 (Wn h7 [vI x26] 3 fun h27=>
 (App Pz 23 23 (vS out_4) (.slice (some (aS h7 0)) 1 1) h27 fun s28 h29=>
 (∃ m30,m30<m3/\I1 s28 true (IntKind.wrap .i64 (i_6+1)) h29 m30))))))))))))
 ((NB p0.a fun b31 o32=>(Ib i_6 p0.n /\
 (∃ x33,rI h7 ⟨b31,o32+Int.toNat i_6*1,none⟩ x33 /\
 (Wn h7 [vI x33] 3 fun h34=>
 (App Pz 23 23 (vS out_4) (.slice (some (aS h7 0)) 1 1) h34 fun s35 h36=>
 (∃ m37,m37<m3/\I1 s35 done_5 (IntKind.wrap .i64 (i_6+1)) h36 m37))))))))))))
 ((NB p0.a fun b38 o39=>(Ib i_6 p0.n /\
 (∃ x40,rI h7 ⟨b38,o39+Int.toNat i_6*1,none⟩ x40 /\
 (Wn h7 [vI x40] 3 fun h41=>
 (App Pz 23 23 (vS out_4) (.slice (some (aS h7 0)) 1 1) h41 fun s42 h43=>
 (∃ m44,m44<m3/\I1 s42 done_5 (IntKind.wrap .i64 (i_6+1)) h43 m44)))))))))
 ((sB (!done_5)
 ((Wn h7 [vI p1] 3 fun h45=>
 (App Pz 23 23 (vS out_4) (.slice (some (aS h7 0)) 1 1) h45 fun s46 h47=>
 R (vS s46) h47)))
 (R (vS out_4) h7))))))
theorem vc129 (p0:Sl) (p1:Int) (h:Heap) (R:Value->Heap->Prop) (H:W129 p0 p1 h R):Fn Pz 129 #[vS p0,vI p1] h R:=fnI (A:=(.s .z (.s .z (.s .z (.s (.s .z (.b (.l [(5,.one (.slice)),(6,.one (.bool)),(7,.one (.int .i64))] .z))) .z))))) (by kernel_rfl) H

end Go.VC
end
