/- PjUh PjUi PjArgs. -/
import Derived.Test.YtfdhgcladnbdeaaGreatDoorAM08
import Derived.Test.YtfdhgcladnbdeaaGreatDoorRows
set_option linter.all false
set_option maxRecDepth 100000
set_option maxHeartbeats 8000000

section
namespace Go.VC
open Go.Proofs Go.LexS Go.Maps
structure NumM (m:Mch):Prop where
 r:0<=m.role/\m.role<6
 n:1<=m.n/\m.n<=200
 s:0<=m.s/\m.s<m.n
 fl:(m.fin.length:Int)=m.n
 ml:m.mv.length<=400
 mv:∀x∈m.mv,0<=x.f/\x.f<m.n/\0<=x.t/\x.t<m.n/\0<=x.peer/\x.peer<6/\x.peer≠m.role/\0<=x.label/\x.label<40
theorem outIx_mem {m:Mch} {s:Int} {k:Nat}:k∈outIx m s ↔ ∃x,m.mv[k]?=some x/\x.f=s:=by
 unfold outIx;rw[List.mem_filter,List.mem_range];constructor
 .rintro⟨h1,h2⟩;unfold outP at h2;rw[Yi h1] at h2;exact⟨_,Yi h1,Yyn h2⟩
 .rintro⟨x,hx,hf⟩;refine⟨(Ya.1 hx).1,?_⟩;unfold outP;rw[hx];exact decide_eq_true hf
def evI (m:Mch) (i:Nat):Ev:=match m.mv[i]? with | some x=>x.ev | none=>⟨false,0,0⟩
def DetM (m:Mch):Prop:=∀(i k:Nat) x y,m.mv[i]?=some x->m.mv[k]?=some y->i≠k->x.f=y.f->x.ev≠y.ev/\x.send=y.send
theorem outIx_nodup (m:Mch) (s:Int):(outIx m s).Nodup:=List.Nodup.sublist List.filter_sublist List.nodup_range
theorem evI_of {m:Mch} {i:Nat} {x:Mv} (h:m.mv[i]?=some x):evI m i=x.ev:=by unfold evI;rw[h]
theorem evLt_of {x y:Ev} (h1:¬evLt y x) (h2:x≠y):evLt x y:=by
 rcases evLt_tri x y with h | h | h
 .exact h
 .exact absurd h h2
 .exact absurd h h1
def meds (m:Mch):List Ed:=m.mv.map fun x=>⟨x.f,0,0,0,x.t,false⟩
theorem meds_q {m:Mch} {n:Nat} {b:Int}:b∈quietL (meds m) (-1) n ↔ ∃x∈m.mv,x.f=(n:Int)/\x.t=b:=by
 rw[quietL_mem];constructor
 .rintro⟨e,he,_,hf,ht⟩;obtain⟨x,hx,rfl⟩:=Yp.1 he;exact⟨x,hx,hf,ht⟩
 .rintro⟨x,hx,hf,ht⟩;exact⟨_,Yp.2 ⟨x,hx,rfl⟩,rfl,hf,ht⟩
def RchM (m:Mch):Prop:=∀v:Int,0<=v->v<m.n->Qr (meds m) (-1) [m.s] v
structure AgM (m:Mch):Prop where
 s:∀x∈m.mv,x.ag=true->x.send=true
 o:∀x∈m.mv,x.ag=true->(outIx m x.f).length=1
 i:∀x∈m.mv,x.ag=true->x.f≠m.s
 f:∀x∈m.mv,x.ag=true->m.fin[x.f.toNat]?=some false
 p:∀x∈m.mv,x.ag=true->∀y∈m.mv,y.t=x.f->y.send=true/\y.label=x.label
structure TmM (m:Mch) (i:Nat) (t:To):Prop where
 o:∀z,0<i->m.li[i-1]?=some z->z.s<t.s
 k:1<=t.k/\t.k<=1000
 e:0<=t.e/\∃x,m.mv[t.e.toNat]?=some x/\x.f=t.s/\x.send=true/\x.ag=false
def TimM (m:Mch):Prop:=∀i t,m.li[i]?=some t->TmM m i t
structure VM (m:Mch):Prop where
 n:NumM m
 d:DetM m
 r:RchM m
 a:AgM m
 t:TimM m
theorem Rw.prefix {h:Heap} {k:Nat} {s:Sl} {rows:List (List Value)} (hr:Rw h k s rows) {i c:Nat} (hi:i<=s.n):Rw h k ⟨s.a,i,c⟩ (rows.take i):=by
 have hn:=hr.1;refine⟨by rw[Yu];show i=_;omega,fun hp=>?_⟩;rw[Yu] at hp;obtain⟨b,o,ha,hall⟩:=hr.2 (by omega);refine⟨b,o,ha,fun j row hj=>hall j row ?_⟩;rw[Yyf] at hj;split at hj
 .exact hj
 .cases hj
theorem mv_ext {x y:Mv} (c:((x.f==y.f)&&((x.send==y.send)&&((x.peer==y.peer)&&((x.label==y.label)&&((x.t==y.t)&&((x.ag==y.ag)&&true))))))=true):x=y:=by
 cases x;cases y;simp only[Bool.and_true,Yt,beq_iff_eq] at c;obtain⟨h1,h2,h3,h4,h5,h6⟩:=c;simp only[Mv.mk.injEq];exact⟨h1,h2,h3,h4,h5,h6⟩
theorem to_ext {x y:To} (c:((x.s==y.s)&&((x.k==y.k)&&((x.e==y.e)&&true)))=true):x=y:=by
 cases x;cases y;simp only[Bool.and_true,Yt,beq_iff_eq] at c;obtain⟨h1,h2,h3⟩:=c;simp only[To.mk.injEq];exact⟨h1,h2,h3⟩
theorem mch_ext {m k:Mch} (h1:m.role=k.role) (h2:m.n=k.n) (h3:m.s=k.s) (h4:m.fin=k.fin) (h5:m.mv=k.mv) (h6:m.li=k.li):m=k:=by
 cases m;cases k;simp only[Mch.mk.injEq];exact⟨h1,h2,h3,h4,h5,h6⟩
theorem same17 (m k:Mch) (sf sm sl tf tm tl:Sl) (h:Heap) (hM:MI h m sf sm sl) (hK:MI h k tf tm tl) :
  Fn Pz 16 #[.agg ⟨mC m sf sm sl⟩,.agg ⟨mC k tf tm tl⟩] h (RP (m=k) h):=by
 apply vc16 m.role m.n m.s sf sm sl k.role k.n k.s tf tm tl;unfold W16;have f1:=hM.pf.ln;have f2:=hK.pf.ln;have m1:=hM.pm.ln;have m2:=hK.pm.ln;have l1:=hM.pl.ln;have l2:=hK.pl.ln;have f3:=hM.pf.sm;have m3:=hM.pm.sm;have l3:=hM.pl.sm;refine (St.refl h).newb fun h13 hs=>?_;refine hs.newb fun h14 hs=>?_;refine⟨_,hs.rd 1 rfl rfl,_,hs.rd 0 rfl rfl,sBn (fun c1=>RP.f (fun e=>c1 (by rw[e])) hs.ext) (fun c1=>?_)⟩;refine⟨_,hs.rd 1 rfl rfl,_,hs.rd 0 rfl rfl,sBn (fun c2=>RP.f (fun e=>c2 (by rw[e])) hs.ext) (fun c2=>?_)⟩;refine⟨_,hs.rd 1 rfl rfl,_,hs.rd 0 rfl rfl,sBn (fun c3=>RP.f (fun e=>c3 (by rw[e])) hs.ext) (fun c3=>?_)⟩;refine⟨sf,hs.rd 1 rfl rfl,tf,hs.rd 0 rfl rfl,sBn (fun c4=>RP.f (fun e=>by rw[<-e] at f2;omega) hs.ext) (fun c4=>?_)⟩;refine⟨sm,hs.rd 1 rfl rfl,tm,hs.rd 0 rfl rfl,sBn (fun c5=>RP.f (fun e=>by rw[<-e] at m2;omega) hs.ext) (fun c5=>?_)⟩;refine⟨sl,hs.rd 1 rfl rfl,tl,hs.rd 0 rfl rfl,sBn (fun c6=>RP.f (fun e=>by rw[<-e] at l2;omega) hs.ext) (fun c6=>?_)⟩;have allEq:∀ {α:Type} {L K:List α} {n:Nat},n=L.length->n=K.length->(∀(j:Nat) x y,j<n->L[j]?=some x->K[j]?=some y->x=y)->L=K:=fun {α L K n} e1 e2 hq=>by
  refine Yyr fun i=>?_;by_cases hil:i<n
  .obtain⟨x,hx⟩:=get_some (l:=L) (i:=i) (by omega);obtain⟨y,hy⟩:=get_some (l:=K) (i:=i) (by omega);rw[hx,hy,hq i x y (by omega) hx hy]
  .rw[Yl (by omega),Yl (by omega)]
 refine up_loopS (n:=sf.n) hs (fun i=>∀(j:Nat) x y,j<i->m.fin[j]?=some x->k.fin[j]?=some y->x=y) (fun j x y hj=>by omega) ?_;clear hs;rintro-i h31 hi ⟨hs,hq⟩;refine⟨sf,hs.rd 1 rfl rfl,sB_intro (fun d=>?_) (fun d=>?_)⟩
 .replace d:=lt_t d;refine⟨sf,hs.rd 1 rfl rfl,?_⟩;refine (hM.pf.rw.ext hs.ext).nbI (by omega) (by omega) fun b34 o35 x gx t=>?_;replace gx:m.fin[i]?=some x:=gx;refine⟨_,t.hd,tf,hs.rd 0 rfl rfl,?_⟩;refine (hK.pf.rw.ext hs.ext).nbI (by omega) (by omega) fun b38 o39 y gy t2=>?_;replace gy:k.fin[i]?=some y:=gy;refine⟨_,t2.hd,sB_intro (fun c=>RP.f (fun e=>by rw[<-e,gx] at gy;cases gy;simp at c) hs.ext) (fun c=>Up.next d (by omega) ⟨hs,fun j x' y' hj hx hy=>?_⟩)⟩;by_cases e:j=i
  .subst e;rw[gx] at hx;rw[gy] at hy;cases hx;cases hy;simpa using c
  .exact hq j x' y' (by omega) hx hy
 have hF:m.fin=k.fin:=allEq f1 (by omega) fun j x y hj=>hq j x y (by have:=lt_f d;omega);clear hq;refine up_loopS (n:=sm.n) hs (fun i=>∀(j:Nat) x y,j<i->m.mv[j]?=some x->k.mv[j]?=some y->x=y) (fun j x y hj=>by omega) ?_;clear hs;rintro-i h46 hi ⟨hs,hq⟩;refine⟨sm,hs.rd 1 rfl rfl,sB_intro (fun d=>?_) (fun d=>?_)⟩
 .replace d:=lt_t d;refine⟨sm,hs.rd 1 rfl rfl,?_⟩;refine (hM.pm.rw.ext hs.ext).nbI (by omega) (by omega) fun b34 o35 x gx t=>?_;replace gx:m.mv[i]?=some x:=gx;refine⟨_,_,_,_,_,_,t,tm,hs.rd 0 rfl rfl,?_⟩;refine (hK.pm.rw.ext hs.ext).nbI (by omega) (by omega) fun b38 o39 y gy t2=>?_;replace gy:k.mv[i]?=some y:=gy;refine⟨_,_,_,_,_,_,t2,sB_intro (fun c=>RP.f (fun e=>by rw[<-e,gx] at gy;cases gy;simp at c) hs.ext) (fun c=>Up.next d (by omega) ⟨hs,fun j x' y' hj hx hy=>?_⟩)⟩;by_cases e:j=i
  .subst e;rw[gx] at hx;rw[gy] at hy;cases hx;cases hy;exact mv_ext (bT c)
  .exact hq j x' y' (by omega) hx hy
 have hG:m.mv=k.mv:=allEq m1 (by omega) fun j x y hj=>hq j x y (by have:=lt_f d;omega);clear hq;refine up_loopS (n:=sl.n) hs (fun i=>∀(j:Nat) x y,j<i->m.li[j]?=some x->k.li[j]?=some y->x=y) (fun j x y hj=>by omega) ?_;clear hs;rintro-i h71 hi ⟨hs,hq⟩;refine⟨sl,hs.rd 1 rfl rfl,sB_intro (fun d=>?_) (fun d=>?_)⟩
 .replace d:=lt_t d;refine⟨sl,hs.rd 1 rfl rfl,?_⟩;refine (hM.pl.rw.ext hs.ext).nbI (by omega) (by omega) fun b34 o35 x gx t=>?_;replace gx:m.li[i]?=some x:=gx;refine⟨_,_,_,t,tl,hs.rd 0 rfl rfl,?_⟩;refine (hK.pl.rw.ext hs.ext).nbI (by omega) (by omega) fun b38 o39 y gy t2=>?_;replace gy:k.li[i]?=some y:=gy;refine⟨_,_,_,t2,sB_intro (fun c=>RP.f (fun e=>by rw[<-e,gx] at gy;cases gy;simp at c) hs.ext) (fun c=>Up.next d (by omega) ⟨hs,fun j x' y' hj hx hy=>?_⟩)⟩;by_cases e:j=i
  .subst e;rw[gx] at hx;rw[gy] at hy;cases hx;cases hy;exact to_ext (bT c)
  .exact hq j x' y' (by omega) hx hy
 have hH:m.li=k.li:=allEq l1 (by omega) fun j x y hj=>hq j x y (by have:=lt_f d;omega);exact RP.t (mch_ext c1 c2 c3 hF hG hH) hs.ext
theorem ins_ok {m:Mch} {s:Int} {O:List Nat} {i k:Nat} (hP:O.Perm ((List.range i).filter (outP m s))) (hS:O.Pairwise fun a b=>¬evLt (evI m b) (evI m a)) (hx:outP m s i=true)
  (hb:∀(j a:Nat),j<k->O[j]?=some a->¬evLt (evI m i) (evI m a)) (ha:∀c,O[k]?=some c->evLt (evI m i) (evI m c)) :
  (O.take k++[i]++O.drop k).Perm ((List.range (i+1)).filter (outP m s))/\(O.take k++[i]++O.drop k).Pairwise fun a b=>¬evLt (evI m b) (evI m a):=by
 constructor
 .rw[List.range_succ,List.filter_append,List.filter_cons_of_pos hx,List.filter_nil];refine List.Perm.trans ?_ (hP.append_right [i]);rw[Yz];refine List.Perm.trans (List.Perm.append_left _ List.perm_append_comm) ?_;rw[<-Yz,List.take_append_drop]
 .have hS':=hS;rw[<-List.take_append_drop k O,List.pairwise_append] at hS';rw[Yz,List.pairwise_append];have hdr:∀b∈O.drop k,¬evLt (evI m b) (evI m i):=fun b hbm hlt=>by
   cases hd:O.drop k with
   | nil=>rw[hd] at hbm;cases hbm
   | cons c l=>
    have hc:O[k]?=some c:=by
     have:=List.getElem?_drop (xs:=O) (i:=k) (j:=0);rw[hd] at this;simpa using this.symm
    have h1:=ha c hc;have h2:=hS'.2.1;rw[hd] at hbm h2;rcases Yr.1 hbm with rfl | hbm
    .exact evLt_irr _ (evLt_trans h1 hlt)
    .exact (List.pairwise_cons.1 h2).1 b hbm (evLt_trans hlt h1)
  refine⟨hS'.1,?_,fun a ham b hbm=>?_⟩
  .rw[List.singleton_append,List.pairwise_cons];exact⟨hdr,hS'.2.1⟩
  .rcases Yk.1 hbm with hbm | hbm
   .rw[Ye.1 hbm];obtain⟨j,hj⟩:=Yf.1 ham;rw[Yyf] at hj;split at hj
    .exact hb j a (by assumption) hj
    .cases hj
   .exact hS'.2.2 a ham b hbm
theorem refOut62S (m:Mch) (sf sm sl:Sl) (s:Int) (h:Heap) (hM:MI h m sf sm sl) :
  Fn Pz 19 #[.agg ⟨mC m sf sm sl⟩,.int .i64 s] h fun v h'=>∃(r:Sl) (O:List Nat),v=.slice r.a r.n r.c/\St h h' [.sl r 3 1 ((natI O).map inC)]/\O.Perm (outIx m s)/\O.Pairwise fun a b=>¬evLt (evI m b) (evI m a):=by
 apply vc19 m.role m.n m.s sf sm sl;unfold W19 V19a V19b;have hs:=St.refl h;have hmn:=hM.pm.ln;have hmb:=hM.pm.sm;refine hs.newb fun h7 hs=>?_;have hs:=hs.nil_ 3 1;refine up_loopA (n:=m.mv.length) hs (fun i rows=>∃O:List Nat,rows=(natI O).map inC/\O.Perm ((List.range i).filter (outP m s))/\O.Pairwise fun a b=>¬evLt (evI m b) (evI m a)) ⟨[],rfl,List.Perm.refl _,List.Pairwise.nil⟩ ?_;clear hs;rintro-i out h13 _ hi hs ⟨O,rfl,hP,hSo⟩;have holn:=(hs.rows 0 (cs:=inC) rfl (by omega)).ln;have hocap:=hs.len 0 (s:=out) (e:=3) (n:=1) rfl (by omega);rw[show (natI O).length=O.length from Yc _] at holn;have hol:O.length<=i:=by rw[hP.length_eq];exact Yys (List.length_filter_le _ _) (by rw[Yyd];exact Yyt _)
 refine⟨sm,hs.rd 1 rfl rfl,?_⟩;refine sBi (fun c1=>?_) (fun c1=>?_)
 .have him:i<m.mv.length:=by omega
  refine⟨sm,hs.rd 1 rfl rfl,?_⟩;refine (hM.pm.ext hs.ext).rw.nbI (by omega) (by omega) fun b16 o17 x g16 t16=>?_;replace g16:m.mv[i]?=some x:=g16;refine⟨_,t16.hd,?_⟩;have hp:outP m s i=decide (x.f=s):=by unfold outP;rw[g16]
  refine sBn (fun c2=>?_) (fun c2=>?_)
  .refine UpA.next him (by omega) ⟨_,hs,O,rfl,?_,hSo⟩;rw[List.range_succ,List.filter_append,List.filter_cons_of_neg (by rw[hp,decide_eq_false c2];simp),List.filter_nil,Yw];exact hP
  .have hxi:outP m s i=true:=by rw[hp];exact decide_eq_true c2
   have hevi:evI m i=x.ev:=evI_of g16;have hOm:∀(k j:Nat),O[k]?=some j->∃y,m.mv[j]?=some y:=fun k j hk=>by
    have:=hP.mem_iff.1 (Yb hk);rw[List.mem_filter,List.mem_range] at this;exact get_some (by omega)
   refine up_loopS (n:=out.n) hs (fun k=>∀(j a:Nat),j<k->O[j]?=some a->¬evLt (evI m i) (evI m a)) (fun j a hj=>by omega) ?_;clear hs;rintro-k h24 hko ⟨hs,hq⟩;refine sBi (fun c3=>?_) (fun c3=>?_);rotate_left;have hat:∀c,O[k]?=some c->evLt (evI m i) (evI m c):=fun c hc=>by have:=(Ya.1 hc).1;omega
   rotate_left;refine⟨sm,hs.rd 1 rfl rfl,?_⟩;refine (hM.pm.ext hs.ext).rw.nbI (by omega) (by omega) fun b26 o27 x' g26 t26=>?_;rw[Ys,g16] at g26;cases g26;refine⟨_,_,_,_,_,_,t26,sm,hs.rd 1 rfl rfl,?_⟩;refine (hs.rows 0 (cs:=inC) rfl (by omega)).nbI (by omega) (by omega) fun b35 o36 d g35 t35=>?_;obtain⟨j,hj,rfl⟩:=natI_get g35;replace hj:O[k]?=some j:=hj;obtain⟨y,hy⟩:=hOm _ _ hj;have hyl:=(Ya.1 hy).1;have hevj:evI m j=y.ev:=evI_of hy;refine⟨_,t35.hd,?_⟩;refine (hM.pm.ext hs.ext).rw.nbI (by omega) (by omega) fun b38 o39 y' g38 t38=>?_;rw[Ys,hy] at g38;cases g38;refine⟨_,_,_,_,_,_,t38,?_⟩;refine (before26 x y h24).mono ?_;rintro _ h48 ⟨rfl,E48⟩;have hs:=hs.step E48;refine⟨_,rfl,sB_intro (fun c4=>?_) (fun c4=>?_)⟩
   .have hnl:¬evLt x.ev y.ev:=Yyo (bF c4);refine Up.next (by omega) (by omega) ⟨hs,fun j' a hj' ha=>?_⟩;by_cases e:j'=k
    .subst e;rw[hj] at ha;cases ha;rw[hevi,hevj];exact hnl
    .exact hq j' a (by omega) ha
   have hlt:evLt x.ev y.ev:=Yyn (bT c4);have hat:∀c,O[k]?=some c->evLt (evI m i) (evI m c):=fun c hc=>by rw[hj] at hc;cases hc;rw[hevi,hevj];exact hlt
   all_goals
    have fin:∀ {h':Heap} {r:Sl},St h h' [.sl r 3 1 ((natI (O.take k)).map inC++[[.int .i64 (i:Nat)]]++(natI (O.drop k)).map inC),.blk h.size (mC m sf sm sl) 33]->∃m',m'<m.mv.length-i/\UpA m.mv.length (fun i s_1 h'=>∃rows,St h h' (.sl s_1 3 1 rows::[.blk h.size (mC m sf sm sl) 33])/\∃O:List Nat,rows=(natI O).map inC/\O.Perm ((List.range i).filter (outP m s))/\O.Pairwise fun a b=>¬evLt (evI m b) (evI m a)) r (IntKind.wrap .i64 ((i:Int)+1)) h' m':=by
     intro h' r h1;have hok:=ins_ok hP hSo hxi hq hat;refine UpA.next him (by omega) ⟨_,h1,O.take k++[i]++O.drop k,?_,hok.1,hok.2⟩;unfold natI;rw[Ym,Ym,Ym,Ym];rfl
    have e0:subA out.a (Int.toNat 0) out.c 1=out.a:=subA_zero _ _ _;have hpre:∀ {h':Heap},Rw h' 1 out ((natI O).map inC)->Rw h' 1 (⟨subA out.a (Int.toNat 0) out.c 1,Int.toNat (k:Int)-Int.toNat 0,out.c-Int.toNat 0⟩:Sl) ((natI (O.take k)).map inC):=fun {h'} hr=>by
     have h1:=hr.prefix (i:=k) (c:=out.c-Int.toNat 0) hko;rw[e0];unfold natI at h1 ⊢;rw[List.map_take,List.map_take];exact h1
    have hsuf:∀ {h':Heap},Rw h' 1 out ((natI O).map inC)->Rw h' 1 (⟨subA out.a (Int.toNat (k:Int)) out.c 1,Int.toNat (out.n:Nat)-Int.toNat (k:Int),out.c-Int.toNat (k:Int)⟩:Sl) ((natI (O.drop k)).map inC):=fun {h'} hr=>by
     have h1:=intrw hr hocap.2.1 (i:=k) hko;unfold natI at h1 ⊢;rw[List.map_drop];exact h1
    have hnilp:(⟨subA out.a (Int.toNat 0) out.c 1,Int.toNat (k:Int)-Int.toNat 0,out.c-Int.toNat 0⟩:Sl).a=none->(⟨subA out.a (Int.toNat 0) out.c 1,Int.toNat (k:Int)-Int.toNat 0,out.c-Int.toNat 0⟩:Sl).n=0/\(⟨subA out.a (Int.toNat 0) out.c 1,Int.toNat (k:Int)-Int.toNat 0,out.c-Int.toNat 0⟩:Sl).c=0:=by
     intro hn;have hn:subA out.a (Int.toNat 0) out.c 1=none:=hn;rw[e0] at hn;have:=hocap.2.2 hn;exact⟨by show Int.toNat (k:Int)-Int.toNat 0=0;omega,by show out.c-Int.toNat 0=0;omega⟩
    have hnils:(⟨subA out.a (Int.toNat (k:Int)) out.c 1,Int.toNat (out.n:Nat)-Int.toNat (k:Int),out.c-Int.toNat (k:Int)⟩:Sl).a=none->(⟨subA out.a (Int.toNat (k:Int)) out.c 1,Int.toNat (out.n:Nat)-Int.toNat (k:Int),out.c-Int.toNat (k:Int)⟩:Sl).n=0/\(⟨subA out.a (Int.toNat (k:Int)) out.c 1,Int.toNat (out.n:Nat)-Int.toNat (k:Int),out.c-Int.toNat (k:Int)⟩:Sl).c=0:=fun hn=>subA_nil hocap.2.2 hn;refine⟨⟨by omega,by omega,by omega⟩,⟨by omega,by omega,by omega⟩,?_,?_⟩
    .refine hs.newb fun h76 hs=>?_;have hs:=hs.blkS 0 1 [] rfl (by simp) rfl (by decide);refine⟨?_,?_⟩
     .refine hs.appRw 0 (rows:=[]) (news:=(natI (O.take k)).map inC) rfl app42 (y:=⟨subA out.a (Int.toNat 0) out.c 1,Int.toNat (k:Int)-Int.toNat 0,out.c-Int.toNat 0⟩) (hpre (hs.rows 1 (s:=out) (cs:=inC) (l:=natI O) rfl (by omega))) (inrows _) hnilp (flat_oneB (fun _=>rfl) _) (by show (0+(Int.toNat (k:Int)-Int.toNat 0))*8<=_;omega) (by show 0+(Int.toNat (k:Int)-Int.toNat 0)<=_;simp only[maxLen];omega) fun s77 h78 n77 hs=>?_;replace n77:s77.n=k:=by rw[n77];show 0+(Int.toNat (k:Int)-Int.toNat 0)=k;omega
      refine hs.app 0 rfl app42 (m:=1) [[.int .i64 (i:Nat)]] rfl rfl (by simp) rfl (by omega) (by simp only[maxLen];omega) fun s80 h81 n80 hs=>?_;refine hs.appRw 0 (rows:=(natI (O.take k)).map inC++[[.int .i64 (i:Nat)]]) (news:=(natI (O.drop k)).map inC) rfl app42 (y:=⟨subA out.a (Int.toNat (k:Int)) out.c 1,Int.toNat (out.n:Nat)-Int.toNat (k:Int),out.c-Int.toNat (k:Int)⟩) (hsuf (hs.rows 1 (s:=out) (cs:=inC) (l:=natI O) rfl (by omega))) (inrows _) hnils (flat_oneB (fun _=>rfl) _) (by show (_+(Int.toNat (out.n:Nat)-Int.toNat (k:Int)))*8<=_;omega) (by show _+(Int.toNat (out.n:Nat)-Int.toNat (k:Int))<=_;simp only[maxLen];omega) fun s82 h83 n82 hs=>?_;refine fin (hs.sub ?_);exact .cons_cons _ (.cons _ (.cons_cons _ .slnil))
     .refine hs.newb fun h85 hs=>?_;refine hs.appRw 1 (rows:=[]) (news:=(natI (O.take k)).map inC) rfl app42 (y:=⟨subA out.a (Int.toNat 0) out.c 1,Int.toNat (k:Int)-Int.toNat 0,out.c-Int.toNat 0⟩) (hpre (hs.rows 2 (s:=out) (cs:=inC) (l:=natI O) rfl (by omega))) (inrows _) hnilp (flat_oneB (fun _=>rfl) _) (by show (0+(Int.toNat (k:Int)-Int.toNat 0))*8<=_;omega) (by show 0+(Int.toNat (k:Int)-Int.toNat 0)<=_;simp only[maxLen];omega) fun s77 h78 n77 hs=>?_;replace n77:s77.n=k:=by rw[n77];show 0+(Int.toNat (k:Int)-Int.toNat 0)=k;omega
      refine hs.appended 1 (rows:=(natI (O.take k)).map inC) rfl app42 (m:=1) (news:=[[.int .i64 (i:Nat)]]) (hs.at 0 rfl (n:=1) rfl) rfl (by simp) rfl (by omega) (by simp only[maxLen];omega) fun s80 h81 n80 hs=>?_;refine hs.appRw 1 (rows:=(natI (O.take k)).map inC++[[.int .i64 (i:Nat)]]) (news:=(natI (O.drop k)).map inC) rfl app42 (y:=⟨subA out.a (Int.toNat (k:Int)) out.c 1,Int.toNat (out.n:Nat)-Int.toNat (k:Int),out.c-Int.toNat (k:Int)⟩) (hsuf (hs.rows 2 (s:=out) (cs:=inC) (l:=natI O) rfl (by omega))) (inrows _) hnils (flat_oneB (fun _=>rfl) _) (by show (_+(Int.toNat (out.n:Nat)-Int.toNat (k:Int)))*8<=_;omega) (by show _+(Int.toNat (out.n:Nat)-Int.toNat (k:Int))<=_;simp only[maxLen];omega) fun s82 h83 n82 hs=>?_;refine fin (hs.sub ?_);exact .cons _ (.cons_cons _ (.cons _ (.cons_cons _ .slnil)))
    .refine hs.newb fun h93 hs=>?_;refine hs.newb fun h94 hs=>?_;have hs:=hs.blkS 0 1 [] rfl (by simp) rfl (by decide);refine hs.appRw 0 (rows:=[]) (news:=(natI (O.take k)).map inC) rfl app42 (y:=⟨subA out.a (Int.toNat 0) out.c 1,Int.toNat (k:Int)-Int.toNat 0,out.c-Int.toNat 0⟩) (hpre (hs.rows 2 (s:=out) (cs:=inC) (l:=natI O) rfl (by omega))) (inrows _) hnilp (flat_oneB (fun _=>rfl) _) (by show (0+(Int.toNat (k:Int)-Int.toNat 0))*8<=_;omega) (by show 0+(Int.toNat (k:Int)-Int.toNat 0)<=_;simp only[maxLen];omega) fun s77 h78 n77 hs=>?_;replace n77:s77.n=k:=by rw[n77];show 0+(Int.toNat (k:Int)-Int.toNat 0)=k;omega
     refine hs.appended 0 (rows:=(natI (O.take k)).map inC) rfl app42 (m:=1) (news:=[[.int .i64 (i:Nat)]]) (hs.at 1 rfl (n:=1) rfl) rfl (by simp) rfl (by omega) (by simp only[maxLen];omega) fun s80 h81 n80 hs=>?_;refine hs.appRw 0 (rows:=(natI (O.take k)).map inC++[[.int .i64 (i:Nat)]]) (news:=(natI (O.drop k)).map inC) rfl app42 (y:=⟨subA out.a (Int.toNat (k:Int)) out.c 1,Int.toNat (out.n:Nat)-Int.toNat (k:Int),out.c-Int.toNat (k:Int)⟩) (hsuf (hs.rows 2 (s:=out) (cs:=inC) (l:=natI O) rfl (by omega))) (inrows _) hnils (flat_oneB (fun _=>rfl) _) (by show (_+(Int.toNat (out.n:Nat)-Int.toNat (k:Int)))*8<=_;omega) (by show _+(Int.toNat (out.n:Nat)-Int.toNat (k:Int))<=_;simp only[maxLen];omega) fun s82 h83 n82 hs=>?_;refine fin (hs.sub ?_);exact .cons_cons _ (.cons _ (.cons _ (.cons_cons _ .slnil)))
 .refine⟨out,O,rfl,hs.sub (.cons_cons _ (.cons _ .slnil)),?_,hSo⟩;rw[show i=m.mv.length by omega] at hP;exact hP
theorem refOut62 (m:Mch) (sf sm sl:Sl) (s:Int) (h:Heap) (hM:MI h m sf sm sl) :
  Fn Pz 19 #[.agg ⟨mC m sf sm sl⟩,.int .i64 s] h fun v h'=>Ext h h'/\∃(r:Sl) (O:List Nat),v=.slice r.a r.n r.c/\Rw h' 1 r ((natI O).map inC)/\O.Perm (outIx m s)/\O.Pairwise fun a b=>¬evLt (evI m b) (evI m a):=by
 refine (refOut62S m sf sm sl s h hM).mono ?_;rintro _ h' ⟨r,O,rfl,hs,hP,hSo⟩;exact⟨hs.ext,r,O,rfl,hs.rows 0 rfl (by omega),hP,hSo⟩
def t0:To:=⟨0,0,0⟩
structure Vs where
 a:Int
 b:Int
 h:List Ev
def Vs.p (v:Vs):Int × Int:=(v.a,v.b)
theorem nodup_le:∀(n:Nat) (l:List Nat),l.Nodup->(∀x∈l,x<n)->l.length<=n
 | 0,l,_,h=>by
  cases l with
  | nil=>exact Yyt _
  | cons a l=>have:=h a Yx;omega
 | n+1,l,hn,h=>by
  by_cases hm:n∈l
  .have h1:=nodup_le n (l.erase n) (hn.erase n) fun x hx=>by
    have:=(hn.mem_erase_iff).1 hx;have h2:=h x this.2;have h3:x≠n:=this.1;omega
   rw[List.length_erase_of_mem hm] at h1;omega
  .have h1:=nodup_le n l hn fun x hx=>by
    have h2:=h x hx;have h3:x≠n:=fun e=>hm (e ▸ hx);omega
   omega
def MvsOk (m:Mch) (S:Int->List Nat):Prop:=∀s i,i∈S s ↔ ∃x,m.mv[i]?=some x/\x.f=s
theorem srt_uniq {m:Mch} (hD:DetM m) {s:Int} {O Q:List Nat} (p1:O.Perm (outIx m s)) (s1:O.Pairwise fun a b=>¬evLt (evI m b) (evI m a)) (p2:Q.Perm (outIx m s)) (s2:Q.Pairwise fun a b=>¬evLt (evI m b) (evI m a)):O=Q:=by
 refine List.Perm.eq_of_pairwise (le:=fun a b=>¬evLt (evI m b) (evI m a)) (fun a b ha hb h3 h4=>?_) s1 s2 (p1.trans p2.symm);obtain⟨x,hx,hxf⟩:=outIx_mem.1 (p1.mem_iff.1 ha);obtain⟨y,hy,hyf⟩:=outIx_mem.1 (p2.mem_iff.1 hb);by_cases e:a=b
 .exact e
 .have:=(hD a b x y hx hy e (by rw[hxf,hyf])).1;rw[evI_of hx,evI_of hy] at h3 h4;exact absurd (evLt_of h3 this) h4
open Classical in
noncomputable def mvS (m:Mch) (s:Int):List Nat:=if h:∃O:List Nat,O.Perm (outIx m s)/\O.Pairwise fun a b=>¬evLt (evI m b) (evI m a) then Classical.choose h else outIx m s
theorem mvS_eq {m:Mch} (hD:DetM m) {s:Int} {O:List Nat} (p1:O.Perm (outIx m s)) (s1:O.Pairwise fun a b=>¬evLt (evI m b) (evI m a)):mvS m s=O:=by
 unfold mvS;have h:∃O:List Nat,O.Perm (outIx m s)/\O.Pairwise fun a b=>¬evLt (evI m b) (evI m a):=⟨O,p1,s1⟩;rw[dif_pos h];have:=Classical.choose_spec h;exact srt_uniq hD this.1 this.2 p1 s1
theorem mvS_ok (m:Mch):MvsOk m (mvS m):=fun s i=>by
 rw[<-outIx_mem];unfold mvS;by_cases h:∃O:List Nat,O.Perm (outIx m s)/\O.Pairwise fun a b=>¬evLt (evI m b) (evI m a)
 .rw[dif_pos h];exact (Classical.choose_spec h).1.mem_iff
 .rw[dif_neg h]
/-! ### the queue -/
structure Vt where
 a:Int
 b:Int
 ahead:Int
 x:Ev
def Vt.cs (v:Vt):List Value:=[.int .i64 v.a,.int .i64 v.b,.int .i64 v.ahead,.bool v.x.send,.int .i64 v.x.peer,.int .i64 v.x.label]
structure WM (m:Mch):Prop where
 n:NumM m
 d:DetM m
 t:TimM m
theorem VM.w {m:Mch} (h:VM m):WM m:=⟨h.n,h.d,h.t⟩
theorem evLt_nt {a b c:Ev} (h1:¬evLt b a) (h2:¬evLt c b):¬evLt c a:=fun h=>by
 rcases evLt_tri a b with h3 | h3 | h3
 .rcases evLt_tri b c with h4 | h4 | h4
  .exact evLt_irr _ (evLt_trans (evLt_trans h3 h4) h)
  .subst h4;exact evLt_irr _ (evLt_trans h3 h)
  .exact h2 h4
 .subst h3;exact h2 h
 .exact h1 h3
theorem mvS_srt (m:Mch) (s:Int):(mvS m s).Perm (outIx m s)/\(mvS m s).Pairwise fun a b=>¬evLt (evI m b) (evI m a):=by
 have hex:∃O:List Nat,O.Perm (outIx m s)/\O.Pairwise fun a b=>¬evLt (evI m b) (evI m a):=by
  refine⟨(outIx m s).mergeSort (fun a b=>!decide (evLt (evI m b) (evI m a))),List.mergeSort_perm _ _,?_⟩;have h:=List.pairwise_mergeSort (le:=fun a b=>!decide (evLt (evI m b) (evI m a))) (fun a b c h1 h2=>by
   simp only[Bool.not_eq_true',decide_eq_false_iff_not] at h1 h2 ⊢;exact evLt_nt h1 h2) (fun a b=>by
   simp only[Bool.or_eq_true,Bool.not_eq_true',decide_eq_false_iff_not];rcases evLt_tri (evI m a) (evI m b) with h3 | h3 | h3
   .exact .inl fun h=>evLt_irr _ (evLt_trans h3 h)
   .exact .inl fun h=>by rw[h3] at h;exact evLt_irr _ h
   .exact .inr fun h=>evLt_irr _ (evLt_trans h3 h)) (outIx m s)
  exact h.imp fun h=>by simpa using h
 unfold mvS;rw[dif_pos hex];exact Classical.choose_spec hex
theorem fmap_some {α β:Type} {f:α->Option β}:∀ {l:List α},(∀i∈l,∃x,f i=some x)->l.map f=(l.filterMap f).map some
 | [],_=>rfl
 | a::l,h=>by
  obtain⟨x,hx⟩:=h a Yx;rw[Yyl,List.filterMap_cons,hx,Yyl,fmap_some fun i hi=>h i (Yn _ hi)]
noncomputable def rwS (m:Mch) (s:Nat):List Mv:=(mvS m (s:Int)).filterMap fun i=>m.mv[i]?
theorem rwS_map (m:Mch) (s:Nat):(mvS m (s:Int)).map (fun i=>m.mv[i]?)=(rwS m s).map some:=fmap_some fun i hi=>by
 obtain⟨x,hx,_⟩:=(mvS_ok m (s:Int) i).1 hi;exact⟨x,hx⟩
theorem rwS_len (m:Mch) (s:Nat):(rwS m s).length=(mvS m (s:Int)).length:=by
 have:=congrArg List.length (rwS_map m s);rw[Yc,Yc] at this;exact this.symm
theorem rwS_get {m:Mch} {s j i:Nat} {x:Mv} (h:(mvS m (s:Int))[j]?=some i) (hx:m.mv[i]?=some x):(rwS m s)[j]?=some x:=by
 have:=congrArg (fun l=>l[j]?) (rwS_map m s);simp only[Yd,h,Option.map_some,hx] at this;cases hr:(rwS m s)[j]? with
 | none=>rw[hr] at this;cases this
 | some y=>rw[hr] at this;simpa using this.symm
theorem rwS_of {m:Mch} {s j:Nat} {x:Mv} (h:(rwS m s)[j]?=some x):∃i,(mvS m (s:Int))[j]?=some i/\m.mv[i]?=some x/\x.f=(s:Int):=by
 have hj:=(Ya.1 h).1;rw[rwS_len] at hj;obtain⟨i,hi⟩:=get_some hj;obtain⟨y,hy,hyf⟩:=(mvS_ok m (s:Int) i).1 (Yb hi);have:=rwS_get hi hy;rw[h] at this;cases this;exact⟨i,hi,hy,hyf⟩
theorem rwS_mem {m:Mch} {s:Nat} {x:Mv}:x∈rwS m s ↔ x∈m.mv/\x.f=(s:Int):=by
 constructor
 .intro h;obtain⟨j,hj⟩:=Yf.1 h;obtain⟨i,_,h2,h3⟩:=rwS_of hj;exact⟨Yb h2,h3⟩
 .rintro⟨h1,h2⟩;obtain⟨i,hi⟩:=Yf.1 h1;have:=(mvS_ok m (s:Int) i).2 ⟨x,hi,h2⟩;obtain⟨j,hj⟩:=Yf.1 this;exact Yb (rwS_get hj hi)
theorem pair_get {α:Type} {R:α->α->Prop} {l:List α} (h:l.Pairwise R) {i j:Nat} {a b:α} (hij:i<j) (ha:l[i]?=some a) (hb:l[j]?=some b):R a b:=by
 obtain⟨h1,h2⟩:=Ya.1 ha;obtain⟨h3,h4⟩:=Ya.1 hb;rw[<-h2,<-h4];exact List.pairwise_iff_getElem.1 h i j h1 h3 hij
theorem pair_of {α:Type} {R:α->α->Prop} {l:List α} (h:∀(i j:Nat) a b,i<j->l[i]?=some a->l[j]?=some b->R a b):l.Pairwise R:=
 List.pairwise_iff_getElem.2 fun i j hi hj hij=>h i j _ _ hij (Yi hi) (Yi hj)
theorem rwS_lt {m:Mch} (hD:DetM m) (s:Nat):(rwS m s).Pairwise fun a b=>evLt a.ev b.ev:=pair_of fun i j a b hij ha hb=>by
 obtain⟨p,hp,hpa,hf⟩:=rwS_of ha;obtain⟨q,hq,hqb,hg⟩:=rwS_of hb;obtain⟨s1,s2⟩:=mvS_srt m (s:Int);have h1:=pair_get s2 hij hp hq;rw[evI_of hpa,evI_of hqb] at h1;have hnd:(mvS m (s:Int)).Nodup:=(s1.nodup_iff).2 (outIx_nodup m s);have hne:p≠q:=pair_get hnd hij hp hq;exact evLt_of h1 (hD p q a b hpa hqb hne (by rw[hf,hg])).1
noncomputable def srtV (m:Mch):List Mv:=(List.range m.n.toNat).flatMap (rwS m)
noncomputable def srtE (m:Mch) (t:To):To:=⟨t.s,t.k,(idxF (srtV m) (m.mv.getD t.e.toNat ⟨0,false,0,0,0,false⟩):Nat)⟩
noncomputable def srtM (m:Mch):Mch:=⟨m.role,m.n,m.s,m.fin,srtV m,m.li.map (srtE m)⟩
theorem srtV_mem {m:Mch} (hN:NumM m) {x:Mv}:x∈srtV m ↔ x∈m.mv:=by
 unfold srtV;rw[List.mem_flatMap];constructor
 .rintro⟨s,_,hs⟩;exact (rwS_mem.1 hs).1
 .intro h;have:=hN.mv x h;exact⟨x.f.toNat,List.mem_range.2 (by omega),rwS_mem.2 ⟨h,by omega⟩⟩
theorem srtV_lt {m:Mch} (hD:DetM m):(srtV m).Pairwise mvLt:=by
 unfold srtV;rw[List.pairwise_flatMap];refine⟨fun s hs=>List.Pairwise.imp_of_mem ?_ (rwS_lt hD s),?_⟩
 .intro a b ha hb hab;exact .inr ⟨by rw[(rwS_mem.1 ha).2,(rwS_mem.1 hb).2],hab⟩
 .refine List.Pairwise.imp ?_ (List.pairwise_lt_range (n:=m.n.toNat));intro i k hik x hx y hy;exact .inl (by rw[(rwS_mem.1 hx).2,(rwS_mem.1 hy).2];omega)
theorem li_lt {m:Mch} (hT:TimM m):m.li.Pairwise fun a b=>a.s<b.s:=by
 have key:∀(d i:Nat) (a b:To),m.li[i]?=some a->m.li[i+1+d]?=some b->a.s<b.s:=by
  intro d
  induction d with
  | zero=>exact fun i a b ha hb=>(hT (i+1) b hb).o a (by omega) ha
  | succ d ih=>
   intro i a b ha hb;have hl:=(Ya.1 hb).1;obtain⟨c,hc⟩:=get_some (l:=m.li) (i:=i+1+d) (by omega);have h1:=ih i a c ha hc;have h2:=(hT (i+1+(d+1)) b hb).o c (by omega) hc;omega
 exact pair_of fun i j a b hij ha hb=>key (j-i-1) i a b ha (by rw[show i+1+(j-i-1)=j by omega];exact hb)
theorem li_in {m:Mch} (hV:WM m) {t:To} (ht:t∈m.li):(1<=t.k/\t.k<=1000)/\∃y,m.mv[t.e.toNat]?=some y/\y.f=t.s/\y.send=true/\y.ag=false/\0<=t.s/\t.s<m.n/\(srtV m)[(srtE m t).e.toNat]?=some y:=by
 obtain⟨i,hi⟩:=Yf.1 ht;have h:=hV.t i t hi;obtain⟨_,y,hy,h1,h2,h3⟩:=h.e;have hym:=Yb hy;have hyr:=hV.n.mv y hym;refine⟨h.k,y,hy,h1,h2,h3,by omega,by omega,?_⟩;show (srtV m)[Int.toNat ((idxF (srtV m) (m.mv.getD t.e.toNat ⟨0,false,0,0,0,false⟩):Nat):Int)]?=some y;rw[getD_some hy,Ys];exact idxF_get ((srtV_mem hV.n).2 hym)
theorem li_len {m:Mch} (hV:WM m):m.li.length<=200:=by
 have hn:=hV.n.n;have h1:=nodup_le 200 (m.li.map fun t=>t.s.toNat) ?_ ?_
 .rwa [Yc] at h1
 .rw[List.nodup_iff_pairwise_ne,List.pairwise_map];refine List.Pairwise.imp_of_mem ?_ (li_lt hV.t);intro a b ha hb hab;obtain⟨_,_,_,_,_,_,ha0,_⟩:=li_in hV ha;obtain⟨_,_,_,_,_,_,hb0,_⟩:=li_in hV hb;omega
 .intro x hx;obtain⟨t,ht,rfl⟩:=Yp.1 hx;obtain⟨_,_,_,_,_,_,ha0,ha1,_⟩:=li_in hV ht;omega
theorem srtM_raw {m:Mch} (hV:WM m):MRaw (srtM m):=by
 have hN:=hV.n;have hn:=hN.n;have hlen:(srtV m).length<=m.mv.length:=by
  refine List.Nodup.length_le_of_subset ?_ fun x hx=>(srtV_mem hN).1 hx;exact (srtV_lt hV.d).imp fun {a b} hab (e:a=b)=>mvLt_irr b (by rw[e] at hab;exact hab)
 refine⟨⟨hn,hN.s,by show m.fin.length=m.n.toNat;have:=hN.fl;omega,Yys hlen hN.ml,by show (m.li.map (srtE m)).length<=_;rw[Yc];have:=li_len hV;omega,fun x hx=>?_,fun t ht=>?_⟩,srtV_lt hV.d,fun t ht=>?_,?_⟩
 .have:=hN.mv x ((srtV_mem hN).1 hx);show 0<=x.f/\x.f<m.n/\0<=x.t/\x.t<m.n/\_;omega
 .obtain⟨t,ht2,rfl⟩:=Yp.1 ht;obtain⟨hk,y,_,_,_,_,h0,h1,h2⟩:=li_in hV ht2;have:=(Ya.1 h2).1;have e1:(srtE m t).s=t.s:=rfl;have e2:(srtE m t).k=t.k:=rfl;have e3:0<=(srtE m t).e:=Int.natCast_nonneg _;refine⟨by rw[e1];exact h0,by rw[e1];exact h1,e3,?_,by rw[e2];omega⟩;show (srtE m t).e<((srtV m).length:Int);omega
 .obtain⟨t,ht2,rfl⟩:=Yp.1 ht;obtain⟨_,y,_,h1,_,_,_,_,h2⟩:=li_in hV ht2;exact⟨y,h2,h1⟩
 .show ((m.li.map (srtE m)).map (·.s)).Nodup;rw[List.map_map,List.nodup_iff_pairwise_ne,List.pairwise_map];exact (li_lt hV.t).imp fun {a b} hab=>by show a.s≠b.s;omega
theorem outM_srt {m:Mch} {s:Nat} (hs:s<m.n.toNat):outM (srtM m) s=rwS m s:=by
 have:=flat_filter (rows:=rwS m) (fun k y hy=>(rwS_mem.1 hy).2) s m.n.toNat;rw[if_pos hs] at this;exact this
def limT (m:Mch) (s:Int):Option To:=m.li.find? fun t=>decide (t.s=s)
theorem filter_one {α:Type} {p:α->Bool}:∀ {l:List α},(l.Pairwise fun a b=>¬(p a=true/\p b=true))->l.filter p=(l.find? p).toList
 | [],_=>rfl
 | a::l,h=>by
  rw[List.pairwise_cons] at h;rw[List.find?_cons];cases hp:p a with
  | true=>
   rw[List.filter_cons_of_pos hp];have:l.filter p=[]:=List.filter_eq_nil_iff.2 fun b hb hpb=>h.1 b hb ⟨hp,hpb⟩;rw[this];rfl
  | false=>
   rw[List.filter_cons_of_neg (by rw[hp];simp)];exact filter_one h.2
theorem limT_filter {m:Mch} (hT:TimM m) (s:Int):(m.li.filter fun t=>decide (t.s=s))=(limT m s).toList:=
 filter_one ((li_lt hT).imp fun {a b} hab h=>by
  have h1:=Yyn h.1;have h2:=Yyn h.2;omega)
theorem limT_mem {m:Mch} {s:Int} {t:To} (h:limT m s=some t):t∈m.li/\t.s=s:=⟨List.mem_of_find?_eq_some h,Yyn (p:=t.s=s) (by have:=List.find?_some (p:=fun t:To=>decide (t.s=s)) h;exact this)⟩
theorem srt_filter {m:Mch} (hT:TimM m) (s:Int):((srtM m).li.filter fun t=>decide (t.s=s))=((limT m s).map (srtE m)).toList:=by
 show (m.li.map (srtE m)).filter _=_;rw[List.filter_map];have e:((fun t:To=>decide (t.s=s))∘srtE m)=fun t:To=>decide (t.s=s):=rfl;rw[e,limT_filter hT];cases limT m s<;>rfl
theorem lim_srt {m:Mch} (hT:TimM m) (s:Int):mget (limM (srtM m).li) s=(limT m s).map (srtE m):=by
 rw[limM_get,srt_filter hT];cases limT m s<;>rfl
/-! ### what tells states apart, al the table tells it -/
def sgT (m:Mch) (s:Nat):Sg:=match limT m (s:Int) with
 | some t=>⟨0,1,evI m t.e.toNat,false,t.k⟩
 | none=>⟨0,1,ev0,false,0⟩
noncomputable def keyT (m:Mch) (C:List Nat) (s:Nat):List Sg:=((rwS m s).map (sgM C)).reverse++[sgT m s,sgB C m.fin s]
noncomputable def clsT (m:Mch) (C:List Nat):List (List Sg):=(List.range m.n.toNat).map (keyT m C)
theorem sgL_srt {m:Mch} (hV:WM m) {t:To} (ht:t∈m.li):sgL (srtM m).mv (srtE m t)=⟨0,1,evI m t.e.toNat,false,t.k⟩:=by
 obtain⟨_,y,hy,_,_,_,_,_,h2⟩:=li_in hV ht;unfold sgL;rw[show (srtM m).mv=srtV m from rfl,h2,evI_of hy];rfl
theorem keyT_iff {m:Mch} (hV:WM m) {C:List Nat} {x y:Nat} (hx:x<m.n.toNat) (hy:y<m.n.toNat):keyT m C x=keyT m C y ↔ keyS (srtM m) C x=keyS (srtM m) C y:=by
 have hl:∀s:Nat,((srtM m).li.filter fun t=>t.s=(s:Int)).map (sgL (srtM m).mv)=match limT m (s:Int) with | some t=>[⟨0,1,evI m t.e.toNat,false,t.k⟩] | none=>[]:=fun s=>by
  rw[srt_filter hV.t];cases hs:limT m (s:Int) with
  | none=>rfl
  | some t=>
   show [sgL (srtM m).mv (srtE m t)]=_;rw[sgL_srt hV (limT_mem hs).1]
 have ht:sgT m x=sgT m y ↔ ((srtM m).li.filter fun t=>t.s=(x:Int)).map (sgL (srtM m).mv)=((srtM m).li.filter fun t=>t.s=(y:Int)).map (sgL (srtM m).mv):=by
  rw[hl,hl];unfold sgT;cases h1:limT m (x:Int) with
  | none=>
   cases h2:limT m (y:Int) with
   | none=>exact iff_of_true rfl rfl
   | some t=>
    have:=(li_in hV (limT_mem h2).1).1;refine iff_of_false (fun e=>?_) (fun e=>by cases e);have:=congrArg Sg.num e;have:(0:Int)=t.k:=this;omega
  | some t=>
   cases h2:limT m (y:Int) with
   | none=>
    have:=(li_in hV (limT_mem h1).1).1;refine iff_of_false (fun e=>?_) (fun e=>by cases e);have:=congrArg Sg.num e;have:t.k=(0:Int):=this;omega
   | some t'=>exact⟨fun e=>congrArg (fun z=>[z]) e,fun e=>(List.cons.inj e).1⟩
 constructor
 .intro h;unfold keyT at h;obtain⟨h1,h2⟩:=List.append_inj' h rfl;have h1:=List.reverse_inj.1 h1;simp only[List.cons.injEq,and_true] at h2;refine keyS_mk ?_ (ht.1 h2.1) h2.2;rw[outM_srt hx,outM_srt hy];exact h1
 .intro h;obtain⟨h1,h2,h3⟩:=keyS_parts h;rw[outM_srt hx,outM_srt hy] at h1;have h3:sgB C m.fin x=sgB C m.fin y:=h3;unfold keyT;rw[h1,ht.2 h2,h3]
def tmK (m:Mch) (s:Int):Int:=match limT m s with | some t=>t.k | none=>0
def tmE (m:Mch) (s:Int):Ev:=match limT m s with | some t=>evI m t.e.toNat | none=>ev0
theorem map_natV_put {A:List Nat} {n i c:Nat} (hA:A.length=i) (hi:i<n):splice ((A++List.replicate (n-i) 0).map natV) i [natV c]=(A++[c]++List.replicate (n-(i+1)) 0).map natV:=by
 have hl:(A++List.replicate (n-i) 0).length=n:=by rw[Yh,Yg];omega
 rw[map_splice natV (by omega)];congr 1;subst hA;rw[List.set_append_right _ _ (Yyt _),Nat.sub_self,show n-A.length=(n-(A.length+1))+1 by omega,List.replicate_succ,List.set_cons_zero,Yz];rfl
theorem minX_tm {m:Mch} (hV:WM m) (C:List Nat) (hd s:Nat) (st:List Nat × List Mv × List To) (x:Mv) :
  minX (srtM m) C hd (mget (limM (srtM m).li) (s:Int)) st x=(addQ st.1 (C.getD x.t.toNat 0),st.2.1++[⟨hd,x.send,x.peer,x.label,(idxF (addQ st.1 (C.getD x.t.toNat 0)) (C.getD x.t.toNat 0):Nat),x.ag⟩],st.2.2++if 0<tmK m s/\x.ev=tmE m s then [⟨hd,tmK m s,(st.2.1.length:Nat)⟩] else []):=by
 rw[lim_srt hV.t];unfold tmK tmE;cases hl:limT m (s:Int) with
 | none=>
  show (_,_,st.2.2++[])=_;have:¬(0<(0:Int)/\x.ev=ev0):=by omega
  show _=(_,_,st.2.2++if 0<(0:Int)/\x.ev=ev0 then _ else []);rw[if_neg this]
 | some t=>
  obtain⟨hk,y,hy,_,_,_,_,_,h2⟩:=li_in hV (limT_mem hl).1;have ev:evI m t.e.toNat=y.ev:=evI_of hy;show (_,_,st.2.2++match (srtV m)[(srtE m t).e.toNat]? with | some y=>if x.ev=y.ev then [_] else [] | none=>[])=(_,_,st.2.2++if 0<t.k/\x.ev=evI m t.e.toNat then [⟨hd,t.k,(st.2.1.length:Nat)⟩] else []);rw[h2,ev];by_cases e:x.ev=y.ev
  .rw[if_pos ⟨by omega,e⟩];show (_,_,st.2.2++if x.ev=y.ev then _ else _)=_;rw[if_pos e];rfl
  .rw[if_neg fun h=>e h.2];show (_,_,st.2.2++if x.ev=y.ev then _ else _)=_;rw[if_neg e]
noncomputable def canN (m:Mch):Mch:=minN (srtM m) (List.range m.n.toNat) 202 0 [m.s.toNat] [] [] []
theorem idxF_first {K:Type} [DecidableEq K]:∀ {L:List K} {i:Nat} {c:K},L[i]?=some c->c∉L.take i->idxF L c=i
 | [],_,_,h,_=>by simp at h
 | a::L,0,c,h,_=>by
  rw[List.getElem?_cons_zero] at h;rw[idxF,if_pos (Yyp h)]
 | a::L,i+1,c,h,hn=>by
  rw[List.getElem?_cons_succ] at h;rw[List.take_succ_cons,Yr,not_or] at hn;rw[idxF,if_neg fun e=>hn.1 e.symm,idxF_first h hn.2]
theorem idxF_app {Q:List Nat} {c:Nat} (h:c∉Q):idxF (Q++[c]) c=Q.length:=
 idxF_first (by rw[Yyc (Yyt _),Nat.sub_self];rfl) (by rw[Yyq (Yyt _),Yye];exact h)
theorem idxF_range {n s:Nat} (h:s<n):idxF (List.range n) s=s:=by
 have h1:=idxF_get (List.mem_range.2 h);have h2:=idxF_lt (List.mem_range.2 h);rw[Yyd] at h2;rw[Yyb h2] at h1;exact Yyp h1
theorem index137 (q:Sl) (L:List Nat) (c:Nat) (h:Heap) (hR:Rw h 1 q ((natI L).map inC)) (hl:L.length<=1048576) :
  Fn Pz 131 #[.slice q.a q.n q.c,.int .i64 (c:Nat)] h fun v h'=>v=.int .i64 (if c∈L then (idxF L c:Int) else -1)/\h'=h:=by
 apply vc131 q c;unfold W131;have hn:=hR.ln;rw[show (natI L).length=L.length from Yc _] at hn;refine⟨fun x h' μ=>∃i:Nat,x=(i:Int)/\μ=L.length-i/\i<=L.length/\h'=h/\c∉L.take i,⟨_,0,rfl,rfl,Nat.zero_le _,rfl,by rw[Yyk];exact List.not_mem_nil⟩,?_⟩;rintro-_ h5 μ ⟨i,rfl,rfl,hi,rfl,hc⟩;refine sBi (fun c1=>?_) (fun c1=>?_)
 .refine hR.nbI (by omega) (by omega) fun b6 o7 d g6 t6=>?_;rw[Ys] at g6;obtain⟨c',gc,rfl⟩:=natI_get g6;refine⟨_,t6.hd,sBe (fun c2=>?_) (fun c2=>?_)⟩
  .have e:c'=c:=by omega
   subst e;rw[if_pos (Yb gc),idxF_first gc hc];exact⟨rfl,rfl⟩
  .refine⟨_,(show L.length-(i+1)<L.length-i by omega),i+1,by rw[w64 (by omega) (by omega)];omega,rfl,by omega,rfl,fun hm=>?_⟩;rw[take_snoc gc,Yk,Ye] at hm;rcases hm with hm | hm
   .exact hc hm
   .omega
 .have hiL:i=L.length:=by omega
  subst hiL;rw[Yye] at hc;rw[if_neg hc];exact⟨rfl,rfl⟩
theorem limI_some {m:Mch} {s:Int} {i:Nat} (h:limI m.li s=some i):∃t,m.li[i]?=some t/\limT m s=some t:=by
 unfold limI at h;rw[List.findIdx?_eq_some_iff_getElem] at h;obtain⟨hi,h1,h2⟩:=h;refine⟨m.li[i],Yi hi,?_⟩;unfold limT;rw[List.find?_eq_some_iff_getElem];exact⟨h1,i,hi,rfl,fun j hj=>by have:=h2 j hj;simpa using this⟩
theorem limI_none26 {m:Mch} {s:Int} (h:limI m.li s=none):limT m s=none:=by
 unfold limI at h;rw[List.findIdx?_eq_none_iff] at h;exact List.find?_eq_none.2 fun t ht=>by simpa using h t ht
def caA (xb ob pb:Nat) (m:Mch) (sf sm sl q ofn omv oli:Sl) (Q:List Nat) (fin:List Bool) (mv:List Mv) (li:List To):List It:=
 [.blk xb [.int .i64 m.role,.int .i64 0,.int .i64 0,.slice ofn.a ofn.n ofn.c,.slice omv.a omv.n omv.c,.slice oli.a oli.n oli.c] 33,.sl q 3 1 ((natI Q).map inC),.sl ofn 4 1 (fin.map bC),.sl omv 45 6 (mv.map Mv.cs),.sl oli 63 3 (li.map To.cs),.blk ob m0 33,.blk pb (mC m sf sm sl) 33]
theorem canonical76 (m:Mch) (sf sm sl:Sl) (h:Heap) (hM:MI h m sf sm sl) (hV:WM m) :
  Fn Pz 75 #[.agg ⟨mC m sf sm sl⟩] h fun v h'=>∃sf' sm' sl':Sl,v=.agg ⟨mC (canN m) sf' sm' sl'⟩/\St h h' (mL (canN m) sf' sm' sl'):=by
 apply vc75 m.role m.n m.s sf sm sl;unfold W75;have hn:=hV.n.n;have hms:=hV.n.s;have hfl:=hV.n.fl;have hml:=hV.n.ml;have hll:=li_len hV;have hmn:=hM.pm.ln;have hfn:=hM.pf.ln;have hln:=hM.pl.ln;have hsn:((m.s.toNat:Nat):Int)=m.s:=by omega
 refine (St.refl h).newb fun h7 hs=>?_;refine hs.newb fun h8 hs=>?_;refine⟨m.s,hs.rd 1 rfl (i:=2) rfl,?_⟩;refine hs.newb fun h10 hs=>?_;have hs:=hs.blkS 1 1 ((natI [m.s.toNat]).map inC) (by show [Value.int .i64 m.s]=[Value.int .i64 ((m.s.toNat:Nat):Int)];rw[hsn]) (inrows _) rfl (by decide);refine⟨m.role,hs.rd 2 rfl (i:=0) rfl,?_⟩;refine hs.newput (vs:=[.int .i64 m.role,.int .i64 0,.int .i64 0,.slice none 0 0,.slice none 0 0,.slice none 0 0]) rfl rfl fun h13 hs=>?_;have hs:St h h13 (caA h10.size h7.size h.size m sf sm sl ⟨some ⟨h8.size,0,none⟩,1,1⟩ ⟨none,0,0⟩ ⟨none,0,0⟩ ⟨none,0,0⟩ [m.s.toNat] [] [] []):=
  (((hs.nil_ 63 3).nil_ 45 6).nil_ 4 1).perm (List.Perm.append_right [_,_] (List.perm_append_comm (l₁:=[_,_,_]) (l₂:=[_,_])))
 have hq0:QOk [m.s.toNat] m.n.toNat:=⟨by simp,fun c hc=>by rw[Ye] at hc;omega⟩;refine⟨fun q x h' μ=>∃(i:Nat) (ofn omv oli:Sl) (Q:List Nat) (fin:List Bool) (mv:List Mv) (li:List To),x=(i:Int)/\μ=m.n.toNat-i/\i<=Q.length /\
   St h h' (caA h10.size h7.size h.size m sf sm sl q ofn omv oli Q fin mv li)/\QOk Q m.n.toNat/\mv.length<=i*400/\li.length<=i*400/\fin.length=i/\minN (srtM m) (List.range m.n.toNat) (202-i) i Q fin mv li=canN m,
   ⟨_,0,_,_,_,_,_,_,_,rfl,rfl,by omega,hs,hq0,by decide,by decide,rfl,rfl⟩,?_⟩
 clear hs hq0;rintro-q _ h19 μ ⟨i,ofn,omv,oli,Q,fin,mv,li,rfl,rfl,hiQ,hs,hQ,hmvl,hlil,hfinl,hmin⟩;have hqn:=(hs.rows 1 (s:=q) (cs:=inC) rfl (by omega)).ln;rw[show (natI Q).length=Q.length from Yc _] at hqn;have hQl:=hQ.le;refine sBi (fun c4=>?_) (fun c4=>?_)
 .obtain⟨s,hsQ⟩:=get_some (l:=Q) (i:=i) (by omega);have hsb:=hQ.lt s (Yb hsQ);have hiQ1:i<Q.length/\Q.length<=m.n.toNat:=by omega
  refine (hs.rows 1 (s:=q) (cs:=inC) rfl (by omega)).nbI (by omega) (by omega) fun b20 o21 d20 g20 t20=>?_;rw[Ys] at g20;obtain⟨s',gc',rfl⟩:=natI_get g20;rw[hsQ] at gc';cases gc';refine⟨_,t20.hd,ofn,hs.rd 0 rfl (i:=3) rfl,sf,hs.rd 6 rfl (i:=3) rfl,?_⟩;rw[show 202-i=(202-(i+1))+1 by omega,minN,hsQ] at hmin;replace hmin:minN (srtM m) (List.range m.n.toNat) (202-(i+1)) (i+1) ((outM (srtM m) (idxF (List.range m.n.toNat) s)).foldl (minX (srtM m) (List.range m.n.toNat) i (mget (limM (srtM m).li) (idxF (List.range m.n.toNat) s:Nat))) (Q,mv,li)).1 (fin++[m.fin.getD (idxF (List.range m.n.toNat) s) false])
   ((outM (srtM m) (idxF (List.range m.n.toNat) s)).foldl (minX (srtM m) (List.range m.n.toNat) i (mget (limM (srtM m).li) (idxF (List.range m.n.toNat) s:Nat))) (Q,mv,li)).2.1 ((outM (srtM m) (idxF (List.range m.n.toNat) s)).foldl (minX (srtM m) (List.range m.n.toNat) i (mget (limM (srtM m).li) (idxF (List.range m.n.toNat) s:Nat))) (Q,mv,li)).2.2=canN m:=hmin
  rw[idxF_range hsb,outM_srt hsb] at hmin;have hofn:=(hs.rows 2 (s:=ofn) (cs:=bC) rfl (by omega)).ln;refine (hM.pf.rw.ext hs.ext).nbI (by omega) (by omega) fun b25 o26 bf g25 t25=>?_;rw[Ys] at g25;replace g25:m.fin[s]?=some bf:=g25;rw[getD_some g25] at hmin;refine⟨_,t25.hd,?_⟩;refine hs.newbE fun h28 E28 hs=>⟨E28.sm,?_⟩;refine hs.appended 3 (rows:=fin.map bC) rfl app30 (m:=1) (news:=[bC bf]) (hs.at 0 rfl (n:=1) rfl) rfl (fun r hr=>by rw[Ye] at hr;rw[hr];rfl) rfl (by omega) (by simp only[maxLen];omega) fun s29 h30 n29 hs=>?_;refine hs.put 1 rfl (o:=3) (vs:=[.slice s29.a s29.n s29.c]) rfl (show 4<=6 by decide) fun h31 hs=>?_;have hs:St h h31 (caA h10.size h7.size h.size m sf sm sl q s29 omv oli Q (fin++[bf]) mv li):=by
   unfold caA;rw[Ym (l₁:=fin)];exact hs.drop 1
  refine⟨_,_,_,sf,sm,sl,hs.at 6 rfl (o:=0) (n:=6) rfl,?_⟩;refine (refOut62S m sf sm sl s h31 (hM.ext hs.ext)).mono ?_;rintro _ h40 ⟨r,O,rfl,hO,hP,hSo⟩;have hs:St h h40 (.sl r 3 1 ((natI O).map inC)::caA h10.size h7.size h.size m sf sm sl q s29 omv oli Q (fin++[bf]) mv li):=(hs.join hO).perm (List.perm_append_comm (l₂:=[_]));clear hO;have hS:mvS m (s:Int)=O:=mvS_eq hV.d hP hSo;have hrn:=(hs.rows 0 (s:=r) (cs:=inC) rfl (by omega)).ln;rw[show (natI O).length=O.length from Yc _] at hrn;have hrl:(rwS m s).length=O.length:=by rw[rwS_len,hS]
  have hSl:O.length<=400:=by
   rw[hP.length_eq];unfold outIx;exact Yys (List.length_filter_le _ _) (by rw[Yyd];exact hml)
  refine⟨r,rfl,_,_,_,sf,sm,sl,hs.at 7 rfl (o:=0) (n:=6) rfl,?_⟩;refine (limit48 m sf sm sl s h40 (hM.ext hs.ext)).mono ?_;rintro _ h49 ⟨rfl,E49⟩;have hs:=hs.step E49;generalize hlo:limI m.li (s:Int)=lo;refine⟨_,rfl,?_⟩;refine⟨fun q x h' μ=>∃(j:Nat) (omv oli:Sl) (Q2:List Nat) (mv2:List Mv) (li2:List To),x=(j:Int)/\μ=O.length-j/\j<=O.length /\
    St h h' (.sl r 3 1 ((natI O).map inC)::caA h10.size h7.size h.size m sf sm sl q s29 omv oli Q2 (fin++[bf]) mv2 li2)/\QOk Q2 m.n.toNat/\mv2.length<=mv.length+j/\li2.length<=li.length+j/\Q.length<=Q2.length/\((rwS m s).take j).foldl (minX (srtM m) (List.range m.n.toNat) i (mget (limM (srtM m).li) (s:Nat))) (Q,mv,li)=(Q2,mv2,li2),
    ⟨_,0,omv,oli,Q,mv,li,rfl,rfl,by omega,hs,hQ,by omega,by omega,by omega,rfl⟩,?_⟩
  clear hs hQ hqn hofn hQl c4;rintro-q2 _ h55 μ ⟨j,omv2,oli2,Q2,mv2,li2,rfl,rfl,hj,hs,hQ,hmv2,hli2,hQ2,hfold⟩;have hqn2:=(hs.rows 2 (s:=q2) (cs:=inC) rfl (by omega)).ln;rw[show (natI Q2).length=Q2.length from Yc _] at hqn2;have hQ2l:=hQ.le;refine sBi (fun c5=>?_) (fun c5=>?_)
  .obtain⟨jn,hjn⟩:=get_some (l:=O) (i:=j) (by omega);obtain⟨x,hx,hxf⟩:=(mvS_ok m (s:Int) jn).1 (by rw[hS];exact Yb hjn);have hxl:=(Ya.1 hx).1;have hxr:=hV.n.mv x (Yb hx);have hrj:(rwS m s)[j]?=some x:=rwS_get (by rw[hS];exact hjn) hx;have hxt:((x.t.toNat:Nat):Int)=x.t:=by omega
   have hxn:x.t.toNat<m.n.toNat:=by omega
   refine⟨sm,hs.rd 7 rfl (i:=4) rfl,?_⟩;refine (hs.rows 0 (s:=r) (cs:=inC) rfl (by omega)).nbI (by omega) (by omega) fun b57 o58 d gd t57=>?_;replace gd:(natI O)[j]?=some d:=gd;obtain⟨jn',hjn',rfl⟩:=natI_get gd;rw[hjn] at hjn';cases hjn';refine⟨_,t57.hd,?_⟩;refine (hM.pm.rw.ext hs.ext).nbI (by omega) (by omega) fun b60 o61 x' gx t60=>?_;replace gx:m.mv[jn]?=some x':=gx;rw[hx] at gx;cases gx;refine⟨_,_,_,_,_,_,t60,?_⟩;refine hs.newbE fun h68 E68 hs=>⟨E68.sm,?_⟩;refine hs.put 0 rfl (o:=0) (vs:=x.cs) rfl (show 6<=6 by decide) fun h69 hs=>?_;have hs:St h h69 (.blk h55.size x.cs 45 :: .sl r 3 1 ((natI O).map inC)::caA h10.size h7.size h.size m sf sm sl q2 s29 omv2 oli2 Q2 (fin++[bf]) mv2 li2):=hs;refine⟨_,hs.rd 0 rfl (i:=4) rfl,?_⟩;have hix:=index137 q2 Q2 x.t.toNat h69 (hs.rows 3 (s:=q2) (cs:=inC) rfl (by omega)) (by omega);rw[hxt] at hix;refine hix.mono ?_;rintro _ h73 ⟨rfl,rfl⟩;refine⟨_,rfl,?_⟩;refine⟨fun q' n' h'=>n'=((idxF (addQ Q2 x.t.toNat) x.t.toNat:Nat):Int)/\St h h' (.blk h55.size x.cs 45 :: .sl r 3 1 ((natI O).map inC)::caA h10.size h7.size h.size m sf sm sl q' s29 omv2 oli2 (addQ Q2 x.t.toNat) (fin++[bf]) mv2 li2),?_,?_⟩
   .by_cases hm:x.t.toNat∈Q2
    .have ea:addQ Q2 x.t.toNat=Q2:=by unfold addQ;rw[if_pos hm]
     rw[if_pos hm,ea];refine sB_f (decide_eq_false (by omega)) ?_;exact⟨rfl,hs⟩
    .have ea:addQ Q2 x.t.toNat=Q2++[x.t.toNat]:=by unfold addQ;rw[if_neg hm]
     rw[if_neg hm,ea];refine sB_t (decide_eq_true (by decide)) ?_;refine⟨_,hs.rd 0 rfl (i:=4) rfl,?_⟩;refine hs.app 3 rfl app42 (m:=1) [[.int .i64 x.t]] rfl rfl (by simp) rfl (by omega) (by simp only[maxLen];omega) fun s77 h78 n77 hs=>?_;refine⟨by rw[idxF_app hm];omega,?_⟩;unfold caA;rw[natI_snoc,Ym (l₁:=natI Q2),show List.map inC [((x.t.toNat:Nat):Int)]=[[.int .i64 x.t]] from by rw[hxt];rfl];exact hs
   .rintro-q3 n3 h81 ⟨rfl,hs⟩;have hmx:=minX_tm hV (List.range m.n.toNat) i s (Q2,mv2,li2) x;rw[getD_some (Yyb hxn)] at hmx;have homv:=(hs.rows 5 (s:=omv2) (cs:=Mv.cs) rfl (by omega)).ln;have holi:=(hs.rows 6 (s:=oli2) (cs:=To.cs) rfl (by omega)).ln;replace hmx:minX (srtM m) (List.range m.n.toNat) i (mget (limM (srtM m).li) (s:Int)) (Q2,mv2,li2) x=(addQ Q2 x.t.toNat,mv2++[⟨(i:Nat),x.send,x.peer,x.label,(idxF (addQ Q2 x.t.toNat) x.t.toNat:Nat),x.ag⟩],li2++if 0<tmK m s/\x.ev=tmE m s then [⟨(i:Nat),tmK m s,(mv2.length:Nat)⟩] else []):=hmx;have hlm2:=(minX_len (srtM m) (List.range m.n.toNat) i (mget (limM (srtM m).li) (s:Int)) (Q2,mv2,li2) x).2;rw[hmx] at hlm2;generalize hLI:(li2++if 0<tmK m s/\x.ev=tmE m s then [⟨(i:Nat),tmK m s,(mv2.length:Nat)⟩] else [])=LI at *;replace hlm2:LI.length<=li2.length+1:=hlm2;refine⟨fun h'=>∃oli',St h h' (.blk h55.size x.cs 45 :: .sl r 3 1 ((natI O).map inC)::caA h10.size h7.size h.size m sf sm sl q3 s29 omv2 oli' (addQ Q2 x.t.toNat) (fin++[bf]) mv2 LI),?_,?_⟩
    .have hJ:∀ {h':Heap},St h h' (.blk h55.size x.cs 45 :: .sl r 3 1 ((natI O).map inC)::caA h10.size h7.size h.size m sf sm sl q3 s29 omv2 oli2 (addQ Q2 x.t.toNat) (fin++[bf]) mv2 li2)->¬(0<tmK m s/\x.ev=tmE m s)->∃oli',St h h' (.blk h55.size x.cs 45 :: .sl r 3 1 ((natI O).map inC)::caA h10.size h7.size h.size m sf sm sl q3 s29 omv2 oli' (addQ Q2 x.t.toNat) (fin++[bf]) mv2 LI):=fun {h'} hs e=>by
      rw[if_neg e,Yw] at hLI;rw[<-hLI];exact⟨oli2,hs⟩
     cases lo with
     | none=>
      refine sB_f (decide_eq_false (show ¬((-1:Int)>=0) by omega)) (hJ hs fun e=>?_);have:tmK m s=0:=by unfold tmK;rw[limI_none26 hlo]
      omega
     | some ti=>
      obtain⟨t,hti,hlt⟩:=limI_some hlo;have htl:=(Ya.1 hti).1;obtain⟨h0,y,hy,hyf,_,_⟩:=(hV.t ti t hti).e;have htk:=(hV.t ti t hti).k;have htK:tmK m s=t.k:=by unfold tmK;rw[hlt]
      have htE:tmE m s=y.ev:=by unfold tmE;rw[hlt];exact evI_of hy
      have hts:=(limT_mem hlt).2;refine sB_t (decide_eq_true (show ((ti:Nat):Int)>=0 by omega)) ?_;refine⟨sl,hs.rd 8 rfl (i:=5) rfl,?_⟩;refine (hM.pl.rw.ext hs.ext).nbI (by show (0:Int)<=(ti:Nat);omega) (by show ((ti:Nat):Int)<(sl.n:Nat);omega) fun b84 o85 t' g84 t84=>?_;replace g84:m.li[ti]?=some t':=g84;rw[hti] at g84;cases g84;refine⟨t.e,t84.nth 2 rfl,?_⟩;refine (hs.rows 1 (s:=r) (cs:=inC) rfl (by omega)).nbI (by omega) (by omega) fun b87 o88 d gd t87=>?_;replace gd:(natI O)[j]?=some d:=gd;obtain⟨jn',hjn',rfl⟩:=natI_get gd;rw[hjn] at hjn';cases hjn';refine⟨_,t87.hd,sBe (fun c6=>?_) (fun c6=>hJ hs fun e=>?_)⟩
      .have e:t.e.toNat=jn:=by omega
       rw[e,hx] at hy;cases hy;refine⟨oli2,hs.rd 2 rfl (i:=5) rfl,sl,hs.rd 8 rfl (i:=5) rfl,?_⟩;refine (hM.pl.rw.ext hs.ext).nbI (by show (0:Int)<=(ti:Nat);omega) (by show ((ti:Nat):Int)<(sl.n:Nat);omega) fun b92 o93 t' g92 t92=>?_;replace g92:m.li[ti]?=some t':=g92;rw[hti] at g92;cases g92;refine⟨t.k,t92.nth 1 rfl,omv2,hs.rd 2 rfl (i:=4) rfl,?_⟩;refine hs.newbE fun h96 E96 hs=>⟨E96.sm,?_⟩;refine hs.appended 7 (rows:=li2.map To.cs) rfl app25 (m:=1) (news:=[To.cs ⟨(i:Nat),t.k,(omv2.n:Nat)⟩]) (hs.at 0 rfl (n:=3) rfl) rfl (fun r hr=>by rw[Ye] at hr;rw[hr];rfl) rfl (by omega) (by simp only[maxLen];omega) fun s97 h98 n97 hs=>?_;refine hs.put 3 rfl (o:=5) (vs:=[.slice s97.a s97.n s97.c]) rfl (show 6<=6 by decide) fun h99 hs=>?_;refine⟨s97,?_⟩;rw[if_pos ⟨by omega,htE.symm⟩,htK,<-homv] at hLI;rw[<-hLI];unfold caA;rw[Ym (l₁:=li2)];exact hs.drop 1
      .rw[htE] at e;have hne:t.e.toNat≠jn:=by omega
       exact (hV.d t.e.toNat jn y x hy hx hne (by rw[hyf,hts,hxf])).1 e.2.symm
    .rintro-h100 ⟨oli',hs⟩;refine⟨omv2,hs.rd 2 rfl (i:=4) rfl,_,hs.rd 0 rfl (i:=1) rfl,_,hs.rd 0 rfl (i:=2) rfl,_,hs.rd 0 rfl (i:=3) rfl,_,hs.rd 0 rfl (i:=5) rfl,?_⟩;refine hs.app 5 rfl app31 (m:=1) [Mv.cs ⟨(i:Nat),x.send,x.peer,x.label,(idxF (addQ Q2 x.t.toNat) x.t.toNat:Nat),x.ag⟩] rfl rfl (fun r hr=>by rw[Ye] at hr;rw[hr];rfl) rfl (by omega) (by simp only[maxLen];omega) fun s107 h108 n107 hs=>?_;refine hs.put 2 rfl (o:=4) (vs:=[.slice s107.a s107.n s107.c]) rfl (show 5<=6 by decide) fun h109 hs=>?_;have hlm:(mv2++[(⟨(i:Nat),x.send,x.peer,x.label,(idxF (addQ Q2 x.t.toNat) x.t.toNat:Nat),x.ag⟩:Mv)]).length=mv2.length+1:=by simp
     refine⟨_,(show O.length-(j+1)<O.length-j by omega),j+1,s107,oli',addQ Q2 x.t.toNat,mv2++[⟨(i:Nat),x.send,x.peer,x.label,(idxF (addQ Q2 x.t.toNat) x.t.toNat:Nat),x.ag⟩],LI,by rw[w64 (by omega) (by omega)];omega,rfl,by omega,?_,hQ.add hxn,by omega,by omega,Yys hQ2 addQ_len,?_⟩
     .unfold caA;rw[Ym (l₁:=mv2)];exact hs.drop 1
     .rw[foldl_snoc hrj,hfold];exact hmx
  .have hjn:j=(rwS m s).length:=by omega
   subst hjn;rw[Yye] at hfold;rw[hfold] at hmin;exact⟨_,(show m.n.toNat-(i+1)<m.n.toNat-i by omega),i+1,s29,omv2,oli2,Q2,fin++[bf],mv2,li2,by rw[w64 (by omega) (by omega)];omega,rfl,by omega,hs.drop 1,hQ,by omega,by omega,by rw[Yh,hfinl];rfl,hmin⟩
 .have hiQ:i=Q.length:=by omega
  rw[show 202-i=(202-(i+1))+1 by omega,minN,Yl (by omega)] at hmin;replace hmin:(⟨m.role,(Q.length:Nat),0,fin,mv,li⟩:Mch)=canN m:=hmin;refine hs.put 0 rfl (o:=1) (vs:=[.int .i64 (q.n:Nat)]) rfl (show 2<=6 by decide) fun h112 hs=>?_;refine⟨_,_,_,ofn,omv,oli,hs.at 0 rfl (n:=6) rfl,?_⟩;refine hs.put 5 rfl (o:=0) (vs:=[.int .i64 m.role,.int .i64 (q.n:Nat),.int .i64 0,.slice ofn.a ofn.n ofn.c,.slice omv.a omv.n omv.c,.slice oli.a oli.n oli.c]) rfl (show 6<=6 by decide) fun h119 hs=>?_;refine⟨_,_,_,ofn,omv,oli,hs.at 5 rfl (n:=6) rfl,?_⟩;refine⟨ofn,omv,oli,?_,?_⟩
  .rw[<-hmin,hqn];rfl
  .rw[<-hmin];exact hs.sub (.cons _ (.cons _ (.cons_cons _ (.cons_cons _ (.cons_cons _ (.cons _ (.cons _ (List.nil_sublist _))))))))
structure Pat (n:Nat) (D E:List Nat):Prop where
 l:D.length=n
 r:E.length=n
 p:∀i j:Nat,i<n->j<n->(D[i]?=D[j]? ↔ E[i]?=E[j]?)
theorem Pat.symm {n:Nat} {D E:List Nat} (h:Pat n D E):Pat n E D:=⟨h.r,h.l,fun i j hi hj=>(h.p i j hi hj).symm⟩
theorem Pat.trans {n:Nat} {D E F:List Nat} (h:Pat n D E) (g:Pat n E F):Pat n D F:=⟨h.l,g.r,fun i j hi hj=>(h.p i j hi hj).trans (g.p i j hi hj)⟩
def NF (R:List Nat):Prop:=R=R.map (idxF R)
theorem idxF_le {K:Type} [DecidableEq K]:∀ {L:List K} {i:Nat} {c:K},L[i]?=some c->idxF L c<=i
 | [],_,_,h=>by simp at h
 | a::L,0,c,h=>by
  rw[List.getElem?_cons_zero] at h;rw[idxF,if_pos (Yyp h)];exact Yyt _
 | a::L,i+1,c,h=>by
  rw[List.getElem?_cons_succ] at h;rw[idxF];split
  .omega
  .have:=idxF_le h;omega
theorem idxF_map {K K':Type} [DecidableEq K] [DecidableEq K'] {f:K->K'} {a:K}:∀ {l:List K},(∀x∈l,f x=f a->x=a)->idxF (l.map f) (f a)=idxF l a
 | [],_=>rfl
 | x::r,h=>by
  rw[Yyl,idxF,idxF];by_cases e:x=a
  .rw[if_pos e,if_pos (by rw[e])]
  .rw[if_neg e,if_neg (fun h2=>e (h x Yx h2)),idxF_map fun y hy=>h y (Yn _ hy)]
theorem idx_pat {n:Nat} {D E:List Nat} (h:Pat n D E) {i a b:Nat} (ha:D[i]?=some a) (hb:E[i]?=some b):idxF D a=idxF E b:=by
 have hi:i<n:=by have:=(Ya.1 ha).1;rw[h.l] at this;exact this
 have h1:=idxF_get (Yb ha);have h2:=idxF_lt (Yb ha);rw[h.l] at h2;have h3:=idxF_get (Yb hb);have h4:=idxF_lt (Yb hb);rw[h.r] at h4;have e1:D[idxF E b]?=some a:=by rw[(h.p _ i h4 hi).2 (by rw[h3,hb])];exact ha
 have e2:E[idxF D a]?=some b:=by rw[(h.p _ i h2 hi).1 (by rw[h1,ha])];exact hb
 exact Nat.le_antisymm (idxF_le e1) (idxF_le e2)
theorem NF_pat {n:Nat} {R C:List Nat} (hR:NF R) (h:Pat n R C):R=C.map (idxF C):=by
 apply Yyr;intro i;by_cases hi:i<n
 .obtain⟨a,ha⟩:=get_some (l:=R) (i:=i) (by rw[h.l];exact hi);obtain⟨c,hc⟩:=get_some (l:=C) (i:=i) (by rw[h.r];exact hi);have e:=congrArg (fun l=>l[i]?) hR;simp only[Yd,ha,Option.map_some,Option.some.injEq] at e;rw[Yd,hc,ha,Option.map_some,<-idx_pat h ha hc];exact congrArg some e
 .rw[Yl (by rw[h.l];omega),Yl (by rw[Yc,h.r];omega)]
theorem NF_eq {n:Nat} {R S:List Nat} (hR:NF R) (hS:NF S) (h:Pat n R S):R=S:=(NF_pat hR h).trans hS.symm
theorem NF_zero (n:Nat):NF (List.replicate n 0):=by
 unfold NF;rw[List.map_replicate];cases n with
 | zero=>rfl
 | succ n=>
  congr 1
theorem clsT_len (m:Mch) (D:List Nat):(clsT m D).length=m.n.toNat:=by unfold clsT;rw[Yc,Yyd]
theorem clsT_get {m:Mch} {D:List Nat} {i:Nat} (hi:i<m.n.toNat):(clsT m D)[i]?=some (keyT m D i):=by unfold clsT;rw[Yd,Yyb hi];rfl
noncomputable def stepR (m:Mch) (D:List Nat):List Nat:=(clsT m D).map (idxF (clsT m D))
noncomputable def itR (m:Mch):Nat->List Nat
 | 0=>List.replicate m.n.toNat 0
 | k+1=>stepR m (itR m k)
theorem stepR_len (m:Mch) (D:List Nat):(stepR m D).length=m.n.toNat:=by unfold stepR;rw[Yc,clsT_len]
theorem itR_len (m:Mch):∀k,(itR m k).length=m.n.toNat
 | 0=>Yg
 | _+1=>stepR_len _ _
theorem stepR_get {m:Mch} {D:List Nat} {i:Nat} (hi:i<m.n.toNat):(stepR m D)[i]?=some (idxF (clsT m D) (keyT m D i)):=by unfold stepR;rw[Yd,clsT_get hi];rfl
theorem stepR_pat {m:Mch} {D:List Nat} {i j:Nat} (hi:i<m.n.toNat) (hj:j<m.n.toNat):(stepR m D)[i]?=(stepR m D)[j]? ↔ keyT m D i=keyT m D j:=by
 rw[stepR_get hi,stepR_get hj,Option.some.injEq];exact⟨fun h=>idxF_inj (Yb (clsT_get hi)) h,fun h=>by rw[h]⟩
theorem NF_step (m:Mch) (D:List Nat):NF (stepR m D):=by
 unfold NF;apply Yyr;intro i;by_cases hi:i<m.n.toNat
 .rw[Yd,stepR_get hi,Option.map_some];congr 1;unfold stepR;refine (idxF_map (f:=idxF (clsT m D)) fun x hx h=>?_).symm;exact idxF_inj hx h
 .rw[Yl (by rw[stepR_len];omega),Yl (by rw[Yc,stepR_len];omega)]
theorem NF_it (m:Mch):∀k,NF (itR m k)
 | 0=>NF_zero _
 | _+1=>NF_step _ _
theorem getD_pat {n:Nat} {D E:List Nat} (h:Pat n D E) {x y:Nat} (hx:x<n) (hy:y<n):D.getD x 0=D.getD y 0 ↔ E.getD x 0=E.getD y 0:=by
 obtain⟨a,ha⟩:=get_some (l:=D) (i:=x) (by rw[h.l];exact hx);obtain⟨b,hb⟩:=get_some (l:=D) (i:=y) (by rw[h.l];exact hy);obtain⟨c,hc⟩:=get_some (l:=E) (i:=x) (by rw[h.r];exact hx);obtain⟨d,hd⟩:=get_some (l:=E) (i:=y) (by rw[h.r];exact hy);have:=h.p x y hx hy;rw[ha,hb,hc,hd,Option.some.injEq,Option.some.injEq] at this;rw[getD_some ha,getD_some hb,getD_some hc,getD_some hd];exact this
theorem sgM_pat {n:Nat} {D E:List Nat} (h:Pat n D E) {x y:Mv} (hx:x.t.toNat<n) (hy:y.t.toNat<n) (e:sgM D x=sgM D y):sgM E x=sgM E y:=by
 have e1:x.ev=y.ev:=congrArg Sg.x e;have e2:x.ag=y.ag:=congrArg Sg.ag e;have e3:((D.getD x.t.toNat 0:Nat):Int)=((D.getD y.t.toNat 0:Nat):Int):=congrArg Sg.num e;have e4:=(getD_pat h hx hy).1 (by omega);unfold sgM;rw[e1,e2,e4]
theorem rows_pat {n:Nat} {D E:List Nat} (h:Pat n D E):∀ {a b:List Mv},(∀x∈a,x.t.toNat<n)->(∀x∈b,x.t.toNat<n)->a.map (sgM D)=b.map (sgM D)->a.map (sgM E)=b.map (sgM E)
 | [],[],_,_,_=>rfl
 | [],_::_,_,_,e=>by cases e
 | _::_,[],_,_,e=>by cases e
 | x::a,y::b,ha,hb,e=>by
  rw[Yyl,Yyl,List.cons.injEq] at e;rw[Yyl,Yyl,sgM_pat h (ha x Yx) (hb y Yx) e.1,rows_pat h (fun z hz=>ha z (Yn _ hz)) (fun z hz=>hb z (Yn _ hz)) e.2]
theorem rwS_t {m:Mch} (hN:NumM m) {s:Nat} {x:Mv} (h:x∈rwS m s):x.t.toNat<m.n.toNat:=by
 have:=hN.mv x (rwS_mem.1 h).1;have:=hN.n;omega
theorem keyT_cut {m:Mch} {D:List Nat} {x y:Nat}:keyT m D x=keyT m D y ↔ (rwS m x).map (sgM D)=(rwS m y).map (sgM D)/\sgT m x=sgT m y/\sgB D m.fin x=sgB D m.fin y:=by
 unfold keyT;constructor
 .intro h;obtain⟨h1,h2⟩:=List.append_inj' h rfl;have h1:=List.reverse_inj.1 h1;simp only[List.cons.injEq,and_true] at h2;exact⟨h1,h2.1,h2.2⟩
 .rintro⟨h1,h2,h3⟩;rw[h1,h2,h3]
theorem sgB_cut {D:List Nat} {fin:List Bool} {x y:Nat}:sgB D fin x=sgB D fin y ↔ D.getD x 0=D.getD y 0/\fin.getD x false=fin.getD y false:=by
 unfold sgB;constructor
 .intro e;have e1:((D.getD x 0:Nat):Int)=((D.getD y 0:Nat):Int):=congrArg Sg.b e;exact⟨by omega,congrArg Sg.ag e⟩
 .rintro⟨h1,h2⟩;rw[h1,h2]
theorem keyT_pat {m:Mch} (hN:NumM m) {D E:List Nat} (h:Pat m.n.toNat D E) {x y:Nat} (hx:x<m.n.toNat) (hy:y<m.n.toNat) (e:keyT m D x=keyT m D y):keyT m E x=keyT m E y:=by
 rw[keyT_cut,sgB_cut] at e ⊢;obtain⟨h1,h2,h3,h4⟩:=e;exact⟨rows_pat h (fun z hz=>rwS_t hN hz) (fun z hz=>rwS_t hN hz) h1,h2,(getD_pat h hx hy).1 h3,h4⟩
theorem itC_pat {m:Mch} (hV:WM m) (D:List Nat) {i j:Nat} (hi:i<m.n.toNat) (hj:j<m.n.toNat):(canonL (clsK (srtM m) D))[i]?=(canonL (clsK (srtM m) D))[j]? ↔ keyT m D i=keyT m D j:=by
 rw[keyT_iff hV hi hj];exact canonL_eq (clsK_get (m:=srtM m) hi) (clsK_get (m:=srtM m) hj)
theorem pat_it {m:Mch} (hV:WM m):∀k,Pat m.n.toNat (itR m k) (itC (srtM m) k)
 | 0=>⟨itR_len m 0,itC_len (srtM m) 0,fun i j hi hj=>by
  show (List.replicate m.n.toNat 0)[i]?=(List.replicate m.n.toNat 0)[j]? ↔ _;exact Iff.rfl⟩
 | k+1=>⟨itR_len m (k+1),itC_len (srtM m) (k+1),fun i j hi hj=>by
  have ih:=pat_it hV k;show (stepR m (itR m k))[i]?=(stepR m (itR m k))[j]? ↔ (canonL (clsK (srtM m) (itC (srtM m) k)))[i]?=(canonL (clsK (srtM m) (itC (srtM m) k)))[j]?;rw[stepR_pat hi hj,itC_pat hV _ hi hj];exact⟨keyT_pat hV.n ih hi hj,keyT_pat hV.n ih.symm hi hj⟩⟩
theorem itR_stay {m:Mch} {k:Nat} (h:itR m (k+1)=itR m k):∀d,itR m (k+d)=itR m k
 | 0=>rfl
 | d+1=>by
  show stepR m (itR m (k+d))=_;rw[itR_stay h d];exact h
theorem it_pat_eq {m:Mch} (hV:WM m) {k:Nat} (h:∀x y:Nat,x<m.n.toNat->y<m.n.toNat->((itC (srtM m) (k+1))[x]?=(itC (srtM m) (k+1))[y]? ↔ (itC (srtM m) k)[x]?=(itC (srtM m) k)[y]?)):itR m (k+1)=itR m k:=by
 refine NF_eq (n:=m.n.toNat) (NF_it m (k+1)) (NF_it m k) ((pat_it hV (k+1)).trans (Pat.trans ⟨itC_len (srtM m) (k+1),itC_len (srtM m) k,h⟩ (pat_it hV k).symm))
theorem it_lt {m:Mch} (hV:WM m) {k:Nat} (h:itR m (k+1)≠itR m k):(dedF (itC (srtM m) k)).length<(dedF (itC (srtM m) (k+1))).length:=by
 have hge:=clsK_ge (itC_len (srtM m) k);have e1:(dedF (itC (srtM m) (k+1))).length=(dedF (clsK (srtM m) (itC (srtM m) k))).length:=by rw[itC,dedF_canon]
 rw[e1];refine Nat.lt_of_le_of_ne hge fun h3=>h (it_pat_eq hV fun x y hx hy=>?_);have hmap:=clsK_map (itC_len (srtM m) k);have hxy:(itC (srtM m) (k+1))[x]?=(itC (srtM m) (k+1))[y]? ↔ keyS (srtM m) (itC (srtM m) k) x=keyS (srtM m) (itC (srtM m) k) y:=by
  rw[itC];exact canonL_eq (clsK_get (m:=srtM m) hx) (clsK_get (m:=srtM m) hy)
 rw[hxy];refine⟨keyS_b (itC_len (srtM m) k) (m:=srtM m) hx hy,fun h4=>?_⟩;generalize hf:(fun k:List Sg=>match k.getLast? with | some s=>s.b.toNat | none=>0)=f at hmap;refine ded_inj (l:=clsK (srtM m) (itC (srtM m) k)) (f:=f) (by rw[<-hmap];exact h3) (Yb (clsK_get (m:=srtM m) hx)) (Yb (clsK_get (m:=srtM m) hy)) ?_;have h1:((clsK (srtM m) (itC (srtM m) k)).map f)[x]?=((clsK (srtM m) (itC (srtM m) k)).map f)[y]?:=by rw[<-hmap];exact h4
 rw[Yd,Yd,clsK_get (m:=srtM m) hx,clsK_get (m:=srtM m) hy] at h1;exact Yyp h1
def repL (C:List Nat):List Nat:=C.map (idxF C)
theorem it_end {m:Mch} (hV:WM m) {k:Nat} (h:itR m (k+1)=itR m k):itR m k=repL (cls (srtM m)).1:=by
 obtain⟨N,h1,h2,_⟩:=cls_stable (srtM_raw hV).ok;rw[h1] at h2;have hN:itR m (N+1)=itR m N:=it_pat_eq hV h2;have e1:=itR_stay h N;have e2:=itR_stay hN k;have e:itR m k=itR m (N+1):=by rw[<-e1,hN,<-e2,Nat.add_comm]
 rw[e,h1];exact NF_pat (NF_it m (N+1)) (pat_it hV (N+1))
/-! ### the machine whose targets are the least ones of their classes -/
def reT (R:List Nat) (x:Mv):Mv:=⟨x.f,x.send,x.peer,x.label,(R.getD x.t.toNat 0:Nat),x.ag⟩
def relM (m:Mch) (R:List Nat):Mch:=⟨m.role,m.n,(R.getD m.s.toNat 0:Nat),m.fin,m.mv.map (reT R),m.li⟩
theorem relM_get {m:Mch} {R:List Nat} {i:Nat} {y:Mv} (h:(relM m R).mv[i]?=some y):∃x,m.mv[i]?=some x/\y=reT R x:=by
 have h:(m.mv.map (reT R))[i]?=some y:=h;rw[Yd] at h;obtain⟨x,hx,rfl⟩:=Yya.1 h;exact⟨x,hx,rfl⟩
theorem relM_at {m:Mch} {R:List Nat} {i:Nat} {x:Mv} (h:m.mv[i]?=some x):(relM m R).mv[i]?=some (reT R x):=by
 show (m.mv.map (reT R))[i]?=_;rw[Yd,h];rfl
theorem relM_ev (m:Mch) (R:List Nat) (i:Nat):evI (relM m R) i=evI m i:=by
 cases h:m.mv[i]? with
 | none=>
  unfold evI;rw[h,show (relM m R).mv[i]?=none from by show (m.mv.map (reT R))[i]?=none;rw[Yd,h];rfl]
 | some x=>rw[evI_of h,evI_of (relM_at h)];rfl
theorem relM_w {m:Mch} {R:List Nat} (hV:WM m) (hR:∀i,i<m.n.toNat->R.getD i 0<m.n.toNat):WM (relM m R):=by
 have hn:=hV.n.n;have hs:=hV.n.s;refine⟨⟨hV.n.r,hn,?_,hV.n.fl,?_,?_⟩,?_,?_⟩
 .have:=hR m.s.toNat (by omega);show 0<=((R.getD m.s.toNat 0:Nat):Int)/\((R.getD m.s.toNat 0:Nat):Int)<m.n;omega
 .show (m.mv.map (reT R)).length<=_;rw[Yc];exact hV.n.ml
 .intro y hy;obtain⟨i,hi⟩:=Yf.1 hy;obtain⟨x,hx,rfl⟩:=relM_get hi;have h1:=hV.n.mv x (Yb hx);have h2:=hR x.t.toNat (by omega);show 0<=x.f/\x.f<m.n/\0<=((R.getD x.t.toNat 0:Nat):Int)/\((R.getD x.t.toNat 0:Nat):Int)<m.n/\0<=x.peer/\x.peer<6/\x.peer≠m.role/\0<=x.label/\x.label<40;omega
 .intro i k a b ha hb hne hf;obtain⟨x,hx,rfl⟩:=relM_get ha;obtain⟨y,hy,rfl⟩:=relM_get hb;exact hV.d i k x y hx hy hne hf
 .intro i t ht;obtain⟨ho,hk,⟨h0,y,hy,h1,h2,h3⟩⟩:=hV.t i t ht;exact⟨ho,hk,⟨h0,_,relM_at hy,h1,h2,h3⟩⟩
theorem relM_ix (m:Mch) (R:List Nat) (s:Int):outIx (relM m R) s=outIx m s:=by
 unfold outIx;show (List.range (m.mv.map (reT R)).length).filter _=_;rw[Yc];refine List.filter_congr fun i _=>?_;unfold outP;cases h:m.mv[i]? with
 | none=>rw[show (relM m R).mv[i]?=none from by show (m.mv.map (reT R))[i]?=none;rw[Yd,h];rfl]
 | some x=>rw[relM_at h];rfl
theorem relM_row {m:Mch} {R:List Nat} (hV:WM m) (s:Nat):rwS (relM m R) s=(rwS m s).map (reT R):=by
 have hD:DetM (relM m R):=by
  intro i k a b ha hb hne hf;obtain⟨x,hx,rfl⟩:=relM_get ha;obtain⟨y,hy,rfl⟩:=relM_get hb;exact hV.d i k x y hx hy hne hf
 have e:mvS (relM m R) (s:Int)=mvS m (s:Int):=by
  obtain⟨h1,h2⟩:=mvS_srt m (s:Int);refine mvS_eq hD (by rw[relM_ix];exact h1) ?_;refine h2.imp fun {a b} h=>?_;rw[relM_ev,relM_ev];exact h
 unfold rwS;rw[e,List.map_filterMap];refine congrArg (fun g=>List.filterMap g (mvS m (s:Int))) (funext fun i=>?_);show (m.mv.map (reT R))[i]?=_;rw[Yd]
theorem relM_tmE (m:Mch) (R:List Nat) (s:Int):tmE (relM m R) s=tmE m s:=by
 unfold tmE;rw[show limT (relM m R) s=limT m s from rfl];cases limT m s with
 | none=>rfl
 | some t=>exact relM_ev m R t.e.toNat
theorem addQ_map {f:Nat->Nat} {Q:List Nat} {c:Nat} (h:∀x∈Q,f x=f c->x=c):addQ (Q.map f) (f c)=(addQ Q c).map f:=by
 unfold addQ;by_cases hc:c∈Q
 .rw[if_pos hc,if_pos (Yp.2 ⟨c,hc,rfl⟩)]
 .rw[if_neg hc,if_neg (fun hm=>hc (by obtain⟨x,hx,e⟩:=Yp.1 hm;exact h x hx e ▸ hx)),Ym];rfl
theorem addQ_sub {C Q:List Nat} {c:Nat} (hQ:∀x∈Q,x∈C) (hc:c∈C):∀x∈addQ Q c,x∈C:=fun x hx=>by
 unfold addQ at hx;split at hx
 .exact hQ x hx
 .rcases Yk.1 hx with hx | hx
  .exact hQ x hx
  .rw[Ye] at hx;rw[hx];exact hc
section
variable {m:Mch} {C:List Nat}
theorem repL_get (hC:C.length=m.n.toNat) {i:Nat} (hi:i<m.n.toNat):(repL C).getD i 0=idxF C (C.getD i 0):=by
 obtain⟨c,hc⟩:=get_some (l:=C) (i:=i) (by omega);rw[getD_some hc];refine getD_some ?_;unfold repL;rw[Yd,hc];rfl
end
section
variable {m:Mch} {C:List Nat}
theorem getD_memC (hC:C.length=m.n.toNat) {i:Nat} (hi:i<m.n.toNat):C.getD i 0∈C:=by
 obtain⟨c,hc⟩:=get_some (l:=C) (i:=i) (by omega);rw[getD_some hc];exact Yb hc
end
section
variable {m:Mch} {C:List Nat}
theorem repL_lt (hC:C.length=m.n.toNat) (i:Nat) (hi:i<m.n.toNat):(repL C).getD i 0<m.n.toNat:=by
 rw[repL_get hC hi,<-hC];exact idxF_lt (getD_memC hC hi)
end
section
variable {m:Mch} {C:List Nat}
theorem rel_step (hV:WM m) (hC:C.length=m.n.toNat) (hd s:Nat) {Q:List Nat} (hQ:∀x∈Q,x∈C) (mv:List Mv) (li:List To) {x:Mv} (hx:x.t.toNat<m.n.toNat) :
  minX (srtM (relM m (repL C))) (List.range m.n.toNat) hd (mget (limM (srtM (relM m (repL C))).li) (s:Int)) (Q.map (idxF C),mv,li) (reT (repL C) x) =
   ((minX (srtM m) C hd (mget (limM (srtM m).li) (s:Int)) (Q,mv,li) x).1.map (idxF C),(minX (srtM m) C hd (mget (limM (srtM m).li) (s:Int)) (Q,mv,li) x).2.1,(minX (srtM m) C hd (mget (limM (srtM m).li) (s:Int)) (Q,mv,li) x).2.2) /\
  ∀y∈(minX (srtM m) C hd (mget (limM (srtM m).li) (s:Int)) (Q,mv,li) x).1,y∈C:=by
 have hW:=relM_w (R:=repL C) hV (repL_lt hC);have hcm:=getD_memC hC hx;have hg:(List.range m.n.toNat).getD (reT (repL C) x).t.toNat 0=idxF C (C.getD x.t.toNat 0):=by
  show (List.range m.n.toNat).getD (((repL C).getD x.t.toNat 0:Nat):Int).toNat 0=_;rw[Ys,getD_some (Yyb (repL_lt hC _ hx)),repL_get hC hx]
 have hinj:∀y∈Q,idxF C y=idxF C (C.getD x.t.toNat 0)->y=C.getD x.t.toNat 0:=fun y hy e=>idxF_inj (hQ y hy) e;have hinj2:∀y∈addQ Q (C.getD x.t.toNat 0),idxF C y=idxF C (C.getD x.t.toNat 0)->y=C.getD x.t.toNat 0:=fun y hy e=>idxF_inj (addQ_sub hQ hcm y hy) e;rw[minX_tm hW,minX_tm hV,hg,relM_tmE,show tmK (relM m (repL C)) s=tmK m s from rfl];refine⟨?_,addQ_sub hQ hcm⟩;show (addQ (Q.map (idxF C)) _,_,_)=((addQ Q (C.getD x.t.toNat 0)).map (idxF C),_,_);rw[addQ_map hinj,idxF_map hinj2];rfl
end
section
variable {m:Mch} {C:List Nat}
theorem rel_fold (hV:WM m) (hC:C.length=m.n.toNat) (hd s:Nat):∀(l:List Mv),(∀x∈l,x.t.toNat<m.n.toNat)->∀(Q:List Nat) (mv:List Mv) (li:List To),(∀x∈Q,x∈C) ->
  (l.map (reT (repL C))).foldl (minX (srtM (relM m (repL C))) (List.range m.n.toNat) hd (mget (limM (srtM (relM m (repL C))).li) (s:Int))) (Q.map (idxF C),mv,li) =
   ((l.foldl (minX (srtM m) C hd (mget (limM (srtM m).li) (s:Int))) (Q,mv,li)).1.map (idxF C),(l.foldl (minX (srtM m) C hd (mget (limM (srtM m).li) (s:Int))) (Q,mv,li)).2.1,(l.foldl (minX (srtM m) C hd (mget (limM (srtM m).li) (s:Int))) (Q,mv,li)).2.2) /\
  ∀y∈(l.foldl (minX (srtM m) C hd (mget (limM (srtM m).li) (s:Int))) (Q,mv,li)).1,y∈C
 | [],_,_,_,_,hQ=>⟨rfl,hQ⟩
 | x::l,hl,Q,mv,li,hQ=>by
  obtain⟨h1,h2⟩:=rel_step hV hC hd s hQ mv li (hl x Yx);rw[Yyl,List.foldl_cons,List.foldl_cons,h1];generalize minX (srtM m) C hd (mget (limM (srtM m).li) (s:Int)) (Q,mv,li) x=st at *;exact rel_fold hV hC hd s l (fun z hz=>hl z (Yn _ hz)) st.1 st.2.1 st.2.2 h2
end
section
variable {m:Mch} {C:List Nat}
theorem rel_minN (hV:WM m) (hC:C.length=m.n.toNat):∀(f hd:Nat) (Q:List Nat) (fin:List Bool) (mv:List Mv) (li:List To),(∀x∈Q,x∈C) ->
  minN (srtM (relM m (repL C))) (List.range m.n.toNat) f hd (Q.map (idxF C)) fin mv li=minN (srtM m) C f hd Q fin mv li
 | 0,hd,Q,fin,mv,li,hQ=>by
  rw[minN,minN,Yc];rfl
 | f+1,hd,Q,fin,mv,li,hQ=>by
  rw[minN,minN,Yd];cases hq:Q[hd]? with
  | none=>rw[Option.map_none,Yc];rfl
  | some c=>
   have hcC:=hQ c (Yb hq);have hlt:idxF C c<m.n.toNat:=by rw[<-hC];exact idxF_lt hcC
   have hlt2:idxF C c<(relM m (repL C)).n.toNat:=hlt;rw[Option.map_some];show minN _ _ f (hd+1) ((outM (srtM (relM m (repL C))) (idxF (List.range m.n.toNat) (idxF C c))).foldl (minX (srtM (relM m (repL C))) (List.range m.n.toNat) hd (mget (limM (srtM (relM m (repL C))).li) (idxF (List.range m.n.toNat) (idxF C c):Nat))) (Q.map (idxF C),mv,li)).1 (fin++[m.fin.getD (idxF (List.range m.n.toNat) (idxF C c)) false])
    ((outM (srtM (relM m (repL C))) (idxF (List.range m.n.toNat) (idxF C c))).foldl (minX (srtM (relM m (repL C))) (List.range m.n.toNat) hd (mget (limM (srtM (relM m (repL C))).li) (idxF (List.range m.n.toNat) (idxF C c):Nat))) (Q.map (idxF C),mv,li)).2.1
    ((outM (srtM (relM m (repL C))) (idxF (List.range m.n.toNat) (idxF C c))).foldl (minX (srtM (relM m (repL C))) (List.range m.n.toNat) hd (mget (limM (srtM (relM m (repL C))).li) (idxF (List.range m.n.toNat) (idxF C c):Nat))) (Q.map (idxF C),mv,li)).2.2 =
    minN _ _ f (hd+1) ((outM (srtM m) (idxF C c)).foldl (minX (srtM m) C hd (mget (limM (srtM m).li) (idxF C c:Nat))) (Q,mv,li)).1 (fin++[m.fin.getD (idxF C c) false])
    ((outM (srtM m) (idxF C c)).foldl (minX (srtM m) C hd (mget (limM (srtM m).li) (idxF C c:Nat))) (Q,mv,li)).2.1 ((outM (srtM m) (idxF C c)).foldl (minX (srtM m) C hd (mget (limM (srtM m).li) (idxF C c:Nat))) (Q,mv,li)).2.2
   rw[idxF_range hlt,outM_srt hlt2,outM_srt hlt,relM_row hV];obtain⟨h1,h2⟩:=rel_fold hV hC hd (idxF C c) (rwS m (idxF C c)) (fun x hx=>rwS_t hV.n hx) Q mv li hQ;rw[h1];exact rel_minN hV hC f (hd+1) _ _ _ _ h2
end
section
variable {m:Mch} {C:List Nat}
theorem rel_canN (hV:WM m):canN (relM m (repL (cls (srtM m)).1))=minF (srtM m):=by
 have hC:(cls (srtM m)).1.length=m.n.toNat:=(cls_ok (srtM_raw hV).ok).cl;have hs:=hV.n.s;have hn:=hV.n.n;have hsn:m.s.toNat<m.n.toNat:=by omega
 have h:=rel_minN hV hC 202 0 [(cls (srtM m)).1.getD m.s.toNat 0] [] [] [] fun x hx=>by rw[Ye] at hx;rw[hx];exact getD_memC hC hsn
 unfold canN minF;show minN _ (List.range m.n.toNat) 202 0 [(((repL (cls (srtM m)).1).getD m.s.toNat 0:Nat):Int).toNat] [] [] []=_;rw[Ys,repL_get hC hsn];exact h
end
theorem wli {m:Mch} (hV:WM m) {t:To} (ht:t∈m.li):0<=t.e/\t.e<m.mv.length/\∃y,m.mv[t.e.toNat]?=some y:=by
 obtain⟨i,hi⟩:=Yf.1 ht;obtain⟨h0,y,hy,_⟩:=(hV.t i t hi).e;have:=(Ya.1 hy).1;exact⟨h0,by omega,y,hy⟩
theorem sameLim213 (m:Mch) (sf sm sl:Sl) (a b:Int) (h:Heap) (hM:MI h m sf sm sl) (hV:WM m) :
  Fn Pz 18 #[.agg ⟨mC m sf sm sl⟩,.int .i64 a,.int .i64 b] h fun v h'=>v=.bool (sameLim m a b)/\Ext h h':=by
 apply vc18 m.role m.n m.s sf sm sl;unfold W18 V18a;have hs:=St.refl h;have hn:=hM.pl.ln;have hmn:=hM.pm.ln;refine hs.newb fun h7 hs=>?_;refine⟨_,_,_,sf,sm,sl,hs.at 0 rfl (n:=6) rfl,_,_,_,sf,sm,sl,hs.at 0 rfl (n:=6) rfl,?_⟩;refine (limit48 m sf sm sl a h7 (hM.ext hs.ext)).mono ?_;rintro _ h22 ⟨rfl,E22⟩;replace hs:=hs.step E22;refine⟨_,rfl,E22.sm,?_⟩;refine (limit48 m sf sm sl b h22 (hM.ext hs.ext)).mono ?_;rintro _ h25 ⟨rfl,E25⟩;replace hs:=hs.step E25;refine⟨_,rfl,E25.sm,?_⟩;cases ha:limI m.li a with
 | none=>
  refine sB_t rfl (sB_t rfl ?_);cases hb:limI m.li b with
  | none=>exact⟨by unfold sameLim;rw[ha,hb];rfl,hs.ext⟩
  | some k=>exact⟨by unfold sameLim;rw[ha,hb];exact congrArg Value.bool (decide_eq_false (show ¬((k:Int)<0) by omega)),hs.ext⟩
 | some i=>
  refine sB_f (decide_eq_false (show ¬((i:Int)<0) by omega)) ?_;cases hb:limI m.li b with
  | none=>exact sB_t rfl (sB_f (decide_eq_false (show ¬((i:Int)<0) by omega)) ⟨by unfold sameLim;rw[ha,hb],hs.ext⟩)
  | some k=>
   refine sB_f (decide_eq_false (show ¬((k:Int)<0) by omega)) ?_;obtain⟨x,hx,hxs⟩:=limI_lt ha;obtain⟨y,hy,hys⟩:=limI_lt hb;have hil:=(Ya.1 hx).1;have hkl:=(Ya.1 hy).1;obtain⟨hx3,hx4,p,hp⟩:=wli hV (Yb hx);obtain⟨hy3,hy4,q,hq⟩:=wli hV (Yb hy);have hsl:sameLim m a b=(decide (x.k=y.k)&&sameMv p q):=by unfold sameLim;simp only[ha,hb,hx,hy,hp,hq]
   refine⟨sl,hs.rd 0 rfl rfl,?_⟩;refine hM.pl.rw.nbI (x:=(i:Int)) (by omega) (by omega) fun b27 o28 x' g27 t27=>?_;rw[Ys,hx] at g27;cases g27;refine⟨_,_,_,atC_ext hs.ext t27,sl,hs.rd 0 rfl rfl,?_⟩;refine hM.pl.rw.nbI (x:=(k:Int)) (by omega) (by omega) fun b33 o34 y' g33 t33=>?_;rw[Ys,hy] at g33;cases g33;refine⟨_,_,_,atC_ext hs.ext t33,?_⟩;have hb33:b33<h.size:=hc_blk t33.hd;refine⟨?_,?_⟩;refine hs.newbE fun h38 E38 hs=>⟨E38.sm,?_⟩;refine hs.newbE fun h39 E39 hs=>⟨E39.sm,?_⟩;refine hs.put 1 rfl (o:=0) (vs:=x.cs) rfl (show 3<=3 by decide) fun h40 hs2=>?_;refine⟨sm_cons (hs.oldb hs2 hb33) (sm_cons (hs.same hs2 2 2 rfl rfl) sm_nil),?_⟩;refine hs2.put 0 rfl (o:=0) (vs:=y.cs) rfl (show 3<=3 by decide) fun h41 hs=>?_;refine⟨_,hs.rd 1 rfl rfl,_,hs.rd 0 rfl rfl,?_⟩;refine sBe (fun c3=>?_) (fun c3=>⟨by rw[hsl,decide_eq_false c3];rfl,hs.ext⟩);refine⟨sm,hs.rd 2 rfl rfl,_,hs.rd 1 rfl rfl,?_⟩;refine (hM.pm.ext hs.ext).rw.nbI hx3 (by omega) fun b46 o47 p g46 t46=>?_;rw[hp] at g46;cases g46;refine⟨_,_,_,_,_,_,t46,sm,hs.rd 2 rfl rfl,_,hs.rd 0 rfl rfl,?_⟩;rotate_left;refine hs.newbE fun h38 E38 hs=>⟨E38.sm,?_⟩;refine hs.newbE fun h39 E39 hs=>⟨E39.sm,?_⟩;refine hs.put 0 rfl (o:=0) (vs:=x.cs) rfl (show 3<=3 by decide) fun h40 hs2=>?_;refine⟨sm_cons (hs.oldb hs2 hb33) (sm_cons (hs.same hs2 2 2 rfl rfl) sm_nil),?_⟩;refine hs2.put 1 rfl (o:=0) (vs:=y.cs) rfl (show 3<=3 by decide) fun h41 hs=>?_;refine⟨_,hs.rd 0 rfl rfl,_,hs.rd 1 rfl rfl,?_⟩;refine sBe (fun c3=>?_) (fun c3=>⟨by rw[hsl,decide_eq_false c3];rfl,hs.ext⟩);refine⟨sm,hs.rd 2 rfl rfl,_,hs.rd 0 rfl rfl,?_⟩;refine (hM.pm.ext hs.ext).rw.nbI hx3 (by omega) fun b46 o47 p g46 t46=>?_;rw[hp] at g46;cases g46;refine⟨_,_,_,_,_,_,t46,sm,hs.rd 2 rfl rfl,_,hs.rd 1 rfl rfl,?_⟩;all_goals
    refine (hM.pm.ext hs.ext).rw.nbI hy3 (by omega) fun b56 o57 q g56 t56=>?_;rw[hq] at g56;cases g56;refine⟨_,_,_,_,_,_,t56,?_⟩;refine (sameMove20 _ _ _).mono ?_;rintro _ h66 ⟨rfl,E66⟩;exact⟨_,rfl,E66.sm,by rw[hsl,decide_eq_true c3,Bool.true_and],hs.ext.trans E66⟩
theorem sameLim_sg {m:Mch} (hV:WM m) (a b:Nat):sameLim m (a:Int) (b:Int)=true ↔ sgT m a=sgT m b:=by
 unfold sameLim sgT;cases ha:limI m.li (a:Int) with
 | none=>
  rw[limI_none26 ha];cases hb:limI m.li (b:Int) with
  | none=>rw[limI_none26 hb];exact iff_of_true rfl rfl
  | some k=>
   obtain⟨t,_,hlt⟩:=limI_some hb;rw[hlt];have hk:=(li_in hV (limT_mem hlt).1).1;refine iff_of_false (fun e=>by cases e) fun e=>?_;have e:(0:Int)=t.k:=congrArg Sg.num e;omega
 | some i=>
  obtain⟨t,hti,hlt⟩:=limI_some ha;obtain⟨_,y,hy,hyf,_,hyag⟩:=(hV.t i t hti).e;have hk:=(hV.t i t hti).k;rw[hlt];cases hb:limI m.li (b:Int) with
  | none=>
   rw[limI_none26 hb];refine iff_of_false (fun e=>by cases e) fun e=>?_;have e:t.k=(0:Int):=congrArg Sg.num e;omega
  | some k=>
   obtain⟨u,hui,hlu⟩:=limI_some hb;obtain⟨_,z,hz,hzf,_,hzag⟩:=(hV.t k u hui).e;rw[hlu];simp only[hti,hui,hy,hz];rw[evI_of hy,evI_of hz,Yt,decide_eq_true_iff];unfold sameMv;rw[decide_eq_true_iff];constructor
   .rintro⟨h1,h2,h3,h4,_⟩;have e:y.ev=z.ev:=ev_ext h2 h3 h4;rw[h1,e]
   .intro e;have e1:t.k=u.k:=congrArg Sg.num e;have e2:y.ev=z.ev:=congrArg Sg.x e;exact⟨e1,congrArg Ev.send e2,congrArg Ev.peer e2,congrArg Ev.label e2,by rw[hyag,hzag]⟩
def AlP (m:Mch) (D:List Nat) (i k:Nat):Prop:=m.fin.getD i false=m.fin.getD k false/\sgT m i=sgT m k/\(rwS m i).map (sgM D)=(rwS m k).map (sgM D)
theorem take_map_snoc {m:Mch} {D:List Nat} {i k j:Nat} {x y:Mv} (hx:(rwS m i)[j]?=some x) (hy:(rwS m k)[j]?=some y) (h:((rwS m i).take j).map (sgM D)=((rwS m k).take j).map (sgM D)) (e:sgM D x=sgM D y):((rwS m i).take (j+1)).map (sgM D)=((rwS m k).take (j+1)).map (sgM D):=by
 rw[take_snoc hx,take_snoc hy,Ym,Ym,h];show _++[sgM D x]=_++[sgM D y];rw[e]
theorem row_ne {m:Mch} {D:List Nat} {i k j:Nat} {x y:Mv} (hx:(rwS m i)[j]?=some x) (hy:(rwS m k)[j]?=some y) (e:sgM D x≠sgM D y):¬AlP m D i k:=fun ⟨_,_,h⟩=>e (by
 have:=congrArg (fun l=>l[j]?) h;simp only[Yd,hx,hy,Option.map_some,Option.some.injEq] at this;exact this)
theorem alike180 (m:Mch) (sf sm sl sc:Sl) (D:List Nat) (i k:Nat) (h:Heap) (hM:MI h m sf sm sl) (hV:WM m) (hR:Rw h 1 sc ((natI D).map inC)) (hD:D.length=m.n.toNat) (hi:i<m.n.toNat) (hk:k<m.n.toNat) :
  Fn Pz 130 #[.agg ⟨mC m sf sm sl⟩,.slice sc.a sc.n sc.c,.int .i64 (i:Nat),.int .i64 (k:Nat)] h (RP (AlP m D i k) h):=by
 apply vc130 m.role m.n m.s sf sm sl sc i k;unfold W130;have hs:=St.refl h;have hn:=hV.n.n;have hfl:=hV.n.fl;have hml:=hV.n.ml;have hmn:=hM.pm.ln;have hfn:=hM.pf.ln;have hscn:=hR.ln;rw[show (natI D).length=D.length from Yc _] at hscn;refine hs.newb fun h7 hs=>?_;refine⟨_,_,_,sf,sm,sl,hs.at 0 rfl (o:=0) (n:=6) rfl,_,_,_,sf,sm,sl,hs.at 0 rfl (o:=0) (n:=6) rfl,?_⟩;refine (refOut62 m sf sm sl i h7 (hM.ext hs.ext)).mono ?_;rintro _ h22 ⟨E22,r1,O1,rfl,hr1,hP1,hO1⟩;replace hs:=hs.step E22;refine⟨r1,rfl,E22.sm,?_⟩;refine (refOut62 m sf sm sl k h22 (hM.ext hs.ext)).mono ?_;rintro _ h25 ⟨E25,r2,O2,rfl,hr2,hP2,hO2⟩;replace hs:=hs.step E25;replace hr1:=hr1.ext E25;have hS1:mvS m (i:Int)=O1:=mvS_eq hV.d hP1 hO1;have hS2:mvS m (k:Int)=O2:=mvS_eq hV.d hP2 hO2;have hl1:(rwS m i).length=O1.length:=by rw[rwS_len,hS1]
 have hl2:(rwS m k).length=O2.length:=by rw[rwS_len,hS2]
 have hn1:=hr1.ln;have hn2:=hr2.ln;rw[show (natI O1).length=O1.length from Yc _] at hn1;rw[show (natI O2).length=O2.length from Yc _] at hn2;have hb1:O1.length<=400:=by
  rw[hP1.length_eq];unfold outIx;exact Yys (List.length_filter_le _ _) (by rw[Yyd];exact hml)
 refine⟨r2,rfl,E25.sm,sf,hs.rd 0 rfl (i:=3) rfl,?_⟩;refine (hM.pf.rw.ext hs.ext).nbI (by omega) (by omega) fun b27 o28 f1 g27 t27=>?_;rw[Ys] at g27;refine⟨_,t27.hd,sf,hs.rd 0 rfl (i:=3) rfl,?_⟩;refine (hM.pf.rw.ext hs.ext).nbI (by omega) (by omega) fun b31 o32 f2 g31 t31=>?_;rw[Ys] at g31;refine⟨_,t31.hd,?_⟩;have hg1:m.fin.getD i false=f1:=getD_some g27;have hg2:m.fin.getD k false=f2:=getD_some g31;refine sB_intro (fun c1=>RP.f (fun hA=>?_) hs.ext) (fun c1=>?_)
 .have e:=hA.1;rw[hg1,hg2] at e;rw[e] at c1;simp at c1
 have c1:f1=f2:=by simpa using c1
 refine⟨_,_,_,sf,sm,sl,hs.at 0 rfl (o:=0) (n:=6) rfl,?_⟩;refine (sameLim213 m sf sm sl i k h25 (hM.ext hs.ext) hV).mono ?_;rintro _ h42 ⟨rfl,E42⟩;replace hs:=hs.step E42;have hsl:=sameLim_sg hV i k;refine⟨_,rfl,E42.sm,?_⟩;refine sB_intro (fun c2=>RP.f (fun hA=>?_) hs.ext) (fun c2=>?_)
 .rw[hsl.2 hA.2.1] at c2;cases c2
 have c2:=hsl.1 (bT c2);refine sBn (fun c3=>RP.f (fun hA=>?_) hs.ext) (fun c3=>?_)
 .have:=congrArg List.length hA.2.2;rw[Yc,Yc] at this;omega
 replace hr1:=hr1.ext E42;replace hr2:=hr2.ext E42;have E0:=Ext.rfl' (h:=h42);refine⟨fun x h' μ=>∃j:Nat,x=(j:Int)/\μ=O1.length-j/\j<=O1.length/\Ext h42 h'/\((rwS m i).take j).map (sgM D)=((rwS m k).take j).map (sgM D),⟨_,0,rfl,rfl,Nat.zero_le _,E0,rfl⟩,?_⟩;rintro-_ h47 μ ⟨j,rfl,rfl,hj,E47,hrows⟩;replace hs:=hs.step E47;refine sBi (fun c4=>?_) (fun c4=>?_)
 .obtain⟨p,hp⟩:=get_some (l:=O1) (i:=j) (by omega);obtain⟨q,hq⟩:=get_some (l:=O2) (i:=j) (by omega);obtain⟨x,hx,hxf⟩:=(mvS_ok m (i:Int) p).1 (by rw[hS1];exact Yb hp);obtain⟨y,hy,hyf⟩:=(mvS_ok m (k:Int) q).1 (by rw[hS2];exact Yb hq);have hxl:=(Ya.1 hx).1;have hyl:=(Ya.1 hy).1;have hxr:=hV.n.mv x (Yb hx);have hyr:=hV.n.mv y (Yb hy);have hrx:(rwS m i)[j]?=some x:=rwS_get (by rw[hS1];exact hp) hx;have hry:(rwS m k)[j]?=some y:=rwS_get (by rw[hS2];exact hq) hy;refine⟨sm,hs.rd 0 rfl (i:=4) rfl,?_⟩;refine (hr1.ext E47).nbI (by omega) (by omega) fun b49 o50 d g49 t49=>?_;replace g49:(natI O1)[j]?=some d:=g49;obtain⟨p',hp',rfl⟩:=natI_get g49;rw[hp] at hp';cases hp';refine⟨_,t49.hd,?_⟩;refine (hM.pm.rw.ext hs.ext).nbI (by omega) (by omega) fun b52 o53 x' g52 t52=>?_;replace g52:m.mv[p]?=some x':=g52;rw[hx] at g52;cases g52;refine⟨_,_,_,_,_,_,t52,sm,hs.rd 0 rfl (i:=4) rfl,?_⟩;refine (hr2.ext E47).nbI (by omega) (by omega) fun b61 o62 d g61 t61=>?_;replace g61:(natI O2)[j]?=some d:=g61;obtain⟨q',hq',rfl⟩:=natI_get g61;rw[hq] at hq';cases hq';refine⟨_,t61.hd,?_⟩;refine (hM.pm.rw.ext hs.ext).nbI (by omega) (by omega) fun b64 o65 y' g64 t64=>?_;replace g64:m.mv[q]?=some y':=g64;rw[hy] at g64;cases g64;refine⟨_,_,_,_,_,_,t64,?_⟩;refine (sameMove20 x y h47).mono ?_;rintro _ h74 ⟨rfl,E74⟩;have hs:=hs.step E74;have E:=E47.trans E74;refine⟨_,rfl,?_⟩;have hsm:sameMv x y=true ↔ x.ev=y.ev/\x.ag=y.ag:=by
   unfold sameMv;rw[decide_eq_true_iff];exact⟨fun h=>⟨ev_ext h.1 h.2.1 h.2.2.1,h.2.2.2⟩,fun h=>⟨congrArg Ev.send h.1,congrArg Ev.peer h.1,congrArg Ev.label h.1,h.2⟩⟩
  refine sB_intro (fun c5=>RP.f (row_ne hrx hry fun e=>?_) hs.ext) (fun c5=>?_)
  .rw[hsm.2 ⟨congrArg Sg.x e,congrArg Sg.ag e⟩] at c5;cases c5
  have c5:=hsm.1 (bT c5);refine⟨sm,hs.rd 0 rfl (i:=4) rfl,?_⟩;refine (hr1.ext E).nbI (by omega) (by omega) fun b76 o77 d g76 t76=>?_;replace g76:(natI O1)[j]?=some d:=g76;obtain⟨p',hp',rfl⟩:=natI_get g76;rw[hp] at hp';cases hp';refine⟨_,t76.hd,?_⟩;refine (hM.pm.rw.ext hs.ext).nbI (by omega) (by omega) fun b79 o80 x' g79 t79=>?_;replace g79:m.mv[p]?=some x':=g79;rw[hx] at g79;cases g79;refine⟨x.t,t79.nth 4 rfl,?_⟩;obtain⟨cx,hcx⟩:=get_some (l:=D) (i:=x.t.toNat) (by omega);obtain⟨cy,hcy⟩:=get_some (l:=D) (i:=y.t.toNat) (by omega);refine (hR.ext hs.ext).nbI (by omega) (by omega) fun b82 o83 d g82 t82=>?_;obtain⟨cx',hcx',rfl⟩:=natI_get g82;rw[hcx] at hcx';cases hcx';refine⟨_,t82.hd,sm,hs.rd 0 rfl (i:=4) rfl,?_⟩;refine (hr2.ext E).nbI (by omega) (by omega) fun b86 o87 d g86 t86=>?_;replace g86:(natI O2)[j]?=some d:=g86;obtain⟨q',hq',rfl⟩:=natI_get g86;rw[hq] at hq';cases hq';refine⟨_,t86.hd,?_⟩;refine (hM.pm.rw.ext hs.ext).nbI (by omega) (by omega) fun b89 o90 y' g89 t89=>?_;replace g89:m.mv[q]?=some y':=g89;rw[hy] at g89;cases g89;refine⟨y.t,t89.nth 4 rfl,?_⟩;refine (hR.ext hs.ext).nbI (by omega) (by omega) fun b92 o93 d g92 t92=>?_;obtain⟨cy',hcy',rfl⟩:=natI_get g92;rw[hcy] at hcy';cases hcy';refine⟨_,t92.hd,?_⟩;have hcc:sgM D x=sgM D y ↔ (x.ev=y.ev/\x.ag=y.ag)/\cx=cy:=by
   unfold sgM;rw[getD_some hcx,getD_some hcy];exact⟨fun e=>⟨⟨congrArg Sg.x e,congrArg Sg.ag e⟩,by have e:((cx:Nat):Int)=(cy:Nat):=congrArg Sg.num e;omega⟩,fun e=>by rw[e.1.1,e.1.2,e.2]⟩
  refine sBn (fun c6=>RP.f (row_ne hrx hry fun e=>?_) hs.ext) (fun c6=>?_)
  .have:=(hcc.1 e).2;omega
  .exact⟨_,(show O1.length-(j+1)<O1.length-j by omega),j+1,by rw[w64 (by omega) (by omega)];omega,rfl,by omega,E,take_map_snoc hrx hry hrows (hcc.2 ⟨c5,by omega⟩)⟩
 .have hj1:j=(rwS m i).length:=by omega
  have hj2:j=(rwS m k).length:=by omega
  refine RP.t ⟨by rw[hg1,hg2,c1],c2,?_⟩ hs.ext;rw[Yj (by omega),Yj (by omega)] at hrows;exact hrows
theorem key_al {m:Mch} {D:List Nat} {i k:Nat}:keyT m D i=keyT m D k ↔ D.getD i 0=D.getD k 0/\AlP m D i k:=by
 rw[keyT_cut,sgB_cut];exact⟨fun h=>⟨h.2.2.1,h.2.2.2,h.2.1,h.1⟩,fun h=>⟨h.2.2.2,h.2.2.1,h.1,h.2.1⟩⟩
def frA (xb pb:Nat) (m:Mch) (sf sm sl cl:Sl) (D F:List Nat):List It:=[.blk xb (F.map natV) 3,.sl cl 3 1 ((natI D).map inC),.blk pb (mC m sf sm sl) 33]
theorem mid_set {A B:List Nat} {i a b:Nat} (hA:A.length=i):(A++[a]++B).set i b=A++[b]++B:=by
 subst hA;rw[Yz,List.set_append_right _ _ (Yyt _),Nat.sub_self,Yz];rfl
theorem mid_get {A B:List Nat} {i a:Nat} (hA:A.length=i):(A++[a]++B)[i]?=some a:=by
 subst hA;rw[Yz,Yyc (Yyt _),Nat.sub_self];rfl
theorem classes138 (m:Mch) (sf sm sl:Sl) (h:Heap) (hM:MI h m sf sm sl) (hV:WM m) :
  Fn Pz 74 #[.agg ⟨mC m sf sm sl⟩] h fun v h'=>∃r:Sl,v=.slice r.a r.n r.c/\St h h' [.sl r 3 1 ((natI (repL (cls (srtM m)).1)).map inC)]:=by
 apply vc74 m.role m.n m.s sf sm sl;unfold W74;have hn:=hV.n.n;have hnI:((m.n.toNat:Nat):Int)=m.n:=by omega
 have hnl:∀L:List Nat,(natI L).length=L.length:=fun L=>Yc _;refine (St.refl h).newb fun h7 hs=>?_;refine⟨m.n,hs.rd 0 rfl (i:=1) rfl,⟨by omega,by omega,by omega⟩,?_⟩;refine hs.newb fun h9 hs=>?_;rw[made3n] at hs;have hs:=hs.blkS m.n.toNat 1 ((natI (List.replicate m.n.toNat 0)).map inC) (natflat _) (inrows _) (by rw[Yc,hnl,Yg]) (by simp only[maxLen];omega);refine⟨fun cl ch h' μ=>∃k:Nat,μ=202-k/\k<=201/\(ch=true->k+1<=(dedF (itC (srtM m) k)).length)/\(ch=false->itR m (k+1)=itR m k)/\St h h' [.sl cl 3 1 ((natI (itR m k)).map inC),.blk h.size (mC m sf sm sl) 33],
  ⟨_,0,rfl,by omega,fun _=>List.length_pos_of_mem ((dedF_mem _ _).2 (show 0∈itC (srtM m) 0 from List.mem_replicate.2 ⟨(by show m.n.toNat≠0;omega),rfl⟩)),fun e=>(by cases e),hs⟩,?_⟩
 clear hs;rintro-cl ch h15 μ ⟨k,rfl,hk,hct,hcf,hs⟩;refine sB_intro (fun c1=>?_) (fun c1=>?_)
 .have hc:=hct c1;have hle:=dedF_len_le (itC (srtM m) k);rw[itC_len,show (srtM m).n=m.n from rfl] at hle;have hcln:=(hs.rows 0 (s:=cl) (cs:=inC) rfl (by omega)).ln;rw[hnl,itR_len] at hcln;refine⟨m.n,hs.rd 1 rfl (i:=1) rfl,⟨by omega,by omega,by omega⟩,?_⟩;refine hs.newb fun h17 hs=>?_;rw[made3n] at hs;refine⟨fun ch x h' μ=>∃i:Nat,x=(i:Int)/\μ=m.n.toNat-i/\i<=m.n.toNat/\(ch=true ↔ ∃j,j<i/\(itR m (k+1))[j]?≠(itR m k)[j]?)/\St h h' (frA h15.size h.size m sf sm sl cl (itR m k) ((itR m (k+1)).take i++List.replicate (m.n.toNat-i) 0)),
   ⟨_,0,rfl,rfl,Nat.zero_le _,iff_of_false (by decide) (fun ⟨j,hj,_⟩=>by omega),hs⟩,?_⟩
  clear hs;rintro-ch2 _ h23 μ ⟨i,rfl,rfl,hi,hch,hs⟩;refine⟨m.n,hs.rd 2 rfl (i:=1) rfl,sBi (fun c2=>?_) (fun c2=>?_)⟩
  .have hin:i<m.n.toNat:=by omega
   have htl:((itR m (k+1)).take i).length=i:=by rw[Yu,itR_len];omega
   refine⟨⟨by omega,by omega⟩,?_⟩;rw[show 0+Int.toNat (i:Int)*1=i by omega];refine hs.put 0 rfl (o:=i) (vs:=[natV i]) rfl (by rw[Yc,Yh,htl,Yg,Yv];omega) fun h25 hs=>?_;rw[map_natV_put htl hin] at hs;rw[w64 (n:=(i:Int)-1) (by omega) (by omega)];have hall:∀f:Nat,((itR m (k+1)).take i++[f]++List.replicate (m.n.toNat-(i+1)) 0).length=m.n.toNat:=fun f=>by rw[Yh,Yh,htl,Yg,Yv];omega
   refine⟨fun x h' μ=>∃q f:Nat,x=(q:Int)-1/\μ=q/\q<=f/\f<=i/\keyT m (itR m k) f=keyT m (itR m k) i/\(∀j,q<=j->j<f->keyT m (itR m k) j≠keyT m (itR m k) i)/\St h h' (frA h15.size h.size m sf sm sl cl (itR m k) ((itR m (k+1)).take i++[f]++List.replicate (m.n.toNat-(i+1)) 0)),
    ⟨_,i,i,rfl,rfl,Yyt _,Yyt _,rfl,fun j h1 h2=>(by omega),hs⟩,?_⟩
   clear hs;rintro-_ h30 q ⟨_,f,rfl,rfl,hqf,hfi,hkf,hno,hs⟩;refine sBi (fun c3=>?_) (fun c3=>?_)
   .obtain⟨q,rfl⟩:∃q',q=q'+1:=⟨q-1,by omega⟩;rw[show (((q+1:Nat):Int)-1)=(q:Int) by omega];obtain⟨a,ha⟩:=get_some (l:=itR m k) (i:=q) (by rw[itR_len];omega);obtain⟨b,hb⟩:=get_some (l:=itR m k) (i:=i) (by rw[itR_len];omega);have hcl:=hs.rows 1 (s:=cl) (cs:=inC) rfl (by omega);refine hcl.nbI (by omega) (by omega) fun b31 o32 d g31 t31=>?_;rw[Ys] at g31;obtain⟨a',ha',rfl⟩:=natI_get g31;rw[ha] at ha';cases ha';refine⟨_,t31.hd,?_⟩;refine hcl.nbI (by omega) (by omega) fun b34 o35 d g34 t34=>?_;rw[Ys] at g34;obtain⟨b',hb',rfl⟩:=natI_get g34;rw[hb] at hb';cases hb';refine⟨_,t34.hd,?_⟩;have hkey:keyT m (itR m k) q=keyT m (itR m k) i ↔ a=b/\AlP m (itR m k) i q:=by
     rw[eq_comm,key_al,getD_some ha,getD_some hb];exact⟨fun h=>⟨h.1.symm,h.2⟩,fun h=>⟨h.1.symm,h.2⟩⟩
    have hnext:∀ {h':Heap},St h h' (frA h15.size h.size m sf sm sl cl (itR m k) ((itR m (k+1)).take i++[f]++List.replicate (m.n.toNat-(i+1)) 0))->keyT m (itR m k) q≠keyT m (itR m k) i->∃μ,μ<q+1/\∃q_1 f:Nat,IntKind.wrap .i64 ((q:Int)-1)=(q_1:Int)-1/\μ=q_1/\q_1<=f/\f<=i/\keyT m (itR m k) f=keyT m (itR m k) i/\(∀j,q_1<=j->j<f->keyT m (itR m k) j≠keyT m (itR m k) i)/\St h h' (frA h15.size h.size m sf sm sl cl (itR m k) ((itR m (k+1)).take i++[f]++List.replicate (m.n.toNat-(i+1)) 0)):=fun {h'} hs hne=>
     ⟨_,Nat.lt_succ_self q,q,f,w64 (by omega) (by omega),rfl,by omega,hfi,hkf,fun j h1 h2=>by
      by_cases e:j=q
      .subst e;exact hne
      .exact hno j (by omega) h2,hs⟩
    refine sBe (fun c4=>?_) (fun c4=>hnext hs fun e=>c4 (by rw[(hkey.1 e).1]));refine⟨_,_,_,sf,sm,sl,hs.at 2 rfl (o:=0) (n:=6) rfl,?_⟩;refine (alike180 m sf sm sl cl (itR m k) i q h30 (hM.ext hs.ext) hV hcl (itR_len m k) hin (by omega)).mono ?_;rintro _ h45 ⟨⟨bb,rfl,hbb⟩,E45⟩;have hs:=hs.step E45;refine⟨_,rfl,E45.sm,sB_intro (fun c5=>?_) (fun c5=>hnext hs fun e=>?_)⟩
    .refine⟨⟨by omega,by omega⟩,?_⟩;refine hs.put 0 rfl (o:=i) (vs:=[natV q]) rfl (by rw[Yc,hall,Yv];omega) fun h46 hs=>?_;rw[map_splice natV (by rw[hall];exact hin),mid_set htl] at hs;exact⟨_,Nat.lt_succ_self q,q,q,w64 (by omega) (by omega),rfl,Yyt _,by omega,hkey.2 ⟨by omega,hbb.1 c5⟩,fun j h1 h2=>by omega,hs⟩
    .rw[hbb.2 (hkey.1 e).2] at c5;cases c5
   .have hq0:q=0:=by omega
    subst hq0;have hf:(itR m (k+1))[i]?=some f:=by
     show (stepR m (itR m k))[i]?=some f;rw[stepR_get hin];congr 1;refine idxF_first (by rw[clsT_get (by omega),hkf]) fun hm=>?_;obtain⟨j,hj⟩:=Yf.1 hm;have hjf:j<f:=by have:=(Ya.1 hj).1;rw[Yu] at this;omega
     rw[List.getElem?_take_of_lt hjf,clsT_get (by omega)] at hj;exact hno j (Nat.zero_le _) hjf (Yyp hj)
    have hsn:St h h30 (frA h15.size h.size m sf sm sl cl (itR m k) ((itR m (k+1)).take (i+1)++List.replicate (m.n.toNat-(i+1)) 0)):=by rw[take_snoc hf];exact hs
    refine sB_intro (fun c4=>?_) (fun c4=>?_)
    .refine⟨_,(show m.n.toNat-(i+1)<m.n.toNat-i by omega),i+1,by rw[w64 (by omega) (by omega)];omega,rfl,by omega,iff_of_true rfl ?_,hsn⟩;obtain⟨j,hj,hne⟩:=hch.1 c4;exact⟨j,by omega,hne⟩
    .refine⟨⟨by omega,by omega⟩,?_⟩;refine⟨(f:Nat),hs.rd 0 rfl (by rw[Yd,mid_get htl];rfl),?_⟩;obtain⟨b,hb⟩:=get_some (l:=itR m k) (i:=i) (by rw[itR_len];omega);refine (hs.rows 1 (s:=cl) (cs:=inC) rfl (by omega)).nbI (by omega) (by omega) fun b52 o53 d g52 t52=>?_;rw[Ys] at g52;obtain⟨b',hb',rfl⟩:=natI_get g52;rw[hb] at hb';cases hb';refine⟨_,t52.hd,_,(show m.n.toNat-(i+1)<m.n.toNat-i by omega),i+1,by rw[w64 (by omega) (by omega)];omega,rfl,by omega,?_,hsn⟩;have hno2:∀j,j<i->(itR m (k+1))[j]?=(itR m k)[j]?:=fun j hj=>Classical.byContradiction fun hne=>by rw[hch.2 ⟨j,hj,hne⟩] at c4;cases c4
     constructor
     .intro e;refine⟨i,by omega,fun e2=>?_⟩;rw[hf,hb] at e2;cases e2;simp at e
     .rintro⟨j,hj,hne⟩;have hji:j=i:=by
       by_cases e:j<i
       .exact absurd (hno2 j e) hne
       .omega
      subst hji;rw[hf,hb] at hne;have:((f:Nat):Int)≠(b:Nat):=fun e=>hne (by congr 1;omega);simpa using this
  .have hin:i=m.n.toNat:=by omega
   subst hin;rw[Nat.sub_self,List.replicate_zero,Yw,Yj (by rw[itR_len];exact Yyt _)] at hs;have hs:St h h23 [.blk h15.size ((itR m (k+1)).map natV) 3,.sl cl 3 1 ((natI (itR m k)).map inC),.blk h.size (mC m sf sm sl) 33]:=hs;have hs:=hs.blkS m.n.toNat 1 ((natI (itR m (k+1))).map inC) (natflat _) (inrows _) (by rw[Yc,hnl,itR_len]) (by simp only[maxLen];omega);refine⟨_,(show 202-(k+1)<202-k by omega),k+1,rfl,by omega,fun e=>?_,fun e=>?_,hs.sub (.cons_cons _ (.cons _ (.cons_cons _ (List.nil_sublist _))))⟩
   .obtain⟨j,_,hne⟩:=hch.1 e;have:=it_lt hV (k:=k) fun e2=>hne (by rw[e2]);omega
   .have e2:itR m (k+1)=itR m k:=by
     apply Yyr;intro j;by_cases hj:j<m.n.toNat
     .exact Classical.byContradiction fun hne=>by rw[hch.2 ⟨j,hj,hne⟩] at e;cases e
     .rw[Yl (by rw[itR_len];omega),Yl (by rw[itR_len];omega)]
    show stepR m (itR m (k+1))=_;rw[e2];exact e2
 .refine⟨cl,rfl,?_⟩;rw[<-it_end hV (hcf c1)];exact hs.sub (.cons_cons _ (.cons _ (List.nil_sublist _)))
theorem minimal77 (m:Mch) (sf sm sl:Sl) (h:Heap) (hM:MI h m sf sm sl) (hV:WM m) :
  Fn Pz 37 #[.agg ⟨mC m sf sm sl⟩] h fun v h'=>∃sf' sm' sl':Sl,v=.agg ⟨mC (minF (srtM m)) sf' sm' sl'⟩/\St h h' (mL (minF (srtM m)) sf' sm' sl'):=by
 apply vc37 m.role m.n m.s sf sm sl;unfold W37;have hn:=hV.n.n;have hms:=hV.n.s;have hml:=hV.n.ml;have hmn:=hM.pm.ln;have hC:(cls (srtM m)).1.length=m.n.toNat:=(cls_ok (srtM_raw hV).ok).cl;refine (St.refl h).newb fun h7 hs=>?_;refine hs.newb fun h8 hs=>?_;refine⟨_,_,_,sf,sm,sl,hs.at 1 rfl (o:=0) (n:=6) rfl,?_⟩;refine (classes138 m sf sm sl h8 (hM.ext hs.ext) hV).mono ?_;rintro _ h17 ⟨r,rfl,hr⟩;have hrl:=rel_canN hV;have hRt:=repL_lt hC;have hRl:(repL (cls (srtM m)).1).length=m.n.toNat:=by unfold repL;rw[Yc];exact hC
 generalize repL (cls (srtM m)).1=R at *;have hW:=relM_w (R:=R) hV hRt;have hs:St h h17 [.sl r 3 1 ((natI R).map inC),.blk h7.size m0 33,.blk h.size (mC m sf sm sl) 33]:=(hs.join hr).perm (List.perm_append_comm (l₂:=[_]));clear hr;have hrn:=(hs.rows 0 (s:=r) (cs:=inC) rfl (by omega)).ln;rw[show (natI R).length=R.length from Yc _,hRl] at hrn;refine⟨r,rfl,_,_,_,sf,sm,sl,hs.at 2 rfl (o:=0) (n:=6) rfl,?_⟩;refine hs.newput (vs:=mC m sf sm sl) rfl rfl fun h25 hs=>?_;refine⟨m.s,hs.rd 3 rfl (i:=2) rfl,?_⟩;refine (hs.rows 1 (s:=r) (cs:=inC) rfl (by omega)).nbI (by omega) (by omega) fun b27 o28 d g27 t27=>?_;obtain⟨a,ga,rfl⟩:=natI_get g27;obtain rfl:R.getD m.s.toNat 0=a:=getD_some ga;refine⟨_,t27.hd,?_⟩;refine hs.put 0 rfl (o:=2) (vs:=[.int .i64 (R.getD m.s.toNat 0:Nat)]) rfl (show 3<=6 by decide) fun h30 hs=>?_;refine hs.put 0 rfl (o:=4) (vs:=[.slice none 0 0]) rfl (show 5<=6 by decide) fun h31 hs=>?_;have hs:=(hs.nil_ 45 6).perm (List.Perm.swap _ _ _);refine⟨fun x h' μ=>∃(j:Nat) (omv:Sl),x=(j:Int)/\μ=m.mv.length-j/\j<=m.mv.length/\St h h' [.blk h17.size [.int .i64 m.role,.int .i64 m.n,.int .i64 (R.getD m.s.toNat 0:Nat),.slice sf.a sf.n sf.c,.slice omv.a omv.n omv.c,.slice sl.a sl.n sl.c] 33,.sl omv 45 6 (((m.mv.take j).map (reT R)).map Mv.cs),.sl r 3 1 ((natI R).map inC),.blk h7.size m0 33,.blk h.size (mC m sf sm sl) 33],
  ⟨_,0,⟨none,0,0⟩,rfl,rfl,Nat.zero_le _,hs⟩,?_⟩
 clear hs;rintro-_ h36 μ ⟨j,omv,rfl,rfl,hj,hs⟩;refine⟨sm,hs.rd 4 rfl (i:=4) rfl,sBi (fun c1=>?_) (fun c1=>?_)⟩
 .refine⟨sm,hs.rd 4 rfl (i:=4) rfl,?_⟩;refine (hM.pm.rw.ext hs.ext).nbI (by omega) (by omega) fun b39 o40 x g39 t39=>?_;replace g39:m.mv[j]?=some x:=g39;have hxr:=hV.n.mv x (Yb g39);refine⟨_,_,_,_,_,_,t39,?_⟩;refine hs.newput (vs:=x.cs) rfl rfl fun h48 hs=>?_;refine⟨x.t,hs.rd 0 rfl (i:=4) rfl,?_⟩;refine (hs.rows 3 (s:=r) (cs:=inC) rfl (by omega)).nbI (by omega) (by omega) fun b50 o51 d g50 t50=>?_;obtain⟨b,gb,rfl⟩:=natI_get g50;obtain rfl:R.getD x.t.toNat 0=b:=getD_some gb;refine⟨_,t50.hd,?_⟩;refine hs.put 0 rfl (o:=4) (vs:=[.int .i64 (R.getD x.t.toNat 0:Nat)]) rfl (show 5<=6 by decide) fun h53 hs=>?_;have homv:=(hs.rows 2 (s:=omv) (cs:=Mv.cs) rfl (by omega)).ln;rw[Yc,Yu] at homv;refine⟨omv,hs.rd 1 rfl (i:=4) rfl,_,_,_,_,_,_,hs.at 0 rfl (o:=0) (n:=6) rfl,?_⟩;refine hs.app 2 rfl app31 (m:=1) [Mv.cs (reT R x)] rfl rfl (fun r hr=>by rw[Ye] at hr;rw[hr];rfl) rfl (by omega) (by simp only[maxLen];omega) fun s62 h63 n62 hs=>?_;refine hs.put 1 rfl (o:=4) (vs:=[.slice s62.a s62.n s62.c]) rfl (show 5<=6 by decide) fun h64 hs=>?_;refine⟨_,(show m.mv.length-(j+1)<m.mv.length-j by omega),j+1,s62,by rw[w64 (by omega) (by omega)];omega,rfl,by omega,?_⟩;rw[take_snoc g39,Ym (f:=reT R),Ym (f:=Mv.cs)];exact hs.drop 1
 .have hjl:j=m.mv.length:=by omega
  subst hjl;rw[Yye] at hs;have hM':MI h36 (relM m R) sf omv sl:=⟨hM.pf.ext hs.ext,hs.rl 1 (cs:=Mv.cs) (l:=m.mv.map (reT R)) rfl (by decide) (by rw[Yc];omega),hM.pl.ext hs.ext⟩;refine⟨_,_,_,sf,omv,sl,hs.at 0 rfl (o:=0) (n:=6) rfl,?_⟩;refine (canonical76 (relM m R) sf omv sl h36 hM' hW).mono ?_;rw[hrl];rintro _ h79 ⟨sf',sm',sl',rfl,h3⟩;have hs:=hs.join h3;refine⟨_,_,_,sf',sm',sl',rfl,?_⟩;refine hs.put 3 rfl (o:=0) (vs:=mC (minF (srtM m)) sf' sm' sl') rfl (show 6<=6 by decide) fun h80 hs=>?_;exact⟨_,_,_,sf',sm',sl',hs.at 3 rfl (o:=0) (n:=6) rfl,sf',sm',sl',rfl,hs.drop 5⟩
theorem nx_hit (l:List Mv) (v:Int) (h1:1<=v) (h2:v<nxL l):∃(i:Nat) (x:Mv),l[i]?=some x/\x.t=v/\nxL (l.take i)=v:=by
 have key:∀n,n<=l.length->v<nxL (l.take n)->∃(i:Nat) (x:Mv),l[i]?=some x/\x.t=v/\nxL (l.take i)=v:=by
  intro n
  induction n with
  | zero=>
   intro _ h;rw[Yyk] at h;have:nxL []=1:=rfl;omega
  | succ n ih=>
   intro hn h;obtain⟨x,hx⟩:=get_some (l:=l) (i:=n) (by omega);rw[take_snoc hx,nxL_snoc] at h;by_cases hlt:v<nxL (l.take n)
   .exact ih (by omega) hlt
   .split at h
    .rename_i e;exact⟨n,x,hx,by omega,by omega⟩
    .omega
 exact key l.length (Yyt _) (by rw[Yye];exact h2)
theorem num_reach {M:Mch} (h1:nxL M.mv=M.n) (h2:∀(i:Nat) x,M.mv[i]?=some x->x.t<=nxL (M.mv.take i)/\x.f<nxL (M.mv.take i)) (h3:M.s=0) (h4:∀x∈M.mv,0<=x.f):RchM M:=by
 have key:∀k:Nat,(k:Int)<M.n->Qr (meds M) (-1) [M.s] (k:Int):=by
  intro k
  induction k using Nat.strongRecOn with
  | ind k ih=>
   intro hk;by_cases h0:k=0
   .subst h0;exact .base (by rw[h3];exact Ye.2 rfl)
   .obtain⟨i,x,hx,ht,hn⟩:=nx_hit M.mv k (by omega) (by omega);have hf:=(h2 i x hx).2;have hm:=Yb hx;have h0:=h4 x hm;have hq:=ih x.f.toNat (by omega) (by omega);exact .step hq (quietL_mem.1 (meds_q.2 ⟨x,hm,by omega,ht⟩))
 intro v h0 hv;have:=key v.toNat (by omega)
 rwa [show ((v.toNat:Nat):Int)=v by omega] at this
section
variable {m:Mch} {C:List Nat} {cnt:Nat}
end
section
variable {m:Mch} {C:List Nat} {cnt:Nat}
end
section
variable {m:Mch} {C:List Nat} {cnt:Nat}
end
section
variable {m:Mch} {C:List Nat} {cnt:Nat}
variable {c0:Nat} {M:Mch} {Q:List Nat}
end
section
variable {m:Mch} {C:List Nat} {cnt:Nat}
variable {c0:Nat} {M:Mch} {Q:List Nat}
end
section
variable {m:Mch} {C:List Nat} {cnt:Nat}
variable {c0:Nat} {M:Mch} {Q:List Nat}
end
section
variable {m:Mch} {C:List Nat} {cnt:Nat}
variable {c0:Nat} {M:Mch} {Q:List Nat}
end
section
variable {M K:Mch} {R:Nat->Nat->Prop}
theorem srt_ext {α:Type} {P:α->α->Prop} (hi:∀a,¬P a a) (htr:∀a b c,P a b->P b c->P a c):∀ {l k:List α},l.Pairwise P->k.Pairwise P->(∀x,x∈l ↔ x∈k)->l=k
 | [],[],_,_,_=>rfl
 | [],b::k,_,_,h=>by cases (h b).2 Yx
 | a::l,[],_,_,h=>by cases (h a).1 Yx
 | a::l,b::k,h1,h2,h=>by
  rw[List.pairwise_cons] at h1 h2;have hab:a=b:=by
   rcases Yr.1 ((h a).1 Yx) with e | ha
   .exact e
   .rcases Yr.1 ((h b).2 Yx) with e | hb
    .exact e.symm
    .exact absurd (htr _ _ _ (h1.1 b hb) (h2.1 a ha)) (hi a)
  subst hab;rw[srt_ext hi htr h1.2 h2.2 fun x=>⟨fun hx=>by
   rcases Yr.1 ((h x).1 (Yn _ hx)) with e | hx2
   .subst e;exact absurd (h1.1 x hx) (hi x)
   .exact hx2,fun hx=>by
   rcases Yr.1 ((h x).2 (Yn _ hx)) with e | hx2
   .subst e;exact absurd (h2.1 x hx) (hi x)
   .exact hx2⟩]
end
section
variable {M K:Mch} {R:Nat->Nat->Prop}
theorem mv_pos {L:List Mv} (hS:L.Pairwise mvLt) {i j:Nat} {x y:Mv} (hx:L[i]?=some x) (hy:L[j]?=some y) (hf:x.f=y.f) (he:x.ev=y.ev):i=j:=by
 have irr:∀ {a b:Mv},a.f=b.f->a.ev=b.ev->¬mvLt a b:=fun hf he h=>by
  rcases h with h | ⟨_,h⟩
  .omega
  .rw[he] at h;exact evLt_irr _ h
 rcases Nat.lt_trichotomy i j with h | h | h
 .exact absurd (mvLt_get hS h hx hy) (irr hf he)
 .exact h
 .exact absurd (mvLt_get hS h hy hx) (irr hf.symm he.symm)
end
section
variable {m:Mch} {C:List Nat} {cnt c0:Nat} {M:Mch} {Q:List Nat}
end
section
variable {m:Mch} {C:List Nat} {cnt c0:Nat} {M:Mch} {Q:List Nat}
end
section
variable {n:Nat} {to:List Nat}
end
section
variable {n:Nat} {to:List Nat}
end
section
variable {n:Nat} {to:List Nat}
end
section
variable {n:Nat} {to:List Nat}
end
theorem raw_v26 {g:Gl} {role:Int} {w:Mch} (h:raw g role=(some w,0)):(ValidS g/\0<=role/\role<g.rs.length)/\∃S,RawV g role w S/\∃M,views g role=some (S,M)/\rawL (vwG g role) 0 S M []=some (w.mv,w.li):=by
 unfold raw at h;split at h
 .cases h
 .rename_i hv;refine⟨Classical.not_not.1 hv,?_⟩;split at h
  .cases h
  .rename_i S M hvw;split at h
   .cases h
   .split at h
    .cases h
    .rename_i M' L hrl;cases h;obtain⟨h1,h2⟩:=views_vr hvw;have hsk:=rawL_sk 0 S M [] hrl;have back:∀m∈M',∃m0∈M,skM m0=skM m:=fun m hm=>by
      have:skM m∈M.map skM:=by rw[<-hsk];exact List.mem_map_of_mem hm
      obtain⟨m0,hm0,e⟩:=Yp.1 this;exact⟨m0,hm0,e⟩
     have forth:∀m∈M,∃m0∈M',skM m0=skM m:=fun m hm=>by
      have:skM m∈M'.map skM:=by rw[hsk];exact List.mem_map_of_mem hm
      obtain⟨m0,hm0,e⟩:=Yp.1 this;exact⟨m0,hm0,e⟩
     refine⟨S,⟨rfl,rfl,rfl,rfl,h2,fun m hm=>?_,fun r p hr x hx=>?_⟩,M,hvw,hrl⟩
     .obtain⟨m0,hm0,e⟩:=back m hm;obtain⟨r,p,a1,a2,a3,a4,t,a5,a6⟩:=h1.a m0 hm0;have e1:m0.f=m.f:=congrArg Prod.fst e;have e2:m0.ev=m.ev:=congrArg (fun q=>q.2.1) e;have e3:m0.t=m.t:=congrArg (fun q=>q.2.2) e;rw[e1] at a1;rw[e2] at a4 a6;rw[e3] at a5;exact⟨r,p,a1,a2,a3,a4,t,a5,a6⟩
     .obtain⟨m,hm,b1,b2⟩:=h1.b r p (Ya.1 hr).1 hr x hx;obtain⟨m0,hm0,e⟩:=forth m hm;have e1:m0.f=m.f:=congrArg Prod.fst e;have e2:m0.ev=m.ev:=congrArg (fun q=>q.2.1) e;exact⟨m0,hm0,by rw[e1,b1],by rw[e2,b2]⟩
structure VN (S:List PSet) (M:List Mv):Prop where
 n:nxL M=(S.length:Int)
 a:∀(i:Nat) x,M[i]?=some x->x.t<=nxL (M.take i)/\x.f<nxL (M.take i)
theorem vn_snoc {S:List PSet} {M:List Mv} (h:VN S M) {x:Mv} {q:PSet} (hf:x.f<(S.length:Int)) (ht:x.t=(rowI S q:Nat)):VN (rowS S q) (M++[x]):=by
 have hle:rowI S q<=S.length:=by have h1:=rowI_le S q;have h2:=(rowS_len (S:=S) (p:=q)).1;omega
 refine⟨?_,fun i y hy=>?_⟩
 .rw[nxL_snoc,h.n,ht];unfold rowS;by_cases hq:q∈S
  .have:=rowI_lt.2 hq;rw[if_pos hq,if_neg (by omega)]
  .rw[if_neg hq,rowI_of_not hq,if_pos rfl,Yh,Yv];omega
 .by_cases c:i<M.length
  .rw[Yyi c] at hy;rw[Yyq (by omega)];exact h.a i y hy
  .have hl:=(Ya.1 hy).1;rw[Yh,Yv] at hl;have e:i=M.length:=by omega
   subst e;rw[Yyc (Yyt _),Nat.sub_self] at hy;cases hy;rw[Yyq (Yyt _),Yye,h.n,ht];exact⟨by omega,hf⟩
theorem arcsF_vn {es:List Ed} {role:Int} {i:Nat} {p:PSet}:∀(l:List Ev) (S:List PSet) (M:List Mv),i<S.length->VN S M->(∀m∈M,m.ag=false) ->
  VN (arcsF es role i p l S M).1 (arcsF es role i p l S M).2/\S.length<=(arcsF es role i p l S M).1.length/\∀m∈(arcsF es role i p l S M).2,m.ag=false
 | [],S,M,_,h,ha=>⟨h,Yyt _,ha⟩
 | x::r,S,M,hi,h,ha=>by
  rw[arcsF];have h1:=(rowS_len (S:=S) (p:=clo es role (toL es role p x))).2;obtain⟨g1,g2,g3⟩:=arcsF_vn (es:=es) (role:=role) (i:=i) (p:=p) r (rowS S (clo es role (toL es role p x))) (M++[⟨i,x.send,x.peer,x.label,rowI S (clo es role (toL es role p x)),false⟩]) (by omega) (vn_snoc h (by show ((i:Nat):Int)<_;omega) rfl) (fun m hm=>by
   rcases Yk.1 hm with hm | hm
   .exact ha m hm
   .rw[Ye] at hm;rw[hm])
  exact⟨g1,by omega,g3⟩
theorem viewsF_vn {es:List Ed} {role:Int}:∀(f i:Nat) (S:List PSet) (M:List Mv) {S':List PSet} {M':List Mv},VN S M->(∀m∈M,m.ag=false)->viewsF es role f i S M=some (S',M')->VN S' M'/\∀m∈M',m.ag=false
 | 0,i,S,M,S',M',_,_,h=>by cases h
 | f+1,i,S,M,S',M',h1,h2,h=>by
  rw[viewsF] at h;split at h
  .cases h;exact⟨h1,h2⟩
  .rename_i p hp;split at h
   .cases h
   .obtain⟨g1,_,g3⟩:=arcsF_vn (es:=es) (role:=role) (p:=p) (evs es role p) S M (Ya.1 hp).1 h1 h2;exact viewsF_vn f (i+1) _ _ g1 g3 h
theorem views_vn {g:Gl} {role:Int} {S:List PSet} {M:List Mv} (h:views g role=some (S,M)):VN S M/\∀m∈M,m.ag=false:=by
 unfold views at h;exact viewsF_vn 202 0 _ [] ⟨rfl,fun i x hx=>by simp at hx⟩ (fun m hm=>by cases hm) h
theorem arcsF_all {es:List Ed} {role:Int} {i:Nat} {p:PSet} {P:PSet->Prop} (hc:∀x,P (clo es role (toL es role p x))):∀(l:List Ev) (S:List PSet) (M:List Mv),(∀s∈S,P s)->∀s∈(arcsF es role i p l S M).1,P s
 | [],S,M,h=>h
 | x::r,S,M,h=>by
  rw[arcsF];refine arcsF_all hc r _ _ fun s hs=>?_;unfold rowS at hs;split at hs
  .exact h s hs
  .rcases Yk.1 hs with hs | hs
   .exact h s hs
   .rw[Ye.1 hs];exact hc x
theorem viewsF_all {es:List Ed} {role:Int} {P:PSet->Prop} (hc:∀p x,P (clo es role (toL es role p x))):∀(f i:Nat) (S:List PSet) (M:List Mv) {S':List PSet} {M':List Mv},(∀s∈S,P s)->viewsF es role f i S M=some (S',M')->∀s∈S',P s
 | 0,i,S,M,S',M',_,h=>by cases h
 | f+1,i,S,M,S',M',h1,h=>by
  rw[viewsF] at h;split at h
  .cases h;exact h1
  .rename_i p hp;split at h
   .cases h
   .exact viewsF_all hc f (i+1) _ _ (arcsF_all (hc p) _ _ _ h1) h
theorem views_lt {g:Gl} {role:Int} (hV:ValidS g) {S:List PSet} {M:List Mv} (h:views g role=some (S,M)):∀p∈S,∀j,p j=true->(j:Int)<g.n:=by
 unfold views at h;refine viewsF_all (P:=fun p=>∀j,p j=true->(j:Int)<g.n) (fun p x=>clo_lt hV (toL_lt hV)) 202 0 _ [] (fun s hs=>?_) h;rw[Ye.1 hs];refine clo_lt hV fun x hx=>?_;rw[Ye.1 hx];exact hV.num.R.s
theorem nxL_sk {l k:List Mv} (h:l.map skM=k.map skM):nxL l=nxL k:=by
 have e:∀l:List Mv,nxL l=(l.map skM).foldl (fun n q=>if q.2.2=n then n+1 else n) 1:=fun l=>by
  unfold nxL;rw[List.foldl_map];rfl
 rw[e,e,h]
theorem rawL_ag {vw:List Nat->Option Ti}:∀(n:Nat) (S:List PSet) (M:List Mv) (L:List To) {M':List Mv} {L':List To},(∀y∈M,y.ag=true->y.send=true)->rawL vw n S M L=some (M',L')->∀y∈M',y.ag=true->y.send=true
 | _,[],M,L,M',L',hM,h=>by cases h;exact hM
 | n,p::S,M,L,M',L',hM,h=>by
  rw[rawL] at h;cases hv:vw (elems p) with
  | none=>rw[hv] at h;cases h
  | some o=>
   rw[hv] at h;refine rawL_ag (n+1) S _ _ (fun y hy ha=>?_) h;obtain⟨z,hz,rfl⟩:=Yp.1 hy;have hs:=(updR_same n o z).2.1;rw[hs];unfold updR at ha;split at ha
   .rename_i c;exact c.2
   .exact hM z hz ha
theorem rawL_so {vw:List Nat->Option Ti}:∀(n:Nat) (S:List PSet) (M:List Mv) (L:List To) {M':List Mv} {L':List To},M.Pairwise mvLt->(L.Pairwise fun a b=>a.s<b.s)->(∀t∈L,t.s<(n:Int))->rawL vw n S M L=some (M',L')->L'.Pairwise fun a b=>a.s<b.s
 | _,[],M,L,M',L',_,hL,_,h=>by cases h;exact hL
 | n,p::S,M,L,M',L',hM,hL,hl,h=>by
  rw[rawL] at h;cases hv:vw (elems p) with
  | none=>rw[hv] at h;cases h
  | some o=>
   rw[hv] at h;replace h:rawL vw (n+1) S (M.map (updR n o)) (L++limR n o M)=some (M',L'):=h;have hup:∀x,(updR n o x).f=x.f/\(updR n o x).ev=x.ev:=fun x=>by
    obtain⟨h1,h2,h3,h4,h5⟩:=updR_same n o x;exact⟨h1,by unfold Mv.ev;rw[h2,h3,h4]⟩
   obtain⟨f1,f2⟩:=limR_facts (n:=n) (o:=o) hM;refine rawL_so (n+1) S (M.map (updR n o)) (L++limR n o M) ?_ ?_ ?_ h
   .rw[List.pairwise_map];refine hM.imp fun {a b} hab=>?_;unfold mvLt at hab ⊢;rw[(hup a).1,(hup b).1,(hup a).2,(hup b).2];exact hab
   .rw[List.pairwise_append];refine⟨hL,?_,fun a ha b hb=>?_⟩
    .generalize limR n o M=l at f1
     match l,f1 with
     | [],_=>exact List.Pairwise.nil
     | [a],_=>exact List.pairwise_singleton _ _
    .have h5:=hl a ha;have h6:=(f2 b hb).1;omega
   .intro t ht;rcases Yk.1 ht with ht | ht
    .have:=hl t ht;omega
    .have:=(f2 t ht).1;omega
theorem evs_send {g:Gl} {role:Int} {p:PSet} {e:Ev} (h:e∈evs g.es role p) (hs:e.send=true):∃z∈g.es,z.a=role/\0<=z.f/\z.f.toNat∈elems p/\e=⟨true,z.b,z.l⟩:=by
 obtain⟨n,hn1,hn2⟩:=List.mem_flatMap.1 ((sortE_mem _ _).1 h);obtain⟨a,ha1,rfl⟩:=Yp.1 hn2;unfold visL at ha1;obtain⟨y,hy,h2⟩:=Yym.1 ha1;split at h2
 .rename_i hyf;obtain⟨e',he',rfl⟩:=Yya.1 h2;unfold vis1 at he';split at he'
  .rename_i hr;cases he';exact⟨y,hy,hr.symm,by omega,by rw[hyf,Ys];exact hn1,rfl⟩
  .split at he'
   .cases he';cases hs
   .cases he'
 .cases h2
structure RowS (g:Gl) (role:Int) (p:PSet) (o:Ti) (z:Ed):Prop where
 zm:z∈g.es
 a:z.a=role
 el:z.f.toNat∈elems p
 ag:o.ag=z.ag
 k:(∃u∈g.ts,u.s=z.f/\o.k=u.k)\/o.k=0
 ev:∀e,e∈evs g.es role p ↔ ∃y∈g.es,y.f=z.f/\e=⟨true,y.b,y.l⟩
 ne:p g.e.toNat=false
theorem row_s {g:Gl} (hV:ValidS g) {role:Int} {p:PSet} {o:Ti} (ho:vwG g role (elems p)=some o) (hlt:∀j,p j=true->(j:Int)<g.n) {e:Ev} (he:e∈evs g.es role p) (hs:e.send=true):∃z,RowS g role p o z/\e=⟨true,z.b,z.l⟩:=by
 obtain⟨z,hz,ha,h0,hel,rfl⟩:=evs_send he hs;have hr:=hV.num.R.es z hz;have hn:=hV.num.R.n;obtain⟨hb,hT⟩:=viewV_row ho hel;obtain⟨t,k1,k2,k3⟩:=own_row hV hz ha;have hot:o=t:=hT t k1 k2;subst hot;have hev:=evs_own hV hz ha (elems_mem.1 hel).2 hb hlt;refine⟨z,⟨hz,ha,hel,k3.ag,?_,hev,?_⟩,rfl⟩
 .rcases k3.k with ⟨u,hu,h1,h2,_⟩ | ⟨h1,_⟩
  .exact .inl ⟨u,hu,h1,h2⟩
  .exact .inr h1
 .cases hpe:p g.e.toNat with
  | false=>rfl
  | true=>
   exfalso;have hge:=hV.num.R.e;have hzf:((z.f.toNat:Nat):Int)=z.f:=by omega
   have hsnd:sndAt (firstE g role ((z.f.toNat:Nat):Int)) 0=true:=by
    rw[hzf];have hm:(⟨true,z.b,z.l⟩:Ev)∈firstE g role z.f:=(first_own hV hz ha _).2 ⟨z,hz,rfl,rfl⟩;obtain⟨e0,h0⟩:=get_some (l:=firstE g role z.f) (i:=0) (List.length_pos_of_mem hm);unfold sndAt;rw[h0];obtain⟨y,_,_,he⟩:=(first_own hV hz ha e0).1 (Yb h0);rw[he]
   unfold badV at hb;rw[hsnd,Bool.true_and,Bool.or_eq_false_iff,List.any_eq_false] at hb;have h9:=hb.2 g.e.toNat (elems_mem.2 ⟨by omega,hpe⟩);rw[Bool.not_eq_true,Bool.or_eq_false_iff] at h9;have h10:firstB g role ((g.e.toNat:Nat):Int)=false:=h9.1;have h11:firstB g role ((g.e.toNat:Nat):Int)=true:=by
    unfold firstB;exact clo_iff.2 (.base (Ye.2 rfl))
   rw[h10] at h11;cases h11
theorem vis1_own {role:Int} {x:Ed} (h:x.a=role):vis1 role x=some ⟨true,x.b,x.l⟩:=by
 unfold vis1;rw[if_pos h.symm]
theorem ag_in {g:Gl} (hV:ValidS g) {z y:Ed} (hz:z∈g.es) (hy:y∈g.es) (hag:z.ag=true) (ht:y.t=z.f):y.a=z.a/\y.l=z.l:=by
 obtain⟨i,hi⟩:=Yf.1 hz;obtain⟨k,hk⟩:=Yf.1 hy;have h1:=hV.ord.p i z hi k y hk;unfold PairBad at h1;refine⟨Classical.byContradiction fun c=>h1 (.inr ⟨hag,ht,.inl fun e=>c e.symm⟩),Classical.byContradiction fun c=>h1 (.inr ⟨hag,ht,.inr fun e=>c e.symm⟩)⟩
theorem ag_one {g:Gl} (hV:ValidS g) {z y:Ed} (hz:z∈g.es) (hy:y∈g.es) (hag:z.ag=true) (hf:y.f=z.f):y=z:=by
 obtain⟨i,hi⟩:=Yf.1 hz;obtain⟨k,hk⟩:=Yf.1 hy;have h1:=hV.ord.p i z hi k y hk;unfold PairBad at h1;by_cases e:i=k
 .subst e;rw[hi] at hk;cases hk;rfl
 .exact absurd (.inl ⟨e,hf.symm,.inr (.inr hag)⟩) h1
theorem ag_base {g:Gl} (hV:ValidS g) {z:Ed} (hz:z∈g.es) (hag:z.ag=true) {l:List Int} (h:Qr g.es z.a l z.f):z.f∈l:=by
 cases h with
 | base h=>exact h
 | step _ hst=>
  obtain⟨y,hy,hv,_,ht⟩:=hst;rw[vis1_own (ag_in hV hz hy hag ht).1] at hv;cases hv
theorem srt_wm {w:Mch} (hN:NumM w) (hD:DetM w) (hT:TimM w) (hS:w.mv.Pairwise mvLt):srtM w=w:=by
 have e:srtV w=w.mv:=srt_ext mvLt_irr (fun a b c=>mvLt_trans) (srtV_lt hD) hS fun x=>srtV_mem hN;have hnd:w.mv.Nodup:=hS.imp fun {a b} hab (e:a=b)=>mvLt_irr b (by rw[e] at hab;exact hab);have hl:w.li.map (srtE w)=w.li:=by
  have h1:w.li.map (srtE w)=w.li.map id:=List.map_congr_left fun t ht=>by
   obtain⟨i,hi⟩:=Yf.1 ht;obtain⟨h0,x,hx,_⟩:=(hT i t hi).e;have h2:idxF w.mv x=t.e.toNat:=by
    have h3:=idxF_get (Yb hx);exact (List.getElem?_inj (idxF_lt (Yb hx)) hnd).1 (by rw[h3,hx])
   show (⟨t.s,t.k,((idxF (srtV w) (w.mv.getD t.e.toNat ⟨0,false,0,0,0,false⟩):Nat):Int)⟩:To)=t;rw[e,getD_some hx,h2,Int.toNat_of_nonneg h0]
  rw[h1,List.map_id]
 unfold srtM;rw[e,hl]
theorem raw_vm {g:Gl} {role:Int} {w:Mch} (h:raw g role=(some w,0)):VM w/\srtM w=w:=by
 obtain⟨⟨hV,hr0,hr1⟩,S,hR,M,hvw,hrl⟩:=raw_v26 h;have hr6:=hV.nam.n6;have hd40:=hV.dcl.pn;obtain⟨hO,hso⟩:=raw_ok (by omega) (by omega) h;obtain⟨hvn,hva⟩:=views_vn hvw;obtain⟨hvi,hS2,hS1⟩:=views_vi hV hvw;have hsk:=rawL_sk 0 S M [] hrl;have hn:=hR.n;have hn200:=hO.n;have hge:=hV.num.R.e;have row:∀x∈w.mv,∃(r:Nat) (p:PSet) (o:Ti),x.f=(r:Int)/\r<S.length/\S[r]?=some p/\x.ev∈evs g.es role p/\vwG g role (elems p)=some o/\(x.send=true->x.ag=o.ag)/\(∀j,p j=true->(j:Int)<g.n)/\∃t:Nat,x.t=(t:Int)/\S[t]?=some (clo g.es role (toL g.es role p x.ev)):=fun x hx=>by
  obtain⟨r,p,h1,h2,h3,h4,t,h5,h6⟩:=hR.a x hx;obtain⟨o,ho,ha,_,_⟩:=rawL_row 0 S M [] hrl (fun t ht=>by cases ht) r p h3;rw[Nat.zero_add] at ha;exact⟨r,p,o,h1,h2,h3,h4,ho,ha x hx h1,views_lt hV hvw p (Yb h3),t,h5,h6⟩
 have hmv:∀x∈w.mv,0<=x.peer/\x.peer<6/\x.peer≠w.role/\0<=x.label/\x.label<40:=fun x hx=>by
  obtain⟨r,p,o,h1,h2,h3,h4,_⟩:=row x hx;obtain⟨n,hn1,hn2⟩:=List.mem_flatMap.1 ((sortE_mem _ _).1 h4);obtain⟨a,ha1,ha2⟩:=Yp.1 hn2;unfold visL at ha1;obtain⟨y,hy,h6⟩:=Yym.1 ha1;have hE:=hV.num.e y hy;unfold EdS at hE;rw[hR.ro];split at h6
  .obtain⟨e',he',rfl⟩:=Yya.1 h6;unfold vis1 at he';split at he'
   .cases he';have e1:y.b=x.peer:=congrArg Ev.peer ha2;have e2:y.l=x.label:=congrArg Ev.label ha2;omega
   .split at he'
    .cases he';have e1:y.a=x.peer:=congrArg Ev.peer ha2;have e2:y.l=x.label:=congrArg Ev.label ha2;omega
    .cases he'
  .cases h6
 have hN:NumM w:=by
  refine⟨by rw[hR.ro];omega,hO.n,hO.s,by have:=hO.fl;omega,hO.ml,fun x hx=>?_⟩;have h1:=hO.mv x hx;have h2:=hmv x hx;omega
 have one:∀ {i k:Nat} {x y:Mv},w.mv[i]?=some x->w.mv[k]?=some y->x.f=y.f->x.ev=y.ev->i=k:=fun hx hy hf he=>mv_pos hso hx hy hf he;have same:∀ {x y:Mv},x∈w.mv->y∈w.mv->x.f=y.f->x.send=true->y.send=true:=fun {x y} hx hy hf hs=>by
  obtain⟨r,p,o,h1,h2,h3,h4,h5,_,hlt,_⟩:=row x hx;obtain⟨r',p',o',h1',h2',h3',h4',_⟩:=row y hy;have:r=r':=by omega
  subst this;rw[h3] at h3';cases h3';obtain⟨z,hz,_⟩:=row_s hV h5 hlt h4 hs;obtain⟨y',_,_,he⟩:=(hz.ev _).1 h4';exact congrArg Ev.send he
 have hD:DetM w:=fun i k x y hx hy hne hf=>by
  refine⟨fun he=>hne (one hx hy hf he),?_⟩;have hxm:=Yb hx;have hym:=Yb hy;cases hxs:x.send with
  | true=>exact (same hxm hym hf hxs).symm
  | false=>
   cases hys:y.send with
   | false=>rfl
   | true=>rw[same hym hxm hf.symm hys] at hxs;cases hxs
 have hags:=rawL_ag 0 S M [] (fun y hy ha=>by rw[hva y hy] at ha;cases ha) hrl
 have agz:∀x∈w.mv,x.ag=true->∃(r:Nat) (p:PSet) (o:Ti) (z:Ed),x.f=(r:Int)/\S[r]?=some p/\RowS g role p o z/\x.ev=⟨true,z.b,z.l⟩/\z.ag=true:=fun x hx ha=>by
  obtain⟨r,p,o,h1,h2,h3,h4,h5,h6,hlt,_⟩:=row x hx;have hs:=hags x hx ha;obtain⟨z,hz,he⟩:=row_s hV h5 hlt h4 hs;exact⟨r,p,o,z,h1,h3,hz,he,by rw[<-hz.ag,<-h6 hs];exact ha⟩
 have hA:AgM w:=by
  refine⟨hags,fun x hx ha=>?_,fun x hx ha=>?_,fun x hx ha=>?_,fun x hx ha y hy ht=>?_⟩
  .obtain⟨r,p,o,z,h1,h3,hz,he,hzag⟩:=agz x hx ha;obtain⟨i,hi⟩:=Yf.1 hx;have hall:∀k∈outIx w x.f,k=i:=fun k hk=>by
    obtain⟨y,hy,hf⟩:=outIx_mem.1 hk;obtain⟨r',p',o',h1',h2',h3',h4',_⟩:=row y (Yb hy);have:r=r':=by omega
    subst this;rw[h3] at h3';cases h3';obtain⟨y',hy',hf',he'⟩:=(hz.ev _).1 h4';rw[ag_one hV hz.zm hy' hzag hf'] at he';exact one hy hi hf (by rw[he,he'])
   have hmem:i∈outIx w x.f:=outIx_mem.2 ⟨x,hi,rfl⟩;have hnd:=outIx_nodup w x.f;generalize outIx w x.f=O at hall hmem hnd
   match O,hall,hmem,hnd with
   | [],_,hm,_=>cases hm
   | [a],_,_,_=>rfl
   | a::b::O,hall,_,hnd=>
    exfalso;have e1:=hall a Yx;have e2:=hall b (Yn _ Yx);rw[e1,e2] at hnd;exact (List.nodup_cons.1 hnd).1 Yx
  .obtain⟨r,p,o,z,h1,h3,hz,he,hzag⟩:=agz x hx ha;intro hf;rw[hR.s] at hf;have:r=0:=by omega
   subst this;rw[hR.z] at h3;cases h3;have hr:=hV.num.R.es z hz.zm;have hq:=clo_iff.1 (elems_mem.1 hz.el).2;rw[Int.toNat_of_nonneg hr.1] at hq;rw[<-hz.a] at hq;exact hV.ord.s z hz.zm hzag (Ye.1 (ag_base hV hz.zm hzag hq))
  .obtain⟨r,p,o,z,h1,h3,hz,he,hzag⟩:=agz x hx ha;rw[hR.f,h1,Ys,Yd,h3];show some (p g.e.toNat)=some false;rw[hz.ne]
  .obtain⟨r,p,o,z,h1,h3,hz,he,hzag⟩:=agz x hx ha;obtain⟨r',p',o',_,_,_,h4',_,_,_,t,h7,h8⟩:=row y hy;have:t=r:=by omega
   subst this;rw[h3] at h8;cases h8;have hr:=hV.num.R.es z hz.zm;have hq:=clo_iff.1 (elems_mem.1 hz.el).2;rw[Int.toNat_of_nonneg hr.1] at hq;rw[<-hz.a] at hq;have hin:=ag_base hV hz.zm hzag hq;unfold toL at hin;obtain⟨n,_,h9⟩:=List.mem_flatMap.1 hin;obtain⟨a,ha9,h10⟩:=Yym.1 h9;split at h10
   .rename_i hax;replace h10:=Yyp h10;unfold visL at ha9;obtain⟨u,hu,h11⟩:=Yym.1 ha9;split at h11
    .obtain⟨e',he',rfl⟩:=Yya.1 h11;replace h10:u.t=z.f:=h10;replace hax:e'=y.ev:=hax;obtain⟨g1,g2⟩:=ag_in hV hz.zm hu hzag h10;rw[vis1_own g1] at he';cases he';have e1:true=y.send:=congrArg Ev.send hax;have e2:u.l=y.label:=congrArg Ev.label hax;have e3:x.label=z.l:=congrArg Ev.label he;exact⟨e1.symm,by omega⟩
    .cases h11
   .cases h10
 have hT:TimM w:=by
  have hls:=rawL_so 0 S M [] hvi.so List.Pairwise.nil (fun t ht=>by cases ht) hrl;intro i t hi;have htm:=Yb hi;obtain⟨hs0,hs1,he0,he1,_⟩:=hO.li t htm;obtain⟨p,hp⟩:=get_some (l:=S) (i:=t.s.toNat) (by omega);obtain⟨o,ho,ha,hl,_⟩:=rawL_row 0 S M [] hrl (fun t ht=>by cases ht) t.s.toNat p hp;rw[Nat.zero_add] at ha hl;obtain⟨k1,k2,y,k3,k4,k5,k6⟩:=hl t htm (by omega);have hym:=Yb k3;obtain⟨r,p',o',h1,h2,h3,h4,h5,h6,hlt,_⟩:=row y hym;have:r=t.s.toNat:=by omega
  subst this;rw[hp] at h3;cases h3;rw[ho] at h5;cases h5;obtain⟨z,hz,he⟩:=row_s hV ho hlt h4 k5;rcases hz.k with ⟨u,hu,hu1,hu2⟩ | h0
  .obtain⟨j,hj⟩:=Yf.1 hu;have hu3:=hV.tim j u hj;obtain⟨_,x,hx,hxf,hxa⟩:=hu3.e;have hza:z.ag=false:=by
    rw[<- (row_same hV (Yb hx) hz.zm (by omega)).2];exact hxa
   refine⟨fun z hpos hz=>?_,?_,he0,y,k3,by omega,k5,?_⟩
   .obtain⟨a1,a2⟩:=Ya.1 hz;obtain⟨b1,b2⟩:=Ya.1 hi;have h:=List.pairwise_iff_getElem.1 hls (i-1) i a1 b1 (by omega);rw[a2,b2] at h;exact h
   .have:=hu3.k;omega
   .rw[h6 k5,hz.ag,hza]
  .omega
 have hRc:RchM w:=by
  refine num_reach ?_ (fun i x hx=>?_) hR.s fun x hx=>(hN.mv x hx).1
  .rw[nxL_sk hsk,hvn.n,hn]
  .have h1:(w.mv.take i).map skM=(M.take i).map skM:=by rw[List.map_take,hsk,<-List.map_take]
   rw[nxL_sk h1];have h2:(M.map skM)[i]?=some (skM x):=by rw[<-hsk,Yd,hx];rfl
   rw[Yd] at h2;obtain⟨y,hy,e⟩:=Yya.1 h2;have e1:y.f=x.f:=congrArg Prod.fst e;have e3:y.t=x.t:=congrArg (fun q=>q.2.2) e;rw[<-e1,<-e3];exact hvn.a i y hy
 exact⟨⟨hN,hD,hRc,hA,hT⟩,srt_wm hN hD hT hso⟩
end Go.VC
end

section
namespace Go.VC
open Go.Proofs Go.LexS
theorem refProject13 (g:Gl) (role:Int) (h:Heap) (hg:GI h g) (hM:GNm g.ds) :
  Fn Pz 13 #[g.v,.int .i64 role] h fun v h'=>Ext h h'/\MaR (proj g role) h h' v:=by
 apply vc13 (bs g.nm) g.hr g.hd g.n g.s g.e g.he g.ht;unfold W13;have hs:=St.refl h;refine hs.newb fun h9 hs=>?_;refine hs.newb fun h10 hs=>?_;refine⟨_,_,_,_,_,_,_,_,hs.at 1 rfl (n:=8) rfl,?_⟩;refine (refRaw15 g role h10 (hg.ext hs.ext) hM).mono ?_;rintro _ h27 ⟨E27,hr⟩;cases hr with
 | @err e he h0=>
  replace hs:=hs.step E27;refine⟨0,0,0,⟨none,0,0⟩,⟨none,0,0⟩,⟨none,0,0⟩,e,rfl,?_⟩;refine hs.newput (vs:=m0) rfl rfl fun h29 hs=>?_;refine sBn (fun c1=>?_) (fun c1=>absurd c1 h0);refine hs.put 1 rfl (o:=0) (vs:=m0) rfl (by decide) fun h30 hs=>?_;refine⟨0,0,0,⟨none,0,0⟩,⟨none,0,0⟩,⟨none,0,0⟩,hs.at 1 rfl (n:=6) rfl,hs.ext,?_⟩;exact .err (by unfold proj;rw[he]) h0
 | @ok m sf sm sl he hm=>
  obtain⟨hO,hS⟩:=raw_ok hg.r.sm hg.d.r.sm he;obtain⟨hVM,hsrt⟩:=raw_vm he;replace hs:=hs.join hm;refine⟨m.role,m.n,m.s,sf,sm,sl,0,rfl,?_⟩;refine hs.newput (vs:=mC m sf sm sl) rfl rfl fun h29 hs=>?_;refine sBn (fun c1=>absurd rfl c1) (fun _=>?_);refine⟨_,_,_,sf,sm,sl,hs.at 0 rfl (n:=6) rfl,?_⟩;have hfl:=hO.fl;have hn:=hO.n;have hml:=hO.ml;have hll:=hO.ll;refine (minimal77 m sf sm sl h29 (hs.mi 3 rfl rfl rfl (by omega) (by omega) (by omega)) hVM.w).mono ?_;rw[hsrt];rintro _ h50 ⟨sf',sm',sl',rfl,hs2⟩;replace hs:=hs.join hs2;refine⟨_,_,_,sf',sm',sl',rfl,?_⟩;refine hs.put 1 rfl (o:=0) (vs:=mC (minF m) sf' sm' sl') rfl (show 6<=6 by decide) fun h51 hs=>?_;refine⟨_,_,_,sf',sm',sl',hs.at 1 rfl (n:=6) rfl,hs.ext,?_⟩;exact .ok (m:=minF m) (by unfold proj;rw[he]) (hs.drop 6)
def maM (o:Option Mch × Int):Mch:=o.1.getD ⟨0,0,0,[],[],[]⟩
theorem MaR.u {o:Option Mch × Int} {h h':Heap} {v:Value} (E:Ext h h') (hr:MaR o h h' v):∃sf sm sl:Sl,v=.tuple ⟨[.agg ⟨mC (maM o) sf sm sl⟩,.int .i64 o.2]⟩/\St h h' (mL (maM o) sf sm sl):=by
 cases hr with
 | err he h0=>
  subst he;exact⟨⟨none,0,0⟩,⟨none,0,0⟩,⟨none,0,0⟩,rfl,((((St.refl h).step E).nil_ 63 3).nil_ 45 6).nil_ 4 1⟩
 | @ok m sf sm sl he hs=>
  subst he;exact⟨sf,sm,sl,rfl,hs⟩
theorem raw_e {g:Gl} {role:Int} {m:Mch} (h:(raw g role).1=some m):raw g role=(some m,0):=by
 unfold raw at h ⊢;split at h
 .cases h
 .rename_i hv;rw[if_neg hv];split at h
  .cases h
  .rename_i S M hvw;split at h
   .cases h
   .rename_i hm;split at h
    .cases h
    .rename_i M' L hrl;cases h;exact if_neg hm
def McS (m:Mch):Prop:=m.fin.length<=1048576/\m.mv.length<=1048576/\m.li.length<=1048576
theorem mcS_none:McS ⟨0,0,0,[],[],[]⟩:=⟨by decide,by decide,by decide⟩
theorem raw_s {g:Gl} {role:Int} (hr:g.rs.length<=1048576) (hd:g.ds.length<=1048576):McS (maM (raw g role)):=by
 unfold maM;cases h:(raw g role).1 with
 | none=>exact mcS_none
 | some m=>
  obtain⟨hO,_⟩:=raw_ok hr hd (raw_e h);have h1:=hO.fl;have h2:=hO.n;have h3:=hO.ml;have h4:=hO.ll;show McS m;unfold McS;omega
theorem proj_s {g:Gl} {role:Int} (hr:g.rs.length<=1048576) (hd:g.ds.length<=1048576):McS (maM (proj g role)):=by
 unfold maM;cases h:(proj g role).1 with
 | none=>exact mcS_none
 | some m=>
  have he:proj g role=(some m,0):=by
   unfold proj at h ⊢;split at h
   .rename_i w e hw;cases h;rfl
   .cases h
  obtain⟨hG,_,h3,h4⟩:=proj_law hr hd m he;have h1:=hG.fl;have h2:=hG.n;show McS m;unfold McS;omega
theorem projectMachines (g:Gl) (role:Int) (h:Heap) (hg:GI h g) (hx:Gx h) (hM:GNm g.ds):Fn Pz 3 #[g.v,.int .i64 role] h fun v h'=>v=.bool true/\Ext h h':=by
 apply vc3 (bs g.nm) g.hr g.hd g.n g.s g.e g.he g.ht;unfold W3;obtain⟨pf,pm,pl⟩:=proj_s (role:=role) hg.r.sm hg.d.r.sm;obtain⟨rf,rm,rl⟩:=raw_s (role:=role) hg.r.sm hg.d.r.sm;refine (St.refl h).newb fun h9 hs=>?_;refine (awake10 h9 (hx.ext hs.ext)).mono ?_;rintro _ h12 ⟨rfl,E⟩;have hs:=hs.step E;refine⟨true,rfl,sB_f rfl ?_⟩;refine⟨_,_,_,_,_,_,_,_,hs.at 0 rfl (o:=0) (n:=8) rfl,?_⟩;refine (few11 g h12 (hg.ext hs.ext)).mono ?_;rintro _ h23 ⟨rfl,E⟩;have hs:=hs.step E;refine⟨_,rfl,sB_intro (fun _=>⟨rfl,hs.ext⟩) (fun _=>?_)⟩;refine⟨_,_,_,_,_,_,_,_,hs.at 0 rfl (o:=0) (n:=8) rfl,?_⟩;refine (project12 g role h23 (hg.ext hs.ext) (hx.ext hs.ext)).mono ?_;rintro _ h40 ⟨E,hr⟩;obtain⟨f1,m1,l1,rfl,hs1⟩:=hr.u E;have hs:=hs.join hs1;refine⟨_,_,_,f1,m1,l1,_,rfl,?_⟩;refine hs.newput (vs:=mC (maM (proj g role)) f1 m1 l1) rfl rfl fun h42 hs=>?_;refine⟨_,_,_,_,_,_,_,_,hs.at 1 rfl (o:=0) (n:=8) rfl,?_⟩;refine (refProject13 g role h42 (hg.ext hs.ext) hM).mono ?_;rintro _ h59 ⟨E,hr⟩;obtain⟨f2,m2,l2,rfl,hs2⟩:=hr.u E;have hs:=hs.join hs2;refine⟨_,_,_,f2,m2,l2,_,rfl,?_⟩;refine hs.newput (vs:=mC (maM (proj g role)) f2 m2 l2) rfl rfl fun h61 hs=>?_;refine⟨_,_,_,_,_,_,_,_,hs.at 2 rfl (o:=0) (n:=8) rfl,?_⟩;refine (raw14 g role h61 (hg.ext hs.ext) (hx.ext hs.ext)).mono ?_;rintro _ h78 ⟨E,hr⟩;obtain⟨f3,m3,l3,rfl,hs3⟩:=hr.u E;have hs:=hs.join hs3;refine⟨_,_,_,f3,m3,l3,_,rfl,?_⟩;refine hs.newput (vs:=mC (maM (raw g role)) f3 m3 l3) rfl rfl fun h80 hs=>?_;refine⟨_,_,_,_,_,_,_,_,hs.at 3 rfl (o:=0) (n:=8) rfl,?_⟩;refine (refRaw15 g role h80 (hg.ext hs.ext) hM).mono ?_;rintro _ h97 ⟨E,hr⟩;obtain⟨f4,m4,l4,rfl,hs4⟩:=hr.u E;have hs:=hs.join hs4;refine⟨_,_,_,f4,m4,l4,_,rfl,?_⟩;refine hs.newput (vs:=mC (maM (raw g role)) f4 m4 l4) rfl rfl fun h99 hs=>?_;refine sB_t (by simp) (sB_t (by simp) ?_);refine⟨_,_,_,f1,m1,l1,hs.at 3 rfl (o:=0) (n:=6) rfl,_,_,_,f2,m2,l2,hs.at 2 rfl (o:=0) (n:=6) rfl,?_⟩;refine (same17 _ _ f1 m1 l1 f2 m2 l2 h99 (hs.mi 5 rfl rfl rfl pf pm pl) (hs.mi 8 rfl rfl rfl pf pm pl)).mono ?_;rintro _ h114 ⟨⟨b,rfl,hb⟩,E⟩;have hs:=hs.step E;obtain rfl:b=true:=hb.2 rfl;refine⟨true,rfl,sB_t rfl ?_⟩;refine⟨_,_,_,f3,m3,l3,hs.at 1 rfl (o:=0) (n:=6) rfl,_,_,_,f4,m4,l4,hs.at 0 rfl (o:=0) (n:=6) rfl,?_⟩;refine (same17 _ _ f3 m3 l3 f4 m4 l4 h114 (hs.mi 11 rfl rfl rfl rf rm rl) (hs.mi 14 rfl rfl rfl rf rm rl)).mono ?_;rintro _ h129 ⟨⟨b2,rfl,hb2⟩,E⟩;obtain rfl:b2=true:=hb2.2 rfl;exact⟨true,rfl,rfl,(hs.step E).ext⟩
end Go.VC
end

section
namespace Go.VC
open Go.Proofs Go.LexS Go.RowKit Go.ChangeShapes Go.WideShapes Go.Proofs.YtfdhgcladnbdeaaGreatDoor
theorem bulk_pos {H:Type} (d:DataW H):1<=Rows.uptoBulk d:=by
 cases d with
 | lit l=>cases l<;>simp[Rows.uptoBulk]
 | _=>simp[Rows.uptoBulk]
theorem bulk_part {H:Type}:∀ {l:List (DataW H)} {d:DataW H},d∈l->Rows.uptoBulk d<=Rows.uptoBulkAll l
 | [],_,h=>by cases h
 | x::r,d,h=>by
  rw[Rows.uptoBulkAll];rcases Yr.1 h with rfl | h
  .omega
  .have:=bulk_part h;omega
theorem bulk_len {H:Type}:∀l:List (DataW H),l.length<=Rows.uptoBulkAll l
 | []=>by simp
 | x::r=>by
  have h1:=bulk_pos x;have h2:=bulk_len r;rw[Rows.uptoBulkAll,Yyj];omega
def Rdb (P:Program) (W:World) (t:TypeId) (cs:List Value):Prop:=
 ∃(H:Type) (enc:TypeId × Value->H) (n:Nat) (x:DataW H × List MemPlace),DataW.trod enc P W 0 (fun _=>true) true n t cs=some x/\Rows.uptoBulk x.1<=1048576
theorem Rdb.rdt {P:Program} {W:World} {t:TypeId} {cs:List Value} (h:Rdb P W t cs):Rdt P W t cs:=by
 obtain⟨H,enc,n,x,h1,_⟩:=h;exact⟨H,enc,n,x,h1⟩
theorem rdb_of_trod {H:Type} {enc:TypeId × Value->H} {P:Program} {W:World} {t:TypeId} {v:Value} {d:DataW H} {p:List MemPlace} (h:DataW.Trod enc P W 0 (fun _=>true) true t v d p) (hw:Rows.uptoBulk d<=1048576):Rdb P W t v.cells.toList:=by
 obtain⟨n,h⟩:=h;exact⟨H,enc,n,_,h,hw⟩
theorem Rdb.field {P:Program} {W:World} {t ft:TypeId} {cs:List Value} {i off:Nat} (h:Rdb P W t cs) (hf:fieldAt P t i=some (ft,off)):Rdb P W ft ((cs.drop off).take (P.cellsOf ft)):=by
 unfold fieldAt at hf;split at hf
 .rename_i fs hu;obtain⟨f,h1,h2⟩:=Yya.1 hf;cases h2;obtain⟨H,enc,n,x,h,hw⟩:=h;obtain⟨xs,m,_,hx,hl,hxl,hfi⟩:=DataW.trod_struct hu h;have hlt:i<xs.length:=by rw[hxl];exact (Yyg.1 h1).1
  refine⟨H,enc,m,xs[i],by rw[hfi i f h1,Yi hlt],?_⟩;rw[hx,Rows.uptoBulk] at hw;have:=bulk_part (l:=xs.map (·.1)) (d:=xs[i].1) (Yp.2 ⟨xs[i],List.getElem_mem hlt,rfl⟩);omega
 .cases hf
theorem Rdb.rows {P:Program} {W:World} {t e:TypeId} {cs:List Value} (ht:P.underlying t=some (.slice e)) (h:Rdb P W t cs) (hpos:0<P.cellsOf e) :
  ∃(s:Sl) (rows:List (List Value)),cs=[.slice s.a s.n s.c]/\s.n<=s.c/\s.n<=1048576/\(s.a=none->s.n=0/\s.c=0)/\Rw W.heap (P.cellsOf e) s rows/\∀r∈rows,r.length=P.cellsOf e/\Rdb P W e r:=by
 obtain⟨H,enc,n,x,h,hw⟩:=h;rcases DataW.trod_slice ht h with ⟨rfl,_⟩ | ⟨a,len,cap,elems,rest,m,_,rfl,hx,_,hlc,hcm,hel,helem,_,_⟩
 .exact⟨⟨none,0,0⟩,[],rfl,Yyt _,Nat.zero_le _,fun _=>⟨rfl,rfl⟩,Rw.nil,fun r hr=>by cases hr⟩
 .rw[hx,Rows.uptoBulk] at hw;have hle:len<=1048576:=by
   have:=bulk_len (elems.map (·.1));rw[Yc] at this;omega
  have hwe:∀(i:Nat) (hi:i<elems.length),Rows.uptoBulk elems[i].1<=1048576:=fun i hi=>by
   have:=bulk_part (l:=elems.map (·.1)) (d:=elems[i].1) (Yp.2 ⟨elems[i],List.getElem_mem hi,rfl⟩);omega
  by_cases h0:len=0
  .subst h0;exact⟨⟨some a,0,cap⟩,[],rfl,hlc,hle,fun e=>(by cases e),Rw.empty rfl,fun r hr=>by cases hr⟩
  .have hrow:∀i,i<len->∃r,W.cells? 0 (a.add (i*P.cellsOf e)) (P.cellsOf e)=some r/\Rdb P W e r:=by
    intro i hi;have h1:=helem i hi;rw[Yi (by omega)] at h1;obtain⟨r,hr,hx2⟩:=Option.bind_eq_some_iff.1 h1;exact⟨r,hr,H,enc,m,_,hx2,hwe i (by omega)⟩
   let row:Nat->List Value:=fun i=>(W.cells? 0 (a.add (i*P.cellsOf e)) (P.cellsOf e)).getD []
   have hrow':∀i,i<len->W.cells? 0 (a.add (i*P.cellsOf e)) (P.cellsOf e)=some (row i)/\Rdb P W e (row i):=fun i hi=>by
    obtain⟨r,hr,hx⟩:=hrow i hi;have:row i=r:=by show (W.cells? 0 _ _).getD []=r;rw[hr];rfl
    rw[this];exact⟨hr,hx⟩
   have hget:∀i,i<len->((List.range len).map row)[i]?=some (row i):=fun i hi=>by
    rw[Yd,Yyb hi];rfl
   have hspot:a=⟨a.block,a.off,none⟩:=by
    have hc:=(cells_at (hrow' 0 (by omega)).1);have hl0:0<(row 0).length:=by rw[hc.1];exact hpos
    have:=hc.2 0 _ (Yi hl0);rw[Nat.zero_mul,show (a.add 0).add 0=a from rfl] at this;unfold World.cell? at this;split at this
    .split at this
     .cases this
     .rename_i hs;cases a with
      | mk b o s=>
       cases s with
       | none=>rfl
       | some s=>exact absurd rfl hs
    .cases this
   refine⟨⟨some a,len,cap⟩,(List.range len).map row,rfl,hlc,hle,fun e=>(by cases e),⟨by simp,fun _=>⟨a.block,a.off,by rw[<-hspot],fun i r hi j v hj=>?_⟩⟩,fun r hr=>?_⟩
   .have hil:i<len:=by have:=(Ya.1 hi).1;simpa using this
    rw[hget i hil] at hi;cases hi;have h4:=(cells_at (hrow' i hil).1).2 _ _ hj;rw[hspot] at h4;have e:((⟨a.block,a.off,none⟩:Addr).add (i*P.cellsOf e)).add j=addk ⟨a.block,a.off+i*P.cellsOf e,none⟩ j:=by
     rw[addk_at,add_n,add_n]
    rw[e] at h4;exact h4
   .obtain⟨i,hi,rfl⟩:=Yp.1 hr;have:=hrow' i (List.mem_range.1 hi);exact⟨(cells_at this.1).1,this.2⟩
theorem Rdb.list {α:Type} {P:Program} {W:World} {t e:TypeId} {k:Nat} {v:Value} {cs:α->List Value} {Q:α->Prop} (ht:P.underlying t=some (.slice e)) (hk:P.cellsOf e=k) (hpos:0<k)
  (ho:∀r,Rdb P W e r->∃x,r=cs x/\Q x) (h:Rdb P W t [v]):∃(s:Sl) (L:List α),v=.slice s.a s.n s.c/\RL W.heap k s cs L/\∀x∈L,Q x:=by
 subst hk;obtain⟨s,rows,e1,hc,hm,hna,hrw,hr⟩:=h.rows ht hpos;have key:∀rows:List (List Value),(∀r∈rows,r.length=P.cellsOf e/\Rdb P W e r)->∃L:List α,rows=L.map cs/\∀x∈L,Q x:=by
  intro rows
  induction rows with
  | nil=>intro _;exact⟨[],rfl,fun x hx=>by cases hx⟩
  | cons r rows ih=>
   intro h;obtain⟨x,hx,hq⟩:=ho r (h r (by simp)).2;obtain⟨L,hL,hQ⟩:=ih fun y hy=>h y (Yn _ hy);exact⟨x::L,by rw[hx,hL];rfl,fun y hy=>by rcases Yr.1 hy with rfl | hy;exact hq;exact hQ y hy⟩
 obtain⟨L,rfl,hQ⟩:=key rows hr;have hn:=hrw.ln;exact⟨s,L,by simpa using e1,⟨hrw,hc,hna,by omega⟩,hQ⟩
theorem v3:Pz.underlying 3=some (.int .i64):=by kernel_rfl
theorem v4b:Pz.underlying 4=some .bool:=by kernel_rfl
theorem v9:Pz.underlying 9=some .string:=by kernel_rfl
theorem cz3:Pz.cellsOf 3=1:=by kernel_rfl
theorem cz4:Pz.cellsOf 4=1:=by kernel_rfl
theorem cz9:Pz.cellsOf 9=1:=by kernel_rfl
theorem cz22:Pz.cellsOf 22=1:=by kernel_rfl
theorem cz23:Pz.cellsOf 23=1:=by kernel_rfl
theorem cz24:Pz.cellsOf 24=1:=by kernel_rfl
theorem cz25:Pz.cellsOf 25=1:=by kernel_rfl
theorem cz27:Pz.cellsOf 27=8:=by kernel_rfl
theorem cz53:Pz.cellsOf 53=3:=by kernel_rfl
theorem cz55:Pz.cellsOf 55=6:=by kernel_rfl
theorem cz63:Pz.cellsOf 63=3:=by kernel_rfl
theorem cz130:Pz.cellsOf 130=1:=by kernel_rfl
theorem cz131:Pz.cellsOf 131=1:=by kernel_rfl
theorem cz132:Pz.cellsOf 132=1:=by kernel_rfl
theorem cz134:Pz.cellsOf 134=2:=by kernel_rfl
theorem cz136:Pz.cellsOf 136=5:=by kernel_rfl
theorem cz182:Pz.cellsOf 182=3:=by kernel_rfl
theorem cz184:Pz.cellsOf 184=4:=by kernel_rfl
theorem cz187:Pz.cellsOf 187=3:=by kernel_rfl
theorem cz189:Pz.cellsOf 189=2:=by kernel_rfl
theorem vs22:Pz.underlying 22=some (.slice 9):=by kernel_rfl
theorem vs23:Pz.underlying 23=some (.slice 136):=by kernel_rfl
theorem vs24:Pz.underlying 24=some (.slice 55):=by kernel_rfl
theorem vs25:Pz.underlying 25=some (.slice 63):=by kernel_rfl
theorem vs130:Pz.underlying 130=some (.slice 184):=by kernel_rfl
theorem vs131:Pz.underlying 131=some (.slice 187):=by kernel_rfl
theorem vs132:Pz.underlying 132=some (.slice 189):=by kernel_rfl
theorem va189:Pz.underlying 189=some (.array 2 3):=by kernel_rfl
theorem Rdb.str {P:Program} {W:World} {t:TypeId} {cs:List Value} (ht:P.underlying t=some .string) (h:Rdb P W t cs):∃s:ByteArray,cs=[.string s]/\s.size<=1048576:=by
 obtain⟨H,enc,n,x,h,hw⟩:=h;obtain⟨m,h1,hx,_⟩:=DataW.trod_string ht h;refine⟨m,h1,?_⟩;rw[hx,Rows.uptoBulk] at hw;have e:m.data.toList.length=m.size:=rfl;omega
theorem open_name {W:World} {r:List Value} (h:Rdb Pz W 9 r):∃x:Nm,r=nmC x/\True:=by
 obtain⟨s,e,_⟩:=h.rdt.str v9;exact⟨s.data.toList,by rw[e];rfl,trivial⟩
theorem open_field {W:World} {r:List Value} (h:Rdb Pz W 184 r):∃x:Fld,r=x.cs/\True:=by
 have hl:=h.rdt.flen (i:=0) (ft:=9) (off:=0) (by kernel_rfl);rw[cz184] at hl
 match r,hl with
 | [x0,x1,x2,x3],_=>
  have f0:=h.rdt.field (i:=0) (ft:=9) (off:=0) (by kernel_rfl);have f1:=h.rdt.field (i:=1) (ft:=182) (off:=1) (by kernel_rfl);rw[cz9] at f0;rw[cz182] at f1;have g0:=f1.field (i:=0) (ft:=3) (off:=0) (by kernel_rfl);have g1:=f1.field (i:=1) (ft:=3) (off:=1) (by kernel_rfl);have g2:=f1.field (i:=2) (ft:=3) (off:=2) (by kernel_rfl);rw[cz3] at g0 g1 g2;obtain⟨s,e0,_⟩:=f0.str v9;obtain⟨k1,e1,_⟩:=g0.int v3;obtain⟨k2,e2,_⟩:=g1.int v3;obtain⟨k3,e3,_⟩:=g2.int v3;simp only[List.drop_zero,List.take_succ_cons,Yyk,List.drop_succ_cons,List.cons.injEq,and_true] at e0 e1 e2 e3;subst e0 e1 e2 e3;exact⟨⟨s.data.toList,k1,k2,k3⟩,rfl,trivial⟩
theorem open_three {W:World} {t:TypeId} {r:List Value} (hc:Pz.cellsOf t=3) (h0:fieldAt Pz t 0=some (3,0)) (h1:fieldAt Pz t 1=some (3,1)) (h2:fieldAt Pz t 2=some (3,2)) (h:Rdt Pz W t r) :
  ∃a b c:Int,r=[.int .i64 a,.int .i64 b,.int .i64 c]:=by
 have hl:=h.flen h0;rw[hc] at hl
 match r,hl with
 | [x0,x1,x2],_=>
  have f0:=h.field h0;have f1:=h.field h1;have f2:=h.field h2;rw[cz3] at f0 f1 f2;obtain⟨k0,e0,_⟩:=f0.int v3;obtain⟨k1,e1,_⟩:=f1.int v3;obtain⟨k2,e2,_⟩:=f2.int v3;simp only[List.drop_zero,List.take_succ_cons,Yyk,List.drop_succ_cons,List.cons.injEq,and_true] at e0 e1 e2;subst e0 e1 e2;exact⟨k0,k1,k2,rfl⟩
theorem open_diff {W:World} {r:List Value} (h:Rdb Pz W 187 r):∃x:Df,r=x.cs/\True:=by
 obtain⟨a,b,c,e⟩:=open_three cz187 (by kernel_rfl) (by kernel_rfl) (by kernel_rfl) h.rdt;exact⟨⟨a,b,c⟩,e,trivial⟩
theorem open_timeout {W:World} {r:List Value} (h:Rdb Pz W 63 r):∃x:To,r=x.cs/\True:=by
 obtain⟨a,b,c,e⟩:=open_three cz63 (by kernel_rfl) (by kernel_rfl) (by kernel_rfl) h.rdt;exact⟨⟨a,b,c⟩,e,trivial⟩
theorem open_pair {W:World} {r:List Value} (h:Rdb Pz W 189 r):∃x:Eqs,r=x.cs/\True:=by
 obtain⟨hl,ha⟩:=h.rdt.array va189;rw[cz189] at hl;rw[cz3] at ha
 match r,hl with
 | [x0,x1],_=>
  obtain⟨k0,e0,_⟩:=(ha 0 (by omega)).int v3;obtain⟨k1,e1,_⟩:=(ha 1 (by omega)).int v3;simp only[Nat.zero_mul,Nat.one_mul,List.drop_zero,List.take_succ_cons,Yyk,List.drop_succ_cons,List.cons.injEq,and_true] at e0 e1;subst e0 e1;exact⟨⟨k0,k1⟩,rfl,trivial⟩
theorem open_edge {W:World} {r:List Value} (h:Rdb Pz W 55 r):∃x:Ed,r=x.cs/\True:=by
 have hl:=h.rdt.flen (i:=0) (ft:=3) (off:=0) (by kernel_rfl);rw[cz55] at hl
 match r,hl with
 | [x0,x1,x2,x3,x4,x5],_=>
  have f0:=h.rdt.field (i:=0) (ft:=3) (off:=0) (by kernel_rfl);have f1:=h.rdt.field (i:=1) (ft:=53) (off:=1) (by kernel_rfl);have f2:=h.rdt.field (i:=2) (ft:=3) (off:=4) (by kernel_rfl);have f3:=h.rdt.field (i:=3) (ft:=4) (off:=5) (by kernel_rfl);rw[cz3] at f0 f2;rw[cz53] at f1;rw[cz4] at f3;obtain⟨a,b,c,e1⟩:=open_three cz53 (by kernel_rfl) (by kernel_rfl) (by kernel_rfl) f1;obtain⟨k0,e0,_⟩:=f0.int v3;obtain⟨k2,e2,_⟩:=f2.int v3;obtain⟨k3,e3⟩:=f3.bool v4b;simp only[List.drop_zero,List.take_succ_cons,Yyk,List.drop_succ_cons,List.cons.injEq,and_true] at e0 e1 e2 e3;obtain⟨e1a,e1b,e1c⟩:=e1;subst e0 e1a e1b e1c e2 e3;exact⟨⟨k0,a,b,c,k2,k3⟩,rfl,trivial⟩
theorem open_decl {W:World} {r:List Value} (h:Rdb Pz W 136 r):∃x:Dc,r=x.cs/\DI W.heap x/\x.nm.length<=1048576:=by
 have hl:=h.rdt.flen (i:=0) (ft:=9) (off:=0) (by kernel_rfl);rw[cz136] at hl
 match r,hl with
 | [x0,x1,x2,x3,x4],_=>
  have f0:=h.field (i:=0) (ft:=9) (off:=0) (by kernel_rfl);have f1:=h.field (i:=1) (ft:=130) (off:=1) (by kernel_rfl);have f2:=h.rdt.field (i:=2) (ft:=3) (off:=2) (by kernel_rfl);have f3:=h.field (i:=3) (ft:=134) (off:=3) (by kernel_rfl);rw[cz9] at f0;rw[cz130] at f1;rw[cz3] at f2;rw[cz134] at f3;have g0:=f3.field (i:=0) (ft:=131) (off:=0) (by kernel_rfl);have g1:=f3.field (i:=1) (ft:=132) (off:=1) (by kernel_rfl);rw[cz131] at g0;rw[cz132] at g1;obtain⟨s,e0,hs0⟩:=f0.str v9;obtain⟨sf,fs,e1,hf,_⟩:=Rdb.list vs130 cz184 (by omega) (fun r hr=>open_field hr) f1;obtain⟨k,e2,_⟩:=f2.int v3;obtain⟨sd,ds,e3,hd,_⟩:=Rdb.list vs131 cz187 (by omega) (fun r hr=>open_diff hr) g0;obtain⟨se,es,e4,he,_⟩:=Rdb.list vs132 cz189 (by omega) (fun r hr=>open_pair hr) g1;simp only[List.drop_zero,List.take_succ_cons,Yyk,List.drop_succ_cons,List.cons.injEq,and_true] at e0 e2;subst e0 e1 e2 e3 e4;exact⟨⟨s.data.toList,sf,k,sd,se,fs,ds,es⟩,rfl,⟨hf,hd,he⟩,hs0⟩
theorem open_global {W:World} {cs:List Value} (h:Rdb Pz W 27 cs):∃g:Gl,cs=g.cs/\GI W.heap g/\∀d∈g.ds,d.nm.length<=1048576:=by
 have hl:=h.rdt.flen (i:=0) (ft:=9) (off:=0) (by kernel_rfl);rw[cz27] at hl
 match cs,hl with
 | [x0,x1,x2,x3,x4,x5,x6,x7],_=>
  have f0:=h.rdt.field (i:=0) (ft:=9) (off:=0) (by kernel_rfl);have f1:=h.field (i:=1) (ft:=22) (off:=1) (by kernel_rfl);have f2:=h.field (i:=2) (ft:=23) (off:=2) (by kernel_rfl);have f3:=h.rdt.field (i:=3) (ft:=3) (off:=3) (by kernel_rfl);have f4:=h.rdt.field (i:=4) (ft:=3) (off:=4) (by kernel_rfl);have f5:=h.rdt.field (i:=5) (ft:=3) (off:=5) (by kernel_rfl);have f6:=h.field (i:=6) (ft:=24) (off:=6) (by kernel_rfl);have f7:=h.field (i:=7) (ft:=25) (off:=7) (by kernel_rfl);rw[cz9] at f0;rw[cz22] at f1;rw[cz23] at f2;rw[cz3] at f3 f4 f5;rw[cz24] at f6;rw[cz25] at f7;obtain⟨s,e0,_⟩:=f0.str v9;obtain⟨sr,rs,e1,hr,_⟩:=Rdb.list vs22 cz9 (by omega) (fun r hr=>open_name hr) f1;obtain⟨sd,ds,e2,hd,hdi⟩:=Rdb.list vs23 cz136 (by omega) (fun r hr=>open_decl hr) f2;obtain⟨k3,e3,_⟩:=f3.int v3;obtain⟨k4,e4,_⟩:=f4.int v3;obtain⟨k5,e5,_⟩:=f5.int v3;obtain⟨se,es,e6,he,_⟩:=Rdb.list vs24 cz55 (by omega) (fun r hr=>open_edge hr) f6;obtain⟨st,ts,e7,ht,_⟩:=Rdb.list vs25 cz63 (by omega) (fun r hr=>open_timeout hr) f7;simp only[List.drop_zero,List.take_succ_cons,Yyk,List.drop_succ_cons,List.cons.injEq,and_true] at e0 e3 e4 e5;subst e0 e1 e2 e3 e4 e5 e6 e7;exact⟨⟨s.data.toList,sr,sd,k3,k4,k5,se,st,rs,ds,es,ts⟩,rfl,⟨hr,⟨hd,fun d hm=>(hdi d hm).1⟩,he,ht⟩,fun d hm=>(hdi d hm).2⟩
end Go.VC
end
