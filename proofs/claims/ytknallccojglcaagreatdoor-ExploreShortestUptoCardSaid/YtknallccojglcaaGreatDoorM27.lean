/- KeL KeP KeR0 KeM KwVeD KeN0 KeN KwVeE KeO KwVeF KeR KwVcQ KwAh KeQ KeS KeT KwArgs. -/
import Derived.Test.YtknallccojglcaaGreatDoorM26
import Derived.Test.YtknallccojglcaaGreatDoorRows
set_option linter.unusedVariables false
set_option linter.unusedSimpArgs false
set_option maxRecDepth 100000

section
namespace Go.VC
open Go.Proofs Go.LexS Go.Maps
theorem St.picksA {h0 h:Heap} {P P' A:List It} (hs:St h0 h (P++A)) (ks:List Nat) (nd:ks.Nodup) (hL:P'.map some=ks.map fun k=>P[k]?):St h0 h (P'++A):=by
 have hk:∀k∈ks,k<P.length:=fun k hk=>by
  have h1:P[k]?∈P'.map some:=by rw[hL];exact List.mem_map_of_mem hk
  obtain⟨x,_,h2⟩:=Yp.1 h1;exact (Ya.1 h2.symm).1
 refine hs.picks (ks++(List.range A.length).map fun j=>P.length+j) ?_ ?_
 ·rw[List.nodup_append];refine⟨nd,?_,fun a ha b hb=>?_⟩
  ·exact List.Pairwise.map _ (fun a b h=>by omega) List.nodup_range
  ·obtain⟨j,_,rfl⟩:=Yp.1 hb;have:=hk a ha;omega
 ·rw[Ym,Ym,hL];congr 1
  ·exact List.map_congr_left fun k h=>by rw[Yyi (hk k h)]
  ·rw[List.map_map];refine Yyr fun j=>?_;rw[Yd,Yd];by_cases hj:j<A.length
   ·rw[Yyb hj,Yi hj];show some (some A[j])=some ((P++A)[P.length+j]?);rw[Yyc (by omega),Nat.add_sub_cancel_left,Yi hj]
   ·rw[Yl (by omega),Yl (by rw[Yyd];omega)];rfl
theorem memP {P A:List It}:∀i∈A,i∈P++A:=fun _ hi=>List.mem_append_right _ hi
def kokB (s:ByteArray):Prop:=s.size<=maxLen
theorem M92:MT Pz 92 9 4 Value.string kokB (.bool false) where
 K:=Keyed.of_law (Go.WideMaps.string_law (by kernel_rfl))
 ht:=by kernel_rfl
 key:=fun s hs=>⟨_,Go.WideMaps.keyOf_string_mk (by kernel_rfl) hs⟩
 inj:=fun a b h=>Value.string.inj h
 z:=fun w=>by kernel_rfl
def vq (v:Vs):Qe:=((v.S,v.B.map Bx.l),v.tr)
def kyP (v:Vs):ByteArray × Bool:=(kyC (vq v).1,true)
def kyV (q:ByteArray × Bool):Value × Value:=(.string q.1,.bool q.2)
structure SeaV (L:List MR) (k:Int) (A:List It) (V:List Vs):Prop where
 c:∀v∈V,CfN A v.c1 v.c2 v.S v.B
 p:∀v∈V,ProS (L.map MR.m) k v.S (v.B.map Bx.l)
 t:TrOk V
 d:(V.map fun v=>(vq v).1).Nodup
theorem SeaV.mono {L:List MR} {k:Int} {A A':List It} {V:List Vs} (h:SeaV L k A V) (hA:∀i∈A,i∈A'):SeaV L k A' V:=⟨fun v hv=>(h.c v hv).mono hA,h.p,h.t,h.d⟩
theorem enc_pro {L:List Mch} {k:Int} {S:List Int} {BL:List (List Int)} (hP:ProS L k S BL):EncOk S BL:=by
 have h6:=hP.v.n;have h36:=sq6 h6.2;have hk:=hP.c;have hs:=hP.p.s;have hb:=hP.p.b;refine⟨fun x hx=>?_,fun q hq=>?_,by omega,by omega⟩
 ·obtain⟨p,gp⟩:=Yf.1 hx;have hp:=(Ya.1 gp).1;obtain⟨m,gm⟩:=get_some (l:=L) (i:=p) (by omega);have h1:=hP.p.st p x m gp gm;have h2:=(hP.v.m p m gm).2.1.n.n;exact⟨by omega,by omega⟩
 ·obtain⟨i,gi⟩:=Yf.1 hq;obtain⟨h1,-,h3⟩:=hP.p.bx i q gi;exact⟨by omega,fun x hx=>by have:=h3 x hx;exact⟨by omega,by omega⟩⟩
theorem enc_len {S:List Int} {BL:List (List Int)} (h:EncOk S BL):(encC S BL).length<=20000000:=by
 have h1:=encL_len h.s (by have:=h.n.1;omega);have h2:=h.fl BL.length;rw[Yye] at h2;have h3:=encI_len (n:=(BL.length:Int)) ⟨by omega,by have:=h.n.2;omega⟩;have h4:=h.n.1;unfold encC;rw[Yh,Yh];omega
theorem ky_ok {L:List Mch} {k:Int} {c:Cf} (hP:ProS L k c.1 c.2):kokB (kyC c):=by
 have:=enc_len (enc_pro hP);show (toB (encC c.1 c.2)).length<=maxLen;unfold toB;rw[Yc];simp only[maxLen];omega
theorem SeaV.kok {L:List MR} {k:Int} {A:List It} {V:List Vs} (h:SeaV L k A V):∀q∈V.map kyP,kokB q.1:=fun q hq=>by
 obtain⟨v,hv,rfl⟩:=Yp.1 hq;exact ky_ok (c:=(vq v).1) (h.p v hv)
theorem SeaV.knd {L:List MR} {k:Int} {A:List It} {V:List Vs} (h:SeaV L k A V):((V.map kyP).map Prod.fst).Nodup:=by
 rw[List.map_map];have e:(Prod.fst∘kyP)=kyC∘fun v=>(vq v).1:=rfl;rw[e,<-List.map_map];exact List.Pairwise.map _ (fun a b hab e=>hab (kyC_inj e)) h.d
theorem ky_mem {V:List Vs} {c:Cf}:c∈(V.map vq).map Prod.fst ↔ mget (V.map kyP) (kyC c)≠none:=by
 constructor
 ·intro h hn;obtain⟨q,hq,rfl⟩:=Yp.1 h;obtain⟨v,hv,rfl⟩:=Yp.1 hq;exact mget_nomem hn (kyP v) (List.mem_map_of_mem hv) rfl
 ·intro h;cases hg:mget (V.map kyP) (kyC c) with
  | none=>exact absurd hg h
  | some y=>
   obtain⟨v,hv,e⟩:=Yp.1 (mgetE_mem hg);have e1:kyC (vq v).1=kyC c:=congrArg Prod.fst e;rw[<-kyC_inj e1];exact List.mem_map_of_mem (List.mem_map_of_mem hv)
theorem SeaV.snoc {L:List MR} {k:Int} {A:List It} {V:List Vs} (h:SeaV L k A V) {v:Vs} (hc:CfN A v.c1 v.c2 v.S v.B) (hp:ProS (L.map MR.m) k v.S (v.B.map Bx.l)) (hn:(vq v).1∉(V.map vq).map Prod.fst)
  {p:Nat} {u:Vs} (hu:V[p]?=some u) (ha:v.ah=(p:Int)) (ht:v.tr=u.tr++[(v.a,v.b)]):SeaV L k A (V++[v]):=by
 refine⟨fun w hw=>?_,fun w hw=>?_,fun j w hw=>?_,?_⟩
 ·rcases Yk.1 hw with hw | hw
  ·exact h.c w hw
  ·rw[Ye.1 hw];exact hc
 ·rcases Yk.1 hw with hw | hw
  ·exact h.p w hw
  ·rw[Ye.1 hw];exact hp
 ·have hpl:=(Ya.1 hu).1;by_cases hj:j<V.length
  ·rw[Yyi hj] at hw;obtain⟨h1,h2⟩:=h.t j w hw;refine⟨h1,h2.imp id ?_⟩;rintro⟨p',u',k1,k2,k3,k4⟩;exact⟨p',u',k1,by rw[Yyi (by omega)];exact k2,k3,k4⟩
  ·rw[Yyc (by omega)] at hw;have hj0:j-V.length=0:=by
    have:=(Ya.1 hw).1;simpa using this
   rw[hj0] at hw;cases hw;have h1:=(h.t p u hu).1;refine⟨?_,.inr ⟨p,u,by omega,by rw[Yyi hpl];exact hu,ha,ht⟩⟩;rw[ht,Yh,Yv];omega
 ·rw[Ym,List.nodup_append];refine⟨h.d,by simp,fun a ha b hb=>?_⟩;rw[Yyl,List.map_nil,Ye] at hb;rw[hb];rintro rfl;exact hn (by rw[List.map_map];exact ha)
theorem doB_newL {n a:Nat} {x:Mv} {B:List Bx} {q:Bx} {u:Sl} (gq:B[bxI n a x]?=some q):(B.set (bxI n a x) ⟨u,newL x q.l⟩).map Bx.l=doB n a x (B.map Bx.l):=by
 unfold doB;rw[List.map_set,getD_map gq];rfl
structure RV where
 v:Int
 Q:List Cf
 m:List Int
 k:Int
 t:List (Nat × Nat)
def Res.rv (n:Nat):Res->RV
 | .bad k t=>⟨2,[],[],k,t⟩
 | .unk=>⟨3,[],[],0,[]⟩
 | .safe Q=>⟨1,Q,mostS n Q,0,[]⟩
def rv0:RV:=⟨0,[],[],0,[]⟩
open Classical in
noncomputable def expV (L:List Mch) (k lim:Int):RV × Int:=if ¬SysV L\/k<1\/4<k then (rv0,1) else if lim<1\/20000<lim then (rv0,2) else ((exS L k lim.toNat).rv L.length,0)
structure Cr where
 c1:Sl
 c2:Sl
 S:List Int
 B:List Bx
def Cr.cs (c:Cr):List Value:=[.slice c.c1.a c.c1.n c.c1.c,.slice c.c2.a c.c2.n c.c2.c]
def Cr.cf (c:Cr):Cf:=(c.S,c.B.map Bx.l)
structure ResI (h:Heap) (cf mo tr:Sl) (r:RV):Prop where
 c:∃C:List Cr,RL h 2 cf Cr.cs C/\(∀c∈C,CfI h c.c1 c.c2 c.S c.B)/\C.map Cr.cf=r.Q
 m:RL h 1 mo inC r.m
 t:RL h 2 tr stpC r.t
def resA (v:Int) (cf mo:Sl) (k:Int) (tr:Sl):List Value:=[.int .i64 v,.slice cf.a cf.n cf.c,.slice mo.a mo.n mo.c,.int .i64 k,.slice tr.a tr.n tr.c]
def ExV (o:RV × Int) (h:Heap) (v:Value) (h':Heap):Prop:=∃(cf mo tr:Sl) (A:List It),v=.tuple ⟨[.agg ⟨resA o.1.v cf mo o.1.k tr⟩,.int .i64 o.2]⟩/\St h h' A/\Sta A fun h=>ResI h cf mo tr o.1
theorem RL.nil0 {α:Type} {h:Heap} {n:Nat} {cs:α->List Value}:RL h n ⟨none,0,0⟩ cs ([]:List α):=⟨Rw.nil,Yyt _,fun _=>⟨rfl,rfl⟩,Nat.zero_le _⟩
theorem ExV.empty {h h':Heap} {A:List It} (hs:St h h' A) {v k e:Int} {tr:Sl} {t:List (Nat × Nat)} (ht:It.sl tr 48 2 (t.map stpC)∈A/\t.length<=1048576\/(tr=⟨none,0,0⟩/\t=[])) {o:RV × Int} (ho:o=(⟨v,[],[],k,t⟩,e)) :
  ExV o h (.tuple ⟨[.agg ⟨resA v ⟨none,0,0⟩ ⟨none,0,0⟩ k tr⟩,.int .i64 e]⟩) h':=by
 subst ho;refine⟨⟨none,0,0⟩,⟨none,0,0⟩,tr,A,rfl,hs,fun h0 h2 A' hA hs'=>⟨⟨[],RL.nil0,(fun c hc=>by cases hc),rfl⟩,RL.nil0,?_⟩⟩;rcases ht with ⟨h1,h2⟩ | ⟨rfl,rfl⟩
 ·exact hs'.rlm (hA _ h1) (by omega) h2
 ·exact RL.nil0
theorem bxs0 (n:Nat):(List.replicate (n*n) bx0).map Bx.l=List.replicate (n*n) []:=by rw[List.map_replicate];rfl
theorem inC_flat:∀l:List Int,l.map iv=(l.map inC).flatten
 | []=>rfl
 | x::r=>by rw[Yyl,Yyl,Yyu,inC_flat r];rfl
def stepM (B:List (List Int)) (j:Nat) (M:List Int):List Int:=M.mapIdx fun i x=>if i<j then imax x ((B.getD i []).length:Int) else x
theorem stepM_len {B:List (List Int)} {j:Nat} {M:List Int}:(stepM B j M).length=M.length:=by unfold stepM;rw[List.length_mapIdx]
theorem stepM_0 {B:List (List Int)} {M:List Int}:stepM B 0 M=M:=by
 unfold stepM;refine Yyr fun i=>?_;rw[List.getElem?_mapIdx];cases M[i]?<;>rfl
theorem stepM_get {B:List (List Int)} {M:List Int} {j:Nat}:(stepM B j M)[j]?=M[j]?:=by
 unfold stepM;rw[List.getElem?_mapIdx];cases M[j]? with
 | none=>rfl
 | some x=>rw[Option.map_some,if_neg (Nat.lt_irrefl _)]
theorem stepM_next {B:List (List Int)} {M:List Int} {j:Nat} {y:Int} (hy:M[j]?=some y):(stepM B j M).set j (imax y ((B.getD j []).length:Int))=stepM B (j+1) M:=by
 have hj:=(Ya.1 hy).1;refine Yyr fun i=>?_;by_cases e:j=i
 ·subst e;rw[Yq (by rw[stepM_len];exact hj)];unfold stepM;rw[List.getElem?_mapIdx,hy,Option.map_some,if_pos (by omega)]
 ·rw[Yy e];unfold stepM;rw[List.getElem?_mapIdx,List.getElem?_mapIdx];cases M[i]? with
  | none=>rfl
  | some x=>
   rw[Option.map_some,Option.map_some];by_cases e2:i<j
   ·rw[if_pos e2,if_pos (by omega)]
   ·rw[if_neg e2,if_neg (by omega)]
theorem stepM_end {B:List (List Int)} {M:List Int} {j:Nat} (hj:M.length<=j):stepM B j M=M.mapIdx fun i x=>imax x ((B.getD i []).length:Int):=by
 unfold stepM;refine Yyr fun i=>?_;rw[List.getElem?_mapIdx,List.getElem?_mapIdx];by_cases e:i<M.length
 ·rw[Yi e,Option.map_some,Option.map_some,if_pos (by omega)]
 ·rw[Yl (by omega)];rfl
theorem most_snoc (n:Nat) (Q:List Cf) (c:Cf):mostS n (Q++[c])=(mostS n Q).mapIdx fun i x=>imax x ((c.2.getD i []).length:Int):=by
 unfold mostS;rw[List.foldl_append];rfl
theorem most_len (n:Nat) (Q:List Cf):(mostS n Q).length=n*n:=by
 unfold mostS;have:∀(Q:List Cf) (a:List Int),(Q.foldl (fun a c=>a.mapIdx fun i x=>imax x ((c.2.getD i []).length:Int)) a).length=a.length:=fun Q=>by
  induction Q with
  | nil=>intro a;rfl
  | cons c r ih=>intro a;rw[List.foldl_cons,ih,List.length_mapIdx]
 rw[this,Yg]
end Go.VC
end

section
namespace Go.VC
open Go.Proofs Go.LexS
theorem exI_pre {L:List Mch} {lim:Nat} {e:Qe}:∀ {X:List (Nat × Nat)} {Q Q':List Qe},exI L lim e X Q=some Q'->∃R,Q'=Q++R
 | [],Q,Q',h=>by cases h;exact⟨[],by simp⟩
 | q::r,Q,Q',h=>by
  rw[exI] at h;split at h
  ·exact exI_pre h
  ·split at h
   ·cases h
   ·obtain⟨R,rfl⟩:=exI_pre h;exact⟨(nxS L e.1 q,e.2++[q])::R,by simp⟩
theorem stp_inv {L:List Mch} {k:Int} {c d:Cf} {q:Nat × Nat} (h:stpS L k c q=some d):q∈stepsS L k c.1 c.2/\d=nxS L c q:=by
 obtain⟨a,b⟩:=q;unfold stpS at h;split at h
 ·rename_i h0;by_cases hP:ProS L k c.1 c.2
  ·cases hmo:mvO L (a:Int) (b:Int) with
   | none=>
    unfold doS at h0;rw[if_pos hP,hmo] at h0;cases h0
   | some x=>
    obtain⟨p,j,e1,e2,m,gm,gx⟩:=mvO_get hmo;obtain rfl:p=a:=by omega
    obtain rfl:j=b:=by omega
    rw[doS_at hP gm gx] at h0 h;by_cases hc:canS L.length k c.1 c.2 p x=0
    ·rw[if_pos hc] at h;cases h;exact⟨mem_steps gm gx hc,(nxS_of gm gx).symm⟩
    ·rw[if_neg hc] at h0;exact absurd h0 hc
  ·unfold doS at h0;rw[if_neg hP] at h0;cases h0
 ·cases h
theorem stp_of {L:List Mch} {k:Int} {c:Cf} {q:Nat × Nat} (hP:ProS L k c.1 c.2) (h:q∈stepsS L k c.1 c.2):stpS L k c q=some (nxS L c q)/\ProS L k (nxS L c q).1 (nxS L c q).2:=by
 obtain⟨a,b⟩:=q;obtain⟨m,x,gm,gx,hc⟩:=steps_mem h;rw[nxS_of gm gx];exact⟨stpS_ok hP gm gx hc,pro_do hP gm (Yb gx) hc⟩
structure Sea (L:List Mch) (k:Int) (lim i:Nat) (Q:List Qe):Prop where
 s:Q[0]?=some ((startS L,startB L),[])
 n:(Q.map Prod.fst).Nodup
 r:∀e∈Q,runS L k e.2=some e.1
 p:∀e∈Q,ProS L k e.1.1 e.1.2
 d:∀(j:Nat) e,j<i->Q[j]?=some e->badS L k e.1.1 e.1.2=0/\∀q∈stepsS L k e.1.1 e.1.2,∃(m:Nat) (e':Qe),Q[m]?=some e'/\e'.1=nxS L e.1 q/\e'.2.length<=e.2.length+1
 m:∀(a b:Nat) ea eb,a<=b->Q[a]?=some ea->Q[b]?=some eb->ea.2.length<=eb.2.length
 u:∀(b:Nat) eb ei,Q[b]?=some eb->Q[i]?=some ei->eb.2.length<=ei.2.length+1
 l:Q.length<=lim
theorem get_snoc {α:Type} {Q:List α} {x y:α} {j:Nat} (h:(Q++[x])[j]?=some y):(j<Q.length/\Q[j]?=some y)\/(j=Q.length/\y=x):=by
 by_cases hj:j<Q.length
 ·rw[Yyi hj] at h;exact .inl ⟨hj,h⟩
 ·rw[Yyc (by omega)] at h;have hj0:j-Q.length=0:=by
   have:=(Ya.1 h).1;simpa using this
  rw[hj0] at h;cases h;exact .inr ⟨by omega,rfl⟩
theorem get_left {α:Type} {Q R:List α} {y:α} {j:Nat} (h:Q[j]?=some y):(Q++R)[j]?=some y:=by
 rw[Yyi (Ya.1 h).1];exact h
theorem sea_exI {L:List Mch} {k:Int} {lim i:Nat} {e:Qe}:∀ {X:List (Nat × Nat)} {Q Q':List Qe},Sea L k lim i Q->Q[i]?=some e->(∀q∈X,q∈stepsS L k e.1.1 e.1.2)->exI L lim e X Q=some Q' ->
  Sea L k lim i Q'/\(∀q∈X,∃(m:Nat) (e':Qe),Q'[m]?=some e'/\e'.1=nxS L e.1 q/\e'.2.length<=e.2.length+1)/\Q'[i]?=some e
 | [],Q,Q',hs,hi,hX,h=>by cases h;exact⟨hs,fun q hq=>(by cases hq),hi⟩
 | q::r,Q,Q',hs,hi,hX,h=>by
  have hpre:=exI_pre h;rw[exI] at h;split at h
  ·rename_i hm;obtain⟨h1,h2,h3⟩:=sea_exI hs hi (fun q hq=>hX q (Yn _ hq)) h;refine⟨h1,fun q' hq'=>?_,h3⟩;rcases Yr.1 hq' with rfl | hq'
   ·obtain⟨e',he',he2⟩:=Yp.1 hm;obtain⟨m,gm⟩:=Yf.1 he';obtain⟨R,rfl⟩:=hpre;exact⟨m,e',get_left gm,he2,hs.u m e' e gm hi⟩
   ·exact h2 q' hq'
  ·rename_i hm;split at h
   ·cases h
   ·rename_i hn;have hq:=hX q Yx;have hem:=Yb hi;obtain⟨st1,st2⟩:=stp_of (hs.p e hem) hq;have hs':Sea L k lim i (Q++[(nxS L e.1 q,e.2++[q])]):=by
     refine⟨get_left hs.s,?_,fun w hw=>?_,fun w hw=>?_,fun j w hj hw=>?_,fun a b ea eb hab ga gb=>?_,fun b eb ei gb gi=>?_,?_⟩
     ·rw[Ym,List.nodup_append];refine⟨hs.n,by simp,fun a ha b hb=>?_⟩;rw[Yyl,List.map_nil,Ye] at hb;rw[hb];rintro rfl;exact hm ha
     ·rcases Yk.1 hw with hw | hw
      ·exact hs.r w hw
      ·rw[Ye.1 hw];show runS L k (e.2++[q])=some (nxS L e.1 q);rw[runS_snoc,hs.r e hem];exact st1
     ·rcases Yk.1 hw with hw | hw
      ·exact hs.p w hw
      ·rw[Ye.1 hw];exact st2
     ·have hil:=(Ya.1 hi).1;rcases get_snoc hw with ⟨_,hw⟩ | ⟨hj2,_⟩
      ·obtain⟨k1,k2⟩:=hs.d j w hj hw;refine⟨k1,fun q' hq'=>?_⟩;obtain⟨m,e',h1,h2,h3⟩:=k2 q' hq';exact⟨m,e',get_left h1,h2,h3⟩
      ·omega
     ·rcases get_snoc gb with ⟨hb,gb⟩ | ⟨hb,rfl⟩
      ·rcases get_snoc ga with ⟨_,ga⟩ | ⟨ha,_⟩
       ·exact hs.m a b ea eb hab ga gb
       ·omega
      ·show ea.2.length<=(e.2++[q]).length;rw[Yh,Yv];rcases get_snoc ga with ⟨_,ga⟩ | ⟨ha,rfl⟩
       ·exact hs.u a ea e ga hi
       ·show (e.2++[q]).length<=_;rw[Yh,Yv];exact Yyt _
     ·rw[get_left hi] at gi;cases gi;rcases get_snoc gb with ⟨_,gb⟩ | ⟨_,rfl⟩
      ·exact hs.u b eb e gb hi
      ·show (e.2++[q]).length<=_;rw[Yh,Yv];exact Yyt _
     ·have:=hs.l;rw[Yh,Yv];omega
    obtain⟨h1,h2,h3⟩:=sea_exI hs' (get_left hi) (fun q hq=>hX q (Yn _ hq)) h;refine⟨h1,fun q' hq'=>?_,h3⟩;rcases Yr.1 hq' with rfl | hq'
    ·obtain⟨R,rfl⟩:=exI_pre h;refine⟨Q.length,(nxS L e.1 q',e.2++[q']),get_left (by rw[Yyc (Yyt _),Nat.sub_self];rfl),rfl,?_⟩;show (e.2++[q']).length<=_;rw[Yh,Yv];exact Yyt _
    ·exact h2 q' hq'
def ResOk (L:List Mch) (k:Int) (lim:Nat):Res->Prop
 | .bad b t=>∃(i:Nat) (Q:List Qe) (c:Cf),Sea L k lim i Q/\Q[i]?=some (c,t)/\badS L k c.1 c.2=b/\b≠0
 | .unk=>True
 | .safe R=>∃Q:List Qe,Sea L k lim Q.length Q/\R=Q.map Prod.fst
theorem sea_exO {L:List Mch} {k:Int} {lim:Nat}:∀ {f i:Nat} {Q:List Qe},Sea L k lim i Q->f+i=lim+1->i<=Q.length->ResOk L k lim (exO L k lim f i Q)
 | 0,i,Q,hs,h1,h2=>by have:=hs.l;omega
 | f+1,i,Q,hs,h1,h2=>by
  rw[exO];cases hq:Q[i]? with
  | none=>
   have hi:Q.length<=i:=List.getElem?_eq_none_iff.1 hq;have hi2:i=Q.length:=by omega
   subst hi2;exact⟨Q,hs,rfl⟩
  | some e=>
   dsimp only;by_cases hb:badS L k e.1.1 e.1.2≠0
   ·rw[if_pos hb];exact⟨i,Q,e.1,hs,hq,rfl,hb⟩
   ·rw[if_neg hb];cases hi:exI L lim e (stepsS L k e.1.1 e.1.2) Q with
    | none=>trivial
    | some Q'=>
     obtain⟨k1,k2,k3⟩:=sea_exI hs hq (fun q hq=>hq) hi;refine sea_exO (i:=i+1) ⟨k1.s,k1.n,k1.r,k1.p,fun j w hj hw=>?_,k1.m,fun b eb ei gb gi=>?_,k1.l⟩ (by omega) (by have:=(Ya.1 k3).1;omega)
     ·by_cases hj2:j=i
      ·subst hj2;rw[k3] at hw;cases hw;exact⟨Classical.byContradiction fun h=>hb h,k2⟩
      ·exact k1.d j w (by omega) hw
     ·have:=k1.u b eb e gb k3;have:=k1.m i (i+1) e ei (by omega) k3 gi;omega
theorem sea_start {L:List Mch} {k:Int} {lim:Nat} (hV:SysV L) (hk:1<=k/\k<=4) (hl:1<=lim):Sea L k lim 0 (q0 L):=by
 have hP:=xpro_start hV hk;rw[bxs0] at hP;have one:∀ {j:Nat} {e:Qe},(q0 L)[j]?=some e->j=0/\e=((startS L,startB L),[]):=fun {j e} h=>by
  have:=(Ya.1 h).1;have hj:j=0:=by simpa [q0] using this
  subst hj;cases h;exact⟨rfl,rfl⟩
 refine⟨rfl,by simp[q0],fun e he=>?_,fun e he=>?_,fun j e hj=>by omega,fun a b ea eb _ ga gb=>?_,fun b eb ei gb gi=>?_,hl⟩
 ·rw[Ye.1 he];show some (startS L,(List.replicate (L.length*L.length) bx0).map Bx.l)=_;rw[bxs0];rfl
 ·rw[Ye.1 he];exact hP
 ·rw[(one ga).2,(one gb).2];exact Yyt _
 ·rw[(one gb).2,(one gi).2];exact Nat.zero_le _
theorem exS_ok {L:List Mch} {k:Int} {lim:Nat} (hV:SysV L) (hk:1<=k/\k<=4) (hl:1<=lim):ResOk L k lim (exS L k lim):=sea_exO (sea_start hV hk hl) rfl (Nat.zero_le _)
theorem sea_reach {L:List Mch} {k:Int} {lim i:Nat} {Q:List Qe} (hs:Sea L k lim i Q):∀ {n:Nat} {l:List (Nat × Nat)} {c:Cf},l.length=n->runS L k l=some c->(∀ei,Q[i]?=some ei->l.length<ei.2.length)->∃(j:Nat) (e:Qe),j<i/\Q[j]?=some e/\e.1=c/\e.2.length<=l.length
 | 0,l,c,hn,hr,hb=>by
  obtain rfl:=List.length_eq_zero_iff.1 hn;have hi:0<i:=Nat.pos_of_ne_zero fun h=>by subst h;exact absurd (hb _ hs.s) (Nat.lt_irrefl _)
  refine⟨0,_,hi,hs.s,?_,Yyt _⟩;have h2:some ((startS L,(List.replicate (L.length*L.length) bx0).map Bx.l):Cf)=some c:=hr;rw[bxs0] at h2;exact Yyp h2
 | n+1,l,c,hn,hr,hb=>by
  obtain⟨l',q,rfl⟩:∃l' q,l=l'++[q]:=⟨l.dropLast,l.getLast (by intro e;rw[e] at hn;cases hn),(List.dropLast_concat_getLast _).symm⟩;rw[Yh,Yv] at hn hb ⊢;rw[runS_snoc] at hr;cases h0:runS L k l' with
  | none=>rw[h0] at hr;cases hr
  | some c0=>
   rw[h0] at hr;obtain⟨j,e,hj,gj,he,hl⟩:=sea_reach (n:=n) hs (by omega) h0 fun ei gi=>by have:=hb ei gi;omega
   obtain⟨hq,rfl⟩:=stp_inv hr;subst he;obtain⟨m,e',gm,h1,h2⟩:=(hs.d j e hj gj).2 q hq;refine⟨m,e',Classical.byContradiction fun hm=>?_,gm,h1,by omega⟩;have hml:=(Ya.1 gm).1;obtain⟨ei,gi⟩:=get_some (l:=Q) (i:=i) (by omega);have:=hs.m i m ei e' (by omega) gi gm;have:=hb ei gi;omega

end Go.VC
end

section
namespace Go.VC
open Go.Proofs Go.LexS Go.Maps
theorem app95:appB Pz 95 94 5 72=true:=by kernel_rfl
theorem app29:appB Pz 29 50 2 48=true:=by kernel_rfl
theorem cv_str {h h0:Heap} {s:Sl} {l:List Int} (hs:St h0 h [.sl s 5 1 (l.map u8C)]) (hb:∀x∈l,0<=x/\x<256):RunW Pz (Go.convert 60 9 (.slice s.a s.n s.c)) h fun v h'=>v=.string (bs (toB l))/\h'=h:=
 str_c (e:=5) (base:=h0.size) (ty:=5) (by kernel_rfl) (by kernel_rfl) (by kernel_rfl) (by have:=hs.give 0 rfl;rw[toB_c hb] at this;exact this)
set_option maxHeartbeats 12800000 in
theorem explore13 (L:List MR) (s:Sl) (k lim:Int) (h:Heap) (hS:SyI h s L) :
  Fn Pz 13 #[.slice s.a s.n s.c,.int .i64 k,.int .i64 lim] h (ExV (expV (L.map MR.m) k lim) h):=by
 apply vc13 s k lim;unfold W13 V13c V13b V13a;have hn:=hS.r.ln;have hsm:=hS.r.sm;have hlm:(L.map MR.m).length=L.length:=Yc _;refine (St.refl h).newb fun h1 hs=>?_;refine (start14 L s h1 (hS.ext hs.ext)).mono ?_;rintro _ h6 ⟨ss,sb,S,B,e,A1,rfl,hs1,hM,hv1,hv2⟩;have hs:=hs.join hs1;refine⟨ss,sb,e,rfl,?_⟩;refine hs.newput (vs:=[.slice ss.a ss.n ss.c,.slice sb.a sb.n sb.c]) rfl rfl fun h8 hs=>?_;have fin:∀ {hX:Heap} {i0:It} (e':Int),St h hX ([i0,.blk h.size [.int .i64 0,.slice none 0 0,.slice none 0 0,.int .i64 0,.slice none 0 0] 32]++A1)->expV (L.map MR.m) k lim=(rv0,e')->okAt hX ⟨h.size,0,none⟩ 5/\∀h9:Heap,h9=hputs hX ⟨h.size,0,none⟩ 0 [.int .i64 0,.slice none 0 0,.slice none 0 0,.int .i64 0,.slice none 0 0] -> 
  (∃x10:Int,∃x11:Sl,∃x12:Sl,∃x13:Int,∃x14:Sl,atC h9 ⟨h.size,0,none⟩ [.int .i64 x10,.slice x11.a x11.n x11.c,.slice x12.a x12.n x12.c,.int .i64 x13,.slice x14.a x14.n x14.c] /\ 
  ExV (expV (L.map MR.m) k lim) h (.tuple ⟨[.agg ⟨[.int .i64 x10,.slice x11.a x11.n x11.c,.slice x12.a x12.n x12.c,.int .i64 x13,.slice x14.a x14.n x14.c]⟩,.int .i64 e']⟩) h9):=fun {hX i0} e' hs he=>by
  refine hs.put 1 rfl (o:=0) (vs:=[.int .i64 0,.slice none 0 0,.slice none 0 0,.int .i64 0,.slice none 0 0]) rfl (show 5<=5 by decide) fun h9 hs=>?_;exact⟨0,⟨none,0,0⟩,⟨none,0,0⟩,0,⟨none,0,0⟩,hs.at 1 rfl (o:=0) (n:=5) rfl,ExV.empty hs (.inr ⟨rfl,rfl⟩) he⟩
 by_cases hV:SysV (L.map MR.m);rotate_left
 ·obtain⟨rfl,-,-⟩:=hv2 hV;exact sB_t rfl (fin 1 hs (if_pos (.inl hV)))
 obtain⟨rfl,rfl,rfl⟩:=hv1 hV;clear hv1 hv2;refine sB_f rfl ?_;refine sBi (fun c1=>fin 1 hs (if_pos (.inr (.inl c1)))) (fun c1=>?_);refine sBi (fun c2=>fin 1 hs (if_pos (.inr (.inr c2)))) (fun c2=>?_);have hno:¬(¬SysV (L.map MR.m)\/k<1\/4<k):=fun h=>by
  rcases h with h | h | h
  ·exact h hV
  ·omega
  ·omega
 refine sBi (fun c3=>fin 2 hs ((if_neg hno).trans (if_pos (.inl c3)))) (fun c3=>?_);refine sBi (fun c4=>fin 2 hs ((if_neg hno).trans (if_pos (.inr c4)))) (fun c4=>?_);have hx:expV (L.map MR.m) k lim=((exS (L.map MR.m) k lim.toNat).rv (L.map MR.m).length,0):=(if_neg hno).trans (if_neg (by omega));clear fin;have hV6:=hV.n;rw[hlm] at hV6;have h36:=sq6 hV6.2;obtain⟨lm,hlim⟩:∃lm:Nat,lim=(lm:Int):=⟨lim.toNat,by omega⟩;subst hlim;rw[Ys] at hx;have hP0:ProS (L.map MR.m) k (startS (L.map MR.m)) ((List.replicate ((L.map MR.m).length*(L.map MR.m).length) bx0).map Bx.l):=xpro_start hV (by omega);generalize hBB:List.replicate ((L.map MR.m).length*(L.map MR.m).length) bx0=B0 at *;refine (start32 L s k h8 (hS.ext hs.ext) hV).mono ?_;rintro _ h41 ⟨eb,wb,A2,osl,os,qs,rfl,hs2,hE⟩;have hs:=(hs.join hs2).perm List.perm_middle;refine⟨some ⟨eb,0,none⟩,rfl,?_⟩;refine hs.mmake 92 fun h44 E44 hs=>⟨_,rfl,?_⟩;have hs:St h h44 ([.mp h41.size [],.mp wb [],.blk h6.size [.slice ss.a ss.n ss.c,.slice sb.a sb.n sb.c] 50,.blk h.size [.int .i64 0,.slice none 0 0,.slice none 0 0,.int .i64 0,.slice none 0 0] 32]++(A1++A2)):=hs;have hA1:CfN (A1++A2) ss sb (startS (L.map MR.m)) B0:=fun h0 hh A' hA hs=>hM.mono (fun i hi=>hA i (List.mem_append_left _ hi)) |>.cfi hs
 replace hE:Sta (A1++A2) fun h=>EngX h eb wb s k L osl os qs:=hE.mono memP;generalize A1++A2=A at *;refine⟨ss,sb,hs.at 2 rfl (o:=0) (n:=2) rfl,?_⟩;refine (encode35 ss sb _ _ h44 (hA1.at hs memP) (enc_pro hP0)).mono ?_;rintro _ h49 ⟨b,rfl,hse⟩;have hs:=hs.step hse.ext;refine⟨b,rfl,(cv_str hse encC_byte).mono ?_⟩;rintro _ _ ⟨rfl,rfl⟩;refine⟨_,rfl,?_⟩;obtain⟨v0,hv0⟩:∃v0:Vs,v0=⟨ss,sb,startS (L.map MR.m),B0,-1,0,0,[]⟩:=⟨_,rfl⟩;have hkv:bs (toB (encC (startS (L.map MR.m)) (B0.map Bx.l)))=kyC (vq v0).1:=by rw[hv0];rfl
 rw[hkv];refine hs.mput M92 (cv:=Value.bool) (l:=[]) (a:=kyC (vq v0).1) 0 rfl (fun q hq=>by cases hq) .nil (by rw[hv0];exact ky_ok (c:=(_,_)) hP0) true fun h53 hs=>?_;refine⟨ss,sb,hs.at 2 rfl (o:=0) (n:=2) rfl,?_⟩;refine hs.newb fun h56 hs=>?_;have hs:=hs.blkS 1 5 ([v0].map Vs.cs) (by rw[hv0];rfl) (fun r hr=>by rw[Yyl,List.map_nil,Ye] at hr;rw[hr];rfl) rfl (by decide);have hs:St h h56 ([.mp wb (([]:List (Wt × Bool)).map wtC),.mp h41.size (([v0].map kyP).map kyV),.sl ⟨some ⟨h53.size,0,none⟩,1,1⟩ 94 5 ([v0].map Vs.cs),.blk h.size [.int .i64 0,.slice none 0 0,.slice none 0 0,.int .i64 0,.slice none 0 0] 32]++A):=
  St.picksA (P:=[_,_,_,_,_]) hs [2,1,0,4] (by decide) rfl
 have hsea:SeaV L k A [v0]:=by
  refine⟨fun v hv=>?_,fun v hv=>?_,fun j v hj=>?_,by simp⟩
  ·rw[Ye.1 hv,hv0];exact hA1
  ·rw[Ye.1 hv,hv0];exact hP0
  ·have hj0:j=0:=by have:=(Ya.1 hj).1;simpa using this
   subst hj0;cases hj;rw[hv0];exact⟨Nat.zero_le _,.inl ⟨rfl,rfl⟩⟩
 have hex:exO (L.map MR.m) k lm (lm+1) 0 ([v0].map vq)=exS (L.map MR.m) k lm:=by
  unfold exS q0;congr 1;rw[hv0];unfold vq startB;rw[Yyl,List.map_nil,<-hBB,bxs0]
 have hwt0:WtOk L []:=⟨.nil,fun q hq=>by cases hq⟩;refine⟨fun queue x h' μ=>∃(i f:Nat) (V:List Vs) (K:List (Wt × Bool)) (A:List It),x=(i:Int)/\μ=f/\f+i=lm+1/\i<=V.length/\V.length<=lm/\exO (L.map MR.m) k lm f i (V.map vq)=exS (L.map MR.m) k lm/\SeaV L k A V/\WtOk L K/\Sta A (fun h=>EngX h eb wb s k L osl os qs) /\
  St h h' ([.mp wb (K.map wtC),.mp h41.size ((V.map kyP).map kyV),.sl queue 94 5 (V.map Vs.cs),.blk h.size [.int .i64 0,.slice none 0 0,.slice none 0 0,.int .i64 0,.slice none 0 0] 32]++A),⟨_,0,lm+1,[v0],[],A,rfl,rfl,rfl,Nat.zero_le _,by show 1<=lm;omega,hex,hsea,hwt0,hE,hs⟩,?_⟩
 clear hs hex hsea hwt0 hE hkv hv0 hA1 hse hs1 hs2 hM;rintro-queue _ h62 μ ⟨i,f,V,K,A,rfl,hμ,hfi,hi,hVl,hex,hsea,hK,hE,hs⟩;have hqn:=(hs.rows 2 (s:=queue) (cs:=Vs.cs) rfl (by omega)).ln;refine sBi (fun c5=>?_) (fun c5=>?_)
 ·obtain⟨v,gv⟩:=get_some (l:=V) (i:=i) (by omega);have hvm:=Yb gv;have hcv:=hsea.c v hvm;have hpv:=hsea.p v hvm;refine (hs.rows 2 (s:=queue) (cs:=Vs.cs) rfl (by omega)).nbI (by omega) (by omega) fun b63 o64 v' gv' t=>?_;rw[Ys,gv] at gv';cases gv';refine⟨v.c1,v.c2,t.sub0 2 rfl,?_⟩;refine hs.newput (vs:=[.slice v.c1.a v.c1.n v.c1.c,.slice v.c2.a v.c2.n v.c2.c]) rfl rfl fun h68 hs=>?_;refine⟨v.c1,v.c2,hs.at 0 rfl (o:=0) (n:=2) rfl,?_⟩;refine (steps34 L s k eb v.c1 v.c2 v.S v.B h68 (hS.ext hs.ext) (hE.at hs (memP (P:=[_,_,_,_,_]))).r (hcv.at hs (memP (P:=[_,_,_,_,_]))) hpv).mono ?_;rintro _ h73 ⟨r,rfl,hsr⟩;have hs:=(hs.join hsr).perm List.perm_append_comm;have hs:St h h73 (.mp wb (K.map wtC)::[.sl r 48 2 ((stepsS (L.map MR.m) k v.S (v.B.map Bx.l)).map stpC),.blk h62.size [.slice v.c1.a v.c1.n v.c1.c,.slice v.c2.a v.c2.n v.c2.c] 50,.mp h41.size ((V.map kyP).map kyV),.sl queue 94 5 (V.map Vs.cs),.blk h.size [.int .i64 0,.slice none 0 0,.slice none 0 0,.int .i64 0,.slice none 0 0] 32]++A):=
   St.picksA (P:=[_,_,_,_,_,_]) hs [2,0,1,3,4,5] (by decide) rfl
  have hrn:=(hs.rows 1 (s:=r) (cs:=stpC) rfl (by omega)).ln;obtain⟨X,hX⟩:∃X,X=stepsS (L.map MR.m) k v.S (v.B.map Bx.l):=⟨_,rfl⟩;rw[<-hX] at hs hrn;refine⟨r,rfl,v.c1,v.c2,hs.at 2 rfl (o:=0) (n:=2) rfl,?_⟩;refine (bad35 L s k eb wb v.c1 v.c2 v.S v.B (decide ((r.n:Int)>0)) K osl os qs hs (hS) (hE.mono (memP (P:=[_,_,_,_,_]))) (hcv.mono (memP (P:=[_,_,_,_,_]))) hpv hK (by
   rw[decide_eq_true_eq,<-hX];constructor
   ·intro h1 h2;rw[h2] at hrn;simp at hrn;omega
   ·intro h1;have:X.length≠0:=fun h2=>h1 (List.length_eq_zero_iff.1 h2);omega)).mono ?_
  rintro _ h78 ⟨K2,rfl,hK2,hs⟩;obtain⟨f2,hf2⟩:∃f',f=f'+1:=⟨f-1,by omega⟩;have gvq:(V.map vq)[i]?=some (vq v):=by rw[Yd,gv];rfl
  rw[hf2,exO,gvq] at hex;dsimp only at hex;have hbadE:badS (L.map MR.m) k (vq v).1.1 (vq v).1.2=badS (L.map MR.m) k v.S (v.B.map Bx.l):=rfl;have hstE:stepsS (L.map MR.m) k (vq v).1.1 (vq v).1.2=X:=hX.symm;rw[hbadE,hstE] at hex;refine⟨_,rfl,?_⟩;generalize badS (L.map MR.m) k v.S (v.B.map Bx.l)=bd at *;by_cases hbd:bd=0;rotate_left
  ·rw[if_pos hbd] at hex;refine sB_t (by rw[bne_iff_ne];exact hbd) ?_;refine (trace36 V queue i v h78 (hs.rows 4 (s:=queue) (cs:=Vs.cs) rfl (by omega)) (by omega) gv hsea.t).mono ?_;rintro _ h81 ⟨tr,rfl,hst⟩;have hs:=(hs.join hst).perm List.perm_append_comm;refine⟨tr,rfl,?_⟩;refine hs.put 6 rfl (o:=0) (vs:=[.int .i64 2,.slice none 0 0,.slice none 0 0,.int .i64 bd,.slice tr.a tr.n tr.c]) rfl (show 5<=5 by decide) fun h82 hs=>?_;have htl:v.tr.length<=i:=(hsea.t i v gv).1;refine⟨2,⟨none,0,0⟩,⟨none,0,0⟩,bd,tr,hs.at 6 rfl (o:=0) (n:=5) rfl,ExV.empty hs (.inl ⟨Yx,by omega⟩) ?_⟩;rw[hx,<-hex];rfl
  rw[if_neg (fun h=>h hbd)] at hex;refine sB_f (by rw[hbd];rfl) ?_;obtain⟨g,hg⟩:∃g,g=exI (L.map MR.m) lm (vq v) X (V.map vq):=⟨_,rfl⟩;rw[<-hg] at hex;have hXs:∀z∈X,∃m x,(L.map MR.m)[z.1]?=some m/\m.mv[z.2]?=some x/\canS (L.map MR.m).length k v.S (v.B.map Bx.l) z.1 x=0:=fun z hz=>by
   obtain⟨a,b⟩:=z;rw[hX] at hz;exact steps_mem hz
  have hXl:X.length<=2400:=by
   have:=steps_len (n:=(L.map MR.m).length) (k:=k) (S:=v.S) (BL:=v.B.map Bx.l) hV (L.map MR.m).length;rw[hX];unfold stepsS;omega
  refine⟨fun queue x h' μ=>∃(j:Nat) (V:List Vs) (A:List It),x=(j:Int)/\μ=X.length-j/\j<=X.length/\i<V.length/\V.length<=lm/\V[i]?=some v/\exI (L.map MR.m) lm (vq v) (X.drop j) (V.map vq)=g/\SeaV L k A V/\Sta A (fun h=>EngX h eb wb s k L osl os qs) /\
   St h h' ([.mp wb (K2.map wtC),.sl r 48 2 (X.map stpC),.blk h62.size [.slice v.c1.a v.c1.n v.c1.c,.slice v.c2.a v.c2.n v.c2.c] 50,.mp h41.size ((V.map kyP).map kyV),.sl queue 94 5 (V.map Vs.cs),.blk h.size [.int .i64 0,.slice none 0 0,.slice none 0 0,.int .i64 0,.slice none 0 0] 32]++A),⟨_,0,V,A,rfl,rfl,Nat.zero_le _,by omega,hVl,gv,by rw[List.drop_zero];exact hg.symm,hsea,hE,hs⟩,?_⟩
  clear hs hsea hE hcv gv hVl hqn c5 hg hi gvq hvm hK;clear t hsr;rintro-queue2 _ h93 μ ⟨j,V,A,rfl,rfl,hj,hiV,hVl,gv,hgI,hsea,hE,hs⟩;have hqn:=(hs.rows 4 (s:=queue2) (cs:=Vs.cs) rfl (by omega)).ln;have hcv:=hsea.c v (Yb gv);refine sBi (fun c6=>?_) (fun c6=>?_)
  ·obtain⟨⟨a,b⟩,gz⟩:=get_some (l:=X) (i:=j) (by omega);obtain⟨m,x,gm,gx,hc⟩:=hXs _ (Yb gz);dsimp only at gm gx hc;have hxm:=Yb gx;have hvmm:=hpv.v.m a m gm;have ha:a<(L.map MR.m).length:=(Ya.1 gm).1;have hx0:=(hvmm.2.1.n.mv x hxm).2.2.2.2.1;have hx1:=hvmm.2.2 x hxm;rw[hlm] at hc hx1 ha;have hBl:v.B.length=L.length*L.length:=by have:=hpv.p.b;rw[Yc,hlm] at this;exact this
   have hSl:v.S.length=L.length:=by rw[hpv.p.s,hlm]
   obtain⟨q,gq⟩:=get_some (l:=v.B) (i:=bxI L.length a x) (by rw[hBl];exact bxI_lt ha hx0 hx1);have hql:(v.B.map Bx.l)[bxI L.length a x]?=some q.l:=by rw[Yd,gq];rfl
   have hqd:(v.B.map Bx.l).getD (bxI L.length a x) []=q.l:=getD_map gq;have hq4:q.l.length<=4:=by have:=(hpv.p.bx _ q.l hql).1;omega
   have hq1:x.send=false->1<=q.l.length:=fun d=>by
    obtain⟨r,hr⟩:=(can_parts.1 hc).2.2 d;rw[hqd] at hr;rw[hr,Yyj];omega
   refine (hs.rows 1 (s:=r) (cs:=stpC) rfl (by omega)).nbI (by omega) (by omega) fun b94 o95 z gz' t=>?_;rw[Ys,gz] at gz';cases gz';refine⟨(a:Int),(b:Int),t,?_⟩;refine hs.newput (vs:=[.int .i64 (a:Int),.int .i64 (b:Int)]) rfl rfl fun h99 hs=>?_;refine⟨v.c1,v.c2,hs.at 3 rfl (o:=0) (n:=2) rfl,(a:Int),(b:Int),hs.at 0 rfl (o:=0) (n:=2) rfl,?_⟩;refine (do37 L s k eb v.c1 v.c2 v.S v.B a b m x q h99 (hS.ext hs.ext) (hE.at hs (memP (P:=[_,_,_,_,_,_,_]))).r (hcv.at hs (memP (P:=[_,_,_,_,_,_,_]))) hpv gm gx hc gq).mono ?_;rintro _ h107 ⟨ts,tb,u,A3,rfl,hs3,m1,m2,m3,m4⟩;rw[hn] at m2;have hs:St h h107 ([.blk h93.size [.int .i64 (a:Int),.int .i64 (b:Int)] 48,.mp wb (K2.map wtC),.sl r 48 2 (X.map stpC),.blk h62.size [.slice v.c1.a v.c1.n v.c1.c,.slice v.c2.a v.c2.n v.c2.c] 50,.mp h41.size ((V.map kyP).map kyV),.sl queue2 94 5 (V.map Vs.cs),.blk h.size [.int .i64 0,.slice none 0 0,.slice none 0 0,.int .i64 0,.slice none 0 0] 32]++(A++A3)):=hs.join hs3;have hSS:(v.S.set a x.t).length<=1048576:=by rw[Yyh];omega
   have hcn:CfN (A++A3) ts tb (v.S.set a x.t) (v.B.set (bxI L.length a x) ⟨u,newL x q.l⟩):=do_next hcv gq hSS (by omega) hq4 hq1 m1 m2 m3 m4;have hBn:(v.B.set (bxI L.length a x) ⟨u,newL x q.l⟩).map Bx.l=doB (L.map MR.m).length a x (v.B.map Bx.l):=by rw[hlm];exact doB_newL gq
   have hpn:ProS (L.map MR.m) k (v.S.set a x.t) ((v.B.set (bxI L.length a x) ⟨u,newL x q.l⟩).map Bx.l):=by
    rw[hBn];exact pro_do hpv gm hxm (by rw[hlm];exact hc)
   have hnx:((v.S.set a x.t,(v.B.set (bxI L.length a x) ⟨u,newL x q.l⟩).map Bx.l):Cf)=nxS (L.map MR.m) (vq v).1 (a,b):=by rw[nxS_of gm gx,hBn];rfl
   replace hsea:SeaV L k (A++A3) V:=hsea.mono fun i hi=>List.mem_append_left _ hi;replace hE:Sta (A++A3) fun h=>EngX h eb wb s k L osl os qs:=hE.mono fun i hi=>List.mem_append_left _ hi;clear hs3 m1 m2 m3 m4 hcv t;generalize A++A3=A at *;obtain⟨nv,hnv⟩:∃nv:Vs,nv=⟨ts,tb,v.S.set a x.t,v.B.set (bxI L.length a x) ⟨u,newL x q.l⟩,(i:Int),a,b,v.tr++[(a,b)]⟩:=⟨_,rfl⟩;have hnq:(vq nv).1=nxS (L.map MR.m) (vq v).1 (a,b):=by rw[hnv];exact hnx
   have hnt:vq nv=(nxS (L.map MR.m) (vq v).1 (a,b),(vq v).2++[(a,b)]):=Prod.ext hnq (by rw[hnv];rfl);refine⟨ts,tb,rfl,?_⟩;refine hs.newput (vs:=[.slice ts.a ts.n ts.c,.slice tb.a tb.n tb.c]) rfl rfl fun h109 hs=>?_;refine⟨ts,tb,hs.at 0 rfl (o:=0) (n:=2) rfl,?_⟩;refine (encode35 ts tb _ _ h109 (hcn.at hs (memP (P:=[_,_,_,_,_,_,_,_]))) (enc_pro hpn)).mono ?_;rintro _ h114 ⟨b3,rfl,hse⟩;have hs:=hs.step hse.ext;refine⟨b3,rfl,(cv_str hse encC_byte).mono ?_⟩;rintro _ _ ⟨rfl,rfl⟩;refine⟨_,rfl,?_⟩;have hkv:bs (toB (encC (v.S.set a x.t) ((v.B.set (bxI L.length a x) ⟨u,newL x q.l⟩).map Bx.l)))=kyC (vq nv).1:=by rw[hnv];rfl
   rw[hkv];have hkok:kokB (kyC (vq nv).1):=by rw[hnv];exact ky_ok (c:=(_,_)) hpn
   rw[drop_get gz,exI] at hgI;refine hs.mlook M92 (cv:=Value.bool) (l:=V.map kyP) (a:=kyC (vq nv).1) 5 rfl hsea.kok hsea.knd hkok false ?_;have hmm:=ky_mem (V:=V) (c:=(vq nv).1);cases hg:mget (V.map kyP) (kyC (vq nv).1) with
   | some y=>
    have hy:y=true:=by
     obtain⟨w,_,e⟩:=Yp.1 (mgetE_mem hg);exact (congrArg Prod.snd e).symm
    subst hy;rw[hg] at hmm;refine⟨true,rfl,sB_t rfl ?_⟩;rw[if_pos (by rw[<-hnq];exact hmm.2 (by simp))] at hgI;refine⟨_,(show X.length-(j+1)<X.length-j by omega),j+1,V,A,by rw[w64 (by omega) (by omega)];omega,rfl,by omega,hiV,hVl,gv,hgI,hsea,hE,hs.drop 2⟩
   | none=>
    rw[hg] at hmm;have hnm:(vq nv).1∉(V.map vq).map Prod.fst:=fun h=>hmm.1 h rfl;refine⟨false,rfl,sB_f rfl ?_⟩;rw[if_neg (by rw[<-hnq];exact hnm),Yc] at hgI;refine sBe (fun c7=>?_) (fun c7=>?_)
    ·rw[if_pos (by omega)] at hgI;rw[<-hgI] at hex;refine hs.put 7 rfl (o:=0) (vs:=[.int .i64 3,.slice none 0 0,.slice none 0 0,.int .i64 0,.slice none 0 0]) rfl (show 5<=5 by decide) fun h122 hs=>?_;refine⟨3,⟨none,0,0⟩,⟨none,0,0⟩,0,⟨none,0,0⟩,hs.at 7 rfl (o:=0) (n:=5) rfl,ExV.empty hs (.inr ⟨rfl,rfl⟩) ?_⟩;rw[hx,<-hex];rfl
    ·rw[if_neg (by omega)] at hgI;refine hs.mput M92 (cv:=Value.bool) (l:=V.map kyP) (a:=kyC (vq nv).1) 5 rfl hsea.kok hsea.knd hkok true fun h128 hs=>?_;rw[mset_none (mget_nomem hg)] at hs;refine⟨ts,tb,hs.at 0 rfl (o:=0) (n:=2) rfl,(a:Int),(b:Int),hs.at 1 rfl (o:=0) (n:=2) rfl,?_⟩;refine hs.app 6 (s:=queue2) (n:=5) (rows:=V.map Vs.cs) rfl app95 (m:=1) [nv.cs] (by rw[hnv];rfl) rfl (fun r hr=>by rw[Ye] at hr;rw[hr];rfl) rfl (by omega) (by simp only[maxLen];omega) fun q2 h135 nr hs=>?_;refine⟨_,(show X.length-(j+1)<X.length-j by omega),j+1,V++[nv],A,by rw[w64 (by omega) (by omega)];omega,rfl,by omega,by rw[Yh];omega,by rw[Yh,Yv];omega,by rw[Yyi hiV];exact gv,?_,hsea.snoc (p:=i) (u:=v) ?_ ?_ hnm gv ?_ ?_,hE,?_⟩
     ·rw[Ym,Yyl,List.map_nil,hnt];exact hgI
     ·rw[hnv];exact hcn
     ·rw[hnv];exact hpn
     ·rw[hnv]
     ·rw[hnv]
     ·have e1:(V++[nv]).map kyP=V.map kyP++[(kyC (vq nv).1,true)]:=by rw[Ym];rfl
      have e2:(V++[nv]).map Vs.cs=V.map Vs.cs++[nv.cs]:=by rw[Ym];rfl
      rw[e1,e2];exact hs.drop 2
  ·have hje:j=X.length:=by omega
   rw[hje,List.drop_length,exI] at hgI;rw[<-hgI] at hex;refine⟨f2,by omega,i+1,f2,V,K2,A,by rw[w64 (by omega) (by omega)];omega,rfl,by omega,by omega,hVl,hex,hsea,hK2,hE,?_⟩;exact St.picksA (P:=[_,_,_,_,_,_]) hs [0,3,4,5] (by decide) rfl
 ·have hiV:V.length<=i:=by omega
  obtain⟨f2,hf2⟩:∃f',f=f'+1:=⟨f-1,by omega⟩;rw[hf2,exO,Yl (by rw[Yc];exact hiV)] at hex;dsimp only at hex;have hsq:(s.n:Int)*(s.n:Int)=((L.length*L.length:Nat):Int):=by rw[hn];rfl
  obtain⟨nn,hnn⟩:∃nn,nn=L.length*L.length:=⟨_,rfl⟩;rw[hsq,<-hnn,w64 (n:=((nn:Nat):Int)) (by omega) (by omega),Ys,made3i];refine⟨⟨by omega,by omega,by omega⟩,?_⟩;refine hs.newb fun h138 hs=>?_;have hs:=hs.blkS nn 1 ((List.replicate nn (0:Int)).map inC) (inC_flat _) (inrows _) (by rw[Yc,Yg]) (by simp only[maxLen];omega);refine hs.newput (vs:=[.int .i64 1,.slice none 0 0,.slice (some ⟨h62.size,0,none⟩) nn nn,.int .i64 0,.slice none 0 0]) rfl rfl fun h140 hs=>?_;have hs:=hs.nil_ 50 2;obtain⟨mo,hmo⟩:∃mo:Sl,mo=⟨some ⟨h62.size,0,none⟩,nn,nn⟩:=⟨_,rfl⟩;have hs:St h h140 ([.sl ⟨none,0,0⟩ 50 2 (([]:List Cr).map Cr.cs),.blk h138.size (resA 1 ⟨none,0,0⟩ mo 0 ⟨none,0,0⟩) 32,.sl mo 3 1 ((List.replicate nn (0:Int)).map inC),.sl queue 94 5 (V.map Vs.cs),.blk h.size [.int .i64 0,.slice none 0 0,.slice none 0 0,.int .i64 0,.slice none 0 0] 32]++A):=
   St.picksA (P:=[_,_,_,_,_,_,_]) (by rw[hmo];exact hs) [0,1,2,5,6] (by decide) rfl
  have hm0:List.replicate nn (0:Int)=mostS L.length ((V.take 0).map fun v=>(vq v).1):=by rw[hnn];rfl
  rw[hm0] at hs;refine⟨fun x h' μ=>∃(i:Nat) (C:List Cr) (cf:Sl) (A:List It),x=(i:Int)/\μ=V.length-i/\i<=V.length/\C.map Cr.cf=(V.take i).map (fun v=>(vq v).1)/\(∀c∈C,CfN A c.c1 c.c2 c.S c.B)/\SeaV L k A V /\
   St h h' ([.sl cf 50 2 (C.map Cr.cs),.blk h138.size (resA 1 cf mo 0 ⟨none,0,0⟩) 32,.sl mo 3 1 ((mostS L.length ((V.take i).map fun v=>(vq v).1)).map inC),.sl queue 94 5 (V.map Vs.cs),.blk h.size [.int .i64 0,.slice none 0 0,.slice none 0 0,.int .i64 0,.slice none 0 0] 32]++A),⟨_,0,[],⟨none,0,0⟩,A,rfl,rfl,Nat.zero_le _,rfl,fun c hc=>(by cases hc),hsea,hs⟩,?_⟩
  clear hs hsea hE hm0;rintro-_ h145 μ2 ⟨i2,C,cf,A,rfl,rfl,hi2,hC,hCn,hsea,hs⟩;have hCl:C.length=i2:=by
   have:=congrArg List.length hC;rw[Yc,Yc,Yu] at this;omega
  refine sBi (fun c6=>?_) (fun c6=>?_)
  ·obtain⟨v,gv⟩:=get_some (l:=V) (i:=i2) (by omega);have hvm:=Yb gv;have hcv:=hsea.c v hvm;have hpv:=hsea.p v hvm;have hBl:v.B.length=nn:=by have:=hpv.p.b;rw[Yc,hlm] at this;rw[hnn];exact this
   have hSl:v.S.length=L.length:=by rw[hpv.p.s,hlm]
   refine (hs.rows 3 (s:=queue) (cs:=Vs.cs) rfl (by omega)).nbI (by omega) (by omega) fun b146 o147 v' gv' t=>?_;rw[Ys,gv] at gv';cases gv';refine⟨v.c1,v.c2,v.ah,(v.a:Int),(v.b:Int),t,?_⟩;refine hs.newput (vs:=v.cs) rfl rfl fun h154 hs=>?_;refine⟨cf,hs.rd 2 rfl (i:=1) rfl,v.c1,v.c2,hs.at 0 rfl (o:=0) (n:=2) rfl,?_⟩;refine (clone38 v.c1 v.c2 v.S v.B h154 (hcv.at hs (memP (P:=[_,_,_,_,_,_])))).mono ?_;rintro _ h161 ⟨ts,tb,T,rfl,hTB,hst⟩;have hTl:T.length=nn:=by
    have:=congrArg List.length hTB;rw[Yc,Yc] at this;omega
   refine⟨ts,tb,rfl,hst.ext.sm,?_⟩;have hs:=hs.join hst;refine hs.newbE fun h162 E162 hs=>⟨E162.sm,?_⟩;have hcn:CfN (A++([.sl ts 3 1 (v.S.map inC),.sl tb 25 1 (T.map Bx.cs)]++T.map Bx.it)) ts tb v.S T:=fun h0 hh A' hA hs=>by
    have m1:∀it∈([.sl ts 3 1 (v.S.map inC),.sl tb 25 1 (T.map Bx.cs)]++T.map Bx.it:List It),it∈A':=fun it h=>hA it (List.mem_append_right _ h);refine⟨hs.rlm (m1 _ Yx) (by omega) (by omega),hs.rlm (m1 _ (Yn _ Yx)) (by omega) (by omega),fun q hq=>?_⟩;refine hs.rlm (m1 _ (List.mem_append_right _ (List.mem_map_of_mem hq))) (by omega) ?_;have hq1:q.l∈v.B.map Bx.l:=by rw[<-hTB];exact List.mem_map_of_mem hq
    obtain⟨j,gj⟩:=Yf.1 hq1;have:=(hpv.p.bx j q.l gj).1;have:=hpv.c;omega
   have hs:St h h162 ([.blk h161.size [.slice ts.a ts.n ts.c,.slice tb.a tb.n tb.c] 50,.blk h145.size v.cs 94,.sl cf 50 2 (C.map Cr.cs),.blk h138.size (resA 1 cf mo 0 ⟨none,0,0⟩) 32,.sl mo 3 1 ((mostS L.length ((V.take i2).map fun v=>(vq v).1)).map inC),.sl queue 94 5 (V.map Vs.cs),.blk h.size [.int .i64 0,.slice none 0 0,.slice none 0 0,.int .i64 0,.slice none 0 0] 32]++(A++([.sl ts 3 1 (v.S.map inC),.sl tb 25 1 (T.map Bx.cs)]++T.map Bx.it))):=hs;replace hsea:=hsea.mono (A':=A++([.sl ts 3 1 (v.S.map inC),.sl tb 25 1 (T.map Bx.cs)]++T.map Bx.it)) fun i hi=>List.mem_append_left _ hi;replace hCn:∀c∈C,CfN (A++([.sl ts 3 1 (v.S.map inC),.sl tb 25 1 (T.map Bx.cs)]++T.map Bx.it)) c.c1 c.c2 c.S c.B:=fun c hc=>(hCn c hc).mono fun i hi=>List.mem_append_left _ hi;clear hst hcv t;generalize A++([.sl ts 3 1 (v.S.map inC),.sl tb 25 1 (T.map Bx.cs)]++T.map Bx.it)=A at *;have hcv:=hsea.c v hvm;have hcfn:=(hs.len 2 (s:=cf) rfl (by omega)).1;rw[Yc] at hcfn;refine hs.appended 2 (s:=cf) (n:=2) (rows:=C.map Cr.cs) rfl app29 (m:=1) (news:=[Cr.cs (⟨ts,tb,v.S,T⟩:Cr)]) (hs.at 0 rfl (n:=2) rfl) rfl (fun r hr=>by rw[Ye] at hr;rw[hr];rfl) rfl (by omega) (by simp only[maxLen];omega) fun r2 h164 nr hs=>?_;refine hs.put 3 rfl (o:=1) (vs:=[.slice r2.a r2.n r2.c]) rfl (show 2<=5 by decide) fun h165 hs=>?_;refine⟨v.c2,hs.rd 1 rfl (i:=1) rfl,?_⟩;have hbn:=(hcv.at hs (memP (P:=[_,_,_,_,_,_,_]))).b.ln;generalize hMM:mostS L.length ((V.take i2).map fun v=>(vq v).1)=M at *;have hMl:M.length=nn:=by rw[<-hMM,most_len,hnn]
   refine⟨fun x h' μ=>∃j:Nat,x=(j:Int)/\μ=v.B.length-j/\j<=v.B.length/\St h h' ([.blk h161.size [.slice ts.a ts.n ts.c,.slice tb.a tb.n tb.c] 50,.blk h145.size v.cs 94,.sl r2 50 2 ((C++[(⟨ts,tb,v.S,T⟩:Cr)]).map Cr.cs),.blk h138.size (resA 1 r2 mo 0 ⟨none,0,0⟩) 32,.sl mo 3 1 ((stepM (v.B.map Bx.l) j M).map inC),.sl queue 94 5 (V.map Vs.cs),.blk h.size [.int .i64 0,.slice none 0 0,.slice none 0 0,.int .i64 0,.slice none 0 0] 32]++A),⟨_,0,rfl,rfl,Nat.zero_le _,by rw[stepM_0,Ym];exact hs⟩,?_⟩;clear hs;rintro-_ h171 μ3 ⟨j,rfl,rfl,hj,hs⟩;have hmn:=(hs.rows 4 (s:=mo) (cs:=inC) rfl (by omega)).ln;rw[stepM_len] at hmn;refine sBi (fun c7=>?_) (fun c7=>?_)
   ·obtain⟨q,gq⟩:=get_some (l:=v.B) (i:=j) (by omega);obtain⟨y,gy⟩:=get_some (l:=M) (i:=j) (by omega);have hCf:=hcv.at hs (memP (P:=[_,_,_,_,_,_,_]));have hqi:=hCf.i q (Yb gq);have hqn:=hqi.ln;refine hCf.b.rw.nbI (by omega) (by omega) fun b172 o173 q' gq' t=>?_;rw[Ys,gq] at gq';cases gq';refine⟨q.s,t.hd,mo,hs.rd 3 rfl (i:=2) rfl,mo,hs.rd 3 rfl (i:=2) rfl,?_⟩;refine (hs.rows 4 (s:=mo) (cs:=inC) rfl (by omega)).nbI (by omega) (by omega) fun b177 o178 y' gy' t2=>?_;rw[Ys,stepM_get,gy] at gy';cases gy';refine⟨y,t2.hd,?_⟩;refine hs.set 4 (s:=mo) (cs:=inC) (x:=(j:Int)) rfl (by omega) (by omega) (by omega) (imax y (q.s.n:Int)) rfl rfl (fun b180 o181 h182 hs=>?_) rfl;rw[Ys] at hs;have hql:(v.B.map Bx.l).getD j []=q.l:=getD_map gq;have e1:=stepM_next (B:=v.B.map Bx.l) gy;rw[hql,<-hqn] at e1;refine⟨_,(show v.B.length-(j+1)<v.B.length-j by omega),j+1,by rw[w64 (by omega) (by omega)];omega,rfl,by omega,?_⟩;rw[<-e1];exact hs
   ·have hjB:j=v.B.length:=by omega
    have e1:(V.take (i2+1)).map (fun v=>(vq v).1)=(V.take i2).map (fun v=>(vq v).1)++[(vq v).1]:=by rw[take_snoc gv,Ym];rfl
    refine⟨_,(show V.length-(i2+1)<V.length-i2 by omega),i2+1,C++[(⟨ts,tb,v.S,T⟩:Cr)],r2,A,by rw[w64 (by omega) (by omega)];omega,rfl,by omega,?_,?_,hsea,?_⟩
    ·rw[e1,Ym,hC];congr 1;show [(v.S,T.map Bx.l)]=_;rw[hTB];rfl
    ·intro c hc;rcases Yk.1 hc with hc | hc
     ·exact hCn c hc
     ·rw[Ye.1 hc];exact hcn
    ·rw[e1,most_snoc,hMM];have e2:=stepM_end (B:=v.B.map Bx.l) (M:=M) (j:=j) (by omega);rw[e2] at hs;exact hs.drop 2
  ·have hie:i2=V.length:=by omega
   subst hie;rw[Yye] at hC hs;refine⟨1,cf,mo,0,⟨none,0,0⟩,hs.at 1 rfl (o:=0) (n:=5) rfl,?_⟩;refine hs.put 4 rfl (o:=0) (vs:=resA 1 cf mo 0 ⟨none,0,0⟩) rfl (show 5<=5 by decide) fun h190 hs=>?_;refine⟨1,cf,mo,0,⟨none,0,0⟩,hs.at 4 rfl (o:=0) (n:=5) rfl,cf,mo,⟨none,0,0⟩,_,?_,hs,fun h0 h2 A' hA hs'=>?_⟩
   ·rw[hx,<-hex];rfl
   ·have hr:(expV (L.map MR.m) k (lm:Int)).1=⟨1,(V.map vq).map Prod.fst,mostS (L.map MR.m).length ((V.map vq).map Prod.fst),0,[]⟩:=by rw[hx,<-hex];rfl
    have eV:(V.map vq).map Prod.fst=V.map fun v=>(vq v).1:=by rw[List.map_map];rfl
    rw[hr,eV,hlm];have hml:=most_len L.length (V.map fun v=>(vq v).1);exact⟨⟨C,hs'.rlm (hA _ Yx) (by omega) (by omega),fun c hc=>hCn c hc h0 h2 A' (fun i hi=>hA i (memP (P:=[_,_,_,_,_]) i hi)) hs',hC⟩,
     hs'.rlm (hA _ (Yn _ (Yn _ Yx))) (by omega) (Yys (Nat.le_of_eq hml) (by omega)),RL.nil0⟩
end Go.VC
end

section
namespace Go.VC
open Go.Proofs
variable {h:Heap} {R:Value->Heap->Prop}

def W16 (p0:Sl):Prop:=
 Fn Pz 12 #[vS p0,.agg ⟨[.slice none 0 0,.slice none 0 0]⟩] h
 (fun v1 h3=>∃x2,iB v1 x2 /\
 sB x2
 (Fn Pz 39 #[vS p0] h3
 (fun v4 h6=>∃x5,iB v4 x5 /\
 R (.bool x5) h6))
 (R (.bool false) h3))
theorem vc16 (p0:Sl) (H:@W16 h R p0):Fn Pz 16 #[vS p0] h R:=fnI (A:=.z) (by kernel_rfl) H

def W24 (p0 p1_1 p1_2:Sl):Prop:=
 Wn h [vS p1_1,vS p1_2] 50 fun h3=>
 QI 0 h3 fun I4 x_7 h8 m6=>
 sB (decide (x_7<(p0.n:Int)))
 (NB p0.a fun b9 o10=>Ib x_7 p0.n /\
 ∃(x11 x12:Sl),atC h8 ⟨b9,o10+Int.toNat x_7*2,none⟩ [vS x11,vS x12] /\
 ∃(x13 x14:Sl),atC h8 (aS h 0) [vS x13,vS x14] /\
 Fn Pz 18 #[.agg ⟨[vS x11,vS x12]⟩,.agg ⟨[vS x13,vS x14]⟩] h8
 (fun v15 h17=>∃x16,iB v15 x16 /\
 sB x16
 (R (.bool true) h17)
 (∃m18,m18<m6/\I4 (IntKind.wrap .i64 (x_7+1)) h17 m18)))
 (R (.bool false) h8)
theorem vc24 (p0 p1_1 p1_2:Sl) (H:@W24 h R p0 p1_1 p1_2):Fn Pz 24 #[vS p0,.agg ⟨[vS p1_1,vS p1_2]⟩] h R:=fnI (A:=(.s .z (.s (.s .z (.b (.l [(8,.one (.int .i64))] .z))) .z))) (by kernel_rfl) H

end Go.VC
end

section
namespace Go.VC
open Go.Proofs Go.LexS

structure Vr where
 c:Cr
 t:Sl
 tr:List (Nat × Nat)
def Vr.cs (v:Vr):List Value:=v.c.cs
def Vr.ts (v:Vr):List Value:=[.slice v.t.a v.t.n v.t.c]
end Go.VC
end

section
namespace Go.VC
open Go.Proofs
variable {h:Heap} {R:Value->Heap->Prop}

def V3a (p0:Sl) (p1 p2:Int) (h6:Heap) (R:Value->Heap->Prop):Prop:=
 Fn Pz 13 #[vS p0,vI p1,vI p2] h6 (fun v7 h14=>∃(x8:Int) (x9 x10:Sl) (x11:Int) (x12:Sl) (x13:Int),v7=.tuple ⟨[.agg ⟨(L6 x8 x9 x10 x11 x12)⟩,vI x13]⟩/\Wn h14 [vI 0,.slice none 0 0,.slice none 0 0,vI 0,.slice none 0 0] 32 fun h15=>Wp h15 (aS h14 0) 5 (L6 x8 x9 x10 x11 x12) fun h16=>Fn Pz 14 #[vS p0,vI p1,vI p2] h16 (fun v17 h24=>∃(x18:Int) (x19 x20:Sl) (x21:Int) (x22:Sl) (x23:Int),v17=.tuple ⟨[.agg ⟨(L6 x18 x19 x20 x21 x22)⟩,vI x23]⟩/\Wn h24 [vI 0,.slice none 0 0,.slice none 0 0,vI 0,.slice none 0 0] 39 fun h25=>Wp h25 (aS h24 0) 5 (L6 x18 x19 x20 x21 x22) fun h26=>sB (x13==x23) (∃x27 x28 x29 x30 x31,aL6 h26 (aS h14 0) x27 x28 x29 x30 x31/\∃x32 x33 x34 x35 x36,aL6 h26 (aS h24 0) x32 x33 x34 x35 x36/\Fn Pz 15 #[.agg ⟨(L6 x27 x28 x29 x30 x31)⟩,.agg ⟨(L6 x32 x33 x34 x35 x36)⟩] h26 (fun v37 h39=>∃x38,iB v37 x38/\R (.bool x38) h39)) (R (.bool false) h26)))
def W3 (p0:Sl) (p1 p2:Int):Prop:=
 (Fn Pz 11 #[] h (fun v1 h3=>∃x2,iB v1 x2/\sB (!x2) (R (.bool false) h3) (Fn Pz 12 #[vS p0,.agg ⟨[.slice none 0 0,.slice none 0 0]⟩] h3 (fun v4 h6=>∃x5,iB v4 x5/\sB (!x5) (R (.bool true) h6) (sB (decide (p2>150)) (sB (decide (p2<=20000)) (R (.bool true) h6) (V3a p0 p1 p2 h6 R)) (V3a p0 p1 p2 h6 R)))))) /- farandole/farandolelaw28.ExploreLimits loop rrrrrrrrrrrlrb: x_68:Int loop rrrrrrrrrrlrb: x_51:Int -/ /- farandole/farandolelaw28.ExploreRoom loop rrrrrrrrrrrlrb: x_53:Int loop rrrrrrrrlrb: full_32:Bool,x_33:Int -/ /- farandole/farandolelaw28.awake -/ def W11 (h:Heap) (R:Value->Heap->Prop):Prop:=(Fn Pz 30 #[.bool true] h (fun v1 h10=>∃(x2:ByteArray) (x3 x4:Sl) (x5 x6 x7:Int) (x8 x9:Sl),v1=.agg ⟨(L2 x2 x3 x4 x5 x6 x7 x8 x9)⟩/\Fn Pz 29 #[.agg ⟨(L2 x2 x3 x4 x5 x6 x7 x8 x9)⟩] h10 (fun v11 h14=>∃(x12:Sl) (x13:Int),v11=.tuple ⟨[vS x12,vI x13]⟩/\Fn Pz 13 #[vS x12,vI 1,vI 1000] h14 (fun v15 h22=>∃(x16:Int) (x17 x18:Sl) (x19:Int) (x20:Sl) (x21:Int),v15=.tuple ⟨[.agg ⟨(L6 x16 x17 x18 x19 x20)⟩,vI x21]⟩/\Wn h22 [vI 0,.slice none 0 0,.slice none 0 0,vI 0,.slice none 0 0] 32 fun h23=>Wp h23 (aS h22 0) 5 (L6 x16 x17 x18 x19 x20) fun h24=>sB (x13==0) (sB (x21==0) (∃x25,rI h24 (aS h22 0) x25/\sB (x25==1) (∃x26,rS h24 (aS h22 1) x26/\sB (decide ((x26.n:Int)>5)) (∃x27,rS h24 (aS h22 2) x27/\sB ((x27.n:Int)==9) (∃x28,rS h24 (aS h22 2) x28/\NB x28.a fun b29 o30=>Ib 1 x28.n/\∃x31,rI h24 ⟨b29,o30+Int.toNat 1*1,none⟩ x31/\R (.bool (x31==1)) h24) (R (.bool false) h24)) (R (.bool false) h24)) (R (.bool false) h24)) (R (.bool false) h24)) (R (.bool false) h24)))))
theorem vc11  (H:@W11 h R ):Fn Pz 11 #[] h R:=fnI (A:=.z) (by kernel_rfl) H

end Go.VC
end

section
namespace Go.VC
open Go.Proofs Go.LexS
def cstP (n:Nat) (k:Int) (S:List Int) (BL:List (List Int)) (p:Nat) (m:Mch):List Nat:=(List.range m.mv.length).filter (posB n k S BL p m)
def cstS (L:List Mch) (k:Int) (c:Cf):List (Nat × Nat):=(List.range L.length).flatMap fun p=>match L[p]? with
 | some m=>(cstP L.length k c.1 c.2 p m).map fun i=>(p,i)
 | none=>[]
def cstB (L:List Mch) (k:Int) (c:Cf):Bool:=(List.range L.length).all fun p=>match L[p]? with
 | some m=>decide ((cstP L.length k c.1 c.2 p m).Pairwise fun a b=>¬evLt (evI m b) (evI m a))
 | none=>true
theorem cst_eq {L:List Mch} {k:Int} {c:Cf} (hV:SysV L) (h:cstB L k c=true):stepsS L k c.1 c.2=cstS L k c:=by
 unfold stepsS cstS;rw[List.flatMap_def,List.flatMap_def];congr 1;refine List.map_congr_left fun p hp=>?_;unfold stepsR;unfold cstB at h;rw[List.all_eq_true] at h;have hp1:=h p hp;cases gm:L[p]? with
 | none=>rfl
 | some m=>
  rw[gm] at hp1;dsimp only at hp1 ⊢;rw[stepsP_of (hV.m p m gm).2.1.d rfl (Yyn hp1)];rfl
def cexp (m:Mch) (s peer label:Int):Bool:=m.mv.any fun x=>decide (x.f=s)&&(!x.send&&(decide (x.peer=peer)&&decide (x.label=label)))
theorem cexp_ok {m:Mch} {s peer label:Int} (h:cexp m s peer label=true):ExpM m s peer label:=by
 unfold cexp at h;rw[List.any_eq_true] at h;obtain⟨x,hx,h⟩:=h;simp only[Yt,decide_eq_true_eq,Bool.not_eq_true'] at h;exact⟨s,.base (Ye.2 rfl),x,hx,h.1,⟨h.2.1,h.2.2.1⟩,h.2.2.2⟩
def cbox (L:List Mch) (c:Cf):Bool:=(List.range c.2.length).all fun i=>match c.2[i]? with
 | some (b::_)=>match L[i%L.length]?,c.1[i%L.length]? with
  | some m,some s=>cexp m s ((i/L.length:Nat):Int) b
  | _,_=>true
 | _=>true
def cfin (L:List Mch) (c:Cf):Bool:=((List.range c.1.length).all fun p=>match c.1[p]?,L[p]? with
 | some s,some m=>decide (m.fin[s.toNat]?=some true)
 | _,_=>true)&&c.2.all fun b=>b.isEmpty
def cok (L:List Mch) (k:Int) (c:Cf):Bool:=cstB L k c&&(cbox L c&&(!(cstS L k c).isEmpty||cfin L c))
theorem cok_ok {L:List Mch} {k:Int} {c:Cf} (hV:SysV L) (h:cok L k c=true):badS L k c.1 c.2=0/\stepsS L k c.1 c.2=cstS L k c:=by
 unfold cok at h;simp only[Yt] at h;obtain⟨h1,h2,h3⟩:=h;have hst:=cst_eq hV h1;refine⟨badS_0 ?_ ?_,hst⟩
 ·rintro⟨i,b,l,m,s,g1,g2,g3,g4⟩;unfold cbox at h2;rw[List.all_eq_true] at h2;have:=h2 i (List.mem_range.2 (Ya.1 g1).1);rw[g1] at this;dsimp only at this;rw[g2,g3] at this;exact g4 (cexp_ok this)
 ·rw[Bool.or_eq_true] at h3;rcases h3 with h3 | h3
  ·refine .inr fun h=>?_;rw[<-hst,h] at h3;cases h3
  ·refine .inl ?_;unfold cfin at h3;rw[Yt,List.all_eq_true,List.all_eq_true] at h3;refine⟨fun p s m g1 g2=>?_,fun b hb=>List.isEmpty_iff.1 (h3.2 b hb)⟩;have:=h3.1 p (List.mem_range.2 (Ya.1 g1).1);rw[g1,g2] at this;exact Yyn this
def exC (L:List Mch) (k:Int) (lim:Nat):Nat->Nat->List Qe->Option (List Cf)
 | 0,_,_=>none
 | f+1,i,Q=>match Q[i]? with
  | none=>some (Q.map Prod.fst)
  | some e=>if cok L k e.1=true then match exI L lim e (cstS L k e.1) Q with
   | none=>none
   | some Q'=>exC L k lim f (i+1) Q'
   else none
theorem exC_eq {L:List Mch} {k:Int} {lim:Nat} (hV:SysV L):∀(f i:Nat) (Q:List Qe) (R:List Cf),exC L k lim f i Q=some R->exO L k lim f i Q=.safe R
 | 0,_,_,_,h=>by cases h
 | f+1,i,Q,R,h=>by
  rw[exC] at h;rw[exO];cases hq:Q[i]? with
  | none=>rw[hq] at h;cases h;rfl
  | some e=>
   rw[hq] at h;dsimp only at h ⊢;split at h
   ·rename_i hc;obtain⟨h1,h2⟩:=cok_ok hV hc;rw[if_neg (fun hn=>hn h1),h2];cases hi:exI L lim e (cstS L k e.1) Q with
    | none=>rw[hi] at h;cases h
    | some Q'=>rw[hi] at h;exact exC_eq hV f (i+1) Q' R h
   ·cases h
theorem exC_mono {L:List Mch} {k:Int} {lim:Nat}:∀(f i:Nat) (Q:List Qe) (R:List Cf),exC L k lim f i Q=some R->exC L k lim (f+1) i Q=some R
 | 0,_,_,_,h=>by cases h
 | f+1,i,Q,R,h=>by
  rw[exC] at h;rw[exC];cases hq:Q[i]? with
  | none=>rw[hq] at h;exact h
  | some e=>
   rw[hq] at h;dsimp only at h ⊢;split at h
   ·rename_i hc;rw[if_pos hc];cases hi:exI L lim e (cstS L k e.1) Q with
    | none=>rw[hi] at h;cases h
    | some Q'=>rw[hi] at h;exact exC_mono f (i+1) Q' R h
   ·cases h
theorem exC_more {L:List Mch} {k:Int} {lim:Nat} (f i:Nat) (Q:List Qe) (R:List Cf) (h:exC L k lim f i Q=some R):∀d,exC L k lim (f+d) i Q=some R
 | 0=>h
 | d+1=>exC_mono _ _ _ _ (exC_more f i Q R h d)
def xRes:List Cf:=((exC xL 1 1000 20 0 (q0 xL)).getD [])
theorem xres_eq:exC xL 1 1000 20 0 (q0 xL)=some xRes:=by kernel_rfl
theorem xres_len:xRes.length=12:=by kernel_rfl
theorem xres_most:mostS 3 xRes=[0,1,0,0,0,1,0,1,0]:=by kernel_rfl
theorem xsearch:exS xL 1 1000=.safe xRes:=exC_eq xsys _ _ _ _ (exC_more 20 0 (q0 xL) xRes xres_eq 981)
theorem awake11 (h:Heap) (hx:Gx h):Fn Pz 11 #[] h fun v h'=>v=.bool true/\Ext h h':=by
 apply vc11;unfold W11;refine (example34 true h).mono ?_;rintro _ h10 ⟨E10,hr,hd,he,rfl,hg⟩;refine⟨_,hr,hd,_,_,_,he,⟨none,0,0⟩,rfl,?_⟩;refine (all43 (exGl true hr hd he ⟨none,0,0⟩) h10 hg (hx.ext E10) (ex_valid _ _ _ _ _) xL (hg.r.ln.symm) (by decide) (fun i m hi=>?_)).mono ?_
 ·match i,hi with
  | 0,hi=>cases hi;exact⟨xproj _ _ _ _ _ _ _ (by decide) (by decide) (xr0_raw _ _ _ _) xm0_min,by decide,by decide,by decide⟩
  | 1,hi=>cases hi;exact⟨xproj _ _ _ _ _ _ _ (by decide) (by decide) (xm1_raw _ _ _ _) xm1_min,by decide,by decide,by decide⟩
  | 2,hi=>cases hi;exact⟨xproj _ _ _ _ _ _ _ (by decide) (by decide) (xm2_raw _ _ _ _) xm2_min,by decide,by decide,by decide⟩
  | n+3,hi=>exact absurd hi (by simp[xL])
 rintro _ h14 ⟨s,L,rfl,E14,hL,hS⟩;have E0:=E10.trans E14;refine⟨s,0,rfl,?_⟩;refine (explore13 L s 1 1000 h14 hS).mono ?_;rw[hL];have hv:expV xL 1 1000=(⟨1,xRes,mostS 3 xRes,0,[]⟩,0):=by
  unfold expV;rw[if_neg (fun h=>by rcases h with h | h | h;exact h xsys;all_goals omega),if_neg (by omega)];show ((exS xL 1 1000).rv 3,(0:Int))=_;rw[xsearch];rfl
 rw[hv];rintro _ h22 ⟨cf,mo,tr,A,rfl,hs,hR⟩;refine⟨_,cf,mo,_,tr,_,rfl,?_⟩;refine hs.newput (vs:=resA 1 cf mo 0 tr) rfl rfl fun h24 hs=>?_;have hI:=hR.at hs mem1;obtain⟨C,hc1,hc2,hc3⟩:=hI.c;have hcl:C.length=12:=by have:=congrArg List.length hc3;rw[Yc] at this;rw[this];exact xres_len
 have hcn:=hc1.ln;have hm:=hI.m;rw[show (RV.mk 1 xRes (mostS 3 xRes) 0 []).m=[0,1,0,0,0,1,0,1,0] from xres_most] at hm;have hmn:mo.n=9:=hm.ln;refine sB_t rfl (sB_t rfl ⟨1,hs.rd 0 rfl (i:=0) rfl,sB_t rfl ⟨cf,hs.rd 0 rfl (i:=1) rfl,sB_t (by rw[hcn,hcl];rfl) ⟨mo,hs.rd 0 rfl (i:=2) rfl,sB_t (by rw[hmn];rfl) ⟨mo,hs.rd 0 rfl (i:=2) rfl,?_⟩⟩⟩⟩);refine hm.rw.nbI (by omega) (by omega) fun b o q gq t=>?_;cases gq;exact⟨1,t.hd,rfl,E0.trans hs.ext⟩
end Go.VC
end

section
namespace Go.VC
open Go.Proofs
variable {h:Heap} {R:Value->Heap->Prop}

def V7a (h34 h14 h26:Heap) (R:Value->Heap->Prop) (m19:Nat) (I17:Int->Heap->Nat->Prop) (n_20:Int):Prop:=
 ∃x38,rI h34 (aS h14 0) x38/\sB (x38==1) (∃x39,rS h34 (aS h14 1) x39/\∃(x40 x41:Sl),atC h34 (aS h26 0) [vS x40,vS x41]/\Fn Pz 24 #[vS x39,.agg ⟨[vS x40,vS x41]⟩] h34 (fun v42 h44=>∃x43,iB v42 x43/\sB (!x43) (R (.bool false) h44) (∃m45,m45<m19/\I17 (IntKind.wrap .i64 (n_20+1)) h44 m45))) (∃m46,m46<m19/\I17 (IntKind.wrap .i64 (n_20+1)) h34 m46)
def V7b (x32:Int) (h34 h14:Heap) (x23:Sl) (R:Value->Heap->Prop) (h26:Heap) (m19:Nat) (I17:Int->Heap->Nat->Prop) (n_20:Int):Prop:=
 sB (x32 != 0) (∃x36,rI h34 (aS h14 0) x36/\sB (x36==2) (∃x37,rS h34 (aS h14 4) x37/\sB (decide ((x37.n:Int)>(x23.n:Int))) (R (.bool false) h34) (V7a h34 h14 h26 R m19 I17 n_20)) (V7a h34 h14 h26 R m19 I17 n_20)) (V7a h34 h14 h26 R m19 I17 n_20)
def W7 (p0:Sl) (p1:Int) (p2:Sl):Prop:=
 Fn Pz 11 #[] h (fun v1 h3=>∃x2,iB v1 x2/\sB (!x2) (R (.bool false) h3) (Fn Pz 16 #[vS p0] h3 (fun v4 h6=>∃x5,iB v4 x5/\sB (!x5) (R (.bool true) h6) (sB (decide ((p2.n:Int)>40)) (R (.bool true) h6) ((4:Int)≠0/\Fn Pz 13 #[vS p0,vI (IntKind.wrap .i64 (1+(Int.tmod (IntKind.wrap .i64 p1) 4))),vI 256] h6 (fun v7 h14=>∃(x8:Int) (x9 x10:Sl) (x11:Int) (x12:Sl) (x13:Int),v7=.tuple ⟨[.agg ⟨(L6 x8 x9 x10 x11 x12)⟩,vI x13]⟩/\Wn h14 [vI 0,.slice none 0 0,.slice none 0 0,vI 0,.slice none 0 0] 32 fun h15=>Wp h15 (aS h14 0) 5 (L6 x8 x9 x10 x11 x12) fun h16=>sB (x13 != 0) (R (.bool false) h16) (QI 0 h16 fun I17 n_20 h21 m19=>sB (decide (n_20<=(p2.n:Int))) (((0:Int)<=(0:Int)/\(0:Int)<=(n_20:Int)/\(n_20:Int)<=(p2.c:Nat))/\Fn Pz 22 #[vS p0,vI (IntKind.wrap .i64 (1+(Int.tmod (IntKind.wrap .i64 p1) 4))),.slice (subA p2.a (Int.toNat 0) p2.c 1) (Int.toNat n_20-Int.toNat 0) (p2.c-Int.toNat 0)] h21 (fun v22 h26=>∃(x23 x24 x25:Sl),v22=.tuple ⟨[vS x23,.agg ⟨[vS x24,vS x25]⟩]⟩/\Wn h26 [.slice none 0 0,.slice none 0 0] 28 fun h27=>Wp h27 (aS h26 0) 2 [vS x24,vS x25] fun h28=>∃(x29 x30:Sl),atC h28 (aS h26 0) [vS x29,vS x30]/\Fn Pz 23 #[vS p0,vI (IntKind.wrap .i64 (1+(Int.tmod (IntKind.wrap .i64 p1) 4))),.agg ⟨[vS x29,vS x30]⟩] h28 (fun v31 h34=>∃(x32 x33:Int),v31=.tuple ⟨[vI x32,vI x33]⟩/\sB (x33 != 0) (R (.bool false) h34) (sB (x32 != 0) (∃x35,rI h34 (aS h14 0) x35/\sB (x35==1) (R (.bool false) h34) (V7b x32 h34 h14 x23 R h26 m19 I17 n_20)) (V7b x32 h34 h14 x23 R h26 m19 I17 n_20))))) (R (.bool true) h21))))))))
theorem vc7 (p0:Sl) (p1:Int) (p2:Sl) (H:@W7 h R p0 p1 p2):Fn Pz 7 #[vS p0,.int .u8 p1,vS p2] h R:=fnI (A:=(.s .z (.s .z (.s .z (.s .z (.s .z (.s .z (.s (.s .z (.b (.l [(10,.one (.int .i64))] .z))) .z)))))))) (by kernel_rfl) H

end Go.VC
end

section
namespace Go.VC
open Go.Proofs Go.LexS

end Go.VC
end

section
namespace Go.VC
open Go.Proofs
variable {h:Heap} {R:Value->Heap->Prop}

def W46 (p0 p1:Sl):Prop:=
 sB ((p0.n:Int) != (p1.n:Int))
 (R (.bool false) h)
 (QI 0 h fun I1 x_4 h5 m3=>
 sB (decide (x_4<(p0.n:Int)))
 (NB p0.a fun b6 o7=>Ib x_4 p0.n /\
 ∃x8,rI h5 ⟨b6,o7+Int.toNat x_4*1,none⟩ x8 /\
 NB p1.a fun b9 o10=>Ib x_4 p1.n /\
 ∃x11,rI h5 ⟨b9,o10+Int.toNat x_4*1,none⟩ x11 /\
 sB (x8 != x11)
 (R (.bool false) h5)
 (∃m12,m12<m3/\I1 (IntKind.wrap .i64 (x_4+1)) h5 m12))
 (R (.bool true) h5))
theorem vc46 (p0 p1:Sl) (H:@W46 h R p0 p1):Fn Pz 46 #[vS p0,vS p1] h R:=fnI (A:=(.s .z (.s .z (.s (.s .z (.b (.l [(13,.one (.int .i64))] .z))) .z)))) (by kernel_rfl) H

def W47 (p0 p1:Sl) (p2:FuncId):Prop:=
 sB ((p0.n:Int) != (p1.n:Int))
 (R (.bool false) h)
 (QI 0 h fun I1 x_4 h5 m3=>
 sB (decide (x_4<(p0.n:Int)))
 (NB p0.a fun b6 o7=>Ib x_4 p0.n /\
 ∃x8,rS h5 ⟨b6,o7+Int.toNat x_4*1,none⟩ x8 /\
 NB p1.a fun b9 o10=>Ib x_4 p1.n /\
 ∃x11,rS h5 ⟨b9,o10+Int.toNat x_4*1,none⟩ x11 /\
 bif callable Pz p2 then Fn Pz p2 #[vS x8,vS x11] h5
 (fun v12 h14=>∃x13,iB v12 x13 /\
 sB (!x13)
 (R (.bool false) h14)
 (∃m15,m15<m3/\I1 (IntKind.wrap .i64 (x_4+1)) h14 m15)) else ExtW Pz p2 #[vS x8,vS x11] h5
 (fun v12 h14=>∃x13,iB v12 x13 /\
 sB (!x13)
 (R (.bool false) h14)
 (∃m15,m15<m3/\I1 (IntKind.wrap .i64 (x_4+1)) h14 m15)))
 (R (.bool true) h5))
theorem vc47 (p0 p1:Sl) (p2:FuncId) (H:@W47 h R p0 p1 p2):Fn Pz 47 #[vS p0,vS p1,.func (.func p2) #[] #[]] h R:=fnI (A:=(.s .z (.s .z (.s (.s .z (.b (.l [(17,.one (.int .i64))] .z))) .z)))) (by kernel_rfl) H

def W18 (p0_1 p0_2 p1_3 p1_4:Sl):Prop:=
 Wn h [vS p0_1,vS p0_2] 50 fun h5=>
 Wn h5 [vS p1_3,vS p1_4] 50 fun h6=>
 ∃x7,rS h6 (aS h 0) x7 /\
 ∃x8,rS h6 (aS h5 0) x8 /\
 Fn Pz 46 #[vS x7,vS x8] h6
 (fun v9 h11=>∃x10,iB v9 x10 /\
 sB x10
 (∃x12,rS h11 (aS h 1) x12 /\
 ∃x13,rS h11 (aS h5 1) x13 /\
 Fn Pz 47 #[vS x12,vS x13,.func (.func 46) #[] #[]] h11
 (fun v14 h16=>∃x15,iB v14 x15 /\
 R (.bool x15) h16))
 (R (.bool false) h11))
theorem vc18 (p0_1 p0_2 p1_3 p1_4:Sl) (H:@W18 h R p0_1 p0_2 p1_3 p1_4):Fn Pz 18 #[.agg ⟨[vS p0_1,vS p0_2]⟩,.agg ⟨[vS p1_3,vS p1_4]⟩] h R:=fnI (A:=.z) (by kernel_rfl) H

end Go.VC
end

section
namespace Go.VC
open Go.Proofs Go.LexS
theorem equal63 (X Y:List Int) (a b:Sl) (h:Heap) (hX:RL h 1 a inC X) (hY:RL h 1 b inC Y):Fn Pz 46 #[.slice a.a a.n a.c,.slice b.a b.n b.c] h (RP (X=Y) h):=by
 apply vc46 a b;unfold W46;have ha:=hX.ln;have hb:=hY.ln;have hsm:=hX.sm;refine sBn (fun c=>RP.f (fun hG=>by rw[hG] at ha;omega) .rfl') (fun c1=>?_);refine up_loopS (n:=a.n) (St.refl h) (fun i=>∀(j:Nat),j<i->X[j]?=Y[j]?) (fun j hj=>by omega) ?_;rintro-i h5 hi ⟨hs,hq⟩;refine sB_intro (fun c=>?_) (fun c=>?_)
 ·replace c:=lt_t c;refine (hX.rw.ext hs.ext).nbI (by omega) (by omega) fun b1 o1 x gx t1=>?_;replace gx:X[i]?=some x:=gx;refine⟨_,t1.hd,?_⟩;refine (hY.rw.ext hs.ext).nbI (by omega) (by omega) fun b2 o2 y gy t2=>?_;replace gy:Y[i]?=some y:=gy;refine⟨_,t2.hd,sBn (fun c2=>RP.f (fun hG=>by rw[hG,gy] at gx;cases gx;exact c2 rfl) hs.ext) (fun c2=>?_)⟩;refine Up.next (by omega) (by omega) ⟨hs,fun j hj=>?_⟩;by_cases e:j=i
  ·subst e;rw[gx,gy,c2]
  ·exact hq j (by omega)
 ·replace c:=lt_f c;refine RP.t (Yyr fun j=>?_) hs.ext;by_cases hj:j<X.length
  ·exact hq j (by omega)
  ·rw[Yl (by omega),Yl (by omega)]
theorem cal63:callable Pz 46=true:=by kernel_rfl
theorem equal64 (B1 B2:List Bx) (b1 b2:Sl) (h:Heap) (h1:RL h 1 b1 Bx.cs B1) (h2:RL h 1 b2 Bx.cs B2) (i1:∀q∈B1,RL h 1 q.s inC q.l) (i2:∀q∈B2,RL h 1 q.s inC q.l) :
  Fn Pz 47 #[.slice b1.a b1.n b1.c,.slice b2.a b2.n b2.c,.func (.func 46) #[] #[]] h (RP (B1.map Bx.l=B2.map Bx.l) h):=by
 apply vc47 b1 b2 46;unfold W47;have n1:=h1.ln;have n2:=h2.ln;have m1:=h1.sm;refine sBn (fun c=>RP.f (fun hG=>?_) .rfl') (fun c1=>?_)
 ·have:=congrArg List.length hG;rw[Yc,Yc] at this;omega
 refine up_loopS (n:=b1.n) (St.refl h) (fun i=>∀(j:Nat),j<i->(B1.map Bx.l)[j]?=(B2.map Bx.l)[j]?) (fun j hj=>by omega) ?_;rintro-i h5 hi ⟨hs,hq⟩;refine sB_intro (fun c=>?_) (fun c=>?_)
 ·replace c:=lt_t c;refine (h1.rw.ext hs.ext).nbI (by omega) (by omega) fun b3 o3 x gx t3=>?_;replace gx:B1[i]?=some x:=gx;refine⟨x.s,t3.hd,?_⟩;refine (h2.rw.ext hs.ext).nbI (by omega) (by omega) fun b4 o4 y gy t4=>?_;replace gy:B2[i]?=some y:=gy;refine⟨y.s,t4.hd,?_⟩;rw[cal63,cond_true];refine (equal63 x.l y.l x.s y.s h5 ((i1 x (Yb gx)).ext hs.ext) ((i2 y (Yb gy)).ext hs.ext)).mono ?_;rintro _ h14 ⟨⟨b',rfl,hb'⟩,E⟩;have hs:=hs.step E;have ex:(B1.map Bx.l)[i]?=some x.l:=by rw[Yd,gx];rfl
  have ey:(B2.map Bx.l)[i]?=some y.l:=by rw[Yd,gy];rfl
  refine⟨_,rfl,sB_intro (fun c=>RP.f (fun hG=>iff_f hb' (bF c) ?_) hs.ext) (fun c2=>?_)⟩
  ·rw[hG,ey] at ex;exact (Yyp ex).symm
  ·refine Up.next (by omega) (by omega) ⟨hs,fun j hj=>?_⟩;by_cases e:j=i
   ·subst e;rw[ex,ey,hb'.1 (bT c2)]
   ·exact hq j (by omega)
 ·replace c:=lt_f c;refine RP.t (Yyr fun j=>?_) hs.ext;by_cases hj:j<B1.length
  ·exact hq j (by omega)
  ·rw[Yl (by rw[Yc];omega),Yl (by rw[Yc];omega)]
theorem equal32 (a1 b1 a2 b2:Sl) (S1 S2:List Int) (B1 B2:List Bx) (h:Heap) (h1:CfI h a1 b1 S1 B1) (h2:CfI h a2 b2 S2 B2) :
  Fn Pz 18 #[.agg ⟨[.slice a1.a a1.n a1.c,.slice b1.a b1.n b1.c]⟩,.agg ⟨[.slice a2.a a2.n a2.c,.slice b2.a b2.n b2.c]⟩] h (RP (S1=S2/\B1.map Bx.l=B2.map Bx.l) h):=by
 apply vc18 a1 b1 a2 b2;unfold W18;refine (St.refl h).newb fun h5 hs=>?_;refine hs.newb fun h6 hs=>?_;refine⟨a1,hs.rd 1 rfl rfl,a2,hs.rd 0 rfl rfl,?_⟩;refine (equal63 S1 S2 a1 a2 h6 (h1.s.ext hs.ext) (h2.s.ext hs.ext)).mono ?_;rintro _ h11 ⟨⟨b,rfl,hb⟩,E⟩;have hs:=hs.step E;refine⟨b,rfl,sB_intro (fun c=>?_) (fun c=>RP.f (fun hG=>iff_f hb c hG.1) hs.ext)⟩;refine⟨b1,hs.rd 1 rfl (i:=1) rfl,b2,hs.rd 0 rfl (i:=1) rfl,?_⟩;refine (equal64 B1 B2 b1 b2 h11 (h1.b.ext hs.ext) (h2.b.ext hs.ext) (fun q hq=>(h1.i q hq).ext hs.ext) (fun q hq=>(h2.i q hq).ext hs.ext)).mono ?_;rintro _ h16 ⟨⟨b3,rfl,hb3⟩,E⟩;exact⟨b3,rfl,RP.e (hb3.trans ⟨fun e=>⟨hb.1 c,e⟩,fun e=>e.2⟩) (hs.ext.trans E)⟩
theorem roomN {p m:Int} {n:Nat} (hm:m=(n:Int)) (h0:0<=p) (h1:p<256) (hn:1<=n) (hn2:n<=1000):∃r:Nat,r<n/\IntKind.wrap .i64 (1+Int.tmod (IntKind.wrap .i64 p) m)=((1+r:Nat):Int):=by
 obtain⟨q,rfl⟩:∃q:Nat,p=(q:Int):=⟨p.toNat,by omega⟩;subst hm;have hr:q%n<n:=Nat.mod_lt _ (by omega);refine⟨q%n,hr,?_⟩;rw[w8 h0 h1,tmod_nat,w64 (by omega) (by omega)];omega
theorem small16 (L:List MR) (s:Sl) (h:Heap) (hS:SyI h s L):Fn Pz 16 #[.slice s.a s.n s.c] h fun v h'=>∃b:Bool,v=.bool b/\(b=true->SysV (L.map MR.m))/\Ext h h':=by
 apply vc16 s;unfold W16;refine (fewC13 L s ⟨none,0,0⟩ ⟨none,0,0⟩ [] [] h hS CfI.none_).mono ?_;rintro _ h3 ⟨⟨b,rfl,hb⟩,E⟩;refine⟨b,rfl,sB_intro (fun c=>?_) (fun c=>⟨false,rfl,(fun h=>by cases h),E⟩)⟩;refine (refSys23 L s h3 (hS.ext E)).mono ?_;rintro _ h6 ⟨⟨b2,rfl,hb2⟩,E2⟩;exact⟨b2,rfl,b2,rfl,hb2.1,E.trans E2⟩
theorem expV_ok {L:List Mch} {k:Int} {lm:Nat} (hV:SysV L) (h1:1<=k) (h4:k<=4) (hl:1<=lm) (hl2:lm<=20000):expV L k (lm:Int)=((exS L k lm).rv L.length,0):=by
 unfold expV;rw[if_neg (fun h=>by rcases h with h | h | h;exact h hV;all_goals omega),if_neg (by omega),Ys]
theorem res_safe {n:Nat} {R:Res} (h:(R.rv n).v=1):∃Q,R=.safe Q:=by
 cases R with
 | bad k t=>exact absurd h (show ¬((2:Int)=1) by decide)
 | unk=>exact absurd h (show ¬((3:Int)=1) by decide)
 | safe Q=>exact⟨Q,rfl⟩

theorem RL.cut0 {α:Type} {h:Heap} {n:Nat} {s:Sl} {cs:α->List Value} {l:List α} (hr:RL h n s cs l) (i:Nat) (hi:i<=s.n):RL h n ⟨subA s.a (Int.toNat 0) s.c n,Int.toNat (i:Int)-Int.toNat 0,s.c-Int.toNat 0⟩ cs (l.take i):=by
 have e0:subA s.a (Int.toNat 0) s.c n=s.a:=subA_zero _ _ _;rw[e0,show Int.toNat (i:Int)-Int.toNat 0=i from rfl,show s.c-Int.toNat 0=s.c from rfl];have hln:=hr.ln;have hcap:=hr.cap;refine⟨⟨by show i=_;rw[Yc,Yu];omega,fun hp=>?_⟩,by show i<=s.c;omega,fun e=>?_,by rw[Yu];have:=hr.sm;omega⟩
 ·obtain⟨b,o,e1,e2⟩:=hr.rw.2 (by rw[Yc] at hp ⊢;rw[Yu] at hp;omega);refine⟨b,o,e1,fun j row hj=>e2 j row ?_⟩;rw[Yd] at hj ⊢;have hjl:j<i:=Classical.byContradiction fun hn=>by
   rw[Yl (by rw[Yu];omega)] at hj;cases hj
  rw[List.getElem?_take_of_lt hjl] at hj;exact hj
 ·have:=hr.nil e;exact⟨by show i=0;omega,this.2⟩
theorem has24 (C:List Cr) (s ss sb:Sl) (S:List Int) (B:List Bx) (h:Heap) (hr:Rw h 2 s (C.map Cr.cs)) (hl:C.length<=1048576) (hi:∀c∈C,CfI h c.c1 c.c2 c.S c.B) (hC:CfI h ss sb S B) :
  Fn Pz 24 #[.slice s.a s.n s.c,.agg ⟨[.slice ss.a ss.n ss.c,.slice sb.a sb.n sb.c]⟩] h (RP (((S,B.map Bx.l):Cf)∈C.map Cr.cf) h):=by
 apply vc24 s ss sb;unfold W24;have hn:=hr.ln;refine (St.refl h).newb fun h3 hs=>?_;refine up_loopS (n:=s.n) hs (fun i=>∀(j:Nat) c,j<i->C[j]?=some c->c.cf≠(S,B.map Bx.l)) (fun j c hj=>by omega) ?_;rintro-i h8 hi' ⟨hs,hq⟩;refine sB_intro (fun c=>?_) (fun c=>?_)
 ·replace c:=lt_t c;refine (hr.ext hs.ext).nbI (by omega) (by omega) fun b9 o10 d gd t=>?_;replace gd:C[i]?=some d:=gd;have hdm:=Yb gd;refine⟨d.c1,d.c2,t,ss,sb,hs.at 0 rfl (o:=0) (n:=2) rfl,?_⟩;refine (equal32 d.c1 d.c2 ss sb d.S S d.B B h8 ((hi d hdm).ext hs.ext) (hC.ext hs.ext)).mono ?_;rintro _ h17 ⟨⟨b,rfl,hb⟩,E⟩;have hs:=hs.step E;refine⟨b,rfl,sB_intro (fun c2=>?_) (fun c2=>?_)⟩
  ·have he:=hb.1 c2;refine RP.e (iff_of_true rfl ?_) hs.ext;rw[<-he.1,<-he.2];exact List.mem_map_of_mem hdm
  ·refine Up.next c (by omega) ⟨hs,fun j y hj hy=>?_⟩;by_cases e:j=i
   ·subst e;rw[gd] at hy;cases hy;intro he;refine iff_f hb c2 ⟨congrArg Prod.fst he,congrArg Prod.snd he⟩
   ·exact hq j y (by omega) hy
 ·replace c:=lt_f c;refine RP.f (fun hm=>?_) hs.ext;obtain⟨d,hd,he⟩:=Yp.1 hm;obtain⟨j,hj⟩:=Yf.1 hd;exact hq j d (by have:=(Ya.1 hj).1;omega) hj he
theorem reach_ok {L:List Mch} {k:Int} {lim:Nat} {R:Res} (h:ResOk L k lim R) {l:List (Nat × Nat)} {c:Cf} (hr:runS L k l=some c) :
  (∀Q,R=.safe Q->c∈Q/\badS L k c.1 c.2=0)/\(∀b t,R=.bad b t->badS L k c.1 c.2≠0->t.length<=l.length):=by
 refine⟨fun Q e=>?_,fun b t e hb=>?_⟩
 ·subst e;obtain⟨Q',hs,rfl⟩:=h;obtain⟨j,e,hj,gj,rfl,-⟩:=sea_reach hs rfl hr fun ei gi=>by
   have:=(Ya.1 gi).1;omega
  exact⟨List.mem_map_of_mem (Yb gj),(hs.d j e hj gj).1⟩
 ·subst e;obtain⟨i,Q,c',hs,gi,-,-⟩:=h;refine Classical.byContradiction fun hn=>?_;obtain⟨j,e,hj,gj,rfl,-⟩:=sea_reach hs rfl hr fun ei gi'=>by
   rw[gi] at gi';cases gi';show l.length<t.length;omega
  exact hb (hs.d j e hj gj).1
set_option maxHeartbeats 3200000 in
theorem exploreShortest7 (L:List MR) (s:Sl) (p1:Int) (D:List Int) (ds:Sl) (h:Heap) (hx:Gx h) (hS:SyI h s L) (hp:0<=p1/\p1<256) (hD:RL h 1 ds u8C D) (hDb:∀b∈D,0<=b/\b<256) :
  Fn Pz 7 #[.slice s.a s.n s.c,.int .u8 p1,.slice ds.a ds.n ds.c] h fun v h'=>v=.bool true/\Ext h h':=by
 apply vc7 s p1 ds;unfold W7 V7b V7a;have hdn:=hD.ln;have hdc:=hD.cap;have hdm:=hD.sm;refine (awake11 h hx).mono ?_;rintro _ h3 ⟨rfl,E3⟩;refine⟨true,rfl,sB_f rfl ?_⟩;refine (small16 L s h3 (hS.ext E3)).mono ?_;rintro _ h6 ⟨b,rfl,hb,E6⟩;have hs:=((St.refl h).step E3).step E6;refine⟨b,rfl,sB_intro (fun c=>⟨rfl,hs.ext⟩) (fun c=>?_)⟩;have hV:=hb (by cases b with | true=>rfl | false=>cases c);refine sBi (fun c0=>⟨rfl,hs.ext⟩) (fun c0=>?_);obtain⟨r,hr,er⟩:=roomN (m:=4) (n:=4) rfl hp.1 hp.2 (by decide) (by decide);refine⟨by decide,?_⟩;rw[er];have hk:(1:Int)<=((1+r:Nat):Int)/\((1+r:Nat):Int)<=4:=by omega
 generalize ((1+r:Nat):Int)=k at *;have e1:=explore13 L s k ((256:Nat):Int) h6 (hS.ext hs.ext);rw[expV_ok hV hk.1 hk.2 (by decide) (by decide)] at e1;refine e1.mono ?_;rintro _ h14 ⟨cf,mo,tr,A,rfl,hs1,hR⟩;have hs:=hs.join hs1;refine⟨_,cf,mo,_,tr,_,rfl,?_⟩;have hok:=exS_ok (lim:=256) hV hk (by decide);generalize exS (L.map MR.m) k 256=R1 at *;refine hs.newput (vs:=resA (R1.rv (L.map MR.m).length).v cf mo (R1.rv (L.map MR.m).length).k tr) rfl rfl fun h16 hs=>?_;have h1:=hR.at hs mem1;dsimp only at h1;obtain⟨C1,q1,q2,q3⟩:=h1.c;have htn:=h1.t.ln;refine sB_f rfl ?_;refine⟨fun x h' μ=>∃i:Nat,x=(i:Int)/\μ=ds.n+1-i/\i<=ds.n+1/\Ext h16 h',⟨_,0,rfl,rfl,Nat.zero_le _,.rfl'⟩,?_⟩;rintro-_ h21 μ ⟨i,rfl,rfl,hi,E21⟩;have hs:=hs.step E21;have E16:=hs.ext;refine sBi (fun c1=>?_) (fun c1=>⟨rfl,hs.ext⟩);refine⟨⟨by omega,by omega,by omega⟩,?_⟩;refine (walk26 L s k (D.take i) _ h21 (hS.ext hs.ext) hV hk ((hD.ext hs.ext).cut0 i (by omega)) fun b hb=>hDb b (List.mem_of_mem_take hb)).mono ?_;rintro _ h26 ⟨out,ts,tb,S,T,l,A2,rfl,hs2,hM,hpro,hout,hrun,hll⟩;obtain⟨f1,f2⟩:=reach_ok hok hrun;dsimp only at f1 f2;have hC:CfN A2 ts tb S T:=fun h0 hh A' hA hs=>(hM.mono hA).cfi hs;have hon:∀ {h0 h:Heap} {A':List It},(∀i∈A2,i∈A')->St h0 h A'->out.n=l.length:=fun hA hs=>by
  have:=(hs.rlm (cs:=stpC) (X:=l) (hA _ hout) (by omega) hll).ln;exact this
 refine⟨out,ts,tb,rfl,?_⟩;refine hs2.newput (vs:=[.slice ts.a ts.n ts.c,.slice tb.a tb.n tb.c]) rfl rfl fun h28 hs3=>?_;refine⟨ts,tb,hs3.at 0 rfl (o:=0) (n:=2) rfl,?_⟩;refine (bad38 L s k ts tb S T h28 ((hS.ext hs.ext).ext hs3.ext) (hC.at hs3 mem1)).mono ?_;rintro _ h34 ⟨E34,bk,e,rfl,hbe,-⟩;obtain⟨rfl,rfl⟩:=hbe hpro;have hs3:=hs3.step E34;have hs:=hs.step hs3.ext;have hon:=hon mem1 hs3;have E34:Ext h16 h34:=E21.trans hs3.ext;refine⟨_,_,rfl,sB_f rfl ?_⟩;have fv1:badS (L.map MR.m) k S (T.map Bx.l)≠0->(R1.rv (L.map MR.m).length).v≠1:=fun hb hv=>by
  obtain⟨Q,hQ⟩:=res_safe hv;exact hb (f1 Q hQ).2
 have fv2:badS (L.map MR.m) k S (T.map Bx.l)≠0->(R1.rv (L.map MR.m).length).v=2->¬(tr.n:Int)>(out.n:Int):=fun hb hv=>by
  cases R1 with
  | bad b t=>
   have h2:=f2 b t rfl hb;have h3:tr.n=t.length:=htn;omega
  | unk=>exact absurd hv (show ¬((3:Int)=2) by decide)
  | safe Q=>exact absurd hv (show ¬((1:Int)=2) by decide)
 have fv3:(R1.rv (L.map MR.m).length).v=1->((S,T.map Bx.l):Cf)∈C1.map Cr.cf:=fun hv=>by
  obtain⟨Q,hQ⟩:=res_safe hv;rw[q3,hQ];exact (f1 Q hQ).1
 generalize (R1.rv (L.map MR.m).length).v=vd at *;by_cases hb0:badS (L.map MR.m) k S (T.map Bx.l)=0
 ·refine sB_f (by rw[hb0];rfl) (sB_f (by rw[hb0];rfl) ?_);refine⟨vd,hs.rd 0 rfl (i:=0) rfl,sBe (fun c2=>?_) (fun c2=>?_)⟩
  ·refine⟨cf,hs.rd 0 rfl (i:=1) rfl,ts,tb,hs3.at 0 rfl (o:=0) (n:=2) rfl,?_⟩;refine (has24 C1 cf ts tb S T h34 (q1.rw.ext E34) q1.sm (fun c hc=>(q2 c hc).ext E34) (hC.at hs3 mem1)).mono ?_;rintro _ h44 ⟨⟨b,rfl,hb⟩,E44⟩;exact⟨b,rfl,sB_f (by rw[hb.2 (fv3 c2)];rfl) ⟨_,(show ds.n+1-(i+1)<ds.n+1-i by omega),i+1,by rw[w64 (by omega) (by omega)];omega,rfl,by omega,E34.trans E44⟩⟩
  ·exact⟨_,(show ds.n+1-(i+1)<ds.n+1-i by omega),i+1,by rw[w64 (by omega) (by omega)];omega,rfl,by omega,E34⟩
 ·refine sB_t (by rw[bne_iff_ne];exact hb0) ⟨vd,hs.rd 0 rfl (i:=0) rfl,sB_f (beq_eq_false_iff_ne.2 (fv1 hb0)) (sB_t (by rw[bne_iff_ne];exact hb0) ⟨vd,hs.rd 0 rfl (i:=0) rfl,sBe (fun c2=>⟨tr,hs.rd 0 rfl (i:=4) rfl,sBi (fun c3=>absurd c3 (fv2 hb0 c2)) (fun _=>?_)⟩) (fun c2=>?_)⟩)⟩;all_goals
   refine⟨vd,hs.rd 0 rfl (i:=0) rfl,sB_f (beq_eq_false_iff_ne.2 (fv1 hb0)) ?_⟩;exact⟨_,(show ds.n+1-(i+1)<ds.n+1-i by omega),i+1,by rw[w64 (by omega) (by omega)];omega,rfl,by omega,E34⟩
end Go.VC
end

section
namespace Go.VC
open Go.Proofs Go.LexS Go.RowKit Go.ChangeShapes Go.WideShapes Go.Proofs.YtknallccojglcaaGreatDoor
theorem bulk_pos {H:Type} (d:DataW H):1<=Rows.uptoBulk d:=by
 cases d with
 | lit l=>cases l<;>simp[Rows.uptoBulk]
 | _=>simp[Rows.uptoBulk]
theorem bulk_part {H:Type}:∀ {l:List (DataW H)} {d:DataW H},d∈l->Rows.uptoBulk d<=Rows.uptoBulkAll l
 | [],_,h=>by cases h
 | x::r,d,h=>by
  rw[Rows.uptoBulkAll];rcases Yr.1 h with rfl | h
  ·omega
  ·have:=bulk_part h;omega
theorem bulk_len {H:Type}:∀l:List (DataW H),l.length<=Rows.uptoBulkAll l
 | []=>by simp
 | x::r=>by
  have h1:=bulk_pos x;have h2:=bulk_len r;rw[Rows.uptoBulkAll,Yyj];omega
def Rdb (P:Program) (W:World) (t:TypeId) (cs:List Value):Prop:=
 ∃(H:Type) (enc:TypeId × Value->H) (n:Nat) (x:DataW H × List MemPlace),DataW.trod enc P W 0 (fun _=>true) true n t cs=some x/\Rows.uptoBulk x.1<=1048576
theorem Rdb.rdt {P:Program} {W:World} {t:TypeId} {cs:List Value} (h:Rdb P W t cs):Rdt P W t cs:=by
 obtain⟨H,enc,n,x,h1,_⟩:=h;exact⟨H,enc,n,x,h1⟩
theorem rdb_of_trod {H:Type} {enc:TypeId × Value->H} {P:Program} {W:World} {t:TypeId} {v:Value} {d:DataW H} {p:List MemPlace} (h:DataW.Trod enc P W 0 (fun _=>true) true t v d p) (hw:Rows.uptoBulk d<=1048576):Rdb P W t v.cells.toList:=by
 obtain⟨n,h⟩:=h;exact⟨H,enc,n,_,h,hw⟩
theorem Rdb.field {P:Program} {W:World} {t ft:TypeId} {cs:List Value} {i off:Nat} (h:Rdb P W t cs) (hf:fieldAt P t i=some (ft,off)):Rdb P W ft ((cs.drop off).take (P.cellsOf ft)):=by
 unfold fieldAt at hf;split at hf
 ·rename_i fs hu;obtain⟨f,h1,h2⟩:=Yya.1 hf;cases h2;obtain⟨H,enc,n,x,h,hw⟩:=h;obtain⟨xs,m,_,hx,hl,hxl,hfi⟩:=DataW.trod_struct hu h;have hlt:i<xs.length:=by rw[hxl];exact (Yyg.1 h1).1
  refine⟨H,enc,m,xs[i],by rw[hfi i f h1,Yi hlt],?_⟩;rw[hx,Rows.uptoBulk] at hw;have:=bulk_part (l:=xs.map (·.1)) (d:=xs[i].1) (Yp.2 ⟨xs[i],List.getElem_mem hlt,rfl⟩);omega
 ·cases hf
theorem Rdb.rows {P:Program} {W:World} {t e:TypeId} {cs:List Value} (ht:P.underlying t=some (.slice e)) (h:Rdb P W t cs) (hpos:0<P.cellsOf e) :
  ∃(s:Sl) (rows:List (List Value)),cs=[.slice s.a s.n s.c]/\s.n<=s.c/\s.n<=1048576/\(s.a=none->s.n=0/\s.c=0)/\Rw W.heap (P.cellsOf e) s rows/\∀r∈rows,r.length=P.cellsOf e/\Rdb P W e r:=by
 obtain⟨H,enc,n,x,h,hw⟩:=h;rcases DataW.trod_slice ht h with ⟨rfl,_⟩ | ⟨a,len,cap,elems,rest,m,_,rfl,hx,_,hlc,hcm,hel,helem,_,_⟩
 ·exact⟨⟨none,0,0⟩,[],rfl,Yyt _,Nat.zero_le _,fun _=>⟨rfl,rfl⟩,Rw.nil,fun r hr=>by cases hr⟩
 ·rw[hx,Rows.uptoBulk] at hw;have hle:len<=1048576:=by
   have:=bulk_len (elems.map (·.1));rw[Yc] at this;omega
  have hwe:∀(i:Nat) (hi:i<elems.length),Rows.uptoBulk elems[i].1<=1048576:=fun i hi=>by
   have:=bulk_part (l:=elems.map (·.1)) (d:=elems[i].1) (Yp.2 ⟨elems[i],List.getElem_mem hi,rfl⟩);omega
  by_cases h0:len=0
  ·subst h0;exact⟨⟨some a,0,cap⟩,[],rfl,hlc,hle,fun e=>(by cases e),Rw.empty rfl,fun r hr=>by cases hr⟩
  ·have hrow:∀i,i<len->∃r,W.cells? 0 (a.add (i*P.cellsOf e)) (P.cellsOf e)=some r/\Rdb P W e r:=by
    intro i hi;have h1:=helem i hi;rw[Yi (by omega)] at h1;obtain⟨r,hr,hx2⟩:=Option.bind_eq_some_iff.1 h1;exact⟨r,hr,H,enc,m,_,hx2,hwe i (by omega)⟩
   let row:Nat->List Value:=fun i=>(W.cells? 0 (a.add (i*P.cellsOf e)) (P.cellsOf e)).getD []
   have hrow':∀i,i<len->W.cells? 0 (a.add (i*P.cellsOf e)) (P.cellsOf e)=some (row i)/\Rdb P W e (row i):=fun i hi=>by
    obtain⟨r,hr,hx⟩:=hrow i hi;have:row i=r:=by show (W.cells? 0 _ _).getD []=r;rw[hr];rfl
    rw[this];exact⟨hr,hx⟩
   have hget:∀i,i<len->((List.range len).map row)[i]?=some (row i):=fun i hi=>by
    rw[Yd,Yyb hi];rfl
   have hspot:a=⟨a.block,a.off,none⟩:=by
    have hc:=(cells_at (hrow' 0 (by omega)).1);have hl0:0<(row 0).length:=by rw[hc.1];exact hpos
    have:=hc.2 0 _ (Yi hl0);rw[Nat.zero_mul,show (a.add 0).add 0=a from rfl] at this;unfold World.cell? at this;split at this
    ·split at this
     ·cases this
     ·rename_i hs;cases a with
      | mk b o s=>
       cases s with
       | none=>rfl
       | some s=>exact absurd rfl hs
    ·cases this
   refine⟨⟨some a,len,cap⟩,(List.range len).map row,rfl,hlc,hle,fun e=>(by cases e),⟨by simp,fun _=>⟨a.block,a.off,by rw[<-hspot],fun i r hi j v hj=>?_⟩⟩,fun r hr=>?_⟩
   ·have hil:i<len:=by have:=(Ya.1 hi).1;simpa using this
    rw[hget i hil] at hi;cases hi;have h4:=(cells_at (hrow' i hil).1).2 _ _ hj;rw[hspot] at h4;have e:((⟨a.block,a.off,none⟩:Addr).add (i*P.cellsOf e)).add j=addk ⟨a.block,a.off+i*P.cellsOf e,none⟩ j:=by
     rw[addk_at,add_n,add_n]
    rw[e] at h4;exact h4
   ·obtain⟨i,hi,rfl⟩:=Yp.1 hr;have:=hrow' i (List.mem_range.1 hi);exact⟨(cells_at this.1).1,this.2⟩
theorem Rdb.list {α:Type} {P:Program} {W:World} {t e:TypeId} {k:Nat} {v:Value} {cs:α->List Value} {Q:α->Prop} (ht:P.underlying t=some (.slice e)) (hk:P.cellsOf e=k) (hpos:0<k)
  (ho:∀r,Rdb P W e r->∃x,r=cs x/\Q x) (h:Rdb P W t [v]):∃(s:Sl) (L:List α),v=.slice s.a s.n s.c/\RL W.heap k s cs L/\∀x∈L,Q x:=by
 subst hk;obtain⟨s,rows,e1,hc,hm,hna,hrw,hr⟩:=h.rows ht hpos;have key:∀rows:List (List Value),(∀r∈rows,r.length=P.cellsOf e/\Rdb P W e r)->∃L:List α,rows=L.map cs/\∀x∈L,Q x:=by
  intro rows
  induction rows with
  | nil=>intro _;exact⟨[],rfl,fun x hx=>by cases hx⟩
  | cons r rows ih=>
   intro h;obtain⟨x,hx,hq⟩:=ho r (h r (by simp)).2;obtain⟨L,hL,hQ⟩:=ih fun y hy=>h y (Yn _ hy);exact⟨x::L,by rw[hx,hL];rfl,fun y hy=>by rcases Yr.1 hy with rfl | hy;exact hq;exact hQ y hy⟩
 obtain⟨L,rfl,hQ⟩:=key rows hr;have hn:=hrw.ln;exact⟨s,L,by simpa using e1,⟨hrw,hc,hna,by omega⟩,hQ⟩
theorem v3:Pz.underlying 3=some (.int .i64):=by kernel_rfl
theorem v4b:Pz.underlying 4=some .bool:=by kernel_rfl
theorem cz3:Pz.cellsOf 3=1:=by kernel_rfl
theorem cz4:Pz.cellsOf 4=1:=by kernel_rfl
theorem cz85:Pz.cellsOf 85=1:=by kernel_rfl
theorem cz86:Pz.cellsOf 86=1:=by kernel_rfl
theorem cz75:Pz.cellsOf 75=1:=by kernel_rfl
theorem cz88:Pz.cellsOf 88=6:=by kernel_rfl
theorem cz199:Pz.cellsOf 199=3:=by kernel_rfl
theorem cz116:Pz.cellsOf 116=6:=by kernel_rfl
theorem vs85:Pz.underlying 85=some (.slice 4):=by kernel_rfl
theorem vs86:Pz.underlying 86=some (.slice 116):=by kernel_rfl
theorem vs75:Pz.underlying 75=some (.slice 199):=by kernel_rfl
theorem open_three {W:World} {t:TypeId} {r:List Value} (hc:Pz.cellsOf t=3) (h0:fieldAt Pz t 0=some (3,0)) (h1:fieldAt Pz t 1=some (3,1)) (h2:fieldAt Pz t 2=some (3,2)) (h:Rdt Pz W t r) :
  ∃a b c:Int,r=[.int .i64 a,.int .i64 b,.int .i64 c]:=by
 have hl:=h.flen h0;rw[hc] at hl
 match r,hl with
 | [x0,x1,x2],_=>
  have f0:=h.field h0;have f1:=h.field h1;have f2:=h.field h2;rw[cz3] at f0 f1 f2;obtain⟨k0,e0,_⟩:=f0.int v3;obtain⟨k1,e1,_⟩:=f1.int v3;obtain⟨k2,e2,_⟩:=f2.int v3;simp only[List.drop_zero,List.take_succ_cons,Yyk,List.drop_succ_cons,List.cons.injEq,and_true] at e0 e1 e2;subst e0 e1 e2;exact⟨k0,k1,k2,rfl⟩
theorem open_boolv {W:World} {r:List Value} (h:Rdb Pz W 4 r):∃x:Bool,r=bC x/\True:=by
 obtain⟨k,e⟩:=h.rdt.bool v4b;exact⟨k,e,trivial⟩
theorem open_limit {W:World} {r:List Value} (h:Rdb Pz W 199 r):∃x:To,r=x.cs/\True:=by
 obtain⟨a,b,c,e⟩:=open_three cz199 (by kernel_rfl) (by kernel_rfl) (by kernel_rfl) h.rdt;exact⟨⟨a,b,c⟩,e,trivial⟩
theorem open_move {W:World} {r:List Value} (h:Rdb Pz W 116 r):∃x:Mv,r=x.cs/\True:=by
 have hl:=h.rdt.flen (i:=0) (ft:=3) (off:=0) (by kernel_rfl);rw[cz116] at hl
 match r,hl with
 | [x0,x1,x2,x3,x4,x5],_=>
  have f0:=h.rdt.field (i:=0) (ft:=3) (off:=0) (by kernel_rfl);have f1:=h.rdt.field (i:=1) (ft:=4) (off:=1) (by kernel_rfl);have f2:=h.rdt.field (i:=2) (ft:=3) (off:=2) (by kernel_rfl);have f3:=h.rdt.field (i:=3) (ft:=3) (off:=3) (by kernel_rfl);have f4:=h.rdt.field (i:=4) (ft:=3) (off:=4) (by kernel_rfl);have f5:=h.rdt.field (i:=5) (ft:=4) (off:=5) (by kernel_rfl);rw[cz3] at f0 f2 f3 f4;rw[cz4] at f1 f5;obtain⟨k0,e0,_⟩:=f0.int v3;obtain⟨k1,e1⟩:=f1.bool v4b;obtain⟨k2,e2,_⟩:=f2.int v3;obtain⟨k3,e3,_⟩:=f3.int v3;obtain⟨k4,e4,_⟩:=f4.int v3;obtain⟨k5,e5⟩:=f5.bool v4b;simp only[List.drop_zero,List.take_succ_cons,Yyk,List.drop_succ_cons,List.cons.injEq,and_true] at e0 e1 e2 e3 e4 e5;subst e0 e1 e2 e3 e4 e5;exact⟨⟨k0,k1,k2,k3,k4,k5⟩,rfl,trivial⟩
theorem open_machine {W:World} {r:List Value} (h:Rdb Pz W 88 r):∃(m:Mch) (sf sm sl:Sl),r=mC m sf sm sl/\MI W.heap m sf sm sl:=by
 have hl:=h.rdt.flen (i:=0) (ft:=3) (off:=0) (by kernel_rfl);rw[cz88] at hl
 match r,hl with
 | [x0,x1,x2,x3,x4,x5],_=>
  have f0:=h.rdt.field (i:=0) (ft:=3) (off:=0) (by kernel_rfl);have f1:=h.rdt.field (i:=1) (ft:=3) (off:=1) (by kernel_rfl);have f2:=h.rdt.field (i:=2) (ft:=3) (off:=2) (by kernel_rfl);have f3:=h.field (i:=3) (ft:=85) (off:=3) (by kernel_rfl);have f4:=h.field (i:=4) (ft:=86) (off:=4) (by kernel_rfl);have f5:=h.field (i:=5) (ft:=75) (off:=5) (by kernel_rfl);rw[cz3] at f0 f1 f2;rw[cz85] at f3;rw[cz86] at f4;rw[cz75] at f5;obtain⟨k0,e0,_⟩:=f0.int v3;obtain⟨k1,e1,_⟩:=f1.int v3;obtain⟨k2,e2,_⟩:=f2.int v3;obtain⟨sf,lf,e3,hf,_⟩:=Rdb.list vs85 cz4 (by omega) (fun r hr=>open_boolv hr) (show Rdb Pz W 85 [x3] from f3);obtain⟨sm,lm,e4,hm,_⟩:=Rdb.list vs86 cz116 (by omega) (fun r hr=>open_move hr) (show Rdb Pz W 86 [x4] from f4);obtain⟨sl,ll,e5,hl,_⟩:=Rdb.list vs75 cz199 (by omega) (fun r hr=>open_limit hr) (show Rdb Pz W 75 [x5] from f5);simp only[List.drop_zero,List.take_succ_cons,Yyk,List.drop_succ_cons,List.cons.injEq,and_true] at e0 e1 e2;subst e0 e1 e2 e3 e4 e5;exact⟨⟨k0,k1,k2,lf,lm,ll⟩,sf,sm,sl,rfl,⟨hf,hm,hl⟩⟩
theorem cz5:Pz.cellsOf 5=1:=by kernel_rfl
theorem vsS60:Pz.underlying 60=some (.slice 5):=by kernel_rfl
theorem v5u:Pz.underlying 5=some (.int .u8):=by kernel_rfl
theorem vsS22:Pz.underlying 22=some (.slice 88):=by kernel_rfl
theorem v44:Pz.underlying 44=some (.array 2 5):=by kernel_rfl
theorem open_mr {W:World} {r:List Value} (h:Rdb Pz W 88 r):∃x:MR,r=x.cs/\MI W.heap x.m x.f x.g x.l:=by
 obtain⟨m,f,g,l,e,hm⟩:=open_machine h;exact⟨⟨m,f,g,l⟩,e,hm⟩
theorem open_sys {W:World} {v:Value} (h:Rdb Pz W 22 [v]):∃(s:Sl) (L:List MR),v=.slice s.a s.n s.c/\SyI W.heap s L:=by
 obtain⟨s,L,e,hr,hq⟩:=Rdb.list vsS22 cz88 (by omega) (fun r hr=>open_mr hr) h;exact⟨s,L,e,hr,hq⟩
theorem open_u8n {W:World} {r:List Value} (h:Rdb Pz W 5 r):∃x:Int,r=u8C x/\(0<=x/\x<256):=by
 obtain⟨n,e,hw⟩:=h.rdt.int v5u;have h3:(decide (IntKind.u8.min<=n)&&decide (n<=IntKind.u8.max))=true:=hw;rw[Yt] at h3;have h4:(0:Int)<=n:=Yyn h3.1;have h5:n<=(255:Int):=Yyn h3.2;exact⟨n,e,h4,by omega⟩
theorem open_u8s {W:World} {v:Value} (h:Rdb Pz W 60 [v]):∃(s:Sl) (L:List Int),v=.slice s.a s.n s.c/\(RL W.heap 1 s u8C L/\∀n∈L,0<=n/\n<256):=by
 obtain⟨s,L,e,hr,hb⟩:=Rdb.list vsS60 cz5 (by omega) (fun r hr=>open_u8n hr) h;exact⟨s,L,e,hr,hb⟩
theorem u8_rng {W:World} {k:Int} (h:Rdb Pz W 5 [.int .u8 k]):0<=k/\k<256:=by
 obtain⟨x,e,hx⟩:=open_u8n h;injection e with e1 _;injection e1 with _ e2;rw[e2];exact hx
end Go.VC
end
