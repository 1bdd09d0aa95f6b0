/- KwAc KwVeB KeE KeF KeD KwAd KwAe KeG KeH KeI KwVeJ KeJ KeSort KwVeC KeK. -/
import Derived.Test.YtknallccojglcaaGreatDoorM25
set_option linter.unusedVariables false
set_option linter.unusedSimpArgs false
set_option maxRecDepth 100000

section
namespace Go.VC
open Go.Proofs Go.LexS
theorem St.cut {h0 h:Heap} {L:List It} (hs:St h0 h L) (k:Nat) {s:Sl} {e:TypeId} {n:Nat} {rows:List (List Value)} (hk:L[k]?=some (.sl s e n rows)) (hn:0<n) (i:Nat) (hi:i<=s.n):St h0 h (L.set k (.sl ⟨subA s.a (Int.toNat 0) s.c n,Int.toNat (i:Int)-Int.toNat 0,s.c-Int.toNat 0⟩ e n (rows.take i))):=by
 have e0:subA s.a (Int.toNat 0) s.c n=s.a:=subA_zero _ _ _;rw[e0,show Int.toNat (i:Int)-Int.toNat 0=i from rfl,show s.c-Int.toNat 0=s.c from rfl];have hget:=hs.get hk;have hln:=(hs.rw k hk hn).1;have hrl:∀r∈rows.take i,r.length=n:=fun r hr=>hget.2 r (List.mem_of_mem_take hr);have hfl:(rows.take i).flatten.length=i*n:=by rw[flatten_len _ hrl,Yu,Nat.min_eq_left (by omega)]
 refine hs.turn hk (Yyt _) (j:=.sl ⟨s.a,i,s.c⟩ e n (rows.take i)) ⟨⟨hfl,?_⟩,hrl⟩ (fun b hb=>.inr hb) (fun _ _ _=>rfl);rcases hget.1.2 with ⟨ha,hn0,hc0⟩ | ⟨g,cur,ha,hb0,hh,hnc,hcm,hsz,htk⟩
 ·exact .inl ⟨ha,by show i=0;omega,hc0⟩
 ·refine .inr ⟨g,cur,ha,hb0,hh,by show i<=s.c;omega,hcm,hsz,?_⟩;have hm:i*n<=s.n*n:=Nat.mul_le_mul_right _ hi;have h3:(rows.take i).flatten=rows.flatten.take (i*n):=by
   have h5:rows=rows.take i++rows.drop i:=(List.take_append_drop i rows).symm;rw[congrArg List.flatten h5,List.flatten_append,Yyq (by rw[hfl];exact Yyt _)];rw[Yj (l:=(rows.take i).flatten) (by rw[hfl];exact Yyt _)]
  show cur.toList.take (i*n)=_;rw[h3,<-htk,List.take_take,Nat.min_eq_left (by omega)]
def Blk (peer:Int) (x:Mv):Prop:=x.send=false/\x.peer=peer
def medB (m:Mch) (peer:Int):List Ed:=(m.mv.filter fun x=>!(!x.send&&x.peer==peer)).map fun x=>⟨x.f,0,0,0,x.t,false⟩
theorem medB_mem {m:Mch} {peer:Int} {x:Mv} (hx:x∈m.mv) (hb:¬Blk peer x):(⟨x.f,0,0,0,x.t,false⟩:Ed)∈medB m peer:=by
 refine Yp.2 ⟨x,List.mem_filter.2 ⟨hx,?_⟩,rfl⟩;cases h:x.send with
 | true=>rfl
 | false=>
  have:x.peer≠peer:=fun e=>hb ⟨h,e⟩;simp[this]
theorem medB_q {m:Mch} {peer:Int} {n:Nat} {b:Int}:b∈quietL (medB m peer) (-1) n ↔ ∃x∈m.mv,¬Blk peer x/\x.f=(n:Int)/\x.t=b:=by
 rw[quietL_mem];constructor
 ·rintro⟨e,he,_,hf,ht⟩;obtain⟨x,hx,rfl⟩:=Yp.1 he;obtain⟨h1,h2⟩:=List.mem_filter.1 hx;exact⟨x,h1,fun hc=>by rw[hc.1,hc.2] at h2;simp at h2,hf,ht⟩
 ·rintro⟨x,hx,hb,hf,ht⟩;exact⟨_,medB_mem hx hb,rfl,hf,ht⟩
theorem medB_step {m:Mch} {peer s v:Int} {x:Mv} (h:Qr (medB m peer) (-1) [s] v) (hx:x∈m.mv) (hb:¬Blk peer x) (hf:x.f=v):Qr (medB m peer) (-1) [s] x.t:=
 .step h ⟨_,medB_mem hx hb,rfl,hf,rfl⟩
def ExpM (m:Mch) (s peer label:Int):Prop:=∃v,Qr (medB m peer) (-1) [s] v/\∃x∈m.mv,x.f=v/\Blk peer x/\x.label=label
def DoneV (m:Mch) (peer label:Int) (T:List Int) (x:Mv):Prop:=(Blk peer x->x.label≠label)/\(¬Blk peer x->x.t∈T)
def DoneM (m:Mch) (peer label:Int) (T:List Int) (v:Int):Prop:=∀x∈m.mv,x.f=v->DoneV m peer label T x
theorem DoneV.mono {m:Mch} {peer label:Int} {T T':List Int} {x:Mv} (h:DoneV m peer label T x) (hT:∀z∈T,z∈T'):DoneV m peer label T' x:=⟨h.1,fun hn=>hT _ (h.2 hn)⟩
theorem DoneM.mono {m:Mch} {peer label:Int} {T T':List Int} {v:Int} (h:DoneM m peer label T v) (hT:∀z∈T,z∈T'):DoneM m peer label T' v:=fun x hx hf=>(h x hx hf).mono hT
theorem exp_end {m:Mch} {s peer label:Int} {n:Nat} {D:List Bool} {T:List Int} (hC:CL (medB m peer) (-1) n [s] D T) (hsT:s∈T) (hd:∀v∈T,DoneM m peer label T v):¬ExpM m s peer label:=by
 rintro⟨v,hq,x,hx,hf,h1,h3⟩;have hv:=(hC.end_ (fun y hy=>by rw[Ye.1 hy];exact hsT) (fun v hv b hb=>by
  obtain⟨x,hx,hb',hf,rfl⟩:=medB_q.1 hb;exact (hd v hv x hx (by rw[hf];exact Int.toNat_of_nonneg ((hC.mem v).1 hv).1)).2 hb') v).2 hq
 exact (hd v hv x hx hf).1 h1 h3
set_option maxHeartbeats 3200000 in
theorem awaited95 (m:Mch) (sf sm sl:Sl) (s peer label:Int) (h:Heap) (hM:MI h m sf sm sl) (hN:NumM m) (hs0:0<=s/\s<m.n) :
  Fn Pz 76 #[.agg ⟨mC m sf sm sl⟩,.int .i64 s,.int .i64 peer,.int .i64 label] h (RP (ExpM m s peer label) h):=by
 apply vc76 m.role m.n m.s sf sm sl s peer label;unfold W76 V76a;have hmn:=hM.pm.ln;have hmm:=hM.pm.sm;have hn:=hN.n;have hml:=hN.ml;refine (St.refl h).newb fun h7 hs=>?_;refine hs.newb fun h8 hs=>?_;have hs:=hs.blkS 1 1 ([s].map inC) rfl (inrows _) rfl (by decide);have hC0:CL (medB m peer) (-1) m.n.toNat [s] ((List.replicate m.n.toNat false).set s.toNat true) [s]:=
  (CL.start (medB m peer) (-1) m.n.toNat [s]).push hs0.1 (by rw[List.getElem?_replicate,if_pos (by omega)]) (.base (Ye.2 rfl))
 refine⟨fun l x h' μ=>∃(i:Nat) (D:List Bool) (T:List Int),x=i/\μ=m.n.toNat-i/\i<=T.length/\St h h' [.sl l 3 1 (T.map inC),.blk h.size (mC m sf sm sl) 88]/\CL (medB m peer) (-1) m.n.toNat [s] D T/\s∈T/\∀v∈T.take i,DoneM m peer label T v,⟨_,0,_,_,rfl,rfl,Nat.zero_le _,hs,hC0,Ye.2 rfl,fun v hv=>by rw[Yyk] at hv;cases hv⟩,?_⟩;clear hs hC0;rintro-l _ h14 μ ⟨i,D,T,rfl,rfl,hi,hs,hC,hsT,hd⟩;have hln:=(hs.rows 0 (s:=l) (cs:=inC) rfl (by omega)).ln;have hle:=hC.le;refine sBi (fun c1=>?_) (fun c1=>?_)
 ·refine⟨_,_,_,sf,sm,sl,hs.at 1 rfl (o:=0) (n:=6) rfl,?_⟩;refine (hs.rows 0 (s:=l) (cs:=inC) rfl (by omega)).nbI (by omega) (by omega) fun b o v gv t=>?_;replace gv:T[i]?=some v:=gv;have hvT:=Yb gv;have hiT:i<T.length:=(Ya.1 gv).1;refine⟨_,t.hd,?_⟩;refine (refOut62S m sf sm sl v h14 (hM.ext hs.ext)).mono ?_;rintro _ h26 ⟨r,O,rfl,h1,hP,-⟩;have hs:=hs.join h1;have hOl:O.length<=m.mv.length:=by
   rw[hP.length_eq];unfold outIx;refine Yys (List.length_filter_le _ _) ?_;rw[Yyd];exact Yyt _
  refine⟨r,rfl,?_⟩;refine⟨fun l x h' μ=>∃(j:Nat) (D:List Bool) (T':List Int),x=j/\μ=O.length-j/\j<=O.length/\St h h' [.sl l 3 1 (T'.map inC),.blk h.size (mC m sf sm sl) 88,.sl r 3 1 ((natI O).map inC)]/\CL (medB m peer) (-1) m.n.toNat [s] D T'/\(∃R,T'=T++R)/\∀k∈O.take j,∀y,m.mv[k]?=some y->DoneV m peer label T' y,⟨_,0,D,T,rfl,rfl,Nat.zero_le _,hs,hC,⟨[],by simp⟩,fun v hv=>by rw[Yyk] at hv;cases hv⟩,?_⟩;clear hs hC hln;rintro-l2 _ h32 μ ⟨j,D,T',rfl,rfl,hj,hs,hC,⟨R,rfl⟩,hd2⟩;have hle2:=hC.le;have hDl:=hC.len;have hln:=(hs.rows 0 (s:=l2) (cs:=inC) rfl (by omega)).ln;have hrn:=(hs.rows 2 (s:=r) (cs:=inC) rfl (by omega)).ln;rw[show (natI O).length=O.length from Yc _] at hrn;refine sBi (fun c2=>?_) (fun c2=>?_)
  ·refine⟨sm,hs.rd 1 rfl (i:=4) rfl,?_⟩;refine (hs.rows 2 (s:=r) (cs:=inC) rfl (by omega)).nbI (by omega) (by omega) fun b3 o3 q gq t3=>?_;replace gq:(natI O)[j]?=some q:=gq;obtain⟨p,gp,rfl⟩:=natI_get gq;obtain⟨x,hx,hxf⟩:=outIx_mem.1 (hP.mem_iff.1 (Yb gp));have hxl:=(Ya.1 hx).1;have hxm:=Yb hx;have hxr:=hN.mv x hxm;refine⟨_,t3.hd,?_⟩;refine (hM.pm.rw.ext hs.ext).nbI (by omega) (by omega) fun b4 o4 x' gx t4=>?_;replace gx:m.mv[p]?=some x':=gx;rw[hx] at gx;cases gx;refine⟨_,_,_,_,_,_,t4,?_⟩;refine hs.newbE fun h45 E45 hs=>⟨E45.sm,?_⟩;refine hs.put 0 rfl (o:=0) (vs:=x.cs) rfl (show 6<=6 by decide) fun h46 hs=>?_;have hqv:=hC.r v (List.mem_append_left _ hvT);have hstay:DoneV m peer label (T++R) x->∀k∈O.take (j+1),∀y,m.mv[k]?=some y->DoneV m peer label (T++R) y:=fun hx1 k hk y hy=>by
    rw[take_snoc gp,Yk,Ye] at hk;rcases hk with hk | rfl
    ·exact hd2 k hk y hy
    ·rw[hx] at hy;cases hy;exact hx1
   have hgrow:¬Blk peer x->∀k∈O.take (j+1),∀y,m.mv[k]?=some y->DoneV m peer label (T++R++[x.t]) y:=fun hnb k hk y hy=>by
    rw[take_snoc gp,Yk,Ye] at hk;rcases hk with hk | rfl
    ·exact (hd2 k hk y hy).mono fun z hz=>List.mem_append_left _ hz
    ·rw[hx] at hy;cases hy;exact⟨fun hb=>absurd hb hnb,fun _=>List.mem_append_right _ (Ye.2 rfl)⟩
   obtain⟨z,hz⟩:=get_some (l:=D) (i:=x.t.toNat) (by omega);have hzf:x.t∉T++R->z=false:=fun hni=>by
    cases z
    ·rfl
    ·exact absurd ((hC.mem _).2 ⟨by omega,hz⟩) hni
   refine⟨x.send,hs.rd 0 rfl (i:=1) rfl,sB_intro (fun cs=>?_) (fun cs=>?_)⟩
   ·have hnb:¬Blk peer x:=fun hb=>by rw[hb.1] at cs;cases cs
    refine⟨x.t,hs.rd 0 rfl (i:=4) rfl,?_⟩;refine (refHas105 (T++R) x.t l2 h46 (hs.rows 1 (s:=l2) (cs:=inC) rfl (by omega)) (by omega)).mono ?_;rintro _ h51 ⟨⟨bb,rfl,hbb⟩,E⟩;have hs:=hs.step E;refine⟨bb,rfl,sB_intro (fun cb=>?_) (fun cb=>?_)⟩
    ·have hni:x.t∉T++R:=fun hm=>iff_f hbb (bF cb) hm;have hzz:=hzf hni;subst hzz;refine⟨x.t,hs.rd 0 rfl (i:=4) rfl,?_⟩;have hC2:=hC.push (by omega) hz (medB_step hqv hxm hnb hxf);refine hs.app 1 (s:=l2) (rows:=(T++R).map inC) rfl app42 (m:=1) [[.int .i64 x.t]] rfl rfl (by simp) rfl (by omega) (by simp only[maxLen];omega) fun s54 h55 ns hs=>?_;refine⟨_,(show O.length-(j+1)<O.length-j by omega),j+1,D.set x.t.toNat true,T++R++[x.t],by rw[w64 (by omega) (by omega)];omega,rfl,by omega,?_,hC2,⟨R++[x.t],by rw[Yz]⟩,hgrow hnb⟩;rw[Ym];exact hs.drop 1
    ·exact⟨_,(show O.length-(j+1)<O.length-j by omega),j+1,D,T++R,by rw[w64 (by omega) (by omega)];omega,rfl,by omega,hs.drop 1,hC,⟨R,rfl⟩,hstay ⟨fun hb=>absurd hb hnb,fun _=>hbb.1 (bT cb)⟩⟩
   ·refine⟨x.peer,hs.rd 0 rfl (i:=2) rfl,sBn (fun cp=>?_) (fun cp=>?_)⟩
    ·have hnb:¬Blk peer x:=fun hb=>cp hb.2;refine⟨x.t,hs.rd 0 rfl (i:=4) rfl,?_⟩;refine (refHas105 (T++R) x.t l2 h46 (hs.rows 1 (s:=l2) (cs:=inC) rfl (by omega)) (by omega)).mono ?_;rintro _ h51 ⟨⟨bb,rfl,hbb⟩,E⟩;have hs:=hs.step E;refine⟨bb,rfl,sB_intro (fun cb=>?_) (fun cb=>?_)⟩
     ·have hni:x.t∉T++R:=fun hm=>iff_f hbb (bF cb) hm;have hzz:=hzf hni;subst hzz;refine⟨x.t,hs.rd 0 rfl (i:=4) rfl,?_⟩;have hC2:=hC.push (by omega) hz (medB_step hqv hxm hnb hxf);refine hs.app 1 (s:=l2) (rows:=(T++R).map inC) rfl app42 (m:=1) [[.int .i64 x.t]] rfl rfl (by simp) rfl (by omega) (by simp only[maxLen];omega) fun s54 h55 ns hs=>?_;refine⟨_,(show O.length-(j+1)<O.length-j by omega),j+1,D.set x.t.toNat true,T++R++[x.t],by rw[w64 (by omega) (by omega)];omega,rfl,by omega,?_,hC2,⟨R++[x.t],by rw[Yz]⟩,hgrow hnb⟩;rw[Ym];exact hs.drop 1
     ·exact⟨_,(show O.length-(j+1)<O.length-j by omega),j+1,D,T++R,by rw[w64 (by omega) (by omega)];omega,rfl,by omega,hs.drop 1,hC,⟨R,rfl⟩,hstay ⟨fun hb=>absurd hb hnb,fun _=>hbb.1 (bT cb)⟩⟩
    ·have hbl:Blk peer x:=⟨cs,cp⟩;refine⟨x.label,hs.rd 0 rfl (i:=3) rfl,sBe (fun cl=>RP.t ⟨v,hqv,x,hxm,hxf,hbl,cl⟩ hs.ext) (fun cl=>?_)⟩;exact⟨_,(show O.length-(j+1)<O.length-j by omega),j+1,D,T++R,by rw[w64 (by omega) (by omega)];omega,rfl,by omega,hs.drop 1,hC,⟨R,rfl⟩,hstay ⟨fun _=>cl,fun hn=>absurd hbl hn⟩⟩
  ·refine⟨_,(show m.n.toNat-(i+1)<m.n.toNat-i by omega),i+1,D,T++R,by rw[w64 (by omega) (by omega)];omega,rfl,by rw[Yh];omega,hs.eras 2,hC,List.mem_append_left _ hsT,fun v' hv'=>?_⟩;rw[Yyq (by omega),take_snoc gv,Yk,Ye] at hv';rcases hv' with hv' | rfl
   ·exact (hd v' hv').mono fun z hz=>List.mem_append_left _ hz
   ·intro x hx hf;obtain⟨k,hk⟩:=Yf.1 hx;refine hd2 k ?_ x hk;rw[Yj (by omega)];exact hP.mem_iff.2 (outIx_mem.2 ⟨x,hk,hf⟩)
 ·exact RP.f (exp_end hC hsT fun v hv=>hd v (by rw[Yj (by omega)];exact hv)) hs.ext
end Go.VC
end

section
namespace Go.VC
open Go.Proofs
variable {h:Heap} {R:Value->Heap->Prop}

def V70a (h71 h57:Heap) (x27:Int) (h26:Heap) (todo_55:Sl) (m53:Nat) (I51:Bool->Sl->Int->Heap->Nat->Prop) (ok_54:Bool) (x_56:Int):Prop:=
 ∃x79,rI h71 (aS h57 4) x79/\(0<=(x79:Int)/\(x79:Int)<((Int.toNat x27):Nat))/\∃x80,rB h71 (aS h26 (0+Int.toNat x79*1)) x80/\sB (!x80) (∃x81,rI h71 (aS h57 4) x81/\(0<=(x81:Int)/\(x81:Int)<((Int.toNat x27):Nat))/\Wp h71 (aS h26 (0+Int.toNat x81*1)) 1 [.bool true] fun h82=>∃x83,rI h82 (aS h57 4) x83/\Wn h82 [vI x83] 3 fun h84=>App Pz 25 25 (vS todo_55) (.slice (some (aS h82 0)) 1 1) h84 fun s85 h86=>∃m87,m87<m53/\I51 ok_54 s85 (IntKind.wrap .i64 (x_56+1)) h86 m87) (∃m88,m88<m53/\I51 ok_54 todo_55 (IntKind.wrap .i64 (x_56+1)) h71 m88)
def V70b (h39:Heap) (p0:Addr) (h:Heap) (ok_36:Bool) (R:Value->Heap->Prop):Prop:=
 ∃x100:Option Nat,hc h39 ⟨p0.block,p0.off+3,none⟩=some (.map x100)/\∃x101 x102 x103 x104,aL11 h39 (aS h 0) x101 x102 x103 x104/\RunW Pz (Instr.mapUpdate 144 (.map x100) (.agg ⟨(L11 x101 x102 x103 x104)⟩) (.bool ok_36)) h39 (fun _ h105=>R (.bool ok_36) h105)
def W70 (p0:Addr) (p1_1 p1_2 p1_3 p1_4:Int):Prop:=
 Wn h (L11 p1_1 p1_2 p1_3 p1_4) 156 fun h5=>∃x6:Option Nat,hc h5 ⟨p0.block,p0.off+3,none⟩=some (.map x6)/\∃x7 x8 x9 x10,aL11 h5 (aS h 0) x7 x8 x9 x10/\RunW Pz (Instr.lookup 144 (.map x6) (.agg ⟨(L11 x7 x8 x9 x10)⟩) true) h5 (fun v11 h14=>∃(x12 x13:Bool),v11=.tuple ⟨[.bool x12,.bool x13]⟩/\sB x13 (R (.bool x12) h14) (∃x15,rS h14 p0 x15/\∃x16,rI h14 (aS h 0) x16/\NB x15.a fun b17 o18=>Ib x16 x15.n/\∃x19 x20 x21 x22 x23 x24,aL1 h14 ⟨b17,o18+Int.toNat x16*6,none⟩ x19 x20 x21 x22 x23 x24/\Wn h14 [vI 0,vI 0,vI 0,.slice none 0 0,.slice none 0 0,.slice none 0 0] 88 fun h25=>Sm [⟨b17,o18+Int.toNat x16*6,none⟩,(aS h 0),p0] h14 h25/\Wp h25 (aS h14 0) 6 (L1 x19 x20 x21 x22 x23 x24) fun h26=>∃x27,rI h26 (aS h14 1) x27/\Mk x27 x27 1/\Wn h26 (madeL Pz 4 (Int.toNat x27)) 4 fun h28=>∃x29,rI h28 (aS h 1) x29/\(0<=(x29:Int)/\(x29:Int)<((Int.toNat x27):Nat))/\Wp h28 (aS h26 (0+Int.toNat x29*1)) 1 [.bool true] fun h30=>∃x31,rI h30 (aS h 1) x31/\Wn h30 [vI x31] 3 fun h32=>QBSI x12 ⟨(some (aS h30 0)),1,1⟩ 0 h32 fun I33 ok_36 todo_37 head_38 h39 m35=>sB (decide (head_38<(todo_37.n:Int))) (sB (!ok_36) (∃x40,rS h39 ⟨p0.block,p0.off+2,none⟩ x40/\∃x41,rI h39 (aS h 0) x41/\NB x40.a fun b42 o43=>Ib x41 x40.n/\∃x44,rS h39 ⟨b42,o43+Int.toNat x41*1,none⟩ x44/\NB todo_37.a fun b45 o46=>Ib head_38 todo_37.n/\∃x47,rI h39 ⟨b45,o46+Int.toNat head_38*1,none⟩ x47/\NB x44.a fun b48 o49=>Ib x47 x44.n/\∃x50,rS h39 ⟨b48,o49+Int.toNat x47*1,none⟩ x50/\QBSI ok_36 todo_37 0 h39 fun I51 ok_54 todo_55 x_56 h57 m53=>sB (decide (x_56<(x50.n:Int))) (NB x50.a fun b58 o59=>Ib x_56 x50.n/\∃x60,rI h57 ⟨b58,o59+Int.toNat x_56*1,none⟩ x60/\∃x61,rS h57 (aS h14 4) x61/\NB x61.a fun b62 o63=>Ib x60 x61.n/\∃x64 x65 x66 x67 x68 x69,aL0 h57 ⟨b62,o63+Int.toNat x60*6,none⟩ x64 x65 x66 x67 x68 x69/\Wn h57 [vI 0,.bool false,vI 0,vI 0,vI 0,.bool false] 116 fun h70=>Wp h70 (aS h57 0) 6 (L0 x64 x65 x66 x67 x68 x69) fun h71=>∃x72,rB h71 (aS h57 1) x72/\sB (!x72) (∃x73,rI h71 (aS h57 2) x73/\∃x74,rI h71 (aS h 2) x74/\sB (x73==x74) (sB ok_54 (∃m75,m75<m53/\I51 true todo_55 (IntKind.wrap .i64 (x_56+1)) h71 m75) (∃x76,rI h71 (aS h57 3) x76/\∃x77,rI h71 (aS h 3) x77/\∃m78,m78<m53/\I51 (x76==x77) todo_55 (IntKind.wrap .i64 (x_56+1)) h71 m78)) (V70a h71 h57 x27 h26 todo_55 m53 I51 ok_54 x_56)) (V70a h71 h57 x27 h26 todo_55 m53 I51 ok_54 x_56)) (∃m99,m99<m35/\I33 ok_54 todo_55 (IntKind.wrap .i64 (head_38+1)) h57 m99)) (V70b h39 p0 h ok_36 R)) (V70b h39 p0 h ok_36 R)))
theorem vc70 (p0:Addr) (p1_1 p1_2 p1_3 p1_4:Int) (H:@W70 h R p0 p1_1 p1_2 p1_3 p1_4):Fn Pz 70 #[.pointer (some p0),.agg ⟨(L11 p1_1 p1_2 p1_3 p1_4)⟩] h R:=fnI (A:=(.s .z (.s .z (.s .z (.s .z (.s .z (.s .z (.s .z (.s (.s .z (.b (.l [(5,.one (.bool)),(9,.one (.slice)),(10,.one (.int .i64))] (.s .z (.s (.b (.s .z (.b (.l [(5,.one (.bool)),(9,.one (.slice)),(68,.one (.int .i64))] .z)))) .z))))) .z))))))))) (by kernel_rfl) H

def W71 (p0:Addr) (p1_1 p1_2:Sl):Prop:=
 Wn h [vS p1_1,vS p1_2] 50 fun h3=>
 ∃x4,rS h3 (aS h 0) x4 /\
 QI 0 h3 fun I5 x_8 h9 m7=>
 sB (decide (x_8<(x4.n:Int)))
 (NB x4.a fun b10 o11=>Ib x_8 x4.n /\
 ∃x12,rI h9 ⟨b10,o11+Int.toNat x_8*1,none⟩ x12 /\
 ∃x13,rS h9 p0 x13 /\
 NB x13.a fun b14 o15=>Ib x_8 x13.n /\
 ∃x16,rS h9 ⟨b14,o15+Int.toNat x_8*6+3,none⟩ x16 /\
 NB x16.a fun b17 o18=>Ib x12 x16.n /\
 ∃x19,rB h9 ⟨b17,o18+Int.toNat x12*1,none⟩ x19 /\
 sB (!x19)
 (R (.bool false) h9)
 (∃m20,m20<m7/\I5 (IntKind.wrap .i64 (x_8+1)) h9 m20))
 (∃x21,rS h9 (aS h 1) x21 /\
 Fn Pz 83 #[vS x21,.func (.func 111) #[] #[]] h9
 (fun v22 h24=>∃x23,iB v22 x23 /\
 R (.bool (!x23)) h24))
theorem vc71 (p0:Addr) (p1_1 p1_2:Sl) (H:@W71 h R p0 p1_1 p1_2):Fn Pz 71 #[.pointer (some p0),.agg ⟨[vS p1_1,vS p1_2]⟩] h R:=fnI (A:=(.s .z (.s (.s .z (.b (.l [(10,.one (.int .i64))] .z))) .z))) (by kernel_rfl) H

def W35 (p0:Addr) (p1_1 p1_2:Sl) (p2:Bool):Prop:=
 Wn h [vS p1_1,vS p1_2] 50 fun h3=>
 ∃x4,rS h3 p0 x4 /\
 ∃x5,rS h3 (aS h 1) x5 /\
 QI 0 h3 fun I6 x_9 h10 m8=>
 sB (decide (x_9<(x5.n:Int)))
 (NB x5.a fun b11 o12=>Ib x_9 x5.n /\
 ∃x13,rS h10 ⟨b11,o12+Int.toNat x_9*1,none⟩ x13 /\
 sB (decide ((x13.n:Int)>0))
 ((x4.n:Int)≠0/\∃x14,rS h10 (aS h 0) x14 /\
 (x4.n:Int)≠0/\NB x14.a fun b15 o16=>(0<=((Int.tmod x_9 (x4.n:Int)):Int)/\((Int.tmod x_9 (x4.n:Int)):Int)<(x14.n:Nat)) /\
 ∃x17,rI h10 ⟨b15,o16+Int.toNat (Int.tmod x_9 (x4.n:Int))*1,none⟩ x17 /\
 (x4.n:Int)≠0/\NB x13.a fun b18 o19=>Ib 0 x13.n /\
 ∃x20,rI h10 ⟨b18,o19+Int.toNat 0*1,none⟩ x20 /\
 Fn Pz 70 #[.pointer (some p0),.agg ⟨[vI (Int.tmod x_9 (x4.n:Int)),vI x17,vI (IntKind.wrap .i64 (Int.tdiv x_9 (x4.n:Int))),vI x20]⟩] h10
 (fun v21 h23=>∃x22,iB v21 x22 /\
 sB (!x22)
 (R (vI 1) h23)
 (∃m24,m24<m8/\I6 (IntKind.wrap .i64 (x_9+1)) h23 m24)))
 (∃m25,m25<m8/\I6 (IntKind.wrap .i64 (x_9+1)) h10 m25))
 (sB (!p2)
 (∃(x26 x27:Sl),atC h10 (aS h 0) [vS x26,vS x27] /\
 Fn Pz 71 #[.pointer (some p0),.agg ⟨[vS x26,vS x27]⟩] h10
 (fun v28 h30=>∃x29,iB v28 x29 /\
 sB (!x29)
 (R (vI 2) h30)
 (R (vI 0) h30)))
 (R (vI 0) h10))
theorem vc35 (p0:Addr) (p1_1 p1_2:Sl) (p2:Bool) (H:@W35 h R p0 p1_1 p1_2 p2):Fn Pz 35 #[.pointer (some p0),.agg ⟨[vS p1_1,vS p1_2]⟩,.bool p2] h R:=fnI (A:=(.s .z (.s .z (.s (.s .z (.b (.l [(18,.one (.int .i64))] .z))) .z)))) (by kernel_rfl) H

end Go.VC
end

section
namespace Go.VC
open Go.Proofs Go.LexS Go.Maps
structure Wt where
 r:Int
 s:Int
 p:Int
 l:Int
deriving DecidableEq
def Wt.cs (w:Wt):List Value:=[.int .i64 w.r,.int .i64 w.s,.int .i64 w.p,.int .i64 w.l]
def Wt.v (w:Wt):Value:=.agg ⟨w.cs⟩
def Wt.ok (w:Wt):Prop:=inR w.r/\inR w.s/\inR w.p/\inR w.l
theorem s156 : ∃ fs, Pz.underlying 156 = some (.struct fs) /\ fs.all (·.name != "_") = true /\ fs.toList.map (fun f => (f.type, f.offset)) = [(3, 0), (3, 1), (3, 2), (3, 3)] := su (by kernel_rfl)
theorem c156:Pz.cellsOf 156=4:=by kernel_rfl
theorem key_wt (w:Wt) (h:w.ok):∃l,keyOf Pz 156 w.v=some l:=by
 obtain⟨fs,hu,hn,hf⟩:=s156;obtain⟨h1,h2,h3,h4⟩:=h;have hsz:∃n,Pz.types.size+1=n+3:=⟨Pz.types.size-2,by have:2<=Pz.types.size:=Yyn (by kernel_rfl);omega⟩;obtain⟨n,hsz⟩:=hsz;have hl:Pz.keyLits (n+3) 156 w.cs=some [[.int .i64 w.r],[.int .i64 w.s],[.int .i64 w.p],[.int .i64 w.l]].flatten:=by
  refine kl_struct hu (by rw[c156];rfl) hn hf ?_;simp only[List.mapM_cons,List.mapM_nil,c3,Wt.cs,List.drop_zero,List.take_succ_cons,Yyk,List.drop_succ_cons,kl_int u3 h1.wf,kl_int u3 h2.wf,kl_int u3 h3.wf,kl_int u3 h4.wf];rfl
 have hkt:Pz.keyType 156=true:=by kernel_rfl
 have hfo:w.v.formed Pz 156=true:=by
  unfold Wt.v Value.formed;simp only[hu,c156];rfl
 have e:keyOf Pz 156 w.v=(Pz.keyLits (n+3) 156 w.cs).map fun ls=>.string (keyBytes ls):=by
  unfold keyOf;simp only[hu,hkt,hfo,Bool.and_self,if_true,hsz];rfl
 rw[e,hl];exact⟨_,rfl⟩
theorem Wt.v_inj (a b:Wt) (h:a.v=b.v):a=b:=by
 obtain⟨a1,a2,a3,a4⟩:=a;obtain⟨b1,b2,b3,b4⟩:=b;unfold Wt.v Wt.cs at h;simp at h;obtain⟨rfl,rfl,rfl,rfl⟩:=h;rfl
theorem M144:MT Pz 144 156 4 Wt.v Wt.ok (.bool false) where
 K:=Keyed.of_law (deep_law_laid laid25 (m:=2) (by omega) (Yyn (by kernel_rfl)) (by kernel_rfl) (by kernel_rfl))
 ht:=by kernel_rfl
 key:=key_wt
 inj:=Wt.v_inj
 z:=fun w=>by kernel_rfl
structure WtOk (L:List MR) (K:List (Wt × Bool)):Prop where
 nd:(K.map Prod.fst).Nodup
 ok:∀q∈K,q.1.ok/\∃(p:Nat) (y:MR),q.1.r=(p:Int)/\L[p]?=some y/\(q.2=true ↔ ExpM y.m q.1.s q.1.p q.1.l)
def wtC (q:Wt × Bool):Value × Value:=(q.1.v,.bool q.2)
theorem mgetE_mem {α β:Type} [DecidableEq α] {a:α} {b:β}:∀ {l:List (α × β)},mget l a=some b->(a,b)∈l
 | [],h=>by cases h
 | (x,y)::r,h=>by
  unfold mget at h;split at h
  ·rename_i e;cases h;first
    | (subst e;exact Yx)
    | (rw[<-e];exact Yx)
  ·exact Yn _ (mgetE_mem h)
theorem mget_nomem {α β:Type} [DecidableEq α] {a:α}:∀ {l:List (α × β)},mget l a=none->∀q∈l,q.1≠a
 | [],_,q,hq=>by cases hq
 | (x,y)::r,h,q,hq=>by
  unfold mget at h;split at h
  ·cases h
  ·rename_i e;rcases Yr.1 hq with rfl | hq
   ·exact fun e2=>e (by first | exact e2 | exact e2.symm)
   ·exact mget_nomem h q hq
theorem WtOk.set {L:List MR} {K:List (Wt × Bool)} (hK:WtOk L K) {w:Wt} {b:Bool} (hn:mget K w=none) (hw:w.ok) {p:Nat} {y:MR} (h1:w.r=(p:Int)) (h2:L[p]?=some y) (h3:b=true ↔ ExpM y.m w.s w.p w.l):WtOk L (mset K w b):=by
 refine⟨mset_nodup w b K hK.nd,fun q hq=>?_⟩;rw[mset_none (mget_nomem hn)] at hq;rcases Yk.1 hq with hq | hq
 ·exact hK.ok q hq
 ·rw[Ye.1 hq];exact⟨hw,p,y,h1,h2,h3⟩
end Go.VC
end

section
namespace Go.VC
open Go.Proofs Go.LexS
structure EngX (h:Heap) (eb wb:Nat) (s:Sl) (k:Int) (L:List MR) (osl:Sl) (os:Nat->Sl) (qs:Nat->Nat->Sl):Prop where
 e:atC h ⟨eb,0,none⟩ [.slice s.a s.n s.c,.int .i64 k,.slice osl.a osl.n osl.c,.map (some wb)]
 o:Rw h 1 osl ((List.range L.length).map fun p=>slR (os p))
 p:∀(p:Nat) x,L[p]?=some x->Rw h 1 (os p) ((List.range x.m.n.toNat).map fun s=>slR (qs p s))
 q:∀(p:Nat) x,L[p]?=some x->∀s,s<x.m.n.toNat->Rw h 1 (qs p s) ((natI (mvS x.m (s:Int))).map inC)
theorem EngX.r {h:Heap} {eb wb:Nat} {s:Sl} {k:Int} {L:List MR} {osl:Sl} {os:Nat->Sl} {qs:Nat->Nat->Sl} (hE:EngX h eb wb s k L osl os qs):EngR h eb s k L:=
 ⟨osl,hE.e.sub0 3 rfl,os,qs,hE.o,fun p x hx=>⟨hE.p p x hx,hE.q p x hx⟩⟩
theorem mem1 {A:List It} {a:It}:∀i∈A,i∈a::A:=fun _ hi=>Yn _ hi
theorem mem2 {A:List It} {a b:It}:∀i∈A,i∈a::b::A:=fun _ hi=>Yn _ (Yn _ hi)
theorem mem5 {A:List It} {a b c d e:It}:∀i∈A,i∈a::b::c::d::e::A:=fun _ hi=>Yn _ (Yn _ (Yn _ (Yn _ (Yn _ hi))))
set_option maxHeartbeats 6400000 in
theorem expected70 (L:List MR) (s:Sl) (k:Int) (eb wb p:Nat) (y:MR) (z peer label:Int) (K:List (Wt × Bool)) (osl:Sl) (os:Nat->Sl) (qs:Nat->Nat->Sl) {h0 h:Heap} {A:List It} (hs:St h0 h (.mp wb (K.map wtC)::A)) (hS:SyI h0 s L) (hV:SysV (L.map MR.m))
  (hE:Sta A fun h=>EngX h eb wb s k L osl os qs) (hK:WtOk L K) (gy:L[p]?=some y) (hz:0<=z/\z<y.m.n) (hpe:inR peer) (hla:inR label) :
  Fn Pz 70 #[.pointer (some ⟨eb,0,none⟩),.agg ⟨[.int .i64 (p:Int),.int .i64 z,.int .i64 peer,.int .i64 label]⟩] h fun v h'=>∃(b:Bool) (K':List (Wt × Bool)),v=.bool b/\(b=true ↔ ExpM y.m z peer label)/\WtOk L K'/\St h0 h' (.mp wb (K'.map wtC)::A):=by
 apply vc70 ⟨eb,0,none⟩ (p:Int) z peer label;unfold W70 V70b V70a;have hn:=hS.r.ln;have hsm:=hS.r.sm;have gm:(L.map MR.m)[p]?=some y.m:=by rw[Yd,gy];rfl
 have hpl:=(Ya.1 gy).1;have hvm:=hV.m p y.m gm;have hN:=hvm.2.1.n;have hN1:=hN.n;have hml:=hN.ml;have hyi:=hS.i y (Yb gy);have hgl:=hyi.pm.ln;have hwok:(⟨(p:Int),z,peer,label⟩:Wt).ok:=⟨show inR (p:Int) from ⟨by omega,by omega⟩,show inR z from ⟨by omega,by omega⟩,hpe,hla⟩;have hKok:∀q∈K,q.1.ok:=fun q hq=>(hK.ok q hq).1;refine hs.newb fun h5 hs=>?_;have hX:=hE.at hs mem2;refine⟨some wb,hX.e.nth 3 rfl,(p:Int),z,peer,label,hs.at 0 rfl (o:=0) (n:=4) rfl,?_⟩;refine hs.mlookOk M144 (cv:=Value.bool) (l:=K) 1 rfl hKok hK.nd (a:=⟨(p:Int),z,peer,label⟩) hwok ?_;cases hg:mget K ⟨(p:Int),z,peer,label⟩ with
 | some b=>
  refine⟨b,true,rfl,sB_t rfl ⟨b,K,rfl,?_,hK,hs.drop 1⟩⟩;obtain⟨_,p',y',e1,e2,e3⟩:=hK.ok _ (mget_mem hg);have:p'=p:=by dsimp only at e1;omega
  subst this;rw[gy] at e2;cases e2;exact e3
 | none=>
  refine⟨false,false,rfl,sB_f rfl ?_⟩;refine⟨s,hX.e.hd,(p:Int),hs.rd 0 rfl (i:=0) rfl,?_⟩;refine (hS.r.rw.ext hs.ext).nbI (by omega) (by omega) fun b17 o18 y' gy' t=>?_;rw[Ys] at gy';replace gy':L[p]?=some y':=gy';rw[gy] at gy';cases gy';refine⟨_,_,_,_,_,_,t,?_⟩;refine hs.newbE fun h25 E25 hs=>⟨E25.sm,?_⟩;refine hs.put 0 rfl (o:=0) (vs:=MR.cs y) rfl (show 6<=6 by decide) fun h26 hs=>?_;refine⟨y.m.n,hs.rd 0 rfl (i:=1) rfl,⟨by omega,by omega,by omega⟩,?_⟩;rw[made4];refine hs.newb fun h28 hs=>?_;refine⟨z,hs.rd 2 rfl (i:=1) rfl,⟨by omega,by omega⟩,?_⟩;rw[show 0+Int.toNat z*1=z.toNat by omega];refine hs.put 0 rfl (o:=z.toNat) (vs:=[.bool true]) rfl (by rw[Yc,Yg,Yv];omega) fun h30 hs=>?_;rw[map_splice _ (by rw[Yg];omega)] at hs;refine⟨z,hs.rd 2 rfl (i:=1) rfl,?_⟩;refine hs.newb fun h32 hs=>?_;have hs:=hs.blkS 1 1 ([z].map inC) rfl (inrows _) rfl (by decide);have hC0:CL (medB y.m peer) (-1) y.m.n.toNat [z] ((List.replicate y.m.n.toNat false).set z.toNat true) [z]:=
   (CL.start (medB y.m peer) (-1) y.m.n.toNat [z]).push hz.1 (by rw[List.getElem?_replicate,if_pos (by omega)]) (.base (Ye.2 rfl))
  refine⟨fun ok todo x h' μ=>∃(i:Nat) (D:List Bool) (T:List Int),x=i/\μ=y.m.n.toNat-i/\i<=T.length/\St h0 h' (.sl todo 3 1 (T.map inC) :: .blk h26.size (D.map Value.bool) 4 :: .blk h5.size (MR.cs y) 88 :: .blk h.size [.int .i64 (p:Int),.int .i64 z,.int .i64 peer,.int .i64 label] 156 :: .mp wb (K.map wtC)::A)/\CL (medB y.m peer) (-1) y.m.n.toNat [z] D T/\z∈T/\(ok=true->ExpM y.m z peer label)/\(ok=false->∀v∈T.take i,DoneM y.m peer label T v),⟨_,0,_,_,rfl,rfl,Nat.zero_le _,hs,hC0,Ye.2 rfl,fun h=>(by cases h),fun _ v hv=>by rw[Yyk] at hv;cases hv⟩,?_⟩;clear hs hC0 hX t;rintro-ok todo _ h39 μ ⟨i,D,T,rfl,rfl,hi,hs,hC,hzT,hok1,hok2⟩;have hln:=(hs.rows 0 (s:=todo) (cs:=inC) rfl (by omega)).ln;have hle:=hC.le;have hX:=hE.at hs mem5;have hend:∀b:Bool,ok=b->(b=true ↔ ExpM y.m z peer label)->∃x100:Option Nat,hc h39 ⟨eb,0+3,none⟩=some (.map x100)/\∃x101 x102 x103 x104:Int,atC h39 ⟨h.size,0,none⟩ [.int .i64 x101,.int .i64 x102,.int .i64 x103,.int .i64 x104]/\RunW Pz (Instr.mapUpdate 144 (.map x100) (.agg ⟨[.int .i64 x101,.int .i64 x102,.int .i64 x103,.int .i64 x104]⟩) (.bool ok)) h39 fun _ h105=>∃(b:Bool) (K':List (Wt × Bool)),Value.bool ok=.bool b/\(b=true ↔ ExpM y.m z peer label)/\WtOk L K'/\St h0 h105 (.mp wb (K'.map wtC)::A):=fun b e hb=>by
   refine⟨some wb,hX.e.nth 3 rfl,(p:Int),z,peer,label,hs.at 3 rfl (o:=0) (n:=4) rfl,?_⟩;refine hs.mput M144 (cv:=Value.bool) (l:=K) 4 rfl hKok hK.nd (a:=⟨(p:Int),z,peer,label⟩) hwok ok fun h105 hs=>?_;exact⟨ok,mset K ⟨(p:Int),z,peer,label⟩ ok,rfl,by rw[e];exact hb,hK.set hg hwok rfl gy (by rw[e];exact hb),hs.drop 4⟩
  refine sBi (fun c1=>?_) (fun c1=>?_)
  ·refine sB_intro (fun co=>?_) (fun co=>?_)
   ·have hof:ok=false:=bF co;subst hof;have hok2:=hok2 rfl;clear hend;obtain⟨v,gv⟩:=get_some (l:=T) (i:=i) (by omega);have hvT:=Yb gv;have hvm2:=(hC.mem v).1 hvT;have hDl:=hC.len;have hvl:v.toNat<y.m.n.toNat:=by have:=(Ya.1 hvm2.2).1;omega
    have hiT:i<T.length:=(Ya.1 gv).1;refine⟨osl,hX.e.nth 2 rfl,(p:Int),hs.rd 3 rfl (i:=0) rfl,?_⟩;have hon:osl.n=L.length:=by rw[hX.o.1,Yc,Yyd]
    refine hX.o.nbI (by omega) (by omega) fun b42 o43 p' gp t2=>?_;rw[Ys,Yyb (by omega)] at gp;cases gp;refine⟨os p,t2.hd,?_⟩;refine (hs.rows 0 (s:=todo) (cs:=inC) rfl (by omega)).nbI (by omega) (by omega) fun b45 o46 v' gv' t3=>?_;rw[Ys,gv] at gv';cases gv';refine⟨v,t3.hd,?_⟩;have hpn:=hX.p p y gy;have hosn:(os p).n=y.m.n.toNat:=by rw[hpn.1,Yc,Yyd]
    refine hpn.nbI hvm2.1 (by omega) fun b48 o49 v' gv' t4=>?_;rw[Yyb (by omega)] at gv';cases gv';refine⟨qs p v.toNat,t4.hd,?_⟩;have hvc:((v.toNat:Nat):Int)=v:=Int.toNat_of_nonneg hvm2.1;obtain⟨hpm,-⟩:=mvS_srt y.m v;have hrow:=hX.q p y gy v.toNat hvl;rw[hvc] at hrow;have hrn:=hrow.ln;rw[show (natI (mvS y.m v)).length=(mvS y.m v).length from Yc _] at hrn;have hOl:(mvS y.m v).length<=y.m.mv.length:=by
     rw[hpm.length_eq];unfold outIx;refine Yys (List.length_filter_le _ _) ?_;rw[Yyd];exact Yyt _
    have hOe:mvS y.m ((v.toNat:Nat):Int)=mvS y.m v:=by rw[hvc]
    generalize hO:mvS y.m v=O at *;refine⟨fun ok todo x h' μ=>∃(j:Nat) (D:List Bool) (T':List Int),x=j/\μ=O.length-j/\j<=O.length/\St h0 h' (.sl todo 3 1 (T'.map inC) :: .blk h26.size (D.map Value.bool) 4 :: .blk h5.size (MR.cs y) 88 :: .blk h.size [.int .i64 (p:Int),.int .i64 z,.int .i64 peer,.int .i64 label] 156 :: .mp wb (K.map wtC)::A)/\CL (medB y.m peer) (-1) y.m.n.toNat [z] D T'/\(∃R,T'=T++R)/\(ok=true->ExpM y.m z peer label)/\(ok=false->∀q∈O.take j,∀x,y.m.mv[q]?=some x->DoneV y.m peer label T' x),⟨_,0,D,T,rfl,rfl,Nat.zero_le _,hs,hC,⟨[],by simp⟩,fun h=>(by cases h),fun _ q hq=>by rw[Yyk] at hq;cases hq⟩,?_⟩;clear hs hC hln hX hrow hpn hok1 t2 t3 t4 hle;rintro-ok todo2 _ h57 μ ⟨j,D,T',rfl,rfl,hj,hs,hC,⟨R,rfl⟩,hi1,hi2⟩;have hle2:=hC.le;have hDl:=hC.len;have hln:=(hs.rows 0 (s:=todo2) (cs:=inC) rfl (by omega)).ln;have hX:=hE.at hs mem5;refine sBi (fun c2=>?_) (fun c2=>?_)
    ·obtain⟨q,gq⟩:=get_some (l:=O) (i:=j) (by omega);obtain⟨x,gx,hxf⟩:=outIx_mem.1 (hpm.mem_iff.1 (Yb gq));have hqm:=(Ya.1 gx).1;have hxm:=Yb gx;have hxr:=hN.mv x hxm;have hrow:=hX.q p y gy v.toNat hvl;rw[hOe] at hrow;refine hrow.nbI (by omega) (by omega) fun b58 o59 q' gq' t5=>?_;rw[Ys] at gq';replace gq':(natI O)[j]?=some q':=gq';obtain⟨q2,gq2,rfl⟩:=natI_get gq';rw[gq] at gq2;cases gq2;refine⟨(q:Int),t5.hd,y.g,hs.rd 2 rfl (i:=4) rfl,?_⟩;refine (hyi.pm.rw.ext hs.ext).nbI (by omega) (by omega) fun b62 o63 x' gx' t6=>?_;rw[Ys] at gx';replace gx':y.m.mv[q]?=some x':=gx';rw[gx] at gx';cases gx';refine⟨_,_,_,_,_,_,t6,?_⟩;clear t5 t6 hrow hX;refine hs.newput (vs:=x.cs) rfl rfl fun h71 hs=>?_;have hqv:=hC.r v (List.mem_append_left _ hvT);have hstay:ok=false->DoneV y.m peer label (T++R) x->∀q∈O.take (j+1),∀x,y.m.mv[q]?=some x->DoneV y.m peer label (T++R) x:=fun ho hx1 q' hq' x' hx'=>by
      rw[take_snoc gq,Yk,Ye] at hq';rcases hq' with hq' | rfl
      ·exact hi2 ho q' hq' x' hx'
      ·rw[gx] at hx';cases hx';exact hx1
     have hgrow:ok=false->¬Blk peer x->∀q∈O.take (j+1),∀x',y.m.mv[q]?=some x'->DoneV y.m peer label (T++R++[x.t]) x':=fun ho hnb q' hq' x' hx'=>by
      rw[take_snoc gq,Yk,Ye] at hq';rcases hq' with hq' | rfl
      ·exact (hi2 ho q' hq' x' hx').mono fun z hz=>List.mem_append_left _ hz
      ·rw[gx] at hx';cases hx';exact⟨fun hb=>absurd hb hnb,fun _=>List.mem_append_right _ (Ye.2 rfl)⟩
     obtain⟨zz,hzz⟩:=get_some (l:=D) (i:=x.t.toNat) (by omega);have e1:0+Int.toNat x.t*1=x.t.toNat:=by omega
     refine⟨x.send,hs.rd 0 rfl (i:=1) rfl,sB_intro (fun cs=>?_) (fun cs=>?_)⟩
     ·have cs:=bF cs;refine⟨x.peer,hs.rd 0 rfl (i:=2) rfl,peer,hs.rd 4 rfl (i:=2) rfl,sBe (fun cp=>?_) (fun cp=>?_)⟩
      ·have hbl:Blk peer x:=⟨cs,cp⟩;refine sB_intro (fun co=>?_) (fun co=>?_)
       ·exact⟨_,(show O.length-(j+1)<O.length-j by omega),j+1,D,T++R,by rw[w64 (by omega) (by omega)];omega,rfl,by omega,hs.drop 1,hC,⟨R,rfl⟩,fun _=>hi1 co,fun h=>by cases h⟩
       ·refine⟨x.label,hs.rd 0 rfl (i:=3) rfl,label,hs.rd 4 rfl (i:=3) rfl,?_⟩;refine⟨_,(show O.length-(j+1)<O.length-j by omega),j+1,D,T++R,by rw[w64 (by omega) (by omega)];omega,rfl,by omega,hs.drop 1,hC,⟨R,rfl⟩,fun h=>⟨v,hqv,x,hxm,hxf,hbl,eq_of_beq h⟩,fun h=>hstay co ⟨fun _=>beq_eq_false_iff_ne.1 h,fun hn=>absurd hbl hn⟩⟩
      ·have hnb:¬Blk peer x:=fun hb=>cp hb.2;refine⟨x.t,hs.rd 0 rfl (i:=4) rfl,⟨by omega,by omega⟩,?_⟩;rw[e1];refine⟨zz,hs.rd 2 rfl (by rw[map_get,hzz];rfl),sB_intro (fun cz=>?_) (fun cz=>?_)⟩
       ·have hzf:zz=false:=bF cz;subst hzf;refine⟨x.t,hs.rd 0 rfl (i:=4) rfl,⟨by omega,by omega⟩,?_⟩;rw[e1];have hC2:=hC.push (by omega) hzz (medB_step hqv hxm hnb hxf);refine hs.put 2 rfl (o:=x.t.toNat) (vs:=[.bool true]) rfl (by rw[Yc,Yv];omega) fun h82 hs=>?_;rw[map_splice _ (by omega)] at hs;refine⟨x.t,hs.rd 0 rfl (i:=4) rfl,?_⟩;refine hs.app 1 (s:=todo2) (rows:=(T++R).map inC) rfl app42 (m:=1) [[.int .i64 x.t]] rfl rfl (by simp) rfl (by omega) (by simp only[maxLen];omega) fun s85 h86 ns hs=>?_;refine⟨_,(show O.length-(j+1)<O.length-j by omega),j+1,D.set x.t.toNat true,T++R++[x.t],by rw[w64 (by omega) (by omega)];omega,rfl,by omega,?_,hC2,⟨R++[x.t],by rw[Yz]⟩,hi1,fun h=>hgrow h hnb⟩;rw[Ym];exact hs.drop 1
       ·have hzt:zz=true:=bT cz;subst hzt;exact⟨_,(show O.length-(j+1)<O.length-j by omega),j+1,D,T++R,by rw[w64 (by omega) (by omega)];omega,rfl,by omega,hs.drop 1,hC,⟨R,rfl⟩,hi1,fun h=>hstay h ⟨fun hb=>absurd hb hnb,fun _=>(hC.mem _).2 ⟨by omega,hzz⟩⟩⟩
     ·have cs:=bT cs;have hnb:¬Blk peer x:=fun hb=>by rw[hb.1] at cs;cases cs
      refine⟨x.t,hs.rd 0 rfl (i:=4) rfl,⟨by omega,by omega⟩,?_⟩;rw[e1];refine⟨zz,hs.rd 2 rfl (by rw[map_get,hzz];rfl),sB_intro (fun cz=>?_) (fun cz=>?_)⟩
      ·have hzf:zz=false:=bF cz;subst hzf;refine⟨x.t,hs.rd 0 rfl (i:=4) rfl,⟨by omega,by omega⟩,?_⟩;rw[e1];have hC2:=hC.push (by omega) hzz (medB_step hqv hxm hnb hxf);refine hs.put 2 rfl (o:=x.t.toNat) (vs:=[.bool true]) rfl (by rw[Yc,Yv];omega) fun h82 hs=>?_;rw[map_splice _ (by omega)] at hs;refine⟨x.t,hs.rd 0 rfl (i:=4) rfl,?_⟩;refine hs.app 1 (s:=todo2) (rows:=(T++R).map inC) rfl app42 (m:=1) [[.int .i64 x.t]] rfl rfl (by simp) rfl (by omega) (by simp only[maxLen];omega) fun s85 h86 ns hs=>?_;refine⟨_,(show O.length-(j+1)<O.length-j by omega),j+1,D.set x.t.toNat true,T++R++[x.t],by rw[w64 (by omega) (by omega)];omega,rfl,by omega,?_,hC2,⟨R++[x.t],by rw[Yz]⟩,hi1,fun h=>hgrow h hnb⟩;rw[Ym];exact hs.drop 1
      ·have hzt:zz=true:=bT cz;subst hzt;exact⟨_,(show O.length-(j+1)<O.length-j by omega),j+1,D,T++R,by rw[w64 (by omega) (by omega)];omega,rfl,by omega,hs.drop 1,hC,⟨R,rfl⟩,hi1,fun h=>hstay h ⟨fun hb=>absurd hb hnb,fun _=>(hC.mem _).2 ⟨by omega,hzz⟩⟩⟩
    ·refine⟨_,(show y.m.n.toNat-(i+1)<y.m.n.toNat-i by have:=hC.le;rw[Yh] at this;omega),i+1,D,T++R,by have:=hC.le;rw[Yh] at this;rw[w64 (by omega) (by omega)];omega,rfl,by rw[Yh];omega,hs,hC,List.mem_append_left _ hzT,hi1,fun ho v' hv'=>?_⟩;rw[Yyq (by omega),take_snoc gv,Yk,Ye] at hv';rcases hv' with hv' | rfl
     ·exact (hok2 v' hv').mono fun z hz=>List.mem_append_left _ hz
     ·intro x hx hf;obtain⟨q,hq⟩:=Yf.1 hx;refine hi2 ho q ?_ x hq;rw[Yj (by omega)];exact hpm.mem_iff.2 (outIx_mem.2 ⟨x,hq,hf⟩)
   ·have hot:ok=true:=bT co;exact hend true hot (iff_of_true rfl (hok1 hot))
  ·refine hend ok rfl ?_;cases hok:ok with
   | true=>exact iff_of_true rfl (hok1 hok)
   | false=>exact iff_of_false (by decide) (exp_end hC hzT fun v hv=>hok2 hok v (by rw[Yj (by omega)];exact hv))
theorem cal111:callable Pz 111=true:=by kernel_rfl
theorem index121e (B:List Bx) (s:Sl) (h:Heap) (hr:RL h 1 s Bx.cs B) (hi:∀q∈B,RL h 1 q.s inC q.l) :
  Fn Pz 121 #[.slice s.a s.n s.c,.func (.func 111) #[] #[]] h fun v h'=>(∃k:Int,v=.int .i64 k/\(0<=k ↔ ¬∀b∈B.map Bx.l,b=[]))/\Ext h h':=by
 apply vc121 s 111;unfold W121;have hn:=hr.ln;have hl:=hr.sm;refine up_loop (n:=s.n) (fun i h'=>Ext h h'/\∀(j:Nat) (x:Bx),j<i->B[j]?=some x->x.l=[]) ⟨.rfl',fun j x hj=>by omega⟩ ?_;rintro-i h5 hi' ⟨E,hq⟩;refine sB_intro (fun c=>?_) (fun c=>?_)
 ·replace c:=lt_t c;refine (hr.rw.ext E).nbI (by omega) (by omega) fun b6 o7 x gx t14=>?_;replace gx:B[i]?=some x:=gx;have hm:=Yb gx;have hxn:=(hi x hm).ln;refine⟨x.s,t14.hd,?_⟩;rw[cal111,cond_true];apply vc111 x.s;unfold W111;refine⟨_,rfl,sBi (fun c2=>?_) (fun c2=>?_)⟩
  ·refine⟨⟨_,rfl,iff_of_true (by omega) fun hall=>?_⟩,E⟩;have:=hall x.l (List.mem_map_of_mem hm);rw[this] at hxn;simp at hxn;omega
  ·refine Up.next (by omega) (by omega) ⟨E,fun j y hj hy=>?_⟩;by_cases e:j=i
   ·subst e;rw[gx] at hy;cases hy;exact List.eq_nil_of_length_eq_zero (by omega)
   ·exact hq j y (by omega) hy
 ·replace c:=lt_f c;refine⟨⟨_,rfl,iff_of_false (by omega) fun hall=>hall fun b hb=>?_⟩,E⟩;obtain⟨x,hx,rfl⟩:=Yp.1 hb;obtain⟨j,hj⟩:=Yf.1 hx;exact hq j x (by have:=(Ya.1 hj).1;omega) hj
theorem any83e (B:List Bx) (s:Sl) (h:Heap) (hr:RL h 1 s Bx.cs B) (hi:∀q∈B,RL h 1 q.s inC q.l) :
  Fn Pz 83 #[.slice s.a s.n s.c,.func (.func 111) #[] #[]] h (RP (¬∀b∈B.map Bx.l,b=[]) h):=by
 apply vc83 s 111;unfold W83;refine (index121e B s h hr hi).mono ?_;rintro _ h3 ⟨⟨k,rfl,hk⟩,E⟩;exact⟨_,rfl,RP.e (by rw[decide_eq_true_eq];exact hk) E⟩
set_option maxHeartbeats 1600000 in
theorem final71 (L:List MR) (s:Sl) (k:Int) (eb:Nat) (ss sb:Sl) (S:List Int) (B:List Bx) (h:Heap) (hS:SyI h s L) (hE:EngR h eb s k L) (hC:CfI h ss sb S B) (hP:ProS (L.map MR.m) k S (B.map Bx.l)) :
  Fn Pz 71 #[.pointer (some ⟨eb,0,none⟩),.agg ⟨[.slice ss.a ss.n ss.c,.slice sb.a sb.n sb.c]⟩] h (RP (FinS (L.map MR.m) S (B.map Bx.l)) h):=by
 apply vc71 ⟨eb,0,none⟩ ss sb;unfold W71;obtain⟨osl,hat,-⟩:=hE.e;have hn:=hS.r.ln;have hsn:=hC.s.ln;have hsm:=hC.s.sm;have hlm:(L.map MR.m).length=L.length:=Yc _;have hSl:=hP.p.s;rw[hlm] at hSl;refine (St.refl h).newb fun h3 hs=>?_;refine⟨ss,hs.rd 0 rfl (i:=0) rfl,?_⟩;refine up_loopS (n:=ss.n) hs (fun i=>∀(p:Nat) z m,p<i->S[p]?=some z->(L.map MR.m)[p]?=some m->m.fin[z.toNat]?=some true) (fun p z m hj=>by omega) ?_;rintro-i h9 hi ⟨hs,hq⟩;refine sB_intro (fun c=>?_) (fun c=>?_)
 ·replace c:=lt_t c;refine (hC.s.rw.ext hs.ext).nbI (by omega) (by omega) fun b10 o11 z gz t=>?_;replace gz:S[i]?=some z:=gz;refine⟨z,t.hd,s,(atC_ext hs.ext hat).hd,?_⟩;refine (hS.r.rw.ext hs.ext).nbI (by omega) (by omega) fun b o y gy t2=>?_;replace gy:L[i]?=some y:=gy;have gm:(L.map MR.m)[i]?=some y.m:=by rw[Yd,gy];rfl
  have hyi:=hS.i y (Yb gy);have hfl:=(hP.v.m i y.m gm).2.1.n.fl;have hz:=hP.p.st i z y.m gz gm;have hfn:=hyi.pf.ln;refine⟨y.f,t2.nth 3 rfl,?_⟩;refine (hyi.pf.rw.ext hs.ext).nbI hz.1 (by omega) fun b o f gf t3=>?_;refine⟨f,t3.hd,sB_intro (fun d=>?_) (fun d=>?_)⟩
  ·refine RP.f (fun hF=>?_) hs.ext;have:=hF.s i z y.m gz gm;rw[gf] at this;cases this;cases d
  ·refine Up.next (by omega) (by omega) ⟨hs,fun p z' m' hj h1 h2=>?_⟩;by_cases e:p=i
   ·subst e;rw[gz] at h1;rw[gm] at h2;cases h1;cases h2;rw[gf];cases f
    ·cases d
    ·rfl
   ·exact hq p z' m' (by omega) h1 h2
 ·replace c:=lt_f c;refine⟨sb,hs.rd 0 rfl (i:=1) rfl,?_⟩;refine (any83e B sb h9 (hC.b.ext hs.ext) fun q hq=>(hC.i q hq).ext hs.ext).mono ?_;rintro _ h23 ⟨⟨b,rfl,hb⟩,E⟩;refine⟨b,rfl,RP.e ?_ (hs.ext.trans E)⟩;have hall:∀(p:Nat) z m,S[p]?=some z->(L.map MR.m)[p]?=some m->m.fin[z.toNat]?=some true:=fun p z m h1 h2=>hq p z m (by have:=(Ya.1 h1).1;omega) h1 h2;cases b with
  | true=>exact iff_of_false (by decide) fun hF=>hb.1 rfl hF.b
  | false=>exact iff_of_true rfl ⟨hall,Classical.not_not.1 fun hn=>by have:=hb.2 hn;cases this⟩
set_option maxHeartbeats 3200000 in
theorem expected69 (m:Mch) (sf sm sl:Sl) (s peer label:Int) (h:Heap) (hM:MI h m sf sm sl) (hN:NumM m) (hs0:0<=s/\s<m.n) :
  Fn Pz 50 #[.agg ⟨mC m sf sm sl⟩,.int .i64 s,.int .i64 peer,.int .i64 label] h (RP (ExpM m s peer label) h):=by
 apply vc50 m.role m.n m.s sf sm sl s peer label;unfold W50 V50a;have hmn:=hM.pm.ln;have hmm:=hM.pm.sm;have hn:=hN.n;have hml:=hN.ml;refine (St.refl h).newb fun h7 hs=>?_;refine⟨_,hs.rd 0 rfl (i:=1) rfl,⟨by omega,by omega,by omega⟩,?_⟩;rw[made4];refine hs.newb fun h9 hs=>?_;refine⟨⟨by omega,by omega⟩,?_⟩;rw[show 0+Int.toNat s*1=s.toNat by omega];refine hs.put 0 rfl (o:=s.toNat) (vs:=[.bool true]) rfl (by rw[Yc,Yg,Yv];omega) fun h10 hs=>?_;rw[map_splice _ (by rw[Yg];omega)] at hs;refine hs.newb fun h11 hs=>?_;have hs:=hs.blkS 1 1 ([s].map inC) rfl (inrows _) rfl (by decide);have hC0:CL (medB m peer) (-1) m.n.toNat [s] ((List.replicate m.n.toNat false).set s.toNat true) [s]:=
  (CL.start (medB m peer) (-1) m.n.toNat [s]).push hs0.1 (by rw[List.getElem?_replicate,if_pos (by omega)]) (.base (Ye.2 rfl))
 refine⟨fun todo h' μ=>∃(D:List Bool) (T U:List Int),μ=(m.n.toNat-T.length)+U.length/\St h h' [.sl todo 3 1 (U.map inC),.blk h7.size (D.map Value.bool) 4,.blk h.size (mC m sf sm sl) 88]/\CL (medB m peer) (-1) m.n.toNat [s] D T/\s∈T/\(∀v∈U,v∈T)/\m.n.toNat-T.length+U.length<=m.n.toNat/\∀v∈T,v∈U\/DoneM m peer label T v,⟨_,_,[s],[s],rfl,hs,hC0,Ye.2 rfl,fun v hv=>hv,by rw[Yv];omega,fun v hv=>.inl hv⟩,?_⟩;clear hs hC0;rintro-todo h16 μ ⟨D,T,U,rfl,hs,hC,hsT,hUT,hcnt,hd⟩;obtain⟨hln,hcap,-⟩:=hs.len 0 (s:=todo) (e:=3) (n:=1) rfl (by omega);rw[Yc] at hln;have hle:=hC.le;refine sBi (fun c1=>?_) (fun c1=>?_)
 ·have ew:IntKind.wrap .i64 ((todo.n:Int)-1)=((U.length-1:Nat):Int):=by rw[w64 (by omega) (by omega)];omega
  rw[ew];refine (hs.rows 0 (s:=todo) (cs:=inC) rfl (by omega)).nbI (by omega) (by omega) fun b17 o18 v gv t=>?_;rw[Ys] at gv;have hU:U=U.take (U.length-1)++[v]:=by
   rw[<-take_snoc gv,show U.length-1+1=U.length by omega,Yye]
  have hvT:=hUT v (Yb gv);have hqv:=hC.r v hvT;refine⟨v,t.hd,⟨by omega,by omega,by omega⟩,sm,hs.rd 2 rfl (i:=4) rfl,?_⟩;have hs:=hs.cut 0 (s:=todo) (e:=3) (n:=1) rfl (by omega) (U.length-1) (by omega);rw[<-List.map_take] at hs;have hU1:(U.take (U.length-1)).length=U.length-1:=by rw[Yu];omega
  generalize U.take (U.length-1)=U1 at *;refine⟨fun todo x h' μ=>∃(j:Nat) (D:List Bool) (T' U2:List Int),x=j/\μ=m.mv.length-j/\j<=m.mv.length/\St h h' [.sl todo 3 1 (U2.map inC),.blk h7.size (D.map Value.bool) 4,.blk h.size (mC m sf sm sl) 88]/\CL (medB m peer) (-1) m.n.toNat [s] D T'/\(∃R,T'=T++R)/\(∀y∈U2,y∈T')/\m.n.toNat-T'.length+U2.length=m.n.toNat-T.length+(U.length-1)/\(∀y∈T',y∈U2\/y=v\/DoneM m peer label T' y)/\∀k<j,∀y,m.mv[k]?=some y->y.f=v->DoneV m peer label T' y,⟨_,0,D,T,U1,rfl,rfl,Nat.zero_le _,hs,hC,⟨[],by simp⟩,fun y hy=>hUT y (by rw[hU];exact List.mem_append_left _ hy),by rw[hU1],fun y hy=>?_,fun k hk=>by omega⟩,?_⟩
  ·rcases hd y hy with h1 | h1
   ·rw[hU,Yk,Ye] at h1;exact h1.imp id .inl
   ·exact .inr (.inr h1)
  have hU0:0<U.length:=by omega
  clear hs hC hln hcap;rintro-todo2 _ h26 μ ⟨j,D,T',U2,rfl,rfl,hj,hs,hC,⟨R,rfl⟩,hUT2,hcnt2,hd2,hm2⟩;have hle2:=hC.le;have hDl:=hC.len;obtain⟨hln,hcap,-⟩:=hs.len 0 (s:=todo2) (e:=3) (n:=1) rfl (by omega);rw[Yc] at hln;refine sBi (fun c2=>?_) (fun c2=>?_)
  ·refine (hM.pm.rw.ext hs.ext).nbI (by omega) (by omega) fun b27 o28 x gx t2=>?_;replace gx:m.mv[j]?=some x:=gx;have hxm:=Yb gx;have hxr:=hN.mv x hxm;refine⟨_,_,_,_,_,_,t2,?_⟩;refine hs.newput (vs:=x.cs) rfl rfl fun h36 hs=>?_;have hstay:(x.f=v->DoneV m peer label (T++R) x)->∀k<j+1,∀y,m.mv[k]?=some y->y.f=v->DoneV m peer label (T++R) y:=fun hx1 k hk y hy hf=>by
    by_cases e:k=j
    ·subst e;rw[gx] at hy;cases hy;exact hx1 hf
    ·exact hm2 k (by omega) y hy hf
   have hgrow:¬Blk peer x->∀k<j+1,∀y,m.mv[k]?=some y->y.f=v->DoneV m peer label (T++R++[x.t]) y:=fun hnb k hk y hy hf=>by
    by_cases e:k=j
    ·subst e;rw[gx] at hy;cases hy;exact⟨fun hb=>absurd hb hnb,fun _=>List.mem_append_right _ (Ye.2 rfl)⟩
    ·exact (hm2 k (by omega) y hy hf).mono fun z hz=>List.mem_append_left _ hz
   have e1:0+Int.toNat x.t*1=x.t.toNat:=by omega
   obtain⟨z,hz⟩:=get_some (l:=D) (i:=x.t.toNat) (by omega);refine⟨x.f,hs.rd 0 rfl (i:=0) rfl,sBn (fun c3=>?_) (fun c3=>?_)⟩
   ·exact⟨_,(show m.mv.length-(j+1)<m.mv.length-j by omega),j+1,D,T++R,U2,by rw[w64 (by omega) (by omega)];omega,rfl,by omega,hs.drop 1,hC,⟨R,rfl⟩,hUT2,hcnt2,hd2,hstay fun hf=>absurd hf c3⟩
   refine⟨x.send,hs.rd 0 rfl (i:=1) rfl,sB_intro (fun cs=>?_) (fun cs=>?_)⟩
   ·refine⟨x.peer,hs.rd 0 rfl (i:=2) rfl,sBe (fun cp=>?_) (fun cp=>?_)⟩
    ·have hbl:Blk peer x:=⟨bF cs,cp⟩;refine⟨x.label,hs.rd 0 rfl (i:=3) rfl,sBe (fun cl=>RP.t ⟨v,hqv,x,hxm,c3,hbl,cl⟩ hs.ext) (fun cl=>?_)⟩;exact⟨_,(show m.mv.length-(j+1)<m.mv.length-j by omega),j+1,D,T++R,U2,by rw[w64 (by omega) (by omega)];omega,rfl,by omega,hs.drop 1,hC,⟨R,rfl⟩,hUT2,hcnt2,hd2,hstay fun hf=>⟨fun _=>cl,fun hn=>absurd hbl hn⟩⟩
    ·have hnb:¬Blk peer x:=fun hb=>cp hb.2;refine⟨x.t,hs.rd 0 rfl (i:=4) rfl,⟨by omega,by omega⟩,?_⟩;rw[e1];refine⟨z,hs.rd 2 rfl (by rw[map_get,hz];rfl),sB_intro (fun cz=>?_) (fun cz=>?_)⟩
     ·have hzf:z=false:=bF cz;subst hzf;refine⟨x.t,hs.rd 0 rfl (i:=4) rfl,⟨by omega,by omega⟩,?_⟩;rw[e1];have hC2:=hC.push (by omega) hz (medB_step hqv hxm hnb c3);have hle3:=hC2.le;have hl3:(T++R++[x.t]).length=(T++R).length+1:=by rw[Yh,Yv]
      have hl4:(U2++[x.t]).length=U2.length+1:=by rw[Yh,Yv]
      refine hs.put 2 rfl (o:=x.t.toNat) (vs:=[.bool true]) rfl (by rw[Yc,Yv];omega) fun h46 hs=>?_;rw[map_splice _ (by omega)] at hs;refine⟨x.t,hs.rd 0 rfl (i:=4) rfl,?_⟩;refine hs.app 1 (s:=todo2) (rows:=U2.map inC) rfl app42 (m:=1) [[.int .i64 x.t]] rfl rfl (by simp) rfl (by omega) (by simp only[maxLen];omega) fun s49 h50 ns hs=>?_;refine⟨_,(show m.mv.length-(j+1)<m.mv.length-j by omega),j+1,D.set x.t.toNat true,T++R++[x.t],U2++[x.t],by rw[w64 (by omega) (by omega)];omega,rfl,by omega,?_,hC2,⟨R++[x.t],by rw[Yz]⟩,fun y hy=>?_,by omega,fun y hy=>?_,hgrow hnb⟩
      ·rw[Ym];exact hs.drop 1
      ·rcases Yk.1 hy with hy | hy
       ·exact List.mem_append_left _ (hUT2 y hy)
       ·exact List.mem_append_right _ hy
      ·rcases Yk.1 hy with hy | hy
       ·rcases hd2 y hy with h1 | h1 | h1
        ·exact .inl (List.mem_append_left _ h1)
        ·exact .inr (.inl h1)
        ·exact .inr (.inr (h1.mono fun z hz=>List.mem_append_left _ hz))
       ·exact .inl (List.mem_append_right _ hy)
     ·have hzt:z=true:=bT cz;subst hzt;exact⟨_,(show m.mv.length-(j+1)<m.mv.length-j by omega),j+1,D,T++R,U2,by rw[w64 (by omega) (by omega)];omega,rfl,by omega,hs.drop 1,hC,⟨R,rfl⟩,hUT2,hcnt2,hd2,hstay fun hf=>⟨fun hb=>absurd hb hnb,fun _=>(hC.mem _).2 ⟨by omega,hz⟩⟩⟩
   ·have hnb:¬Blk peer x:=fun hb=>by rw[hb.1] at cs;cases cs
    refine⟨x.t,hs.rd 0 rfl (i:=4) rfl,⟨by omega,by omega⟩,?_⟩;rw[e1];refine⟨z,hs.rd 2 rfl (by rw[map_get,hz];rfl),sB_intro (fun cz=>?_) (fun cz=>?_)⟩
    ·have hzf:z=false:=bF cz;subst hzf;refine⟨x.t,hs.rd 0 rfl (i:=4) rfl,⟨by omega,by omega⟩,?_⟩;rw[e1];have hC2:=hC.push (by omega) hz (medB_step hqv hxm hnb c3);have hle3:=hC2.le;have hl3:(T++R++[x.t]).length=(T++R).length+1:=by rw[Yh,Yv]
     have hl4:(U2++[x.t]).length=U2.length+1:=by rw[Yh,Yv]
     refine hs.put 2 rfl (o:=x.t.toNat) (vs:=[.bool true]) rfl (by rw[Yc,Yv];omega) fun h46 hs=>?_;rw[map_splice _ (by omega)] at hs;refine⟨x.t,hs.rd 0 rfl (i:=4) rfl,?_⟩;refine hs.app 1 (s:=todo2) (rows:=U2.map inC) rfl app42 (m:=1) [[.int .i64 x.t]] rfl rfl (by simp) rfl (by omega) (by simp only[maxLen];omega) fun s49 h50 ns hs=>?_;refine⟨_,(show m.mv.length-(j+1)<m.mv.length-j by omega),j+1,D.set x.t.toNat true,T++R++[x.t],U2++[x.t],by rw[w64 (by omega) (by omega)];omega,rfl,by omega,?_,hC2,⟨R++[x.t],by rw[Yz]⟩,fun y hy=>?_,by omega,fun y hy=>?_,hgrow hnb⟩
     ·rw[Ym];exact hs.drop 1
     ·rcases Yk.1 hy with hy | hy
      ·exact List.mem_append_left _ (hUT2 y hy)
      ·exact List.mem_append_right _ hy
     ·rcases Yk.1 hy with hy | hy
      ·rcases hd2 y hy with h1 | h1 | h1
       ·exact .inl (List.mem_append_left _ h1)
       ·exact .inr (.inl h1)
       ·exact .inr (.inr (h1.mono fun z hz=>List.mem_append_left _ hz))
      ·exact .inl (List.mem_append_right _ hy)
    ·have hzt:z=true:=bT cz;subst hzt;exact⟨_,(show m.mv.length-(j+1)<m.mv.length-j by omega),j+1,D,T++R,U2,by rw[w64 (by omega) (by omega)];omega,rfl,by omega,hs.drop 1,hC,⟨R,rfl⟩,hUT2,hcnt2,hd2,hstay fun hf=>⟨fun hb=>absurd hb hnb,fun _=>(hC.mem _).2 ⟨by omega,hz⟩⟩⟩
  ·refine⟨_,(show (m.n.toNat-(T++R).length)+U2.length<(m.n.toNat-T.length)+U.length by omega),D,T++R,U2,rfl,hs,hC,List.mem_append_left _ hsT,hUT2,by omega,fun y hy=>?_⟩;rcases hd2 y hy with h1 | rfl | h1
   ·exact .inl h1
   ·refine .inr fun x hx hf=>?_;obtain⟨k,hk⟩:=Yf.1 hx;exact hm2 k (by have:=(Ya.1 hk).1;omega) x hk hf
   ·exact .inr h1
 ·refine RP.f (exp_end hC hsT fun v hv=>(hd v hv).resolve_left fun hu=>?_) hs.ext;have:U=[]:=List.eq_nil_of_length_eq_zero (by omega);rw[this] at hu;cases hu
end Go.VC
end

section
namespace Go.VC
open Go.Proofs Go.LexS
def UnxI (L:List Mch) (S:List Int) (BL:List (List Int)) (i:Nat):Prop:=∃(b:Int) (l:List Int) (m:Mch) (s:Int),BL[i]?=some (b::l)/\L[i%L.length]?=some m/\S[i%L.length]?=some s/\¬ExpM m s ((i/L.length:Nat):Int) b
open Classical in
noncomputable def badS (L:List Mch) (k:Int) (S:List Int) (BL:List (List Int)):Int:=if ∃i,UnxI L S BL i then 1 else if ¬FinS L S BL/\stepsS L k S BL=[] then 2 else 0
theorem badS_1 {L:List Mch} {k:Int} {S:List Int} {BL:List (List Int)} {i:Nat} (h:UnxI L S BL i):badS L k S BL=1:=by
 unfold badS;rw[if_pos ⟨i,h⟩]
theorem badS_2 {L:List Mch} {k:Int} {S:List Int} {BL:List (List Int)} (h:¬∃i,UnxI L S BL i) (h1:¬FinS L S BL) (h2:stepsS L k S BL=[]):badS L k S BL=2:=by
 unfold badS;rw[if_neg h,if_pos ⟨h1,h2⟩]
theorem badS_0 {L:List Mch} {k:Int} {S:List Int} {BL:List (List Int)} (h:¬∃i,UnxI L S BL i) (h1:FinS L S BL\/stepsS L k S BL≠[]):badS L k S BL=0:=by
 unfold badS;rw[if_neg h,if_neg (fun hc=>h1.elim hc.1 fun h2=>h2 hc.2)]
theorem unx_none {L:List Mch} {S:List Int} {BL:List (List Int)} {n:Nat} (hn:n=BL.length) (hq:∀j<n,¬UnxI L S BL j):¬∃i,UnxI L S BL i:=by
 rintro⟨j,hu⟩;by_cases hj:j<n
 ·exact hq j hj hu
 ·obtain⟨b,l,m,s,hb,_⟩:=hu;have:=(Ya.1 hb).1;omega
theorem unx_iff {L:List Mch} {S:List Int} {BL:List (List Int)} {i:Nat} {q:List Int} {m:Mch} {s x:Int} (hb:BL[i]?=some q) (hm:L[i%L.length]?=some m) (hs:S[i%L.length]?=some s) (hx:q[0]?=some x):UnxI L S BL i ↔ ¬ExpM m s ((i/L.length:Nat):Int) x:=by
 cases q with
 | nil=>cases hx
 | cons a l=>
  have e:a=x:=Yyp hx;subst e;constructor
  ·rintro⟨b',l',m',s',h1,h2,h3,h4⟩;rw[hb] at h1;cases h1;rw[hm] at h2;cases h2;rw[hs] at h3;cases h3;exact h4
  ·exact fun h=>⟨a,l,m,s,hb,hm,hs,h⟩
set_option maxHeartbeats 3200000 in
theorem bad38 (L:List MR) (s:Sl) (k:Int) (ss sb:Sl) (S:List Int) (B:List Bx) (h:Heap) (hS:SyI h s L) (hC:CfI h ss sb S B) :
  Fn Pz 23 #[.slice s.a s.n s.c,.int .i64 k,.agg ⟨[.slice ss.a ss.n ss.c,.slice sb.a sb.n sb.c]⟩] h fun v h'=>Ext h h'/\∃(b e:Int),v=.tuple ⟨[.int .i64 b,.int .i64 e]⟩/\(ProS (L.map MR.m) k S (B.map Bx.l)->e=0/\b=badS (L.map MR.m) k S (B.map Bx.l))/\(¬ProS (L.map MR.m) k S (B.map Bx.l)->e=1/\b=0):=by
 apply vc23 s k ss sb;unfold W23;have hn:=hS.r.ln;have hbn:=hC.b.ln;have hsn:=hC.s.ln;have hlm:(L.map MR.m).length=s.n:=by rw[Yc,hn]
 have hbm:(B.map Bx.l).length=B.length:=Yc _;refine (St.refl h).newb fun h3 hs=>?_;refine⟨ss,sb,hs.at 0 rfl (o:=0) (n:=2) rfl,?_⟩;refine (proper24 L s k ss sb S B h3 (hS.ext hs.ext) (hC.ext hs.ext)).mono ?_;rintro _ h8 ⟨⟨b,rfl,hb⟩,E⟩;have hs:=hs.step E;refine⟨_,rfl,sB_intro (fun c=>?_) (fun c=>?_)⟩
 ·have hn:¬ProS (L.map MR.m) k S (B.map Bx.l):=fun hp=>by rw[hb.2 hp] at c;cases c
  exact⟨hs.ext,0,1,rfl,fun hp=>absurd hp hn,fun _=>⟨rfl,rfl⟩⟩
 have hp:=hb.1 (bT c);have hV6:=hp.v.n;rw[hlm] at hV6;have hSl:S.length=L.length:=by rw[hp.p.s,hlm,hn]
 have hBl:B.length=L.length*L.length:=by rw[<-hbm,hp.p.b,hlm,hn]
 have h36:=sq6 hV6.2;have hB36:B.length=s.n*s.n:=by rw[hBl,hn]
 refine⟨sb,hs.rd 0 rfl (i:=1) rfl,?_⟩;refine up_loopS (n:=sb.n) hs (fun i=>∀j<i,¬UnxI (L.map MR.m) S (B.map Bx.l) j) (fun j hj=>by omega) ?_;rintro-i h14 hi ⟨hs,hq⟩;refine sB_intro (fun c1=>?_) (fun c1=>?_)
 ·replace c1:=lt_t c1;obtain⟨q,gq⟩:=get_some (l:=B) (i:=i) (by omega);have gq1:(B.map Bx.l)[i]?=some q.l:=by rw[Yd,gq];rfl
  have hqi:=hC.i q (Yb gq);have hqn:=hqi.ln;refine (hC.b.rw.ext hs.ext).nbI (by omega) (by omega) fun b15 o16 q' gq' t=>?_;replace gq':B[i]?=some q':=gq';rw[gq] at gq';cases gq';refine⟨q.s,t.hd,sBi (fun c2=>?_) (fun c2=>?_)⟩
  ·have hmod:i%s.n<s.n:=Nat.mod_lt _ (by omega);have em:Int.tmod (i:Int) (s.n:Int)=((i%s.n:Nat):Int):=rfl;have hdl:i/s.n<=i:=Nat.div_le_self _ _;have ed:IntKind.wrap .i64 (Int.tdiv (i:Int) (s.n:Int))=((i/s.n:Nat):Int):=by rw[tdiv_nat,w64 (Int.le_trans (by decide) (Int.natCast_nonneg _)) (Int.le_trans (Int.ofNat_le.2 hdl) (by omega))]
   rw[em,ed];refine⟨by omega,?_⟩;refine (hS.r.rw.ext hs.ext).nbI (by omega) (by omega) fun b18 o19 y gy t2=>?_;rw[Ys] at gy;replace gy:L[i%s.n]?=some y:=gy;have gm:(L.map MR.m)[i%s.n]?=some y.m:=by rw[Yd,gy];rfl
   have hyi:=hS.i y (Yb gy);have hvm:=hp.v.m _ y.m gm;refine⟨_,_,_,_,_,_,t2,ss,hs.rd 0 rfl (i:=0) rfl,by omega,?_⟩;refine (hC.s.rw.ext hs.ext).nbI (by omega) (by omega) fun b27 o28 z gz t3=>?_;rw[Ys] at gz;replace gz:S[i%s.n]?=some z:=gz;refine⟨z,t3.hd,by omega,?_⟩;refine (hqi.rw.ext hs.ext).nbI (by decide) (by omega) fun b30 o31 x gx t4=>?_;replace gx:q.l[0]?=some x:=gx;refine⟨x,t4.hd,?_⟩;refine (expected69 y.m y.f y.g y.l z _ x h14 (hyi.ext hs.ext) hvm.2.1.n (hp.p.st _ z y.m gz gm)).mono ?_;rintro _ h35 ⟨⟨b3,rfl,hb3⟩,E⟩;have hs:=hs.step E;have hui:=unx_iff (L:=L.map MR.m) (S:=S) gq1 (by rw[hlm];exact gm) (by rw[hlm];exact gz) gx;rw[hlm] at hui;refine⟨b3,rfl,sB_intro (fun c3=>?_) (fun c3=>?_)⟩
   ·have hu:=hui.2 fun he=>iff_f hb3 (bF c3) he;exact⟨hs.ext,1,0,rfl,fun _=>⟨rfl,(badS_1 hu).symm⟩,fun hn=>absurd hp hn⟩
   ·refine Up.next (by omega) (by omega) ⟨hs,fun j hj=>?_⟩;by_cases e:j=i
    ·subst e;exact fun hu=>hui.1 hu (hb3.1 (bT c3))
    ·exact hq j (by omega)
  ·refine Up.next (by omega) (by omega) ⟨hs,fun j hj=>?_⟩;by_cases e:j=i
   ·subst e;rintro⟨b',l',m',s',h1,-⟩;rw[gq1] at h1;have h2:=congrArg List.length (Yyp h1);rw[Yyj] at h2;omega
   ·exact hq j (by omega)
 ·replace c1:=lt_f c1;have hno:=unx_none (show sb.n=(B.map Bx.l).length by omega) fun j hj=>hq j (by omega);refine⟨ss,sb,hs.at 0 rfl (o:=0) (n:=2) rfl,?_⟩;refine (final67 L s k ss sb S B h14 (hS.ext hs.ext) (hC.ext hs.ext) hp).mono ?_;rintro _ h42 ⟨⟨b2,rfl,hb2⟩,E⟩;have hs:=hs.step E;refine⟨b2,rfl,sB_intro (fun c3=>?_) (fun c3=>?_)⟩
  ·have hnf:¬FinS (L.map MR.m) S (B.map Bx.l):=fun hf=>iff_f hb2 (bF c3) hf;refine⟨ss,sb,hs.at 0 rfl (o:=0) (n:=2) rfl,?_⟩;refine (steps47 L s k ss sb S B h42 (hS.ext hs.ext) hp.v (hC.ext hs.ext) hSl hBl).mono ?_;rintro _ h47 ⟨E,r,rfl,hr⟩;have hrn:=hr.ln;refine⟨r,rfl,sBe (fun c4=>?_) (fun c4=>?_)⟩
   ·exact⟨hs.ext.trans E,2,0,rfl,fun _=>⟨rfl,(badS_2 hno hnf (List.eq_nil_of_length_eq_zero (by omega))).symm⟩,fun hn=>absurd hp hn⟩
   ·exact⟨hs.ext.trans E,0,0,rfl,fun _=>⟨rfl,(badS_0 hno (.inr fun he=>c4 (by rw[hrn,he];rfl))).symm⟩,fun hn=>absurd hp hn⟩
  ·exact⟨hs.ext,0,0,rfl,fun _=>⟨rfl,(badS_0 hno (.inl (hb2.1 (bT c3)))).symm⟩,fun hn=>absurd hp hn⟩
set_option maxHeartbeats 3200000 in
theorem kind70 (L:List MR) (s:Sl) (k:Int) (ss sb:Sl) (S:List Int) (B:List Bx) (h:Heap) (hS:SyI h s L) (hC:CfI h ss sb S B) (hp:ProS (L.map MR.m) k S (B.map Bx.l)) :
  Fn Pz 41 #[.slice s.a s.n s.c,.int .i64 k,.agg ⟨[.slice ss.a ss.n ss.c,.slice sb.a sb.n sb.c]⟩] h fun v h'=>Ext h h'/\v=.int .i64 (badS (L.map MR.m) k S (B.map Bx.l)):=by
 apply vc41 s k ss sb;unfold W41;have hn:=hS.r.ln;have hbn:=hC.b.ln;have hsn:=hC.s.ln;have hlm:(L.map MR.m).length=s.n:=by rw[Yc,hn]
 have hbm:(B.map Bx.l).length=B.length:=Yc _;have hV6:=hp.v.n;rw[hlm] at hV6;have hSl:S.length=L.length:=by rw[hp.p.s,hlm,hn]
 have hBl:B.length=L.length*L.length:=by rw[<-hbm,hp.p.b,hlm,hn]
 have h36:=sq6 hV6.2;have hB36:B.length=s.n*s.n:=by rw[hBl,hn]
 refine (St.refl h).newb fun h3 hs=>?_;refine up_loopS (n:=sb.n) hs (fun i=>∀j<i,¬UnxI (L.map MR.m) S (B.map Bx.l) j) (fun j hj=>by omega) ?_;rintro-i h8 hi ⟨hs,hq⟩;refine⟨sb,hs.rd 0 rfl (i:=1) rfl,sB_intro (fun c1=>?_) (fun c1=>?_)⟩
 ·replace c1:=lt_t c1;obtain⟨q,gq⟩:=get_some (l:=B) (i:=i) (by omega);have gq1:(B.map Bx.l)[i]?=some q.l:=by rw[Yd,gq];rfl
  have hqi:=hC.i q (Yb gq);have hqn:=hqi.ln;refine⟨by omega,by omega,sb,hs.rd 0 rfl (i:=1) rfl,?_⟩;refine (hC.b.rw.ext hs.ext).nbI (by omega) (by omega) fun b11 o12 q' gq' t=>?_;replace gq':B[i]?=some q':=gq';rw[gq] at gq';cases gq';refine⟨q.s,t.hd,sBi (fun c2=>?_) (fun c2=>?_)⟩
  ·have hmod:i%s.n<s.n:=Nat.mod_lt _ (by omega);have em:Int.tmod (i:Int) (s.n:Int)=((i%s.n:Nat):Int):=rfl;have hdl:i/s.n<=i:=Nat.div_le_self _ _;have ed:IntKind.wrap .i64 (Int.tdiv (i:Int) (s.n:Int))=((i/s.n:Nat):Int):=by rw[tdiv_nat,w64 (Int.le_trans (by decide) (Int.natCast_nonneg _)) (Int.le_trans (Int.ofNat_le.2 hdl) (by omega))]
   rw[em,ed];refine (hS.r.rw.ext hs.ext).nbI (by omega) (by omega) fun b18 o19 y gy t2=>?_;rw[Ys] at gy;replace gy:L[i%s.n]?=some y:=gy;have gm:(L.map MR.m)[i%s.n]?=some y.m:=by rw[Yd,gy];rfl
   have hyi:=hS.i y (Yb gy);have hvm:=hp.v.m _ y.m gm;refine⟨_,_,_,_,_,_,t2,ss,hs.rd 0 rfl (i:=0) rfl,?_⟩;refine (hC.s.rw.ext hs.ext).nbI (by omega) (by omega) fun b27 o28 z gz t3=>?_;rw[Ys] at gz;replace gz:S[i%s.n]?=some z:=gz;refine⟨z,t3.hd,sb,hs.rd 0 rfl (i:=1) rfl,?_⟩;refine (hC.b.rw.ext hs.ext).nbI (by omega) (by omega) fun b29 o29 q' gq' t5=>?_;replace gq':B[i]?=some q':=gq';rw[gq] at gq';cases gq';refine⟨q.s,t5.hd,?_⟩;refine (hqi.rw.ext hs.ext).nbI (by decide) (by omega) fun b30 o31 x gx t4=>?_;replace gx:q.l[0]?=some x:=gx;refine⟨x,t4.hd,?_⟩;refine (awaited95 y.m y.f y.g y.l z _ x h8 (hyi.ext hs.ext) hvm.2.1.n (hp.p.st _ z y.m gz gm)).mono ?_;rintro _ h35 ⟨⟨b3,rfl,hb3⟩,E⟩;have hs:=hs.step E;have hui:=unx_iff (L:=L.map MR.m) (S:=S) gq1 (by rw[hlm];exact gm) (by rw[hlm];exact gz) gx;rw[hlm] at hui;refine⟨b3,rfl,E.sm,sB_intro (fun c3=>?_) (fun c3=>?_)⟩
   ·have hu:=hui.2 fun he=>iff_f hb3 (bF c3) he;exact⟨hs.ext,by rw[badS_1 hu]⟩
   ·refine Up.next (by omega) (by omega) ⟨hs,fun j hj=>?_⟩;by_cases e:j=i
    ·subst e;exact fun hu=>hui.1 hu (hb3.1 (bT c3))
    ·exact hq j (by omega)
  ·refine Up.next (by omega) (by omega) ⟨hs,fun j hj=>?_⟩;by_cases e:j=i
   ·subst e;rintro⟨b',l',m',s',h1,-⟩;rw[gq1] at h1;have h2:=congrArg List.length (Yyp h1);rw[Yyj] at h2;omega
   ·exact hq j (by omega)
 ·replace c1:=lt_f c1;have hno:=unx_none (show sb.n=(B.map Bx.l).length by omega) fun j hj=>hq j (by omega);refine⟨ss,sb,hs.at 0 rfl (o:=0) (n:=2) rfl,?_⟩;refine (refAll48 L s k ss sb S B h8 (hS.ext hs.ext) hp.v (hC.ext hs.ext) hSl hBl).mono ?_;rintro _ h42 ⟨E,r,rfl,hr⟩;have hs:=hs.step E;have hrn:=hr.ln;refine⟨r,rfl,sBe (fun c4=>?_) (fun c4=>?_)⟩
  ·have he:stepsS (L.map MR.m) k S (B.map Bx.l)=[]:=List.eq_nil_of_length_eq_zero (by omega);refine⟨ss,sb,hs.at 0 rfl (o:=0) (n:=2) rfl,?_⟩;refine (done68 L s k ss sb S B h42 (hS.ext hs.ext) (hC.ext hs.ext) hp).mono ?_;rintro _ h47 ⟨⟨b2,rfl,hb2⟩,E⟩;have hs:=hs.step E;refine⟨b2,rfl,sB_intro (fun c3=>?_) (fun c3=>?_)⟩
   ·have hnf:¬FinS (L.map MR.m) S (B.map Bx.l):=fun hf=>iff_f hb2 (bF c3) hf;exact⟨hs.ext,by rw[badS_2 hno hnf he]⟩
   ·exact⟨hs.ext,by rw[badS_0 hno (.inl (hb2.1 (bT c3)))]⟩
  ·exact⟨hs.ext,by rw[badS_0 hno (.inr fun he=>c4 (by rw[hrn,he];rfl))]⟩
end Go.VC
end

section
namespace Go.VC
open Go.Proofs Go.LexS
set_option maxHeartbeats 3200000 in
theorem bad35 (L:List MR) (s:Sl) (k:Int) (eb wb:Nat) (ss sb:Sl) (S:List Int) (B:List Bx) (nz:Bool) (K:List (Wt × Bool)) (osl:Sl) (os:Nat->Sl) (qs:Nat->Nat->Sl) {h0 h:Heap} {A:List It} (hs:St h0 h (.mp wb (K.map wtC)::A)) (hS:SyI h0 s L)
  (hE:Sta A fun h=>EngX h eb wb s k L osl os qs) (hC:CfN A ss sb S B) (hP:ProS (L.map MR.m) k S (B.map Bx.l)) (hK:WtOk L K) (hnz:nz=true ↔ stepsS (L.map MR.m) k S (B.map Bx.l)≠[]) :
  Fn Pz 35 #[.pointer (some ⟨eb,0,none⟩),.agg ⟨[.slice ss.a ss.n ss.c,.slice sb.a sb.n sb.c]⟩,.bool nz] h fun v h'=>∃K':List (Wt × Bool),v=.int .i64 (badS (L.map MR.m) k S (B.map Bx.l))/\WtOk L K'/\St h0 h' (.mp wb (K'.map wtC)::A):=by
 apply vc35 ⟨eb,0,none⟩ ss sb nz;unfold W35;have hn:=hS.r.ln;have hlm:(L.map MR.m).length=s.n:=by rw[Yc,hn]
 have hbm:(B.map Bx.l).length=B.length:=Yc _;have hV6:=hP.v.n;rw[hlm] at hV6;have hSl:S.length=s.n:=by rw[hP.p.s,hlm]
 have hBl:B.length=s.n*s.n:=by rw[<-hbm,hP.p.b,hlm]
 have h36:=sq6 hV6.2;refine hs.newb fun h3 hs=>?_;have hsn:=((hC.at hs mem2).s).ln;have hbn:=((hC.at hs mem2).b).ln;refine⟨s,(hE.at hs mem2).e.hd,sb,hs.rd 0 rfl (i:=1) rfl,?_⟩;refine⟨fun x h' μ=>∃(i:Nat) (K':List (Wt × Bool)),x=(i:Int)/\μ=sb.n-i/\i<=sb.n/\St h0 h' (.blk h.size [.slice ss.a ss.n ss.c,.slice sb.a sb.n sb.c] 50 :: .mp wb (K'.map wtC)::A)/\WtOk L K'/\∀j<i,¬UnxI (L.map MR.m) S (B.map Bx.l) j,⟨_,0,K,rfl,rfl,Nat.zero_le _,hs,hK,fun j hj=>by omega⟩,?_⟩;clear hs hK;rintro-_ h10 μ ⟨i,K',rfl,rfl,hi,hs,hK,hq⟩;have hCc:=hC.at hs mem2;refine sBi (fun c1=>?_) (fun c1=>?_)
 ·obtain⟨q,gq⟩:=get_some (l:=B) (i:=i) (by omega);have gq1:(B.map Bx.l)[i]?=some q.l:=by rw[Yd,gq];rfl
  have hqi:=hCc.i q (Yb gq);have hqn:=hqi.ln;refine hCc.b.rw.nbI (by omega) (by omega) fun b11 o12 q' gq' t=>?_;rw[Ys,gq] at gq';cases gq';refine⟨q.s,t.hd,sBi (fun c2=>?_) (fun c2=>?_)⟩
  ·have hmod:i%s.n<s.n:=Nat.mod_lt _ (by omega);have em:Int.tmod (i:Int) (s.n:Int)=((i%s.n:Nat):Int):=rfl;have hdl:i/s.n<=i:=Nat.div_le_self _ _;have hd0:(-9223372036854775808:Int)<=((i/s.n:Nat):Int):=Int.le_trans (by decide) (Int.natCast_nonneg _);have hd1:((i/s.n:Nat):Int)<=9223372036854775807:=Int.le_trans (Int.ofNat_le.2 hdl) (by omega);have ed:IntKind.wrap .i64 (Int.tdiv (i:Int) (s.n:Int))=((i/s.n:Nat):Int):=by rw[tdiv_nat,w64 hd0 hd1]
   rw[em,ed];obtain⟨y,gy⟩:=get_some (l:=L) (i:=i%s.n) (by omega);have gm:(L.map MR.m)[i%s.n]?=some y.m:=by rw[Yd,gy];rfl
   refine⟨by omega,ss,hs.rd 0 rfl (i:=0) rfl,by omega,?_⟩;refine hCc.s.rw.nbI (by omega) (by omega) fun b15 o16 z gz t3=>?_;rw[Ys] at gz;replace gz:S[i%s.n]?=some z:=gz;refine⟨z,t3.hd,by omega,?_⟩;refine hqi.rw.nbI (by decide) (by omega) fun b18 o19 x gx t4=>?_;replace gx:q.l[0]?=some x:=gx;have hxr:=((hP.p.bx i q.l gq1).2.2 x (Yb gx));refine⟨x,t4.hd,?_⟩;refine (expected70 L s k eb wb (i%s.n) y z _ x K' osl os qs (hs.perm (List.Perm.swap _ _ _)) hS hP.v (hE.mono mem1) hK gy (hP.p.st _ z y.m gz gm) (show inR ((i/s.n:Nat):Int) from ⟨hd0,hd1⟩) (show inR x from ⟨by omega,by omega⟩)).mono ?_;rintro _ h23 ⟨b3,K2,rfl,hb3,hK2,hs2⟩;have hs:=hs2.perm (List.Perm.swap _ _ _);have hui:=unx_iff (L:=L.map MR.m) (S:=S) gq1 (by rw[hlm];exact gm) (by rw[hlm];exact gz) gx;rw[hlm] at hui;refine⟨b3,rfl,sB_intro (fun c3=>?_) (fun c3=>?_)⟩
   ·have hu:=hui.2 fun he=>iff_f hb3 (bF c3) he;exact⟨K2,by rw[badS_1 hu],hK2,hs.drop 1⟩
   ·refine⟨_,(show sb.n-(i+1)<sb.n-i by omega),i+1,K2,by rw[w64 (by omega) (by omega)];omega,rfl,by omega,hs,hK2,fun j hj=>?_⟩;by_cases e:j=i
    ·subst e;exact fun hu=>hui.1 hu (hb3.1 (bT c3))
    ·exact hq j (by omega)
  ·refine⟨_,(show sb.n-(i+1)<sb.n-i by omega),i+1,K',by rw[w64 (by omega) (by omega)];omega,rfl,by omega,hs,hK,fun j hj=>?_⟩;by_cases e:j=i
   ·subst e;rintro⟨b',l',m',s',h1,-⟩;rw[gq1] at h1;have h2:=congrArg List.length (Yyp h1);rw[Yyj] at h2;omega
   ·exact hq j (by omega)
 ·have hno:=unx_none (show sb.n=(B.map Bx.l).length by omega) fun j hj=>hq j (by omega);refine sB_intro (fun c2=>?_) (fun c2=>?_)
  ·have hnn:stepsS (L.map MR.m) k S (B.map Bx.l)=[]:=Classical.byContradiction fun h=>by have:=hnz.2 h;rw[this] at c2;cases c2
   refine⟨ss,sb,hs.at 0 rfl (o:=0) (n:=2) rfl,?_⟩;refine (final71 L s k eb ss sb S B h10 (hS.ext hs.ext) (hE.at hs mem2).r hCc hP).mono ?_;rintro _ h30 ⟨⟨b2,rfl,hb2⟩,E⟩;have hs:=hs.step E;refine⟨b2,rfl,sB_intro (fun c3=>?_) (fun c3=>?_)⟩
   ·exact⟨K',by rw[badS_2 hno (fun hf=>iff_f hb2 (bF c3) hf) hnn],hK,hs.drop 1⟩
   ·exact⟨K',by rw[badS_0 hno (.inl (hb2.1 (bT c3)))],hK,hs.drop 1⟩
  ·exact⟨K',by rw[badS_0 hno (.inr (hnz.1 (bT c2)))],hK,hs.drop 1⟩
set_option maxHeartbeats 1600000 in
theorem reverse72 (X:List (Nat × Nat)) (s:Sl) {h0 h:Heap} {A:List It} (hs:St h0 h (.sl s 48 2 (X.map stpC)::A)) (hl:X.length<=1048576) :
  Fn Pz 72 #[.slice s.a s.n s.c] h fun v h'=>v=.tuple ⟨[]⟩/\St h0 h' (.sl s 48 2 (X.reverse.map stpC)::A):=by
 apply vc72 s;unfold W72;have hn:=(hs.rows 0 (s:=s) (cs:=stpC) rfl (by omega)).ln;refine⟨fun i j h' μ=>∃(a:Nat) (Y:List (Nat × Nat)),i=(a:Int)/\j=(s.n:Int)-1-(a:Int)/\μ=s.n-a/\2*a<=s.n/\Y.length=X.length/\(∀t,t<s.n->Y[t]?=if t<a\/s.n-a<=t then X[s.n-1-t]? else X[t]?)/\St h0 h' (.sl s 48 2 (Y.map stpC)::A),⟨_,0,X,rfl,by rw[w64 (by omega) (by omega)];omega,rfl,by omega,rfl,fun t ht=>by rw[if_neg (by omega)],hs⟩,?_⟩;clear hs;rintro-_ _ h6 μ ⟨a,Y,rfl,rfl,rfl,ha,hY,hq,hs⟩;refine sBi (fun c=>?_) (fun c=>?_)
 ·have ej:(s.n:Int)-1-(a:Int)=((s.n-1-a:Nat):Int):=by omega
  rw[ej];obtain⟨b,hb⟩:∃b,b=s.n-1-a:=⟨_,rfl⟩;rw[<-hb];obtain⟨x,gx⟩:=get_some (l:=Y) (i:=b) (by omega);obtain⟨y,gy⟩:=get_some (l:=Y) (i:=a) (by omega);refine (hs.rows 0 (s:=s) (cs:=stpC) rfl (by omega)).nbI (by omega) (by omega) fun b7 o8 x' gx' t=>?_;rw[Ys,gx] at gx';cases gx';refine⟨(x.1:Int),(x.2:Int),t,?_⟩;refine (hs.rows 0 (s:=s) (cs:=stpC) rfl (by omega)).nbI (by omega) (by omega) fun b11 o12 y' gy' t2=>?_;rw[Ys,gy] at gy';cases gy';refine⟨(y.1:Int),(y.2:Int),t2,?_⟩;refine hs.set 0 (s:=s) (cs:=stpC) (x:=(a:Int)) rfl (by omega) (by omega) (by omega) x rfl rfl (fun b15 o16 h17 hs=>?_) rfl;rw[Ys] at hs;refine hs.set 0 (s:=s) (cs:=stpC) (x:=(b:Int)) rfl (by omega) (by omega) (by omega) y rfl rfl (fun b18 o19 h20 hs=>?_) rfl;rw[Ys] at hs;refine⟨_,(show s.n-(a+1)<s.n-a by omega),a+1,(Y.set a x).set b y,by rw[w64 (by omega) (by omega)];omega,by rw[w64 (by omega) (by omega)];omega,rfl,by omega,by rw[Yyh,Yyh,hY],fun w ht=>?_,hs⟩;have hab:a<b:=by omega
  have h1:=hq a (by omega);have h2:=hq b (by omega);rw[gy,if_neg (by omega)] at h1;rw[gx,if_neg (by omega)] at h2;by_cases e1:w=b
  ·rw[e1,Yq (by rw[Yyh];omega),if_pos (by omega),show s.n-1-b=a by omega];exact h1
  ·rw[Yy (Ne.symm e1)];by_cases e2:w=a
   ·rw[e2,Yq (by omega),if_pos (by omega),show s.n-1-a=b by omega];exact h2
   ·rw[Yy (Ne.symm e2),hq w ht];by_cases e3:w<a\/s.n-a<=w
    ·rw[if_pos e3,if_pos (by omega)]
    ·rw[if_neg e3,if_neg (by omega)]
 ·have hYX:Y=X.reverse:=by
   refine Yyr fun t=>?_;by_cases ht:t<s.n
   ·rw[List.getElem?_reverse (by omega),hq t ht,<-hn];by_cases e3:t<a\/s.n-a<=t
    ·rw[if_pos e3]
    ·rw[if_neg e3,show s.n-1-t=t by omega]
   ·rw[Yl (by omega),Yl (by rw[List.length_reverse];omega)]
  rw[hYX] at hs;exact⟨rfl,hs⟩
structure Vs where
 c1:Sl
 c2:Sl
 S:List Int
 B:List Bx
 ah:Int
 a:Nat
 b:Nat
 tr:List (Nat × Nat)
def Vs.cs (v:Vs):List Value:=[.slice v.c1.a v.c1.n v.c1.c,.slice v.c2.a v.c2.n v.c2.c,.int .i64 v.ah,.int .i64 (v.a:Int),.int .i64 (v.b:Int)]
def TrOk (V:List Vs):Prop:=∀(j:Nat) (v:Vs),V[j]?=some v->v.tr.length<=j/\((v.ah=-1/\v.tr=[])\/∃(p:Nat) (u:Vs),p<j/\V[p]?=some u/\v.ah=(p:Int)/\v.tr=u.tr++[(v.a,v.b)])
set_option maxHeartbeats 1600000 in
theorem trace36 (V:List Vs) (s:Sl) (i:Nat) (v0:Vs) (h:Heap) (hr:Rw h 5 s (V.map Vs.cs)) (hl:V.length<=1048576) (g0:V[i]?=some v0) (hT:TrOk V) :
  Fn Pz 36 #[.slice s.a s.n s.c,.int .i64 (i:Int)] h fun v h'=>∃r:Sl,v=.slice r.a r.n r.c/\St h h' [.sl r 48 2 (v0.tr.map stpC)]:=by
 apply vc36 s (i:Int);unfold W36;have hn:=hr.ln;have h0l:=(hT i v0 g0).1;have hil:=(Ya.1 g0).1;have hs:=(St.refl h).nil_ 48 2;refine⟨fun x out h' μ=>∃(j:Nat) (u:Vs) (O:List (Nat × Nat)),x=(j:Int)/\μ=j/\V[j]?=some u/\u.tr++O.reverse=v0.tr/\St h h' [.sl out 48 2 (O.map stpC)],⟨_,i,v0,[],rfl,rfl,g0,by simp,hs⟩,?_⟩;clear hs;rintro-_ out h6 μ ⟨j,u,O,rfl,hμ,gu,ho,hs⟩;have hjl:=(Ya.1 gu).1;have hol:O.length<=V.length:=by
  have:=congrArg List.length ho;rw[Yh,List.length_reverse] at this;omega
 have hon:=(hs.rows 0 (s:=out) (cs:=stpC) rfl (by omega)).ln;have rd:∀ {h':Heap} {F:Nat->Nat->Prop},Ext h h'->(∀b o,atC h' ⟨b,o+Int.toNat (j:Int)*5,none⟩ u.cs->F b o)->NB s.a fun b o=>(0<=(j:Int)/\(j:Int)<(s.n:Nat))/\F b o:=fun E hF=>
  (hr.ext E).nbI (by omega) (by omega) fun b o u' gu' t=>by
   rw[Ys,gu] at gu';cases gu';exact hF b o t
 refine rd hs.ext fun b7 o8 t=>?_;refine⟨u.ah,t.nth 2 rfl,sBi (fun c=>?_) (fun c=>?_)⟩
 ·rcases (hT j u gu).2 with ⟨e1,_⟩ | ⟨p,w,hp,gw,e1,e2⟩
  ·omega
  ·refine rd hs.ext fun b10 o11 t=>?_;refine⟨(u.a:Int),(u.b:Int),t.sub 3 2 rfl,?_⟩;refine hs.app 0 (s:=out) (n:=2) (rows:=O.map stpC) rfl app30e (m:=1) [stpC (u.a,u.b)] rfl rfl (by simp[stpC,stC]) rfl (by omega) (by simp only[maxLen];omega) fun r h16 nr hs=>?_;refine rd hs.ext fun b17 o18 t=>?_;refine⟨u.ah,t.nth 2 rfl,p,by omega,p,w,O++[(u.a,u.b)],e1,rfl,gw,?_,by rw[Ym];exact hs⟩;rw[<-ho,e2,List.reverse_append,Yz];rfl
 ·rcases (hT j u gu).2 with ⟨e1,e2⟩ | ⟨p,w,hp,gw,e1,e2⟩
  ·refine (reverse72 O out hs (by omega)).mono ?_;rintro _ h22 ⟨rfl,hs⟩;rw[e2,List.nil_append] at ho;rw[ho] at hs;exact⟨rfl,out,rfl,hs⟩
  ·omega
set_option maxHeartbeats 3200000 in
theorem clone38 (ss sb:Sl) (S:List Int) (B:List Bx) (h:Heap) (hC:CfI h ss sb S B) :
  Fn Pz 38 #[.agg ⟨[.slice ss.a ss.n ss.c,.slice sb.a sb.n sb.c]⟩] h (CloV S B h):=by
 apply vc38 ss sb;unfold W38 V38b V38a;have hbn:=hC.b.ln;have hbs:=hC.b.sm;refine (St.refl h).newb fun h3 hs=>?_;refine hs.newb fun h4 hs=>?_;refine⟨ss,hs.rd 1 rfl (i:=0) rfl,sb,hs.rd 1 rfl (i:=1) rfl,?_⟩;rw[Ys];have hc:((0:Int)<=(sb.n:Int)/\((sb.n:Int):Int)<=(sb.n:Int)/\((24:Nat):Int)*(sb.n:Int)<=140737488355328):=⟨by omega,by omega,by omega⟩;have mk:∀ {hX:Heap} {b:Nat} {L:List It},St h hX (.blk b (madeL Pz 25 sb.n) 25::L)->St h hX (.sl ⟨some ⟨b,0,none⟩,sb.n,sb.n⟩ 25 1 ((List.replicate B.length bx0).map Bx.cs)::L):=fun hs=>
  hs.blkS sb.n 1 _ (by rw[hbn];exact boxes0 _) (bxrows _) (by rw[Yc,Yg,hbn]) (by simp only[maxLen];omega)
 refine And.intro ?_ (And.intro ?_ ?_)
 ·refine (clone92 S ss h4 (hC.s.ext hs.ext)).mono ?_;rintro _ h9 ⟨ts,rfl,hs2⟩;have hs:=hs.join hs2;refine⟨ts,rfl,hs2.ext.sm,And.intro ?_ ?_⟩
  ·refine⟨hc,hs.newbE fun h10 E10 hs=>⟨E10.sm,?_⟩⟩;have hs:=mk hs;refine hs.newbE fun h11 E11 hs=>⟨E11.sm,?_⟩;refine hs.put 0 rfl (o:=0) (vs:=[.slice ts.a ts.n ts.c,.slice (some ⟨h9.size,0,none⟩) sb.n sb.n]) rfl (show 2<=2 by decide) fun h12 hs=>?_;exact cloneB _ _ _ ss sb ts ⟨some ⟨h9.size,0,none⟩,sb.n,sb.n⟩ ⟨none,0,0⟩ ⟨none,0,0⟩ S B h h12 hC hs
  ·refine hs.newbE fun h10 E10 hs=>⟨E10.sm,hc,?_⟩;refine hs.newbE fun h11 E11 hs=>⟨E11.sm,?_⟩;have hs:=mk hs;refine hs.put 1 rfl (o:=0) (vs:=[.slice ts.a ts.n ts.c,.slice (some ⟨h10.size,0,none⟩) sb.n sb.n]) rfl (show 2<=2 by decide) fun h12 hs=>?_;exact cloneB _ _ _ ss sb ts ⟨some ⟨h10.size,0,none⟩,sb.n,sb.n⟩ ⟨none,0,0⟩ ⟨none,0,0⟩ S B h h12 hC (hs.perm (List.Perm.swap _ _ _))
 ·refine⟨hc,hs.newbE fun h10 E10 hs=>⟨E10.sm,?_⟩⟩;have hs:=mk hs;refine And.intro ?_ ?_;refine (clone92 S ss h10 (hC.s.ext hs.ext)).mono ?_;rintro _ h9 ⟨ts,rfl,hs2⟩;have hs:=hs.join hs2;refine⟨ts,rfl,hs2.ext.sm,?_⟩;refine hs.newbE fun h11 E11 hs=>⟨E11.sm,?_⟩;rotate_left;refine hs.newbE fun h11 E11 hs=>⟨E11.sm,?_⟩;refine (clone92 S ss h11 (hC.s.ext hs.ext)).mono ?_;rintro _ h9 ⟨ts,rfl,hs2⟩;have hs:=hs.join hs2;refine⟨ts,rfl,hs2.ext.sm,?_⟩;all_goals
   refine hs.put 0 rfl (o:=0) (vs:=[.slice ts.a ts.n ts.c,.slice (some ⟨h4.size,0,none⟩) sb.n sb.n]) rfl (show 2<=2 by decide) fun h12 hs=>?_;exact cloneB _ _ _ ss sb ts ⟨some ⟨h4.size,0,none⟩,sb.n,sb.n⟩ ⟨none,0,0⟩ ⟨none,0,0⟩ S B h h12 hC hs
 ·refine hs.newbE fun h10 E10 hs=>⟨E10.sm,And.intro ?_ ?_⟩
  ·refine (clone92 S ss h10 (hC.s.ext hs.ext)).mono ?_;rintro _ h9 ⟨ts,rfl,hs2⟩;have hs:=hs.join hs2;refine⟨ts,rfl,hs2.ext.sm,hc,?_⟩;refine hs.newbE fun h11 E11 hs=>⟨E11.sm,?_⟩;have hs:=mk hs;refine hs.put 1 rfl (o:=0) (vs:=[.slice ts.a ts.n ts.c,.slice (some ⟨h9.size,0,none⟩) sb.n sb.n]) rfl (show 2<=2 by decide) fun h12 hs=>?_;exact cloneB _ _ _ ss sb ts ⟨some ⟨h9.size,0,none⟩,sb.n,sb.n⟩ ⟨none,0,0⟩ ⟨none,0,0⟩ S B h h12 hC (hs.perm (List.Perm.swap _ _ _))
  ·refine⟨hc,hs.newbE fun h11 E11 hs=>⟨E11.sm,?_⟩⟩;have hs:=mk hs;refine (clone92 S ss h11 (hC.s.ext hs.ext)).mono ?_;rintro _ h9 ⟨ts,rfl,hs2⟩;have hs:=hs.join hs2;refine⟨ts,rfl,hs2.ext.sm,?_⟩;refine hs.put 1 rfl (o:=0) (vs:=[.slice ts.a ts.n ts.c,.slice (some ⟨h10.size,0,none⟩) sb.n sb.n]) rfl (show 2<=2 by decide) fun h12 hs=>?_;exact cloneB _ _ _ ss sb ts ⟨some ⟨h10.size,0,none⟩,sb.n,sb.n⟩ ⟨none,0,0⟩ ⟨none,0,0⟩ S B h h12 hC (hs.perm (List.Perm.swap _ _ _))
end Go.VC
end

section
namespace Go.VC
open Go.Proofs
variable [Mono]
namespace M

def W65 (p0 p1:Int) (c0:Addr) (h:Heap) (R:Value->Heap->Prop):Prop:=
 ∃x1,rS h ⟨c0.block,c0.off+4,none⟩ x1 /\
 NB x1.a fun b2 o3=>Ib p0 x1.n /\
 ∃x4 x5 x6 x7 x8 x9,aL0 h ⟨b2,o3+Int.toNat p0*6,none⟩ x4 x5 x6 x7 x8 x9 /\
 ∃x10,rS h ⟨c0.block,c0.off+4,none⟩ x10 /\
 NB x10.a fun b11 o12=>Ib p1 x10.n /\
 ∃x13 x14 x15 x16 x17 x18,aL0 h ⟨b11,o12+Int.toNat p1*6,none⟩ x13 x14 x15 x16 x17 x18 /\
 Fn Pz 66 #[.agg ⟨(L0 x4 x5 x6 x7 x8 x9)⟩,.agg ⟨(L0 x13 x14 x15 x16 x17 x18)⟩] h
 (fun v19 h21=>∃x20,iI v19 x20 /\
 R (vI x20) h21)
theorem vc65 (p0 p1:Int) (c0:Addr) (h:Heap) (R:Value->Heap->Prop) (H:W65 p0 p1 c0 h R):Fn Pz 65 #[vI p0,vI p1,.pointer (some c0)] h R:=fnI (A:=.z) (by kernel_rfl) H

def W66 (p0_1:Int) (p0_2:Bool) (p0_3 p0_4 p0_5:Int) (p0_6:Bool) (p1_7:Int) (p1_8:Bool) (p1_9 p1_10 p1_11:Int) (p1_12:Bool) (h:Heap) (R:Value->Heap->Prop):Prop:=
 Wn h (L0 p0_1 p0_2 p0_3 p0_4 p0_5 p0_6) 116 fun h13=>
 Wn h13 (L0 p1_7 p1_8 p1_9 p1_10 p1_11 p1_12) 116 fun h14=>
 ∃x15,rB h14 (aS h 1) x15 /\
 ∃x16,rB h14 (aS h13 1) x16 /\
 sB (!(x15==x16))
 (∃x17,rB h14 (aS h 1) x17 /\
 sB x17
 (R (vI (-1)) h14)
 (R (vI 1) h14))
 (∃x18,rI h14 (aS h 2) x18 /\
 ∃x19,rI h14 (aS h13 2) x19 /\
 ∃x20,rI h14 (aS h 3) x20 /\
 ∃x21,rI h14 (aS h13 3) x21 /\
 Fn Pz 110 #[vI x18,vI x19] h14
 (fun v22 h24=>∃x23,iI v22 x23 /\
 Sm [(aS h13 3),(aS h 3)] h14 h24 /\
 Fn Pz 110 #[vI x20,vI x21] h24
 (fun v25 h27=>∃x26,iI v25 x26 /\
 Sm [(aS h13 2),(aS h 2)] h24 h27 /\
 Wn h27 [vI x23,vI x26] 3 fun h28=>
 Fn Pz 109 #[.slice (some (aS h27 0)) 2 2] h28
 (fun v29 h31=>∃x30,iI v29 x30 /\
 R (vI x30) h31))))
theorem vc66 (p0_1:Int) (p0_2:Bool) (p0_3 p0_4 p0_5:Int) (p0_6:Bool) (p1_7:Int) (p1_8:Bool) (p1_9 p1_10 p1_11:Int) (p1_12:Bool) (h:Heap) (R:Value->Heap->Prop) (H:W66 p0_1 p0_2 p0_3 p0_4 p0_5 p0_6 p1_7 p1_8 p1_9 p1_10 p1_11 p1_12 h R):Fn Pz 66 #[.agg ⟨(L0 p0_1 p0_2 p0_3 p0_4 p0_5 p0_6)⟩,.agg ⟨(L0 p1_7 p1_8 p1_9 p1_10 p1_11 p1_12)⟩] h R:=fnI (A:=.z) (by kernel_rfl) H

end M
end Go.VC
end

section
namespace Go.VC
open Go.Proofs Go.LexS
variable [Mono]
namespace M
theorem order66 (x y:Mv) (h:Heap):Fn Pz 66 #[.agg ⟨x.cs⟩,.agg ⟨y.cs⟩] h fun v h'=>v=.int .i64 (cmpE x.ev y.ev)/\Ext h h':=by
 apply vc66 x.f x.send x.peer x.label x.t x.ag y.f y.send y.peer y.label y.t y.ag;unfold W66;refine (St.refl h).newb fun h13 hs=>?_;refine hs.newb fun h14 hs=>?_;refine⟨x.send,hs.rd 1 rfl (i:=1) rfl,y.send,hs.rd 0 rfl (i:=1) rfl,sB_intro (fun c=>?_) (fun c=>?_)⟩
 ·refine⟨x.send,hs.rd 1 rfl (i:=1) rfl,sB_intro (fun d=>⟨?_,hs.ext⟩) (fun d=>⟨?_,hs.ext⟩)⟩
  ·congr 1;obtain⟨f,s,p,l,t,a⟩:=x;obtain⟨f',s',p',l',t',a'⟩:=y;dsimp only at c d;unfold cmpE Mv.ev;cases s<;>cases s'<;>simp_all
  ·congr 1;obtain⟨f,s,p,l,t,a⟩:=x;obtain⟨f',s',p',l',t',a'⟩:=y;dsimp only at c d;unfold cmpE Mv.ev;cases s<;>cases s'<;>simp_all
 ·refine⟨x.peer,hs.rd 1 rfl (i:=2) rfl,y.peer,hs.rd 0 rfl (i:=2) rfl,x.label,hs.rd 1 rfl (i:=3) rfl,y.label,hs.rd 0 rfl (i:=3) rfl,?_⟩;refine (cmp110 _ _ _).mono ?_;rintro _ _ ⟨rfl,rfl⟩;refine⟨_,rfl,fun _ _ _ _ hv=>hv,?_⟩;refine (cmp110 _ _ _).mono ?_;rintro _ _ ⟨rfl,rfl⟩;refine⟨_,rfl,fun _ _ _ _ hv=>hv,?_⟩;refine hs.newb fun h28 hs=>?_;have hs2:=hs.blkS 2 1 ([cmpI x.peer y.peer,cmpI x.label y.label].map inC) rfl (inrows _) rfl (by decide);refine (or109 [cmpI x.peer y.peer,cmpI x.label y.label] _ h28 (hs2.rows 0 rfl (by omega)) (show 2<=1048576 by decide)).mono ?_;rintro _ _ ⟨rfl,rfl⟩;refine⟨_,rfl,?_,hs.ext⟩;show Value.int .i64 (orI3 _ (orI3 _ 0))=_;congr 1;obtain⟨f,s,p,l,t,a⟩:=x;obtain⟨f',s',p',l',t',a'⟩:=y;dsimp only at c;unfold cmpE orI3 Mv.ev;cases s<;>cases s'<;>simp_all [cmpI]<;>(repeat' split)<;>omega
theorem start65 (mv:List Mv) (sm:Sl) (a:Addr) (i k:Nat) (x y:Mv) (h:Heap) (ha:hc h ⟨a.block,a.off+4,none⟩=some (.slice sm.a sm.n sm.c)) (hr:Rw h 6 sm (mv.map Mv.cs)) (hx:mv[i]?=some x) (hy:mv[k]?=some y) :
  Fn Pz 65 #[.int .i64 (i:Int),.int .i64 (k:Int),.pointer (some a)] h fun v h'=>v=.int .i64 (cmpE x.ev y.ev)/\Ext h h':=by
 apply vc65 (i:Int) (k:Int) a;unfold W65;have hn:=hr.ln;have hxl:=(Ya.1 hx).1;have hyl:=(Ya.1 hy).1;refine⟨sm,ha,?_⟩;refine hr.nbI (by omega) (by omega) fun b o x' gx t=>?_;rw[Ys,hx] at gx;cases gx;refine⟨_,_,_,_,_,_,t,sm,ha,?_⟩;refine hr.nbI (by omega) (by omega) fun b2 o2 y' gy t2=>?_;rw[Ys,hy] at gy;cases gy;refine⟨_,_,_,_,_,_,t2,?_⟩;refine (order66 x y h).mono ?_;rintro _ h29 ⟨rfl,E⟩;exact⟨_,rfl,rfl,E⟩
end M
def Sort64:Prop:=∀(m:Mch) (sm:Sl) (a:Addr) {h0 h:Heap} {Ls:List It},St h0 h Ls->∀(i:Nat) {s:Sl} {l:List Nat},Ls[i]?=some (.sl s 3 1 ((natI l).map inC))->(∀x∈l,x<m.mv.length)->(l=[]->s.a=none)->m.mv.length<=1048576->l.length<=1048576 ->
 (∀h':Heap,h.size<=h'.size->(∀c,c<h.size->s.a.map (·.block)≠some c->h'[c]?=h[c]?)->hc h' ⟨a.block,a.off+4,none⟩=some (.slice sm.a sm.n sm.c)/\Rw h' 6 sm (m.mv.map Mv.cs)) ->
 Fn Pz 64 #[.slice s.a s.n s.c,.func (.func 65) #[] #[.pointer (some a)]] h fun v h'=>v=.tuple ⟨[]⟩/\∃l':List Nat,l'.Perm l/\l'.Pairwise (fun a b=>¬evLt (evI m b) (evI m a))/\St h0 h' (Ls.set i (.sl s 3 1 ((natI l').map inC)))
end Go.VC
end

section
namespace Go.VC
open Go.Proofs Go.Shelf
theorem sort64:Sort64:=by
 intro m sm a h0 h Ls hs i s l hi hlm hnil hml hll hread;by_cases hl0:l=[]
 ·subst hl0;have ha:=hnil rfl;have hget:=hs.get hi;rcases hget.1.2 with ⟨_,hn0,hc0⟩ | ⟨b,cur,ha',_⟩
  ·have hset:Ls.set i (.sl s 3 1 ((natI []).map inC))=Ls:=by
    obtain⟨p,q⟩:=Ya.1 hi;rw[<-q];exact List.set_getElem_self p
   intro w hw;subst hw;rw[ha,hn0,hc0];refine (AnyF.slices_SortFunc_none { Tryz.sortL152 with } none ((0:Nat):Nat) (.func (.func 65) #[] #[.pointer (some a)]) w).mono ?_;rintro e' w' ⟨rfl,rfl⟩;exact⟨_,rfl,⟨rfl,[],List.Perm.refl _,List.Pairwise.nil,by rw[hset];exact hs⟩,rfl,rfl,rfl,trivial⟩
  ·rw[ha] at ha';cases ha'
 ·have hpos:0<m.mv.length:=by
   cases l with
   | nil=>exact absurd rfl hl0
   | cons x r=>have:=hlm x Yx;omega
  haveI:Inhabited (Fin m.mv.length):=⟨⟨0,hpos⟩⟩
  obtain⟨k,rfl⟩:=fin_list hlm;have hi':Ls[i]?=some (.sl s 3 1 (k.map fun x=>[finE x])):=by rw[hi,natI_fin]
  rw[Yc] at hll;refine Fn.mono (sort_own1 Tryz.sortL152 3 (finE (n:=m.mv.length)) (fun _=>rfl) (fun x y:Fin m.mv.length=>cmpE (evI m x.val) (evI m y.val)) (swo_on swoE fun x:Fin m.mv.length=>evI m x.val) 65 #[.pointer (some a)] (enters_of Tryz.func65 (by kernel_rfl) rfl) hs i hi' (by omega) (fun x y h' hsz hoth=>?_)) ?_
  ·obtain⟨r1,r2⟩:=hread h' hsz hoth;have g:∀x:Fin m.mv.length,m.mv[x.val]?=some m.mv[x.val]:=fun x=>Yi x.isLt;have ev:∀x:Fin m.mv.length,evI m x.val=m.mv[x.val].ev:=fun x=>by unfold evI;rw[g x]
   rw[ev x,ev y];exact @M.start65 monoDrawn m.mv sm a x.val y.val m.mv[x.val] m.mv[y.val] h' r1 r2 (g x) (g y)
  ·rintro v h' ⟨rfl,k',hp,hw,hs'⟩;refine⟨rfl,k'.map Fin.val,hp.map _,?_,by rw[natI_fin];exact hs'⟩;rw[List.pairwise_map];refine hw.imp fun {a b} hab=>?_;unfold ltOf at hab;rw[decide_eq_false_iff_not,cmpE_neg] at hab;exact hab
end Go.VC
end

section
namespace Go.VC
open Go.Proofs
variable {h:Heap} {R:Value->Heap->Prop}

def W32 (p0:Sl) (p1:Int):Prop:=
 RunW Pz (Instr.makeMap 144 (none)) h
 (fun v1 h3=>∃x2:Option Nat,v1=.map x2 /\
 Wn h3 [vS p0,vI p1,.slice none 0 0,.map x2] 147 fun h4=>
 QI 0 h4 fun I5 x_8 h9 m7=>
 sB (decide (x_8<(p0.n:Int)))
 (NB p0.a fun b10 o11=>Ib x_8 p0.n /\
 ∃x12 x13 x14 x15 x16 x17,aL1 h9 ⟨b10,o11+Int.toNat x_8*6,none⟩ x12 x13 x14 x15 x16 x17 /\
 Wn h9 [vI 0,vI 0,vI 0,.slice none 0 0,.slice none 0 0,.slice none 0 0] 88 fun h18=>
 Wp h18 ⟨h9.size,0,none⟩ 6 (L1 x12 x13 x14 x15 x16 x17) fun h19=>
 ∃x20,rI h19 ⟨h9.size,1,none⟩ x20 /\
 Mk x20 x20 24/\Wn h19 (madeL Pz 25 (Int.toNat x20)) 25 fun h21=>
 ∃x22,rS h21 ⟨h9.size,4,none⟩ x22 /\
 QI 0 h21 fun I23 x_26 h27 m25=>
 sB (decide (x_26<(x22.n:Int)))
 (NB x22.a fun b28 o29=>Ib x_26 x22.n /\
 ∃x30 x31 x32 x33 x34 x35,aL0 h27 ⟨b28,o29+Int.toNat x_26*6,none⟩ x30 x31 x32 x33 x34 x35 /\
 Wn h27 [vI 0,.bool false,vI 0,vI 0,vI 0,.bool false] 116 fun h36=>
 Wp h36 ⟨h27.size,0,none⟩ 6 (L0 x30 x31 x32 x33 x34 x35) fun h37=>
 ∃x38,rI h37 ⟨h27.size,0,none⟩ x38 /\
 ∃x39,rI h37 ⟨h27.size,0,none⟩ x39 /\
 (0<=(x39:Int)/\(x39:Int)<((Int.toNat x20):Nat)) /\
 ∃x40,rS h37 ⟨h19.size,0+Int.toNat x39*1,none⟩ x40 /\
 Wn h37 [vI x_26] 3 fun h41=>
 Sm [⟨h19.size,0+Int.toNat x39*1,none⟩,⟨h27.size,0,none⟩,⟨h27.size,0,none⟩] h37 h41 /\
 App Pz 25 25 (vS x40) (.slice (some ⟨h37.size,0,none⟩) 1 1) h41 fun s42 h43=>
 Sm [⟨h27.size,0,none⟩] h41 h43 /\
 (0<=(x38:Int)/\(x38:Int)<((Int.toNat x20):Nat)) /\
 Wp h43 ⟨h19.size,0+Int.toNat x38*1,none⟩ 1 [vS s42] fun h44=>
 ∃m45,m45<m25/\I23 (IntKind.wrap .i64 (x_26+1)) h44 m45)
 (QI 0 h27 fun I46 x_49 h50 m48=>
 sB (decide (x_49<((Int.toNat x20):Int)))
 ((0<=(x_49:Int)/\(x_49:Int)<((Int.toNat x20):Nat)) /\
 ∃x51,rS h50 ⟨h19.size,0+Int.toNat x_49*1,none⟩ x51 /\
 Fn Pz 64 #[vS x51,.func (.func 65) #[] #[.pointer (some ⟨h9.size,0,none⟩)]] h50
 (fun v52 h53=>v52=.tuple ⟨[]⟩ /\
 ∃m54,m54<m48/\I46 (IntKind.wrap .i64 (x_49+1)) h53 m54))
 (∃x55,rS h50 ⟨h3.size,2,none⟩ x55 /\
 Wn h50 [.slice (some ⟨h19.size,0,none⟩) (Int.toNat x20) (Int.toNat x20)] 26 fun h56=>
 App Pz 145 145 (vS x55) (.slice (some ⟨h50.size,0,none⟩) 1 1) h56 fun s57 h58=>
 Wp h58 ⟨h3.size,2,none⟩ 1 [vS s57] fun h59=>
 ∃m60,m60<m7/\I5 (IntKind.wrap .i64 (x_8+1)) h59 m60)))
 (R (.pointer (some ⟨h3.size,0,none⟩)) h9))
theorem vc32 (p0:Sl) (p1:Int) (H:@W32 h R p0 p1):Fn Pz 32 #[vS p0,vI p1] h R:=fnI (A:=(.s .z (.s .z (.s (.s .z (.b (.l [(20,.one (.int .i64))] (.s .z (.s .z (.s (.b (.s .z (.s .z (.s (.s .z (.b (.l [(30,.one (.int .i64))] .z))) (.s (.s .z (.b (.l [(50,.one (.int .i64))] .z))) .z))))) .z)))))) .z)))) (by kernel_rfl) H

def V13a (h8 h:Heap) (R:Value->Heap->Prop):Prop:=
 Wp h8 (aS h 0) 5 [vI 0,.slice none 0 0,.slice none 0 0,vI 0,.slice none 0 0] fun h9=>∃x10 x11 x12 x13 x14,aL5 h9 (aS h 0) x10 x11 x12 x13 x14/\R (.tuple ⟨[.agg ⟨(L5 x10 x11 x12 x13 x14)⟩,vI 1]⟩) h9
def V13b (h82 h:Heap) (R:Value->Heap->Prop):Prop:=
 ∃x83 x84 x85 x86 x87,aL5 h82 (aS h 0) x83 x84 x85 x86 x87/\R (.tuple ⟨[.agg ⟨(L5 x83 x84 x85 x86 x87)⟩,vI 0]⟩) h82
def V13c (h8 h:Heap) (R:Value->Heap->Prop):Prop:=
 Wp h8 (aS h 0) 5 [vI 0,.slice none 0 0,.slice none 0 0,vI 0,.slice none 0 0] fun h27=>∃x28 x29 x30 x31 x32,aL5 h27 (aS h 0) x28 x29 x30 x31 x32/\R (.tuple ⟨[.agg ⟨(L5 x28 x29 x30 x31 x32)⟩,vI 2]⟩) h27
def W13 (p0:Sl) (p1 p2:Int):Prop:=
 Wn h [vI 0,.slice none 0 0,.slice none 0 0,vI 0,.slice none 0 0] 32 fun h1=>Fn Pz 25 #[vS p0] h1 (fun v2 h6=>∃(x3 x4:Sl) (x5:Int),v2=.tuple ⟨[.agg ⟨[vS x3,vS x4]⟩,vI x5]⟩/\Wn h6 [.slice none 0 0,.slice none 0 0] 50 fun h7=>Wp h7 (aS h6 0) 2 [vS x3,vS x4] fun h8=>sB (x5 != 0) (V13a h8 h R) (sB (decide (p1<1)) (V13a h8 h R) (sB (decide (p1>4)) (V13a h8 h R) (sB (decide (p2<1)) (V13c h8 h R) (sB (decide (p2>20000)) (V13c h8 h R) (Fn Pz 32 #[vS p0,vI p1] h8 (fun v39 h41=>∃x40:Option Addr,v39=.pointer x40/\RunW Pz (Instr.makeMap 92 (none)) h41 (fun v42 h44=>∃x43:Option Nat,v42=.map x43/\∃(x45 x46:Sl),atC h44 (aS h6 0) [vS x45,vS x46]/\Fn Pz 33 #[.agg ⟨[vS x45,vS x46]⟩] h44 (fun v47 h49=>∃x48,iS v47 x48/\RunW Pz (Go.convert 60 9 (vS x48)) h49 (fun v50 h52=>∃x51:ByteArray,v50=.string x51/\RunW Pz (Instr.mapUpdate 92 (.map x43) (.string x51) (.bool true)) h52 (fun _ h53=>∃(x54 x55:Sl),atC h53 (aS h6 0) [vS x54,vS x55]/\Wn h53 [vS x54,vS x55,vI (-1),vI 0,vI 0] 94 fun h56=>QSI ⟨(some (aS h53 0)),1,1⟩ 0 h56 fun I57 queue_60 head_61 h62 m59=>sB (decide (head_61<(queue_60.n:Int))) (NB queue_60.a fun b63 o64=>Ib head_61 queue_60.n/\∃(x65 x66:Sl),atC h62 ⟨b63,o64+Int.toNat head_61*5,none⟩ [vS x65,vS x66]/\Wn h62 [.slice none 0 0,.slice none 0 0] 50 fun h67=>Wp h67 (aS h62 0) 2 [vS x65,vS x66] fun h68=>∃(x69 x70:Sl),atC h68 (aS h62 0) [vS x69,vS x70]/\Fn Pz 34 #[.pointer x40,.agg ⟨[vS x69,vS x70]⟩] h68 (fun v71 h73=>∃x72,iS v71 x72/\∃(x74 x75:Sl),atC h73 (aS h62 0) [vS x74,vS x75]/\Fn Pz 35 #[.pointer x40,.agg ⟨[vS x74,vS x75]⟩,.bool (decide ((x72.n:Int)>0))] h73 (fun v76 h78=>∃x77,iI v76 x77/\sB (x77 != 0) (Fn Pz 36 #[vS queue_60,vI head_61] h78 (fun v79 h81=>∃x80,iS v79 x80/\Wp h81 (aS h 0) 5 [vI 2,.slice none 0 0,.slice none 0 0,vI x77,vS x80] fun h82=>V13b h82 h R)) (QSI queue_60 0 h78 fun I88 queue_91 x_92 h93 m90=>sB (decide (x_92<(x72.n:Int))) (NB x72.a fun b94 o95=>Ib x_92 x72.n/\∃(x96 x97:Int),atC h93 ⟨b94,o95+Int.toNat x_92*2,none⟩ [vI x96,vI x97]/\Wn h93 [vI 0,vI 0] 48 fun h98=>Wp h98 (aS h93 0) 2 [vI x96,vI x97] fun h99=>∃(x100 x101:Sl),atC h99 (aS h62 0) [vS x100,vS x101]/\∃(x102 x103:Int),atC h99 (aS h93 0) [vI x102,vI x103]/\Fn Pz 37 #[.pointer x40,.agg ⟨[vS x100,vS x101]⟩,.agg ⟨[vI x102,vI x103]⟩] h99 (fun v104 h107=>∃(x105 x106:Sl),v104=.agg ⟨[vS x105,vS x106]⟩/\Wn h107 [.slice none 0 0,.slice none 0 0] 50 fun h108=>Wp h108 (aS h107 0) 2 [vS x105,vS x106] fun h109=>∃(x110 x111:Sl),atC h109 (aS h107 0) [vS x110,vS x111]/\Fn Pz 33 #[.agg ⟨[vS x110,vS x111]⟩] h109 (fun v112 h114=>∃x113,iS v112 x113/\RunW Pz (Go.convert 60 9 (vS x113)) h114 (fun v115 h117=>∃x116:ByteArray,v115=.string x116/\RunW Pz (Instr.lookup 92 (.map x43) (.string x116) false) h117 (fun v118 h120=>∃x119,iB v118 x119/\sB x119 (∃m121,m121<m90/\I88 queue_91 (IntKind.wrap .i64 (x_92+1)) h120 m121) (sB ((queue_91.n:Int)==p2) (Wp h120 (aS h 0) 5 [vI 3,.slice none 0 0,.slice none 0 0,vI 0,.slice none 0 0] fun h122=>V13b h122 h R) (RunW Pz (Instr.mapUpdate 92 (.map x43) (.string x116) (.bool true)) h120 (fun _ h128=>∃(x129 x130:Sl),atC h128 (aS h107 0) [vS x129,vS x130]/\∃(x131 x132:Int),atC h128 (aS h93 0) [vI x131,vI x132]/\Wn h128 [vS x129,vS x130,vI head_61,vI x131,vI x132] 94 fun h133=>App Pz 95 95 (vS queue_91) (.slice (some (aS h128 0)) 1 1) h133 fun s134 h135=>∃m136,m136<m90/\I88 s134 (IntKind.wrap .i64 (x_92+1)) h135 m136)))))))) (∃m137,m137<m59/\I57 queue_91 (IntKind.wrap .i64 (head_61+1)) h93 m137))))) (((0:Int)<=(IntKind.wrap .i64 ((p0.n:Int)*(p0.n:Int)))/\((IntKind.wrap .i64 ((p0.n:Int)*(p0.n:Int))):Int)<=(IntKind.wrap .i64 ((p0.n:Int)*(p0.n:Int)))/\((8:Nat):Int)*(IntKind.wrap .i64 ((p0.n:Int)*(p0.n:Int)))<=140737488355328)/\Wn h62 (madeL Pz 3 (Int.toNat (IntKind.wrap .i64 ((p0.n:Int)*(p0.n:Int))))) 3 fun h138=>Wn h138 [vI 0,.slice none 0 0,.slice none 0 0,vI 0,.slice none 0 0] 32 fun h139=>Wp h139 (aS h138 0) 5 [vI 1,.slice none 0 0,.slice (some (aS h62 0)) (Int.toNat (IntKind.wrap .i64 ((p0.n:Int)*(p0.n:Int)))) (Int.toNat (IntKind.wrap .i64 ((p0.n:Int)*(p0.n:Int)))),vI 0,.slice none 0 0] fun h140=>QI 0 h140 fun I141 x_144 h145 m143=>sB (decide (x_144<(queue_60.n:Int))) (NB queue_60.a fun b146 o147=>Ib x_144 queue_60.n/\∃(x148 x149:Sl) (x150 x151 x152:Int),atC h145 ⟨b146,o147+Int.toNat x_144*5,none⟩ [vS x148,vS x149,vI x150,vI x151,vI x152]/\Wn h145 [.slice none 0 0,.slice none 0 0,vI 0,vI 0,vI 0] 94 fun h153=>Wp h153 (aS h145 0) 5 [vS x148,vS x149,vI x150,vI x151,vI x152] fun h154=>∃x155,rS h154 (aS h138 1) x155/\∃(x156 x157:Sl),atC h154 (aS h145 0) [vS x156,vS x157]/\Fn Pz 38 #[.agg ⟨[vS x156,vS x157]⟩] h154 (fun v158 h161=>∃(x159 x160:Sl),v158=.agg ⟨[vS x159,vS x160]⟩/\Sm [(aS h138 1)] h154 h161/\Wn h161 [vS x159,vS x160] 50 fun h162=>Sm [(aS h138 1)] h161 h162/\App Pz 29 29 (vS x155) (.slice (some (aS h161 0)) 1 1) h162 fun s163 h164=>Wp h164 (aS h138 1) 1 [vS s163] fun h165=>∃x166,rS h165 (aS h145 1) x166/\QI 0 h165 fun I167 x_170 h171 m169=>sB (decide (x_170<(x166.n:Int))) (NB x166.a fun b172 o173=>Ib x_170 x166.n/\∃x174,rS h171 ⟨b172,o173+Int.toNat x_170*1,none⟩ x174/\∃x175,rS h171 (aS h138 2) x175/\∃x176,rS h171 (aS h138 2) x176/\NB x176.a fun b177 o178=>Ib x_170 x176.n/\∃x179,rI h171 ⟨b177,o178+Int.toNat x_170*1,none⟩ x179/\NB x175.a fun b180 o181=>Ib x_170 x175.n/\Wp h171 ⟨b180,o181+Int.toNat x_170*1,none⟩ 1 [vI (imax x179 (x174.n:Int))] fun h182=>∃m183,m183<m169/\I167 (IntKind.wrap .i64 (x_170+1)) h182 m183) (∃m184,m184<m143/\I141 (IntKind.wrap .i64 (x_144+1)) h171 m184))) (∃x185 x186 x187 x188 x189,aL5 h145 (aS h138 0) x185 x186 x187 x188 x189/\Wp h145 (aS h 0) 5 (L5 x185 x186 x187 x188 x189) fun h190=>V13b h190 h R)))))))))))))
theorem vc13 (p0:Sl) (p1 p2:Int) (H:@W13 h R p0 p1 p2):Fn Pz 13 #[vS p0,vI p1,vI p2] h R:=fnI (A:=(.s .z (.s .z (.s .z (.s .z (.s .z (.s .z (.s (.s .z (.b (.l [(12,.one (.slice)),(13,.one (.int .i64))] (.s .z (.s (.b (.s .z (.s .z (.s .z (.s .z (.b (.l [(12,.one (.slice)),(91,.one (.int .i64))] .z))))))) .z))))) (.s .z (.s (.s .z (.b (.l [(129,.one (.int .i64))] (.s .z (.s .z (.s (.b (.s .z (.s .z (.s .z (.b (.l [(145,.one (.int .i64))] .z)))))) .z)))))) .z)))))))))) (by kernel_rfl) H

end Go.VC
end

section
namespace Go.VC
open Go.Proofs Go.LexS
structure Tbr where
 o:Sl
 q:List (Sl × List Int)
instance:Inhabited Tbr:=⟨⟨⟨none,0,0⟩,[]⟩⟩
def tabs (T:List Tbr):List It:=T.flatMap fun t=>.sl t.o 25 1 ((t.q.map Prod.fst).map slC)::t.q.map (nest 3 1 inC)
structure TbF (m:Mch) (t:Tbr):Prop where
 n:t.o.n=m.n.toNat
 l:t.q.length=m.n.toNat
 q:∀(j:Nat) q,t.q[j]?=some q->q.2=natI (mvS m (j:Int))
def tbP (y:MR) (bm:Nat) (ho:Sl) (qs:List (Sl × List Int)):List It:=[.sl ho 25 1 ((qs.map Prod.fst).map slC),.blk bm (MR.cs y) 88]
theorem app145:appB Pz 145 26 1 24=true:=by kernel_rfl
theorem tabs_snoc (T:List Tbr) (t:Tbr):tabs (T++[t])=tabs T++(.sl t.o 25 1 ((t.q.map Prod.fst).map slC)::t.q.map (nest 3 1 inC)):=by
 unfold tabs;rw[List.flatMap_append,List.flatMap_cons,List.flatMap_nil,Yw]
theorem tabs_o {T:List Tbr} {t:Tbr} (ht:t∈T):It.sl t.o 25 1 ((t.q.map Prod.fst).map slC)∈tabs T:=List.mem_flatMap.2 ⟨t,ht,Yx⟩
theorem tabs_q {T:List Tbr} {t:Tbr} (ht:t∈T) {q:Sl × List Int} (hq:q∈t.q):nest 3 1 inC q∈tabs T:=List.mem_flatMap.2 ⟨t,ht,Yn _ (List.mem_map_of_mem hq)⟩
theorem St.rwm {h0 h:Heap} {L:List It} (hs:St h0 h L) {s:Sl} {e n:Nat} {rows:List (List Value)} (hk:It.sl s e n rows∈L) (hn:0<n):Rw h n s rows:=by
 obtain⟨k,hk⟩:=Yf.1 hk;exact hs.rw k hk hn
theorem St.atm {h0 h:Heap} {L:List It} (hs:St h0 h L) {b:Nat} {xs:List Value} {e:TypeId} (hk:It.blk b xs e∈L):atC h ⟨b,0,none⟩ xs:=by
 obtain⟨k,hk⟩:=Yf.1 hk;exact hs.at k hk (o:=0) (n:=xs.length) (by rw[List.drop_zero,Yye])
theorem Rw.one {α:Type} {h:Heap} {b n c:Nat} {l:List α} {cs:α->List Value} (hr:Rw h 1 ⟨some ⟨b,0,none⟩,n,c⟩ (l.map cs)) {x:Int} (h0:0<=x) (h1:x<(n:Int)) {d:α} (hd:l[x.toNat]?=some d) {v:Value} (hv:(cs d)[0]?=some v):hc h ⟨b,0+x.toNat*1,none⟩=some v:=by
 have:NB (some ⟨b,0,none⟩) fun b o=>((0<=x/\x<(n:Int))/\hc h ⟨b,o+x.toNat*1,none⟩=some v):=hr.nbI h0 h1 fun b o d' hd' t=>by
  rw[hd] at hd';cases hd';exact t.nth 0 hv
 exact this.2
theorem St.set0 {α:Type} {h0 h:Heap} {L:List It} (hs:St h0 h L) (k:Nat) {b n c:Nat} {e:TypeId} {cs:α->List Value} {l:List α} (hk:L[k]?=some (.sl ⟨some ⟨b,0,none⟩,n,c⟩ e 1 (l.map cs))) {x:Int} (hx0:0<=x) (hx1:x<(n:Int)) (y:α) {vs:List Value} (hv:vs=cs y)
  {m:Nat} (hm:m=vs.length) (hy:(cs y).length=1) {K:Heap->Prop} (hK:∀h',St h0 h' (L.set k (.sl ⟨some ⟨b,0,none⟩,n,c⟩ e 1 ((l.set x.toNat y).map cs)))->K h') :
  okAt h ⟨b,0+x.toNat*1,none⟩ m/\∀h',h'=hputs h ⟨b,0+x.toNat*1,none⟩ 0 vs->K h':=by
 have:NB (some ⟨b,0,none⟩) fun b o=>(0<=x/\x<(n:Int))/\(okAt h ⟨b,o+x.toNat*1,none⟩ m/\∀h',h'=hputs h ⟨b,o+x.toNat*1,none⟩ 0 vs->K h'):=hs.set k hk (by omega) hx0 hx1 y hv hm (K:=fun _ _ h'=>K h') (fun _ _ h' hh=>hK h' hh) hy;exact this.2
theorem eng_sta (L:List MR) (s:Sl) (k:Int) (eb wb:Nat) (osl:Sl) (T:List Tbr) (hT:T.length=L.length) (hF:∀(p:Nat) y t,L[p]?=some y->T[p]?=some t->TbF y.m t) :
  Sta (.blk eb [.slice s.a s.n s.c,.int .i64 k,.slice osl.a osl.n osl.c,.map (some wb)] 147 :: .sl osl 26 1 (T.map fun t=>slC t.o)::tabs T) fun h=>EngX h eb wb s k L osl (fun p=>(T.getD p default).o) fun p s=>((T.getD p default).q.getD s default).1:=by
 intro h0 h A' hA hs;have hm:∀i∈tabs T,i∈A':=fun i hi=>hA i (Yn _ (Yn _ hi));have gT:∀(p:Nat) x,L[p]?=some x->T[p]?=some (T.getD p default):=fun p x hx=>by
  have:=(Ya.1 hx).1;rw[Yo,Yi (by omega)];rfl
 refine⟨hs.atm (hA _ Yx),?_,fun p x hx=>?_,fun p x hx j hj=>?_⟩
 ·have:=hs.rwm (hA _ (Yn _ Yx)) (by omega);rw[map_range,hT] at this;exact this
 ·have gt:=gT p x hx;have hF:=hF p x _ hx gt;have:=hs.rwm (hm _ (tabs_o (Yb gt))) (by omega);rw[List.map_map,map_range,hF.l] at this;exact this
 ·have gt:=gT p x hx;have hF:=hF p x _ hx gt;generalize T.getD p default=t at *;have gq:t.q[j]?=some (t.q.getD j default):=by
   rw[Yo,Yi (by have:=hF.l;omega)];rfl
  have:=hs.rwm (hm _ (tabs_q (Yb gt) (Yb gq))) (by omega);rw[hF.q j _ gq] at this;exact this
set_option maxHeartbeats 6400000 in
theorem start32 (L:List MR) (s:Sl) (k:Int) (h:Heap) (hS:SyI h s L) (hV:SysV (L.map MR.m)) :
  Fn Pz 32 #[.slice s.a s.n s.c,.int .i64 k] h fun v h'=>∃(eb wb:Nat) (A:List It) (osl:Sl) (os:Nat->Sl) (qs:Nat->Nat->Sl),v=.pointer (some ⟨eb,0,none⟩)/\St h h' (.mp wb []::A)/\Sta A fun h=>EngX h eb wb s k L osl os qs:=by
 apply vc32 s k;unfold W32;have hn:=hS.r.ln;have hsm:=hS.r.sm;have hlm:(L.map MR.m).length=L.length:=Yc _;have hV6:=hV.n;rw[hlm] at hV6;refine (St.refl h).mmake 144 fun h3 E3 hs=>⟨_,rfl,?_⟩;refine hs.newb fun h4 hs=>?_;obtain⟨eb,heb⟩:∃eb,eb=h3.size:=⟨_,rfl⟩;rw[<-heb] at hs ⊢;have hs:=hs.nil_ 26 1;have hs:=hs.picks (L':=[.mp h.size [],.blk eb [.slice s.a s.n s.c,.int .i64 k,.slice none 0 0,.map (some h.size)] 147,.sl ⟨none,0,0⟩ 26 1 []]) [2,1,0] (by decide) rfl;refine⟨fun x h' μ=>∃(i:Nat) (T:List Tbr) (osl:Sl),x=(i:Int)/\μ=L.length-i/\i<=L.length/\T.length=i/\(∀(p:Nat) y t,L[p]?=some y->T[p]?=some t->TbF y.m t) /\
  St h h' (.mp h.size [] :: .blk eb [.slice s.a s.n s.c,.int .i64 k,.slice osl.a osl.n osl.c,.map (some h.size)] 147 :: .sl osl 26 1 (T.map fun t=>slC t.o)::tabs T),⟨_,0,[],⟨none,0,0⟩,rfl,rfl,Nat.zero_le _,rfl,fun p y t _ ht=>(by cases ht),hs⟩,?_⟩
 clear hs;rintro-_ h9 μ ⟨i,T,osl,rfl,rfl,hi,hTl,hF,hs⟩;refine sBi (fun c1=>?_) (fun c1=>?_)
 ·obtain⟨y,gy⟩:=get_some (l:=L) (i:=i) (by omega);have gm:(L.map MR.m)[i]?=some y.m:=by rw[Yd,gy];rfl
  have hM:=hS.i y (Yb gy);have hvm:=hV.m i y.m gm;have hN:=hvm.2.1.n;have hmn:=hM.pm.ln;have hmm:=hM.pm.sm;have hNn:=hN.n;have hml:=hN.ml;have hmx:y.m.n.toNat<=maxLen:=by simp only[maxLen];omega
  refine (hS.r.rw.ext hs.ext).nbI (by omega) (by omega) fun b10 o11 y' gy' t=>?_;rw[Ys] at gy';replace gy':L[i]?=some y':=gy';rw[gy] at gy';cases gy';refine⟨_,_,_,_,_,_,t,?_⟩;have hbm9:h.size<=h9.size:=hs.ext.1;refine hs.newput (vs:=MR.cs y) rfl rfl fun h19 hs=>?_;refine⟨y.m.n,hs.rd 0 rfl (i:=1) rfl,⟨by omega,by omega,by omega⟩,?_⟩;rw[made42];refine hs.newb fun h21 hs=>?_;have hs:=hs.blkS y.m.n.toNat 1 _ rfl (slrows _) (by rw[Yc,Yg]) hmx;have hrep:((List.replicate y.m.n.toNat ((⟨none,0,0⟩,[]):Sl × List Int)).map Prod.fst)=List.replicate y.m.n.toNat (⟨none,0,0⟩:Sl):=List.map_replicate;generalize hO:(.mp h.size [] :: .blk eb [.slice s.a s.n s.c,.int .i64 k,.slice osl.a osl.n osl.c,.map (some h.size)] 147 :: .sl osl 26 1 (T.map fun t=>slC t.o)::tabs T:List It)=O at *;have hs:St h h21 (tbP y h9.size ⟨some ⟨h19.size,0,none⟩,y.m.n.toNat,y.m.n.toNat⟩ (List.replicate y.m.n.toNat (⟨none,0,0⟩,[]))++(List.replicate y.m.n.toNat ((⟨none,0,0⟩,[]):Sl × List Int)).map (nest 3 1 inC)++O):=by
   have h1:St h h21 (tbP y h9.size ⟨some ⟨h19.size,0,none⟩,y.m.n.toNat,y.m.n.toNat⟩ (List.replicate y.m.n.toNat (⟨none,0,0⟩,[]))++O):=by
    unfold tbP;rw[hrep];exact hs
   exact h1.nests (α:=Int) (e:=3) (k:=1) (cs:=inC) y.m.n.toNat
  refine⟨y.g,hs.rd 1 rfl (i:=4) rfl,?_⟩;refine up_loop (n:=y.g.n) (fun i h'=>∃qs,TbL y.m i qs/\St h h' (tbP y h9.size ⟨some ⟨h19.size,0,none⟩,y.m.n.toNat,y.m.n.toNat⟩ qs++qs.map (nest 3 1 inC)++O)) ⟨_,TbL.start y.m,hs⟩ ?_;clear hs;rintro-j h27 hj ⟨qs,hL,hs⟩;refine sB_intro (fun c=>?_) (fun c=>?_)
  ·replace c:=lt_t c;refine (hM.pm.ext hs.ext).rw.nbI (by omega) (by omega) fun b23 o24 x gx t=>?_;replace gx:y.m.mv[j]?=some x:=gx;have hx:=hN.mv x (Yb gx);obtain⟨f,hf⟩:∃f:Nat,x.f=f:=⟨x.f.toNat,by omega⟩;obtain⟨q,hq⟩:=get_some (l:=qs) (i:=f) (by rw[hL.l];omega);have hql:=hL.len hq;have hqn:q.1.n=q.2.length:=by
    have:=hs.len (2+f) (s:=q.1) (e:=3) (n:=1) (rows:=q.2.map inC) (by
     have:=get_mid (P:=tbP y h9.size ⟨some ⟨h19.size,0,none⟩,y.m.n.toNat,y.m.n.toNat⟩ qs) (Q:=qs.map (nest 3 1 inC)) (R:=O) (i:=f) (by rw[Yc];exact (Ya.1 hq).1);rw[show (tbP y h9.size ⟨some ⟨h19.size,0,none⟩,y.m.n.toNat,y.m.n.toNat⟩ qs).length=2 from rfl] at this;rw[this,Yd,hq];rfl) (by omega)
    rw[this.1,Yc]
   refine⟨_,_,_,_,_,_,t,?_⟩;refine hs.newput (vs:=x.cs) rfl rfl fun h37 hs=>?_;refine⟨_,hs.rd 0 rfl (i:=0) rfl,_,hs.rd 0 rfl (i:=0) rfl,⟨by omega,by omega⟩,?_⟩;have hqs:(qs.map Prod.fst)[x.f.toNat]?=some q.1:=by rw[Yd,show x.f.toNat=f by omega,hq];rfl
   refine⟨q.1,Rw.one (l:=qs.map Prod.fst) (cs:=slC) (hs.rows 1 rfl (by omega)) (by omega) (by omega) hqs rfl,?_⟩;refine hs.newbE fun h41 E41 hs=>⟨E41.sm,?_⟩;have hs':St h h41 ((.blk h37.size (inC (j:Int)) 3 :: .blk h27.size x.cs 116::tbP y h9.size ⟨some ⟨h19.size,0,none⟩,y.m.n.toNat,y.m.n.toNat⟩ qs)++qs.map (nest 3 1 inC)++O):=hs;refine hs'.nestAt hq app42 (j:Int) (hs'.at 0 rfl (n:=1) rfl) rfl rfl (by omega) (by simp only[maxLen];omega) fun r h42 hr hs3=>⟨sm_cons (hs'.same hs3 1 1 rfl rfl) sm_nil,⟨by omega,by omega⟩,?_⟩;refine hs3.set0 2 (cs:=slC) (l:=qs.map Prod.fst) rfl (by omega) (by omega) r rfl rfl rfl fun h45 hs4=>?_;refine Up.next c (by omega) ⟨qs.set f (r,q.2++[(j:Int)]),hL.next gx hf hq,?_⟩;unfold tbP;rw[fst_set];rw[hf] at hs4;exact hs4.drop 2
  ·replace c:=lt_f c;have him:j=y.m.mv.length:=by omega
   subst him;have hS0:TbS y.m 0 qs:=⟨hL.l,fun n q hq=>⟨_,hL.q n q hq,List.Perm.refl _,fun hn=>by omega⟩,hL.e⟩;refine up_loop (n:=Int.toNat y.m.n) (fun i h'=>∃qs,TbS y.m i qs/\St h h' (tbP y h9.size ⟨some ⟨h19.size,0,none⟩,y.m.n.toNat,y.m.n.toNat⟩ qs++qs.map (nest 3 1 inC)++O)) ⟨qs,hS0,hs⟩ ?_;clear hs hS0 hL;rintro-a h52 ha ⟨qs,hS',hs⟩;have hl:=hS'.l;refine sB_intro (fun c=>?_) (fun c=>?_)
   ·replace c:=lt_t c;obtain⟨q,hq⟩:=get_some (l:=qs) (i:=a) (by omega);have hqs:(qs.map Prod.fst)[((a:Nat):Int).toNat]?=some q.1:=by rw[Ys,Yd,hq];rfl
    refine⟨⟨by omega,by omega⟩,q.1,Rw.one (l:=qs.map Prod.fst) (cs:=slC) (hs.rows 0 rfl (by omega)) (by omega) (by omega) hqs rfl,?_⟩;obtain⟨l,hql,hlp,_⟩:=hS'.q a q hq;have hilt:=(Ya.1 hq).1;have hidx:(tbP y h9.size ⟨some ⟨h19.size,0,none⟩,y.m.n.toNat,y.m.n.toNat⟩ qs++qs.map (nest 3 1 inC)++O)[2+a]?=some (.sl q.1 3 1 ((natI l).map inC)):=by
     have:=get_mid (P:=tbP y h9.size ⟨some ⟨h19.size,0,none⟩,y.m.n.toNat,y.m.n.toNat⟩ qs) (Q:=qs.map (nest 3 1 inC)) (R:=O) (i:=a) (by rw[Yc];exact hilt);rw[show (tbP y h9.size ⟨some ⟨h19.size,0,none⟩,y.m.n.toNat,y.m.n.toNat⟩ qs).length=2 from rfl] at this;rw[this,Yd,hq,<-hql];rfl
    have hlm':∀z∈l,z<y.m.mv.length:=fun z hz=>by
     obtain⟨x,hx,_⟩:=outIx_mem.1 (hlp.mem_iff.1 hz);exact (Ya.1 hx).1
    have hll:l.length<=1048576:=by
     rw[hlp.length_eq];unfold outIx;exact Yys (List.length_filter_le _ _) (by rw[Yyd];omega)
    have hbg:(tbP y h9.size ⟨some ⟨h19.size,0,none⟩,y.m.n.toNat,y.m.n.toNat⟩ qs++qs.map (nest 3 1 inC)++O)[1]?=some (.blk h9.size (MR.cs y) 88):=rfl;have hap:∀b,q.1.a.map (·.block)=some b->b≠h9.size:=fun b hb e=>by
     have h1:=(List.pairwise_iff_getElem.1 hs.ap) 1 (2+a) (Ya.1 hbg).1 (Ya.1 hidx).1 (by omega);rw[(Ya.1 hbg).2,(Ya.1 hidx).2] at h1;exact h1 h9.size rfl (by show q.1.a.map (·.block)=_;rw[hb,e])
    have hfr:∀b,q.1.a.map (·.block)=some b->h.size<=b:=fun b hb=>(hs.ok _ (Yb hidx)).2 b hb;refine (sort64 y.m y.g ⟨h9.size,0,none⟩ hs (2+a) hidx hlm' (fun hl0=>hS'.e a q hq (by rw[hql,hl0];rfl)) (by omega) hll fun h' hsz hoth=>?_).mono ?_
    ·have E':Ext h h':=⟨Yys hs.ext.1 hsz,fun c hc=>by
      rw[hoth c (by have:=hs.ext.1;omega) fun e=>by have:=hfr c e;omega];exact hs.ext.2 c hc⟩
     refine⟨?_,hM.pm.rw.ext E'⟩;have h1:hc h52 ⟨h9.size,0+4,none⟩=some (.slice y.g.a y.g.n y.g.c):=hs.rd 1 rfl rfl;rw[hc_of_block (h:=h52) (by
      show h'[h9.size]?=h52[h9.size]?;refine hoth h9.size (hc_blk h1) fun e=>hap h9.size e rfl)]
     exact h1
    ·rintro _ h57 ⟨rfl,l',hp',hs'',hst⟩;refine⟨rfl,?_⟩;have hset:(tbP y h9.size ⟨some ⟨h19.size,0,none⟩,y.m.n.toNat,y.m.n.toNat⟩ qs++qs.map (nest 3 1 inC)++O).set (2+a) (.sl q.1 3 1 ((natI l').map inC))=tbP y h9.size ⟨some ⟨h19.size,0,none⟩,y.m.n.toNat,y.m.n.toNat⟩ (qs.set a (q.1,natI l'))++(qs.set a (q.1,natI l')).map (nest 3 1 inC)++O:=by
      have h1:=set_mid (P:=tbP y h9.size ⟨some ⟨h19.size,0,none⟩,y.m.n.toNat,y.m.n.toNat⟩ qs) (R:=O) (Q:=qs.map (nest 3 1 inC)) (i:=a) (by rw[Yc];exact hilt) (.sl q.1 3 1 ((natI l').map inC));rw[show (tbP y h9.size ⟨some ⟨h19.size,0,none⟩,y.m.n.toNat,y.m.n.toNat⟩ qs).length=2 from rfl] at h1;rw[h1,List.map_set];have h2:tbP y h9.size ⟨some ⟨h19.size,0,none⟩,y.m.n.toNat,y.m.n.toNat⟩ (qs.set a (q.1,natI l'))=tbP y h9.size ⟨some ⟨h19.size,0,none⟩,y.m.n.toNat,y.m.n.toNat⟩ qs:=by
       unfold tbP;rw[fst_set,list_set_self (by rw[Yd,hq];rfl)]
      rw[h2];rfl
     rw[hset] at hst;refine Up.next c (by omega) ⟨qs.set a (q.1,natI l'),⟨by rw[Yyh];exact hl,fun n q' hq'=>?_,fun n q' hq' he=>?_⟩,hst⟩;rotate_left
     ·by_cases e:n=a
      ·subst e;rw[Yq hilt] at hq';cases hq';have hl0:l'=[]:=by
        cases l' with
        | nil=>rfl
        | cons a r=>cases he
       subst hl0;exact hS'.e n q hq (by rw[hql,List.nil_perm.1 hp'];rfl)
      ·rw[Yy (fun h=>e h.symm)] at hq';exact hS'.e n q' hq' he
     by_cases e:n=a
     ·subst e;rw[Yq hilt] at hq';cases hq';exact⟨l',rfl,hp'.trans hlp,fun _=>hs''⟩
     ·rw[Yy (fun h=>e h.symm)] at hq';obtain⟨l2,k1,k2,k3⟩:=hS'.q n q' hq';exact⟨l2,k1,k2,fun hn=>k3 (by omega)⟩
   ·replace c:=lt_f c;have hs:=hs.perm List.perm_append_comm;rw[<-hO] at hs;have hon:=hs.len 2 (s:=osl) rfl (by omega);rw[Yc,hTl] at hon;refine⟨osl,hs.rd 1 rfl (i:=2) rfl,?_⟩;refine hs.app 2 (s:=osl) (n:=1) (rows:=T.map fun t=>slC t.o) rfl app145 (m:=1) [slC ⟨some ⟨h19.size,0,none⟩,y.m.n.toNat,y.m.n.toNat⟩] rfl rfl (fun r hr=>by rw[Ye] at hr;rw[hr];rfl) rfl (by omega) (by simp only[maxLen];omega) fun r2 h58 nr hs=>?_;refine hs.put 1 rfl (o:=2) (vs:=[.slice r2.a r2.n r2.c]) rfl (show 3<=4 by decide) fun h59 hs=>?_;refine⟨_,(show L.length-(i+1)<L.length-i by omega),i+1,T++[⟨⟨some ⟨h19.size,0,none⟩,y.m.n.toNat,y.m.n.toNat⟩,qs⟩],r2,by rw[w64 (by omega) (by omega)];omega,rfl,by omega,by rw[Yh,hTl];rfl,fun p y' t hy' ht=>?_,?_⟩
    ·by_cases e:p=i
     ·subst e;rw[gy] at hy';cases hy';rw[Yyc (by omega),hTl,Nat.sub_self] at ht;cases ht;refine⟨rfl,hl,fun j q hq=>?_⟩;obtain⟨l,k1,k2,k3⟩:=hS'.q j q hq;have hjl:=(Ya.1 hq).1;dsimp only at hjl;rw[k1,mvS_eq hvm.2.1.d k2 (k3 (by omega))]
     ·have htl:=(Ya.1 ht).1;rw[Yh,Yv] at htl;rw[Yyi (by omega)] at ht;exact hF p y' t hy' ht
    ·rw[tabs_snoc,Ym];refine hs.sub ?_;refine .cons_cons _ (.cons_cons _ (.cons_cons _ ?_));refine List.Sublist.append (l₁:=tabs T) (List.Sublist.refl _) ?_;exact .cons_cons _ (.cons _ (List.Sublist.refl _))
 ·have hil:i=L.length:=by omega
  exact⟨eb,h.size,_,osl,_,_,rfl,hs,eng_sta L s k eb h.size osl T (by omega) hF⟩
end Go.VC
end
