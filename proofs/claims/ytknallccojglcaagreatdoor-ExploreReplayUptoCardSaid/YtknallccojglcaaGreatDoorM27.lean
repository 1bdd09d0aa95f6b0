/- KwVeE KeO KwVeF KeR KwArgs. -/
import Derived.Test.YtknallccojglcaaGreatDoorM26
import Derived.Test.YtknallccojglcaaGreatDoorRows
set_option linter.unusedVariables false
set_option linter.unusedSimpArgs false
set_option maxRecDepth 100000

section
namespace Go.VC
open Go.Proofs
variable {h:Heap} {R:Value->Heap->Prop}

def V3a (p0:Sl) (p1 p2:Int) (h6:Heap) (R:Value->Heap->Prop):Prop:=
 Fn Pz 13 #[vS p0,vI p1,vI p2] h6 (fun v7 h14=>∃(x8:Int) (x9 x10:Sl) (x11:Int) (x12:Sl) (x13:Int),v7=.tuple ⟨[.agg ⟨(L6 x8 x9 x10 x11 x12)⟩,vI x13]⟩/\Wn h14 [vI 0,.slice none 0 0,.slice none 0 0,vI 0,.slice none 0 0] 32 fun h15=>Wp h15 (aS h14 0) 5 (L6 x8 x9 x10 x11 x12) fun h16=>Fn Pz 14 #[vS p0,vI p1,vI p2] h16 (fun v17 h24=>∃(x18:Int) (x19 x20:Sl) (x21:Int) (x22:Sl) (x23:Int),v17=.tuple ⟨[.agg ⟨(L6 x18 x19 x20 x21 x22)⟩,vI x23]⟩/\Wn h24 [vI 0,.slice none 0 0,.slice none 0 0,vI 0,.slice none 0 0] 39 fun h25=>Wp h25 (aS h24 0) 5 (L6 x18 x19 x20 x21 x22) fun h26=>sB (x13==x23) (∃x27 x28 x29 x30 x31,aL6 h26 (aS h14 0) x27 x28 x29 x30 x31/\∃x32 x33 x34 x35 x36,aL6 h26 (aS h24 0) x32 x33 x34 x35 x36/\Fn Pz 15 #[.agg ⟨(L6 x27 x28 x29 x30 x31)⟩,.agg ⟨(L6 x32 x33 x34 x35 x36)⟩] h26 (fun v37 h39=>∃x38,iB v37 x38/\R (.bool x38) h39)) (R (.bool false) h26)))
def W3 (p0:Sl) (p1 p2:Int):Prop:=
 (Fn Pz 11 #[] h (fun v1 h3=>∃x2,iB v1 x2/\sB (!x2) (R (.bool false) h3) (Fn Pz 12 #[vS p0,.agg ⟨[.slice none 0 0,.slice none 0 0]⟩] h3 (fun v4 h6=>∃x5,iB v4 x5/\sB (!x5) (R (.bool true) h6) (sB (decide (p2>150)) (sB (decide (p2<=20000)) (R (.bool true) h6) (V3a p0 p1 p2 h6 R)) (V3a p0 p1 p2 h6 R)))))) /- farandole/farandolelaw28.ExploreLimits loop rrrrrrrrrrrlrb: x_68:Int loop rrrrrrrrrrlrb: x_51:Int -/ /- farandole/farandolelaw28.ExploreRoom loop rrrrrrrrrrrlrb: x_53:Int loop rrrrrrrrlrb: full_32:Bool,x_33:Int -/ /- farandole/farandolelaw28.awake -/ def W11 (h:Heap) (R:Value->Heap->Prop):Prop:=(Fn Pz 30 #[.bool true] h (fun v1 h10=>∃(x2:ByteArray) (x3 x4:Sl) (x5 x6 x7:Int) (x8 x9:Sl),v1=.agg ⟨(L2 x2 x3 x4 x5 x6 x7 x8 x9)⟩/\Fn Pz 29 #[.agg ⟨(L2 x2 x3 x4 x5 x6 x7 x8 x9)⟩] h10 (fun v11 h14=>∃(x12:Sl) (x13:Int),v11=.tuple ⟨[vS x12,vI x13]⟩/\Fn Pz 13 #[vS x12,vI 1,vI 1000] h14 (fun v15 h22=>∃(x16:Int) (x17 x18:Sl) (x19:Int) (x20:Sl) (x21:Int),v15=.tuple ⟨[.agg ⟨(L6 x16 x17 x18 x19 x20)⟩,vI x21]⟩/\Wn h22 [vI 0,.slice none 0 0,.slice none 0 0,vI 0,.slice none 0 0] 32 fun h23=>Wp h23 (aS h22 0) 5 (L6 x16 x17 x18 x19 x20) fun h24=>sB (x13==0) (sB (x21==0) (∃x25,rI h24 (aS h22 0) x25/\sB (x25==1) (∃x26,rS h24 (aS h22 1) x26/\sB (decide ((x26.n:Int)>5)) (∃x27,rS h24 (aS h22 2) x27/\sB ((x27.n:Int)==9) (∃x28,rS h24 (aS h22 2) x28/\NB x28.a fun b29 o30=>Ib 1 x28.n/\∃x31,rI h24 ⟨b29,o30+Int.toNat 1*1,none⟩ x31/\R (.bool (x31==1)) h24) (R (.bool false) h24)) (R (.bool false) h24)) (R (.bool false) h24)) (R (.bool false) h24)) (R (.bool false) h24)))))
theorem vc11  (H:@W11 h R ):Fn Pz 11 #[] h R:=fnI (A:=.z) (by kernel_rfl) H

end Go.VC
end

section
namespace Go.VC
open Go.Proofs Go.LexS
def cstP (n:Nat) (k:Int) (S:List Int) (BL:List (List Int)) (p:Nat) (m:Mch):List Nat:=(List.range m.mv.length).filter (posB n k S BL p m)
def cstS (L:List Mch) (k:Int) (c:Cf):List (Nat × Nat):=(List.range L.length).flatMap fun p=>match L[p]? with
 | some m=>(cstP L.length k c.1 c.2 p m).map fun i=>(p,i)
 | none=>[]
def cstB (L:List Mch) (k:Int) (c:Cf):Bool:=(List.range L.length).all fun p=>match L[p]? with
 | some m=>decide ((cstP L.length k c.1 c.2 p m).Pairwise fun a b=>¬evLt (evI m b) (evI m a))
 | none=>true
theorem cst_eq {L:List Mch} {k:Int} {c:Cf} (hV:SysV L) (h:cstB L k c=true):stepsS L k c.1 c.2=cstS L k c:=by
 unfold stepsS cstS;rw[List.flatMap_def,List.flatMap_def];congr 1;refine List.map_congr_left fun p hp=>?_;unfold stepsR;unfold cstB at h;rw[List.all_eq_true] at h;have hp1:=h p hp;cases gm:L[p]? with
 | none=>rfl
 | some m=>
  rw[gm] at hp1;dsimp only at hp1 ⊢;rw[stepsP_of (hV.m p m gm).2.1.d rfl (Yyn hp1)];rfl
def cexp (m:Mch) (s peer label:Int):Bool:=m.mv.any fun x=>decide (x.f=s)&&(!x.send&&(decide (x.peer=peer)&&decide (x.label=label)))
theorem cexp_ok {m:Mch} {s peer label:Int} (h:cexp m s peer label=true):ExpM m s peer label:=by
 unfold cexp at h;rw[List.any_eq_true] at h;obtain⟨x,hx,h⟩:=h;simp only[Yt,decide_eq_true_eq,Bool.not_eq_true'] at h;exact⟨s,.base (Ye.2 rfl),x,hx,h.1,⟨h.2.1,h.2.2.1⟩,h.2.2.2⟩
def cbox (L:List Mch) (c:Cf):Bool:=(List.range c.2.length).all fun i=>match c.2[i]? with
 | some (b::_)=>match L[i%L.length]?,c.1[i%L.length]? with
  | some m,some s=>cexp m s ((i/L.length:Nat):Int) b
  | _,_=>true
 | _=>true
def cfin (L:List Mch) (c:Cf):Bool:=((List.range c.1.length).all fun p=>match c.1[p]?,L[p]? with
 | some s,some m=>decide (m.fin[s.toNat]?=some true)
 | _,_=>true)&&c.2.all fun b=>b.isEmpty
def cok (L:List Mch) (k:Int) (c:Cf):Bool:=cstB L k c&&(cbox L c&&(!(cstS L k c).isEmpty||cfin L c))
theorem cok_ok {L:List Mch} {k:Int} {c:Cf} (hV:SysV L) (h:cok L k c=true):badS L k c.1 c.2=0/\stepsS L k c.1 c.2=cstS L k c:=by
 unfold cok at h;simp only[Yt] at h;obtain⟨h1,h2,h3⟩:=h;have hst:=cst_eq hV h1;refine⟨badS_0 ?_ ?_,hst⟩
 ·rintro⟨i,b,l,m,s,g1,g2,g3,g4⟩;unfold cbox at h2;rw[List.all_eq_true] at h2;have:=h2 i (List.mem_range.2 (Ya.1 g1).1);rw[g1] at this;dsimp only at this;rw[g2,g3] at this;exact g4 (cexp_ok this)
 ·rw[Bool.or_eq_true] at h3;rcases h3 with h3 | h3
  ·refine .inr fun h=>?_;rw[<-hst,h] at h3;cases h3
  ·refine .inl ?_;unfold cfin at h3;rw[Yt,List.all_eq_true,List.all_eq_true] at h3;refine⟨fun p s m g1 g2=>?_,fun b hb=>List.isEmpty_iff.1 (h3.2 b hb)⟩;have:=h3.1 p (List.mem_range.2 (Ya.1 g1).1);rw[g1,g2] at this;exact Yyn this
def exC (L:List Mch) (k:Int) (lim:Nat):Nat->Nat->List Qe->Option (List Cf)
 | 0,_,_=>none
 | f+1,i,Q=>match Q[i]? with
  | none=>some (Q.map Prod.fst)
  | some e=>if cok L k e.1=true then match exI L lim e (cstS L k e.1) Q with
   | none=>none
   | some Q'=>exC L k lim f (i+1) Q'
   else none
theorem exC_eq {L:List Mch} {k:Int} {lim:Nat} (hV:SysV L):∀(f i:Nat) (Q:List Qe) (R:List Cf),exC L k lim f i Q=some R->exO L k lim f i Q=.safe R
 | 0,_,_,_,h=>by cases h
 | f+1,i,Q,R,h=>by
  rw[exC] at h;rw[exO];cases hq:Q[i]? with
  | none=>rw[hq] at h;cases h;rfl
  | some e=>
   rw[hq] at h;dsimp only at h ⊢;split at h
   ·rename_i hc;obtain⟨h1,h2⟩:=cok_ok hV hc;rw[if_neg (fun hn=>hn h1),h2];cases hi:exI L lim e (cstS L k e.1) Q with
    | none=>rw[hi] at h;cases h
    | some Q'=>rw[hi] at h;exact exC_eq hV f (i+1) Q' R h
   ·cases h
theorem exC_mono {L:List Mch} {k:Int} {lim:Nat}:∀(f i:Nat) (Q:List Qe) (R:List Cf),exC L k lim f i Q=some R->exC L k lim (f+1) i Q=some R
 | 0,_,_,_,h=>by cases h
 | f+1,i,Q,R,h=>by
  rw[exC] at h;rw[exC];cases hq:Q[i]? with
  | none=>rw[hq] at h;exact h
  | some e=>
   rw[hq] at h;dsimp only at h ⊢;split at h
   ·rename_i hc;rw[if_pos hc];cases hi:exI L lim e (cstS L k e.1) Q with
    | none=>rw[hi] at h;cases h
    | some Q'=>rw[hi] at h;exact exC_mono f (i+1) Q' R h
   ·cases h
theorem exC_more {L:List Mch} {k:Int} {lim:Nat} (f i:Nat) (Q:List Qe) (R:List Cf) (h:exC L k lim f i Q=some R):∀d,exC L k lim (f+d) i Q=some R
 | 0=>h
 | d+1=>exC_mono _ _ _ _ (exC_more f i Q R h d)
def xRes:List Cf:=((exC xL 1 1000 20 0 (q0 xL)).getD [])
theorem xres_eq:exC xL 1 1000 20 0 (q0 xL)=some xRes:=by kernel_rfl
theorem xres_len:xRes.length=12:=by kernel_rfl
theorem xres_most:mostS 3 xRes=[0,1,0,0,0,1,0,1,0]:=by kernel_rfl
theorem xsearch:exS xL 1 1000=.safe xRes:=exC_eq xsys _ _ _ _ (exC_more 20 0 (q0 xL) xRes xres_eq 981)
theorem awake11 (h:Heap) (hx:Gx h):Fn Pz 11 #[] h fun v h'=>v=.bool true/\Ext h h':=by
 apply vc11;unfold W11;refine (example34 true h).mono ?_;rintro _ h10 ⟨E10,hr,hd,he,rfl,hg⟩;refine⟨_,hr,hd,_,_,_,he,⟨none,0,0⟩,rfl,?_⟩;refine (all43 (exGl true hr hd he ⟨none,0,0⟩) h10 hg (hx.ext E10) (ex_valid _ _ _ _ _) xL (hg.r.ln.symm) (by decide) (fun i m hi=>?_)).mono ?_
 ·match i,hi with
  | 0,hi=>cases hi;exact⟨xproj _ _ _ _ _ _ _ (by decide) (by decide) (xr0_raw _ _ _ _) xm0_min,by decide,by decide,by decide⟩
  | 1,hi=>cases hi;exact⟨xproj _ _ _ _ _ _ _ (by decide) (by decide) (xm1_raw _ _ _ _) xm1_min,by decide,by decide,by decide⟩
  | 2,hi=>cases hi;exact⟨xproj _ _ _ _ _ _ _ (by decide) (by decide) (xm2_raw _ _ _ _) xm2_min,by decide,by decide,by decide⟩
  | n+3,hi=>exact absurd hi (by simp[xL])
 rintro _ h14 ⟨s,L,rfl,E14,hL,hS⟩;have E0:=E10.trans E14;refine⟨s,0,rfl,?_⟩;refine (explore13 L s 1 1000 h14 hS).mono ?_;rw[hL];have hv:expV xL 1 1000=(⟨1,xRes,mostS 3 xRes,0,[]⟩,0):=by
  unfold expV;rw[if_neg (fun h=>by rcases h with h | h | h;exact h xsys;all_goals omega),if_neg (by omega)];show ((exS xL 1 1000).rv 3,(0:Int))=_;rw[xsearch];rfl
 rw[hv];rintro _ h22 ⟨cf,mo,tr,A,rfl,hs,hR⟩;refine⟨_,cf,mo,_,tr,_,rfl,?_⟩;refine hs.newput (vs:=resA 1 cf mo 0 tr) rfl rfl fun h24 hs=>?_;have hI:=hR.at hs mem1;obtain⟨C,hc1,hc2,hc3⟩:=hI.c;have hcl:C.length=12:=by have:=congrArg List.length hc3;rw[Yc] at this;rw[this];exact xres_len
 have hcn:=hc1.ln;have hm:=hI.m;rw[show (RV.mk 1 xRes (mostS 3 xRes) 0 []).m=[0,1,0,0,0,1,0,1,0] from xres_most] at hm;have hmn:mo.n=9:=hm.ln;refine sB_t rfl (sB_t rfl ⟨1,hs.rd 0 rfl (i:=0) rfl,sB_t rfl ⟨cf,hs.rd 0 rfl (i:=1) rfl,sB_t (by rw[hcn,hcl];rfl) ⟨mo,hs.rd 0 rfl (i:=2) rfl,sB_t (by rw[hmn];rfl) ⟨mo,hs.rd 0 rfl (i:=2) rfl,?_⟩⟩⟩⟩);refine hm.rw.nbI (by omega) (by omega) fun b o q gq t=>?_;cases gq;exact⟨1,t.hd,rfl,E0.trans hs.ext⟩
end Go.VC
end

section
namespace Go.VC
open Go.Proofs
variable {h:Heap} {R:Value->Heap->Prop}

def W6 (p0:Sl) (p1:Int) (p2:Sl):Prop:=
 Fn Pz 11 #[] h
 (fun v1 h3=>∃x2,iB v1 x2 /\
 sB (!x2)
 (R (.bool false) h3)
 (Fn Pz 12 #[vS p0,.agg ⟨[.slice none 0 0,.slice none 0 0]⟩] h3
 (fun v4 h6=>∃x5,iB v4 x5 /\
 sB (!x5)
 (R (.bool true) h6)
 (sB (decide ((p2.n:Int)>60))
 (R (.bool true) h6)
 (QSI ⟨none,0,0⟩ 0 h6 fun I7 l_10 x_11 h12 m9=>
 sB (decide (x_11<(p2.n:Int)))
 (NB p2.a fun b13 o14=>Ib x_11 p2.n /\
 ∃(x15 x16:Int),atC h12 ⟨b13,o14+Int.toNat x_11*2,none⟩ [vI x15,vI x16] /\
 Wn h12 [vI x15,vI x16] 48 fun h17=>
 App Pz 30 30 (vS l_10) (.slice (some (aS h12 0)) 1 1) h17 fun s18 h19=>
 ∃m20,m20<m9/\I7 s18 (IntKind.wrap .i64 (x_11+1)) h19 m20)
 (Fn Pz 19 #[vS p0,vI p1,vS l_10] h12
 (fun v21 h26=>∃(x22 x23:Sl) (x24 x25:Int),v21=.tuple ⟨[.agg ⟨[vS x22,vS x23]⟩,vI x24,vI x25]⟩ /\
 Wn h26 [.slice none 0 0,.slice none 0 0] 50 fun h27=>
 Wp h27 (aS h26 0) 2 [vS x22,vS x23] fun h28=>
 Fn Pz 20 #[vS p0,vI p1,vS p2] h28
 (fun v29 h34=>∃(x30 x31:Sl) (x32 x33:Int),v29=.tuple ⟨[.agg ⟨[vS x30,vS x31]⟩,vI x32,vI x33]⟩ /\
 Wn h34 [.slice none 0 0,.slice none 0 0] 28 fun h35=>
 Wp h35 (aS h34 0) 2 [vS x30,vS x31] fun h36=>
 sB (x25==x33)
 (sB (x24==x32)
 (∃(x37 x38:Sl),atC h36 (aS h26 0) [vS x37,vS x38] /\
 ∃(x39 x40:Sl),atC h36 (aS h34 0) [vS x39,vS x40] /\
 Fn Pz 21 #[.agg ⟨[vS x37,vS x38]⟩,.agg ⟨[vS x39,vS x40]⟩] h36
 (fun v41 h43=>∃x42,iB v41 x42 /\
 R (.bool x42) h43))
 (R (.bool false) h36))
 (R (.bool false) h36)))))))))
theorem vc6 (p0:Sl) (p1:Int) (p2:Sl) (H:@W6 h R p0 p1 p2):Fn Pz 6 #[vS p0,vI p1,vS p2] h R:=fnI (A:=(.s .z (.s .z (.s .z (.s .z (.s (.s .z (.b (.l [(7,.one (.slice)),(28,.one (.int .i64))] .z))) .z)))))) (by kernel_rfl) H

end Go.VC
end

section
namespace Go.VC
open Go.Proofs Go.LexS
noncomputable def repS (L:List Mch) (k:Int):Cf->Int->List (Int × Int)->Cf × Int × Int
 | c,n,[]=>(c,n,0)
 | c,n,q::r=>if (doS L k c.1 c.2 q.1 q.2).1≠0 then (c,n,(doS L k c.1 c.2 q.1 q.2).1) else repS L k (doS L k c.1 c.2 q.1 q.2).2 (n+1) r
open Classical in
noncomputable def rplV (L:List Mch) (k:Int) (X:List (Int × Int)):Cf × Int × Int:=if ¬SysV L\/k<1\/4<k then (([],[]),0,1) else repS L k (startS L,startB L) 0 X
def stI (q:Int × Int):List Value:=[.int .i64 q.1,.int .i64 q.2]
def RplV (o:Cf × Int × Int) (h:Heap) (v:Value) (h':Heap):Prop:=∃(ts tb:Sl) (T:List Bx) (A:List It),v=.tuple ⟨[cfA ts tb,.int .i64 o.2.1,.int .i64 o.2.2]⟩/\T.map Bx.l=o.1.2/\St h h' A/\CfN A ts tb o.1.1 T
theorem RplV.none_ {h h':Heap} {A:List It} (hs:St h h' A) {o:Cf × Int × Int} (ho:o=(([],[]),0,1)):RplV o h (.tuple ⟨[.agg ⟨[.slice none 0 0,.slice none 0 0]⟩,.int .i64 0,.int .i64 1]⟩) h':=by
 subst ho;exact⟨⟨none,0,0⟩,⟨none,0,0⟩,[],A,rfl,rfl,hs,fun _ _ _ _ _=>CfI.none_⟩
set_option maxHeartbeats 3200000 in
theorem replay19 (L:List MR) (s:Sl) (k:Int) (X:List (Int × Int)) (xs:Sl) (h:Heap) (hS:SyI h s L) (hX:RL h 2 xs stI X) :
  Fn Pz 19 #[.slice s.a s.n s.c,.int .i64 k,.slice xs.a xs.n xs.c] h (RplV (rplV (L.map MR.m) k X) h):=by
 apply vc19 s k xs;unfold W19 V19a;have hn:=hS.r.ln;have hxn:=hX.ln;have hxm:=hX.sm;have hlm:(L.map MR.m).length=L.length:=Yc _;refine (St.refl h).newb fun h1 hs=>?_;refine (start14 L s h1 (hS.ext hs.ext)).mono ?_;rintro _ h6 ⟨ss,sb,S,B,e,A1,rfl,hs1,hM,hv1,hv2⟩;have hs:=hs.join hs1;refine⟨ss,sb,e,rfl,?_⟩;refine hs.put 0 rfl (o:=0) (vs:=[.slice ss.a ss.n ss.c,.slice sb.a sb.n sb.c]) rfl (show 2<=2 by decide) fun h7 hs=>?_;have hs:St h h7 ([.blk h.size [.slice ss.a ss.n ss.c,.slice sb.a sb.n sb.c] 50]++A1):=hs;have fin:rplV (L.map MR.m) k X=(([],[]),0,1)->okAt h7 ⟨h.size,0,none⟩ 2/\∀h8:Heap,h8=hputs h7 ⟨h.size,0,none⟩ 0 [.slice none 0 0,.slice none 0 0] -> 
  (∃x9:Sl,∃x10:Sl,atC h8 ⟨h.size,0,none⟩ [.slice x9.a x9.n x9.c,.slice x10.a x10.n x10.c] /\ 
  RplV (rplV (L.map MR.m) k X) h (.tuple ⟨[.agg ⟨[.slice x9.a x9.n x9.c,.slice x10.a x10.n x10.c]⟩,.int .i64 0,.int .i64 1]⟩) h8):=fun ho=>by
  refine hs.put 0 rfl (o:=0) (vs:=[.slice none 0 0,.slice none 0 0]) rfl (show 2<=2 by decide) fun h9 hs=>?_;exact⟨⟨none,0,0⟩,⟨none,0,0⟩,hs.at 0 rfl (o:=0) (n:=2) rfl,RplV.none_ hs ho⟩
 by_cases hV:SysV (L.map MR.m);rotate_left
 ·obtain⟨rfl,-,-⟩:=hv2 hV;exact sB_t rfl (fin (if_pos (.inl hV)))
 obtain⟨rfl,rfl,rfl⟩:=hv1 hV;refine sB_f rfl ?_;refine sBi (fun c1=>fin (if_pos (.inr (.inl c1)))) (fun c1=>?_);refine sBi (fun c2=>fin (if_pos (.inr (.inr c2)))) (fun c2=>?_);have ho:rplV (L.map MR.m) k X=repS (L.map MR.m) k (startS (L.map MR.m),startB (L.map MR.m)) 0 X:=if_neg fun h=>by
  rcases h with h | h | h
  ·exact h hV
  ·omega
  ·omega
 clear fin;have hA1:CfN A1 ss sb (startS (L.map MR.m)) (List.replicate ((L.map MR.m).length*(L.map MR.m).length) bx0):=fun h0 hh A' hA hs=>(hM.mono hA).cfi hs;generalize rplV (L.map MR.m) k X=o at *;refine⟨fun x h' μ=>∃(i:Nat) (c1 c2:Sl) (S:List Int) (B:List Bx) (A:List It),x=(i:Int)/\μ=X.length-i/\i<=X.length/\repS (L.map MR.m) k (S,B.map Bx.l) (i:Int) (X.drop i)=o/\CfN A c1 c2 S B /\
  St h h' ([.blk h.size [.slice c1.a c1.n c1.c,.slice c2.a c2.n c2.c] 50]++A),⟨_,0,ss,sb,_,_,A1,rfl,rfl,Nat.zero_le _,by rw[bxs0];exact ho.symm,hA1,hs⟩,?_⟩
 clear hs hA1 hM hs1 ho hv1 hv2;rintro-_ h21 μ ⟨i,c1,c2,S,B,A,rfl,rfl,hi,ho,hC,hs⟩;refine sBi (fun c3=>?_) (fun c3=>?_)
 ·obtain⟨⟨a,b⟩,gz⟩:=get_some (l:=X) (i:=i) (by omega);refine (hX.rw.ext hs.ext).nbI (by omega) (by omega) fun b22 o23 z gz' t=>?_;rw[Ys,gz] at gz';cases gz';refine⟨a,b,t,?_⟩;refine hs.newput (vs:=[.int .i64 a,.int .i64 b]) rfl rfl fun h27 hs=>?_;refine⟨c1,c2,hs.at 1 rfl (o:=0) (n:=2) rfl,a,b,hs.at 0 rfl (o:=0) (n:=2) rfl,?_⟩;refine (do27 L s k c1 c2 S B a b h27 (hS.ext hs.ext) (hC.at hs (memP (P:=[_,_])))).mono ?_;rintro _ h36 ⟨ts,tb,T,A2,rfl,hT,hs2,hM2⟩;have hs:=hs.join hs2;have hC2:CfN A2 ts tb _ T:=fun h0 hh A' hA hs=>(hM2.mono hA).cfi hs;rw[drop_get gz,repS] at ho;dsimp only at ho;refine⟨ts,tb,_,rfl,?_⟩;refine hs.newput (vs:=[.slice ts.a ts.n ts.c,.slice tb.a tb.n tb.c]) rfl rfl fun h38 hs=>?_;refine sBn (fun c4=>?_) (fun c4=>?_)
  ·rw[if_pos c4] at ho;refine⟨c1,c2,hs.at 2 rfl (o:=0) (n:=2) rfl,?_⟩;refine hs.put 2 rfl (o:=0) (vs:=[.slice c1.a c1.n c1.c,.slice c2.a c2.n c2.c]) rfl (show 2<=2 by decide) fun h41 hs=>?_;refine⟨c1,c2,hs.at 2 rfl (o:=0) (n:=2) rfl,c1,c2,B,_,by rw[<-ho];rfl,by rw[<-ho],hs,?_⟩;rw[<-ho];exact hC.mono fun i hi=>memP (P:=[_,_,_]) i (List.mem_append_left _ hi)
  ·rw[if_neg (fun h=>h c4)] at ho;refine⟨ts,tb,hs.at 0 rfl (o:=0) (n:=2) rfl,?_⟩;refine hs.put 2 rfl (o:=0) (vs:=[.slice ts.a ts.n ts.c,.slice tb.a tb.n tb.c]) rfl (show 2<=2 by decide) fun h46 hs=>?_;refine⟨_,(show X.length-(i+1)<X.length-i by omega),i+1,ts,tb,_,T,A++A2,by rw[w64 (by omega) (by omega)];omega,rfl,by omega,?_,hC2.mono fun i hi=>List.mem_append_right _ hi,hs.drop 2⟩;rw[hT];exact ho
 ·have hie:i=X.length:=by omega
  subst hie;rw[List.drop_length,repS] at ho;refine⟨c1,c2,hs.at 0 rfl (o:=0) (n:=2) rfl,?_⟩;refine hs.put 0 rfl (o:=0) (vs:=[.slice c1.a c1.n c1.c,.slice c2.a c2.n c2.c]) rfl (show 2<=2 by decide) fun h50 hs=>?_;refine⟨c1,c2,hs.at 0 rfl (o:=0) (n:=2) rfl,c1,c2,B,_,by rw[<-ho,hxn];rfl,by rw[<-ho],hs,?_⟩;rw[<-ho];exact hC.mono (memP (P:=[_]))
set_option maxHeartbeats 3200000 in
theorem replay20 (L:List MR) (s:Sl) (k:Int) (X:List (Int × Int)) (xs:Sl) (h:Heap) (hS:SyI h s L) (hX:RL h 2 xs stI X) :
  Fn Pz 20 #[.slice s.a s.n s.c,.int .i64 k,.slice xs.a xs.n xs.c] h (RplV (rplV (L.map MR.m) k X) h):=by
 apply vc20 s k xs;unfold W20 V20b V20a;have hn:=hS.r.ln;have hxn:=hX.ln;have hxm:=hX.sm;have hlm:(L.map MR.m).length=L.length:=Yc _;refine (St.refl h).newb fun h1 hs=>?_;refine (refSys23 L s h1 (hS.ext hs.ext)).mono ?_;rintro _ h4 ⟨⟨bv,rfl,hbv⟩,E4⟩;have hs:=hs.step E4;have fin:rplV (L.map MR.m) k X=(([],[]),0,1)->okAt h4 ⟨h.size,0,none⟩ 2/\∀h8:Heap,h8=hputs h4 ⟨h.size,0,none⟩ 0 [.slice none 0 0,.slice none 0 0] -> 
  (∃x9:Sl,∃x10:Sl,atC h8 ⟨h.size,0,none⟩ [.slice x9.a x9.n x9.c,.slice x10.a x10.n x10.c] /\ 
  RplV (rplV (L.map MR.m) k X) h (.tuple ⟨[.agg ⟨[.slice x9.a x9.n x9.c,.slice x10.a x10.n x10.c]⟩,.int .i64 0,.int .i64 1]⟩) h8):=fun ho=>by
  refine hs.put 0 rfl (o:=0) (vs:=[.slice none 0 0,.slice none 0 0]) rfl (show 2<=2 by decide) fun h9 hs=>?_;exact⟨⟨none,0,0⟩,⟨none,0,0⟩,hs.at 0 rfl (o:=0) (n:=2) rfl,RplV.none_ hs ho⟩
 refine⟨bv,rfl,sB_intro (fun c0=>?_) (fun c0=>?_)⟩
 ·have hn:¬SysV (L.map MR.m):=fun hp=>by rw[hbv.2 hp] at c0;cases c0
  exact fin (if_pos (.inl hn))
 have hV:=hbv.1 (by cases bv with | true=>rfl | false=>cases c0);refine sBi (fun c1=>fin (if_pos (.inr (.inl c1)))) (fun c1=>?_);refine sBi (fun c2=>fin (if_pos (.inr (.inr c2)))) (fun c2=>?_);have hV6:=hV.n;rw[hlm] at hV6;have ho:rplV (L.map MR.m) k X=repS (L.map MR.m) k (startS (L.map MR.m),startB (L.map MR.m)) 0 X:=if_neg fun h=>by
  rcases h with h | h | h
  ·exact h hV
  ·omega
  ·omega
 clear fin;refine (first46 L s h4 (hS.ext hs.ext) hV6.2).mono ?_;rintro _ h17 ⟨ss,sb,A1,rfl,hs1,hM⟩;have hs:=hs.join hs1;have hA1:CfN A1 ss sb (startS (L.map MR.m)) (List.replicate (L.length*L.length) bx0):=fun h0 hh A' hA hs=>(hM.mono hA).cfi hs;refine⟨ss,sb,rfl,?_⟩;refine hs.newput (vs:=[.slice ss.a ss.n ss.c,.slice sb.a sb.n sb.c]) rfl rfl fun h19 hs=>?_;generalize rplV (L.map MR.m) k X=o at *;refine⟨fun x h' μ=>∃(i:Nat) (c1 c2:Sl) (S:List Int) (B:List Bx) (A:List It),x=(i:Int)/\μ=X.length-i/\i<=X.length/\repS (L.map MR.m) k (S,B.map Bx.l) (i:Int) (X.drop i)=o/\CfN A c1 c2 S B /\
  St h h' ([.blk h17.size [.slice c1.a c1.n c1.c,.slice c2.a c2.n c2.c] 28,.blk h.size [.slice none 0 0,.slice none 0 0] 28]++A),⟨_,0,ss,sb,_,_,A1,rfl,rfl,Nat.zero_le _,by rw[bxs0,ho];unfold startB;rw[hlm];rfl,hA1,hs⟩,?_⟩
 clear hs hA1 hM hs1 ho;rintro-_ h24 μ ⟨i,c1,c2,S,B,A,rfl,rfl,hi,ho,hC,hs⟩;refine sBi (fun c3=>?_) (fun c3=>?_)
 ·obtain⟨⟨a,b⟩,gz⟩:=get_some (l:=X) (i:=i) (by omega);refine⟨c1,c2,hs.at 0 rfl (o:=0) (n:=2) rfl,?_⟩;refine (hX.rw.ext hs.ext).nbI (by omega) (by omega) fun b22 o23 z gz' t=>?_;rw[Ys,gz] at gz';cases gz';rw[drop_get gz,repS] at ho;dsimp only at ho;refine⟨a,b,t,And.intro ?_ ?_⟩;refine (refDoQ L s k c1 c2 S B a b (hs.drop 2) (hS.ext hs.ext) hC).mono ?_;rintro _ h35 ⟨ts,tb,T,A2,rfl,hT,hs2,hC2⟩;have hs:=hs.join hs2;refine⟨ts,tb,_,rfl,?_⟩;refine hs.newbE fun h36 E36 hs=>⟨E36.sm,?_⟩;refine hs.put 0 rfl (o:=0) (vs:=[.slice ts.a ts.n ts.c,.slice tb.a tb.n tb.c]) rfl (show 2<=2 by decide) fun h37 hs=>?_;rotate_left;refine hs.newbE fun h47 E47 hs=>⟨E47.sm,?_⟩;refine (refDoQ L s k c1 c2 S B a b (hs.drop 3) (hS.ext hs.ext) hC).mono ?_;rintro _ h52 ⟨ts,tb,T,A2,rfl,hT,hs2,hC2⟩;have hs:=hs.join hs2;refine⟨ts,tb,_,rfl,?_⟩;refine hs.put 0 rfl (o:=0) (vs:=[.slice ts.a ts.n ts.c,.slice tb.a tb.n tb.c]) rfl (show 2<=2 by decide) fun h53 hs=>?_;all_goals
   refine sBn (fun c4=>?_) (fun c4=>?_)
   ·rw[if_pos c4] at ho;refine⟨c1,c2,hs.at 1 rfl (o:=0) (n:=2) rfl,?_⟩;refine hs.put 2 rfl (o:=0) (vs:=[.slice c1.a c1.n c1.c,.slice c2.a c2.n c2.c]) rfl (show 2<=2 by decide) fun h41 hs=>?_;refine⟨c1,c2,hs.at 2 rfl (o:=0) (n:=2) rfl,c1,c2,B,_,by rw[<-ho];rfl,by rw[<-ho],hs,?_⟩;rw[<-ho];exact hC.mono fun i hi=>memP (P:=[_,_,_]) i (List.mem_append_left _ hi)
   ·rw[if_neg (fun h=>h c4)] at ho;refine⟨ts,tb,hs.at 0 rfl (o:=0) (n:=2) rfl,?_⟩;refine hs.put 1 rfl (o:=0) (vs:=[.slice ts.a ts.n ts.c,.slice tb.a tb.n tb.c]) rfl (show 2<=2 by decide) fun h46 hs=>?_;refine⟨_,(show X.length-(i+1)<X.length-i by omega),i+1,ts,tb,_,T,A++A2,by rw[w64 (by omega) (by omega)];omega,rfl,by omega,?_,hC2,hs.drop 1⟩;rw[hT];exact ho
 ·have hie:i=X.length:=by omega
  subst hie;rw[List.drop_length,repS] at ho;refine⟨c1,c2,hs.at 0 rfl (o:=0) (n:=2) rfl,?_⟩;refine hs.put 1 rfl (o:=0) (vs:=[.slice c1.a c1.n c1.c,.slice c2.a c2.n c2.c]) rfl (show 2<=2 by decide) fun h50 hs=>?_;refine⟨c1,c2,hs.at 1 rfl (o:=0) (n:=2) rfl,c1,c2,B,_,by rw[<-ho,hxn];rfl,by rw[<-ho],hs,?_⟩;rw[<-ho];exact hC.mono (memP (P:=[_,_]))
theorem app30s:appB Pz 30 48 2 16=true:=by kernel_rfl
set_option maxHeartbeats 1600000 in
theorem exploreReplay6 (L:List MR) (s:Sl) (k:Int) (X:List (Int × Int)) (xs:Sl) (h:Heap) (hx:Gx h) (hS:SyI h s L) (hX:RL h 2 xs stI X) :
  Fn Pz 6 #[.slice s.a s.n s.c,.int .i64 k,.slice xs.a xs.n xs.c] h fun v h'=>v=.bool true/\Ext h h':=by
 apply vc6 s k xs;unfold W6;have hxn:=hX.ln;have hxm:=hX.sm;refine (awake11 h hx).mono ?_;rintro _ h3 ⟨rfl,E3⟩;refine⟨true,rfl,sB_f rfl ?_⟩;refine (fewC13 L s ⟨none,0,0⟩ ⟨none,0,0⟩ [] [] h3 (hS.ext E3) CfI.none_).mono ?_;rintro _ h6 ⟨⟨b,rfl,hb⟩,E⟩;have E:=E3.trans E;refine⟨b,rfl,sB_intro (fun c=>⟨rfl,E⟩) (fun c=>?_)⟩;refine sBi (fun c1=>⟨rfl,E⟩) (fun c1=>?_);have hs:=((St.refl h).step E).nil_ 48 2;refine⟨fun l x h' μ=>∃i:Nat,x=(i:Int)/\μ=X.length-i/\i<=X.length/\St h h' [.sl l 48 2 ((X.take i).map stI)],⟨_,0,rfl,rfl,Nat.zero_le _,hs⟩,?_⟩;clear hs;rintro-l _ h12 μ ⟨i,rfl,rfl,hi,hs⟩;have hln:=(hs.len 0 (s:=l) rfl (by omega)).1;rw[Yc,Yu] at hln;refine sBi (fun c2=>?_) (fun c2=>?_)
 ·obtain⟨z,gz⟩:=get_some (l:=X) (i:=i) (by omega);refine (hX.rw.ext hs.ext).nbI (by omega) (by omega) fun b22 o23 z' gz' t=>?_;rw[Ys,gz] at gz';cases gz';refine⟨z.1,z.2,t,?_⟩;refine hs.app 0 (s:=l) (n:=2) (rows:=(X.take i).map stI) rfl app30s (m:=1) [stI z] rfl rfl (fun r hr=>by rw[Ye] at hr;rw[hr];rfl) rfl (by omega) (by simp only[maxLen];omega) fun r h19 nr hs=>?_;refine⟨_,(show X.length-(i+1)<X.length-i by omega),i+1,by rw[w64 (by omega) (by omega)];omega,rfl,by omega,?_⟩;rw[take_snoc gz,Ym];exact hs
 ·have hie:i=X.length:=by omega
  subst hie;rw[Yye] at hs;have hl:=hs.len 0 (s:=l) rfl (by omega);refine (replay19 L s k X l h12 (hS.ext hs.ext) ⟨hs.rows 0 rfl (by omega),hl.2.1,hl.2.2,hxm⟩).mono ?_;rintro _ h26 ⟨ts,tb,T,A,rfl,hT,hs2,hC⟩;have E12:=hs.ext;refine⟨ts,tb,_,_,rfl,?_⟩;refine hs2.newput (vs:=[.slice ts.a ts.n ts.c,.slice tb.a tb.n tb.c]) rfl rfl fun h28 hs=>?_;refine (replay20 L s k X xs h28 (hS.ext (E12.trans hs.ext)) (hX.ext (E12.trans hs.ext))).mono ?_;rintro _ h34 ⟨ts2,tb2,T2,A2,rfl,hT2,hs3,hC2⟩;have hs:=hs.join hs3;refine⟨ts2,tb2,_,_,rfl,?_⟩;refine hs.newput (vs:=[.slice ts2.a ts2.n ts2.c,.slice tb2.a tb2.n tb2.c]) rfl rfl fun h36 hs=>sB_t (by simp) (sB_t (by simp) ?_);refine⟨ts,tb,hs.at 1 rfl (o:=0) (n:=2) rfl,ts2,tb2,hs.at 0 rfl (o:=0) (n:=2) rfl,?_⟩;refine (sameC19 ts tb ts2 tb2 _ _ T T2 h36 (hC.at hs fun i hi=>Yn _ (List.mem_append_left _ (Yn _ hi))) (hC2.at hs fun i hi=>Yn _ (List.mem_append_right _ hi))).mono ?_;rintro _ h43 ⟨⟨b,rfl,hb⟩,E43⟩;exact⟨b,rfl,by rw[hb.2 ⟨rfl,hT.trans hT2.symm⟩],E12.trans (hs.ext.trans E43)⟩
end Go.VC
end

section
namespace Go.VC
open Go.Proofs Go.LexS Go.RowKit Go.ChangeShapes Go.WideShapes Go.Proofs.YtknallccojglcaaGreatDoor
theorem bulk_pos {H:Type} (d:DataW H):1<=Rows.uptoBulk d:=by
 cases d with
 | lit l=>cases l<;>simp[Rows.uptoBulk]
 | _=>simp[Rows.uptoBulk]
theorem bulk_part {H:Type}:∀ {l:List (DataW H)} {d:DataW H},d∈l->Rows.uptoBulk d<=Rows.uptoBulkAll l
 | [],_,h=>by cases h
 | x::r,d,h=>by
  rw[Rows.uptoBulkAll];rcases Yr.1 h with rfl | h
  ·omega
  ·have:=bulk_part h;omega
theorem bulk_len {H:Type}:∀l:List (DataW H),l.length<=Rows.uptoBulkAll l
 | []=>by simp
 | x::r=>by
  have h1:=bulk_pos x;have h2:=bulk_len r;rw[Rows.uptoBulkAll,Yyj];omega
def Rdb (P:Program) (W:World) (t:TypeId) (cs:List Value):Prop:=
 ∃(H:Type) (enc:TypeId × Value->H) (n:Nat) (x:DataW H × List MemPlace),DataW.trod enc P W 0 (fun _=>true) true n t cs=some x/\Rows.uptoBulk x.1<=1048576
theorem Rdb.rdt {P:Program} {W:World} {t:TypeId} {cs:List Value} (h:Rdb P W t cs):Rdt P W t cs:=by
 obtain⟨H,enc,n,x,h1,_⟩:=h;exact⟨H,enc,n,x,h1⟩
theorem rdb_of_trod {H:Type} {enc:TypeId × Value->H} {P:Program} {W:World} {t:TypeId} {v:Value} {d:DataW H} {p:List MemPlace} (h:DataW.Trod enc P W 0 (fun _=>true) true t v d p) (hw:Rows.uptoBulk d<=1048576):Rdb P W t v.cells.toList:=by
 obtain⟨n,h⟩:=h;exact⟨H,enc,n,_,h,hw⟩
theorem Rdb.field {P:Program} {W:World} {t ft:TypeId} {cs:List Value} {i off:Nat} (h:Rdb P W t cs) (hf:fieldAt P t i=some (ft,off)):Rdb P W ft ((cs.drop off).take (P.cellsOf ft)):=by
 unfold fieldAt at hf;split at hf
 ·rename_i fs hu;obtain⟨f,h1,h2⟩:=Yya.1 hf;cases h2;obtain⟨H,enc,n,x,h,hw⟩:=h;obtain⟨xs,m,_,hx,hl,hxl,hfi⟩:=DataW.trod_struct hu h;have hlt:i<xs.length:=by rw[hxl];exact (Yyg.1 h1).1
  refine⟨H,enc,m,xs[i],by rw[hfi i f h1,Yi hlt],?_⟩;rw[hx,Rows.uptoBulk] at hw;have:=bulk_part (l:=xs.map (·.1)) (d:=xs[i].1) (Yp.2 ⟨xs[i],List.getElem_mem hlt,rfl⟩);omega
 ·cases hf
theorem Rdb.rows {P:Program} {W:World} {t e:TypeId} {cs:List Value} (ht:P.underlying t=some (.slice e)) (h:Rdb P W t cs) (hpos:0<P.cellsOf e) :
  ∃(s:Sl) (rows:List (List Value)),cs=[.slice s.a s.n s.c]/\s.n<=s.c/\s.n<=1048576/\(s.a=none->s.n=0/\s.c=0)/\Rw W.heap (P.cellsOf e) s rows/\∀r∈rows,r.length=P.cellsOf e/\Rdb P W e r:=by
 obtain⟨H,enc,n,x,h,hw⟩:=h;rcases DataW.trod_slice ht h with ⟨rfl,_⟩ | ⟨a,len,cap,elems,rest,m,_,rfl,hx,_,hlc,hcm,hel,helem,_,_⟩
 ·exact⟨⟨none,0,0⟩,[],rfl,Yyt _,Nat.zero_le _,fun _=>⟨rfl,rfl⟩,Rw.nil,fun r hr=>by cases hr⟩
 ·rw[hx,Rows.uptoBulk] at hw;have hle:len<=1048576:=by
   have:=bulk_len (elems.map (·.1));rw[Yc] at this;omega
  have hwe:∀(i:Nat) (hi:i<elems.length),Rows.uptoBulk elems[i].1<=1048576:=fun i hi=>by
   have:=bulk_part (l:=elems.map (·.1)) (d:=elems[i].1) (Yp.2 ⟨elems[i],List.getElem_mem hi,rfl⟩);omega
  by_cases h0:len=0
  ·subst h0;exact⟨⟨some a,0,cap⟩,[],rfl,hlc,hle,fun e=>(by cases e),Rw.empty rfl,fun r hr=>by cases hr⟩
  ·have hrow:∀i,i<len->∃r,W.cells? 0 (a.add (i*P.cellsOf e)) (P.cellsOf e)=some r/\Rdb P W e r:=by
    intro i hi;have h1:=helem i hi;rw[Yi (by omega)] at h1;obtain⟨r,hr,hx2⟩:=Option.bind_eq_some_iff.1 h1;exact⟨r,hr,H,enc,m,_,hx2,hwe i (by omega)⟩
   let row:Nat->List Value:=fun i=>(W.cells? 0 (a.add (i*P.cellsOf e)) (P.cellsOf e)).getD []
   have hrow':∀i,i<len->W.cells? 0 (a.add (i*P.cellsOf e)) (P.cellsOf e)=some (row i)/\Rdb P W e (row i):=fun i hi=>by
    obtain⟨r,hr,hx⟩:=hrow i hi;have:row i=r:=by show (W.cells? 0 _ _).getD []=r;rw[hr];rfl
    rw[this];exact⟨hr,hx⟩
   have hget:∀i,i<len->((List.range len).map row)[i]?=some (row i):=fun i hi=>by
    rw[Yd,Yyb hi];rfl
   have hspot:a=⟨a.block,a.off,none⟩:=by
    have hc:=(cells_at (hrow' 0 (by omega)).1);have hl0:0<(row 0).length:=by rw[hc.1];exact hpos
    have:=hc.2 0 _ (Yi hl0);rw[Nat.zero_mul,show (a.add 0).add 0=a from rfl] at this;unfold World.cell? at this;split at this
    ·split at this
     ·cases this
     ·rename_i hs;cases a with
      | mk b o s=>
       cases s with
       | none=>rfl
       | some s=>exact absurd rfl hs
    ·cases this
   refine⟨⟨some a,len,cap⟩,(List.range len).map row,rfl,hlc,hle,fun e=>(by cases e),⟨by simp,fun _=>⟨a.block,a.off,by rw[<-hspot],fun i r hi j v hj=>?_⟩⟩,fun r hr=>?_⟩
   ·have hil:i<len:=by have:=(Ya.1 hi).1;simpa using this
    rw[hget i hil] at hi;cases hi;have h4:=(cells_at (hrow' i hil).1).2 _ _ hj;rw[hspot] at h4;have e:((⟨a.block,a.off,none⟩:Addr).add (i*P.cellsOf e)).add j=addk ⟨a.block,a.off+i*P.cellsOf e,none⟩ j:=by
     rw[addk_at,add_n,add_n]
    rw[e] at h4;exact h4
   ·obtain⟨i,hi,rfl⟩:=Yp.1 hr;have:=hrow' i (List.mem_range.1 hi);exact⟨(cells_at this.1).1,this.2⟩
theorem Rdb.list {α:Type} {P:Program} {W:World} {t e:TypeId} {k:Nat} {v:Value} {cs:α->List Value} {Q:α->Prop} (ht:P.underlying t=some (.slice e)) (hk:P.cellsOf e=k) (hpos:0<k)
  (ho:∀r,Rdb P W e r->∃x,r=cs x/\Q x) (h:Rdb P W t [v]):∃(s:Sl) (L:List α),v=.slice s.a s.n s.c/\RL W.heap k s cs L/\∀x∈L,Q x:=by
 subst hk;obtain⟨s,rows,e1,hc,hm,hna,hrw,hr⟩:=h.rows ht hpos;have key:∀rows:List (List Value),(∀r∈rows,r.length=P.cellsOf e/\Rdb P W e r)->∃L:List α,rows=L.map cs/\∀x∈L,Q x:=by
  intro rows
  induction rows with
  | nil=>intro _;exact⟨[],rfl,fun x hx=>by cases hx⟩
  | cons r rows ih=>
   intro h;obtain⟨x,hx,hq⟩:=ho r (h r (by simp)).2;obtain⟨L,hL,hQ⟩:=ih fun y hy=>h y (Yn _ hy);exact⟨x::L,by rw[hx,hL];rfl,fun y hy=>by rcases Yr.1 hy with rfl | hy;exact hq;exact hQ y hy⟩
 obtain⟨L,rfl,hQ⟩:=key rows hr;have hn:=hrw.ln;exact⟨s,L,by simpa using e1,⟨hrw,hc,hna,by omega⟩,hQ⟩
theorem v3:Pz.underlying 3=some (.int .i64):=by kernel_rfl
theorem v4b:Pz.underlying 4=some .bool:=by kernel_rfl
theorem cz3:Pz.cellsOf 3=1:=by kernel_rfl
theorem cz4:Pz.cellsOf 4=1:=by kernel_rfl
theorem cz85:Pz.cellsOf 85=1:=by kernel_rfl
theorem cz86:Pz.cellsOf 86=1:=by kernel_rfl
theorem cz75:Pz.cellsOf 75=1:=by kernel_rfl
theorem cz88:Pz.cellsOf 88=6:=by kernel_rfl
theorem cz199:Pz.cellsOf 199=3:=by kernel_rfl
theorem cz116:Pz.cellsOf 116=6:=by kernel_rfl
theorem vs85:Pz.underlying 85=some (.slice 4):=by kernel_rfl
theorem vs86:Pz.underlying 86=some (.slice 116):=by kernel_rfl
theorem vs75:Pz.underlying 75=some (.slice 199):=by kernel_rfl
theorem open_three {W:World} {t:TypeId} {r:List Value} (hc:Pz.cellsOf t=3) (h0:fieldAt Pz t 0=some (3,0)) (h1:fieldAt Pz t 1=some (3,1)) (h2:fieldAt Pz t 2=some (3,2)) (h:Rdt Pz W t r) :
  ∃a b c:Int,r=[.int .i64 a,.int .i64 b,.int .i64 c]:=by
 have hl:=h.flen h0;rw[hc] at hl
 match r,hl with
 | [x0,x1,x2],_=>
  have f0:=h.field h0;have f1:=h.field h1;have f2:=h.field h2;rw[cz3] at f0 f1 f2;obtain⟨k0,e0,_⟩:=f0.int v3;obtain⟨k1,e1,_⟩:=f1.int v3;obtain⟨k2,e2,_⟩:=f2.int v3;simp only[List.drop_zero,List.take_succ_cons,Yyk,List.drop_succ_cons,List.cons.injEq,and_true] at e0 e1 e2;subst e0 e1 e2;exact⟨k0,k1,k2,rfl⟩
theorem open_boolv {W:World} {r:List Value} (h:Rdb Pz W 4 r):∃x:Bool,r=bC x/\True:=by
 obtain⟨k,e⟩:=h.rdt.bool v4b;exact⟨k,e,trivial⟩
theorem open_limit {W:World} {r:List Value} (h:Rdb Pz W 199 r):∃x:To,r=x.cs/\True:=by
 obtain⟨a,b,c,e⟩:=open_three cz199 (by kernel_rfl) (by kernel_rfl) (by kernel_rfl) h.rdt;exact⟨⟨a,b,c⟩,e,trivial⟩
theorem open_move {W:World} {r:List Value} (h:Rdb Pz W 116 r):∃x:Mv,r=x.cs/\True:=by
 have hl:=h.rdt.flen (i:=0) (ft:=3) (off:=0) (by kernel_rfl);rw[cz116] at hl
 match r,hl with
 | [x0,x1,x2,x3,x4,x5],_=>
  have f0:=h.rdt.field (i:=0) (ft:=3) (off:=0) (by kernel_rfl);have f1:=h.rdt.field (i:=1) (ft:=4) (off:=1) (by kernel_rfl);have f2:=h.rdt.field (i:=2) (ft:=3) (off:=2) (by kernel_rfl);have f3:=h.rdt.field (i:=3) (ft:=3) (off:=3) (by kernel_rfl);have f4:=h.rdt.field (i:=4) (ft:=3) (off:=4) (by kernel_rfl);have f5:=h.rdt.field (i:=5) (ft:=4) (off:=5) (by kernel_rfl);rw[cz3] at f0 f2 f3 f4;rw[cz4] at f1 f5;obtain⟨k0,e0,_⟩:=f0.int v3;obtain⟨k1,e1⟩:=f1.bool v4b;obtain⟨k2,e2,_⟩:=f2.int v3;obtain⟨k3,e3,_⟩:=f3.int v3;obtain⟨k4,e4,_⟩:=f4.int v3;obtain⟨k5,e5⟩:=f5.bool v4b;simp only[List.drop_zero,List.take_succ_cons,Yyk,List.drop_succ_cons,List.cons.injEq,and_true] at e0 e1 e2 e3 e4 e5;subst e0 e1 e2 e3 e4 e5;exact⟨⟨k0,k1,k2,k3,k4,k5⟩,rfl,trivial⟩
theorem open_machine {W:World} {r:List Value} (h:Rdb Pz W 88 r):∃(m:Mch) (sf sm sl:Sl),r=mC m sf sm sl/\MI W.heap m sf sm sl:=by
 have hl:=h.rdt.flen (i:=0) (ft:=3) (off:=0) (by kernel_rfl);rw[cz88] at hl
 match r,hl with
 | [x0,x1,x2,x3,x4,x5],_=>
  have f0:=h.rdt.field (i:=0) (ft:=3) (off:=0) (by kernel_rfl);have f1:=h.rdt.field (i:=1) (ft:=3) (off:=1) (by kernel_rfl);have f2:=h.rdt.field (i:=2) (ft:=3) (off:=2) (by kernel_rfl);have f3:=h.field (i:=3) (ft:=85) (off:=3) (by kernel_rfl);have f4:=h.field (i:=4) (ft:=86) (off:=4) (by kernel_rfl);have f5:=h.field (i:=5) (ft:=75) (off:=5) (by kernel_rfl);rw[cz3] at f0 f1 f2;rw[cz85] at f3;rw[cz86] at f4;rw[cz75] at f5;obtain⟨k0,e0,_⟩:=f0.int v3;obtain⟨k1,e1,_⟩:=f1.int v3;obtain⟨k2,e2,_⟩:=f2.int v3;obtain⟨sf,lf,e3,hf,_⟩:=Rdb.list vs85 cz4 (by omega) (fun r hr=>open_boolv hr) (show Rdb Pz W 85 [x3] from f3);obtain⟨sm,lm,e4,hm,_⟩:=Rdb.list vs86 cz116 (by omega) (fun r hr=>open_move hr) (show Rdb Pz W 86 [x4] from f4);obtain⟨sl,ll,e5,hl,_⟩:=Rdb.list vs75 cz199 (by omega) (fun r hr=>open_limit hr) (show Rdb Pz W 75 [x5] from f5);simp only[List.drop_zero,List.take_succ_cons,Yyk,List.drop_succ_cons,List.cons.injEq,and_true] at e0 e1 e2;subst e0 e1 e2 e3 e4 e5;exact⟨⟨k0,k1,k2,lf,lm,ll⟩,sf,sm,sl,rfl,⟨hf,hm,hl⟩⟩
theorem vsS22:Pz.underlying 22=some (.slice 88):=by kernel_rfl
theorem vsS37:Pz.underlying 37=some (.slice 53):=by kernel_rfl
theorem v44:Pz.underlying 44=some (.array 2 5):=by kernel_rfl
theorem czS53:Pz.cellsOf 53=2:=by kernel_rfl
theorem open_mr {W:World} {r:List Value} (h:Rdb Pz W 88 r):∃x:MR,r=x.cs/\MI W.heap x.m x.f x.g x.l:=by
 obtain⟨m,f,g,l,e,hm⟩:=open_machine h;exact⟨⟨m,f,g,l⟩,e,hm⟩
theorem open_sys {W:World} {v:Value} (h:Rdb Pz W 22 [v]):∃(s:Sl) (L:List MR),v=.slice s.a s.n s.c/\SyI W.heap s L:=by
 obtain⟨s,L,e,hr,hq⟩:=Rdb.list vsS22 cz88 (by omega) (fun r hr=>open_mr hr) h;exact⟨s,L,e,hr,hq⟩
theorem open_step {W:World} {r:List Value} (h:Rdb Pz W 53 r):∃x:Int × Int,r=stI x/\True:=by
 have hl:=h.rdt.flen (i:=0) (ft:=3) (off:=0) (by kernel_rfl);rw[czS53] at hl
 match r,hl with
 | [x0,x1],_=>
  have g0:=h.field (i:=0) (ft:=3) (off:=0) (by kernel_rfl);have g1:=h.field (i:=1) (ft:=3) (off:=1) (by kernel_rfl);rw[cz3] at g0 g1;obtain⟨a,e2,_⟩:=(show Rdb Pz W 3 [x0] from g0).rdt.int v3;obtain⟨b,e3,_⟩:=(show Rdb Pz W 3 [x1] from g1).rdt.int v3;simp only[List.cons.injEq,and_true] at e2 e3;subst e2 e3;exact⟨(a,b),rfl,trivial⟩
theorem open_steps {W:World} {v:Value} (h:Rdb Pz W 37 [v]):∃(s:Sl) (L:List (Int × Int)),v=.slice s.a s.n s.c/\RL W.heap 2 s stI L:=by
 obtain⟨s,L,e,hr,_⟩:=Rdb.list vsS37 czS53 (by omega) (fun r hr=>open_step hr) h;exact⟨s,L,e,hr⟩
end Go.VC
end
