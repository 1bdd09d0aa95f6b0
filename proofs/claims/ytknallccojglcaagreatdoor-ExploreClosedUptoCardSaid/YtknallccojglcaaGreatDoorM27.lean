/- KeO KwVeF KeR KwVcQ KwAh KeQ KeS KeT KeU KwArgs. -/
import Derived.Test.YtknallccojglcaaGreatDoorM26
import Derived.Test.YtknallccojglcaaGreatDoorRows
set_option linter.unusedVariables false
set_option linter.unusedSimpArgs false
set_option maxRecDepth 100000

section
namespace Go.VC
open Go.Proofs Go.LexS
def cstP (n:Nat) (k:Int) (S:List Int) (BL:List (List Int)) (p:Nat) (m:Mch):List Nat:=(List.range m.mv.length).filter (posB n k S BL p m)
def cstS (L:List Mch) (k:Int) (c:Cf):List (Nat × Nat):=(List.range L.length).flatMap fun p=>match L[p]? with
 | some m=>(cstP L.length k c.1 c.2 p m).map fun i=>(p,i)
 | none=>[]
def cstB (L:List Mch) (k:Int) (c:Cf):Bool:=(List.range L.length).all fun p=>match L[p]? with
 | some m=>decide ((cstP L.length k c.1 c.2 p m).Pairwise fun a b=>¬evLt (evI m b) (evI m a))
 | none=>true
theorem cst_eq {L:List Mch} {k:Int} {c:Cf} (hV:SysV L) (h:cstB L k c=true):stepsS L k c.1 c.2=cstS L k c:=by
 unfold stepsS cstS;rw[List.flatMap_def,List.flatMap_def];congr 1;refine List.map_congr_left fun p hp=>?_;unfold stepsR;unfold cstB at h;rw[List.all_eq_true] at h;have hp1:=h p hp;cases gm:L[p]? with
 | none=>rfl
 | some m=>
  rw[gm] at hp1;dsimp only at hp1 ⊢;rw[stepsP_of (hV.m p m gm).2.1.d rfl (Yyn hp1)];rfl
def cexp (m:Mch) (s peer label:Int):Bool:=m.mv.any fun x=>decide (x.f=s)&&(!x.send&&(decide (x.peer=peer)&&decide (x.label=label)))
theorem cexp_ok {m:Mch} {s peer label:Int} (h:cexp m s peer label=true):ExpM m s peer label:=by
 unfold cexp at h;rw[List.any_eq_true] at h;obtain⟨x,hx,h⟩:=h;simp only[Yt,decide_eq_true_eq,Bool.not_eq_true'] at h;exact⟨s,.base (Ye.2 rfl),x,hx,h.1,⟨h.2.1,h.2.2.1⟩,h.2.2.2⟩
def cbox (L:List Mch) (c:Cf):Bool:=(List.range c.2.length).all fun i=>match c.2[i]? with
 | some (b::_)=>match L[i%L.length]?,c.1[i%L.length]? with
  | some m,some s=>cexp m s ((i/L.length:Nat):Int) b
  | _,_=>true
 | _=>true
def cfin (L:List Mch) (c:Cf):Bool:=((List.range c.1.length).all fun p=>match c.1[p]?,L[p]? with
 | some s,some m=>decide (m.fin[s.toNat]?=some true)
 | _,_=>true)&&c.2.all fun b=>b.isEmpty
def cok (L:List Mch) (k:Int) (c:Cf):Bool:=cstB L k c&&(cbox L c&&(!(cstS L k c).isEmpty||cfin L c))
theorem cok_ok {L:List Mch} {k:Int} {c:Cf} (hV:SysV L) (h:cok L k c=true):badS L k c.1 c.2=0/\stepsS L k c.1 c.2=cstS L k c:=by
 unfold cok at h;simp only[Yt] at h;obtain⟨h1,h2,h3⟩:=h;have hst:=cst_eq hV h1;refine⟨badS_0 ?_ ?_,hst⟩
 ·rintro⟨i,b,l,m,s,g1,g2,g3,g4⟩;unfold cbox at h2;rw[List.all_eq_true] at h2;have:=h2 i (List.mem_range.2 (Ya.1 g1).1);rw[g1] at this;dsimp only at this;rw[g2,g3] at this;exact g4 (cexp_ok this)
 ·rw[Bool.or_eq_true] at h3;rcases h3 with h3 | h3
  ·refine .inr fun h=>?_;rw[<-hst,h] at h3;cases h3
  ·refine .inl ?_;unfold cfin at h3;rw[Yt,List.all_eq_true,List.all_eq_true] at h3;refine⟨fun p s m g1 g2=>?_,fun b hb=>List.isEmpty_iff.1 (h3.2 b hb)⟩;have:=h3.1 p (List.mem_range.2 (Ya.1 g1).1);rw[g1,g2] at this;exact Yyn this
def exC (L:List Mch) (k:Int) (lim:Nat):Nat->Nat->List Qe->Option (List Cf)
 | 0,_,_=>none
 | f+1,i,Q=>match Q[i]? with
  | none=>some (Q.map Prod.fst)
  | some e=>if cok L k e.1=true then match exI L lim e (cstS L k e.1) Q with
   | none=>none
   | some Q'=>exC L k lim f (i+1) Q'
   else none
theorem exC_eq {L:List Mch} {k:Int} {lim:Nat} (hV:SysV L):∀(f i:Nat) (Q:List Qe) (R:List Cf),exC L k lim f i Q=some R->exO L k lim f i Q=.safe R
 | 0,_,_,_,h=>by cases h
 | f+1,i,Q,R,h=>by
  rw[exC] at h;rw[exO];cases hq:Q[i]? with
  | none=>rw[hq] at h;cases h;rfl
  | some e=>
   rw[hq] at h;dsimp only at h ⊢;split at h
   ·rename_i hc;obtain⟨h1,h2⟩:=cok_ok hV hc;rw[if_neg (fun hn=>hn h1),h2];cases hi:exI L lim e (cstS L k e.1) Q with
    | none=>rw[hi] at h;cases h
    | some Q'=>rw[hi] at h;exact exC_eq hV f (i+1) Q' R h
   ·cases h
theorem exC_mono {L:List Mch} {k:Int} {lim:Nat}:∀(f i:Nat) (Q:List Qe) (R:List Cf),exC L k lim f i Q=some R->exC L k lim (f+1) i Q=some R
 | 0,_,_,_,h=>by cases h
 | f+1,i,Q,R,h=>by
  rw[exC] at h;rw[exC];cases hq:Q[i]? with
  | none=>rw[hq] at h;exact h
  | some e=>
   rw[hq] at h;dsimp only at h ⊢;split at h
   ·rename_i hc;rw[if_pos hc];cases hi:exI L lim e (cstS L k e.1) Q with
    | none=>rw[hi] at h;cases h
    | some Q'=>rw[hi] at h;exact exC_mono f (i+1) Q' R h
   ·cases h
theorem exC_more {L:List Mch} {k:Int} {lim:Nat} (f i:Nat) (Q:List Qe) (R:List Cf) (h:exC L k lim f i Q=some R):∀d,exC L k lim (f+d) i Q=some R
 | 0=>h
 | d+1=>exC_mono _ _ _ _ (exC_more f i Q R h d)
def xRes:List Cf:=((exC xL 1 1000 20 0 (q0 xL)).getD [])
theorem xres_eq:exC xL 1 1000 20 0 (q0 xL)=some xRes:=by kernel_rfl
theorem xres_len:xRes.length=12:=by kernel_rfl
theorem xres_most:mostS 3 xRes=[0,1,0,0,0,1,0,1,0]:=by kernel_rfl
theorem xsearch:exS xL 1 1000=.safe xRes:=exC_eq xsys _ _ _ _ (exC_more 20 0 (q0 xL) xRes xres_eq 981)
theorem awake11 (h:Heap) (hx:Gx h):Fn Pz 11 #[] h fun v h'=>v=.bool true/\Ext h h':=by
 apply vc11;unfold W11;refine (example34 true h).mono ?_;rintro _ h10 ⟨E10,hr,hd,he,rfl,hg⟩;refine⟨_,hr,hd,_,_,_,he,⟨none,0,0⟩,rfl,?_⟩;refine (all43 (exGl true hr hd he ⟨none,0,0⟩) h10 hg (hx.ext E10) (ex_valid _ _ _ _ _) xL (hg.r.ln.symm) (by decide) (fun i m hi=>?_)).mono ?_
 ·match i,hi with
  | 0,hi=>cases hi;exact⟨xproj _ _ _ _ _ _ _ (by decide) (by decide) (xr0_raw _ _ _ _) xm0_min,by decide,by decide,by decide⟩
  | 1,hi=>cases hi;exact⟨xproj _ _ _ _ _ _ _ (by decide) (by decide) (xm1_raw _ _ _ _) xm1_min,by decide,by decide,by decide⟩
  | 2,hi=>cases hi;exact⟨xproj _ _ _ _ _ _ _ (by decide) (by decide) (xm2_raw _ _ _ _) xm2_min,by decide,by decide,by decide⟩
  | n+3,hi=>exact absurd hi (by simp[xL])
 rintro _ h14 ⟨s,L,rfl,E14,hL,hS⟩;have E0:=E10.trans E14;refine⟨s,0,rfl,?_⟩;refine (explore13 L s 1 1000 h14 hS).mono ?_;rw[hL];have hv:expV xL 1 1000=(⟨1,xRes,mostS 3 xRes,0,[]⟩,0):=by
  unfold expV;rw[if_neg (fun h=>by rcases h with h | h | h;exact h xsys;all_goals omega),if_neg (by omega)];show ((exS xL 1 1000).rv 3,(0:Int))=_;rw[xsearch];rfl
 rw[hv];rintro _ h22 ⟨cf,mo,tr,A,rfl,hs,hR⟩;refine⟨_,cf,mo,_,tr,_,rfl,?_⟩;refine hs.newput (vs:=resA 1 cf mo 0 tr) rfl rfl fun h24 hs=>?_;have hI:=hR.at hs mem1;obtain⟨C,hc1,hc2,hc3⟩:=hI.c;have hcl:C.length=12:=by have:=congrArg List.length hc3;rw[Yc] at this;rw[this];exact xres_len
 have hcn:=hc1.ln;have hm:=hI.m;rw[show (RV.mk 1 xRes (mostS 3 xRes) 0 []).m=[0,1,0,0,0,1,0,1,0] from xres_most] at hm;have hmn:mo.n=9:=hm.ln;refine sB_t rfl (sB_t rfl ⟨1,hs.rd 0 rfl (i:=0) rfl,sB_t rfl ⟨cf,hs.rd 0 rfl (i:=1) rfl,sB_t (by rw[hcn,hcl];rfl) ⟨mo,hs.rd 0 rfl (i:=2) rfl,sB_t (by rw[hmn];rfl) ⟨mo,hs.rd 0 rfl (i:=2) rfl,?_⟩⟩⟩⟩);refine hm.rw.nbI (by omega) (by omega) fun b o q gq t=>?_;cases gq;exact⟨1,t.hd,rfl,E0.trans hs.ext⟩
end Go.VC
end

section
namespace Go.VC
open Go.Proofs
variable {h:Heap} {R:Value->Heap->Prop}

def V9b (h16 h14:Heap) (R:Value->Heap->Prop):Prop:=
 ∃x18,rS h16 (aS h14 1) x18/\sB ((x18.n:Int)==0) (∃x19,rS h16 (aS h14 2) x19/\R (.bool ((x19.n:Int)==0)) h16) (R (.bool false) h16)
def V9a (x13:Int) (h16 h14:Heap) (R:Value->Heap->Prop):Prop:=
 sB (x13==0) (∃x17,rI h16 (aS h14 0) x17/\sB (x17==2) (V9b h16 h14 R) (∃x20,rI h16 (aS h14 0) x20/\sB (x20==3) (V9b h16 h14 R) (R (.bool false) h16))) (R (.bool false) h16)
def W9 (p0:Sl) (p1 p2:Int):Prop:=
 Fn Pz 11 #[] h (fun v1 h3=>∃x2,iB v1 x2/\sB (!x2) (R (.bool false) h3) (Fn Pz 16 #[vS p0] h3 (fun v4 h6=>∃x5,iB v4 x5/\sB (!x5) (R (.bool true) h6) ((4:Int)≠0/\(100:Int)≠0/\Fn Pz 13 #[vS p0,vI (IntKind.wrap .i64 (1+(Int.tmod (IntKind.wrap .i64 p1) 4))),vI (IntKind.wrap .i64 (1+(Int.tmod (IntKind.wrap .i64 p2) 100)))] h6 (fun v7 h14=>∃(x8:Int) (x9 x10:Sl) (x11:Int) (x12:Sl) (x13:Int),v7=.tuple ⟨[.agg ⟨(L6 x8 x9 x10 x11 x12)⟩,vI x13]⟩/\Wn h14 [vI 0,.slice none 0 0,.slice none 0 0,vI 0,.slice none 0 0] 32 fun h15=>Wp h15 (aS h14 0) 5 (L6 x8 x9 x10 x11 x12) fun h16=>sB (x13 != 0) (V9a x13 h16 h14 R) (∃x23,rI h16 (aS h14 0) x23/\sB (x23 != 1) (V9a x13 h16 h14 R) (Fn Pz 25 #[vS p0] h16 (fun v30 h34=>∃(x31 x32:Sl) (x33:Int),v30=.tuple ⟨[.agg ⟨[vS x31,vS x32]⟩,vI x33]⟩/\Wn h34 [.slice none 0 0,.slice none 0 0] 50 fun h35=>Wp h35 (aS h34 0) 2 [vS x31,vS x32] fun h36=>sB (x33 != 0) (R (.bool false) h36) (∃x37,rS h36 (aS h14 1) x37/\∃(x38 x39:Sl),atC h36 (aS h34 0) [vS x38,vS x39]/\Fn Pz 24 #[vS x37,.agg ⟨[vS x38,vS x39]⟩] h36 (fun v40 h42=>∃x41,iB v40 x41/\sB (!x41) (R (.bool false) h42) (∃x43,rS h42 (aS h14 4) x43/\sB (decide ((x43.n:Int)>0)) (R (.bool false) h42) (∃x44,rI h42 (aS h14 3) x44/\sB (x44 != 0) (R (.bool false) h42) (∃x45,rS h42 (aS h14 2) x45/\sB ((x45.n:Int) != (IntKind.wrap .i64 ((p0.n:Int)*(p0.n:Int)))) (R (.bool false) h42) (∃x46,rS h42 (aS h14 2) x46/\((0:Int)<=(x46.n:Int)/\((x46.n:Int):Int)<=(x46.n:Int)/\((8:Nat):Int)*(x46.n:Int)<=140737488355328)/\Wn h42 (madeL Pz 3 (Int.toNat (x46.n:Int))) 3 fun h47=>∃x48,rS h47 (aS h14 1) x48/\QI 0 h47 fun I49 x_52 h53 m51=>sB (decide (x_52<(x48.n:Int))) (NB x48.a fun b54 o55=>Ib x_52 x48.n/\∃(x56 x57:Sl),atC h53 ⟨b54,o55+Int.toNat x_52*2,none⟩ [vS x56,vS x57]/\Wn h53 [.slice none 0 0,.slice none 0 0] 50 fun h58=>Wp h58 (aS h53 0) 2 [vS x56,vS x57] fun h59=>∃(x60 x61:Sl),atC h59 (aS h53 0) [vS x60,vS x61]/\Fn Pz 23 #[vS p0,vI (IntKind.wrap .i64 (1+(Int.tmod (IntKind.wrap .i64 p1) 4))),.agg ⟨[vS x60,vS x61]⟩] h59 (fun v62 h65=>∃(x63 x64:Int),v62=.tuple ⟨[vI x63,vI x64]⟩/\∃(x66 x67:Sl),atC h65 (aS h53 0) [vS x66,vS x67]/\Fn Pz 26 #[vS p0,vI (IntKind.wrap .i64 (1+(Int.tmod (IntKind.wrap .i64 p1) 4))),.agg ⟨[vS x66,vS x67]⟩] h65 (fun v68 h71=>∃(x69:Sl) (x70:Int),v68=.tuple ⟨[vS x69,vI x70]⟩/\sB (x64 != 0) (R (.bool false) h71) (sB (x70 != 0) (R (.bool false) h71) (sB (x63 != 0) (R (.bool false) h71) (∃x72,rS h71 (aS h14 1) x72/\((0:Int)<=(0:Int)/\(0:Int)<=(x_52:Int)/\(x_52:Int)<=(x72.c:Nat))/\∃(x73 x74:Sl),atC h71 (aS h53 0) [vS x73,vS x74]/\Fn Pz 24 #[.slice (subA x72.a (Int.toNat 0) x72.c 2) (Int.toNat x_52-Int.toNat 0) (x72.c-Int.toNat 0),.agg ⟨[vS x73,vS x74]⟩] h71 (fun v75 h77=>∃x76,iB v75 x76/\sB x76 (R (.bool false) h77) (QI 0 h77 fun I78 x_81 h82 m80=>sB (decide (x_81<(x69.n:Int))) (NB x69.a fun b83 o84=>Ib x_81 x69.n/\∃(x85 x86:Int),atC h82 ⟨b83,o84+Int.toNat x_81*2,none⟩ [vI x85,vI x86]/\Wn h82 [vI 0,vI 0] 48 fun h87=>Wp h87 (aS h82 0) 2 [vI x85,vI x86] fun h88=>∃(x89 x90:Sl),atC h88 (aS h53 0) [vS x89,vS x90]/\∃(x91 x92:Int),atC h88 (aS h82 0) [vI x91,vI x92]/\Fn Pz 27 #[vS p0,vI (IntKind.wrap .i64 (1+(Int.tmod (IntKind.wrap .i64 p1) 4))),.agg ⟨[vS x89,vS x90]⟩,.agg ⟨[vI x91,vI x92]⟩] h88 (fun v93 h97=>∃(x94 x95:Sl) (x96:Int),v93=.tuple ⟨[.agg ⟨[vS x94,vS x95]⟩,vI x96]⟩/\Wn h97 [.slice none 0 0,.slice none 0 0] 50 fun h98=>Wp h98 (aS h97 0) 2 [vS x94,vS x95] fun h99=>sB (x96 != 0) (R (.bool false) h99) (∃x100,rS h99 (aS h14 1) x100/\∃(x101 x102:Sl),atC h99 (aS h97 0) [vS x101,vS x102]/\Fn Pz 24 #[vS x100,.agg ⟨[vS x101,vS x102]⟩] h99 (fun v103 h105=>∃x104,iB v103 x104/\sB (!x104) (R (.bool false) h105) (∃m106,m106<m80/\I78 (IntKind.wrap .i64 (x_81+1)) h105 m106))))) (QI 0 h82 fun I107 x_110 h111 m109=>sB (decide (x_110<((Int.toNat (x46.n:Int)):Int))) ((0<=(x_110:Int)/\(x_110:Int)<((Int.toNat (x46.n:Int)):Nat))/\∃x112,rI h111 (aS h42 (0+Int.toNat x_110*1)) x112/\∃x113,rS h111 (aS h53 1) x113/\NB x113.a fun b114 o115=>Ib x_110 x113.n/\∃x116,rS h111 ⟨b114,o115+Int.toNat x_110*1,none⟩ x116/\(0<=(x_110:Int)/\(x_110:Int)<((Int.toNat (x46.n:Int)):Nat))/\Wp h111 (aS h42 (0+Int.toNat x_110*1)) 1 [vI (imax x112 (x116.n:Int))] fun h117=>∃m118,m118<m109/\I107 (IntKind.wrap .i64 (x_110+1)) h117 m118) (∃m119,m119<m51/\I49 (IntKind.wrap .i64 (x_52+1)) h111 m119)))))))))) (∃x120,rS h53 (aS h14 2) x120/\Fn Pz 17 #[.slice (some (aS h42 0)) (Int.toNat (x46.n:Int)) (Int.toNat (x46.n:Int)),vS x120] h53 (fun v121 h123=>∃x122,iB v121 x122/\R (.bool x122) h123))))))))))))))))
theorem vc9 (p0:Sl) (p1 p2:Int) (H:@W9 h R p0 p1 p2):Fn Pz 9 #[vS p0,.int .u8 p1,.int .u8 p2] h R:=fnI (A:=(.s .z (.s .z (.s .z (.s .z (.s .z (.s .z (.s .z (.s .z (.s .z (.s (.s .z (.b (.l [(117,.one (.int .i64))] (.s .z (.s .z (.s (.b (.s .z (.s .z (.s .z (.s .z (.s (.s .z (.b (.l [(156,.one (.int .i64))] .z))) (.s .z (.b (.l [(180,.one (.int .i64))] .z))))))))) .z)))))) .z))))))))))) (by kernel_rfl) H

end Go.VC
end

section
namespace Go.VC
open Go.Proofs Go.LexS

end Go.VC
end

section
namespace Go.VC
open Go.Proofs
variable {h:Heap} {R:Value->Heap->Prop}

def W46 (p0 p1:Sl):Prop:=
 sB ((p0.n:Int) != (p1.n:Int))
 (R (.bool false) h)
 (QI 0 h fun I1 x_4 h5 m3=>
 sB (decide (x_4<(p0.n:Int)))
 (NB p0.a fun b6 o7=>Ib x_4 p0.n /\
 ∃x8,rI h5 ⟨b6,o7+Int.toNat x_4*1,none⟩ x8 /\
 NB p1.a fun b9 o10=>Ib x_4 p1.n /\
 ∃x11,rI h5 ⟨b9,o10+Int.toNat x_4*1,none⟩ x11 /\
 sB (x8 != x11)
 (R (.bool false) h5)
 (∃m12,m12<m3/\I1 (IntKind.wrap .i64 (x_4+1)) h5 m12))
 (R (.bool true) h5))
theorem vc46 (p0 p1:Sl) (H:@W46 h R p0 p1):Fn Pz 46 #[vS p0,vS p1] h R:=fnI (A:=(.s .z (.s .z (.s (.s .z (.b (.l [(13,.one (.int .i64))] .z))) .z)))) (by kernel_rfl) H

def W47 (p0 p1:Sl) (p2:FuncId):Prop:=
 sB ((p0.n:Int) != (p1.n:Int))
 (R (.bool false) h)
 (QI 0 h fun I1 x_4 h5 m3=>
 sB (decide (x_4<(p0.n:Int)))
 (NB p0.a fun b6 o7=>Ib x_4 p0.n /\
 ∃x8,rS h5 ⟨b6,o7+Int.toNat x_4*1,none⟩ x8 /\
 NB p1.a fun b9 o10=>Ib x_4 p1.n /\
 ∃x11,rS h5 ⟨b9,o10+Int.toNat x_4*1,none⟩ x11 /\
 bif callable Pz p2 then Fn Pz p2 #[vS x8,vS x11] h5
 (fun v12 h14=>∃x13,iB v12 x13 /\
 sB (!x13)
 (R (.bool false) h14)
 (∃m15,m15<m3/\I1 (IntKind.wrap .i64 (x_4+1)) h14 m15)) else ExtW Pz p2 #[vS x8,vS x11] h5
 (fun v12 h14=>∃x13,iB v12 x13 /\
 sB (!x13)
 (R (.bool false) h14)
 (∃m15,m15<m3/\I1 (IntKind.wrap .i64 (x_4+1)) h14 m15)))
 (R (.bool true) h5))
theorem vc47 (p0 p1:Sl) (p2:FuncId) (H:@W47 h R p0 p1 p2):Fn Pz 47 #[vS p0,vS p1,.func (.func p2) #[] #[]] h R:=fnI (A:=(.s .z (.s .z (.s (.s .z (.b (.l [(17,.one (.int .i64))] .z))) .z)))) (by kernel_rfl) H

def W18 (p0_1 p0_2 p1_3 p1_4:Sl):Prop:=
 Wn h [vS p0_1,vS p0_2] 50 fun h5=>
 Wn h5 [vS p1_3,vS p1_4] 50 fun h6=>
 ∃x7,rS h6 (aS h 0) x7 /\
 ∃x8,rS h6 (aS h5 0) x8 /\
 Fn Pz 46 #[vS x7,vS x8] h6
 (fun v9 h11=>∃x10,iB v9 x10 /\
 sB x10
 (∃x12,rS h11 (aS h 1) x12 /\
 ∃x13,rS h11 (aS h5 1) x13 /\
 Fn Pz 47 #[vS x12,vS x13,.func (.func 46) #[] #[]] h11
 (fun v14 h16=>∃x15,iB v14 x15 /\
 R (.bool x15) h16))
 (R (.bool false) h11))
theorem vc18 (p0_1 p0_2 p1_3 p1_4:Sl) (H:@W18 h R p0_1 p0_2 p1_3 p1_4):Fn Pz 18 #[.agg ⟨[vS p0_1,vS p0_2]⟩,.agg ⟨[vS p1_3,vS p1_4]⟩] h R:=fnI (A:=.z) (by kernel_rfl) H

end Go.VC
end

section
namespace Go.VC
open Go.Proofs Go.LexS
theorem equal63 (X Y:List Int) (a b:Sl) (h:Heap) (hX:RL h 1 a inC X) (hY:RL h 1 b inC Y):Fn Pz 46 #[.slice a.a a.n a.c,.slice b.a b.n b.c] h (RP (X=Y) h):=by
 apply vc46 a b;unfold W46;have ha:=hX.ln;have hb:=hY.ln;have hsm:=hX.sm;refine sBn (fun c=>RP.f (fun hG=>by rw[hG] at ha;omega) .rfl') (fun c1=>?_);refine up_loopS (n:=a.n) (St.refl h) (fun i=>∀(j:Nat),j<i->X[j]?=Y[j]?) (fun j hj=>by omega) ?_;rintro-i h5 hi ⟨hs,hq⟩;refine sB_intro (fun c=>?_) (fun c=>?_)
 ·replace c:=lt_t c;refine (hX.rw.ext hs.ext).nbI (by omega) (by omega) fun b1 o1 x gx t1=>?_;replace gx:X[i]?=some x:=gx;refine⟨_,t1.hd,?_⟩;refine (hY.rw.ext hs.ext).nbI (by omega) (by omega) fun b2 o2 y gy t2=>?_;replace gy:Y[i]?=some y:=gy;refine⟨_,t2.hd,sBn (fun c2=>RP.f (fun hG=>by rw[hG,gy] at gx;cases gx;exact c2 rfl) hs.ext) (fun c2=>?_)⟩;refine Up.next (by omega) (by omega) ⟨hs,fun j hj=>?_⟩;by_cases e:j=i
  ·subst e;rw[gx,gy,c2]
  ·exact hq j (by omega)
 ·replace c:=lt_f c;refine RP.t (Yyr fun j=>?_) hs.ext;by_cases hj:j<X.length
  ·exact hq j (by omega)
  ·rw[Yl (by omega),Yl (by omega)]
theorem cal63:callable Pz 46=true:=by kernel_rfl
theorem equal64 (B1 B2:List Bx) (b1 b2:Sl) (h:Heap) (h1:RL h 1 b1 Bx.cs B1) (h2:RL h 1 b2 Bx.cs B2) (i1:∀q∈B1,RL h 1 q.s inC q.l) (i2:∀q∈B2,RL h 1 q.s inC q.l) :
  Fn Pz 47 #[.slice b1.a b1.n b1.c,.slice b2.a b2.n b2.c,.func (.func 46) #[] #[]] h (RP (B1.map Bx.l=B2.map Bx.l) h):=by
 apply vc47 b1 b2 46;unfold W47;have n1:=h1.ln;have n2:=h2.ln;have m1:=h1.sm;refine sBn (fun c=>RP.f (fun hG=>?_) .rfl') (fun c1=>?_)
 ·have:=congrArg List.length hG;rw[Yc,Yc] at this;omega
 refine up_loopS (n:=b1.n) (St.refl h) (fun i=>∀(j:Nat),j<i->(B1.map Bx.l)[j]?=(B2.map Bx.l)[j]?) (fun j hj=>by omega) ?_;rintro-i h5 hi ⟨hs,hq⟩;refine sB_intro (fun c=>?_) (fun c=>?_)
 ·replace c:=lt_t c;refine (h1.rw.ext hs.ext).nbI (by omega) (by omega) fun b3 o3 x gx t3=>?_;replace gx:B1[i]?=some x:=gx;refine⟨x.s,t3.hd,?_⟩;refine (h2.rw.ext hs.ext).nbI (by omega) (by omega) fun b4 o4 y gy t4=>?_;replace gy:B2[i]?=some y:=gy;refine⟨y.s,t4.hd,?_⟩;rw[cal63,cond_true];refine (equal63 x.l y.l x.s y.s h5 ((i1 x (Yb gx)).ext hs.ext) ((i2 y (Yb gy)).ext hs.ext)).mono ?_;rintro _ h14 ⟨⟨b',rfl,hb'⟩,E⟩;have hs:=hs.step E;have ex:(B1.map Bx.l)[i]?=some x.l:=by rw[Yd,gx];rfl
  have ey:(B2.map Bx.l)[i]?=some y.l:=by rw[Yd,gy];rfl
  refine⟨_,rfl,sB_intro (fun c=>RP.f (fun hG=>iff_f hb' (bF c) ?_) hs.ext) (fun c2=>?_)⟩
  ·rw[hG,ey] at ex;exact (Yyp ex).symm
  ·refine Up.next (by omega) (by omega) ⟨hs,fun j hj=>?_⟩;by_cases e:j=i
   ·subst e;rw[ex,ey,hb'.1 (bT c2)]
   ·exact hq j (by omega)
 ·replace c:=lt_f c;refine RP.t (Yyr fun j=>?_) hs.ext;by_cases hj:j<B1.length
  ·exact hq j (by omega)
  ·rw[Yl (by rw[Yc];omega),Yl (by rw[Yc];omega)]
theorem equal32 (a1 b1 a2 b2:Sl) (S1 S2:List Int) (B1 B2:List Bx) (h:Heap) (h1:CfI h a1 b1 S1 B1) (h2:CfI h a2 b2 S2 B2) :
  Fn Pz 18 #[.agg ⟨[.slice a1.a a1.n a1.c,.slice b1.a b1.n b1.c]⟩,.agg ⟨[.slice a2.a a2.n a2.c,.slice b2.a b2.n b2.c]⟩] h (RP (S1=S2/\B1.map Bx.l=B2.map Bx.l) h):=by
 apply vc18 a1 b1 a2 b2;unfold W18;refine (St.refl h).newb fun h5 hs=>?_;refine hs.newb fun h6 hs=>?_;refine⟨a1,hs.rd 1 rfl rfl,a2,hs.rd 0 rfl rfl,?_⟩;refine (equal63 S1 S2 a1 a2 h6 (h1.s.ext hs.ext) (h2.s.ext hs.ext)).mono ?_;rintro _ h11 ⟨⟨b,rfl,hb⟩,E⟩;have hs:=hs.step E;refine⟨b,rfl,sB_intro (fun c=>?_) (fun c=>RP.f (fun hG=>iff_f hb c hG.1) hs.ext)⟩;refine⟨b1,hs.rd 1 rfl (i:=1) rfl,b2,hs.rd 0 rfl (i:=1) rfl,?_⟩;refine (equal64 B1 B2 b1 b2 h11 (h1.b.ext hs.ext) (h2.b.ext hs.ext) (fun q hq=>(h1.i q hq).ext hs.ext) (fun q hq=>(h2.i q hq).ext hs.ext)).mono ?_;rintro _ h16 ⟨⟨b3,rfl,hb3⟩,E⟩;exact⟨b3,rfl,RP.e (hb3.trans ⟨fun e=>⟨hb.1 c,e⟩,fun e=>e.2⟩) (hs.ext.trans E)⟩
theorem roomN {p m:Int} {n:Nat} (hm:m=(n:Int)) (h0:0<=p) (h1:p<256) (hn:1<=n) (hn2:n<=1000):∃r:Nat,r<n/\IntKind.wrap .i64 (1+Int.tmod (IntKind.wrap .i64 p) m)=((1+r:Nat):Int):=by
 obtain⟨q,rfl⟩:∃q:Nat,p=(q:Int):=⟨p.toNat,by omega⟩;subst hm;have hr:q%n<n:=Nat.mod_lt _ (by omega);refine⟨q%n,hr,?_⟩;rw[w8 h0 h1,tmod_nat,w64 (by omega) (by omega)];omega
theorem small16 (L:List MR) (s:Sl) (h:Heap) (hS:SyI h s L):Fn Pz 16 #[.slice s.a s.n s.c] h fun v h'=>∃b:Bool,v=.bool b/\(b=true->SysV (L.map MR.m))/\Ext h h':=by
 apply vc16 s;unfold W16;refine (fewC13 L s ⟨none,0,0⟩ ⟨none,0,0⟩ [] [] h hS CfI.none_).mono ?_;rintro _ h3 ⟨⟨b,rfl,hb⟩,E⟩;refine⟨b,rfl,sB_intro (fun c=>?_) (fun c=>⟨false,rfl,(fun h=>by cases h),E⟩)⟩;refine (refSys23 L s h3 (hS.ext E)).mono ?_;rintro _ h6 ⟨⟨b2,rfl,hb2⟩,E2⟩;exact⟨b2,rfl,b2,rfl,hb2.1,E.trans E2⟩
theorem expV_ok {L:List Mch} {k:Int} {lm:Nat} (hV:SysV L) (h1:1<=k) (h4:k<=4) (hl:1<=lm) (hl2:lm<=20000):expV L k (lm:Int)=((exS L k lm).rv L.length,0):=by
 unfold expV;rw[if_neg (fun h=>by rcases h with h | h | h;exact h hV;all_goals omega),if_neg (by omega),Ys]

theorem RL.cut0 {α:Type} {h:Heap} {n:Nat} {s:Sl} {cs:α->List Value} {l:List α} (hr:RL h n s cs l) (i:Nat) (hi:i<=s.n):RL h n ⟨subA s.a (Int.toNat 0) s.c n,Int.toNat (i:Int)-Int.toNat 0,s.c-Int.toNat 0⟩ cs (l.take i):=by
 have e0:subA s.a (Int.toNat 0) s.c n=s.a:=subA_zero _ _ _;rw[e0,show Int.toNat (i:Int)-Int.toNat 0=i from rfl,show s.c-Int.toNat 0=s.c from rfl];have hln:=hr.ln;have hcap:=hr.cap;refine⟨⟨by show i=_;rw[Yc,Yu];omega,fun hp=>?_⟩,by show i<=s.c;omega,fun e=>?_,by rw[Yu];have:=hr.sm;omega⟩
 ·obtain⟨b,o,e1,e2⟩:=hr.rw.2 (by rw[Yc] at hp ⊢;rw[Yu] at hp;omega);refine⟨b,o,e1,fun j row hj=>e2 j row ?_⟩;rw[Yd] at hj ⊢;have hjl:j<i:=Classical.byContradiction fun hn=>by
   rw[Yl (by rw[Yu];omega)] at hj;cases hj
  rw[List.getElem?_take_of_lt hjl] at hj;exact hj
 ·have:=hr.nil e;exact⟨by show i=0;omega,this.2⟩
theorem has24 (C:List Cr) (s ss sb:Sl) (S:List Int) (B:List Bx) (h:Heap) (hr:Rw h 2 s (C.map Cr.cs)) (hl:C.length<=1048576) (hi:∀c∈C,CfI h c.c1 c.c2 c.S c.B) (hC:CfI h ss sb S B) :
  Fn Pz 24 #[.slice s.a s.n s.c,.agg ⟨[.slice ss.a ss.n ss.c,.slice sb.a sb.n sb.c]⟩] h (RP (((S,B.map Bx.l):Cf)∈C.map Cr.cf) h):=by
 apply vc24 s ss sb;unfold W24;have hn:=hr.ln;refine (St.refl h).newb fun h3 hs=>?_;refine up_loopS (n:=s.n) hs (fun i=>∀(j:Nat) c,j<i->C[j]?=some c->c.cf≠(S,B.map Bx.l)) (fun j c hj=>by omega) ?_;rintro-i h8 hi' ⟨hs,hq⟩;refine sB_intro (fun c=>?_) (fun c=>?_)
 ·replace c:=lt_t c;refine (hr.ext hs.ext).nbI (by omega) (by omega) fun b9 o10 d gd t=>?_;replace gd:C[i]?=some d:=gd;have hdm:=Yb gd;refine⟨d.c1,d.c2,t,ss,sb,hs.at 0 rfl (o:=0) (n:=2) rfl,?_⟩;refine (equal32 d.c1 d.c2 ss sb d.S S d.B B h8 ((hi d hdm).ext hs.ext) (hC.ext hs.ext)).mono ?_;rintro _ h17 ⟨⟨b,rfl,hb⟩,E⟩;have hs:=hs.step E;refine⟨b,rfl,sB_intro (fun c2=>?_) (fun c2=>?_)⟩
  ·have he:=hb.1 c2;refine RP.e (iff_of_true rfl ?_) hs.ext;rw[<-he.1,<-he.2];exact List.mem_map_of_mem hdm
  ·refine Up.next c (by omega) ⟨hs,fun j y hj hy=>?_⟩;by_cases e:j=i
   ·subst e;rw[gd] at hy;cases hy;intro he;refine iff_f hb c2 ⟨congrArg Prod.fst he,congrArg Prod.snd he⟩
   ·exact hq j y (by omega) hy
 ·replace c:=lt_f c;refine RP.f (fun hm=>?_) hs.ext;obtain⟨d,hd,he⟩:=Yp.1 hm;obtain⟨j,hj⟩:=Yf.1 hd;exact hq j d (by have:=(Ya.1 hj).1;omega) hj he
theorem do_of {L:List Mch} {k:Int} {c:Cf} {q:Nat × Nat} (hP:ProS L k c.1 c.2) (h:q∈stepsS L k c.1 c.2):doS L k c.1 c.2 (q.1:Int) (q.2:Int)=(0,nxS L c q):=by
 obtain⟨a,b⟩:=q;obtain⟨m,x,gm,gx,hc⟩:=steps_mem h;rw[nxS_of gm gx];dsimp only;rw[doS_at hP gm gx,if_pos hc]
set_option maxHeartbeats 6400000 in
theorem exploreClosed9 (L:List MR) (s:Sl) (p1 p2:Int) (h:Heap) (hx:Gx h) (hS:SyI h s L) (hp:0<=p1/\p1<256) (hp2:0<=p2/\p2<256) :
  Fn Pz 9 #[.slice s.a s.n s.c,.int .u8 p1,.int .u8 p2] h fun v h'=>v=.bool true/\Ext h h':=by
 apply vc9 s p1 p2;unfold W9 V9a V9b;have hn:=hS.r.ln;have hlm:(L.map MR.m).length=L.length:=Yc _;refine (awake11 h hx).mono ?_;rintro _ h3 ⟨rfl,E3⟩;refine⟨true,rfl,sB_f rfl ?_⟩;refine (small16 L s h3 (hS.ext E3)).mono ?_;rintro _ h6 ⟨b,rfl,hb,E6⟩;have hs:=((St.refl h).step E3).step E6;refine⟨b,rfl,sB_intro (fun c=>⟨rfl,hs.ext⟩) (fun c=>?_)⟩;have hV:=hb (by cases b with | true=>rfl | false=>cases c);have hV6:=hV.n;rw[hlm] at hV6;have h36:=sq6 hV6.2;obtain⟨r,hr,er⟩:=roomN (m:=4) (n:=4) rfl hp.1 hp.2 (by decide) (by decide);obtain⟨ra,hra,ea⟩:=roomN (m:=100) (n:=100) rfl hp2.1 hp2.2 (by decide) (by decide);refine⟨by decide,by decide,?_⟩;rw[er,ea];have hk:(1:Int)<=((1+r:Nat):Int)/\((1+r:Nat):Int)<=4:=by omega
 generalize ((1+r:Nat):Int)=k at *;have ha1:1<=1+ra:=by omega
 have ha2:1+ra<=20000:=by omega
 generalize 1+ra=a at *;have e1:=explore13 L s k (a:Int) h6 (hS.ext hs.ext);rw[expV_ok hV hk.1 hk.2 ha1 ha2] at e1;refine e1.mono ?_;rintro _ h14 ⟨cf,mo,tr,A,rfl,hs1,hR⟩;have hs:=hs.join hs1;refine⟨_,cf,mo,_,tr,_,rfl,?_⟩;have hok:=exS_ok (lim:=a) hV hk ha1;generalize exS (L.map MR.m) k a=R1 at *;refine hs.newput (vs:=resA (R1.rv (L.map MR.m).length).v cf mo (R1.rv (L.map MR.m).length).k tr) rfl rfl fun h16 hs=>?_;have h1:=hR.at hs mem1;dsimp only at h1;obtain⟨C1,q1,q2,q3⟩:=h1.c;have hcn:=q1.ln;have hcs:=q1.sm;have hcc:=q1.cap;have hmn:=h1.m.ln;have htn:=h1.t.ln;refine sB_f rfl ⟨_,hs.rd 0 rfl (i:=0) rfl,?_⟩;cases R1 with
 | unk=>
  have e:C1.length=0:=by have:=congrArg List.length q3;rw[Yc] at this;exact this
  have e2:mo.n=0:=hmn;refine sB_t rfl (sB_t rfl ⟨_,hs.rd 0 rfl (i:=0) rfl,sB_f rfl ⟨_,hs.rd 0 rfl (i:=0) rfl,sB_t rfl ⟨cf,hs.rd 0 rfl (i:=1) rfl,sB_t (by rw[hcn,e];rfl) ⟨mo,hs.rd 0 rfl (i:=2) rfl,by rw[e2];rfl,hs.ext⟩⟩⟩⟩)
 | bad bd t=>
  have e:C1.length=0:=by have:=congrArg List.length q3;rw[Yc] at this;exact this
  have e2:mo.n=0:=hmn;refine sB_t rfl (sB_t rfl ⟨_,hs.rd 0 rfl (i:=0) rfl,sB_t rfl ⟨cf,hs.rd 0 rfl (i:=1) rfl,sB_t (by rw[hcn,e];rfl) ⟨mo,hs.rd 0 rfl (i:=2) rfl,by rw[e2];rfl,hs.ext⟩⟩⟩)
 | safe R=>
  obtain⟨Q,hsea,rfl⟩:=hok;have hQ:C1.map Cr.cf=Q.map Prod.fst:=q3;have hm:RL h16 1 mo inC (mostS L.length (C1.map Cr.cf)):=by
   have:=h1.m;rw[hQ,<-hlm];exact this
  have hmn:mo.n=L.length*L.length:=by rw[hm.ln,most_len]
  have htn:tr.n=0:=htn;have hnd:(C1.map Cr.cf).Nodup:=by rw[hQ];exact hsea.n
  have hmem:∀ {c:Cr},c∈C1->ProS (L.map MR.m) k c.S (c.B.map Bx.l)/\badS (L.map MR.m) k c.S (c.B.map Bx.l)=0/\∀q∈stepsS (L.map MR.m) k c.S (c.B.map Bx.l),nxS (L.map MR.m) c.cf q∈C1.map Cr.cf:=fun {c} hc=>by
   have h1:c.cf∈Q.map Prod.fst:=by rw[<-hQ];exact List.mem_map_of_mem hc
   obtain⟨e,he,hec⟩:=Yp.1 h1;obtain⟨j,gj⟩:=Yf.1 he;have hpe:=hsea.p e he;obtain⟨d1,d2⟩:=hsea.d j e (Ya.1 gj).1 gj;rw[hec] at hpe d1 d2;refine⟨hpe,d1,fun q hq=>?_⟩;obtain⟨m,e',gm,hm,-⟩:=d2 q hq;rw[hQ,<-hm];exact List.mem_map_of_mem (Yb gm)
  refine sB_f rfl ?_;refine (start14 L s h16 (hS.ext hs.ext)).mono ?_;rintro _ h34 ⟨ss,sb,S,B,e,A2,rfl,hs2,hM,hv1,-⟩;obtain⟨rfl,rfl,rfl⟩:=hv1 hV;refine⟨ss,sb,0,rfl,?_⟩;refine hs2.newput (vs:=[.slice ss.a ss.n ss.c,.slice sb.a sb.n sb.c]) rfl rfl fun h36 hs3=>sB_f rfl ?_;have hs:=hs.step hs3.ext;refine⟨cf,hs.rd 0 rfl (i:=1) rfl,ss,sb,hs3.at 0 rfl (o:=0) (n:=2) rfl,?_⟩;refine (has24 C1 cf ss sb _ _ h36 (q1.rw.ext hs3.ext) hcs (fun c hc=>(q2 c hc).ext hs3.ext) ((hM.mono mem1).cfi hs3)).mono ?_;rintro _ h42 ⟨⟨b,rfl,hb⟩,E42⟩;have hbt:b=true:=hb.2 (by
   rw[bxs0,hQ];exact List.mem_map_of_mem (Yb hsea.s))
  have hs:=hs.step E42;have E0:=hs3.ext.trans E42;refine⟨b,rfl,sB_f (by rw[hbt];rfl) ⟨tr,hs.rd 0 rfl (i:=4) rfl,sB_f (by rw[htn];rfl) ⟨0,hs.rd 0 rfl (i:=3) rfl,sB_f rfl ⟨mo,hs.rd 0 rfl (i:=2) rfl,sBn (fun c=>?_) (fun _=>⟨mo,hs.rd 0 rfl (i:=2) rfl,⟨by omega,by omega,by omega⟩,?_⟩)⟩⟩⟩⟩
  ·have hsq:(s.n:Int)*(s.n:Int)=((L.length*L.length:Nat):Int):=by rw[hn];rfl
   rw[hsq,w64 (n:=((L.length*L.length:Nat):Int)) (by omega) (by omega),hmn] at c;exact absurd rfl c
  rw[Ys,made3i];obtain⟨nn,hnn⟩:∃nn,nn=L.length*L.length:=⟨_,rfl⟩;rw[hmn,<-hnn];refine (St.refl h42).newb fun h47 hs4=>?_;have hs4:=hs4.blkS nn 1 ((List.replicate nn (0:Int)).map inC) (inC_flat _) (inrows _) (by rw[Yc,Yg]) (by simp only[maxLen];omega);refine⟨cf,(hs.step hs4.ext).rd 0 rfl (i:=1) rfl,?_⟩;refine⟨fun x h' μ=>∃i:Nat,x=(i:Int)/\μ=C1.length-i/\i<=C1.length/\St h42 h' [.sl ⟨some ⟨h42.size,0,none⟩,nn,nn⟩ 3 1 ((mostS L.length ((C1.take i).map Cr.cf)).map inC)],⟨_,0,rfl,rfl,Nat.zero_le _,by rw[hnn] at hs4 ⊢;exact hs4⟩,?_⟩;clear hs4 hs3 hs2 hs1;rintro-_ h53 μ ⟨i,rfl,rfl,hi,hs4⟩;have E53:=E0.trans hs4.ext;refine sBi (fun c1=>?_) (fun c1=>?_)
  ·obtain⟨d,gd⟩:=get_some (l:=C1) (i:=i) (by omega);have hdm:=Yb gd;obtain⟨hpd,hbd,hnd2⟩:=hmem hdm;have hBl:d.B.length=nn:=by have:=hpd.p.b;rw[Yc,hlm] at this;rw[hnn];exact this
   have hR53:=q1.ext E53;refine (hR53.rw).nbI (by omega) (by omega) fun b54 o55 d' gd' t=>?_;rw[Ys,gd] at gd';cases gd';refine⟨d.c1,d.c2,t,?_⟩;refine hs4.newput (vs:=[.slice d.c1.a d.c1.n d.c1.c,.slice d.c2.a d.c2.n d.c2.c]) rfl rfl fun h59 hs5=>?_;refine⟨d.c1,d.c2,hs5.at 0 rfl (o:=0) (n:=2) rfl,?_⟩;have hCd:=fun h' (E:Ext h42 h')=>(q2 d hdm).ext (E0.trans E);refine (bad38 L s k d.c1 d.c2 d.S d.B h59 ((hS.ext hs.ext).ext hs5.ext) (hCd h59 hs5.ext)).mono ?_;rintro _ h65 ⟨E65,bk,e,rfl,hbe,-⟩;obtain⟨rfl,rfl⟩:=hbe hpd;have hs5:=hs5.step E65;refine⟨_,_,rfl,d.c1,d.c2,hs5.at 0 rfl (o:=0) (n:=2) rfl,?_⟩;refine (steps16 L s k d.c1 d.c2 d.S d.B h65 ((hS.ext hs.ext).ext hs5.ext) (hCd h65 hs5.ext)).mono ?_;rintro _ h71 ⟨E71,r,e,l,rfl,hr,hpos,-⟩;obtain⟨rfl,rfl⟩:=hpos hpd;have hs5:=hs5.step E71;have hrn:=hr.ln;have hrm:=hr.sm;refine⟨r,0,rfl,sB_f rfl (sB_f rfl (sB_f (by rw[hbd];rfl) ?_))⟩;refine⟨cf,(hs.step hs5.ext).rd 0 rfl (i:=1) rfl,⟨by omega,by omega,by omega⟩,d.c1,d.c2,hs5.at 0 rfl (o:=0) (n:=2) rfl,?_⟩;have hcut:=(q1.ext (E0.trans hs5.ext)).cut0 i (by omega);refine (has24 (C1.take i) _ d.c1 d.c2 d.S d.B h71 hcut.rw hcut.sm (fun c hc=>(q2 c (List.mem_of_mem_take hc)).ext (E0.trans hs5.ext)) (hCd h71 hs5.ext)).mono ?_;rintro _ h77 ⟨⟨b,rfl,hb⟩,E77⟩;have hs5:=hs5.step E77;have hbf:b=false:=by
    cases b with
    | false=>rfl
    | true=>
     obtain⟨c,hc,hce⟩:=Yp.1 (hb.1 rfl);obtain⟨j,gj⟩:=Yf.1 hc;have hjl:=(Ya.1 gj).1;rw[Yu] at hjl;rw[List.getElem?_take_of_lt (by omega)] at gj;have g1:(C1.map Cr.cf)[j]?=some d.cf:=by rw[Yd,gj];exact congrArg some hce
     have g2:(C1.map Cr.cf)[i]?=some d.cf:=by rw[Yd,gd];rfl
     obtain⟨l1,e1⟩:=Ya.1 g1;obtain⟨l2,e2⟩:=Ya.1 g2;have:=List.pairwise_iff_getElem.1 hnd j i l1 l2 (by omega);rw[e1,e2] at this;exact absurd rfl this
   refine⟨b,rfl,sB_f hbf ?_⟩;refine⟨fun x h' μ=>∃j:Nat,x=(j:Int)/\μ=r.n-j/\j<=r.n/\Ext h77 h',⟨_,0,rfl,rfl,Nat.zero_le _,.rfl'⟩,?_⟩;rintro-_ h82 μ2 ⟨j,rfl,rfl,hj,E82⟩;have hs5:=hs5.step E82;refine sBi (fun c2=>?_) (fun c2=>?_)
   ·obtain⟨⟨a,b⟩,gz⟩:=get_some (l:=stepsS (L.map MR.m) k d.S (d.B.map Bx.l)) (i:=j) (by omega);have hzm:=Yb gz;refine ((hr.rw.ext E77).ext E82).nbI (by omega) (by omega) fun b83 o84 z gz' t=>?_;rw[Ys,gz] at gz';cases gz';refine⟨(a:Int),(b:Int),t,?_⟩;refine (St.refl h82).newput (vs:=[.int .i64 (a:Int),.int .i64 (b:Int)]) rfl rfl fun h88 hs6=>?_;refine⟨d.c1,d.c2,(hs5.step hs6.ext).at 0 rfl (o:=0) (n:=2) rfl,(a:Int),(b:Int),hs6.at 0 rfl (o:=0) (n:=2) rfl,?_⟩;have hdo:=do_of (c:=d.cf) (q:=(a,b)) hpd hzm;have e2:=do27 L s k d.c1 d.c2 d.S d.B (a:Int) (b:Int) h88 ((hS.ext hs.ext).ext (hs5.ext.trans hs6.ext)) (hCd h88 (hs5.ext.trans hs6.ext));have hdo2:doS (L.map MR.m) k d.S (d.B.map Bx.l) (a:Int) (b:Int)=(0,nxS (L.map MR.m) d.cf (a,b)):=hdo;rw[hdo2] at e2;refine e2.mono ?_;rintro _ h97 ⟨ts,tb,T,A3,rfl,hT,hs7,hM3⟩;have hs6:=hs6.join hs7;refine⟨ts,tb,_,rfl,?_⟩;refine hs6.newput (vs:=[.slice ts.a ts.n ts.c,.slice tb.a tb.n tb.c]) rfl rfl fun h99 hs6=>sB_f rfl ?_;have E99:=hs5.ext.trans hs6.ext;refine⟨cf,(hs.step E99).rd 0 rfl (i:=1) rfl,ts,tb,hs6.at 0 rfl (o:=0) (n:=2) rfl,?_⟩;refine (has24 C1 cf ts tb _ T h99 (q1.rw.ext (E0.trans E99)) hcs (fun c hc=>(q2 c hc).ext (E0.trans E99)) ((hM3.mono fun i hi=>Yn _ (List.mem_append_right _ hi)).cfi hs6)).mono ?_;rintro _ h105 ⟨⟨b2,rfl,hb2⟩,E105⟩;have hb2t:b2=true:=hb2.2 (by rw[hT];exact hnd2 _ hzm);exact⟨b2,rfl,sB_f (by rw[hb2t];rfl) ⟨_,(show r.n-(j+1)<r.n-j by omega),j+1,by rw[w64 (by omega) (by omega)];omega,rfl,by omega,E82.trans (hs6.ext.trans E105)⟩⟩
   ·generalize hMM:mostS L.length ((C1.take i).map Cr.cf)=M at *;have hMl:M.length=nn:=by rw[<-hMM,most_len,hnn]
    refine⟨fun x h' μ=>∃j:Nat,x=(j:Int)/\μ=nn-j/\j<=nn/\St h42 h' [.blk h53.size [.slice d.c1.a d.c1.n d.c1.c,.slice d.c2.a d.c2.n d.c2.c] 50,.sl ⟨some ⟨h42.size,0,none⟩,nn,nn⟩ 3 1 ((stepM (d.B.map Bx.l) j M).map inC)],⟨_,0,rfl,rfl,Nat.zero_le _,by rw[stepM_0];exact hs5⟩,?_⟩;clear hs5 hs4;rintro-_ h111 μ3 ⟨j2,rfl,rfl,hj2,hs5⟩;refine sBi (fun c3=>?_) (fun c3=>?_)
    ·obtain⟨q,gq⟩:=get_some (l:=d.B) (i:=j2) (by omega);obtain⟨y,gy⟩:=get_some (l:=M) (i:=j2) (by omega);have hCf:=hCd h111 hs5.ext;refine⟨⟨by omega,by omega⟩,y,Rw.one (l:=stepM (d.B.map Bx.l) j2 M) (cs:=inC) (hs5.rows 1 rfl (by omega)) (by omega) (by omega) (d:=y) (by rw[Ys,stepM_get];exact gy) rfl,?_⟩;refine⟨d.c2,hs5.rd 0 rfl (i:=1) rfl,?_⟩;have hbn:=hCf.b.ln;refine hCf.b.rw.nbI (by omega) (by omega) fun b16 o17 q' gq' t2=>?_;rw[Ys,gq] at gq';cases gq';have hqn:=(hCf.i q (Yb gq)).ln;refine⟨q.s,t2.hd,⟨by omega,by omega⟩,?_⟩;refine hs5.set0 1 (cs:=inC) (l:=stepM (d.B.map Bx.l) j2 M) rfl (by omega) (by omega) (imax y (q.s.n:Int)) rfl rfl rfl fun h117 hs5=>?_;rw[Ys] at hs5;have hql:(d.B.map Bx.l).getD j2 []=q.l:=getD_map gq;have e1:=stepM_next (B:=d.B.map Bx.l) gy;rw[hql,<-hqn] at e1;refine⟨_,(show nn-(j2+1)<nn-j2 by omega),j2+1,by rw[w64 (by omega) (by omega)];omega,rfl,by omega,?_⟩;rw[<-e1];exact hs5
    ·have e2:=stepM_end (B:=d.B.map Bx.l) (M:=M) (j:=j2) (by omega);refine⟨_,(show C1.length-(i+1)<C1.length-i by omega),i+1,by rw[w64 (by omega) (by omega)];omega,rfl,by omega,?_⟩;have e1:(C1.take (i+1)).map Cr.cf=(C1.take i).map Cr.cf++[d.cf]:=by rw[take_snoc gd,Ym];rfl
     rw[e1,most_snoc,hMM];rw[e2] at hs5;exact hs5.drop 1
  ·have hie:i=C1.length:=by omega
   subst hie;rw[Yye] at hs4;refine⟨mo,(hs.step hs4.ext).rd 0 rfl (i:=2) rfl,?_⟩;have hml:=most_len L.length (C1.map Cr.cf);refine (same34 _ _ _ mo h53 (hs4.rl 0 rfl (by omega) (by omega)) (hm.ext E53)).mono ?_;rintro _ h123 ⟨⟨b,rfl,hb⟩,E⟩;exact⟨b,rfl,by rw[hb.2 rfl],hs.ext.trans (hs4.ext.trans E)⟩
end Go.VC
end

section
namespace Go.VC
open Go.Proofs Go.LexS Go.RowKit Go.ChangeShapes Go.WideShapes Go.Proofs.YtknallccojglcaaGreatDoor
theorem bulk_pos {H:Type} (d:DataW H):1<=Rows.uptoBulk d:=by
 cases d with
 | lit l=>cases l<;>simp[Rows.uptoBulk]
 | _=>simp[Rows.uptoBulk]
theorem bulk_part {H:Type}:∀ {l:List (DataW H)} {d:DataW H},d∈l->Rows.uptoBulk d<=Rows.uptoBulkAll l
 | [],_,h=>by cases h
 | x::r,d,h=>by
  rw[Rows.uptoBulkAll];rcases Yr.1 h with rfl | h
  ·omega
  ·have:=bulk_part h;omega
theorem bulk_len {H:Type}:∀l:List (DataW H),l.length<=Rows.uptoBulkAll l
 | []=>by simp
 | x::r=>by
  have h1:=bulk_pos x;have h2:=bulk_len r;rw[Rows.uptoBulkAll,Yyj];omega
def Rdb (P:Program) (W:World) (t:TypeId) (cs:List Value):Prop:=
 ∃(H:Type) (enc:TypeId × Value->H) (n:Nat) (x:DataW H × List MemPlace),DataW.trod enc P W 0 (fun _=>true) true n t cs=some x/\Rows.uptoBulk x.1<=1048576
theorem Rdb.rdt {P:Program} {W:World} {t:TypeId} {cs:List Value} (h:Rdb P W t cs):Rdt P W t cs:=by
 obtain⟨H,enc,n,x,h1,_⟩:=h;exact⟨H,enc,n,x,h1⟩
theorem rdb_of_trod {H:Type} {enc:TypeId × Value->H} {P:Program} {W:World} {t:TypeId} {v:Value} {d:DataW H} {p:List MemPlace} (h:DataW.Trod enc P W 0 (fun _=>true) true t v d p) (hw:Rows.uptoBulk d<=1048576):Rdb P W t v.cells.toList:=by
 obtain⟨n,h⟩:=h;exact⟨H,enc,n,_,h,hw⟩
theorem Rdb.field {P:Program} {W:World} {t ft:TypeId} {cs:List Value} {i off:Nat} (h:Rdb P W t cs) (hf:fieldAt P t i=some (ft,off)):Rdb P W ft ((cs.drop off).take (P.cellsOf ft)):=by
 unfold fieldAt at hf;split at hf
 ·rename_i fs hu;obtain⟨f,h1,h2⟩:=Yya.1 hf;cases h2;obtain⟨H,enc,n,x,h,hw⟩:=h;obtain⟨xs,m,_,hx,hl,hxl,hfi⟩:=DataW.trod_struct hu h;have hlt:i<xs.length:=by rw[hxl];exact (Yyg.1 h1).1
  refine⟨H,enc,m,xs[i],by rw[hfi i f h1,Yi hlt],?_⟩;rw[hx,Rows.uptoBulk] at hw;have:=bulk_part (l:=xs.map (·.1)) (d:=xs[i].1) (Yp.2 ⟨xs[i],List.getElem_mem hlt,rfl⟩);omega
 ·cases hf
theorem Rdb.rows {P:Program} {W:World} {t e:TypeId} {cs:List Value} (ht:P.underlying t=some (.slice e)) (h:Rdb P W t cs) (hpos:0<P.cellsOf e) :
  ∃(s:Sl) (rows:List (List Value)),cs=[.slice s.a s.n s.c]/\s.n<=s.c/\s.n<=1048576/\(s.a=none->s.n=0/\s.c=0)/\Rw W.heap (P.cellsOf e) s rows/\∀r∈rows,r.length=P.cellsOf e/\Rdb P W e r:=by
 obtain⟨H,enc,n,x,h,hw⟩:=h;rcases DataW.trod_slice ht h with ⟨rfl,_⟩ | ⟨a,len,cap,elems,rest,m,_,rfl,hx,_,hlc,hcm,hel,helem,_,_⟩
 ·exact⟨⟨none,0,0⟩,[],rfl,Yyt _,Nat.zero_le _,fun _=>⟨rfl,rfl⟩,Rw.nil,fun r hr=>by cases hr⟩
 ·rw[hx,Rows.uptoBulk] at hw;have hle:len<=1048576:=by
   have:=bulk_len (elems.map (·.1));rw[Yc] at this;omega
  have hwe:∀(i:Nat) (hi:i<elems.length),Rows.uptoBulk elems[i].1<=1048576:=fun i hi=>by
   have:=bulk_part (l:=elems.map (·.1)) (d:=elems[i].1) (Yp.2 ⟨elems[i],List.getElem_mem hi,rfl⟩);omega
  by_cases h0:len=0
  ·subst h0;exact⟨⟨some a,0,cap⟩,[],rfl,hlc,hle,fun e=>(by cases e),Rw.empty rfl,fun r hr=>by cases hr⟩
  ·have hrow:∀i,i<len->∃r,W.cells? 0 (a.add (i*P.cellsOf e)) (P.cellsOf e)=some r/\Rdb P W e r:=by
    intro i hi;have h1:=helem i hi;rw[Yi (by omega)] at h1;obtain⟨r,hr,hx2⟩:=Option.bind_eq_some_iff.1 h1;exact⟨r,hr,H,enc,m,_,hx2,hwe i (by omega)⟩
   let row:Nat->List Value:=fun i=>(W.cells? 0 (a.add (i*P.cellsOf e)) (P.cellsOf e)).getD []
   have hrow':∀i,i<len->W.cells? 0 (a.add (i*P.cellsOf e)) (P.cellsOf e)=some (row i)/\Rdb P W e (row i):=fun i hi=>by
    obtain⟨r,hr,hx⟩:=hrow i hi;have:row i=r:=by show (W.cells? 0 _ _).getD []=r;rw[hr];rfl
    rw[this];exact⟨hr,hx⟩
   have hget:∀i,i<len->((List.range len).map row)[i]?=some (row i):=fun i hi=>by
    rw[Yd,Yyb hi];rfl
   have hspot:a=⟨a.block,a.off,none⟩:=by
    have hc:=(cells_at (hrow' 0 (by omega)).1);have hl0:0<(row 0).length:=by rw[hc.1];exact hpos
    have:=hc.2 0 _ (Yi hl0);rw[Nat.zero_mul,show (a.add 0).add 0=a from rfl] at this;unfold World.cell? at this;split at this
    ·split at this
     ·cases this
     ·rename_i hs;cases a with
      | mk b o s=>
       cases s with
       | none=>rfl
       | some s=>exact absurd rfl hs
    ·cases this
   refine⟨⟨some a,len,cap⟩,(List.range len).map row,rfl,hlc,hle,fun e=>(by cases e),⟨by simp,fun _=>⟨a.block,a.off,by rw[<-hspot],fun i r hi j v hj=>?_⟩⟩,fun r hr=>?_⟩
   ·have hil:i<len:=by have:=(Ya.1 hi).1;simpa using this
    rw[hget i hil] at hi;cases hi;have h4:=(cells_at (hrow' i hil).1).2 _ _ hj;rw[hspot] at h4;have e:((⟨a.block,a.off,none⟩:Addr).add (i*P.cellsOf e)).add j=addk ⟨a.block,a.off+i*P.cellsOf e,none⟩ j:=by
     rw[addk_at,add_n,add_n]
    rw[e] at h4;exact h4
   ·obtain⟨i,hi,rfl⟩:=Yp.1 hr;have:=hrow' i (List.mem_range.1 hi);exact⟨(cells_at this.1).1,this.2⟩
theorem Rdb.list {α:Type} {P:Program} {W:World} {t e:TypeId} {k:Nat} {v:Value} {cs:α->List Value} {Q:α->Prop} (ht:P.underlying t=some (.slice e)) (hk:P.cellsOf e=k) (hpos:0<k)
  (ho:∀r,Rdb P W e r->∃x,r=cs x/\Q x) (h:Rdb P W t [v]):∃(s:Sl) (L:List α),v=.slice s.a s.n s.c/\RL W.heap k s cs L/\∀x∈L,Q x:=by
 subst hk;obtain⟨s,rows,e1,hc,hm,hna,hrw,hr⟩:=h.rows ht hpos;have key:∀rows:List (List Value),(∀r∈rows,r.length=P.cellsOf e/\Rdb P W e r)->∃L:List α,rows=L.map cs/\∀x∈L,Q x:=by
  intro rows
  induction rows with
  | nil=>intro _;exact⟨[],rfl,fun x hx=>by cases hx⟩
  | cons r rows ih=>
   intro h;obtain⟨x,hx,hq⟩:=ho r (h r (by simp)).2;obtain⟨L,hL,hQ⟩:=ih fun y hy=>h y (Yn _ hy);exact⟨x::L,by rw[hx,hL];rfl,fun y hy=>by rcases Yr.1 hy with rfl | hy;exact hq;exact hQ y hy⟩
 obtain⟨L,rfl,hQ⟩:=key rows hr;have hn:=hrw.ln;exact⟨s,L,by simpa using e1,⟨hrw,hc,hna,by omega⟩,hQ⟩
theorem v3:Pz.underlying 3=some (.int .i64):=by kernel_rfl
theorem v4b:Pz.underlying 4=some .bool:=by kernel_rfl
theorem cz3:Pz.cellsOf 3=1:=by kernel_rfl
theorem cz4:Pz.cellsOf 4=1:=by kernel_rfl
theorem cz85:Pz.cellsOf 85=1:=by kernel_rfl
theorem cz86:Pz.cellsOf 86=1:=by kernel_rfl
theorem cz75:Pz.cellsOf 75=1:=by kernel_rfl
theorem cz88:Pz.cellsOf 88=6:=by kernel_rfl
theorem cz199:Pz.cellsOf 199=3:=by kernel_rfl
theorem cz116:Pz.cellsOf 116=6:=by kernel_rfl
theorem vs85:Pz.underlying 85=some (.slice 4):=by kernel_rfl
theorem vs86:Pz.underlying 86=some (.slice 116):=by kernel_rfl
theorem vs75:Pz.underlying 75=some (.slice 199):=by kernel_rfl
theorem open_three {W:World} {t:TypeId} {r:List Value} (hc:Pz.cellsOf t=3) (h0:fieldAt Pz t 0=some (3,0)) (h1:fieldAt Pz t 1=some (3,1)) (h2:fieldAt Pz t 2=some (3,2)) (h:Rdt Pz W t r) :
  ∃a b c:Int,r=[.int .i64 a,.int .i64 b,.int .i64 c]:=by
 have hl:=h.flen h0;rw[hc] at hl
 match r,hl with
 | [x0,x1,x2],_=>
  have f0:=h.field h0;have f1:=h.field h1;have f2:=h.field h2;rw[cz3] at f0 f1 f2;obtain⟨k0,e0,_⟩:=f0.int v3;obtain⟨k1,e1,_⟩:=f1.int v3;obtain⟨k2,e2,_⟩:=f2.int v3;simp only[List.drop_zero,List.take_succ_cons,Yyk,List.drop_succ_cons,List.cons.injEq,and_true] at e0 e1 e2;subst e0 e1 e2;exact⟨k0,k1,k2,rfl⟩
theorem open_boolv {W:World} {r:List Value} (h:Rdb Pz W 4 r):∃x:Bool,r=bC x/\True:=by
 obtain⟨k,e⟩:=h.rdt.bool v4b;exact⟨k,e,trivial⟩
theorem open_limit {W:World} {r:List Value} (h:Rdb Pz W 199 r):∃x:To,r=x.cs/\True:=by
 obtain⟨a,b,c,e⟩:=open_three cz199 (by kernel_rfl) (by kernel_rfl) (by kernel_rfl) h.rdt;exact⟨⟨a,b,c⟩,e,trivial⟩
theorem open_move {W:World} {r:List Value} (h:Rdb Pz W 116 r):∃x:Mv,r=x.cs/\True:=by
 have hl:=h.rdt.flen (i:=0) (ft:=3) (off:=0) (by kernel_rfl);rw[cz116] at hl
 match r,hl with
 | [x0,x1,x2,x3,x4,x5],_=>
  have f0:=h.rdt.field (i:=0) (ft:=3) (off:=0) (by kernel_rfl);have f1:=h.rdt.field (i:=1) (ft:=4) (off:=1) (by kernel_rfl);have f2:=h.rdt.field (i:=2) (ft:=3) (off:=2) (by kernel_rfl);have f3:=h.rdt.field (i:=3) (ft:=3) (off:=3) (by kernel_rfl);have f4:=h.rdt.field (i:=4) (ft:=3) (off:=4) (by kernel_rfl);have f5:=h.rdt.field (i:=5) (ft:=4) (off:=5) (by kernel_rfl);rw[cz3] at f0 f2 f3 f4;rw[cz4] at f1 f5;obtain⟨k0,e0,_⟩:=f0.int v3;obtain⟨k1,e1⟩:=f1.bool v4b;obtain⟨k2,e2,_⟩:=f2.int v3;obtain⟨k3,e3,_⟩:=f3.int v3;obtain⟨k4,e4,_⟩:=f4.int v3;obtain⟨k5,e5⟩:=f5.bool v4b;simp only[List.drop_zero,List.take_succ_cons,Yyk,List.drop_succ_cons,List.cons.injEq,and_true] at e0 e1 e2 e3 e4 e5;subst e0 e1 e2 e3 e4 e5;exact⟨⟨k0,k1,k2,k3,k4,k5⟩,rfl,trivial⟩
theorem open_machine {W:World} {r:List Value} (h:Rdb Pz W 88 r):∃(m:Mch) (sf sm sl:Sl),r=mC m sf sm sl/\MI W.heap m sf sm sl:=by
 have hl:=h.rdt.flen (i:=0) (ft:=3) (off:=0) (by kernel_rfl);rw[cz88] at hl
 match r,hl with
 | [x0,x1,x2,x3,x4,x5],_=>
  have f0:=h.rdt.field (i:=0) (ft:=3) (off:=0) (by kernel_rfl);have f1:=h.rdt.field (i:=1) (ft:=3) (off:=1) (by kernel_rfl);have f2:=h.rdt.field (i:=2) (ft:=3) (off:=2) (by kernel_rfl);have f3:=h.field (i:=3) (ft:=85) (off:=3) (by kernel_rfl);have f4:=h.field (i:=4) (ft:=86) (off:=4) (by kernel_rfl);have f5:=h.field (i:=5) (ft:=75) (off:=5) (by kernel_rfl);rw[cz3] at f0 f1 f2;rw[cz85] at f3;rw[cz86] at f4;rw[cz75] at f5;obtain⟨k0,e0,_⟩:=f0.int v3;obtain⟨k1,e1,_⟩:=f1.int v3;obtain⟨k2,e2,_⟩:=f2.int v3;obtain⟨sf,lf,e3,hf,_⟩:=Rdb.list vs85 cz4 (by omega) (fun r hr=>open_boolv hr) (show Rdb Pz W 85 [x3] from f3);obtain⟨sm,lm,e4,hm,_⟩:=Rdb.list vs86 cz116 (by omega) (fun r hr=>open_move hr) (show Rdb Pz W 86 [x4] from f4);obtain⟨sl,ll,e5,hl,_⟩:=Rdb.list vs75 cz199 (by omega) (fun r hr=>open_limit hr) (show Rdb Pz W 75 [x5] from f5);simp only[List.drop_zero,List.take_succ_cons,Yyk,List.drop_succ_cons,List.cons.injEq,and_true] at e0 e1 e2;subst e0 e1 e2 e3 e4 e5;exact⟨⟨k0,k1,k2,lf,lm,ll⟩,sf,sm,sl,rfl,⟨hf,hm,hl⟩⟩
theorem v5u:Pz.underlying 5=some (.int .u8):=by kernel_rfl
theorem vsS22:Pz.underlying 22=some (.slice 88):=by kernel_rfl
theorem v44:Pz.underlying 44=some (.array 2 5):=by kernel_rfl
theorem open_mr {W:World} {r:List Value} (h:Rdb Pz W 88 r):∃x:MR,r=x.cs/\MI W.heap x.m x.f x.g x.l:=by
 obtain⟨m,f,g,l,e,hm⟩:=open_machine h;exact⟨⟨m,f,g,l⟩,e,hm⟩
theorem open_sys {W:World} {v:Value} (h:Rdb Pz W 22 [v]):∃(s:Sl) (L:List MR),v=.slice s.a s.n s.c/\SyI W.heap s L:=by
 obtain⟨s,L,e,hr,hq⟩:=Rdb.list vsS22 cz88 (by omega) (fun r hr=>open_mr hr) h;exact⟨s,L,e,hr,hq⟩
theorem open_u8n {W:World} {r:List Value} (h:Rdb Pz W 5 r):∃x:Int,r=u8C x/\(0<=x/\x<256):=by
 obtain⟨n,e,hw⟩:=h.rdt.int v5u;have h3:(decide (IntKind.u8.min<=n)&&decide (n<=IntKind.u8.max))=true:=hw;rw[Yt] at h3;have h4:(0:Int)<=n:=Yyn h3.1;have h5:n<=(255:Int):=Yyn h3.2;exact⟨n,e,h4,by omega⟩
theorem u8_rng {W:World} {k:Int} (h:Rdb Pz W 5 [.int .u8 k]):0<=k/\k<256:=by
 obtain⟨x,e,hx⟩:=open_u8n h;injection e with e1 _;injection e1 with _ e2;rw[e2];exact hx
end Go.VC
end
