/- KwVcI KwVcK KwQ KwR KwU KwVcN KwV KwVcO KwW KwY KwVcH KwZ KwAa KwAk KwVeA KeA KeB KeC KwVcL. -/
import Derived.Test.YtknallccojglcaaGreatDoorM24
set_option linter.unusedVariables false
set_option linter.unusedSimpArgs false
set_option maxRecDepth 100000

section
namespace Go.VC
open Go.Proofs
variable {h:Heap} {R:Value->Heap->Prop}

def W51 (p0 p1_1 p1_2:Sl):Prop:=
 Wn h [vS p1_1,vS p1_2] 50 fun h3=>
 ∃x4,rS h3 (aS h 0) x4 /\
 QI 0 h3 fun I5 x_8 h9 m7=>
 sB (decide (x_8<(x4.n:Int)))
 (NB x4.a fun b10 o11=>Ib x_8 x4.n /\
 ∃x12,rI h9 ⟨b10,o11+Int.toNat x_8*1,none⟩ x12 /\
 NB p0.a fun b13 o14=>Ib x_8 p0.n /\
 ∃x15,rS h9 ⟨b13,o14+Int.toNat x_8*6+3,none⟩ x15 /\
 NB x15.a fun b16 o17=>Ib x12 x15.n /\
 ∃x18,rB h9 ⟨b16,o17+Int.toNat x12*1,none⟩ x18 /\
 sB (!x18)
 (R (.bool false) h9)
 (∃m19,m19<m7/\I5 (IntKind.wrap .i64 (x_8+1)) h9 m19))
 (∃x20,rS h9 (aS h 1) x20 /\
 Fn Pz 83 #[vS x20,.func (.func 84) #[] #[]] h9
 (fun v21 h23=>∃x22,iB v21 x22 /\
 R (.bool (!x22)) h23))
theorem vc51 (p0 p1_1 p1_2:Sl) (H:@W51 h R p0 p1_1 p1_2):Fn Pz 51 #[vS p0,.agg ⟨[vS p1_1,vS p1_2]⟩] h R:=fnI (A:=(.s .z (.s (.s .z (.b (.l [(10,.one (.int .i64))] .z))) .z))) (by kernel_rfl) H

def W77 (p0 p1_1 p1_2:Sl):Prop:=
 Wn h [vS p1_1,vS p1_2] 28 fun h3=>
 QI 0 h3 fun I4 p_7 h8 m6=>
 sB (decide (p_7<(p0.n:Int)))
 (NB p0.a fun b9 o10=>Ib p_7 p0.n /\
 ∃x11,rS h8 ⟨b9,o10+Int.toNat p_7*6+3,none⟩ x11 /\
 ∃x12,rS h8 (aS h 0) x12 /\
 NB x12.a fun b13 o14=>Ib p_7 x12.n /\
 ∃x15,rI h8 ⟨b13,o14+Int.toNat p_7*1,none⟩ x15 /\
 NB x11.a fun b16 o17=>Ib x15 x11.n /\
 ∃x18,rB h8 ⟨b16,o17+Int.toNat x15*1,none⟩ x18 /\
 sB (!x18)
 (R (.bool false) h8)
 (∃m19,m19<m6/\I4 (IntKind.wrap .i64 (p_7+1)) h8 m19))
 (QI 0 h8 fun I20 i_23 h24 m22=>
 ∃x25,rS h24 (aS h 1) x25 /\
 sB (decide (i_23<(x25.n:Int)))
 (∃x26,rS h24 (aS h 1) x26 /\
 NB x26.a fun b27 o28=>Ib i_23 x26.n /\
 ∃x29,rS h24 ⟨b27,o28+Int.toNat i_23*1,none⟩ x29 /\
 sB (decide ((x29.n:Int)>0))
 (R (.bool false) h24)
 (∃m30,m30<m22/\I20 (IntKind.wrap .i64 (i_23+1)) h24 m30))
 (R (.bool true) h24))
theorem vc77 (p0 p1_1 p1_2:Sl) (H:@W77 h R p0 p1_1 p1_2):Fn Pz 77 #[vS p0,.agg ⟨[vS p1_1,vS p1_2]⟩] h R:=fnI (A:=(.s .z (.s (.s .z (.b (.l [(5,.one (.int .i64))] .z))) (.s (.s .z (.b (.l [(6,.one (.int .i64))] .z))) .z)))) (by kernel_rfl) H

def W23 (p0:Sl) (p1:Int) (p2_1 p2_2:Sl):Prop:=
 Wn h [vS p2_1,vS p2_2] 50 fun h3=>
 ∃(x4 x5:Sl),atC h3 (aS h 0) [vS x4,vS x5] /\
 Fn Pz 49 #[vS p0,vI p1,.agg ⟨[vS x4,vS x5]⟩] h3
 (fun v6 h8=>∃x7,iB v6 x7 /\
 sB (!x7)
 (R (.tuple ⟨[vI 0,vI 1]⟩) h8)
 (∃x9,rS h8 (aS h 1) x9 /\
 QI 0 h8 fun I10 x_13 h14 m12=>
 sB (decide (x_13<(x9.n:Int)))
 (NB x9.a fun b15 o16=>Ib x_13 x9.n /\
 ∃x17,rS h14 ⟨b15,o16+Int.toNat x_13*1,none⟩ x17 /\
 sB (decide ((x17.n:Int)>0))
 ((p0.n:Int)≠0/\NB p0.a fun b18 o19=>(0<=((Int.tmod x_13 (p0.n:Int)):Int)/\((Int.tmod x_13 (p0.n:Int)):Int)<(p0.n:Nat)) /\
 ∃x20 x21 x22 x23 x24 x25,aL1 h14 ⟨b18,o19+Int.toNat (Int.tmod x_13 (p0.n:Int))*6,none⟩ x20 x21 x22 x23 x24 x25 /\
 ∃x26,rS h14 (aS h 0) x26 /\
 (p0.n:Int)≠0/\NB x26.a fun b27 o28=>(0<=((Int.tmod x_13 (p0.n:Int)):Int)/\((Int.tmod x_13 (p0.n:Int)):Int)<(x26.n:Nat)) /\
 ∃x29,rI h14 ⟨b27,o28+Int.toNat (Int.tmod x_13 (p0.n:Int))*1,none⟩ x29 /\
 (p0.n:Int)≠0/\NB x17.a fun b30 o31=>Ib 0 x17.n /\
 ∃x32,rI h14 ⟨b30,o31+Int.toNat 0*1,none⟩ x32 /\
 Fn Pz 50 #[.agg ⟨(L1 x20 x21 x22 x23 x24 x25)⟩,vI x29,vI (IntKind.wrap .i64 (Int.tdiv x_13 (p0.n:Int))),vI x32] h14
 (fun v33 h35=>∃x34,iB v33 x34 /\
 sB (!x34)
 (R (.tuple ⟨[vI 1,vI 0]⟩) h35)
 (∃m36,m36<m12/\I10 (IntKind.wrap .i64 (x_13+1)) h35 m36)))
 (∃m37,m37<m12/\I10 (IntKind.wrap .i64 (x_13+1)) h14 m37))
 (∃(x38 x39:Sl),atC h14 (aS h 0) [vS x38,vS x39] /\
 Fn Pz 51 #[vS p0,.agg ⟨[vS x38,vS x39]⟩] h14
 (fun v40 h42=>∃x41,iB v40 x41 /\
 sB (!x41)
 (∃(x43 x44:Sl),atC h42 (aS h 0) [vS x43,vS x44] /\
 Fn Pz 52 #[vS p0,vI p1,.agg ⟨[vS x43,vS x44]⟩] h42
 (fun v45 h47=>∃x46,iS v45 x46 /\
 sB ((x46.n:Int)==0)
 (R (.tuple ⟨[vI 2,vI 0]⟩) h47)
 (R (.tuple ⟨[vI 0,vI 0]⟩) h47)))
 (R (.tuple ⟨[vI 0,vI 0]⟩) h42)))))
theorem vc23 (p0:Sl) (p1:Int) (p2_1 p2_2:Sl) (H:@W23 h R p0 p1 p2_1 p2_2):Fn Pz 23 #[vS p0,vI p1,.agg ⟨[vS p2_1,vS p2_2]⟩] h R:=fnI (A:=(.s .z (.s .z (.s .z (.s (.s .z (.b (.l [(21,.one (.int .i64))] .z))) .z))))) (by kernel_rfl) H

def V50a (h36 h26:Heap) (x8:Int) (h7:Heap) (todo_24:Sl) (m23:Nat) (I21:Sl->Int->Heap->Nat->Prop) (x_25:Int):Prop:=
 ∃x43,rI h36 (aS h26 4) x43/\(0<=(x43:Int)/\(x43:Int)<((Int.toNat x8):Nat))/\∃x44,rB h36 (aS h7 (0+Int.toNat x43*1)) x44/\sB (!x44) (∃x45,rI h36 (aS h26 4) x45/\(0<=(x45:Int)/\(x45:Int)<((Int.toNat x8):Nat))/\Wp h36 (aS h7 (0+Int.toNat x45*1)) 1 [.bool true] fun h46=>∃x47,rI h46 (aS h26 4) x47/\Wn h46 [vI x47] 3 fun h48=>App Pz 25 25 (vS todo_24) (.slice (some (aS h46 0)) 1 1) h48 fun s49 h50=>∃m51,m51<m23/\I21 s49 (IntKind.wrap .i64 (x_25+1)) h50 m51) (∃m52,m52<m23/\I21 todo_24 (IntKind.wrap .i64 (x_25+1)) h36 m52)
def W50 (p0_1 p0_2 p0_3:Int) (p0_4 p0_5 p0_6:Sl) (p1 p2 p3:Int):Prop:=
 Wn h (L1 p0_1 p0_2 p0_3 p0_4 p0_5 p0_6) 88 fun h7=>∃x8,rI h7 (aS h 1) x8/\Mk x8 x8 1/\Wn h7 (madeL Pz 4 (Int.toNat x8)) 4 fun h9=>(0<=(p1:Int)/\(p1:Int)<((Int.toNat x8):Nat))/\Wp h9 (aS h7 (0+Int.toNat p1*1)) 1 [.bool true] fun h10=>Wn h10 [vI p1] 3 fun h11=>QS ⟨(some (aS h10 0)),1,1⟩ h11 fun I12 todo_15 h16 m14=>sB (decide ((todo_15.n:Int)>0)) (NB todo_15.a fun b17 o18=>(0<=((IntKind.wrap .i64 ((todo_15.n:Int)-1)):Int)/\((IntKind.wrap .i64 ((todo_15.n:Int)-1)):Int)<(todo_15.n:Nat))/\∃x19,rI h16 ⟨b17,o18+Int.toNat (IntKind.wrap .i64 ((todo_15.n:Int)-1))*1,none⟩ x19/\((0:Int)<=(0:Int)/\(0:Int)<=((IntKind.wrap .i64 ((todo_15.n:Int)-1)):Int)/\((IntKind.wrap .i64 ((todo_15.n:Int)-1)):Int)<=(todo_15.c:Nat))/\∃x20,rS h16 (aS h 4) x20/\QSI ⟨(subA todo_15.a (Int.toNat 0) todo_15.c 1),(Int.toNat (IntKind.wrap .i64 ((todo_15.n:Int)-1))-Int.toNat 0),(todo_15.c-Int.toNat 0)⟩ 0 h16 fun I21 todo_24 x_25 h26 m23=>sB (decide (x_25<(x20.n:Int))) (NB x20.a fun b27 o28=>Ib x_25 x20.n/\∃x29 x30 x31 x32 x33 x34,aL0 h26 ⟨b27,o28+Int.toNat x_25*6,none⟩ x29 x30 x31 x32 x33 x34/\Wn h26 [vI 0,.bool false,vI 0,vI 0,vI 0,.bool false] 116 fun h35=>Wp h35 (aS h26 0) 6 (L0 x29 x30 x31 x32 x33 x34) fun h36=>∃x37,rI h36 (aS h26 0) x37/\sB (x37 != x19) (∃m38,m38<m23/\I21 todo_24 (IntKind.wrap .i64 (x_25+1)) h36 m38) (∃x39,rB h36 (aS h26 1) x39/\sB (!x39) (∃x40,rI h36 (aS h26 2) x40/\sB (x40==p2) (∃x41,rI h36 (aS h26 3) x41/\sB (x41==p3) (R (.bool true) h36) (∃m42,m42<m23/\I21 todo_24 (IntKind.wrap .i64 (x_25+1)) h36 m42)) (V50a h36 h26 x8 h7 todo_24 m23 I21 x_25)) (V50a h36 h26 x8 h7 todo_24 m23 I21 x_25))) (∃m63,m63<m14/\I12 todo_24 h26 m63)) (R (.bool false) h16)
theorem vc50 (p0_1 p0_2 p0_3:Int) (p0_4 p0_5 p0_6:Sl) (p1 p2 p3:Int) (H:@W50 h R p0_1 p0_2 p0_3 p0_4 p0_5 p0_6 p1 p2 p3):Fn Pz 50 #[.agg ⟨(L1 p0_1 p0_2 p0_3 p0_4 p0_5 p0_6)⟩,vI p1,vI p2,vI p3] h R:=fnI (A:=(.s .z (.s .z (.s .z (.s (.s .z (.b (.l [(10,.one (.slice))] (.s .z (.b (.s .z (.s .z (.s .z (.b (.l [(10,.one (.slice)),(39,.one (.int .i64))] .z)))))))))) .z))))) (by kernel_rfl) H

def W41 (p0:Sl) (p1:Int) (p2_1 p2_2:Sl):Prop:=
 Wn h [vS p2_1,vS p2_2] 28 fun h3=>
 QI 0 h3 fun I4 i_7 h8 m6=>
 ∃x9,rS h8 (aS h 1) x9 /\
 sB (decide (i_7<(x9.n:Int)))
 ((p0.n:Int)≠0/\(p0.n:Int)≠0/\∃x10,rS h8 (aS h 1) x10 /\
 NB x10.a fun b11 o12=>Ib i_7 x10.n /\
 ∃x13,rS h8 ⟨b11,o12+Int.toNat i_7*1,none⟩ x13 /\
 sB (decide ((x13.n:Int)>0))
 (NB p0.a fun b14 o15=>(0<=((Int.tmod i_7 (p0.n:Int)):Int)/\((Int.tmod i_7 (p0.n:Int)):Int)<(p0.n:Nat)) /\
 ∃x16 x17 x18 x19 x20 x21,aL1 h8 ⟨b14,o15+Int.toNat (Int.tmod i_7 (p0.n:Int))*6,none⟩ x16 x17 x18 x19 x20 x21 /\
 ∃x22,rS h8 (aS h 0) x22 /\
 NB x22.a fun b23 o24=>(0<=((Int.tmod i_7 (p0.n:Int)):Int)/\((Int.tmod i_7 (p0.n:Int)):Int)<(x22.n:Nat)) /\
 ∃x25,rI h8 ⟨b23,o24+Int.toNat (Int.tmod i_7 (p0.n:Int))*1,none⟩ x25 /\
 ∃x26,rS h8 (aS h 1) x26 /\
 NB x26.a fun b27 o28=>Ib i_7 x26.n /\
 ∃x29,rS h8 ⟨b27,o28+Int.toNat i_7*1,none⟩ x29 /\
 NB x29.a fun b30 o31=>Ib 0 x29.n /\
 ∃x32,rI h8 ⟨b30,o31+Int.toNat 0*1,none⟩ x32 /\
 Fn Pz 76 #[.agg ⟨(L1 x16 x17 x18 x19 x20 x21)⟩,vI x25,vI (IntKind.wrap .i64 (Int.tdiv i_7 (p0.n:Int))),vI x32] h8
 (fun v33 h35=>∃x34,iB v33 x34 /\
 Sm [⟨b11,o12+Int.toNat i_7*1,none⟩,(aS h 1)] h8 h35 /\
 sB (!x34)
 (R (vI 1) h35)
 (∃m36,m36<m6/\I4 (IntKind.wrap .i64 (i_7+1)) h35 m36)))
 (∃m37,m37<m6/\I4 (IntKind.wrap .i64 (i_7+1)) h8 m37))
 (∃(x38 x39:Sl),atC h8 (aS h 0) [vS x38,vS x39] /\
 Fn Pz 42 #[vS p0,vI p1,.agg ⟨[vS x38,vS x39]⟩] h8
 (fun v40 h42=>∃x41,iS v40 x41 /\
 sB ((x41.n:Int)==0)
 (∃(x43 x44:Sl),atC h42 (aS h 0) [vS x43,vS x44] /\
 Fn Pz 77 #[vS p0,.agg ⟨[vS x43,vS x44]⟩] h42
 (fun v45 h47=>∃x46,iB v45 x46 /\
 sB (!x46)
 (R (vI 2) h47)
 (R (vI 0) h47)))
 (R (vI 0) h42)))
theorem vc41 (p0:Sl) (p1:Int) (p2_1 p2_2:Sl) (H:@W41 h R p0 p1 p2_1 p2_2):Fn Pz 41 #[vS p0,vI p1,.agg ⟨[vS p2_1,vS p2_2]⟩] h R:=fnI (A:=(.s .z (.s (.s .z (.b (.l [(7,.one (.int .i64))] .z))) .z))) (by kernel_rfl) H

end Go.VC
end

section
namespace Go.VC
open Go.Proofs
variable {h:Heap} {R:Value->Heap->Prop}

def W83 (p0:Sl) (p1:FuncId):Prop:=
 Fn Pz 121 #[vS p0,.func (.func p1) #[] #[]] h
 (fun v1 h3=>∃x2,iI v1 x2 /\
 R (.bool (decide (x2>=0))) h3)
theorem vc83 (p0:Sl) (p1:FuncId) (H:@W83 h R p0 p1):Fn Pz 83 #[vS p0,.func (.func p1) #[] #[]] h R:=fnI (A:=.z) (by kernel_rfl) H

def W121 (p0:Sl) (p1:FuncId):Prop:=
 QI 0 h fun I1 x_4 h5 m3=>
 sB (decide (x_4<(p0.n:Int)))
 (NB p0.a fun b6 o7=>Ib x_4 p0.n /\
 ∃x8,rS h5 ⟨b6,o7+Int.toNat x_4*1,none⟩ x8 /\
 bif callable Pz p1 then Fn Pz p1 #[vS x8] h5
 (fun v9 h11=>∃x10,iB v9 x10 /\
 sB x10
 (R (vI x_4) h11)
 (∃m12,m12<m3/\I1 (IntKind.wrap .i64 (x_4+1)) h11 m12)) else ExtW Pz p1 #[vS x8] h5
 (fun v9 h11=>∃x10,iB v9 x10 /\
 sB x10
 (R (vI x_4) h11)
 (∃m12,m12<m3/\I1 (IntKind.wrap .i64 (x_4+1)) h11 m12)))
 (R (vI (-1)) h5)
theorem vc121 (p0:Sl) (p1:FuncId) (H:@W121 h R p0 p1):Fn Pz 121 #[vS p0,.func (.func p1) #[] #[]] h R:=fnI (A:=(.s .z (.s (.s .z (.b (.l [(8,.one (.int .i64))] .z))) .z))) (by kernel_rfl) H

def W84 (p0:Sl):Prop:=
 R (.bool (decide ((p0.n:Int)>0))) h
theorem vc84 (p0:Sl) (H:@W84 h R p0):Fn Pz 84 #[vS p0] h R:=fnI (A:=.z) (by kernel_rfl) H

end Go.VC
end

section
namespace Go.VC
open Go.Proofs Go.LexS
structure FinS (L:List Mch) (S:List Int) (BL:List (List Int)):Prop where
 s:∀(p:Nat) s m,S[p]?=some s->L[p]?=some m->m.fin[s.toNat]?=some true
 b:∀b∈BL,b=[]
theorem cal94:callable Pz 84=true:=by kernel_rfl
theorem index131 (B:List Bx) (s:Sl) (h:Heap) (hr:RL h 1 s Bx.cs B) (hi:∀q∈B,RL h 1 q.s inC q.l) :
  Fn Pz 121 #[.slice s.a s.n s.c,.func (.func 84) #[] #[]] h fun v h'=>(∃k:Int,v=.int .i64 k/\(0<=k ↔ ¬∀b∈B.map Bx.l,b=[]))/\Ext h h':=by
 apply vc121 s 84;unfold W121;have hn:=hr.ln;have hl:=hr.sm;refine up_loop (n:=s.n) (fun i h'=>Ext h h'/\∀(j:Nat) (x:Bx),j<i->B[j]?=some x->x.l=[]) ⟨.rfl',fun j x hj=>by omega⟩ ?_;rintro-i h5 hi' ⟨E,hq⟩;refine sB_intro (fun c=>?_) (fun c=>?_)
 ·replace c:=lt_t c;refine (hr.rw.ext E).nbI (by omega) (by omega) fun b6 o7 x gx t14=>?_;replace gx:B[i]?=some x:=gx;have hm:=Yb gx;have hxn:=(hi x hm).ln;refine⟨x.s,t14.hd,?_⟩;rw[cal94,cond_true];apply vc84 x.s;unfold W84;refine⟨_,rfl,sBi (fun c2=>?_) (fun c2=>?_)⟩
  ·refine⟨⟨_,rfl,iff_of_true (by omega) fun hall=>?_⟩,E⟩;have:=hall x.l (List.mem_map_of_mem hm);rw[this] at hxn;simp at hxn;omega
  ·refine Up.next (by omega) (by omega) ⟨E,fun j y hj hy=>?_⟩;by_cases e:j=i
   ·subst e;rw[gx] at hy;cases hy;exact List.eq_nil_of_length_eq_zero (by omega)
   ·exact hq j y (by omega) hy
 ·replace c:=lt_f c;refine⟨⟨_,rfl,iff_of_false (by omega) fun hall=>hall fun b hb=>?_⟩,E⟩;obtain⟨x,hx,rfl⟩:=Yp.1 hb;obtain⟨j,hj⟩:=Yf.1 hx;exact hq j x (by have:=(Ya.1 hj).1;omega) hj
theorem any93 (B:List Bx) (s:Sl) (h:Heap) (hr:RL h 1 s Bx.cs B) (hi:∀q∈B,RL h 1 q.s inC q.l) :
  Fn Pz 83 #[.slice s.a s.n s.c,.func (.func 84) #[] #[]] h (RP (¬∀b∈B.map Bx.l,b=[]) h):=by
 apply vc83 s 84;unfold W83;refine (index131 B s h hr hi).mono ?_;rintro _ h3 ⟨⟨k,rfl,hk⟩,E⟩;exact⟨_,rfl,RP.e (by rw[decide_eq_true_eq];exact hk) E⟩
set_option maxHeartbeats 1600000 in
theorem final67 (L:List MR) (s:Sl) (k:Int) (ss sb:Sl) (S:List Int) (B:List Bx) (h:Heap) (hS:SyI h s L) (hC:CfI h ss sb S B) (hP:ProS (L.map MR.m) k S (B.map Bx.l)) :
  Fn Pz 51 #[.slice s.a s.n s.c,.agg ⟨[.slice ss.a ss.n ss.c,.slice sb.a sb.n sb.c]⟩] h (RP (FinS (L.map MR.m) S (B.map Bx.l)) h):=by
 apply vc51 s ss sb;unfold W51;have hn:=hS.r.ln;have hsn:=hC.s.ln;have hsm:=hC.s.sm;have hlm:(L.map MR.m).length=L.length:=Yc _;have hSl:=hP.p.s;rw[hlm] at hSl;refine (St.refl h).newb fun h3 hs=>?_;refine⟨ss,hs.rd 0 rfl (i:=0) rfl,?_⟩;refine up_loopS (n:=ss.n) hs (fun i=>∀(p:Nat) z m,p<i->S[p]?=some z->(L.map MR.m)[p]?=some m->m.fin[z.toNat]?=some true) (fun p z m hj=>by omega) ?_;rintro-i h9 hi ⟨hs,hq⟩;refine sB_intro (fun c=>?_) (fun c=>?_)
 ·replace c:=lt_t c;refine (hC.s.rw.ext hs.ext).nbI (by omega) (by omega) fun b10 o11 z gz t=>?_;replace gz:S[i]?=some z:=gz;refine⟨z,t.hd,?_⟩;refine (hS.r.rw.ext hs.ext).nbI (by omega) (by omega) fun b o y gy t2=>?_;replace gy:L[i]?=some y:=gy;have gm:(L.map MR.m)[i]?=some y.m:=by rw[Yd,gy];rfl
  have hyi:=hS.i y (Yb gy);have hfl:=(hP.v.m i y.m gm).2.1.n.fl;have hz:=hP.p.st i z y.m gz gm;have hfn:=hyi.pf.ln;refine⟨y.f,t2.nth 3 rfl,?_⟩;refine (hyi.pf.rw.ext hs.ext).nbI hz.1 (by omega) fun b o f gf t3=>?_;refine⟨f,t3.hd,sB_intro (fun d=>?_) (fun d=>?_)⟩
  ·refine RP.f (fun hF=>?_) hs.ext;have:=hF.s i z y.m gz gm;rw[gf] at this;cases this;cases d
  ·refine Up.next (by omega) (by omega) ⟨hs,fun p z' m' hj h1 h2=>?_⟩;by_cases e:p=i
   ·subst e;rw[gz] at h1;rw[gm] at h2;cases h1;cases h2;rw[gf];cases f
    ·cases d
    ·rfl
   ·exact hq p z' m' (by omega) h1 h2
 ·replace c:=lt_f c;refine⟨sb,hs.rd 0 rfl (i:=1) rfl,?_⟩;refine (any93 B sb h9 (hC.b.ext hs.ext) fun q hq=>(hC.i q hq).ext hs.ext).mono ?_;rintro _ h23 ⟨⟨b,rfl,hb⟩,E⟩;refine⟨b,rfl,RP.e ?_ (hs.ext.trans E)⟩;have hall:∀(p:Nat) z m,S[p]?=some z->(L.map MR.m)[p]?=some m->m.fin[z.toNat]?=some true:=fun p z m h1 h2=>hq p z m (by have:=(Ya.1 h1).1;omega) h1 h2;cases b with
  | true=>exact iff_of_false (by decide) fun hF=>hb.1 rfl hF.b
  | false=>exact iff_of_true rfl ⟨hall,Classical.not_not.1 fun hn=>by have:=hb.2 hn;cases this⟩
set_option maxHeartbeats 1600000 in
theorem done68 (L:List MR) (s:Sl) (k:Int) (ss sb:Sl) (S:List Int) (B:List Bx) (h:Heap) (hS:SyI h s L) (hC:CfI h ss sb S B) (hP:ProS (L.map MR.m) k S (B.map Bx.l)) :
  Fn Pz 77 #[.slice s.a s.n s.c,.agg ⟨[.slice ss.a ss.n ss.c,.slice sb.a sb.n sb.c]⟩] h (RP (FinS (L.map MR.m) S (B.map Bx.l)) h):=by
 apply vc77 s ss sb;unfold W77;have hn:=hS.r.ln;have hsn:=hC.s.ln;have hbn:=hC.b.ln;have hsm:=hC.s.sm;have hbs:=hC.b.sm;have hlm:(L.map MR.m).length=L.length:=Yc _;have hSl:=hP.p.s;rw[hlm] at hSl;refine (St.refl h).newb fun h3 hs=>?_;refine up_loopS (n:=s.n) hs (fun i=>∀(p:Nat) z m,p<i->S[p]?=some z->(L.map MR.m)[p]?=some m->m.fin[z.toNat]?=some true) (fun p z m hj=>by omega) ?_;rintro-i h9 hi ⟨hs,hq⟩;refine sB_intro (fun c=>?_) (fun c=>?_)
 ·replace c:=lt_t c;refine (hS.r.rw.ext hs.ext).nbI (by omega) (by omega) fun b o y gy t2=>?_;replace gy:L[i]?=some y:=gy;have gm:(L.map MR.m)[i]?=some y.m:=by rw[Yd,gy];rfl
  have hyi:=hS.i y (Yb gy);have hfl:=(hP.v.m i y.m gm).2.1.n.fl;have hfn:=hyi.pf.ln;refine⟨y.f,t2.nth 3 rfl,ss,hs.rd 0 rfl (i:=0) rfl,?_⟩;refine (hC.s.rw.ext hs.ext).nbI (by omega) (by omega) fun b10 o11 z gz t=>?_;replace gz:S[i]?=some z:=gz;have hz:=hP.p.st i z y.m gz gm;refine⟨z,t.hd,?_⟩;refine (hyi.pf.rw.ext hs.ext).nbI hz.1 (by omega) fun b o f gf t3=>?_;refine⟨f,t3.hd,sB_intro (fun d=>?_) (fun d=>?_)⟩
  ·refine RP.f (fun hF=>?_) hs.ext;have:=hF.s i z y.m gz gm;rw[gf] at this;cases this;cases d
  ·refine Up.next (by omega) (by omega) ⟨hs,fun p z' m' hj h1 h2=>?_⟩;by_cases e:p=i
   ·subst e;rw[gz] at h1;rw[gm] at h2;cases h1;cases h2;rw[gf];cases f
    ·cases d
    ·rfl
   ·exact hq p z' m' (by omega) h1 h2
 ·replace c:=lt_f c;have hall:∀(p:Nat) z m,S[p]?=some z->(L.map MR.m)[p]?=some m->m.fin[z.toNat]?=some true:=fun p z m h1 h2=>hq p z m (by have:=(Ya.1 h1).1;omega) h1 h2;refine up_loopS (n:=sb.n) hs (fun i=>∀(j:Nat) (x:Bx),j<i->B[j]?=some x->x.l=[]) (fun p z hj=>by omega) ?_;rintro-i h24 hi ⟨hs,hq⟩;refine⟨sb,hs.rd 0 rfl (i:=1) rfl,sB_intro (fun c=>?_) (fun c=>?_)⟩
  ·replace c:=lt_t c;refine⟨sb,hs.rd 0 rfl (i:=1) rfl,?_⟩;refine (hC.b.rw.ext hs.ext).nbI (by omega) (by omega) fun b o x gx t=>?_;replace gx:B[i]?=some x:=gx;have hm:=Yb gx;have hxn:=(hC.i x hm).ln;refine⟨x.s,t.hd,sBi (fun d=>?_) (fun d=>?_)⟩
   ·refine RP.f (fun hF=>?_) hs.ext;have:=hF.b x.l (List.mem_map_of_mem hm);rw[this] at hxn;simp at hxn;omega
   ·refine Up.next (by omega) (by omega) ⟨hs,fun j y hj hy=>?_⟩;by_cases e:j=i
    ·subst e;rw[gx] at hy;cases hy;exact List.eq_nil_of_length_eq_zero (by omega)
    ·exact hq j y (by omega) hy
  ·replace c:=lt_f c;refine RP.t ⟨hall,fun b hb=>?_⟩ hs.ext;obtain⟨x,hx,rfl⟩:=Yp.1 hb;obtain⟨j,hj⟩:=Yf.1 hx;exact hq j x (by have:=(Ya.1 hj).1;omega) hj
def tailN (p0:Sl) (ob b0 b5 b6 b7:Nat) (h0:Heap) (R:Value->Heap->Prop):Prop:=
 (∃x33,rS h0 ⟨ob,0,none⟩ x33 /\ 
 (∃x34,rI h0 ⟨b5,0,none⟩ x34 /\ 
 (∃x35,rI h0 ⟨b7,4,none⟩ x35 /\ 
 (NB x33.a fun b36 o37=>(Ib x34 x33.n /\ 
 (Wp h0 ⟨b36,o37+Int.toNat x34*1,none⟩ 1 [vI x35] fun h38=>
 (∃x39,rB h38 ⟨b7,1,none⟩ x39 /\ 
 (sB x39 
 ((∃x40,rI h38 ⟨b5,0,none⟩ x40 /\ 
 (∃x41,rI h38 ⟨b7,2,none⟩ x41 /\ 
 (∃x42,rS h38 ⟨ob,1,none⟩ x42 /\ 
 (∃x43,rS h38 ⟨b0,1,none⟩ x43 /\ 
 (NB x43.a fun b44 o45=>((0<=((IntKind.wrap .i64 ((IntKind.wrap .i64 ((p0.n:Int)*x40))+x41)):Int)/\((IntKind.wrap .i64 ((IntKind.wrap .i64 ((p0.n:Int)*x40))+x41)):Int)<(x43.n:Nat)) /\ 
 (∃x46,rS h38 ⟨b44,o45+Int.toNat (IntKind.wrap .i64 ((IntKind.wrap .i64 ((p0.n:Int)*x40))+x41))*1,none⟩ x46 /\ 
 (∃x47,rI h38 ⟨b7,3,none⟩ x47 /\ 
 ((Wn h38 [] 3 fun h48=>
 (Sm [⟨b7,3,none⟩,⟨b44,o45+Int.toNat (IntKind.wrap .i64 ((IntKind.wrap .i64 ((p0.n:Int)*x40))+x41))*1,none⟩,⟨b0,1,none⟩,⟨ob,1,none⟩] h38 h48 /\ 
 ((App Pz 25 25 (.slice (some (aS h38 0)) 0 0) (vS x46) h48 fun s49 h50=>
 (Sm [⟨b7,3,none⟩,⟨ob,1,none⟩] h48 h50 /\ 
 (Wn h50 [vI x47] 3 fun h51=>
 (Sm [⟨b44,o45+Int.toNat (IntKind.wrap .i64 ((IntKind.wrap .i64 ((p0.n:Int)*x40))+x41))*1,none⟩,⟨b0,1,none⟩,⟨ob,1,none⟩] h50 h51 /\ 
 (App Pz 25 25 (vS s49) (.slice (some (aS h50 0)) 1 1) h51 fun s52 h53=>
 (Sm [⟨ob,1,none⟩] h51 h53 /\ 
 (NB x42.a fun b54 o55=>((0<=((IntKind.wrap .i64 ((IntKind.wrap .i64 ((p0.n:Int)*x40))+x41)):Int)/\((IntKind.wrap .i64 ((IntKind.wrap .i64 ((p0.n:Int)*x40))+x41)):Int)<(x42.n:Nat)) /\ 
 (Wp h53 ⟨b54,o55+Int.toNat (IntKind.wrap .i64 ((IntKind.wrap .i64 ((p0.n:Int)*x40))+x41))*1,none⟩ 1 [vS s52] fun h56=>
 (∃x57:Sl,∃x58:Sl,atC h56 ⟨ob,0,none⟩ [vS x57,vS x58] /\ 
 (Wp h56 ⟨b6,0,none⟩ 2 [vS x57,vS x58] fun h59=>
 (∃x60:Sl,∃x61:Sl,atC h59 ⟨b6,0,none⟩ [vS x60,vS x61] /\ 
 R (.agg ⟨[vS x60,vS x61]⟩) h59)))))))))))))/\((Wn h48 [vI x47] 3 fun h62=>
 (Sm [⟨b44,o45+Int.toNat (IntKind.wrap .i64 ((IntKind.wrap .i64 ((p0.n:Int)*x40))+x41))*1,none⟩,⟨b0,1,none⟩,⟨ob,1,none⟩] h48 h62 /\ 
 (App Pz 25 25 (.slice (some (aS h38 0)) 0 0) (vS x46) h62 fun s63 h64=>
 (Sm [⟨b7,3,none⟩,⟨ob,1,none⟩] h62 h64 /\ 
 (App Pz 25 25 (vS s63) (.slice (some (aS h48 0)) 1 1) h64 fun s65 h66=>
 (Sm [⟨ob,1,none⟩] h64 h66 /\ 
 (NB x42.a fun b67 o68=>((0<=((IntKind.wrap .i64 ((IntKind.wrap .i64 ((p0.n:Int)*x40))+x41)):Int)/\((IntKind.wrap .i64 ((IntKind.wrap .i64 ((p0.n:Int)*x40))+x41)):Int)<(x42.n:Nat)) /\ 
 (Wp h66 ⟨b67,o68+Int.toNat (IntKind.wrap .i64 ((IntKind.wrap .i64 ((p0.n:Int)*x40))+x41))*1,none⟩ 1 [vS s65] fun h69=>
 (∃x70:Sl,∃x71:Sl,atC h69 ⟨ob,0,none⟩ [vS x70,vS x71] /\ 
 (Wp h69 ⟨b6,0,none⟩ 2 [vS x70,vS x71] fun h72=>
 (∃x73:Sl,∃x74:Sl,atC h72 ⟨b6,0,none⟩ [vS x73,vS x74] /\ 
 R (.agg ⟨[vS x73,vS x74]⟩) h72))))))))))))))))/\((Wn h38 [vI x47] 3 fun h75=>
 (Sm [⟨b44,o45+Int.toNat (IntKind.wrap .i64 ((IntKind.wrap .i64 ((p0.n:Int)*x40))+x41))*1,none⟩,⟨b0,1,none⟩,⟨ob,1,none⟩] h38 h75 /\ 
 (Wn h75 [] 3 fun h76=>
 (Sm [⟨b7,3,none⟩,⟨b44,o45+Int.toNat (IntKind.wrap .i64 ((IntKind.wrap .i64 ((p0.n:Int)*x40))+x41))*1,none⟩,⟨b0,1,none⟩,⟨ob,1,none⟩] h75 h76 /\ 
 (App Pz 25 25 (.slice (some (aS h75 0)) 0 0) (vS x46) h76 fun s77 h78=>
 (Sm [⟨b7,3,none⟩,⟨ob,1,none⟩] h76 h78 /\ 
 (App Pz 25 25 (vS s77) (.slice (some (aS h38 0)) 1 1) h78 fun s79 h80=>
 (Sm [⟨ob,1,none⟩] h78 h80 /\ 
 (NB x42.a fun b81 o82=>((0<=((IntKind.wrap .i64 ((IntKind.wrap .i64 ((p0.n:Int)*x40))+x41)):Int)/\((IntKind.wrap .i64 ((IntKind.wrap .i64 ((p0.n:Int)*x40))+x41)):Int)<(x42.n:Nat)) /\ 
 (Wp h80 ⟨b81,o82+Int.toNat (IntKind.wrap .i64 ((IntKind.wrap .i64 ((p0.n:Int)*x40))+x41))*1,none⟩ 1 [vS s79] fun h83=>
 (∃x84:Sl,∃x85:Sl,atC h83 ⟨ob,0,none⟩ [vS x84,vS x85] /\ 
 (Wp h83 ⟨b6,0,none⟩ 2 [vS x84,vS x85] fun h86=>
 (∃x87:Sl,∃x88:Sl,atC h86 ⟨b6,0,none⟩ [vS x87,vS x88] /\ 
 R (.agg ⟨[vS x87,vS x88]⟩) h86)))))))))))))))))))))))) 
 ((∃x89,rI h38 ⟨b7,2,none⟩ x89 /\ 
 (∃x90,rI h38 ⟨b5,0,none⟩ x90 /\ 
 (∃x91,rS h38 ⟨ob,1,none⟩ x91 /\ 
 (∃x92,rS h38 ⟨b0,1,none⟩ x92 /\ 
 (NB x92.a fun b93 o94=>((0<=((IntKind.wrap .i64 ((IntKind.wrap .i64 ((p0.n:Int)*x89))+x90)):Int)/\((IntKind.wrap .i64 ((IntKind.wrap .i64 ((p0.n:Int)*x89))+x90)):Int)<(x92.n:Nat)) /\ 
 (∃x95,rS h38 ⟨b93,o94+Int.toNat (IntKind.wrap .i64 ((IntKind.wrap .i64 ((p0.n:Int)*x89))+x90))*1,none⟩ x95 /\ 
 (((0:Int)<=(1:Int)/\(1:Int)<=((x95.n:Nat):Int)/\((x95.n:Nat):Int)<=(x95.c:Nat)) /\ 
 (Wn h38 [] 3 fun h96=>
 (Sm [⟨b93,o94+Int.toNat (IntKind.wrap .i64 ((IntKind.wrap .i64 ((p0.n:Int)*x89))+x90))*1,none⟩,⟨b0,1,none⟩,⟨ob,1,none⟩] h38 h96 /\ 
 (App Pz 25 25 (.slice (some (aS h38 0)) 0 0) (.slice (subA x95.a (Int.toNat 1) x95.c 1) (Int.toNat (x95.n:Nat)-Int.toNat 1) (x95.c-Int.toNat 1)) h96 fun s97 h98=>
 (Sm [⟨ob,1,none⟩] h96 h98 /\ 
 (NB x91.a fun b99 o100=>((0<=((IntKind.wrap .i64 ((IntKind.wrap .i64 ((p0.n:Int)*x89))+x90)):Int)/\((IntKind.wrap .i64 ((IntKind.wrap .i64 ((p0.n:Int)*x89))+x90)):Int)<(x91.n:Nat)) /\ 
 (Wp h98 ⟨b99,o100+Int.toNat (IntKind.wrap .i64 ((IntKind.wrap .i64 ((p0.n:Int)*x89))+x90))*1,none⟩ 1 [vS s97] fun h101=>
 (∃x102:Sl,∃x103:Sl,atC h101 ⟨ob,0,none⟩ [vS x102,vS x103] /\ 
 (Wp h101 ⟨b6,0,none⟩ 2 [vS x102,vS x103] fun h104=>
 (∃x105:Sl,∃x106:Sl,atC h104 ⟨b6,0,none⟩ [vS x105,vS x106] /\ 
 R (.agg ⟨[vS x105,vS x106]⟩) h104)))))))))))))))))))))))))))
theorem Sm_two {a b:Addr} {h h':Heap} (h1:Sm [a] h h') (h2:Sm [b] h h'):Sm [a,b] h h':=fun x hx k v hv=>by
 rcases Yr.1 hx with rfl | hx
 ·exact h1 _ Yx k v hv
 ·exact h2 _ hx k v hv
theorem Rw.tail1 {h:Heap} {s:Sl} {row:List Value} {rows:List (List Value)} (hr:Rw h 1 s (row::rows)) (hc:s.n<=s.c) (h1:1<=s.n):Rw h 1 ⟨subA s.a (Int.toNat 1) s.c 1,Int.toNat (s.n:Nat)-Int.toNat 1,s.c-Int.toNat 1⟩ rows/\subA s.a (Int.toNat 1) s.c 1≠none:=by
 obtain⟨e1,e2⟩:=hr;rw[Yyj] at e1;obtain⟨b,o,ha,hrow⟩:=e2 (by simp);have e3:Int.toNat (1:Int)=1:=rfl;rw[e3,Ys];refine⟨⟨by show s.n-1=_;omega,fun hp=>?_⟩,?_⟩
 ·have hc1:¬s.c=1:=by omega
  refine⟨b,o+1,?_,fun i r hi=>?_⟩
  ·show subA s.a 1 s.c 1=_;unfold subA;rw[if_neg hc1,ha,Option.map_some,Nat.one_mul,Addr.add_lit]
  ·have:=hrow (i+1) r hi
   rwa [show o+(i+1)*1=o+1+i*1 by omega] at this
 ·show subA s.a 1 s.c 1≠none;unfold subA;rw[ha];split<;>simp
def NexV (S:List Int) (B:List Bx) (p j:Nat) (x:Mv) (l:List Int) (h:Heap) (v:Value) (h':Heap):Prop:=∃(ts tb u:Sl),v=cfA ts tb/\St h h' [.sl ts 3 1 ((S.set p x.t).map inC),.sl tb 25 1 ((B.set j ⟨u,l⟩).map Bx.cs),.sl u 3 1 (l.map inC)]
set_option maxHeartbeats 3200000 in
theorem tailN_ok (n:Nat) (s ss sb ts tb u1 u2:Sl) (S:List Int) (B:List Bx) (p:Nat) (i:Int) (x:Mv) (q:Bx) (l:List Int) (ob b0 b5 b6 b7:Nat) (h h0:Heap) (hC:CfI h ss sb S B) (hn:s.n=n) (h6:n<=6) (hp:p<n) (hx0:0<=x.peer) (hx1:x.peer<(n:Int)) (hS:S.length=n) (hB:B.length=n*n)
  (gq:B[bxI n p x]?=some q) (hq:q.l.length<=4) (hl:l=if x.send=true then q.l++[x.label] else q.l.tail) (hr:x.send=false->1<=q.l.length)
  (hs:St h h0 [.blk ob [.slice ts.a ts.n ts.c,.slice tb.a tb.n tb.c] 28,.sl ts 3 1 (S.map inC),.sl tb 25 1 (B.map Bx.cs),.blk b7 x.cs 116,.blk b6 [.slice u1.a u1.n u1.c,.slice u2.a u2.n u2.c] 28,.blk b5 [.int .i64 (p:Int),.int .i64 i] 53,.blk b0 [.slice ss.a ss.n ss.c,.slice sb.a sb.n sb.c] 28]) :
  tailN s ob b0 b5 b6 b7 h0 (NexV S B p (bxI n p x) x l h):=by
 unfold tailN;have h36:=sq6 h6;have hj:=bxI_lt (n:=n) (x:=x) hp hx0 hx1;have hts:=(hs.rows 1 (s:=ts) (cs:=inC) rfl (by omega)).ln;have htb:=(hs.rows 2 (s:=tb) (cs:=Bx.cs) rfl (by omega)).ln;have hbn:=hC.b.ln;have hqs:=hC.i q (Yb gq);have hqn:=hqs.ln;obtain⟨pe,hpe⟩:∃pe:Nat,x.peer=(pe:Int):=⟨x.peer.toNat,by omega⟩;have hpt:x.peer.toNat=pe:=by omega
 refine⟨ts,hs.rd 0 rfl (i:=0) rfl,(p:Int),hs.rd 5 rfl (i:=0) rfl,x.t,hs.rd 3 rfl (i:=4) rfl,?_⟩;refine hs.set 1 (s:=ts) (cs:=inC) (x:=(p:Int)) rfl (by omega) (by omega) (by omega) x.t rfl rfl (fun b o h38 hs=>?_) rfl;rw[Ys] at hs;have hw1:∀a b:Nat,a<n->b<n->IntKind.wrap .i64 (IntKind.wrap .i64 ((s.n:Int)*(a:Int))+(b:Int))=((n*a+b:Nat):Int):=fun a b ha hb=>by
  have e1:(s.n:Int)*(a:Int)=((n*a:Nat):Int):=by rw[hn];rfl
  have:=two_lt ha hb;rw[e1,w64 (n:=((n*a:Nat):Int)) (by omega) (by omega)];rw[w64 (by omega) (by omega)];rfl
 have fin:∀ {u:Sl} {hh:Heap} {A:List It} ,St h hh (A++[.sl u 3 1 (l.map inC),.blk ob [.slice ts.a ts.n ts.c,.slice tb.a tb.n tb.c] 28,.sl ts 3 1 ((S.set p x.t).map inC),.sl tb 25 1 ((B.set (bxI n p x) ⟨u,l⟩).map Bx.cs),.blk b7 x.cs 116,.blk b6 [.slice u1.a u1.n u1.c,.slice u2.a u2.n u2.c] 28,.blk b5 [.int .i64 (p:Int),.int .i64 i] 53,.blk b0 [.slice ss.a ss.n ss.c,.slice sb.a sb.n sb.c] 28]) ->
   (∃x57:Sl,∃x58:Sl,atC hh ⟨ob,0,none⟩ [.slice x57.a x57.n x57.c,.slice x58.a x58.n x58.c] /\ 
   (okAt hh ⟨b6,0,none⟩ 2/\∀h59:Heap,h59=hputs hh ⟨b6,0,none⟩ 0 [.slice x57.a x57.n x57.c,.slice x58.a x58.n x58.c] -> 
   (∃x60:Sl,∃x61:Sl,atC h59 ⟨b6,0,none⟩ [.slice x60.a x60.n x60.c,.slice x61.a x61.n x61.c] /\ 
   NexV S B p (bxI n p x) x l h (.agg ⟨[.slice x60.a x60.n x60.c,.slice x61.a x61.n x61.c]⟩) h59))):=fun {u hh A} hs=>by
  have hs:=hs.sub (List.sublist_append_right A _);refine⟨ts,tb,hs.at 1 rfl (o:=0) (n:=2) rfl,?_⟩;refine hs.put 5 rfl (o:=0) (vs:=[.slice ts.a ts.n ts.c,.slice tb.a tb.n tb.c]) rfl (show 2<=2 by decide) fun h59 hs=>?_;refine⟨ts,tb,hs.at 5 rfl (o:=0) (n:=2) rfl,ts,tb,u,rfl,?_⟩;have hs:=hs.sub (L':=[.sl u 3 1 (l.map inC),.sl ts 3 1 ((S.set p x.t).map inC),.sl tb 25 1 ((B.set (bxI n p x) ⟨u,l⟩).map Bx.cs)]) (.cons_cons _ (.cons _ (.cons_cons _ (.cons_cons _ (List.nil_sublist _)))));exact hs.perm (List.perm_middle (l₁:=[_,_]) (l₂:=[])).symm
 refine⟨x.send,hs.rd 3 rfl (i:=1) rfl,sB_intro (fun d=>?_) (fun d=>?_)⟩
 ·have hjj:bxI n p x=n*p+pe:=by unfold bxI;rw[if_pos d,hpt]
  have hJ:=hw1 p pe hp (by omega);rw[if_pos d] at hl;have el:([]++q.l.map inC)++[inC x.label]=l.map inC:=by rw[hl,Ym];rfl
  rw[<-hjj,<-hpe] at hJ;refine⟨(p:Int),hs.rd 5 rfl (i:=0) rfl,x.peer,hs.rd 3 rfl (i:=2) rfl,tb,hs.rd 0 rfl (i:=1) rfl,sb,hs.rd 6 rfl (i:=1) rfl,?_⟩;rw[hJ];refine (hC.b.rw.ext hs.ext).nbI (by omega) (by omega) fun b o q' gq' t=>?_;rw[Ys,gq] at gq';cases gq';refine⟨q.s,t.hd,x.label,hs.rd 3 rfl (i:=3) rfl,And.intro ?_ ?_⟩
  ·refine hs.newbE fun h48 E48 hs=>⟨E48.sm,?_⟩;have hs:=hs.blkS 0 1 [] rfl (fun r hr=>by cases hr) rfl (Nat.zero_le _);refine And.intro ?_ ?_
   ·have hs48:=hs;refine hs.appRw 0 (s:=⟨some ⟨h38.size,0,none⟩,0,0⟩) (rows:=[]) (y:=q.s) rfl app42 (hqs.rw.ext hs.ext) (inrows' q.l) hqs.nil (flat_oneB (fun _=>rfl) _) (by show (0+q.s.n)*8<=_;omega) (by show 0+q.s.n<=_;simp only[maxLen];omega) fun e h50 ne hs=>?_;refine⟨Sm_two (hs48.smbO hs 4 4 3 rfl rfl) (hs48.smbO hs 1 1 1 rfl rfl),?_⟩;refine hs.newbE fun h51 E51 hs=>⟨E51.sm,?_⟩;have hs51:=hs;refine hs.appended 1 (s:=e) (n:=1) (rows:=[]++q.l.map inC) rfl app42 (m:=1) (news:=[inC x.label]) (hs.at 0 rfl (n:=1) rfl) rfl (by simp[inC]) rfl (by have:e.n=0+q.s.n:=ne;omega) (by have:e.n=0+q.s.n:=ne;simp only[maxLen];omega) fun u h53 nu hs=>?_;refine⟨hs51.smbO hs 2 2 1 rfl rfl,?_⟩;refine hs.set 4 (s:=tb) (cs:=Bx.cs) (x:=(bxI n p x:Int)) rfl (by omega) (by omega) (by omega) (⟨u,l⟩:Bx) rfl rfl (fun b o h56 hs=>?_) rfl;rw[Ys] at hs;refine fin (u:=u) (A:=[.blk h50.size [.int .i64 x.label] 3]) ?_;rw[<-el];exact hs
   ·refine hs.newbE fun h62 E62 hs=>⟨E62.sm,?_⟩;have hs62:=hs;refine hs.appRw 1 (s:=⟨some ⟨h38.size,0,none⟩,0,0⟩) (rows:=[]) (y:=q.s) rfl app42 (hqs.rw.ext hs.ext) (inrows' q.l) hqs.nil (flat_oneB (fun _=>rfl) _) (by show (0+q.s.n)*8<=_;omega) (by show 0+q.s.n<=_;simp only[maxLen];omega) fun e h64 ne hs=>?_;refine⟨Sm_two (hs62.smbO hs 5 5 3 rfl rfl) (hs62.smbO hs 2 2 1 rfl rfl),?_⟩;have hs64:=hs;refine hs.appended 1 (s:=e) (n:=1) (rows:=[]++q.l.map inC) rfl app42 (m:=1) (news:=[inC x.label]) (hs.at 0 rfl (n:=1) rfl) rfl (by simp[inC]) rfl (by have:e.n=0+q.s.n:=ne;omega) (by have:e.n=0+q.s.n:=ne;simp only[maxLen];omega) fun u h66 nu hs=>?_;refine⟨hs64.smbO hs 2 2 1 rfl rfl,?_⟩;refine hs.set 4 (s:=tb) (cs:=Bx.cs) (x:=(bxI n p x:Int)) rfl (by omega) (by omega) (by omega) (⟨u,l⟩:Bx) rfl rfl (fun b o h56 hs=>?_) rfl;rw[Ys] at hs;refine fin (u:=u) (A:=[.blk h48.size [.int .i64 x.label] 3]) ?_;rw[<-el];exact hs
  ·refine hs.newbE fun h75 E75 hs=>⟨E75.sm,?_⟩;refine hs.newbE fun h76 E76 hs=>⟨E76.sm,?_⟩;have hs:=hs.blkS 0 1 [] rfl (fun r hr=>by cases hr) rfl (Nat.zero_le _);have hs76:=hs;refine hs.appRw 0 (s:=⟨some ⟨h75.size,0,none⟩,0,0⟩) (rows:=[]) (y:=q.s) rfl app42 (hqs.rw.ext hs.ext) (inrows' q.l) hqs.nil (flat_oneB (fun _=>rfl) _) (by show (0+q.s.n)*8<=_;omega) (by show 0+q.s.n<=_;simp only[maxLen];omega) fun e h78 ne hs=>?_;refine⟨Sm_two (hs76.smbO hs 5 5 3 rfl rfl) (hs76.smbO hs 2 2 1 rfl rfl),?_⟩;have hs78:=hs;refine hs.appended 0 (s:=e) (n:=1) (rows:=[]++q.l.map inC) rfl app42 (m:=1) (news:=[inC x.label]) (hs.at 1 rfl (n:=1) rfl) rfl (by simp[inC]) rfl (by have:e.n=0+q.s.n:=ne;omega) (by have:e.n=0+q.s.n:=ne;simp only[maxLen];omega) fun u h80 nu hs=>?_;refine⟨hs78.smbO hs 2 2 1 rfl rfl,?_⟩;refine hs.set 4 (s:=tb) (cs:=Bx.cs) (x:=(bxI n p x:Int)) rfl (by omega) (by omega) (by omega) (⟨u,l⟩:Bx) rfl rfl (fun b o h56 hs=>?_) rfl;rw[Ys] at hs;refine fin (u:=u) (A:=[.blk h38.size [.int .i64 x.label] 3]) ?_;rw[<-el];exact hs.perm (List.Perm.swap _ _ _)
 ·have hr1:=hr d;have hjj:bxI n p x=n*pe+p:=by unfold bxI;rw[if_neg (by rw[d];decide),hpt]
  have hJ:=hw1 pe p (by omega) hp;rw[if_neg (by rw[d];decide)] at hl;rw[<-hjj,<-hpe] at hJ;refine⟨x.peer,hs.rd 3 rfl (i:=2) rfl,(p:Int),hs.rd 5 rfl (i:=0) rfl,tb,hs.rd 0 rfl (i:=1) rfl,sb,hs.rd 6 rfl (i:=1) rfl,?_⟩;rw[hJ];refine (hC.b.rw.ext hs.ext).nbI (by omega) (by omega) fun b o q' gq' t=>?_;rw[Ys,gq] at gq';cases gq';have hcap:=hqs.cap;refine⟨q.s,t.hd,⟨by omega,by omega,by omega⟩,?_⟩;refine hs.newbE fun h96 E96 hs=>⟨E96.sm,?_⟩;have hs:=hs.blkS 0 1 [] rfl (fun r hr=>by cases hr) rfl (Nat.zero_le _);have hs96:=hs;obtain⟨q0,tl,hqe⟩:∃q0 tl,q.l=q0::tl:=by
   cases hq':q.l with
   | nil=>rw[hq'] at hr1;exact absurd hr1 (by decide)
   | cons a b=>exact⟨a,b,rfl⟩
  have hltl:l=tl:=by rw[hl,hqe];rfl
  have hrw:=hqs.rw.ext hs.ext;rw[hqe,Yyl] at hrw;have hsub:=Rw.tail1 hrw (by omega) (by omega);have e1:Int.toNat ((q.s.n:Nat):Int)-Int.toNat 1=q.s.n-1:=by rw[Ys];rfl
  refine hs.appRw 0 (s:=⟨some ⟨h38.size,0,none⟩,0,0⟩) (rows:=[]) (y:=⟨subA q.s.a (Int.toNat 1) q.s.c 1,Int.toNat (q.s.n:Nat)-Int.toNat 1,q.s.c-Int.toNat 1⟩) rfl app42 hsub.1 (inrows' tl) (fun ha=>absurd ha hsub.2) (flat_oneB (fun _=>rfl) _) (by show (0+(Int.toNat ((q.s.n:Nat):Int)-Int.toNat 1))*8<=_;omega) (by show 0+(Int.toNat ((q.s.n:Nat):Int)-Int.toNat 1)<=_;simp only[maxLen];omega) fun u h98 ne hs=>?_;refine⟨hs96.smbO hs 1 1 1 rfl rfl,?_⟩;refine hs.set 3 (s:=tb) (cs:=Bx.cs) (x:=(bxI n p x:Int)) rfl (by omega) (by omega) (by omega) (⟨u,l⟩:Bx) rfl rfl (fun b o h56 hs=>?_) rfl;rw[Ys] at hs;refine fin (u:=u) (A:=[]) ?_;have el:[]++tl.map inC=l.map inC:=by rw[hltl];rfl
  rw[<-el];exact hs
end Go.VC
end

section
namespace Go.VC
open Go.Proofs
variable {h:Heap} {R:Value->Heap->Prop}

def V43b (h30 h51 h53:Heap) (x42 p0:Sl) (x40 x41:Int) (s52:Sl) (h6:Heap) (R:Value->Heap->Prop):Prop:=
 Sm [(aS h30 1)] h51 h53/\NB x42.a fun b54 o55=>(0<=((IntKind.wrap .i64 ((IntKind.wrap .i64 ((p0.n:Int)*x40))+x41)):Int)/\((IntKind.wrap .i64 ((IntKind.wrap .i64 ((p0.n:Int)*x40))+x41)):Int)<(x42.n:Nat))/\Wp h53 ⟨b54,o55+Int.toNat (IntKind.wrap .i64 ((IntKind.wrap .i64 ((p0.n:Int)*x40))+x41))*1,none⟩ 1 [vS s52] fun h56=>∃(x57 x58:Sl),atC h56 (aS h30 0) [vS x57,vS x58]/\Wp h56 (aS h6 0) 2 [vS x57,vS x58] fun h59=>∃(x60 x61:Sl),atC h59 (aS h6 0) [vS x60,vS x61]/\R (.agg ⟨[vS x60,vS x61]⟩) h59
def V43h (h38:Heap) (x46:Sl) (h62 h7 h30 h48:Heap) (x42 p0:Sl) (x40 x41:Int) (h6:Heap) (R:Value->Heap->Prop):Prop:=
 App Pz 25 25 (.slice (some (aS h38 0)) 0 0) (vS x46) h62 fun s63 h64=>Sm [(aS h7 3),(aS h30 1)] h62 h64/\App Pz 25 25 (vS s63) (.slice (some (aS h48 0)) 1 1) h64 fun s65 h66=>V43b h30 h64 h66 x42 p0 x40 x41 s65 h6 R
def V43a (h31 h30:Heap) (s26 s29:Sl) (h5 h7 h:Heap) (p0:Sl) (h6:Heap) (R:Value->Heap->Prop):Prop:=
 Wp h31 (aS h30 0) 2 [vS s26,vS s29] fun h32=>∃x33,rS h32 (aS h30 0) x33/\∃x34,rI h32 (aS h5 0) x34/\∃x35,rI h32 (aS h7 4) x35/\NB x33.a fun b36 o37=>Ib x34 x33.n/\Wp h32 ⟨b36,o37+Int.toNat x34*1,none⟩ 1 [vI x35] fun h38=>∃x39,rB h38 (aS h7 1) x39/\sB x39 (∃x40,rI h38 (aS h5 0) x40/\∃x41,rI h38 (aS h7 2) x41/\∃x42,rS h38 (aS h30 1) x42/\∃x43,rS h38 (aS h 1) x43/\NB x43.a fun b44 o45=>(0<=((IntKind.wrap .i64 ((IntKind.wrap .i64 ((p0.n:Int)*x40))+x41)):Int)/\((IntKind.wrap .i64 ((IntKind.wrap .i64 ((p0.n:Int)*x40))+x41)):Int)<(x43.n:Nat))/\∃x46,rS h38 ⟨b44,o45+Int.toNat (IntKind.wrap .i64 ((IntKind.wrap .i64 ((p0.n:Int)*x40))+x41))*1,none⟩ x46/\∃x47,rI h38 (aS h7 3) x47/\(Wn h38 [] 3 fun h48=>Sm [(aS h7 3),⟨b44,o45+Int.toNat (IntKind.wrap .i64 ((IntKind.wrap .i64 ((p0.n:Int)*x40))+x41))*1,none⟩,(aS h 1),(aS h30 1)] h38 h48/\(App Pz 25 25 (.slice (some (aS h38 0)) 0 0) (vS x46) h48 fun s49 h50=>Sm [(aS h7 3),(aS h30 1)] h48 h50/\Wn h50 [vI x47] 3 fun h51=>Sm [⟨b44,o45+Int.toNat (IntKind.wrap .i64 ((IntKind.wrap .i64 ((p0.n:Int)*x40))+x41))*1,none⟩,(aS h 1),(aS h30 1)] h50 h51/\App Pz 25 25 (vS s49) (.slice (some (aS h50 0)) 1 1) h51 fun s52 h53=>V43b h30 h51 h53 x42 p0 x40 x41 s52 h6 R)/\Wn h48 [vI x47] 3 fun h62=>Sm [⟨b44,o45+Int.toNat (IntKind.wrap .i64 ((IntKind.wrap .i64 ((p0.n:Int)*x40))+x41))*1,none⟩,(aS h 1),(aS h30 1)] h48 h62/\V43h h38 x46 h62 h7 h30 h48 x42 p0 x40 x41 h6 R)/\Wn h38 [vI x47] 3 fun h75=>Sm [⟨b44,o45+Int.toNat (IntKind.wrap .i64 ((IntKind.wrap .i64 ((p0.n:Int)*x40))+x41))*1,none⟩,(aS h 1),(aS h30 1)] h38 h75/\Wn h75 [] 3 fun h76=>Sm [(aS h7 3),⟨b44,o45+Int.toNat (IntKind.wrap .i64 ((IntKind.wrap .i64 ((p0.n:Int)*x40))+x41))*1,none⟩,(aS h 1),(aS h30 1)] h75 h76/\V43h h75 x46 h76 h7 h30 h38 x42 p0 x40 x41 h6 R) (∃x89,rI h38 (aS h7 2) x89/\∃x90,rI h38 (aS h5 0) x90/\∃x91,rS h38 (aS h30 1) x91/\∃x92,rS h38 (aS h 1) x92/\NB x92.a fun b93 o94=>(0<=((IntKind.wrap .i64 ((IntKind.wrap .i64 ((p0.n:Int)*x89))+x90)):Int)/\((IntKind.wrap .i64 ((IntKind.wrap .i64 ((p0.n:Int)*x89))+x90)):Int)<(x92.n:Nat))/\∃x95,rS h38 ⟨b93,o94+Int.toNat (IntKind.wrap .i64 ((IntKind.wrap .i64 ((p0.n:Int)*x89))+x90))*1,none⟩ x95/\((0:Int)<=(1:Int)/\(1:Int)<=((x95.n:Nat):Int)/\((x95.n:Nat):Int)<=(x95.c:Nat))/\Wn h38 [] 3 fun h96=>Sm [⟨b93,o94+Int.toNat (IntKind.wrap .i64 ((IntKind.wrap .i64 ((p0.n:Int)*x89))+x90))*1,none⟩,(aS h 1),(aS h30 1)] h38 h96/\App Pz 25 25 (.slice (some (aS h38 0)) 0 0) (.slice (subA x95.a (Int.toNat 1) x95.c 1) (Int.toNat (x95.n:Nat)-Int.toNat 1) (x95.c-Int.toNat 1)) h96 fun s97 h98=>V43b h30 h96 h98 x91 p0 x89 x90 s97 h6 R)
def V43c (h22:Heap) (x23:Sl) (h423 h h25:Heap) (x24:Sl) (h264 h5 h7:Heap) (p0:Sl) (h6:Heap) (R:Value->Heap->Prop):Prop:=
 App Pz 25 25 (.slice (some (aS h22 0)) 0 0) (vS x23) h423 fun s424 h425=>Sm [(aS h 1)] h423 h425/\App Pz 26 26 (.slice (some (aS h25 0)) 0 0) (vS x24) h425 fun s426 h427=>Sm [(aS h 0)] h425 h427/\V43a h427 h264 s424 s426 h5 h7 h p0 h6 R
def V43f (h28 h h27:Heap) (x24 s26:Sl) (h5 h7:Heap) (p0:Sl) (h6:Heap) (R:Value->Heap->Prop):Prop:=
 Wn h28 [.slice none 0 0,.slice none 0 0] 28 fun h107=>Sm [(aS h 1),(aS h 0)] h28 h107/\App Pz 26 26 (.slice (some (aS h27 0)) 0 0) (vS x24) h107 fun s108 h109=>Sm [(aS h 0)] h107 h109/\V43a h109 h28 s26 s108 h5 h7 h p0 h6 R
def V43g (h27:Heap) (x24:Sl) (h28 h:Heap) (s26:Sl) (h5 h7:Heap) (p0:Sl) (h6:Heap) (R:Value->Heap->Prop):Prop:=
 App Pz 26 26 (.slice (some (aS h27 0)) 0 0) (vS x24) h28 fun s29 h30=>Sm [(aS h 0)] h28 h30/\Wn h30 [.slice none 0 0,.slice none 0 0] 28 fun h31=>Sm [(aS h 1),(aS h 0)] h30 h31/\V43a h31 h30 s26 s29 h5 h7 h p0 h6 R
def V43d (h22:Heap) (x23:Sl) (h264 h h25:Heap) (x24:Sl) (h5 h7:Heap) (p0:Sl) (h6:Heap) (R:Value->Heap->Prop):Prop:=
 App Pz 25 25 (.slice (some (aS h22 0)) 0 0) (vS x23) h264 fun s265 h266=>Sm [(aS h 1)] h264 h266/\(V43g h25 x24 h266 h s265 h5 h7 p0 h6 R)/\V43f h266 h h25 x24 s265 h5 h7 p0 h6 R
def V43e (h185 h:Heap) (x24:Sl) (h27:Heap) (s26:Sl) (h5 h7:Heap) (p0:Sl) (h6:Heap) (R:Value->Heap->Prop):Prop:=
 Wn h185 [] 25 fun h186=>Sm [(aS h 1),(aS h 0)] h185 h186/\App Pz 26 26 (.slice (some (aS h185 0)) 0 0) (vS x24) h186 fun s187 h188=>Sm [(aS h 0)] h186 h188/\V43a h188 h27 s26 s187 h5 h7 h p0 h6 R
def W43 (p0 p1_1 p1_2:Sl) (p2_3 p2_4:Int):Prop:=
 Wn h [vS p1_1,vS p1_2] 28 fun h5=>Wn h5 [vI p2_3,vI p2_4] 53 fun h6=>Wn h6 [.slice none 0 0,.slice none 0 0] 28 fun h7=>∃x8,rI h7 (aS h5 0) x8/\NB p0.a fun b9 o10=>Ib x8 p0.n/\∃x11,rS h7 ⟨b9,o10+Int.toNat x8*6+4,none⟩ x11/\∃x12,rI h7 (aS h5 1) x12/\NB x11.a fun b13 o14=>Ib x12 x11.n/\∃x15 x16 x17 x18 x19 x20,aL0 h7 ⟨b13,o14+Int.toNat x12*6,none⟩ x15 x16 x17 x18 x19 x20/\Wn h7 [vI 0,.bool false,vI 0,vI 0,vI 0,.bool false] 116 fun h21=>Sm [⟨b13,o14+Int.toNat x12*6,none⟩,(aS h5 1),⟨b9,o10+Int.toNat x8*6+4,none⟩,(aS h5 0)] h7 h21/\Wp h21 (aS h7 0) 6 (L0 x15 x16 x17 x18 x19 x20) fun h22=>∃x23,rS h22 (aS h 0) x23/\∃x24,rS h22 (aS h 1) x24/\(Wn h22 [] 3 fun h25=>Sm [(aS h 1),(aS h 0)] h22 h25/\(App Pz 25 25 (.slice (some (aS h22 0)) 0 0) (vS x23) h25 fun s26 h27=>Sm [(aS h 1)] h25 h27/\(Wn h27 [] 25 fun h28=>Sm [(aS h 1),(aS h 0)] h27 h28/\(V43g h27 x24 h28 h s26 h5 h7 p0 h6 R)/\V43f h28 h h27 x24 s26 h5 h7 p0 h6 R)/\Wn h27 [.slice none 0 0,.slice none 0 0] 28 fun h185=>Sm [(aS h 1),(aS h 0)] h27 h185/\V43e h185 h x24 h27 s26 h5 h7 p0 h6 R)/\(Wn h25 [] 25 fun h264=>Sm [(aS h 1),(aS h 0)] h25 h264/\(V43d h22 x23 h264 h h25 x24 h5 h7 p0 h6 R)/\Wn h264 [.slice none 0 0,.slice none 0 0] 28 fun h423=>Sm [(aS h 1),(aS h 0)] h264 h423/\V43c h22 x23 h423 h h25 x24 h264 h5 h7 p0 h6 R)/\Wn h25 [.slice none 0 0,.slice none 0 0] 28 fun h503=>Sm [(aS h 1),(aS h 0)] h25 h503/\(App Pz 25 25 (.slice (some (aS h22 0)) 0 0) (vS x23) h503 fun s504 h505=>Sm [(aS h 1)] h503 h505/\V43e h505 h x24 h25 s504 h5 h7 p0 h6 R)/\Wn h503 [] 25 fun h584=>Sm [(aS h 1),(aS h 0)] h503 h584/\V43c h22 x23 h584 h h503 x24 h25 h5 h7 p0 h6 R)/\(Wn h22 [] 25 fun h664=>Sm [(aS h 1),(aS h 0)] h22 h664/\(Wn h664 [] 3 fun h665=>Sm [(aS h 1),(aS h 0)] h664 h665/\(V43d h664 x23 h665 h h22 x24 h5 h7 p0 h6 R)/\Wn h665 [.slice none 0 0,.slice none 0 0] 28 fun h824=>Sm [(aS h 1),(aS h 0)] h665 h824/\V43c h664 x23 h824 h h22 x24 h665 h5 h7 p0 h6 R)/\Wn h664 [.slice none 0 0,.slice none 0 0] 28 fun h904=>Sm [(aS h 1),(aS h 0)] h664 h904/\Wn h904 [] 3 fun h905=>Sm [(aS h 1),(aS h 0)] h904 h905/\V43c h904 x23 h905 h h22 x24 h664 h5 h7 p0 h6 R)/\Wn h22 [.slice none 0 0,.slice none 0 0] 28 fun h985=>Sm [(aS h 1),(aS h 0)] h22 h985/\(Wn h985 [] 3 fun h986=>Sm [(aS h 1),(aS h 0)] h985 h986/\(App Pz 25 25 (.slice (some (aS h985 0)) 0 0) (vS x23) h986 fun s987 h988=>Sm [(aS h 1)] h986 h988/\V43e h988 h x24 h22 s987 h5 h7 p0 h6 R)/\Wn h986 [] 25 fun h1067=>Sm [(aS h 1),(aS h 0)] h986 h1067/\V43c h985 x23 h1067 h h986 x24 h22 h5 h7 p0 h6 R)/\Wn h985 [] 25 fun h1147=>Sm [(aS h 1),(aS h 0)] h985 h1147/\Wn h1147 [] 3 fun h1148=>Sm [(aS h 1),(aS h 0)] h1147 h1148/\V43c h1147 x23 h1148 h h985 x24 h22 h5 h7 p0 h6 R
theorem vc43 (p0 p1_1 p1_2:Sl) (p2_3 p2_4:Int) (H:@W43 h R p0 p1_1 p1_2 p2_3 p2_4):Fn Pz 43 #[vS p0,.agg ⟨[vS p1_1,vS p1_2]⟩,.agg ⟨[vI p2_3,vI p2_4]⟩] h R:=fnI (A:=.z) (by kernel_rfl) H

end Go.VC
end

section
namespace Go.VC
open Go.Proofs Go.LexS
theorem app24:appB Pz 26 25 1 24=true:=by kernel_rfl
theorem St.pick {h0 h:Heap} {L:List It} (hs:St h0 h L) (k:Nat) {i:It} (hk:L[k]?=some i):St h0 h (i::L.eraseIdx k):=by
 obtain⟨hl,e⟩:=Ya.1 hk;refine hs.perm ?_;rw[List.eraseIdx_eq_take_drop_succ,<-e];have e2:L=L.take k++L[k]::L.drop (k+1):=by rw[List.getElem_cons_drop,List.take_append_drop]
 conv=>lhs;rw[e2]
 exact List.perm_middle
set_option maxHeartbeats 6400000 in
theorem next56 (L:List MR) (n:Nat) (s ss sb:Sl) (S:List Int) (B:List Bx) (p i:Nat) (y:MR) (x:Mv) (q:Bx) (l:List Int) (h:Heap) (hS:SyI h s L) (hC:CfI h ss sb S B) (hn:L.length=n) (h6:n<=6) (gy:L[p]?=some y) (gx:y.m.mv[i]?=some x) (hx0:0<=x.peer) (hx1:x.peer<(n:Int)) (hSl:S.length=n) (hBl:B.length=n*n)
  (gq:B[bxI n p x]?=some q) (hq:q.l.length<=4) (hl:l=if x.send=true then q.l++[x.label] else q.l.tail) (hr:x.send=false->1<=q.l.length) :
  Fn Pz 43 #[.slice s.a s.n s.c,.agg ⟨[.slice ss.a ss.n ss.c,.slice sb.a sb.n sb.c]⟩,.agg ⟨[.int .i64 (p:Int),.int .i64 (i:Int)]⟩] h (NexV S B p (bxI n p x) x l h):=by
 apply vc43 s ss sb (p:Int) (i:Int);unfold W43 V43e V43d V43g V43f V43c V43a V43h V43b;have hsn:=hS.r.ln;have hp:p<L.length:=(Ya.1 gy).1;have hi:i<y.m.mv.length:=(Ya.1 gx).1;have hyi:=hS.i y (Yb gy);have hgn:=hyi.pm.ln;have h36:=sq6 h6;have hssn:=hC.s.ln;have hsbn:=hC.b.ln;refine (St.refl h).newb fun h5 hs=>?_;refine hs.newb fun h6' hs=>?_;refine hs.newb fun h7 hs=>?_;refine⟨(p:Int),hs.rd 1 rfl (i:=0) rfl,?_⟩;refine (hS.r.rw.ext hs.ext).nbI (by omega) (by omega) fun b o y' gy' t=>?_;rw[Ys,gy] at gy';cases gy';refine⟨y.g,t.nth 4 rfl,(i:Int),hs.rd 1 rfl (i:=1) rfl,?_⟩;refine (hyi.pm.rw.ext hs.ext).nbI (by omega) (by omega) fun b3 o3 x' gx' t3=>?_;rw[Ys,gx] at gx';cases gx';refine⟨x.f,x.send,x.peer,x.label,x.t,x.ag,t3,?_⟩;refine hs.newbE fun h21 E21 hs=>⟨E21.sm,?_⟩;refine hs.put 0 rfl (o:=0) (vs:=x.cs) rfl (show 6<=6 by decide) fun h22 hs=>?_;refine⟨ss,hs.rd 3 rfl (i:=0) rfl,sb,hs.rd 3 rfl (i:=1) rfl,?_⟩;have leaf:∀ {ob:Nat} {ts tb:Sl} {h0:Heap},St h h0 [.blk ob [.slice ts.a ts.n ts.c,.slice tb.a tb.n tb.c] 28,.sl ts 3 1 (S.map inC),.sl tb 25 1 (B.map Bx.cs),.blk h7.size x.cs 116,.blk h6'.size [.slice none 0 0,.slice none 0 0] 28,.blk h5.size [.int .i64 (p:Int),.int .i64 (i:Int)] 53,.blk h.size [.slice ss.a ss.n ss.c,.slice sb.a sb.n sb.c] 28]->tailN s ob h.size h5.size h6'.size h7.size h0 (NexV S B p (bxI n p x) x l h):=fun {ob ts tb h0} hs=>
  tailN_ok n s ss sb ts tb ⟨none,0,0⟩ ⟨none,0,0⟩ S B p (i:Int) x q l ob h.size h5.size h6'.size h7.size h h0 hC (by omega) h6 (by omega) hx0 hx1 hSl hBl gq hq hl hr hs
 refine And.intro ?_ (And.intro ?_ ?_)
 ·refine hs.newbE fun g1 E2 hs=>⟨E2.sm,?_⟩;have hs:=hs.blkS 0 1 [] rfl (fun r hr=>by cases hr) rfl (Nat.zero_le _);refine And.intro ?_ (And.intro ?_ ?_)
  ·have hs5:=hs;refine hs.appRw 0 (s:=⟨some ⟨h22.size,0,none⟩,0,0⟩) (rows:=[]) (y:=ss) rfl app42 (hC.s.rw.ext hs.ext) (inrows' S) hC.s.nil (flat_oneB (fun _=>rfl) _) (by show (0+ss.n)*8<=_;omega) (by show 0+ss.n<=_;simp only[maxLen];omega) fun s4 g3 ne6 hs=>?_;refine⟨hs5.smbO hs 4 4 1 rfl rfl,?_⟩;refine And.intro ?_ ?_
   ·refine hs.newbE fun g7 E8 hs=>⟨E8.sm,?_⟩;have hs:=hs.blkS 0 1 [] rfl (fun r hr=>by cases hr) rfl (Nat.zero_le _);refine And.intro ?_ ?_
    ·have hs11:=hs;refine hs.appRw 0 (s:=⟨some ⟨g3.size,0,none⟩,0,0⟩) (rows:=[]) (y:=sb) rfl app24 (hC.b.rw.ext hs.ext) (bxrows B) hC.b.nil (flat_oneB (fun _=>rfl) _) (by show (0+sb.n)*24<=_;omega) (by show 0+sb.n<=_;simp only[maxLen];omega) fun s10 g9 ne12 hs=>?_;refine⟨hs11.smbO hs 5 5 0 rfl rfl,?_⟩;refine hs.newbE fun g13 E14 hs=>⟨E14.sm,?_⟩;refine hs.put 0 rfl (o:=0) (vs:=[.slice s4.a s4.n s4.c,.slice s10.a s10.n s10.c]) rfl (show 2<=2 by decide) fun g15 hs=>?_;exact leaf (((hs.pick 1 rfl).pick 2 rfl).pick 2 rfl)
    ·refine hs.newbE fun g16 E17 hs=>⟨E17.sm,?_⟩;have hs20:=hs;refine hs.appRw 1 (s:=⟨some ⟨g3.size,0,none⟩,0,0⟩) (rows:=[]) (y:=sb) rfl app24 (hC.b.rw.ext hs.ext) (bxrows B) hC.b.nil (flat_oneB (fun _=>rfl) _) (by show (0+sb.n)*24<=_;omega) (by show 0+sb.n<=_;simp only[maxLen];omega) fun s19 g18 ne21 hs=>?_;refine⟨hs20.smbO hs 6 6 0 rfl rfl,?_⟩;refine hs.put 0 rfl (o:=0) (vs:=[.slice s4.a s4.n s4.c,.slice s19.a s19.n s19.c]) rfl (show 2<=2 by decide) fun g22 hs=>?_;exact leaf (((hs.pick 1 rfl).pick 2 rfl).pick 2 rfl)
   ·refine hs.newbE fun g23 E24 hs=>⟨E24.sm,?_⟩;refine hs.newbE fun g25 E26 hs=>⟨E26.sm,?_⟩;have hs:=hs.blkS 0 1 [] rfl (fun r hr=>by cases hr) rfl (Nat.zero_le _);have hs29:=hs;refine hs.appRw 0 (s:=⟨some ⟨g23.size,0,none⟩,0,0⟩) (rows:=[]) (y:=sb) rfl app24 (hC.b.rw.ext hs.ext) (bxrows B) hC.b.nil (flat_oneB (fun _=>rfl) _) (by show (0+sb.n)*24<=_;omega) (by show 0+sb.n<=_;simp only[maxLen];omega) fun s28 g27 ne30 hs=>?_;refine⟨hs29.smbO hs 6 6 0 rfl rfl,?_⟩;refine hs.put 1 rfl (o:=0) (vs:=[.slice s4.a s4.n s4.c,.slice s28.a s28.n s28.c]) rfl (show 2<=2 by decide) fun g31 hs=>?_;exact leaf (((hs.pick 0 rfl).pick 2 rfl).pick 2 rfl)
  ·refine hs.newbE fun g32 E33 hs=>⟨E33.sm,?_⟩;have hs:=hs.blkS 0 1 [] rfl (fun r hr=>by cases hr) rfl (Nat.zero_le _);refine And.intro ?_ ?_
   ·have hs36:=hs;refine hs.appRw 1 (s:=⟨some ⟨h22.size,0,none⟩,0,0⟩) (rows:=[]) (y:=ss) rfl app42 (hC.s.rw.ext hs.ext) (inrows' S) hC.s.nil (flat_oneB (fun _=>rfl) _) (by show (0+ss.n)*8<=_;omega) (by show 0+ss.n<=_;simp only[maxLen];omega) fun s35 g34 ne37 hs=>?_;refine⟨hs36.smbO hs 5 5 1 rfl rfl,?_⟩;refine And.intro ?_ ?_
    ·have hs40:=hs;refine hs.appRw 0 (s:=⟨some ⟨g1.size,0,none⟩,0,0⟩) (rows:=[]) (y:=sb) rfl app24 (hC.b.rw.ext hs.ext) (bxrows B) hC.b.nil (flat_oneB (fun _=>rfl) _) (by show (0+sb.n)*24<=_;omega) (by show 0+sb.n<=_;simp only[maxLen];omega) fun s39 g38 ne41 hs=>?_;refine⟨hs40.smbO hs 5 5 0 rfl rfl,?_⟩;refine hs.newbE fun g42 E43 hs=>⟨E43.sm,?_⟩;refine hs.put 0 rfl (o:=0) (vs:=[.slice s35.a s35.n s35.c,.slice s39.a s39.n s39.c]) rfl (show 2<=2 by decide) fun g44 hs=>?_;exact leaf (((hs.pick 1 rfl).pick 2 rfl).pick 2 rfl)
    ·refine hs.newbE fun g45 E46 hs=>⟨E46.sm,?_⟩;have hs49:=hs;refine hs.appRw 1 (s:=⟨some ⟨g1.size,0,none⟩,0,0⟩) (rows:=[]) (y:=sb) rfl app24 (hC.b.rw.ext hs.ext) (bxrows B) hC.b.nil (flat_oneB (fun _=>rfl) _) (by show (0+sb.n)*24<=_;omega) (by show 0+sb.n<=_;simp only[maxLen];omega) fun s48 g47 ne50 hs=>?_;refine⟨hs49.smbO hs 6 6 0 rfl rfl,?_⟩;refine hs.put 0 rfl (o:=0) (vs:=[.slice s35.a s35.n s35.c,.slice s48.a s48.n s48.c]) rfl (show 2<=2 by decide) fun g51 hs=>?_;exact leaf (((hs.pick 1 rfl).pick 2 rfl).pick 2 rfl)
   ·refine hs.newbE fun g52 E53 hs=>⟨E53.sm,?_⟩;have hs56:=hs;refine hs.appRw 2 (s:=⟨some ⟨h22.size,0,none⟩,0,0⟩) (rows:=[]) (y:=ss) rfl app42 (hC.s.rw.ext hs.ext) (inrows' S) hC.s.nil (flat_oneB (fun _=>rfl) _) (by show (0+ss.n)*8<=_;omega) (by show 0+ss.n<=_;simp only[maxLen];omega) fun s55 g54 ne57 hs=>?_;refine⟨hs56.smbO hs 6 6 1 rfl rfl,?_⟩;have hs60:=hs;refine hs.appRw 1 (s:=⟨some ⟨g1.size,0,none⟩,0,0⟩) (rows:=[]) (y:=sb) rfl app24 (hC.b.rw.ext hs.ext) (bxrows B) hC.b.nil (flat_oneB (fun _=>rfl) _) (by show (0+sb.n)*24<=_;omega) (by show 0+sb.n<=_;simp only[maxLen];omega) fun s59 g58 ne61 hs=>?_;refine⟨hs60.smbO hs 6 6 0 rfl rfl,?_⟩;refine hs.put 0 rfl (o:=0) (vs:=[.slice s55.a s55.n s55.c,.slice s59.a s59.n s59.c]) rfl (show 2<=2 by decide) fun g62 hs=>?_;exact leaf (((hs.pick 1 rfl).pick 2 rfl).pick 2 rfl)
  ·refine hs.newbE fun g63 E64 hs=>⟨E64.sm,?_⟩;refine And.intro ?_ ?_
   ·have hs67:=hs;refine hs.appRw 1 (s:=⟨some ⟨h22.size,0,none⟩,0,0⟩) (rows:=[]) (y:=ss) rfl app42 (hC.s.rw.ext hs.ext) (inrows' S) hC.s.nil (flat_oneB (fun _=>rfl) _) (by show (0+ss.n)*8<=_;omega) (by show 0+ss.n<=_;simp only[maxLen];omega) fun s66 g65 ne68 hs=>?_;refine⟨hs67.smbO hs 5 5 1 rfl rfl,?_⟩;refine hs.newbE fun g69 E70 hs=>⟨E70.sm,?_⟩;have hs:=hs.blkS 0 1 [] rfl (fun r hr=>by cases hr) rfl (Nat.zero_le _);have hs73:=hs;refine hs.appRw 0 (s:=⟨some ⟨g65.size,0,none⟩,0,0⟩) (rows:=[]) (y:=sb) rfl app24 (hC.b.rw.ext hs.ext) (bxrows B) hC.b.nil (flat_oneB (fun _=>rfl) _) (by show (0+sb.n)*24<=_;omega) (by show 0+sb.n<=_;simp only[maxLen];omega) fun s72 g71 ne74 hs=>?_;refine⟨hs73.smbO hs 6 6 0 rfl rfl,?_⟩;refine hs.put 1 rfl (o:=0) (vs:=[.slice s66.a s66.n s66.c,.slice s72.a s72.n s72.c]) rfl (show 2<=2 by decide) fun g75 hs=>?_;exact leaf (((hs.pick 0 rfl).pick 2 rfl).pick 2 rfl)
   ·refine hs.newbE fun g76 E77 hs=>⟨E77.sm,?_⟩;have hs:=hs.blkS 0 1 [] rfl (fun r hr=>by cases hr) rfl (Nat.zero_le _);have hs80:=hs;refine hs.appRw 2 (s:=⟨some ⟨h22.size,0,none⟩,0,0⟩) (rows:=[]) (y:=ss) rfl app42 (hC.s.rw.ext hs.ext) (inrows' S) hC.s.nil (flat_oneB (fun _=>rfl) _) (by show (0+ss.n)*8<=_;omega) (by show 0+ss.n<=_;simp only[maxLen];omega) fun s79 g78 ne81 hs=>?_;refine⟨hs80.smbO hs 6 6 1 rfl rfl,?_⟩;have hs84:=hs;refine hs.appRw 0 (s:=⟨some ⟨g63.size,0,none⟩,0,0⟩) (rows:=[]) (y:=sb) rfl app24 (hC.b.rw.ext hs.ext) (bxrows B) hC.b.nil (flat_oneB (fun _=>rfl) _) (by show (0+sb.n)*24<=_;omega) (by show 0+sb.n<=_;simp only[maxLen];omega) fun s83 g82 ne85 hs=>?_;refine⟨hs84.smbO hs 6 6 0 rfl rfl,?_⟩;refine hs.put 1 rfl (o:=0) (vs:=[.slice s79.a s79.n s79.c,.slice s83.a s83.n s83.c]) rfl (show 2<=2 by decide) fun g86 hs=>?_;exact leaf (((hs.pick 0 rfl).pick 2 rfl).pick 2 rfl)
 ·refine hs.newbE fun g87 E88 hs=>⟨E88.sm,?_⟩;have hs:=hs.blkS 0 1 [] rfl (fun r hr=>by cases hr) rfl (Nat.zero_le _);refine And.intro ?_ ?_
  ·refine hs.newbE fun g89 E90 hs=>⟨E90.sm,?_⟩;have hs:=hs.blkS 0 1 [] rfl (fun r hr=>by cases hr) rfl (Nat.zero_le _);refine And.intro ?_ ?_
   ·have hs93:=hs;refine hs.appRw 0 (s:=⟨some ⟨g87.size,0,none⟩,0,0⟩) (rows:=[]) (y:=ss) rfl app42 (hC.s.rw.ext hs.ext) (inrows' S) hC.s.nil (flat_oneB (fun _=>rfl) _) (by show (0+ss.n)*8<=_;omega) (by show 0+ss.n<=_;simp only[maxLen];omega) fun s92 g91 ne94 hs=>?_;refine⟨hs93.smbO hs 5 5 1 rfl rfl,?_⟩;refine And.intro ?_ ?_
    ·have hs97:=hs;refine hs.appRw 1 (s:=⟨some ⟨h22.size,0,none⟩,0,0⟩) (rows:=[]) (y:=sb) rfl app24 (hC.b.rw.ext hs.ext) (bxrows B) hC.b.nil (flat_oneB (fun _=>rfl) _) (by show (0+sb.n)*24<=_;omega) (by show 0+sb.n<=_;simp only[maxLen];omega) fun s96 g95 ne98 hs=>?_;refine⟨hs97.smbO hs 5 5 0 rfl rfl,?_⟩;refine hs.newbE fun g99 E100 hs=>⟨E100.sm,?_⟩;refine hs.put 0 rfl (o:=0) (vs:=[.slice s92.a s92.n s92.c,.slice s96.a s96.n s96.c]) rfl (show 2<=2 by decide) fun g101 hs=>?_;exact leaf (((hs.pick 2 rfl).pick 2 rfl).pick 2 rfl)
    ·refine hs.newbE fun g102 E103 hs=>⟨E103.sm,?_⟩;have hs106:=hs;refine hs.appRw 2 (s:=⟨some ⟨h22.size,0,none⟩,0,0⟩) (rows:=[]) (y:=sb) rfl app24 (hC.b.rw.ext hs.ext) (bxrows B) hC.b.nil (flat_oneB (fun _=>rfl) _) (by show (0+sb.n)*24<=_;omega) (by show 0+sb.n<=_;simp only[maxLen];omega) fun s105 g104 ne107 hs=>?_;refine⟨hs106.smbO hs 6 6 0 rfl rfl,?_⟩;refine hs.put 0 rfl (o:=0) (vs:=[.slice s92.a s92.n s92.c,.slice s105.a s105.n s105.c]) rfl (show 2<=2 by decide) fun g108 hs=>?_;exact leaf (((hs.pick 2 rfl).pick 2 rfl).pick 2 rfl)
   ·refine hs.newbE fun g109 E110 hs=>⟨E110.sm,?_⟩;have hs113:=hs;refine hs.appRw 1 (s:=⟨some ⟨g87.size,0,none⟩,0,0⟩) (rows:=[]) (y:=ss) rfl app42 (hC.s.rw.ext hs.ext) (inrows' S) hC.s.nil (flat_oneB (fun _=>rfl) _) (by show (0+ss.n)*8<=_;omega) (by show 0+ss.n<=_;simp only[maxLen];omega) fun s112 g111 ne114 hs=>?_;refine⟨hs113.smbO hs 6 6 1 rfl rfl,?_⟩;have hs117:=hs;refine hs.appRw 2 (s:=⟨some ⟨h22.size,0,none⟩,0,0⟩) (rows:=[]) (y:=sb) rfl app24 (hC.b.rw.ext hs.ext) (bxrows B) hC.b.nil (flat_oneB (fun _=>rfl) _) (by show (0+sb.n)*24<=_;omega) (by show 0+sb.n<=_;simp only[maxLen];omega) fun s116 g115 ne118 hs=>?_;refine⟨hs117.smbO hs 6 6 0 rfl rfl,?_⟩;refine hs.put 0 rfl (o:=0) (vs:=[.slice s112.a s112.n s112.c,.slice s116.a s116.n s116.c]) rfl (show 2<=2 by decide) fun g119 hs=>?_;exact leaf (((hs.pick 2 rfl).pick 2 rfl).pick 2 rfl)
  ·refine hs.newbE fun g120 E121 hs=>⟨E121.sm,?_⟩;refine hs.newbE fun g122 E123 hs=>⟨E123.sm,?_⟩;have hs:=hs.blkS 0 1 [] rfl (fun r hr=>by cases hr) rfl (Nat.zero_le _);have hs126:=hs;refine hs.appRw 0 (s:=⟨some ⟨g120.size,0,none⟩,0,0⟩) (rows:=[]) (y:=ss) rfl app42 (hC.s.rw.ext hs.ext) (inrows' S) hC.s.nil (flat_oneB (fun _=>rfl) _) (by show (0+ss.n)*8<=_;omega) (by show 0+ss.n<=_;simp only[maxLen];omega) fun s125 g124 ne127 hs=>?_;refine⟨hs126.smbO hs 6 6 1 rfl rfl,?_⟩;have hs130:=hs;refine hs.appRw 2 (s:=⟨some ⟨h22.size,0,none⟩,0,0⟩) (rows:=[]) (y:=sb) rfl app24 (hC.b.rw.ext hs.ext) (bxrows B) hC.b.nil (flat_oneB (fun _=>rfl) _) (by show (0+sb.n)*24<=_;omega) (by show 0+sb.n<=_;simp only[maxLen];omega) fun s129 g128 ne131 hs=>?_;refine⟨hs130.smbO hs 6 6 0 rfl rfl,?_⟩;refine hs.put 1 rfl (o:=0) (vs:=[.slice s125.a s125.n s125.c,.slice s129.a s129.n s129.c]) rfl (show 2<=2 by decide) fun g132 hs=>?_;exact leaf (((hs.pick 2 rfl).pick 1 rfl).pick 2 rfl)
 ·refine hs.newbE fun g133 E134 hs=>⟨E134.sm,?_⟩;refine And.intro ?_ ?_
  ·refine hs.newbE fun g135 E136 hs=>⟨E136.sm,?_⟩;have hs:=hs.blkS 0 1 [] rfl (fun r hr=>by cases hr) rfl (Nat.zero_le _);refine And.intro ?_ ?_
   ·have hs139:=hs;refine hs.appRw 0 (s:=⟨some ⟨g133.size,0,none⟩,0,0⟩) (rows:=[]) (y:=ss) rfl app42 (hC.s.rw.ext hs.ext) (inrows' S) hC.s.nil (flat_oneB (fun _=>rfl) _) (by show (0+ss.n)*8<=_;omega) (by show 0+ss.n<=_;simp only[maxLen];omega) fun s138 g137 ne140 hs=>?_;refine⟨hs139.smbO hs 5 5 1 rfl rfl,?_⟩;refine hs.newbE fun g141 E142 hs=>⟨E142.sm,?_⟩;have hs:=hs.blkS 0 1 [] rfl (fun r hr=>by cases hr) rfl (Nat.zero_le _);have hs145:=hs;refine hs.appRw 0 (s:=⟨some ⟨g137.size,0,none⟩,0,0⟩) (rows:=[]) (y:=sb) rfl app24 (hC.b.rw.ext hs.ext) (bxrows B) hC.b.nil (flat_oneB (fun _=>rfl) _) (by show (0+sb.n)*24<=_;omega) (by show 0+sb.n<=_;simp only[maxLen];omega) fun s144 g143 ne146 hs=>?_;refine⟨hs145.smbO hs 6 6 0 rfl rfl,?_⟩;refine hs.put 2 rfl (o:=0) (vs:=[.slice s138.a s138.n s138.c,.slice s144.a s144.n s144.c]) rfl (show 2<=2 by decide) fun g147 hs=>?_;exact leaf (((hs.pick 0 rfl).pick 1 rfl).pick 2 rfl)
   ·refine hs.newbE fun g148 E149 hs=>⟨E149.sm,?_⟩;have hs:=hs.blkS 0 1 [] rfl (fun r hr=>by cases hr) rfl (Nat.zero_le _);have hs152:=hs;refine hs.appRw 1 (s:=⟨some ⟨g133.size,0,none⟩,0,0⟩) (rows:=[]) (y:=ss) rfl app42 (hC.s.rw.ext hs.ext) (inrows' S) hC.s.nil (flat_oneB (fun _=>rfl) _) (by show (0+ss.n)*8<=_;omega) (by show 0+ss.n<=_;simp only[maxLen];omega) fun s151 g150 ne153 hs=>?_;refine⟨hs152.smbO hs 6 6 1 rfl rfl,?_⟩;have hs156:=hs;refine hs.appRw 0 (s:=⟨some ⟨g135.size,0,none⟩,0,0⟩) (rows:=[]) (y:=sb) rfl app24 (hC.b.rw.ext hs.ext) (bxrows B) hC.b.nil (flat_oneB (fun _=>rfl) _) (by show (0+sb.n)*24<=_;omega) (by show 0+sb.n<=_;simp only[maxLen];omega) fun s155 g154 ne157 hs=>?_;refine⟨hs156.smbO hs 6 6 0 rfl rfl,?_⟩;refine hs.put 2 rfl (o:=0) (vs:=[.slice s151.a s151.n s151.c,.slice s155.a s155.n s155.c]) rfl (show 2<=2 by decide) fun g158 hs=>?_;exact leaf (((hs.pick 0 rfl).pick 1 rfl).pick 2 rfl)
  ·refine hs.newbE fun g159 E160 hs=>⟨E160.sm,?_⟩;have hs:=hs.blkS 0 1 [] rfl (fun r hr=>by cases hr) rfl (Nat.zero_le _);refine hs.newbE fun g161 E162 hs=>⟨E162.sm,?_⟩;have hs:=hs.blkS 0 1 [] rfl (fun r hr=>by cases hr) rfl (Nat.zero_le _);have hs165:=hs;refine hs.appRw 0 (s:=⟨some ⟨g159.size,0,none⟩,0,0⟩) (rows:=[]) (y:=ss) rfl app42 (hC.s.rw.ext hs.ext) (inrows' S) hC.s.nil (flat_oneB (fun _=>rfl) _) (by show (0+ss.n)*8<=_;omega) (by show 0+ss.n<=_;simp only[maxLen];omega) fun s164 g163 ne166 hs=>?_;refine⟨hs165.smbO hs 6 6 1 rfl rfl,?_⟩;have hs169:=hs;refine hs.appRw 1 (s:=⟨some ⟨g133.size,0,none⟩,0,0⟩) (rows:=[]) (y:=sb) rfl app24 (hC.b.rw.ext hs.ext) (bxrows B) hC.b.nil (flat_oneB (fun _=>rfl) _) (by show (0+sb.n)*24<=_;omega) (by show 0+sb.n<=_;simp only[maxLen];omega) fun s168 g167 ne170 hs=>?_;refine⟨hs169.smbO hs 6 6 0 rfl rfl,?_⟩;refine hs.put 2 rfl (o:=0) (vs:=[.slice s164.a s164.n s164.c,.slice s168.a s168.n s168.c]) rfl (show 2<=2 by decide) fun g171 hs=>?_;exact leaf (((hs.pick 1 rfl).pick 1 rfl).pick 2 rfl)
end Go.VC
end

section
namespace Go.VC
open Go.Proofs

end Go.VC
end

section
namespace Go.VC
open Go.Proofs Go.LexS

theorem divmod_two {n a b:Nat} (hb:b<n):(n*a+b)/n=a/\(n*a+b)%n=b:=by
 constructor
 ·rw[Nat.mul_add_div (by omega),Nat.div_eq_of_lt hb,Nat.add_zero]
 ·rw[Nat.mul_add_mod,Nat.mod_eq_of_lt hb]
theorem pro_do {L:List Mch} {k:Int} {S:List Int} {BL:List (List Int)} {p:Nat} {m:Mch} {x:Mv} (hP:ProS L k S BL) (gm:L[p]?=some m) (hxm:x∈m.mv) (hc:canS L.length k S BL p x=0):ProS L k (S.set p x.t) (doB L.length p x BL):=by
 have hp:p<L.length:=(Ya.1 gm).1;have hvm:=hP.v.m p m gm;have hx:=hvm.2.1.n.mv x hxm;have hx1:=hvm.2.2 x hxm;have hj:=bxI_lt (n:=L.length) (x:=x) hp hx.2.2.2.2.1 hx1;obtain⟨q,gq⟩:=get_some (l:=BL) (i:=bxI L.length p x) (by rw[hP.p.b];exact hj);have hqd:BL.getD (bxI L.length p x) []=q:=by rw[Yo,gq];rfl
 have hbq:=hP.p.bx _ q gq;refine⟨hP.v,hP.c,⟨by rw[Yyh];exact hP.p.s,by unfold doB;rw[Yyh];exact hP.p.b,fun q' s m' h1 h2=>?_,fun j b hb=>?_⟩⟩
 ·by_cases e:q'=p
  ·subst e;rw[gm] at h2;cases h2;rw[Yq (by rw[hP.p.s];exact hp)] at h1;cases h1;exact⟨hx.2.2.1,hx.2.2.2.1⟩
  ·rw[Yy (Ne.symm e)] at h1;exact hP.p.st q' s m' h1 h2
 ·unfold doB at hb;by_cases e:j=bxI L.length p x
  ·subst e;rw[Yq (by rw[hP.p.b];exact hj),hqd] at hb;cases hb;have hd:¬bxI L.length p x/L.length=bxI L.length p x%L.length:=by
    unfold bxI;have hpr:=hx.2.2.2.2.2.2.1;rw[hvm.1] at hpr;have h0:=hx.2.2.2.2.1;split
    ·obtain⟨a,b⟩:=divmod_two (n:=L.length) (a:=p) (b:=x.peer.toNat) (by omega);rw[a,b];omega
    ·obtain⟨a,b⟩:=divmod_two (n:=L.length) (a:=x.peer.toNat) (b:=p) hp;rw[a,b];omega
   refine⟨?_,fun h=>absurd h hd,?_⟩
   ·unfold canS at hc;rw[hqd] at hc;split at hc
    ·exact absurd hc (by decide)
    ·split
     ·rename_i hs;rw[if_pos hs] at hc;rw[Yh,Yv];split at hc
      ·exact absurd hc (by decide)
      ·omega
     ·rw[List.length_tail];omega
   ·intro z hz;split at hz
    ·rcases Yk.1 hz with hz | hz
     ·exact hbq.2.2 z hz
     ·rw[Ye.1 hz];exact hx.2.2.2.2.2.2.2
    ·exact hbq.2.2 z (List.mem_of_mem_tail hz)
  ·rw[Yy (Ne.symm e)] at hb;exact hP.p.bx j b hb
end Go.VC
end

section
namespace Go.VC
open Go.Proofs

end Go.VC
end

section
namespace Go.VC
open Go.Proofs Go.LexS
def u8C (b:Int):List Value:=[.int .u8 b]
theorem xpro_start {L:List Mch} {k:Int} (hV:SysV L) (hk:1<=k/\k<=4):ProS L k (startS L) ((List.replicate (L.length*L.length) bx0).map Bx.l):=by
 refine⟨hV,hk,⟨by unfold startS;rw[Yc],by rw[Yc,Yg],fun p s m h1 h2=>?_,fun i b hb=>?_⟩⟩
 ·unfold startS at h1;rw[Yd,h2] at h1;cases h1;exact (hV.m p m h2).2.1.n.s
 ·obtain⟨q,hq,rfl⟩:=Yp.1 (Yb hb);rw[List.eq_of_mem_replicate hq];exact⟨by show ((0:Nat):Int)<=k;omega,fun _=>rfl,fun x hx=>by cases hx⟩
theorem steps_mem {L:List Mch} {k:Int} {S:List Int} {BL:List (List Int)} {a b:Nat} (h:(a,b)∈stepsS L k S BL):∃m x,L[a]?=some m/\m.mv[b]?=some x/\canS L.length k S BL a x=0:=by
 unfold stepsS at h;obtain⟨p,_,h⟩:=List.mem_flatMap.1 h;unfold stepsR at h;cases gm:L[p]? with
 | none=>rw[gm] at h;cases h
 | some m=>
  rw[gm] at h;obtain⟨i,hi,e⟩:=Yp.1 h;cases e;unfold stepsP at hi;obtain⟨h1,h2⟩:=List.mem_filter.1 hi;obtain⟨x,gx,_⟩:=outIx_mem.1 ((mvS_srt m _).1.mem_iff.1 h1);refine⟨m,x,gm,gx,?_⟩;have:=Yyn h2
  rwa [mvD_of gx] at this

theorem can_parts {n:Nat} {k:Int} {S:List Int} {BL:List (List Int)} {p:Nat} {x:Mv}:canS n k S BL p x=0 ↔ x.f=S.getD p 0/\(x.send=true->((BL.getD (bxI n p x) []).length:Int)<k)/\(x.send=false->∃r,BL.getD (bxI n p x) []=x.label::r):=by
 unfold canS;by_cases hf:x.f=S.getD p 0
 ·rw[if_neg (fun h=>h hf)];cases hs:x.send with
  | true=>
   rw[if_pos rfl];constructor
   ·intro h;split at h
    ·exact absurd h (by decide)
    ·exact⟨hf,fun _=>by omega,fun h=>by cases h⟩
   ·rintro⟨_,h,_⟩;rw[if_neg (by have:=h rfl;omega)]
  | false=>
   rw[if_neg (by decide)];cases hb:BL.getD (bxI n p x) [] with
   | nil=>
    refine⟨fun h=>absurd h (show ¬((23:Int)=0) by decide),?_⟩;rintro⟨_,_,h⟩;obtain⟨r,h⟩:=h rfl;cases h
   | cons a l=>
    dsimp only;constructor
    ·intro h;split at h
     ·exact absurd h (by decide)
     ·rename_i e;exact⟨hf,(fun h=>by cases h),fun _=>⟨l,by rw[Classical.not_not.1 e]⟩⟩
    ·rintro⟨_,_,h⟩;obtain⟨r,h⟩:=h rfl;cases h;rw[if_neg (fun h=>h rfl)]
 ·rw[if_pos hf];exact⟨fun h=>absurd h (show ¬((7:Int)=0) by decide),fun h=>absurd h.1 hf⟩
theorem getD_set_ne {α:Type} {l:List α} {i j:Nat} {a d:α} (h:i≠j):(l.set i a).getD j d=l.getD j d:=by
 rw[Yo,Yo,Yy h]
end Go.VC
end

section
namespace Go.VC
open Go.Proofs
variable {h:Heap} {R:Value->Heap->Prop}

def W69 (p0:Addr) (p1 p2_1:Int) (p2_2:Bool) (p2_3 p2_4 p2_5:Int) (p2_6:Bool):Prop:=
 Wn h (L0 p2_1 p2_2 p2_3 p2_4 p2_5 p2_6) 116 fun h7=>
 ∃x8,rB h7 (aS h 1) x8 /\
 sB x8
 (∃x9,rS h7 p0 x9 /\
 ∃x10,rI h7 (aS h 2) x10 /\
 R (vI (IntKind.wrap .i64 ((IntKind.wrap .i64 ((x9.n:Int)*p1))+x10))) h7)
 (∃x11,rS h7 p0 x11 /\
 ∃x12,rI h7 (aS h 2) x12 /\
 R (vI (IntKind.wrap .i64 ((IntKind.wrap .i64 ((x11.n:Int)*x12))+p1))) h7)
theorem vc69 (p0:Addr) (p1 p2_1:Int) (p2_2:Bool) (p2_3 p2_4 p2_5:Int) (p2_6:Bool) (H:@W69 h R p0 p1 p2_1 p2_2 p2_3 p2_4 p2_5 p2_6):Fn Pz 69 #[.pointer (some p0),vI p1,.agg ⟨(L0 p2_1 p2_2 p2_3 p2_4 p2_5 p2_6)⟩] h R:=fnI (A:=.z) (by kernel_rfl) H

def V34b (h61:Heap) (x_9 x40:Int) (out_35:Sl) (m34:Nat) (I32:Sl->Int->Heap->Nat->Prop) (x_36:Int):Prop:=
 Wn h61 [vI x_9,vI x40] 48 fun h67=>App Pz 30 30 (vS out_35) (.slice (some (aS h61 0)) 1 1) h67 fun s68 h69=>∃m70,m70<m34/\I32 s68 (IntKind.wrap .i64 (x_36+1)) h69 m70
def V34a (h61 h37:Heap) (x64:Sl) (x_9 x40:Int) (out_35:Sl) (m34:Nat) (I32:Sl->Int->Heap->Nat->Prop) (x_36:Int):Prop:=
 ∃x71,rB h61 (aS h37 1) x71/\sB (!x71) (sB (decide ((x64.n:Int)>0)) (NB x64.a fun b72 o73=>Ib 0 x64.n/\∃x74,rI h61 ⟨b72,o73+Int.toNat 0*1,none⟩ x74/\∃x75,rI h61 (aS h37 3) x75/\sB (x74==x75) (V34b h61 x_9 x40 out_35 m34 I32 x_36) (∃m80,m80<m34/\I32 out_35 (IntKind.wrap .i64 (x_36+1)) h61 m80)) (∃m81,m81<m34/\I32 out_35 (IntKind.wrap .i64 (x_36+1)) h61 m81)) (∃m82,m82<m34/\I32 out_35 (IntKind.wrap .i64 (x_36+1)) h61 m82)
def W34 (p0:Addr) (p1_1 p1_2:Sl):Prop:=
 Wn h [vS p1_1,vS p1_2] 50 fun h3=>∃x4,rS h3 p0 x4/\QSI ⟨none,0,0⟩ 0 h3 fun I5 out_8 x_9 h10 m7=>sB (decide (x_9<(x4.n:Int))) (NB x4.a fun b11 o12=>Ib x_9 x4.n/\∃x13 x14 x15 x16 x17 x18,aL1 h10 ⟨b11,o12+Int.toNat x_9*6,none⟩ x13 x14 x15 x16 x17 x18/\Wn h10 [vI 0,vI 0,vI 0,.slice none 0 0,.slice none 0 0,.slice none 0 0] 88 fun h19=>Wp h19 (aS h10 0) 6 (L1 x13 x14 x15 x16 x17 x18) fun h20=>∃x21,rS h20 ⟨p0.block,p0.off+2,none⟩ x21/\NB x21.a fun b22 o23=>Ib x_9 x21.n/\∃x24,rS h20 ⟨b22,o23+Int.toNat x_9*1,none⟩ x24/\∃x25,rS h20 (aS h 0) x25/\NB x25.a fun b26 o27=>Ib x_9 x25.n/\∃x28,rI h20 ⟨b26,o27+Int.toNat x_9*1,none⟩ x28/\NB x24.a fun b29 o30=>Ib x28 x24.n/\∃x31,rS h20 ⟨b29,o30+Int.toNat x28*1,none⟩ x31/\QSI out_8 0 h20 fun I32 out_35 x_36 h37 m34=>sB (decide (x_36<(x31.n:Int))) (NB x31.a fun b38 o39=>Ib x_36 x31.n/\∃x40,rI h37 ⟨b38,o39+Int.toNat x_36*1,none⟩ x40/\∃x41,rS h37 (aS h10 4) x41/\NB x41.a fun b42 o43=>Ib x40 x41.n/\∃x44 x45 x46 x47 x48 x49,aL0 h37 ⟨b42,o43+Int.toNat x40*6,none⟩ x44 x45 x46 x47 x48 x49/\Wn h37 [vI 0,.bool false,vI 0,vI 0,vI 0,.bool false] 116 fun h50=>Wp h50 (aS h37 0) 6 (L0 x44 x45 x46 x47 x48 x49) fun h51=>∃x52,rS h51 (aS h 1) x52/\∃x53 x54 x55 x56 x57 x58,aL0 h51 (aS h37 0) x53 x54 x55 x56 x57 x58/\Fn Pz 69 #[.pointer (some p0),vI x_9,.agg ⟨(L0 x53 x54 x55 x56 x57 x58)⟩] h51 (fun v59 h61=>∃x60,iI v59 x60/\Sm [(aS h 1)] h51 h61/\NB x52.a fun b62 o63=>Ib x60 x52.n/\∃x64,rS h61 ⟨b62,o63+Int.toNat x60*1,none⟩ x64/\∃x65,rB h61 (aS h37 1) x65/\sB x65 (∃x66,rI h61 ⟨p0.block,p0.off+1,none⟩ x66/\sB (decide ((x64.n:Int)<x66)) (V34b h61 x_9 x40 out_35 m34 I32 x_36) (V34a h61 h37 x64 x_9 x40 out_35 m34 I32 x_36)) (V34a h61 h37 x64 x_9 x40 out_35 m34 I32 x_36))) (∃m95,m95<m7/\I5 out_35 (IntKind.wrap .i64 (x_9+1)) h37 m95)) (R (vS out_8) h10)
theorem vc34 (p0:Addr) (p1_1 p1_2:Sl) (H:@W34 h R p0 p1_1 p1_2):Fn Pz 34 #[.pointer (some p0),.agg ⟨[vS p1_1,vS p1_2]⟩] h R:=fnI (A:=(.s .z (.s .z (.s (.s .z (.b (.l [(5,.one (.slice)),(17,.one (.int .i64))] (.s .z (.s .z (.s (.b (.s .z (.s .z (.b (.l [(5,.one (.slice)),(37,.one (.int .i64))] .z))))) .z)))))) .z)))) (by kernel_rfl) H

def W66 (p0_1:Int) (p0_2:Bool) (p0_3 p0_4 p0_5:Int) (p0_6:Bool) (p1_7:Int) (p1_8:Bool) (p1_9 p1_10 p1_11:Int) (p1_12:Bool):Prop:=
 Wn h (L0 p0_1 p0_2 p0_3 p0_4 p0_5 p0_6) 116 fun h13=>
 Wn h13 (L0 p1_7 p1_8 p1_9 p1_10 p1_11 p1_12) 116 fun h14=>
 ∃x15,rB h14 (aS h 1) x15 /\
 ∃x16,rB h14 (aS h13 1) x16 /\
 sB (!(x15==x16))
 (∃x17,rB h14 (aS h 1) x17 /\
 sB x17
 (R (vI (-1)) h14)
 (R (vI 1) h14))
 (∃x18,rI h14 (aS h 2) x18 /\
 ∃x19,rI h14 (aS h13 2) x19 /\
 ∃x20,rI h14 (aS h 3) x20 /\
 ∃x21,rI h14 (aS h13 3) x21 /\
 Fn Pz 110 #[vI x18,vI x19] h14
 (fun v22 h24=>∃x23,iI v22 x23 /\
 Sm [(aS h13 3),(aS h 3)] h14 h24 /\
 Fn Pz 110 #[vI x20,vI x21] h24
 (fun v25 h27=>∃x26,iI v25 x26 /\
 Sm [(aS h13 2),(aS h 2)] h24 h27 /\
 Wn h27 [vI x23,vI x26] 3 fun h28=>
 Fn Pz 109 #[.slice (some (aS h27 0)) 2 2] h28
 (fun v29 h31=>∃x30,iI v29 x30 /\
 R (vI x30) h31))))
theorem vc66 (p0_1:Int) (p0_2:Bool) (p0_3 p0_4 p0_5:Int) (p0_6:Bool) (p1_7:Int) (p1_8:Bool) (p1_9 p1_10 p1_11:Int) (p1_12:Bool) (H:@W66 h R p0_1 p0_2 p0_3 p0_4 p0_5 p0_6 p1_7 p1_8 p1_9 p1_10 p1_11 p1_12):Fn Pz 66 #[.agg ⟨(L0 p0_1 p0_2 p0_3 p0_4 p0_5 p0_6)⟩,.agg ⟨(L0 p1_7 p1_8 p1_9 p1_10 p1_11 p1_12)⟩] h R:=fnI (A:=.z) (by kernel_rfl) H

def V37b (h62 h31 h6:Heap) (R:Value->Heap->Prop):Prop:=
 ∃(x63 x64:Sl),atC h62 (aS h31 0) [vS x63,vS x64]/\Wp h62 (aS h6 0) 2 [vS x63,vS x64] fun h65=>∃(x66 x67:Sl),atC h65 (aS h6 0) [vS x66,vS x67]/\R (.agg ⟨[vS x66,vS x67]⟩) h65
def V37a (h32 h31:Heap) (x27 x30:Sl) (h5 h7:Heap) (p0:Addr) (h h6:Heap) (R:Value->Heap->Prop):Prop:=
 Wp h32 (aS h31 0) 2 [vS x27,vS x30] fun h33=>∃x34,rS h33 (aS h31 0) x34/\∃x35,rI h33 (aS h5 0) x35/\∃x36,rI h33 (aS h7 4) x36/\NB x34.a fun b37 o38=>Ib x35 x34.n/\Wp h33 ⟨b37,o38+Int.toNat x35*1,none⟩ 1 [vI x36] fun h39=>∃x40,rI h39 (aS h5 0) x40/\∃x41 x42 x43 x44 x45 x46,aL0 h39 (aS h7 0) x41 x42 x43 x44 x45 x46/\Fn Pz 69 #[.pointer (some p0),vI x40,.agg ⟨(L0 x41 x42 x43 x44 x45 x46)⟩] h39 (fun v47 h49=>∃x48,iI v47 x48/\∃x50,rS h49 (aS h 1) x50/\NB x50.a fun b51 o52=>Ib x48 x50.n/\∃x53,rS h49 ⟨b51,o52+Int.toNat x48*1,none⟩ x53/\∃x54,rB h49 (aS h7 1) x54/\sB x54 (∃x55,rS h49 (aS h31 1) x55/\((0:Int)<=(0:Int)/\(0:Int)<=((x53.n:Int):Int)/\((x53.n:Int):Int)<=((x53.n:Int):Int)/\((x53.n:Int):Int)<=(x53.c:Nat))/\∃x56,rI h49 (aS h7 3) x56/\Wn h49 [vI x56] 3 fun h57=>Sm [(aS h31 1)] h49 h57/\App Pz 25 25 (.slice (subA x53.a (Int.toNat 0) (Int.toNat (x53.n:Int)) 1) (Int.toNat (x53.n:Int)-Int.toNat 0) (Int.toNat (x53.n:Int)-Int.toNat 0)) (.slice (some (aS h49 0)) 1 1) h57 fun s58 h59=>Sm [(aS h31 1)] h57 h59/\NB x55.a fun b60 o61=>Ib x48 x55.n/\Wp h59 ⟨b60,o61+Int.toNat x48*1,none⟩ 1 [vS s58] fun h62=>V37b h62 h31 h6 R) (∃x68,rS h49 (aS h31 1) x68/\((0:Int)<=(1:Int)/\(1:Int)<=((x53.n:Nat):Int)/\((x53.n:Nat):Int)<=(x53.c:Nat))/\NB x68.a fun b69 o70=>Ib x48 x68.n/\Wp h49 ⟨b69,o70+Int.toNat x48*1,none⟩ 1 [.slice (subA x53.a (Int.toNat 1) x53.c 1) (Int.toNat (x53.n:Nat)-Int.toNat 1) (x53.c-Int.toNat 1)] fun h71=>V37b h71 h31 h6 R))
def W37 (p0:Addr) (p1_1 p1_2:Sl) (p2_3 p2_4:Int):Prop:=
 Wn h [vS p1_1,vS p1_2] 50 fun h5=>Wn h5 [vI p2_3,vI p2_4] 48 fun h6=>Wn h6 [.slice none 0 0,.slice none 0 0] 50 fun h7=>∃x8,rS h7 p0 x8/\∃x9,rI h7 (aS h5 0) x9/\NB x8.a fun b10 o11=>Ib x9 x8.n/\∃x12,rS h7 ⟨b10,o11+Int.toNat x9*6+4,none⟩ x12/\∃x13,rI h7 (aS h5 1) x13/\NB x12.a fun b14 o15=>Ib x13 x12.n/\∃x16 x17 x18 x19 x20 x21,aL0 h7 ⟨b14,o15+Int.toNat x13*6,none⟩ x16 x17 x18 x19 x20 x21/\Wn h7 [vI 0,.bool false,vI 0,vI 0,vI 0,.bool false] 116 fun h22=>Sm [⟨b14,o15+Int.toNat x13*6,none⟩,(aS h5 1),⟨b10,o11+Int.toNat x9*6+4,none⟩,(aS h5 0),p0] h7 h22/\Wp h22 (aS h7 0) 6 (L0 x16 x17 x18 x19 x20 x21) fun h23=>∃x24,rS h23 (aS h 0) x24/\∃x25,rS h23 (aS h 1) x25/\(Fn Pz 73 #[vS x24] h23 (fun v26 h28=>∃x27,iS v26 x27/\Sm [(aS h 1)] h23 h28/\(Fn Pz 74 #[vS x25] h28 (fun v29 h31=>∃x30,iS v29 x30/\Sm [(aS h 0)] h28 h31/\Wn h31 [.slice none 0 0,.slice none 0 0] 50 fun h32=>Sm [(aS h 1),(aS h 0)] h31 h32/\V37a h32 h31 x27 x30 h5 h7 p0 h h6 R))/\Wn h28 [.slice none 0 0,.slice none 0 0] 50 fun h77=>Sm [(aS h 1),(aS h 0)] h28 h77/\Fn Pz 74 #[vS x25] h77 (fun v78 h80=>∃x79,iS v78 x79/\Sm [(aS h 0)] h77 h80/\V37a h80 h28 x27 x79 h5 h7 p0 h h6 R)))/\Wn h23 [.slice none 0 0,.slice none 0 0] 50 fun h125=>Sm [(aS h 1),(aS h 0)] h23 h125/\Fn Pz 73 #[vS x24] h125 (fun v126 h128=>∃x127,iS v126 x127/\Sm [(aS h 1)] h125 h128/\Fn Pz 74 #[vS x25] h128 (fun v129 h131=>∃x130,iS v129 x130/\Sm [(aS h 0)] h128 h131/\V37a h131 h23 x127 x130 h5 h7 p0 h h6 R))
theorem vc37 (p0:Addr) (p1_1 p1_2:Sl) (p2_3 p2_4:Int) (H:@W37 h R p0 p1_1 p1_2 p2_3 p2_4):Fn Pz 37 #[.pointer (some p0),.agg ⟨[vS p1_1,vS p1_2]⟩,.agg ⟨[vI p2_3,vI p2_4]⟩] h R:=fnI (A:=.z) (by kernel_rfl) H

def V38a (h11 h10:Heap) (x8:Sl) (h9:Heap) (x6:Sl) (h h3:Heap) (R:Value->Heap->Prop):Prop:=
 Wp h11 (aS h10 0) 2 [vS x8,.slice (some (aS h9 0)) (Int.toNat (x6.n:Int)) (Int.toNat (x6.n:Int))] fun h12=>∃x13,rS h12 (aS h 1) x13/\QI 0 h12 fun I14 x_17 h18 m16=>sB (decide (x_17<(x13.n:Int))) (NB x13.a fun b19 o20=>Ib x_17 x13.n/\∃x21,rS h18 ⟨b19,o20+Int.toNat x_17*1,none⟩ x21/\∃x22,rS h18 (aS h10 1) x22/\Fn Pz 73 #[vS x21] h18 (fun v23 h25=>∃x24,iS v23 x24/\Sm [(aS h10 1)] h18 h25/\NB x22.a fun b26 o27=>Ib x_17 x22.n/\Wp h25 ⟨b26,o27+Int.toNat x_17*1,none⟩ 1 [vS x24] fun h28=>∃m29,m29<m16/\I14 (IntKind.wrap .i64 (x_17+1)) h28 m29)) (∃(x30 x31:Sl),atC h18 (aS h10 0) [vS x30,vS x31]/\Wp h18 (aS h3 0) 2 [vS x30,vS x31] fun h32=>∃(x33 x34:Sl),atC h32 (aS h3 0) [vS x33,vS x34]/\R (.agg ⟨[vS x33,vS x34]⟩) h32)
def V38b (x6:Sl) (h35 h h9:Heap) (x8:Sl) (h3:Heap) (R:Value->Heap->Prop):Prop:=
 ((0:Int)<=(x6.n:Int)/\((x6.n:Int):Int)<=(x6.n:Int)/\((24:Nat):Int)*(x6.n:Int)<=140737488355328)/\Wn h35 (madeL Pz 25 (Int.toNat (x6.n:Int))) 25 fun h36=>Sm [(aS h 0)] h35 h36/\V38a h36 h9 x8 h35 x6 h h3 R
def W38 (p0_1 p0_2:Sl):Prop:=
 Wn h [vS p0_1,vS p0_2] 50 fun h3=>Wn h3 [.slice none 0 0,.slice none 0 0] 50 fun h4=>∃x5,rS h4 (aS h 0) x5/\∃x6,rS h4 (aS h 1) x6/\(Fn Pz 73 #[vS x5] h4 (fun v7 h9=>∃x8,iS v7 x8/\Sm [(aS h 1)] h4 h9/\(((0:Int)<=(x6.n:Int)/\((x6.n:Int):Int)<=(x6.n:Int)/\((24:Nat):Int)*(x6.n:Int)<=140737488355328)/\Wn h9 (madeL Pz 25 (Int.toNat (x6.n:Int))) 25 fun h10=>Sm [(aS h 0)] h9 h10/\Wn h10 [.slice none 0 0,.slice none 0 0] 50 fun h11=>Sm [(aS h 1),(aS h 0)] h10 h11/\V38a h11 h10 x8 h9 x6 h h3 R)/\Wn h9 [.slice none 0 0,.slice none 0 0] 50 fun h35=>Sm [(aS h 1),(aS h 0)] h9 h35/\V38b x6 h35 h h9 x8 h3 R))/\(((0:Int)<=(x6.n:Int)/\((x6.n:Int):Int)<=(x6.n:Int)/\((24:Nat):Int)*(x6.n:Int)<=140737488355328)/\Wn h4 (madeL Pz 25 (Int.toNat (x6.n:Int))) 25 fun h60=>Sm [(aS h 0)] h4 h60/\(Fn Pz 73 #[vS x5] h60 (fun v61 h63=>∃x62,iS v61 x62/\Sm [(aS h 1)] h60 h63/\Wn h63 [.slice none 0 0,.slice none 0 0] 50 fun h64=>Sm [(aS h 1),(aS h 0)] h63 h64/\V38a h64 h63 x62 h4 x6 h h3 R))/\Wn h60 [.slice none 0 0,.slice none 0 0] 50 fun h88=>Sm [(aS h 1),(aS h 0)] h60 h88/\Fn Pz 73 #[vS x5] h88 (fun v89 h91=>∃x90,iS v89 x90/\Sm [(aS h 1)] h88 h91/\V38a h91 h60 x90 h4 x6 h h3 R))/\Wn h4 [.slice none 0 0,.slice none 0 0] 50 fun h115=>Sm [(aS h 1),(aS h 0)] h4 h115/\(Fn Pz 73 #[vS x5] h115 (fun v116 h118=>∃x117,iS v116 x117/\Sm [(aS h 1)] h115 h118/\V38b x6 h118 h h4 x117 h3 R))/\((0:Int)<=(x6.n:Int)/\((x6.n:Int):Int)<=(x6.n:Int)/\((24:Nat):Int)*(x6.n:Int)<=140737488355328)/\Wn h115 (madeL Pz 25 (Int.toNat (x6.n:Int))) 25 fun h143=>Sm [(aS h 0)] h115 h143/\Fn Pz 73 #[vS x5] h143 (fun v144 h146=>∃x145,iS v144 x145/\Sm [(aS h 1)] h143 h146/\V38a h146 h4 x145 h115 x6 h h3 R)
theorem vc38 (p0_1 p0_2:Sl) (H:@W38 h R p0_1 p0_2):Fn Pz 38 #[.agg ⟨[vS p0_1,vS p0_2]⟩] h R:=fnI (A:=(.s .z (.s .z (.s (.s .z (.b (.l [(17,.one (.int .i64))] .z))) .z)))) (by kernel_rfl) H

def W111 (p0:Sl):Prop:=
 R (.bool (decide ((p0.n:Int)>0))) h
theorem vc111 (p0:Sl) (H:@W111 h R p0):Fn Pz 111 #[vS p0] h R:=fnI (A:=.z) (by kernel_rfl) H

def W74 (p0:Sl):Prop:=
 sB (Option.isNone p0.a)
 (R (.slice none 0 0) h)
 (Wn h [] 25 fun h1=>
 App Pz 26 26 (.slice (some (aS h 0)) 0 0) (vS p0) h1 fun s2 h3=>
 R (vS s2) h3)
theorem vc74 (p0:Sl) (H:@W74 h R p0):Fn Pz 74 #[vS p0] h R:=fnI (A:=.z) (by kernel_rfl) H

def W72 (p0:Sl):Prop:=
 QII 0 (IntKind.wrap .i64 ((p0.n:Int)-1)) h fun I1 i_4 j_5 h6 m3=>
 sB (decide (i_4<j_5))
 (NB p0.a fun b7 o8=>Ib j_5 p0.n /\
 ∃(x9 x10:Int),atC h6 ⟨b7,o8+Int.toNat j_5*2,none⟩ [vI x9,vI x10] /\
 NB p0.a fun b11 o12=>Ib i_4 p0.n /\
 ∃(x13 x14:Int),atC h6 ⟨b11,o12+Int.toNat i_4*2,none⟩ [vI x13,vI x14] /\
 NB p0.a fun b15 o16=>Ib i_4 p0.n /\
 Wp h6 ⟨b15,o16+Int.toNat i_4*2,none⟩ 2 [vI x9,vI x10] fun h17=>
 NB p0.a fun b18 o19=>Ib j_5 p0.n /\
 Wp h17 ⟨b18,o19+Int.toNat j_5*2,none⟩ 2 [vI x13,vI x14] fun h20=>
 ∃m21,m21<m3/\I1 (IntKind.wrap .i64 (i_4+1)) (IntKind.wrap .i64 (j_5-1)) h20 m21)
 (R (.tuple ⟨[]⟩) h6)
theorem vc72 (p0:Sl) (H:@W72 h R p0):Fn Pz 72 #[vS p0] h R:=fnI (A:=(.s .z (.b (.l [(2,.one (.int .i64)),(3,.one (.int .i64))] .z)))) (by kernel_rfl) H

def W36 (p0:Sl) (p1:Int):Prop:=
 QIS p1 ⟨none,0,0⟩ h fun I1 at_4 out_5 h6 m3=>
 NB p0.a fun b7 o8=>Ib at_4 p0.n /\
 ∃x9,rI h6 ⟨b7,o8+Int.toNat at_4*5+2,none⟩ x9 /\
 sB (decide (x9>=0))
 (NB p0.a fun b10 o11=>Ib at_4 p0.n /\
 ∃(x12 x13:Int),atC h6 ⟨b10,o11+Int.toNat at_4*5+3,none⟩ [vI x12,vI x13] /\
 Wn h6 [vI x12,vI x13] 48 fun h14=>
 App Pz 30 30 (vS out_5) (.slice (some (aS h6 0)) 1 1) h14 fun s15 h16=>
 NB p0.a fun b17 o18=>Ib at_4 p0.n /\
 ∃x19,rI h16 ⟨b17,o18+Int.toNat at_4*5+2,none⟩ x19 /\
 ∃m20,m20<m3/\I1 x19 s15 h16 m20)
 (Fn Pz 72 #[vS out_5] h6
 (fun v21 h22=>v21=.tuple ⟨[]⟩ /\
 R (vS out_5) h22))
theorem vc36 (p0:Sl) (p1:Int) (H:@W36 h R p0 p1):Fn Pz 36 #[vS p0,vI p1] h R:=fnI (A:=(.s .z (.s .z (.s (.b (.l [(1,.one (.int .i64)),(5,.one (.slice))] .z)) .z)))) (by kernel_rfl) H

end Go.VC
end

section
namespace Go.VC
open Go.Proofs Go.LexS
def slR (s:Sl):List Value:=[.slice s.a s.n s.c]
def EngT (h:Heap) (osl:Sl) (L:List MR):Prop:=∃(os:Nat->Sl) (qs:Nat->Nat->Sl),Rw h 1 osl ((List.range L.length).map fun p=>slR (os p))/\∀(p:Nat) x,L[p]?=some x->Rw h 1 (os p) ((List.range x.m.n.toNat).map fun s=>slR (qs p s))/\∀s,s<x.m.n.toNat->Rw h 1 (qs p s) ((natI (mvS x.m (s:Int))).map inC)
structure EngR (h:Heap) (eb:Nat) (s:Sl) (k:Int) (L:List MR):Prop where
 e:∃osl:Sl,atC h ⟨eb,0,none⟩ [.slice s.a s.n s.c,.int .i64 k,.slice osl.a osl.n osl.c]/\EngT h osl L
theorem box69e (eb p:Nat) (s:Sl) (x:Mv) (h:Heap) (he:hc h ⟨eb,0,none⟩=some (.slice s.a s.n s.c)) (hn:s.n<=6) (hp:p<s.n) (h0:0<=x.peer) (h1:x.peer<(s.n:Int)) :
  Fn Pz 69 #[.pointer (some ⟨eb,0,none⟩),.int .i64 (p:Int),.agg ⟨x.cs⟩] h fun v h'=>v=.int .i64 (bxI s.n p x:Nat)/\Ext h h':=by
 apply vc69 ⟨eb,0,none⟩ (p:Int) x.f x.send x.peer x.label x.t x.ag;unfold W69;have h36:=sq6 hn;have hj:=bxI_lt (n:=s.n) (x:=x) hp h0 h1;refine (St.refl h).newb fun h7 hs=>?_;refine⟨x.send,hs.rd 0 rfl (i:=1) rfl,sB_intro (fun c=>?_) (fun c=>?_)⟩
 ·refine⟨s,hc_ext hs.ext he,x.peer,hs.rd 0 rfl (i:=2) rfl,?_,hs.ext⟩;have e:bxI s.n p x=s.n*p+x.peer.toNat:=by unfold bxI;rw[if_pos c]
  rw[e] at hj ⊢;rw[<-Int.natCast_mul,w64 (n:=((s.n*p:Nat):Int)) (by omega) (by omega),w64 (by omega) (by omega)];congr 2;omega
 ·refine⟨s,hc_ext hs.ext he,x.peer,hs.rd 0 rfl (i:=2) rfl,?_,hs.ext⟩;have e:bxI s.n p x=s.n*x.peer.toNat+p:=by unfold bxI;rw[if_neg (by rw[c];decide)]
  rw[e] at hj ⊢;have e2:(s.n:Int)*x.peer=((s.n*x.peer.toNat:Nat):Int):=by rw[Int.natCast_mul,Int.toNat_of_nonneg h0]
  rw[e2,w64 (n:=((s.n*x.peer.toNat:Nat):Int)) (by omega) (by omega),w64 (by omega) (by omega)];congr 2
theorem app30e:appB Pz 30 48 2 16=true:=by kernel_rfl
theorem can_run {n:Nat} {k:Int} {S:List Int} {BL:List (List Int)} {p:Nat} {x:Mv} (hf:x.f=S.getD p 0):canS n k S BL p x=0 ↔ (x.send=true/\((BL.getD (bxI n p x) []).length:Int)<k)\/(x.send=false/\∃r,BL.getD (bxI n p x) []=x.label::r):=by
 rw[can_parts];constructor
 ·rintro⟨_,h1,h2⟩;cases hs:x.send with
  | true=>exact .inl ⟨rfl,h1 hs⟩
  | false=>exact .inr ⟨rfl,h2 hs⟩
 ·rintro (⟨h1,h2⟩ | ⟨h1,h2⟩)
  ·exact⟨hf,fun _=>h2,fun h=>by rw[h1] at h;cases h⟩
  ·exact⟨hf,fun h=>(by rw[h1] at h;cases h),fun _=>h2⟩
set_option maxHeartbeats 3200000 in
theorem steps34 (L:List MR) (s:Sl) (k:Int) (eb:Nat) (ss sb:Sl) (S:List Int) (B:List Bx) (h:Heap) (hS:SyI h s L) (hE:EngR h eb s k L) (hC:CfI h ss sb S B) (hP:ProS (L.map MR.m) k S (B.map Bx.l)) :
  Fn Pz 34 #[.pointer (some ⟨eb,0,none⟩),.agg ⟨[.slice ss.a ss.n ss.c,.slice sb.a sb.n sb.c]⟩] h fun v h'=>∃r:Sl,v=.slice r.a r.n r.c/\St h h' [.sl r 48 2 ((stepsS (L.map MR.m) k S (B.map Bx.l)).map stpC)]:=by
 apply vc34 ⟨eb,0,none⟩ ss sb;unfold W34 V34a V34b;have hn:=hS.r.ln;have hsn:=hC.s.ln;have hbn:=hC.b.ln;have hlm:(L.map MR.m).length=L.length:=Yc _;have hbm:(B.map Bx.l).length=B.length:=Yc _;have hV:=hP.v;have hV6:=hV.n;rw[hlm] at hV6;have hSl:S.length=L.length:=by rw[hP.p.s,hlm]
 have hBl:B.length=L.length*L.length:=by rw[<-hbm,hP.p.b,hlm]
 have h36:=sq6 hV6.2;have hst:=hP.p.st;obtain⟨osl,hat,os,qs,hT1,hT2⟩:=hE.e;have hon':=hT1.ln;have hT1n:osl.n=L.length:=by rw[hT1.1,Yc,Yyd]
 generalize hBB:B.map Bx.l=BL at *;have hLL:stepsS (L.map MR.m) k S BL=(List.range L.length).flatMap (stepsR L.length k S BL (L.map MR.m)):=by unfold stepsS;rw[hlm]
 refine (St.refl h).newb fun h3 hs=>?_;refine⟨s,(atC_ext hs.ext hat).hd,?_⟩;have hs:=hs.nil_ 48 2;refine⟨fun out x h' μ=>∃i:Nat,x=(i:Int)/\μ=L.length-i/\i<=L.length/\St h h' [.sl out 48 2 (((List.range i).flatMap (stepsR L.length k S BL (L.map MR.m))).map stpC),.blk h.size [.slice ss.a ss.n ss.c,.slice sb.a sb.n sb.c] 50],⟨_,0,rfl,rfl,Nat.zero_le _,hs⟩,?_⟩;clear hs;rintro-out _ h10 μ ⟨i,rfl,rfl,hi,hs⟩;have hol:=steps_len (n:=L.length) (k:=k) (S:=S) (BL:=BL) hV i;refine sBi (fun c1=>?_) (fun c1=>?_)
 ·obtain⟨y,gy⟩:=get_some (l:=L) (i:=i) (by omega);have gm:(L.map MR.m)[i]?=some y.m:=by rw[Yd,gy];rfl
  have hyi:=hS.i y (Yb gy);have hvm:=hV.m i y.m gm;have hml:=hvm.2.1.n.ml;obtain⟨z,gz⟩:=get_some (l:=S) (i:=i) (by omega);have hSg:S.getD i 0=z:=getD_some gz;have hz:=hst i z y.m gz gm;obtain⟨hT3,hT4⟩:=hT2 i y gy;refine (hS.r.rw.ext hs.ext).nbI (by omega) (by omega) fun b o y' gy' t=>?_;rw[Ys] at gy';replace gy':L[i]?=some y':=gy';rw[gy] at gy';cases gy';refine⟨_,_,_,_,_,_,t,?_⟩;refine hs.newput (vs:=MR.cs y) rfl rfl fun h20 hs=>?_;refine⟨osl,(atC_ext hs.ext hat).nth 2 rfl,?_⟩;refine (hT1.ext hs.ext).nbI (by omega) (by omega) fun b22 o23 p gp t2=>?_;rw[Ys,Yyb (by omega)] at gp;cases gp;refine⟨os i,t2.hd,ss,hs.rd 2 rfl (i:=0) rfl,?_⟩;refine (hC.s.rw.ext hs.ext).nbI (by omega) (by omega) fun b26 o27 z' gz' t3=>?_;rw[Ys] at gz';replace gz':S[i]?=some z':=gz';rw[gz] at gz';cases gz';have hosn:(os i).n=y.m.n.toNat:=by rw[hT3.1,Yc,Yyd]
  refine⟨z,t3.hd,?_⟩;refine (hT3.ext hs.ext).nbI hz.1 (by omega) fun b29 o30 p gp t4=>?_;rw[Yyb (by omega)] at gp;cases gp;refine⟨qs i z.toNat,t4.hd,?_⟩;have hzc:((z.toNat:Nat):Int)=z:=Int.toNat_of_nonneg hz.1;have hrow:=hT4 z.toNat (by omega);rw[hzc] at hrow;obtain⟨hpm,-⟩:=mvS_srt y.m z;have hrn:=hrow.ln;rw[show (natI (mvS y.m z)).length=(mvS y.m z).length from Yc _] at hrn;have hOl:(mvS y.m z).length<=400:=by
   rw[hpm.length_eq];unfold outIx;refine Yys (List.length_filter_le _ _) ?_;rw[Yyd];exact hml
  generalize hO:mvS y.m z=O at *;refine⟨fun out x h' μ=>∃j:Nat,x=(j:Int)/\μ=O.length-j/\j<=O.length/\St h h' [.blk h10.size (MR.cs y) 88,.sl out 48 2 ((((List.range i).flatMap (stepsR L.length k S BL (L.map MR.m)))++((O.take j).filter (posB L.length k S BL i y.m)).map fun q=>(i,q)).map stpC),.blk h.size [.slice ss.a ss.n ss.c,.slice sb.a sb.n sb.c] 50],⟨_,0,rfl,rfl,Nat.zero_le _,by rw[Yyk,List.filter_nil,List.map_nil,Yw];exact hs⟩,?_⟩;clear hs;rintro-out2 _ h37 μ ⟨j,rfl,rfl,hj,hs⟩;have hon2:=(hs.rows 1 (s:=out2) (cs:=stpC) rfl (by omega)).ln;have hfl:((O.take j).filter (posB L.length k S BL i y.m)).length<=j:=Yys (List.length_filter_le _ _) (by rw[Yu];omega);rw[Yh,Yc] at hon2;refine sBi (fun c2=>?_) (fun c2=>?_)
  ·obtain⟨q,gq⟩:=get_some (l:=O) (i:=j) (by omega);obtain⟨x,gx,hxf⟩:=outIx_mem.1 (hpm.mem_iff.1 (Yb gq));have hqm:=(Ya.1 gx).1;have hxm:=Yb gx;have hx0:=(hvm.2.1.n.mv x hxm).2.2.2.2.1;have hx1:=hvm.2.2 x hxm;rw[hlm] at hx1;have hgl:=hyi.pm.ln;refine (hrow.ext hs.ext).nbI (by omega) (by omega) fun b38 o39 q' gq' t5=>?_;rw[Ys] at gq';replace gq':(natI O)[j]?=some q':=gq';obtain⟨q2,gq2,rfl⟩:=natI_get gq';rw[gq] at gq2;cases gq2;refine⟨(q:Int),t5.hd,y.g,hs.rd 0 rfl (i:=4) rfl,?_⟩;refine (hyi.pm.rw.ext hs.ext).nbI (by omega) (by omega) fun b42 o43 x' gx' t6=>?_;rw[Ys] at gx';replace gx':y.m.mv[q]?=some x':=gx';rw[gx] at gx';cases gx';refine⟨_,_,_,_,_,_,t6,?_⟩;refine hs.newput (vs:=x.cs) rfl rfl fun h51 hs=>?_;refine⟨sb,hs.rd 3 rfl (i:=1) rfl,_,_,_,_,_,_,hs.at 0 rfl (o:=0) (n:=6) rfl,?_⟩;refine (box69e eb i s x h51 (atC_ext hs.ext hat).hd (by omega) (by omega) hx0 (by omega)).mono ?_;rintro _ h61 ⟨rfl,E⟩;have hs:=hs.step E;have hbx:=bxI_lt (n:=L.length) (p:=i) (x:=x) (by omega) hx0 hx1;rw[hn] at *;refine⟨_,rfl,E.sm,?_⟩;obtain⟨qb,gqb⟩:=get_some (l:=B) (i:=bxI L.length i x) (by omega);have hqi:=hC.i qb (Yb gqb);have hqn:=hqi.ln;refine (hC.b.rw.ext hs.ext).nbI (by omega) (by omega) fun b62 o63 qb' gqb' t7=>?_;rw[Ys,gqb] at gqb';cases gqb';have hqd:BL.getD (bxI L.length i x) []=qb.l:=by rw[<-hBB];exact getD_map gqb
   have hcan:=can_run (n:=L.length) (k:=k) (S:=S) (BL:=BL) (p:=i) (x:=x) (by rw[hSg];exact hxf);rw[hqd] at hcan;have hpb:posB L.length k S BL i y.m q=true ↔ canS L.length k S BL i x=0:=by unfold posB;rw[mvD_of gx,decide_eq_true_eq]
   have hno:¬canS L.length k S BL i x=0->St h h61 [.blk h10.size (MR.cs y) 88,.sl out2 48 2 ((((List.range i).flatMap (stepsR L.length k S BL (L.map MR.m)))++((O.take (j+1)).filter (posB L.length k S BL i y.m)).map fun q=>(i,q)).map stpC),.blk h.size [.slice ss.a ss.n ss.c,.slice sb.a sb.n sb.c] 50]:=fun hn=>by
    rw[take_snoc gq,List.filter_append,List.filter_cons_of_neg (fun h=>hn (hpb.1 h)),List.filter_nil,Yw];exact hs.drop 1
   have hyes:canS L.length k S BL i x=0->((O.take (j+1)).filter (posB L.length k S BL i y.m)).map (fun q=>(i,q))=((O.take j).filter (posB L.length k S BL i y.m)).map (fun q=>(i,q))++[(i,q)]:=fun hp=>by
    rw[take_snoc gq,List.filter_append,List.filter_cons_of_pos (hpb.2 hp),List.filter_nil,Ym];rfl
   refine⟨qb.s,t7.hd,x.send,hs.rd 0 rfl (i:=1) rfl,sB_intro (fun cs=>?_) (fun cs=>?_)⟩
   ·refine⟨k,(atC_ext hs.ext hat).nth 1 rfl,sBi (fun c3=>?_) (fun c3=>?_)⟩
    ·have hc:=hcan.2 (.inl ⟨cs,by omega⟩);refine hs.app 2 (s:=out2) (n:=2) (rows:=(((List.range i).flatMap (stepsR L.length k S BL (L.map MR.m)))++((O.take j).filter (posB L.length k S BL i y.m)).map fun q=>(i,q)).map stpC) rfl app30e (m:=1) [stC (i:Int) q] rfl rfl (fun r hr=>by rw[Ye] at hr;rw[hr];rfl) rfl (by omega) (by simp only[maxLen];omega) fun r2 h47 nr hs=>?_;refine⟨_,(show O.length-(j+1)<O.length-j by omega),j+1,by rw[w64 (by omega) (by omega)];omega,rfl,by omega,?_⟩;rw[hyes hc,<-Yz,Ym];exact hs.drop 1
    ·refine⟨x.send,hs.rd 0 rfl (i:=1) rfl,sB_f (by rw[cs];rfl) ?_⟩;exact⟨_,(show O.length-(j+1)<O.length-j by omega),j+1,by rw[w64 (by omega) (by omega)];omega,rfl,by omega,hno fun hc=>by rcases hcan.1 hc with h1 | h1;(· omega);(· rw[h1.1] at cs;cases cs)⟩
   ·refine⟨x.send,hs.rd 0 rfl (i:=1) rfl,sB_t (by rw[cs];rfl) (sBi (fun c3=>?_) (fun c3=>?_))⟩
    ·refine (hqi.rw.ext hs.ext).nbI (by decide) (by omega) fun b72 o73 a ga t8=>?_;replace ga:qb.l[0]?=some a:=ga;refine⟨a,t8.hd,x.label,hs.rd 0 rfl (i:=3) rfl,sBe (fun c4=>?_) (fun c4=>?_)⟩
     ·have hc:=hcan.2 (.inr ⟨cs,by
       cases hql:qb.l with
       | nil=>rw[hql] at ga;cases ga
       | cons a' r=>rw[hql] at ga;cases ga;exact⟨r,by rw[c4]⟩⟩)
      refine hs.app 2 (s:=out2) (n:=2) (rows:=(((List.range i).flatMap (stepsR L.length k S BL (L.map MR.m)))++((O.take j).filter (posB L.length k S BL i y.m)).map fun q=>(i,q)).map stpC) rfl app30e (m:=1) [stC (i:Int) q] rfl rfl (fun r hr=>by rw[Ye] at hr;rw[hr];rfl) rfl (by omega) (by simp only[maxLen];omega) fun r2 h47 nr hs=>?_;refine⟨_,(show O.length-(j+1)<O.length-j by omega),j+1,by rw[w64 (by omega) (by omega)];omega,rfl,by omega,?_⟩;rw[hyes hc,<-Yz,Ym];exact hs.drop 1
     ·exact⟨_,(show O.length-(j+1)<O.length-j by omega),j+1,by rw[w64 (by omega) (by omega)];omega,rfl,by omega,hno fun hc=>by
       rcases hcan.1 hc with h1 | ⟨_,r,h1⟩
       ·rw[h1.1] at cs;cases cs
       ·rw[h1] at ga;cases ga;exact c4 rfl⟩
    ·exact⟨_,(show O.length-(j+1)<O.length-j by omega),j+1,by rw[w64 (by omega) (by omega)];omega,rfl,by omega,hno fun hc=>by
      rcases hcan.1 hc with h1 | ⟨_,r,h1⟩
      ·rw[h1.1] at cs;cases cs
      ·rw[h1,Yyj] at hqn;omega⟩
  ·have hjl:j=O.length:=by omega
   subst hjl;refine⟨_,(show L.length-(i+1)<L.length-i by omega),i+1,by rw[w64 (by omega) (by omega)];omega,rfl,by omega,?_⟩;have e1:stepsR L.length k S BL (L.map MR.m) i=(O.filter (posB L.length k S BL i y.m)).map fun q=>(i,q):=by
    unfold stepsR;rw[gm];show ((stepsP L.length k S BL i y.m).map fun q=>(i,q))=_;unfold stepsP;rw[hSg,hO]
   rw[List.range_succ,List.flatMap_append,List.flatMap_cons,List.flatMap_nil,Yw,e1];rw[Yye] at hs;exact hs.drop 1
 ·have hil:i=L.length:=by omega
  subst hil;refine⟨out,rfl,?_⟩;rw[hLL];exact hs.sub (.cons_cons _ (List.nil_sublist _))
theorem App_full {P:Program} {t e size bytes:Nat} (hT:appB P t e size bytes=true) {h:Heap} {y:Sl} {rows:List (List Value)} (hy:Rw h size y rows) (hk:∀r∈rows,r.length=size) (hc:y.c=y.n) (hna:y.a=none->y.n=0)
  {x:Addr} {m c:Nat} {news:List Value} (hx:atC h x news) (hl:news.length=m*size) (hm:0<m) (h1:news.all oneB=true) (hbytes:(y.n+m)*bytes<=140737488355328) (h63:y.n+m<=maxLen)
  {K:Sl->Heap->Prop} (hK:∀(r:Sl) (h':Heap),r.n=y.n+m->OwnS h' h.size e size r (rows.flatten++news)->Ext h h'->K r h') :
  App P t t (.slice y.a y.n y.c) (.slice (some x) m c) h K:=by
 have hn:=hy.1;cases hya:y.a with
 | none=>
  have h0:=hna hya;have hr0:rows=[]:=List.length_eq_zero_iff.1 (by omega);subst hr0;have ho:OwnS h h.size e size (⟨none,0,0⟩:Sl) []:=OwnS.nil;rw[h0,hc,h0];refine App_own hT (s:=⟨none,0,0⟩) ho (Yyt _) hx hl h1 (by show (0+m)*bytes<=_;rw[h0] at hbytes;exact hbytes) (by show 0+m<=_;rw[h0] at h63;exact h63) fun r h' hrn hor hsz hkeep=>hK r h' (by rw[h0];exact hrn) hor ⟨hsz,fun b hb=>hkeep b hb fun g hg=>by cases hg⟩
 | some b=>
  intro ty w hw;subst hw;unfold appB at hT;simp only[Yt] at hT;obtain⟨⟨⟨⟨⟨⟨⟨hs,he⟩,ht⟩,hz⟩,hzl⟩,hsz⟩,hby⟩,hpos⟩:=hT;have hu:=sliceB_e hs;rw[beqT he] at hu;obtain⟨i,hi⟩:=isT_info ht;obtain⟨z,hz'⟩:=Option.isSome_iff_exists.1 hz;rw[hi] at hz';simp only[Option.bind_some] at hz';have e1:i.size=size:=by have:=beqT hsz;simpa [szOf,hi] using this
  have e2:i.bytes=bytes:=by have:=beqT hby;simpa [byOf,hi] using this
  have e3:z.cells.size=size:=by have:=beqT hzl;simpa [zeroC,hi,hz'] using this
  have hnews:∀j u,news[j]?=some u->w.cell? (x.add j)=some u:=fun j u hj=>by rw[addk_add];exact hx j u hj
  have hb:atC w.heap b rows.flatten:=by
   by_cases h0:0<rows.length
   ·obtain⟨b',o,ha,hall⟩:=hy.2 h0;rw[hya] at ha;cases ha;exact atC_flat rows o hk hall
   ·have hr0:rows=[]:=List.length_eq_zero_iff.1 (by omega);subst hr0;intro i v hv;simp at hv
  have holds:∀j u,rows.flatten[j]?=some u->w.cell? (b.add j)=some u:=fun j u hj=>by rw[addk_add];exact hb j u hj
  obtain⟨v',w',hr,hown,hg⟩:=run_append_arg_grows (P:=P) w t ty e i z size bytes hu hi hz' e1 e2 e3 (by simpa using hpos) b y.n y.c rows.flatten (by rw[flatten_len rows hk,hn]) holds x m c news hl hnews (by omega) h63 hbytes;obtain⟨r,hv,hrn,hor⟩:=OwnS.of_row hown;exact⟨v',w',hr,⟨r,hv,hK r w'.heap hrn hor ⟨hg.size,fun k hk=>hg.block k hk (by intro e;cases e)⟩⟩,hg.os,hg.tape,hg.output⟩
theorem app25e:appB Pz 25 3 1 8=true:=by kernel_rfl
theorem app26e:appB Pz 26 25 1 24=true:=by kernel_rfl
def newL (x:Mv) (l:List Int):List Int:=if x.send=true then l++[x.label] else l.tail
def DoE (S':List Int) (B:List Bx) (j:Nat) (x:Mv) (q:Bx) (h:Heap) (v:Value) (h':Heap):Prop:=∃(ts tb u:Sl) (A:List It),v=cfA ts tb/\St h h' A/\It.sl ts 3 1 (S'.map inC)∈A/\It.sl tb 25 1 ((B.set j ⟨u,newL x q.l⟩).map Bx.cs)∈A/\(x.send=true->It.sl u 3 1 ((newL x q.l).map inC)∈A)/\(x.send=false->u=⟨subA q.s.a 1 q.s.c 1,q.s.n-1,q.s.c-1⟩)
set_option maxHeartbeats 3200000 in
theorem do_tail (L:List MR) (s:Sl) (k:Int) (eb:Nat) (ss sb cs cb:Sl) (S:List Int) (B:List Bx) (a b:Nat) (x:Mv) (q:Bx) (h hz:Heap) (bo b5 b6 b7:Nat) (hn:s.n=L.length) (h6:L.length<=6) (ha:a<L.length) (hx0:0<=x.peer) (hx1:x.peer<(L.length:Int))
  (hE:EngR h eb s k L) (hC:CfI h ss sb S B) (hSl:S.length=L.length) (hBl:B.length=L.length*L.length) (gq:B[bxI L.length a x]?=some q) (hq4:q.l.length<=4) (hq1:x.send=false->1<=q.l.length)
  (hs:St h hz [.blk bo [.slice cs.a cs.n cs.c,.slice cb.a cb.n cb.c] 50,.sl cs 3 1 (S.map inC),.sl cb 25 1 (B.map Bx.cs),.blk b7 x.cs 116,.blk b6 [.slice none 0 0,.slice none 0 0] 50,.blk b5 [.int .i64 (a:Int),.int .i64 (b:Int)] 48,.blk h.size [.slice ss.a ss.n ss.c,.slice sb.a sb.n sb.c] 50]) :
  (∃x34:Sl,hc hz ⟨bo,0,none⟩=some (.slice x34.a x34.n x34.c) /\ 
 (∃x35:Int,hc hz ⟨b5,0,none⟩=some (.int .i64 x35) /\ 
 (∃x36:Int,hc hz ⟨b7,4,none⟩=some (.int .i64 x36) /\ 
 (NB x34.a fun b37 o38=>((0<=(x35:Int)/\(x35:Int)<(x34.n:Nat)) /\ 
 (okAt hz ⟨b37,o38+Int.toNat x35*1,none⟩ 1/\∀h39:Heap,h39=hputs hz ⟨b37,o38+Int.toNat x35*1,none⟩ 0 [.int .i64 x36] -> 
 (∃x40:Int,hc h39 ⟨b5,0,none⟩=some (.int .i64 x40) /\ 
 (∃x41:Int,∃x42:Bool,∃x43:Int,∃x44:Int,∃x45:Int,∃x46:Bool,atC h39 ⟨b7,0,none⟩ [.int .i64 x41,.bool x42,.int .i64 x43,.int .i64 x44,.int .i64 x45,.bool x46] /\ 
 (Fn Pz 69 #[.pointer (some ⟨eb,0,none⟩),.int .i64 x40,.agg ⟨[.int .i64 x41,.bool x42,.int .i64 x43,.int .i64 x44,.int .i64 x45,.bool x46]⟩] h39 
 (fun v47 h49=>∃x48:Int,v47=.int .i64 x48 /\ 
 (∃x50:Sl,hc h49 ⟨h.size,1,none⟩=some (.slice x50.a x50.n x50.c) /\ 
 (NB x50.a fun b51 o52=>((0<=(x48:Int)/\(x48:Int)<(x50.n:Nat)) /\ 
 (∃x53:Sl,hc h49 ⟨b51,o52+Int.toNat x48*1,none⟩=some (.slice x53.a x53.n x53.c) /\ 
 (∃x54:Bool,hc h49 ⟨b7,1,none⟩=some (.bool x54) /\ 
 (sB x54 
  ((∃x55:Sl,hc h49 ⟨bo,1,none⟩=some (.slice x55.a x55.n x55.c) /\ 
  (((0:Int)<=(0:Int)/\(0:Int)<=((x53.n:Int):Int)/\((x53.n:Int):Int)<=((x53.n:Int):Int)/\((x53.n:Int):Int)<=(x53.c:Nat)) /\ 
  (∃x56:Int,hc h49 ⟨b7,3,none⟩=some (.int .i64 x56) /\ 
  (∀h57:Heap,h57=h49.push (.cells ⟨[.int .i64 x56]⟩ 3) -> 
  (Sm [⟨bo,1,none⟩] h49 h57 /\ 
  (App Pz 25 25 (.slice (subA x53.a (Int.toNat 0) (Int.toNat (x53.n:Int)) 1) (Int.toNat (x53.n:Int)-Int.toNat 0) (Int.toNat (x53.n:Int)-Int.toNat 0)) (.slice (some ⟨h49.size,0,none⟩) 1 1) h57 fun s58 h59=>
  (Sm [⟨bo,1,none⟩] h57 h59 /\ 
  (NB x55.a fun b60 o61=>((0<=(x48:Int)/\(x48:Int)<(x55.n:Nat)) /\ 
  (okAt h59 ⟨b60,o61+Int.toNat x48*1,none⟩ 1/\∀h62:Heap,h62=hputs h59 ⟨b60,o61+Int.toNat x48*1,none⟩ 0 [.slice s58.a s58.n s58.c] -> 
  (∃x63:Sl,∃x64:Sl,atC h62 ⟨bo,0,none⟩ [.slice x63.a x63.n x63.c,.slice x64.a x64.n x64.c] /\ 
  (okAt h62 ⟨b6,0,none⟩ 2/\∀h65:Heap,h65=hputs h62 ⟨b6,0,none⟩ 0 [.slice x63.a x63.n x63.c,.slice x64.a x64.n x64.c] -> 
  (∃x66:Sl,∃x67:Sl,atC h65 ⟨b6,0,none⟩ [.slice x66.a x66.n x66.c,.slice x67.a x67.n x67.c] /\ 
  DoE (S.set a x.t) B (bxI s.n a x) x q h (.agg ⟨[.slice x66.a x66.n x66.c,.slice x67.a x67.n x67.c]⟩) h65)))))))))))))) 
  ((∃x68:Sl,hc h49 ⟨bo,1,none⟩=some (.slice x68.a x68.n x68.c) /\ 
  (((0:Int)<=(1:Int)/\(1:Int)<=((x53.n:Nat):Int)/\((x53.n:Nat):Int)<=(x53.c:Nat)) /\ 
  (NB x68.a fun b69 o70=>((0<=(x48:Int)/\(x48:Int)<(x68.n:Nat)) /\ 
  (okAt h49 ⟨b69,o70+Int.toNat x48*1,none⟩ 1/\∀h71:Heap,h71=hputs h49 ⟨b69,o70+Int.toNat x48*1,none⟩ 0 [.slice (subA x53.a (Int.toNat 1) x53.c 1) (Int.toNat (x53.n:Nat)-Int.toNat 1) (x53.c-Int.toNat 1)] -> 
  (∃x72:Sl,∃x73:Sl,atC h71 ⟨bo,0,none⟩ [.slice x72.a x72.n x72.c,.slice x73.a x73.n x73.c] /\ 
  (okAt h71 ⟨b6,0,none⟩ 2/\∀h74:Heap,h74=hputs h71 ⟨b6,0,none⟩ 0 [.slice x72.a x72.n x72.c,.slice x73.a x73.n x73.c] -> 
  (∃x75:Sl,∃x76:Sl,atC h74 ⟨b6,0,none⟩ [.slice x75.a x75.n x75.c,.slice x76.a x76.n x76.c] /\ 
  DoE (S.set a x.t) B (bxI s.n a x) x q h (.agg ⟨[.slice x75.a x75.n x75.c,.slice x76.a x76.n x76.c]⟩) h74))))))))))))))))))))))))):=by
 have h36:=sq6 h6;have hj:=bxI_lt (n:=L.length) (x:=x) ha hx0 hx1;have hsn:=hC.s.ln;have hbn:=hC.b.ln;have hcsn:=(hs.rows 1 (s:=cs) (cs:=inC) rfl (by omega)).ln;have hcbn:=(hs.rows 2 (s:=cb) (cs:=Bx.cs) rfl (by omega)).ln;obtain⟨osl,hat,-⟩:=hE.e;have hqi:=hC.i q (Yb gq);have hqn:=hqi.ln;have hqc:=hqi.cap;refine⟨cs,hs.rd 0 rfl (i:=0) rfl,(a:Int),hs.rd 5 rfl (i:=0) rfl,x.t,hs.rd 3 rfl (i:=4) rfl,?_⟩;refine hs.set 1 (s:=cs) (cs:=inC) (x:=(a:Int)) rfl (by omega) (by omega) (by omega) x.t rfl rfl (fun b1 o1 h39 hs=>?_) rfl;rw[Ys] at hs;refine⟨(a:Int),hs.rd 5 rfl (i:=0) rfl,x.f,x.send,x.peer,x.label,x.t,x.ag,hs.at 3 rfl (o:=0) (n:=6) rfl,?_⟩;refine (box69e eb a s x h39 (atC_ext hs.ext hat).hd (by omega) (by omega) hx0 (by omega)).mono ?_;rintro _ h49 ⟨rfl,E⟩;have hs:=hs.step E;rw[hn];refine⟨_,rfl,sb,hs.rd 6 rfl (i:=1) rfl,?_⟩;generalize hjj:bxI L.length a x=j at *;refine (hC.b.rw.ext hs.ext).nbI (by omega) (by omega) fun b51 o52 q' gq' t=>?_;rw[Ys,gq] at gq';cases gq';refine⟨q.s,t.hd,x.send,hs.rd 3 rfl (i:=1) rfl,sB_intro (fun d=>?_) (fun d=>?_)⟩
 ·have hnl:newL x q.l=q.l++[x.label]:=by unfold newL;rw[if_pos d]
  refine⟨cb,hs.rd 0 rfl (i:=1) rfl,⟨by omega,by omega,by omega,by omega⟩,x.label,hs.rd 3 rfl (i:=3) rfl,?_⟩;refine hs.newbE fun h57 E57 hs=>⟨E57.sm,?_⟩;have e0:subA q.s.a (Int.toNat 0) (Int.toNat (q.s.n:Int)) 1=q.s.a:=subA_zero _ _ _;rw[e0];refine App_full app25e (y:=⟨q.s.a,q.s.n,q.s.n⟩) (rows:=q.l.map inC) (m:=1) (news:=inC x.label) (show Rw h57 1 ⟨q.s.a,q.s.n,q.s.n⟩ (q.l.map inC) from (hqi.rw.ext hs.ext)) (inrows _) rfl (fun e=>(hqi.nil e).1) (hs.at 0 rfl (n:=1) rfl) rfl (by omega) rfl (by show (q.s.n+1)*8<=_;omega) (by show q.s.n+1<=_;simp only[maxLen];omega) fun u h59 hun hou E59=>?_;have hrows:(q.l.map inC).flatten++inC x.label=((newL x q.l).map inC).flatten:=by rw[hnl,Ym,List.flatten_append];rfl
  rw[hrows] at hou;have hs:=hs.gift E59 hou (inrows _);refine⟨E59.sm,?_⟩;refine hs.set 4 (s:=cb) (cs:=Bx.cs) (x:=(j:Int)) rfl (by omega) (by omega) (by omega) (⟨u,newL x q.l⟩:Bx) rfl rfl (fun b2 o2 h62 hs=>?_) rfl;rw[Ys] at hs;refine⟨cs,cb,hs.at 2 rfl (o:=0) (n:=2) rfl,?_⟩;refine hs.put 6 rfl (o:=0) (vs:=[.slice cs.a cs.n cs.c,.slice cb.a cb.n cb.c]) rfl (show 2<=2 by decide) fun h65 hs=>?_;refine⟨cs,cb,hs.at 6 rfl (o:=0) (n:=2) rfl,cs,cb,u,_,rfl,hs,?_,?_,fun _=>Yx,fun e=>by rw[d] at e;cases e⟩
  ·exact Yn _ (Yn _ (Yn _ Yx))
  ·exact Yn _ (Yn _ (Yn _ (Yn _ Yx)))
 ·have hnl:newL x q.l=q.l.tail:=by unfold newL;rw[if_neg (by rw[d];decide)]
  have h1q:=hq1 d;refine⟨cb,hs.rd 0 rfl (i:=1) rfl,⟨by omega,by omega,by omega⟩,?_⟩;refine hs.set 2 (s:=cb) (cs:=Bx.cs) (x:=(j:Int)) rfl (by omega) (by omega) (by omega) (⟨⟨subA q.s.a (Int.toNat 1) q.s.c 1,Int.toNat (q.s.n:Nat)-Int.toNat 1,q.s.c-Int.toNat 1⟩,newL x q.l⟩:Bx) rfl rfl (fun b2 o2 h71 hs=>?_) rfl;rw[Ys] at hs;refine⟨cs,cb,hs.at 0 rfl (o:=0) (n:=2) rfl,?_⟩;refine hs.put 4 rfl (o:=0) (vs:=[.slice cs.a cs.n cs.c,.slice cb.a cb.n cb.c]) rfl (show 2<=2 by decide) fun h74 hs=>?_;refine⟨cs,cb,hs.at 4 rfl (o:=0) (n:=2) rfl,cs,cb,_,_,rfl,hs,?_,?_,fun e=>(by rw[d] at e;cases e),fun _=>rfl⟩
  ·exact Yn _ Yx
  ·exact Yn _ (Yn _ Yx)
theorem It.apart.symm {i j:It} (h:It.apart i j):It.apart j i:=fun b hb hc=>h b hc hb
theorem St.picks {h0 h:Heap} {L L':List It} (hs:St h0 h L) (ks:List Nat) (nd:ks.Nodup) (hL:L'.map some=ks.map fun k=>L[k]?):St h0 h L':=by
 have hlen:L'.length=ks.length:=by have:=congrArg List.length hL;rwa [Yc,Yc] at this
 have hget:∀(j:Nat) (hj:j<L'.length) (hk:j<ks.length),L[ks[j]]?=some L'[j]:=fun j hj hk=>by
  have h1:(L'.map some)[j]?=some (some L'[j]):=by rw[Yd,Yi hj];rfl
  rw[hL,Yd,Yi hk] at h1;exact Yyp h1
 refine⟨hs.ext,fun i hi=>?_,?_⟩
 ·obtain⟨j,hj,rfl⟩:=List.mem_iff_getElem.1 hi;exact hs.ok _ (Yb (hget j hj (by omega)))
 ·rw[List.pairwise_iff_getElem];intro a b ha hb hab;have h1:=hget a ha (by omega);have h2:=hget b hb (by omega);have hne:ks[a]'(by omega)≠ks[b]'(by omega):=List.pairwise_iff_getElem.1 nd a b (by omega) (by omega) hab;obtain⟨l1,e1⟩:=Ya.1 h1;obtain⟨l2,e2⟩:=Ya.1 h2;have hp:=List.pairwise_iff_getElem.1 hs.ap;rcases Nat.lt_or_gt_of_ne hne with h | h
  ·have:=hp _ _ l1 l2 h
   rwa [e1,e2] at this
  ·have:=hp _ _ l2 l1 h;rw[e1,e2] at this;exact this.symm
theorem bxrows28 (B:List Bx):∀r∈B.map Bx.cs,r.length=1:=fun r hr=>by obtain⟨x,_,rfl⟩:=Yp.1 hr;rfl
theorem clone74 (B:List Bx) (s:Sl) (h:Heap) (hr:RL h 1 s Bx.cs B):Fn Pz 74 #[.slice s.a s.n s.c] h fun v h'=>∃t:Sl,v=.slice t.a t.n t.c/\St h h' [.sl t 25 1 (B.map Bx.cs)]:=by
 apply vc74 s;unfold W74;have hn:=hr.ln;have hsm:=hr.sm;refine sB_intro (fun c=>?_) (fun c=>?_)
 ·have h0:=hr.nil (Option.isNone_iff_eq_none.1 c);have:B=[]:=List.eq_nil_of_length_eq_zero (by omega);subst this;exact⟨⟨none,0,0⟩,rfl,(St.refl h).nil_ 25 1⟩
 ·refine (St.refl h).newb fun h1 hs=>?_;have hs:=hs.blkS 0 1 [] rfl (fun r hr=>by cases hr) rfl (Nat.zero_le _);refine hs.appRw 0 (s:=⟨some ⟨h.size,0,none⟩,0,0⟩) (rows:=[]) (y:=s) rfl app26e (hr.rw.ext hs.ext) (bxrows28 B) hr.nil (flat_oneB (fun _=>rfl) _) (by show (0+s.n)*24<=_;omega) (by show 0+s.n<=_;simp only[maxLen];omega) fun r h3 _ hs=>?_;exact⟨r,rfl,hs⟩
set_option maxHeartbeats 3200000 in
theorem do37 (L:List MR) (s:Sl) (k:Int) (eb:Nat) (ss sb:Sl) (S:List Int) (B:List Bx) (a b:Nat) (m:Mch) (x:Mv) (q:Bx) (h:Heap) (hS:SyI h s L) (hE:EngR h eb s k L) (hC:CfI h ss sb S B) (hP:ProS (L.map MR.m) k S (B.map Bx.l))
  (gm:(L.map MR.m)[a]?=some m) (gx:m.mv[b]?=some x) (hc:canS L.length k S (B.map Bx.l) a x=0) (gq:B[bxI L.length a x]?=some q) :
  Fn Pz 37 #[.pointer (some ⟨eb,0,none⟩),.agg ⟨[.slice ss.a ss.n ss.c,.slice sb.a sb.n sb.c]⟩,.agg ⟨[.int .i64 (a:Int),.int .i64 (b:Int)]⟩] h (DoE (S.set a x.t) B (bxI s.n a x) x q h):=by
 apply vc37 ⟨eb,0,none⟩ ss sb (a:Int) (b:Int);unfold W37 V37a V37b;have hn:=hS.r.ln;have hlm:(L.map MR.m).length=L.length:=Yc _;have hbm:(B.map Bx.l).length=B.length:=Yc _;have hV6:=hP.v.n;rw[hlm] at hV6;have hSl:S.length=L.length:=by rw[hP.p.s,hlm]
 have hBl:B.length=L.length*L.length:=by rw[<-hbm,hP.p.b,hlm]
 have ha:a<L.length:=by have:=(Ya.1 gm).1;omega
 have hxm:=Yb gx;have hvm:=hP.v.m a m gm;have hx0:=(hvm.2.1.n.mv x hxm).2.2.2.2.1;have hx1:=hvm.2.2 x hxm;rw[hlm] at hx1;have hql:(B.map Bx.l)[bxI L.length a x]?=some q.l:=by rw[Yd,gq];rfl
 have hq4:q.l.length<=4:=by have:=(hP.p.bx _ q.l hql).1;have:=hP.c;omega
 have hqd:(B.map Bx.l).getD (bxI L.length a x) []=q.l:=getD_map gq;have hq1:x.send=false->1<=q.l.length:=fun d=>by
  obtain⟨r,hr⟩:=(can_parts.1 hc).2.2 d;rw[hqd] at hr;rw[hr,Yyj];omega
 obtain⟨osl,hat,-⟩:=hE.e;rw[Yd] at gm;cases gy:L[a]? with
 | none=>rw[gy] at gm;cases gm
 | some y=>
  rw[gy] at gm;cases gm;have hyi:=hS.i y (Yb gy);have hgl:=hyi.pm.ln;have hbl:=(Ya.1 gx).1;refine (St.refl h).newb fun h5 hs=>?_;refine hs.newb fun h6 hs=>?_;refine hs.newb fun h7 hs=>?_;refine⟨s,(atC_ext hs.ext hat).hd,(a:Int),hs.rd 1 rfl (i:=0) rfl,?_⟩;refine (hS.r.rw.ext hs.ext).nbI (by omega) (by omega) fun b10 o11 y' gy' t=>?_;rw[Ys] at gy';replace gy':L[a]?=some y':=gy';rw[gy] at gy';cases gy';refine⟨y.g,t.nth 4 rfl,(b:Int),hs.rd 1 rfl (i:=1) rfl,?_⟩;refine (hyi.pm.rw.ext hs.ext).nbI (by omega) (by omega) fun b14 o15 x' gx' t2=>?_;rw[Ys] at gx';replace gx':y.m.mv[b]?=some x':=gx';rw[gx] at gx';cases gx';refine⟨_,_,_,_,_,_,t2,?_⟩;refine hs.newbE fun h22 E22 hs=>⟨E22.sm,?_⟩;refine hs.put 0 rfl (o:=0) (vs:=x.cs) rfl (show 6<=6 by decide) fun h23 hs=>?_;refine⟨ss,hs.rd 3 rfl (i:=0) rfl,sb,hs.rd 3 rfl (i:=1) rfl,?_⟩;have cS:=fun h' (E:Ext h23 h')=>clone92 S ss h' (hC.s.ext (hs.ext.trans E));have cB:=fun h' (E:Ext h23 h')=>clone74 B sb h' (hC.b.ext (hs.ext.trans E));have E:Ext h23 h23:=.rfl'
  repeat' first
   | (refine (cS _ E).mono ?_;rintro _ _ ⟨cs,rfl,hsS⟩;have hs:=hs.join hsS;have E:=E.trans hsS.ext;have E1:=hsS.ext;refine⟨cs,rfl,?_⟩)
   | (refine (cB _ E).mono ?_;rintro _ _ ⟨cb,rfl,hsB⟩;have hs:=hs.join hsB;have E:=E.trans hsB.ext;have E1:=hsB.ext;refine⟨cb,rfl,?_⟩)
   | (refine hs.newbE fun hh Eh hs=>⟨Eh.sm,?_⟩;have E:=E.trans Eh)
   | (refine⟨E1.sm,?_⟩)
   | (refine hs.put 0 rfl (o:=0) (vs:=[.slice cs.a cs.n cs.c,.slice cb.a cb.n cb.c]) rfl (show 2<=2 by decide) fun h33 hs=>?_)
   | (exact do_tail L s k eb ss sb cs cb S B a b x q h _ _ _ _ _ hn hV6.2 ha hx0 hx1 hE hC hSl hBl gq hq4 hq1 (hs.picks [0,5,6,1,2,3,4] (by decide) rfl))
   | (exact do_tail L s k eb ss sb cs cb S B a b x q h _ _ _ _ _ hn hV6.2 ha hx0 hx1 hE hC hSl hBl gq hq4 hq1 (hs.picks [0,6,5,1,2,3,4] (by decide) rfl))
   | (refine And.intro ?_ ?_)
def Sta (A:List It) (P:Heap->Prop):Prop:=∀(h0 h:Heap) (A':List It),(∀i∈A,i∈A')->St h0 h A'->P h
theorem Sta.mono {A A':List It} {P:Heap->Prop} (hA:Sta A P) (h:∀i∈A,i∈A'):Sta A' P:=fun h0 hh A2 h2 hs=>hA h0 hh A2 (fun i hi=>h2 i (h i hi)) hs
theorem Sta.at {A:List It} {P:Heap->Prop} (hA:Sta A P) {h0 h:Heap} {A':List It} (hs:St h0 h A') (hi:∀i∈A,i∈A'):P h:=hA h0 h A' hi hs
theorem St.rlm {h0 h:Heap} {L:List It} (hs:St h0 h L) {s:Sl} {e n:Nat} {α:Type} {cs:α->List Value} {X:List α} (hk:It.sl s e n (X.map cs)∈L) (hn:0<n) (hX:X.length<=1048576):RL h n s cs X:=by
 obtain⟨k,hk⟩:=Yf.1 hk;obtain⟨h1,h2,h3⟩:=hs.len k hk hn;exact⟨hs.rows k hk hn,h2,h3,hX⟩
def CfN (A:List It) (ss sb:Sl) (S:List Int) (B:List Bx):Prop:=Sta A fun h=>CfI h ss sb S B
theorem RL.tail1 {h:Heap} {s:Sl} {l:List Int} (hr:RL h 1 s inC l) (hl:1<=l.length):RL h 1 ⟨subA s.a 1 s.c 1,s.n-1,s.c-1⟩ inC l.tail:=by
 have hn:=hr.ln;have hc:=hr.cap;have h1:=M.intrw hr.rw hc (i:=1) (by omega);rw[List.drop_one] at h1;exact⟨h1,by show s.n-1<=s.c-1;omega,fun e=>M.subA_nil hr.nil e,by have:=hr.sm;rw[List.length_tail];omega⟩
theorem do_next {A A1:List It} {ss sb ts tb u:Sl} {S S':List Int} {B:List Bx} {j:Nat} {x:Mv} {q:Bx} (hC:CfN A ss sb S B) (hq:B[j]?=some q) (hS':S'.length<=1048576) (hB:B.length<=1048576) (hq4:q.l.length<=4) (hq1:x.send=false->1<=q.l.length)
  (h1:It.sl ts 3 1 (S'.map inC)∈A1) (h2:It.sl tb 25 1 ((B.set j ⟨u,newL x q.l⟩).map Bx.cs)∈A1) (h3:x.send=true->It.sl u 3 1 ((newL x q.l).map inC)∈A1) (h4:x.send=false->u=⟨subA q.s.a 1 q.s.c 1,q.s.n-1,q.s.c-1⟩) :
  CfN (A++A1) ts tb S' (B.set j ⟨u,newL x q.l⟩):=by
 intro h0 h A' hA hs;have hC:=hC h0 h A' (fun i hi=>hA i (List.mem_append_left _ hi)) hs;have hA1:∀i∈A1,i∈A':=fun i hi=>hA i (List.mem_append_right _ hi);have hn:(newL x q.l).length<=5:=by
  unfold newL;split
  ·rw[Yh,Yv];omega
  ·rw[List.length_tail];omega
 refine⟨hs.rlm (hA1 _ h1) (by omega) hS',hs.rlm (hA1 _ h2) (by omega) (by rw[Yyh];exact hB),fun z hz=>?_⟩;rcases List.mem_or_eq_of_mem_set hz with hz | rfl
 ·exact hC.i z hz
 ·cases hd:x.send with
  | true=>exact hs.rlm (hA1 _ (h3 hd)) (by omega) (by show (newL x q.l).length<=_;omega)
  | false=>
   have e:newL x q.l=q.l.tail:=by unfold newL;rw[if_neg (by rw[hd];decide)]
   show RL h 1 u inC (newL x q.l);rw[h4 hd,e];exact (hC.i q (Yb hq)).tail1 (hq1 hd)
end Go.VC
end

section
namespace Go.VC
open Go.Proofs
variable {h:Heap} {R:Value->Heap->Prop}

def V76a (h46 h32:Heap) (l_30:Sl) (m29:Nat) (I27:Sl->Int->Heap->Nat->Prop) (k_31:Int):Prop:=
 ∃x48,rI h46 (aS h32 4) x48/\Fn Pz 116 #[vS l_30,vI x48] h46 (fun v49 h51=>∃x50,iB v49 x50/\sB (!x50) (∃x52,rI h51 (aS h32 4) x52/\Wn h51 [vI x52] 3 fun h53=>App Pz 25 25 (vS l_30) (.slice (some (aS h51 0)) 1 1) h53 fun s54 h55=>∃m56,m56<m29/\I27 s54 (IntKind.wrap .i64 (k_31+1)) h55 m56) (∃m57,m57<m29/\I27 l_30 (IntKind.wrap .i64 (k_31+1)) h51 m57))
def W76 (p0_1 p0_2 p0_3:Int) (p0_4 p0_5 p0_6:Sl) (p1 p2 p3:Int):Prop:=
 Wn h (L1 p0_1 p0_2 p0_3 p0_4 p0_5 p0_6) 88 fun h7=>Wn h7 [vI p1] 3 fun h8=>QSI ⟨(some (aS h7 0)),1,1⟩ 0 h8 fun I9 l_12 i_13 h14 m11=>sB (decide (i_13<(l_12.n:Int))) (∃x15 x16 x17 x18 x19 x20,aL1 h14 (aS h 0) x15 x16 x17 x18 x19 x20/\NB l_12.a fun b21 o22=>Ib i_13 l_12.n/\∃x23,rI h14 ⟨b21,o22+Int.toNat i_13*1,none⟩ x23/\Fn Pz 78 #[.agg ⟨(L1 x15 x16 x17 x18 x19 x20)⟩,vI x23] h14 (fun v24 h26=>∃x25,iS v24 x25/\QSI l_12 0 h26 fun I27 l_30 k_31 h32 m29=>sB (decide (k_31<(x25.n:Int))) (∃x33,rS h32 (aS h 4) x33/\NB x25.a fun b34 o35=>Ib k_31 x25.n/\∃x36,rI h32 ⟨b34,o35+Int.toNat k_31*1,none⟩ x36/\NB x33.a fun b37 o38=>Ib x36 x33.n/\∃x39 x40 x41 x42 x43 x44,aL0 h32 ⟨b37,o38+Int.toNat x36*6,none⟩ x39 x40 x41 x42 x43 x44/\Wn h32 [vI 0,.bool false,vI 0,vI 0,vI 0,.bool false] 116 fun h45=>Sm [⟨b37,o38+Int.toNat x36*6,none⟩,⟨b34,o35+Int.toNat k_31*1,none⟩,(aS h 4)] h32 h45/\Wp h45 (aS h32 0) 6 (L0 x39 x40 x41 x42 x43 x44) fun h46=>∃x47,rB h46 (aS h32 1) x47/\sB x47 (V76a h46 h32 l_30 m29 I27 k_31) (∃x58,rI h46 (aS h32 2) x58/\sB (x58 != p2) (V76a h46 h32 l_30 m29 I27 k_31) (∃x69,rI h46 (aS h32 3) x69/\sB (x69==p3) (R (.bool true) h46) (∃m70,m70<m29/\I27 l_30 (IntKind.wrap .i64 (k_31+1)) h46 m70)))) (∃m71,m71<m11/\I9 l_30 (IntKind.wrap .i64 (i_13+1)) h32 m71))) (R (.bool false) h14)
theorem vc76 (p0_1 p0_2 p0_3:Int) (p0_4 p0_5 p0_6:Sl) (p1 p2 p3:Int) (H:@W76 h R p0_1 p0_2 p0_3 p0_4 p0_5 p0_6 p1 p2 p3):Fn Pz 76 #[.agg ⟨(L1 p0_1 p0_2 p0_3 p0_4 p0_5 p0_6)⟩,vI p1,vI p2,vI p3] h R:=fnI (A:=(.s .z (.s .z (.s (.s .z (.b (.l [(9,.one (.slice)),(10,.one (.int .i64))] (.s .z (.s (.b (.s .z (.s .z (.b (.l [(9,.one (.slice)),(12,.one (.int .i64))] .z))))) .z))))) .z)))) (by kernel_rfl) H

end Go.VC
end
