/- WkN WkO WkVcG WkP WkVcI WkVcK WkQ WkR WkVcM WkS WkT WkU. -/
import Derived.Test.YtnfkibjnkiojnaaGreatDoorM25
import Derived.Test.YtnfkibjnkiojnaaGreatDoorM01
import Derived.Test.YtnfkibjnkiojnaaGreatDoorM02
import Derived.Test.YtnfkibjnkiojnaaGreatDoorProg
import Derived.KernelRfl
set_option linter.unusedVariables false
set_option linter.unusedSimpArgs false
set_option maxRecDepth 100000

section
/- The example's machines (printed by mkex.py). -/
namespace Go.VC
open Go.Proofs Go.LexS
def xm0:Mch:=⟨0,2,0,[false,true],[⟨0,true,1,0,1,false⟩,⟨0,true,1,1,1,false⟩],[]⟩
theorem xm0_get (i:Nat) (x:Mv) (h:xm0.mv[i]?=some x):(i=0/\x=⟨0,true,1,0,1,false⟩)\/(i=1/\x=⟨0,true,1,1,1,false⟩):=by
 match i,h with
 | 0,h=>exact .inl ⟨rfl,(Yyp h).symm⟩
 | 1,h=>exact .inr ⟨rfl,(Yyp h).symm⟩
 | n+2,h=>exact absurd h (by simp [xm0])
theorem xm0_mem (x:Mv) (h:x ∈ xm0.mv):x=⟨0,true,1,0,1,false⟩\/x=⟨0,true,1,1,1,false⟩:=by
 obtain ⟨i,hi⟩:=Yf.1 h
 rcases xm0_get i x hi with ⟨_,e⟩ | ⟨_,e⟩
 ·
  exact .inl e
 ·
  exact .inr e
theorem xm0_ag (x:Mv) (h:x ∈ xm0.mv):x.ag=false:=by
 rcases xm0_mem x h with rfl | rfl <;> rfl
theorem xm0_vm:VM xm0:=by
 refine ⟨⟨⟨by decide,by decide⟩,⟨by decide,by decide⟩,⟨by decide,by decide⟩,rfl,by decide,fun x hx=>?_⟩,fun i k x y hx hy hne hf=>?_,fun v h0 h1=>?_,⟨fun x hx ha=>?_,fun x hx ha=>?_,fun x hx ha=>?_,fun x hx ha=>?_,fun x hx ha=>?_⟩,fun i t h=>?_⟩
 ·
  rcases xm0_mem x hx with rfl | rfl <;> decide
 ·
  rcases xm0_get i x hx with ⟨rfl,rfl⟩ | ⟨rfl,rfl⟩ <;> rcases xm0_get k y hy with ⟨rfl,rfl⟩ | ⟨rfl,rfl⟩ <;> first
   | exact absurd rfl hne
   | exact absurd hf (by decide)
   | exact ⟨fun e=>absurd (congrArg Ev.label e) (by decide),rfl⟩
 ·
  have q0:Qr (meds xm0) (-1) [xm0.s] 0:=.base (Ye.2 rfl)
  have q1:Qr (meds xm0) (-1) [xm0.s] 1:=.step q0 ⟨⟨0,0,0,0,1,false⟩,Yp.2 ⟨⟨0,true,1,0,1,false⟩,by simp [xm0],rfl⟩,rfl,rfl,rfl⟩
  have h1:v<2:=h1
  have:v=0\/v=1:=by omega
  rcases this with rfl | rfl
  ·
   exact q0
  ·
   exact q1
 ·
  rw [xm0_ag x hx] at ha; cases ha
 ·
  rw [xm0_ag x hx] at ha; cases ha
 ·
  rw [xm0_ag x hx] at ha; cases ha
 ·
  rw [xm0_ag x hx] at ha; cases ha
 ·
  rw [xm0_ag x hx] at ha; cases ha
 ·
  simp [xm0] at h
def xm1:Mch:=⟨1,6,0,[false,false,false,false,false,true],[⟨0,false,0,0,1,false⟩,⟨0,false,0,1,2,false⟩,⟨1,true,2,0,3,false⟩,⟨2,true,2,1,4,false⟩,⟨3,false,2,2,5,false⟩,⟨4,false,2,3,5,false⟩],[]⟩
theorem xm1_get (i:Nat) (x:Mv) (h:xm1.mv[i]?=some x):(i=0/\x=⟨0,false,0,0,1,false⟩)\/(i=1/\x=⟨0,false,0,1,2,false⟩)\/(i=2/\x=⟨1,true,2,0,3,false⟩)\/(i=3/\x=⟨2,true,2,1,4,false⟩)\/(i=4/\x=⟨3,false,2,2,5,false⟩)\/(i=5/\x=⟨4,false,2,3,5,false⟩):=by
 match i,h with
 | 0,h=>exact .inl ⟨rfl,(Yyp h).symm⟩
 | 1,h=>exact .inr (.inl ⟨rfl,(Yyp h).symm⟩)
 | 2,h=>exact .inr (.inr (.inl ⟨rfl,(Yyp h).symm⟩))
 | 3,h=>exact .inr (.inr (.inr (.inl ⟨rfl,(Yyp h).symm⟩)))
 | 4,h=>exact .inr (.inr (.inr (.inr (.inl ⟨rfl,(Yyp h).symm⟩))))
 | 5,h=>exact .inr (.inr (.inr (.inr (.inr ⟨rfl,(Yyp h).symm⟩))))
 | n+6,h=>exact absurd h (by simp [xm1])
theorem xm1_mem (x:Mv) (h:x ∈ xm1.mv):x=⟨0,false,0,0,1,false⟩\/x=⟨0,false,0,1,2,false⟩\/x=⟨1,true,2,0,3,false⟩\/x=⟨2,true,2,1,4,false⟩\/x=⟨3,false,2,2,5,false⟩\/x=⟨4,false,2,3,5,false⟩:=by
 obtain ⟨i,hi⟩:=Yf.1 h
 rcases xm1_get i x hi with ⟨_,e⟩ | ⟨_,e⟩ | ⟨_,e⟩ | ⟨_,e⟩ | ⟨_,e⟩ | ⟨_,e⟩
 ·
  exact .inl e
 ·
  exact .inr (.inl e)
 ·
  exact .inr (.inr (.inl e))
 ·
  exact .inr (.inr (.inr (.inl e)))
 ·
  exact .inr (.inr (.inr (.inr (.inl e))))
 ·
  exact .inr (.inr (.inr (.inr (.inr e))))
theorem xm1_ag (x:Mv) (h:x ∈ xm1.mv):x.ag=false:=by
 rcases xm1_mem x h with rfl | rfl | rfl | rfl | rfl | rfl <;> rfl
theorem xm1_vm:VM xm1:=by
 refine ⟨⟨⟨by decide,by decide⟩,⟨by decide,by decide⟩,⟨by decide,by decide⟩,rfl,by decide,fun x hx=>?_⟩,fun i k x y hx hy hne hf=>?_,fun v h0 h1=>?_,⟨fun x hx ha=>?_,fun x hx ha=>?_,fun x hx ha=>?_,fun x hx ha=>?_,fun x hx ha=>?_⟩,fun i t h=>?_⟩
 ·
  rcases xm1_mem x hx with rfl | rfl | rfl | rfl | rfl | rfl <;> decide
 ·
  rcases xm1_get i x hx with ⟨rfl,rfl⟩ | ⟨rfl,rfl⟩ | ⟨rfl,rfl⟩ | ⟨rfl,rfl⟩ | ⟨rfl,rfl⟩ | ⟨rfl,rfl⟩ <;> rcases xm1_get k y hy with ⟨rfl,rfl⟩ | ⟨rfl,rfl⟩ | ⟨rfl,rfl⟩ | ⟨rfl,rfl⟩ | ⟨rfl,rfl⟩ | ⟨rfl,rfl⟩ <;> first
   | exact absurd rfl hne
   | exact absurd hf (by decide)
   | exact ⟨fun e=>absurd (congrArg Ev.label e) (by decide),rfl⟩
 ·
  have q0:Qr (meds xm1) (-1) [xm1.s] 0:=.base (Ye.2 rfl)
  have q1:Qr (meds xm1) (-1) [xm1.s] 1:=.step q0 ⟨⟨0,0,0,0,1,false⟩,Yp.2 ⟨⟨0,false,0,0,1,false⟩,by simp [xm1],rfl⟩,rfl,rfl,rfl⟩
  have q2:Qr (meds xm1) (-1) [xm1.s] 2:=.step q0 ⟨⟨0,0,0,0,2,false⟩,Yp.2 ⟨⟨0,false,0,1,2,false⟩,by simp [xm1],rfl⟩,rfl,rfl,rfl⟩
  have q3:Qr (meds xm1) (-1) [xm1.s] 3:=.step q1 ⟨⟨1,0,0,0,3,false⟩,Yp.2 ⟨⟨1,true,2,0,3,false⟩,by simp [xm1],rfl⟩,rfl,rfl,rfl⟩
  have q4:Qr (meds xm1) (-1) [xm1.s] 4:=.step q2 ⟨⟨2,0,0,0,4,false⟩,Yp.2 ⟨⟨2,true,2,1,4,false⟩,by simp [xm1],rfl⟩,rfl,rfl,rfl⟩
  have q5:Qr (meds xm1) (-1) [xm1.s] 5:=.step q3 ⟨⟨3,0,0,0,5,false⟩,Yp.2 ⟨⟨3,false,2,2,5,false⟩,by simp [xm1],rfl⟩,rfl,rfl,rfl⟩
  have h1:v<6:=h1
  have:v=0\/v=1\/v=2\/v=3\/v=4\/v=5:=by omega
  rcases this with rfl | rfl | rfl | rfl | rfl | rfl
  ·
   exact q0
  ·
   exact q1
  ·
   exact q2
  ·
   exact q3
  ·
   exact q4
  ·
   exact q5
 ·
  rw [xm1_ag x hx] at ha; cases ha
 ·
  rw [xm1_ag x hx] at ha; cases ha
 ·
  rw [xm1_ag x hx] at ha; cases ha
 ·
  rw [xm1_ag x hx] at ha; cases ha
 ·
  rw [xm1_ag x hx] at ha; cases ha
 ·
  simp [xm1] at h
def xm2:Mch:=⟨2,4,0,[false,false,false,true],[⟨0,false,1,0,1,false⟩,⟨0,false,1,1,2,false⟩,⟨1,true,1,2,3,false⟩,⟨2,true,1,3,3,false⟩],[]⟩
theorem xm2_get (i:Nat) (x:Mv) (h:xm2.mv[i]?=some x):(i=0/\x=⟨0,false,1,0,1,false⟩)\/(i=1/\x=⟨0,false,1,1,2,false⟩)\/(i=2/\x=⟨1,true,1,2,3,false⟩)\/(i=3/\x=⟨2,true,1,3,3,false⟩):=by
 match i,h with
 | 0,h=>exact .inl ⟨rfl,(Yyp h).symm⟩
 | 1,h=>exact .inr (.inl ⟨rfl,(Yyp h).symm⟩)
 | 2,h=>exact .inr (.inr (.inl ⟨rfl,(Yyp h).symm⟩))
 | 3,h=>exact .inr (.inr (.inr ⟨rfl,(Yyp h).symm⟩))
 | n+4,h=>exact absurd h (by simp [xm2])
theorem xm2_mem (x:Mv) (h:x ∈ xm2.mv):x=⟨0,false,1,0,1,false⟩\/x=⟨0,false,1,1,2,false⟩\/x=⟨1,true,1,2,3,false⟩\/x=⟨2,true,1,3,3,false⟩:=by
 obtain ⟨i,hi⟩:=Yf.1 h
 rcases xm2_get i x hi with ⟨_,e⟩ | ⟨_,e⟩ | ⟨_,e⟩ | ⟨_,e⟩
 ·
  exact .inl e
 ·
  exact .inr (.inl e)
 ·
  exact .inr (.inr (.inl e))
 ·
  exact .inr (.inr (.inr e))
theorem xm2_ag (x:Mv) (h:x ∈ xm2.mv):x.ag=false:=by
 rcases xm2_mem x h with rfl | rfl | rfl | rfl <;> rfl
theorem xm2_vm:VM xm2:=by
 refine ⟨⟨⟨by decide,by decide⟩,⟨by decide,by decide⟩,⟨by decide,by decide⟩,rfl,by decide,fun x hx=>?_⟩,fun i k x y hx hy hne hf=>?_,fun v h0 h1=>?_,⟨fun x hx ha=>?_,fun x hx ha=>?_,fun x hx ha=>?_,fun x hx ha=>?_,fun x hx ha=>?_⟩,fun i t h=>?_⟩
 ·
  rcases xm2_mem x hx with rfl | rfl | rfl | rfl <;> decide
 ·
  rcases xm2_get i x hx with ⟨rfl,rfl⟩ | ⟨rfl,rfl⟩ | ⟨rfl,rfl⟩ | ⟨rfl,rfl⟩ <;> rcases xm2_get k y hy with ⟨rfl,rfl⟩ | ⟨rfl,rfl⟩ | ⟨rfl,rfl⟩ | ⟨rfl,rfl⟩ <;> first
   | exact absurd rfl hne
   | exact absurd hf (by decide)
   | exact ⟨fun e=>absurd (congrArg Ev.label e) (by decide),rfl⟩
 ·
  have q0:Qr (meds xm2) (-1) [xm2.s] 0:=.base (Ye.2 rfl)
  have q1:Qr (meds xm2) (-1) [xm2.s] 1:=.step q0 ⟨⟨0,0,0,0,1,false⟩,Yp.2 ⟨⟨0,false,1,0,1,false⟩,by simp [xm2],rfl⟩,rfl,rfl,rfl⟩
  have q2:Qr (meds xm2) (-1) [xm2.s] 2:=.step q0 ⟨⟨0,0,0,0,2,false⟩,Yp.2 ⟨⟨0,false,1,1,2,false⟩,by simp [xm2],rfl⟩,rfl,rfl,rfl⟩
  have q3:Qr (meds xm2) (-1) [xm2.s] 3:=.step q1 ⟨⟨1,0,0,0,3,false⟩,Yp.2 ⟨⟨1,true,1,2,3,false⟩,by simp [xm2],rfl⟩,rfl,rfl,rfl⟩
  have h1:v<4:=h1
  have:v=0\/v=1\/v=2\/v=3:=by omega
  rcases this with rfl | rfl | rfl | rfl
  ·
   exact q0
  ·
   exact q1
  ·
   exact q2
  ·
   exact q3
 ·
  rw [xm2_ag x hx] at ha; cases ha
 ·
  rw [xm2_ag x hx] at ha; cases ha
 ·
  rw [xm2_ag x hx] at ha; cases ha
 ·
  rw [xm2_ag x hx] at ha; cases ha
 ·
  rw [xm2_ag x hx] at ha; cases ha
 ·
  simp [xm2] at h
def xr0:Mch:=⟨0,3,0,[false,true,true],[⟨0,true,1,0,1,false⟩,⟨0,true,1,1,2,false⟩],[]⟩
theorem xr0_raw (hr hd he ht:Sl):rawC (exGl true hr hd he ht) 0=some (some xr0,0):=by kernel_rfl
theorem xm1_raw (hr hd he ht:Sl):rawC (exGl true hr hd he ht) 1=some (some xm1,0):=by kernel_rfl
theorem xm2_raw (hr hd he ht:Sl):rawC (exGl true hr hd he ht) 2=some (some xm2,0):=by kernel_rfl
theorem xm0_min:minF xr0=xm0:=by kernel_rfl
theorem xm1_min:minF xm1=xm1:=by kernel_rfl
theorem xm2_min:minF xm2=xm2:=by kernel_rfl
theorem xproj (hr hd he ht:Sl) (i:Int) (w m:Mch) (h0:0<=i) (h3:i<((3:Nat):Int)) (hw:rawC (exGl true hr hd he ht) i=some (some w,0)) (hm:minF w=m):proj (exGl true hr hd he ht) i=(some m,0):=by
 have:=rawC_ok (ex_valid true hr hd he ht) h0 h3 hw
 unfold proj
 rw [this]
 show (some (minF w),0)=_
 rw [hm]
def xL:List Mch:=[xm0,xm1,xm2]
theorem xsys:SysV xL:=by
 refine ⟨⟨by decide,by decide⟩,fun p m h=>?_⟩
 match p,h with
 | 0,h=>cases h; exact ⟨rfl,xm0_vm,fun x hx=>by rcases xm0_mem x hx with rfl | rfl <;> decide⟩
 | 1,h=>cases h; exact ⟨rfl,xm1_vm,fun x hx=>by rcases xm1_mem x hx with rfl | rfl | rfl | rfl | rfl | rfl <;> decide⟩
 | 2,h=>cases h; exact ⟨rfl,xm2_vm,fun x hx=>by rcases xm2_mem x hx with rfl | rfl | rfl | rfl <;> decide⟩
 | n+3,h=>exact absurd h (by simp [xL])
theorem stepsP_of {n:Nat} {k:Int} {S:List Int} {BL:List (List Int)} {p:Nat} {m:Mch} (hD:DetM m) {O:List Nat} (h1:(List.range m.mv.length).filter (posB n k S BL p m)=O) (h2:O.Pairwise fun a b=>¬ evLt (evI m b) (evI m a)):stepsP n k S BL p m=O:=(steps_uniq hD (by rw [h1]) h2).symm
def xB0:List (List Int):=List.replicate 9 []
theorem xsteps0:stepsS xL 1 [0,0,0] xB0=[(0,0),(0,1)]:=by
 have a0:stepsP 3 1 [0,0,0] xB0 0 xm0=[0,1]:=stepsP_of xm0_vm.d (by kernel_rfl) (.cons (fun b hb=>by rw [Ye.1 hb]; show ¬ evLt _ _; unfold evLt; decide) (List.pairwise_singleton _ _))
 have a1:stepsP 3 1 [0,0,0] xB0 1 xm1=[]:=stepsP_of xm1_vm.d (by kernel_rfl) .nil
 have a2:stepsP 3 1 [0,0,0] xB0 2 xm2=[]:=stepsP_of xm2_vm.d (by kernel_rfl) .nil
 show (stepsP 3 1 [0,0,0] xB0 0 xm0).map _++((stepsP 3 1 [0,0,0] xB0 1 xm1).map _++((stepsP 3 1 [0,0,0] xB0 2 xm2).map _++[]))=_
 rw [a0,a1,a2]; rfl
def xB1 (l:Int):List (List Int):=[[],[l],[],[],[],[],[],[],[]]
theorem xsteps1 (l:Nat) (hl:l=0\/l=1):stepsS xL 1 [1,0,0] (xB1 (l:Int))=[(1,l)]:=by
 rcases hl with rfl | rfl
 ·
  have a0:stepsP 3 1 [1,0,0] (xB1 0) 0 xm0=[]:=stepsP_of xm0_vm.d (by kernel_rfl) .nil
  have a1:stepsP 3 1 [1,0,0] (xB1 0) 1 xm1=[0]:=stepsP_of xm1_vm.d (by kernel_rfl) (List.pairwise_singleton _ _)
  have a2:stepsP 3 1 [1,0,0] (xB1 0) 2 xm2=[]:=stepsP_of xm2_vm.d (by kernel_rfl) .nil
  show (stepsP 3 1 [1,0,0] (xB1 0) 0 xm0).map _++((stepsP 3 1 [1,0,0] (xB1 0) 1 xm1).map _++((stepsP 3 1 [1,0,0] (xB1 0) 2 xm2).map _++[]))=_
  rw [a0,a1,a2]; rfl
 ·
  have a0:stepsP 3 1 [1,0,0] (xB1 1) 0 xm0=[]:=stepsP_of xm0_vm.d (by kernel_rfl) .nil
  have a1:stepsP 3 1 [1,0,0] (xB1 1) 1 xm1=[1]:=stepsP_of xm1_vm.d (by kernel_rfl) (List.pairwise_singleton _ _)
  have a2:stepsP 3 1 [1,0,0] (xB1 1) 2 xm2=[]:=stepsP_of xm2_vm.d (by kernel_rfl) .nil
  show (stepsP 3 1 [1,0,0] (xB1 1) 0 xm0).map _++((stepsP 3 1 [1,0,0] (xB1 1) 1 xm1).map _++((stepsP 3 1 [1,0,0] (xB1 1) 2 xm2).map _++[]))=_
  rw [a0,a1,a2]; rfl
end Go.VC
end

section
/- Contract: the laws of layer 27 are awake. (Numbers of layer 27's development dump.) -/
namespace Go.VC
open Go.Proofs Go.LexS
theorem xpro0:ProS xL 1 [0,0,0] xB0:=by
 refine ⟨xsys,⟨by decide,by decide⟩,⟨rfl,rfl,fun p s m h1 h2=>?_,fun i b hb=>?_⟩⟩
 ·
  match p,h1,h2 with
  | 0,h1,h2=>cases h1; cases h2; decide
  | 1,h1,h2=>cases h1; cases h2; decide
  | 2,h1,h2=>cases h1; cases h2; decide
  | n+3,h1,h2=>exact absurd h1 (by simp)
 ·
  have:=List.eq_of_mem_replicate (Yb hb)
  subst this
  exact ⟨by decide,fun _=>rfl,fun x hx=>by cases hx⟩
theorem xpro1:ProS xL 1 [1,0,0] (xB1 0):=by
 refine ⟨xsys,⟨by decide,by decide⟩,⟨rfl,rfl,fun p s m h1 h2=>?_,fun i b hb=>?_⟩⟩
 ·
  match p,h1,h2 with
  | 0,h1,h2=>cases h1; cases h2; decide
  | 1,h1,h2=>cases h1; cases h2; decide
  | 2,h1,h2=>cases h1; cases h2; decide
  | n+3,h1,h2=>exact absurd h1 (by simp)
 ·
  have hm:=Yb hb
  by_cases e:i=1
  ·
   subst e; cases hb; exact ⟨by decide,fun h=>absurd h (by decide),fun x hx=>by rw [Ye.1 hx]; decide⟩
  ·
   have:b=[]:=by
    match i,hb,e with
    | 0,hb,_=>cases hb; rfl
    | 1,_,e=>exact absurd rfl e
    | 2,hb,_=>cases hb; rfl
    | 3,hb,_=>cases hb; rfl
    | 4,hb,_=>cases hb; rfl
    | 5,hb,_=>cases hb; rfl
    | 6,hb,_=>cases hb; rfl
    | 7,hb,_=>cases hb; rfl
    | 8,hb,_=>cases hb; rfl
    | n+9,hb,_=>exact absurd hb (by simp [xB1])
   subst this
   exact ⟨by decide,fun _=>rfl,fun x hx=>by cases hx⟩
theorem xdo:doS xL 1 [0,0,0] xB0 0 0=(0,[1,0,0],xB1 0):=by
 unfold doS
 rw [if_pos xpro0,show mvO xL 0 0=some ⟨0,true,1,0,1,false⟩ from by kernel_rfl]
 show (if canS 3 1 [0,0,0] xB0 0 ⟨0,true,1,0,1,false⟩=0 then _ else _)=_
 rw [if_pos (by kernel_rfl)]
 kernel_rfl
theorem xst0:startS xL=[0,0,0]:=rfl
theorem xbx0:(List.replicate (xL.length*xL.length) bx0).map Bx.l=xB0:=rfl
set_option maxHeartbeats 3200000 in
theorem awake12 (h:Heap) (hx:Gx h):Fn Pz 12 #[] h fun v h'=>v=.bool true/\Ext h h':=by
 apply vc12; unfold W12
 refine (example34 true h).mono ?_
 rintro _ h10 ⟨E10,hr,hd,he,rfl,hg⟩
 refine ⟨_,hr,hd,_,_,_,he,⟨none,0,0⟩,rfl,?_⟩
 refine (all43 (exGl true hr hd he ⟨none,0,0⟩) h10 hg (hx.ext E10) (ex_valid _ _ _ _ _) xL (hg.r.ln.symm) (by decide) (fun i m hi=>?_)).mono ?_
 ·
  match i,hi with
  | 0,hi=>cases hi; exact ⟨xproj _ _ _ _ _ _ _ (by decide) (by decide) (xr0_raw _ _ _ _) xm0_min,by decide,by decide,by decide⟩
  | 1,hi=>cases hi; exact ⟨xproj _ _ _ _ _ _ _ (by decide) (by decide) (xm1_raw _ _ _ _) xm1_min,by decide,by decide,by decide⟩
  | 2,hi=>cases hi; exact ⟨xproj _ _ _ _ _ _ _ (by decide) (by decide) (xm2_raw _ _ _ _) xm2_min,by decide,by decide,by decide⟩
  | n+3,hi=>exact absurd hi (by simp [xL])
 rintro _ h14 ⟨s,L,rfl,E14,hL,hS⟩
 have E0:=E10.trans E14
 refine ⟨s,0,rfl,?_⟩
 refine (start14 L s h14 hS).mono ?_
 rw [hL]
 rintro _ h19 ⟨ss,sb,S,B,e,A,rfl,hs,hM,hok,-⟩
 obtain ⟨rfl,rfl,rfl⟩:=hok xsys
 rw [xst0] at hM
 refine ⟨ss,sb,0,rfl,?_⟩
 refine hs.newput (vs:=[.slice ss.a ss.n ss.c,.slice sb.a sb.n sb.c]) rfl rfl fun h21 hs=>?_
 refine ⟨ss,sb,hs.at 0 rfl (o:=0) (n:=2) rfl,?_⟩
 have hM:=hM.mono (A':=.blk h19.size [.slice ss.a ss.n ss.c,.slice sb.a sb.n sb.c] 29::A) fun i hi=>Yn _ hi
 refine (steps16 L s 1 ss sb _ _ h21 (hS.ext hs.ext) (hM.cfi hs)).mono ?_
 rw [hL,xbx0]
 rintro _ h27 ⟨E27,r,e,l,rfl,hr,hpos,-⟩
 obtain ⟨rfl,rfl⟩:=hpos xpro0
 rw [xsteps0] at hr
 have hs:=hs.step E27
 have hrn:r.n=2:=hr.ln
 refine ⟨r,0,rfl,sB_f rfl (sB_f rfl (sB_f rfl (sB_f (by rw [hrn]; rfl) ?_)))⟩
 refine hr.rw.nbI (by omega) (by omega) fun b o q gq t=>?_
 cases gq
 refine ⟨_,t.hd,sB_f rfl ?_⟩
 refine hr.rw.nbI (by omega) (by omega) fun b o q gq t=>?_
 cases gq
 refine ⟨_,t.hd,sB_f rfl ?_⟩
 refine ⟨ss,sb,hs.at 0 rfl (o:=0) (n:=2) rfl,?_⟩
 refine hr.rw.nbI (by omega) (by omega) fun b o q gq t=>?_
 cases gq
 have hd1:=hL ▸ do27 L s 1 ss sb [0,0,0] (List.replicate (xL.length*xL.length) bx0) 0 0
 rw [xbx0,xdo] at hd1
 refine ⟨_,_,t,And.intro ?_ ?_⟩
 ·
  refine (hd1 h27 (hS.ext hs.ext) (hM.cfi hs)).mono ?_
  rintro _ h44 ⟨ts,tb,T,A2,rfl,hT,hs3,hM2⟩
  have hs:=hs.join hs3
  refine ⟨ts,tb,0,rfl,?_⟩
  refine hs.newbE fun h45 E45 hs=>⟨E45.sm,?_⟩
  refine hs.put 0 rfl (o:=0) (vs:=[.slice ts.a ts.n ts.c,.slice tb.a tb.n tb.c]) rfl (show 2<=2 by decide) fun h46 hs=>?_
  refine ⟨ts,tb,hs.at 0 rfl (o:=0) (n:=2) rfl,?_⟩
  have hM2:=hM2.mono (A':=.blk h44.size [.slice ts.a ts.n ts.c,.slice tb.a tb.n tb.c] 29::((.blk h19.size [.slice ss.a ss.n ss.c,.slice sb.a sb.n sb.c] 29::A)++A2)) fun i hi=>Yn _ (List.mem_append_right _ hi)
  refine (steps16 L s 1 ts tb _ T h46 (hS.ext hs.ext) (hM2.cfi hs)).mono ?_
  rw [hL,hT]
  rintro _ h52 ⟨E52,r2,e2,l2,rfl,hr2,hpos2,-⟩
  obtain ⟨rfl,rfl⟩:=hpos2 xpro1
  rw [show stepsS xL 1 [1,0,0] (xB1 0)=[(1,0)] from xsteps1 0 (.inl rfl)] at hr2
  have hs:=hs.step E52
  have hrn2:r2.n=1:=hr2.ln
  refine ⟨r2,0,rfl,sB_t rfl (sB_t rfl (sB_t (by rw [hrn2]; rfl) ?_))⟩
  refine hr2.rw.nbI (by omega) (by omega) fun b o q gq t=>?_
  cases gq
  refine ⟨_,t.hd,sB_t rfl ?_⟩
  have hC2:=hM2.cfi hs
  have htn:ts.n=3:=hC2.s.ln
  refine ⟨ts,hs.rd 0 rfl (i:=0) rfl,sB_t (by rw [htn]; rfl) ⟨ts,hs.rd 0 rfl (i:=0) rfl,?_⟩⟩
  refine hC2.s.rw.nbI (by omega) (by omega) fun b o q gq t=>?_
  cases gq
  exact ⟨_,t.hd,rfl,E0.trans hs.ext⟩
 ·
  refine hs.newbE fun h61 E61 hs=>⟨E61.sm,?_⟩
  have hM:=hM.mono (A':=.blk h27.size [.slice none 0 0,.slice none 0 0] 29 :: .blk h19.size [.slice ss.a ss.n ss.c,.slice sb.a sb.n sb.c] 29::A) fun i hi=>Yn _ hi
  refine (hd1 h61 (hS.ext hs.ext) (hM.cfi hs)).mono ?_
  rintro _ h44 ⟨ts,tb,T,A2,rfl,hT,hs3,hM2⟩
  have hs:=hs.join hs3
  refine ⟨ts,tb,0,rfl,?_⟩
  refine hs.put 0 rfl (o:=0) (vs:=[.slice ts.a ts.n ts.c,.slice tb.a tb.n tb.c]) rfl (show 2<=2 by decide) fun h46 hs=>?_
  refine ⟨ts,tb,hs.at 0 rfl (o:=0) (n:=2) rfl,?_⟩
  have hM2:=hM2.mono (A':=.blk h27.size [.slice ts.a ts.n ts.c,.slice tb.a tb.n tb.c] 29::((.blk h19.size [.slice ss.a ss.n ss.c,.slice sb.a sb.n sb.c] 29::A)++A2)) fun i hi=>Yn _ (List.mem_append_right _ hi)
  refine (steps16 L s 1 ts tb _ T h46 (hS.ext hs.ext) (hM2.cfi hs)).mono ?_
  rw [hL,hT]
  rintro _ h52 ⟨E52,r2,e2,l2,rfl,hr2,hpos2,-⟩
  obtain ⟨rfl,rfl⟩:=hpos2 xpro1
  rw [show stepsS xL 1 [1,0,0] (xB1 0)=[(1,0)] from xsteps1 0 (.inl rfl)] at hr2
  have hs:=hs.step E52
  have hrn2:r2.n=1:=hr2.ln
  refine ⟨r2,0,rfl,sB_t rfl (sB_t rfl (sB_t (by rw [hrn2]; rfl) ?_))⟩
  refine hr2.rw.nbI (by omega) (by omega) fun b o q gq t=>?_
  cases gq
  refine ⟨_,t.hd,sB_t rfl ?_⟩
  have hC2:=hM2.cfi hs
  have htn:ts.n=3:=hC2.s.ln
  refine ⟨ts,hs.rd 0 rfl (i:=0) rfl,sB_t (by rw [htn]; rfl) ⟨ts,hs.rd 0 rfl (i:=0) rfl,?_⟩⟩
  refine hC2.s.rw.nbI (by omega) (by omega) fun b o q gq t=>?_
  cases gq
  exact ⟨_,t.hd,rfl,E0.trans hs.ext⟩
end Go.VC
end

section
namespace Go.VC
open Go.Proofs

def W3 (p0:Sl) (p1:Int) (p2_1 p2_2:Sl) (h:Heap) (R:Value->Heap->Prop):Prop:=
 (Wn h [vS p2_1,vS p2_2] 26 fun h3=>
 (Fn Pz 12 #[] h3
 (fun v4 h6=>∃ x5,iB v4 x5 /\
 (sB (!x5)
 (R (.bool false) h6)
 ((∃ (x7 x8:Sl),atC h6 (aS h 0) [vS x7,vS x8] /\
 (Fn Pz 13 #[vS p0,.agg ⟨[vS x7,vS x8]⟩] h6
 (fun v9 h11=>∃ x10,iB v9 x10 /\
 (sB (!x10)
 (R (.bool true) h11)
 ((Fn Pz 14 #[vS p0] h11
 (fun v12 h16=>∃ (x13 x14:Sl) (x15:Int),v12=.tuple ⟨[.agg ⟨[vS x13,vS x14]⟩,vI x15]⟩ /\
 (Wn h16 [.slice none 0 0,.slice none 0 0] 29 fun h17=>
 (Wp h17 (aS h16 0) 2 [vS x13,vS x14] fun h18=>
 (Fn Pz 15 #[vS p0] h18
 (fun v19 h23=>∃ (x20 x21:Sl) (x22:Int),v19=.tuple ⟨[.agg ⟨[vS x20,vS x21]⟩,vI x22]⟩ /\
 (Wn h23 [.slice none 0 0,.slice none 0 0] 26 fun h24=>
 (Wp h24 (aS h23 0) 2 [vS x20,vS x21] fun h25=>
 (∃ (x26 x27:Sl),atC h25 (aS h 0) [vS x26,vS x27] /\
 (Fn Pz 17 #[.agg ⟨[vS x26,vS x27]⟩] h25
 (fun v28 h31=>∃ (x29 x30:Sl),v28=.agg ⟨[vS x29,vS x30]⟩ /\
 (Fn Pz 16 #[vS p0,vI p1,.agg ⟨[vS x29,vS x30]⟩] h31
 (fun v32 h35=>∃ (x33:Sl) (x34:Int),v32=.tuple ⟨[vS x33,vI x34]⟩ /\
 (∃ (x36 x37:Sl),atC h35 (aS h 0) [vS x36,vS x37] /\
 (Fn Pz 18 #[vS p0,vI p1,.agg ⟨[vS x36,vS x37]⟩] h35
 (fun v38 h41=>∃ (x39:Sl) (x40:Int),v38=.tuple ⟨[vS x39,vI x40]⟩ /\
 (sB (x15 == x22)
 ((sB (x34 == x40)
 ((∃ (x42 x43:Sl),atC h41 (aS h16 0) [vS x42,vS x43] /\
 (∃ (x44 x45:Sl),atC h41 (aS h23 0) [vS x44,vS x45] /\
 (Fn Pz 19 #[.agg ⟨[vS x42,vS x43]⟩,.agg ⟨[vS x44,vS x45]⟩] h41
 (fun v46 h48=>∃ x47,iB v46 x47 /\
 (sB x47
 ((Fn Pz 21 #[vS x33] h48
 (fun v49 h51=>∃ x50,iS v49 x50 /\
 (Sm [(aS h23 0),(aS h16 0)] h48 h51 /\
 (Fn Pz 20 #[vS x50,vS x39] h51
 (fun v52 h54=>∃ x53,iB v52 x53 /\
 (Sm [(aS h23 0),(aS h16 0)] h51 h54 /\
 (sB x53
 ((Fn Pz 22 #[vS p0] h54
 (fun v55 h57=>∃ x56,iB v55 x56 /\
 (Sm [(aS h23 0),(aS h16 0)] h54 h57 /\
 (Fn Pz 23 #[vS p0] h57
 (fun v58 h60=>∃ x59,iB v58 x59 /\
 (Sm [(aS h23 0),(aS h16 0)] h57 h60 /\
 (sB (x56 == x59)
 ((∃ (x61 x62:Sl),atC h60 (aS h 0) [vS x61,vS x62] /\
 (∃ (x63 x64:Sl),atC h60 (aS h 0) [vS x63,vS x64] /\
 (Fn Pz 17 #[.agg ⟨[vS x61,vS x62]⟩] h60
 (fun v65 h68=>∃ (x66 x67:Sl),v65=.agg ⟨[vS x66,vS x67]⟩ /\
 (Sm [(aS h 0),(aS h23 0),(aS h16 0)] h60 h68 /\
 (Fn Pz 24 #[vS p0,vI p1,.agg ⟨[vS x66,vS x67]⟩] h68
 (fun v69 h71=>∃ x70,iB v69 x70 /\
 (Sm [(aS h 0),(aS h23 0),(aS h16 0)] h68 h71 /\
 (Fn Pz 25 #[vS p0,vI p1,.agg ⟨[vS x63,vS x64]⟩] h71
 (fun v72 h74=>∃ x73,iB v72 x73 /\
 (Sm [(aS h 0),(aS h23 0),(aS h16 0)] h71 h74 /\
 R (.bool (x70 == x73)) h74))))))))))))
 (R (.bool false) h60)))))))))
 (R (.bool false) h54)))))))))
 (R (.bool false) h48)))))))
 (R (.bool false) h41)))
 (R (.bool false) h41))))))))))))))))))))))))))))
end Go.VC
end

section
/- The law ComposeSteps. (Numbers of layer 27's development dump.) -/
namespace Go.VC
open Go.Proofs Go.LexS
end Go.VC
end

section
namespace Go.VC
open Go.Proofs

end Go.VC
end

section
namespace Go.VC
open Go.Proofs

end Go.VC
end

section
/- Contracts: Final on both sides. (Numbers of layer 27's development dump.) -/
namespace Go.VC
open Go.Proofs Go.LexS
end Go.VC
end

section
/- Contract: the reference's Final. (Numbers of layer 27's development dump.) -/
namespace Go.VC
open Go.Proofs Go.LexS
end Go.VC
end

section
namespace Go.VC
open Go.Proofs

def W29 (p0:Sl) (p1_1 p1_2:Int) (h:Heap) (R:Value->Heap->Prop):Prop:=
 (Wn h [vI p1_1,vI p1_2] 57 fun h3=>
 (Wn h3 [vI 0,.bool false,vI 0,vI 0,.slice none 0 0] 66 fun h4=>
 (Fn Pz 22 #[vS p0] h4
 (fun v5 h7=>∃ x6,iB v5 x6 /\
 (sB (!x6)
 ((Wp h7 (aS h3 0) 5 [vI 0,.bool false,vI 0,vI 0,.slice none 0 0] fun h8=>
 (∃ x9 x10 x11 x12 x13,aL4 h8 (aS h3 0) x9 x10 x11 x12 x13 /\
 R (.tuple ⟨[.agg ⟨(L4 x9 x10 x11 x12 x13)⟩,vI 1]⟩) h8)))
 ((∃ (x14 x15:Int),atC h7 (aS h 0) [vI x14,vI x15] /\
 (Fn Pz 57 #[vS p0,.agg ⟨[vI x14,vI x15]⟩] h7
 (fun v16 h24=>∃ (x17:Int) (x18:Bool) (x19 x20 x21:Int) (x22 x23:Bool),v16=.tuple ⟨[.agg ⟨(L0 x17 x18 x19 x20 x21 x22)⟩,.bool x23]⟩ /\
 (Wn h24 [vI 0,.bool false,vI 0,vI 0,vI 0,.bool false] 108 fun h25=>
 (Wp h25 (aS h24 0) 6 (L0 x17 x18 x19 x20 x21 x22) fun h26=>
 (sB (!x23)
 ((Wp h26 (aS h3 0) 5 [vI 0,.bool false,vI 0,vI 0,.slice none 0 0] fun h27=>
 (∃ x28 x29 x30 x31 x32,aL4 h27 (aS h3 0) x28 x29 x30 x31 x32 /\
 R (.tuple ⟨[.agg ⟨(L4 x28 x29 x30 x31 x32)⟩,vI 2]⟩) h27)))
 ((∃ x33,rI h26 (aS h 0) x33 /\
 (∃ x34 x35 x36 x37 x38 x39,aL0 h26 (aS h24 0) x34 x35 x36 x37 x38 x39 /\
 (Fn Pz 62 #[vI x33,.agg ⟨(L0 x34 x35 x36 x37 x38 x39)⟩] h26
 (fun v40 h46=>∃ (x41:Int) (x42:Bool) (x43 x44:Int) (x45:Sl),v40=.agg ⟨(L4 x41 x42 x43 x44 x45)⟩ /\
 (Wp h46 (aS h3 0) 5 (L4 x41 x42 x43 x44 x45) fun h47=>
 (∃ x48 x49 x50 x51 x52,aL4 h47 (aS h3 0) x48 x49 x50 x51 x52 /\
 R (.tuple ⟨[.agg ⟨(L4 x48 x49 x50 x51 x52)⟩,vI 0]⟩) h47)))))))))))))))))))
theorem vc29 (p0:Sl) (p1_1 p1_2:Int) (h:Heap) (R:Value->Heap->Prop) (H:W29 p0 p1_1 p1_2 h R):Fn Pz 29 #[vS p0,.agg ⟨[vI p1_1,vI p1_2]⟩] h R:=fnI (A:=.z) (by kernel_rfl) H

def W62 (p0 p1_1:Int) (p1_2:Bool) (p1_3 p1_4 p1_5:Int) (p1_6:Bool) (h:Heap) (R:Value->Heap->Prop):Prop:=
 (Wn h (L0 p1_1 p1_2 p1_3 p1_4 p1_5 p1_6) 108 fun h7=>
 (Wn h7 [vI 0,.bool false,vI 0,vI 0,.slice none 0 0] 66 fun h8=>
 (∃ x9,rB h8 (aS h 1) x9 /\
 (∃ x10,rI h8 (aS h 2) x10 /\
 (∃ x11,rI h8 (aS h 3) x11 /\
 (Wp h8 (aS h7 0) 5 [vI p0,.bool x9,vI x10,vI x11,.slice none 0 0] fun h12=>
 (∃ x13 x14 x15 x16 x17,aL4 h12 (aS h7 0) x13 x14 x15 x16 x17 /\
 R (.agg ⟨(L4 x13 x14 x15 x16 x17)⟩) h12)))))))
theorem vc62 (p0 p1_1:Int) (p1_2:Bool) (p1_3 p1_4 p1_5:Int) (p1_6:Bool) (h:Heap) (R:Value->Heap->Prop) (H:W62 p0 p1_1 p1_2 p1_3 p1_4 p1_5 p1_6 h R):Fn Pz 62 #[vI p0,.agg ⟨(L0 p1_1 p1_2 p1_3 p1_4 p1_5 p1_6)⟩] h R:=fnI (A:=.z) (by kernel_rfl) H

def W30 (p0:Sl) (p1_1 p1_2:Int) (h:Heap) (R:Value->Heap->Prop):Prop:=
 (Wn h [vI p1_1,vI p1_2] 60 fun h3=>
 (Wn h3 [vI 0,.bool false,vI 0,vI 0,.slice none 0 0] 66 fun h4=>
 (Fn Pz 23 #[vS p0] h4
 (fun v5 h7=>∃ x6,iB v5 x6 /\
 (sB (!x6)
 ((Wp h7 (aS h3 0) 5 [vI 0,.bool false,vI 0,vI 0,.slice none 0 0] fun h8=>
 (∃ x9 x10 x11 x12 x13,aL4 h8 (aS h3 0) x9 x10 x11 x12 x13 /\
 R (.tuple ⟨[.agg ⟨(L4 x9 x10 x11 x12 x13)⟩,vI 1]⟩) h8)))
 ((∃ x14,rI h7 (aS h 0) x14 /\
 (sB (decide (x14<0))
 ((Wp h7 (aS h3 0) 5 [vI 0,.bool false,vI 0,vI 0,.slice none 0 0] fun h15=>
 (∃ x16 x17 x18 x19 x20,aL4 h15 (aS h3 0) x16 x17 x18 x19 x20 /\
 R (.tuple ⟨[.agg ⟨(L4 x16 x17 x18 x19 x20)⟩,vI 2]⟩) h15)))
 ((∃ x21,rI h7 (aS h 0) x21 /\
 (sB (decide (x21 >= (p0.n:Int)))
 ((Wp h7 (aS h3 0) 5 [vI 0,.bool false,vI 0,vI 0,.slice none 0 0] fun h22=>
 (∃ x23 x24 x25 x26 x27,aL4 h22 (aS h3 0) x23 x24 x25 x26 x27 /\
 R (.tuple ⟨[.agg ⟨(L4 x23 x24 x25 x26 x27)⟩,vI 2]⟩) h22)))
 ((∃ x28,rI h7 (aS h 1) x28 /\
 (sB (decide (x28<0))
 ((Wp h7 (aS h3 0) 5 [vI 0,.bool false,vI 0,vI 0,.slice none 0 0] fun h29=>
 (∃ x30 x31 x32 x33 x34,aL4 h29 (aS h3 0) x30 x31 x32 x33 x34 /\
 R (.tuple ⟨[.agg ⟨(L4 x30 x31 x32 x33 x34)⟩,vI 2]⟩) h29)))
 ((∃ x35,rI h7 (aS h 1) x35 /\
 (∃ x36,rI h7 (aS h 0) x36 /\
 (NB p0.a fun b37 o38=>(Ib x36 p0.n /\
 (∃ x39,rS h7 ⟨b37,o38+Int.toNat x36*6+4,none⟩ x39 /\
 (sB (decide (x35 >= (x39.n:Int)))
 ((Wp h7 (aS h3 0) 5 [vI 0,.bool false,vI 0,vI 0,.slice none 0 0] fun h40=>
 (∃ x41 x42 x43 x44 x45,aL4 h40 (aS h3 0) x41 x42 x43 x44 x45 /\
 R (.tuple ⟨[.agg ⟨(L4 x41 x42 x43 x44 x45)⟩,vI 2]⟩) h40)))
 ((∃ x46,rI h7 (aS h 0) x46 /\
 (NB p0.a fun b47 o48=>(Ib x46 p0.n /\
 (∃ x49,rS h7 ⟨b47,o48+Int.toNat x46*6+4,none⟩ x49 /\
 (∃ x50,rI h7 (aS h 1) x50 /\
 (NB x49.a fun b51 o52=>(Ib x50 x49.n /\
 (∃ x53 x54 x55 x56 x57 x58,aL0 h7 ⟨b51,o52+Int.toNat x50*6,none⟩ x53 x54 x55 x56 x57 x58 /\
 (Wn h7 [vI 0,.bool false,vI 0,vI 0,vI 0,.bool false] 108 fun h59=>
 (Sm [⟨b51,o52+Int.toNat x50*6,none⟩,(aS h 1),⟨b47,o48+Int.toNat x46*6+4,none⟩,(aS h 0)] h7 h59 /\
 (Wp h59 (aS h7 0) 6 (L0 x53 x54 x55 x56 x57 x58) fun h60=>
 (∃ x61,rI h60 (aS h 0) x61 /\
 (∃ x62,rB h60 (aS h7 1) x62 /\
 (∃ x63,rI h60 (aS h7 2) x63 /\
 (∃ x64,rI h60 (aS h7 3) x64 /\
 (Wp h60 (aS h3 0) 5 [vI x61,.bool x62,vI x63,vI x64,.slice none 0 0] fun h65=>
 (∃ x66 x67 x68 x69 x70,aL4 h65 (aS h3 0) x66 x67 x68 x69 x70 /\
 R (.tuple ⟨[.agg ⟨(L4 x66 x67 x68 x69 x70)⟩,vI 0]⟩) h65)))))))))))))))))))))))))))))))))))))))
theorem vc30 (p0:Sl) (p1_1 p1_2:Int) (h:Heap) (R:Value->Heap->Prop) (H:W30 p0 p1_1 p1_2 h R):Fn Pz 30 #[vS p0,.agg ⟨[vI p1_1,vI p1_2]⟩] h R:=fnI (A:=.z) (by kernel_rfl) H

def W31 (p0_1:Int) (p0_2:Bool) (p0_3 p0_4:Int) (p0_5:Sl) (p1_6:Int) (p1_7:Bool) (p1_8 p1_9:Int) (p1_10:Sl) (h:Heap) (R:Value->Heap->Prop):Prop:=
 (Wn h (L4 p0_1 p0_2 p0_3 p0_4 p0_5) 66 fun h11=>
 (Wn h11 (L4 p1_6 p1_7 p1_8 p1_9 p1_10) 66 fun h12=>
 (∃ x13,rI h12 (aS h 0) x13 /\
 (∃ x14,rI h12 (aS h11 0) x14 /\
 (sB (x13 == x14)
 ((∃ x15,rB h12 (aS h 1) x15 /\
 (∃ x16,rB h12 (aS h11 1) x16 /\
 (sB (x15 == x16)
 ((∃ x17,rI h12 (aS h 2) x17 /\
 (∃ x18,rI h12 (aS h11 2) x18 /\
 (sB (x17 == x18)
 ((∃ x19,rI h12 (aS h 3) x19 /\
 (∃ x20,rI h12 (aS h11 3) x20 /\
 R (.bool (x19 == x20)) h12)))
 (R (.bool false) h12)))))
 (R (.bool false) h12)))))
 (R (.bool false) h12))))))
theorem vc31 (p0_1:Int) (p0_2:Bool) (p0_3 p0_4:Int) (p0_5:Sl) (p1_6:Int) (p1_7:Bool) (p1_8 p1_9:Int) (p1_10:Sl) (h:Heap) (R:Value->Heap->Prop) (H:W31 p0_1 p0_2 p0_3 p0_4 p0_5 p1_6 p1_7 p1_8 p1_9 p1_10 h R):Fn Pz 31 #[.agg ⟨(L4 p0_1 p0_2 p0_3 p0_4 p0_5)⟩,.agg ⟨(L4 p1_6 p1_7 p1_8 p1_9 p1_10)⟩] h R:=fnI (A:=.z) (by kernel_rfl) H

end Go.VC
end

section
/- Contracts: Event on both sides. (Numbers of layer 27's development dump.) -/
namespace Go.VC
open Go.Proofs Go.LexS
def evC (e:Int × Bool × Int × Int):List Value:=[.int .i64 e.1,.bool e.2.1,.int .i64 e.2.2.1,.int .i64 e.2.2.2,.slice none 0 0]
def ev00:Int × Bool × Int × Int:=(0,false,0,0)
open Classical in
noncomputable def evS (L:List Mch) (r i:Int):Int × (Int × Bool × Int × Int):=
 if SysV L then match mvO L r i with
  | none=>(2,ev00)
  | some x=>(0,(r,x.send,x.peer,x.label))
 else (1,ev00)
def EvV (o:Int × (Int × Bool × Int × Int)):Value:=.tuple ⟨[.agg ⟨evC o.2⟩,.int .i64 o.1]⟩
theorem event62 (r:Int) (x:Mv) (h:Heap):Fn Pz 62 #[.int .i64 r,.agg ⟨x.cs⟩] h fun v h'=>v=.agg ⟨evC (r,x.send,x.peer,x.label)⟩/\Ext h h':=by
 apply vc62 r x.f x.send x.peer x.label x.t x.ag; unfold W62
 refine (St.refl h).newb fun h7 hs=>?_
 refine hs.newb fun h8 hs=>?_
 refine ⟨_,hs.rd 1 rfl (i:=1) rfl,_,hs.rd 1 rfl (i:=2) rfl,_,hs.rd 1 rfl (i:=3) rfl,?_⟩
 refine hs.put 0 rfl (o:=0) (vs:=evC (r,x.send,x.peer,x.label)) rfl (show 5<=5 by decide) fun h12 hs=>?_
 exact ⟨_,_,_,_,⟨none,0,0⟩,hs.at 0 rfl (o:=0) (n:=5) rfl,rfl,hs.ext⟩
theorem event29 (L:List MR) (s:Sl) (r i:Int) (h:Heap) (hS:SyI h s L) :
  Fn Pz 29 #[.slice s.a s.n s.c,.agg ⟨[.int .i64 r,.int .i64 i]⟩] h fun v h'=>v=EvV (evS (L.map MR.m) r i)/\Ext h h':=by
 apply vc29 s r i; unfold W29
 refine (St.refl h).newb fun h3 hs=>?_
 refine hs.newb fun h4 hs=>?_
 refine (valid22 L s h4 (hS.ext hs.ext)).mono ?_
 rintro _ h7 ⟨⟨b,rfl,hb⟩,E⟩
 have hs:=hs.step E
 refine ⟨_,rfl,sB_intro (fun c=>?_) (fun c=>?_)⟩
 ·
  have hn:¬ SysV (L.map MR.m):=fun hp=>by rw [hb.2 hp] at c; cases c
  refine hs.put 0 rfl (o:=0) (vs:=evC ev00) rfl (show 5<=5 by decide) fun h12 hs=>?_
  exact ⟨_,_,_,_,⟨none,0,0⟩,hs.at 0 rfl (o:=0) (n:=5) rfl,by unfold evS; rw [if_neg hn]; rfl,hs.ext⟩
 have hV:=hb.1 (bT c)
 refine ⟨r,i,hs.at 1 rfl (o:=0) (n:=2) rfl,?_⟩
 refine (move57 L s r i h7 (hS.ext hs.ext)).mono ?_
 rintro v h24 ⟨hv,E⟩
 have hs:=hs.step E
 cases hmo:mvO (L.map MR.m) r i with
 | none=>
  rw [hmo] at hv; subst hv
  refine ⟨_,_,_,_,_,_,false,rfl,?_⟩
  refine hs.newput (vs:=mv00.cs) rfl rfl fun h28 hs=>sB_t rfl ?_
  refine hs.put 1 rfl (o:=0) (vs:=evC ev00) rfl (show 5<=5 by decide) fun h29 hs=>?_
  exact ⟨_,_,_,_,⟨none,0,0⟩,hs.at 1 rfl (o:=0) (n:=5) rfl,by unfold evS; rw [if_pos hV,hmo]; rfl,hs.ext⟩
 | some x=>
  rw [hmo] at hv; subst hv
  refine ⟨x.f,x.send,x.peer,x.label,x.t,x.ag,true,rfl,?_⟩
  refine hs.newput (vs:=x.cs) rfl rfl fun h28 hs=>sB_f rfl ?_
  refine ⟨r,hs.rd 2 rfl (i:=0) rfl,x.f,x.send,x.peer,x.label,x.t,x.ag,hs.at 0 rfl (o:=0) (n:=6) rfl,?_⟩
  refine (event62 r x h28).mono ?_
  rintro _ h46 ⟨rfl,E⟩
  have hs:=hs.step E
  refine ⟨_,_,_,_,⟨none,0,0⟩,rfl,?_⟩
  refine hs.put 1 rfl (o:=0) (vs:=evC (r,x.send,x.peer,x.label)) rfl (show 5<=5 by decide) fun h47 hs=>?_
  exact ⟨_,_,_,_,⟨none,0,0⟩,hs.at 1 rfl (o:=0) (n:=5) rfl,by unfold evS; rw [if_pos hV,hmo]; rfl,hs.ext⟩
theorem sameEv31 (e f:Int × Bool × Int × Int) (h:Heap):Fn Pz 31 #[.agg ⟨evC e⟩,.agg ⟨evC f⟩] h (RP (e=f) h):=by
 obtain ⟨e1,e2,e3,e4⟩:=e
 obtain ⟨f1,f2,f3,f4⟩:=f
 apply vc31 e1 e2 e3 e4 ⟨none,0,0⟩ f1 f2 f3 f4 ⟨none,0,0⟩; unfold W31
 refine (St.refl h).newb fun h11 hs=>?_
 refine hs.newb fun h12 hs=>?_
 refine ⟨_,hs.rd 1 rfl (i:=0) rfl,_,hs.rd 0 rfl (i:=0) rfl,sB_intro (fun c=>?_) (fun c=>RP.f (fun e=>by cases e; rw [beq_self_eq_true] at c; cases c) hs.ext)⟩
 refine ⟨_,hs.rd 1 rfl (i:=1) rfl,_,hs.rd 0 rfl (i:=1) rfl,sB_intro (fun c2=>?_) (fun c=>RP.f (fun e=>by cases e; rw [beq_self_eq_true] at c; cases c) hs.ext)⟩
 refine ⟨_,hs.rd 1 rfl (i:=2) rfl,_,hs.rd 0 rfl (i:=2) rfl,sB_intro (fun c3=>?_) (fun c=>RP.f (fun e=>by cases e; rw [beq_self_eq_true] at c; cases c) hs.ext)⟩
 refine ⟨_,hs.rd 1 rfl (i:=3) rfl,_,hs.rd 0 rfl (i:=3) rfl,RP.e ?_ hs.ext⟩
 rw [beq_iff_eq] at c c2 c3 ⊢
 cases c; cases c2; cases c3
 exact ⟨fun e=>by rw [e],fun e=>by cases e; rfl⟩
end Go.VC
end

section
/- Contract: the reference's Event. (Numbers of layer 27's development dump.) -/
namespace Go.VC
open Go.Proofs Go.LexS
set_option maxHeartbeats 1600000 in
theorem refEvent30 (L:List MR) (s:Sl) (r i:Int) (h:Heap) (hS:SyI h s L) :
  Fn Pz 30 #[.slice s.a s.n s.c,.agg ⟨[.int .i64 r,.int .i64 i]⟩] h fun v h'=>v=EvV (evS (L.map MR.m) r i)/\Ext h h':=by
 apply vc30 s r i; unfold W30
 have hn:=hS.r.ln
 have hlm:(L.map MR.m).length=L.length:=Yc _
 refine (St.refl h).newb fun h3 hs=>?_
 refine hs.newb fun h4 hs=>?_
 refine (refSys23 L s h4 (hS.ext hs.ext)).mono ?_
 rintro _ h7 ⟨⟨b,rfl,hb⟩,E⟩
 have hs:=hs.step E
 refine ⟨_,rfl,sB_intro (fun c=>?_) (fun c=>?_)⟩
 ·
  have hn:¬ SysV (L.map MR.m):=fun hp=>by rw [hb.2 hp] at c; cases c
  refine hs.put 0 rfl (o:=0) (vs:=evC ev00) rfl (show 5<=5 by decide) fun h12 hs=>?_
  exact ⟨_,_,_,_,⟨none,0,0⟩,hs.at 0 rfl (o:=0) (n:=5) rfl,by unfold evS; rw [if_neg hn]; rfl,hs.ext⟩
 have hV:=hb.1 (bT c)
 have no:mvO (L.map MR.m) r i=none->∀ {h5:Heap},St h h5 [.blk h3.size (evC ev00) 66,.blk h.size [.int .i64 r,.int .i64 i] 60]->(okAt h5 ⟨h3.size,0,none⟩ 5/\∀ h8:Heap,h8=hputs h5 ⟨h3.size,0,none⟩ 0 [.int .i64 0,.bool false,.int .i64 0,.int .i64 0,.slice none 0 0] -> 
  (∃ x9:Int,∃ x10:Bool,∃ x11:Int,∃ x12:Int,∃ x13:Sl,atC h8 ⟨h3.size,0,none⟩ [.int .i64 x9,.bool x10,.int .i64 x11,.int .i64 x12,.slice x13.a x13.n x13.c] /\ 
  (Value.tuple ⟨[.agg ⟨[.int .i64 x9,.bool x10,.int .i64 x11,.int .i64 x12,.slice x13.a x13.n x13.c]⟩,.int .i64 2]⟩=EvV (evS (L.map MR.m) r i)/\Ext h h8))):=fun e {h5} hs=>by
  refine hs.put 0 rfl (o:=0) (vs:=evC ev00) rfl (show 5<=5 by decide) fun h6 hs=>?_
  exact ⟨_,_,_,_,⟨none,0,0⟩,hs.at 0 rfl (o:=0) (n:=5) rfl,by unfold evS; rw [if_pos hV,e]; rfl,hs.ext⟩
 refine ⟨_,hs.rd 1 rfl (i:=0) rfl,sBi (fun c=>no (by unfold mvO; rw [if_pos (.inl c)]) hs) (fun c1=>?_)⟩
 refine ⟨_,hs.rd 1 rfl (i:=0) rfl,sBi (fun c=>no (by unfold mvO; rw [if_pos (.inr (by omega))]) hs) (fun c2=>?_)⟩
 obtain ⟨p,rfl⟩:∃ p:Nat,r=(p:Int):=⟨r.toNat,by omega⟩
 have hp:p<L.length:=by omega
 obtain ⟨y,gy⟩:=get_some (l:=L) (i:=p) hp
 have gm:(L.map MR.m)[p]?=some y.m:=by rw [Yd,gy]; rfl
 have hmv:mvO (L.map MR.m) (p:Int) i=if i<0\/(y.m.mv.length:Int)<=i then none else y.m.mv[i.toNat]?:=by
  unfold mvO; rw [if_neg (by omega),Ys,gm]
 have hyi:=hS.i y (Yb gy)
 have hgn:=hyi.pm.ln
 refine ⟨_,hs.rd 1 rfl (i:=1) rfl,sBi (fun c=>no (by rw [hmv,if_pos (.inl c)]) hs) (fun c3=>?_)⟩
 refine ⟨_,hs.rd 1 rfl (i:=1) rfl,_,hs.rd 1 rfl (i:=0) rfl,?_⟩
 have rdL:∀ {F:Nat->Nat->Prop} {h':Heap},Ext h h'->(∀ b o,atC h' ⟨b,o+p*6,none⟩ y.cs->F b o)->NB s.a fun b o=>(0<=(p:Int)/\(p:Int)<(s.n:Nat))/\F b o:=fun {F h'} E hF=>(hS.r.rw.ext E).nbI (by omega) (by omega) fun b o y' gy' t=>by
  rw [Ys] at gy' t
  replace gy':L[p]?=some y':=gy'
  rw [gy] at gy'; cases gy'
  exact hF b o t
 refine rdL hs.ext fun b1 o1 t1=>?_
 refine ⟨y.g,t1.nth 4 rfl,sBi (fun c=>no (by rw [hmv,if_pos (.inr (by omega))]) hs) (fun c4=>?_)⟩
 obtain ⟨j,rfl⟩:∃ j:Nat,i=(j:Int):=⟨i.toNat,by omega⟩
 obtain ⟨x,gx⟩:=get_some (l:=y.m.mv) (i:=j) (by omega)
 refine ⟨_,hs.rd 1 rfl (i:=0) rfl,rdL hs.ext fun b2 o2 t2=>?_⟩
 refine ⟨y.g,t2.nth 4 rfl,_,hs.rd 1 rfl (i:=1) rfl,?_⟩
 refine (hyi.pm.rw.ext hs.ext).nbI (by omega) (by omega) fun b3 o3 x' gx' t3=>?_
 rw [Ys] at gx'
 replace gx':y.m.mv[j]?=some x':=gx'
 rw [gx] at gx'; cases gx'
 refine ⟨_,_,_,_,_,_,t3,?_⟩
 refine hs.newbE fun h59 E59 hs=>⟨E59.sm,?_⟩
 refine hs.put 0 rfl (o:=0) (vs:=x.cs) rfl (show 6<=6 by decide) fun h60 hs=>?_
 refine ⟨_,hs.rd 2 rfl (i:=0) rfl,_,hs.rd 0 rfl (i:=1) rfl,_,hs.rd 0 rfl (i:=2) rfl,_,hs.rd 0 rfl (i:=3) rfl,?_⟩
 refine hs.put 1 rfl (o:=0) (vs:=evC ((p:Int),x.send,x.peer,x.label)) rfl (show 5<=5 by decide) fun h65 hs=>?_
 refine ⟨_,_,_,_,⟨none,0,0⟩,hs.at 1 rfl (o:=0) (n:=5) rfl,?_,hs.ext⟩
 unfold evS
 rw [if_pos hV,hmv,if_neg (by omega),Ys,gx]
 rfl
end Go.VC
end

section
/- Contract: the tail that the orders of the reference's Next share (printed by mkwju.py). -/
namespace Go.VC
open Go.Proofs Go.LexS
def tailN (p0:Sl) (ob b0 b5 b6 b7:Nat) (h0:Heap) (R:Value->Heap->Prop):Prop:=
 (∃ x33:Sl,hc h0 ⟨ob,0,none⟩=some (.slice x33.a x33.n x33.c) /\ 
 (∃ x34:Int,hc h0 ⟨b5,0,none⟩=some (.int .i64 x34) /\ 
 (∃ x35:Int,hc h0 ⟨b7,4,none⟩=some (.int .i64 x35) /\ 
 (NB x33.a fun b36 o37=>((0<=(x34:Int)/\(x34:Int)<(x33.n:Nat)) /\ 
 (okAt h0 ⟨b36,o37+Int.toNat x34*1,none⟩ 1/\∀ h38:Heap,h38=hputs h0 ⟨b36,o37+Int.toNat x34*1,none⟩ 0 [.int .i64 x35] -> 
 (∃ x39:Bool,hc h38 ⟨b7,1,none⟩=some (.bool x39) /\ 
 (sB x39 
  ((∃ x40:Int,hc h38 ⟨b5,0,none⟩=some (.int .i64 x40) /\ 
  (∃ x41:Int,hc h38 ⟨b7,2,none⟩=some (.int .i64 x41) /\ 
  (∃ x42:Sl,hc h38 ⟨ob,1,none⟩=some (.slice x42.a x42.n x42.c) /\ 
  (∃ x43:Sl,hc h38 ⟨b0,1,none⟩=some (.slice x43.a x43.n x43.c) /\ 
  (NB x43.a fun b44 o45=>((0<=((IntKind.wrap .i64 ((IntKind.wrap .i64 ((p0.n:Int)*x40))+x41)):Int)/\((IntKind.wrap .i64 ((IntKind.wrap .i64 ((p0.n:Int)*x40))+x41)):Int)<(x43.n:Nat)) /\ 
  (∃ x46:Sl,hc h38 ⟨b44,o45+Int.toNat (IntKind.wrap .i64 ((IntKind.wrap .i64 ((p0.n:Int)*x40))+x41))*1,none⟩=some (.slice x46.a x46.n x46.c) /\ 
  (∃ x47:Int,hc h38 ⟨b7,3,none⟩=some (.int .i64 x47) /\ 
  ((∀ h48:Heap,h48=h38.push (.cells ⟨[]⟩ 3) -> 
  (Sm [⟨b7,3,none⟩,⟨b44,o45+Int.toNat (IntKind.wrap .i64 ((IntKind.wrap .i64 ((p0.n:Int)*x40))+x41))*1,none⟩,⟨b0,1,none⟩,⟨ob,1,none⟩] h38 h48 /\ 
  ((App Pz 23 23 (.slice (some ⟨h38.size,0,none⟩) 0 0) (.slice x46.a x46.n x46.c) h48 fun s49 h50=>
  (Sm [⟨b7,3,none⟩,⟨ob,1,none⟩] h48 h50 /\ 
  (∀ h51:Heap,h51=h50.push (.cells ⟨[.int .i64 x47]⟩ 3) -> 
  (Sm [⟨b44,o45+Int.toNat (IntKind.wrap .i64 ((IntKind.wrap .i64 ((p0.n:Int)*x40))+x41))*1,none⟩,⟨b0,1,none⟩,⟨ob,1,none⟩] h50 h51 /\ 
  (App Pz 23 23 (.slice s49.a s49.n s49.c) (.slice (some ⟨h50.size,0,none⟩) 1 1) h51 fun s52 h53=>
  (Sm [⟨ob,1,none⟩] h51 h53 /\ 
  (NB x42.a fun b54 o55=>((0<=((IntKind.wrap .i64 ((IntKind.wrap .i64 ((p0.n:Int)*x40))+x41)):Int)/\((IntKind.wrap .i64 ((IntKind.wrap .i64 ((p0.n:Int)*x40))+x41)):Int)<(x42.n:Nat)) /\ 
  (okAt h53 ⟨b54,o55+Int.toNat (IntKind.wrap .i64 ((IntKind.wrap .i64 ((p0.n:Int)*x40))+x41))*1,none⟩ 1/\∀ h56:Heap,h56=hputs h53 ⟨b54,o55+Int.toNat (IntKind.wrap .i64 ((IntKind.wrap .i64 ((p0.n:Int)*x40))+x41))*1,none⟩ 0 [.slice s52.a s52.n s52.c] -> 
  (∃ x57:Sl,∃ x58:Sl,atC h56 ⟨ob,0,none⟩ [.slice x57.a x57.n x57.c,.slice x58.a x58.n x58.c] /\ 
  (okAt h56 ⟨b6,0,none⟩ 2/\∀ h59:Heap,h59=hputs h56 ⟨b6,0,none⟩ 0 [.slice x57.a x57.n x57.c,.slice x58.a x58.n x58.c] -> 
  (∃ x60:Sl,∃ x61:Sl,atC h59 ⟨b6,0,none⟩ [.slice x60.a x60.n x60.c,.slice x61.a x61.n x61.c] /\ 
  R (.agg ⟨[.slice x60.a x60.n x60.c,.slice x61.a x61.n x61.c]⟩) h59)))))))))))))/\((∀ h62:Heap,h62=h48.push (.cells ⟨[.int .i64 x47]⟩ 3) -> 
  (Sm [⟨b44,o45+Int.toNat (IntKind.wrap .i64 ((IntKind.wrap .i64 ((p0.n:Int)*x40))+x41))*1,none⟩,⟨b0,1,none⟩,⟨ob,1,none⟩] h48 h62 /\ 
  (App Pz 23 23 (.slice (some ⟨h38.size,0,none⟩) 0 0) (.slice x46.a x46.n x46.c) h62 fun s63 h64=>
  (Sm [⟨b7,3,none⟩,⟨ob,1,none⟩] h62 h64 /\ 
  (App Pz 23 23 (.slice s63.a s63.n s63.c) (.slice (some ⟨h48.size,0,none⟩) 1 1) h64 fun s65 h66=>
  (Sm [⟨ob,1,none⟩] h64 h66 /\ 
  (NB x42.a fun b67 o68=>((0<=((IntKind.wrap .i64 ((IntKind.wrap .i64 ((p0.n:Int)*x40))+x41)):Int)/\((IntKind.wrap .i64 ((IntKind.wrap .i64 ((p0.n:Int)*x40))+x41)):Int)<(x42.n:Nat)) /\ 
  (okAt h66 ⟨b67,o68+Int.toNat (IntKind.wrap .i64 ((IntKind.wrap .i64 ((p0.n:Int)*x40))+x41))*1,none⟩ 1/\∀ h69:Heap,h69=hputs h66 ⟨b67,o68+Int.toNat (IntKind.wrap .i64 ((IntKind.wrap .i64 ((p0.n:Int)*x40))+x41))*1,none⟩ 0 [.slice s65.a s65.n s65.c] -> 
  (∃ x70:Sl,∃ x71:Sl,atC h69 ⟨ob,0,none⟩ [.slice x70.a x70.n x70.c,.slice x71.a x71.n x71.c] /\ 
  (okAt h69 ⟨b6,0,none⟩ 2/\∀ h72:Heap,h72=hputs h69 ⟨b6,0,none⟩ 0 [.slice x70.a x70.n x70.c,.slice x71.a x71.n x71.c] -> 
  (∃ x73:Sl,∃ x74:Sl,atC h72 ⟨b6,0,none⟩ [.slice x73.a x73.n x73.c,.slice x74.a x74.n x74.c] /\ 
  R (.agg ⟨[.slice x73.a x73.n x73.c,.slice x74.a x74.n x74.c]⟩) h72))))))))))))))))/\((∀ h75:Heap,h75=h38.push (.cells ⟨[.int .i64 x47]⟩ 3) -> 
  (Sm [⟨b44,o45+Int.toNat (IntKind.wrap .i64 ((IntKind.wrap .i64 ((p0.n:Int)*x40))+x41))*1,none⟩,⟨b0,1,none⟩,⟨ob,1,none⟩] h38 h75 /\ 
  (∀ h76:Heap,h76=h75.push (.cells ⟨[]⟩ 3) -> 
  (Sm [⟨b7,3,none⟩,⟨b44,o45+Int.toNat (IntKind.wrap .i64 ((IntKind.wrap .i64 ((p0.n:Int)*x40))+x41))*1,none⟩,⟨b0,1,none⟩,⟨ob,1,none⟩] h75 h76 /\ 
  (App Pz 23 23 (.slice (some ⟨h75.size,0,none⟩) 0 0) (.slice x46.a x46.n x46.c) h76 fun s77 h78=>
  (Sm [⟨b7,3,none⟩,⟨ob,1,none⟩] h76 h78 /\ 
  (App Pz 23 23 (.slice s77.a s77.n s77.c) (.slice (some ⟨h38.size,0,none⟩) 1 1) h78 fun s79 h80=>
  (Sm [⟨ob,1,none⟩] h78 h80 /\ 
  (NB x42.a fun b81 o82=>((0<=((IntKind.wrap .i64 ((IntKind.wrap .i64 ((p0.n:Int)*x40))+x41)):Int)/\((IntKind.wrap .i64 ((IntKind.wrap .i64 ((p0.n:Int)*x40))+x41)):Int)<(x42.n:Nat)) /\ 
  (okAt h80 ⟨b81,o82+Int.toNat (IntKind.wrap .i64 ((IntKind.wrap .i64 ((p0.n:Int)*x40))+x41))*1,none⟩ 1/\∀ h83:Heap,h83=hputs h80 ⟨b81,o82+Int.toNat (IntKind.wrap .i64 ((IntKind.wrap .i64 ((p0.n:Int)*x40))+x41))*1,none⟩ 0 [.slice s79.a s79.n s79.c] -> 
  (∃ x84:Sl,∃ x85:Sl,atC h83 ⟨ob,0,none⟩ [.slice x84.a x84.n x84.c,.slice x85.a x85.n x85.c] /\ 
  (okAt h83 ⟨b6,0,none⟩ 2/\∀ h86:Heap,h86=hputs h83 ⟨b6,0,none⟩ 0 [.slice x84.a x84.n x84.c,.slice x85.a x85.n x85.c] -> 
  (∃ x87:Sl,∃ x88:Sl,atC h86 ⟨b6,0,none⟩ [.slice x87.a x87.n x87.c,.slice x88.a x88.n x88.c] /\ 
  R (.agg ⟨[.slice x87.a x87.n x87.c,.slice x88.a x88.n x88.c]⟩) h86)))))))))))))))))))))))) 
  ((∃ x89:Int,hc h38 ⟨b7,2,none⟩=some (.int .i64 x89) /\ 
  (∃ x90:Int,hc h38 ⟨b5,0,none⟩=some (.int .i64 x90) /\ 
  (∃ x91:Sl,hc h38 ⟨ob,1,none⟩=some (.slice x91.a x91.n x91.c) /\ 
  (∃ x92:Sl,hc h38 ⟨b0,1,none⟩=some (.slice x92.a x92.n x92.c) /\ 
  (NB x92.a fun b93 o94=>((0<=((IntKind.wrap .i64 ((IntKind.wrap .i64 ((p0.n:Int)*x89))+x90)):Int)/\((IntKind.wrap .i64 ((IntKind.wrap .i64 ((p0.n:Int)*x89))+x90)):Int)<(x92.n:Nat)) /\ 
  (∃ x95:Sl,hc h38 ⟨b93,o94+Int.toNat (IntKind.wrap .i64 ((IntKind.wrap .i64 ((p0.n:Int)*x89))+x90))*1,none⟩=some (.slice x95.a x95.n x95.c) /\ 
  (((0:Int)<=(1:Int)/\(1:Int)<=((x95.n:Nat):Int)/\((x95.n:Nat):Int)<=(x95.c:Nat)) /\ 
  (∀ h96:Heap,h96=h38.push (.cells ⟨[]⟩ 3) -> 
  (Sm [⟨b93,o94+Int.toNat (IntKind.wrap .i64 ((IntKind.wrap .i64 ((p0.n:Int)*x89))+x90))*1,none⟩,⟨b0,1,none⟩,⟨ob,1,none⟩] h38 h96 /\ 
  (App Pz 23 23 (.slice (some ⟨h38.size,0,none⟩) 0 0) (.slice (subA x95.a (Int.toNat 1) x95.c 1) (Int.toNat (x95.n:Nat) - Int.toNat 1) (x95.c - Int.toNat 1)) h96 fun s97 h98=>
  (Sm [⟨ob,1,none⟩] h96 h98 /\ 
  (NB x91.a fun b99 o100=>((0<=((IntKind.wrap .i64 ((IntKind.wrap .i64 ((p0.n:Int)*x89))+x90)):Int)/\((IntKind.wrap .i64 ((IntKind.wrap .i64 ((p0.n:Int)*x89))+x90)):Int)<(x91.n:Nat)) /\ 
  (okAt h98 ⟨b99,o100+Int.toNat (IntKind.wrap .i64 ((IntKind.wrap .i64 ((p0.n:Int)*x89))+x90))*1,none⟩ 1/\∀ h101:Heap,h101=hputs h98 ⟨b99,o100+Int.toNat (IntKind.wrap .i64 ((IntKind.wrap .i64 ((p0.n:Int)*x89))+x90))*1,none⟩ 0 [.slice s97.a s97.n s97.c] -> 
  (∃ x102:Sl,∃ x103:Sl,atC h101 ⟨ob,0,none⟩ [.slice x102.a x102.n x102.c,.slice x103.a x103.n x103.c] /\ 
  (okAt h101 ⟨b6,0,none⟩ 2/\∀ h104:Heap,h104=hputs h101 ⟨b6,0,none⟩ 0 [.slice x102.a x102.n x102.c,.slice x103.a x103.n x103.c] -> 
  (∃ x105:Sl,∃ x106:Sl,atC h104 ⟨b6,0,none⟩ [.slice x105.a x105.n x105.c,.slice x106.a x106.n x106.c] /\ 
  R (.agg ⟨[.slice x105.a x105.n x105.c,.slice x106.a x106.n x106.c]⟩) h104)))))))))))))))))))))))))))
theorem Sm_two {a b:Addr} {h h':Heap} (h1:Sm [a] h h') (h2:Sm [b] h h'):Sm [a,b] h h':=fun x hx k v hv=>by
 rcases Yr.1 hx with rfl | hx
 ·
  exact h1 _ Yx k v hv
 ·
  exact h2 _ hx k v hv
theorem Rw.tail1 {h:Heap} {s:Sl} {row:List Value} {rows:List (List Value)} (hr:Rw h 1 s (row::rows)) (hc:s.n<=s.c) (h1:1<=s.n):Rw h 1 ⟨subA s.a (Int.toNat 1) s.c 1,Int.toNat (s.n:Nat) - Int.toNat 1,s.c - Int.toNat 1⟩ rows/\subA s.a (Int.toNat 1) s.c 1 ≠ none:=by
 obtain ⟨e1,e2⟩:=hr
 rw [Yyj] at e1
 obtain ⟨b,o,ha,hrow⟩:=e2 (by simp)
 have e3:Int.toNat (1:Int)=1:=rfl
 rw [e3,Ys]
 refine ⟨⟨by show s.n - 1=_; omega,fun hp=>?_⟩,?_⟩
 ·
  have hc1:¬ s.c=1:=by omega
  refine ⟨b,o+1,?_,fun i r hi=>?_⟩
  ·
   show subA s.a 1 s.c 1=_
   unfold subA
   rw [if_neg hc1,ha,Option.map_some,Nat.one_mul,Addr.add_lit]
  ·
   have:=hrow (i+1) r hi
   rwa [show o+(i+1)*1=o+1+i*1 by omega] at this
 ·
  show subA s.a 1 s.c 1 ≠ none
  unfold subA
  rw [ha]
  split <;> simp
def NexV (S:List Int) (B:List Bx) (p j:Nat) (x:Mv) (l:List Int) (h:Heap) (v:Value) (h':Heap):Prop:=∃ (ts tb u:Sl),v=cfA ts tb/\St h h' [.sl ts 3 1 ((S.set p x.t).map inC),.sl tb 23 1 ((B.set j ⟨u,l⟩).map Bx.cs),.sl u 3 1 (l.map inC)]
set_option maxHeartbeats 3200000 in
theorem tailN_ok (n:Nat) (s ss sb ts tb u1 u2:Sl) (S:List Int) (B:List Bx) (p:Nat) (i:Int) (x:Mv) (q:Bx) (l:List Int) (ob b0 b5 b6 b7:Nat) (h h0:Heap) (hC:CfI h ss sb S B) (hn:s.n=n) (h6:n<=6) (hp:p<n) (hx0:0<=x.peer) (hx1:x.peer<(n:Int)) (hS:S.length=n) (hB:B.length=n*n)
  (gq:B[bxI n p x]?=some q) (hq:q.l.length<=4) (hl:l=if x.send=true then q.l++[x.label] else q.l.tail) (hr:x.send=false->1<=q.l.length)
  (hs:St h h0 [.blk ob [.slice ts.a ts.n ts.c,.slice tb.a tb.n tb.c] 26,.sl ts 3 1 (S.map inC),.sl tb 23 1 (B.map Bx.cs),.blk b7 x.cs 108,.blk b6 [.slice u1.a u1.n u1.c,.slice u2.a u2.n u2.c] 26,.blk b5 [.int .i64 (p:Int),.int .i64 i] 60,.blk b0 [.slice ss.a ss.n ss.c,.slice sb.a sb.n sb.c] 26]) :
  tailN s ob b0 b5 b6 b7 h0 (NexV S B p (bxI n p x) x l h):=by
 unfold tailN
 have h36:=sq6 h6
 have hj:=bxI_lt (n:=n) (x:=x) hp hx0 hx1
 have hts:=(hs.rows 1 (s:=ts) (cs:=inC) rfl (by omega)).ln
 have htb:=(hs.rows 2 (s:=tb) (cs:=Bx.cs) rfl (by omega)).ln
 have hbn:=hC.b.ln
 have hqs:=hC.i q (Yb gq)
 have hqn:=hqs.ln
 obtain ⟨pe,hpe⟩:∃ pe:Nat,x.peer=(pe:Int):=⟨x.peer.toNat,by omega⟩
 have hpt:x.peer.toNat=pe:=by omega
 refine ⟨ts,hs.rd 0 rfl (i:=0) rfl,(p:Int),hs.rd 5 rfl (i:=0) rfl,x.t,hs.rd 3 rfl (i:=4) rfl,?_⟩
 refine hs.set 1 (s:=ts) (cs:=inC) (x:=(p:Int)) rfl (by omega) (by omega) (by omega) x.t rfl rfl (fun b o h38 hs=>?_) rfl
 rw [Ys] at hs
 have hw1:∀ a b:Nat,a<n->b<n->IntKind.wrap .i64 (IntKind.wrap .i64 ((s.n:Int)*(a:Int))+(b:Int))=((n*a+b:Nat):Int):=fun a b ha hb=>by
  have e1:(s.n:Int)*(a:Int)=((n*a:Nat):Int):=by rw [hn]; rfl
  have:=two_lt ha hb
  rw [e1,w64 (n:=((n*a:Nat):Int)) (by omega) (by omega)]
  rw [w64 (by omega) (by omega)]; rfl
 have fin:∀ {u:Sl} {hh:Heap} {A:List It} ,St h hh (A++[.sl u 3 1 (l.map inC),.blk ob [.slice ts.a ts.n ts.c,.slice tb.a tb.n tb.c] 26,.sl ts 3 1 ((S.set p x.t).map inC),.sl tb 23 1 ((B.set (bxI n p x) ⟨u,l⟩).map Bx.cs),.blk b7 x.cs 108,.blk b6 [.slice u1.a u1.n u1.c,.slice u2.a u2.n u2.c] 26,.blk b5 [.int .i64 (p:Int),.int .i64 i] 60,.blk b0 [.slice ss.a ss.n ss.c,.slice sb.a sb.n sb.c] 26]) ->
   (∃ x57:Sl,∃ x58:Sl,atC hh ⟨ob,0,none⟩ [.slice x57.a x57.n x57.c,.slice x58.a x58.n x58.c] /\ 
   (okAt hh ⟨b6,0,none⟩ 2/\∀ h59:Heap,h59=hputs hh ⟨b6,0,none⟩ 0 [.slice x57.a x57.n x57.c,.slice x58.a x58.n x58.c] -> 
   (∃ x60:Sl,∃ x61:Sl,atC h59 ⟨b6,0,none⟩ [.slice x60.a x60.n x60.c,.slice x61.a x61.n x61.c] /\ 
   NexV S B p (bxI n p x) x l h (.agg ⟨[.slice x60.a x60.n x60.c,.slice x61.a x61.n x61.c]⟩) h59))):=fun {u hh A} hs=>by
  have hs:=hs.sub (List.sublist_append_right A _)
  refine ⟨ts,tb,hs.at 1 rfl (o:=0) (n:=2) rfl,?_⟩
  refine hs.put 5 rfl (o:=0) (vs:=[.slice ts.a ts.n ts.c,.slice tb.a tb.n tb.c]) rfl (show 2<=2 by decide) fun h59 hs=>?_
  refine ⟨ts,tb,hs.at 5 rfl (o:=0) (n:=2) rfl,ts,tb,u,rfl,?_⟩
  have hs:=hs.sub (L':=[.sl u 3 1 (l.map inC),.sl ts 3 1 ((S.set p x.t).map inC),.sl tb 23 1 ((B.set (bxI n p x) ⟨u,l⟩).map Bx.cs)]) (.cons_cons _ (.cons _ (.cons_cons _ (.cons_cons _ (List.nil_sublist _)))))
  exact hs.perm (List.perm_middle (l₁:=[_,_]) (l₂:=[])).symm
 refine ⟨x.send,hs.rd 3 rfl (i:=1) rfl,sB_intro (fun d=>?_) (fun d=>?_)⟩
 ·
  have hjj:bxI n p x=n*p+pe:=by unfold bxI; rw [if_pos d,hpt]
  have hJ:=hw1 p pe hp (by omega)
  rw [if_pos d] at hl
  have el:([]++q.l.map inC)++[inC x.label]=l.map inC:=by rw [hl,Ym]; rfl
  rw [<- hjj,<- hpe] at hJ
  refine ⟨(p:Int),hs.rd 5 rfl (i:=0) rfl,x.peer,hs.rd 3 rfl (i:=2) rfl,tb,hs.rd 0 rfl (i:=1) rfl,sb,hs.rd 6 rfl (i:=1) rfl,?_⟩
  rw [hJ]
  refine (hC.b.rw.ext hs.ext).nbI (by omega) (by omega) fun b o q' gq' t=>?_
  rw [Ys,gq] at gq'; cases gq'
  refine ⟨q.s,t.hd,x.label,hs.rd 3 rfl (i:=3) rfl,And.intro ?_ ?_⟩
  ·
   refine hs.newbE fun h48 E48 hs=>⟨E48.sm,?_⟩
   have hs:=hs.blkS 0 1 [] rfl (fun r hr=>by cases hr) rfl (Nat.zero_le _)
   refine And.intro ?_ ?_
   ·
    have hs48:=hs
    refine hs.appRw 0 (s:=⟨some ⟨h38.size,0,none⟩,0,0⟩) (rows:=[]) (y:=q.s) rfl app42 (hqs.rw.ext hs.ext) (inrows' q.l) hqs.nil (flat_oneB (fun _=>rfl) _) (by show (0+q.s.n)*8<=_; omega) (by show 0+q.s.n<=_; simp only [maxLen]; omega) fun e h50 ne hs=>?_
    refine ⟨Sm_two (hs48.smbO hs 4 4 3 rfl rfl) (hs48.smbO hs 1 1 1 rfl rfl),?_⟩
    refine hs.newbE fun h51 E51 hs=>⟨E51.sm,?_⟩
    have hs51:=hs
    refine hs.appended 1 (s:=e) (n:=1) (rows:=[]++q.l.map inC) rfl app42 (m:=1) (news:=[inC x.label]) (hs.at 0 rfl (n:=1) rfl) rfl (by simp [inC]) rfl (by have:e.n=0+q.s.n:=ne; omega) (by have:e.n=0+q.s.n:=ne; simp only [maxLen]; omega) fun u h53 nu hs=>?_
    refine ⟨hs51.smbO hs 2 2 1 rfl rfl,?_⟩
    refine hs.set 4 (s:=tb) (cs:=Bx.cs) (x:=(bxI n p x:Int)) rfl (by omega) (by omega) (by omega) (⟨u,l⟩:Bx) rfl rfl (fun b o h56 hs=>?_) rfl
    rw [Ys] at hs
    refine fin (u:=u) (A:=[.blk h50.size [.int .i64 x.label] 3]) ?_
    rw [<- el]; exact hs
   ·
    refine hs.newbE fun h62 E62 hs=>⟨E62.sm,?_⟩
    have hs62:=hs
    refine hs.appRw 1 (s:=⟨some ⟨h38.size,0,none⟩,0,0⟩) (rows:=[]) (y:=q.s) rfl app42 (hqs.rw.ext hs.ext) (inrows' q.l) hqs.nil (flat_oneB (fun _=>rfl) _) (by show (0+q.s.n)*8<=_; omega) (by show 0+q.s.n<=_; simp only [maxLen]; omega) fun e h64 ne hs=>?_
    refine ⟨Sm_two (hs62.smbO hs 5 5 3 rfl rfl) (hs62.smbO hs 2 2 1 rfl rfl),?_⟩
    have hs64:=hs
    refine hs.appended 1 (s:=e) (n:=1) (rows:=[]++q.l.map inC) rfl app42 (m:=1) (news:=[inC x.label]) (hs.at 0 rfl (n:=1) rfl) rfl (by simp [inC]) rfl (by have:e.n=0+q.s.n:=ne; omega) (by have:e.n=0+q.s.n:=ne; simp only [maxLen]; omega) fun u h66 nu hs=>?_
    refine ⟨hs64.smbO hs 2 2 1 rfl rfl,?_⟩
    refine hs.set 4 (s:=tb) (cs:=Bx.cs) (x:=(bxI n p x:Int)) rfl (by omega) (by omega) (by omega) (⟨u,l⟩:Bx) rfl rfl (fun b o h56 hs=>?_) rfl
    rw [Ys] at hs
    refine fin (u:=u) (A:=[.blk h48.size [.int .i64 x.label] 3]) ?_
    rw [<- el]; exact hs
  ·
   refine hs.newbE fun h75 E75 hs=>⟨E75.sm,?_⟩
   refine hs.newbE fun h76 E76 hs=>⟨E76.sm,?_⟩
   have hs:=hs.blkS 0 1 [] rfl (fun r hr=>by cases hr) rfl (Nat.zero_le _)
   have hs76:=hs
   refine hs.appRw 0 (s:=⟨some ⟨h75.size,0,none⟩,0,0⟩) (rows:=[]) (y:=q.s) rfl app42 (hqs.rw.ext hs.ext) (inrows' q.l) hqs.nil (flat_oneB (fun _=>rfl) _) (by show (0+q.s.n)*8<=_; omega) (by show 0+q.s.n<=_; simp only [maxLen]; omega) fun e h78 ne hs=>?_
   refine ⟨Sm_two (hs76.smbO hs 5 5 3 rfl rfl) (hs76.smbO hs 2 2 1 rfl rfl),?_⟩
   have hs78:=hs
   refine hs.appended 0 (s:=e) (n:=1) (rows:=[]++q.l.map inC) rfl app42 (m:=1) (news:=[inC x.label]) (hs.at 1 rfl (n:=1) rfl) rfl (by simp [inC]) rfl (by have:e.n=0+q.s.n:=ne; omega) (by have:e.n=0+q.s.n:=ne; simp only [maxLen]; omega) fun u h80 nu hs=>?_
   refine ⟨hs78.smbO hs 2 2 1 rfl rfl,?_⟩
   refine hs.set 4 (s:=tb) (cs:=Bx.cs) (x:=(bxI n p x:Int)) rfl (by omega) (by omega) (by omega) (⟨u,l⟩:Bx) rfl rfl (fun b o h56 hs=>?_) rfl
   rw [Ys] at hs
   refine fin (u:=u) (A:=[.blk h38.size [.int .i64 x.label] 3]) ?_
   rw [<- el]; exact hs.perm (List.Perm.swap _ _ _)
 ·
  have hr1:=hr d
  have hjj:bxI n p x=n*pe+p:=by unfold bxI; rw [if_neg (by rw [d]; decide),hpt]
  have hJ:=hw1 pe p (by omega) hp
  rw [if_neg (by rw [d]; decide)] at hl
  rw [<- hjj,<- hpe] at hJ
  refine ⟨x.peer,hs.rd 3 rfl (i:=2) rfl,(p:Int),hs.rd 5 rfl (i:=0) rfl,tb,hs.rd 0 rfl (i:=1) rfl,sb,hs.rd 6 rfl (i:=1) rfl,?_⟩
  rw [hJ]
  refine (hC.b.rw.ext hs.ext).nbI (by omega) (by omega) fun b o q' gq' t=>?_
  rw [Ys,gq] at gq'; cases gq'
  have hcap:=hqs.cap
  refine ⟨q.s,t.hd,⟨by omega,by omega,by omega⟩,?_⟩
  refine hs.newbE fun h96 E96 hs=>⟨E96.sm,?_⟩
  have hs:=hs.blkS 0 1 [] rfl (fun r hr=>by cases hr) rfl (Nat.zero_le _)
  have hs96:=hs
  obtain ⟨q0,tl,hqe⟩:∃ q0 tl,q.l=q0::tl:=by
   cases hq':q.l with
   | nil=>rw [hq'] at hr1; exact absurd hr1 (by decide)
   | cons a b=>exact ⟨a,b,rfl⟩
  have hltl:l=tl:=by rw [hl,hqe]; rfl
  have hrw:=hqs.rw.ext hs.ext
  rw [hqe,Yyl] at hrw
  have hsub:=Rw.tail1 hrw (by omega) (by omega)
  have e1:Int.toNat ((q.s.n:Nat):Int) - Int.toNat 1=q.s.n - 1:=by rw [Ys]; rfl
  refine hs.appRw 0 (s:=⟨some ⟨h38.size,0,none⟩,0,0⟩) (rows:=[]) (y:=⟨subA q.s.a (Int.toNat 1) q.s.c 1,Int.toNat (q.s.n:Nat) - Int.toNat 1,q.s.c - Int.toNat 1⟩) rfl app42 hsub.1 (inrows' tl) (fun ha=>absurd ha hsub.2) (flat_oneB (fun _=>rfl) _) (by show (0+(Int.toNat ((q.s.n:Nat):Int) - Int.toNat 1))*8<=_; omega) (by show 0+(Int.toNat ((q.s.n:Nat):Int) - Int.toNat 1)<=_; simp only [maxLen]; omega) fun u h98 ne hs=>?_
  refine ⟨hs96.smbO hs 1 1 1 rfl rfl,?_⟩
  refine hs.set 3 (s:=tb) (cs:=Bx.cs) (x:=(bxI n p x:Int)) rfl (by omega) (by omega) (by omega) (⟨u,l⟩:Bx) rfl rfl (fun b o h56 hs=>?_) rfl
  rw [Ys] at hs
  refine fin (u:=u) (A:=[]) ?_
  have el:[]++tl.map inC=l.map inC:=by rw [hltl]; rfl
  rw [<- el]; exact hs
end Go.VC
end
