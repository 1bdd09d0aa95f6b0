/- KwVcJ KwE KwF. -/
import Derived.Test.YtknallccojglcaaGreatDoorM21
set_option linter.unusedVariables false
set_option linter.unusedSimpArgs false
set_option maxRecDepth 100000

section
namespace Go.VC
open Go.Proofs
variable [Mono]
namespace M

def W123 (p0_1:Int) (p0_2:Bool) (p0_3 p0_4 p0_5:Int) (p0_6:Bool) (h:Heap) (R:Value->Heap->Prop):Prop:=
 Wn h (L0 p0_1 p0_2 p0_3 p0_4 p0_5 p0_6) 116 fun h7=>
 ∃x8,rB h7 (aS h 1) x8 /\
 sB x8
 (R (vI 0) h7)
 (R (vI 1) h7)
theorem vc123 (p0_1:Int) (p0_2:Bool) (p0_3 p0_4 p0_5:Int) (p0_6:Bool) (h:Heap) (R:Value->Heap->Prop) (H:W123 p0_1 p0_2 p0_3 p0_4 p0_5 p0_6 h R):Fn Pz 123 #[.agg ⟨(L0 p0_1 p0_2 p0_3 p0_4 p0_5 p0_6)⟩] h R:=fnI (A:=.z) (by kernel_rfl) H

def W87 (p0_1:Int) (p0_2:Bool) (p0_3 p0_4 p0_5:Int) (p0_6:Bool) (p1_7:Int) (p1_8:Bool) (p1_9 p1_10 p1_11:Int) (p1_12:Bool) (h:Heap) (R:Value->Heap->Prop):Prop:=
 Wn h (L0 p0_1 p0_2 p0_3 p0_4 p0_5 p0_6) 116 fun h13=>
 Wn h13 (L0 p1_7 p1_8 p1_9 p1_10 p1_11 p1_12) 116 fun h14=>
 ∃x15 x16 x17 x18 x19 x20,aL0 h14 (aS h 0) x15 x16 x17 x18 x19 x20 /\
 ∃x21 x22 x23 x24 x25 x26,aL0 h14 (aS h13 0) x21 x22 x23 x24 x25 x26 /\
 ∃x27,rI h14 (aS h 2) x27 /\
 ∃x28,rI h14 (aS h13 2) x28 /\
 ∃x29,rI h14 (aS h 3) x29 /\
 ∃x30,rI h14 (aS h13 3) x30 /\
 Fn Pz 123 #[.agg ⟨(L0 x15 x16 x17 x18 x19 x20)⟩] h14
 (fun v31 h33=>∃x32,iI v31 x32 /\
 Sm [(aS h13 3),(aS h 3),(aS h13 2),(aS h 2),(aS h13 0)] h14 h33 /\
 Fn Pz 123 #[.agg ⟨(L0 x21 x22 x23 x24 x25 x26)⟩] h33
 (fun v34 h36=>∃x35,iI v34 x35 /\
 Sm [(aS h13 3),(aS h 3),(aS h13 2),(aS h 2),(aS h 0)] h33 h36 /\
 Fn Pz 110 #[vI x32,vI x35] h36
 (fun v37 h39=>∃x38,iI v37 x38 /\
 Sm [(aS h13 3),(aS h 3),(aS h13 2),(aS h 2)] h36 h39 /\
 Fn Pz 110 #[vI x27,vI x28] h39
 (fun v40 h42=>∃x41,iI v40 x41 /\
 Sm [(aS h13 3),(aS h 3),(aS h13 0),(aS h 0)] h39 h42 /\
 Fn Pz 110 #[vI x29,vI x30] h42
 (fun v43 h45=>∃x44,iI v43 x44 /\
 Sm [(aS h13 2),(aS h 2),(aS h13 0),(aS h 0)] h42 h45 /\
 Wn h45 (L4 x38 x41 x44) 3 fun h46=>
 Fn Pz 109 #[.slice (some (aS h45 0)) 3 3] h46
 (fun v47 h49=>∃x48,iI v47 x48 /\
 R (vI x48) h49))))))
theorem vc87 (p0_1:Int) (p0_2:Bool) (p0_3 p0_4 p0_5:Int) (p0_6:Bool) (p1_7:Int) (p1_8:Bool) (p1_9 p1_10 p1_11:Int) (p1_12:Bool) (h:Heap) (R:Value->Heap->Prop) (H:W87 p0_1 p0_2 p0_3 p0_4 p0_5 p0_6 p1_7 p1_8 p1_9 p1_10 p1_11 p1_12 h R):Fn Pz 87 #[.agg ⟨(L0 p0_1 p0_2 p0_3 p0_4 p0_5 p0_6)⟩,.agg ⟨(L0 p1_7 p1_8 p1_9 p1_10 p1_11 p1_12)⟩] h R:=fnI (A:=.z) (by kernel_rfl) H

def W86 (p0_1 p0_2 p1_3 p1_4:Int) (c0:Addr) (h:Heap) (R:Value->Heap->Prop):Prop:=
 Wn h [vI p0_1,vI p0_2] 48 fun h5=>
 Wn h5 [vI p1_3,vI p1_4] 48 fun h6=>
 ∃x7,rS h6 ⟨c0.block,c0.off+4,none⟩ x7 /\
 ∃x8,rI h6 (aS h 1) x8 /\
 NB x7.a fun b9 o10=>Ib x8 x7.n /\
 ∃x11 x12 x13 x14 x15 x16,aL0 h6 ⟨b9,o10+Int.toNat x8*6,none⟩ x11 x12 x13 x14 x15 x16 /\
 ∃x17,rS h6 ⟨c0.block,c0.off+4,none⟩ x17 /\
 ∃x18,rI h6 (aS h5 1) x18 /\
 NB x17.a fun b19 o20=>Ib x18 x17.n /\
 ∃x21 x22 x23 x24 x25 x26,aL0 h6 ⟨b19,o20+Int.toNat x18*6,none⟩ x21 x22 x23 x24 x25 x26 /\
 Fn Pz 87 #[.agg ⟨(L0 x11 x12 x13 x14 x15 x16)⟩,.agg ⟨(L0 x21 x22 x23 x24 x25 x26)⟩] h6
 (fun v27 h29=>∃x28,iI v27 x28 /\
 R (vI x28) h29)
theorem vc86 (p0_1 p0_2 p1_3 p1_4:Int) (c0:Addr) (h:Heap) (R:Value->Heap->Prop) (H:W86 p0_1 p0_2 p1_3 p1_4 c0 h R):Fn Pz 86 #[.agg ⟨[vI p0_1,vI p0_2]⟩,.agg ⟨[vI p1_3,vI p1_4]⟩,.pointer (some c0)] h R:=fnI (A:=.z) (by kernel_rfl) H

end M
end Go.VC
end

section
namespace Go.VC
open Go.Proofs Go.LexS
def stC (p:Int) (k:Nat):List Value:=[.int .i64 p,.int .i64 (k:Int)]
variable [Mono]
namespace M
theorem side118 (x:Mv) (h:Heap):Fn Pz 123 #[.agg ⟨x.cs⟩] h fun v h'=>v=.int .i64 (sideM x)/\Ext h h':=by
 apply vc123 x.f x.send x.peer x.label x.t x.ag;unfold W123;refine (St.refl h).newb fun h7 hs=>?_;refine⟨_,hs.rd 0 rfl rfl,?_⟩;unfold sideM;refine sB_intro (fun c=>?_) (fun c=>?_)
 ·exact⟨by rw[if_pos c],hs.ext⟩
 ·exact⟨by rw[if_neg (by rw[c];simp)],hs.ext⟩
theorem order82 (x y:Mv) (h:Heap):Fn Pz 87 #[.agg ⟨x.cs⟩,.agg ⟨y.cs⟩] h fun v h'=>v=.int .i64 (cmpE x.ev y.ev)/\Ext h h':=by
 apply vc87 x.f x.send x.peer x.label x.t x.ag y.f y.send y.peer y.label y.t y.ag;unfold W87;refine (St.refl h).newb fun h13 hs=>?_;refine hs.newb fun h14 hs=>?_;refine⟨_,_,_,_,_,_,hs.at 1 rfl (o:=0) (n:=6) rfl,_,_,_,_,_,_,hs.at 0 rfl (o:=0) (n:=6) rfl,_,hs.rd 1 rfl rfl,_,hs.rd 0 rfl rfl,_,hs.rd 1 rfl rfl,_,hs.rd 0 rfl rfl,?_⟩;refine (side118 x _).mono ?_;rintro _ h33 ⟨rfl,E1⟩;refine⟨_,rfl,Sm_ext E1,?_⟩;have hs:=hs.step E1;refine (side118 y _).mono ?_;rintro _ h36 ⟨rfl,E2⟩;refine⟨_,rfl,Sm_ext E2,?_⟩;have hs:=hs.step E2;refine (cmp110 _ _ _).mono ?_;rintro _ _ ⟨rfl,rfl⟩;refine⟨_,rfl,fun _ _ _ _ hv=>hv,?_⟩;refine (cmp110 _ _ _).mono ?_;rintro _ _ ⟨rfl,rfl⟩;refine⟨_,rfl,fun _ _ _ _ hv=>hv,?_⟩;refine (cmp110 _ _ _).mono ?_;rintro _ _ ⟨rfl,rfl⟩;refine⟨_,rfl,fun _ _ _ _ hv=>hv,?_⟩;refine hs.newb fun h46 hs=>?_;have hs2:=hs.blkS 3 1 ([cmpI (sideM x) (sideM y),cmpI x.peer y.peer,cmpI x.label y.label].map inC) rfl (inrows _) rfl (by decide);refine (or109 [cmpI (sideM x) (sideM y),cmpI x.peer y.peer,cmpI x.label y.label] _ h46 (hs2.rows 0 rfl (by omega)) (show 3<=1048576 by decide)).mono ?_;rintro _ _ ⟨rfl,rfl⟩;refine⟨_,rfl,?_,hs.ext⟩;show Value.int .i64 (orI3 _ (orI3 _ (orI3 _ 0)))=_;congr 1;obtain⟨f,s,p,l,t,a⟩:=x;obtain⟨f',s',p',l',t',a'⟩:=y;unfold cmpE orI3 sideM Mv.ev;cases s<;>cases s'<;>simp[cmpI]<;>(repeat' split)<;>omega
theorem orderS81 (mv:List Mv) (sm:Sl) (a:Addr) (p q:Int) (i k:Nat) (x y:Mv) (h:Heap) (ha:hc h ⟨a.block,a.off+4,none⟩=some (.slice sm.a sm.n sm.c)) (hr:Rw h 6 sm (mv.map Mv.cs)) (hx:mv[i]?=some x) (hy:mv[k]?=some y) :
  Fn Pz 86 #[.agg ⟨stC p i⟩,.agg ⟨stC q k⟩,.pointer (some a)] h fun v h'=>v=.int .i64 (cmpE x.ev y.ev)/\Ext h h':=by
 apply vc86 p (i:Nat) q (k:Nat) a;unfold W86;have hn:=hr.ln;have hxl:=(Ya.1 hx).1;have hyl:=(Ya.1 hy).1;refine (St.refl h).newb fun h5 hs=>?_;refine hs.newb fun h6 hs=>?_;refine⟨sm,hc_ext hs.ext ha,_,hs.rd 1 rfl (i:=1) rfl,?_⟩;refine (hr.ext hs.ext).nbI (by omega) (by omega) fun b o x' gx t=>?_;replace gx:mv[i]?=some x':=gx;rw[hx] at gx;cases gx;refine⟨_,_,_,_,_,_,t,sm,hc_ext hs.ext ha,_,hs.rd 0 rfl (i:=1) rfl,?_⟩;refine (hr.ext hs.ext).nbI (by omega) (by omega) fun b2 o2 y' gy t2=>?_;replace gy:mv[k]?=some y':=gy;rw[hy] at gy;cases gy;refine⟨_,_,_,_,_,_,t2,?_⟩;refine (order82 x y h6).mono ?_;rintro _ h29 ⟨rfl,E⟩;exact⟨_,rfl,rfl,hs.ext.trans E⟩
end M
def Sort80:Prop:=∀(m:Mch) (sm:Sl) (a:Addr) (p:Int) {h0 h:Heap} {Ls:List It},St h0 h Ls->∀(i:Nat) {s:Sl} {l:List Nat},Ls[i]?=some (.sl s 48 2 (l.map (stC p)))->(∀x∈l,x<m.mv.length)->(l=[]->s.a=none)->m.mv.length<=1048576->l.length<=1048576 ->
 (∀h':Heap,h.size<=h'.size->(∀c,c<h.size->s.a.map (·.block)≠some c->h'[c]?=h[c]?)->hc h' ⟨a.block,a.off+4,none⟩=some (.slice sm.a sm.n sm.c)/\Rw h' 6 sm (m.mv.map Mv.cs)) ->
 Fn Pz 85 #[.slice s.a s.n s.c,.func (.func 86) #[] #[.pointer (some a)]] h fun v h'=>v=.tuple ⟨[]⟩/\∃l':List Nat,l'.Perm l/\l'.Pairwise (fun a b=>¬evLt (m.mv.getD b ⟨0,false,0,0,0,false⟩).ev (m.mv.getD a ⟨0,false,0,0,0,false⟩).ev)/\St h0 h' (Ls.set i (.sl s 48 2 (l'.map (stC p))))
end Go.VC
end

section
namespace Go.VC
open Go.Proofs Go.LexS
def bxI (n p:Nat) (x:Mv):Nat:=if x.send=true then n*p+x.peer.toNat else n*x.peer.toNat+p
theorem two_lt {n a b:Nat} (ha:a<n) (hb:b<n):n*a+b<n*n:=by
 have h1:n*(a+1)<=n*n:=Nat.mul_le_mul_left _ (by omega);rw[Nat.mul_succ] at h1;omega
theorem bxI_lt {n p:Nat} {x:Mv} (hp:p<n) (h0:0<=x.peer) (h1:x.peer<(n:Int)):bxI n p x<n*n:=by
 unfold bxI;split
 ·exact two_lt hp (by omega)
 ·exact two_lt (by omega) hp
def canS (n:Nat) (k:Int) (S:List Int) (BL:List (List Int)) (p:Nat) (x:Mv):Int:=
 if x.f≠S.getD p 0 then 7 else
 if x.send=true then (if k<=((BL.getD (bxI n p x) []).length:Int) then 19 else 0)
 else match BL.getD (bxI n p x) [] with
  | []=>23
  | l::_=>if l≠x.label then 23 else 0
theorem box60 (n p:Nat) (x:Mv) (h:Heap) (hn:n<=6) (hp:p<n) (h0:0<=x.peer) (h1:x.peer<(n:Int)) :
  Fn Pz 57 #[.int .i64 (n:Int),.int .i64 (p:Int),.agg ⟨x.cs⟩] h fun v h'=>v=.int .i64 (bxI n p x:Nat)/\Ext h h':=by
 apply vc57 (n:Int) (p:Int) x.f x.send x.peer x.label x.t x.ag;unfold W57;have h36:=sq6 hn;refine (St.refl h).newb fun h7 hs=>?_;refine⟨_,hs.rd 0 rfl (i:=1) rfl,?_⟩;obtain⟨q,hq⟩:∃q:Nat,x.peer=(q:Int):=⟨x.peer.toNat,by omega⟩;have hqn:q<n:=by omega
 have hqt:x.peer.toNat=q:=by omega
 have b1:=two_lt hp hqn;have b2:=two_lt hqn hp;unfold bxI;rw[hqt];refine sB_intro (fun c=>?_) (fun c=>?_)
 ·refine⟨(q:Int),by rw[<-hq];exact hs.rd 0 rfl (i:=2) rfl,?_⟩;have e1:(n:Int)*(p:Int)=((n*p:Nat):Int):=rfl;have e2:((n*p:Nat):Int)+(q:Int)=((n*p+q:Nat):Int):=rfl;rw[if_pos c,e1,w64 (n:=((n*p:Nat):Int)) (by omega) (by omega),e2,w64 (n:=((n*p+q:Nat):Int)) (by omega) (by omega)];exact⟨rfl,hs.ext⟩
 ·refine⟨(q:Int),by rw[<-hq];exact hs.rd 0 rfl (i:=2) rfl,?_⟩;have e1:(n:Int)*(q:Int)=((n*q:Nat):Int):=rfl;have e2:((n*q:Nat):Int)+(p:Int)=((n*q+p:Nat):Int):=rfl;rw[if_neg (by rw[c];exact Bool.false_ne_true),e1,w64 (n:=((n*q:Nat):Int)) (by omega) (by omega),e2,w64 (n:=((n*q+p:Nat):Int)) (by omega) (by omega)];exact⟨rfl,hs.ext⟩
set_option maxHeartbeats 800000 in
theorem can58 (n:Nat) (k:Int) (ss sb:Sl) (S:List Int) (B:List Bx) (p:Nat) (x:Mv) (h:Heap) (hC:CfI h ss sb S B) (hn:n<=6) (hS:S.length=n) (hB:B.length=n*n) (hp:p<n) (h0:0<=x.peer) (h1:x.peer<(n:Int)) :
  Fn Pz 55 #[.int .i64 (n:Int),.int .i64 k,.agg ⟨[.slice ss.a ss.n ss.c,.slice sb.a sb.n sb.c]⟩,.int .i64 (p:Int),.agg ⟨x.cs⟩] h fun v h'=>v=.int .i64 (canS n k S (B.map Bx.l) p x)/\Ext h h':=by
 apply vc55 (n:Int) k ss sb (p:Int) x.f x.send x.peer x.label x.t x.ag;unfold W55 V55a;have hsn:=hC.s.ln;have hbn:=hC.b.ln;have hlt:=bxI_lt hp h0 h1;refine (St.refl h).newb fun h9 hs=>?_;refine hs.newb fun h10 hs=>?_;refine⟨sb,hs.rd 1 rfl (i:=1) rfl,_,_,_,_,_,_,hs.at 0 rfl (o:=0) (n:=6) rfl,?_⟩;refine (box60 n p x h10 hn hp h0 h1).mono ?_;rintro _ h20 ⟨rfl,E⟩;have hs:=hs.step E;refine⟨_,rfl,E.sm,?_⟩;refine (hC.b.rw.ext hs.ext).nbI (Int.natCast_nonneg _) (Int.ofNat_lt.2 (by rw[hbn,hB];exact hlt)) fun b21 o22 q gq t=>?_;rw[Ys] at gq;replace gq:B[bxI n p x]?=some q:=gq;have hqi:=hC.i q (Yb gq);have hql:=hqi.ln;refine⟨q.s,t.hd,_,hs.rd 0 rfl (i:=0) rfl,ss,hs.rd 1 rfl rfl,?_⟩;refine (hC.s.rw.ext hs.ext).nbI (by omega) (by omega) fun b o z gz t2=>?_;rw[Ys] at gz;replace gz:S[p]?=some z:=gz;have hSg:S.getD p 0=z:=getD_some gz;have hBg:(B.map Bx.l).getD (bxI n p x) []=q.l:=getD_some (by rw[Yd,gq];rfl);refine⟨_,t2.hd,?_⟩;unfold canS;rw[hSg,hBg];refine sBn (fun c=>⟨by rw[if_pos c],hs.ext⟩) (fun c=>?_);rw[if_neg (fun h=>h c)];refine⟨_,hs.rd 0 rfl (i:=1) rfl,sB_intro (fun d=>?_) (fun d=>?_)⟩
 ·rw[if_pos d];refine sBi (fun e=>⟨by rw[if_pos (by omega)],hs.ext⟩) (fun e=>?_);rw[if_neg (by omega)];exact⟨_,hs.rd 0 rfl (i:=1) rfl,sB_f (by rw[d];rfl) ⟨rfl,hs.ext⟩⟩
 ·rw[if_neg (by rw[d];exact Bool.false_ne_true)];refine⟨_,hs.rd 0 rfl (i:=1) rfl,sB_t (by rw[d];rfl) (sBe (fun e=>?_) (fun e=>?_))⟩
  ·rw[List.eq_nil_of_length_eq_zero (l:=q.l) (by omega)];exact⟨rfl,hs.ext⟩
  ·refine (hqi.rw.ext hs.ext).nbI (by omega) (by omega) fun b3 o3 y gy t3=>?_;replace gy:q.l[0]?=some y:=gy;cases hl:q.l with
   | nil=>rw[hl] at gy;cases gy
   | cons a r=>
    rw[hl] at gy;cases gy;refine⟨_,t3.hd,_,hs.rd 0 rfl (i:=3) rfl,sBn (fun f=>⟨?_,hs.ext⟩) (fun f=>⟨?_,hs.ext⟩)⟩
    ·show _=Value.int .i64 (if y≠x.label then 23 else 0);rw[if_pos f]
    ·show _=Value.int .i64 (if y≠x.label then 23 else 0);rw[if_neg (fun h=>h f)]
def posS (L:List Mch) (k:Int) (S:List Int) (BL:List (List Int)) (r i:Int):Int:=
 if r<0\/(L.length:Int)<=r then 2 else match L[r.toNat]? with
 | none=>2
 | some m=>if i<0\/(m.mv.length:Int)<=i then 2 else match m.mv[i.toNat]? with
  | none=>2
  | some x=>canS L.length k S BL r.toNat x
set_option maxHeartbeats 1600000 in
theorem possible61 (L:List MR) (s:Sl) (k:Int) (ss sb:Sl) (S:List Int) (B:List Bx) (r i:Int) (h:Heap) (hS:SyI h s L) (hV:SysV (L.map MR.m)) (hC:CfI h ss sb S B) (hSl:S.length=L.length) (hBl:B.length=L.length*L.length) :
  Fn Pz 79 #[.slice s.a s.n s.c,.int .i64 k,.agg ⟨[.slice ss.a ss.n ss.c,.slice sb.a sb.n sb.c]⟩,.agg ⟨[.int .i64 r,.int .i64 i]⟩] h fun v h'=>v=.int .i64 (posS (L.map MR.m) k S (B.map Bx.l) r i)/\Ext h h':=by
 apply vc79 s k ss sb r i;unfold W79;have hn:=hS.r.ln;have hsn:=hC.s.ln;have hbn:=hC.b.ln;have hlm:(L.map MR.m).length=L.length:=Yc _;have hV6:=hV.n;rw[hlm] at hV6;have h36:=sq6 hV6.2;refine (St.refl h).newb fun h5 hs=>?_;refine hs.newb fun h6 hs=>?_;unfold posS;rw[hlm];refine⟨_,hs.rd 0 rfl (i:=0) rfl,sBi (fun c=>⟨by rw[if_pos (.inl c)],hs.ext⟩) (fun c1=>?_)⟩;refine⟨_,hs.rd 0 rfl (i:=0) rfl,sBi (fun c=>⟨by rw[if_pos (.inr (by omega))],hs.ext⟩) (fun c2=>?_)⟩;rw[if_neg (by omega)];obtain⟨p,rfl⟩:∃p:Nat,r=(p:Int):=⟨r.toNat,by omega⟩;have hp:p<L.length:=by omega
 obtain⟨y,gy⟩:=get_some (l:=L) (i:=p) hp;have gm:(L.map MR.m)[p]?=some y.m:=by rw[Yd,gy];rfl
 rw[Ys,gm];have hyi:=hS.i y (Yb gy);have hgn:=hyi.pm.ln;refine⟨_,hs.rd 0 rfl (i:=1) rfl,sBi (fun c=>⟨?_,hs.ext⟩) (fun c3=>?_)⟩
 ·show _=Value.int .i64 (if i<0\/(y.m.mv.length:Int)<=i then 2 else _);rw[if_pos (.inl c)]
 refine⟨_,hs.rd 0 rfl (i:=1) rfl,_,hs.rd 0 rfl (i:=0) rfl,?_⟩;have rdL:∀ {F:Nat->Nat->Prop} {h':Heap},Ext h h'->(∀b o,atC h' ⟨b,o+p*6,none⟩ y.cs->F b o)->NB s.a fun b o=>(0<=(p:Int)/\(p:Int)<(s.n:Nat))/\F b o:=fun {F h'} E hF=>(hS.r.rw.ext E).nbI (by omega) (by omega) fun b o y' gy' t=>by
  rw[Ys] at gy' t;replace gy':L[p]?=some y':=gy';rw[gy] at gy';cases gy';exact hF b o t
 refine rdL hs.ext fun b1 o1 t1=>?_;refine⟨y.g,t1.nth 4 rfl,sBi (fun c=>⟨?_,hs.ext⟩) (fun c4=>?_)⟩
 ·show _=Value.int .i64 (if i<0\/(y.m.mv.length:Int)<=i then 2 else _);rw[if_pos (.inr (by omega))]
 obtain⟨j,rfl⟩:∃j:Nat,i=(j:Int):=⟨i.toNat,by omega⟩;obtain⟨x,gx⟩:=get_some (l:=y.m.mv) (i:=j) (by omega);refine⟨_,hs.rd 0 rfl (i:=0) rfl,rdL hs.ext fun b2 o2 t2=>?_⟩;refine⟨y.g,t2.nth 4 rfl,_,hs.rd 0 rfl (i:=1) rfl,?_⟩;refine (hyi.pm.rw.ext hs.ext).nbI (by omega) (by omega) fun b3 o3 x' gx' t3=>?_;rw[Ys] at gx';replace gx':y.m.mv[j]?=some x':=gx';rw[gx] at gx';cases gx';refine⟨_,_,_,_,_,_,t3,?_⟩;have hxm:=Yb gx;have hvm:=hV.m p y.m gm;have hx0:0<=x.peer:=(hvm.2.1.n.mv x hxm).2.2.2.2.1;have hx1:x.peer<(L.length:Int):=by have:=hvm.2.2 x hxm;rw[hlm] at this;exact this
 refine hs.newbE fun h28 E28 hs=>⟨E28.sm,?_⟩;refine hs.put 0 rfl (o:=0) (vs:=x.cs) rfl (show 6<=6 by decide) fun h29 hs=>?_;refine⟨ss,hs.rd 2 rfl rfl,_,hs.rd 1 rfl (i:=0) rfl,?_⟩;refine (hC.s.rw.ext hs.ext).nbI (by omega) (by omega) fun b4 o4 z gz t4=>?_;rw[Ys] at gz;replace gz:S[p]?=some z:=gz;have hSg:S.getD p 0=z:=getD_some gz;refine⟨_,t4.hd,_,hs.rd 0 rfl (i:=0) rfl,?_⟩;show sB _ (Value.int .i64 7=.int .i64 (if (j:Int)<0\/(y.m.mv.length:Int)<=(j:Int) then 2 else match y.m.mv[(j:Int).toNat]? with | none=>2 | some x=>canS L.length k S (B.map Bx.l) p x)/\Ext h h29) _;rw[if_neg (by omega),Ys,gx];refine sBn (fun c=>⟨?_,hs.ext⟩) (fun c5=>?_)
 ·show _=Value.int .i64 (canS L.length k S (B.map Bx.l) p x);unfold canS;rw[hSg,if_pos (fun e=>c e.symm)]
 have key:∀v:Int,v=canS L.length k S (B.map Bx.l) p x->∀h',Ext h h'->(Value.int .i64 v=.int .i64 (if (j:Int)<0\/(y.m.mv.length:Int)<=(j:Int) then 2 else match y.m.mv[(j:Int).toNat]? with | none=>2 | some x=>canS L.length k S (B.map Bx.l) p x)/\Ext h h'):=fun v hv h' E=>by
  rw[if_neg (by omega),Ys,gx,hv];exact⟨rfl,E⟩
 obtain⟨q,hq⟩:∃q:Nat,x.peer=(q:Int):=⟨x.peer.toNat,by omega⟩;have hqn:q<L.length:=by omega
 have hqt:x.peer.toNat=q:=by omega
 have b1':=two_lt hp hqn;have b2':=two_lt hqn hp;refine⟨_,hs.rd 0 rfl (i:=1) rfl,sB_intro (fun d=>?_) (fun d=>?_)⟩
 ·refine⟨sb,hs.rd 2 rfl (i:=1) rfl,_,hs.rd 1 rfl (i:=0) rfl,(q:Int),by rw[<-hq];exact hs.rd 0 rfl (i:=2) rfl,?_⟩;have e1:(s.n:Int)*(p:Int)=((L.length*p:Nat):Int):=by rw[hn];rfl
  have e2:((L.length*p:Nat):Int)+(q:Int)=((L.length*p+q:Nat):Int):=rfl;rw[e1,w64 (n:=((L.length*p:Nat):Int)) (by omega) (by omega),e2,w64 (n:=((L.length*p+q:Nat):Int)) (by omega) (by omega)];refine (hC.b.rw.ext hs.ext).nbI (Int.natCast_nonneg _) (Int.ofNat_lt.2 (by rw[hbn,hBl];exact b1')) fun b5 o5 u gu t5=>?_;rw[Ys] at gu;replace gu:B[L.length*p+q]?=some u:=gu;have hul:=(hC.i u (Yb gu)).ln;have hBg:(B.map Bx.l).getD (bxI L.length p x) []=u.l:=by
   unfold bxI;rw[if_pos d,hqt];exact getD_some (by rw[Yd,gu];rfl)
  refine⟨u.s,t5.hd,sBi (fun e=>key _ ?_ _ hs.ext) (fun e=>key _ ?_ _ hs.ext)⟩
  ·unfold canS;rw[hSg,hBg,if_neg (fun h=>h c5.symm),if_pos d,if_pos (by omega)]
  ·unfold canS;rw[hSg,hBg,if_neg (fun h=>h c5.symm),if_pos d,if_neg (by omega)]
 ·have hdn:¬x.send=true:=by rw[d];exact Bool.false_ne_true
  refine⟨sb,hs.rd 2 rfl (i:=1) rfl,(q:Int),by rw[<-hq];exact hs.rd 0 rfl (i:=2) rfl,_,hs.rd 1 rfl (i:=0) rfl,?_⟩;have e1:(s.n:Int)*(q:Int)=((L.length*q:Nat):Int):=by rw[hn];rfl
  have e2:((L.length*q:Nat):Int)+(p:Int)=((L.length*q+p:Nat):Int):=rfl;rw[e1,w64 (n:=((L.length*q:Nat):Int)) (by omega) (by omega),e2,w64 (n:=((L.length*q+p:Nat):Int)) (by omega) (by omega)];refine (hC.b.rw.ext hs.ext).nbI (Int.natCast_nonneg _) (Int.ofNat_lt.2 (by rw[hbn,hBl];exact b2')) fun b5 o5 u gu t5=>?_;rw[Ys] at gu;replace gu:B[L.length*q+p]?=some u:=gu;have hui:=hC.i u (Yb gu);have hul:=hui.ln;have hBg:(B.map Bx.l).getD (bxI L.length p x) []=u.l:=by
   unfold bxI;rw[if_neg hdn,hqt];exact getD_some (by rw[Yd,gu];rfl)
  have hcan:canS L.length k S (B.map Bx.l) p x=match u.l with | []=>23 | l::_=>if l≠x.label then 23 else 0:=by
   unfold canS;rw[hSg,hBg,if_neg (fun h=>h c5.symm),if_neg hdn]
  refine⟨u.s,t5.hd,sBe (fun e=>key _ ?_ _ hs.ext) (fun e=>?_)⟩
  ·rw[hcan,List.eq_nil_of_length_eq_zero (l:=u.l) (by omega)]
  ·refine (hui.rw.ext hs.ext).nbI (by omega) (by omega) fun b6 o6 w gw t6=>?_;replace gw:u.l[0]?=some w:=gw;cases hl:u.l with
   | nil=>rw[hl] at gw;cases gw
   | cons a r=>
    rw[hl] at gw;cases gw;rw[hl] at hcan;refine⟨_,t6.hd,_,hs.rd 0 rfl (i:=3) rfl,sBn (fun f=>key _ ?_ _ hs.ext) (fun f=>key _ ?_ _ hs.ext)⟩
    ·rw[hcan];show _=if w≠x.label then 23 else 0;rw[if_pos f]
    ·rw[hcan];show _=if w≠x.label then 23 else 0;rw[if_neg (fun h=>h f)]
end Go.VC
end
