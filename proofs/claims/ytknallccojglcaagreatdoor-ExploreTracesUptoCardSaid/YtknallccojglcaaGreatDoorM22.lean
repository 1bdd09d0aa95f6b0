/- KwF. -/
import Derived.Test.YtknallccojglcaaGreatDoorM21
set_option linter.unusedVariables false
set_option linter.unusedSimpArgs false
set_option maxRecDepth 100000

section
namespace Go.VC
open Go.Proofs Go.LexS
def bxI (n p:Nat) (x:Mv):Nat:=if x.send=true then n*p+x.peer.toNat else n*x.peer.toNat+p
theorem two_lt {n a b:Nat} (ha:a<n) (hb:b<n):n*a+b<n*n:=by
 have h1:n*(a+1)<=n*n:=Nat.mul_le_mul_left _ (by omega);rw[Nat.mul_succ] at h1;omega
theorem bxI_lt {n p:Nat} {x:Mv} (hp:p<n) (h0:0<=x.peer) (h1:x.peer<(n:Int)):bxI n p x<n*n:=by
 unfold bxI;split
 ·exact two_lt hp (by omega)
 ·exact two_lt (by omega) hp
def canS (n:Nat) (k:Int) (S:List Int) (BL:List (List Int)) (p:Nat) (x:Mv):Int:=
 if x.f≠S.getD p 0 then 7 else
 if x.send=true then (if k<=((BL.getD (bxI n p x) []).length:Int) then 19 else 0)
 else match BL.getD (bxI n p x) [] with
  | []=>23
  | l::_=>if l≠x.label then 23 else 0
theorem box60 (n p:Nat) (x:Mv) (h:Heap) (hn:n<=6) (hp:p<n) (h0:0<=x.peer) (h1:x.peer<(n:Int)) :
  Fn Pz 57 #[.int .i64 (n:Int),.int .i64 (p:Int),.agg ⟨x.cs⟩] h fun v h'=>v=.int .i64 (bxI n p x:Nat)/\Ext h h':=by
 apply vc57 (n:Int) (p:Int) x.f x.send x.peer x.label x.t x.ag;unfold W57;have h36:=sq6 hn;refine (St.refl h).newb fun h7 hs=>?_;refine⟨_,hs.rd 0 rfl (i:=1) rfl,?_⟩;obtain⟨q,hq⟩:∃q:Nat,x.peer=(q:Int):=⟨x.peer.toNat,by omega⟩;have hqn:q<n:=by omega
 have hqt:x.peer.toNat=q:=by omega
 have b1:=two_lt hp hqn;have b2:=two_lt hqn hp;unfold bxI;rw[hqt];refine sB_intro (fun c=>?_) (fun c=>?_)
 ·refine⟨(q:Int),by rw[<-hq];exact hs.rd 0 rfl (i:=2) rfl,?_⟩;have e1:(n:Int)*(p:Int)=((n*p:Nat):Int):=rfl;have e2:((n*p:Nat):Int)+(q:Int)=((n*p+q:Nat):Int):=rfl;rw[if_pos c,e1,w64 (n:=((n*p:Nat):Int)) (by omega) (by omega),e2,w64 (n:=((n*p+q:Nat):Int)) (by omega) (by omega)];exact⟨rfl,hs.ext⟩
 ·refine⟨(q:Int),by rw[<-hq];exact hs.rd 0 rfl (i:=2) rfl,?_⟩;have e1:(n:Int)*(q:Int)=((n*q:Nat):Int):=rfl;have e2:((n*q:Nat):Int)+(p:Int)=((n*q+p:Nat):Int):=rfl;rw[if_neg (by rw[c];exact Bool.false_ne_true),e1,w64 (n:=((n*q:Nat):Int)) (by omega) (by omega),e2,w64 (n:=((n*q+p:Nat):Int)) (by omega) (by omega)];exact⟨rfl,hs.ext⟩
set_option maxHeartbeats 800000 in
theorem can58 (n:Nat) (k:Int) (ss sb:Sl) (S:List Int) (B:List Bx) (p:Nat) (x:Mv) (h:Heap) (hC:CfI h ss sb S B) (hn:n<=6) (hS:S.length=n) (hB:B.length=n*n) (hp:p<n) (h0:0<=x.peer) (h1:x.peer<(n:Int)) :
  Fn Pz 55 #[.int .i64 (n:Int),.int .i64 k,.agg ⟨[.slice ss.a ss.n ss.c,.slice sb.a sb.n sb.c]⟩,.int .i64 (p:Int),.agg ⟨x.cs⟩] h fun v h'=>v=.int .i64 (canS n k S (B.map Bx.l) p x)/\Ext h h':=by
 apply vc55 (n:Int) k ss sb (p:Int) x.f x.send x.peer x.label x.t x.ag;unfold W55 V55a;have hsn:=hC.s.ln;have hbn:=hC.b.ln;have hlt:=bxI_lt hp h0 h1;refine (St.refl h).newb fun h9 hs=>?_;refine hs.newb fun h10 hs=>?_;refine⟨sb,hs.rd 1 rfl (i:=1) rfl,_,_,_,_,_,_,hs.at 0 rfl (o:=0) (n:=6) rfl,?_⟩;refine (box60 n p x h10 hn hp h0 h1).mono ?_;rintro _ h20 ⟨rfl,E⟩;have hs:=hs.step E;refine⟨_,rfl,E.sm,?_⟩;refine (hC.b.rw.ext hs.ext).nbI (Int.natCast_nonneg _) (Int.ofNat_lt.2 (by rw[hbn,hB];exact hlt)) fun b21 o22 q gq t=>?_;rw[Ys] at gq;replace gq:B[bxI n p x]?=some q:=gq;have hqi:=hC.i q (Yb gq);have hql:=hqi.ln;refine⟨q.s,t.hd,_,hs.rd 0 rfl (i:=0) rfl,ss,hs.rd 1 rfl rfl,?_⟩;refine (hC.s.rw.ext hs.ext).nbI (by omega) (by omega) fun b o z gz t2=>?_;rw[Ys] at gz;replace gz:S[p]?=some z:=gz;have hSg:S.getD p 0=z:=getD_some gz;have hBg:(B.map Bx.l).getD (bxI n p x) []=q.l:=getD_some (by rw[Yd,gq];rfl);refine⟨_,t2.hd,?_⟩;unfold canS;rw[hSg,hBg];refine sBn (fun c=>⟨by rw[if_pos c],hs.ext⟩) (fun c=>?_);rw[if_neg (fun h=>h c)];refine⟨_,hs.rd 0 rfl (i:=1) rfl,sB_intro (fun d=>?_) (fun d=>?_)⟩
 ·rw[if_pos d];refine sBi (fun e=>⟨by rw[if_pos (by omega)],hs.ext⟩) (fun e=>?_);rw[if_neg (by omega)];exact⟨_,hs.rd 0 rfl (i:=1) rfl,sB_f (by rw[d];rfl) ⟨rfl,hs.ext⟩⟩
 ·rw[if_neg (by rw[d];exact Bool.false_ne_true)];refine⟨_,hs.rd 0 rfl (i:=1) rfl,sB_t (by rw[d];rfl) (sBe (fun e=>?_) (fun e=>?_))⟩
  ·rw[List.eq_nil_of_length_eq_zero (l:=q.l) (by omega)];exact⟨rfl,hs.ext⟩
  ·refine (hqi.rw.ext hs.ext).nbI (by omega) (by omega) fun b3 o3 y gy t3=>?_;replace gy:q.l[0]?=some y:=gy;cases hl:q.l with
   | nil=>rw[hl] at gy;cases gy
   | cons a r=>
    rw[hl] at gy;cases gy;refine⟨_,t3.hd,_,hs.rd 0 rfl (i:=3) rfl,sBn (fun f=>⟨?_,hs.ext⟩) (fun f=>⟨?_,hs.ext⟩)⟩
    ·show _=Value.int .i64 (if y≠x.label then 23 else 0);rw[if_pos f]
    ·show _=Value.int .i64 (if y≠x.label then 23 else 0);rw[if_neg (fun h=>h f)]
end Go.VC
end
