/- PjVcS4 PjVcS3 PjVcS5 PjVcS6 PjVcS7 PjVcS8 PjVcS9 PjVcSa PjVcSb PjVcSc PjVcSe PjVcSd PjVcSf PjVcK1 PjVcK2 PjVcK4 PjVcK5 PjVcSg LexSpec PjSpec PjMem PjA PjI0 PjJ0 PjK0 PjL0 PjO0. -/
import Derived.Test.YtfdhgcladnbdeaaGreatDoorDM02
import Derived.Test.YtfdhgcladnbdeaaGreatDoorDM03
import Derived.Lib.Split
set_option linter.all false
set_option maxRecDepth 100000
set_option maxHeartbeats 8000000

section
namespace Go.VC
open Go.Proofs IntKind
variable {h:Heap} {R:Value->Heap->Prop}
def W205 (b:Sl):Prop:=
 sB (decide ((b.n:Int)<2))
 (R (vS b) h)
 (QI 1 h fun E d i F=>
 sB (decide (d<(b.n:Int)))
 (NB b.a fun G H=>Ib d b.n /\
 ∃j k l,aL1 i ⟨G,H+d.toNat*3,none⟩ j k l /\
 NB b.a fun I J=>(0<=((wrap .i64 (d-1)):Int)/\((wrap .i64 (d-1)):Int)<(b.n:Nat)) /\
 ∃m o p,aL1 i ⟨I,J+Int.toNat (wrap .i64 (d-1))*3,none⟩ m o p /\
 sB ((j==m)&&((k==o)&&((l==p)&&true)))
 (((0:Int)<=(d:Int)/\(d:Int)<=((b.n:Nat):Int)/\((b.n:Nat):Int)<=(b.c:Nat)) /\
 QII d 1 i fun q e f g r=>
 sB (decide (f<(((Int.toNat (b.n:Nat)-d.toNat):Nat):Int)))
 (NB (subA b.a (d.toNat) b.c 3) fun K L=>(0<=(f:Int)/\(f:Int)<((Int.toNat (b.n:Nat)-d.toNat):Nat)) /\
 ∃s t u,aL1 g ⟨K,L+f.toNat*3,none⟩ s t u /\
 NB (subA b.a (d.toNat) b.c 3) fun M N=>(0<=((wrap .i64 (f-1)):Int)/\((wrap .i64 (f-1)):Int)<((Int.toNat (b.n:Nat)-d.toNat):Nat)) /\
 ∃v w x,aL1 g ⟨M,N+Int.toNat (wrap .i64 (f-1))*3,none⟩ v w x /\
 sB (!((s==v)&&((t==w)&&((u==x)&&true))))
 (NB (subA b.a (d.toNat) b.c 3) fun O P=>(0<=(f:Int)/\(f:Int)<((Int.toNat (b.n:Nat)-d.toNat):Nat)) /\
 ∃y z A,aL1 g ⟨O,P+f.toNat*3,none⟩ y z A /\
 NB b.a fun Q S=>Ib e b.n /\
 Wp g ⟨Q,S+e.toNat*3,none⟩ 3 (L1 y z A) fun T=>
 ∃B,B<r/\q (wrap .i64 (e+1)) (wrap .i64 (f+1)) T B)
 (∃C,C<r/\q e (wrap .i64 (f+1)) g C))
 (((0:Int)<=(e:Int)/\(e:Int)<=((b.n:Nat):Int)/\((b.n:Nat):Int)<=(b.c:Nat)) /\
 RunW Pz (Builtin.clear_ #[257] 0 #[.slice (subA b.a (e.toNat) b.c 3) (Int.toNat (b.n:Nat)-e.toNat) (b.c-e.toNat)]) g (fun V U=>
 ((0:Int)<=(0:Int)/\(0:Int)<=(e:Int)/\(e:Int)<=(b.c:Nat)) /\
 R (.slice (subA b.a (Int.toNat 0) b.c 3) (e.toNat-Int.toNat 0) (b.c-Int.toNat 0)) U)))
 (∃D,D<F/\E (wrap .i64 (d+1)) i D))
 (R (vS b) i))
theorem vc205 (p0:Sl) (H:@W205 h R p0):Fn Pz 205 #[vS p0] h R:=fnJ (A:=(.s .z (.s .z (.s (.s .z (.b (.l [(3,.one (.int .i64))] (.s .z (.s (.b (.s .z (.c (.s .z (.s (.s .z (.b (.l [(3,.one (.int .i64)),(5,.one (.int .i64))] .z))) .z)) .z))) .z))))) .z)))) H
def W164 (b:Addr) (pa pb:Int):Prop:=
 Wn h [vI pa,vI pb] 272 fun o=>
 ∃w,rS o ⟨b.block,b.off+9,none⟩ w /\
 ∃x,rI o (aS h 0) x /\
 NB w.a fun b6 o7=>Ib x w.n /\
 ∃p,rS o ⟨b6,o7+x.toNat*1,none⟩ p /\
 QSSI ⟨none,0,0⟩ ⟨none,0,0⟩ 0 o fun N y z l c O=>
 sB (decide (l<(p.n:Int)))
 (NB p.a fun f1 g1=>Ib l p.n /\
 ∃m,rI c ⟨f1,g1+l.toNat*1,none⟩ m /\
 ∃A,rS c ⟨b.block,b.off+6,none⟩ A /\
 NB A.a fun h1 i1=>Ib m A.n /\
 ∃P Q S T U V,aL3 c ⟨h1,i1+m.toNat*6,none⟩ P Q S T U V /\
 Wn c [vI 0,vI 0,vI 0,vI 0,vI 0,.bool false] 55 fun j1=>
 Wp j1 (aS c 0) 6 (L3 P Q S T U V) fun W=>
 ∃X Y Z a0 b0 c0,aL3 W (aS c 0) X Y Z a0 b0 c0 /\
 Fn Pz 160 #[.pointer (some b),.agg ⟨(L3 X Y Z a0 b0 c0)⟩] W
 (fun k1 B=>∃(d0:Bool) (e0 f0:Int) (g0:Bool),k1=.tuple ⟨[.agg ⟨(L1 d0 e0 f0)⟩,.bool g0]⟩ /\
 Wn B [.bool false,vI 0,vI 0] 252 fun l1=>
 Wp l1 (aS B 0) 3 (L1 d0 e0 f0) fun f=>
 sB (!g0)
 (∃h0,rI f (aS c 4) h0 /\
 ∃i0,rI f (aS h 1) i0 /\
 Wn f [vI m,vI (-1),vI h0,vI i0] 276 fun m1=>
 App Pz 273 273 (vS y) (.slice (some (aS f 0)) 1 1) m1 fun n1 o1=>
 ∃j0,j0<O/\N n1 z (wrap .i64 (l+1)) o1 j0)
 (∃C,rS f ⟨b.block,b.off+9,none⟩ C /\
 ∃D,rI f (aS h 1) D /\
 NB C.a fun p1 q1=>Ib D C.n /\
 ∃q,rS f ⟨p1,q1+D.toNat*1,none⟩ q /\
 QSI z 0 f fun E r j g F=>
 sB (decide (j<(q.n:Int)))
 (NB q.a fun r1 s1=>Ib j q.n /\
 ∃s,rI g ⟨r1,s1+j.toNat*1,none⟩ s /\
 ∃G,rS g ⟨b.block,b.off+6,none⟩ G /\
 NB G.a fun t1 u1=>Ib s G.n /\
 ∃k0 l0 m0 n0 o0 p0,aL3 g ⟨t1,u1+s.toNat*6,none⟩ k0 l0 m0 n0 o0 p0 /\
 Wn g [vI 0,vI 0,vI 0,vI 0,vI 0,.bool false] 55 fun v1=>
 Wp v1 (aS g 0) 6 (L3 k0 l0 m0 n0 o0 p0) fun q0=>
 ∃r0 s0 t0 u0 v0 w0,aL3 q0 (aS g 0) r0 s0 t0 u0 v0 w0 /\
 Fn Pz 160 #[.pointer (some b),.agg ⟨(L3 r0 s0 t0 u0 v0 w0)⟩] q0
 (fun w1 H=>∃(x0:Bool) (y0 z0:Int) (A0:Bool),w1=.tuple ⟨[.agg ⟨(L1 x0 y0 z0)⟩,.bool A0]⟩ /\
 Wn H [.bool false,vI 0,vI 0] 252 fun x1=>
 Wp x1 (aS H 0) 3 (L1 x0 y0 z0) fun i=>
 sB A0
 (∃B0 C0 D0,aL1 i (aS B 0) B0 C0 D0 /\
 ∃E0 F0 G0,aL1 i (aS H 0) E0 F0 G0 /\
 sB ((B0==E0)&&((C0==F0)&&((D0==G0)&&true)))
 (∃H0,rI i (aS c 4) H0 /\
 ∃I0,rI i (aS g 4) I0 /\
 Wn i (L7 m s H0 I0) 276 fun y1=>
 App Pz 273 273 (vS r) (.slice (some (aS i 0)) 1 1) y1 fun z1 A1=>
 ∃J0,J0<F/\E z1 (wrap .i64 (j+1)) A1 J0)
 (∃K0,K0<F/\E r (wrap .i64 (j+1)) i K0))
 (∃L0,L0<F/\E r (wrap .i64 (j+1)) i L0)))
 (∃M0,M0<O/\N y r (wrap .i64 (l+1)) g M0))))
 (∃I,rS c ⟨b.block,b.off+9,none⟩ I /\
 ∃J,rI c (aS h 1) J /\
 NB I.a fun B1 C1=>Ib J I.n /\
 ∃t,rS c ⟨B1,C1+J.toNat*1,none⟩ t /\
 QSI ⟨none,0,0⟩ 0 c fun K u k d L=>
 sB (decide (k<(t.n:Int)))
 (NB t.a fun D1 E1=>Ib k t.n /\
 ∃v,rI d ⟨D1,E1+k.toNat*1,none⟩ v /\
 ∃M,rS d ⟨b.block,b.off+6,none⟩ M /\
 NB M.a fun F1 G1=>Ib v M.n /\
 ∃N0 O0 P0 Q0 R0 S0,aL3 d ⟨F1,G1+v.toNat*6,none⟩ N0 O0 P0 Q0 R0 S0 /\
 Wn d [vI 0,vI 0,vI 0,vI 0,vI 0,.bool false] 55 fun H1=>
 Wp H1 (aS d 0) 6 (L3 N0 O0 P0 Q0 R0 S0) fun e=>
 ∃T0,rI e (aS d 1) T0 /\
 ∃U0,rI e ⟨b.block,b.off+8,none⟩ U0 /\
 sB (T0 != U0)
 (∃V0,rI e (aS d (1+1)) V0 /\
 ∃W0,rI e ⟨b.block,b.off+8,none⟩ W0 /\
 sB (V0 != W0)
 (∃X0,rI e (aS h 0) X0 /\
 ∃Y0,rI e (aS d 4) Y0 /\
 Wn e [vI (-1),vI v,vI X0,vI Y0] 276 fun I1=>
 App Pz 273 273 (vS u) (.slice (some (aS e 0)) 1 1) I1 fun J1 K1=>
 ∃Z0,Z0<L/\K J1 (wrap .i64 (k+1)) K1 Z0)
 (∃a1,a1<L/\K u (wrap .i64 (k+1)) e a1))
 (∃b1,b1<L/\K u (wrap .i64 (k+1)) e b1))
 (Wn d (L12 y u z) 273 fun M1=>
 Fn Pz 211 #[.slice (some (aS d 0)) 3 3] M1
 (fun N1 O1=>∃c1,iS N1 c1 /\
 R (vS c1) O1)))
theorem vc164 (p0:Addr) (pa pb:Int) (H:@W164 h R p0 pa pb):Fn Pz 164 #[.pointer (some p0),.agg ⟨[vI pa,vI pb]⟩] h R:=fnJ (A:=(.s .z (.s .z (.s (.s .z (.b (.l [(5,.one (.slice)),(7,.one (.slice)),(30,.one (.int .i64))] (.s .z (.s .z (.s (.b (.s .z (.s .z (.s .z (.s .z (AJ 7 69)))))) .z)))))) (.s (AJ 6 115) .z))))) H
def W211 (b:Sl):Prop:=
 QII 0 0 h fun p e c f q=>
 sB (decide (c<(b.n:Int)))
 (NB b.a fun r s=>Ib c b.n /\
 ∃g,rS f ⟨r,s+c.toNat*1,none⟩ g /\
 sB (decide ((wrap .i64 (e+(g.n:Int)))<0))
 (False)
 (∃j,j<q/\p (wrap .i64 (e+(g.n:Int))) (wrap .i64 (c+1)) f j))
 (Fn Pz 250 #[vN,vI e] f
 (fun t u=>∃k,iS t k /\
 QSI k 0 u fun v l d i w=>
 sB (decide (d<(b.n:Int)))
 (NB b.a fun x y=>Ib d b.n /\
 ∃m,rS i ⟨x,y+d.toNat*1,none⟩ m /\
 App Pz 273 273 (vS l) (vS m) i fun z A=>
 ∃o,o<w/\v z (wrap .i64 (d+1)) A o)
 (R (vS l) i)))
theorem vc211 (p0:Sl) (H:@W211 h R p0):Fn Pz 211 #[vS p0] h R:=fnJ (A:=(.s .z (.s .z (.s (.s .z (.b (.l [(3,.one (.int .i64)),(11,.one (.int .i64))] .z))) (.s .z (.s (AJ 6 27) .z)))))) H
def W250 (b:Sl) (e:Int):Prop:=
 ∃g:Heap->Prop,
 (sB (decide (e<0))
 (False)
 (g h)) /\
 ∀(_:Env) (f:Heap),g f ->
 (sB (decide ((wrap .i64 (e-(wrap .i64 ((b.c:Int)-(b.n:Int)))))>0))
 (((0:Int)<=(0:Int)/\(0:Int)<=((b.c:Int):Int)/\((b.c:Int):Int)<=(b.c:Nat)) /\
 App Pz 273 3 (.slice (subA b.a (Int.toNat 0) b.c 4) (Int.toNat (b.c:Int)-Int.toNat 0) (b.c-Int.toNat 0)) (vI (wrap .i64 (e-(wrap .i64 ((b.c:Int)-(b.n:Int)))))) f fun d i=>
 ((0:Int)<=(0:Int)/\(0:Int)<=((b.n:Int):Int)/\((b.n:Int):Int)<=(d.c:Nat)) /\
 R (.slice (subA d.a (Int.toNat 0) d.c 4) (Int.toNat (b.n:Int)-Int.toNat 0) (d.c-Int.toNat 0)) i)
 (R (vS b) f))
theorem vc250 (p0:Sl) (p1:Int) (H:@W250 h R p0 p1):Fn Pz 250 #[vS p0,vI p1] h R:=fnJ (A:=(.s .z (.j [] .z .z))) H
def V161a (l:Heap) (f:Addr) (u:Int) (g:Sl) (v:Heap) (w:Int) (x:Heap) (Z:Nat) (I7:Sl->Heap->Nat->Prop):Prop:=
 ∃m,rS l ⟨f.block,f.off+9,none⟩ m/\NB m.a fun b0 c0=>Ib u m.n/\∃h,rS l ⟨b0,c0+u.toNat*1,none⟩ h/\QSI ⟨(subA g.a (Int.toNat 0) g.c 1),(Int.toNat (wrap .i64 ((g.n:Int)-1))-Int.toNat 0),(g.c-Int.toNat 0)⟩ 0 l fun o i e b p=>sB (decide (e<(h.n:Int))) (NB h.a fun d0 e0=>Ib e h.n/\∃q,rI b ⟨d0,e0+e.toNat*1,none⟩ q/\∃r,rS b ⟨f.block,f.off+6,none⟩ r/\NB r.a fun f0 g0=>Ib q r.n/\∃y z A B C D,aL3 b ⟨f0,g0+q.toNat*6,none⟩ y z A B C D/\Wn b [vI 0,vI 0,vI 0,vI 0,vI 0,.bool false] 55 fun h0=>Wp h0 (aS b 0) 6 (L3 y z A B C D) fun E=>∃F G H I J K,aL3 E (aS b 0) F G H I J K/\Fn Pz 160 #[.pointer (some f),.agg ⟨(L3 F G H I J K)⟩] E (fun i0 s=>∃(L:Bool) (M N:Int) (O:Bool),i0=.tuple ⟨[.agg ⟨(L1 L M N)⟩,.bool O]⟩/\Wn s [.bool false,vI 0,vI 0] 252 fun j0=>Wp j0 (aS s 0) 3 (L1 L M N) fun d=>sB O (∃P,rS d (aS v 0) P/\∃Q R S,aL1 d (aS s 0) Q R S/\Wn d (L1 Q R S) 252 fun k0=>App Pz 257 257 (vS P) (.slice (some (aS d 0)) 1 1) k0 fun l0 m0=>Wp m0 (aS v 0) 1 [vS l0] fun n0=>∃T,T<p/\o i (wrap .i64 (e+1)) n0 T) (∃j,rI d (aS b 4) j/\(0<=(j:Int)/\(j:Int)<((w.toNat):Nat))/\∃U,rB d (aS x (0+j.toNat*1)) U/\sB (!U) (∃k,rI d (aS b 4) k/\(0<=(k:Int)/\(k:Int)<((w.toNat):Nat))/\Wp d (aS x (0+k.toNat*1)) 1 [.bool true] fun t=>∃V,rI t (aS b 4) V/\Wn t [vI V] 3 fun o0=>App Pz 42 42 (vS i) (.slice (some (aS t 0)) 1 1) o0 fun p0 q0=>∃W,W<p/\o p0 (wrap .i64 (e+1)) q0 W) (∃X,X<p/\o i (wrap .i64 (e+1)) d X)))) (∃Y,Y<Z/\I7 i b Y)
def W161 (g:Addr) (j:Int):Prop:=
 Wn h [vN,.bool false] 259 fun i=>∃e,rI i ⟨g.block,g.off+3,none⟩ e/\Mk e e 1/\Wn i (madeL Pz 4 (e.toNat)) 4 fun B=>(0<=(j:Int)/\(j:Int)<((e.toNat):Nat))/\Wp B (aS i (0+j.toNat*1)) 1 [.bool true] fun d=>Wn d [vN,.bool false] 259 fun l=>Wn l [vI j] 3 fun C=>QS ⟨(some (aS l 0)),1,1⟩ C fun m b f o=>sB (decide ((b.n:Int)>0)) (NB b.a fun D E=>(0<=((wrap .i64 ((b.n:Int)-1)):Int)/\((wrap .i64 ((b.n:Int)-1)):Int)<(b.n:Nat))/\∃k,rI f ⟨D,E+Int.toNat (wrap .i64 ((b.n:Int)-1))*1,none⟩ k/\((0:Int)<=(0:Int)/\(0:Int)<=((wrap .i64 ((b.n:Int)-1)):Int)/\((wrap .i64 ((b.n:Int)-1)):Int)<=(b.c:Nat))/\∃p,rB f (aS d 1) p/\sB p (Wp f (aS d 1) 1 [.bool true] fun F=>V161a F g k b d e i o m) (∃q,rI f ⟨g.block,g.off+5,none⟩ q/\Wp f (aS d 1) 1 [.bool (k==q)] fun G=>V161a G g k b d e i o m)) (∃r,rS f (aS d 0) r/\Fn Pz 203 #[vS r,.func (.func 204) #[] #[]] f (fun H s=>H=.tuple ⟨[]⟩/\∃t,rS s (aS d 0) t/\Fn Pz 205 #[vS t] s (fun I J=>∃u,iS I u/\Wp J (aS d 0) 1 [vS u] fun v=>∃(w:Sl) (x:Bool),atC v (aS d 0) [vS w,.bool x]/\Wp v (aS h 0) 2 [vS w,.bool x] fun y=>∃(z:Sl) (A:Bool),atC y (aS h 0) [vS z,.bool A]/\R (.agg ⟨[vS z,.bool A]⟩) y)))
theorem vc161 (p0:Addr) (p1:Int) (H:@W161 h R p0 p1):Fn Pz 161 #[.pointer (some p0),vI p1] h R:=fnJ (A:=(.s .z (.s .z (.s .z (.s .z (.s (.s .z (.b (.l [(7,.one (.slice))] (.s .z (.b (.s .z (.s .z (.s .z (AJ 7 59))))))))) .z)))))) H
def W119 (b:Addr):Prop:=
 ∃p,rI h ⟨b.block,b.off+4,none⟩ p /\
 ∃q,rI h ⟨b.block,b.off+4,none⟩ q /\
 Wn h [vI 0,vI 0] 272 fun r=>
 Sm [⟨b.block,b.off+4,none⟩,⟨b.block,b.off+4,none⟩] h r /\
 Wp r (aS h 0) 2 [vI p,vI q] fun j=>
 ∃(s t:Int),atC j (aS h 0) [vI s,vI t] /\
 Wn j [vI s,vI t] 272 fun U=>
 RunW Pz (Instr.makeMap 202 (none)) U
 (fun V u=>∃e:Option Nat,V=.map e /\
 ∃(v w:Int),atC u (aS h 0) [vI v,vI w] /\
 RunW Pz (Instr.mapUpdate 202 (.map e) (.agg ⟨[vI v,vI w]⟩) vN) u (fun _ W=>
 QSI ⟨(some (aS j 0)),1,1⟩ 0 W fun X c f k Y=>
 sB (decide (f<(c.n:Int)))
 (NB c.a fun Z a0=>Ib f c.n /\
 ∃(x y:Int),atC k ⟨Z,a0+f.toNat*2,none⟩ [vI x,vI y] /\
 Fn Pz 164 #[.pointer (some b),.agg ⟨[vI x,vI y]⟩] k
 (fun b0 z=>∃g,iS b0 g /\
 NB c.a fun c0 d0=>Ib f c.n /\
 ∃(A B:Int),atC z ⟨c0,d0+f.toNat*2,none⟩ [vI A,vI B] /\
 RunW Pz (Instr.mapUpdate 202 (.map e) (.agg ⟨[vI A,vI B]⟩) (vS g)) z (fun _ e0=>
 QSI c 0 e0 fun C l i d D=>
 sB (decide (i<(g.n:Int)))
 (NB g.a fun f0 g0=>Ib i g.n /\
 ∃E F G H,aL7 d ⟨f0,g0+i.toNat*4,none⟩ E F G H /\
 Wn d [vI 0,vI 0,vI 0,vI 0] 276 fun h0=>
 Wp h0 (aS d 0) 4 (L7 E F G H) fun I=>
 ∃(J K:Int),atC I (aS d 2) [vI J,vI K] /\
 RunW Pz (Instr.lookup 202 (.map e) (.agg ⟨[vI J,vI K]⟩) true) I
 (fun i0 m=>∃(j0:Sl) (L:Bool),i0=.tuple ⟨[vS j0,.bool L]⟩ /\
 sB (!L)
 (∃(M N:Int),atC m (aS d 2) [vI M,vI N] /\
 RunW Pz (Instr.mapUpdate 202 (.map e) (.agg ⟨[vI M,vI N]⟩) vN) m (fun _ o=>
 ∃(O P:Int),atC o (aS d 2) [vI O,vI P] /\
 Wn o [vI O,vI P] 272 fun k0=>
 App Pz 201 201 (vS l) (.slice (some (aS o 0)) 1 1) k0 fun l0 m0=>
 ∃Q,Q<D/\C l0 (wrap .i64 (i+1)) m0 Q))
 (∃S,S<D/\C l (wrap .i64 (i+1)) m S)))
 (∃T,T<Y/\X l (wrap .i64 (f+1)) d T))))
 (R (.tuple ⟨[vS c,.map e]⟩) k)))
theorem vc119 (p0:Addr) (H:@W119 h R p0):Fn Pz 119 #[.pointer (some p0)] h R:=fnJ (A:=(.s .z (.s .z (.s .z (.s .z (.s (.s .z (.b (.l [(5,.one (.slice)),(7,.one (.int .i64))] (.s .z (.s (.b (.s .z (.s .z (AJ 5 49)))) .z))))) .z)))))) H
def W167 (b:Addr) (d pa pb:Int):Prop:=
 Wn h [vI pa,vI pb] 272 fun a=>
 sB (d==1)
 (∃(e f:Int),atC a (aS h 0) [vI e,vI f] /\
 Fn Pz 171 #[.pointer (some b),.agg ⟨[vI e,vI f]⟩] a
 (fun y g=>∃(i:Bool) (j k:Int) (l:Bool),y=.tuple ⟨[.agg ⟨(L1 i j k)⟩,.bool l]⟩ /\
 Wn g [.bool false,vI 0,vI 0] 252 fun z=>
 Wp z (aS g 0) 3 (L1 i j k) fun A=>
 R (.tuple ⟨[vI 0,.bool l]⟩) A))
 (sB (d==3)
 (∃(m n:Int),atC a (aS h 0) [vI m,vI n] /\
 Fn Pz 213 #[.pointer (some b),.agg ⟨[vI m,vI n]⟩] a
 (fun B C=>∃o,iB B o /\
 R (.tuple ⟨[vI 0,.bool o]⟩) C))
 (∃(p q:Int),atC a (aS h 0) [vI p,vI q] /\
 Fn Pz 173 #[.pointer (some b),.agg ⟨[vI p,vI q]⟩] a
 (fun D c=>∃(r s t u:Int) (v:Bool),D=.tuple ⟨[.agg ⟨(L7 r s t u)⟩,.bool v]⟩ /\
 Wn c [vI 0,vI 0,vI 0,vI 0] 270 fun E=>
 Wp E (aS c 0) 4 (L7 r s t u) fun w=>
 ∃x,rI w (aS c 1) x /\
 R (.tuple ⟨[vI x,.bool v]⟩) w)))
theorem vc167 (p0:Addr) (p1 pa pb:Int) (H:@W167 h R p0 p1 pa pb):Fn Pz 167 #[.pointer (some p0),vI p1,.agg ⟨[vI pa,vI pb]⟩] h R:=fnJ (A:=.z) H
def V173a (a g h:Heap) (i:Nat) (j:Int->Heap->Nat->Prop) (k:Int):Prop:=
 ∃b c d e,aL7 a (aS g 0) b c d e/\Wp a (aS h 0) 4 (L7 b c d e) fun l=>∃f,f<i/\j (wrap .i64 (k+1)) l f
def W173 (g:Addr) (pa pb:Int):Prop:=
 Wn h [vI pa,vI pb] 272 fun m=>Wn m [vI 0,vI 0,vI 0,vI 0] 270 fun c=>Wn c [vI 0,vI 0,vI 0,vI 0] 270 fun i=>∃o,rS i ⟨g.block,g.off+14,none⟩ o/\∃p,rI i (aS h 0) p/\NB o.a fun Q S=>Ib p o.n/\∃j,rS i ⟨Q,S+p.toNat*1,none⟩ j/\QI 0 i fun k d b l=>sB (decide (d<(j.n:Int))) (NB j.a fun T U=>Ib d j.n/\∃t u v w,aL7 b ⟨T,U+d.toNat*4,none⟩ t u v w/\Wn b [vI 0,vI 0,vI 0,vI 0] 270 fun V=>Wp V (aS b 0) 4 (L7 t u v w) fun f=>∃q,rS f ⟨g.block,g.off+10,none⟩ q/\∃r,rI f (aS h 1) r/\NB q.a fun W X=>Ib r q.n/\∃(x:Sl) (y:Bool),atC f ⟨W,X+r.toNat*2,none⟩ [vS x,.bool y]/\∃z,rI f (aS b 2) z/\∃A,rI f (aS b (2+1)) A/\Fn Pz 214 #[.agg ⟨[vS x,.bool y]⟩,.agg ⟨[.bool false,vI z,vI A]⟩] f (fun Y e=>∃B,iB Y B/\sB B (∃C,rI e (aS c 1) C/\sB (C==0) (V173a e b c l k d) (∃D,rI e (aS b 1) D/\∃E,rI e (aS c 1) E/\sB (decide (D<E)) (V173a e b c l k d) (∃F,F<l/\k (wrap .i64 (d+1)) e F))) (∃G,G<l/\k (wrap .i64 (d+1)) e G))) (∃H I J K,aL7 b (aS c 0) H I J K/\∃L,rI b (aS c 1) L/\Wp b (aS m 0) 4 (L7 H I J K) fun s=>Sm [(aS c 1)] b s/\∃M N O P,aL7 s (aS m 0) M N O P/\R (.tuple ⟨[.agg ⟨(L7 M N O P)⟩,.bool (decide (L>0))]⟩) s)
theorem vc173 (p0:Addr) (pa pb:Int) (H:@W173 h R p0 pa pb):Fn Pz 173 #[.pointer (some p0),.agg ⟨[vI pa,vI pb]⟩] h R:=fnJ (A:=(.s .z (.s .z (.s (AI 18) .z)))) H
def W168 (g:Sl) (q:Value):Prop:=
 QI 0 h fun o b f p=>
 sB (decide (b<(g.n:Int)))
 (NB g.a fun r s=>Ib b g.n /\
 ∃i j k l,aL7 f ⟨r,s+b.toNat*4,none⟩ i j k l /\
 match q with | .func (.func g12) fa13 fc14=>(bif callable Pz g12 then Fn Pz g12 (fa13 ++ #[.agg ⟨(L7 i j k l)⟩]++fc14) f
 (fun m c=>∃d,iB m d /\
 sB d
 (R (vI b) c)
 (∃e,e<p/\o (wrap .i64 (b+1)) c e)) else ExtW Pz g12 (fa13 ++ #[.agg ⟨(L7 i j k l)⟩]++fc14) f
 (fun m c=>∃d,iB m d /\
 sB d
 (R (vI b) c)
 (∃e,e<p/\o (wrap .i64 (b+1)) c e))) | _=>False)
 (R (vI (-1)) f)
theorem vc168 (p0:Sl) (p1:Value) (H:@W168 h R p0 p1):Fn Pz 168 #[vS p0,p1] h R:=fnJ (A:=(.s .z (.s (AI 8) .z))) H
def W169 (pa pb pc pd:Int) (b:Addr) (c:Addr):Prop:=
 Wn h (L7 pa pb pc pd) 276 fun a=>
 ∃f g i j,aL7 a (aS h 0) f g i j /\
 ∃k:Option Nat,hc a b=some (.map k) /\
 ∃(l m:Int),atC a (aS h 2) [vI l,vI m] /\
 ∃n:Option Nat,hc a b=some (.map n) /\
 ∃(o p:Int),atC a c [vI o,vI p] /\
 Fn Pz 170 #[.agg ⟨(L7 f g i j)⟩] a
 (fun u d=>∃q,iI u q /\
 Sm [c,b,(aS h 2),b] a d /\
 Fn Pz 166 #[.map k,.agg ⟨[vI l,vI m]⟩] d
 (fun v e=>∃r,iI v r /\
 Sm [c,b,(aS h 0)] d e /\
 Fn Pz 166 #[.map n,.agg ⟨[vI o,vI p]⟩] e
 (fun w s=>∃t,iI w t /\
 Sm [(aS h 2),b,(aS h 0)] e s /\
 R (.bool ((wrap .i64 (q+r))==t)) s)))
theorem vc169 (pa pb pc pd:Int) (c0:Addr) (c1:Addr) (H:@W169 h R pa pb pc pd c0 c1):Fn Pz 169 #[.agg ⟨(L7 pa pb pc pd)⟩,.pointer (some c0),.pointer (some c1)] h R:=fnJ (A:=.z) H
def V212a (e:Heap) (y:Addr) (h:Heap) (d:Int) (c:Addr) (R:Value->Heap->Prop):Prop:=
 ∃k:Option Nat,hc e y=some (.map k)/\∃(l m:Int),atC e (aS h 0) [vI l,vI m]/\RunW Pz (Instr.mapUpdate 278 (.map k) (.agg ⟨[vI l,vI m]⟩) (vI d)) e (fun _ z=>∃f:Heap->Nat->Prop,(∃A,f z A)/\∀(_:Env) (b:Heap) (o:Nat),f b o->(∃p,rS b c p/\sB (decide ((p.n:Int)<=d)) (∃q,rS b c q/\Wn b [vN] 201 fun B=>App Pz 324 324 (vS q) (.slice (some (aS b 0)) 1 1) B fun C D=>Wp D c 1 [vS C] fun E=>∃r,r<o/\f E r) (∃g,rS b c g/\∃i,rS b c i/\NB i.a fun s t=>Ib d i.n/\∃u,rS b ⟨s,t+d.toNat*1,none⟩ u/\∃(v w:Int),atC b (aS h 0) [vI v,vI w]/\Wn b [vI v,vI w] 272 fun j=>Sm [⟨s,t+d.toNat*1,none⟩,c,c] b j/\App Pz 201 201 (vS u) (.slice (some (aS b 0)) 1 1) j fun F x=>Sm [c] j x/\NB g.a fun G H=>Ib d g.n/\Wp x ⟨G,H+d.toNat*1,none⟩ 1 [vS F] fun I=>R (.tuple ⟨[]⟩) I)))
def W212 (pa pb a:Int) (b:Addr) (e:Addr):Prop:=
 Wn h [vI pa,vI pb] 272 fun c=>∃f:Option Nat,hc c b=some (.map f)/\∃(g i:Int),atC c (aS h 0) [vI g,vI i]/\RunW Pz (Instr.lookup 278 (.map f) (.agg ⟨[vI g,vI i]⟩) true) c (fun l d=>∃(j:Int) (k:Bool),l=.tuple ⟨[vI j,.bool k]⟩/\sB k (sB (decide (j<=a)) (R (.tuple ⟨[]⟩) d) (V212a d b h a e R)) (V212a d b h a e R))
theorem vc212 (pa pb p1:Int) (c0:Addr) (c1:Addr) (H:@W212 h R pa pb p1 c0 c1):Fn Pz 212 #[.agg ⟨[vI pa,vI pb]⟩,vI p1,.pointer (some c0),.pointer (some c1)] h R:=fnJ (A:=(.s .z (.s .z (.s .z (.s (.b (.l [] .z)) .z))))) H
def W165 (p0:Addr) (p1:Int) (m:Sl) (p3:Option Nat):Prop:=
 RunW Pz (Instr.makeMap 278 (some (vI (m.n:Int)))) h
 (fun v1 g=>∃B:Option Nat,v1=.map B /\
 Wn g [.map none] 278 fun h4=>
 Wp h4 (aS g 0) 1 [.map B] fun h5=>
 RunW Pz (Instr.makeMap 202 (none)) h5
 (fun v6 i=>∃o:Option Nat,v6=.map o /\
 Wn i [vN] 324 fun h9=>
 QI 0 h9 fun C k c D=>
 sB (decide (k<(m.n:Int)))
 (NB m.a fun Q0 R0=>Ib k m.n /\
 ∃(E F:Int),atC c ⟨Q0,R0+k.toNat*2,none⟩ [vI E,vI F] /\
 Wn c [vI 0,vI 0] 272 fun S0=>
 Wp S0 (aS c 0) 2 [vI E,vI F] fun G=>
 ∃(H I:Int),atC G (aS c 0) [vI H,vI I] /\
 RunW Pz (Instr.lookup 202 (.map p3) (.agg ⟨[vI H,vI I]⟩) false) G
 (fun T0 U0=>∃p,iS T0 p /\
 QI 0 U0 fun V0 q d W0=>
 sB (decide (q<(p.n:Int)))
 (NB p.a fun X0 Y0=>Ib q p.n /\
 ∃J K L M,aL7 d ⟨X0,Y0+q.toNat*4,none⟩ J K L M /\
 Wn d [vI 0,vI 0,vI 0,vI 0] 276 fun Z0=>
 Wp Z0 (aS d 0) 4 (L7 J K L M) fun j=>
 ∃(N O:Int),atC j (aS d 2) [vI N,vI O] /\
 ∃P,rI j (aS d 0) P /\
 ∃Q,rI j (aS d 1) Q /\
 ∃(S T:Int),atC j (aS c 0) [vI S,vI T] /\
 Wn j (L7 P Q S T) 276 fun a1=>
 RunW Pz (Instr.mapEntry 202 (.map o) (.agg ⟨[vI N,vI O]⟩)) a1 (fun b1 c1=>
 ∃(U:Sl) (V:Int),b1=.tuple ⟨[vS U,vI V]⟩ /\
 App Pz 273 273 (vS U) (.slice (some (aS j 0)) 1 1) c1 fun d1 e1=>
 RunW Pz (Instr.entryStore 202 (.map o) (vI V) (vS d1)) e1 (fun _ f1=>
 ∃W,W<W0/\V0 (wrap .i64 (q+1)) f1 W)))
 (∃(X Y:Int),atC d (aS c 0) [vI X,vI Y] /\
 Fn Pz 167 #[.pointer (some p0),vI p1,.agg ⟨[vI X,vI Y]⟩] d
 (fun g1 v=>∃(Z:Int) (a0:Bool),g1=.tuple ⟨[vI Z,.bool a0]⟩ /\
 sB a0
 (∃(b0 c0:Int),atC v (aS c 0) [vI b0,vI c0] /\
 Fn Pz 212 #[.agg ⟨[vI b0,vI c0]⟩,vI Z,.pointer (some (aS g 0)),.pointer (some (aS i 0))] v
 (fun h1 i1=>h1=.tuple ⟨[]⟩ /\
 ∃d0,d0<D/\C (wrap .i64 (k+1)) i1 d0))
 (∃e0,e0<D/\C (wrap .i64 (k+1)) v e0)))))
 (QI 0 c fun j1 e r k1=>
 ∃f0,rS r (aS i 0) f0 /\
 sB (decide (e<(f0.n:Int)))
 (QI 0 r fun g0 l b h0=>
 ∃w,rS b (aS i 0) w /\
 NB w.a fun l1 m1=>Ib e w.n /\
 ∃i0,rS b ⟨l1,m1+e.toNat*1,none⟩ i0 /\
 sB (decide (l<(i0.n:Int)))
 (∃x,rS b (aS i 0) x /\
 NB x.a fun n1 o1=>Ib e x.n /\
 ∃y,rS b ⟨n1,o1+e.toNat*1,none⟩ y /\
 NB y.a fun p1 q1=>Ib l y.n /\
 ∃(j0 k0:Int),atC b ⟨p1,q1+l.toNat*2,none⟩ [vI j0,vI k0] /\
 Wn b [vI 0,vI 0] 272 fun r1=>
 Wp r1 (aS b 0) 2 [vI j0,vI k0] fun z=>
 ∃l0:Option Nat,hc z (aS g 0)=some (.map l0) /\
 ∃(m0 n0:Int),atC z (aS b 0) [vI m0,vI n0] /\
 RunW Pz (Instr.lookup 278 (.map l0) (.agg ⟨[vI m0,vI n0]⟩) false) z
 (fun s1 A=>∃o0,iI s1 o0 /\
 sB (o0 != e)
 (∃p0,p0<h0/\g0 (wrap .i64 (l+1)) A p0)
 (∃(q0 r0:Int),atC A (aS b 0) [vI q0,vI r0] /\
 RunW Pz (Instr.lookup 202 (.map o) (.agg ⟨[vI q0,vI r0]⟩) false) A
 (fun t1 u1=>∃s,iS t1 s /\
 QI 0 u1 fun v1 t f w1=>
 sB (decide (t<(s.n:Int)))
 (NB s.a fun x1 y1=>Ib t s.n /\
 ∃s0 t0 u0 v0,aL7 f ⟨x1,y1+t.toNat*4,none⟩ s0 t0 u0 v0 /\
 Wn f [vI 0,vI 0,vI 0,vI 0] 276 fun z1=>
 Wp z1 (aS f 0) 4 (L7 s0 t0 u0 v0) fun u=>
 ∃(w0 x0:Int),atC u (aS f 2) [vI w0,vI x0] /\
 ∃y0 z0 A0 B0,aL7 u (aS f 0) y0 z0 A0 B0 /\
 Fn Pz 170 #[.agg ⟨(L7 y0 z0 A0 B0)⟩] u
 (fun A1 C0=>∃D0,iI A1 D0 /\
 Sm [(aS f 2)] u C0 /\
 Fn Pz 212 #[.agg ⟨[vI w0,vI x0]⟩,vI (wrap .i64 (e+D0)),.pointer (some (aS g 0)),.pointer (some (aS i 0))] C0
 (fun B1 C1=>B1=.tuple ⟨[]⟩ /\
 ∃E0,E0<w1/\v1 (wrap .i64 (t+1)) C1 E0)))
 (∃F0,F0<h0/\g0 (wrap .i64 (l+1)) f F0)))))
 (∃G0,G0<k1/\j1 (wrap .i64 (e+1)) b G0))
 (∃H0:Option Nat,hc r (aS g 0)=some (.map H0) /\
 R (.map H0) r))))
theorem vc165 (p0:Addr) (p1:Int) (p2:Sl) (p3:Option Nat) (H:@W165 h R p0 p1 p2 p3):Fn Pz 165 #[.pointer (some p0),vI p1,vS p2,.map p3] h R:=fnJ (A:=(.s .z (.s .z (.s .z (.s .z (.s .z (.s (.s .z (.b (.l [(31,.one (.int .i64))] (.s .z (.s .z (.s (.b (.s .z (.s (AI 39) .z))) .z)))))) (.s (.s .z (.b (.l [(19,.one (.int .i64))] (.s .z (.s (.b (.s .z (.b (.l [(20,.one (.int .i64))] (.s .z (.s (.b (.s .z (.s .z (AI 102)))) .z)))))) .z))))) .z)))))))) H
def W246 (b:Sl) (c:Value):Prop:=
 Fn Pz 209 #[vS b,c] h
 (fun d e=>∃a,iI d a /\
 R (.bool (decide (a>=0))) e)
theorem vc246 (p0:Sl) (p1:Value) (H:@W246 h R p0 p1):Fn Pz 246 #[vS p0,p1] h R:=fnJ (A:=.z) H
def W247 (pa pb:Int) (pc:Sl) (f:Addr):Prop:=
 Wn h (L13 pa pb pc) 318 fun a=>
 ∃(b c:Int),atC a (aS h 0) [vI b,vI c] /\
 ∃(d e:Int),atC a f [vI d,vI e] /\
 R (.bool ((b==d)&&((c==e)&&true))) a
theorem vc247 (pa pb:Int) (pc:Sl) (c0:Addr) (H:@W247 h R pa pb pc c0):Fn Pz 247 #[.agg ⟨(L13 pa pb pc)⟩,.pointer (some c0)] h R:=fnJ (A:=.z) H
def W209 (g:Sl) (p:Value):Prop:=
 QI 0 h fun m b f o=>
 sB (decide (b<(g.n:Int)))
 (NB g.a fun q r=>Ib b g.n /\
 ∃i j k,aL13 f ⟨q,r+b.toNat*3,none⟩ i j k /\
 match p with | .func (.func g11) fa12 fc13=>(bif callable Pz g11 then Fn Pz g11 (fa12 ++ #[.agg ⟨(L13 i j k)⟩]++fc13) f
 (fun l c=>∃d,iB l d /\
 sB d
 (R (vI b) c)
 (∃e,e<o/\m (wrap .i64 (b+1)) c e)) else ExtW Pz g11 (fa12 ++ #[.agg ⟨(L13 i j k)⟩]++fc13) f
 (fun l c=>∃d,iB l d /\
 sB d
 (R (vI b) c)
 (∃e,e<o/\m (wrap .i64 (b+1)) c e))) | _=>False)
 (R (vI (-1)) f)
theorem vc209 (p0:Sl) (p1:Value) (H:@W209 h R p0 p1):Fn Pz 209 #[vS p0,p1] h R:=fnJ (A:=(.s .z (.s (AI 8) .z))) H
def W210 (pa pb:Int) (pc:Sl) (f:Addr):Prop:=
 Wn h (L13 pa pb pc) 318 fun a=>
 ∃(b c:Int),atC a (aS h 0) [vI b,vI c] /\
 ∃(d e:Int),atC a f [vI d,vI e] /\
 R (.bool ((b==d)&&((c==e)&&true))) a
theorem vc210 (pa pb:Int) (pc:Sl) (c0:Addr) (H:@W210 h R pa pb pc c0):Fn Pz 210 #[.agg ⟨(L13 pa pb pc)⟩,.pointer (some c0)] h R:=fnJ (A:=.z) H
def W248 (b:Sl):Prop:=
 QII 0 (wrap .i64 ((b.n:Int)-1)) h fun o c d e p=>
 sB (decide (c<d))
 (NB b.a fun q r=>Ib d b.n /\
 ∃f g i,aL2 e ⟨q,r+d.toNat*3,none⟩ f g i /\
 NB b.a fun s t=>Ib c b.n /\
 ∃j k l,aL2 e ⟨s,t+c.toNat*3,none⟩ j k l /\
 NB b.a fun u v=>Ib c b.n /\
 Wp e ⟨u,v+c.toNat*3,none⟩ 3 (L2 f g i) fun w=>
 NB b.a fun x y=>Ib d b.n /\
 Wp w ⟨x,y+d.toNat*3,none⟩ 3 (L2 j k l) fun z=>
 ∃m,m<p/\o (wrap .i64 (c+1)) (wrap .i64 (d-1)) z m)
 (R (.tuple ⟨[]⟩) e)
theorem vc248 (p0:Sl) (H:@W248 h R p0):Fn Pz 248 #[vS p0] h R:=fnJ (A:=(.s .z (.b (.l [(2,.one (.int .i64)),(3,.one (.int .i64))] .z)))) H
def W162 (pa:ByteArray) (pb pc:Sl) (pd pe pf:Int) (pg ph:Sl) (y:Int):Prop:=
 Wn h (L0 pa pb pc pd pe pf pg ph) 27 fun g=>
 ∃i j k l m o p q,aL0 g (aS h 0) i j k l m o p q /\
 Fn Pz 206 #[.agg ⟨(L0 i j k l m o p q)⟩,vI y] g
 (fun z A=>∃(c:Sl) (r:Int),z=.tuple ⟨[vS c,vI r]⟩ /\
 QSI ⟨none,0,0⟩ 0 A fun B e d b C=>
 sB (decide (d<(c.n:Int)))
 (NB c.a fun D E=>Ib d c.n /\
 ∃s t u,aL13 b ⟨D,E+d.toNat*3,none⟩ s t u /\
 Wn b [vI 0,vI 0,vN] 318 fun F=>
 Wp F (aS b 0) 3 (L13 s t u) fun f=>
 ∃(v w:Int),atC f (aS b 0) [vI v,vI w] /\
 Wn f [vI v,vI w] 265 fun G=>
 App Pz 261 261 (vS e) (.slice (some (aS f 0)) 1 1) G fun H I=>
 ∃x,x<C/\B H (wrap .i64 (d+1)) I x)
 (Fn Pz 207 #[vS e,.func (.func 208) #[] #[]] b
 (fun J K=>J=.tuple ⟨[]⟩ /\
 R (.tuple ⟨[vS e,vI r]⟩) K)))
theorem vc162 (pa:ByteArray) (pb pc:Sl) (pd pe pf:Int) (pg ph:Sl) (p1:Int) (H:@W162 h R pa pb pc pd pe pf pg ph p1):Fn Pz 162 #[.agg ⟨(L0 pa pb pc pd pe pf pg ph)⟩,vI p1] h R:=fnJ (A:=(.s .z (.s .z (.s .z (.s (AJ 8 19) .z))))) H
def W163 (pa:ByteArray) (pb pc:Sl) (pd pe pf:Int) (pg ph:Sl) (t pi pj:Int):Prop:=
 Wn h (L0 pa pb pc pd pe pf pg ph) 27 fun f=>
 Wn f [vI pi,vI pj] 265 fun g=>
 ∃i j k l m o p q,aL0 g (aS h 0) i j k l m o p q /\
 Fn Pz 206 #[.agg ⟨(L0 i j k l m o p q)⟩,vI t] g
 (fun u r=>∃(b:Sl) (d:Int),u=.tuple ⟨[vS b,vI d]⟩ /\
 sB (d != 0)
 (R (.tuple ⟨[vN,vI d]⟩) r)
 (Fn Pz 209 #[vS b,.func (.func 210) #[] #[.pointer (some (aS f 0))]] r
 (fun v e=>∃c,iI v c /\
 sB (decide (c<0))
 (R (.tuple ⟨[vN,vI 8]⟩) e)
 (NB b.a fun w x=>Ib c b.n /\
 ∃s,rS e ⟨w,x+c.toNat*3+2,none⟩ s /\
 R (.tuple ⟨[vS s,vI 0]⟩) e))))
theorem vc163 (pa:ByteArray) (pb pc:Sl) (pd pe pf:Int) (pg ph:Sl) (p1 pi pj:Int) (H:@W163 h R pa pb pc pd pe pf pg ph p1 pi pj):Fn Pz 163 #[.agg ⟨(L0 pa pb pc pd pe pf pg ph)⟩,vI p1,.agg ⟨[vI pi,vI pj]⟩] h R:=fnJ (A:=.z) H
def V206a (q:Heap) (r:Int) (s:Heap) (b:Sl) (t:Heap) (u:Sl) (v:Sl->Heap->Prop):Prop:=
 QSI ⟨(some (aS q 0)),1,1⟩ r s fun w e c d x=>
 NB b.a fun y z=>Ib c b.n /\
 ∃g,rI d ⟨y,z+c.toNat*7+3,none⟩ g /\
 sB (decide (g>=0))
 (NB b.a fun A B=>Ib c b.n /\
 ∃h i j,aL2 d ⟨A,B+c.toNat*7+4,none⟩ h i j /\
 Wn d (L2 h i j) 53 fun C=>
 App Pz 48 48 (vS e) (.slice (some (aS d 0)) 1 1) C fun D k=>
 NB b.a fun E F=>Ib c b.n /\
 ∃l,rI k ⟨E,F+c.toNat*7+3,none⟩ l /\
 ∃m,m<x/\w D l k m)
 (Fn Pz 248 #[vS e] d
 (fun G f=>G=.tuple ⟨[]⟩ /\
 ∃(o p:Int),atC f (aS t 0) [vI o,vI p] /\
 Wn f (L13 o p e) 318 fun H=>
 App Pz 314 314 (vS u) (.slice (some (aS f 0)) 1 1) H fun I J=>
 v I J))
def V206b (a:Heap) (q:Heap) (b:Heap) (c:Heap) (d:Sl) (W r:Int) (i:Sl) (s:Option Nat) (t:Nat) (u:Sl->Sl->Int->Heap->Nat->Prop) (v:Int):Prop:=
 ∃e:Sl->Heap->Prop,
 (∃w:Int,hc a (aS q 1)=some (.int .u8 w) /\
 ∃j,rI a (aS b 1) j /\
 0<=j/\sB ((andI .u8 (shrI .u8 w j) 1)==1)
 (∃x:Int,hc a (aS c 1)=some (.int .u8 x) /\
 ∃k,rI a (aS b (1+1)) k /\
 0<=k/\Wp a (aS c 1) 1 [.int .u8 (orI .u8 x (shlI .u8 1 k))] fun X=>
 e d X)
 (∃y,rI a (aS b (1+1)) y /\
 sB (y==W)
 (∃z:Int,hc a (aS q 2)=some (.int .u8 z) /\
 ∃l,rI a (aS b 1) l /\
 0<=l/\sB ((andI .u8 (shrI .u8 z l) 1)==0)
 (∃A:Int,hc a (aS c 2)=some (.int .u8 A) /\
 ∃m,rI a (aS b 1) m /\
 0<=m/\Wp a (aS c 2) 1 [.int .u8 (orI .u8 A (shlI .u8 1 m))] fun f=>
 ∃B,rI f (aS b 1) B /\
 ∃C,rI f (aS b (1+2)) C /\
 Wn f [vI 0,vI 0] 265 fun Y=>
 Wp Y (aS f 0) 2 [vI B,vI C] fun Z=>
 Fn Pz 246 #[vS d,.func (.func 247) #[] #[.pointer (some (aS f 0))]] Z
 (fun a0 g=>∃D,iB a0 D /\
 sB (!D)
 (∃E F G,aL2 g (aS b 1) E F G /\
 Wn g (L2 E F G) 53 fun b0=>
 V206a g r b0 i f d e)
 (e d g)))
 (e d a))
 (e d a))) /\
 ∀(_:Env) (n:Sl) (o:Heap),e n o ->
 (∃(H I J:Int),atC o (aS c 0) [vI H,.int .u8 I,.int .u8 J] /\
 RunW Pz (Instr.lookup 352 (.map s) (.agg ⟨[vI H,.int .u8 I,.int .u8 J]⟩) false) o
 (fun c0 p=>∃K,iB c0 K /\
 sB (!K)
 (∃(L M N:Int),atC p (aS c 0) [vI L,.int .u8 M,.int .u8 N] /\
 RunW Pz (Instr.mapUpdate 352 (.map s) (.agg ⟨[vI L,.int .u8 M,.int .u8 N]⟩) (.bool true)) p (fun _ h=>
 ∃(O P Q:Int),atC h (aS c 0) [vI O,.int .u8 P,.int .u8 Q] /\
 ∃R S T,aL2 h (aS b 1) R S T /\
 Wn h [vI O,.int .u8 P,.int .u8 Q,vI r,vI R,vI S,vI T] 354 fun d0=>
 App Pz 355 355 (vS i) (.slice (some (aS h 0)) 1 1) d0 fun e0 f0=>
 ∃U,U<t/\u e0 n (wrap .i64 (v+1)) f0 U))
 (∃V,V<t/\u i n (wrap .i64 (v+1)) p V)))
def W206 (pa:ByteArray) (pb pc:Sl) (pd pe pf:Int) (pg ph:Sl) (g:Int):Prop:=
 Wn h (L0 pa pb pc pd pe pf pg ph) 27 fun D=>
 ∃E F G H I J K L,aL0 D (aS h 0) E F G H I J K L /\
 Fn Pz 38 #[.agg ⟨(L0 E F G H I J K L)⟩] D
 (fun I0 b=>∃M,iB I0 M /\
 sB (!M)
 (R (.tuple ⟨[vN,vI 1]⟩) b)
 (sB (decide (g<0))
 (R (.tuple ⟨[vN,vI 2]⟩) b)
 (∃N,rS b (aS h 6) N /\
 sB (decide (g>=(N.n:Int)))
 (R (.tuple ⟨[vN,vI 2]⟩) b)
 (∃e,rI b (aS h 3) e /\
 Mk e e 24/\Wn b (madeL Pz 24 (e.toNat)) 24 fun O=>
 ∃p,rS O (aS h 6) p /\
 QI 0 O fun J0 q d K0=>
 sB (decide (q<(p.n:Int)))
 (NB p.a fun M0 N0=>Ib q p.n /\
 ∃P Q S T U V,aL3 d ⟨M0,N0+q.toNat*6,none⟩ P Q S T U V /\
 Wn d [vI 0,vI 0,vI 0,vI 0,vI 0,.bool false] 55 fun O0=>
 Wp O0 (aS d 0) 6 (L3 P Q S T U V) fun i=>
 ∃r,rI i (aS d 0) r /\
 ∃l,rI i (aS d 0) l /\
 (0<=(l:Int)/\(l:Int)<((e.toNat):Nat)) /\
 ∃W,rS i (aS b (0+l.toNat*1)) W /\
 ∃X Y Z a0 b0 c0,aL3 i (aS d 0) X Y Z a0 b0 c0 /\
 Wn i (L3 X Y Z a0 b0 c0) 55 fun x=>
 Sm [(aS b (0+l.toNat*1)),(aS d 0),(aS d 0)] i x /\
 App Pz 24 24 (vS W) (.slice (some (aS i 0)) 1 1) x fun P0 d0=>
 Sm [(aS d 0)] x d0 /\
 (0<=(r:Int)/\(r:Int)<((e.toNat):Nat)) /\
 Wp d0 (aS b (0+r.toNat*1)) 1 [vS P0] fun Q0=>
 ∃e0,e0<K0/\J0 (wrap .i64 (q+1)) Q0 e0)
 (QI 0 d fun R0 m c S0=>
 sB (decide (m<((e.toNat):Int)))
 ((0<=(m:Int)/\(m:Int)<((e.toNat):Nat)) /\
 ∃f0,rS c (aS b (0+m.toNat*1)) f0 /\
 Fn Pz 243 #[vS f0,.func (.func 244) #[] #[]] c
 (fun T0 U0=>T0=.tuple ⟨[]⟩ /\
 ∃g0,g0<S0/\R0 (wrap .i64 (m+1)) U0 g0))
 (∃y,rS c (aS h 6) y /\
 NB y.a fun V0 W0=>Ib g y.n /\
 ∃s,rI c ⟨V0,W0+g.toNat*6+1+1,none⟩ s /\
 ∃z,rS c (aS h 6) z /\
 NB z.a fun h0 i0=>Ib g z.n /\
 ∃j0,rI c ⟨h0,i0+g.toNat*6+4,none⟩ j0 /\
 0<=s/\Wn c [vI 0,.int .u8 0,.int .u8 0] 351 fun k0=>
 Sm [⟨h0,i0+g.toNat*6+4,none⟩,(aS h 6)] c k0 /\
 Wp k0 (aS c 0) 3 [vI j0,.int .u8 (shlI .u8 1 s),.int .u8 0] fun X0=>
 RunW Pz (Instr.makeMap 352 (none)) X0
 (fun Y0 l0=>∃A:Option Nat,Y0=.map A /\
 ∃(m0 n0 o0:Int),atC l0 (aS c 0) [vI m0,.int .u8 n0,.int .u8 o0] /\
 RunW Pz (Instr.mapUpdate 352 (.map A) (.agg ⟨[vI m0,.int .u8 n0,.int .u8 o0]⟩) (.bool true)) l0 (fun _ B=>
 ∃(p0 q0 r0:Int),atC B (aS c 0) [vI p0,.int .u8 q0,.int .u8 r0] /\
 Wn B [vI p0,.int .u8 q0,.int .u8 r0,vI (-1),vI 0,vI 0,vI 0] 354 fun Z0=>
 QSSI ⟨(some (aS B 0)),1,1⟩ ⟨none,0,0⟩ 0 Z0 fun a1 t s0 o f b1=>
 sB (decide (o<(t.n:Int)))
 (NB t.a fun c1 d1=>Ib o t.n /\
 ∃(t0 u0 v0:Int),atC f ⟨c1,d1+o.toNat*7,none⟩ [vI t0,.int .u8 u0,.int .u8 v0] /\
 Wn f [vI 0,.int .u8 0,.int .u8 0] 351 fun e1=>
 Wp e1 (aS f 0) 3 [vI t0,.int .u8 u0,.int .u8 v0] fun C=>
 ∃u,rI C (aS f 0) u /\
 (0<=(u:Int)/\(u:Int)<((e.toNat):Nat)) /\
 ∃v,rS C (aS b (0+u.toNat*1)) v /\
 QSSI t s0 0 C fun f1 w0 x0 w j g1=>
 sB (decide (w<(v.n:Int)))
 (NB v.a fun h1 i1=>Ib w v.n /\
 ∃y0 z0 A0 B0 C0 D0,aL3 j ⟨h1,i1+w.toNat*6,none⟩ y0 z0 A0 B0 C0 D0 /\
 Wn j [vI 0,vI 0,vI 0,vI 0,vI 0,.bool false] 55 fun j1=>
 Wp j1 (aS j 0) 6 (L3 y0 z0 A0 B0 C0 D0) fun k=>
 ∃E0,rI k (aS j 4) E0 /\
 ∃F0:Int,hc k (aS f 1)=some (.int .u8 F0) /\
 ∃G0:Int,hc k (aS f 2)=some (.int .u8 G0) /\
 Wn k [vI 0,.int .u8 0,.int .u8 0] 351 fun k1=>
 Wp k1 (aS k 0) 3 [vI E0,.int .u8 F0,.int .u8 G0] fun l1=>
 V206b l1 f j k x0 s o w0 A g1 f1 w)
 (∃H0,H0<b1/\a1 w0 x0 (wrap .i64 (o+1)) j H0))
 (R (.tuple ⟨[vS s0,vI 0]⟩) f)))))))))
theorem vc206 (pa:ByteArray) (pb pc:Sl) (pd pe pf:Int) (pg ph:Sl) (p1:Int) (H:@W206 h R pa pb pc pd pe pf pg ph p1):Fn Pz 206 #[.agg ⟨(L0 pa pb pc pd pe pf pg ph)⟩,vI p1] h R:=fnJ (A:=(.s .z (.s .z (.s .z (.s (AI 44) (.s (AI 63) (.s .z (.s .z (.s .z (.s .z (.s .z (.s (.s .z (.b (.l [(14,.one (.slice)),(15,.one (.slice)),(16,.one (.int .i64))] (.s .z (.s (.b (.s .z (.s .z (.b (.l [(14,.one (.slice)),(15,.one (.slice)),(109,.one (.int .i64))] (.s .z (.s .z (.s (.b (.s .z (.s .z (.j [(15,.one (.slice))] (.b (.s .z (.c .z (.s .z (.c (.s .z (.s .z (.s .z (.c (.s .z (.s (AJ 22 23) .z)) .z)))) .z))))) .z)))) .z)))))))) .z))))) .z)))))))))))) H
def V117za (b h e:Heap) (i:Nat) (j:Int->Heap->Nat->Prop) (k q:Int):Prop:=
 ∃c,rS b (aS h 13) c/\∃d,rI b (aS e 0) d/\∃f,rS b (aS h 13) f/\∃g,rI b (aS e 0) g/\NB f.a fun r s=>Ib g f.n/\∃l,rB b ⟨r,s+g.toNat*1,none⟩ l/\sB l (NB c.a fun t u=>Ib d c.n/\Wp b ⟨t,u+d.toNat*1,none⟩ 1 [.bool true] fun v=>∃m,m<i/\j (wrap .i64 (k+1)) v m) (∃o,rI b (aS e 1) o/\NB c.a fun w x=>Ib d c.n/\Wp b ⟨w,x+d.toNat*1,none⟩ 1 [.bool (o==q)] fun y=>∃p,p<i/\j (wrap .i64 (k+1)) y p)
def V117a (b:Heap) (y0:ByteArray) (z0 A0:Sl) (B0 C0 D0:Int) (E0 F0:Sl) (t:Int) (G0:Heap) (G:Int) (H0:Heap) (H:Int) (I0:Heap) (I:Int) (J0:Heap) (J:Int) (K0:Heap) (K:Int) (h:Heap) (R:Value->Heap->Prop):Prop:=
 Wn b [.string y0,vS z0,vS A0,vI B0,vI C0,vI D0,vS E0,vS F0,vI t,.slice (some (aS G0 0)) (G.toNat) (G.toNat),vN,.slice (some (aS H0 0)) (H.toNat) (H.toNat),.slice (some (aS I0 0)) (I.toNat) (I.toNat),.slice (some (aS J0 0)) (J.toNat) (J.toNat),.slice (some (aS K0 0)) (K.toNat) (K.toNat)] 250 fun L=>∃l,rS L (aS h 6) l/\QI 0 L fun M g c N=>sB (decide (g<(l.n:Int))) (NB l.a fun L0 M0=>Ib g l.n/\∃O P Q S T U,aL3 c ⟨L0,M0+g.toNat*6,none⟩ O P Q S T U/\Wn c [vI 0,vI 0,vI 0,vI 0,vI 0,.bool false] 55 fun N0=>Wp N0 (aS c 0) 6 (L3 O P Q S T U) fun d=>∃u,rS d (aS b 9) u/\∃v,rI d (aS c 0) v/\∃w,rS d (aS b 9) w/\∃m,rI d (aS c 0) m/\NB w.a fun V W=>Ib m w.n/\∃X,rS d ⟨V,W+m.toNat*1,none⟩ X/\Wn d [vI g] 3 fun x=>Sm [⟨V,W+m.toNat*1,none⟩,(aS c 0),(aS b 9),(aS c 0),(aS b 9)] d x/\App Pz 42 42 (vS X) (.slice (some (aS d 0)) 1 1) x fun O0 Y=>Sm [(aS c 0),(aS b 9)] x Y/\NB u.a fun P0 Q0=>Ib v u.n/\Wp Y ⟨P0,Q0+v.toNat*1,none⟩ 1 [vS O0] fun e=>∃i,rS e (aS b 12) i/\∃j,rI e (aS c 0) j/\∃y,rS e (aS b 12) y/\∃z,rI e (aS c 0) z/\NB y.a fun R0 S0=>Ib z y.n/\∃Z,rB e ⟨R0,S0+z.toNat*1,none⟩ Z/\sB Z (NB i.a fun T0 U0=>Ib j i.n/\Wp e ⟨T0,U0+j.toNat*1,none⟩ 1 [.bool true] fun V0=>V117za V0 b c N M g t) (∃a0,rB e (aS c 5) a0/\NB i.a fun W0 X0=>Ib j i.n/\Wp e ⟨W0,X0+j.toNat*1,none⟩ 1 [.bool a0] fun Y0=>V117za Y0 b c N M g t)) (∃o,rS c (aS h 7) o/\QI 0 c fun Z0 p f a1=>sB (decide (p<(o.n:Int))) (NB o.a fun b1 c1=>Ib p o.n/\∃b0 c0 d0,aL2 f ⟨b1,c1+p.toNat*3,none⟩ b0 c0 d0/\Wn f [vI 0,vI 0,vI 0] 63 fun d1=>Wp d1 (aS f 0) 3 (L2 b0 c0 d0) fun q=>∃A,rS q (aS h 6) A/\∃B,rI q (aS f 2) B/\NB A.a fun e1 f1=>Ib B A.n/\∃e0 f0 g0 h0 i0 j0,aL3 q ⟨e1,f1+B.toNat*6,none⟩ e0 f0 g0 h0 i0 j0/\Fn Pz 160 #[.pointer (some (aS b 0)),.agg ⟨(L3 e0 f0 g0 h0 i0 j0)⟩] q (fun g1 C=>∃(k0:Bool) (l0 m0:Int) (h1:Bool),g1=.tuple ⟨[.agg ⟨(L1 k0 l0 m0)⟩,.bool h1]⟩/\Wn C [.bool false,vI 0,vI 0] 252 fun i1=>Wp i1 (aS C 0) 3 (L1 k0 l0 m0) fun k=>∃D,rS k (aS b 11) D/\∃E,rI k (aS f 0) E/\∃n0,rI k (aS f 1) n0/\∃o0 p0 q0,aL1 k (aS C 0) o0 p0 q0/\NB D.a fun j1 k1=>Ib E D.n/\Wp k ⟨j1,k1+E.toNat*4,none⟩ 4 [vI n0,.bool o0,vI p0,vI q0] fun l1=>∃r0,r0<a1/\Z0 (wrap .i64 (p+1)) l1 r0)) (∃s0,rI f (aS h 3) s0/\QI 0 f fun m1 F r n1=>sB (decide (F<s0)) (∃t0,rS r (aS b 10) t0/\Fn Pz 161 #[.pointer (some (aS b 0)),vI F] r (fun o1 s=>∃(u0:Sl) (v0:Bool),o1=.agg ⟨[vS u0,.bool v0]⟩/\Sm [(aS b 10)] r s/\Wn s [vS u0,.bool v0] 259 fun w0=>Sm [(aS b 10)] s w0/\App Pz 248 248 (vS t0) (.slice (some (aS s 0)) 1 1) w0 fun p1 q1=>Wp q1 (aS b 10) 1 [vS p1] fun r1=>∃x0,x0<n1/\m1 (wrap .i64 (F+1)) r1 x0)) (R (.tuple ⟨[.pointer (some (aS b 0)),vI 0]⟩) r)))
def V117e (a:Int) (b h:Heap) (d:ByteArray) (e f:Sl) (g i j:Int) (k l:Sl) (m:Int) (n:Heap) (o:Int) (p:Heap) (q:Int) (r:Heap) (s:Int) (t:Heap) (u:Int) (R:Value->Heap->Prop):Prop:=
 Mk a a 1/\Wn b (madeL Pz 4 (a.toNat)) 4 fun c=>Sm [(aS h 3),(aS h 3),(aS h 3),(aS h 3),(aS h 0)] b c/\V117a c d e f g i j k l m n o p q b a r s t u h R
def V117o (a:Int) (b h:Heap) (d:Int) (e:ByteArray) (f g:Sl) (i j k:Int) (l m:Sl) (n:Int) (o:Heap) (p:Int) (q:Heap) (r:Int) (s:Heap) (t:Int) (R:Value->Heap->Prop):Prop:=
 Mk a a 24/\Wn b (madeL Pz 42 (a.toNat)) 42 fun c=>Sm [(aS h 3),(aS h 3),(aS h 3),(aS h 3),(aS h 0)] b c/\V117e d c h e f g i j k l m n b a o p q r s t R
def V117c (a:Int) (b h:Heap) (d:ByteArray) (e f:Sl) (g i j:Int) (k l:Sl) (m:Int) (n:Heap) (o:Int) (p:Heap) (q:Int) (r:Heap) (s:Int) (t:Heap) (u:Int) (R:Value->Heap->Prop):Prop:=
 Mk a a 24/\Wn b (madeL Pz 42 (a.toNat)) 42 fun c=>Sm [(aS h 3),(aS h 3),(aS h 3),(aS h 3),(aS h 0)] b c/\V117a c d e f g i j k l m b a n o p q r s t u h R
def V117u (a:Int) (b h:Heap) (d:Int) (e:ByteArray) (f g:Sl) (i j k:Int) (l m:Sl) (n:Int) (o:Heap) (p:Int) (q:Heap) (r:Int) (s:Heap) (t:Int) (R:Value->Heap->Prop):Prop:=
 Mk a a 1/\Wn b (madeL Pz 4 (a.toNat)) 4 fun c=>Sm [(aS h 3),(aS h 3),(aS h 3),(aS h 3),(aS h 0)] b c/\V117c d c h e f g i j k l m n o p b a q r s t R
def V117zb (a:Int) (b h:Heap) (d e:Int) (f:ByteArray) (g i:Sl) (j k l:Int) (m n:Sl) (o:Int) (p:Heap) (q:Int) (r:Heap) (s:Int) (R:Value->Heap->Prop):Prop:=
 Mk a a 32/\Wn b (madeL Pz 256 (a.toNat)) 256 fun c=>Sm [(aS h 3),(aS h 3),(aS h 3),(aS h 3),(aS h 0)] b c/\(V117o d c h e f g i j k l m n o b a p q r s R)/\V117u e c h d f g i j k l m n o b a p q r s R
def V117j (a:Int) (b h:Heap) (d:Int) (e:ByteArray) (f g:Sl) (i j k:Int) (l m:Sl) (n:Int) (o:Heap) (p:Int) (q:Heap) (r:Int) (s:Heap) (t:Int) (R:Value->Heap->Prop):Prop:=
 Mk a a 32/\Wn b (madeL Pz 256 (a.toNat)) 256 fun c=>Sm [(aS h 3),(aS h 3),(aS h 3),(aS h 3),(aS h 0)] b c/\V117e d c h e f g i j k l m n o p b a q r s t R
def V117b (a:Int) (b h:Heap) (d:ByteArray) (e f:Sl) (g i j:Int) (k l:Sl) (m:Int) (n:Heap) (o:Int) (p:Heap) (q:Int) (r:Heap) (s:Int) (t:Heap) (u:Int) (R:Value->Heap->Prop):Prop:=
 Mk a a 32/\Wn b (madeL Pz 256 (a.toNat)) 256 fun c=>Sm [(aS h 3),(aS h 3),(aS h 3),(aS h 3),(aS h 0)] b c/\V117a c d e f g i j k l m n o b a p q r s t u h R
def V117s (a:Int) (b h:Heap) (d:Int) (e:ByteArray) (f g:Sl) (i j k:Int) (l m:Sl) (n:Int) (o:Heap) (p:Int) (q:Heap) (r:Int) (s:Heap) (t:Int) (R:Value->Heap->Prop):Prop:=
 Mk a a 1/\Wn b (madeL Pz 4 (a.toNat)) 4 fun c=>Sm [(aS h 3),(aS h 3),(aS h 3),(aS h 3),(aS h 0)] b c/\V117b d c h e f g i j k l m n o p b a q r s t R
def V117zc (a:Int) (b h:Heap) (d e:Int) (f:ByteArray) (g i:Sl) (j k l:Int) (m n:Sl) (o:Int) (p:Heap) (q:Int) (r:Heap) (s:Int) (R:Value->Heap->Prop):Prop:=
 Mk a a 24/\Wn b (madeL Pz 42 (a.toNat)) 42 fun c=>Sm [(aS h 3),(aS h 3),(aS h 3),(aS h 3),(aS h 0)] b c/\(V117j d c h e f g i j k l m n o b a p q r s R)/\V117s e c h d f g i j k l m n o b a p q r s R
def V117r (a:Int) (b h:Heap) (d:Int) (e:ByteArray) (f g:Sl) (i j k:Int) (l m:Sl) (n:Int) (o:Heap) (p:Int) (q:Heap) (r:Int) (s:Heap) (t:Int) (R:Value->Heap->Prop):Prop:=
 Mk a a 24/\Wn b (madeL Pz 268 (a.toNat)) 268 fun c=>Sm [(aS h 3),(aS h 3),(aS h 3),(aS h 3),(aS h 0)] b c/\V117e d c h e f g i j k l m n o p q r s t b a R
def V117f (a:Int) (b h:Heap) (d:ByteArray) (e f:Sl) (g i j:Int) (k l:Sl) (m:Int) (n:Heap) (o:Int) (p:Heap) (q:Int) (r:Heap) (s:Int) (t:Heap) (u:Int) (R:Value->Heap->Prop):Prop:=
 Mk a a 24/\Wn b (madeL Pz 268 (a.toNat)) 268 fun c=>Sm [(aS h 3),(aS h 3),(aS h 3),(aS h 3),(aS h 0)] b c/\V117a c d e f g i j k l m n o p q r s t u b a h R
def V117w (a:Int) (b h:Heap) (d:Int) (e:ByteArray) (f g:Sl) (i j k:Int) (l m:Sl) (n:Int) (o:Heap) (p:Int) (q:Heap) (r:Int) (s:Heap) (t:Int) (R:Value->Heap->Prop):Prop:=
 Mk a a 1/\Wn b (madeL Pz 4 (a.toNat)) 4 fun c=>Sm [(aS h 3),(aS h 3),(aS h 3),(aS h 3),(aS h 0)] b c/\V117f d c h e f g i j k l m n o p q r b a s t R
def V117zd (a:Int) (b h:Heap) (d e:Int) (f:ByteArray) (g i:Sl) (j k l:Int) (m n:Sl) (o:Int) (p:Heap) (q:Int) (r:Heap) (s:Int) (R:Value->Heap->Prop):Prop:=
 Mk a a 32/\Wn b (madeL Pz 256 (a.toNat)) 256 fun c=>Sm [(aS h 3),(aS h 3),(aS h 3),(aS h 3),(aS h 0)] b c/\(V117w d c h e f g i j k l m n o p q b a r s R)/\V117r e c h d f g i j k l m n o p q b a r s R
def V117ze (a:Int) (b h:Heap) (d e:Int) (f:ByteArray) (g i:Sl) (j k l:Int) (m n:Sl) (o:Int) (p:Heap) (q:Int) (r:Heap) (s:Int) (R:Value->Heap->Prop):Prop:=
 Mk a a 24/\Wn b (madeL Pz 268 (a.toNat)) 268 fun c=>Sm [(aS h 3),(aS h 3),(aS h 3),(aS h 3),(aS h 0)] b c/\(V117j d c h e f g i j k l m n o p q r s b a R)/\V117s e c h d f g i j k l m n o p q r s b a R
def V117d (a:Int) (b h:Heap) (d:ByteArray) (e f:Sl) (g i j:Int) (k l:Sl) (m:Int) (n:Heap) (o:Int) (p:Heap) (q:Int) (r:Heap) (s:Int) (t:Heap) (u:Int) (R:Value->Heap->Prop):Prop:=
 Mk a a 1/\Wn b (madeL Pz 4 (a.toNat)) 4 fun c=>Sm [(aS h 3),(aS h 3),(aS h 3),(aS h 3),(aS h 0)] b c/\V117a c d e f g i j k l m n o p q r s b a t u h R
def V117x (a:Int) (b h:Heap) (d:Int) (e:ByteArray) (f g:Sl) (i j k:Int) (l m:Sl) (n:Int) (o:Heap) (p:Int) (q:Heap) (r:Int) (s:Heap) (t:Int) (R:Value->Heap->Prop):Prop:=
 Mk a a 1/\Wn b (madeL Pz 4 (a.toNat)) 4 fun c=>Sm [(aS h 3),(aS h 3),(aS h 3),(aS h 3),(aS h 0)] b c/\V117d d c h e f g i j k l m n o p q r b a s t R
def V117y (a:Int) (b h:Heap) (d:Int) (e:ByteArray) (f g:Sl) (i j k:Int) (l m:Sl) (n:Int) (o:Heap) (p:Int) (q:Heap) (r:Int) (s:Heap) (t:Int) (R:Value->Heap->Prop):Prop:=
 Mk a a 1/\Wn b (madeL Pz 4 (a.toNat)) 4 fun c=>Sm [(aS h 3),(aS h 3),(aS h 3),(aS h 3),(aS h 0)] b c/\V117e d c h e f g i j k l m n o p q r b a s t R
def V117zf (a:Int) (b h:Heap) (d e:Int) (f:ByteArray) (g i:Sl) (j k l:Int) (m n:Sl) (o:Int) (p:Heap) (q:Int) (r:Heap) (s:Int) (R:Value->Heap->Prop):Prop:=
 Mk a a 32/\Wn b (madeL Pz 256 (a.toNat)) 256 fun c=>Sm [(aS h 3),(aS h 3),(aS h 3),(aS h 3),(aS h 0)] b c/\(V117x d c h e f g i j k l m n o p q b a r s R)/\V117y e c h d f g i j k l m n o p q b a r s R
def V117i (a:Int) (b h:Heap) (d:Int) (e:ByteArray) (f g:Sl) (i j k:Int) (l m:Sl) (n:Int) (o:Heap) (p:Int) (q:Heap) (r:Int) (s:Heap) (t:Int) (R:Value->Heap->Prop):Prop:=
 Mk a a 32/\Wn b (madeL Pz 256 (a.toNat)) 256 fun c=>Sm [(aS h 3),(aS h 3),(aS h 3),(aS h 3),(aS h 0)] b c/\V117d d c h e f g i j k l m n o p b a q r s t R
def V117q (a:Int) (b h:Heap) (d:Int) (e:ByteArray) (f g:Sl) (i j k:Int) (l m:Sl) (n:Int) (o:Heap) (p:Int) (q:Heap) (r:Int) (s:Heap) (t:Int) (R:Value->Heap->Prop):Prop:=
 Mk a a 1/\Wn b (madeL Pz 4 (a.toNat)) 4 fun c=>Sm [(aS h 3),(aS h 3),(aS h 3),(aS h 3),(aS h 0)] b c/\V117b d c h e f g i j k l m n o p q r b a s t R
def V117zg (a:Int) (b h:Heap) (d e:Int) (f:ByteArray) (g i:Sl) (j k l:Int) (m n:Sl) (o:Int) (p:Heap) (q:Int) (r:Heap) (s:Int) (R:Value->Heap->Prop):Prop:=
 Mk a a 24/\Wn b (madeL Pz 268 (a.toNat)) 268 fun c=>Sm [(aS h 3),(aS h 3),(aS h 3),(aS h 3),(aS h 0)] b c/\(V117i d c h e f g i j k l m n o p q r s b a R)/\V117q e c h d f g i j k l m n o p q r s b a R
def V117l (a:Int) (b h:Heap) (d:Int) (e:ByteArray) (f g:Sl) (i j k:Int) (l m:Sl) (n:Int) (o:Heap) (p:Int) (q:Heap) (r:Int) (s:Heap) (t:Int) (R:Value->Heap->Prop):Prop:=
 Mk a a 32/\Wn b (madeL Pz 256 (a.toNat)) 256 fun c=>Sm [(aS h 3),(aS h 3),(aS h 3),(aS h 3),(aS h 0)] b c/\V117c d c h e f g i j k l m n b a o p q r s t R
def V117p (a:Int) (b h:Heap) (d:Int) (e:ByteArray) (f g:Sl) (i j k:Int) (l m:Sl) (n:Int) (o:Heap) (p:Int) (q:Heap) (r:Int) (s:Heap) (t:Int) (R:Value->Heap->Prop):Prop:=
 Mk a a 24/\Wn b (madeL Pz 42 (a.toNat)) 42 fun c=>Sm [(aS h 3),(aS h 3),(aS h 3),(aS h 3),(aS h 0)] b c/\V117b d c h e f g i j k l m n b a o p q r s t R
def V117zh (a:Int) (b h:Heap) (d e:Int) (f:ByteArray) (g i:Sl) (j k l:Int) (m n:Sl) (o:Int) (p:Heap) (q:Int) (r:Heap) (s:Int) (R:Value->Heap->Prop):Prop:=
 Mk a a 1/\Wn b (madeL Pz 4 (a.toNat)) 4 fun c=>Sm [(aS h 3),(aS h 3),(aS h 3),(aS h 3),(aS h 0)] b c/\(V117p d c h e f g i j k l m n o b a p q r s R)/\V117l e c h d f g i j k l m n o b a p q r s R
def V117n (a:Int) (b h:Heap) (d:Int) (e:ByteArray) (f g:Sl) (i j k:Int) (l m:Sl) (n:Int) (o:Heap) (p:Int) (q:Heap) (r:Int) (s:Heap) (t:Int) (R:Value->Heap->Prop):Prop:=
 Mk a a 24/\Wn b (madeL Pz 42 (a.toNat)) 42 fun c=>Sm [(aS h 3),(aS h 3),(aS h 3),(aS h 3),(aS h 0)] b c/\V117d d c h e f g i j k l m n b a o p q r s t R
def V117t (a:Int) (b h:Heap) (d:Int) (e:ByteArray) (f g:Sl) (i j k:Int) (l m:Sl) (n:Int) (o:Heap) (p:Int) (q:Heap) (r:Int) (s:Heap) (t:Int) (R:Value->Heap->Prop):Prop:=
 Mk a a 1/\Wn b (madeL Pz 4 (a.toNat)) 4 fun c=>Sm [(aS h 3),(aS h 3),(aS h 3),(aS h 3),(aS h 0)] b c/\V117c d c h e f g i j k l m n o p q r b a s t R
def V117zi (a:Int) (b h:Heap) (d e:Int) (f:ByteArray) (g i:Sl) (j k l:Int) (m n:Sl) (o:Int) (p:Heap) (q:Int) (r:Heap) (s:Int) (R:Value->Heap->Prop):Prop:=
 Mk a a 24/\Wn b (madeL Pz 268 (a.toNat)) 268 fun c=>Sm [(aS h 3),(aS h 3),(aS h 3),(aS h 3),(aS h 0)] b c/\(V117n d c h e f g i j k l m n o p q r s b a R)/\V117t e c h d f g i j k l m n o p q r s b a R
def V117zj (a:Int) (b h:Heap) (d e:Int) (f:ByteArray) (g i:Sl) (j k l:Int) (m n:Sl) (o:Int) (p:Heap) (q:Int) (r:Heap) (s:Int) (R:Value->Heap->Prop):Prop:=
 Mk a a 24/\Wn b (madeL Pz 268 (a.toNat)) 268 fun c=>Sm [(aS h 3),(aS h 3),(aS h 3),(aS h 3),(aS h 0)] b c/\(V117o d c h e f g i j k l m n o p q r s b a R)/\V117u e c h d f g i j k l m n o p q r s b a R
def V117k (a:Int) (b h:Heap) (d:Int) (e:ByteArray) (f g:Sl) (i j k:Int) (l m:Sl) (n:Int) (o:Heap) (p:Int) (q:Heap) (r:Int) (s:Heap) (t:Int) (R:Value->Heap->Prop):Prop:=
 Mk a a 24/\Wn b (madeL Pz 268 (a.toNat)) 268 fun c=>Sm [(aS h 3),(aS h 3),(aS h 3),(aS h 3),(aS h 0)] b c/\V117c d c h e f g i j k l m n o p q r s t b a R
def V117m (a:Int) (b h:Heap) (d:Int) (e:ByteArray) (f g:Sl) (i j k:Int) (l m:Sl) (n:Int) (o:Heap) (p:Int) (q:Heap) (r:Int) (s:Heap) (t:Int) (R:Value->Heap->Prop):Prop:=
 Mk a a 24/\Wn b (madeL Pz 42 (a.toNat)) 42 fun c=>Sm [(aS h 3),(aS h 3),(aS h 3),(aS h 3),(aS h 0)] b c/\V117f d c h e f g i j k l m n b a o p q r s t R
def V117zk (a:Int) (b h:Heap) (d e:Int) (f:ByteArray) (g i:Sl) (j k l:Int) (m n:Sl) (o:Int) (p:Heap) (q:Int) (r:Heap) (s:Int) (R:Value->Heap->Prop):Prop:=
 Mk a a 32/\Wn b (madeL Pz 256 (a.toNat)) 256 fun c=>Sm [(aS h 3),(aS h 3),(aS h 3),(aS h 3),(aS h 0)] b c/\(V117m d c h e f g i j k l m n o b a p q r s R)/\V117k e c h d f g i j k l m n o b a p q r s R
def V117zl (a:Int) (b h:Heap) (d e:Int) (f:ByteArray) (g i:Sl) (j k l:Int) (m n:Sl) (o:Int) (p:Heap) (q:Int) (r:Heap) (s:Int) (R:Value->Heap->Prop):Prop:=
 Mk a a 24/\Wn b (madeL Pz 268 (a.toNat)) 268 fun c=>Sm [(aS h 3),(aS h 3),(aS h 3),(aS h 3),(aS h 0)] b c/\(V117p d c h e f g i j k l m n o p q r s b a R)/\V117l e c h d f g i j k l m n o p q r s b a R
def V117zm (a:Int) (b h:Heap) (d e:Int) (f:ByteArray) (g i:Sl) (j k l:Int) (m n:Sl) (o:Int) (p:Heap) (q:Int) (r:Heap) (s:Int) (R:Value->Heap->Prop):Prop:=
 Mk a a 32/\Wn b (madeL Pz 256 (a.toNat)) 256 fun c=>Sm [(aS h 3),(aS h 3),(aS h 3),(aS h 3),(aS h 0)] b c/\(V117n d c h e f g i j k l m n o b a p q r s R)/\V117t e c h d f g i j k l m n o b a p q r s R
def V117v (a:Int) (b h:Heap) (d:Int) (e:ByteArray) (f g:Sl) (i j k:Int) (l m:Sl) (n:Int) (o:Heap) (p:Int) (q:Heap) (r:Int) (s:Heap) (t:Int) (R:Value->Heap->Prop):Prop:=
 Mk a a 24/\Wn b (madeL Pz 268 (a.toNat)) 268 fun c=>Sm [(aS h 3),(aS h 3),(aS h 3),(aS h 3),(aS h 0)] b c/\V117d d c h e f g i j k l m n o p q r s t b a R
def V117z (a:Int) (b h:Heap) (d:Int) (e:ByteArray) (f g:Sl) (i j k:Int) (l m:Sl) (n:Int) (o:Heap) (p:Int) (q:Heap) (r:Int) (s:Heap) (t:Int) (R:Value->Heap->Prop):Prop:=
 Mk a a 1/\Wn b (madeL Pz 4 (a.toNat)) 4 fun c=>Sm [(aS h 3),(aS h 3),(aS h 3),(aS h 3),(aS h 0)] b c/\V117f d c h e f g i j k l m n o p q r s t b a R
def V117zn (a:Int) (b h:Heap) (d e:Int) (f:ByteArray) (g i:Sl) (j k l:Int) (m n:Sl) (o:Int) (p:Heap) (q:Int) (r:Heap) (s:Int) (R:Value->Heap->Prop):Prop:=
 Mk a a 24/\Wn b (madeL Pz 42 (a.toNat)) 42 fun c=>Sm [(aS h 3),(aS h 3),(aS h 3),(aS h 3),(aS h 0)] b c/\(V117z d c h e f g i j k l m n o b a p q r s R)/\V117v e c h d f g i j k l m n o b a p q r s R
def V117zo (a:Int) (b h:Heap) (d e:Int) (f:ByteArray) (g i:Sl) (j k l:Int) (m n:Sl) (o:Int) (p:Heap) (q:Int) (r:Heap) (s:Int) (R:Value->Heap->Prop):Prop:=
 Mk a a 24/\Wn b (madeL Pz 42 (a.toNat)) 42 fun c=>Sm [(aS h 3),(aS h 3),(aS h 3),(aS h 3),(aS h 0)] b c/\(V117w d c h e f g i j k l m n o b a p q r s R)/\V117r e c h d f g i j k l m n o b a p q r s R
def V117zp (a:Int) (b h:Heap) (d e:Int) (f:ByteArray) (g i:Sl) (j k l:Int) (m n:Sl) (o:Int) (p:Heap) (q:Int) (r:Heap) (s:Int) (R:Value->Heap->Prop):Prop:=
 Mk a a 24/\Wn b (madeL Pz 42 (a.toNat)) 42 fun c=>Sm [(aS h 3),(aS h 3),(aS h 3),(aS h 3),(aS h 0)] b c/\(V117x d c h e f g i j k l m n o b a p q r s R)/\V117y e c h d f g i j k l m n o b a p q r s R
def V117g (a:Int) (b h:Heap) (d:Int) (e:ByteArray) (f g:Sl) (i j k:Int) (l m:Sl) (n:Int) (o:Heap) (p:Int) (q:Heap) (r:Int) (s:Heap) (t:Int) (R:Value->Heap->Prop):Prop:=
 Mk a a 32/\Wn b (madeL Pz 256 (a.toNat)) 256 fun c=>Sm [(aS h 3),(aS h 3),(aS h 3),(aS h 3),(aS h 0)] b c/\V117f d c h e f g i j k l m n o p b a q r s t R
def V117h (a:Int) (b h:Heap) (d:Int) (e:ByteArray) (f g:Sl) (i j k:Int) (l m:Sl) (n:Int) (o:Heap) (p:Int) (q:Heap) (r:Int) (s:Heap) (t:Int) (R:Value->Heap->Prop):Prop:=
 Mk a a 24/\Wn b (madeL Pz 268 (a.toNat)) 268 fun c=>Sm [(aS h 3),(aS h 3),(aS h 3),(aS h 3),(aS h 0)] b c/\V117b d c h e f g i j k l m n o p q r s t b a R
def V117zq (a:Int) (b h:Heap) (d e:Int) (f:ByteArray) (g i:Sl) (j k l:Int) (m n:Sl) (o:Int) (p:Heap) (q:Int) (r:Heap) (s:Int) (R:Value->Heap->Prop):Prop:=
 Mk a a 24/\Wn b (madeL Pz 42 (a.toNat)) 42 fun c=>Sm [(aS h 3),(aS h 3),(aS h 3),(aS h 3),(aS h 0)] b c/\(V117g d c h e f g i j k l m n o b a p q r s R)/\V117h e c h d f g i j k l m n o b a p q r s R
def V117zr (a:Int) (b h:Heap) (d e:Int) (f:ByteArray) (g i:Sl) (j k l:Int) (m n:Sl) (o:Int) (p:Heap) (q:Int) (r:Heap) (s:Int) (R:Value->Heap->Prop):Prop:=
 Mk a a 24/\Wn b (madeL Pz 42 (a.toNat)) 42 fun c=>Sm [(aS h 3),(aS h 3),(aS h 3),(aS h 3),(aS h 0)] b c/\(V117i d c h e f g i j k l m n o b a p q r s R)/\V117q e c h d f g i j k l m n o b a p q r s R
def V117zs (a:Int) (b h:Heap) (d e:Int) (f:ByteArray) (g i:Sl) (j k l:Int) (m n:Sl) (o:Int) (p:Heap) (q:Int) (r:Heap) (s:Int) (R:Value->Heap->Prop):Prop:=
 Mk a a 1/\Wn b (madeL Pz 4 (a.toNat)) 4 fun c=>Sm [(aS h 3),(aS h 3),(aS h 3),(aS h 3),(aS h 0)] b c/\(V117g d c h e f g i j k l m n o p q b a r s R)/\V117h e c h d f g i j k l m n o p q b a r s R
def V117zt (a:Int) (b h:Heap) (d e:Int) (f:ByteArray) (g i:Sl) (j k l:Int) (m n:Sl) (o:Int) (p:Heap) (q:Int) (r:Heap) (s:Int) (R:Value->Heap->Prop):Prop:=
 Mk a a 1/\Wn b (madeL Pz 4 (a.toNat)) 4 fun c=>Sm [(aS h 3),(aS h 3),(aS h 3),(aS h 3),(aS h 0)] b c/\(V117i d c h e f g i j k l m n o p q b a r s R)/\V117q e c h d f g i j k l m n o p q b a r s R
def V117zu (a:Int) (b h:Heap) (d e:Int) (f:ByteArray) (g i:Sl) (j k l:Int) (m n:Sl) (o:Int) (p:Heap) (q:Int) (r:Heap) (s:Int) (R:Value->Heap->Prop):Prop:=
 Mk a a 1/\Wn b (madeL Pz 4 (a.toNat)) 4 fun c=>Sm [(aS h 3),(aS h 3),(aS h 3),(aS h 3),(aS h 0)] b c/\(V117j d c h e f g i j k l m n o p q b a r s R)/\V117s e c h d f g i j k l m n o p q b a r s R
def V117zv (a:Int) (b h:Heap) (d e:Int) (f:ByteArray) (g i:Sl) (j k l:Int) (m n:Sl) (o:Int) (p:Heap) (q:Int) (r:Heap) (s:Int) (R:Value->Heap->Prop):Prop:=
 Mk a a 32/\Wn b (madeL Pz 256 (a.toNat)) 256 fun c=>Sm [(aS h 3),(aS h 3),(aS h 3),(aS h 3),(aS h 0)] b c/\(V117z d c h e f g i j k l m n o p q b a r s R)/\V117v e c h d f g i j k l m n o p q b a r s R
def V117zw (a:Int) (b h:Heap) (d e:Int) (f:ByteArray) (g i:Sl) (j k l:Int) (m n:Sl) (o:Int) (p:Heap) (q:Int) (r:Heap) (s:Int) (R:Value->Heap->Prop):Prop:=
 Mk a a 1/\Wn b (madeL Pz 4 (a.toNat)) 4 fun c=>Sm [(aS h 3),(aS h 3),(aS h 3),(aS h 3),(aS h 0)] b c/\(V117g d c h e f g i j k l m n o p q r s b a R)/\V117h e c h d f g i j k l m n o p q r s b a R
def V117zx (a:Int) (b h:Heap) (d e:Int) (f:ByteArray) (g i:Sl) (j k l:Int) (m n:Sl) (o:Int) (p:Heap) (q:Int) (r:Heap) (s:Int) (R:Value->Heap->Prop):Prop:=
 Mk a a 24/\Wn b (madeL Pz 268 (a.toNat)) 268 fun c=>Sm [(aS h 3),(aS h 3),(aS h 3),(aS h 3),(aS h 0)] b c/\(V117x d c h e f g i j k l m n o p q r s b a R)/\V117y e c h d f g i j k l m n o p q r s b a R
def V117zy (a:Int) (b h:Heap) (d e:Int) (f:ByteArray) (g i:Sl) (j k l:Int) (m n:Sl) (o:Int) (p:Heap) (q:Int) (r:Heap) (s:Int) (R:Value->Heap->Prop):Prop:=
 Mk a a 1/\Wn b (madeL Pz 4 (a.toNat)) 4 fun c=>Sm [(aS h 3),(aS h 3),(aS h 3),(aS h 3),(aS h 0)] b c/\(V117m d c h e f g i j k l m n o p q r s b a R)/\V117k e c h d f g i j k l m n o p q r s b a R
def V117zz (a:Int) (b h:Heap) (d e:Int) (f:ByteArray) (g i:Sl) (j k l:Int) (m n:Sl) (o:Int) (p:Heap) (q:Int) (r:Heap) (s:Int) (R:Value->Heap->Prop):Prop:=
 Mk a a 1/\Wn b (madeL Pz 4 (a.toNat)) 4 fun c=>Sm [(aS h 3),(aS h 3),(aS h 3),(aS h 3),(aS h 0)] b c/\(V117m d c h e f g i j k l m n o p q b a r s R)/\V117k e c h d f g i j k l m n o p q b a r s R
def V117zza (a:Int) (b h:Heap) (d e:Int) (f:ByteArray) (g i:Sl) (j k l:Int) (m n:Sl) (o:Int) (p:Heap) (q:Int) (r:Heap) (s:Int) (R:Value->Heap->Prop):Prop:=
 Mk a a 1/\Wn b (madeL Pz 4 (a.toNat)) 4 fun c=>Sm [(aS h 3),(aS h 3),(aS h 3),(aS h 3),(aS h 0)] b c/\(V117n d c h e f g i j k l m n o p q b a r s R)/\V117t e c h d f g i j k l m n o p q b a r s R
def V117zzb (a:Int) (b h:Heap) (d e:Int) (f:ByteArray) (g i:Sl) (j k l:Int) (m n:Sl) (o:Int) (p:Heap) (q:Int) (r:Heap) (s:Int) (R:Value->Heap->Prop):Prop:=
 Mk a a 1/\Wn b (madeL Pz 4 (a.toNat)) 4 fun c=>Sm [(aS h 3),(aS h 3),(aS h 3),(aS h 3),(aS h 0)] b c/\(V117o d c h e f g i j k l m n o p q b a r s R)/\V117u e c h d f g i j k l m n o p q b a r s R
def V117zzc (a:Int) (b h:Heap) (d e:Int) (f:ByteArray) (g i:Sl) (j k l:Int) (m n:Sl) (o:Int) (p:Heap) (q:Int) (r:Heap) (s:Int) (R:Value->Heap->Prop):Prop:=
 Mk a a 1/\Wn b (madeL Pz 4 (a.toNat)) 4 fun c=>Sm [(aS h 3),(aS h 3),(aS h 3),(aS h 3),(aS h 0)] b c/\(V117p d c h e f g i j k l m n o p q b a r s R)/\V117l e c h d f g i j k l m n o p q b a r s R
def V117zzd (a:Int) (b h:Heap) (d e:Int) (f:ByteArray) (g i:Sl) (j k l:Int) (m n:Sl) (o:Int) (p:Heap) (q:Int) (r:Heap) (s:Int) (R:Value->Heap->Prop):Prop:=
 Mk a a 1/\Wn b (madeL Pz 4 (a.toNat)) 4 fun c=>Sm [(aS h 3),(aS h 3),(aS h 3),(aS h 3),(aS h 0)] b c/\(V117w d c h e f g i j k l m n o p q r s b a R)/\V117r e c h d f g i j k l m n o p q r s b a R
def V117zze (a:Int) (b h:Heap) (d e:Int) (f:ByteArray) (g i:Sl) (j k l:Int) (m n:Sl) (o:Int) (p:Heap) (q:Int) (r:Heap) (s:Int) (R:Value->Heap->Prop):Prop:=
 Mk a a 1/\Wn b (madeL Pz 4 (a.toNat)) 4 fun c=>Sm [(aS h 3),(aS h 3),(aS h 3),(aS h 3),(aS h 0)] b c/\(V117z d c h e f g i j k l m n o p q r s b a R)/\V117v e c h d f g i j k l m n o p q r s b a R
def V117H0 (b:Int) (g:Heap) (h:Heap) (c d e f:Int) (i:ByteArray) (j k:Sl) (l m n:Int) (o p:Sl) (q:Int) (R:Value->Heap->Prop):Prop:=
 Mk b b 24/\Wn g (madeL Pz 42 (b.toNat)) 42 fun a=>Sm [(aS h 3),(aS h 3),(aS h 3),(aS h 3),(aS h 0)] g a/\(Mk c c 32/\Wn a (madeL Pz 256 (c.toNat)) 256 fun r=>Sm [(aS h 3),(aS h 3),(aS h 3),(aS h 3),(aS h 0)] a r/\(V117zze d r h e f i j k l m n o p q g b a c R)/\(V117zzd e r h d f i j k l m n o p q g b a c R)/\V117zx f r h d e i j k l m n o p q g b a c R)/\(Mk d d 1/\Wn a (madeL Pz 4 (d.toNat)) 4 fun s=>Sm [(aS h 3),(aS h 3),(aS h 3),(aS h 3),(aS h 0)] a s/\(V117zv c s h e f i j k l m n o p q g b a d R)/\(V117zw e s h c f i j k l m n o p q g b a d R)/\V117zg f s h c e i j k l m n o p q g b a d R)/\(Mk e e 1/\Wn a (madeL Pz 4 (e.toNat)) 4 fun t=>Sm [(aS h 3),(aS h 3),(aS h 3),(aS h 3),(aS h 0)] a t/\(V117zd c t h d f i j k l m n o p q g b a e R)/\(V117zs d t h c f i j k l m n o p q g b a e R)/\V117ze f t h c d i j k l m n o p q g b a e R)/\Mk f f 24/\Wn a (madeL Pz 268 (f.toNat)) 268 fun u=>Sm [(aS h 3),(aS h 3),(aS h 3),(aS h 3),(aS h 0)] a u/\(V117zf c u h d e i j k l m n o p q g b a f R)/\(V117zt d u h c e i j k l m n o p q g b a f R)/\V117zu e u h c d i j k l m n o p q g b a f R
def V117H1 (b:Int) (g:Heap) (h:Heap) (c d e f:Int) (i:ByteArray) (j k:Sl) (l m n:Int) (o p:Sl) (q:Int) (R:Value->Heap->Prop):Prop:=
 Mk b b 32/\Wn g (madeL Pz 256 (b.toNat)) 256 fun a=>Sm [(aS h 3),(aS h 3),(aS h 3),(aS h 3),(aS h 0)] g a/\(Mk c c 24/\Wn a (madeL Pz 42 (c.toNat)) 42 fun r=>Sm [(aS h 3),(aS h 3),(aS h 3),(aS h 3),(aS h 0)] a r/\(V117zze d r h e f i j k l m n o p q a c g b R)/\(V117zzd e r h d f i j k l m n o p q a c g b R)/\V117zx f r h d e i j k l m n o p q a c g b R)/\(Mk d d 1/\Wn a (madeL Pz 4 (d.toNat)) 4 fun s=>Sm [(aS h 3),(aS h 3),(aS h 3),(aS h 3),(aS h 0)] a s/\(V117zn c s h e f i j k l m n o p q g b a d R)/\(V117zy e s h c f i j k l m n o p q g b a d R)/\V117zi f s h c e i j k l m n o p q g b a d R)/\(Mk e e 1/\Wn a (madeL Pz 4 (e.toNat)) 4 fun t=>Sm [(aS h 3),(aS h 3),(aS h 3),(aS h 3),(aS h 0)] a t/\(V117zo c t h d f i j k l m n o p q g b a e R)/\(V117zz d t h c f i j k l m n o p q g b a e R)/\V117zj f t h c d i j k l m n o p q g b a e R)/\Mk f f 24/\Wn a (madeL Pz 268 (f.toNat)) 268 fun u=>Sm [(aS h 3),(aS h 3),(aS h 3),(aS h 3),(aS h 0)] a u/\(V117zp c u h d e i j k l m n o p q g b a f R)/\(V117zza d u h c e i j k l m n o p q g b a f R)/\V117zzb e u h c d i j k l m n o p q g b a f R
def V117H2 (b:Int) (g:Heap) (h:Heap) (c d e f:Int) (i:ByteArray) (j k:Sl) (l m n:Int) (o p:Sl) (q:Int) (R:Value->Heap->Prop):Prop:=
 Mk b b 1/\Wn g (madeL Pz 4 (b.toNat)) 4 fun a=>Sm [(aS h 3),(aS h 3),(aS h 3),(aS h 3),(aS h 0)] g a/\(Mk c c 24/\Wn a (madeL Pz 42 (c.toNat)) 42 fun r=>Sm [(aS h 3),(aS h 3),(aS h 3),(aS h 3),(aS h 0)] a r/\(V117zv d r h e f i j k l m n o p q a c g b R)/\(V117zw e r h d f i j k l m n o p q a c g b R)/\V117zg f r h d e i j k l m n o p q a c g b R)/\(Mk d d 32/\Wn a (madeL Pz 256 (d.toNat)) 256 fun s=>Sm [(aS h 3),(aS h 3),(aS h 3),(aS h 3),(aS h 0)] a s/\(V117zn c s h e f i j k l m n o p q a d g b R)/\(V117zy e s h c f i j k l m n o p q a d g b R)/\V117zi f s h c e i j k l m n o p q a d g b R)/\(Mk e e 1/\Wn a (madeL Pz 4 (e.toNat)) 4 fun t=>Sm [(aS h 3),(aS h 3),(aS h 3),(aS h 3),(aS h 0)] a t/\(V117zq c t h d f i j k l m n o p q g b a e R)/\(V117zk d t h c f i j k l m n o p q g b a e R)/\V117zl f t h c d i j k l m n o p q g b a e R)/\Mk f f 24/\Wn a (madeL Pz 268 (f.toNat)) 268 fun u=>Sm [(aS h 3),(aS h 3),(aS h 3),(aS h 3),(aS h 0)] a u/\(V117zr c u h d e i j k l m n o p q g b a f R)/\(V117zm d u h c e i j k l m n o p q g b a f R)/\V117zzc e u h c d i j k l m n o p q g b a f R
def V117H3 (b:Int) (g:Heap) (h:Heap) (c d e f:Int) (i:ByteArray) (j k:Sl) (l m n:Int) (o p:Sl) (q:Int) (R:Value->Heap->Prop):Prop:=
 Mk b b 1/\Wn g (madeL Pz 4 (b.toNat)) 4 fun a=>Sm [(aS h 3),(aS h 3),(aS h 3),(aS h 3),(aS h 0)] g a/\(Mk c c 24/\Wn a (madeL Pz 42 (c.toNat)) 42 fun r=>Sm [(aS h 3),(aS h 3),(aS h 3),(aS h 3),(aS h 0)] a r/\(V117zd d r h e f i j k l m n o p q a c g b R)/\(V117zs e r h d f i j k l m n o p q a c g b R)/\V117ze f r h d e i j k l m n o p q a c g b R)/\(Mk d d 32/\Wn a (madeL Pz 256 (d.toNat)) 256 fun s=>Sm [(aS h 3),(aS h 3),(aS h 3),(aS h 3),(aS h 0)] a s/\(V117zo c s h e f i j k l m n o p q a d g b R)/\(V117zz e s h c f i j k l m n o p q a d g b R)/\V117zj f s h c e i j k l m n o p q a d g b R)/\(Mk e e 1/\Wn a (madeL Pz 4 (e.toNat)) 4 fun t=>Sm [(aS h 3),(aS h 3),(aS h 3),(aS h 3),(aS h 0)] a t/\(V117zq c t h d f i j k l m n o p q a e g b R)/\(V117zk d t h c f i j k l m n o p q a e g b R)/\V117zl f t h c d i j k l m n o p q a e g b R)/\Mk f f 24/\Wn a (madeL Pz 268 (f.toNat)) 268 fun u=>Sm [(aS h 3),(aS h 3),(aS h 3),(aS h 3),(aS h 0)] a u/\(V117zc c u h d e i j k l m n o p q g b a f R)/\(V117zb d u h c e i j k l m n o p q g b a f R)/\V117zh e u h c d i j k l m n o p q g b a f R
def V117H4 (b:Int) (g:Heap) (h:Heap) (c d e f:Int) (i:ByteArray) (j k:Sl) (l m n:Int) (o p:Sl) (q:Int) (R:Value->Heap->Prop):Prop:=
 Mk b b 24/\Wn g (madeL Pz 268 (b.toNat)) 268 fun a=>Sm [(aS h 3),(aS h 3),(aS h 3),(aS h 3),(aS h 0)] g a/\(Mk c c 24/\Wn a (madeL Pz 42 (c.toNat)) 42 fun r=>Sm [(aS h 3),(aS h 3),(aS h 3),(aS h 3),(aS h 0)] a r/\(V117zf d r h e f i j k l m n o p q a c g b R)/\(V117zt e r h d f i j k l m n o p q a c g b R)/\V117zu f r h d e i j k l m n o p q a c g b R)/\(Mk d d 32/\Wn a (madeL Pz 256 (d.toNat)) 256 fun s=>Sm [(aS h 3),(aS h 3),(aS h 3),(aS h 3),(aS h 0)] a s/\(V117zp c s h e f i j k l m n o p q a d g b R)/\(V117zza e s h c f i j k l m n o p q a d g b R)/\V117zzb f s h c e i j k l m n o p q a d g b R)/\(Mk e e 1/\Wn a (madeL Pz 4 (e.toNat)) 4 fun t=>Sm [(aS h 3),(aS h 3),(aS h 3),(aS h 3),(aS h 0)] a t/\(V117zr c t h d f i j k l m n o p q a e g b R)/\(V117zm d t h c f i j k l m n o p q a e g b R)/\V117zzc f t h c d i j k l m n o p q a e g b R)/\Mk f f 1/\Wn a (madeL Pz 4 (f.toNat)) 4 fun u=>Sm [(aS h 3),(aS h 3),(aS h 3),(aS h 3),(aS h 0)] a u/\(V117zc c u h d e i j k l m n o p q a f g b R)/\(V117zb d u h c e i j k l m n o p q a f g b R)/\V117zh e u h c d i j k l m n o p q a f g b R
def W117 (pa:ByteArray) (pb pc:Sl) (pd pe pf:Int) (pg ph:Sl) (b:Int):Prop:=
 Wn h (L0 pa pb pc pd pe pf pg ph) 27 fun r=>∃s t u v w x y z,aL0 r (aS h 0) s t u v w x y z/\Fn Pz 38 #[.agg ⟨(L0 s t u v w x y z)⟩] r (fun C a=>∃A,iB C A/\sB (!A) (R (.tuple ⟨[.pointer none,vI 1]⟩) a) (sB (decide (b<0)) (R (.tuple ⟨[.pointer none,vI 1]⟩) a) (∃B,rS a (aS h 1) B/\sB (decide (b>=(B.n:Int))) (R (.tuple ⟨[.pointer none,vI 1]⟩) a) (∃c d e f g i j k,aL0 a (aS h 0) c d e f g i j k/\∃l,rI a (aS h 3) l/\∃m,rI a (aS h 3) m/\∃o,rI a (aS h 3) o/\∃p,rI a (aS h 3) p/\∃q,rI a (aS h 3) q/\(V117H0 l a h m o p q c d e f g i j k b R)/\(V117H1 m a h l o p q c d e f g i j k b R)/\(V117H2 o a h l m p q c d e f g i j k b R)/\(V117H3 p a h l m o q c d e f g i j k b R)/\V117H4 q a h l m o p c d e f g i j k b R))))
theorem vc117 (pa:ByteArray) (pb pc:Sl) (pd pe pf:Int) (pg ph:Sl) (p1:Int) (H:@W117 h R pa pb pc pd pe pf pg ph p1):Fn Pz 117 #[.agg ⟨(L0 pa pb pc pd pe pf pg ph)⟩,vI p1] h R:=fnJ (A:=(.s .z (.s .z (.s .z (.s (AI 50) (.s (AI 118) (.s (AI 147) .z))))))) H
def W118 (b:Addr):Prop:=
 ∃v,rI h ⟨b.block,b.off+3,none⟩ v /\
 QI 0 h fun I2 c l m4=>
 sB (decide (c<v))
 (∃p,rS l ⟨b.block,b.off+9,none⟩ p /\
 NB p.a fun b8 o9=>Ib c p.n /\
 ∃m,rS l ⟨b8,o9+c.toNat*1,none⟩ m /\
 QI 0 l fun w j d x=>
 sB (decide (j<(m.n:Int)))
 (NB m.a fun p0 q0=>Ib j m.n /\
 ∃e,rI d ⟨p0,q0+j.toNat*1,none⟩ e /\
 ∃q,rS d ⟨b.block,b.off+6,none⟩ q /\
 NB q.a fun r0 s0=>Ib e q.n /\
 ∃y,rI d ⟨r0,s0+e.toNat*6+1+1,none⟩ y /\
 ∃z,rI d ⟨b.block,b.off+8,none⟩ z /\
 sB (y != z)
 (∃A,A<x/\w (wrap .i64 (j+1)) d A)
 (∃B C D E F G H I,aL0 d b B C D E F G H I /\
 Fn Pz 162 #[.agg ⟨(L0 B C D E F G H I)⟩,vI e] d
 (fun t0 u0=>∃(o:Sl) (v0:Int),t0=.tuple ⟨[vS o,vI v0]⟩ /\
 QI 0 u0 fun J k f K=>
 sB (decide (k<(o.n:Int)))
 (NB o.a fun w0 x0=>Ib k o.n /\
 ∃(L M:Int),atC f ⟨w0,x0+k.toNat*2,none⟩ [vI L,vI M] /\
 Wn f [vI 0,vI 0] 265 fun y0=>
 Wp y0 (aS f 0) 2 [vI L,vI M] fun g=>
 ∃N,rI g (aS f 0) N /\
 ∃r,rS g ⟨b.block,b.off+6,none⟩ r /\
 NB r.a fun z0 A0=>Ib e r.n /\
 ∃O,rI g ⟨z0,A0+e.toNat*6+1,none⟩ O /\
 sB (N==O)
 (∃P,P<K/\J (wrap .i64 (k+1)) g P)
 (∃Q S T U V W X Y,aL0 g b Q S T U V W X Y /\
 ∃(Z a0:Int),atC g (aS f 0) [vI Z,vI a0] /\
 Fn Pz 163 #[.agg ⟨(L0 Q S T U V W X Y)⟩,vI e,.agg ⟨[vI Z,vI a0]⟩] g
 (fun B0 i=>∃(b0:Sl) (C0:Int),B0=.tuple ⟨[vS b0,vI C0]⟩ /\
 ∃s,rS i ⟨b.block,b.off+14,none⟩ s /\
 ∃t,rS i ⟨b.block,b.off+14,none⟩ t /\
 NB t.a fun c0 d0=>Ib c t.n /\
 ∃e0,rS i ⟨c0,d0+c.toNat*1,none⟩ e0 /\
 ∃(f0 g0:Int),atC i (aS f 0) [vI f0,vI g0] /\
 Wn i [vI e,vI (wrap .i64 (1+(b0.n:Int))),vI f0,vI g0] 270 fun u=>
 Sm [⟨c0,d0+c.toNat*1,none⟩,⟨b.block,b.off+14,none⟩,⟨b.block,b.off+14,none⟩] i u /\
 App Pz 268 268 (vS e0) (.slice (some (aS i 0)) 1 1) u fun D0 h0=>
 Sm [⟨b.block,b.off+14,none⟩] u h0 /\
 NB s.a fun E0 F0=>Ib c s.n /\
 Wp h0 ⟨E0,F0+c.toNat*1,none⟩ 1 [vS D0] fun G0=>
 ∃i0,i0<K/\J (wrap .i64 (k+1)) G0 i0)))
 (∃j0,j0<x/\w (wrap .i64 (j+1)) f j0))))
 (∃k0,k0<m4/\I2 (wrap .i64 (c+1)) d k0))
 (R (.tuple ⟨[]⟩) l)
theorem vc118 (p0:Addr) (H:@W118 h R p0):Fn Pz 118 #[.pointer (some p0)] h R:=fnJ (A:=(.s .z (.b (.l [(16,.one (.int .i64))] (.s .z (.s .z (.s (.b (.s .z (.s .z (.b (.l [(27,.one (.int .i64))] (.s .z (.s .z (.s (.b (.s .z (.s .z (.s .z (AI 57))))) .z)))))))) .z))))))) H
def V121c (q:Int) (f:Heap) (r:Heap) (b:Addr) (d:Heap) (h:Heap) (R:Value->Heap->Prop) (k:Int):Prop:=
 sB (q==1)
 (∃(s t:Int),atC f (aS r 0) [vI s,vI t] /\
 Fn Pz 171 #[.pointer (some b),.agg ⟨[vI s,vI t]⟩] f
 (fun k2 l=>∃(u:Bool) (v w:Int) (l2:Bool),k2=.tuple ⟨[.agg ⟨(L1 u v w)⟩,.bool l2]⟩ /\
 Wn l [.bool false,vI 0,vI 0] 252 fun m2=>
 Wp m2 (aS l 0) 3 (L1 u v w) fun x=>
 ∃y z A,aL1 x (aS l 0) y z A /\
 Fn Pz 172 #[.pointer (some b),.agg ⟨(L1 y z A)⟩] x
 (fun n2 o2=>∃(B:Int) (C:Bool) (D E:Int) (F:Sl),n2=.agg ⟨(L8 B C D E F)⟩ /\
 Wp o2 (aS d 4) 5 (L8 B C D E F) fun G=>
 ∃H I J K L M N O P Q S T U V,aL5 G (aS d 0) H I J K L M N O P Q S T U V /\
 Wp G (aS h 0) 14 (L5 H I J K L M N O P Q S T U V) fun W=>
 ∃X Y Z a0 b0 c0 d0 e0 f0 g0 h0 i0 j0 k0,aL5 W (aS h 0) X Y Z a0 b0 c0 d0 e0 f0 g0 h0 i0 j0 k0 /\
 R (.tuple ⟨[.agg ⟨(L5 X Y Z a0 b0 c0 d0 e0 f0 g0 h0 i0 j0 k0)⟩,vI k]⟩) W)))
 (sB (q==4)
 (∃(l0 m0:Int),atC f (aS r 0) [vI l0,vI m0] /\
 Fn Pz 173 #[.pointer (some b),.agg ⟨[vI l0,vI m0]⟩] f
 (fun p2 e=>∃(n0 o0 p0 q0:Int) (q2:Bool),p2=.tuple ⟨[.agg ⟨(L7 n0 o0 p0 q0)⟩,.bool q2]⟩ /\
 Wn e [vI 0,vI 0,vI 0,vI 0] 270 fun r2=>
 Wp r2 (aS e 0) 4 (L7 n0 o0 p0 q0) fun g=>
 ∃r0 s0 t0 u0 v0 w0 x0 y0,aL0 g b r0 s0 t0 u0 v0 w0 x0 y0 /\
 ∃z0,rI g (aS e 0) z0 /\
 ∃(A0 B0:Int),atC g (aS e 2) [vI A0,vI B0] /\
 Fn Pz 163 #[.agg ⟨(L0 r0 s0 t0 u0 v0 w0 x0 y0)⟩,vI z0,.agg ⟨[vI A0,vI B0]⟩] g
 (fun s2 c=>∃(C0:Sl) (t2:Int),s2=.tuple ⟨[vS C0,vI t2]⟩ /\
 ∃m,rS c ⟨b.block,b.off+6,none⟩ m /\
 ∃i,rI c (aS e 0) i /\
 NB m.a fun D0 E0=>Ib i m.n /\
 ∃F0 G0 H0,aL2 c ⟨D0,E0+i.toNat*6+1,none⟩ F0 G0 H0 /\
 Wn c [vI 0,vI 0,vI 0] 53 fun I0=>
 Sm [⟨D0,E0+i.toNat*6+1,none⟩,(aS e 0),⟨b.block,b.off+6,none⟩] c I0 /\
 Wp I0 (aS c 0) 3 (L2 F0 G0 H0) fun j=>
 ∃J0,rS j (aS d 2) J0 /\
 ∃K0 M0 N0,aL2 j (aS c 0) K0 M0 N0 /\
 Wn j (L2 K0 M0 N0) 53 fun u2=>
 App Pz 48 48 (vS J0) (.slice (some (aS j 0)) 1 1) u2 fun v2 w2=>
 App Pz 48 48 (vS v2) (vS C0) w2 fun x2 y2=>
 Wp y2 (aS d 2) 1 [vS x2] fun o=>
 ∃O0,rI o (aS e 2) O0 /\
 ∃P0,rI o (aS e (2+1)) P0 /\
 Fn Pz 172 #[.pointer (some b),.agg ⟨[.bool false,vI O0,vI P0]⟩] o
 (fun z2 A2=>∃(Q0:Int) (R0:Bool) (S0 T0:Int) (U0:Sl),z2=.agg ⟨(L8 Q0 R0 S0 T0 U0)⟩ /\
 Wp A2 (aS d 4) 5 (L8 Q0 R0 S0 T0 U0) fun p=>
 ∃V0,rI p (aS c 0) V0 /\
 ∃W0,rI p (aS c 2) W0 /\
 Fn Pz 172 #[.pointer (some b),.agg ⟨[.bool false,vI V0,vI W0]⟩] p
 (fun B2 C2=>∃(X0:Int) (Y0:Bool) (Z0 a1:Int) (b1:Sl),B2=.agg ⟨(L8 X0 Y0 Z0 a1 b1)⟩ /\
 Wp C2 (aS d 9) 5 (L8 X0 Y0 Z0 a1 b1) fun c1=>
 ∃d1 e1 f1 g1 h1 i1 j1 k1 l1 m1 n1 o1 p1 q1,aL5 c1 (aS d 0) d1 e1 f1 g1 h1 i1 j1 k1 l1 m1 n1 o1 p1 q1 /\
 Wp c1 (aS h 0) 14 (L5 d1 e1 f1 g1 h1 i1 j1 k1 l1 m1 n1 o1 p1 q1) fun r1=>
 ∃s1 t1 u1 v1 w1 x1 y1 z1 A1 B1 C1 D1 E1 F1,aL5 r1 (aS h 0) s1 t1 u1 v1 w1 x1 y1 z1 A1 B1 C1 D1 E1 F1 /\
 R (.tuple ⟨[.agg ⟨(L5 s1 t1 u1 v1 w1 x1 y1 z1 A1 B1 C1 D1 E1 F1)⟩,vI k]⟩) r1)))))
 (∃G1 H1 I1 J1 K1 M1 N1 O1 P1 Q1 R1 S1 T1 U1,aL5 f (aS d 0) G1 H1 I1 J1 K1 M1 N1 O1 P1 Q1 R1 S1 T1 U1 /\
 Wp f (aS h 0) 14 (L5 G1 H1 I1 J1 K1 M1 N1 O1 P1 Q1 R1 S1 T1 U1) fun V1=>
 ∃W1 X1 Y1 Z1 a2 b2 c2 d2 e2 f2 g2 h2 i2 j2,aL5 V1 (aS h 0) W1 X1 Y1 Z1 a2 b2 c2 d2 e2 f2 g2 h2 i2 j2 /\
 R (.tuple ⟨[.agg ⟨(L5 W1 X1 Y1 Z1 a2 b2 c2 d2 e2 f2 g2 h2 i2 j2)⟩,vI k]⟩) V1))
def V121a (p:Heap) (f:Heap) (R:Option Nat) (S:Heap) (e:Heap) (g:Addr) (q:Nat) (r:Heap->Nat->Prop):Prop:=
 ∃(s t:Int),atC p (aS f 0) [vI s,vI t] /\
 RunW Pz (Instr.lookup 202 (.map R) (.agg ⟨[vI s,vI t]⟩) false) p
 (fun T U=>∃h,iS T h /\
 Fn Pz 168 #[vS h,.func (.func 169) #[] #[.pointer (some (aS S 0)),.pointer (some (aS f 0))]] U
 (fun V c=>∃i,iI V i /\
 NB h.a fun W X=>Ib i h.n /\
 ∃u v w x,aL7 c ⟨W,X+i.toNat*4,none⟩ u v w x /\
 Wn c [vI 0,vI 0,vI 0,vI 0] 276 fun Y=>
 Wp Y (aS c 0) 4 (L7 u v w x) fun d=>
 ∃j:Heap->Prop,
 (∃y,rI d (aS c 0) y /\
 sB (decide (y>=0))
 (∃z,rS d (aS e 2) z /\
 ∃k,rS d ⟨g.block,g.off+6,none⟩ k /\
 ∃l,rI d (aS c 0) l /\
 NB k.a fun Z a0=>Ib l k.n /\
 ∃A B C,aL2 d ⟨Z,a0+l.toNat*6+1,none⟩ A B C /\
 Wn d (L2 A B C) 53 fun D=>
 Sm [(aS e 2)] d D /\
 App Pz 48 48 (vS z) (.slice (some (aS d 0)) 1 1) D fun b0 c0=>
 Wp c0 (aS e 2) 1 [vS b0] fun d0=>
 j d0)
 (j d)) /\
 ∀(_:Env) (b:Heap),j b ->
 (∃E,rI b (aS c 1) E /\
 sB (decide (E>=0))
 (∃F,rS b (aS e 3) F /\
 ∃m,rS b ⟨g.block,g.off+6,none⟩ m /\
 ∃o,rI b (aS c 1) o /\
 NB m.a fun e0 f0=>Ib o m.n /\
 ∃G H I,aL2 b ⟨e0,f0+o.toNat*6+1,none⟩ G H I /\
 Wn b (L2 G H I) 53 fun J=>
 Sm [(aS e 3)] b J /\
 App Pz 48 48 (vS F) (.slice (some (aS b 0)) 1 1) J fun g0 h0=>
 Wp h0 (aS e 3) 1 [vS g0] fun K=>
 ∃(L M:Int),atC K (aS c 2) [vI L,vI M] /\
 Wp K (aS f 0) 2 [vI L,vI M] fun i0=>
 ∃N,N<q/\r i0 N)
 (∃(O P:Int),atC b (aS c 2) [vI O,vI P] /\
 Wp b (aS f 0) 2 [vI O,vI P] fun j0=>
 ∃Q,Q<q/\r j0 Q))))
def V121b (p:Heap) (f:Heap) (R:Option Nat) (S:Heap) (e:Heap) (g:Addr) (q:Nat) (r:Heap->Nat->Prop):Prop:=
 ∃(s t:Int),atC p (aS f 0) [vI s,vI t] /\
 RunW Pz (Instr.lookup 202 (.map R) (.agg ⟨[vI s,vI t]⟩) false) p
 (fun T U=>∃h,iS T h /\
 Fn Pz 168 #[vS h,.func (.func 169) #[] #[.pointer (some (aS S 0)),.pointer (some (aS f 0))]] U
 (fun V c=>∃i,iI V i /\
 NB h.a fun W X=>Ib i h.n /\
 ∃u v w x,aL7 c ⟨W,X+i.toNat*4,none⟩ u v w x /\
 Wn c [vI 0,vI 0,vI 0,vI 0] 276 fun Y=>
 Wp Y (aS c 0) 4 (L7 u v w x) fun d=>
 ∃j:Heap->Prop,
 (∃y,rI d (aS c 0) y /\
 sB (decide (y>=0))
 (∃z,rS d (aS e 2) z /\
 ∃k,rS d ⟨g.block,g.off+6,none⟩ k /\
 ∃l,rI d (aS c 0) l /\
 NB k.a fun Z a0=>Ib l k.n /\
 ∃A B C,aL2 d ⟨Z,a0+l.toNat*6+1,none⟩ A B C /\
 Wn d (L2 A B C) 53 fun D=>
 Sm [(aS e 2)] d D /\
 App Pz 48 48 (vS z) (.slice (some (aS d 0)) 1 1) D fun b0 c0=>
 Wp c0 (aS e 2) 1 [vS b0] fun d0=>
 j d0)
 (j d)) /\
 ∀(_:Env) (b:Heap),j b ->
 (∃E,rI b (aS c 1) E /\
 sB (decide (E>=0))
 (∃F,rS b (aS e 3) F /\
 ∃m,rS b ⟨g.block,g.off+6,none⟩ m /\
 ∃o,rI b (aS c 1) o /\
 NB m.a fun e0 f0=>Ib o m.n /\
 ∃G H I,aL2 b ⟨e0,f0+o.toNat*6+1,none⟩ G H I /\
 Wn b (L2 G H I) 53 fun J=>
 Sm [(aS e 3)] b J /\
 App Pz 48 48 (vS F) (.slice (some (aS b 0)) 1 1) J fun g0 h0=>
 Wp h0 (aS e 3) 1 [vS g0] fun K=>
 ∃(L M:Int),atC K (aS c 2) [vI L,vI M] /\
 Wp K (aS f 0) 2 [vI L,vI M] fun i0=>
 ∃N,N<q/\r i0 N)
 (∃(O P:Int),atC b (aS c 2) [vI O,vI P] /\
 Wp b (aS f 0) 2 [vI O,vI P] fun j0=>
 ∃Q,Q<q/\r j0 Q))))
def W121 (a:Addr) (e:Int) (U:Sl) (i:Option Nat):Prop:=
 Wn h [vI 0,vI 0,vN,vN,vI 0,.bool false,vI 0,vI 0,vN,vI 0,.bool false,vI 0,vI 0,vN] 78 fun V=>
 Fn Pz 165 #[.pointer (some a),vI e,vS U,.map i] V
 (fun W d=>∃n:Option Nat,W=.map n /\
 Wn d [.map none] 278 fun X=>
 Wp X (aS d 0) 1 [.map n] fun b=>
 ∃o,rI b ⟨a.block,a.off+4,none⟩ o /\
 ∃p,rI b ⟨a.block,a.off+4,none⟩ p /\
 Wn b [vI 0,vI 0] 272 fun q=>
 Sm [⟨a.block,a.off+4,none⟩,⟨a.block,a.off+4,none⟩] b q /\
 Wp q (aS b 0) 2 [vI o,vI p] fun j=>
 ∃r:Option Nat,hc j (aS d 0)=some (.map r) /\
 ∃(s t:Int),atC j (aS b 0) [vI s,vI t] /\
 Fn Pz 166 #[.map r,.agg ⟨[vI s,vI t]⟩] j
 (fun Y c=>∃k,iI Y k /\
 sB (k==1073741824)
 (Wp c (aS h 0) 14 [vI 0,vI 0,vN,vN,vI 0,.bool false,vI 0,vI 0,vN,vI 0,.bool false,vI 0,vI 0,vN] fun u=>
 ∃v w x y z A B C D E F G H I,aL5 u (aS h 0) v w x y z A B C D E F G H I /\
 R (.tuple ⟨[.agg ⟨(L5 v w x y z A B C D E F G H I)⟩,vI 1073741824]⟩) u)
 (∃J,rI c ⟨a.block,a.off+8,none⟩ J /\
 Wn c [vI 0,vI 0,vN,vN,vI 0,.bool false,vI 0,vI 0,vN,vI 0,.bool false,vI 0,vI 0,vN] 78 fun Z=>
 Wp Z (aS c 0) 14 [vI e,vI J,vN,vN,vI 0,.bool false,vI 0,vI 0,vN,vI 0,.bool false,vI 0,vI 0,vN] fun a0=>
 ∃f:Heap->Nat->Prop,(∃b0,f a0 b0) /\
 ∀(_:Env) (l:Heap) (m:Nat),f l m ->
 (∃(K L:Int),atC l (aS b 0) [vI K,vI L] /\
 Fn Pz 167 #[.pointer (some a),vI e,.agg ⟨[vI K,vI L]⟩] l
 (fun c0 g=>∃(M:Int) (N:Bool),c0=.tuple ⟨[vI M,.bool N]⟩ /\
 sB N
 (∃O:Option Nat,hc g (aS d 0)=some (.map O) /\
 ∃(P Q:Int),atC g (aS b 0) [vI P,vI Q] /\
 Fn Pz 166 #[.map O,.agg ⟨[vI P,vI Q]⟩] g
 (fun d0 S=>∃T,iI d0 T /\
 sB (M==T)
 (V121c e S b a c h R k)
 (V121a S b i d c a m f)))
 (V121b g b i d c a m f))))))
theorem vc121 (p0:Addr) (p1:Int) (p2:Sl) (p3:Option Nat) (H:@W121 h R p0 p1 p2 p3):Fn Pz 121 #[.pointer (some p0),vI p1,vS p2,.map p3] h R:=fnJ (A:=(.s .z (.s .z (.s .z (.s .z (.s .z (.s .z (.s (.b (.l [] (.b (.s .z (.s .z (.s .z (.j [] .z .z))))))) .z)))))))) H
def W175 (g:Sl) (m:Value):Prop:=
 QI 0 h fun k b f l=>
 sB (decide (b<(g.n:Int)))
 (NB g.a fun o p=>Ib b g.n /\
 ∃i,rI f ⟨o,p+b.toNat*1,none⟩ i /\
 match m with | .func (.func g9) fa10 fc11=>(bif callable Pz g9 then Fn Pz g9 (fa10 ++ #[vI i]++fc11) f
 (fun j c=>∃d,iB j d /\
 sB d
 (R (vI b) c)
 (∃e,e<l/\k (wrap .i64 (b+1)) c e)) else ExtW Pz g9 (fa10 ++ #[vI i]++fc11) f
 (fun j c=>∃d,iB j d /\
 sB d
 (R (vI b) c)
 (∃e,e<l/\k (wrap .i64 (b+1)) c e))) | _=>False)
 (R (vI (-1)) f)
theorem vc175 (p0:Sl) (p1:Value) (H:@W175 h R p0 p1):Fn Pz 175 #[vS p0,p1] h R:=fnJ (A:=(.s .z (.s (AI 8) .z))) H
def W176 (g:Int) (i:Addr) (o:Addr) (p:Addr):Prop:=
 ∃b,rS h i b /\
 ∃j:Option Addr,hc h o=some (.pointer j) /\
 NC j fun k=>∃c,rS h ⟨k.block,k.off+6,none⟩ c /\
 NB c.a fun q r=>Ib g c.n /\
 ∃d,rI h ⟨q,r+g.toNat*6+4,none⟩ d /\
 NB b.a fun s t=>Ib d b.n /\
 ∃l,rI h ⟨s,t+d.toNat*1,none⟩ l /\
 ∃e,rS h i e /\
 ∃f,rI h p f /\
 NB e.a fun u v=>Ib f e.n /\
 ∃m,rI h ⟨u,v+f.toNat*1,none⟩ m /\
 R (.bool (l==(wrap .i64 (m-1)))) h
theorem vc176 (p0:Int) (c0:Addr) (c1:Addr) (c2:Addr) (H:@W176 h R p0 c0 c1 c2):Fn Pz 176 #[vI p0,.pointer (some c0),.pointer (some c1),.pointer (some c2)] h R:=fnJ (A:=.z) H
def W177 (g:Sl) (p:Value):Prop:=
 QI 0 h fun m b f o=>
 sB (decide (b<(g.n:Int)))
 (NB g.a fun q r=>Ib b g.n /\
 ∃i j k,aL1 f ⟨q,r+b.toNat*3,none⟩ i j k /\
 match p with | .func (.func g11) fa12 fc13=>(bif callable Pz g11 then Fn Pz g11 (fa12 ++ #[.agg ⟨(L1 i j k)⟩]++fc13) f
 (fun l c=>∃d,iB l d /\
 sB d
 (R (vI b) c)
 (∃e,e<o/\m (wrap .i64 (b+1)) c e)) else ExtW Pz g11 (fa12 ++ #[.agg ⟨(L1 i j k)⟩]++fc13) f
 (fun l c=>∃d,iB l d /\
 sB d
 (R (vI b) c)
 (∃e,e<o/\m (wrap .i64 (b+1)) c e))) | _=>False)
 (R (vI (-1)) f)
theorem vc177 (p0:Sl) (p1:Value) (H:@W177 h R p0 p1):Fn Pz 177 #[vS p0,p1] h R:=fnJ (A:=(.s .z (.s (AI 8) .z))) H
def W178 (pa:Bool) (pb pc:Int):Prop:=
 Wn h (L1 pa pb pc) 252 fun a=>
 ∃b,rB a (aS h 0) b /\
 R (.bool (!b)) a
theorem vc178 (pa:Bool) (pb pc:Int) (H:@W178 h R pa pb pc):Fn Pz 178 #[.agg ⟨(L1 pa pb pc)⟩] h R:=fnJ (A:=.z) H
def V122c (b:Heap) (h:Heap) (o:Heap) (d:Heap) (e:Heap) (R:Value->Heap->Prop) (p:Int):Prop:=
 ∃q:Option Addr,hc b (aS h 0)=some (.pointer q) /\
 NC q fun f=>∃k,rS b ⟨f.block,f.off+10,none⟩ k /\
 ∃g,rI b (aS o 0) g /\
 NB k.a fun r s=>Ib g k.n /\
 ∃(t:Sl) (u:Bool),atC b ⟨r,s+g.toNat*2,none⟩ [vS t,.bool u] /\
 Wn b [vN,.bool false] 259 fun v=>
 Sm [⟨r,s+g.toNat*2,none⟩,(aS o 0),⟨f.block,f.off+10,none⟩,(aS h 0)] b v /\
 Wp v (aS b 0) 2 [vS t,.bool u] fun i=>
 ∃w:Option Addr,hc i (aS h 0)=some (.pointer w) /\
 ∃l,rS i (aS b 0) l /\
 NB l.a fun Y0 Z0=>Ib 0 l.n /\
 ∃x y z,aL1 i ⟨Y0,Z0+Int.toNat 0*3,none⟩ x y z /\
 Fn Pz 172 #[.pointer w,.agg ⟨(L1 x y z)⟩] i
 (fun a1 b1=>∃(A:Int) (B:Bool) (C D:Int) (E:Sl),a1=.agg ⟨(L8 A B C D E)⟩ /\
 Wp b1 (aS d 4) 5 (L8 A B C D E) fun c1=>
 Wp c1 (aS d 9) 5 [vI (-1),.bool false,vI 0,vI 0,vN] fun F=>
 ∃G,rS F (aS b 0) G /\
 Fn Pz 177 #[vS G,.func (.func 178) #[] #[]] F
 (fun d1 c=>∃j,iI d1 j /\
 sB (decide (j>=0))
 (∃H:Option Addr,hc c (aS h 0)=some (.pointer H) /\
 ∃m,rS c (aS b 0) m /\
 NB m.a fun e1 f1=>Ib j m.n /\
 ∃I J K,aL1 c ⟨e1,f1+j.toNat*3,none⟩ I J K /\
 Fn Pz 172 #[.pointer H,.agg ⟨(L1 I J K)⟩] c
 (fun g1 h1=>∃(L:Int) (M:Bool) (N O:Int) (P:Sl),g1=.agg ⟨(L8 L M N O P)⟩ /\
 Wp h1 (aS d 9) 5 (L8 L M N O P) fun Q=>
 ∃S T U V W X Y Z a0 b0 c0 d0 e0 f0,aL5 Q (aS d 0) S T U V W X Y Z a0 b0 c0 d0 e0 f0 /\
 Wp Q (aS e 0) 14 (L5 S T U V W X Y Z a0 b0 c0 d0 e0 f0) fun g0=>
 ∃h0 i0 j0 k0 l0 m0 n0 o0 p0 q0 r0 s0 t0 u0,aL5 g0 (aS e 0) h0 i0 j0 k0 l0 m0 n0 o0 p0 q0 r0 s0 t0 u0 /\
 R (.tuple ⟨[.agg ⟨(L5 h0 i0 j0 k0 l0 m0 n0 o0 p0 q0 r0 s0 t0 u0)⟩,vI (wrap .i64 (2*p))]⟩) g0))
 (∃v0 w0 x0 y0 z0 A0 B0 C0 D0 E0 F0 G0 H0 I0,aL5 c (aS d 0) v0 w0 x0 y0 z0 A0 B0 C0 D0 E0 F0 G0 H0 I0 /\
 Wp c (aS e 0) 14 (L5 v0 w0 x0 y0 z0 A0 B0 C0 D0 E0 F0 G0 H0 I0) fun J0=>
 ∃K0 L0 M0 N0 O0 P0 Q0 R0 S0 T0 U0 V0 W0 X0,aL5 J0 (aS e 0) K0 L0 M0 N0 O0 P0 Q0 R0 S0 T0 U0 V0 W0 X0 /\
 R (.tuple ⟨[.agg ⟨(L5 K0 L0 M0 N0 O0 P0 Q0 R0 S0 T0 U0 V0 W0 X0)⟩,vI (wrap .i64 (2*p))]⟩) J0)))
def V122s (b:Heap) (h:Heap) (c:Heap) (D:Heap) (p:Heap) (E:Nat) (F:Heap->Nat->Prop):Prop:=
 ∃G:Option Addr,hc b (aS h 0)=some (.pointer G) /\
 NC G fun d=>∃j,rS b ⟨d.block,d.off+6,none⟩ j /\
 ∃H:Option Addr,hc b (aS h 0)=some (.pointer H) /\
 NC H fun e=>∃v,rS b ⟨e.block,e.off+9,none⟩ v /\
 ∃g,rI b (aS c 0) g /\
 NB v.a fun k l=>Ib g v.n /\
 ∃m,rS b ⟨k,l+g.toNat*1,none⟩ m /\
 ∃I:Option Addr,hc b (aS h 0)=some (.pointer I) /\
 NC I fun i=>∃w,rS b ⟨i.block,i.off+9,none⟩ w /\
 ∃o,rI b (aS c 0) o /\
 NB w.a fun x y=>Ib o w.n /\
 ∃z,rS b ⟨x,y+o.toNat*1,none⟩ z /\
 (Fn Pz 175 #[vS z,.func (.func 176) #[] #[.pointer (some (aS D 0)),.pointer (some (aS h 0)),.pointer (some (aS c 0))]] b
 (fun o0 f=>∃q,iI o0 q /\
 Sm [⟨k,l+g.toNat*1,none⟩,(aS c 0),⟨e.block,e.off+9,none⟩,(aS h 0),⟨d.block,d.off+6,none⟩,(aS h 0)] b f /\
 NB m.a fun J K=>Ib q m.n /\
 ∃r,rI f ⟨J,K+q.toNat*1,none⟩ r /\
 NB j.a fun L M=>Ib r j.n /\
 ∃N O P Q R S,aL3 f ⟨L,M+r.toNat*6,none⟩ N O P Q R S /\
 Wn f [vI 0,vI 0,vI 0,vI 0,vI 0,.bool false] 55 fun T=>
 Sm [⟨L,M+r.toNat*6,none⟩,⟨J,K+q.toNat*1,none⟩,⟨x,y+o.toNat*1,none⟩,(aS c 0),⟨i.block,i.off+9,none⟩,(aS h 0),⟨k,l+g.toNat*1,none⟩,(aS c 0),⟨e.block,e.off+9,none⟩,(aS h 0),⟨d.block,d.off+6,none⟩,(aS h 0)] f T /\
 Wp T (aS f 0) 6 (L3 N O P Q R S) fun s=>
 ∃U,rS s (aS p 2) U /\
 ∃V W X,aL2 s (aS f 1) V W X /\
 Wn s (L2 V W X) 53 fun p0=>
 App Pz 48 48 (vS U) (.slice (some (aS s 0)) 1 1) p0 fun q0 r0=>
 Wp r0 (aS p 2) 1 [vS q0] fun Y=>
 ∃Z,rI Y (aS f 4) Z /\
 Wp Y (aS c 0) 1 [vI Z] fun s0=>
 ∃a0,a0<E/\F s0 a0))/\Wn b [vI 0,vI 0,vI 0,vI 0,vI 0,.bool false] 55 fun A=>
 Sm [⟨x,y+o.toNat*1,none⟩,(aS c 0),⟨i.block,i.off+9,none⟩,(aS h 0),⟨k,l+g.toNat*1,none⟩,(aS c 0),⟨e.block,e.off+9,none⟩,(aS h 0),⟨d.block,d.off+6,none⟩,(aS h 0)] b A /\
 Fn Pz 175 #[vS z,.func (.func 176) #[] #[.pointer (some (aS D 0)),.pointer (some (aS h 0)),.pointer (some (aS c 0))]] A
 (fun t0 t=>∃B,iI t0 B /\
 Sm [⟨k,l+g.toNat*1,none⟩,(aS c 0),⟨e.block,e.off+9,none⟩,(aS h 0),⟨d.block,d.off+6,none⟩,(aS h 0)] A t /\
 NB m.a fun u0 v0=>Ib B m.n /\
 ∃C,rI t ⟨u0,v0+B.toNat*1,none⟩ C /\
 NB j.a fun w0 x0=>Ib C j.n /\
 ∃b0 c0 d0 e0 f0 g0,aL3 t ⟨w0,x0+C.toNat*6,none⟩ b0 c0 d0 e0 f0 g0 /\
 Wp t (aS b 0) 6 (L3 b0 c0 d0 e0 f0 g0) fun u=>
 ∃h0,rS u (aS p 2) h0 /\
 ∃i0 j0 k0,aL2 u (aS b 1) i0 j0 k0 /\
 Wn u (L2 i0 j0 k0) 53 fun y0=>
 App Pz 48 48 (vS h0) (.slice (some (aS u 0)) 1 1) y0 fun z0 A0=>
 Wp A0 (aS p 2) 1 [vS z0] fun l0=>
 ∃m0,rI l0 (aS b 4) m0 /\
 Wp l0 (aS c 0) 1 [vI m0] fun B0=>
 ∃n0,n0<E/\F B0 n0)
def V122b (c:Heap) (h:Heap) (e:Heap) (f:Heap) (R:Value->Heap->Prop):Prop:=
 ∃p:Option Addr,hc c (aS h 0)=some (.pointer p) /\
 NC p fun q=>∃r,rI c ⟨q.block,q.off+4,none⟩ r /\
 Wn c [vI 0] 3 fun O=>
 Wp O (aS c 0) 1 [vI r] fun b=>
 ∃g,rS b (aS e 0) g /\
 ∃i,rI b (aS c 0) i /\
 NB g.a fun P Q=>Ib i g.n /\
 ∃s,rI b ⟨P,Q+i.toNat*1,none⟩ s /\
 sB (s==1073741824)
 (Wp b (aS f 0) 14 [vI 0,vI 0,vN,vN,vI 0,.bool false,vI 0,vI 0,vN,vI 0,.bool false,vI 0,vI 0,vN] fun t=>
 ∃u v w x y z A B C D E F G H,aL5 t (aS f 0) u v w x y z A B C D E F G H /\
 R (.tuple ⟨[.agg ⟨(L5 u v w x y z A B C D E F G H)⟩,vI 1073741824]⟩) t)
 (∃j,rS b (aS e 0) j /\
 ∃k,rI b (aS c 0) k /\
 NB j.a fun S T=>Ib k j.n /\
 ∃I,rI b ⟨S,T+k.toNat*1,none⟩ I /\
 ∃J:Option Addr,hc b (aS h 0)=some (.pointer J) /\
 NC J fun K=>∃L,rI b ⟨K.block,K.off+8,none⟩ L /\
 Wn b [vI 0,vI 0,vN,vN,vI 0,.bool false,vI 0,vI 0,vN,vI 0,.bool false,vI 0,vI 0,vN] 78 fun U=>
 Wp U (aS b 0) 14 [vI 2,vI L,vN,vN,vI 0,.bool false,vI 0,vI 0,vN,vI 0,.bool false,vI 0,vI 0,vN] fun V=>
 ∃l:Heap->Nat->Prop,(∃W,l V W) /\
 ∀(_:Env) (d:Heap) (M:Nat),l d M ->
 (∃m,rS d (aS e 0) m /\
 ∃o,rI d (aS c 0) o /\
 NB m.a fun X Y=>Ib o m.n /\
 ∃N,rI d ⟨X,Y+o.toNat*1,none⟩ N /\
 sB (decide (N>0))
 (V122s d h c e b M l)
 (V122c d h c b f R I)))
def V122q (v:Sl) (w:Heap) (f:Sl) (g:Heap) (h:Int) (x:Nat) (y:Sl->Int->Heap->Nat->Prop):Prop:=
 QSI v 0 w fun m d e b o=>
 sB (decide (e<(f.n:Int)))
 (NB f.a fun z A=>Ib e f.n /\
 ∃c,rI b ⟨z,A+e.toNat*1,none⟩ c /\
 ∃i,rS b (aS g 0) i /\
 NB i.a fun B C=>Ib c i.n /\
 ∃p,rI b ⟨B,C+c.toNat*1,none⟩ p /\
 sB (p==1073741824)
 (∃j,rS b (aS g 0) j /\
 ∃k,rS b (aS g 0) k /\
 NB d.a fun D E=>Ib h d.n /\
 ∃l,rI b ⟨D,E+h.toNat*1,none⟩ l /\
 NB k.a fun F G=>Ib l k.n /\
 ∃q,rI b ⟨F,G+l.toNat*1,none⟩ q /\
 NB j.a fun H I=>Ib c j.n /\
 Wp b ⟨H,I+c.toNat*1,none⟩ 1 [vI (wrap .i64 (q+1))] fun r=>
 Wn r [vI c] 3 fun J=>
 App Pz 42 42 (vS d) (.slice (some (aS r 0)) 1 1) J fun K L=>
 ∃s,s<o/\m K (wrap .i64 (e+1)) L s)
 (∃t,t<o/\m d (wrap .i64 (e+1)) b t))
 (∃u,u<x/\y d (wrap .i64 (h+1)) b u)
def V122p (i:Sl) (j:Heap) (k:Int) (l:Heap) (f:Heap) (h:Heap) (m:Heap) (R:Value->Heap->Prop):Prop:=
 QSI i 0 j fun o b c d p=>
 sB (decide (c<(b.n:Int)))
 (NB b.a fun q r=>Ib c b.n /\
 ∃e,rI d ⟨q,r+c.toNat*1,none⟩ e /\
 (0<=(e:Int)/\(e:Int)<((k.toNat):Nat)) /\
 ∃g,rS d (aS l (0+e.toNat*1)) g /\
 V122q b d g f c p o)
 (V122b d h f m R)
def V122l (l:Heap) (c:Heap) (h:Heap) (y:Int) (z:Heap) (A:Heap) (R:Value->Heap->Prop):Prop:=
 ∃m,rS l (aS c 0) m /\
 QSI ⟨none,0,0⟩ 0 l fun o e b f p=>
 sB (decide (b<(m.n:Int)))
 (∃g,rS f (aS c 0) g /\
 NB g.a fun B C=>Ib b g.n /\
 Wp f ⟨B,C+b.toNat*1,none⟩ 1 [vI 1073741824] fun d=>
 ∃q:Option Addr,hc d (aS h 0)=some (.pointer q) /\
 NC q fun r=>∃i,rS d ⟨r.block,r.off+10,none⟩ i /\
 NB i.a fun D E=>Ib b i.n /\
 ∃(s:Sl) (t:Bool),atC d ⟨D,E+b.toNat*2,none⟩ [vS s,.bool t] /\
 Fn Pz 174 #[.agg ⟨[vS s,.bool t]⟩] d
 (fun F j=>∃u,iB F u /\
 sB u
 (∃k,rS j (aS c 0) k /\
 NB k.a fun G H=>Ib b k.n /\
 Wp j ⟨G,H+b.toNat*1,none⟩ 1 [vI 0] fun v=>
 Wn v [vI b] 3 fun I=>
 App Pz 42 42 (vS e) (.slice (some (aS v 0)) 1 1) I fun J K=>
 ∃w,w<p/\o J (wrap .i64 (b+1)) K w)
 (∃x,x<p/\o e (wrap .i64 (b+1)) j x)))
 (V122p e f y z c h A R)
def W122 (H:Addr):Prop:=
 Wn h [.pointer (some H)] 198 fun q=>
 Wn q [vI 0,vI 0,vN,vN,vI 0,.bool false,vI 0,vI 0,vN,vI 0,.bool false,vI 0,vI 0,vN] 78 fun c=>
 ∃r:Option Addr,hc c (aS h 0)=some (.pointer r) /\
 NC r fun s=>∃d,rI c ⟨s.block,s.off+3,none⟩ d /\
 Mk d d 24/\Wn c (madeL Pz 42 (d.toNat)) 42 fun i=>
 ∃t:Option Addr,hc i (aS h 0)=some (.pointer t) /\
 NC t fun u=>∃f,rI i ⟨u.block,u.off+3,none⟩ f /\
 Mk f f 8/\Wn i (madeL Pz 3 (f.toNat)) 3 fun m=>
 Wn m [vN] 42 fun I=>
 Wp I (aS m 0) 1 [.slice (some (aS i 0)) (f.toNat) (f.toNat)] fun o=>
 ∃v:Option Addr,hc o (aS h 0)=some (.pointer v) /\
 NC v fun w=>∃j,rS o ⟨w.block,w.off+6,none⟩ j /\
 QI 0 o fun J k b K=>
 sB (decide (k<(j.n:Int)))
 (NB j.a fun L M=>Ib k j.n /\
 ∃x y z A B C,aL3 b ⟨L,M+k.toNat*6,none⟩ x y z A B C /\
 Wn b [vI 0,vI 0,vI 0,vI 0,vI 0,.bool false] 55 fun N=>
 Wp N (aS b 0) 6 (L3 x y z A B C) fun e=>
 ∃l,rI e (aS b 4) l /\
 ∃g,rI e (aS b 4) g /\
 (0<=(g:Int)/\(g:Int)<((d.toNat):Nat)) /\
 ∃D,rS e (aS c (0+g.toNat*1)) D /\
 ∃E,rI e (aS b 0) E /\
 Wn e [vI E] 3 fun p=>
 Sm [(aS c (0+g.toNat*1)),(aS b 4),(aS b 4)] e p /\
 App Pz 42 42 (vS D) (.slice (some (aS e 0)) 1 1) p fun O F=>
 Sm [(aS b 4)] p F /\
 (0<=(l:Int)/\(l:Int)<((d.toNat):Nat)) /\
 Wp F (aS c (0+l.toNat*1)) 1 [vS O] fun P=>
 ∃G,G<K/\J (wrap .i64 (k+1)) P G)
 (V122l b m h d c q R)
theorem vc122 (p0:Addr) (H:@W122 h R p0):Fn Pz 122 #[.pointer (some p0)] h R:=fnJ (A:=(.s .z (.s .z (.s .z (.s .z (.s (AI 37) (.s (AJ 6 57) (.s (.s .z (.b (.l [(6,.one (.slice)),(10,.one (.int .i64))] (.s .z (.s (.b (AJ 6 93)) .z))))) (.s .z (.s .z (.s .z (.s .z (.s (.b (.l [] .z)) .z))))))))))))) H
def W120 (J:Addr) (K:Addr) (L:Addr):Prop:=
 Wn h [vI 0,vI 0,vN,vN,vI 0,.bool false,vI 0,vI 0,vN,vI 0,.bool false,vI 0,vI 0,vN] 78 fun a=>
 ∃b:Option Addr,hc a J=some (.pointer b) /\
 ∃c,rS a K c /\
 ∃d:Option Nat,hc a L=some (.map d) /\
 Fn Pz 121 #[.pointer b,vI 1,vS c,.map d] a
 (fun M N=>∃(e f:Int) (g i:Sl) (j:Int) (k:Bool) (l m:Int) (n:Sl) (o:Int) (p:Bool) (q r:Int) (s:Sl) (t:Int),M=.tuple ⟨[.agg ⟨(L5 e f g i j k l m n o p q r s)⟩,vI t]⟩ /\
 Wp N (aS h 0) 14 (L5 e f g i j k l m n o p q r s) fun u=>
 ∃v w x y z A B C D E F G H I,aL5 u (aS h 0) v w x y z A B C D E F G H I /\
 R (.tuple ⟨[.agg ⟨(L5 v w x y z A B C D E F G H I)⟩,vI t]⟩) u)
theorem vc120 (c0:Addr) (c1:Addr) (c2:Addr) (H:@W120 h R c0 c1 c2):Fn Pz 120 #[.pointer (some c0),.pointer (some c1),.pointer (some c2)] h R:=fnJ (A:=.z) H
def W123 (J:Addr) (K:Addr) (L:Addr):Prop:=
 Wn h [vI 0,vI 0,vN,vN,vI 0,.bool false,vI 0,vI 0,vN,vI 0,.bool false,vI 0,vI 0,vN] 78 fun a=>
 ∃b:Option Addr,hc a J=some (.pointer b) /\
 ∃c,rS a K c /\
 ∃d:Option Nat,hc a L=some (.map d) /\
 Fn Pz 121 #[.pointer b,vI 3,vS c,.map d] a
 (fun M N=>∃(e f:Int) (g i:Sl) (j:Int) (k:Bool) (l m:Int) (n:Sl) (o:Int) (p:Bool) (q r:Int) (s:Sl) (t:Int),M=.tuple ⟨[.agg ⟨(L5 e f g i j k l m n o p q r s)⟩,vI t]⟩ /\
 Wp N (aS h 0) 14 (L5 e f g i j k l m n o p q r s) fun u=>
 ∃v w x y z A B C D E F G H I,aL5 u (aS h 0) v w x y z A B C D E F G H I /\
 R (.tuple ⟨[.agg ⟨(L5 v w x y z A B C D E F G H I)⟩,vI t]⟩) u)
theorem vc123 (c0:Addr) (c1:Addr) (c2:Addr) (H:@W123 h R c0 c1 c2):Fn Pz 123 #[.pointer (some c0),.pointer (some c1),.pointer (some c2)] h R:=fnJ (A:=.z) H
def W124 (J:Addr) (K:Addr) (L:Addr):Prop:=
 Wn h [vI 0,vI 0,vN,vN,vI 0,.bool false,vI 0,vI 0,vN,vI 0,.bool false,vI 0,vI 0,vN] 78 fun a=>
 ∃b:Option Addr,hc a J=some (.pointer b) /\
 ∃c,rS a K c /\
 ∃d:Option Nat,hc a L=some (.map d) /\
 Fn Pz 121 #[.pointer b,vI 4,vS c,.map d] a
 (fun M N=>∃(e f:Int) (g i:Sl) (j:Int) (k:Bool) (l m:Int) (n:Sl) (o:Int) (p:Bool) (q r:Int) (s:Sl) (t:Int),M=.tuple ⟨[.agg ⟨(L5 e f g i j k l m n o p q r s)⟩,vI t]⟩ /\
 Wp N (aS h 0) 14 (L5 e f g i j k l m n o p q r s) fun u=>
 ∃v w x y z A B C D E F G H I,aL5 u (aS h 0) v w x y z A B C D E F G H I /\
 R (.tuple ⟨[.agg ⟨(L5 v w x y z A B C D E F G H I)⟩,vI t]⟩) u)
theorem vc124 (c0:Addr) (c1:Addr) (c2:Addr) (H:@W124 h R c0 c1 c2):Fn Pz 124 #[.pointer (some c0),.pointer (some c1),.pointer (some c2)] h R:=fnJ (A:=.z) H
def V69k (a:Heap) (x y:Int) (z A:Sl) (B:Int) (C:Bool) (D E:Int) (F:Sl) (G:Int) (H:Bool) (I J:Int) (K:Sl) (c d:Int) (L:Heap) (e:Nat) (f:Int->Int->Heap->Nat->Prop) (g:Int):Prop:=
 Wn a [vI 0,vI 0,vN,vN,vI 0,.bool false,vI 0,vI 0,vN,vI 0,.bool false,vI 0,vI 0,vN] 78 fun M=>
 Wp M (aS a 0) 14 (L5 x y z A B C D E F G H I J K) fun b=>
 sB (decide (c<d))
 (∃h i j k l m n o p q r s t u,aL5 b (aS a 0) h i j k l m n o p q r s t u /\
 Wp b (aS L 0) 14 (L5 h i j k l m n o p q r s t u) fun N=>
 ∃v,v<e/\f c (wrap .i64 (g+1)) N v)
 (∃w,w<e/\f d (wrap .i64 (g+1)) b w)
def W69 (pa:ByteArray) (pb pc:Sl) (pd pe pf:Int) (pg ph:Sl) (p1:Int):Prop:=
 Wn h (L0 pa pb pc pd pe pf pg ph) 27 fun d=>
 Wn d [vI 0,vI 0,vN,vN,vI 0,.bool false,vI 0,vI 0,vN,vI 0,.bool false,vI 0,vI 0,vN] 78 fun G=>
 ∃H I J K L M N O,aL0 G (aS h 0) H I J K L M N O /\
 Fn Pz 117 #[.agg ⟨(L0 H I J K L M N O)⟩,vI p1] G
 (fun n1 a=>∃P:Option Addr,∃A:Int,n1=.tuple ⟨[.pointer P,vI A]⟩ /\
 Wn a [.pointer none] 198 fun o1=>
 Wp o1 (aS a 0) 1 [.pointer P] fun B=>
 sB (A != 0)
 (Wp B (aS d 0) 14 [vI 0,vI 0,vN,vN,vI 0,.bool false,vI 0,vI 0,vN,vI 0,.bool false,vI 0,vI 0,vN] fun Q=>
 ∃S T U V W X Y Z a0 b0 c0 d0 e0 f0,aL5 Q (aS d 0) S T U V W X Y Z a0 b0 c0 d0 e0 f0 /\
 R (.tuple ⟨[.agg ⟨(L5 S T U V W X Y Z a0 b0 c0 d0 e0 f0)⟩,vI 1073741824,vI A]⟩) Q)
 (∃g0:Option Addr,hc B (aS a 0)=some (.pointer g0) /\
 Fn Pz 118 #[.pointer g0] B
 (fun p1 h0=>p1=.tuple ⟨[]⟩ /\
 ∃i0:Option Addr,hc h0 (aS a 0)=some (.pointer i0) /\
 Fn Pz 119 #[.pointer i0] h0
 (fun q1 e=>∃j0:Sl,∃k0:Option Nat,q1=.tuple ⟨[vS j0,.map k0]⟩ /\
 Wn e [vN] 201 fun f=>
 Wn f [.map none] 202 fun r1=>
 Wp r1 (aS e 0) 1 [vS j0] fun s1=>
 Wp s1 (aS f 0) 1 [.map k0] fun g=>
 Wn g [vI 0,vI 0,vN,vN,vI 0,.bool false,vI 0,vI 0,vN,vI 0,.bool false,vI 0,vI 0,vN] 78 fun t1=>
 Wp t1 (aS g 0) 14 [vI 0,vI 0,vN,vN,vI 0,.bool false,vI 0,vI 0,vN,vI 0,.bool false,vI 0,vI 0,vN] fun x=>
 ∃l0:Option Addr,hc x (aS a 0)=some (.pointer l0) /\
 Wn x [.nilFunc,.nilFunc,.nilFunc,.nilFunc] 208 fun u1=>
 Wp u1 (aS x 0) 4 [.func (.func 120) #[] #[.pointer (some (aS a 0)),.pointer (some (aS e 0)),.pointer (some (aS f 0))],.func (.func 122) #[.pointer l0] #[],.func (.func 123) #[] #[.pointer (some (aS a 0)),.pointer (some (aS e 0)),.pointer (some (aS f 0))],.func (.func 124) #[] #[.pointer (some (aS a 0)),.pointer (some (aS e 0)),.pointer (some (aS f 0))]] fun m0=>
 ∃n0:Value,∃o0:Value,∃p0:Value,∃q0:Value,atC m0 (aS x 0) [n0,o0,p0,q0] /\
 QII 1073741824 0 m0 fun C y b z D=>
 sB (decide (b<4))
 (Ib b 4/\∃r0:Value,List.take 1 (List.drop (b.toNat*1) ([n0,o0,p0,q0]:List Value))=[r0] /\
 match r0 with | .func (.func g68) fa69 fc70=>(bif callable Pz g68 then Fn Pz g68 (fa69 ++ #[]++fc70) z
 (fun E i=>∃(j k:Int) (l m:Sl) (n:Int) (o:Bool) (p q:Int) (r:Sl) (s:Int) (t:Bool) (u v:Int) (w:Sl) (c:Int),E=.tuple ⟨[.agg ⟨(L5 j k l m n o p q r s t u v w)⟩,vI c]⟩ /\
 V69k i j k l m n o p q r s t u v w c y g D C b) else ExtW Pz g68 (fa69 ++ #[]++fc70) z
 (fun E i=>∃(j k:Int) (l m:Sl) (n:Int) (o:Bool) (p q:Int) (r:Sl) (s:Int) (t:Bool) (u v:Int) (w:Sl) (c:Int),E=.tuple ⟨[.agg ⟨(L5 j k l m n o p q r s t u v w)⟩,vI c]⟩ /\
 Wn i [vI 0,vI 0,vN,vN,vI 0,.bool false,vI 0,vI 0,vN,vI 0,.bool false,vI 0,vI 0,vN] 78 fun v1=>
 Wp v1 (aS i 0) 14 (L5 j k l m n o p q r s t u v w) fun F=>
 sB (decide (c<y))
 (∃s0 t0 u0 v0 w0 x0 y0 z0 A0 B0 C0 D0 E0 F0,aL5 F (aS i 0) s0 t0 u0 v0 w0 x0 y0 z0 A0 B0 C0 D0 E0 F0 /\
 Wp F (aS g 0) 14 (L5 s0 t0 u0 v0 w0 x0 y0 z0 A0 B0 C0 D0 E0 F0) fun w1=>
 ∃G0,G0<D/\C c (wrap .i64 (b+1)) w1 G0)
 (∃H0,H0<D/\C y (wrap .i64 (b+1)) F H0))) | _=>False)
 (∃I0 J0 K0 M0 N0 O0 P0 Q0 R0 S0 T0 U0 V0 W0,aL5 z (aS g 0) I0 J0 K0 M0 N0 O0 P0 Q0 R0 S0 T0 U0 V0 W0 /\
 Wp z (aS d 0) 14 (L5 I0 J0 K0 M0 N0 O0 P0 Q0 R0 S0 T0 U0 V0 W0) fun X0=>
 ∃Y0 Z0 a1 b1 c1 d1 e1 f1 g1 h1 i1 j1 k1 l1,aL5 X0 (aS d 0) Y0 Z0 a1 b1 c1 d1 e1 f1 g1 h1 i1 j1 k1 l1 /\
 R (.tuple ⟨[.agg ⟨(L5 Y0 Z0 a1 b1 c1 d1 e1 f1 g1 h1 i1 j1 k1 l1)⟩,vI y,vI 0]⟩) X0)))))
theorem vc69 (pa:ByteArray) (pb pc:Sl) (pd pe pf:Int) (pg ph:Sl) (p1:Int) (H:@W69 h R pa pb pc pd pe pf pg ph p1):Fn Pz 69 #[.agg ⟨(L0 pa pb pc pd pe pf pg ph)⟩,vI p1] h R:=fnJ (A:=(.s .z (.s .z (.s .z (.s .z (.s .z (.s .z (.s .z (.s (.s .z (.b (.l [(12,.one (.int .i64)),(43,.one (.int .i64))] .z))) .z))))))))) H
def V33a (a q r:Heap) (s:Nat) (t:Int->Int->Heap->Nat->Prop) (u v:Int):Prop:=
 ∃b c d e f g h i j k l m n o,aL5 a (aS q 0) b c d e f g h i j k l m n o/\Wp a (aS r 0) 14 (L5 b c d e f g h i j k l m n o) fun w=>∃p,p<s/\t u (wrap .i64 (v+1)) w p
def W33 (pa:ByteArray) (pb pc:Sl) (pd pe pf:Int) (pg ph:Sl):Prop:=
 Wn h (L0 pa pb pc pd pe pf pg ph) 27 fun a=>Wn a [vI 0,vI 0,vN,vN,vI 0,.bool false,vI 0,vI 0,vN,vI 0,.bool false,vI 0,vI 0,vN] 78 fun l=>∃m o p q r s t u,aL0 l (aS h 0) m o p q r s t u/\Fn Pz 38 #[.agg ⟨(L0 m o p q r s t u)⟩] l (fun i1 b=>∃v,iB i1 v/\sB (!v) (Wp b (aS a 0) 14 [vI 0,vI 0,vN,vN,vI 0,.bool false,vI 0,vI 0,vN,vI 0,.bool false,vI 0,vI 0,vN] fun w=>∃x y z A B C D E F G H I J K,aL5 w (aS a 0) x y z A B C D E F G H I J K/\R (.tuple ⟨[.agg ⟨(L5 x y z A B C D E F G H I J K)⟩,vI 1]⟩) w) (Wn b [vI 0,vI 0,vN,vN,vI 0,.bool false,vI 0,vI 0,vN,vI 0,.bool false,vI 0,vI 0,vN] 78 fun j1=>Wp j1 (aS b 0) 14 [vI 0,vI 0,vN,vN,vI 0,.bool false,vI 0,vI 0,vN,vI 0,.bool false,vI 0,vI 0,vN] fun L=>∃M,rS L (aS h 1) M/\QII 1073741824 0 L fun g e c i j=>sB (decide (c<(M.n:Int))) (∃N O P Q S T U V,aL0 i (aS h 0) N O P Q S T U V/\Fn Pz 69 #[.agg ⟨(L0 N O P Q S T U V)⟩,vI c] i (fun k1 k=>∃(W X:Int) (Y Z:Sl) (a0:Int) (b0:Bool) (c0 d0:Int) (e0:Sl) (f0:Int) (g0:Bool) (h0 i0:Int) (j0:Sl) (f l1:Int),k1=.tuple ⟨[.agg ⟨(L5 W X Y Z a0 b0 c0 d0 e0 f0 g0 h0 i0 j0)⟩,vI f,vI l1]⟩/\Wn k [vI 0,vI 0,vN,vN,vI 0,.bool false,vI 0,vI 0,vN,vI 0,.bool false,vI 0,vI 0,vN] 78 fun m1=>Wp m1 (aS k 0) 14 (L5 W X Y Z a0 b0 c0 d0 e0 f0 g0 h0 i0 j0) fun d=>sB (decide (f<e)) (V33a d k b j g f c) (sB (f==e) (sB (decide (f<1073741824)) (∃k0,rI d (aS k 0) k0/\∃l0,rI d (aS b 0) l0/\sB (decide (k0<l0)) (V33a d k b j g f c) (∃m0,m0<j/\g e (wrap .i64 (c+1)) d m0)) (∃n0,n0<j/\g e (wrap .i64 (c+1)) d n0)) (∃o0,o0<j/\g e (wrap .i64 (c+1)) d o0)))) (sB (e==1073741824) (Wp i (aS a 0) 14 [vI 0,vI 0,vN,vN,vI 0,.bool false,vI 0,vI 0,vN,vI 0,.bool false,vI 0,vI 0,vN] fun p0=>∃q0 r0 s0 t0 u0 v0 w0 x0 y0 z0 A0 B0 C0 D0,aL5 p0 (aS a 0) q0 r0 s0 t0 u0 v0 w0 x0 y0 z0 A0 B0 C0 D0/\R (.tuple ⟨[.agg ⟨(L5 q0 r0 s0 t0 u0 v0 w0 x0 y0 z0 A0 B0 C0 D0)⟩,vI 0]⟩) p0) (∃E0 F0 G0 H0 I0 J0 K0 M0 N0 O0 P0 Q0 R0 S0,aL5 i (aS b 0) E0 F0 G0 H0 I0 J0 K0 M0 N0 O0 P0 Q0 R0 S0/\Wp i (aS a 0) 14 (L5 E0 F0 G0 H0 I0 J0 K0 M0 N0 O0 P0 Q0 R0 S0) fun T0=>∃U0 V0 W0 X0 Y0 Z0 a1 b1 c1 d1 e1 f1 g1 h1,aL5 T0 (aS a 0) U0 V0 W0 X0 Y0 Z0 a1 b1 c1 d1 e1 f1 g1 h1/\R (.tuple ⟨[.agg ⟨(L5 U0 V0 W0 X0 Y0 Z0 a1 b1 c1 d1 e1 f1 g1 h1)⟩,vI 18]⟩) T0))))
theorem vc33 (pa:ByteArray) (pb pc:Sl) (pd pe pf:Int) (pg ph:Sl) (H:@W33 h R pa pb pc pd pe pf pg ph):Fn Pz 33 #[.agg ⟨(L0 pa pb pc pd pe pf pg ph)⟩] h R:=fnJ (A:=(.s .z (.s .z (.s .z (.s (.s .z (.b (.l [(5,.one (.int .i64)),(18,.one (.int .i64))] .z))) .z))))) H
end Go.VC
end

section
namespace Go.VC
open Go.Proofs IntKind




end Go.VC
end

section
namespace Go.VC
open Go.Proofs IntKind
variable {h:Heap} {R:Value->Heap->Prop}
def V9a (e f:Int) (R:Value->Heap->Prop) (d:Sl) (b:Heap) (c:Int) (z:Heap) (g:Nat) (h:Int->Heap->Nat->Prop):Prop:=
 sB (e != 0) (sB (f==e) (R (.bool ((d.n:Int)==0)) b) (R (.bool false) b)) (sB (f==0) (sB (decide (c>=(d.n:Int))) (R (.bool false) b) (NB d.a fun A B=>Ib c d.n/\∃i j k l m o,aL4 b ⟨A,B+c.toNat*6,none⟩ i j k l m o/\∃p q r s t u,aL4 b (aS z 0) p q r s t u/\Fn Pz 16 #[.agg ⟨(L4 i j k l m o)⟩,.agg ⟨(L4 p q r s t u)⟩] b (fun C v=>∃w,iB C w/\sB (!w) (R (.bool false) v) (∃x,x<g/\h (wrap .i64 (c+1)) v x)))) (∃y,y<g/\h (wrap .i64 (c+1)) b y))
def W9 (pa:ByteArray) (pb pc:Sl) (pd pe pf:Int) (pg ph:Sl):Prop:=
 Wn h (L0 pa pb pc pd pe pf pg ph) 27 fun h9=>Fn Pz 10 #[] h9 (fun H0 g=>∃l,iB H0 l/\sB (!l) (R (.bool false) g) (∃m o p q r s t u,aL0 g (aS h 0) m o p q r s t u/\Fn Pz 11 #[.agg ⟨(L0 m o p q r s t u)⟩] g (fun I0 i=>∃v,iB I0 v/\sB (!v) (R (.bool true) i) (∃w x y z A B C D,aL0 i (aS h 0) w x y z A B C D/\Fn Pz 31 #[.agg ⟨(L0 w x y z A B C D)⟩] i (fun J0 j=>∃E,iB J0 E/\sB (!E) (R (.bool true) j) (∃F G H I J K L M,aL0 j (aS h 0) F G H I J K L M/\Fn Pz 32 #[.agg ⟨(L0 F G H I J K L M)⟩] j (fun K0 N=>∃(b:Sl) (c:Int),K0=.tuple ⟨[vS b,vI c]⟩/\∃O P Q S T U V W,aL0 N (aS h 0) O P Q S T U V W/\Fn Pz 33 #[.agg ⟨(L0 O P Q S T U V W)⟩] N (fun M0 X=>∃(Y Z:Int) (a0 b0:Sl) (c0:Int) (d0:Bool) (e0 f0:Int) (g0:Sl) (h0:Int) (i0:Bool) (j0 k0:Int) (l0:Sl) (m0:Int),M0=.tuple ⟨[.agg ⟨(L5 Y Z a0 b0 c0 d0 e0 f0 g0 h0 i0 j0 k0 l0)⟩,vI m0]⟩/\Wn X [vI 0,vI 0,vN,vN,vI 0,.bool false,vI 0,vI 0,vN,vI 0,.bool false,vI 0,vI 0,vN] 78 fun N0=>Wp N0 (aS X 0) 14 (L5 Y Z a0 b0 c0 d0 e0 f0 g0 h0 i0 j0 k0 l0) fun n0=>∃o0,rS n0 (aS h 1) o0/\QI 0 n0 fun p0 d a q0=>sB (decide (d<(o0.n:Int))) (∃r0 s0 t0 u0 v0 w0 x0 y0,aL0 a (aS h 0) r0 s0 t0 u0 v0 w0 x0 y0/\Fn Pz 12 #[.agg ⟨(L0 r0 s0 t0 u0 v0 w0 x0 y0)⟩,vI d] a (fun O0 e=>∃(z0 A0 B0:Int) (C0 D0 E0:Sl) (f:Int),O0=.tuple ⟨[.agg ⟨(L4 z0 A0 B0 C0 D0 E0)⟩,vI f]⟩/\Wn e [vI 0,vI 0,vI 0,vN,vN,vN] 33 fun P0=>Wp P0 (aS e 0) 6 (L4 z0 A0 B0 C0 D0 E0) fun k=>sB (f==18) (sB (m0==0) (R (.bool false) k) (V9a f c R b k d e q0 p0)) (V9a f c R b k d e q0 p0))) (sB (c==0) (∃F0,rS a (aS h 1) F0/\R (.bool ((b.n:Int)==(F0.n:Int))) a) (R (.bool false) a))))))))))
theorem vc9 (pa:ByteArray) (pb pc:Sl) (pd pe pf:Int) (pg ph:Sl) (H:@W9 h R pa pb pc pd pe pf pg ph):Fn Pz 9 #[.agg ⟨(L0 pa pb pc pd pe pf pg ph)⟩] h R:=fnJ (A:=(.s .z (.s .z (.s .z (.s .z (.s .z (.s (AI 33) .z))))))) H
end Go.VC
end

section
namespace Go.LexS
def isLetter (n:Int):Bool:=decide (97<=n)&&decide (n<=122)||decide (65<=n)&&decide (n<=90)
def isDigit (n:Int):Bool:=decide (48<=n)&&decide (n<=57)
def isInner (n:Int):Bool:=isLetter n||isDigit n||(n==95)
def isSpace (n:Int):Bool:=n==32||n==9||n==10||n==13
def lt (c:UInt8):Bool:=isLetter c.toNat
def dg (c:UInt8):Bool:=isDigit c.toNat
def inn (c:UInt8):Bool:=isInner c.toNat
def sp (c:UInt8):Bool:=isSpace c.toNat
structure T where
 kind:Nat
 text:List UInt8
 val:Nat
 deriving DecidableEq
def keywords:List (List UInt8):=[[97,103,97,105,110],[97,110,100],[97,115],[97,116],[99,97,108,108],[99,104,111,105,99,101],[101,108,115,101],[102,114,111,109],[105,102],[105,110,116],[108,101,110],[108,111,111,112],[109,101,115,115,97,103,101],[111,102],[111,102,102,101,114],[111,110],[111,114],[112,97,114],[112,108,97,121,115],[112,114,111,116,111,99,111,108],[115,101,114,118,105,99,101],[116,101,120,116],[116,105,109,101,115],[116,111],[118,97,114],[119,104,101,114,101],[119,104,105,108,101],[119,105,116,104,105,110]]
def isName (l:List UInt8):Bool:=match l with
 | []=>false
 | c::_=>decide (l.length<=16)&&lt c&&l.all inn
def isWord (l:List UInt8):Bool:=isName l && !decide (l∈keywords)
end Go.LexS
end

section
namespace Go.VC
open Go.LexS
abbrev Nm:=List UInt8
def i64 (n:Int):Value:=.int .i64 n
def slV (s:Sl):Value:=.slice s.a s.n s.c
structure Fld where
 nm:Nm
 k:Int
 lo:Int
 hi:Int
def Fld.cs (f:Fld):List Value:=[.string (bs f.nm),.int .i64 f.k,.int .i64 f.lo,.int .i64 f.hi]
structure Df where
 x:Int
 y:Int
 c:Int
def Df.cs (d:Df):List Value:=[.int .i64 d.x,.int .i64 d.y,.int .i64 d.c]
structure Eqs where
 x:Int
 y:Int
def Eqs.cs (d:Eqs):List Value:=[.int .i64 d.x,.int .i64 d.y]
structure Dc where
 nm:Nm
 hf:Sl
 first:Int
 hd:Sl
 he:Sl
 fs:List Fld
 ds:List Df
 es:List Eqs
def Dc.cs (d:Dc):List Value:=[.string (bs d.nm),.slice d.hf.a d.hf.n d.hf.c,.int .i64 d.first,.slice d.hd.a d.hd.n d.hd.c,.slice d.he.a d.he.n d.he.c]
structure Ed where
 f:Int
 a:Int
 b:Int
 l:Int
 t:Int
 ag:Bool
def Ed.cs (x:Ed):List Value:=[.int .i64 x.f,.int .i64 x.a,.int .i64 x.b,.int .i64 x.l,.int .i64 x.t,.bool x.ag]
structure To where
 s:Int
 k:Int
 e:Int
def To.cs (x:To):List Value:=[.int .i64 x.s,.int .i64 x.k,.int .i64 x.e]
structure Gl where
 nm:Nm
 hr:Sl
 hd:Sl
 n:Int
 s:Int
 e:Int
 he:Sl
 ht:Sl
 rs:List Nm
 ds:List Dc
 es:List Ed
 ts:List To
def Gl.cs (g:Gl):List Value:=[.string (bs g.nm),.slice g.hr.a g.hr.n g.hr.c,.slice g.hd.a g.hd.n g.hd.c,.int .i64 g.n,.int .i64 g.s,.int .i64 g.e,.slice g.he.a g.he.n g.he.c,.slice g.ht.a g.ht.n g.ht.c]
def Gl.v (g:Gl):Value:=.agg ⟨g.cs⟩
def nmC (x:Nm):List Value:=[.string (bs x)]
structure RL {α:Type} (h:Heap) (k:Nat) (s:Sl) (cs:α->List Value) (L:List α):Prop where
 rw:Rw h k s (L.map cs)
 cap:s.n<=s.c
 nil:s.a=none->s.n=0/\s.c=0
 sm:L.length<=1048576
theorem RL.ext {α:Type} {h h':Heap} {k:Nat} {s:Sl} {cs:α->List Value} {L:List α} (hr:RL h k s cs L) (E:Ext h h'):RL h' k s cs L:=⟨hr.rw.ext E,hr.cap,hr.nil,hr.sm⟩
theorem RL.ln {α:Type} {h:Heap} {k:Nat} {s:Sl} {cs:α->List Value} {L:List α} (hr:RL h k s cs L):s.n=L.length:=hr.rw.ln
structure DI (h:Heap) (d:Dc):Prop where
 pf:RL h 4 d.hf Fld.cs d.fs
 pd:RL h 3 d.hd Df.cs d.ds
 pe:RL h 2 d.he Eqs.cs d.es
theorem DI.ext {h h':Heap} {d:Dc} (hd:DI h d) (E:Ext h h'):DI h' d:=⟨hd.pf.ext E,hd.pd.ext E,hd.pe.ext E⟩
structure DL (h:Heap) (s:Sl) (L:List Dc):Prop where
 r:RL h 5 s Dc.cs L
 i:∀d∈L,DI h d
theorem DL.ext {h h':Heap} {s:Sl} {L:List Dc} (hd:DL h s L) (E:Ext h h'):DL h' s L:=⟨hd.r.ext E,fun d hm=>(hd.i d hm).ext E⟩
structure GI (h:Heap) (g:Gl):Prop where
 r:RL h 1 g.hr nmC g.rs
 d:DL h g.hd g.ds
 e:RL h 6 g.he Ed.cs g.es
 t:RL h 3 g.ht To.cs g.ts
theorem GI.ext {h h':Heap} {g:Gl} (hg:GI h g) (E:Ext h h'):GI h' g:=⟨hg.r.ext E,hg.d.ext E,hg.e.ext E,hg.t.ext E⟩
theorem RL.take {α:Type} {h:Heap} {k:Nat} {s:Sl} {cs:α->List Value} {L:List α} (hr:RL h k s cs L) {i:Nat} (hi:i<=s.n):RL h k ⟨subA s.a (Int.toNat 0) s.c k,Int.toNat (i:Int)-Int.toNat 0,s.c-Int.toNat 0⟩ cs (L.take i):=by
 have h1:=hr.rw.1;have e:subA s.a (Int.toNat 0) s.c k=s.a:=subA_zero _ _ _;rw[e];refine⟨⟨by rw[Yc,Yu];simp only[Yc] at h1;show i-0=_;omega,fun hp=>?_⟩,by have:=hr.cap;show i-0<=s.c-0;omega,fun ha=>?_,by have:=hr.sm;rw[Yu];omega⟩
 .rw[Yc,Yu] at hp;obtain⟨b,o,ha,hall⟩:=hr.rw.2 (by rw[Yc];omega);refine⟨b,o,ha,fun j row hj=>hall j row ?_⟩;rw[List.map_take,Yyf] at hj;split at hj
  .exact hj
  .cases hj
 .have:=hr.nil ha;exact⟨by show i-0=0;omega,by show s.c-0=0;omega⟩
end Go.VC
end

section
namespace Go.VC
open Go.Proofs Go.LexS
theorem letter221 (b:UInt8) (h:Heap):Fn Pz 221 #[.int .u8 b.toNat] h fun v h'=>v=.bool (lt b)/\h'=h:=by
 apply vc221;unfold W221;unfold lt isLetter;generalize (b.toNat:Int)=n
 repeat' first
  | refine sBi (fun _=>?_) (fun _=>?_)
 all_goals
  refine⟨?_,rfl⟩;congr 1;rw[Bool.eq_iff_iff];simp only[Bool.or_eq_true,Yt,decide_eq_true_eq,Bool.false_eq_true,true_iff,false_iff];omega
theorem digit253 (b:UInt8) (h:Heap):Fn Pz 253 #[.int .u8 b.toNat] h fun v h'=>v=.bool (dg b)/\h'=h:=by
 apply vc253;unfold W253;unfold dg isDigit;refine sBi (fun c=>⟨?_,rfl⟩) (fun c=>⟨?_,rfl⟩)
 .rw[decide_eq_true (p:=(48:Int)<=b.toNat) c,Bool.true_and]
 .rw[decide_eq_false (p:=(48:Int)<=b.toNat) c,Bool.false_and]
theorem inner222 (b:UInt8) (h:Heap):Fn Pz 222 #[.int .u8 b.toNat] h fun v h'=>v=.bool (inn b)/\h'=h:=by
 apply vc222;unfold W222;refine (letter221 b h).mono ?_;rintro _ h3 ⟨rfl,rfl⟩;refine⟨_,rfl,sB_intro (fun c=>?_) (fun c=>?_)⟩
 .exact⟨by rw[show inn b=(lt b||dg b||((b.toNat:Int)==95)) from rfl,c];rfl,rfl⟩
 .refine (digit253 b _).mono ?_;rintro _ h6 ⟨rfl,rfl⟩;refine⟨_,rfl,sB_intro (fun d=>?_) (fun d=>?_)⟩
  .exact⟨by rw[show inn b=(lt b||dg b||((b.toNat:Int)==95)) from rfl,c,d];rfl,rfl⟩
  .exact⟨by rw[show inn b=(lt b||dg b||((b.toNat:Int)==95)) from rfl,c,d];rfl,rfl⟩
theorem isname189 (s:ByteArray) (h:Heap):Fn Pz 189 #[.string s] h fun v h'=>v=.bool (isName s.data.toList)/\h'=h:=by
 apply vc189;unfold W189;have hsz:=size_len s;rw[strEq];generalize hL:s.data.toList=L at *;refine sB_intro (fun he=>?_) (fun he=>?_)
 .have:L=[]:=Yyn he;subst this;exact⟨rfl,rfl⟩
 .have hne:L≠[]:=Yyo he;have hpos:0<L.length:=List.length_pos_iff.2 hne;obtain⟨b,hb,hby⟩:=byte_get (s:=s) (i:=0) (by omega);rw[hL] at hb;have hcons:L=b::L.drop 1:=by have:=drop_cons hb;rwa [List.drop_zero] at this
  have hdef:isName L=(decide (L.length<=16)&&lt b&&L.all inn):=by
   conv=>lhs;rw[hcons]
   rw[isName,<-hcons]
  rw[hdef];refine sB_intro (fun hgt=>?_) (fun hgt=>?_)
  .refine⟨?_,rfl⟩;rw[decide_eq_false (by have:=Yyn hgt;omega)];rfl
  .have h16:L.length<=16:=by have:=Yyo hgt;omega
   rw[decide_eq_true h16];refine⟨⟨by omega,by omega⟩,?_⟩;rw[show Int.toNat 0=0 from rfl,hby];refine (letter221 _ _).mono ?_;rintro v h3 ⟨rfl,rfl⟩;refine⟨_,rfl,sB_intro (fun hlet=>?_) (fun hlet=>?_)⟩
   .refine⟨?_,rfl⟩;rw[show lt b=false from by rw[Bool.not_eq_true'] at hlet;exact hlet];rfl
   .rw[show lt b=true from by rw[Bool.not_eq_false'] at hlet;exact hlet];refine up_loop (n:=s.size) (fun i h'=>h'=h3/\∀(j:Nat) (b:UInt8),j<i->L[j]?=some b->(!inn b)=false) ⟨rfl,fun j b hj=>by omega⟩ ?_;rintro-i h8 hi ⟨rfl,hd⟩;refine sB_intro (fun hlt=>?_) (fun hge=>?_)
    .have hlt':=lt_t hlt;obtain⟨y,hy,hby2⟩:=byte_get hlt';rw[hL] at hy;refine⟨⟨by omega,by omega⟩,?_⟩;rw[show Int.toNat (i:Int)=i from rfl,hby2];refine (inner222 _ _).mono ?_;rintro v h11 ⟨rfl,rfl⟩;refine⟨_,rfl,sB_intro (fun hp=>?_) (fun hp=>?_)⟩
     .refine⟨?_,rfl⟩;have:L.all inn=false:=by
       rw[<-Bool.not_eq_true,all_split];intro hh;have:=hh y i hy;rw[Bool.not_eq_true'] at hp;rw[show inn y=false from hp] at this;cases this
      rw[this];rfl
     .exact Up.next hlt' (by omega) ⟨rfl,scan_next (p:=fun b=>!inn b) hy hp hd⟩
    .have hge':=lt_f hge;refine⟨?_,rfl⟩;rw[(all_split inn L).2 fun b j hb=>by simpa using hd j b (by have:=(Ya.1 hb).1;omega) hb];rfl
theorem index190 (L:List Nm) (x:ByteArray) (s:Sl) (h:Heap) (hr:RL h 1 s nmC L) :
  Fn Pz 190 #[.slice s.a s.n s.c,.string x] h fun v h'=>(∃k:Int,v=.int .i64 k/\decide (k>=0)=decide (x.data.toList∈L))/\h'=h:=by
 apply vc190;unfold W190;have hn:=hr.ln;have hm:=hr.sm;refine up_loop (n:=s.n) (fun i h'=>h'=h/\∀(j:Nat) (y:Nm),j<i->L[j]?=some y->decide (x.data.toList=y)=false) ⟨rfl,fun j y hj=>by omega⟩ ?_;rintro-i h5 hi ⟨rfl,hd⟩;refine sB_intro (fun l=>?_) (fun l=>?_)
 .replace l:=lt_t l;refine hr.rw.nbI (by omega) (by omega) fun b o d g t=>?_;replace g:L[i]?=some d:=g;refine⟨_,t.hd,?_⟩;rw[strEq,bs_list];refine sB_intro (fun he=>?_) (fun hne=>?_)
  .have:=Yyn he;exact⟨⟨_,rfl,by rw[decide_eq_true (show (i:Int)>=0 by omega),decide_eq_true (by rw[this];exact Yb g)]⟩,rfl⟩
  .exact Up.next l (by omega) ⟨rfl,scan_next (p:=fun y=>decide (x.data.toList=y)) g hne hd⟩
 .replace l:=lt_f l;refine⟨⟨_,rfl,?_⟩,rfl⟩;rw[decide_eq_false (show ¬((-1:Int)>=0) by omega),decide_eq_false];intro hm;obtain⟨j,hj⟩:=Yf.1 hm;exact Yyo (hd j _ (by have:=(Ya.1 hj).1;omega) hj) rfl
theorem has133 (L:List Nm) (x:ByteArray) (s:Sl) (h:Heap) (hr:RL h 1 s nmC L) :
  Fn Pz 133 #[.slice s.a s.n s.c,.string x] h fun v h'=>v=.bool (decide (x.data.toList∈L))/\h'=h:=by
 apply vc133;unfold W133;refine (index190 L x s h hr).mono ?_;rintro v h3 ⟨⟨k,rfl,hk⟩,rfl⟩;exact⟨_,rfl,by rw[hk],rfl⟩
theorem own_rl {α:Type} {h:Heap} {b:Nat} {e:TypeId} {k:Nat} {cs:α->List Value} {L:List α} {xs:List Value} (hx:xs=(L.map cs).flatten) (ho:Own h b xs e) (hk:∀x,(cs x).length=k) (hl:L.length<=1048576) {n c:Nat} (hn:n=L.length) (hc:n<=c):RL h k ⟨some ⟨b,0,none⟩,n,c⟩ cs L:=by
 subst hx;refine⟨⟨by rw[Yc];exact hn,fun _=>⟨b,0,rfl,fun i row hi j v hj=>?_⟩⟩,hc,fun e=>by (cases e),hl⟩;have hr:∀r∈L.map cs,r.length=k:=fun r hr=>by obtain⟨x,_,rfl⟩:=Yp.1 hr;exact hk x
 have hjl:=(Ya.1 hj).1;rw[hr row (Yb hi)] at hjl;rw[addk_at,Nat.zero_add,ho.hc,getElem?_flatten _ i j row hr hi hjl];exact hj
theorem isword132 (s:ByteArray) (h:Heap):Fn Pz 132 #[.string s] h fun v h'=>v=.bool (isWord s.data.toList)/\Ext h h':=by
 apply vc132;unfold W132;refine newput (vs:=(keywords.map nmC).flatten) rfl fun h2 E o=>?_;refine (isname189 s h2).mono ?_;rintro _ h5 ⟨rfl,rfl⟩;refine⟨_,rfl,sB_intro (fun c=>?_) (fun c=>?_)⟩
 .refine⟨by decide,?_⟩;refine (has133 keywords s ⟨subA (some ⟨h.size,0,none⟩) (Int.toNat 0) 28 1,Int.toNat (28:Nat)-Int.toNat 0,28-Int.toNat 0⟩ h5 (own_rl rfl o (fun _=>rfl) (by decide) rfl (by decide))).mono ?_;rintro _ h8 ⟨rfl,rfl⟩;exact⟨_,rfl,by rw[show isWord s.data.toList=(isName s.data.toList && !decide (s.data.toList∈keywords)) from rfl,c];rfl,E⟩
 .exact⟨by rw[show isWord s.data.toList=(isName s.data.toList && !decide (s.data.toList∈keywords)) from rfl,c];rfl,E⟩
end Go.VC
end

section
namespace Go.VC
theorem wu64 {n:Int} (h0:0<=n) (h1:n<=18446744073709551615):IntKind.wrap .u64 n=n:=by
 simp[IntKind.wrap,IntKind.signed,IntKind.bits];omega
def inC (n:Int):List Value:=[.int .i64 n]
def wC (w:Nat):List Value:=[.int .u64 w]
def memB (ws:List Nat) (k:Nat):Bool:=(ws.getD (k/64) 0).testBit (k%64)
theorem shr_nat {w k:Nat} (hk:k<64):shrI .u64 (w:Int) (k:Int)=((w/2^k:Nat):Int):=by
 unfold shrI;have e:min (Int.toNat (k:Int)) (IntKind.bits .u64)=k:=by simp[IntKind.bits];omega
 rw[e];show Int.fdiv (w:Int) ((2:Int)^k)=_;rw[show ((2:Int)^k)=((2^k:Nat):Int) by simp,Int.fdiv_eq_ediv_of_nonneg _ (Int.natCast_nonneg _)];rfl
theorem and_one {w:Nat} (hw:w<2^64):andI .u64 (w:Int) 1=((w%2:Nat):Int):=by
 unfold andI;have e:(BitVec.ofInt (IntKind.bits .u64) (w:Int)&&&BitVec.ofInt (IntKind.bits .u64) 1).toNat=w%2:=by
  show (BitVec.ofInt 64 (w:Int)&&&BitVec.ofInt 64 ((1:Nat):Int)).toNat=w%2;rw[BitVec.ofInt_natCast,BitVec.ofInt_natCast,BitVec.toNat_and,BitVec.toNat_ofNat,BitVec.toNat_ofNat,Nat.mod_eq_of_lt hw];exact Nat.and_one_is_mod w
 rw[e];exact wu64 (by omega) (by omega)
theorem bit_has {w k:Nat} (hw:w<2^64) (hk:k<64):(andI .u64 (shrI .u64 (w:Int) (k:Int)) 1==1)=w.testBit k:=by
 rw[shr_nat hk,and_one (Nat.lt_of_le_of_lt (Nat.div_le_self _ _) hw),Nat.testBit_eq_decide_div_mod_eq];by_cases h:w/2^k%2=1
 .rw[h,decide_eq_true rfl];rfl
 .rw[decide_eq_false h];exact beq_eq_false_iff_ne.2 (by omega)
theorem shl_one {k:Nat} (hk:k<64):shlI .u64 1 (k:Int)=((2^k:Nat):Int):=by
 unfold shlI;have e:min (Int.toNat (k:Int)) (IntKind.bits .u64)=k:=by simp[IntKind.bits];omega
 rw[e,Int.one_mul];have h2:2^k<2^64:=Nat.pow_lt_pow_right (by omega) hk;rw[show ((2:Int)^k)=((2^k:Nat):Int) by simp];generalize 2^k=m at *;exact wu64 (by omega) (by omega)
theorem or_nat {a b:Nat} (ha:a<2^64) (hb:b<2^64):orI .u64 (a:Int) (b:Int)=((a|||b:Nat):Int):=by
 unfold orI;have e:(BitVec.ofInt (IntKind.bits .u64) (a:Int)|||BitVec.ofInt (IntKind.bits .u64) (b:Int)).toNat=a|||b:=by
  show (BitVec.ofInt 64 (a:Int)|||BitVec.ofInt 64 (b:Int)).toNat=_;rw[BitVec.ofInt_natCast,BitVec.ofInt_natCast,BitVec.toNat_or,BitVec.toNat_ofNat,BitVec.toNat_ofNat,Nat.mod_eq_of_lt ha,Nat.mod_eq_of_lt hb]
 rw[e];have:=Nat.or_lt_two_pow ha hb;exact wu64 (by omega) (by omega)
theorem clr_zero {a b:Nat} (ha:a<2^64) (hb:b<2^64):clrI .u64 (a:Int) (b:Int)=0 ↔ ∀k,k<64->a.testBit k=true->b.testBit k=true:=by
 have hlt:(BitVec.ofNat 64 a &&& ~~~BitVec.ofNat 64 b).toNat<18446744073709551616:=(BitVec.ofNat 64 a &&& ~~~BitVec.ofNat 64 b).isLt;have key:clrI .u64 (a:Int) (b:Int)=((BitVec.ofNat 64 a &&& ~~~BitVec.ofNat 64 b).toNat:Int):=by
  unfold clrI;show IntKind.wrap .u64 ((BitVec.ofInt 64 (a:Int) &&& ~~~BitVec.ofInt 64 (b:Int)).toNat:Int)=_;rw[BitVec.ofInt_natCast,BitVec.ofInt_natCast];exact wu64 (by omega) (by omega)
 rw[key];have bitx:∀k,k<64->(BitVec.ofNat 64 a &&& ~~~BitVec.ofNat 64 b).getLsbD k=(a.testBit k && !b.testBit k):=fun k hk=>by
  rw[BitVec.getLsbD_and,BitVec.getLsbD_not,BitVec.getLsbD_ofNat,BitVec.getLsbD_ofNat];simp[hk]
 constructor
 .intro h k hk hak;have h0:(BitVec.ofNat 64 a &&& ~~~BitVec.ofNat 64 b)=0#64:=BitVec.eq_of_toNat_eq (by rw[show (BitVec.ofNat 64 a &&& ~~~BitVec.ofNat 64 b).toNat=0 by omega];rfl);have:=bitx k hk;rw[h0,BitVec.getLsbD_zero,hak] at this;cases hbk:b.testBit k
  .rw[hbk] at this;cases this
  .rfl
 .intro h;have h0:(BitVec.ofNat 64 a &&& ~~~BitVec.ofNat 64 b)=0#64:=by
   apply BitVec.eq_of_getLsbD_eq;intro k hk;rw[bitx k hk,BitVec.getLsbD_zero];cases hak:a.testBit k
   .rfl
   .rw[h k hk hak];rfl
  rw[h0];rfl
theorem memB_set {ws:List Nat} {n k:Nat} (hn:n/64<ws.length):memB (ws.set (n/64) (ws.getD (n/64) 0|||2^(n%64))) k=(decide (k=n)||memB ws k):=by
 unfold memB;by_cases h:k/64=n/64
 .rw[h,Yo,Yq hn];show Nat.testBit (ws.getD (n/64) 0|||2^(n%64)) (k%64)=_;rw[Nat.testBit_or,Nat.testBit_two_pow,Bool.or_comm];congr 1;by_cases h2:k=n
  .subst h2;simp
  .rw[decide_eq_false h2];simp only[decide_eq_false_iff_not];omega
 .rw[Yo,Yy (fun e=>h e.symm),<-Yo];have:k≠n:=fun e=>h (by rw[e]);simp[this]
theorem memB_zero (n k:Nat):memB (List.replicate n 0) k=false:=by
 unfold memB;rw[Yo,List.getElem?_replicate];split<;>simp
theorem memB_take {ws:List Nat} {n:Nat} (h:∀i w,n<=i->ws[i]?=some w->w=0) (k:Nat):memB (ws.take n) k=memB ws k:=by
 unfold memB;rw[Yo,Yo,Yyf];split
 .rfl
 .rename_i hn;cases hw:ws[k/64]? with
  | none=>rfl
  | some w=>rw[h _ w (by omega) hw];simp
structure SetV (h:Heap) (s:Sl) (p:Nat->Bool):Prop where
 ex:∃ws:List Nat,Rw h 1 s (ws.map wC)/\ws.length<=64/\(∀w∈ws,w<2^64)/\∀k,memB ws k=p k
theorem SetV.ext {h h':Heap} {s:Sl} {p:Nat->Bool} (hs:SetV h s p) (E:Ext h h'):SetV h' s p:=by
 obtain⟨ws,h1,h2⟩:=hs.ex;exact⟨ws,h1.ext E,h2⟩
end Go.VC
end

section
namespace Go.VC
open Go.RowKit
structure Ev where
 send:Bool
 peer:Int
 label:Int
 deriving DecidableEq
def Ev.cs (x:Ev):List Value:=[.bool x.send,.int .i64 x.peer,.int .i64 x.label]
structure Ar where
 x:Ev
 to:Int
def Ar.cs (a:Ar):List Value:=[.bool a.x.send,.int .i64 a.x.peer,.int .i64 a.x.label,.int .i64 a.to]
def slC (s:Sl):List Value:=[.slice s.a s.n s.c]
def vis1 (role:Int) (x:Ed):Option Ev:=if role=x.a then some ⟨true,x.b,x.l⟩ else if role=x.b then some ⟨false,x.a,x.l⟩ else none
def quietL (es:List Ed) (role:Int) (n:Nat):List Int:=es.filterMap fun x=>if x.f=(n:Int) then (match vis1 role x with | none=>some x.t | some _=>none) else none
def visL (es:List Ed) (role:Int) (n:Nat):List Ar:=es.filterMap fun x=>if x.f=(n:Int) then (vis1 role x).map fun e=>⟨e,x.t⟩ else none
theorem quietL_snoc (es:List Ed) (role:Int) (n:Nat) (x:Ed):quietL (es++[x]) role n=quietL es role n++(if x.f=(n:Int) then (match vis1 role x with | none=>[x.t] | some _=>[]) else []):=by
 unfold quietL;rw[List.filterMap_append];congr 1;by_cases h:x.f=(n:Int)
 .simp only[List.filterMap_cons,List.filterMap_nil,if_pos h];cases vis1 role x<;>rfl
 .simp only[List.filterMap_cons,List.filterMap_nil,if_neg h]
theorem visL_snoc (es:List Ed) (role:Int) (n:Nat) (x:Ed):visL (es++[x]) role n=visL es role n++(if x.f=(n:Int) then (match vis1 role x with | none=>[] | some e=>[⟨e,x.t⟩]) else []):=by
 unfold visL;rw[List.filterMap_append];congr 1;by_cases h:x.f=(n:Int)
 .simp only[List.filterMap_cons,List.filterMap_nil,if_pos h];cases vis1 role x<;>rfl
 .simp only[List.filterMap_cons,List.filterMap_nil,if_neg h]
def nest {α:Type} (e:TypeId) (k:Nat) (cs:α->List Value) (q:Sl × List α):It:=.sl q.1 e k (q.2.map cs)
theorem set_mid {α:Type} {P R:List α} {Q:List α} {i:Nat} (hi:i<Q.length) (x:α):(P++Q++R).set (P.length+i) x=P++Q.set i x++R:=by
 rw[Yz,List.set_append_right _ _ (by omega),Nat.add_sub_cancel_left,List.set_append_left _ _ hi,Yz]
theorem get_mid {α:Type} {P R:List α} {Q:List α} {i:Nat} (hi:i<Q.length):(P++Q++R)[P.length+i]?=Q[i]?:=by
 rw[Yz,Yyc (by omega),Nat.add_sub_cancel_left,Yyi hi]
theorem St.nestAt {α:Type} {P:Program} {h0 h:Heap} {A B:List It} {Q:List (Sl × List α)} {e:TypeId} {n:Nat} {cs:α->List Value} (hs:St h0 h (A++Q.map (nest e n cs)++B)) {i:Nat} {q:Sl × List α} (hi:Q[i]?=some q)
  {t bytes:Nat} (hT:appB P t e n bytes=true) (d:α) {a:Addr} (ha:atC h a (cs d)) (hn:(cs d).length=n) (h1:(cs d).all oneB=true) (hb:(q.1.n+1)*bytes<=140737488355328) (h63:q.1.n+1<=maxLen)
  {K:Sl->Heap->Prop} (hK:∀(r:Sl) (h':Heap),r.n=q.1.n+1->St h0 h' (A++(Q.set i (r,q.2++[d])).map (nest e n cs)++B)->K r h') :
  App P t t (.slice q.1.a q.1.n q.1.c) (.slice (some a) 1 1) h K:=by
 have hil:i<Q.length:=(Ya.1 hi).1;have hil':i<(Q.map (nest e n cs)).length:=by rw[Yc];exact hil
 refine hs.appended (A.length+i) (rows:=q.2.map cs) (by rw[get_mid hil',Yd,hi];rfl) hT (news:=[cs d]) (by simpa using ha) rfl (fun r hr=>by rw[Ye] at hr;rw[hr];exact hn) (by simpa using h1) hb h63 fun r h' hrn h3=>hK r h' hrn ?_;rw[set_mid hil'] at h3;have e1:(Q.map (nest e n cs)).set i (.sl r e n (q.2.map cs++[cs d]))=(Q.set i (r,q.2++[d])).map (nest e n cs):=by
  rw[List.map_set];congr 1;unfold nest;simp
 rw[e1] at h3;exact h3
theorem St.newbE {h0 h:Heap} {L:List It} (hs:St h0 h L) {xs:List Value} {e:TypeId} {K:Heap->Prop} (hK:∀h2,Ext h h2->St h0 h2 (.blk h.size xs e::L)->K h2):∀h2:Heap,h2=h.push (.cells ⟨xs⟩ e)->K h2:=
 VC.newb fun h2 E o=>hK h2 E (hs.more E (i:=.blk h.size xs e) o fun b hb=>by cases hb;exact Yyt _)
theorem St.perm {h0 h:Heap} {L L':List It} (hs:St h0 h L) (hp:L.Perm L'):St h0 h L':=
 ⟨hs.ext,fun i hi=>hs.ok i (hp.mem_iff.2 hi),(hp.pairwise_iff (fun {a b} hab x hx hy=>hab x hy hx)).1 hs.ap⟩
theorem St.nests {α:Type} {h0 h:Heap} {A B:List It} {e:TypeId} {k:Nat} {cs:α->List Value} (hs:St h0 h (A++B)):∀n:Nat,St h0 h (A++(List.replicate n ((⟨.none,0,0⟩,[]):Sl × List α)).map (nest e k cs)++B)
 | 0=>by simpa using hs
 | n+1=>by
  have h1:=(hs.nests (α:=α) (e:=e) (k:=k) (cs:=cs) n).nil_ e k;refine h1.perm ?_;rw[List.replicate_succ,Yyl,Yz,Yz];have:nest e k cs ((⟨.none,0,0⟩,[]):Sl × List α)=.sl ⟨.none,0,0⟩ e k []:=rfl;rw[this];exact List.perm_middle.symm
theorem sm_nil {h h':Heap}:Sm [] h h':=fun a ha=>by cases ha
theorem sm_cons {h h':Heap} {a:Addr} {al:List Addr} (hb:h'[a.block]?=h[a.block]?) (hr:Sm al h h'):Sm (a::al) h h':=by
 intro x hx k v hv;rcases Yr.1 hx with rfl | hx
 .rw[hc_of_block (h:=h) (by rw[addk_block'];exact hb)];exact hv
 .exact hr x hx k v hv
theorem St.same {h0 h h':Heap} {L L':List It} (hs:St h0 h L) (hs':St h0 h' L') (k k':Nat) {b:Nat} {xs:List Value} {e:TypeId} (hk:L[k]?=some (.blk b xs e)) (hk':L'[k']?=some (.blk b xs e)):h'[b]?=h[b]?:=(hs'.get hk').trans (hs.get hk).symm
structure LkI (h:Heap) (p:Addr) (g:Gl) (role:Int):Prop where
 ex:∃(hq hv:Sl) (qs vs:Nat->Sl),p.spot=none/\atC h p (g.cs++[.int .i64 role,.slice hq.a hq.n hq.c,.slice hv.a hv.n hv.c])/\hq.n=g.n.toNat/\hv.n=g.n.toNat /\
  Rw h 1 hq ((List.range g.n.toNat).map fun i=>slC (qs i))/\Rw h 1 hv ((List.range g.n.toNat).map fun i=>slC (vs i)) /\
  (∀i,i<g.n.toNat->Rw h 1 (qs i) ((quietL g.es role i).map inC))/\∀i,i<g.n.toNat->Rw h 4 (vs i) ((visL g.es role i).map Ar.cs)
theorem LkI.ext {h h':Heap} {p:Addr} {g:Gl} {role:Int} (hl:LkI h p g role) (E:Ext h h'):LkI h' p g role:=by
 obtain⟨hq,hv,qs,vs,h0,h1,h2,h3,h4,h5,h6,h7⟩:=hl.ex;exact⟨hq,hv,qs,vs,h0,atC_ext E h1,h2,h3,h4.ext E,h5.ext E,fun i hi=>(h6 i hi).ext E,fun i hi=>(h7 i hi).ext E⟩
end Go.VC
end

section
namespace Go.VC
theorem map_get {α β:Type} (f:α->β) (L:List α) (i:Nat):(L.map f)[i]?=(L[i]?).map f:=Yd
theorem map_splice {α:Type} (f:α->Value) {L:List α} {i:Nat} (hi:i<L.length) (y:α):splice (L.map f) i [f y]=(L.set i y).map f:=by
 unfold splice;rw[List.map_set,List.set_eq_take_append_cons_drop,if_pos (by rw[Yc];exact hi)];simp
inductive Qr (es:List Ed) (role:Int) (l:List Int):Int->Prop where
 | base {a:Int}:a∈l->Qr es role l a
 | step {a b:Int}:Qr es role l a->(∃x∈es,vis1 role x=none/\x.f=a/\x.t=b)->Qr es role l b
structure CL (es:List Ed) (role:Int) (n:Nat) (l:List Int) (D:List Bool) (T:List Int):Prop where
 len:D.length=n
 cnt:T.length=D.count true
 mem:∀v,v∈T ↔ 0<=v/\D[v.toNat]?=some true
 r:∀v∈T,Qr es role l v
theorem CL.start (es:List Ed) (role:Int) (n:Nat) (l:List Int):CL es role n l (List.replicate n false) []:=by
 refine⟨by rw[Yg],by rw[List.count_replicate];rfl,fun v=>⟨fun h=>(by cases h),fun ⟨_,h⟩=>?_⟩,fun v h=>by cases h⟩;have:=List.eq_of_mem_replicate (Yb h);cases this
theorem CL.push {es:List Ed} {role:Int} {n:Nat} {l:List Int} {D:List Bool} {T:List Int} (h:CL es role n l D T) {b:Int} (h0:0<=b) (hb:D[b.toNat]?=some false) (hr:Qr es role l b):CL es role n l (D.set b.toNat true) (T++[b]):=by
 have hbl:=(Ya.1 hb).1;have hbe:=(Ya.1 hb).2;refine⟨by rw[Yyh];exact h.len,?_,fun v=>?_,fun v hv=>?_⟩
 .rw[List.count_set hbl,hbe,Yh,h.cnt];rfl
 .rw[Yk,Ye,h.mem];constructor
  .rintro (⟨h1,h2⟩ | rfl)
   .refine⟨h1,?_⟩;by_cases e:b.toNat=v.toNat
    .rw[e,Yq (by omega)]
    .rw[Yy e];exact h2
   .exact⟨h0,by rw[Yq hbl]⟩
  .rintro⟨h1,h2⟩;by_cases e:b.toNat=v.toNat
   .right;omega
   .left;rw[Yy e] at h2;exact⟨h1,h2⟩
 .rcases Yk.1 hv with hv | hv
  .exact h.r v hv
  .rw[Ye] at hv;rw[hv];exact hr
theorem CL.le {es:List Ed} {role:Int} {n:Nat} {l:List Int} {D:List Bool} {T:List Int} (h:CL es role n l D T):T.length<=n:=by
 rw[h.cnt,<-h.len];exact List.count_le_length
theorem quietL_mem {es:List Ed} {role:Int} {n:Nat} {b:Int}:b∈quietL es role n ↔ ∃x∈es,vis1 role x=none/\x.f=n/\x.t=b:=by
 unfold quietL;rw[Yym];constructor
 .rintro⟨x,hx,h⟩;split at h
  .rename_i hf;cases hv:vis1 role x with
   | none=>rw[hv] at h;exact⟨x,hx,hv,hf,Yyp h⟩
   | some e=>rw[hv] at h;cases h
  .cases h
 .rintro⟨x,hx,hv,hf,rfl⟩;exact⟨x,hx,by rw[if_pos hf,hv]⟩
theorem CL.end_ {es:List Ed} {role:Int} {n:Nat} {l:List Int} {D:List Bool} {T:List Int} (h:CL es role n l D T) (hl:∀x∈l,x∈T) (hc:∀v∈T,∀b∈quietL es role v.toNat,b∈T) (v:Int):v∈T ↔ Qr es role l v:=by
 refine⟨h.r v,fun hq=>?_⟩
 induction hq with
 | base hm=>exact hl _ hm
 | @step a b _ hx ih=>
  obtain⟨x,hx,hv,hf,rfl⟩:=hx;exact hc _ ih _ (quietL_mem.2 ⟨x,hx,hv,by have:=((h.mem a).1 ih).1;omega,rfl⟩)
noncomputable def clo (es:List Ed) (role:Int) (l:List Int):Nat->Bool:=fun j=>by classical exact decide (Qr es role l (j:Int))
theorem clo_iff {es:List Ed} {role:Int} {l:List Int} {j:Nat}:clo es role l j=true ↔ Qr es role l (j:Int):=by unfold clo;simp
def cmpI (x y:Int):Int:=if x<y then -1 else if x>y then 1 else 0
def orI3 (x y:Int):Int:=if x≠0 then x else y
def cmpE (x y:Ev):Int:=if x.send≠y.send then (if x.send then -1 else 1) else orI3 (cmpI x.peer y.peer) (cmpI x.label y.label)
def evLt (x y:Ev):Prop:=(x.send=true/\y.send=false)\/(x.send=y.send/\(x.peer<y.peer\/(x.peer=y.peer/\x.label<y.label)))
instance (x y:Ev):Decidable (evLt x y):=by unfold evLt;infer_instance
theorem cmpE_neg {x y:Ev}:cmpE x y<0 ↔ evLt x y:=by
 unfold cmpE evLt orI3 cmpI;obtain⟨s,p,l⟩:=x;obtain⟨t,q,m⟩:=y;cases s<;>cases t<;>simp<;>(repeat' split)<;>omega
theorem ev_ext {x y:Ev} (h1:x.send=y.send) (h2:x.peer=y.peer) (h3:x.label=y.label):x=y:=by
 obtain⟨s,p,l⟩:=x;obtain⟨t,q,m⟩:=y
 simp_all
theorem evLt_irr (x:Ev):¬evLt x x:=by unfold evLt;intro h;rcases h with ⟨h1,h2⟩ | ⟨_,h | ⟨_,h⟩⟩<;>first | (rw[h1] at h2;cases h2) | omega
theorem evLt_trans {x y z:Ev} (h1:evLt x y) (h2:evLt y z):evLt x z:=by
 unfold evLt at *;obtain⟨s,p,l⟩:=x;obtain⟨t,q,m⟩:=y;obtain⟨u,r,n⟩:=z;cases s<;>cases t<;>cases u<;>simp_all<;>omega
theorem evLt_tri (x y:Ev):evLt x y\/x=y\/evLt y x:=by
 unfold evLt;obtain⟨s,p,l⟩:=x;obtain⟨t,q,m⟩:=y;cases s<;>cases t<;>simp<;>omega
def compactL:List Ev->List Ev
 | []=>[]
 | x::r=>match compactL r with
  | []=>[x]
  | y::t=>if x=y then y::t else x::y::t
theorem compactL_mem:∀(l:List Ev) (x:Ev),x∈compactL l ↔ x∈l
 | [],x=>by simp[compactL]
 | a::r,x=>by
  have ih:=compactL_mem r;rw[compactL];split
  .rename_i h;rw[h] at ih;have:=ih x
   simp_all
  .rename_i y t h;rw[h] at ih;have h1:=ih x;split
   .rename_i e;subst e;have h2:=(ih a).1 (by simp);rw[h1];simp only[Yr];constructor
    .exact .inr
    .rintro (rfl | h)
     .exact h2
     .exact h
   .rw[Yr,h1,Yr]
theorem compactL_sorted:∀(l:List Ev),l.Pairwise (fun a b=>¬evLt b a)->(compactL l).Pairwise evLt
 | [],_=>by simp[compactL]
 | a::r,h=>by
  obtain⟨h1,h2⟩:=List.pairwise_cons.1 h;have ih:=compactL_sorted r h2;rw[compactL];split
  .simp
  .rename_i y t hc;rw[hc] at ih;split
   .exact ih
   .rename_i hne;refine List.pairwise_cons.2 ⟨fun z hz=>?_,ih⟩;have hay:evLt a y:=by
     have hy:y∈r:=(compactL_mem r y).1 (by rw[hc];simp);rcases evLt_tri a y with h3 | h3 | h3
     .exact h3
     .exact absurd h3 hne
     .exact absurd h3 (h1 y hy)
    rcases Yr.1 hz with rfl | hz
    .exact hay
    .exact evLt_trans hay ((List.pairwise_cons.1 ih).1 z hz)
theorem sorted_ext:∀(l m:List Ev),l.Pairwise evLt->m.Pairwise evLt->(∀x,x∈l ↔ x∈m)->l=m
 | [],[],_,_,_=>rfl
 | [],b::m,_,_,h=>absurd ((h b).2 (by simp)) (by simp)
 | a::l,[],_,_,h=>absurd ((h a).1 (by simp)) (by simp)
 | a::l,b::m,hl,hm,h=>by
  obtain⟨h1,h2⟩:=List.pairwise_cons.1 hl;obtain⟨h3,h4⟩:=List.pairwise_cons.1 hm;have hab:a=b:=by
   rcases Yr.1 ((h a).1 (by simp)) with e | ha
   .exact e
   .rcases Yr.1 ((h b).2 (by simp)) with e | hb
    .exact e.symm
    .exact absurd (evLt_trans (h1 b hb) (h3 a ha)) (evLt_irr a)
  subst hab;congr 1;refine sorted_ext l m h2 h4 fun x=>?_;have hx:=h x;rw[Yr,Yr] at hx;constructor
  .intro hm';rcases hx.1 (.inr hm') with rfl | h5
   .exact absurd (h1 x hm') (evLt_irr x)
   .exact h5
  .intro hm';rcases hx.2 (.inr hm') with rfl | h5
   .exact absurd (h3 x hm') (evLt_irr x)
   .exact h5
def insE (x:Ev):List Ev->List Ev
 | []=>[x]
 | y::r=>if evLt y x then y::insE x r else if x=y then y::r else x::y::r
theorem insE_mem (x z:Ev):∀l:List Ev,z∈insE x l ↔ z=x\/z∈l
 | []=>by simp[insE]
 | y::r=>by
  rw[insE];split
  .rw[Yr,insE_mem x z r,Yr];constructor
   .rintro (h | h | h)
    .exact .inr (.inl h)
    .exact .inl h
    .exact .inr (.inr h)
   .rintro (h | h | h)
    .exact .inr (.inl h)
    .exact .inl h
    .exact .inr (.inr h)
  .split
   .rename_i e;subst e;simp
   .simp
theorem insE_sorted (x:Ev):∀l:List Ev,l.Pairwise evLt->(insE x l).Pairwise evLt
 | [],_=>by simp[insE]
 | y::r,h=>by
  obtain⟨h1,h2⟩:=List.pairwise_cons.1 h;rw[insE];split
  .rename_i hyx;refine List.pairwise_cons.2 ⟨fun z hz=>?_,insE_sorted x r h2⟩;rcases (insE_mem x z r).1 hz with rfl | hz
   .exact hyx
   .exact h1 z hz
  .split
   .exact h
   .rename_i hyx hne;have hxy:evLt x y:=by
     rcases evLt_tri x y with h3 | h3 | h3
     .exact h3
     .exact absurd h3 hne
     .exact absurd h3 hyx
    refine List.pairwise_cons.2 ⟨fun z hz=>?_,h⟩;rcases Yr.1 hz with rfl | hz
    .exact hxy
    .exact evLt_trans hxy (h1 z hz)
def sortE (l:List Ev):List Ev:=l.foldr insE []
theorem sortE_mem (l:List Ev) (x:Ev):x∈sortE l ↔ x∈l:=by
 unfold sortE
 induction l with
 | nil=>simp
 | cons a l ih=>rw[List.foldr_cons,insE_mem,ih,Yr]
theorem sortE_sorted (l:List Ev):(sortE l).Pairwise evLt:=by
 unfold sortE
 induction l with
 | nil=>simp
 | cons a l ih=>exact insE_sorted a _ ih
theorem compact_sortE {l l':List Ev} (hp:l'.Perm l) (hs:l'.Pairwise fun a b=>¬evLt b a):compactL l'=sortE l:=
 sorted_ext _ _ (compactL_sorted l' hs) (sortE_sorted l) fun x=>by rw[compactL_mem,sortE_mem,hp.mem_iff]
def elems (p:Nat->Bool):List Nat:=(List.range 4096).filter p
theorem elems_mem {p:Nat->Bool} {j:Nat}:j∈elems p ↔ j<4096/\p j=true:=by unfold elems;rw[List.mem_filter,List.mem_range]
def toL (es:List Ed) (role:Int) (p:Nat->Bool) (x:Ev):List Int:=(elems p).flatMap fun n=>(visL es role n).filterMap fun a=>if a.x=x then some a.to else none
def evL (es:List Ed) (role:Int) (p:Nat->Bool):List Ev:=(elems p).flatMap fun n=>(visL es role n).map (·.x)
def evs (es:List Ed) (role:Int) (p:Nat->Bool):List Ev:=sortE (evL es role p)
end Go.VC
end

section
namespace Go.VC
structure Mv where
 f:Int
 send:Bool
 peer:Int
 label:Int
 t:Int
 ag:Bool
 deriving DecidableEq
def Mv.cs (m:Mv):List Value:=[.int .i64 m.f,.bool m.send,.int .i64 m.peer,.int .i64 m.label,.int .i64 m.t,.bool m.ag]
abbrev PSet:=Nat->Bool
open Classical in
noncomputable def rowI:List PSet->PSet->Nat
 | [],_=>0
 | q::r,p=>if q=p then 0 else rowI r p+1
open Classical in
noncomputable def rowS (S:List PSet) (p:PSet):List PSet:=if p∈S then S else S++[p]
theorem rowI_lt {S:List PSet} {p:PSet}:rowI S p<S.length ↔ p∈S:=by
 induction S with
 | nil=>simp[rowI]
 | cons q r ih=>
  rw[rowI,Yr];split
  .rename_i h;simp[h]
  .rename_i h;rw[Yyj];constructor
   .intro h1;exact .inr (ih.1 (by omega))
   .rintro (h1 | h1)
    .exact absurd h1.symm h
    .have:=ih.2 h1;omega
theorem rowI_of_not {S:List PSet} {p:PSet} (h:p∉S):rowI S p=S.length:=by
 induction S with
 | nil=>rfl
 | cons q r ih=>
  rw[Yr,not_or] at h;rw[rowI,if_neg (fun e=>h.1 e.symm),ih h.2,Yyj]
theorem rowI_first {S:List PSet} {p:PSet} {i:Nat} (hi:S[i]?=some p) (h:∀(j:Nat) (q:PSet),j<i->S[j]?=some q->q≠p):rowI S p=i:=by
 induction S generalizing i with
 | nil=>simp at hi
 | cons q r ih=>
  cases i with
  | zero=>simp at hi;rw[rowI,if_pos hi]
  | succ i=>
   rw[rowI,if_neg (h 0 q (by omega) rfl),ih (by simpa using hi) fun j q' hj hq=>h (j+1) q' (by omega) (by simpa using hq)]
noncomputable def arcsF (es:List Ed) (role:Int) (i:Nat) (p:PSet):List Ev->List PSet->List Mv->List PSet × List Mv
 | [],S,M=>(S,M)
 | x::r,S,M=>arcsF es role i p r (rowS S (clo es role (toL es role p x))) (M++[⟨i,x.send,x.peer,x.label,rowI S (clo es role (toL es role p x)),false⟩])
noncomputable def viewsF (es:List Ed) (role:Int):Nat->Nat->List PSet->List Mv->Option (List PSet × List Mv)
 | 0,_,_,_=>none
 | f+1,i,S,M=>match S[i]? with
  | none=>some (S,M)
  | some p=>if (arcsF es role i p (evs es role p) S M).1.length>200 then none else viewsF es role f (i+1) (arcsF es role i p (evs es role p) S M).1 (arcsF es role i p (evs es role p) S M).2
noncomputable def views (g:Gl) (role:Int):Option (List PSet × List Mv):=viewsF g.es role 202 0 [clo g.es role [g.s]] []
end Go.VC
end
