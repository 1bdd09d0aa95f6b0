/- SyVcPd SyVcM SyVcB SyVcPe LexSpec SxSpec SxMem SxA SxI0 SxJ0 SxK0 SxL0 SxO0 SxQ0 SxR0 SxT0 SxCa SxLsA SxX0 SxShelf SxSh SxStA SxG0 SxStB SxLi0 SxLi SxStub SxB SxC SxD SxE SxF SxG SxH SxI SxJ SxK SxL SxM SxN SxO SxP SxQ SxR SxS SxT1 SxStubB SxT SxU SxV0 SxV SxW0 SxW SxX. -/
import Derived.Test.YtajglkbckhgboaaGreatDoorHM02
import Derived.Test.YtajglkbckhgboaaGreatDoorHM03
import Derived.Lib.Split
import Derived.Shelf.Strings.Split
import Derived.Shelf.Bits.Mul64
import Derived.Shelf.Spec.TrailingZeros
import Derived.Shelf.SlLaysF0
import Derived.Ground.NamesProg
import Derived.Ground.Names7Prog
import Derived.Ground.SlsfProg
import Derived.Lib.TrailingZeros
import Derived.Maps.AppendAt
import Derived.DeepKeys4
set_option linter.all false
set_option maxRecDepth 100000
set_option maxHeartbeats 8000000

section
namespace Go.VC
open Go.Proofs IntKind
variable {h:Heap} {R:Value->Heap->Prop}
def MB(a t u b:Heap)(v:Nat)(w:Bool->Heap->Nat->Prop):Prop:=
 ∃c d e f g h i j k l m n o p,ff a (aS t 0) c d e f g h i j k l m n o p/\Wp a (aS u 0) 14 (L1 c d e f g h i j k l m n o p) fun q=>∃r,rI q (aS b 9) r/\Wp q (aS b 9) 1 [vI (wrap .i64 (r+1))] fun x=>∃s,s<v/\w true x s
def MA(a b:Heap)(e:Nat)(f:Bool->Heap->Nat->Prop)(g:Bool):Prop:=
 ∃c,rI a (aS b 9) c/\Wp a (aS b 9) 1 [vI (wrap .i64 (c+1))] fun h=>∃d,d<e/\f g h d
def Jf(T1 b:Heap)(U1:ByteArray)(V1 W1:Sl)(X1 Y1 Z1:Int)(a2 b2:Sl)(n:Int)(c2 d2 e2 f2 g2:Sl)(h f:Heap)(R:Value->Heap->Prop):Prop:=
 Wp T1 (aS b 0) 15 [.string U1,vS V1,vS W1,vI X1,vI Y1,vI Z1,vS a2,vS b2,vI n,vI 1,vS c2,vS d2,vS e2,vS f2,vS g2] fun c=>Wn c [vI 0,vI 0,vN,vN,vI 0,.bool false,vI 0,vI 0,vN,vI 0,.bool false,vI 0,vI 0,vN] 39 fun h2=>Wp h2 (aS c 0) 14 [vI 0,vI 0,vN,vN,vI 0,.bool false,vI 0,vI 0,vN,vI 0,.bool false,vI 0,vI 0,vN] fun i2=>Wp i2 (aS b 9) 1 [vI 1] fun j2=>QB false j2 fun g i a j=>∃o,rI a (aS b 9) o/\sB (decide (o<=4)) (Wn a [vI 0,vI 0,vN,vN,vI 0,.bool false,vI 0,vI 0,vN,vI 0,.bool false,vI 0,vI 0,vN] 39 fun k2=>Wp k2 (aS a 0) 14 [vI 0,vI 0,vN,vN,vI 0,.bool false,vI 0,vI 0,vN,vI 0,.bool false,vI 0,vI 0,vN] fun e=>∃k:Bool->Heap->Prop,(∃p,rI e (aS b 9) p/\sB (p==2) (∃q r s t u v w x,cS e (aS h 0) q r s t u v w x/\∃(y z:Sl),a6 e (aS b 10) [vS y,vS z]/\Fn Pz 61 #[.agg ⟨(L0 q r s t u v w x)⟩,vI n,.agg ⟨[vS y,vS z]⟩] e (fun l2 m2=>∃(A B:Int) (C D:Sl) (E:Int) (F:Bool) (G H:Int) (I:Sl) (J:Int) (K:Bool) (L M:Int) (N:Sl) (O:Bool),l2=.tuple ⟨[.agg ⟨(L1 A B C D E F G H I J K L M N)⟩,.bool O]⟩/\Wp m2 (aS a 0) 14 (L1 A B C D E F G H I J K L M N) fun n2=>k O n2)) (∃P Q S T U V W X Y Z a0 b0 c0 d0 e0,Mu e (aS b 0) P Q S T U V W X Y Z a0 b0 c0 d0 e0/\Fn Pz 62 #[.agg ⟨(Jz P Q S T U V W X Y Z a0 b0 c0 d0 e0)⟩] e (fun o2 p2=>∃(f0 g0:Int) (h0 i0:Sl) (j0:Int) (k0:Bool) (l0 m0:Int) (n0:Sl) (o0:Int) (p0:Bool) (q0 r0:Int) (s0:Sl) (t0:Bool),o2=.tuple ⟨[.agg ⟨(L1 f0 g0 h0 i0 j0 k0 l0 m0 n0 o0 p0 q0 r0 s0)⟩,.bool t0]⟩/\Wp p2 (aS a 0) 14 (L1 f0 g0 h0 i0 j0 k0 l0 m0 n0 o0 p0 q0 r0 s0) fun q2=>k t0 q2)))/\∀(_:Env) (u0:Bool) (d:Heap),k u0 d->(sB u0 (sB (!i) (MB d a c b j g) (∃v0 w0 x0 y0 z0 A0 B0 C0 D0 E0 F0 G0 H0 I0,ff d (aS a 0) v0 w0 x0 y0 z0 A0 B0 C0 D0 E0 F0 G0 H0 I0/\∃J0 K0 M0 N0 O0 P0 Q0 R0 S0 T0 U0 V0 W0 X0,ff d (aS c 0) J0 K0 M0 N0 O0 P0 Q0 R0 S0 T0 U0 V0 W0 X0/\Fn Pz 20 #[.agg ⟨(L1 v0 w0 x0 y0 z0 A0 B0 C0 D0 E0 F0 G0 H0 I0)⟩] d (fun r2 l=>∃Y0,iI r2 Y0/\Sm [(aS c 0)] d l/\Fn Pz 20 #[.agg ⟨(L1 J0 K0 M0 N0 O0 P0 Q0 R0 S0 T0 U0 V0 W0 X0)⟩] l (fun s2 m=>∃Z0,iI s2 Z0/\Sm [(aS a 0)] l m/\sB (decide (Y0<Z0)) (MB m a c b j g) (MA m b j g i))))) (MA d b j g i))) (sB i (∃a1 b1 c1 d1 e1 f1 g1 h1 i1 j1 k1 l1 m1 n1,ff a (aS c 0) a1 b1 c1 d1 e1 f1 g1 h1 i1 j1 k1 l1 m1 n1/\Wp a (aS f 0) 14 (L1 a1 b1 c1 d1 e1 f1 g1 h1 i1 j1 k1 l1 m1 n1) fun o1=>∃p1 q1 r1 s1 t1 u1 v1 w1 x1 y1 z1 A1 B1 C1,ff o1 (aS f 0) p1 q1 r1 s1 t1 u1 v1 w1 x1 y1 z1 A1 B1 C1/\R (.tuple ⟨[.agg ⟨(L1 p1 q1 r1 s1 t1 u1 v1 w1 x1 y1 z1 A1 B1 C1)⟩,vI 18]⟩) o1) (Wp a (aS f 0) 14 [vI 0,vI 0,vN,vN,vI 0,.bool false,vI 0,vI 0,vN,vI 0,.bool false,vI 0,vI 0,vN] fun D1=>∃E1 F1 G1 H1 I1 J1 K1 M1 N1 O1 P1 Q1 R1 S1,ff D1 (aS f 0) E1 F1 G1 H1 I1 J1 K1 M1 N1 O1 P1 Q1 R1 S1/\R (.tuple ⟨[.agg ⟨(L1 E1 F1 G1 H1 I1 J1 K1 M1 N1 O1 P1 Q1 R1 S1)⟩,vI 0]⟩) D1))
def Je(f:ByteArray)(g i:Sl)(j k l:Int)(m n:Sl)(a:Int)(b h o:Heap)(p:ByteArray)(q r:Sl)(s t u:Int)(v w x y z:Sl)(A:Heap)(R:Value->Heap->Prop):Prop:=
 Fn Pz 60 #[.agg ⟨(L0 f g i j k l m n)⟩,vI a] b (fun B c=>∃(d e:Sl),B=.agg ⟨[vS d,vS e]⟩/\Sm [(aS h 0),(aS h 0),(aS h 0)] b c/\Jf c o p q r s t u v w a x y z d e h A R)
def W27(pa:ByteArray)(pb pc:Sl)(pd pe pf:Int)(pg ph:Sl)(a:Int):Prop:=
 Wn h (L0 pa pb pc pd pe pf pg ph) 27 fun c=>Wn c [vI 0,vI 0,vN,vN,vI 0,.bool false,vI 0,vI 0,vN,vI 0,.bool false,vI 0,vI 0,vN] 39 fun U=>∃V W X Y Z a0 b0 c0,cS U (aS h 0) V W X Y Z a0 b0 c0/\Fn Pz 48 #[.agg ⟨(L0 V W X Y Z a0 b0 c0)⟩,vI a] U (fun D0 b=>∃d0,iB D0 d0/\sB (!d0) (Wp b (aS c 0) 14 [vI 0,vI 0,vN,vN,vI 0,.bool false,vI 0,vI 0,vN,vI 0,.bool false,vI 0,vI 0,vN] fun e0=>∃f0 g0 h0 i0 j0 k0 l0 m0 n0 o0 p0 q0 r0 s0,ff e0 (aS c 0) f0 g0 h0 i0 j0 k0 l0 m0 n0 o0 p0 q0 r0 s0/\R (.tuple ⟨[.agg ⟨(L1 f0 g0 h0 i0 j0 k0 l0 m0 n0 o0 p0 q0 r0 s0)⟩,vI 1]⟩) e0) (∃f g i j k l m n,cS b (aS h 0) f g i j k l m n/\∃H I J K L M N O,cS b (aS h 0) H I J K L M N O/\∃w x y z A B C D,cS b (aS h 0) w x y z A B C D/\∃o p q r s t u v,cS b (aS h 0) o p q r s t u v/\(Fn Pz 58 #[.agg ⟨(L0 H I J K L M N O)⟩,vI a] b (fun E0 d=>∃(E F:Sl),E0=.agg ⟨[vS E,vS F]⟩/\Sm [(aS h 0),(aS h 0),(aS h 0)] b d/\(Fn Pz 59 #[.agg ⟨(L0 w x y z A B C D)⟩,vI a] d (fun F0 e=>∃P,iS F0 P/\Sm [(aS h 0),(aS h 0),(aS h 0)] d e/\(Fn Pz 60 #[.agg ⟨(L0 o p q r s t u v)⟩,vI a] e (fun G0 G=>∃(t0 u0:Sl),G0=.agg ⟨[vS t0,vS u0]⟩/\Sm [(aS h 0),(aS h 0),(aS h 0)] e G/\Wn G [.string ⟨#[]⟩,vN,vN,vI 0,vI 0,vI 0,vN,vN,vI 0,vI 0,vN,vN,vN,vN,vN] 118 fun v0=>Sm [(aS h 0),(aS h 0),(aS h 0),(aS h 0)] G v0/\Jf v0 G f g i j k l m n a E F P t0 u0 h c R))/\Wn e [.string ⟨#[]⟩,vN,vN,vI 0,vI 0,vI 0,vN,vN,vI 0,vI 0,vN,vN,vN,vN,vN] 118 fun w0=>Sm [(aS h 0),(aS h 0),(aS h 0),(aS h 0)] e w0/\Je o p q r s t u v a w0 h e f g i j k l m n E F P c R))/\Wn d [.string ⟨#[]⟩,vN,vN,vI 0,vI 0,vI 0,vN,vN,vI 0,vI 0,vN,vN,vN,vN,vN] 118 fun Q=>Sm [(aS h 0),(aS h 0),(aS h 0),(aS h 0)] d Q/\Fn Pz 59 #[.agg ⟨(L0 w x y z A B C D)⟩,vI a] Q (fun H0 x0=>∃y0,iS H0 y0/\Sm [(aS h 0),(aS h 0),(aS h 0)] Q x0/\Je o p q r s t u v a x0 h d f g i j k l m n E F y0 c R)))/\Wn b [.string ⟨#[]⟩,vN,vN,vI 0,vI 0,vI 0,vN,vN,vI 0,vI 0,vN,vN,vN,vN,vN] 118 fun S=>Sm [(aS h 0),(aS h 0),(aS h 0),(aS h 0)] b S/\Fn Pz 58 #[.agg ⟨(L0 H I J K L M N O)⟩,vI a] S (fun I0 T=>∃(z0 A0:Sl),I0=.agg ⟨[vS z0,vS A0]⟩/\Sm [(aS h 0),(aS h 0),(aS h 0)] S T/\Fn Pz 59 #[.agg ⟨(L0 w x y z A B C D)⟩,vI a] T (fun J0 B0=>∃C0,iS J0 C0/\Sm [(aS h 0),(aS h 0),(aS h 0)] T B0/\Je o p q r s t u v a B0 h b f g i j k l m n z0 A0 C0 c R))))
theorem abA(pa:ByteArray)(pb pc:Sl)(pd pe pf:Int)(pg ph:Sl)(p1:Int)(H:@W27 h R pa pb pc pd pe pf pg ph p1):Fn Pz 27 #[.agg ⟨(L0 pa pb pc pd pe pf pg ph)⟩,vI p1] h R:=aY (A:=(.s .z (.s .z (.s .z (.s .z (.s (.s .z (.b (.l [(8,.one (.bool))] (.s .z (.s (.b (.s .z (.j [(10,.one (.bool))] .z .z))) .z))))) .z)))))) H
def Jq(a q r:Heap)(s:Nat)(t:Bool->Int->Heap->Nat->Prop)(u:Int):Prop:=
 ∃b c d e f g h i j k l m n o,ff a (aS q 0) b c d e f g h i j k l m n o/\Wp a (aS r 0) 14 (L1 b c d e f g h i j k l m n o) fun v=>∃p,p<s/\t true (wrap .i64 (u+1)) v p
def W15(pa:ByteArray)(pb pc:Sl)(pd pe pf:Int)(pg ph:Sl):Prop:=
 Wn h (L0 pa pb pc pd pe pf pg ph) 27 fun d=>Wn d [vI 0,vI 0,vN,vN,vI 0,.bool false,vI 0,vI 0,vN,vI 0,.bool false,vI 0,vI 0,vN] 39 fun p=>∃q r s t u v w x,cS p (aS h 0) q r s t u v w x/\Fn Pz 17 #[.agg ⟨(L0 q r s t u v w x)⟩] p (fun u2 a=>∃y,iB u2 y/\sB (!y) (Wp a (aS d 0) 14 [vI 0,vI 0,vN,vN,vI 0,.bool false,vI 0,vI 0,vN,vI 0,.bool false,vI 0,vI 0,vN] fun z=>∃A B C D E F G H I J K L M N,ff z (aS d 0) A B C D E F G H I J K L M N/\R (.tuple ⟨[.agg ⟨(L1 A B C D E F G H I J K L M N)⟩,vI 1]⟩) z) (Wn a [vI 0,vI 0,vN,vN,vI 0,.bool false,vI 0,vI 0,vN,vI 0,.bool false,vI 0,vI 0,vN] 39 fun v2=>Wp v2 (aS a 0) 14 [vI 0,vI 0,vN,vN,vI 0,.bool false,vI 0,vI 0,vN,vI 0,.bool false,vI 0,vI 0,vN] fun w2=>QBI false 0 w2 fun e l c f g=>∃O,rS f (aS h 1) O/\sB (decide (c<(O.n:Int))) (∃P Q S T U V W X,cS f (aS h 0) P Q S T U V W X/\Fn Pz 27 #[.agg ⟨(L0 P Q S T U V W X)⟩,vI c] f (fun x2 b=>∃(Y Z:Int) (a0 b0:Sl) (c0:Int) (d0:Bool) (e0 f0:Int) (g0:Sl) (h0:Int) (i0:Bool) (j0 k0:Int) (l0:Sl) (m0:Int),x2=.tuple ⟨[.agg ⟨(L1 Y Z a0 b0 c0 d0 e0 f0 g0 h0 i0 j0 k0 l0)⟩,vI m0]⟩/\Wn b [vI 0,vI 0,vN,vN,vI 0,.bool false,vI 0,vI 0,vN,vI 0,.bool false,vI 0,vI 0,vN] 39 fun y2=>Wp y2 (aS b 0) 14 (L1 Y Z a0 b0 c0 d0 e0 f0 g0 h0 i0 j0 k0 l0) fun i=>sB (m0 != 0) (sB (!l) (Jq i b a g e c) (∃n0 o0 p0 q0 r0 s0 t0 u0 v0 w0 x0 y0 z0 A0,ff i (aS b 0) n0 o0 p0 q0 r0 s0 t0 u0 v0 w0 x0 y0 z0 A0/\∃B0 C0 D0 E0 F0 G0 H0 I0 J0 K0 M0 N0 O0 P0,ff i (aS a 0) B0 C0 D0 E0 F0 G0 H0 I0 J0 K0 M0 N0 O0 P0/\Fn Pz 20 #[.agg ⟨(L1 n0 o0 p0 q0 r0 s0 t0 u0 v0 w0 x0 y0 z0 A0)⟩] i (fun z2 m=>∃Q0,iI z2 Q0/\Sm [(aS a 0)] i m/\Fn Pz 20 #[.agg ⟨(L1 B0 C0 D0 E0 F0 G0 H0 I0 J0 K0 M0 N0 O0 P0)⟩] m (fun A2 j=>∃R0,iI A2 R0/\Sm [(aS b 0)] m j/\sB (decide (Q0<R0)) (Jq j b a g e c) (∃S0 T0 U0 V0 W0 X0 Y0 Z0 a1 b1 c1 d1 e1 f1,ff j (aS b 0) S0 T0 U0 V0 W0 X0 Y0 Z0 a1 b1 c1 d1 e1 f1/\∃g1 h1 i1 j1 k1 l1 m1 n1 o1 p1 q1 r1 s1 t1,ff j (aS a 0) g1 h1 i1 j1 k1 l1 m1 n1 o1 p1 q1 r1 s1 t1/\Fn Pz 20 #[.agg ⟨(L1 S0 T0 U0 V0 W0 X0 Y0 Z0 a1 b1 c1 d1 e1 f1)⟩] j (fun B2 o=>∃u1,iI B2 u1/\Sm [(aS a 0),(aS a 0),(aS b 0)] j o/\Fn Pz 20 #[.agg ⟨(L1 g1 h1 i1 j1 k1 l1 m1 n1 o1 p1 q1 r1 s1 t1)⟩] o (fun C2 k=>∃v1,iI C2 v1/\Sm [(aS b 0),(aS a 0),(aS b 0)] o k/\sB (u1==v1) (∃w1,rI k (aS b 0) w1/\∃x1,rI k (aS a 0) x1/\sB (decide (w1<x1)) (Jq k b a g e c) (∃y1,y1<g/\e l (wrap .i64 (c+1)) k y1)) (∃z1,z1<g/\e l (wrap .i64 (c+1)) k z1)))))))) (∃A1,A1<g/\e l (wrap .i64 (c+1)) i A1))) (sB l (∃B1 C1 D1 E1 F1 G1 H1 I1 J1 K1 M1 N1 O1 P1,ff f (aS a 0) B1 C1 D1 E1 F1 G1 H1 I1 J1 K1 M1 N1 O1 P1/\Wp f (aS d 0) 14 (L1 B1 C1 D1 E1 F1 G1 H1 I1 J1 K1 M1 N1 O1 P1) fun Q1=>∃R1 S1 T1 U1 V1 W1 X1 Y1 Z1 a2 b2 c2 d2 e2,ff Q1 (aS d 0) R1 S1 T1 U1 V1 W1 X1 Y1 Z1 a2 b2 c2 d2 e2/\R (.tuple ⟨[.agg ⟨(L1 R1 S1 T1 U1 V1 W1 X1 Y1 Z1 a2 b2 c2 d2 e2)⟩,vI 18]⟩) Q1) (Wp f (aS d 0) 14 [vI 0,vI 0,vN,vN,vI 0,.bool false,vI 0,vI 0,vN,vI 0,.bool false,vI 0,vI 0,vN] fun f2=>∃g2 h2 i2 j2 k2 l2 m2 n2 o2 p2 q2 r2 s2 t2,ff f2 (aS d 0) g2 h2 i2 j2 k2 l2 m2 n2 o2 p2 q2 r2 s2 t2/\R (.tuple ⟨[.agg ⟨(L1 g2 h2 i2 j2 k2 l2 m2 n2 o2 p2 q2 r2 s2 t2)⟩,vI 0]⟩) f2))))
theorem abF(pa:ByteArray)(pb pc:Sl)(pd pe pf:Int)(pg ph:Sl)(H:@W15 h R pa pb pc pd pe pf pg ph):Fn Pz 15 #[.agg ⟨(L0 pa pb pc pd pe pf pg ph)⟩] h R:=aY (A:=(.s .z (.s .z (.s .z (.s (.s .z (.b (.l [(5,.one (.bool)),(6,.one (.int .i64))] .z))) .z))))) H
end Go.VC
end

section
namespace Go.VC
open Go.Proofs IntKind
variable [aB]
namespace M
end M
end Go.VC
end

section
namespace Go.VC
open Go.Proofs IntKind
variable {h:Heap} {R:Value->Heap->Prop}
def W16(pa pb:Int)(pc pd:Sl)(pe:Int)(pf:Bool)(pg ph:Int)(pi:Sl)(pj:Int)(pk:Bool)(pl pm:Int)(pn:Sl)(pq pr:Int)(ps pt:Sl)(pu:Int)(pv:Bool)(pw px:Int)(py:Sl)(pz:Int)(pA:Bool)(pB pC:Int)(pD:Sl):Prop:=
 Wn h (L1 pa pb pc pd pe pf pg ph pi pj pk pl pm pn) 39 fun a=>
 Wn a (L1 pq pr ps pt pu pv pw px py pz pA pB pC pD) 39 fun b=>
 ∃g,rI b (aS h 0) g /\
 ∃i,rI b (aS a 0) i /\
 sB (g==i)
 (∃j,rI b (aS h 1) j /\
 ∃k,rI b (aS a 1) k /\
 sB (j==k)
 (∃l,rS b (aS h 2) l /\
 ∃m,rS b (aS a 2) m /\
 Fn Pz 18 #[vS l,vS m] b
 (fun T d=>∃o,iB T o /\
 sB o
 (∃p,rS d (aS h 3) p /\
 ∃q,rS d (aS a 3) q /\
 Fn Pz 18 #[vS p,vS q] d
 (fun U e=>∃r,iB U r /\
 sB r
 (∃s t u v w,sG e (aS h 4) s t u v w /\
 ∃x y z A B,sG e (aS a 4) x y z A B /\
 Fn Pz 42 #[.agg ⟨(L4 s t u v w)⟩,.agg ⟨(L4 x y z A B)⟩] e
 (fun V f=>∃C,iB V C /\
 sB C
 (∃D E F G H,sG f (aS h 9) D E F G H /\
 ∃I J K L M,sG f (aS a 9) I J K L M /\
 Fn Pz 42 #[.agg ⟨(L4 D E F G H)⟩,.agg ⟨(L4 I J K L M)⟩] f
 (fun W c=>∃N,iB W N /\
 sB N
 (∃O,rS c (aS h (4+4)) O /\
 ∃P,rS c (aS a (4+4)) P /\
 sB ((O.n:Int)==(P.n:Int))
 (∃Q,rS c (aS h (9+4)) Q /\
 ∃S,rS c (aS a (9+4)) S /\
 R (.bool ((Q.n:Int)==(S.n:Int))) c)
 (R (.bool false) c))
 (R (.bool false) c)))
 (R (.bool false) f)))
 (R (.bool false) e)))
 (R (.bool false) d)))
 (R (.bool false) b))
 (R (.bool false) b)
theorem abE(pa pb:Int)(pc pd:Sl)(pe:Int)(pf:Bool)(pg ph:Int)(pi:Sl)(pj:Int)(pk:Bool)(pl pm:Int)(pn:Sl)(pq pr:Int)(ps pt:Sl)(pu:Int)(pv:Bool)(pw px:Int)(py:Sl)(pz:Int)(pA:Bool)(pB pC:Int)(pD:Sl)(H:@W16 h R pa pb pc pd pe pf pg ph pi pj pk pl pm pn pq pr ps pt pu pv pw px py pz pA pB pC pD):Fn Pz 16 #[.agg ⟨(L1 pa pb pc pd pe pf pg ph pi pj pk pl pm pn)⟩,.agg ⟨(L1 pq pr ps pt pu pv pw px py pz pA pB pC pD)⟩] h R:=aY (A:=.z) H
def W3(pa:ByteArray)(pb pc:Sl)(pd pe pf:Int)(pg ph:Sl):Prop:=
 Wn h (L0 pa pb pc pd pe pf pg ph) 27 fun h9=>
 Fn Pz 12 #[] h9
 (fun R0 b=>∃f,iB R0 f /\
 sB (!f)
 (R (.bool false) b)
 (∃g i j k l m n o,cS b (aS h 0) g i j k l m n o /\
 Fn Pz 13 #[.agg ⟨(L0 g i j k l m n o)⟩] b
 (fun S0 c=>∃p,iB S0 p /\
 sB (!p)
 (R (.bool true) c)
 (∃q r s t u v w x,cS c (aS h 0) q r s t u v w x /\
 Fn Pz 14 #[.agg ⟨(L0 q r s t u v w x)⟩] c
 (fun T0 d=>∃(y z:Int) (A B:Sl) (C:Int) (D:Bool) (E F:Int) (G:Sl) (H:Int) (I:Bool) (J K:Int) (L:Sl) (M:Int),T0=.tuple ⟨[.agg ⟨(L1 y z A B C D E F G H I J K L)⟩,vI M]⟩ /\
 Wn d [vI 0,vI 0,vN,vN,vI 0,.bool false,vI 0,vI 0,vN,vI 0,.bool false,vI 0,vI 0,vN] 35 fun U0=>
 Wp U0 (aS d 0) 14 (L1 y z A B C D E F G H I J K L) fun N=>
 ∃O P Q S T U V W,cS N (aS h 0) O P Q S T U V W /\
 Fn Pz 15 #[.agg ⟨(L0 O P Q S T U V W)⟩] N
 (fun V0 e=>∃(X Y:Int) (Z a0:Sl) (b0:Int) (c0:Bool) (d0 e0:Int) (f0:Sl) (g0:Int) (h0:Bool) (i0 j0:Int) (k0:Sl) (l0:Int),V0=.tuple ⟨[.agg ⟨(L1 X Y Z a0 b0 c0 d0 e0 f0 g0 h0 i0 j0 k0)⟩,vI l0]⟩ /\
 Wn e [vI 0,vI 0,vN,vN,vI 0,.bool false,vI 0,vI 0,vN,vI 0,.bool false,vI 0,vI 0,vN] 39 fun W0=>
 Wp W0 (aS e 0) 14 (L1 X Y Z a0 b0 c0 d0 e0 f0 g0 h0 i0 j0 k0) fun a=>
 sB (M==l0)
 (∃m0 n0 o0 p0 q0 r0 s0 t0 u0 v0 w0 x0 y0 z0,ff a (aS d 0) m0 n0 o0 p0 q0 r0 s0 t0 u0 v0 w0 x0 y0 z0 /\
 ∃A0 B0 C0 D0 E0 F0 G0 H0 I0 J0 K0 M0 N0 O0,ff a (aS e 0) A0 B0 C0 D0 E0 F0 G0 H0 I0 J0 K0 M0 N0 O0 /\
 Fn Pz 16 #[.agg ⟨(L1 m0 n0 o0 p0 q0 r0 s0 t0 u0 v0 w0 x0 y0 z0)⟩,.agg ⟨(L1 A0 B0 C0 D0 E0 F0 G0 H0 I0 J0 K0 M0 N0 O0)⟩] a
 (fun X0 Y0=>∃P0,iB X0 P0 /\
 R (.bool P0) Y0))
 (R (.bool false) a)))))))
theorem vc3(pa:ByteArray)(pb pc:Sl)(pd pe pf:Int)(pg ph:Sl)(H:@W3 h R pa pb pc pd pe pf pg ph):Fn Pz 3 #[.agg ⟨(L0 pa pb pc pd pe pf pg ph)⟩] h R:=aY (A:=.z) H
end Go.VC
end

section
namespace Go.LexS
def isLetter(n:Int):Bool:=decide (97<=n)&&decide (n<=122)||decide (65<=n)&&decide (n<=90)
def isDigit(n:Int):Bool:=decide (48<=n)&&decide (n<=57)
def isInner(n:Int):Bool:=isLetter n||isDigit n||(n==95)
def isSpace(n:Int):Bool:=n==32||n==9||n==10||n==13
def lt(c:UInt8):Bool:=isLetter c.toNat
def dg(c:UInt8):Bool:=isDigit c.toNat
def inn(c:UInt8):Bool:=isInner c.toNat
def sp(c:UInt8):Bool:=isSpace c.toNat
structure T where
 kind:Nat
 text:List UInt8
 val:Nat
 deriving DecidableEq
def fx:List (List UInt8):=[[97,103,97,105,110],[97,110,100],[97,115],[97,116],[99,97,108,108],[99,104,111,105,99,101],[101,108,115,101],[102,114,111,109],[105,102],[105,110,116],[108,101,110],[108,111,111,112],[109,101,115,115,97,103,101],[111,102],[111,102,102,101,114],[111,110],[111,114],[112,97,114],[112,108,97,121,115],[112,114,111,116,111,99,111,108],[115,101,114,118,105,99,101],[116,101,120,116],[116,105,109,101,115],[116,111],[118,97,114],[119,104,101,114,101],[119,104,105,108,101],[119,105,116,104,105,110]]
def isName(l:List UInt8):Bool:=match l with
 | []=>false
 | c::_=>decide (l.length<=16)&&lt c&&l.all inn
def isWord(l:List UInt8):Bool:=isName l && !decide (l∈fx)
end Go.LexS
end

section
namespace Go.VC
open Go.LexS
abbrev Nm:=List UInt8
def i64(n:Int):Value:=.int .i64 n
def eO(s:Sl):Value:=.slice s.a s.n s.c
structure oA where
 nm:Nm
 k:Int
 lo:Int
 hi:Int
def oA.cs(f:oA):List Value:=[.string (bs f.nm),.int .i64 f.k,.int .i64 f.lo,.int .i64 f.hi]
structure Df where
 x:Int
 y:Int
 c:Int
def Df.cs(d:Df):List Value:=[.int .i64 d.x,.int .i64 d.y,.int .i64 d.c]
structure JD where
 x:Int
 y:Int
def JD.cs(d:JD):List Value:=[.int .i64 d.x,.int .i64 d.y]
structure Dc where
 nm:Nm
 hf:Sl
 first:Int
 hd:Sl
 he:Sl
 fs:List oA
 ds:List Df
 es:List JD
def Dc.cs(d:Dc):List Value:=[.string (bs d.nm),.slice d.hf.a d.hf.n d.hf.c,.int .i64 d.first,.slice d.hd.a d.hd.n d.hd.c,.slice d.he.a d.he.n d.he.c]
structure Ed where
 f:Int
 a:Int
 b:Int
 l:Int
 t:Int
 ag:Bool
def Ed.cs(x:Ed):List Value:=[.int .i64 x.f,.int .i64 x.a,.int .i64 x.b,.int .i64 x.l,.int .i64 x.t,.bool x.ag]
structure To where
 s:Int
 k:Int
 e:Int
def To.cs(x:To):List Value:=[.int .i64 x.s,.int .i64 x.k,.int .i64 x.e]
structure Gl where
 nm:Nm
 hr:Sl
 hd:Sl
 n:Int
 s:Int
 e:Int
 he:Sl
 ht:Sl
 rs:List Nm
 ds:List Dc
 es:List Ed
 ts:List To
def Gl.cs(g:Gl):List Value:=[.string (bs g.nm),.slice g.hr.a g.hr.n g.hr.c,.slice g.hd.a g.hd.n g.hd.c,.int .i64 g.n,.int .i64 g.s,.int .i64 g.e,.slice g.he.a g.he.n g.he.c,.slice g.ht.a g.ht.n g.ht.c]
def Gl.v(g:Gl):Value:=.agg ⟨g.cs⟩
def DM(x:Nm):List Value:=[.string (bs x)]
structure RL {α:Type} (h:Heap) (k:Nat) (s:Sl) (cs:α->List Value) (L:List α):Prop where
 rw:Rw h k s (L.map cs)
 cap:s.n<=s.c
 nil:s.a=none->s.n=0/\s.c=0
 sm:L.length<=1048576
theorem RL.ext{α:Type}{h h':Heap}{k:Nat}{s:Sl}{cs:α->List Value}{L:List α}(hr:RL h k s cs L)(E:Ext h h'):RL h' k s cs L:=⟨hr.rw.ext E,hr.cap,hr.nil,hr.sm⟩
theorem RL.ln{α:Type}{h:Heap}{k:Nat}{s:Sl}{cs:α->List Value}{L:List α}(hr:RL h k s cs L):s.n=L.length:=hr.rw.ln
structure DI (h:Heap) (d:Dc):Prop where
 pf:RL h 4 d.hf oA.cs d.fs
 pd:RL h 3 d.hd Df.cs d.ds
 pe:RL h 2 d.he JD.cs d.es
theorem DI.ext{h h':Heap}{d:Dc}(hd:DI h d)(E:Ext h h'):DI h' d:=⟨hd.pf.ext E,hd.pd.ext E,hd.pe.ext E⟩
structure DL (h:Heap) (s:Sl) (L:List Dc):Prop where
 r:RL h 5 s Dc.cs L
 i:∀d∈L,DI h d
theorem DL.ext{h h':Heap}{s:Sl}{L:List Dc}(hd:DL h s L)(E:Ext h h'):DL h' s L:=⟨hd.r.ext E,fun d hm=>(hd.i d hm).ext E⟩
structure GI (h:Heap) (g:Gl):Prop where
 r:RL h 1 g.hr DM g.rs
 d:DL h g.hd g.ds
 e:RL h 6 g.he Ed.cs g.es
 t:RL h 3 g.ht To.cs g.ts
theorem GI.ext{h h':Heap}{g:Gl}(hg:GI h g)(E:Ext h h'):GI h' g:=⟨hg.r.ext E,hg.d.ext E,hg.e.ext E,hg.t.ext E⟩
theorem RL.take{α:Type}{h:Heap}{k:Nat}{s:Sl}{cs:α->List Value}{L:List α}(hr:RL h k s cs L){i:Nat}(hi:i<=s.n):RL h k ⟨aQ s.a (Int.toNat 0) s.c k,Int.toNat (i:Int)-Int.toNat 0,s.c-Int.toNat 0⟩ cs (L.take i):=by
 have h1:=hr.rw.1;have e:aQ s.a (Int.toNat 0) s.c k=s.a:=cJ _ _ _;rw[e];refine⟨⟨by rw[Yc,Yu];simp only[Yc] at h1;show i-0=_;omega,fun hp=>?_⟩,by have:=hr.cap;show i-0<=s.c-0;omega,fun ha=>?_,by have:=hr.sm;rw[Yu];omega⟩
 .rw[Yc,Yu] at hp;obtain⟨b,o,ha,dq⟩:=hr.rw.2 (by rw[Yc];omega);refine⟨b,o,ha,fun j row hj=>dq j row ?_⟩;rw[List.map_take,tQ] at hj;split at hj
  .exact hj
  .cases hj
 .have:=hr.nil ha;exact⟨by show i-0=0;omega,by show s.c-0=0;omega⟩
end Go.VC
end

section
namespace Go.VC
open Go.Proofs Go.LexS
theorem tc(b:UInt8)(h:Heap):Fn Pz 265 #[.int .u8 b.toNat] h fun v h'=>v=.bool (lt b)/\h'=h:=by
 apply TK;unfold Y7;unfold lt isLetter;generalize (b.toNat:Int)=n
 repeat' first
  | refine aM (fun _=>?_) (fun _=>?_)
 all_goals
  refine⟨?_,rfl⟩;congr 1;rw[Bool.eq_iff_iff];simp only[Bool.or_eq_true,Yt,decide_eq_true_eq,Bool.false_eq_true,true_iff,false_iff];omega
theorem HW(b:UInt8)(h:Heap):Fn Pz 296 #[.int .u8 b.toNat] h fun v h'=>v=.bool (dg b)/\h'=h:=by
 apply Tw;unfold YR;unfold dg isDigit;refine aM (fun c=>⟨?_,rfl⟩) (fun c=>⟨?_,rfl⟩)
 .rw[decide_eq_true (p:=(48:Int)<=b.toNat) c,Bool.true_and]
 .rw[decide_eq_false (p:=(48:Int)<=b.toNat) c,Bool.false_and]
theorem GX(b:UInt8)(h:Heap):Fn Pz 266 #[.int .u8 b.toNat] h fun v h'=>v=.bool (inn b)/\h'=h:=by
 apply TJ;unfold Y6;refine (tc b h).mono ?_;rintro _ h3 ⟨rfl,rfl⟩;refine⟨_,rfl,aa (fun c=>?_) (fun c=>?_)⟩
 .exact⟨by rw[show inn b=(lt b||dg b||((b.toNat:Int)==95)) from rfl,c];rfl,rfl⟩
 .refine (HW b _).mono ?_;rintro _ h6 ⟨rfl,rfl⟩;refine⟨_,rfl,aa (fun d=>?_) (fun d=>?_)⟩
  .exact⟨by rw[show inn b=(lt b||dg b||((b.toNat:Int)==95)) from rfl,c,d];rfl,rfl⟩
  .exact⟨by rw[show inn b=(lt b||dg b||((b.toNat:Int)==95)) from rfl,c,d];rfl,rfl⟩
theorem DR(s:ByteArray)(h:Heap):Fn Pz 222 #[.string s] h fun v h'=>v=.bool (isName s.data.toList)/\h'=h:=by
 apply T3;unfold Zn;have fA:=ll s;rw[pW];generalize hL:s.data.toList=L at *;refine aa (fun he=>?_) (fun he=>?_)
 .have:L=[]:=cd he;subst this;exact⟨rfl,rfl⟩
 .have bH:L≠[]:=eU he;have fB:0<L.length:=List.length_pos_iff.2 bH;obtain⟨b,hb,BW⟩:=jt (s:=s) (i:=0) (by omega);rw[hL] at hb;have xp:L=b::L.drop 1:=by have:=drop_cons hb;rwa [List.drop_zero] at this
  have PC:isName L=(decide (L.length<=16)&&lt b&&L.all inn):=by
   conv=>lhs;rw[xp]
   rw[isName,<-xp]
  rw[PC];refine aa (fun Hn=>?_) (fun Hn=>?_)
  .refine⟨?_,rfl⟩;rw[decide_eq_false (by have:=cd Hn;omega)];rfl
  .have cy:L.length<=16:=by have:=eU Hn;omega
   rw[decide_eq_true cy];refine⟨⟨by omega,by omega⟩,?_⟩;rw[show Int.toNat 0=0 from rfl,BW];refine (tc _ _).mono ?_;rintro v h3 ⟨rfl,rfl⟩;refine⟨_,rfl,aa (fun qO=>?_) (fun qO=>?_)⟩
   .refine⟨?_,rfl⟩;rw[show lt b=false from by rw[Bool.not_eq_true'] at qO;exact qO];rfl
   .rw[show lt b=true from by rw[Bool.not_eq_false'] at qO;exact qO];refine eB (n:=s.size) (fun i h'=>h'=h3/\∀(j:Nat) (b:UInt8),j<i->L[j]?=some b->(!inn b)=false) ⟨rfl,fun j b hj=>by omega⟩ ?_;rintro-i h8 hi ⟨rfl,hd⟩;refine aa (fun bR=>?_) (fun Fh=>?_)
    .have ss:=bU bR;obtain⟨y,hy,PG⟩:=jt ss;rw[hL] at hy;refine⟨⟨by omega,by omega⟩,?_⟩;rw[show Int.toNat (i:Int)=i from rfl,PG];refine (GX _ _).mono ?_;rintro v iQ ⟨rfl,rfl⟩;refine⟨_,rfl,aa (fun hp=>?_) (fun hp=>?_)⟩
     .refine⟨?_,rfl⟩;have:L.all inn=false:=by
       rw[<-Bool.not_eq_true,jR];intro hh;have:=hh y i hy;rw[Bool.not_eq_true'] at hp;rw[show inn y=false from hp] at this;cases this
      rw[this];rfl
     .exact Up.next ss (by omega) ⟨rfl,eh (p:=fun b=>!inn b) hy hp hd⟩
    .have acJ:=cj Fh;refine⟨?_,rfl⟩;rw[(jR inn L).2 fun b j hb=>by simpa using hd j b (by have:=(Ya.1 hb).1;omega) hb];rfl
theorem GZ(L:List Nm)(x:ByteArray)(s:Sl)(h:Heap)(hr:RL h 1 s DM L):
  Fn Pz 223 #[.slice s.a s.n s.c,.string x] h fun v h'=>(∃k:Int,v=.int .i64 k/\decide (k>=0)=decide (x.data.toList∈L))/\h'=h:=by
 apply T2;unfold Zm;have hn:=hr.ln;have hm:=hr.sm;refine eB (n:=s.n) (fun i h'=>h'=h/\∀(j:Nat) (y:Nm),j<i->L[j]?=some y->decide (x.data.toList=y)=false) ⟨rfl,fun j y hj=>by omega⟩ ?_;rintro-i h5 hi ⟨rfl,hd⟩;refine aa (fun l=>?_) (fun l=>?_)
 .replace l:=bU l;refine hr.rw.aD (by omega) (by omega) fun b o d g t=>?_;replace g:L[i]?=some d:=g;refine⟨_,t.hd,?_⟩;rw[pW,df];refine aa (fun he=>?_) (fun bH=>?_)
  .have:=cd he;exact⟨⟨_,rfl,by rw[decide_eq_true (show (i:Int)>=0 by omega),decide_eq_true (by rw[this];exact Yb g)]⟩,rfl⟩
  .exact Up.next l (by omega) ⟨rfl,eh (p:=fun y=>decide (x.data.toList=y)) g bH hd⟩
 .replace l:=cj l;refine⟨⟨_,rfl,?_⟩,rfl⟩;rw[decide_eq_false (show ¬((-1:Int)>=0) by omega),decide_eq_false];intro hm;obtain⟨j,hj⟩:=Yf.1 hm;exact eU (hd j _ (by have:=(Ya.1 hj).1;omega) hj) rfl
theorem Hx(L:List Nm)(x:ByteArray)(s:Sl)(h:Heap)(hr:RL h 1 s DM L):
  Fn Pz 161 #[.slice s.a s.n s.c,.string x] h fun v h'=>v=.bool (decide (x.data.toList∈L))/\h'=h:=by
 apply UB;unfold ZU;refine (GZ L x s h hr).mono ?_;rintro v h3 ⟨⟨k,rfl,hk⟩,rfl⟩;exact⟨_,rfl,by rw[hk],rfl⟩
theorem OD{α:Type}{h:Heap}{b:Nat}{e:TypeId}{k:Nat}{cs:α->List Value}{L:List α}{xs:List Value}(hx:xs=(L.map cs).flatten)(ho:Own h b xs e)(hk:∀x,(cs x).length=k)(hl:L.length<=1048576){n c:Nat}(hn:n=L.length)(hc:n<=c):RL h k ⟨some ⟨b,0,none⟩,n,c⟩ cs L:=by
 subst hx;refine⟨⟨by rw[Yc];exact hn,fun _=>⟨b,0,rfl,fun i row hi j v hj=>?_⟩⟩,hc,fun e=>by (cases e),hl⟩;have hr:∀r∈L.map cs,r.length=k:=fun r hr=>by obtain⟨x,_,rfl⟩:=Yp.1 hr;exact hk x
 have BN:=(Ya.1 hj).1;rw[hr row (Yb hi)] at BN;rw[fe,Nat.zero_add,ho.hc,getElem?_flatten _ i j row hr hi BN];exact hj
theorem jG(s:ByteArray)(h:Heap):Fn Pz 160 #[.string s] h fun v h'=>v=.bool (isWord s.data.toList)/\Ext h h':=by
 apply UC;unfold ZV;refine ao (vs:=(fx.map DM).flatten) rfl fun h2 E o=>?_;refine (DR s h2).mono ?_;rintro _ h5 ⟨rfl,rfl⟩;refine⟨_,rfl,aa (fun c=>?_) (fun c=>?_)⟩
 .refine⟨by decide,?_⟩;refine (Hx fx s ⟨aQ (some ⟨h.size,0,none⟩) (Int.toNat 0) 28 1,Int.toNat (28:Nat)-Int.toNat 0,28-Int.toNat 0⟩ h5 (OD rfl o (fun _=>rfl) (by decide) rfl (by decide))).mono ?_;rintro _ h8 ⟨rfl,rfl⟩;exact⟨_,rfl,by rw[show isWord s.data.toList=(isName s.data.toList && !decide (s.data.toList∈fx)) from rfl,c];rfl,E⟩
 .exact⟨by rw[show isWord s.data.toList=(isName s.data.toList && !decide (s.data.toList∈fx)) from rfl,c];rfl,E⟩
end Go.VC
end

section
namespace Go.VC
def aO(n:Int):List Value:=[.int .i64 n]
def wC(w:Nat):List Value:=[.int .u64 w]
end Go.VC
end

section
namespace Go.VC
open Go.RowKit
structure Ev where
 send:Bool
 peer:Int
 label:Int
 deriving DecidableEq
def Ev.cs(x:Ev):List Value:=[.bool x.send,.int .i64 x.peer,.int .i64 x.label]
structure Ar where
 x:Ev
 to:Int
def Ar.cs(a:Ar):List Value:=[.bool a.x.send,.int .i64 a.x.peer,.int .i64 a.x.label,.int .i64 a.to]
def eC(s:Sl):List Value:=[.slice s.a s.n s.c]
def aW(role:Int)(x:Ed):Option Ev:=if role=x.a then some ⟨true,x.b,x.l⟩ else if role=x.b then some ⟨false,x.a,x.l⟩ else none
def qm(es:List Ed)(role:Int)(n:Nat):List Int:=es.filterMap fun x=>if x.f=(n:Int) then (match aW role x with | none=>some x.t | some _=>none) else none
def iz(es:List Ed)(role:Int)(n:Nat):List Ar:=es.filterMap fun x=>if x.f=(n:Int) then (aW role x).map fun e=>⟨e,x.t⟩ else none
def nest{α:Type}(e:TypeId)(k:Nat)(cs:α->List Value)(q:Sl × List α):It:=.sl q.1 e k (q.2.map cs)
theorem AO{α:Type}{P R Q:List α}{i:Nat}(hi:i<Q.length)(x:α):(P++Q++R).set (P.length+i) x=P++Q.set i x++R:=by
 rw[Yz,List.set_append_right _ _ (by omega),Nat.add_sub_cancel_left,List.set_append_left _ _ hi,Yz]
theorem uX{α:Type}{P R Q:List α}{i:Nat}(hi:i<Q.length):(P++Q++R)[P.length+i]?=Q[i]?:=by
 rw[Yz,tR (by omega),Nat.add_sub_cancel_left,jw hi]
theorem St.ng{α:Type}{P:Program}{h0 h:Heap}{A B:List It}{Q:List (Sl × List α)}{e:TypeId}{n:Nat}{cs:α->List Value}(hs:St h0 h (A++Q.map (nest e n cs)++B)){i:Nat}{q:Sl × List α}(hi:Q[i]?=some q)
  {t bytes:Nat} (hT:cI P t e n bytes=true) (d:α) {a:Addr} (ha:a6 h a (cs d)) (hn:(cs d).length=n) (h1:(cs d).all dR=true) (hb:(q.1.n+1)*bytes<=140737488355328) (rM:q.1.n+1<=maxLen)
  {K:Sl->Heap->Prop} (hK:∀(r:Sl) (h':Heap),r.n=q.1.n+1->St h0 h' (A++(Q.set i (r,q.2++[d])).map (nest e n cs)++B)->K r h') :
  App P t t (.slice q.1.a q.1.n q.1.c) (.slice (some a) 1 1) h K:=by
 have n4:i<Q.length:=(Ya.1 hi).1;have Hl:i<(Q.map (nest e n cs)).length:=by rw[Yc];exact n4
 refine hs.appended (A.length+i) (rows:=q.2.map cs) (by rw[uX Hl,Yd,hi];rfl) hT (news:=[cs d]) (by simpa using ha) rfl (fun r hr=>by rw[Ye] at hr;rw[hr];exact hn) (by simpa using h1) hb rM fun r h' jY h3=>hK r h' jY ?_;rw[AO Hl] at h3;have e1:(Q.map (nest e n cs)).set i (.sl r e n (q.2.map cs++[cs d]))=(Q.set i (r,q.2++[d])).map (nest e n cs):=by
  rw[List.map_set];congr 1;unfold nest;simp
 rw[e1] at h3;exact h3
theorem St.au{h0 h:Heap}{L:List It}(hs:St h0 h L){xs:List Value}{e:TypeId}{K:Heap->Prop}(hK:∀h2,Ext h h2->St h0 h2 (.ae h.size xs e::L)->K h2):∀h2:Heap,h2=h.push (.cells ⟨xs⟩ e)->K h2:=
 VC.ak fun h2 E o=>hK h2 E (hs.more E (i:=.ae h.size xs e) o fun b hb=>by cases hb;exact bc _)
theorem St.perm{h0 h:Heap}{L L':List It}(hs:St h0 h L)(hp:L.Perm L'):St h0 h L':=
 ⟨hs.ext,fun i hi=>hs.ok i (hp.mem_iff.2 hi),(hp.pairwise_iff (fun {a b} mA x hx hy=>mA x hy hx)).1 hs.ap⟩
theorem St.qA{α:Type}{h0 h:Heap}{A B:List It}{e:TypeId}{k:Nat}{cs:α->List Value}(hs:St h0 h (A++B)):∀n:Nat,St h0 h (A++(List.replicate n ((⟨.none,0,0⟩,[]):Sl × List α)).map (nest e k cs)++B)
 | 0=>by simpa using hs
 | n+1=>by
  have h1:=(hs.qA (α:=α) (e:=e) (k:=k) (cs:=cs) n).bJ e k;refine h1.perm ?_;rw[List.replicate_succ,gG,Yz,Yz];have:nest e k cs ((⟨.none,0,0⟩,[]):Sl × List α)=.sl ⟨.none,0,0⟩ e k []:=rfl;rw[this];exact List.perm_middle.symm
theorem kz{h h':Heap}:Sm [] h h':=fun a ha=>by cases ha
theorem fR{h h':Heap}{a:Addr}{al:List Addr}(hb:h'[a.block]?=h[a.block]?)(hr:Sm al h h'):Sm (a::al) h h':=by
 intro x hx k v hv;rcases Yr.1 hx with rfl | hx
 .rw[dA (h:=h) (by rw[eK];exact hb)];exact hv
 .exact hr x hx k v hv
theorem St.same{h0 h h':Heap}{L L':List It}(hs:St h0 h L)(bL:St h0 h' L')(k k':Nat){b:Nat}{xs:List Value}{e:TypeId}(hk:L[k]?=some (.ae b xs e))(tv:L'[k']?=some (.ae b xs e)):h'[b]?=h[b]?:=(bL.get tv).trans (hs.get hk).symm
end Go.VC
end

section
namespace Go.VC
theorem KZ{α β:Type}(f:α->β)(L:List α)(i:Nat):(L.map f)[i]?=(L[i]?).map f:=Yd
theorem bz{α:Type}(f:α->Value){L:List α}{i:Nat}(hi:i<L.length)(y:α):aH (L.map f) i [f y]=(L.set i y).map f:=by
 unfold aH;rw[List.map_set,List.set_eq_take_append_cons_drop,if_pos (by rw[Yc];exact hi)];simp
inductive Qr (es:List Ed) (role:Int) (l:List Int):Int->Prop where
 | base {a:Int}:a∈l->Qr es role l a
 | step {a b:Int}:Qr es role l a->(∃x∈es,aW role x=none/\x.f=a/\x.t=b)->Qr es role l b
structure CL (es:List Ed) (role:Int) (n:Nat) (l:List Int) (D:List Bool) (T:List Int):Prop where
 len:D.length=n
 Fp:T.length=D.count true
 mem:∀v,v∈T ↔ 0<=v/\D[v.toNat]?=some true
 r:∀v∈T,Qr es role l v
theorem CL.start(es:List Ed)(role:Int)(n:Nat)(l:List Int):CL es role n l (List.replicate n false) []:=by
 refine⟨by rw[Yg],by rw[List.count_replicate];rfl,fun v=>⟨fun h=>(by cases h),fun ⟨_,h⟩=>?_⟩,fun v h=>by cases h⟩;have:=List.eq_of_mem_replicate (Yb h);cases this
theorem CL.push{es:List Ed}{role:Int}{n:Nat}{l:List Int}{D:List Bool}{T:List Int}(h:CL es role n l D T){b:Int}(h0:0<=b)(hb:D[b.toNat]?=some false)(hr:Qr es role l b):CL es role n l (D.set b.toNat true) (T++[b]):=by
 have yA:=(Ya.1 hb).1;have Ht:=(Ya.1 hb).2;refine⟨by rw[jT];exact h.len,?_,fun v=>?_,fun v hv=>?_⟩
 .rw[List.count_set yA,Ht,Yh,h.Fp];rfl
 .rw[Yk,Ye,h.mem];constructor
  .rintro (⟨h1,h2⟩ | rfl)
   .refine⟨h1,?_⟩;by_cases e:b.toNat=v.toNat
    .rw[e,Yq (by omega)]
    .rw[Yy e];exact h2
   .exact⟨h0,by rw[Yq yA]⟩
  .rintro⟨h1,h2⟩;by_cases e:b.toNat=v.toNat
   .right;omega
   .left;rw[Yy e] at h2;exact⟨h1,h2⟩
 .rcases Yk.1 hv with hv | hv
  .exact h.r v hv
  .rw[Ye] at hv;rw[hv];exact hr
theorem CL.le{es:List Ed}{role:Int}{n:Nat}{l:List Int}{D:List Bool}{T:List Int}(h:CL es role n l D T):T.length<=n:=by
 rw[h.Fp,<-h.len];exact List.count_le_length
theorem ql{es:List Ed}{role:Int}{n:Nat}{b:Int}:b∈qm es role n ↔ ∃x∈es,aW role x=none/\x.f=n/\x.t=b:=by
 unfold qm;rw[Yym];constructor
 .rintro⟨x,hx,h⟩;split at h
  .rename_i hf;cases hv:aW role x with
   | none=>rw[hv] at h;exact⟨x,hx,hv,hf,fH h⟩
   | some e=>rw[hv] at h;cases h
  .cases h
 .rintro⟨x,hx,hv,hf,rfl⟩;exact⟨x,hx,by rw[if_pos hf,hv]⟩
theorem CL.end_{es:List Ed}{role:Int}{n:Nat}{l:List Int}{D:List Bool}{T:List Int}(h:CL es role n l D T)(hl:∀x∈l,x∈T)(hc:∀v∈T,∀b∈qm es role v.toNat,b∈T)(v:Int):v∈T ↔ Qr es role l v:=by
 refine⟨h.r v,fun hq=>?_⟩
 induction hq with
 | base hm=>exact hl _ hm
 | @step a b _ hx ih=>
  obtain⟨x,hx,hv,hf,rfl⟩:=hx;exact hc _ ih _ (ql.2 ⟨x,hx,hv,by have:=((h.mem a).1 ih).1;omega,rfl⟩)
noncomputable def rR(es:List Ed)(role:Int)(l:List Int):Nat->Bool:=fun j=>by classical exact decide (Qr es role l (j:Int))
theorem iq{es:List Ed}{role:Int}{l:List Int}{j:Nat}:rR es role l j=true ↔ Qr es role l (j:Int):=by unfold rR;simp
def dt(x y:Int):Int:=if x<y then -1 else if x>y then 1 else 0
def eP(x y:Int):Int:=if x≠0 then x else y
def sE(x y:Ev):Int:=if x.send≠y.send then (if x.send then -1 else 1) else eP (dt x.peer y.peer) (dt x.label y.label)
def de(x y:Ev):Prop:=(x.send=true/\y.send=false)\/(x.send=y.send/\(x.peer<y.peer\/(x.peer=y.peer/\x.label<y.label)))
instance (x y:Ev):Decidable (de x y):=by unfold de;infer_instance
theorem me{x y:Ev}:sE x y<0 ↔ de x y:=by
 unfold sE de eP dt;obtain⟨s,p,l⟩:=x;obtain⟨t,q,m⟩:=y;cases s<;>cases t<;>simp<;>(repeat' split)<;>omega
theorem Qt{x y:Ev}(h1:x.send=y.send)(h2:x.peer=y.peer)(h3:x.label=y.label):x=y:=by
 obtain⟨s,p,l⟩:=x;obtain⟨t,q,m⟩:=y
 simp_all
theorem l8(x:Ev):¬de x x:=by unfold de;intro h;rcases h with ⟨h1,h2⟩ | ⟨_,h | ⟨_,h⟩⟩<;>first | (rw[h1] at h2;cases h2) | omega
theorem im{x y z:Ev}(h1:de x y)(h2:de y z):de x z:=by
 unfold de at *;obtain⟨s,p,l⟩:=x;obtain⟨t,q,m⟩:=y;obtain⟨u,r,n⟩:=z;cases s<;>cases t<;>cases u<;>simp_all<;>omega
theorem xH(x y:Ev):de x y\/x=y\/de y x:=by
 unfold de;obtain⟨s,p,l⟩:=x;obtain⟨t,q,m⟩:=y;cases s<;>cases t<;>simp<;>omega
def aV:List Ev->List Ev
 | []=>[]
 | x::r=>match aV r with
  | []=>[x]
  | y::t=>if x=y then y::t else x::y::t
theorem fa:∀(l:List Ev) (x:Ev),x∈aV l ↔ x∈l
 | [],x=>by simp[aV]
 | a::r,x=>by
  have ih:=fa r;rw[aV];split
  .rename_i h;rw[h] at ih;have:=ih x
   simp_all
  .rename_i y t h;rw[h] at ih;have h1:=ih x;split
   .rename_i e;subst e;have h2:=(ih a).1 (by simp);rw[h1];simp only[Yr];constructor
    .exact .inr
    .rintro (rfl | h)
     .exact h2
     .exact h
   .rw[Yr,h1,Yr]
theorem ix:∀(l:List Ev),l.Pairwise (fun a b=>¬de b a)->(aV l).Pairwise de
 | [],_=>by simp[aV]
 | a::r,h=>by
  obtain⟨h1,h2⟩:=List.pairwise_cons.1 h;have ih:=ix r h2;rw[aV];split
  .simp
  .rename_i y t hc;rw[hc] at ih;split
   .exact ih
   .rename_i bH;refine List.pairwise_cons.2 ⟨fun z hz=>?_,ih⟩;have hay:de a y:=by
     have hy:y∈r:=(fa r y).1 (by rw[hc];simp);rcases xH a y with h3 | h3 | h3
     .exact h3
     .exact absurd h3 bH
     .exact absurd h3 (h1 y hy)
    rcases Yr.1 hz with rfl | hz
    .exact hay
    .exact im hay ((List.pairwise_cons.1 ih).1 z hz)
theorem gX:∀(l m:List Ev),l.Pairwise de->m.Pairwise de->(∀x,x∈l ↔ x∈m)->l=m
 | [],[],_,_,_=>rfl
 | [],b::m,_,_,h=>absurd ((h b).2 (by simp)) (by simp)
 | a::l,[],_,_,h=>absurd ((h a).1 (by simp)) (by simp)
 | a::l,b::m,hl,hm,h=>by
  obtain⟨h1,h2⟩:=List.pairwise_cons.1 hl;obtain⟨h3,h4⟩:=List.pairwise_cons.1 hm;have mA:a=b:=by
   rcases Yr.1 ((h a).1 (by simp)) with e | ha
   .exact e
   .rcases Yr.1 ((h b).2 (by simp)) with e | hb
    .exact e.symm
    .exact absurd (im (h1 b hb) (h3 a ha)) (l8 a)
  subst mA;congr 1;refine gX l m h2 h4 fun x=>?_;have hx:=h x;rw[Yr,Yr] at hx;constructor
  .intro jZ;rcases hx.1 (.inr jZ) with rfl | h5
   .exact absurd (h1 x jZ) (l8 x)
   .exact h5
  .intro jZ;rcases hx.2 (.inr jZ) with rfl | h5
   .exact absurd (h3 x jZ) (l8 x)
   .exact h5
def fy(x:Ev):List Ev->List Ev
 | []=>[x]
 | y::r=>if de y x then y::fy x r else if x=y then y::r else x::y::r
theorem lQ(x z:Ev):∀l:List Ev,z∈fy x l ↔ z=x\/z∈l
 | []=>by simp[fy]
 | y::r=>by
  rw[fy];split
  .rw[Yr,lQ x z r,Yr];constructor
   .rintro (h | h | h)
    .exact .inr (.inl h)
    .exact .inl h
    .exact .inr (.inr h)
   .rintro (h | h | h)
    .exact .inr (.inl h)
    .exact .inl h
    .exact .inr (.inr h)
  .split
   .rename_i e;subst e;simp
   .simp
theorem jl(x:Ev):∀l:List Ev,l.Pairwise de->(fy x l).Pairwise de
 | [],_=>by simp[fy]
 | y::r,h=>by
  obtain⟨h1,h2⟩:=List.pairwise_cons.1 h;rw[fy];split
  .rename_i hyx;refine List.pairwise_cons.2 ⟨fun z hz=>?_,jl x r h2⟩;rcases (lQ x z r).1 hz with rfl | hz
   .exact hyx
   .exact h1 z hz
  .split
   .exact h
   .rename_i hyx bH;have Lh:de x y:=by
     rcases xH x y with h3 | h3 | h3
     .exact h3
     .exact absurd h3 bH
     .exact absurd h3 hyx
    refine List.pairwise_cons.2 ⟨fun z hz=>?_,h⟩;rcases Yr.1 hz with rfl | hz
    .exact Lh
    .exact im Lh (h1 z hz)
def iY(l:List Ev):List Ev:=l.foldr fy []
theorem jB(l:List Ev)(x:Ev):x∈iY l ↔ x∈l:=by
 unfold iY
 induction l with
 | nil=>simp
 | cons a l ih=>rw[List.foldr_cons,lQ,ih,Yr]
theorem eV(l:List Ev):(iY l).Pairwise de:=by
 unfold iY
 induction l with
 | nil=>simp
 | cons a l ih=>exact jl a _ ih
theorem sD{l l':List Ev}(hp:l'.Perm l)(hs:l'.Pairwise fun a b=>¬de b a):aV l'=iY l:=
 gX _ _ (ix l' hs) (eV l) fun x=>by rw[fa,jB,hp.mem_iff]
def elems(p:Nat->Bool):List Nat:=(List.range 4096).filter p
theorem fk{p:Nat->Bool}{j:Nat}:j∈elems p ↔ j<4096/\p j=true:=by unfold elems;rw[List.mem_filter,List.mem_range]
def toL(es:List Ed)(role:Int)(p:Nat->Bool)(x:Ev):List Int:=(elems p).flatMap fun n=>(iz es role n).filterMap fun a=>if a.x=x then some a.to else none
def Qv(es:List Ed)(role:Int)(p:Nat->Bool):List Ev:=(elems p).flatMap fun n=>(iz es role n).map (·.x)
def Fm(es:List Ed)(role:Int)(p:Nat->Bool):List Ev:=iY (Qv es role p)
end Go.VC
end

section
namespace Go.VC
structure Mv where
 f:Int
 send:Bool
 peer:Int
 label:Int
 t:Int
 ag:Bool
 deriving DecidableEq
def Mv.cs(m:Mv):List Value:=[.int .i64 m.f,.bool m.send,.int .i64 m.peer,.int .i64 m.label,.int .i64 m.t,.bool m.ag]
abbrev eT:=Nat->Bool
open Classical in
noncomputable def Vm:List eT->eT->Nat
 | [],_=>0
 | q::r,p=>if q=p then 0 else Vm r p+1
open Classical in
noncomputable def abX(S:List eT)(p:eT):List eT:=if p∈S then S else S++[p]
noncomputable def Cl(es:List Ed)(role:Int)(i:Nat)(p:eT):List Ev->List eT->List Mv->List eT × List Mv
 | [],S,M=>(S,M)
 | x::r,S,M=>Cl es role i p r (abX S (rR es role (toL es role p x))) (M++[⟨i,x.send,x.peer,x.label,Vm S (rR es role (toL es role p x)),false⟩])
noncomputable def Fx(es:List Ed)(role:Int):Nat->Nat->List eT->List Mv->Option (List eT × List Mv)
 | 0,_,_,_=>none
 | f+1,i,S,M=>match S[i]? with
  | none=>some (S,M)
  | some p=>if (Cl es role i p (Fm es role p) S M).1.length>200 then none else Fx es role f (i+1) (Cl es role i p (Fm es role p) S M).1 (Cl es role i p (Fm es role p) S M).2
noncomputable def views(g:Gl)(role:Int):Option (List eT × List Mv):=Fx g.es role 202 0 [rR g.es role [g.s]] []
end Go.VC
end

section
namespace Go.VC
structure Ti where
 ag:Bool
 k:Int
 x:Ev
 deriving DecidableEq
def Ti.cs(t:Ti):List Value:=[.bool t.ag,.int .i64 t.k,.bool t.x.send,.int .i64 t.x.peer,.int .i64 t.x.label]
def MY:Ti:=⟨false,0,⟨false,0,0⟩⟩
def rZ(T:List Ti)(n:Nat)(f:Ti->Ti):List Ti:=match T[n]? with | some t=>T.set n (f t) | none=>T
def uo(role:Int)(s:List Bool × List Ti)(x:Ed):List Bool × List Ti:=
 if x.a=role then (s.1.set x.f.toNat true,rZ s.2 x.f.toNat fun t=>{ t with ag:=x.ag }) else s
def wG(es:List Ed)(O:List Bool)(T:List Ti)(t:To):List Ti:=
 match O[t.s.toNat]?,es[t.e.toNat]? with
 | some true,some x=>rZ T t.s.toNat fun q=>⟨q.ag,t.k,⟨true,x.b,x.l⟩⟩
 | _,_=>T
def um(es:List Ed)(role:Int)(n:Nat):List Bool × List Ti:=es.foldl (uo role) (List.replicate n false,List.replicate n MY)
def Du(es:List Ed)(ts:List To)(role:Int)(n:Nat):List Ti:=ts.foldl (wG es (um es role n).1) (um es role n).2
def dm(L:List Ev)(i:Nat):Bool:=match L[i]? with | some x=>x.send | none=>false
def aeI(F:Nat->List Ev)(en:Nat->Bool)(l:List Nat)(n:Nat):Bool:=dm (F n) 0&&(en n || !dm (F n) ((F n).length-1)||l.any fun k=>en k||decide (F n≠F k))
def Vi(F:Nat->List Ev)(en:Nat->Bool)(O:List Bool)(T:List Ti)(l:List Nat)(st:Option (Bool × Ti))(n:Nat):Option (Bool × Ti):=
 match st with
 | none=>none
 | some (k,o)=>if aeI F en l n then none else match O[n]?,T[n]? with
  | some true,some t=>if k&&decide (t≠o) then none else some (true,t)
  | _,_=>some (k,o)
def Tn(F:Nat->List Ev)(en:Nat->Bool)(O:List Bool)(T:List Ti)(l:List Nat):Option Ti:=(l.foldl (Vi F en O T l) (some (false,MY))).map Prod.snd
structure mw where
 role:Int
 n:Int
 s:Int
 fin:List Bool
 mv:List Mv
 li:List To
def abM(n:Nat)(x:Ti)(y:Mv):Mv:=if y.f=n/\y.send=true then { y with ag:=x.ag } else y
def ach(n:Nat)(x:Ti)(q:Mv × Nat):Option To:=if q.1.f=n/\q.1.send=true/\x.k>0/\x.x=⟨true,q.1.peer,q.1.label⟩ then some ⟨n,x.k,q.2⟩ else none
def acg(n:Nat)(x:Ti)(M:List Mv):List To:=M.zipIdx.filterMap (ach n x)
def Vn(vw:List Nat->Option Ti):Nat->List eT->List Mv->List To->Option (List Mv × List To)
 | _,[],M,L=>some (M,L)
 | n,p::S,M,L=>match vw (elems p) with
  | none=>none
  | some x=>Vn vw (n+1) S (M.map (abM n x)) (L++acg n x M)
end Go.VC
end

section
namespace Go.VC
section
variable {K K':Type} [DecidableEq K] [DecidableEq K']
end
structure Sg where
 b:Int
 k:Int
 x:Ev
 ag:Bool
 num:Int
 deriving DecidableEq
def Sg.v(s:Sg):Value:=.agg ⟨[.int .i64 s.b,.int .i64 s.k,.bool s.x.send,.int .i64 s.x.peer,.int .i64 s.x.label,.bool s.ag,.int .i64 s.num]⟩
def Mv.ev(x:Mv):Ev:=⟨x.send,x.peer,x.label⟩
end Go.VC
end

section
namespace Go.VC
open Go.Proofs Go.LexS
namespace M
theorem cL(L:List Int):∀r∈L.map aO,r.length=1:=fun r hr=>by obtain⟨x,_,rfl⟩:=Yp.1 hr;rfl
end M
variable [aB]
namespace M
theorem qB(x:Int)(h:Heap):Fn Pz 111 #[.int .i64 x] h fun v h'=>v=.bool false/\h'=h:=by
 apply Fz;unfold Iy;exact⟨by rw[bne_self_eq_false],rfl⟩
theorem gA(x y:Int)(h:Heap):Fn Pz 54 #[.int .i64 x,.int .i64 y] h fun v h'=>v=.int .i64 (dt x y)/\h'=h:=by
 apply Oh;unfold YK;refine (qB x h).mono ?_;rintro _ _ ⟨rfl,rfl⟩;refine⟨_,rfl,?_⟩;refine (qB y _).mono ?_;rintro _ _ ⟨rfl,rfl⟩;refine⟨_,rfl,?_⟩;refine ja rfl (ja rfl ?_);unfold dt;refine aM (fun c=>?_) (fun c=>aM (fun d=>?_) (fun d=>?_))
 .exact⟨by rw[if_pos c],rfl⟩
 .exact⟨by rw[if_neg c,if_pos d],rfl⟩
 .exact⟨by rw[if_neg c,if_neg d],rfl⟩
theorem wI(l:List Int)(s:Sl)(h:Heap)(hr:Rw h 1 s (l.map aO))(hm:l.length<=1048576):
  Fn Pz 53 #[.slice s.a s.n s.c] h fun v h'=>v=.int .i64 (l.foldr eP 0)/\h'=h:=by
 apply Oi;unfold YL;have hn:=hr.ln;refine eB (n:=s.n) (fun i h'=>h'=h/\l.foldr eP 0=(l.drop i).foldr eP 0) ⟨rfl,rfl⟩ ?_;rintro-i h5 hi ⟨rfl,hq⟩;refine aa (fun l2=>?_) (fun l2=>?_)
 .replace l2:=bU l2;refine hr.aD (by omega) (by omega) fun b o d g t=>?_;replace g:l[i]?=some d:=g;have hd:l.drop i=d::l.drop (i+1):=by
   obtain⟨hl,he⟩:=Ya.1 g;rw[List.drop_eq_getElem_cons hl,he]
  rw[hd,List.foldr_cons] at hq;refine⟨_,t.hd,?_⟩;refine fZ (fun c=>?_) (fun c=>?_)
  .refine⟨?_,rfl⟩;rw[hq];unfold eP;rw[if_pos c]
  .refine Up.next l2 (by omega) ⟨rfl,?_⟩;rw[hq];unfold eP;rw[if_neg (by omega)]
 .replace l2:=cj l2;rw[List.drop_eq_nil_of_le (by omega)] at hq;exact⟨by rw[hq];rfl,rfl⟩
end M
end Go.VC
end

section
namespace Go.VC
open Go.Proofs Go.LexS
structure Ms where
 p:Int
 l:Int
 deriving DecidableEq
def Ms.cs(x:Ms):List Value:=[.int .i64 x.p,.int .i64 x.l]
structure Ac where
 a:Int
 b:Int
 l:Int
 deriving DecidableEq
def Ac.cs(x:Ac):List Value:=[.int .i64 x.a,.int .i64 x.b,.int .i64 x.l]
def Ed.act(x:Ed):Ac:=⟨x.a,x.b,x.l⟩
def xP(x y:Ms):Int:=eP (dt x.p y.p) (eP (dt x.l y.l) 0)
def Mi(x y:Ac):Int:=eP (dt x.a y.a) (eP (dt x.b y.b) (eP (dt x.l y.l) 0))
def ri(x y:Ed):Int:=Mi x.act y.act
def cW(x y:Ms):Prop:=x.p<y.p\/(x.p=y.p/\x.l<y.l)
instance (x y:Ms):Decidable (cW x y):=by unfold cW;infer_instance
def acLt(x y:Ac):Prop:=x.a<y.a\/(x.a=y.a/\(x.b<y.b\/(x.b=y.b/\x.l<y.l)))
instance (x y:Ac):Decidable (acLt x y):=by unfold acLt;infer_instance
theorem jN{x y:Ms}:xP x y<0 ↔ cW x y:=by
 unfold xP cW eP dt
 repeat' split
 all_goals omega
theorem mg{x y:Ac}:Mi x y<0 ↔ acLt x y:=by
 unfold Mi acLt eP dt
 repeat' split
 all_goals omega
variable [aB]
namespace M
theorem oq(x y:Ev)(h:Heap):Fn Pz 185 #[.agg ⟨x.cs⟩,.agg ⟨y.cs⟩] h fun v h'=>v=.int .i64 (sE x y)/\Ext h h':=by
 apply Fy x.send x.peer x.label y.send y.peer y.label;unfold Ix;have hs:=St.refl h;refine hs.ak fun h7 hs=>?_;refine hs.ak fun h8 hs=>?_;refine⟨_,hs.rd 1 rfl rfl,?_⟩;refine⟨_,hs.rd 0 rfl rfl,?_⟩;refine aa (fun c=>?_) (fun c=>?_)
 .have bH:x.send≠y.send:=by simpa using c
  refine⟨_,hs.rd 1 rfl rfl,?_⟩;unfold sE;rw[if_pos bH];refine aa (fun d=>?_) (fun d=>?_)
  .exact⟨by rw[if_pos d],hs.ext⟩
  .exact⟨by rw[if_neg (by rw[d];simp)],hs.ext⟩
 .have he:x.send=y.send:=by simpa using c
  refine⟨_,hs.rd 1 rfl rfl,_,hs.rd 0 rfl rfl,_,hs.rd 1 rfl rfl,_,hs.rd 0 rfl rfl,?_⟩;refine (gA _ _ _).mono ?_;rintro _ _ ⟨rfl,rfl⟩;refine⟨_,rfl,fun _ _ _ _ hv=>hv,?_⟩;refine (gA _ _ _).mono ?_;rintro _ _ ⟨rfl,rfl⟩;refine⟨_,rfl,fun _ _ _ _ hv=>hv,?_⟩;refine hs.ak fun dX hs=>?_;have bG:=hs.dP 2 1 ([dt x.peer y.peer,dt x.label y.label].map aO) rfl (cL _) rfl (by decide);refine (wI [dt x.peer y.peer,dt x.label y.label] _ dX (bG.rows 0 rfl (by omega)) (show 2<=1048576 by decide)).mono ?_;rintro _ _ ⟨rfl,rfl⟩;refine⟨_,rfl,?_,hs.ext⟩;unfold sE;rw[if_neg (by simpa using he)];show Value.int .i64 (eP _ (eP _ 0))=_;congr 1;unfold eP;split
  .rfl
  .split<;>omega
theorem Mg(x y:Ms)(h:Heap):Fn Pz 70 #[.agg ⟨x.cs⟩,.agg ⟨y.cs⟩] h fun v h'=>v=.int .i64 (xP x y)/\Ext h h':=by
 apply abb x.p x.l y.p y.l;unfold W70;have hs:=St.refl h;refine hs.ak fun h7 hs=>?_;refine hs.ak fun h8 hs=>?_;refine⟨_,hs.rd 1 rfl rfl,_,hs.rd 0 rfl rfl,_,hs.rd 1 rfl rfl,_,hs.rd 0 rfl rfl,?_⟩;refine (gA _ _ _).mono ?_;rintro _ _ ⟨rfl,rfl⟩;refine⟨_,rfl,fun _ _ _ _ hv=>hv,?_⟩;refine (gA _ _ _).mono ?_;rintro _ _ ⟨rfl,rfl⟩;refine⟨_,rfl,fun _ _ _ _ hv=>hv,?_⟩;refine hs.ak fun dX hs=>?_;have bG:=hs.dP 2 1 ([dt x.p y.p,dt x.l y.l].map aO) rfl (cL _) rfl (by decide);refine (wI [dt x.p y.p,dt x.l y.l] _ dX (bG.rows 0 rfl (by omega)) (show 2<=1048576 by decide)).mono ?_;rintro _ _ ⟨rfl,rfl⟩;exact⟨_,rfl,rfl,hs.ext⟩
theorem Gp(x y:Ac)(h:Heap):Fn Pz 130 #[.agg ⟨x.cs⟩,.agg ⟨y.cs⟩] h fun v h'=>v=.int .i64 (Mi x y)/\Ext h h':=by
 apply UM x.a x.b x.l y.a y.b y.l;unfold Z7;have hs:=St.refl h;refine hs.ak fun h7 hs=>?_;refine hs.ak fun h8 hs=>?_;refine⟨_,hs.rd 1 rfl rfl,_,hs.rd 0 rfl rfl,_,hs.rd 1 rfl rfl,_,hs.rd 0 rfl rfl,_,hs.rd 1 rfl rfl,_,hs.rd 0 rfl rfl,?_⟩;refine (gA _ _ _).mono ?_;rintro _ _ ⟨rfl,rfl⟩;refine⟨_,rfl,fun _ _ _ _ hv=>hv,?_⟩;refine (gA _ _ _).mono ?_;rintro _ _ ⟨rfl,rfl⟩;refine⟨_,rfl,fun _ _ _ _ hv=>hv,?_⟩;refine (gA _ _ _).mono ?_;rintro _ _ ⟨rfl,rfl⟩;refine⟨_,rfl,fun _ _ _ _ hv=>hv,?_⟩;refine hs.ak fun dX hs=>?_;have bG:=hs.dP 3 1 ([dt x.a y.a,dt x.b y.b,dt x.l y.l].map aO) rfl (cL _) rfl (by decide);refine (wI [dt x.a y.a,dt x.b y.b,dt x.l y.l] _ dX (bG.rows 0 rfl (by omega)) (show 3<=1048576 by decide)).mono ?_;rintro _ _ ⟨rfl,rfl⟩;exact⟨_,rfl,rfl,hs.ext⟩
theorem Mh(x y:Ed)(h:Heap):Fn Pz 129 #[.agg ⟨x.cs⟩,.agg ⟨y.cs⟩] h fun v h'=>v=.int .i64 (ri x y)/\Ext h h':=by
 apply UN x.f x.a x.b x.l x.t x.ag y.f y.a y.b y.l y.t y.ag;unfold Z8;have hs:=St.refl h;refine hs.ak fun h7 hs=>?_;refine hs.ak fun h8 hs=>?_;refine⟨x.a,x.b,x.l,hs.at 1 rfl (o:=1) (n:=3) rfl,y.a,y.b,y.l,hs.at 0 rfl (o:=1) (n:=3) rfl,?_⟩;refine (Gp x.act y.act h8).mono ?_;rintro _ uT ⟨rfl,E⟩;exact⟨_,rfl,rfl,(hs.step E).ext⟩
end M
end Go.VC
end

section
namespace Go.VC
def setOf(L:List Nat):eT:=fun j=>decide (j∈L)
def Can(n:Nat)(L:List Nat):Prop:=L=(List.range n).filter fun j=>decide (j∈L)
theorem Can.mk(n:Nat)(p:Nat->Bool):Can n ((List.range n).filter p):=by
 unfold Can;apply List.filter_congr;intro x hx;by_cases hm:x∈(List.range n).filter p
 .rw[decide_eq_true hm];exact (List.mem_filter.1 hm).2
 .rw[decide_eq_false hm];cases hp:p x
  .rfl
  .exact absurd (List.mem_filter.2 ⟨hx,hp⟩) hm
theorem Can.lt{n:Nat}{L:List Nat}(h:Can n L):∀j∈L,j<n:=by
 intro j hj;rw[h,List.mem_filter,List.mem_range] at hj;exact hj.1
theorem xI{n:Nat}{L:List Nat}(h:Can n L)(hn:n<=4096):elems (setOf L)=L:=by
 unfold elems;have e:List.range 4096=List.range n++(List.range (4096-n)).map (n + ·):=by rw[<-List.range_add];congr 1;omega
 rw[e,List.filter_append];have e2:((List.range (4096-n)).map (n + ·)).filter (setOf L)=[]:=by
  rw[List.filter_eq_nil_iff];intro x hx;obtain⟨y,_,rfl⟩:=Yp.1 hx;unfold setOf;simp only[decide_eq_true_eq];intro hm;have:=h.lt _ hm;omega
 rw[e2,Yw];exact h.symm
def Qs(es:List Ed)(role:Int)(L:List Nat):List Ev:=iY (L.flatMap fun n=>(iz es role n).map (·.x))
theorem Ep{n:Nat}{L:List Nat}(h:Can n L)(hn:n<=4096)(es:List Ed)(role:Int):Fm es role (setOf L)=Qs es role L:=by unfold Fm Qv Qs;rw[xI h hn]
def aeO(es:List Ed)(role:Int)(L:List Nat):List Nat:=es.foldl (fun L x=>if (aW role x).isNone&&decide (x.f.toNat∈L) && !decide (x.t.toNat∈L) then L++[x.t.toNat] else L) L
def Q5(es:List Ed)(role:Int):Nat->List Nat->List Nat
 | 0,L=>L
 | f+1,L=>Q5 es role f (aeO es role L)
def okC(es:List Ed)(role:Int)(l:List Int)(L:List Nat):Bool:=
 l.all (fun v=>decide (0<=v)&&decide (v.toNat∈L))&&es.all (fun x=>!(aW role x).isNone || !decide (x.f.toNat∈L)||decide (x.t.toNat∈L)) &&
  (List.range L.length).all fun i=>match L[i]? with
   | some j=>l.any (fun v=>decide (v=(j:Int)))||es.any fun x=>(aW role x).isNone&&decide (x.f.toNat∈L.take i)&&decide (x.t=(j:Int))
   | none=>false
theorem AZ{es:List Ed}{role:Int}{l:List Int}{L:List Nat}(Ec:∀x∈es,0<=x.f/\0<=x.t)(h:okC es role l L=true)(j:Nat):rR es role l j=decide (j∈L):=by
 unfold okC at h;simp only[Yt,List.all_eq_true,List.mem_range] at h;obtain⟨⟨h1,h2⟩,h3⟩:=h;have fwd:∀a:Int,Qr es role l a->0<=a/\a.toNat∈L:=by
  intro a ha
  induction ha with
  | base hm=>have:=h1 _ hm;simpa using this
  | step _ hx ih=>
   obtain⟨x,hx,hv,hf,rfl⟩:=hx;refine⟨(Ec x hx).2,?_⟩;have:=h2 x hx;simp only[Bool.or_eq_true,Bool.not_eq_true',decide_eq_false_iff_not,decide_eq_true_eq] at this;rcases this with (h4 | h4) | h4
   .rw[hv] at h4;cases h4
   .exact absurd (by rw[hf];exact ih.2) h4
   .exact h4
 have bwd:∀i,i<=L.length->∀j∈L.take i,Qr es role l (j:Int):=by
  intro i
  induction i with
  | zero=>intro _ j hj;rw[mq] at hj;cases hj
  | succ i ih=>
   intro hi j hj;obtain⟨y,hy⟩:=get_some (l:=L) (i:=i) (by omega);rw[aj hy,Yk,Ye] at hj;rcases hj with hj | rfl
   .exact ih (by omega) j hj
   .have:=h3 i (by omega);rw[hy] at this;simp only[Bool.or_eq_true,List.any_eq_true,decide_eq_true_eq,Yt] at this;rcases this with ⟨v,hv,rfl⟩ | ⟨x,hx,⟨h4,h5⟩,h6⟩
    .exact .base hv
    .have hq:=ih (by omega) _ h5;rw[show ((x.f.toNat:Nat):Int)=x.f by have:=Ec x hx;omega] at hq;exact .step hq ⟨x,hx,Option.isNone_iff_eq_none.1 h4,rfl,h6⟩
 have Wr:rR es role l j=true ↔ j∈L:=by
  rw[iq];constructor
  .intro h;have:=(fwd _ h).2;rwa [Ys] at this
  .intro h;exact bwd L.length (bc _) j (by rw[yd];exact h)
 by_cases hj:j∈L
 .rw[decide_eq_true hj];exact Wr.2 hj
 .rw[decide_eq_false hj];cases hc:rR es role l j
  .rfl
  .exact absurd (Wr.1 hc) hj
def QF(es:List Ed)(role:Int)(n:Nat)(l:List Int):Option (List Nat):=
 let L:=Q5 es role n (l.map Int.toNat).eraseDups
 if okC es role l L then some ((List.range n).filter fun j=>decide (j∈L)) else none
theorem Mj{es:List Ed}{role:Int}{n:Nat}{l:List Int}{L:List Nat}(Ec:∀x∈es,0<=x.f/\0<=x.t)(bR:∀j:Nat,rR es role l j=true->j<n)(h:QF es role n l=some L):Can n L/\rR es role l=setOf L:=by
 unfold QF at h;simp only at h;split at h
 .rename_i hk;cases h;refine⟨Can.mk _ _,?_⟩
  funext j
  rw[AZ Ec hk];unfold setOf;by_cases hj:j∈Q5 es role n (l.map Int.toNat).eraseDups
  .rw[decide_eq_true hj,decide_eq_true];have:rR es role l j=true:=by rw[AZ Ec hk,decide_eq_true hj]
   exact List.mem_filter.2 ⟨List.mem_range.2 (bR j this),decide_eq_true hj⟩
  .rw[decide_eq_false hj,decide_eq_false];intro hm;exact hj (cd (List.mem_filter.1 hm).2)
 .cases h
end Go.VC
end

section
namespace Go.Proofs
open Go.Shelf
def Tryz.ji:Go.Shelf.Ren:=⟨fun | 146=>298 | 221=>309 | 268=>311 | 138=>312 | 143=>313 | 195=>314 | 197=>315 | 218=>316 | 219=>317 | 260=>318 | 217=>319 | 225=>320 | 224=>321 | 267=>322 | 266=>323 | 314=>324 | n=>n,fun | 9=>9 | 31=>22 | 3=>3 | 4=>4 | 0=>0 | 105=>419 | 21=>21 | 5=>5 | 46=>204 | 119=>423 | 139=>426 | 138=>425 | 146=>338 | 51=>324 | n=>n,fun | 1=>1 | 3=>2 | 4=>3 | n=>n⟩
theorem Tryz.La:Go.Proofs.Lays.n146 Tryz.prog Tryz.ji:={
 mixed:=by kernel_rfl
 f138:=Tryz.func312.trans (congrArg some (by kernel_rfl))
 f143:=Tryz.func313.trans (congrArg some (by kernel_rfl))
 f146:=Tryz.func298.trans (congrArg some (by kernel_rfl))
 f195:=Tryz.func314.trans (congrArg some (by kernel_rfl))
 f197:=Tryz.func315.trans (congrArg some (by kernel_rfl))
 f217:=Tryz.func319.trans (congrArg some (by kernel_rfl))
 f218:=Tryz.func316.trans (congrArg some (by kernel_rfl))
 f219:=Tryz.func317.trans (congrArg some (by kernel_rfl))
 f221:=Tryz.func309.trans (congrArg some (by kernel_rfl))
 f224:=Tryz.func321.trans (congrArg some (by kernel_rfl))
 f225:=Tryz.func320.trans (congrArg some (by kernel_rfl))
 f260:=Tryz.func318.trans (congrArg some (by kernel_rfl))
 f266:=Tryz.func323.trans (congrArg some (by kernel_rfl))
 f267:=Tryz.func322.trans (congrArg some (by kernel_rfl))
 f268:=Tryz.func311.trans (congrArg some (by kernel_rfl))
 f314:=Tryz.func324.trans (congrArg some (by kernel_rfl))
 t0:=Tryz.underlying0
 a0:=Tryz.isAgg0
 z0:=Tryz.sizeOf0
 v0:=Tryz.zeroValue0
 t3:=Tryz.underlying3
 a3:=Tryz.isAgg3
 z3:=Tryz.sizeOf3
 v3:=Tryz.zeroValue3
 t4:=Tryz.underlying4
 a4:=Tryz.isAgg4
 z4:=Tryz.sizeOf4
 v4:=Tryz.zeroValue4
 t5:=Tryz.underlying5
 a5:=Tryz.isAgg5
 z5:=Tryz.sizeOf5
 v5:=Tryz.zeroValue5
 t9:=Tryz.underlying9
 a9:=Tryz.isAgg9
 z9:=Tryz.sizeOf9
 v9:=Tryz.zeroValue9
 t21:=Tryz.underlying21
 a21:=Tryz.isAgg21
 z21:=Tryz.sizeOf21
 v21:=Tryz.zeroValue21
 t31:=Tryz.underlying22
 a31:=Tryz.isAgg22
 z31:=Tryz.sizeOf22
 v31:=Tryz.zeroValue22
 t46:=Tryz.underlying204
 a46:=Tryz.isAgg204
 z46:=Tryz.sizeOf204
 v46:=Tryz.zeroValue204
 t51:=Tryz.underlying324
 a51:=Tryz.isAgg324
 z51:=Tryz.sizeOf324
 v51:=Tryz.zeroValue324
 t105:=Tryz.underlying419
 a105:=Tryz.isAgg419
 z105:=Tryz.sizeOf419
 v105:=Tryz.zeroValue419
 t119:=Tryz.underlying423
 a119:=Tryz.isAgg423
 z119:=Tryz.sizeOf423
 t138:=Tryz.underlying425
 a138:=Tryz.isAgg425
 z138:=Tryz.sizeOf425
 v138:=Tryz.zeroValue425
 t139:=Tryz.underlying426
 a139:=Tryz.isAgg426
 z139:=Tryz.sizeOf426
 v139:=Tryz.zeroValue426
 t146:=Tryz.underlying338
 a146:=Tryz.isAgg338
 z146:=Tryz.sizeOf338
 v146:=Tryz.zeroValue338
 g1:=by kernel_rfl
 g3:=by kernel_rfl
 g4:=by kernel_rfl }
def Tryz.wY:Go.Shelf.Ren:=⟨fun | 212=>141 | 263=>210 | 264=>211 | n=>n,fun | 46=>204 | 51=>324 | 146=>338 | 53=>144 | 148=>340 | n=>n,fun | n=>n⟩
theorem Tryz.K9:Go.Proofs.Lays.n212 Tryz.prog Tryz.wY:={
 mixed:=by kernel_rfl
 f212:=Tryz.func141.trans (congrArg some (by kernel_rfl))
 f263:=Tryz.func210.trans (congrArg some (by kernel_rfl))
 f264:=Tryz.func211.trans (congrArg some (by kernel_rfl))
 t46:=Tryz.underlying204
 a46:=Tryz.isAgg204
 z46:=Tryz.sizeOf204
 v46:=Tryz.zeroValue204
 t51:=Tryz.underlying324
 a51:=Tryz.isAgg324
 z51:=Tryz.sizeOf324
 v51:=Tryz.zeroValue324
 t53:=Tryz.underlying144
 a53:=Tryz.isAgg144
 z53:=Tryz.sizeOf144
 v53:=Tryz.zeroValue144
 t146:=Tryz.underlying338
 a146:=Tryz.isAgg338
 z146:=Tryz.sizeOf338
 v146:=Tryz.zeroValue338
 t148:=Tryz.underlying340
 a148:=Tryz.isAgg340
 z148:=Tryz.sizeOf340
 v148:=Tryz.zeroValue340 }
def Tryz.Kl:Go.Shelf.Ren:=⟨fun | 6=>124 | 15=>110 | 14=>200 | 28=>196 | 29=>197 | 20=>242 | 21=>243 | 22=>244 | 23=>245 | 24=>246 | 25=>247 | 26=>248 | 27=>249 | 46=>287 | 47=>234 | 48=>235 | 49=>288 | 50=>289 | 57=>305 | n=>n,fun | 22=>127 | 24=>140 | 25=>236 | 3=>3 | 39=>204 | 0=>0 | 53=>324 | 55=>144 | 4=>4 | 46=>318 | 45=>317 | 50=>296 | 5=>5 | 9=>9 | 66=>357 | 70=>361 | 76=>396 | 77=>216 | n=>n,fun | n=>n⟩
def Tryz.ud:Go.Shelf.Ren:=⟨fun | 6=>184 | 15=>110 | 14=>231 | 28=>196 | 29=>197 | 20=>277 | 21=>278 | 22=>279 | 23=>280 | 24=>281 | 25=>282 | 26=>283 | 27=>284 | 46=>302 | 47=>234 | 48=>235 | 49=>303 | 50=>304 | 57=>310 | n=>n,fun | 22=>193 | 24=>188 | 25=>312 | 3=>3 | 39=>204 | 0=>0 | 53=>324 | 55=>144 | 4=>4 | 46=>318 | 45=>317 | 50=>296 | 5=>5 | 9=>9 | 66=>357 | 70=>361 | 76=>396 | 77=>216 | n=>n,fun | n=>n⟩
theorem Tryz.FQ:Go.Proofs.SlLaysF0.n6 Tryz.prog Tryz.ud:={
 mixed:=by kernel_rfl
 f6:=⟨Tryz.f184.name,by decide,Tryz.func184.trans (congrArg some (by kernel_rfl))⟩
 f14:=⟨Tryz.f231.name,by decide,Tryz.func231.trans (congrArg some (by kernel_rfl))⟩
 f15:=Tryz.func110.trans (congrArg some (by kernel_rfl))
 f20:=⟨Tryz.f277.name,by decide,Tryz.func277.trans (congrArg some (by kernel_rfl))⟩
 f21:=⟨Tryz.f278.name,by decide,Tryz.func278.trans (congrArg some (by kernel_rfl))⟩
 f22:=⟨Tryz.f279.name,by decide,Tryz.func279.trans (congrArg some (by kernel_rfl))⟩
 f23:=⟨Tryz.f280.name,by decide,Tryz.func280.trans (congrArg some (by kernel_rfl))⟩
 f24:=⟨Tryz.f281.name,by decide,Tryz.func281.trans (congrArg some (by kernel_rfl))⟩
 f25:=⟨Tryz.f282.name,by decide,Tryz.func282.trans (congrArg some (by kernel_rfl))⟩
 f26:=⟨Tryz.f283.name,by decide,Tryz.func283.trans (congrArg some (by kernel_rfl))⟩
 f27:=⟨Tryz.f284.name,by decide,Tryz.func284.trans (congrArg some (by kernel_rfl))⟩
 f28:=Tryz.func196.trans (congrArg some (by kernel_rfl))
 f29:=Tryz.func197.trans (congrArg some (by kernel_rfl))
 f46:=⟨Tryz.f302.name,by decide,Tryz.func302.trans (congrArg some (by kernel_rfl))⟩
 f47:=Tryz.func234.trans (congrArg some (by kernel_rfl))
 f48:=Tryz.func235.trans (congrArg some (by kernel_rfl))
 f49:=⟨Tryz.f303.name,by decide,Tryz.func303.trans (congrArg some (by kernel_rfl))⟩
 f50:=⟨Tryz.f304.name,by decide,Tryz.func304.trans (congrArg some (by kernel_rfl))⟩
 f57:=⟨Tryz.f310.name,by decide,Tryz.func310.trans (congrArg some (by kernel_rfl))⟩
 t0:=Tryz.underlying0
 a0:=Tryz.isAgg0
 z0:=Tryz.sizeOf0
 v0:=Tryz.zeroValue0
 t3:=Tryz.underlying3
 a3:=Tryz.isAgg3
 z3:=Tryz.sizeOf3
 v3:=Tryz.zeroValue3
 t4:=Tryz.underlying4
 a4:=Tryz.isAgg4
 z4:=Tryz.sizeOf4
 v4:=Tryz.zeroValue4
 t5:=Tryz.underlying5
 a5:=Tryz.isAgg5
 z5:=Tryz.sizeOf5
 v5:=Tryz.zeroValue5
 t9:=Tryz.underlying9
 a9:=Tryz.isAgg9
 z9:=Tryz.sizeOf9
 v9:=Tryz.zeroValue9
 t22:=Tryz.underlying193
 a22:=Tryz.isAgg193
 z22:=Tryz.sizeOf193
 v22:=Tryz.zeroValue193
 t25:=Tryz.underlying312
 a25:=Tryz.isAgg312
 z25:=Tryz.sizeOf312
 v25:=Tryz.zeroValue312
 t39:=Tryz.underlying204
 a39:=Tryz.isAgg204
 z39:=Tryz.sizeOf204
 v39:=Tryz.zeroValue204
 t45:=Tryz.underlying317
 a45:=Tryz.isAgg317
 z45:=Tryz.sizeOf317
 v45:=Tryz.zeroValue317
 t46:=Tryz.underlying318
 a46:=Tryz.isAgg318
 z46:=Tryz.sizeOf318
 v46:=Tryz.zeroValue318
 t50:=Tryz.underlying296
 a50:=Tryz.isAgg296
 z50:=Tryz.sizeOf296
 v50:=Tryz.zeroValue296
 t53:=Tryz.underlying324
 a53:=Tryz.isAgg324
 z53:=Tryz.sizeOf324
 v53:=Tryz.zeroValue324
 t55:=Tryz.underlying144
 a55:=Tryz.isAgg144
 z55:=Tryz.sizeOf144
 v55:=Tryz.zeroValue144
 t66:=Tryz.underlying357
 a66:=Tryz.isAgg357
 z66:=Tryz.sizeOf357
 v66:=Tryz.zeroValue357
 t70:=Tryz.underlying361
 a70:=Tryz.isAgg361
 z70:=Tryz.sizeOf361
 v70:=Tryz.zeroValue361
 t76:=Tryz.underlying396
 a76:=Tryz.isAgg396
 z76:=Tryz.sizeOf396
 v76:=Tryz.zeroValue396
 t77:=Tryz.underlying216
 a77:=Tryz.isAgg216
 z77:=Tryz.sizeOf216
 v77:=Tryz.zeroValue216 }
def Tryz.uc:Go.Shelf.Ren:=⟨fun | 6=>69 | 15=>110 | 14=>134 | 28=>196 | 29=>197 | 20=>202 | 21=>203 | 22=>204 | 23=>205 | 24=>206 | 25=>207 | 26=>208 | 27=>209 | 46=>258 | 47=>234 | 48=>235 | 49=>259 | 50=>260 | 57=>293 | n=>n,fun | 22=>68 | 24=>72 | 25=>136 | 3=>3 | 39=>204 | 0=>0 | 53=>324 | 55=>144 | 4=>4 | 46=>318 | 45=>317 | 50=>296 | 5=>5 | 9=>9 | 66=>357 | 70=>361 | 76=>396 | 77=>216 | n=>n,fun | n=>n⟩
theorem Tryz.FP:Go.Proofs.SlLaysF0.n6 Tryz.prog Tryz.uc:={
 mixed:=by kernel_rfl
 f6:=⟨Tryz.f69.name,by decide,Tryz.func69.trans (congrArg some (by kernel_rfl))⟩
 f14:=⟨Tryz.f134.name,by decide,Tryz.func134.trans (congrArg some (by kernel_rfl))⟩
 f15:=Tryz.func110.trans (congrArg some (by kernel_rfl))
 f20:=⟨Tryz.f202.name,by decide,Tryz.func202.trans (congrArg some (by kernel_rfl))⟩
 f21:=⟨Tryz.f203.name,by decide,Tryz.func203.trans (congrArg some (by kernel_rfl))⟩
 f22:=⟨Tryz.f204.name,by decide,Tryz.func204.trans (congrArg some (by kernel_rfl))⟩
 f23:=⟨Tryz.f205.name,by decide,Tryz.func205.trans (congrArg some (by kernel_rfl))⟩
 f24:=⟨Tryz.f206.name,by decide,Tryz.func206.trans (congrArg some (by kernel_rfl))⟩
 f25:=⟨Tryz.f207.name,by decide,Tryz.func207.trans (congrArg some (by kernel_rfl))⟩
 f26:=⟨Tryz.f208.name,by decide,Tryz.func208.trans (congrArg some (by kernel_rfl))⟩
 f27:=⟨Tryz.f209.name,by decide,Tryz.func209.trans (congrArg some (by kernel_rfl))⟩
 f28:=Tryz.func196.trans (congrArg some (by kernel_rfl))
 f29:=Tryz.func197.trans (congrArg some (by kernel_rfl))
 f46:=⟨Tryz.f258.name,by decide,Tryz.func258.trans (congrArg some (by kernel_rfl))⟩
 f47:=Tryz.func234.trans (congrArg some (by kernel_rfl))
 f48:=Tryz.func235.trans (congrArg some (by kernel_rfl))
 f49:=⟨Tryz.f259.name,by decide,Tryz.func259.trans (congrArg some (by kernel_rfl))⟩
 f50:=⟨Tryz.f260.name,by decide,Tryz.func260.trans (congrArg some (by kernel_rfl))⟩
 f57:=⟨Tryz.f293.name,by decide,Tryz.func293.trans (congrArg some (by kernel_rfl))⟩
 t0:=Tryz.underlying0
 a0:=Tryz.isAgg0
 z0:=Tryz.sizeOf0
 v0:=Tryz.zeroValue0
 t3:=Tryz.underlying3
 a3:=Tryz.isAgg3
 z3:=Tryz.sizeOf3
 v3:=Tryz.zeroValue3
 t4:=Tryz.underlying4
 a4:=Tryz.isAgg4
 z4:=Tryz.sizeOf4
 v4:=Tryz.zeroValue4
 t5:=Tryz.underlying5
 a5:=Tryz.isAgg5
 z5:=Tryz.sizeOf5
 v5:=Tryz.zeroValue5
 t9:=Tryz.underlying9
 a9:=Tryz.isAgg9
 z9:=Tryz.sizeOf9
 v9:=Tryz.zeroValue9
 t22:=Tryz.underlying68
 a22:=Tryz.isAgg68
 z22:=Tryz.sizeOf68
 v22:=Tryz.zeroValue68
 t25:=Tryz.underlying136
 a25:=Tryz.isAgg136
 z25:=Tryz.sizeOf136
 v25:=Tryz.zeroValue136
 t39:=Tryz.underlying204
 a39:=Tryz.isAgg204
 z39:=Tryz.sizeOf204
 v39:=Tryz.zeroValue204
 t45:=Tryz.underlying317
 a45:=Tryz.isAgg317
 z45:=Tryz.sizeOf317
 v45:=Tryz.zeroValue317
 t46:=Tryz.underlying318
 a46:=Tryz.isAgg318
 z46:=Tryz.sizeOf318
 v46:=Tryz.zeroValue318
 t50:=Tryz.underlying296
 a50:=Tryz.isAgg296
 z50:=Tryz.sizeOf296
 v50:=Tryz.zeroValue296
 t53:=Tryz.underlying324
 a53:=Tryz.isAgg324
 z53:=Tryz.sizeOf324
 v53:=Tryz.zeroValue324
 t55:=Tryz.underlying144
 a55:=Tryz.isAgg144
 z55:=Tryz.sizeOf144
 v55:=Tryz.zeroValue144
 t66:=Tryz.underlying357
 a66:=Tryz.isAgg357
 z66:=Tryz.sizeOf357
 v66:=Tryz.zeroValue357
 t70:=Tryz.underlying361
 a70:=Tryz.isAgg361
 z70:=Tryz.sizeOf361
 v70:=Tryz.zeroValue361
 t76:=Tryz.underlying396
 a76:=Tryz.isAgg396
 z76:=Tryz.sizeOf396
 v76:=Tryz.zeroValue396
 t77:=Tryz.underlying216
 a77:=Tryz.isAgg216
 z77:=Tryz.sizeOf216
 v77:=Tryz.zeroValue216 }
def Tryz.ub:Go.Shelf.Ren:=⟨fun | 6=>128 | 15=>110 | 14=>201 | 28=>196 | 29=>197 | 20=>250 | 21=>251 | 22=>252 | 23=>253 | 24=>254 | 25=>255 | 26=>256 | 27=>257 | 46=>290 | 47=>234 | 48=>235 | 49=>291 | 50=>292 | 57=>306 | n=>n,fun | 22=>24 | 24=>67 | 25=>243 | 3=>3 | 39=>204 | 0=>0 | 53=>324 | 55=>144 | 4=>4 | 46=>318 | 45=>317 | 50=>296 | 5=>5 | 9=>9 | 66=>357 | 70=>361 | 76=>396 | 77=>216 | n=>n,fun | n=>n⟩
theorem Tryz.FO:Go.Proofs.SlLaysF0.n6 Tryz.prog Tryz.ub:={
 mixed:=by kernel_rfl
 f6:=⟨Tryz.f128.name,by decide,Tryz.func128.trans (congrArg some (by kernel_rfl))⟩
 f14:=⟨Tryz.f201.name,by decide,Tryz.func201.trans (congrArg some (by kernel_rfl))⟩
 f15:=Tryz.func110.trans (congrArg some (by kernel_rfl))
 f20:=⟨Tryz.f250.name,by decide,Tryz.func250.trans (congrArg some (by kernel_rfl))⟩
 f21:=⟨Tryz.f251.name,by decide,Tryz.func251.trans (congrArg some (by kernel_rfl))⟩
 f22:=⟨Tryz.f252.name,by decide,Tryz.func252.trans (congrArg some (by kernel_rfl))⟩
 f23:=⟨Tryz.f253.name,by decide,Tryz.func253.trans (congrArg some (by kernel_rfl))⟩
 f24:=⟨Tryz.f254.name,by decide,Tryz.func254.trans (congrArg some (by kernel_rfl))⟩
 f25:=⟨Tryz.f255.name,by decide,Tryz.func255.trans (congrArg some (by kernel_rfl))⟩
 f26:=⟨Tryz.f256.name,by decide,Tryz.func256.trans (congrArg some (by kernel_rfl))⟩
 f27:=⟨Tryz.f257.name,by decide,Tryz.func257.trans (congrArg some (by kernel_rfl))⟩
 f28:=Tryz.func196.trans (congrArg some (by kernel_rfl))
 f29:=Tryz.func197.trans (congrArg some (by kernel_rfl))
 f46:=⟨Tryz.f290.name,by decide,Tryz.func290.trans (congrArg some (by kernel_rfl))⟩
 f47:=Tryz.func234.trans (congrArg some (by kernel_rfl))
 f48:=Tryz.func235.trans (congrArg some (by kernel_rfl))
 f49:=⟨Tryz.f291.name,by decide,Tryz.func291.trans (congrArg some (by kernel_rfl))⟩
 f50:=⟨Tryz.f292.name,by decide,Tryz.func292.trans (congrArg some (by kernel_rfl))⟩
 f57:=⟨Tryz.f306.name,by decide,Tryz.func306.trans (congrArg some (by kernel_rfl))⟩
 t0:=Tryz.underlying0
 a0:=Tryz.isAgg0
 z0:=Tryz.sizeOf0
 v0:=Tryz.zeroValue0
 t3:=Tryz.underlying3
 a3:=Tryz.isAgg3
 z3:=Tryz.sizeOf3
 v3:=Tryz.zeroValue3
 t4:=Tryz.underlying4
 a4:=Tryz.isAgg4
 z4:=Tryz.sizeOf4
 v4:=Tryz.zeroValue4
 t5:=Tryz.underlying5
 a5:=Tryz.isAgg5
 z5:=Tryz.sizeOf5
 v5:=Tryz.zeroValue5
 t9:=Tryz.underlying9
 a9:=Tryz.isAgg9
 z9:=Tryz.sizeOf9
 v9:=Tryz.zeroValue9
 t22:=Tryz.underlying24
 a22:=Tryz.isAgg24
 z22:=Tryz.sizeOf24
 v22:=Tryz.zeroValue24
 t25:=Tryz.underlying243
 a25:=Tryz.isAgg243
 z25:=Tryz.sizeOf243
 v25:=Tryz.zeroValue243
 t39:=Tryz.underlying204
 a39:=Tryz.isAgg204
 z39:=Tryz.sizeOf204
 v39:=Tryz.zeroValue204
 t45:=Tryz.underlying317
 a45:=Tryz.isAgg317
 z45:=Tryz.sizeOf317
 v45:=Tryz.zeroValue317
 t46:=Tryz.underlying318
 a46:=Tryz.isAgg318
 z46:=Tryz.sizeOf318
 v46:=Tryz.zeroValue318
 t50:=Tryz.underlying296
 a50:=Tryz.isAgg296
 z50:=Tryz.sizeOf296
 v50:=Tryz.zeroValue296
 t53:=Tryz.underlying324
 a53:=Tryz.isAgg324
 z53:=Tryz.sizeOf324
 v53:=Tryz.zeroValue324
 t55:=Tryz.underlying144
 a55:=Tryz.isAgg144
 z55:=Tryz.sizeOf144
 v55:=Tryz.zeroValue144
 t66:=Tryz.underlying357
 a66:=Tryz.isAgg357
 z66:=Tryz.sizeOf357
 v66:=Tryz.zeroValue357
 t70:=Tryz.underlying361
 a70:=Tryz.isAgg361
 z70:=Tryz.sizeOf361
 v70:=Tryz.zeroValue361
 t76:=Tryz.underlying396
 a76:=Tryz.isAgg396
 z76:=Tryz.sizeOf396
 v76:=Tryz.zeroValue396
 t77:=Tryz.underlying216
 a77:=Tryz.isAgg216
 z77:=Tryz.sizeOf216
 v77:=Tryz.zeroValue216 }
end Go.Proofs
end

section
namespace Go.VC
open Go.Proofs Go.LexS Go.Shelf
structure Gm (h:Heap):Prop where
 m:∃m:Int,hc h ⟨1,0,none⟩=some (.int .i64 m)
theorem Gm.ext{h h':Heap}(hx:Gm h)(E:Ext h h'):Gm h':=by
 obtain⟨m,hm⟩:=hx.m;exact⟨⟨m,ay E hm⟩⟩
structure Gx (h:Heap):Prop where
 m:∃m:Int,hc h ⟨1,0,none⟩=some (.int .i64 m)
 t:∀j,j<Lib.deBruijn64tab.length->hc h ⟨0,j,none⟩=some (.int .u8 (Lib.deBruijn64tab.getD j 0))
instance {h:Heap}:Coe (Gx h) (Gm h):=⟨fun hx=>⟨hx.m⟩⟩
theorem OP(x y:Nat)(hx:x<18446744073709551616)(hy:y<18446744073709551616)(h:Heap):Fn Pz 141 #[.int .u64 x,.int .u64 y] h fun v h'=>v=.tuple ⟨[.int .u64 ((x*y/18446744073709551616:Nat):Int),.int .u64 ((x*y%18446744073709551616:Nat):Int)]⟩/\h'=h:=
 Fn.of_same fun w=>Any.bits_Mul Tryz.K9 x y hx hy w
def pieces(l:Nm):List Nm:=Go.Lib.split l [46]
theorem FN(l:Nm)(h:Heap)(hx:Gm h)(hl:l.length<=50):Fn Pz 298 #[.string (bs l),.string (bs [46])] h fun v h'=>Ext h h'/\∃s:Sl,v=.slice s.a s.n s.c/\RL h' 1 s DM (pieces l):=by
 intro w hw;subst hw;obtain⟨m,hm⟩:=hx.m;have hle:=Lib.countB_le (bs [46]) (by decide) (bs l).size (bs l) (bc _);have hlen:=Lib.splitB_all (bs [46]) (by decide) 0 _ (bs l) rfl;have acP:=Lib.splitB_data (bs [46]) 0 (Lib.countB (bs l) (bs [46])) (bs l);have hp:pieces l=(Lib.splitB (bs [46]) 0 (Lib.countB (bs l) (bs [46])) (bs l)).map (·.data.toList):=acP.symm;have PF:(Lib.splitB (bs [46]) 0 (Lib.countB (bs l) (bs [46])) (bs l)).map Value.string=(pieces l).map fun x=>Value.string (bs x):=by
  rw[hp,List.map_map];rfl
 have dz:(pieces l).length=Lib.countB (bs l) (bs [46])+1:=by rw[hp,Yc,hlen]
 rw[vd] at hle;refine (Any.strings_Split Tryz.La (by kernel_rfl) (bs l) (bs [46]) m w (by rw[vd];omega) hm (by decide)).mono ?_;rintro e w' ⟨rfl,rfl⟩;rw[PF];have ho:Own (w.alloc (.cells ((pieces l).map fun x=>Value.string (bs x)).toArray (Tryz.ji.t 9))).heap w.heap.size ((pieces l).map fun x=>Value.string (bs x)) (Tryz.ji.t 9):=Own.push;refine⟨_,rfl,⟨Ext.push _ _,⟨some ⟨w.heap.size,0,none⟩,Lib.countB (bs l) (bs [46])+1,Lib.countB (bs l) (bs [46])+1⟩,rfl,⟨⟨by rw[Yc,dz],fun _=>⟨w.heap.size,0,rfl,fun i row hi=>?_⟩⟩,bc _,(fun e=>by cases e),by rw[dz];omega⟩⟩,rfl,rfl,rfl,trivial⟩;rw[Yd] at hi;obtain⟨x,Lj,zC⟩:=sH.1 hi;subst zC;refine ho.a6 fun j v hj=>?_
 match j,hj with
 | 0,hj=>cases hj;rw[show 0+i*1+0=i by omega,Yd,Lj];rfl
theorem abP:Go.Sort.SWO (ltOf sE) where
 irrefl x:=by unfold ltOf;rw[decide_eq_false_iff_not,me];exact l8 x
 trans x y z h1 h2:=by unfold ltOf at *;rw[decide_eq_true_eq,me] at *;exact im h1 h2
 ntrans x y z h1 h2:=by
  unfold ltOf at *;rw[decide_eq_false_iff_not,me] at *;obtain⟨a,b,c⟩:=x;obtain⟨a',b',c'⟩:=y;obtain⟨a'',b'',c''⟩:=z;unfold de at *;cases a<;>cases a'<;>cases a''<;>simp at *<;>omega
instance:Inhabited Ev:=⟨⟨false,0,0⟩⟩
instance:Inhabited Mv:=⟨⟨0,false,0,0,0,false⟩⟩
end Go.VC
end

section
namespace Go.VC
open Go.Proofs Go.LexS
theorem xO{l:List Ev}(h:l≠[]):aV l≠[]:=by
 cases l with
 | nil=>exact absurd rfl h
 | cons a r=>
  intro e;have:=(fa (a::r) a).2 (by simp);rw[e] at this;cases this
theorem ko:∀(l:List Ev) (x:Ev),aV (l++[x])=if l.getLast?=some x then aV l else aV l++[x]
 | [],x=>by simp[aV]
 | a::r,x=>by
  have ih:=ko r x;cases r with
  | nil=>
   by_cases h:a=x
   .subst h;simp[aV]
   .simp[aV,h]
  | cons b r'=>
   have bH:=xO (l:=b::r') (by simp);have hl:(a::b::r').getLast?=(b::r').getLast?:=by simp[List.getLast?_cons_cons]
   rw[List.cons_append,aV,ih,hl];by_cases h:(b::r').getLast?=some x
   .rw[if_pos h,if_pos h]
    conv=>rhs;rw[aV]
   .rw[if_neg h,if_neg h]
    conv=>rhs;rw[aV]
    cases hc:aV (b::r') with
    | nil=>exact absurd hc bH
    | cons y t=>
     simp only[List.cons_append];split<;>rfl
theorem km{l:List Ev}{k:Nat}{x y:Ev}(hx:l[k]?=some x)(hk:1<=k)(hy:l[k-1]?=some y):aV (l.take (k+1))=if x=y then aV (l.take k) else aV (l.take k)++[x]:=by
 rw[aj hx,ko];have hl:(l.take k).getLast?=some y:=by
  have qP:=(Ya.1 hx).1;rw[List.getLast?_eq_getElem?,Yu,Nat.min_eq_left (by omega),tQ,if_pos (by omega)];exact hy
 rw[hl];by_cases e:x=y
 .rw[if_pos e,if_pos (by rw[e])]
 .rw[if_neg e,if_neg (fun h=>e (by cases h;rfl))]
theorem Qw(x y:Ev):((x.send==y.send)&&((x.peer==y.peer)&&((x.label==y.label)&&true)))=decide (x=y):=by
 obtain⟨a,b,c⟩:=x;obtain⟨d,e,f⟩:=y;rw[Bool.eq_iff_iff];simp
end Go.VC
end

section
namespace Go.VC
def FM(bk:Bool)(x:Ed):Int:=if bk then x.t else x.f
def HV(bk:Bool)(x:Ed):Int:=if bk then x.f else x.t
def Adj(es:List Ed)(bk:Bool)(a b:Int):Prop:=∃x∈es,FM bk x=a/\HV bk x=b
inductive gC (es:List Ed) (bk:Bool) (a:Int):Int->Prop where
 | refl:gC es bk a a
 | step {b c:Int}:gC es bk a b->Adj es bk b c->gC es bk a c
def mu(D:List Int)(v:Int):Prop:=0<=v/\∃d,D[v.toNat]?=some d/\0<=d
structure BF (es:List Ed) (bk:Bool) (n:Nat) (s:Int) (D T:List Int):Prop where
 len:D.length=n
 src:mu D s
 r:∀v,mu D v->gC es bk s v
 t:∀t∈T,mu D t
 c:∀v w,mu D v->v∉T->Adj es bk v w->mu D w
 b:∀d∈D,-1<=d/\d+D.count (-1)<=200
theorem jA{D:List Int}{b d v:Int}(Eh:0<=b)(hb:b<D.length)(hd:0<=d):mu (D.set b.toNat d) v ↔ v=b\/mu D v:=by
 unfold mu;constructor
 .rintro⟨h0,e,he,h1⟩;by_cases hvb:v=b
  .exact .inl hvb
  .rw[Yy (by omega)] at he;exact .inr ⟨h0,e,he,h1⟩
 .rintro (rfl | ⟨h0,e,he,h1⟩)
  .exact⟨Eh,d,by rw[Yq (by omega)],hd⟩
  .by_cases hvb:v=b
   .subst hvb;exact⟨Eh,d,by rw[Yq (by omega)],hd⟩
   .exact⟨h0,e,by rw[Yy (by omega)];exact he,h1⟩
theorem BF.push{es:List Ed}{bk:Bool}{n:Nat}{s:Int}{D T:List Int}(h:BF es bk n s D T){a b da db:Int}(ha:mu D a)(SJ:D[a.toNat]?=some da)(Eh:0<=b)(hb:D[b.toNat]?=some db)(agr:db<0)(mA:Adj es bk a b):
  BF es bk n s (D.set b.toNat (da+1)) (T++[b])/\(D.set b.toNat (da+1)).count (-1)+1=D.count (-1)/\0<=da/\da+1<=200:=by
 have yA:=(Ya.1 hb).1;have Ht:=(Ya.1 hb).2;have PD:0<=da:=by
  obtain⟨_,e,he,h1⟩:=ha;rw[SJ] at he;cases he;exact h1
 have hdb:db=-1:=by have:=(h.b db (Yb hb)).1;omega
 subst hdb;have zF:∀v,mu (D.set b.toNat (da+1)) v ↔ v=b\/mu D v:=fun v=>jA Eh (by omega) (by omega);have fB:0<D.count (-1):=List.count_pos_iff.2 (Yb hb);have Lx:(D.set b.toNat (da+1)).count (-1)+1=D.count (-1):=by
  rw[List.count_set yA,Ht];have:((da+1)==(-1:Int))=false:=by simp;omega
  rw[this];simp;omega
 have hub:=(h.b da (Yb SJ)).2;refine⟨⟨by rw[jT];exact h.len,(zF s).2 (.inr h.src),fun v hv=>?_,fun t ht=>?_,fun v w hv hn hvw=>?_,fun d hd=>?_⟩,Lx,PD,by omega⟩
 .rcases (zF v).1 hv with rfl | hv
  .exact (h.r a ha).step mA
  .exact h.r v hv
 .rcases Yk.1 ht with ht | ht
  .exact (zF t).2 (.inr (h.t t ht))
  .rw[Ye] at ht;exact (zF t).2 (.inl ht)
 .rw[Yk,Ye,not_or] at hn;rcases (zF v).1 hv with rfl | hv
  .exact absurd rfl hn.2
  .exact (zF w).2 (.inr (h.c v w hv hn.1 hvw))
 .rcases List.mem_or_eq_of_mem_set hd with hd | rfl
  .have:=h.b d hd;omega
  .omega
theorem BF.start{es:List Ed}{bk:Bool}{n:Nat}{s:Int}(h0:0<=s)(h1:s<n)(hn:n<=200):BF es bk n s ((List.replicate n (-1:Int)).set s.toNat 0) [s]:=by
 have hl:s<(List.replicate n (-1:Int)).length:=by rw[Yg];exact h1
 have hv:∀v,mu ((List.replicate n (-1:Int)).set s.toNat 0) v ↔ v=s:=fun v=>by
  rw[jA h0 hl (by omega)];refine⟨fun h=>h.elim id fun h=>?_,.inl⟩;obtain⟨_,d,hd,h2⟩:=h;have:=List.eq_of_mem_replicate (Yb hd);omega
 have hc:((List.replicate n (-1:Int)).set s.toNat 0).count (-1)<=200:=mn List.count_le_length (by rw[jT,Yg];exact hn);refine⟨by rw[jT,Yg],(hv s).2 rfl,fun v h=>?_,fun t ht=>?_,fun v w h hn=>?_,fun d hd=>?_⟩
 .rw[(hv v).1 h];exact .refl
 .rw[Ye] at ht;exact (hv t).2 ht
 .rw[(hv v).1 h] at hn;exact absurd (Ye.2 rfl) hn
 .rcases List.mem_or_eq_of_mem_set hd with hd | rfl
  .rw[List.eq_of_mem_replicate hd];omega
  .omega
theorem BF.end_{es:List Ed}{bk:Bool}{n:Nat}{s:Int}{D:List Int}(h:BF es bk n s D [])(v:Int):mu D v ↔ gC es bk s v:=by
 refine⟨h.r v,fun hr=>?_⟩
 induction hr with
 | refl=>exact h.src
 | step _ hbc ih=>exact h.c _ _ ih (by simp) hbc
theorem BF.all{es:List Ed}{bk:Bool}{n:Nat}{s:Int}{D:List Int}(h:BF es bk n s D []):(-1:Int)∈D ↔ ¬∀v:Int,0<=v->v<n->gC es bk s v:=by
 constructor
 .intro hm dq;obtain⟨j,hj⟩:=Yf.1 hm;have hl:=(Ya.1 hj).1;obtain⟨_,d,hd,h0⟩:=(h.end_ (j:Int)).2 (dq j (by omega) (by have:=h.len;omega));rw[show ((j:Int)).toNat=j from rfl,hj] at hd;cases hd;omega
 .intro hn;apply Classical.byContradiction;intro hm;apply hn;intro v h0 hv;have hl:v.toNat<D.length:=by have:=h.len;omega
  refine (h.end_ v).1 ⟨h0,D[v.toNat],Yi hl,?_⟩;have h1:=(h.b _ (List.getElem_mem hl)).1;have h2:D[v.toNat] ≠ -1:=fun e=>hm (e ▸ List.getElem_mem hl);omega
end Go.VC
end

section
namespace Go.VC
open Go.Proofs Go.LexS
theorem MR:Pz.underlying 102=some (.slice 3):=by kernel_rfl
theorem M4:(Pz.info? 3).map (·.size)=some 1:=by kernel_rfl
theorem GR(n:Nat):ai Pz 3 n=List.replicate n (.int .i64 0):=by
 have hz:bV Pz 3=[.int .i64 0]:=by kernel_rfl
 unfold ai;rw[hz]
 induction n with
 | zero=>rfl
 | succ n ih=>rw[List.replicate_succ,ox,ih];rfl
theorem F6{xs:List Value}{n:Nat}(hl:xs.length=n)(h:∀j,j<n->xs[j]?=some (.int .i64 (-1))):xs=((List.replicate n (-1:Int)).map aO).flatten:=by
 subst hl
 induction xs with
 | nil=>rfl
 | cons a r ih=>
  have h0:=h 0 (by simp);simp only[List.getElem?_cons_zero,Option.some.injEq] at h0;rw[j8,List.replicate_succ,gG,ox,<-ih fun j hj=>by have:=h (j+1) (by simpa using hj);simpa using this,h0];rfl
theorem MP{n:Int}(h0:0<=n)(h1:n<18446744073709551616):IntKind.wrap .u64 n=n:=by
 simp[IntKind.wrap,IntKind.signed,IntKind.bits];omega
theorem pZ{xs:List Value}{o m:Nat}(hm:o+m<=xs.length)(h:∀j,j<o->xs[j]?=some (.int .i64 (-1))):(aH xs o (List.replicate m (.int .i64 (-1)))).length=xs.length/\∀j,j<o+m->(aH xs o (List.replicate m (.int .i64 (-1))))[j]?=some (.int .i64 (-1)):=by
 unfold aH;refine⟨by simp only[Yh,Yu,List.length_drop,Yg];omega,fun j hj=>?_⟩;by_cases hjo:j<o
 .rw[Yz,jw (by rw[Yu];omega),tQ,if_pos hjo];exact h j hjo
 .rw[jw (by simp only[Yh,Yu,Yg];omega),tR (by rw[Yu];omega),Yu,List.getElem?_replicate,if_pos (by omega)]
theorem Cb{h h1 h2:Heap}{b:Nat}(E:Ext h h1)(B:kr b h1 h2)(hb:h.size<=b):Ext h h2:=⟨by rw[B.1];exact E.1,fun k hk=>(B.2 k (by omega)).trans (E.2 k hk)⟩
theorem F5(n:Int)(h0:0<=n)(h1:n<=200)(b:Nat)(h:Heap)(hb:hc h ⟨b,0,none⟩=some (.int .i64 (-1))):
  Fn Pz 77 #[.slice (some ⟨b,0,none⟩) 1 1,.int .i64 n] h fun v h'=>Ext h h'/\∃s:Sl,v=.slice s.a s.n s.c/\cM h' h.size 3 1 s ((List.replicate n.toNat (-1)).map aO).flatten:=by
 obtain⟨N,rfl⟩:∃N:Nat,n=N:=⟨n.toNat,by omega⟩;have hN:N<=200:=by omega
 have yA:b<h.size:=by
  rcases Nat.lt_or_ge b h.size with bR | Fh
  .exact bR
  .unfold hc at hb;rw[Array.getElem?_eq_none (by simpa using Fh)] at hb;cases hb
 apply aaY ⟨some ⟨b,0,none⟩,1,1⟩;unfold W77;refine⟨fun h'=>h'=h,ja (decide_eq_false (by omega)) rfl,?_⟩;rintro-_ rfl;rw[show IntKind.wrap .u64 (((1:Nat):Int))=((1:Nat):Int) from MP (by omega) (by omega),show IntKind.wrap .u64 (N:Int)=((N:Nat):Int) from MP (by omega) (by omega)];refine (OP 1 N (by omega) (by omega) _).mono ?_;rintro _ h6 ⟨rfl,rfl⟩;rw[show 1*N/18446744073709551616=0 by omega,show 1*N%18446744073709551616=N by omega];refine⟨_,_,rfl,fun h'=>h'=h6,ja rfl (ja (decide_eq_false (by omega)) rfl),?_⟩;rintro-h8 rfl;rw[show IntKind.wrap .i64 ((N:Nat):Int)=N from a7 (by omega) (by omega)];refine⟨⟨by omega,by omega,by omega⟩,?_⟩;rw[Ys,GR];intro h9 hh9;have o9:Own h9 h8.size (List.replicate N (.int .i64 0)) 3:=by rw[hh9];exact Own.push
 have E9:Ext h8 h9:=by rw[hh9];exact Ext.push _ _
 have hb9:hc h9 ⟨b,0,none⟩=some (.int .i64 (-1)):=by rw[E9.hc yA];exact hb
 refine C5 MR M4 o9 (g2:=b) (o2:=0) (l:=List.replicate (min 1 N) (.int .i64 (-1))) (by simp) ?_ (by simp;omega) (fun v hv=>by rw[List.eq_of_mem_replicate hv];rfl) fun iQ B11 o11=>?_
 .intro j c hj;rw[List.getElem?_replicate] at hj;split at hj
  .cases hj;rw[show 0+j=0 by omega];exact hb9
  .cases hj
 obtain⟨e1,e2⟩:=pZ (xs:=List.replicate N (.int .i64 0)) (o:=0) (m:=min 1 N) (by simp;omega) (fun j hj=>by omega);generalize Sq:aH (List.replicate N (Value.int .i64 0)) 0 (List.replicate (min 1 N) (.int .i64 (-1)))=xs at o11 e1 e2;rw[Yg] at e1;have E11:=Cb E9 B11 (bc _);clear Sq B11 o9;rw[Yg];refine⟨fun x h' m=>∃(i:Nat) (xs:List Value),x=i/\i<=N/\(1<=i\/N=0)/\m=N-i/\Own h' h8.size xs 3/\xs.length=N/\(∀j,j<i->xs[j]?=some (.int .i64 (-1)))/\Ext h8 h',
  ⟨_,min 1 N,xs,rfl,by omega,by omega,rfl,o11,e1,fun j hj=>e2 j (by omega),E11⟩,?_⟩
 rintro-x cy m ⟨i,xs,rfl,hi,hi1,rfl,OK,hl,dq,E16⟩;refine aa (fun c=>?_) (fun c=>?_)
 .replace c:=bU c;refine⟨⟨by omega,by omega,by omega⟩,⟨by omega,by omega,by omega⟩,?_⟩;rw[show Int.toNat ((i:Nat):Int)=i from Ys i,show Int.toNat ((N:Nat):Int)=N from Ys N,show Int.toNat 0=0 from rfl,cJ,mI c];refine C5 MR M4 OK (g2:=h8.size) (o2:=0) (l:=List.replicate (min i (N-i)) (.int .i64 (-1))) (by simp) ?_ (by simp;omega) (fun v hv=>by rw[List.eq_of_mem_replicate hv];rfl) fun fN B18 Sc=>?_
  .intro j c hj;rw[List.getElem?_replicate] at hj;split at hj
   .cases hj;rw[OK.hc];exact dq _ (by omega)
   .cases hj
  obtain⟨e3,e4⟩:=pZ (xs:=xs) (o:=0+i*1) (m:=min i (N-i)) (by omega) (fun j hj=>dq j (by omega));rw[Yg];refine⟨N-(i+min i (N-i)),by omega,i+min i (N-i),_,by rw[a7 (by omega) (by omega)];omega,by omega,by omega,rfl,Sc,by rw[e3];exact hl,fun j hj=>e4 j (by omega),Cb E16 B18 (bc _)⟩
 .replace c:=cj c;have Pw:i=N:=by omega
  subst Pw;refine⟨E16,⟨some ⟨h8.size,0,none⟩,i,i⟩,rfl,?_,.inr ⟨h8.size,⟨xs⟩,rfl,bc _,OK,bc _,?_,?_,?_⟩⟩
  .rw[<-F6 hl dq];show xs.length=i*1;omega
  .show i<=9223372036854775807;omega
  .show xs.length=i*1;omega
  .show xs.take (i*1)=_;rw[Yj (by omega)];exact F6 hl dq
end Go.VC
end

section
namespace Go.VC

end Go.VC
end

section
namespace Go.VC
open Go.Proofs Go.LexS Go.Shelf Go.RowKit
attribute [local go_sem] Oper.semAt_some
end Go.VC
end

section

end

section
namespace Go.VC
open Go.Proofs Go.LexS
def ie(l:Nm):Bool:=decide (l.length<=50)&&(pieces l).all isWord
theorem Xq(l:Nm)(h:Heap):Fn Pz 299 #[.string (bs l)] h fun v h'=>v=.bool (!isWord l)/\Ext h h':=by
 apply Tu;unfold YP;refine (jG (bs l) h).mono ?_;rintro _ h3 ⟨rfl,E⟩;exact⟨_,rfl,rfl,E⟩
theorem QO:aJ Pz 299=true:=by kernel_rfl
theorem O7(L:List Nm)(s:Sl)(h:Heap)(hr:RL h 1 s DM L):
  Fn Pz 308 #[.slice s.a s.n s.c,.func (.func 299) #[] #[]] h fun v h'=>(∃k:Int,v=.int .i64 k/\decide (k>=0)=L.any fun x=>!isWord x)/\Ext h h':=by
 apply Tr;unfold YM;have hn:=hr.ln;have hm:=hr.sm;have hs:=St.refl h;refine aL (n:=s.n) hs (fun i=>∀(j:Nat) (y:Nm),j<i->L[j]?=some y->(!isWord y)=false) (fun j y hj=>by omega) ?_;rintro-i h5 hi ⟨hs,hd⟩;refine aa (fun l=>?_) (fun l=>?_)
 .replace l:=bU l;refine (hr.ext hs.ext).rw.aD (by omega) (by omega) fun b o d g t=>?_;replace g:L[i]?=some d:=g;refine⟨_,t.hd,?_⟩;rw[QO,cond_true];refine (Xq d h5).mono ?_;rintro _ iQ ⟨rfl,E⟩;replace hs:=hs.step E;refine⟨_,rfl,aa (fun c=>?_) (fun c=>?_)⟩
  .exact⟨⟨_,rfl,by rw[Im g (p:=fun x=>!isWord x) c];exact decide_eq_true (by omega)⟩,hs.ext⟩
  .exact Up.next l (by omega) ⟨hs,eh (p:=fun x=>!isWord x) g c hd⟩
 .replace l:=cj l;refine⟨⟨_,rfl,?_⟩,hs.ext⟩;rw[Io (p:=fun x=>!isWord x) fun j x hj=>hd j x (by have:=(Ya.1 hj).1;omega) hj];rfl
theorem Rs(L:List Nm)(s:Sl)(h:Heap)(hr:RL h 1 s DM L):
  Fn Pz 297 #[.slice s.a s.n s.c,.func (.func 299) #[] #[]] h fun v h'=>v=.bool (L.any fun x=>!isWord x)/\Ext h h':=by
 apply Tv;unfold YQ;refine (O7 L s h hr).mono ?_;rintro _ h3 ⟨⟨k,rfl,hk⟩,E⟩;exact⟨_,rfl,by rw[hk],E⟩
theorem Mr(L:List Nm):(!(L.any fun x=>!isWord x))=L.all isWord:=by
 induction L with
 | nil=>rfl
 | cons a L ih=>rw[List.any_cons,List.all_cons,<-ih];cases isWord a<;>simp
theorem KE(l:Nm)(h:Heap)(hx:Gm h):Fn Pz 268 #[.string (bs l)] h fun v h'=>v=.bool (ie l)/\Ext h h':=by
 apply TH;unfold Y4;rw[vd];refine aM (fun c=>?_) (fun c=>?_)
 .have hl:l.length<=50:=by omega
  refine (FN l h hx hl).mono ?_;rintro _ h3 ⟨E3,s,rfl,hr⟩;refine⟨_,rfl,?_⟩;refine (Rs _ s h3 hr).mono ?_;rintro _ h6 ⟨rfl,E6⟩;refine⟨_,rfl,?_,E3.trans E6⟩;unfold ie;rw[decide_eq_true hl,Mr];rfl
 .refine⟨?_,(St.refl h).ext⟩;unfold ie;rw[decide_eq_false (by omega)];rfl
def bX(L:List Dc):List oA:=L.flatMap (·.fs)
theorem Rp:cI Pz 166 260 4 40=true:=by kernel_rfl
theorem vg:∀(L:List Dc),(∀d∈L,d.fs.length<=1048576)->(bX L).length<=L.length*1048576
 | [],_=>by simp[bX]
 | d::L,h=>by
  have h1:=vg L fun x hx=>h x (Yn _ hx);have h2:=h d (by simp);unfold bX at *;rw[List.flatMap_cons,Yh,j8,Nat.succ_mul];omega
theorem gQ(L:List Dc)(d:Dc):bX (L++[d])=bX L++d.fs:=by unfold bX;rw[List.flatMap_append,List.flatMap_singleton]
theorem B8(L:List oA):∀r∈L.map oA.cs,r.length=4:=fun r hr=>by obtain⟨x,_,rfl⟩:=Yp.1 hr;rfl
theorem yW{α:Type}{cs:α->List Value}(h:∀x,(cs x).all dR=true)(L:List α):(L.map cs).flatten.all dR=true:=by
 induction L with
 | nil=>rfl
 | cons a L ih=>rw[gG,ox,List.all_append,h a,ih];rfl
theorem Eo(L:List Dc)(s:Sl)(h:Heap)(hL:DL h s L)(sz:L.length<=40):
  Fn Pz 267 #[.slice s.a s.n s.c] h fun v h'=>Ext h h'/\∃r:Sl,v=.slice r.a r.n r.c/\cM h' h.size 260 4 r ((bX L).map oA.cs).flatten:=by
 apply TI;unfold Y5;have hn:=hL.r.ln;have hs:=(St.refl h).bJ 260 4;refine gH (n:=s.n) hs (fun i rows=>rows=(bX (L.take i)).map oA.cs) rfl ?_;rintro-i out h6 rows hi hs q;refine aa (fun l=>?_) (fun l=>?_)
 .replace l:=bU l;refine (hL.ext hs.ext).r.rw.aD (by omega) (by omega) fun b o d g t=>?_;replace g:L[i]?=some d:=g;refine⟨_,_,_,_,_,t,?_⟩;refine hs.ao (vs:=d.cs) rfl rfl fun rP hs=>?_;refine⟨_,hs.rd 0 rfl rfl,?_⟩;have hd:=(hL.i d (Yb g)).pf.ext hs.ext;have hlen:=(hs.len 1 rfl (by omega)).1;have h1:=vg (L.take i) fun x hx=>(hL.i x (List.mem_of_mem_take hx)).pf.sm;have h2:=hd.sm;have h3:=hd.ln;have h4:(L.take i).length*1048576<=40*1048576:=Nat.mul_le_mul_right _ (by rw[Yu];omega);rw[q,Yc] at hlen;refine hs.dY 1 rfl Rp hd.rw (B8 _) hd.nil (yW (fun _=>rfl) _) (by omega) (by simp only[maxLen];omega) fun r fN hr hs=>?_;refine Fu.next l (by omega) ⟨_,hs.drop 1,?_⟩;rw[q,aj g,gQ,Ym]
 .replace l:=cj l;rw[Yj (by omega)] at q;have:=hs.Xl 0 rfl;rw[q] at this;exact⟨hs.ext,out,rfl,this⟩
theorem QR:aJ Pz 270=true:=by kernel_rfl
theorem QQ:aJ Pz 273=true:=by kernel_rfl
theorem YA(a b:Nm):(ByteArray.toList (bs a)==ByteArray.toList (bs b))=decide (a=b):=pW _ _
theorem Xs(d:Dc)(n:Nm)(c:Addr)(h:Heap)(fV:hc h c=some (.string (bs n))):Fn Pz 270 #[.agg ⟨d.cs⟩,.pointer (some c)] h fun v h'=>v=.bool (decide (d.nm=n))/\Ext h h':=by
 apply TF (bs d.nm) d.hf d.first d.hd d.he c;unfold Y2
 have hs:=St.refl h;refine hs.ak fun h6 hs=>?_;refine⟨_,hs.rd 0 rfl rfl,_,ay hs.ext fV,?_⟩;rw[YA];exact⟨rfl,hs.ext⟩
theorem Xr(d:oA)(n:Nm)(c:Addr)(h:Heap)(fV:hc h c=some (.string (bs n))):Fn Pz 273 #[.agg ⟨d.cs⟩,.pointer (some c)] h fun v h'=>v=.bool (decide (d.nm=n))/\Ext h h':=by
 apply TC (bs d.nm) d.k d.lo d.hi c;unfold YX;have hs:=St.refl h;refine hs.ak fun h6 hs=>?_;refine⟨_,hs.rd 0 rfl rfl,_,ay hs.ext fV,?_⟩;rw[YA];exact⟨rfl,hs.ext⟩
theorem PQ(L:List Dc)(n:Nm)(c:Addr)(s:Sl)(h:Heap)(hr:RL h 5 s Dc.cs L)(fV:hc h c=some (.string (bs n))):
  Fn Pz 269 #[.slice s.a s.n s.c,.func (.func 270) #[] #[.pointer (some c)]] h fun v h'=>v=.bool (L.any fun d=>decide (d.nm=n))/\Ext h h':=by
 apply TG;unfold Y3;have key:Fn Pz 300 #[.slice s.a s.n s.c,.func (.func 270) #[] #[.pointer (some c)]] h fun v h'=>(∃k:Int,v=.int .i64 k/\decide (k>=0)=L.any fun d=>decide (d.nm=n))/\Ext h h':=by
  apply Tt;unfold YO;have hn:=hr.ln;have hm:=hr.sm;have hs:=St.refl h;refine aL (n:=s.n) hs (fun i=>∀(j:Nat) (y:Dc),j<i->L[j]?=some y->decide (y.nm=n)=false) (fun j y hj=>by omega) ?_;rintro-i h5 hi ⟨hs,hd⟩;refine aa (fun l=>?_) (fun l=>?_)
  .replace l:=bU l;refine (hr.ext hs.ext).rw.aD (by omega) (by omega) fun b o d g t=>?_;replace g:L[i]?=some d:=g;refine⟨_,_,_,_,_,t,?_⟩;rw[QR,cond_true];refine (Xs d n c h5 (ay hs.ext fV)).mono ?_;rintro _ iQ ⟨rfl,E⟩;replace hs:=hs.step E;refine⟨_,rfl,aa (fun c=>?_) (fun c=>?_)⟩
   .exact⟨⟨_,rfl,by rw[Im g (p:=fun d=>decide (d.nm=n)) c];exact decide_eq_true (by omega)⟩,hs.ext⟩
   .exact Up.next l (by omega) ⟨hs,eh (p:=fun d=>decide (d.nm=n)) g c hd⟩
  .replace l:=cj l;refine⟨⟨_,rfl,?_⟩,hs.ext⟩;rw[Io (p:=fun d:Dc=>decide (d.nm=n)) fun j x hj=>hd j x (by have:=(Ya.1 hj).1;omega) hj];rfl
 refine key.mono ?_;rintro _ h3 ⟨⟨k,rfl,hk⟩,E⟩;exact⟨_,rfl,by rw[hk],E⟩
theorem PO(L:List oA)(n:Nm)(c:Addr)(s:Sl)(h:Heap)(hr:RL h 4 s oA.cs L)(fV:hc h c=some (.string (bs n))):
  Fn Pz 272 #[.slice s.a s.n s.c,.func (.func 273) #[] #[.pointer (some c)]] h fun v h'=>v=.bool (L.any fun d=>decide (d.nm=n))/\Ext h h':=by
 apply TD;unfold YY;have key:Fn Pz 301 #[.slice s.a s.n s.c,.func (.func 273) #[] #[.pointer (some c)]] h fun v h'=>(∃k:Int,v=.int .i64 k/\decide (k>=0)=L.any fun d=>decide (d.nm=n))/\Ext h h':=by
  apply Ts;unfold YN;have hn:=hr.ln;have hm:=hr.sm;have hs:=St.refl h;refine aL (n:=s.n) hs (fun i=>∀(j:Nat) (y:oA),j<i->L[j]?=some y->decide (y.nm=n)=false) (fun j y hj=>by omega) ?_;rintro-i h5 hi ⟨hs,hd⟩;refine aa (fun l=>?_) (fun l=>?_)
  .replace l:=bU l;refine (hr.ext hs.ext).rw.aD (by omega) (by omega) fun b o d g t=>?_;replace g:L[i]?=some d:=g;refine⟨_,_,_,_,t,?_⟩;rw[QQ,cond_true];refine (Xr d n c h5 (ay hs.ext fV)).mono ?_;rintro _ iQ ⟨rfl,E⟩;replace hs:=hs.step E;refine⟨_,rfl,aa (fun c=>?_) (fun c=>?_)⟩
   .exact⟨⟨_,rfl,by rw[Im g (p:=fun d=>decide (d.nm=n)) c];exact decide_eq_true (by omega)⟩,hs.ext⟩
   .exact Up.next l (by omega) ⟨hs,eh (p:=fun d=>decide (d.nm=n)) g c hd⟩
  .replace l:=cj l;refine⟨⟨_,rfl,?_⟩,hs.ext⟩;rw[Io (p:=fun d:oA=>decide (d.nm=n)) fun j x hj=>hd j x (by have:=(Ya.1 hj).1;omega) hj];rfl
 refine key.mono ?_;rintro _ h3 ⟨⟨k,rfl,hk⟩,E⟩;exact⟨_,rfl,by rw[hk],E⟩
def rG(k lo hi:Int):Prop:=k=1 /\ -1000<=lo/\lo<=hi/\hi<=1000\/k=2/\0<=lo/\lo<=hi/\hi<=40
instance (k lo hi:Int):Decidable (rG k lo hi):=by unfold rG;infer_instance
theorem Di(k lo hi:Int)(h:Heap):Fn Pz 271 #[.agg ⟨[.int .i64 k,.int .i64 lo,.int .i64 hi]⟩] h fun v h'=>v=.bool (decide (rG k lo hi))/\Ext h h':=by
 apply TE k lo hi;unfold YZ;have hs:=St.refl h;refine hs.ak fun h4 hs=>?_;have E:=hs.ext;have r0:=hs.rd 0 rfl (i:=0) rfl;have r1:=hs.rd 0 rfl (i:=1) rfl;have r2:=hs.rd 0 rfl (i:=2) rfl;clear hs
 repeat' first
  | refine Exists.intro k (And.intro r0 ?_)
  | refine Exists.intro lo (And.intro r1 ?_)
  | refine Exists.intro hi (And.intro r2 ?_)
  | refine aM (fun _=>?_) (fun _=>?_)
  | refine dp (fun _=>?_) (fun _=>?_)
 all_goals
  refine⟨?_,E⟩;clear r0 r1 r2 E;congr 1;rw[Bool.eq_iff_iff];simp only[decide_eq_true_eq,Bool.false_eq_true,false_iff];unfold rG;omega
def gT(all:List oA)(x:Int):Prop:=0<=x/\∃f,all[x.toNat]?=some f/\f.k=2
structure nH (all:List oA) (ds:List Df) (es:List JD):Prop where
 nd:ds.length<=20
 ne:es.length<=20
 d:∀x∈ds,-1<=min x.x x.y/\max x.x x.y<all.length /\ -20000<=x.c/\x.c<=20000
 e:∀x∈es,gT all x.x/\gT all x.y
noncomputable instance (all:List oA) (ds:List Df) (es:List JD):Decidable (nH all ds es):=Classical.propDecidable _
theorem Ol{x y:Int}{i:Nat}(hi:i<2):List.take 1 (List.drop (Int.toNat (i:Int)*1) ([.int .i64 x,.int .i64 y]:List Value))=[.int .i64 (if i=0 then x else y)]:=by
 rcases i with _ | _ | i
 .rfl
 .rfl
 .omega
theorem zS(all:List oA)(ds:List Df)(es:List JD)(sd se sa:Sl)(h:Heap)(hd:RL h 3 sd Df.cs ds)(he:RL h 2 se JD.cs es)(ha:Rw h 4 sa (all.map oA.cs)):
  Fn Pz 274 #[.agg ⟨[.slice sd.a sd.n sd.c,.slice se.a se.n se.c]⟩,.slice sa.a sa.n sa.c] h fun v h'=>v=.bool (decide (nH all ds es))/\Ext h h':=by
 apply TB sd se sa;unfold YW;have hs:=St.refl h;have D6:=hd.ln;have bH:=he.ln;have Fe:=ha.ln;refine hs.ak fun h3 hs=>?_;refine⟨_,hs.rd 0 rfl rfl,?_⟩;refine aM (fun c1=>?_) (fun c1=>?_)
 .exact⟨dF fun hG=>by have:=hG.nd;omega,hs.ext⟩
 .refine⟨_,hs.rd 0 rfl rfl,?_⟩;refine aM (fun c2=>?_) (fun c2=>?_)
  .exact⟨dF fun hG=>by have:=hG.ne;omega,hs.ext⟩
  .refine⟨_,hs.rd 0 rfl rfl,?_⟩;refine aL (n:=sd.n) hs (fun i=>∀(j:Nat) (x:Df),j<i->ds[j]?=some x -> -1<=min x.x x.y/\max x.x x.y<all.length /\ -20000<=x.c/\x.c<=20000) (fun j x hj=>by omega) ?_;rintro-i7 iQ k7 ⟨hs,q7⟩;refine aa (fun l7=>?_) (fun l7=>?_)
   .have l7:=bU l7;refine (hd.ext hs.ext).rw.aD (by omega) (by omega) fun b12 o13 d12 g12 t12=>?_;replace g12:_[i7]?=some d12:=g12;have hm:=Yb g12;refine⟨_,_,_,t12,?_⟩;refine hs.ao (vs:=d12.cs) rfl rfl fun fN hs=>?_;refine⟨_,hs.rd 0 rfl rfl,?_⟩;refine⟨_,hs.rd 0 rfl rfl,?_⟩;rw[xd];refine aM (fun c3=>?_) (fun c3=>?_)
    .exact⟨dF fun hG=>by have:=hG.d _ hm;omega,hs.ext⟩
    .refine⟨_,hs.rd 0 rfl rfl,?_⟩;refine⟨_,hs.rd 0 rfl rfl,?_⟩;rw[xe];refine aM (fun c4=>?_) (fun c4=>?_)
     .exact⟨dF fun hG=>by have:=hG.d _ hm;omega,hs.ext⟩
     .refine⟨_,hs.rd 0 rfl rfl,?_⟩;refine aM (fun c5=>?_) (fun c5=>?_)
      .exact⟨dF fun hG=>by have:=hG.d _ hm;omega,hs.ext⟩
      .refine⟨_,hs.rd 0 rfl rfl,?_⟩;refine aM (fun c6=>?_) (fun c6=>?_)
       .exact⟨dF fun hG=>by have:=hG.d _ hm;omega,hs.ext⟩
       .refine Up.next l7 (by omega) ⟨hs.drop 1,fun j x hj hx=>?_⟩;by_cases e:j=i7
        .subst e;rw[g12] at hx;cases hx;refine⟨?_,?_,?_,?_⟩<;>omega
        .exact q7 j x (by omega) hx
   .have l7:=cj l7;have Q7:∀x∈ds,-1<=min x.x x.y/\max x.x x.y<all.length /\ -20000<=x.c/\x.c<=20000:=fun x hx=>by
     obtain⟨j,hj⟩:=Yf.1 hx;exact q7 j x (by have:=(Ya.1 hj).1;omega) hj
    clear q7;refine⟨_,hs.rd 0 rfl rfl,?_⟩;refine aL (n:=se.n) hs (fun i=>∀(j:Nat) (x:JD),j<i->es[j]?=some x->gT all x.x/\gT all x.y) (fun j x hj=>by omega) ?_;rintro-i27 fM k27 ⟨hs,q27⟩;refine aa (fun Sj=>?_) (fun Sj=>?_)
    .have Sj:=bU Sj;refine (he.ext hs.ext).rw.aD (by omega) (by omega) fun YD Vw d32 HI t32=>?_;replace HI:_[i27]?=some d32:=HI;have hm:=Yb HI;refine⟨_,_,t32,?_⟩;refine hs.ao (vs:=d32.cs) rfl rfl fun pI hs=>?_;refine⟨_,_,hs.at 0 rfl (n:=2) rfl,?_⟩;refine aL (n:=2) hs (fun i=>∀j,j<i->gT all (if j=0 then d32.x else d32.y)) (fun j hj=>by omega) ?_;rintro-i40 uQ k40 ⟨hs,q40⟩;refine aM (fun c7=>?_) (fun c7=>?_)
     .have l40:i40<2:=by omega
      refine⟨⟨by omega,by omega⟩,_,Ol l40,?_⟩;have hx:nH all ds es->gT all (if i40=0 then d32.x else d32.y):=fun hG=>by
       have:=hG.e _ hm;split
       .exact this.1
       .exact this.2
      generalize kM:(if i40=0 then d32.x else d32.y)=x at *;refine aM (fun c8=>?_) (fun c8=>?_)
      .exact⟨dF fun hG=>by have:=(hx hG).1;omega,hs.ext⟩
      .refine aM (fun c9=>?_) (fun c9=>?_)
       .exact⟨dF fun hG=>by obtain⟨f,hf,_⟩:=(hx hG).2;have:=(Ya.1 hf).1;omega,hs.ext⟩
       .refine (ha.ext hs.ext).aD (by omega) (by omega) fun b46 o47 d46 g46 t46=>?_;refine⟨_,t46.nth 1 rfl,?_⟩;refine fZ (fun Ez=>?_) (fun Ez=>?_)
        .exact⟨dF fun hG=>by obtain⟨f,hf,hk⟩:=(hx hG).2;rw[g46] at hf;cases hf;exact Ez hk,hs.ext⟩
        .refine Up.next l40 (by omega) ⟨hs,fun j hj=>?_⟩;by_cases e:j=i40
         .subst e;rw[kM];exact⟨by omega,d46,g46,Ez⟩
         .exact q40 j (by omega)
     .have h0:=q40 0 (by omega);have h1:=q40 1 (by omega);refine Up.next Sj (by omega) ⟨hs.drop 1,fun j x hj hx=>?_⟩;by_cases e:j=i27
      .subst e;rw[HI] at hx;cases hx;exact⟨h0,h1⟩
      .exact q27 j x (by omega) hx
    .have Sj:=cj Sj;have Q27:∀x∈es,gT all x.x/\gT all x.y:=fun x hx=>by
      obtain⟨j,hj⟩:=Yf.1 hx;exact q27 j x (by have:=(Ya.1 hj).1;omega) hj
     exact⟨dT ⟨by omega,by omega,Q7,Q27⟩,hs.ext⟩
structure JC (fs:List oA) (i:Nat) (f:oA):Prop where
 pw:isWord f.nm=true
 ps:rG f.k f.lo f.hi
 pd:((fs.take i).any fun x=>decide (x.nm=f.nm))=false
structure DcS (L:List Dc) (i:Nat) (d:Dc):Prop where
 pp:ie d.nm=true
 pn:d.fs.length<=4
 pf:d.first=((bX (L.take i)).length:Nat)
 pd:((L.take i).any fun x=>decide (x.nm=d.nm))=false
 Sb:∀k f,d.fs[k]?=some f->JC d.fs k f
 pg:nH (bX L) d.ds d.es
structure oB (L:List Dc):Prop where
 pn:L.length<=40
 pv:(bX L).length<=24
 pd:∀i d,L[i]?=some d->DcS L i d
noncomputable instance (L:List Dc):Decidable (oB L):=Classical.propDecidable _
theorem tP(L:List Dc)(i:Nat):(bX (L.take i)).length<=(bX L).length:=by
 have:bX L=bX (L.take i)++bX (L.drop i):=by unfold bX;rw[<-List.flatMap_append,List.take_append_drop]
 rw[this,Yh];omega
theorem bF{b:Bool}(h:(!b)=true):b=false:=by cases b<;>simp_all
theorem bT{b:Bool}(h:(!b)=false):b=true:=by cases b<;>simp_all
theorem FB(L:List Dc)(s:Sl)(h:Heap)(hL:DL h s L)(hx:Gm h):
  Fn Pz 224 #[.slice s.a s.n s.c] h fun v h'=>v=.bool (decide (oB L))/\Ext h h':=by
 apply TZ;unfold Zl;have hs:=St.refl h;have hn:=hL.r.ln;have hsm:=hL.r.sm;refine aM (fun c1=>?_) (fun c1=>?_)
 .exact⟨dF fun hG=>by have:=hG.pn;omega,hs.ext⟩
 .refine (Eo L s h hL (by omega)).mono ?_;rintro _ h3 ⟨E3,x2,rfl,dq⟩;replace hs:=hs.LP E3 dq (B8 _);have hxn:x2.n=(bX L).length:=(hs.rows 0 rfl (by omega)).ln;refine⟨_,rfl,?_⟩;refine aM (fun c2=>?_) (fun c2=>?_)
  .exact⟨dF fun hG=>by have:=hG.pv;omega,hs.ext⟩
  .refine⟨fun aeN x_8 h' m=>∃i:Nat,x_8=i/\m=s.n-i/\i<=s.n/\St h h' [.sl x2 260 4 ((bX L).map oA.cs)]/\(aeN=((bX (L.take i)).length:Nat))/\∀j d,j<i->L[j]?=some d->DcS L j d,⟨_,0,rfl,rfl,by omega,hs,rfl,fun j d hj=>by omega⟩,?_⟩;rintro-_ _ h9 m ⟨i,rfl,rfl,hi,hs,rfl,q⟩;refine aM (fun c3=>?_) (fun c3=>?_)
   .have l3:i<s.n:=by omega
    refine (hL.ext hs.ext).r.rw.aD (by omega) (by omega) fun b10 o11 d10 g10 t10=>?_;replace g10:_[i]?=some d10:=g10;have hle:=tP L i;have hd:=hL.i d10 (Yb g10);refine⟨_,_,_,_,_,t10,?_⟩;refine hs.ao (vs:=d10.cs) rfl rfl fun fN hs=>?_;refine⟨_,hs.rd 0 rfl rfl,?_⟩;refine (KE d10.nm fN (hx.ext hs.ext)).mono ?_;rintro _ dX ⟨rfl,Eh22⟩;replace hs:=hs.step Eh22;refine⟨_,rfl,?_⟩;refine aa (fun c4=>?_) (fun c4=>?_)
    .exact⟨dF fun hG=>(by have:=(hG.pd i _ g10).pp;rw[bF c4] at this;cases this),hs.ext⟩
    .refine⟨_,hs.rd 0 rfl rfl,?_⟩;have fJ:=hd.pf.ln;refine aM (fun c5=>?_) (fun c5=>?_)
     .exact⟨dF fun hG=>by have:=(hG.pd i _ g10).pn;omega,hs.ext⟩
     .refine⟨_,hs.rd 0 rfl rfl,?_⟩;refine fZ (fun c6=>?_) (fun c6=>?_)
      .exact⟨dF fun hG=>c6 (hG.pd i _ g10).pf,hs.ext⟩
      .have xq:=hL.r.cap;refine⟨by omega,?_⟩;refine (PQ (L.take i) d10.nm _ _ dX ((hL.r.ext hs.ext).take (by omega)) (hs.rd 0 rfl rfl)).mono ?_;rintro _ zO ⟨rfl,Eh27⟩;replace hs:=hs.step Eh27;refine⟨_,rfl,?_⟩;refine aa (fun c7=>?_) (fun c7=>?_)
       .exact⟨dF fun hG=>(by have:=(hG.pd i _ g10).pd;rw[c7] at this;cases this),hs.ext⟩
       .refine⟨_,hs.rd 0 rfl rfl,?_⟩;refine⟨_,hs.rd 0 rfl rfl,?_⟩;refine aL (n:=d10.hf.n) hs (fun k=>∀(j:Nat) (f:oA),j<k->d10.fs[j]?=some f->JC d10.fs j f) (fun j x hj=>by omega) ?_;rintro-i30 oe k30 ⟨hs,q30⟩;refine aa (fun Si=>?_) (fun Si=>?_)
        .have Si:=bU Si;refine (hd.pf.ext hs.ext).rw.aD (by omega) (by omega) fun YC Vv d35 SZ t35=>?_;replace SZ:_[i30]?=some d35:=SZ;refine⟨_,_,_,_,t35,?_⟩;refine hs.ao (vs:=d35.cs) rfl rfl fun B5 hs=>?_;refine⟨_,hs.rd 0 rfl rfl,?_⟩;refine (jG (bs d35.nm) B5).mono ?_;rintro _ od ⟨rfl,Eh46⟩;replace hs:=hs.step Eh46;refine⟨_,rfl,?_⟩;rw[df];refine aa (fun c8=>?_) (fun c8=>?_)
         .exact⟨dF fun hG=>(by have:=((hG.pd i _ g10).Sb _ _ SZ).pw;rw[bF c8] at this;cases this),hs.ext⟩
         .refine⟨_,_,_,hs.at 0 rfl (n:=3) rfl,?_⟩;refine (Di d35.k d35.lo d35.hi od).mono ?_;rintro _ zM ⟨rfl,Eh52⟩;replace hs:=hs.step Eh52;refine⟨_,rfl,?_⟩;refine aa (fun c9=>?_) (fun c9=>?_)
          .exact⟨dF fun hG=>eU (bF c9) ((hG.pd i _ g10).Sb _ _ SZ).ps,hs.ext⟩
          .refine⟨_,hs.rd 1 rfl rfl,?_⟩;have xq:=hd.pf.cap;refine⟨⟨by omega,by omega,by omega⟩,?_⟩;refine (PO (d10.fs.take i30) d35.nm _ _ zM ((hd.pf.ext hs.ext).take (by omega)) (hs.rd 0 rfl rfl)).mono ?_;rintro _ kO ⟨rfl,Eh56⟩;replace hs:=hs.step Eh56;refine⟨_,rfl,?_⟩;refine aa (fun Ez=>?_) (fun Ez=>?_)
           .exact⟨dF fun hG=>(by have:=((hG.pd i _ g10).Sb _ _ SZ).pd;rw[Ez] at this;cases this),hs.ext⟩
           .refine Up.next Si (by omega) ⟨hs.drop 1,fun j f hj hf=>?_⟩;by_cases e:j=i30
            .subst e;rw[SZ] at hf;cases hf;exact⟨bT c8,cd (bT c9),Ez⟩
            .exact q30 j f (by omega) hf
        .have Si:=cj Si;have Q30:∀k f,d10.fs[k]?=some f->JC d10.fs k f:=fun k f hf=>q30 k f (by have:=(Ya.1 hf).1;omega) hf;refine⟨_,_,hs.at 0 rfl (n:=2) rfl,?_⟩;refine (zS (bX L) d10.ds d10.es d10.hd d10.he x2 oe (hd.pd.ext hs.ext) (hd.pe.ext hs.ext) (hs.rows 1 rfl (by omega))).mono ?_;rintro _ SQ ⟨rfl,Eh62⟩;replace hs:=hs.step Eh62;refine⟨_,rfl,?_⟩;refine aa (fun X9=>?_) (fun X9=>?_)
         .exact⟨dF fun hG=>eU (bF X9) (hG.pd i _ g10).pg,hs.ext⟩
         .refine⟨_,by omega,i+1,?_,rfl,by omega,hs.drop 1,?_,fun j d hj Hr=>?_⟩
          .rw[a7 (by omega) (by omega)];omega
          .rw[aj g10,gQ,Yh,a7 (by omega) (by omega)];omega
          .by_cases e:j=i
           .subst e;rw[g10] at Hr;cases Hr;exact⟨bT c4,by omega,c6,c7,Q30,cd (bT X9)⟩
           .exact q j d (by omega) Hr
   .exact⟨dT ⟨by omega,by omega,fun i' d hd=>q i' d (by have:=(Ya.1 hd).1;omega) hd⟩,hs.ext⟩
theorem Af:cI Pz 167 263 3 24=true:=by kernel_rfl
theorem QA(L:List Df):∀r∈L.map Df.cs,r.length=3:=fun r hr=>by obtain⟨x,_,rfl⟩:=Yp.1 hr;rfl
theorem EA(d:Dc)(h:Heap)(hd:DI h d)(h4:d.fs.length<=4)(h5:d.ds.length<=20)(h6:d.es.length<=20):
  Fn Pz 225 #[.agg ⟨d.cs⟩] h fun v h'=>Ext h h'/\∃s:Sl,v=.slice s.a s.n s.c:=by
 apply TY (bs d.nm) d.hf d.first d.hd d.he;unfold Zk
 have hs:=St.refl h;have n1:=hd.pf.ln;have n2:=hd.pd.ln;have n3:=hd.pe.ln;refine hs.ak fun h6 hs=>?_;refine⟨_,hs.rd 0 rfl rfl,?_⟩;refine gH (n:=d.hf.n) (hs.bJ 263 3) (fun i rows=>rows.length=2*i) rfl ?_;rintro-i out_11 Fl rows hi hs q;refine aa (fun l=>?_) (fun l=>?_)
 .replace l:=bU l;refine (hd.pf.ext hs.ext).rw.aD (by omega) (by omega) fun b14 o15 d14 g14 t14=>?_;refine⟨_,_,_,_,t14,?_⟩;refine hs.ao (vs:=d14.cs) rfl rfl fun iP hs=>?_;refine⟨_,hs.rd 2 rfl rfl,?_⟩;refine⟨_,hs.rd 0 rfl rfl,?_⟩;refine⟨_,hs.rd 2 rfl rfl,?_⟩;refine⟨_,hs.rd 0 rfl rfl,?_⟩;have hl:=(hs.len 1 rfl (by omega)).1;refine hs.app 1 rfl Af (m:=2) [[_,_,_],[_,_,_]] rfl rfl (by simp) rfl (by omega) (by simp only[maxLen];omega) fun s27 JW agi hs=>?_;exact Fu.next l (by omega) ⟨_,hs.drop 1,by rw[Yh,q];rfl⟩
 .replace l:=cj l;refine⟨_,hs.rd 1 rfl rfl,?_⟩;have hl:=(hs.len 0 rfl (by omega)).1;refine hs.dY 0 rfl Af (hd.pd.ext hs.ext).rw (QA _) hd.pd.nil (yW (fun _=>rfl) _) (by omega) (by simp only[maxLen];omega) fun s31 W9 agh hs=>?_;refine⟨_,hs.rd 1 rfl rfl,?_⟩;refine gH (n:=d.he.n) hs (fun i rows=>rows.length<=28+2*i) (by rw[Yh,Yc];omega) ?_;rintro-i out_37 B6 rows hi hs q;refine aa (fun l=>?_) (fun l=>?_)
  .replace l:=bU l;refine (hd.pe.ext hs.ext).rw.aD (by omega) (by omega) fun b40 o41 d40 g40 t40=>?_;refine⟨_,_,t40,?_⟩;refine hs.ao (vs:=d40.cs) rfl rfl fun kP hs=>?_;refine⟨by omega,_,hs.rd 0 rfl (i:=0) rfl,by omega,_,hs.rd 0 rfl (i:=1) rfl,by omega,_,hs.rd 0 rfl (i:=1) rfl,by omega,_,hs.rd 0 rfl (i:=0) rfl,?_⟩;have hl:=(hs.len 1 rfl (by omega)).1;refine hs.app 1 rfl Af (m:=2) [[_,_,_],[_,_,_]] rfl rfl (by simp) rfl (by omega) (by simp only[maxLen];omega) fun s51 zM agf hs=>?_;exact Fu.next l (by omega) ⟨_,hs.drop 1,by rw[Yh];show _+2<=_;omega⟩
  .exact⟨hs.ext,out_37,rfl⟩
theorem EB(L:List Dc)(s:Sl)(h:Heap)(hL:DL h s L)(hx:Gm h)(bH:L≠[]):
  Fn Pz 162 #[.slice s.a s.n s.c,.int .i64 0] h fun v h'=>Ext h h'/\∃s:Sl,v=.tuple ⟨[.slice s.a s.n s.c,.int .i64 (if oB L then 0 else 1)]⟩:=by
 apply UA;unfold ZT;have hn:=hL.r.ln;have fB:0<L.length:=List.length_pos_iff.2 bH;have hs:=St.refl h;refine aM (fun c1=>by omega) (fun c1=>?_);refine aM (fun c2=>by omega) (fun c2=>?_);refine (FB L s h hL hx).mono ?_;rintro _ h3 ⟨rfl,Eh3⟩;replace hs:=hs.step Eh3;refine⟨_,rfl,?_⟩;refine aa (fun c3=>?_) (fun c3=>?_)
 .rw[if_neg (eU (bF c3))];exact⟨hs.ext,⟨none,0,0⟩,rfl⟩
 .have hD:=cd (bT c3);rw[if_pos hD];refine (hL.ext hs.ext).r.rw.aD (by omega) (by omega) fun b4 o5 d4 g4 t4=>?_;refine⟨_,_,_,_,_,t4,?_⟩;have hd:=hD.pd _ _ g4;refine (EA d4 h3 ((hL.i d4 (Yb g4)).ext hs.ext) hd.pn hd.pg.nd hd.pg.ne).mono ?_;rintro _ Fl ⟨Eh13,r,rfl⟩;exact⟨_,rfl,(hs.step Eh13).ext,r,rfl⟩
theorem zZ(L:List Dc)(s:Sl)(h:Heap)(hL:DL h s L)(hx:Gm h):Fn Pz 90 #[.slice s.a s.n s.c] h fun v h'=>v=.bool (decide (oB L))/\Ext h h':=by
 apply aaT;unfold W90;have hn:=hL.r.ln;refine dp (fun c1=>?_) (fun c1=>?_)
 .have:L=[]:=List.length_eq_zero_iff.1 (by omega);subst this;exact⟨dT ⟨by simp,by simp[bX],fun i d hd=>by simp at hd⟩,(St.refl h).ext⟩
 .refine (EB L s h hL hx (fun e=>by subst e;simp at hn;omega)).mono ?_;rintro _ h4 ⟨E,r,rfl⟩;refine⟨_,_,rfl,?_,E⟩;by_cases hD:oB L
  .rw[if_pos hD,decide_eq_true hD];rfl
  .rw[if_neg hD,decide_eq_false hD];rfl
structure vr (g:Gl):Prop where
 w:isWord g.nm=true
 n1:1<=g.rs.length
 n6:g.rs.length<=6
 r:∀i s,g.rs[i]?=some s->isWord s=true/\s∉g.rs.take i
noncomputable instance (g:Gl):Decidable (vr g):=Classical.propDecidable _
theorem KN(g:Gl)(h:Heap)(hg:GI h g):Fn Pz 88 #[g.v] h fun v h'=>v=.bool (decide (vr g))/\Ext h h':=by
 apply aaV (bs g.nm) g.hr g.hd g.n g.s g.e g.he g.ht;unfold W88;have hs:=St.refl h;have hn:=hg.r.ln;have xq:=hg.r.cap;refine hs.ak fun h9 hs=>?_;refine⟨_,hs.rd 0 rfl rfl,?_⟩;refine (jG _ _).mono ?_;rintro _ Fl ⟨rfl,Eh13⟩;replace hs:=hs.step Eh13;refine⟨_,rfl,?_⟩;refine aa (fun c1=>?_) (fun c1=>?_)
 .skip
  exact⟨dF fun hG=>(by have:=hG.w;rw[show isWord g.nm=false from bF c1] at this;cases this),hs.ext⟩
 .skip
  refine⟨_,hs.rd 0 rfl rfl,?_⟩;refine aM (fun c2=>?_) (fun c2=>?_)
  .skip
   exact⟨dF fun hG=>(by have:=hG.n1;omega),hs.ext⟩
  .skip
   refine⟨_,hs.rd 0 rfl rfl,?_⟩;refine aM (fun c3=>?_) (fun c3=>?_)
   .skip
    exact⟨dF fun hG=>(by have:=hG.n6;omega),hs.ext⟩
   .skip
    refine⟨_,hs.rd 0 rfl rfl,?_⟩;refine aL (n:=g.hr.n) hs (fun i17=>∀(j:Nat) (s:Nm),j<i17->g.rs[j]?=some s->isWord s=true/\s∉g.rs.take j) (fun j s hj=>by omega) ?_;rintro-i17 iP k17 ⟨hs,q17⟩;refine aa (fun Sn=>?_) (fun Sn=>?_)
    .have Sn:=bU Sn;refine ((hg.r.ext hs.ext).rw).aD (by omega) (by omega) fun b22 o23 d22 g22 t22=>?_;replace g22:_[i17]?=some d22:=g22;refine⟨_,t22.hd,?_⟩;refine (jG _ _).mono ?_;rintro _ zO ⟨rfl,Eh27⟩;replace hs:=hs.step Eh27;refine⟨_,rfl,?_⟩;refine aa (fun c4=>?_) (fun c4=>?_)
     .skip
      exact⟨dF fun hG=>(by have:=(hG.r _ _ g22).1;rw[show isWord d22=false from bF c4] at this;cases this),hs.ext⟩
     .skip
      refine⟨_,hs.rd 0 rfl rfl,?_⟩;refine⟨by omega,?_⟩;refine (Hx (g.rs.take i17) (bs d22) ⟨aQ g.hr.a (Int.toNat 0) g.hr.c 1,Int.toNat (i17:Int)-Int.toNat 0,g.hr.c-Int.toNat 0⟩ _ ((hg.r.ext hs.ext).take (by omega))).mono ?_;rintro _ fM ⟨rfl,rfl⟩;refine⟨_,rfl,?_⟩;refine aa (fun c5=>?_) (fun c5=>?_)
      .skip
       exact⟨dF fun hG=>(hG.r _ _ g22).2 (cd c5),hs.ext⟩
      .skip
       exact Up.next Sn (by omega) ⟨hs,fun j s hj hx=>by by_cases e:j=i17;(subst e;rw[g22] at hx;cases hx;exact⟨bT c4,eU c5⟩);exact q17 j s (by omega) hx⟩
    .have Sn:=cj Sn;exact⟨dT ⟨bT c1,by omega,by omega,fun j s hx=>q17 j s (by have:=(Ya.1 hx).1;omega) hx⟩,hs.ext⟩
def gU(g:Gl)(x:Ed):Prop:=0<=x.f/\0<=x.t/\0<=x.a/\0<=x.b/\0<=x.l/\x.f<g.n/\x.t<g.n/\x.a<g.rs.length/\x.b<g.rs.length/\x.a≠x.b/\x.l<g.ds.length
structure yi (g:Gl):Prop where
 n:1<=g.n/\g.n<=200/\0<=g.s/\0<=g.e/\g.s<g.n/\g.e<g.n
 m:g.es.length<=400
 e:∀x∈g.es,gU g x
noncomputable instance (g:Gl):Decidable (yi g):=Classical.propDecidable _
theorem yZ(g:Gl)(h:Heap)(hg:GI h g):Fn Pz 89 #[g.v] h fun v h'=>v=.bool (decide (yi g))/\Ext h h':=by
 apply aaU (bs g.nm) g.hr g.hd g.n g.s g.e g.he g.ht;unfold W89;have hs:=St.refl h;have hn:=hg.e.ln;have hnr:=hg.r.ln;have D6:=hg.d.r.ln;simp only[xd,xe];refine hs.ak fun h9 hs=>?_;refine⟨_,hs.rd 0 rfl rfl,?_⟩;refine aM (fun c1=>?_) (fun c1=>?_);rotate_left;refine⟨_,hs.rd 0 rfl rfl,?_⟩;refine aM (fun c2=>?_) (fun c2=>?_);rotate_left;refine⟨_,hs.rd 0 rfl rfl,?_⟩;refine⟨_,hs.rd 0 rfl rfl,?_⟩;refine aM (fun c3=>?_) (fun c3=>?_);rotate_left;refine⟨_,hs.rd 0 rfl rfl,?_⟩;refine⟨_,hs.rd 0 rfl rfl,?_⟩;refine⟨_,hs.rd 0 rfl rfl,?_⟩;refine aM (fun c4=>?_) (fun c4=>?_);rotate_left;refine⟨_,hs.rd 0 rfl rfl,?_⟩;refine aM (fun c5=>?_) (fun c5=>?_);rotate_left;refine⟨_,hs.rd 0 rfl rfl,?_⟩;refine aL (n:=g.he.n) hs (fun i19=>∀(j:Nat) (x:Ed),j<i19->g.es[j]?=some x->gU g x) (fun j s hj=>by omega) ?_;rintro-i19 uT k19 ⟨hs,q19⟩;refine aa (fun Sk=>?_) (fun Sk=>?_);have Sk:=bU Sk;refine ((hg.e.ext hs.ext).rw).aD (by omega) (by omega) fun b24 o25 d24 g24 t24=>?_;replace g24:_[i19]?=some d24:=g24;refine⟨_,_,_,_,_,_,t24,?_⟩;refine hs.ao rfl rfl fun NQ hs=>?_;refine⟨_,_,_,hs.at 0 rfl (n:=3) rfl,?_⟩;refine hs.ao rfl rfl fun tB hs=>?_;refine⟨_,hs.rd 1 rfl rfl,?_⟩;refine⟨_,hs.rd 1 rfl rfl,?_⟩;refine⟨_,hs.rd 0 rfl rfl,?_⟩;refine⟨_,hs.rd 0 rfl rfl,?_⟩;refine⟨_,hs.rd 0 rfl rfl,?_⟩;refine aM (fun c6=>?_) (fun c6=>?_);rotate_left;refine⟨_,hs.rd 1 rfl rfl,?_⟩;refine⟨_,hs.rd 1 rfl rfl,?_⟩;refine⟨_,hs.rd 2 rfl rfl,?_⟩;refine aM (fun c7=>?_) (fun c7=>?_);rotate_left;refine⟨_,hs.rd 0 rfl rfl,?_⟩;refine⟨_,hs.rd 0 rfl rfl,?_⟩;refine⟨_,hs.rd 2 rfl rfl,?_⟩;refine aM (fun c8=>?_) (fun c8=>?_);rotate_left;refine⟨_,hs.rd 0 rfl rfl,?_⟩;refine⟨_,hs.rd 0 rfl rfl,?_⟩;refine dp (fun c9=>?_) (fun c9=>?_);rotate_left;refine⟨_,hs.rd 0 rfl rfl,?_⟩;refine⟨_,hs.rd 2 rfl rfl,?_⟩;refine aM (fun Ez=>?_) (fun Ez=>?_);rotate_left;exact Up.next Sk (by omega) ⟨hs.drop 2,fun j x hj hx=>by by_cases e:j=i19;(subst e;rw[g24] at hx;cases hx;unfold gU;omega);exact q19 j x (by omega) hx⟩;have Sk:=cj Sk;exact⟨dT ⟨by omega,by omega,fun x hx=>by obtain⟨j,hj⟩:=Yf.1 hx;exact q19 j x (by have:=(Ya.1 hj).1;omega) hj⟩,hs.ext⟩;all_goals first | exact⟨dF fun hG=>(by have:=hG.n;have:=hG.m;first | omega | (have:=hG.e _ (Yb g24);unfold gU at this;omega)),hs.ext⟩
def cz(i k:Nat)(x y:Ed):Prop:=(i≠k/\x.f=y.f/\((x.a=y.a/\x.b=y.b/\x.l=y.l)\/x.a≠y.a\/x.ag=true))\/(x.ag=true/\y.t=x.f/\(x.a≠y.a\/x.l≠y.l))
structure R3 (g:Gl):Prop where
 e:∀x∈g.es,x.f≠g.e
 s:∀x∈g.es,x.ag=true->x.f≠g.s
 p:∀i x,g.es[i]?=some x->∀k y,g.es[k]?=some y->¬cz i k x y
noncomputable instance (g:Gl):Decidable (R3 g):=Classical.propDecidable _
theorem Dv(g:Gl)(h:Heap)(hg:GI h g):Fn Pz 91 #[g.v] h fun v h'=>v=.bool (decide (R3 g))/\Ext h h':=by
 apply aaS (bs g.nm) g.hr g.hd g.n g.s g.e g.he g.ht;unfold W91 RJ Mw;have hs:=St.refl h;have hn:=hg.e.ln;have hsm:=hg.e.sm;refine hs.ak fun h9 hs=>?_;refine⟨_,hs.rd 0 rfl rfl,?_⟩;refine aL (n:=g.he.n) hs (fun i11=>∀(j:Nat) (x:Ed),j<i11->g.es[j]?=some x->x.f≠g.e/\(x.ag=true->x.f≠g.s)/\∀k y,g.es[k]?=some y->¬cz j k x y) (fun j s hj=>by omega) ?_;rintro-i11 rP k11 ⟨hs,q11⟩;refine aa (fun O2=>?_) (fun O2=>?_);have O2:=bU O2;refine ((hg.e.ext hs.ext).rw).aD (by omega) (by omega) fun b16 o17 d16 g16 t16=>?_;replace g16:_[i11]?=some d16:=g16;refine⟨_,_,_,_,_,_,t16,?_⟩;refine hs.ao rfl rfl fun h25 hs=>?_;refine⟨_,hs.rd 0 rfl rfl,?_⟩;refine⟨_,hs.rd 1 rfl rfl,?_⟩;refine dp (fun c1=>?_) (fun c1=>?_);rotate_left;refine⟨_,hs.rd 0 rfl rfl,?_⟩;refine aa (fun c2=>?_) (fun c2=>?_);refine⟨_,hs.rd 0 rfl rfl,?_⟩;refine⟨_,hs.rd 1 rfl rfl,?_⟩;refine dp (fun c3=>?_) (fun c3=>?_);rotate_left;refine⟨_,hs.rd 1 rfl rfl,?_⟩;refine aL (n:=g.he.n) hs (fun i32=>∀(k:Nat) (y:Ed),k<i32->g.es[k]?=some y->¬cz i11 k d16 y) (fun j s hj=>by omega) ?_;rintro-i32 gn k32 ⟨hs,q32⟩;refine aa (fun Sh=>?_) (fun Sh=>?_);have Sh:=bU Sh;refine ((hg.e.ext hs.ext).rw).aD (by omega) (by omega) fun b37 o38 d37 g37 t37=>?_;replace g37:_[i32]?=some d37:=g37;refine⟨_,_,_,_,_,_,t37,?_⟩;refine hs.ao rfl rfl fun od hs=>?_;refine fZ (fun c4=>?_) (fun c4=>?_);refine⟨_,hs.rd 1 rfl rfl,?_⟩;refine⟨_,hs.rd 0 rfl rfl,?_⟩;refine dp (fun c5=>?_) (fun c5=>?_);refine⟨_,_,_,hs.at 1 rfl (n:=3) rfl,?_⟩;refine⟨_,_,_,hs.at 0 rfl (n:=3) rfl,?_⟩;refine aa (fun c6=>?_) (fun c6=>?_);rotate_left;refine⟨_,hs.rd 1 rfl rfl,?_⟩;refine⟨_,hs.rd 0 rfl rfl,?_⟩;refine fZ (fun c7=>?_) (fun c7=>?_);rotate_left;refine⟨_,hs.rd 1 rfl rfl,?_⟩;refine aa (fun c8=>?_) (fun c8=>?_);rotate_left;refine⟨_,hs.rd 1 rfl rfl,?_⟩;refine aa (fun c9=>?_) (fun c9=>?_);refine⟨_,hs.rd 0 rfl rfl,?_⟩;refine⟨_,hs.rd 1 rfl rfl,?_⟩;refine dp (fun Ez=>?_) (fun Ez=>?_);refine⟨_,hs.rd 1 rfl rfl,?_⟩;refine⟨_,hs.rd 0 rfl rfl,?_⟩;refine fZ (fun X9=>?_) (fun X9=>?_);rotate_left;refine⟨_,hs.rd 1 rfl rfl,?_⟩;refine⟨_,hs.rd 0 rfl rfl,?_⟩;refine fZ (fun c12=>?_) (fun c12=>?_);rotate_left;rotate_left;rotate_left;rotate_left;refine⟨_,hs.rd 1 rfl rfl,?_⟩;refine aa (fun c13=>?_) (fun c13=>?_);refine⟨_,hs.rd 0 rfl rfl,?_⟩;refine⟨_,hs.rd 1 rfl rfl,?_⟩;refine dp (fun c14=>?_) (fun c14=>?_);refine⟨_,hs.rd 1 rfl rfl,?_⟩;refine⟨_,hs.rd 0 rfl rfl,?_⟩;refine fZ (fun c15=>?_) (fun c15=>?_);rotate_left;refine⟨_,hs.rd 1 rfl rfl,?_⟩;refine⟨_,hs.rd 0 rfl rfl,?_⟩;refine fZ (fun c16=>?_) (fun c16=>?_);rotate_left;rotate_left;rotate_left;rotate_left;refine⟨_,hs.rd 1 rfl rfl,?_⟩;refine aa (fun c17=>?_) (fun c17=>?_);refine⟨_,hs.rd 0 rfl rfl,?_⟩;refine⟨_,hs.rd 1 rfl rfl,?_⟩;refine dp (fun c18=>?_) (fun c18=>?_);refine⟨_,hs.rd 1 rfl rfl,?_⟩;refine⟨_,hs.rd 0 rfl rfl,?_⟩;refine fZ (fun c19=>?_) (fun c19=>?_);rotate_left;refine⟨_,hs.rd 1 rfl rfl,?_⟩;refine⟨_,hs.rd 0 rfl rfl,?_⟩;refine fZ (fun c20=>?_) (fun c20=>?_);rotate_left;rotate_left;rotate_left;rotate_left;have Sh:=cj Sh;exact Up.next O2 (by omega) ⟨hs.drop 1,fun j x hj hx=>by by_cases e:j=i11;(subst e;rw[g16] at hx;cases hx;exact⟨c1,by first | exact fun _=>c3 | exact fun hc=>(by rw[c2] at hc;cases hc),by first | exact fun k y hk=>q32 k y (by have:=(Ya.1 hk).1;omega) hk | exact fun k y hk=>q90 k y (by have:=(Ya.1 hk).1;omega) hk⟩);exact q11 j x (by omega) hx⟩;refine⟨_,hs.rd 1 rfl rfl,?_⟩;refine aL (n:=g.he.n) hs (fun i90=>∀(k:Nat) (y:Ed),k<i90->g.es[k]?=some y->¬cz i11 k d16 y) (fun j s hj=>by omega) ?_;rintro-i90 h94 k90 ⟨hs,q90⟩;refine aa (fun Sf=>?_) (fun Sf=>?_);have Sf:=bU Sf;refine ((hg.e.ext hs.ext).rw).aD (by omega) (by omega) fun b95 o96 d95 g95 t95=>?_;replace g95:_[i90]?=some d95:=g95;refine⟨_,_,_,_,_,_,t95,?_⟩;refine hs.ao rfl rfl fun aef hs=>?_;refine fZ (fun c21=>?_) (fun c21=>?_);refine⟨_,hs.rd 1 rfl rfl,?_⟩;refine⟨_,hs.rd 0 rfl rfl,?_⟩;refine dp (fun c22=>?_) (fun c22=>?_);refine⟨_,_,_,hs.at 1 rfl (n:=3) rfl,?_⟩;refine⟨_,_,_,hs.at 0 rfl (n:=3) rfl,?_⟩;refine aa (fun c23=>?_) (fun c23=>?_);rotate_left;refine⟨_,hs.rd 1 rfl rfl,?_⟩;refine⟨_,hs.rd 0 rfl rfl,?_⟩;refine fZ (fun c24=>?_) (fun c24=>?_);rotate_left;refine⟨_,hs.rd 1 rfl rfl,?_⟩;refine aa (fun c25=>?_) (fun c25=>?_);rotate_left;refine⟨_,hs.rd 1 rfl rfl,?_⟩;refine aa (fun c26=>?_) (fun c26=>?_);refine⟨_,hs.rd 0 rfl rfl,?_⟩;refine⟨_,hs.rd 1 rfl rfl,?_⟩;refine dp (fun c27=>?_) (fun c27=>?_);refine⟨_,hs.rd 1 rfl rfl,?_⟩;refine⟨_,hs.rd 0 rfl rfl,?_⟩;refine fZ (fun c28=>?_) (fun c28=>?_);rotate_left;refine⟨_,hs.rd 1 rfl rfl,?_⟩;refine⟨_,hs.rd 0 rfl rfl,?_⟩;refine fZ (fun c29=>?_) (fun c29=>?_);rotate_left;rotate_left;rotate_left;rotate_left;refine⟨_,hs.rd 1 rfl rfl,?_⟩;refine aa (fun c30=>?_) (fun c30=>?_);refine⟨_,hs.rd 0 rfl rfl,?_⟩;refine⟨_,hs.rd 1 rfl rfl,?_⟩;refine dp (fun c31=>?_) (fun c31=>?_);refine⟨_,hs.rd 1 rfl rfl,?_⟩;refine⟨_,hs.rd 0 rfl rfl,?_⟩;refine fZ (fun c32=>?_) (fun c32=>?_);rotate_left;refine⟨_,hs.rd 1 rfl rfl,?_⟩;refine⟨_,hs.rd 0 rfl rfl,?_⟩;refine fZ (fun c33=>?_) (fun c33=>?_);rotate_left;rotate_left;rotate_left;rotate_left;refine⟨_,hs.rd 1 rfl rfl,?_⟩;refine aa (fun c34=>?_) (fun c34=>?_);refine⟨_,hs.rd 0 rfl rfl,?_⟩;refine⟨_,hs.rd 1 rfl rfl,?_⟩;refine dp (fun c35=>?_) (fun c35=>?_);refine⟨_,hs.rd 1 rfl rfl,?_⟩;refine⟨_,hs.rd 0 rfl rfl,?_⟩;refine fZ (fun c36=>?_) (fun c36=>?_);rotate_left;refine⟨_,hs.rd 1 rfl rfl,?_⟩;refine⟨_,hs.rd 0 rfl rfl,?_⟩;refine fZ (fun c37=>?_) (fun c37=>?_);rotate_left;rotate_left;rotate_left;rotate_left;have Sf:=cj Sf;exact Up.next O2 (by omega) ⟨hs.drop 1,fun j x hj hx=>by by_cases e:j=i11;(subst e;rw[g16] at hx;cases hx;exact⟨c1,by first | exact fun _=>c3 | exact fun hc=>(by rw[c2] at hc;cases hc),by first | exact fun k y hk=>q32 k y (by have:=(Ya.1 hk).1;omega) hk | exact fun k y hk=>q90 k y (by have:=(Ya.1 hk).1;omega) hk⟩);exact q11 j x (by omega) hx⟩;have O2:=cj O2;exact⟨dT ⟨fun x hx=>by obtain⟨j,hj⟩:=Yf.1 hx;exact (q11 j x (by have:=(Ya.1 hj).1;omega) hj).1,fun x hx=>by obtain⟨j,hj⟩:=Yf.1 hx;exact (q11 j x (by have:=(Ya.1 hj).1;omega) hj).2.1,fun i x hx=>(q11 i x (by have:=(Ya.1 hx).1;omega) hx).2.2⟩,hs.ext⟩;all_goals first | exact⟨dF fun hG=>(by first | exact hG.e _ (Yb g16) c1 | exact hG.s _ (Yb g16) c2 c3 | (refine hG.p _ _ g16 _ _ g37 ?_;clear hG q11 q32 t37 t16 hs hg;unfold cz;grind) | (refine hG.p _ _ g16 _ _ g95 ?_;clear hG q11 q90 t95 t16 hs hg;unfold cz;grind)),hs.ext⟩ | exact Up.next Sh (by omega) ⟨hs.drop 1,fun k y hk hy=>by by_cases e:k=i32;(subst e;rw[g37] at hy;cases hy;clear q11 q32 t37 t16 hs hg;unfold cz;grind);exact q32 k y (by omega) hy⟩ | exact Up.next Sf (by omega) ⟨hs.drop 1,fun k y hk hy=>by by_cases e:k=i90;(subst e;rw[g95] at hy;cases hy;clear q11 q90 t95 t16 hs hg;unfold cz;grind);exact q90 k y (by omega) hy⟩
def lM(ts:List To)(i:Nat):Int:=if i=0 then -1 else match ts[i-1]? with | some t=>t.s | none=>-1
structure TmS (g:Gl) (i:Nat) (t:To):Prop where
 o:lM g.ts i<t.s
 k:1<=t.k/\t.k<=1000
 e:0<=t.e/\∃x,g.es[t.e.toNat]?=some x/\x.f=t.s/\x.ag=false
def Ao(g:Gl):Prop:=∀i t,g.ts[i]?=some t->TmS g i t
noncomputable instance (g:Gl):Decidable (Ao g):=Classical.propDecidable _
theorem qI{ts:List To}{i:Nat}{t:To}(h:ts[i]?=some t):lM ts (i+1)=t.s:=by
 unfold lM;rw[if_neg (by omega),Nat.add_sub_cancel,h]
theorem Kf(g:Gl)(h:Heap)(hg:GI h g):Fn Pz 92 #[g.v] h fun v h'=>v=.bool (decide (Ao g))/\Ext h h':=by
 apply aaR (bs g.nm) g.hr g.hd g.n g.s g.e g.he g.ht;unfold W92;have hs:=St.refl h;have hn:=hg.t.ln;have bH:=hg.e.ln;have hsm:=hg.t.sm;refine hs.ak fun h9 hs=>?_;refine⟨_,hs.rd 0 rfl rfl,?_⟩;refine⟨fun Lb aaE h' m=>∃i:Nat,aaE=i/\m=g.ht.n-i/\i<=g.ht.n/\St h h' [.ae h.size g.cs 27]/\Lb=lM g.ts i/\∀j t,j<i->g.ts[j]?=some t->TmS g j t,⟨_,0,rfl,rfl,by omega,hs,rfl,fun j t hj=>by omega⟩,?_⟩;rintro-_ _ cy m ⟨i,rfl,rfl,hi,hs,rfl,q⟩;refine aM (fun c1=>?_) (fun c1=>?_);refine ((hg.t.ext hs.ext).rw).aD (by omega) (by omega) fun b17 Sc d17 g17 t17=>?_;refine⟨_,_,_,t17,?_⟩;refine hs.ao rfl rfl fun uT hs=>?_;refine⟨_,hs.rd 0 rfl rfl,?_⟩;refine aM (fun c2=>?_) (fun c2=>?_);rotate_left;refine⟨_,hs.rd 0 rfl rfl,?_⟩;refine aM (fun c3=>?_) (fun c3=>?_);rotate_left;refine⟨_,hs.rd 0 rfl rfl,?_⟩;refine aM (fun c4=>?_) (fun c4=>?_);rotate_left;refine⟨_,hs.rd 0 rfl rfl,?_⟩;refine aM (fun c5=>?_) (fun c5=>?_);rotate_left;refine⟨_,hs.rd 0 rfl rfl,?_⟩;refine⟨_,hs.rd 1 rfl rfl,?_⟩;refine aM (fun c6=>?_) (fun c6=>?_);rotate_left;refine⟨_,hs.rd 1 rfl rfl,?_⟩;refine⟨_,hs.rd 0 rfl rfl,?_⟩;refine ((hg.e.ext hs.ext).rw).aD (by omega) (by omega) fun YD Vw d32 HI t32=>?_;refine⟨_,t32.hd,?_⟩;refine⟨_,hs.rd 0 rfl rfl,?_⟩;refine fZ (fun c7=>?_) (fun c7=>?_);rotate_left;refine⟨_,hs.rd 1 rfl rfl,?_⟩;refine⟨_,hs.rd 0 rfl rfl,?_⟩;refine ((hg.e.ext hs.ext).rw).aD (by omega) (by omega) fun b38 o39 d38 g38 t38=>?_;refine⟨_,t38.nth 5 rfl,?_⟩;refine aa (fun c8=>?_) (fun c8=>?_);rotate_left;refine⟨_,hs.rd 0 rfl rfl,?_⟩;exact⟨_,by omega,i+1,by rw[a7 (by omega) (by omega)];omega,rfl,by omega,hs.drop 1,(qI g17).symm,fun j t hj hx=>by by_cases e:j=i;(subst e;rw[show g.ts[j]?=some d17 from g17] at hx;cases hx;exact⟨by omega,by omega,by omega,d32,HI,c7,by rw[g38] at HI;cases HI;exact c8⟩);exact q j t (by omega) hx⟩;exact⟨dT fun j t hx=>q j t (by have:=(Ya.1 hx).1;omega) hx,hs.ext⟩;all_goals first | exact⟨dF fun hG=>(by replace hG:=hG i _ g17;have ho:=hG.o;have hk:=hG.k;obtain⟨JR,x,hx,hf,bu⟩:=hG.e;have BE:=(Ya.1 hx).1;first | omega | (rw[HI] at hx;cases hx;first | exact c7 hf | (rw[g38] at HI;cases HI;rw[c8] at bu;cases bu))),hs.ext⟩
theorem dv:cI Pz 102 3 1 8=true:=by kernel_rfl
theorem cL(L:List Int):∀r∈L.map aO,r.length=1:=fun r hr=>by obtain⟨x,_,rfl⟩:=Yp.1 hr;rfl
theorem G4(L:List Int)(x:Int)(s:Sl)(h:Heap)(hr:Rw h 1 s (L.map aO))(hm:L.length<=1048576):
  Fn Pz 163 #[.slice s.a s.n s.c,.int .i64 x] h fun v h'=>(∃k:Int,v=.int .i64 k/\decide (k>=0)=decide (x∈L))/\h'=h:=by
 apply Uz;unfold ZS;have hn:=hr.ln;refine eB (n:=s.n) (fun i h'=>h'=h/\∀(j:Nat) (y:Int),j<i->L[j]?=some y->decide (x=y)=false) ⟨rfl,fun j y hj=>by omega⟩ ?_;rintro-i h5 hi ⟨rfl,hd⟩;refine aa (fun l=>?_) (fun l=>?_)
 .replace l:=bU l;refine hr.aD (by omega) (by omega) fun b o d g t=>?_;replace g:L[i]?=some d:=g;refine⟨_,t.hd,?_⟩;refine dp (fun he=>?_) (fun bH=>?_)
  .exact⟨⟨_,rfl,by rw[decide_eq_true (show (i:Int)>=0 by omega),decide_eq_true (by rw[he];exact Yb g)]⟩,rfl⟩
  .exact Up.next l (by omega) ⟨rfl,eh (p:=fun y=>decide (x=y)) g (decide_eq_false bH) hd⟩
 .replace l:=cj l;refine⟨⟨_,rfl,?_⟩,rfl⟩;rw[decide_eq_false (show ¬((-1:Int)>=0) by omega),decide_eq_false];intro hm;obtain⟨j,hj⟩:=Yf.1 hm;exact eU (hd j _ (by have:=(Ya.1 hj).1;omega) hj) rfl
theorem NJ(L:List Int)(x:Int)(s:Sl)(h:Heap)(hr:Rw h 1 s (L.map aO))(hm:L.length<=1048576):
  Fn Pz 93 #[.slice s.a s.n s.c,.int .i64 x] h fun v h'=>v=.bool (decide (x∈L))/\h'=h:=by
 apply aaQ;unfold W93;refine (G4 L x s h hr hm).mono ?_;rintro v h3 ⟨⟨k,rfl,hk⟩,rfl⟩;exact⟨_,rfl,by rw[hk],rfl⟩
theorem vY(g:Gl)(src:Int)(bk:Bool)(h:Heap)(hg:GI h g)(hN:yi g)(h0:0<=src)(h1:src<g.n):
  Fn Pz 94 #[g.v,.int .i64 src,.bool bk] h fun v h'=>Ext h h'/\∃(s:Sl) (D:List Int),v=.slice s.a s.n s.c/\cM h' h.size 3 1 s (D.map aO).flatten/\BF g.es bk g.n.toNat src D []:=by
 apply aaP (bs g.nm) g.hr g.hd g.n g.s g.e g.he g.ht;unfold W94;have hs:=St.refl h;have hn:=hg.e.ln;have hb:=hN.n;have he:=hN.e;have hm:=hN.m;refine hs.ak fun h9 hs=>?_;refine hs.ak fun cF hs=>?_;refine⟨_,hs.rd 1 rfl rfl,?_⟩;refine (F5 g.n (by omega) (by omega) _ cF (hs.rd 0 rfl rfl)).mono ?_;rintro _ B7 ⟨E14,pR,rfl,ho⟩;replace hs:=hs.LP E14 ho (cL _);refine⟨_,rfl,?_⟩;have hxn:=(hs.rows 0 rfl (by omega)).ln;rw[Yg] at hxn;refine hs.set 0 rfl (by omega) h0 (by omega) 0 rfl rfl (fun b15 OK iL hs=>?_) rfl;refine hs.ak fun fN hs=>?_;have hs:=(hs.dP 1 1 [[.int .i64 src]] rfl (by simp) rfl (by decide)).toQ (by omega);have bf0:BF g.es bk g.n.toNat src ((List.replicate g.n.toNat (-1:Int)).set src.toNat 0) [src]:=BF.start h0 (by omega) (by omega);refine⟨fun todo h' m=>∃(D T:List Int),St h h' [.q todo 3 1 (T.map aO),.sl pR 3 1 (D.map aO),.ae h9.size [.int .i64 (-1)] 3,.ae h.size g.cs 27]/\BF g.es bk g.n.toNat src D T/\m=2*D.count (-1)+T.length/\m<=401,⟨_,_,[src],hs,bf0,rfl,?_⟩,?_⟩
 .have:List.count (-1) ((List.replicate g.n.toNat (-1:Int)).set src.toNat 0)<=_:=List.count_le_length;rw[jT,Yg] at this;rw[Yv];omega
 rintro-todo_22 uT m ⟨D,T,hs,bf,rfl,mz⟩;have hq:=(hs.Vp 0 rfl).1;rw[Yc] at hq;refine aM (fun c1=>?_) (fun c1=>?_)
 .refine⟨_,hs.rd 3 rfl rfl,?_⟩;obtain⟨a0,R0,rfl⟩:∃a R,T=a::R:=by cases T with
   | nil=>simp at hq;omega
   | cons a R=>exact⟨a,R,rfl⟩
  refine⟨fun todo x h' m=>∃(i:Nat) (D' R:List Int),x=i/\m=g.he.n-i/\i<=g.he.n/\St h h' [.q todo 3 1 ((a0::R).map aO),.sl pR 3 1 (D'.map aO),.ae h9.size [.int .i64 (-1)] 3,.ae h.size g.cs 27]/\BF g.es bk g.n.toNat src D' (a0::R) /\
   (∀(j:Nat) (x:Ed),j<i->g.es[j]?=some x->FM bk x=a0->mu D' (HV bk x))/\2*D'.count (-1)+R.length+1<=2*D.count (-1)+(a0::R0).length,⟨_,0,D,R0,rfl,rfl,by omega,hs,bf,fun j x hj=>by omega,by rw[j8];omega⟩,?_⟩
  rintro-todo_28 _ HA _ ⟨i,D',R,rfl,rfl,hi,hs,bf,hdone,hmea⟩;have hq:=(hs.Vp 0 rfl);rw[Yc,j8] at hq;have hlD:=bf.len;have agl:=(hs.rows 1 rfl (by omega)).ln;refine aM (fun c2=>?_) (fun c2=>?_)
  .have l2:i<g.he.n:=by omega
   refine (hg.e.ext hs.ext).rw.aD (by omega) (by omega) fun b31 o32 d31 Xp t31=>?_;replace Xp:g.es[i]?=some d31:=Xp;have hE:=he d31 (Yb Xp);unfold gU at hE;refine⟨_,_,_,_,_,_,t31,?_⟩;refine hs.ao (vs:=d31.cs) rfl rfl fun sz hs=>?_;refine⟨_,hs.rd 0 rfl rfl,?_⟩;refine⟨_,hs.rd 0 rfl rfl,?_⟩;refine⟨fun a b h'=>St h h' [.ae HA.size d31.cs 67,.q todo_28 3 1 ((a0::R).map aO),.sl pR 3 1 (D'.map aO),.ae h9.size [.int .i64 (-1)] 3,.ae h.size g.cs 27]/\a=FM bk d31/\b=HV bk d31,?_,?_⟩
   .cases bk
    .exact⟨hs,rfl,rfl⟩
    .exact⟨hs,rfl,rfl⟩
   .rintro-a b od ⟨hs,ha,Hu⟩;have ha0:0<=a/\a<g.n/\0<=b/\b<g.n:=by rw[ha,Hu];unfold FM HV;cases bk<;>simp<;>omega
    have GA:∀ {todo:Sl} {h':Heap} {D2 R2:List Int},St h h' [.ae HA.size d31.cs 67,.q todo 3 1 ((a0::R2).map aO),.sl pR 3 1 (D2.map aO),.ae h9.size [.int .i64 (-1)] 3,.ae h.size g.cs 27]->BF g.es bk g.n.toNat src D2 (a0::R2) ->
      (∀v,mu D' v->mu D2 v)->(a=a0->mu D2 b)->2*D2.count (-1)+R2.length+1<=2*D.count (-1)+(a0::R0).length ->
      ∃m,m<g.he.n-i/\∃(i2:Nat) (D' R:List Int),IntKind.wrap .i64 ((i:Int)+1)=i2/\m=g.he.n-i2/\i2<=g.he.n/\St h h' [.q todo 3 1 ((a0::R).map aO),.sl pR 3 1 (D'.map aO),.ae h9.size [.int .i64 (-1)] 3,.ae h.size g.cs 27]/\BF g.es bk g.n.toNat src D' (a0::R) /\
       (∀(j:Nat) (x:Ed),j<i2->g.es[j]?=some x->FM bk x=a0->mu D' (HV bk x))/\2*D'.count (-1)+R.length+1<=2*D.count (-1)+(a0::R0).length:=by
     intro todo h' D2 R2 bG Q8 Wh WB kh;refine⟨_,by omega,i+1,D2,R2,by rw[a7 (by omega) (by omega)];omega,rfl,by omega,bG.drop 1,Q8,fun j x hj hx VU=>?_,kh⟩;by_cases e:j=i
     .subst e;rw[Xp] at hx;cases hx;rw[<-Hu];exact WB (by rw[ha,VU])
     .exact Wh _ (hdone j x (by omega) hx VU)
    refine (hs.qrw 1 rfl (by omega)).aD (cs:=aO) (L:=a0::R) (by omega) (by omega) fun b47 o48 d47 g47 t47=>?_;have ed:a0=d47:=by simpa using g47
    subst ed;refine⟨_,t47.hd,?_⟩;refine dp (fun c4=>?_) (fun c4=>?_)
    .subst c4;have hva:mu D' a:=bf.t a (by simp);obtain⟨_,da,SJ,PD⟩:=hva;refine (hs.rows 2 rfl (by omega)).aD (by omega) (by omega) fun b50 o51 db g50 t50=>?_;refine⟨_,t50.hd,?_⟩;refine aM (fun c5=>?_) (fun c5=>?_)
     .refine (hs.rows 2 rfl (by omega)).aD (by omega) (by omega) fun b53 o54 d53 g53 t53=>?_;rw[SJ] at g53;cases g53;refine⟨_,t53.hd,?_⟩;have acX:Adj g.es bk a b:=⟨d31,Yb Xp,ha.symm,Hu.symm⟩;obtain⟨Q8,Lx,yz,hd2⟩:=bf.push ⟨by omega,da,SJ,PD⟩ SJ (by omega) g50 c5 acX;rw[a7 (n:=da+1) (by omega) (by omega)];refine hs.set 2 rfl (by omega) (by omega) (by omega) (da+1) rfl rfl (fun b56 o57 NP hs=>?_) rfl;have eN:D'.count (-1)<=D'.length:=List.count_le_length;have hRl:R.length<=2000:=by omega
      refine hs.abZ 1 rfl dv (m:=1) [[.int .i64 b]] rfl rfl (by omega) (by simp) rfl (by omega) (by simp only[maxLen];omega) fun M7 NO age hs=>?_;have bL:St h NO [.ae HA.size d31.cs 67,.q M7 3 1 ((a::(R++[b])).map aO),.sl pR 3 1 ((D'.set b.toNat (da+1)).map aO),.ae h9.size [.int .i64 (-1)] 3,.ae h.size g.cs 27]:=by
       have e:(a::(R++[b])).map aO=(a::R).map aO++[[.int .i64 b]]:=by simp[aO]
       rw[e];exact hs
      refine GA bL Q8 (fun v hv=>(jA (by omega) (by have:=(Ya.1 g50).1;omega) (by omega)).2 (.inr hv)) (fun _=>(jA (by omega) (by have:=(Ya.1 g50).1;omega) (by omega)).2 (.inl rfl)) ?_;rw[Yh,Yv];omega
     .exact GA hs bf (fun v hv=>hv) (fun _=>⟨by omega,db,g50,by omega⟩) hmea
    .exact GA hs bf (fun v hv=>hv) (fun e=>absurd e c4) hmea
  .refine⟨⟨by omega,by omega,by omega⟩,?_⟩;rw[gG] at hs;refine⟨_,?_,D',R,hs.Vo,?_,rfl,?_⟩
   .rw[j8] at hmea ⊢;omega
   rotate_left
   .omega
   .refine⟨bf.len,bf.src,bf.r,fun t ht=>bf.t t (Yn _ ht),fun v w hv Hj hvw=>?_,bf.b⟩;by_cases hva:v=a0
    .subst hva;obtain⟨x,hx,h3,h4⟩:=hvw;obtain⟨j,hj⟩:=Yf.1 hx;rw[<-h4];exact hdone j x (by have:=(Ya.1 hj).1;omega) hj h3
    .exact bf.c v w hv (by rw[Yr,not_or];exact⟨hva,Hj⟩) hvw
 .have:T=[]:=List.length_eq_zero_iff.1 (by omega);subst this;exact⟨hs.ext,pR,D,rfl,hs.Xl 1 rfl,bf⟩
structure af (g:Gl):Prop where
 Nb:vr g
 num:yi g
 dcl:oB g.ds
 ord:R3 g
 Sa:Ao g
 fwd:∀v:Int,0<=v->v<g.n->gC g.es false g.s v
 bwd:∀v:Int,0<=v->v<g.n->gC g.es true g.e v
noncomputable instance (g:Gl):Decidable (af g):=Classical.propDecidable _
theorem tX(g:Gl)(h:Heap)(hg:GI h g)(hx:Gm h):Fn Pz 40 #[g.v] h fun v h'=>v=.bool (decide (af g))/\Ext h h':=by
 apply abu (bs g.nm) g.hr g.hd g.n g.s g.e g.he g.ht;unfold W40;have hs:=St.refl h;refine hs.ak fun h9 hs=>?_;refine⟨_,_,_,_,_,_,_,_,hs.at 0 rfl (n:=8) rfl,?_⟩;refine (KN g _ (hg.ext hs.ext)).mono ?_;rintro _ aG ⟨rfl,Eh20⟩;replace hs:=hs.step Eh20;refine⟨_,rfl,?_⟩;refine aa (fun c1=>?_) (fun c1=>?_)
 .skip
  refine⟨_,_,_,_,_,_,_,_,hs.at 0 rfl (n:=8) rfl,?_⟩;refine (yZ g _ (hg.ext hs.ext)).mono ?_;rintro _ fM ⟨rfl,Eh31⟩;replace hs:=hs.step Eh31;refine⟨_,rfl,?_⟩;refine aa (fun c2=>?_) (fun c2=>?_)
  .skip
   refine⟨_,hs.rd 0 rfl rfl,?_⟩;refine (zZ g.ds _ _ (hg.d.ext hs.ext) (hx.ext hs.ext)).mono ?_;rintro _ bK ⟨rfl,Eh35⟩;replace hs:=hs.step Eh35;refine⟨_,rfl,?_⟩;refine aa (fun c3=>?_) (fun c3=>?_)
   .skip
    refine⟨_,_,_,_,_,_,_,_,hs.at 0 rfl (n:=8) rfl,?_⟩;refine (Dv g _ (hg.ext hs.ext)).mono ?_;rintro _ od ⟨rfl,Eh46⟩;replace hs:=hs.step Eh46;refine⟨_,rfl,?_⟩;refine aa (fun c4=>?_) (fun c4=>?_)
    .skip
     refine⟨_,_,_,_,_,_,_,_,hs.at 0 rfl (n:=8) rfl,?_⟩;refine (Kf g _ (hg.ext hs.ext)).mono ?_;rintro _ uP ⟨rfl,Eh57⟩;replace hs:=hs.step Eh57;refine⟨_,rfl,?_⟩;refine aa (fun c5=>?_) (fun c5=>?_)
     .skip
      refine⟨_,_,_,_,_,_,_,_,hs.at 0 rfl (n:=8) rfl,?_⟩;refine⟨_,hs.rd 0 rfl rfl,?_⟩;refine (vY g _ _ _ (hg.ext hs.ext) (cd c2) (by have:=(cd c2).n;omega) (by have:=(cd c2).n;omega)).mono ?_;rintro _ PX ⟨E69,x68,D,rfl,ho,bf⟩;replace hs:=hs.LP E69 ho (cL _);refine⟨_,rfl,?_⟩;refine (NJ _ _ _ _ (hs.rows 0 rfl (by omega)) (by have:=bf.len;have:=(cd c2).n;omega)).mono ?_;rintro _ zL ⟨rfl,rfl⟩;refine⟨_,rfl,?_⟩;refine aa (fun c6=>?_) (fun c6=>?_)
      .skip
       refine⟨_,_,_,_,_,_,_,_,hs.at 1 rfl (n:=8) rfl,?_⟩;refine⟨_,hs.rd 1 rfl rfl,?_⟩;refine (vY g _ _ _ (hg.ext hs.ext) (cd c2) (by have:=(cd c2).n;omega) (by have:=(cd c2).n;omega)).mono ?_;rintro _ h84 ⟨E84,J7,D2,rfl,ho2,Q8⟩;replace hs:=hs.LP E84 ho2 (cL _);refine⟨_,rfl,?_⟩;refine (NJ _ _ _ _ (hs.rows 0 rfl (by omega)) (by have:=Q8.len;have:=(cd c2).n;omega)).mono ?_;rintro _ vH ⟨rfl,rfl⟩;refine⟨_,rfl,?_⟩;refine⟨?_,hs.ext⟩;have hN:=(cd c2).n;have h1:∀v:Int,0<=v->v<g.n->gC g.es false g.s v:=by
        intro v h0 h2;apply Classical.byContradiction;intro h3;have h4:(-1:Int)∈D:=bf.all.2 fun dq=>h3 (dq v h0 (by omega));rw[decide_eq_true h4] at c6;cases c6
       by_cases h2:∀v:Int,0<=v->v<g.n->gC g.es true g.e v
       .have h4:¬((-1:Int)∈D2):=fun hm=>Q8.all.1 hm fun v h0 h3=>h2 v h0 (by omega);rw[decide_eq_false h4,decide_eq_true (show af g from ⟨cd c1,cd c2,cd c3,cd c4,cd c5,h1,h2⟩)];rfl
       .have h4:(-1:Int)∈D2:=Q8.all.2 fun dq=>h2 fun v h0 h3=>dq v h0 (by omega);rw[decide_eq_true h4,decide_eq_false (fun hG:af g=>h2 hG.bwd)];rfl
      .skip
       exact⟨dF fun hG=>by have h1:=bf.all.1 (by simpa using c6);exact h1 fun v h0 h2=>hG.fwd v h0 (by omega),hs.ext⟩
     .skip
      exact⟨dF fun hG=>eU c5 hG.Sa,hs.ext⟩
    .skip
     exact⟨dF fun hG=>eU c4 hG.ord,hs.ext⟩
   .skip
    exact⟨dF fun hG=>eU c3 hG.dcl,hs.ext⟩
  .skip
   exact⟨dF fun hG=>eU c2 hG.num,hs.ext⟩
 .skip
  exact⟨dF fun hG=>eU c1 hG.Nb,hs.ext⟩
def abR(b:Nat)(ws:List Nat):It:=.ae b (ws.map wC).flatten 144
instance {α:Type}:Inhabited (Sl × List α):=⟨⟨⟨none,0,0⟩,[]⟩⟩
theorem Nf(n:Nat):ai Pz 4 n=(List.replicate n false).map Value.bool:=by
 have e:bV Pz 4=[.bool false]:=by kernel_rfl
 unfold ai;rw[e,List.map_replicate]
 induction n with
 | zero=>rfl
 | succ n ih=>rw[List.replicate_succ,List.replicate_succ,ox,ih];rfl
theorem qB(x:Int)(h:Heap):Fn Pz 111 #[.int .i64 x] h fun v h'=>v=.bool false/\h'=h:=by
 apply Fz;unfold Iy;exact⟨by rw[bne_self_eq_false],rfl⟩
theorem gA(x y:Int)(h:Heap):Fn Pz 54 #[.int .i64 x,.int .i64 y] h fun v h'=>v=.int .i64 (dt x y)/\h'=h:=by
 apply Oh;unfold YK;refine (qB x h).mono ?_;rintro _ _ ⟨rfl,rfl⟩;refine⟨_,rfl,?_⟩;refine (qB y _).mono ?_;rintro _ _ ⟨rfl,rfl⟩;refine⟨_,rfl,?_⟩;refine ja rfl (ja rfl ?_);unfold dt;refine aM (fun c=>?_) (fun c=>aM (fun d=>?_) (fun d=>?_))
 .exact⟨by rw[if_pos c],rfl⟩
 .exact⟨by rw[if_neg c,if_pos d],rfl⟩
 .exact⟨by rw[if_neg c,if_neg d],rfl⟩
theorem wI(l:List Int)(s:Sl)(h:Heap)(hr:Rw h 1 s (l.map aO))(hm:l.length<=1048576):
  Fn Pz 53 #[.slice s.a s.n s.c] h fun v h'=>v=.int .i64 (l.foldr eP 0)/\h'=h:=by
 apply Oi;unfold YL;have hn:=hr.ln;refine eB (n:=s.n) (fun i h'=>h'=h/\l.foldr eP 0=(l.drop i).foldr eP 0) ⟨rfl,rfl⟩ ?_;rintro-i h5 hi ⟨rfl,hq⟩;refine aa (fun l2=>?_) (fun l2=>?_)
 .replace l2:=bU l2;refine hr.aD (by omega) (by omega) fun b o d g t=>?_;replace g:l[i]?=some d:=g;have hd:l.drop i=d::l.drop (i+1):=by
   obtain⟨hl,he⟩:=Ya.1 g;rw[List.drop_eq_getElem_cons hl,he]
  rw[hd,List.foldr_cons] at hq;refine⟨_,t.hd,?_⟩;refine fZ (fun c=>?_) (fun c=>?_)
  .refine⟨?_,rfl⟩;rw[hq];unfold eP;rw[if_pos c]
  .refine Up.next l2 (by omega) ⟨rfl,?_⟩;rw[hq];unfold eP;rw[if_neg (by omega)]
 .replace l2:=cj l2;rw[List.drop_eq_nil_of_le (by omega)] at hq;exact⟨by rw[hq];rfl,rfl⟩
theorem sM(es:List Ed)(role:Int):∀(l:List Nat),l.Nodup->(l.flatMap fun n=>iz es role n).length<=es.length
 | l,hl=>by
  induction es with
  | nil=>
   have key:∀l:List Nat,(l.flatMap fun n=>iz [] role n)=[]:=by
    intro l
    induction l with
    | nil=>rfl
    | cons a l ih=>rw[List.flatMap_cons,ih];rfl
   rw[key];exact bc _
  | cons x es ih=>
   have h1:∀n,(iz (x::es) role n).length=(iz es role n).length+(if x.f=(n:Int) then (if (aW role x).isSome then 1 else 0) else 0):=fun n=>by
    unfold iz;rw[List.filterMap_cons];by_cases h:x.f=(n:Int)
    .rw[if_pos h,if_pos h];cases aW role x<;>simp
    .rw[if_neg h,if_neg h];rfl
   have h2:∀l:List Nat,l.Nodup->(l.flatMap fun n=>iz (x::es) role n).length<=(l.flatMap fun n=>iz es role n).length+1:=by
    intro l hl;have h3:∀l:List Nat,l.Nodup->(l.flatMap fun n=>iz (x::es) role n).length<=(l.flatMap fun n=>iz es role n).length+(if x.f.toNat∈l then 1 else 0):=by
     intro l
     induction l with
     | nil=>simp
     | cons a l ihl=>
      intro D6;obtain⟨Fe,D6⟩:=List.nodup_cons.1 D6;have h4:=ihl D6;rw[List.flatMap_cons,List.flatMap_cons,Yh,Yh,h1];by_cases hx:x.f=(a:Int)
      .have JN:x.f.toNat=a:=by omega
       rw[JN,if_neg Fe] at h4;rw[if_pos hx,JN,if_pos (Yx:a∈a::l)];split<;>omega
      .rw[if_neg hx];have:(if x.f.toNat∈l then 1 else 0)<=(if x.f.toNat∈a::l then 1 else 0):=by
        split
        .rw[if_pos (by simp_all)];omega
        .omega
       omega
    have:=h3 l hl;split at this<;>omega
   have:=h2 l hl;rw[j8];omega
theorem xJ(p:Nat->Bool):(elems p).Nodup:=List.Nodup.sublist List.filter_sublist List.nodup_range
theorem uZ{α β:Type}(L:List Nat)(f:Nat->List α)(g:α->β):(L.flatMap fun n=>(f n).map g).length=(L.flatMap f).length:=by
 induction L with
 | nil=>rfl
 | cons a L ih=>rw[List.flatMap_cons,List.flatMap_cons,Yh,Yh,ih,Yc]

def aC(role:Int)(x:Ev):List Value:=[.int .i64 role,.bool x.send,.int .i64 x.peer,.int .i64 x.label,.slice none 0 0]
theorem Ii:cI Pz 57 33 5 56=true:=by kernel_rfl
theorem Qr.lt{g:Gl}{role:Int}{l:List Int}(hV:af g)(hl:∀x∈l,0<=x/\x<g.n){a:Int}(h:Qr g.es role l a):0<=a/\a<g.n:=by
 induction h with
 | base hm=>exact hl _ hm
 | step _ hx _=>
  obtain⟨x,hx,_,_,rfl⟩:=hx;have:=hV.num.e x hx;unfold gU at this;omega
theorem QE{g:Gl}{role:Int}{l:List Int}(hV:af g)(hl:∀x∈l,0<=x/\x<g.n)(j:Nat)(h:rR g.es role l j=true):(j:Int)<g.n:=((iq.1 h).lt hV hl).2
theorem Qp(es:List Ed)(role:Int)(p:Nat->Bool):(Qv es role p).length<=es.length:=by
 unfold Qv;rw[uZ];exact sM es role (elems p) (xJ p)
theorem qK(x:Ev):∀l:List Ev,(fy x l).length<=l.length+1
 | []=>by simp[fy]
 | y::r=>by
  rw[fy];split
  .have:=qK x r;simp only[j8];omega
  .split<;>simp
theorem Dj(l:List Ev):(iY l).length<=l.length:=by
 unfold iY
 induction l with
 | nil=>simp
 | cons a l ih=>rw[List.foldr_cons,j8];have:=qK a (l.foldr fy []);omega
noncomputable def az(g:Gl)(role st:Int):List Ev:=Fm g.es role (rR g.es role [st])
noncomputable def bP(g:Gl)(role st:Int):Bool:=rR g.es role [st] g.e.toNat
structure SE where
 b:Nat
 k:Nat
 ws:List Nat
 p:eT
def SE.hd(e:SE):List Value:=[.slice (some ⟨e.b,0,none⟩) e.k e.k]
def SE.s(e:SE):Sl:=⟨some ⟨e.b,0,none⟩,e.k,e.k⟩
def SE.it(e:SE):It:=abR e.b e.ws
def bC(b:Bool):List Value:=[.bool b]
theorem St.join{h0 h1 h:Heap}{Jy pQ:List It}(dC:St h0 h1 Jy)(bG:St h1 h pQ):St h0 h (Jy++pQ):=by
 have h3:=dC.step bG.ext;refine⟨h3.ext,fun i hi=>?_,List.pairwise_append.2 ⟨h3.ap,bG.ap,fun i hi j hj b hb hc=>?_⟩⟩
 .rcases Yk.1 hi with hi | hi
  .exact h3.ok i hi
  .exact⟨(bG.ok i hi).1,fun b hb=>mn dC.ext.1 ((bG.ok i hi).2 b hb)⟩
 .have h4:=(dC.ok i hi).1.lt hb;have h5:=(bG.ok j hj).2 b hc;omega
theorem xK{α:Type}{l:List α}{j:Nat}{x:α}(h:l[j]?=some x):l.drop j=x::l.drop (j+1):=by
 obtain⟨h1,h2⟩:=Ya.1 h;rw[<-h2];exact List.drop_eq_getElem_cons h1
theorem Cd{g:Gl}{role:Int}{p:eT}(hV:af g):(Fm g.es role p).length<=400:=by
 have h1:=Dj (Qv g.es role p);have h2:=Qp g.es role p;have h3:=hV.num.m;show (iY _).length<=400;omega
theorem GN(n:Nat):ai Pz 4 n=((List.replicate n false).map bC).flatten:=by
 have e:bV Pz 4=[.bool false]:=by kernel_rfl
 unfold ai;rw[e,List.map_replicate];rfl
theorem ui{n i k:Nat}(h:(List.range n)[i]?=some k):i=k/\i<n:=by
 obtain⟨h1,h2⟩:=Ya.1 h;rw[List.getElem_range] at h2;rw[mr] at h1;exact⟨h2,h1⟩
noncomputable def vwG(g:Gl)(role:Int):List Nat->Option Ti:=Tn (fun j:Nat=>az g role j) (fun j:Nat=>bP g role j) (um g.es role g.n.toNat).1 (Du g.es g.ts role g.n.toNat)
noncomputable def raw(g:Gl)(role:Int):Option mw × Int:=
 if ¬(af g/\0<=role/\role<g.rs.length) then (none,1) else
 match views g role with
 | none=>(none,6)
 | some (S,M)=>if M.length>400 then (none,6) else
  match Vn (vwG g role) 0 S M [] with
  | none=>(none,18)
  | some (M',L)=>(some ⟨role,S.length,0,S.map (fun p=>p g.e.toNat),M',L⟩,0)
def m0:List Value:=[.int .i64 0,.int .i64 0,.int .i64 0,.slice none 0 0,.slice none 0 0,.slice none 0 0]
def mC(m:mw)(sf sm sl:Sl):List Value:=[.int .i64 m.role,.int .i64 m.n,.int .i64 m.s,.slice sf.a sf.n sf.c,.slice sm.a sm.n sm.c,.slice sl.a sl.n sl.c]
end Go.VC
end

section
namespace Go.VC
open Go.Proofs Go.Maps
theorem qJ{P:Program}{d t:Nat}{q:IntKind}{n:Int}(hu:P.underlying t=some (.int q))(hw:(Lit.int q n).wf=true):P.keyLits (d+1) t [.int q n]=some [.int q n]:=by simp[Program.keyLits,hu,hw]
theorem tf{P : Program}{d t : Nat}{fs : Array Field}{cs : List Value}(hu : P.underlying t = some (.struct fs))(hl : cs.length = P.cellsOf t)(hn : fs.all (·.name != "_") = true){l : List (TypeId × Nat)}(hf : fs.toList.map (fun f => (f.type, f.offset)) = l)
  {r:List (List Lit)} (hr:l.mapM (fun q=>P.keyLits d q.1 ((cs.drop q.2).take (P.cellsOf q.1)))=some r):P.keyLits (d+1) t cs=some r.flatten:=by
 have e:fs.toList.mapM (fun f=>P.keyLits d f.type ((cs.drop f.offset).take (P.cellsOf f.type)))=some r:=by
  rw[<-hr,<-hf,List.mapM_map];rfl
 unfold Program.keyLits;simp only[hu];rw[if_pos ⟨hl,hn⟩,e];rfl
def VN(n:Int):Prop:=-9223372036854775808<=n/\n<=9223372036854775807
theorem VN.wf{n:Int}(h:VN n):(Lit.int .i64 n).wf=true:=by
 unfold Lit.wf;simp only[Yt,decide_eq_true_eq];have e1:IntKind.i64.min=-9223372036854775808:=by decide
 have e2:IntKind.i64.max=9223372036854775807:=by decide
 rw[e1,e2];exact h
theorem u3:Pz.underlying 3=some (.int .i64):=by kernel_rfl
theorem u4:Pz.underlying 4=some .bool:=by kernel_rfl
theorem su{P : Program}{t : Nat}{l : List (TypeId × Nat)}(h : (match P.underlying t with | some (.struct fs) => decide (fs.toList.map (fun f => (f.type, f.offset)) = l) && fs.all (·.name != "_") | _ => false) = true):
  ∃ fs, P.underlying t = some (.struct fs) /\ fs.all (·.name != "_") = true /\ fs.toList.map (fun f => (f.type, f.offset)) = l := by
 split at h
 .rename_i fs hu;simp only[Yt,decide_eq_true_eq] at h;exact⟨fs,hu,h.2,h.1⟩
 .cases h
theorem c3:Pz.cellsOf 3=1:=by kernel_rfl
theorem c4:Pz.cellsOf 4=1:=by kernel_rfl
theorem zw:laidOutB Pz=true:=by kernel_rfl
end Go.VC
end

section

end

section
namespace Go.VC
open Go.Proofs Go.LexS
theorem eu{α:Type}{cs:α->List Value}(h:∀x,(cs x).all dR=true):∀L:List α,(L.map cs).flatten.all dR=true
 | []=>rfl
 | a::L=>by rw[gG,ox,List.all_append,h a,eu h L];rfl
def oK(c:Nat):Value:=.int .i64 (c:Int)
theorem getD_some{α:Type}{l:List α}{i:Nat}{d x:α}(h:l[i]?=some x):l.getD i d=x:=by rw[Yo,h];rfl
end Go.VC
end

section
namespace Go.VC

end Go.VC
end

section
namespace Go.VC
open Go.Proofs Go.LexS
theorem St.kH{α:Type}{h0 h:Heap}{A B:List It}{Q:List (Sl × List α)}{e:TypeId}{n:Nat}{cs:α->List Value}(hs:St h0 h (A++Q.map (nest e n cs)++B)){i:Nat}{q:Sl × List α}(hi:Q[i]?=some q)(hn:0<n):Rw h n q.1 (q.2.map cs):=by
 have n4:i<(Q.map (nest e n cs)).length:=by rw[Yc];exact (Ya.1 hi).1
 exact hs.rw (A.length+i) (rows:=q.2.map cs) (by rw[uX n4,Yd,hi];rfl) hn
def aw(L:List Nat):List Int:=L.map fun c:Nat=>(c:Int)
theorem jC(L:List Nat)(c:Nat):aw (L++[c])=aw L++[(c:Int)]:=by unfold aw;rw[Ym];rfl
theorem cV{L:List Nat}{i:Nat}{d:Int}(h:(aw L)[i]?=some d):∃c:Nat,L[i]?=some c/\d=c:=by
 unfold aw at h;rw[Yd] at h;obtain⟨c,hc,rfl⟩:=sH.1 h;exact⟨c,hc,rfl⟩
end Go.VC
end

section
namespace Go.VC
open Go.LexS

end Go.VC
end

section
namespace Go.VC
open Go.Proofs Go.LexS

end Go.VC
end

section
namespace Go.VC
open Go.LexS

end Go.VC
end
