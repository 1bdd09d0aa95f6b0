/- SxVcS7 SxVcS8 SxVcS9 SxVcSa SxVcSb SxVcSc SxVcSe SxVcSd SxVcSf SxVcK1 SxVcK2 SxVcK4 SxVcK5 SyVcC SyVcJ SyVcK SyVcA SyVcG SyVcH SyVcGa SyVcI SyVcL SyVcN LexSpec SxSpec SxMem SxA. -/
import Derived.Test.YtajglkbckhgboaaGreatDoorDM02
import Derived.Test.YtajglkbckhgboaaGreatDoorDM03
import Derived.Lib.Split
set_option linter.all false
set_option maxRecDepth 100000
set_option maxHeartbeats 8000000

section
namespace Go.VC
open Go.Proofs IntKind
variable {h:Heap} {R:Value->Heap->Prop}
def abp(p0:Addr)(p1:Int)(m:Sl)(p3:Option Nat):Prop:=
 bE Pz (Instr.makeMap 293 (some (vI (m.n:Int)))) h
 (fun v1 g=>∃B:Option Nat,v1=.map B /\
 Wn g [.map none] 293 fun h4=>
 Wp h4 (aS g 0) 1 [.map B] fun h5=>
 bE Pz (Instr.makeMap 93 (none)) h5
 (fun v6 i=>∃o:Option Nat,v6=.map o /\
 Wn i [vN] 350 fun h9=>
 QI 0 h9 fun C k c D=>
 sB (decide (k<(m.n:Int)))
 (NB m.a fun Q0 R0=>Ib k m.n /\
 ∃(E F:Int),aY c ⟨Q0,R0+k.toNat*2,none⟩ [vI E,vI F] /\
 Wn c [vI 0,vI 0] 97 fun S0=>
 Wp S0 (aS c 0) 2 [vI E,vI F] fun G=>
 ∃(H I:Int),aY G (aS c 0) [vI H,vI I] /\
 bE Pz (Instr.lookup 93 (.map p3) (.agg ⟨[vI H,vI I]⟩) false) G
 (fun T0 U0=>∃p,iS T0 p /\
 QI 0 U0 fun V0 q d W0=>
 sB (decide (q<(p.n:Int)))
 (NB p.a fun X0 Y0=>Ib q p.n /\
 ∃J K L M,Gr d ⟨X0,Y0+q.toNat*4,none⟩ J K L M /\
 Wn d [vI 0,vI 0,vI 0,vI 0] 200 fun Z0=>
 Wp Z0 (aS d 0) 4 (L6 J K L M) fun j=>
 ∃(N O:Int),aY j (aS d 2) [vI N,vI O] /\
 ∃P,rI j (aS d 0) P /\
 ∃Q,rI j (aS d 1) Q /\
 ∃(S T:Int),aY j (aS c 0) [vI S,vI T] /\
 Wn j (L6 P Q S T) 200 fun a1=>
 bE Pz (Instr.mapEntry 93 (.map o) (.agg ⟨[vI N,vI O]⟩)) a1 (fun b1 c1=>
 ∃(U:Sl) (V:Int),b1=.tuple ⟨[vS U,vI V]⟩ /\
 App Pz 197 197 (vS U) (.slice (some (aS j 0)) 1 1) c1 fun d1 e1=>
 bE Pz (Instr.entryStore 93 (.map o) (vI V) (vS d1)) e1 (fun _ f1=>
 ∃W,W<W0/\V0 (wrap .i64 (q+1)) f1 W)))
 (∃(X Y:Int),aY d (aS c 0) [vI X,vI Y] /\
 Fn Pz 166 #[.pointer (some p0),vI p1,.agg ⟨[vI X,vI Y]⟩] d
 (fun g1 v=>∃(Z:Int) (a0:Bool),g1=.tuple ⟨[vI Z,.bool a0]⟩ /\
 sB a0
 (∃(b0 c0:Int),aY v (aS c 0) [vI b0,vI c0] /\
 Fn Pz 226 #[.agg ⟨[vI b0,vI c0]⟩,vI Z,.pointer (some (aS g 0)),.pointer (some (aS i 0))] v
 (fun h1 i1=>h1=.tuple ⟨[]⟩ /\
 ∃d0,d0<D/\C (wrap .i64 (k+1)) i1 d0))
 (∃e0,e0<D/\C (wrap .i64 (k+1)) v e0)))))
 (QI 0 c fun j1 e r k1=>
 ∃f0,rS r (aS i 0) f0 /\
 sB (decide (e<(f0.n:Int)))
 (QI 0 r fun g0 l b h0=>
 ∃w,rS b (aS i 0) w /\
 NB w.a fun l1 m1=>Ib e w.n /\
 ∃i0,rS b ⟨l1,m1+e.toNat*1,none⟩ i0 /\
 sB (decide (l<(i0.n:Int)))
 (∃x,rS b (aS i 0) x /\
 NB x.a fun n1 o1=>Ib e x.n /\
 ∃y,rS b ⟨n1,o1+e.toNat*1,none⟩ y /\
 NB y.a fun p1 q1=>Ib l y.n /\
 ∃(j0 k0:Int),aY b ⟨p1,q1+l.toNat*2,none⟩ [vI j0,vI k0] /\
 Wn b [vI 0,vI 0] 97 fun r1=>
 Wp r1 (aS b 0) 2 [vI j0,vI k0] fun z=>
 ∃l0:Option Nat,hc z (aS g 0)=some (.map l0) /\
 ∃(m0 n0:Int),aY z (aS b 0) [vI m0,vI n0] /\
 bE Pz (Instr.lookup 293 (.map l0) (.agg ⟨[vI m0,vI n0]⟩) false) z
 (fun s1 A=>∃o0,iI s1 o0 /\
 sB (o0 != e)
 (∃p0,p0<h0/\g0 (wrap .i64 (l+1)) A p0)
 (∃(q0 r0:Int),aY A (aS b 0) [vI q0,vI r0] /\
 bE Pz (Instr.lookup 93 (.map o) (.agg ⟨[vI q0,vI r0]⟩) false) A
 (fun t1 u1=>∃s,iS t1 s /\
 QI 0 u1 fun v1 t f w1=>
 sB (decide (t<(s.n:Int)))
 (NB s.a fun x1 y1=>Ib t s.n /\
 ∃s0 t0 u0 v0,Gr f ⟨x1,y1+t.toNat*4,none⟩ s0 t0 u0 v0 /\
 Wn f [vI 0,vI 0,vI 0,vI 0] 200 fun z1=>
 Wp z1 (aS f 0) 4 (L6 s0 t0 u0 v0) fun u=>
 ∃(w0 x0:Int),aY u (aS f 2) [vI w0,vI x0] /\
 ∃y0 z0 A0 B0,Gr u (aS f 0) y0 z0 A0 B0 /\
 Fn Pz 169 #[.agg ⟨(L6 y0 z0 A0 B0)⟩] u
 (fun A1 C0=>∃D0,iI A1 D0 /\
 Sm [(aS f 2)] u C0 /\
 Fn Pz 226 #[.agg ⟨[vI w0,vI x0]⟩,vI (wrap .i64 (e+D0)),.pointer (some (aS g 0)),.pointer (some (aS i 0))] C0
 (fun B1 C1=>B1=.tuple ⟨[]⟩ /\
 ∃E0,E0<w1/\v1 (wrap .i64 (t+1)) C1 E0)))
 (∃F0,F0<h0/\g0 (wrap .i64 (l+1)) f F0)))))
 (∃G0,G0<k1/\j1 (wrap .i64 (e+1)) b G0))
 (∃H0:Option Nat,hc r (aS g 0)=some (.map H0) /\
 R (.map H0) r))))
theorem V9(p0:Addr)(p1:Int)(p2:Sl)(p3:Option Nat)(H:@abp h R p0 p1 p2 p3):Fn Pz 164 #[.pointer (some p0),vI p1,vS p2,.map p3] h R:=aR (A:=(.s .z (.s .z (.s .z (.s .z (.s .z (.s (.s .z (.b (.l [(31,.one (.int .i64))] (.s .z (.s .z (.s (.b (.s .z (.s (AI 39) .z))) .z)))))) (.s (.s .z (.b (.l [(19,.one (.int .i64))] (.s .z (.s (.b (.s .z (.b (.l [(20,.one (.int .i64))] (.s .z (.s (.b (.s .z (.s .z (AI 102)))) .z)))))) .z))))) .z)))))))) H
def abO(b:Sl)(c:Value):Prop:=
 Fn Pz 71 #[vS b,c] h
 (fun d e=>∃a,iI d a /\
 R (.bool (decide (a>=0))) e)
theorem WA(p0:Sl)(p1:Value)(H:@abO h R p0 p1):Fn Pz 131 #[vS p0,p1] h R:=aR (A:=.z) H
def abN(pa pb:Int)(pc:Sl)(f:Addr):Prop:=
 Wn h (L8 pa pb pc) 134 fun a=>
 ∃(b c:Int),aY a (aS h 0) [vI b,vI c] /\
 ∃(d e:Int),aY a f [vI d,vI e] /\
 R (.bool ((b==d)&&((c==e)&&true))) a
theorem Wz(pa pb:Int)(pc:Sl)(c0:Addr)(H:@abN h R pa pb pc c0):Fn Pz 132 #[.agg ⟨(L8 pa pb pc)⟩,.pointer (some c0)] h R:=aR (A:=.z) H
def W71(g:Sl)(p:Value):Prop:=
 QI 0 h fun m b f o=>
 sB (decide (b<(g.n:Int)))
 (NB g.a fun q r=>Ib b g.n /\
 ∃i j k,aL8 f ⟨q,r+b.toNat*3,none⟩ i j k /\
 match p with | .func (.func g11) fa12 fc13=>(bif aF Pz g11 then Fn Pz g11 (fa12 ++ #[.agg ⟨(L8 i j k)⟩]++fc13) f
 (fun l c=>∃d,iB l d /\
 sB d
 (R (vI b) c)
 (∃e,e<o/\m (wrap .i64 (b+1)) c e)) else rH Pz g11 (fa12 ++ #[.agg ⟨(L8 i j k)⟩]++fc13) f
 (fun l c=>∃d,iB l d /\
 sB d
 (R (vI b) c)
 (∃e,e<o/\m (wrap .i64 (b+1)) c e))) | _=>False)
 (R (vI (-1)) f)
theorem acW(p0:Sl)(p1:Value)(H:@W71 h R p0 p1):Fn Pz 71 #[vS p0,p1] h R:=aR (A:=(.s .z (.s (AI 8) .z))) H
def W72(pa pb:Int)(pc:Sl)(f:Addr):Prop:=
 Wn h (L8 pa pb pc) 134 fun a=>
 ∃(b c:Int),aY a (aS h 0) [vI b,vI c] /\
 ∃(d e:Int),aY a f [vI d,vI e] /\
 R (.bool ((b==d)&&((c==e)&&true))) a
theorem acV(pa pb:Int)(pc:Sl)(c0:Addr)(H:@W72 h R pa pb pc c0):Fn Pz 72 #[.agg ⟨(L8 pa pb pc)⟩,.pointer (some c0)] h R:=aR (A:=.z) H
def abM(b:Sl):Prop:=
 F4 0 (wrap .i64 ((b.n:Int)-1)) h fun o c d e p=>
 sB (decide (c<d))
 (NB b.a fun q r=>Ib d b.n /\
 ∃f g i,iV e ⟨q,r+d.toNat*3,none⟩ f g i /\
 NB b.a fun s t=>Ib c b.n /\
 ∃j k l,iV e ⟨s,t+c.toNat*3,none⟩ j k l /\
 NB b.a fun u v=>Ib c b.n /\
 Wp e ⟨u,v+c.toNat*3,none⟩ 3 (L2 f g i) fun w=>
 NB b.a fun x y=>Ib d b.n /\
 Wp w ⟨x,y+d.toNat*3,none⟩ 3 (L2 j k l) fun z=>
 ∃m,m<p/\o (wrap .i64 (c+1)) (wrap .i64 (d-1)) z m)
 (R (.tuple ⟨[]⟩) e)
theorem Wy(p0:Sl)(H:@abM h R p0):Fn Pz 133 #[vS p0] h R:=aR (A:=(.s .z (.b (.l [(2,.one (.int .i64)),(3,.one (.int .i64))] .z)))) H
def W31(pa:ByteArray)(pb pc:Sl)(pd pe pf:Int)(pg ph:Sl)(y:Int):Prop:=
 Wn h (L0 pa pb pc pd pe pf pg ph) 27 fun g=>
 ∃i j k l m o p q,cW g (aS h 0) i j k l m o p q /\
 Fn Pz 68 #[.agg ⟨(L0 i j k l m o p q)⟩,vI y] g
 (fun z A=>∃(c:Sl) (r:Int),z=.tuple ⟨[vS c,vI r]⟩ /\
 lv ⟨none,0,0⟩ 0 A fun B e d b C=>
 sB (decide (d<(c.n:Int)))
 (NB c.a fun D E=>Ib d c.n /\
 ∃s t u,aL8 b ⟨D,E+d.toNat*3,none⟩ s t u /\
 Wn b [vI 0,vI 0,vN] 134 fun F=>
 Wp F (aS b 0) 3 (L8 s t u) fun f=>
 ∃(v w:Int),aY f (aS b 0) [vI v,vI w] /\
 Wn f [vI v,vI w] 72 fun G=>
 App Pz 68 68 (vS e) (.slice (some (aS f 0)) 1 1) G fun H I=>
 ∃x,x<C/\B H (wrap .i64 (d+1)) I x)
 (Fn Pz 69 #[vS e,.func (.func 70) #[] #[]] b
 (fun J K=>J=.tuple ⟨[]⟩ /\
 R (.tuple ⟨[vS e,vI r]⟩) K)))
theorem adA(pa:ByteArray)(pb pc:Sl)(pd pe pf:Int)(pg ph:Sl)(p1:Int)(H:@W31 h R pa pb pc pd pe pf pg ph p1):Fn Pz 31 #[.agg ⟨(L0 pa pb pc pd pe pf pg ph)⟩,vI p1] h R:=aR (A:=(.s .z (.s .z (.s .z (.s (AJ 8 19) .z))))) H
def W32(pa:ByteArray)(pb pc:Sl)(pd pe pf:Int)(pg ph:Sl)(t pi pj:Int):Prop:=
 Wn h (L0 pa pb pc pd pe pf pg ph) 27 fun f=>
 Wn f [vI pi,vI pj] 72 fun g=>
 ∃i j k l m o p q,cW g (aS h 0) i j k l m o p q /\
 Fn Pz 68 #[.agg ⟨(L0 i j k l m o p q)⟩,vI t] g
 (fun u r=>∃(b:Sl) (d:Int),u=.tuple ⟨[vS b,vI d]⟩ /\
 sB (d != 0)
 (R (.tuple ⟨[vN,vI d]⟩) r)
 (Fn Pz 71 #[vS b,.func (.func 72) #[] #[.pointer (some (aS f 0))]] r
 (fun v e=>∃c,iI v c /\
 sB (decide (c<0))
 (R (.tuple ⟨[vN,vI 8]⟩) e)
 (NB b.a fun w x=>Ib c b.n /\
 ∃s,rS e ⟨w,x+c.toNat*3+2,none⟩ s /\
 R (.tuple ⟨[vS s,vI 0]⟩) e))))
theorem adz(pa:ByteArray)(pb pc:Sl)(pd pe pf:Int)(pg ph:Sl)(p1 pi pj:Int)(H:@W32 h R pa pb pc pd pe pf pg ph p1 pi pj):Fn Pz 32 #[.agg ⟨(L0 pa pb pc pd pe pf pg ph)⟩,vI p1,.agg ⟨[vI pi,vI pj]⟩] h R:=aR (A:=.z) H
def Tn(q:Heap)(r:Int)(s:Heap)(b:Sl)(t:Heap)(u:Sl)(v:Sl->Heap->Prop):Prop:=
 lv ⟨(some (aS q 0)),1,1⟩ r s fun w e c d x=>
 NB b.a fun y z=>Ib c b.n /\
 ∃g,rI d ⟨y,z+c.toNat*7+3,none⟩ g /\
 sB (decide (g>=0))
 (NB b.a fun A B=>Ib c b.n /\
 ∃h i j,iV d ⟨A,B+c.toNat*7+4,none⟩ h i j /\
 Wn d (L2 h i j) 65 fun C=>
 App Pz 30 30 (vS e) (.slice (some (aS d 0)) 1 1) C fun D k=>
 NB b.a fun E F=>Ib c b.n /\
 ∃l,rI k ⟨E,F+c.toNat*7+3,none⟩ l /\
 ∃m,m<x/\w D l k m)
 (Fn Pz 133 #[vS e] d
 (fun G f=>G=.tuple ⟨[]⟩ /\
 ∃(o p:Int),aY f (aS t 0) [vI o,vI p] /\
 Wn f (L8 o p e) 134 fun H=>
 App Pz 130 130 (vS u) (.slice (some (aS f 0)) 1 1) H fun I J=>
 v I J))
def Tm(a q b c:Heap)(d:Sl)(W r:Int)(i:Sl)(s:Option Nat)(t:Nat)(u:Sl->Sl->Int->Heap->Nat->Prop)(v:Int):Prop:=
 ∃e:Sl->Heap->Prop,
 (∃w:Int,hc a (aS q 1)=some (.int .u8 w) /\
 ∃j,rI a (aS b 1) j /\
 0<=j/\sB ((mH .u8 (lF .u8 w j) 1)==1)
 (∃x:Int,hc a (aS c 1)=some (.int .u8 x) /\
 ∃k,rI a (aS b (1+1)) k /\
 0<=k/\Wp a (aS c 1) 1 [.int .u8 (zy .u8 x (dW .u8 1 k))] fun X=>
 e d X)
 (∃y,rI a (aS b (1+1)) y /\
 sB (y==W)
 (∃z:Int,hc a (aS q 2)=some (.int .u8 z) /\
 ∃l,rI a (aS b 1) l /\
 0<=l/\sB ((mH .u8 (lF .u8 z l) 1)==0)
 (∃A:Int,hc a (aS c 2)=some (.int .u8 A) /\
 ∃m,rI a (aS b 1) m /\
 0<=m/\Wp a (aS c 2) 1 [.int .u8 (zy .u8 A (dW .u8 1 m))] fun f=>
 ∃B,rI f (aS b 1) B /\
 ∃C,rI f (aS b (1+2)) C /\
 Wn f [vI 0,vI 0] 72 fun Y=>
 Wp Y (aS f 0) 2 [vI B,vI C] fun Z=>
 Fn Pz 131 #[vS d,.func (.func 132) #[] #[.pointer (some (aS f 0))]] Z
 (fun a0 g=>∃D,iB a0 D /\
 sB (!D)
 (∃E F G,iV g (aS b 1) E F G /\
 Wn g (L2 E F G) 65 fun b0=>
 Tn g r b0 i f d e)
 (e d g)))
 (e d a))
 (e d a))) /\
 ∀(_:Env) (n:Sl) (o:Heap),e n o ->
 (∃(H I J:Int),aY o (aS c 0) [vI H,.int .u8 I,.int .u8 J] /\
 bE Pz (Instr.lookup 246 (.map s) (.agg ⟨[vI H,.int .u8 I,.int .u8 J]⟩) false) o
 (fun c0 p=>∃K,iB c0 K /\
 sB (!K)
 (∃(L M N:Int),aY p (aS c 0) [vI L,.int .u8 M,.int .u8 N] /\
 bE Pz (Instr.mapUpdate 246 (.map s) (.agg ⟨[vI L,.int .u8 M,.int .u8 N]⟩) (.bool true)) p (fun _ h=>
 ∃(O P Q:Int),aY h (aS c 0) [vI O,.int .u8 P,.int .u8 Q] /\
 ∃R S T,iV h (aS b 1) R S T /\
 Wn h [vI O,.int .u8 P,.int .u8 Q,vI r,vI R,vI S,vI T] 248 fun d0=>
 App Pz 249 249 (vS i) (.slice (some (aS h 0)) 1 1) d0 fun e0 f0=>
 ∃U,U<t/\u e0 n (wrap .i64 (v+1)) f0 U))
 (∃V,V<t/\u i n (wrap .i64 (v+1)) p V)))
def W68(pa:ByteArray)(pb pc:Sl)(pd pe pf:Int)(pg ph:Sl)(g:Int):Prop:=
 Wn h (L0 pa pb pc pd pe pf pg ph) 27 fun D=>
 ∃E F G H I J K L,cW D (aS h 0) E F G H I J K L /\
 Fn Pz 40 #[.agg ⟨(L0 E F G H I J K L)⟩] D
 (fun I0 b=>∃M,iB I0 M /\
 sB (!M)
 (R (.tuple ⟨[vN,vI 1]⟩) b)
 (sB (decide (g<0))
 (R (.tuple ⟨[vN,vI 2]⟩) b)
 (∃N,rS b (aS h 6) N /\
 sB (decide (g>=(N.n:Int)))
 (R (.tuple ⟨[vN,vI 2]⟩) b)
 (∃e,rI b (aS h 3) e /\
 Mk e e 24/\Wn b (ak Pz 24 (e.toNat)) 24 fun O=>
 ∃p,rS O (aS h 6) p /\
 QI 0 O fun J0 q d K0=>
 sB (decide (q<(p.n:Int)))
 (NB p.a fun M0 N0=>Ib q p.n /\
 ∃P Q S T U V,jB d ⟨M0,N0+q.toNat*6,none⟩ P Q S T U V /\
 Wn d [vI 0,vI 0,vI 0,vI 0,vI 0,.bool false] 67 fun O0=>
 Wp O0 (aS d 0) 6 (L3 P Q S T U V) fun i=>
 ∃r,rI i (aS d 0) r /\
 ∃l,rI i (aS d 0) l /\
 (0<=(l:Int)/\(l:Int)<((e.toNat):Nat)) /\
 ∃W,rS i (aS b (0+l.toNat*1)) W /\
 ∃X Y Z a0 b0 c0,jB i (aS d 0) X Y Z a0 b0 c0 /\
 Wn i (L3 X Y Z a0 b0 c0) 67 fun x=>
 Sm [(aS b (0+l.toNat*1)),(aS d 0),(aS d 0)] i x /\
 App Pz 24 24 (vS W) (.slice (some (aS i 0)) 1 1) x fun P0 d0=>
 Sm [(aS d 0)] x d0 /\
 (0<=(r:Int)/\(r:Int)<((e.toNat):Nat)) /\
 Wp d0 (aS b (0+r.toNat*1)) 1 [vS P0] fun Q0=>
 ∃e0,e0<K0/\J0 (wrap .i64 (q+1)) Q0 e0)
 (QI 0 d fun R0 m c S0=>
 sB (decide (m<((e.toNat):Int)))
 ((0<=(m:Int)/\(m:Int)<((e.toNat):Nat)) /\
 ∃f0,rS c (aS b (0+m.toNat*1)) f0 /\
 Fn Pz 128 #[vS f0,.func (.func 129) #[] #[]] c
 (fun T0 U0=>T0=.tuple ⟨[]⟩ /\
 ∃g0,g0<S0/\R0 (wrap .i64 (m+1)) U0 g0))
 (∃y,rS c (aS h 6) y /\
 NB y.a fun V0 W0=>Ib g y.n /\
 ∃s,rI c ⟨V0,W0+g.toNat*6+1+1,none⟩ s /\
 ∃z,rS c (aS h 6) z /\
 NB z.a fun h0 i0=>Ib g z.n /\
 ∃j0,rI c ⟨h0,i0+g.toNat*6+4,none⟩ j0 /\
 0<=s/\Wn c [vI 0,.int .u8 0,.int .u8 0] 245 fun k0=>
 Sm [⟨h0,i0+g.toNat*6+4,none⟩,(aS h 6)] c k0 /\
 Wp k0 (aS c 0) 3 [vI j0,.int .u8 (dW .u8 1 s),.int .u8 0] fun X0=>
 bE Pz (Instr.makeMap 246 (none)) X0
 (fun Y0 l0=>∃A:Option Nat,Y0=.map A /\
 ∃(m0 n0 o0:Int),aY l0 (aS c 0) [vI m0,.int .u8 n0,.int .u8 o0] /\
 bE Pz (Instr.mapUpdate 246 (.map A) (.agg ⟨[vI m0,.int .u8 n0,.int .u8 o0]⟩) (.bool true)) l0 (fun _ B=>
 ∃(p0 q0 r0:Int),aY B (aS c 0) [vI p0,.int .u8 q0,.int .u8 r0] /\
 Wn B [vI p0,.int .u8 q0,.int .u8 r0,vI (-1),vI 0,vI 0,vI 0] 248 fun Z0=>
 KG ⟨(some (aS B 0)),1,1⟩ ⟨none,0,0⟩ 0 Z0 fun a1 t s0 o f b1=>
 sB (decide (o<(t.n:Int)))
 (NB t.a fun c1 d1=>Ib o t.n /\
 ∃(t0 u0 v0:Int),aY f ⟨c1,d1+o.toNat*7,none⟩ [vI t0,.int .u8 u0,.int .u8 v0] /\
 Wn f [vI 0,.int .u8 0,.int .u8 0] 245 fun e1=>
 Wp e1 (aS f 0) 3 [vI t0,.int .u8 u0,.int .u8 v0] fun C=>
 ∃u,rI C (aS f 0) u /\
 (0<=(u:Int)/\(u:Int)<((e.toNat):Nat)) /\
 ∃v,rS C (aS b (0+u.toNat*1)) v /\
 KG t s0 0 C fun f1 w0 x0 w j g1=>
 sB (decide (w<(v.n:Int)))
 (NB v.a fun h1 i1=>Ib w v.n /\
 ∃y0 z0 A0 B0 C0 D0,jB j ⟨h1,i1+w.toNat*6,none⟩ y0 z0 A0 B0 C0 D0 /\
 Wn j [vI 0,vI 0,vI 0,vI 0,vI 0,.bool false] 67 fun j1=>
 Wp j1 (aS j 0) 6 (L3 y0 z0 A0 B0 C0 D0) fun k=>
 ∃E0,rI k (aS j 4) E0 /\
 ∃F0:Int,hc k (aS f 1)=some (.int .u8 F0) /\
 ∃G0:Int,hc k (aS f 2)=some (.int .u8 G0) /\
 Wn k [vI 0,.int .u8 0,.int .u8 0] 245 fun k1=>
 Wp k1 (aS k 0) 3 [vI E0,.int .u8 F0,.int .u8 G0] fun l1=>
 Tm l1 f j k x0 s o w0 A g1 f1 w)
 (∃H0,H0<b1/\a1 w0 x0 (wrap .i64 (o+1)) j H0))
 (R (.tuple ⟨[vS s0,vI 0]⟩) f)))))))))
theorem acY(pa:ByteArray)(pb pc:Sl)(pd pe pf:Int)(pg ph:Sl)(p1:Int)(H:@W68 h R pa pb pc pd pe pf pg ph p1):Fn Pz 68 #[.agg ⟨(L0 pa pb pc pd pe pf pg ph)⟩,vI p1] h R:=aR (A:=(.s .z (.s .z (.s .z (.s (AI 44) (.s (AI 63) (.s .z (.s .z (.s .z (.s .z (.s .z (.s (.s .z (.b (.l [(14,.one (.slice)),(15,.one (.slice)),(16,.one (.int .i64))] (.s .z (.s (.b (.s .z (.s .z (.b (.l [(14,.one (.slice)),(15,.one (.slice)),(109,.one (.int .i64))] (.s .z (.s .z (.s (.b (.s .z (.s .z (.j [(15,.one (.slice))] (.b (.s .z (.c .z (.s .z (.c (.s .z (.s .z (.s .z (.c (.s .z (.s (AJ 22 23) .z)) .z)))) .z))))) .z)))) .z)))))))) .z))))) .z)))))))))))) H
def yA(b h e:Heap)(i:Nat)(j:Int->Heap->Nat->Prop)(k q:Int):Prop:=
 ∃c,rS b (aS h 13) c/\∃d,rI b (aS e 0) d/\∃f,rS b (aS h 13) f/\∃g,rI b (aS e 0) g/\NB f.a fun r s=>Ib g f.n/\∃l,rB b ⟨r,s+g.toNat*1,none⟩ l/\sB l (NB c.a fun t u=>Ib d c.n/\Wp b ⟨t,u+d.toNat*1,none⟩ 1 [.bool true] fun v=>∃m,m<i/\j (wrap .i64 (k+1)) v m) (∃o,rI b (aS e 1) o/\NB c.a fun w x=>Ib d c.n/\Wp b ⟨w,x+d.toNat*1,none⟩ 1 [.bool (o==q)] fun y=>∃p,p<i/\j (wrap .i64 (k+1)) y p)
def A7(b:Heap)(y0:ByteArray)(z0 A0:Sl)(B0 C0 D0:Int)(E0 F0:Sl)(t:Int)(G0:Heap)(G:Int)(H0:Heap)(H:Int)(I0:Heap)(I:Int)(J0:Heap)(J:Int)(K0:Heap)(K:Int)(h:Heap)(R:Value->Heap->Prop):Prop:=
 Wn b [.string y0,vS z0,vS A0,vI B0,vI C0,vI D0,vS E0,vS F0,vI t,.slice (some (aS G0 0)) (G.toNat) (G.toNat),vN,.slice (some (aS H0 0)) (H.toNat) (H.toNat),.slice (some (aS I0 0)) (I.toNat) (I.toNat),.slice (some (aS J0 0)) (J.toNat) (J.toNat),.slice (some (aS K0 0)) (K.toNat) (K.toNat)] 186 fun L=>∃l,rS L (aS h 6) l/\QI 0 L fun M g c N=>sB (decide (g<(l.n:Int))) (NB l.a fun L0 M0=>Ib g l.n/\∃O P Q S T U,jB c ⟨L0,M0+g.toNat*6,none⟩ O P Q S T U/\Wn c [vI 0,vI 0,vI 0,vI 0,vI 0,.bool false] 67 fun N0=>Wp N0 (aS c 0) 6 (L3 O P Q S T U) fun d=>∃u,rS d (aS b 9) u/\∃v,rI d (aS c 0) v/\∃w,rS d (aS b 9) w/\∃m,rI d (aS c 0) m/\NB w.a fun V W=>Ib m w.n/\∃X,rS d ⟨V,W+m.toNat*1,none⟩ X/\Wn d [vI g] 3 fun x=>Sm [⟨V,W+m.toNat*1,none⟩,(aS c 0),(aS b 9),(aS c 0),(aS b 9)] d x/\App Pz 102 102 (vS X) (.slice (some (aS d 0)) 1 1) x fun O0 Y=>Sm [(aS c 0),(aS b 9)] x Y/\NB u.a fun P0 Q0=>Ib v u.n/\Wp Y ⟨P0,Q0+v.toNat*1,none⟩ 1 [vS O0] fun e=>∃i,rS e (aS b 12) i/\∃j,rI e (aS c 0) j/\∃y,rS e (aS b 12) y/\∃z,rI e (aS c 0) z/\NB y.a fun R0 S0=>Ib z y.n/\∃Z,rB e ⟨R0,S0+z.toNat*1,none⟩ Z/\sB Z (NB i.a fun T0 U0=>Ib j i.n/\Wp e ⟨T0,U0+j.toNat*1,none⟩ 1 [.bool true] fun V0=>yA V0 b c N M g t) (∃a0,rB e (aS c 5) a0/\NB i.a fun W0 X0=>Ib j i.n/\Wp e ⟨W0,X0+j.toNat*1,none⟩ 1 [.bool a0] fun Y0=>yA Y0 b c N M g t)) (∃o,rS c (aS h 7) o/\QI 0 c fun Z0 p f a1=>sB (decide (p<(o.n:Int))) (NB o.a fun b1 c1=>Ib p o.n/\∃b0 c0 d0,iV f ⟨b1,c1+p.toNat*3,none⟩ b0 c0 d0/\Wn f [vI 0,vI 0,vI 0] 149 fun d1=>Wp d1 (aS f 0) 3 (L2 b0 c0 d0) fun q=>∃A,rS q (aS h 6) A/\∃B,rI q (aS f 2) B/\NB A.a fun e1 f1=>Ib B A.n/\∃e0 f0 g0 h0 i0 j0,jB q ⟨e1,f1+B.toNat*6,none⟩ e0 f0 g0 h0 i0 j0/\Fn Pz 106 #[.pointer (some (aS b 0)),.agg ⟨(L3 e0 f0 g0 h0 i0 j0)⟩] q (fun g1 C=>∃(k0:Bool) (l0 m0:Int) (h1:Bool),g1=.tuple ⟨[.agg ⟨(L1 k0 l0 m0)⟩,.bool h1]⟩/\Wn C [.bool false,vI 0,vI 0] 188 fun i1=>Wp i1 (aS C 0) 3 (L1 k0 l0 m0) fun k=>∃D,rS k (aS b 11) D/\∃E,rI k (aS f 0) E/\∃n0,rI k (aS f 1) n0/\∃o0 p0 q0,iW k (aS C 0) o0 p0 q0/\NB D.a fun j1 k1=>Ib E D.n/\Wp k ⟨j1,k1+E.toNat*4,none⟩ 4 [vI n0,.bool o0,vI p0,vI q0] fun l1=>∃r0,r0<a1/\Z0 (wrap .i64 (p+1)) l1 r0)) (∃s0,rI f (aS h 3) s0/\QI 0 f fun m1 F r n1=>sB (decide (F<s0)) (∃t0,rS r (aS b 10) t0/\Fn Pz 107 #[.pointer (some (aS b 0)),vI F] r (fun o1 s=>∃(u0:Sl) (v0:Bool),o1=.agg ⟨[vS u0,.bool v0]⟩/\Sm [(aS b 10)] r s/\Wn s [vS u0,.bool v0] 195 fun w0=>Sm [(aS b 10)] s w0/\App Pz 184 184 (vS t0) (.slice (some (aS s 0)) 1 1) w0 fun p1 q1=>Wp q1 (aS b 10) 1 [vS p1] fun r1=>∃x0,x0<n1/\m1 (wrap .i64 (F+1)) r1 x0)) (R (.tuple ⟨[.pointer (some (aS b 0)),vI 0]⟩) r)))
def FX(a:Int)(b h:Heap)(d:ByteArray)(e f:Sl)(g i j:Int)(k l:Sl)(m:Int)(n:Heap)(o:Int)(p:Heap)(q:Int)(r:Heap)(s:Int)(t:Heap)(u:Int)(R:Value->Heap->Prop):Prop:=
 Mk a a 1/\Wn b (ak Pz 4 (a.toNat)) 4 fun c=>Sm [(aS h 3),(aS h 3),(aS h 3),(aS h 3),(aS h 0)] b c/\A7 c d e f g i j k l m n o p q b a r s t u h R
def Ke(a:Int)(b h:Heap)(d:Int)(e:ByteArray)(f g:Sl)(i j k:Int)(l m:Sl)(n:Int)(o:Heap)(p:Int)(q:Heap)(r:Int)(s:Heap)(t:Int)(R:Value->Heap->Prop):Prop:=
 Mk a a 32/\Wn b (ak Pz 192 (a.toNat)) 192 fun c=>Sm [(aS h 3),(aS h 3),(aS h 3),(aS h 3),(aS h 0)] b c/\FX d c h e f g i j k l m n o p b a q r s t R
def F3(a:Int)(b h:Heap)(d:ByteArray)(e f:Sl)(g i j:Int)(k l:Sl)(m:Int)(n:Heap)(o:Int)(p:Heap)(q:Int)(r:Heap)(s:Int)(t:Heap)(u:Int)(R:Value->Heap->Prop):Prop:=
 Mk a a 32/\Wn b (ak Pz 192 (a.toNat)) 192 fun c=>Sm [(aS h 3),(aS h 3),(aS h 3),(aS h 3),(aS h 0)] b c/\A7 c d e f g i j k l m n o b a p q r s t u h R
def J4(a:Int)(b h:Heap)(d:Int)(e:ByteArray)(f g:Sl)(i j k:Int)(l m:Sl)(n:Int)(o:Heap)(p:Int)(q:Heap)(r:Int)(s:Heap)(t:Int)(R:Value->Heap->Prop):Prop:=
 Mk a a 1/\Wn b (ak Pz 4 (a.toNat)) 4 fun c=>Sm [(aS h 3),(aS h 3),(aS h 3),(aS h 3),(aS h 0)] b c/\F3 d c h e f g i j k l m n o p b a q r s t R
def Du(a:Int)(b h:Heap)(d e:Int)(f:ByteArray)(g i:Sl)(j k l:Int)(m n:Sl)(o:Int)(p:Heap)(q:Int)(r:Heap)(s:Int)(R:Value->Heap->Prop):Prop:=
 Mk a a 24/\Wn b (ak Pz 102 (a.toNat)) 102 fun c=>Sm [(aS h 3),(aS h 3),(aS h 3),(aS h 3),(aS h 0)] b c/\(Ke d c h e f g i j k l m n o b a p q r s R)/\J4 e c h d f g i j k l m n o b a p q r s R
def J9(a:Int)(b h:Heap)(d:Int)(e:ByteArray)(f g:Sl)(i j k:Int)(l m:Sl)(n:Int)(o:Heap)(p:Int)(q:Heap)(r:Int)(s:Heap)(t:Int)(R:Value->Heap->Prop):Prop:=
 Mk a a 24/\Wn b (ak Pz 102 (a.toNat)) 102 fun c=>Sm [(aS h 3),(aS h 3),(aS h 3),(aS h 3),(aS h 0)] b c/\FX d c h e f g i j k l m n b a o p q r s t R
def FZ(a:Int)(b h:Heap)(d:ByteArray)(e f:Sl)(g i j:Int)(k l:Sl)(m:Int)(n:Heap)(o:Int)(p:Heap)(q:Int)(r:Heap)(s:Int)(t:Heap)(u:Int)(R:Value->Heap->Prop):Prop:=
 Mk a a 24/\Wn b (ak Pz 102 (a.toNat)) 102 fun c=>Sm [(aS h 3),(aS h 3),(aS h 3),(aS h 3),(aS h 0)] b c/\A7 c d e f g i j k l m b a n o p q r s t u h R
def J2(a:Int)(b h:Heap)(d:Int)(e:ByteArray)(f g:Sl)(i j k:Int)(l m:Sl)(n:Int)(o:Heap)(p:Int)(q:Heap)(r:Int)(s:Heap)(t:Int)(R:Value->Heap->Prop):Prop:=
 Mk a a 1/\Wn b (ak Pz 4 (a.toNat)) 4 fun c=>Sm [(aS h 3),(aS h 3),(aS h 3),(aS h 3),(aS h 0)] b c/\FZ d c h e f g i j k l m n o p b a q r s t R
def Dt(a:Int)(b h:Heap)(d e:Int)(f:ByteArray)(g i:Sl)(j k l:Int)(m n:Sl)(o:Int)(p:Heap)(q:Int)(r:Heap)(s:Int)(R:Value->Heap->Prop):Prop:=
 Mk a a 32/\Wn b (ak Pz 192 (a.toNat)) 192 fun c=>Sm [(aS h 3),(aS h 3),(aS h 3),(aS h 3),(aS h 0)] b c/\(J9 d c h e f g i j k l m n o b a p q r s R)/\J2 e c h d f g i j k l m n o b a p q r s R
def J5(a:Int)(b h:Heap)(d:Int)(e:ByteArray)(f g:Sl)(i j k:Int)(l m:Sl)(n:Int)(o:Heap)(p:Int)(q:Heap)(r:Int)(s:Heap)(t:Int)(R:Value->Heap->Prop):Prop:=
 Mk a a 24/\Wn b (ak Pz 274 (a.toNat)) 274 fun c=>Sm [(aS h 3),(aS h 3),(aS h 3),(aS h 3),(aS h 0)] b c/\FX d c h e f g i j k l m n o p q r s t b a R
def FW(a:Int)(b h:Heap)(d:ByteArray)(e f:Sl)(g i j:Int)(k l:Sl)(m:Int)(n:Heap)(o:Int)(p:Heap)(q:Int)(r:Heap)(s:Int)(t:Heap)(u:Int)(R:Value->Heap->Prop):Prop:=
 Mk a a 24/\Wn b (ak Pz 274 (a.toNat)) 274 fun c=>Sm [(aS h 3),(aS h 3),(aS h 3),(aS h 3),(aS h 0)] b c/\A7 c d e f g i j k l m n o p q r s t u b a h R
def JY(a:Int)(b h:Heap)(d:Int)(e:ByteArray)(f g:Sl)(i j k:Int)(l m:Sl)(n:Int)(o:Heap)(p:Int)(q:Heap)(r:Int)(s:Heap)(t:Int)(R:Value->Heap->Prop):Prop:=
 Mk a a 1/\Wn b (ak Pz 4 (a.toNat)) 4 fun c=>Sm [(aS h 3),(aS h 3),(aS h 3),(aS h 3),(aS h 0)] b c/\FW d c h e f g i j k l m n o p q r b a s t R
def Ds(a:Int)(b h:Heap)(d e:Int)(f:ByteArray)(g i:Sl)(j k l:Int)(m n:Sl)(o:Int)(p:Heap)(q:Int)(r:Heap)(s:Int)(R:Value->Heap->Prop):Prop:=
 Mk a a 32/\Wn b (ak Pz 192 (a.toNat)) 192 fun c=>Sm [(aS h 3),(aS h 3),(aS h 3),(aS h 3),(aS h 0)] b c/\(JY d c h e f g i j k l m n o p q b a r s R)/\J5 e c h d f g i j k l m n o p q b a r s R
def Dr(a:Int)(b h:Heap)(d e:Int)(f:ByteArray)(g i:Sl)(j k l:Int)(m n:Sl)(o:Int)(p:Heap)(q:Int)(r:Heap)(s:Int)(R:Value->Heap->Prop):Prop:=
 Mk a a 24/\Wn b (ak Pz 274 (a.toNat)) 274 fun c=>Sm [(aS h 3),(aS h 3),(aS h 3),(aS h 3),(aS h 0)] b c/\(Ke d c h e f g i j k l m n o p q r s b a R)/\J4 e c h d f g i j k l m n o p q r s b a R
def FY(a:Int)(b h:Heap)(d:ByteArray)(e f:Sl)(g i j:Int)(k l:Sl)(m:Int)(n:Heap)(o:Int)(p:Heap)(q:Int)(r:Heap)(s:Int)(t:Heap)(u:Int)(R:Value->Heap->Prop):Prop:=
 Mk a a 1/\Wn b (ak Pz 4 (a.toNat)) 4 fun c=>Sm [(aS h 3),(aS h 3),(aS h 3),(aS h 3),(aS h 0)] b c/\A7 c d e f g i j k l m n o p q r s b a t u h R
def JX(a:Int)(b h:Heap)(d:Int)(e:ByteArray)(f g:Sl)(i j k:Int)(l m:Sl)(n:Int)(o:Heap)(p:Int)(q:Heap)(r:Int)(s:Heap)(t:Int)(R:Value->Heap->Prop):Prop:=
 Mk a a 1/\Wn b (ak Pz 4 (a.toNat)) 4 fun c=>Sm [(aS h 3),(aS h 3),(aS h 3),(aS h 3),(aS h 0)] b c/\FY d c h e f g i j k l m n o p q r b a s t R
def JW(a:Int)(b h:Heap)(d:Int)(e:ByteArray)(f g:Sl)(i j k:Int)(l m:Sl)(n:Int)(o:Heap)(p:Int)(q:Heap)(r:Int)(s:Heap)(t:Int)(R:Value->Heap->Prop):Prop:=
 Mk a a 1/\Wn b (ak Pz 4 (a.toNat)) 4 fun c=>Sm [(aS h 3),(aS h 3),(aS h 3),(aS h 3),(aS h 0)] b c/\FX d c h e f g i j k l m n o p q r b a s t R
def Dq(a:Int)(b h:Heap)(d e:Int)(f:ByteArray)(g i:Sl)(j k l:Int)(m n:Sl)(o:Int)(p:Heap)(q:Int)(r:Heap)(s:Int)(R:Value->Heap->Prop):Prop:=
 Mk a a 32/\Wn b (ak Pz 192 (a.toNat)) 192 fun c=>Sm [(aS h 3),(aS h 3),(aS h 3),(aS h 3),(aS h 0)] b c/\(JX d c h e f g i j k l m n o p q b a r s R)/\JW e c h d f g i j k l m n o p q b a r s R
def Kf(a:Int)(b h:Heap)(d:Int)(e:ByteArray)(f g:Sl)(i j k:Int)(l m:Sl)(n:Int)(o:Heap)(p:Int)(q:Heap)(r:Int)(s:Heap)(t:Int)(R:Value->Heap->Prop):Prop:=
 Mk a a 32/\Wn b (ak Pz 192 (a.toNat)) 192 fun c=>Sm [(aS h 3),(aS h 3),(aS h 3),(aS h 3),(aS h 0)] b c/\FY d c h e f g i j k l m n o p b a q r s t R
def J6(a:Int)(b h:Heap)(d:Int)(e:ByteArray)(f g:Sl)(i j k:Int)(l m:Sl)(n:Int)(o:Heap)(p:Int)(q:Heap)(r:Int)(s:Heap)(t:Int)(R:Value->Heap->Prop):Prop:=
 Mk a a 1/\Wn b (ak Pz 4 (a.toNat)) 4 fun c=>Sm [(aS h 3),(aS h 3),(aS h 3),(aS h 3),(aS h 0)] b c/\F3 d c h e f g i j k l m n o p q r b a s t R
def Dp(a:Int)(b h:Heap)(d e:Int)(f:ByteArray)(g i:Sl)(j k l:Int)(m n:Sl)(o:Int)(p:Heap)(q:Int)(r:Heap)(s:Int)(R:Value->Heap->Prop):Prop:=
 Mk a a 24/\Wn b (ak Pz 274 (a.toNat)) 274 fun c=>Sm [(aS h 3),(aS h 3),(aS h 3),(aS h 3),(aS h 0)] b c/\(Kf d c h e f g i j k l m n o p q r s b a R)/\J6 e c h d f g i j k l m n o p q r s b a R
def J8(a:Int)(b h:Heap)(d:Int)(e:ByteArray)(f g:Sl)(i j k:Int)(l m:Sl)(n:Int)(o:Heap)(p:Int)(q:Heap)(r:Int)(s:Heap)(t:Int)(R:Value->Heap->Prop):Prop:=
 Mk a a 24/\Wn b (ak Pz 102 (a.toNat)) 102 fun c=>Sm [(aS h 3),(aS h 3),(aS h 3),(aS h 3),(aS h 0)] b c/\F3 d c h e f g i j k l m n b a o p q r s t R
def J7(a:Int)(b h:Heap)(d:Int)(e:ByteArray)(f g:Sl)(i j k:Int)(l m:Sl)(n:Int)(o:Heap)(p:Int)(q:Heap)(r:Int)(s:Heap)(t:Int)(R:Value->Heap->Prop):Prop:=
 Mk a a 32/\Wn b (ak Pz 192 (a.toNat)) 192 fun c=>Sm [(aS h 3),(aS h 3),(aS h 3),(aS h 3),(aS h 0)] b c/\FZ d c h e f g i j k l m n b a o p q r s t R
def Dm(a:Int)(b h:Heap)(d e:Int)(f:ByteArray)(g i:Sl)(j k l:Int)(m n:Sl)(o:Int)(p:Heap)(q:Int)(r:Heap)(s:Int)(R:Value->Heap->Prop):Prop:=
 Mk a a 1/\Wn b (ak Pz 4 (a.toNat)) 4 fun c=>Sm [(aS h 3),(aS h 3),(aS h 3),(aS h 3),(aS h 0)] b c/\(J8 d c h e f g i j k l m n o b a p q r s R)/\J7 e c h d f g i j k l m n o b a p q r s R
def JZ(a:Int)(b h:Heap)(d:Int)(e:ByteArray)(f g:Sl)(i j k:Int)(l m:Sl)(n:Int)(o:Heap)(p:Int)(q:Heap)(r:Int)(s:Heap)(t:Int)(R:Value->Heap->Prop):Prop:=
 Mk a a 24/\Wn b (ak Pz 274 (a.toNat)) 274 fun c=>Sm [(aS h 3),(aS h 3),(aS h 3),(aS h 3),(aS h 0)] b c/\FY d c h e f g i j k l m n o p q r s t b a R
def JV(a:Int)(b h:Heap)(d:Int)(e:ByteArray)(f g:Sl)(i j k:Int)(l m:Sl)(n:Int)(o:Heap)(p:Int)(q:Heap)(r:Int)(s:Heap)(t:Int)(R:Value->Heap->Prop):Prop:=
 Mk a a 1/\Wn b (ak Pz 4 (a.toNat)) 4 fun c=>Sm [(aS h 3),(aS h 3),(aS h 3),(aS h 3),(aS h 0)] b c/\FW d c h e f g i j k l m n o p q r s t b a R
def Dl(a:Int)(b h:Heap)(d e:Int)(f:ByteArray)(g i:Sl)(j k l:Int)(m n:Sl)(o:Int)(p:Heap)(q:Int)(r:Heap)(s:Int)(R:Value->Heap->Prop):Prop:=
 Mk a a 24/\Wn b (ak Pz 102 (a.toNat)) 102 fun c=>Sm [(aS h 3),(aS h 3),(aS h 3),(aS h 3),(aS h 0)] b c/\(JV d c h e f g i j k l m n o b a p q r s R)/\JZ e c h d f g i j k l m n o b a p q r s R
def Ka(a:Int)(b h:Heap)(d:Int)(e:ByteArray)(f g:Sl)(i j k:Int)(l m:Sl)(n:Int)(o:Heap)(p:Int)(q:Heap)(r:Int)(s:Heap)(t:Int)(R:Value->Heap->Prop):Prop:=
 Mk a a 24/\Wn b (ak Pz 102 (a.toNat)) 102 fun c=>Sm [(aS h 3),(aS h 3),(aS h 3),(aS h 3),(aS h 0)] b c/\FY d c h e f g i j k l m n b a o p q r s t R
def J3(a:Int)(b h:Heap)(d:Int)(e:ByteArray)(f g:Sl)(i j k:Int)(l m:Sl)(n:Int)(o:Heap)(p:Int)(q:Heap)(r:Int)(s:Heap)(t:Int)(R:Value->Heap->Prop):Prop:=
 Mk a a 1/\Wn b (ak Pz 4 (a.toNat)) 4 fun c=>Sm [(aS h 3),(aS h 3),(aS h 3),(aS h 3),(aS h 0)] b c/\FZ d c h e f g i j k l m n o p q r b a s t R
def Dk(a:Int)(b h:Heap)(d e:Int)(f:ByteArray)(g i:Sl)(j k l:Int)(m n:Sl)(o:Int)(p:Heap)(q:Int)(r:Heap)(s:Int)(R:Value->Heap->Prop):Prop:=
 Mk a a 24/\Wn b (ak Pz 274 (a.toNat)) 274 fun c=>Sm [(aS h 3),(aS h 3),(aS h 3),(aS h 3),(aS h 0)] b c/\(Ka d c h e f g i j k l m n o p q r s b a R)/\J3 e c h d f g i j k l m n o p q r s b a R
def Dj(a:Int)(b h:Heap)(d e:Int)(f:ByteArray)(g i:Sl)(j k l:Int)(m n:Sl)(o:Int)(p:Heap)(q:Int)(r:Heap)(s:Int)(R:Value->Heap->Prop):Prop:=
 Mk a a 24/\Wn b (ak Pz 102 (a.toNat)) 102 fun c=>Sm [(aS h 3),(aS h 3),(aS h 3),(aS h 3),(aS h 0)] b c/\(JY d c h e f g i j k l m n o b a p q r s R)/\J5 e c h d f g i j k l m n o b a p q r s R
def Di(a:Int)(b h:Heap)(d e:Int)(f:ByteArray)(g i:Sl)(j k l:Int)(m n:Sl)(o:Int)(p:Heap)(q:Int)(r:Heap)(s:Int)(R:Value->Heap->Prop):Prop:=
 Mk a a 24/\Wn b (ak Pz 274 (a.toNat)) 274 fun c=>Sm [(aS h 3),(aS h 3),(aS h 3),(aS h 3),(aS h 0)] b c/\(J9 d c h e f g i j k l m n o p q r s b a R)/\J2 e c h d f g i j k l m n o p q r s b a R
def Dh(a:Int)(b h:Heap)(d e:Int)(f:ByteArray)(g i:Sl)(j k l:Int)(m n:Sl)(o:Int)(p:Heap)(q:Int)(r:Heap)(s:Int)(R:Value->Heap->Prop):Prop:=
 Mk a a 24/\Wn b (ak Pz 102 (a.toNat)) 102 fun c=>Sm [(aS h 3),(aS h 3),(aS h 3),(aS h 3),(aS h 0)] b c/\(JX d c h e f g i j k l m n o b a p q r s R)/\JW e c h d f g i j k l m n o b a p q r s R
def Kh(a:Int)(b h:Heap)(d:Int)(e:ByteArray)(f g:Sl)(i j k:Int)(l m:Sl)(n:Int)(o:Heap)(p:Int)(q:Heap)(r:Int)(s:Heap)(t:Int)(R:Value->Heap->Prop):Prop:=
 Mk a a 32/\Wn b (ak Pz 192 (a.toNat)) 192 fun c=>Sm [(aS h 3),(aS h 3),(aS h 3),(aS h 3),(aS h 0)] b c/\FW d c h e f g i j k l m n o p b a q r s t R
def Kg(a:Int)(b h:Heap)(d:Int)(e:ByteArray)(f g:Sl)(i j k:Int)(l m:Sl)(n:Int)(o:Heap)(p:Int)(q:Heap)(r:Int)(s:Heap)(t:Int)(R:Value->Heap->Prop):Prop:=
 Mk a a 24/\Wn b (ak Pz 274 (a.toNat)) 274 fun c=>Sm [(aS h 3),(aS h 3),(aS h 3),(aS h 3),(aS h 0)] b c/\F3 d c h e f g i j k l m n o p q r s t b a R
def Dg(a:Int)(b h:Heap)(d e:Int)(f:ByteArray)(g i:Sl)(j k l:Int)(m n:Sl)(o:Int)(p:Heap)(q:Int)(r:Heap)(s:Int)(R:Value->Heap->Prop):Prop:=
 Mk a a 24/\Wn b (ak Pz 102 (a.toNat)) 102 fun c=>Sm [(aS h 3),(aS h 3),(aS h 3),(aS h 3),(aS h 0)] b c/\(Kh d c h e f g i j k l m n o b a p q r s R)/\Kg e c h d f g i j k l m n o b a p q r s R
def Kc(a:Int)(b h:Heap)(d:Int)(e:ByteArray)(f g:Sl)(i j k:Int)(l m:Sl)(n:Int)(o:Heap)(p:Int)(q:Heap)(r:Int)(s:Heap)(t:Int)(R:Value->Heap->Prop):Prop:=
 Mk a a 24/\Wn b (ak Pz 102 (a.toNat)) 102 fun c=>Sm [(aS h 3),(aS h 3),(aS h 3),(aS h 3),(aS h 0)] b c/\FW d c h e f g i j k l m n b a o p q r s t R
def Kb(a:Int)(b h:Heap)(d:Int)(e:ByteArray)(f g:Sl)(i j k:Int)(l m:Sl)(n:Int)(o:Heap)(p:Int)(q:Heap)(r:Int)(s:Heap)(t:Int)(R:Value->Heap->Prop):Prop:=
 Mk a a 24/\Wn b (ak Pz 274 (a.toNat)) 274 fun c=>Sm [(aS h 3),(aS h 3),(aS h 3),(aS h 3),(aS h 0)] b c/\FZ d c h e f g i j k l m n o p q r s t b a R
def De(a:Int)(b h:Heap)(d e:Int)(f:ByteArray)(g i:Sl)(j k l:Int)(m n:Sl)(o:Int)(p:Heap)(q:Int)(r:Heap)(s:Int)(R:Value->Heap->Prop):Prop:=
 Mk a a 32/\Wn b (ak Pz 192 (a.toNat)) 192 fun c=>Sm [(aS h 3),(aS h 3),(aS h 3),(aS h 3),(aS h 0)] b c/\(Kc d c h e f g i j k l m n o b a p q r s R)/\Kb e c h d f g i j k l m n o b a p q r s R
def Dd(a:Int)(b h:Heap)(d e:Int)(f:ByteArray)(g i:Sl)(j k l:Int)(m n:Sl)(o:Int)(p:Heap)(q:Int)(r:Heap)(s:Int)(R:Value->Heap->Prop):Prop:=
 Mk a a 24/\Wn b (ak Pz 274 (a.toNat)) 274 fun c=>Sm [(aS h 3),(aS h 3),(aS h 3),(aS h 3),(aS h 0)] b c/\(J8 d c h e f g i j k l m n o p q r s b a R)/\J7 e c h d f g i j k l m n o p q r s b a R
def Db(a:Int)(b h:Heap)(d e:Int)(f:ByteArray)(g i:Sl)(j k l:Int)(m n:Sl)(o:Int)(p:Heap)(q:Int)(r:Heap)(s:Int)(R:Value->Heap->Prop):Prop:=
 Mk a a 24/\Wn b (ak Pz 102 (a.toNat)) 102 fun c=>Sm [(aS h 3),(aS h 3),(aS h 3),(aS h 3),(aS h 0)] b c/\(Kf d c h e f g i j k l m n o b a p q r s R)/\J6 e c h d f g i j k l m n o b a p q r s R
def Da(a:Int)(b h:Heap)(d e:Int)(f:ByteArray)(g i:Sl)(j k l:Int)(m n:Sl)(o:Int)(p:Heap)(q:Int)(r:Heap)(s:Int)(R:Value->Heap->Prop):Prop:=
 Mk a a 32/\Wn b (ak Pz 192 (a.toNat)) 192 fun c=>Sm [(aS h 3),(aS h 3),(aS h 3),(aS h 3),(aS h 0)] b c/\(Ka d c h e f g i j k l m n o b a p q r s R)/\J3 e c h d f g i j k l m n o b a p q r s R
def C9(a:Int)(b h:Heap)(d e:Int)(f:ByteArray)(g i:Sl)(j k l:Int)(m n:Sl)(o:Int)(p:Heap)(q:Int)(r:Heap)(s:Int)(R:Value->Heap->Prop):Prop:=
 Mk a a 1/\Wn b (ak Pz 4 (a.toNat)) 4 fun c=>Sm [(aS h 3),(aS h 3),(aS h 3),(aS h 3),(aS h 0)] b c/\(Kh d c h e f g i j k l m n o p q b a r s R)/\Kg e c h d f g i j k l m n o p q b a r s R
def C8(a:Int)(b h:Heap)(d e:Int)(f:ByteArray)(g i:Sl)(j k l:Int)(m n:Sl)(o:Int)(p:Heap)(q:Int)(r:Heap)(s:Int)(R:Value->Heap->Prop):Prop:=
 Mk a a 1/\Wn b (ak Pz 4 (a.toNat)) 4 fun c=>Sm [(aS h 3),(aS h 3),(aS h 3),(aS h 3),(aS h 0)] b c/\(Kf d c h e f g i j k l m n o p q b a r s R)/\J6 e c h d f g i j k l m n o p q b a r s R
def C7(a:Int)(b h:Heap)(d e:Int)(f:ByteArray)(g i:Sl)(j k l:Int)(m n:Sl)(o:Int)(p:Heap)(q:Int)(r:Heap)(s:Int)(R:Value->Heap->Prop):Prop:=
 Mk a a 1/\Wn b (ak Pz 4 (a.toNat)) 4 fun c=>Sm [(aS h 3),(aS h 3),(aS h 3),(aS h 3),(aS h 0)] b c/\(Ke d c h e f g i j k l m n o p q b a r s R)/\J4 e c h d f g i j k l m n o p q b a r s R
def C6(a:Int)(b h:Heap)(d e:Int)(f:ByteArray)(g i:Sl)(j k l:Int)(m n:Sl)(o:Int)(p:Heap)(q:Int)(r:Heap)(s:Int)(R:Value->Heap->Prop):Prop:=
 Mk a a 32/\Wn b (ak Pz 192 (a.toNat)) 192 fun c=>Sm [(aS h 3),(aS h 3),(aS h 3),(aS h 3),(aS h 0)] b c/\(JV d c h e f g i j k l m n o p q b a r s R)/\JZ e c h d f g i j k l m n o p q b a r s R
def C5(a:Int)(b h:Heap)(d e:Int)(f:ByteArray)(g i:Sl)(j k l:Int)(m n:Sl)(o:Int)(p:Heap)(q:Int)(r:Heap)(s:Int)(R:Value->Heap->Prop):Prop:=
 Mk a a 1/\Wn b (ak Pz 4 (a.toNat)) 4 fun c=>Sm [(aS h 3),(aS h 3),(aS h 3),(aS h 3),(aS h 0)] b c/\(Kh d c h e f g i j k l m n o p q r s b a R)/\Kg e c h d f g i j k l m n o p q r s b a R
def C4(a:Int)(b h:Heap)(d e:Int)(f:ByteArray)(g i:Sl)(j k l:Int)(m n:Sl)(o:Int)(p:Heap)(q:Int)(r:Heap)(s:Int)(R:Value->Heap->Prop):Prop:=
 Mk a a 24/\Wn b (ak Pz 274 (a.toNat)) 274 fun c=>Sm [(aS h 3),(aS h 3),(aS h 3),(aS h 3),(aS h 0)] b c/\(JX d c h e f g i j k l m n o p q r s b a R)/\JW e c h d f g i j k l m n o p q r s b a R
def C3(a:Int)(b h:Heap)(d e:Int)(f:ByteArray)(g i:Sl)(j k l:Int)(m n:Sl)(o:Int)(p:Heap)(q:Int)(r:Heap)(s:Int)(R:Value->Heap->Prop):Prop:=
 Mk a a 1/\Wn b (ak Pz 4 (a.toNat)) 4 fun c=>Sm [(aS h 3),(aS h 3),(aS h 3),(aS h 3),(aS h 0)] b c/\(Kc d c h e f g i j k l m n o p q r s b a R)/\Kb e c h d f g i j k l m n o p q r s b a R
def CZ(a:Int)(b h:Heap)(d e:Int)(f:ByteArray)(g i:Sl)(j k l:Int)(m n:Sl)(o:Int)(p:Heap)(q:Int)(r:Heap)(s:Int)(R:Value->Heap->Prop):Prop:=
 Mk a a 1/\Wn b (ak Pz 4 (a.toNat)) 4 fun c=>Sm [(aS h 3),(aS h 3),(aS h 3),(aS h 3),(aS h 0)] b c/\(Kc d c h e f g i j k l m n o p q b a r s R)/\Kb e c h d f g i j k l m n o p q b a r s R
def vt(a:Int)(b h:Heap)(d e:Int)(f:ByteArray)(g i:Sl)(j k l:Int)(m n:Sl)(o:Int)(p:Heap)(q:Int)(r:Heap)(s:Int)(R:Value->Heap->Prop):Prop:=
 Mk a a 1/\Wn b (ak Pz 4 (a.toNat)) 4 fun c=>Sm [(aS h 3),(aS h 3),(aS h 3),(aS h 3),(aS h 0)] b c/\(Ka d c h e f g i j k l m n o p q b a r s R)/\J3 e c h d f g i j k l m n o p q b a r s R
def vr(a:Int)(b h:Heap)(d e:Int)(f:ByteArray)(g i:Sl)(j k l:Int)(m n:Sl)(o:Int)(p:Heap)(q:Int)(r:Heap)(s:Int)(R:Value->Heap->Prop):Prop:=
 Mk a a 1/\Wn b (ak Pz 4 (a.toNat)) 4 fun c=>Sm [(aS h 3),(aS h 3),(aS h 3),(aS h 3),(aS h 0)] b c/\(J9 d c h e f g i j k l m n o p q b a r s R)/\J2 e c h d f g i j k l m n o p q b a r s R
def vp(a:Int)(b h:Heap)(d e:Int)(f:ByteArray)(g i:Sl)(j k l:Int)(m n:Sl)(o:Int)(p:Heap)(q:Int)(r:Heap)(s:Int)(R:Value->Heap->Prop):Prop:=
 Mk a a 1/\Wn b (ak Pz 4 (a.toNat)) 4 fun c=>Sm [(aS h 3),(aS h 3),(aS h 3),(aS h 3),(aS h 0)] b c/\(J8 d c h e f g i j k l m n o p q b a r s R)/\J7 e c h d f g i j k l m n o p q b a r s R
def vo(a:Int)(b h:Heap)(d e:Int)(f:ByteArray)(g i:Sl)(j k l:Int)(m n:Sl)(o:Int)(p:Heap)(q:Int)(r:Heap)(s:Int)(R:Value->Heap->Prop):Prop:=
 Mk a a 1/\Wn b (ak Pz 4 (a.toNat)) 4 fun c=>Sm [(aS h 3),(aS h 3),(aS h 3),(aS h 3),(aS h 0)] b c/\(JY d c h e f g i j k l m n o p q r s b a R)/\J5 e c h d f g i j k l m n o p q r s b a R
def vm(a:Int)(b h:Heap)(d e:Int)(f:ByteArray)(g i:Sl)(j k l:Int)(m n:Sl)(o:Int)(p:Heap)(q:Int)(r:Heap)(s:Int)(R:Value->Heap->Prop):Prop:=
 Mk a a 1/\Wn b (ak Pz 4 (a.toNat)) 4 fun c=>Sm [(aS h 3),(aS h 3),(aS h 3),(aS h 3),(aS h 0)] b c/\(JV d c h e f g i j k l m n o p q r s b a R)/\JZ e c h d f g i j k l m n o p q r s b a R
def Km(b:Int)(g h:Heap)(c d e f:Int)(i:ByteArray)(j k:Sl)(l m n:Int)(o p:Sl)(q:Int)(R:Value->Heap->Prop):Prop:=
 Mk b b 24/\Wn g (ak Pz 102 (b.toNat)) 102 fun a=>Sm [(aS h 3),(aS h 3),(aS h 3),(aS h 3),(aS h 0)] g a/\(Mk c c 32/\Wn a (ak Pz 192 (c.toNat)) 192 fun r=>Sm [(aS h 3),(aS h 3),(aS h 3),(aS h 3),(aS h 0)] a r/\(vm d r h e f i j k l m n o p q g b a c R)/\(vo e r h d f i j k l m n o p q g b a c R)/\C4 f r h d e i j k l m n o p q g b a c R)/\(Mk d d 1/\Wn a (ak Pz 4 (d.toNat)) 4 fun s=>Sm [(aS h 3),(aS h 3),(aS h 3),(aS h 3),(aS h 0)] a s/\(C6 c s h e f i j k l m n o p q g b a d R)/\(C5 e s h c f i j k l m n o p q g b a d R)/\Dp f s h c e i j k l m n o p q g b a d R)/\(Mk e e 1/\Wn a (ak Pz 4 (e.toNat)) 4 fun t=>Sm [(aS h 3),(aS h 3),(aS h 3),(aS h 3),(aS h 0)] a t/\(Ds c t h d f i j k l m n o p q g b a e R)/\(C9 d t h c f i j k l m n o p q g b a e R)/\Dr f t h c d i j k l m n o p q g b a e R)/\Mk f f 24/\Wn a (ak Pz 274 (f.toNat)) 274 fun u=>Sm [(aS h 3),(aS h 3),(aS h 3),(aS h 3),(aS h 0)] a u/\(Dq c u h d e i j k l m n o p q g b a f R)/\(C8 d u h c e i j k l m n o p q g b a f R)/\C7 e u h c d i j k l m n o p q g b a f R
def Kl(b:Int)(g h:Heap)(c d e f:Int)(i:ByteArray)(j k:Sl)(l m n:Int)(o p:Sl)(q:Int)(R:Value->Heap->Prop):Prop:=
 Mk b b 32/\Wn g (ak Pz 192 (b.toNat)) 192 fun a=>Sm [(aS h 3),(aS h 3),(aS h 3),(aS h 3),(aS h 0)] g a/\(Mk c c 24/\Wn a (ak Pz 102 (c.toNat)) 102 fun r=>Sm [(aS h 3),(aS h 3),(aS h 3),(aS h 3),(aS h 0)] a r/\(vm d r h e f i j k l m n o p q a c g b R)/\(vo e r h d f i j k l m n o p q a c g b R)/\C4 f r h d e i j k l m n o p q a c g b R)/\(Mk d d 1/\Wn a (ak Pz 4 (d.toNat)) 4 fun s=>Sm [(aS h 3),(aS h 3),(aS h 3),(aS h 3),(aS h 0)] a s/\(Dl c s h e f i j k l m n o p q g b a d R)/\(C3 e s h c f i j k l m n o p q g b a d R)/\Dk f s h c e i j k l m n o p q g b a d R)/\(Mk e e 1/\Wn a (ak Pz 4 (e.toNat)) 4 fun t=>Sm [(aS h 3),(aS h 3),(aS h 3),(aS h 3),(aS h 0)] a t/\(Dj c t h d f i j k l m n o p q g b a e R)/\(CZ d t h c f i j k l m n o p q g b a e R)/\Di f t h c d i j k l m n o p q g b a e R)/\Mk f f 24/\Wn a (ak Pz 274 (f.toNat)) 274 fun u=>Sm [(aS h 3),(aS h 3),(aS h 3),(aS h 3),(aS h 0)] a u/\(Dh c u h d e i j k l m n o p q g b a f R)/\(vt d u h c e i j k l m n o p q g b a f R)/\vr e u h c d i j k l m n o p q g b a f R
def Kk(b:Int)(g h:Heap)(c d e f:Int)(i:ByteArray)(j k:Sl)(l m n:Int)(o p:Sl)(q:Int)(R:Value->Heap->Prop):Prop:=
 Mk b b 1/\Wn g (ak Pz 4 (b.toNat)) 4 fun a=>Sm [(aS h 3),(aS h 3),(aS h 3),(aS h 3),(aS h 0)] g a/\(Mk c c 24/\Wn a (ak Pz 102 (c.toNat)) 102 fun r=>Sm [(aS h 3),(aS h 3),(aS h 3),(aS h 3),(aS h 0)] a r/\(C6 d r h e f i j k l m n o p q a c g b R)/\(C5 e r h d f i j k l m n o p q a c g b R)/\Dp f r h d e i j k l m n o p q a c g b R)/\(Mk d d 32/\Wn a (ak Pz 192 (d.toNat)) 192 fun s=>Sm [(aS h 3),(aS h 3),(aS h 3),(aS h 3),(aS h 0)] a s/\(Dl c s h e f i j k l m n o p q a d g b R)/\(C3 e s h c f i j k l m n o p q a d g b R)/\Dk f s h c e i j k l m n o p q a d g b R)/\(Mk e e 1/\Wn a (ak Pz 4 (e.toNat)) 4 fun t=>Sm [(aS h 3),(aS h 3),(aS h 3),(aS h 3),(aS h 0)] a t/\(Dg c t h d f i j k l m n o p q g b a e R)/\(De d t h c f i j k l m n o p q g b a e R)/\Dd f t h c d i j k l m n o p q g b a e R)/\Mk f f 24/\Wn a (ak Pz 274 (f.toNat)) 274 fun u=>Sm [(aS h 3),(aS h 3),(aS h 3),(aS h 3),(aS h 0)] a u/\(Db c u h d e i j k l m n o p q g b a f R)/\(Da d u h c e i j k l m n o p q g b a f R)/\vp e u h c d i j k l m n o p q g b a f R
def Kj(b:Int)(g h:Heap)(c d e f:Int)(i:ByteArray)(j k:Sl)(l m n:Int)(o p:Sl)(q:Int)(R:Value->Heap->Prop):Prop:=
 Mk b b 1/\Wn g (ak Pz 4 (b.toNat)) 4 fun a=>Sm [(aS h 3),(aS h 3),(aS h 3),(aS h 3),(aS h 0)] g a/\(Mk c c 24/\Wn a (ak Pz 102 (c.toNat)) 102 fun r=>Sm [(aS h 3),(aS h 3),(aS h 3),(aS h 3),(aS h 0)] a r/\(Ds d r h e f i j k l m n o p q a c g b R)/\(C9 e r h d f i j k l m n o p q a c g b R)/\Dr f r h d e i j k l m n o p q a c g b R)/\(Mk d d 32/\Wn a (ak Pz 192 (d.toNat)) 192 fun s=>Sm [(aS h 3),(aS h 3),(aS h 3),(aS h 3),(aS h 0)] a s/\(Dj c s h e f i j k l m n o p q a d g b R)/\(CZ e s h c f i j k l m n o p q a d g b R)/\Di f s h c e i j k l m n o p q a d g b R)/\(Mk e e 1/\Wn a (ak Pz 4 (e.toNat)) 4 fun t=>Sm [(aS h 3),(aS h 3),(aS h 3),(aS h 3),(aS h 0)] a t/\(Dg c t h d f i j k l m n o p q a e g b R)/\(De d t h c f i j k l m n o p q a e g b R)/\Dd f t h c d i j k l m n o p q a e g b R)/\Mk f f 24/\Wn a (ak Pz 274 (f.toNat)) 274 fun u=>Sm [(aS h 3),(aS h 3),(aS h 3),(aS h 3),(aS h 0)] a u/\(Du c u h d e i j k l m n o p q g b a f R)/\(Dt d u h c e i j k l m n o p q g b a f R)/\Dm e u h c d i j k l m n o p q g b a f R
def Ki(b:Int)(g h:Heap)(c d e f:Int)(i:ByteArray)(j k:Sl)(l m n:Int)(o p:Sl)(q:Int)(R:Value->Heap->Prop):Prop:=
 Mk b b 24/\Wn g (ak Pz 274 (b.toNat)) 274 fun a=>Sm [(aS h 3),(aS h 3),(aS h 3),(aS h 3),(aS h 0)] g a/\(Mk c c 24/\Wn a (ak Pz 102 (c.toNat)) 102 fun r=>Sm [(aS h 3),(aS h 3),(aS h 3),(aS h 3),(aS h 0)] a r/\(Dq d r h e f i j k l m n o p q a c g b R)/\(C8 e r h d f i j k l m n o p q a c g b R)/\C7 f r h d e i j k l m n o p q a c g b R)/\(Mk d d 32/\Wn a (ak Pz 192 (d.toNat)) 192 fun s=>Sm [(aS h 3),(aS h 3),(aS h 3),(aS h 3),(aS h 0)] a s/\(Dh c s h e f i j k l m n o p q a d g b R)/\(vt e s h c f i j k l m n o p q a d g b R)/\vr f s h c e i j k l m n o p q a d g b R)/\(Mk e e 1/\Wn a (ak Pz 4 (e.toNat)) 4 fun t=>Sm [(aS h 3),(aS h 3),(aS h 3),(aS h 3),(aS h 0)] a t/\(Db c t h d f i j k l m n o p q a e g b R)/\(Da d t h c f i j k l m n o p q a e g b R)/\vp f t h c d i j k l m n o p q a e g b R)/\Mk f f 1/\Wn a (ak Pz 4 (f.toNat)) 4 fun u=>Sm [(aS h 3),(aS h 3),(aS h 3),(aS h 3),(aS h 0)] a u/\(Du c u h d e i j k l m n o p q a f g b R)/\(Dt d u h c e i j k l m n o p q a f g b R)/\Dm e u h c d i j k l m n o p q a f g b R
def W49(pa:ByteArray)(pb pc:Sl)(pd pe pf:Int)(pg ph:Sl)(b:Int):Prop:=
 Wn h (L0 pa pb pc pd pe pf pg ph) 27 fun r=>∃s t u v w x y z,cW r (aS h 0) s t u v w x y z/\Fn Pz 40 #[.agg ⟨(L0 s t u v w x y z)⟩] r (fun C a=>∃A,iB C A/\sB (!A) (R (.tuple ⟨[.pointer none,vI 1]⟩) a) (sB (decide (b<0)) (R (.tuple ⟨[.pointer none,vI 1]⟩) a) (∃B,rS a (aS h 1) B/\sB (decide (b>=(B.n:Int))) (R (.tuple ⟨[.pointer none,vI 1]⟩) a) (∃c d e f g i j k,cW a (aS h 0) c d e f g i j k/\∃l,rI a (aS h 3) l/\∃m,rI a (aS h 3) m/\∃o,rI a (aS h 3) o/\∃p,rI a (aS h 3) p/\∃q,rI a (aS h 3) q/\(Km l a h m o p q c d e f g i j k b R)/\(Kl m a h l o p q c d e f g i j k b R)/\(Kk o a h l m p q c d e f g i j k b R)/\(Kj p a h l m o q c d e f g i j k b R)/\Ki q a h l m o p c d e f g i j k b R))))
theorem adl(pa:ByteArray)(pb pc:Sl)(pd pe pf:Int)(pg ph:Sl)(p1:Int)(H:@W49 h R pa pb pc pd pe pf pg ph p1):Fn Pz 49 #[.agg ⟨(L0 pa pb pc pd pe pf pg ph)⟩,vI p1] h R:=aR (A:=(.s .z (.s .z (.s .z (.s (AI 50) (.s (AI 118) (.s (AI 147) .z))))))) H
def W82(b:Addr):Prop:=
 ∃v,rI h ⟨b.block,b.off+3,none⟩ v /\
 QI 0 h fun I2 c l m4=>
 sB (decide (c<v))
 (∃p,rS l ⟨b.block,b.off+9,none⟩ p /\
 NB p.a fun b8 o9=>Ib c p.n /\
 ∃m,rS l ⟨b8,o9+c.toNat*1,none⟩ m /\
 QI 0 l fun w j d x=>
 sB (decide (j<(m.n:Int)))
 (NB m.a fun p0 q0=>Ib j m.n /\
 ∃e,rI d ⟨p0,q0+j.toNat*1,none⟩ e /\
 ∃q,rS d ⟨b.block,b.off+6,none⟩ q /\
 NB q.a fun r0 s0=>Ib e q.n /\
 ∃y,rI d ⟨r0,s0+e.toNat*6+1+1,none⟩ y /\
 ∃z,rI d ⟨b.block,b.off+8,none⟩ z /\
 sB (y != z)
 (∃A,A<x/\w (wrap .i64 (j+1)) d A)
 (∃B C D E F G H I,cW d b B C D E F G H I /\
 Fn Pz 31 #[.agg ⟨(L0 B C D E F G H I)⟩,vI e] d
 (fun t0 u0=>∃(o:Sl) (v0:Int),t0=.tuple ⟨[vS o,vI v0]⟩ /\
 QI 0 u0 fun J k f K=>
 sB (decide (k<(o.n:Int)))
 (NB o.a fun w0 x0=>Ib k o.n /\
 ∃(L M:Int),aY f ⟨w0,x0+k.toNat*2,none⟩ [vI L,vI M] /\
 Wn f [vI 0,vI 0] 72 fun y0=>
 Wp y0 (aS f 0) 2 [vI L,vI M] fun g=>
 ∃N,rI g (aS f 0) N /\
 ∃r,rS g ⟨b.block,b.off+6,none⟩ r /\
 NB r.a fun z0 A0=>Ib e r.n /\
 ∃O,rI g ⟨z0,A0+e.toNat*6+1,none⟩ O /\
 sB (N==O)
 (∃P,P<K/\J (wrap .i64 (k+1)) g P)
 (∃Q S T U V W X Y,cW g b Q S T U V W X Y /\
 ∃(Z a0:Int),aY g (aS f 0) [vI Z,vI a0] /\
 Fn Pz 32 #[.agg ⟨(L0 Q S T U V W X Y)⟩,vI e,.agg ⟨[vI Z,vI a0]⟩] g
 (fun B0 i=>∃(b0:Sl) (C0:Int),B0=.tuple ⟨[vS b0,vI C0]⟩ /\
 ∃s,rS i ⟨b.block,b.off+14,none⟩ s /\
 ∃t,rS i ⟨b.block,b.off+14,none⟩ t /\
 NB t.a fun c0 d0=>Ib c t.n /\
 ∃e0,rS i ⟨c0,d0+c.toNat*1,none⟩ e0 /\
 ∃(f0 g0:Int),aY i (aS f 0) [vI f0,vI g0] /\
 Wn i [vI e,vI (wrap .i64 (1+(b0.n:Int))),vI f0,vI g0] 276 fun u=>
 Sm [⟨c0,d0+c.toNat*1,none⟩,⟨b.block,b.off+14,none⟩,⟨b.block,b.off+14,none⟩] i u /\
 App Pz 274 274 (vS e0) (.slice (some (aS i 0)) 1 1) u fun D0 h0=>
 Sm [⟨b.block,b.off+14,none⟩] u h0 /\
 NB s.a fun E0 F0=>Ib c s.n /\
 Wp h0 ⟨E0,F0+c.toNat*1,none⟩ 1 [vS D0] fun G0=>
 ∃i0,i0<K/\J (wrap .i64 (k+1)) G0 i0)))
 (∃j0,j0<x/\w (wrap .i64 (j+1)) f j0))))
 (∃k0,k0<m4/\I2 (wrap .i64 (c+1)) d k0))
 (R (.tuple ⟨[]⟩) l)
theorem acQ(p0:Addr)(H:@W82 h R p0):Fn Pz 82 #[.pointer (some p0)] h R:=aR (A:=(.s .z (.b (.l [(16,.one (.int .i64))] (.s .z (.s .z (.s (.b (.s .z (.s .z (.b (.l [(27,.one (.int .i64))] (.s .z (.s .z (.s (.b (.s .z (.s .z (.s .z (AI 57))))) .z)))))))) .z))))))) H
def Tk(q:Int)(f r:Heap)(b:Addr)(d h:Heap)(R:Value->Heap->Prop)(k:Int):Prop:=
 sB (q==1)
 (∃(s t:Int),aY f (aS r 0) [vI s,vI t] /\
 Fn Pz 170 #[.pointer (some b),.agg ⟨[vI s,vI t]⟩] f
 (fun k2 l=>∃(u:Bool) (v w:Int) (l2:Bool),k2=.tuple ⟨[.agg ⟨(L1 u v w)⟩,.bool l2]⟩ /\
 Wn l [.bool false,vI 0,vI 0] 188 fun m2=>
 Wp m2 (aS l 0) 3 (L1 u v w) fun x=>
 ∃y z A,iW x (aS l 0) y z A /\
 Fn Pz 171 #[.pointer (some b),.agg ⟨(L1 y z A)⟩] x
 (fun n2 o2=>∃(B:Int) (C:Bool) (D E:Int) (F:Sl),n2=.agg ⟨(L5 B C D E F)⟩ /\
 Wp o2 (aS d 4) 5 (L5 B C D E F) fun G=>
 ∃H I J K L M N O P Q S T U V,mI G (aS d 0) H I J K L M N O P Q S T U V /\
 Wp G (aS h 0) 14 (L4 H I J K L M N O P Q S T U V) fun W=>
 ∃X Y Z a0 b0 c0 d0 e0 f0 g0 h0 i0 j0 k0,mI W (aS h 0) X Y Z a0 b0 c0 d0 e0 f0 g0 h0 i0 j0 k0 /\
 R (.tuple ⟨[.agg ⟨(L4 X Y Z a0 b0 c0 d0 e0 f0 g0 h0 i0 j0 k0)⟩,vI k]⟩) W)))
 (sB (q==4)
 (∃(l0 m0:Int),aY f (aS r 0) [vI l0,vI m0] /\
 Fn Pz 152 #[.pointer (some b),.agg ⟨[vI l0,vI m0]⟩] f
 (fun p2 e=>∃(n0 o0 p0 q0:Int) (q2:Bool),p2=.tuple ⟨[.agg ⟨(L6 n0 o0 p0 q0)⟩,.bool q2]⟩ /\
 Wn e [vI 0,vI 0,vI 0,vI 0] 276 fun r2=>
 Wp r2 (aS e 0) 4 (L6 n0 o0 p0 q0) fun g=>
 ∃r0 s0 t0 u0 v0 w0 x0 y0,cW g b r0 s0 t0 u0 v0 w0 x0 y0 /\
 ∃z0,rI g (aS e 0) z0 /\
 ∃(A0 B0:Int),aY g (aS e 2) [vI A0,vI B0] /\
 Fn Pz 32 #[.agg ⟨(L0 r0 s0 t0 u0 v0 w0 x0 y0)⟩,vI z0,.agg ⟨[vI A0,vI B0]⟩] g
 (fun s2 c=>∃(C0:Sl) (t2:Int),s2=.tuple ⟨[vS C0,vI t2]⟩ /\
 ∃m,rS c ⟨b.block,b.off+6,none⟩ m /\
 ∃i,rI c (aS e 0) i /\
 NB m.a fun D0 E0=>Ib i m.n /\
 ∃F0 G0 H0,iV c ⟨D0,E0+i.toNat*6+1,none⟩ F0 G0 H0 /\
 Wn c [vI 0,vI 0,vI 0] 65 fun I0=>
 Sm [⟨D0,E0+i.toNat*6+1,none⟩,(aS e 0),⟨b.block,b.off+6,none⟩] c I0 /\
 Wp I0 (aS c 0) 3 (L2 F0 G0 H0) fun j=>
 ∃J0,rS j (aS d 2) J0 /\
 ∃K0 M0 N0,iV j (aS c 0) K0 M0 N0 /\
 Wn j (L2 K0 M0 N0) 65 fun u2=>
 App Pz 30 30 (vS J0) (.slice (some (aS j 0)) 1 1) u2 fun v2 w2=>
 App Pz 30 30 (vS v2) (vS C0) w2 fun x2 y2=>
 Wp y2 (aS d 2) 1 [vS x2] fun o=>
 ∃O0,rI o (aS e 2) O0 /\
 ∃P0,rI o (aS e (2+1)) P0 /\
 Fn Pz 171 #[.pointer (some b),.agg ⟨[.bool false,vI O0,vI P0]⟩] o
 (fun z2 A2=>∃(Q0:Int) (R0:Bool) (S0 T0:Int) (U0:Sl),z2=.agg ⟨(L5 Q0 R0 S0 T0 U0)⟩ /\
 Wp A2 (aS d 4) 5 (L5 Q0 R0 S0 T0 U0) fun p=>
 ∃V0,rI p (aS c 0) V0 /\
 ∃W0,rI p (aS c 2) W0 /\
 Fn Pz 171 #[.pointer (some b),.agg ⟨[.bool false,vI V0,vI W0]⟩] p
 (fun B2 C2=>∃(X0:Int) (Y0:Bool) (Z0 a1:Int) (b1:Sl),B2=.agg ⟨(L5 X0 Y0 Z0 a1 b1)⟩ /\
 Wp C2 (aS d 9) 5 (L5 X0 Y0 Z0 a1 b1) fun c1=>
 ∃d1 e1 f1 g1 h1 i1 j1 k1 l1 m1 n1 o1 p1 q1,mI c1 (aS d 0) d1 e1 f1 g1 h1 i1 j1 k1 l1 m1 n1 o1 p1 q1 /\
 Wp c1 (aS h 0) 14 (L4 d1 e1 f1 g1 h1 i1 j1 k1 l1 m1 n1 o1 p1 q1) fun r1=>
 ∃s1 t1 u1 v1 w1 x1 y1 z1 A1 B1 C1 D1 E1 F1,mI r1 (aS h 0) s1 t1 u1 v1 w1 x1 y1 z1 A1 B1 C1 D1 E1 F1 /\
 R (.tuple ⟨[.agg ⟨(L4 s1 t1 u1 v1 w1 x1 y1 z1 A1 B1 C1 D1 E1 F1)⟩,vI k]⟩) r1)))))
 (∃G1 H1 I1 J1 K1 M1 N1 O1 P1 Q1 R1 S1 T1 U1,mI f (aS d 0) G1 H1 I1 J1 K1 M1 N1 O1 P1 Q1 R1 S1 T1 U1 /\
 Wp f (aS h 0) 14 (L4 G1 H1 I1 J1 K1 M1 N1 O1 P1 Q1 R1 S1 T1 U1) fun V1=>
 ∃W1 X1 Y1 Z1 a2 b2 c2 d2 e2 f2 g2 h2 i2 j2,mI V1 (aS h 0) W1 X1 Y1 Z1 a2 b2 c2 d2 e2 f2 g2 h2 i2 j2 /\
 R (.tuple ⟨[.agg ⟨(L4 W1 X1 Y1 Z1 a2 b2 c2 d2 e2 f2 g2 h2 i2 j2)⟩,vI k]⟩) V1))
def JU(p f:Heap)(R:Option Nat)(S e:Heap)(g:Addr)(q:Nat)(r:Heap->Nat->Prop):Prop:=
 ∃(s t:Int),aY p (aS f 0) [vI s,vI t] /\
 bE Pz (Instr.lookup 93 (.map R) (.agg ⟨[vI s,vI t]⟩) false) p
 (fun T U=>∃h,iS T h /\
 Fn Pz 167 #[vS h,.func (.func 168) #[] #[.pointer (some (aS S 0)),.pointer (some (aS f 0))]] U
 (fun V c=>∃i,iI V i /\
 NB h.a fun W X=>Ib i h.n /\
 ∃u v w x,Gr c ⟨W,X+i.toNat*4,none⟩ u v w x /\
 Wn c [vI 0,vI 0,vI 0,vI 0] 200 fun Y=>
 Wp Y (aS c 0) 4 (L6 u v w x) fun d=>
 ∃j:Heap->Prop,
 (∃y,rI d (aS c 0) y /\
 sB (decide (y>=0))
 (∃z,rS d (aS e 2) z /\
 ∃k,rS d ⟨g.block,g.off+6,none⟩ k /\
 ∃l,rI d (aS c 0) l /\
 NB k.a fun Z a0=>Ib l k.n /\
 ∃A B C,iV d ⟨Z,a0+l.toNat*6+1,none⟩ A B C /\
 Wn d (L2 A B C) 65 fun D=>
 Sm [(aS e 2)] d D /\
 App Pz 30 30 (vS z) (.slice (some (aS d 0)) 1 1) D fun b0 c0=>
 Wp c0 (aS e 2) 1 [vS b0] fun d0=>
 j d0)
 (j d)) /\
 ∀(_:Env) (b:Heap),j b ->
 (∃E,rI b (aS c 1) E /\
 sB (decide (E>=0))
 (∃F,rS b (aS e 3) F /\
 ∃m,rS b ⟨g.block,g.off+6,none⟩ m /\
 ∃o,rI b (aS c 1) o /\
 NB m.a fun e0 f0=>Ib o m.n /\
 ∃G H I,iV b ⟨e0,f0+o.toNat*6+1,none⟩ G H I /\
 Wn b (L2 G H I) 65 fun J=>
 Sm [(aS e 3)] b J /\
 App Pz 30 30 (vS F) (.slice (some (aS b 0)) 1 1) J fun g0 h0=>
 Wp h0 (aS e 3) 1 [vS g0] fun K=>
 ∃(L M:Int),aY K (aS c 2) [vI L,vI M] /\
 Wp K (aS f 0) 2 [vI L,vI M] fun i0=>
 ∃N,N<q/\r i0 N)
 (∃(O P:Int),aY b (aS c 2) [vI O,vI P] /\
 Wp b (aS f 0) 2 [vI O,vI P] fun j0=>
 ∃Q,Q<q/\r j0 Q))))
def acj(p f:Heap)(R:Option Nat)(S e:Heap)(g:Addr)(q:Nat)(r:Heap->Nat->Prop):Prop:=
 ∃(s t:Int),aY p (aS f 0) [vI s,vI t] /\
 bE Pz (Instr.lookup 93 (.map R) (.agg ⟨[vI s,vI t]⟩) false) p
 (fun T U=>∃h,iS T h /\
 Fn Pz 167 #[vS h,.func (.func 168) #[] #[.pointer (some (aS S 0)),.pointer (some (aS f 0))]] U
 (fun V c=>∃i,iI V i /\
 NB h.a fun W X=>Ib i h.n /\
 ∃u v w x,Gr c ⟨W,X+i.toNat*4,none⟩ u v w x /\
 Wn c [vI 0,vI 0,vI 0,vI 0] 200 fun Y=>
 Wp Y (aS c 0) 4 (L6 u v w x) fun d=>
 ∃j:Heap->Prop,
 (∃y,rI d (aS c 0) y /\
 sB (decide (y>=0))
 (∃z,rS d (aS e 2) z /\
 ∃k,rS d ⟨g.block,g.off+6,none⟩ k /\
 ∃l,rI d (aS c 0) l /\
 NB k.a fun Z a0=>Ib l k.n /\
 ∃A B C,iV d ⟨Z,a0+l.toNat*6+1,none⟩ A B C /\
 Wn d (L2 A B C) 65 fun D=>
 Sm [(aS e 2)] d D /\
 App Pz 30 30 (vS z) (.slice (some (aS d 0)) 1 1) D fun b0 c0=>
 Wp c0 (aS e 2) 1 [vS b0] fun d0=>
 j d0)
 (j d)) /\
 ∀(_:Env) (b:Heap),j b ->
 (∃E,rI b (aS c 1) E /\
 sB (decide (E>=0))
 (∃F,rS b (aS e 3) F /\
 ∃m,rS b ⟨g.block,g.off+6,none⟩ m /\
 ∃o,rI b (aS c 1) o /\
 NB m.a fun e0 f0=>Ib o m.n /\
 ∃G H I,iV b ⟨e0,f0+o.toNat*6+1,none⟩ G H I /\
 Wn b (L2 G H I) 65 fun J=>
 Sm [(aS e 3)] b J /\
 App Pz 30 30 (vS F) (.slice (some (aS b 0)) 1 1) J fun g0 h0=>
 Wp h0 (aS e 3) 1 [vS g0] fun K=>
 ∃(L M:Int),aY K (aS c 2) [vI L,vI M] /\
 Wp K (aS f 0) 2 [vI L,vI M] fun i0=>
 ∃N,N<q/\r i0 N)
 (∃(O P:Int),aY b (aS c 2) [vI O,vI P] /\
 Wp b (aS f 0) 2 [vI O,vI P] fun j0=>
 ∃Q,Q<q/\r j0 Q))))
def W96(a:Addr)(e:Int)(U:Sl)(i:Option Nat):Prop:=
 Wn h [vI 0,vI 0,vN,vN,vI 0,.bool false,vI 0,vI 0,vN,vI 0,.bool false,vI 0,vI 0,vN] 35 fun V=>
 Fn Pz 164 #[.pointer (some a),vI e,vS U,.map i] V
 (fun W d=>∃n:Option Nat,W=.map n /\
 Wn d [.map none] 293 fun X=>
 Wp X (aS d 0) 1 [.map n] fun b=>
 ∃o,rI b ⟨a.block,a.off+4,none⟩ o /\
 ∃p,rI b ⟨a.block,a.off+4,none⟩ p /\
 Wn b [vI 0,vI 0] 97 fun q=>
 Sm [⟨a.block,a.off+4,none⟩,⟨a.block,a.off+4,none⟩] b q /\
 Wp q (aS b 0) 2 [vI o,vI p] fun j=>
 ∃r:Option Nat,hc j (aS d 0)=some (.map r) /\
 ∃(s t:Int),aY j (aS b 0) [vI s,vI t] /\
 Fn Pz 165 #[.map r,.agg ⟨[vI s,vI t]⟩] j
 (fun Y c=>∃k,iI Y k /\
 sB (k==1073741824)
 (Wp c (aS h 0) 14 [vI 0,vI 0,vN,vN,vI 0,.bool false,vI 0,vI 0,vN,vI 0,.bool false,vI 0,vI 0,vN] fun u=>
 ∃v w x y z A B C D E F G H I,mI u (aS h 0) v w x y z A B C D E F G H I /\
 R (.tuple ⟨[.agg ⟨(L4 v w x y z A B C D E F G H I)⟩,vI 1073741824]⟩) u)
 (∃J,rI c ⟨a.block,a.off+8,none⟩ J /\
 Wn c [vI 0,vI 0,vN,vN,vI 0,.bool false,vI 0,vI 0,vN,vI 0,.bool false,vI 0,vI 0,vN] 35 fun Z=>
 Wp Z (aS c 0) 14 [vI e,vI J,vN,vN,vI 0,.bool false,vI 0,vI 0,vN,vI 0,.bool false,vI 0,vI 0,vN] fun a0=>
 ∃f:Heap->Nat->Prop,(∃b0,f a0 b0) /\
 ∀(_:Env) (l:Heap) (m:Nat),f l m ->
 (∃(K L:Int),aY l (aS b 0) [vI K,vI L] /\
 Fn Pz 166 #[.pointer (some a),vI e,.agg ⟨[vI K,vI L]⟩] l
 (fun c0 g=>∃(M:Int) (N:Bool),c0=.tuple ⟨[vI M,.bool N]⟩ /\
 sB N
 (∃O:Option Nat,hc g (aS d 0)=some (.map O) /\
 ∃(P Q:Int),aY g (aS b 0) [vI P,vI Q] /\
 Fn Pz 165 #[.map O,.agg ⟨[vI P,vI Q]⟩] g
 (fun d0 S=>∃T,iI d0 T /\
 sB (M==T)
 (Tk e S b a c h R k)
 (JU S b i d c a m f)))
 (acj g b i d c a m f))))))
theorem acD(p0:Addr)(p1:Int)(p2:Sl)(p3:Option Nat)(H:@W96 h R p0 p1 p2 p3):Fn Pz 96 #[.pointer (some p0),vI p1,vS p2,.map p3] h R:=aR (A:=(.s .z (.s .z (.s .z (.s .z (.s .z (.s .z (.s (.b (.l [] (.b (.s .z (.s .z (.s .z (.j [] .z .z))))))) .z)))))))) H
def abh(g:Sl)(m:Value):Prop:=
 QI 0 h fun k b f l=>
 sB (decide (b<(g.n:Int)))
 (NB g.a fun o p=>Ib b g.n /\
 ∃i,rI f ⟨o,p+b.toNat*1,none⟩ i /\
 match m with | .func (.func g9) fa10 fc11=>(bif aF Pz g9 then Fn Pz g9 (fa10 ++ #[vI i]++fc11) f
 (fun j c=>∃d,iB j d /\
 sB d
 (R (vI b) c)
 (∃e,e<l/\k (wrap .i64 (b+1)) c e)) else rH Pz g9 (fa10 ++ #[vI i]++fc11) f
 (fun j c=>∃d,iB j d /\
 sB d
 (R (vI b) c)
 (∃e,e<l/\k (wrap .i64 (b+1)) c e))) | _=>False)
 (R (vI (-1)) f)
theorem VY(p0:Sl)(p1:Value)(H:@abh h R p0 p1):Fn Pz 172 #[vS p0,p1] h R:=aR (A:=(.s .z (.s (AI 8) .z))) H
def abg(g:Int)(i o p:Addr):Prop:=
 ∃b,rS h i b /\
 ∃j:Option Addr,hc h o=some (.pointer j) /\
 NC j fun k=>∃c,rS h ⟨k.block,k.off+6,none⟩ c /\
 NB c.a fun q r=>Ib g c.n /\
 ∃d,rI h ⟨q,r+g.toNat*6+4,none⟩ d /\
 NB b.a fun s t=>Ib d b.n /\
 ∃l,rI h ⟨s,t+d.toNat*1,none⟩ l /\
 ∃e,rS h i e /\
 ∃f,rI h p f /\
 NB e.a fun u v=>Ib f e.n /\
 ∃m,rI h ⟨u,v+f.toNat*1,none⟩ m /\
 R (.bool (l==(wrap .i64 (m-1)))) h
theorem VX(p0:Int)(c0 c1 c2:Addr)(H:@abg h R p0 c0 c1 c2):Fn Pz 173 #[vI p0,.pointer (some c0),.pointer (some c1),.pointer (some c2)] h R:=aR (A:=.z) H
def abf(g:Sl)(p:Value):Prop:=
 QI 0 h fun m b f o=>
 sB (decide (b<(g.n:Int)))
 (NB g.a fun q r=>Ib b g.n /\
 ∃i j k,iW f ⟨q,r+b.toNat*3,none⟩ i j k /\
 match p with | .func (.func g11) fa12 fc13=>(bif aF Pz g11 then Fn Pz g11 (fa12 ++ #[.agg ⟨(L1 i j k)⟩]++fc13) f
 (fun l c=>∃d,iB l d /\
 sB d
 (R (vI b) c)
 (∃e,e<o/\m (wrap .i64 (b+1)) c e)) else rH Pz g11 (fa12 ++ #[.agg ⟨(L1 i j k)⟩]++fc13) f
 (fun l c=>∃d,iB l d /\
 sB d
 (R (vI b) c)
 (∃e,e<o/\m (wrap .i64 (b+1)) c e))) | _=>False)
 (R (vI (-1)) f)
theorem VW(p0:Sl)(p1:Value)(H:@abf h R p0 p1):Fn Pz 174 #[vS p0,p1] h R:=aR (A:=(.s .z (.s (AI 8) .z))) H
def abe(pa:Bool)(pb pc:Int):Prop:=
 Wn h (L1 pa pb pc) 188 fun a=>
 ∃b,rB a (aS h 0) b /\
 R (.bool (!b)) a
theorem VV(pa:Bool)(pb pc:Int)(H:@abe h R pa pb pc):Fn Pz 175 #[.agg ⟨(L1 pa pb pc)⟩] h R:=aR (A:=.z) H
def Tj(b h o d e:Heap)(R:Value->Heap->Prop)(p:Int):Prop:=
 ∃q:Option Addr,hc b (aS h 0)=some (.pointer q) /\
 NC q fun f=>∃k,rS b ⟨f.block,f.off+10,none⟩ k /\
 ∃g,rI b (aS o 0) g /\
 NB k.a fun r s=>Ib g k.n /\
 ∃(t:Sl) (u:Bool),aY b ⟨r,s+g.toNat*2,none⟩ [vS t,.bool u] /\
 Wn b [vN,.bool false] 195 fun v=>
 Sm [⟨r,s+g.toNat*2,none⟩,(aS o 0),⟨f.block,f.off+10,none⟩,(aS h 0)] b v /\
 Wp v (aS b 0) 2 [vS t,.bool u] fun i=>
 ∃w:Option Addr,hc i (aS h 0)=some (.pointer w) /\
 ∃l,rS i (aS b 0) l /\
 NB l.a fun Y0 Z0=>Ib 0 l.n /\
 ∃x y z,iW i ⟨Y0,Z0+Int.toNat 0*3,none⟩ x y z /\
 Fn Pz 171 #[.pointer w,.agg ⟨(L1 x y z)⟩] i
 (fun a1 b1=>∃(A:Int) (B:Bool) (C D:Int) (E:Sl),a1=.agg ⟨(L5 A B C D E)⟩ /\
 Wp b1 (aS d 4) 5 (L5 A B C D E) fun c1=>
 Wp c1 (aS d 9) 5 [vI (-1),.bool false,vI 0,vI 0,vN] fun F=>
 ∃G,rS F (aS b 0) G /\
 Fn Pz 174 #[vS G,.func (.func 175) #[] #[]] F
 (fun d1 c=>∃j,iI d1 j /\
 sB (decide (j>=0))
 (∃H:Option Addr,hc c (aS h 0)=some (.pointer H) /\
 ∃m,rS c (aS b 0) m /\
 NB m.a fun e1 f1=>Ib j m.n /\
 ∃I J K,iW c ⟨e1,f1+j.toNat*3,none⟩ I J K /\
 Fn Pz 171 #[.pointer H,.agg ⟨(L1 I J K)⟩] c
 (fun g1 h1=>∃(L:Int) (M:Bool) (N O:Int) (P:Sl),g1=.agg ⟨(L5 L M N O P)⟩ /\
 Wp h1 (aS d 9) 5 (L5 L M N O P) fun Q=>
 ∃S T U V W X Y Z a0 b0 c0 d0 e0 f0,mI Q (aS d 0) S T U V W X Y Z a0 b0 c0 d0 e0 f0 /\
 Wp Q (aS e 0) 14 (L4 S T U V W X Y Z a0 b0 c0 d0 e0 f0) fun g0=>
 ∃h0 i0 j0 k0 l0 m0 n0 o0 p0 q0 r0 s0 t0 u0,mI g0 (aS e 0) h0 i0 j0 k0 l0 m0 n0 o0 p0 q0 r0 s0 t0 u0 /\
 R (.tuple ⟨[.agg ⟨(L4 h0 i0 j0 k0 l0 m0 n0 o0 p0 q0 r0 s0 t0 u0)⟩,vI (wrap .i64 (2*p))]⟩) g0))
 (∃v0 w0 x0 y0 z0 A0 B0 C0 D0 E0 F0 G0 H0 I0,mI c (aS d 0) v0 w0 x0 y0 z0 A0 B0 C0 D0 E0 F0 G0 H0 I0 /\
 Wp c (aS e 0) 14 (L4 v0 w0 x0 y0 z0 A0 B0 C0 D0 E0 F0 G0 H0 I0) fun J0=>
 ∃K0 L0 M0 N0 O0 P0 Q0 R0 S0 T0 U0 V0 W0 X0,mI J0 (aS e 0) K0 L0 M0 N0 O0 P0 Q0 R0 S0 T0 U0 V0 W0 X0 /\
 R (.tuple ⟨[.agg ⟨(L4 K0 L0 M0 N0 O0 P0 Q0 R0 S0 T0 U0 V0 W0 X0)⟩,vI (wrap .i64 (2*p))]⟩) J0)))
def Tf(b h c D p:Heap)(E:Nat)(F:Heap->Nat->Prop):Prop:=
 ∃G:Option Addr,hc b (aS h 0)=some (.pointer G) /\
 NC G fun d=>∃j,rS b ⟨d.block,d.off+6,none⟩ j /\
 ∃H:Option Addr,hc b (aS h 0)=some (.pointer H) /\
 NC H fun e=>∃v,rS b ⟨e.block,e.off+9,none⟩ v /\
 ∃g,rI b (aS c 0) g /\
 NB v.a fun k l=>Ib g v.n /\
 ∃m,rS b ⟨k,l+g.toNat*1,none⟩ m /\
 ∃I:Option Addr,hc b (aS h 0)=some (.pointer I) /\
 NC I fun i=>∃w,rS b ⟨i.block,i.off+9,none⟩ w /\
 ∃o,rI b (aS c 0) o /\
 NB w.a fun x y=>Ib o w.n /\
 ∃z,rS b ⟨x,y+o.toNat*1,none⟩ z /\
 (Fn Pz 172 #[vS z,.func (.func 173) #[] #[.pointer (some (aS D 0)),.pointer (some (aS h 0)),.pointer (some (aS c 0))]] b
 (fun o0 f=>∃q,iI o0 q /\
 Sm [⟨k,l+g.toNat*1,none⟩,(aS c 0),⟨e.block,e.off+9,none⟩,(aS h 0),⟨d.block,d.off+6,none⟩,(aS h 0)] b f /\
 NB m.a fun J K=>Ib q m.n /\
 ∃r,rI f ⟨J,K+q.toNat*1,none⟩ r /\
 NB j.a fun L M=>Ib r j.n /\
 ∃N O P Q R S,jB f ⟨L,M+r.toNat*6,none⟩ N O P Q R S /\
 Wn f [vI 0,vI 0,vI 0,vI 0,vI 0,.bool false] 67 fun T=>
 Sm [⟨L,M+r.toNat*6,none⟩,⟨J,K+q.toNat*1,none⟩,⟨x,y+o.toNat*1,none⟩,(aS c 0),⟨i.block,i.off+9,none⟩,(aS h 0),⟨k,l+g.toNat*1,none⟩,(aS c 0),⟨e.block,e.off+9,none⟩,(aS h 0),⟨d.block,d.off+6,none⟩,(aS h 0)] f T /\
 Wp T (aS f 0) 6 (L3 N O P Q R S) fun s=>
 ∃U,rS s (aS p 2) U /\
 ∃V W X,iV s (aS f 1) V W X /\
 Wn s (L2 V W X) 65 fun p0=>
 App Pz 30 30 (vS U) (.slice (some (aS s 0)) 1 1) p0 fun q0 r0=>
 Wp r0 (aS p 2) 1 [vS q0] fun Y=>
 ∃Z,rI Y (aS f 4) Z /\
 Wp Y (aS c 0) 1 [vI Z] fun s0=>
 ∃a0,a0<E/\F s0 a0))/\Wn b [vI 0,vI 0,vI 0,vI 0,vI 0,.bool false] 67 fun A=>
 Sm [⟨x,y+o.toNat*1,none⟩,(aS c 0),⟨i.block,i.off+9,none⟩,(aS h 0),⟨k,l+g.toNat*1,none⟩,(aS c 0),⟨e.block,e.off+9,none⟩,(aS h 0),⟨d.block,d.off+6,none⟩,(aS h 0)] b A /\
 Fn Pz 172 #[vS z,.func (.func 173) #[] #[.pointer (some (aS D 0)),.pointer (some (aS h 0)),.pointer (some (aS c 0))]] A
 (fun t0 t=>∃B,iI t0 B /\
 Sm [⟨k,l+g.toNat*1,none⟩,(aS c 0),⟨e.block,e.off+9,none⟩,(aS h 0),⟨d.block,d.off+6,none⟩,(aS h 0)] A t /\
 NB m.a fun u0 v0=>Ib B m.n /\
 ∃C,rI t ⟨u0,v0+B.toNat*1,none⟩ C /\
 NB j.a fun w0 x0=>Ib C j.n /\
 ∃b0 c0 d0 e0 f0 g0,jB t ⟨w0,x0+C.toNat*6,none⟩ b0 c0 d0 e0 f0 g0 /\
 Wp t (aS b 0) 6 (L3 b0 c0 d0 e0 f0 g0) fun u=>
 ∃h0,rS u (aS p 2) h0 /\
 ∃i0 j0 k0,iV u (aS b 1) i0 j0 k0 /\
 Wn u (L2 i0 j0 k0) 65 fun y0=>
 App Pz 30 30 (vS h0) (.slice (some (aS u 0)) 1 1) y0 fun z0 A0=>
 Wp A0 (aS p 2) 1 [vS z0] fun l0=>
 ∃m0,rI l0 (aS b 4) m0 /\
 Wp l0 (aS c 0) 1 [vI m0] fun B0=>
 ∃n0,n0<E/\F B0 n0)
def JT(c h e f:Heap)(R:Value->Heap->Prop):Prop:=
 ∃p:Option Addr,hc c (aS h 0)=some (.pointer p) /\
 NC p fun q=>∃r,rI c ⟨q.block,q.off+4,none⟩ r /\
 Wn c [vI 0] 3 fun O=>
 Wp O (aS c 0) 1 [vI r] fun b=>
 ∃g,rS b (aS e 0) g /\
 ∃i,rI b (aS c 0) i /\
 NB g.a fun P Q=>Ib i g.n /\
 ∃s,rI b ⟨P,Q+i.toNat*1,none⟩ s /\
 sB (s==1073741824)
 (Wp b (aS f 0) 14 [vI 0,vI 0,vN,vN,vI 0,.bool false,vI 0,vI 0,vN,vI 0,.bool false,vI 0,vI 0,vN] fun t=>
 ∃u v w x y z A B C D E F G H,mI t (aS f 0) u v w x y z A B C D E F G H /\
 R (.tuple ⟨[.agg ⟨(L4 u v w x y z A B C D E F G H)⟩,vI 1073741824]⟩) t)
 (∃j,rS b (aS e 0) j /\
 ∃k,rI b (aS c 0) k /\
 NB j.a fun S T=>Ib k j.n /\
 ∃I,rI b ⟨S,T+k.toNat*1,none⟩ I /\
 ∃J:Option Addr,hc b (aS h 0)=some (.pointer J) /\
 NC J fun K=>∃L,rI b ⟨K.block,K.off+8,none⟩ L /\
 Wn b [vI 0,vI 0,vN,vN,vI 0,.bool false,vI 0,vI 0,vN,vI 0,.bool false,vI 0,vI 0,vN] 35 fun U=>
 Wp U (aS b 0) 14 [vI 2,vI L,vN,vN,vI 0,.bool false,vI 0,vI 0,vN,vI 0,.bool false,vI 0,vI 0,vN] fun V=>
 ∃l:Heap->Nat->Prop,(∃W,l V W) /\
 ∀(_:Env) (d:Heap) (M:Nat),l d M ->
 (∃m,rS d (aS e 0) m /\
 ∃o,rI d (aS c 0) o /\
 NB m.a fun X Y=>Ib o m.n /\
 ∃N,rI d ⟨X,Y+o.toNat*1,none⟩ N /\
 sB (decide (N>0))
 (Tf d h c e b M l)
 (Tj d h c b f R I)))
def aci(v:Sl)(w:Heap)(f:Sl)(g:Heap)(h:Int)(x:Nat)(y:Sl->Int->Heap->Nat->Prop):Prop:=
 lv v 0 w fun m d e b o=>
 sB (decide (e<(f.n:Int)))
 (NB f.a fun z A=>Ib e f.n /\
 ∃c,rI b ⟨z,A+e.toNat*1,none⟩ c /\
 ∃i,rS b (aS g 0) i /\
 NB i.a fun B C=>Ib c i.n /\
 ∃p,rI b ⟨B,C+c.toNat*1,none⟩ p /\
 sB (p==1073741824)
 (∃j,rS b (aS g 0) j /\
 ∃k,rS b (aS g 0) k /\
 NB d.a fun D E=>Ib h d.n /\
 ∃l,rI b ⟨D,E+h.toNat*1,none⟩ l /\
 NB k.a fun F G=>Ib l k.n /\
 ∃q,rI b ⟨F,G+l.toNat*1,none⟩ q /\
 NB j.a fun H I=>Ib c j.n /\
 Wp b ⟨H,I+c.toNat*1,none⟩ 1 [vI (wrap .i64 (q+1))] fun r=>
 Wn r [vI c] 3 fun J=>
 App Pz 102 102 (vS d) (.slice (some (aS r 0)) 1 1) J fun K L=>
 ∃s,s<o/\m K (wrap .i64 (e+1)) L s)
 (∃t,t<o/\m d (wrap .i64 (e+1)) b t))
 (∃u,u<x/\y d (wrap .i64 (h+1)) b u)
def Tg(i:Sl)(j:Heap)(k:Int)(l f h m:Heap)(R:Value->Heap->Prop):Prop:=
 lv i 0 j fun o b c d p=>
 sB (decide (c<(b.n:Int)))
 (NB b.a fun q r=>Ib c b.n /\
 ∃e,rI d ⟨q,r+c.toNat*1,none⟩ e /\
 (0<=(e:Int)/\(e:Int)<((k.toNat):Nat)) /\
 ∃g,rS d (aS l (0+e.toNat*1)) g /\
 aci b d g f c p o)
 (JT d h f m R)
def Th(l c h:Heap)(y:Int)(z A:Heap)(R:Value->Heap->Prop):Prop:=
 ∃m,rS l (aS c 0) m /\
 lv ⟨none,0,0⟩ 0 l fun o e b f p=>
 sB (decide (b<(m.n:Int)))
 (∃g,rS f (aS c 0) g /\
 NB g.a fun B C=>Ib b g.n /\
 Wp f ⟨B,C+b.toNat*1,none⟩ 1 [vI 1073741824] fun d=>
 ∃q:Option Addr,hc d (aS h 0)=some (.pointer q) /\
 NC q fun r=>∃i,rS d ⟨r.block,r.off+10,none⟩ i /\
 NB i.a fun D E=>Ib b i.n /\
 ∃(s:Sl) (t:Bool),aY d ⟨D,E+b.toNat*2,none⟩ [vS s,.bool t] /\
 Fn Pz 149 #[.agg ⟨[vS s,.bool t]⟩] d
 (fun F j=>∃u,iB F u /\
 sB u
 (∃k,rS j (aS c 0) k /\
 NB k.a fun G H=>Ib b k.n /\
 Wp j ⟨G,H+b.toNat*1,none⟩ 1 [vI 0] fun v=>
 Wn v [vI b] 3 fun I=>
 App Pz 102 102 (vS e) (.slice (some (aS v 0)) 1 1) I fun J K=>
 ∃w,w<p/\o J (wrap .i64 (b+1)) K w)
 (∃x,x<p/\o e (wrap .i64 (b+1)) j x)))
 (Tg e f y z c h A R)
def W97(H:Addr):Prop:=
 Wn h [.pointer (some H)] 89 fun q=>
 Wn q [vI 0,vI 0,vN,vN,vI 0,.bool false,vI 0,vI 0,vN,vI 0,.bool false,vI 0,vI 0,vN] 35 fun c=>
 ∃r:Option Addr,hc c (aS h 0)=some (.pointer r) /\
 NC r fun s=>∃d,rI c ⟨s.block,s.off+3,none⟩ d /\
 Mk d d 24/\Wn c (ak Pz 102 (d.toNat)) 102 fun i=>
 ∃t:Option Addr,hc i (aS h 0)=some (.pointer t) /\
 NC t fun u=>∃f,rI i ⟨u.block,u.off+3,none⟩ f /\
 Mk f f 8/\Wn i (ak Pz 3 (f.toNat)) 3 fun m=>
 Wn m [vN] 102 fun I=>
 Wp I (aS m 0) 1 [.slice (some (aS i 0)) (f.toNat) (f.toNat)] fun o=>
 ∃v:Option Addr,hc o (aS h 0)=some (.pointer v) /\
 NC v fun w=>∃j,rS o ⟨w.block,w.off+6,none⟩ j /\
 QI 0 o fun J k b K=>
 sB (decide (k<(j.n:Int)))
 (NB j.a fun L M=>Ib k j.n /\
 ∃x y z A B C,jB b ⟨L,M+k.toNat*6,none⟩ x y z A B C /\
 Wn b [vI 0,vI 0,vI 0,vI 0,vI 0,.bool false] 67 fun N=>
 Wp N (aS b 0) 6 (L3 x y z A B C) fun e=>
 ∃l,rI e (aS b 4) l /\
 ∃g,rI e (aS b 4) g /\
 (0<=(g:Int)/\(g:Int)<((d.toNat):Nat)) /\
 ∃D,rS e (aS c (0+g.toNat*1)) D /\
 ∃E,rI e (aS b 0) E /\
 Wn e [vI E] 3 fun p=>
 Sm [(aS c (0+g.toNat*1)),(aS b 4),(aS b 4)] e p /\
 App Pz 102 102 (vS D) (.slice (some (aS e 0)) 1 1) p fun O F=>
 Sm [(aS b 4)] p F /\
 (0<=(l:Int)/\(l:Int)<((d.toNat):Nat)) /\
 Wp F (aS c (0+l.toNat*1)) 1 [vS O] fun P=>
 ∃G,G<K/\J (wrap .i64 (k+1)) P G)
 (Th b m h d c q R)
theorem acC(p0:Addr)(H:@W97 h R p0):Fn Pz 97 #[.pointer (some p0)] h R:=aR (A:=(.s .z (.s .z (.s .z (.s .z (.s (AI 37) (.s (AJ 6 57) (.s (.s .z (.b (.l [(6,.one (.slice)),(10,.one (.int .i64))] (.s .z (.s (.b (AJ 6 93)) .z))))) (.s .z (.s .z (.s .z (.s .z (.s (.b (.l [] .z)) .z))))))))))))) H
def W95(J K L:Addr):Prop:=
 Wn h [vI 0,vI 0,vN,vN,vI 0,.bool false,vI 0,vI 0,vN,vI 0,.bool false,vI 0,vI 0,vN] 35 fun a=>
 ∃b:Option Addr,hc a J=some (.pointer b) /\
 ∃c,rS a K c /\
 ∃d:Option Nat,hc a L=some (.map d) /\
 Fn Pz 96 #[.pointer b,vI 1,vS c,.map d] a
 (fun M N=>∃(e f:Int) (g i:Sl) (j:Int) (k:Bool) (l m:Int) (n:Sl) (o:Int) (p:Bool) (q r:Int) (s:Sl) (t:Int),M=.tuple ⟨[.agg ⟨(L4 e f g i j k l m n o p q r s)⟩,vI t]⟩ /\
 Wp N (aS h 0) 14 (L4 e f g i j k l m n o p q r s) fun u=>
 ∃v w x y z A B C D E F G H I,mI u (aS h 0) v w x y z A B C D E F G H I /\
 R (.tuple ⟨[.agg ⟨(L4 v w x y z A B C D E F G H I)⟩,vI t]⟩) u)
theorem acE(c0 c1 c2:Addr)(H:@W95 h R c0 c1 c2):Fn Pz 95 #[.pointer (some c0),.pointer (some c1),.pointer (some c2)] h R:=aR (A:=.z) H
def W98(J K L:Addr):Prop:=
 Wn h [vI 0,vI 0,vN,vN,vI 0,.bool false,vI 0,vI 0,vN,vI 0,.bool false,vI 0,vI 0,vN] 35 fun a=>
 ∃b:Option Addr,hc a J=some (.pointer b) /\
 ∃c,rS a K c /\
 ∃d:Option Nat,hc a L=some (.map d) /\
 Fn Pz 96 #[.pointer b,vI 3,vS c,.map d] a
 (fun M N=>∃(e f:Int) (g i:Sl) (j:Int) (k:Bool) (l m:Int) (n:Sl) (o:Int) (p:Bool) (q r:Int) (s:Sl) (t:Int),M=.tuple ⟨[.agg ⟨(L4 e f g i j k l m n o p q r s)⟩,vI t]⟩ /\
 Wp N (aS h 0) 14 (L4 e f g i j k l m n o p q r s) fun u=>
 ∃v w x y z A B C D E F G H I,mI u (aS h 0) v w x y z A B C D E F G H I /\
 R (.tuple ⟨[.agg ⟨(L4 v w x y z A B C D E F G H I)⟩,vI t]⟩) u)
theorem acB(c0 c1 c2:Addr)(H:@W98 h R c0 c1 c2):Fn Pz 98 #[.pointer (some c0),.pointer (some c1),.pointer (some c2)] h R:=aR (A:=.z) H
def W99(J K L:Addr):Prop:=
 Wn h [vI 0,vI 0,vN,vN,vI 0,.bool false,vI 0,vI 0,vN,vI 0,.bool false,vI 0,vI 0,vN] 35 fun a=>
 ∃b:Option Addr,hc a J=some (.pointer b) /\
 ∃c,rS a K c /\
 ∃d:Option Nat,hc a L=some (.map d) /\
 Fn Pz 96 #[.pointer b,vI 4,vS c,.map d] a
 (fun M N=>∃(e f:Int) (g i:Sl) (j:Int) (k:Bool) (l m:Int) (n:Sl) (o:Int) (p:Bool) (q r:Int) (s:Sl) (t:Int),M=.tuple ⟨[.agg ⟨(L4 e f g i j k l m n o p q r s)⟩,vI t]⟩ /\
 Wp N (aS h 0) 14 (L4 e f g i j k l m n o p q r s) fun u=>
 ∃v w x y z A B C D E F G H I,mI u (aS h 0) v w x y z A B C D E F G H I /\
 R (.tuple ⟨[.agg ⟨(L4 v w x y z A B C D E F G H I)⟩,vI t]⟩) u)
theorem acA(c0 c1 c2:Addr)(H:@W99 h R c0 c1 c2):Fn Pz 99 #[.pointer (some c0),.pointer (some c1),.pointer (some c2)] h R:=aR (A:=.z) H
def Tw(a:Heap)(x y:Int)(z A:Sl)(B:Int)(C:Bool)(D E:Int)(F:Sl)(G:Int)(H:Bool)(I J:Int)(K:Sl)(c d:Int)(L:Heap)(e:Nat)(f:Int->Int->Heap->Nat->Prop)(g:Int):Prop:=
 Wn a [vI 0,vI 0,vN,vN,vI 0,.bool false,vI 0,vI 0,vN,vI 0,.bool false,vI 0,vI 0,vN] 35 fun M=>
 Wp M (aS a 0) 14 (L4 x y z A B C D E F G H I J K) fun b=>
 sB (decide (c<d))
 (∃h i j k l m n o p q r s t u,mI b (aS a 0) h i j k l m n o p q r s t u /\
 Wp b (aS L 0) 14 (L4 h i j k l m n o p q r s t u) fun N=>
 ∃v,v<e/\f c (wrap .i64 (g+1)) N v)
 (∃w,w<e/\f d (wrap .i64 (g+1)) b w)
def W41(pa:ByteArray)(pb pc:Sl)(pd pe pf:Int)(pg ph:Sl)(p1:Int):Prop:=
 Wn h (L0 pa pb pc pd pe pf pg ph) 27 fun d=>
 Wn d [vI 0,vI 0,vN,vN,vI 0,.bool false,vI 0,vI 0,vN,vI 0,.bool false,vI 0,vI 0,vN] 35 fun G=>
 ∃H I J K L M N O,cW G (aS h 0) H I J K L M N O /\
 Fn Pz 49 #[.agg ⟨(L0 H I J K L M N O)⟩,vI p1] G
 (fun n1 a=>∃P:Option Addr,∃A:Int,n1=.tuple ⟨[.pointer P,vI A]⟩ /\
 Wn a [.pointer none] 89 fun o1=>
 Wp o1 (aS a 0) 1 [.pointer P] fun B=>
 sB (A != 0)
 (Wp B (aS d 0) 14 [vI 0,vI 0,vN,vN,vI 0,.bool false,vI 0,vI 0,vN,vI 0,.bool false,vI 0,vI 0,vN] fun Q=>
 ∃S T U V W X Y Z a0 b0 c0 d0 e0 f0,mI Q (aS d 0) S T U V W X Y Z a0 b0 c0 d0 e0 f0 /\
 R (.tuple ⟨[.agg ⟨(L4 S T U V W X Y Z a0 b0 c0 d0 e0 f0)⟩,vI 1073741824,vI A]⟩) Q)
 (∃g0:Option Addr,hc B (aS a 0)=some (.pointer g0) /\
 Fn Pz 82 #[.pointer g0] B
 (fun p1 h0=>p1=.tuple ⟨[]⟩ /\
 ∃i0:Option Addr,hc h0 (aS a 0)=some (.pointer i0) /\
 Fn Pz 50 #[.pointer i0] h0
 (fun q1 e=>∃j0:Sl,∃k0:Option Nat,q1=.tuple ⟨[vS j0,.map k0]⟩ /\
 Wn e [vN] 92 fun f=>
 Wn f [.map none] 93 fun r1=>
 Wp r1 (aS e 0) 1 [vS j0] fun s1=>
 Wp s1 (aS f 0) 1 [.map k0] fun g=>
 Wn g [vI 0,vI 0,vN,vN,vI 0,.bool false,vI 0,vI 0,vN,vI 0,.bool false,vI 0,vI 0,vN] 35 fun t1=>
 Wp t1 (aS g 0) 14 [vI 0,vI 0,vN,vN,vI 0,.bool false,vI 0,vI 0,vN,vI 0,.bool false,vI 0,vI 0,vN] fun x=>
 ∃l0:Option Addr,hc x (aS a 0)=some (.pointer l0) /\
 Wn x [.nilFunc,.nilFunc,.nilFunc,.nilFunc] 178 fun u1=>
 Wp u1 (aS x 0) 4 [.func (.func 95) #[] #[.pointer (some (aS a 0)),.pointer (some (aS e 0)),.pointer (some (aS f 0))],.func (.func 97) #[.pointer l0] #[],.func (.func 98) #[] #[.pointer (some (aS a 0)),.pointer (some (aS e 0)),.pointer (some (aS f 0))],.func (.func 99) #[] #[.pointer (some (aS a 0)),.pointer (some (aS e 0)),.pointer (some (aS f 0))]] fun m0=>
 ∃n0:Value,∃o0:Value,∃p0:Value,∃q0:Value,aY m0 (aS x 0) [n0,o0,p0,q0] /\
 F4 1073741824 0 m0 fun C y b z D=>
 sB (decide (b<4))
 (Ib b 4/\∃r0:Value,List.take 1 (List.drop (b.toNat*1) ([n0,o0,p0,q0]:List Value))=[r0] /\
 match r0 with | .func (.func g68) fa69 fc70=>(bif aF Pz g68 then Fn Pz g68 (fa69 ++ #[]++fc70) z
 (fun E i=>∃(j k:Int) (l m:Sl) (n:Int) (o:Bool) (p q:Int) (r:Sl) (s:Int) (t:Bool) (u v:Int) (w:Sl) (c:Int),E=.tuple ⟨[.agg ⟨(L4 j k l m n o p q r s t u v w)⟩,vI c]⟩ /\
 Tw i j k l m n o p q r s t u v w c y g D C b) else rH Pz g68 (fa69 ++ #[]++fc70) z
 (fun E i=>∃(j k:Int) (l m:Sl) (n:Int) (o:Bool) (p q:Int) (r:Sl) (s:Int) (t:Bool) (u v:Int) (w:Sl) (c:Int),E=.tuple ⟨[.agg ⟨(L4 j k l m n o p q r s t u v w)⟩,vI c]⟩ /\
 Wn i [vI 0,vI 0,vN,vN,vI 0,.bool false,vI 0,vI 0,vN,vI 0,.bool false,vI 0,vI 0,vN] 35 fun v1=>
 Wp v1 (aS i 0) 14 (L4 j k l m n o p q r s t u v w) fun F=>
 sB (decide (c<y))
 (∃s0 t0 u0 v0 w0 x0 y0 z0 A0 B0 C0 D0 E0 F0,mI F (aS i 0) s0 t0 u0 v0 w0 x0 y0 z0 A0 B0 C0 D0 E0 F0 /\
 Wp F (aS g 0) 14 (L4 s0 t0 u0 v0 w0 x0 y0 z0 A0 B0 C0 D0 E0 F0) fun w1=>
 ∃G0,G0<D/\C c (wrap .i64 (b+1)) w1 G0)
 (∃H0,H0<D/\C y (wrap .i64 (b+1)) F H0))) | _=>False)
 (∃I0 J0 K0 M0 N0 O0 P0 Q0 R0 S0 T0 U0 V0 W0,mI z (aS g 0) I0 J0 K0 M0 N0 O0 P0 Q0 R0 S0 T0 U0 V0 W0 /\
 Wp z (aS d 0) 14 (L4 I0 J0 K0 M0 N0 O0 P0 Q0 R0 S0 T0 U0 V0 W0) fun X0=>
 ∃Y0 Z0 a1 b1 c1 d1 e1 f1 g1 h1 i1 j1 k1 l1,mI X0 (aS d 0) Y0 Z0 a1 b1 c1 d1 e1 f1 g1 h1 i1 j1 k1 l1 /\
 R (.tuple ⟨[.agg ⟨(L4 Y0 Z0 a1 b1 c1 d1 e1 f1 g1 h1 i1 j1 k1 l1)⟩,vI y,vI 0]⟩) X0)))))
theorem UR(pa:ByteArray)(pb pc:Sl)(pd pe pf:Int)(pg ph:Sl)(p1:Int)(H:@W41 h R pa pb pc pd pe pf pg ph p1):Fn Pz 41 #[.agg ⟨(L0 pa pb pc pd pe pf pg ph)⟩,vI p1] h R:=aR (A:=(.s .z (.s .z (.s .z (.s .z (.s .z (.s .z (.s .z (.s (.s .z (.b (.l [(12,.one (.int .i64)),(43,.one (.int .i64))] .z))) .z))))))))) H
def Ty(a q r:Heap)(s:Nat)(t:Int->Int->Heap->Nat->Prop)(u v:Int):Prop:=
 ∃b c d e f g h i j k l m n o,mI a (aS q 0) b c d e f g h i j k l m n o/\Wp a (aS r 0) 14 (L4 b c d e f g h i j k l m n o) fun w=>∃p,p<s/\t u (wrap .i64 (v+1)) w p
def W14(pa:ByteArray)(pb pc:Sl)(pd pe pf:Int)(pg ph:Sl):Prop:=
 Wn h (L0 pa pb pc pd pe pf pg ph) 27 fun a=>Wn a [vI 0,vI 0,vN,vN,vI 0,.bool false,vI 0,vI 0,vN,vI 0,.bool false,vI 0,vI 0,vN] 35 fun l=>∃m o p q r s t u,cW l (aS h 0) m o p q r s t u/\Fn Pz 40 #[.agg ⟨(L0 m o p q r s t u)⟩] l (fun i1 b=>∃v,iB i1 v/\sB (!v) (Wp b (aS a 0) 14 [vI 0,vI 0,vN,vN,vI 0,.bool false,vI 0,vI 0,vN,vI 0,.bool false,vI 0,vI 0,vN] fun w=>∃x y z A B C D E F G H I J K,mI w (aS a 0) x y z A B C D E F G H I J K/\R (.tuple ⟨[.agg ⟨(L4 x y z A B C D E F G H I J K)⟩,vI 1]⟩) w) (Wn b [vI 0,vI 0,vN,vN,vI 0,.bool false,vI 0,vI 0,vN,vI 0,.bool false,vI 0,vI 0,vN] 35 fun j1=>Wp j1 (aS b 0) 14 [vI 0,vI 0,vN,vN,vI 0,.bool false,vI 0,vI 0,vN,vI 0,.bool false,vI 0,vI 0,vN] fun L=>∃M,rS L (aS h 1) M/\F4 1073741824 0 L fun g e c i j=>sB (decide (c<(M.n:Int))) (∃N O P Q S T U V,cW i (aS h 0) N O P Q S T U V/\Fn Pz 41 #[.agg ⟨(L0 N O P Q S T U V)⟩,vI c] i (fun k1 k=>∃(W X:Int) (Y Z:Sl) (a0:Int) (b0:Bool) (c0 d0:Int) (e0:Sl) (f0:Int) (g0:Bool) (h0 i0:Int) (j0:Sl) (f l1:Int),k1=.tuple ⟨[.agg ⟨(L4 W X Y Z a0 b0 c0 d0 e0 f0 g0 h0 i0 j0)⟩,vI f,vI l1]⟩/\Wn k [vI 0,vI 0,vN,vN,vI 0,.bool false,vI 0,vI 0,vN,vI 0,.bool false,vI 0,vI 0,vN] 35 fun m1=>Wp m1 (aS k 0) 14 (L4 W X Y Z a0 b0 c0 d0 e0 f0 g0 h0 i0 j0) fun d=>sB (decide (f<e)) (Ty d k b j g f c) (sB (f==e) (sB (decide (f<1073741824)) (∃k0,rI d (aS k 0) k0/\∃l0,rI d (aS b 0) l0/\sB (decide (k0<l0)) (Ty d k b j g f c) (∃m0,m0<j/\g e (wrap .i64 (c+1)) d m0)) (∃n0,n0<j/\g e (wrap .i64 (c+1)) d n0)) (∃o0,o0<j/\g e (wrap .i64 (c+1)) d o0)))) (sB (e==1073741824) (Wp i (aS a 0) 14 [vI 0,vI 0,vN,vN,vI 0,.bool false,vI 0,vI 0,vN,vI 0,.bool false,vI 0,vI 0,vN] fun p0=>∃q0 r0 s0 t0 u0 v0 w0 x0 y0 z0 A0 B0 C0 D0,mI p0 (aS a 0) q0 r0 s0 t0 u0 v0 w0 x0 y0 z0 A0 B0 C0 D0/\R (.tuple ⟨[.agg ⟨(L4 q0 r0 s0 t0 u0 v0 w0 x0 y0 z0 A0 B0 C0 D0)⟩,vI 0]⟩) p0) (∃E0 F0 G0 H0 I0 J0 K0 M0 N0 O0 P0 Q0 R0 S0,mI i (aS b 0) E0 F0 G0 H0 I0 J0 K0 M0 N0 O0 P0 Q0 R0 S0/\Wp i (aS a 0) 14 (L4 E0 F0 G0 H0 I0 J0 K0 M0 N0 O0 P0 Q0 R0 S0) fun T0=>∃U0 V0 W0 X0 Y0 Z0 a1 b1 c1 d1 e1 f1 g1 h1,mI T0 (aS a 0) U0 V0 W0 X0 Y0 Z0 a1 b1 c1 d1 e1 f1 g1 h1/\R (.tuple ⟨[.agg ⟨(L4 U0 V0 W0 X0 Y0 Z0 a1 b1 c1 d1 e1 f1 g1 h1)⟩,vI 18]⟩) T0))))
theorem adE(pa:ByteArray)(pb pc:Sl)(pd pe pf:Int)(pg ph:Sl)(H:@W14 h R pa pb pc pd pe pf pg ph):Fn Pz 14 #[.agg ⟨(L0 pa pb pc pd pe pf pg ph)⟩] h R:=aR (A:=(.s .z (.s .z (.s .z (.s (.s .z (.b (.l [(5,.one (.int .i64)),(18,.one (.int .i64))] .z))) .z))))) H
end Go.VC
end

section
namespace Go.VC
open Go.Proofs IntKind




end Go.VC
end

section
namespace Go.VC
open Go.Proofs IntKind
variable {h:Heap} {R:Value->Heap->Prop}
def W30(d:Sl)(pa:Int)(pb:Bool)(pc pd:Int)(pe:Sl):Prop:=
 Wn h (L5 pa pb pc pd pe) 33 fun t=>
 QI 0 t fun u b c v=>
 sB (decide (b<(d.n:Int)))
 (NB d.a fun w x=>Ib b d.n /\
 ∃e f g i j,yz c ⟨w,x+b.toNat*5,none⟩ e f g i j /\
 ∃k l m o p,yz c (aS h 0) k l m o p /\
 Fn Pz 42 #[.agg ⟨(L5 e f g i j)⟩,.agg ⟨(L5 k l m o p)⟩] c
 (fun y q=>∃r,iB y r /\
 sB r
 (R (.bool true) q)
 (∃s,s<v/\u (wrap .i64 (b+1)) q s)))
 (R (.bool false) c)
theorem adB(p0:Sl)(pa:Int)(pb:Bool)(pc pd:Int)(pe:Sl)(H:@W30 h R p0 pa pb pc pd pe):Fn Pz 30 #[vS p0,.agg ⟨(L5 pa pb pc pd pe)⟩] h R:=aR (A:=(.s .z (.s (AI 5) .z))) H
def NX(a:Addr)(b c:Int)(n:Heap)(R:Value->Heap->Prop)(o:Nat)(p:Int->Heap->Nat->Prop)(q:Int):Prop:=
 Fn Pz 151 #[.pointer (some a),.agg ⟨[vI b,vI c]⟩] n (fun r d=>∃e,iB r e/\sB e (R (.bool false) d) (Fn Pz 152 #[.pointer (some a),.agg ⟨[vI b,vI c]⟩] d (fun s f=>∃(g h i j:Int) (k:Bool),s=.tuple ⟨[.agg ⟨(L6 g h i j)⟩,.bool k]⟩/\Wn f [vI 0,vI 0,vI 0,vI 0] 276 fun t=>Wp t (aS f 0) 4 (L6 g h i j) fun l=>sB k (R (.bool false) l) (∃m,m<o/\p (wrap .i64 (q+1)) l m))))
def NY(A:Heap)(g:Sl)(f:Addr)(h:Heap)(R:Value->Heap->Prop)(j:Int)(B:Nat)(C:Int->Heap->Nat->Prop)(D:Int):Prop:=
 QI 0 A fun k d b l=>sB (decide (d<(g.n:Int))) (NB g.a fun E F=>Ib d g.n/\∃e,rI b ⟨E,F+d.toNat*1,none⟩ e/\∃i,rS b ⟨f.block,f.off+10,none⟩ i/\NB i.a fun G H=>Ib e i.n/\∃(m:Sl) (o:Bool),aY b ⟨G,H+e.toNat*2,none⟩ [vS m,.bool o]/\Wn b [vN,.bool false] 195 fun I=>Wp I (aS b 0) 2 [vS m,.bool o] fun p=>∃(q:Sl) (r:Bool),aY p (aS h 0) [vS q,.bool r]/\Fn Pz 148 #[.agg ⟨[vS q,.bool r]⟩] p (fun J c=>∃s,iB J s/\sB s (∃t,rB c (aS h 1) t/\∃u,rB c (aS b 1) u/\sB (!(t==u)) (R (.bool false) c) (∃v,rS c (aS h 0) v/\∃w,rS c (aS b 0) w/\Fn Pz 150 #[vS v,vS w] c (fun K x=>∃y,iB K y/\sB (!y) (R (.bool false) x) (NX f j e x R l k d)))) (NX f j e c R l k d))) (∃z,z<B/\C (wrap .i64 (D+1)) b z)
def W83(f:Addr)(c:Sl):Prop:=
 QI 0 h fun j d b k=>sB (decide (d<(c.n:Int))) (NB c.a fun w x=>Ib d c.n/\∃e,rI b ⟨w,x+d.toNat*1,none⟩ e/\∃g,rS b ⟨f.block,f.off+10,none⟩ g/\NB g.a fun y z=>Ib e g.n/\∃(l:Sl) (m:Bool),aY b ⟨y,z+e.toNat*2,none⟩ [vS l,.bool m]/\Wn b [vN,.bool false] 195 fun A=>Wp A (aS b 0) 2 [vS l,.bool m] fun o=>∃(p:Sl) (q:Bool),aY o (aS b 0) [vS p,.bool q]/\Fn Pz 148 #[.agg ⟨[vS p,.bool q]⟩] o (fun B i=>∃r,iB B r/\sB r (∃(s:Sl) (t:Bool),aY i (aS b 0) [vS s,.bool t]/\Fn Pz 149 #[.agg ⟨[vS s,.bool t]⟩] i (fun C u=>∃v,iB C v/\sB v (R (.bool false) u) (NY u c f b R e k j d))) (NY i c f b R e k j d))) (R (.bool true) b)
theorem acP(p0:Addr)(p1:Sl)(H:@W83 h R p0 p1):Fn Pz 83 #[.pointer (some p0),vS p1] h R:=aR (A:=(.s .z (.s (.s .z (.b (.l [(15,.one (.int .i64))] (.s .z (.s .z (.s (.b (.s .z (.s .z (.s .z (AI 34))))) .z)))))) .z))) H
def abD(d e:Sl):Prop:=
 sB ((d.n:Int) != (e.n:Int))
 (R (.bool false) h)
 (QI 0 h fun o b c p=>
 sB (decide (b<(d.n:Int)))
 (NB d.a fun q r=>Ib b d.n /\
 ∃f g i,iW c ⟨q,r+b.toNat*3,none⟩ f g i /\
 NB e.a fun s t=>Ib b e.n /\
 ∃j k l,iW c ⟨s,t+b.toNat*3,none⟩ j k l /\
 sB (!((f==j)&&((g==k)&&((i==l)&&true))))
 (R (.bool false) c)
 (∃m,m<p/\o (wrap .i64 (b+1)) c m))
 (R (.bool true) c))
theorem Wm(p0 p1:Sl)(H:@abD h R p0 p1):Fn Pz 150 #[vS p0,vS p1] h R:=aR (A:=(.s .z (.s .z (.s (AI 13) .z)))) H
def W36(pa:ByteArray)(pb pc:Sl)(pd pe pf:Int)(pg ph:Sl)(k:Int):Prop:=
 Wn h (L0 pa pb pc pd pe pf pg ph) 27 fun l=>
 ∃m o p q r s t u,cW l (aS h 0) m o p q r s t u /\
 Fn Pz 49 #[.agg ⟨(L0 m o p q r s t u)⟩,vI k] l
 (fun N d=>∃e:Option Addr,∃f:Int,N=.tuple ⟨[.pointer e,vI f]⟩ /\
 sB (f != 0)
 (R (.tuple ⟨[.bool false,vI f]⟩) d)
 (∃v w x y z A B C,cW d (aS h 0) v w x y z A B C /\
 Fn Pz 81 #[.agg ⟨(L0 v w x y z A B C)⟩,vI k] d
 (fun O g=>∃(D E F:Sl) (i:Int),O=.tuple ⟨[.agg ⟨(L7 D E F)⟩,vI i]⟩ /\
 Wn g [vN,vN,vN] 154 fun P=>
 Wp P (aS g 0) 3 (L7 D E F) fun G=>
 sB (i != 0)
 (R (.tuple ⟨[.bool false,vI i]⟩) G)
 (Fn Pz 82 #[.pointer e] G
 (fun Q H=>Q=.tuple ⟨[]⟩ /\
 ∃b,rS H (aS g 0) b /\
 QI 0 H fun S c j T=>
 sB (decide (c<(b.n:Int)))
 (NB b.a fun U V=>Ib c b.n /\
 ∃I,rS j ⟨U,V+c.toNat*1,none⟩ I /\
 Fn Pz 84 #[vS I] j
 (fun W X=>∃J,iS W J /\
 Fn Pz 83 #[.pointer e,vS J] X
 (fun Y K=>∃L,iB Y L /\
 sB (!L)
 (R (.tuple ⟨[.bool false,vI 0]⟩) K)
 (∃M,M<T/\S (wrap .i64 (c+1)) K M))))
 (R (.tuple ⟨[.bool true,vI 0]⟩) j))))))
theorem ady(pa:ByteArray)(pb pc:Sl)(pd pe pf:Int)(pg ph:Sl)(p1:Int)(H:@W36 h R pa pb pc pd pe pf pg ph p1):Fn Pz 36 #[.agg ⟨(L0 pa pb pc pd pe pf pg ph)⟩,vI p1] h R:=aR (A:=(.s .z (.s .z (.s .z (.s .z (.s .z (.s .z (.s (AI 34) .z)))))))) H
def W19(pa:ByteArray)(pb pc:Sl)(pd pe pf:Int)(pg ph:Sl)(p1:Int):Prop:=
 Wn h (L0 pa pb pc pd pe pf pg ph) 27 fun a=>
 Wn a [vI 0,vI 0,vN,vN,vI 0,.bool false,vI 0,vI 0,vN,vI 0,.bool false,vI 0,vI 0,vN] 35 fun e=>
 ∃f g i j k l m n,cW e (aS h 0) f g i j k l m n /\
 Fn Pz 41 #[.agg ⟨(L0 f g i j k l m n)⟩,vI p1] e
 (fun N0 c=>∃(o p:Int) (q r:Sl) (s:Int) (t:Bool) (u v:Int) (w:Sl) (x:Int) (y:Bool) (z A:Int) (B:Sl) (C d:Int),N0=.tuple ⟨[.agg ⟨(L4 o p q r s t u v w x y z A B)⟩,vI C,vI d]⟩ /\
 Wn c [vI 0,vI 0,vN,vN,vI 0,.bool false,vI 0,vI 0,vN,vI 0,.bool false,vI 0,vI 0,vN] 35 fun O0=>
 Wp O0 (aS c 0) 14 (L4 o p q r s t u v w x y z A B) fun b=>
 sB (d != 0)
 (Wp b (aS a 0) 14 [vI 0,vI 0,vN,vN,vI 0,.bool false,vI 0,vI 0,vN,vI 0,.bool false,vI 0,vI 0,vN] fun D=>
 ∃E F G H I J K L M N O P Q S,mI D (aS a 0) E F G H I J K L M N O P Q S /\
 R (.tuple ⟨[.agg ⟨(L4 E F G H I J K L M N O P Q S)⟩,vI d]⟩) D)
 (sB (C==1073741824)
 (Wp b (aS a 0) 14 [vI 0,vI 0,vN,vN,vI 0,.bool false,vI 0,vI 0,vN,vI 0,.bool false,vI 0,vI 0,vN] fun T=>
 ∃U V W X Y Z a0 b0 c0 d0 e0 f0 g0 h0,mI T (aS a 0) U V W X Y Z a0 b0 c0 d0 e0 f0 g0 h0 /\
 R (.tuple ⟨[.agg ⟨(L4 U V W X Y Z a0 b0 c0 d0 e0 f0 g0 h0)⟩,vI 0]⟩) T)
 (∃i0 j0 k0 l0 m0 n0 o0 p0 q0 r0 s0 t0 u0 v0,mI b (aS c 0) i0 j0 k0 l0 m0 n0 o0 p0 q0 r0 s0 t0 u0 v0 /\
 Wp b (aS a 0) 14 (L4 i0 j0 k0 l0 m0 n0 o0 p0 q0 r0 s0 t0 u0 v0) fun w0=>
 ∃x0 y0 z0 A0 B0 C0 D0 E0 F0 G0 H0 I0 J0 K0,mI w0 (aS a 0) x0 y0 z0 A0 B0 C0 D0 E0 F0 G0 H0 I0 J0 K0 /\
 R (.tuple ⟨[.agg ⟨(L4 x0 y0 z0 A0 B0 C0 D0 E0 F0 G0 H0 I0 J0 K0)⟩,vI 18]⟩) w0)))
theorem VJ(pa:ByteArray)(pb pc:Sl)(pd pe pf:Int)(pg ph:Sl)(p1:Int)(H:@W19 h R pa pb pc pd pe pf pg ph p1):Fn Pz 19 #[.agg ⟨(L0 pa pb pc pd pe pf pg ph)⟩,vI p1] h R:=aR (A:=.z) H
def W12 :Prop:=
 Fn Pz 38 #[.bool false] h
 (fun v1 h0=>∃(d:ByteArray) (e f:Sl) (g i j:Int) (k l:Sl),v1=.agg ⟨(L0 d e f g i j k l)⟩ /\
 Fn Pz 14 #[.agg ⟨(L0 d e f g i j k l)⟩] h0
 (fun i0 b=>∃(m o:Int) (p q:Sl) (r:Int) (s:Bool) (t u:Int) (v:Sl) (w:Int) (x:Bool) (y z:Int) (A:Sl) (B:Int),i0=.tuple ⟨[.agg ⟨(L4 m o p q r s t u v w x y z A)⟩,vI B]⟩ /\
 Wn b [vI 0,vI 0,vN,vN,vI 0,.bool false,vI 0,vI 0,vN,vI 0,.bool false,vI 0,vI 0,vN] 35 fun j0=>
 Wp j0 (aS b 0) 14 (L4 m o p q r s t u v w x y z A) fun k0=>
 Fn Pz 38 #[.bool true] k0
 (fun l0 m0=>∃(C:ByteArray) (D E:Sl) (F G H:Int) (I J:Sl),l0=.agg ⟨(L0 C D E F G H I J)⟩ /\
 Fn Pz 14 #[.agg ⟨(L0 C D E F G H I J)⟩] m0
 (fun n0 c=>∃(K L:Int) (M N:Sl) (O:Int) (P:Bool) (Q S:Int) (T:Sl) (U:Int) (V:Bool) (W X:Int) (Y:Sl) (Z:Int),n0=.tuple ⟨[.agg ⟨(L4 K L M N O P Q S T U V W X Y)⟩,vI Z]⟩ /\
 Wn c [vI 0,vI 0,vN,vN,vI 0,.bool false,vI 0,vI 0,vN,vI 0,.bool false,vI 0,vI 0,vN] 35 fun o0=>
 Wp o0 (aS c 0) 14 (L4 K L M N O P Q S T U V W X Y) fun a=>
 sB (B==18)
 (sB (Z==0)
 (∃a0,rI a (aS b 0) a0 /\
 sB (a0==1)
 (∃b0,rI a (aS b 1) b0 /\
 sB (b0==2)
 (∃c0,rS a (aS b 2) c0 /\
 sB ((c0.n:Int)==0)
 (∃d0,rS a (aS b 3) d0 /\
 sB ((d0.n:Int)==1)
 (∃e0,rI a (aS b (4+3)) e0 /\
 sB (e0==3)
 (∃f0,rI a (aS c 0) f0 /\
 R (.bool (f0==0)) a)
 (R (.bool false) a))
 (R (.bool false) a))
 (R (.bool false) a))
 (R (.bool false) a))
 (R (.bool false) a))
 (R (.bool false) a))
 (R (.bool false) a)))))
theorem adG  (H:@W12 h R ):Fn Pz 12 #[] h R:=aR (A:=.z) H
def aay(pa pb pc:Int)(pd:Sl):Prop:=
 Wn h (PK pa pb pc pd) 365 fun a=>
 ∃b,rI a (aS h 0) b /\
 0<=(6:Int)/\∃c,rI a (aS h 1) c /\
 0<=(6:Int)/\∃d,rI a (aS h 2) d /\
 R (vI (zy .i64 (dW .i64 (zy .i64 (dW .i64 b 6) c) 6) d)) a
theorem Vj(pa pb pc:Int)(pd:Sl)(H:@aay h R pa pb pc pd):Fn Pz 239 #[.agg ⟨(PK pa pb pc pd)⟩] h R:=aR (A:=.z) H
def Dv(f:Sl)(g h:Heap)(b:Sl)(d:Int)(i:Nat)(j:Sl->Int->Heap->Nat->Prop)(k:Int):Prop:=
 App Pz 102 102 (vS f) (.slice (some (aS g 0)) 1 1) h fun l m=>App Pz 102 102 (vS l) (.slice (aN b.a (d.toNat) b.c 1) (Int.toNat (b.n:Nat)-d.toNat) (b.c-d.toNat)) m fun o p=>∃e,e<i/\j o (wrap .i64 (k+1)) p e
def Kq(d:Int)(b q:Sl)(e:Int)(f:Heap)(k:Nat)(l:Sl->Int->Heap->Nat->Prop):Prop:=
 ((0:Int)<=(0:Int)/\(0:Int)<=(d:Int)/\(d:Int)<=(b.c:Nat))/\NB q.a fun g h=>Ib e q.n/\∃j,rI f ⟨g,h+e.toNat*1,none⟩ j/\((0:Int)<=(d:Int)/\(d:Int)<=((b.n:Nat):Int)/\((b.n:Nat):Int)<=(b.c:Nat))/\(Wn f [] 3 fun i=>Sm [⟨g,h+e.toNat*1,none⟩] f i/\(App Pz 102 102 (.slice (some (aS f 0)) 0 0) (.slice (aN b.a (Int.toNat 0) b.c 1) (d.toNat-Int.toNat 0) (b.c-Int.toNat 0)) i fun u m=>Sm [⟨g,h+e.toNat*1,none⟩] i m/\Wn m [vI j] 3 fun v=>Dv u m v b d k l e)/\Wn i [vI j] 3 fun r=>App Pz 102 102 (.slice (some (aS f 0)) 0 0) (.slice (aN b.a (Int.toNat 0) b.c 1) (d.toNat-Int.toNat 0) (b.c-Int.toNat 0)) r fun w s=>Sm [⟨g,h+e.toNat*1,none⟩] r s/\Dv w i s b d k l e)/\Wn f [vI j] 3 fun o=>Wn o [] 3 fun p=>Sm [⟨g,h+e.toNat*1,none⟩] o p/\App Pz 102 102 (.slice (some (aS o 0)) 0 0) (.slice (aN b.a (Int.toNat 0) b.c 1) (d.toNat-Int.toNat 0) (b.c-Int.toNat 0)) p fun x t=>Sm [⟨g,h+e.toNat*1,none⟩] p t/\Dv x f t b d k l e
def aax(pa:ByteArray)(pb pc:Sl)(pd pe pf:Int)(pg ph:Sl)(H:Int):Prop:=
 Wn h (L0 pa pb pc pd pe pf pg ph) 27 fun l=>∃m o p q r s t u,cW l (aS h 0) m o p q r s t u/\Fn Pz 55 #[.agg ⟨(L0 m o p q r s t u)⟩,vI H] l (fun I J=>∃c,iS I c/\lv ⟨none,0,0⟩ 0 J fun v d f w x=>sB (decide (f<(c.n:Int))) (QI 0 w fun K e b L=>sB (decide (e<(d.n:Int))) (∃g,rS b (aS h 6) g/\NB d.a fun M N=>Ib e d.n/\∃i,rI b ⟨M,N+e.toNat*1,none⟩ i/\NB g.a fun O P=>Ib i g.n/\∃y z A,iV b ⟨O,P+i.toNat*6+1,none⟩ y z A/\∃j,rS b (aS h 6) j/\NB c.a fun Q S=>Ib f c.n/\∃k,rI b ⟨Q,S+f.toNat*1,none⟩ k/\NB j.a fun T U=>Ib k j.n/\∃B C D,iV b ⟨T,U+k.toNat*6+1,none⟩ B C D/\Fn Pz 286 #[.agg ⟨(L2 y z A)⟩,.agg ⟨(L2 B C D)⟩] b (fun V E=>∃F,iB V F/\sB F (∃G,G<L/\K (wrap .i64 (e+1)) E G) (Kq e d c f E x v))) (Kq e d c f b x v)) (R (vS d) w))
theorem Vi(pa:ByteArray)(pb pc:Sl)(pd pe pf:Int)(pg ph:Sl)(p1:Int)(H:@aax h R pa pb pc pd pe pf pg ph p1):Fn Pz 240 #[.agg ⟨(L0 pa pb pc pd pe pf pg ph)⟩,vI p1] h R:=aR (A:=(.s .z (.s .z (.s .z (.s (.s .z (.b (.l [(5,.one (.slice)),(7,.one (.int .i64))] (.s .z (.s (.b (.s .z (.s (.b (.l [(8,.one (.int .i64))] .z)) .z))) .z))))) .z))))) H
def aah(pa pb pc pd pe pf:Int):Prop:=
 Wn h (L2 pa pb pc) 65 fun b=>
 Wn b (L2 pd pe pf) 65 fun a=>
 ∃c,rI a (aS h 0) c /\
 ∃d,rI a (aS b 0) d /\
 sB (c != d)
 (∃e,rI a (aS h 0) e /\
 ∃f,rI a (aS b 0) f /\
 R (.bool (decide (e<f))) a)
 (∃g,rI a (aS h 1) g /\
 ∃i,rI a (aS b 1) i /\
 sB (g != i)
 (∃j,rI a (aS h 1) j /\
 ∃k,rI a (aS b 1) k /\
 R (.bool (decide (j<k))) a)
 (∃l,rI a (aS h 2) l /\
 ∃m,rI a (aS b 2) m /\
 R (.bool (decide (l<m))) a))
theorem U2(pa pb pc pd pe pf:Int)(H:@aah h R pa pb pc pd pe pf):Fn Pz 286 #[.agg ⟨(L2 pa pb pc)⟩,.agg ⟨(L2 pd pe pf)⟩] h R:=aR (A:=.z) H
def aaw(c:Sl)(pa pb:Int)(pc:Sl):Prop:=
 Wn h (L8 pa pb pc) 330 fun o=>
 QI 0 o fun p d b q=>
 sB (decide (d<(c.n:Int)))
 (NB c.a fun r s=>Ib d c.n /\
 ∃(e f:Int),aY b ⟨r,s+d.toNat*3,none⟩ [vI e,vI f] /\
 ∃(g i:Int),aY b (aS h 0) [vI g,vI i] /\
 sB ((e==g)&&((f==i)&&true))
 (R (vS c) b)
 (∃j,j<q/\p (wrap .i64 (d+1)) b j))
 (∃k l m,aL8 b (aS h 0) k l m /\
 Wn b (L8 k l m) 330 fun t=>
 App Pz 327 327 (vS c) (.slice (some (aS b 0)) 1 1) t fun u v=>
 R (vS u) v)
theorem Vh(p0:Sl)(pa pb:Int)(pc:Sl)(H:@aaw h R p0 pa pb pc):Fn Pz 241 #[vS p0,.agg ⟨(L8 pa pb pc)⟩] h R:=aR (A:=(.s .z (.s (AI 5) .z))) H
def Dx(a c e:Heap)(f:Sl->Heap->Prop)(g:Sl):Prop:=
 ∃d,rI a (aS c 2) d/\∃b,rI a (aS e 1) b/\0<=b/\Wp a (aS c 2) 1 [vI (zy .i64 d (dW .i64 1 b))] fun h=>f g h
def yC(M b:Heap)(N O P:Int)(Q:Sl)(c:Heap)(f:Sl)(R n:Int)(o:Heap)(p:Sl)(q:Nat)(r:Sl->Sl->Int->Heap->Nat->Prop)(s:Int):Prop:=
 Wp M (aS b 0) 4 (PK N O P Q) fun a=>∃e:Sl->Heap->Prop,(∃t,rI a (aS b 1) t/\∃g,rI a (aS c 1) g/\0<=g/\sB ((mH .i64 (lF .i64 t g) 1)==1) (∃u,rI a (aS b 1) u/\∃h,rI a (aS c (1+1)) h/\0<=h/\Wp a (aS b 1) 1 [vI (zy .i64 u (dW .i64 1 h))] fun S=>e f S) (∃v,rI a (aS c (1+1)) v/\sB (v==R) (∃w,rI a (aS b 2) w/\∃i,rI a (aS c 1) i/\0<=i/\sB ((mH .i64 (lF .i64 w i) 1)==0) (∃x,rI a (aS c 1) x/\∃y,rI a (aS c (1+2)) y/\∃z,rS a (aS b 3) z/\Fn Pz 241 #[vS f,.agg ⟨(L8 x y z)⟩] a (fun T U=>∃A,iS T A/\Dx U b c e A)) (Dx a b c e f)) (e f a)))/\∀(_:Env) (j:Sl) (k:Heap),e j k->(∃B C D E,Te k (aS b 0) B C D E/\Fn Pz 239 #[.agg ⟨(PK B C D E)⟩] k (fun V l=>∃d,iI V d/\(0<=(d:Int)/\(d:Int)<((Int.toNat (dW .i64 n 12)):Nat))/\∃F,rB l (aS o (0+d.toNat*1)) F/\sB (!F) ((0<=(d:Int)/\(d:Int)<((Int.toNat (dW .i64 n 12)):Nat))/\Wp l (aS o (0+d.toNat*1)) 1 [.bool true] fun m=>∃G H I J,Te m (aS b 0) G H I J/\Wn m (PK G H I J) 365 fun W=>App Pz 366 366 (vS p) (.slice (some (aS m 0)) 1 1) W fun X Y=>∃K,K<q/\r X j (wrap .i64 (s+1)) Y K) (∃L,L<q/\r p j (wrap .i64 (s+1)) l L)))
def tU(e:Sl)(f a:Heap)(g h:Nat)(b:Int)(i j:Nat)(c k:Heap)(l m n:Int)(o:Sl)(p q:Int)(r:Heap)(s:Sl)(t:Nat)(u:Sl->Sl->Int->Heap->Nat->Prop)(v:Int):Prop:=
 App Pz 30 30 (vS e) (.slice (some (aS f 0)) 1 1) a fun w d=>Sm [⟨g,h+b.toNat*4+2,none⟩,⟨i,j+b.toNat*4+1,none⟩,(aS c 4)] a d/\yC d k l m n w c o p q r s t u v
def oT(i:Heap)(j:Sl)(c a:Heap)(d e:Nat)(b:Int)(f g:Nat)(k l:Heap)(m n o:Int)(p:Sl)(q r:Int)(s:Heap)(t:Sl)(u:Nat)(v:Sl->Sl->Int->Heap->Nat->Prop)(w:Int):Prop:=
 App Pz 30 30 (.slice (some (aS i 0)) 0 0) (vS j) c fun x h=>Sm [(aS a 1),⟨d,e+b.toNat*4+2,none⟩,⟨f,g+b.toNat*4+1,none⟩,(aS a 4)] c h/\tU x k h d e b f g a l m n o p q r s t u v w
def Dy(j:Sl)(k d:Heap)(e f:Nat)(a:Int)(g h:Nat)(b:Heap)(l m:Nat)(n o p:Int)(q:Sl)(r s:Int)(t:Heap)(u:Sl)(v:Nat)(w:Sl->Sl->Int->Heap->Nat->Prop)(x:Int):Prop:=
 App Pz 30 30 (vS j) (.slice (some (aS k 0)) 1 1) d fun y c=>Sm [⟨e,f+a.toNat*4+2,none⟩,⟨g,h+a.toNat*4+1,none⟩,(aS b 4)] d c/\Wn c [vI 0,vI 0,vI 0,vN] 365 fun i=>Sm [(aS b 1),⟨l,m+a.toNat*4+3,none⟩,⟨e,f+a.toNat*4+2,none⟩,⟨g,h+a.toNat*4+1,none⟩,(aS b 4)] c i/\yC i c n o p y b q r s t u v w x
def Dz(y:Heap)(z:Sl)(h b:Heap)(d e:Nat)(a:Int)(f g:Nat)(i:Heap)(j k:Nat)(l m n:Int)(o:Sl)(p q:Int)(r:Heap)(s:Sl)(t:Nat)(u:Sl->Sl->Int->Heap->Nat->Prop)(v:Int):Prop:=
 App Pz 30 30 (.slice (some (aS y 0)) 0 0) (vS z) h fun w c=>Sm [(aS b 1),⟨d,e+a.toNat*4+2,none⟩,⟨f,g+a.toNat*4+1,none⟩,(aS b 4)] h c/\(Dy w i c d e a f g b j k l m n o p q r s t u v)/\Wn c [vI 0,vI 0,vI 0,vN] 365 fun x=>Sm [(aS b 1),⟨j,k+a.toNat*4+3,none⟩,⟨d,e+a.toNat*4+2,none⟩,⟨f,g+a.toNat*4+1,none⟩,(aS b 4)] c x/\tU w i x d e a f g b c l m n o p q r s t u v
def yB(b:Heap)(i j k:Int)(l m:Nat)(a:Int)(c d e f:Nat)(g:Heap)(n:Sl)(o:Heap)(p q r:Int)(s:Sl)(t u:Int)(v:Heap)(w:Sl)(x:Nat)(y:Sl->Sl->Int->Heap->Nat->Prop)(z:Int):Prop:=
 Wn b (L2 i j k) 65 fun h=>Sm [⟨l,m+a.toNat*4+3,none⟩,⟨c,d+a.toNat*4+2,none⟩,⟨e,f+a.toNat*4+1,none⟩,(aS g 4)] b h/\tU n b h c d a e f g o p q r s t u v w x y z
def Kv(i b:Heap)(g h:Nat)(a:Int)(c d e f:Nat)(u:Sl)(j k l:Int)(m:Sl)(n o:Int)(p:Heap)(q:Sl)(r:Nat)(s:Sl->Sl->Int->Heap->Nat->Prop)(t:Int):Prop:=
 ∃w x y,iV i (aS b 1) w x y/\(Wn i [] 65 fun v=>Sm [(aS b 1),⟨g,h+a.toNat*4+3,none⟩,⟨c,d+a.toNat*4+2,none⟩,⟨e,f+a.toNat*4+1,none⟩,(aS b 4)] i v/\(App Pz 30 30 (.slice (some (aS i 0)) 0 0) (vS u) v fun J z=>Sm [(aS b 1),⟨c,d+a.toNat*4+2,none⟩,⟨e,f+a.toNat*4+1,none⟩,(aS b 4)] v z/\(Wn z (L2 w x y) 65 fun E=>Sm [⟨g,h+a.toNat*4+3,none⟩,⟨c,d+a.toNat*4+2,none⟩,⟨e,f+a.toNat*4+1,none⟩,(aS b 4)] z E/\(Dy J z E c d a e f b g h j k l m n o p q r s t)/\Wn E [vI 0,vI 0,vI 0,vN] 365 fun K=>Sm [(aS b 1),⟨g,h+a.toNat*4+3,none⟩,⟨c,d+a.toNat*4+2,none⟩,⟨e,f+a.toNat*4+1,none⟩,(aS b 4)] E K/\tU J z K c d a e f b E j k l m n o p q r s t)/\Wn z [vI 0,vI 0,vI 0,vN] 365 fun L=>Sm [(aS b 1),⟨g,h+a.toNat*4+3,none⟩,⟨c,d+a.toNat*4+2,none⟩,⟨e,f+a.toNat*4+1,none⟩,(aS b 4)] z L/\yB L w x y g h a c d e f b J z j k l m n o p q r s t)/\(Wn v (L2 w x y) 65 fun F=>Sm [⟨g,h+a.toNat*4+3,none⟩,⟨c,d+a.toNat*4+2,none⟩,⟨e,f+a.toNat*4+1,none⟩,(aS b 4)] v F/\(Dz i u F b c d a e f v g h j k l m n o p q r s t)/\Wn F [vI 0,vI 0,vI 0,vN] 365 fun M=>Sm [(aS b 1),⟨g,h+a.toNat*4+3,none⟩,⟨c,d+a.toNat*4+2,none⟩,⟨e,f+a.toNat*4+1,none⟩,(aS b 4)] F M/\oT i u M b c d a e f v F j k l m n o p q r s t)/\Wn v [vI 0,vI 0,vI 0,vN] 365 fun C=>Sm [(aS b 1),⟨g,h+a.toNat*4+3,none⟩,⟨c,d+a.toNat*4+2,none⟩,⟨e,f+a.toNat*4+1,none⟩,(aS b 4)] v C/\(App Pz 30 30 (.slice (some (aS i 0)) 0 0) (vS u) C fun U N=>Sm [(aS b 1),⟨c,d+a.toNat*4+2,none⟩,⟨e,f+a.toNat*4+1,none⟩,(aS b 4)] C N/\yB N w x y g h a c d e f b U v j k l m n o p q r s t)/\Wn C (L2 w x y) 65 fun O=>Sm [⟨g,h+a.toNat*4+3,none⟩,⟨c,d+a.toNat*4+2,none⟩,⟨e,f+a.toNat*4+1,none⟩,(aS b 4)] C O/\oT i u O b c d a e f C v j k l m n o p q r s t)/\(Wn i (L2 w x y) 65 fun A=>Sm [⟨g,h+a.toNat*4+3,none⟩,⟨c,d+a.toNat*4+2,none⟩,⟨e,f+a.toNat*4+1,none⟩,(aS b 4)] i A/\(Wn A [] 65 fun G=>Sm [(aS b 1),⟨g,h+a.toNat*4+3,none⟩,⟨c,d+a.toNat*4+2,none⟩,⟨e,f+a.toNat*4+1,none⟩,(aS b 4)] A G/\(Dz A u G b c d a e f i g h j k l m n o p q r s t)/\Wn G [vI 0,vI 0,vI 0,vN] 365 fun P=>Sm [(aS b 1),⟨g,h+a.toNat*4+3,none⟩,⟨c,d+a.toNat*4+2,none⟩,⟨e,f+a.toNat*4+1,none⟩,(aS b 4)] G P/\oT A u P b c d a e f i G j k l m n o p q r s t)/\Wn A [vI 0,vI 0,vI 0,vN] 365 fun H=>Sm [(aS b 1),⟨g,h+a.toNat*4+3,none⟩,⟨c,d+a.toNat*4+2,none⟩,⟨e,f+a.toNat*4+1,none⟩,(aS b 4)] A H/\Wn H [] 65 fun Q=>Sm [(aS b 1),⟨g,h+a.toNat*4+3,none⟩,⟨c,d+a.toNat*4+2,none⟩,⟨e,f+a.toNat*4+1,none⟩,(aS b 4)] H Q/\oT H u Q b c d a e f i A j k l m n o p q r s t)/\Wn i [vI 0,vI 0,vI 0,vN] 365 fun B=>Sm [(aS b 1),⟨g,h+a.toNat*4+3,none⟩,⟨c,d+a.toNat*4+2,none⟩,⟨e,f+a.toNat*4+1,none⟩,(aS b 4)] i B/\(Wn B [] 65 fun D=>Sm [(aS b 1),⟨g,h+a.toNat*4+3,none⟩,⟨c,d+a.toNat*4+2,none⟩,⟨e,f+a.toNat*4+1,none⟩,(aS b 4)] B D/\(App Pz 30 30 (.slice (some (aS B 0)) 0 0) (vS u) D fun V R=>Sm [(aS b 1),⟨c,d+a.toNat*4+2,none⟩,⟨e,f+a.toNat*4+1,none⟩,(aS b 4)] D R/\yB R w x y g h a c d e f b V i j k l m n o p q r s t)/\Wn D (L2 w x y) 65 fun S=>Sm [⟨g,h+a.toNat*4+3,none⟩,⟨c,d+a.toNat*4+2,none⟩,⟨e,f+a.toNat*4+1,none⟩,(aS b 4)] D S/\oT B u S b c d a e f D i j k l m n o p q r s t)/\Wn B (L2 w x y) 65 fun I=>Sm [⟨g,h+a.toNat*4+3,none⟩,⟨c,d+a.toNat*4+2,none⟩,⟨e,f+a.toNat*4+1,none⟩,(aS b 4)] B I/\Wn I [] 65 fun T=>Sm [(aS b 1),⟨g,h+a.toNat*4+3,none⟩,⟨c,d+a.toNat*4+2,none⟩,⟨e,f+a.toNat*4+1,none⟩,(aS b 4)] I T/\oT I u T b c d a e f B i j k l m n o p q r s t
def aaS(pa:ByteArray)(pb pc:Sl)(pd pe pf:Int)(pg ph:Sl)(j:Int):Prop:=
 Wn h (L0 pa pb pc pd pe pf pg ph) 27 fun f=>∃s,rS f (aS h 6) s/\NB s.a fun j0 k0=>Ib j s.n/\∃k,rI f ⟨j0,k0+j.toNat*6+1+1,none⟩ k/\∃t,rS f (aS h 6) t/\NB t.a fun l0 m0=>Ib j t.n/\∃v,rI f ⟨l0,m0+j.toNat*6+4,none⟩ v/\0<=k/\Wn f [vI v,vI (dW .i64 1 k),vI 0,vN] 365 fun l=>∃d,rI l (aS h 3) d/\0<=(12:Int)/\((0:Int)<=(dW .i64 d 12)/\((dW .i64 d 12):Int)<=(dW .i64 d 12)/\((1:Nat):Int)*(dW .i64 d 12)<=140737488355328)/\Wn l (ak Pz 4 (Int.toNat (dW .i64 d 12))) 4 fun w=>Ib 0 1/\∃x y z A,Te w (aS f (0+Int.toNat 0*4)) x y z A/\Fn Pz 239 #[.agg ⟨(PK x y z A)⟩] w (fun n0 o0=>∃m,iI n0 m/\(0<=(m:Int)/\(m:Int)<((Int.toNat (dW .i64 d 12)):Nat))/\Wp o0 (aS l (0+m.toNat*1)) 1 [.bool true] fun p0=>KG ⟨(some (aS f 0)),1,1⟩ ⟨none,0,0⟩ 0 p0 fun q0 o B b p r0=>sB (decide (b<(o.n:Int))) (∃C D E F G H I J,cW p (aS h 0) C D E F G H I J/\NB o.a fun s0 t0=>Ib b o.n/\∃K,rI p ⟨s0,t0+b.toNat*4,none⟩ K/\Fn Pz 240 #[.agg ⟨(L0 C D E F G H I J)⟩,vI K] p (fun u0 v0=>∃q,iS u0 q/\KG o B 0 v0 fun w0 e L g c x0=>sB (decide (g<(q.n:Int))) (∃u,rS c (aS h 6) u/\NB q.a fun M N=>Ib g q.n/\∃r,rI c ⟨M,N+g.toNat*1,none⟩ r/\NB u.a fun O P=>Ib r u.n/\∃Q S T U V W,jB c ⟨O,P+r.toNat*6,none⟩ Q S T U V W/\Wn c [vI 0,vI 0,vI 0,vI 0,vI 0,.bool false] 67 fun X=>Sm [⟨O,P+r.toNat*6,none⟩,⟨M,N+g.toNat*1,none⟩,(aS h 6)] c X/\Wp X (aS c 0) 6 (L3 Q S T U V W) fun i=>∃Y,rI i (aS c 4) Y/\NB e.a fun Z a0=>Ib b e.n/\∃b0,rI i ⟨Z,a0+b.toNat*4+1,none⟩ b0/\NB e.a fun c0 d0=>Ib b e.n/\∃e0,rI i ⟨c0,d0+b.toNat*4+2,none⟩ e0/\NB e.a fun f0 g0=>Ib b e.n/\∃h0,rS i ⟨f0,g0+b.toNat*4+3,none⟩ h0/\Kv i c f0 g0 b c0 d0 Z a0 h0 Y b0 e0 L k d l e x0 w0 g) (∃i0,i0<r0/\q0 e L (wrap .i64 (b+1)) c i0))) (R (vS B) p))
theorem VH(pa:ByteArray)(pb pc:Sl)(pd pe pf:Int)(pg ph:Sl)(p1:Int)(H:@aaS h R pa pb pc pd pe pf pg ph p1):Fn Pz 199 #[.agg ⟨(L0 pa pb pc pd pe pf pg ph)⟩,vI p1] h R:=aR (A:=(.s .z (.s .z (.s .z (.s .z (.s .z (.s .z (.s (.s .z (.b (.l [(6,.one (.slice)),(8,.one (.slice)),(9,.one (.int .i64))] (.s .z (.s (.b (.s .z (.s .z (.b (.l [(6,.one (.slice)),(8,.one (.slice)),(11,.one (.int .i64))] (.s .z (.s (.b (.s .z (.s .z (.j [(8,.one (.slice))] .z .z)))) .z))))))) .z))))) .z)))))))) H
def KD(f:Sl)(g h:Heap)(b:Sl)(d:Int)(i:Nat)(j:Sl->Int->Heap->Nat->Prop)(k:Int):Prop:=
 App Pz 206 206 (vS f) (.slice (some (aS g 0)) 1 1) h fun l m=>App Pz 206 206 (vS l) (.slice (aN b.a (d.toNat) b.c 3) (Int.toNat (b.n:Nat)-d.toNat) (b.c-d.toNat)) m fun o p=>∃e,e<i/\j o (wrap .i64 (k+1)) p e
def KC(h:Heap)(b:Sl)(e:Int)(f:Heap)(i j:Nat)(d:Int)(k l:Nat)(m:Heap)(n:Nat)(o:Sl->Int->Heap->Nat->Prop):Prop:=
 App Pz 206 206 (.slice (some (aS h 0)) 0 0) (.slice (aN b.a (Int.toNat 0) b.c 3) (e.toNat-Int.toNat 0) (b.c-Int.toNat 0)) f fun p g=>Sm [⟨i,j+d.toNat*3+2,none⟩,⟨k,l+d.toNat*3,none⟩] f g/\KD p m g b e n o d
def DA(e:Int)(d l:Sl)(b:Int)(f:Heap)(q:Nat)(r:Sl->Int->Heap->Nat->Prop):Prop:=
 ((0:Int)<=(0:Int)/\(0:Int)<=(e:Int)/\(e:Int)<=(d.c:Nat))/\NB l.a fun g h=>Ib b l.n/\∃(m o:Int),aY f ⟨g,h+b.toNat*3,none⟩ [vI m,vI o]/\NB l.a fun i j=>Ib b l.n/\∃p,rS f ⟨i,j+b.toNat*3+2,none⟩ p/\((0:Int)<=(e:Int)/\(e:Int)<=((d.n:Nat):Int)/\((d.n:Nat):Int)<=(d.c:Nat))/\(Wn f [] 210 fun k=>Sm [⟨i,j+b.toNat*3+2,none⟩,⟨g,h+b.toNat*3,none⟩] f k/\(App Pz 206 206 (.slice (some (aS f 0)) 0 0) (.slice (aN d.a (Int.toNat 0) d.c 3) (e.toNat-Int.toNat 0) (d.c-Int.toNat 0)) k fun v s=>Sm [⟨i,j+b.toNat*3+2,none⟩,⟨g,h+b.toNat*3,none⟩] k s/\Wn s (L8 m o p) 210 fun w=>KD v s w d e q r b)/\Wn k (L8 m o p) 210 fun x=>KC f d e x i j b g h k q r)/\Wn f (L8 m o p) 210 fun t=>Wn t [] 210 fun u=>Sm [⟨i,j+b.toNat*3+2,none⟩,⟨g,h+b.toNat*3,none⟩] t u/\KC t d e u i j b g h f q r
def abW(pa:ByteArray)(pb pc:Sl)(pd pe pf:Int)(pg ph:Sl)(E:Int):Prop:=
 Wn h (L0 pa pb pc pd pe pf pg ph) 27 fun j=>∃k l m o p q r s,cW j (aS h 0) k l m o p q r s/\Fn Pz 199 #[.agg ⟨(L0 k l m o p q r s)⟩,vI E] j (fun F G=>∃c,iS F c/\lv ⟨none,0,0⟩ 0 G fun g d f t i=>sB (decide (f<(c.n:Int))) (QI 0 t fun u b e v=>sB (decide (b<(d.n:Int))) (NB d.a fun H I=>Ib b d.n/\∃w,rI e ⟨H,I+b.toNat*3,none⟩ w/\NB c.a fun J K=>Ib f c.n/\∃x,rI e ⟨J,K+f.toNat*3,none⟩ x/\sB (decide (w<x)) (∃y,y<v/\u (wrap .i64 (b+1)) e y) (NB d.a fun L M=>Ib b d.n/\∃z,rI e ⟨L,M+b.toNat*3,none⟩ z/\NB c.a fun N O=>Ib f c.n/\∃A,rI e ⟨N,O+f.toNat*3,none⟩ A/\sB (z==A) (NB d.a fun P Q=>Ib b d.n/\∃B,rI e ⟨P,Q+b.toNat*3+1,none⟩ B/\NB c.a fun S T=>Ib f c.n/\∃C,rI e ⟨S,T+f.toNat*3+1,none⟩ C/\sB (decide (B<C)) (∃D,D<v/\u (wrap .i64 (b+1)) e D) (DA b d c f e i g)) (DA b d c f e i g))) (DA b d c f e i g)) (R (vS d) t))
theorem WJ(pa:ByteArray)(pb pc:Sl)(pd pe pf:Int)(pg ph:Sl)(p1:Int)(H:@abW h R pa pb pc pd pe pf pg ph p1):Fn Pz 113 #[.agg ⟨(L0 pa pb pc pd pe pf pg ph)⟩,vI p1] h R:=aR (A:=(.s .z (.s .z (.s .z (.s (.s .z (.b (.l [(5,.one (.slice)),(7,.one (.int .i64))] (.s .z (.s (.b (.s .z (.s (.b (.l [(8,.one (.int .i64))] .z)) .z))) .z))))) .z))))) H
def W58(pa:ByteArray)(pb pc:Sl)(pd pe pf:Int)(pg ph:Sl)(A:Int):Prop:=
 Wn h (L0 pa pb pc pd pe pf pg ph) 27 fun c=>
 Wn c [vN,vN] 109 fun a=>
 Wn a [vN,vN] 109 fun B=>
 QI 0 B fun C d b D=>
 ∃g,rI b (aS h 3) g /\
 sB (decide (d<g))
 (∃i j k l m n o p,cW b (aS h 0) i j k l m n o p /\
 Fn Pz 112 #[.agg ⟨(L0 i j k l m n o p)⟩,vI A,vI d] b
 (fun E e=>∃(q:Sl) (r:Bool) (F:Int),E=.tuple ⟨[vS q,.bool r,vI F]⟩ /\
 ∃s,rS e (aS a 0) s /\
 Wn e [vS q] 57 fun G=>
 App Pz 106 106 (vS s) (.slice (some (aS e 0)) 1 1) G fun H I=>
 Wp I (aS a 0) 1 [vS H] fun f=>
 ∃t,rS f (aS a 1) t /\
 Wn f [.bool r] 4 fun J=>
 App Pz 107 107 (vS t) (.slice (some (aS f 0)) 1 1) J fun K L=>
 Wp L (aS a 1) 1 [vS K] fun M=>
 ∃u,u<D/\C (wrap .i64 (d+1)) M u))
 (∃(v w:Sl),aY b (aS a 0) [vS v,vS w] /\
 Wp b (aS c 0) 2 [vS v,vS w] fun x=>
 ∃(y z:Sl),aY x (aS c 0) [vS y,vS z] /\
 R (.agg ⟨[vS y,vS z]⟩) x)
theorem adg(pa:ByteArray)(pb pc:Sl)(pd pe pf:Int)(pg ph:Sl)(p1:Int)(H:@W58 h R pa pb pc pd pe pf pg ph p1):Fn Pz 58 #[.agg ⟨(L0 pa pb pc pd pe pf pg ph)⟩,vI p1] h R:=aR (A:=(.s .z (.s .z (.s (AI 6) .z)))) H
def W59(pa:ByteArray)(pb pc:Sl)(pd pe pf:Int)(pg ph:Sl)(V:Int):Prop:=
 Wn h (L0 pa pb pc pd pe pf pg ph) 27 fun i=>
 ∃e,rI i (aS h 3) e /\
 Mk e e 24/\Wn i (ak Pz 211 (e.toNat)) 211 fun W=>
 QI 0 W fun p g b q=>
 ∃r,rS b (aS h 6) r /\
 sB (decide (g<(r.n:Int)))
 (∃m,rS b (aS h 6) m /\
 NB m.a fun X Y=>Ib g m.n /\
 ∃s t u v w x,jB b ⟨X,Y+g.toNat*6,none⟩ s t u v w x /\
 Wn b [vI 0,vI 0,vI 0,vI 0,vI 0,.bool false] 67 fun Z=>
 Wp Z (aS b 0) 6 (L3 s t u v w x) fun k=>
 ∃y,rI k (aS b (1+1)) y /\
 sB (y != V)
 (∃z,z<q/\p (wrap .i64 (g+1)) k z)
 (∃A B C D E F G H,cW k (aS h 0) A B C D E F G H /\
 Fn Pz 113 #[.agg ⟨(L0 A B C D E F G H)⟩,vI g] k
 (fun a0 b0=>∃f,iS a0 f /\
 QI 0 b0 fun I d c J=>
 sB (decide (d<(f.n:Int)))
 (NB f.a fun c0 d0=>Ib d f.n /\
 ∃K,rI c ⟨c0,d0+d.toNat*3,none⟩ K /\
 ∃L,rI c (aS b 1) L /\
 sB (K != L)
 (∃l,rI c (aS b 0) l /\
 ∃j,rI c (aS b 0) j /\
 (0<=(j:Int)/\(j:Int)<((e.toNat):Nat)) /\
 ∃M,rS c (aS i (0+j.toNat*1)) M /\
 NB f.a fun e0 f0=>Ib d f.n /\
 ∃(N O:Int),aY c ⟨e0,f0+d.toNat*3,none⟩ [vI N,vI O] /\
 NB f.a fun g0 h0=>Ib d f.n /\
 ∃P,rS c ⟨g0,h0+d.toNat*3+2,none⟩ P /\
 Wn c (PK g N O P) 213 fun o=>
 Sm [(aS i (0+j.toNat*1)),(aS b 0),(aS b 0)] c o /\
 App Pz 211 211 (vS M) (.slice (some (aS c 0)) 1 1) o fun i0 Q=>
 Sm [(aS b 0)] o Q /\
 (0<=(l:Int)/\(l:Int)<((e.toNat):Nat)) /\
 Wp Q (aS i (0+l.toNat*1)) 1 [vS i0] fun j0=>
 ∃S,S<J/\I (wrap .i64 (d+1)) j0 S)
 (∃T,T<J/\I (wrap .i64 (d+1)) c T))
 (∃U,U<q/\p (wrap .i64 (g+1)) c U))))
 (R (.slice (some (aS i 0)) (e.toNat) (e.toNat)) b)
theorem adf(pa:ByteArray)(pb pc:Sl)(pd pe pf:Int)(pg ph:Sl)(p1:Int)(H:@W59 h R pa pb pc pd pe pf pg ph p1):Fn Pz 59 #[.agg ⟨(L0 pa pb pc pd pe pf pg ph)⟩,vI p1] h R:=aR (A:=(.s .z (.s .z (.s (.s .z (.b (.l [(6,.one (.int .i64))] (.s .z (.s (.b (.s .z (.s .z (.s .z (AI 9))))) .z))))) .z)))) H
def abU(c:Sl)(y:Int)(z:Sl):Prop:=
 F4 (-1) 0 h fun f d b i g=>
 sB (decide (b<(c.n:Int)))
 (NB c.a fun A B=>Ib b c.n /\
 ∃(j k:Int),aY i ⟨A,B+b.toNat*4+1,none⟩ [vI j,vI k] /\
 Fn Pz 122 #[vI y,.agg ⟨[vI j,vI k]⟩] i
 (fun C D=>∃(l:Int) (m:Bool) (o p:Int) (q:Sl),C=.agg ⟨(L5 l m o p q)⟩ /\
 Fn Pz 30 #[vS z,.agg ⟨(L5 l m o p q)⟩] D
 (fun E e=>∃r,iB E r /\
 sB r
 (sB (decide (d<0))
 (∃s,s<g/\f b (wrap .i64 (b+1)) e s)
 (NB c.a fun F G=>Ib b c.n /\
 ∃t,rS e ⟨F,G+b.toNat*4+3,none⟩ t /\
 NB c.a fun H I=>Ib d c.n /\
 ∃u,rS e ⟨H,I+d.toNat*4+3,none⟩ u /\
 sB (decide ((t.n:Int)<(u.n:Int)))
 (∃v,v<g/\f b (wrap .i64 (b+1)) e v)
 (∃w,w<g/\f d (wrap .i64 (b+1)) e w)))
 (∃x,x<g/\f d (wrap .i64 (b+1)) e x))))
 (R (vI d) i)
theorem WH(p0:Sl)(p1:Int)(p2:Sl)(H:@abU h R p0 p1 p2):Fn Pz 121 #[vS p0,vI p1,vS p2] h R:=aR (A:=(.s .z (.s .z (.s (.s .z (.b (.l [(7,.one (.int .i64)),(8,.one (.int .i64))] .z))) .z)))) H
def abT(l pa pb:Int):Prop:=
 Wn h [vI pa,vI pb] 208 fun a=>
 Wn a [vI 0,.bool false,vI 0,vI 0,vN] 33 fun b=>
 ∃c,rI b (aS h 0) c /\
 ∃d,rI b (aS h 1) d /\
 Wp b (aS a 0) 5 [vI l,.bool false,vI c,vI d,vN] fun e=>
 ∃f g i j k,yz e (aS a 0) f g i j k /\
 R (.agg ⟨(L5 f g i j k)⟩) e
theorem WG(p0 pa pb:Int)(H:@abT h R p0 pa pb):Fn Pz 122 #[vI p0,.agg ⟨[vI pa,vI pb]⟩] h R:=aR (A:=.z) H
def abw(b:Sl):Prop:=
 sB (decide ((b.n:Int)>0))
 (NB b.a fun d e=>Ib 0 b.n /\
 ∃c,rB h ⟨d,e+Int.toNat 0*5+1,none⟩ c /\
 R (.bool c) h)
 (R (.bool false) h)
theorem Wf(p0:Sl)(H:@abw h R p0):Fn Pz 158 #[vS p0] h R:=aR (A:=.z) H
def Kn(e f:Heap)(z A:Sl)(h g:Heap)(B:Int)(C:Sl)(R:Value->Heap->Prop):Prop:=
 Wp e (aS f 0) 2 [vS z,vS A] fun i=>Sm [(aS h 0)] e i/\QI 0 i fun D c b E=>∃j,rS b (aS g 0) j/\sB (decide (c<(j.n:Int))) (∃k l m o p q r s,cW b (aS h 0) k l m o p q r s/\∃d,rS b (aS g 0) d/\NB d.a fun F G=>Ib c d.n/\∃t,rS b ⟨F,G+c.toNat*1,none⟩ t/\∃(u v:Sl),aY b (aS f 0) [vS u,vS v]/\Fn Pz 86 #[.agg ⟨(L0 k l m o p q r s)⟩,vI B,vS t,.agg ⟨[vS u,vS v]⟩,vS C] b (fun H w=>∃x,iB H x/\sB (!x) (R (.tuple ⟨[.bool false,vI 0]⟩) w) (∃y,y<E/\D (wrap .i64 (c+1)) w y))) (R (.tuple ⟨[.bool true,vI 0]⟩) b)
def W37(pa:ByteArray)(pb pc:Sl)(pd pe pf:Int)(pg ph:Sl)(a:Int):Prop:=
 Wn h (L0 pa pb pc pd pe pf pg ph) 27 fun C=>∃D E F G H I J K,cW C (aS h 0) D E F G H I J K/\Fn Pz 85 #[.agg ⟨(L0 D E F G H I J K)⟩,vI a] C (fun X d=>∃(L M N:Sl) (o:Int),X=.tuple ⟨[.agg ⟨(L7 L M N)⟩,vI o]⟩/\Wn d [vN,vN,vN] 161 fun Y=>Wp Y (aS d 0) 3 (L7 L M N) fun b=>sB (o != 0) (R (.tuple ⟨[.bool false,vI o]⟩) b) (∃p q r s t u v w,cW b (aS h 0) p q r s t u v w/\∃e f g i j k l m,cW b (aS h 0) e f g i j k l m/\(Fn Pz 58 #[.agg ⟨(L0 p q r s t u v w)⟩,vI a] b (fun Z c=>∃(x y:Sl),Z=.agg ⟨[vS x,vS y]⟩/\Sm [(aS h 0)] b c/\(Fn Pz 59 #[.agg ⟨(L0 e f g i j k l m)⟩,vI a] c (fun a0 n=>∃O,iS a0 O/\Sm [(aS h 0)] c n/\Wn n [vN,vN] 109 fun P=>Sm [(aS h 0),(aS h 0)] n P/\Kn P n x y h d a O R))/\Wn c [vN,vN] 109 fun z=>Sm [(aS h 0),(aS h 0)] c z/\Fn Pz 59 #[.agg ⟨(L0 e f g i j k l m)⟩,vI a] z (fun b0 Q=>∃S,iS b0 S/\Sm [(aS h 0)] z Q/\Kn Q c x y h d a S R)))/\Wn b [vN,vN] 109 fun A=>Sm [(aS h 0),(aS h 0)] b A/\Fn Pz 58 #[.agg ⟨(L0 p q r s t u v w)⟩,vI a] A (fun c0 B=>∃(T U:Sl),c0=.agg ⟨[vS T,vS U]⟩/\Sm [(aS h 0)] A B/\Fn Pz 59 #[.agg ⟨(L0 e f g i j k l m)⟩,vI a] B (fun d0 V=>∃W,iS d0 W/\Sm [(aS h 0)] B V/\Kn V b T U h d a W R))))
theorem adx(pa:ByteArray)(pb pc:Sl)(pd pe pf:Int)(pg ph:Sl)(p1:Int)(H:@W37 h R pa pb pc pd pe pf pg ph p1):Fn Pz 37 #[.agg ⟨(L0 pa pb pc pd pe pf pg ph)⟩,vI p1] h R:=aR (A:=(.s .z (.s .z (.s .z (.s .z (.s (AI 10) .z)))))) H
def NW(I:Heap)(b:Sl)(h:Heap)(e l:Int)(R:Value->Heap->Prop)(m:Sl)(J:Heap)(K:Nat)(L:Int->Heap->Nat->Prop):Prop:=
 QI 0 I fun M d f N=>sB (decide (d<(b.n:Int))) (∃o p q r s t u v,cW f (aS h 0) o p q r s t u v/\NB b.a fun w x=>Ib e b.n/\∃y,rI f ⟨w,x+e.toNat*1,none⟩ y/\NB b.a fun z A=>Ib d b.n/\∃B,rI f ⟨z,A+d.toNat*1,none⟩ B/\Fn Pz 159 #[.agg ⟨(L0 o p q r s t u v)⟩,vI l,vI y,vI B] f (fun O c=>∃C,iB O C/\sB C (R (.bool false) c) (NB b.a fun P Q=>Ib e b.n/\∃g,rI c ⟨P,Q+e.toNat*1,none⟩ g/\NB m.a fun S T=>Ib g m.n/\∃D,rS c ⟨S,T+g.toNat*1,none⟩ D/\∃i,rS c (aS J 0) i/\NB b.a fun U V=>Ib d b.n/\∃j,rI c ⟨U,V+d.toNat*1,none⟩ j/\NB i.a fun W X=>Ib j i.n/\∃E,rS c ⟨W,X+j.toNat*1,none⟩ E/\Fn Pz 121 #[vS D,vI l,vS E] c (fun Y k=>∃F,iI Y F/\Sm [⟨z,A+d.toNat*1,none⟩,⟨w,x+e.toNat*1,none⟩,(aS h 0)] c k/\sB (decide (F>=0)) (R (.bool false) k) (∃G,G<N/\M (wrap .i64 (d+1)) k G))))) (∃H,H<K/\L (wrap .i64 (e+1)) f H)
def W86(pa:ByteArray)(pb pc:Sl)(pd pe pf:Int)(pg ph:Sl)(t:Int)(c pi pj u:Sl):Prop:=
 Wn h (L0 pa pb pc pd pe pf pg ph) 27 fun d=>Wn d [vS pi,vS pj] 109 fun M=>QBI false 0 M fun v w j g x=>sB (decide (j<(c.n:Int))) (sB w (∃y,y<x/\v true (wrap .i64 (j+1)) g y) (∃l,rS g (aS d 0) l/\NB c.a fun N O=>Ib j c.n/\∃m,rI g ⟨N,O+j.toNat*1,none⟩ m/\NB l.a fun P Q=>Ib m l.n/\∃z,rS g ⟨P,Q+m.toNat*1,none⟩ z/\Fn Pz 158 #[vS z] g (fun S T=>∃A,iB S A/\∃B,B<x/\v A (wrap .i64 (j+1)) T B))) (QI 0 g fun C e b D=>sB (decide (e<(c.n:Int))) (∃o,rS b (aS d 0) o/\NB c.a fun U V=>Ib e c.n/\∃p,rI b ⟨U,V+e.toNat*1,none⟩ p/\NB o.a fun W X=>Ib p o.n/\∃f,rS b ⟨W,X+p.toNat*1,none⟩ f/\sB w (∃q,rS b (aS d 1) q/\NB c.a fun E F=>Ib e c.n/\∃k,rI b ⟨E,F+e.toNat*1,none⟩ k/\NB q.a fun G H=>Ib k q.n/\∃I,rB b ⟨G,H+k.toNat*1,none⟩ I/\sB I (R (.bool false) b) (∃r,rS b (aS d 0) r/\NB c.a fun Y Z=>Ib 0 c.n/\∃s,rI b ⟨Y,Z+Int.toNat 0*1,none⟩ s/\NB r.a fun a0 b0=>Ib s r.n/\∃J,rS b ⟨a0,b0+s.toNat*1,none⟩ J/\Fn Pz 25 #[vS f,vS J] b (fun c0 i=>∃K,iB c0 K/\Sm [⟨G,H+k.toNat*1,none⟩,⟨E,F+e.toNat*1,none⟩,(aS d 1)] b i/\sB (!K) (R (.bool false) i) (sB ((f.n:Int)==0) (R (.bool false) i) (NB f.a fun d0 e0=>(0<=((wrap .i64 ((f.n:Int)-1)):Int)/\((wrap .i64 ((f.n:Int)-1)):Int)<(f.n:Nat))/\∃L,rB i ⟨d0,e0+Int.toNat (wrap .i64 ((f.n:Int)-1))*5+1,none⟩ L/\sB (!L) (R (.bool false) i) (NW i c h e t R u d D C)))))) (NW b c h e t R u d D C)) (R (.bool true) b))
theorem acN(pa:ByteArray)(pb pc:Sl)(pd pe pf:Int)(pg ph:Sl)(p1:Int)(p2 pi pj p4:Sl)(H:@W86 h R pa pb pc pd pe pf pg ph p1 p2 pi pj p4):Fn Pz 86 #[.agg ⟨(L0 pa pb pc pd pe pf pg ph)⟩,vI p1,vS p2,.agg ⟨[vS pi,vS pj]⟩,vS p4] h R:=aR (A:=(.s .z (.s .z (.s (.s .z (.b (.l [(11,.one (.bool)),(12,.one (.int .i64))] .z))) (.s (.s .z (.b (.l [(13,.one (.int .i64))] (.s .z (.s (.b (.s .z (.s .z (AI 15)))) .z))))) .z))))) H
def W11(pa:ByteArray)(pb pc:Sl)(pd pe pf:Int)(pg ph:Sl)(b:Int):Prop:=
 Wn h (L0 pa pb pc pd pe pf pg ph) 27 fun h9=>
 Fn Pz 12 #[] h9
 (fun l0 c=>∃g,iB l0 g /\
 sB (!g)
 (R (.bool false) c)
 (∃i j k l m n o p,cW c (aS h 0) i j k l m n o p /\
 Fn Pz 13 #[.agg ⟨(L0 i j k l m n o p)⟩] c
 (fun m0 d=>∃q,iB m0 q /\
 sB (!q)
 (R (.bool true) d)
 (∃r s t u v w x y,cW d (aS h 0) r s t u v w x y /\
 Fn Pz 36 #[.agg ⟨(L0 r s t u v w x y)⟩,vI b] d
 (fun n0 z=>∃(e:Bool) (f:Int),n0=.tuple ⟨[.bool e,vI f]⟩ /\
 ∃A B C D E F G H,cW z (aS h 0) A B C D E F G H /\
 Fn Pz 37 #[.agg ⟨(L0 A B C D E F G H)⟩,vI b] z
 (fun o0 I=>∃(J:Bool) (K:Int),o0=.tuple ⟨[.bool J,vI K]⟩ /\
 ∃L M N O P Q S T,cW I (aS h 0) L M N O P Q S T /\
 Fn Pz 19 #[.agg ⟨(L0 L M N O P Q S T)⟩,vI b] I
 (fun p0 U=>∃(V W:Int) (X Y:Sl) (Z:Int) (a0:Bool) (b0 c0:Int) (d0:Sl) (e0:Int) (f0:Bool) (g0 h0:Int) (i0:Sl) (j0:Int),p0=.tuple ⟨[.agg ⟨(L4 V W X Y Z a0 b0 c0 d0 e0 f0 g0 h0 i0)⟩,vI j0]⟩ /\
 Wn U [vI 0,vI 0,vN,vN,vI 0,.bool false,vI 0,vI 0,vN,vI 0,.bool false,vI 0,vI 0,vN] 35 fun q0=>
 Wp q0 (aS U 0) 14 (L4 V W X Y Z a0 b0 c0 d0 e0 f0 g0 h0 i0) fun a=>
 sB (f==K)
 (sB (e==J)
 (sB (f != 0)
 (R (.bool true) a)
 (R (.bool (e==(j0==0))) a))
 (R (.bool false) a))
 (R (.bool false) a))))))))
theorem adH(pa:ByteArray)(pb pc:Sl)(pd pe pf:Int)(pg ph:Sl)(p1:Int)(H:@W11 h R pa pb pc pd pe pf pg ph p1):Fn Pz 11 #[.agg ⟨(L0 pa pb pc pd pe pf pg ph)⟩,vI p1] h R:=aR (A:=.z) H
end Go.VC
end

section
namespace Go.LexS
def isLetter(n:Int):Bool:=decide (97<=n)&&decide (n<=122)||decide (65<=n)&&decide (n<=90)
def isDigit(n:Int):Bool:=decide (48<=n)&&decide (n<=57)
def isInner(n:Int):Bool:=isLetter n||isDigit n||(n==95)
def isSpace(n:Int):Bool:=n==32||n==9||n==10||n==13
def lt(c:UInt8):Bool:=isLetter c.toNat
def dg(c:UInt8):Bool:=isDigit c.toNat
def inn(c:UInt8):Bool:=isInner c.toNat
def sp(c:UInt8):Bool:=isSpace c.toNat
structure T where
 kind:Nat
 text:List UInt8
 val:Nat
 deriving DecidableEq
def fJ:List (List UInt8):=[[97,103,97,105,110],[97,110,100],[97,115],[97,116],[99,97,108,108],[99,104,111,105,99,101],[101,108,115,101],[102,114,111,109],[105,102],[105,110,116],[108,101,110],[108,111,111,112],[109,101,115,115,97,103,101],[111,102],[111,102,102,101,114],[111,110],[111,114],[112,97,114],[112,108,97,121,115],[112,114,111,116,111,99,111,108],[115,101,114,118,105,99,101],[116,101,120,116],[116,105,109,101,115],[116,111],[118,97,114],[119,104,101,114,101],[119,104,105,108,101],[119,105,116,104,105,110]]
def isName(l:List UInt8):Bool:=match l with
 | []=>false
 | c::_=>decide (l.length<=16)&&lt c&&l.all inn
def isWord(l:List UInt8):Bool:=isName l && !decide (l∈fJ)
end Go.LexS
end

section
namespace Go.VC
open Go.LexS
abbrev Nm:=List UInt8
def i64(n:Int):Value:=.int .i64 n
def fZ(s:Sl):Value:=.slice s.a s.n s.c
structure oW where
 nm:Nm
 k:Int
 lo:Int
 hi:Int
def oW.cs(f:oW):List Value:=[.string (bs f.nm),.int .i64 f.k,.int .i64 f.lo,.int .i64 f.hi]
structure Df where
 x:Int
 y:Int
 c:Int
def Df.cs(d:Df):List Value:=[.int .i64 d.x,.int .i64 d.y,.int .i64 d.c]
structure KN where
 x:Int
 y:Int
def KN.cs(d:KN):List Value:=[.int .i64 d.x,.int .i64 d.y]
structure Dc where
 nm:Nm
 hf:Sl
 first:Int
 hd:Sl
 he:Sl
 fs:List oW
 ds:List Df
 es:List KN
def Dc.cs(d:Dc):List Value:=[.string (bs d.nm),.slice d.hf.a d.hf.n d.hf.c,.int .i64 d.first,.slice d.hd.a d.hd.n d.hd.c,.slice d.he.a d.he.n d.he.c]
structure Ed where
 f:Int
 a:Int
 b:Int
 l:Int
 t:Int
 ag:Bool
def Ed.cs(x:Ed):List Value:=[.int .i64 x.f,.int .i64 x.a,.int .i64 x.b,.int .i64 x.l,.int .i64 x.t,.bool x.ag]
structure To where
 s:Int
 k:Int
 e:Int
def To.cs(x:To):List Value:=[.int .i64 x.s,.int .i64 x.k,.int .i64 x.e]
structure Gl where
 nm:Nm
 hr:Sl
 hd:Sl
 n:Int
 s:Int
 e:Int
 he:Sl
 ht:Sl
 rs:List Nm
 ds:List Dc
 es:List Ed
 ts:List To
def Gl.cs(g:Gl):List Value:=[.string (bs g.nm),.slice g.hr.a g.hr.n g.hr.c,.slice g.hd.a g.hd.n g.hd.c,.int .i64 g.n,.int .i64 g.s,.int .i64 g.e,.slice g.he.a g.he.n g.he.c,.slice g.ht.a g.ht.n g.ht.c]
def Gl.v(g:Gl):Value:=.agg ⟨g.cs⟩
def Es(x:Nm):List Value:=[.string (bs x)]
structure RL {α:Type} (h:Heap) (k:Nat) (s:Sl) (cs:α->List Value) (L:List α):Prop where
 rw:Rw h k s (L.map cs)
 cap:s.n<=s.c
 nil:s.a=none->s.n=0/\s.c=0
 sm:L.length<=1048576
theorem RL.ext{α:Type}{h h':Heap}{k:Nat}{s:Sl}{cs:α->List Value}{L:List α}(hr:RL h k s cs L)(E:Ext h h'):RL h' k s cs L:=⟨hr.rw.ext E,hr.cap,hr.nil,hr.sm⟩
theorem RL.ln{α:Type}{h:Heap}{k:Nat}{s:Sl}{cs:α->List Value}{L:List α}(hr:RL h k s cs L):s.n=L.length:=hr.rw.ln
structure DI (h:Heap) (d:Dc):Prop where
 pf:RL h 4 d.hf oW.cs d.fs
 pd:RL h 3 d.hd Df.cs d.ds
 pe:RL h 2 d.he KN.cs d.es
theorem DI.ext{h h':Heap}{d:Dc}(hd:DI h d)(E:Ext h h'):DI h' d:=⟨hd.pf.ext E,hd.pd.ext E,hd.pe.ext E⟩
structure DL (h:Heap) (s:Sl) (L:List Dc):Prop where
 r:RL h 5 s Dc.cs L
 i:∀d∈L,DI h d
theorem DL.ext{h h':Heap}{s:Sl}{L:List Dc}(hd:DL h s L)(E:Ext h h'):DL h' s L:=⟨hd.r.ext E,fun d hm=>(hd.i d hm).ext E⟩
structure GI (h:Heap) (g:Gl):Prop where
 r:RL h 1 g.hr Es g.rs
 d:DL h g.hd g.ds
 e:RL h 6 g.he Ed.cs g.es
 t:RL h 3 g.ht To.cs g.ts
theorem GI.ext{h h':Heap}{g:Gl}(hg:GI h g)(E:Ext h h'):GI h' g:=⟨hg.r.ext E,hg.d.ext E,hg.e.ext E,hg.t.ext E⟩
theorem RL.take{α:Type}{h:Heap}{k:Nat}{s:Sl}{cs:α->List Value}{L:List α}(hr:RL h k s cs L){i:Nat}(hi:i<=s.n):RL h k ⟨aN s.a (Int.toNat 0) s.c k,Int.toNat (i:Int)-Int.toNat 0,s.c-Int.toNat 0⟩ cs (L.take i):=by
 have h1:=hr.rw.1;have e:aN s.a (Int.toNat 0) s.c k=s.a:=cp _ _ _;rw[e];refine⟨⟨by rw[Yc,Yu];simp only[Yc] at h1;show i-0=_;omega,fun hp=>?_⟩,by have:=hr.cap;show i-0<=s.c-0;omega,fun ha=>?_,by have:=hr.sm;rw[Yu];omega⟩
 .rw[Yc,Yu] at hp;obtain⟨b,o,ha,cA⟩:=hr.rw.2 (by rw[Yc];omega);refine⟨b,o,ha,fun j row hj=>cA j row ?_⟩;rw[List.map_take,rO] at hj;split at hj
  .exact hj
  .cases hj
 .have:=hr.nil ha;exact⟨by show i-0=0;omega,by show s.c-0=0;omega⟩
end Go.VC
end

section
namespace Go.VC
open Go.Proofs Go.LexS
theorem ta(b:UInt8)(h:Heap):Fn Pz 265 #[.int .u8 b.toNat] h fun v h'=>v=.bool (lt b)/\h'=h:=by
 apply Ve;unfold aat;unfold lt isLetter;generalize (b.toNat:Int)=n
 repeat' first
  | refine aQ (fun _=>?_) (fun _=>?_)
 all_goals
  refine⟨?_,rfl⟩;congr 1;rw[Bool.eq_iff_iff];simp only[Bool.or_eq_true,Yt,decide_eq_true_eq,Bool.false_eq_true,true_iff,false_iff];omega
theorem Jk(b:UInt8)(h:Heap):Fn Pz 296 #[.int .u8 b.toNat] h fun v h'=>v=.bool (dg b)/\h'=h:=by
 apply UY;unfold aaf;unfold dg isDigit;refine aQ (fun c=>⟨?_,rfl⟩) (fun c=>⟨?_,rfl⟩)
 .rw[decide_eq_true (p:=(48:Int)<=b.toNat) c,Bool.true_and]
 .rw[decide_eq_false (p:=(48:Int)<=b.toNat) c,Bool.false_and]
theorem HT(b:UInt8)(h:Heap):Fn Pz 266 #[.int .u8 b.toNat] h fun v h'=>v=.bool (inn b)/\h'=h:=by
 apply Vd;unfold aas;refine (ta b h).mono ?_;rintro _ h3 ⟨rfl,rfl⟩;refine⟨_,rfl,aa (fun c=>?_) (fun c=>?_)⟩
 .exact⟨by rw[show inn b=(lt b||dg b||((b.toNat:Int)==95)) from rfl,c];rfl,rfl⟩
 .refine (Jk b _).mono ?_;rintro _ h6 ⟨rfl,rfl⟩;refine⟨_,rfl,aa (fun d=>?_) (fun d=>?_)⟩
  .exact⟨by rw[show inn b=(lt b||dg b||((b.toNat:Int)==95)) from rfl,c,d];rfl,rfl⟩
  .exact⟨by rw[show inn b=(lt b||dg b||((b.toNat:Int)==95)) from rfl,c,d];rfl,rfl⟩
theorem ED(s:ByteArray)(h:Heap):Fn Pz 222 #[.string s] h fun v h'=>v=.bool (isName s.data.toList)/\h'=h:=by
 apply Vw;unfold aaJ;have fL:=lD s;rw[qb];generalize hL:s.data.toList=L at *;refine aa (fun he=>?_) (fun he=>?_)
 .have:L=[]:=cd he;subst this;exact⟨rfl,rfl⟩
 .have bI:L≠[]:=eI he;have gG:0<L.length:=List.length_pos_iff.2 bI;obtain⟨b,hb,Cv⟩:=jy (s:=s) (i:=0) (by omega);rw[hL] at hb;have xF:L=b::L.drop 1:=by have:=drop_cons hb;rwa [List.drop_zero] at this
  have Rp:isName L=(decide (L.length<=16)&&lt b&&L.all inn):=by
   conv=>lhs;rw[xF]
   rw[isName,<-xF]
  rw[Rp];refine aa (fun Iu=>?_) (fun Iu=>?_)
  .refine⟨?_,rfl⟩;rw[decide_eq_false (by have:=cd Iu;omega)];rfl
  .have fx:L.length<=16:=by have:=eI Iu;omega
   rw[decide_eq_true fx];refine⟨⟨by omega,by omega⟩,?_⟩;rw[show Int.toNat 0=0 from rfl,Cv];refine (ta _ _).mono ?_;rintro v h3 ⟨rfl,rfl⟩;refine⟨_,rfl,aa (fun qR=>?_) (fun qR=>?_)⟩
   .refine⟨?_,rfl⟩;rw[show lt b=false from by rw[Bool.not_eq_true'] at qR;exact qR];rfl
   .rw[show lt b=true from by rw[Bool.not_eq_false'] at qR;exact qR];refine bU (n:=s.size) (fun i h'=>h'=h3/\∀(j:Nat) (b:UInt8),j<i->L[j]?=some b->(!inn b)=false) ⟨rfl,fun j b hj=>by omega⟩ ?_;rintro-i h8 hi ⟨rfl,hd⟩;refine aa (fun bt=>?_) (fun Fb=>?_)
    .have xA:=bw bt;obtain⟨y,hy,Ru⟩:=jy xA;rw[hL] at hy;refine⟨⟨by omega,by omega⟩,?_⟩;rw[show Int.toNat (i:Int)=i from rfl,Ru];refine (HT _ _).mono ?_;rintro v jP ⟨rfl,rfl⟩;refine⟨_,rfl,aa (fun hp=>?_) (fun hp=>?_)⟩
     .refine⟨?_,rfl⟩;have:L.all inn=false:=by
       rw[<-Bool.not_eq_true,jV];intro hh;have:=hh y i hy;rw[Bool.not_eq_true'] at hp;rw[show inn y=false from hp] at this;cases this
      rw[this];rfl
     .exact Up.next xA (by omega) ⟨rfl,eM (p:=fun b=>!inn b) hy hp hd⟩
    .have YG:=bz Fb;refine⟨?_,rfl⟩;rw[(jV inn L).2 fun b j hb=>by simpa using hd j b (by have:=(Ya.1 hb).1;omega) hb];rfl
theorem HV(L:List Nm)(x:ByteArray)(s:Sl)(h:Heap)(hr:RL h 1 s Es L):
  Fn Pz 223 #[.slice s.a s.n s.c,.string x] h fun v h'=>(∃k:Int,v=.int .i64 k/\decide (k>=0)=decide (x.data.toList∈L))/\h'=h:=by
 apply Vv;unfold aaI;have hn:=hr.ln;have hm:=hr.sm;refine bU (n:=s.n) (fun i h'=>h'=h/\∀(j:Nat) (y:Nm),j<i->L[j]?=some y->decide (x.data.toList=y)=false) ⟨rfl,fun j y hj=>by omega⟩ ?_;rintro-i h5 hi ⟨rfl,hd⟩;refine aa (fun l=>?_) (fun l=>?_)
 .replace l:=bw l;refine hr.rw.ax (by omega) (by omega) fun b o d g t=>?_;replace g:L[i]?=some d:=g;refine⟨_,t.hd,?_⟩;rw[qb,dp];refine aa (fun he=>?_) (fun bI=>?_)
  .have:=cd he;exact⟨⟨_,rfl,by rw[decide_eq_true (show (i:Int)>=0 by omega),decide_eq_true (by rw[this];exact Yb g)]⟩,rfl⟩
  .exact Up.next l (by omega) ⟨rfl,eM (p:=fun y=>decide (x.data.toList=y)) g bI hd⟩
 .replace l:=bz l;refine⟨⟨_,rfl,?_⟩,rfl⟩;rw[decide_eq_false (show ¬((-1:Int)>=0) by omega),decide_eq_false];intro hm;obtain⟨j,hj⟩:=Yf.1 hm;exact eI (hd j _ (by have:=(Ya.1 hj).1;omega) hj) rfl
theorem IC(L:List Nm)(x:ByteArray)(s:Sl)(h:Heap)(hr:RL h 1 s Es L):
  Fn Pz 161 #[.slice s.a s.n s.c,.string x] h fun v h'=>v=.bool (decide (x.data.toList∈L))/\h'=h:=by
 apply Wc;unfold abt;refine (HV L x s h hr).mono ?_;rintro v h3 ⟨⟨k,rfl,hk⟩,rfl⟩;exact⟨_,rfl,by rw[hk],rfl⟩
theorem Qe{α:Type}{h:Heap}{b:Nat}{e:TypeId}{k:Nat}{cs:α->List Value}{L:List α}{xs:List Value}(hx:xs=(L.map cs).flatten)(ho:Own h b xs e)(hk:∀x,(cs x).length=k)(hl:L.length<=1048576){n c:Nat}(hn:n=L.length)(hc:n<=c):RL h k ⟨some ⟨b,0,none⟩,n,c⟩ cs L:=by
 subst hx;refine⟨⟨by rw[Yc];exact hn,fun _=>⟨b,0,rfl,fun i row hi j v hj=>?_⟩⟩,hc,fun e=>by (cases e),hl⟩;have hr:∀r∈L.map cs,r.length=k:=fun r hr=>by obtain⟨x,_,rfl⟩:=Yp.1 hr;exact hk x
 have Cp:=(Ya.1 hj).1;rw[hr row (Yb hi)] at Cp;rw[eU,Nat.zero_add,ho.hc,getElem?_flatten _ i j row hr hi Cp];exact hj
theorem jK(s:ByteArray)(h:Heap):Fn Pz 160 #[.string s] h fun v h'=>v=.bool (isWord s.data.toList)/\Ext h h':=by
 apply Wd;unfold abu;refine aj (vs:=(fJ.map Es).flatten) rfl fun h2 E o=>?_;refine (ED s h2).mono ?_;rintro _ h5 ⟨rfl,rfl⟩;refine⟨_,rfl,aa (fun c=>?_) (fun c=>?_)⟩
 .refine⟨by decide,?_⟩;refine (IC fJ s ⟨aN (some ⟨h.size,0,none⟩) (Int.toNat 0) 28 1,Int.toNat (28:Nat)-Int.toNat 0,28-Int.toNat 0⟩ h5 (Qe rfl o (fun _=>rfl) (by decide) rfl (by decide))).mono ?_;rintro _ h8 ⟨rfl,rfl⟩;exact⟨_,rfl,by rw[show isWord s.data.toList=(isName s.data.toList && !decide (s.data.toList∈fJ)) from rfl,c];rfl,E⟩
 .exact⟨by rw[show isWord s.data.toList=(isName s.data.toList && !decide (s.data.toList∈fJ)) from rfl,c];rfl,E⟩
end Go.VC
end
