/- SxVcSa SxVcSb SxVcSc SxVcSe SxVcSd SxVcSf SxVcK1 SxVcK2 SxVcK4 SxVcK5 SyVcC SyVcA SyVcG SyVcH SyVcGa SyVcI SyVcOa SyVcOb SyVcJ SyVcK SyVcL SyVcN SyVcPa SyVcPc SyVcPb SyVcPd SyVcM SyVcB SyVcPe LexSpec SxSpec SxMem SxA SxI0 SxJ0 SxK0 SxL0 SxO0 SxQ0 SxR0 SxT0 SxCa SxLsA SxX0. -/
import Derived.Test.YtajglkbckhgboaaGreatDoorIM02
import Derived.Test.YtajglkbckhgboaaGreatDoorIM03
import Derived.Lib.Split
set_option linter.all false
set_option maxRecDepth 100000
set_option maxHeartbeats 8000000

section
namespace Go.VC
open Go.Proofs IntKind
variable {h:Heap} {R:Value->Heap->Prop}
def vO(b h e:Heap)(i:Nat)(j:Int->Heap->Nat->Prop)(k q:Int):Prop:=
 ∃c,rS b (aS h 13) c/\∃d,rI b (aS e 0) d/\∃f,rS b (aS h 13) f/\∃g,rI b (aS e 0) g/\NB f.a fun r s=>Ib g f.n/\∃l,rB b ⟨r,s+g.toNat*1,none⟩ l/\sB l (NB c.a fun t u=>Ib d c.n/\Wp b ⟨t,u+d.toNat*1,none⟩ 1 [.bool true] fun v=>∃m,m<i/\j (wrap .i64 (k+1)) v m) (∃o,rI b (aS e 1) o/\NB c.a fun w x=>Ib d c.n/\Wp b ⟨w,x+d.toNat*1,none⟩ 1 [.bool (o==q)] fun y=>∃p,p<i/\j (wrap .i64 (k+1)) y p)
def xY(b:Heap)(y0:ByteArray)(z0 A0:Sl)(B0 C0 D0:Int)(E0 F0:Sl)(t:Int)(G0:Heap)(G:Int)(H0:Heap)(H:Int)(I0:Heap)(I:Int)(J0:Heap)(J:Int)(K0:Heap)(K:Int)(h:Heap)(R:Value->Heap->Prop):Prop:=
 Wn b [.string y0,vS z0,vS A0,vI B0,vI C0,vI D0,vS E0,vS F0,vI t,.slice (some (aS G0 0)) (G.toNat) (G.toNat),vN,.slice (some (aS H0 0)) (H.toNat) (H.toNat),.slice (some (aS I0 0)) (I.toNat) (I.toNat),.slice (some (aS J0 0)) (J.toNat) (J.toNat),.slice (some (aS K0 0)) (K.toNat) (K.toNat)] 186 fun L=>∃l,rS L (aS h 6) l/\QI 0 L fun M g c N=>sB (decide (g<(l.n:Int))) (NB l.a fun L0 M0=>Ib g l.n/\∃O P Q S T U,mB c ⟨L0,M0+g.toNat*6,none⟩ O P Q S T U/\Wn c [vI 0,vI 0,vI 0,vI 0,vI 0,.bool false] 67 fun N0=>Wp N0 (aS c 0) 6 (L4 O P Q S T U) fun d=>∃u,rS d (aS b 9) u/\∃v,rI d (aS c 0) v/\∃w,rS d (aS b 9) w/\∃m,rI d (aS c 0) m/\NB w.a fun V W=>Ib m w.n/\∃X,rS d ⟨V,W+m.toNat*1,none⟩ X/\Wn d [vI g] 3 fun x=>Sm [⟨V,W+m.toNat*1,none⟩,(aS c 0),(aS b 9),(aS c 0),(aS b 9)] d x/\App Pz 102 102 (vS X) (.slice (some (aS d 0)) 1 1) x fun O0 Y=>Sm [(aS c 0),(aS b 9)] x Y/\NB u.a fun P0 Q0=>Ib v u.n/\Wp Y ⟨P0,Q0+v.toNat*1,none⟩ 1 [vS O0] fun e=>∃i,rS e (aS b 12) i/\∃j,rI e (aS c 0) j/\∃y,rS e (aS b 12) y/\∃z,rI e (aS c 0) z/\NB y.a fun R0 S0=>Ib z y.n/\∃Z,rB e ⟨R0,S0+z.toNat*1,none⟩ Z/\sB Z (NB i.a fun T0 U0=>Ib j i.n/\Wp e ⟨T0,U0+j.toNat*1,none⟩ 1 [.bool true] fun V0=>vO V0 b c N M g t) (∃a0,rB e (aS c 5) a0/\NB i.a fun W0 X0=>Ib j i.n/\Wp e ⟨W0,X0+j.toNat*1,none⟩ 1 [.bool a0] fun Y0=>vO Y0 b c N M g t)) (∃o,rS c (aS h 7) o/\QI 0 c fun Z0 p f a1=>sB (decide (p<(o.n:Int))) (NB o.a fun b1 c1=>Ib p o.n/\∃b0 c0 d0,jh f ⟨b1,c1+p.toNat*3,none⟩ b0 c0 d0/\Wn f [vI 0,vI 0,vI 0] 149 fun d1=>Wp d1 (aS f 0) 3 (L2 b0 c0 d0) fun q=>∃A,rS q (aS h 6) A/\∃B,rI q (aS f 2) B/\NB A.a fun e1 f1=>Ib B A.n/\∃e0 f0 g0 h0 i0 j0,mB q ⟨e1,f1+B.toNat*6,none⟩ e0 f0 g0 h0 i0 j0/\Fn Pz 106 #[.pointer (some (aS b 0)),.agg ⟨(L4 e0 f0 g0 h0 i0 j0)⟩] q (fun g1 C=>∃(k0:Bool) (l0 m0:Int) (h1:Bool),g1=.tuple ⟨[.agg ⟨(L3 k0 l0 m0)⟩,.bool h1]⟩/\Wn C [.bool false,vI 0,vI 0] 188 fun i1=>Wp i1 (aS C 0) 3 (L3 k0 l0 m0) fun k=>∃D,rS k (aS b 11) D/\∃E,rI k (aS f 0) E/\∃n0,rI k (aS f 1) n0/\∃o0 p0 q0,mP k (aS C 0) o0 p0 q0/\NB D.a fun j1 k1=>Ib E D.n/\Wp k ⟨j1,k1+E.toNat*4,none⟩ 4 [vI n0,.bool o0,vI p0,vI q0] fun l1=>∃r0,r0<a1/\Z0 (wrap .i64 (p+1)) l1 r0)) (∃s0,rI f (aS h 3) s0/\QI 0 f fun m1 F r n1=>sB (decide (F<s0)) (∃t0,rS r (aS b 10) t0/\Fn Pz 107 #[.pointer (some (aS b 0)),vI F] r (fun o1 s=>∃(u0:Sl) (v0:Bool),o1=.agg ⟨[vS u0,.bool v0]⟩/\Sm [(aS b 10)] r s/\Wn s [vS u0,.bool v0] 195 fun w0=>Sm [(aS b 10)] s w0/\App Pz 184 184 (vS t0) (.slice (some (aS s 0)) 1 1) w0 fun p1 q1=>Wp q1 (aS b 10) 1 [vS p1] fun r1=>∃x0,x0<n1/\m1 (wrap .i64 (F+1)) r1 x0)) (R (.tuple ⟨[.pointer (some (aS b 0)),vI 0]⟩) r)))
def Cb(a:Int)(b h:Heap)(d:ByteArray)(e f:Sl)(g i j:Int)(k l:Sl)(m:Int)(n:Heap)(o:Int)(p:Heap)(q:Int)(r:Heap)(s:Int)(t:Heap)(u:Int)(R:Value->Heap->Prop):Prop:=
 Mk a a 1/\Wn b (ah Pz 4 (a.toNat)) 4 fun c=>Sm [(aS h 3),(aS h 3),(aS h 3),(aS h 3),(aS h 0)] b c/\xY c d e f g i j k l m n o p q b a r s t u h R
def Gk(a:Int)(b h:Heap)(d:Int)(e:ByteArray)(f g:Sl)(i j k:Int)(l m:Sl)(n:Int)(o:Heap)(p:Int)(q:Heap)(r:Int)(s:Heap)(t:Int)(R:Value->Heap->Prop):Prop:=
 Mk a a 32/\Wn b (ah Pz 192 (a.toNat)) 192 fun c=>Sm [(aS h 3),(aS h 3),(aS h 3),(aS h 3),(aS h 0)] b c/\Cb d c h e f g i j k l m n o p b a q r s t R
def Ce(a:Int)(b h:Heap)(d:ByteArray)(e f:Sl)(g i j:Int)(k l:Sl)(m:Int)(n:Heap)(o:Int)(p:Heap)(q:Int)(r:Heap)(s:Int)(t:Heap)(u:Int)(R:Value->Heap->Prop):Prop:=
 Mk a a 32/\Wn b (ah Pz 192 (a.toNat)) 192 fun c=>Sm [(aS h 3),(aS h 3),(aS h 3),(aS h 3),(aS h 0)] b c/\xY c d e f g i j k l m n o b a p q r s t u h R
def Gb(a:Int)(b h:Heap)(d:Int)(e:ByteArray)(f g:Sl)(i j k:Int)(l m:Sl)(n:Int)(o:Heap)(p:Int)(q:Heap)(r:Int)(s:Heap)(t:Int)(R:Value->Heap->Prop):Prop:=
 Mk a a 1/\Wn b (ah Pz 4 (a.toNat)) 4 fun c=>Sm [(aS h 3),(aS h 3),(aS h 3),(aS h 3),(aS h 0)] b c/\Ce d c h e f g i j k l m n o p b a q r s t R
def Ak(a:Int)(b h:Heap)(d e:Int)(f:ByteArray)(g i:Sl)(j k l:Int)(m n:Sl)(o:Int)(p:Heap)(q:Int)(r:Heap)(s:Int)(R:Value->Heap->Prop):Prop:=
 Mk a a 24/\Wn b (ah Pz 102 (a.toNat)) 102 fun c=>Sm [(aS h 3),(aS h 3),(aS h 3),(aS h 3),(aS h 0)] b c/\(Gk d c h e f g i j k l m n o b a p q r s R)/\Gb e c h d f g i j k l m n o b a p q r s R
def Gg(a:Int)(b h:Heap)(d:Int)(e:ByteArray)(f g:Sl)(i j k:Int)(l m:Sl)(n:Int)(o:Heap)(p:Int)(q:Heap)(r:Int)(s:Heap)(t:Int)(R:Value->Heap->Prop):Prop:=
 Mk a a 24/\Wn b (ah Pz 102 (a.toNat)) 102 fun c=>Sm [(aS h 3),(aS h 3),(aS h 3),(aS h 3),(aS h 0)] b c/\Cb d c h e f g i j k l m n b a o p q r s t R
def Cd(a:Int)(b h:Heap)(d:ByteArray)(e f:Sl)(g i j:Int)(k l:Sl)(m:Int)(n:Heap)(o:Int)(p:Heap)(q:Int)(r:Heap)(s:Int)(t:Heap)(u:Int)(R:Value->Heap->Prop):Prop:=
 Mk a a 24/\Wn b (ah Pz 102 (a.toNat)) 102 fun c=>Sm [(aS h 3),(aS h 3),(aS h 3),(aS h 3),(aS h 0)] b c/\xY c d e f g i j k l m b a n o p q r s t u h R
def F9(a:Int)(b h:Heap)(d:Int)(e:ByteArray)(f g:Sl)(i j k:Int)(l m:Sl)(n:Int)(o:Heap)(p:Int)(q:Heap)(r:Int)(s:Heap)(t:Int)(R:Value->Heap->Prop):Prop:=
 Mk a a 1/\Wn b (ah Pz 4 (a.toNat)) 4 fun c=>Sm [(aS h 3),(aS h 3),(aS h 3),(aS h 3),(aS h 0)] b c/\Cd d c h e f g i j k l m n o p b a q r s t R
def Aj(a:Int)(b h:Heap)(d e:Int)(f:ByteArray)(g i:Sl)(j k l:Int)(m n:Sl)(o:Int)(p:Heap)(q:Int)(r:Heap)(s:Int)(R:Value->Heap->Prop):Prop:=
 Mk a a 32/\Wn b (ah Pz 192 (a.toNat)) 192 fun c=>Sm [(aS h 3),(aS h 3),(aS h 3),(aS h 3),(aS h 0)] b c/\(Gg d c h e f g i j k l m n o b a p q r s R)/\F9 e c h d f g i j k l m n o b a p q r s R
def Gc(a:Int)(b h:Heap)(d:Int)(e:ByteArray)(f g:Sl)(i j k:Int)(l m:Sl)(n:Int)(o:Heap)(p:Int)(q:Heap)(r:Int)(s:Heap)(t:Int)(R:Value->Heap->Prop):Prop:=
 Mk a a 24/\Wn b (ah Pz 274 (a.toNat)) 274 fun c=>Sm [(aS h 3),(aS h 3),(aS h 3),(aS h 3),(aS h 0)] b c/\Cb d c h e f g i j k l m n o p q r s t b a R
def Ca(a:Int)(b h:Heap)(d:ByteArray)(e f:Sl)(g i j:Int)(k l:Sl)(m:Int)(n:Heap)(o:Int)(p:Heap)(q:Int)(r:Heap)(s:Int)(t:Heap)(u:Int)(R:Value->Heap->Prop):Prop:=
 Mk a a 24/\Wn b (ah Pz 274 (a.toNat)) 274 fun c=>Sm [(aS h 3),(aS h 3),(aS h 3),(aS h 3),(aS h 0)] b c/\xY c d e f g i j k l m n o p q r s t u b a h R
def F7(a:Int)(b h:Heap)(d:Int)(e:ByteArray)(f g:Sl)(i j k:Int)(l m:Sl)(n:Int)(o:Heap)(p:Int)(q:Heap)(r:Int)(s:Heap)(t:Int)(R:Value->Heap->Prop):Prop:=
 Mk a a 1/\Wn b (ah Pz 4 (a.toNat)) 4 fun c=>Sm [(aS h 3),(aS h 3),(aS h 3),(aS h 3),(aS h 0)] b c/\Ca d c h e f g i j k l m n o p q r b a s t R
def Ai(a:Int)(b h:Heap)(d e:Int)(f:ByteArray)(g i:Sl)(j k l:Int)(m n:Sl)(o:Int)(p:Heap)(q:Int)(r:Heap)(s:Int)(R:Value->Heap->Prop):Prop:=
 Mk a a 32/\Wn b (ah Pz 192 (a.toNat)) 192 fun c=>Sm [(aS h 3),(aS h 3),(aS h 3),(aS h 3),(aS h 0)] b c/\(F7 d c h e f g i j k l m n o p q b a r s R)/\Gc e c h d f g i j k l m n o p q b a r s R
def Ah(a:Int)(b h:Heap)(d e:Int)(f:ByteArray)(g i:Sl)(j k l:Int)(m n:Sl)(o:Int)(p:Heap)(q:Int)(r:Heap)(s:Int)(R:Value->Heap->Prop):Prop:=
 Mk a a 24/\Wn b (ah Pz 274 (a.toNat)) 274 fun c=>Sm [(aS h 3),(aS h 3),(aS h 3),(aS h 3),(aS h 0)] b c/\(Gk d c h e f g i j k l m n o p q r s b a R)/\Gb e c h d f g i j k l m n o p q r s b a R
def Cc(a:Int)(b h:Heap)(d:ByteArray)(e f:Sl)(g i j:Int)(k l:Sl)(m:Int)(n:Heap)(o:Int)(p:Heap)(q:Int)(r:Heap)(s:Int)(t:Heap)(u:Int)(R:Value->Heap->Prop):Prop:=
 Mk a a 1/\Wn b (ah Pz 4 (a.toNat)) 4 fun c=>Sm [(aS h 3),(aS h 3),(aS h 3),(aS h 3),(aS h 0)] b c/\xY c d e f g i j k l m n o p q r s b a t u h R
def F6(a:Int)(b h:Heap)(d:Int)(e:ByteArray)(f g:Sl)(i j k:Int)(l m:Sl)(n:Int)(o:Heap)(p:Int)(q:Heap)(r:Int)(s:Heap)(t:Int)(R:Value->Heap->Prop):Prop:=
 Mk a a 1/\Wn b (ah Pz 4 (a.toNat)) 4 fun c=>Sm [(aS h 3),(aS h 3),(aS h 3),(aS h 3),(aS h 0)] b c/\Cc d c h e f g i j k l m n o p q r b a s t R
def F5(a:Int)(b h:Heap)(d:Int)(e:ByteArray)(f g:Sl)(i j k:Int)(l m:Sl)(n:Int)(o:Heap)(p:Int)(q:Heap)(r:Int)(s:Heap)(t:Int)(R:Value->Heap->Prop):Prop:=
 Mk a a 1/\Wn b (ah Pz 4 (a.toNat)) 4 fun c=>Sm [(aS h 3),(aS h 3),(aS h 3),(aS h 3),(aS h 0)] b c/\Cb d c h e f g i j k l m n o p q r b a s t R
def Ag(a:Int)(b h:Heap)(d e:Int)(f:ByteArray)(g i:Sl)(j k l:Int)(m n:Sl)(o:Int)(p:Heap)(q:Int)(r:Heap)(s:Int)(R:Value->Heap->Prop):Prop:=
 Mk a a 32/\Wn b (ah Pz 192 (a.toNat)) 192 fun c=>Sm [(aS h 3),(aS h 3),(aS h 3),(aS h 3),(aS h 0)] b c/\(F6 d c h e f g i j k l m n o p q b a r s R)/\F5 e c h d f g i j k l m n o p q b a r s R
def Gn(a:Int)(b h:Heap)(d:Int)(e:ByteArray)(f g:Sl)(i j k:Int)(l m:Sl)(n:Int)(o:Heap)(p:Int)(q:Heap)(r:Int)(s:Heap)(t:Int)(R:Value->Heap->Prop):Prop:=
 Mk a a 32/\Wn b (ah Pz 192 (a.toNat)) 192 fun c=>Sm [(aS h 3),(aS h 3),(aS h 3),(aS h 3),(aS h 0)] b c/\Cc d c h e f g i j k l m n o p b a q r s t R
def Gd(a:Int)(b h:Heap)(d:Int)(e:ByteArray)(f g:Sl)(i j k:Int)(l m:Sl)(n:Int)(o:Heap)(p:Int)(q:Heap)(r:Int)(s:Heap)(t:Int)(R:Value->Heap->Prop):Prop:=
 Mk a a 1/\Wn b (ah Pz 4 (a.toNat)) 4 fun c=>Sm [(aS h 3),(aS h 3),(aS h 3),(aS h 3),(aS h 0)] b c/\Ce d c h e f g i j k l m n o p q r b a s t R
def Af(a:Int)(b h:Heap)(d e:Int)(f:ByteArray)(g i:Sl)(j k l:Int)(m n:Sl)(o:Int)(p:Heap)(q:Int)(r:Heap)(s:Int)(R:Value->Heap->Prop):Prop:=
 Mk a a 24/\Wn b (ah Pz 274 (a.toNat)) 274 fun c=>Sm [(aS h 3),(aS h 3),(aS h 3),(aS h 3),(aS h 0)] b c/\(Gn d c h e f g i j k l m n o p q r s b a R)/\Gd e c h d f g i j k l m n o p q r s b a R
def Gf(a:Int)(b h:Heap)(d:Int)(e:ByteArray)(f g:Sl)(i j k:Int)(l m:Sl)(n:Int)(o:Heap)(p:Int)(q:Heap)(r:Int)(s:Heap)(t:Int)(R:Value->Heap->Prop):Prop:=
 Mk a a 24/\Wn b (ah Pz 102 (a.toNat)) 102 fun c=>Sm [(aS h 3),(aS h 3),(aS h 3),(aS h 3),(aS h 0)] b c/\Ce d c h e f g i j k l m n b a o p q r s t R
def Ge(a:Int)(b h:Heap)(d:Int)(e:ByteArray)(f g:Sl)(i j k:Int)(l m:Sl)(n:Int)(o:Heap)(p:Int)(q:Heap)(r:Int)(s:Heap)(t:Int)(R:Value->Heap->Prop):Prop:=
 Mk a a 32/\Wn b (ah Pz 192 (a.toNat)) 192 fun c=>Sm [(aS h 3),(aS h 3),(aS h 3),(aS h 3),(aS h 0)] b c/\Cd d c h e f g i j k l m n b a o p q r s t R
def Ae(a:Int)(b h:Heap)(d e:Int)(f:ByteArray)(g i:Sl)(j k l:Int)(m n:Sl)(o:Int)(p:Heap)(q:Int)(r:Heap)(s:Int)(R:Value->Heap->Prop):Prop:=
 Mk a a 1/\Wn b (ah Pz 4 (a.toNat)) 4 fun c=>Sm [(aS h 3),(aS h 3),(aS h 3),(aS h 3),(aS h 0)] b c/\(Gf d c h e f g i j k l m n o b a p q r s R)/\Ge e c h d f g i j k l m n o b a p q r s R
def F8(a:Int)(b h:Heap)(d:Int)(e:ByteArray)(f g:Sl)(i j k:Int)(l m:Sl)(n:Int)(o:Heap)(p:Int)(q:Heap)(r:Int)(s:Heap)(t:Int)(R:Value->Heap->Prop):Prop:=
 Mk a a 24/\Wn b (ah Pz 274 (a.toNat)) 274 fun c=>Sm [(aS h 3),(aS h 3),(aS h 3),(aS h 3),(aS h 0)] b c/\Cc d c h e f g i j k l m n o p q r s t b a R
def F4(a:Int)(b h:Heap)(d:Int)(e:ByteArray)(f g:Sl)(i j k:Int)(l m:Sl)(n:Int)(o:Heap)(p:Int)(q:Heap)(r:Int)(s:Heap)(t:Int)(R:Value->Heap->Prop):Prop:=
 Mk a a 1/\Wn b (ah Pz 4 (a.toNat)) 4 fun c=>Sm [(aS h 3),(aS h 3),(aS h 3),(aS h 3),(aS h 0)] b c/\Ca d c h e f g i j k l m n o p q r s t b a R
def Ad(a:Int)(b h:Heap)(d e:Int)(f:ByteArray)(g i:Sl)(j k l:Int)(m n:Sl)(o:Int)(p:Heap)(q:Int)(r:Heap)(s:Int)(R:Value->Heap->Prop):Prop:=
 Mk a a 24/\Wn b (ah Pz 102 (a.toNat)) 102 fun c=>Sm [(aS h 3),(aS h 3),(aS h 3),(aS h 3),(aS h 0)] b c/\(F4 d c h e f g i j k l m n o b a p q r s R)/\F8 e c h d f g i j k l m n o b a p q r s R
def Gh(a:Int)(b h:Heap)(d:Int)(e:ByteArray)(f g:Sl)(i j k:Int)(l m:Sl)(n:Int)(o:Heap)(p:Int)(q:Heap)(r:Int)(s:Heap)(t:Int)(R:Value->Heap->Prop):Prop:=
 Mk a a 24/\Wn b (ah Pz 102 (a.toNat)) 102 fun c=>Sm [(aS h 3),(aS h 3),(aS h 3),(aS h 3),(aS h 0)] b c/\Cc d c h e f g i j k l m n b a o p q r s t R
def Ga(a:Int)(b h:Heap)(d:Int)(e:ByteArray)(f g:Sl)(i j k:Int)(l m:Sl)(n:Int)(o:Heap)(p:Int)(q:Heap)(r:Int)(s:Heap)(t:Int)(R:Value->Heap->Prop):Prop:=
 Mk a a 1/\Wn b (ah Pz 4 (a.toNat)) 4 fun c=>Sm [(aS h 3),(aS h 3),(aS h 3),(aS h 3),(aS h 0)] b c/\Cd d c h e f g i j k l m n o p q r b a s t R
def Ab(a:Int)(b h:Heap)(d e:Int)(f:ByteArray)(g i:Sl)(j k l:Int)(m n:Sl)(o:Int)(p:Heap)(q:Int)(r:Heap)(s:Int)(R:Value->Heap->Prop):Prop:=
 Mk a a 24/\Wn b (ah Pz 274 (a.toNat)) 274 fun c=>Sm [(aS h 3),(aS h 3),(aS h 3),(aS h 3),(aS h 0)] b c/\(Gh d c h e f g i j k l m n o p q r s b a R)/\Ga e c h d f g i j k l m n o p q r s b a R
def Aa(a:Int)(b h:Heap)(d e:Int)(f:ByteArray)(g i:Sl)(j k l:Int)(m n:Sl)(o:Int)(p:Heap)(q:Int)(r:Heap)(s:Int)(R:Value->Heap->Prop):Prop:=
 Mk a a 24/\Wn b (ah Pz 102 (a.toNat)) 102 fun c=>Sm [(aS h 3),(aS h 3),(aS h 3),(aS h 3),(aS h 0)] b c/\(F7 d c h e f g i j k l m n o b a p q r s R)/\Gc e c h d f g i j k l m n o b a p q r s R
def z7(a:Int)(b h:Heap)(d e:Int)(f:ByteArray)(g i:Sl)(j k l:Int)(m n:Sl)(o:Int)(p:Heap)(q:Int)(r:Heap)(s:Int)(R:Value->Heap->Prop):Prop:=
 Mk a a 24/\Wn b (ah Pz 274 (a.toNat)) 274 fun c=>Sm [(aS h 3),(aS h 3),(aS h 3),(aS h 3),(aS h 0)] b c/\(Gg d c h e f g i j k l m n o p q r s b a R)/\F9 e c h d f g i j k l m n o p q r s b a R
def z6(a:Int)(b h:Heap)(d e:Int)(f:ByteArray)(g i:Sl)(j k l:Int)(m n:Sl)(o:Int)(p:Heap)(q:Int)(r:Heap)(s:Int)(R:Value->Heap->Prop):Prop:=
 Mk a a 24/\Wn b (ah Pz 102 (a.toNat)) 102 fun c=>Sm [(aS h 3),(aS h 3),(aS h 3),(aS h 3),(aS h 0)] b c/\(F6 d c h e f g i j k l m n o b a p q r s R)/\F5 e c h d f g i j k l m n o b a p q r s R
def Gq(a:Int)(b h:Heap)(d:Int)(e:ByteArray)(f g:Sl)(i j k:Int)(l m:Sl)(n:Int)(o:Heap)(p:Int)(q:Heap)(r:Int)(s:Heap)(t:Int)(R:Value->Heap->Prop):Prop:=
 Mk a a 32/\Wn b (ah Pz 192 (a.toNat)) 192 fun c=>Sm [(aS h 3),(aS h 3),(aS h 3),(aS h 3),(aS h 0)] b c/\Ca d c h e f g i j k l m n o p b a q r s t R
def Gp(a:Int)(b h:Heap)(d:Int)(e:ByteArray)(f g:Sl)(i j k:Int)(l m:Sl)(n:Int)(o:Heap)(p:Int)(q:Heap)(r:Int)(s:Heap)(t:Int)(R:Value->Heap->Prop):Prop:=
 Mk a a 24/\Wn b (ah Pz 274 (a.toNat)) 274 fun c=>Sm [(aS h 3),(aS h 3),(aS h 3),(aS h 3),(aS h 0)] b c/\Ce d c h e f g i j k l m n o p q r s t b a R
def zZ(a:Int)(b h:Heap)(d e:Int)(f:ByteArray)(g i:Sl)(j k l:Int)(m n:Sl)(o:Int)(p:Heap)(q:Int)(r:Heap)(s:Int)(R:Value->Heap->Prop):Prop:=
 Mk a a 24/\Wn b (ah Pz 102 (a.toNat)) 102 fun c=>Sm [(aS h 3),(aS h 3),(aS h 3),(aS h 3),(aS h 0)] b c/\(Gq d c h e f g i j k l m n o b a p q r s R)/\Gp e c h d f g i j k l m n o b a p q r s R
def Gj(a:Int)(b h:Heap)(d:Int)(e:ByteArray)(f g:Sl)(i j k:Int)(l m:Sl)(n:Int)(o:Heap)(p:Int)(q:Heap)(r:Int)(s:Heap)(t:Int)(R:Value->Heap->Prop):Prop:=
 Mk a a 24/\Wn b (ah Pz 102 (a.toNat)) 102 fun c=>Sm [(aS h 3),(aS h 3),(aS h 3),(aS h 3),(aS h 0)] b c/\Ca d c h e f g i j k l m n b a o p q r s t R
def Gi(a:Int)(b h:Heap)(d:Int)(e:ByteArray)(f g:Sl)(i j k:Int)(l m:Sl)(n:Int)(o:Heap)(p:Int)(q:Heap)(r:Int)(s:Heap)(t:Int)(R:Value->Heap->Prop):Prop:=
 Mk a a 24/\Wn b (ah Pz 274 (a.toNat)) 274 fun c=>Sm [(aS h 3),(aS h 3),(aS h 3),(aS h 3),(aS h 0)] b c/\Cd d c h e f g i j k l m n o p q r s t b a R
def zY(a:Int)(b h:Heap)(d e:Int)(f:ByteArray)(g i:Sl)(j k l:Int)(m n:Sl)(o:Int)(p:Heap)(q:Int)(r:Heap)(s:Int)(R:Value->Heap->Prop):Prop:=
 Mk a a 32/\Wn b (ah Pz 192 (a.toNat)) 192 fun c=>Sm [(aS h 3),(aS h 3),(aS h 3),(aS h 3),(aS h 0)] b c/\(Gj d c h e f g i j k l m n o b a p q r s R)/\Gi e c h d f g i j k l m n o b a p q r s R
def zX(a:Int)(b h:Heap)(d e:Int)(f:ByteArray)(g i:Sl)(j k l:Int)(m n:Sl)(o:Int)(p:Heap)(q:Int)(r:Heap)(s:Int)(R:Value->Heap->Prop):Prop:=
 Mk a a 24/\Wn b (ah Pz 274 (a.toNat)) 274 fun c=>Sm [(aS h 3),(aS h 3),(aS h 3),(aS h 3),(aS h 0)] b c/\(Gf d c h e f g i j k l m n o p q r s b a R)/\Ge e c h d f g i j k l m n o p q r s b a R
def zW(a:Int)(b h:Heap)(d e:Int)(f:ByteArray)(g i:Sl)(j k l:Int)(m n:Sl)(o:Int)(p:Heap)(q:Int)(r:Heap)(s:Int)(R:Value->Heap->Prop):Prop:=
 Mk a a 24/\Wn b (ah Pz 102 (a.toNat)) 102 fun c=>Sm [(aS h 3),(aS h 3),(aS h 3),(aS h 3),(aS h 0)] b c/\(Gn d c h e f g i j k l m n o b a p q r s R)/\Gd e c h d f g i j k l m n o b a p q r s R
def zV(a:Int)(b h:Heap)(d e:Int)(f:ByteArray)(g i:Sl)(j k l:Int)(m n:Sl)(o:Int)(p:Heap)(q:Int)(r:Heap)(s:Int)(R:Value->Heap->Prop):Prop:=
 Mk a a 32/\Wn b (ah Pz 192 (a.toNat)) 192 fun c=>Sm [(aS h 3),(aS h 3),(aS h 3),(aS h 3),(aS h 0)] b c/\(Gh d c h e f g i j k l m n o b a p q r s R)/\Ga e c h d f g i j k l m n o b a p q r s R
def zU(a:Int)(b h:Heap)(d e:Int)(f:ByteArray)(g i:Sl)(j k l:Int)(m n:Sl)(o:Int)(p:Heap)(q:Int)(r:Heap)(s:Int)(R:Value->Heap->Prop):Prop:=
 Mk a a 1/\Wn b (ah Pz 4 (a.toNat)) 4 fun c=>Sm [(aS h 3),(aS h 3),(aS h 3),(aS h 3),(aS h 0)] b c/\(Gq d c h e f g i j k l m n o p q b a r s R)/\Gp e c h d f g i j k l m n o p q b a r s R
def zT(a:Int)(b h:Heap)(d e:Int)(f:ByteArray)(g i:Sl)(j k l:Int)(m n:Sl)(o:Int)(p:Heap)(q:Int)(r:Heap)(s:Int)(R:Value->Heap->Prop):Prop:=
 Mk a a 1/\Wn b (ah Pz 4 (a.toNat)) 4 fun c=>Sm [(aS h 3),(aS h 3),(aS h 3),(aS h 3),(aS h 0)] b c/\(Gn d c h e f g i j k l m n o p q b a r s R)/\Gd e c h d f g i j k l m n o p q b a r s R
def zS(a:Int)(b h:Heap)(d e:Int)(f:ByteArray)(g i:Sl)(j k l:Int)(m n:Sl)(o:Int)(p:Heap)(q:Int)(r:Heap)(s:Int)(R:Value->Heap->Prop):Prop:=
 Mk a a 1/\Wn b (ah Pz 4 (a.toNat)) 4 fun c=>Sm [(aS h 3),(aS h 3),(aS h 3),(aS h 3),(aS h 0)] b c/\(Gk d c h e f g i j k l m n o p q b a r s R)/\Gb e c h d f g i j k l m n o p q b a r s R
def zR(a:Int)(b h:Heap)(d e:Int)(f:ByteArray)(g i:Sl)(j k l:Int)(m n:Sl)(o:Int)(p:Heap)(q:Int)(r:Heap)(s:Int)(R:Value->Heap->Prop):Prop:=
 Mk a a 32/\Wn b (ah Pz 192 (a.toNat)) 192 fun c=>Sm [(aS h 3),(aS h 3),(aS h 3),(aS h 3),(aS h 0)] b c/\(F4 d c h e f g i j k l m n o p q b a r s R)/\F8 e c h d f g i j k l m n o p q b a r s R
def zQ(a:Int)(b h:Heap)(d e:Int)(f:ByteArray)(g i:Sl)(j k l:Int)(m n:Sl)(o:Int)(p:Heap)(q:Int)(r:Heap)(s:Int)(R:Value->Heap->Prop):Prop:=
 Mk a a 1/\Wn b (ah Pz 4 (a.toNat)) 4 fun c=>Sm [(aS h 3),(aS h 3),(aS h 3),(aS h 3),(aS h 0)] b c/\(Gq d c h e f g i j k l m n o p q r s b a R)/\Gp e c h d f g i j k l m n o p q r s b a R
def zP(a:Int)(b h:Heap)(d e:Int)(f:ByteArray)(g i:Sl)(j k l:Int)(m n:Sl)(o:Int)(p:Heap)(q:Int)(r:Heap)(s:Int)(R:Value->Heap->Prop):Prop:=
 Mk a a 24/\Wn b (ah Pz 274 (a.toNat)) 274 fun c=>Sm [(aS h 3),(aS h 3),(aS h 3),(aS h 3),(aS h 0)] b c/\(F6 d c h e f g i j k l m n o p q r s b a R)/\F5 e c h d f g i j k l m n o p q r s b a R
def zO(a:Int)(b h:Heap)(d e:Int)(f:ByteArray)(g i:Sl)(j k l:Int)(m n:Sl)(o:Int)(p:Heap)(q:Int)(r:Heap)(s:Int)(R:Value->Heap->Prop):Prop:=
 Mk a a 1/\Wn b (ah Pz 4 (a.toNat)) 4 fun c=>Sm [(aS h 3),(aS h 3),(aS h 3),(aS h 3),(aS h 0)] b c/\(Gj d c h e f g i j k l m n o p q r s b a R)/\Gi e c h d f g i j k l m n o p q r s b a R
def zN(a:Int)(b h:Heap)(d e:Int)(f:ByteArray)(g i:Sl)(j k l:Int)(m n:Sl)(o:Int)(p:Heap)(q:Int)(r:Heap)(s:Int)(R:Value->Heap->Prop):Prop:=
 Mk a a 1/\Wn b (ah Pz 4 (a.toNat)) 4 fun c=>Sm [(aS h 3),(aS h 3),(aS h 3),(aS h 3),(aS h 0)] b c/\(Gj d c h e f g i j k l m n o p q b a r s R)/\Gi e c h d f g i j k l m n o p q b a r s R
def sz(a:Int)(b h:Heap)(d e:Int)(f:ByteArray)(g i:Sl)(j k l:Int)(m n:Sl)(o:Int)(p:Heap)(q:Int)(r:Heap)(s:Int)(R:Value->Heap->Prop):Prop:=
 Mk a a 1/\Wn b (ah Pz 4 (a.toNat)) 4 fun c=>Sm [(aS h 3),(aS h 3),(aS h 3),(aS h 3),(aS h 0)] b c/\(Gh d c h e f g i j k l m n o p q b a r s R)/\Ga e c h d f g i j k l m n o p q b a r s R
def sy(a:Int)(b h:Heap)(d e:Int)(f:ByteArray)(g i:Sl)(j k l:Int)(m n:Sl)(o:Int)(p:Heap)(q:Int)(r:Heap)(s:Int)(R:Value->Heap->Prop):Prop:=
 Mk a a 1/\Wn b (ah Pz 4 (a.toNat)) 4 fun c=>Sm [(aS h 3),(aS h 3),(aS h 3),(aS h 3),(aS h 0)] b c/\(Gg d c h e f g i j k l m n o p q b a r s R)/\F9 e c h d f g i j k l m n o p q b a r s R
def sx(a:Int)(b h:Heap)(d e:Int)(f:ByteArray)(g i:Sl)(j k l:Int)(m n:Sl)(o:Int)(p:Heap)(q:Int)(r:Heap)(s:Int)(R:Value->Heap->Prop):Prop:=
 Mk a a 1/\Wn b (ah Pz 4 (a.toNat)) 4 fun c=>Sm [(aS h 3),(aS h 3),(aS h 3),(aS h 3),(aS h 0)] b c/\(Gf d c h e f g i j k l m n o p q b a r s R)/\Ge e c h d f g i j k l m n o p q b a r s R
def sw(a:Int)(b h:Heap)(d e:Int)(f:ByteArray)(g i:Sl)(j k l:Int)(m n:Sl)(o:Int)(p:Heap)(q:Int)(r:Heap)(s:Int)(R:Value->Heap->Prop):Prop:=
 Mk a a 1/\Wn b (ah Pz 4 (a.toNat)) 4 fun c=>Sm [(aS h 3),(aS h 3),(aS h 3),(aS h 3),(aS h 0)] b c/\(F7 d c h e f g i j k l m n o p q r s b a R)/\Gc e c h d f g i j k l m n o p q r s b a R
def sv(a:Int)(b h:Heap)(d e:Int)(f:ByteArray)(g i:Sl)(j k l:Int)(m n:Sl)(o:Int)(p:Heap)(q:Int)(r:Heap)(s:Int)(R:Value->Heap->Prop):Prop:=
 Mk a a 1/\Wn b (ah Pz 4 (a.toNat)) 4 fun c=>Sm [(aS h 3),(aS h 3),(aS h 3),(aS h 3),(aS h 0)] b c/\(F4 d c h e f g i j k l m n o p q r s b a R)/\F8 e c h d f g i j k l m n o p q r s b a R
def Gv(b:Int)(g h:Heap)(c d e f:Int)(i:ByteArray)(j k:Sl)(l m n:Int)(o p:Sl)(q:Int)(R:Value->Heap->Prop):Prop:=
 Mk b b 24/\Wn g (ah Pz 102 (b.toNat)) 102 fun a=>Sm [(aS h 3),(aS h 3),(aS h 3),(aS h 3),(aS h 0)] g a/\(Mk c c 32/\Wn a (ah Pz 192 (c.toNat)) 192 fun r=>Sm [(aS h 3),(aS h 3),(aS h 3),(aS h 3),(aS h 0)] a r/\(sv d r h e f i j k l m n o p q g b a c R)/\(sw e r h d f i j k l m n o p q g b a c R)/\zP f r h d e i j k l m n o p q g b a c R)/\(Mk d d 1/\Wn a (ah Pz 4 (d.toNat)) 4 fun s=>Sm [(aS h 3),(aS h 3),(aS h 3),(aS h 3),(aS h 0)] a s/\(zR c s h e f i j k l m n o p q g b a d R)/\(zQ e s h c f i j k l m n o p q g b a d R)/\Af f s h c e i j k l m n o p q g b a d R)/\(Mk e e 1/\Wn a (ah Pz 4 (e.toNat)) 4 fun t=>Sm [(aS h 3),(aS h 3),(aS h 3),(aS h 3),(aS h 0)] a t/\(Ai c t h d f i j k l m n o p q g b a e R)/\(zU d t h c f i j k l m n o p q g b a e R)/\Ah f t h c d i j k l m n o p q g b a e R)/\Mk f f 24/\Wn a (ah Pz 274 (f.toNat)) 274 fun u=>Sm [(aS h 3),(aS h 3),(aS h 3),(aS h 3),(aS h 0)] a u/\(Ag c u h d e i j k l m n o p q g b a f R)/\(zT d u h c e i j k l m n o p q g b a f R)/\zS e u h c d i j k l m n o p q g b a f R
def Gu(b:Int)(g h:Heap)(c d e f:Int)(i:ByteArray)(j k:Sl)(l m n:Int)(o p:Sl)(q:Int)(R:Value->Heap->Prop):Prop:=
 Mk b b 32/\Wn g (ah Pz 192 (b.toNat)) 192 fun a=>Sm [(aS h 3),(aS h 3),(aS h 3),(aS h 3),(aS h 0)] g a/\(Mk c c 24/\Wn a (ah Pz 102 (c.toNat)) 102 fun r=>Sm [(aS h 3),(aS h 3),(aS h 3),(aS h 3),(aS h 0)] a r/\(sv d r h e f i j k l m n o p q a c g b R)/\(sw e r h d f i j k l m n o p q a c g b R)/\zP f r h d e i j k l m n o p q a c g b R)/\(Mk d d 1/\Wn a (ah Pz 4 (d.toNat)) 4 fun s=>Sm [(aS h 3),(aS h 3),(aS h 3),(aS h 3),(aS h 0)] a s/\(Ad c s h e f i j k l m n o p q g b a d R)/\(zO e s h c f i j k l m n o p q g b a d R)/\Ab f s h c e i j k l m n o p q g b a d R)/\(Mk e e 1/\Wn a (ah Pz 4 (e.toNat)) 4 fun t=>Sm [(aS h 3),(aS h 3),(aS h 3),(aS h 3),(aS h 0)] a t/\(Aa c t h d f i j k l m n o p q g b a e R)/\(zN d t h c f i j k l m n o p q g b a e R)/\z7 f t h c d i j k l m n o p q g b a e R)/\Mk f f 24/\Wn a (ah Pz 274 (f.toNat)) 274 fun u=>Sm [(aS h 3),(aS h 3),(aS h 3),(aS h 3),(aS h 0)] a u/\(z6 c u h d e i j k l m n o p q g b a f R)/\(sz d u h c e i j k l m n o p q g b a f R)/\sy e u h c d i j k l m n o p q g b a f R
def Gt(b:Int)(g h:Heap)(c d e f:Int)(i:ByteArray)(j k:Sl)(l m n:Int)(o p:Sl)(q:Int)(R:Value->Heap->Prop):Prop:=
 Mk b b 1/\Wn g (ah Pz 4 (b.toNat)) 4 fun a=>Sm [(aS h 3),(aS h 3),(aS h 3),(aS h 3),(aS h 0)] g a/\(Mk c c 24/\Wn a (ah Pz 102 (c.toNat)) 102 fun r=>Sm [(aS h 3),(aS h 3),(aS h 3),(aS h 3),(aS h 0)] a r/\(zR d r h e f i j k l m n o p q a c g b R)/\(zQ e r h d f i j k l m n o p q a c g b R)/\Af f r h d e i j k l m n o p q a c g b R)/\(Mk d d 32/\Wn a (ah Pz 192 (d.toNat)) 192 fun s=>Sm [(aS h 3),(aS h 3),(aS h 3),(aS h 3),(aS h 0)] a s/\(Ad c s h e f i j k l m n o p q a d g b R)/\(zO e s h c f i j k l m n o p q a d g b R)/\Ab f s h c e i j k l m n o p q a d g b R)/\(Mk e e 1/\Wn a (ah Pz 4 (e.toNat)) 4 fun t=>Sm [(aS h 3),(aS h 3),(aS h 3),(aS h 3),(aS h 0)] a t/\(zZ c t h d f i j k l m n o p q g b a e R)/\(zY d t h c f i j k l m n o p q g b a e R)/\zX f t h c d i j k l m n o p q g b a e R)/\Mk f f 24/\Wn a (ah Pz 274 (f.toNat)) 274 fun u=>Sm [(aS h 3),(aS h 3),(aS h 3),(aS h 3),(aS h 0)] a u/\(zW c u h d e i j k l m n o p q g b a f R)/\(zV d u h c e i j k l m n o p q g b a f R)/\sx e u h c d i j k l m n o p q g b a f R
def Gs(b:Int)(g h:Heap)(c d e f:Int)(i:ByteArray)(j k:Sl)(l m n:Int)(o p:Sl)(q:Int)(R:Value->Heap->Prop):Prop:=
 Mk b b 1/\Wn g (ah Pz 4 (b.toNat)) 4 fun a=>Sm [(aS h 3),(aS h 3),(aS h 3),(aS h 3),(aS h 0)] g a/\(Mk c c 24/\Wn a (ah Pz 102 (c.toNat)) 102 fun r=>Sm [(aS h 3),(aS h 3),(aS h 3),(aS h 3),(aS h 0)] a r/\(Ai d r h e f i j k l m n o p q a c g b R)/\(zU e r h d f i j k l m n o p q a c g b R)/\Ah f r h d e i j k l m n o p q a c g b R)/\(Mk d d 32/\Wn a (ah Pz 192 (d.toNat)) 192 fun s=>Sm [(aS h 3),(aS h 3),(aS h 3),(aS h 3),(aS h 0)] a s/\(Aa c s h e f i j k l m n o p q a d g b R)/\(zN e s h c f i j k l m n o p q a d g b R)/\z7 f s h c e i j k l m n o p q a d g b R)/\(Mk e e 1/\Wn a (ah Pz 4 (e.toNat)) 4 fun t=>Sm [(aS h 3),(aS h 3),(aS h 3),(aS h 3),(aS h 0)] a t/\(zZ c t h d f i j k l m n o p q a e g b R)/\(zY d t h c f i j k l m n o p q a e g b R)/\zX f t h c d i j k l m n o p q a e g b R)/\Mk f f 24/\Wn a (ah Pz 274 (f.toNat)) 274 fun u=>Sm [(aS h 3),(aS h 3),(aS h 3),(aS h 3),(aS h 0)] a u/\(Ak c u h d e i j k l m n o p q g b a f R)/\(Aj d u h c e i j k l m n o p q g b a f R)/\Ae e u h c d i j k l m n o p q g b a f R
def Gr(b:Int)(g h:Heap)(c d e f:Int)(i:ByteArray)(j k:Sl)(l m n:Int)(o p:Sl)(q:Int)(R:Value->Heap->Prop):Prop:=
 Mk b b 24/\Wn g (ah Pz 274 (b.toNat)) 274 fun a=>Sm [(aS h 3),(aS h 3),(aS h 3),(aS h 3),(aS h 0)] g a/\(Mk c c 24/\Wn a (ah Pz 102 (c.toNat)) 102 fun r=>Sm [(aS h 3),(aS h 3),(aS h 3),(aS h 3),(aS h 0)] a r/\(Ag d r h e f i j k l m n o p q a c g b R)/\(zT e r h d f i j k l m n o p q a c g b R)/\zS f r h d e i j k l m n o p q a c g b R)/\(Mk d d 32/\Wn a (ah Pz 192 (d.toNat)) 192 fun s=>Sm [(aS h 3),(aS h 3),(aS h 3),(aS h 3),(aS h 0)] a s/\(z6 c s h e f i j k l m n o p q a d g b R)/\(sz e s h c f i j k l m n o p q a d g b R)/\sy f s h c e i j k l m n o p q a d g b R)/\(Mk e e 1/\Wn a (ah Pz 4 (e.toNat)) 4 fun t=>Sm [(aS h 3),(aS h 3),(aS h 3),(aS h 3),(aS h 0)] a t/\(zW c t h d f i j k l m n o p q a e g b R)/\(zV d t h c f i j k l m n o p q a e g b R)/\sx f t h c d i j k l m n o p q a e g b R)/\Mk f f 1/\Wn a (ah Pz 4 (f.toNat)) 4 fun u=>Sm [(aS h 3),(aS h 3),(aS h 3),(aS h 3),(aS h 0)] a u/\(Ak c u h d e i j k l m n o p q a f g b R)/\(Aj d u h c e i j k l m n o p q a f g b R)/\Ae e u h c d i j k l m n o p q a f g b R
def W49(pa:ByteArray)(pb pc:Sl)(pd pe pf:Int)(pg ph:Sl)(b:Int):Prop:=
 Wn h (L0 pa pb pc pd pe pf pg ph) 27 fun r=>∃s t u v w x y z,eT r (aS h 0) s t u v w x y z/\Fn Pz 40 #[.agg ⟨(L0 s t u v w x y z)⟩] r (fun C a=>∃A,iB C A/\sB (!A) (R (.tuple ⟨[.pointer none,vI 1]⟩) a) (sB (decide (b<0)) (R (.tuple ⟨[.pointer none,vI 1]⟩) a) (∃B,rS a (aS h 1) B/\sB (decide (b>=(B.n:Int))) (R (.tuple ⟨[.pointer none,vI 1]⟩) a) (∃c d e f g i j k,eT a (aS h 0) c d e f g i j k/\∃l,rI a (aS h 3) l/\∃m,rI a (aS h 3) m/\∃o,rI a (aS h 3) o/\∃p,rI a (aS h 3) p/\∃q,rI a (aS h 3) q/\(Gv l a h m o p q c d e f g i j k b R)/\(Gu m a h l o p q c d e f g i j k b R)/\(Gt o a h l m p q c d e f g i j k b R)/\(Gs p a h l m o q c d e f g i j k b R)/\Gr q a h l m o p c d e f g i j k b R))))
theorem Xa(pa:ByteArray)(pb pc:Sl)(pd pe pf:Int)(pg ph:Sl)(p1:Int)(H:@W49 h R pa pb pc pd pe pf pg ph p1):Fn Pz 49 #[.agg ⟨(L0 pa pb pc pd pe pf pg ph)⟩,vI p1] h R:=aU (A:=(.s .z (.s .z (.s .z (.s (AI 50) (.s (AI 118) (.s (AI 147) .z))))))) H
def W82(b:Addr):Prop:=
 ∃v,rI h ⟨b.block,b.off+3,none⟩ v /\
 QI 0 h fun I2 c l m4=>
 sB (decide (c<v))
 (∃p,rS l ⟨b.block,b.off+9,none⟩ p /\
 NB p.a fun b8 o9=>Ib c p.n /\
 ∃m,rS l ⟨b8,o9+c.toNat*1,none⟩ m /\
 QI 0 l fun w j d x=>
 sB (decide (j<(m.n:Int)))
 (NB m.a fun p0 q0=>Ib j m.n /\
 ∃e,rI d ⟨p0,q0+j.toNat*1,none⟩ e /\
 ∃q,rS d ⟨b.block,b.off+6,none⟩ q /\
 NB q.a fun r0 s0=>Ib e q.n /\
 ∃y,rI d ⟨r0,s0+e.toNat*6+1+1,none⟩ y /\
 ∃z,rI d ⟨b.block,b.off+8,none⟩ z /\
 sB (y != z)
 (∃A,A<x/\w (wrap .i64 (j+1)) d A)
 (∃B C D E F G H I,eT d b B C D E F G H I /\
 Fn Pz 31 #[.agg ⟨(L0 B C D E F G H I)⟩,vI e] d
 (fun t0 u0=>∃(o:Sl) (v0:Int),t0=.tuple ⟨[vS o,vI v0]⟩ /\
 QI 0 u0 fun J k f K=>
 sB (decide (k<(o.n:Int)))
 (NB o.a fun w0 x0=>Ib k o.n /\
 ∃(L M:Int),a8 f ⟨w0,x0+k.toNat*2,none⟩ [vI L,vI M] /\
 Wn f [vI 0,vI 0] 72 fun y0=>
 Wp y0 (aS f 0) 2 [vI L,vI M] fun g=>
 ∃N,rI g (aS f 0) N /\
 ∃r,rS g ⟨b.block,b.off+6,none⟩ r /\
 NB r.a fun z0 A0=>Ib e r.n /\
 ∃O,rI g ⟨z0,A0+e.toNat*6+1,none⟩ O /\
 sB (N==O)
 (∃P,P<K/\J (wrap .i64 (k+1)) g P)
 (∃Q S T U V W X Y,eT g b Q S T U V W X Y /\
 ∃(Z a0:Int),a8 g (aS f 0) [vI Z,vI a0] /\
 Fn Pz 32 #[.agg ⟨(L0 Q S T U V W X Y)⟩,vI e,.agg ⟨[vI Z,vI a0]⟩] g
 (fun B0 i=>∃(b0:Sl) (C0:Int),B0=.tuple ⟨[vS b0,vI C0]⟩ /\
 ∃s,rS i ⟨b.block,b.off+14,none⟩ s /\
 ∃t,rS i ⟨b.block,b.off+14,none⟩ t /\
 NB t.a fun c0 d0=>Ib c t.n /\
 ∃e0,rS i ⟨c0,d0+c.toNat*1,none⟩ e0 /\
 ∃(f0 g0:Int),a8 i (aS f 0) [vI f0,vI g0] /\
 Wn i [vI e,vI (wrap .i64 (1+(b0.n:Int))),vI f0,vI g0] 276 fun u=>
 Sm [⟨c0,d0+c.toNat*1,none⟩,⟨b.block,b.off+14,none⟩,⟨b.block,b.off+14,none⟩] i u /\
 App Pz 274 274 (vS e0) (.slice (some (aS i 0)) 1 1) u fun D0 h0=>
 Sm [⟨b.block,b.off+14,none⟩] u h0 /\
 NB s.a fun E0 F0=>Ib c s.n /\
 Wp h0 ⟨E0,F0+c.toNat*1,none⟩ 1 [vS D0] fun G0=>
 ∃i0,i0<K/\J (wrap .i64 (k+1)) G0 i0)))
 (∃j0,j0<x/\w (wrap .i64 (j+1)) f j0))))
 (∃k0,k0<m4/\I2 (wrap .i64 (c+1)) d k0))
 (R (.tuple ⟨[]⟩) l)
theorem WW(p0:Addr)(H:@W82 h R p0):Fn Pz 82 #[.pointer (some p0)] h R:=aU (A:=(.s .z (.b (.l [(16,.one (.int .i64))] (.s .z (.s .z (.s (.b (.s .z (.s .z (.b (.l [(27,.one (.int .i64))] (.s .z (.s .z (.s (.b (.s .z (.s .z (.s .z (AI 57))))) .z)))))))) .z))))))) H
def NT(q:Int)(f r:Heap)(b:Addr)(d h:Heap)(R:Value->Heap->Prop)(k:Int):Prop:=
 sB (q==1)
 (∃(s t:Int),a8 f (aS r 0) [vI s,vI t] /\
 Fn Pz 170 #[.pointer (some b),.agg ⟨[vI s,vI t]⟩] f
 (fun k2 l=>∃(u:Bool) (v w:Int) (l2:Bool),k2=.tuple ⟨[.agg ⟨(L3 u v w)⟩,.bool l2]⟩ /\
 Wn l [.bool false,vI 0,vI 0] 188 fun m2=>
 Wp m2 (aS l 0) 3 (L3 u v w) fun x=>
 ∃y z A,mP x (aS l 0) y z A /\
 Fn Pz 171 #[.pointer (some b),.agg ⟨(L3 y z A)⟩] x
 (fun n2 o2=>∃(B:Int) (C:Bool) (D E:Int) (F:Sl),n2=.agg ⟨(L8 B C D E F)⟩ /\
 Wp o2 (aS d 4) 5 (L8 B C D E F) fun G=>
 ∃H I J K L M N O P Q S T U V,lU G (aS d 0) H I J K L M N O P Q S T U V /\
 Wp G (aS h 0) 14 (L1 H I J K L M N O P Q S T U V) fun W=>
 ∃X Y Z a0 b0 c0 d0 e0 f0 g0 h0 i0 j0 k0,lU W (aS h 0) X Y Z a0 b0 c0 d0 e0 f0 g0 h0 i0 j0 k0 /\
 R (.tuple ⟨[.agg ⟨(L1 X Y Z a0 b0 c0 d0 e0 f0 g0 h0 i0 j0 k0)⟩,vI k]⟩) W)))
 (sB (q==4)
 (∃(l0 m0:Int),a8 f (aS r 0) [vI l0,vI m0] /\
 Fn Pz 152 #[.pointer (some b),.agg ⟨[vI l0,vI m0]⟩] f
 (fun p2 e=>∃(n0 o0 p0 q0:Int) (q2:Bool),p2=.tuple ⟨[.agg ⟨(L5 n0 o0 p0 q0)⟩,.bool q2]⟩ /\
 Wn e [vI 0,vI 0,vI 0,vI 0] 276 fun r2=>
 Wp r2 (aS e 0) 4 (L5 n0 o0 p0 q0) fun g=>
 ∃r0 s0 t0 u0 v0 w0 x0 y0,eT g b r0 s0 t0 u0 v0 w0 x0 y0 /\
 ∃z0,rI g (aS e 0) z0 /\
 ∃(A0 B0:Int),a8 g (aS e 2) [vI A0,vI B0] /\
 Fn Pz 32 #[.agg ⟨(L0 r0 s0 t0 u0 v0 w0 x0 y0)⟩,vI z0,.agg ⟨[vI A0,vI B0]⟩] g
 (fun s2 c=>∃(C0:Sl) (t2:Int),s2=.tuple ⟨[vS C0,vI t2]⟩ /\
 ∃m,rS c ⟨b.block,b.off+6,none⟩ m /\
 ∃i,rI c (aS e 0) i /\
 NB m.a fun D0 E0=>Ib i m.n /\
 ∃F0 G0 H0,jh c ⟨D0,E0+i.toNat*6+1,none⟩ F0 G0 H0 /\
 Wn c [vI 0,vI 0,vI 0] 65 fun I0=>
 Sm [⟨D0,E0+i.toNat*6+1,none⟩,(aS e 0),⟨b.block,b.off+6,none⟩] c I0 /\
 Wp I0 (aS c 0) 3 (L2 F0 G0 H0) fun j=>
 ∃J0,rS j (aS d 2) J0 /\
 ∃K0 M0 N0,jh j (aS c 0) K0 M0 N0 /\
 Wn j (L2 K0 M0 N0) 65 fun u2=>
 App Pz 30 30 (vS J0) (.slice (some (aS j 0)) 1 1) u2 fun v2 w2=>
 App Pz 30 30 (vS v2) (vS C0) w2 fun x2 y2=>
 Wp y2 (aS d 2) 1 [vS x2] fun o=>
 ∃O0,rI o (aS e 2) O0 /\
 ∃P0,rI o (aS e (2+1)) P0 /\
 Fn Pz 171 #[.pointer (some b),.agg ⟨[.bool false,vI O0,vI P0]⟩] o
 (fun z2 A2=>∃(Q0:Int) (R0:Bool) (S0 T0:Int) (U0:Sl),z2=.agg ⟨(L8 Q0 R0 S0 T0 U0)⟩ /\
 Wp A2 (aS d 4) 5 (L8 Q0 R0 S0 T0 U0) fun p=>
 ∃V0,rI p (aS c 0) V0 /\
 ∃W0,rI p (aS c 2) W0 /\
 Fn Pz 171 #[.pointer (some b),.agg ⟨[.bool false,vI V0,vI W0]⟩] p
 (fun B2 C2=>∃(X0:Int) (Y0:Bool) (Z0 a1:Int) (b1:Sl),B2=.agg ⟨(L8 X0 Y0 Z0 a1 b1)⟩ /\
 Wp C2 (aS d 9) 5 (L8 X0 Y0 Z0 a1 b1) fun c1=>
 ∃d1 e1 f1 g1 h1 i1 j1 k1 l1 m1 n1 o1 p1 q1,lU c1 (aS d 0) d1 e1 f1 g1 h1 i1 j1 k1 l1 m1 n1 o1 p1 q1 /\
 Wp c1 (aS h 0) 14 (L1 d1 e1 f1 g1 h1 i1 j1 k1 l1 m1 n1 o1 p1 q1) fun r1=>
 ∃s1 t1 u1 v1 w1 x1 y1 z1 A1 B1 C1 D1 E1 F1,lU r1 (aS h 0) s1 t1 u1 v1 w1 x1 y1 z1 A1 B1 C1 D1 E1 F1 /\
 R (.tuple ⟨[.agg ⟨(L1 s1 t1 u1 v1 w1 x1 y1 z1 A1 B1 C1 D1 E1 F1)⟩,vI k]⟩) r1)))))
 (∃G1 H1 I1 J1 K1 M1 N1 O1 P1 Q1 R1 S1 T1 U1,lU f (aS d 0) G1 H1 I1 J1 K1 M1 N1 O1 P1 Q1 R1 S1 T1 U1 /\
 Wp f (aS h 0) 14 (L1 G1 H1 I1 J1 K1 M1 N1 O1 P1 Q1 R1 S1 T1 U1) fun V1=>
 ∃W1 X1 Y1 Z1 a2 b2 c2 d2 e2 f2 g2 h2 i2 j2,lU V1 (aS h 0) W1 X1 Y1 Z1 a2 b2 c2 d2 e2 f2 g2 h2 i2 j2 /\
 R (.tuple ⟨[.agg ⟨(L1 W1 X1 Y1 Z1 a2 b2 c2 d2 e2 f2 g2 h2 i2 j2)⟩,vI k]⟩) V1))
def F3(p f:Heap)(R:Option Nat)(S e:Heap)(g:Addr)(q:Nat)(r:Heap->Nat->Prop):Prop:=
 ∃(s t:Int),a8 p (aS f 0) [vI s,vI t] /\
 br Pz (Instr.lookup 93 (.map R) (.agg ⟨[vI s,vI t]⟩) false) p
 (fun T U=>∃h,iS T h /\
 Fn Pz 167 #[vS h,.func (.func 168) #[] #[.pointer (some (aS S 0)),.pointer (some (aS f 0))]] U
 (fun V c=>∃i,iI V i /\
 NB h.a fun W X=>Ib i h.n /\
 ∃u v w x,Cy c ⟨W,X+i.toNat*4,none⟩ u v w x /\
 Wn c [vI 0,vI 0,vI 0,vI 0] 200 fun Y=>
 Wp Y (aS c 0) 4 (L5 u v w x) fun d=>
 ∃j:Heap->Prop,
 (∃y,rI d (aS c 0) y /\
 sB (decide (y>=0))
 (∃z,rS d (aS e 2) z /\
 ∃k,rS d ⟨g.block,g.off+6,none⟩ k /\
 ∃l,rI d (aS c 0) l /\
 NB k.a fun Z a0=>Ib l k.n /\
 ∃A B C,jh d ⟨Z,a0+l.toNat*6+1,none⟩ A B C /\
 Wn d (L2 A B C) 65 fun D=>
 Sm [(aS e 2)] d D /\
 App Pz 30 30 (vS z) (.slice (some (aS d 0)) 1 1) D fun b0 c0=>
 Wp c0 (aS e 2) 1 [vS b0] fun d0=>
 j d0)
 (j d)) /\
 ∀(_:Env) (b:Heap),j b ->
 (∃E,rI b (aS c 1) E /\
 sB (decide (E>=0))
 (∃F,rS b (aS e 3) F /\
 ∃m,rS b ⟨g.block,g.off+6,none⟩ m /\
 ∃o,rI b (aS c 1) o /\
 NB m.a fun e0 f0=>Ib o m.n /\
 ∃G H I,jh b ⟨e0,f0+o.toNat*6+1,none⟩ G H I /\
 Wn b (L2 G H I) 65 fun J=>
 Sm [(aS e 3)] b J /\
 App Pz 30 30 (vS F) (.slice (some (aS b 0)) 1 1) J fun g0 h0=>
 Wp h0 (aS e 3) 1 [vS g0] fun K=>
 ∃(L M:Int),a8 K (aS c 2) [vI L,vI M] /\
 Wp K (aS f 0) 2 [vI L,vI M] fun i0=>
 ∃N,N<q/\r i0 N)
 (∃(O P:Int),a8 b (aS c 2) [vI O,vI P] /\
 Wp b (aS f 0) 2 [vI O,vI P] fun j0=>
 ∃Q,Q<q/\r j0 Q))))
def Vg(p f:Heap)(R:Option Nat)(S e:Heap)(g:Addr)(q:Nat)(r:Heap->Nat->Prop):Prop:=
 ∃(s t:Int),a8 p (aS f 0) [vI s,vI t] /\
 br Pz (Instr.lookup 93 (.map R) (.agg ⟨[vI s,vI t]⟩) false) p
 (fun T U=>∃h,iS T h /\
 Fn Pz 167 #[vS h,.func (.func 168) #[] #[.pointer (some (aS S 0)),.pointer (some (aS f 0))]] U
 (fun V c=>∃i,iI V i /\
 NB h.a fun W X=>Ib i h.n /\
 ∃u v w x,Cy c ⟨W,X+i.toNat*4,none⟩ u v w x /\
 Wn c [vI 0,vI 0,vI 0,vI 0] 200 fun Y=>
 Wp Y (aS c 0) 4 (L5 u v w x) fun d=>
 ∃j:Heap->Prop,
 (∃y,rI d (aS c 0) y /\
 sB (decide (y>=0))
 (∃z,rS d (aS e 2) z /\
 ∃k,rS d ⟨g.block,g.off+6,none⟩ k /\
 ∃l,rI d (aS c 0) l /\
 NB k.a fun Z a0=>Ib l k.n /\
 ∃A B C,jh d ⟨Z,a0+l.toNat*6+1,none⟩ A B C /\
 Wn d (L2 A B C) 65 fun D=>
 Sm [(aS e 2)] d D /\
 App Pz 30 30 (vS z) (.slice (some (aS d 0)) 1 1) D fun b0 c0=>
 Wp c0 (aS e 2) 1 [vS b0] fun d0=>
 j d0)
 (j d)) /\
 ∀(_:Env) (b:Heap),j b ->
 (∃E,rI b (aS c 1) E /\
 sB (decide (E>=0))
 (∃F,rS b (aS e 3) F /\
 ∃m,rS b ⟨g.block,g.off+6,none⟩ m /\
 ∃o,rI b (aS c 1) o /\
 NB m.a fun e0 f0=>Ib o m.n /\
 ∃G H I,jh b ⟨e0,f0+o.toNat*6+1,none⟩ G H I /\
 Wn b (L2 G H I) 65 fun J=>
 Sm [(aS e 3)] b J /\
 App Pz 30 30 (vS F) (.slice (some (aS b 0)) 1 1) J fun g0 h0=>
 Wp h0 (aS e 3) 1 [vS g0] fun K=>
 ∃(L M:Int),a8 K (aS c 2) [vI L,vI M] /\
 Wp K (aS f 0) 2 [vI L,vI M] fun i0=>
 ∃N,N<q/\r i0 N)
 (∃(O P:Int),a8 b (aS c 2) [vI O,vI P] /\
 Wp b (aS f 0) 2 [vI O,vI P] fun j0=>
 ∃Q,Q<q/\r j0 Q))))
def W96(a:Addr)(e:Int)(U:Sl)(i:Option Nat):Prop:=
 Wn h [vI 0,vI 0,vN,vN,vI 0,.bool false,vI 0,vI 0,vN,vI 0,.bool false,vI 0,vI 0,vN] 35 fun V=>
 Fn Pz 164 #[.pointer (some a),vI e,vS U,.map i] V
 (fun W d=>∃n:Option Nat,W=.map n /\
 Wn d [.map none] 293 fun X=>
 Wp X (aS d 0) 1 [.map n] fun b=>
 ∃o,rI b ⟨a.block,a.off+4,none⟩ o /\
 ∃p,rI b ⟨a.block,a.off+4,none⟩ p /\
 Wn b [vI 0,vI 0] 97 fun q=>
 Sm [⟨a.block,a.off+4,none⟩,⟨a.block,a.off+4,none⟩] b q /\
 Wp q (aS b 0) 2 [vI o,vI p] fun j=>
 ∃r:Option Nat,hc j (aS d 0)=some (.map r) /\
 ∃(s t:Int),a8 j (aS b 0) [vI s,vI t] /\
 Fn Pz 165 #[.map r,.agg ⟨[vI s,vI t]⟩] j
 (fun Y c=>∃k,iI Y k /\
 sB (k==1073741824)
 (Wp c (aS h 0) 14 [vI 0,vI 0,vN,vN,vI 0,.bool false,vI 0,vI 0,vN,vI 0,.bool false,vI 0,vI 0,vN] fun u=>
 ∃v w x y z A B C D E F G H I,lU u (aS h 0) v w x y z A B C D E F G H I /\
 R (.tuple ⟨[.agg ⟨(L1 v w x y z A B C D E F G H I)⟩,vI 1073741824]⟩) u)
 (∃J,rI c ⟨a.block,a.off+8,none⟩ J /\
 Wn c [vI 0,vI 0,vN,vN,vI 0,.bool false,vI 0,vI 0,vN,vI 0,.bool false,vI 0,vI 0,vN] 35 fun Z=>
 Wp Z (aS c 0) 14 [vI e,vI J,vN,vN,vI 0,.bool false,vI 0,vI 0,vN,vI 0,.bool false,vI 0,vI 0,vN] fun a0=>
 ∃f:Heap->Nat->Prop,(∃b0,f a0 b0) /\
 ∀(_:Env) (l:Heap) (m:Nat),f l m ->
 (∃(K L:Int),a8 l (aS b 0) [vI K,vI L] /\
 Fn Pz 166 #[.pointer (some a),vI e,.agg ⟨[vI K,vI L]⟩] l
 (fun c0 g=>∃(M:Int) (N:Bool),c0=.tuple ⟨[vI M,.bool N]⟩ /\
 sB N
 (∃O:Option Nat,hc g (aS d 0)=some (.map O) /\
 ∃(P Q:Int),a8 g (aS b 0) [vI P,vI Q] /\
 Fn Pz 165 #[.map O,.agg ⟨[vI P,vI Q]⟩] g
 (fun d0 S=>∃T,iI d0 T /\
 sB (M==T)
 (NT e S b a c h R k)
 (F3 S b i d c a m f)))
 (Vg g b i d c a m f))))))
theorem WK(p0:Addr)(p1:Int)(p2:Sl)(p3:Option Nat)(H:@W96 h R p0 p1 p2 p3):Fn Pz 96 #[.pointer (some p0),vI p1,vS p2,.map p3] h R:=aU (A:=(.s .z (.s .z (.s .z (.s .z (.s .z (.s .z (.s (.b (.l [] (.b (.s .z (.s .z (.s .z (.j [] .z .z))))))) .z)))))))) H
def UB(g:Sl)(m:Value):Prop:=
 QI 0 h fun k b f l=>
 sB (decide (b<(g.n:Int)))
 (NB g.a fun o p=>Ib b g.n /\
 ∃i,rI f ⟨o,p+b.toNat*1,none⟩ i /\
 match m with | .func (.func g9) fa10 fc11=>(bif au Pz g9 then Fn Pz g9 (fa10 ++ #[vI i]++fc11) f
 (fun j c=>∃d,iB j d /\
 sB d
 (R (vI b) c)
 (∃e,e<l/\k (wrap .i64 (b+1)) c e)) else kZ Pz g9 (fa10 ++ #[vI i]++fc11) f
 (fun j c=>∃d,iB j d /\
 sB d
 (R (vI b) c)
 (∃e,e<l/\k (wrap .i64 (b+1)) c e))) | _=>False)
 (R (vI (-1)) f)
theorem Qh(p0:Sl)(p1:Value)(H:@UB h R p0 p1):Fn Pz 172 #[vS p0,p1] h R:=aU (A:=(.s .z (.s (AI 8) .z))) H
def UA(g:Int)(i o p:Addr):Prop:=
 ∃b,rS h i b /\
 ∃j:Option Addr,hc h o=some (.pointer j) /\
 NC j fun k=>∃c,rS h ⟨k.block,k.off+6,none⟩ c /\
 NB c.a fun q r=>Ib g c.n /\
 ∃d,rI h ⟨q,r+g.toNat*6+4,none⟩ d /\
 NB b.a fun s t=>Ib d b.n /\
 ∃l,rI h ⟨s,t+d.toNat*1,none⟩ l /\
 ∃e,rS h i e /\
 ∃f,rI h p f /\
 NB e.a fun u v=>Ib f e.n /\
 ∃m,rI h ⟨u,v+f.toNat*1,none⟩ m /\
 R (.bool (l==(wrap .i64 (m-1)))) h
theorem Qg(p0:Int)(c0 c1 c2:Addr)(H:@UA h R p0 c0 c1 c2):Fn Pz 173 #[vI p0,.pointer (some c0),.pointer (some c1),.pointer (some c2)] h R:=aU (A:=.z) H
def Uz(g:Sl)(p:Value):Prop:=
 QI 0 h fun m b f o=>
 sB (decide (b<(g.n:Int)))
 (NB g.a fun q r=>Ib b g.n /\
 ∃i j k,mP f ⟨q,r+b.toNat*3,none⟩ i j k /\
 match p with | .func (.func g11) fa12 fc13=>(bif au Pz g11 then Fn Pz g11 (fa12 ++ #[.agg ⟨(L3 i j k)⟩]++fc13) f
 (fun l c=>∃d,iB l d /\
 sB d
 (R (vI b) c)
 (∃e,e<o/\m (wrap .i64 (b+1)) c e)) else kZ Pz g11 (fa12 ++ #[.agg ⟨(L3 i j k)⟩]++fc13) f
 (fun l c=>∃d,iB l d /\
 sB d
 (R (vI b) c)
 (∃e,e<o/\m (wrap .i64 (b+1)) c e))) | _=>False)
 (R (vI (-1)) f)
theorem Qf(p0:Sl)(p1:Value)(H:@Uz h R p0 p1):Fn Pz 174 #[vS p0,p1] h R:=aU (A:=(.s .z (.s (AI 8) .z))) H
def Uy(pa:Bool)(pb pc:Int):Prop:=
 Wn h (L3 pa pb pc) 188 fun a=>
 ∃b,rB a (aS h 0) b /\
 R (.bool (!b)) a
theorem Qe(pa:Bool)(pb pc:Int)(H:@Uy h R pa pb pc):Fn Pz 175 #[.agg ⟨(L3 pa pb pc)⟩] h R:=aU (A:=.z) H
def NR(b h o d e:Heap)(R:Value->Heap->Prop)(p:Int):Prop:=
 ∃q:Option Addr,hc b (aS h 0)=some (.pointer q) /\
 NC q fun f=>∃k,rS b ⟨f.block,f.off+10,none⟩ k /\
 ∃g,rI b (aS o 0) g /\
 NB k.a fun r s=>Ib g k.n /\
 ∃(t:Sl) (u:Bool),a8 b ⟨r,s+g.toNat*2,none⟩ [vS t,.bool u] /\
 Wn b [vN,.bool false] 195 fun v=>
 Sm [⟨r,s+g.toNat*2,none⟩,(aS o 0),⟨f.block,f.off+10,none⟩,(aS h 0)] b v /\
 Wp v (aS b 0) 2 [vS t,.bool u] fun i=>
 ∃w:Option Addr,hc i (aS h 0)=some (.pointer w) /\
 ∃l,rS i (aS b 0) l /\
 NB l.a fun Y0 Z0=>Ib 0 l.n /\
 ∃x y z,mP i ⟨Y0,Z0+Int.toNat 0*3,none⟩ x y z /\
 Fn Pz 171 #[.pointer w,.agg ⟨(L3 x y z)⟩] i
 (fun a1 b1=>∃(A:Int) (B:Bool) (C D:Int) (E:Sl),a1=.agg ⟨(L8 A B C D E)⟩ /\
 Wp b1 (aS d 4) 5 (L8 A B C D E) fun c1=>
 Wp c1 (aS d 9) 5 [vI (-1),.bool false,vI 0,vI 0,vN] fun F=>
 ∃G,rS F (aS b 0) G /\
 Fn Pz 174 #[vS G,.func (.func 175) #[] #[]] F
 (fun d1 c=>∃j,iI d1 j /\
 sB (decide (j>=0))
 (∃H:Option Addr,hc c (aS h 0)=some (.pointer H) /\
 ∃m,rS c (aS b 0) m /\
 NB m.a fun e1 f1=>Ib j m.n /\
 ∃I J K,mP c ⟨e1,f1+j.toNat*3,none⟩ I J K /\
 Fn Pz 171 #[.pointer H,.agg ⟨(L3 I J K)⟩] c
 (fun g1 h1=>∃(L:Int) (M:Bool) (N O:Int) (P:Sl),g1=.agg ⟨(L8 L M N O P)⟩ /\
 Wp h1 (aS d 9) 5 (L8 L M N O P) fun Q=>
 ∃S T U V W X Y Z a0 b0 c0 d0 e0 f0,lU Q (aS d 0) S T U V W X Y Z a0 b0 c0 d0 e0 f0 /\
 Wp Q (aS e 0) 14 (L1 S T U V W X Y Z a0 b0 c0 d0 e0 f0) fun g0=>
 ∃h0 i0 j0 k0 l0 m0 n0 o0 p0 q0 r0 s0 t0 u0,lU g0 (aS e 0) h0 i0 j0 k0 l0 m0 n0 o0 p0 q0 r0 s0 t0 u0 /\
 R (.tuple ⟨[.agg ⟨(L1 h0 i0 j0 k0 l0 m0 n0 o0 p0 q0 r0 s0 t0 u0)⟩,vI (wrap .i64 (2*p))]⟩) g0))
 (∃v0 w0 x0 y0 z0 A0 B0 C0 D0 E0 F0 G0 H0 I0,lU c (aS d 0) v0 w0 x0 y0 z0 A0 B0 C0 D0 E0 F0 G0 H0 I0 /\
 Wp c (aS e 0) 14 (L1 v0 w0 x0 y0 z0 A0 B0 C0 D0 E0 F0 G0 H0 I0) fun J0=>
 ∃K0 L0 M0 N0 O0 P0 Q0 R0 S0 T0 U0 V0 W0 X0,lU J0 (aS e 0) K0 L0 M0 N0 O0 P0 Q0 R0 S0 T0 U0 V0 W0 X0 /\
 R (.tuple ⟨[.agg ⟨(L1 K0 L0 M0 N0 O0 P0 Q0 R0 S0 T0 U0 V0 W0 X0)⟩,vI (wrap .i64 (2*p))]⟩) J0)))
def NO(b h c D p:Heap)(E:Nat)(F:Heap->Nat->Prop):Prop:=
 ∃G:Option Addr,hc b (aS h 0)=some (.pointer G) /\
 NC G fun d=>∃j,rS b ⟨d.block,d.off+6,none⟩ j /\
 ∃H:Option Addr,hc b (aS h 0)=some (.pointer H) /\
 NC H fun e=>∃v,rS b ⟨e.block,e.off+9,none⟩ v /\
 ∃g,rI b (aS c 0) g /\
 NB v.a fun k l=>Ib g v.n /\
 ∃m,rS b ⟨k,l+g.toNat*1,none⟩ m /\
 ∃I:Option Addr,hc b (aS h 0)=some (.pointer I) /\
 NC I fun i=>∃w,rS b ⟨i.block,i.off+9,none⟩ w /\
 ∃o,rI b (aS c 0) o /\
 NB w.a fun x y=>Ib o w.n /\
 ∃z,rS b ⟨x,y+o.toNat*1,none⟩ z /\
 (Fn Pz 172 #[vS z,.func (.func 173) #[] #[.pointer (some (aS D 0)),.pointer (some (aS h 0)),.pointer (some (aS c 0))]] b
 (fun o0 f=>∃q,iI o0 q /\
 Sm [⟨k,l+g.toNat*1,none⟩,(aS c 0),⟨e.block,e.off+9,none⟩,(aS h 0),⟨d.block,d.off+6,none⟩,(aS h 0)] b f /\
 NB m.a fun J K=>Ib q m.n /\
 ∃r,rI f ⟨J,K+q.toNat*1,none⟩ r /\
 NB j.a fun L M=>Ib r j.n /\
 ∃N O P Q R S,mB f ⟨L,M+r.toNat*6,none⟩ N O P Q R S /\
 Wn f [vI 0,vI 0,vI 0,vI 0,vI 0,.bool false] 67 fun T=>
 Sm [⟨L,M+r.toNat*6,none⟩,⟨J,K+q.toNat*1,none⟩,⟨x,y+o.toNat*1,none⟩,(aS c 0),⟨i.block,i.off+9,none⟩,(aS h 0),⟨k,l+g.toNat*1,none⟩,(aS c 0),⟨e.block,e.off+9,none⟩,(aS h 0),⟨d.block,d.off+6,none⟩,(aS h 0)] f T /\
 Wp T (aS f 0) 6 (L4 N O P Q R S) fun s=>
 ∃U,rS s (aS p 2) U /\
 ∃V W X,jh s (aS f 1) V W X /\
 Wn s (L2 V W X) 65 fun p0=>
 App Pz 30 30 (vS U) (.slice (some (aS s 0)) 1 1) p0 fun q0 r0=>
 Wp r0 (aS p 2) 1 [vS q0] fun Y=>
 ∃Z,rI Y (aS f 4) Z /\
 Wp Y (aS c 0) 1 [vI Z] fun s0=>
 ∃a0,a0<E/\F s0 a0))/\Wn b [vI 0,vI 0,vI 0,vI 0,vI 0,.bool false] 67 fun A=>
 Sm [⟨x,y+o.toNat*1,none⟩,(aS c 0),⟨i.block,i.off+9,none⟩,(aS h 0),⟨k,l+g.toNat*1,none⟩,(aS c 0),⟨e.block,e.off+9,none⟩,(aS h 0),⟨d.block,d.off+6,none⟩,(aS h 0)] b A /\
 Fn Pz 172 #[vS z,.func (.func 173) #[] #[.pointer (some (aS D 0)),.pointer (some (aS h 0)),.pointer (some (aS c 0))]] A
 (fun t0 t=>∃B,iI t0 B /\
 Sm [⟨k,l+g.toNat*1,none⟩,(aS c 0),⟨e.block,e.off+9,none⟩,(aS h 0),⟨d.block,d.off+6,none⟩,(aS h 0)] A t /\
 NB m.a fun u0 v0=>Ib B m.n /\
 ∃C,rI t ⟨u0,v0+B.toNat*1,none⟩ C /\
 NB j.a fun w0 x0=>Ib C j.n /\
 ∃b0 c0 d0 e0 f0 g0,mB t ⟨w0,x0+C.toNat*6,none⟩ b0 c0 d0 e0 f0 g0 /\
 Wp t (aS b 0) 6 (L4 b0 c0 d0 e0 f0 g0) fun u=>
 ∃h0,rS u (aS p 2) h0 /\
 ∃i0 j0 k0,jh u (aS b 1) i0 j0 k0 /\
 Wn u (L2 i0 j0 k0) 65 fun y0=>
 App Pz 30 30 (vS h0) (.slice (some (aS u 0)) 1 1) y0 fun z0 A0=>
 Wp A0 (aS p 2) 1 [vS z0] fun l0=>
 ∃m0,rI l0 (aS b 4) m0 /\
 Wp l0 (aS c 0) 1 [vI m0] fun B0=>
 ∃n0,n0<E/\F B0 n0)
def FZ(c h e f:Heap)(R:Value->Heap->Prop):Prop:=
 ∃p:Option Addr,hc c (aS h 0)=some (.pointer p) /\
 NC p fun q=>∃r,rI c ⟨q.block,q.off+4,none⟩ r /\
 Wn c [vI 0] 3 fun O=>
 Wp O (aS c 0) 1 [vI r] fun b=>
 ∃g,rS b (aS e 0) g /\
 ∃i,rI b (aS c 0) i /\
 NB g.a fun P Q=>Ib i g.n /\
 ∃s,rI b ⟨P,Q+i.toNat*1,none⟩ s /\
 sB (s==1073741824)
 (Wp b (aS f 0) 14 [vI 0,vI 0,vN,vN,vI 0,.bool false,vI 0,vI 0,vN,vI 0,.bool false,vI 0,vI 0,vN] fun t=>
 ∃u v w x y z A B C D E F G H,lU t (aS f 0) u v w x y z A B C D E F G H /\
 R (.tuple ⟨[.agg ⟨(L1 u v w x y z A B C D E F G H)⟩,vI 1073741824]⟩) t)
 (∃j,rS b (aS e 0) j /\
 ∃k,rI b (aS c 0) k /\
 NB j.a fun S T=>Ib k j.n /\
 ∃I,rI b ⟨S,T+k.toNat*1,none⟩ I /\
 ∃J:Option Addr,hc b (aS h 0)=some (.pointer J) /\
 NC J fun K=>∃L,rI b ⟨K.block,K.off+8,none⟩ L /\
 Wn b [vI 0,vI 0,vN,vN,vI 0,.bool false,vI 0,vI 0,vN,vI 0,.bool false,vI 0,vI 0,vN] 35 fun U=>
 Wp U (aS b 0) 14 [vI 2,vI L,vN,vN,vI 0,.bool false,vI 0,vI 0,vN,vI 0,.bool false,vI 0,vI 0,vN] fun V=>
 ∃l:Heap->Nat->Prop,(∃W,l V W) /\
 ∀(_:Env) (d:Heap) (M:Nat),l d M ->
 (∃m,rS d (aS e 0) m /\
 ∃o,rI d (aS c 0) o /\
 NB m.a fun X Y=>Ib o m.n /\
 ∃N,rI d ⟨X,Y+o.toNat*1,none⟩ N /\
 sB (decide (N>0))
 (NO d h c e b M l)
 (NR d h c b f R I)))
def Vf(v:Sl)(w:Heap)(f:Sl)(g:Heap)(h:Int)(x:Nat)(y:Sl->Int->Heap->Nat->Prop):Prop:=
 sY v 0 w fun m d e b o=>
 sB (decide (e<(f.n:Int)))
 (NB f.a fun z A=>Ib e f.n /\
 ∃c,rI b ⟨z,A+e.toNat*1,none⟩ c /\
 ∃i,rS b (aS g 0) i /\
 NB i.a fun B C=>Ib c i.n /\
 ∃p,rI b ⟨B,C+c.toNat*1,none⟩ p /\
 sB (p==1073741824)
 (∃j,rS b (aS g 0) j /\
 ∃k,rS b (aS g 0) k /\
 NB d.a fun D E=>Ib h d.n /\
 ∃l,rI b ⟨D,E+h.toNat*1,none⟩ l /\
 NB k.a fun F G=>Ib l k.n /\
 ∃q,rI b ⟨F,G+l.toNat*1,none⟩ q /\
 NB j.a fun H I=>Ib c j.n /\
 Wp b ⟨H,I+c.toNat*1,none⟩ 1 [vI (wrap .i64 (q+1))] fun r=>
 Wn r [vI c] 3 fun J=>
 App Pz 102 102 (vS d) (.slice (some (aS r 0)) 1 1) J fun K L=>
 ∃s,s<o/\m K (wrap .i64 (e+1)) L s)
 (∃t,t<o/\m d (wrap .i64 (e+1)) b t))
 (∃u,u<x/\y d (wrap .i64 (h+1)) b u)
def NP(i:Sl)(j:Heap)(k:Int)(l f h m:Heap)(R:Value->Heap->Prop):Prop:=
 sY i 0 j fun o b c d p=>
 sB (decide (c<(b.n:Int)))
 (NB b.a fun q r=>Ib c b.n /\
 ∃e,rI d ⟨q,r+c.toNat*1,none⟩ e /\
 (0<=(e:Int)/\(e:Int)<((k.toNat):Nat)) /\
 ∃g,rS d (aS l (0+e.toNat*1)) g /\
 Vf b d g f c p o)
 (FZ d h f m R)
def NQ(l c h:Heap)(y:Int)(z A:Heap)(R:Value->Heap->Prop):Prop:=
 ∃m,rS l (aS c 0) m /\
 sY ⟨none,0,0⟩ 0 l fun o e b f p=>
 sB (decide (b<(m.n:Int)))
 (∃g,rS f (aS c 0) g /\
 NB g.a fun B C=>Ib b g.n /\
 Wp f ⟨B,C+b.toNat*1,none⟩ 1 [vI 1073741824] fun d=>
 ∃q:Option Addr,hc d (aS h 0)=some (.pointer q) /\
 NC q fun r=>∃i,rS d ⟨r.block,r.off+10,none⟩ i /\
 NB i.a fun D E=>Ib b i.n /\
 ∃(s:Sl) (t:Bool),a8 d ⟨D,E+b.toNat*2,none⟩ [vS s,.bool t] /\
 Fn Pz 149 #[.agg ⟨[vS s,.bool t]⟩] d
 (fun F j=>∃u,iB F u /\
 sB u
 (∃k,rS j (aS c 0) k /\
 NB k.a fun G H=>Ib b k.n /\
 Wp j ⟨G,H+b.toNat*1,none⟩ 1 [vI 0] fun v=>
 Wn v [vI b] 3 fun I=>
 App Pz 102 102 (vS e) (.slice (some (aS v 0)) 1 1) I fun J K=>
 ∃w,w<p/\o J (wrap .i64 (b+1)) K w)
 (∃x,x<p/\o e (wrap .i64 (b+1)) j x)))
 (NP e f y z c h A R)
def W97(H:Addr):Prop:=
 Wn h [.pointer (some H)] 89 fun q=>
 Wn q [vI 0,vI 0,vN,vN,vI 0,.bool false,vI 0,vI 0,vN,vI 0,.bool false,vI 0,vI 0,vN] 35 fun c=>
 ∃r:Option Addr,hc c (aS h 0)=some (.pointer r) /\
 NC r fun s=>∃d,rI c ⟨s.block,s.off+3,none⟩ d /\
 Mk d d 24/\Wn c (ah Pz 102 (d.toNat)) 102 fun i=>
 ∃t:Option Addr,hc i (aS h 0)=some (.pointer t) /\
 NC t fun u=>∃f,rI i ⟨u.block,u.off+3,none⟩ f /\
 Mk f f 8/\Wn i (ah Pz 3 (f.toNat)) 3 fun m=>
 Wn m [vN] 102 fun I=>
 Wp I (aS m 0) 1 [.slice (some (aS i 0)) (f.toNat) (f.toNat)] fun o=>
 ∃v:Option Addr,hc o (aS h 0)=some (.pointer v) /\
 NC v fun w=>∃j,rS o ⟨w.block,w.off+6,none⟩ j /\
 QI 0 o fun J k b K=>
 sB (decide (k<(j.n:Int)))
 (NB j.a fun L M=>Ib k j.n /\
 ∃x y z A B C,mB b ⟨L,M+k.toNat*6,none⟩ x y z A B C /\
 Wn b [vI 0,vI 0,vI 0,vI 0,vI 0,.bool false] 67 fun N=>
 Wp N (aS b 0) 6 (L4 x y z A B C) fun e=>
 ∃l,rI e (aS b 4) l /\
 ∃g,rI e (aS b 4) g /\
 (0<=(g:Int)/\(g:Int)<((d.toNat):Nat)) /\
 ∃D,rS e (aS c (0+g.toNat*1)) D /\
 ∃E,rI e (aS b 0) E /\
 Wn e [vI E] 3 fun p=>
 Sm [(aS c (0+g.toNat*1)),(aS b 4),(aS b 4)] e p /\
 App Pz 102 102 (vS D) (.slice (some (aS e 0)) 1 1) p fun O F=>
 Sm [(aS b 4)] p F /\
 (0<=(l:Int)/\(l:Int)<((d.toNat):Nat)) /\
 Wp F (aS c (0+l.toNat*1)) 1 [vS O] fun P=>
 ∃G,G<K/\J (wrap .i64 (k+1)) P G)
 (NQ b m h d c q R)
theorem WJ(p0:Addr)(H:@W97 h R p0):Fn Pz 97 #[.pointer (some p0)] h R:=aU (A:=(.s .z (.s .z (.s .z (.s .z (.s (AI 37) (.s (AJ 6 57) (.s (.s .z (.b (.l [(6,.one (.slice)),(10,.one (.int .i64))] (.s .z (.s (.b (AJ 6 93)) .z))))) (.s .z (.s .z (.s .z (.s .z (.s (.b (.l [] .z)) .z))))))))))))) H
def W95(J K L:Addr):Prop:=
 Wn h [vI 0,vI 0,vN,vN,vI 0,.bool false,vI 0,vI 0,vN,vI 0,.bool false,vI 0,vI 0,vN] 35 fun a=>
 ∃b:Option Addr,hc a J=some (.pointer b) /\
 ∃c,rS a K c /\
 ∃d:Option Nat,hc a L=some (.map d) /\
 Fn Pz 96 #[.pointer b,vI 1,vS c,.map d] a
 (fun M N=>∃(e f:Int) (g i:Sl) (j:Int) (k:Bool) (l m:Int) (n:Sl) (o:Int) (p:Bool) (q r:Int) (s:Sl) (t:Int),M=.tuple ⟨[.agg ⟨(L1 e f g i j k l m n o p q r s)⟩,vI t]⟩ /\
 Wp N (aS h 0) 14 (L1 e f g i j k l m n o p q r s) fun u=>
 ∃v w x y z A B C D E F G H I,lU u (aS h 0) v w x y z A B C D E F G H I /\
 R (.tuple ⟨[.agg ⟨(L1 v w x y z A B C D E F G H I)⟩,vI t]⟩) u)
theorem WL(c0 c1 c2:Addr)(H:@W95 h R c0 c1 c2):Fn Pz 95 #[.pointer (some c0),.pointer (some c1),.pointer (some c2)] h R:=aU (A:=.z) H
def W98(J K L:Addr):Prop:=
 Wn h [vI 0,vI 0,vN,vN,vI 0,.bool false,vI 0,vI 0,vN,vI 0,.bool false,vI 0,vI 0,vN] 35 fun a=>
 ∃b:Option Addr,hc a J=some (.pointer b) /\
 ∃c,rS a K c /\
 ∃d:Option Nat,hc a L=some (.map d) /\
 Fn Pz 96 #[.pointer b,vI 3,vS c,.map d] a
 (fun M N=>∃(e f:Int) (g i:Sl) (j:Int) (k:Bool) (l m:Int) (n:Sl) (o:Int) (p:Bool) (q r:Int) (s:Sl) (t:Int),M=.tuple ⟨[.agg ⟨(L1 e f g i j k l m n o p q r s)⟩,vI t]⟩ /\
 Wp N (aS h 0) 14 (L1 e f g i j k l m n o p q r s) fun u=>
 ∃v w x y z A B C D E F G H I,lU u (aS h 0) v w x y z A B C D E F G H I /\
 R (.tuple ⟨[.agg ⟨(L1 v w x y z A B C D E F G H I)⟩,vI t]⟩) u)
theorem WI(c0 c1 c2:Addr)(H:@W98 h R c0 c1 c2):Fn Pz 98 #[.pointer (some c0),.pointer (some c1),.pointer (some c2)] h R:=aU (A:=.z) H
def W99(J K L:Addr):Prop:=
 Wn h [vI 0,vI 0,vN,vN,vI 0,.bool false,vI 0,vI 0,vN,vI 0,.bool false,vI 0,vI 0,vN] 35 fun a=>
 ∃b:Option Addr,hc a J=some (.pointer b) /\
 ∃c,rS a K c /\
 ∃d:Option Nat,hc a L=some (.map d) /\
 Fn Pz 96 #[.pointer b,vI 4,vS c,.map d] a
 (fun M N=>∃(e f:Int) (g i:Sl) (j:Int) (k:Bool) (l m:Int) (n:Sl) (o:Int) (p:Bool) (q r:Int) (s:Sl) (t:Int),M=.tuple ⟨[.agg ⟨(L1 e f g i j k l m n o p q r s)⟩,vI t]⟩ /\
 Wp N (aS h 0) 14 (L1 e f g i j k l m n o p q r s) fun u=>
 ∃v w x y z A B C D E F G H I,lU u (aS h 0) v w x y z A B C D E F G H I /\
 R (.tuple ⟨[.agg ⟨(L1 v w x y z A B C D E F G H I)⟩,vI t]⟩) u)
theorem WH(c0 c1 c2:Addr)(H:@W99 h R c0 c1 c2):Fn Pz 99 #[.pointer (some c0),.pointer (some c1),.pointer (some c2)] h R:=aU (A:=.z) H
def NZ(a:Heap)(x y:Int)(z A:Sl)(B:Int)(C:Bool)(D E:Int)(F:Sl)(G:Int)(H:Bool)(I J:Int)(K:Sl)(c d:Int)(L:Heap)(e:Nat)(f:Int->Int->Heap->Nat->Prop)(g:Int):Prop:=
 Wn a [vI 0,vI 0,vN,vN,vI 0,.bool false,vI 0,vI 0,vN,vI 0,.bool false,vI 0,vI 0,vN] 35 fun M=>
 Wp M (aS a 0) 14 (L1 x y z A B C D E F G H I J K) fun b=>
 sB (decide (c<d))
 (∃h i j k l m n o p q r s t u,lU b (aS a 0) h i j k l m n o p q r s t u /\
 Wp b (aS L 0) 14 (L1 h i j k l m n o p q r s t u) fun N=>
 ∃v,v<e/\f c (wrap .i64 (g+1)) N v)
 (∃w,w<e/\f d (wrap .i64 (g+1)) b w)
def W41(pa:ByteArray)(pb pc:Sl)(pd pe pf:Int)(pg ph:Sl)(p1:Int):Prop:=
 Wn h (L0 pa pb pc pd pe pf pg ph) 27 fun d=>
 Wn d [vI 0,vI 0,vN,vN,vI 0,.bool false,vI 0,vI 0,vN,vI 0,.bool false,vI 0,vI 0,vN] 35 fun G=>
 ∃H I J K L M N O,eT G (aS h 0) H I J K L M N O /\
 Fn Pz 49 #[.agg ⟨(L0 H I J K L M N O)⟩,vI p1] G
 (fun n1 a=>∃P:Option Addr,∃A:Int,n1=.tuple ⟨[.pointer P,vI A]⟩ /\
 Wn a [.pointer none] 89 fun o1=>
 Wp o1 (aS a 0) 1 [.pointer P] fun B=>
 sB (A != 0)
 (Wp B (aS d 0) 14 [vI 0,vI 0,vN,vN,vI 0,.bool false,vI 0,vI 0,vN,vI 0,.bool false,vI 0,vI 0,vN] fun Q=>
 ∃S T U V W X Y Z a0 b0 c0 d0 e0 f0,lU Q (aS d 0) S T U V W X Y Z a0 b0 c0 d0 e0 f0 /\
 R (.tuple ⟨[.agg ⟨(L1 S T U V W X Y Z a0 b0 c0 d0 e0 f0)⟩,vI 1073741824,vI A]⟩) Q)
 (∃g0:Option Addr,hc B (aS a 0)=some (.pointer g0) /\
 Fn Pz 82 #[.pointer g0] B
 (fun p1 h0=>p1=.tuple ⟨[]⟩ /\
 ∃i0:Option Addr,hc h0 (aS a 0)=some (.pointer i0) /\
 Fn Pz 50 #[.pointer i0] h0
 (fun q1 e=>∃j0:Sl,∃k0:Option Nat,q1=.tuple ⟨[vS j0,.map k0]⟩ /\
 Wn e [vN] 92 fun f=>
 Wn f [.map none] 93 fun r1=>
 Wp r1 (aS e 0) 1 [vS j0] fun s1=>
 Wp s1 (aS f 0) 1 [.map k0] fun g=>
 Wn g [vI 0,vI 0,vN,vN,vI 0,.bool false,vI 0,vI 0,vN,vI 0,.bool false,vI 0,vI 0,vN] 35 fun t1=>
 Wp t1 (aS g 0) 14 [vI 0,vI 0,vN,vN,vI 0,.bool false,vI 0,vI 0,vN,vI 0,.bool false,vI 0,vI 0,vN] fun x=>
 ∃l0:Option Addr,hc x (aS a 0)=some (.pointer l0) /\
 Wn x [.nilFunc,.nilFunc,.nilFunc,.nilFunc] 178 fun u1=>
 Wp u1 (aS x 0) 4 [.func (.func 95) #[] #[.pointer (some (aS a 0)),.pointer (some (aS e 0)),.pointer (some (aS f 0))],.func (.func 97) #[.pointer l0] #[],.func (.func 98) #[] #[.pointer (some (aS a 0)),.pointer (some (aS e 0)),.pointer (some (aS f 0))],.func (.func 99) #[] #[.pointer (some (aS a 0)),.pointer (some (aS e 0)),.pointer (some (aS f 0))]] fun m0=>
 ∃n0:Value,∃o0:Value,∃p0:Value,∃q0:Value,a8 m0 (aS x 0) [n0,o0,p0,q0] /\
 vR 1073741824 0 m0 fun C y b z D=>
 sB (decide (b<4))
 (Ib b 4/\∃r0:Value,List.take 1 (List.drop (b.toNat*1) ([n0,o0,p0,q0]:List Value))=[r0] /\
 match r0 with | .func (.func g68) fa69 fc70=>(bif au Pz g68 then Fn Pz g68 (fa69 ++ #[]++fc70) z
 (fun E i=>∃(j k:Int) (l m:Sl) (n:Int) (o:Bool) (p q:Int) (r:Sl) (s:Int) (t:Bool) (u v:Int) (w:Sl) (c:Int),E=.tuple ⟨[.agg ⟨(L1 j k l m n o p q r s t u v w)⟩,vI c]⟩ /\
 NZ i j k l m n o p q r s t u v w c y g D C b) else kZ Pz g68 (fa69 ++ #[]++fc70) z
 (fun E i=>∃(j k:Int) (l m:Sl) (n:Int) (o:Bool) (p q:Int) (r:Sl) (s:Int) (t:Bool) (u v:Int) (w:Sl) (c:Int),E=.tuple ⟨[.agg ⟨(L1 j k l m n o p q r s t u v w)⟩,vI c]⟩ /\
 Wn i [vI 0,vI 0,vN,vN,vI 0,.bool false,vI 0,vI 0,vN,vI 0,.bool false,vI 0,vI 0,vN] 35 fun v1=>
 Wp v1 (aS i 0) 14 (L1 j k l m n o p q r s t u v w) fun F=>
 sB (decide (c<y))
 (∃s0 t0 u0 v0 w0 x0 y0 z0 A0 B0 C0 D0 E0 F0,lU F (aS i 0) s0 t0 u0 v0 w0 x0 y0 z0 A0 B0 C0 D0 E0 F0 /\
 Wp F (aS g 0) 14 (L1 s0 t0 u0 v0 w0 x0 y0 z0 A0 B0 C0 D0 E0 F0) fun w1=>
 ∃G0,G0<D/\C c (wrap .i64 (b+1)) w1 G0)
 (∃H0,H0<D/\C y (wrap .i64 (b+1)) F H0))) | _=>False)
 (∃I0 J0 K0 M0 N0 O0 P0 Q0 R0 S0 T0 U0 V0 W0,lU z (aS g 0) I0 J0 K0 M0 N0 O0 P0 Q0 R0 S0 T0 U0 V0 W0 /\
 Wp z (aS d 0) 14 (L1 I0 J0 K0 M0 N0 O0 P0 Q0 R0 S0 T0 U0 V0 W0) fun X0=>
 ∃Y0 Z0 a1 b1 c1 d1 e1 f1 g1 h1 i1 j1 k1 l1,lU X0 (aS d 0) Y0 Z0 a1 b1 c1 d1 e1 f1 g1 h1 i1 j1 k1 l1 /\
 R (.tuple ⟨[.agg ⟨(L1 Y0 Z0 a1 b1 c1 d1 e1 f1 g1 h1 i1 j1 k1 l1)⟩,vI y,vI 0]⟩) X0)))))
theorem Xg(pa:ByteArray)(pb pc:Sl)(pd pe pf:Int)(pg ph:Sl)(p1:Int)(H:@W41 h R pa pb pc pd pe pf pg ph p1):Fn Pz 41 #[.agg ⟨(L0 pa pb pc pd pe pf pg ph)⟩,vI p1] h R:=aU (A:=(.s .z (.s .z (.s .z (.s .z (.s .z (.s .z (.s .z (.s (.s .z (.b (.l [(12,.one (.int .i64)),(43,.one (.int .i64))] .z))) .z))))))))) H
def N5(a q r:Heap)(s:Nat)(t:Int->Int->Heap->Nat->Prop)(u v:Int):Prop:=
 ∃b c d e f g h i j k l m n o,lU a (aS q 0) b c d e f g h i j k l m n o/\Wp a (aS r 0) 14 (L1 b c d e f g h i j k l m n o) fun w=>∃p,p<s/\t u (wrap .i64 (v+1)) w p
def W14(pa:ByteArray)(pb pc:Sl)(pd pe pf:Int)(pg ph:Sl):Prop:=
 Wn h (L0 pa pb pc pd pe pf pg ph) 27 fun a=>Wn a [vI 0,vI 0,vN,vN,vI 0,.bool false,vI 0,vI 0,vN,vI 0,.bool false,vI 0,vI 0,vN] 35 fun l=>∃m o p q r s t u,eT l (aS h 0) m o p q r s t u/\Fn Pz 40 #[.agg ⟨(L0 m o p q r s t u)⟩] l (fun i1 b=>∃v,iB i1 v/\sB (!v) (Wp b (aS a 0) 14 [vI 0,vI 0,vN,vN,vI 0,.bool false,vI 0,vI 0,vN,vI 0,.bool false,vI 0,vI 0,vN] fun w=>∃x y z A B C D E F G H I J K,lU w (aS a 0) x y z A B C D E F G H I J K/\R (.tuple ⟨[.agg ⟨(L1 x y z A B C D E F G H I J K)⟩,vI 1]⟩) w) (Wn b [vI 0,vI 0,vN,vN,vI 0,.bool false,vI 0,vI 0,vN,vI 0,.bool false,vI 0,vI 0,vN] 35 fun j1=>Wp j1 (aS b 0) 14 [vI 0,vI 0,vN,vN,vI 0,.bool false,vI 0,vI 0,vN,vI 0,.bool false,vI 0,vI 0,vN] fun L=>∃M,rS L (aS h 1) M/\vR 1073741824 0 L fun g e c i j=>sB (decide (c<(M.n:Int))) (∃N O P Q S T U V,eT i (aS h 0) N O P Q S T U V/\Fn Pz 41 #[.agg ⟨(L0 N O P Q S T U V)⟩,vI c] i (fun k1 k=>∃(W X:Int) (Y Z:Sl) (a0:Int) (b0:Bool) (c0 d0:Int) (e0:Sl) (f0:Int) (g0:Bool) (h0 i0:Int) (j0:Sl) (f l1:Int),k1=.tuple ⟨[.agg ⟨(L1 W X Y Z a0 b0 c0 d0 e0 f0 g0 h0 i0 j0)⟩,vI f,vI l1]⟩/\Wn k [vI 0,vI 0,vN,vN,vI 0,.bool false,vI 0,vI 0,vN,vI 0,.bool false,vI 0,vI 0,vN] 35 fun m1=>Wp m1 (aS k 0) 14 (L1 W X Y Z a0 b0 c0 d0 e0 f0 g0 h0 i0 j0) fun d=>sB (decide (f<e)) (N5 d k b j g f c) (sB (f==e) (sB (decide (f<1073741824)) (∃k0,rI d (aS k 0) k0/\∃l0,rI d (aS b 0) l0/\sB (decide (k0<l0)) (N5 d k b j g f c) (∃m0,m0<j/\g e (wrap .i64 (c+1)) d m0)) (∃n0,n0<j/\g e (wrap .i64 (c+1)) d n0)) (∃o0,o0<j/\g e (wrap .i64 (c+1)) d o0)))) (sB (e==1073741824) (Wp i (aS a 0) 14 [vI 0,vI 0,vN,vN,vI 0,.bool false,vI 0,vI 0,vN,vI 0,.bool false,vI 0,vI 0,vN] fun p0=>∃q0 r0 s0 t0 u0 v0 w0 x0 y0 z0 A0 B0 C0 D0,lU p0 (aS a 0) q0 r0 s0 t0 u0 v0 w0 x0 y0 z0 A0 B0 C0 D0/\R (.tuple ⟨[.agg ⟨(L1 q0 r0 s0 t0 u0 v0 w0 x0 y0 z0 A0 B0 C0 D0)⟩,vI 0]⟩) p0) (∃E0 F0 G0 H0 I0 J0 K0 M0 N0 O0 P0 Q0 R0 S0,lU i (aS b 0) E0 F0 G0 H0 I0 J0 K0 M0 N0 O0 P0 Q0 R0 S0/\Wp i (aS a 0) 14 (L1 E0 F0 G0 H0 I0 J0 K0 M0 N0 O0 P0 Q0 R0 S0) fun T0=>∃U0 V0 W0 X0 Y0 Z0 a1 b1 c1 d1 e1 f1 g1 h1,lU T0 (aS a 0) U0 V0 W0 X0 Y0 Z0 a1 b1 c1 d1 e1 f1 g1 h1/\R (.tuple ⟨[.agg ⟨(L1 U0 V0 W0 X0 Y0 Z0 a1 b1 c1 d1 e1 f1 g1 h1)⟩,vI 18]⟩) T0))))
theorem Xp(pa:ByteArray)(pb pc:Sl)(pd pe pf:Int)(pg ph:Sl)(H:@W14 h R pa pb pc pd pe pf pg ph):Fn Pz 14 #[.agg ⟨(L0 pa pb pc pd pe pf pg ph)⟩] h R:=aU (A:=(.s .z (.s .z (.s .z (.s (.s .z (.b (.l [(5,.one (.int .i64)),(18,.one (.int .i64))] .z))) .z))))) H
def TL(c:Sl)(d e k:Int)(y:Value):Prop:=
 QI 0 h fun l b f m=>
 sB (decide (b<k))
 (NB c.a fun o p=>(0<=((wrap .i64 (e+b)):Int)/\((wrap .i64 (e+b)):Int)<(c.n:Nat)) /\
 ∃g,rI f ⟨o,p+Int.toNat (wrap .i64 (e+b))*1,none⟩ g /\
 NB c.a fun q r=>(0<=((wrap .i64 (d+b)):Int)/\((wrap .i64 (d+b)):Int)<(c.n:Nat)) /\
 ∃i,rI f ⟨q,r+Int.toNat (wrap .i64 (d+b))*1,none⟩ i /\
 NB c.a fun s t=>(0<=((wrap .i64 (d+b)):Int)/\((wrap .i64 (d+b)):Int)<(c.n:Nat)) /\
 Wp f ⟨s,t+Int.toNat (wrap .i64 (d+b))*1,none⟩ 1 [vI g] fun u=>
 NB c.a fun v w=>(0<=((wrap .i64 (e+b)):Int)/\((wrap .i64 (e+b)):Int)<(c.n:Nat)) /\
 Wp u ⟨v,w+Int.toNat (wrap .i64 (e+b))*1,none⟩ 1 [vI i] fun x=>
 ∃j,j<m/\l (wrap .i64 (b+1)) x j)
 (R (.tuple ⟨[]⟩) f)
theorem Po(p0:Sl)(p1 p2 p3:Int)(p4:Value)(H:@TL h R p0 p1 p2 p3 p4):Fn Pz 307 #[vS p0,vI p1,vI p2,vI p3,p4] h R:=aU (A:=(AI 10)) H
def TT(d:Sl)(l b m:Int)(e:Value):Prop:=
 vR (wrap .i64 (b-l)) (wrap .i64 (m-b)) h fun g a c f i=>
 sB (a != c)
 (sB (decide (a>c))
 (Fn Pz 307 #[vS d,vI (wrap .i64 (b-a)),vI b,vI c,e] f
 (fun n o=>n=.tuple ⟨[]⟩ /\
 ∃j,j<i/\g (wrap .i64 (a-c)) c o j))
 (Fn Pz 307 #[vS d,vI (wrap .i64 (b-a)),vI (wrap .i64 ((wrap .i64 (b+c))-a)),vI a,e] f
 (fun p q=>p=.tuple ⟨[]⟩ /\
 ∃k,k<i/\g a (wrap .i64 (c-a)) q k)))
 (Fn Pz 307 #[vS d,vI (wrap .i64 (b-a)),vI b,vI a,e] f
 (fun r s=>r=.tuple ⟨[]⟩ /\
 R (.tuple ⟨[]⟩) s))
theorem Pw(p0:Sl)(p1 p2 p3:Int)(p4:Value)(H:@TT h R p0 p1 p2 p3 p4):Fn Pz 294 #[vS p0,vI p1,vI p2,vI p3,p4] h R:=aU (A:=(.s .z (.s .z (.s (.b (.l [(10,.one (.int .i64)),(11,.one (.int .i64))] .z)) .z)))) H
def Gz(i:Int)(c:Sl)(b:Int)(d:Heap)(j:Nat)(k:Int->Heap->Nat->Prop)(l:Nat)(m:Int->Heap->Nat->Prop)(o:Int):Prop:=
 sB (decide (i<0)) (NB c.a fun p q=>(0<=((wrap .i64 (b-1)):Int)/\((wrap .i64 (b-1)):Int)<(c.n:Nat))/\∃e,rI d ⟨p,q+Int.toNat (wrap .i64 (b-1))*1,none⟩ e/\NB c.a fun r s=>Ib b c.n/\∃f,rI d ⟨r,s+b.toNat*1,none⟩ f/\NB c.a fun t u=>Ib b c.n/\Wp d ⟨t,u+b.toNat*1,none⟩ 1 [vI e] fun v=>NB c.a fun w x=>(0<=((wrap .i64 (b-1)):Int)/\((wrap .i64 (b-1)):Int)<(c.n:Nat))/\Wp v ⟨w,x+Int.toNat (wrap .i64 (b-1))*1,none⟩ 1 [vI f] fun y=>∃g,g<j/\k (wrap .i64 (b-1)) y g) (∃h,h<l/\m (wrap .i64 (o+1)) d h)
def Ua(c:Sl)(o t:Int)(u:Value):Prop:=
 QI (wrap .i64 (o+1)) h fun g d p i=>sB (decide (d<t)) (QI d p fun q b e r=>sB (decide (b>o)) (NB c.a fun v w=>Ib b c.n/\∃j,rI e ⟨v,w+b.toNat*1,none⟩ j/\NB c.a fun x y=>(0<=((wrap .i64 (b-1)):Int)/\((wrap .i64 (b-1)):Int)<(c.n:Nat))/\∃k,rI e ⟨x,y+Int.toNat (wrap .i64 (b-1))*1,none⟩ k/\match u with | .func (.func g17) fa18 fc19=>(bif au Pz g17 then Fn Pz g17 (fa18 ++ #[vI j,vI k]++fc19) e (fun l m=>∃f,iI l f/\Gz f c b m r q i g d) else kZ Pz g17 (fa18 ++ #[vI j,vI k]++fc19) e (fun l m=>∃f,iI l f/\Gz f c b m r q i g d)) | _=>False) (∃s,s<i/\g (wrap .i64 (d+1)) e s)) (R (.tuple ⟨[]⟩) p)
theorem PO(p0:Sl)(p1 p2:Int)(p3:Value)(H:@Ua h R p0 p1 p2 p3):Fn Pz 261 #[vS p0,vI p1,vI p2,p3] h R:=aU (A:=(.s .z (.b (.l [(8,.one (.int .i64))] (.s .z (.s (.b (AI 9)) .z)))))) H
def vP(h:Int)(c:Nat)(d:Int->Int->Heap->Nat->Prop)(a b:Int)(e:Heap):Prop:=
 sB (!(decide (h<0))) (∃f,f<c/\d (wrap .i64 ((wrap .i64 (bQ .u64 (wrap .u64 (wrap .i64 (a+b))) 1))+1)) b e f) (∃g,g<c/\d a (wrap .i64 (bQ .u64 (wrap .u64 (wrap .i64 (a+b))) 1)) e g)
def Al(a b:Int)(c:Sl):Prop:=
 0<=((wrap .i64 (bQ .u64 (wrap .u64 (wrap .i64 (a+b))) 1)):Int)/\((wrap .i64 (bQ .u64 (wrap .u64 (wrap .i64 (a+b))) 1)):Int)<(c.n:Nat)
def Gy(h:Int)(c:Nat)(d:Int->Int->Heap->Nat->Prop)(a b:Int)(e:Heap):Prop:=
 sB (decide (h<0)) (∃f,f<c/\d (wrap .i64 ((wrap .i64 (bQ .u64 (wrap .u64 (wrap .i64 (a+b))) 1))+1)) b e f) (∃g,g<c/\d a (wrap .i64 (bQ .u64 (wrap .u64 (wrap .i64 (a+b))) 1)) e g)
def T9(b:Sl)(c d e:Int)(l:Value):Prop:=
 sB ((wrap .i64 (d-c))==1) (vR d e h fun P m p q Q=>sB (decide (m<p)) (0<=(1:Int)/\NB b.a fun b7 o8=>(Al m p b)/\∃C,rI q ⟨b7,o8+Int.toNat (wrap .i64 (bQ .u64 (wrap .u64 (wrap .i64 (m+p))) 1))*1,none⟩ C/\NB b.a fun h0 i0=>Ib c b.n/\∃D,rI q ⟨h0,i0+c.toNat*1,none⟩ D/\match l with | .func (.func g13) fa14 fc15=>(bif au Pz g13 then Fn Pz g13 (fa14 ++ #[vI C,vI D]++fc15) q (fun E F=>∃r,iI E r/\Gy r Q P m p F) else kZ Pz g13 (fa14 ++ #[vI C,vI D]++fc15) q (fun E F=>∃r,iI E r/\Gy r Q P m p F)) | _=>False) (QI c q fun j0 g w k0=>sB (decide (g<(wrap .i64 (m-1)))) (NB b.a fun l0 m0=>(0<=((wrap .i64 (g+1)):Int)/\((wrap .i64 (g+1)):Int)<(b.n:Nat))/\∃S,rI w ⟨l0,m0+Int.toNat (wrap .i64 (g+1))*1,none⟩ S/\NB b.a fun n0 o0=>Ib g b.n/\∃T,rI w ⟨n0,o0+g.toNat*1,none⟩ T/\NB b.a fun p0 q0=>Ib g b.n/\Wp w ⟨p0,q0+g.toNat*1,none⟩ 1 [vI S] fun r0=>NB b.a fun s0 t0=>(0<=((wrap .i64 (g+1)):Int)/\((wrap .i64 (g+1)):Int)<(b.n:Nat))/\Wp r0 ⟨s0,t0+Int.toNat (wrap .i64 (g+1))*1,none⟩ 1 [vI T] fun u0=>∃U,U<k0/\j0 (wrap .i64 (g+1)) u0 U) (R (.tuple ⟨[]⟩) w))) (sB ((wrap .i64 (e-d))==1) (vR c d h fun V o s t W=>sB (decide (o<s)) (0<=(1:Int)/\NB b.a fun v0 w0=>Ib d b.n/\∃G,rI t ⟨v0,w0+d.toNat*1,none⟩ G/\NB b.a fun x0 y0=>(Al o s b)/\∃H,rI t ⟨x0,y0+Int.toNat (wrap .i64 (bQ .u64 (wrap .u64 (wrap .i64 (o+s))) 1))*1,none⟩ H/\match l with | .func (.func g51) fa52 fc53=>(bif au Pz g51 then Fn Pz g51 (fa52 ++ #[vI G,vI H]++fc53) t (fun I J=>∃u,iI I u/\vP u W V o s J) else kZ Pz g51 (fa52 ++ #[vI G,vI H]++fc53) t (fun I J=>∃u,iI I u/\vP u W V o s J)) | _=>False) (QI d t fun z0 i x A0=>sB (decide (i>o)) (NB b.a fun B0 C0=>(0<=((wrap .i64 (i-1)):Int)/\((wrap .i64 (i-1)):Int)<(b.n:Nat))/\∃X,rI x ⟨B0,C0+Int.toNat (wrap .i64 (i-1))*1,none⟩ X/\NB b.a fun D0 E0=>Ib i b.n/\∃Y,rI x ⟨D0,E0+i.toNat*1,none⟩ Y/\NB b.a fun F0 G0=>Ib i b.n/\Wp x ⟨F0,G0+i.toNat*1,none⟩ 1 [vI X] fun H0=>NB b.a fun I0 J0=>(0<=((wrap .i64 (i-1)):Int)/\((wrap .i64 (i-1)):Int)<(b.n:Nat))/\Wp H0 ⟨I0,J0+Int.toNat (wrap .i64 (i-1))*1,none⟩ 1 [vI Y] fun K0=>∃Z,Z<A0/\z0 (wrap .i64 (i-1)) K0 Z) (R (.tuple ⟨[]⟩) x))) (0<=(1:Int)/\∃K:Int->Int->Heap->Prop,(sB (decide (d>(wrap .i64 (bQ .u64 (wrap .u64 (wrap .i64 (c+e))) 1)))) (K (wrap .i64 ((wrap .i64 ((wrap .i64 (bQ .u64 (wrap .u64 (wrap .i64 (c+e))) 1))+d))-e)) (wrap .i64 (bQ .u64 (wrap .u64 (wrap .i64 (c+e))) 1)) h) (K c d h))/\∀(_:Env) (a0 b0:Int) (c0:Heap),K a0 b0 c0->(vR a0 b0 c0 fun d0 f j k e0=>sB (decide (f<j)) (0<=(1:Int)/\NB b.a fun L0 M0=>(0<=((wrap .i64 ((wrap .i64 ((wrap .i64 ((wrap .i64 (bQ .u64 (wrap .u64 (wrap .i64 (c+e))) 1))+d))-1))-(wrap .i64 (bQ .u64 (wrap .u64 (wrap .i64 (f+j))) 1)))):Int)/\((wrap .i64 ((wrap .i64 ((wrap .i64 ((wrap .i64 (bQ .u64 (wrap .u64 (wrap .i64 (c+e))) 1))+d))-1))-(wrap .i64 (bQ .u64 (wrap .u64 (wrap .i64 (f+j))) 1)))):Int)<(b.n:Nat))/\∃L,rI k ⟨L0,M0+Int.toNat (wrap .i64 ((wrap .i64 ((wrap .i64 ((wrap .i64 (bQ .u64 (wrap .u64 (wrap .i64 (c+e))) 1))+d))-1))-(wrap .i64 (bQ .u64 (wrap .u64 (wrap .i64 (f+j))) 1))))*1,none⟩ L/\NB b.a fun N0 O0=>(Al f j b)/\∃M,rI k ⟨N0,O0+Int.toNat (wrap .i64 (bQ .u64 (wrap .u64 (wrap .i64 (f+j))) 1))*1,none⟩ M/\match l with | .func (.func g93) fa94 fc95=>(bif au Pz g93 then Fn Pz g93 (fa94 ++ #[vI L,vI M]++fc95) k (fun N O=>∃v,iI N v/\vP v e0 d0 f j O) else kZ Pz g93 (fa94 ++ #[vI L,vI M]++fc95) k (fun N O=>∃v,iI N v/\vP v e0 d0 f j O)) | _=>False) (∃y:Heap->Prop,(sB (decide (f<d)) (sB (decide (d<(wrap .i64 ((wrap .i64 ((wrap .i64 (bQ .u64 (wrap .u64 (wrap .i64 (c+e))) 1))+d))-f)))) (Fn Pz 294 #[vS b,vI f,vI d,vI (wrap .i64 ((wrap .i64 ((wrap .i64 (bQ .u64 (wrap .u64 (wrap .i64 (c+e))) 1))+d))-f)),l] k (fun P0 Q0=>P0=.tuple ⟨[]⟩/\y Q0)) (y k)) (y k))/\∀(_:Env) (z:Heap),y z->(∃A:Heap->Prop,(sB (decide (c<f)) (sB (decide (f<(wrap .i64 (bQ .u64 (wrap .u64 (wrap .i64 (c+e))) 1)))) (Fn Pz 262 #[vS b,vI c,vI f,vI (wrap .i64 (bQ .u64 (wrap .u64 (wrap .i64 (c+e))) 1)),l] z (fun R0 S0=>R0=.tuple ⟨[]⟩/\A S0)) (A z)) (A z))/\∀(_:Env) (B:Heap),A B->(sB (decide ((wrap .i64 (bQ .u64 (wrap .u64 (wrap .i64 (c+e))) 1))<(wrap .i64 ((wrap .i64 ((wrap .i64 (bQ .u64 (wrap .u64 (wrap .i64 (c+e))) 1))+d))-f)))) (sB (decide ((wrap .i64 ((wrap .i64 ((wrap .i64 (bQ .u64 (wrap .u64 (wrap .i64 (c+e))) 1))+d))-f))<e)) (Fn Pz 262 #[vS b,vI (wrap .i64 (bQ .u64 (wrap .u64 (wrap .i64 (c+e))) 1)),vI (wrap .i64 ((wrap .i64 ((wrap .i64 (bQ .u64 (wrap .u64 (wrap .i64 (c+e))) 1))+d))-f)),vI e,l] B (fun T0 U0=>T0=.tuple ⟨[]⟩/\R (.tuple ⟨[]⟩) U0)) (R (.tuple ⟨[]⟩) B)) (R (.tuple ⟨[]⟩) B)))))))
theorem PN(p0:Sl)(p1 p2 p3:Int)(p4:Value)(H:@T9 h R p0 p1 p2 p3 p4):Fn Pz 262 #[vS p0,vI p1,vI p2,vI p3,p4] h R:=aU (A:=(.s (.s .z (.c (.s .z (.s .z (.s (.b (.l [(10,.one (.int .i64)),(11,.one (.int .i64))] .z)) (.s (AI 13) .z)))) .z)) (.s (.s .z (.c (.s .z (.s .z (.s (.b (.l [(14,.one (.int .i64)),(15,.one (.int .i64))] .z)) (.s (AI 17) .z)))) .z)) (.s .z (.s .z (.s .z (.j [(20,.one (.int .i64)),(21,.one (.int .i64))] .z (.s .z (.s (.b (.l [(20,.one (.int .i64)),(21,.one (.int .i64))] .z)) (.s .z (.j [] .z (.j [] .z .z)))))))))))) H
def Um(d:Sl)(b:Int)(e:Value):Prop:=
 vR 0 20 h fun s j f k t=>
 sB (decide (f<=b))
 (Fn Pz 261 #[vS d,vI j,vI f,e] k
 (fun u v=>u=.tuple ⟨[]⟩ /\
 ∃l,l<t/\s f (wrap .i64 (f+20)) v l))
 (Fn Pz 261 #[vS d,vI j,vI b,e] k
 (fun w x=>w=.tuple ⟨[]⟩ /\
 QI 20 x fun m a n o=>
 sB (decide (a<b))
 (vR 0 (wrap .i64 (2*a)) n fun y c g i z=>
 sB (decide (g<=b))
 (Fn Pz 262 #[vS d,vI c,vI (wrap .i64 (c+a)),vI g,e] i
 (fun A B=>A=.tuple ⟨[]⟩ /\
 ∃p,p<z/\y g (wrap .i64 (g+(wrap .i64 (2*a)))) B p))
 (sB (decide ((wrap .i64 (c+a))<b))
 (Fn Pz 262 #[vS d,vI c,vI (wrap .i64 (c+a)),vI b,e] i
 (fun C D=>C=.tuple ⟨[]⟩ /\
 ∃q,q<o/\m (wrap .i64 (a*2)) D q))
 (∃r,r<o/\m (wrap .i64 (a*2)) i r)))
 (R (.tuple ⟨[]⟩) n)))
theorem P3(p0:Sl)(p1:Int)(p2:Value)(H:@Um h R p0 p1 p2):Fn Pz 212 #[vS p0,vI p1,p2] h R:=aU (A:=(.s .z (.s .z (.s (.b (.l [(7,.one (.int .i64)),(8,.one (.int .i64))] .z)) (.s .z (.b (.l [(6,.one (.int .i64))] (.s .z (.b (.s .z (.s (.b (.l [(7,.one (.int .i64)),(8,.one (.int .i64))] .z)) .z))))))))))) H
def UT(a:Sl)(b:Value):Prop:=
 Fn Pz 212 #[vS a,vI (a.n:Int),b] h
 (fun c d=>c=.tuple ⟨[]⟩ /\
 R (.tuple ⟨[]⟩) d)
theorem QA(p0:Sl)(p1:Value)(H:@UT h R p0 p1):Fn Pz 142 #[vS p0,p1] h R:=aU (A:=.z) H
def W80(pa:ByteArray)(pb pc:Sl)(pd pe pf:Int)(pg ph:Sl)(u:Int):Prop:=
 Wn h (L0 pa pb pc pd pe pf pg ph) 27 fun g=>
 ∃d,rS g (aS h 6) d /\
 sY ⟨none,0,0⟩ 0 g fun i e b c j=>
 sB (decide (b<(d.n:Int)))
 (NB d.a fun v w=>Ib b d.n /\
 ∃k l m o p q,mB c ⟨v,w+b.toNat*6,none⟩ k l m o p q /\
 Wn c [vI 0,vI 0,vI 0,vI 0,vI 0,.bool false] 67 fun x=>
 Wp x (aS c 0) 6 (L4 k l m o p q) fun f=>
 ∃r,rI f (aS c 0) r /\
 sB (r==u)
 (Wn f [vI b] 3 fun y=>
 App Pz 102 102 (vS e) (.slice (some (aS f 0)) 1 1) y fun z A=>
 ∃s,s<j/\i z (wrap .i64 (b+1)) A s)
 (∃t,t<j/\i e (wrap .i64 (b+1)) f t))
 (Fn Pz 142 #[vS e,.func (.func 143) #[] #[.pointer (some (aS h 0))]] c
 (fun B C=>B=.tuple ⟨[]⟩ /\
 R (vS e) C))
theorem WX(pa:ByteArray)(pb pc:Sl)(pd pe pf:Int)(pg ph:Sl)(p1:Int)(H:@W80 h R pa pb pc pd pe pf pg ph p1):Fn Pz 80 #[.agg ⟨(L0 pa pb pc pd pe pf pg ph)⟩,vI p1] h R:=aU (A:=(.s .z (.s .z (.s (AJ 5 11) .z)))) H
def GF(e h:Heap)(p q r:Int)(s t:Nat)(u:Int)(f:Addr)(b:Heap)(v w x:Int)(R:Value->Heap->Prop):Prop:=
 Wp e (aS h 0) 3 (L2 p q r) fun g=>Sm [⟨s,t+u.toNat*6+1,none⟩,⟨f.block,f.off+6,none⟩] e g/\Wp g (aS b 0) 3 (L2 v w x) fun a=>∃i,rI a (aS h 1) i/\∃j,rI a (aS b 1) j/\∃k,rI a (aS h 2) k/\∃l,rI a (aS b 2) l/\Fn Pz 54 #[vI i,vI j] a (fun y c=>∃m,iI y m/\Sm [(aS b 2),(aS h 2)] a c/\Fn Pz 54 #[vI k,vI l] c (fun z d=>∃n,iI z n/\Sm [(aS b 1),(aS h 1)] c d/\Wn d [vI m,vI n] 3 fun A=>Fn Pz 53 #[.slice (some (aS d 0)) 2 2] A (fun B C=>∃o,iI B o/\R (vI o) C)))
def US(f c:Int)(b:Addr):Prop:=
 ∃l,rS h ⟨b.block,b.off+6,none⟩ l/\NB l.a fun g i=>Ib f l.n/\∃m o p,jh h ⟨g,i+f.toNat*6+1,none⟩ m o p/\∃q,rS h ⟨b.block,b.off+6,none⟩ q/\NB q.a fun d e=>Ib c q.n/\∃r s t,jh h ⟨d,e+c.toNat*6+1,none⟩ r s t/\(Wn h [vI 0,vI 0,vI 0] 65 fun j=>Sm [⟨d,e+c.toNat*6+1,none⟩,⟨b.block,b.off+6,none⟩,⟨g,i+f.toNat*6+1,none⟩,⟨b.block,b.off+6,none⟩] h j/\Wn j [vI 0,vI 0,vI 0] 65 fun u=>Sm [⟨d,e+c.toNat*6+1,none⟩,⟨b.block,b.off+6,none⟩,⟨g,i+f.toNat*6+1,none⟩,⟨b.block,b.off+6,none⟩] j u/\GF u h m o p d e c b j r s t R)/\Wn h [vI 0,vI 0,vI 0] 65 fun k=>Sm [⟨d,e+c.toNat*6+1,none⟩,⟨b.block,b.off+6,none⟩,⟨g,i+f.toNat*6+1,none⟩,⟨b.block,b.off+6,none⟩] h k/\Wn k [vI 0,vI 0,vI 0] 65 fun v=>Sm [⟨d,e+c.toNat*6+1,none⟩,⟨b.block,b.off+6,none⟩,⟨g,i+f.toNat*6+1,none⟩,⟨b.block,b.off+6,none⟩] k v/\GF v k m o p d e c b h r s t R
theorem Qz(p0 p1:Int)(c0:Addr)(H:@US h R p0 p1 c0):Fn Pz 143 #[vI p0,vI p1,.pointer (some c0)] h R:=aU (A:=.z) H
def Jw(Y c:Heap)(Z:ByteArray)(a0:Sl)(h j:Heap)(R:Value->Heap->Prop):Prop:=
 Wp Y (aS c 0) 8 [.string Z,vS a0,vN,vI 0,vI 0,vI 0,vN,vN] fun k=>∃d,rS k (aS h 2) d/\QI 0 k fun b0 e b c0=>sB (decide (e<(d.n:Int))) (NB d.a fun d0 e0=>Ib e d.n/\∃l m o p q,NN b ⟨d0,e0+e.toNat*5,none⟩ l m o p q/\Wn b [.string ⟨#[]⟩,vN,vI 0,vN,vN] 171 fun f0=>Wp f0 (aS b 0) 5 (L6 l m o p q) fun r=>∃s,rS r (aS b 1) s/\Fn Pz 138 #[vS s] r (fun g0 h0=>∃t,iS g0 t/\Wp h0 (aS b 1) 1 [vS t] fun f=>∃u,rS f (aS b 3) u/\∃v,rS f (aS b (3+1)) v/\Fn Pz 139 #[vS u] f (fun i0 i=>∃w,iS i0 w/\Sm [(aS b (3+1))] f i/\Fn Pz 140 #[vS v] i (fun j0 x=>∃y,iS j0 y/\Sm [(aS b 3)] i x/\Wp x (aS b 3) 2 [vS w,vS y] fun g=>∃z,rS g (aS c 2) z/\∃A B C D E,NN g (aS b 0) A B C D E/\Wn g (L6 A B C D E) 171 fun k0=>App Pz 23 23 (vS z) (.slice (some (aS g 0)) 1 1) k0 fun l0 m0=>Wp m0 (aS c 2) 1 [vS l0] fun n0=>∃F,F<c0/\b0 (wrap .i64 (e+1)) n0 F)))) (∃G H I J K L M N,eT b (aS c 0) G H I J K L M N/\Wp b (aS j 0) 8 (L0 G H I J K L M N) fun O=>∃P Q S T U V W X,eT O (aS j 0) P Q S T U V W X/\R (.agg ⟨(L0 P Q S T U V W X)⟩) O)
def W76(pa:ByteArray)(pb pc:Sl)(pd pe pf:Int)(pg ph:Sl):Prop:=
 Wn h (L0 pa pb pc pd pe pf pg ph) 27 fun c=>Wn c [.string ⟨#[]⟩,vN,vN,vI 0,vI 0,vI 0,vN,vN] 27 fun a=>∃d,rT a (aS h 0) d/\∃e,rS a (aS h 1) e/\(Fn Pz 137 #[vS e] a (fun l b=>∃g,iS l g/\Sm [(aS h 0)] a b/\Wn b [.string ⟨#[]⟩,vN,vN,vI 0,vI 0,vI 0,vN,vN] 27 fun i=>Sm [(aS h 1),(aS h 0)] b i/\Jw i b d g h c R))/\Wn a [.string ⟨#[]⟩,vN,vN,vI 0,vI 0,vI 0,vN,vN] 27 fun f=>Sm [(aS h 1),(aS h 0)] a f/\Fn Pz 137 #[vS e] f (fun m j=>∃k,iS m k/\Sm [(aS h 0)] f j/\Jw j a d k h c R)
theorem W4(pa:ByteArray)(pb pc:Sl)(pd pe pf:Int)(pg ph:Sl)(H:@W76 h R pa pb pc pd pe pf pg ph):Fn Pz 76 #[.agg ⟨(L0 pa pb pc pd pe pf pg ph)⟩] h R:=aU (A:=(.s .z (.s .z (.s (AI 15) .z)))) H
def UY(b:Sl):Prop:=
 sB (Option.isNone b.a)
 (R vN h)
 (Wn h [] 9 fun c=>
 App Pz 22 22 (.slice (some (aS h 0)) 0 0) (vS b) c fun d e=>
 R (vS d) e)
theorem QE(p0:Sl)(H:@UY h R p0):Fn Pz 137 #[vS p0] h R:=aU (A:=.z) H
def UX(b:Sl):Prop:=
 sB (Option.isNone b.a)
 (R vN h)
 (Wn h [] 260 fun c=>
 App Pz 166 166 (.slice (some (aS h 0)) 0 0) (vS b) c fun d e=>
 R (vS d) e)
theorem QD(p0:Sl)(H:@UX h R p0):Fn Pz 138 #[vS p0] h R:=aU (A:=.z) H
def UW(b:Sl):Prop:=
 sB (Option.isNone b.a)
 (R vN h)
 (Wn h [] 263 fun c=>
 App Pz 167 167 (.slice (some (aS h 0)) 0 0) (vS b) c fun d e=>
 R (vS d) e)
theorem QC(p0:Sl)(H:@UW h R p0):Fn Pz 139 #[vS p0] h R:=aU (A:=.z) H
def UU(b:Sl):Prop:=
 sB (Option.isNone b.a)
 (R vN h)
 (Wn h [] 52 fun c=>
 App Pz 49 49 (.slice (some (aS h 0)) 0 0) (vS b) c fun d e=>
 R (vS d) e)
theorem QB(p0:Sl)(H:@UU h R p0):Fn Pz 140 #[vS p0] h R:=aU (A:=.z) H
def W78(g:Sl)(p:Value):Prop:=
 QI 0 h fun m b f o=>
 sB (decide (b<(g.n:Int)))
 (NB g.a fun q r=>Ib b g.n /\
 ∃i j k,jh f ⟨q,r+b.toNat*3,none⟩ i j k /\
 match p with | .func (.func g11) fa12 fc13=>(bif au Pz g11 then Fn Pz g11 (fa12 ++ #[.agg ⟨(L2 i j k)⟩]++fc13) f
 (fun l c=>∃d,iB l d /\
 sB d
 (R (vI b) c)
 (∃e,e<o/\m (wrap .i64 (b+1)) c e)) else kZ Pz g11 (fa12 ++ #[.agg ⟨(L2 i j k)⟩]++fc13) f
 (fun l c=>∃d,iB l d /\
 sB d
 (R (vI b) c)
 (∃e,e<o/\m (wrap .i64 (b+1)) c e))) | _=>False)
 (R (vI (-1)) f)
theorem WZ(p0:Sl)(p1:Value)(H:@W78 h R p0 p1):Fn Pz 78 #[vS p0,p1] h R:=aU (A:=(.s .z (.s (AI 8) .z))) H
def W79(pa pb pc:Int)(d:Addr):Prop:=
 Wn h (L2 pa pb pc) 149 fun a=>
 ∃b,rI a (aS h 0) b /\
 ∃c,rI a d c /\
 R (.bool (b==c)) a
theorem WY(pa pb pc:Int)(c0:Addr)(H:@W79 h R pa pb pc c0):Fn Pz 79 #[.agg ⟨(L2 pa pb pc)⟩,.pointer (some c0)] h R:=aU (A:=.z) H
def N4(X:Sl)(Y:Heap)(o:Sl)(h:Heap)(f:Sl)(g:Int)(d:Heap)(Z:Nat)(a0:Sl->Heap->Nat->Prop):Prop:=
 sY X 0 Y fun b0 j k b c0=>
 sB (decide (k<(o.n:Int)))
 (NB o.a fun d0 e0=>Ib k o.n /\
 ∃l,rI b ⟨d0,e0+k.toNat*1,none⟩ l /\
 ∃p,rS b (aS h 6) p /\
 NB p.a fun f0 g0=>Ib l p.n /\
 ∃x y z A B C,mB b ⟨f0,g0+l.toNat*6,none⟩ x y z A B C /\
 Wn b [vI 0,vI 0,vI 0,vI 0,vI 0,.bool false] 67 fun h0=>
 Wp h0 (aS b 0) 6 (L4 x y z A B C) fun i=>
 ∃q:Sl->Heap->Prop,
 (∃r,rI i (aS b 4) r /\
 NB f.a fun i0 j0=>Ib r f.n /\
 ∃D,rI i ⟨i0,j0+r.toNat*1,none⟩ D /\
 sB (decide (D<0))
 (∃s,rI i (aS b 4) s /\
 NB f.a fun k0 l0=>Ib s f.n /\
 Wp i ⟨k0,l0+s.toNat*1,none⟩ 1 [vI (j.n:Int)] fun t=>
 ∃E,rI t (aS b 4) E /\
 Wn t [vI E] 3 fun m0=>
 App Pz 102 102 (vS j) (.slice (some (aS t 0)) 1 1) m0 fun n0 o0=>
 q n0 o0)
 (q j i)) /\
 ∀(_:Env) (F:Sl) (c:Heap),q F c ->
 (∃m:Heap->Prop,
 (sB (decide (g>=0))
 (∃u,rS c (aS h 7) u /\
 NB u.a fun p0 q0=>Ib g u.n /\
 ∃G,rI c ⟨p0,q0+g.toNat*3+2,none⟩ G /\
 sB (G==l)
 (∃H,rS c (aS d 7) H /\
 ∃I,rI c (aS d 3) I /\
 ∃v,rS c (aS h 7) v /\
 NB v.a fun r0 s0=>Ib g v.n /\
 ∃J,rI c ⟨r0,s0+g.toNat*3+1,none⟩ J /\
 ∃K,rS c (aS d 6) K /\
 Wn c [vI I,vI J,vI (K.n:Int)] 149 fun L=>
 Sm [(aS d 7)] c L /\
 App Pz 25 25 (vS H) (.slice (some (aS c 0)) 1 1) L fun t0 u0=>
 Wp u0 (aS d 7) 1 [vS t0] fun v0=>
 m v0)
 (m c))
 (m c)) /\
 ∀(_:Env) (e:Heap),m e ->
 (∃M,rS e (aS d 6) M /\
 ∃N,rI e (aS d 3) N /\
 ∃O P Q,jh e (aS b 1) O P Q /\
 ∃w,rI e (aS b 4) w /\
 NB f.a fun w0 x0=>Ib w f.n /\
 ∃R,rI e ⟨w0,x0+w.toNat*1,none⟩ R /\
 ∃S,rB e (aS b 5) S /\
 Wn e (L4 N O P Q R S) 67 fun T=>
 Sm [(aS d 6)] e T /\
 App Pz 24 24 (vS M) (.slice (some (aS e 0)) 1 1) T fun y0 z0=>
 Wp z0 (aS d 6) 1 [vS y0] fun A0=>
 ∃U,U<c0/\b0 F (wrap .i64 (k+1)) A0 U)))
 (∃V,rI b (aS d 3) V /\
 Wp b (aS d 3) 1 [vI (wrap .i64 (V+1))] fun B0=>
 ∃W,W<Z/\a0 j B0 W)
def N3(U V c h:Heap)(e:Sl)(j:Heap)(R:Value->Heap->Prop):Prop:=
 QS ⟨(some (aS U 0)),1,1⟩ V fun W d b X=>
 ∃k,rI b (aS c 3) k /\
 sB (decide (k<(d.n:Int)))
 (∃f,rI b (aS c 3) f /\
 NB d.a fun Y Z=>Ib f d.n /\
 ∃l,rI b ⟨Y,Z+f.toNat*1,none⟩ l /\
 Wn b [vI 0] 3 fun a0=>
 Wp a0 (aS b 0) 1 [vI l] fun m=>
 ∃o,rS m (aS h 7) o /\
 Fn Pz 78 #[vS o,.func (.func 79) #[] #[.pointer (some (aS b 0))]] m
 (fun b0 g=>∃p,iI b0 p /\
 ∃q r s t u v w x,eT g (aS h 0) q r s t u v w x /\
 ∃y,rI g (aS b 0) y /\
 Fn Pz 80 #[.agg ⟨(L0 q r s t u v w x)⟩,vI y] g
 (fun c0 d0=>∃z,iS c0 z /\
 N4 d d0 z h e p c X W)))
 (∃i,rI b (aS h 5) i /\
 NB e.a fun e0 f0=>Ib i e.n /\
 ∃A,rI b ⟨e0,f0+i.toNat*1,none⟩ A /\
 Wp b (aS c 5) 1 [vI A] fun B=>
 ∃C D E F G H I J,eT B (aS c 0) C D E F G H I J /\
 Wp B (aS j 0) 8 (L0 C D E F G H I J) fun K=>
 ∃L M N O P Q S T,eT K (aS j 0) L M N O P Q S T /\
 R (.tuple ⟨[.agg ⟨(L0 L M N O P Q S T)⟩,vI 0]⟩) K)
def W35(pa:ByteArray)(pb pc:Sl)(pd pe pf:Int)(pg ph:Sl):Prop:=
 Wn h (L0 pa pb pc pd pe pf pg ph) 27 fun b=>
 Wn b [.string ⟨#[]⟩,vN,vN,vI 0,vI 0,vI 0,vN,vN] 27 fun i=>
 ∃j k l m o p q r,eT i (aS h 0) j k l m o p q r /\
 Fn Pz 40 #[.agg ⟨(L0 j k l m o p q r)⟩] i
 (fun Y d=>∃s,iB Y s /\
 sB (!s)
 (Wp d (aS b 0) 8 [.string ⟨#[]⟩,vN,vN,vI 0,vI 0,vI 0,vN,vN] fun t=>
 ∃u v w x y z A B,eT t (aS b 0) u v w x y z A B /\
 R (.tuple ⟨[.agg ⟨(L0 u v w x y z A B)⟩,vI 1]⟩) t)
 (∃C D E F G H I J,eT d (aS h 0) C D E F G H I J /\
 Fn Pz 76 #[.agg ⟨(L0 C D E F G H I J)⟩] d
 (fun Z e=>∃(K:ByteArray) (L M:Sl) (N O P:Int) (Q S:Sl),Z=.agg ⟨(L0 K L M N O P Q S)⟩ /\
 Wn e [.string ⟨#[]⟩,vN,vN,vI 0,vI 0,vI 0,vN,vN] 27 fun a0=>
 Wp a0 (aS e 0) 8 (L0 K L M N O P Q S) fun T=>
 Wn T [vI (-1)] 3 fun U=>
 ∃V,rI U (aS h 3) V /\
 Fn Pz 77 #[.slice (some (aS T 0)) 1 1,vI V] U
 (fun b0 W=>∃c,iS b0 c /\
 ∃f,rI W (aS h 4) f /\
 NB c.a fun c0 d0=>Ib f c.n /\
 Wp W ⟨c0,d0+f.toNat*1,none⟩ 1 [vI 0] fun g=>
 ∃X,rI g (aS h 4) X /\
 Wn g [vI X] 3 fun e0=>
 N3 g e0 e h c b R))))
theorem Xk(pa:ByteArray)(pb pc:Sl)(pd pe pf:Int)(pg ph:Sl)(H:@W35 h R pa pb pc pd pe pf pg ph):Fn Pz 35 #[.agg ⟨(L0 pa pb pc pd pe pf pg ph)⟩] h R:=aU (A:=(.s .z (.s .z (.s .z (.s .z (.s .z (.s (.s .z (.b (.l [(6,.one (.slice))] (.s .z (.s (.b (.s .z (.s .z (.s .z (.b (.l [(6,.one (.slice)),(51,.one (.int .i64))] (.s .z (.s .z (.s (.b (.s .z (.s .z (.j [(6,.one (.slice))] .z (.j [] .z .z))))) .z))))))))) .z))))) .z))))))) H
end Go.VC
end

section
namespace Go.VC
open Go.Proofs IntKind

end Go.VC
end

section
namespace Go.VC
open Go.Proofs IntKind
variable {h:Heap} {R:Value->Heap->Prop}
def W20(pa pb:Int)(pc pd:Sl)(pe:Int)(pf:Bool)(pg ph:Int)(pi:Sl)(pj:Int)(pk:Bool)(pl pm:Int)(pn:Sl):Prop:=
 Wn h (L1 pa pb pc pd pe pf pg ph pi pj pk pl pm pn) 39 fun a=>
 ∃b,rI a (aS h 0) b /\
 sB (b==2)
 (∃c,rS a (aS h 2) c /\
 R (vI (wrap .i64 (2*(c.n:Int)))) a)
 (∃d,rS a (aS h 2) d /\
 ∃e,rS a (aS h 3) e /\
 R (vI (wrap .i64 ((d.n:Int)+(e.n:Int)))) a)
theorem Xn(pa pb:Int)(pc pd:Sl)(pe:Int)(pf:Bool)(pg ph:Int)(pi:Sl)(pj:Int)(pk:Bool)(pl pm:Int)(pn:Sl)(H:@W20 h R pa pb pc pd pe pf pg ph pi pj pk pl pm pn):Fn Pz 20 #[.agg ⟨(L1 pa pb pc pd pe pf pg ph pi pj pk pl pm pn)⟩] h R:=aU (A:=.z) H
def W12 :Prop:=
 Fn Pz 38 #[.bool false] h
 (fun v1 h0=>∃(d:ByteArray) (e f:Sl) (g i j:Int) (k l:Sl),v1=.agg ⟨(L0 d e f g i j k l)⟩ /\
 Fn Pz 14 #[.agg ⟨(L0 d e f g i j k l)⟩] h0
 (fun i0 b=>∃(m o:Int) (p q:Sl) (r:Int) (s:Bool) (t u:Int) (v:Sl) (w:Int) (x:Bool) (y z:Int) (A:Sl) (B:Int),i0=.tuple ⟨[.agg ⟨(L1 m o p q r s t u v w x y z A)⟩,vI B]⟩ /\
 Wn b [vI 0,vI 0,vN,vN,vI 0,.bool false,vI 0,vI 0,vN,vI 0,.bool false,vI 0,vI 0,vN] 35 fun j0=>
 Wp j0 (aS b 0) 14 (L1 m o p q r s t u v w x y z A) fun k0=>
 Fn Pz 38 #[.bool true] k0
 (fun l0 m0=>∃(C:ByteArray) (D E:Sl) (F G H:Int) (I J:Sl),l0=.agg ⟨(L0 C D E F G H I J)⟩ /\
 Fn Pz 14 #[.agg ⟨(L0 C D E F G H I J)⟩] m0
 (fun n0 c=>∃(K L:Int) (M N:Sl) (O:Int) (P:Bool) (Q S:Int) (T:Sl) (U:Int) (V:Bool) (W X:Int) (Y:Sl) (Z:Int),n0=.tuple ⟨[.agg ⟨(L1 K L M N O P Q S T U V W X Y)⟩,vI Z]⟩ /\
 Wn c [vI 0,vI 0,vN,vN,vI 0,.bool false,vI 0,vI 0,vN,vI 0,.bool false,vI 0,vI 0,vN] 35 fun o0=>
 Wp o0 (aS c 0) 14 (L1 K L M N O P Q S T U V W X Y) fun a=>
 sB (B==18)
 (sB (Z==0)
 (∃a0,rI a (aS b 0) a0 /\
 sB (a0==1)
 (∃b0,rI a (aS b 1) b0 /\
 sB (b0==2)
 (∃c0,rS a (aS b 2) c0 /\
 sB ((c0.n:Int)==0)
 (∃d0,rS a (aS b 3) d0 /\
 sB ((d0.n:Int)==1)
 (∃e0,rI a (aS b (4+3)) e0 /\
 sB (e0==3)
 (∃f0,rI a (aS c 0) f0 /\
 R (.bool (f0==0)) a)
 (R (.bool false) a))
 (R (.bool false) a))
 (R (.bool false) a))
 (R (.bool false) a))
 (R (.bool false) a))
 (R (.bool false) a))
 (R (.bool false) a)))))
theorem Xr  (H:@W12 h R ):Fn Pz 12 #[] h R:=aU (A:=.z) H
end Go.VC
end

section
namespace Go.VC
open Go.Proofs IntKind














end Go.VC
end

section
namespace Go.VC
open Go.Proofs IntKind
variable [ax]
namespace M
end M
end Go.VC
end

section
namespace Go.VC
open Go.Proofs IntKind

end Go.VC
end

section
namespace Go.VC
open Go.Proofs IntKind
variable {h:Heap} {R:Value->Heap->Prop}
def W10(pa:ByteArray)(pb pc:Sl)(pd pe pf:Int)(pg ph:Sl):Prop:=
 Wn h (L0 pa pb pc pd pe pf pg ph) 27 fun h9=>
 Fn Pz 12 #[] h9
 (fun B1 d=>∃j,iB B1 j /\
 sB (!j)
 (R (.bool false) d)
 (∃k l m n o p q r,eT d (aS h 0) k l m n o p q r /\
 Fn Pz 13 #[.agg ⟨(L0 k l m n o p q r)⟩] d
 (fun C1 e=>∃s,iB C1 s /\
 sB (!s)
 (R (.bool true) e)
 (∃t u v w x y z A,eT e (aS h 0) t u v w x y z A /\
 Fn Pz 17 #[.agg ⟨(L0 t u v w x y z A)⟩] e
 (fun D1 f=>∃B,iB D1 B /\
 sB (!B)
 (R (.bool true) f)
 (∃C D E F G H I J,eT f (aS h 0) C D E F G H I J /\
 Fn Pz 35 #[.agg ⟨(L0 C D E F G H I J)⟩] f
 (fun E1 g=>∃(K:ByteArray) (L M:Sl) (N O P:Int) (Q S:Sl) (T:Int),E1=.tuple ⟨[.agg ⟨(L0 K L M N O P Q S)⟩,vI T]⟩ /\
 Wn g [.string ⟨#[]⟩,vN,vN,vI 0,vI 0,vI 0,vN,vN] 27 fun F1=>
 Wp F1 (aS g 0) 8 (L0 K L M N O P Q S) fun U=>
 ∃V W X Y Z a0 b0 c0,eT U (aS h 0) V W X Y Z a0 b0 c0 /\
 Fn Pz 14 #[.agg ⟨(L0 V W X Y Z a0 b0 c0)⟩] U
 (fun G1 b=>∃(d0 e0:Int) (f0 g0:Sl) (h0:Int) (i0:Bool) (j0 k0:Int) (l0:Sl) (m0:Int) (n0:Bool) (o0 p0:Int) (q0:Sl) (r0:Int),G1=.tuple ⟨[.agg ⟨(L1 d0 e0 f0 g0 h0 i0 j0 k0 l0 m0 n0 o0 p0 q0)⟩,vI r0]⟩ /\
 Wn b [vI 0,vI 0,vN,vN,vI 0,.bool false,vI 0,vI 0,vN,vI 0,.bool false,vI 0,vI 0,vN] 35 fun H1=>
 Wp H1 (aS b 0) 14 (L1 d0 e0 f0 g0 h0 i0 j0 k0 l0 m0 n0 o0 p0 q0) fun s0=>
 ∃t0 u0 v0 w0 x0 y0 z0 A0,eT s0 (aS g 0) t0 u0 v0 w0 x0 y0 z0 A0 /\
 Fn Pz 14 #[.agg ⟨(L0 t0 u0 v0 w0 x0 y0 z0 A0)⟩] s0
 (fun I1 c=>∃(B0 C0:Int) (D0 E0:Sl) (F0:Int) (G0:Bool) (H0 I0:Int) (J0:Sl) (K0:Int) (M0:Bool) (N0 O0:Int) (P0:Sl) (Q0:Int),I1=.tuple ⟨[.agg ⟨(L1 B0 C0 D0 E0 F0 G0 H0 I0 J0 K0 M0 N0 O0 P0)⟩,vI Q0]⟩ /\
 Wn c [vI 0,vI 0,vN,vN,vI 0,.bool false,vI 0,vI 0,vN,vI 0,.bool false,vI 0,vI 0,vN] 35 fun J1=>
 Wp J1 (aS c 0) 14 (L1 B0 C0 D0 E0 F0 G0 H0 I0 J0 K0 M0 N0 O0 P0) fun a=>
 sB (T==0)
 (sB (r0==Q0)
 (∃R0,rI a (aS b 0) R0 /\
 ∃S0,rI a (aS c 0) S0 /\
 sB (R0==S0)
 (∃T0,rI a (aS b 1) T0 /\
 ∃U0,rI a (aS c 1) U0 /\
 sB (T0==U0)
 (∃V0 W0 X0 Y0 Z0 a1 b1 c1 d1 e1 f1 g1 h1 i1,lU a (aS b 0) V0 W0 X0 Y0 Z0 a1 b1 c1 d1 e1 f1 g1 h1 i1 /\
 ∃j1 k1 l1 m1 n1 o1 p1 q1 r1 s1 t1 u1 v1 w1,lU a (aS c 0) j1 k1 l1 m1 n1 o1 p1 q1 r1 s1 t1 u1 v1 w1 /\
 Fn Pz 20 #[.agg ⟨(L1 V0 W0 X0 Y0 Z0 a1 b1 c1 d1 e1 f1 g1 h1 i1)⟩] a
 (fun K1 i=>∃x1,iI K1 x1 /\
 Sm [(aS c 0),(aS c 1),(aS b 1),(aS c 0),(aS b 0)] a i /\
 Fn Pz 20 #[.agg ⟨(L1 j1 k1 l1 m1 n1 o1 p1 q1 r1 s1 t1 u1 v1 w1)⟩] i
 (fun M1 y1=>∃z1,iI M1 z1 /\
 Sm [(aS b 0),(aS c 1),(aS b 1),(aS c 0),(aS b 0)] i y1 /\
 R (.bool (x1==z1)) y1)))
 (R (.bool false) a))
 (R (.bool false) a))
 (R (.bool false) a))
 (R (.bool false) a))))))))))
theorem Xs(pa:ByteArray)(pb pc:Sl)(pd pe pf:Int)(pg ph:Sl)(H:@W10 h R pa pb pc pd pe pf pg ph):Fn Pz 10 #[.agg ⟨(L0 pa pb pc pd pe pf pg ph)⟩] h R:=aU (A:=.z) H
end Go.VC
end

section
namespace Go.LexS
def isLetter(n:Int):Bool:=decide (97<=n)&&decide (n<=122)||decide (65<=n)&&decide (n<=90)
def isDigit(n:Int):Bool:=decide (48<=n)&&decide (n<=57)
def isInner(n:Int):Bool:=isLetter n||isDigit n||(n==95)
def isSpace(n:Int):Bool:=n==32||n==9||n==10||n==13
def lt(c:UInt8):Bool:=isLetter c.toNat
def dg(c:UInt8):Bool:=isDigit c.toNat
def inn(c:UInt8):Bool:=isInner c.toNat
def sp(c:UInt8):Bool:=isSpace c.toNat
structure T where
 kind:Nat
 text:List UInt8
 val:Nat
 deriving DecidableEq
def eJ:List (List UInt8):=[[97,103,97,105,110],[97,110,100],[97,115],[97,116],[99,97,108,108],[99,104,111,105,99,101],[101,108,115,101],[102,114,111,109],[105,102],[105,110,116],[108,101,110],[108,111,111,112],[109,101,115,115,97,103,101],[111,102],[111,102,102,101,114],[111,110],[111,114],[112,97,114],[112,108,97,121,115],[112,114,111,116,111,99,111,108],[115,101,114,118,105,99,101],[116,101,120,116],[116,105,109,101,115],[116,111],[118,97,114],[119,104,101,114,101],[119,104,105,108,101],[119,105,116,104,105,110]]
def isName(l:List UInt8):Bool:=match l with
 | []=>false
 | c::_=>decide (l.length<=16)&&lt c&&l.all inn
def isWord(l:List UInt8):Bool:=isName l && !decide (l∈eJ)
end Go.LexS
end

section
namespace Go.VC
open Go.LexS
abbrev Nm:=List UInt8
def i64(n:Int):Value:=.int .i64 n
def iA(s:Sl):Value:=.slice s.a s.n s.c
structure jx where
 nm:Nm
 k:Int
 lo:Int
 hi:Int
def jx.cs(f:jx):List Value:=[.string (bs f.nm),.int .i64 f.k,.int .i64 f.lo,.int .i64 f.hi]
structure Df where
 x:Int
 y:Int
 c:Int
def Df.cs(d:Df):List Value:=[.int .i64 d.x,.int .i64 d.y,.int .i64 d.c]
structure sG where
 x:Int
 y:Int
def sG.cs(d:sG):List Value:=[.int .i64 d.x,.int .i64 d.y]
structure Dc where
 nm:Nm
 hf:Sl
 first:Int
 hd:Sl
 he:Sl
 fs:List jx
 ds:List Df
 es:List sG
def Dc.cs(d:Dc):List Value:=[.string (bs d.nm),.slice d.hf.a d.hf.n d.hf.c,.int .i64 d.first,.slice d.hd.a d.hd.n d.hd.c,.slice d.he.a d.he.n d.he.c]
structure Ed where
 f:Int
 a:Int
 b:Int
 l:Int
 t:Int
 ag:Bool
def Ed.cs(x:Ed):List Value:=[.int .i64 x.f,.int .i64 x.a,.int .i64 x.b,.int .i64 x.l,.int .i64 x.t,.bool x.ag]
structure To where
 s:Int
 k:Int
 e:Int
def To.cs(x:To):List Value:=[.int .i64 x.s,.int .i64 x.k,.int .i64 x.e]
structure Gl where
 nm:Nm
 hr:Sl
 hd:Sl
 n:Int
 s:Int
 e:Int
 he:Sl
 ht:Sl
 rs:List Nm
 ds:List Dc
 es:List Ed
 ts:List To
def Gl.cs(g:Gl):List Value:=[.string (bs g.nm),.slice g.hr.a g.hr.n g.hr.c,.slice g.hd.a g.hd.n g.hd.c,.int .i64 g.n,.int .i64 g.s,.int .i64 g.e,.slice g.he.a g.he.n g.he.c,.slice g.ht.a g.ht.n g.ht.c]
def Gl.v(g:Gl):Value:=.agg ⟨g.cs⟩
def oE(x:Nm):List Value:=[.string (bs x)]
structure RL {α:Type} (h:Heap) (k:Nat) (s:Sl) (cs:α->List Value) (L:List α):Prop where
 rw:Rw h k s (L.map cs)
 cap:s.n<=s.c
 nil:s.a=none->s.n=0/\s.c=0
 sm:L.length<=1048576
theorem RL.ext{α:Type}{h h':Heap}{k:Nat}{s:Sl}{cs:α->List Value}{L:List α}(hr:RL h k s cs L)(E:Ext h h'):RL h' k s cs L:=⟨hr.rw.ext E,hr.cap,hr.nil,hr.sm⟩
theorem RL.ln{α:Type}{h:Heap}{k:Nat}{s:Sl}{cs:α->List Value}{L:List α}(hr:RL h k s cs L):s.n=L.length:=hr.rw.ln
structure DI (h:Heap) (d:Dc):Prop where
 pf:RL h 4 d.hf jx.cs d.fs
 pd:RL h 3 d.hd Df.cs d.ds
 pe:RL h 2 d.he sG.cs d.es
theorem DI.ext{h h':Heap}{d:Dc}(hd:DI h d)(E:Ext h h'):DI h' d:=⟨hd.pf.ext E,hd.pd.ext E,hd.pe.ext E⟩
structure DL (h:Heap) (s:Sl) (L:List Dc):Prop where
 r:RL h 5 s Dc.cs L
 i:∀d∈L,DI h d
theorem DL.ext{h h':Heap}{s:Sl}{L:List Dc}(hd:DL h s L)(E:Ext h h'):DL h' s L:=⟨hd.r.ext E,fun d hm=>(hd.i d hm).ext E⟩
structure GI (h:Heap) (g:Gl):Prop where
 r:RL h 1 g.hr oE g.rs
 d:DL h g.hd g.ds
 e:RL h 6 g.he Ed.cs g.es
 t:RL h 3 g.ht To.cs g.ts
theorem GI.ext{h h':Heap}{g:Gl}(hg:GI h g)(E:Ext h h'):GI h' g:=⟨hg.r.ext E,hg.d.ext E,hg.e.ext E,hg.t.ext E⟩
theorem RL.take{α:Type}{h:Heap}{k:Nat}{s:Sl}{cs:α->List Value}{L:List α}(hr:RL h k s cs L){i:Nat}(hi:i<=s.n):RL h k ⟨bg s.a (Int.toNat 0) s.c k,Int.toNat (i:Int)-Int.toNat 0,s.c-Int.toNat 0⟩ cs (L.take i):=by
 have h1:=hr.rw.1;have e:bg s.a (Int.toNat 0) s.c k=s.a:=cC _ _ _;rw[e];refine⟨⟨by rw[Yc,Yu];simp only[Yc] at h1;show i-0=_;omega,fun hp=>?_⟩,by have:=hr.cap;show i-0<=s.c-0;omega,fun ha=>?_,by have:=hr.sm;rw[Yu];omega⟩
 .rw[Yc,Yu] at hp;obtain⟨b,o,ha,ch⟩:=hr.rw.2 (by rw[Yc];omega);refine⟨b,o,ha,fun j row hj=>ch j row ?_⟩;rw[List.map_take,vM] at hj;split at hj
  .exact hj
  .cases hj
 .have:=hr.nil ha;exact⟨by show i-0=0;omega,by show s.c-0=0;omega⟩
end Go.VC
end

section
namespace Go.VC
open Go.Proofs Go.LexS
theorem p8(b:UInt8)(h:Heap):Fn Pz 265 #[.int .u8 b.toNat] h fun v h'=>v=.bool (lt b)/\h'=h:=by
 apply PJ;unfold T7;unfold lt isLetter;generalize (b.toNat:Int)=n
 repeat' first
  | refine aQ (fun _=>?_) (fun _=>?_)
 all_goals
  refine⟨?_,rfl⟩;congr 1;rw[Bool.eq_iff_iff];simp only[Bool.or_eq_true,Yt,decide_eq_true_eq,Bool.false_eq_true,true_iff,false_iff];omega
theorem Fj(b:UInt8)(h:Heap):Fn Pz 296 #[.int .u8 b.toNat] h fun v h'=>v=.bool (dg b)/\h'=h:=by
 apply Pu;unfold TR;unfold dg isDigit;refine aQ (fun c=>⟨?_,rfl⟩) (fun c=>⟨?_,rfl⟩)
 .rw[decide_eq_true (p:=(48:Int)<=b.toNat) c,Bool.true_and]
 .rw[decide_eq_false (p:=(48:Int)<=b.toNat) c,Bool.false_and]
theorem DY(b:UInt8)(h:Heap):Fn Pz 266 #[.int .u8 b.toNat] h fun v h'=>v=.bool (inn b)/\h'=h:=by
 apply PI;unfold T6;refine (p8 b h).mono ?_;rintro _ h3 ⟨rfl,rfl⟩;refine⟨_,rfl,aa (fun c=>?_) (fun c=>?_)⟩
 .exact⟨by rw[show inn b=(lt b||dg b||((b.toNat:Int)==95)) from rfl,c];rfl,rfl⟩
 .refine (Fj b _).mono ?_;rintro _ h6 ⟨rfl,rfl⟩;refine⟨_,rfl,aa (fun d=>?_) (fun d=>?_)⟩
  .exact⟨by rw[show inn b=(lt b||dg b||((b.toNat:Int)==95)) from rfl,c,d];rfl,rfl⟩
  .exact⟨by rw[show inn b=(lt b||dg b||((b.toNat:Int)==95)) from rfl,c,d];rfl,rfl⟩
theorem Bi(s:ByteArray)(h:Heap):Fn Pz 222 #[.string s] h fun v h'=>v=.bool (isName s.data.toList)/\h'=h:=by
 apply PZ;unfold Uk;have eK:=ki s;rw[np];generalize hL:s.data.toList=L at *;refine aa (fun he=>?_) (fun he=>?_)
 .have:L=[]:=bM he;subst this;exact⟨rfl,rfl⟩
 .have bz:L≠[]:=eB he;have fq:0<L.length:=List.length_pos_iff.2 bz;obtain⟨b,hb,zo⟩:=ir (s:=s) (i:=0) (by omega);rw[hL] at hb;have uO:L=b::L.drop 1:=by have:=drop_cons hb;rwa [List.drop_zero] at this
  have LW:isName L=(decide (L.length<=16)&&lt b&&L.all inn):=by
   conv=>lhs;rw[uO]
   rw[isName,<-uO]
  rw[LW];refine aa (fun LP=>?_) (fun LP=>?_)
  .refine⟨?_,rfl⟩;rw[decide_eq_false (by have:=bM LP;omega)];rfl
  .have fR:L.length<=16:=by have:=eB LP;omega
   rw[decide_eq_true fR];refine⟨⟨by omega,by omega⟩,?_⟩;rw[show Int.toNat 0=0 from rfl,zo];refine (p8 _ _).mono ?_;rintro v h3 ⟨rfl,rfl⟩;refine⟨_,rfl,aa (fun nY=>?_) (fun nY=>?_)⟩
   .refine⟨?_,rfl⟩;rw[show lt b=false from by rw[Bool.not_eq_true'] at nY;exact nY];rfl
   .rw[show lt b=true from by rw[Bool.not_eq_false'] at nY;exact nY];refine cQ (n:=s.size) (fun i h'=>h'=h3/\∀(j:Nat) (b:UInt8),j<i->L[j]?=some b->(!inn b)=false) ⟨rfl,fun j b hj=>by omega⟩ ?_;rintro-i h8 hi ⟨rfl,hd⟩;refine aa (fun cG=>?_) (fun Kl=>?_)
    .have uL:=ba cG;obtain⟨y,hy,Ma⟩:=ir uL;rw[hL] at hy;refine⟨⟨by omega,by omega⟩,?_⟩;rw[show Int.toNat (i:Int)=i from rfl,Ma];refine (DY _ _).mono ?_;rintro v xG ⟨rfl,rfl⟩;refine⟨_,rfl,aa (fun hp=>?_) (fun hp=>?_)⟩
     .refine⟨?_,rfl⟩;have:L.all inn=false:=by
       rw[<-Bool.not_eq_true,iV];intro hh;have:=hh y i hy;rw[Bool.not_eq_true'] at hp;rw[show inn y=false from hp] at this;cases this
      rw[this];rfl
     .exact Up.next uL (by omega) ⟨rfl,dn (p:=fun b=>!inn b) hy hp hd⟩
    .have Zc:=bd Kl;refine⟨?_,rfl⟩;rw[(iV inn L).2 fun b j hb=>by simpa using hd j b (by have:=(Ya.1 hb).1;omega) hb];rfl
theorem D3(L:List Nm)(x:ByteArray)(s:Sl)(h:Heap)(hr:RL h 1 s oE L):
  Fn Pz 223 #[.slice s.a s.n s.c,.string x] h fun v h'=>(∃k:Int,v=.int .i64 k/\decide (k>=0)=decide (x.data.toList∈L))/\h'=h:=by
 apply PY;unfold Uj;have hn:=hr.ln;have hm:=hr.sm;refine cQ (n:=s.n) (fun i h'=>h'=h/\∀(j:Nat) (y:Nm),j<i->L[j]?=some y->decide (x.data.toList=y)=false) ⟨rfl,fun j y hj=>by omega⟩ ?_;rintro-i h5 hi ⟨rfl,hd⟩;refine aa (fun l=>?_) (fun l=>?_)
 .replace l:=ba l;refine hr.rw.aF (by omega) (by omega) fun b o d g t=>?_;replace g:L[i]?=some d:=g;refine⟨_,t.hd,?_⟩;rw[np,cH];refine aa (fun he=>?_) (fun bz=>?_)
  .have:=bM he;exact⟨⟨_,rfl,by rw[decide_eq_true (show (i:Int)>=0 by omega),decide_eq_true (by rw[this];exact Yb g)]⟩,rfl⟩
  .exact Up.next l (by omega) ⟨rfl,dn (p:=fun y=>decide (x.data.toList=y)) g bz hd⟩
 .replace l:=bd l;refine⟨⟨_,rfl,?_⟩,rfl⟩;rw[decide_eq_false (show ¬((-1:Int)>=0) by omega),decide_eq_false];intro hm;obtain⟨j,hj⟩:=Yf.1 hm;exact eB (hd j _ (by have:=(Ya.1 hj).1;omega) hj) rfl
theorem EC(L:List Nm)(x:ByteArray)(s:Sl)(h:Heap)(hr:RL h 1 s oE L):
  Fn Pz 161 #[.slice s.a s.n s.c,.string x] h fun v h'=>v=.bool (decide (x.data.toList∈L))/\h'=h:=by
 apply Qt;unfold UM;refine (D3 L x s h hr).mono ?_;rintro v h3 ⟨⟨k,rfl,hk⟩,rfl⟩;exact⟨_,rfl,by rw[hk],rfl⟩
theorem KY{α:Type}{h:Heap}{b:Nat}{e:TypeId}{k:Nat}{cs:α->List Value}{L:List α}{xs:List Value}(hx:xs=(L.map cs).flatten)(ho:Own h b xs e)(hk:∀x,(cs x).length=k)(hl:L.length<=1048576){n c:Nat}(hn:n=L.length)(hc:n<=c):RL h k ⟨some ⟨b,0,none⟩,n,c⟩ cs L:=by
 subst hx;refine⟨⟨by rw[Yc];exact hn,fun _=>⟨b,0,rfl,fun i row hi j v hj=>?_⟩⟩,hc,fun e=>by (cases e),hl⟩;have hr:∀r∈L.map cs,r.length=k:=fun r hr=>by obtain⟨x,_,rfl⟩:=Yp.1 hr;exact hk x
 have Eo:=(Ya.1 hj).1;rw[hr row (Yb hi)] at Eo;rw[ee,Nat.zero_add,ho.hc,getElem?_flatten _ i j row hr hi Eo];exact hj
theorem iK(s:ByteArray)(h:Heap):Fn Pz 160 #[.string s] h fun v h'=>v=.bool (isWord s.data.toList)/\Ext h h':=by
 apply Qu;unfold UN;refine ai (vs:=(eJ.map oE).flatten) rfl fun h2 E o=>?_;refine (Bi s h2).mono ?_;rintro _ h5 ⟨rfl,rfl⟩;refine⟨_,rfl,aa (fun c=>?_) (fun c=>?_)⟩
 .refine⟨by decide,?_⟩;refine (EC eJ s ⟨bg (some ⟨h.size,0,none⟩) (Int.toNat 0) 28 1,Int.toNat (28:Nat)-Int.toNat 0,28-Int.toNat 0⟩ h5 (KY rfl o (fun _=>rfl) (by decide) rfl (by decide))).mono ?_;rintro _ h8 ⟨rfl,rfl⟩;exact⟨_,rfl,by rw[show isWord s.data.toList=(isName s.data.toList && !decide (s.data.toList∈eJ)) from rfl,c];rfl,E⟩
 .exact⟨by rw[show isWord s.data.toList=(isName s.data.toList && !decide (s.data.toList∈eJ)) from rfl,c];rfl,E⟩
end Go.VC
end

section
namespace Go.VC
def a6(n:Int):List Value:=[.int .i64 n]
def wC(w:Nat):List Value:=[.int .u64 w]
end Go.VC
end

section
namespace Go.VC
open Go.RowKit
structure Ev where
 send:Bool
 peer:Int
 label:Int
 deriving DecidableEq
def Ev.cs(x:Ev):List Value:=[.bool x.send,.int .i64 x.peer,.int .i64 x.label]
structure Ar where
 x:Ev
 to:Int
def Ar.cs(a:Ar):List Value:=[.bool a.x.send,.int .i64 a.x.peer,.int .i64 a.x.label,.int .i64 a.to]
def fB(s:Sl):List Value:=[.slice s.a s.n s.c]
def bm(role:Int)(x:Ed):Option Ev:=if role=x.a then some ⟨true,x.b,x.l⟩ else if role=x.b then some ⟨false,x.a,x.l⟩ else none
def nD(es:List Ed)(role:Int)(n:Nat):List Int:=es.filterMap fun x=>if x.f=(n:Int) then (match bm role x with | none=>some x.t | some _=>none) else none
def gB(es:List Ed)(role:Int)(n:Nat):List Ar:=es.filterMap fun x=>if x.f=(n:Int) then (bm role x).map fun e=>⟨e,x.t⟩ else none
def nest{α:Type}(e:TypeId)(k:Nat)(cs:α->List Value)(q:Sl × List α):It:=.sl q.1 e k (q.2.map cs)
theorem yk{α:Type}{P R Q:List α}{i:Nat}(hi:i<Q.length)(x:α):(P++Q++R).set (P.length+i) x=P++Q.set i x++R:=by
 rw[Yz,List.set_append_right _ _ (by omega),Nat.add_sub_cancel_left,List.set_append_left _ _ hi,Yz]
theorem rV{α:Type}{P R Q:List α}{i:Nat}(hi:i<Q.length):(P++Q++R)[P.length+i]?=Q[i]?:=by
 rw[Yz,qJ (by omega),Nat.add_sub_cancel_left,jw hi]
theorem St.nL{α:Type}{P:Program}{h0 h:Heap}{A B:List It}{Q:List (Sl × List α)}{e:TypeId}{n:Nat}{cs:α->List Value}(hs:St h0 h (A++Q.map (nest e n cs)++B)){i:Nat}{q:Sl × List α}(hi:Q[i]?=some q)
  {t bytes:Nat} (hT:cn P t e n bytes=true) (d:α) {a:Addr} (ha:a8 h a (cs d)) (hn:(cs d).length=n) (h1:(cs d).all fF=true) (hb:(q.1.n+1)*bytes<=140737488355328) (qm:q.1.n+1<=maxLen)
  {K:Sl->Heap->Prop} (hK:∀(r:Sl) (h':Heap),r.n=q.1.n+1->St h0 h' (A++(Q.set i (r,q.2++[d])).map (nest e n cs)++B)->K r h') :
  App P t t (.slice q.1.a q.1.n q.1.c) (.slice (some a) 1 1) h K:=by
 have wh:i<Q.length:=(Ya.1 hi).1;have Ep:i<(Q.map (nest e n cs)).length:=by rw[Yc];exact wh
 refine hs.appended (A.length+i) (rows:=q.2.map cs) (by rw[rV Ep,Yd,hi];rfl) hT (news:=[cs d]) (by simpa using ha) rfl (fun r hr=>by rw[Ye] at hr;rw[hr];exact hn) (by simpa using h1) hb qm fun r h' uG h3=>hK r h' uG ?_;rw[yk Ep] at h3;have e1:(Q.map (nest e n cs)).set i (.sl r e n (q.2.map cs++[cs d]))=(Q.set i (r,q.2++[d])).map (nest e n cs):=by
  rw[List.map_set];congr 1;unfold nest;simp
 rw[e1] at h3;exact h3
theorem St.ak{h0 h:Heap}{L:List It}(hs:St h0 h L){xs:List Value}{e:TypeId}{K:Heap->Prop}(hK:∀h2,Ext h h2->St h0 h2 (.af h.size xs e::L)->K h2):∀h2:Heap,h2=h.push (.cells ⟨xs⟩ e)->K h2:=
 VC.aq fun h2 E o=>hK h2 E (hs.more E (i:=.af h.size xs e) o fun b hb=>by cases hb;exact aY _)
theorem St.perm{h0 h:Heap}{L L':List It}(hs:St h0 h L)(hp:L.Perm L'):St h0 h L':=
 ⟨hs.ext,fun i hi=>hs.ok i (hp.mem_iff.2 hi),(hp.pairwise_iff (fun {a b} iO x hx hy=>iO x hy hx)).1 hs.ap⟩
theorem St.tS{α:Type}{h0 h:Heap}{A B:List It}{e:TypeId}{k:Nat}{cs:α->List Value}(hs:St h0 h (A++B)):∀n:Nat,St h0 h (A++(List.replicate n ((⟨.none,0,0⟩,[]):Sl × List α)).map (nest e k cs)++B)
 | 0=>by simpa using hs
 | n+1=>by
  have h1:=(hs.tS (α:=α) (e:=e) (k:=k) (cs:=cs) n).cN e k;refine h1.perm ?_;rw[List.replicate_succ,kf,Yz,Yz];have:nest e k cs ((⟨.none,0,0⟩,[]):Sl × List α)=.sl ⟨.none,0,0⟩ e k []:=rfl;rw[this];exact List.perm_middle.symm
theorem lu{h h':Heap}:Sm [] h h':=fun a ha=>by cases ha
theorem fT{h h':Heap}{a:Addr}{al:List Addr}(hb:h'[a.block]?=h[a.block]?)(hr:Sm al h h'):Sm (a::al) h h':=by
 intro x hx k v hv;rcases Yr.1 hx with rfl | hx
 .rw[dI (h:=h) (by rw[dM];exact hb)];exact hv
 .exact hr x hx k v hv
theorem St.same{h0 h h':Heap}{L L':List It}(hs:St h0 h L)(dW:St h0 h' L')(k k':Nat){b:Nat}{xs:List Value}{e:TypeId}(hk:L[k]?=some (.af b xs e))(mX:L'[k']?=some (.af b xs e)):h'[b]?=h[b]?:=(dW.get mX).trans (hs.get hk).symm
end Go.VC
end

section
namespace Go.VC
theorem Ia{α β:Type}(f:α->β)(L:List α)(i:Nat):(L.map f)[i]?=(L[i]?).map f:=Yd
theorem fW{α:Type}(f:α->Value){L:List α}{i:Nat}(hi:i<L.length)(y:α):ay (L.map f) i [f y]=(L.set i y).map f:=by
 unfold ay;rw[List.map_set,List.set_eq_take_append_cons_drop,if_pos (by rw[Yc];exact hi)];simp
inductive Qr (es:List Ed) (role:Int) (l:List Int):Int->Prop where
 | base {a:Int}:a∈l->Qr es role l a
 | step {a b:Int}:Qr es role l a->(∃x∈es,bm role x=none/\x.f=a/\x.t=b)->Qr es role l b
structure CL (es:List Ed) (role:Int) (n:Nat) (l:List Int) (D:List Bool) (T:List Int):Prop where
 len:D.length=n
 Cw:T.length=D.count true
 mem:∀v,v∈T ↔ 0<=v/\D[v.toNat]?=some true
 r:∀v∈T,Qr es role l v
theorem CL.start(es:List Ed)(role:Int)(n:Nat)(l:List Int):CL es role n l (List.replicate n false) []:=by
 refine⟨by rw[Yg],by rw[List.count_replicate];rfl,fun v=>⟨fun h=>(by cases h),fun ⟨_,h⟩=>?_⟩,fun v h=>by cases h⟩;have:=List.eq_of_mem_replicate (Yb h);cases this
theorem CL.push{es:List Ed}{role:Int}{n:Nat}{l:List Int}{D:List Bool}{T:List Int}(h:CL es role n l D T){b:Int}(h0:0<=b)(hb:D[b.toNat]?=some false)(hr:Qr es role l b):CL es role n l (D.set b.toNat true) (T++[b]):=by
 have BD:=(Ya.1 hb).1;have II:=(Ya.1 hb).2;refine⟨by rw[mF];exact h.len,?_,fun v=>?_,fun v hv=>?_⟩
 .rw[List.count_set BD,II,Yh,h.Cw];rfl
 .rw[Yk,Ye,h.mem];constructor
  .rintro (⟨h1,h2⟩ | rfl)
   .refine⟨h1,?_⟩;by_cases e:b.toNat=v.toNat
    .rw[e,Yq (by omega)]
    .rw[Yy e];exact h2
   .exact⟨h0,by rw[Yq BD]⟩
  .rintro⟨h1,h2⟩;by_cases e:b.toNat=v.toNat
   .right;omega
   .left;rw[Yy e] at h2;exact⟨h1,h2⟩
 .rcases Yk.1 hv with hv | hv
  .exact h.r v hv
  .rw[Ye] at hv;rw[hv];exact hr
theorem CL.le{es:List Ed}{role:Int}{n:Nat}{l:List Int}{D:List Bool}{T:List Int}(h:CL es role n l D T):T.length<=n:=by
 rw[h.Cw,<-h.len];exact List.count_le_length
theorem nC{es:List Ed}{role:Int}{n:Nat}{b:Int}:b∈nD es role n ↔ ∃x∈es,bm role x=none/\x.f=n/\x.t=b:=by
 unfold nD;rw[Wl];constructor
 .rintro⟨x,hx,h⟩;split at h
  .rename_i hf;cases hv:bm role x with
   | none=>rw[hv] at h;exact⟨x,hx,hv,hf,eU h⟩
   | some e=>rw[hv] at h;cases h
  .cases h
 .rintro⟨x,hx,hv,hf,rfl⟩;exact⟨x,hx,by rw[if_pos hf,hv]⟩
theorem CL.end_{es:List Ed}{role:Int}{n:Nat}{l:List Int}{D:List Bool}{T:List Int}(h:CL es role n l D T)(hl:∀x∈l,x∈T)(hc:∀v∈T,∀b∈nD es role v.toNat,b∈T)(v:Int):v∈T ↔ Qr es role l v:=by
 refine⟨h.r v,fun hq=>?_⟩
 induction hq with
 | base hm=>exact hl _ hm
 | @step a b _ hx ih=>
  obtain⟨x,hx,hv,hf,rfl⟩:=hx;exact hc _ ih _ (nC.2 ⟨x,hx,hv,by have:=((h.mem a).1 ih).1;omega,rfl⟩)
noncomputable def oM(es:List Ed)(role:Int)(l:List Int):Nat->Bool:=fun j=>by classical exact decide (Qr es role l (j:Int))
theorem fh{es:List Ed}{role:Int}{l:List Int}{j:Nat}:oM es role l j=true ↔ Qr es role l (j:Int):=by unfold oM;simp
def bK(x y:Int):Int:=if x<y then -1 else if x>y then 1 else 0
def di(x y:Int):Int:=if x≠0 then x else y
def pI(x y:Ev):Int:=if x.send≠y.send then (if x.send then -1 else 1) else di (bK x.peer y.peer) (bK x.label y.label)
def dJ(x y:Ev):Prop:=(x.send=true/\y.send=false)\/(x.send=y.send/\(x.peer<y.peer\/(x.peer=y.peer/\x.label<y.label)))
instance (x y:Ev):Decidable (dJ x y):=by unfold dJ;infer_instance
theorem kS{x y:Ev}:pI x y<0 ↔ dJ x y:=by
 unfold pI dJ di bK;obtain⟨s,p,l⟩:=x;obtain⟨t,q,m⟩:=y;cases s<;>cases t<;>simp<;>(repeat' split)<;>omega
theorem iq(x:Ev):¬dJ x x:=by unfold dJ;intro h;rcases h with ⟨h1,h2⟩ | ⟨_,h | ⟨_,h⟩⟩<;>first | (rw[h1] at h2;cases h2) | omega
theorem eO{x y z:Ev}(h1:dJ x y)(h2:dJ y z):dJ x z:=by
 unfold dJ at *;obtain⟨s,p,l⟩:=x;obtain⟨t,q,m⟩:=y;obtain⟨u,r,n⟩:=z;cases s<;>cases t<;>cases u<;>simp_all<;>omega
theorem ve(x y:Ev):dJ x y\/x=y\/dJ y x:=by
 unfold dJ;obtain⟨s,p,l⟩:=x;obtain⟨t,q,m⟩:=y;cases s<;>cases t<;>simp<;>omega
def aJ:List Ev->List Ev
 | []=>[]
 | x::r=>match aJ r with
  | []=>[x]
  | y::t=>if x=y then y::t else x::y::t
theorem ec:∀(l:List Ev) (x:Ev),x∈aJ l ↔ x∈l
 | [],x=>by simp[aJ]
 | a::r,x=>by
  have ih:=ec r;rw[aJ];split
  .rename_i h;rw[h] at ih;have:=ih x
   simp_all
  .rename_i y t h;rw[h] at ih;have h1:=ih x;split
   .rename_i e;subst e;have h2:=(ih a).1 (by simp);rw[h1];simp only[Yr];constructor
    .exact .inr
    .rintro (rfl | h)
     .exact h2
     .exact h
   .rw[Yr,h1,Yr]
theorem gn:∀(l:List Ev),l.Pairwise (fun a b=>¬dJ b a)->(aJ l).Pairwise dJ
 | [],_=>by simp[aJ]
 | a::r,h=>by
  obtain⟨h1,h2⟩:=List.pairwise_cons.1 h;have ih:=gn r h2;rw[aJ];split
  .simp
  .rename_i y t hc;rw[hc] at ih;split
   .exact ih
   .rename_i bz;refine List.pairwise_cons.2 ⟨fun z hz=>?_,ih⟩;have hay:dJ a y:=by
     have hy:y∈r:=(ec r y).1 (by rw[hc];simp);rcases ve a y with h3 | h3 | h3
     .exact h3
     .exact absurd h3 bz
     .exact absurd h3 (h1 y hy)
    rcases Yr.1 hz with rfl | hz
    .exact hay
    .exact eO hay ((List.pairwise_cons.1 ih).1 z hz)
theorem jC:∀(l m:List Ev),l.Pairwise dJ->m.Pairwise dJ->(∀x,x∈l ↔ x∈m)->l=m
 | [],[],_,_,_=>rfl
 | [],b::m,_,_,h=>absurd ((h b).2 (by simp)) (by simp)
 | a::l,[],_,_,h=>absurd ((h a).1 (by simp)) (by simp)
 | a::l,b::m,hl,hm,h=>by
  obtain⟨h1,h2⟩:=List.pairwise_cons.1 hl;obtain⟨h3,h4⟩:=List.pairwise_cons.1 hm;have iO:a=b:=by
   rcases Yr.1 ((h a).1 (by simp)) with e | ha
   .exact e
   .rcases Yr.1 ((h b).2 (by simp)) with e | hb
    .exact e.symm
    .exact absurd (eO (h1 b hb) (h3 a ha)) (iq a)
  subst iO;congr 1;refine jC l m h2 h4 fun x=>?_;have hx:=h x;rw[Yr,Yr] at hx;constructor
  .intro gL;rcases hx.1 (.inr gL) with rfl | h5
   .exact absurd (h1 x gL) (iq x)
   .exact h5
  .intro gL;rcases hx.2 (.inr gL) with rfl | h5
   .exact absurd (h3 x gL) (iq x)
   .exact h5
def mN(x:Ev):List Ev->List Ev
 | []=>[x]
 | y::r=>if dJ y x then y::mN x r else if x=y then y::r else x::y::r
theorem nV(x z:Ev):∀l:List Ev,z∈mN x l ↔ z=x\/z∈l
 | []=>by simp[mN]
 | y::r=>by
  rw[mN];split
  .rw[Yr,nV x z r,Yr];constructor
   .rintro (h | h | h)
    .exact .inr (.inl h)
    .exact .inl h
    .exact .inr (.inr h)
   .rintro (h | h | h)
    .exact .inr (.inl h)
    .exact .inl h
    .exact .inr (.inr h)
  .split
   .rename_i e;subst e;simp
   .simp
theorem me(x:Ev):∀l:List Ev,l.Pairwise dJ->(mN x l).Pairwise dJ
 | [],_=>by simp[mN]
 | y::r,h=>by
  obtain⟨h1,h2⟩:=List.pairwise_cons.1 h;rw[mN];split
  .rename_i X4;refine List.pairwise_cons.2 ⟨fun z hz=>?_,me x r h2⟩;rcases (nV x z r).1 hz with rfl | hz
   .exact X4
   .exact h1 z hz
  .split
   .exact h
   .rename_i X4 bz;have J5:dJ x y:=by
     rcases ve x y with h3 | h3 | h3
     .exact h3
     .exact absurd h3 bz
     .exact absurd h3 X4
    refine List.pairwise_cons.2 ⟨fun z hz=>?_,h⟩;rcases Yr.1 hz with rfl | hz
    .exact J5
    .exact eO J5 (h1 z hz)
def gS(l:List Ev):List Ev:=l.foldr mN []
theorem iz(l:List Ev)(x:Ev):x∈gS l ↔ x∈l:=by
 unfold gS
 induction l with
 | nil=>simp
 | cons a l ih=>rw[List.foldr_cons,nV,ih,Yr]
theorem cT(l:List Ev):(gS l).Pairwise dJ:=by
 unfold gS
 induction l with
 | nil=>simp
 | cons a l ih=>exact me a _ ih
theorem pH{l l':List Ev}(hp:l'.Perm l)(hs:l'.Pairwise fun a b=>¬dJ b a):aJ l'=gS l:=
 jC _ _ (gn l' hs) (cT l) fun x=>by rw[ec,iz,hp.mem_iff]
def elems(p:Nat->Bool):List Nat:=(List.range 4096).filter p
theorem ez{p:Nat->Bool}{j:Nat}:j∈elems p ↔ j<4096/\p j=true:=by unfold elems;rw[List.mem_filter,List.mem_range]
def toL(es:List Ed)(role:Int)(p:Nat->Bool)(x:Ev):List Int:=(elems p).flatMap fun n=>(gB es role n).filterMap fun a=>if a.x=x then some a.to else none
def MM(es:List Ed)(role:Int)(p:Nat->Bool):List Ev:=(elems p).flatMap fun n=>(gB es role n).map (·.x)
def zz(es:List Ed)(role:Int)(p:Nat->Bool):List Ev:=gS (MM es role p)
end Go.VC
end

section
namespace Go.VC
structure Mv where
 f:Int
 send:Bool
 peer:Int
 label:Int
 t:Int
 ag:Bool
 deriving DecidableEq
def Mv.cs(m:Mv):List Value:=[.int .i64 m.f,.bool m.send,.int .i64 m.peer,.int .i64 m.label,.int .i64 m.t,.bool m.ag]
abbrev dv:=Nat->Bool
open Classical in
noncomputable def Q6:List dv->dv->Nat
 | [],_=>0
 | q::r,p=>if q=p then 0 else Q6 r p+1
open Classical in
noncomputable def XE(S:List dv)(p:dv):List dv:=if p∈S then S else S++[p]
noncomputable def zJ(es:List Ed)(role:Int)(i:Nat)(p:dv):List Ev->List dv->List Mv->List dv × List Mv
 | [],S,M=>(S,M)
 | x::r,S,M=>zJ es role i p r (XE S (oM es role (toL es role p x))) (M++[⟨i,x.send,x.peer,x.label,Q6 S (oM es role (toL es role p x)),false⟩])
noncomputable def CG(es:List Ed)(role:Int):Nat->Nat->List dv->List Mv->Option (List dv × List Mv)
 | 0,_,_,_=>none
 | f+1,i,S,M=>match S[i]? with
  | none=>some (S,M)
  | some p=>if (zJ es role i p (zz es role p) S M).1.length>200 then none else CG es role f (i+1) (zJ es role i p (zz es role p) S M).1 (zJ es role i p (zz es role p) S M).2
noncomputable def views(g:Gl)(role:Int):Option (List dv × List Mv):=CG g.es role 202 0 [oM g.es role [g.s]] []
end Go.VC
end

section
namespace Go.VC
structure Ti where
 ag:Bool
 k:Int
 x:Ev
 deriving DecidableEq
def Ti.cs(t:Ti):List Value:=[.bool t.ag,.int .i64 t.k,.bool t.x.send,.int .i64 t.x.peer,.int .i64 t.x.label]
def ti0:Ti:=⟨false,0,⟨false,0,0⟩⟩
def QW(T:List Ti)(n:Nat)(f:Ti->Ti):List Ti:=match T[n]? with | some t=>T.set n (f t) | none=>T
def XM(role:Int)(s:List Bool × List Ti)(x:Ed):List Bool × List Ti:=
 if x.a=role then (s.1.set x.f.toNat true,QW s.2 x.f.toNat fun t=>{ t with ag:=x.ag }) else s
def XL(es:List Ed)(O:List Bool)(T:List Ti)(t:To):List Ti:=
 match O[t.s.toNat]?,es[t.e.toNat]? with
 | some true,some x=>QW T t.s.toNat fun q=>⟨q.ag,t.k,⟨true,x.b,x.l⟩⟩
 | _,_=>T
def KZ(es:List Ed)(role:Int)(n:Nat):List Bool × List Ti:=es.foldl (XM role) (List.replicate n false,List.replicate n ti0)
def XK(es:List Ed)(ts:List To)(role:Int)(n:Nat):List Ti:=ts.foldl (XL es (KZ es role n).1) (KZ es role n).2
def eE(L:List Ev)(i:Nat):Bool:=match L[i]? with | some x=>x.send | none=>false
def aao(F:Nat->List Ev)(en:Nat->Bool)(l:List Nat)(n:Nat):Bool:=eE (F n) 0&&(en n || !eE (F n) ((F n).length-1)||l.any fun k=>en k||decide (F n≠F k))
def Q4(F:Nat->List Ev)(en:Nat->Bool)(O:List Bool)(T:List Ti)(l:List Nat)(st:Option (Bool × Ti))(n:Nat):Option (Bool × Ti):=
 match st with
 | none=>none
 | some (k,o)=>if aao F en l n then none else match O[n]?,T[n]? with
  | some true,some t=>if k&&decide (t≠o) then none else some (true,t)
  | _,_=>some (k,o)
def Pl(F:Nat->List Ev)(en:Nat->Bool)(O:List Bool)(T:List Ti)(l:List Nat):Option Ti:=(l.foldl (Q4 F en O T l) (some (false,ti0))).map Prod.snd
structure kY where
 role:Int
 n:Int
 s:Int
 fin:List Bool
 mv:List Mv
 li:List To
def Xt(n:Nat)(x:Ti)(y:Mv):Mv:=if y.f=n/\y.send=true then { y with ag:=x.ag } else y
def XZ(n:Nat)(x:Ti)(q:Mv × Nat):Option To:=if q.1.f=n/\q.1.send=true/\x.k>0/\x.x=⟨true,q.1.peer,q.1.label⟩ then some ⟨n,x.k,q.2⟩ else none
def XY(n:Nat)(x:Ti)(M:List Mv):List To:=M.zipIdx.filterMap (XZ n x)
def Q8(vw:List Nat->Option Ti):Nat->List dv->List Mv->List To->Option (List Mv × List To)
 | _,[],M,L=>some (M,L)
 | n,p::S,M,L=>match vw (elems p) with
  | none=>none
  | some x=>Q8 vw (n+1) S (M.map (Xt n x)) (L++XY n x M)
end Go.VC
end

section
namespace Go.VC
section
variable {K K':Type} [DecidableEq K] [DecidableEq K']
end
structure Sg where
 b:Int
 k:Int
 x:Ev
 ag:Bool
 num:Int
 deriving DecidableEq
def Sg.v(s:Sg):Value:=.agg ⟨[.int .i64 s.b,.int .i64 s.k,.bool s.x.send,.int .i64 s.x.peer,.int .i64 s.x.label,.bool s.ag,.int .i64 s.num]⟩
def Mv.ev(x:Mv):Ev:=⟨x.send,x.peer,x.label⟩
end Go.VC
end

section
namespace Go.VC
open Go.Proofs Go.LexS
namespace M
theorem cy(L:List Int):∀r∈L.map a6,r.length=1:=fun r hr=>by obtain⟨x,_,rfl⟩:=Yp.1 hr;rfl
end M
variable [ax]
namespace M
theorem nM(x:Int)(h:Heap):Fn Pz 111 #[.int .i64 x] h fun v h'=>v=.bool false/\h'=h:=by
 apply CI;unfold FY;exact⟨by rw[bne_self_eq_false],rfl⟩
theorem dh(x y:Int)(h:Heap):Fn Pz 54 #[.int .i64 x,.int .i64 y] h fun v h'=>v=.int .i64 (bK x y)/\h'=h:=by
 apply KL;unfold TI;refine (nM x h).mono ?_;rintro _ _ ⟨rfl,rfl⟩;refine⟨_,rfl,?_⟩;refine (nM y _).mono ?_;rintro _ _ ⟨rfl,rfl⟩;refine⟨_,rfl,?_⟩;refine iX rfl (iX rfl ?_);unfold bK;refine aQ (fun c=>?_) (fun c=>aQ (fun d=>?_) (fun d=>?_))
 .exact⟨by rw[if_pos c],rfl⟩
 .exact⟨by rw[if_neg c,if_pos d],rfl⟩
 .exact⟨by rw[if_neg c,if_neg d],rfl⟩
theorem nI(l:List Int)(s:Sl)(h:Heap)(hr:Rw h 1 s (l.map a6))(hm:l.length<=1048576):
  Fn Pz 53 #[.slice s.a s.n s.c] h fun v h'=>v=.int .i64 (l.foldr di 0)/\h'=h:=by
 apply KM;unfold TJ;have hn:=hr.ln;refine cQ (n:=s.n) (fun i h'=>h'=h/\l.foldr di 0=(l.drop i).foldr di 0) ⟨rfl,rfl⟩ ?_;rintro-i h5 hi ⟨rfl,hq⟩;refine aa (fun l2=>?_) (fun l2=>?_)
 .replace l2:=ba l2;refine hr.aF (by omega) (by omega) fun b o d g t=>?_;replace g:l[i]?=some d:=g;have hd:l.drop i=d::l.drop (i+1):=by
   obtain⟨hl,he⟩:=Ya.1 g;rw[List.drop_eq_getElem_cons hl,he]
  rw[hd,List.foldr_cons] at hq;refine⟨_,t.hd,?_⟩;refine iC (fun c=>?_) (fun c=>?_)
  .refine⟨?_,rfl⟩;rw[hq];unfold di;rw[if_pos c]
  .refine Up.next l2 (by omega) ⟨rfl,?_⟩;rw[hq];unfold di;rw[if_neg (by omega)]
 .replace l2:=bd l2;rw[List.drop_eq_nil_of_le (by omega)] at hq;exact⟨by rw[hq];rfl,rfl⟩
end M
end Go.VC
end

section
namespace Go.VC
open Go.Proofs Go.LexS
structure Ms where
 p:Int
 l:Int
 deriving DecidableEq
def Ms.cs(x:Ms):List Value:=[.int .i64 x.p,.int .i64 x.l]
structure Ac where
 a:Int
 b:Int
 l:Int
 deriving DecidableEq
def Ac.cs(x:Ac):List Value:=[.int .i64 x.a,.int .i64 x.b,.int .i64 x.l]
def Ed.act(x:Ed):Ac:=⟨x.a,x.b,x.l⟩
def vp(x y:Ms):Int:=di (bK x.p y.p) (di (bK x.l y.l) 0)
def Ji(x y:Ac):Int:=di (bK x.a y.a) (di (bK x.b y.b) (di (bK x.l y.l) 0))
def oo(x y:Ed):Int:=Ji x.act y.act
def dP(x y:Ms):Prop:=x.p<y.p\/(x.p=y.p/\x.l<y.l)
instance (x y:Ms):Decidable (dP x y):=by unfold dP;infer_instance
def acLt(x y:Ac):Prop:=x.a<y.a\/(x.a=y.a/\(x.b<y.b\/(x.b=y.b/\x.l<y.l)))
instance (x y:Ac):Decidable (acLt x y):=by unfold acLt;infer_instance
theorem iR{x y:Ms}:vp x y<0 ↔ dP x y:=by
 unfold vp dP di bK
 repeat' split
 all_goals omega
theorem kT{x y:Ac}:Ji x y<0 ↔ acLt x y:=by
 unfold Ji acLt di bK
 repeat' split
 all_goals omega
variable [ax]
namespace M
theorem mz(x y:Ev)(h:Heap):Fn Pz 185 #[.agg ⟨x.cs⟩,.agg ⟨y.cs⟩] h fun v h'=>v=.int .i64 (pI x y)/\Ext h h':=by
 apply CH x.send x.peer x.label y.send y.peer y.label;unfold FX;have hs:=St.refl h;refine hs.aq fun h7 hs=>?_;refine hs.aq fun h8 hs=>?_;refine⟨_,hs.rd 1 rfl rfl,?_⟩;refine⟨_,hs.rd 0 rfl rfl,?_⟩;refine aa (fun c=>?_) (fun c=>?_)
 .have bz:x.send≠y.send:=by simpa using c
  refine⟨_,hs.rd 1 rfl rfl,?_⟩;unfold pI;rw[if_pos bz];refine aa (fun d=>?_) (fun d=>?_)
  .exact⟨by rw[if_pos d],hs.ext⟩
  .exact⟨by rw[if_neg (by rw[d];simp)],hs.ext⟩
 .have he:x.send=y.send:=by simpa using c
  refine⟨_,hs.rd 1 rfl rfl,_,hs.rd 0 rfl rfl,_,hs.rd 1 rfl rfl,_,hs.rd 0 rfl rfl,?_⟩;refine (dh _ _ _).mono ?_;rintro _ _ ⟨rfl,rfl⟩;refine⟨_,rfl,fun _ _ _ _ hv=>hv,?_⟩;refine (dh _ _ _).mono ?_;rintro _ _ ⟨rfl,rfl⟩;refine⟨_,rfl,fun _ _ _ _ hv=>hv,?_⟩;refine hs.aq fun fK hs=>?_;have cp:=hs.fx 2 1 ([bK x.peer y.peer,bK x.label y.label].map a6) rfl (cy _) rfl (by decide);refine (nI [bK x.peer y.peer,bK x.label y.label] _ fK (cp.rows 0 rfl (by omega)) (show 2<=1048576 by decide)).mono ?_;rintro _ _ ⟨rfl,rfl⟩;refine⟨_,rfl,?_,hs.ext⟩;unfold pI;rw[if_neg (by simpa using he)];show Value.int .i64 (di _ (di _ 0))=_;congr 1;unfold di;split
  .rfl
  .split<;>omega
theorem Jg(x y:Ms)(h:Heap):Fn Pz 70 #[.agg ⟨x.cs⟩,.agg ⟨y.cs⟩] h fun v h'=>v=.int .i64 (vp x y)/\Ext h h':=by
 apply W7 x.p x.l y.p y.l;unfold W70;have hs:=St.refl h;refine hs.aq fun h7 hs=>?_;refine hs.aq fun h8 hs=>?_;refine⟨_,hs.rd 1 rfl rfl,_,hs.rd 0 rfl rfl,_,hs.rd 1 rfl rfl,_,hs.rd 0 rfl rfl,?_⟩;refine (dh _ _ _).mono ?_;rintro _ _ ⟨rfl,rfl⟩;refine⟨_,rfl,fun _ _ _ _ hv=>hv,?_⟩;refine (dh _ _ _).mono ?_;rintro _ _ ⟨rfl,rfl⟩;refine⟨_,rfl,fun _ _ _ _ hv=>hv,?_⟩;refine hs.aq fun fK hs=>?_;have cp:=hs.fx 2 1 ([bK x.p y.p,bK x.l y.l].map a6) rfl (cy _) rfl (by decide);refine (nI [bK x.p y.p,bK x.l y.l] _ fK (cp.rows 0 rfl (by omega)) (show 2<=1048576 by decide)).mono ?_;rintro _ _ ⟨rfl,rfl⟩;exact⟨_,rfl,rfl,hs.ext⟩
theorem Dt(x y:Ac)(h:Heap):Fn Pz 130 #[.agg ⟨x.cs⟩,.agg ⟨y.cs⟩] h fun v h'=>v=.int .i64 (Ji x y)/\Ext h h':=by
 apply QJ x.a x.b x.l y.a y.b y.l;unfold U4;have hs:=St.refl h;refine hs.aq fun h7 hs=>?_;refine hs.aq fun h8 hs=>?_;refine⟨_,hs.rd 1 rfl rfl,_,hs.rd 0 rfl rfl,_,hs.rd 1 rfl rfl,_,hs.rd 0 rfl rfl,_,hs.rd 1 rfl rfl,_,hs.rd 0 rfl rfl,?_⟩;refine (dh _ _ _).mono ?_;rintro _ _ ⟨rfl,rfl⟩;refine⟨_,rfl,fun _ _ _ _ hv=>hv,?_⟩;refine (dh _ _ _).mono ?_;rintro _ _ ⟨rfl,rfl⟩;refine⟨_,rfl,fun _ _ _ _ hv=>hv,?_⟩;refine (dh _ _ _).mono ?_;rintro _ _ ⟨rfl,rfl⟩;refine⟨_,rfl,fun _ _ _ _ hv=>hv,?_⟩;refine hs.aq fun fK hs=>?_;have cp:=hs.fx 3 1 ([bK x.a y.a,bK x.b y.b,bK x.l y.l].map a6) rfl (cy _) rfl (by decide);refine (nI [bK x.a y.a,bK x.b y.b,bK x.l y.l] _ fK (cp.rows 0 rfl (by omega)) (show 3<=1048576 by decide)).mono ?_;rintro _ _ ⟨rfl,rfl⟩;exact⟨_,rfl,rfl,hs.ext⟩
theorem Jh(x y:Ed)(h:Heap):Fn Pz 129 #[.agg ⟨x.cs⟩,.agg ⟨y.cs⟩] h fun v h'=>v=.int .i64 (oo x y)/\Ext h h':=by
 apply QK x.f x.a x.b x.l x.t x.ag y.f y.a y.b y.l y.t y.ag;unfold U5;have hs:=St.refl h;refine hs.aq fun h7 hs=>?_;refine hs.aq fun h8 hs=>?_;refine⟨x.a,x.b,x.l,hs.at 1 rfl (o:=1) (n:=3) rfl,y.a,y.b,y.l,hs.at 0 rfl (o:=1) (n:=3) rfl,?_⟩;refine (Dt x.act y.act h8).mono ?_;rintro _ qt ⟨rfl,E⟩;exact⟨_,rfl,rfl,(hs.step E).ext⟩
end M
end Go.VC
end

section
namespace Go.VC
def setOf(L:List Nat):dv:=fun j=>decide (j∈L)
def Can(n:Nat)(L:List Nat):Prop:=L=(List.range n).filter fun j=>decide (j∈L)
theorem Can.mk(n:Nat)(p:Nat->Bool):Can n ((List.range n).filter p):=by
 unfold Can;apply List.filter_congr;intro x hx;by_cases hm:x∈(List.range n).filter p
 .rw[decide_eq_true hm];exact (List.mem_filter.1 hm).2
 .rw[decide_eq_false hm];cases hp:p x
  .rfl
  .exact absurd (List.mem_filter.2 ⟨hx,hp⟩) hm
theorem Can.lt{n:Nat}{L:List Nat}(h:Can n L):∀j∈L,j<n:=by
 intro j hj;rw[h,List.mem_filter,List.mem_range] at hj;exact hj.1
theorem vf{n:Nat}{L:List Nat}(h:Can n L)(hn:n<=4096):elems (setOf L)=L:=by
 unfold elems;have e:List.range 4096=List.range n++(List.range (4096-n)).map (n + ·):=by rw[<-List.range_add];congr 1;omega
 rw[e,List.filter_append];have e2:((List.range (4096-n)).map (n + ·)).filter (setOf L)=[]:=by
  rw[List.filter_eq_nil_iff];intro x hx;obtain⟨y,_,rfl⟩:=Yp.1 hx;unfold setOf;simp only[decide_eq_true_eq];intro hm;have:=h.lt _ hm;omega
 rw[e2,Yw];exact h.symm
def MK(es:List Ed)(role:Int)(L:List Nat):List Ev:=gS (L.flatMap fun n=>(gB es role n).map (·.x))
theorem BO{n:Nat}{L:List Nat}(h:Can n L)(hn:n<=4096)(es:List Ed)(role:Int):zz es role (setOf L)=MK es role L:=by unfold zz MM MK;rw[vf h hn]
def aax(es:List Ed)(role:Int)(L:List Nat):List Nat:=es.foldl (fun L x=>if (bm role x).isNone&&decide (x.f.toNat∈L) && !decide (x.t.toNat∈L) then L++[x.t.toNat] else L) L
def Np(es:List Ed)(role:Int):Nat->List Nat->List Nat
 | 0,L=>L
 | f+1,L=>Np es role f (aax es role L)
def XO(es:List Ed)(role:Int)(l:List Int)(L:List Nat):Bool:=
 l.all (fun v=>decide (0<=v)&&decide (v.toNat∈L))&&es.all (fun x=>!(bm role x).isNone || !decide (x.f.toNat∈L)||decide (x.t.toNat∈L)) &&
  (List.range L.length).all fun i=>match L[i]? with
   | some j=>l.any (fun v=>decide (v=(j:Int)))||es.any fun x=>(bm role x).isNone&&decide (x.f.toNat∈L.take i)&&decide (x.t=(j:Int))
   | none=>false
theorem yt{es:List Ed}{role:Int}{l:List Int}{L:List Nat}(BB:∀x∈es,0<=x.f/\0<=x.t)(h:XO es role l L=true)(j:Nat):oM es role l j=decide (j∈L):=by
 unfold XO at h;simp only[Yt,List.all_eq_true,List.mem_range] at h;obtain⟨⟨h1,h2⟩,h3⟩:=h;have fwd:∀a:Int,Qr es role l a->0<=a/\a.toNat∈L:=by
  intro a ha
  induction ha with
  | base hm=>have:=h1 _ hm;simpa using this
  | step _ hx ih=>
   obtain⟨x,hx,hv,hf,rfl⟩:=hx;refine⟨(BB x hx).2,?_⟩;have:=h2 x hx;simp only[Bool.or_eq_true,Bool.not_eq_true',decide_eq_false_iff_not,decide_eq_true_eq] at this;rcases this with (h4 | h4) | h4
   .rw[hv] at h4;cases h4
   .exact absurd (by rw[hf];exact ih.2) h4
   .exact h4
 have bwd:∀i,i<=L.length->∀j∈L.take i,Qr es role l (j:Int):=by
  intro i
  induction i with
  | zero=>intro _ j hj;rw[sX] at hj;cases hj
  | succ i ih=>
   intro hi j hj;obtain⟨y,hy⟩:=get_some (l:=L) (i:=i) (by omega);rw[aj hy,Yk,Ye] at hj;rcases hj with hj | rfl
   .exact ih (by omega) j hj
   .have:=h3 i (by omega);rw[hy] at this;simp only[Bool.or_eq_true,List.any_eq_true,decide_eq_true_eq,Yt] at this;rcases this with ⟨v,hv,rfl⟩ | ⟨x,hx,⟨h4,h5⟩,h6⟩
    .exact .base hv
    .have hq:=ih (by omega) _ h5;rw[show ((x.f.toNat:Nat):Int)=x.f by have:=BB x hx;omega] at hq;exact .step hq ⟨x,hx,Option.isNone_iff_eq_none.1 h4,rfl,h6⟩
 have Sb:oM es role l j=true ↔ j∈L:=by
  rw[fh];constructor
  .intro h;have:=(fwd _ h).2;rwa [Ys] at this
  .intro h;exact bwd L.length (aY _) j (by rw[xW];exact h)
 by_cases hj:j∈L
 .rw[decide_eq_true hj];exact Sb.2 hj
 .rw[decide_eq_false hj];cases hc:oM es role l j
  .rfl
  .exact absurd (Sb.1 hc) hj
def M4(es:List Ed)(role:Int)(n:Nat)(l:List Int):Option (List Nat):=
 let L:=Np es role n (l.map Int.toNat).eraseDups
 if XO es role l L then some ((List.range n).filter fun j=>decide (j∈L)) else none
theorem Jl{es:List Ed}{role:Int}{n:Nat}{l:List Int}{L:List Nat}(BB:∀x∈es,0<=x.f/\0<=x.t)(cG:∀j:Nat,oM es role l j=true->j<n)(h:M4 es role n l=some L):Can n L/\oM es role l=setOf L:=by
 unfold M4 at h;simp only at h;split at h
 .rename_i hk;cases h;refine⟨Can.mk _ _,?_⟩
  funext j
  rw[yt BB hk];unfold setOf;by_cases hj:j∈Np es role n (l.map Int.toNat).eraseDups
  .rw[decide_eq_true hj,decide_eq_true];have:oM es role l j=true:=by rw[yt BB hk,decide_eq_true hj]
   exact List.mem_filter.2 ⟨List.mem_range.2 (cG j this),decide_eq_true hj⟩
  .rw[decide_eq_false hj,decide_eq_false];intro hm;exact hj (bM (List.mem_filter.1 hm).2)
 .cases h
end Go.VC
end
