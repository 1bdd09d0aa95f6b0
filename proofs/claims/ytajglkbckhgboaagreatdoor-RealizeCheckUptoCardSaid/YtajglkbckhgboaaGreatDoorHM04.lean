/- SxVcSa SxVcSb SxVcSc SxVcSe SxVcSd SxVcSf SxVcK1 SxVcK2 SxVcK4 SxVcK5 SyVcC SyVcA SyVcG SyVcH SyVcGa SyVcI SyVcOa SyVcOb SyVcJ SyVcK SyVcL SyVcN SyVcPa SyVcPc SyVcPb. -/
import Derived.Test.YtajglkbckhgboaaGreatDoorHM01
set_option linter.all false
set_option maxRecDepth 100000
set_option maxHeartbeats 8000000

section
namespace Go.VC
open Go.Proofs IntKind
variable {h:Heap} {R:Value->Heap->Prop}
def yf(b h e:Heap)(i:Nat)(j:Int->Heap->Nat->Prop)(k q:Int):Prop:=
 ∃c,rS b (aS h 13) c/\∃d,rI b (aS e 0) d/\∃f,rS b (aS h 13) f/\∃g,rI b (aS e 0) g/\NB f.a fun r s=>Ib g f.n/\∃l,rB b ⟨r,s+g.toNat*1,none⟩ l/\sB l (NB c.a fun t u=>Ib d c.n/\Wp b ⟨t,u+d.toNat*1,none⟩ 1 [.bool true] fun v=>∃m,m<i/\j (wrap .i64 (k+1)) v m) (∃o,rI b (aS e 1) o/\NB c.a fun w x=>Ib d c.n/\Wp b ⟨w,x+d.toNat*1,none⟩ 1 [.bool (o==q)] fun y=>∃p,p<i/\j (wrap .i64 (k+1)) y p)
def Am(b:Heap)(y0:ByteArray)(z0 A0:Sl)(B0 C0 D0:Int)(E0 F0:Sl)(t:Int)(G0:Heap)(G:Int)(H0:Heap)(H:Int)(I0:Heap)(I:Int)(J0:Heap)(J:Int)(K0:Heap)(K:Int)(h:Heap)(R:Value->Heap->Prop):Prop:=
 Wn b [.string y0,vS z0,vS A0,vI B0,vI C0,vI D0,vS E0,vS F0,vI t,.slice (some (aS G0 0)) (G.toNat) (G.toNat),vN,.slice (some (aS H0 0)) (H.toNat) (H.toNat),.slice (some (aS I0 0)) (I.toNat) (I.toNat),.slice (some (aS J0 0)) (J.toNat) (J.toNat),.slice (some (aS K0 0)) (K.toNat) (K.toNat)] 186 fun L=>∃l,rS L (aS h 6) l/\QI 0 L fun M g c N=>sB (decide (g<(l.n:Int))) (NB l.a fun L0 M0=>Ib g l.n/\∃O P Q S T U,gR c ⟨L0,M0+g.toNat*6,none⟩ O P Q S T U/\Wn c [vI 0,vI 0,vI 0,vI 0,vI 0,.bool false] 67 fun N0=>Wp N0 (aS c 0) 6 (L3 O P Q S T U) fun d=>∃u,rS d (aS b 9) u/\∃v,rI d (aS c 0) v/\∃w,rS d (aS b 9) w/\∃m,rI d (aS c 0) m/\NB w.a fun V W=>Ib m w.n/\∃X,rS d ⟨V,W+m.toNat*1,none⟩ X/\Wn d [vI g] 3 fun x=>Sm [⟨V,W+m.toNat*1,none⟩,(aS c 0),(aS b 9),(aS c 0),(aS b 9)] d x/\App Pz 102 102 (vS X) (.slice (some (aS d 0)) 1 1) x fun O0 Y=>Sm [(aS c 0),(aS b 9)] x Y/\NB u.a fun P0 Q0=>Ib v u.n/\Wp Y ⟨P0,Q0+v.toNat*1,none⟩ 1 [vS O0] fun e=>∃i,rS e (aS b 12) i/\∃j,rI e (aS c 0) j/\∃y,rS e (aS b 12) y/\∃z,rI e (aS c 0) z/\NB y.a fun R0 S0=>Ib z y.n/\∃Z,rB e ⟨R0,S0+z.toNat*1,none⟩ Z/\sB Z (NB i.a fun T0 U0=>Ib j i.n/\Wp e ⟨T0,U0+j.toNat*1,none⟩ 1 [.bool true] fun V0=>yf V0 b c N M g t) (∃a0,rB e (aS c 5) a0/\NB i.a fun W0 X0=>Ib j i.n/\Wp e ⟨W0,X0+j.toNat*1,none⟩ 1 [.bool a0] fun Y0=>yf Y0 b c N M g t)) (∃o,rS c (aS h 7) o/\QI 0 c fun Z0 p f a1=>sB (decide (p<(o.n:Int))) (NB o.a fun b1 c1=>Ib p o.n/\∃b0 c0 d0,gB f ⟨b1,c1+p.toNat*3,none⟩ b0 c0 d0/\Wn f [vI 0,vI 0,vI 0] 149 fun d1=>Wp d1 (aS f 0) 3 (L2 b0 c0 d0) fun q=>∃A,rS q (aS h 6) A/\∃B,rI q (aS f 2) B/\NB A.a fun e1 f1=>Ib B A.n/\∃e0 f0 g0 h0 i0 j0,gR q ⟨e1,f1+B.toNat*6,none⟩ e0 f0 g0 h0 i0 j0/\Fn Pz 106 #[.pointer (some (aS b 0)),.agg ⟨(L3 e0 f0 g0 h0 i0 j0)⟩] q (fun g1 C=>∃(k0:Bool) (l0 m0:Int) (h1:Bool),g1=.tuple ⟨[.agg ⟨(L5 k0 l0 m0)⟩,.bool h1]⟩/\Wn C [.bool false,vI 0,vI 0] 188 fun i1=>Wp i1 (aS C 0) 3 (L5 k0 l0 m0) fun k=>∃D,rS k (aS b 11) D/\∃E,rI k (aS f 0) E/\∃n0,rI k (aS f 1) n0/\∃o0 p0 q0,oP k (aS C 0) o0 p0 q0/\NB D.a fun j1 k1=>Ib E D.n/\Wp k ⟨j1,k1+E.toNat*4,none⟩ 4 [vI n0,.bool o0,vI p0,vI q0] fun l1=>∃r0,r0<a1/\Z0 (wrap .i64 (p+1)) l1 r0)) (∃s0,rI f (aS h 3) s0/\QI 0 f fun m1 F r n1=>sB (decide (F<s0)) (∃t0,rS r (aS b 10) t0/\Fn Pz 107 #[.pointer (some (aS b 0)),vI F] r (fun o1 s=>∃(u0:Sl) (v0:Bool),o1=.agg ⟨[vS u0,.bool v0]⟩/\Sm [(aS b 10)] r s/\Wn s [vS u0,.bool v0] 195 fun w0=>Sm [(aS b 10)] s w0/\App Pz 184 184 (vS t0) (.slice (some (aS s 0)) 1 1) w0 fun p1 q1=>Wp q1 (aS b 10) 1 [vS p1] fun r1=>∃x0,x0<n1/\m1 (wrap .i64 (F+1)) r1 x0)) (R (.tuple ⟨[.pointer (some (aS b 0)),vI 0]⟩) r)))
def EM(a:Int)(b h:Heap)(d:ByteArray)(e f:Sl)(g i j:Int)(k l:Sl)(m:Int)(n:Heap)(o:Int)(p:Heap)(q:Int)(r:Heap)(s:Int)(t:Heap)(u:Int)(R:Value->Heap->Prop):Prop:=
 Mk a a 1/\Wn b (ai Pz 4 (a.toNat)) 4 fun c=>Sm [(aS h 3),(aS h 3),(aS h 3),(aS h 3),(aS h 0)] b c/\Am c d e f g i j k l m n o p q b a r s t u h R
def I3(a:Int)(b h:Heap)(d:Int)(e:ByteArray)(f g:Sl)(i j k:Int)(l m:Sl)(n:Int)(o:Heap)(p:Int)(q:Heap)(r:Int)(s:Heap)(t:Int)(R:Value->Heap->Prop):Prop:=
 Mk a a 32/\Wn b (ai Pz 192 (a.toNat)) 192 fun c=>Sm [(aS h 3),(aS h 3),(aS h 3),(aS h 3),(aS h 0)] b c/\EM d c h e f g i j k l m n o p b a q r s t R
def ER(a:Int)(b h:Heap)(d:ByteArray)(e f:Sl)(g i j:Int)(k l:Sl)(m:Int)(n:Heap)(o:Int)(p:Heap)(q:Int)(r:Heap)(s:Int)(t:Heap)(u:Int)(R:Value->Heap->Prop):Prop:=
 Mk a a 32/\Wn b (ai Pz 192 (a.toNat)) 192 fun c=>Sm [(aS h 3),(aS h 3),(aS h 3),(aS h 3),(aS h 0)] b c/\Am c d e f g i j k l m n o b a p q r s t u h R
def IP(a:Int)(b h:Heap)(d:Int)(e:ByteArray)(f g:Sl)(i j k:Int)(l m:Sl)(n:Int)(o:Heap)(p:Int)(q:Heap)(r:Int)(s:Heap)(t:Int)(R:Value->Heap->Prop):Prop:=
 Mk a a 1/\Wn b (ai Pz 4 (a.toNat)) 4 fun c=>Sm [(aS h 3),(aS h 3),(aS h 3),(aS h 3),(aS h 0)] b c/\ER d c h e f g i j k l m n o p b a q r s t R
def CQ(a:Int)(b h:Heap)(d e:Int)(f:ByteArray)(g i:Sl)(j k l:Int)(m n:Sl)(o:Int)(p:Heap)(q:Int)(r:Heap)(s:Int)(R:Value->Heap->Prop):Prop:=
 Mk a a 24/\Wn b (ai Pz 102 (a.toNat)) 102 fun c=>Sm [(aS h 3),(aS h 3),(aS h 3),(aS h 3),(aS h 0)] b c/\(I3 d c h e f g i j k l m n o b a p q r s R)/\IP e c h d f g i j k l m n o b a p q r s R
def IW(a:Int)(b h:Heap)(d:Int)(e:ByteArray)(f g:Sl)(i j k:Int)(l m:Sl)(n:Int)(o:Heap)(p:Int)(q:Heap)(r:Int)(s:Heap)(t:Int)(R:Value->Heap->Prop):Prop:=
 Mk a a 24/\Wn b (ai Pz 102 (a.toNat)) 102 fun c=>Sm [(aS h 3),(aS h 3),(aS h 3),(aS h 3),(aS h 0)] b c/\EM d c h e f g i j k l m n b a o p q r s t R
def EP(a:Int)(b h:Heap)(d:ByteArray)(e f:Sl)(g i j:Int)(k l:Sl)(m:Int)(n:Heap)(o:Int)(p:Heap)(q:Int)(r:Heap)(s:Int)(t:Heap)(u:Int)(R:Value->Heap->Prop):Prop:=
 Mk a a 24/\Wn b (ai Pz 102 (a.toNat)) 102 fun c=>Sm [(aS h 3),(aS h 3),(aS h 3),(aS h 3),(aS h 0)] b c/\Am c d e f g i j k l m b a n o p q r s t u h R
def IL(a:Int)(b h:Heap)(d:Int)(e:ByteArray)(f g:Sl)(i j k:Int)(l m:Sl)(n:Int)(o:Heap)(p:Int)(q:Heap)(r:Int)(s:Heap)(t:Int)(R:Value->Heap->Prop):Prop:=
 Mk a a 1/\Wn b (ai Pz 4 (a.toNat)) 4 fun c=>Sm [(aS h 3),(aS h 3),(aS h 3),(aS h 3),(aS h 0)] b c/\EP d c h e f g i j k l m n o p b a q r s t R
def CP(a:Int)(b h:Heap)(d e:Int)(f:ByteArray)(g i:Sl)(j k l:Int)(m n:Sl)(o:Int)(p:Heap)(q:Int)(r:Heap)(s:Int)(R:Value->Heap->Prop):Prop:=
 Mk a a 32/\Wn b (ai Pz 192 (a.toNat)) 192 fun c=>Sm [(aS h 3),(aS h 3),(aS h 3),(aS h 3),(aS h 0)] b c/\(IW d c h e f g i j k l m n o b a p q r s R)/\IL e c h d f g i j k l m n o b a p q r s R
def IQ(a:Int)(b h:Heap)(d:Int)(e:ByteArray)(f g:Sl)(i j k:Int)(l m:Sl)(n:Int)(o:Heap)(p:Int)(q:Heap)(r:Int)(s:Heap)(t:Int)(R:Value->Heap->Prop):Prop:=
 Mk a a 24/\Wn b (ai Pz 274 (a.toNat)) 274 fun c=>Sm [(aS h 3),(aS h 3),(aS h 3),(aS h 3),(aS h 0)] b c/\EM d c h e f g i j k l m n o p q r s t b a R
def EL(a:Int)(b h:Heap)(d:ByteArray)(e f:Sl)(g i j:Int)(k l:Sl)(m:Int)(n:Heap)(o:Int)(p:Heap)(q:Int)(r:Heap)(s:Int)(t:Heap)(u:Int)(R:Value->Heap->Prop):Prop:=
 Mk a a 24/\Wn b (ai Pz 274 (a.toNat)) 274 fun c=>Sm [(aS h 3),(aS h 3),(aS h 3),(aS h 3),(aS h 0)] b c/\Am c d e f g i j k l m n o p q r s t u b a h R
def IJ(a:Int)(b h:Heap)(d:Int)(e:ByteArray)(f g:Sl)(i j k:Int)(l m:Sl)(n:Int)(o:Heap)(p:Int)(q:Heap)(r:Int)(s:Heap)(t:Int)(R:Value->Heap->Prop):Prop:=
 Mk a a 1/\Wn b (ai Pz 4 (a.toNat)) 4 fun c=>Sm [(aS h 3),(aS h 3),(aS h 3),(aS h 3),(aS h 0)] b c/\EL d c h e f g i j k l m n o p q r b a s t R
def CO(a:Int)(b h:Heap)(d e:Int)(f:ByteArray)(g i:Sl)(j k l:Int)(m n:Sl)(o:Int)(p:Heap)(q:Int)(r:Heap)(s:Int)(R:Value->Heap->Prop):Prop:=
 Mk a a 32/\Wn b (ai Pz 192 (a.toNat)) 192 fun c=>Sm [(aS h 3),(aS h 3),(aS h 3),(aS h 3),(aS h 0)] b c/\(IJ d c h e f g i j k l m n o p q b a r s R)/\IQ e c h d f g i j k l m n o p q b a r s R
def CN(a:Int)(b h:Heap)(d e:Int)(f:ByteArray)(g i:Sl)(j k l:Int)(m n:Sl)(o:Int)(p:Heap)(q:Int)(r:Heap)(s:Int)(R:Value->Heap->Prop):Prop:=
 Mk a a 24/\Wn b (ai Pz 274 (a.toNat)) 274 fun c=>Sm [(aS h 3),(aS h 3),(aS h 3),(aS h 3),(aS h 0)] b c/\(I3 d c h e f g i j k l m n o p q r s b a R)/\IP e c h d f g i j k l m n o p q r s b a R
def EO(a:Int)(b h:Heap)(d:ByteArray)(e f:Sl)(g i j:Int)(k l:Sl)(m:Int)(n:Heap)(o:Int)(p:Heap)(q:Int)(r:Heap)(s:Int)(t:Heap)(u:Int)(R:Value->Heap->Prop):Prop:=
 Mk a a 1/\Wn b (ai Pz 4 (a.toNat)) 4 fun c=>Sm [(aS h 3),(aS h 3),(aS h 3),(aS h 3),(aS h 0)] b c/\Am c d e f g i j k l m n o p q r s b a t u h R
def II(a:Int)(b h:Heap)(d:Int)(e:ByteArray)(f g:Sl)(i j k:Int)(l m:Sl)(n:Int)(o:Heap)(p:Int)(q:Heap)(r:Int)(s:Heap)(t:Int)(R:Value->Heap->Prop):Prop:=
 Mk a a 1/\Wn b (ai Pz 4 (a.toNat)) 4 fun c=>Sm [(aS h 3),(aS h 3),(aS h 3),(aS h 3),(aS h 0)] b c/\EO d c h e f g i j k l m n o p q r b a s t R
def IH(a:Int)(b h:Heap)(d:Int)(e:ByteArray)(f g:Sl)(i j k:Int)(l m:Sl)(n:Int)(o:Heap)(p:Int)(q:Heap)(r:Int)(s:Heap)(t:Int)(R:Value->Heap->Prop):Prop:=
 Mk a a 1/\Wn b (ai Pz 4 (a.toNat)) 4 fun c=>Sm [(aS h 3),(aS h 3),(aS h 3),(aS h 3),(aS h 0)] b c/\EM d c h e f g i j k l m n o p q r b a s t R
def CM(a:Int)(b h:Heap)(d e:Int)(f:ByteArray)(g i:Sl)(j k l:Int)(m n:Sl)(o:Int)(p:Heap)(q:Int)(r:Heap)(s:Int)(R:Value->Heap->Prop):Prop:=
 Mk a a 32/\Wn b (ai Pz 192 (a.toNat)) 192 fun c=>Sm [(aS h 3),(aS h 3),(aS h 3),(aS h 3),(aS h 0)] b c/\(II d c h e f g i j k l m n o p q b a r s R)/\IH e c h d f g i j k l m n o p q b a r s R
def I5(a:Int)(b h:Heap)(d:Int)(e:ByteArray)(f g:Sl)(i j k:Int)(l m:Sl)(n:Int)(o:Heap)(p:Int)(q:Heap)(r:Int)(s:Heap)(t:Int)(R:Value->Heap->Prop):Prop:=
 Mk a a 32/\Wn b (ai Pz 192 (a.toNat)) 192 fun c=>Sm [(aS h 3),(aS h 3),(aS h 3),(aS h 3),(aS h 0)] b c/\EO d c h e f g i j k l m n o p b a q r s t R
def IT(a:Int)(b h:Heap)(d:Int)(e:ByteArray)(f g:Sl)(i j k:Int)(l m:Sl)(n:Int)(o:Heap)(p:Int)(q:Heap)(r:Int)(s:Heap)(t:Int)(R:Value->Heap->Prop):Prop:=
 Mk a a 1/\Wn b (ai Pz 4 (a.toNat)) 4 fun c=>Sm [(aS h 3),(aS h 3),(aS h 3),(aS h 3),(aS h 0)] b c/\ER d c h e f g i j k l m n o p q r b a s t R
def CK(a:Int)(b h:Heap)(d e:Int)(f:ByteArray)(g i:Sl)(j k l:Int)(m n:Sl)(o:Int)(p:Heap)(q:Int)(r:Heap)(s:Int)(R:Value->Heap->Prop):Prop:=
 Mk a a 24/\Wn b (ai Pz 274 (a.toNat)) 274 fun c=>Sm [(aS h 3),(aS h 3),(aS h 3),(aS h 3),(aS h 0)] b c/\(I5 d c h e f g i j k l m n o p q r s b a R)/\IT e c h d f g i j k l m n o p q r s b a R
def IV(a:Int)(b h:Heap)(d:Int)(e:ByteArray)(f g:Sl)(i j k:Int)(l m:Sl)(n:Int)(o:Heap)(p:Int)(q:Heap)(r:Int)(s:Heap)(t:Int)(R:Value->Heap->Prop):Prop:=
 Mk a a 24/\Wn b (ai Pz 102 (a.toNat)) 102 fun c=>Sm [(aS h 3),(aS h 3),(aS h 3),(aS h 3),(aS h 0)] b c/\ER d c h e f g i j k l m n b a o p q r s t R
def IU(a:Int)(b h:Heap)(d:Int)(e:ByteArray)(f g:Sl)(i j k:Int)(l m:Sl)(n:Int)(o:Heap)(p:Int)(q:Heap)(r:Int)(s:Heap)(t:Int)(R:Value->Heap->Prop):Prop:=
 Mk a a 32/\Wn b (ai Pz 192 (a.toNat)) 192 fun c=>Sm [(aS h 3),(aS h 3),(aS h 3),(aS h 3),(aS h 0)] b c/\EP d c h e f g i j k l m n b a o p q r s t R
def CJ(a:Int)(b h:Heap)(d e:Int)(f:ByteArray)(g i:Sl)(j k l:Int)(m n:Sl)(o:Int)(p:Heap)(q:Int)(r:Heap)(s:Int)(R:Value->Heap->Prop):Prop:=
 Mk a a 1/\Wn b (ai Pz 4 (a.toNat)) 4 fun c=>Sm [(aS h 3),(aS h 3),(aS h 3),(aS h 3),(aS h 0)] b c/\(IV d c h e f g i j k l m n o b a p q r s R)/\IU e c h d f g i j k l m n o b a p q r s R
def IK(a:Int)(b h:Heap)(d:Int)(e:ByteArray)(f g:Sl)(i j k:Int)(l m:Sl)(n:Int)(o:Heap)(p:Int)(q:Heap)(r:Int)(s:Heap)(t:Int)(R:Value->Heap->Prop):Prop:=
 Mk a a 24/\Wn b (ai Pz 274 (a.toNat)) 274 fun c=>Sm [(aS h 3),(aS h 3),(aS h 3),(aS h 3),(aS h 0)] b c/\EO d c h e f g i j k l m n o p q r s t b a R
def IG(a:Int)(b h:Heap)(d:Int)(e:ByteArray)(f g:Sl)(i j k:Int)(l m:Sl)(n:Int)(o:Heap)(p:Int)(q:Heap)(r:Int)(s:Heap)(t:Int)(R:Value->Heap->Prop):Prop:=
 Mk a a 1/\Wn b (ai Pz 4 (a.toNat)) 4 fun c=>Sm [(aS h 3),(aS h 3),(aS h 3),(aS h 3),(aS h 0)] b c/\EL d c h e f g i j k l m n o p q r s t b a R
def CI(a:Int)(b h:Heap)(d e:Int)(f:ByteArray)(g i:Sl)(j k l:Int)(m n:Sl)(o:Int)(p:Heap)(q:Int)(r:Heap)(s:Int)(R:Value->Heap->Prop):Prop:=
 Mk a a 24/\Wn b (ai Pz 102 (a.toNat)) 102 fun c=>Sm [(aS h 3),(aS h 3),(aS h 3),(aS h 3),(aS h 0)] b c/\(IG d c h e f g i j k l m n o b a p q r s R)/\IK e c h d f g i j k l m n o b a p q r s R
def IX(a:Int)(b h:Heap)(d:Int)(e:ByteArray)(f g:Sl)(i j k:Int)(l m:Sl)(n:Int)(o:Heap)(p:Int)(q:Heap)(r:Int)(s:Heap)(t:Int)(R:Value->Heap->Prop):Prop:=
 Mk a a 24/\Wn b (ai Pz 102 (a.toNat)) 102 fun c=>Sm [(aS h 3),(aS h 3),(aS h 3),(aS h 3),(aS h 0)] b c/\EO d c h e f g i j k l m n b a o p q r s t R
def IM(a:Int)(b h:Heap)(d:Int)(e:ByteArray)(f g:Sl)(i j k:Int)(l m:Sl)(n:Int)(o:Heap)(p:Int)(q:Heap)(r:Int)(s:Heap)(t:Int)(R:Value->Heap->Prop):Prop:=
 Mk a a 1/\Wn b (ai Pz 4 (a.toNat)) 4 fun c=>Sm [(aS h 3),(aS h 3),(aS h 3),(aS h 3),(aS h 0)] b c/\EP d c h e f g i j k l m n o p q r b a s t R
def CH(a:Int)(b h:Heap)(d e:Int)(f:ByteArray)(g i:Sl)(j k l:Int)(m n:Sl)(o:Int)(p:Heap)(q:Int)(r:Heap)(s:Int)(R:Value->Heap->Prop):Prop:=
 Mk a a 24/\Wn b (ai Pz 274 (a.toNat)) 274 fun c=>Sm [(aS h 3),(aS h 3),(aS h 3),(aS h 3),(aS h 0)] b c/\(IX d c h e f g i j k l m n o p q r s b a R)/\IM e c h d f g i j k l m n o p q r s b a R
def CG(a:Int)(b h:Heap)(d e:Int)(f:ByteArray)(g i:Sl)(j k l:Int)(m n:Sl)(o:Int)(p:Heap)(q:Int)(r:Heap)(s:Int)(R:Value->Heap->Prop):Prop:=
 Mk a a 24/\Wn b (ai Pz 102 (a.toNat)) 102 fun c=>Sm [(aS h 3),(aS h 3),(aS h 3),(aS h 3),(aS h 0)] b c/\(IJ d c h e f g i j k l m n o b a p q r s R)/\IQ e c h d f g i j k l m n o b a p q r s R
def CF(a:Int)(b h:Heap)(d e:Int)(f:ByteArray)(g i:Sl)(j k l:Int)(m n:Sl)(o:Int)(p:Heap)(q:Int)(r:Heap)(s:Int)(R:Value->Heap->Prop):Prop:=
 Mk a a 24/\Wn b (ai Pz 274 (a.toNat)) 274 fun c=>Sm [(aS h 3),(aS h 3),(aS h 3),(aS h 3),(aS h 0)] b c/\(IW d c h e f g i j k l m n o p q r s b a R)/\IL e c h d f g i j k l m n o p q r s b a R
def CE(a:Int)(b h:Heap)(d e:Int)(f:ByteArray)(g i:Sl)(j k l:Int)(m n:Sl)(o:Int)(p:Heap)(q:Int)(r:Heap)(s:Int)(R:Value->Heap->Prop):Prop:=
 Mk a a 24/\Wn b (ai Pz 102 (a.toNat)) 102 fun c=>Sm [(aS h 3),(aS h 3),(aS h 3),(aS h 3),(aS h 0)] b c/\(II d c h e f g i j k l m n o b a p q r s R)/\IH e c h d f g i j k l m n o b a p q r s R
def I8(a:Int)(b h:Heap)(d:Int)(e:ByteArray)(f g:Sl)(i j k:Int)(l m:Sl)(n:Int)(o:Heap)(p:Int)(q:Heap)(r:Int)(s:Heap)(t:Int)(R:Value->Heap->Prop):Prop:=
 Mk a a 32/\Wn b (ai Pz 192 (a.toNat)) 192 fun c=>Sm [(aS h 3),(aS h 3),(aS h 3),(aS h 3),(aS h 0)] b c/\EL d c h e f g i j k l m n o p b a q r s t R
def I6(a:Int)(b h:Heap)(d:Int)(e:ByteArray)(f g:Sl)(i j k:Int)(l m:Sl)(n:Int)(o:Heap)(p:Int)(q:Heap)(r:Int)(s:Heap)(t:Int)(R:Value->Heap->Prop):Prop:=
 Mk a a 24/\Wn b (ai Pz 274 (a.toNat)) 274 fun c=>Sm [(aS h 3),(aS h 3),(aS h 3),(aS h 3),(aS h 0)] b c/\ER d c h e f g i j k l m n o p q r s t b a R
def CD(a:Int)(b h:Heap)(d e:Int)(f:ByteArray)(g i:Sl)(j k l:Int)(m n:Sl)(o:Int)(p:Heap)(q:Int)(r:Heap)(s:Int)(R:Value->Heap->Prop):Prop:=
 Mk a a 24/\Wn b (ai Pz 102 (a.toNat)) 102 fun c=>Sm [(aS h 3),(aS h 3),(aS h 3),(aS h 3),(aS h 0)] b c/\(I8 d c h e f g i j k l m n o b a p q r s R)/\I6 e c h d f g i j k l m n o b a p q r s R
def IZ(a:Int)(b h:Heap)(d:Int)(e:ByteArray)(f g:Sl)(i j k:Int)(l m:Sl)(n:Int)(o:Heap)(p:Int)(q:Heap)(r:Int)(s:Heap)(t:Int)(R:Value->Heap->Prop):Prop:=
 Mk a a 24/\Wn b (ai Pz 102 (a.toNat)) 102 fun c=>Sm [(aS h 3),(aS h 3),(aS h 3),(aS h 3),(aS h 0)] b c/\EL d c h e f g i j k l m n b a o p q r s t R
def IY(a:Int)(b h:Heap)(d:Int)(e:ByteArray)(f g:Sl)(i j k:Int)(l m:Sl)(n:Int)(o:Heap)(p:Int)(q:Heap)(r:Int)(s:Heap)(t:Int)(R:Value->Heap->Prop):Prop:=
 Mk a a 24/\Wn b (ai Pz 274 (a.toNat)) 274 fun c=>Sm [(aS h 3),(aS h 3),(aS h 3),(aS h 3),(aS h 0)] b c/\EP d c h e f g i j k l m n o p q r s t b a R
def CC(a:Int)(b h:Heap)(d e:Int)(f:ByteArray)(g i:Sl)(j k l:Int)(m n:Sl)(o:Int)(p:Heap)(q:Int)(r:Heap)(s:Int)(R:Value->Heap->Prop):Prop:=
 Mk a a 32/\Wn b (ai Pz 192 (a.toNat)) 192 fun c=>Sm [(aS h 3),(aS h 3),(aS h 3),(aS h 3),(aS h 0)] b c/\(IZ d c h e f g i j k l m n o b a p q r s R)/\IY e c h d f g i j k l m n o b a p q r s R
def CA(a:Int)(b h:Heap)(d e:Int)(f:ByteArray)(g i:Sl)(j k l:Int)(m n:Sl)(o:Int)(p:Heap)(q:Int)(r:Heap)(s:Int)(R:Value->Heap->Prop):Prop:=
 Mk a a 24/\Wn b (ai Pz 274 (a.toNat)) 274 fun c=>Sm [(aS h 3),(aS h 3),(aS h 3),(aS h 3),(aS h 0)] b c/\(IV d c h e f g i j k l m n o p q r s b a R)/\IU e c h d f g i j k l m n o p q r s b a R
def Cz(a:Int)(b h:Heap)(d e:Int)(f:ByteArray)(g i:Sl)(j k l:Int)(m n:Sl)(o:Int)(p:Heap)(q:Int)(r:Heap)(s:Int)(R:Value->Heap->Prop):Prop:=
 Mk a a 24/\Wn b (ai Pz 102 (a.toNat)) 102 fun c=>Sm [(aS h 3),(aS h 3),(aS h 3),(aS h 3),(aS h 0)] b c/\(I5 d c h e f g i j k l m n o b a p q r s R)/\IT e c h d f g i j k l m n o b a p q r s R
def Cy(a:Int)(b h:Heap)(d e:Int)(f:ByteArray)(g i:Sl)(j k l:Int)(m n:Sl)(o:Int)(p:Heap)(q:Int)(r:Heap)(s:Int)(R:Value->Heap->Prop):Prop:=
 Mk a a 32/\Wn b (ai Pz 192 (a.toNat)) 192 fun c=>Sm [(aS h 3),(aS h 3),(aS h 3),(aS h 3),(aS h 0)] b c/\(IX d c h e f g i j k l m n o b a p q r s R)/\IM e c h d f g i j k l m n o b a p q r s R
def Cx(a:Int)(b h:Heap)(d e:Int)(f:ByteArray)(g i:Sl)(j k l:Int)(m n:Sl)(o:Int)(p:Heap)(q:Int)(r:Heap)(s:Int)(R:Value->Heap->Prop):Prop:=
 Mk a a 1/\Wn b (ai Pz 4 (a.toNat)) 4 fun c=>Sm [(aS h 3),(aS h 3),(aS h 3),(aS h 3),(aS h 0)] b c/\(I8 d c h e f g i j k l m n o p q b a r s R)/\I6 e c h d f g i j k l m n o p q b a r s R
def Cw(a:Int)(b h:Heap)(d e:Int)(f:ByteArray)(g i:Sl)(j k l:Int)(m n:Sl)(o:Int)(p:Heap)(q:Int)(r:Heap)(s:Int)(R:Value->Heap->Prop):Prop:=
 Mk a a 1/\Wn b (ai Pz 4 (a.toNat)) 4 fun c=>Sm [(aS h 3),(aS h 3),(aS h 3),(aS h 3),(aS h 0)] b c/\(I5 d c h e f g i j k l m n o p q b a r s R)/\IT e c h d f g i j k l m n o p q b a r s R
def Cv(a:Int)(b h:Heap)(d e:Int)(f:ByteArray)(g i:Sl)(j k l:Int)(m n:Sl)(o:Int)(p:Heap)(q:Int)(r:Heap)(s:Int)(R:Value->Heap->Prop):Prop:=
 Mk a a 1/\Wn b (ai Pz 4 (a.toNat)) 4 fun c=>Sm [(aS h 3),(aS h 3),(aS h 3),(aS h 3),(aS h 0)] b c/\(I3 d c h e f g i j k l m n o p q b a r s R)/\IP e c h d f g i j k l m n o p q b a r s R
def Cu(a:Int)(b h:Heap)(d e:Int)(f:ByteArray)(g i:Sl)(j k l:Int)(m n:Sl)(o:Int)(p:Heap)(q:Int)(r:Heap)(s:Int)(R:Value->Heap->Prop):Prop:=
 Mk a a 32/\Wn b (ai Pz 192 (a.toNat)) 192 fun c=>Sm [(aS h 3),(aS h 3),(aS h 3),(aS h 3),(aS h 0)] b c/\(IG d c h e f g i j k l m n o p q b a r s R)/\IK e c h d f g i j k l m n o p q b a r s R
def Ct(a:Int)(b h:Heap)(d e:Int)(f:ByteArray)(g i:Sl)(j k l:Int)(m n:Sl)(o:Int)(p:Heap)(q:Int)(r:Heap)(s:Int)(R:Value->Heap->Prop):Prop:=
 Mk a a 1/\Wn b (ai Pz 4 (a.toNat)) 4 fun c=>Sm [(aS h 3),(aS h 3),(aS h 3),(aS h 3),(aS h 0)] b c/\(I8 d c h e f g i j k l m n o p q r s b a R)/\I6 e c h d f g i j k l m n o p q r s b a R
def Cs(a:Int)(b h:Heap)(d e:Int)(f:ByteArray)(g i:Sl)(j k l:Int)(m n:Sl)(o:Int)(p:Heap)(q:Int)(r:Heap)(s:Int)(R:Value->Heap->Prop):Prop:=
 Mk a a 24/\Wn b (ai Pz 274 (a.toNat)) 274 fun c=>Sm [(aS h 3),(aS h 3),(aS h 3),(aS h 3),(aS h 0)] b c/\(II d c h e f g i j k l m n o p q r s b a R)/\IH e c h d f g i j k l m n o p q r s b a R
def Cr(a:Int)(b h:Heap)(d e:Int)(f:ByteArray)(g i:Sl)(j k l:Int)(m n:Sl)(o:Int)(p:Heap)(q:Int)(r:Heap)(s:Int)(R:Value->Heap->Prop):Prop:=
 Mk a a 1/\Wn b (ai Pz 4 (a.toNat)) 4 fun c=>Sm [(aS h 3),(aS h 3),(aS h 3),(aS h 3),(aS h 0)] b c/\(IZ d c h e f g i j k l m n o p q r s b a R)/\IY e c h d f g i j k l m n o p q r s b a R
def Cq(a:Int)(b h:Heap)(d e:Int)(f:ByteArray)(g i:Sl)(j k l:Int)(m n:Sl)(o:Int)(p:Heap)(q:Int)(r:Heap)(s:Int)(R:Value->Heap->Prop):Prop:=
 Mk a a 1/\Wn b (ai Pz 4 (a.toNat)) 4 fun c=>Sm [(aS h 3),(aS h 3),(aS h 3),(aS h 3),(aS h 0)] b c/\(IZ d c h e f g i j k l m n o p q b a r s R)/\IY e c h d f g i j k l m n o p q b a r s R
def vm(a:Int)(b h:Heap)(d e:Int)(f:ByteArray)(g i:Sl)(j k l:Int)(m n:Sl)(o:Int)(p:Heap)(q:Int)(r:Heap)(s:Int)(R:Value->Heap->Prop):Prop:=
 Mk a a 1/\Wn b (ai Pz 4 (a.toNat)) 4 fun c=>Sm [(aS h 3),(aS h 3),(aS h 3),(aS h 3),(aS h 0)] b c/\(IX d c h e f g i j k l m n o p q b a r s R)/\IM e c h d f g i j k l m n o p q b a r s R
def vl(a:Int)(b h:Heap)(d e:Int)(f:ByteArray)(g i:Sl)(j k l:Int)(m n:Sl)(o:Int)(p:Heap)(q:Int)(r:Heap)(s:Int)(R:Value->Heap->Prop):Prop:=
 Mk a a 1/\Wn b (ai Pz 4 (a.toNat)) 4 fun c=>Sm [(aS h 3),(aS h 3),(aS h 3),(aS h 3),(aS h 0)] b c/\(IW d c h e f g i j k l m n o p q b a r s R)/\IL e c h d f g i j k l m n o p q b a r s R
def vk(a:Int)(b h:Heap)(d e:Int)(f:ByteArray)(g i:Sl)(j k l:Int)(m n:Sl)(o:Int)(p:Heap)(q:Int)(r:Heap)(s:Int)(R:Value->Heap->Prop):Prop:=
 Mk a a 1/\Wn b (ai Pz 4 (a.toNat)) 4 fun c=>Sm [(aS h 3),(aS h 3),(aS h 3),(aS h 3),(aS h 0)] b c/\(IV d c h e f g i j k l m n o p q b a r s R)/\IU e c h d f g i j k l m n o p q b a r s R
def vj(a:Int)(b h:Heap)(d e:Int)(f:ByteArray)(g i:Sl)(j k l:Int)(m n:Sl)(o:Int)(p:Heap)(q:Int)(r:Heap)(s:Int)(R:Value->Heap->Prop):Prop:=
 Mk a a 1/\Wn b (ai Pz 4 (a.toNat)) 4 fun c=>Sm [(aS h 3),(aS h 3),(aS h 3),(aS h 3),(aS h 0)] b c/\(IJ d c h e f g i j k l m n o p q r s b a R)/\IQ e c h d f g i j k l m n o p q r s b a R
def vi(a:Int)(b h:Heap)(d e:Int)(f:ByteArray)(g i:Sl)(j k l:Int)(m n:Sl)(o:Int)(p:Heap)(q:Int)(r:Heap)(s:Int)(R:Value->Heap->Prop):Prop:=
 Mk a a 1/\Wn b (ai Pz 4 (a.toNat)) 4 fun c=>Sm [(aS h 3),(aS h 3),(aS h 3),(aS h 3),(aS h 0)] b c/\(IG d c h e f g i j k l m n o p q r s b a R)/\IK e c h d f g i j k l m n o p q r s b a R
def Jd(b:Int)(g h:Heap)(c d e f:Int)(i:ByteArray)(j k:Sl)(l m n:Int)(o p:Sl)(q:Int)(R:Value->Heap->Prop):Prop:=
 Mk b b 24/\Wn g (ai Pz 102 (b.toNat)) 102 fun a=>Sm [(aS h 3),(aS h 3),(aS h 3),(aS h 3),(aS h 0)] g a/\(Mk c c 32/\Wn a (ai Pz 192 (c.toNat)) 192 fun r=>Sm [(aS h 3),(aS h 3),(aS h 3),(aS h 3),(aS h 0)] a r/\(vi d r h e f i j k l m n o p q g b a c R)/\(vj e r h d f i j k l m n o p q g b a c R)/\Cs f r h d e i j k l m n o p q g b a c R)/\(Mk d d 1/\Wn a (ai Pz 4 (d.toNat)) 4 fun s=>Sm [(aS h 3),(aS h 3),(aS h 3),(aS h 3),(aS h 0)] a s/\(Cu c s h e f i j k l m n o p q g b a d R)/\(Ct e s h c f i j k l m n o p q g b a d R)/\CK f s h c e i j k l m n o p q g b a d R)/\(Mk e e 1/\Wn a (ai Pz 4 (e.toNat)) 4 fun t=>Sm [(aS h 3),(aS h 3),(aS h 3),(aS h 3),(aS h 0)] a t/\(CO c t h d f i j k l m n o p q g b a e R)/\(Cx d t h c f i j k l m n o p q g b a e R)/\CN f t h c d i j k l m n o p q g b a e R)/\Mk f f 24/\Wn a (ai Pz 274 (f.toNat)) 274 fun u=>Sm [(aS h 3),(aS h 3),(aS h 3),(aS h 3),(aS h 0)] a u/\(CM c u h d e i j k l m n o p q g b a f R)/\(Cw d u h c e i j k l m n o p q g b a f R)/\Cv e u h c d i j k l m n o p q g b a f R
def Jc(b:Int)(g h:Heap)(c d e f:Int)(i:ByteArray)(j k:Sl)(l m n:Int)(o p:Sl)(q:Int)(R:Value->Heap->Prop):Prop:=
 Mk b b 32/\Wn g (ai Pz 192 (b.toNat)) 192 fun a=>Sm [(aS h 3),(aS h 3),(aS h 3),(aS h 3),(aS h 0)] g a/\(Mk c c 24/\Wn a (ai Pz 102 (c.toNat)) 102 fun r=>Sm [(aS h 3),(aS h 3),(aS h 3),(aS h 3),(aS h 0)] a r/\(vi d r h e f i j k l m n o p q a c g b R)/\(vj e r h d f i j k l m n o p q a c g b R)/\Cs f r h d e i j k l m n o p q a c g b R)/\(Mk d d 1/\Wn a (ai Pz 4 (d.toNat)) 4 fun s=>Sm [(aS h 3),(aS h 3),(aS h 3),(aS h 3),(aS h 0)] a s/\(CI c s h e f i j k l m n o p q g b a d R)/\(Cr e s h c f i j k l m n o p q g b a d R)/\CH f s h c e i j k l m n o p q g b a d R)/\(Mk e e 1/\Wn a (ai Pz 4 (e.toNat)) 4 fun t=>Sm [(aS h 3),(aS h 3),(aS h 3),(aS h 3),(aS h 0)] a t/\(CG c t h d f i j k l m n o p q g b a e R)/\(Cq d t h c f i j k l m n o p q g b a e R)/\CF f t h c d i j k l m n o p q g b a e R)/\Mk f f 24/\Wn a (ai Pz 274 (f.toNat)) 274 fun u=>Sm [(aS h 3),(aS h 3),(aS h 3),(aS h 3),(aS h 0)] a u/\(CE c u h d e i j k l m n o p q g b a f R)/\(vm d u h c e i j k l m n o p q g b a f R)/\vl e u h c d i j k l m n o p q g b a f R
def Jb(b:Int)(g h:Heap)(c d e f:Int)(i:ByteArray)(j k:Sl)(l m n:Int)(o p:Sl)(q:Int)(R:Value->Heap->Prop):Prop:=
 Mk b b 1/\Wn g (ai Pz 4 (b.toNat)) 4 fun a=>Sm [(aS h 3),(aS h 3),(aS h 3),(aS h 3),(aS h 0)] g a/\(Mk c c 24/\Wn a (ai Pz 102 (c.toNat)) 102 fun r=>Sm [(aS h 3),(aS h 3),(aS h 3),(aS h 3),(aS h 0)] a r/\(Cu d r h e f i j k l m n o p q a c g b R)/\(Ct e r h d f i j k l m n o p q a c g b R)/\CK f r h d e i j k l m n o p q a c g b R)/\(Mk d d 32/\Wn a (ai Pz 192 (d.toNat)) 192 fun s=>Sm [(aS h 3),(aS h 3),(aS h 3),(aS h 3),(aS h 0)] a s/\(CI c s h e f i j k l m n o p q a d g b R)/\(Cr e s h c f i j k l m n o p q a d g b R)/\CH f s h c e i j k l m n o p q a d g b R)/\(Mk e e 1/\Wn a (ai Pz 4 (e.toNat)) 4 fun t=>Sm [(aS h 3),(aS h 3),(aS h 3),(aS h 3),(aS h 0)] a t/\(CD c t h d f i j k l m n o p q g b a e R)/\(CC d t h c f i j k l m n o p q g b a e R)/\CA f t h c d i j k l m n o p q g b a e R)/\Mk f f 24/\Wn a (ai Pz 274 (f.toNat)) 274 fun u=>Sm [(aS h 3),(aS h 3),(aS h 3),(aS h 3),(aS h 0)] a u/\(Cz c u h d e i j k l m n o p q g b a f R)/\(Cy d u h c e i j k l m n o p q g b a f R)/\vk e u h c d i j k l m n o p q g b a f R
def Ja(b:Int)(g h:Heap)(c d e f:Int)(i:ByteArray)(j k:Sl)(l m n:Int)(o p:Sl)(q:Int)(R:Value->Heap->Prop):Prop:=
 Mk b b 1/\Wn g (ai Pz 4 (b.toNat)) 4 fun a=>Sm [(aS h 3),(aS h 3),(aS h 3),(aS h 3),(aS h 0)] g a/\(Mk c c 24/\Wn a (ai Pz 102 (c.toNat)) 102 fun r=>Sm [(aS h 3),(aS h 3),(aS h 3),(aS h 3),(aS h 0)] a r/\(CO d r h e f i j k l m n o p q a c g b R)/\(Cx e r h d f i j k l m n o p q a c g b R)/\CN f r h d e i j k l m n o p q a c g b R)/\(Mk d d 32/\Wn a (ai Pz 192 (d.toNat)) 192 fun s=>Sm [(aS h 3),(aS h 3),(aS h 3),(aS h 3),(aS h 0)] a s/\(CG c s h e f i j k l m n o p q a d g b R)/\(Cq e s h c f i j k l m n o p q a d g b R)/\CF f s h c e i j k l m n o p q a d g b R)/\(Mk e e 1/\Wn a (ai Pz 4 (e.toNat)) 4 fun t=>Sm [(aS h 3),(aS h 3),(aS h 3),(aS h 3),(aS h 0)] a t/\(CD c t h d f i j k l m n o p q a e g b R)/\(CC d t h c f i j k l m n o p q a e g b R)/\CA f t h c d i j k l m n o p q a e g b R)/\Mk f f 24/\Wn a (ai Pz 274 (f.toNat)) 274 fun u=>Sm [(aS h 3),(aS h 3),(aS h 3),(aS h 3),(aS h 0)] a u/\(CQ c u h d e i j k l m n o p q g b a f R)/\(CP d u h c e i j k l m n o p q g b a f R)/\CJ e u h c d i j k l m n o p q g b a f R
def I9(b:Int)(g h:Heap)(c d e f:Int)(i:ByteArray)(j k:Sl)(l m n:Int)(o p:Sl)(q:Int)(R:Value->Heap->Prop):Prop:=
 Mk b b 24/\Wn g (ai Pz 274 (b.toNat)) 274 fun a=>Sm [(aS h 3),(aS h 3),(aS h 3),(aS h 3),(aS h 0)] g a/\(Mk c c 24/\Wn a (ai Pz 102 (c.toNat)) 102 fun r=>Sm [(aS h 3),(aS h 3),(aS h 3),(aS h 3),(aS h 0)] a r/\(CM d r h e f i j k l m n o p q a c g b R)/\(Cw e r h d f i j k l m n o p q a c g b R)/\Cv f r h d e i j k l m n o p q a c g b R)/\(Mk d d 32/\Wn a (ai Pz 192 (d.toNat)) 192 fun s=>Sm [(aS h 3),(aS h 3),(aS h 3),(aS h 3),(aS h 0)] a s/\(CE c s h e f i j k l m n o p q a d g b R)/\(vm e s h c f i j k l m n o p q a d g b R)/\vl f s h c e i j k l m n o p q a d g b R)/\(Mk e e 1/\Wn a (ai Pz 4 (e.toNat)) 4 fun t=>Sm [(aS h 3),(aS h 3),(aS h 3),(aS h 3),(aS h 0)] a t/\(Cz c t h d f i j k l m n o p q a e g b R)/\(Cy d t h c f i j k l m n o p q a e g b R)/\vk f t h c d i j k l m n o p q a e g b R)/\Mk f f 1/\Wn a (ai Pz 4 (f.toNat)) 4 fun u=>Sm [(aS h 3),(aS h 3),(aS h 3),(aS h 3),(aS h 0)] a u/\(CQ c u h d e i j k l m n o p q a f g b R)/\(CP d u h c e i j k l m n o p q a f g b R)/\CJ e u h c d i j k l m n o p q a f g b R
def W49(pa:ByteArray)(pb pc:Sl)(pd pe pf:Int)(pg ph:Sl)(b:Int):Prop:=
 Wn h (L0 pa pb pc pd pe pf pg ph) 27 fun r=>∃s t u v w x y z,cS r (aS h 0) s t u v w x y z/\Fn Pz 40 #[.agg ⟨(L0 s t u v w x y z)⟩] r (fun C a=>∃A,iB C A/\sB (!A) (R (.tuple ⟨[.pointer none,vI 1]⟩) a) (sB (decide (b<0)) (R (.tuple ⟨[.pointer none,vI 1]⟩) a) (∃B,rS a (aS h 1) B/\sB (decide (b>=(B.n:Int))) (R (.tuple ⟨[.pointer none,vI 1]⟩) a) (∃c d e f g i j k,cS a (aS h 0) c d e f g i j k/\∃l,rI a (aS h 3) l/\∃m,rI a (aS h 3) m/\∃o,rI a (aS h 3) o/\∃p,rI a (aS h 3) p/\∃q,rI a (aS h 3) q/\(Jd l a h m o p q c d e f g i j k b R)/\(Jc m a h l o p q c d e f g i j k b R)/\(Jb o a h l m p q c d e f g i j k b R)/\(Ja p a h l m o q c d e f g i j k b R)/\I9 q a h l m o p c d e f g i j k b R))))
theorem abl(pa:ByteArray)(pb pc:Sl)(pd pe pf:Int)(pg ph:Sl)(p1:Int)(H:@W49 h R pa pb pc pd pe pf pg ph p1):Fn Pz 49 #[.agg ⟨(L0 pa pb pc pd pe pf pg ph)⟩,vI p1] h R:=aY (A:=(.s .z (.s .z (.s .z (.s (AI 50) (.s (AI 118) (.s (AI 147) .z))))))) H
def W82(b:Addr):Prop:=
 ∃v,rI h ⟨b.block,b.off+3,none⟩ v /\
 QI 0 h fun I2 c l m4=>
 sB (decide (c<v))
 (∃p,rS l ⟨b.block,b.off+9,none⟩ p /\
 NB p.a fun b8 o9=>Ib c p.n /\
 ∃m,rS l ⟨b8,o9+c.toNat*1,none⟩ m /\
 QI 0 l fun w j d x=>
 sB (decide (j<(m.n:Int)))
 (NB m.a fun p0 q0=>Ib j m.n /\
 ∃e,rI d ⟨p0,q0+j.toNat*1,none⟩ e /\
 ∃q,rS d ⟨b.block,b.off+6,none⟩ q /\
 NB q.a fun r0 s0=>Ib e q.n /\
 ∃y,rI d ⟨r0,s0+e.toNat*6+1+1,none⟩ y /\
 ∃z,rI d ⟨b.block,b.off+8,none⟩ z /\
 sB (y != z)
 (∃A,A<x/\w (wrap .i64 (j+1)) d A)
 (∃B C D E F G H I,cS d b B C D E F G H I /\
 Fn Pz 31 #[.agg ⟨(L0 B C D E F G H I)⟩,vI e] d
 (fun t0 u0=>∃(o:Sl) (v0:Int),t0=.tuple ⟨[vS o,vI v0]⟩ /\
 QI 0 u0 fun J k f K=>
 sB (decide (k<(o.n:Int)))
 (NB o.a fun w0 x0=>Ib k o.n /\
 ∃(L M:Int),a6 f ⟨w0,x0+k.toNat*2,none⟩ [vI L,vI M] /\
 Wn f [vI 0,vI 0] 72 fun y0=>
 Wp y0 (aS f 0) 2 [vI L,vI M] fun g=>
 ∃N,rI g (aS f 0) N /\
 ∃r,rS g ⟨b.block,b.off+6,none⟩ r /\
 NB r.a fun z0 A0=>Ib e r.n /\
 ∃O,rI g ⟨z0,A0+e.toNat*6+1,none⟩ O /\
 sB (N==O)
 (∃P,P<K/\J (wrap .i64 (k+1)) g P)
 (∃Q S T U V W X Y,cS g b Q S T U V W X Y /\
 ∃(Z a0:Int),a6 g (aS f 0) [vI Z,vI a0] /\
 Fn Pz 32 #[.agg ⟨(L0 Q S T U V W X Y)⟩,vI e,.agg ⟨[vI Z,vI a0]⟩] g
 (fun B0 i=>∃(b0:Sl) (C0:Int),B0=.tuple ⟨[vS b0,vI C0]⟩ /\
 ∃s,rS i ⟨b.block,b.off+14,none⟩ s /\
 ∃t,rS i ⟨b.block,b.off+14,none⟩ t /\
 NB t.a fun c0 d0=>Ib c t.n /\
 ∃e0,rS i ⟨c0,d0+c.toNat*1,none⟩ e0 /\
 ∃(f0 g0:Int),a6 i (aS f 0) [vI f0,vI g0] /\
 Wn i [vI e,vI (wrap .i64 (1+(b0.n:Int))),vI f0,vI g0] 276 fun u=>
 Sm [⟨c0,d0+c.toNat*1,none⟩,⟨b.block,b.off+14,none⟩,⟨b.block,b.off+14,none⟩] i u /\
 App Pz 274 274 (vS e0) (.slice (some (aS i 0)) 1 1) u fun D0 h0=>
 Sm [⟨b.block,b.off+14,none⟩] u h0 /\
 NB s.a fun E0 F0=>Ib c s.n /\
 Wp h0 ⟨E0,F0+c.toNat*1,none⟩ 1 [vS D0] fun G0=>
 ∃i0,i0<K/\J (wrap .i64 (k+1)) G0 i0)))
 (∃j0,j0<x/\w (wrap .i64 (j+1)) f j0))))
 (∃k0,k0<m4/\I2 (wrap .i64 (c+1)) d k0))
 (R (.tuple ⟨[]⟩) l)
theorem aaX(p0:Addr)(H:@W82 h R p0):Fn Pz 82 #[.pointer (some p0)] h R:=aY (A:=(.s .z (.b (.l [(16,.one (.int .i64))] (.s .z (.s .z (.s (.b (.s .z (.s .z (.b (.l [(27,.one (.int .i64))] (.s .z (.s .z (.s (.b (.s .z (.s .z (.s .z (AI 57))))) .z)))))))) .z))))))) H
def RH(q:Int)(f r:Heap)(b:Addr)(d h:Heap)(R:Value->Heap->Prop)(k:Int):Prop:=
 sB (q==1)
 (∃(s t:Int),a6 f (aS r 0) [vI s,vI t] /\
 Fn Pz 170 #[.pointer (some b),.agg ⟨[vI s,vI t]⟩] f
 (fun k2 l=>∃(u:Bool) (v w:Int) (l2:Bool),k2=.tuple ⟨[.agg ⟨(L5 u v w)⟩,.bool l2]⟩ /\
 Wn l [.bool false,vI 0,vI 0] 188 fun m2=>
 Wp m2 (aS l 0) 3 (L5 u v w) fun x=>
 ∃y z A,oP x (aS l 0) y z A /\
 Fn Pz 171 #[.pointer (some b),.agg ⟨(L5 y z A)⟩] x
 (fun n2 o2=>∃(B:Int) (C:Bool) (D E:Int) (F:Sl),n2=.agg ⟨(L4 B C D E F)⟩ /\
 Wp o2 (aS d 4) 5 (L4 B C D E F) fun G=>
 ∃H I J K L M N O P Q S T U V,ff G (aS d 0) H I J K L M N O P Q S T U V /\
 Wp G (aS h 0) 14 (L1 H I J K L M N O P Q S T U V) fun W=>
 ∃X Y Z a0 b0 c0 d0 e0 f0 g0 h0 i0 j0 k0,ff W (aS h 0) X Y Z a0 b0 c0 d0 e0 f0 g0 h0 i0 j0 k0 /\
 R (.tuple ⟨[.agg ⟨(L1 X Y Z a0 b0 c0 d0 e0 f0 g0 h0 i0 j0 k0)⟩,vI k]⟩) W)))
 (sB (q==4)
 (∃(l0 m0:Int),a6 f (aS r 0) [vI l0,vI m0] /\
 Fn Pz 152 #[.pointer (some b),.agg ⟨[vI l0,vI m0]⟩] f
 (fun p2 e=>∃(n0 o0 p0 q0:Int) (q2:Bool),p2=.tuple ⟨[.agg ⟨(L6 n0 o0 p0 q0)⟩,.bool q2]⟩ /\
 Wn e [vI 0,vI 0,vI 0,vI 0] 276 fun r2=>
 Wp r2 (aS e 0) 4 (L6 n0 o0 p0 q0) fun g=>
 ∃r0 s0 t0 u0 v0 w0 x0 y0,cS g b r0 s0 t0 u0 v0 w0 x0 y0 /\
 ∃z0,rI g (aS e 0) z0 /\
 ∃(A0 B0:Int),a6 g (aS e 2) [vI A0,vI B0] /\
 Fn Pz 32 #[.agg ⟨(L0 r0 s0 t0 u0 v0 w0 x0 y0)⟩,vI z0,.agg ⟨[vI A0,vI B0]⟩] g
 (fun s2 c=>∃(C0:Sl) (t2:Int),s2=.tuple ⟨[vS C0,vI t2]⟩ /\
 ∃m,rS c ⟨b.block,b.off+6,none⟩ m /\
 ∃i,rI c (aS e 0) i /\
 NB m.a fun D0 E0=>Ib i m.n /\
 ∃F0 G0 H0,gB c ⟨D0,E0+i.toNat*6+1,none⟩ F0 G0 H0 /\
 Wn c [vI 0,vI 0,vI 0] 65 fun I0=>
 Sm [⟨D0,E0+i.toNat*6+1,none⟩,(aS e 0),⟨b.block,b.off+6,none⟩] c I0 /\
 Wp I0 (aS c 0) 3 (L2 F0 G0 H0) fun j=>
 ∃J0,rS j (aS d 2) J0 /\
 ∃K0 M0 N0,gB j (aS c 0) K0 M0 N0 /\
 Wn j (L2 K0 M0 N0) 65 fun u2=>
 App Pz 30 30 (vS J0) (.slice (some (aS j 0)) 1 1) u2 fun v2 w2=>
 App Pz 30 30 (vS v2) (vS C0) w2 fun x2 y2=>
 Wp y2 (aS d 2) 1 [vS x2] fun o=>
 ∃O0,rI o (aS e 2) O0 /\
 ∃P0,rI o (aS e (2+1)) P0 /\
 Fn Pz 171 #[.pointer (some b),.agg ⟨[.bool false,vI O0,vI P0]⟩] o
 (fun z2 A2=>∃(Q0:Int) (R0:Bool) (S0 T0:Int) (U0:Sl),z2=.agg ⟨(L4 Q0 R0 S0 T0 U0)⟩ /\
 Wp A2 (aS d 4) 5 (L4 Q0 R0 S0 T0 U0) fun p=>
 ∃V0,rI p (aS c 0) V0 /\
 ∃W0,rI p (aS c 2) W0 /\
 Fn Pz 171 #[.pointer (some b),.agg ⟨[.bool false,vI V0,vI W0]⟩] p
 (fun B2 C2=>∃(X0:Int) (Y0:Bool) (Z0 a1:Int) (b1:Sl),B2=.agg ⟨(L4 X0 Y0 Z0 a1 b1)⟩ /\
 Wp C2 (aS d 9) 5 (L4 X0 Y0 Z0 a1 b1) fun c1=>
 ∃d1 e1 f1 g1 h1 i1 j1 k1 l1 m1 n1 o1 p1 q1,ff c1 (aS d 0) d1 e1 f1 g1 h1 i1 j1 k1 l1 m1 n1 o1 p1 q1 /\
 Wp c1 (aS h 0) 14 (L1 d1 e1 f1 g1 h1 i1 j1 k1 l1 m1 n1 o1 p1 q1) fun r1=>
 ∃s1 t1 u1 v1 w1 x1 y1 z1 A1 B1 C1 D1 E1 F1,ff r1 (aS h 0) s1 t1 u1 v1 w1 x1 y1 z1 A1 B1 C1 D1 E1 F1 /\
 R (.tuple ⟨[.agg ⟨(L1 s1 t1 u1 v1 w1 x1 y1 z1 A1 B1 C1 D1 E1 F1)⟩,vI k]⟩) r1)))))
 (∃G1 H1 I1 J1 K1 M1 N1 O1 P1 Q1 R1 S1 T1 U1,ff f (aS d 0) G1 H1 I1 J1 K1 M1 N1 O1 P1 Q1 R1 S1 T1 U1 /\
 Wp f (aS h 0) 14 (L1 G1 H1 I1 J1 K1 M1 N1 O1 P1 Q1 R1 S1 T1 U1) fun V1=>
 ∃W1 X1 Y1 Z1 a2 b2 c2 d2 e2 f2 g2 h2 i2 j2,ff V1 (aS h 0) W1 X1 Y1 Z1 a2 b2 c2 d2 e2 f2 g2 h2 i2 j2 /\
 R (.tuple ⟨[.agg ⟨(L1 W1 X1 Y1 Z1 a2 b2 c2 d2 e2 f2 g2 h2 i2 j2)⟩,vI k]⟩) V1))
def IA(p f:Heap)(R:Option Nat)(S e:Heap)(g:Addr)(q:Nat)(r:Heap->Nat->Prop):Prop:=
 ∃(s t:Int),a6 p (aS f 0) [vI s,vI t] /\
 bD Pz (Instr.lookup 93 (.map R) (.agg ⟨[vI s,vI t]⟩) false) p
 (fun T U=>∃h,iS T h /\
 Fn Pz 167 #[vS h,.func (.func 168) #[] #[.pointer (some (aS S 0)),.pointer (some (aS f 0))]] U
 (fun V c=>∃i,iI V i /\
 NB h.a fun W X=>Ib i h.n /\
 ∃u v w x,Ft c ⟨W,X+i.toNat*4,none⟩ u v w x /\
 Wn c [vI 0,vI 0,vI 0,vI 0] 200 fun Y=>
 Wp Y (aS c 0) 4 (L6 u v w x) fun d=>
 ∃j:Heap->Prop,
 (∃y,rI d (aS c 0) y /\
 sB (decide (y>=0))
 (∃z,rS d (aS e 2) z /\
 ∃k,rS d ⟨g.block,g.off+6,none⟩ k /\
 ∃l,rI d (aS c 0) l /\
 NB k.a fun Z a0=>Ib l k.n /\
 ∃A B C,gB d ⟨Z,a0+l.toNat*6+1,none⟩ A B C /\
 Wn d (L2 A B C) 65 fun D=>
 Sm [(aS e 2)] d D /\
 App Pz 30 30 (vS z) (.slice (some (aS d 0)) 1 1) D fun b0 c0=>
 Wp c0 (aS e 2) 1 [vS b0] fun d0=>
 j d0)
 (j d)) /\
 ∀(_:Env) (b:Heap),j b ->
 (∃E,rI b (aS c 1) E /\
 sB (decide (E>=0))
 (∃F,rS b (aS e 3) F /\
 ∃m,rS b ⟨g.block,g.off+6,none⟩ m /\
 ∃o,rI b (aS c 1) o /\
 NB m.a fun e0 f0=>Ib o m.n /\
 ∃G H I,gB b ⟨e0,f0+o.toNat*6+1,none⟩ G H I /\
 Wn b (L2 G H I) 65 fun J=>
 Sm [(aS e 3)] b J /\
 App Pz 30 30 (vS F) (.slice (some (aS b 0)) 1 1) J fun g0 h0=>
 Wp h0 (aS e 3) 1 [vS g0] fun K=>
 ∃(L M:Int),a6 K (aS c 2) [vI L,vI M] /\
 Wp K (aS f 0) 2 [vI L,vI M] fun i0=>
 ∃N,N<q/\r i0 N)
 (∃(O P:Int),a6 b (aS c 2) [vI O,vI P] /\
 Wp b (aS f 0) 2 [vI O,vI P] fun j0=>
 ∃Q,Q<q/\r j0 Q))))
def aau(p f:Heap)(R:Option Nat)(S e:Heap)(g:Addr)(q:Nat)(r:Heap->Nat->Prop):Prop:=
 ∃(s t:Int),a6 p (aS f 0) [vI s,vI t] /\
 bD Pz (Instr.lookup 93 (.map R) (.agg ⟨[vI s,vI t]⟩) false) p
 (fun T U=>∃h,iS T h /\
 Fn Pz 167 #[vS h,.func (.func 168) #[] #[.pointer (some (aS S 0)),.pointer (some (aS f 0))]] U
 (fun V c=>∃i,iI V i /\
 NB h.a fun W X=>Ib i h.n /\
 ∃u v w x,Ft c ⟨W,X+i.toNat*4,none⟩ u v w x /\
 Wn c [vI 0,vI 0,vI 0,vI 0] 200 fun Y=>
 Wp Y (aS c 0) 4 (L6 u v w x) fun d=>
 ∃j:Heap->Prop,
 (∃y,rI d (aS c 0) y /\
 sB (decide (y>=0))
 (∃z,rS d (aS e 2) z /\
 ∃k,rS d ⟨g.block,g.off+6,none⟩ k /\
 ∃l,rI d (aS c 0) l /\
 NB k.a fun Z a0=>Ib l k.n /\
 ∃A B C,gB d ⟨Z,a0+l.toNat*6+1,none⟩ A B C /\
 Wn d (L2 A B C) 65 fun D=>
 Sm [(aS e 2)] d D /\
 App Pz 30 30 (vS z) (.slice (some (aS d 0)) 1 1) D fun b0 c0=>
 Wp c0 (aS e 2) 1 [vS b0] fun d0=>
 j d0)
 (j d)) /\
 ∀(_:Env) (b:Heap),j b ->
 (∃E,rI b (aS c 1) E /\
 sB (decide (E>=0))
 (∃F,rS b (aS e 3) F /\
 ∃m,rS b ⟨g.block,g.off+6,none⟩ m /\
 ∃o,rI b (aS c 1) o /\
 NB m.a fun e0 f0=>Ib o m.n /\
 ∃G H I,gB b ⟨e0,f0+o.toNat*6+1,none⟩ G H I /\
 Wn b (L2 G H I) 65 fun J=>
 Sm [(aS e 3)] b J /\
 App Pz 30 30 (vS F) (.slice (some (aS b 0)) 1 1) J fun g0 h0=>
 Wp h0 (aS e 3) 1 [vS g0] fun K=>
 ∃(L M:Int),a6 K (aS c 2) [vI L,vI M] /\
 Wp K (aS f 0) 2 [vI L,vI M] fun i0=>
 ∃N,N<q/\r i0 N)
 (∃(O P:Int),a6 b (aS c 2) [vI O,vI P] /\
 Wp b (aS f 0) 2 [vI O,vI P] fun j0=>
 ∃Q,Q<q/\r j0 Q))))
def W96(a:Addr)(e:Int)(U:Sl)(i:Option Nat):Prop:=
 Wn h [vI 0,vI 0,vN,vN,vI 0,.bool false,vI 0,vI 0,vN,vI 0,.bool false,vI 0,vI 0,vN] 35 fun V=>
 Fn Pz 164 #[.pointer (some a),vI e,vS U,.map i] V
 (fun W d=>∃n:Option Nat,W=.map n /\
 Wn d [.map none] 293 fun X=>
 Wp X (aS d 0) 1 [.map n] fun b=>
 ∃o,rI b ⟨a.block,a.off+4,none⟩ o /\
 ∃p,rI b ⟨a.block,a.off+4,none⟩ p /\
 Wn b [vI 0,vI 0] 97 fun q=>
 Sm [⟨a.block,a.off+4,none⟩,⟨a.block,a.off+4,none⟩] b q /\
 Wp q (aS b 0) 2 [vI o,vI p] fun j=>
 ∃r:Option Nat,hc j (aS d 0)=some (.map r) /\
 ∃(s t:Int),a6 j (aS b 0) [vI s,vI t] /\
 Fn Pz 165 #[.map r,.agg ⟨[vI s,vI t]⟩] j
 (fun Y c=>∃k,iI Y k /\
 sB (k==1073741824)
 (Wp c (aS h 0) 14 [vI 0,vI 0,vN,vN,vI 0,.bool false,vI 0,vI 0,vN,vI 0,.bool false,vI 0,vI 0,vN] fun u=>
 ∃v w x y z A B C D E F G H I,ff u (aS h 0) v w x y z A B C D E F G H I /\
 R (.tuple ⟨[.agg ⟨(L1 v w x y z A B C D E F G H I)⟩,vI 1073741824]⟩) u)
 (∃J,rI c ⟨a.block,a.off+8,none⟩ J /\
 Wn c [vI 0,vI 0,vN,vN,vI 0,.bool false,vI 0,vI 0,vN,vI 0,.bool false,vI 0,vI 0,vN] 35 fun Z=>
 Wp Z (aS c 0) 14 [vI e,vI J,vN,vN,vI 0,.bool false,vI 0,vI 0,vN,vI 0,.bool false,vI 0,vI 0,vN] fun a0=>
 ∃f:Heap->Nat->Prop,(∃b0,f a0 b0) /\
 ∀(_:Env) (l:Heap) (m:Nat),f l m ->
 (∃(K L:Int),a6 l (aS b 0) [vI K,vI L] /\
 Fn Pz 166 #[.pointer (some a),vI e,.agg ⟨[vI K,vI L]⟩] l
 (fun c0 g=>∃(M:Int) (N:Bool),c0=.tuple ⟨[vI M,.bool N]⟩ /\
 sB N
 (∃O:Option Nat,hc g (aS d 0)=some (.map O) /\
 ∃(P Q:Int),a6 g (aS b 0) [vI P,vI Q] /\
 Fn Pz 165 #[.map O,.agg ⟨[vI P,vI Q]⟩] g
 (fun d0 S=>∃T,iI d0 T /\
 sB (M==T)
 (RH e S b a c h R k)
 (IA S b i d c a m f)))
 (aau g b i d c a m f))))))
theorem aaN(p0:Addr)(p1:Int)(p2:Sl)(p3:Option Nat)(H:@W96 h R p0 p1 p2 p3):Fn Pz 96 #[.pointer (some p0),vI p1,vS p2,.map p3] h R:=aY (A:=(.s .z (.s .z (.s .z (.s .z (.s .z (.s .z (.s (.b (.l [] (.b (.s .z (.s .z (.s .z (.j [] .z .z))))))) .z)))))))) H
def ZJ(g:Sl)(m:Value):Prop:=
 QI 0 h fun k b f l=>
 sB (decide (b<(g.n:Int)))
 (NB g.a fun o p=>Ib b g.n /\
 ∃i,rI f ⟨o,p+b.toNat*1,none⟩ i /\
 match m with | .func (.func g9) fa10 fc11=>(bif aJ Pz g9 then Fn Pz g9 (fa10 ++ #[vI i]++fc11) f
 (fun j c=>∃d,iB j d /\
 sB d
 (R (vI b) c)
 (∃e,e<l/\k (wrap .i64 (b+1)) c e)) else vu Pz g9 (fa10 ++ #[vI i]++fc11) f
 (fun j c=>∃d,iB j d /\
 sB d
 (R (vI b) c)
 (∃e,e<l/\k (wrap .i64 (b+1)) c e))) | _=>False)
 (R (vI (-1)) f)
theorem Uq(p0:Sl)(p1:Value)(H:@ZJ h R p0 p1):Fn Pz 172 #[vS p0,p1] h R:=aY (A:=(.s .z (.s (AI 8) .z))) H
def ZI(g:Int)(i o p:Addr):Prop:=
 ∃b,rS h i b /\
 ∃j:Option Addr,hc h o=some (.pointer j) /\
 NC j fun k=>∃c,rS h ⟨k.block,k.off+6,none⟩ c /\
 NB c.a fun q r=>Ib g c.n /\
 ∃d,rI h ⟨q,r+g.toNat*6+4,none⟩ d /\
 NB b.a fun s t=>Ib d b.n /\
 ∃l,rI h ⟨s,t+d.toNat*1,none⟩ l /\
 ∃e,rS h i e /\
 ∃f,rI h p f /\
 NB e.a fun u v=>Ib f e.n /\
 ∃m,rI h ⟨u,v+f.toNat*1,none⟩ m /\
 R (.bool (l==(wrap .i64 (m-1)))) h
theorem Uo(p0:Int)(c0 c1 c2:Addr)(H:@ZI h R p0 c0 c1 c2):Fn Pz 173 #[vI p0,.pointer (some c0),.pointer (some c1),.pointer (some c2)] h R:=aY (A:=.z) H
def ZH(g:Sl)(p:Value):Prop:=
 QI 0 h fun m b f o=>
 sB (decide (b<(g.n:Int)))
 (NB g.a fun q r=>Ib b g.n /\
 ∃i j k,oP f ⟨q,r+b.toNat*3,none⟩ i j k /\
 match p with | .func (.func g11) fa12 fc13=>(bif aJ Pz g11 then Fn Pz g11 (fa12 ++ #[.agg ⟨(L5 i j k)⟩]++fc13) f
 (fun l c=>∃d,iB l d /\
 sB d
 (R (vI b) c)
 (∃e,e<o/\m (wrap .i64 (b+1)) c e)) else vu Pz g11 (fa12 ++ #[.agg ⟨(L5 i j k)⟩]++fc13) f
 (fun l c=>∃d,iB l d /\
 sB d
 (R (vI b) c)
 (∃e,e<o/\m (wrap .i64 (b+1)) c e))) | _=>False)
 (R (vI (-1)) f)
theorem Un(p0:Sl)(p1:Value)(H:@ZH h R p0 p1):Fn Pz 174 #[vS p0,p1] h R:=aY (A:=(.s .z (.s (AI 8) .z))) H
def ZG(pa:Bool)(pb pc:Int):Prop:=
 Wn h (L5 pa pb pc) 188 fun a=>
 ∃b,rB a (aS h 0) b /\
 R (.bool (!b)) a
theorem Um(pa:Bool)(pb pc:Int)(H:@ZG h R pa pb pc):Fn Pz 175 #[.agg ⟨(L5 pa pb pc)⟩] h R:=aY (A:=.z) H
def RG(b h o d e:Heap)(R:Value->Heap->Prop)(p:Int):Prop:=
 ∃q:Option Addr,hc b (aS h 0)=some (.pointer q) /\
 NC q fun f=>∃k,rS b ⟨f.block,f.off+10,none⟩ k /\
 ∃g,rI b (aS o 0) g /\
 NB k.a fun r s=>Ib g k.n /\
 ∃(t:Sl) (u:Bool),a6 b ⟨r,s+g.toNat*2,none⟩ [vS t,.bool u] /\
 Wn b [vN,.bool false] 195 fun v=>
 Sm [⟨r,s+g.toNat*2,none⟩,(aS o 0),⟨f.block,f.off+10,none⟩,(aS h 0)] b v /\
 Wp v (aS b 0) 2 [vS t,.bool u] fun i=>
 ∃w:Option Addr,hc i (aS h 0)=some (.pointer w) /\
 ∃l,rS i (aS b 0) l /\
 NB l.a fun Y0 Z0=>Ib 0 l.n /\
 ∃x y z,oP i ⟨Y0,Z0+Int.toNat 0*3,none⟩ x y z /\
 Fn Pz 171 #[.pointer w,.agg ⟨(L5 x y z)⟩] i
 (fun a1 b1=>∃(A:Int) (B:Bool) (C D:Int) (E:Sl),a1=.agg ⟨(L4 A B C D E)⟩ /\
 Wp b1 (aS d 4) 5 (L4 A B C D E) fun c1=>
 Wp c1 (aS d 9) 5 [vI (-1),.bool false,vI 0,vI 0,vN] fun F=>
 ∃G,rS F (aS b 0) G /\
 Fn Pz 174 #[vS G,.func (.func 175) #[] #[]] F
 (fun d1 c=>∃j,iI d1 j /\
 sB (decide (j>=0))
 (∃H:Option Addr,hc c (aS h 0)=some (.pointer H) /\
 ∃m,rS c (aS b 0) m /\
 NB m.a fun e1 f1=>Ib j m.n /\
 ∃I J K,oP c ⟨e1,f1+j.toNat*3,none⟩ I J K /\
 Fn Pz 171 #[.pointer H,.agg ⟨(L5 I J K)⟩] c
 (fun g1 h1=>∃(L:Int) (M:Bool) (N O:Int) (P:Sl),g1=.agg ⟨(L4 L M N O P)⟩ /\
 Wp h1 (aS d 9) 5 (L4 L M N O P) fun Q=>
 ∃S T U V W X Y Z a0 b0 c0 d0 e0 f0,ff Q (aS d 0) S T U V W X Y Z a0 b0 c0 d0 e0 f0 /\
 Wp Q (aS e 0) 14 (L1 S T U V W X Y Z a0 b0 c0 d0 e0 f0) fun g0=>
 ∃h0 i0 j0 k0 l0 m0 n0 o0 p0 q0 r0 s0 t0 u0,ff g0 (aS e 0) h0 i0 j0 k0 l0 m0 n0 o0 p0 q0 r0 s0 t0 u0 /\
 R (.tuple ⟨[.agg ⟨(L1 h0 i0 j0 k0 l0 m0 n0 o0 p0 q0 r0 s0 t0 u0)⟩,vI (wrap .i64 (2*p))]⟩) g0))
 (∃v0 w0 x0 y0 z0 A0 B0 C0 D0 E0 F0 G0 H0 I0,ff c (aS d 0) v0 w0 x0 y0 z0 A0 B0 C0 D0 E0 F0 G0 H0 I0 /\
 Wp c (aS e 0) 14 (L1 v0 w0 x0 y0 z0 A0 B0 C0 D0 E0 F0 G0 H0 I0) fun J0=>
 ∃K0 L0 M0 N0 O0 P0 Q0 R0 S0 T0 U0 V0 W0 X0,ff J0 (aS e 0) K0 L0 M0 N0 O0 P0 Q0 R0 S0 T0 U0 V0 W0 X0 /\
 R (.tuple ⟨[.agg ⟨(L1 K0 L0 M0 N0 O0 P0 Q0 R0 S0 T0 U0 V0 W0 X0)⟩,vI (wrap .i64 (2*p))]⟩) J0)))
def RC(b h c D p:Heap)(E:Nat)(F:Heap->Nat->Prop):Prop:=
 ∃G:Option Addr,hc b (aS h 0)=some (.pointer G) /\
 NC G fun d=>∃j,rS b ⟨d.block,d.off+6,none⟩ j /\
 ∃H:Option Addr,hc b (aS h 0)=some (.pointer H) /\
 NC H fun e=>∃v,rS b ⟨e.block,e.off+9,none⟩ v /\
 ∃g,rI b (aS c 0) g /\
 NB v.a fun k l=>Ib g v.n /\
 ∃m,rS b ⟨k,l+g.toNat*1,none⟩ m /\
 ∃I:Option Addr,hc b (aS h 0)=some (.pointer I) /\
 NC I fun i=>∃w,rS b ⟨i.block,i.off+9,none⟩ w /\
 ∃o,rI b (aS c 0) o /\
 NB w.a fun x y=>Ib o w.n /\
 ∃z,rS b ⟨x,y+o.toNat*1,none⟩ z /\
 (Fn Pz 172 #[vS z,.func (.func 173) #[] #[.pointer (some (aS D 0)),.pointer (some (aS h 0)),.pointer (some (aS c 0))]] b
 (fun o0 f=>∃q,iI o0 q /\
 Sm [⟨k,l+g.toNat*1,none⟩,(aS c 0),⟨e.block,e.off+9,none⟩,(aS h 0),⟨d.block,d.off+6,none⟩,(aS h 0)] b f /\
 NB m.a fun J K=>Ib q m.n /\
 ∃r,rI f ⟨J,K+q.toNat*1,none⟩ r /\
 NB j.a fun L M=>Ib r j.n /\
 ∃N O P Q R S,gR f ⟨L,M+r.toNat*6,none⟩ N O P Q R S /\
 Wn f [vI 0,vI 0,vI 0,vI 0,vI 0,.bool false] 67 fun T=>
 Sm [⟨L,M+r.toNat*6,none⟩,⟨J,K+q.toNat*1,none⟩,⟨x,y+o.toNat*1,none⟩,(aS c 0),⟨i.block,i.off+9,none⟩,(aS h 0),⟨k,l+g.toNat*1,none⟩,(aS c 0),⟨e.block,e.off+9,none⟩,(aS h 0),⟨d.block,d.off+6,none⟩,(aS h 0)] f T /\
 Wp T (aS f 0) 6 (L3 N O P Q R S) fun s=>
 ∃U,rS s (aS p 2) U /\
 ∃V W X,gB s (aS f 1) V W X /\
 Wn s (L2 V W X) 65 fun p0=>
 App Pz 30 30 (vS U) (.slice (some (aS s 0)) 1 1) p0 fun q0 r0=>
 Wp r0 (aS p 2) 1 [vS q0] fun Y=>
 ∃Z,rI Y (aS f 4) Z /\
 Wp Y (aS c 0) 1 [vI Z] fun s0=>
 ∃a0,a0<E/\F s0 a0))/\Wn b [vI 0,vI 0,vI 0,vI 0,vI 0,.bool false] 67 fun A=>
 Sm [⟨x,y+o.toNat*1,none⟩,(aS c 0),⟨i.block,i.off+9,none⟩,(aS h 0),⟨k,l+g.toNat*1,none⟩,(aS c 0),⟨e.block,e.off+9,none⟩,(aS h 0),⟨d.block,d.off+6,none⟩,(aS h 0)] b A /\
 Fn Pz 172 #[vS z,.func (.func 173) #[] #[.pointer (some (aS D 0)),.pointer (some (aS h 0)),.pointer (some (aS c 0))]] A
 (fun t0 t=>∃B,iI t0 B /\
 Sm [⟨k,l+g.toNat*1,none⟩,(aS c 0),⟨e.block,e.off+9,none⟩,(aS h 0),⟨d.block,d.off+6,none⟩,(aS h 0)] A t /\
 NB m.a fun u0 v0=>Ib B m.n /\
 ∃C,rI t ⟨u0,v0+B.toNat*1,none⟩ C /\
 NB j.a fun w0 x0=>Ib C j.n /\
 ∃b0 c0 d0 e0 f0 g0,gR t ⟨w0,x0+C.toNat*6,none⟩ b0 c0 d0 e0 f0 g0 /\
 Wp t (aS b 0) 6 (L3 b0 c0 d0 e0 f0 g0) fun u=>
 ∃h0,rS u (aS p 2) h0 /\
 ∃i0 j0 k0,gB u (aS b 1) i0 j0 k0 /\
 Wn u (L2 i0 j0 k0) 65 fun y0=>
 App Pz 30 30 (vS h0) (.slice (some (aS u 0)) 1 1) y0 fun z0 A0=>
 Wp A0 (aS p 2) 1 [vS z0] fun l0=>
 ∃m0,rI l0 (aS b 4) m0 /\
 Wp l0 (aS c 0) 1 [vI m0] fun B0=>
 ∃n0,n0<E/\F B0 n0)
def Iz(c h e f:Heap)(R:Value->Heap->Prop):Prop:=
 ∃p:Option Addr,hc c (aS h 0)=some (.pointer p) /\
 NC p fun q=>∃r,rI c ⟨q.block,q.off+4,none⟩ r /\
 Wn c [vI 0] 3 fun O=>
 Wp O (aS c 0) 1 [vI r] fun b=>
 ∃g,rS b (aS e 0) g /\
 ∃i,rI b (aS c 0) i /\
 NB g.a fun P Q=>Ib i g.n /\
 ∃s,rI b ⟨P,Q+i.toNat*1,none⟩ s /\
 sB (s==1073741824)
 (Wp b (aS f 0) 14 [vI 0,vI 0,vN,vN,vI 0,.bool false,vI 0,vI 0,vN,vI 0,.bool false,vI 0,vI 0,vN] fun t=>
 ∃u v w x y z A B C D E F G H,ff t (aS f 0) u v w x y z A B C D E F G H /\
 R (.tuple ⟨[.agg ⟨(L1 u v w x y z A B C D E F G H)⟩,vI 1073741824]⟩) t)
 (∃j,rS b (aS e 0) j /\
 ∃k,rI b (aS c 0) k /\
 NB j.a fun S T=>Ib k j.n /\
 ∃I,rI b ⟨S,T+k.toNat*1,none⟩ I /\
 ∃J:Option Addr,hc b (aS h 0)=some (.pointer J) /\
 NC J fun K=>∃L,rI b ⟨K.block,K.off+8,none⟩ L /\
 Wn b [vI 0,vI 0,vN,vN,vI 0,.bool false,vI 0,vI 0,vN,vI 0,.bool false,vI 0,vI 0,vN] 35 fun U=>
 Wp U (aS b 0) 14 [vI 2,vI L,vN,vN,vI 0,.bool false,vI 0,vI 0,vN,vI 0,.bool false,vI 0,vI 0,vN] fun V=>
 ∃l:Heap->Nat->Prop,(∃W,l V W) /\
 ∀(_:Env) (d:Heap) (M:Nat),l d M ->
 (∃m,rS d (aS e 0) m /\
 ∃o,rI d (aS c 0) o /\
 NB m.a fun X Y=>Ib o m.n /\
 ∃N,rI d ⟨X,Y+o.toNat*1,none⟩ N /\
 sB (decide (N>0))
 (RC d h c e b M l)
 (RG d h c b f R I)))
def aat(v:Sl)(w:Heap)(f:Sl)(g:Heap)(h:Int)(x:Nat)(y:Sl->Int->Heap->Nat->Prop):Prop:=
 mF v 0 w fun m d e b o=>
 sB (decide (e<(f.n:Int)))
 (NB f.a fun z A=>Ib e f.n /\
 ∃c,rI b ⟨z,A+e.toNat*1,none⟩ c /\
 ∃i,rS b (aS g 0) i /\
 NB i.a fun B C=>Ib c i.n /\
 ∃p,rI b ⟨B,C+c.toNat*1,none⟩ p /\
 sB (p==1073741824)
 (∃j,rS b (aS g 0) j /\
 ∃k,rS b (aS g 0) k /\
 NB d.a fun D E=>Ib h d.n /\
 ∃l,rI b ⟨D,E+h.toNat*1,none⟩ l /\
 NB k.a fun F G=>Ib l k.n /\
 ∃q,rI b ⟨F,G+l.toNat*1,none⟩ q /\
 NB j.a fun H I=>Ib c j.n /\
 Wp b ⟨H,I+c.toNat*1,none⟩ 1 [vI (wrap .i64 (q+1))] fun r=>
 Wn r [vI c] 3 fun J=>
 App Pz 102 102 (vS d) (.slice (some (aS r 0)) 1 1) J fun K L=>
 ∃s,s<o/\m K (wrap .i64 (e+1)) L s)
 (∃t,t<o/\m d (wrap .i64 (e+1)) b t))
 (∃u,u<x/\y d (wrap .i64 (h+1)) b u)
def RD(i:Sl)(j:Heap)(k:Int)(l f h m:Heap)(R:Value->Heap->Prop):Prop:=
 mF i 0 j fun o b c d p=>
 sB (decide (c<(b.n:Int)))
 (NB b.a fun q r=>Ib c b.n /\
 ∃e,rI d ⟨q,r+c.toNat*1,none⟩ e /\
 (0<=(e:Int)/\(e:Int)<((k.toNat):Nat)) /\
 ∃g,rS d (aS l (0+e.toNat*1)) g /\
 aat b d g f c p o)
 (Iz d h f m R)
def RF(l c h:Heap)(y:Int)(z A:Heap)(R:Value->Heap->Prop):Prop:=
 ∃m,rS l (aS c 0) m /\
 mF ⟨none,0,0⟩ 0 l fun o e b f p=>
 sB (decide (b<(m.n:Int)))
 (∃g,rS f (aS c 0) g /\
 NB g.a fun B C=>Ib b g.n /\
 Wp f ⟨B,C+b.toNat*1,none⟩ 1 [vI 1073741824] fun d=>
 ∃q:Option Addr,hc d (aS h 0)=some (.pointer q) /\
 NC q fun r=>∃i,rS d ⟨r.block,r.off+10,none⟩ i /\
 NB i.a fun D E=>Ib b i.n /\
 ∃(s:Sl) (t:Bool),a6 d ⟨D,E+b.toNat*2,none⟩ [vS s,.bool t] /\
 Fn Pz 149 #[.agg ⟨[vS s,.bool t]⟩] d
 (fun F j=>∃u,iB F u /\
 sB u
 (∃k,rS j (aS c 0) k /\
 NB k.a fun G H=>Ib b k.n /\
 Wp j ⟨G,H+b.toNat*1,none⟩ 1 [vI 0] fun v=>
 Wn v [vI b] 3 fun I=>
 App Pz 102 102 (vS e) (.slice (some (aS v 0)) 1 1) I fun J K=>
 ∃w,w<p/\o J (wrap .i64 (b+1)) K w)
 (∃x,x<p/\o e (wrap .i64 (b+1)) j x)))
 (RD e f y z c h A R)
def W97(H:Addr):Prop:=
 Wn h [.pointer (some H)] 89 fun q=>
 Wn q [vI 0,vI 0,vN,vN,vI 0,.bool false,vI 0,vI 0,vN,vI 0,.bool false,vI 0,vI 0,vN] 35 fun c=>
 ∃r:Option Addr,hc c (aS h 0)=some (.pointer r) /\
 NC r fun s=>∃d,rI c ⟨s.block,s.off+3,none⟩ d /\
 Mk d d 24/\Wn c (ai Pz 102 (d.toNat)) 102 fun i=>
 ∃t:Option Addr,hc i (aS h 0)=some (.pointer t) /\
 NC t fun u=>∃f,rI i ⟨u.block,u.off+3,none⟩ f /\
 Mk f f 8/\Wn i (ai Pz 3 (f.toNat)) 3 fun m=>
 Wn m [vN] 102 fun I=>
 Wp I (aS m 0) 1 [.slice (some (aS i 0)) (f.toNat) (f.toNat)] fun o=>
 ∃v:Option Addr,hc o (aS h 0)=some (.pointer v) /\
 NC v fun w=>∃j,rS o ⟨w.block,w.off+6,none⟩ j /\
 QI 0 o fun J k b K=>
 sB (decide (k<(j.n:Int)))
 (NB j.a fun L M=>Ib k j.n /\
 ∃x y z A B C,gR b ⟨L,M+k.toNat*6,none⟩ x y z A B C /\
 Wn b [vI 0,vI 0,vI 0,vI 0,vI 0,.bool false] 67 fun N=>
 Wp N (aS b 0) 6 (L3 x y z A B C) fun e=>
 ∃l,rI e (aS b 4) l /\
 ∃g,rI e (aS b 4) g /\
 (0<=(g:Int)/\(g:Int)<((d.toNat):Nat)) /\
 ∃D,rS e (aS c (0+g.toNat*1)) D /\
 ∃E,rI e (aS b 0) E /\
 Wn e [vI E] 3 fun p=>
 Sm [(aS c (0+g.toNat*1)),(aS b 4),(aS b 4)] e p /\
 App Pz 102 102 (vS D) (.slice (some (aS e 0)) 1 1) p fun O F=>
 Sm [(aS b 4)] p F /\
 (0<=(l:Int)/\(l:Int)<((d.toNat):Nat)) /\
 Wp F (aS c (0+l.toNat*1)) 1 [vS O] fun P=>
 ∃G,G<K/\J (wrap .i64 (k+1)) P G)
 (RF b m h d c q R)
theorem aaM(p0:Addr)(H:@W97 h R p0):Fn Pz 97 #[.pointer (some p0)] h R:=aY (A:=(.s .z (.s .z (.s .z (.s .z (.s (AI 37) (.s (AJ 6 57) (.s (.s .z (.b (.l [(6,.one (.slice)),(10,.one (.int .i64))] (.s .z (.s (.b (AJ 6 93)) .z))))) (.s .z (.s .z (.s .z (.s .z (.s (.b (.l [] .z)) .z))))))))))))) H
def W95(J K L:Addr):Prop:=
 Wn h [vI 0,vI 0,vN,vN,vI 0,.bool false,vI 0,vI 0,vN,vI 0,.bool false,vI 0,vI 0,vN] 35 fun a=>
 ∃b:Option Addr,hc a J=some (.pointer b) /\
 ∃c,rS a K c /\
 ∃d:Option Nat,hc a L=some (.map d) /\
 Fn Pz 96 #[.pointer b,vI 1,vS c,.map d] a
 (fun M N=>∃(e f:Int) (g i:Sl) (j:Int) (k:Bool) (l m:Int) (n:Sl) (o:Int) (p:Bool) (q r:Int) (s:Sl) (t:Int),M=.tuple ⟨[.agg ⟨(L1 e f g i j k l m n o p q r s)⟩,vI t]⟩ /\
 Wp N (aS h 0) 14 (L1 e f g i j k l m n o p q r s) fun u=>
 ∃v w x y z A B C D E F G H I,ff u (aS h 0) v w x y z A B C D E F G H I /\
 R (.tuple ⟨[.agg ⟨(L1 v w x y z A B C D E F G H I)⟩,vI t]⟩) u)
theorem aaO(c0 c1 c2:Addr)(H:@W95 h R c0 c1 c2):Fn Pz 95 #[.pointer (some c0),.pointer (some c1),.pointer (some c2)] h R:=aY (A:=.z) H
def W98(J K L:Addr):Prop:=
 Wn h [vI 0,vI 0,vN,vN,vI 0,.bool false,vI 0,vI 0,vN,vI 0,.bool false,vI 0,vI 0,vN] 35 fun a=>
 ∃b:Option Addr,hc a J=some (.pointer b) /\
 ∃c,rS a K c /\
 ∃d:Option Nat,hc a L=some (.map d) /\
 Fn Pz 96 #[.pointer b,vI 3,vS c,.map d] a
 (fun M N=>∃(e f:Int) (g i:Sl) (j:Int) (k:Bool) (l m:Int) (n:Sl) (o:Int) (p:Bool) (q r:Int) (s:Sl) (t:Int),M=.tuple ⟨[.agg ⟨(L1 e f g i j k l m n o p q r s)⟩,vI t]⟩ /\
 Wp N (aS h 0) 14 (L1 e f g i j k l m n o p q r s) fun u=>
 ∃v w x y z A B C D E F G H I,ff u (aS h 0) v w x y z A B C D E F G H I /\
 R (.tuple ⟨[.agg ⟨(L1 v w x y z A B C D E F G H I)⟩,vI t]⟩) u)
theorem aaL(c0 c1 c2:Addr)(H:@W98 h R c0 c1 c2):Fn Pz 98 #[.pointer (some c0),.pointer (some c1),.pointer (some c2)] h R:=aY (A:=.z) H
def W99(J K L:Addr):Prop:=
 Wn h [vI 0,vI 0,vN,vN,vI 0,.bool false,vI 0,vI 0,vN,vI 0,.bool false,vI 0,vI 0,vN] 35 fun a=>
 ∃b:Option Addr,hc a J=some (.pointer b) /\
 ∃c,rS a K c /\
 ∃d:Option Nat,hc a L=some (.map d) /\
 Fn Pz 96 #[.pointer b,vI 4,vS c,.map d] a
 (fun M N=>∃(e f:Int) (g i:Sl) (j:Int) (k:Bool) (l m:Int) (n:Sl) (o:Int) (p:Bool) (q r:Int) (s:Sl) (t:Int),M=.tuple ⟨[.agg ⟨(L1 e f g i j k l m n o p q r s)⟩,vI t]⟩ /\
 Wp N (aS h 0) 14 (L1 e f g i j k l m n o p q r s) fun u=>
 ∃v w x y z A B C D E F G H I,ff u (aS h 0) v w x y z A B C D E F G H I /\
 R (.tuple ⟨[.agg ⟨(L1 v w x y z A B C D E F G H I)⟩,vI t]⟩) u)
theorem aaK(c0 c1 c2:Addr)(H:@W99 h R c0 c1 c2):Fn Pz 99 #[.pointer (some c0),.pointer (some c1),.pointer (some c2)] h R:=aY (A:=.z) H
def RT(a:Heap)(x y:Int)(z A:Sl)(B:Int)(C:Bool)(D E:Int)(F:Sl)(G:Int)(H:Bool)(I J:Int)(K:Sl)(c d:Int)(L:Heap)(e:Nat)(f:Int->Int->Heap->Nat->Prop)(g:Int):Prop:=
 Wn a [vI 0,vI 0,vN,vN,vI 0,.bool false,vI 0,vI 0,vN,vI 0,.bool false,vI 0,vI 0,vN] 35 fun M=>
 Wp M (aS a 0) 14 (L1 x y z A B C D E F G H I J K) fun b=>
 sB (decide (c<d))
 (∃h i j k l m n o p q r s t u,ff b (aS a 0) h i j k l m n o p q r s t u /\
 Wp b (aS L 0) 14 (L1 h i j k l m n o p q r s t u) fun N=>
 ∃v,v<e/\f c (wrap .i64 (g+1)) N v)
 (∃w,w<e/\f d (wrap .i64 (g+1)) b w)
def W41(pa:ByteArray)(pb pc:Sl)(pd pe pf:Int)(pg ph:Sl)(p1:Int):Prop:=
 Wn h (L0 pa pb pc pd pe pf pg ph) 27 fun d=>
 Wn d [vI 0,vI 0,vN,vN,vI 0,.bool false,vI 0,vI 0,vN,vI 0,.bool false,vI 0,vI 0,vN] 35 fun G=>
 ∃H I J K L M N O,cS G (aS h 0) H I J K L M N O /\
 Fn Pz 49 #[.agg ⟨(L0 H I J K L M N O)⟩,vI p1] G
 (fun n1 a=>∃P:Option Addr,∃A:Int,n1=.tuple ⟨[.pointer P,vI A]⟩ /\
 Wn a [.pointer none] 89 fun o1=>
 Wp o1 (aS a 0) 1 [.pointer P] fun B=>
 sB (A != 0)
 (Wp B (aS d 0) 14 [vI 0,vI 0,vN,vN,vI 0,.bool false,vI 0,vI 0,vN,vI 0,.bool false,vI 0,vI 0,vN] fun Q=>
 ∃S T U V W X Y Z a0 b0 c0 d0 e0 f0,ff Q (aS d 0) S T U V W X Y Z a0 b0 c0 d0 e0 f0 /\
 R (.tuple ⟨[.agg ⟨(L1 S T U V W X Y Z a0 b0 c0 d0 e0 f0)⟩,vI 1073741824,vI A]⟩) Q)
 (∃g0:Option Addr,hc B (aS a 0)=some (.pointer g0) /\
 Fn Pz 82 #[.pointer g0] B
 (fun p1 h0=>p1=.tuple ⟨[]⟩ /\
 ∃i0:Option Addr,hc h0 (aS a 0)=some (.pointer i0) /\
 Fn Pz 50 #[.pointer i0] h0
 (fun q1 e=>∃j0:Sl,∃k0:Option Nat,q1=.tuple ⟨[vS j0,.map k0]⟩ /\
 Wn e [vN] 92 fun f=>
 Wn f [.map none] 93 fun r1=>
 Wp r1 (aS e 0) 1 [vS j0] fun s1=>
 Wp s1 (aS f 0) 1 [.map k0] fun g=>
 Wn g [vI 0,vI 0,vN,vN,vI 0,.bool false,vI 0,vI 0,vN,vI 0,.bool false,vI 0,vI 0,vN] 35 fun t1=>
 Wp t1 (aS g 0) 14 [vI 0,vI 0,vN,vN,vI 0,.bool false,vI 0,vI 0,vN,vI 0,.bool false,vI 0,vI 0,vN] fun x=>
 ∃l0:Option Addr,hc x (aS a 0)=some (.pointer l0) /\
 Wn x [.nilFunc,.nilFunc,.nilFunc,.nilFunc] 178 fun u1=>
 Wp u1 (aS x 0) 4 [.func (.func 95) #[] #[.pointer (some (aS a 0)),.pointer (some (aS e 0)),.pointer (some (aS f 0))],.func (.func 97) #[.pointer l0] #[],.func (.func 98) #[] #[.pointer (some (aS a 0)),.pointer (some (aS e 0)),.pointer (some (aS f 0))],.func (.func 99) #[] #[.pointer (some (aS a 0)),.pointer (some (aS e 0)),.pointer (some (aS f 0))]] fun m0=>
 ∃n0:Value,∃o0:Value,∃p0:Value,∃q0:Value,a6 m0 (aS x 0) [n0,o0,p0,q0] /\
 CZ 1073741824 0 m0 fun C y b z D=>
 sB (decide (b<4))
 (Ib b 4/\∃r0:Value,List.take 1 (List.drop (b.toNat*1) ([n0,o0,p0,q0]:List Value))=[r0] /\
 match r0 with | .func (.func g68) fa69 fc70=>(bif aJ Pz g68 then Fn Pz g68 (fa69 ++ #[]++fc70) z
 (fun E i=>∃(j k:Int) (l m:Sl) (n:Int) (o:Bool) (p q:Int) (r:Sl) (s:Int) (t:Bool) (u v:Int) (w:Sl) (c:Int),E=.tuple ⟨[.agg ⟨(L1 j k l m n o p q r s t u v w)⟩,vI c]⟩ /\
 RT i j k l m n o p q r s t u v w c y g D C b) else vu Pz g68 (fa69 ++ #[]++fc70) z
 (fun E i=>∃(j k:Int) (l m:Sl) (n:Int) (o:Bool) (p q:Int) (r:Sl) (s:Int) (t:Bool) (u v:Int) (w:Sl) (c:Int),E=.tuple ⟨[.agg ⟨(L1 j k l m n o p q r s t u v w)⟩,vI c]⟩ /\
 Wn i [vI 0,vI 0,vN,vN,vI 0,.bool false,vI 0,vI 0,vN,vI 0,.bool false,vI 0,vI 0,vN] 35 fun v1=>
 Wp v1 (aS i 0) 14 (L1 j k l m n o p q r s t u v w) fun F=>
 sB (decide (c<y))
 (∃s0 t0 u0 v0 w0 x0 y0 z0 A0 B0 C0 D0 E0 F0,ff F (aS i 0) s0 t0 u0 v0 w0 x0 y0 z0 A0 B0 C0 D0 E0 F0 /\
 Wp F (aS g 0) 14 (L1 s0 t0 u0 v0 w0 x0 y0 z0 A0 B0 C0 D0 E0 F0) fun w1=>
 ∃G0,G0<D/\C c (wrap .i64 (b+1)) w1 G0)
 (∃H0,H0<D/\C y (wrap .i64 (b+1)) F H0))) | _=>False)
 (∃I0 J0 K0 M0 N0 O0 P0 Q0 R0 S0 T0 U0 V0 W0,ff z (aS g 0) I0 J0 K0 M0 N0 O0 P0 Q0 R0 S0 T0 U0 V0 W0 /\
 Wp z (aS d 0) 14 (L1 I0 J0 K0 M0 N0 O0 P0 Q0 R0 S0 T0 U0 V0 W0) fun X0=>
 ∃Y0 Z0 a1 b1 c1 d1 e1 f1 g1 h1 i1 j1 k1 l1,ff X0 (aS d 0) Y0 Z0 a1 b1 c1 d1 e1 f1 g1 h1 i1 j1 k1 l1 /\
 R (.tuple ⟨[.agg ⟨(L1 Y0 Z0 a1 b1 c1 d1 e1 f1 g1 h1 i1 j1 k1 l1)⟩,vI y,vI 0]⟩) X0)))))
theorem abt(pa:ByteArray)(pb pc:Sl)(pd pe pf:Int)(pg ph:Sl)(p1:Int)(H:@W41 h R pa pb pc pd pe pf pg ph p1):Fn Pz 41 #[.agg ⟨(L0 pa pb pc pd pe pf pg ph)⟩,vI p1] h R:=aY (A:=(.s .z (.s .z (.s .z (.s .z (.s .z (.s .z (.s .z (.s (.s .z (.b (.l [(12,.one (.int .i64)),(43,.one (.int .i64))] .z))) .z))))))))) H
def RV(a q r:Heap)(s:Nat)(t:Int->Int->Heap->Nat->Prop)(u v:Int):Prop:=
 ∃b c d e f g h i j k l m n o,ff a (aS q 0) b c d e f g h i j k l m n o/\Wp a (aS r 0) 14 (L1 b c d e f g h i j k l m n o) fun w=>∃p,p<s/\t u (wrap .i64 (v+1)) w p
def W14(pa:ByteArray)(pb pc:Sl)(pd pe pf:Int)(pg ph:Sl):Prop:=
 Wn h (L0 pa pb pc pd pe pf pg ph) 27 fun a=>Wn a [vI 0,vI 0,vN,vN,vI 0,.bool false,vI 0,vI 0,vN,vI 0,.bool false,vI 0,vI 0,vN] 35 fun l=>∃m o p q r s t u,cS l (aS h 0) m o p q r s t u/\Fn Pz 40 #[.agg ⟨(L0 m o p q r s t u)⟩] l (fun i1 b=>∃v,iB i1 v/\sB (!v) (Wp b (aS a 0) 14 [vI 0,vI 0,vN,vN,vI 0,.bool false,vI 0,vI 0,vN,vI 0,.bool false,vI 0,vI 0,vN] fun w=>∃x y z A B C D E F G H I J K,ff w (aS a 0) x y z A B C D E F G H I J K/\R (.tuple ⟨[.agg ⟨(L1 x y z A B C D E F G H I J K)⟩,vI 1]⟩) w) (Wn b [vI 0,vI 0,vN,vN,vI 0,.bool false,vI 0,vI 0,vN,vI 0,.bool false,vI 0,vI 0,vN] 35 fun j1=>Wp j1 (aS b 0) 14 [vI 0,vI 0,vN,vN,vI 0,.bool false,vI 0,vI 0,vN,vI 0,.bool false,vI 0,vI 0,vN] fun L=>∃M,rS L (aS h 1) M/\CZ 1073741824 0 L fun g e c i j=>sB (decide (c<(M.n:Int))) (∃N O P Q S T U V,cS i (aS h 0) N O P Q S T U V/\Fn Pz 41 #[.agg ⟨(L0 N O P Q S T U V)⟩,vI c] i (fun k1 k=>∃(W X:Int) (Y Z:Sl) (a0:Int) (b0:Bool) (c0 d0:Int) (e0:Sl) (f0:Int) (g0:Bool) (h0 i0:Int) (j0:Sl) (f l1:Int),k1=.tuple ⟨[.agg ⟨(L1 W X Y Z a0 b0 c0 d0 e0 f0 g0 h0 i0 j0)⟩,vI f,vI l1]⟩/\Wn k [vI 0,vI 0,vN,vN,vI 0,.bool false,vI 0,vI 0,vN,vI 0,.bool false,vI 0,vI 0,vN] 35 fun m1=>Wp m1 (aS k 0) 14 (L1 W X Y Z a0 b0 c0 d0 e0 f0 g0 h0 i0 j0) fun d=>sB (decide (f<e)) (RV d k b j g f c) (sB (f==e) (sB (decide (f<1073741824)) (∃k0,rI d (aS k 0) k0/\∃l0,rI d (aS b 0) l0/\sB (decide (k0<l0)) (RV d k b j g f c) (∃m0,m0<j/\g e (wrap .i64 (c+1)) d m0)) (∃n0,n0<j/\g e (wrap .i64 (c+1)) d n0)) (∃o0,o0<j/\g e (wrap .i64 (c+1)) d o0)))) (sB (e==1073741824) (Wp i (aS a 0) 14 [vI 0,vI 0,vN,vN,vI 0,.bool false,vI 0,vI 0,vN,vI 0,.bool false,vI 0,vI 0,vN] fun p0=>∃q0 r0 s0 t0 u0 v0 w0 x0 y0 z0 A0 B0 C0 D0,ff p0 (aS a 0) q0 r0 s0 t0 u0 v0 w0 x0 y0 z0 A0 B0 C0 D0/\R (.tuple ⟨[.agg ⟨(L1 q0 r0 s0 t0 u0 v0 w0 x0 y0 z0 A0 B0 C0 D0)⟩,vI 0]⟩) p0) (∃E0 F0 G0 H0 I0 J0 K0 M0 N0 O0 P0 Q0 R0 S0,ff i (aS b 0) E0 F0 G0 H0 I0 J0 K0 M0 N0 O0 P0 Q0 R0 S0/\Wp i (aS a 0) 14 (L1 E0 F0 G0 H0 I0 J0 K0 M0 N0 O0 P0 Q0 R0 S0) fun T0=>∃U0 V0 W0 X0 Y0 Z0 a1 b1 c1 d1 e1 f1 g1 h1,ff T0 (aS a 0) U0 V0 W0 X0 Y0 Z0 a1 b1 c1 d1 e1 f1 g1 h1/\R (.tuple ⟨[.agg ⟨(L1 U0 V0 W0 X0 Y0 Z0 a1 b1 c1 d1 e1 f1 g1 h1)⟩,vI 18]⟩) T0))))
theorem abG(pa:ByteArray)(pb pc:Sl)(pd pe pf:Int)(pg ph:Sl)(H:@W14 h R pa pb pc pd pe pf pg ph):Fn Pz 14 #[.agg ⟨(L0 pa pb pc pd pe pf pg ph)⟩] h R:=aY (A:=(.s .z (.s .z (.s .z (.s (.s .z (.b (.l [(5,.one (.int .i64)),(18,.one (.int .i64))] .z))) .z))))) H
end Go.VC
end

section
namespace Go.VC
open Go.Proofs IntKind




end Go.VC
end

section
namespace Go.VC
open Go.Proofs IntKind
variable {h:Heap} {R:Value->Heap->Prop}
def W30(d:Sl)(pa:Int)(pb:Bool)(pc pd:Int)(pe:Sl):Prop:=
 Wn h (L4 pa pb pc pd pe) 33 fun t=>
 QI 0 t fun u b c v=>
 sB (decide (b<(d.n:Int)))
 (NB d.a fun w x=>Ib b d.n /\
 ∃e f g i j,sG c ⟨w,x+b.toNat*5,none⟩ e f g i j /\
 ∃k l m o p,sG c (aS h 0) k l m o p /\
 Fn Pz 42 #[.agg ⟨(L4 e f g i j)⟩,.agg ⟨(L4 k l m o p)⟩] c
 (fun y q=>∃r,iB y r /\
 sB r
 (R (.bool true) q)
 (∃s,s<v/\u (wrap .i64 (b+1)) q s)))
 (R (.bool false) c)
theorem abz(p0:Sl)(pa:Int)(pb:Bool)(pc pd:Int)(pe:Sl)(H:@W30 h R p0 pa pb pc pd pe):Fn Pz 30 #[vS p0,.agg ⟨(L4 pa pb pc pd pe)⟩] h R:=aY (A:=(.s .z (.s (AI 5) .z))) H
def W20(pa pb:Int)(pc pd:Sl)(pe:Int)(pf:Bool)(pg ph:Int)(pi:Sl)(pj:Int)(pk:Bool)(pl pm:Int)(pn:Sl):Prop:=
 Wn h (L1 pa pb pc pd pe pf pg ph pi pj pk pl pm pn) 39 fun a=>
 ∃b,rI a (aS h 0) b /\
 sB (b==2)
 (∃c,rS a (aS h 2) c /\
 R (vI (wrap .i64 (2*(c.n:Int)))) a)
 (∃d,rS a (aS h 2) d /\
 ∃e,rS a (aS h 3) e /\
 R (vI (wrap .i64 ((d.n:Int)+(e.n:Int)))) a)
theorem abB(pa pb:Int)(pc pd:Sl)(pe:Int)(pf:Bool)(pg ph:Int)(pi:Sl)(pj:Int)(pk:Bool)(pl pm:Int)(pn:Sl)(H:@W20 h R pa pb pc pd pe pf pg ph pi pj pk pl pm pn):Fn Pz 20 #[.agg ⟨(L1 pa pb pc pd pe pf pg ph pi pj pk pl pm pn)⟩] h R:=aY (A:=.z) H
def W12 :Prop:=
 Fn Pz 38 #[.bool false] h
 (fun v1 h0=>∃(d:ByteArray) (e f:Sl) (g i j:Int) (k l:Sl),v1=.agg ⟨(L0 d e f g i j k l)⟩ /\
 Fn Pz 14 #[.agg ⟨(L0 d e f g i j k l)⟩] h0
 (fun i0 b=>∃(m o:Int) (p q:Sl) (r:Int) (s:Bool) (t u:Int) (v:Sl) (w:Int) (x:Bool) (y z:Int) (A:Sl) (B:Int),i0=.tuple ⟨[.agg ⟨(L1 m o p q r s t u v w x y z A)⟩,vI B]⟩ /\
 Wn b [vI 0,vI 0,vN,vN,vI 0,.bool false,vI 0,vI 0,vN,vI 0,.bool false,vI 0,vI 0,vN] 35 fun j0=>
 Wp j0 (aS b 0) 14 (L1 m o p q r s t u v w x y z A) fun k0=>
 Fn Pz 38 #[.bool true] k0
 (fun l0 m0=>∃(C:ByteArray) (D E:Sl) (F G H:Int) (I J:Sl),l0=.agg ⟨(L0 C D E F G H I J)⟩ /\
 Fn Pz 14 #[.agg ⟨(L0 C D E F G H I J)⟩] m0
 (fun n0 c=>∃(K L:Int) (M N:Sl) (O:Int) (P:Bool) (Q S:Int) (T:Sl) (U:Int) (V:Bool) (W X:Int) (Y:Sl) (Z:Int),n0=.tuple ⟨[.agg ⟨(L1 K L M N O P Q S T U V W X Y)⟩,vI Z]⟩ /\
 Wn c [vI 0,vI 0,vN,vN,vI 0,.bool false,vI 0,vI 0,vN,vI 0,.bool false,vI 0,vI 0,vN] 35 fun o0=>
 Wp o0 (aS c 0) 14 (L1 K L M N O P Q S T U V W X Y) fun a=>
 sB (B==18)
 (sB (Z==0)
 (∃a0,rI a (aS b 0) a0 /\
 sB (a0==1)
 (∃b0,rI a (aS b 1) b0 /\
 sB (b0==2)
 (∃c0,rS a (aS b 2) c0 /\
 sB ((c0.n:Int)==0)
 (∃d0,rS a (aS b 3) d0 /\
 sB ((d0.n:Int)==1)
 (∃e0,rI a (aS b (4+3)) e0 /\
 sB (e0==3)
 (∃f0,rI a (aS c 0) f0 /\
 R (.bool (f0==0)) a)
 (R (.bool false) a))
 (R (.bool false) a))
 (R (.bool false) a))
 (R (.bool false) a))
 (R (.bool false) a))
 (R (.bool false) a))
 (R (.bool false) a)))))
theorem abI  (H:@W12 h R ):Fn Pz 12 #[] h R:=aY (A:=.z) H
def W18(d e:Sl):Prop:=
 sB ((d.n:Int) != (e.n:Int))
 (R (.bool false) h)
 (QI 0 h fun o b c p=>
 sB (decide (b<(d.n:Int)))
 (NB d.a fun q r=>Ib b d.n /\
 ∃f g i,gB c ⟨q,r+b.toNat*3,none⟩ f g i /\
 NB e.a fun s t=>Ib b e.n /\
 ∃j k l,gB c ⟨s,t+b.toNat*3,none⟩ j k l /\
 sB (!((f==j)&&((g==k)&&((i==l)&&true))))
 (R (.bool false) c)
 (∃m,m<p/\o (wrap .i64 (b+1)) c m))
 (R (.bool true) c))
theorem abC(p0 p1:Sl)(H:@W18 h R p0 p1):Fn Pz 18 #[vS p0,vS p1] h R:=aY (A:=(.s .z (.s .z (.s (AI 5) .z)))) H
def Zc(pa pb pc:Int)(pd:Sl):Prop:=
 Wn h (MD pa pb pc pd) 365 fun a=>
 ∃b,rI a (aS h 0) b /\
 0<=(6:Int)/\∃c,rI a (aS h 1) c /\
 0<=(6:Int)/\∃d,rI a (aS h 2) d /\
 R (vI (EY .i64 (eD .i64 (EY .i64 (eD .i64 b 6) c) 6) d)) a
theorem TQ(pa pb pc:Int)(pd:Sl)(H:@Zc h R pa pb pc pd):Fn Pz 239 #[.agg ⟨(MD pa pb pc pd)⟩] h R:=aY (A:=.z) H
def CR(f:Sl)(g h:Heap)(b:Sl)(d:Int)(i:Nat)(j:Sl->Int->Heap->Nat->Prop)(k:Int):Prop:=
 App Pz 102 102 (vS f) (.slice (some (aS g 0)) 1 1) h fun l m=>App Pz 102 102 (vS l) (.slice (aQ b.a (d.toNat) b.c 1) (Int.toNat (b.n:Nat)-d.toNat) (b.c-d.toNat)) m fun o p=>∃e,e<i/\j o (wrap .i64 (k+1)) p e
def Jh(d:Int)(b q:Sl)(e:Int)(f:Heap)(k:Nat)(l:Sl->Int->Heap->Nat->Prop):Prop:=
 ((0:Int)<=(0:Int)/\(0:Int)<=(d:Int)/\(d:Int)<=(b.c:Nat))/\NB q.a fun g h=>Ib e q.n/\∃j,rI f ⟨g,h+e.toNat*1,none⟩ j/\((0:Int)<=(d:Int)/\(d:Int)<=((b.n:Nat):Int)/\((b.n:Nat):Int)<=(b.c:Nat))/\(Wn f [] 3 fun i=>Sm [⟨g,h+e.toNat*1,none⟩] f i/\(App Pz 102 102 (.slice (some (aS f 0)) 0 0) (.slice (aQ b.a (Int.toNat 0) b.c 1) (d.toNat-Int.toNat 0) (b.c-Int.toNat 0)) i fun u m=>Sm [⟨g,h+e.toNat*1,none⟩] i m/\Wn m [vI j] 3 fun v=>CR u m v b d k l e)/\Wn i [vI j] 3 fun r=>App Pz 102 102 (.slice (some (aS f 0)) 0 0) (.slice (aQ b.a (Int.toNat 0) b.c 1) (d.toNat-Int.toNat 0) (b.c-Int.toNat 0)) r fun w s=>Sm [⟨g,h+e.toNat*1,none⟩] r s/\CR w i s b d k l e)/\Wn f [vI j] 3 fun o=>Wn o [] 3 fun p=>Sm [⟨g,h+e.toNat*1,none⟩] o p/\App Pz 102 102 (.slice (some (aS o 0)) 0 0) (.slice (aQ b.a (Int.toNat 0) b.c 1) (d.toNat-Int.toNat 0) (b.c-Int.toNat 0)) p fun x t=>Sm [⟨g,h+e.toNat*1,none⟩] p t/\CR x f t b d k l e
def Zb(pa:ByteArray)(pb pc:Sl)(pd pe pf:Int)(pg ph:Sl)(H:Int):Prop:=
 Wn h (L0 pa pb pc pd pe pf pg ph) 27 fun l=>∃m o p q r s t u,cS l (aS h 0) m o p q r s t u/\Fn Pz 55 #[.agg ⟨(L0 m o p q r s t u)⟩,vI H] l (fun I J=>∃c,iS I c/\mF ⟨none,0,0⟩ 0 J fun v d f w x=>sB (decide (f<(c.n:Int))) (QI 0 w fun K e b L=>sB (decide (e<(d.n:Int))) (∃g,rS b (aS h 6) g/\NB d.a fun M N=>Ib e d.n/\∃i,rI b ⟨M,N+e.toNat*1,none⟩ i/\NB g.a fun O P=>Ib i g.n/\∃y z A,gB b ⟨O,P+i.toNat*6+1,none⟩ y z A/\∃j,rS b (aS h 6) j/\NB c.a fun Q S=>Ib f c.n/\∃k,rI b ⟨Q,S+f.toNat*1,none⟩ k/\NB j.a fun T U=>Ib k j.n/\∃B C D,gB b ⟨T,U+k.toNat*6+1,none⟩ B C D/\Fn Pz 286 #[.agg ⟨(L2 y z A)⟩,.agg ⟨(L2 B C D)⟩] b (fun V E=>∃F,iB V F/\sB F (∃G,G<L/\K (wrap .i64 (e+1)) E G) (Jh e d c f E x v))) (Jh e d c f b x v)) (R (vS d) w))
theorem TP(pa:ByteArray)(pb pc:Sl)(pd pe pf:Int)(pg ph:Sl)(p1:Int)(H:@Zb h R pa pb pc pd pe pf pg ph p1):Fn Pz 240 #[.agg ⟨(L0 pa pb pc pd pe pf pg ph)⟩,vI p1] h R:=aY (A:=(.s .z (.s .z (.s .z (.s (.s .z (.b (.l [(5,.one (.slice)),(7,.one (.int .i64))] (.s .z (.s (.b (.s .z (.s (.b (.l [(8,.one (.int .i64))] .z)) .z))) .z))))) .z))))) H
def YT(pa pb pc pd pe pf:Int):Prop:=
 Wn h (L2 pa pb pc) 65 fun b=>
 Wn b (L2 pd pe pf) 65 fun a=>
 ∃c,rI a (aS h 0) c /\
 ∃d,rI a (aS b 0) d /\
 sB (c != d)
 (∃e,rI a (aS h 0) e /\
 ∃f,rI a (aS b 0) f /\
 R (.bool (decide (e<f))) a)
 (∃g,rI a (aS h 1) g /\
 ∃i,rI a (aS b 1) i /\
 sB (g != i)
 (∃j,rI a (aS h 1) j /\
 ∃k,rI a (aS b 1) k /\
 R (.bool (decide (j<k))) a)
 (∃l,rI a (aS h 2) l /\
 ∃m,rI a (aS b 2) m /\
 R (.bool (decide (l<m))) a))
theorem Ty(pa pb pc pd pe pf:Int)(H:@YT h R pa pb pc pd pe pf):Fn Pz 286 #[.agg ⟨(L2 pa pb pc)⟩,.agg ⟨(L2 pd pe pf)⟩] h R:=aY (A:=.z) H
def Za(c:Sl)(pa pb:Int)(pc:Sl):Prop:=
 Wn h (L7 pa pb pc) 330 fun o=>
 QI 0 o fun p d b q=>
 sB (decide (d<(c.n:Int)))
 (NB c.a fun r s=>Ib d c.n /\
 ∃(e f:Int),a6 b ⟨r,s+d.toNat*3,none⟩ [vI e,vI f] /\
 ∃(g i:Int),a6 b (aS h 0) [vI g,vI i] /\
 sB ((e==g)&&((f==i)&&true))
 (R (vS c) b)
 (∃j,j<q/\p (wrap .i64 (d+1)) b j))
 (∃k l m,aL7 b (aS h 0) k l m /\
 Wn b (L7 k l m) 330 fun t=>
 App Pz 327 327 (vS c) (.slice (some (aS b 0)) 1 1) t fun u v=>
 R (vS u) v)
theorem TN(p0:Sl)(pa pb:Int)(pc:Sl)(H:@Za h R p0 pa pb pc):Fn Pz 241 #[vS p0,.agg ⟨(L7 pa pb pc)⟩] h R:=aY (A:=(.s .z (.s (AI 5) .z))) H
def CT(a c e:Heap)(f:Sl->Heap->Prop)(g:Sl):Prop:=
 ∃d,rI a (aS c 2) d/\∃b,rI a (aS e 1) b/\0<=b/\Wp a (aS c 2) 1 [vI (EY .i64 d (eD .i64 1 b))] fun h=>f g h
def yh(M b:Heap)(N O P:Int)(Q:Sl)(c:Heap)(f:Sl)(R n:Int)(o:Heap)(p:Sl)(q:Nat)(r:Sl->Sl->Int->Heap->Nat->Prop)(s:Int):Prop:=
 Wp M (aS b 0) 4 (MD N O P Q) fun a=>∃e:Sl->Heap->Prop,(∃t,rI a (aS b 1) t/\∃g,rI a (aS c 1) g/\0<=g/\sB ((sF .i64 (r4 .i64 t g) 1)==1) (∃u,rI a (aS b 1) u/\∃h,rI a (aS c (1+1)) h/\0<=h/\Wp a (aS b 1) 1 [vI (EY .i64 u (eD .i64 1 h))] fun S=>e f S) (∃v,rI a (aS c (1+1)) v/\sB (v==R) (∃w,rI a (aS b 2) w/\∃i,rI a (aS c 1) i/\0<=i/\sB ((sF .i64 (r4 .i64 w i) 1)==0) (∃x,rI a (aS c 1) x/\∃y,rI a (aS c (1+2)) y/\∃z,rS a (aS b 3) z/\Fn Pz 241 #[vS f,.agg ⟨(L7 x y z)⟩] a (fun T U=>∃A,iS T A/\CT U b c e A)) (CT a b c e f)) (e f a)))/\∀(_:Env) (j:Sl) (k:Heap),e j k->(∃B C D E,Iw k (aS b 0) B C D E/\Fn Pz 239 #[.agg ⟨(MD B C D E)⟩] k (fun V l=>∃d,iI V d/\(0<=(d:Int)/\(d:Int)<((Int.toNat (eD .i64 n 12)):Nat))/\∃F,rB l (aS o (0+d.toNat*1)) F/\sB (!F) ((0<=(d:Int)/\(d:Int)<((Int.toNat (eD .i64 n 12)):Nat))/\Wp l (aS o (0+d.toNat*1)) 1 [.bool true] fun m=>∃G H I J,Iw m (aS b 0) G H I J/\Wn m (MD G H I J) 365 fun W=>App Pz 366 366 (vS p) (.slice (some (aS m 0)) 1 1) W fun X Y=>∃K,K<q/\r X j (wrap .i64 (s+1)) Y K) (∃L,L<q/\r p j (wrap .i64 (s+1)) l L)))
def tS(e:Sl)(f a:Heap)(g h:Nat)(b:Int)(i j:Nat)(c k:Heap)(l m n:Int)(o:Sl)(p q:Int)(r:Heap)(s:Sl)(t:Nat)(u:Sl->Sl->Int->Heap->Nat->Prop)(v:Int):Prop:=
 App Pz 30 30 (vS e) (.slice (some (aS f 0)) 1 1) a fun w d=>Sm [⟨g,h+b.toNat*4+2,none⟩,⟨i,j+b.toNat*4+1,none⟩,(aS c 4)] a d/\yh d k l m n w c o p q r s t u v
def oy(i:Heap)(j:Sl)(c a:Heap)(d e:Nat)(b:Int)(f g:Nat)(k l:Heap)(m n o:Int)(p:Sl)(q r:Int)(s:Heap)(t:Sl)(u:Nat)(v:Sl->Sl->Int->Heap->Nat->Prop)(w:Int):Prop:=
 App Pz 30 30 (.slice (some (aS i 0)) 0 0) (vS j) c fun x h=>Sm [(aS a 1),⟨d,e+b.toNat*4+2,none⟩,⟨f,g+b.toNat*4+1,none⟩,(aS a 4)] c h/\tS x k h d e b f g a l m n o p q r s t u v w
def CU(j:Sl)(k d:Heap)(e f:Nat)(a:Int)(g h:Nat)(b:Heap)(l m:Nat)(n o p:Int)(q:Sl)(r s:Int)(t:Heap)(u:Sl)(v:Nat)(w:Sl->Sl->Int->Heap->Nat->Prop)(x:Int):Prop:=
 App Pz 30 30 (vS j) (.slice (some (aS k 0)) 1 1) d fun y c=>Sm [⟨e,f+a.toNat*4+2,none⟩,⟨g,h+a.toNat*4+1,none⟩,(aS b 4)] d c/\Wn c [vI 0,vI 0,vI 0,vN] 365 fun i=>Sm [(aS b 1),⟨l,m+a.toNat*4+3,none⟩,⟨e,f+a.toNat*4+2,none⟩,⟨g,h+a.toNat*4+1,none⟩,(aS b 4)] c i/\yh i c n o p y b q r s t u v w x
def CV(y:Heap)(z:Sl)(h b:Heap)(d e:Nat)(a:Int)(f g:Nat)(i:Heap)(j k:Nat)(l m n:Int)(o:Sl)(p q:Int)(r:Heap)(s:Sl)(t:Nat)(u:Sl->Sl->Int->Heap->Nat->Prop)(v:Int):Prop:=
 App Pz 30 30 (.slice (some (aS y 0)) 0 0) (vS z) h fun w c=>Sm [(aS b 1),⟨d,e+a.toNat*4+2,none⟩,⟨f,g+a.toNat*4+1,none⟩,(aS b 4)] h c/\(CU w i c d e a f g b j k l m n o p q r s t u v)/\Wn c [vI 0,vI 0,vI 0,vN] 365 fun x=>Sm [(aS b 1),⟨j,k+a.toNat*4+3,none⟩,⟨d,e+a.toNat*4+2,none⟩,⟨f,g+a.toNat*4+1,none⟩,(aS b 4)] c x/\tS w i x d e a f g b c l m n o p q r s t u v
def yg(b:Heap)(i j k:Int)(l m:Nat)(a:Int)(c d e f:Nat)(g:Heap)(n:Sl)(o:Heap)(p q r:Int)(s:Sl)(t u:Int)(v:Heap)(w:Sl)(x:Nat)(y:Sl->Sl->Int->Heap->Nat->Prop)(z:Int):Prop:=
 Wn b (L2 i j k) 65 fun h=>Sm [⟨l,m+a.toNat*4+3,none⟩,⟨c,d+a.toNat*4+2,none⟩,⟨e,f+a.toNat*4+1,none⟩,(aS g 4)] b h/\tS n b h c d a e f g o p q r s t u v w x y z
def Jm(i b:Heap)(g h:Nat)(a:Int)(c d e f:Nat)(u:Sl)(j k l:Int)(m:Sl)(n o:Int)(p:Heap)(q:Sl)(r:Nat)(s:Sl->Sl->Int->Heap->Nat->Prop)(t:Int):Prop:=
 ∃w x y,gB i (aS b 1) w x y/\(Wn i [] 65 fun v=>Sm [(aS b 1),⟨g,h+a.toNat*4+3,none⟩,⟨c,d+a.toNat*4+2,none⟩,⟨e,f+a.toNat*4+1,none⟩,(aS b 4)] i v/\(App Pz 30 30 (.slice (some (aS i 0)) 0 0) (vS u) v fun J z=>Sm [(aS b 1),⟨c,d+a.toNat*4+2,none⟩,⟨e,f+a.toNat*4+1,none⟩,(aS b 4)] v z/\(Wn z (L2 w x y) 65 fun E=>Sm [⟨g,h+a.toNat*4+3,none⟩,⟨c,d+a.toNat*4+2,none⟩,⟨e,f+a.toNat*4+1,none⟩,(aS b 4)] z E/\(CU J z E c d a e f b g h j k l m n o p q r s t)/\Wn E [vI 0,vI 0,vI 0,vN] 365 fun K=>Sm [(aS b 1),⟨g,h+a.toNat*4+3,none⟩,⟨c,d+a.toNat*4+2,none⟩,⟨e,f+a.toNat*4+1,none⟩,(aS b 4)] E K/\tS J z K c d a e f b E j k l m n o p q r s t)/\Wn z [vI 0,vI 0,vI 0,vN] 365 fun L=>Sm [(aS b 1),⟨g,h+a.toNat*4+3,none⟩,⟨c,d+a.toNat*4+2,none⟩,⟨e,f+a.toNat*4+1,none⟩,(aS b 4)] z L/\yg L w x y g h a c d e f b J z j k l m n o p q r s t)/\(Wn v (L2 w x y) 65 fun F=>Sm [⟨g,h+a.toNat*4+3,none⟩,⟨c,d+a.toNat*4+2,none⟩,⟨e,f+a.toNat*4+1,none⟩,(aS b 4)] v F/\(CV i u F b c d a e f v g h j k l m n o p q r s t)/\Wn F [vI 0,vI 0,vI 0,vN] 365 fun M=>Sm [(aS b 1),⟨g,h+a.toNat*4+3,none⟩,⟨c,d+a.toNat*4+2,none⟩,⟨e,f+a.toNat*4+1,none⟩,(aS b 4)] F M/\oy i u M b c d a e f v F j k l m n o p q r s t)/\Wn v [vI 0,vI 0,vI 0,vN] 365 fun C=>Sm [(aS b 1),⟨g,h+a.toNat*4+3,none⟩,⟨c,d+a.toNat*4+2,none⟩,⟨e,f+a.toNat*4+1,none⟩,(aS b 4)] v C/\(App Pz 30 30 (.slice (some (aS i 0)) 0 0) (vS u) C fun U N=>Sm [(aS b 1),⟨c,d+a.toNat*4+2,none⟩,⟨e,f+a.toNat*4+1,none⟩,(aS b 4)] C N/\yg N w x y g h a c d e f b U v j k l m n o p q r s t)/\Wn C (L2 w x y) 65 fun O=>Sm [⟨g,h+a.toNat*4+3,none⟩,⟨c,d+a.toNat*4+2,none⟩,⟨e,f+a.toNat*4+1,none⟩,(aS b 4)] C O/\oy i u O b c d a e f C v j k l m n o p q r s t)/\(Wn i (L2 w x y) 65 fun A=>Sm [⟨g,h+a.toNat*4+3,none⟩,⟨c,d+a.toNat*4+2,none⟩,⟨e,f+a.toNat*4+1,none⟩,(aS b 4)] i A/\(Wn A [] 65 fun G=>Sm [(aS b 1),⟨g,h+a.toNat*4+3,none⟩,⟨c,d+a.toNat*4+2,none⟩,⟨e,f+a.toNat*4+1,none⟩,(aS b 4)] A G/\(CV A u G b c d a e f i g h j k l m n o p q r s t)/\Wn G [vI 0,vI 0,vI 0,vN] 365 fun P=>Sm [(aS b 1),⟨g,h+a.toNat*4+3,none⟩,⟨c,d+a.toNat*4+2,none⟩,⟨e,f+a.toNat*4+1,none⟩,(aS b 4)] G P/\oy A u P b c d a e f i G j k l m n o p q r s t)/\Wn A [vI 0,vI 0,vI 0,vN] 365 fun H=>Sm [(aS b 1),⟨g,h+a.toNat*4+3,none⟩,⟨c,d+a.toNat*4+2,none⟩,⟨e,f+a.toNat*4+1,none⟩,(aS b 4)] A H/\Wn H [] 65 fun Q=>Sm [(aS b 1),⟨g,h+a.toNat*4+3,none⟩,⟨c,d+a.toNat*4+2,none⟩,⟨e,f+a.toNat*4+1,none⟩,(aS b 4)] H Q/\oy H u Q b c d a e f i A j k l m n o p q r s t)/\Wn i [vI 0,vI 0,vI 0,vN] 365 fun B=>Sm [(aS b 1),⟨g,h+a.toNat*4+3,none⟩,⟨c,d+a.toNat*4+2,none⟩,⟨e,f+a.toNat*4+1,none⟩,(aS b 4)] i B/\(Wn B [] 65 fun D=>Sm [(aS b 1),⟨g,h+a.toNat*4+3,none⟩,⟨c,d+a.toNat*4+2,none⟩,⟨e,f+a.toNat*4+1,none⟩,(aS b 4)] B D/\(App Pz 30 30 (.slice (some (aS B 0)) 0 0) (vS u) D fun V R=>Sm [(aS b 1),⟨c,d+a.toNat*4+2,none⟩,⟨e,f+a.toNat*4+1,none⟩,(aS b 4)] D R/\yg R w x y g h a c d e f b V i j k l m n o p q r s t)/\Wn D (L2 w x y) 65 fun S=>Sm [⟨g,h+a.toNat*4+3,none⟩,⟨c,d+a.toNat*4+2,none⟩,⟨e,f+a.toNat*4+1,none⟩,(aS b 4)] D S/\oy B u S b c d a e f D i j k l m n o p q r s t)/\Wn B (L2 w x y) 65 fun I=>Sm [⟨g,h+a.toNat*4+3,none⟩,⟨c,d+a.toNat*4+2,none⟩,⟨e,f+a.toNat*4+1,none⟩,(aS b 4)] B I/\Wn I [] 65 fun T=>Sm [(aS b 1),⟨g,h+a.toNat*4+3,none⟩,⟨c,d+a.toNat*4+2,none⟩,⟨e,f+a.toNat*4+1,none⟩,(aS b 4)] I T/\oy I u T b c d a e f B i j k l m n o p q r s t
def Zu(pa:ByteArray)(pb pc:Sl)(pd pe pf:Int)(pg ph:Sl)(j:Int):Prop:=
 Wn h (L0 pa pb pc pd pe pf pg ph) 27 fun f=>∃s,rS f (aS h 6) s/\NB s.a fun j0 k0=>Ib j s.n/\∃k,rI f ⟨j0,k0+j.toNat*6+1+1,none⟩ k/\∃t,rS f (aS h 6) t/\NB t.a fun l0 m0=>Ib j t.n/\∃v,rI f ⟨l0,m0+j.toNat*6+4,none⟩ v/\0<=k/\Wn f [vI v,vI (eD .i64 1 k),vI 0,vN] 365 fun l=>∃d,rI l (aS h 3) d/\0<=(12:Int)/\((0:Int)<=(eD .i64 d 12)/\((eD .i64 d 12):Int)<=(eD .i64 d 12)/\((1:Nat):Int)*(eD .i64 d 12)<=140737488355328)/\Wn l (ai Pz 4 (Int.toNat (eD .i64 d 12))) 4 fun w=>Ib 0 1/\∃x y z A,Iw w (aS f (0+Int.toNat 0*4)) x y z A/\Fn Pz 239 #[.agg ⟨(MD x y z A)⟩] w (fun n0 o0=>∃m,iI n0 m/\(0<=(m:Int)/\(m:Int)<((Int.toNat (eD .i64 d 12)):Nat))/\Wp o0 (aS l (0+m.toNat*1)) 1 [.bool true] fun p0=>Au ⟨(some (aS f 0)),1,1⟩ ⟨none,0,0⟩ 0 p0 fun q0 o B b p r0=>sB (decide (b<(o.n:Int))) (∃C D E F G H I J,cS p (aS h 0) C D E F G H I J/\NB o.a fun s0 t0=>Ib b o.n/\∃K,rI p ⟨s0,t0+b.toNat*4,none⟩ K/\Fn Pz 240 #[.agg ⟨(L0 C D E F G H I J)⟩,vI K] p (fun u0 v0=>∃q,iS u0 q/\Au o B 0 v0 fun w0 e L g c x0=>sB (decide (g<(q.n:Int))) (∃u,rS c (aS h 6) u/\NB q.a fun M N=>Ib g q.n/\∃r,rI c ⟨M,N+g.toNat*1,none⟩ r/\NB u.a fun O P=>Ib r u.n/\∃Q S T U V W,gR c ⟨O,P+r.toNat*6,none⟩ Q S T U V W/\Wn c [vI 0,vI 0,vI 0,vI 0,vI 0,.bool false] 67 fun X=>Sm [⟨O,P+r.toNat*6,none⟩,⟨M,N+g.toNat*1,none⟩,(aS h 6)] c X/\Wp X (aS c 0) 6 (L3 Q S T U V W) fun i=>∃Y,rI i (aS c 4) Y/\NB e.a fun Z a0=>Ib b e.n/\∃b0,rI i ⟨Z,a0+b.toNat*4+1,none⟩ b0/\NB e.a fun c0 d0=>Ib b e.n/\∃e0,rI i ⟨c0,d0+b.toNat*4+2,none⟩ e0/\NB e.a fun f0 g0=>Ib b e.n/\∃h0,rS i ⟨f0,g0+b.toNat*4+3,none⟩ h0/\Jm i c f0 g0 b c0 d0 Z a0 h0 Y b0 e0 L k d l e x0 w0 g) (∃i0,i0<r0/\q0 e L (wrap .i64 (b+1)) c i0))) (R (vS B) p))
theorem Ua(pa:ByteArray)(pb pc:Sl)(pd pe pf:Int)(pg ph:Sl)(p1:Int)(H:@Zu h R pa pb pc pd pe pf pg ph p1):Fn Pz 199 #[.agg ⟨(L0 pa pb pc pd pe pf pg ph)⟩,vI p1] h R:=aY (A:=(.s .z (.s .z (.s .z (.s .z (.s .z (.s .z (.s (.s .z (.b (.l [(6,.one (.slice)),(8,.one (.slice)),(9,.one (.int .i64))] (.s .z (.s (.b (.s .z (.s .z (.b (.l [(6,.one (.slice)),(8,.one (.slice)),(11,.one (.int .i64))] (.s .z (.s (.b (.s .z (.s .z (.j [(8,.one (.slice))] .z .z)))) .z))))))) .z))))) .z)))))))) H
def Jt(f:Sl)(g h:Heap)(b:Sl)(d:Int)(i:Nat)(j:Sl->Int->Heap->Nat->Prop)(k:Int):Prop:=
 App Pz 206 206 (vS f) (.slice (some (aS g 0)) 1 1) h fun l m=>App Pz 206 206 (vS l) (.slice (aQ b.a (d.toNat) b.c 3) (Int.toNat (b.n:Nat)-d.toNat) (b.c-d.toNat)) m fun o p=>∃e,e<i/\j o (wrap .i64 (k+1)) p e
def Js(h:Heap)(b:Sl)(e:Int)(f:Heap)(i j:Nat)(d:Int)(k l:Nat)(m:Heap)(n:Nat)(o:Sl->Int->Heap->Nat->Prop):Prop:=
 App Pz 206 206 (.slice (some (aS h 0)) 0 0) (.slice (aQ b.a (Int.toNat 0) b.c 3) (e.toNat-Int.toNat 0) (b.c-Int.toNat 0)) f fun p g=>Sm [⟨i,j+d.toNat*3+2,none⟩,⟨k,l+d.toNat*3,none⟩] f g/\Jt p m g b e n o d
def CX(e:Int)(d l:Sl)(b:Int)(f:Heap)(q:Nat)(r:Sl->Int->Heap->Nat->Prop):Prop:=
 ((0:Int)<=(0:Int)/\(0:Int)<=(e:Int)/\(e:Int)<=(d.c:Nat))/\NB l.a fun g h=>Ib b l.n/\∃(m o:Int),a6 f ⟨g,h+b.toNat*3,none⟩ [vI m,vI o]/\NB l.a fun i j=>Ib b l.n/\∃p,rS f ⟨i,j+b.toNat*3+2,none⟩ p/\((0:Int)<=(e:Int)/\(e:Int)<=((d.n:Nat):Int)/\((d.n:Nat):Int)<=(d.c:Nat))/\(Wn f [] 210 fun k=>Sm [⟨i,j+b.toNat*3+2,none⟩,⟨g,h+b.toNat*3,none⟩] f k/\(App Pz 206 206 (.slice (some (aS f 0)) 0 0) (.slice (aQ d.a (Int.toNat 0) d.c 3) (e.toNat-Int.toNat 0) (d.c-Int.toNat 0)) k fun v s=>Sm [⟨i,j+b.toNat*3+2,none⟩,⟨g,h+b.toNat*3,none⟩] k s/\Wn s (L7 m o p) 210 fun w=>Jt v s w d e q r b)/\Wn k (L7 m o p) 210 fun x=>Js f d e x i j b g h k q r)/\Wn f (L7 m o p) 210 fun t=>Wn t [] 210 fun u=>Sm [⟨i,j+b.toNat*3+2,none⟩,⟨g,h+b.toNat*3,none⟩] t u/\Js t d e u i j b g h f q r
def aai(pa:ByteArray)(pb pc:Sl)(pd pe pf:Int)(pg ph:Sl)(E:Int):Prop:=
 Wn h (L0 pa pb pc pd pe pf pg ph) 27 fun j=>∃k l m o p q r s,cS j (aS h 0) k l m o p q r s/\Fn Pz 199 #[.agg ⟨(L0 k l m o p q r s)⟩,vI E] j (fun F G=>∃c,iS F c/\mF ⟨none,0,0⟩ 0 G fun g d f t i=>sB (decide (f<(c.n:Int))) (QI 0 t fun u b e v=>sB (decide (b<(d.n:Int))) (NB d.a fun H I=>Ib b d.n/\∃w,rI e ⟨H,I+b.toNat*3,none⟩ w/\NB c.a fun J K=>Ib f c.n/\∃x,rI e ⟨J,K+f.toNat*3,none⟩ x/\sB (decide (w<x)) (∃y,y<v/\u (wrap .i64 (b+1)) e y) (NB d.a fun L M=>Ib b d.n/\∃z,rI e ⟨L,M+b.toNat*3,none⟩ z/\NB c.a fun N O=>Ib f c.n/\∃A,rI e ⟨N,O+f.toNat*3,none⟩ A/\sB (z==A) (NB d.a fun P Q=>Ib b d.n/\∃B,rI e ⟨P,Q+b.toNat*3+1,none⟩ B/\NB c.a fun S T=>Ib f c.n/\∃C,rI e ⟨S,T+f.toNat*3+1,none⟩ C/\sB (decide (B<C)) (∃D,D<v/\u (wrap .i64 (b+1)) e D) (CX b d c f e i g)) (CX b d c f e i g))) (CX b d c f e i g)) (R (vS d) t))
theorem UY(pa:ByteArray)(pb pc:Sl)(pd pe pf:Int)(pg ph:Sl)(p1:Int)(H:@aai h R pa pb pc pd pe pf pg ph p1):Fn Pz 113 #[.agg ⟨(L0 pa pb pc pd pe pf pg ph)⟩,vI p1] h R:=aY (A:=(.s .z (.s .z (.s .z (.s (.s .z (.b (.l [(5,.one (.slice)),(7,.one (.int .i64))] (.s .z (.s (.b (.s .z (.s (.b (.l [(8,.one (.int .i64))] .z)) .z))) .z))))) .z))))) H
def W58(pa:ByteArray)(pb pc:Sl)(pd pe pf:Int)(pg ph:Sl)(A:Int):Prop:=
 Wn h (L0 pa pb pc pd pe pf pg ph) 27 fun c=>
 Wn c [vN,vN] 109 fun a=>
 Wn a [vN,vN] 109 fun B=>
 QI 0 B fun C d b D=>
 ∃g,rI b (aS h 3) g /\
 sB (decide (d<g))
 (∃i j k l m n o p,cS b (aS h 0) i j k l m n o p /\
 Fn Pz 112 #[.agg ⟨(L0 i j k l m n o p)⟩,vI A,vI d] b
 (fun E e=>∃(q:Sl) (r:Bool) (F:Int),E=.tuple ⟨[vS q,.bool r,vI F]⟩ /\
 ∃s,rS e (aS a 0) s /\
 Wn e [vS q] 57 fun G=>
 App Pz 106 106 (vS s) (.slice (some (aS e 0)) 1 1) G fun H I=>
 Wp I (aS a 0) 1 [vS H] fun f=>
 ∃t,rS f (aS a 1) t /\
 Wn f [.bool r] 4 fun J=>
 App Pz 107 107 (vS t) (.slice (some (aS f 0)) 1 1) J fun K L=>
 Wp L (aS a 1) 1 [vS K] fun M=>
 ∃u,u<D/\C (wrap .i64 (d+1)) M u))
 (∃(v w:Sl),a6 b (aS a 0) [vS v,vS w] /\
 Wp b (aS c 0) 2 [vS v,vS w] fun x=>
 ∃(y z:Sl),a6 x (aS c 0) [vS y,vS z] /\
 R (.agg ⟨[vS y,vS z]⟩) x)
theorem abh(pa:ByteArray)(pb pc:Sl)(pd pe pf:Int)(pg ph:Sl)(p1:Int)(H:@W58 h R pa pb pc pd pe pf pg ph p1):Fn Pz 58 #[.agg ⟨(L0 pa pb pc pd pe pf pg ph)⟩,vI p1] h R:=aY (A:=(.s .z (.s .z (.s (AI 6) .z)))) H
def W59(pa:ByteArray)(pb pc:Sl)(pd pe pf:Int)(pg ph:Sl)(V:Int):Prop:=
 Wn h (L0 pa pb pc pd pe pf pg ph) 27 fun i=>
 ∃e,rI i (aS h 3) e /\
 Mk e e 24/\Wn i (ai Pz 211 (e.toNat)) 211 fun W=>
 QI 0 W fun p g b q=>
 ∃r,rS b (aS h 6) r /\
 sB (decide (g<(r.n:Int)))
 (∃m,rS b (aS h 6) m /\
 NB m.a fun X Y=>Ib g m.n /\
 ∃s t u v w x,gR b ⟨X,Y+g.toNat*6,none⟩ s t u v w x /\
 Wn b [vI 0,vI 0,vI 0,vI 0,vI 0,.bool false] 67 fun Z=>
 Wp Z (aS b 0) 6 (L3 s t u v w x) fun k=>
 ∃y,rI k (aS b (1+1)) y /\
 sB (y != V)
 (∃z,z<q/\p (wrap .i64 (g+1)) k z)
 (∃A B C D E F G H,cS k (aS h 0) A B C D E F G H /\
 Fn Pz 113 #[.agg ⟨(L0 A B C D E F G H)⟩,vI g] k
 (fun a0 b0=>∃f,iS a0 f /\
 QI 0 b0 fun I d c J=>
 sB (decide (d<(f.n:Int)))
 (NB f.a fun c0 d0=>Ib d f.n /\
 ∃K,rI c ⟨c0,d0+d.toNat*3,none⟩ K /\
 ∃L,rI c (aS b 1) L /\
 sB (K != L)
 (∃l,rI c (aS b 0) l /\
 ∃j,rI c (aS b 0) j /\
 (0<=(j:Int)/\(j:Int)<((e.toNat):Nat)) /\
 ∃M,rS c (aS i (0+j.toNat*1)) M /\
 NB f.a fun e0 f0=>Ib d f.n /\
 ∃(N O:Int),a6 c ⟨e0,f0+d.toNat*3,none⟩ [vI N,vI O] /\
 NB f.a fun g0 h0=>Ib d f.n /\
 ∃P,rS c ⟨g0,h0+d.toNat*3+2,none⟩ P /\
 Wn c (MD g N O P) 213 fun o=>
 Sm [(aS i (0+j.toNat*1)),(aS b 0),(aS b 0)] c o /\
 App Pz 211 211 (vS M) (.slice (some (aS c 0)) 1 1) o fun i0 Q=>
 Sm [(aS b 0)] o Q /\
 (0<=(l:Int)/\(l:Int)<((e.toNat):Nat)) /\
 Wp Q (aS i (0+l.toNat*1)) 1 [vS i0] fun j0=>
 ∃S,S<J/\I (wrap .i64 (d+1)) j0 S)
 (∃T,T<J/\I (wrap .i64 (d+1)) c T))
 (∃U,U<q/\p (wrap .i64 (g+1)) c U))))
 (R (.slice (some (aS i 0)) (e.toNat) (e.toNat)) b)
theorem abg(pa:ByteArray)(pb pc:Sl)(pd pe pf:Int)(pg ph:Sl)(p1:Int)(H:@W59 h R pa pb pc pd pe pf pg ph p1):Fn Pz 59 #[.agg ⟨(L0 pa pb pc pd pe pf pg ph)⟩,vI p1] h R:=aY (A:=(.s .z (.s .z (.s (.s .z (.b (.l [(6,.one (.int .i64))] (.s .z (.s (.b (.s .z (.s .z (.s .z (AI 9))))) .z))))) .z)))) H
def aaa(c:Sl)(y:Int)(z:Sl):Prop:=
 CZ (-1) 0 h fun f d b i g=>
 sB (decide (b<(c.n:Int)))
 (NB c.a fun A B=>Ib b c.n /\
 ∃(j k:Int),a6 i ⟨A,B+b.toNat*4+1,none⟩ [vI j,vI k] /\
 Fn Pz 122 #[vI y,.agg ⟨[vI j,vI k]⟩] i
 (fun C D=>∃(l:Int) (m:Bool) (o p:Int) (q:Sl),C=.agg ⟨(L4 l m o p q)⟩ /\
 Fn Pz 30 #[vS z,.agg ⟨(L4 l m o p q)⟩] D
 (fun E e=>∃r,iB E r /\
 sB r
 (sB (decide (d<0))
 (∃s,s<g/\f b (wrap .i64 (b+1)) e s)
 (NB c.a fun F G=>Ib b c.n /\
 ∃t,rS e ⟨F,G+b.toNat*4+3,none⟩ t /\
 NB c.a fun H I=>Ib d c.n /\
 ∃u,rS e ⟨H,I+d.toNat*4+3,none⟩ u /\
 sB (decide ((t.n:Int)<(u.n:Int)))
 (∃v,v<g/\f b (wrap .i64 (b+1)) e v)
 (∃w,w<g/\f d (wrap .i64 (b+1)) e w)))
 (∃x,x<g/\f d (wrap .i64 (b+1)) e x))))
 (R (vI d) i)
theorem UP(p0:Sl)(p1:Int)(p2:Sl)(H:@aaa h R p0 p1 p2):Fn Pz 121 #[vS p0,vI p1,vS p2] h R:=aY (A:=(.s .z (.s .z (.s (.s .z (.b (.l [(7,.one (.int .i64)),(8,.one (.int .i64))] .z))) .z)))) H
def Z9(l pa pb:Int):Prop:=
 Wn h [vI pa,vI pb] 208 fun a=>
 Wn a [vI 0,.bool false,vI 0,vI 0,vN] 33 fun b=>
 ∃c,rI b (aS h 0) c /\
 ∃d,rI b (aS h 1) d /\
 Wp b (aS a 0) 5 [vI l,.bool false,vI c,vI d,vN] fun e=>
 ∃f g i j k,sG e (aS a 0) f g i j k /\
 R (.agg ⟨(L4 f g i j k)⟩) e
theorem UO(p0 pa pb:Int)(H:@Z9 h R p0 pa pb):Fn Pz 122 #[vI p0,.agg ⟨[vI pa,vI pb]⟩] h R:=aY (A:=.z) H
def tT(b:Sl)(c d:Heap)(e:Nat)(f:Sl->Int->Heap->Nat->Prop)(g:Int):Prop:=
 App Pz 214 214 (vS b) (.slice (some (aS c 0)) 1 1) d fun h i=>∃a,a<e/\f h (wrap .i64 (g+1)) i a
def CW(p b:Heap)(l0 m0 n0 o0 p0:Int)(q0:Bool)(r0 s0:Nat)(t0:Int)(u0 v0:Nat)(c:Int)(h d:Heap)(w0 x0 y0 z0 A0:Int)(B0:Bool)(g:Int)(q:Sl)(r:Int)(s i:Sl)(j:Nat)(k:Sl->Int->Heap->Nat->Prop):Prop:=
 Wp p (aS b 0) 6 (L3 l0 m0 n0 o0 p0 q0) fun t=>Sm [⟨r0,s0+t0.toNat*6,none⟩,⟨u0,v0+c.toNat*1,none⟩,(aS h 6)] p t/\Wp t (aS d 0) 6 (L3 w0 x0 y0 z0 A0 B0) fun u=>∃v w x y z A,gR u (aS b 0) v w x y z A/\Fn Pz 56 #[.agg ⟨(L3 v w x y z A)⟩,vI g] u (fun C0 l=>∃B,iB C0 B/\sB B (∃C D E F G H,gR l (aS d 0) C D E F G H/\Fn Pz 56 #[.agg ⟨(L3 C D E F G H)⟩,vI g] l (fun D0 e=>∃I,iB D0 I/\Sm [(aS b 0)] l e/\sB I (∃J K L M N O,gR e (aS b 0) J K L M N O/\∃P Q R S T U,gR e (aS d 0) P Q R S T U/\Fn Pz 57 #[.agg ⟨(L3 J K L M N O)⟩,vI g] e (fun E0 m=>∃(V:Int) (W:Bool) (X Y:Int) (Z:Sl),E0=.agg ⟨(L4 V W X Y Z)⟩/\Sm [(aS d 0),(aS d 0),(aS b 0)] e m/\Fn Pz 57 #[.agg ⟨(L3 P Q R S T U)⟩,vI g] m (fun F0 o=>∃(a0:Int) (b0:Bool) (c0 d0:Int) (e0:Sl),F0=.agg ⟨(L4 a0 b0 c0 d0 e0)⟩/\Sm [(aS b 0),(aS d 0),(aS b 0)] m o/\Fn Pz 42 #[.agg ⟨(L4 V W X Y Z)⟩,.agg ⟨(L4 a0 b0 c0 d0 e0)⟩] o (fun G0 f=>∃f0,iB G0 f0/\Sm [(aS d 0),(aS b 0)] o f/\sB f0 (NB q.a fun H0 I0=>Ib r q.n/\∃g0,rI f ⟨H0,I0+r.toNat*1,none⟩ g0/\NB s.a fun J0 K0=>Ib c s.n/\∃h0,rI f ⟨J0,K0+c.toNat*1,none⟩ h0/\Wn f [vI g0,vI h0] 219 fun L0=>tT i f L0 j k c) (∃i0,i0<j/\k i (wrap .i64 (c+1)) f i0))))) (∃j0,j0<j/\k i (wrap .i64 (c+1)) e j0))) (∃k0,k0<j/\k i (wrap .i64 (c+1)) l k0))
def aah(pa:ByteArray)(pb pc:Sl)(pd pe pf:Int)(pg ph:Sl)(w p2 p3:Int):Prop:=
 Wn h (L0 pa pb pc pd pe pf pg ph) 27 fun x=>∃Z a0 b0 c0 d0 e0 f0 g0,cS x (aS h 0) Z a0 b0 c0 d0 e0 f0 g0/\∃h0 i0 j0 k0 l0 m0 n0 o0,cS x (aS h 0) h0 i0 j0 k0 l0 m0 n0 o0/\Fn Pz 55 #[.agg ⟨(L0 Z a0 b0 c0 d0 e0 f0 g0)⟩,vI p2] x (fun W0 C=>∃c,iS W0 c/\Sm [(aS h 0)] x C/\Fn Pz 55 #[.agg ⟨(L0 h0 i0 j0 k0 l0 m0 n0 o0)⟩,vI p3] C (fun X0 p0=>∃d,iS X0 d/\Sm [(aS h 0)] C p0/\mF ⟨none,0,0⟩ 0 p0 fun q0 D i q r0=>sB (decide (i<(c.n:Int))) (∃E,rS q (aS h 6) E/\NB c.a fun Y0 Z0=>Ib i c.n/\∃F,rI q ⟨Y0,Z0+i.toNat*1,none⟩ F/\NB E.a fun a1 b1=>Ib F E.n/\∃s0 t0 u0 v0 w0 x0,gR q ⟨a1,b1+F.toNat*6,none⟩ s0 t0 u0 v0 w0 x0/\Fn Pz 56 #[.agg ⟨(L3 s0 t0 u0 v0 w0 x0)⟩,vI w] q (fun c1 y=>∃y0,iB c1 y0/\sB (!y0) (NB c.a fun d1 e1=>Ib i c.n/\∃z0,rI y ⟨d1,e1+i.toNat*1,none⟩ z0/\Wn y [vI z0,vI (-1)] 219 fun f1=>tT D y f1 r0 q0 i) (∃A0,A0<r0/\q0 D (wrap .i64 (i+1)) y A0))) (mF D 0 q fun B0 G j r C0=>sB (decide (j<(d.n:Int))) (∃H,rS r (aS h 6) H/\NB d.a fun g1 h1=>Ib j d.n/\∃I,rI r ⟨g1,h1+j.toNat*1,none⟩ I/\NB H.a fun i1 j1=>Ib I H.n/\∃D0 E0 F0 G0 H0 I0,gR r ⟨i1,j1+I.toNat*6,none⟩ D0 E0 F0 G0 H0 I0/\Fn Pz 56 #[.agg ⟨(L3 D0 E0 F0 G0 H0 I0)⟩,vI w] r (fun k1 z=>∃J0,iB k1 J0/\sB (!J0) (NB d.a fun l1 m1=>Ib j d.n/\∃K0,rI z ⟨l1,m1+j.toNat*1,none⟩ K0/\Wn z [vI (-1),vI K0] 219 fun n1=>tT G z n1 C0 B0 j) (∃M0,M0<C0/\B0 G (wrap .i64 (j+1)) z M0))) (mF G 0 r fun o1 N0 e O0 p1=>sB (decide (e<(c.n:Int))) (mF N0 0 O0 fun P0 J f b Q0=>sB (decide (f<(d.n:Int))) (∃K,rS b (aS h 6) K/\NB c.a fun s t=>Ib e c.n/\∃k,rI b ⟨s,t+e.toNat*1,none⟩ k/\NB K.a fun u v=>Ib k K.n/\∃L M N O P Q,gR b ⟨u,v+k.toNat*6,none⟩ L M N O P Q/\∃S,rS b (aS h 6) S/\NB d.a fun l m=>Ib f d.n/\∃g,rI b ⟨l,m+f.toNat*1,none⟩ g/\NB S.a fun o p=>Ib g S.n/\∃T U V W X Y,gR b ⟨o,p+g.toNat*6,none⟩ T U V W X Y/\(Wn b [vI 0,vI 0,vI 0,vI 0,vI 0,.bool false] 67 fun A=>Sm [⟨o,p+g.toNat*6,none⟩,⟨l,m+f.toNat*1,none⟩,(aS h 6),⟨u,v+k.toNat*6,none⟩,⟨s,t+e.toNat*1,none⟩,(aS h 6)] b A/\Wn A [vI 0,vI 0,vI 0,vI 0,vI 0,.bool false] 67 fun R0=>Sm [⟨o,p+g.toNat*6,none⟩,⟨l,m+f.toNat*1,none⟩,(aS h 6),⟨u,v+k.toNat*6,none⟩,⟨s,t+e.toNat*1,none⟩,(aS h 6)] A R0/\CW R0 b L M N O P Q o p g l m f h A T U V W X Y w c e d J Q0 P0)/\Wn b [vI 0,vI 0,vI 0,vI 0,vI 0,.bool false] 67 fun B=>Sm [⟨o,p+g.toNat*6,none⟩,⟨l,m+f.toNat*1,none⟩,(aS h 6),⟨u,v+k.toNat*6,none⟩,⟨s,t+e.toNat*1,none⟩,(aS h 6)] b B/\Wn B [vI 0,vI 0,vI 0,vI 0,vI 0,.bool false] 67 fun S0=>Sm [⟨o,p+g.toNat*6,none⟩,⟨l,m+f.toNat*1,none⟩,(aS h 6),⟨u,v+k.toNat*6,none⟩,⟨s,t+e.toNat*1,none⟩,(aS h 6)] B S0/\CW S0 B L M N O P Q o p g l m f h b T U V W X Y w c e d J Q0 P0) (∃T0,T0<p1/\o1 J (wrap .i64 (e+1)) b T0)) (R (vS N0) O0)))))
theorem UX(pa:ByteArray)(pb pc:Sl)(pd pe pf:Int)(pg ph:Sl)(p1 p2 p3:Int)(H:@aah h R pa pb pc pd pe pf pg ph p1 p2 p3):Fn Pz 114 #[.agg ⟨(L0 pa pb pc pd pe pf pg ph)⟩,vI p1,vI p2,vI p3] h R:=aY (A:=(.s .z (.s .z (.s .z (.s (AJ 9 12) (.s (AJ 9 13) (.s (.s .z (.b (.l [(9,.one (.slice)),(14,.one (.int .i64))] (.s .z (.s (.b (AJ 9 15)) .z))))) .z))))))) H
def aag(pa:ByteArray)(pb pc:Sl)(pd pe pf:Int)(pg ph:Sl)(q r pi pj:Int):Prop:=
 Wn h (L0 pa pb pc pd pe pf pg ph) 27 fun d=>
 Wn d [vI pi,vI pj] 219 fun c=>
 ∃e:Int->Heap->Prop,
 (∃l,rI c (aS d 0) l /\
 sB (decide (l>=0))
 (∃f,rS c (aS h 6) f /\
 ∃g,rI c (aS d 0) g /\
 NB f.a fun s t=>Ib g f.n /\
 ∃m,rI c ⟨s,t+g.toNat*6+4,none⟩ m /\
 e m c)
 (e q c)) /\
 ∀(_:Env) (i:Int) (b:Heap),e i b ->
 (∃o,rI b (aS d 1) o /\
 sB (decide (o>=0))
 (∃j,rS b (aS h 6) j /\
 ∃k,rI b (aS d 1) k /\
 NB j.a fun u v=>Ib k j.n /\
 ∃p,rI b ⟨u,v+k.toNat*6+4,none⟩ p /\
 R (.tuple ⟨[vI i,vI p]⟩) b)
 (R (.tuple ⟨[vI i,vI r]⟩) b))
theorem UW(pa:ByteArray)(pb pc:Sl)(pd pe pf:Int)(pg ph:Sl)(p1 p2 pi pj:Int)(H:@aag h R pa pb pc pd pe pf pg ph p1 p2 pi pj):Fn Pz 115 #[.agg ⟨(L0 pa pb pc pd pe pf pg ph)⟩,vI p1,vI p2,.agg ⟨[vI pi,vI pj]⟩] h R:=aY (A:=(.s .z (.j [(1,.one (.int .i64))] .z .z))) H
def aac(pa pb:Int):Prop:=
 Wn h [vI pa,vI pb] 219 fun a=>
 ∃b,rI a (aS h 0) b /\
 sB (decide (b>=0))
 (∃c,rI a (aS h 1) c /\
 sB (decide (c>=0))
 (R (vI 2) a)
 (R (vI 1) a))
 (R (vI 1) a)
theorem UR(pa pb:Int)(H:@aac h R pa pb):Fn Pz 119 #[.agg ⟨[vI pa,vI pb]⟩] h R:=aY (A:=.z) H
def vh(z0 e A0:Heap)(H I:Int)(B0:Heap)(J K:Int)(h:Heap)(p1:Int)(L:Heap)(R:Value->Heap->Prop):Prop:=
 Wp z0 (aS e 0) 2 [.slice (some (aS A0 0)) (Int.toNat (wrap .i64 (H*I))) (Int.toNat (wrap .i64 (H*I))),.slice (some (aS B0 0)) (Int.toNat (wrap .i64 (J*K))) (Int.toNat (wrap .i64 (J*K)))] fun l=>∃M,rI l (aS h 4) M/\∃N,rI l (aS h 3) N/\∃O,rI l (aS h 4) O/\Wn l [vI (wrap .i64 ((wrap .i64 (M*N))+O))] 3 fun s=>∃t,rS s (aS e 0) t/\Ib 0 1/\∃u,rI s (aS l (0+Int.toNat 0*1)) u/\NB t.a fun D0 E0=>Ib u t.n/\Wp s ⟨D0,E0+u.toNat*1,none⟩ 1 [.bool true] fun F0=>mF ⟨(some (aS l 0)),1,1⟩ 0 F0 fun G0 f b c H0=>sB (decide (b<(f.n:Int))) (NB f.a fun I0 J0=>Ib b f.n/\∃v,rI c ⟨I0,J0+b.toNat*1,none⟩ v/\∃o,rI c (aS h 3) o/\o≠0/\NB f.a fun K0 M0=>Ib b f.n/\∃w,rI c ⟨K0,M0+b.toNat*1,none⟩ w/\∃p,rI c (aS h 3) p/\p≠0/\∃x,rS c (aS e 1) x/\NB f.a fun P Q=>Ib b f.n/\∃y,rI c ⟨P,Q+b.toNat*1,none⟩ y/\∃S T U V W X Y Z,cS c (aS h 0) S T U V W X Y Z/\Fn Pz 114 #[.agg ⟨(L0 S T U V W X Y Z)⟩,vI p1,vI (wrap .i64 (Int.tdiv v o)),vI (Int.tmod w p)] c (fun N0 a0=>∃b0,iS N0 b0/\Sm [⟨P,Q+b.toNat*1,none⟩,(aS e 1)] c a0/\NB x.a fun O0 P0=>Ib y x.n/\Wp a0 ⟨O0,P0+y.toNat*1,none⟩ 1 [vS b0] fun Q0=>mF f 0 Q0 fun c0 j m d d0=>∃z,rS d (aS e 1) z/\NB j.a fun R0 S0=>Ib b j.n/\∃A,rI d ⟨R0,S0+b.toNat*1,none⟩ A/\NB z.a fun T0 U0=>Ib A z.n/\∃e0,rS d ⟨T0,U0+A.toNat*1,none⟩ e0/\sB (decide (m<(e0.n:Int))) (∃f0 g0 h0 i0 j0 k0 l0 m0,cS d (aS h 0) f0 g0 h0 i0 j0 k0 l0 m0/\∃B,rS d (aS e 1) B/\NB j.a fun V0 W0=>Ib b j.n/\∃C,rI d ⟨V0,W0+b.toNat*1,none⟩ C/\NB B.a fun X0 Y0=>Ib C B.n/\∃D,rS d ⟨X0,Y0+C.toNat*1,none⟩ D/\NB D.a fun Z0 a1=>Ib m D.n/\∃(n0 o0:Int),a6 d ⟨Z0,a1+m.toNat*2,none⟩ [vI n0,vI o0]/\Fn Pz 115 #[.agg ⟨(L0 f0 g0 h0 i0 j0 k0 l0 m0)⟩,vI (wrap .i64 (Int.tdiv v o)),vI (Int.tmod w p),.agg ⟨[vI n0,vI o0]⟩] d (fun b1 k=>∃(g i:Int),b1=.tuple ⟨[vI g,vI i]⟩/\∃E,rS k (aS e 0) E/\∃q,rI k (aS h 3) q/\NB E.a fun c1 d1=>(0<=((wrap .i64 ((wrap .i64 (g*q))+i)):Int)/\((wrap .i64 ((wrap .i64 (g*q))+i)):Int)<(E.n:Nat))/\∃p0,rB k ⟨c1,d1+Int.toNat (wrap .i64 ((wrap .i64 (g*q))+i))*1,none⟩ p0/\sB (!p0) (∃F,rS k (aS e 0) F/\∃r,rI k (aS h 3) r/\NB F.a fun e1 f1=>(0<=((wrap .i64 ((wrap .i64 (g*r))+i)):Int)/\((wrap .i64 ((wrap .i64 (g*r))+i)):Int)<(F.n:Nat))/\Wp k ⟨e1,f1+Int.toNat (wrap .i64 ((wrap .i64 (g*r))+i))*1,none⟩ 1 [.bool true] fun G=>∃q0,rI G (aS h 3) q0/\Wn G [vI (wrap .i64 ((wrap .i64 (g*q0))+i))] 3 fun g1=>App Pz 102 102 (vS j) (.slice (some (aS G 0)) 1 1) g1 fun h1 i1=>∃r0,r0<d0/\c0 h1 (wrap .i64 (m+1)) i1 r0) (∃s0,s0<d0/\c0 j (wrap .i64 (m+1)) k s0))) (∃t0,t0<H0/\G0 j (wrap .i64 (b+1)) d t0))) (∃(u0 v0:Sl),a6 c (aS e 0) [vS u0,vS v0]/\Wp c (aS L 0) 2 [vS u0,vS v0] fun w0=>∃(x0 y0:Sl),a6 w0 (aS L 0) [vS x0,vS y0]/\R (.agg ⟨[vS x0,vS y0]⟩) w0)
def Al(a b:Int):Prop:=
 (0:Int)<=(wrap .i64 (a*b))/\((wrap .i64 (a*b)):Int)<=(wrap .i64 (a*b))/\((24:Nat):Int)*(wrap .i64 (a*b))<=140737488355328
def Ak(a b:Int):Prop:=
 (0:Int)<=(wrap .i64 (a*b))/\((wrap .i64 (a*b)):Int)<=(wrap .i64 (a*b))/\((1:Nat):Int)*(wrap .i64 (a*b))<=140737488355328
def W60(pa:ByteArray)(pb pc:Sl)(pd pe pf:Int)(pg ph:Sl)(k:Int):Prop:=
 Wn h (L0 pa pb pc pd pe pf pg ph) 27 fun f=>Wn f [vN,vN] 115 fun e=>∃a,rI e (aS h 3) a/\∃b,rI e (aS h 3) b/\∃c,rI e (aS h 3) c/\∃d,rI e (aS h 3) d/\((Ak a b)/\Wn e (ai Pz 4 (Int.toNat (wrap .i64 (a*b)))) 4 fun g=>Sm [(aS h 3),(aS h 3)] e g/\((Al c d)/\Wn g (ai Pz 214 (Int.toNat (wrap .i64 (c*d)))) 214 fun l=>Sm [(aS h 3),(aS h 3)] g l/\Wn l [vN,vN] 115 fun r=>Sm [(aS h 3),(aS h 3),(aS h 3),(aS h 3)] l r/\vh r l e a b g c d h k f R)/\Wn g [vN,vN] 115 fun m=>Sm [(aS h 3),(aS h 3),(aS h 3),(aS h 3)] g m/\(Al c d)/\Wn m (ai Pz 214 (Int.toNat (wrap .i64 (c*d)))) 214 fun s=>Sm [(aS h 3),(aS h 3)] m s/\vh s g e a b m c d h k f R)/\((Al c d)/\Wn e (ai Pz 214 (Int.toNat (wrap .i64 (c*d)))) 214 fun i=>Sm [(aS h 3),(aS h 3)] e i/\((Ak a b)/\Wn i (ai Pz 4 (Int.toNat (wrap .i64 (a*b)))) 4 fun n=>Sm [(aS h 3),(aS h 3)] i n/\Wn n [vN,vN] 115 fun t=>Sm [(aS h 3),(aS h 3),(aS h 3),(aS h 3)] n t/\vh t n i a b e c d h k f R)/\Wn i [vN,vN] 115 fun o=>Sm [(aS h 3),(aS h 3),(aS h 3),(aS h 3)] i o/\(Ak a b)/\Wn o (ai Pz 4 (Int.toNat (wrap .i64 (a*b)))) 4 fun u=>Sm [(aS h 3),(aS h 3)] o u/\vh u i o a b e c d h k f R)/\Wn e [vN,vN] 115 fun j=>Sm [(aS h 3),(aS h 3),(aS h 3),(aS h 3)] e j/\((Ak a b)/\Wn j (ai Pz 4 (Int.toNat (wrap .i64 (a*b)))) 4 fun p=>Sm [(aS h 3),(aS h 3)] j p/\(Al c d)/\Wn p (ai Pz 214 (Int.toNat (wrap .i64 (c*d)))) 214 fun v=>Sm [(aS h 3),(aS h 3)] p v/\vh v e j a b p c d h k f R)/\(Al c d)/\Wn j (ai Pz 214 (Int.toNat (wrap .i64 (c*d)))) 214 fun q=>Sm [(aS h 3),(aS h 3)] j q/\(Ak a b)/\Wn q (ai Pz 4 (Int.toNat (wrap .i64 (a*b)))) 4 fun w=>Sm [(aS h 3),(aS h 3)] q w/\vh w e q a b j c d h k f R
theorem abf(pa:ByteArray)(pb pc:Sl)(pd pe pf:Int)(pg ph:Sl)(p1:Int)(H:@W60 h R pa pb pc pd pe pf pg ph p1):Fn Pz 60 #[.agg ⟨(L0 pa pb pc pd pe pf pg ph)⟩,vI p1] h R:=aY (A:=(.s .z (.s .z (.s .z (.s .z (.s (.s .z (.b (.l [(6,.one (.slice)),(7,.one (.int .i64))] (.s .z (.s (.b (.s .z (.s .z (AJ 6 10)))) .z))))) .z)))))) H
end Go.VC
end

section
namespace Go.VC
open Go.Proofs IntKind




end Go.VC
end

section
namespace Go.VC
open Go.Proofs IntKind
variable {h:Heap} {R:Value->Heap->Prop}
def aae(pa:ByteArray)(pb pc:Sl)(pd pe pf:Int)(pg ph:Sl)(pi pj:Int)(pk pl pm pn pq:Sl):Prop:=
 Wn h (Jz pa pb pc pd pe pf pg ph pi pj pk pl pm pn pq) 118 fun e=>
 ∃z A B C D E F G,cS e (aS h 0) z A B C D E F G /\
 Wn e [.string ⟨#[]⟩,vN,vN,vI 0,vI 0,vI 0,vN,vN] 27 fun A0=>
 Wp A0 (aS e 0) 8 (L0 z A B C D E F G) fun f=>
 ∃b,rS f (aS h 13) b /\
 ((0:Int)<=(b.n:Int)/\((b.n:Int):Int)<=(b.n:Int)/\((8:Nat):Int)*(b.n:Int)<=140737488355328)/\Wn f (ai Pz 3 (Int.toNat (b.n:Int))) 3 fun B0=>
 QI 0 B0 fun H c I J=>
 sB (decide (c<(b.n:Int)))
 ((0<=(c:Int)/\(c:Int)<((Int.toNat (b.n:Int)):Nat)) /\
 Wp I (aS f (0+c.toNat*1)) 1 [vI 1073741824] fun i=>
 NB b.a fun C0 D0=>Ib c b.n /\
 ∃K,rB i ⟨C0,D0+c.toNat*1,none⟩ K /\
 sB K
 (∃L M N O P Q S T U V W X Y Z a0,Mu i (aS h 0) L M N O P Q S T U V W X Y Z a0 /\
 ∃s,rI i (aS e 3) s /\
 s≠0/\∃t,rI i (aS e 3) t /\
 t≠0/\Fn Pz 118 #[.agg ⟨(Jz L M N O P Q S T U V W X Y Z a0)⟩,vI (wrap .i64 (Int.tdiv c s)),vI (Int.tmod c t)] i
 (fun E0 F0=>∃b0,iI E0 b0 /\
 (0<=(c:Int)/\(c:Int)<((Int.toNat (b.n:Int)):Nat)) /\
 Wp F0 (aS f (0+c.toNat*1)) 1 [vI b0] fun G0=>
 ∃c0,c0<J/\H (wrap .i64 (c+1)) G0 c0))
 (∃d0,d0<J/\H (wrap .i64 (c+1)) i d0))
 (QB true I fun H0 I0 e0 J0=>
 sB I0
 (QBI false (wrap .i64 ((b.n:Int)-1)) e0 fun K0 f0 d q M0=>
 sB (decide (d>=0))
 (∃u,rS q (aS h (13+1)) u /\
 NB u.a fun N0 O0=>Ib d u.n /\
 ∃j,rS q ⟨N0,O0+d.toNat*1,none⟩ j /\
 QBI f0 0 q fun g0 h0 g k i0=>
 sB (decide (g<(j.n:Int)))
 (∃j0 k0 l0 m0 n0 o0 p0 q0,cS k (aS e 0) j0 k0 l0 m0 n0 o0 p0 q0 /\
 ∃v,rI k (aS e 3) v /\
 v≠0/\∃w,rI k (aS e 3) w /\
 w≠0/\NB j.a fun P0 Q0=>Ib g j.n /\
 ∃(r0 s0:Int),a6 k ⟨P0,Q0+g.toNat*2,none⟩ [vI r0,vI s0] /\
 Fn Pz 115 #[.agg ⟨(L0 j0 k0 l0 m0 n0 o0 p0 q0)⟩,vI (wrap .i64 (Int.tdiv d v)),vI (Int.tmod d w),.agg ⟨[vI r0,vI s0]⟩] k
 (fun R0 l=>∃(m o:Int),R0=.tuple ⟨[vI m,vI o]⟩ /\
 ∃p,rI l (aS e 3) p /\
 (0<=((wrap .i64 ((wrap .i64 (m*p))+o)):Int)/\((wrap .i64 ((wrap .i64 (m*p))+o)):Int)<((Int.toNat (b.n:Int)):Nat)) /\
 ∃x,rI l (aS f (0+Int.toNat (wrap .i64 ((wrap .i64 (m*p))+o))*1)) x /\
 NB j.a fun S0 T0=>Ib g j.n /\
 ∃(t0 u0:Int),a6 l ⟨S0,T0+g.toNat*2,none⟩ [vI t0,vI u0] /\
 Fn Pz 119 #[.agg ⟨[vI t0,vI u0]⟩] l
 (fun U0 r=>∃y,iI U0 y /\
 Sm [(aS f (0+Int.toNat (wrap .i64 ((wrap .i64 (m*p))+o))*1)),(aS e 3)] l r /\
 (0<=(d:Int)/\(d:Int)<((Int.toNat (b.n:Int)):Nat)) /\
 ∃v0,rI r (aS f (0+d.toNat*1)) v0 /\
 sB (decide ((wrap .i64 (x+y))<v0))
 ((0<=(d:Int)/\(d:Int)<((Int.toNat (b.n:Int)):Nat)) /\
 Wp r (aS f (0+d.toNat*1)) 1 [vI (wrap .i64 (x+y))] fun V0=>
 ∃w0,w0<i0/\g0 true (wrap .i64 (g+1)) V0 w0)
 (∃x0,x0<i0/\g0 h0 (wrap .i64 (g+1)) r x0))))
 (∃y0,y0<M0/\K0 h0 (wrap .i64 (d-1)) k y0))
 (∃z0,z0<J0/\H0 f0 q z0))
 (R (.slice (some (aS f 0)) (Int.toNat (b.n:Int)) (Int.toNat (b.n:Int))) e0))
theorem UT(pa:ByteArray)(pb pc:Sl)(pd pe pf:Int)(pg ph:Sl)(pi pj:Int)(pk pl pm pn pq:Sl)(H:@aae h R pa pb pc pd pe pf pg ph pi pj pk pl pm pn pq):Fn Pz 117 #[.agg ⟨(Jz pa pb pc pd pe pf pg ph pi pj pk pl pm pn pq)⟩] h R:=aY (A:=(.s .z (.s .z (.s .z (.s .z (.s (AI 6) (.s (.s .z (.b (.l [(7,.one (.bool))] (.s .z (.b (.s .z (.s .z (.b (.l [(7,.one (.bool)),(8,.one (.int .i64))] (.s .z (.s (.b (.s .z (.s .z (.b (.l [(7,.one (.bool)),(10,.one (.int .i64))] .z))))) .z))))))))))) .z))))))) H
def aad(pa:ByteArray)(pb pc:Sl)(pd pe pf:Int)(pg ph:Sl)(pi pj:Int)(pk pl pm pn pq:Sl)(c d:Int):Prop:=
 Wn h (Jz pa pb pc pd pe pf pg ph pi pj pk pl pm pn pq) 118 fun b=>
 ∃f,rI b (aS h 9) f /\
 sB (f==1)
 (∃i,rS b (aS h 10) i /\
 NB i.a fun M N=>Ib c i.n /\
 ∃r,rS b ⟨M,N+c.toNat*1,none⟩ r /\
 ∃j,rS b (aS h 10) j /\
 NB j.a fun O P=>Ib d j.n /\
 ∃s,rS b ⟨O,P+d.toNat*1,none⟩ s /\
 ∃k,rS b (aS h 10) k /\
 NB k.a fun t u=>Ib c k.n /\
 ∃v,rS b ⟨t,u+c.toNat*1,none⟩ v /\
 Fn Pz 120 #[vS r,vS s] b
 (fun Q l=>∃w,iI Q w /\
 Sm [⟨t,u+c.toNat*1,none⟩,(aS h 10)] b l /\
 sB (decide (w<(v.n:Int)))
 (R (vI 0) l)
 (R (vI 1073741824) l)))
 (sB (f==3)
 (∃x y z A B C D E,cS b (aS h 0) x y z A B C D E /\
 ∃F,rI b (aS h 8) F /\
 Fn Pz 159 #[.agg ⟨(L0 x y z A B C D E)⟩,vI F,vI c,vI d] b
 (fun S G=>∃H,iB S H /\
 sB H
 (R (vI 0) G)
 (R (vI 1073741824) G)))
 (sB (f==4)
 (∃m,rS b (aS h 12) m /\
 NB m.a fun T U=>Ib c m.n /\
 ∃I,rS b ⟨T,U+c.toNat*1,none⟩ I /\
 ∃J,rI b (aS h 8) J /\
 ∃o,rS b (aS h 10) o /\
 NB o.a fun V W=>Ib d o.n /\
 ∃K,rS b ⟨V,W+d.toNat*1,none⟩ K /\
 Fn Pz 121 #[vS I,vI J,vS K] b
 (fun X e=>∃g,iI X g /\
 sB (decide (g>=0))
 (∃p,rS e (aS h 12) p /\
 NB p.a fun Y Z=>Ib c p.n /\
 ∃q,rS e ⟨Y,Z+c.toNat*1,none⟩ q /\
 NB q.a fun a0 b0=>Ib g q.n /\
 ∃L,rS e ⟨a0,b0+g.toNat*4+3,none⟩ L /\
 R (vI (wrap .i64 (1+(L.n:Int)))) e)
 (R (vI 1073741824) e)))
 (R (vI 1073741824) b)))
theorem US(pa:ByteArray)(pb pc:Sl)(pd pe pf:Int)(pg ph:Sl)(pi pj:Int)(pk pl pm pn pq:Sl)(p1 p2:Int)(H:@aad h R pa pb pc pd pe pf pg ph pi pj pk pl pm pn pq p1 p2):Fn Pz 118 #[.agg ⟨(Jz pa pb pc pd pe pf pg ph pi pj pk pl pm pn pq)⟩,vI p1,vI p2] h R:=aY (A:=.z) H
def aab(c s:Sl):Prop:=
 QI 0 h fun e b d f=>
 sB (decide (b<(c.n:Int)))
 (NB c.a fun t u=>Ib b c.n /\
 ∃g,rB d ⟨t,u+b.toNat*5+1,none⟩ g /\
 sB g
 (NB c.a fun v w=>Ib b c.n /\
 ∃i j k l m,sG d ⟨v,w+b.toNat*5,none⟩ i j k l m /\
 Fn Pz 30 #[vS s,.agg ⟨(L4 i j k l m)⟩] d
 (fun x o=>∃p,iB x p /\
 sB (!p)
 (R (vI b) o)
 (∃q,q<f/\e (wrap .i64 (b+1)) o q)))
 (∃r,r<f/\e (wrap .i64 (b+1)) d r))
 (R (vI (c.n:Int)) d)
theorem UQ(p0 p1:Sl)(H:@aab h R p0 p1):Fn Pz 120 #[vS p0,vS p1] h R:=aY (A:=(.s .z (.s (AI 5) .z))) H
def IC(a F b:Heap)(R:Value->Heap->Prop):Prop:=
 ∃c d e f g h i j k l m n o p,ff a (aS F 0) c d e f g h i j k l m n o p/\Wp a (aS b 0) 14 (L1 c d e f g h i j k l m n o p) fun q=>∃r s t u v w x y z A B C D E,ff q (aS b 0) r s t u v w x y z A B C D E/\R (.tuple ⟨[.agg ⟨(L1 r s t u v w x y z A B C D E)⟩,.bool true]⟩) q
def Mx(b s:Heap)(c:Sl)(d t u:Int)(v:Nat)(w:Int->Int->Heap->Nat->Prop):Prop:=
 ∃e f g h i j k l,cS b (aS s 0) e f g h i j k l/\NB c.a fun x y=>Ib d c.n/\∃(m o:Int),a6 b ⟨x,y+d.toNat*2,none⟩ [vI m,vI o]/\Fn Pz 115 #[.agg ⟨(L0 e f g h i j k l)⟩,vI t,vI u,.agg ⟨[vI m,vI o]⟩] b (fun z A=>∃(p q:Int),z=.tuple ⟨[vI p,vI q]⟩/\∃r,r<v/\w p q A r)
def IB(b:Sl)(c:Int)(e f g:Heap)(m o:Int)(p:Nat)(q:Int->Int->Heap->Nat->Prop):Prop:=
 ∃h:Heap->Prop,(NB b.a fun D E=>Ib c b.n/\∃r,rI e ⟨D,E+c.toNat*2,none⟩ r/\sB (decide (r>=0)) (∃s,rS e (aS f 2) s/\∃i,rS e (aS g 6) i/\NB b.a fun F G=>Ib c b.n/\∃j,rI e ⟨F,G+c.toNat*2,none⟩ j/\NB i.a fun H I=>Ib j i.n/\∃t u v,gB e ⟨H,I+j.toNat*6+1,none⟩ t u v/\Wn e (L2 t u v) 65 fun w=>Sm [(aS f 2)] e w/\App Pz 30 30 (vS s) (.slice (some (aS e 0)) 1 1) w fun J K=>Wp K (aS f 2) 1 [vS J] fun L=>h L) (h e))/\∀(_:Env) (d:Heap),h d->(NB b.a fun M N=>Ib c b.n/\∃x,rI d ⟨M,N+c.toNat*2+1,none⟩ x/\sB (decide (x>=0)) (∃y,rS d (aS f 3) y/\∃k,rS d (aS g 6) k/\NB b.a fun O P=>Ib c b.n/\∃l,rI d ⟨O,P+c.toNat*2+1,none⟩ l/\NB k.a fun Q R=>Ib l k.n/\∃z A B,gB d ⟨Q,R+l.toNat*6+1,none⟩ z A B/\Wn d (L2 z A B) 65 fun C=>Sm [(aS f 3)] d C/\App Pz 30 30 (vS y) (.slice (some (aS d 0)) 1 1) C fun S T=>Wp T (aS f 3) 1 [vS S] fun U=>Mx U g b c m o p q) (Mx d g b c m o p q))
def My(T b:Heap)(U V W:Int)(X:Sl)(h g e Y:Heap)(R:Value->Heap->Prop):Prop:=
 Wp T (aS b 0) 4 (MD U V W X) fun c=>∃r,rI c (aS h 8) r/\∃(s t:Int),a6 c (aS b 1) [vI s,vI t]/\∃i,rS c (aS g 6) i/\∃f,rI c (aS b 0) f/\NB i.a fun j k=>Ib f i.n/\∃u v w x y z,gR c ⟨j,k+f.toNat*6,none⟩ u v w x y z/\∃A,rI c (aS h 8) A/\Fn Pz 122 #[vI r,.agg ⟨[vI s,vI t]⟩] c (fun Z l=>∃(B:Int) (C:Bool) (D E:Int) (F:Sl),Z=.agg ⟨(L4 B C D E F)⟩/\Sm [(aS h 8),⟨j,k+f.toNat*6,none⟩,(aS b 0),(aS g 6)] c l/\Fn Pz 57 #[.agg ⟨(L3 u v w x y z)⟩,vI A] l (fun a0 m=>∃(G:Int) (H:Bool) (I J:Int) (K:Sl),a0=.agg ⟨(L4 G H I J K)⟩/\Sm [(aS b 1),(aS h 8)] l m/\Wp m (aS e 4) 5 (L4 B C D E F) fun L=>Sm [(aS h 8),⟨j,k+f.toNat*6,none⟩,(aS b 0),(aS g 6)] m L/\Wp L (aS e 9) 5 (L4 G H I J K) fun d=>∃M,rS d (aS e 2) M/\∃o,rS d (aS g 6) o/\∃p,rI d (aS b 0) p/\NB o.a fun b0 c0=>Ib p o.n/\∃N O P,gB d ⟨b0,c0+p.toNat*6+1,none⟩ N O P/\∃Q,rS d (aS b 3) Q/\Wn d (L2 N O P) 65 fun q=>Sm [(aS b 3),(aS e 2)] d q/\App Pz 30 30 (vS M) (.slice (some (aS d 0)) 1 1) q fun d0 S=>Sm [(aS b 3)] q S/\App Pz 30 30 (vS d0) (vS Q) S fun e0 f0=>Wp f0 (aS e 2) 1 [vS e0] fun g0=>IC g0 e Y R))
def EI(a b c:Int)(d:Sl):Prop:=
 0<=((wrap .i64 ((wrap .i64 (a*b))+c)):Int)/\((wrap .i64 ((wrap .i64 (a*b))+c)):Int)<(d.n:Nat)
def W62(pa:ByteArray)(pb pc:Sl)(pd pe pf:Int)(pg ph:Sl)(pi pj:Int)(pk pl pm pn pq:Sl):Prop:=
 Wn h (Jz pa pb pc pd pe pf pg ph pi pj pk pl pm pn pq) 118 fun k=>Wn k [vI 0,vI 0,vN,vN,vI 0,.bool false,vI 0,vI 0,vN,vI 0,.bool false,vI 0,vI 0,vN] 39 fun d=>∃b0 c0 d0 e0 f0 g0 h0 i0,cS d (aS h 0) b0 c0 d0 e0 f0 g0 h0 i0/\Wn d [.string ⟨#[]⟩,vN,vN,vI 0,vI 0,vI 0,vN,vN] 27 fun f2=>Wp f2 (aS d 0) 8 (L0 b0 c0 d0 e0 f0 g0 h0 i0) fun j0=>∃k0 l0 m0 n0 o0 p0 q0 r0 s0 t0 u0 v0 w0 x0 y0,Mu j0 (aS h 0) k0 l0 m0 n0 o0 p0 q0 r0 s0 t0 u0 v0 w0 x0 y0/\Fn Pz 117 #[.agg ⟨(Jz k0 l0 m0 n0 o0 p0 q0 r0 s0 t0 u0 v0 w0 x0 y0)⟩] j0 (fun g2 f=>∃g,iS g2 g/\∃t,rI f (aS d 4) t/\∃u,rI f (aS d 4) u/\∃C,rI f (aS d 3) C/\NB g.a fun h2 i2=>(EI t C u g)/\∃z0,rI f ⟨h2,i2+Int.toNat (wrap .i64 ((wrap .i64 (t*C))+u))*1,none⟩ z0/\sB (decide (z0>=1073741824)) (Wp f (aS k 0) 14 [vI 0,vI 0,vN,vN,vI 0,.bool false,vI 0,vI 0,vN,vI 0,.bool false,vI 0,vI 0,vN] fun A0=>∃B0 C0 D0 E0 F0 G0 H0 I0 J0 K0 M0 N0 O0 P0,ff A0 (aS k 0) B0 C0 D0 E0 F0 G0 H0 I0 J0 K0 M0 N0 O0 P0/\R (.tuple ⟨[.agg ⟨(L1 B0 C0 D0 E0 F0 G0 H0 I0 J0 K0 M0 N0 O0 P0)⟩,.bool false]⟩) A0) (∃Q0,rI f (aS h 9) Q0/\∃R0,rI f (aS h 8) R0/\Wn f [vI 0,vI 0,vN,vN,vI 0,.bool false,vI 0,vI 0,vN,vI 0,.bool false,vI 0,vI 0,vN] 39 fun j2=>Wp j2 (aS f 0) 14 [vI Q0,vI R0,vN,vN,vI 0,.bool false,vI 0,vI 0,vN,vI 0,.bool false,vI 0,vI 0,vN] fun k2=>CZ t u k2 fun S0 b e m T0=>∃U0 V0 W0 X0 Y0 Z0 a1 b1 c1 d1 e1 f1 g1 h1 i1,Mu m (aS h 0) U0 V0 W0 X0 Y0 Z0 a1 b1 c1 d1 e1 f1 g1 h1 i1/\∃v,rI m (aS d 3) v/\NB g.a fun j1 k1=>(EI b v e g)/\∃l1,rI m ⟨j1,k1+Int.toNat (wrap .i64 ((wrap .i64 (b*v))+e))*1,none⟩ l1/\Fn Pz 118 #[.agg ⟨(Jz U0 V0 W0 X0 Y0 Z0 a1 b1 c1 d1 e1 f1 g1 h1 i1)⟩,vI b,vI e] m (fun l2 c=>∃m1,iI l2 m1/\Sm [⟨j1,k1+Int.toNat (wrap .i64 ((wrap .i64 (b*v))+e))*1,none⟩,(aS d 3)] m c/\sB (m1 != l1) (∃D,rS c (aS h (13+1)) D/\∃E,rI c (aS d 3) E/\NB D.a fun m2 n2=>(EI b E e D)/\∃i,rS c ⟨m2,n2+Int.toNat (wrap .i64 ((wrap .i64 (b*E))+e))*1,none⟩ i/\CZ (-1) 0 c fun n1 w j o o1=>sB (decide (j<(i.n:Int))) (sB (decide (w<0)) (∃p1 q1 r1 s1 t1 u1 v1 w1,cS o (aS d 0) p1 q1 r1 s1 t1 u1 v1 w1/\NB i.a fun o2 p2=>Ib j i.n/\∃(x1 y1:Int),a6 o ⟨o2,p2+j.toNat*2,none⟩ [vI x1,vI y1]/\Fn Pz 115 #[.agg ⟨(L0 p1 q1 r1 s1 t1 u1 v1 w1)⟩,vI b,vI e,.agg ⟨[vI x1,vI y1]⟩] o (fun q2 l=>∃(x y:Int),q2=.tuple ⟨[vI x,vI y]⟩/\∃z,rI l (aS d 3) z/\NB g.a fun z1 A1=>(EI x z y g)/\∃B1,rI l ⟨z1,A1+Int.toNat (wrap .i64 ((wrap .i64 (x*z))+y))*1,none⟩ B1/\NB i.a fun r2 s2=>Ib j i.n/\∃(C1 D1:Int),a6 l ⟨r2,s2+j.toNat*2,none⟩ [vI C1,vI D1]/\∃A,rI l (aS d 3) A/\NB g.a fun E1 F1=>(EI b A e g)/\∃G1,rI l ⟨E1,F1+Int.toNat (wrap .i64 ((wrap .i64 (b*A))+e))*1,none⟩ G1/\Fn Pz 119 #[.agg ⟨[vI C1,vI D1]⟩] l (fun t2 F=>∃H1,iI t2 H1/\Sm [⟨E1,F1+Int.toNat (wrap .i64 ((wrap .i64 (b*A))+e))*1,none⟩,(aS d 3),⟨z1,A1+Int.toNat (wrap .i64 ((wrap .i64 (x*z))+y))*1,none⟩,(aS d 3)] l F/\sB ((wrap .i64 (B1+H1))==G1) (∃I1,I1<o1/\n1 j (wrap .i64 (j+1)) F I1) (∃J1,J1<o1/\n1 w (wrap .i64 (j+1)) F J1)))) (IB i w o f d b e T0 S0)) (IB i w o f d b e T0 S0)) (∃G,rI c (aS h 9) G/\sB (G==1) (∃H,rS c (aS h 10) H/\NB H.a fun K1 M1=>Ib b H.n/\∃I,rS c ⟨K1,M1+b.toNat*1,none⟩ I/\∃J,rS c (aS h 10) J/\NB J.a fun u2 v2=>Ib b J.n/\∃N1,rS c ⟨u2,v2+b.toNat*1,none⟩ N1/\∃K,rS c (aS h 10) K/\NB K.a fun w2 x2=>Ib e K.n/\∃O1,rS c ⟨w2,x2+e.toNat*1,none⟩ O1/\Fn Pz 120 #[vS N1,vS O1] c (fun y2 L=>∃M,iI y2 M/\Sm [⟨K1,M1+b.toNat*1,none⟩,(aS h 10)] c L/\NB I.a fun z2 A2=>Ib M I.n/\∃P1 Q1 R1 S1 T1,sG L ⟨z2,A2+M.toNat*5,none⟩ P1 Q1 R1 S1 T1/\Wp L (aS f 4) 5 (L4 P1 Q1 R1 S1 T1) fun B2=>IC B2 f k R)) (sB (G==4) (∃N,rS c (aS h 12) N/\NB N.a fun p q=>Ib b N.n/\∃r,rS c ⟨p,q+b.toNat*1,none⟩ r/\∃O,rS c (aS h 12) O/\NB O.a fun P Q=>Ib b O.n/\∃S,rS c ⟨P,Q+b.toNat*1,none⟩ S/\∃T,rI c (aS h 8) T/\∃U,rS c (aS h 10) U/\NB U.a fun V W=>Ib e U.n/\∃X,rS c ⟨V,W+e.toNat*1,none⟩ X/\(Fn Pz 121 #[vS S,vI T,vS X] c (fun C2 s=>∃B,iI C2 B/\Sm [⟨p,q+b.toNat*1,none⟩,(aS h 12)] c s/\NB r.a fun U1 V1=>Ib B r.n/\∃W1 X1 Y1 Z1,Iw s ⟨U1,V1+B.toNat*4,none⟩ W1 X1 Y1 Z1/\Wn s [vI 0,vI 0,vI 0,vN] 213 fun a2=>Sm [⟨U1,V1+B.toNat*4,none⟩,⟨V,W+e.toNat*1,none⟩,(aS h 10),(aS h 8),⟨P,Q+b.toNat*1,none⟩,(aS h 12),⟨p,q+b.toNat*1,none⟩,(aS h 12)] s a2/\My a2 s W1 X1 Y1 Z1 h d f k R))/\Wn c [vI 0,vI 0,vI 0,vN] 213 fun Y=>Sm [⟨V,W+e.toNat*1,none⟩,(aS h 10),(aS h 8),⟨P,Q+b.toNat*1,none⟩,(aS h 12),⟨p,q+b.toNat*1,none⟩,(aS h 12)] c Y/\Fn Pz 121 #[vS S,vI T,vS X] Y (fun D2 Z=>∃a0,iI D2 a0/\Sm [⟨p,q+b.toNat*1,none⟩,(aS h 12)] Y Z/\NB r.a fun E2 F2=>Ib a0 r.n/\∃b2 c2 d2 e2,Iw Z ⟨E2,F2+a0.toNat*4,none⟩ b2 c2 d2 e2/\My Z c b2 c2 d2 e2 h d f k R)) (IC c f k R))))))
theorem abd(pa:ByteArray)(pb pc:Sl)(pd pe pf:Int)(pg ph:Sl)(pi pj:Int)(pk pl pm pn pq:Sl)(H:@W62 h R pa pb pc pd pe pf pg ph pi pj pk pl pm pn pq):Fn Pz 62 #[.agg ⟨(Jz pa pb pc pd pe pf pg ph pi pj pk pl pm pn pq)⟩] h R:=aY (A:=(.s .z (.s .z (.s .z (.s .z (.s .z (.s .z (.s (.b (.l [(6,.one (.int .i64)),(7,.one (.int .i64))] (.s .z (.b (.s .z (.s .z (.s (.s .z (.b (.l [(10,.one (.int .i64)),(11,.one (.int .i64))] .z))) (.j [] .z .z)))))))) .z)))))))) H
def EJ(d:Sl)(e b f:Heap)(g:Int)(h:Sl)(i:Nat)(j:Sl->Sl->Int->Heap->Nat->Prop)(k:Sl)(l:Int):Prop:=
 App Pz 30 30 (vS d) (.slice (some (aS e 0)) 1 1) b fun m a=>Sm [(aS f 4)] b a/\Wn a [vI g,vS m] 221 fun n=>App Pz 222 222 (vS h) (.slice (some (aS a 0)) 1 1) n fun o p=>∃c,c<i/\j o k (wrap .i64 (l+1)) p c
def EK(C h:Heap)(f0:Int)(g0 h0:Sl)(d:Int)(i0:Nat)(j0:Sl->Sl->Int->Heap->Nat->Prop):Prop:=
 ∃D E F G H I J K,cS C (aS h 0) D E F G H I J K/\Fn Pz 55 #[.agg ⟨(L0 D E F G H I J K)⟩,vI f0] C (fun k0 l0=>∃k,iS k0 k/\Au g0 h0 0 l0 fun l f m e b o=>sB (decide (e<(k.n:Int))) (∃y,rS b (aS h 6) y/\NB k.a fun L M=>Ib e k.n/\∃p,rI b ⟨L,M+e.toNat*1,none⟩ p/\NB y.a fun N O=>Ib p y.n/\∃P Q R S T U,gR b ⟨N,O+p.toNat*6,none⟩ P Q R S T U/\Wn b [vI 0,vI 0,vI 0,vI 0,vI 0,.bool false] 67 fun V=>Sm [⟨N,O+p.toNat*6,none⟩,⟨L,M+e.toNat*1,none⟩,(aS h 6)] b V/\Wp V (aS b 0) 6 (L3 P Q R S T U) fun W=>∃X,rI W (aS b 4) X/\Fn Pz 116 #[vS m,vI X] W (fun m0 q=>∃Y,iB m0 Y/\sB (!Y) (∃Z,rI q (aS b 4) Z/\Wn q [vI Z] 3 fun n0=>App Pz 102 102 (vS m) (.slice (some (aS q 0)) 1 1) n0 fun z c=>∃r,rI c (aS b 4) r/\NB f.a fun g i=>Ib d f.n/\∃s,rS c ⟨g,i+d.toNat*2+1,none⟩ s/\∃t u v,gB c (aS b 1) t u v/\(Wn c [] 65 fun j=>Sm [(aS b 1),⟨g,i+d.toNat*2+1,none⟩,(aS b 4)] c j/\(App Pz 30 30 (.slice (some (aS c 0)) 0 0) (vS s) j fun o0 w=>Sm [(aS b 1),(aS b 4)] j w/\Wn w (L2 t u v) 65 fun a0=>Sm [⟨g,i+d.toNat*2+1,none⟩,(aS b 4)] w a0/\EJ o0 w a0 b r f o l z e)/\Wn j (L2 t u v) 65 fun A=>Sm [⟨g,i+d.toNat*2+1,none⟩,(aS b 4)] j A/\App Pz 30 30 (.slice (some (aS c 0)) 0 0) (vS s) A fun p0 b0=>Sm [(aS b 1),(aS b 4)] A b0/\EJ p0 j b0 b r f o l z e)/\Wn c (L2 t u v) 65 fun x=>Sm [⟨g,i+d.toNat*2+1,none⟩,(aS b 4)] c x/\Wn x [] 65 fun B=>Sm [(aS b 1),⟨g,i+d.toNat*2+1,none⟩,(aS b 4)] x B/\App Pz 30 30 (.slice (some (aS x 0)) 0 0) (vS s) B fun q0 c0=>Sm [(aS b 1),(aS b 4)] B c0/\EJ q0 c c0 b r f o l z e) (∃d0,d0<o/\l f m (wrap .i64 (e+1)) q d0))) (∃e0,e0<i0/\j0 f m (wrap .i64 (d+1)) b e0))
def IE(g:Sl)(f:Int)(b:Heap)(c:Sl)(p1:Int)(h:Heap)(R:Value->Heap->Prop):Prop:=
 NB g.a fun i j=>Ib f g.n/\∃k,rS b ⟨i,j+f.toNat*2+1,none⟩ k/\NB c.a fun l m=>Ib 0 c.n/\∃o p q r s,sG b ⟨l,m+Int.toNat 0*5,none⟩ o p q r s/\Wn b [vI 0,vI 0,vN,vN,vI 0,.bool false,vI 0,vI 0,vN,vI 0,.bool false,vI 0,vI 0,vN] 39 fun t=>Sm [⟨l,m+Int.toNat 0*5,none⟩,⟨i,j+f.toNat*2+1,none⟩] b t/\Wp t (aS b 0) 14 [vI 2,vI p1,vS k,vN,vI o,.bool p,vI q,vI r,vS s,vI (-1),.bool false,vI 0,vI 0,vN] fun j0=>QI (wrap .i64 ((c.n:Int)-1)) j0 fun u d e v=>sB (decide (d>=0)) (NB c.a fun k0 l0=>Ib d c.n/\∃w,rB e ⟨k0,l0+d.toNat*5+1,none⟩ w/\sB (!w) (NB c.a fun m0 n0=>Ib d c.n/\∃x y z A B,sG e ⟨m0,n0+d.toNat*5,none⟩ x y z A B/\Wp e (aS b 9) 5 (L4 x y z A B) fun o0=>∃C,C<v/\u (wrap .i64 (d-1)) o0 C) (∃D,D<v/\u (wrap .i64 (d-1)) e D)) (∃E F G H I J K L M N O P Q S,ff e (aS b 0) E F G H I J K L M N O P Q S/\Wp e (aS h 0) 14 (L1 E F G H I J K L M N O P Q S) fun T=>∃U V W X Y Z a0 b0 c0 d0 e0 f0 g0 h0,ff T (aS h 0) U V W X Y Z a0 b0 c0 d0 e0 f0 g0 h0/\R (.tuple ⟨[.agg ⟨(L1 U V W X Y Z a0 b0 c0 d0 e0 f0 g0 h0)⟩,.bool true]⟩) T)
def W61(pa:ByteArray)(pb pc:Sl)(pd pe pf:Int)(pg ph:Sl)(r:Int)(pi pj:Sl):Prop:=
 Wn h (L0 pa pb pc pd pe pf pg ph) 27 fun i=>Wn i [vS pi,vS pj] 109 fun g=>Wn g [vI 0,vI 0,vN,vN,vI 0,.bool false,vI 0,vI 0,vN,vI 0,.bool false,vI 0,vI 0,vN] 39 fun j=>∃s,rI j (aS h 4) s/\Wn j [vI s,vN] 221 fun k=>∃t,rI k (aS h 4) t/\Wn k [vI t] 3 fun M=>Au ⟨(some (aS j 0)),1,1⟩ ⟨(some (aS k 0)),1,1⟩ 0 M fun l d m e b o=>sB (decide (e<(d.n:Int))) (NB d.a fun N O=>Ib e d.n/\∃f,rI b ⟨N,O+e.toNat*2,none⟩ f/\∃p,rS b (aS i 0) p/\NB p.a fun P Q=>Ib f p.n/\∃c,rS b ⟨P,Q+f.toNat*1,none⟩ c/\sB (decide ((c.n:Int)>0)) (NB c.a fun S T=>Ib 0 c.n/\∃u,rB b ⟨S,T+Int.toNat 0*5+1,none⟩ u/\sB u (∃q,rS b (aS i 1) q/\NB q.a fun U V=>Ib f q.n/\∃v,rB b ⟨U,V+f.toNat*1,none⟩ v/\sB v (IE d e b c r g R) (NB c.a fun W X=>(0<=((wrap .i64 ((c.n:Int)-1)):Int)/\((wrap .i64 ((c.n:Int)-1)):Int)<(c.n:Nat))/\∃w,rB b ⟨W,X+Int.toNat (wrap .i64 ((c.n:Int)-1))*5+1,none⟩ w/\sB (!w) (IE d e b c r g R) (EK b h f d m e o l))) (EK b h f d m e o l)) (EK b h f d m e o l)) (Wp b (aS g 0) 14 [vI 0,vI 0,vN,vN,vI 0,.bool false,vI 0,vI 0,vN,vI 0,.bool false,vI 0,vI 0,vN] fun x=>∃y z A B C D E F G H I J K L,ff x (aS g 0) y z A B C D E F G H I J K L/\R (.tuple ⟨[.agg ⟨(L1 y z A B C D E F G H I J K L)⟩,.bool false]⟩) x)
theorem abe(pa:ByteArray)(pb pc:Sl)(pd pe pf:Int)(pg ph:Sl)(p1:Int)(pi pj:Sl)(H:@W61 h R pa pb pc pd pe pf pg ph p1 pi pj):Fn Pz 61 #[.agg ⟨(L0 pa pb pc pd pe pf pg ph)⟩,vI p1,.agg ⟨[vS pi,vS pj]⟩] h R:=aY (A:=(.s .z (.s .z (.s .z (.s (.s .z (.b (.l [(8,.one (.slice)),(9,.one (.slice)),(10,.one (.int .i64))] (.s .z (.s (.b (.s .z (.s .z (.s (.s .z (.c (.s .z (.s (AI 14) .z)) .z)) (.s .z (.s .z (.b (.l [(8,.one (.slice)),(9,.one (.slice)),(16,.one (.int .i64))] .z)))))))) .z))))) .z))))) H
end Go.VC
end
