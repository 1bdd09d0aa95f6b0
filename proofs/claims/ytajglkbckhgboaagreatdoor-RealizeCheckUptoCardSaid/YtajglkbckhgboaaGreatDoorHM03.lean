/- SxVcA SxVcJ SxVcJ2 SxVcU SxVcV SxVcM SxVcD SxVcF SxVcB SxVcC SxVcH SxVcI SxVcK SxVcL SxVcX SxVcW SxVcS1 SxVcS2 SxVcS4 SxVcS3 SxVcS5 SxVcS6 SxVcS7 SxVcS8 SxVcS9. -/
import Derived.Test.YtajglkbckhgboaaGreatDoorHM01
set_option linter.all false
set_option maxRecDepth 100000
set_option maxHeartbeats 8000000

section
namespace Go.VC
open Go.Proofs IntKind
variable {h:Heap} {R:Value->Heap->Prop}
def Zn(a:ByteArray):Prop:=
 sB ((ByteArray.toList a)==(ByteArray.toList ⟨#[]⟩))
 (R (.bool false) h)
 (sB (decide ((ByteArray.size a:Int)>16))
 (R (.bool false) h)
 ((0<=(0:Int)/\(0:Int)<(ByteArray.size a:Nat)) /\
 Fn Pz 265 #[.int .u8 (iu a (Int.toNat 0):Int)] h
 (fun j c=>∃d,iB j d /\
 sB (!d)
 (R (.bool false) c)
 (QI 0 c fun k b e l=>
 sB (decide (b<(ByteArray.size a:Int)))
 ((0<=(b:Int)/\(b:Int)<(ByteArray.size a:Nat)) /\
 Fn Pz 266 #[.int .u8 (iu a (b.toNat):Int)] e
 (fun m f=>∃g,iB m g /\
 sB (!g)
 (R (.bool false) f)
 (∃i,i<l/\k (wrap .i64 (b+1)) f i)))
 (R (.bool true) e)))))
theorem T3(p0:ByteArray)(H:@Zn h R p0):Fn Pz 222 #[.string p0] h R:=aY (A:=(.s .z (.s .z (.s (AI 19) .z)))) H
def ZV(a:ByteArray):Prop:=
 Wn h [.string ⟨#[]⟩,.string ⟨#[]⟩,.string ⟨#[]⟩,.string ⟨#[]⟩,.string ⟨#[]⟩,.string ⟨#[]⟩,.string ⟨#[]⟩,.string ⟨#[]⟩,.string ⟨#[]⟩,.string ⟨#[]⟩,.string ⟨#[]⟩,.string ⟨#[]⟩,.string ⟨#[]⟩,.string ⟨#[]⟩,.string ⟨#[]⟩,.string ⟨#[]⟩,.string ⟨#[]⟩,.string ⟨#[]⟩,.string ⟨#[]⟩,.string ⟨#[]⟩,.string ⟨#[]⟩,.string ⟨#[]⟩,.string ⟨#[]⟩,.string ⟨#[]⟩,.string ⟨#[]⟩,.string ⟨#[]⟩,.string ⟨#[]⟩,.string ⟨#[]⟩] 348 fun e=>
 Wp e (aS h 0) 28 [.string ⟨#[97,103,97,105,110]⟩,.string ⟨#[97,110,100]⟩,.string ⟨#[97,115]⟩,.string ⟨#[97,116]⟩,.string ⟨#[99,97,108,108]⟩,.string ⟨#[99,104,111,105,99,101]⟩,.string ⟨#[101,108,115,101]⟩,.string ⟨#[102,114,111,109]⟩,.string ⟨#[105,102]⟩,.string ⟨#[105,110,116]⟩,.string ⟨#[108,101,110]⟩,.string ⟨#[108,111,111,112]⟩,.string ⟨#[109,101,115,115,97,103,101]⟩,.string ⟨#[111,102]⟩,.string ⟨#[111,102,102,101,114]⟩,.string ⟨#[111,110]⟩,.string ⟨#[111,114]⟩,.string ⟨#[112,97,114]⟩,.string ⟨#[112,108,97,121,115]⟩,.string ⟨#[112,114,111,116,111,99,111,108]⟩,.string ⟨#[115,101,114,118,105,99,101]⟩,.string ⟨#[116,101,120,116]⟩,.string ⟨#[116,105,109,101,115]⟩,.string ⟨#[116,111]⟩,.string ⟨#[118,97,114]⟩,.string ⟨#[119,104,101,114,101]⟩,.string ⟨#[119,104,105,108,101]⟩,.string ⟨#[119,105,116,104,105,110]⟩] fun f=>
 Fn Pz 222 #[.string a] f
 (fun g b=>∃c,iB g c /\
 sB c
 (((0:Int)<=(0:Int)/\(0:Int)<=((28:Nat):Int)/\((28:Nat):Int)<=(28:Nat)) /\
 Fn Pz 161 #[.slice (aQ (some (aS h 0)) (Int.toNat 0) 28 1) (Int.toNat (28:Nat)-Int.toNat 0) (28-Int.toNat 0),.string a] b
 (fun i j=>∃d,iB i d /\
 R (.bool (!d)) j))
 (R (.bool false) b))
theorem UC(p0:ByteArray)(H:@ZV h R p0):Fn Pz 160 #[.string p0] h R:=aY (A:=.z) H
def Y7(a:Int):Prop:=
 sB (decide ((97:Int)<=a))
 (sB (decide (a<=122))
 (R (.bool true) h)
 (sB (decide ((65:Int)<=a))
 (R (.bool (decide (a<=90))) h)
 (R (.bool false) h)))
 (sB (decide ((65:Int)<=a))
 (R (.bool (decide (a<=90))) h)
 (R (.bool false) h))
theorem TK(p0:Int)(H:@Y7 h R p0):Fn Pz 265 #[.int .u8 p0] h R:=aY (A:=.z) H
def Y6(a:Int):Prop:=
 Fn Pz 265 #[.int .u8 a] h
 (fun f b=>∃c,iB f c /\
 sB c
 (R (.bool true) b)
 (Fn Pz 296 #[.int .u8 a] b
 (fun g d=>∃e,iB g e /\
 sB e
 (R (.bool true) d)
 (R (.bool (a==95)) d))))
theorem TJ(p0:Int)(H:@Y6 h R p0):Fn Pz 266 #[.int .u8 p0] h R:=aY (A:=.z) H
def YR(a:Int):Prop:=
 sB (decide ((48:Int)<=a))
 (R (.bool (decide (a<=57))) h)
 (R (.bool false) h)
theorem Tw(p0:Int)(H:@YR h R p0):Fn Pz 296 #[.int .u8 p0] h R:=aY (A:=.z) H
def Zm(d:Sl)(g:ByteArray):Prop:=
 QI 0 h fun i b c j=>
 sB (decide (b<(d.n:Int)))
 (NB d.a fun k l=>Ib b d.n /\
 ∃e,rT c ⟨k,l+b.toNat*1,none⟩ e /\
 sB ((ByteArray.toList g)==(ByteArray.toList e))
 (R (vI b) c)
 (∃f,f<j/\i (wrap .i64 (b+1)) c f))
 (R (vI (-1)) c)
theorem T2(p0:Sl)(p1:ByteArray)(H:@Zm h R p0 p1):Fn Pz 223 #[vS p0,.string p1] h R:=aY (A:=(.s .z (.s (AI 8) .z))) H
def ZU(b:Sl)(c:ByteArray):Prop:=
 Fn Pz 223 #[vS b,.string c] h
 (fun d e=>∃a,iI d a /\
 R (.bool (decide (a>=0))) e)
theorem UB(p0:Sl)(p1:ByteArray)(H:@ZU h R p0 p1):Fn Pz 161 #[vS p0,.string p1] h R:=aY (A:=.z) H
def YM(g:Sl)(i:FuncId):Prop:=
 QI 0 h fun l b f m=>
 sB (decide (b<(g.n:Int)))
 (NB g.a fun o p=>Ib b g.n /\
 ∃j,rT f ⟨o,p+b.toNat*1,none⟩ j /\
 bif aJ Pz i then Fn Pz i #[.string j] f
 (fun k c=>∃d,iB k d /\
 sB d
 (R (vI b) c)
 (∃e,e<m/\l (wrap .i64 (b+1)) c e)) else vu Pz i #[.string j] f
 (fun k c=>∃d,iB k d /\
 sB d
 (R (vI b) c)
 (∃e,e<m/\l (wrap .i64 (b+1)) c e)))
 (R (vI (-1)) f)
theorem Tr(p0:Sl)(p1:FuncId)(H:@YM h R p0 p1):Fn Pz 308 #[vS p0,.func (.func p1) #[] #[]] h R:=aY (A:=(.s .z (.s (AI 8) .z))) H
def YQ(b:Sl)(c:Value):Prop:=
 Fn Pz 308 #[vS b,c] h
 (fun d e=>∃a,iI d a /\
 R (.bool (decide (a>=0))) e)
theorem Tv(p0:Sl)(p1:Value)(H:@YQ h R p0 p1):Fn Pz 297 #[vS p0,p1] h R:=aY (A:=.z) H
def YP(b:ByteArray):Prop:=
 Fn Pz 160 #[.string b] h
 (fun c d=>∃a,iB c a /\
 R (.bool (!a)) d)
theorem Tu(p0:ByteArray)(H:@YP h R p0):Fn Pz 299 #[.string p0] h R:=aY (A:=.z) H
def Y4(a:ByteArray):Prop:=
 sB (decide ((ByteArray.size a:Int)<=50))
 (Fn Pz 298 #[.string a,.string ⟨#[46]⟩] h
 (fun d e=>∃b,iS d b /\
 Fn Pz 297 #[vS b,.func (.func 299) #[] #[]] e
 (fun f g=>∃c,iB f c /\
 R (.bool (!c)) g)))
 (R (.bool false) h)
theorem TH(p0:ByteArray)(H:@Y4 h R p0):Fn Pz 268 #[.string p0] h R:=aY (A:=.z) H
def Y5(d:Sl):Prop:=
 mF ⟨none,0,0⟩ 0 h fun p e c b q=>
 sB (decide (c<(d.n:Int)))
 (NB d.a fun r s=>Ib c d.n /\
 ∃f g i j k,YI b ⟨r,s+c.toNat*5,none⟩ f g i j k /\
 Wn b [.string ⟨#[]⟩,vN,vI 0,vN,vN] 171 fun t=>
 Wp t (aS b 0) 5 (L8 f g i j k) fun l=>
 ∃m,rS l (aS b 1) m /\
 App Pz 166 166 (vS e) (vS m) l fun u v=>
 ∃o,o<q/\p u (wrap .i64 (c+1)) v o)
 (R (vS e) b)
theorem TI(p0:Sl)(H:@Y5 h R p0):Fn Pz 267 #[vS p0] h R:=aY (A:=(.s .z (.s .z (.s (AJ 3 8) .z)))) H
def Y2(pa:ByteArray)(pb:Sl)(pc:Int)(pd pe:Sl)(d:Addr):Prop:=
 Wn h (L8 pa pb pc pd pe) 171 fun a=>
 ∃b,rT a (aS h 0) b /\
 ∃c,rT a d c /\
 R (.bool ((ByteArray.toList b)==(ByteArray.toList c))) a
theorem TF(pa:ByteArray)(pb:Sl)(pc:Int)(pd pe:Sl)(c0:Addr)(H:@Y2 h R pa pb pc pd pe c0):Fn Pz 270 #[.agg ⟨(L8 pa pb pc pd pe)⟩,.pointer (some c0)] h R:=aY (A:=.z) H
def YX(pa:ByteArray)(pb pc pd:Int)(d:Addr):Prop:=
 Wn h (L9 pa pb pc pd) 260 fun a=>
 ∃b,rT a (aS h 0) b /\
 ∃c,rT a d c /\
 R (.bool ((ByteArray.toList b)==(ByteArray.toList c))) a
theorem TC(pa:ByteArray)(pb pc pd:Int)(c0:Addr)(H:@YX h R pa pb pc pd c0):Fn Pz 273 #[.agg ⟨(L9 pa pb pc pd)⟩,.pointer (some c0)] h R:=aY (A:=.z) H
def YZ(pa pb pc:Int):Prop:=
 Wn h (L2 pa pb pc) 258 fun a=>
 ∃b,rI a (aS h 0) b /\
 sB (b==1)
 (∃c,rI a (aS h 1) c /\
 sB (decide (c>=(-1000)))
 (∃d,rI a (aS h 1) d /\
 ∃e,rI a (aS h 2) e /\
 sB (decide (d<=e))
 (∃f,rI a (aS h 2) f /\
 R (.bool (decide (f<=1000))) a)
 (R (.bool false) a))
 (R (.bool false) a))
 (sB (b==2)
 (∃g,rI a (aS h 1) g /\
 sB (decide (g>=0))
 (∃i,rI a (aS h 1) i /\
 ∃j,rI a (aS h 2) j /\
 sB (decide (i<=j))
 (∃k,rI a (aS h 2) k /\
 R (.bool (decide (k<=40))) a)
 (R (.bool false) a))
 (R (.bool false) a))
 (R (.bool false) a))
theorem TE(pa pb pc:Int)(H:@YZ h R pa pb pc):Fn Pz 271 #[.agg ⟨(L2 pa pb pc)⟩] h R:=aY (A:=.z) H
def YO(g:Sl)(i:FuncId)(Gh:Option Addr):Prop:=
 QI 0 h fun q b f r=>
 sB (decide (b<(g.n:Int)))
 (NB g.a fun s t=>Ib b g.n /\
 ∃j k l m o,YI f ⟨s,t+b.toNat*5,none⟩ j k l m o /\
 bif aJ Pz i then Fn Pz i #[.agg ⟨(L8 j k l m o)⟩,.pointer Gh] f
 (fun p c=>∃d,iB p d /\
 sB d
 (R (vI b) c)
 (∃e,e<r/\q (wrap .i64 (b+1)) c e)) else vu Pz i #[.agg ⟨(L8 j k l m o)⟩,.pointer Gh] f
 (fun p c=>∃d,iB p d /\
 sB d
 (R (vI b) c)
 (∃e,e<r/\q (wrap .i64 (b+1)) c e)))
 (R (vI (-1)) f)
theorem Tt(p0:Sl)(p1:FuncId)(Gh:Option Addr)(H:@YO h R p0 p1 Gh):Fn Pz 300 #[vS p0,.func (.func p1) #[] #[.pointer Gh]] h R:=aY (A:=(.s .z (.s (AI 8) .z))) H
def YN(g:Sl)(i:FuncId)(Gh:Option Addr):Prop:=
 QI 0 h fun p b f q=>
 sB (decide (b<(g.n:Int)))
 (NB g.a fun r s=>Ib b g.n /\
 ∃j k l m,YH f ⟨r,s+b.toNat*4,none⟩ j k l m /\
 bif aJ Pz i then Fn Pz i #[.agg ⟨(L9 j k l m)⟩,.pointer Gh] f
 (fun o c=>∃d,iB o d /\
 sB d
 (R (vI b) c)
 (∃e,e<q/\p (wrap .i64 (b+1)) c e)) else vu Pz i #[.agg ⟨(L9 j k l m)⟩,.pointer Gh] f
 (fun o c=>∃d,iB o d /\
 sB d
 (R (vI b) c)
 (∃e,e<q/\p (wrap .i64 (b+1)) c e)))
 (R (vI (-1)) f)
theorem Ts(p0:Sl)(p1:FuncId)(Gh:Option Addr)(H:@YN h R p0 p1 Gh):Fn Pz 301 #[vS p0,.func (.func p1) #[] #[.pointer Gh]] h R:=aY (A:=(.s .z (.s (AI 8) .z))) H
def Y3(b:Sl)(c:Value):Prop:=
 Fn Pz 300 #[vS b,c] h
 (fun d e=>∃a,iI d a /\
 R (.bool (decide (a>=0))) e)
theorem TG(p0:Sl)(p1:Value)(H:@Y3 h R p0 p1):Fn Pz 269 #[vS p0,p1] h R:=aY (A:=.z) H
def YY(b:Sl)(c:Value):Prop:=
 Fn Pz 301 #[vS b,c] h
 (fun d e=>∃a,iI d a /\
 R (.bool (decide (a>=0))) e)
theorem TD(p0:Sl)(p1:Value)(H:@YY h R p0 p1):Fn Pz 272 #[vS p0,p1] h R:=aY (A:=.z) H
def YW(pa pb i:Sl):Prop:=
 Wn h [vS pa,vS pb] 169 fun d=>
 ∃p,rS d (aS h 0) p /\
 sB (decide ((p.n:Int)>20))
 (R (.bool false) d)
 (∃q,rS d (aS h 1) q /\
 sB (decide ((q.n:Int)>20))
 (R (.bool false) d)
 (∃j,rS d (aS h 0) j /\
 QI 0 d fun J k b K=>
 sB (decide (k<(j.n:Int)))
 (NB j.a fun L M=>Ib k j.n /\
 ∃r s t,gB b ⟨L,M+k.toNat*3,none⟩ r s t /\
 Wn b [vI 0,vI 0,vI 0] 263 fun N=>
 Wp N (aS b 0) 3 (L2 r s t) fun c=>
 ∃u,rI c (aS b 0) u /\
 ∃v,rI c (aS b 1) v /\
 sB (decide ((iJ u v)<(-1)))
 (R (.bool false) c)
 (∃w,rI c (aS b 0) w /\
 ∃x,rI c (aS b 1) x /\
 sB (decide ((imax w x)>=(i.n:Int)))
 (R (.bool false) c)
 (∃y,rI c (aS b 2) y /\
 sB (decide (y<(-20000)))
 (R (.bool false) c)
 (∃z,rI c (aS b 2) z /\
 sB (decide (z>20000))
 (R (.bool false) c)
 (∃A,A<K/\J (wrap .i64 (k+1)) c A)))))
 (∃l,rS b (aS h 1) l /\
 QI 0 b fun O m f P=>
 sB (decide (m<(l.n:Int)))
 (NB l.a fun Q S=>Ib m l.n /\
 ∃(B C:Int),a6 f ⟨Q,S+m.toNat*2,none⟩ [vI B,vI C] /\
 Wn f [vI 0,vI 0] 52 fun T=>
 Wp T (aS f 0) 2 [vI B,vI C] fun D=>
 ∃(E F:Int),a6 D (aS f 0) [vI E,vI F] /\
 QI 0 D fun U o e V=>
 sB (decide (o<2))
 (Ib o 2/\∃g:Int,List.take 1 (List.drop (o.toNat*1) ([vI E,vI F]:List Value))=[vI g] /\
 sB (decide (g<0))
 (R (.bool false) e)
 (sB (decide (g>=(i.n:Int)))
 (R (.bool false) e)
 (NB i.a fun W X=>Ib g i.n /\
 ∃G,rI e ⟨W,X+g.toNat*4+1,none⟩ G /\
 sB (G != 2)
 (R (.bool false) e)
 (∃H,H<V/\U (wrap .i64 (o+1)) e H))))
 (∃I,I<P/\O (wrap .i64 (m+1)) e I))
 (R (.bool true) f))))
theorem TB(pa pb p1:Sl)(H:@YW h R pa pb p1):Fn Pz 274 #[.agg ⟨[vS pa,vS pb]⟩,vS p1] h R:=aY (A:=(.s .z (.s .z (.s (AI 24) (.s (.s .z (.b (.l [(58,.one (.int .i64))] (.s .z (.s .z (.s (.b (.s .z (AI 63))) .z)))))) .z))))) H
def Zl(d:Sl):Prop:=
 sB (decide ((d.n:Int)>40))
 (R (.bool false) h)
 (Fn Pz 267 #[vS d] h
 (fun Y q=>∃m,iS Y m /\
 sB (decide ((m.n:Int)>24))
 (R (.bool false) q)
 (CZ 0 0 q fun Z r f b m6=>
 sB (decide (f<(d.n:Int)))
 (NB d.a fun b0 c0=>Ib f d.n /\
 ∃s t u v w,YI b ⟨b0,c0+f.toNat*5,none⟩ s t u v w /\
 Wn b [.string ⟨#[]⟩,vN,vI 0,vN,vN] 171 fun d0=>
 Wp d0 (aS b 0) 5 (L8 s t u v w) fun x=>
 ∃y,rT x (aS b 0) y /\
 Fn Pz 268 #[.string y] x
 (fun e0 i=>∃z,iB e0 z /\
 sB (!z)
 (R (.bool false) i)
 (∃A,rS i (aS b 1) A /\
 sB (decide ((A.n:Int)>4))
 (R (.bool false) i)
 (∃B,rI i (aS b 2) B /\
 sB (B != r)
 (R (.bool false) i)
 (((0:Int)<=(0:Int)/\(0:Int)<=(f:Int)/\(f:Int)<=(d.c:Nat)) /\
 Fn Pz 269 #[.slice (aQ d.a (Int.toNat 0) d.c 5) (f.toNat-Int.toNat 0) (d.c-Int.toNat 0),.func (.func 270) #[] #[.pointer (some (aS b 0))]] i
 (fun f0 k=>∃C,iB f0 C /\
 sB C
 (R (.bool false) k)
 (∃D,rS k (aS b 1) D /\
 ∃l,rS k (aS b 1) l /\
 QI 0 k fun g0 g e h0=>
 sB (decide (g<(l.n:Int)))
 (NB l.a fun i0 j0=>Ib g l.n /\
 ∃E F G H,YH e ⟨i0,j0+g.toNat*4,none⟩ E F G H /\
 Wn e [.string ⟨#[]⟩,vI 0,vI 0,vI 0] 260 fun k0=>
 Wp k0 (aS e 0) 4 (L9 E F G H) fun I=>
 ∃J,rT I (aS e 0) J /\
 Fn Pz 160 #[.string J] I
 (fun l0 o=>∃K,iB l0 K /\
 sB (!K)
 (R (.bool false) o)
 (∃L M N,gB o (aS e 1) L M N /\
 Fn Pz 271 #[.agg ⟨(L2 L M N)⟩] o
 (fun m0 p=>∃O,iB m0 O /\
 sB (!O)
 (R (.bool false) p)
 (∃j,rS p (aS b 1) j /\
 ((0:Int)<=(0:Int)/\(0:Int)<=(g:Int)/\(g:Int)<=(j.c:Nat)) /\
 Fn Pz 272 #[.slice (aQ j.a (Int.toNat 0) j.c 4) (g.toNat-Int.toNat 0) (j.c-Int.toNat 0),.func (.func 273) #[] #[.pointer (some (aS e 0))]] p
 (fun n0 P=>∃Q,iB n0 Q /\
 sB Q
 (R (.bool false) P)
 (∃S,S<h0/\g0 (wrap .i64 (g+1)) P S)))))))
 (∃(T U:Sl),a6 e (aS b 3) [vS T,vS U] /\
 Fn Pz 274 #[.agg ⟨[vS T,vS U]⟩,vS m] e
 (fun o0 V=>∃W,iB o0 W /\
 sB (!W)
 (R (.bool false) V)
 (∃X,X<m6/\Z (wrap .i64 (r+(D.n:Int))) (wrap .i64 (f+1)) V X))))))))))
 (R (.bool true) b))))
theorem TZ(p0:Sl)(H:@Zl h R p0):Fn Pz 224 #[vS p0] h R:=aY (A:=(.s .z (.s .z (.s .z (.s .z (.s .z (.s (.s .z (.b (.l [(4,.one (.int .i64)),(19,.one (.int .i64))] (.s .z (.s .z (.s (.b (.s .z (.s .z (.s .z (.s (AI 55) .z))))) .z)))))) .z))))))) H
def Zk(pa:ByteArray)(pb:Sl)(pc:Int)(pd pe:Sl):Prop:=
 Wn h (L8 pa pb pc pd pe) 171 fun k=>
 ∃g,rS k (aS h 1) g /\
 mF ⟨none,0,0⟩ 0 k fun G l d c H=>
 sB (decide (d<(g.n:Int)))
 (NB g.a fun I J=>Ib d g.n /\
 ∃m o p q,YH c ⟨I,J+d.toNat*4,none⟩ m o p q /\
 Wn c [.string ⟨#[]⟩,vI 0,vI 0,vI 0] 260 fun K=>
 Wp K (aS c 0) 4 (L9 m o p q) fun e=>
 ∃r,rI e (aS h 2) r /\
 ∃s,rI e (aS c (1+2)) s /\
 ∃t,rI e (aS h 2) t /\
 ∃u,rI e (aS c (1+1)) u /\
 Wn e [vI (wrap .i64 (r+d)),vI (-1),vI s,vI (-1),vI (wrap .i64 (t+d)),vI (wrap .i64 (0-u))] 263 fun L=>
 App Pz 167 167 (vS l) (.slice (some (aS e 0)) 2 2) L fun M N=>
 ∃v,v<H/\G M (wrap .i64 (d+1)) N v)
 (∃w,rS c (aS h 3) w /\
 App Pz 167 167 (vS l) (vS w) c fun O x=>
 ∃i,rS x (aS h (3+1)) i /\
 mF O 0 x fun P y j b Q=>
 sB (decide (j<(i.n:Int)))
 (NB i.a fun S T=>Ib j i.n /\
 ∃(z A:Int),a6 b ⟨S,T+j.toNat*2,none⟩ [vI z,vI A] /\
 Wn b [vI 0,vI 0] 52 fun U=>
 Wp U (aS b 0) 2 [vI z,vI A] fun f=>
 Ib 0 2 /\
 ∃B,rI f (aS b (0+Int.toNat 0*1)) B /\
 Ib 1 2 /\
 ∃C,rI f (aS b (0+Int.toNat 1*1)) C /\
 Ib 1 2 /\
 ∃D,rI f (aS b (0+Int.toNat 1*1)) D /\
 Ib 0 2 /\
 ∃E,rI f (aS b (0+Int.toNat 0*1)) E /\
 Wn f [vI B,vI C,vI 0,vI D,vI E,vI 0] 263 fun V=>
 App Pz 167 167 (vS y) (.slice (some (aS f 0)) 2 2) V fun W X=>
 ∃F,F<Q/\P W (wrap .i64 (j+1)) X F)
 (R (vS y) b))
theorem TY(pa:ByteArray)(pb:Sl)(pc:Int)(pd pe:Sl)(H:@Zk h R pa pb pc pd pe):Fn Pz 225 #[.agg ⟨(L8 pa pb pc pd pe)⟩] h R:=aY (A:=(.s .z (.s .z (.s (AJ 3 11) (.s .z (.s (AJ 3 46) .z)))))) H
def ZT(b:Sl)(c:Int):Prop:=
 sB (decide (c<0))
 (R (.tuple ⟨[vN,vI 1]⟩) h)
 (sB (decide (c>=(b.n:Int)))
 (R (.tuple ⟨[vN,vI 1]⟩) h)
 (Fn Pz 224 #[vS b] h
 (fun m d=>∃e,iB m e /\
 sB (!e)
 (R (.tuple ⟨[vN,vI 1]⟩) d)
 (NB b.a fun o p=>Ib c b.n /\
 ∃f g i j k,YI d ⟨o,p+c.toNat*5,none⟩ f g i j k /\
 Fn Pz 225 #[.agg ⟨(L8 f g i j k)⟩] d
 (fun q r=>∃l,iS q l /\
 R (.tuple ⟨[vS l,vI 0]⟩) r)))))
theorem UA(p0:Sl)(p1:Int)(H:@ZT h R p0 p1):Fn Pz 162 #[vS p0,vI p1] h R:=aY (A:=.z) H
end Go.VC
end

section
namespace Go.VC
open Go.Proofs IntKind
variable [aB]
namespace M
def Iy(a:Int)(h:Heap)(R:Value->Heap->Prop):Prop:=
 R (.bool (a != a)) h
theorem Fz(p0:Int)(h:Heap)(R:Value->Heap->Prop)(H:Iy p0 h R):Fn Pz 111 #[vI p0] h R:=aY (A:=.z) H
def YK(b c:Int)(h:Heap)(R:Value->Heap->Prop):Prop:=
 Fn Pz 111 #[vI b] h
 (fun f g=>∃e,iB f e /\
 Fn Pz 111 #[vI c] g
 (fun i a=>∃d,iB i d /\
 sB e
 (sB d
 (R (vI 0) a)
 (R (vI (-1)) a))
 (sB d
 (R (vI 1) a)
 (sB (decide (b<c))
 (R (vI (-1)) a)
 (sB (decide (b>c))
 (R (vI 1) a)
 (R (vI 0) a))))))
theorem Oh(p0 p1:Int)(h:Heap)(R:Value->Heap->Prop)(H:YK p0 p1 h R):Fn Pz 54 #[vI p0,vI p1] h R:=aY (A:=.z) H
def YL(d:Sl)(h:Heap)(R:Value->Heap->Prop):Prop:=
 QI 0 h fun g b c i=>
 sB (decide (b<(d.n:Int)))
 (NB d.a fun j k=>Ib b d.n /\
 ∃e,rI c ⟨j,k+b.toNat*1,none⟩ e /\
 sB (e != 0)
 (R (vI e) c)
 (∃f,f<i/\g (wrap .i64 (b+1)) c f))
 (R (vI 0) c)
theorem Oi(p0:Sl)(h:Heap)(R:Value->Heap->Prop)(H:YL p0 h R):Fn Pz 53 #[vS p0] h R:=aY (A:=(.s .z (.s .z (.s (AI 8) .z)))) H
end M
end Go.VC
end

section
namespace Go.VC
open Go.Proofs IntKind
variable [aB]
namespace M
def Ix(pa:Bool)(pb pc:Int)(pd:Bool)(pe pf:Int)(h:Heap)(R:Value->Heap->Prop):Prop:=
 Wn h (L5 pa pb pc) 188 fun b=>
 Wn b (L5 pd pe pf) 188 fun a=>
 ∃e,rB a (aS h 0) e /\
 ∃f,rB a (aS b 0) f /\
 sB (!(e==f))
 (∃g,rB a (aS h 0) g /\
 sB g
 (R (vI (-1)) a)
 (R (vI 1) a))
 (∃i,rI a (aS h 1) i /\
 ∃j,rI a (aS b 1) j /\
 ∃k,rI a (aS h 2) k /\
 ∃l,rI a (aS b 2) l /\
 Fn Pz 54 #[vI i,vI j] a
 (fun p c=>∃m,iI p m /\
 Sm [(aS b 2),(aS h 2)] a c /\
 Fn Pz 54 #[vI k,vI l] c
 (fun q d=>∃n,iI q n /\
 Sm [(aS b 1),(aS h 1)] c d /\
 Wn d [vI m,vI n] 3 fun r=>
 Fn Pz 53 #[.slice (some (aS d 0)) 2 2] r
 (fun s t=>∃o,iI s o /\
 R (vI o) t))))
theorem Fy(pa:Bool)(pb pc:Int)(pd:Bool)(pe pf:Int)(h:Heap)(R:Value->Heap->Prop)(H:Ix pa pb pc pd pe pf h R):Fn Pz 185 #[.agg ⟨(L5 pa pb pc)⟩,.agg ⟨(L5 pd pe pf)⟩] h R:=aY (A:=.z) H
def W70(pa pb pc pd:Int)(h:Heap)(R:Value->Heap->Prop):Prop:=
 Wn h [vI pa,vI pb] 72 fun b=>
 Wn b [vI pc,vI pd] 72 fun a=>
 ∃e,rI a (aS h 0) e /\
 ∃f,rI a (aS b 0) f /\
 ∃g,rI a (aS h 1) g /\
 ∃i,rI a (aS b 1) i /\
 Fn Pz 54 #[vI e,vI f] a
 (fun m c=>∃j,iI m j /\
 Sm [(aS b 1),(aS h 1)] a c /\
 Fn Pz 54 #[vI g,vI i] c
 (fun n d=>∃k,iI n k /\
 Sm [(aS b 0),(aS h 0)] c d /\
 Wn d [vI j,vI k] 3 fun o=>
 Fn Pz 53 #[.slice (some (aS d 0)) 2 2] o
 (fun p q=>∃l,iI p l /\
 R (vI l) q)))
theorem abb(pa pb pc pd:Int)(h:Heap)(R:Value->Heap->Prop)(H:W70 pa pb pc pd h R):Fn Pz 70 #[.agg ⟨[vI pa,vI pb]⟩,.agg ⟨[vI pc,vI pd]⟩] h R:=aY (A:=.z) H
def Z8(pa pb pc pd pe:Int)(pf:Bool)(pg ph pi pj pk:Int)(pl:Bool)(h:Heap)(R:Value->Heap->Prop):Prop:=
 Wn h (L3 pa pb pc pd pe pf) 67 fun b=>
 Wn b (L3 pg ph pi pj pk pl) 67 fun a=>
 ∃c d e,gB a (aS h 1) c d e /\
 ∃f g i,gB a (aS b 1) f g i /\
 Fn Pz 130 #[.agg ⟨(L2 c d e)⟩,.agg ⟨(L2 f g i)⟩] a
 (fun k l=>∃j,iI k j /\
 R (vI j) l)
theorem UN(pa pb pc pd pe:Int)(pf:Bool)(pg ph pi pj pk:Int)(pl:Bool)(h:Heap)(R:Value->Heap->Prop)(H:Z8 pa pb pc pd pe pf pg ph pi pj pk pl h R):Fn Pz 129 #[.agg ⟨(L3 pa pb pc pd pe pf)⟩,.agg ⟨(L3 pg ph pi pj pk pl)⟩] h R:=aY (A:=.z) H
def Z7(pa pb pc pd pe pf:Int)(h:Heap)(R:Value->Heap->Prop):Prop:=
 Wn h (L2 pa pb pc) 65 fun a=>
 Wn a (L2 pd pe pf) 65 fun b=>
 ∃f,rI b (aS h 0) f /\
 ∃g,rI b (aS a 0) g /\
 ∃i,rI b (aS h 1) i /\
 ∃j,rI b (aS a 1) j /\
 ∃k,rI b (aS h 2) k /\
 ∃l,rI b (aS a 2) l /\
 Fn Pz 54 #[vI f,vI g] b
 (fun q c=>∃m,iI q m /\
 Sm [(aS a 2),(aS h 2),(aS a 1),(aS h 1)] b c /\
 Fn Pz 54 #[vI i,vI j] c
 (fun r d=>∃n,iI r n /\
 Sm [(aS a 2),(aS h 2),(aS a 0),(aS h 0)] c d /\
 Fn Pz 54 #[vI k,vI l] d
 (fun s e=>∃o,iI s o /\
 Sm [(aS a 1),(aS h 1),(aS a 0),(aS h 0)] d e /\
 Wn e (L2 m n o) 3 fun t=>
 Fn Pz 53 #[.slice (some (aS e 0)) 3 3] t
 (fun u v=>∃p,iI u p /\
 R (vI p) v))))
theorem UM(pa pb pc pd pe pf:Int)(h:Heap)(R:Value->Heap->Prop)(H:Z7 pa pb pc pd pe pf h R):Fn Pz 130 #[.agg ⟨(L2 pa pb pc)⟩,.agg ⟨(L2 pd pe pf)⟩] h R:=aY (A:=.z) H
end M
end Go.VC
end

section
namespace Go.VC
open Go.Proofs IntKind
variable {h:Heap} {R:Value->Heap->Prop}
def W42(pa:Int)(pb:Bool)(pc pd:Int)(pe:Sl)(pf:Int)(pg:Bool)(ph pi:Int)(pj:Sl):Prop:=
 Wn h (L4 pa pb pc pd pe) 33 fun b=>
 Wn b (L4 pf pg ph pi pj) 33 fun a=>
 ∃c,rI a (aS h 0) c /\
 ∃d,rI a (aS b 0) d /\
 sB (c==d)
 (∃e,rB a (aS h 1) e /\
 ∃f,rB a (aS b 1) f /\
 sB (e==f)
 (∃g,rI a (aS h 2) g /\
 ∃i,rI a (aS b 2) i /\
 sB (g==i)
 (∃j,rI a (aS h 3) j /\
 ∃k,rI a (aS b 3) k /\
 R (.bool (j==k)) a)
 (R (.bool false) a))
 (R (.bool false) a))
 (R (.bool false) a)
theorem Tq(pa:Int)(pb:Bool)(pc pd:Int)(pe:Sl)(pf:Int)(pg:Bool)(ph pi:Int)(pj:Sl)(H:@W42 h R pa pb pc pd pe pf pg ph pi pj):Fn Pz 42 #[.agg ⟨(L4 pa pb pc pd pe)⟩,.agg ⟨(L4 pf pg ph pi pj)⟩] h R:=aY (A:=.z) H
def aaf(d:Sl)(g:Int):Prop:=
 QI 0 h fun i b c j=>
 sB (decide (b<(d.n:Int)))
 (NB d.a fun k l=>Ib b d.n /\
 ∃e,rI c ⟨k,l+b.toNat*1,none⟩ e /\
 sB (e==g)
 (R (.bool true) c)
 (∃f,f<j/\i (wrap .i64 (b+1)) c f))
 (R (.bool false) c)
theorem UU(p0:Sl)(p1:Int)(H:@aaf h R p0 p1):Fn Pz 116 #[vS p0,vI p1] h R:=aY (A:=(.s .z (.s (AI 5) .z))) H
def Y8(pa:Int)(pb:Bool)(pc pd:Int)(pe:Sl)(pf:Int)(pg:Bool)(ph pi:Int)(pj:Sl):Prop:=
 Wn h (L4 pa pb pc pd pe) 33 fun b=>
 Wn b (L4 pf pg ph pi pj) 33 fun a=>
 ∃c,rB a (aS h 1) c /\
 ∃d,rB a (aS b 1) d /\
 sB (!(c==d))
 (∃e,rB a (aS h 1) e /\
 R (.bool e) a)
 (∃f,rI a (aS h 2) f /\
 ∃g,rI a (aS b 2) g /\
 sB (f != g)
 (∃i,rI a (aS h 2) i /\
 ∃j,rI a (aS b 2) j /\
 R (.bool (decide (i<j))) a)
 (∃k,rI a (aS h 3) k /\
 ∃l,rI a (aS b 3) l /\
 R (.bool (decide (k<l))) a))
theorem TL(pa:Int)(pb:Bool)(pc pd:Int)(pe:Sl)(pf:Int)(pg:Bool)(ph pi:Int)(pj:Sl)(H:@Y8 h R pa pb pc pd pe pf pg ph pi pj):Fn Pz 264 #[.agg ⟨(L4 pa pb pc pd pe)⟩,.agg ⟨(L4 pf pg ph pi pj)⟩] h R:=aY (A:=.z) H
def Jj(d:Sl)(b:Int)(c:Heap)(g:Sl)(h:Nat)(i:Sl->Bool->Int->Heap->Nat->Prop):Prop:=
 NB d.a fun j k=>Ib b d.n/\∃e,rI c ⟨j,k+b.toNat*1,none⟩ e/\Wn c [vI e] 3 fun l=>App Pz 102 102 (vS g) (.slice (some (aS c 0)) 1 1) l fun m o=>∃f,f<h/\i m true (wrap .i64 (b+1)) o f
def Ji(d:Sl)(b:Int)(c:Heap)(g:Sl)(h:Nat)(i:Sl->Bool->Int->Heap->Nat->Prop)(j:Bool):Prop:=
 NB d.a fun k l=>Ib b d.n/\∃e,rI c ⟨k,l+b.toNat*1,none⟩ e/\Wn c [vI e] 3 fun m=>App Pz 102 102 (vS g) (.slice (some (aS c 0)) 1 1) m fun o p=>∃f,f<h/\i o j (wrap .i64 (b+1)) p f
def Zq(c:Sl)(f:Int):Prop:=
 aav ⟨none,0,0⟩ false 0 h fun g e i d b j=>sB (decide (d<(c.n:Int))) (sB (!i) (NB c.a fun m o=>Ib d c.n/\∃k,rI b ⟨m,o+d.toNat*1,none⟩ k/\sB (decide (k>=f)) (NB c.a fun p q=>Ib d c.n/\∃l,rI b ⟨p,q+d.toNat*1,none⟩ l/\sB (decide (l>f)) (Wn b [vI f] 3 fun r=>App Pz 102 102 (vS e) (.slice (some (aS b 0)) 1 1) r fun s t=>Jj c d t s j g) (Jj c d b e j g)) (Ji c d b e j g i)) (Ji c d b e j g i)) (sB (!i) (Wn b [vI f] 3 fun u=>App Pz 102 102 (vS e) (.slice (some (aS b 0)) 1 1) u fun v w=>R (vS v) w) (R (vS e) b))
theorem T6(p0:Sl)(p1:Int)(H:@Zq h R p0 p1):Fn Pz 218 #[vS p0,vI p1] h R:=aY (A:=(.s .z (.s .z (.s .z (.s (.s .z (.b (.l [(5,.one (.slice)),(6,.one (.bool)),(7,.one (.int .i64))] .z))) .z))))) H
def Zp(pa:ByteArray)(pb pc:Sl)(pd pe pf:Int)(pg ph:Sl)(r s:Int):Prop:=
 Wn h (L0 pa pb pc pd pe pf pg ph) 27 fun f=>
 ∃g i j k l m o p,cS f (aS h 0) g i j k l m o p /\
 Fn Pz 55 #[.agg ⟨(L0 g i j k l m o p)⟩,vI s] f
 (fun t b=>∃c,iS t c /\
 sB (decide ((c.n:Int)>0))
 (∃d,rS b (aS h 6) d /\
 NB c.a fun u v=>Ib 0 c.n /\
 ∃e,rI b ⟨u,v+Int.toNat 0*1,none⟩ e /\
 NB d.a fun w x=>Ib e d.n /\
 ∃q,rI b ⟨w,x+e.toNat*6+1,none⟩ q /\
 R (.bool (q==r)) b)
 (R (.bool false) b))
theorem T5(pa:ByteArray)(pb pc:Sl)(pd pe pf:Int)(pg ph:Sl)(p1 p2:Int)(H:@Zp h R pa pb pc pd pe pf pg ph p1 p2):Fn Pz 220 #[.agg ⟨(L0 pa pb pc pd pe pf pg ph)⟩,vI p1,vI p2] h R:=aY (A:=.z) H
def Zo(pa:ByteArray)(pb pc:Sl)(pd pe pf:Int)(pg ph:Sl)(A:Int):Prop:=
 Wn h (L0 pa pb pc pd pe pf pg ph) 27 fun d=>
 Wn d [vI 0,vI 0,vI 0] 65 fun B=>
 QI 0 B fun C c b D=>
 ∃k,rS b (aS h 7) k /\
 sB (decide (c<(k.n:Int)))
 (∃e,rS b (aS h 7) e /\
 NB e.a fun E F=>Ib c e.n /\
 ∃l,rI b ⟨E,F+c.toNat*3,none⟩ l /\
 sB (l==A)
 (∃f,rS b (aS h 7) f /\
 NB f.a fun G H=>Ib c f.n /\
 ∃m,rI b ⟨G,H+c.toNat*3+1,none⟩ m /\
 ∃g,rS b (aS h 6) g /\
 ∃i,rS b (aS h 7) i /\
 NB i.a fun I J=>Ib c i.n /\
 ∃j,rI b ⟨I,J+c.toNat*3+2,none⟩ j /\
 NB g.a fun K L=>Ib j g.n /\
 ∃o p q,gB b ⟨K,L+j.toNat*6+1,none⟩ o p q /\
 Wp b (aS d 0) 3 (L2 o p q) fun r=>
 ∃s t u,gB r (aS d 0) s t u /\
 R (.tuple ⟨[vI m,.agg ⟨(L2 s t u)⟩]⟩) r)
 (∃v,v<D/\C (wrap .i64 (c+1)) b v))
 (Wp b (aS d 0) 3 [vI 0,vI 0,vI 0] fun w=>
 ∃x y z,gB w (aS d 0) x y z /\
 R (.tuple ⟨[vI 0,.agg ⟨(L2 x y z)⟩]⟩) w)
theorem T4(pa:ByteArray)(pb pc:Sl)(pd pe pf:Int)(pg ph:Sl)(p1:Int)(H:@Zo h R pa pb pc pd pe pf pg ph p1):Fn Pz 221 #[.agg ⟨(L0 pa pb pc pd pe pf pg ph)⟩,vI p1] h R:=aY (A:=(.s .z (.s (AI 6) .z))) H
def Zd(pa:ByteArray)(pb pc:Sl)(pd pe pf:Int)(pg ph d:Sl):Prop:=
 Wn h (L0 pa pb pc pd pe pf pg ph) 27 fun j=>
 QI 0 j fun k c b l=>
 sB (decide (c<(d.n:Int)))
 (NB d.a fun m o=>Ib c d.n /\
 ∃e,rI b ⟨m,o+c.toNat*1,none⟩ e /\
 sB (decide (e<0))
 (R (.bool false) b)
 (NB d.a fun p q=>Ib c d.n /\
 ∃f,rI b ⟨p,q+c.toNat*1,none⟩ f /\
 ∃g,rI b (aS h 3) g /\
 sB (decide (f>=g))
 (R (.bool false) b)
 (∃i,i<l/\k (wrap .i64 (c+1)) b i)))
 (R (.bool true) b)
theorem TR(pa:ByteArray)(pb pc:Sl)(pd pe pf:Int)(pg ph p1:Sl)(H:@Zd h R pa pb pc pd pe pf pg ph p1):Fn Pz 238 #[.agg ⟨(L0 pa pb pc pd pe pf pg ph)⟩,vS p1] h R:=aY (A:=(.s .z (.s (AI 5) .z))) H
def Zs(pa:ByteArray)(pb pc:Sl)(pd pe pf:Int)(pg ph:Sl)(N:Int)(O:Sl):Prop:=
 Wn h (L0 pa pb pc pd pe pf pg ph) 27 fun m=>
 Wn m [] 3 fun P=>
 App Pz 102 102 (.slice (some (aS m 0)) 0 0) (vS O) P fun Q S=>
 mF Q 0 S fun T e o f U=>
 ∃p,rI f (aS h 3) p /\
 sB (decide (o<=p))
 (mF e 0 f fun g c d b i=>
 ∃q,rS b (aS h 6) q /\
 sB (decide (d<(q.n:Int)))
 (∃j,rS b (aS h 6) j /\
 NB j.a fun V W=>Ib d j.n /\
 ∃r s t u v w,gR b ⟨V,W+d.toNat*6,none⟩ r s t u v w /\
 Wn b [vI 0,vI 0,vI 0,vI 0,vI 0,.bool false] 67 fun X=>
 Wp X (aS b 0) 6 (L3 r s t u v w) fun x=>
 ∃y z A B C D,gR x (aS b 0) y z A B C D /\
 Fn Pz 56 #[.agg ⟨(L3 y z A B C D)⟩,vI N] x
 (fun Y k=>∃E,iB Y E /\
 sB (!E)
 (∃F,rI k (aS b 0) F /\
 Fn Pz 116 #[vS c,vI F] k
 (fun Z l=>∃G,iB Z G /\
 sB G
 (∃H,rI l (aS b 4) H /\
 Fn Pz 218 #[vS c,vI H] l
 (fun a0 b0=>∃I,iS a0 I /\
 ∃J,J<i/\g I (wrap .i64 (d+1)) b0 J))
 (∃K,K<i/\g c (wrap .i64 (d+1)) l K)))
 (∃L,L<i/\g c (wrap .i64 (d+1)) k L)))
 (sB ((c.n:Int)==(e.n:Int))
 (R (vS c) b)
 (∃M,M<U/\T c (wrap .i64 (o+1)) b M)))
 (R (vS e) f)
theorem T8(pa:ByteArray)(pb pc:Sl)(pd pe pf:Int)(pg ph:Sl)(p1:Int)(p2:Sl)(H:@Zs h R pa pb pc pd pe pf pg ph p1 p2):Fn Pz 216 #[.agg ⟨(L0 pa pb pc pd pe pf pg ph)⟩,vI p1,vS p2] h R:=aY (A:=(.s .z (.s .z (.s (.s .z (.b (.l [(7,.one (.slice)),(8,.one (.int .i64))] (.s .z (.s (.b (.s .z (.s (AJ 7 10) .z))) .z))))) .z)))) H
def Jl(d:Sl)(b:Int)(c:Heap)(k:Sl)(l:Nat)(m:Sl->Bool->Int->Heap->Nat->Prop):Prop:=
 NB d.a fun o p=>Ib b d.n/\∃e f g h i,sG c ⟨o,p+b.toNat*5,none⟩ e f g h i/\Wn c (L4 e f g h i) 33 fun q=>App Pz 57 57 (vS k) (.slice (some (aS c 0)) 1 1) q fun r s=>∃j,j<l/\m r true (wrap .i64 (b+1)) s j
def Jk(d:Sl)(b:Int)(c:Heap)(k:Sl)(l:Nat)(m:Sl->Bool->Int->Heap->Nat->Prop)(o:Bool):Prop:=
 NB d.a fun p q=>Ib b d.n/\∃e f g h i,sG c ⟨p,q+b.toNat*5,none⟩ e f g h i/\Wn c (L4 e f g h i) 33 fun r=>App Pz 57 57 (vS k) (.slice (some (aS c 0)) 1 1) r fun s t=>∃j,j<l/\m s o (wrap .i64 (b+1)) t j
def Zr(b:Sl)(pa:Int)(pb:Bool)(pc pd:Int)(pe:Sl):Prop:=
 Wn h (L4 pa pb pc pd pe) 33 fun T=>aav ⟨none,0,0⟩ false 0 T fun f e g c d i=>sB (decide (c<(b.n:Int))) (sB (!g) (NB b.a fun U V=>Ib c b.n/\∃l m o p q,sG d ⟨U,V+c.toNat*5,none⟩ l m o p q/\∃r s t u v,sG d (aS h 0) r s t u v/\Fn Pz 264 #[.agg ⟨(L4 l m o p q)⟩,.agg ⟨(L4 r s t u v)⟩] d (fun W j=>∃w,iB W w/\sB (!w) (NB b.a fun X Y=>Ib c b.n/\∃x y z A B,sG j ⟨X,Y+c.toNat*5,none⟩ x y z A B/\∃C D E F G,sG j (aS h 0) C D E F G/\Fn Pz 42 #[.agg ⟨(L4 x y z A B)⟩,.agg ⟨(L4 C D E F G)⟩] j (fun Z k=>∃H,iB Z H/\sB (!H) (∃I J K L M,sG k (aS h 0) I J K L M/\Wn k (L4 I J K L M) 33 fun a0=>App Pz 57 57 (vS e) (.slice (some (aS k 0)) 1 1) a0 fun b0 c0=>Jl b c c0 b0 i f) (Jl b c k e i f))) (Jk b c j e i f g))) (Jk b c d e i f g)) (sB (!g) (∃N O P Q S,sG d (aS h 0) N O P Q S/\Wn d (L4 N O P Q S) 33 fun d0=>App Pz 57 57 (vS e) (.slice (some (aS d 0)) 1 1) d0 fun e0 f0=>R (vS e0) f0) (R (vS e) d))
theorem T7(p0:Sl)(pa:Int)(pb:Bool)(pc pd:Int)(pe:Sl)(H:@Zr h R p0 pa pb pc pd pe):Fn Pz 217 #[vS p0,.agg ⟨(L4 pa pb pc pd pe)⟩] h R:=aY (A:=(.s .z (.s .z (.s .z (.s (.s .z (.b (.l [(5,.one (.slice)),(6,.one (.bool)),(7,.one (.int .i64))] .z))) .z))))) H
def ZX(pa:ByteArray)(pb pc:Sl)(pd pe pf:Int)(pg ph:Sl)(k:Int)(T:Sl):Prop:=
 Wn h (L0 pa pb pc pd pe pf pg ph) 27 fun U=>
 mF ⟨none,0,0⟩ 0 U fun e d c b f=>
 ∃l,rS b (aS h 6) l /\
 sB (decide (c<(l.n:Int)))
 (∃g,rS b (aS h 6) g /\
 NB g.a fun V W=>Ib c g.n /\
 ∃m o p q r s,gR b ⟨V,W+c.toNat*6,none⟩ m o p q r s /\
 Wn b [vI 0,vI 0,vI 0,vI 0,vI 0,.bool false] 67 fun X=>
 Wp X (aS b 0) 6 (L3 m o p q r s) fun t=>
 ∃u v w x y z,gR t (aS b 0) u v w x y z /\
 Fn Pz 56 #[.agg ⟨(L3 u v w x y z)⟩,vI k] t
 (fun Y i=>∃A,iB Y A /\
 sB A
 (∃B,rI i (aS b 0) B /\
 Fn Pz 116 #[vS T,vI B] i
 (fun Z j=>∃C,iB Z C /\
 sB C
 (∃D E F G H I,gR j (aS b 0) D E F G H I /\
 Fn Pz 57 #[.agg ⟨(L3 D E F G H I)⟩,vI k] j
 (fun a0 b0=>∃(J:Int) (K:Bool) (L M:Int) (N:Sl),a0=.agg ⟨(L4 J K L M N)⟩ /\
 Fn Pz 217 #[vS d,.agg ⟨(L4 J K L M N)⟩] b0
 (fun c0 d0=>∃O,iS c0 O /\
 ∃P,P<f/\e O (wrap .i64 (c+1)) d0 P)))
 (∃Q,Q<f/\e d (wrap .i64 (c+1)) j Q)))
 (∃S,S<f/\e d (wrap .i64 (c+1)) i S)))
 (R (vS d) b)
theorem UE(pa:ByteArray)(pb pc:Sl)(pd pe pf:Int)(pg ph:Sl)(p1:Int)(p2:Sl)(H:@ZX h R pa pb pc pd pe pf pg ph p1 p2):Fn Pz 155 #[.agg ⟨(L0 pa pb pc pd pe pf pg ph)⟩,vI p1,vS p2] h R:=aY (A:=(.s .z (.s .z (.s (AJ 7 8) .z)))) H
def Zv(pa:ByteArray)(pb pc:Sl)(pd pe pf:Int)(pg ph:Sl)(c:Int)(d:Sl):Prop:=
 Wn h (L0 pa pb pc pd pe pf pg ph) 27 fun e=>
 ∃f g i j k l m n,cS e (aS h 0) f g i j k l m n /\
 Fn Pz 48 #[.agg ⟨(L0 f g i j k l m n)⟩,vI c] e
 (fun H a=>∃o,iB H o /\
 sB (!o)
 (R (.tuple ⟨[vN,vI 1]⟩) a)
 (∃p q r s t u v w,cS a (aS h 0) p q r s t u v w /\
 Fn Pz 238 #[.agg ⟨(L0 p q r s t u v w)⟩,vS d] a
 (fun I b=>∃x,iB I x /\
 sB (!x)
 (R (.tuple ⟨[vN,vI 2]⟩) b)
 (∃y z A B C D E F,cS b (aS h 0) y z A B C D E F /\
 Fn Pz 216 #[.agg ⟨(L0 y z A B C D E F)⟩,vI c,vS d] b
 (fun J K=>∃G,iS J G /\
 R (.tuple ⟨[vS G,vI 0]⟩) K)))))
theorem Ub(pa:ByteArray)(pb pc:Sl)(pd pe pf:Int)(pg ph:Sl)(p1:Int)(p2:Sl)(H:@Zv h R pa pb pc pd pe pf pg ph p1 p2):Fn Pz 198 #[.agg ⟨(L0 pa pb pc pd pe pf pg ph)⟩,vI p1,vS p2] h R:=aY (A:=.z) H
def aaj(pa:ByteArray)(pb pc:Sl)(pd pe pf:Int)(pg ph:Sl)(f B:Int):Prop:=
 Wn h (L0 pa pb pc pd pe pf pg ph) 27 fun b=>
 ∃g i j k l m n o,cS b (aS h 0) g i j k l m n o /\
 Wn b [vI B] 3 fun C=>
 Fn Pz 198 #[.agg ⟨(L0 g i j k l m n o)⟩,vI f,.slice (some (aS b 0)) 1 1] C
 (fun D a=>∃(c:Sl) (d:Int),D=.tuple ⟨[vS c,vI d]⟩ /\
 sB (d != 0)
 (R (.tuple ⟨[vN,.bool false,vI d]⟩) a)
 (∃p q r s t u v w,cS a (aS h 0) p q r s t u v w /\
 ∃x,rI a (aS h 5) x /\
 Fn Pz 155 #[.agg ⟨(L0 p q r s t u v w)⟩,vI f,vS c] a
 (fun E e=>∃y,iS E y /\
 Sm [(aS h 5)] a e /\
 Fn Pz 116 #[vS c,vI x] e
 (fun F z=>∃A,iB F A /\
 Sm [(aS h 0)] e z /\
 R (.tuple ⟨[vS y,.bool A,vI 0]⟩) z))))
theorem UZ(pa:ByteArray)(pb pc:Sl)(pd pe pf:Int)(pg ph:Sl)(p1 p2:Int)(H:@aaj h R pa pb pc pd pe pf pg ph p1 p2):Fn Pz 112 #[.agg ⟨(L0 pa pb pc pd pe pf pg ph)⟩,vI p1,vI p2] h R:=aY (A:=.z) H
def W55(pa:ByteArray)(pb pc:Sl)(pd pe pf:Int)(pg ph:Sl)(m:Int):Prop:=
 Wn h (L0 pa pb pc pd pe pf pg ph) 27 fun o=>
 mF ⟨none,0,0⟩ 0 o fun f d c b g=>
 ∃i,rS b (aS h 6) i /\
 sB (decide (c<(i.n:Int)))
 (∃e,rS b (aS h 6) e /\
 NB e.a fun p q=>Ib c e.n /\
 ∃j,rI b ⟨p,q+c.toNat*6,none⟩ j /\
 sB (j==m)
 (Wn b [vI c] 3 fun r=>
 App Pz 102 102 (vS d) (.slice (some (aS b 0)) 1 1) r fun s t=>
 ∃k,k<g/\f s (wrap .i64 (c+1)) t k)
 (∃l,l<g/\f d (wrap .i64 (c+1)) b l))
 (R (vS d) b)
theorem Tp(pa:ByteArray)(pb pc:Sl)(pd pe pf:Int)(pg ph:Sl)(p1:Int)(H:@W55 h R pa pb pc pd pe pf pg ph p1):Fn Pz 55 #[.agg ⟨(L0 pa pb pc pd pe pf pg ph)⟩,vI p1] h R:=aY (A:=(.s .z (.s .z (.s (AJ 5 6) .z)))) H
def W56(pa pb pc pd pe:Int)(pf:Bool)(b:Int):Prop:=
 Wn h (L3 pa pb pc pd pe pf) 67 fun a=>
 ∃c,rI a (aS h 1) c /\
 sB (c==b)
 (R (.bool true) a)
 (∃d,rI a (aS h (1+1)) d /\
 R (.bool (d==b)) a)
theorem abj(pa pb pc pd pe:Int)(pf:Bool)(p1:Int)(H:@W56 h R pa pb pc pd pe pf p1):Fn Pz 56 #[.agg ⟨(L3 pa pb pc pd pe pf)⟩,vI p1] h R:=aY (A:=.z) H
def RQ(a g:Heap)(R:Value->Heap->Prop):Prop:=
 ∃b c d e f,sG a (aS g 0) b c d e f/\R (.agg ⟨(L4 b c d e f)⟩) a
def W57(pa pb pc pd pe:Int)(pf:Bool)(c:Int):Prop:=
 Wn h (L3 pa pb pc pd pe pf) 67 fun b=>Wn b [vI 0,.bool false,vI 0,vI 0,vN] 33 fun a=>∃d,rI a (aS h 1) d/\sB (d==c) (∃e,rI a (aS h (1+1)) e/\∃f,rI a (aS h (1+2)) f/\Wp a (aS b 0) 5 [vI c,.bool true,vI e,vI f,vN] fun j=>RQ j b R) (∃g,rI a (aS h 1) g/\∃i,rI a (aS h (1+2)) i/\Wp a (aS b 0) 5 [vI c,.bool false,vI g,vI i,vN] fun k=>RQ k b R)
theorem abi(pa pb pc pd pe:Int)(pf:Bool)(p1:Int)(H:@W57 h R pa pb pc pd pe pf p1):Fn Pz 57 #[.agg ⟨(L3 pa pb pc pd pe pf)⟩,vI p1] h R:=aY (A:=.z) H
def YL(d:Sl):Prop:=
 QI 0 h fun g b c i=>
 sB (decide (b<(d.n:Int)))
 (NB d.a fun j k=>Ib b d.n /\
 ∃e,rI c ⟨j,k+b.toNat*1,none⟩ e /\
 sB (e != 0)
 (R (vI e) c)
 (∃f,f<i/\g (wrap .i64 (b+1)) c f))
 (R (vI 0) c)
theorem Oi(p0:Sl)(H:@YL h R p0):Fn Pz 53 #[vS p0] h R:=aY (A:=(.s .z (.s .z (.s (AI 8) .z)))) H
def YK(b c:Int):Prop:=
 Fn Pz 111 #[vI b] h
 (fun f g=>∃e,iB f e /\
 Fn Pz 111 #[vI c] g
 (fun i a=>∃d,iB i d /\
 sB e
 (sB d
 (R (vI 0) a)
 (R (vI (-1)) a))
 (sB d
 (R (vI 1) a)
 (sB (decide (b<c))
 (R (vI (-1)) a)
 (sB (decide (b>c))
 (R (vI 1) a)
 (R (vI 0) a))))))
theorem Oh(p0 p1:Int)(H:@YK h R p0 p1):Fn Pz 54 #[vI p0,vI p1] h R:=aY (A:=.z) H
def Iy(a:Int):Prop:=
 R (.bool (a != a)) h
theorem Fz(p0:Int)(H:@Iy h R p0):Fn Pz 111 #[vI p0] h R:=aY (A:=.z) H
end Go.VC
end

section
namespace Go.VC
open Go.Proofs IntKind

end Go.VC
end

section
namespace Go.VC
open Go.Proofs IntKind
variable {h:Heap} {R:Value->Heap->Prop}
def W88(pa:ByteArray)(pb pc:Sl)(pd pe pf:Int)(pg ph:Sl):Prop:=
 Wn h (L0 pa pb pc pd pe pf pg ph) 27 fun k=>
 ∃l,rT k (aS h 0) l /\
 Fn Pz 160 #[.string l] k
 (fun u b=>∃m,iB u m /\
 sB (!m)
 (R (.bool false) b)
 (∃o,rS b (aS h 1) o /\
 sB (decide ((o.n:Int)<1))
 (R (.bool false) b)
 (∃p,rS b (aS h 1) p /\
 sB (decide ((p.n:Int)>6))
 (R (.bool false) b)
 (∃f,rS b (aS h 1) f /\
 QI 0 b fun v d g w=>
 sB (decide (d<(f.n:Int)))
 (NB f.a fun x y=>Ib d f.n /\
 ∃i,rT g ⟨x,y+d.toNat*1,none⟩ i /\
 Fn Pz 160 #[.string i] g
 (fun z j=>∃q,iB z q /\
 sB (!q)
 (R (.bool false) j)
 (∃e,rS j (aS h 1) e /\
 ((0:Int)<=(0:Int)/\(0:Int)<=(d:Int)/\(d:Int)<=(e.c:Nat)) /\
 Fn Pz 161 #[.slice (aQ e.a (Int.toNat 0) e.c 1) (d.toNat-Int.toNat 0) (e.c-Int.toNat 0),.string i] j
 (fun A r=>∃s,iB A s /\
 sB s
 (R (.bool false) r)
 (∃t,t<w/\v (wrap .i64 (d+1)) r t)))))
 (R (.bool true) g)))))
theorem aaV(pa:ByteArray)(pb pc:Sl)(pd pe pf:Int)(pg ph:Sl)(H:@W88 h R pa pb pc pd pe pf pg ph):Fn Pz 88 #[.agg ⟨(L0 pa pb pc pd pe pf pg ph)⟩] h R:=aY (A:=(.s .z (.s .z (.s (AI 24) .z)))) H
def W89(pa:ByteArray)(pb pc:Sl)(pd pe pf:Int)(pg ph:Sl):Prop:=
 Wn h (L0 pa pb pc pd pe pf pg ph) 27 fun c=>
 ∃i,rI c (aS h 3) i /\
 sB (decide (i<1))
 (R (.bool false) c)
 (∃j,rI c (aS h 3) j /\
 sB (decide (j>200))
 (R (.bool false) c)
 (∃k,rI c (aS h 4) k /\
 ∃l,rI c (aS h 5) l /\
 sB (decide ((iJ k l)<0))
 (R (.bool false) c)
 (∃m,rI c (aS h 4) m /\
 ∃o,rI c (aS h 5) o /\
 ∃p,rI c (aS h 3) p /\
 sB (decide ((imax m o)>=p))
 (R (.bool false) c)
 (∃q,rS c (aS h 6) q /\
 sB (decide ((q.n:Int)>400))
 (R (.bool false) c)
 (∃f,rS c (aS h 6) f /\
 QI 0 c fun Q g e S=>
 sB (decide (g<(f.n:Int)))
 (NB f.a fun T U=>Ib g f.n /\
 ∃r s t u v w,gR e ⟨T,U+g.toNat*6,none⟩ r s t u v w /\
 Wn e [vI 0,vI 0,vI 0,vI 0,vI 0,.bool false] 67 fun V=>
 Wp V (aS e 0) 6 (L3 r s t u v w) fun d=>
 ∃x y z,gB d (aS e 1) x y z /\
 Wn d [vI 0,vI 0,vI 0] 65 fun W=>
 Wp W (aS d 0) 3 (L2 x y z) fun b=>
 ∃A,rI b (aS e 0) A /\
 ∃B,rI b (aS e 4) B /\
 ∃C,rI b (aS d 0) C /\
 ∃D,rI b (aS d 1) D /\
 ∃E,rI b (aS d 2) E /\
 sB (decide ((iJ (iJ (iJ (iJ A B) C) D) E)<0))
 (R (.bool false) b)
 (∃F,rI b (aS e 0) F /\
 ∃G,rI b (aS e 4) G /\
 ∃H,rI b (aS h 3) H /\
 sB (decide ((imax F G)>=H))
 (R (.bool false) b)
 (∃I,rI b (aS d 0) I /\
 ∃J,rI b (aS d 1) J /\
 ∃K,rS b (aS h 1) K /\
 sB (decide ((imax I J)>=(K.n:Int)))
 (R (.bool false) b)
 (∃L,rI b (aS d 0) L /\
 ∃M,rI b (aS d 1) M /\
 sB (L==M)
 (R (.bool false) b)
 (∃N,rI b (aS d 2) N /\
 ∃O,rS b (aS h 2) O /\
 sB (decide (N>=(O.n:Int)))
 (R (.bool false) b)
 (∃P,P<S/\Q (wrap .i64 (g+1)) b P))))))
 (R (.bool true) e))))))
theorem aaU(pa:ByteArray)(pb pc:Sl)(pd pe pf:Int)(pg ph:Sl)(H:@W89 h R pa pb pc pd pe pf pg ph):Fn Pz 89 #[.agg ⟨(L0 pa pb pc pd pe pf pg ph)⟩] h R:=aY (A:=(.s .z (.s .z (.s (AI 41) .z)))) H
def W90(a:Sl):Prop:=
 sB ((a.n:Int)==0)
 (R (.bool true) h)
 (Fn Pz 162 #[vS a,vI 0] h
 (fun c d=>∃(e:Sl) (b:Int),c=.tuple ⟨[vS e,vI b]⟩ /\
 R (.bool (b==0)) d))
theorem aaT(p0:Sl)(H:@W90 h R p0):Fn Pz 90 #[vS p0] h R:=aY (A:=.z) H
def Mw(a b c:Heap)(R:Value->Heap->Prop)(d:Nat)(e:Int->Heap->Nat->Prop)(f:Int):Prop:=
 ∃g,rB a (aS b 5) g/\sB g (∃h,rI a (aS c 4) h/\∃i,rI a (aS b 0) i/\sB (h==i) (∃j,rI a (aS b 1) j/\∃k,rI a (aS c 1) k/\sB (j != k) (R (.bool false) a) (∃l,rI a (aS b (1+2)) l/\∃m,rI a (aS c (1+2)) m/\sB (l != m) (R (.bool false) a) (∃n,n<d/\e (wrap .i64 (f+1)) a n))) (∃o,o<d/\e (wrap .i64 (f+1)) a o)) (∃p,p<d/\e (wrap .i64 (f+1)) a p)
def RJ(j h:Heap)(k:Int)(d:Heap)(R:Value->Heap->Prop)(E:Nat)(F:Int->Heap->Nat->Prop):Prop:=
 ∃f,rS j (aS h 6) f/\QI 0 j fun g e c i=>sB (decide (e<(f.n:Int))) (NB f.a fun G H=>Ib e f.n/\∃l m o p q r,gR c ⟨G,H+e.toNat*6,none⟩ l m o p q r/\Wn c [vI 0,vI 0,vI 0,vI 0,vI 0,.bool false] 67 fun I=>Wp I (aS c 0) 6 (L3 l m o p q r) fun b=>sB (k != e) (∃s,rI b (aS d 0) s/\∃t,rI b (aS c 0) t/\sB (s==t) (∃u v w,gB b (aS d 1) u v w/\∃x y z,gB b (aS c 1) x y z/\sB ((u==x)&&((v==y)&&((w==z)&&true))) (R (.bool false) b) (∃A,rI b (aS d 1) A/\∃B,rI b (aS c 1) B/\sB (A != B) (R (.bool false) b) (∃C,rB b (aS d 5) C/\sB C (R (.bool false) b) (Mw b d c R i g e)))) (Mw b d c R i g e)) (Mw b d c R i g e)) (∃D,D<E/\F (wrap .i64 (k+1)) c D)
def W91(pa:ByteArray)(pb pc:Sl)(pd pe pf:Int)(pg ph:Sl):Prop:=
 Wn h (L0 pa pb pc pd pe pf pg ph) 27 fun f=>∃e,rS f (aS h 6) e/\QI 0 f fun g d b i=>sB (decide (d<(e.n:Int))) (NB e.a fun v w=>Ib d e.n/\∃j k l m o p,gR b ⟨v,w+d.toNat*6,none⟩ j k l m o p/\Wn b [vI 0,vI 0,vI 0,vI 0,vI 0,.bool false] 67 fun x=>Wp x (aS b 0) 6 (L3 j k l m o p) fun c=>∃q,rI c (aS b 0) q/\∃r,rI c (aS h 5) r/\sB (q==r) (R (.bool false) c) (∃s,rB c (aS b 5) s/\sB s (∃t,rI c (aS b 0) t/\∃u,rI c (aS h 4) u/\sB (t==u) (R (.bool false) c) (RJ c h d b R i g)) (RJ c h d b R i g))) (R (.bool true) b)
theorem aaS(pa:ByteArray)(pb pc:Sl)(pd pe pf:Int)(pg ph:Sl)(H:@W91 h R pa pb pc pd pe pf pg ph):Fn Pz 91 #[.agg ⟨(L0 pa pb pc pd pe pf pg ph)⟩] h R:=aY (A:=(.s .z (.s (.s .z (.b (.l [(10,.one (.int .i64))] (.s .z (.s .z (.s (.b (.s .z (.s .z (AI 34)))) .z)))))) .z))) H
def W92(pa:ByteArray)(pb pc:Sl)(pd pe pf:Int)(pg ph:Sl):Prop:=
 Wn h (L0 pa pb pc pd pe pf pg ph) 27 fun k=>
 ∃d,rS k (aS h 7) d /\
 CZ (-1) 0 k fun A B e c C=>
 sB (decide (e<(d.n:Int)))
 (NB d.a fun D E=>Ib e d.n /\
 ∃l m o,gB c ⟨D,E+e.toNat*3,none⟩ l m o /\
 Wn c [vI 0,vI 0,vI 0] 149 fun F=>
 Wp F (aS c 0) 3 (L2 l m o) fun b=>
 ∃p,rI b (aS c 0) p /\
 sB (decide (p<=B))
 (R (.bool false) b)
 (∃q,rI b (aS c 1) q /\
 sB (decide (q<1))
 (R (.bool false) b)
 (∃r,rI b (aS c 1) r /\
 sB (decide (r>1000))
 (R (.bool false) b)
 (∃s,rI b (aS c 2) s /\
 sB (decide (s<0))
 (R (.bool false) b)
 (∃t,rI b (aS c 2) t /\
 ∃u,rS b (aS h 6) u /\
 sB (decide (t>=(u.n:Int)))
 (R (.bool false) b)
 (∃f,rS b (aS h 6) f /\
 ∃g,rI b (aS c 2) g /\
 NB f.a fun G H=>Ib g f.n /\
 ∃v,rI b ⟨G,H+g.toNat*6,none⟩ v /\
 ∃w,rI b (aS c 0) w /\
 sB (v != w)
 (R (.bool false) b)
 (∃i,rS b (aS h 6) i /\
 ∃j,rI b (aS c 2) j /\
 NB i.a fun I J=>Ib j i.n /\
 ∃x,rB b ⟨I,J+j.toNat*6+5,none⟩ x /\
 sB x
 (R (.bool false) b)
 (∃y,rI b (aS c 0) y /\
 ∃z,z<C/\A y (wrap .i64 (e+1)) b z))))))))
 (R (.bool true) c)
theorem aaR(pa:ByteArray)(pb pc:Sl)(pd pe pf:Int)(pg ph:Sl)(H:@W92 h R pa pb pc pd pe pf pg ph):Fn Pz 92 #[.agg ⟨(L0 pa pb pc pd pe pf pg ph)⟩] h R:=aY (A:=(.s .z (.s .z (.s (.s .z (.b (.l [(3,.one (.int .i64)),(9,.one (.int .i64))] .z))) .z)))) H
def ZS(d:Sl)(g:Int):Prop:=
 QI 0 h fun i b c j=>
 sB (decide (b<(d.n:Int)))
 (NB d.a fun k l=>Ib b d.n /\
 ∃e,rI c ⟨k,l+b.toNat*1,none⟩ e /\
 sB (g==e)
 (R (vI b) c)
 (∃f,f<j/\i (wrap .i64 (b+1)) c f))
 (R (vI (-1)) c)
theorem Uz(p0:Sl)(p1:Int)(H:@ZS h R p0 p1):Fn Pz 163 #[vS p0,vI p1] h R:=aY (A:=(.s .z (.s (AI 8) .z))) H
def W93(b:Sl)(c:Int):Prop:=
 Fn Pz 163 #[vS b,vI c] h
 (fun d e=>∃a,iI d a /\
 R (.bool (decide (a>=0))) e)
theorem aaQ(p0:Sl)(p1:Int)(H:@W93 h R p0 p1):Fn Pz 93 #[vS p0,vI p1] h R:=aY (A:=.z) H
def W77(d:Sl)(e:Int):Prop:=
 ∃f:Heap->Prop,
 (sB (decide (e<0))
 (False)
 (f h)) /\
 ∀(_:Env) (g:Heap),f g ->
 (Fn Pz 141 #[.int .u64 (wrap .u64 (d.n:Int)),.int .u64 (wrap .u64 e)] g
 (fun m o=>∃(i a:Int),m=.tuple ⟨[.int .u64 i,.int .u64 a]⟩ /\
 ∃j:Heap->Prop,
 (sB (decide (i>0))
 (False)
 (sB (decide (a>9223372036854775807))
 (False)
 (j o))) /\
 ∀(_:Env) (c:Heap),j c ->
 (((0:Int)<=(wrap .i64 a)/\((wrap .i64 a):Int)<=(wrap .i64 a)/\((8:Nat):Int)*(wrap .i64 a)<=140737488355328)/\Wn c (ai Pz 3 (Int.toNat (wrap .i64 a))) 3 fun p=>
 Cpy Pz 102 102 (.slice (some (aS c 0)) (Int.toNat (wrap .i64 a)) (Int.toNat (wrap .i64 a))) (vS d) p fun q r=>
 QI q r fun s b k t=>
 sB (decide (b<((Int.toNat (wrap .i64 a)):Int)))
 (((0:Int)<=(b:Int)/\(b:Int)<=(((Int.toNat (wrap .i64 a)):Nat):Int)/\(((Int.toNat (wrap .i64 a)):Nat):Int)<=((Int.toNat (wrap .i64 a)):Nat)) /\
 ((0:Int)<=(0:Int)/\(0:Int)<=(b:Int)/\(b:Int)<=((Int.toNat (wrap .i64 a)):Nat)) /\
 Cpy Pz 102 102 (.slice (aQ (some (aS c 0)) (b.toNat) (Int.toNat (wrap .i64 a)) 1) (Int.toNat ((Int.toNat (wrap .i64 a)):Nat)-b.toNat) ((Int.toNat (wrap .i64 a))-b.toNat)) (.slice (aQ (some (aS c 0)) (Int.toNat 0) (Int.toNat (wrap .i64 a)) 1) (b.toNat-Int.toNat 0) ((Int.toNat (wrap .i64 a))-Int.toNat 0)) k fun u v=>
 ∃l,l<t/\s (wrap .i64 (b+u)) v l)
 (R (.slice (some (aS c 0)) (Int.toNat (wrap .i64 a)) (Int.toNat (wrap .i64 a))) k))))
theorem aaY(p0:Sl)(p1:Int)(H:@W77 h R p0 p1):Fn Pz 77 #[vS p0,vI p1] h R:=aY (A:=(.s .z (.j [] .z (.s .z (.j [] .z (.s .z (.s .z (.s (.b (.l [(8,.one (.int .i64))] .z)) .z)))))))) H
def W94(pa:ByteArray)(pb pc:Sl)(pd pe pf:Int)(pg ph:Sl)(m:Int)(N:Bool):Prop:=
 Wn h (L0 pa pb pc pd pe pf pg ph) 27 fun u=>
 Wn u [vI (-1)] 3 fun v=>
 ∃w,rI v (aS h 3) w /\
 Fn Pz 77 #[.slice (some (aS u 0)) 1 1,vI w] v
 (fun O P=>∃d,iS O d /\
 NB d.a fun Q S=>Ib m d.n /\
 Wp P ⟨Q,S+m.toNat*1,none⟩ 1 [vI 0] fun x=>
 Wn x [vI m] 3 fun T=>
 QS ⟨(some (aS x 0)),1,1⟩ T fun U y o V=>
 sB (decide ((y.n:Int)>0))
 (∃j,rS o (aS h 6) j /\
 mF y 0 o fun p b f g q=>
 sB (decide (f<(j.n:Int)))
 (NB j.a fun W X=>Ib f j.n /\
 ∃z A B C D E,gR g ⟨W,X+f.toNat*6,none⟩ z A B C D E /\
 Wn g [vI 0,vI 0,vI 0,vI 0,vI 0,.bool false] 67 fun Y=>
 Wp Y (aS g 0) 6 (L3 z A B C D E) fun k=>
 ∃r,rI k (aS g 0) r /\
 ∃s,rI k (aS g 4) s /\
 ∃t:Int->Int->Heap->Prop,
 (sB N
 (t s r k)
 (t r s k)) /\
 ∀(_:Env) (l i:Int) (e:Heap),t l i e ->
 (NB b.a fun Z a0=>Ib 0 b.n /\
 ∃F,rI e ⟨Z,a0+Int.toNat 0*1,none⟩ F /\
 sB (l==F)
 (NB d.a fun b0 c0=>Ib i d.n /\
 ∃G,rI e ⟨b0,c0+i.toNat*1,none⟩ G /\
 sB (decide (G<0))
 (NB d.a fun d0 e0=>Ib l d.n /\
 ∃H,rI e ⟨d0,e0+l.toNat*1,none⟩ H /\
 NB d.a fun f0 g0=>Ib i d.n /\
 Wp e ⟨f0,g0+i.toNat*1,none⟩ 1 [vI (wrap .i64 (H+1))] fun I=>
 Wn I [vI i] 3 fun h0=>
 App Pz 102 102 (vS b) (.slice (some (aS I 0)) 1 1) h0 fun i0 j0=>
 ∃J,J<q/\p i0 (wrap .i64 (f+1)) j0 J)
 (∃K,K<q/\p b (wrap .i64 (f+1)) e K))
 (∃L,L<q/\p b (wrap .i64 (f+1)) e L)))
 (((0:Int)<=(1:Int)/\(1:Int)<=((b.n:Nat):Int)/\((b.n:Nat):Int)<=(b.c:Nat)) /\
 ∃M,M<V/\U ⟨(aQ b.a (Int.toNat 1) b.c 1),(Int.toNat (b.n:Nat)-Int.toNat 1),(b.c-Int.toNat 1)⟩ g M))
 (R (vS d) o))
theorem aaP(pa:ByteArray)(pb pc:Sl)(pd pe pf:Int)(pg ph:Sl)(p1:Int)(p2:Bool)(H:@W94 h R pa pb pc pd pe pf pg ph p1 p2):Fn Pz 94 #[.agg ⟨(L0 pa pb pc pd pe pf pg ph)⟩,vI p1,.bool p2] h R:=aY (A:=(.s .z (.s .z (.s .z (.s (.s .z (.b (.l [(8,.one (.slice))] (.s .z (.s (.b (.s .z (.b (.l [(8,.one (.slice)),(30,.one (.int .i64))] (.s .z (.s .z (.s (.b (.s .z (.s .z (.j [(11,.one (.int .i64)),(12,.one (.int .i64))] .z .z)))) .z))))))) .z))))) .z))))) H
def W40(pa:ByteArray)(pb pc:Sl)(pd pe pf:Int)(pg ph:Sl):Prop:=
 Wn h (L0 pa pb pc pd pe pf pg ph) 27 fun g=>
 ∃i j k l m n o p,cS g (aS h 0) i j k l m n o p /\
 Fn Pz 88 #[.agg ⟨(L0 i j k l m n o p)⟩] g
 (fun r0 c=>∃q,iB r0 q /\
 sB q
 (∃r s t u v w x y,cS c (aS h 0) r s t u v w x y /\
 Fn Pz 89 #[.agg ⟨(L0 r s t u v w x y)⟩] c
 (fun s0 d=>∃z,iB s0 z /\
 sB z
 (∃A,rS d (aS h 2) A /\
 Fn Pz 90 #[vS A] d
 (fun t0 e=>∃B,iB t0 B /\
 sB B
 (∃C D E F G H I J,cS e (aS h 0) C D E F G H I J /\
 Fn Pz 91 #[.agg ⟨(L0 C D E F G H I J)⟩] e
 (fun u0 f=>∃K,iB u0 K /\
 sB K
 (∃L M N O P Q S T,cS f (aS h 0) L M N O P Q S T /\
 Fn Pz 92 #[.agg ⟨(L0 L M N O P Q S T)⟩] f
 (fun v0 a=>∃U,iB v0 U /\
 sB U
 (∃V W X Y Z a0 b0 c0,cS a (aS h 0) V W X Y Z a0 b0 c0 /\
 ∃d0,rI a (aS h 4) d0 /\
 Fn Pz 94 #[.agg ⟨(L0 V W X Y Z a0 b0 c0)⟩,vI d0,.bool false] a
 (fun w0 x0=>∃e0,iS w0 e0 /\
 Fn Pz 93 #[vS e0,vI (-1)] x0
 (fun y0 b=>∃f0,iB y0 f0 /\
 sB (!f0)
 (∃g0 h0 i0 j0 k0 l0 m0 n0,cS b (aS h 0) g0 h0 i0 j0 k0 l0 m0 n0 /\
 ∃o0,rI b (aS h 5) o0 /\
 Fn Pz 94 #[.agg ⟨(L0 g0 h0 i0 j0 k0 l0 m0 n0)⟩,vI o0,.bool true] b
 (fun z0 A0=>∃p0,iS z0 p0 /\
 Fn Pz 93 #[vS p0,vI (-1)] A0
 (fun B0 C0=>∃q0,iB B0 q0 /\
 R (.bool (!q0)) C0)))
 (R (.bool false) b))))
 (R (.bool false) a)))
 (R (.bool false) f)))
 (R (.bool false) e)))
 (R (.bool false) d)))
 (R (.bool false) c))
theorem abu(pa:ByteArray)(pb pc:Sl)(pd pe pf:Int)(pg ph:Sl)(H:@W40 h R pa pb pc pd pe pf pg ph):Fn Pz 40 #[.agg ⟨(L0 pa pb pc pd pe pf pg ph)⟩] h R:=aY (A:=.z) H
end Go.VC
end

section
namespace Go.VC
open Go.Proofs IntKind

end Go.VC
end

section
namespace Go.VC
open Go.Proofs IntKind
variable {h:Heap} {R:Value->Heap->Prop}
def RU(a t h:Heap)(R:Value->Heap->Prop):Prop:=
 ∃b c d e f g i j,cS a (aS t 0) b c d e f g i j/\Wp a (aS h 0) 8 (L0 b c d e f g i j) fun k=>∃l m n o p q r s,cS k (aS h 0) l m n o p q r s/\R (.agg ⟨(L0 l m n o p q r s)⟩) k
def W38(p0:Bool):Prop:=
 Wn h [.string ⟨#[]⟩,vN,vN,vI 0,vI 0,vI 0,vN,vN] 27 fun b=>Wn b [.string ⟨#[112]⟩,.string ⟨#[113]⟩,.string ⟨#[114]⟩] 9 fun c=>Wn c [.string ⟨#[97]⟩,vN,vI 0,vN,vN,.string ⟨#[98]⟩,vN,vI 0,vN,vN,.string ⟨#[99]⟩,vN,vI 0,vN,vN,.string ⟨#[100]⟩,vN,vI 0,vN,vN] 171 fun a=>Wn a [.string ⟨#[]⟩,vN,vN,vI 0,vI 0,vI 0,vN,vN] 27 fun h4=>Wp h4 (aS a 0) 8 [.string ⟨#[101]⟩,.slice (some (aS b 0)) 3 3,.slice (some (aS c 0)) 4 4,vI 4,vI 0,vI 3,vN,vN] fun h5=>Fn Pz 87 #[vI 0,vI 0,vI 1,vI 0,vI 1] h5 (fun v6 u0=>∃(d e f g i:Int) (j:Bool),v6=.agg ⟨(L3 d e f g i j)⟩/\Fn Pz 87 #[vI 0,vI 0,vI 1,vI 1,vI 2] u0 (fun v0 w0=>∃(k l m n o:Int) (p:Bool),v0=.agg ⟨(L3 k l m n o p)⟩/\Fn Pz 87 #[vI 1,vI 2,vI 1,vI 2,vI 3] w0 (fun x0 y0=>∃(q r s t u:Int) (v:Bool),x0=.agg ⟨(L3 q r s t u v)⟩/\Fn Pz 87 #[vI 2,vI 2,vI 1,vI 3,vI 3] y0 (fun z0 w=>∃(x y z A B:Int) (C:Bool),z0=.agg ⟨(L3 x y z A B C)⟩/\Wn w [vI d,vI e,vI f,vI g,vI i,.bool j,vI k,vI l,vI m,vI n,vI o,.bool p,vI q,vI r,vI s,vI t,vI u,.bool v,vI x,vI y,vI z,vI A,vI B,.bool C] 67 fun A0=>Wp A0 (aS a 6) 1 [.slice (some (aS w 0)) 4 4] fun D=>sB p0 (Wp D (aS a 3) 1 [vI 6] fun B0=>Wp B0 (aS a 5) 1 [vI 5] fun C0=>Fn Pz 87 #[vI 0,vI 0,vI 1,vI 0,vI 1] C0 (fun D0 E0=>∃(E F G H I:Int) (J:Bool),D0=.agg ⟨(L3 E F G H I J)⟩/\Fn Pz 87 #[vI 0,vI 0,vI 1,vI 1,vI 2] E0 (fun F0 G0=>∃(K L M N O:Int) (P:Bool),F0=.agg ⟨(L3 K L M N O P)⟩/\Fn Pz 87 #[vI 1,vI 1,vI 2,vI 0,vI 3] G0 (fun H0 I0=>∃(Q S T U V:Int) (W:Bool),H0=.agg ⟨(L3 Q S T U V W)⟩/\Fn Pz 87 #[vI 2,vI 1,vI 2,vI 1,vI 4] I0 (fun J0 K0=>∃(X Y Z a0 b0:Int) (c0:Bool),J0=.agg ⟨(L3 X Y Z a0 b0 c0)⟩/\Fn Pz 87 #[vI 3,vI 2,vI 1,vI 2,vI 5] K0 (fun L0 M0=>∃(d0 e0 f0 g0 h0:Int) (i0:Bool),L0=.agg ⟨(L3 d0 e0 f0 g0 h0 i0)⟩/\Fn Pz 87 #[vI 4,vI 2,vI 1,vI 3,vI 5] M0 (fun N0 j0=>∃(k0 l0 m0 n0 o0:Int) (p0:Bool),N0=.agg ⟨(L3 k0 l0 m0 n0 o0 p0)⟩/\Wn j0 [vI E,vI F,vI G,vI H,vI I,.bool J,vI K,vI L,vI M,vI N,vI O,.bool P,vI Q,vI S,vI T,vI U,vI V,.bool W,vI X,vI Y,vI Z,vI a0,vI b0,.bool c0,vI d0,vI e0,vI f0,vI g0,vI h0,.bool i0,vI k0,vI l0,vI m0,vI n0,vI o0,.bool p0] 67 fun O0=>Wp O0 (aS a 6) 1 [.slice (some (aS j0 0)) 6 6] fun P0=>RU P0 a h R))))))) (RU D a h R)))))
theorem abw(p0:Bool)(H:@W38 h R p0):Fn Pz 38 #[.bool p0] h R:=aY (A:=.z) H
def W87(i j k l m:Int):Prop:=
 Wn h [vI 0,vI 0,vI 0,vI 0,vI 0,.bool false] 67 fun n=>
 Wp n (aS h 0) 6 [vI i,vI j,vI k,vI l,vI m,.bool false] fun a=>
 ∃b c d e f g,gR a (aS h 0) b c d e f g /\
 R (.agg ⟨(L3 b c d e f g)⟩) a
theorem aaW(p0 p1 p2 p3 p4:Int)(H:@W87 h R p0 p1 p2 p3 p4):Fn Pz 87 #[vI p0,vI p1,vI p2,vI p3,vI p4] h R:=aY (A:=.z) H
def W13(pa:ByteArray)(pb pc:Sl)(pd pe pf:Int)(pg ph:Sl):Prop:=
 Wn h (L0 pa pb pc pd pe pf pg ph) 27 fun b=>
 ∃c d e f g i j k,cS b (aS h 0) c d e f g i j k /\
 Fn Pz 39 #[.agg ⟨(L0 c d e f g i j k)⟩] b
 (fun n a=>∃l,iB n l /\
 sB l
 (∃m,rI a (aS h 3) m /\
 R (.bool (decide (m<=25))) a)
 (R (.bool false) a))
theorem abH(pa:ByteArray)(pb pc:Sl)(pd pe pf:Int)(pg ph:Sl)(H:@W13 h R pa pb pc pd pe pf pg ph):Fn Pz 13 #[.agg ⟨(L0 pa pb pc pd pe pf pg ph)⟩] h R:=aY (A:=.z) H
def W39(pa:ByteArray)(pb pc:Sl)(pd pe pf:Int)(pg ph:Sl):Prop:=
 Wn h (L0 pa pb pc pd pe pf pg ph) 27 fun a=>
 ∃b,rS a (aS h 6) b /\
 sB (decide ((b.n:Int)<=50))
 (∃c,rS a (aS h 1) c /\
 sB (decide ((c.n:Int)<=6))
 (∃d,rS a (aS h 2) d /\
 sB (decide ((d.n:Int)<=40))
 (∃e,rS a (aS h 7) e /\
 R (.bool (decide ((e.n:Int)<=50))) a)
 (R (.bool false) a))
 (R (.bool false) a))
 (R (.bool false) a)
theorem abv(pa:ByteArray)(pb pc:Sl)(pd pe pf:Int)(pg ph:Sl)(H:@W39 h R pa pb pc pd pe pf pg ph):Fn Pz 39 #[.agg ⟨(L0 pa pb pc pd pe pf pg ph)⟩] h R:=aY (A:=.z) H
def W17(pa:ByteArray)(pb pc:Sl)(pd pe pf:Int)(pg ph:Sl):Prop:=
 Wn h (L0 pa pb pc pd pe pf pg ph) 27 fun e=>
 ∃f g i j k l m n,cS e (aS h 0) f g i j k l m n /\
 Fn Pz 43 #[.agg ⟨(L0 f g i j k l m n)⟩] e
 (fun a0 a=>∃o,iB a0 o /\
 sB o
 (∃p q r s t u v w,cS a (aS h 0) p q r s t u v w /\
 Fn Pz 44 #[.agg ⟨(L0 p q r s t u v w)⟩] a
 (fun b0 b=>∃x,iB b0 x /\
 sB x
 (∃y z A B C D E F,cS b (aS h 0) y z A B C D E F /\
 Fn Pz 45 #[.agg ⟨(L0 y z A B C D E F)⟩] b
 (fun c0 c=>∃G,iB c0 G /\
 sB G
 (∃H I J K L M N O,cS c (aS h 0) H I J K L M N O /\
 Fn Pz 46 #[.agg ⟨(L0 H I J K L M N O)⟩] c
 (fun d0 d=>∃P,iB d0 P /\
 sB P
 (∃Q S T U V W X Y,cS d (aS h 0) Q S T U V W X Y /\
 Fn Pz 47 #[.agg ⟨(L0 Q S T U V W X Y)⟩] d
 (fun e0 f0=>∃Z,iB e0 Z /\
 R (.bool Z) f0))
 (R (.bool false) d)))
 (R (.bool false) c)))
 (R (.bool false) b)))
 (R (.bool false) a))
theorem abD(pa:ByteArray)(pb pc:Sl)(pd pe pf:Int)(pg ph:Sl)(H:@W17 h R pa pb pc pd pe pf pg ph):Fn Pz 17 #[.agg ⟨(L0 pa pb pc pd pe pf pg ph)⟩] h R:=aY (A:=.z) H
def W48(pa:ByteArray)(pb pc:Sl)(pd pe pf:Int)(pg ph:Sl)(b:Int):Prop:=
 Wn h (L0 pa pb pc pd pe pf pg ph) 27 fun c=>
 ∃d e f g i j k l,cS c (aS h 0) d e f g i j k l /\
 Fn Pz 17 #[.agg ⟨(L0 d e f g i j k l)⟩] c
 (fun p a=>∃m,iB p m /\
 sB m
 (sB (decide (b>=0))
 (∃o,rS a (aS h 1) o /\
 R (.bool (decide (b<(o.n:Int)))) a)
 (R (.bool false) a))
 (R (.bool false) a))
theorem abm(pa:ByteArray)(pb pc:Sl)(pd pe pf:Int)(pg ph:Sl)(p1:Int)(H:@W48 h R pa pb pc pd pe pf pg ph p1):Fn Pz 48 #[.agg ⟨(L0 pa pb pc pd pe pf pg ph)⟩,vI p1] h R:=aY (A:=.z) H
def W43(pa:ByteArray)(pb pc:Sl)(pd pe pf:Int)(pg ph:Sl):Prop:=
 Wn h (L0 pa pb pc pd pe pf pg ph) 27 fun z=>
 QI 0 z fun A b d B=>
 ∃j,rS d (aS h 1) j /\
 sB (decide (b<(j.n:Int)))
 (∃f,rS d (aS h 1) f /\
 NB f.a fun k l=>Ib b f.n /\
 ∃m,rT d ⟨k,l+b.toNat*1,none⟩ m /\
 Fn Pz 100 #[.string m] d
 (fun C e=>∃o,iB C o /\
 sB (!o)
 (R (.bool false) e)
 (∃p,rS e (aS h 1) p /\
 ∃g,rS e (aS h 1) g /\
 NB g.a fun D E=>Ib b g.n /\
 ∃q,rT e ⟨D,E+b.toNat*1,none⟩ q /\
 Fn Pz 101 #[vS p,.string q] e
 (fun F i=>∃r,iI F r /\
 Sm [⟨k,l+b.toNat*1,none⟩,(aS h 1)] e i /\
 sB (decide (r<b))
 (R (.bool false) i)
 (∃s,s<B/\A (wrap .i64 (b+1)) i s)))))
 (∃t,rT d (aS h 0) t /\
 Fn Pz 100 #[.string t] d
 (fun G c=>∃u,iB G u /\
 sB u
 (∃v,rS c (aS h 1) v /\
 sB (decide ((v.n:Int)>=1))
 (∃w,rS c (aS h 1) w /\
 sB (decide ((w.n:Int)<=6))
 (∃x,rS c (aS h 2) x /\
 Fn Pz 102 #[vS x] c
 (fun H I=>∃y,iB H y /\
 R (.bool y) I))
 (R (.bool false) c))
 (R (.bool false) c))
 (R (.bool false) c)))
theorem abr(pa:ByteArray)(pb pc:Sl)(pd pe pf:Int)(pg ph:Sl)(H:@W43 h R pa pb pc pd pe pf pg ph):Fn Pz 43 #[.agg ⟨(L0 pa pb pc pd pe pf pg ph)⟩] h R:=aY (A:=(.s .z (.s (AI 3) .z))) H
def W44(pa:ByteArray)(pb pc:Sl)(pd pe pf:Int)(pg ph:Sl):Prop:=
 Wn h (L0 pa pb pc pd pe pf pg ph) 27 fun h9=>
 QI 0 h9 fun x0 d b y0=>
 ∃k,rS b (aS h 6) k /\
 sB (decide (d<(k.n:Int)))
 (∃g,rS b (aS h 6) g /\
 NB g.a fun z0 A0=>Ib d g.n /\
 ∃l m o p q r,gR b ⟨z0,A0+d.toNat*6,none⟩ l m o p q r /\
 Wn b [vI 0,vI 0,vI 0,vI 0,vI 0,.bool false] 67 fun B0=>
 Wp B0 (aS b 0) 6 (L3 l m o p q r) fun i=>
 ∃s t u v w x y z,cS i (aS h 0) s t u v w x y z /\
 ∃A,rI i (aS b 0) A /\
 Fn Pz 103 #[.agg ⟨(L0 s t u v w x y z)⟩,vI A] i
 (fun C0 e=>∃B,iB C0 B /\
 sB (!B)
 (R (.bool false) e)
 (∃C D E F G H I J,cS e (aS h 0) C D E F G H I J /\
 ∃K,rI e (aS b 4) K /\
 Fn Pz 103 #[.agg ⟨(L0 C D E F G H I J)⟩,vI K] e
 (fun D0 c=>∃L,iB D0 L /\
 sB (!L)
 (R (.bool false) c)
 (∃M,rI c (aS b 1) M /\
 sB (decide (M<0))
 (R (.bool false) c)
 (∃N,rI c (aS b 1) N /\
 ∃O,rS c (aS h 1) O /\
 sB (decide (N>=(O.n:Int)))
 (R (.bool false) c)
 (∃P,rI c (aS b (1+1)) P /\
 sB (decide (P<0))
 (R (.bool false) c)
 (∃Q,rI c (aS b (1+1)) Q /\
 ∃S,rS c (aS h 1) S /\
 sB (decide (Q>=(S.n:Int)))
 (R (.bool false) c)
 (∃T,rI c (aS b 1) T /\
 ∃U,rI c (aS b (1+1)) U /\
 sB (T==U)
 (R (.bool false) c)
 (∃V,rI c (aS b (1+2)) V /\
 sB (decide (V<0))
 (R (.bool false) c)
 (∃W,rI c (aS b (1+2)) W /\
 ∃X,rS c (aS h 2) X /\
 sB (decide (W>=(X.n:Int)))
 (R (.bool false) c)
 (∃Y,Y<y0/\x0 (wrap .i64 (d+1)) c Y))))))))))))
 (∃Z,rI b (aS h 3) Z /\
 sB (decide (Z>=1))
 (∃a0,rI b (aS h 3) a0 /\
 sB (decide (a0<=200))
 (∃b0 c0 d0 e0 f0 g0 h0 i0,cS b (aS h 0) b0 c0 d0 e0 f0 g0 h0 i0 /\
 ∃j0,rI b (aS h 4) j0 /\
 Fn Pz 103 #[.agg ⟨(L0 b0 c0 d0 e0 f0 g0 h0 i0)⟩,vI j0] b
 (fun E0 f=>∃k0,iB E0 k0 /\
 sB k0
 (∃l0 m0 n0 o0 p0 q0 r0 s0,cS f (aS h 0) l0 m0 n0 o0 p0 q0 r0 s0 /\
 ∃t0,rI f (aS h 5) t0 /\
 Fn Pz 103 #[.agg ⟨(L0 l0 m0 n0 o0 p0 q0 r0 s0)⟩,vI t0] f
 (fun F0 j=>∃u0,iB F0 u0 /\
 sB u0
 (∃v0,rS j (aS h 6) v0 /\
 R (.bool (decide ((v0.n:Int)<=400))) j)
 (R (.bool false) j)))
 (R (.bool false) f)))
 (R (.bool false) b))
 (R (.bool false) b))
theorem abq(pa:ByteArray)(pb pc:Sl)(pd pe pf:Int)(pg ph:Sl)(H:@W44 h R pa pb pc pd pe pf pg ph):Fn Pz 44 #[.agg ⟨(L0 pa pb pc pd pe pf pg ph)⟩] h R:=aY (A:=(.s .z (.s (AI 3) .z))) H
def Mz(a b c:Heap)(R:Value->Heap->Prop)(d:Nat)(e:Int->Heap->Nat->Prop)(f:Int):Prop:=
 ∃g,rB a (aS b 5) g/\sB g (∃h,rI a (aS c 4) h/\∃i,rI a (aS b 0) i/\sB (h==i) (∃j,rI a (aS c 1) j/\∃k,rI a (aS b 1) k/\sB (j != k) (R (.bool false) a) (∃l,rI a (aS c (1+2)) l/\∃m,rI a (aS b (1+2)) m/\sB (l != m) (R (.bool false) a) (∃n,n<d/\e (wrap .i64 (f+1)) a n))) (∃o,o<d/\e (wrap .i64 (f+1)) a o)) (∃p,p<d/\e (wrap .i64 (f+1)) a p)
def RS(E h:Heap)(j:Int)(d:Heap)(R:Value->Heap->Prop)(F:Nat)(G:Int->Heap->Nat->Prop):Prop:=
 QI 0 E fun f e c g=>∃k,rS c (aS h 6) k/\sB (decide (e<(k.n:Int))) (∃i,rS c (aS h 6) i/\NB i.a fun H I=>Ib e i.n/\∃l m o p q r,gR c ⟨H,I+e.toNat*6,none⟩ l m o p q r/\Wn c [vI 0,vI 0,vI 0,vI 0,vI 0,.bool false] 67 fun J=>Wp J (aS c 0) 6 (L3 l m o p q r) fun b=>sB (e != j) (∃s,rI b (aS d 0) s/\∃t,rI b (aS c 0) t/\sB (s==t) (∃u v w,gB b (aS d 1) u v w/\∃x y z,gB b (aS c 1) x y z/\sB ((u==x)&&((v==y)&&((w==z)&&true))) (R (.bool false) b) (∃A,rI b (aS d 1) A/\∃B,rI b (aS c 1) B/\sB (A != B) (R (.bool false) b) (∃C,rB b (aS d 5) C/\sB C (R (.bool false) b) (Mz b d c R g f e)))) (Mz b d c R g f e)) (Mz b d c R g f e)) (∃D,D<F/\G (wrap .i64 (j+1)) c D)
def W45(pa:ByteArray)(pb pc:Sl)(pd pe pf:Int)(pg ph:Sl):Prop:=
 Wn h (L0 pa pb pc pd pe pf pg ph) 27 fun t=>QI 0 t fun f d b g=>∃i,rS b (aS h 6) i/\sB (decide (d<(i.n:Int))) (∃e,rS b (aS h 6) e/\NB e.a fun u v=>Ib d e.n/\∃j k l m o p,gR b ⟨u,v+d.toNat*6,none⟩ j k l m o p/\Wn b [vI 0,vI 0,vI 0,vI 0,vI 0,.bool false] 67 fun w=>Wp w (aS b 0) 6 (L3 j k l m o p) fun c=>∃q,rB c (aS b 5) q/\sB q (∃r,rI c (aS b 0) r/\∃s,rI c (aS h 4) s/\sB (r==s) (R (.bool false) c) (RS c h d b R g f)) (RS c h d b R g f)) (R (.bool true) b)
theorem abp(pa:ByteArray)(pb pc:Sl)(pd pe pf:Int)(pg ph:Sl)(H:@W45 h R pa pb pc pd pe pf pg ph):Fn Pz 45 #[.agg ⟨(L0 pa pb pc pd pe pf pg ph)⟩] h R:=aY (A:=(.s .z (.s (.s .z (.b (.l [(3,.one (.int .i64))] (.s .z (.s (.b (.s .z (.s .z (AI 5)))) .z))))) .z))) H
def W46(pa:ByteArray)(pb pc:Sl)(pd pe pf:Int)(pg ph:Sl):Prop:=
 Wn h (L0 pa pb pc pd pe pf pg ph) 27 fun f=>
 ∃c,rI f (aS h 3) c /\
 Mk c c 1/\Wn f (ai Pz 4 (c.toNat)) 4 fun s=>
 ∃j,rI s (aS h 4) j /\
 (0<=(j:Int)/\(j:Int)<((c.toNat):Nat)) /\
 Wp s (aS f (0+j.toNat*1)) 1 [.bool true] fun a0=>
 QI 0 a0 fun b0 t k c0=>
 ∃u,rI k (aS h 3) u /\
 sB (decide (t<u))
 (QI 0 k fun v d b w=>
 ∃x,rS b (aS h 6) x /\
 sB (decide (d<(x.n:Int)))
 (∃o,rS b (aS h 6) o /\
 NB o.a fun d0 e0=>Ib d o.n /\
 ∃g,rI b ⟨d0,e0+d.toNat*6+4,none⟩ g /\
 ∃p,rS b (aS h 6) p /\
 NB p.a fun f0 g0=>Ib d p.n /\
 ∃l,rI b ⟨f0,g0+d.toNat*6+4,none⟩ l /\
 (0<=(l:Int)/\(l:Int)<((c.toNat):Nat)) /\
 ∃y,rB b (aS f (0+l.toNat*1)) y /\
 sB y
 ((0<=(g:Int)/\(g:Int)<((c.toNat):Nat)) /\
 Wp b (aS f (0+g.toNat*1)) 1 [.bool true] fun h0=>
 ∃z,z<w/\v (wrap .i64 (d+1)) h0 z)
 (∃q,rS b (aS h 6) q /\
 NB q.a fun i0 j0=>Ib d q.n /\
 ∃m,rI b ⟨i0,j0+d.toNat*6,none⟩ m /\
 (0<=(m:Int)/\(m:Int)<((c.toNat):Nat)) /\
 ∃A,rB b (aS f (0+m.toNat*1)) A /\
 (0<=(g:Int)/\(g:Int)<((c.toNat):Nat)) /\
 Wp b (aS f (0+g.toNat*1)) 1 [.bool A] fun k0=>
 ∃B,B<w/\v (wrap .i64 (d+1)) k0 B))
 (∃C,C<c0/\b0 (wrap .i64 (t+1)) b C))
 (∃D E F G H I J K,cS k (aS h 0) D E F G H I J K /\
 Fn Pz 104 #[.agg ⟨(L0 D E F G H I J K)⟩] k
 (fun l0 m0=>∃r,iS l0 r /\
 QI 0 m0 fun n0 i e o0=>
 ∃L,rI e (aS h 3) L /\
 sB (decide (i<L))
 ((0<=(i:Int)/\(i:Int)<((c.toNat):Nat)) /\
 ∃M,rB e (aS f (0+i.toNat*1)) M /\
 sB (!M)
 (R (.bool false) e)
 (NB r.a fun p0 q0=>Ib i r.n /\
 ∃N,rI e ⟨p0,q0+i.toNat*1,none⟩ N /\
 sB (decide (N<0))
 (R (.bool false) e)
 (∃O,O<o0/\n0 (wrap .i64 (i+1)) e O)))
 (∃P Q S T U V W X,cS e (aS h 0) P Q S T U V W X /\
 ∃Y,rI e (aS h 5) Y /\
 Fn Pz 105 #[.agg ⟨(L0 P Q S T U V W X)⟩,vI Y] e
 (fun r0 s0=>∃Z,iS r0 Z /\
 R (.bool ((Z.n:Int)==0)) s0))))
theorem abo(pa:ByteArray)(pb pc:Sl)(pd pe pf:Int)(pg ph:Sl)(H:@W46 h R pa pb pc pd pe pf pg ph):Fn Pz 46 #[.agg ⟨(L0 pa pb pc pd pe pf pg ph)⟩] h R:=aY (A:=(.s .z (.s .z (.s .z (.s (.s .z (.b (.l [(4,.one (.int .i64))] (.s .z (.s (.b (AI 5)) .z))))) (.s .z (.s (AI 7) .z))))))) H
def RR(b c:Heap)(R:Value->Heap->Prop)(h:Heap)(s:Nat)(t:Int->Heap->Nat->Prop)(u:Int):Prop:=
 ∃i,rI b (aS c 1) i/\sB (decide (i<1)) (R (.bool false) b) (∃j,rI b (aS c 1) j/\sB (decide (j>1000)) (R (.bool false) b) (∃k,rI b (aS c 2) k/\sB (decide (k<0)) (R (.bool false) b) (∃l,rI b (aS c 2) l/\∃m,rS b (aS h 6) m/\sB (decide (l>=(m.n:Int))) (R (.bool false) b) (∃d,rS b (aS h 6) d/\∃e,rI b (aS c 2) e/\NB d.a fun v w=>Ib e d.n/\∃o,rI b ⟨v,w+e.toNat*6,none⟩ o/\∃p,rI b (aS c 0) p/\sB (o != p) (R (.bool false) b) (∃f,rS b (aS h 6) f/\∃g,rI b (aS c 2) g/\NB f.a fun x y=>Ib g f.n/\∃q,rB b ⟨x,y+g.toNat*6+5,none⟩ q/\sB q (R (.bool false) b) (∃r,r<s/\t (wrap .i64 (u+1)) b r))))))
def W47(pa:ByteArray)(pb pc:Sl)(pd pe pf:Int)(pg ph:Sl):Prop:=
 Wn h (L0 pa pb pc pd pe pf pg ph) 27 fun B=>QI 0 B fun i c b j=>∃k,rS b (aS h 7) k/\sB (decide (c<(k.n:Int))) (∃e,rS b (aS h 7) e/\NB e.a fun C D=>Ib c e.n/\∃l m o,gB b ⟨C,D+c.toNat*3,none⟩ l m o/\Wn b [vI 0,vI 0,vI 0] 149 fun E=>Wp E (aS b 0) 3 (L2 l m o) fun f=>∃p q r s t u v w,cS f (aS h 0) p q r s t u v w/\∃x,rI f (aS b 0) x/\Fn Pz 103 #[.agg ⟨(L0 p q r s t u v w)⟩,vI x] f (fun F d=>∃y,iB F y/\sB (!y) (R (.bool false) d) (sB (decide (c>0)) (∃z,rI d (aS b 0) z/\∃g,rS d (aS h 7) g/\NB g.a fun G H=>(0<=((wrap .i64 (c-1)):Int)/\((wrap .i64 (c-1)):Int)<(g.n:Nat))/\∃A,rI d ⟨G,H+Int.toNat (wrap .i64 (c-1))*3,none⟩ A/\sB (decide (z<=A)) (R (.bool false) d) (RR d b R h j i c)) (RR d b R h j i c)))) (R (.bool true) b)
theorem abn(pa:ByteArray)(pb pc:Sl)(pd pe pf:Int)(pg ph:Sl)(H:@W47 h R pa pb pc pd pe pf pg ph):Fn Pz 47 #[.agg ⟨(L0 pa pb pc pd pe pf pg ph)⟩] h R:=aY (A:=(.s .z (.s (AI 3) .z))) H
def aas(a:ByteArray):Prop:=
 Fn Pz 176 #[.string a] h
 (fun f b=>∃c,iB f c /\
 sB c
 (Fn Pz 178 #[] b
 (fun g i=>∃d,iS g d /\
 Fn Pz 177 #[vS d,.string a] i
 (fun j k=>∃e,iB j e /\
 R (.bool (!e)) k)))
 (R (.bool false) b))
theorem Va(p0:ByteArray)(H:@aas h R p0):Fn Pz 100 #[.string p0] h R:=aY (A:=.z) H
def aar(d:Sl)(g:ByteArray):Prop:=
 QI 0 h fun i b c j=>
 sB (decide (b<(d.n:Int)))
 (NB d.a fun k l=>Ib b d.n /\
 ∃e,rT c ⟨k,l+b.toNat*1,none⟩ e /\
 sB ((ByteArray.toList e)==(ByteArray.toList g))
 (R (vI b) c)
 (∃f,f<j/\i (wrap .i64 (b+1)) c f))
 (R (vI (-1)) c)
theorem U9(p0:Sl)(p1:ByteArray)(H:@aar h R p0 p1):Fn Pz 101 #[vS p0,.string p1] h R:=aY (A:=(.s .z (.s (AI 5) .z))) H
def aaq(d:Sl):Prop:=
 sB (decide ((d.n:Int)>40))
 (R (.bool false) h)
 (Fn Pz 179 #[vS d] h
 (fun v1 t=>∃u,iI v1 u /\
 sB (decide (u>24))
 (R (.bool false) t)
 (CZ 0 0 t fun I4 v i b m6=>
 sB (decide (i<(d.n:Int)))
 (NB d.a fun d0 e0=>Ib i d.n /\
 ∃w x y z A,YI b ⟨d0,e0+i.toNat*5,none⟩ w x y z A /\
 Wn b [.string ⟨#[]⟩,vN,vI 0,vN,vN] 171 fun f0=>
 Wp f0 (aS b 0) 5 (L8 w x y z A) fun g0=>
 QI 0 g0 fun h0 k j i0=>
 sB (decide (k<i))
 (NB d.a fun j0 k0=>Ib k d.n /\
 ∃B,rT j ⟨j0,k0+k.toNat*5,none⟩ B /\
 ∃C,rT j (aS b 0) C /\
 sB ((ByteArray.toList B)==(ByteArray.toList C))
 (R (.bool false) j)
 (∃D,D<i0/\h0 (wrap .i64 (k+1)) j D))
 (QI 0 j fun l0 c g m0=>
 ∃E,rS g (aS b 1) E /\
 sB (decide (c<(E.n:Int)))
 (∃o,rS g (aS b 1) o /\
 NB o.a fun n0 o0=>Ib c o.n /\
 ∃F G H,gB g ⟨n0,o0+c.toNat*4+1,none⟩ F G H /\
 Fn Pz 180 #[.agg ⟨(L2 F G H)⟩] g
 (fun p0 l=>∃I,iB p0 I /\
 sB (!I)
 (R (.bool false) l)
 (∃p,rS l (aS b 1) p /\
 NB p.a fun q0 r0=>Ib c p.n /\
 ∃J,rT l ⟨q0,r0+c.toNat*4,none⟩ J /\
 Fn Pz 100 #[.string J] l
 (fun s0 K=>∃L,iB s0 L /\
 sB (!L)
 (R (.bool false) K)
 (QI 0 K fun t0 m e u0=>
 sB (decide (m<c))
 (∃q,rS e (aS b 1) q /\
 NB q.a fun v0 w0=>Ib m q.n /\
 ∃M,rT e ⟨v0,w0+m.toNat*4,none⟩ M /\
 ∃r,rS e (aS b 1) r /\
 NB r.a fun x0 y0=>Ib c r.n /\
 ∃N,rT e ⟨x0,y0+c.toNat*4,none⟩ N /\
 sB ((ByteArray.toList M)==(ByteArray.toList N))
 (R (.bool false) e)
 (∃O,O<u0/\t0 (wrap .i64 (m+1)) e O))
 (∃P,P<m0/\l0 (wrap .i64 (c+1)) e P))))))
 (∃Q,rT g (aS b 0) Q /\
 Fn Pz 181 #[.string Q] g
 (fun z0 f=>∃S,iB z0 S /\
 sB (!S)
 (R (.bool false) f)
 (∃T,rS f (aS b 1) T /\
 sB (decide ((T.n:Int)>4))
 (R (.bool false) f)
 (∃U,rI f (aS b 2) U /\
 sB (U != v)
 (R (.bool false) f)
 (∃(V W:Sl),a6 f (aS b 3) [vS V,vS W] /\
 Fn Pz 182 #[vS d,.agg ⟨[vS V,vS W]⟩] f
 (fun A0 s=>∃X,iB A0 X /\
 sB (!X)
 (R (.bool false) s)
 (∃Y,rS s (aS b 1) Y /\
 ∃Z,Z<m6/\I4 (wrap .i64 (v+(Y.n:Int))) (wrap .i64 (i+1)) s Z)))))))))
 (R (.bool true) b))))
theorem U8(p0:Sl)(H:@aaq h R p0):Fn Pz 102 #[vS p0] h R:=aY (A:=(.s .z (.s .z (.s .z (.s (.s .z (.b (.l [(3,.one (.int .i64)),(4,.one (.int .i64))] (.s .z (.s (.b (.s .z (.s (AI 6) (.s (.s .z (.b (.l [(7,.one (.int .i64))] (.s .z (.s (.b (.s .z (AI 8))) .z))))) .z)))) .z))))) .z))))) H
def aap(pa:ByteArray)(pb pc:Sl)(pd pe pf:Int)(pg ph:Sl)(b:Int):Prop:=
 Wn h (L0 pa pb pc pd pe pf pg ph) 27 fun a=>
 sB (decide (b>=0))
 (∃c,rI a (aS h 3) c /\
 R (.bool (decide (b<c))) a)
 (R (.bool false) a)
theorem U7(pa:ByteArray)(pb pc:Sl)(pd pe pf:Int)(pg ph:Sl)(p1:Int)(H:@aap h R pa pb pc pd pe pf pg ph p1):Fn Pz 103 #[.agg ⟨(L0 pa pb pc pd pe pf pg ph)⟩,vI p1] h R:=aY (A:=.z) H
def aao(pa:ByteArray)(pb pc:Sl)(pd pe pf:Int)(pg ph:Sl):Prop:=
 Wn h (L0 pa pb pc pd pe pf pg ph) 27 fun d=>
 ∃b,rI d (aS h 3) b /\
 Mk b b 8/\Wn d (ai Pz 3 (b.toNat)) 3 fun J=>
 QI 0 J fun K g i L=>
 ∃t,rI i (aS h 3) t /\
 sB (decide (g<t))
 ((0<=(g:Int)/\(g:Int)<((b.toNat):Nat)) /\
 Wp i (aS d (0+g.toNat*1)) 1 [vI (-1)] fun M=>
 ∃u,u<L/\K (wrap .i64 (g+1)) M u)
 (∃j,rI i (aS h 5) j /\
 (0<=(j:Int)/\(j:Int)<((b.toNat):Nat)) /\
 Wp i (aS d (0+j.toNat*1)) 1 [vI 0] fun N=>
 QI 0 N fun O k p P=>
 ∃v,rI p (aS h 3) v /\
 sB (decide (k<v))
 (QI 0 p fun q f c r=>
 ∃w,rS c (aS h 6) w /\
 sB (decide (f<(w.n:Int)))
 (∃s,rS c (aS h 6) s /\
 NB s.a fun Q S=>Ib f s.n /\
 ∃x y z A B C,gR c ⟨Q,S+f.toNat*6,none⟩ x y z A B C /\
 Wn c [vI 0,vI 0,vI 0,vI 0,vI 0,.bool false] 67 fun T=>
 Wp T (aS c 0) 6 (L3 x y z A B C) fun e=>
 ∃l,rI e (aS c 4) l /\
 (0<=(l:Int)/\(l:Int)<((b.toNat):Nat)) /\
 ∃D,rI e (aS d (0+l.toNat*1)) D /\
 sB (D==k)
 (∃m,rI e (aS c 0) m /\
 (0<=(m:Int)/\(m:Int)<((b.toNat):Nat)) /\
 ∃E,rI e (aS d (0+m.toNat*1)) E /\
 sB (decide (E<0))
 (∃o,rI e (aS c 0) o /\
 (0<=(o:Int)/\(o:Int)<((b.toNat):Nat)) /\
 Wp e (aS d (0+o.toNat*1)) 1 [vI (wrap .i64 (k+1))] fun U=>
 ∃F,F<r/\q (wrap .i64 (f+1)) U F)
 (∃G,G<r/\q (wrap .i64 (f+1)) e G))
 (∃H,H<r/\q (wrap .i64 (f+1)) e H))
 (∃I,I<P/\O (wrap .i64 (k+1)) c I))
 (R (.slice (some (aS d 0)) (b.toNat) (b.toNat)) p))
theorem U6(pa:ByteArray)(pb pc:Sl)(pd pe pf:Int)(pg ph:Sl)(H:@aao h R pa pb pc pd pe pf pg ph):Fn Pz 104 #[.agg ⟨(L0 pa pb pc pd pe pf pg ph)⟩] h R:=aY (A:=(.s .z (.s .z (.s (AI 4) (.s .z (.s (.s .z (.b (.l [(5,.one (.int .i64))] (.s .z (.s (.b (AI 6)) .z))))) .z)))))) H
def Ju(d:Int)(b:Sl)(e:Heap)(f:Int)(h:Nat)(i:Sl->Int->Heap->Nat->Prop):Prop:=
 ((0:Int)<=(0:Int)/\(0:Int)<=(d:Int)/\(d:Int)<=(b.c:Nat))/\((0:Int)<=(d:Int)/\(d:Int)<=((b.n:Nat):Int)/\((b.n:Nat):Int)<=(b.c:Nat))/\Wn e [vI f] 3 fun j=>App Pz 102 102 (.slice (some (aS e 0)) 1 1) (.slice (aQ b.a (d.toNat) b.c 1) (Int.toNat (b.n:Nat)-d.toNat) (b.c-d.toNat)) j fun k l=>App Pz 102 102 (.slice (aQ b.a (Int.toNat 0) b.c 1) (d.toNat-Int.toNat 0) (b.c-Int.toNat 0)) (vS k) l fun m o=>∃g,g<h/\i m (wrap .i64 (f+1)) o g
def aan(pa:ByteArray)(pb pc:Sl)(pd pe pf:Int)(pg ph:Sl)(A:Int):Prop:=
 Wn h (L0 pa pb pc pd pe pf pg ph) 27 fun B=>mF ⟨none,0,0⟩ 0 B fun g b c d i=>∃k,rS d (aS h 6) k/\sB (decide (c<(k.n:Int))) (∃j,rS d (aS h 6) j/\NB j.a fun C D=>Ib c j.n/\∃l,rI d ⟨C,D+c.toNat*6,none⟩ l/\sB (l != A) (∃m,m<i/\g b (wrap .i64 (c+1)) d m) (QI 0 d fun E e f F=>sB (decide (e<(b.n:Int))) (∃o p q r s t u v,cS f (aS h 0) o p q r s t u v/\NB b.a fun G H=>Ib e b.n/\∃w,rI f ⟨G,H+e.toNat*1,none⟩ w/\Fn Pz 183 #[.agg ⟨(L0 o p q r s t u v)⟩,vI w,vI c] f (fun I x=>∃y,iB I y/\sB y (∃z,z<F/\E (wrap .i64 (e+1)) x z) (Ju e b x c i g))) (Ju e b f c i g))) (R (vS b) d)
theorem U5(pa:ByteArray)(pb pc:Sl)(pd pe pf:Int)(pg ph:Sl)(p1:Int)(H:@aan h R pa pb pc pd pe pf pg ph p1):Fn Pz 105 #[.agg ⟨(L0 pa pb pc pd pe pf pg ph)⟩,vI p1] h R:=aY (A:=(.s .z (.s .z (.s (.s .z (.b (.l [(5,.one (.slice)),(6,.one (.int .i64))] (.s .z (.s (.b (.s .z (.s .z (.s (.b (.l [(7,.one (.int .i64))] .z)) .z)))) .z))))) .z)))) H
def ZF(a:ByteArray):Prop:=
 sB ((ByteArray.toList a)==(ByteArray.toList ⟨#[]⟩))
 (R (.bool false) h)
 ((0<=(0:Int)/\(0:Int)<(ByteArray.size a:Nat)) /\
 Fn Pz 227 #[.int .u8 (iu a (Int.toNat 0):Int)] h
 (fun j c=>∃d,iB j d /\
 sB (!d)
 (R (.bool false) c)
 (sB (decide ((ByteArray.size a:Int)>16))
 (R (.bool false) c)
 (QI 0 c fun k b e l=>
 sB (decide (b<(ByteArray.size a:Int)))
 ((0<=(b:Int)/\(b:Int)<(ByteArray.size a:Nat)) /\
 Fn Pz 228 #[.int .u8 (iu a (b.toNat):Int)] e
 (fun m f=>∃g,iB m g /\
 sB (!g)
 (R (.bool false) f)
 (∃i,i<l/\k (wrap .i64 (b+1)) f i)))
 (R (.bool true) e)))))
theorem Ul(p0:ByteArray)(H:@ZF h R p0):Fn Pz 176 #[.string p0] h R:=aY (A:=(.s .z (.s .z (.s (AI 3) .z)))) H
def ZE(d:Sl)(g:ByteArray):Prop:=
 QI 0 h fun i b c j=>
 sB (decide (b<(d.n:Int)))
 (NB d.a fun k l=>Ib b d.n /\
 ∃e,rT c ⟨k,l+b.toNat*1,none⟩ e /\
 sB ((ByteArray.toList e)==(ByteArray.toList g))
 (R (.bool true) c)
 (∃f,f<j/\i (wrap .i64 (b+1)) c f))
 (R (.bool false) c)
theorem Uk(p0:Sl)(p1:ByteArray)(H:@ZE h R p0 p1):Fn Pz 177 #[vS p0,.string p1] h R:=aY (A:=(.s .z (.s (AI 5) .z))) H
def ZD :Prop:=
 Wn h [.string ⟨#[97,103,97,105,110]⟩,.string ⟨#[97,110,100]⟩,.string ⟨#[97,115]⟩,.string ⟨#[97,116]⟩,.string ⟨#[99,97,108,108]⟩,.string ⟨#[99,104,111,105,99,101]⟩,.string ⟨#[101,108,115,101]⟩,.string ⟨#[102,114,111,109]⟩,.string ⟨#[105,102]⟩,.string ⟨#[105,110,116]⟩,.string ⟨#[108,101,110]⟩,.string ⟨#[108,111,111,112]⟩,.string ⟨#[109,101,115,115,97,103,101]⟩,.string ⟨#[111,102]⟩,.string ⟨#[111,102,102,101,114]⟩,.string ⟨#[111,110]⟩,.string ⟨#[111,114]⟩,.string ⟨#[112,97,114]⟩,.string ⟨#[112,108,97,121,115]⟩,.string ⟨#[112,114,111,116,111,99,111,108]⟩,.string ⟨#[115,101,114,118,105,99,101]⟩,.string ⟨#[116,101,120,116]⟩,.string ⟨#[116,105,109,101,115]⟩,.string ⟨#[116,111]⟩,.string ⟨#[118,97,114]⟩,.string ⟨#[119,104,101,114,101]⟩,.string ⟨#[119,104,105,108,101]⟩,.string ⟨#[119,105,116,104,105,110]⟩] 9 fun a=>
 R (.slice (some (aS h 0)) 28 28) a
theorem Uj  (H:@ZD h R ):Fn Pz 178 #[] h R:=aY (A:=.z) H
def ZC(c:Sl):Prop:=
 CZ 0 0 h fun i e b d j=>
 sB (decide (b<(c.n:Int)))
 (NB c.a fun k l=>Ib b c.n /\
 ∃f,rS d ⟨k,l+b.toNat*5+1,none⟩ f /\
 ∃g,g<j/\i (wrap .i64 (e+(f.n:Int))) (wrap .i64 (b+1)) d g)
 (R (vI e) d)
theorem Ui(p0:Sl)(H:@ZC h R p0):Fn Pz 179 #[vS p0] h R:=aY (A:=(.s .z (.s .z (.s (.s .z (.b (.l [(3,.one (.int .i64)),(4,.one (.int .i64))] .z))) .z)))) H
def Jp(a h:Heap)(f g:Int)(R:Value->Heap->Prop):Prop:=
 ∃b,rI a (aS h 1) b/\sB (decide (b>=f)) (∃c,rI a (aS h 2) c/\sB (decide (c<=g)) (∃d,rI a (aS h 1) d/\∃e,rI a (aS h 2) e/\R (.bool (decide (d<=e))) a) (R (.bool false) a)) (R (.bool false) a)
def ZB(pa pb pc:Int):Prop:=
 Wn h (L2 pa pb pc) 258 fun b=>∃c:Int->Int->Heap->Prop,(∃f,rI b (aS h 0) f/\sB (f==2) (c 0 40 b) (c (-1000) 1000 b))/\∀(_:Env) (d e:Int) (a:Heap),c d e a->(∃g,rI a (aS h 0) g/\sB (g==1) (Jp a h d e R) (∃i,rI a (aS h 0) i/\sB (i==2) (Jp a h d e R) (R (.bool false) a)))
theorem Uh(pa pb pc:Int)(H:@ZB h R pa pb pc):Fn Pz 180 #[.agg ⟨(L2 pa pb pc)⟩] h R:=aY (A:=(.s .z (.s .z (.j [(3,.one (.int .i64)),(4,.one (.int .i64))] .z .z)))) H
def Jo(b a:Int)(c:ByteArray)(g:Heap)(R:Value->Heap->Prop)(h:Nat)(i:Int->Int->Heap->Nat->Prop):Prop:=
 ((0:Int)<=(b:Int)/\(b:Int)<=(a:Int)/\(a:Int)<=(ByteArray.size c:Nat))/\Fn Pz 229 #[.string (ByteArray.extract c (b.toNat) (a.toNat))] g (fun j d=>∃e,iB j e/\sB (!e) (R (.bool false) d) (∃f,f<h/\i (wrap .i64 (a+1)) (wrap .i64 (a+1)) d f))
def ZA(b:ByteArray):Prop:=
 CZ 0 0 h fun d e a c f=>sB (decide (a<=(ByteArray.size b:Int))) (sB (a==(ByteArray.size b:Int)) (Jo e a b c R f d) ((0<=(a:Int)/\(a:Int)<(ByteArray.size b:Nat))/\sB ((iu b (a.toNat):Int)==46) (Jo e a b c R f d) (∃g,g<f/\d e (wrap .i64 (a+1)) c g))) (R (.bool (decide ((ByteArray.size b:Int)<=50))) c)
theorem Ug(p0:ByteArray)(H:@ZA h R p0):Fn Pz 181 #[.string p0] h R:=aY (A:=(.s .z (.s .z (.s (.s .z (.b (.l [(3,.one (.int .i64)),(4,.one (.int .i64))] .z))) .z)))) H
def Zz(i pa pb:Sl):Prop:=
 Wn h [vS pa,vS pb] 169 fun I=>
 Fn Pz 179 #[vS i] I
 (fun J K=>∃j,iI J j /\
 QI 0 K fun L f c M=>
 ∃o,rS c (aS h 0) o /\
 sB (decide (f<(o.n:Int)))
 (∃k,rS c (aS h 0) k /\
 NB k.a fun N O=>Ib f k.n /\
 ∃p q r,gB c ⟨N,O+f.toNat*3,none⟩ p q r /\
 Wn c [vI 0,vI 0,vI 0] 263 fun P=>
 Wp P (aS c 0) 3 (L2 p q r) fun b=>
 ∃s,rI b (aS c 0) s /\
 sB (decide (s<(-1)))
 (R (.bool false) b)
 (∃t,rI b (aS c 0) t /\
 sB (decide (t>=j))
 (R (.bool false) b)
 (∃u,rI b (aS c 1) u /\
 sB (decide (u<(-1)))
 (R (.bool false) b)
 (∃v,rI b (aS c 1) v /\
 sB (decide (v>=j))
 (R (.bool false) b)
 (∃w,rI b (aS c 2) w /\
 sB (decide (w<(-20000)))
 (R (.bool false) b)
 (∃x,rI b (aS c 2) x /\
 sB (decide (x>20000))
 (R (.bool false) b)
 (∃y,y<M/\L (wrap .i64 (f+1)) b y)))))))
 (QI 0 c fun Q e d S=>
 ∃z,rS d (aS h 1) z /\
 sB (decide (e<(z.n:Int)))
 (∃l,rS d (aS h 1) l /\
 NB l.a fun T U=>Ib e l.n /\
 Ib 0 2 /\
 ∃A,rI d ⟨T,U+e.toNat*2+Int.toNat 0*1,none⟩ A /\
 Fn Pz 230 #[vS i,vI A] d
 (fun V g=>∃B,iB V B /\
 sB (!B)
 (R (.bool false) g)
 (∃m,rS g (aS h 1) m /\
 NB m.a fun W X=>Ib e m.n /\
 Ib 1 2 /\
 ∃C,rI g ⟨W,X+e.toNat*2+Int.toNat 1*1,none⟩ C /\
 Fn Pz 230 #[vS i,vI C] g
 (fun Y D=>∃E,iB Y E /\
 sB (!E)
 (R (.bool false) D)
 (∃F,F<S/\Q (wrap .i64 (e+1)) D F)))))
 (∃G,rS d (aS h 0) G /\
 sB (decide ((G.n:Int)<=20))
 (∃H,rS d (aS h 1) H /\
 R (.bool (decide ((H.n:Int)<=20))) d)
 (R (.bool false) d))))
theorem Uf(p0 pa pb:Sl)(H:@Zz h R p0 pa pb):Fn Pz 182 #[vS p0,.agg ⟨[vS pa,vS pb]⟩] h R:=aY (A:=(.s .z (.s .z (.s (AI 6) (.s (AI 8) .z))))) H
def Jn(d b:Heap)(p q r:Int)(s t:Nat)(e:Int)(h c:Heap)(u v w:Int)(R:Value->Heap->Prop)(x:Int):Prop:=
 Wp d (aS b 0) 3 (L2 p q r) fun f=>Sm [⟨s,t+e.toNat*6+1,none⟩,(aS h 6)] d f/\Wp f (aS c 0) 3 (L2 u v w) fun a=>∃g,rI a (aS b 1) g/\∃i,rI a (aS c 1) i/\sB (g != i) (∃j,rI a (aS b 1) j/\∃k,rI a (aS c 1) k/\R (.bool (decide (j<k))) a) (∃l,rI a (aS b 2) l/\∃m,rI a (aS c 2) m/\sB (l != m) (∃n,rI a (aS b 2) n/\∃o,rI a (aS c 2) o/\R (.bool (decide (n<o))) a) (R (.bool (decide (x<e))) a))
def Zy(pa:ByteArray)(pb pc:Sl)(pd pe pf:Int)(pg ph:Sl)(c d:Int):Prop:=
 Wn h (L0 pa pb pc pd pe pf pg ph) 27 fun b=>∃l,rS b (aS h 6) l/\NB l.a fun g i=>Ib c l.n/\∃m o p,gB b ⟨g,i+c.toNat*6+1,none⟩ m o p/\∃q,rS b (aS h 6) q/\NB q.a fun e f=>Ib d q.n/\∃r s t,gB b ⟨e,f+d.toNat*6+1,none⟩ r s t/\(Wn b [vI 0,vI 0,vI 0] 65 fun j=>Sm [⟨e,f+d.toNat*6+1,none⟩,(aS h 6),⟨g,i+c.toNat*6+1,none⟩,(aS h 6)] b j/\Wn j [vI 0,vI 0,vI 0] 65 fun u=>Sm [⟨e,f+d.toNat*6+1,none⟩,(aS h 6),⟨g,i+c.toNat*6+1,none⟩,(aS h 6)] j u/\Jn u b m o p e f d h j r s t R c)/\Wn b [vI 0,vI 0,vI 0] 65 fun k=>Sm [⟨e,f+d.toNat*6+1,none⟩,(aS h 6),⟨g,i+c.toNat*6+1,none⟩,(aS h 6)] b k/\Wn k [vI 0,vI 0,vI 0] 65 fun v=>Sm [⟨e,f+d.toNat*6+1,none⟩,(aS h 6),⟨g,i+c.toNat*6+1,none⟩,(aS h 6)] k v/\Jn v k m o p e f d h b r s t R c
theorem Ue(pa:ByteArray)(pb pc:Sl)(pd pe pf:Int)(pg ph:Sl)(p1 p2:Int)(H:@Zy h R pa pb pc pd pe pf pg ph p1 p2):Fn Pz 183 #[.agg ⟨(L0 pa pb pc pd pe pf pg ph)⟩,vI p1,vI p2] h R:=aY (A:=.z) H
def Zi(a:Int):Prop:=
 sB (decide (a>=97))
 (sB (decide (a<=122))
 (R (.bool true) h)
 (sB (decide (a>=65))
 (R (.bool (decide (a<=90))) h)
 (R (.bool false) h)))
 (sB (decide (a>=65))
 (R (.bool (decide (a<=90))) h)
 (R (.bool false) h))
theorem TW(p0:Int)(H:@Zi h R p0):Fn Pz 227 #[.int .u8 p0] h R:=aY (A:=.z) H
def Zh(a:Int):Prop:=
 Fn Pz 227 #[.int .u8 a] h
 (fun f b=>∃c,iB f c /\
 sB c
 (R (.bool true) b)
 (Fn Pz 275 #[.int .u8 a] b
 (fun g d=>∃e,iB g e /\
 sB e
 (R (.bool true) d)
 (R (.bool (a==95)) d))))
theorem TV(p0:Int)(H:@Zh h R p0):Fn Pz 228 #[.int .u8 p0] h R:=aY (A:=.z) H
def Zg(b:ByteArray):Prop:=
 Fn Pz 100 #[.string b] h
 (fun c d=>∃a,iB c a /\
 R (.bool a) d)
theorem TU(p0:ByteArray)(H:@Zg h R p0):Fn Pz 229 #[.string p0] h R:=aY (A:=.z) H
def Zf(b:Sl)(a:Int):Prop:=
 sB (decide (a>=0))
 (Fn Pz 179 #[vS b] h
 (fun f c=>∃d,iI f d /\
 sB (decide (a<d))
 (Fn Pz 276 #[vS b,vI a] c
 (fun g i=>∃(j:ByteArray) (e k l:Int),g=.agg ⟨(L9 j e k l)⟩ /\
 R (.bool (e==2)) i))
 (R (.bool false) c)))
 (R (.bool false) h)
theorem TT(p0:Sl)(p1:Int)(H:@Zf h R p0 p1):Fn Pz 230 #[vS p0,vI p1] h R:=aY (A:=.z) H
def YV(a:Int):Prop:=
 sB (decide (a>=48))
 (R (.bool (decide (a<=57))) h)
 (R (.bool false) h)
theorem TA(p0:Int)(H:@YV h R p0):Fn Pz 275 #[.int .u8 p0] h R:=aY (A:=.z) H
def Jg(a h:Heap)(R:Value->Heap->Prop):Prop:=
 ∃b c d e,YH a (aS h 0) b c d e/\R (.agg ⟨(L9 b c d e)⟩) a
def YU(c:Sl)(p:Int):Prop:=
 Wn h [.string ⟨#[]⟩,vI 0,vI 0,vI 0] 260 fun q=>CZ p 0 q fun r e b d s=>sB (decide (b<(c.n:Int))) (NB c.a fun t u=>Ib b c.n/\∃g,rS d ⟨t,u+b.toNat*5+1,none⟩ g/\sB (decide (e<(g.n:Int))) (NB c.a fun v w=>Ib b c.n/\∃f,rS d ⟨v,w+b.toNat*5+1,none⟩ f/\NB f.a fun x y=>Ib e f.n/\∃i j k l,YH d ⟨x,y+e.toNat*4,none⟩ i j k l/\Wp d (aS h 0) 4 (L9 i j k l) fun z=>Jg z h R) (NB c.a fun A B=>Ib b c.n/\∃m,rS d ⟨A,B+b.toNat*5+1,none⟩ m/\∃o,o<s/\r (wrap .i64 (e-(m.n:Int))) (wrap .i64 (b+1)) d o)) (Wp d (aS h 0) 4 [.string ⟨#[]⟩,vI 0,vI 0,vI 0] fun C=>Jg C h R)
theorem Tz(p0:Sl)(p1:Int)(H:@YU h R p0 p1):Fn Pz 276 #[vS p0,vI p1] h R:=aY (A:=(.s .z (.s (.s .z (.b (.l [(1,.one (.int .i64)),(5,.one (.int .i64))] .z))) .z))) H
end Go.VC
end

section
namespace Go.VC
open Go.Proofs IntKind


end Go.VC
end

section
namespace Go.VC
open Go.Proofs IntKind
variable {h:Heap} {R:Value->Heap->Prop}
def ZW(pa:ByteArray)(pb pc:Sl)(pd pe pf:Int)(pg ph:Sl)(s i j:Int):Prop:=
 Wn h (L0 pa pb pc pd pe pf pg ph) 27 fun t=>
 ∃u v w x y z A B,cS t (aS h 0) u v w x y z A B /\
 Fn Pz 220 #[.agg ⟨(L0 u v w x y z A B)⟩,vI s,vI i] t
 (fun P0 k=>∃C,iB P0 C /\
 sB (!C)
 (R (.bool false) k)
 (∃D E F G H I J K,cS k (aS h 0) D E F G H I J K /\
 Fn Pz 220 #[.agg ⟨(L0 D E F G H I J K)⟩,vI s,vI j] k
 (fun Q0 l=>∃L,iB Q0 L /\
 sB (!L)
 (R (.bool false) l)
 (∃M N O P Q S T U,cS l (aS h 0) M N O P Q S T U /\
 Fn Pz 221 #[.agg ⟨(L0 M N O P Q S T U)⟩,vI i] l
 (fun R0 c=>∃(V W X Y:Int),R0=.tuple ⟨[vI V,.agg ⟨(L2 W X Y)⟩]⟩ /\
 Wn c [vI 0,vI 0,vI 0] 65 fun S0=>
 Wp S0 (aS c 0) 3 (L2 W X Y) fun Z=>
 ∃a0 b0 c0 d0 e0 f0 g0 h0,cS Z (aS h 0) a0 b0 c0 d0 e0 f0 g0 h0 /\
 Fn Pz 221 #[.agg ⟨(L0 a0 b0 c0 d0 e0 f0 g0 h0)⟩,vI j] Z
 (fun T0 d=>∃(i0 j0 k0 l0:Int),T0=.tuple ⟨[vI i0,.agg ⟨(L2 j0 k0 l0)⟩]⟩ /\
 Wn d [vI 0,vI 0,vI 0] 65 fun U0=>
 Wp U0 (aS d 0) 3 (L2 j0 k0 l0) fun b=>
 sB (V != i0)
 (R (.bool true) b)
 (∃m0 n0 o0,gB b (aS c 0) m0 n0 o0 /\
 ∃p0 q0 r0,gB b (aS d 0) p0 q0 r0 /\
 sB (!((m0==p0)&&((n0==q0)&&((o0==r0)&&true))))
 (R (.bool true) b)
 (∃m,rS b (aS h 6) m /\
 ∃s0 t0 u0 v0 w0 x0 y0 z0,cS b (aS h 0) s0 t0 u0 v0 w0 x0 y0 z0 /\
 ∃o,rS b (aS h 6) o /\
 ∃A0 B0 C0 D0 E0 F0 G0 H0,cS b (aS h 0) A0 B0 C0 D0 E0 F0 G0 H0 /\
 Fn Pz 55 #[.agg ⟨(L0 s0 t0 u0 v0 w0 x0 y0 z0)⟩,vI i] b
 (fun V0 e=>∃p,iS V0 p /\
 Sm [(aS h 0),(aS h 6),(aS h 6),(aS d 0),(aS c 0)] b e /\
 NB p.a fun I0 J0=>Ib 0 p.n /\
 ∃f,rI e ⟨I0,J0+Int.toNat 0*1,none⟩ f /\
 NB m.a fun K0 M0=>Ib f m.n /\
 ∃N0,rB e ⟨K0,M0+f.toNat*6+5,none⟩ N0 /\
 Fn Pz 55 #[.agg ⟨(L0 A0 B0 C0 D0 E0 F0 G0 H0)⟩,vI j] e
 (fun W0 g=>∃q,iS W0 q /\
 Sm [⟨K0,M0+f.toNat*6+5,none⟩,⟨I0,J0+Int.toNat 0*1,none⟩,(aS h 6),(aS h 0),(aS h 6),(aS d 0),(aS c 0)] e g /\
 NB q.a fun X0 Y0=>Ib 0 q.n /\
 ∃r,rI g ⟨X0,Y0+Int.toNat 0*1,none⟩ r /\
 NB o.a fun Z0 a1=>Ib r o.n /\
 ∃O0,rB g ⟨Z0,a1+r.toNat*6+5,none⟩ O0 /\
 R (.bool (!(N0==O0))) g))))))))))
theorem UD(pa:ByteArray)(pb pc:Sl)(pd pe pf:Int)(pg ph:Sl)(p1 p2 p3:Int)(H:@ZW h R pa pb pc pd pe pf pg ph p1 p2 p3):Fn Pz 159 #[.agg ⟨(L0 pa pb pc pd pe pf pg ph)⟩,vI p1,vI p2,vI p3] h R:=aY (A:=.z) H
def aam(d:Addr)(pa pb pc pd pe:Int)(pf:Bool):Prop:=
 Wn h (L3 pa pb pc pd pe pf) 67 fun b=>
 Wn b [.bool false,vI 0,vI 0] 188 fun a=>
 ∃c,rI a ⟨d.block,d.off+8,none⟩ c /\
 ∃e,rI a (aS h 1) e /\
 sB (c==e)
 (∃f,rI a (aS h (1+1)) f /\
 ∃g,rI a (aS h (1+2)) g /\
 Wp a (aS b 0) 3 [.bool true,vI f,vI g] fun i=>
 ∃j k l,oP i (aS b 0) j k l /\
 R (.tuple ⟨[.agg ⟨(L5 j k l)⟩,.bool true]⟩) i)
 (∃m,rI a (aS h (1+1)) m /\
 sB (c==m)
 (∃n,rI a (aS h 1) n /\
 ∃o,rI a (aS h (1+2)) o /\
 Wp a (aS b 0) 3 [.bool false,vI n,vI o] fun p=>
 ∃q r s,oP p (aS b 0) q r s /\
 R (.tuple ⟨[.agg ⟨(L5 q r s)⟩,.bool true]⟩) p)
 (Wp a (aS b 0) 3 [.bool false,vI 0,vI 0] fun t=>
 ∃u v w,oP t (aS b 0) u v w /\
 R (.tuple ⟨[.agg ⟨(L5 u v w)⟩,.bool false]⟩) t))
theorem U4(p0:Addr)(pa pb pc pd pe:Int)(pf:Bool)(H:@aam h R p0 pa pb pc pd pe pf):Fn Pz 106 #[.pointer (some p0),.agg ⟨(L3 pa pb pc pd pe pf)⟩] h R:=aY (A:=.z) H
def ZM(pa pb pc pd:Int):Prop:=
 Wn h (L6 pa pb pc pd) 200 fun a=>
 ∃b,rI a (aS h 0) b /\
 sB (decide (b>=0))
 (∃c,rI a (aS h 1) c /\
 sB (decide (c>=0))
 (R (vI 2) a)
 (R (vI 1) a))
 (R (vI 1) a)
theorem Ut(pa pb pc pd:Int)(H:@ZM h R pa pb pc pd):Fn Pz 169 #[.agg ⟨(L6 pa pb pc pd)⟩] h R:=aY (A:=.z) H
def Z2(pa:Sl)(pb:Bool):Prop:=
 Wn h [vS pa,.bool pb] 195 fun e=>
 ∃(f:Sl) (g:Bool),a6 e (aS h 0) [vS f,.bool g] /\
 Fn Pz 148 #[.agg ⟨[vS f,.bool g]⟩] e
 (fun l b=>∃i,iB l i /\
 sB i
 (∃j,rB b (aS h 1) j /\
 sB j
 (R (.bool true) b)
 (∃d,rS b (aS h 0) d /\
 ∃c,rS b (aS h 0) c /\
 NB d.a fun m o=>(0<=((wrap .i64 ((c.n:Int)-1)):Int)/\((wrap .i64 ((c.n:Int)-1)):Int)<(d.n:Nat)) /\
 ∃k,rB b ⟨m,o+Int.toNat (wrap .i64 ((c.n:Int)-1))*3,none⟩ k /\
 R (.bool (!k)) b))
 (R (.bool false) b))
theorem UH(pa:Sl)(pb:Bool)(H:@Z2 h R pa pb):Fn Pz 149 #[.agg ⟨[vS pa,.bool pb]⟩] h R:=aY (A:=.z) H
def Ix(pa:Bool)(pb pc:Int)(pd:Bool)(pe pf:Int):Prop:=
 Wn h (L5 pa pb pc) 188 fun b=>
 Wn b (L5 pd pe pf) 188 fun a=>
 ∃e,rB a (aS h 0) e /\
 ∃f,rB a (aS b 0) f /\
 sB (!(e==f))
 (∃g,rB a (aS h 0) g /\
 sB g
 (R (vI (-1)) a)
 (R (vI 1) a))
 (∃i,rI a (aS h 1) i /\
 ∃j,rI a (aS b 1) j /\
 ∃k,rI a (aS h 2) k /\
 ∃l,rI a (aS b 2) l /\
 Fn Pz 54 #[vI i,vI j] a
 (fun p c=>∃m,iI p m /\
 Sm [(aS b 2),(aS h 2)] a c /\
 Fn Pz 54 #[vI k,vI l] c
 (fun q d=>∃n,iI q n /\
 Sm [(aS b 1),(aS h 1)] c d /\
 Wn d [vI m,vI n] 3 fun r=>
 Fn Pz 53 #[.slice (some (aS d 0)) 2 2] r
 (fun s t=>∃o,iI s o /\
 R (vI o) t))))
theorem Fy(pa:Bool)(pb pc:Int)(pd:Bool)(pe pf:Int)(H:@Ix h R pa pb pc pd pe pf):Fn Pz 185 #[.agg ⟨(L5 pa pb pc)⟩,.agg ⟨(L5 pd pe pf)⟩] h R:=aY (A:=.z) H
def Zt(pa:Sl)(pb pc:Bool)(pd pe:Int):Prop:=
 Wn h [vS pa,.bool pb] 195 fun b=>
 Wn b (L5 pc pd pe) 188 fun a=>
 ∃c,rS a (aS h 0) c /\
 ∃d e f,oP a (aS b 0) d e f /\
 Fn Pz 263 #[vS c,.agg ⟨(L5 d e f)⟩] a
 (fun i j=>∃g,iB i g /\
 R (.bool g) j)
theorem T9(pa:Sl)(pb pc:Bool)(pd pe:Int)(H:@Zt h R pa pb pc pd pe):Fn Pz 214 #[.agg ⟨[vS pa,.bool pb]⟩,.agg ⟨(L5 pc pd pe)⟩] h R:=aY (A:=.z) H
def Z3(pa:Sl)(pb:Bool):Prop:=
 Wn h [vS pa,.bool pb] 195 fun b=>
 ∃d,rS b (aS h 0) d /\
 sB (decide ((d.n:Int)>0))
 (∃c,rS b (aS h 0) c /\
 NB c.a fun f g=>Ib 0 c.n /\
 ∃e,rB b ⟨f,g+Int.toNat 0*3,none⟩ e /\
 R (.bool e) b)
 (R (.bool false) b)
theorem UI(pa:Sl)(pb:Bool)(H:@Z3 h R pa pb):Fn Pz 148 #[.agg ⟨[vS pa,.bool pb]⟩] h R:=aY (A:=.z) H
def Y9(f:Sl)(pa:Bool)(pb pc:Int):Prop:=
 Wn h (L5 pa pb pc) 188 fun a=>
 ∃b c d,oP a (aS h 0) b c d /\
 Fn Pz 295 #[vS f,.agg ⟨(L5 b c d)⟩] a
 (fun g i=>∃e,iI g e /\
 R (.bool (decide (e>=0))) i)
theorem TM(p0:Sl)(pa:Bool)(pb pc:Int)(H:@Y9 h R p0 pa pb pc):Fn Pz 263 #[vS p0,.agg ⟨(L5 pa pb pc)⟩] h R:=aY (A:=.z) H
def YS(d:Sl)(pa:Bool)(pb pc:Int):Prop:=
 Wn h (L5 pa pb pc) 188 fun m=>
 QI 0 m fun o b c p=>
 sB (decide (b<(d.n:Int)))
 (∃e f g,oP c (aS h 0) e f g /\
 NB d.a fun q r=>Ib b d.n /\
 ∃i j k,oP c ⟨q,r+b.toNat*3,none⟩ i j k /\
 sB ((e==i)&&((f==j)&&((g==k)&&true)))
 (R (vI b) c)
 (∃l,l<p/\o (wrap .i64 (b+1)) c l))
 (R (vI (-1)) c)
theorem Tx(p0:Sl)(pa:Bool)(pb pc:Int)(H:@YS h R p0 pa pb pc):Fn Pz 295 #[vS p0,.agg ⟨(L5 pa pb pc)⟩] h R:=aY (A:=(.s .z (.s (AI 8) .z))) H
def ZL(f:Addr)(pa pb:Int):Prop:=
 Wn h [vI pa,vI pb] 97 fun d=>
 Wn d [.bool false,vI 0,vI 0] 188 fun g=>
 ∃k,rS g ⟨f.block,f.off+10,none⟩ k /\
 ∃l,rI g (aS h 0) l /\
 NB k.a fun O P=>Ib l k.n /\
 ∃i,rS g ⟨O,P+l.toNat*2,none⟩ i /\
 QI 0 g fun p e b q=>
 sB (decide (e<(i.n:Int)))
 (NB i.a fun Q S=>Ib e i.n /\
 ∃r s t,oP b ⟨Q,S+e.toNat*3,none⟩ r s t /\
 Wn b [.bool false,vI 0,vI 0] 188 fun T=>
 Wp T (aS b 0) 3 (L5 r s t) fun c=>
 ∃u,rB c (aS b 0) u /\
 sB u
 (∃m,rS c ⟨f.block,f.off+10,none⟩ m /\
 ∃o,rI c (aS h 1) o /\
 NB m.a fun U V=>Ib o m.n /\
 ∃(v:Sl) (w:Bool),a6 c ⟨U,V+o.toNat*2,none⟩ [vS v,.bool w] /\
 ∃x y z,oP c (aS b 0) x y z /\
 Fn Pz 214 #[.agg ⟨[vS v,.bool w]⟩,.agg ⟨(L5 x y z)⟩] c
 (fun W j=>∃A,iB W A /\
 Sm [(aS b 0)] c j /\
 sB (!A)
 (∃B C D,oP j (aS b 0) B C D /\
 Wp j (aS d 0) 3 (L5 B C D) fun E=>
 ∃F G H,oP E (aS d 0) F G H /\
 R (.tuple ⟨[.agg ⟨(L5 F G H)⟩,.bool true]⟩) E)
 (∃I,I<q/\p (wrap .i64 (e+1)) j I)))
 (∃J,J<q/\p (wrap .i64 (e+1)) c J))
 (Wp b (aS d 0) 3 [.bool false,vI 0,vI 0] fun K=>
 ∃L M N,oP K (aS d 0) L M N /\
 R (.tuple ⟨[.agg ⟨(L5 L M N)⟩,.bool false]⟩) K)
theorem Us(p0:Addr)(pa pb:Int)(H:@ZL h R p0 pa pb):Fn Pz 170 #[.pointer (some p0),.agg ⟨[vI pa,vI pb]⟩] h R:=aY (A:=(.s .z (.s (AI 18) .z))) H
def ZZ(c:Addr)(pa pb:Int):Prop:=
 Wn h [vI pa,vI pb] 97 fun b=>
 ∃d,rS b ⟨c.block,c.off+13,none⟩ d /\
 ∃e,rI b (aS h 0) e /\
 NB d.a fun D E=>Ib e d.n /\
 ∃r,rB b ⟨D,E+e.toNat*1,none⟩ r /\
 sB r
 (∃f,rS b ⟨c.block,c.off+13,none⟩ f /\
 ∃g,rI b (aS h 1) g /\
 NB f.a fun F G=>Ib g f.n /\
 ∃s,rB b ⟨F,G+g.toNat*1,none⟩ s /\
 sB s
 (∃i,rS b ⟨c.block,c.off+11,none⟩ i /\
 ∃j,rI b (aS h 0) j /\
 NB i.a fun H I=>Ib j i.n /\
 ∃(t:Int) (u:Bool) (v w:Int),a6 b ⟨H,I+j.toNat*4,none⟩ [vI t,.bool u,vI v,vI w] /\
 ∃k,rS b ⟨c.block,c.off+11,none⟩ k /\
 ∃l,rI b (aS h 1) l /\
 NB k.a fun J K=>Ib l k.n /\
 ∃(x:Int) (y:Bool) (z A:Int),a6 b ⟨J,K+l.toNat*4,none⟩ [vI x,.bool y,vI z,vI A] /\
 sB (!((t==x)&&(((u==y)&&((v==z)&&((w==A)&&true)))&&true)))
 (R (.bool true) b)
 (∃m,rS b ⟨c.block,c.off+12,none⟩ m /\
 ∃o,rI b (aS h 0) o /\
 NB m.a fun L M=>Ib o m.n /\
 ∃B,rB b ⟨L,M+o.toNat*1,none⟩ B /\
 ∃p,rS b ⟨c.block,c.off+12,none⟩ p /\
 ∃q,rI b (aS h 1) q /\
 NB p.a fun N O=>Ib q p.n /\
 ∃C,rB b ⟨N,O+q.toNat*1,none⟩ C /\
 R (.bool (!(B==C))) b))
 (R (.bool false) b))
 (R (.bool false) b)
theorem UG(p0:Addr)(pa pb:Int)(H:@ZZ h R p0 pa pb):Fn Pz 151 #[.pointer (some p0),.agg ⟨[vI pa,vI pb]⟩] h R:=aY (A:=.z) H
def ZK(c:Addr)(pa:Bool)(pb pc:Int):Prop:=
 Wn h (L5 pa pb pc) 188 fun b=>
 Wn b [vI 0,.bool false,vI 0,vI 0,vN] 33 fun a=>
 ∃d,rI a ⟨c.block,c.off+8,none⟩ d /\
 ∃e,rB a (aS h 0) e /\
 ∃f,rI a (aS h 1) f /\
 ∃g,rI a (aS h 2) g /\
 Wp a (aS b 0) 5 [vI d,.bool e,vI f,vI g,vN] fun i=>
 ∃j k l m n,sG i (aS b 0) j k l m n /\
 R (.agg ⟨(L4 j k l m n)⟩) i
theorem Ur(p0:Addr)(pa:Bool)(pb pc:Int)(H:@ZK h R p0 pa pb pc):Fn Pz 171 #[.pointer (some p0),.agg ⟨(L5 pa pb pc)⟩] h R:=aY (A:=.z) H
def ZQ(g:Option Nat)(pa pb:Int):Prop:=
 Wn h [vI pa,vI pb] 97 fun a=>
 ∃(b c:Int),a6 a (aS h 0) [vI b,vI c] /\
 bD Pz (Instr.lookup 293 (.map g) (.agg ⟨[vI b,vI c]⟩) true) a
 (fun i d=>∃(e:Int) (f:Bool),i=.tuple ⟨[vI e,.bool f]⟩ /\
 sB f
 (R (vI e) d)
 (R (vI 1073741824) d))
theorem Ux(p0:Option Nat)(pa pb:Int)(H:@ZQ h R p0 pa pb):Fn Pz 165 #[.map p0,.agg ⟨[vI pa,vI pb]⟩] h R:=aY (A:=.z) H
def Zx(b:Sl):Prop:=
 sB (decide ((b.n:Int)<2))
 (R (vS b) h)
 (QI 1 h fun E d i F=>
 sB (decide (d<(b.n:Int)))
 (NB b.a fun G H=>Ib d b.n /\
 ∃j k l,oP i ⟨G,H+d.toNat*3,none⟩ j k l /\
 NB b.a fun I J=>(0<=((wrap .i64 (d-1)):Int)/\((wrap .i64 (d-1)):Int)<(b.n:Nat)) /\
 ∃m o p,oP i ⟨I,J+Int.toNat (wrap .i64 (d-1))*3,none⟩ m o p /\
 sB ((j==m)&&((k==o)&&((l==p)&&true)))
 (((0:Int)<=(d:Int)/\(d:Int)<=((b.n:Nat):Int)/\((b.n:Nat):Int)<=(b.c:Nat)) /\
 CZ d 1 i fun q e f g r=>
 sB (decide (f<(((Int.toNat (b.n:Nat)-d.toNat):Nat):Int)))
 (NB (aQ b.a (d.toNat) b.c 3) fun K L=>(0<=(f:Int)/\(f:Int)<((Int.toNat (b.n:Nat)-d.toNat):Nat)) /\
 ∃s t u,oP g ⟨K,L+f.toNat*3,none⟩ s t u /\
 NB (aQ b.a (d.toNat) b.c 3) fun M N=>(0<=((wrap .i64 (f-1)):Int)/\((wrap .i64 (f-1)):Int)<((Int.toNat (b.n:Nat)-d.toNat):Nat)) /\
 ∃v w x,oP g ⟨M,N+Int.toNat (wrap .i64 (f-1))*3,none⟩ v w x /\
 sB (!((s==v)&&((t==w)&&((u==x)&&true))))
 (NB (aQ b.a (d.toNat) b.c 3) fun O P=>(0<=(f:Int)/\(f:Int)<((Int.toNat (b.n:Nat)-d.toNat):Nat)) /\
 ∃y z A,oP g ⟨O,P+f.toNat*3,none⟩ y z A /\
 NB b.a fun Q S=>Ib e b.n /\
 Wp g ⟨Q,S+e.toNat*3,none⟩ 3 (L5 y z A) fun T=>
 ∃B,B<r/\q (wrap .i64 (e+1)) (wrap .i64 (f+1)) T B)
 (∃C,C<r/\q e (wrap .i64 (f+1)) g C))
 (((0:Int)<=(e:Int)/\(e:Int)<=((b.n:Nat):Int)/\((b.n:Nat):Int)<=(b.c:Nat)) /\
 bD Pz (Builtin.clear_ #[193] 0 #[.slice (aQ b.a (e.toNat) b.c 3) (Int.toNat (b.n:Nat)-e.toNat) (b.c-e.toNat)]) g (fun V U=>
 ((0:Int)<=(0:Int)/\(0:Int)<=(e:Int)/\(e:Int)<=(b.c:Nat)) /\
 R (.slice (aQ b.a (Int.toNat 0) b.c 3) (e.toNat-Int.toNat 0) (b.c-Int.toNat 0)) U)))
 (∃D,D<F/\E (wrap .i64 (d+1)) i D))
 (R (vS b) i))
theorem Ud(p0:Sl)(H:@Zx h R p0):Fn Pz 186 #[vS p0] h R:=aY (A:=(.s .z (.s .z (.s (.s .z (.b (.l [(3,.one (.int .i64))] (.s .z (.s (.b (.s .z (.c (.s .z (.s (.s .z (.b (.l [(3,.one (.int .i64)),(5,.one (.int .i64))] .z))) .z)) .z))) .z))))) .z)))) H
def aak(b:Addr)(pa pb:Int):Prop:=
 Wn h [vI pa,vI pb] 97 fun o=>
 ∃w,rS o ⟨b.block,b.off+9,none⟩ w /\
 ∃x,rI o (aS h 0) x /\
 NB w.a fun b6 o7=>Ib x w.n /\
 ∃p,rS o ⟨b6,o7+x.toNat*1,none⟩ p /\
 Au ⟨none,0,0⟩ ⟨none,0,0⟩ 0 o fun N y z l c O=>
 sB (decide (l<(p.n:Int)))
 (NB p.a fun f1 g1=>Ib l p.n /\
 ∃m,rI c ⟨f1,g1+l.toNat*1,none⟩ m /\
 ∃A,rS c ⟨b.block,b.off+6,none⟩ A /\
 NB A.a fun h1 i1=>Ib m A.n /\
 ∃P Q S T U V,gR c ⟨h1,i1+m.toNat*6,none⟩ P Q S T U V /\
 Wn c [vI 0,vI 0,vI 0,vI 0,vI 0,.bool false] 67 fun j1=>
 Wp j1 (aS c 0) 6 (L3 P Q S T U V) fun W=>
 ∃X Y Z a0 b0 c0,gR W (aS c 0) X Y Z a0 b0 c0 /\
 Fn Pz 106 #[.pointer (some b),.agg ⟨(L3 X Y Z a0 b0 c0)⟩] W
 (fun k1 B=>∃(d0:Bool) (e0 f0:Int) (g0:Bool),k1=.tuple ⟨[.agg ⟨(L5 d0 e0 f0)⟩,.bool g0]⟩ /\
 Wn B [.bool false,vI 0,vI 0] 188 fun l1=>
 Wp l1 (aS B 0) 3 (L5 d0 e0 f0) fun f=>
 sB (!g0)
 (∃h0,rI f (aS c 4) h0 /\
 ∃i0,rI f (aS h 1) i0 /\
 Wn f [vI m,vI (-1),vI h0,vI i0] 200 fun m1=>
 App Pz 197 197 (vS y) (.slice (some (aS f 0)) 1 1) m1 fun n1 o1=>
 ∃j0,j0<O/\N n1 z (wrap .i64 (l+1)) o1 j0)
 (∃C,rS f ⟨b.block,b.off+9,none⟩ C /\
 ∃D,rI f (aS h 1) D /\
 NB C.a fun p1 q1=>Ib D C.n /\
 ∃q,rS f ⟨p1,q1+D.toNat*1,none⟩ q /\
 mF z 0 f fun E r j g F=>
 sB (decide (j<(q.n:Int)))
 (NB q.a fun r1 s1=>Ib j q.n /\
 ∃s,rI g ⟨r1,s1+j.toNat*1,none⟩ s /\
 ∃G,rS g ⟨b.block,b.off+6,none⟩ G /\
 NB G.a fun t1 u1=>Ib s G.n /\
 ∃k0 l0 m0 n0 o0 p0,gR g ⟨t1,u1+s.toNat*6,none⟩ k0 l0 m0 n0 o0 p0 /\
 Wn g [vI 0,vI 0,vI 0,vI 0,vI 0,.bool false] 67 fun v1=>
 Wp v1 (aS g 0) 6 (L3 k0 l0 m0 n0 o0 p0) fun q0=>
 ∃r0 s0 t0 u0 v0 w0,gR q0 (aS g 0) r0 s0 t0 u0 v0 w0 /\
 Fn Pz 106 #[.pointer (some b),.agg ⟨(L3 r0 s0 t0 u0 v0 w0)⟩] q0
 (fun w1 H=>∃(x0:Bool) (y0 z0:Int) (A0:Bool),w1=.tuple ⟨[.agg ⟨(L5 x0 y0 z0)⟩,.bool A0]⟩ /\
 Wn H [.bool false,vI 0,vI 0] 188 fun x1=>
 Wp x1 (aS H 0) 3 (L5 x0 y0 z0) fun i=>
 sB A0
 (∃B0 C0 D0,oP i (aS B 0) B0 C0 D0 /\
 ∃E0 F0 G0,oP i (aS H 0) E0 F0 G0 /\
 sB ((B0==E0)&&((C0==F0)&&((D0==G0)&&true)))
 (∃H0,rI i (aS c 4) H0 /\
 ∃I0,rI i (aS g 4) I0 /\
 Wn i (L6 m s H0 I0) 200 fun y1=>
 App Pz 197 197 (vS r) (.slice (some (aS i 0)) 1 1) y1 fun z1 A1=>
 ∃J0,J0<F/\E z1 (wrap .i64 (j+1)) A1 J0)
 (∃K0,K0<F/\E r (wrap .i64 (j+1)) i K0))
 (∃L0,L0<F/\E r (wrap .i64 (j+1)) i L0)))
 (∃M0,M0<O/\N y r (wrap .i64 (l+1)) g M0))))
 (∃I,rS c ⟨b.block,b.off+9,none⟩ I /\
 ∃J,rI c (aS h 1) J /\
 NB I.a fun B1 C1=>Ib J I.n /\
 ∃t,rS c ⟨B1,C1+J.toNat*1,none⟩ t /\
 mF ⟨none,0,0⟩ 0 c fun K u k d L=>
 sB (decide (k<(t.n:Int)))
 (NB t.a fun D1 E1=>Ib k t.n /\
 ∃v,rI d ⟨D1,E1+k.toNat*1,none⟩ v /\
 ∃M,rS d ⟨b.block,b.off+6,none⟩ M /\
 NB M.a fun F1 G1=>Ib v M.n /\
 ∃N0 O0 P0 Q0 R0 S0,gR d ⟨F1,G1+v.toNat*6,none⟩ N0 O0 P0 Q0 R0 S0 /\
 Wn d [vI 0,vI 0,vI 0,vI 0,vI 0,.bool false] 67 fun H1=>
 Wp H1 (aS d 0) 6 (L3 N0 O0 P0 Q0 R0 S0) fun e=>
 ∃T0,rI e (aS d 1) T0 /\
 ∃U0,rI e ⟨b.block,b.off+8,none⟩ U0 /\
 sB (T0 != U0)
 (∃V0,rI e (aS d (1+1)) V0 /\
 ∃W0,rI e ⟨b.block,b.off+8,none⟩ W0 /\
 sB (V0 != W0)
 (∃X0,rI e (aS h 0) X0 /\
 ∃Y0,rI e (aS d 4) Y0 /\
 Wn e [vI (-1),vI v,vI X0,vI Y0] 200 fun I1=>
 App Pz 197 197 (vS u) (.slice (some (aS e 0)) 1 1) I1 fun J1 K1=>
 ∃Z0,Z0<L/\K J1 (wrap .i64 (k+1)) K1 Z0)
 (∃a1,a1<L/\K u (wrap .i64 (k+1)) e a1))
 (∃b1,b1<L/\K u (wrap .i64 (k+1)) e b1))
 (Wn d [vS y,vS u,vS z] 197 fun L1=>
 Fn Pz 187 #[.slice (some (aS d 0)) 3 3] L1
 (fun M1 N1=>∃c1,iS M1 c1 /\
 R (vS c1) N1)))
theorem U2(p0:Addr)(pa pb:Int)(H:@aak h R p0 pa pb):Fn Pz 108 #[.pointer (some p0),.agg ⟨[vI pa,vI pb]⟩] h R:=aY (A:=(.s .z (.s .z (.s (.s .z (.b (.l [(5,.one (.slice)),(7,.one (.slice)),(30,.one (.int .i64))] (.s .z (.s .z (.s (.b (.s .z (.s .z (.s .z (.s .z (AJ 7 69)))))) .z)))))) (.s (AJ 6 115) .z))))) H
def Zw(b:Sl):Prop:=
 CZ 0 0 h fun p e c f q=>
 sB (decide (c<(b.n:Int)))
 (NB b.a fun r s=>Ib c b.n /\
 ∃g,rS f ⟨r,s+c.toNat*1,none⟩ g /\
 sB (decide ((wrap .i64 (e+(g.n:Int)))<0))
 (False)
 (∃j,j<q/\p (wrap .i64 (e+(g.n:Int))) (wrap .i64 (c+1)) f j))
 (Fn Pz 232 #[vN,vI e] f
 (fun t u=>∃k,iS t k /\
 mF k 0 u fun v l d i w=>
 sB (decide (d<(b.n:Int)))
 (NB b.a fun x y=>Ib d b.n /\
 ∃m,rS i ⟨x,y+d.toNat*1,none⟩ m /\
 App Pz 197 197 (vS l) (vS m) i fun z A=>
 ∃o,o<w/\v z (wrap .i64 (d+1)) A o)
 (R (vS l) i)))
theorem Uc(p0:Sl)(H:@Zw h R p0):Fn Pz 187 #[vS p0] h R:=aY (A:=(.s .z (.s .z (.s (.s .z (.b (.l [(3,.one (.int .i64)),(11,.one (.int .i64))] .z))) (.s .z (.s (AJ 6 27) .z)))))) H
def Ze(b:Sl)(e:Int):Prop:=
 ∃g:Heap->Prop,
 (sB (decide (e<0))
 (False)
 (g h)) /\
 ∀(_:Env) (f:Heap),g f ->
 (sB (decide ((wrap .i64 (e-(wrap .i64 ((b.c:Int)-(b.n:Int)))))>0))
 (((0:Int)<=(0:Int)/\(0:Int)<=((b.c:Int):Int)/\((b.c:Int):Int)<=(b.c:Nat)) /\
 App Pz 197 3 (.slice (aQ b.a (Int.toNat 0) b.c 4) (Int.toNat (b.c:Int)-Int.toNat 0) (b.c-Int.toNat 0)) (vI (wrap .i64 (e-(wrap .i64 ((b.c:Int)-(b.n:Int)))))) f fun d i=>
 ((0:Int)<=(0:Int)/\(0:Int)<=((b.n:Int):Int)/\((b.n:Int):Int)<=(d.c:Nat)) /\
 R (.slice (aQ d.a (Int.toNat 0) d.c 4) (Int.toNat (b.n:Int)-Int.toNat 0) (d.c-Int.toNat 0)) i)
 (R (vS b) f))
theorem TS(p0:Sl)(p1:Int)(H:@Ze h R p0 p1):Fn Pz 232 #[vS p0,vI p1] h R:=aY (A:=(.s .z (.j [] .z .z))) H
def CY(l:Heap)(f:Addr)(u:Int)(g:Sl)(v:Heap)(w:Int)(x:Heap)(Z:Nat)(I7:Sl->Heap->Nat->Prop):Prop:=
 ∃m,rS l ⟨f.block,f.off+9,none⟩ m/\NB m.a fun b0 c0=>Ib u m.n/\∃h,rS l ⟨b0,c0+u.toNat*1,none⟩ h/\mF ⟨(aQ g.a (Int.toNat 0) g.c 1),(Int.toNat (wrap .i64 ((g.n:Int)-1))-Int.toNat 0),(g.c-Int.toNat 0)⟩ 0 l fun o i e b p=>sB (decide (e<(h.n:Int))) (NB h.a fun d0 e0=>Ib e h.n/\∃q,rI b ⟨d0,e0+e.toNat*1,none⟩ q/\∃r,rS b ⟨f.block,f.off+6,none⟩ r/\NB r.a fun f0 g0=>Ib q r.n/\∃y z A B C D,gR b ⟨f0,g0+q.toNat*6,none⟩ y z A B C D/\Wn b [vI 0,vI 0,vI 0,vI 0,vI 0,.bool false] 67 fun h0=>Wp h0 (aS b 0) 6 (L3 y z A B C D) fun E=>∃F G H I J K,gR E (aS b 0) F G H I J K/\Fn Pz 106 #[.pointer (some f),.agg ⟨(L3 F G H I J K)⟩] E (fun i0 s=>∃(L:Bool) (M N:Int) (O:Bool),i0=.tuple ⟨[.agg ⟨(L5 L M N)⟩,.bool O]⟩/\Wn s [.bool false,vI 0,vI 0] 188 fun j0=>Wp j0 (aS s 0) 3 (L5 L M N) fun d=>sB O (∃P,rS d (aS v 0) P/\∃Q R S,oP d (aS s 0) Q R S/\Wn d (L5 Q R S) 188 fun k0=>App Pz 193 193 (vS P) (.slice (some (aS d 0)) 1 1) k0 fun l0 m0=>Wp m0 (aS v 0) 1 [vS l0] fun n0=>∃T,T<p/\o i (wrap .i64 (e+1)) n0 T) (∃j,rI d (aS b 4) j/\(0<=(j:Int)/\(j:Int)<((w.toNat):Nat))/\∃U,rB d (aS x (0+j.toNat*1)) U/\sB (!U) (∃k,rI d (aS b 4) k/\(0<=(k:Int)/\(k:Int)<((w.toNat):Nat))/\Wp d (aS x (0+k.toNat*1)) 1 [.bool true] fun t=>∃V,rI t (aS b 4) V/\Wn t [vI V] 3 fun o0=>App Pz 102 102 (vS i) (.slice (some (aS t 0)) 1 1) o0 fun p0 q0=>∃W,W<p/\o p0 (wrap .i64 (e+1)) q0 W) (∃X,X<p/\o i (wrap .i64 (e+1)) d X)))) (∃Y,Y<Z/\I7 i b Y)
def aal(g:Addr)(j:Int):Prop:=
 Wn h [vN,.bool false] 195 fun i=>∃e,rI i ⟨g.block,g.off+3,none⟩ e/\Mk e e 1/\Wn i (ai Pz 4 (e.toNat)) 4 fun B=>(0<=(j:Int)/\(j:Int)<((e.toNat):Nat))/\Wp B (aS i (0+j.toNat*1)) 1 [.bool true] fun d=>Wn d [vN,.bool false] 195 fun l=>Wn l [vI j] 3 fun C=>QS ⟨(some (aS l 0)),1,1⟩ C fun m b f o=>sB (decide ((b.n:Int)>0)) (NB b.a fun D E=>(0<=((wrap .i64 ((b.n:Int)-1)):Int)/\((wrap .i64 ((b.n:Int)-1)):Int)<(b.n:Nat))/\∃k,rI f ⟨D,E+Int.toNat (wrap .i64 ((b.n:Int)-1))*1,none⟩ k/\((0:Int)<=(0:Int)/\(0:Int)<=((wrap .i64 ((b.n:Int)-1)):Int)/\((wrap .i64 ((b.n:Int)-1)):Int)<=(b.c:Nat))/\∃p,rB f (aS d 1) p/\sB p (Wp f (aS d 1) 1 [.bool true] fun F=>CY F g k b d e i o m) (∃q,rI f ⟨g.block,g.off+5,none⟩ q/\Wp f (aS d 1) 1 [.bool (k==q)] fun G=>CY G g k b d e i o m)) (∃r,rS f (aS d 0) r/\Fn Pz 184 #[vS r,.func (.func 185) #[] #[]] f (fun H s=>H=.tuple ⟨[]⟩/\∃t,rS s (aS d 0) t/\Fn Pz 186 #[vS t] s (fun I J=>∃u,iS I u/\Wp J (aS d 0) 1 [vS u] fun v=>∃(w:Sl) (x:Bool),a6 v (aS d 0) [vS w,.bool x]/\Wp v (aS h 0) 2 [vS w,.bool x] fun y=>∃(z:Sl) (A:Bool),a6 y (aS h 0) [vS z,.bool A]/\R (.agg ⟨[vS z,.bool A]⟩) y)))
theorem U3(p0:Addr)(p1:Int)(H:@aal h R p0 p1):Fn Pz 107 #[.pointer (some p0),vI p1] h R:=aY (A:=(.s .z (.s .z (.s .z (.s .z (.s (.s .z (.b (.l [(7,.one (.slice))] (.s .z (.b (.s .z (.s .z (.s .z (AJ 7 59))))))))) .z)))))) H
def W50(b:Addr):Prop:=
 ∃p,rI h ⟨b.block,b.off+4,none⟩ p /\
 ∃q,rI h ⟨b.block,b.off+4,none⟩ q /\
 Wn h [vI 0,vI 0] 97 fun r=>
 Sm [⟨b.block,b.off+4,none⟩,⟨b.block,b.off+4,none⟩] h r /\
 Wp r (aS h 0) 2 [vI p,vI q] fun j=>
 ∃(s t:Int),a6 j (aS h 0) [vI s,vI t] /\
 Wn j [vI s,vI t] 97 fun U=>
 bD Pz (Instr.makeMap 93 (none)) U
 (fun V u=>∃e:Option Nat,V=.map e /\
 ∃(v w:Int),a6 u (aS h 0) [vI v,vI w] /\
 bD Pz (Instr.mapUpdate 93 (.map e) (.agg ⟨[vI v,vI w]⟩) vN) u (fun _ W=>
 mF ⟨(some (aS j 0)),1,1⟩ 0 W fun X c f k Y=>
 sB (decide (f<(c.n:Int)))
 (NB c.a fun Z a0=>Ib f c.n /\
 ∃(x y:Int),a6 k ⟨Z,a0+f.toNat*2,none⟩ [vI x,vI y] /\
 Fn Pz 108 #[.pointer (some b),.agg ⟨[vI x,vI y]⟩] k
 (fun b0 z=>∃g,iS b0 g /\
 NB c.a fun c0 d0=>Ib f c.n /\
 ∃(A B:Int),a6 z ⟨c0,d0+f.toNat*2,none⟩ [vI A,vI B] /\
 bD Pz (Instr.mapUpdate 93 (.map e) (.agg ⟨[vI A,vI B]⟩) (vS g)) z (fun _ e0=>
 mF c 0 e0 fun C l i d D=>
 sB (decide (i<(g.n:Int)))
 (NB g.a fun f0 g0=>Ib i g.n /\
 ∃E F G H,Ft d ⟨f0,g0+i.toNat*4,none⟩ E F G H /\
 Wn d [vI 0,vI 0,vI 0,vI 0] 200 fun h0=>
 Wp h0 (aS d 0) 4 (L6 E F G H) fun I=>
 ∃(J K:Int),a6 I (aS d 2) [vI J,vI K] /\
 bD Pz (Instr.lookup 93 (.map e) (.agg ⟨[vI J,vI K]⟩) true) I
 (fun i0 m=>∃(j0:Sl) (L:Bool),i0=.tuple ⟨[vS j0,.bool L]⟩ /\
 sB (!L)
 (∃(M N:Int),a6 m (aS d 2) [vI M,vI N] /\
 bD Pz (Instr.mapUpdate 93 (.map e) (.agg ⟨[vI M,vI N]⟩) vN) m (fun _ o=>
 ∃(O P:Int),a6 o (aS d 2) [vI O,vI P] /\
 Wn o [vI O,vI P] 97 fun k0=>
 App Pz 92 92 (vS l) (.slice (some (aS o 0)) 1 1) k0 fun l0 m0=>
 ∃Q,Q<D/\C l0 (wrap .i64 (i+1)) m0 Q))
 (∃S,S<D/\C l (wrap .i64 (i+1)) m S)))
 (∃T,T<Y/\X l (wrap .i64 (f+1)) d T))))
 (R (.tuple ⟨[vS c,.map e]⟩) k)))
theorem abk(p0:Addr)(H:@W50 h R p0):Fn Pz 50 #[.pointer (some p0)] h R:=aY (A:=(.s .z (.s .z (.s .z (.s .z (.s (.s .z (.b (.l [(5,.one (.slice)),(7,.one (.int .i64))] (.s .z (.s (.b (.s .z (.s .z (AJ 5 49)))) .z))))) .z)))))) H
def ZP(b:Addr)(d pa pb:Int):Prop:=
 Wn h [vI pa,vI pb] 97 fun a=>
 sB (d==1)
 (∃(e f:Int),a6 a (aS h 0) [vI e,vI f] /\
 Fn Pz 170 #[.pointer (some b),.agg ⟨[vI e,vI f]⟩] a
 (fun y g=>∃(i:Bool) (j k:Int) (l:Bool),y=.tuple ⟨[.agg ⟨(L5 i j k)⟩,.bool l]⟩ /\
 Wn g [.bool false,vI 0,vI 0] 188 fun z=>
 Wp z (aS g 0) 3 (L5 i j k) fun A=>
 R (.tuple ⟨[vI 0,.bool l]⟩) A))
 (sB (d==3)
 (∃(m n:Int),a6 a (aS h 0) [vI m,vI n] /\
 Fn Pz 151 #[.pointer (some b),.agg ⟨[vI m,vI n]⟩] a
 (fun B C=>∃o,iB B o /\
 R (.tuple ⟨[vI 0,.bool o]⟩) C))
 (∃(p q:Int),a6 a (aS h 0) [vI p,vI q] /\
 Fn Pz 152 #[.pointer (some b),.agg ⟨[vI p,vI q]⟩] a
 (fun D c=>∃(r s t u:Int) (v:Bool),D=.tuple ⟨[.agg ⟨(L6 r s t u)⟩,.bool v]⟩ /\
 Wn c [vI 0,vI 0,vI 0,vI 0] 276 fun E=>
 Wp E (aS c 0) 4 (L6 r s t u) fun w=>
 ∃x,rI w (aS c 1) x /\
 R (.tuple ⟨[vI x,.bool v]⟩) w)))
theorem Uw(p0:Addr)(p1 pa pb:Int)(H:@ZP h R p0 p1 pa pb):Fn Pz 166 #[.pointer (some p0),vI p1,.agg ⟨[vI pa,vI pb]⟩] h R:=aY (A:=.z) H
def Jr(a g h:Heap)(i:Nat)(j:Int->Heap->Nat->Prop)(k:Int):Prop:=
 ∃b c d e,Ft a (aS g 0) b c d e/\Wp a (aS h 0) 4 (L6 b c d e) fun l=>∃f,f<i/\j (wrap .i64 (k+1)) l f
def ZY(g:Addr)(pa pb:Int):Prop:=
 Wn h [vI pa,vI pb] 97 fun m=>Wn m [vI 0,vI 0,vI 0,vI 0] 276 fun c=>Wn c [vI 0,vI 0,vI 0,vI 0] 276 fun i=>∃o,rS i ⟨g.block,g.off+14,none⟩ o/\∃p,rI i (aS h 0) p/\NB o.a fun Q S=>Ib p o.n/\∃j,rS i ⟨Q,S+p.toNat*1,none⟩ j/\QI 0 i fun k d b l=>sB (decide (d<(j.n:Int))) (NB j.a fun T U=>Ib d j.n/\∃t u v w,Ft b ⟨T,U+d.toNat*4,none⟩ t u v w/\Wn b [vI 0,vI 0,vI 0,vI 0] 276 fun V=>Wp V (aS b 0) 4 (L6 t u v w) fun f=>∃q,rS f ⟨g.block,g.off+10,none⟩ q/\∃r,rI f (aS h 1) r/\NB q.a fun W X=>Ib r q.n/\∃(x:Sl) (y:Bool),a6 f ⟨W,X+r.toNat*2,none⟩ [vS x,.bool y]/\∃z,rI f (aS b 2) z/\∃A,rI f (aS b (2+1)) A/\Fn Pz 214 #[.agg ⟨[vS x,.bool y]⟩,.agg ⟨[.bool false,vI z,vI A]⟩] f (fun Y e=>∃B,iB Y B/\sB B (∃C,rI e (aS c 1) C/\sB (C==0) (Jr e b c l k d) (∃D,rI e (aS b 1) D/\∃E,rI e (aS c 1) E/\sB (decide (D<E)) (Jr e b c l k d) (∃F,F<l/\k (wrap .i64 (d+1)) e F))) (∃G,G<l/\k (wrap .i64 (d+1)) e G))) (∃H I J K,Ft b (aS c 0) H I J K/\∃L,rI b (aS c 1) L/\Wp b (aS m 0) 4 (L6 H I J K) fun s=>Sm [(aS c 1)] b s/\∃M N O P,Ft s (aS m 0) M N O P/\R (.tuple ⟨[.agg ⟨(L6 M N O P)⟩,.bool (decide (L>0))]⟩) s)
theorem UF(p0:Addr)(pa pb:Int)(H:@ZY h R p0 pa pb):Fn Pz 152 #[.pointer (some p0),.agg ⟨[vI pa,vI pb]⟩] h R:=aY (A:=(.s .z (.s .z (.s (AI 18) .z)))) H
def ZO(g:Sl)(q:Value):Prop:=
 QI 0 h fun o b f p=>
 sB (decide (b<(g.n:Int)))
 (NB g.a fun r s=>Ib b g.n /\
 ∃i j k l,Ft f ⟨r,s+b.toNat*4,none⟩ i j k l /\
 match q with | .func (.func g12) fa13 fc14=>(bif aJ Pz g12 then Fn Pz g12 (fa13 ++ #[.agg ⟨(L6 i j k l)⟩]++fc14) f
 (fun m c=>∃d,iB m d /\
 sB d
 (R (vI b) c)
 (∃e,e<p/\o (wrap .i64 (b+1)) c e)) else vu Pz g12 (fa13 ++ #[.agg ⟨(L6 i j k l)⟩]++fc14) f
 (fun m c=>∃d,iB m d /\
 sB d
 (R (vI b) c)
 (∃e,e<p/\o (wrap .i64 (b+1)) c e))) | _=>False)
 (R (vI (-1)) f)
theorem Uv(p0:Sl)(p1:Value)(H:@ZO h R p0 p1):Fn Pz 167 #[vS p0,p1] h R:=aY (A:=(.s .z (.s (AI 8) .z))) H
def ZN(pa pb pc pd:Int)(b c:Addr):Prop:=
 Wn h (L6 pa pb pc pd) 200 fun a=>
 ∃f g i j,Ft a (aS h 0) f g i j /\
 ∃k:Option Nat,hc a b=some (.map k) /\
 ∃(l m:Int),a6 a (aS h 2) [vI l,vI m] /\
 ∃n:Option Nat,hc a b=some (.map n) /\
 ∃(o p:Int),a6 a c [vI o,vI p] /\
 Fn Pz 169 #[.agg ⟨(L6 f g i j)⟩] a
 (fun u d=>∃q,iI u q /\
 Sm [c,b,(aS h 2),b] a d /\
 Fn Pz 165 #[.map k,.agg ⟨[vI l,vI m]⟩] d
 (fun v e=>∃r,iI v r /\
 Sm [c,b,(aS h 0)] d e /\
 Fn Pz 165 #[.map n,.agg ⟨[vI o,vI p]⟩] e
 (fun w s=>∃t,iI w t /\
 Sm [(aS h 2),b,(aS h 0)] e s /\
 R (.bool ((wrap .i64 (q+r))==t)) s)))
theorem Uu(pa pb pc pd:Int)(c0 c1:Addr)(H:@ZN h R pa pb pc pd c0 c1):Fn Pz 168 #[.agg ⟨(L6 pa pb pc pd)⟩,.pointer (some c0),.pointer (some c1)] h R:=aY (A:=.z) H
def CS(e:Heap)(y:Addr)(h:Heap)(d:Int)(c:Addr)(R:Value->Heap->Prop):Prop:=
 ∃k:Option Nat,hc e y=some (.map k)/\∃(l m:Int),a6 e (aS h 0) [vI l,vI m]/\bD Pz (Instr.mapUpdate 293 (.map k) (.agg ⟨[vI l,vI m]⟩) (vI d)) e (fun _ z=>∃f:Heap->Nat->Prop,(∃A,f z A)/\∀(_:Env) (b:Heap) (o:Nat),f b o->(∃p,rS b c p/\sB (decide ((p.n:Int)<=d)) (∃q,rS b c q/\Wn b [vN] 92 fun B=>App Pz 350 350 (vS q) (.slice (some (aS b 0)) 1 1) B fun C D=>Wp D c 1 [vS C] fun E=>∃r,r<o/\f E r) (∃g,rS b c g/\∃i,rS b c i/\NB i.a fun s t=>Ib d i.n/\∃u,rS b ⟨s,t+d.toNat*1,none⟩ u/\∃(v w:Int),a6 b (aS h 0) [vI v,vI w]/\Wn b [vI v,vI w] 97 fun j=>Sm [⟨s,t+d.toNat*1,none⟩,c,c] b j/\App Pz 92 92 (vS u) (.slice (some (aS b 0)) 1 1) j fun F x=>Sm [c] j x/\NB g.a fun G H=>Ib d g.n/\Wp x ⟨G,H+d.toNat*1,none⟩ 1 [vS F] fun I=>R (.tuple ⟨[]⟩) I)))
def Zj(pa pb a:Int)(b e:Addr):Prop:=
 Wn h [vI pa,vI pb] 97 fun c=>∃f:Option Nat,hc c b=some (.map f)/\∃(g i:Int),a6 c (aS h 0) [vI g,vI i]/\bD Pz (Instr.lookup 293 (.map f) (.agg ⟨[vI g,vI i]⟩) true) c (fun l d=>∃(j:Int) (k:Bool),l=.tuple ⟨[vI j,.bool k]⟩/\sB k (sB (decide (j<=a)) (R (.tuple ⟨[]⟩) d) (CS d b h a e R)) (CS d b h a e R))
theorem TX(pa pb p1:Int)(c0 c1:Addr)(H:@Zj h R pa pb p1 c0 c1):Fn Pz 226 #[.agg ⟨[vI pa,vI pb]⟩,vI p1,.pointer (some c0),.pointer (some c1)] h R:=aY (A:=(.s .z (.s .z (.s .z (.s (.b (.l [] .z)) .z))))) H
def ZR(p0:Addr)(p1:Int)(m:Sl)(p3:Option Nat):Prop:=
 bD Pz (Instr.makeMap 293 (some (vI (m.n:Int)))) h
 (fun v1 g=>∃B:Option Nat,v1=.map B /\
 Wn g [.map none] 293 fun h4=>
 Wp h4 (aS g 0) 1 [.map B] fun h5=>
 bD Pz (Instr.makeMap 93 (none)) h5
 (fun v6 i=>∃o:Option Nat,v6=.map o /\
 Wn i [vN] 350 fun h9=>
 QI 0 h9 fun C k c D=>
 sB (decide (k<(m.n:Int)))
 (NB m.a fun Q0 R0=>Ib k m.n /\
 ∃(E F:Int),a6 c ⟨Q0,R0+k.toNat*2,none⟩ [vI E,vI F] /\
 Wn c [vI 0,vI 0] 97 fun S0=>
 Wp S0 (aS c 0) 2 [vI E,vI F] fun G=>
 ∃(H I:Int),a6 G (aS c 0) [vI H,vI I] /\
 bD Pz (Instr.lookup 93 (.map p3) (.agg ⟨[vI H,vI I]⟩) false) G
 (fun T0 U0=>∃p,iS T0 p /\
 QI 0 U0 fun V0 q d W0=>
 sB (decide (q<(p.n:Int)))
 (NB p.a fun X0 Y0=>Ib q p.n /\
 ∃J K L M,Ft d ⟨X0,Y0+q.toNat*4,none⟩ J K L M /\
 Wn d [vI 0,vI 0,vI 0,vI 0] 200 fun Z0=>
 Wp Z0 (aS d 0) 4 (L6 J K L M) fun j=>
 ∃(N O:Int),a6 j (aS d 2) [vI N,vI O] /\
 ∃P,rI j (aS d 0) P /\
 ∃Q,rI j (aS d 1) Q /\
 ∃(S T:Int),a6 j (aS c 0) [vI S,vI T] /\
 Wn j (L6 P Q S T) 200 fun a1=>
 bD Pz (Instr.mapEntry 93 (.map o) (.agg ⟨[vI N,vI O]⟩)) a1 (fun b1 c1=>
 ∃(U:Sl) (V:Int),b1=.tuple ⟨[vS U,vI V]⟩ /\
 App Pz 197 197 (vS U) (.slice (some (aS j 0)) 1 1) c1 fun d1 e1=>
 bD Pz (Instr.entryStore 93 (.map o) (vI V) (vS d1)) e1 (fun _ f1=>
 ∃W,W<W0/\V0 (wrap .i64 (q+1)) f1 W)))
 (∃(X Y:Int),a6 d (aS c 0) [vI X,vI Y] /\
 Fn Pz 166 #[.pointer (some p0),vI p1,.agg ⟨[vI X,vI Y]⟩] d
 (fun g1 v=>∃(Z:Int) (a0:Bool),g1=.tuple ⟨[vI Z,.bool a0]⟩ /\
 sB a0
 (∃(b0 c0:Int),a6 v (aS c 0) [vI b0,vI c0] /\
 Fn Pz 226 #[.agg ⟨[vI b0,vI c0]⟩,vI Z,.pointer (some (aS g 0)),.pointer (some (aS i 0))] v
 (fun h1 i1=>h1=.tuple ⟨[]⟩ /\
 ∃d0,d0<D/\C (wrap .i64 (k+1)) i1 d0))
 (∃e0,e0<D/\C (wrap .i64 (k+1)) v e0)))))
 (QI 0 c fun j1 e r k1=>
 ∃f0,rS r (aS i 0) f0 /\
 sB (decide (e<(f0.n:Int)))
 (QI 0 r fun g0 l b h0=>
 ∃w,rS b (aS i 0) w /\
 NB w.a fun l1 m1=>Ib e w.n /\
 ∃i0,rS b ⟨l1,m1+e.toNat*1,none⟩ i0 /\
 sB (decide (l<(i0.n:Int)))
 (∃x,rS b (aS i 0) x /\
 NB x.a fun n1 o1=>Ib e x.n /\
 ∃y,rS b ⟨n1,o1+e.toNat*1,none⟩ y /\
 NB y.a fun p1 q1=>Ib l y.n /\
 ∃(j0 k0:Int),a6 b ⟨p1,q1+l.toNat*2,none⟩ [vI j0,vI k0] /\
 Wn b [vI 0,vI 0] 97 fun r1=>
 Wp r1 (aS b 0) 2 [vI j0,vI k0] fun z=>
 ∃l0:Option Nat,hc z (aS g 0)=some (.map l0) /\
 ∃(m0 n0:Int),a6 z (aS b 0) [vI m0,vI n0] /\
 bD Pz (Instr.lookup 293 (.map l0) (.agg ⟨[vI m0,vI n0]⟩) false) z
 (fun s1 A=>∃o0,iI s1 o0 /\
 sB (o0 != e)
 (∃p0,p0<h0/\g0 (wrap .i64 (l+1)) A p0)
 (∃(q0 r0:Int),a6 A (aS b 0) [vI q0,vI r0] /\
 bD Pz (Instr.lookup 93 (.map o) (.agg ⟨[vI q0,vI r0]⟩) false) A
 (fun t1 u1=>∃s,iS t1 s /\
 QI 0 u1 fun v1 t f w1=>
 sB (decide (t<(s.n:Int)))
 (NB s.a fun x1 y1=>Ib t s.n /\
 ∃s0 t0 u0 v0,Ft f ⟨x1,y1+t.toNat*4,none⟩ s0 t0 u0 v0 /\
 Wn f [vI 0,vI 0,vI 0,vI 0] 200 fun z1=>
 Wp z1 (aS f 0) 4 (L6 s0 t0 u0 v0) fun u=>
 ∃(w0 x0:Int),a6 u (aS f 2) [vI w0,vI x0] /\
 ∃y0 z0 A0 B0,Ft u (aS f 0) y0 z0 A0 B0 /\
 Fn Pz 169 #[.agg ⟨(L6 y0 z0 A0 B0)⟩] u
 (fun A1 C0=>∃D0,iI A1 D0 /\
 Sm [(aS f 2)] u C0 /\
 Fn Pz 226 #[.agg ⟨[vI w0,vI x0]⟩,vI (wrap .i64 (e+D0)),.pointer (some (aS g 0)),.pointer (some (aS i 0))] C0
 (fun B1 C1=>B1=.tuple ⟨[]⟩ /\
 ∃E0,E0<w1/\v1 (wrap .i64 (t+1)) C1 E0)))
 (∃F0,F0<h0/\g0 (wrap .i64 (l+1)) f F0)))))
 (∃G0,G0<k1/\j1 (wrap .i64 (e+1)) b G0))
 (∃H0:Option Nat,hc r (aS g 0)=some (.map H0) /\
 R (.map H0) r))))
theorem Uy(p0:Addr)(p1:Int)(p2:Sl)(p3:Option Nat)(H:@ZR h R p0 p1 p2 p3):Fn Pz 164 #[.pointer (some p0),vI p1,vS p2,.map p3] h R:=aY (A:=(.s .z (.s .z (.s .z (.s .z (.s .z (.s (.s .z (.b (.l [(31,.one (.int .i64))] (.s .z (.s .z (.s (.b (.s .z (.s (AI 39) .z))) .z)))))) (.s (.s .z (.b (.l [(19,.one (.int .i64))] (.s .z (.s (.b (.s .z (.b (.l [(20,.one (.int .i64))] (.s .z (.s (.b (.s .z (.s .z (AI 102)))) .z)))))) .z))))) .z)))))))) H
def Z6(b:Sl)(c:Value):Prop:=
 Fn Pz 71 #[vS b,c] h
 (fun d e=>∃a,iI d a /\
 R (.bool (decide (a>=0))) e)
theorem UL(p0:Sl)(p1:Value)(H:@Z6 h R p0 p1):Fn Pz 131 #[vS p0,p1] h R:=aY (A:=.z) H
def Z5(pa pb:Int)(pc:Sl)(f:Addr):Prop:=
 Wn h (L7 pa pb pc) 134 fun a=>
 ∃(b c:Int),a6 a (aS h 0) [vI b,vI c] /\
 ∃(d e:Int),a6 a f [vI d,vI e] /\
 R (.bool ((b==d)&&((c==e)&&true))) a
theorem UK(pa pb:Int)(pc:Sl)(c0:Addr)(H:@Z5 h R pa pb pc c0):Fn Pz 132 #[.agg ⟨(L7 pa pb pc)⟩,.pointer (some c0)] h R:=aY (A:=.z) H
def W71(g:Sl)(p:Value):Prop:=
 QI 0 h fun m b f o=>
 sB (decide (b<(g.n:Int)))
 (NB g.a fun q r=>Ib b g.n /\
 ∃i j k,aL7 f ⟨q,r+b.toNat*3,none⟩ i j k /\
 match p with | .func (.func g11) fa12 fc13=>(bif aJ Pz g11 then Fn Pz g11 (fa12 ++ #[.agg ⟨(L7 i j k)⟩]++fc13) f
 (fun l c=>∃d,iB l d /\
 sB d
 (R (vI b) c)
 (∃e,e<o/\m (wrap .i64 (b+1)) c e)) else vu Pz g11 (fa12 ++ #[.agg ⟨(L7 i j k)⟩]++fc13) f
 (fun l c=>∃d,iB l d /\
 sB d
 (R (vI b) c)
 (∃e,e<o/\m (wrap .i64 (b+1)) c e))) | _=>False)
 (R (vI (-1)) f)
theorem aba(p0:Sl)(p1:Value)(H:@W71 h R p0 p1):Fn Pz 71 #[vS p0,p1] h R:=aY (A:=(.s .z (.s (AI 8) .z))) H
def W72(pa pb:Int)(pc:Sl)(f:Addr):Prop:=
 Wn h (L7 pa pb pc) 134 fun a=>
 ∃(b c:Int),a6 a (aS h 0) [vI b,vI c] /\
 ∃(d e:Int),a6 a f [vI d,vI e] /\
 R (.bool ((b==d)&&((c==e)&&true))) a
theorem aaZ(pa pb:Int)(pc:Sl)(c0:Addr)(H:@W72 h R pa pb pc c0):Fn Pz 72 #[.agg ⟨(L7 pa pb pc)⟩,.pointer (some c0)] h R:=aY (A:=.z) H
def Z4(b:Sl):Prop:=
 CZ 0 (wrap .i64 ((b.n:Int)-1)) h fun o c d e p=>
 sB (decide (c<d))
 (NB b.a fun q r=>Ib d b.n /\
 ∃f g i,gB e ⟨q,r+d.toNat*3,none⟩ f g i /\
 NB b.a fun s t=>Ib c b.n /\
 ∃j k l,gB e ⟨s,t+c.toNat*3,none⟩ j k l /\
 NB b.a fun u v=>Ib c b.n /\
 Wp e ⟨u,v+c.toNat*3,none⟩ 3 (L2 f g i) fun w=>
 NB b.a fun x y=>Ib d b.n /\
 Wp w ⟨x,y+d.toNat*3,none⟩ 3 (L2 j k l) fun z=>
 ∃m,m<p/\o (wrap .i64 (c+1)) (wrap .i64 (d-1)) z m)
 (R (.tuple ⟨[]⟩) e)
theorem UJ(p0:Sl)(H:@Z4 h R p0):Fn Pz 133 #[vS p0] h R:=aY (A:=(.s .z (.b (.l [(2,.one (.int .i64)),(3,.one (.int .i64))] .z)))) H
def W31(pa:ByteArray)(pb pc:Sl)(pd pe pf:Int)(pg ph:Sl)(y:Int):Prop:=
 Wn h (L0 pa pb pc pd pe pf pg ph) 27 fun g=>
 ∃i j k l m o p q,cS g (aS h 0) i j k l m o p q /\
 Fn Pz 68 #[.agg ⟨(L0 i j k l m o p q)⟩,vI y] g
 (fun z A=>∃(c:Sl) (r:Int),z=.tuple ⟨[vS c,vI r]⟩ /\
 mF ⟨none,0,0⟩ 0 A fun B e d b C=>
 sB (decide (d<(c.n:Int)))
 (NB c.a fun D E=>Ib d c.n /\
 ∃s t u,aL7 b ⟨D,E+d.toNat*3,none⟩ s t u /\
 Wn b [vI 0,vI 0,vN] 134 fun F=>
 Wp F (aS b 0) 3 (L7 s t u) fun f=>
 ∃(v w:Int),a6 f (aS b 0) [vI v,vI w] /\
 Wn f [vI v,vI w] 72 fun G=>
 App Pz 68 68 (vS e) (.slice (some (aS f 0)) 1 1) G fun H I=>
 ∃x,x<C/\B H (wrap .i64 (d+1)) I x)
 (Fn Pz 69 #[vS e,.func (.func 70) #[] #[]] b
 (fun J K=>J=.tuple ⟨[]⟩ /\
 R (.tuple ⟨[vS e,vI r]⟩) K)))
theorem aby(pa:ByteArray)(pb pc:Sl)(pd pe pf:Int)(pg ph:Sl)(p1:Int)(H:@W31 h R pa pb pc pd pe pf pg ph p1):Fn Pz 31 #[.agg ⟨(L0 pa pb pc pd pe pf pg ph)⟩,vI p1] h R:=aY (A:=(.s .z (.s .z (.s .z (.s (AJ 8 19) .z))))) H
def W32(pa:ByteArray)(pb pc:Sl)(pd pe pf:Int)(pg ph:Sl)(t pi pj:Int):Prop:=
 Wn h (L0 pa pb pc pd pe pf pg ph) 27 fun f=>
 Wn f [vI pi,vI pj] 72 fun g=>
 ∃i j k l m o p q,cS g (aS h 0) i j k l m o p q /\
 Fn Pz 68 #[.agg ⟨(L0 i j k l m o p q)⟩,vI t] g
 (fun u r=>∃(b:Sl) (d:Int),u=.tuple ⟨[vS b,vI d]⟩ /\
 sB (d != 0)
 (R (.tuple ⟨[vN,vI d]⟩) r)
 (Fn Pz 71 #[vS b,.func (.func 72) #[] #[.pointer (some (aS f 0))]] r
 (fun v e=>∃c,iI v c /\
 sB (decide (c<0))
 (R (.tuple ⟨[vN,vI 8]⟩) e)
 (NB b.a fun w x=>Ib c b.n /\
 ∃s,rS e ⟨w,x+c.toNat*3+2,none⟩ s /\
 R (.tuple ⟨[vS s,vI 0]⟩) e))))
theorem abx(pa:ByteArray)(pb pc:Sl)(pd pe pf:Int)(pg ph:Sl)(p1 pi pj:Int)(H:@W32 h R pa pb pc pd pe pf pg ph p1 pi pj):Fn Pz 32 #[.agg ⟨(L0 pa pb pc pd pe pf pg ph)⟩,vI p1,.agg ⟨[vI pi,vI pj]⟩] h R:=aY (A:=.z) H
def RO(q:Heap)(r:Int)(s:Heap)(b:Sl)(t:Heap)(u:Sl)(v:Sl->Heap->Prop):Prop:=
 mF ⟨(some (aS q 0)),1,1⟩ r s fun w e c d x=>
 NB b.a fun y z=>Ib c b.n /\
 ∃g,rI d ⟨y,z+c.toNat*7+3,none⟩ g /\
 sB (decide (g>=0))
 (NB b.a fun A B=>Ib c b.n /\
 ∃h i j,gB d ⟨A,B+c.toNat*7+4,none⟩ h i j /\
 Wn d (L2 h i j) 65 fun C=>
 App Pz 30 30 (vS e) (.slice (some (aS d 0)) 1 1) C fun D k=>
 NB b.a fun E F=>Ib c b.n /\
 ∃l,rI k ⟨E,F+c.toNat*7+3,none⟩ l /\
 ∃m,m<x/\w D l k m)
 (Fn Pz 133 #[vS e] d
 (fun G f=>G=.tuple ⟨[]⟩ /\
 ∃(o p:Int),a6 f (aS t 0) [vI o,vI p] /\
 Wn f (L7 o p e) 134 fun H=>
 App Pz 130 130 (vS u) (.slice (some (aS f 0)) 1 1) H fun I J=>
 v I J))
def RM(a q b c:Heap)(d:Sl)(W r:Int)(i:Sl)(s:Option Nat)(t:Nat)(u:Sl->Sl->Int->Heap->Nat->Prop)(v:Int):Prop:=
 ∃e:Sl->Heap->Prop,
 (∃w:Int,hc a (aS q 1)=some (.int .u8 w) /\
 ∃j,rI a (aS b 1) j /\
 0<=j/\sB ((sF .u8 (r4 .u8 w j) 1)==1)
 (∃x:Int,hc a (aS c 1)=some (.int .u8 x) /\
 ∃k,rI a (aS b (1+1)) k /\
 0<=k/\Wp a (aS c 1) 1 [.int .u8 (EY .u8 x (eD .u8 1 k))] fun X=>
 e d X)
 (∃y,rI a (aS b (1+1)) y /\
 sB (y==W)
 (∃z:Int,hc a (aS q 2)=some (.int .u8 z) /\
 ∃l,rI a (aS b 1) l /\
 0<=l/\sB ((sF .u8 (r4 .u8 z l) 1)==0)
 (∃A:Int,hc a (aS c 2)=some (.int .u8 A) /\
 ∃m,rI a (aS b 1) m /\
 0<=m/\Wp a (aS c 2) 1 [.int .u8 (EY .u8 A (eD .u8 1 m))] fun f=>
 ∃B,rI f (aS b 1) B /\
 ∃C,rI f (aS b (1+2)) C /\
 Wn f [vI 0,vI 0] 72 fun Y=>
 Wp Y (aS f 0) 2 [vI B,vI C] fun Z=>
 Fn Pz 131 #[vS d,.func (.func 132) #[] #[.pointer (some (aS f 0))]] Z
 (fun a0 g=>∃D,iB a0 D /\
 sB (!D)
 (∃E F G,gB g (aS b 1) E F G /\
 Wn g (L2 E F G) 65 fun b0=>
 RO g r b0 i f d e)
 (e d g)))
 (e d a))
 (e d a))) /\
 ∀(_:Env) (n:Sl) (o:Heap),e n o ->
 (∃(H I J:Int),a6 o (aS c 0) [vI H,.int .u8 I,.int .u8 J] /\
 bD Pz (Instr.lookup 246 (.map s) (.agg ⟨[vI H,.int .u8 I,.int .u8 J]⟩) false) o
 (fun c0 p=>∃K,iB c0 K /\
 sB (!K)
 (∃(L M N:Int),a6 p (aS c 0) [vI L,.int .u8 M,.int .u8 N] /\
 bD Pz (Instr.mapUpdate 246 (.map s) (.agg ⟨[vI L,.int .u8 M,.int .u8 N]⟩) (.bool true)) p (fun _ h=>
 ∃(O P Q:Int),a6 h (aS c 0) [vI O,.int .u8 P,.int .u8 Q] /\
 ∃R S T,gB h (aS b 1) R S T /\
 Wn h [vI O,.int .u8 P,.int .u8 Q,vI r,vI R,vI S,vI T] 248 fun d0=>
 App Pz 249 249 (vS i) (.slice (some (aS h 0)) 1 1) d0 fun e0 f0=>
 ∃U,U<t/\u e0 n (wrap .i64 (v+1)) f0 U))
 (∃V,V<t/\u i n (wrap .i64 (v+1)) p V)))
def W68(pa:ByteArray)(pb pc:Sl)(pd pe pf:Int)(pg ph:Sl)(g:Int):Prop:=
 Wn h (L0 pa pb pc pd pe pf pg ph) 27 fun D=>
 ∃E F G H I J K L,cS D (aS h 0) E F G H I J K L /\
 Fn Pz 40 #[.agg ⟨(L0 E F G H I J K L)⟩] D
 (fun I0 b=>∃M,iB I0 M /\
 sB (!M)
 (R (.tuple ⟨[vN,vI 1]⟩) b)
 (sB (decide (g<0))
 (R (.tuple ⟨[vN,vI 2]⟩) b)
 (∃N,rS b (aS h 6) N /\
 sB (decide (g>=(N.n:Int)))
 (R (.tuple ⟨[vN,vI 2]⟩) b)
 (∃e,rI b (aS h 3) e /\
 Mk e e 24/\Wn b (ai Pz 24 (e.toNat)) 24 fun O=>
 ∃p,rS O (aS h 6) p /\
 QI 0 O fun J0 q d K0=>
 sB (decide (q<(p.n:Int)))
 (NB p.a fun M0 N0=>Ib q p.n /\
 ∃P Q S T U V,gR d ⟨M0,N0+q.toNat*6,none⟩ P Q S T U V /\
 Wn d [vI 0,vI 0,vI 0,vI 0,vI 0,.bool false] 67 fun O0=>
 Wp O0 (aS d 0) 6 (L3 P Q S T U V) fun i=>
 ∃r,rI i (aS d 0) r /\
 ∃l,rI i (aS d 0) l /\
 (0<=(l:Int)/\(l:Int)<((e.toNat):Nat)) /\
 ∃W,rS i (aS b (0+l.toNat*1)) W /\
 ∃X Y Z a0 b0 c0,gR i (aS d 0) X Y Z a0 b0 c0 /\
 Wn i (L3 X Y Z a0 b0 c0) 67 fun x=>
 Sm [(aS b (0+l.toNat*1)),(aS d 0),(aS d 0)] i x /\
 App Pz 24 24 (vS W) (.slice (some (aS i 0)) 1 1) x fun P0 d0=>
 Sm [(aS d 0)] x d0 /\
 (0<=(r:Int)/\(r:Int)<((e.toNat):Nat)) /\
 Wp d0 (aS b (0+r.toNat*1)) 1 [vS P0] fun Q0=>
 ∃e0,e0<K0/\J0 (wrap .i64 (q+1)) Q0 e0)
 (QI 0 d fun R0 m c S0=>
 sB (decide (m<((e.toNat):Int)))
 ((0<=(m:Int)/\(m:Int)<((e.toNat):Nat)) /\
 ∃f0,rS c (aS b (0+m.toNat*1)) f0 /\
 Fn Pz 128 #[vS f0,.func (.func 129) #[] #[]] c
 (fun T0 U0=>T0=.tuple ⟨[]⟩ /\
 ∃g0,g0<S0/\R0 (wrap .i64 (m+1)) U0 g0))
 (∃y,rS c (aS h 6) y /\
 NB y.a fun V0 W0=>Ib g y.n /\
 ∃s,rI c ⟨V0,W0+g.toNat*6+1+1,none⟩ s /\
 ∃z,rS c (aS h 6) z /\
 NB z.a fun h0 i0=>Ib g z.n /\
 ∃j0,rI c ⟨h0,i0+g.toNat*6+4,none⟩ j0 /\
 0<=s/\Wn c [vI 0,.int .u8 0,.int .u8 0] 245 fun k0=>
 Sm [⟨h0,i0+g.toNat*6+4,none⟩,(aS h 6)] c k0 /\
 Wp k0 (aS c 0) 3 [vI j0,.int .u8 (eD .u8 1 s),.int .u8 0] fun X0=>
 bD Pz (Instr.makeMap 246 (none)) X0
 (fun Y0 l0=>∃A:Option Nat,Y0=.map A /\
 ∃(m0 n0 o0:Int),a6 l0 (aS c 0) [vI m0,.int .u8 n0,.int .u8 o0] /\
 bD Pz (Instr.mapUpdate 246 (.map A) (.agg ⟨[vI m0,.int .u8 n0,.int .u8 o0]⟩) (.bool true)) l0 (fun _ B=>
 ∃(p0 q0 r0:Int),a6 B (aS c 0) [vI p0,.int .u8 q0,.int .u8 r0] /\
 Wn B [vI p0,.int .u8 q0,.int .u8 r0,vI (-1),vI 0,vI 0,vI 0] 248 fun Z0=>
 Au ⟨(some (aS B 0)),1,1⟩ ⟨none,0,0⟩ 0 Z0 fun a1 t s0 o f b1=>
 sB (decide (o<(t.n:Int)))
 (NB t.a fun c1 d1=>Ib o t.n /\
 ∃(t0 u0 v0:Int),a6 f ⟨c1,d1+o.toNat*7,none⟩ [vI t0,.int .u8 u0,.int .u8 v0] /\
 Wn f [vI 0,.int .u8 0,.int .u8 0] 245 fun e1=>
 Wp e1 (aS f 0) 3 [vI t0,.int .u8 u0,.int .u8 v0] fun C=>
 ∃u,rI C (aS f 0) u /\
 (0<=(u:Int)/\(u:Int)<((e.toNat):Nat)) /\
 ∃v,rS C (aS b (0+u.toNat*1)) v /\
 Au t s0 0 C fun f1 w0 x0 w j g1=>
 sB (decide (w<(v.n:Int)))
 (NB v.a fun h1 i1=>Ib w v.n /\
 ∃y0 z0 A0 B0 C0 D0,gR j ⟨h1,i1+w.toNat*6,none⟩ y0 z0 A0 B0 C0 D0 /\
 Wn j [vI 0,vI 0,vI 0,vI 0,vI 0,.bool false] 67 fun j1=>
 Wp j1 (aS j 0) 6 (L3 y0 z0 A0 B0 C0 D0) fun k=>
 ∃E0,rI k (aS j 4) E0 /\
 ∃F0:Int,hc k (aS f 1)=some (.int .u8 F0) /\
 ∃G0:Int,hc k (aS f 2)=some (.int .u8 G0) /\
 Wn k [vI 0,.int .u8 0,.int .u8 0] 245 fun k1=>
 Wp k1 (aS k 0) 3 [vI E0,.int .u8 F0,.int .u8 G0] fun l1=>
 RM l1 f j k x0 s o w0 A g1 f1 w)
 (∃H0,H0<b1/\a1 w0 x0 (wrap .i64 (o+1)) j H0))
 (R (.tuple ⟨[vS s0,vI 0]⟩) f)))))))))
theorem abc(pa:ByteArray)(pb pc:Sl)(pd pe pf:Int)(pg ph:Sl)(p1:Int)(H:@W68 h R pa pb pc pd pe pf pg ph p1):Fn Pz 68 #[.agg ⟨(L0 pa pb pc pd pe pf pg ph)⟩,vI p1] h R:=aY (A:=(.s .z (.s .z (.s .z (.s (AI 44) (.s (AI 63) (.s .z (.s .z (.s .z (.s .z (.s .z (.s (.s .z (.b (.l [(14,.one (.slice)),(15,.one (.slice)),(16,.one (.int .i64))] (.s .z (.s (.b (.s .z (.s .z (.b (.l [(14,.one (.slice)),(15,.one (.slice)),(109,.one (.int .i64))] (.s .z (.s .z (.s (.b (.s .z (.s .z (.j [(15,.one (.slice))] (.b (.s .z (.c .z (.s .z (.c (.s .z (.s .z (.s .z (.c (.s .z (.s (AJ 22 23) .z)) .z)))) .z))))) .z)))) .z)))))))) .z))))) .z)))))))))))) H
end Go.VC
end
