/- PjVcA PjVcJ PjVcJ2 PjVcU PjVcV PjVcM PjVcD PjVcF PjVcB PjVcC PjVcE PjVcH PjVcI PjVcK PjVcL PjVcX PjVcW PjVcZ PjVcK3 PjVcY PjVcK7 PjVcS1 PjVcS2. -/
import Derived.Test.YtfdhgcladnbdeaaGreatDoorDM01
set_option linter.all false
set_option maxRecDepth 100000
set_option maxHeartbeats 8000000

section
namespace Go.VC
open Go.Proofs IntKind
variable {h:Heap} {R:Value->Heap->Prop}
def W189 (a:ByteArray):Prop:=
 sB ((ByteArray.toList a)==(ByteArray.toList ⟨#[]⟩))
 (R (.bool false) h)
 (sB (decide ((ByteArray.size a:Int)>16))
 (R (.bool false) h)
 ((0<=(0:Int)/\(0:Int)<(ByteArray.size a:Nat)) /\
 Fn Pz 221 #[.int .u8 (byteAt a (Int.toNat 0):Int)] h
 (fun j c=>∃d,iB j d /\
 sB (!d)
 (R (.bool false) c)
 (QI 0 c fun k b e l=>
 sB (decide (b<(ByteArray.size a:Int)))
 ((0<=(b:Int)/\(b:Int)<(ByteArray.size a:Nat)) /\
 Fn Pz 222 #[.int .u8 (byteAt a (b.toNat):Int)] e
 (fun m f=>∃g,iB m g /\
 sB (!g)
 (R (.bool false) f)
 (∃i,i<l/\k (wrap .i64 (b+1)) f i)))
 (R (.bool true) e)))))
theorem vc189 (p0:ByteArray) (H:@W189 h R p0):Fn Pz 189 #[.string p0] h R:=fnJ (A:=(.s .z (.s .z (.s (AI 19) .z)))) H
def W132 (a:ByteArray):Prop:=
 Wn h [.string ⟨#[]⟩,.string ⟨#[]⟩,.string ⟨#[]⟩,.string ⟨#[]⟩,.string ⟨#[]⟩,.string ⟨#[]⟩,.string ⟨#[]⟩,.string ⟨#[]⟩,.string ⟨#[]⟩,.string ⟨#[]⟩,.string ⟨#[]⟩,.string ⟨#[]⟩,.string ⟨#[]⟩,.string ⟨#[]⟩,.string ⟨#[]⟩,.string ⟨#[]⟩,.string ⟨#[]⟩,.string ⟨#[]⟩,.string ⟨#[]⟩,.string ⟨#[]⟩,.string ⟨#[]⟩,.string ⟨#[]⟩,.string ⟨#[]⟩,.string ⟨#[]⟩,.string ⟨#[]⟩,.string ⟨#[]⟩,.string ⟨#[]⟩,.string ⟨#[]⟩] 300 fun e=>
 Wp e (aS h 0) 28 [.string ⟨#[97,103,97,105,110]⟩,.string ⟨#[97,110,100]⟩,.string ⟨#[97,115]⟩,.string ⟨#[97,116]⟩,.string ⟨#[99,97,108,108]⟩,.string ⟨#[99,104,111,105,99,101]⟩,.string ⟨#[101,108,115,101]⟩,.string ⟨#[102,114,111,109]⟩,.string ⟨#[105,102]⟩,.string ⟨#[105,110,116]⟩,.string ⟨#[108,101,110]⟩,.string ⟨#[108,111,111,112]⟩,.string ⟨#[109,101,115,115,97,103,101]⟩,.string ⟨#[111,102]⟩,.string ⟨#[111,102,102,101,114]⟩,.string ⟨#[111,110]⟩,.string ⟨#[111,114]⟩,.string ⟨#[112,97,114]⟩,.string ⟨#[112,108,97,121,115]⟩,.string ⟨#[112,114,111,116,111,99,111,108]⟩,.string ⟨#[115,101,114,118,105,99,101]⟩,.string ⟨#[116,101,120,116]⟩,.string ⟨#[116,105,109,101,115]⟩,.string ⟨#[116,111]⟩,.string ⟨#[118,97,114]⟩,.string ⟨#[119,104,101,114,101]⟩,.string ⟨#[119,104,105,108,101]⟩,.string ⟨#[119,105,116,104,105,110]⟩] fun f=>
 Fn Pz 189 #[.string a] f
 (fun g b=>∃c,iB g c /\
 sB c
 (((0:Int)<=(0:Int)/\(0:Int)<=((28:Nat):Int)/\((28:Nat):Int)<=(28:Nat)) /\
 Fn Pz 133 #[.slice (subA (some (aS h 0)) (Int.toNat 0) 28 1) (Int.toNat (28:Nat)-Int.toNat 0) (28-Int.toNat 0),.string a] b
 (fun i j=>∃d,iB i d /\
 R (.bool (!d)) j))
 (R (.bool false) b))
theorem vc132 (p0:ByteArray) (H:@W132 h R p0):Fn Pz 132 #[.string p0] h R:=fnJ (A:=.z) H
def W221 (a:Int):Prop:=
 sB (decide ((97:Int)<=a))
 (sB (decide (a<=122))
 (R (.bool true) h)
 (sB (decide ((65:Int)<=a))
 (R (.bool (decide (a<=90))) h)
 (R (.bool false) h)))
 (sB (decide ((65:Int)<=a))
 (R (.bool (decide (a<=90))) h)
 (R (.bool false) h))
theorem vc221 (p0:Int) (H:@W221 h R p0):Fn Pz 221 #[.int .u8 p0] h R:=fnJ (A:=.z) H
def W222 (a:Int):Prop:=
 Fn Pz 221 #[.int .u8 a] h
 (fun f b=>∃c,iB f c /\
 sB c
 (R (.bool true) b)
 (Fn Pz 253 #[.int .u8 a] b
 (fun g d=>∃e,iB g e /\
 sB e
 (R (.bool true) d)
 (R (.bool (a==95)) d))))
theorem vc222 (p0:Int) (H:@W222 h R p0):Fn Pz 222 #[.int .u8 p0] h R:=fnJ (A:=.z) H
def W253 (a:Int):Prop:=
 sB (decide ((48:Int)<=a))
 (R (.bool (decide (a<=57))) h)
 (R (.bool false) h)
theorem vc253 (p0:Int) (H:@W253 h R p0):Fn Pz 253 #[.int .u8 p0] h R:=fnJ (A:=.z) H
def W190 (d:Sl) (g:ByteArray):Prop:=
 QI 0 h fun i b c j=>
 sB (decide (b<(d.n:Int)))
 (NB d.a fun k l=>Ib b d.n /\
 ∃e,rT c ⟨k,l+b.toNat*1,none⟩ e /\
 sB ((ByteArray.toList g)==(ByteArray.toList e))
 (R (vI b) c)
 (∃f,f<j/\i (wrap .i64 (b+1)) c f))
 (R (vI (-1)) c)
theorem vc190 (p0:Sl) (p1:ByteArray) (H:@W190 h R p0 p1):Fn Pz 190 #[vS p0,.string p1] h R:=fnJ (A:=(.s .z (.s (AI 8) .z))) H
def W133 (b:Sl) (c:ByteArray):Prop:=
 Fn Pz 190 #[vS b,.string c] h
 (fun d e=>∃a,iI d a /\
 R (.bool (decide (a>=0))) e)
theorem vc133 (p0:Sl) (p1:ByteArray) (H:@W133 h R p0 p1):Fn Pz 133 #[vS p0,.string p1] h R:=fnJ (A:=.z) H
def W281 (g:Sl) (i:FuncId):Prop:=
 QI 0 h fun l b f m=>
 sB (decide (b<(g.n:Int)))
 (NB g.a fun o p=>Ib b g.n /\
 ∃j,rT f ⟨o,p+b.toNat*1,none⟩ j /\
 bif callable Pz i then Fn Pz i #[.string j] f
 (fun k c=>∃d,iB k d /\
 sB d
 (R (vI b) c)
 (∃e,e<m/\l (wrap .i64 (b+1)) c e)) else ExtW Pz i #[.string j] f
 (fun k c=>∃d,iB k d /\
 sB d
 (R (vI b) c)
 (∃e,e<m/\l (wrap .i64 (b+1)) c e)))
 (R (vI (-1)) f)
theorem vc281 (p0:Sl) (p1:FuncId) (H:@W281 h R p0 p1):Fn Pz 281 #[vS p0,.func (.func p1) #[] #[]] h R:=fnJ (A:=(.s .z (.s (AI 8) .z))) H
def W254 (b:Sl) (c:Value):Prop:=
 Fn Pz 281 #[vS b,c] h
 (fun d e=>∃a,iI d a /\
 R (.bool (decide (a>=0))) e)
theorem vc254 (p0:Sl) (p1:Value) (H:@W254 h R p0 p1):Fn Pz 254 #[vS p0,p1] h R:=fnJ (A:=.z) H
def W256 (b:ByteArray):Prop:=
 Fn Pz 132 #[.string b] h
 (fun c d=>∃a,iB c a /\
 R (.bool (!a)) d)
theorem vc256 (p0:ByteArray) (H:@W256 h R p0):Fn Pz 256 #[.string p0] h R:=fnJ (A:=.z) H
def W224 (a:ByteArray):Prop:=
 sB (decide ((ByteArray.size a:Int)<=50))
 (Fn Pz 255 #[.string a,.string ⟨#[46]⟩] h
 (fun d e=>∃b,iS d b /\
 Fn Pz 254 #[vS b,.func (.func 256) #[] #[]] e
 (fun f g=>∃c,iB f c /\
 R (.bool (!c)) g)))
 (R (.bool false) h)
theorem vc224 (p0:ByteArray) (H:@W224 h R p0):Fn Pz 224 #[.string p0] h R:=fnJ (A:=.z) H
def W223 (d:Sl):Prop:=
 QSI ⟨none,0,0⟩ 0 h fun p e c b q=>
 sB (decide (c<(d.n:Int)))
 (NB d.a fun r s=>Ib c d.n /\
 ∃f g i j k,aL9 b ⟨r,s+c.toNat*5,none⟩ f g i j k /\
 Wn b [.string ⟨#[]⟩,vN,vI 0,vN,vN] 136 fun t=>
 Wp t (aS b 0) 5 (L9 f g i j k) fun l=>
 ∃m,rS l (aS b 1) m /\
 App Pz 130 130 (vS e) (vS m) l fun u v=>
 ∃o,o<q/\p u (wrap .i64 (c+1)) v o)
 (R (vS e) b)
theorem vc223 (p0:Sl) (H:@W223 h R p0):Fn Pz 223 #[vS p0] h R:=fnJ (A:=(.s .z (.s .z (.s (AJ 3 8) .z)))) H
def W226 (pa:ByteArray) (pb:Sl) (pc:Int) (pd pe:Sl) (d:Addr):Prop:=
 Wn h (L9 pa pb pc pd pe) 136 fun a=>
 ∃b,rT a (aS h 0) b /\
 ∃c,rT a d c /\
 R (.bool ((ByteArray.toList b)==(ByteArray.toList c))) a
theorem vc226 (pa:ByteArray) (pb:Sl) (pc:Int) (pd pe:Sl) (c0:Addr) (H:@W226 h R pa pb pc pd pe c0):Fn Pz 226 #[.agg ⟨(L9 pa pb pc pd pe)⟩,.pointer (some c0)] h R:=fnJ (A:=.z) H
def W229 (pa:ByteArray) (pb pc pd:Int) (d:Addr):Prop:=
 Wn h (L10 pa pb pc pd) 184 fun a=>
 ∃b,rT a (aS h 0) b /\
 ∃c,rT a d c /\
 R (.bool ((ByteArray.toList b)==(ByteArray.toList c))) a
theorem vc229 (pa:ByteArray) (pb pc pd:Int) (c0:Addr) (H:@W229 h R pa pb pc pd c0):Fn Pz 229 #[.agg ⟨(L10 pa pb pc pd)⟩,.pointer (some c0)] h R:=fnJ (A:=.z) H
def W227 (pa pb pc:Int):Prop:=
 Wn h (L2 pa pb pc) 182 fun a=>
 ∃b,rI a (aS h 0) b /\
 sB (b==1)
 (∃c,rI a (aS h 1) c /\
 sB (decide (c>=(-1000)))
 (∃d,rI a (aS h 1) d /\
 ∃e,rI a (aS h 2) e /\
 sB (decide (d<=e))
 (∃f,rI a (aS h 2) f /\
 R (.bool (decide (f<=1000))) a)
 (R (.bool false) a))
 (R (.bool false) a))
 (sB (b==2)
 (∃g,rI a (aS h 1) g /\
 sB (decide (g>=0))
 (∃i,rI a (aS h 1) i /\
 ∃j,rI a (aS h 2) j /\
 sB (decide (i<=j))
 (∃k,rI a (aS h 2) k /\
 R (.bool (decide (k<=40))) a)
 (R (.bool false) a))
 (R (.bool false) a))
 (R (.bool false) a))
theorem vc227 (pa pb pc:Int) (H:@W227 h R pa pb pc):Fn Pz 227 #[.agg ⟨(L2 pa pb pc)⟩] h R:=fnJ (A:=.z) H
def W257 (g:Sl) (i:FuncId) (p1c:Option Addr):Prop:=
 QI 0 h fun q b f r=>
 sB (decide (b<(g.n:Int)))
 (NB g.a fun s t=>Ib b g.n /\
 ∃j k l m o,aL9 f ⟨s,t+b.toNat*5,none⟩ j k l m o /\
 bif callable Pz i then Fn Pz i #[.agg ⟨(L9 j k l m o)⟩,.pointer p1c] f
 (fun p c=>∃d,iB p d /\
 sB d
 (R (vI b) c)
 (∃e,e<r/\q (wrap .i64 (b+1)) c e)) else ExtW Pz i #[.agg ⟨(L9 j k l m o)⟩,.pointer p1c] f
 (fun p c=>∃d,iB p d /\
 sB d
 (R (vI b) c)
 (∃e,e<r/\q (wrap .i64 (b+1)) c e)))
 (R (vI (-1)) f)
theorem vc257 (p0:Sl) (p1:FuncId) (p1c:Option Addr) (H:@W257 h R p0 p1 p1c):Fn Pz 257 #[vS p0,.func (.func p1) #[] #[.pointer p1c]] h R:=fnJ (A:=(.s .z (.s (AI 8) .z))) H
def W258 (g:Sl) (i:FuncId) (p1c:Option Addr):Prop:=
 QI 0 h fun p b f q=>
 sB (decide (b<(g.n:Int)))
 (NB g.a fun r s=>Ib b g.n /\
 ∃j k l m,aL10 f ⟨r,s+b.toNat*4,none⟩ j k l m /\
 bif callable Pz i then Fn Pz i #[.agg ⟨(L10 j k l m)⟩,.pointer p1c] f
 (fun o c=>∃d,iB o d /\
 sB d
 (R (vI b) c)
 (∃e,e<q/\p (wrap .i64 (b+1)) c e)) else ExtW Pz i #[.agg ⟨(L10 j k l m)⟩,.pointer p1c] f
 (fun o c=>∃d,iB o d /\
 sB d
 (R (vI b) c)
 (∃e,e<q/\p (wrap .i64 (b+1)) c e)))
 (R (vI (-1)) f)
theorem vc258 (p0:Sl) (p1:FuncId) (p1c:Option Addr) (H:@W258 h R p0 p1 p1c):Fn Pz 258 #[vS p0,.func (.func p1) #[] #[.pointer p1c]] h R:=fnJ (A:=(.s .z (.s (AI 8) .z))) H
def W225 (b:Sl) (c:Value):Prop:=
 Fn Pz 257 #[vS b,c] h
 (fun d e=>∃a,iI d a /\
 R (.bool (decide (a>=0))) e)
theorem vc225 (p0:Sl) (p1:Value) (H:@W225 h R p0 p1):Fn Pz 225 #[vS p0,p1] h R:=fnJ (A:=.z) H
def W228 (b:Sl) (c:Value):Prop:=
 Fn Pz 258 #[vS b,c] h
 (fun d e=>∃a,iI d a /\
 R (.bool (decide (a>=0))) e)
theorem vc228 (p0:Sl) (p1:Value) (H:@W228 h R p0 p1):Fn Pz 228 #[vS p0,p1] h R:=fnJ (A:=.z) H
def W230 (pa pb i:Sl):Prop:=
 Wn h [vS pa,vS pb] 134 fun d=>
 ∃p,rS d (aS h 0) p /\
 sB (decide ((p.n:Int)>20))
 (R (.bool false) d)
 (∃q,rS d (aS h 1) q /\
 sB (decide ((q.n:Int)>20))
 (R (.bool false) d)
 (∃j,rS d (aS h 0) j /\
 QI 0 d fun J k b K=>
 sB (decide (k<(j.n:Int)))
 (NB j.a fun L M=>Ib k j.n /\
 ∃r s t,aL2 b ⟨L,M+k.toNat*3,none⟩ r s t /\
 Wn b [vI 0,vI 0,vI 0] 187 fun N=>
 Wp N (aS b 0) 3 (L2 r s t) fun c=>
 ∃u,rI c (aS b 0) u /\
 ∃v,rI c (aS b 1) v /\
 sB (decide ((imin u v)<(-1)))
 (R (.bool false) c)
 (∃w,rI c (aS b 0) w /\
 ∃x,rI c (aS b 1) x /\
 sB (decide ((imax w x)>=(i.n:Int)))
 (R (.bool false) c)
 (∃y,rI c (aS b 2) y /\
 sB (decide (y<(-20000)))
 (R (.bool false) c)
 (∃z,rI c (aS b 2) z /\
 sB (decide (z>20000))
 (R (.bool false) c)
 (∃A,A<K/\J (wrap .i64 (k+1)) c A)))))
 (∃l,rS b (aS h 1) l /\
 QI 0 b fun O m f P=>
 sB (decide (m<(l.n:Int)))
 (NB l.a fun Q S=>Ib m l.n /\
 ∃(B C:Int),atC f ⟨Q,S+m.toNat*2,none⟩ [vI B,vI C] /\
 Wn f [vI 0,vI 0] 189 fun T=>
 Wp T (aS f 0) 2 [vI B,vI C] fun D=>
 ∃(E F:Int),atC D (aS f 0) [vI E,vI F] /\
 QI 0 D fun U o e V=>
 sB (decide (o<2))
 (Ib o 2/\∃g:Int,List.take 1 (List.drop (o.toNat*1) ([vI E,vI F]:List Value))=[vI g] /\
 sB (decide (g<0))
 (R (.bool false) e)
 (sB (decide (g>=(i.n:Int)))
 (R (.bool false) e)
 (NB i.a fun W X=>Ib g i.n /\
 ∃G,rI e ⟨W,X+g.toNat*4+1,none⟩ G /\
 sB (G != 2)
 (R (.bool false) e)
 (∃H,H<V/\U (wrap .i64 (o+1)) e H))))
 (∃I,I<P/\O (wrap .i64 (m+1)) e I))
 (R (.bool true) f))))
theorem vc230 (pa pb p1:Sl) (H:@W230 h R pa pb p1):Fn Pz 230 #[.agg ⟨[vS pa,vS pb]⟩,vS p1] h R:=fnJ (A:=(.s .z (.s .z (.s (AI 24) (.s (.s .z (.b (.l [(58,.one (.int .i64))] (.s .z (.s .z (.s (.b (.s .z (AI 63))) .z)))))) .z))))) H
def W191 (d:Sl):Prop:=
 sB (decide ((d.n:Int)>40))
 (R (.bool false) h)
 (Fn Pz 223 #[vS d] h
 (fun Y q=>∃m,iS Y m /\
 sB (decide ((m.n:Int)>24))
 (R (.bool false) q)
 (QII 0 0 q fun Z r f b m6=>
 sB (decide (f<(d.n:Int)))
 (NB d.a fun b0 c0=>Ib f d.n /\
 ∃s t u v w,aL9 b ⟨b0,c0+f.toNat*5,none⟩ s t u v w /\
 Wn b [.string ⟨#[]⟩,vN,vI 0,vN,vN] 136 fun d0=>
 Wp d0 (aS b 0) 5 (L9 s t u v w) fun x=>
 ∃y,rT x (aS b 0) y /\
 Fn Pz 224 #[.string y] x
 (fun e0 i=>∃z,iB e0 z /\
 sB (!z)
 (R (.bool false) i)
 (∃A,rS i (aS b 1) A /\
 sB (decide ((A.n:Int)>4))
 (R (.bool false) i)
 (∃B,rI i (aS b 2) B /\
 sB (B != r)
 (R (.bool false) i)
 (((0:Int)<=(0:Int)/\(0:Int)<=(f:Int)/\(f:Int)<=(d.c:Nat)) /\
 Fn Pz 225 #[.slice (subA d.a (Int.toNat 0) d.c 5) (f.toNat-Int.toNat 0) (d.c-Int.toNat 0),.func (.func 226) #[] #[.pointer (some (aS b 0))]] i
 (fun f0 k=>∃C,iB f0 C /\
 sB C
 (R (.bool false) k)
 (∃D,rS k (aS b 1) D /\
 ∃l,rS k (aS b 1) l /\
 QI 0 k fun g0 g e h0=>
 sB (decide (g<(l.n:Int)))
 (NB l.a fun i0 j0=>Ib g l.n /\
 ∃E F G H,aL10 e ⟨i0,j0+g.toNat*4,none⟩ E F G H /\
 Wn e [.string ⟨#[]⟩,vI 0,vI 0,vI 0] 184 fun k0=>
 Wp k0 (aS e 0) 4 (L10 E F G H) fun I=>
 ∃J,rT I (aS e 0) J /\
 Fn Pz 132 #[.string J] I
 (fun l0 o=>∃K,iB l0 K /\
 sB (!K)
 (R (.bool false) o)
 (∃L M N,aL2 o (aS e 1) L M N /\
 Fn Pz 227 #[.agg ⟨(L2 L M N)⟩] o
 (fun m0 p=>∃O,iB m0 O /\
 sB (!O)
 (R (.bool false) p)
 (∃j,rS p (aS b 1) j /\
 ((0:Int)<=(0:Int)/\(0:Int)<=(g:Int)/\(g:Int)<=(j.c:Nat)) /\
 Fn Pz 228 #[.slice (subA j.a (Int.toNat 0) j.c 4) (g.toNat-Int.toNat 0) (j.c-Int.toNat 0),.func (.func 229) #[] #[.pointer (some (aS e 0))]] p
 (fun n0 P=>∃Q,iB n0 Q /\
 sB Q
 (R (.bool false) P)
 (∃S,S<h0/\g0 (wrap .i64 (g+1)) P S)))))))
 (∃(T U:Sl),atC e (aS b 3) [vS T,vS U] /\
 Fn Pz 230 #[.agg ⟨[vS T,vS U]⟩,vS m] e
 (fun o0 V=>∃W,iB o0 W /\
 sB (!W)
 (R (.bool false) V)
 (∃X,X<m6/\Z (wrap .i64 (r+(D.n:Int))) (wrap .i64 (f+1)) V X))))))))))
 (R (.bool true) b))))
theorem vc191 (p0:Sl) (H:@W191 h R p0):Fn Pz 191 #[vS p0] h R:=fnJ (A:=(.s .z (.s .z (.s .z (.s .z (.s .z (.s (.s .z (.b (.l [(4,.one (.int .i64)),(19,.one (.int .i64))] (.s .z (.s .z (.s (.b (.s .z (.s .z (.s .z (.s (AI 55) .z))))) .z)))))) .z))))))) H
def W192 (pa:ByteArray) (pb:Sl) (pc:Int) (pd pe:Sl):Prop:=
 Wn h (L9 pa pb pc pd pe) 136 fun k=>
 ∃g,rS k (aS h 1) g /\
 QSI ⟨none,0,0⟩ 0 k fun G l d c H=>
 sB (decide (d<(g.n:Int)))
 (NB g.a fun I J=>Ib d g.n /\
 ∃m o p q,aL10 c ⟨I,J+d.toNat*4,none⟩ m o p q /\
 Wn c [.string ⟨#[]⟩,vI 0,vI 0,vI 0] 184 fun K=>
 Wp K (aS c 0) 4 (L10 m o p q) fun e=>
 ∃r,rI e (aS h 2) r /\
 ∃s,rI e (aS c (1+2)) s /\
 ∃t,rI e (aS h 2) t /\
 ∃u,rI e (aS c (1+1)) u /\
 Wn e [vI (wrap .i64 (r+d)),vI (-1),vI s,vI (-1),vI (wrap .i64 (t+d)),vI (wrap .i64 (0-u))] 187 fun L=>
 App Pz 131 131 (vS l) (.slice (some (aS e 0)) 2 2) L fun M N=>
 ∃v,v<H/\G M (wrap .i64 (d+1)) N v)
 (∃w,rS c (aS h 3) w /\
 App Pz 131 131 (vS l) (vS w) c fun O x=>
 ∃i,rS x (aS h (3+1)) i /\
 QSI O 0 x fun P y j b Q=>
 sB (decide (j<(i.n:Int)))
 (NB i.a fun S T=>Ib j i.n /\
 ∃(z A:Int),atC b ⟨S,T+j.toNat*2,none⟩ [vI z,vI A] /\
 Wn b [vI 0,vI 0] 189 fun U=>
 Wp U (aS b 0) 2 [vI z,vI A] fun f=>
 Ib 0 2 /\
 ∃B,rI f (aS b (0+Int.toNat 0*1)) B /\
 Ib 1 2 /\
 ∃C,rI f (aS b (0+Int.toNat 1*1)) C /\
 Ib 1 2 /\
 ∃D,rI f (aS b (0+Int.toNat 1*1)) D /\
 Ib 0 2 /\
 ∃E,rI f (aS b (0+Int.toNat 0*1)) E /\
 Wn f [vI B,vI C,vI 0,vI D,vI E,vI 0] 187 fun V=>
 App Pz 131 131 (vS y) (.slice (some (aS f 0)) 2 2) V fun W X=>
 ∃F,F<Q/\P W (wrap .i64 (j+1)) X F)
 (R (vS y) b))
theorem vc192 (pa:ByteArray) (pb:Sl) (pc:Int) (pd pe:Sl) (H:@W192 h R pa pb pc pd pe):Fn Pz 192 #[.agg ⟨(L9 pa pb pc pd pe)⟩] h R:=fnJ (A:=(.s .z (.s .z (.s (AJ 3 11) (.s .z (.s (AJ 3 46) .z)))))) H
def W134 (b:Sl) (c:Int):Prop:=
 sB (decide (c<0))
 (R (.tuple ⟨[vN,vI 1]⟩) h)
 (sB (decide (c>=(b.n:Int)))
 (R (.tuple ⟨[vN,vI 1]⟩) h)
 (Fn Pz 191 #[vS b] h
 (fun m d=>∃e,iB m e /\
 sB (!e)
 (R (.tuple ⟨[vN,vI 1]⟩) d)
 (NB b.a fun o p=>Ib c b.n /\
 ∃f g i j k,aL9 d ⟨o,p+c.toNat*5,none⟩ f g i j k /\
 Fn Pz 192 #[.agg ⟨(L9 f g i j k)⟩] d
 (fun q r=>∃l,iS q l /\
 R (.tuple ⟨[vS l,vI 0]⟩) r)))))
theorem vc134 (p0:Sl) (p1:Int) (H:@W134 h R p0 p1):Fn Pz 134 #[vS p0,vI p1] h R:=fnJ (A:=.z) H
end Go.VC
end

section
namespace Go.VC
open Go.Proofs IntKind
variable [Mono]
namespace M
def W151 (a:Int) (h:Heap) (R:Value->Heap->Prop):Prop:=
 R (.bool (a != a)) h
theorem vc151 (p0:Int) (h:Heap) (R:Value->Heap->Prop) (H:W151 p0 h R):Fn Pz 151 #[vI p0] h R:=fnJ (A:=.z) H
def W110 (b c:Int) (h:Heap) (R:Value->Heap->Prop):Prop:=
 Fn Pz 151 #[vI b] h
 (fun f g=>∃e,iB f e /\
 Fn Pz 151 #[vI c] g
 (fun i a=>∃d,iB i d /\
 sB e
 (sB d
 (R (vI 0) a)
 (R (vI (-1)) a))
 (sB d
 (R (vI 1) a)
 (sB (decide (b<c))
 (R (vI (-1)) a)
 (sB (decide (b>c))
 (R (vI 1) a)
 (R (vI 0) a))))))
theorem vc110 (p0 p1:Int) (h:Heap) (R:Value->Heap->Prop) (H:W110 p0 p1 h R):Fn Pz 110 #[vI p0,vI p1] h R:=fnJ (A:=.z) H
def W109 (d:Sl) (h:Heap) (R:Value->Heap->Prop):Prop:=
 QI 0 h fun g b c i=>
 sB (decide (b<(d.n:Int)))
 (NB d.a fun j k=>Ib b d.n /\
 ∃e,rI c ⟨j,k+b.toNat*1,none⟩ e /\
 sB (e != 0)
 (R (vI e) c)
 (∃f,f<i/\g (wrap .i64 (b+1)) c f))
 (R (vI 0) c)
theorem vc109 (p0:Sl) (h:Heap) (R:Value->Heap->Prop) (H:W109 p0 h R):Fn Pz 109 #[vS p0] h R:=fnJ (A:=(.s .z (.s .z (.s (AI 8) .z)))) H
def W138 (pa:Bool) (pb pc:Int) (pd:Bool) (pe pf:Int) (h:Heap) (R:Value->Heap->Prop):Prop:=
 Wn h (L1 pa pb pc) 116 fun b=>
 Wn b (L1 pd pe pf) 116 fun a=>
 ∃e,rB a (aS h 0) e /\
 ∃f,rB a (aS b 0) f /\
 sB (!(e==f))
 (∃g,rB a (aS h 0) g /\
 sB g
 (R (vI (-1)) a)
 (R (vI 1) a))
 (∃i,rI a (aS h 1) i /\
 ∃j,rI a (aS b 1) j /\
 ∃k,rI a (aS h 2) k /\
 ∃l,rI a (aS b 2) l /\
 Fn Pz 110 #[vI i,vI j] a
 (fun p c=>∃m,iI p m /\
 Sm [(aS b 2),(aS h 2)] a c /\
 Fn Pz 110 #[vI k,vI l] c
 (fun q d=>∃n,iI q n /\
 Sm [(aS b 1),(aS h 1)] c d /\
 Wn d [vI m,vI n] 3 fun r=>
 Fn Pz 109 #[.slice (some (aS d 0)) 2 2] r
 (fun s t=>∃o,iI s o /\
 R (vI o) t))))
theorem vc138 (pa:Bool) (pb pc:Int) (pd:Bool) (pe pf:Int) (h:Heap) (R:Value->Heap->Prop) (H:W138 pa pb pc pd pe pf h R):Fn Pz 138 #[.agg ⟨(L1 pa pb pc)⟩,.agg ⟨(L1 pd pe pf)⟩] h R:=fnJ (A:=.z) H
def W129 (pa:Int) (pb:Bool) (pc pd pe:Int) (pf:Bool) (h:Heap) (R:Value->Heap->Prop):Prop:=
 Wn h (L6 pa pb pc pd pe pf) 45 fun a=>
 ∃b,rB a (aS h 1) b /\
 sB b
 (R (vI 0) a)
 (R (vI 1) a)
theorem vc129 (pa:Int) (pb:Bool) (pc pd pe:Int) (pf:Bool) (h:Heap) (R:Value->Heap->Prop) (H:W129 pa pb pc pd pe pf h R):Fn Pz 129 #[.agg ⟨(L6 pa pb pc pd pe pf)⟩] h R:=fnJ (A:=.z) H
def W73 (pa:Int) (pb:Bool) (pc pd pe:Int) (pf:Bool) (pg:Int) (ph:Bool) (pi pj pk:Int) (pl:Bool) (h:Heap) (R:Value->Heap->Prop):Prop:=
 Wn h (L6 pa pb pc pd pe pf) 45 fun a=>
 Wn a (L6 pg ph pi pj pk pl) 45 fun b=>
 ∃j,rI b (aS h 0) j /\
 ∃k,rI b (aS a 0) k /\
 ∃l m n o p q,aL6 b (aS h 0) l m n o p q /\
 ∃r s t u v w,aL6 b (aS a 0) r s t u v w /\
 ∃x,rI b (aS h 2) x /\
 ∃y,rI b (aS a 2) y /\
 ∃z,rI b (aS h 3) z /\
 ∃A,rI b (aS a 3) A /\
 Fn Pz 110 #[vI j,vI k] b
 (fun I c=>∃B,iI I B /\
 Sm [(aS a 3),(aS h 3),(aS a 2),(aS h 2),(aS a 0),(aS h 0)] b c /\
 Fn Pz 129 #[.agg ⟨(L6 l m n o p q)⟩] c
 (fun J d=>∃C,iI J C /\
 Sm [(aS a 3),(aS h 3),(aS a 2),(aS h 2),(aS a 0),(aS a 0),(aS h 0)] c d /\
 Fn Pz 129 #[.agg ⟨(L6 r s t u v w)⟩] d
 (fun K e=>∃D,iI K D /\
 Sm [(aS a 3),(aS h 3),(aS a 2),(aS h 2),(aS h 0),(aS a 0),(aS h 0)] d e /\
 Fn Pz 110 #[vI C,vI D] e
 (fun L f=>∃E,iI L E /\
 Sm [(aS a 3),(aS h 3),(aS a 2),(aS h 2),(aS a 0),(aS h 0)] e f /\
 Fn Pz 110 #[vI x,vI y] f
 (fun M g=>∃F,iI M F /\
 Sm [(aS a 3),(aS h 3),(aS a 0),(aS h 0),(aS a 0),(aS h 0)] f g /\
 Fn Pz 110 #[vI z,vI A] g
 (fun N i=>∃G,iI N G /\
 Sm [(aS a 2),(aS h 2),(aS a 0),(aS h 0),(aS a 0),(aS h 0)] g i /\
 Wn i (L7 B E F G) 3 fun O=>
 Fn Pz 109 #[.slice (some (aS i 0)) 4 4] O
 (fun P Q=>∃H,iI P H /\
 R (vI H) Q)))))))
theorem vc73 (pa:Int) (pb:Bool) (pc pd pe:Int) (pf:Bool) (pg:Int) (ph:Bool) (pi pj pk:Int) (pl:Bool) (h:Heap) (R:Value->Heap->Prop) (H:W73 pa pb pc pd pe pf pg ph pi pj pk pl h R):Fn Pz 73 #[.agg ⟨(L6 pa pb pc pd pe pf)⟩,.agg ⟨(L6 pg ph pi pj pk pl)⟩] h R:=fnJ (A:=.z) H
end M
end Go.VC
end

section
namespace Go.VC
open Go.Proofs IntKind
variable [Mono]
namespace M
def W204 (pa:Bool) (pb pc:Int) (pd:Bool) (pe pf:Int) (h:Heap) (R:Value->Heap->Prop):Prop:=
 Wn h (L1 pa pb pc) 252 fun b=>
 Wn b (L1 pd pe pf) 252 fun a=>
 ∃e,rB a (aS h 0) e /\
 ∃f,rB a (aS b 0) f /\
 sB (!(e==f))
 (∃g,rB a (aS h 0) g /\
 sB g
 (R (vI (-1)) a)
 (R (vI 1) a))
 (∃i,rI a (aS h 1) i /\
 ∃j,rI a (aS b 1) j /\
 ∃k,rI a (aS h 2) k /\
 ∃l,rI a (aS b 2) l /\
 Fn Pz 110 #[vI i,vI j] a
 (fun p c=>∃m,iI p m /\
 Sm [(aS b 2),(aS h 2)] a c /\
 Fn Pz 110 #[vI k,vI l] c
 (fun q d=>∃n,iI q n /\
 Sm [(aS b 1),(aS h 1)] c d /\
 Wn d [vI m,vI n] 3 fun r=>
 Fn Pz 109 #[.slice (some (aS d 0)) 2 2] r
 (fun s t=>∃o,iI s o /\
 R (vI o) t))))
theorem vc204 (pa:Bool) (pb pc:Int) (pd:Bool) (pe pf:Int) (h:Heap) (R:Value->Heap->Prop) (H:W204 pa pb pc pd pe pf h R):Fn Pz 204 #[.agg ⟨(L1 pa pb pc)⟩,.agg ⟨(L1 pd pe pf)⟩] h R:=fnJ (A:=.z) H
def W208 (pa pb pc pd:Int) (h:Heap) (R:Value->Heap->Prop):Prop:=
 Wn h [vI pa,vI pb] 265 fun b=>
 Wn b [vI pc,vI pd] 265 fun a=>
 ∃e,rI a (aS h 0) e /\
 ∃f,rI a (aS b 0) f /\
 ∃g,rI a (aS h 1) g /\
 ∃i,rI a (aS b 1) i /\
 Fn Pz 110 #[vI e,vI f] a
 (fun m c=>∃j,iI m j /\
 Sm [(aS b 1),(aS h 1)] a c /\
 Fn Pz 110 #[vI g,vI i] c
 (fun n d=>∃k,iI n k /\
 Sm [(aS b 0),(aS h 0)] c d /\
 Wn d [vI j,vI k] 3 fun o=>
 Fn Pz 109 #[.slice (some (aS d 0)) 2 2] o
 (fun p q=>∃l,iI p l /\
 R (vI l) q)))
theorem vc208 (pa pb pc pd:Int) (h:Heap) (R:Value->Heap->Prop) (H:W208 pa pb pc pd h R):Fn Pz 208 #[.agg ⟨[vI pa,vI pb]⟩,.agg ⟨[vI pc,vI pd]⟩] h R:=fnJ (A:=.z) H
def W244 (pa pb pc pd pe:Int) (pf:Bool) (pg ph pi pj pk:Int) (pl:Bool) (h:Heap) (R:Value->Heap->Prop):Prop:=
 Wn h (L3 pa pb pc pd pe pf) 55 fun b=>
 Wn b (L3 pg ph pi pj pk pl) 55 fun a=>
 ∃c d e,aL2 a (aS h 1) c d e /\
 ∃f g i,aL2 a (aS b 1) f g i /\
 Fn Pz 245 #[.agg ⟨(L2 c d e)⟩,.agg ⟨(L2 f g i)⟩] a
 (fun k l=>∃j,iI k j /\
 R (vI j) l)
theorem vc244 (pa pb pc pd pe:Int) (pf:Bool) (pg ph pi pj pk:Int) (pl:Bool) (h:Heap) (R:Value->Heap->Prop) (H:W244 pa pb pc pd pe pf pg ph pi pj pk pl h R):Fn Pz 244 #[.agg ⟨(L3 pa pb pc pd pe pf)⟩,.agg ⟨(L3 pg ph pi pj pk pl)⟩] h R:=fnJ (A:=.z) H
def W245 (pa pb pc pd pe pf:Int) (h:Heap) (R:Value->Heap->Prop):Prop:=
 Wn h (L2 pa pb pc) 53 fun a=>
 Wn a (L2 pd pe pf) 53 fun b=>
 ∃f,rI b (aS h 0) f /\
 ∃g,rI b (aS a 0) g /\
 ∃i,rI b (aS h 1) i /\
 ∃j,rI b (aS a 1) j /\
 ∃k,rI b (aS h 2) k /\
 ∃l,rI b (aS a 2) l /\
 Fn Pz 110 #[vI f,vI g] b
 (fun q c=>∃m,iI q m /\
 Sm [(aS a 2),(aS h 2),(aS a 1),(aS h 1)] b c /\
 Fn Pz 110 #[vI i,vI j] c
 (fun r d=>∃n,iI r n /\
 Sm [(aS a 2),(aS h 2),(aS a 0),(aS h 0)] c d /\
 Fn Pz 110 #[vI k,vI l] d
 (fun s e=>∃o,iI s o /\
 Sm [(aS a 1),(aS h 1),(aS a 0),(aS h 0)] d e /\
 Wn e (L2 m n o) 3 fun t=>
 Fn Pz 109 #[.slice (some (aS e 0)) 3 3] t
 (fun u v=>∃p,iI u p /\
 R (vI p) v))))
theorem vc245 (pa pb pc pd pe pf:Int) (h:Heap) (R:Value->Heap->Prop) (H:W245 pa pb pc pd pe pf h R):Fn Pz 245 #[.agg ⟨(L2 pa pb pc)⟩,.agg ⟨(L2 pd pe pf)⟩] h R:=fnJ (A:=.z) H
end M
end Go.VC
end

section
namespace Go.VC
open Go.Proofs IntKind



end Go.VC
end

section
namespace Go.VC
open Go.Proofs IntKind
variable {h:Heap} {R:Value->Heap->Prop}
def V52b (b:Sl) (c:Int) (e:Heap) (f:Sl) (g:Nat) (h:Int->Heap->Nat->Prop) (i:Int):Prop:=
 NB b.a fun j k=>Ib c b.n/\Wp e ⟨j,k+c.toNat*1,none⟩ 1 [vS f] fun l=>∃d,d<g/\h (wrap .i64 (i+1)) l d
def V52c (f g:Nat) (h:Int) (a b d c:Heap) (i j:Sl) (k:Int) (l:Nat) (m:Int->Heap->Nat->Prop) (n:Int):Prop:=
 Sm [⟨f,g+h.toNat*1,none⟩,(aS a 0),(aS b 10),(aS a 0),(aS b 10)] d c/\App Pz 173 173 (vS i) (.slice (some (aS d 0)) 1 1) c fun o e=>Sm [(aS a 0),(aS b 10)] c e/\V52b j k e o l m n
def V52a (d:Heap) (b0:ByteArray) (c0 d0:Sl) (e0 f0 g0:Int) (h0 i0:Sl) (k:Int) (j0:Heap) (s:Int) (k0:Heap) (t:Int) (h:Heap) (R:Value->Heap->Prop):Prop:=
 Wn d [.string b0,vS c0,vS d0,vI e0,vI f0,vI g0,vS h0,vS i0,vI k,.slice (some (aS j0 0)) (s.toNat) (s.toNat),.slice (some (aS k0 0)) (t.toNat) (t.toNat)] 172 fun u=>∃f,rS u (aS h 6) f/\QI 0 u fun l e c m=>sB (decide (e<(f.n:Int))) (NB f.a fun l0 m0=>Ib e f.n/\∃v w x y z A,aL3 c ⟨l0,m0+e.toNat*6,none⟩ v w x y z A/\Wn c [vI 0,vI 0,vI 0,vI 0,vI 0,.bool false] 55 fun n0=>Wp n0 (aS c 0) 6 (L3 v w x y z A) fun b=>∃B,rI b (aS c 1) B/\sB (k==B) (∃C,rS b (aS d 10) C/\∃D,rI b (aS c 0) D/\∃o,rS b (aS d 10) o/\∃g,rI b (aS c 0) g/\NB o.a fun E F=>Ib g o.n/\∃G,rS b ⟨E,F+g.toNat*1,none⟩ G/\∃H,rI b (aS c (1+1)) H/\∃I,rI b (aS c (1+2)) I/\∃J,rI b (aS c 4) J/\Wn b [.bool true,vI H,vI I,vI J] 175 fun o0=>V52c E F g c d b o0 G C D m l e) (∃K,rI b (aS c (1+1)) K/\sB (k==K) (∃L,rS b (aS d 10) L/\∃M,rI b (aS c 0) M/\∃p,rS b (aS d 10) p/\∃i,rI b (aS c 0) i/\NB p.a fun N O=>Ib i p.n/\∃P,rS b ⟨N,O+i.toNat*1,none⟩ P/\∃Q,rI b (aS c 1) Q/\∃S,rI b (aS c (1+2)) S/\∃T,rI b (aS c 4) T/\Wn b [.bool false,vI Q,vI S,vI T] 175 fun p0=>V52c N O i c d b p0 P L M m l e) (∃U,rS b (aS d 9) U/\∃V,rI b (aS c 0) V/\∃q,rS b (aS d 9) q/\∃j,rI b (aS c 0) j/\NB q.a fun W X=>Ib j q.n/\∃Y,rS b ⟨W,X+j.toNat*1,none⟩ Y/\∃Z,rI b (aS c 4) Z/\Wn b [vI Z] 3 fun r=>Sm [⟨W,X+j.toNat*1,none⟩,(aS c 0),(aS d 9),(aS c 0),(aS d 9)] b r/\App Pz 42 42 (vS Y) (.slice (some (aS b 0)) 1 1) r fun q0 a0=>Sm [(aS c 0),(aS d 9)] r a0/\V52b U V a0 q0 m l e))) (R (.tuple ⟨[.pointer (some (aS d 0)),vI 0]⟩) c)
def W52 (pa:ByteArray) (pb pc:Sl) (pd pe pf:Int) (pg ph:Sl) (d:Int):Prop:=
 Wn h (L0 pa pb pc pd pe pf pg ph) 27 fun q=>∃r s t u v w x y,aL0 q (aS h 0) r s t u v w x y/\Fn Pz 38 #[.agg ⟨(L0 r s t u v w x y)⟩] q (fun D a=>∃z,iB D z/\sB (!z) (R (.tuple ⟨[.pointer none,vI 1]⟩) a) (sB (decide (d<0)) (R (.tuple ⟨[.pointer none,vI 1]⟩) a) (∃A,rS a (aS h 1) A/\sB (decide (d>=(A.n:Int))) (R (.tuple ⟨[.pointer none,vI 1]⟩) a) (∃g i j k l m o p,aL0 a (aS h 0) g i j k l m o p/\∃b,rI a (aS h 3) b/\∃c,rI a (aS h 3) c/\(Mk b b 24/\Wn a (madeL Pz 42 (b.toNat)) 42 fun e=>Sm [(aS h 3),(aS h 0)] a e/\Mk c c 24/\Wn e (madeL Pz 173 (c.toNat)) 173 fun B=>Sm [(aS h 3),(aS h 0)] e B/\V52a B g i j k l m o p d a b e c h R)/\Mk c c 24/\Wn a (madeL Pz 173 (c.toNat)) 173 fun f=>Sm [(aS h 3),(aS h 0)] a f/\Mk b b 24/\Wn f (madeL Pz 42 (b.toNat)) 42 fun C=>Sm [(aS h 3),(aS h 0)] f C/\V52a C g i j k l m o p d f b a c h R))))
theorem vc52 (pa:ByteArray) (pb pc:Sl) (pd pe pf:Int) (pg ph:Sl) (p1:Int) (H:@W52 h R pa pb pc pd pe pf pg ph p1):Fn Pz 52 #[.agg ⟨(L0 pa pb pc pd pe pf pg ph)⟩,vI p1] h R:=fnJ (A:=(.s .z (.s .z (.s .z (.s (AI 36) .z))))) H
def V53a (e:Sl) (c:Int) (d:Heap) (f:Int) (h:Heap) (g:Sl) (i:Nat) (j:Sl->Int->Heap->Nat->Prop):Prop:=
 NB e.a fun p q=>Ib c e.n/\∃b,rI d ⟨p,q+c.toNat*1,none⟩ b/\(0<=(b:Int)/\(b:Int)<((f.toNat):Nat))/\∃k,rB d (aS h (0+b.toNat*1)) k/\sB (!k) ((0<=(b:Int)/\(b:Int)<((f.toNat):Nat))/\Wp d (aS h (0+b.toNat*1)) 1 [.bool true] fun l=>Wn l [vI b] 3 fun r=>App Pz 42 42 (vS g) (.slice (some (aS l 0)) 1 1) r fun s t=>∃m,m<i/\j s (wrap .i64 (c+1)) t m) (∃o,o<i/\j g (wrap .i64 (c+1)) d o)
def W53 (e:Addr) (k:Sl):Prop:=
 ∃b,rI h ⟨e.block,e.off+3,none⟩ b/\Mk b b 1/\Wn h (madeL Pz 4 (b.toNat)) 4 fun u=>QSI ⟨none,0,0⟩ 0 u fun v l m o w=>sB (decide (m<(k.n:Int))) (V53a k m o b h l w v) (QSI l 0 o fun x c f d y=>sB (decide (f<(c.n:Int))) (∃g,rS d ⟨e.block,e.off+9,none⟩ g/\NB c.a fun z A=>Ib f c.n/\∃i,rI d ⟨z,A+f.toNat*1,none⟩ i/\NB g.a fun B C=>Ib i g.n/\∃j,rS d ⟨B,C+i.toNat*1,none⟩ j/\QSI c 0 d fun D p q r E=>sB (decide (q<(j.n:Int))) (V53a j q r b h p E D) (∃s,s<y/\x p (wrap .i64 (f+1)) r s)) (Fn Pz 55 #[vS c] d (fun F G=>∃t,iS F t/\R (vS t) G)))
theorem vc53 (p0:Addr) (p1:Sl) (H:@W53 h R p0 p1):Fn Pz 53 #[.pointer (some p0),vS p1] h R:=fnJ (A:=(.s .z (.s .z (.s .z (.s (AJ 6 20) (.s (.s .z (.b (.l [(6,.one (.slice)),(9,.one (.int .i64))] (.s .z (.s (.b (AJ 6 54)) .z))))) .z)))))) H
def W56 (j:Addr) (G:Sl) (pa:Bool) (pb pc:Int):Prop:=
 Wn h (L1 pa pb pc) 116 fun H=>
 Fn Pz 42 #[vS G] H
 (fun I J=>∃f,iS I f /\
 QSI ⟨none,0,0⟩ 0 J fun K o g d L=>
 sB (decide (g<(f.n:Int)))
 (NB f.a fun M N=>Ib g f.n /\
 ∃k,rI d ⟨M,N+g.toNat*1,none⟩ k /\
 ∃l,rS d ⟨j.block,j.off+10,none⟩ l /\
 NB l.a fun O P=>Ib k l.n /\
 ∃i,rS d ⟨O,P+k.toNat*1,none⟩ i /\
 QSI o 0 d fun p m e b q=>
 sB (decide (e<(i.n:Int)))
 (NB i.a fun Q S=>Ib e i.n /\
 ∃r s t u,aL15 b ⟨Q,S+e.toNat*4,none⟩ r s t u /\
 Wn b [.bool false,vI 0,vI 0,vI 0] 175 fun T=>
 Wp T (aS b 0) 4 (L15 r s t u) fun c=>
 ∃v w x,aL1 c (aS b 0) v w x /\
 ∃y z A,aL1 c (aS h 0) y z A /\
 sB ((v==y)&&((w==z)&&((x==A)&&true)))
 (∃B,rI c (aS b 3) B /\
 Wn c [vI B] 3 fun U=>
 App Pz 42 42 (vS m) (.slice (some (aS c 0)) 1 1) U fun V W=>
 ∃C,C<q/\p V (wrap .i64 (e+1)) W C)
 (∃D,D<q/\p m (wrap .i64 (e+1)) c D))
 (∃E,E<L/\K m (wrap .i64 (g+1)) b E))
 (Fn Pz 53 #[.pointer (some j),vS o] d
 (fun X Y=>∃F,iS X F /\
 R (vS F) Y)))
theorem vc56 (p0:Addr) (p1:Sl) (pa:Bool) (pb pc:Int) (H:@W56 h R p0 p1 pa pb pc):Fn Pz 56 #[.pointer (some p0),vS p1,.agg ⟨(L1 pa pb pc)⟩] h R:=fnJ (A:=(.s .z (.s .z (.s (.s .z (.b (.l [(7,.one (.slice)),(15,.one (.int .i64))] (.s .z (.s .z (.s (.b (.s .z (AJ 7 27))) .z)))))) .z)))) H
def W87 (m:Addr) (z:Sl):Prop:=
 Fn Pz 42 #[vS z] h
 (fun A B=>∃d,iS A d /\
 QSI ⟨none,0,0⟩ 0 B fun C i e b D=>
 sB (decide (e<(d.n:Int)))
 (NB d.a fun E F=>Ib e d.n /\
 ∃j,rI b ⟨E,F+e.toNat*1,none⟩ j /\
 ∃k,rS b ⟨m.block,m.off+10,none⟩ k /\
 NB k.a fun G H=>Ib j k.n /\
 ∃f,rS b ⟨G,H+j.toNat*1,none⟩ f /\
 QSI i 0 b fun I o g c J=>
 sB (decide (g<(f.n:Int)))
 (NB f.a fun K L=>Ib g f.n /\
 ∃p q r s,aL15 c ⟨K,L+g.toNat*4,none⟩ p q r s /\
 Wn c [.bool false,vI 0,vI 0,vI 0] 175 fun M=>
 Wp M (aS c 0) 4 (L15 p q r s) fun l=>
 ∃t u v,aL1 l (aS c 0) t u v /\
 Wn l (L1 t u v) 116 fun N=>
 App Pz 151 151 (vS o) (.slice (some (aS l 0)) 1 1) N fun O P=>
 ∃w,w<J/\I O (wrap .i64 (g+1)) P w)
 (∃x,x<D/\C o (wrap .i64 (e+1)) c x))
 (Fn Pz 137 #[vS i,.func (.func 138) #[] #[]] b
 (fun Q S=>Q=.tuple ⟨[]⟩ /\
 Fn Pz 139 #[vS i] S
 (fun T U=>∃y,iS T y /\
 R (vS y) U))))
theorem vc87 (p0:Addr) (p1:Sl) (H:@W87 h R p0 p1):Fn Pz 87 #[.pointer (some p0),vS p1] h R:=fnJ (A:=(.s .z (.s .z (.s (.s .z (.b (.l [(5,.one (.slice)),(13,.one (.int .i64))] (.s .z (.s .z (.s (.b (.s .z (AJ 5 25))) .z)))))) .z)))) H
def W138 (pa:Bool) (pb pc:Int) (pd:Bool) (pe pf:Int):Prop:=
 Wn h (L1 pa pb pc) 116 fun b=>
 Wn b (L1 pd pe pf) 116 fun a=>
 ∃e,rB a (aS h 0) e /\
 ∃f,rB a (aS b 0) f /\
 sB (!(e==f))
 (∃g,rB a (aS h 0) g /\
 sB g
 (R (vI (-1)) a)
 (R (vI 1) a))
 (∃i,rI a (aS h 1) i /\
 ∃j,rI a (aS b 1) j /\
 ∃k,rI a (aS h 2) k /\
 ∃l,rI a (aS b 2) l /\
 Fn Pz 110 #[vI i,vI j] a
 (fun p c=>∃m,iI p m /\
 Sm [(aS b 2),(aS h 2)] a c /\
 Fn Pz 110 #[vI k,vI l] c
 (fun q d=>∃n,iI q n /\
 Sm [(aS b 1),(aS h 1)] c d /\
 Wn d [vI m,vI n] 3 fun r=>
 Fn Pz 109 #[.slice (some (aS d 0)) 2 2] r
 (fun s t=>∃o,iI s o /\
 R (vI o) t))))
theorem vc138 (pa:Bool) (pb pc:Int) (pd:Bool) (pe pf:Int) (H:@W138 h R pa pb pc pd pe pf):Fn Pz 138 #[.agg ⟨(L1 pa pb pc)⟩,.agg ⟨(L1 pd pe pf)⟩] h R:=fnJ (A:=.z) H
def W140 (f:Addr) (d:Sl):Prop:=
 QSI ⟨none,0,0⟩ 0 h fun x g c b y=>
 sB (decide (c<(d.n:Int)))
 (NB d.a fun z A=>Ib c d.n /\
 ∃i j k,aL1 b ⟨z,A+c.toNat*3,none⟩ i j k /\
 Wn b [.bool false,vI 0,vI 0] 116 fun B=>
 Wp B (aS b 0) 3 (L1 i j k) fun e=>
 ∃l m o,aL1 e (aS b 0) l m o /\
 ∃p,rI e ⟨f.block,f.off+8,none⟩ p /\
 Fn Pz 194 #[.agg ⟨(L1 l m o)⟩,vI p] e
 (fun C q=>∃(r:Int) (s:Bool) (t u:Int) (v:Sl),C=.agg ⟨(L8 r s t u v)⟩ /\
 Wn q (L8 r s t u v) 60 fun D=>
 App Pz 56 56 (vS g) (.slice (some (aS q 0)) 1 1) D fun E F=>
 ∃w,w<y/\x E (wrap .i64 (c+1)) F w))
 (R (vS g) b)
theorem vc140 (p0:Addr) (p1:Sl) (H:@W140 h R p0 p1):Fn Pz 140 #[.pointer (some p0),vS p1] h R:=fnJ (A:=(.s .z (.s .z (.s (AJ 5 10) .z)))) H
def W194 (pa:Bool) (pb pc m:Int):Prop:=
 Wn h (L1 pa pb pc) 116 fun b=>
 Wn b [vI 0,.bool false,vI 0,vI 0,vN] 60 fun a=>
 ∃c,rB a (aS h 0) c /\
 ∃d,rI a (aS h 1) d /\
 ∃e,rI a (aS h 2) e /\
 Wp a (aS b 0) 5 [vI m,.bool c,vI d,vI e,vN] fun f=>
 ∃g i j k l,aL8 f (aS b 0) g i j k l /\
 R (.agg ⟨(L8 g i j k l)⟩) f
theorem vc194 (pa:Bool) (pb pc p1:Int) (H:@W194 h R pa pb pc p1):Fn Pz 194 #[.agg ⟨(L1 pa pb pc)⟩,vI p1] h R:=fnJ (A:=.z) H
def W88 (pa:ByteArray) (pb pc:Sl) (pd pe pf:Int) (pg ph:Sl) (x c:Int):Prop:=
 Wn h (L0 pa pb pc pd pe pf pg ph) 27 fun i=>
 ∃j k l m n o p q,aL0 i (aS h 0) j k l m n o p q /\
 Fn Pz 52 #[.agg ⟨(L0 j k l m n o p q)⟩,vI x] i
 (fun y a=>∃b:Option Addr,∃d:Int,y=.tuple ⟨[.pointer b,vI d]⟩ /\
 sB (d != 0)
 (R (.tuple ⟨[vN,.bool false,vI d]⟩) a)
 (sB (decide (c<0))
 (R (.tuple ⟨[vN,.bool false,vI 2]⟩) a)
 (∃r,rI a (aS h 3) r /\
 sB (decide (c>=r))
 (R (.tuple ⟨[vN,.bool false,vI 2]⟩) a)
 (Wn a [vI c] 3 fun z=>
 Fn Pz 53 #[.pointer b,.slice (some (aS a 0)) 1 1] z
 (fun A e=>∃f,iS A f /\
 ∃s,rI e (aS h 5) s /\
 Fn Pz 87 #[.pointer b,vS f] e
 (fun B g=>∃t,iS B t /\
 Sm [(aS h 5)] e g /\
 Fn Pz 140 #[.pointer b,vS t] g
 (fun C u=>∃v,iS C v /\
 Sm [(aS h 5)] g u /\
 Fn Pz 29 #[vS f,vI s] u
 (fun D E=>∃w,iB D w /\
 R (.tuple ⟨[vS v,.bool w,vI 0]⟩) E))))))))
theorem vc88 (pa:ByteArray) (pb pc:Sl) (pd pe pf:Int) (pg ph:Sl) (p1 p2:Int) (H:@W88 h R pa pb pc pd pe pf pg ph p1 p2):Fn Pz 88 #[.agg ⟨(L0 pa pb pc pd pe pf pg ph)⟩,vI p1,vI p2] h R:=fnJ (A:=.z) H
def W84 (g:Sl) (i:FuncId) (p1c:Option Addr):Prop:=
 QI 0 h fun l b f m=>
 sB (decide (b<(g.n:Int)))
 (NB g.a fun o p=>Ib b g.n /\
 ∃j,rS f ⟨o,p+b.toNat*1,none⟩ j /\
 bif callable Pz i then Fn Pz i #[vS j,.pointer p1c] f
 (fun k c=>∃d,iB k d /\
 sB d
 (R (vI b) c)
 (∃e,e<m/\l (wrap .i64 (b+1)) c e)) else ExtW Pz i #[vS j,.pointer p1c] f
 (fun k c=>∃d,iB k d /\
 sB d
 (R (vI b) c)
 (∃e,e<m/\l (wrap .i64 (b+1)) c e)))
 (R (vI (-1)) f)
theorem vc84 (p0:Sl) (p1:FuncId) (p1c:Option Addr) (H:@W84 h R p0 p1 p1c):Fn Pz 84 #[vS p0,.func (.func p1) #[] #[.pointer p1c]] h R:=fnJ (A:=(.s .z (.s (AI 8) .z))) H
def W85 (c:Sl) (d:Addr):Prop:=
 ∃a,rS h d a /\
 Fn Pz 86 #[vS c,vS a] h
 (fun e f=>∃b,iB e b /\
 R (.bool b) f)
theorem vc85 (p0:Sl) (c0:Addr) (H:@W85 h R p0 c0):Fn Pz 85 #[vS p0,.pointer (some c0)] h R:=fnJ (A:=.z) H
def W83 (w:Sl) (a:Addr) (c:Addr):Prop:=
 Wn h [vS w] 67 fun k=>
 ∃l,rS k a l /\
 Fn Pz 84 #[vS l,.func (.func 85) #[] #[.pointer (some (aS h 0))]] k
 (fun x b=>∃e,iI x e /\
 sB (decide (e>=0))
 (R (vI e) b)
 (∃m,rS b a m /\
 ∃o,rS b (aS h 0) o /\
 ∃p,rS b ⟨a.block,a.off+1,none⟩ p /\
 ∃q,rS b (aS h 0) q /\
 ∃r,rI b ⟨c.block,c.off+5,none⟩ r /\
 Wn b [vS o] 67 fun f=>
 Sm [⟨c.block,c.off+5,none⟩,(aS h 0),⟨a.block,a.off+1,none⟩,a] b f /\
 App Pz 83 83 (vS m) (.slice (some (aS b 0)) 1 1) f fun y g=>
 Sm [⟨c.block,c.off+5,none⟩,(aS h 0),⟨a.block,a.off+1,none⟩] f g /\
 Fn Pz 29 #[vS q,vI r] g
 (fun z d=>∃s,iB z s /\
 Sm [⟨a.block,a.off+1,none⟩,(aS h 0),a] g d /\
 Wn d [.bool s] 4 fun i=>
 Sm [⟨a.block,a.off+1,none⟩,(aS h 0),a] d i /\
 App Pz 30 30 (vS p) (.slice (some (aS d 0)) 1 1) i fun A j=>
 Sm [(aS h 0),a] i j /\
 Wp j a 1 [vS y] fun t=>
 Sm [⟨c.block,c.off+5,none⟩,(aS h 0)] j t /\
 Wp t ⟨a.block,a.off+1,none⟩ 1 [vS A] fun u=>
 ∃v,rS u a v /\
 R (vI (wrap .i64 ((v.n:Int)-1))) u)))
theorem vc83 (p0:Sl) (c0:Addr) (c1:Addr) (H:@W83 h R p0 c0 c1):Fn Pz 83 #[vS p0,.pointer (some c0),.pointer (some c1)] h R:=fnJ (A:=.z) H
def W39 (pa:ByteArray) (pb pc:Sl) (pd pe pf:Int) (pg ph:Sl) (p1:Int):Prop:=
 Wn h (L0 pa pb pc pd pe pf pg ph) 27 fun d=>
 Wn d [vN,vN,vN] 85 fun r=>
 ∃s t u v w x y z,aL0 r (aS h 0) s t u v w x y z /\
 Fn Pz 52 #[.agg ⟨(L0 s t u v w x y z)⟩,vI p1] r
 (fun l0 b=>∃i:Option Addr,∃m:Int,l0=.tuple ⟨[.pointer i,vI m]⟩ /\
 sB (m != 0)
 (Wp b (aS d 0) 3 [vN,vN,vN] fun A=>
 ∃B C D,aL12 A (aS d 0) B C D /\
 R (.tuple ⟨[.agg ⟨(L12 B C D)⟩,vI m]⟩) A)
 (Wn b [vN,vN,vN] 85 fun o=>
 ∃E,rI o (aS h 4) E /\
 Wn o [vI E] 3 fun m0=>
 Fn Pz 53 #[.pointer i,.slice (some (aS o 0)) 1 1] m0
 (fun n0 o0=>∃F,iS n0 F /\
 Fn Pz 83 #[vS F,.pointer (some (aS b 0)),.pointer (some (aS h 0))] o0
 (fun p0 q0=>∃r0,iI p0 r0 /\
 QI 0 q0 fun s0 e f t0=>
 ∃G,rS f (aS b 0) G /\
 sB (decide (e<(G.n:Int)))
 (∃p,rS f (aS b 0) p /\
 NB p.a fun u0 v0=>Ib e p.n /\
 ∃H,rS f ⟨u0,v0+e.toNat*1,none⟩ H /\
 Fn Pz 87 #[.pointer i,vS H] f
 (fun w0 x0=>∃j,iS w0 j /\
 QI 0 x0 fun y0 k c z0=>
 sB (decide (k<(j.n:Int)))
 (NB j.a fun A0 B0=>Ib k j.n /\
 ∃I J K,aL1 c ⟨A0,B0+k.toNat*3,none⟩ I J K /\
 Wn c [.bool false,vI 0,vI 0] 116 fun C0=>
 Wp C0 (aS c 0) 3 (L1 I J K) fun l=>
 ∃q,rS l (aS b 0) q /\
 NB q.a fun D0 E0=>Ib e q.n /\
 ∃L,rS l ⟨D0,E0+e.toNat*1,none⟩ L /\
 ∃M N O,aL1 l (aS c 0) M N O /\
 Fn Pz 56 #[.pointer i,vS L,.agg ⟨(L1 M N O)⟩] l
 (fun F0 G0=>∃P,iS F0 P /\
 Fn Pz 83 #[vS P,.pointer (some (aS b 0)),.pointer (some (aS h 0))] G0
 (fun H0 g=>∃Q,iI H0 Q /\
 ∃S,rS g (aS b 2) S /\
 ∃T,rB g (aS c 0) T /\
 ∃U,rI g (aS c 1) U /\
 ∃V,rI g (aS c 2) V /\
 Wn g [vI e,.bool T,vI U,vI V,vI Q,.bool false] 45 fun I0=>
 App Pz 31 31 (vS S) (.slice (some (aS g 0)) 1 1) I0 fun J0 K0=>
 Wp K0 (aS b 2) 1 [vS J0] fun M0=>
 ∃W,W<z0/\y0 (wrap .i64 (k+1)) M0 W)))
 (∃X,rS c (aS b 0) X /\
 sB (decide ((X.n:Int)>200))
 (Wp c (aS d 0) 3 [vN,vN,vN] fun Y=>
 ∃Z a0 b0,aL12 Y (aS d 0) Z a0 b0 /\
 R (.tuple ⟨[.agg ⟨(L12 Z a0 b0)⟩,vI 6]⟩) Y)
 (∃c0,c0<t0/\s0 (wrap .i64 (e+1)) c c0))))
 (∃d0 e0 f0,aL12 f (aS b 0) d0 e0 f0 /\
 Wp f (aS d 0) 3 (L12 d0 e0 f0) fun g0=>
 ∃h0 i0 j0,aL12 g0 (aS d 0) h0 i0 j0 /\
 R (.tuple ⟨[.agg ⟨(L12 h0 i0 j0)⟩,vI 0]⟩) g0)))))
theorem vc39 (pa:ByteArray) (pb pc:Sl) (pd pe pf:Int) (pg ph:Sl) (p1:Int) (H:@W39 h R pa pb pc pd pe pf pg ph p1):Fn Pz 39 #[.agg ⟨(L0 pa pb pc pd pe pf pg ph)⟩,vI p1] h R:=fnJ (A:=(.s .z (.s .z (.s .z (.s .z (.s .z (.s .z (.s (.s .z (.b (.l [(10,.one (.int .i64))] (.s .z (.s (.b (.s (AI 47) .z)) .z))))) .z)))))))) H
def W109 (d:Sl):Prop:=
 QI 0 h fun g b c i=>
 sB (decide (b<(d.n:Int)))
 (NB d.a fun j k=>Ib b d.n /\
 ∃e,rI c ⟨j,k+b.toNat*1,none⟩ e /\
 sB (e != 0)
 (R (vI e) c)
 (∃f,f<i/\g (wrap .i64 (b+1)) c f))
 (R (vI 0) c)
theorem vc109 (p0:Sl) (H:@W109 h R p0):Fn Pz 109 #[vS p0] h R:=fnJ (A:=(.s .z (.s .z (.s (AI 8) .z)))) H
def W110 (b c:Int):Prop:=
 Fn Pz 151 #[vI b] h
 (fun f g=>∃e,iB f e /\
 Fn Pz 151 #[vI c] g
 (fun i a=>∃d,iB i d /\
 sB e
 (sB d
 (R (vI 0) a)
 (R (vI (-1)) a))
 (sB d
 (R (vI 1) a)
 (sB (decide (b<c))
 (R (vI (-1)) a)
 (sB (decide (b>c))
 (R (vI 1) a)
 (R (vI 0) a))))))
theorem vc110 (p0 p1:Int) (H:@W110 h R p0 p1):Fn Pz 110 #[vI p0,vI p1] h R:=fnJ (A:=.z) H
def W151 (a:Int):Prop:=
 R (.bool (a != a)) h
theorem vc151 (p0:Int) (H:@W151 h R p0):Fn Pz 151 #[vI p0] h R:=fnJ (A:=.z) H
def W139 (b:Sl):Prop:=
 sB (decide ((b.n:Int)<2))
 (R (vS b) h)
 (QI 1 h fun E d i F=>
 sB (decide (d<(b.n:Int)))
 (NB b.a fun G H=>Ib d b.n /\
 ∃j k l,aL1 i ⟨G,H+d.toNat*3,none⟩ j k l /\
 NB b.a fun I J=>(0<=((wrap .i64 (d-1)):Int)/\((wrap .i64 (d-1)):Int)<(b.n:Nat)) /\
 ∃m o p,aL1 i ⟨I,J+Int.toNat (wrap .i64 (d-1))*3,none⟩ m o p /\
 sB ((j==m)&&((k==o)&&((l==p)&&true)))
 (((0:Int)<=(d:Int)/\(d:Int)<=((b.n:Nat):Int)/\((b.n:Nat):Int)<=(b.c:Nat)) /\
 QII d 1 i fun q e f g r=>
 sB (decide (f<(((Int.toNat (b.n:Nat)-d.toNat):Nat):Int)))
 (NB (subA b.a (d.toNat) b.c 3) fun K L=>(0<=(f:Int)/\(f:Int)<((Int.toNat (b.n:Nat)-d.toNat):Nat)) /\
 ∃s t u,aL1 g ⟨K,L+f.toNat*3,none⟩ s t u /\
 NB (subA b.a (d.toNat) b.c 3) fun M N=>(0<=((wrap .i64 (f-1)):Int)/\((wrap .i64 (f-1)):Int)<((Int.toNat (b.n:Nat)-d.toNat):Nat)) /\
 ∃v w x,aL1 g ⟨M,N+Int.toNat (wrap .i64 (f-1))*3,none⟩ v w x /\
 sB (!((s==v)&&((t==w)&&((u==x)&&true))))
 (NB (subA b.a (d.toNat) b.c 3) fun O P=>(0<=(f:Int)/\(f:Int)<((Int.toNat (b.n:Nat)-d.toNat):Nat)) /\
 ∃y z A,aL1 g ⟨O,P+f.toNat*3,none⟩ y z A /\
 NB b.a fun Q S=>Ib e b.n /\
 Wp g ⟨Q,S+e.toNat*3,none⟩ 3 (L1 y z A) fun T=>
 ∃B,B<r/\q (wrap .i64 (e+1)) (wrap .i64 (f+1)) T B)
 (∃C,C<r/\q e (wrap .i64 (f+1)) g C))
 (((0:Int)<=(e:Int)/\(e:Int)<=((b.n:Nat):Int)/\((b.n:Nat):Int)<=(b.c:Nat)) /\
 RunW Pz (Builtin.clear_ #[151] 0 #[.slice (subA b.a (e.toNat) b.c 3) (Int.toNat (b.n:Nat)-e.toNat) (b.c-e.toNat)]) g (fun V U=>
 ((0:Int)<=(0:Int)/\(0:Int)<=(e:Int)/\(e:Int)<=(b.c:Nat)) /\
 R (.slice (subA b.a (Int.toNat 0) b.c 3) (e.toNat-Int.toNat 0) (b.c-Int.toNat 0)) U)))
 (∃D,D<F/\E (wrap .i64 (d+1)) i D))
 (R (vS b) i))
theorem vc139 (p0:Sl) (H:@W139 h R p0):Fn Pz 139 #[vS p0] h R:=fnJ (A:=(.s .z (.s .z (.s (.s .z (.b (.l [(3,.one (.int .i64))] (.s .z (.s (.b (.s .z (.c (.s .z (.s (.s .z (.b (.l [(3,.one (.int .i64)),(5,.one (.int .i64))] .z))) .z)) .z))) .z))))) .z)))) H
def V41a (a n h:Heap) (R:Value->Heap->Prop):Prop:=
 ∃b c d e f,aL11 a (aS n 0) b c d e f/\Wp a (aS h 0) 5 (L11 b c d e f) fun g=>∃i j k l m,aL11 g (aS h 0) i j k l m/\R (.tuple ⟨[.agg ⟨(L11 i j k l m)⟩,.bool false]⟩) g
def V41b (b:Heap) (d:Addr) (e:Int) (l:Heap) (m:Nat) (o:Bool->Int->Heap->Nat->Prop) (p:Int):Prop:=
 ∃c,rS b ⟨d.block,d.off+3,none⟩ c/\NB c.a fun q r=>Ib e c.n/\∃f g h i j,aL11 b ⟨q,r+e.toNat*5,none⟩ f g h i j/\Wp b (aS l 0) 5 (L11 f g h i j) fun s=>∃k,k<m/\o true (wrap .i64 (p+1)) s k
def W41 (d:Addr) (i:Sl):Prop:=
 Wn h [.bool false,vI 0,.bool false,vI 0,vI 0] 93 fun f=>Wn f [.bool false,vI 0,.bool false,vI 0,vI 0] 93 fun h2=>QBI false 0 h2 fun p E j b q=>sB (decide (j<(i.n:Int))) (NB i.a fun b9 q0=>Ib j i.n/\∃c,rI b ⟨b9,q0+j.toNat*1,none⟩ c/\∃l:Heap->Prop,(∃r,rS b d r/\NB r.a fun r0 s0=>Ib c r.n/\∃F,rS b ⟨r0,s0+c.toNat*1,none⟩ F/\sB (decide ((F.n:Int)>0)) (∃s,rS b d s/\NB s.a fun t0 u0=>Ib c s.n/\∃t,rS b ⟨t0,u0+c.toNat*1,none⟩ t/\NB t.a fun v0 w0=>Ib 0 t.n/\∃G,rB b ⟨v0,w0+Int.toNat 0*3,none⟩ G/\sB G (∃u,rS b ⟨d.block,d.off+1,none⟩ u/\NB u.a fun x0 y0=>Ib c u.n/\∃H,rB b ⟨x0,y0+c.toNat*1,none⟩ H/\sB H (V41a b f h R) (∃v,rS b d v/\NB v.a fun z0 A0=>Ib c v.n/\∃w,rS b ⟨z0,A0+c.toNat*1,none⟩ w/\∃x,rS b d x/\NB x.a fun B0 C0=>Ib c x.n/\∃m,rS b ⟨B0,C0+c.toNat*1,none⟩ m/\NB w.a fun D0 E0=>(0<=((wrap .i64 ((m.n:Int)-1)):Int)/\((wrap .i64 ((m.n:Int)-1)):Int)<(w.n:Nat))/\∃I,rB b ⟨D0,E0+Int.toNat (wrap .i64 ((m.n:Int)-1))*3,none⟩ I/\sB (!I) (V41a b f h R) (QI 0 b fun F0 o e G0=>sB (decide (o<(i.n:Int))) (NB i.a fun H0 I0=>Ib o i.n/\∃k,rI e ⟨H0,I0+o.toNat*1,none⟩ k/\∃y,rS e ⟨d.block,d.off+1,none⟩ y/\NB y.a fun J K=>Ib k y.n/\∃L,rB e ⟨J,K+k.toNat*1,none⟩ L/\sB L (V41a e f h R) (∃z,rS e d z/\NB z.a fun J0 K0=>Ib c z.n/\∃M,rS e ⟨J0,K0+c.toNat*1,none⟩ M/\∃A,rS e d A/\NB A.a fun L0 M0=>Ib k A.n/\∃N,rS e ⟨L0,M0+k.toNat*1,none⟩ N/\Fn Pz 89 #[vS M,vS N] e (fun N0 B=>∃O,iB N0 O/\Sm [⟨J,K+k.toNat*1,none⟩,⟨d.block,d.off+1,none⟩] e B/\sB (!O) (V41a B f h R) (∃P,P<G0/\F0 (wrap .i64 (o+1)) B P)))) (l e)))) (l b)) (l b))/\∀(_:Env) (g:Heap),l g->(∃C,rS g ⟨d.block,d.off+2,none⟩ C/\NB C.a fun O0 P0=>Ib c C.n/\∃Q,rB g ⟨O0,P0+c.toNat*1,none⟩ Q/\sB (!Q) (∃S,S<q/\p E (wrap .i64 (j+1)) g S) (sB E (∃D,rS g ⟨d.block,d.off+3,none⟩ D/\NB D.a fun Q0 R0=>Ib c D.n/\∃T U V W X,aL11 g ⟨Q0,R0+c.toNat*5,none⟩ T U V W X/\∃Y Z a0 b0 c0,aL11 g (aS f 0) Y Z a0 b0 c0/\sB (!((T==Y)&&((U==Z)&&(((V==a0)&&((W==b0)&&((X==c0)&&true)))&&true)))) (V41a g f h R) (V41b g d c f q p j)) (V41b g d c f q p j)))) (∃d0 e0 f0 g0 h0,aL11 b (aS f 0) d0 e0 f0 g0 h0/\Wp b (aS h 0) 5 (L11 d0 e0 f0 g0 h0) fun i0=>∃j0 k0 l0 m0 n0,aL11 i0 (aS h 0) j0 k0 l0 m0 n0/\R (.tuple ⟨[.agg ⟨(L11 j0 k0 l0 m0 n0)⟩,.bool true]⟩) i0)
theorem vc41 (p0:Addr) (p1:Sl) (H:@W41 h R p0 p1):Fn Pz 41 #[.pointer (some p0),vS p1] h R:=fnJ (A:=(.s .z (.s .z (.s .z (.s (.s .z (.b (.l [(7,.one (.bool)),(15,.one (.int .i64))] (.s .z (.s .z (.s (.b (.s .z (.j [] (.s .z (.s .z (.c (.s .z (AI 73)) .z))) .z))) .z)))))) .z))))) H
def W76 (pa:ByteArray) (pb pc:Sl) (pd pe pf:Int) (pg ph:Sl):Prop:=
 Wn h (L0 pa pb pc pd pe pf pg ph) 27 fun k=>
 ∃l,rT k (aS h 0) l /\
 Fn Pz 132 #[.string l] k
 (fun u b=>∃m,iB u m /\
 sB (!m)
 (R (.bool false) b)
 (∃o,rS b (aS h 1) o /\
 sB (decide ((o.n:Int)<1))
 (R (.bool false) b)
 (∃p,rS b (aS h 1) p /\
 sB (decide ((p.n:Int)>6))
 (R (.bool false) b)
 (∃f,rS b (aS h 1) f /\
 QI 0 b fun v d g w=>
 sB (decide (d<(f.n:Int)))
 (NB f.a fun x y=>Ib d f.n /\
 ∃i,rT g ⟨x,y+d.toNat*1,none⟩ i /\
 Fn Pz 132 #[.string i] g
 (fun z j=>∃q,iB z q /\
 sB (!q)
 (R (.bool false) j)
 (∃e,rS j (aS h 1) e /\
 ((0:Int)<=(0:Int)/\(0:Int)<=(d:Int)/\(d:Int)<=(e.c:Nat)) /\
 Fn Pz 133 #[.slice (subA e.a (Int.toNat 0) e.c 1) (d.toNat-Int.toNat 0) (e.c-Int.toNat 0),.string i] j
 (fun A r=>∃s,iB A s /\
 sB s
 (R (.bool false) r)
 (∃t,t<w/\v (wrap .i64 (d+1)) r t)))))
 (R (.bool true) g)))))
theorem vc76 (pa:ByteArray) (pb pc:Sl) (pd pe pf:Int) (pg ph:Sl) (H:@W76 h R pa pb pc pd pe pf pg ph):Fn Pz 76 #[.agg ⟨(L0 pa pb pc pd pe pf pg ph)⟩] h R:=fnJ (A:=(.s .z (.s .z (.s (AI 24) .z)))) H
def W77 (pa:ByteArray) (pb pc:Sl) (pd pe pf:Int) (pg ph:Sl):Prop:=
 Wn h (L0 pa pb pc pd pe pf pg ph) 27 fun c=>
 ∃i,rI c (aS h 3) i /\
 sB (decide (i<1))
 (R (.bool false) c)
 (∃j,rI c (aS h 3) j /\
 sB (decide (j>200))
 (R (.bool false) c)
 (∃k,rI c (aS h 4) k /\
 ∃l,rI c (aS h 5) l /\
 sB (decide ((imin k l)<0))
 (R (.bool false) c)
 (∃m,rI c (aS h 4) m /\
 ∃o,rI c (aS h 5) o /\
 ∃p,rI c (aS h 3) p /\
 sB (decide ((imax m o)>=p))
 (R (.bool false) c)
 (∃q,rS c (aS h 6) q /\
 sB (decide ((q.n:Int)>400))
 (R (.bool false) c)
 (∃f,rS c (aS h 6) f /\
 QI 0 c fun Q g e S=>
 sB (decide (g<(f.n:Int)))
 (NB f.a fun T U=>Ib g f.n /\
 ∃r s t u v w,aL3 e ⟨T,U+g.toNat*6,none⟩ r s t u v w /\
 Wn e [vI 0,vI 0,vI 0,vI 0,vI 0,.bool false] 55 fun V=>
 Wp V (aS e 0) 6 (L3 r s t u v w) fun d=>
 ∃x y z,aL2 d (aS e 1) x y z /\
 Wn d [vI 0,vI 0,vI 0] 53 fun W=>
 Wp W (aS d 0) 3 (L2 x y z) fun b=>
 ∃A,rI b (aS e 0) A /\
 ∃B,rI b (aS e 4) B /\
 ∃C,rI b (aS d 0) C /\
 ∃D,rI b (aS d 1) D /\
 ∃E,rI b (aS d 2) E /\
 sB (decide ((imin (imin (imin (imin A B) C) D) E)<0))
 (R (.bool false) b)
 (∃F,rI b (aS e 0) F /\
 ∃G,rI b (aS e 4) G /\
 ∃H,rI b (aS h 3) H /\
 sB (decide ((imax F G)>=H))
 (R (.bool false) b)
 (∃I,rI b (aS d 0) I /\
 ∃J,rI b (aS d 1) J /\
 ∃K,rS b (aS h 1) K /\
 sB (decide ((imax I J)>=(K.n:Int)))
 (R (.bool false) b)
 (∃L,rI b (aS d 0) L /\
 ∃M,rI b (aS d 1) M /\
 sB (L==M)
 (R (.bool false) b)
 (∃N,rI b (aS d 2) N /\
 ∃O,rS b (aS h 2) O /\
 sB (decide (N>=(O.n:Int)))
 (R (.bool false) b)
 (∃P,P<S/\Q (wrap .i64 (g+1)) b P))))))
 (R (.bool true) e))))))
theorem vc77 (pa:ByteArray) (pb pc:Sl) (pd pe pf:Int) (pg ph:Sl) (H:@W77 h R pa pb pc pd pe pf pg ph):Fn Pz 77 #[.agg ⟨(L0 pa pb pc pd pe pf pg ph)⟩] h R:=fnJ (A:=(.s .z (.s .z (.s (AI 41) .z)))) H
def W78 (a:Sl):Prop:=
 sB ((a.n:Int)==0)
 (R (.bool true) h)
 (Fn Pz 134 #[vS a,vI 0] h
 (fun c d=>∃(e:Sl) (b:Int),c=.tuple ⟨[vS e,vI b]⟩ /\
 R (.bool (b==0)) d))
theorem vc78 (p0:Sl) (H:@W78 h R p0):Fn Pz 78 #[vS p0] h R:=fnJ (A:=.z) H
def V79b (a b c:Heap) (R:Value->Heap->Prop) (d:Nat) (e:Int->Heap->Nat->Prop) (f:Int):Prop:=
 ∃g,rB a (aS b 5) g/\sB g (∃h,rI a (aS c 4) h/\∃i,rI a (aS b 0) i/\sB (h==i) (∃j,rI a (aS b 1) j/\∃k,rI a (aS c 1) k/\sB (j != k) (R (.bool false) a) (∃l,rI a (aS b (1+2)) l/\∃m,rI a (aS c (1+2)) m/\sB (l != m) (R (.bool false) a) (∃n,n<d/\e (wrap .i64 (f+1)) a n))) (∃o,o<d/\e (wrap .i64 (f+1)) a o)) (∃p,p<d/\e (wrap .i64 (f+1)) a p)
def V79a (j h:Heap) (k:Int) (d:Heap) (R:Value->Heap->Prop) (E:Nat) (F:Int->Heap->Nat->Prop):Prop:=
 ∃f,rS j (aS h 6) f/\QI 0 j fun g e c i=>sB (decide (e<(f.n:Int))) (NB f.a fun G H=>Ib e f.n/\∃l m o p q r,aL3 c ⟨G,H+e.toNat*6,none⟩ l m o p q r/\Wn c [vI 0,vI 0,vI 0,vI 0,vI 0,.bool false] 55 fun I=>Wp I (aS c 0) 6 (L3 l m o p q r) fun b=>sB (k != e) (∃s,rI b (aS d 0) s/\∃t,rI b (aS c 0) t/\sB (s==t) (∃u v w,aL2 b (aS d 1) u v w/\∃x y z,aL2 b (aS c 1) x y z/\sB ((u==x)&&((v==y)&&((w==z)&&true))) (R (.bool false) b) (∃A,rI b (aS d 1) A/\∃B,rI b (aS c 1) B/\sB (A != B) (R (.bool false) b) (∃C,rB b (aS d 5) C/\sB C (R (.bool false) b) (V79b b d c R i g e)))) (V79b b d c R i g e)) (V79b b d c R i g e)) (∃D,D<E/\F (wrap .i64 (k+1)) c D)
def W79 (pa:ByteArray) (pb pc:Sl) (pd pe pf:Int) (pg ph:Sl):Prop:=
 Wn h (L0 pa pb pc pd pe pf pg ph) 27 fun f=>∃e,rS f (aS h 6) e/\QI 0 f fun g d b i=>sB (decide (d<(e.n:Int))) (NB e.a fun v w=>Ib d e.n/\∃j k l m o p,aL3 b ⟨v,w+d.toNat*6,none⟩ j k l m o p/\Wn b [vI 0,vI 0,vI 0,vI 0,vI 0,.bool false] 55 fun x=>Wp x (aS b 0) 6 (L3 j k l m o p) fun c=>∃q,rI c (aS b 0) q/\∃r,rI c (aS h 5) r/\sB (q==r) (R (.bool false) c) (∃s,rB c (aS b 5) s/\sB s (∃t,rI c (aS b 0) t/\∃u,rI c (aS h 4) u/\sB (t==u) (R (.bool false) c) (V79a c h d b R i g)) (V79a c h d b R i g))) (R (.bool true) b)
theorem vc79 (pa:ByteArray) (pb pc:Sl) (pd pe pf:Int) (pg ph:Sl) (H:@W79 h R pa pb pc pd pe pf pg ph):Fn Pz 79 #[.agg ⟨(L0 pa pb pc pd pe pf pg ph)⟩] h R:=fnJ (A:=(.s .z (.s (.s .z (.b (.l [(10,.one (.int .i64))] (.s .z (.s .z (.s (.b (.s .z (.s .z (AI 34)))) .z)))))) .z))) H
def W80 (pa:ByteArray) (pb pc:Sl) (pd pe pf:Int) (pg ph:Sl):Prop:=
 Wn h (L0 pa pb pc pd pe pf pg ph) 27 fun k=>
 ∃d,rS k (aS h 7) d /\
 QII (-1) 0 k fun A B e c C=>
 sB (decide (e<(d.n:Int)))
 (NB d.a fun D E=>Ib e d.n /\
 ∃l m o,aL2 c ⟨D,E+e.toNat*3,none⟩ l m o /\
 Wn c [vI 0,vI 0,vI 0] 63 fun F=>
 Wp F (aS c 0) 3 (L2 l m o) fun b=>
 ∃p,rI b (aS c 0) p /\
 sB (decide (p<=B))
 (R (.bool false) b)
 (∃q,rI b (aS c 1) q /\
 sB (decide (q<1))
 (R (.bool false) b)
 (∃r,rI b (aS c 1) r /\
 sB (decide (r>1000))
 (R (.bool false) b)
 (∃s,rI b (aS c 2) s /\
 sB (decide (s<0))
 (R (.bool false) b)
 (∃t,rI b (aS c 2) t /\
 ∃u,rS b (aS h 6) u /\
 sB (decide (t>=(u.n:Int)))
 (R (.bool false) b)
 (∃f,rS b (aS h 6) f /\
 ∃g,rI b (aS c 2) g /\
 NB f.a fun G H=>Ib g f.n /\
 ∃v,rI b ⟨G,H+g.toNat*6,none⟩ v /\
 ∃w,rI b (aS c 0) w /\
 sB (v != w)
 (R (.bool false) b)
 (∃i,rS b (aS h 6) i /\
 ∃j,rI b (aS c 2) j /\
 NB i.a fun I J=>Ib j i.n /\
 ∃x,rB b ⟨I,J+j.toNat*6+5,none⟩ x /\
 sB x
 (R (.bool false) b)
 (∃y,rI b (aS c 0) y /\
 ∃z,z<C/\A y (wrap .i64 (e+1)) b z))))))))
 (R (.bool true) c)
theorem vc80 (pa:ByteArray) (pb pc:Sl) (pd pe pf:Int) (pg ph:Sl) (H:@W80 h R pa pb pc pd pe pf pg ph):Fn Pz 80 #[.agg ⟨(L0 pa pb pc pd pe pf pg ph)⟩] h R:=fnJ (A:=(.s .z (.s .z (.s (.s .z (.b (.l [(3,.one (.int .i64)),(9,.one (.int .i64))] .z))) .z)))) H
def W135 (d:Sl) (g:Int):Prop:=
 QI 0 h fun i b c j=>
 sB (decide (b<(d.n:Int)))
 (NB d.a fun k l=>Ib b d.n /\
 ∃e,rI c ⟨k,l+b.toNat*1,none⟩ e /\
 sB (g==e)
 (R (vI b) c)
 (∃f,f<j/\i (wrap .i64 (b+1)) c f))
 (R (vI (-1)) c)
theorem vc135 (p0:Sl) (p1:Int) (H:@W135 h R p0 p1):Fn Pz 135 #[vS p0,vI p1] h R:=fnJ (A:=(.s .z (.s (AI 8) .z))) H
def W81 (b:Sl) (c:Int):Prop:=
 Fn Pz 135 #[vS b,vI c] h
 (fun d e=>∃a,iI d a /\
 R (.bool (decide (a>=0))) e)
theorem vc81 (p0:Sl) (p1:Int) (H:@W81 h R p0 p1):Fn Pz 81 #[vS p0,vI p1] h R:=fnJ (A:=.z) H
def W60 (d:Sl) (e:Int):Prop:=
 ∃f:Heap->Prop,
 (sB (decide (e<0))
 (False)
 (f h)) /\
 ∀(_:Env) (g:Heap),f g ->
 (Fn Pz 106 #[.int .u64 (wrap .u64 (d.n:Int)),.int .u64 (wrap .u64 e)] g
 (fun m o=>∃(i a:Int),m=.tuple ⟨[.int .u64 i,.int .u64 a]⟩ /\
 ∃j:Heap->Prop,
 (sB (decide (i>0))
 (False)
 (sB (decide (a>9223372036854775807))
 (False)
 (j o))) /\
 ∀(_:Env) (c:Heap),j c ->
 (((0:Int)<=(wrap .i64 a)/\((wrap .i64 a):Int)<=(wrap .i64 a)/\((8:Nat):Int)*(wrap .i64 a)<=140737488355328)/\Wn c (madeL Pz 3 (Int.toNat (wrap .i64 a))) 3 fun p=>
 Cpy Pz 42 42 (.slice (some (aS c 0)) (Int.toNat (wrap .i64 a)) (Int.toNat (wrap .i64 a))) (vS d) p fun q r=>
 QI q r fun s b k t=>
 sB (decide (b<((Int.toNat (wrap .i64 a)):Int)))
 (((0:Int)<=(b:Int)/\(b:Int)<=(((Int.toNat (wrap .i64 a)):Nat):Int)/\(((Int.toNat (wrap .i64 a)):Nat):Int)<=((Int.toNat (wrap .i64 a)):Nat)) /\
 ((0:Int)<=(0:Int)/\(0:Int)<=(b:Int)/\(b:Int)<=((Int.toNat (wrap .i64 a)):Nat)) /\
 Cpy Pz 42 42 (.slice (subA (some (aS c 0)) (b.toNat) (Int.toNat (wrap .i64 a)) 1) (Int.toNat ((Int.toNat (wrap .i64 a)):Nat)-b.toNat) ((Int.toNat (wrap .i64 a))-b.toNat)) (.slice (subA (some (aS c 0)) (Int.toNat 0) (Int.toNat (wrap .i64 a)) 1) (b.toNat-Int.toNat 0) ((Int.toNat (wrap .i64 a))-Int.toNat 0)) k fun u v=>
 ∃l,l<t/\s (wrap .i64 (b+u)) v l)
 (R (.slice (some (aS c 0)) (Int.toNat (wrap .i64 a)) (Int.toNat (wrap .i64 a))) k))))
theorem vc60 (p0:Sl) (p1:Int) (H:@W60 h R p0 p1):Fn Pz 60 #[vS p0,vI p1] h R:=fnJ (A:=(.s .z (.j [] .z (.s .z (.j [] .z (.s .z (.s .z (.s (.b (.l [(8,.one (.int .i64))] .z)) .z)))))))) H
def W82 (pa:ByteArray) (pb pc:Sl) (pd pe pf:Int) (pg ph:Sl) (m:Int) (N:Bool):Prop:=
 Wn h (L0 pa pb pc pd pe pf pg ph) 27 fun u=>
 Wn u [vI (-1)] 3 fun v=>
 ∃w,rI v (aS h 3) w /\
 Fn Pz 60 #[.slice (some (aS u 0)) 1 1,vI w] v
 (fun O P=>∃d,iS O d /\
 NB d.a fun Q S=>Ib m d.n /\
 Wp P ⟨Q,S+m.toNat*1,none⟩ 1 [vI 0] fun x=>
 Wn x [vI m] 3 fun T=>
 QS ⟨(some (aS x 0)),1,1⟩ T fun U y o V=>
 sB (decide ((y.n:Int)>0))
 (∃j,rS o (aS h 6) j /\
 QSI y 0 o fun p b f g q=>
 sB (decide (f<(j.n:Int)))
 (NB j.a fun W X=>Ib f j.n /\
 ∃z A B C D E,aL3 g ⟨W,X+f.toNat*6,none⟩ z A B C D E /\
 Wn g [vI 0,vI 0,vI 0,vI 0,vI 0,.bool false] 55 fun Y=>
 Wp Y (aS g 0) 6 (L3 z A B C D E) fun k=>
 ∃r,rI k (aS g 0) r /\
 ∃s,rI k (aS g 4) s /\
 ∃t:Int->Int->Heap->Prop,
 (sB N
 (t s r k)
 (t r s k)) /\
 ∀(_:Env) (l i:Int) (e:Heap),t l i e ->
 (NB b.a fun Z a0=>Ib 0 b.n /\
 ∃F,rI e ⟨Z,a0+Int.toNat 0*1,none⟩ F /\
 sB (l==F)
 (NB d.a fun b0 c0=>Ib i d.n /\
 ∃G,rI e ⟨b0,c0+i.toNat*1,none⟩ G /\
 sB (decide (G<0))
 (NB d.a fun d0 e0=>Ib l d.n /\
 ∃H,rI e ⟨d0,e0+l.toNat*1,none⟩ H /\
 NB d.a fun f0 g0=>Ib i d.n /\
 Wp e ⟨f0,g0+i.toNat*1,none⟩ 1 [vI (wrap .i64 (H+1))] fun I=>
 Wn I [vI i] 3 fun h0=>
 App Pz 42 42 (vS b) (.slice (some (aS I 0)) 1 1) h0 fun i0 j0=>
 ∃J,J<q/\p i0 (wrap .i64 (f+1)) j0 J)
 (∃K,K<q/\p b (wrap .i64 (f+1)) e K))
 (∃L,L<q/\p b (wrap .i64 (f+1)) e L)))
 (((0:Int)<=(1:Int)/\(1:Int)<=((b.n:Nat):Int)/\((b.n:Nat):Int)<=(b.c:Nat)) /\
 ∃M,M<V/\U ⟨(subA b.a (Int.toNat 1) b.c 1),(Int.toNat (b.n:Nat)-Int.toNat 1),(b.c-Int.toNat 1)⟩ g M))
 (R (vS d) o))
theorem vc82 (pa:ByteArray) (pb pc:Sl) (pd pe pf:Int) (pg ph:Sl) (p1:Int) (p2:Bool) (H:@W82 h R pa pb pc pd pe pf pg ph p1 p2):Fn Pz 82 #[.agg ⟨(L0 pa pb pc pd pe pf pg ph)⟩,vI p1,.bool p2] h R:=fnJ (A:=(.s .z (.s .z (.s .z (.s (.s .z (.b (.l [(8,.one (.slice))] (.s .z (.s (.b (.s .z (.b (.l [(8,.one (.slice)),(30,.one (.int .i64))] (.s .z (.s .z (.s (.b (.s .z (.s .z (.j [(11,.one (.int .i64)),(12,.one (.int .i64))] .z .z)))) .z))))))) .z))))) .z))))) H
def W38 (pa:ByteArray) (pb pc:Sl) (pd pe pf:Int) (pg ph:Sl):Prop:=
 Wn h (L0 pa pb pc pd pe pf pg ph) 27 fun g=>
 ∃i j k l m n o p,aL0 g (aS h 0) i j k l m n o p /\
 Fn Pz 76 #[.agg ⟨(L0 i j k l m n o p)⟩] g
 (fun r0 c=>∃q,iB r0 q /\
 sB q
 (∃r s t u v w x y,aL0 c (aS h 0) r s t u v w x y /\
 Fn Pz 77 #[.agg ⟨(L0 r s t u v w x y)⟩] c
 (fun s0 d=>∃z,iB s0 z /\
 sB z
 (∃A,rS d (aS h 2) A /\
 Fn Pz 78 #[vS A] d
 (fun t0 e=>∃B,iB t0 B /\
 sB B
 (∃C D E F G H I J,aL0 e (aS h 0) C D E F G H I J /\
 Fn Pz 79 #[.agg ⟨(L0 C D E F G H I J)⟩] e
 (fun u0 f=>∃K,iB u0 K /\
 sB K
 (∃L M N O P Q S T,aL0 f (aS h 0) L M N O P Q S T /\
 Fn Pz 80 #[.agg ⟨(L0 L M N O P Q S T)⟩] f
 (fun v0 a=>∃U,iB v0 U /\
 sB U
 (∃V W X Y Z a0 b0 c0,aL0 a (aS h 0) V W X Y Z a0 b0 c0 /\
 ∃d0,rI a (aS h 4) d0 /\
 Fn Pz 82 #[.agg ⟨(L0 V W X Y Z a0 b0 c0)⟩,vI d0,.bool false] a
 (fun w0 x0=>∃e0,iS w0 e0 /\
 Fn Pz 81 #[vS e0,vI (-1)] x0
 (fun y0 b=>∃f0,iB y0 f0 /\
 sB (!f0)
 (∃g0 h0 i0 j0 k0 l0 m0 n0,aL0 b (aS h 0) g0 h0 i0 j0 k0 l0 m0 n0 /\
 ∃o0,rI b (aS h 5) o0 /\
 Fn Pz 82 #[.agg ⟨(L0 g0 h0 i0 j0 k0 l0 m0 n0)⟩,vI o0,.bool true] b
 (fun z0 A0=>∃p0,iS z0 p0 /\
 Fn Pz 81 #[vS p0,vI (-1)] A0
 (fun B0 C0=>∃q0,iB B0 q0 /\
 R (.bool (!q0)) C0)))
 (R (.bool false) b))))
 (R (.bool false) a)))
 (R (.bool false) f)))
 (R (.bool false) e)))
 (R (.bool false) d)))
 (R (.bool false) c))
theorem vc38 (pa:ByteArray) (pb pc:Sl) (pd pe pf:Int) (pg ph:Sl) (H:@W38 h R pa pb pc pd pe pf pg ph):Fn Pz 38 #[.agg ⟨(L0 pa pb pc pd pe pf pg ph)⟩] h R:=fnJ (A:=.z) H
def W58 (b:Sl) (c:Int):Prop:=
 sB (decide (c<(imin (b.n:Int) 64)))
 (NB b.a fun e f=>Ib c b.n /\
 ∃d:Int,hc h ⟨e,f+c.toNat*1,none⟩=some (.int .u64 d) /\
 R (.int .u64 d) h)
 (R (.int .u64 0) h)
theorem vc58 (p0:Sl) (p1:Int) (H:@W58 h R p0 p1):Fn Pz 58 #[vS p0,vI p1] h R:=fnJ (A:=.z) H
def W29 (c:Sl) (a:Int):Prop:=
 sB (decide (a>=0))
 (sB (decide (a<4096))
 ((64:Int)≠0/\Fn Pz 58 #[vS c,vI (wrap .i64 (Int.tdiv a 64))] h
 (fun d e=>∃b:Int,d=.int .u64 b /\
 (64:Int)≠0/\0<=(Int.tmod a 64)/\R (.bool ((andI .u64 (shrI .u64 b (Int.tmod a 64)) 1)==1)) e))
 (R (.bool false) h))
 (R (.bool false) h)
theorem vc29 (p0:Sl) (p1:Int) (H:@W29 h R p0 p1):Fn Pz 29 #[vS p0,vI p1] h R:=fnJ (A:=.z) H
def V100a (a b:Int) (R:Value->Heap->Prop) (h c:Heap):Prop:=
 ((0:Int)<=(0:Int)/\(0:Int)<=(a:Int)/\(a:Int)<=(a:Int)/\(a:Int)<=((Int.toNat (imin b 64)):Nat))/\R (.slice (subA (some (aS h 0)) (Int.toNat 0) (a.toNat) 1) (a.toNat-Int.toNat 0) (a.toNat-Int.toNat 0)) c
def V100b (a c:Int) (d h:Heap) (e:Int) (f:Nat) (g:Int->Heap->Nat->Prop):Prop:=
 (0<=(a:Int)/\(a:Int)<((Int.toNat (imin c 64)):Nat))/\Wp d (aS h (0+a.toNat*1)) 1 [.int .u64 e] fun i=>∃b,b<f/\g (wrap .i64 (a+1)) i b
def W100 (a:Int) (f:FuncId) (p1c:Option Addr):Prop:=
 ((0:Int)<=(imin a 64)/\((imin a 64):Int)<=(imin a 64)/\((8:Nat):Int)*(imin a 64)<=140737488355328)/\Wn h (madeL Pz 121 (Int.toNat (imin a 64))) 121 fun o=>QI 0 o fun k c g l=>sB (decide (c<((Int.toNat (imin a 64)):Int))) (bif callable Pz f then Fn Pz f #[vI c,.pointer p1c] g (fun i j=>∃d:Int,i=.int .u64 d/\V100b c a j h d l k) else ExtW Pz f #[vI c,.pointer p1c] g (fun i j=>∃d:Int,i=.int .u64 d/\V100b c a j h d l k)) (QI (imin a 64) g fun p b e q=>sB (decide (b>0)) ((0<=((wrap .i64 (b-1)):Int)/\((wrap .i64 (b-1)):Int)<((Int.toNat (imin a 64)):Nat))/\∃m:Int,hc e (aS h (0+Int.toNat (wrap .i64 (b-1))*1))=some (.int .u64 m)/\sB (m==0) (∃n,n<q/\p (wrap .i64 (b-1)) e n) (V100a b a R h e)) (V100a b a R h e))
theorem vc100 (p0:Int) (p1:FuncId) (p1c:Option Addr) (H:@W100 h R p0 p1 p1c):Fn Pz 100 #[vI p0,.func (.func p1) #[] #[.pointer p1c]] h R:=fnJ (A:=(.s .z (.s .z (.s .z (.s (AI 13) (.s (.b (.l [(0,.one (.int .i64))] .z)) .z)))))) H
def W101 (a:Int) (c0b:Nat) (c0o:Nat):Prop:=
 Ib a 64 /\
 ∃b:Int,hc h ⟨c0b,c0o+a.toNat*1,none⟩=some (.int .u64 b) /\
 R (.int .u64 b) h
theorem vc101 (p0:Int) (c0b:Nat) (c0o:Nat) (H:@W101 h R p0 c0b c0o):Fn Pz 101 #[vI p0,.pointer (some ⟨c0b,c0o,none⟩)] h R:=fnJ (A:=.z) H
def W55 (e:Sl):Prop:=
 Wn h [.int .u64 0,.int .u64 0,.int .u64 0,.int .u64 0,.int .u64 0,.int .u64 0,.int .u64 0,.int .u64 0,.int .u64 0,.int .u64 0,.int .u64 0,.int .u64 0,.int .u64 0,.int .u64 0,.int .u64 0,.int .u64 0,.int .u64 0,.int .u64 0,.int .u64 0,.int .u64 0,.int .u64 0,.int .u64 0,.int .u64 0,.int .u64 0,.int .u64 0,.int .u64 0,.int .u64 0,.int .u64 0,.int .u64 0,.int .u64 0,.int .u64 0,.int .u64 0,.int .u64 0,.int .u64 0,.int .u64 0,.int .u64 0,.int .u64 0,.int .u64 0,.int .u64 0,.int .u64 0,.int .u64 0,.int .u64 0,.int .u64 0,.int .u64 0,.int .u64 0,.int .u64 0,.int .u64 0,.int .u64 0,.int .u64 0,.int .u64 0,.int .u64 0,.int .u64 0,.int .u64 0,.int .u64 0,.int .u64 0,.int .u64 0,.int .u64 0,.int .u64 0,.int .u64 0,.int .u64 0,.int .u64 0,.int .u64 0,.int .u64 0,.int .u64 0] 176 fun o=>
 QI 0 o fun f c d g=>
 sB (decide (c<(e.n:Int)))
 (NB e.a fun p q=>Ib c e.n /\
 ∃b,rI d ⟨p,q+c.toNat*1,none⟩ b /\
 sB (decide (b>=0))
 (sB (decide (b<4096))
 ((64:Int)≠0/\(0<=((wrap .i64 (Int.tdiv b 64)):Int)/\((wrap .i64 (Int.tdiv b 64)):Int)<(64:Nat)) /\
 ∃i:Int,hc d (aS h (0+Int.toNat (wrap .i64 (Int.tdiv b 64))*1))=some (.int .u64 i) /\
 (64:Int)≠0/\0<=(Int.tmod b 64)/\(0<=((wrap .i64 (Int.tdiv b 64)):Int)/\((wrap .i64 (Int.tdiv b 64)):Int)<(64:Nat)) /\
 Wp d (aS h (0+Int.toNat (wrap .i64 (Int.tdiv b 64))*1)) 1 [.int .u64 (orI .u64 i (shlI .u64 1 (Int.tmod b 64)))] fun r=>
 ∃j,j<g/\f (wrap .i64 (c+1)) r j)
 (∃k,k<g/\f (wrap .i64 (c+1)) d k))
 (∃l,l<g/\f (wrap .i64 (c+1)) d l))
 (Fn Pz 100 #[vI 64,.func (.func 101) #[] #[.pointer (some (aS h 0))]] d
 (fun s t=>∃m,iS s m /\
 R (vS m) t))
theorem vc55 (p0:Sl) (H:@W55 h R p0):Fn Pz 55 #[vS p0] h R:=fnJ (A:=(.s .z (.s .z (.s (AI 8) .z)))) H
def W136 (d l:Sl):Prop:=
 QI 0 h fun m b c o=>
 sB (decide (b<(imin (d.n:Int) 64)))
 (NB d.a fun f g=>Ib b d.n /\
 ∃i:Int,hc c ⟨f,g+b.toNat*1,none⟩=some (.int .u64 i) /\
 Fn Pz 58 #[vS l,vI b] c
 (fun p e=>∃j:Int,p=.int .u64 j /\
 Sm [⟨f,g+b.toNat*1,none⟩] c e /\
 sB ((clrI .u64 i j) != 0)
 (R (.bool false) e)
 (∃k,k<o/\m (wrap .i64 (b+1)) e k)))
 (R (.bool true) c)
theorem vc136 (p0 p1:Sl) (H:@W136 h R p0 p1):Fn Pz 136 #[vS p0,vS p1] h R:=fnJ (A:=(.s .z (.s (AI 9) .z))) H
def W86 (a b:Sl):Prop:=
 Fn Pz 136 #[vS a,vS b] h
 (fun f c=>∃d,iB f d /\
 sB d
 (Fn Pz 136 #[vS b,vS a] c
 (fun g i=>∃e,iB g e /\
 R (.bool e) i))
 (R (.bool false) c))
theorem vc86 (p0 p1:Sl) (H:@W86 h R p0 p1):Fn Pz 86 #[vS p0,vS p1] h R:=fnJ (A:=.z) H
def V40b (e:Sl) (f b a:Heap) (g:Sl) (h:Nat) (i:Int->Heap->Nat->Prop) (j:Int):Prop:=
 App Pz 30 30 (vS e) (.slice (some (aS f 0)) 1 1) b fun k c=>Sm [(aS a 0)] b c/\Wp c (aS a 0) 1 [vS g] fun l=>Wp l (aS a 1) 1 [vS k] fun m=>∃d,d<h/\i (wrap .i64 (j+1)) m d
def V40a (b h9:Heap) (Q:Int) (U0:Heap) (S:Int) (h:Heap) (T:Int) (R:Value->Heap->Prop):Prop:=
 Wn b [vN,vN,.slice (some (aS h9 0)) (Q.toNat) (Q.toNat),.slice (some (aS U0 0)) (S.toNat) (S.toNat)] 156 fun U=>∃V,rI U (aS h 3) V/\QI 0 U fun z k p A=>sB (decide (k<V)) (∃W X Y Z a0 b0 c0 d0,aL0 p (aS h 0) W X Y Z a0 b0 c0 d0/\Fn Pz 88 #[.agg ⟨(L0 W X Y Z a0 b0 c0 d0)⟩,vI T,vI k] p (fun V0 W0=>∃(q:Sl) (r:Bool) (X0:Int),V0=.tuple ⟨[vS q,.bool r,vI X0]⟩/\QSI ⟨none,0,0⟩ 0 W0 fun Y0 B s c Z0=>sB (decide (s<(q.n:Int))) (NB q.a fun a1 b1=>Ib s q.n/\∃e0 f0 g0 h0 i0,aL8 c ⟨a1,b1+s.toNat*5,none⟩ e0 f0 g0 h0 i0/\Wn c [vI 0,.bool false,vI 0,vI 0,vN] 60 fun c1=>Wp c1 (aS c 0) 5 (L8 e0 f0 g0 h0 i0) fun l=>∃j0,rB l (aS c 1) j0/\∃k0,rI l (aS c 2) k0/\∃l0,rI l (aS c 3) l0/\Wn l (L1 j0 k0 l0) 91 fun d1=>App Pz 159 159 (vS B) (.slice (some (aS l 0)) 1 1) d1 fun e1 f1=>∃m0,m0<Z0/\Y0 e1 (wrap .i64 (s+1)) f1 m0) (∃t,rS c (aS b 0) t/\∃u,rS c (aS b 1) u/\(Wn c [vS B] 159 fun j=>Sm [(aS b 1),(aS b 0)] c j/\(App Pz 154 154 (vS t) (.slice (some (aS c 0)) 1 1) j fun g1 v=>Sm [(aS b 1)] j v/\Wn v [.bool r] 4 fun n0=>Sm [(aS b 1),(aS b 0)] v n0/\V40b u v n0 b g1 A z k)/\Wn j [.bool r] 4 fun C=>Sm [(aS b 1),(aS b 0)] j C/\App Pz 154 154 (vS t) (.slice (some (aS c 0)) 1 1) C fun h1 o0=>Sm [(aS b 1)] C o0/\V40b u j o0 b h1 A z k)/\Wn c [.bool r] 4 fun w=>Sm [(aS b 1),(aS b 0)] c w/\Wn w [vS B] 159 fun D=>Sm [(aS b 1),(aS b 0)] w D/\App Pz 154 154 (vS t) (.slice (some (aS w 0)) 1 1) D fun i1 p0=>Sm [(aS b 1)] D p0/\V40b u c p0 b i1 A z k))) (∃x,rS p (aS h 6) x/\QI 0 p fun q0 m e r0=>sB (decide (m<(x.n:Int))) (NB x.a fun j1 k1=>Ib m x.n/\∃s0 t0 u0 v0 w0 x0,aL3 e ⟨j1,k1+m.toNat*6,none⟩ s0 t0 u0 v0 w0 x0/\Wn e [vI 0,vI 0,vI 0,vI 0,vI 0,.bool false] 55 fun l1=>Wp l1 (aS e 0) 6 (L3 s0 t0 u0 v0 w0 x0) fun g=>∃y0,rI g (aS e 1) y0/\sB (y0==T) (∃E,rS g (aS b 2) E/\∃F,rI g (aS e 0) F/\∃G,rS g (aS b 3) G/\∃H,rI g (aS e 0) H/\∃z0,rB g (aS e 5) z0/\NB E.a fun m1 n1=>Ib F E.n/\Wp g ⟨m1,n1+F.toNat*1,none⟩ 1 [.bool true] fun A0=>Sm [(aS e 5),(aS e 0)] g A0/\NB G.a fun o1 p1=>Ib H G.n/\Wp A0 ⟨o1,p1+H.toNat*5,none⟩ 1 [.bool z0] fun q1=>∃B0,B0<r0/\q0 (wrap .i64 (m+1)) q1 B0) (∃C0,C0<r0/\q0 (wrap .i64 (m+1)) g C0)) (∃y,rS e (aS h 7) y/\QI 0 e fun D0 o f E0=>sB (decide (o<(y.n:Int))) (NB y.a fun r1 s1=>Ib o y.n/\∃F0 G0 H0,aL2 f ⟨r1,s1+o.toNat*3,none⟩ F0 G0 H0/\Wn f [vI 0,vI 0,vI 0] 63 fun t1=>Wp t1 (aS f 0) 3 (L2 F0 G0 H0) fun d=>∃I,rS d (aS b 2) I/\∃J,rI d (aS f 0) J/\NB I.a fun u1 v1=>Ib J I.n/\∃I0,rB d ⟨u1,v1+J.toNat*1,none⟩ I0/\sB I0 (∃K,rS d (aS h 6) K/\∃L,rI d (aS f 2) L/\NB K.a fun w1 x1=>Ib L K.n/\∃J0 K0 M0,aL2 d ⟨w1,x1+L.toNat*6+1,none⟩ J0 K0 M0/\Wn d [vI 0,vI 0,vI 0] 53 fun y1=>Wp y1 (aS d 0) 3 (L2 J0 K0 M0) fun i=>∃M,rS i (aS b 3) M/\∃N,rI i (aS f 0) N/\∃O,rS i (aS b 3) O/\∃P,rI i (aS f 0) P/\∃N0,rI i (aS f 1) N0/\∃O0,rI i (aS d 1) O0/\∃P0,rI i (aS d 2) P0/\NB M.a fun z1 A1=>Ib N M.n/\Wp i ⟨z1,A1+N.toNat*5+1,none⟩ 1 [vI N0] fun Q0=>Sm [(aS d 2),(aS d 1),(aS f 0)] i Q0/\NB O.a fun B1 C1=>Ib P O.n/\Wp Q0 ⟨B1,C1+P.toNat*5+2,none⟩ 3 [.bool true,vI O0,vI P0] fun D1=>∃R0,R0<E0/\D0 (wrap .i64 (o+1)) D1 R0) (∃S0,S0<E0/\D0 (wrap .i64 (o+1)) d S0)) (R (.pointer (some (aS b 0))) f)))
def W40 (pa:ByteArray) (pb pc:Sl) (pd pe pf:Int) (pg ph:Sl) (f:Int):Prop:=
 Wn h (L0 pa pb pc pd pe pf pg ph) 27 fun c=>∃a,rI c (aS h 3) a/\∃b,rI c (aS h 3) b/\(Mk a a 1/\Wn c (madeL Pz 4 (a.toNat)) 4 fun d=>Sm [(aS h 3)] c d/\Mk b b 40/\Wn d (madeL Pz 93 (b.toNat)) 93 fun g=>Sm [(aS h 3)] d g/\V40a g c a d b h f R)/\Mk b b 40/\Wn c (madeL Pz 93 (b.toNat)) 93 fun e=>Sm [(aS h 3)] c e/\Mk a a 1/\Wn e (madeL Pz 4 (a.toNat)) 4 fun i=>Sm [(aS h 3)] e i/\V40a i e a c b h f R
theorem vc40 (pa:ByteArray) (pb pc:Sl) (pd pe pf:Int) (pg ph:Sl) (p1:Int) (H:@W40 h R pa pb pc pd pe pf pg ph p1):Fn Pz 40 #[.agg ⟨(L0 pa pb pc pd pe pf pg ph)⟩,vI p1] h R:=fnJ (A:=(.s .z (.s .z (.s (.s .z (.b (.l [(28,.one (.int .i64))] (.s .z (.s .z (.s (.b (.s .z (.s .z (.s .z (.s (AJ 10 41) .z))))) .z)))))) (.s (AI 80) (.s (AI 110) .z)))))) H
def W89 (d e:Sl):Prop:=
 sB ((d.n:Int) != (e.n:Int))
 (R (.bool false) h)
 (QI 0 h fun o b c p=>
 sB (decide (b<(d.n:Int)))
 (NB d.a fun q r=>Ib b d.n /\
 ∃f g i,aL1 c ⟨q,r+b.toNat*3,none⟩ f g i /\
 NB e.a fun s t=>Ib b e.n /\
 ∃j k l,aL1 c ⟨s,t+b.toNat*3,none⟩ j k l /\
 sB (!((f==j)&&((g==k)&&((i==l)&&true))))
 (R (.bool false) c)
 (∃m,m<p/\o (wrap .i64 (b+1)) c m))
 (R (.bool true) c))
theorem vc89 (p0 p1:Sl) (H:@W89 h R p0 p1):Fn Pz 89 #[vS p0,vS p1] h R:=fnJ (A:=(.s .z (.s .z (.s (AI 13) .z)))) H
def V14a (i a:Heap) (R:Value->Heap->Prop):Prop:=
 Wp i (aS a 0) 6 [vI 0,vI 0,vI 0,vN,vN,vN] fun b=>∃c d e f g h,aL4 b (aS a 0) c d e f g h/\R (.tuple ⟨[.agg ⟨(L4 c d e f g h)⟩,vI 1]⟩) b
def W14 (pa:ByteArray) (pb pc:Sl) (pd pe pf:Int) (pg ph:Sl) (l:Int):Prop:=
 Wn h (L0 pa pb pc pd pe pf pg ph) 27 fun c=>Wn c [vI 0,vI 0,vI 0,vN,vN,vN] 33 fun x=>∃y z A B C D E F,aL0 x (aS h 0) y z A B C D E F/\Fn Pz 38 #[.agg ⟨(L0 y z A B C D E F)⟩] x (fun r1 i=>∃G,iB r1 G/\sB (!G) (V14a i c R) (sB (decide (l<0)) (V14a i c R) (∃H,rS i (aS h 1) H/\sB (decide (l>=(H.n:Int))) (V14a i c R) (∃I J K L M N O P,aL0 i (aS h 0) I J K L M N O P/\Fn Pz 39 #[.agg ⟨(L0 I J K L M N O P)⟩,vI l] i (fun s1 g=>∃(Q S T:Sl) (u:Int),s1=.tuple ⟨[.agg ⟨(L12 Q S T)⟩,vI u]⟩/\Wn g [vN,vN,vN] 85 fun t1=>Wp t1 (aS g 0) 3 (L12 Q S T) fun m=>sB (u != 0) (Wp m (aS c 0) 6 [vI 0,vI 0,vI 0,vN,vN,vN] fun U=>∃V W X Y Z a0,aL4 U (aS c 0) V W X Y Z a0/\R (.tuple ⟨[.agg ⟨(L4 V W X Y Z a0)⟩,vI u]⟩) U) (∃b0,rS m (aS g 2) b0/\sB (decide ((b0.n:Int)>400)) (Wp m (aS c 0) 6 [vI 0,vI 0,vI 0,vN,vN,vN] fun c0=>∃d0 e0 f0 g0 h0 i0,aL4 c0 (aS c 0) d0 e0 f0 g0 h0 i0/\R (.tuple ⟨[.agg ⟨(L4 d0 e0 f0 g0 h0 i0)⟩,vI 6]⟩) c0) (∃j0 k0 l0 m0 n0 o0 p0 q0,aL0 m (aS h 0) j0 k0 l0 m0 n0 o0 p0 q0/\Fn Pz 40 #[.agg ⟨(L0 j0 k0 l0 m0 n0 o0 p0 q0)⟩,vI l] m (fun u1 d=>∃r0:Option Addr,u1=.pointer r0/\∃s0,rS d (aS g 0) s0/\∃t0,rS d (aS g 1) t0/\∃u0,rS d (aS g 2) u0/\Wn d [vI 0,vI 0,vI 0,vN,vN,vN] 33 fun v1=>Wp v1 (aS d 0) 6 [vI l,vI (s0.n:Int),vI 0,vS t0,vS u0,vN] fun v0=>∃s,rS v0 (aS g 0) s/\QI 0 v0 fun w1 j t x1=>sB (decide (j<(s.n:Int))) (NB s.a fun y1 z1=>Ib j s.n/\∃w0,rS t ⟨y1,z1+j.toNat*1,none⟩ w0/\Fn Pz 42 #[vS w0] t (fun A1 B1=>∃x0,iS A1 x0/\Fn Pz 41 #[.pointer r0,vS x0] B1 (fun C1 k=>∃(y0:Bool) (z0:Int) (A0:Bool) (B0 C0:Int) (D0:Bool),C1=.tuple ⟨[.agg ⟨(L11 y0 z0 A0 B0 C0)⟩,.bool D0]⟩/\Wn k [.bool false,vI 0,.bool false,vI 0,vI 0] 93 fun D1=>Wp D1 (aS k 0) 5 (L11 y0 z0 A0 B0 C0) fun v=>sB (!D0) (Wp v (aS c 0) 6 [vI 0,vI 0,vI 0,vN,vN,vN] fun E0=>∃F0 G0 H0 I0 J0 K0,aL4 E0 (aS c 0) F0 G0 H0 I0 J0 K0/\R (.tuple ⟨[.agg ⟨(L4 F0 G0 H0 I0 J0 K0)⟩,vI 18]⟩) E0) (∃M0,rS v (aS d 4) M0/\QI 0 v fun o b f p=>sB (decide (b<(M0.n:Int))) (∃w,rS f (aS d 4) w/\NB w.a fun q r=>Ib b w.n/\∃N0,rI f ⟨q,r+b.toNat*6,none⟩ N0/\sB (N0 != j) (∃O0,O0<p/\o (wrap .i64 (b+1)) f O0) (∃P0,rB f ⟨q,r+b.toNat*6+1,none⟩ P0/\sB (!P0) (∃Q0,Q0<p/\o (wrap .i64 (b+1)) f Q0) (∃R0,rB f (aS k 0) R0/\Wp f ⟨q,r+b.toNat*6+5,none⟩ 1 [.bool R0] fun e=>∃S0,rI e (aS k 1) S0/\sB (decide (S0>0)) (∃T0 U0 V0,aL1 e (aS k 2) T0 U0 V0/\∃W0,rI e ⟨q,r+b.toNat*6+2,none⟩ W0/\∃X0,rI e ⟨q,r+b.toNat*6+3,none⟩ X0/\sB ((T0==true)&&((U0==W0)&&((V0==X0)&&true))) (∃Y0,rS e (aS d 5) Y0/\∃Z0,rI e (aS k 1) Z0/\Wn e (L2 j Z0 b) 63 fun E1=>App Pz 25 25 (vS Y0) (.slice (some (aS e 0)) 1 1) E1 fun F1 G1=>Wp G1 (aS d 5) 1 [vS F1] fun H1=>∃a1,a1<p/\o (wrap .i64 (b+1)) H1 a1) (∃b1,b1<p/\o (wrap .i64 (b+1)) e b1)) (∃c1,c1<p/\o (wrap .i64 (b+1)) e c1)))) (∃d1,d1<x1/\w1 (wrap .i64 (j+1)) f d1))))) (∃e1 f1 g1 h1 i1 j1,aL4 t (aS d 0) e1 f1 g1 h1 i1 j1/\Wp t (aS c 0) 6 (L4 e1 f1 g1 h1 i1 j1) fun k1=>∃l1 m1 n1 o1 p1 q1,aL4 k1 (aS c 0) l1 m1 n1 o1 p1 q1/\R (.tuple ⟨[.agg ⟨(L4 l1 m1 n1 o1 p1 q1)⟩,vI 0]⟩) k1)))))))))
theorem vc14 (pa:ByteArray) (pb pc:Sl) (pd pe pf:Int) (pg ph:Sl) (p1:Int) (H:@W14 h R pa pb pc pd pe pf pg ph p1):Fn Pz 14 #[.agg ⟨(L0 pa pb pc pd pe pf pg ph)⟩,vI p1] h R:=fnJ (A:=(.s .z (.s .z (.s .z (.s .z (.s .z (.s .z (.s .z (.s (.s .z (.b (.l [(61,.one (.int .i64))] (.s .z (.s .z (.s (.b (.s .z (.s .z (.s .z (AI 79))))) .z)))))) .z))))))))) H
def W73 (pa:Int) (pb:Bool) (pc pd pe:Int) (pf:Bool) (pg:Int) (ph:Bool) (pi pj pk:Int) (pl:Bool):Prop:=
 Wn h (L6 pa pb pc pd pe pf) 45 fun a=>
 Wn a (L6 pg ph pi pj pk pl) 45 fun b=>
 ∃j,rI b (aS h 0) j /\
 ∃k,rI b (aS a 0) k /\
 ∃l m n o p q,aL6 b (aS h 0) l m n o p q /\
 ∃r s t u v w,aL6 b (aS a 0) r s t u v w /\
 ∃x,rI b (aS h 2) x /\
 ∃y,rI b (aS a 2) y /\
 ∃z,rI b (aS h 3) z /\
 ∃A,rI b (aS a 3) A /\
 Fn Pz 110 #[vI j,vI k] b
 (fun I c=>∃B,iI I B /\
 Sm [(aS a 3),(aS h 3),(aS a 2),(aS h 2),(aS a 0),(aS h 0)] b c /\
 Fn Pz 129 #[.agg ⟨(L6 l m n o p q)⟩] c
 (fun J d=>∃C,iI J C /\
 Sm [(aS a 3),(aS h 3),(aS a 2),(aS h 2),(aS a 0),(aS a 0),(aS h 0)] c d /\
 Fn Pz 129 #[.agg ⟨(L6 r s t u v w)⟩] d
 (fun K e=>∃D,iI K D /\
 Sm [(aS a 3),(aS h 3),(aS a 2),(aS h 2),(aS h 0),(aS a 0),(aS h 0)] d e /\
 Fn Pz 110 #[vI C,vI D] e
 (fun L f=>∃E,iI L E /\
 Sm [(aS a 3),(aS h 3),(aS a 2),(aS h 2),(aS a 0),(aS h 0)] e f /\
 Fn Pz 110 #[vI x,vI y] f
 (fun M g=>∃F,iI M F /\
 Sm [(aS a 3),(aS h 3),(aS a 0),(aS h 0),(aS a 0),(aS h 0)] f g /\
 Fn Pz 110 #[vI z,vI A] g
 (fun N i=>∃G,iI N G /\
 Sm [(aS a 2),(aS h 2),(aS a 0),(aS h 0),(aS a 0),(aS h 0)] g i /\
 Wn i (L7 B E F G) 3 fun O=>
 Fn Pz 109 #[.slice (some (aS i 0)) 4 4] O
 (fun P Q=>∃H,iI P H /\
 R (vI H) Q)))))))
theorem vc73 (pa:Int) (pb:Bool) (pc pd pe:Int) (pf:Bool) (pg:Int) (ph:Bool) (pi pj pk:Int) (pl:Bool) (H:@W73 h R pa pb pc pd pe pf pg ph pi pj pk pl):Fn Pz 73 #[.agg ⟨(L6 pa pb pc pd pe pf)⟩,.agg ⟨(L6 pg ph pi pj pk pl)⟩] h R:=fnJ (A:=.z) H
def W129 (pa:Int) (pb:Bool) (pc pd pe:Int) (pf:Bool):Prop:=
 Wn h (L6 pa pb pc pd pe pf) 45 fun a=>
 ∃b,rB a (aS h 1) b /\
 sB b
 (R (vI 0) a)
 (R (vI 1) a)
theorem vc129 (pa:Int) (pb:Bool) (pc pd pe:Int) (pf:Bool) (H:@W129 h R pa pb pc pd pe pf):Fn Pz 129 #[.agg ⟨(L6 pa pb pc pd pe pf)⟩] h R:=fnJ (A:=.z) H
def W125 (b:Sl):Prop:=
 sB (Option.isNone b.a)
 (R vN h)
 (Wn h [] 45 fun c=>
 App Pz 31 31 (.slice (some (aS h 0)) 0 0) (vS b) c fun d e=>
 R (vS d) e)
theorem vc125 (p0:Sl) (H:@W125 h R p0):Fn Pz 125 #[vS p0] h R:=fnJ (A:=.z) H
def W126 (pa pb:Int) (pc:Bool) (pd pe:Int) (pf:Bool) (pg:Int) (b:Addr) (g:Addr):Prop:=
 Wn h (L14 pa pb pc pd pe pf pg) 212 fun c=>
 ∃i:Option Nat,hc c b=some (.map i) /\
 ∃j k l m n o p,aL14 c (aS h 0) j k l m n o p /\
 RunW Pz (Instr.lookup 210 (.map i) (.agg ⟨(L14 j k l m n o p)⟩) true) c
 (fun B d=>∃(q:Int) (r:Bool),B=.tuple ⟨[vI q,.bool r]⟩ /\
 sB (!r)
 (∃s:Option Nat,hc d b=some (.map s) /\
 RunW Pz (Builtin.len_ #[210] 3 #[.map s]) d
 (fun C a=>∃e,iI C e /\
 ∃f,rI a ⟨g.block,g.off+1,none⟩ f /\
 ∃t:Option Nat,hc a b=some (.map t) /\
 ∃u v w x y z A,aL14 a (aS h 0) u v w x y z A /\
 RunW Pz (Instr.mapUpdate 210 (.map t) (.agg ⟨(L14 u v w x y z A)⟩) (vI (wrap .i64 ((wrap .i64 (e+f))+2)))) a (fun _ D=>
 R (vI (wrap .i64 ((wrap .i64 (e+f))+2))) D)))
 (R (vI q) d))
theorem vc126 (pa pb:Int) (pc:Bool) (pd pe:Int) (pf:Bool) (pg:Int) (c0:Addr) (c1:Addr) (H:@W126 h R pa pb pc pd pe pf pg c0 c1):Fn Pz 126 #[.agg ⟨(L14 pa pb pc pd pe pf pg)⟩,.pointer (some c0),.pointer (some c1)] h R:=fnJ (A:=.z) H
def V71a (a c:Int) (d e:Heap) (f:Int) (g:Nat) (h:Int->Heap->Nat->Prop):Prop:=
 (0<=(a:Int)/\(a:Int)<((c.toNat):Nat))/\Wp d (aS e (0+a.toNat*1)) 1 [vI f] fun i=>∃b,b<g/\h (wrap .i64 (a+1)) i b
def V71b (d e b:Heap) (a f:Int) (g:Heap) (h:Int) (i:Nat) (j:Int->Heap->Nat->Prop) (k:Int):Prop:=
 Sm [(aS d 0)] e b/\(0<=(a:Int)/\(a:Int)<((f.toNat):Nat))/\Wp b (aS g (0+a.toNat*1)) 1 [vI h] fun l=>∃c,c<i/\j (wrap .i64 (k+1)) l c
def W71 (pa pb pc:Int) (pd pe pf:Sl):Prop:=
 Wn h (L4 pa pb pc pd pe pf) 33 fun D=>∃E,rS D (aS h 4) E/\Fn Pz 125 #[vS E] D (fun v9 B0=>∃q,iS v9 q/\Fn Pz 72 #[vS q,.func (.func 73) #[] #[]] B0 (fun C0 l=>C0=.tuple ⟨[]⟩/\∃e,rI l (aS h 1) e/\Mk e e 8/\Wn l (madeL Pz 3 (e.toNat)) 3 fun D0=>QI 0 D0 fun E0 F F0 G0=>RunW Pz (Instr.makeMap 210 (none)) F0 (fun H0 r=>∃G:Option Nat,H0=.map G/\Wn r [.map none] 210 fun I0=>Wp I0 (aS r 0) 1 [.map G] fun i=>∃b,rI i (aS h 1) b/\Mk b b 8/\Wn i (madeL Pz 3 (b.toNat)) 3 fun J0=>QI 0 J0 fun K0 m o L0=>sB (decide (m<((b.toNat):Int))) ((0<=(m:Int)/\(m:Int)<((e.toNat):Nat))/\∃H,rI o (aS l (0+m.toNat*1)) H/\∃z,rS o (aS h 3) z/\NB z.a fun M0 N0=>Ib m z.n/\∃I,rB o ⟨M0,N0+m.toNat*1,none⟩ I/\Fn Pz 126 #[.agg ⟨[vI H,vI 0,.bool false,vI 0,vI 0,.bool I,vI 0]⟩,.pointer (some (aS r 0)),.pointer (some (aS h 0))] o (fun O0 P0=>∃J,iI O0 J/\V71a m b P0 i J L0 K0)) (∃t,rS o (aS h 5) t/\QI 0 o fun Q0 u f R0=>sB (decide (u<(t.n:Int))) (NB t.a fun S0 T0=>Ib u t.n/\∃K L M,aL2 f ⟨S0,T0+u.toNat*3,none⟩ K L M/\Wn f [vI 0,vI 0,vI 0] 63 fun U0=>Wp U0 (aS f 0) 3 (L2 K L M) fun j=>∃A,rS j (aS h 4) A/\∃B,rI j (aS f 2) B/\NB A.a fun V0 W0=>Ib B A.n/\∃N O P Q S T,aL6 j ⟨V0,W0+B.toNat*6,none⟩ N O P Q S T/\Wn j [vI 0,.bool false,vI 0,vI 0,vI 0,.bool false] 45 fun X0=>Wp X0 (aS j 0) 6 (L6 N O P Q S T) fun g=>∃U,rI g (aS f 0) U/\∃v,rI g (aS f 0) v/\(0<=(v:Int)/\(v:Int)<((b.toNat):Nat))/\∃V,rI g (aS i (0+v.toNat*1)) V/\∃W,rB g (aS j 1) W/\∃X,rI g (aS j 2) X/\∃Y,rI g (aS j 3) Y/\∃Z,rI g (aS f 1) Z/\Fn Pz 126 #[.agg ⟨[vI V,vI 1,.bool W,vI X,vI Y,.bool false,vI Z]⟩,.pointer (some (aS r 0)),.pointer (some (aS h 0))] g (fun Y0 Z0=>∃a0,iI Y0 a0/\V71b f g Z0 U b i a0 R0 Q0 u)) (QI 0 f fun a1 w c b1=>sB (decide (w<(q.n:Int))) (NB q.a fun c1 d1=>Ib w q.n/\∃b0 c0 d0 e0 f0 g0,aL6 c ⟨c1,d1+w.toNat*6,none⟩ b0 c0 d0 e0 f0 g0/\Wn c [vI 0,.bool false,vI 0,vI 0,vI 0,.bool false] 45 fun e1=>Wp e1 (aS c 0) 6 (L6 b0 c0 d0 e0 f0 g0) fun d=>∃h0,rI d (aS c 0) h0/\∃x,rI d (aS c 0) x/\(0<=(x:Int)/\(x:Int)<((b.toNat):Nat))/\∃i0,rI d (aS i (0+x.toNat*1)) i0/\∃j0,rB d (aS c 1) j0/\∃k0,rI d (aS c 2) k0/\∃l0,rI d (aS c 3) l0/\∃m0,rB d (aS c 5) m0/\∃y,rI d (aS c 4) y/\(0<=(y:Int)/\(y:Int)<((e.toNat):Nat))/\∃n0,rI d (aS l (0+y.toNat*1)) n0/\Fn Pz 126 #[.agg ⟨[vI i0,vI 2,.bool j0,vI k0,vI l0,.bool m0,vI n0]⟩,.pointer (some (aS r 0)),.pointer (some (aS h 0))] d (fun f1 g1=>∃o0,iI f1 o0/\V71b c d g1 h0 b i o0 b1 a1 w)) (RunW Pz (Instr.makeMap 215 (none)) c (fun h1 i1=>∃k:Option Nat,h1=.map k/\QI 0 i1 fun p0 p C q0=>sB (decide (p<((b.toNat):Int))) ((0<=(p:Int)/\(p:Int)<((b.toNat):Nat))/\∃s,rI C (aS i (0+p.toNat*1)) s/\RunW Pz (Instr.lookup 215 (.map k) (vI s) true) C (fun j1 r0=>∃(k1:Int) (s0:Bool),j1=.tuple ⟨[vI k1,.bool s0]⟩/\sB (!s0) (RunW Pz (Builtin.len_ #[215] 3 #[.map k]) r0 (fun l1 m1=>∃t0,iI l1 t0/\RunW Pz (Instr.mapUpdate 215 (.map k) (vI s) (vI t0)) m1 (fun _ n1=>RunW Pz (Instr.lookup 215 (.map k) (vI s) false) n1 (fun o1 p1=>∃u0,iI o1 u0/\V71a p e p1 l u0 q0 p0)))) (RunW Pz (Instr.lookup 215 (.map k) (vI s) false) r0 (fun q1 r1=>∃v0,iI q1 v0/\V71a p e r1 l v0 q0 p0)))) (RunW Pz (Builtin.len_ #[215] 3 #[.map k]) C (fun s1 w0=>∃x0,iI s1 x0/\sB (x0==F) (R (.tuple ⟨[.slice (some (aS l 0)) (e.toNat) (e.toNat),vI F]⟩) w0) (RunW Pz (Builtin.len_ #[215] 3 #[.map k]) w0 (fun t1 u1=>∃y0,iI t1 y0/\∃z0,z0<G0/\E0 y0 u1 z0)))))))))))
theorem vc71 (pa pb pc:Int) (pd pe pf:Sl) (H:@W71 h R pa pb pc pd pe pf):Fn Pz 71 #[.agg ⟨(L4 pa pb pc pd pe pf)⟩] h R:=fnJ (A:=(.s .z (.s .z (.s .z (.s .z (.s .z (.b (.l [(6,.one (.int .i64))] (.b (.s .z (.s .z (.s .z (.s (AI 36) (.s (AI 58) (.s (AI 92) (.s .z (.s (AI 126) .z))))))))))))))))) H
def W36 (pa pb pc:Int) (pd pe pf:Sl):Prop:=
 Wn h (L4 pa pb pc pd pe pf) 33 fun O=>
 Wn O [vI 0,vI 0,vI 0,vN,vN,vN] 33 fun Z=>
 ∃x9 b0 c0 d0 e0 f0,aL4 Z (aS h 0) x9 b0 c0 d0 e0 f0 /\
 Fn Pz 71 #[.agg ⟨(L4 x9 b0 c0 d0 e0 f0)⟩] Z
 (fun T1 P=>∃(p:Sl) (b:Int),T1=.tuple ⟨[vS p,vI b]⟩ /\
 Mk b b 8/\Wn P (madeL Pz 3 (b.toNat)) 3 fun g0=>
 ∃h0,rI g0 (aS h 1) h0 /\
 QI (wrap .i64 (h0-1)) g0 fun U1 u k V1=>
 sB (decide (u>=0))
 (NB p.a fun W1 X1=>Ib u p.n /\
 ∃z,rI k ⟨W1,X1+u.toNat*1,none⟩ z /\
 (0<=(z:Int)/\(z:Int)<((b.toNat):Nat)) /\
 Wp k (aS P (0+z.toNat*1)) 1 [vI u] fun Y1=>
 ∃i0,i0<V1/\U1 (wrap .i64 (u-1)) Y1 i0)
 (∃o,rI k (aS h 1) o /\
 Mk o o 24/\Wn k (madeL Pz 31 (o.toNat)) 31 fun j0=>
 ∃A,rS j0 (aS h 4) A /\
 QI 0 j0 fun Z1 B i a2=>
 sB (decide (B<(A.n:Int)))
 (NB A.a fun b2 c2=>Ib B A.n /\
 ∃k0 l0 m0 n0 o0 p0,aL6 i ⟨b2,c2+B.toNat*6,none⟩ k0 l0 m0 n0 o0 p0 /\
 Wn i [vI 0,.bool false,vI 0,vI 0,vI 0,.bool false] 45 fun d2=>
 Wp d2 (aS i 0) 6 (L6 k0 l0 m0 n0 o0 p0) fun q=>
 ∃C,rI q (aS i 0) C /\
 ∃v,rI q (aS i 0) v /\
 (0<=(v:Int)/\(v:Int)<((o.toNat):Nat)) /\
 ∃q0,rS q (aS k (0+v.toNat*1)) q0 /\
 ∃r0 s0 t0 u0 v0 w0,aL6 q (aS i 0) r0 s0 t0 u0 v0 w0 /\
 Wn q (L6 r0 s0 t0 u0 v0 w0) 45 fun Q=>
 Sm [(aS k (0+v.toNat*1)),(aS i 0),(aS i 0)] q Q /\
 App Pz 31 31 (vS q0) (.slice (some (aS q 0)) 1 1) Q fun e2 x0=>
 Sm [(aS i 0)] Q x0 /\
 (0<=(C:Int)/\(C:Int)<((o.toNat):Nat)) /\
 Wp x0 (aS k (0+C.toNat*1)) 1 [vS e2] fun f2=>
 ∃y0,y0<a2/\Z1 (wrap .i64 (B+1)) f2 y0)
 (RunW Pz (Instr.makeMap 140 (none)) i
 (fun g2 z0=>∃S:Option Nat,g2=.map S /\
 ∃D,rS z0 (aS h 5) D /\
 QI 0 z0 fun h2 E e i2=>
 sB (decide (E<(D.n:Int)))
 (NB D.a fun j2 k2=>Ib E D.n /\
 ∃A0 B0 C0,aL2 e ⟨j2,k2+E.toNat*3,none⟩ A0 B0 C0 /\
 Wn e [vI 0,vI 0,vI 0] 63 fun l2=>
 Wp l2 (aS e 0) 3 (L2 A0 B0 C0) fun T=>
 ∃D0,rI T (aS e 0) D0 /\
 ∃E0 F0 G0,aL2 T (aS e 0) E0 F0 G0 /\
 RunW Pz (Instr.mapUpdate 140 (.map S) (vI D0) (.agg ⟨(L2 E0 F0 G0)⟩)) T (fun _ m2=>
 ∃H0,H0<i2/\h2 (wrap .i64 (E+1)) m2 H0))
 (Mk b b 8/\Wn e (madeL Pz 3 (b.toNat)) 3 fun n2=>
 QI 0 n2 fun o2 w r p2=>
 sB (decide (w<((b.toNat):Int)))
 ((0<=(w:Int)/\(w:Int)<((b.toNat):Nat)) /\
 Wp r (aS e (0+w.toNat*1)) 1 [vI (-1)] fun q2=>
 ∃I0,I0<p2/\o2 (wrap .i64 (w+1)) q2 I0)
 (∃U,rI r (aS h 2) U /\
 NB p.a fun r2 s2=>Ib U p.n /\
 ∃J0,rI r ⟨r2,s2+U.toNat*1,none⟩ J0 /\
 Wn r [vI J0] 3 fun K0=>
 Ib 0 1 /\
 ∃F,rI K0 (aS r (0+Int.toNat 0*1)) F /\
 (0<=(F:Int)/\(F:Int)<((b.toNat):Nat)) /\
 Wp K0 (aS e (0+F.toNat*1)) 1 [vI 0] fun d=>
 ∃L0,rI d (aS h 0) L0 /\
 Wn d [vI 0,vI 0,vI 0,vN,vN,vN] 33 fun t2=>
 Wp t2 (aS d 0) 6 [vI L0,vI 0,vI 0,vN,vN,vN] fun u2=>
 QSI ⟨(some (aS r 0)),1,1⟩ 0 u2 fun v2 x s l w2=>
 sB (decide (s<(x.n:Int)))
 (NB x.a fun x2 y2=>Ib s x.n /\
 ∃G,rI l ⟨x2,y2+s.toNat*1,none⟩ G /\
 (0<=(G:Int)/\(G:Int)<((b.toNat):Nat)) /\
 ∃j,rI l (aS P (0+G.toNat*1)) j /\
 ∃M0,rS l (aS d 3) M0 /\
 ∃V,rS l (aS h 3) V /\
 NB V.a fun z2 A2=>Ib j V.n /\
 ∃N0,rB l ⟨z2,A2+j.toNat*1,none⟩ N0 /\
 Wn l [.bool N0] 4 fun O0=>
 Sm [(aS d 3)] l O0 /\
 App Pz 30 30 (vS M0) (.slice (some (aS l 0)) 1 1) O0 fun B2 C2=>
 Wp C2 (aS d 3) 1 [vS B2] fun P0=>
 (0<=(j:Int)/\(j:Int)<((o.toNat):Nat)) /\
 ∃Q0,rS P0 (aS k (0+j.toNat*1)) Q0 /\
 Fn Pz 72 #[vS Q0,.func (.func 73) #[] #[]] P0
 (fun D2 E2=>D2=.tuple ⟨[]⟩ /\
 RunW Pz (Instr.lookup 140 (.map S) (vI j) true) E2
 (fun F2 H=>∃(R0 S0 T0:Int) (U0:Bool),F2=.tuple ⟨[.agg ⟨(L2 R0 S0 T0)⟩,.bool U0]⟩ /\
 Wn H [vI 0,vI 0,vI 0] 63 fun G2=>
 Wp G2 (aS H 0) 3 (L2 R0 S0 T0) fun V0=>
 (0<=(j:Int)/\(j:Int)<((o.toNat):Nat)) /\
 ∃I,rS V0 (aS k (0+j.toNat*1)) I /\
 QSI x 0 V0 fun H2 J K g I2=>
 sB (decide (K<(I.n:Int)))
 (NB I.a fun J2 K2=>Ib K I.n /\
 ∃W0 X0 Y0 Z0 a1 b1,aL6 g ⟨J2,K2+K.toNat*6,none⟩ W0 X0 Y0 Z0 a1 b1 /\
 Wn g [vI 0,.bool false,vI 0,vI 0,vI 0,.bool false] 45 fun M2=>
 Wp M2 (aS g 0) 6 (L6 W0 X0 Y0 Z0 a1 b1) fun y=>
 ∃W,rI y (aS g 4) W /\
 NB p.a fun N2 O2=>Ib W p.n /\
 ∃f,rI y ⟨N2,O2+W.toNat*1,none⟩ f /\
 ∃X:Sl->Heap->Prop,
 ((0<=(f:Int)/\(f:Int)<((b.toNat):Nat)) /\
 ∃c1,rI y (aS e (0+f.toNat*1)) c1 /\
 sB (decide (c1<0))
 ((0<=(f:Int)/\(f:Int)<((b.toNat):Nat)) /\
 Wp y (aS e (0+f.toNat*1)) 1 [vI (J.n:Int)] fun d1=>
 Wn d1 [vI f] 3 fun P2=>
 App Pz 42 42 (vS J) (.slice (some (aS d1 0)) 1 1) P2 fun Q2 R2=>
 X Q2 R2)
 (X J y)) /\
 ∀(_:Env) (e1:Sl) (m:Heap),X e1 m ->
 (∃Y,rS m (aS h 4) Y /\
 ∃L,rI m (aS H 2) L /\
 NB Y.a fun S2 T2=>(0<=((imax L 0):Int)/\((imax L 0):Int)<(Y.n:Nat)) /\
 ∃f1 g1 h1 i1 j1 k1,aL6 m ⟨S2,T2+Int.toNat (imax L 0)*6,none⟩ f1 g1 h1 i1 j1 k1 /\
 Wn m [vI 0,.bool false,vI 0,vI 0,vI 0,.bool false] 45 fun U2=>
 Wp U2 (aS m 0) 6 (L6 f1 g1 h1 i1 j1 k1) fun c=>
 ∃t:Heap->Prop,
 (sB U0
 (∃l1,rB c (aS g 1) l1 /\
 ∃m1,rB c (aS m 1) m1 /\
 sB (l1==m1)
 (∃n1,rI c (aS g 2) n1 /\
 ∃o1,rI c (aS m 2) o1 /\
 sB (n1==o1)
 (∃p1,rI c (aS g 3) p1 /\
 ∃q1,rI c (aS m 3) q1 /\
 sB (p1==q1)
 (∃r1,rS c (aS d 5) r1 /\
 ∃s1,rI c (aS H 1) s1 /\
 ∃t1,rS c (aS d 4) t1 /\
 Wn c [vI s,vI s1,vI (t1.n:Int)] 63 fun V2=>
 App Pz 25 25 (vS r1) (.slice (some (aS c 0)) 1 1) V2 fun W2 X2=>
 Wp X2 (aS d 5) 1 [vS W2] fun Y2=>
 t Y2)
 (t c))
 (t c))
 (t c))
 (t c)) /\
 ∀(_:Env) (M:Heap),t M ->
 ((0<=(f:Int)/\(f:Int)<((b.toNat):Nat)) /\
 ∃u1,rI M (aS e (0+f.toNat*1)) u1 /\
 Wp M (aS g 0) 1 [vI s] fun v1=>
 Sm [(aS e (0+f.toNat*1))] M v1 /\
 Wp v1 (aS g 4) 1 [vI u1] fun N=>
 ∃w1,rS N (aS d 4) w1 /\
 ∃x1 y1 z1 A1 B1 C1,aL6 N (aS g 0) x1 y1 z1 A1 B1 C1 /\
 Wn N (L6 x1 y1 z1 A1 B1 C1) 45 fun Z2=>
 App Pz 31 31 (vS w1) (.slice (some (aS N 0)) 1 1) Z2 fun a3 b3=>
 Wp b3 (aS d 4) 1 [vS a3] fun c3=>
 ∃D1,D1<I2/\H2 e1 (wrap .i64 (K+1)) c3 D1)))
 (∃E1,E1<w2/\v2 J (wrap .i64 (s+1)) g E1))))
 (Wp l (aS d 1) 1 [vI (x.n:Int)] fun F1=>
 ∃G1 H1 I1 J1 K1 L1,aL4 F1 (aS d 0) G1 H1 I1 J1 K1 L1 /\
 Wp F1 (aS O 0) 6 (L4 G1 H1 I1 J1 K1 L1) fun M1=>
 ∃N1 O1 P1 Q1 R1 S1,aL4 M1 (aS O 0) N1 O1 P1 Q1 R1 S1 /\
 R (.agg ⟨(L4 N1 O1 P1 Q1 R1 S1)⟩) M1)))))))
theorem vc36 (pa pb pc:Int) (pd pe pf:Sl) (H:@W36 h R pa pb pc pd pe pf):Fn Pz 36 #[.agg ⟨(L4 pa pb pc pd pe pf)⟩] h R:=fnJ (A:=(.s .z (.s .z (.s .z (.s (AI 6) (.s .z (.s (AI 52) (.s .z (.s (AI 73) (.s .z (.s (AI 86) (.s .z (.s .z (.s .z (.s (.s .z (.b (.l [(15,.one (.slice)),(17,.one (.int .i64))] (.s .z (.s (.b (.s .z (.s .z (.s .z (.s .z (.s .z (.b (.l [(15,.one (.slice)),(146,.one (.int .i64))] (.s .z (.s .z (.s (.b (.s .z (.s .z (.j [(15,.one (.slice))] .z (.s .z (.j [] .z .z)))))) .z))))))))))) .z))))) .z))))))))))))))) H
def W12 (pa:ByteArray) (pb pc:Sl) (pd pe pf:Int) (pg ph:Sl) (V:Int):Prop:=
 Wn h (L0 pa pb pc pd pe pf pg ph) 27 fun a=>
 Wn a [vI 0,vI 0,vI 0,vN,vN,vN] 33 fun e=>
 ∃f g i j k l m n,aL0 e (aS h 0) f g i j k l m n /\
 Fn Pz 14 #[.agg ⟨(L0 f g i j k l m n)⟩,vI V] e
 (fun W b=>∃(o p q:Int) (r s t:Sl) (c:Int),W=.tuple ⟨[.agg ⟨(L4 o p q r s t)⟩,vI c]⟩ /\
 Wn b [vI 0,vI 0,vI 0,vN,vN,vN] 33 fun X=>
 Wp X (aS b 0) 6 (L4 o p q r s t) fun d=>
 sB (c != 0)
 (Wp d (aS a 0) 6 [vI 0,vI 0,vI 0,vN,vN,vN] fun u=>
 ∃v w x y z A,aL4 u (aS a 0) v w x y z A /\
 R (.tuple ⟨[.agg ⟨(L4 v w x y z A)⟩,vI c]⟩) u)
 (∃B C D E F G,aL4 d (aS b 0) B C D E F G /\
 Fn Pz 36 #[.agg ⟨(L4 B C D E F G)⟩] d
 (fun Y Z=>∃(H I J:Int) (K L M:Sl),Y=.agg ⟨(L4 H I J K L M)⟩ /\
 Wp Z (aS a 0) 6 (L4 H I J K L M) fun N=>
 ∃O P Q S T U,aL4 N (aS a 0) O P Q S T U /\
 R (.tuple ⟨[.agg ⟨(L4 O P Q S T U)⟩,vI 0]⟩) N)))
theorem vc12 (pa:ByteArray) (pb pc:Sl) (pd pe pf:Int) (pg ph:Sl) (p1:Int) (H:@W12 h R pa pb pc pd pe pf pg ph p1):Fn Pz 12 #[.agg ⟨(L0 pa pb pc pd pe pf pg ph)⟩,vI p1] h R:=fnJ (A:=.z) H
def W10 :Prop:=
 Fn Pz 34 #[.bool true] h
 (fun W X=>∃(f:ByteArray) (g i:Sl) (j k l:Int) (m o:Sl),W=.agg ⟨(L0 f g i j k l m o)⟩ /\
 Fn Pz 12 #[.agg ⟨(L0 f g i j k l m o)⟩,vI 2] X
 (fun Y c=>∃(p q r:Int) (s t u:Sl) (v:Int),Y=.tuple ⟨[.agg ⟨(L4 p q r s t u)⟩,vI v]⟩ /\
 Wn c [vI 0,vI 0,vI 0,vN,vN,vN] 33 fun Z=>
 Wp Z (aS c 0) 6 (L4 p q r s t u) fun a0=>
 Fn Pz 34 #[.bool false] a0
 (fun b0 c0=>∃(w:ByteArray) (x y:Sl) (z A B:Int) (C D:Sl),b0=.agg ⟨(L0 w x y z A B C D)⟩ /\
 Fn Pz 12 #[.agg ⟨(L0 w x y z A B C D)⟩,vI 2] c0
 (fun d0 E=>∃(F G H:Int) (I J K:Sl) (L:Int),d0=.tuple ⟨[.agg ⟨(L4 F G H I J K)⟩,vI L]⟩ /\
 Wn E [vI 0,vI 0,vI 0,vN,vN,vN] 33 fun e0=>
 Wp e0 (aS E 0) 6 (L4 F G H I J K) fun b=>
 sB (v==0)
 (sB (L==18)
 (∃M,rI b (aS c 1) M /\
 sB (M==4)
 (∃N,rS b (aS c 4) N /\
 sB ((N.n:Int)==4)
 (∃d,rS b (aS c 4) d /\
 NB d.a fun f0 g0=>Ib 3 d.n /\
 ∃O P Q S T U,aL6 b ⟨f0,g0+Int.toNat 3*6,none⟩ O P Q S T U /\
 sB ((O==2)&&((P==true)&&((Q==1)&&((S==3)&&((T==3)&&((U==false)&&true))))))
 (∃e,rS b (aS c 3) e /\
 NB e.a fun h0 i0=>Ib 3 e.n /\
 ∃V,rB b ⟨h0,i0+Int.toNat 3*1,none⟩ V /\
 R (.bool V) b)
 (R (.bool false) b))
 (R (.bool false) b))
 (R (.bool false) b))
 (R (.bool false) b))
 (R (.bool false) b)))))
theorem vc10  (H:@W10 h R ):Fn Pz 10 #[] h R:=fnJ (A:=.z) H
def V34a (a t h:Heap) (R:Value->Heap->Prop):Prop:=
 ∃b c d e f g i j,aL0 a (aS t 0) b c d e f g i j/\Wp a (aS h 0) 8 (L0 b c d e f g i j) fun k=>∃l m n o p q r s,aL0 k (aS h 0) l m n o p q r s/\R (.agg ⟨(L0 l m n o p q r s)⟩) k
def W34 (p0:Bool):Prop:=
 Wn h [.string ⟨#[]⟩,vN,vN,vI 0,vI 0,vI 0,vN,vN] 27 fun b=>Wn b [.string ⟨#[112]⟩,.string ⟨#[113]⟩,.string ⟨#[114]⟩] 9 fun c=>Wn c [.string ⟨#[97]⟩,vN,vI 0,vN,vN,.string ⟨#[98]⟩,vN,vI 0,vN,vN,.string ⟨#[99]⟩,vN,vI 0,vN,vN,.string ⟨#[100]⟩,vN,vI 0,vN,vN] 136 fun a=>Wn a [.string ⟨#[]⟩,vN,vN,vI 0,vI 0,vI 0,vN,vN] 27 fun h4=>Wp h4 (aS a 0) 8 [.string ⟨#[101]⟩,.slice (some (aS b 0)) 3 3,.slice (some (aS c 0)) 4 4,vI 4,vI 0,vI 3,vN,vN] fun h5=>Fn Pz 70 #[vI 0,vI 0,vI 1,vI 0,vI 1] h5 (fun v6 u0=>∃(d e f g i:Int) (j:Bool),v6=.agg ⟨(L3 d e f g i j)⟩/\Fn Pz 70 #[vI 0,vI 0,vI 1,vI 1,vI 2] u0 (fun v0 w0=>∃(k l m n o:Int) (p:Bool),v0=.agg ⟨(L3 k l m n o p)⟩/\Fn Pz 70 #[vI 1,vI 2,vI 1,vI 2,vI 3] w0 (fun x0 y0=>∃(q r s t u:Int) (v:Bool),x0=.agg ⟨(L3 q r s t u v)⟩/\Fn Pz 70 #[vI 2,vI 2,vI 1,vI 3,vI 3] y0 (fun z0 w=>∃(x y z A B:Int) (C:Bool),z0=.agg ⟨(L3 x y z A B C)⟩/\Wn w [vI d,vI e,vI f,vI g,vI i,.bool j,vI k,vI l,vI m,vI n,vI o,.bool p,vI q,vI r,vI s,vI t,vI u,.bool v,vI x,vI y,vI z,vI A,vI B,.bool C] 55 fun A0=>Wp A0 (aS a 6) 1 [.slice (some (aS w 0)) 4 4] fun D=>sB p0 (Wp D (aS a 3) 1 [vI 6] fun B0=>Wp B0 (aS a 5) 1 [vI 5] fun C0=>Fn Pz 70 #[vI 0,vI 0,vI 1,vI 0,vI 1] C0 (fun D0 E0=>∃(E F G H I:Int) (J:Bool),D0=.agg ⟨(L3 E F G H I J)⟩/\Fn Pz 70 #[vI 0,vI 0,vI 1,vI 1,vI 2] E0 (fun F0 G0=>∃(K L M N O:Int) (P:Bool),F0=.agg ⟨(L3 K L M N O P)⟩/\Fn Pz 70 #[vI 1,vI 1,vI 2,vI 0,vI 3] G0 (fun H0 I0=>∃(Q S T U V:Int) (W:Bool),H0=.agg ⟨(L3 Q S T U V W)⟩/\Fn Pz 70 #[vI 2,vI 1,vI 2,vI 1,vI 4] I0 (fun J0 K0=>∃(X Y Z a0 b0:Int) (c0:Bool),J0=.agg ⟨(L3 X Y Z a0 b0 c0)⟩/\Fn Pz 70 #[vI 3,vI 2,vI 1,vI 2,vI 5] K0 (fun L0 M0=>∃(d0 e0 f0 g0 h0:Int) (i0:Bool),L0=.agg ⟨(L3 d0 e0 f0 g0 h0 i0)⟩/\Fn Pz 70 #[vI 4,vI 2,vI 1,vI 3,vI 5] M0 (fun N0 j0=>∃(k0 l0 m0 n0 o0:Int) (p0:Bool),N0=.agg ⟨(L3 k0 l0 m0 n0 o0 p0)⟩/\Wn j0 [vI E,vI F,vI G,vI H,vI I,.bool J,vI K,vI L,vI M,vI N,vI O,.bool P,vI Q,vI S,vI T,vI U,vI V,.bool W,vI X,vI Y,vI Z,vI a0,vI b0,.bool c0,vI d0,vI e0,vI f0,vI g0,vI h0,.bool i0,vI k0,vI l0,vI m0,vI n0,vI o0,.bool p0] 55 fun O0=>Wp O0 (aS a 6) 1 [.slice (some (aS j0 0)) 6 6] fun P0=>V34a P0 a h R))))))) (V34a D a h R)))))
theorem vc34 (p0:Bool) (H:@W34 h R p0):Fn Pz 34 #[.bool p0] h R:=fnJ (A:=.z) H
def W70 (i j k l m:Int):Prop:=
 Wn h [vI 0,vI 0,vI 0,vI 0,vI 0,.bool false] 55 fun n=>
 Wp n (aS h 0) 6 [vI i,vI j,vI k,vI l,vI m,.bool false] fun a=>
 ∃b c d e f g,aL3 a (aS h 0) b c d e f g /\
 R (.agg ⟨(L3 b c d e f g)⟩) a
theorem vc70 (p0 p1 p2 p3 p4:Int) (H:@W70 h R p0 p1 p2 p3 p4):Fn Pz 70 #[vI p0,vI p1,vI p2,vI p3,vI p4] h R:=fnJ (A:=.z) H
def W11 (pa:ByteArray) (pb pc:Sl) (pd pe pf:Int) (pg ph:Sl):Prop:=
 Wn h (L0 pa pb pc pd pe pf pg ph) 27 fun b=>
 ∃c d e f g i j k,aL0 b (aS h 0) c d e f g i j k /\
 Fn Pz 35 #[.agg ⟨(L0 c d e f g i j k)⟩] b
 (fun n a=>∃l,iB n l /\
 sB l
 (∃m,rI a (aS h 3) m /\
 R (.bool (decide (m<=25))) a)
 (R (.bool false) a))
theorem vc11 (pa:ByteArray) (pb pc:Sl) (pd pe pf:Int) (pg ph:Sl) (H:@W11 h R pa pb pc pd pe pf pg ph):Fn Pz 11 #[.agg ⟨(L0 pa pb pc pd pe pf pg ph)⟩] h R:=fnJ (A:=.z) H
def W35 (pa:ByteArray) (pb pc:Sl) (pd pe pf:Int) (pg ph:Sl):Prop:=
 Wn h (L0 pa pb pc pd pe pf pg ph) 27 fun a=>
 ∃b,rS a (aS h 6) b /\
 sB (decide ((b.n:Int)<=50))
 (∃c,rS a (aS h 1) c /\
 sB (decide ((c.n:Int)<=6))
 (∃d,rS a (aS h 2) d /\
 sB (decide ((d.n:Int)<=40))
 (∃e,rS a (aS h 7) e /\
 R (.bool (decide ((e.n:Int)<=50))) a)
 (R (.bool false) a))
 (R (.bool false) a))
 (R (.bool false) a)
theorem vc35 (pa:ByteArray) (pb pc:Sl) (pd pe pf:Int) (pg ph:Sl) (H:@W35 h R pa pb pc pd pe pf pg ph):Fn Pz 35 #[.agg ⟨(L0 pa pb pc pd pe pf pg ph)⟩] h R:=fnJ (A:=.z) H
def W31 (pa:ByteArray) (pb pc:Sl) (pd pe pf:Int) (pg ph:Sl):Prop:=
 Wn h (L0 pa pb pc pd pe pf pg ph) 27 fun e=>
 ∃f g i j k l m n,aL0 e (aS h 0) f g i j k l m n /\
 Fn Pz 64 #[.agg ⟨(L0 f g i j k l m n)⟩] e
 (fun a0 a=>∃o,iB a0 o /\
 sB o
 (∃p q r s t u v w,aL0 a (aS h 0) p q r s t u v w /\
 Fn Pz 65 #[.agg ⟨(L0 p q r s t u v w)⟩] a
 (fun b0 b=>∃x,iB b0 x /\
 sB x
 (∃y z A B C D E F,aL0 b (aS h 0) y z A B C D E F /\
 Fn Pz 66 #[.agg ⟨(L0 y z A B C D E F)⟩] b
 (fun c0 c=>∃G,iB c0 G /\
 sB G
 (∃H I J K L M N O,aL0 c (aS h 0) H I J K L M N O /\
 Fn Pz 67 #[.agg ⟨(L0 H I J K L M N O)⟩] c
 (fun d0 d=>∃P,iB d0 P /\
 sB P
 (∃Q S T U V W X Y,aL0 d (aS h 0) Q S T U V W X Y /\
 Fn Pz 68 #[.agg ⟨(L0 Q S T U V W X Y)⟩] d
 (fun e0 f0=>∃Z,iB e0 Z /\
 R (.bool Z) f0))
 (R (.bool false) d)))
 (R (.bool false) c)))
 (R (.bool false) b)))
 (R (.bool false) a))
theorem vc31 (pa:ByteArray) (pb pc:Sl) (pd pe pf:Int) (pg ph:Sl) (H:@W31 h R pa pb pc pd pe pf pg ph):Fn Pz 31 #[.agg ⟨(L0 pa pb pc pd pe pf pg ph)⟩] h R:=fnJ (A:=.z) H
def W64 (pa:ByteArray) (pb pc:Sl) (pd pe pf:Int) (pg ph:Sl):Prop:=
 Wn h (L0 pa pb pc pd pe pf pg ph) 27 fun z=>
 QI 0 z fun A b d B=>
 ∃j,rS d (aS h 1) j /\
 sB (decide (b<(j.n:Int)))
 (∃f,rS d (aS h 1) f /\
 NB f.a fun k l=>Ib b f.n /\
 ∃m,rT d ⟨k,l+b.toNat*1,none⟩ m /\
 Fn Pz 111 #[.string m] d
 (fun C e=>∃o,iB C o /\
 sB (!o)
 (R (.bool false) e)
 (∃p,rS e (aS h 1) p /\
 ∃g,rS e (aS h 1) g /\
 NB g.a fun D E=>Ib b g.n /\
 ∃q,rT e ⟨D,E+b.toNat*1,none⟩ q /\
 Fn Pz 112 #[vS p,.string q] e
 (fun F i=>∃r,iI F r /\
 Sm [⟨k,l+b.toNat*1,none⟩,(aS h 1)] e i /\
 sB (decide (r<b))
 (R (.bool false) i)
 (∃s,s<B/\A (wrap .i64 (b+1)) i s)))))
 (∃t,rT d (aS h 0) t /\
 Fn Pz 111 #[.string t] d
 (fun G c=>∃u,iB G u /\
 sB u
 (∃v,rS c (aS h 1) v /\
 sB (decide ((v.n:Int)>=1))
 (∃w,rS c (aS h 1) w /\
 sB (decide ((w.n:Int)<=6))
 (∃x,rS c (aS h 2) x /\
 Fn Pz 113 #[vS x] c
 (fun H I=>∃y,iB H y /\
 R (.bool y) I))
 (R (.bool false) c))
 (R (.bool false) c))
 (R (.bool false) c)))
theorem vc64 (pa:ByteArray) (pb pc:Sl) (pd pe pf:Int) (pg ph:Sl) (H:@W64 h R pa pb pc pd pe pf pg ph):Fn Pz 64 #[.agg ⟨(L0 pa pb pc pd pe pf pg ph)⟩] h R:=fnJ (A:=(.s .z (.s (AI 3) .z))) H
def W65 (pa:ByteArray) (pb pc:Sl) (pd pe pf:Int) (pg ph:Sl):Prop:=
 Wn h (L0 pa pb pc pd pe pf pg ph) 27 fun h9=>
 QI 0 h9 fun x0 d b y0=>
 ∃k,rS b (aS h 6) k /\
 sB (decide (d<(k.n:Int)))
 (∃g,rS b (aS h 6) g /\
 NB g.a fun z0 A0=>Ib d g.n /\
 ∃l m o p q r,aL3 b ⟨z0,A0+d.toNat*6,none⟩ l m o p q r /\
 Wn b [vI 0,vI 0,vI 0,vI 0,vI 0,.bool false] 55 fun B0=>
 Wp B0 (aS b 0) 6 (L3 l m o p q r) fun i=>
 ∃s t u v w x y z,aL0 i (aS h 0) s t u v w x y z /\
 ∃A,rI i (aS b 0) A /\
 Fn Pz 114 #[.agg ⟨(L0 s t u v w x y z)⟩,vI A] i
 (fun C0 e=>∃B,iB C0 B /\
 sB (!B)
 (R (.bool false) e)
 (∃C D E F G H I J,aL0 e (aS h 0) C D E F G H I J /\
 ∃K,rI e (aS b 4) K /\
 Fn Pz 114 #[.agg ⟨(L0 C D E F G H I J)⟩,vI K] e
 (fun D0 c=>∃L,iB D0 L /\
 sB (!L)
 (R (.bool false) c)
 (∃M,rI c (aS b 1) M /\
 sB (decide (M<0))
 (R (.bool false) c)
 (∃N,rI c (aS b 1) N /\
 ∃O,rS c (aS h 1) O /\
 sB (decide (N>=(O.n:Int)))
 (R (.bool false) c)
 (∃P,rI c (aS b (1+1)) P /\
 sB (decide (P<0))
 (R (.bool false) c)
 (∃Q,rI c (aS b (1+1)) Q /\
 ∃S,rS c (aS h 1) S /\
 sB (decide (Q>=(S.n:Int)))
 (R (.bool false) c)
 (∃T,rI c (aS b 1) T /\
 ∃U,rI c (aS b (1+1)) U /\
 sB (T==U)
 (R (.bool false) c)
 (∃V,rI c (aS b (1+2)) V /\
 sB (decide (V<0))
 (R (.bool false) c)
 (∃W,rI c (aS b (1+2)) W /\
 ∃X,rS c (aS h 2) X /\
 sB (decide (W>=(X.n:Int)))
 (R (.bool false) c)
 (∃Y,Y<y0/\x0 (wrap .i64 (d+1)) c Y))))))))))))
 (∃Z,rI b (aS h 3) Z /\
 sB (decide (Z>=1))
 (∃a0,rI b (aS h 3) a0 /\
 sB (decide (a0<=200))
 (∃b0 c0 d0 e0 f0 g0 h0 i0,aL0 b (aS h 0) b0 c0 d0 e0 f0 g0 h0 i0 /\
 ∃j0,rI b (aS h 4) j0 /\
 Fn Pz 114 #[.agg ⟨(L0 b0 c0 d0 e0 f0 g0 h0 i0)⟩,vI j0] b
 (fun E0 f=>∃k0,iB E0 k0 /\
 sB k0
 (∃l0 m0 n0 o0 p0 q0 r0 s0,aL0 f (aS h 0) l0 m0 n0 o0 p0 q0 r0 s0 /\
 ∃t0,rI f (aS h 5) t0 /\
 Fn Pz 114 #[.agg ⟨(L0 l0 m0 n0 o0 p0 q0 r0 s0)⟩,vI t0] f
 (fun F0 j=>∃u0,iB F0 u0 /\
 sB u0
 (∃v0,rS j (aS h 6) v0 /\
 R (.bool (decide ((v0.n:Int)<=400))) j)
 (R (.bool false) j)))
 (R (.bool false) f)))
 (R (.bool false) b))
 (R (.bool false) b))
theorem vc65 (pa:ByteArray) (pb pc:Sl) (pd pe pf:Int) (pg ph:Sl) (H:@W65 h R pa pb pc pd pe pf pg ph):Fn Pz 65 #[.agg ⟨(L0 pa pb pc pd pe pf pg ph)⟩] h R:=fnJ (A:=(.s .z (.s (AI 3) .z))) H
def V66b (a b c:Heap) (R:Value->Heap->Prop) (d:Nat) (e:Int->Heap->Nat->Prop) (f:Int):Prop:=
 ∃g,rB a (aS b 5) g/\sB g (∃h,rI a (aS c 4) h/\∃i,rI a (aS b 0) i/\sB (h==i) (∃j,rI a (aS c 1) j/\∃k,rI a (aS b 1) k/\sB (j != k) (R (.bool false) a) (∃l,rI a (aS c (1+2)) l/\∃m,rI a (aS b (1+2)) m/\sB (l != m) (R (.bool false) a) (∃n,n<d/\e (wrap .i64 (f+1)) a n))) (∃o,o<d/\e (wrap .i64 (f+1)) a o)) (∃p,p<d/\e (wrap .i64 (f+1)) a p)
def V66a (E h:Heap) (j:Int) (d:Heap) (R:Value->Heap->Prop) (F:Nat) (G:Int->Heap->Nat->Prop):Prop:=
 QI 0 E fun f e c g=>∃k,rS c (aS h 6) k/\sB (decide (e<(k.n:Int))) (∃i,rS c (aS h 6) i/\NB i.a fun H I=>Ib e i.n/\∃l m o p q r,aL3 c ⟨H,I+e.toNat*6,none⟩ l m o p q r/\Wn c [vI 0,vI 0,vI 0,vI 0,vI 0,.bool false] 55 fun J=>Wp J (aS c 0) 6 (L3 l m o p q r) fun b=>sB (e != j) (∃s,rI b (aS d 0) s/\∃t,rI b (aS c 0) t/\sB (s==t) (∃u v w,aL2 b (aS d 1) u v w/\∃x y z,aL2 b (aS c 1) x y z/\sB ((u==x)&&((v==y)&&((w==z)&&true))) (R (.bool false) b) (∃A,rI b (aS d 1) A/\∃B,rI b (aS c 1) B/\sB (A != B) (R (.bool false) b) (∃C,rB b (aS d 5) C/\sB C (R (.bool false) b) (V66b b d c R g f e)))) (V66b b d c R g f e)) (V66b b d c R g f e)) (∃D,D<F/\G (wrap .i64 (j+1)) c D)
def W66 (pa:ByteArray) (pb pc:Sl) (pd pe pf:Int) (pg ph:Sl):Prop:=
 Wn h (L0 pa pb pc pd pe pf pg ph) 27 fun t=>QI 0 t fun f d b g=>∃i,rS b (aS h 6) i/\sB (decide (d<(i.n:Int))) (∃e,rS b (aS h 6) e/\NB e.a fun u v=>Ib d e.n/\∃j k l m o p,aL3 b ⟨u,v+d.toNat*6,none⟩ j k l m o p/\Wn b [vI 0,vI 0,vI 0,vI 0,vI 0,.bool false] 55 fun w=>Wp w (aS b 0) 6 (L3 j k l m o p) fun c=>∃q,rB c (aS b 5) q/\sB q (∃r,rI c (aS b 0) r/\∃s,rI c (aS h 4) s/\sB (r==s) (R (.bool false) c) (V66a c h d b R g f)) (V66a c h d b R g f)) (R (.bool true) b)
theorem vc66 (pa:ByteArray) (pb pc:Sl) (pd pe pf:Int) (pg ph:Sl) (H:@W66 h R pa pb pc pd pe pf pg ph):Fn Pz 66 #[.agg ⟨(L0 pa pb pc pd pe pf pg ph)⟩] h R:=fnJ (A:=(.s .z (.s (.s .z (.b (.l [(3,.one (.int .i64))] (.s .z (.s (.b (.s .z (.s .z (AI 5)))) .z))))) .z))) H
def W67 (pa:ByteArray) (pb pc:Sl) (pd pe pf:Int) (pg ph:Sl):Prop:=
 Wn h (L0 pa pb pc pd pe pf pg ph) 27 fun f=>
 ∃c,rI f (aS h 3) c /\
 Mk c c 1/\Wn f (madeL Pz 4 (c.toNat)) 4 fun s=>
 ∃j,rI s (aS h 4) j /\
 (0<=(j:Int)/\(j:Int)<((c.toNat):Nat)) /\
 Wp s (aS f (0+j.toNat*1)) 1 [.bool true] fun a0=>
 QI 0 a0 fun b0 t k c0=>
 ∃u,rI k (aS h 3) u /\
 sB (decide (t<u))
 (QI 0 k fun v d b w=>
 ∃x,rS b (aS h 6) x /\
 sB (decide (d<(x.n:Int)))
 (∃o,rS b (aS h 6) o /\
 NB o.a fun d0 e0=>Ib d o.n /\
 ∃g,rI b ⟨d0,e0+d.toNat*6+4,none⟩ g /\
 ∃p,rS b (aS h 6) p /\
 NB p.a fun f0 g0=>Ib d p.n /\
 ∃l,rI b ⟨f0,g0+d.toNat*6+4,none⟩ l /\
 (0<=(l:Int)/\(l:Int)<((c.toNat):Nat)) /\
 ∃y,rB b (aS f (0+l.toNat*1)) y /\
 sB y
 ((0<=(g:Int)/\(g:Int)<((c.toNat):Nat)) /\
 Wp b (aS f (0+g.toNat*1)) 1 [.bool true] fun h0=>
 ∃z,z<w/\v (wrap .i64 (d+1)) h0 z)
 (∃q,rS b (aS h 6) q /\
 NB q.a fun i0 j0=>Ib d q.n /\
 ∃m,rI b ⟨i0,j0+d.toNat*6,none⟩ m /\
 (0<=(m:Int)/\(m:Int)<((c.toNat):Nat)) /\
 ∃A,rB b (aS f (0+m.toNat*1)) A /\
 (0<=(g:Int)/\(g:Int)<((c.toNat):Nat)) /\
 Wp b (aS f (0+g.toNat*1)) 1 [.bool A] fun k0=>
 ∃B,B<w/\v (wrap .i64 (d+1)) k0 B))
 (∃C,C<c0/\b0 (wrap .i64 (t+1)) b C))
 (∃D E F G H I J K,aL0 k (aS h 0) D E F G H I J K /\
 Fn Pz 115 #[.agg ⟨(L0 D E F G H I J K)⟩] k
 (fun l0 m0=>∃r,iS l0 r /\
 QI 0 m0 fun n0 i e o0=>
 ∃L,rI e (aS h 3) L /\
 sB (decide (i<L))
 ((0<=(i:Int)/\(i:Int)<((c.toNat):Nat)) /\
 ∃M,rB e (aS f (0+i.toNat*1)) M /\
 sB (!M)
 (R (.bool false) e)
 (NB r.a fun p0 q0=>Ib i r.n /\
 ∃N,rI e ⟨p0,q0+i.toNat*1,none⟩ N /\
 sB (decide (N<0))
 (R (.bool false) e)
 (∃O,O<o0/\n0 (wrap .i64 (i+1)) e O)))
 (∃P Q S T U V W X,aL0 e (aS h 0) P Q S T U V W X /\
 ∃Y,rI e (aS h 5) Y /\
 Fn Pz 116 #[.agg ⟨(L0 P Q S T U V W X)⟩,vI Y] e
 (fun r0 s0=>∃Z,iS r0 Z /\
 R (.bool ((Z.n:Int)==0)) s0))))
theorem vc67 (pa:ByteArray) (pb pc:Sl) (pd pe pf:Int) (pg ph:Sl) (H:@W67 h R pa pb pc pd pe pf pg ph):Fn Pz 67 #[.agg ⟨(L0 pa pb pc pd pe pf pg ph)⟩] h R:=fnJ (A:=(.s .z (.s .z (.s .z (.s (.s .z (.b (.l [(4,.one (.int .i64))] (.s .z (.s (.b (AI 5)) .z))))) (.s .z (.s (AI 7) .z))))))) H
def V68a (b c:Heap) (R:Value->Heap->Prop) (h:Heap) (s:Nat) (t:Int->Heap->Nat->Prop) (u:Int):Prop:=
 ∃i,rI b (aS c 1) i/\sB (decide (i<1)) (R (.bool false) b) (∃j,rI b (aS c 1) j/\sB (decide (j>1000)) (R (.bool false) b) (∃k,rI b (aS c 2) k/\sB (decide (k<0)) (R (.bool false) b) (∃l,rI b (aS c 2) l/\∃m,rS b (aS h 6) m/\sB (decide (l>=(m.n:Int))) (R (.bool false) b) (∃d,rS b (aS h 6) d/\∃e,rI b (aS c 2) e/\NB d.a fun v w=>Ib e d.n/\∃o,rI b ⟨v,w+e.toNat*6,none⟩ o/\∃p,rI b (aS c 0) p/\sB (o != p) (R (.bool false) b) (∃f,rS b (aS h 6) f/\∃g,rI b (aS c 2) g/\NB f.a fun x y=>Ib g f.n/\∃q,rB b ⟨x,y+g.toNat*6+5,none⟩ q/\sB q (R (.bool false) b) (∃r,r<s/\t (wrap .i64 (u+1)) b r))))))
def W68 (pa:ByteArray) (pb pc:Sl) (pd pe pf:Int) (pg ph:Sl):Prop:=
 Wn h (L0 pa pb pc pd pe pf pg ph) 27 fun B=>QI 0 B fun i c b j=>∃k,rS b (aS h 7) k/\sB (decide (c<(k.n:Int))) (∃e,rS b (aS h 7) e/\NB e.a fun C D=>Ib c e.n/\∃l m o,aL2 b ⟨C,D+c.toNat*3,none⟩ l m o/\Wn b [vI 0,vI 0,vI 0] 63 fun E=>Wp E (aS b 0) 3 (L2 l m o) fun f=>∃p q r s t u v w,aL0 f (aS h 0) p q r s t u v w/\∃x,rI f (aS b 0) x/\Fn Pz 114 #[.agg ⟨(L0 p q r s t u v w)⟩,vI x] f (fun F d=>∃y,iB F y/\sB (!y) (R (.bool false) d) (sB (decide (c>0)) (∃z,rI d (aS b 0) z/\∃g,rS d (aS h 7) g/\NB g.a fun G H=>(0<=((wrap .i64 (c-1)):Int)/\((wrap .i64 (c-1)):Int)<(g.n:Nat))/\∃A,rI d ⟨G,H+Int.toNat (wrap .i64 (c-1))*3,none⟩ A/\sB (decide (z<=A)) (R (.bool false) d) (V68a d b R h j i c)) (V68a d b R h j i c)))) (R (.bool true) b)
theorem vc68 (pa:ByteArray) (pb pc:Sl) (pd pe pf:Int) (pg ph:Sl) (H:@W68 h R pa pb pc pd pe pf pg ph):Fn Pz 68 #[.agg ⟨(L0 pa pb pc pd pe pf pg ph)⟩] h R:=fnJ (A:=(.s .z (.s (AI 3) .z))) H
def W111 (a:ByteArray):Prop:=
 Fn Pz 152 #[.string a] h
 (fun f b=>∃c,iB f c /\
 sB c
 (Fn Pz 154 #[] b
 (fun g i=>∃d,iS g d /\
 Fn Pz 153 #[vS d,.string a] i
 (fun j k=>∃e,iB j e /\
 R (.bool (!e)) k)))
 (R (.bool false) b))
theorem vc111 (p0:ByteArray) (H:@W111 h R p0):Fn Pz 111 #[.string p0] h R:=fnJ (A:=.z) H
def W112 (d:Sl) (g:ByteArray):Prop:=
 QI 0 h fun i b c j=>
 sB (decide (b<(d.n:Int)))
 (NB d.a fun k l=>Ib b d.n /\
 ∃e,rT c ⟨k,l+b.toNat*1,none⟩ e /\
 sB ((ByteArray.toList e)==(ByteArray.toList g))
 (R (vI b) c)
 (∃f,f<j/\i (wrap .i64 (b+1)) c f))
 (R (vI (-1)) c)
theorem vc112 (p0:Sl) (p1:ByteArray) (H:@W112 h R p0 p1):Fn Pz 112 #[vS p0,.string p1] h R:=fnJ (A:=(.s .z (.s (AI 5) .z))) H
def W113 (d:Sl):Prop:=
 sB (decide ((d.n:Int)>40))
 (R (.bool false) h)
 (Fn Pz 155 #[vS d] h
 (fun v1 t=>∃u,iI v1 u /\
 sB (decide (u>24))
 (R (.bool false) t)
 (QII 0 0 t fun I4 v i b m6=>
 sB (decide (i<(d.n:Int)))
 (NB d.a fun d0 e0=>Ib i d.n /\
 ∃w x y z A,aL9 b ⟨d0,e0+i.toNat*5,none⟩ w x y z A /\
 Wn b [.string ⟨#[]⟩,vN,vI 0,vN,vN] 136 fun f0=>
 Wp f0 (aS b 0) 5 (L9 w x y z A) fun g0=>
 QI 0 g0 fun h0 k j i0=>
 sB (decide (k<i))
 (NB d.a fun j0 k0=>Ib k d.n /\
 ∃B,rT j ⟨j0,k0+k.toNat*5,none⟩ B /\
 ∃C,rT j (aS b 0) C /\
 sB ((ByteArray.toList B)==(ByteArray.toList C))
 (R (.bool false) j)
 (∃D,D<i0/\h0 (wrap .i64 (k+1)) j D))
 (QI 0 j fun l0 c g m0=>
 ∃E,rS g (aS b 1) E /\
 sB (decide (c<(E.n:Int)))
 (∃o,rS g (aS b 1) o /\
 NB o.a fun n0 o0=>Ib c o.n /\
 ∃F G H,aL2 g ⟨n0,o0+c.toNat*4+1,none⟩ F G H /\
 Fn Pz 156 #[.agg ⟨(L2 F G H)⟩] g
 (fun p0 l=>∃I,iB p0 I /\
 sB (!I)
 (R (.bool false) l)
 (∃p,rS l (aS b 1) p /\
 NB p.a fun q0 r0=>Ib c p.n /\
 ∃J,rT l ⟨q0,r0+c.toNat*4,none⟩ J /\
 Fn Pz 111 #[.string J] l
 (fun s0 K=>∃L,iB s0 L /\
 sB (!L)
 (R (.bool false) K)
 (QI 0 K fun t0 m e u0=>
 sB (decide (m<c))
 (∃q,rS e (aS b 1) q /\
 NB q.a fun v0 w0=>Ib m q.n /\
 ∃M,rT e ⟨v0,w0+m.toNat*4,none⟩ M /\
 ∃r,rS e (aS b 1) r /\
 NB r.a fun x0 y0=>Ib c r.n /\
 ∃N,rT e ⟨x0,y0+c.toNat*4,none⟩ N /\
 sB ((ByteArray.toList M)==(ByteArray.toList N))
 (R (.bool false) e)
 (∃O,O<u0/\t0 (wrap .i64 (m+1)) e O))
 (∃P,P<m0/\l0 (wrap .i64 (c+1)) e P))))))
 (∃Q,rT g (aS b 0) Q /\
 Fn Pz 157 #[.string Q] g
 (fun z0 f=>∃S,iB z0 S /\
 sB (!S)
 (R (.bool false) f)
 (∃T,rS f (aS b 1) T /\
 sB (decide ((T.n:Int)>4))
 (R (.bool false) f)
 (∃U,rI f (aS b 2) U /\
 sB (U != v)
 (R (.bool false) f)
 (∃(V W:Sl),atC f (aS b 3) [vS V,vS W] /\
 Fn Pz 158 #[vS d,.agg ⟨[vS V,vS W]⟩] f
 (fun A0 s=>∃X,iB A0 X /\
 sB (!X)
 (R (.bool false) s)
 (∃Y,rS s (aS b 1) Y /\
 ∃Z,Z<m6/\I4 (wrap .i64 (v+(Y.n:Int))) (wrap .i64 (i+1)) s Z)))))))))
 (R (.bool true) b))))
theorem vc113 (p0:Sl) (H:@W113 h R p0):Fn Pz 113 #[vS p0] h R:=fnJ (A:=(.s .z (.s .z (.s .z (.s (.s .z (.b (.l [(3,.one (.int .i64)),(4,.one (.int .i64))] (.s .z (.s (.b (.s .z (.s (AI 6) (.s (.s .z (.b (.l [(7,.one (.int .i64))] (.s .z (.s (.b (.s .z (AI 8))) .z))))) .z)))) .z))))) .z))))) H
def W114 (pa:ByteArray) (pb pc:Sl) (pd pe pf:Int) (pg ph:Sl) (b:Int):Prop:=
 Wn h (L0 pa pb pc pd pe pf pg ph) 27 fun a=>
 sB (decide (b>=0))
 (∃c,rI a (aS h 3) c /\
 R (.bool (decide (b<c))) a)
 (R (.bool false) a)
theorem vc114 (pa:ByteArray) (pb pc:Sl) (pd pe pf:Int) (pg ph:Sl) (p1:Int) (H:@W114 h R pa pb pc pd pe pf pg ph p1):Fn Pz 114 #[.agg ⟨(L0 pa pb pc pd pe pf pg ph)⟩,vI p1] h R:=fnJ (A:=.z) H
def W115 (pa:ByteArray) (pb pc:Sl) (pd pe pf:Int) (pg ph:Sl):Prop:=
 Wn h (L0 pa pb pc pd pe pf pg ph) 27 fun d=>
 ∃b,rI d (aS h 3) b /\
 Mk b b 8/\Wn d (madeL Pz 3 (b.toNat)) 3 fun J=>
 QI 0 J fun K g i L=>
 ∃t,rI i (aS h 3) t /\
 sB (decide (g<t))
 ((0<=(g:Int)/\(g:Int)<((b.toNat):Nat)) /\
 Wp i (aS d (0+g.toNat*1)) 1 [vI (-1)] fun M=>
 ∃u,u<L/\K (wrap .i64 (g+1)) M u)
 (∃j,rI i (aS h 5) j /\
 (0<=(j:Int)/\(j:Int)<((b.toNat):Nat)) /\
 Wp i (aS d (0+j.toNat*1)) 1 [vI 0] fun N=>
 QI 0 N fun O k p P=>
 ∃v,rI p (aS h 3) v /\
 sB (decide (k<v))
 (QI 0 p fun q f c r=>
 ∃w,rS c (aS h 6) w /\
 sB (decide (f<(w.n:Int)))
 (∃s,rS c (aS h 6) s /\
 NB s.a fun Q S=>Ib f s.n /\
 ∃x y z A B C,aL3 c ⟨Q,S+f.toNat*6,none⟩ x y z A B C /\
 Wn c [vI 0,vI 0,vI 0,vI 0,vI 0,.bool false] 55 fun T=>
 Wp T (aS c 0) 6 (L3 x y z A B C) fun e=>
 ∃l,rI e (aS c 4) l /\
 (0<=(l:Int)/\(l:Int)<((b.toNat):Nat)) /\
 ∃D,rI e (aS d (0+l.toNat*1)) D /\
 sB (D==k)
 (∃m,rI e (aS c 0) m /\
 (0<=(m:Int)/\(m:Int)<((b.toNat):Nat)) /\
 ∃E,rI e (aS d (0+m.toNat*1)) E /\
 sB (decide (E<0))
 (∃o,rI e (aS c 0) o /\
 (0<=(o:Int)/\(o:Int)<((b.toNat):Nat)) /\
 Wp e (aS d (0+o.toNat*1)) 1 [vI (wrap .i64 (k+1))] fun U=>
 ∃F,F<r/\q (wrap .i64 (f+1)) U F)
 (∃G,G<r/\q (wrap .i64 (f+1)) e G))
 (∃H,H<r/\q (wrap .i64 (f+1)) e H))
 (∃I,I<P/\O (wrap .i64 (k+1)) c I))
 (R (.slice (some (aS d 0)) (b.toNat) (b.toNat)) p))
theorem vc115 (pa:ByteArray) (pb pc:Sl) (pd pe pf:Int) (pg ph:Sl) (H:@W115 h R pa pb pc pd pe pf pg ph):Fn Pz 115 #[.agg ⟨(L0 pa pb pc pd pe pf pg ph)⟩] h R:=fnJ (A:=(.s .z (.s .z (.s (AI 4) (.s .z (.s (.s .z (.b (.l [(5,.one (.int .i64))] (.s .z (.s (.b (AI 6)) .z))))) .z)))))) H
def V116a (d:Int) (b:Sl) (e:Heap) (f:Int) (h:Nat) (i:Sl->Int->Heap->Nat->Prop):Prop:=
 ((0:Int)<=(0:Int)/\(0:Int)<=(d:Int)/\(d:Int)<=(b.c:Nat))/\((0:Int)<=(d:Int)/\(d:Int)<=((b.n:Nat):Int)/\((b.n:Nat):Int)<=(b.c:Nat))/\Wn e [vI f] 3 fun j=>App Pz 42 42 (.slice (some (aS e 0)) 1 1) (.slice (subA b.a (d.toNat) b.c 1) (Int.toNat (b.n:Nat)-d.toNat) (b.c-d.toNat)) j fun k l=>App Pz 42 42 (.slice (subA b.a (Int.toNat 0) b.c 1) (d.toNat-Int.toNat 0) (b.c-Int.toNat 0)) (vS k) l fun m o=>∃g,g<h/\i m (wrap .i64 (f+1)) o g
def W116 (pa:ByteArray) (pb pc:Sl) (pd pe pf:Int) (pg ph:Sl) (A:Int):Prop:=
 Wn h (L0 pa pb pc pd pe pf pg ph) 27 fun B=>QSI ⟨none,0,0⟩ 0 B fun g b c d i=>∃k,rS d (aS h 6) k/\sB (decide (c<(k.n:Int))) (∃j,rS d (aS h 6) j/\NB j.a fun C D=>Ib c j.n/\∃l,rI d ⟨C,D+c.toNat*6,none⟩ l/\sB (l != A) (∃m,m<i/\g b (wrap .i64 (c+1)) d m) (QI 0 d fun E e f F=>sB (decide (e<(b.n:Int))) (∃o p q r s t u v,aL0 f (aS h 0) o p q r s t u v/\NB b.a fun G H=>Ib e b.n/\∃w,rI f ⟨G,H+e.toNat*1,none⟩ w/\Fn Pz 159 #[.agg ⟨(L0 o p q r s t u v)⟩,vI w,vI c] f (fun I x=>∃y,iB I y/\sB y (∃z,z<F/\E (wrap .i64 (e+1)) x z) (V116a e b x c i g))) (V116a e b f c i g))) (R (vS b) d)
theorem vc116 (pa:ByteArray) (pb pc:Sl) (pd pe pf:Int) (pg ph:Sl) (p1:Int) (H:@W116 h R pa pb pc pd pe pf pg ph p1):Fn Pz 116 #[.agg ⟨(L0 pa pb pc pd pe pf pg ph)⟩,vI p1] h R:=fnJ (A:=(.s .z (.s .z (.s (.s .z (.b (.l [(5,.one (.slice)),(6,.one (.int .i64))] (.s .z (.s (.b (.s .z (.s .z (.s (.b (.l [(7,.one (.int .i64))] .z)) .z)))) .z))))) .z)))) H
def W152 (a:ByteArray):Prop:=
 sB ((ByteArray.toList a)==(ByteArray.toList ⟨#[]⟩))
 (R (.bool false) h)
 ((0<=(0:Int)/\(0:Int)<(ByteArray.size a:Nat)) /\
 Fn Pz 199 #[.int .u8 (byteAt a (Int.toNat 0):Int)] h
 (fun j c=>∃d,iB j d /\
 sB (!d)
 (R (.bool false) c)
 (sB (decide ((ByteArray.size a:Int)>16))
 (R (.bool false) c)
 (QI 0 c fun k b e l=>
 sB (decide (b<(ByteArray.size a:Int)))
 ((0<=(b:Int)/\(b:Int)<(ByteArray.size a:Nat)) /\
 Fn Pz 200 #[.int .u8 (byteAt a (b.toNat):Int)] e
 (fun m f=>∃g,iB m g /\
 sB (!g)
 (R (.bool false) f)
 (∃i,i<l/\k (wrap .i64 (b+1)) f i)))
 (R (.bool true) e)))))
theorem vc152 (p0:ByteArray) (H:@W152 h R p0):Fn Pz 152 #[.string p0] h R:=fnJ (A:=(.s .z (.s .z (.s (AI 3) .z)))) H
def W153 (d:Sl) (g:ByteArray):Prop:=
 QI 0 h fun i b c j=>
 sB (decide (b<(d.n:Int)))
 (NB d.a fun k l=>Ib b d.n /\
 ∃e,rT c ⟨k,l+b.toNat*1,none⟩ e /\
 sB ((ByteArray.toList e)==(ByteArray.toList g))
 (R (.bool true) c)
 (∃f,f<j/\i (wrap .i64 (b+1)) c f))
 (R (.bool false) c)
theorem vc153 (p0:Sl) (p1:ByteArray) (H:@W153 h R p0 p1):Fn Pz 153 #[vS p0,.string p1] h R:=fnJ (A:=(.s .z (.s (AI 5) .z))) H
def W154 :Prop:=
 Wn h [.string ⟨#[97,103,97,105,110]⟩,.string ⟨#[97,110,100]⟩,.string ⟨#[97,115]⟩,.string ⟨#[97,116]⟩,.string ⟨#[99,97,108,108]⟩,.string ⟨#[99,104,111,105,99,101]⟩,.string ⟨#[101,108,115,101]⟩,.string ⟨#[102,114,111,109]⟩,.string ⟨#[105,102]⟩,.string ⟨#[105,110,116]⟩,.string ⟨#[108,101,110]⟩,.string ⟨#[108,111,111,112]⟩,.string ⟨#[109,101,115,115,97,103,101]⟩,.string ⟨#[111,102]⟩,.string ⟨#[111,102,102,101,114]⟩,.string ⟨#[111,110]⟩,.string ⟨#[111,114]⟩,.string ⟨#[112,97,114]⟩,.string ⟨#[112,108,97,121,115]⟩,.string ⟨#[112,114,111,116,111,99,111,108]⟩,.string ⟨#[115,101,114,118,105,99,101]⟩,.string ⟨#[116,101,120,116]⟩,.string ⟨#[116,105,109,101,115]⟩,.string ⟨#[116,111]⟩,.string ⟨#[118,97,114]⟩,.string ⟨#[119,104,101,114,101]⟩,.string ⟨#[119,104,105,108,101]⟩,.string ⟨#[119,105,116,104,105,110]⟩] 9 fun a=>
 R (.slice (some (aS h 0)) 28 28) a
theorem vc154  (H:@W154 h R ):Fn Pz 154 #[] h R:=fnJ (A:=.z) H
def W155 (c:Sl):Prop:=
 QII 0 0 h fun i e b d j=>
 sB (decide (b<(c.n:Int)))
 (NB c.a fun k l=>Ib b c.n /\
 ∃f,rS d ⟨k,l+b.toNat*5+1,none⟩ f /\
 ∃g,g<j/\i (wrap .i64 (e+(f.n:Int))) (wrap .i64 (b+1)) d g)
 (R (vI e) d)
theorem vc155 (p0:Sl) (H:@W155 h R p0):Fn Pz 155 #[vS p0] h R:=fnJ (A:=(.s .z (.s .z (.s (.s .z (.b (.l [(3,.one (.int .i64)),(4,.one (.int .i64))] .z))) .z)))) H
def V156a (a h:Heap) (f g:Int) (R:Value->Heap->Prop):Prop:=
 ∃b,rI a (aS h 1) b/\sB (decide (b>=f)) (∃c,rI a (aS h 2) c/\sB (decide (c<=g)) (∃d,rI a (aS h 1) d/\∃e,rI a (aS h 2) e/\R (.bool (decide (d<=e))) a) (R (.bool false) a)) (R (.bool false) a)
def W156 (pa pb pc:Int):Prop:=
 Wn h (L2 pa pb pc) 182 fun b=>∃c:Int->Int->Heap->Prop,(∃f,rI b (aS h 0) f/\sB (f==2) (c 0 40 b) (c (-1000) 1000 b))/\∀(_:Env) (d e:Int) (a:Heap),c d e a->(∃g,rI a (aS h 0) g/\sB (g==1) (V156a a h d e R) (∃i,rI a (aS h 0) i/\sB (i==2) (V156a a h d e R) (R (.bool false) a)))
theorem vc156 (pa pb pc:Int) (H:@W156 h R pa pb pc):Fn Pz 156 #[.agg ⟨(L2 pa pb pc)⟩] h R:=fnJ (A:=(.s .z (.s .z (.j [(3,.one (.int .i64)),(4,.one (.int .i64))] .z .z)))) H
def V157a (b a:Int) (c:ByteArray) (g:Heap) (R:Value->Heap->Prop) (h:Nat) (i:Int->Int->Heap->Nat->Prop):Prop:=
 ((0:Int)<=(b:Int)/\(b:Int)<=(a:Int)/\(a:Int)<=(ByteArray.size c:Nat))/\Fn Pz 201 #[.string (ByteArray.extract c (b.toNat) (a.toNat))] g (fun j d=>∃e,iB j e/\sB (!e) (R (.bool false) d) (∃f,f<h/\i (wrap .i64 (a+1)) (wrap .i64 (a+1)) d f))
def W157 (b:ByteArray):Prop:=
 QII 0 0 h fun d e a c f=>sB (decide (a<=(ByteArray.size b:Int))) (sB (a==(ByteArray.size b:Int)) (V157a e a b c R f d) ((0<=(a:Int)/\(a:Int)<(ByteArray.size b:Nat))/\sB ((byteAt b (a.toNat):Int)==46) (V157a e a b c R f d) (∃g,g<f/\d e (wrap .i64 (a+1)) c g))) (R (.bool (decide ((ByteArray.size b:Int)<=50))) c)
theorem vc157 (p0:ByteArray) (H:@W157 h R p0):Fn Pz 157 #[.string p0] h R:=fnJ (A:=(.s .z (.s .z (.s (.s .z (.b (.l [(3,.one (.int .i64)),(4,.one (.int .i64))] .z))) .z)))) H
def W158 (i pa pb:Sl):Prop:=
 Wn h [vS pa,vS pb] 134 fun I=>
 Fn Pz 155 #[vS i] I
 (fun J K=>∃j,iI J j /\
 QI 0 K fun L f c M=>
 ∃o,rS c (aS h 0) o /\
 sB (decide (f<(o.n:Int)))
 (∃k,rS c (aS h 0) k /\
 NB k.a fun N O=>Ib f k.n /\
 ∃p q r,aL2 c ⟨N,O+f.toNat*3,none⟩ p q r /\
 Wn c [vI 0,vI 0,vI 0] 187 fun P=>
 Wp P (aS c 0) 3 (L2 p q r) fun b=>
 ∃s,rI b (aS c 0) s /\
 sB (decide (s<(-1)))
 (R (.bool false) b)
 (∃t,rI b (aS c 0) t /\
 sB (decide (t>=j))
 (R (.bool false) b)
 (∃u,rI b (aS c 1) u /\
 sB (decide (u<(-1)))
 (R (.bool false) b)
 (∃v,rI b (aS c 1) v /\
 sB (decide (v>=j))
 (R (.bool false) b)
 (∃w,rI b (aS c 2) w /\
 sB (decide (w<(-20000)))
 (R (.bool false) b)
 (∃x,rI b (aS c 2) x /\
 sB (decide (x>20000))
 (R (.bool false) b)
 (∃y,y<M/\L (wrap .i64 (f+1)) b y)))))))
 (QI 0 c fun Q e d S=>
 ∃z,rS d (aS h 1) z /\
 sB (decide (e<(z.n:Int)))
 (∃l,rS d (aS h 1) l /\
 NB l.a fun T U=>Ib e l.n /\
 Ib 0 2 /\
 ∃A,rI d ⟨T,U+e.toNat*2+Int.toNat 0*1,none⟩ A /\
 Fn Pz 202 #[vS i,vI A] d
 (fun V g=>∃B,iB V B /\
 sB (!B)
 (R (.bool false) g)
 (∃m,rS g (aS h 1) m /\
 NB m.a fun W X=>Ib e m.n /\
 Ib 1 2 /\
 ∃C,rI g ⟨W,X+e.toNat*2+Int.toNat 1*1,none⟩ C /\
 Fn Pz 202 #[vS i,vI C] g
 (fun Y D=>∃E,iB Y E /\
 sB (!E)
 (R (.bool false) D)
 (∃F,F<S/\Q (wrap .i64 (e+1)) D F)))))
 (∃G,rS d (aS h 0) G /\
 sB (decide ((G.n:Int)<=20))
 (∃H,rS d (aS h 1) H /\
 R (.bool (decide ((H.n:Int)<=20))) d)
 (R (.bool false) d))))
theorem vc158 (p0 pa pb:Sl) (H:@W158 h R p0 pa pb):Fn Pz 158 #[vS p0,.agg ⟨[vS pa,vS pb]⟩] h R:=fnJ (A:=(.s .z (.s .z (.s (AI 6) (.s (AI 8) .z))))) H
def V159a (d b:Heap) (p q r:Int) (s t:Nat) (e:Int) (h c:Heap) (u v w:Int) (R:Value->Heap->Prop) (x:Int):Prop:=
 Wp d (aS b 0) 3 (L2 p q r) fun f=>Sm [⟨s,t+e.toNat*6+1,none⟩,(aS h 6)] d f/\Wp f (aS c 0) 3 (L2 u v w) fun a=>∃g,rI a (aS b 1) g/\∃i,rI a (aS c 1) i/\sB (g != i) (∃j,rI a (aS b 1) j/\∃k,rI a (aS c 1) k/\R (.bool (decide (j<k))) a) (∃l,rI a (aS b 2) l/\∃m,rI a (aS c 2) m/\sB (l != m) (∃n,rI a (aS b 2) n/\∃o,rI a (aS c 2) o/\R (.bool (decide (n<o))) a) (R (.bool (decide (x<e))) a))
def W159 (pa:ByteArray) (pb pc:Sl) (pd pe pf:Int) (pg ph:Sl) (c d:Int):Prop:=
 Wn h (L0 pa pb pc pd pe pf pg ph) 27 fun b=>∃l,rS b (aS h 6) l/\NB l.a fun g i=>Ib c l.n/\∃m o p,aL2 b ⟨g,i+c.toNat*6+1,none⟩ m o p/\∃q,rS b (aS h 6) q/\NB q.a fun e f=>Ib d q.n/\∃r s t,aL2 b ⟨e,f+d.toNat*6+1,none⟩ r s t/\(Wn b [vI 0,vI 0,vI 0] 53 fun j=>Sm [⟨e,f+d.toNat*6+1,none⟩,(aS h 6),⟨g,i+c.toNat*6+1,none⟩,(aS h 6)] b j/\Wn j [vI 0,vI 0,vI 0] 53 fun u=>Sm [⟨e,f+d.toNat*6+1,none⟩,(aS h 6),⟨g,i+c.toNat*6+1,none⟩,(aS h 6)] j u/\V159a u b m o p e f d h j r s t R c)/\Wn b [vI 0,vI 0,vI 0] 53 fun k=>Sm [⟨e,f+d.toNat*6+1,none⟩,(aS h 6),⟨g,i+c.toNat*6+1,none⟩,(aS h 6)] b k/\Wn k [vI 0,vI 0,vI 0] 53 fun v=>Sm [⟨e,f+d.toNat*6+1,none⟩,(aS h 6),⟨g,i+c.toNat*6+1,none⟩,(aS h 6)] k v/\V159a v k m o p e f d h b r s t R c
theorem vc159 (pa:ByteArray) (pb pc:Sl) (pd pe pf:Int) (pg ph:Sl) (p1 p2:Int) (H:@W159 h R pa pb pc pd pe pf pg ph p1 p2):Fn Pz 159 #[.agg ⟨(L0 pa pb pc pd pe pf pg ph)⟩,vI p1,vI p2] h R:=fnJ (A:=.z) H
def W199 (a:Int):Prop:=
 sB (decide (a>=97))
 (sB (decide (a<=122))
 (R (.bool true) h)
 (sB (decide (a>=65))
 (R (.bool (decide (a<=90))) h)
 (R (.bool false) h)))
 (sB (decide (a>=65))
 (R (.bool (decide (a<=90))) h)
 (R (.bool false) h))
theorem vc199 (p0:Int) (H:@W199 h R p0):Fn Pz 199 #[.int .u8 p0] h R:=fnJ (A:=.z) H
def W200 (a:Int):Prop:=
 Fn Pz 199 #[.int .u8 a] h
 (fun f b=>∃c,iB f c /\
 sB c
 (R (.bool true) b)
 (Fn Pz 240 #[.int .u8 a] b
 (fun g d=>∃e,iB g e /\
 sB e
 (R (.bool true) d)
 (R (.bool (a==95)) d))))
theorem vc200 (p0:Int) (H:@W200 h R p0):Fn Pz 200 #[.int .u8 p0] h R:=fnJ (A:=.z) H
def W201 (b:ByteArray):Prop:=
 Fn Pz 111 #[.string b] h
 (fun c d=>∃a,iB c a /\
 R (.bool a) d)
theorem vc201 (p0:ByteArray) (H:@W201 h R p0):Fn Pz 201 #[.string p0] h R:=fnJ (A:=.z) H
def W202 (b:Sl) (a:Int):Prop:=
 sB (decide (a>=0))
 (Fn Pz 155 #[vS b] h
 (fun f c=>∃d,iI f d /\
 sB (decide (a<d))
 (Fn Pz 241 #[vS b,vI a] c
 (fun g i=>∃(j:ByteArray) (e k l:Int),g=.agg ⟨(L10 j e k l)⟩ /\
 R (.bool (e==2)) i))
 (R (.bool false) c)))
 (R (.bool false) h)
theorem vc202 (p0:Sl) (p1:Int) (H:@W202 h R p0 p1):Fn Pz 202 #[vS p0,vI p1] h R:=fnJ (A:=.z) H
def W240 (a:Int):Prop:=
 sB (decide (a>=48))
 (R (.bool (decide (a<=57))) h)
 (R (.bool false) h)
theorem vc240 (p0:Int) (H:@W240 h R p0):Fn Pz 240 #[.int .u8 p0] h R:=fnJ (A:=.z) H
def V241a (a h:Heap) (R:Value->Heap->Prop):Prop:=
 ∃b c d e,aL10 a (aS h 0) b c d e/\R (.agg ⟨(L10 b c d e)⟩) a
def W241 (c:Sl) (p:Int):Prop:=
 Wn h [.string ⟨#[]⟩,vI 0,vI 0,vI 0] 184 fun q=>QII p 0 q fun r e b d s=>sB (decide (b<(c.n:Int))) (NB c.a fun t u=>Ib b c.n/\∃g,rS d ⟨t,u+b.toNat*5+1,none⟩ g/\sB (decide (e<(g.n:Int))) (NB c.a fun v w=>Ib b c.n/\∃f,rS d ⟨v,w+b.toNat*5+1,none⟩ f/\NB f.a fun x y=>Ib e f.n/\∃i j k l,aL10 d ⟨x,y+e.toNat*4,none⟩ i j k l/\Wp d (aS h 0) 4 (L10 i j k l) fun z=>V241a z h R) (NB c.a fun A B=>Ib b c.n/\∃m,rS d ⟨A,B+b.toNat*5+1,none⟩ m/\∃o,o<s/\r (wrap .i64 (e-(m.n:Int))) (wrap .i64 (b+1)) d o)) (Wp d (aS h 0) 4 [.string ⟨#[]⟩,vI 0,vI 0,vI 0] fun C=>V241a C h R)
theorem vc241 (p0:Sl) (p1:Int) (H:@W241 h R p0 p1):Fn Pz 241 #[vS p0,vI p1] h R:=fnJ (A:=(.s .z (.s (.s .z (.b (.l [(1,.one (.int .i64)),(5,.one (.int .i64))] .z))) .z))) H
end Go.VC
end

section
namespace Go.VC
open Go.Proofs IntKind




end Go.VC
end

section
namespace Go.VC
open Go.Proofs IntKind
variable {h:Heap} {R:Value->Heap->Prop}
def W16 (pa pb pc:Int) (pd pe pf:Sl) (pg ph pi:Int) (pj pk pl:Sl):Prop:=
 Wn h (L4 pa pb pc pd pe pf) 33 fun c=>
 Wn c (L4 pg ph pi pj pk pl) 33 fun b=>
 ∃r,rI b (aS h 0) r /\
 ∃s,rI b (aS c 0) s /\
 sB (r != s)
 (R (.bool false) b)
 (∃t,rI b (aS h 1) t /\
 ∃u,rI b (aS c 1) u /\
 sB (t != u)
 (R (.bool false) b)
 (∃v,rI b (aS h 2) v /\
 ∃w,rI b (aS c 2) w /\
 sB (v != w)
 (R (.bool false) b)
 (∃x,rS b (aS h 3) x /\
 ∃y,rS b (aS c 3) y /\
 sB ((x.n:Int) != (y.n:Int))
 (R (.bool false) b)
 (∃z,rS b (aS h 4) z /\
 ∃A,rS b (aS c 4) A /\
 sB ((z.n:Int) != (A.n:Int))
 (R (.bool false) b)
 (∃B,rS b (aS h 5) B /\
 ∃C,rS b (aS c 5) C /\
 sB ((B.n:Int) != (C.n:Int))
 (R (.bool false) b)
 (QI 0 b fun e0 g d f0=>
 ∃D,rS d (aS h 3) D /\
 sB (decide (g<(D.n:Int)))
 (∃k,rS d (aS h 3) k /\
 NB k.a fun g0 h0=>Ib g k.n /\
 ∃E,rB d ⟨g0,h0+g.toNat*1,none⟩ E /\
 ∃l,rS d (aS c 3) l /\
 NB l.a fun i0 j0=>Ib g l.n /\
 ∃F,rB d ⟨i0,j0+g.toNat*1,none⟩ F /\
 sB (!(E==F))
 (R (.bool false) d)
 (∃G,G<f0/\e0 (wrap .i64 (g+1)) d G))
 (QI 0 d fun k0 i e l0=>
 ∃H,rS e (aS h 4) H /\
 sB (decide (i<(H.n:Int)))
 (∃m,rS e (aS h 4) m /\
 NB m.a fun m0 n0=>Ib i m.n /\
 ∃I J K L M N,aL6 e ⟨m0,n0+i.toNat*6,none⟩ I J K L M N /\
 ∃o,rS e (aS c 4) o /\
 NB o.a fun o0 p0=>Ib i o.n /\
 ∃O P Q S T U,aL6 e ⟨o0,p0+i.toNat*6,none⟩ O P Q S T U /\
 sB (!((I==O)&&((J==P)&&((K==Q)&&((L==S)&&((M==T)&&((N==U)&&true)))))))
 (R (.bool false) e)
 (∃V,V<l0/\k0 (wrap .i64 (i+1)) e V))
 (QI 0 e fun q0 j f r0=>
 ∃W,rS f (aS h 5) W /\
 sB (decide (j<(W.n:Int)))
 (∃p,rS f (aS h 5) p /\
 NB p.a fun s0 t0=>Ib j p.n /\
 ∃X Y Z,aL2 f ⟨s0,t0+j.toNat*3,none⟩ X Y Z /\
 ∃q,rS f (aS c 5) q /\
 NB q.a fun u0 v0=>Ib j q.n /\
 ∃a0 b0 c0,aL2 f ⟨u0,v0+j.toNat*3,none⟩ a0 b0 c0 /\
 sB (!((X==a0)&&((Y==b0)&&((Z==c0)&&true))))
 (R (.bool false) f)
 (∃d0,d0<r0/\q0 (wrap .i64 (j+1)) f d0))
 (R (.bool true) f)))))))))
theorem vc16 (pa pb pc:Int) (pd pe pf:Sl) (pg ph pi:Int) (pj pk pl:Sl) (H:@W16 h R pa pb pc pd pe pf pg ph pi pj pk pl):Fn Pz 16 #[.agg ⟨(L4 pa pb pc pd pe pf)⟩,.agg ⟨(L4 pg ph pi pj pk pl)⟩] h R:=fnJ (A:=(.s .z (.s .z (.s (AI 5) (.s (AI 6) (.s (AI 7) .z)))))) H
def W3 (pa:ByteArray) (pb pc:Sl) (pd pe pf:Int) (pg ph:Sl) (b:Int):Prop:=
 Wn h (L0 pa pb pc pd pe pf pg ph) 27 fun h9=>
 Fn Pz 10 #[] h9
 (fun i1 d=>∃k,iB i1 k /\
 sB (!k)
 (R (.bool false) d)
 (∃l m n o p q r s,aL0 d (aS h 0) l m n o p q r s /\
 Fn Pz 11 #[.agg ⟨(L0 l m n o p q r s)⟩] d
 (fun j1 e=>∃t,iB j1 t /\
 sB (!t)
 (R (.bool true) e)
 (∃u v w x y z A B,aL0 e (aS h 0) u v w x y z A B /\
 Fn Pz 12 #[.agg ⟨(L0 u v w x y z A B)⟩,vI b] e
 (fun k1 f=>∃(C D E:Int) (F G H:Sl) (I:Int),k1=.tuple ⟨[.agg ⟨(L4 C D E F G H)⟩,vI I]⟩ /\
 Wn f [vI 0,vI 0,vI 0,vN,vN,vN] 33 fun l1=>
 Wp l1 (aS f 0) 6 (L4 C D E F G H) fun J=>
 ∃K L M N O P Q S,aL0 J (aS h 0) K L M N O P Q S /\
 Fn Pz 13 #[.agg ⟨(L0 K L M N O P Q S)⟩,vI b] J
 (fun m1 g=>∃(T U V:Int) (W X Y:Sl) (Z:Int),m1=.tuple ⟨[.agg ⟨(L4 T U V W X Y)⟩,vI Z]⟩ /\
 Wn g [vI 0,vI 0,vI 0,vN,vN,vN] 33 fun n1=>
 Wp n1 (aS g 0) 6 (L4 T U V W X Y) fun a0=>
 ∃b0 c0 d0 e0 f0 g0 h0 i0,aL0 a0 (aS h 0) b0 c0 d0 e0 f0 g0 h0 i0 /\
 Fn Pz 14 #[.agg ⟨(L0 b0 c0 d0 e0 f0 g0 h0 i0)⟩,vI b] a0
 (fun o1 i=>∃(j0 k0 l0:Int) (m0 n0 o0:Sl) (p0:Int),o1=.tuple ⟨[.agg ⟨(L4 j0 k0 l0 m0 n0 o0)⟩,vI p0]⟩ /\
 Wn i [vI 0,vI 0,vI 0,vN,vN,vN] 33 fun p1=>
 Wp p1 (aS i 0) 6 (L4 j0 k0 l0 m0 n0 o0) fun q0=>
 ∃r0 s0 t0 u0 v0 w0 x0 y0,aL0 q0 (aS h 0) r0 s0 t0 u0 v0 w0 x0 y0 /\
 Fn Pz 15 #[.agg ⟨(L0 r0 s0 t0 u0 v0 w0 x0 y0)⟩,vI b] q0
 (fun q1 j=>∃(z0 A0 B0:Int) (C0 D0 E0:Sl) (F0:Int),q1=.tuple ⟨[.agg ⟨(L4 z0 A0 B0 C0 D0 E0)⟩,vI F0]⟩ /\
 Wn j [vI 0,vI 0,vI 0,vN,vN,vN] 33 fun r1=>
 Wp r1 (aS j 0) 6 (L4 z0 A0 B0 C0 D0 E0) fun a=>
 sB (I==Z)
 (sB (p0==F0)
 (∃G0 H0 I0 J0 K0 M0,aL4 a (aS f 0) G0 H0 I0 J0 K0 M0 /\
 ∃N0 O0 P0 Q0 R0 S0,aL4 a (aS g 0) N0 O0 P0 Q0 R0 S0 /\
 Fn Pz 16 #[.agg ⟨(L4 G0 H0 I0 J0 K0 M0)⟩,.agg ⟨(L4 N0 O0 P0 Q0 R0 S0)⟩] a
 (fun s1 c=>∃T0,iB s1 T0 /\
 sB T0
 (∃U0 V0 W0 X0 Y0 Z0,aL4 c (aS i 0) U0 V0 W0 X0 Y0 Z0 /\
 ∃a1 b1 c1 d1 e1 f1,aL4 c (aS j 0) a1 b1 c1 d1 e1 f1 /\
 Fn Pz 16 #[.agg ⟨(L4 U0 V0 W0 X0 Y0 Z0)⟩,.agg ⟨(L4 a1 b1 c1 d1 e1 f1)⟩] c
 (fun t1 u1=>∃g1,iB t1 g1 /\
 R (.bool g1) u1))
 (R (.bool false) c)))
 (R (.bool false) a))
 (R (.bool false) a)))))))))
def W32 (pa:ByteArray) (pb pc:Sl) (pd pe pf:Int) (pg ph:Sl):Prop:=
 Wn h (L0 pa pb pc pd pe pf pg ph) 27 fun g=>
 ∃i j k l m o p q,aL0 g (aS h 0) i j k l m o p q /\
 Fn Pz 38 #[.agg ⟨(L0 i j k l m o p q)⟩] g
 (fun P b=>∃r,iB P r /\
 sB (!r)
 (R (.tuple ⟨[vN,vI 1]⟩) b)
 (∃s,rS b (aS h 1) s /\
 QSI ⟨none,0,0⟩ 0 b fun Q t c d S=>
 sB (decide (c<(s.n:Int)))
 (∃u v w x y z A B,aL0 d (aS h 0) u v w x y z A B /\
 Fn Pz 12 #[.agg ⟨(L0 u v w x y z A B)⟩,vI c] d
 (fun T e=>∃(C D E:Int) (F G H:Sl) (f:Int),T=.tuple ⟨[.agg ⟨(L4 C D E F G H)⟩,vI f]⟩ /\
 Wn e [vI 0,vI 0,vI 0,vN,vN,vN] 33 fun U=>
 Wp U (aS e 0) 6 (L4 C D E F G H) fun a=>
 sB (f != 0)
 (R (.tuple ⟨[vN,vI f]⟩) a)
 (∃I J K L M N,aL4 a (aS e 0) I J K L M N /\
 Wn a (L4 I J K L M N) 33 fun V=>
 App Pz 74 74 (vS t) (.slice (some (aS a 0)) 1 1) V fun W X=>
 ∃O,O<S/\Q W (wrap .i64 (c+1)) X O)))
 (R (.tuple ⟨[vS t,vI 0]⟩) d)))
theorem vc32 (pa:ByteArray) (pb pc:Sl) (pd pe pf:Int) (pg ph:Sl) (H:@W32 h R pa pb pc pd pe pf pg ph):Fn Pz 32 #[.agg ⟨(L0 pa pb pc pd pe pf pg ph)⟩] h R:=fnJ (A:=(.s .z (.s .z (.s .z (.s (AJ 4 14) .z))))) H
def W160 (d:Addr) (pa pb pc pd pe:Int) (pf:Bool):Prop:=
 Wn h (L3 pa pb pc pd pe pf) 55 fun b=>
 Wn b [.bool false,vI 0,vI 0] 252 fun a=>
 ∃c,rI a ⟨d.block,d.off+8,none⟩ c /\
 ∃e,rI a (aS h 1) e /\
 sB (c==e)
 (∃f,rI a (aS h (1+1)) f /\
 ∃g,rI a (aS h (1+2)) g /\
 Wp a (aS b 0) 3 [.bool true,vI f,vI g] fun i=>
 ∃j k l,aL1 i (aS b 0) j k l /\
 R (.tuple ⟨[.agg ⟨(L1 j k l)⟩,.bool true]⟩) i)
 (∃m,rI a (aS h (1+1)) m /\
 sB (c==m)
 (∃n,rI a (aS h 1) n /\
 ∃o,rI a (aS h (1+2)) o /\
 Wp a (aS b 0) 3 [.bool false,vI n,vI o] fun p=>
 ∃q r s,aL1 p (aS b 0) q r s /\
 R (.tuple ⟨[.agg ⟨(L1 q r s)⟩,.bool true]⟩) p)
 (Wp a (aS b 0) 3 [.bool false,vI 0,vI 0] fun t=>
 ∃u v w,aL1 t (aS b 0) u v w /\
 R (.tuple ⟨[.agg ⟨(L1 u v w)⟩,.bool false]⟩) t))
theorem vc160 (p0:Addr) (pa pb pc pd pe:Int) (pf:Bool) (H:@W160 h R p0 pa pb pc pd pe pf):Fn Pz 160 #[.pointer (some p0),.agg ⟨(L3 pa pb pc pd pe pf)⟩] h R:=fnJ (A:=.z) H
def W170 (pa pb pc pd:Int):Prop:=
 Wn h (L7 pa pb pc pd) 276 fun a=>
 ∃b,rI a (aS h 0) b /\
 sB (decide (b>=0))
 (∃c,rI a (aS h 1) c /\
 sB (decide (c>=0))
 (R (vI 2) a)
 (R (vI 1) a))
 (R (vI 1) a)
theorem vc170 (pa pb pc pd:Int) (H:@W170 h R pa pb pc pd):Fn Pz 170 #[.agg ⟨(L7 pa pb pc pd)⟩] h R:=fnJ (A:=.z) H
def W174 (pa:Sl) (pb:Bool):Prop:=
 Wn h [vS pa,.bool pb] 259 fun e=>
 ∃(f:Sl) (g:Bool),atC e (aS h 0) [vS f,.bool g] /\
 Fn Pz 215 #[.agg ⟨[vS f,.bool g]⟩] e
 (fun l b=>∃i,iB l i /\
 sB i
 (∃j,rB b (aS h 1) j /\
 sB j
 (R (.bool true) b)
 (∃d,rS b (aS h 0) d /\
 ∃c,rS b (aS h 0) c /\
 NB d.a fun m o=>(0<=((wrap .i64 ((c.n:Int)-1)):Int)/\((wrap .i64 ((c.n:Int)-1)):Int)<(d.n:Nat)) /\
 ∃k,rB b ⟨m,o+Int.toNat (wrap .i64 ((c.n:Int)-1))*3,none⟩ k /\
 R (.bool (!k)) b))
 (R (.bool false) b))
theorem vc174 (pa:Sl) (pb:Bool) (H:@W174 h R pa pb):Fn Pz 174 #[.agg ⟨[vS pa,.bool pb]⟩] h R:=fnJ (A:=.z) H
def W204 (pa:Bool) (pb pc:Int) (pd:Bool) (pe pf:Int):Prop:=
 Wn h (L1 pa pb pc) 252 fun b=>
 Wn b (L1 pd pe pf) 252 fun a=>
 ∃e,rB a (aS h 0) e /\
 ∃f,rB a (aS b 0) f /\
 sB (!(e==f))
 (∃g,rB a (aS h 0) g /\
 sB g
 (R (vI (-1)) a)
 (R (vI 1) a))
 (∃i,rI a (aS h 1) i /\
 ∃j,rI a (aS b 1) j /\
 ∃k,rI a (aS h 2) k /\
 ∃l,rI a (aS b 2) l /\
 Fn Pz 110 #[vI i,vI j] a
 (fun p c=>∃m,iI p m /\
 Sm [(aS b 2),(aS h 2)] a c /\
 Fn Pz 110 #[vI k,vI l] c
 (fun q d=>∃n,iI q n /\
 Sm [(aS b 1),(aS h 1)] c d /\
 Wn d [vI m,vI n] 3 fun r=>
 Fn Pz 109 #[.slice (some (aS d 0)) 2 2] r
 (fun s t=>∃o,iI s o /\
 R (vI o) t))))
theorem vc204 (pa:Bool) (pb pc:Int) (pd:Bool) (pe pf:Int) (H:@W204 h R pa pb pc pd pe pf):Fn Pz 204 #[.agg ⟨(L1 pa pb pc)⟩,.agg ⟨(L1 pd pe pf)⟩] h R:=fnJ (A:=.z) H
def W214 (pa:Sl) (pb pc:Bool) (pd pe:Int):Prop:=
 Wn h [vS pa,.bool pb] 259 fun b=>
 Wn b (L1 pc pd pe) 252 fun a=>
 ∃c,rS a (aS h 0) c /\
 ∃d e f,aL1 a (aS b 0) d e f /\
 Fn Pz 251 #[vS c,.agg ⟨(L1 d e f)⟩] a
 (fun i j=>∃g,iB i g /\
 R (.bool g) j)
theorem vc214 (pa:Sl) (pb pc:Bool) (pd pe:Int) (H:@W214 h R pa pb pc pd pe):Fn Pz 214 #[.agg ⟨[vS pa,.bool pb]⟩,.agg ⟨(L1 pc pd pe)⟩] h R:=fnJ (A:=.z) H
def W215 (pa:Sl) (pb:Bool):Prop:=
 Wn h [vS pa,.bool pb] 259 fun b=>
 ∃d,rS b (aS h 0) d /\
 sB (decide ((d.n:Int)>0))
 (∃c,rS b (aS h 0) c /\
 NB c.a fun f g=>Ib 0 c.n /\
 ∃e,rB b ⟨f,g+Int.toNat 0*3,none⟩ e /\
 R (.bool e) b)
 (R (.bool false) b)
theorem vc215 (pa:Sl) (pb:Bool) (H:@W215 h R pa pb):Fn Pz 215 #[.agg ⟨[vS pa,.bool pb]⟩] h R:=fnJ (A:=.z) H
def W251 (f:Sl) (pa:Bool) (pb pc:Int):Prop:=
 Wn h (L1 pa pb pc) 252 fun a=>
 ∃b c d,aL1 a (aS h 0) b c d /\
 Fn Pz 280 #[vS f,.agg ⟨(L1 b c d)⟩] a
 (fun g i=>∃e,iI g e /\
 R (.bool (decide (e>=0))) i)
theorem vc251 (p0:Sl) (pa:Bool) (pb pc:Int) (H:@W251 h R p0 pa pb pc):Fn Pz 251 #[vS p0,.agg ⟨(L1 pa pb pc)⟩] h R:=fnJ (A:=.z) H
def W280 (d:Sl) (pa:Bool) (pb pc:Int):Prop:=
 Wn h (L1 pa pb pc) 252 fun m=>
 QI 0 m fun o b c p=>
 sB (decide (b<(d.n:Int)))
 (∃e f g,aL1 c (aS h 0) e f g /\
 NB d.a fun q r=>Ib b d.n /\
 ∃i j k,aL1 c ⟨q,r+b.toNat*3,none⟩ i j k /\
 sB ((e==i)&&((f==j)&&((g==k)&&true)))
 (R (vI b) c)
 (∃l,l<p/\o (wrap .i64 (b+1)) c l))
 (R (vI (-1)) c)
theorem vc280 (p0:Sl) (pa:Bool) (pb pc:Int) (H:@W280 h R p0 pa pb pc):Fn Pz 280 #[vS p0,.agg ⟨(L1 pa pb pc)⟩] h R:=fnJ (A:=(.s .z (.s (AI 8) .z))) H
def W171 (f:Addr) (pa pb:Int):Prop:=
 Wn h [vI pa,vI pb] 272 fun d=>
 Wn d [.bool false,vI 0,vI 0] 252 fun g=>
 ∃k,rS g ⟨f.block,f.off+10,none⟩ k /\
 ∃l,rI g (aS h 0) l /\
 NB k.a fun O P=>Ib l k.n /\
 ∃i,rS g ⟨O,P+l.toNat*2,none⟩ i /\
 QI 0 g fun p e b q=>
 sB (decide (e<(i.n:Int)))
 (NB i.a fun Q S=>Ib e i.n /\
 ∃r s t,aL1 b ⟨Q,S+e.toNat*3,none⟩ r s t /\
 Wn b [.bool false,vI 0,vI 0] 252 fun T=>
 Wp T (aS b 0) 3 (L1 r s t) fun c=>
 ∃u,rB c (aS b 0) u /\
 sB u
 (∃m,rS c ⟨f.block,f.off+10,none⟩ m /\
 ∃o,rI c (aS h 1) o /\
 NB m.a fun U V=>Ib o m.n /\
 ∃(v:Sl) (w:Bool),atC c ⟨U,V+o.toNat*2,none⟩ [vS v,.bool w] /\
 ∃x y z,aL1 c (aS b 0) x y z /\
 Fn Pz 214 #[.agg ⟨[vS v,.bool w]⟩,.agg ⟨(L1 x y z)⟩] c
 (fun W j=>∃A,iB W A /\
 Sm [(aS b 0)] c j /\
 sB (!A)
 (∃B C D,aL1 j (aS b 0) B C D /\
 Wp j (aS d 0) 3 (L1 B C D) fun E=>
 ∃F G H,aL1 E (aS d 0) F G H /\
 R (.tuple ⟨[.agg ⟨(L1 F G H)⟩,.bool true]⟩) E)
 (∃I,I<q/\p (wrap .i64 (e+1)) j I)))
 (∃J,J<q/\p (wrap .i64 (e+1)) c J))
 (Wp b (aS d 0) 3 [.bool false,vI 0,vI 0] fun K=>
 ∃L M N,aL1 K (aS d 0) L M N /\
 R (.tuple ⟨[.agg ⟨(L1 L M N)⟩,.bool false]⟩) K)
theorem vc171 (p0:Addr) (pa pb:Int) (H:@W171 h R p0 pa pb):Fn Pz 171 #[.pointer (some p0),.agg ⟨[vI pa,vI pb]⟩] h R:=fnJ (A:=(.s .z (.s (AI 18) .z))) H
def W213 (c:Addr) (pa pb:Int):Prop:=
 Wn h [vI pa,vI pb] 272 fun b=>
 ∃d,rS b ⟨c.block,c.off+13,none⟩ d /\
 ∃e,rI b (aS h 0) e /\
 NB d.a fun D E=>Ib e d.n /\
 ∃r,rB b ⟨D,E+e.toNat*1,none⟩ r /\
 sB r
 (∃f,rS b ⟨c.block,c.off+13,none⟩ f /\
 ∃g,rI b (aS h 1) g /\
 NB f.a fun F G=>Ib g f.n /\
 ∃s,rB b ⟨F,G+g.toNat*1,none⟩ s /\
 sB s
 (∃i,rS b ⟨c.block,c.off+11,none⟩ i /\
 ∃j,rI b (aS h 0) j /\
 NB i.a fun H I=>Ib j i.n /\
 ∃(t:Int) (u:Bool) (v w:Int),atC b ⟨H,I+j.toNat*4,none⟩ [vI t,.bool u,vI v,vI w] /\
 ∃k,rS b ⟨c.block,c.off+11,none⟩ k /\
 ∃l,rI b (aS h 1) l /\
 NB k.a fun J K=>Ib l k.n /\
 ∃(x:Int) (y:Bool) (z A:Int),atC b ⟨J,K+l.toNat*4,none⟩ [vI x,.bool y,vI z,vI A] /\
 sB (!((t==x)&&(((u==y)&&((v==z)&&((w==A)&&true)))&&true)))
 (R (.bool true) b)
 (∃m,rS b ⟨c.block,c.off+12,none⟩ m /\
 ∃o,rI b (aS h 0) o /\
 NB m.a fun L M=>Ib o m.n /\
 ∃B,rB b ⟨L,M+o.toNat*1,none⟩ B /\
 ∃p,rS b ⟨c.block,c.off+12,none⟩ p /\
 ∃q,rI b (aS h 1) q /\
 NB p.a fun N O=>Ib q p.n /\
 ∃C,rB b ⟨N,O+q.toNat*1,none⟩ C /\
 R (.bool (!(B==C))) b))
 (R (.bool false) b))
 (R (.bool false) b)
theorem vc213 (p0:Addr) (pa pb:Int) (H:@W213 h R p0 pa pb):Fn Pz 213 #[.pointer (some p0),.agg ⟨[vI pa,vI pb]⟩] h R:=fnJ (A:=.z) H
def W172 (c:Addr) (pa:Bool) (pb pc:Int):Prop:=
 Wn h (L1 pa pb pc) 252 fun b=>
 Wn b [vI 0,.bool false,vI 0,vI 0,vN] 60 fun a=>
 ∃d,rI a ⟨c.block,c.off+8,none⟩ d /\
 ∃e,rB a (aS h 0) e /\
 ∃f,rI a (aS h 1) f /\
 ∃g,rI a (aS h 2) g /\
 Wp a (aS b 0) 5 [vI d,.bool e,vI f,vI g,vN] fun i=>
 ∃j k l m n,aL8 i (aS b 0) j k l m n /\
 R (.agg ⟨(L8 j k l m n)⟩) i
theorem vc172 (p0:Addr) (pa:Bool) (pb pc:Int) (H:@W172 h R p0 pa pb pc):Fn Pz 172 #[.pointer (some p0),.agg ⟨(L1 pa pb pc)⟩] h R:=fnJ (A:=.z) H
def W166 (g:Option Nat) (pa pb:Int):Prop:=
 Wn h [vI pa,vI pb] 272 fun a=>
 ∃(b c:Int),atC a (aS h 0) [vI b,vI c] /\
 RunW Pz (Instr.lookup 278 (.map g) (.agg ⟨[vI b,vI c]⟩) true) a
 (fun i d=>∃(e:Int) (f:Bool),i=.tuple ⟨[vI e,.bool f]⟩ /\
 sB f
 (R (vI e) d)
 (R (vI 1073741824) d))
theorem vc166 (p0:Option Nat) (pa pb:Int) (H:@W166 h R p0 pa pb):Fn Pz 166 #[.map p0,.agg ⟨[vI pa,vI pb]⟩] h R:=fnJ (A:=.z) H
end Go.VC
end
