/- SxVcA SxVcJ SxVcJ2 SxVcU SxVcV SxVcM SxVcD SxVcF SxVcB SxVcC SxVcH SxVcI SxVcK SxVcL SxVcX SxVcW SxVcS1 SxVcS2 SxVcS4 SxVcS3 SxVcS5 SxVcS6 SxVcS7 SxVcS8 SxVcS9. -/
import Derived.Test.YtajglkbckhgboaaGreatDoorIM01
set_option linter.all false
set_option maxRecDepth 100000
set_option maxHeartbeats 8000000

section
namespace Go.VC
open Go.Proofs IntKind
variable {h:Heap} {R:Value->Heap->Prop}
def Uk(a:ByteArray):Prop:=
 sB ((ByteArray.toList a)==(ByteArray.toList ⟨#[]⟩))
 (R (.bool false) h)
 (sB (decide ((ByteArray.size a:Int)>16))
 (R (.bool false) h)
 ((0<=(0:Int)/\(0:Int)<(ByteArray.size a:Nat)) /\
 Fn Pz 265 #[.int .u8 (ga a (Int.toNat 0):Int)] h
 (fun j c=>∃d,iB j d /\
 sB (!d)
 (R (.bool false) c)
 (QI 0 c fun k b e l=>
 sB (decide (b<(ByteArray.size a:Int)))
 ((0<=(b:Int)/\(b:Int)<(ByteArray.size a:Nat)) /\
 Fn Pz 266 #[.int .u8 (ga a (b.toNat):Int)] e
 (fun m f=>∃g,iB m g /\
 sB (!g)
 (R (.bool false) f)
 (∃i,i<l/\k (wrap .i64 (b+1)) f i)))
 (R (.bool true) e)))))
theorem PZ(p0:ByteArray)(H:@Uk h R p0):Fn Pz 222 #[.string p0] h R:=aU (A:=(.s .z (.s .z (.s (AI 19) .z)))) H
def UN(a:ByteArray):Prop:=
 Wn h [.string ⟨#[]⟩,.string ⟨#[]⟩,.string ⟨#[]⟩,.string ⟨#[]⟩,.string ⟨#[]⟩,.string ⟨#[]⟩,.string ⟨#[]⟩,.string ⟨#[]⟩,.string ⟨#[]⟩,.string ⟨#[]⟩,.string ⟨#[]⟩,.string ⟨#[]⟩,.string ⟨#[]⟩,.string ⟨#[]⟩,.string ⟨#[]⟩,.string ⟨#[]⟩,.string ⟨#[]⟩,.string ⟨#[]⟩,.string ⟨#[]⟩,.string ⟨#[]⟩,.string ⟨#[]⟩,.string ⟨#[]⟩,.string ⟨#[]⟩,.string ⟨#[]⟩,.string ⟨#[]⟩,.string ⟨#[]⟩,.string ⟨#[]⟩,.string ⟨#[]⟩] 348 fun e=>
 Wp e (aS h 0) 28 [.string ⟨#[97,103,97,105,110]⟩,.string ⟨#[97,110,100]⟩,.string ⟨#[97,115]⟩,.string ⟨#[97,116]⟩,.string ⟨#[99,97,108,108]⟩,.string ⟨#[99,104,111,105,99,101]⟩,.string ⟨#[101,108,115,101]⟩,.string ⟨#[102,114,111,109]⟩,.string ⟨#[105,102]⟩,.string ⟨#[105,110,116]⟩,.string ⟨#[108,101,110]⟩,.string ⟨#[108,111,111,112]⟩,.string ⟨#[109,101,115,115,97,103,101]⟩,.string ⟨#[111,102]⟩,.string ⟨#[111,102,102,101,114]⟩,.string ⟨#[111,110]⟩,.string ⟨#[111,114]⟩,.string ⟨#[112,97,114]⟩,.string ⟨#[112,108,97,121,115]⟩,.string ⟨#[112,114,111,116,111,99,111,108]⟩,.string ⟨#[115,101,114,118,105,99,101]⟩,.string ⟨#[116,101,120,116]⟩,.string ⟨#[116,105,109,101,115]⟩,.string ⟨#[116,111]⟩,.string ⟨#[118,97,114]⟩,.string ⟨#[119,104,101,114,101]⟩,.string ⟨#[119,104,105,108,101]⟩,.string ⟨#[119,105,116,104,105,110]⟩] fun f=>
 Fn Pz 222 #[.string a] f
 (fun g b=>∃c,iB g c /\
 sB c
 (((0:Int)<=(0:Int)/\(0:Int)<=((28:Nat):Int)/\((28:Nat):Int)<=(28:Nat)) /\
 Fn Pz 161 #[.slice (bg (some (aS h 0)) (Int.toNat 0) 28 1) (Int.toNat (28:Nat)-Int.toNat 0) (28-Int.toNat 0),.string a] b
 (fun i j=>∃d,iB i d /\
 R (.bool (!d)) j))
 (R (.bool false) b))
theorem Qu(p0:ByteArray)(H:@UN h R p0):Fn Pz 160 #[.string p0] h R:=aU (A:=.z) H
def T7(a:Int):Prop:=
 sB (decide ((97:Int)<=a))
 (sB (decide (a<=122))
 (R (.bool true) h)
 (sB (decide ((65:Int)<=a))
 (R (.bool (decide (a<=90))) h)
 (R (.bool false) h)))
 (sB (decide ((65:Int)<=a))
 (R (.bool (decide (a<=90))) h)
 (R (.bool false) h))
theorem PJ(p0:Int)(H:@T7 h R p0):Fn Pz 265 #[.int .u8 p0] h R:=aU (A:=.z) H
def T6(a:Int):Prop:=
 Fn Pz 265 #[.int .u8 a] h
 (fun f b=>∃c,iB f c /\
 sB c
 (R (.bool true) b)
 (Fn Pz 296 #[.int .u8 a] b
 (fun g d=>∃e,iB g e /\
 sB e
 (R (.bool true) d)
 (R (.bool (a==95)) d))))
theorem PI(p0:Int)(H:@T6 h R p0):Fn Pz 266 #[.int .u8 p0] h R:=aU (A:=.z) H
def TR(a:Int):Prop:=
 sB (decide ((48:Int)<=a))
 (R (.bool (decide (a<=57))) h)
 (R (.bool false) h)
theorem Pu(p0:Int)(H:@TR h R p0):Fn Pz 296 #[.int .u8 p0] h R:=aU (A:=.z) H
def Uj(d:Sl)(g:ByteArray):Prop:=
 QI 0 h fun i b c j=>
 sB (decide (b<(d.n:Int)))
 (NB d.a fun k l=>Ib b d.n /\
 ∃e,rT c ⟨k,l+b.toNat*1,none⟩ e /\
 sB ((ByteArray.toList g)==(ByteArray.toList e))
 (R (vI b) c)
 (∃f,f<j/\i (wrap .i64 (b+1)) c f))
 (R (vI (-1)) c)
theorem PY(p0:Sl)(p1:ByteArray)(H:@Uj h R p0 p1):Fn Pz 223 #[vS p0,.string p1] h R:=aU (A:=(.s .z (.s (AI 8) .z))) H
def UM(b:Sl)(c:ByteArray):Prop:=
 Fn Pz 223 #[vS b,.string c] h
 (fun d e=>∃a,iI d a /\
 R (.bool (decide (a>=0))) e)
theorem Qt(p0:Sl)(p1:ByteArray)(H:@UM h R p0 p1):Fn Pz 161 #[vS p0,.string p1] h R:=aU (A:=.z) H
def TK(g:Sl)(i:FuncId):Prop:=
 QI 0 h fun l b f m=>
 sB (decide (b<(g.n:Int)))
 (NB g.a fun o p=>Ib b g.n /\
 ∃j,rT f ⟨o,p+b.toNat*1,none⟩ j /\
 bif au Pz i then Fn Pz i #[.string j] f
 (fun k c=>∃d,iB k d /\
 sB d
 (R (vI b) c)
 (∃e,e<m/\l (wrap .i64 (b+1)) c e)) else kZ Pz i #[.string j] f
 (fun k c=>∃d,iB k d /\
 sB d
 (R (vI b) c)
 (∃e,e<m/\l (wrap .i64 (b+1)) c e)))
 (R (vI (-1)) f)
theorem Pn(p0:Sl)(p1:FuncId)(H:@TK h R p0 p1):Fn Pz 308 #[vS p0,.func (.func p1) #[] #[]] h R:=aU (A:=(.s .z (.s (AI 8) .z))) H
def TQ(b:Sl)(c:Value):Prop:=
 Fn Pz 308 #[vS b,c] h
 (fun d e=>∃a,iI d a /\
 R (.bool (decide (a>=0))) e)
theorem Pt(p0:Sl)(p1:Value)(H:@TQ h R p0 p1):Fn Pz 297 #[vS p0,p1] h R:=aU (A:=.z) H
def TP(b:ByteArray):Prop:=
 Fn Pz 160 #[.string b] h
 (fun c d=>∃a,iB c a /\
 R (.bool (!a)) d)
theorem Ps(p0:ByteArray)(H:@TP h R p0):Fn Pz 299 #[.string p0] h R:=aU (A:=.z) H
def T4(a:ByteArray):Prop:=
 sB (decide ((ByteArray.size a:Int)<=50))
 (Fn Pz 298 #[.string a,.string ⟨#[46]⟩] h
 (fun d e=>∃b,iS d b /\
 Fn Pz 297 #[vS b,.func (.func 299) #[] #[]] e
 (fun f g=>∃c,iB f c /\
 R (.bool (!c)) g)))
 (R (.bool false) h)
theorem PG(p0:ByteArray)(H:@T4 h R p0):Fn Pz 268 #[.string p0] h R:=aU (A:=.z) H
def T5(d:Sl):Prop:=
 sY ⟨none,0,0⟩ 0 h fun p e c b q=>
 sB (decide (c<(d.n:Int)))
 (NB d.a fun r s=>Ib c d.n /\
 ∃f g i j k,NN b ⟨r,s+c.toNat*5,none⟩ f g i j k /\
 Wn b [.string ⟨#[]⟩,vN,vI 0,vN,vN] 171 fun t=>
 Wp t (aS b 0) 5 (L6 f g i j k) fun l=>
 ∃m,rS l (aS b 1) m /\
 App Pz 166 166 (vS e) (vS m) l fun u v=>
 ∃o,o<q/\p u (wrap .i64 (c+1)) v o)
 (R (vS e) b)
theorem PH(p0:Sl)(H:@T5 h R p0):Fn Pz 267 #[vS p0] h R:=aU (A:=(.s .z (.s .z (.s (AJ 3 8) .z)))) H
def T2(pa:ByteArray)(pb:Sl)(pc:Int)(pd pe:Sl)(d:Addr):Prop:=
 Wn h (L6 pa pb pc pd pe) 171 fun a=>
 ∃b,rT a (aS h 0) b /\
 ∃c,rT a d c /\
 R (.bool ((ByteArray.toList b)==(ByteArray.toList c))) a
theorem PE(pa:ByteArray)(pb:Sl)(pc:Int)(pd pe:Sl)(c0:Addr)(H:@T2 h R pa pb pc pd pe c0):Fn Pz 270 #[.agg ⟨(L6 pa pb pc pd pe)⟩,.pointer (some c0)] h R:=aU (A:=.z) H
def TX(pa:ByteArray)(pb pc pd:Int)(d:Addr):Prop:=
 Wn h (L7 pa pb pc pd) 260 fun a=>
 ∃b,rT a (aS h 0) b /\
 ∃c,rT a d c /\
 R (.bool ((ByteArray.toList b)==(ByteArray.toList c))) a
theorem PB(pa:ByteArray)(pb pc pd:Int)(c0:Addr)(H:@TX h R pa pb pc pd c0):Fn Pz 273 #[.agg ⟨(L7 pa pb pc pd)⟩,.pointer (some c0)] h R:=aU (A:=.z) H
def TZ(pa pb pc:Int):Prop:=
 Wn h (L2 pa pb pc) 258 fun a=>
 ∃b,rI a (aS h 0) b /\
 sB (b==1)
 (∃c,rI a (aS h 1) c /\
 sB (decide (c>=(-1000)))
 (∃d,rI a (aS h 1) d /\
 ∃e,rI a (aS h 2) e /\
 sB (decide (d<=e))
 (∃f,rI a (aS h 2) f /\
 R (.bool (decide (f<=1000))) a)
 (R (.bool false) a))
 (R (.bool false) a))
 (sB (b==2)
 (∃g,rI a (aS h 1) g /\
 sB (decide (g>=0))
 (∃i,rI a (aS h 1) i /\
 ∃j,rI a (aS h 2) j /\
 sB (decide (i<=j))
 (∃k,rI a (aS h 2) k /\
 R (.bool (decide (k<=40))) a)
 (R (.bool false) a))
 (R (.bool false) a))
 (R (.bool false) a))
theorem PD(pa pb pc:Int)(H:@TZ h R pa pb pc):Fn Pz 271 #[.agg ⟨(L2 pa pb pc)⟩] h R:=aU (A:=.z) H
def TN(g:Sl)(i:FuncId)(Dq:Option Addr):Prop:=
 QI 0 h fun q b f r=>
 sB (decide (b<(g.n:Int)))
 (NB g.a fun s t=>Ib b g.n /\
 ∃j k l m o,NN f ⟨s,t+b.toNat*5,none⟩ j k l m o /\
 bif au Pz i then Fn Pz i #[.agg ⟨(L6 j k l m o)⟩,.pointer Dq] f
 (fun p c=>∃d,iB p d /\
 sB d
 (R (vI b) c)
 (∃e,e<r/\q (wrap .i64 (b+1)) c e)) else kZ Pz i #[.agg ⟨(L6 j k l m o)⟩,.pointer Dq] f
 (fun p c=>∃d,iB p d /\
 sB d
 (R (vI b) c)
 (∃e,e<r/\q (wrap .i64 (b+1)) c e)))
 (R (vI (-1)) f)
theorem Pq(p0:Sl)(p1:FuncId)(Dq:Option Addr)(H:@TN h R p0 p1 Dq):Fn Pz 300 #[vS p0,.func (.func p1) #[] #[.pointer Dq]] h R:=aU (A:=(.s .z (.s (AI 8) .z))) H
def TM(g:Sl)(i:FuncId)(Dq:Option Addr):Prop:=
 QI 0 h fun p b f q=>
 sB (decide (b<(g.n:Int)))
 (NB g.a fun r s=>Ib b g.n /\
 ∃j k l m,TH f ⟨r,s+b.toNat*4,none⟩ j k l m /\
 bif au Pz i then Fn Pz i #[.agg ⟨(L7 j k l m)⟩,.pointer Dq] f
 (fun o c=>∃d,iB o d /\
 sB d
 (R (vI b) c)
 (∃e,e<q/\p (wrap .i64 (b+1)) c e)) else kZ Pz i #[.agg ⟨(L7 j k l m)⟩,.pointer Dq] f
 (fun o c=>∃d,iB o d /\
 sB d
 (R (vI b) c)
 (∃e,e<q/\p (wrap .i64 (b+1)) c e)))
 (R (vI (-1)) f)
theorem Pp(p0:Sl)(p1:FuncId)(Dq:Option Addr)(H:@TM h R p0 p1 Dq):Fn Pz 301 #[vS p0,.func (.func p1) #[] #[.pointer Dq]] h R:=aU (A:=(.s .z (.s (AI 8) .z))) H
def T3(b:Sl)(c:Value):Prop:=
 Fn Pz 300 #[vS b,c] h
 (fun d e=>∃a,iI d a /\
 R (.bool (decide (a>=0))) e)
theorem PF(p0:Sl)(p1:Value)(H:@T3 h R p0 p1):Fn Pz 269 #[vS p0,p1] h R:=aU (A:=.z) H
def TY(b:Sl)(c:Value):Prop:=
 Fn Pz 301 #[vS b,c] h
 (fun d e=>∃a,iI d a /\
 R (.bool (decide (a>=0))) e)
theorem PC(p0:Sl)(p1:Value)(H:@TY h R p0 p1):Fn Pz 272 #[vS p0,p1] h R:=aU (A:=.z) H
def TW(pa pb i:Sl):Prop:=
 Wn h [vS pa,vS pb] 169 fun d=>
 ∃p,rS d (aS h 0) p /\
 sB (decide ((p.n:Int)>20))
 (R (.bool false) d)
 (∃q,rS d (aS h 1) q /\
 sB (decide ((q.n:Int)>20))
 (R (.bool false) d)
 (∃j,rS d (aS h 0) j /\
 QI 0 d fun J k b K=>
 sB (decide (k<(j.n:Int)))
 (NB j.a fun L M=>Ib k j.n /\
 ∃r s t,jh b ⟨L,M+k.toNat*3,none⟩ r s t /\
 Wn b [vI 0,vI 0,vI 0] 263 fun N=>
 Wp N (aS b 0) 3 (L2 r s t) fun c=>
 ∃u,rI c (aS b 0) u /\
 ∃v,rI c (aS b 1) v /\
 sB (decide ((gI u v)<(-1)))
 (R (.bool false) c)
 (∃w,rI c (aS b 0) w /\
 ∃x,rI c (aS b 1) x /\
 sB (decide ((imax w x)>=(i.n:Int)))
 (R (.bool false) c)
 (∃y,rI c (aS b 2) y /\
 sB (decide (y<(-20000)))
 (R (.bool false) c)
 (∃z,rI c (aS b 2) z /\
 sB (decide (z>20000))
 (R (.bool false) c)
 (∃A,A<K/\J (wrap .i64 (k+1)) c A)))))
 (∃l,rS b (aS h 1) l /\
 QI 0 b fun O m f P=>
 sB (decide (m<(l.n:Int)))
 (NB l.a fun Q S=>Ib m l.n /\
 ∃(B C:Int),a8 f ⟨Q,S+m.toNat*2,none⟩ [vI B,vI C] /\
 Wn f [vI 0,vI 0] 52 fun T=>
 Wp T (aS f 0) 2 [vI B,vI C] fun D=>
 ∃(E F:Int),a8 D (aS f 0) [vI E,vI F] /\
 QI 0 D fun U o e V=>
 sB (decide (o<2))
 (Ib o 2/\∃g:Int,List.take 1 (List.drop (o.toNat*1) ([vI E,vI F]:List Value))=[vI g] /\
 sB (decide (g<0))
 (R (.bool false) e)
 (sB (decide (g>=(i.n:Int)))
 (R (.bool false) e)
 (NB i.a fun W X=>Ib g i.n /\
 ∃G,rI e ⟨W,X+g.toNat*4+1,none⟩ G /\
 sB (G != 2)
 (R (.bool false) e)
 (∃H,H<V/\U (wrap .i64 (o+1)) e H))))
 (∃I,I<P/\O (wrap .i64 (m+1)) e I))
 (R (.bool true) f))))
theorem PA(pa pb p1:Sl)(H:@TW h R pa pb p1):Fn Pz 274 #[.agg ⟨[vS pa,vS pb]⟩,vS p1] h R:=aU (A:=(.s .z (.s .z (.s (AI 24) (.s (.s .z (.b (.l [(58,.one (.int .i64))] (.s .z (.s .z (.s (.b (.s .z (AI 63))) .z)))))) .z))))) H
def Ui(d:Sl):Prop:=
 sB (decide ((d.n:Int)>40))
 (R (.bool false) h)
 (Fn Pz 267 #[vS d] h
 (fun Y q=>∃m,iS Y m /\
 sB (decide ((m.n:Int)>24))
 (R (.bool false) q)
 (vR 0 0 q fun Z r f b m6=>
 sB (decide (f<(d.n:Int)))
 (NB d.a fun b0 c0=>Ib f d.n /\
 ∃s t u v w,NN b ⟨b0,c0+f.toNat*5,none⟩ s t u v w /\
 Wn b [.string ⟨#[]⟩,vN,vI 0,vN,vN] 171 fun d0=>
 Wp d0 (aS b 0) 5 (L6 s t u v w) fun x=>
 ∃y,rT x (aS b 0) y /\
 Fn Pz 268 #[.string y] x
 (fun e0 i=>∃z,iB e0 z /\
 sB (!z)
 (R (.bool false) i)
 (∃A,rS i (aS b 1) A /\
 sB (decide ((A.n:Int)>4))
 (R (.bool false) i)
 (∃B,rI i (aS b 2) B /\
 sB (B != r)
 (R (.bool false) i)
 (((0:Int)<=(0:Int)/\(0:Int)<=(f:Int)/\(f:Int)<=(d.c:Nat)) /\
 Fn Pz 269 #[.slice (bg d.a (Int.toNat 0) d.c 5) (f.toNat-Int.toNat 0) (d.c-Int.toNat 0),.func (.func 270) #[] #[.pointer (some (aS b 0))]] i
 (fun f0 k=>∃C,iB f0 C /\
 sB C
 (R (.bool false) k)
 (∃D,rS k (aS b 1) D /\
 ∃l,rS k (aS b 1) l /\
 QI 0 k fun g0 g e h0=>
 sB (decide (g<(l.n:Int)))
 (NB l.a fun i0 j0=>Ib g l.n /\
 ∃E F G H,TH e ⟨i0,j0+g.toNat*4,none⟩ E F G H /\
 Wn e [.string ⟨#[]⟩,vI 0,vI 0,vI 0] 260 fun k0=>
 Wp k0 (aS e 0) 4 (L7 E F G H) fun I=>
 ∃J,rT I (aS e 0) J /\
 Fn Pz 160 #[.string J] I
 (fun l0 o=>∃K,iB l0 K /\
 sB (!K)
 (R (.bool false) o)
 (∃L M N,jh o (aS e 1) L M N /\
 Fn Pz 271 #[.agg ⟨(L2 L M N)⟩] o
 (fun m0 p=>∃O,iB m0 O /\
 sB (!O)
 (R (.bool false) p)
 (∃j,rS p (aS b 1) j /\
 ((0:Int)<=(0:Int)/\(0:Int)<=(g:Int)/\(g:Int)<=(j.c:Nat)) /\
 Fn Pz 272 #[.slice (bg j.a (Int.toNat 0) j.c 4) (g.toNat-Int.toNat 0) (j.c-Int.toNat 0),.func (.func 273) #[] #[.pointer (some (aS e 0))]] p
 (fun n0 P=>∃Q,iB n0 Q /\
 sB Q
 (R (.bool false) P)
 (∃S,S<h0/\g0 (wrap .i64 (g+1)) P S)))))))
 (∃(T U:Sl),a8 e (aS b 3) [vS T,vS U] /\
 Fn Pz 274 #[.agg ⟨[vS T,vS U]⟩,vS m] e
 (fun o0 V=>∃W,iB o0 W /\
 sB (!W)
 (R (.bool false) V)
 (∃X,X<m6/\Z (wrap .i64 (r+(D.n:Int))) (wrap .i64 (f+1)) V X))))))))))
 (R (.bool true) b))))
theorem PX(p0:Sl)(H:@Ui h R p0):Fn Pz 224 #[vS p0] h R:=aU (A:=(.s .z (.s .z (.s .z (.s .z (.s .z (.s (.s .z (.b (.l [(4,.one (.int .i64)),(19,.one (.int .i64))] (.s .z (.s .z (.s (.b (.s .z (.s .z (.s .z (.s (AI 55) .z))))) .z)))))) .z))))))) H
def Uh(pa:ByteArray)(pb:Sl)(pc:Int)(pd pe:Sl):Prop:=
 Wn h (L6 pa pb pc pd pe) 171 fun k=>
 ∃g,rS k (aS h 1) g /\
 sY ⟨none,0,0⟩ 0 k fun G l d c H=>
 sB (decide (d<(g.n:Int)))
 (NB g.a fun I J=>Ib d g.n /\
 ∃m o p q,TH c ⟨I,J+d.toNat*4,none⟩ m o p q /\
 Wn c [.string ⟨#[]⟩,vI 0,vI 0,vI 0] 260 fun K=>
 Wp K (aS c 0) 4 (L7 m o p q) fun e=>
 ∃r,rI e (aS h 2) r /\
 ∃s,rI e (aS c (1+2)) s /\
 ∃t,rI e (aS h 2) t /\
 ∃u,rI e (aS c (1+1)) u /\
 Wn e [vI (wrap .i64 (r+d)),vI (-1),vI s,vI (-1),vI (wrap .i64 (t+d)),vI (wrap .i64 (0-u))] 263 fun L=>
 App Pz 167 167 (vS l) (.slice (some (aS e 0)) 2 2) L fun M N=>
 ∃v,v<H/\G M (wrap .i64 (d+1)) N v)
 (∃w,rS c (aS h 3) w /\
 App Pz 167 167 (vS l) (vS w) c fun O x=>
 ∃i,rS x (aS h (3+1)) i /\
 sY O 0 x fun P y j b Q=>
 sB (decide (j<(i.n:Int)))
 (NB i.a fun S T=>Ib j i.n /\
 ∃(z A:Int),a8 b ⟨S,T+j.toNat*2,none⟩ [vI z,vI A] /\
 Wn b [vI 0,vI 0] 52 fun U=>
 Wp U (aS b 0) 2 [vI z,vI A] fun f=>
 Ib 0 2 /\
 ∃B,rI f (aS b (0+Int.toNat 0*1)) B /\
 Ib 1 2 /\
 ∃C,rI f (aS b (0+Int.toNat 1*1)) C /\
 Ib 1 2 /\
 ∃D,rI f (aS b (0+Int.toNat 1*1)) D /\
 Ib 0 2 /\
 ∃E,rI f (aS b (0+Int.toNat 0*1)) E /\
 Wn f [vI B,vI C,vI 0,vI D,vI E,vI 0] 263 fun V=>
 App Pz 167 167 (vS y) (.slice (some (aS f 0)) 2 2) V fun W X=>
 ∃F,F<Q/\P W (wrap .i64 (j+1)) X F)
 (R (vS y) b))
theorem PW(pa:ByteArray)(pb:Sl)(pc:Int)(pd pe:Sl)(H:@Uh h R pa pb pc pd pe):Fn Pz 225 #[.agg ⟨(L6 pa pb pc pd pe)⟩] h R:=aU (A:=(.s .z (.s .z (.s (AJ 3 11) (.s .z (.s (AJ 3 46) .z)))))) H
def UL(b:Sl)(c:Int):Prop:=
 sB (decide (c<0))
 (R (.tuple ⟨[vN,vI 1]⟩) h)
 (sB (decide (c>=(b.n:Int)))
 (R (.tuple ⟨[vN,vI 1]⟩) h)
 (Fn Pz 224 #[vS b] h
 (fun m d=>∃e,iB m e /\
 sB (!e)
 (R (.tuple ⟨[vN,vI 1]⟩) d)
 (NB b.a fun o p=>Ib c b.n /\
 ∃f g i j k,NN d ⟨o,p+c.toNat*5,none⟩ f g i j k /\
 Fn Pz 225 #[.agg ⟨(L6 f g i j k)⟩] d
 (fun q r=>∃l,iS q l /\
 R (.tuple ⟨[vS l,vI 0]⟩) r)))))
theorem Qs(p0:Sl)(p1:Int)(H:@UL h R p0 p1):Fn Pz 162 #[vS p0,vI p1] h R:=aU (A:=.z) H
end Go.VC
end

section
namespace Go.VC
open Go.Proofs IntKind
variable [ax]
namespace M
def FY(a:Int)(h:Heap)(R:Value->Heap->Prop):Prop:=
 R (.bool (a != a)) h
theorem CI(p0:Int)(h:Heap)(R:Value->Heap->Prop)(H:FY p0 h R):Fn Pz 111 #[vI p0] h R:=aU (A:=.z) H
def TI(b c:Int)(h:Heap)(R:Value->Heap->Prop):Prop:=
 Fn Pz 111 #[vI b] h
 (fun f g=>∃e,iB f e /\
 Fn Pz 111 #[vI c] g
 (fun i a=>∃d,iB i d /\
 sB e
 (sB d
 (R (vI 0) a)
 (R (vI (-1)) a))
 (sB d
 (R (vI 1) a)
 (sB (decide (b<c))
 (R (vI (-1)) a)
 (sB (decide (b>c))
 (R (vI 1) a)
 (R (vI 0) a))))))
theorem KL(p0 p1:Int)(h:Heap)(R:Value->Heap->Prop)(H:TI p0 p1 h R):Fn Pz 54 #[vI p0,vI p1] h R:=aU (A:=.z) H
def TJ(d:Sl)(h:Heap)(R:Value->Heap->Prop):Prop:=
 QI 0 h fun g b c i=>
 sB (decide (b<(d.n:Int)))
 (NB d.a fun j k=>Ib b d.n /\
 ∃e,rI c ⟨j,k+b.toNat*1,none⟩ e /\
 sB (e != 0)
 (R (vI e) c)
 (∃f,f<i/\g (wrap .i64 (b+1)) c f))
 (R (vI 0) c)
theorem KM(p0:Sl)(h:Heap)(R:Value->Heap->Prop)(H:TJ p0 h R):Fn Pz 53 #[vS p0] h R:=aU (A:=(.s .z (.s .z (.s (AI 8) .z)))) H
end M
end Go.VC
end

section
namespace Go.VC
open Go.Proofs IntKind
variable [ax]
namespace M
def FX(pa:Bool)(pb pc:Int)(pd:Bool)(pe pf:Int)(h:Heap)(R:Value->Heap->Prop):Prop:=
 Wn h (L3 pa pb pc) 188 fun b=>
 Wn b (L3 pd pe pf) 188 fun a=>
 ∃e,rB a (aS h 0) e /\
 ∃f,rB a (aS b 0) f /\
 sB (!(e==f))
 (∃g,rB a (aS h 0) g /\
 sB g
 (R (vI (-1)) a)
 (R (vI 1) a))
 (∃i,rI a (aS h 1) i /\
 ∃j,rI a (aS b 1) j /\
 ∃k,rI a (aS h 2) k /\
 ∃l,rI a (aS b 2) l /\
 Fn Pz 54 #[vI i,vI j] a
 (fun p c=>∃m,iI p m /\
 Sm [(aS b 2),(aS h 2)] a c /\
 Fn Pz 54 #[vI k,vI l] c
 (fun q d=>∃n,iI q n /\
 Sm [(aS b 1),(aS h 1)] c d /\
 Wn d [vI m,vI n] 3 fun r=>
 Fn Pz 53 #[.slice (some (aS d 0)) 2 2] r
 (fun s t=>∃o,iI s o /\
 R (vI o) t))))
theorem CH(pa:Bool)(pb pc:Int)(pd:Bool)(pe pf:Int)(h:Heap)(R:Value->Heap->Prop)(H:FX pa pb pc pd pe pf h R):Fn Pz 185 #[.agg ⟨(L3 pa pb pc)⟩,.agg ⟨(L3 pd pe pf)⟩] h R:=aU (A:=.z) H
def W70(pa pb pc pd:Int)(h:Heap)(R:Value->Heap->Prop):Prop:=
 Wn h [vI pa,vI pb] 72 fun b=>
 Wn b [vI pc,vI pd] 72 fun a=>
 ∃e,rI a (aS h 0) e /\
 ∃f,rI a (aS b 0) f /\
 ∃g,rI a (aS h 1) g /\
 ∃i,rI a (aS b 1) i /\
 Fn Pz 54 #[vI e,vI f] a
 (fun m c=>∃j,iI m j /\
 Sm [(aS b 1),(aS h 1)] a c /\
 Fn Pz 54 #[vI g,vI i] c
 (fun n d=>∃k,iI n k /\
 Sm [(aS b 0),(aS h 0)] c d /\
 Wn d [vI j,vI k] 3 fun o=>
 Fn Pz 53 #[.slice (some (aS d 0)) 2 2] o
 (fun p q=>∃l,iI p l /\
 R (vI l) q)))
theorem W7(pa pb pc pd:Int)(h:Heap)(R:Value->Heap->Prop)(H:W70 pa pb pc pd h R):Fn Pz 70 #[.agg ⟨[vI pa,vI pb]⟩,.agg ⟨[vI pc,vI pd]⟩] h R:=aU (A:=.z) H
def U5(pa pb pc pd pe:Int)(pf:Bool)(pg ph pi pj pk:Int)(pl:Bool)(h:Heap)(R:Value->Heap->Prop):Prop:=
 Wn h (L4 pa pb pc pd pe pf) 67 fun b=>
 Wn b (L4 pg ph pi pj pk pl) 67 fun a=>
 ∃c d e,jh a (aS h 1) c d e /\
 ∃f g i,jh a (aS b 1) f g i /\
 Fn Pz 130 #[.agg ⟨(L2 c d e)⟩,.agg ⟨(L2 f g i)⟩] a
 (fun k l=>∃j,iI k j /\
 R (vI j) l)
theorem QK(pa pb pc pd pe:Int)(pf:Bool)(pg ph pi pj pk:Int)(pl:Bool)(h:Heap)(R:Value->Heap->Prop)(H:U5 pa pb pc pd pe pf pg ph pi pj pk pl h R):Fn Pz 129 #[.agg ⟨(L4 pa pb pc pd pe pf)⟩,.agg ⟨(L4 pg ph pi pj pk pl)⟩] h R:=aU (A:=.z) H
def U4(pa pb pc pd pe pf:Int)(h:Heap)(R:Value->Heap->Prop):Prop:=
 Wn h (L2 pa pb pc) 65 fun a=>
 Wn a (L2 pd pe pf) 65 fun b=>
 ∃f,rI b (aS h 0) f /\
 ∃g,rI b (aS a 0) g /\
 ∃i,rI b (aS h 1) i /\
 ∃j,rI b (aS a 1) j /\
 ∃k,rI b (aS h 2) k /\
 ∃l,rI b (aS a 2) l /\
 Fn Pz 54 #[vI f,vI g] b
 (fun q c=>∃m,iI q m /\
 Sm [(aS a 2),(aS h 2),(aS a 1),(aS h 1)] b c /\
 Fn Pz 54 #[vI i,vI j] c
 (fun r d=>∃n,iI r n /\
 Sm [(aS a 2),(aS h 2),(aS a 0),(aS h 0)] c d /\
 Fn Pz 54 #[vI k,vI l] d
 (fun s e=>∃o,iI s o /\
 Sm [(aS a 1),(aS h 1),(aS a 0),(aS h 0)] d e /\
 Wn e (L2 m n o) 3 fun t=>
 Fn Pz 53 #[.slice (some (aS e 0)) 3 3] t
 (fun u v=>∃p,iI u p /\
 R (vI p) v))))
theorem QJ(pa pb pc pd pe pf:Int)(h:Heap)(R:Value->Heap->Prop)(H:U4 pa pb pc pd pe pf h R):Fn Pz 130 #[.agg ⟨(L2 pa pb pc)⟩,.agg ⟨(L2 pd pe pf)⟩] h R:=aU (A:=.z) H
end M
end Go.VC
end

section
namespace Go.VC
open Go.Proofs IntKind



end Go.VC
end

section
namespace Go.VC
open Go.Proofs IntKind
variable {h:Heap} {R:Value->Heap->Prop}
def TJ(d:Sl):Prop:=
 QI 0 h fun g b c i=>
 sB (decide (b<(d.n:Int)))
 (NB d.a fun j k=>Ib b d.n /\
 ∃e,rI c ⟨j,k+b.toNat*1,none⟩ e /\
 sB (e != 0)
 (R (vI e) c)
 (∃f,f<i/\g (wrap .i64 (b+1)) c f))
 (R (vI 0) c)
theorem KM(p0:Sl)(H:@TJ h R p0):Fn Pz 53 #[vS p0] h R:=aU (A:=(.s .z (.s .z (.s (AI 8) .z)))) H
def TI(b c:Int):Prop:=
 Fn Pz 111 #[vI b] h
 (fun f g=>∃e,iB f e /\
 Fn Pz 111 #[vI c] g
 (fun i a=>∃d,iB i d /\
 sB e
 (sB d
 (R (vI 0) a)
 (R (vI (-1)) a))
 (sB d
 (R (vI 1) a)
 (sB (decide (b<c))
 (R (vI (-1)) a)
 (sB (decide (b>c))
 (R (vI 1) a)
 (R (vI 0) a))))))
theorem KL(p0 p1:Int)(H:@TI h R p0 p1):Fn Pz 54 #[vI p0,vI p1] h R:=aU (A:=.z) H
def FY(a:Int):Prop:=
 R (.bool (a != a)) h
theorem CI(p0:Int)(H:@FY h R p0):Fn Pz 111 #[vI p0] h R:=aU (A:=.z) H
end Go.VC
end

section
namespace Go.VC
open Go.Proofs IntKind

end Go.VC
end

section
namespace Go.VC
open Go.Proofs IntKind
variable {h:Heap} {R:Value->Heap->Prop}
def W88(pa:ByteArray)(pb pc:Sl)(pd pe pf:Int)(pg ph:Sl):Prop:=
 Wn h (L0 pa pb pc pd pe pf pg ph) 27 fun k=>
 ∃l,rT k (aS h 0) l /\
 Fn Pz 160 #[.string l] k
 (fun u b=>∃m,iB u m /\
 sB (!m)
 (R (.bool false) b)
 (∃o,rS b (aS h 1) o /\
 sB (decide ((o.n:Int)<1))
 (R (.bool false) b)
 (∃p,rS b (aS h 1) p /\
 sB (decide ((p.n:Int)>6))
 (R (.bool false) b)
 (∃f,rS b (aS h 1) f /\
 QI 0 b fun v d g w=>
 sB (decide (d<(f.n:Int)))
 (NB f.a fun x y=>Ib d f.n /\
 ∃i,rT g ⟨x,y+d.toNat*1,none⟩ i /\
 Fn Pz 160 #[.string i] g
 (fun z j=>∃q,iB z q /\
 sB (!q)
 (R (.bool false) j)
 (∃e,rS j (aS h 1) e /\
 ((0:Int)<=(0:Int)/\(0:Int)<=(d:Int)/\(d:Int)<=(e.c:Nat)) /\
 Fn Pz 161 #[.slice (bg e.a (Int.toNat 0) e.c 1) (d.toNat-Int.toNat 0) (e.c-Int.toNat 0),.string i] j
 (fun A r=>∃s,iB A s /\
 sB s
 (R (.bool false) r)
 (∃t,t<w/\v (wrap .i64 (d+1)) r t)))))
 (R (.bool true) g)))))
theorem WU(pa:ByteArray)(pb pc:Sl)(pd pe pf:Int)(pg ph:Sl)(H:@W88 h R pa pb pc pd pe pf pg ph):Fn Pz 88 #[.agg ⟨(L0 pa pb pc pd pe pf pg ph)⟩] h R:=aU (A:=(.s .z (.s .z (.s (AI 24) .z)))) H
def W89(pa:ByteArray)(pb pc:Sl)(pd pe pf:Int)(pg ph:Sl):Prop:=
 Wn h (L0 pa pb pc pd pe pf pg ph) 27 fun c=>
 ∃i,rI c (aS h 3) i /\
 sB (decide (i<1))
 (R (.bool false) c)
 (∃j,rI c (aS h 3) j /\
 sB (decide (j>200))
 (R (.bool false) c)
 (∃k,rI c (aS h 4) k /\
 ∃l,rI c (aS h 5) l /\
 sB (decide ((gI k l)<0))
 (R (.bool false) c)
 (∃m,rI c (aS h 4) m /\
 ∃o,rI c (aS h 5) o /\
 ∃p,rI c (aS h 3) p /\
 sB (decide ((imax m o)>=p))
 (R (.bool false) c)
 (∃q,rS c (aS h 6) q /\
 sB (decide ((q.n:Int)>400))
 (R (.bool false) c)
 (∃f,rS c (aS h 6) f /\
 QI 0 c fun Q g e S=>
 sB (decide (g<(f.n:Int)))
 (NB f.a fun T U=>Ib g f.n /\
 ∃r s t u v w,mB e ⟨T,U+g.toNat*6,none⟩ r s t u v w /\
 Wn e [vI 0,vI 0,vI 0,vI 0,vI 0,.bool false] 67 fun V=>
 Wp V (aS e 0) 6 (L4 r s t u v w) fun d=>
 ∃x y z,jh d (aS e 1) x y z /\
 Wn d [vI 0,vI 0,vI 0] 65 fun W=>
 Wp W (aS d 0) 3 (L2 x y z) fun b=>
 ∃A,rI b (aS e 0) A /\
 ∃B,rI b (aS e 4) B /\
 ∃C,rI b (aS d 0) C /\
 ∃D,rI b (aS d 1) D /\
 ∃E,rI b (aS d 2) E /\
 sB (decide ((gI (gI (gI (gI A B) C) D) E)<0))
 (R (.bool false) b)
 (∃F,rI b (aS e 0) F /\
 ∃G,rI b (aS e 4) G /\
 ∃H,rI b (aS h 3) H /\
 sB (decide ((imax F G)>=H))
 (R (.bool false) b)
 (∃I,rI b (aS d 0) I /\
 ∃J,rI b (aS d 1) J /\
 ∃K,rS b (aS h 1) K /\
 sB (decide ((imax I J)>=(K.n:Int)))
 (R (.bool false) b)
 (∃L,rI b (aS d 0) L /\
 ∃M,rI b (aS d 1) M /\
 sB (L==M)
 (R (.bool false) b)
 (∃N,rI b (aS d 2) N /\
 ∃O,rS b (aS h 2) O /\
 sB (decide (N>=(O.n:Int)))
 (R (.bool false) b)
 (∃P,P<S/\Q (wrap .i64 (g+1)) b P))))))
 (R (.bool true) e))))))
theorem WT(pa:ByteArray)(pb pc:Sl)(pd pe pf:Int)(pg ph:Sl)(H:@W89 h R pa pb pc pd pe pf pg ph):Fn Pz 89 #[.agg ⟨(L0 pa pb pc pd pe pf pg ph)⟩] h R:=aU (A:=(.s .z (.s .z (.s (AI 41) .z)))) H
def W90(a:Sl):Prop:=
 sB ((a.n:Int)==0)
 (R (.bool true) h)
 (Fn Pz 162 #[vS a,vI 0] h
 (fun c d=>∃(e:Sl) (b:Int),c=.tuple ⟨[vS e,vI b]⟩ /\
 R (.bool (b==0)) d))
theorem WR(p0:Sl)(H:@W90 h R p0):Fn Pz 90 #[vS p0] h R:=aU (A:=.z) H
def Jv(a b c:Heap)(R:Value->Heap->Prop)(d:Nat)(e:Int->Heap->Nat->Prop)(f:Int):Prop:=
 ∃g,rB a (aS b 5) g/\sB g (∃h,rI a (aS c 4) h/\∃i,rI a (aS b 0) i/\sB (h==i) (∃j,rI a (aS b 1) j/\∃k,rI a (aS c 1) k/\sB (j != k) (R (.bool false) a) (∃l,rI a (aS b (1+2)) l/\∃m,rI a (aS c (1+2)) m/\sB (l != m) (R (.bool false) a) (∃n,n<d/\e (wrap .i64 (f+1)) a n))) (∃o,o<d/\e (wrap .i64 (f+1)) a o)) (∃p,p<d/\e (wrap .i64 (f+1)) a p)
def NU(j h:Heap)(k:Int)(d:Heap)(R:Value->Heap->Prop)(E:Nat)(F:Int->Heap->Nat->Prop):Prop:=
 ∃f,rS j (aS h 6) f/\QI 0 j fun g e c i=>sB (decide (e<(f.n:Int))) (NB f.a fun G H=>Ib e f.n/\∃l m o p q r,mB c ⟨G,H+e.toNat*6,none⟩ l m o p q r/\Wn c [vI 0,vI 0,vI 0,vI 0,vI 0,.bool false] 67 fun I=>Wp I (aS c 0) 6 (L4 l m o p q r) fun b=>sB (k != e) (∃s,rI b (aS d 0) s/\∃t,rI b (aS c 0) t/\sB (s==t) (∃u v w,jh b (aS d 1) u v w/\∃x y z,jh b (aS c 1) x y z/\sB ((u==x)&&((v==y)&&((w==z)&&true))) (R (.bool false) b) (∃A,rI b (aS d 1) A/\∃B,rI b (aS c 1) B/\sB (A != B) (R (.bool false) b) (∃C,rB b (aS d 5) C/\sB C (R (.bool false) b) (Jv b d c R i g e)))) (Jv b d c R i g e)) (Jv b d c R i g e)) (∃D,D<E/\F (wrap .i64 (k+1)) c D)
def W91(pa:ByteArray)(pb pc:Sl)(pd pe pf:Int)(pg ph:Sl):Prop:=
 Wn h (L0 pa pb pc pd pe pf pg ph) 27 fun f=>∃e,rS f (aS h 6) e/\QI 0 f fun g d b i=>sB (decide (d<(e.n:Int))) (NB e.a fun v w=>Ib d e.n/\∃j k l m o p,mB b ⟨v,w+d.toNat*6,none⟩ j k l m o p/\Wn b [vI 0,vI 0,vI 0,vI 0,vI 0,.bool false] 67 fun x=>Wp x (aS b 0) 6 (L4 j k l m o p) fun c=>∃q,rI c (aS b 0) q/\∃r,rI c (aS h 5) r/\sB (q==r) (R (.bool false) c) (∃s,rB c (aS b 5) s/\sB s (∃t,rI c (aS b 0) t/\∃u,rI c (aS h 4) u/\sB (t==u) (R (.bool false) c) (NU c h d b R i g)) (NU c h d b R i g))) (R (.bool true) b)
theorem WQ(pa:ByteArray)(pb pc:Sl)(pd pe pf:Int)(pg ph:Sl)(H:@W91 h R pa pb pc pd pe pf pg ph):Fn Pz 91 #[.agg ⟨(L0 pa pb pc pd pe pf pg ph)⟩] h R:=aU (A:=(.s .z (.s (.s .z (.b (.l [(10,.one (.int .i64))] (.s .z (.s .z (.s (.b (.s .z (.s .z (AI 34)))) .z)))))) .z))) H
def W92(pa:ByteArray)(pb pc:Sl)(pd pe pf:Int)(pg ph:Sl):Prop:=
 Wn h (L0 pa pb pc pd pe pf pg ph) 27 fun k=>
 ∃d,rS k (aS h 7) d /\
 vR (-1) 0 k fun A B e c C=>
 sB (decide (e<(d.n:Int)))
 (NB d.a fun D E=>Ib e d.n /\
 ∃l m o,jh c ⟨D,E+e.toNat*3,none⟩ l m o /\
 Wn c [vI 0,vI 0,vI 0] 149 fun F=>
 Wp F (aS c 0) 3 (L2 l m o) fun b=>
 ∃p,rI b (aS c 0) p /\
 sB (decide (p<=B))
 (R (.bool false) b)
 (∃q,rI b (aS c 1) q /\
 sB (decide (q<1))
 (R (.bool false) b)
 (∃r,rI b (aS c 1) r /\
 sB (decide (r>1000))
 (R (.bool false) b)
 (∃s,rI b (aS c 2) s /\
 sB (decide (s<0))
 (R (.bool false) b)
 (∃t,rI b (aS c 2) t /\
 ∃u,rS b (aS h 6) u /\
 sB (decide (t>=(u.n:Int)))
 (R (.bool false) b)
 (∃f,rS b (aS h 6) f /\
 ∃g,rI b (aS c 2) g /\
 NB f.a fun G H=>Ib g f.n /\
 ∃v,rI b ⟨G,H+g.toNat*6,none⟩ v /\
 ∃w,rI b (aS c 0) w /\
 sB (v != w)
 (R (.bool false) b)
 (∃i,rS b (aS h 6) i /\
 ∃j,rI b (aS c 2) j /\
 NB i.a fun I J=>Ib j i.n /\
 ∃x,rB b ⟨I,J+j.toNat*6+5,none⟩ x /\
 sB x
 (R (.bool false) b)
 (∃y,rI b (aS c 0) y /\
 ∃z,z<C/\A y (wrap .i64 (e+1)) b z))))))))
 (R (.bool true) c)
theorem WO(pa:ByteArray)(pb pc:Sl)(pd pe pf:Int)(pg ph:Sl)(H:@W92 h R pa pb pc pd pe pf pg ph):Fn Pz 92 #[.agg ⟨(L0 pa pb pc pd pe pf pg ph)⟩] h R:=aU (A:=(.s .z (.s .z (.s (.s .z (.b (.l [(3,.one (.int .i64)),(9,.one (.int .i64))] .z))) .z)))) H
def UK(d:Sl)(g:Int):Prop:=
 QI 0 h fun i b c j=>
 sB (decide (b<(d.n:Int)))
 (NB d.a fun k l=>Ib b d.n /\
 ∃e,rI c ⟨k,l+b.toNat*1,none⟩ e /\
 sB (g==e)
 (R (vI b) c)
 (∃f,f<j/\i (wrap .i64 (b+1)) c f))
 (R (vI (-1)) c)
theorem Qq(p0:Sl)(p1:Int)(H:@UK h R p0 p1):Fn Pz 163 #[vS p0,vI p1] h R:=aU (A:=(.s .z (.s (AI 8) .z))) H
def W93(b:Sl)(c:Int):Prop:=
 Fn Pz 163 #[vS b,vI c] h
 (fun d e=>∃a,iI d a /\
 R (.bool (decide (a>=0))) e)
theorem WN(p0:Sl)(p1:Int)(H:@W93 h R p0 p1):Fn Pz 93 #[vS p0,vI p1] h R:=aU (A:=.z) H
def W77(d:Sl)(e:Int):Prop:=
 ∃f:Heap->Prop,
 (sB (decide (e<0))
 (False)
 (f h)) /\
 ∀(_:Env) (g:Heap),f g ->
 (Fn Pz 141 #[.int .u64 (wrap .u64 (d.n:Int)),.int .u64 (wrap .u64 e)] g
 (fun m o=>∃(i a:Int),m=.tuple ⟨[.int .u64 i,.int .u64 a]⟩ /\
 ∃j:Heap->Prop,
 (sB (decide (i>0))
 (False)
 (sB (decide (a>9223372036854775807))
 (False)
 (j o))) /\
 ∀(_:Env) (c:Heap),j c ->
 (((0:Int)<=(wrap .i64 a)/\((wrap .i64 a):Int)<=(wrap .i64 a)/\((8:Nat):Int)*(wrap .i64 a)<=140737488355328)/\Wn c (ah Pz 3 (Int.toNat (wrap .i64 a))) 3 fun p=>
 Wu Pz 102 102 (.slice (some (aS c 0)) (Int.toNat (wrap .i64 a)) (Int.toNat (wrap .i64 a))) (vS d) p fun q r=>
 QI q r fun s b k t=>
 sB (decide (b<((Int.toNat (wrap .i64 a)):Int)))
 (((0:Int)<=(b:Int)/\(b:Int)<=(((Int.toNat (wrap .i64 a)):Nat):Int)/\(((Int.toNat (wrap .i64 a)):Nat):Int)<=((Int.toNat (wrap .i64 a)):Nat)) /\
 ((0:Int)<=(0:Int)/\(0:Int)<=(b:Int)/\(b:Int)<=((Int.toNat (wrap .i64 a)):Nat)) /\
 Wu Pz 102 102 (.slice (bg (some (aS c 0)) (b.toNat) (Int.toNat (wrap .i64 a)) 1) (Int.toNat ((Int.toNat (wrap .i64 a)):Nat)-b.toNat) ((Int.toNat (wrap .i64 a))-b.toNat)) (.slice (bg (some (aS c 0)) (Int.toNat 0) (Int.toNat (wrap .i64 a)) 1) (b.toNat-Int.toNat 0) ((Int.toNat (wrap .i64 a))-Int.toNat 0)) k fun u v=>
 ∃l,l<t/\s (wrap .i64 (b+u)) v l)
 (R (.slice (some (aS c 0)) (Int.toNat (wrap .i64 a)) (Int.toNat (wrap .i64 a))) k))))
theorem W3(p0:Sl)(p1:Int)(H:@W77 h R p0 p1):Fn Pz 77 #[vS p0,vI p1] h R:=aU (A:=(.s .z (.j [] .z (.s .z (.j [] .z (.s .z (.s .z (.s (.b (.l [(8,.one (.int .i64))] .z)) .z)))))))) H
def W94(pa:ByteArray)(pb pc:Sl)(pd pe pf:Int)(pg ph:Sl)(m:Int)(N:Bool):Prop:=
 Wn h (L0 pa pb pc pd pe pf pg ph) 27 fun u=>
 Wn u [vI (-1)] 3 fun v=>
 ∃w,rI v (aS h 3) w /\
 Fn Pz 77 #[.slice (some (aS u 0)) 1 1,vI w] v
 (fun O P=>∃d,iS O d /\
 NB d.a fun Q S=>Ib m d.n /\
 Wp P ⟨Q,S+m.toNat*1,none⟩ 1 [vI 0] fun x=>
 Wn x [vI m] 3 fun T=>
 QS ⟨(some (aS x 0)),1,1⟩ T fun U y o V=>
 sB (decide ((y.n:Int)>0))
 (∃j,rS o (aS h 6) j /\
 sY y 0 o fun p b f g q=>
 sB (decide (f<(j.n:Int)))
 (NB j.a fun W X=>Ib f j.n /\
 ∃z A B C D E,mB g ⟨W,X+f.toNat*6,none⟩ z A B C D E /\
 Wn g [vI 0,vI 0,vI 0,vI 0,vI 0,.bool false] 67 fun Y=>
 Wp Y (aS g 0) 6 (L4 z A B C D E) fun k=>
 ∃r,rI k (aS g 0) r /\
 ∃s,rI k (aS g 4) s /\
 ∃t:Int->Int->Heap->Prop,
 (sB N
 (t s r k)
 (t r s k)) /\
 ∀(_:Env) (l i:Int) (e:Heap),t l i e ->
 (NB b.a fun Z a0=>Ib 0 b.n /\
 ∃F,rI e ⟨Z,a0+Int.toNat 0*1,none⟩ F /\
 sB (l==F)
 (NB d.a fun b0 c0=>Ib i d.n /\
 ∃G,rI e ⟨b0,c0+i.toNat*1,none⟩ G /\
 sB (decide (G<0))
 (NB d.a fun d0 e0=>Ib l d.n /\
 ∃H,rI e ⟨d0,e0+l.toNat*1,none⟩ H /\
 NB d.a fun f0 g0=>Ib i d.n /\
 Wp e ⟨f0,g0+i.toNat*1,none⟩ 1 [vI (wrap .i64 (H+1))] fun I=>
 Wn I [vI i] 3 fun h0=>
 App Pz 102 102 (vS b) (.slice (some (aS I 0)) 1 1) h0 fun i0 j0=>
 ∃J,J<q/\p i0 (wrap .i64 (f+1)) j0 J)
 (∃K,K<q/\p b (wrap .i64 (f+1)) e K))
 (∃L,L<q/\p b (wrap .i64 (f+1)) e L)))
 (((0:Int)<=(1:Int)/\(1:Int)<=((b.n:Nat):Int)/\((b.n:Nat):Int)<=(b.c:Nat)) /\
 ∃M,M<V/\U ⟨(bg b.a (Int.toNat 1) b.c 1),(Int.toNat (b.n:Nat)-Int.toNat 1),(b.c-Int.toNat 1)⟩ g M))
 (R (vS d) o))
theorem WM(pa:ByteArray)(pb pc:Sl)(pd pe pf:Int)(pg ph:Sl)(p1:Int)(p2:Bool)(H:@W94 h R pa pb pc pd pe pf pg ph p1 p2):Fn Pz 94 #[.agg ⟨(L0 pa pb pc pd pe pf pg ph)⟩,vI p1,.bool p2] h R:=aU (A:=(.s .z (.s .z (.s .z (.s (.s .z (.b (.l [(8,.one (.slice))] (.s .z (.s (.b (.s .z (.b (.l [(8,.one (.slice)),(30,.one (.int .i64))] (.s .z (.s .z (.s (.b (.s .z (.s .z (.j [(11,.one (.int .i64)),(12,.one (.int .i64))] .z .z)))) .z))))))) .z))))) .z))))) H
def W40(pa:ByteArray)(pb pc:Sl)(pd pe pf:Int)(pg ph:Sl):Prop:=
 Wn h (L0 pa pb pc pd pe pf pg ph) 27 fun g=>
 ∃i j k l m n o p,eT g (aS h 0) i j k l m n o p /\
 Fn Pz 88 #[.agg ⟨(L0 i j k l m n o p)⟩] g
 (fun r0 c=>∃q,iB r0 q /\
 sB q
 (∃r s t u v w x y,eT c (aS h 0) r s t u v w x y /\
 Fn Pz 89 #[.agg ⟨(L0 r s t u v w x y)⟩] c
 (fun s0 d=>∃z,iB s0 z /\
 sB z
 (∃A,rS d (aS h 2) A /\
 Fn Pz 90 #[vS A] d
 (fun t0 e=>∃B,iB t0 B /\
 sB B
 (∃C D E F G H I J,eT e (aS h 0) C D E F G H I J /\
 Fn Pz 91 #[.agg ⟨(L0 C D E F G H I J)⟩] e
 (fun u0 f=>∃K,iB u0 K /\
 sB K
 (∃L M N O P Q S T,eT f (aS h 0) L M N O P Q S T /\
 Fn Pz 92 #[.agg ⟨(L0 L M N O P Q S T)⟩] f
 (fun v0 a=>∃U,iB v0 U /\
 sB U
 (∃V W X Y Z a0 b0 c0,eT a (aS h 0) V W X Y Z a0 b0 c0 /\
 ∃d0,rI a (aS h 4) d0 /\
 Fn Pz 94 #[.agg ⟨(L0 V W X Y Z a0 b0 c0)⟩,vI d0,.bool false] a
 (fun w0 x0=>∃e0,iS w0 e0 /\
 Fn Pz 93 #[vS e0,vI (-1)] x0
 (fun y0 b=>∃f0,iB y0 f0 /\
 sB (!f0)
 (∃g0 h0 i0 j0 k0 l0 m0 n0,eT b (aS h 0) g0 h0 i0 j0 k0 l0 m0 n0 /\
 ∃o0,rI b (aS h 5) o0 /\
 Fn Pz 94 #[.agg ⟨(L0 g0 h0 i0 j0 k0 l0 m0 n0)⟩,vI o0,.bool true] b
 (fun z0 A0=>∃p0,iS z0 p0 /\
 Fn Pz 93 #[vS p0,vI (-1)] A0
 (fun B0 C0=>∃q0,iB B0 q0 /\
 R (.bool (!q0)) C0)))
 (R (.bool false) b))))
 (R (.bool false) a)))
 (R (.bool false) f)))
 (R (.bool false) e)))
 (R (.bool false) d)))
 (R (.bool false) c))
theorem Xh(pa:ByteArray)(pb pc:Sl)(pd pe pf:Int)(pg ph:Sl)(H:@W40 h R pa pb pc pd pe pf pg ph):Fn Pz 40 #[.agg ⟨(L0 pa pb pc pd pe pf pg ph)⟩] h R:=aU (A:=.z) H
end Go.VC
end

section
namespace Go.VC
open Go.Proofs IntKind

end Go.VC
end

section
namespace Go.VC
open Go.Proofs IntKind
variable {h:Heap} {R:Value->Heap->Prop}
def N2(a t h:Heap)(R:Value->Heap->Prop):Prop:=
 ∃b c d e f g i j,eT a (aS t 0) b c d e f g i j/\Wp a (aS h 0) 8 (L0 b c d e f g i j) fun k=>∃l m n o p q r s,eT k (aS h 0) l m n o p q r s/\R (.agg ⟨(L0 l m n o p q r s)⟩) k
def W38(p0:Bool):Prop:=
 Wn h [.string ⟨#[]⟩,vN,vN,vI 0,vI 0,vI 0,vN,vN] 27 fun b=>Wn b [.string ⟨#[112]⟩,.string ⟨#[113]⟩,.string ⟨#[114]⟩] 9 fun c=>Wn c [.string ⟨#[97]⟩,vN,vI 0,vN,vN,.string ⟨#[98]⟩,vN,vI 0,vN,vN,.string ⟨#[99]⟩,vN,vI 0,vN,vN,.string ⟨#[100]⟩,vN,vI 0,vN,vN] 171 fun a=>Wn a [.string ⟨#[]⟩,vN,vN,vI 0,vI 0,vI 0,vN,vN] 27 fun h4=>Wp h4 (aS a 0) 8 [.string ⟨#[101]⟩,.slice (some (aS b 0)) 3 3,.slice (some (aS c 0)) 4 4,vI 4,vI 0,vI 3,vN,vN] fun h5=>Fn Pz 87 #[vI 0,vI 0,vI 1,vI 0,vI 1] h5 (fun v6 u0=>∃(d e f g i:Int) (j:Bool),v6=.agg ⟨(L4 d e f g i j)⟩/\Fn Pz 87 #[vI 0,vI 0,vI 1,vI 1,vI 2] u0 (fun v0 w0=>∃(k l m n o:Int) (p:Bool),v0=.agg ⟨(L4 k l m n o p)⟩/\Fn Pz 87 #[vI 1,vI 2,vI 1,vI 2,vI 3] w0 (fun x0 y0=>∃(q r s t u:Int) (v:Bool),x0=.agg ⟨(L4 q r s t u v)⟩/\Fn Pz 87 #[vI 2,vI 2,vI 1,vI 3,vI 3] y0 (fun z0 w=>∃(x y z A B:Int) (C:Bool),z0=.agg ⟨(L4 x y z A B C)⟩/\Wn w [vI d,vI e,vI f,vI g,vI i,.bool j,vI k,vI l,vI m,vI n,vI o,.bool p,vI q,vI r,vI s,vI t,vI u,.bool v,vI x,vI y,vI z,vI A,vI B,.bool C] 67 fun A0=>Wp A0 (aS a 6) 1 [.slice (some (aS w 0)) 4 4] fun D=>sB p0 (Wp D (aS a 3) 1 [vI 6] fun B0=>Wp B0 (aS a 5) 1 [vI 5] fun C0=>Fn Pz 87 #[vI 0,vI 0,vI 1,vI 0,vI 1] C0 (fun D0 E0=>∃(E F G H I:Int) (J:Bool),D0=.agg ⟨(L4 E F G H I J)⟩/\Fn Pz 87 #[vI 0,vI 0,vI 1,vI 1,vI 2] E0 (fun F0 G0=>∃(K L M N O:Int) (P:Bool),F0=.agg ⟨(L4 K L M N O P)⟩/\Fn Pz 87 #[vI 1,vI 1,vI 2,vI 0,vI 3] G0 (fun H0 I0=>∃(Q S T U V:Int) (W:Bool),H0=.agg ⟨(L4 Q S T U V W)⟩/\Fn Pz 87 #[vI 2,vI 1,vI 2,vI 1,vI 4] I0 (fun J0 K0=>∃(X Y Z a0 b0:Int) (c0:Bool),J0=.agg ⟨(L4 X Y Z a0 b0 c0)⟩/\Fn Pz 87 #[vI 3,vI 2,vI 1,vI 2,vI 5] K0 (fun L0 M0=>∃(d0 e0 f0 g0 h0:Int) (i0:Bool),L0=.agg ⟨(L4 d0 e0 f0 g0 h0 i0)⟩/\Fn Pz 87 #[vI 4,vI 2,vI 1,vI 3,vI 5] M0 (fun N0 j0=>∃(k0 l0 m0 n0 o0:Int) (p0:Bool),N0=.agg ⟨(L4 k0 l0 m0 n0 o0 p0)⟩/\Wn j0 [vI E,vI F,vI G,vI H,vI I,.bool J,vI K,vI L,vI M,vI N,vI O,.bool P,vI Q,vI S,vI T,vI U,vI V,.bool W,vI X,vI Y,vI Z,vI a0,vI b0,.bool c0,vI d0,vI e0,vI f0,vI g0,vI h0,.bool i0,vI k0,vI l0,vI m0,vI n0,vI o0,.bool p0] 67 fun O0=>Wp O0 (aS a 6) 1 [.slice (some (aS j0 0)) 6 6] fun P0=>N2 P0 a h R))))))) (N2 D a h R)))))
theorem Xj(p0:Bool)(H:@W38 h R p0):Fn Pz 38 #[.bool p0] h R:=aU (A:=.z) H
def W87(i j k l m:Int):Prop:=
 Wn h [vI 0,vI 0,vI 0,vI 0,vI 0,.bool false] 67 fun n=>
 Wp n (aS h 0) 6 [vI i,vI j,vI k,vI l,vI m,.bool false] fun a=>
 ∃b c d e f g,mB a (aS h 0) b c d e f g /\
 R (.agg ⟨(L4 b c d e f g)⟩) a
theorem WV(p0 p1 p2 p3 p4:Int)(H:@W87 h R p0 p1 p2 p3 p4):Fn Pz 87 #[vI p0,vI p1,vI p2,vI p3,vI p4] h R:=aU (A:=.z) H
def W13(pa:ByteArray)(pb pc:Sl)(pd pe pf:Int)(pg ph:Sl):Prop:=
 Wn h (L0 pa pb pc pd pe pf pg ph) 27 fun b=>
 ∃c d e f g i j k,eT b (aS h 0) c d e f g i j k /\
 Fn Pz 39 #[.agg ⟨(L0 c d e f g i j k)⟩] b
 (fun n a=>∃l,iB n l /\
 sB l
 (∃m,rI a (aS h 3) m /\
 R (.bool (decide (m<=25))) a)
 (R (.bool false) a))
theorem Xq(pa:ByteArray)(pb pc:Sl)(pd pe pf:Int)(pg ph:Sl)(H:@W13 h R pa pb pc pd pe pf pg ph):Fn Pz 13 #[.agg ⟨(L0 pa pb pc pd pe pf pg ph)⟩] h R:=aU (A:=.z) H
def W39(pa:ByteArray)(pb pc:Sl)(pd pe pf:Int)(pg ph:Sl):Prop:=
 Wn h (L0 pa pb pc pd pe pf pg ph) 27 fun a=>
 ∃b,rS a (aS h 6) b /\
 sB (decide ((b.n:Int)<=50))
 (∃c,rS a (aS h 1) c /\
 sB (decide ((c.n:Int)<=6))
 (∃d,rS a (aS h 2) d /\
 sB (decide ((d.n:Int)<=40))
 (∃e,rS a (aS h 7) e /\
 R (.bool (decide ((e.n:Int)<=50))) a)
 (R (.bool false) a))
 (R (.bool false) a))
 (R (.bool false) a)
theorem Xi(pa:ByteArray)(pb pc:Sl)(pd pe pf:Int)(pg ph:Sl)(H:@W39 h R pa pb pc pd pe pf pg ph):Fn Pz 39 #[.agg ⟨(L0 pa pb pc pd pe pf pg ph)⟩] h R:=aU (A:=.z) H
def W17(pa:ByteArray)(pb pc:Sl)(pd pe pf:Int)(pg ph:Sl):Prop:=
 Wn h (L0 pa pb pc pd pe pf pg ph) 27 fun e=>
 ∃f g i j k l m n,eT e (aS h 0) f g i j k l m n /\
 Fn Pz 43 #[.agg ⟨(L0 f g i j k l m n)⟩] e
 (fun a0 a=>∃o,iB a0 o /\
 sB o
 (∃p q r s t u v w,eT a (aS h 0) p q r s t u v w /\
 Fn Pz 44 #[.agg ⟨(L0 p q r s t u v w)⟩] a
 (fun b0 b=>∃x,iB b0 x /\
 sB x
 (∃y z A B C D E F,eT b (aS h 0) y z A B C D E F /\
 Fn Pz 45 #[.agg ⟨(L0 y z A B C D E F)⟩] b
 (fun c0 c=>∃G,iB c0 G /\
 sB G
 (∃H I J K L M N O,eT c (aS h 0) H I J K L M N O /\
 Fn Pz 46 #[.agg ⟨(L0 H I J K L M N O)⟩] c
 (fun d0 d=>∃P,iB d0 P /\
 sB P
 (∃Q S T U V W X Y,eT d (aS h 0) Q S T U V W X Y /\
 Fn Pz 47 #[.agg ⟨(L0 Q S T U V W X Y)⟩] d
 (fun e0 f0=>∃Z,iB e0 Z /\
 R (.bool Z) f0))
 (R (.bool false) d)))
 (R (.bool false) c)))
 (R (.bool false) b)))
 (R (.bool false) a))
theorem Xo(pa:ByteArray)(pb pc:Sl)(pd pe pf:Int)(pg ph:Sl)(H:@W17 h R pa pb pc pd pe pf pg ph):Fn Pz 17 #[.agg ⟨(L0 pa pb pc pd pe pf pg ph)⟩] h R:=aU (A:=.z) H
def W43(pa:ByteArray)(pb pc:Sl)(pd pe pf:Int)(pg ph:Sl):Prop:=
 Wn h (L0 pa pb pc pd pe pf pg ph) 27 fun z=>
 QI 0 z fun A b d B=>
 ∃j,rS d (aS h 1) j /\
 sB (decide (b<(j.n:Int)))
 (∃f,rS d (aS h 1) f /\
 NB f.a fun k l=>Ib b f.n /\
 ∃m,rT d ⟨k,l+b.toNat*1,none⟩ m /\
 Fn Pz 100 #[.string m] d
 (fun C e=>∃o,iB C o /\
 sB (!o)
 (R (.bool false) e)
 (∃p,rS e (aS h 1) p /\
 ∃g,rS e (aS h 1) g /\
 NB g.a fun D E=>Ib b g.n /\
 ∃q,rT e ⟨D,E+b.toNat*1,none⟩ q /\
 Fn Pz 101 #[vS p,.string q] e
 (fun F i=>∃r,iI F r /\
 Sm [⟨k,l+b.toNat*1,none⟩,(aS h 1)] e i /\
 sB (decide (r<b))
 (R (.bool false) i)
 (∃s,s<B/\A (wrap .i64 (b+1)) i s)))))
 (∃t,rT d (aS h 0) t /\
 Fn Pz 100 #[.string t] d
 (fun G c=>∃u,iB G u /\
 sB u
 (∃v,rS c (aS h 1) v /\
 sB (decide ((v.n:Int)>=1))
 (∃w,rS c (aS h 1) w /\
 sB (decide ((w.n:Int)<=6))
 (∃x,rS c (aS h 2) x /\
 Fn Pz 102 #[vS x] c
 (fun H I=>∃y,iB H y /\
 R (.bool y) I))
 (R (.bool false) c))
 (R (.bool false) c))
 (R (.bool false) c)))
theorem Xf(pa:ByteArray)(pb pc:Sl)(pd pe pf:Int)(pg ph:Sl)(H:@W43 h R pa pb pc pd pe pf pg ph):Fn Pz 43 #[.agg ⟨(L0 pa pb pc pd pe pf pg ph)⟩] h R:=aU (A:=(.s .z (.s (AI 3) .z))) H
def W44(pa:ByteArray)(pb pc:Sl)(pd pe pf:Int)(pg ph:Sl):Prop:=
 Wn h (L0 pa pb pc pd pe pf pg ph) 27 fun h9=>
 QI 0 h9 fun x0 d b y0=>
 ∃k,rS b (aS h 6) k /\
 sB (decide (d<(k.n:Int)))
 (∃g,rS b (aS h 6) g /\
 NB g.a fun z0 A0=>Ib d g.n /\
 ∃l m o p q r,mB b ⟨z0,A0+d.toNat*6,none⟩ l m o p q r /\
 Wn b [vI 0,vI 0,vI 0,vI 0,vI 0,.bool false] 67 fun B0=>
 Wp B0 (aS b 0) 6 (L4 l m o p q r) fun i=>
 ∃s t u v w x y z,eT i (aS h 0) s t u v w x y z /\
 ∃A,rI i (aS b 0) A /\
 Fn Pz 103 #[.agg ⟨(L0 s t u v w x y z)⟩,vI A] i
 (fun C0 e=>∃B,iB C0 B /\
 sB (!B)
 (R (.bool false) e)
 (∃C D E F G H I J,eT e (aS h 0) C D E F G H I J /\
 ∃K,rI e (aS b 4) K /\
 Fn Pz 103 #[.agg ⟨(L0 C D E F G H I J)⟩,vI K] e
 (fun D0 c=>∃L,iB D0 L /\
 sB (!L)
 (R (.bool false) c)
 (∃M,rI c (aS b 1) M /\
 sB (decide (M<0))
 (R (.bool false) c)
 (∃N,rI c (aS b 1) N /\
 ∃O,rS c (aS h 1) O /\
 sB (decide (N>=(O.n:Int)))
 (R (.bool false) c)
 (∃P,rI c (aS b (1+1)) P /\
 sB (decide (P<0))
 (R (.bool false) c)
 (∃Q,rI c (aS b (1+1)) Q /\
 ∃S,rS c (aS h 1) S /\
 sB (decide (Q>=(S.n:Int)))
 (R (.bool false) c)
 (∃T,rI c (aS b 1) T /\
 ∃U,rI c (aS b (1+1)) U /\
 sB (T==U)
 (R (.bool false) c)
 (∃V,rI c (aS b (1+2)) V /\
 sB (decide (V<0))
 (R (.bool false) c)
 (∃W,rI c (aS b (1+2)) W /\
 ∃X,rS c (aS h 2) X /\
 sB (decide (W>=(X.n:Int)))
 (R (.bool false) c)
 (∃Y,Y<y0/\x0 (wrap .i64 (d+1)) c Y))))))))))))
 (∃Z,rI b (aS h 3) Z /\
 sB (decide (Z>=1))
 (∃a0,rI b (aS h 3) a0 /\
 sB (decide (a0<=200))
 (∃b0 c0 d0 e0 f0 g0 h0 i0,eT b (aS h 0) b0 c0 d0 e0 f0 g0 h0 i0 /\
 ∃j0,rI b (aS h 4) j0 /\
 Fn Pz 103 #[.agg ⟨(L0 b0 c0 d0 e0 f0 g0 h0 i0)⟩,vI j0] b
 (fun E0 f=>∃k0,iB E0 k0 /\
 sB k0
 (∃l0 m0 n0 o0 p0 q0 r0 s0,eT f (aS h 0) l0 m0 n0 o0 p0 q0 r0 s0 /\
 ∃t0,rI f (aS h 5) t0 /\
 Fn Pz 103 #[.agg ⟨(L0 l0 m0 n0 o0 p0 q0 r0 s0)⟩,vI t0] f
 (fun F0 j=>∃u0,iB F0 u0 /\
 sB u0
 (∃v0,rS j (aS h 6) v0 /\
 R (.bool (decide ((v0.n:Int)<=400))) j)
 (R (.bool false) j)))
 (R (.bool false) f)))
 (R (.bool false) b))
 (R (.bool false) b))
theorem Xe(pa:ByteArray)(pb pc:Sl)(pd pe pf:Int)(pg ph:Sl)(H:@W44 h R pa pb pc pd pe pf pg ph):Fn Pz 44 #[.agg ⟨(L0 pa pb pc pd pe pf pg ph)⟩] h R:=aU (A:=(.s .z (.s (AI 3) .z))) H
def Jx(a b c:Heap)(R:Value->Heap->Prop)(d:Nat)(e:Int->Heap->Nat->Prop)(f:Int):Prop:=
 ∃g,rB a (aS b 5) g/\sB g (∃h,rI a (aS c 4) h/\∃i,rI a (aS b 0) i/\sB (h==i) (∃j,rI a (aS c 1) j/\∃k,rI a (aS b 1) k/\sB (j != k) (R (.bool false) a) (∃l,rI a (aS c (1+2)) l/\∃m,rI a (aS b (1+2)) m/\sB (l != m) (R (.bool false) a) (∃n,n<d/\e (wrap .i64 (f+1)) a n))) (∃o,o<d/\e (wrap .i64 (f+1)) a o)) (∃p,p<d/\e (wrap .i64 (f+1)) a p)
def NY(E h:Heap)(j:Int)(d:Heap)(R:Value->Heap->Prop)(F:Nat)(G:Int->Heap->Nat->Prop):Prop:=
 QI 0 E fun f e c g=>∃k,rS c (aS h 6) k/\sB (decide (e<(k.n:Int))) (∃i,rS c (aS h 6) i/\NB i.a fun H I=>Ib e i.n/\∃l m o p q r,mB c ⟨H,I+e.toNat*6,none⟩ l m o p q r/\Wn c [vI 0,vI 0,vI 0,vI 0,vI 0,.bool false] 67 fun J=>Wp J (aS c 0) 6 (L4 l m o p q r) fun b=>sB (e != j) (∃s,rI b (aS d 0) s/\∃t,rI b (aS c 0) t/\sB (s==t) (∃u v w,jh b (aS d 1) u v w/\∃x y z,jh b (aS c 1) x y z/\sB ((u==x)&&((v==y)&&((w==z)&&true))) (R (.bool false) b) (∃A,rI b (aS d 1) A/\∃B,rI b (aS c 1) B/\sB (A != B) (R (.bool false) b) (∃C,rB b (aS d 5) C/\sB C (R (.bool false) b) (Jx b d c R g f e)))) (Jx b d c R g f e)) (Jx b d c R g f e)) (∃D,D<F/\G (wrap .i64 (j+1)) c D)
def W45(pa:ByteArray)(pb pc:Sl)(pd pe pf:Int)(pg ph:Sl):Prop:=
 Wn h (L0 pa pb pc pd pe pf pg ph) 27 fun t=>QI 0 t fun f d b g=>∃i,rS b (aS h 6) i/\sB (decide (d<(i.n:Int))) (∃e,rS b (aS h 6) e/\NB e.a fun u v=>Ib d e.n/\∃j k l m o p,mB b ⟨u,v+d.toNat*6,none⟩ j k l m o p/\Wn b [vI 0,vI 0,vI 0,vI 0,vI 0,.bool false] 67 fun w=>Wp w (aS b 0) 6 (L4 j k l m o p) fun c=>∃q,rB c (aS b 5) q/\sB q (∃r,rI c (aS b 0) r/\∃s,rI c (aS h 4) s/\sB (r==s) (R (.bool false) c) (NY c h d b R g f)) (NY c h d b R g f)) (R (.bool true) b)
theorem Xd(pa:ByteArray)(pb pc:Sl)(pd pe pf:Int)(pg ph:Sl)(H:@W45 h R pa pb pc pd pe pf pg ph):Fn Pz 45 #[.agg ⟨(L0 pa pb pc pd pe pf pg ph)⟩] h R:=aU (A:=(.s .z (.s (.s .z (.b (.l [(3,.one (.int .i64))] (.s .z (.s (.b (.s .z (.s .z (AI 5)))) .z))))) .z))) H
def W46(pa:ByteArray)(pb pc:Sl)(pd pe pf:Int)(pg ph:Sl):Prop:=
 Wn h (L0 pa pb pc pd pe pf pg ph) 27 fun f=>
 ∃c,rI f (aS h 3) c /\
 Mk c c 1/\Wn f (ah Pz 4 (c.toNat)) 4 fun s=>
 ∃j,rI s (aS h 4) j /\
 (0<=(j:Int)/\(j:Int)<((c.toNat):Nat)) /\
 Wp s (aS f (0+j.toNat*1)) 1 [.bool true] fun a0=>
 QI 0 a0 fun b0 t k c0=>
 ∃u,rI k (aS h 3) u /\
 sB (decide (t<u))
 (QI 0 k fun v d b w=>
 ∃x,rS b (aS h 6) x /\
 sB (decide (d<(x.n:Int)))
 (∃o,rS b (aS h 6) o /\
 NB o.a fun d0 e0=>Ib d o.n /\
 ∃g,rI b ⟨d0,e0+d.toNat*6+4,none⟩ g /\
 ∃p,rS b (aS h 6) p /\
 NB p.a fun f0 g0=>Ib d p.n /\
 ∃l,rI b ⟨f0,g0+d.toNat*6+4,none⟩ l /\
 (0<=(l:Int)/\(l:Int)<((c.toNat):Nat)) /\
 ∃y,rB b (aS f (0+l.toNat*1)) y /\
 sB y
 ((0<=(g:Int)/\(g:Int)<((c.toNat):Nat)) /\
 Wp b (aS f (0+g.toNat*1)) 1 [.bool true] fun h0=>
 ∃z,z<w/\v (wrap .i64 (d+1)) h0 z)
 (∃q,rS b (aS h 6) q /\
 NB q.a fun i0 j0=>Ib d q.n /\
 ∃m,rI b ⟨i0,j0+d.toNat*6,none⟩ m /\
 (0<=(m:Int)/\(m:Int)<((c.toNat):Nat)) /\
 ∃A,rB b (aS f (0+m.toNat*1)) A /\
 (0<=(g:Int)/\(g:Int)<((c.toNat):Nat)) /\
 Wp b (aS f (0+g.toNat*1)) 1 [.bool A] fun k0=>
 ∃B,B<w/\v (wrap .i64 (d+1)) k0 B))
 (∃C,C<c0/\b0 (wrap .i64 (t+1)) b C))
 (∃D E F G H I J K,eT k (aS h 0) D E F G H I J K /\
 Fn Pz 104 #[.agg ⟨(L0 D E F G H I J K)⟩] k
 (fun l0 m0=>∃r,iS l0 r /\
 QI 0 m0 fun n0 i e o0=>
 ∃L,rI e (aS h 3) L /\
 sB (decide (i<L))
 ((0<=(i:Int)/\(i:Int)<((c.toNat):Nat)) /\
 ∃M,rB e (aS f (0+i.toNat*1)) M /\
 sB (!M)
 (R (.bool false) e)
 (NB r.a fun p0 q0=>Ib i r.n /\
 ∃N,rI e ⟨p0,q0+i.toNat*1,none⟩ N /\
 sB (decide (N<0))
 (R (.bool false) e)
 (∃O,O<o0/\n0 (wrap .i64 (i+1)) e O)))
 (∃P Q S T U V W X,eT e (aS h 0) P Q S T U V W X /\
 ∃Y,rI e (aS h 5) Y /\
 Fn Pz 105 #[.agg ⟨(L0 P Q S T U V W X)⟩,vI Y] e
 (fun r0 s0=>∃Z,iS r0 Z /\
 R (.bool ((Z.n:Int)==0)) s0))))
theorem Xc(pa:ByteArray)(pb pc:Sl)(pd pe pf:Int)(pg ph:Sl)(H:@W46 h R pa pb pc pd pe pf pg ph):Fn Pz 46 #[.agg ⟨(L0 pa pb pc pd pe pf pg ph)⟩] h R:=aU (A:=(.s .z (.s .z (.s .z (.s (.s .z (.b (.l [(4,.one (.int .i64))] (.s .z (.s (.b (AI 5)) .z))))) (.s .z (.s (AI 7) .z))))))) H
def NX(b c:Heap)(R:Value->Heap->Prop)(h:Heap)(s:Nat)(t:Int->Heap->Nat->Prop)(u:Int):Prop:=
 ∃i,rI b (aS c 1) i/\sB (decide (i<1)) (R (.bool false) b) (∃j,rI b (aS c 1) j/\sB (decide (j>1000)) (R (.bool false) b) (∃k,rI b (aS c 2) k/\sB (decide (k<0)) (R (.bool false) b) (∃l,rI b (aS c 2) l/\∃m,rS b (aS h 6) m/\sB (decide (l>=(m.n:Int))) (R (.bool false) b) (∃d,rS b (aS h 6) d/\∃e,rI b (aS c 2) e/\NB d.a fun v w=>Ib e d.n/\∃o,rI b ⟨v,w+e.toNat*6,none⟩ o/\∃p,rI b (aS c 0) p/\sB (o != p) (R (.bool false) b) (∃f,rS b (aS h 6) f/\∃g,rI b (aS c 2) g/\NB f.a fun x y=>Ib g f.n/\∃q,rB b ⟨x,y+g.toNat*6+5,none⟩ q/\sB q (R (.bool false) b) (∃r,r<s/\t (wrap .i64 (u+1)) b r))))))
def W47(pa:ByteArray)(pb pc:Sl)(pd pe pf:Int)(pg ph:Sl):Prop:=
 Wn h (L0 pa pb pc pd pe pf pg ph) 27 fun B=>QI 0 B fun i c b j=>∃k,rS b (aS h 7) k/\sB (decide (c<(k.n:Int))) (∃e,rS b (aS h 7) e/\NB e.a fun C D=>Ib c e.n/\∃l m o,jh b ⟨C,D+c.toNat*3,none⟩ l m o/\Wn b [vI 0,vI 0,vI 0] 149 fun E=>Wp E (aS b 0) 3 (L2 l m o) fun f=>∃p q r s t u v w,eT f (aS h 0) p q r s t u v w/\∃x,rI f (aS b 0) x/\Fn Pz 103 #[.agg ⟨(L0 p q r s t u v w)⟩,vI x] f (fun F d=>∃y,iB F y/\sB (!y) (R (.bool false) d) (sB (decide (c>0)) (∃z,rI d (aS b 0) z/\∃g,rS d (aS h 7) g/\NB g.a fun G H=>(0<=((wrap .i64 (c-1)):Int)/\((wrap .i64 (c-1)):Int)<(g.n:Nat))/\∃A,rI d ⟨G,H+Int.toNat (wrap .i64 (c-1))*3,none⟩ A/\sB (decide (z<=A)) (R (.bool false) d) (NX d b R h j i c)) (NX d b R h j i c)))) (R (.bool true) b)
theorem Xb(pa:ByteArray)(pb pc:Sl)(pd pe pf:Int)(pg ph:Sl)(H:@W47 h R pa pb pc pd pe pf pg ph):Fn Pz 47 #[.agg ⟨(L0 pa pb pc pd pe pf pg ph)⟩] h R:=aU (A:=(.s .z (.s (AI 3) .z))) H
def Ve(a:ByteArray):Prop:=
 Fn Pz 176 #[.string a] h
 (fun f b=>∃c,iB f c /\
 sB c
 (Fn Pz 178 #[] b
 (fun g i=>∃d,iS g d /\
 Fn Pz 177 #[vS d,.string a] i
 (fun j k=>∃e,iB j e /\
 R (.bool (!e)) k)))
 (R (.bool false) b))
theorem QU(p0:ByteArray)(H:@Ve h R p0):Fn Pz 100 #[.string p0] h R:=aU (A:=.z) H
def Vd(d:Sl)(g:ByteArray):Prop:=
 QI 0 h fun i b c j=>
 sB (decide (b<(d.n:Int)))
 (NB d.a fun k l=>Ib b d.n /\
 ∃e,rT c ⟨k,l+b.toNat*1,none⟩ e /\
 sB ((ByteArray.toList e)==(ByteArray.toList g))
 (R (vI b) c)
 (∃f,f<j/\i (wrap .i64 (b+1)) c f))
 (R (vI (-1)) c)
theorem QT(p0:Sl)(p1:ByteArray)(H:@Vd h R p0 p1):Fn Pz 101 #[vS p0,.string p1] h R:=aU (A:=(.s .z (.s (AI 5) .z))) H
def Vc(d:Sl):Prop:=
 sB (decide ((d.n:Int)>40))
 (R (.bool false) h)
 (Fn Pz 179 #[vS d] h
 (fun v1 t=>∃u,iI v1 u /\
 sB (decide (u>24))
 (R (.bool false) t)
 (vR 0 0 t fun I4 v i b m6=>
 sB (decide (i<(d.n:Int)))
 (NB d.a fun d0 e0=>Ib i d.n /\
 ∃w x y z A,NN b ⟨d0,e0+i.toNat*5,none⟩ w x y z A /\
 Wn b [.string ⟨#[]⟩,vN,vI 0,vN,vN] 171 fun f0=>
 Wp f0 (aS b 0) 5 (L6 w x y z A) fun g0=>
 QI 0 g0 fun h0 k j i0=>
 sB (decide (k<i))
 (NB d.a fun j0 k0=>Ib k d.n /\
 ∃B,rT j ⟨j0,k0+k.toNat*5,none⟩ B /\
 ∃C,rT j (aS b 0) C /\
 sB ((ByteArray.toList B)==(ByteArray.toList C))
 (R (.bool false) j)
 (∃D,D<i0/\h0 (wrap .i64 (k+1)) j D))
 (QI 0 j fun l0 c g m0=>
 ∃E,rS g (aS b 1) E /\
 sB (decide (c<(E.n:Int)))
 (∃o,rS g (aS b 1) o /\
 NB o.a fun n0 o0=>Ib c o.n /\
 ∃F G H,jh g ⟨n0,o0+c.toNat*4+1,none⟩ F G H /\
 Fn Pz 180 #[.agg ⟨(L2 F G H)⟩] g
 (fun p0 l=>∃I,iB p0 I /\
 sB (!I)
 (R (.bool false) l)
 (∃p,rS l (aS b 1) p /\
 NB p.a fun q0 r0=>Ib c p.n /\
 ∃J,rT l ⟨q0,r0+c.toNat*4,none⟩ J /\
 Fn Pz 100 #[.string J] l
 (fun s0 K=>∃L,iB s0 L /\
 sB (!L)
 (R (.bool false) K)
 (QI 0 K fun t0 m e u0=>
 sB (decide (m<c))
 (∃q,rS e (aS b 1) q /\
 NB q.a fun v0 w0=>Ib m q.n /\
 ∃M,rT e ⟨v0,w0+m.toNat*4,none⟩ M /\
 ∃r,rS e (aS b 1) r /\
 NB r.a fun x0 y0=>Ib c r.n /\
 ∃N,rT e ⟨x0,y0+c.toNat*4,none⟩ N /\
 sB ((ByteArray.toList M)==(ByteArray.toList N))
 (R (.bool false) e)
 (∃O,O<u0/\t0 (wrap .i64 (m+1)) e O))
 (∃P,P<m0/\l0 (wrap .i64 (c+1)) e P))))))
 (∃Q,rT g (aS b 0) Q /\
 Fn Pz 181 #[.string Q] g
 (fun z0 f=>∃S,iB z0 S /\
 sB (!S)
 (R (.bool false) f)
 (∃T,rS f (aS b 1) T /\
 sB (decide ((T.n:Int)>4))
 (R (.bool false) f)
 (∃U,rI f (aS b 2) U /\
 sB (U != v)
 (R (.bool false) f)
 (∃(V W:Sl),a8 f (aS b 3) [vS V,vS W] /\
 Fn Pz 182 #[vS d,.agg ⟨[vS V,vS W]⟩] f
 (fun A0 s=>∃X,iB A0 X /\
 sB (!X)
 (R (.bool false) s)
 (∃Y,rS s (aS b 1) Y /\
 ∃Z,Z<m6/\I4 (wrap .i64 (v+(Y.n:Int))) (wrap .i64 (i+1)) s Z)))))))))
 (R (.bool true) b))))
theorem QR(p0:Sl)(H:@Vc h R p0):Fn Pz 102 #[vS p0] h R:=aU (A:=(.s .z (.s .z (.s .z (.s (.s .z (.b (.l [(3,.one (.int .i64)),(4,.one (.int .i64))] (.s .z (.s (.b (.s .z (.s (AI 6) (.s (.s .z (.b (.l [(7,.one (.int .i64))] (.s .z (.s (.b (.s .z (AI 8))) .z))))) .z)))) .z))))) .z))))) H
def Vb(pa:ByteArray)(pb pc:Sl)(pd pe pf:Int)(pg ph:Sl)(b:Int):Prop:=
 Wn h (L0 pa pb pc pd pe pf pg ph) 27 fun a=>
 sB (decide (b>=0))
 (∃c,rI a (aS h 3) c /\
 R (.bool (decide (b<c))) a)
 (R (.bool false) a)
theorem QQ(pa:ByteArray)(pb pc:Sl)(pd pe pf:Int)(pg ph:Sl)(p1:Int)(H:@Vb h R pa pb pc pd pe pf pg ph p1):Fn Pz 103 #[.agg ⟨(L0 pa pb pc pd pe pf pg ph)⟩,vI p1] h R:=aU (A:=.z) H
def Va(pa:ByteArray)(pb pc:Sl)(pd pe pf:Int)(pg ph:Sl):Prop:=
 Wn h (L0 pa pb pc pd pe pf pg ph) 27 fun d=>
 ∃b,rI d (aS h 3) b /\
 Mk b b 8/\Wn d (ah Pz 3 (b.toNat)) 3 fun J=>
 QI 0 J fun K g i L=>
 ∃t,rI i (aS h 3) t /\
 sB (decide (g<t))
 ((0<=(g:Int)/\(g:Int)<((b.toNat):Nat)) /\
 Wp i (aS d (0+g.toNat*1)) 1 [vI (-1)] fun M=>
 ∃u,u<L/\K (wrap .i64 (g+1)) M u)
 (∃j,rI i (aS h 5) j /\
 (0<=(j:Int)/\(j:Int)<((b.toNat):Nat)) /\
 Wp i (aS d (0+j.toNat*1)) 1 [vI 0] fun N=>
 QI 0 N fun O k p P=>
 ∃v,rI p (aS h 3) v /\
 sB (decide (k<v))
 (QI 0 p fun q f c r=>
 ∃w,rS c (aS h 6) w /\
 sB (decide (f<(w.n:Int)))
 (∃s,rS c (aS h 6) s /\
 NB s.a fun Q S=>Ib f s.n /\
 ∃x y z A B C,mB c ⟨Q,S+f.toNat*6,none⟩ x y z A B C /\
 Wn c [vI 0,vI 0,vI 0,vI 0,vI 0,.bool false] 67 fun T=>
 Wp T (aS c 0) 6 (L4 x y z A B C) fun e=>
 ∃l,rI e (aS c 4) l /\
 (0<=(l:Int)/\(l:Int)<((b.toNat):Nat)) /\
 ∃D,rI e (aS d (0+l.toNat*1)) D /\
 sB (D==k)
 (∃m,rI e (aS c 0) m /\
 (0<=(m:Int)/\(m:Int)<((b.toNat):Nat)) /\
 ∃E,rI e (aS d (0+m.toNat*1)) E /\
 sB (decide (E<0))
 (∃o,rI e (aS c 0) o /\
 (0<=(o:Int)/\(o:Int)<((b.toNat):Nat)) /\
 Wp e (aS d (0+o.toNat*1)) 1 [vI (wrap .i64 (k+1))] fun U=>
 ∃F,F<r/\q (wrap .i64 (f+1)) U F)
 (∃G,G<r/\q (wrap .i64 (f+1)) e G))
 (∃H,H<r/\q (wrap .i64 (f+1)) e H))
 (∃I,I<P/\O (wrap .i64 (k+1)) c I))
 (R (.slice (some (aS d 0)) (b.toNat) (b.toNat)) p))
theorem QP(pa:ByteArray)(pb pc:Sl)(pd pe pf:Int)(pg ph:Sl)(H:@Va h R pa pb pc pd pe pf pg ph):Fn Pz 104 #[.agg ⟨(L0 pa pb pc pd pe pf pg ph)⟩] h R:=aU (A:=(.s .z (.s .z (.s (AI 4) (.s .z (.s (.s .z (.b (.l [(5,.one (.int .i64))] (.s .z (.s (.b (AI 6)) .z))))) .z)))))) H
def GG(d:Int)(b:Sl)(e:Heap)(f:Int)(h:Nat)(i:Sl->Int->Heap->Nat->Prop):Prop:=
 ((0:Int)<=(0:Int)/\(0:Int)<=(d:Int)/\(d:Int)<=(b.c:Nat))/\((0:Int)<=(d:Int)/\(d:Int)<=((b.n:Nat):Int)/\((b.n:Nat):Int)<=(b.c:Nat))/\Wn e [vI f] 3 fun j=>App Pz 102 102 (.slice (some (aS e 0)) 1 1) (.slice (bg b.a (d.toNat) b.c 1) (Int.toNat (b.n:Nat)-d.toNat) (b.c-d.toNat)) j fun k l=>App Pz 102 102 (.slice (bg b.a (Int.toNat 0) b.c 1) (d.toNat-Int.toNat 0) (b.c-Int.toNat 0)) (vS k) l fun m o=>∃g,g<h/\i m (wrap .i64 (f+1)) o g
def U9(pa:ByteArray)(pb pc:Sl)(pd pe pf:Int)(pg ph:Sl)(A:Int):Prop:=
 Wn h (L0 pa pb pc pd pe pf pg ph) 27 fun B=>sY ⟨none,0,0⟩ 0 B fun g b c d i=>∃k,rS d (aS h 6) k/\sB (decide (c<(k.n:Int))) (∃j,rS d (aS h 6) j/\NB j.a fun C D=>Ib c j.n/\∃l,rI d ⟨C,D+c.toNat*6,none⟩ l/\sB (l != A) (∃m,m<i/\g b (wrap .i64 (c+1)) d m) (QI 0 d fun E e f F=>sB (decide (e<(b.n:Int))) (∃o p q r s t u v,eT f (aS h 0) o p q r s t u v/\NB b.a fun G H=>Ib e b.n/\∃w,rI f ⟨G,H+e.toNat*1,none⟩ w/\Fn Pz 183 #[.agg ⟨(L0 o p q r s t u v)⟩,vI w,vI c] f (fun I x=>∃y,iB I y/\sB y (∃z,z<F/\E (wrap .i64 (e+1)) x z) (GG e b x c i g))) (GG e b f c i g))) (R (vS b) d)
theorem QO(pa:ByteArray)(pb pc:Sl)(pd pe pf:Int)(pg ph:Sl)(p1:Int)(H:@U9 h R pa pb pc pd pe pf pg ph p1):Fn Pz 105 #[.agg ⟨(L0 pa pb pc pd pe pf pg ph)⟩,vI p1] h R:=aU (A:=(.s .z (.s .z (.s (.s .z (.b (.l [(5,.one (.slice)),(6,.one (.int .i64))] (.s .z (.s (.b (.s .z (.s .z (.s (.b (.l [(7,.one (.int .i64))] .z)) .z)))) .z))))) .z)))) H
def Ux(a:ByteArray):Prop:=
 sB ((ByteArray.toList a)==(ByteArray.toList ⟨#[]⟩))
 (R (.bool false) h)
 ((0<=(0:Int)/\(0:Int)<(ByteArray.size a:Nat)) /\
 Fn Pz 227 #[.int .u8 (ga a (Int.toNat 0):Int)] h
 (fun j c=>∃d,iB j d /\
 sB (!d)
 (R (.bool false) c)
 (sB (decide ((ByteArray.size a:Int)>16))
 (R (.bool false) c)
 (QI 0 c fun k b e l=>
 sB (decide (b<(ByteArray.size a:Int)))
 ((0<=(b:Int)/\(b:Int)<(ByteArray.size a:Nat)) /\
 Fn Pz 228 #[.int .u8 (ga a (b.toNat):Int)] e
 (fun m f=>∃g,iB m g /\
 sB (!g)
 (R (.bool false) f)
 (∃i,i<l/\k (wrap .i64 (b+1)) f i)))
 (R (.bool true) e)))))
theorem Qd(p0:ByteArray)(H:@Ux h R p0):Fn Pz 176 #[.string p0] h R:=aU (A:=(.s .z (.s .z (.s (AI 3) .z)))) H
def Uw(d:Sl)(g:ByteArray):Prop:=
 QI 0 h fun i b c j=>
 sB (decide (b<(d.n:Int)))
 (NB d.a fun k l=>Ib b d.n /\
 ∃e,rT c ⟨k,l+b.toNat*1,none⟩ e /\
 sB ((ByteArray.toList e)==(ByteArray.toList g))
 (R (.bool true) c)
 (∃f,f<j/\i (wrap .i64 (b+1)) c f))
 (R (.bool false) c)
theorem Qc(p0:Sl)(p1:ByteArray)(H:@Uw h R p0 p1):Fn Pz 177 #[vS p0,.string p1] h R:=aU (A:=(.s .z (.s (AI 5) .z))) H
def Uv :Prop:=
 Wn h [.string ⟨#[97,103,97,105,110]⟩,.string ⟨#[97,110,100]⟩,.string ⟨#[97,115]⟩,.string ⟨#[97,116]⟩,.string ⟨#[99,97,108,108]⟩,.string ⟨#[99,104,111,105,99,101]⟩,.string ⟨#[101,108,115,101]⟩,.string ⟨#[102,114,111,109]⟩,.string ⟨#[105,102]⟩,.string ⟨#[105,110,116]⟩,.string ⟨#[108,101,110]⟩,.string ⟨#[108,111,111,112]⟩,.string ⟨#[109,101,115,115,97,103,101]⟩,.string ⟨#[111,102]⟩,.string ⟨#[111,102,102,101,114]⟩,.string ⟨#[111,110]⟩,.string ⟨#[111,114]⟩,.string ⟨#[112,97,114]⟩,.string ⟨#[112,108,97,121,115]⟩,.string ⟨#[112,114,111,116,111,99,111,108]⟩,.string ⟨#[115,101,114,118,105,99,101]⟩,.string ⟨#[116,101,120,116]⟩,.string ⟨#[116,105,109,101,115]⟩,.string ⟨#[116,111]⟩,.string ⟨#[118,97,114]⟩,.string ⟨#[119,104,101,114,101]⟩,.string ⟨#[119,104,105,108,101]⟩,.string ⟨#[119,105,116,104,105,110]⟩] 9 fun a=>
 R (.slice (some (aS h 0)) 28 28) a
theorem Qb  (H:@Uv h R ):Fn Pz 178 #[] h R:=aU (A:=.z) H
def Uu(c:Sl):Prop:=
 vR 0 0 h fun i e b d j=>
 sB (decide (b<(c.n:Int)))
 (NB c.a fun k l=>Ib b c.n /\
 ∃f,rS d ⟨k,l+b.toNat*5+1,none⟩ f /\
 ∃g,g<j/\i (wrap .i64 (e+(f.n:Int))) (wrap .i64 (b+1)) d g)
 (R (vI e) d)
theorem Qa(p0:Sl)(H:@Uu h R p0):Fn Pz 179 #[vS p0] h R:=aU (A:=(.s .z (.s .z (.s (.s .z (.b (.l [(3,.one (.int .i64)),(4,.one (.int .i64))] .z))) .z)))) H
def GC(a h:Heap)(f g:Int)(R:Value->Heap->Prop):Prop:=
 ∃b,rI a (aS h 1) b/\sB (decide (b>=f)) (∃c,rI a (aS h 2) c/\sB (decide (c<=g)) (∃d,rI a (aS h 1) d/\∃e,rI a (aS h 2) e/\R (.bool (decide (d<=e))) a) (R (.bool false) a)) (R (.bool false) a)
def Ut(pa pb pc:Int):Prop:=
 Wn h (L2 pa pb pc) 258 fun b=>∃c:Int->Int->Heap->Prop,(∃f,rI b (aS h 0) f/\sB (f==2) (c 0 40 b) (c (-1000) 1000 b))/\∀(_:Env) (d e:Int) (a:Heap),c d e a->(∃g,rI a (aS h 0) g/\sB (g==1) (GC a h d e R) (∃i,rI a (aS h 0) i/\sB (i==2) (GC a h d e R) (R (.bool false) a)))
theorem P9(pa pb pc:Int)(H:@Ut h R pa pb pc):Fn Pz 180 #[.agg ⟨(L2 pa pb pc)⟩] h R:=aU (A:=(.s .z (.s .z (.j [(3,.one (.int .i64)),(4,.one (.int .i64))] .z .z)))) H
def GB(b a:Int)(c:ByteArray)(g:Heap)(R:Value->Heap->Prop)(h:Nat)(i:Int->Int->Heap->Nat->Prop):Prop:=
 ((0:Int)<=(b:Int)/\(b:Int)<=(a:Int)/\(a:Int)<=(ByteArray.size c:Nat))/\Fn Pz 229 #[.string (ByteArray.extract c (b.toNat) (a.toNat))] g (fun j d=>∃e,iB j e/\sB (!e) (R (.bool false) d) (∃f,f<h/\i (wrap .i64 (a+1)) (wrap .i64 (a+1)) d f))
def Us(b:ByteArray):Prop:=
 vR 0 0 h fun d e a c f=>sB (decide (a<=(ByteArray.size b:Int))) (sB (a==(ByteArray.size b:Int)) (GB e a b c R f d) ((0<=(a:Int)/\(a:Int)<(ByteArray.size b:Nat))/\sB ((ga b (a.toNat):Int)==46) (GB e a b c R f d) (∃g,g<f/\d e (wrap .i64 (a+1)) c g))) (R (.bool (decide ((ByteArray.size b:Int)<=50))) c)
theorem P8(p0:ByteArray)(H:@Us h R p0):Fn Pz 181 #[.string p0] h R:=aU (A:=(.s .z (.s .z (.s (.s .z (.b (.l [(3,.one (.int .i64)),(4,.one (.int .i64))] .z))) .z)))) H
def Ur(i pa pb:Sl):Prop:=
 Wn h [vS pa,vS pb] 169 fun I=>
 Fn Pz 179 #[vS i] I
 (fun J K=>∃j,iI J j /\
 QI 0 K fun L f c M=>
 ∃o,rS c (aS h 0) o /\
 sB (decide (f<(o.n:Int)))
 (∃k,rS c (aS h 0) k /\
 NB k.a fun N O=>Ib f k.n /\
 ∃p q r,jh c ⟨N,O+f.toNat*3,none⟩ p q r /\
 Wn c [vI 0,vI 0,vI 0] 263 fun P=>
 Wp P (aS c 0) 3 (L2 p q r) fun b=>
 ∃s,rI b (aS c 0) s /\
 sB (decide (s<(-1)))
 (R (.bool false) b)
 (∃t,rI b (aS c 0) t /\
 sB (decide (t>=j))
 (R (.bool false) b)
 (∃u,rI b (aS c 1) u /\
 sB (decide (u<(-1)))
 (R (.bool false) b)
 (∃v,rI b (aS c 1) v /\
 sB (decide (v>=j))
 (R (.bool false) b)
 (∃w,rI b (aS c 2) w /\
 sB (decide (w<(-20000)))
 (R (.bool false) b)
 (∃x,rI b (aS c 2) x /\
 sB (decide (x>20000))
 (R (.bool false) b)
 (∃y,y<M/\L (wrap .i64 (f+1)) b y)))))))
 (QI 0 c fun Q e d S=>
 ∃z,rS d (aS h 1) z /\
 sB (decide (e<(z.n:Int)))
 (∃l,rS d (aS h 1) l /\
 NB l.a fun T U=>Ib e l.n /\
 Ib 0 2 /\
 ∃A,rI d ⟨T,U+e.toNat*2+Int.toNat 0*1,none⟩ A /\
 Fn Pz 230 #[vS i,vI A] d
 (fun V g=>∃B,iB V B /\
 sB (!B)
 (R (.bool false) g)
 (∃m,rS g (aS h 1) m /\
 NB m.a fun W X=>Ib e m.n /\
 Ib 1 2 /\
 ∃C,rI g ⟨W,X+e.toNat*2+Int.toNat 1*1,none⟩ C /\
 Fn Pz 230 #[vS i,vI C] g
 (fun Y D=>∃E,iB Y E /\
 sB (!E)
 (R (.bool false) D)
 (∃F,F<S/\Q (wrap .i64 (e+1)) D F)))))
 (∃G,rS d (aS h 0) G /\
 sB (decide ((G.n:Int)<=20))
 (∃H,rS d (aS h 1) H /\
 R (.bool (decide ((H.n:Int)<=20))) d)
 (R (.bool false) d))))
theorem P7(p0 pa pb:Sl)(H:@Ur h R p0 pa pb):Fn Pz 182 #[vS p0,.agg ⟨[vS pa,vS pb]⟩] h R:=aU (A:=(.s .z (.s .z (.s (AI 6) (.s (AI 8) .z))))) H
def GA(d b:Heap)(p q r:Int)(s t:Nat)(e:Int)(h c:Heap)(u v w:Int)(R:Value->Heap->Prop)(x:Int):Prop:=
 Wp d (aS b 0) 3 (L2 p q r) fun f=>Sm [⟨s,t+e.toNat*6+1,none⟩,(aS h 6)] d f/\Wp f (aS c 0) 3 (L2 u v w) fun a=>∃g,rI a (aS b 1) g/\∃i,rI a (aS c 1) i/\sB (g != i) (∃j,rI a (aS b 1) j/\∃k,rI a (aS c 1) k/\R (.bool (decide (j<k))) a) (∃l,rI a (aS b 2) l/\∃m,rI a (aS c 2) m/\sB (l != m) (∃n,rI a (aS b 2) n/\∃o,rI a (aS c 2) o/\R (.bool (decide (n<o))) a) (R (.bool (decide (x<e))) a))
def Uq(pa:ByteArray)(pb pc:Sl)(pd pe pf:Int)(pg ph:Sl)(c d:Int):Prop:=
 Wn h (L0 pa pb pc pd pe pf pg ph) 27 fun b=>∃l,rS b (aS h 6) l/\NB l.a fun g i=>Ib c l.n/\∃m o p,jh b ⟨g,i+c.toNat*6+1,none⟩ m o p/\∃q,rS b (aS h 6) q/\NB q.a fun e f=>Ib d q.n/\∃r s t,jh b ⟨e,f+d.toNat*6+1,none⟩ r s t/\(Wn b [vI 0,vI 0,vI 0] 65 fun j=>Sm [⟨e,f+d.toNat*6+1,none⟩,(aS h 6),⟨g,i+c.toNat*6+1,none⟩,(aS h 6)] b j/\Wn j [vI 0,vI 0,vI 0] 65 fun u=>Sm [⟨e,f+d.toNat*6+1,none⟩,(aS h 6),⟨g,i+c.toNat*6+1,none⟩,(aS h 6)] j u/\GA u b m o p e f d h j r s t R c)/\Wn b [vI 0,vI 0,vI 0] 65 fun k=>Sm [⟨e,f+d.toNat*6+1,none⟩,(aS h 6),⟨g,i+c.toNat*6+1,none⟩,(aS h 6)] b k/\Wn k [vI 0,vI 0,vI 0] 65 fun v=>Sm [⟨e,f+d.toNat*6+1,none⟩,(aS h 6),⟨g,i+c.toNat*6+1,none⟩,(aS h 6)] k v/\GA v k m o p e f d h b r s t R c
theorem P6(pa:ByteArray)(pb pc:Sl)(pd pe pf:Int)(pg ph:Sl)(p1 p2:Int)(H:@Uq h R pa pb pc pd pe pf pg ph p1 p2):Fn Pz 183 #[.agg ⟨(L0 pa pb pc pd pe pf pg ph)⟩,vI p1,vI p2] h R:=aU (A:=.z) H
def Uf(a:Int):Prop:=
 sB (decide (a>=97))
 (sB (decide (a<=122))
 (R (.bool true) h)
 (sB (decide (a>=65))
 (R (.bool (decide (a<=90))) h)
 (R (.bool false) h)))
 (sB (decide (a>=65))
 (R (.bool (decide (a<=90))) h)
 (R (.bool false) h))
theorem PU(p0:Int)(H:@Uf h R p0):Fn Pz 227 #[.int .u8 p0] h R:=aU (A:=.z) H
def Ue(a:Int):Prop:=
 Fn Pz 227 #[.int .u8 a] h
 (fun f b=>∃c,iB f c /\
 sB c
 (R (.bool true) b)
 (Fn Pz 275 #[.int .u8 a] b
 (fun g d=>∃e,iB g e /\
 sB e
 (R (.bool true) d)
 (R (.bool (a==95)) d))))
theorem PT(p0:Int)(H:@Ue h R p0):Fn Pz 228 #[.int .u8 p0] h R:=aU (A:=.z) H
def Ud(b:ByteArray):Prop:=
 Fn Pz 100 #[.string b] h
 (fun c d=>∃a,iB c a /\
 R (.bool a) d)
theorem PS(p0:ByteArray)(H:@Ud h R p0):Fn Pz 229 #[.string p0] h R:=aU (A:=.z) H
def Uc(b:Sl)(a:Int):Prop:=
 sB (decide (a>=0))
 (Fn Pz 179 #[vS b] h
 (fun f c=>∃d,iI f d /\
 sB (decide (a<d))
 (Fn Pz 276 #[vS b,vI a] c
 (fun g i=>∃(j:ByteArray) (e k l:Int),g=.agg ⟨(L7 j e k l)⟩ /\
 R (.bool (e==2)) i))
 (R (.bool false) c)))
 (R (.bool false) h)
theorem PR(p0:Sl)(p1:Int)(H:@Uc h R p0 p1):Fn Pz 230 #[vS p0,vI p1] h R:=aU (A:=.z) H
def TV(a:Int):Prop:=
 sB (decide (a>=48))
 (R (.bool (decide (a<=57))) h)
 (R (.bool false) h)
theorem Py(p0:Int)(H:@TV h R p0):Fn Pz 275 #[.int .u8 p0] h R:=aU (A:=.z) H
def Gw(a h:Heap)(R:Value->Heap->Prop):Prop:=
 ∃b c d e,TH a (aS h 0) b c d e/\R (.agg ⟨(L7 b c d e)⟩) a
def TU(c:Sl)(p:Int):Prop:=
 Wn h [.string ⟨#[]⟩,vI 0,vI 0,vI 0] 260 fun q=>vR p 0 q fun r e b d s=>sB (decide (b<(c.n:Int))) (NB c.a fun t u=>Ib b c.n/\∃g,rS d ⟨t,u+b.toNat*5+1,none⟩ g/\sB (decide (e<(g.n:Int))) (NB c.a fun v w=>Ib b c.n/\∃f,rS d ⟨v,w+b.toNat*5+1,none⟩ f/\NB f.a fun x y=>Ib e f.n/\∃i j k l,TH d ⟨x,y+e.toNat*4,none⟩ i j k l/\Wp d (aS h 0) 4 (L7 i j k l) fun z=>Gw z h R) (NB c.a fun A B=>Ib b c.n/\∃m,rS d ⟨A,B+b.toNat*5+1,none⟩ m/\∃o,o<s/\r (wrap .i64 (e-(m.n:Int))) (wrap .i64 (b+1)) d o)) (Wp d (aS h 0) 4 [.string ⟨#[]⟩,vI 0,vI 0,vI 0] fun C=>Gw C h R)
theorem Px(p0:Sl)(p1:Int)(H:@TU h R p0 p1):Fn Pz 276 #[vS p0,vI p1] h R:=aU (A:=(.s .z (.s (.s .z (.b (.l [(1,.one (.int .i64)),(5,.one (.int .i64))] .z))) .z))) H
end Go.VC
end

section
namespace Go.VC
open Go.Proofs IntKind



end Go.VC
end

section
namespace Go.VC
open Go.Proofs IntKind
variable {h:Heap} {R:Value->Heap->Prop}
def U8(d:Addr)(pa pb pc pd pe:Int)(pf:Bool):Prop:=
 Wn h (L4 pa pb pc pd pe pf) 67 fun b=>
 Wn b [.bool false,vI 0,vI 0] 188 fun a=>
 ∃c,rI a ⟨d.block,d.off+8,none⟩ c /\
 ∃e,rI a (aS h 1) e /\
 sB (c==e)
 (∃f,rI a (aS h (1+1)) f /\
 ∃g,rI a (aS h (1+2)) g /\
 Wp a (aS b 0) 3 [.bool true,vI f,vI g] fun i=>
 ∃j k l,mP i (aS b 0) j k l /\
 R (.tuple ⟨[.agg ⟨(L3 j k l)⟩,.bool true]⟩) i)
 (∃m,rI a (aS h (1+1)) m /\
 sB (c==m)
 (∃n,rI a (aS h 1) n /\
 ∃o,rI a (aS h (1+2)) o /\
 Wp a (aS b 0) 3 [.bool false,vI n,vI o] fun p=>
 ∃q r s,mP p (aS b 0) q r s /\
 R (.tuple ⟨[.agg ⟨(L3 q r s)⟩,.bool true]⟩) p)
 (Wp a (aS b 0) 3 [.bool false,vI 0,vI 0] fun t=>
 ∃u v w,mP t (aS b 0) u v w /\
 R (.tuple ⟨[.agg ⟨(L3 u v w)⟩,.bool false]⟩) t))
theorem QN(p0:Addr)(pa pb pc pd pe:Int)(pf:Bool)(H:@U8 h R p0 pa pb pc pd pe pf):Fn Pz 106 #[.pointer (some p0),.agg ⟨(L4 pa pb pc pd pe pf)⟩] h R:=aU (A:=.z) H
def UE(pa pb pc pd:Int):Prop:=
 Wn h (L5 pa pb pc pd) 200 fun a=>
 ∃b,rI a (aS h 0) b /\
 sB (decide (b>=0))
 (∃c,rI a (aS h 1) c /\
 sB (decide (c>=0))
 (R (vI 2) a)
 (R (vI 1) a))
 (R (vI 1) a)
theorem Qk(pa pb pc pd:Int)(H:@UE h R pa pb pc pd):Fn Pz 169 #[.agg ⟨(L5 pa pb pc pd)⟩] h R:=aU (A:=.z) H
def UQ(pa:Sl)(pb:Bool):Prop:=
 Wn h [vS pa,.bool pb] 195 fun e=>
 ∃(f:Sl) (g:Bool),a8 e (aS h 0) [vS f,.bool g] /\
 Fn Pz 148 #[.agg ⟨[vS f,.bool g]⟩] e
 (fun l b=>∃i,iB l i /\
 sB i
 (∃j,rB b (aS h 1) j /\
 sB j
 (R (.bool true) b)
 (∃d,rS b (aS h 0) d /\
 ∃c,rS b (aS h 0) c /\
 NB d.a fun m o=>(0<=((wrap .i64 ((c.n:Int)-1)):Int)/\((wrap .i64 ((c.n:Int)-1)):Int)<(d.n:Nat)) /\
 ∃k,rB b ⟨m,o+Int.toNat (wrap .i64 ((c.n:Int)-1))*3,none⟩ k /\
 R (.bool (!k)) b))
 (R (.bool false) b))
theorem Qx(pa:Sl)(pb:Bool)(H:@UQ h R pa pb):Fn Pz 149 #[.agg ⟨[vS pa,.bool pb]⟩] h R:=aU (A:=.z) H
def FX(pa:Bool)(pb pc:Int)(pd:Bool)(pe pf:Int):Prop:=
 Wn h (L3 pa pb pc) 188 fun b=>
 Wn b (L3 pd pe pf) 188 fun a=>
 ∃e,rB a (aS h 0) e /\
 ∃f,rB a (aS b 0) f /\
 sB (!(e==f))
 (∃g,rB a (aS h 0) g /\
 sB g
 (R (vI (-1)) a)
 (R (vI 1) a))
 (∃i,rI a (aS h 1) i /\
 ∃j,rI a (aS b 1) j /\
 ∃k,rI a (aS h 2) k /\
 ∃l,rI a (aS b 2) l /\
 Fn Pz 54 #[vI i,vI j] a
 (fun p c=>∃m,iI p m /\
 Sm [(aS b 2),(aS h 2)] a c /\
 Fn Pz 54 #[vI k,vI l] c
 (fun q d=>∃n,iI q n /\
 Sm [(aS b 1),(aS h 1)] c d /\
 Wn d [vI m,vI n] 3 fun r=>
 Fn Pz 53 #[.slice (some (aS d 0)) 2 2] r
 (fun s t=>∃o,iI s o /\
 R (vI o) t))))
theorem CH(pa:Bool)(pb pc:Int)(pd:Bool)(pe pf:Int)(H:@FX h R pa pb pc pd pe pf):Fn Pz 185 #[.agg ⟨(L3 pa pb pc)⟩,.agg ⟨(L3 pd pe pf)⟩] h R:=aU (A:=.z) H
def Ul(pa:Sl)(pb pc:Bool)(pd pe:Int):Prop:=
 Wn h [vS pa,.bool pb] 195 fun b=>
 Wn b (L3 pc pd pe) 188 fun a=>
 ∃c,rS a (aS h 0) c /\
 ∃d e f,mP a (aS b 0) d e f /\
 Fn Pz 263 #[vS c,.agg ⟨(L3 d e f)⟩] a
 (fun i j=>∃g,iB i g /\
 R (.bool g) j)
theorem P2(pa:Sl)(pb pc:Bool)(pd pe:Int)(H:@Ul h R pa pb pc pd pe):Fn Pz 214 #[.agg ⟨[vS pa,.bool pb]⟩,.agg ⟨(L3 pc pd pe)⟩] h R:=aU (A:=.z) H
def UR(pa:Sl)(pb:Bool):Prop:=
 Wn h [vS pa,.bool pb] 195 fun b=>
 ∃d,rS b (aS h 0) d /\
 sB (decide ((d.n:Int)>0))
 (∃c,rS b (aS h 0) c /\
 NB c.a fun f g=>Ib 0 c.n /\
 ∃e,rB b ⟨f,g+Int.toNat 0*3,none⟩ e /\
 R (.bool e) b)
 (R (.bool false) b)
theorem Qy(pa:Sl)(pb:Bool)(H:@UR h R pa pb):Fn Pz 148 #[.agg ⟨[vS pa,.bool pb]⟩] h R:=aU (A:=.z) H
def T8(f:Sl)(pa:Bool)(pb pc:Int):Prop:=
 Wn h (L3 pa pb pc) 188 fun a=>
 ∃b c d,mP a (aS h 0) b c d /\
 Fn Pz 295 #[vS f,.agg ⟨(L3 b c d)⟩] a
 (fun g i=>∃e,iI g e /\
 R (.bool (decide (e>=0))) i)
theorem PK(p0:Sl)(pa:Bool)(pb pc:Int)(H:@T8 h R p0 pa pb pc):Fn Pz 263 #[vS p0,.agg ⟨(L3 pa pb pc)⟩] h R:=aU (A:=.z) H
def TS(d:Sl)(pa:Bool)(pb pc:Int):Prop:=
 Wn h (L3 pa pb pc) 188 fun m=>
 QI 0 m fun o b c p=>
 sB (decide (b<(d.n:Int)))
 (∃e f g,mP c (aS h 0) e f g /\
 NB d.a fun q r=>Ib b d.n /\
 ∃i j k,mP c ⟨q,r+b.toNat*3,none⟩ i j k /\
 sB ((e==i)&&((f==j)&&((g==k)&&true)))
 (R (vI b) c)
 (∃l,l<p/\o (wrap .i64 (b+1)) c l))
 (R (vI (-1)) c)
theorem Pv(p0:Sl)(pa:Bool)(pb pc:Int)(H:@TS h R p0 pa pb pc):Fn Pz 295 #[vS p0,.agg ⟨(L3 pa pb pc)⟩] h R:=aU (A:=(.s .z (.s (AI 8) .z))) H
def UD(f:Addr)(pa pb:Int):Prop:=
 Wn h [vI pa,vI pb] 97 fun d=>
 Wn d [.bool false,vI 0,vI 0] 188 fun g=>
 ∃k,rS g ⟨f.block,f.off+10,none⟩ k /\
 ∃l,rI g (aS h 0) l /\
 NB k.a fun O P=>Ib l k.n /\
 ∃i,rS g ⟨O,P+l.toNat*2,none⟩ i /\
 QI 0 g fun p e b q=>
 sB (decide (e<(i.n:Int)))
 (NB i.a fun Q S=>Ib e i.n /\
 ∃r s t,mP b ⟨Q,S+e.toNat*3,none⟩ r s t /\
 Wn b [.bool false,vI 0,vI 0] 188 fun T=>
 Wp T (aS b 0) 3 (L3 r s t) fun c=>
 ∃u,rB c (aS b 0) u /\
 sB u
 (∃m,rS c ⟨f.block,f.off+10,none⟩ m /\
 ∃o,rI c (aS h 1) o /\
 NB m.a fun U V=>Ib o m.n /\
 ∃(v:Sl) (w:Bool),a8 c ⟨U,V+o.toNat*2,none⟩ [vS v,.bool w] /\
 ∃x y z,mP c (aS b 0) x y z /\
 Fn Pz 214 #[.agg ⟨[vS v,.bool w]⟩,.agg ⟨(L3 x y z)⟩] c
 (fun W j=>∃A,iB W A /\
 Sm [(aS b 0)] c j /\
 sB (!A)
 (∃B C D,mP j (aS b 0) B C D /\
 Wp j (aS d 0) 3 (L3 B C D) fun E=>
 ∃F G H,mP E (aS d 0) F G H /\
 R (.tuple ⟨[.agg ⟨(L3 F G H)⟩,.bool true]⟩) E)
 (∃I,I<q/\p (wrap .i64 (e+1)) j I)))
 (∃J,J<q/\p (wrap .i64 (e+1)) c J))
 (Wp b (aS d 0) 3 [.bool false,vI 0,vI 0] fun K=>
 ∃L M N,mP K (aS d 0) L M N /\
 R (.tuple ⟨[.agg ⟨(L3 L M N)⟩,.bool false]⟩) K)
theorem Qj(p0:Addr)(pa pb:Int)(H:@UD h R p0 pa pb):Fn Pz 170 #[.pointer (some p0),.agg ⟨[vI pa,vI pb]⟩] h R:=aU (A:=(.s .z (.s (AI 18) .z))) H
def UP(c:Addr)(pa pb:Int):Prop:=
 Wn h [vI pa,vI pb] 97 fun b=>
 ∃d,rS b ⟨c.block,c.off+13,none⟩ d /\
 ∃e,rI b (aS h 0) e /\
 NB d.a fun D E=>Ib e d.n /\
 ∃r,rB b ⟨D,E+e.toNat*1,none⟩ r /\
 sB r
 (∃f,rS b ⟨c.block,c.off+13,none⟩ f /\
 ∃g,rI b (aS h 1) g /\
 NB f.a fun F G=>Ib g f.n /\
 ∃s,rB b ⟨F,G+g.toNat*1,none⟩ s /\
 sB s
 (∃i,rS b ⟨c.block,c.off+11,none⟩ i /\
 ∃j,rI b (aS h 0) j /\
 NB i.a fun H I=>Ib j i.n /\
 ∃(t:Int) (u:Bool) (v w:Int),a8 b ⟨H,I+j.toNat*4,none⟩ [vI t,.bool u,vI v,vI w] /\
 ∃k,rS b ⟨c.block,c.off+11,none⟩ k /\
 ∃l,rI b (aS h 1) l /\
 NB k.a fun J K=>Ib l k.n /\
 ∃(x:Int) (y:Bool) (z A:Int),a8 b ⟨J,K+l.toNat*4,none⟩ [vI x,.bool y,vI z,vI A] /\
 sB (!((t==x)&&(((u==y)&&((v==z)&&((w==A)&&true)))&&true)))
 (R (.bool true) b)
 (∃m,rS b ⟨c.block,c.off+12,none⟩ m /\
 ∃o,rI b (aS h 0) o /\
 NB m.a fun L M=>Ib o m.n /\
 ∃B,rB b ⟨L,M+o.toNat*1,none⟩ B /\
 ∃p,rS b ⟨c.block,c.off+12,none⟩ p /\
 ∃q,rI b (aS h 1) q /\
 NB p.a fun N O=>Ib q p.n /\
 ∃C,rB b ⟨N,O+q.toNat*1,none⟩ C /\
 R (.bool (!(B==C))) b))
 (R (.bool false) b))
 (R (.bool false) b)
theorem Qw(p0:Addr)(pa pb:Int)(H:@UP h R p0 pa pb):Fn Pz 151 #[.pointer (some p0),.agg ⟨[vI pa,vI pb]⟩] h R:=aU (A:=.z) H
def UC(c:Addr)(pa:Bool)(pb pc:Int):Prop:=
 Wn h (L3 pa pb pc) 188 fun b=>
 Wn b [vI 0,.bool false,vI 0,vI 0,vN] 33 fun a=>
 ∃d,rI a ⟨c.block,c.off+8,none⟩ d /\
 ∃e,rB a (aS h 0) e /\
 ∃f,rI a (aS h 1) f /\
 ∃g,rI a (aS h 2) g /\
 Wp a (aS b 0) 5 [vI d,.bool e,vI f,vI g,vN] fun i=>
 ∃j k l m n,aL8 i (aS b 0) j k l m n /\
 R (.agg ⟨(L8 j k l m n)⟩) i
theorem Qi(p0:Addr)(pa:Bool)(pb pc:Int)(H:@UC h R p0 pa pb pc):Fn Pz 171 #[.pointer (some p0),.agg ⟨(L3 pa pb pc)⟩] h R:=aU (A:=.z) H
def UI(g:Option Nat)(pa pb:Int):Prop:=
 Wn h [vI pa,vI pb] 97 fun a=>
 ∃(b c:Int),a8 a (aS h 0) [vI b,vI c] /\
 br Pz (Instr.lookup 293 (.map g) (.agg ⟨[vI b,vI c]⟩) true) a
 (fun i d=>∃(e:Int) (f:Bool),i=.tuple ⟨[vI e,.bool f]⟩ /\
 sB f
 (R (vI e) d)
 (R (vI 1073741824) d))
theorem Qo(p0:Option Nat)(pa pb:Int)(H:@UI h R p0 pa pb):Fn Pz 165 #[.map p0,.agg ⟨[vI pa,vI pb]⟩] h R:=aU (A:=.z) H
def Uo(b:Sl):Prop:=
 sB (decide ((b.n:Int)<2))
 (R (vS b) h)
 (QI 1 h fun E d i F=>
 sB (decide (d<(b.n:Int)))
 (NB b.a fun G H=>Ib d b.n /\
 ∃j k l,mP i ⟨G,H+d.toNat*3,none⟩ j k l /\
 NB b.a fun I J=>(0<=((wrap .i64 (d-1)):Int)/\((wrap .i64 (d-1)):Int)<(b.n:Nat)) /\
 ∃m o p,mP i ⟨I,J+Int.toNat (wrap .i64 (d-1))*3,none⟩ m o p /\
 sB ((j==m)&&((k==o)&&((l==p)&&true)))
 (((0:Int)<=(d:Int)/\(d:Int)<=((b.n:Nat):Int)/\((b.n:Nat):Int)<=(b.c:Nat)) /\
 vR d 1 i fun q e f g r=>
 sB (decide (f<(((Int.toNat (b.n:Nat)-d.toNat):Nat):Int)))
 (NB (bg b.a (d.toNat) b.c 3) fun K L=>(0<=(f:Int)/\(f:Int)<((Int.toNat (b.n:Nat)-d.toNat):Nat)) /\
 ∃s t u,mP g ⟨K,L+f.toNat*3,none⟩ s t u /\
 NB (bg b.a (d.toNat) b.c 3) fun M N=>(0<=((wrap .i64 (f-1)):Int)/\((wrap .i64 (f-1)):Int)<((Int.toNat (b.n:Nat)-d.toNat):Nat)) /\
 ∃v w x,mP g ⟨M,N+Int.toNat (wrap .i64 (f-1))*3,none⟩ v w x /\
 sB (!((s==v)&&((t==w)&&((u==x)&&true))))
 (NB (bg b.a (d.toNat) b.c 3) fun O P=>(0<=(f:Int)/\(f:Int)<((Int.toNat (b.n:Nat)-d.toNat):Nat)) /\
 ∃y z A,mP g ⟨O,P+f.toNat*3,none⟩ y z A /\
 NB b.a fun Q S=>Ib e b.n /\
 Wp g ⟨Q,S+e.toNat*3,none⟩ 3 (L3 y z A) fun T=>
 ∃B,B<r/\q (wrap .i64 (e+1)) (wrap .i64 (f+1)) T B)
 (∃C,C<r/\q e (wrap .i64 (f+1)) g C))
 (((0:Int)<=(e:Int)/\(e:Int)<=((b.n:Nat):Int)/\((b.n:Nat):Int)<=(b.c:Nat)) /\
 br Pz (Builtin.clear_ #[193] 0 #[.slice (bg b.a (e.toNat) b.c 3) (Int.toNat (b.n:Nat)-e.toNat) (b.c-e.toNat)]) g (fun V U=>
 ((0:Int)<=(0:Int)/\(0:Int)<=(e:Int)/\(e:Int)<=(b.c:Nat)) /\
 R (.slice (bg b.a (Int.toNat 0) b.c 3) (e.toNat-Int.toNat 0) (b.c-Int.toNat 0)) U)))
 (∃D,D<F/\E (wrap .i64 (d+1)) i D))
 (R (vS b) i))
theorem P5(p0:Sl)(H:@Uo h R p0):Fn Pz 186 #[vS p0] h R:=aU (A:=(.s .z (.s .z (.s (.s .z (.b (.l [(3,.one (.int .i64))] (.s .z (.s (.b (.s .z (.c (.s .z (.s (.s .z (.b (.l [(3,.one (.int .i64)),(5,.one (.int .i64))] .z))) .z)) .z))) .z))))) .z)))) H
def U6(b:Addr)(pa pb:Int):Prop:=
 Wn h [vI pa,vI pb] 97 fun o=>
 ∃w,rS o ⟨b.block,b.off+9,none⟩ w /\
 ∃x,rI o (aS h 0) x /\
 NB w.a fun b6 o7=>Ib x w.n /\
 ∃p,rS o ⟨b6,o7+x.toNat*1,none⟩ p /\
 N7 ⟨none,0,0⟩ ⟨none,0,0⟩ 0 o fun N y z l c O=>
 sB (decide (l<(p.n:Int)))
 (NB p.a fun f1 g1=>Ib l p.n /\
 ∃m,rI c ⟨f1,g1+l.toNat*1,none⟩ m /\
 ∃A,rS c ⟨b.block,b.off+6,none⟩ A /\
 NB A.a fun h1 i1=>Ib m A.n /\
 ∃P Q S T U V,mB c ⟨h1,i1+m.toNat*6,none⟩ P Q S T U V /\
 Wn c [vI 0,vI 0,vI 0,vI 0,vI 0,.bool false] 67 fun j1=>
 Wp j1 (aS c 0) 6 (L4 P Q S T U V) fun W=>
 ∃X Y Z a0 b0 c0,mB W (aS c 0) X Y Z a0 b0 c0 /\
 Fn Pz 106 #[.pointer (some b),.agg ⟨(L4 X Y Z a0 b0 c0)⟩] W
 (fun k1 B=>∃(d0:Bool) (e0 f0:Int) (g0:Bool),k1=.tuple ⟨[.agg ⟨(L3 d0 e0 f0)⟩,.bool g0]⟩ /\
 Wn B [.bool false,vI 0,vI 0] 188 fun l1=>
 Wp l1 (aS B 0) 3 (L3 d0 e0 f0) fun f=>
 sB (!g0)
 (∃h0,rI f (aS c 4) h0 /\
 ∃i0,rI f (aS h 1) i0 /\
 Wn f [vI m,vI (-1),vI h0,vI i0] 200 fun m1=>
 App Pz 197 197 (vS y) (.slice (some (aS f 0)) 1 1) m1 fun n1 o1=>
 ∃j0,j0<O/\N n1 z (wrap .i64 (l+1)) o1 j0)
 (∃C,rS f ⟨b.block,b.off+9,none⟩ C /\
 ∃D,rI f (aS h 1) D /\
 NB C.a fun p1 q1=>Ib D C.n /\
 ∃q,rS f ⟨p1,q1+D.toNat*1,none⟩ q /\
 sY z 0 f fun E r j g F=>
 sB (decide (j<(q.n:Int)))
 (NB q.a fun r1 s1=>Ib j q.n /\
 ∃s,rI g ⟨r1,s1+j.toNat*1,none⟩ s /\
 ∃G,rS g ⟨b.block,b.off+6,none⟩ G /\
 NB G.a fun t1 u1=>Ib s G.n /\
 ∃k0 l0 m0 n0 o0 p0,mB g ⟨t1,u1+s.toNat*6,none⟩ k0 l0 m0 n0 o0 p0 /\
 Wn g [vI 0,vI 0,vI 0,vI 0,vI 0,.bool false] 67 fun v1=>
 Wp v1 (aS g 0) 6 (L4 k0 l0 m0 n0 o0 p0) fun q0=>
 ∃r0 s0 t0 u0 v0 w0,mB q0 (aS g 0) r0 s0 t0 u0 v0 w0 /\
 Fn Pz 106 #[.pointer (some b),.agg ⟨(L4 r0 s0 t0 u0 v0 w0)⟩] q0
 (fun w1 H=>∃(x0:Bool) (y0 z0:Int) (A0:Bool),w1=.tuple ⟨[.agg ⟨(L3 x0 y0 z0)⟩,.bool A0]⟩ /\
 Wn H [.bool false,vI 0,vI 0] 188 fun x1=>
 Wp x1 (aS H 0) 3 (L3 x0 y0 z0) fun i=>
 sB A0
 (∃B0 C0 D0,mP i (aS B 0) B0 C0 D0 /\
 ∃E0 F0 G0,mP i (aS H 0) E0 F0 G0 /\
 sB ((B0==E0)&&((C0==F0)&&((D0==G0)&&true)))
 (∃H0,rI i (aS c 4) H0 /\
 ∃I0,rI i (aS g 4) I0 /\
 Wn i (L5 m s H0 I0) 200 fun y1=>
 App Pz 197 197 (vS r) (.slice (some (aS i 0)) 1 1) y1 fun z1 A1=>
 ∃J0,J0<F/\E z1 (wrap .i64 (j+1)) A1 J0)
 (∃K0,K0<F/\E r (wrap .i64 (j+1)) i K0))
 (∃L0,L0<F/\E r (wrap .i64 (j+1)) i L0)))
 (∃M0,M0<O/\N y r (wrap .i64 (l+1)) g M0))))
 (∃I,rS c ⟨b.block,b.off+9,none⟩ I /\
 ∃J,rI c (aS h 1) J /\
 NB I.a fun B1 C1=>Ib J I.n /\
 ∃t,rS c ⟨B1,C1+J.toNat*1,none⟩ t /\
 sY ⟨none,0,0⟩ 0 c fun K u k d L=>
 sB (decide (k<(t.n:Int)))
 (NB t.a fun D1 E1=>Ib k t.n /\
 ∃v,rI d ⟨D1,E1+k.toNat*1,none⟩ v /\
 ∃M,rS d ⟨b.block,b.off+6,none⟩ M /\
 NB M.a fun F1 G1=>Ib v M.n /\
 ∃N0 O0 P0 Q0 R0 S0,mB d ⟨F1,G1+v.toNat*6,none⟩ N0 O0 P0 Q0 R0 S0 /\
 Wn d [vI 0,vI 0,vI 0,vI 0,vI 0,.bool false] 67 fun H1=>
 Wp H1 (aS d 0) 6 (L4 N0 O0 P0 Q0 R0 S0) fun e=>
 ∃T0,rI e (aS d 1) T0 /\
 ∃U0,rI e ⟨b.block,b.off+8,none⟩ U0 /\
 sB (T0 != U0)
 (∃V0,rI e (aS d (1+1)) V0 /\
 ∃W0,rI e ⟨b.block,b.off+8,none⟩ W0 /\
 sB (V0 != W0)
 (∃X0,rI e (aS h 0) X0 /\
 ∃Y0,rI e (aS d 4) Y0 /\
 Wn e [vI (-1),vI v,vI X0,vI Y0] 200 fun I1=>
 App Pz 197 197 (vS u) (.slice (some (aS e 0)) 1 1) I1 fun J1 K1=>
 ∃Z0,Z0<L/\K J1 (wrap .i64 (k+1)) K1 Z0)
 (∃a1,a1<L/\K u (wrap .i64 (k+1)) e a1))
 (∃b1,b1<L/\K u (wrap .i64 (k+1)) e b1))
 (Wn d [vS y,vS u,vS z] 197 fun L1=>
 Fn Pz 187 #[.slice (some (aS d 0)) 3 3] L1
 (fun M1 N1=>∃c1,iS M1 c1 /\
 R (vS c1) N1)))
theorem QL(p0:Addr)(pa pb:Int)(H:@U6 h R p0 pa pb):Fn Pz 108 #[.pointer (some p0),.agg ⟨[vI pa,vI pb]⟩] h R:=aU (A:=(.s .z (.s .z (.s (.s .z (.b (.l [(5,.one (.slice)),(7,.one (.slice)),(30,.one (.int .i64))] (.s .z (.s .z (.s (.b (.s .z (.s .z (.s .z (.s .z (AJ 7 69)))))) .z)))))) (.s (AJ 6 115) .z))))) H
def Un(b:Sl):Prop:=
 vR 0 0 h fun p e c f q=>
 sB (decide (c<(b.n:Int)))
 (NB b.a fun r s=>Ib c b.n /\
 ∃g,rS f ⟨r,s+c.toNat*1,none⟩ g /\
 sB (decide ((wrap .i64 (e+(g.n:Int)))<0))
 (False)
 (∃j,j<q/\p (wrap .i64 (e+(g.n:Int))) (wrap .i64 (c+1)) f j))
 (Fn Pz 232 #[vN,vI e] f
 (fun t u=>∃k,iS t k /\
 sY k 0 u fun v l d i w=>
 sB (decide (d<(b.n:Int)))
 (NB b.a fun x y=>Ib d b.n /\
 ∃m,rS i ⟨x,y+d.toNat*1,none⟩ m /\
 App Pz 197 197 (vS l) (vS m) i fun z A=>
 ∃o,o<w/\v z (wrap .i64 (d+1)) A o)
 (R (vS l) i)))
theorem P4(p0:Sl)(H:@Un h R p0):Fn Pz 187 #[vS p0] h R:=aU (A:=(.s .z (.s .z (.s (.s .z (.b (.l [(3,.one (.int .i64)),(11,.one (.int .i64))] .z))) (.s .z (.s (AJ 6 27) .z)))))) H
def Ub(b:Sl)(e:Int):Prop:=
 ∃g:Heap->Prop,
 (sB (decide (e<0))
 (False)
 (g h)) /\
 ∀(_:Env) (f:Heap),g f ->
 (sB (decide ((wrap .i64 (e-(wrap .i64 ((b.c:Int)-(b.n:Int)))))>0))
 (((0:Int)<=(0:Int)/\(0:Int)<=((b.c:Int):Int)/\((b.c:Int):Int)<=(b.c:Nat)) /\
 App Pz 197 3 (.slice (bg b.a (Int.toNat 0) b.c 4) (Int.toNat (b.c:Int)-Int.toNat 0) (b.c-Int.toNat 0)) (vI (wrap .i64 (e-(wrap .i64 ((b.c:Int)-(b.n:Int)))))) f fun d i=>
 ((0:Int)<=(0:Int)/\(0:Int)<=((b.n:Int):Int)/\((b.n:Int):Int)<=(d.c:Nat)) /\
 R (.slice (bg d.a (Int.toNat 0) d.c 4) (Int.toNat (b.n:Int)-Int.toNat 0) (d.c-Int.toNat 0)) i)
 (R (vS b) f))
theorem PQ(p0:Sl)(p1:Int)(H:@Ub h R p0 p1):Fn Pz 232 #[vS p0,vI p1] h R:=aU (A:=(.s .z (.j [] .z .z))) H
def Ao(l:Heap)(f:Addr)(u:Int)(g:Sl)(v:Heap)(w:Int)(x:Heap)(Z:Nat)(I7:Sl->Heap->Nat->Prop):Prop:=
 ∃m,rS l ⟨f.block,f.off+9,none⟩ m/\NB m.a fun b0 c0=>Ib u m.n/\∃h,rS l ⟨b0,c0+u.toNat*1,none⟩ h/\sY ⟨(bg g.a (Int.toNat 0) g.c 1),(Int.toNat (wrap .i64 ((g.n:Int)-1))-Int.toNat 0),(g.c-Int.toNat 0)⟩ 0 l fun o i e b p=>sB (decide (e<(h.n:Int))) (NB h.a fun d0 e0=>Ib e h.n/\∃q,rI b ⟨d0,e0+e.toNat*1,none⟩ q/\∃r,rS b ⟨f.block,f.off+6,none⟩ r/\NB r.a fun f0 g0=>Ib q r.n/\∃y z A B C D,mB b ⟨f0,g0+q.toNat*6,none⟩ y z A B C D/\Wn b [vI 0,vI 0,vI 0,vI 0,vI 0,.bool false] 67 fun h0=>Wp h0 (aS b 0) 6 (L4 y z A B C D) fun E=>∃F G H I J K,mB E (aS b 0) F G H I J K/\Fn Pz 106 #[.pointer (some f),.agg ⟨(L4 F G H I J K)⟩] E (fun i0 s=>∃(L:Bool) (M N:Int) (O:Bool),i0=.tuple ⟨[.agg ⟨(L3 L M N)⟩,.bool O]⟩/\Wn s [.bool false,vI 0,vI 0] 188 fun j0=>Wp j0 (aS s 0) 3 (L3 L M N) fun d=>sB O (∃P,rS d (aS v 0) P/\∃Q R S,mP d (aS s 0) Q R S/\Wn d (L3 Q R S) 188 fun k0=>App Pz 193 193 (vS P) (.slice (some (aS d 0)) 1 1) k0 fun l0 m0=>Wp m0 (aS v 0) 1 [vS l0] fun n0=>∃T,T<p/\o i (wrap .i64 (e+1)) n0 T) (∃j,rI d (aS b 4) j/\(0<=(j:Int)/\(j:Int)<((w.toNat):Nat))/\∃U,rB d (aS x (0+j.toNat*1)) U/\sB (!U) (∃k,rI d (aS b 4) k/\(0<=(k:Int)/\(k:Int)<((w.toNat):Nat))/\Wp d (aS x (0+k.toNat*1)) 1 [.bool true] fun t=>∃V,rI t (aS b 4) V/\Wn t [vI V] 3 fun o0=>App Pz 102 102 (vS i) (.slice (some (aS t 0)) 1 1) o0 fun p0 q0=>∃W,W<p/\o p0 (wrap .i64 (e+1)) q0 W) (∃X,X<p/\o i (wrap .i64 (e+1)) d X)))) (∃Y,Y<Z/\I7 i b Y)
def U7(g:Addr)(j:Int):Prop:=
 Wn h [vN,.bool false] 195 fun i=>∃e,rI i ⟨g.block,g.off+3,none⟩ e/\Mk e e 1/\Wn i (ah Pz 4 (e.toNat)) 4 fun B=>(0<=(j:Int)/\(j:Int)<((e.toNat):Nat))/\Wp B (aS i (0+j.toNat*1)) 1 [.bool true] fun d=>Wn d [vN,.bool false] 195 fun l=>Wn l [vI j] 3 fun C=>QS ⟨(some (aS l 0)),1,1⟩ C fun m b f o=>sB (decide ((b.n:Int)>0)) (NB b.a fun D E=>(0<=((wrap .i64 ((b.n:Int)-1)):Int)/\((wrap .i64 ((b.n:Int)-1)):Int)<(b.n:Nat))/\∃k,rI f ⟨D,E+Int.toNat (wrap .i64 ((b.n:Int)-1))*1,none⟩ k/\((0:Int)<=(0:Int)/\(0:Int)<=((wrap .i64 ((b.n:Int)-1)):Int)/\((wrap .i64 ((b.n:Int)-1)):Int)<=(b.c:Nat))/\∃p,rB f (aS d 1) p/\sB p (Wp f (aS d 1) 1 [.bool true] fun F=>Ao F g k b d e i o m) (∃q,rI f ⟨g.block,g.off+5,none⟩ q/\Wp f (aS d 1) 1 [.bool (k==q)] fun G=>Ao G g k b d e i o m)) (∃r,rS f (aS d 0) r/\Fn Pz 184 #[vS r,.func (.func 185) #[] #[]] f (fun H s=>H=.tuple ⟨[]⟩/\∃t,rS s (aS d 0) t/\Fn Pz 186 #[vS t] s (fun I J=>∃u,iS I u/\Wp J (aS d 0) 1 [vS u] fun v=>∃(w:Sl) (x:Bool),a8 v (aS d 0) [vS w,.bool x]/\Wp v (aS h 0) 2 [vS w,.bool x] fun y=>∃(z:Sl) (A:Bool),a8 y (aS h 0) [vS z,.bool A]/\R (.agg ⟨[vS z,.bool A]⟩) y)))
theorem QM(p0:Addr)(p1:Int)(H:@U7 h R p0 p1):Fn Pz 107 #[.pointer (some p0),vI p1] h R:=aU (A:=(.s .z (.s .z (.s .z (.s .z (.s (.s .z (.b (.l [(7,.one (.slice))] (.s .z (.b (.s .z (.s .z (.s .z (AJ 7 59))))))))) .z)))))) H
def W50(b:Addr):Prop:=
 ∃p,rI h ⟨b.block,b.off+4,none⟩ p /\
 ∃q,rI h ⟨b.block,b.off+4,none⟩ q /\
 Wn h [vI 0,vI 0] 97 fun r=>
 Sm [⟨b.block,b.off+4,none⟩,⟨b.block,b.off+4,none⟩] h r /\
 Wp r (aS h 0) 2 [vI p,vI q] fun j=>
 ∃(s t:Int),a8 j (aS h 0) [vI s,vI t] /\
 Wn j [vI s,vI t] 97 fun U=>
 br Pz (Instr.makeMap 93 (none)) U
 (fun V u=>∃e:Option Nat,V=.map e /\
 ∃(v w:Int),a8 u (aS h 0) [vI v,vI w] /\
 br Pz (Instr.mapUpdate 93 (.map e) (.agg ⟨[vI v,vI w]⟩) vN) u (fun _ W=>
 sY ⟨(some (aS j 0)),1,1⟩ 0 W fun X c f k Y=>
 sB (decide (f<(c.n:Int)))
 (NB c.a fun Z a0=>Ib f c.n /\
 ∃(x y:Int),a8 k ⟨Z,a0+f.toNat*2,none⟩ [vI x,vI y] /\
 Fn Pz 108 #[.pointer (some b),.agg ⟨[vI x,vI y]⟩] k
 (fun b0 z=>∃g,iS b0 g /\
 NB c.a fun c0 d0=>Ib f c.n /\
 ∃(A B:Int),a8 z ⟨c0,d0+f.toNat*2,none⟩ [vI A,vI B] /\
 br Pz (Instr.mapUpdate 93 (.map e) (.agg ⟨[vI A,vI B]⟩) (vS g)) z (fun _ e0=>
 sY c 0 e0 fun C l i d D=>
 sB (decide (i<(g.n:Int)))
 (NB g.a fun f0 g0=>Ib i g.n /\
 ∃E F G H,Cy d ⟨f0,g0+i.toNat*4,none⟩ E F G H /\
 Wn d [vI 0,vI 0,vI 0,vI 0] 200 fun h0=>
 Wp h0 (aS d 0) 4 (L5 E F G H) fun I=>
 ∃(J K:Int),a8 I (aS d 2) [vI J,vI K] /\
 br Pz (Instr.lookup 93 (.map e) (.agg ⟨[vI J,vI K]⟩) true) I
 (fun i0 m=>∃(j0:Sl) (L:Bool),i0=.tuple ⟨[vS j0,.bool L]⟩ /\
 sB (!L)
 (∃(M N:Int),a8 m (aS d 2) [vI M,vI N] /\
 br Pz (Instr.mapUpdate 93 (.map e) (.agg ⟨[vI M,vI N]⟩) vN) m (fun _ o=>
 ∃(O P:Int),a8 o (aS d 2) [vI O,vI P] /\
 Wn o [vI O,vI P] 97 fun k0=>
 App Pz 92 92 (vS l) (.slice (some (aS o 0)) 1 1) k0 fun l0 m0=>
 ∃Q,Q<D/\C l0 (wrap .i64 (i+1)) m0 Q))
 (∃S,S<D/\C l (wrap .i64 (i+1)) m S)))
 (∃T,T<Y/\X l (wrap .i64 (f+1)) d T))))
 (R (.tuple ⟨[vS c,.map e]⟩) k)))
theorem W9(p0:Addr)(H:@W50 h R p0):Fn Pz 50 #[.pointer (some p0)] h R:=aU (A:=(.s .z (.s .z (.s .z (.s .z (.s (.s .z (.b (.l [(5,.one (.slice)),(7,.one (.int .i64))] (.s .z (.s (.b (.s .z (.s .z (AJ 5 49)))) .z))))) .z)))))) H
def UH(b:Addr)(d pa pb:Int):Prop:=
 Wn h [vI pa,vI pb] 97 fun a=>
 sB (d==1)
 (∃(e f:Int),a8 a (aS h 0) [vI e,vI f] /\
 Fn Pz 170 #[.pointer (some b),.agg ⟨[vI e,vI f]⟩] a
 (fun y g=>∃(i:Bool) (j k:Int) (l:Bool),y=.tuple ⟨[.agg ⟨(L3 i j k)⟩,.bool l]⟩ /\
 Wn g [.bool false,vI 0,vI 0] 188 fun z=>
 Wp z (aS g 0) 3 (L3 i j k) fun A=>
 R (.tuple ⟨[vI 0,.bool l]⟩) A))
 (sB (d==3)
 (∃(m n:Int),a8 a (aS h 0) [vI m,vI n] /\
 Fn Pz 151 #[.pointer (some b),.agg ⟨[vI m,vI n]⟩] a
 (fun B C=>∃o,iB B o /\
 R (.tuple ⟨[vI 0,.bool o]⟩) C))
 (∃(p q:Int),a8 a (aS h 0) [vI p,vI q] /\
 Fn Pz 152 #[.pointer (some b),.agg ⟨[vI p,vI q]⟩] a
 (fun D c=>∃(r s t u:Int) (v:Bool),D=.tuple ⟨[.agg ⟨(L5 r s t u)⟩,.bool v]⟩ /\
 Wn c [vI 0,vI 0,vI 0,vI 0] 276 fun E=>
 Wp E (aS c 0) 4 (L5 r s t u) fun w=>
 ∃x,rI w (aS c 1) x /\
 R (.tuple ⟨[vI x,.bool v]⟩) w)))
theorem Qn(p0:Addr)(p1 pa pb:Int)(H:@UH h R p0 p1 pa pb):Fn Pz 166 #[.pointer (some p0),vI p1,.agg ⟨[vI pa,vI pb]⟩] h R:=aU (A:=.z) H
def GD(a g h:Heap)(i:Nat)(j:Int->Heap->Nat->Prop)(k:Int):Prop:=
 ∃b c d e,Cy a (aS g 0) b c d e/\Wp a (aS h 0) 4 (L5 b c d e) fun l=>∃f,f<i/\j (wrap .i64 (k+1)) l f
def UO(g:Addr)(pa pb:Int):Prop:=
 Wn h [vI pa,vI pb] 97 fun m=>Wn m [vI 0,vI 0,vI 0,vI 0] 276 fun c=>Wn c [vI 0,vI 0,vI 0,vI 0] 276 fun i=>∃o,rS i ⟨g.block,g.off+14,none⟩ o/\∃p,rI i (aS h 0) p/\NB o.a fun Q S=>Ib p o.n/\∃j,rS i ⟨Q,S+p.toNat*1,none⟩ j/\QI 0 i fun k d b l=>sB (decide (d<(j.n:Int))) (NB j.a fun T U=>Ib d j.n/\∃t u v w,Cy b ⟨T,U+d.toNat*4,none⟩ t u v w/\Wn b [vI 0,vI 0,vI 0,vI 0] 276 fun V=>Wp V (aS b 0) 4 (L5 t u v w) fun f=>∃q,rS f ⟨g.block,g.off+10,none⟩ q/\∃r,rI f (aS h 1) r/\NB q.a fun W X=>Ib r q.n/\∃(x:Sl) (y:Bool),a8 f ⟨W,X+r.toNat*2,none⟩ [vS x,.bool y]/\∃z,rI f (aS b 2) z/\∃A,rI f (aS b (2+1)) A/\Fn Pz 214 #[.agg ⟨[vS x,.bool y]⟩,.agg ⟨[.bool false,vI z,vI A]⟩] f (fun Y e=>∃B,iB Y B/\sB B (∃C,rI e (aS c 1) C/\sB (C==0) (GD e b c l k d) (∃D,rI e (aS b 1) D/\∃E,rI e (aS c 1) E/\sB (decide (D<E)) (GD e b c l k d) (∃F,F<l/\k (wrap .i64 (d+1)) e F))) (∃G,G<l/\k (wrap .i64 (d+1)) e G))) (∃H I J K,Cy b (aS c 0) H I J K/\∃L,rI b (aS c 1) L/\Wp b (aS m 0) 4 (L5 H I J K) fun s=>Sm [(aS c 1)] b s/\∃M N O P,Cy s (aS m 0) M N O P/\R (.tuple ⟨[.agg ⟨(L5 M N O P)⟩,.bool (decide (L>0))]⟩) s)
theorem Qv(p0:Addr)(pa pb:Int)(H:@UO h R p0 pa pb):Fn Pz 152 #[.pointer (some p0),.agg ⟨[vI pa,vI pb]⟩] h R:=aU (A:=(.s .z (.s .z (.s (AI 18) .z)))) H
def UG(g:Sl)(q:Value):Prop:=
 QI 0 h fun o b f p=>
 sB (decide (b<(g.n:Int)))
 (NB g.a fun r s=>Ib b g.n /\
 ∃i j k l,Cy f ⟨r,s+b.toNat*4,none⟩ i j k l /\
 match q with | .func (.func g12) fa13 fc14=>(bif au Pz g12 then Fn Pz g12 (fa13 ++ #[.agg ⟨(L5 i j k l)⟩]++fc14) f
 (fun m c=>∃d,iB m d /\
 sB d
 (R (vI b) c)
 (∃e,e<p/\o (wrap .i64 (b+1)) c e)) else kZ Pz g12 (fa13 ++ #[.agg ⟨(L5 i j k l)⟩]++fc14) f
 (fun m c=>∃d,iB m d /\
 sB d
 (R (vI b) c)
 (∃e,e<p/\o (wrap .i64 (b+1)) c e))) | _=>False)
 (R (vI (-1)) f)
theorem Qm(p0:Sl)(p1:Value)(H:@UG h R p0 p1):Fn Pz 167 #[vS p0,p1] h R:=aU (A:=(.s .z (.s (AI 8) .z))) H
def UF(pa pb pc pd:Int)(b c:Addr):Prop:=
 Wn h (L5 pa pb pc pd) 200 fun a=>
 ∃f g i j,Cy a (aS h 0) f g i j /\
 ∃k:Option Nat,hc a b=some (.map k) /\
 ∃(l m:Int),a8 a (aS h 2) [vI l,vI m] /\
 ∃n:Option Nat,hc a b=some (.map n) /\
 ∃(o p:Int),a8 a c [vI o,vI p] /\
 Fn Pz 169 #[.agg ⟨(L5 f g i j)⟩] a
 (fun u d=>∃q,iI u q /\
 Sm [c,b,(aS h 2),b] a d /\
 Fn Pz 165 #[.map k,.agg ⟨[vI l,vI m]⟩] d
 (fun v e=>∃r,iI v r /\
 Sm [c,b,(aS h 0)] d e /\
 Fn Pz 165 #[.map n,.agg ⟨[vI o,vI p]⟩] e
 (fun w s=>∃t,iI w t /\
 Sm [(aS h 2),b,(aS h 0)] e s /\
 R (.bool ((wrap .i64 (q+r))==t)) s)))
theorem Ql(pa pb pc pd:Int)(c0 c1:Addr)(H:@UF h R pa pb pc pd c0 c1):Fn Pz 168 #[.agg ⟨(L5 pa pb pc pd)⟩,.pointer (some c0),.pointer (some c1)] h R:=aU (A:=.z) H
def Am(e:Heap)(y:Addr)(h:Heap)(d:Int)(c:Addr)(R:Value->Heap->Prop):Prop:=
 ∃k:Option Nat,hc e y=some (.map k)/\∃(l m:Int),a8 e (aS h 0) [vI l,vI m]/\br Pz (Instr.mapUpdate 293 (.map k) (.agg ⟨[vI l,vI m]⟩) (vI d)) e (fun _ z=>∃f:Heap->Nat->Prop,(∃A,f z A)/\∀(_:Env) (b:Heap) (o:Nat),f b o->(∃p,rS b c p/\sB (decide ((p.n:Int)<=d)) (∃q,rS b c q/\Wn b [vN] 92 fun B=>App Pz 350 350 (vS q) (.slice (some (aS b 0)) 1 1) B fun C D=>Wp D c 1 [vS C] fun E=>∃r,r<o/\f E r) (∃g,rS b c g/\∃i,rS b c i/\NB i.a fun s t=>Ib d i.n/\∃u,rS b ⟨s,t+d.toNat*1,none⟩ u/\∃(v w:Int),a8 b (aS h 0) [vI v,vI w]/\Wn b [vI v,vI w] 97 fun j=>Sm [⟨s,t+d.toNat*1,none⟩,c,c] b j/\App Pz 92 92 (vS u) (.slice (some (aS b 0)) 1 1) j fun F x=>Sm [c] j x/\NB g.a fun G H=>Ib d g.n/\Wp x ⟨G,H+d.toNat*1,none⟩ 1 [vS F] fun I=>R (.tuple ⟨[]⟩) I)))
def Ug(pa pb a:Int)(b e:Addr):Prop:=
 Wn h [vI pa,vI pb] 97 fun c=>∃f:Option Nat,hc c b=some (.map f)/\∃(g i:Int),a8 c (aS h 0) [vI g,vI i]/\br Pz (Instr.lookup 293 (.map f) (.agg ⟨[vI g,vI i]⟩) true) c (fun l d=>∃(j:Int) (k:Bool),l=.tuple ⟨[vI j,.bool k]⟩/\sB k (sB (decide (j<=a)) (R (.tuple ⟨[]⟩) d) (Am d b h a e R)) (Am d b h a e R))
theorem PV(pa pb p1:Int)(c0 c1:Addr)(H:@Ug h R pa pb p1 c0 c1):Fn Pz 226 #[.agg ⟨[vI pa,vI pb]⟩,vI p1,.pointer (some c0),.pointer (some c1)] h R:=aU (A:=(.s .z (.s .z (.s .z (.s (.b (.l [] .z)) .z))))) H
def UJ(p0:Addr)(p1:Int)(m:Sl)(p3:Option Nat):Prop:=
 br Pz (Instr.makeMap 293 (some (vI (m.n:Int)))) h
 (fun v1 g=>∃B:Option Nat,v1=.map B /\
 Wn g [.map none] 293 fun h4=>
 Wp h4 (aS g 0) 1 [.map B] fun h5=>
 br Pz (Instr.makeMap 93 (none)) h5
 (fun v6 i=>∃o:Option Nat,v6=.map o /\
 Wn i [vN] 350 fun h9=>
 QI 0 h9 fun C k c D=>
 sB (decide (k<(m.n:Int)))
 (NB m.a fun Q0 R0=>Ib k m.n /\
 ∃(E F:Int),a8 c ⟨Q0,R0+k.toNat*2,none⟩ [vI E,vI F] /\
 Wn c [vI 0,vI 0] 97 fun S0=>
 Wp S0 (aS c 0) 2 [vI E,vI F] fun G=>
 ∃(H I:Int),a8 G (aS c 0) [vI H,vI I] /\
 br Pz (Instr.lookup 93 (.map p3) (.agg ⟨[vI H,vI I]⟩) false) G
 (fun T0 U0=>∃p,iS T0 p /\
 QI 0 U0 fun V0 q d W0=>
 sB (decide (q<(p.n:Int)))
 (NB p.a fun X0 Y0=>Ib q p.n /\
 ∃J K L M,Cy d ⟨X0,Y0+q.toNat*4,none⟩ J K L M /\
 Wn d [vI 0,vI 0,vI 0,vI 0] 200 fun Z0=>
 Wp Z0 (aS d 0) 4 (L5 J K L M) fun j=>
 ∃(N O:Int),a8 j (aS d 2) [vI N,vI O] /\
 ∃P,rI j (aS d 0) P /\
 ∃Q,rI j (aS d 1) Q /\
 ∃(S T:Int),a8 j (aS c 0) [vI S,vI T] /\
 Wn j (L5 P Q S T) 200 fun a1=>
 br Pz (Instr.mapEntry 93 (.map o) (.agg ⟨[vI N,vI O]⟩)) a1 (fun b1 c1=>
 ∃(U:Sl) (V:Int),b1=.tuple ⟨[vS U,vI V]⟩ /\
 App Pz 197 197 (vS U) (.slice (some (aS j 0)) 1 1) c1 fun d1 e1=>
 br Pz (Instr.entryStore 93 (.map o) (vI V) (vS d1)) e1 (fun _ f1=>
 ∃W,W<W0/\V0 (wrap .i64 (q+1)) f1 W)))
 (∃(X Y:Int),a8 d (aS c 0) [vI X,vI Y] /\
 Fn Pz 166 #[.pointer (some p0),vI p1,.agg ⟨[vI X,vI Y]⟩] d
 (fun g1 v=>∃(Z:Int) (a0:Bool),g1=.tuple ⟨[vI Z,.bool a0]⟩ /\
 sB a0
 (∃(b0 c0:Int),a8 v (aS c 0) [vI b0,vI c0] /\
 Fn Pz 226 #[.agg ⟨[vI b0,vI c0]⟩,vI Z,.pointer (some (aS g 0)),.pointer (some (aS i 0))] v
 (fun h1 i1=>h1=.tuple ⟨[]⟩ /\
 ∃d0,d0<D/\C (wrap .i64 (k+1)) i1 d0))
 (∃e0,e0<D/\C (wrap .i64 (k+1)) v e0)))))
 (QI 0 c fun j1 e r k1=>
 ∃f0,rS r (aS i 0) f0 /\
 sB (decide (e<(f0.n:Int)))
 (QI 0 r fun g0 l b h0=>
 ∃w,rS b (aS i 0) w /\
 NB w.a fun l1 m1=>Ib e w.n /\
 ∃i0,rS b ⟨l1,m1+e.toNat*1,none⟩ i0 /\
 sB (decide (l<(i0.n:Int)))
 (∃x,rS b (aS i 0) x /\
 NB x.a fun n1 o1=>Ib e x.n /\
 ∃y,rS b ⟨n1,o1+e.toNat*1,none⟩ y /\
 NB y.a fun p1 q1=>Ib l y.n /\
 ∃(j0 k0:Int),a8 b ⟨p1,q1+l.toNat*2,none⟩ [vI j0,vI k0] /\
 Wn b [vI 0,vI 0] 97 fun r1=>
 Wp r1 (aS b 0) 2 [vI j0,vI k0] fun z=>
 ∃l0:Option Nat,hc z (aS g 0)=some (.map l0) /\
 ∃(m0 n0:Int),a8 z (aS b 0) [vI m0,vI n0] /\
 br Pz (Instr.lookup 293 (.map l0) (.agg ⟨[vI m0,vI n0]⟩) false) z
 (fun s1 A=>∃o0,iI s1 o0 /\
 sB (o0 != e)
 (∃p0,p0<h0/\g0 (wrap .i64 (l+1)) A p0)
 (∃(q0 r0:Int),a8 A (aS b 0) [vI q0,vI r0] /\
 br Pz (Instr.lookup 93 (.map o) (.agg ⟨[vI q0,vI r0]⟩) false) A
 (fun t1 u1=>∃s,iS t1 s /\
 QI 0 u1 fun v1 t f w1=>
 sB (decide (t<(s.n:Int)))
 (NB s.a fun x1 y1=>Ib t s.n /\
 ∃s0 t0 u0 v0,Cy f ⟨x1,y1+t.toNat*4,none⟩ s0 t0 u0 v0 /\
 Wn f [vI 0,vI 0,vI 0,vI 0] 200 fun z1=>
 Wp z1 (aS f 0) 4 (L5 s0 t0 u0 v0) fun u=>
 ∃(w0 x0:Int),a8 u (aS f 2) [vI w0,vI x0] /\
 ∃y0 z0 A0 B0,Cy u (aS f 0) y0 z0 A0 B0 /\
 Fn Pz 169 #[.agg ⟨(L5 y0 z0 A0 B0)⟩] u
 (fun A1 C0=>∃D0,iI A1 D0 /\
 Sm [(aS f 2)] u C0 /\
 Fn Pz 226 #[.agg ⟨[vI w0,vI x0]⟩,vI (wrap .i64 (e+D0)),.pointer (some (aS g 0)),.pointer (some (aS i 0))] C0
 (fun B1 C1=>B1=.tuple ⟨[]⟩ /\
 ∃E0,E0<w1/\v1 (wrap .i64 (t+1)) C1 E0)))
 (∃F0,F0<h0/\g0 (wrap .i64 (l+1)) f F0)))))
 (∃G0,G0<k1/\j1 (wrap .i64 (e+1)) b G0))
 (∃H0:Option Nat,hc r (aS g 0)=some (.map H0) /\
 R (.map H0) r))))
theorem Qp(p0:Addr)(p1:Int)(p2:Sl)(p3:Option Nat)(H:@UJ h R p0 p1 p2 p3):Fn Pz 164 #[.pointer (some p0),vI p1,vS p2,.map p3] h R:=aU (A:=(.s .z (.s .z (.s .z (.s .z (.s .z (.s (.s .z (.b (.l [(31,.one (.int .i64))] (.s .z (.s .z (.s (.b (.s .z (.s (AI 39) .z))) .z)))))) (.s (.s .z (.b (.l [(19,.one (.int .i64))] (.s .z (.s (.b (.s .z (.b (.l [(20,.one (.int .i64))] (.s .z (.s (.b (.s .z (.s .z (AI 102)))) .z)))))) .z))))) .z)))))))) H
def U3(b:Sl)(c:Value):Prop:=
 Fn Pz 71 #[vS b,c] h
 (fun d e=>∃a,iI d a /\
 R (.bool (decide (a>=0))) e)
theorem QH(p0:Sl)(p1:Value)(H:@U3 h R p0 p1):Fn Pz 131 #[vS p0,p1] h R:=aU (A:=.z) H
def U2(pa pb:Int)(pc:Sl)(f:Addr):Prop:=
 Wn h (L9 pa pb pc) 134 fun a=>
 ∃(b c:Int),a8 a (aS h 0) [vI b,vI c] /\
 ∃(d e:Int),a8 a f [vI d,vI e] /\
 R (.bool ((b==d)&&((c==e)&&true))) a
theorem QG(pa pb:Int)(pc:Sl)(c0:Addr)(H:@U2 h R pa pb pc c0):Fn Pz 132 #[.agg ⟨(L9 pa pb pc)⟩,.pointer (some c0)] h R:=aU (A:=.z) H
def W71(g:Sl)(p:Value):Prop:=
 QI 0 h fun m b f o=>
 sB (decide (b<(g.n:Int)))
 (NB g.a fun q r=>Ib b g.n /\
 ∃i j k,aL9 f ⟨q,r+b.toNat*3,none⟩ i j k /\
 match p with | .func (.func g11) fa12 fc13=>(bif au Pz g11 then Fn Pz g11 (fa12 ++ #[.agg ⟨(L9 i j k)⟩]++fc13) f
 (fun l c=>∃d,iB l d /\
 sB d
 (R (vI b) c)
 (∃e,e<o/\m (wrap .i64 (b+1)) c e)) else kZ Pz g11 (fa12 ++ #[.agg ⟨(L9 i j k)⟩]++fc13) f
 (fun l c=>∃d,iB l d /\
 sB d
 (R (vI b) c)
 (∃e,e<o/\m (wrap .i64 (b+1)) c e))) | _=>False)
 (R (vI (-1)) f)
theorem W6(p0:Sl)(p1:Value)(H:@W71 h R p0 p1):Fn Pz 71 #[vS p0,p1] h R:=aU (A:=(.s .z (.s (AI 8) .z))) H
def W72(pa pb:Int)(pc:Sl)(f:Addr):Prop:=
 Wn h (L9 pa pb pc) 134 fun a=>
 ∃(b c:Int),a8 a (aS h 0) [vI b,vI c] /\
 ∃(d e:Int),a8 a f [vI d,vI e] /\
 R (.bool ((b==d)&&((c==e)&&true))) a
theorem W5(pa pb:Int)(pc:Sl)(c0:Addr)(H:@W72 h R pa pb pc c0):Fn Pz 72 #[.agg ⟨(L9 pa pb pc)⟩,.pointer (some c0)] h R:=aU (A:=.z) H
def UZ(b:Sl):Prop:=
 vR 0 (wrap .i64 ((b.n:Int)-1)) h fun o c d e p=>
 sB (decide (c<d))
 (NB b.a fun q r=>Ib d b.n /\
 ∃f g i,jh e ⟨q,r+d.toNat*3,none⟩ f g i /\
 NB b.a fun s t=>Ib c b.n /\
 ∃j k l,jh e ⟨s,t+c.toNat*3,none⟩ j k l /\
 NB b.a fun u v=>Ib c b.n /\
 Wp e ⟨u,v+c.toNat*3,none⟩ 3 (L2 f g i) fun w=>
 NB b.a fun x y=>Ib d b.n /\
 Wp w ⟨x,y+d.toNat*3,none⟩ 3 (L2 j k l) fun z=>
 ∃m,m<p/\o (wrap .i64 (c+1)) (wrap .i64 (d-1)) z m)
 (R (.tuple ⟨[]⟩) e)
theorem QF(p0:Sl)(H:@UZ h R p0):Fn Pz 133 #[vS p0] h R:=aU (A:=(.s .z (.b (.l [(2,.one (.int .i64)),(3,.one (.int .i64))] .z)))) H
def W31(pa:ByteArray)(pb pc:Sl)(pd pe pf:Int)(pg ph:Sl)(y:Int):Prop:=
 Wn h (L0 pa pb pc pd pe pf pg ph) 27 fun g=>
 ∃i j k l m o p q,eT g (aS h 0) i j k l m o p q /\
 Fn Pz 68 #[.agg ⟨(L0 i j k l m o p q)⟩,vI y] g
 (fun z A=>∃(c:Sl) (r:Int),z=.tuple ⟨[vS c,vI r]⟩ /\
 sY ⟨none,0,0⟩ 0 A fun B e d b C=>
 sB (decide (d<(c.n:Int)))
 (NB c.a fun D E=>Ib d c.n /\
 ∃s t u,aL9 b ⟨D,E+d.toNat*3,none⟩ s t u /\
 Wn b [vI 0,vI 0,vN] 134 fun F=>
 Wp F (aS b 0) 3 (L9 s t u) fun f=>
 ∃(v w:Int),a8 f (aS b 0) [vI v,vI w] /\
 Wn f [vI v,vI w] 72 fun G=>
 App Pz 68 68 (vS e) (.slice (some (aS f 0)) 1 1) G fun H I=>
 ∃x,x<C/\B H (wrap .i64 (d+1)) I x)
 (Fn Pz 69 #[vS e,.func (.func 70) #[] #[]] b
 (fun J K=>J=.tuple ⟨[]⟩ /\
 R (.tuple ⟨[vS e,vI r]⟩) K)))
theorem Xm(pa:ByteArray)(pb pc:Sl)(pd pe pf:Int)(pg ph:Sl)(p1:Int)(H:@W31 h R pa pb pc pd pe pf pg ph p1):Fn Pz 31 #[.agg ⟨(L0 pa pb pc pd pe pf pg ph)⟩,vI p1] h R:=aU (A:=(.s .z (.s .z (.s .z (.s (AJ 8 19) .z))))) H
def W32(pa:ByteArray)(pb pc:Sl)(pd pe pf:Int)(pg ph:Sl)(t pi pj:Int):Prop:=
 Wn h (L0 pa pb pc pd pe pf pg ph) 27 fun f=>
 Wn f [vI pi,vI pj] 72 fun g=>
 ∃i j k l m o p q,eT g (aS h 0) i j k l m o p q /\
 Fn Pz 68 #[.agg ⟨(L0 i j k l m o p q)⟩,vI t] g
 (fun u r=>∃(b:Sl) (d:Int),u=.tuple ⟨[vS b,vI d]⟩ /\
 sB (d != 0)
 (R (.tuple ⟨[vN,vI d]⟩) r)
 (Fn Pz 71 #[vS b,.func (.func 72) #[] #[.pointer (some (aS f 0))]] r
 (fun v e=>∃c,iI v c /\
 sB (decide (c<0))
 (R (.tuple ⟨[vN,vI 8]⟩) e)
 (NB b.a fun w x=>Ib c b.n /\
 ∃s,rS e ⟨w,x+c.toNat*3+2,none⟩ s /\
 R (.tuple ⟨[vS s,vI 0]⟩) e))))
theorem Xl(pa:ByteArray)(pb pc:Sl)(pd pe pf:Int)(pg ph:Sl)(p1 pi pj:Int)(H:@W32 h R pa pb pc pd pe pf pg ph p1 pi pj):Fn Pz 32 #[.agg ⟨(L0 pa pb pc pd pe pf pg ph)⟩,vI p1,.agg ⟨[vI pi,vI pj]⟩] h R:=aU (A:=.z) H
def NW(q:Heap)(r:Int)(s:Heap)(b:Sl)(t:Heap)(u:Sl)(v:Sl->Heap->Prop):Prop:=
 sY ⟨(some (aS q 0)),1,1⟩ r s fun w e c d x=>
 NB b.a fun y z=>Ib c b.n /\
 ∃g,rI d ⟨y,z+c.toNat*7+3,none⟩ g /\
 sB (decide (g>=0))
 (NB b.a fun A B=>Ib c b.n /\
 ∃h i j,jh d ⟨A,B+c.toNat*7+4,none⟩ h i j /\
 Wn d (L2 h i j) 65 fun C=>
 App Pz 30 30 (vS e) (.slice (some (aS d 0)) 1 1) C fun D k=>
 NB b.a fun E F=>Ib c b.n /\
 ∃l,rI k ⟨E,F+c.toNat*7+3,none⟩ l /\
 ∃m,m<x/\w D l k m)
 (Fn Pz 133 #[vS e] d
 (fun G f=>G=.tuple ⟨[]⟩ /\
 ∃(o p:Int),a8 f (aS t 0) [vI o,vI p] /\
 Wn f (L9 o p e) 134 fun H=>
 App Pz 130 130 (vS u) (.slice (some (aS f 0)) 1 1) H fun I J=>
 v I J))
def NV(a q b c:Heap)(d:Sl)(W r:Int)(i:Sl)(s:Option Nat)(t:Nat)(u:Sl->Sl->Int->Heap->Nat->Prop)(v:Int):Prop:=
 ∃e:Sl->Heap->Prop,
 (∃w:Int,hc a (aS q 1)=some (.int .u8 w) /\
 ∃j,rI a (aS b 1) j /\
 0<=j/\sB ((B8 .u8 (bQ .u8 w j) 1)==1)
 (∃x:Int,hc a (aS c 1)=some (.int .u8 x) /\
 ∃k,rI a (aS b (1+1)) k /\
 0<=k/\Wp a (aS c 1) 1 [.int .u8 (Rb .u8 x (wx .u8 1 k))] fun X=>
 e d X)
 (∃y,rI a (aS b (1+1)) y /\
 sB (y==W)
 (∃z:Int,hc a (aS q 2)=some (.int .u8 z) /\
 ∃l,rI a (aS b 1) l /\
 0<=l/\sB ((B8 .u8 (bQ .u8 z l) 1)==0)
 (∃A:Int,hc a (aS c 2)=some (.int .u8 A) /\
 ∃m,rI a (aS b 1) m /\
 0<=m/\Wp a (aS c 2) 1 [.int .u8 (Rb .u8 A (wx .u8 1 m))] fun f=>
 ∃B,rI f (aS b 1) B /\
 ∃C,rI f (aS b (1+2)) C /\
 Wn f [vI 0,vI 0] 72 fun Y=>
 Wp Y (aS f 0) 2 [vI B,vI C] fun Z=>
 Fn Pz 131 #[vS d,.func (.func 132) #[] #[.pointer (some (aS f 0))]] Z
 (fun a0 g=>∃D,iB a0 D /\
 sB (!D)
 (∃E F G,jh g (aS b 1) E F G /\
 Wn g (L2 E F G) 65 fun b0=>
 NW g r b0 i f d e)
 (e d g)))
 (e d a))
 (e d a))) /\
 ∀(_:Env) (n:Sl) (o:Heap),e n o ->
 (∃(H I J:Int),a8 o (aS c 0) [vI H,.int .u8 I,.int .u8 J] /\
 br Pz (Instr.lookup 246 (.map s) (.agg ⟨[vI H,.int .u8 I,.int .u8 J]⟩) false) o
 (fun c0 p=>∃K,iB c0 K /\
 sB (!K)
 (∃(L M N:Int),a8 p (aS c 0) [vI L,.int .u8 M,.int .u8 N] /\
 br Pz (Instr.mapUpdate 246 (.map s) (.agg ⟨[vI L,.int .u8 M,.int .u8 N]⟩) (.bool true)) p (fun _ h=>
 ∃(O P Q:Int),a8 h (aS c 0) [vI O,.int .u8 P,.int .u8 Q] /\
 ∃R S T,jh h (aS b 1) R S T /\
 Wn h [vI O,.int .u8 P,.int .u8 Q,vI r,vI R,vI S,vI T] 248 fun d0=>
 App Pz 249 249 (vS i) (.slice (some (aS h 0)) 1 1) d0 fun e0 f0=>
 ∃U,U<t/\u e0 n (wrap .i64 (v+1)) f0 U))
 (∃V,V<t/\u i n (wrap .i64 (v+1)) p V)))
def W68(pa:ByteArray)(pb pc:Sl)(pd pe pf:Int)(pg ph:Sl)(g:Int):Prop:=
 Wn h (L0 pa pb pc pd pe pf pg ph) 27 fun D=>
 ∃E F G H I J K L,eT D (aS h 0) E F G H I J K L /\
 Fn Pz 40 #[.agg ⟨(L0 E F G H I J K L)⟩] D
 (fun I0 b=>∃M,iB I0 M /\
 sB (!M)
 (R (.tuple ⟨[vN,vI 1]⟩) b)
 (sB (decide (g<0))
 (R (.tuple ⟨[vN,vI 2]⟩) b)
 (∃N,rS b (aS h 6) N /\
 sB (decide (g>=(N.n:Int)))
 (R (.tuple ⟨[vN,vI 2]⟩) b)
 (∃e,rI b (aS h 3) e /\
 Mk e e 24/\Wn b (ah Pz 24 (e.toNat)) 24 fun O=>
 ∃p,rS O (aS h 6) p /\
 QI 0 O fun J0 q d K0=>
 sB (decide (q<(p.n:Int)))
 (NB p.a fun M0 N0=>Ib q p.n /\
 ∃P Q S T U V,mB d ⟨M0,N0+q.toNat*6,none⟩ P Q S T U V /\
 Wn d [vI 0,vI 0,vI 0,vI 0,vI 0,.bool false] 67 fun O0=>
 Wp O0 (aS d 0) 6 (L4 P Q S T U V) fun i=>
 ∃r,rI i (aS d 0) r /\
 ∃l,rI i (aS d 0) l /\
 (0<=(l:Int)/\(l:Int)<((e.toNat):Nat)) /\
 ∃W,rS i (aS b (0+l.toNat*1)) W /\
 ∃X Y Z a0 b0 c0,mB i (aS d 0) X Y Z a0 b0 c0 /\
 Wn i (L4 X Y Z a0 b0 c0) 67 fun x=>
 Sm [(aS b (0+l.toNat*1)),(aS d 0),(aS d 0)] i x /\
 App Pz 24 24 (vS W) (.slice (some (aS i 0)) 1 1) x fun P0 d0=>
 Sm [(aS d 0)] x d0 /\
 (0<=(r:Int)/\(r:Int)<((e.toNat):Nat)) /\
 Wp d0 (aS b (0+r.toNat*1)) 1 [vS P0] fun Q0=>
 ∃e0,e0<K0/\J0 (wrap .i64 (q+1)) Q0 e0)
 (QI 0 d fun R0 m c S0=>
 sB (decide (m<((e.toNat):Int)))
 ((0<=(m:Int)/\(m:Int)<((e.toNat):Nat)) /\
 ∃f0,rS c (aS b (0+m.toNat*1)) f0 /\
 Fn Pz 128 #[vS f0,.func (.func 129) #[] #[]] c
 (fun T0 U0=>T0=.tuple ⟨[]⟩ /\
 ∃g0,g0<S0/\R0 (wrap .i64 (m+1)) U0 g0))
 (∃y,rS c (aS h 6) y /\
 NB y.a fun V0 W0=>Ib g y.n /\
 ∃s,rI c ⟨V0,W0+g.toNat*6+1+1,none⟩ s /\
 ∃z,rS c (aS h 6) z /\
 NB z.a fun h0 i0=>Ib g z.n /\
 ∃j0,rI c ⟨h0,i0+g.toNat*6+4,none⟩ j0 /\
 0<=s/\Wn c [vI 0,.int .u8 0,.int .u8 0] 245 fun k0=>
 Sm [⟨h0,i0+g.toNat*6+4,none⟩,(aS h 6)] c k0 /\
 Wp k0 (aS c 0) 3 [vI j0,.int .u8 (wx .u8 1 s),.int .u8 0] fun X0=>
 br Pz (Instr.makeMap 246 (none)) X0
 (fun Y0 l0=>∃A:Option Nat,Y0=.map A /\
 ∃(m0 n0 o0:Int),a8 l0 (aS c 0) [vI m0,.int .u8 n0,.int .u8 o0] /\
 br Pz (Instr.mapUpdate 246 (.map A) (.agg ⟨[vI m0,.int .u8 n0,.int .u8 o0]⟩) (.bool true)) l0 (fun _ B=>
 ∃(p0 q0 r0:Int),a8 B (aS c 0) [vI p0,.int .u8 q0,.int .u8 r0] /\
 Wn B [vI p0,.int .u8 q0,.int .u8 r0,vI (-1),vI 0,vI 0,vI 0] 248 fun Z0=>
 N7 ⟨(some (aS B 0)),1,1⟩ ⟨none,0,0⟩ 0 Z0 fun a1 t s0 o f b1=>
 sB (decide (o<(t.n:Int)))
 (NB t.a fun c1 d1=>Ib o t.n /\
 ∃(t0 u0 v0:Int),a8 f ⟨c1,d1+o.toNat*7,none⟩ [vI t0,.int .u8 u0,.int .u8 v0] /\
 Wn f [vI 0,.int .u8 0,.int .u8 0] 245 fun e1=>
 Wp e1 (aS f 0) 3 [vI t0,.int .u8 u0,.int .u8 v0] fun C=>
 ∃u,rI C (aS f 0) u /\
 (0<=(u:Int)/\(u:Int)<((e.toNat):Nat)) /\
 ∃v,rS C (aS b (0+u.toNat*1)) v /\
 N7 t s0 0 C fun f1 w0 x0 w j g1=>
 sB (decide (w<(v.n:Int)))
 (NB v.a fun h1 i1=>Ib w v.n /\
 ∃y0 z0 A0 B0 C0 D0,mB j ⟨h1,i1+w.toNat*6,none⟩ y0 z0 A0 B0 C0 D0 /\
 Wn j [vI 0,vI 0,vI 0,vI 0,vI 0,.bool false] 67 fun j1=>
 Wp j1 (aS j 0) 6 (L4 y0 z0 A0 B0 C0 D0) fun k=>
 ∃E0,rI k (aS j 4) E0 /\
 ∃F0:Int,hc k (aS f 1)=some (.int .u8 F0) /\
 ∃G0:Int,hc k (aS f 2)=some (.int .u8 G0) /\
 Wn k [vI 0,.int .u8 0,.int .u8 0] 245 fun k1=>
 Wp k1 (aS k 0) 3 [vI E0,.int .u8 F0,.int .u8 G0] fun l1=>
 NV l1 f j k x0 s o w0 A g1 f1 w)
 (∃H0,H0<b1/\a1 w0 x0 (wrap .i64 (o+1)) j H0))
 (R (.tuple ⟨[vS s0,vI 0]⟩) f)))))))))
theorem W8(pa:ByteArray)(pb pc:Sl)(pd pe pf:Int)(pg ph:Sl)(p1:Int)(H:@W68 h R pa pb pc pd pe pf pg ph p1):Fn Pz 68 #[.agg ⟨(L0 pa pb pc pd pe pf pg ph)⟩,vI p1] h R:=aU (A:=(.s .z (.s .z (.s .z (.s (AI 44) (.s (AI 63) (.s .z (.s .z (.s .z (.s .z (.s .z (.s (.s .z (.b (.l [(14,.one (.slice)),(15,.one (.slice)),(16,.one (.int .i64))] (.s .z (.s (.b (.s .z (.s .z (.b (.l [(14,.one (.slice)),(15,.one (.slice)),(109,.one (.int .i64))] (.s .z (.s .z (.s (.b (.s .z (.s .z (.j [(15,.one (.slice))] (.b (.s .z (.c .z (.s .z (.c (.s .z (.s .z (.s .z (.c (.s .z (.s (AJ 22 23) .z)) .z)))) .z))))) .z)))) .z)))))))) .z))))) .z)))))))))))) H
end Go.VC
end
