/- SxVcA SxVcJ SxVcJ2 SxVcU SxVcV SxVcM SxVcD SxVcF SxVcB SxVcC SxVcH SxVcI SxVcK SxVcL SxVcX SxVcW SxVcS1 SxVcS2 SxVcS4 SxVcS3 SxVcS5 SxVcS6 SxVcS7 SxVcS8 SxVcS9. -/
import Derived.Test.YtajglkbckhgboaaGreatDoorFM01
set_option linter.all false
set_option maxRecDepth 100000
set_option maxHeartbeats 8000000

section
namespace Go.VC
open Go.Proofs IntKind
variable {h:Heap} {R:Value->Heap->Prop}
def W222 (p0:ByteArray):Prop:=
 sB ((ByteArray.toList p0)==(ByteArray.toList ⟨#[]⟩))
 (R (.bool false) h)
 (sB (decide ((ByteArray.size p0:Int)>16))
 (R (.bool false) h)
 ((0<=(0:Int)/\(0:Int)<(ByteArray.size p0:Nat)) /\
 Fn Pz 265 #[.int .u8 (byteAt p0 (Int.toNat 0):Int)] h
 (fun v1 h3=>∃x2,iB v1 x2 /\
 sB (!x2)
 (R (.bool false) h3)
 (QI 0 h3 fun I4 x_7 h8 m6=>
 sB (decide (x_7<(ByteArray.size p0:Int)))
 ((0<=(x_7:Int)/\(x_7:Int)<(ByteArray.size p0:Nat)) /\
 Fn Pz 266 #[.int .u8 (byteAt p0 (x_7.toNat):Int)] h8
 (fun v9 h11=>∃x10,iB v9 x10 /\
 sB (!x10)
 (R (.bool false) h11)
 (∃m12,m12<m6/\I4 (wrap .i64 (x_7+1)) h11 m12)))
 (R (.bool true) h8)))))
theorem vc222 (p0:ByteArray) (H:@W222 h R p0):Fn Pz 222 #[.string p0] h R:=fnJ (A:=(.s .z (.s .z (.s (AI 19) .z)))) H
def W160 (p0:ByteArray):Prop:=
 Wn h [.string ⟨#[]⟩,.string ⟨#[]⟩,.string ⟨#[]⟩,.string ⟨#[]⟩,.string ⟨#[]⟩,.string ⟨#[]⟩,.string ⟨#[]⟩,.string ⟨#[]⟩,.string ⟨#[]⟩,.string ⟨#[]⟩,.string ⟨#[]⟩,.string ⟨#[]⟩,.string ⟨#[]⟩,.string ⟨#[]⟩,.string ⟨#[]⟩,.string ⟨#[]⟩,.string ⟨#[]⟩,.string ⟨#[]⟩,.string ⟨#[]⟩,.string ⟨#[]⟩,.string ⟨#[]⟩,.string ⟨#[]⟩,.string ⟨#[]⟩,.string ⟨#[]⟩,.string ⟨#[]⟩,.string ⟨#[]⟩,.string ⟨#[]⟩,.string ⟨#[]⟩] 348 fun h1=>
 Wp h1 (aS h 0) 28 [.string ⟨#[97,103,97,105,110]⟩,.string ⟨#[97,110,100]⟩,.string ⟨#[97,115]⟩,.string ⟨#[97,116]⟩,.string ⟨#[99,97,108,108]⟩,.string ⟨#[99,104,111,105,99,101]⟩,.string ⟨#[101,108,115,101]⟩,.string ⟨#[102,114,111,109]⟩,.string ⟨#[105,102]⟩,.string ⟨#[105,110,116]⟩,.string ⟨#[108,101,110]⟩,.string ⟨#[108,111,111,112]⟩,.string ⟨#[109,101,115,115,97,103,101]⟩,.string ⟨#[111,102]⟩,.string ⟨#[111,102,102,101,114]⟩,.string ⟨#[111,110]⟩,.string ⟨#[111,114]⟩,.string ⟨#[112,97,114]⟩,.string ⟨#[112,108,97,121,115]⟩,.string ⟨#[112,114,111,116,111,99,111,108]⟩,.string ⟨#[115,101,114,118,105,99,101]⟩,.string ⟨#[116,101,120,116]⟩,.string ⟨#[116,105,109,101,115]⟩,.string ⟨#[116,111]⟩,.string ⟨#[118,97,114]⟩,.string ⟨#[119,104,101,114,101]⟩,.string ⟨#[119,104,105,108,101]⟩,.string ⟨#[119,105,116,104,105,110]⟩] fun h2=>
 Fn Pz 222 #[.string p0] h2
 (fun v3 h5=>∃x4,iB v3 x4 /\
 sB x4
 (((0:Int)<=(0:Int)/\(0:Int)<=((28:Nat):Int)/\((28:Nat):Int)<=(28:Nat)) /\
 Fn Pz 161 #[.slice (subA (some (aS h 0)) (Int.toNat 0) 28 1) (Int.toNat (28:Nat)-Int.toNat 0) (28-Int.toNat 0),.string p0] h5
 (fun v6 h8=>∃x7,iB v6 x7 /\
 R (.bool (!x7)) h8))
 (R (.bool false) h5))
theorem vc160 (p0:ByteArray) (H:@W160 h R p0):Fn Pz 160 #[.string p0] h R:=fnJ (A:=.z) H
def W265 (p0:Int):Prop:=
 sB (decide ((97:Int)<=p0))
 (sB (decide (p0<=122))
 (R (.bool true) h)
 (sB (decide ((65:Int)<=p0))
 (R (.bool (decide (p0<=90))) h)
 (R (.bool false) h)))
 (sB (decide ((65:Int)<=p0))
 (R (.bool (decide (p0<=90))) h)
 (R (.bool false) h))
theorem vc265 (p0:Int) (H:@W265 h R p0):Fn Pz 265 #[.int .u8 p0] h R:=fnJ (A:=.z) H
def W266 (p0:Int):Prop:=
 Fn Pz 265 #[.int .u8 p0] h
 (fun v1 h3=>∃x2,iB v1 x2 /\
 sB x2
 (R (.bool true) h3)
 (Fn Pz 296 #[.int .u8 p0] h3
 (fun v4 h6=>∃x5,iB v4 x5 /\
 sB x5
 (R (.bool true) h6)
 (R (.bool (p0==95)) h6))))
theorem vc266 (p0:Int) (H:@W266 h R p0):Fn Pz 266 #[.int .u8 p0] h R:=fnJ (A:=.z) H
def W296 (p0:Int):Prop:=
 sB (decide ((48:Int)<=p0))
 (R (.bool (decide (p0<=57))) h)
 (R (.bool false) h)
theorem vc296 (p0:Int) (H:@W296 h R p0):Fn Pz 296 #[.int .u8 p0] h R:=fnJ (A:=.z) H
def W223 (p0:Sl) (p1:ByteArray):Prop:=
 QI 0 h fun I1 x_4 h5 m3=>
 sB (decide (x_4<(p0.n:Int)))
 (NB p0.a fun b6 o7=>Ib x_4 p0.n /\
 ∃x8,rT h5 ⟨b6,o7+x_4.toNat*1,none⟩ x8 /\
 sB ((ByteArray.toList p1)==(ByteArray.toList x8))
 (R (vI x_4) h5)
 (∃m9,m9<m3/\I1 (wrap .i64 (x_4+1)) h5 m9))
 (R (vI (-1)) h5)
theorem vc223 (p0:Sl) (p1:ByteArray) (H:@W223 h R p0 p1):Fn Pz 223 #[vS p0,.string p1] h R:=fnJ (A:=(.s .z (.s (AI 8) .z))) H
def W161 (p0:Sl) (p1:ByteArray):Prop:=
 Fn Pz 223 #[vS p0,.string p1] h
 (fun v1 h3=>∃x2,iI v1 x2 /\
 R (.bool (decide (x2>=0))) h3)
theorem vc161 (p0:Sl) (p1:ByteArray) (H:@W161 h R p0 p1):Fn Pz 161 #[vS p0,.string p1] h R:=fnJ (A:=.z) H
def W308 (p0:Sl) (p1:FuncId):Prop:=
 QI 0 h fun I1 x_4 h5 m3=>
 sB (decide (x_4<(p0.n:Int)))
 (NB p0.a fun b6 o7=>Ib x_4 p0.n /\
 ∃x8,rT h5 ⟨b6,o7+x_4.toNat*1,none⟩ x8 /\
 bif callable Pz p1 then Fn Pz p1 #[.string x8] h5
 (fun v9 h11=>∃x10,iB v9 x10 /\
 sB x10
 (R (vI x_4) h11)
 (∃m12,m12<m3/\I1 (wrap .i64 (x_4+1)) h11 m12)) else ExtW Pz p1 #[.string x8] h5
 (fun v9 h11=>∃x10,iB v9 x10 /\
 sB x10
 (R (vI x_4) h11)
 (∃m12,m12<m3/\I1 (wrap .i64 (x_4+1)) h11 m12)))
 (R (vI (-1)) h5)
theorem vc308 (p0:Sl) (p1:FuncId) (H:@W308 h R p0 p1):Fn Pz 308 #[vS p0,.func (.func p1) #[] #[]] h R:=fnJ (A:=(.s .z (.s (AI 8) .z))) H
def W297 (p0:Sl) (p1:Value):Prop:=
 Fn Pz 308 #[vS p0,p1] h
 (fun v1 h3=>∃x2,iI v1 x2 /\
 R (.bool (decide (x2>=0))) h3)
theorem vc297 (p0:Sl) (p1:Value) (H:@W297 h R p0 p1):Fn Pz 297 #[vS p0,p1] h R:=fnJ (A:=.z) H
def W299 (p0:ByteArray):Prop:=
 Fn Pz 160 #[.string p0] h
 (fun v1 h3=>∃x2,iB v1 x2 /\
 R (.bool (!x2)) h3)
theorem vc299 (p0:ByteArray) (H:@W299 h R p0):Fn Pz 299 #[.string p0] h R:=fnJ (A:=.z) H
def W268 (p0:ByteArray):Prop:=
 sB (decide ((ByteArray.size p0:Int)<=50))
 (Fn Pz 298 #[.string p0,.string ⟨#[46]⟩] h
 (fun v1 h3=>∃x2,iS v1 x2 /\
 Fn Pz 297 #[vS x2,.func (.func 299) #[] #[]] h3
 (fun v4 h6=>∃x5,iB v4 x5 /\
 R (.bool (!x5)) h6)))
 (R (.bool false) h)
theorem vc268 (p0:ByteArray) (H:@W268 h R p0):Fn Pz 268 #[.string p0] h R:=fnJ (A:=.z) H
def W267 (p0:Sl):Prop:=
 QSI ⟨none,0,0⟩ 0 h fun I1 out_4 x_5 h6 m3=>
 sB (decide (x_5<(p0.n:Int)))
 (NB p0.a fun b7 o8=>Ib x_5 p0.n /\
 ∃x9 x10 x11 x12 x13,aL7 h6 ⟨b7,o8+x_5.toNat*5,none⟩ x9 x10 x11 x12 x13 /\
 Wn h6 [.string ⟨#[]⟩,vN,vI 0,vN,vN] 171 fun h14=>
 Wp h14 (aS h6 0) 5 (L7 x9 x10 x11 x12 x13) fun h15=>
 ∃x16,rS h15 (aS h6 1) x16 /\
 App Pz 166 166 (vS out_4) (vS x16) h15 fun s17 h18=>
 ∃m19,m19<m3/\I1 s17 (wrap .i64 (x_5+1)) h18 m19)
 (R (vS out_4) h6)
theorem vc267 (p0:Sl) (H:@W267 h R p0):Fn Pz 267 #[vS p0] h R:=fnJ (A:=(.s .z (.s .z (.s (AJ 3 8) .z)))) H
def W270 (pa:ByteArray) (pb:Sl) (pc:Int) (pd pe:Sl) (c0:Addr):Prop:=
 Wn h (L7 pa pb pc pd pe) 171 fun h6=>
 ∃x7,rT h6 (aS h 0) x7 /\
 ∃x8,rT h6 c0 x8 /\
 R (.bool ((ByteArray.toList x7)==(ByteArray.toList x8))) h6
theorem vc270 (pa:ByteArray) (pb:Sl) (pc:Int) (pd pe:Sl) (c0:Addr) (H:@W270 h R pa pb pc pd pe c0):Fn Pz 270 #[.agg ⟨(L7 pa pb pc pd pe)⟩,.pointer (some c0)] h R:=fnJ (A:=.z) H
def W273 (pa:ByteArray) (pb pc pd:Int) (c0:Addr):Prop:=
 Wn h (L8 pa pb pc pd) 260 fun h5=>
 ∃x6,rT h5 (aS h 0) x6 /\
 ∃x7,rT h5 c0 x7 /\
 R (.bool ((ByteArray.toList x6)==(ByteArray.toList x7))) h5
theorem vc273 (pa:ByteArray) (pb pc pd:Int) (c0:Addr) (H:@W273 h R pa pb pc pd c0):Fn Pz 273 #[.agg ⟨(L8 pa pb pc pd)⟩,.pointer (some c0)] h R:=fnJ (A:=.z) H
def W271 (pa pb pc:Int):Prop:=
 Wn h (L4 pa pb pc) 258 fun h4=>
 ∃x5,rI h4 (aS h 0) x5 /\
 sB (x5==1)
 (∃x6,rI h4 (aS h 1) x6 /\
 sB (decide (x6>=(-1000)))
 (∃x7,rI h4 (aS h 1) x7 /\
 ∃x8,rI h4 (aS h 2) x8 /\
 sB (decide (x7<=x8))
 (∃x9,rI h4 (aS h 2) x9 /\
 R (.bool (decide (x9<=1000))) h4)
 (R (.bool false) h4))
 (R (.bool false) h4))
 (sB (x5==2)
 (∃x10,rI h4 (aS h 1) x10 /\
 sB (decide (x10>=0))
 (∃x11,rI h4 (aS h 1) x11 /\
 ∃x12,rI h4 (aS h 2) x12 /\
 sB (decide (x11<=x12))
 (∃x13,rI h4 (aS h 2) x13 /\
 R (.bool (decide (x13<=40))) h4)
 (R (.bool false) h4))
 (R (.bool false) h4))
 (R (.bool false) h4))
theorem vc271 (pa pb pc:Int) (H:@W271 h R pa pb pc):Fn Pz 271 #[.agg ⟨(L4 pa pb pc)⟩] h R:=fnJ (A:=.z) H
def W300 (p0:Sl) (p1:FuncId) (p1c:Option Addr):Prop:=
 QI 0 h fun I1 x_4 h5 m3=>
 sB (decide (x_4<(p0.n:Int)))
 (NB p0.a fun b6 o7=>Ib x_4 p0.n /\
 ∃x8 x9 x10 x11 x12,aL7 h5 ⟨b6,o7+x_4.toNat*5,none⟩ x8 x9 x10 x11 x12 /\
 bif callable Pz p1 then Fn Pz p1 #[.agg ⟨(L7 x8 x9 x10 x11 x12)⟩,.pointer p1c] h5
 (fun v13 h15=>∃x14,iB v13 x14 /\
 sB x14
 (R (vI x_4) h15)
 (∃m16,m16<m3/\I1 (wrap .i64 (x_4+1)) h15 m16)) else ExtW Pz p1 #[.agg ⟨(L7 x8 x9 x10 x11 x12)⟩,.pointer p1c] h5
 (fun v13 h15=>∃x14,iB v13 x14 /\
 sB x14
 (R (vI x_4) h15)
 (∃m16,m16<m3/\I1 (wrap .i64 (x_4+1)) h15 m16)))
 (R (vI (-1)) h5)
theorem vc300 (p0:Sl) (p1:FuncId) (p1c:Option Addr) (H:@W300 h R p0 p1 p1c):Fn Pz 300 #[vS p0,.func (.func p1) #[] #[.pointer p1c]] h R:=fnJ (A:=(.s .z (.s (AI 8) .z))) H
def W301 (p0:Sl) (p1:FuncId) (p1c:Option Addr):Prop:=
 QI 0 h fun I1 x_4 h5 m3=>
 sB (decide (x_4<(p0.n:Int)))
 (NB p0.a fun b6 o7=>Ib x_4 p0.n /\
 ∃x8 x9 x10 x11,aL8 h5 ⟨b6,o7+x_4.toNat*4,none⟩ x8 x9 x10 x11 /\
 bif callable Pz p1 then Fn Pz p1 #[.agg ⟨(L8 x8 x9 x10 x11)⟩,.pointer p1c] h5
 (fun v12 h14=>∃x13,iB v12 x13 /\
 sB x13
 (R (vI x_4) h14)
 (∃m15,m15<m3/\I1 (wrap .i64 (x_4+1)) h14 m15)) else ExtW Pz p1 #[.agg ⟨(L8 x8 x9 x10 x11)⟩,.pointer p1c] h5
 (fun v12 h14=>∃x13,iB v12 x13 /\
 sB x13
 (R (vI x_4) h14)
 (∃m15,m15<m3/\I1 (wrap .i64 (x_4+1)) h14 m15)))
 (R (vI (-1)) h5)
theorem vc301 (p0:Sl) (p1:FuncId) (p1c:Option Addr) (H:@W301 h R p0 p1 p1c):Fn Pz 301 #[vS p0,.func (.func p1) #[] #[.pointer p1c]] h R:=fnJ (A:=(.s .z (.s (AI 8) .z))) H
def W269 (p0:Sl) (p1:Value):Prop:=
 Fn Pz 300 #[vS p0,p1] h
 (fun v1 h3=>∃x2,iI v1 x2 /\
 R (.bool (decide (x2>=0))) h3)
theorem vc269 (p0:Sl) (p1:Value) (H:@W269 h R p0 p1):Fn Pz 269 #[vS p0,p1] h R:=fnJ (A:=.z) H
def W272 (p0:Sl) (p1:Value):Prop:=
 Fn Pz 301 #[vS p0,p1] h
 (fun v1 h3=>∃x2,iI v1 x2 /\
 R (.bool (decide (x2>=0))) h3)
theorem vc272 (p0:Sl) (p1:Value) (H:@W272 h R p0 p1):Fn Pz 272 #[vS p0,p1] h R:=fnJ (A:=.z) H
def W274 (pa pb p1:Sl):Prop:=
 Wn h [vS pa,vS pb] 169 fun h3=>
 ∃x4,rS h3 (aS h 0) x4 /\
 sB (decide ((x4.n:Int)>20))
 (R (.bool false) h3)
 (∃x5,rS h3 (aS h 1) x5 /\
 sB (decide ((x5.n:Int)>20))
 (R (.bool false) h3)
 (∃x6,rS h3 (aS h 0) x6 /\
 QI 0 h3 fun I7 x_10 h11 m9=>
 sB (decide (x_10<(x6.n:Int)))
 (NB x6.a fun b12 o13=>Ib x_10 x6.n /\
 ∃x14 x15 x16,aL4 h11 ⟨b12,o13+x_10.toNat*3,none⟩ x14 x15 x16 /\
 Wn h11 [vI 0,vI 0,vI 0] 263 fun h17=>
 Wp h17 (aS h11 0) 3 (L4 x14 x15 x16) fun h18=>
 ∃x19,rI h18 (aS h11 0) x19 /\
 ∃x20,rI h18 (aS h11 1) x20 /\
 sB (decide ((imin x19 x20)<(-1)))
 (R (.bool false) h18)
 (∃x21,rI h18 (aS h11 0) x21 /\
 ∃x22,rI h18 (aS h11 1) x22 /\
 sB (decide ((imax x21 x22)>=(p1.n:Int)))
 (R (.bool false) h18)
 (∃x23,rI h18 (aS h11 2) x23 /\
 sB (decide (x23<(-20000)))
 (R (.bool false) h18)
 (∃x24,rI h18 (aS h11 2) x24 /\
 sB (decide (x24>20000))
 (R (.bool false) h18)
 (∃m25,m25<m9/\I7 (wrap .i64 (x_10+1)) h18 m25)))))
 (∃x26,rS h11 (aS h 1) x26 /\
 QI 0 h11 fun I27 x_30 h31 m29=>
 sB (decide (x_30<(x26.n:Int)))
 (NB x26.a fun b32 o33=>Ib x_30 x26.n /\
 ∃(x34 x35:Int),atC h31 ⟨b32,o33+x_30.toNat*2,none⟩ [vI x34,vI x35] /\
 Wn h31 [vI 0,vI 0] 52 fun h36=>
 Wp h36 (aS h31 0) 2 [vI x34,vI x35] fun h37=>
 ∃(x38 x39:Int),atC h37 (aS h31 0) [vI x38,vI x39] /\
 QI 0 h37 fun I40 x_43 h44 m42=>
 sB (decide (x_43<2))
 (Ib x_43 2/\∃x45:Int,List.take 1 (List.drop (x_43.toNat*1) ([vI x38,vI x39]:List Value))=[vI x45] /\
 sB (decide (x45<0))
 (R (.bool false) h44)
 (sB (decide (x45>=(p1.n:Int)))
 (R (.bool false) h44)
 (NB p1.a fun b46 o47=>Ib x45 p1.n /\
 ∃x48,rI h44 ⟨b46,o47+x45.toNat*4+1,none⟩ x48 /\
 sB (x48 != 2)
 (R (.bool false) h44)
 (∃m49,m49<m42/\I40 (wrap .i64 (x_43+1)) h44 m49))))
 (∃m50,m50<m29/\I27 (wrap .i64 (x_30+1)) h44 m50))
 (R (.bool true) h31))))
theorem vc274 (pa pb p1:Sl) (H:@W274 h R pa pb p1):Fn Pz 274 #[.agg ⟨[vS pa,vS pb]⟩,vS p1] h R:=fnJ (A:=(.s .z (.s .z (.s (AI 24) (.s (.s .z (.b (.l [(58,.one (.int .i64))] (.s .z (.s .z (.s (.b (.s .z (AI 63))) .z)))))) .z))))) H
def W224 (p0:Sl):Prop:=
 sB (decide ((p0.n:Int)>40))
 (R (.bool false) h)
 (Fn Pz 267 #[vS p0] h
 (fun v1 h3=>∃x2,iS v1 x2 /\
 sB (decide ((x2.n:Int)>24))
 (R (.bool false) h3)
 (QII 0 0 h3 fun I4 at_7 x_8 h9 m6=>
 sB (decide (x_8<(p0.n:Int)))
 (NB p0.a fun b10 o11=>Ib x_8 p0.n /\
 ∃x12 x13 x14 x15 x16,aL7 h9 ⟨b10,o11+x_8.toNat*5,none⟩ x12 x13 x14 x15 x16 /\
 Wn h9 [.string ⟨#[]⟩,vN,vI 0,vN,vN] 171 fun h17=>
 Wp h17 (aS h9 0) 5 (L7 x12 x13 x14 x15 x16) fun h18=>
 ∃x19,rT h18 (aS h9 0) x19 /\
 Fn Pz 268 #[.string x19] h18
 (fun v20 h22=>∃x21,iB v20 x21 /\
 sB (!x21)
 (R (.bool false) h22)
 (∃x23,rS h22 (aS h9 1) x23 /\
 sB (decide ((x23.n:Int)>4))
 (R (.bool false) h22)
 (∃x24,rI h22 (aS h9 2) x24 /\
 sB (x24 != at_7)
 (R (.bool false) h22)
 (((0:Int)<=(0:Int)/\(0:Int)<=(x_8:Int)/\(x_8:Int)<=(p0.c:Nat)) /\
 Fn Pz 269 #[.slice (subA p0.a (Int.toNat 0) p0.c 5) (x_8.toNat-Int.toNat 0) (p0.c-Int.toNat 0),.func (.func 270) #[] #[.pointer (some (aS h9 0))]] h22
 (fun v25 h27=>∃x26,iB v25 x26 /\
 sB x26
 (R (.bool false) h27)
 (∃x28,rS h27 (aS h9 1) x28 /\
 ∃x29,rS h27 (aS h9 1) x29 /\
 QI 0 h27 fun I30 x_33 h34 m32=>
 sB (decide (x_33<(x29.n:Int)))
 (NB x29.a fun b35 o36=>Ib x_33 x29.n /\
 ∃x37 x38 x39 x40,aL8 h34 ⟨b35,o36+x_33.toNat*4,none⟩ x37 x38 x39 x40 /\
 Wn h34 [.string ⟨#[]⟩,vI 0,vI 0,vI 0] 260 fun h41=>
 Wp h41 (aS h34 0) 4 (L8 x37 x38 x39 x40) fun h42=>
 ∃x43,rT h42 (aS h34 0) x43 /\
 Fn Pz 160 #[.string x43] h42
 (fun v44 h46=>∃x45,iB v44 x45 /\
 sB (!x45)
 (R (.bool false) h46)
 (∃x47 x48 x49,aL4 h46 (aS h34 1) x47 x48 x49 /\
 Fn Pz 271 #[.agg ⟨(L4 x47 x48 x49)⟩] h46
 (fun v50 h52=>∃x51,iB v50 x51 /\
 sB (!x51)
 (R (.bool false) h52)
 (∃x53,rS h52 (aS h9 1) x53 /\
 ((0:Int)<=(0:Int)/\(0:Int)<=(x_33:Int)/\(x_33:Int)<=(x53.c:Nat)) /\
 Fn Pz 272 #[.slice (subA x53.a (Int.toNat 0) x53.c 4) (x_33.toNat-Int.toNat 0) (x53.c-Int.toNat 0),.func (.func 273) #[] #[.pointer (some (aS h34 0))]] h52
 (fun v54 h56=>∃x55,iB v54 x55 /\
 sB x55
 (R (.bool false) h56)
 (∃m57,m57<m32/\I30 (wrap .i64 (x_33+1)) h56 m57)))))))
 (∃(x58 x59:Sl),atC h34 (aS h9 3) [vS x58,vS x59] /\
 Fn Pz 274 #[.agg ⟨[vS x58,vS x59]⟩,vS x2] h34
 (fun v60 h62=>∃x61,iB v60 x61 /\
 sB (!x61)
 (R (.bool false) h62)
 (∃m63,m63<m6/\I4 (wrap .i64 (at_7+(x28.n:Int))) (wrap .i64 (x_8+1)) h62 m63))))))))))
 (R (.bool true) h9))))
theorem vc224 (p0:Sl) (H:@W224 h R p0):Fn Pz 224 #[vS p0] h R:=fnJ (A:=(.s .z (.s .z (.s .z (.s .z (.s .z (.s (.s .z (.b (.l [(4,.one (.int .i64)),(19,.one (.int .i64))] (.s .z (.s .z (.s (.b (.s .z (.s .z (.s .z (.s (AI 55) .z))))) .z)))))) .z))))))) H
def W225 (pa:ByteArray) (pb:Sl) (pc:Int) (pd pe:Sl):Prop:=
 Wn h (L7 pa pb pc pd pe) 171 fun h6=>
 ∃x7,rS h6 (aS h 1) x7 /\
 QSI ⟨none,0,0⟩ 0 h6 fun I8 out_11 x_12 h13 m10=>
 sB (decide (x_12<(x7.n:Int)))
 (NB x7.a fun b14 o15=>Ib x_12 x7.n /\
 ∃x16 x17 x18 x19,aL8 h13 ⟨b14,o15+x_12.toNat*4,none⟩ x16 x17 x18 x19 /\
 Wn h13 [.string ⟨#[]⟩,vI 0,vI 0,vI 0] 260 fun h20=>
 Wp h20 (aS h13 0) 4 (L8 x16 x17 x18 x19) fun h21=>
 ∃x22,rI h21 (aS h 2) x22 /\
 ∃x23,rI h21 (aS h13 (1+2)) x23 /\
 ∃x24,rI h21 (aS h 2) x24 /\
 ∃x25,rI h21 (aS h13 (1+1)) x25 /\
 Wn h21 [vI (wrap .i64 (x22+x_12)),vI (-1),vI x23,vI (-1),vI (wrap .i64 (x24+x_12)),vI (wrap .i64 (0-x25))] 263 fun h26=>
 App Pz 167 167 (vS out_11) (.slice (some (aS h21 0)) 2 2) h26 fun s27 h28=>
 ∃m29,m29<m10/\I8 s27 (wrap .i64 (x_12+1)) h28 m29)
 (∃x30,rS h13 (aS h 3) x30 /\
 App Pz 167 167 (vS out_11) (vS x30) h13 fun s31 h32=>
 ∃x33,rS h32 (aS h (3+1)) x33 /\
 QSI s31 0 h32 fun I34 out_37 x_38 h39 m36=>
 sB (decide (x_38<(x33.n:Int)))
 (NB x33.a fun b40 o41=>Ib x_38 x33.n /\
 ∃(x42 x43:Int),atC h39 ⟨b40,o41+x_38.toNat*2,none⟩ [vI x42,vI x43] /\
 Wn h39 [vI 0,vI 0] 52 fun h44=>
 Wp h44 (aS h39 0) 2 [vI x42,vI x43] fun h45=>
 Ib 0 2 /\
 ∃x46,rI h45 (aS h39 (0+Int.toNat 0*1)) x46 /\
 Ib 1 2 /\
 ∃x47,rI h45 (aS h39 (0+Int.toNat 1*1)) x47 /\
 Ib 1 2 /\
 ∃x48,rI h45 (aS h39 (0+Int.toNat 1*1)) x48 /\
 Ib 0 2 /\
 ∃x49,rI h45 (aS h39 (0+Int.toNat 0*1)) x49 /\
 Wn h45 [vI x46,vI x47,vI 0,vI x48,vI x49,vI 0] 263 fun h50=>
 App Pz 167 167 (vS out_37) (.slice (some (aS h45 0)) 2 2) h50 fun s51 h52=>
 ∃m53,m53<m36/\I34 s51 (wrap .i64 (x_38+1)) h52 m53)
 (R (vS out_37) h39))
theorem vc225 (pa:ByteArray) (pb:Sl) (pc:Int) (pd pe:Sl) (H:@W225 h R pa pb pc pd pe):Fn Pz 225 #[.agg ⟨(L7 pa pb pc pd pe)⟩] h R:=fnJ (A:=(.s .z (.s .z (.s (AJ 3 11) (.s .z (.s (AJ 3 46) .z)))))) H
def W162 (p0:Sl) (p1:Int):Prop:=
 sB (decide (p1<0))
 (R (.tuple ⟨[vN,vI 1]⟩) h)
 (sB (decide (p1>=(p0.n:Int)))
 (R (.tuple ⟨[vN,vI 1]⟩) h)
 (Fn Pz 224 #[vS p0] h
 (fun v1 h3=>∃x2,iB v1 x2 /\
 sB (!x2)
 (R (.tuple ⟨[vN,vI 1]⟩) h3)
 (NB p0.a fun b4 o5=>Ib p1 p0.n /\
 ∃x6 x7 x8 x9 x10,aL7 h3 ⟨b4,o5+p1.toNat*5,none⟩ x6 x7 x8 x9 x10 /\
 Fn Pz 225 #[.agg ⟨(L7 x6 x7 x8 x9 x10)⟩] h3
 (fun v11 h13=>∃x12,iS v11 x12 /\
 R (.tuple ⟨[vS x12,vI 0]⟩) h13)))))
theorem vc162 (p0:Sl) (p1:Int) (H:@W162 h R p0 p1):Fn Pz 162 #[vS p0,vI p1] h R:=fnJ (A:=.z) H
end Go.VC
end

section
namespace Go.VC
open Go.Proofs IntKind
variable [Mono]
namespace M
def W111 (p0:Int) (h:Heap) (R:Value->Heap->Prop):Prop:=
 R (.bool (p0 != p0)) h
theorem vc111 (p0:Int) (h:Heap) (R:Value->Heap->Prop) (H:W111 p0 h R):Fn Pz 111 #[vI p0] h R:=fnJ (A:=.z) H
def W54 (p0 p1:Int) (h:Heap) (R:Value->Heap->Prop):Prop:=
 Fn Pz 111 #[vI p0] h
 (fun v1 h3=>∃x2,iB v1 x2 /\
 Fn Pz 111 #[vI p1] h3
 (fun v4 h6=>∃x5,iB v4 x5 /\
 sB x2
 (sB x5
 (R (vI 0) h6)
 (R (vI (-1)) h6))
 (sB x5
 (R (vI 1) h6)
 (sB (decide (p0<p1))
 (R (vI (-1)) h6)
 (sB (decide (p0>p1))
 (R (vI 1) h6)
 (R (vI 0) h6))))))
theorem vc54 (p0 p1:Int) (h:Heap) (R:Value->Heap->Prop) (H:W54 p0 p1 h R):Fn Pz 54 #[vI p0,vI p1] h R:=fnJ (A:=.z) H
def W53 (p0:Sl) (h:Heap) (R:Value->Heap->Prop):Prop:=
 QI 0 h fun I1 x_4 h5 m3=>
 sB (decide (x_4<(p0.n:Int)))
 (NB p0.a fun b6 o7=>Ib x_4 p0.n /\
 ∃x8,rI h5 ⟨b6,o7+x_4.toNat*1,none⟩ x8 /\
 sB (x8 != 0)
 (R (vI x8) h5)
 (∃m9,m9<m3/\I1 (wrap .i64 (x_4+1)) h5 m9))
 (R (vI 0) h5)
theorem vc53 (p0:Sl) (h:Heap) (R:Value->Heap->Prop) (H:W53 p0 h R):Fn Pz 53 #[vS p0] h R:=fnJ (A:=(.s .z (.s .z (.s (AI 8) .z)))) H
def W125 (pa:Bool) (pb pc:Int) (pd:Bool) (pe pf:Int) (h:Heap) (R:Value->Heap->Prop):Prop:=
 Wn h (L1 pa pb pc) 140 fun h7=>
 Wn h7 (L1 pd pe pf) 140 fun h8=>
 ∃x9,rB h8 (aS h 0) x9 /\
 ∃x10,rB h8 (aS h7 0) x10 /\
 sB (!(x9==x10))
 (∃x11,rB h8 (aS h 0) x11 /\
 sB x11
 (R (vI (-1)) h8)
 (R (vI 1) h8))
 (∃x12,rI h8 (aS h 1) x12 /\
 ∃x13,rI h8 (aS h7 1) x13 /\
 ∃x14,rI h8 (aS h 2) x14 /\
 ∃x15,rI h8 (aS h7 2) x15 /\
 Fn Pz 54 #[vI x12,vI x13] h8
 (fun v16 h18=>∃x17,iI v16 x17 /\
 Sm [(aS h7 2),(aS h 2)] h8 h18 /\
 Fn Pz 54 #[vI x14,vI x15] h18
 (fun v19 h21=>∃x20,iI v19 x20 /\
 Sm [(aS h7 1),(aS h 1)] h18 h21 /\
 Wn h21 [vI x17,vI x20] 3 fun h22=>
 Fn Pz 53 #[.slice (some (aS h21 0)) 2 2] h22
 (fun v23 h25=>∃x24,iI v23 x24 /\
 R (vI x24) h25))))
theorem vc125 (pa:Bool) (pb pc:Int) (pd:Bool) (pe pf:Int) (h:Heap) (R:Value->Heap->Prop) (H:W125 pa pb pc pd pe pf h R):Fn Pz 125 #[.agg ⟨(L1 pa pb pc)⟩,.agg ⟨(L1 pd pe pf)⟩] h R:=fnJ (A:=.z) H
end M
end Go.VC
end

section
namespace Go.VC
open Go.Proofs IntKind
variable [Mono]
namespace M
def W185 (pa:Bool) (pb pc:Int) (pd:Bool) (pe pf:Int) (h:Heap) (R:Value->Heap->Prop):Prop:=
 Wn h (L1 pa pb pc) 188 fun h7=>
 Wn h7 (L1 pd pe pf) 188 fun h8=>
 ∃x9,rB h8 (aS h 0) x9 /\
 ∃x10,rB h8 (aS h7 0) x10 /\
 sB (!(x9==x10))
 (∃x11,rB h8 (aS h 0) x11 /\
 sB x11
 (R (vI (-1)) h8)
 (R (vI 1) h8))
 (∃x12,rI h8 (aS h 1) x12 /\
 ∃x13,rI h8 (aS h7 1) x13 /\
 ∃x14,rI h8 (aS h 2) x14 /\
 ∃x15,rI h8 (aS h7 2) x15 /\
 Fn Pz 54 #[vI x12,vI x13] h8
 (fun v16 h18=>∃x17,iI v16 x17 /\
 Sm [(aS h7 2),(aS h 2)] h8 h18 /\
 Fn Pz 54 #[vI x14,vI x15] h18
 (fun v19 h21=>∃x20,iI v19 x20 /\
 Sm [(aS h7 1),(aS h 1)] h18 h21 /\
 Wn h21 [vI x17,vI x20] 3 fun h22=>
 Fn Pz 53 #[.slice (some (aS h21 0)) 2 2] h22
 (fun v23 h25=>∃x24,iI v23 x24 /\
 R (vI x24) h25))))
theorem vc185 (pa:Bool) (pb pc:Int) (pd:Bool) (pe pf:Int) (h:Heap) (R:Value->Heap->Prop) (H:W185 pa pb pc pd pe pf h R):Fn Pz 185 #[.agg ⟨(L1 pa pb pc)⟩,.agg ⟨(L1 pd pe pf)⟩] h R:=fnJ (A:=.z) H
def W70 (pa pb pc pd:Int) (h:Heap) (R:Value->Heap->Prop):Prop:=
 Wn h [vI pa,vI pb] 72 fun h5=>
 Wn h5 [vI pc,vI pd] 72 fun h6=>
 ∃x7,rI h6 (aS h 0) x7 /\
 ∃x8,rI h6 (aS h5 0) x8 /\
 ∃x9,rI h6 (aS h 1) x9 /\
 ∃x10,rI h6 (aS h5 1) x10 /\
 Fn Pz 54 #[vI x7,vI x8] h6
 (fun v11 h13=>∃x12,iI v11 x12 /\
 Sm [(aS h5 1),(aS h 1)] h6 h13 /\
 Fn Pz 54 #[vI x9,vI x10] h13
 (fun v14 h16=>∃x15,iI v14 x15 /\
 Sm [(aS h5 0),(aS h 0)] h13 h16 /\
 Wn h16 [vI x12,vI x15] 3 fun h17=>
 Fn Pz 53 #[.slice (some (aS h16 0)) 2 2] h17
 (fun v18 h20=>∃x19,iI v18 x19 /\
 R (vI x19) h20)))
theorem vc70 (pa pb pc pd:Int) (h:Heap) (R:Value->Heap->Prop) (H:W70 pa pb pc pd h R):Fn Pz 70 #[.agg ⟨[vI pa,vI pb]⟩,.agg ⟨[vI pc,vI pd]⟩] h R:=fnJ (A:=.z) H
def W129 (pa pb pc pd pe:Int) (pf:Bool) (pg ph pi pj pk:Int) (pl:Bool) (h:Heap) (R:Value->Heap->Prop):Prop:=
 Wn h (L3 pa pb pc pd pe pf) 67 fun h13=>
 Wn h13 (L3 pg ph pi pj pk pl) 67 fun h14=>
 ∃x15 x16 x17,aL4 h14 (aS h 1) x15 x16 x17 /\
 ∃x18 x19 x20,aL4 h14 (aS h13 1) x18 x19 x20 /\
 Fn Pz 130 #[.agg ⟨(L4 x15 x16 x17)⟩,.agg ⟨(L4 x18 x19 x20)⟩] h14
 (fun v21 h23=>∃x22,iI v21 x22 /\
 R (vI x22) h23)
theorem vc129 (pa pb pc pd pe:Int) (pf:Bool) (pg ph pi pj pk:Int) (pl:Bool) (h:Heap) (R:Value->Heap->Prop) (H:W129 pa pb pc pd pe pf pg ph pi pj pk pl h R):Fn Pz 129 #[.agg ⟨(L3 pa pb pc pd pe pf)⟩,.agg ⟨(L3 pg ph pi pj pk pl)⟩] h R:=fnJ (A:=.z) H
def W130 (pa pb pc pd pe pf:Int) (h:Heap) (R:Value->Heap->Prop):Prop:=
 Wn h (L4 pa pb pc) 65 fun h7=>
 Wn h7 (L4 pd pe pf) 65 fun h8=>
 ∃x9,rI h8 (aS h 0) x9 /\
 ∃x10,rI h8 (aS h7 0) x10 /\
 ∃x11,rI h8 (aS h 1) x11 /\
 ∃x12,rI h8 (aS h7 1) x12 /\
 ∃x13,rI h8 (aS h 2) x13 /\
 ∃x14,rI h8 (aS h7 2) x14 /\
 Fn Pz 54 #[vI x9,vI x10] h8
 (fun v15 h17=>∃x16,iI v15 x16 /\
 Sm [(aS h7 2),(aS h 2),(aS h7 1),(aS h 1)] h8 h17 /\
 Fn Pz 54 #[vI x11,vI x12] h17
 (fun v18 h20=>∃x19,iI v18 x19 /\
 Sm [(aS h7 2),(aS h 2),(aS h7 0),(aS h 0)] h17 h20 /\
 Fn Pz 54 #[vI x13,vI x14] h20
 (fun v21 h23=>∃x22,iI v21 x22 /\
 Sm [(aS h7 1),(aS h 1),(aS h7 0),(aS h 0)] h20 h23 /\
 Wn h23 (L4 x16 x19 x22) 3 fun h24=>
 Fn Pz 53 #[.slice (some (aS h23 0)) 3 3] h24
 (fun v25 h27=>∃x26,iI v25 x26 /\
 R (vI x26) h27))))
theorem vc130 (pa pb pc pd pe pf:Int) (h:Heap) (R:Value->Heap->Prop) (H:W130 pa pb pc pd pe pf h R):Fn Pz 130 #[.agg ⟨(L4 pa pb pc)⟩,.agg ⟨(L4 pd pe pf)⟩] h R:=fnJ (A:=.z) H
end M
end Go.VC
end

section
namespace Go.VC
open Go.Proofs IntKind
variable {h:Heap} {R:Value->Heap->Prop}
def W42 (pa:Int) (pb:Bool) (pc pd:Int) (pe:Sl) (pf:Int) (pg:Bool) (ph pi:Int) (pj:Sl):Prop:=
 Wn h (L6 pa pb pc pd pe) 33 fun h11=>
 Wn h11 (L6 pf pg ph pi pj) 33 fun h12=>
 ∃x13,rI h12 (aS h 0) x13 /\
 ∃x14,rI h12 (aS h11 0) x14 /\
 sB (x13==x14)
 (∃x15,rB h12 (aS h 1) x15 /\
 ∃x16,rB h12 (aS h11 1) x16 /\
 sB (x15==x16)
 (∃x17,rI h12 (aS h 2) x17 /\
 ∃x18,rI h12 (aS h11 2) x18 /\
 sB (x17==x18)
 (∃x19,rI h12 (aS h 3) x19 /\
 ∃x20,rI h12 (aS h11 3) x20 /\
 R (.bool (x19==x20)) h12)
 (R (.bool false) h12))
 (R (.bool false) h12))
 (R (.bool false) h12)
theorem vc42 (pa:Int) (pb:Bool) (pc pd:Int) (pe:Sl) (pf:Int) (pg:Bool) (ph pi:Int) (pj:Sl) (H:@W42 h R pa pb pc pd pe pf pg ph pi pj):Fn Pz 42 #[.agg ⟨(L6 pa pb pc pd pe)⟩,.agg ⟨(L6 pf pg ph pi pj)⟩] h R:=fnJ (A:=.z) H
def W25 (p0 p1:Sl):Prop:=
 sB ((p0.n:Int) != (p1.n:Int))
 (R (.bool false) h)
 (QI 0 h fun I1 i_4 h5 m3=>
 sB (decide (i_4<(p0.n:Int)))
 (NB p0.a fun b6 o7=>Ib i_4 p0.n /\
 ∃x8 x9 x10 x11 x12,aL6 h5 ⟨b6,o7+i_4.toNat*5,none⟩ x8 x9 x10 x11 x12 /\
 NB p1.a fun b13 o14=>Ib i_4 p1.n /\
 ∃x15 x16 x17 x18 x19,aL6 h5 ⟨b13,o14+i_4.toNat*5,none⟩ x15 x16 x17 x18 x19 /\
 Fn Pz 42 #[.agg ⟨(L6 x8 x9 x10 x11 x12)⟩,.agg ⟨(L6 x15 x16 x17 x18 x19)⟩] h5
 (fun v20 h22=>∃x21,iB v20 x21 /\
 sB (!x21)
 (R (.bool false) h22)
 (∃m23,m23<m3/\I1 (wrap .i64 (i_4+1)) h22 m23)))
 (R (.bool true) h5))
theorem vc25 (p0 p1:Sl) (H:@W25 h R p0 p1):Fn Pz 25 #[vS p0,vS p1] h R:=fnJ (A:=(.s .z (.s .z (.s (AI 5) .z)))) H
end Go.VC
end

section
namespace Go.VC
open Go.Proofs IntKind

end Go.VC
end

section
namespace Go.VC
open Go.Proofs IntKind
variable {h:Heap} {R:Value->Heap->Prop}
def W24 (pa:ByteArray) (pb pc:Sl) (pd pe pf:Int) (pg ph p1:Sl):Prop:=
 Wn h (L0 pa pb pc pd pe pf pg ph) 27 fun h9=>
 ∃x10,rI h9 (aS h 4) x10 /\
 QSII ⟨none,0,0⟩ x10 0 h9 fun I11 out_14 at_15 i_16 h17 m13=>
 sB (decide (i_16<(p1.n:Int)))
 (∃x18 x19 x20 x21 x22 x23 x24 x25,aL0 h17 (aS h 0) x18 x19 x20 x21 x22 x23 x24 x25 /\
 Fn Pz 55 #[.agg ⟨(L0 x18 x19 x20 x21 x22 x23 x24 x25)⟩,vI at_15] h17
 (fun v26 h28=>∃x27,iS v26 x27 /\
 sB ((x27.n:Int)==0)
 (R (.tuple ⟨[vS out_14,vI at_15]⟩) h28)
 (∃x29,rS h28 (aS h 6) x29 /\
 NB p1.a fun b30 o31=>Ib i_16 p1.n /\
 ∃x32:Int,hc h28 ⟨b30,o31+i_16.toNat*1,none⟩=some (.int .u8 x32) /\
 (x27.n:Int)≠0/\NB x27.a fun b33 o34=>(0<=((Int.tmod (wrap .i64 x32) (x27.n:Int)):Int)/\((Int.tmod (wrap .i64 x32) (x27.n:Int)):Int)<(x27.n:Nat)) /\
 ∃x35,rI h28 ⟨b33,o34+Int.toNat (Int.tmod (wrap .i64 x32) (x27.n:Int))*1,none⟩ x35 /\
 NB x29.a fun b36 o37=>Ib x35 x29.n /\
 ∃x38 x39 x40 x41 x42 x43,aL3 h28 ⟨b36,o37+x35.toNat*6,none⟩ x38 x39 x40 x41 x42 x43 /\
 Wn h28 [vI 0,vI 0,vI 0,vI 0,vI 0,.bool false] 67 fun h44=>
 Sm [⟨b36,o37+x35.toNat*6,none⟩,⟨b33,o34+Int.toNat (Int.tmod (wrap .i64 x32) (x27.n:Int))*1,none⟩,⟨b30,o31+i_16.toNat*1,none⟩,(aS h 6)] h28 h44 /\
 Wp h44 (aS h28 0) 6 (L3 x38 x39 x40 x41 x42 x43) fun h45=>
 ∃x46 x47 x48,aL4 h45 (aS h28 1) x46 x47 x48 /\
 Wn h45 (L4 x46 x47 x48) 65 fun h49=>
 App Pz 30 30 (vS out_14) (.slice (some (aS h45 0)) 1 1) h49 fun s50 h51=>
 ∃x52,rI h51 (aS h28 4) x52 /\
 ∃m53,m53<m13/\I11 s50 x52 (wrap .i64 (i_16+1)) h51 m53)))
 (R (.tuple ⟨[vS out_14,vI at_15]⟩) h17)
theorem vc24 (pa:ByteArray) (pb pc:Sl) (pd pe pf:Int) (pg ph p1:Sl) (H:@W24 h R pa pb pc pd pe pf pg ph p1):Fn Pz 24 #[.agg ⟨(L0 pa pb pc pd pe pf pg ph)⟩,vS p1] h R:=fnJ (A:=(.s .z (.s .z (.s .z (.s (.s .z (.b (.l [(6,.one (.slice)),(7,.one (.int .i64)),(8,.one (.int .i64))] .z))) .z))))) H
def W55 (pa:ByteArray) (pb pc:Sl) (pd pe pf:Int) (pg ph:Sl) (p1:Int):Prop:=
 Wn h (L0 pa pb pc pd pe pf pg ph) 27 fun h9=>
 QSI ⟨none,0,0⟩ 0 h9 fun I10 out_13 i_14 h15 m12=>
 ∃x16,rS h15 (aS h 6) x16 /\
 sB (decide (i_14<(x16.n:Int)))
 (∃x17,rS h15 (aS h 6) x17 /\
 NB x17.a fun b18 o19=>Ib i_14 x17.n /\
 ∃x20,rI h15 ⟨b18,o19+i_14.toNat*6,none⟩ x20 /\
 sB (x20==p1)
 (Wn h15 [vI i_14] 3 fun h21=>
 App Pz 102 102 (vS out_13) (.slice (some (aS h15 0)) 1 1) h21 fun s22 h23=>
 ∃m24,m24<m12/\I10 s22 (wrap .i64 (i_14+1)) h23 m24)
 (∃m25,m25<m12/\I10 out_13 (wrap .i64 (i_14+1)) h15 m25))
 (R (vS out_13) h15)
theorem vc55 (pa:ByteArray) (pb pc:Sl) (pd pe pf:Int) (pg ph:Sl) (p1:Int) (H:@W55 h R pa pb pc pd pe pf pg ph p1):Fn Pz 55 #[.agg ⟨(L0 pa pb pc pd pe pf pg ph)⟩,vI p1] h R:=fnJ (A:=(.s .z (.s .z (.s (AJ 5 6) .z)))) H
def W26 (p0:Sl) (p1:Int):Prop:=
 QSI ⟨none,0,0⟩ 0 h fun I1 out_4 i_5 h6 m3=>
 sB (decide (i_5<(p0.n:Int)))
 (NB p0.a fun b7 o8=>Ib i_5 p0.n /\
 ∃x9 x10 x11,aL4 h6 ⟨b7,o8+i_5.toNat*3,none⟩ x9 x10 x11 /\
 Wn h6 [vI 0,vI 0,vI 0,vI 0,vI 0,.bool false] 67 fun h12=>
 Wp h12 (aS h6 0) 6 [vI 0,vI x9,vI x10,vI x11,vI 0,.bool false] fun h13=>
 ∃x14 x15 x16 x17 x18 x19,aL3 h13 (aS h6 0) x14 x15 x16 x17 x18 x19 /\
 Fn Pz 56 #[.agg ⟨(L3 x14 x15 x16 x17 x18 x19)⟩,vI p1] h13
 (fun v20 h22=>∃x21,iB v20 x21 /\
 sB x21
 (∃x23 x24 x25 x26 x27 x28,aL3 h22 (aS h6 0) x23 x24 x25 x26 x27 x28 /\
 Fn Pz 57 #[.agg ⟨(L3 x23 x24 x25 x26 x27 x28)⟩,vI p1] h22
 (fun v29 h35=>∃(x30:Int) (x31:Bool) (x32 x33:Int) (x34:Sl),v29=.agg ⟨(L6 x30 x31 x32 x33 x34)⟩ /\
 Wn h35 (L6 x30 x31 x32 x33 x34) 33 fun h36=>
 App Pz 57 57 (vS out_4) (.slice (some (aS h35 0)) 1 1) h36 fun s37 h38=>
 ∃m39,m39<m3/\I1 s37 (wrap .i64 (i_5+1)) h38 m39))
 (∃m40,m40<m3/\I1 out_4 (wrap .i64 (i_5+1)) h22 m40)))
 (R (vS out_4) h6)
theorem vc26 (p0:Sl) (p1:Int) (H:@W26 h R p0 p1):Fn Pz 26 #[vS p0,vI p1] h R:=fnJ (A:=(.s .z (.s .z (.s (AJ 5 6) .z)))) H
def W56 (pa pb pc pd pe:Int) (pf:Bool) (p1:Int):Prop:=
 Wn h (L3 pa pb pc pd pe pf) 67 fun h7=>
 ∃x8,rI h7 (aS h 1) x8 /\
 sB (x8==p1)
 (R (.bool true) h7)
 (∃x9,rI h7 (aS h (1+1)) x9 /\
 R (.bool (x9==p1)) h7)
theorem vc56 (pa pb pc pd pe:Int) (pf:Bool) (p1:Int) (H:@W56 h R pa pb pc pd pe pf p1):Fn Pz 56 #[.agg ⟨(L3 pa pb pc pd pe pf)⟩,vI p1] h R:=fnJ (A:=.z) H
def V57a (h12 h7:Heap) (R:Value->Heap->Prop):Prop:=
 ∃x13 x14 x15 x16 x17,aL6 h12 (aS h7 0) x13 x14 x15 x16 x17/\R (.agg ⟨(L6 x13 x14 x15 x16 x17)⟩) h12
def W57 (pa pb pc pd pe:Int) (pf:Bool) (p1:Int):Prop:=
 Wn h (L3 pa pb pc pd pe pf) 67 fun h7=>Wn h7 [vI 0,.bool false,vI 0,vI 0,vN] 33 fun h8=>∃x9,rI h8 (aS h 1) x9/\sB (x9==p1) (∃x10,rI h8 (aS h (1+1)) x10/\∃x11,rI h8 (aS h (1+2)) x11/\Wp h8 (aS h7 0) 5 [vI p1,.bool true,vI x10,vI x11,vN] fun h12=>V57a h12 h7 R) (∃x18,rI h8 (aS h 1) x18/\∃x19,rI h8 (aS h (1+2)) x19/\Wp h8 (aS h7 0) 5 [vI p1,.bool false,vI x18,vI x19,vN] fun h20=>V57a h20 h7 R)
theorem vc57 (pa pb pc pd pe:Int) (pf:Bool) (p1:Int) (H:@W57 h R pa pb pc pd pe pf p1):Fn Pz 57 #[.agg ⟨(L3 pa pb pc pd pe pf)⟩,vI p1] h R:=fnJ (A:=.z) H
def V63b (x52:Sl) (x53:Int) (h64:Heap) (s63:Sl) (m38:Nat) (I36:Int->Heap->Nat->Prop) (x_39:Int):Prop:=
 NB x52.a fun b65 o66=>Ib x53 x52.n/\Wp h64 ⟨b65,o66+x53.toNat*1,none⟩ 1 [vS s63] fun h67=>∃m68,m68<m38/\I36 (wrap .i64 (x_39+1)) h67 m68
def V63c (b56 o57:Nat) (x55:Int) (h40 h33 h50 h62:Heap) (x58 x52:Sl) (x53:Int) (m38:Nat) (I36:Int->Heap->Nat->Prop) (x_39:Int):Prop:=
 Sm [⟨b56,o57+x55.toNat*1,none⟩,(aS h40 0),(aS h33 10),(aS h40 0),(aS h33 10)] h50 h62/\App Pz 231 231 (vS x58) (.slice (some (aS h50 0)) 1 1) h62 fun s63 h64=>Sm [(aS h40 0),(aS h33 10)] h62 h64/\V63b x52 x53 h64 s63 m38 I36 x_39
def V63a (h33:Heap) (x22:ByteArray) (x23 x24:Sl) (x25 x26 x27:Int) (x28 x29:Sl) (p1:Int) (h20:Heap) (x30:Int) (h32:Heap) (x31:Int) (h:Heap) (R:Value->Heap->Prop):Prop:=
 Wn h33 [.string x22,vS x23,vS x24,vI x25,vI x26,vI x27,vS x28,vS x29,vI p1,.slice (some (aS h20 0)) (x30.toNat) (x30.toNat),.slice (some (aS h32 0)) (x31.toNat) (x31.toNat)] 230 fun h34=>∃x35,rS h34 (aS h 6) x35/\QI 0 h34 fun I36 x_39 h40 m38=>sB (decide (x_39<(x35.n:Int))) (NB x35.a fun b41 o42=>Ib x_39 x35.n/\∃x43 x44 x45 x46 x47 x48,aL3 h40 ⟨b41,o42+x_39.toNat*6,none⟩ x43 x44 x45 x46 x47 x48/\Wn h40 [vI 0,vI 0,vI 0,vI 0,vI 0,.bool false] 67 fun h49=>Wp h49 (aS h40 0) 6 (L3 x43 x44 x45 x46 x47 x48) fun h50=>∃x51,rI h50 (aS h40 1) x51/\sB (p1==x51) (∃x52,rS h50 (aS h33 10) x52/\∃x53,rI h50 (aS h40 0) x53/\∃x54,rS h50 (aS h33 10) x54/\∃x55,rI h50 (aS h40 0) x55/\NB x54.a fun b56 o57=>Ib x55 x54.n/\∃x58,rS h50 ⟨b56,o57+x55.toNat*1,none⟩ x58/\∃x59,rI h50 (aS h40 (1+1)) x59/\∃x60,rI h50 (aS h40 (1+2)) x60/\∃x61,rI h50 (aS h40 4) x61/\Wn h50 [.bool true,vI x59,vI x60,vI x61] 233 fun h62=>V63c b56 o57 x55 h40 h33 h50 h62 x58 x52 x53 m38 I36 x_39) (∃x69,rI h50 (aS h40 (1+1)) x69/\sB (p1==x69) (∃x70,rS h50 (aS h33 10) x70/\∃x71,rI h50 (aS h40 0) x71/\∃x72,rS h50 (aS h33 10) x72/\∃x73,rI h50 (aS h40 0) x73/\NB x72.a fun b74 o75=>Ib x73 x72.n/\∃x76,rS h50 ⟨b74,o75+x73.toNat*1,none⟩ x76/\∃x77,rI h50 (aS h40 1) x77/\∃x78,rI h50 (aS h40 (1+2)) x78/\∃x79,rI h50 (aS h40 4) x79/\Wn h50 [.bool false,vI x77,vI x78,vI x79] 233 fun h80=>V63c b74 o75 x73 h40 h33 h50 h80 x76 x70 x71 m38 I36 x_39) (∃x87,rS h50 (aS h33 9) x87/\∃x88,rI h50 (aS h40 0) x88/\∃x89,rS h50 (aS h33 9) x89/\∃x90,rI h50 (aS h40 0) x90/\NB x89.a fun b91 o92=>Ib x90 x89.n/\∃x93,rS h50 ⟨b91,o92+x90.toNat*1,none⟩ x93/\∃x94,rI h50 (aS h40 4) x94/\Wn h50 [vI x94] 3 fun h95=>Sm [⟨b91,o92+x90.toNat*1,none⟩,(aS h40 0),(aS h33 9),(aS h40 0),(aS h33 9)] h50 h95/\App Pz 102 102 (vS x93) (.slice (some (aS h50 0)) 1 1) h95 fun s96 h97=>Sm [(aS h40 0),(aS h33 9)] h95 h97/\V63b x87 x88 h97 s96 m38 I36 x_39))) (R (.tuple ⟨[.pointer (some (aS h33 0)),vI 0]⟩) h40)
def W63 (pa:ByteArray) (pb pc:Sl) (pd pe pf:Int) (pg ph:Sl) (p1:Int):Prop:=
 Wn h (L0 pa pb pc pd pe pf pg ph) 27 fun h9=>∃x10 x11 x12 x13 x14 x15 x16 x17,aL0 h9 (aS h 0) x10 x11 x12 x13 x14 x15 x16 x17/\Fn Pz 40 #[.agg ⟨(L0 x10 x11 x12 x13 x14 x15 x16 x17)⟩] h9 (fun v18 h20=>∃x19,iB v18 x19/\sB (!x19) (R (.tuple ⟨[.pointer none,vI 1]⟩) h20) (sB (decide (p1<0)) (R (.tuple ⟨[.pointer none,vI 1]⟩) h20) (∃x21,rS h20 (aS h 1) x21/\sB (decide (p1>=(x21.n:Int))) (R (.tuple ⟨[.pointer none,vI 1]⟩) h20) (∃x22 x23 x24 x25 x26 x27 x28 x29,aL0 h20 (aS h 0) x22 x23 x24 x25 x26 x27 x28 x29/\∃x30,rI h20 (aS h 3) x30/\∃x31,rI h20 (aS h 3) x31/\(Mk x30 x30 24/\Wn h20 (madeL Pz 102 (x30.toNat)) 102 fun h32=>Sm [(aS h 3),(aS h 0)] h20 h32/\Mk x31 x31 24/\Wn h32 (madeL Pz 231 (x31.toNat)) 231 fun h33=>Sm [(aS h 3),(aS h 0)] h32 h33/\V63a h33 x22 x23 x24 x25 x26 x27 x28 x29 p1 h20 x30 h32 x31 h R)/\Mk x31 x31 24/\Wn h20 (madeL Pz 231 (x31.toNat)) 231 fun h102=>Sm [(aS h 3),(aS h 0)] h20 h102/\Mk x30 x30 24/\Wn h102 (madeL Pz 102 (x30.toNat)) 102 fun h103=>Sm [(aS h 3),(aS h 0)] h102 h103/\V63a h103 x22 x23 x24 x25 x26 x27 x28 x29 p1 h102 x30 h20 x31 h R))))
theorem vc63 (pa:ByteArray) (pb pc:Sl) (pd pe pf:Int) (pg ph:Sl) (p1:Int) (H:@W63 h R pa pb pc pd pe pf pg ph p1):Fn Pz 63 #[.agg ⟨(L0 pa pb pc pd pe pf pg ph)⟩,vI p1] h R:=fnJ (A:=(.s .z (.s .z (.s .z (.s (AI 36) .z))))) H
def V64a (p1:Sl) (x_7:Int) (h8:Heap) (x1:Int) (h:Heap) (todo_6:Sl) (m5:Nat) (I3:Sl->Int->Heap->Nat->Prop):Prop:=
 NB p1.a fun b9 o10=>Ib x_7 p1.n/\∃x11,rI h8 ⟨b9,o10+x_7.toNat*1,none⟩ x11/\(0<=(x11:Int)/\(x11:Int)<((x1.toNat):Nat))/\∃x12,rB h8 (aS h (0+x11.toNat*1)) x12/\sB (!x12) ((0<=(x11:Int)/\(x11:Int)<((x1.toNat):Nat))/\Wp h8 (aS h (0+x11.toNat*1)) 1 [.bool true] fun h13=>Wn h13 [vI x11] 3 fun h14=>App Pz 102 102 (vS todo_6) (.slice (some (aS h13 0)) 1 1) h14 fun s15 h16=>∃m17,m17<m5/\I3 s15 (wrap .i64 (x_7+1)) h16 m17) (∃m18,m18<m5/\I3 todo_6 (wrap .i64 (x_7+1)) h8 m18)
def W64 (p0:Addr) (p1:Sl):Prop:=
 ∃x1,rI h ⟨p0.block,p0.off+3,none⟩ x1/\Mk x1 x1 1/\Wn h (madeL Pz 4 (x1.toNat)) 4 fun h2=>QSI ⟨none,0,0⟩ 0 h2 fun I3 todo_6 x_7 h8 m5=>sB (decide (x_7<(p1.n:Int))) (V64a p1 x_7 h8 x1 h todo_6 m5 I3) (QSI todo_6 0 h8 fun I19 todo_22 head_23 h24 m21=>sB (decide (head_23<(todo_22.n:Int))) (∃x25,rS h24 ⟨p0.block,p0.off+9,none⟩ x25/\NB todo_22.a fun b26 o27=>Ib head_23 todo_22.n/\∃x28,rI h24 ⟨b26,o27+head_23.toNat*1,none⟩ x28/\NB x25.a fun b29 o30=>Ib x28 x25.n/\∃x31,rS h24 ⟨b29,o30+x28.toNat*1,none⟩ x31/\QSI todo_22 0 h24 fun I32 todo_35 x_36 h37 m34=>sB (decide (x_36<(x31.n:Int))) (V64a x31 x_36 h37 x1 h todo_35 m34 I32) (∃m48,m48<m21/\I19 todo_35 (wrap .i64 (head_23+1)) h37 m48)) (Fn Pz 74 #[vS todo_22] h24 (fun v49 h51=>∃x50,iS v49 x50/\R (vS x50) h51)))
theorem vc64 (p0:Addr) (p1:Sl) (H:@W64 h R p0 p1):Fn Pz 64 #[.pointer (some p0),vS p1] h R:=fnJ (A:=(.s .z (.s .z (.s .z (.s (AJ 6 20) (.s (.s .z (.b (.l [(6,.one (.slice)),(9,.one (.int .i64))] (.s .z (.s (.b (AJ 6 54)) .z))))) .z)))))) H
def W75 (p0:Addr) (p1:Sl) (pa:Bool) (pb pc:Int):Prop:=
 Wn h (L1 pa pb pc) 140 fun h4=>
 Fn Pz 84 #[vS p1] h4
 (fun v5 h7=>∃x6,iS v5 x6 /\
 QSI ⟨none,0,0⟩ 0 h7 fun I8 to_11 x_12 h13 m10=>
 sB (decide (x_12<(x6.n:Int)))
 (NB x6.a fun b14 o15=>Ib x_12 x6.n /\
 ∃x16,rI h13 ⟨b14,o15+x_12.toNat*1,none⟩ x16 /\
 ∃x17,rS h13 ⟨p0.block,p0.off+10,none⟩ x17 /\
 NB x17.a fun b18 o19=>Ib x16 x17.n /\
 ∃x20,rS h13 ⟨b18,o19+x16.toNat*1,none⟩ x20 /\
 QSI to_11 0 h13 fun I21 to_24 x_25 h26 m23=>
 sB (decide (x_25<(x20.n:Int)))
 (NB x20.a fun b27 o28=>Ib x_25 x20.n /\
 ∃x29 x30 x31 x32,aL10 h26 ⟨b27,o28+x_25.toNat*4,none⟩ x29 x30 x31 x32 /\
 Wn h26 [.bool false,vI 0,vI 0,vI 0] 233 fun h33=>
 Wp h33 (aS h26 0) 4 (L10 x29 x30 x31 x32) fun h34=>
 ∃x35 x36 x37,aL1 h34 (aS h26 0) x35 x36 x37 /\
 ∃x38 x39 x40,aL1 h34 (aS h 0) x38 x39 x40 /\
 sB ((x35==x38)&&((x36==x39)&&((x37==x40)&&true)))
 (∃x41,rI h34 (aS h26 3) x41 /\
 Wn h34 [vI x41] 3 fun h42=>
 App Pz 102 102 (vS to_24) (.slice (some (aS h34 0)) 1 1) h42 fun s43 h44=>
 ∃m45,m45<m23/\I21 s43 (wrap .i64 (x_25+1)) h44 m45)
 (∃m46,m46<m23/\I21 to_24 (wrap .i64 (x_25+1)) h34 m46))
 (∃m47,m47<m10/\I8 to_24 (wrap .i64 (x_12+1)) h26 m47))
 (Fn Pz 64 #[.pointer (some p0),vS to_11] h13
 (fun v48 h50=>∃x49,iS v48 x49 /\
 R (vS x49) h50)))
theorem vc75 (p0:Addr) (p1:Sl) (pa:Bool) (pb pc:Int) (H:@W75 h R p0 p1 pa pb pc):Fn Pz 75 #[.pointer (some p0),vS p1,.agg ⟨(L1 pa pb pc)⟩] h R:=fnJ (A:=(.s .z (.s .z (.s (.s .z (.b (.l [(7,.one (.slice)),(15,.one (.int .i64))] (.s .z (.s .z (.s (.b (.s .z (AJ 7 27))) .z)))))) .z)))) H
def W66 (p0:Addr) (p1:Sl):Prop:=
 Fn Pz 84 #[vS p1] h
 (fun v1 h3=>∃x2,iS v1 x2 /\
 QSI ⟨none,0,0⟩ 0 h3 fun I4 out_7 x_8 h9 m6=>
 sB (decide (x_8<(x2.n:Int)))
 (NB x2.a fun b10 o11=>Ib x_8 x2.n /\
 ∃x12,rI h9 ⟨b10,o11+x_8.toNat*1,none⟩ x12 /\
 ∃x13,rS h9 ⟨p0.block,p0.off+10,none⟩ x13 /\
 NB x13.a fun b14 o15=>Ib x12 x13.n /\
 ∃x16,rS h9 ⟨b14,o15+x12.toNat*1,none⟩ x16 /\
 QSI out_7 0 h9 fun I17 out_20 x_21 h22 m19=>
 sB (decide (x_21<(x16.n:Int)))
 (NB x16.a fun b23 o24=>Ib x_21 x16.n /\
 ∃x25 x26 x27 x28,aL10 h22 ⟨b23,o24+x_21.toNat*4,none⟩ x25 x26 x27 x28 /\
 Wn h22 [.bool false,vI 0,vI 0,vI 0] 233 fun h29=>
 Wp h29 (aS h22 0) 4 (L10 x25 x26 x27 x28) fun h30=>
 ∃x31 x32 x33,aL1 h30 (aS h22 0) x31 x32 x33 /\
 Wn h30 (L1 x31 x32 x33) 140 fun h34=>
 App Pz 127 127 (vS out_20) (.slice (some (aS h30 0)) 1 1) h34 fun s35 h36=>
 ∃m37,m37<m19/\I17 s35 (wrap .i64 (x_21+1)) h36 m37)
 (∃m38,m38<m6/\I4 out_20 (wrap .i64 (x_8+1)) h22 m38))
 (Fn Pz 124 #[vS out_7,.func (.func 125) #[] #[]] h9
 (fun v39 h40=>v39=.tuple ⟨[]⟩ /\
 Fn Pz 126 #[vS out_7] h40
 (fun v41 h43=>∃x42,iS v41 x42 /\
 R (vS x42) h43))))
theorem vc66 (p0:Addr) (p1:Sl) (H:@W66 h R p0 p1):Fn Pz 66 #[.pointer (some p0),vS p1] h R:=fnJ (A:=(.s .z (.s .z (.s (.s .z (.b (.l [(5,.one (.slice)),(13,.one (.int .i64))] (.s .z (.s .z (.s (.b (.s .z (AJ 5 25))) .z)))))) .z)))) H
def W125 (pa:Bool) (pb pc:Int) (pd:Bool) (pe pf:Int):Prop:=
 Wn h (L1 pa pb pc) 140 fun h7=>
 Wn h7 (L1 pd pe pf) 140 fun h8=>
 ∃x9,rB h8 (aS h 0) x9 /\
 ∃x10,rB h8 (aS h7 0) x10 /\
 sB (!(x9==x10))
 (∃x11,rB h8 (aS h 0) x11 /\
 sB x11
 (R (vI (-1)) h8)
 (R (vI 1) h8))
 (∃x12,rI h8 (aS h 1) x12 /\
 ∃x13,rI h8 (aS h7 1) x13 /\
 ∃x14,rI h8 (aS h 2) x14 /\
 ∃x15,rI h8 (aS h7 2) x15 /\
 Fn Pz 54 #[vI x12,vI x13] h8
 (fun v16 h18=>∃x17,iI v16 x17 /\
 Sm [(aS h7 2),(aS h 2)] h8 h18 /\
 Fn Pz 54 #[vI x14,vI x15] h18
 (fun v19 h21=>∃x20,iI v19 x20 /\
 Sm [(aS h7 1),(aS h 1)] h18 h21 /\
 Wn h21 [vI x17,vI x20] 3 fun h22=>
 Fn Pz 53 #[.slice (some (aS h21 0)) 2 2] h22
 (fun v23 h25=>∃x24,iI v23 x24 /\
 R (vI x24) h25))))
theorem vc125 (pa:Bool) (pb pc:Int) (pd:Bool) (pe pf:Int) (H:@W125 h R pa pb pc pd pe pf):Fn Pz 125 #[.agg ⟨(L1 pa pb pc)⟩,.agg ⟨(L1 pd pe pf)⟩] h R:=fnJ (A:=.z) H
def W65 (p0:Addr) (p1:Sl):Prop:=
 QSI ⟨none,0,0⟩ 0 h fun I1 out_4 x_5 h6 m3=>
 sB (decide (x_5<(p1.n:Int)))
 (NB p1.a fun b7 o8=>Ib x_5 p1.n /\
 ∃x9 x10 x11,aL1 h6 ⟨b7,o8+x_5.toNat*3,none⟩ x9 x10 x11 /\
 Wn h6 [.bool false,vI 0,vI 0] 140 fun h12=>
 Wp h12 (aS h6 0) 3 (L1 x9 x10 x11) fun h13=>
 ∃x14 x15 x16,aL1 h13 (aS h6 0) x14 x15 x16 /\
 ∃x17,rI h13 ⟨p0.block,p0.off+8,none⟩ x17 /\
 Fn Pz 123 #[.agg ⟨(L1 x14 x15 x16)⟩,vI x17] h13
 (fun v18 h24=>∃(x19:Int) (x20:Bool) (x21 x22:Int) (x23:Sl),v18=.agg ⟨(L6 x19 x20 x21 x22 x23)⟩ /\
 Wn h24 (L6 x19 x20 x21 x22 x23) 33 fun h25=>
 App Pz 57 57 (vS out_4) (.slice (some (aS h24 0)) 1 1) h25 fun s26 h27=>
 ∃m28,m28<m3/\I1 s26 (wrap .i64 (x_5+1)) h27 m28))
 (R (vS out_4) h6)
theorem vc65 (p0:Addr) (p1:Sl) (H:@W65 h R p0 p1):Fn Pz 65 #[.pointer (some p0),vS p1] h R:=fnJ (A:=(.s .z (.s .z (.s (AJ 5 10) .z)))) H
def W123 (pa:Bool) (pb pc p1:Int):Prop:=
 Wn h (L1 pa pb pc) 140 fun h4=>
 Wn h4 [vI 0,.bool false,vI 0,vI 0,vN] 33 fun h5=>
 ∃x6,rB h5 (aS h 0) x6 /\
 ∃x7,rI h5 (aS h 1) x7 /\
 ∃x8,rI h5 (aS h 2) x8 /\
 Wp h5 (aS h4 0) 5 [vI p1,.bool x6,vI x7,vI x8,vN] fun h9=>
 ∃x10 x11 x12 x13 x14,aL6 h9 (aS h4 0) x10 x11 x12 x13 x14 /\
 R (.agg ⟨(L6 x10 x11 x12 x13 x14)⟩) h9
theorem vc123 (pa:Bool) (pb pc p1:Int) (H:@W123 h R pa pb pc p1):Fn Pz 123 #[.agg ⟨(L1 pa pb pc)⟩,vI p1] h R:=fnJ (A:=.z) H
def W29 (pa:ByteArray) (pb pc:Sl) (pd pe pf:Int) (pg ph:Sl) (p1 p2:Int):Prop:=
 Wn h (L0 pa pb pc pd pe pf pg ph) 27 fun h9=>
 ∃x10 x11 x12 x13 x14 x15 x16 x17,aL0 h9 (aS h 0) x10 x11 x12 x13 x14 x15 x16 x17 /\
 Fn Pz 63 #[.agg ⟨(L0 x10 x11 x12 x13 x14 x15 x16 x17)⟩,vI p1] h9
 (fun v18 h21=>∃x19:Option Addr,∃x20:Int,v18=.tuple ⟨[.pointer x19,vI x20]⟩ /\
 sB (x20 != 0)
 (R (.tuple ⟨[vN,.bool false,vI x20]⟩) h21)
 (sB (decide (p2<0))
 (R (.tuple ⟨[vN,.bool false,vI 2]⟩) h21)
 (∃x22,rI h21 (aS h 3) x22 /\
 sB (decide (p2>=x22))
 (R (.tuple ⟨[vN,.bool false,vI 2]⟩) h21)
 (Wn h21 [vI p2] 3 fun h23=>
 Fn Pz 64 #[.pointer x19,.slice (some (aS h21 0)) 1 1] h23
 (fun v24 h26=>∃x25,iS v24 x25 /\
 ∃x27,rI h26 (aS h 5) x27 /\
 Fn Pz 66 #[.pointer x19,vS x25] h26
 (fun v28 h30=>∃x29,iS v28 x29 /\
 Sm [(aS h 5)] h26 h30 /\
 Fn Pz 65 #[.pointer x19,vS x29] h30
 (fun v31 h33=>∃x32,iS v31 x32 /\
 Sm [(aS h 5)] h30 h33 /\
 Fn Pz 67 #[vS x25,vI x27] h33
 (fun v34 h36=>∃x35,iB v34 x35 /\
 R (.tuple ⟨[vS x32,.bool x35,vI 0]⟩) h36))))))))
theorem vc29 (pa:ByteArray) (pb pc:Sl) (pd pe pf:Int) (pg ph:Sl) (p1 p2:Int) (H:@W29 h R pa pb pc pd pe pf pg ph p1 p2):Fn Pz 29 #[.agg ⟨(L0 pa pb pc pd pe pf pg ph)⟩,vI p1,vI p2] h R:=fnJ (A:=.z) H
def W53 (p0:Sl):Prop:=
 QI 0 h fun I1 x_4 h5 m3=>
 sB (decide (x_4<(p0.n:Int)))
 (NB p0.a fun b6 o7=>Ib x_4 p0.n /\
 ∃x8,rI h5 ⟨b6,o7+x_4.toNat*1,none⟩ x8 /\
 sB (x8 != 0)
 (R (vI x8) h5)
 (∃m9,m9<m3/\I1 (wrap .i64 (x_4+1)) h5 m9))
 (R (vI 0) h5)
theorem vc53 (p0:Sl) (H:@W53 h R p0):Fn Pz 53 #[vS p0] h R:=fnJ (A:=(.s .z (.s .z (.s (AI 8) .z)))) H
def W54 (p0 p1:Int):Prop:=
 Fn Pz 111 #[vI p0] h
 (fun v1 h3=>∃x2,iB v1 x2 /\
 Fn Pz 111 #[vI p1] h3
 (fun v4 h6=>∃x5,iB v4 x5 /\
 sB x2
 (sB x5
 (R (vI 0) h6)
 (R (vI (-1)) h6))
 (sB x5
 (R (vI 1) h6)
 (sB (decide (p0<p1))
 (R (vI (-1)) h6)
 (sB (decide (p0>p1))
 (R (vI 1) h6)
 (R (vI 0) h6))))))
theorem vc54 (p0 p1:Int) (H:@W54 h R p0 p1):Fn Pz 54 #[vI p0,vI p1] h R:=fnJ (A:=.z) H
def W111 (p0:Int):Prop:=
 R (.bool (p0 != p0)) h
theorem vc111 (p0:Int) (H:@W111 h R p0):Fn Pz 111 #[vI p0] h R:=fnJ (A:=.z) H
def W126 (p0:Sl):Prop:=
 sB (decide ((p0.n:Int)<2))
 (R (vS p0) h)
 (QI 1 h fun I1 k_4 h5 m3=>
 sB (decide (k_4<(p0.n:Int)))
 (NB p0.a fun b6 o7=>Ib k_4 p0.n /\
 ∃x8 x9 x10,aL1 h5 ⟨b6,o7+k_4.toNat*3,none⟩ x8 x9 x10 /\
 NB p0.a fun b11 o12=>(0<=((wrap .i64 (k_4-1)):Int)/\((wrap .i64 (k_4-1)):Int)<(p0.n:Nat)) /\
 ∃x13 x14 x15,aL1 h5 ⟨b11,o12+Int.toNat (wrap .i64 (k_4-1))*3,none⟩ x13 x14 x15 /\
 sB ((x8==x13)&&((x9==x14)&&((x10==x15)&&true)))
 (((0:Int)<=(k_4:Int)/\(k_4:Int)<=((p0.n:Nat):Int)/\((p0.n:Nat):Int)<=(p0.c:Nat)) /\
 QII k_4 1 h5 fun I16 k_19 x_20 h21 m18=>
 sB (decide (x_20<(((Int.toNat (p0.n:Nat)-k_4.toNat):Nat):Int)))
 (NB (subA p0.a (k_4.toNat) p0.c 3) fun b22 o23=>(0<=(x_20:Int)/\(x_20:Int)<((Int.toNat (p0.n:Nat)-k_4.toNat):Nat)) /\
 ∃x24 x25 x26,aL1 h21 ⟨b22,o23+x_20.toNat*3,none⟩ x24 x25 x26 /\
 NB (subA p0.a (k_4.toNat) p0.c 3) fun b27 o28=>(0<=((wrap .i64 (x_20-1)):Int)/\((wrap .i64 (x_20-1)):Int)<((Int.toNat (p0.n:Nat)-k_4.toNat):Nat)) /\
 ∃x29 x30 x31,aL1 h21 ⟨b27,o28+Int.toNat (wrap .i64 (x_20-1))*3,none⟩ x29 x30 x31 /\
 sB (!((x24==x29)&&((x25==x30)&&((x26==x31)&&true))))
 (NB (subA p0.a (k_4.toNat) p0.c 3) fun b32 o33=>(0<=(x_20:Int)/\(x_20:Int)<((Int.toNat (p0.n:Nat)-k_4.toNat):Nat)) /\
 ∃x34 x35 x36,aL1 h21 ⟨b32,o33+x_20.toNat*3,none⟩ x34 x35 x36 /\
 NB p0.a fun b37 o38=>Ib k_19 p0.n /\
 Wp h21 ⟨b37,o38+k_19.toNat*3,none⟩ 3 (L1 x34 x35 x36) fun h39=>
 ∃m40,m40<m18/\I16 (wrap .i64 (k_19+1)) (wrap .i64 (x_20+1)) h39 m40)
 (∃m41,m41<m18/\I16 k_19 (wrap .i64 (x_20+1)) h21 m41))
 (((0:Int)<=(k_19:Int)/\(k_19:Int)<=((p0.n:Nat):Int)/\((p0.n:Nat):Int)<=(p0.c:Nat)) /\
 RunW Pz (Builtin.clear_ #[127] 0 #[.slice (subA p0.a (k_19.toNat) p0.c 3) (Int.toNat (p0.n:Nat)-k_19.toNat) (p0.c-k_19.toNat)]) h21 (fun v43 h42=>
 ((0:Int)<=(0:Int)/\(0:Int)<=(k_19:Int)/\(k_19:Int)<=(p0.c:Nat)) /\
 R (.slice (subA p0.a (Int.toNat 0) p0.c 3) (k_19.toNat-Int.toNat 0) (p0.c-Int.toNat 0)) h42)))
 (∃m44,m44<m3/\I1 (wrap .i64 (k_4+1)) h5 m44))
 (R (vS p0) h5))
theorem vc126 (p0:Sl) (H:@W126 h R p0):Fn Pz 126 #[vS p0] h R:=fnJ (A:=(.s .z (.s .z (.s (.s .z (.b (.l [(3,.one (.int .i64))] (.s .z (.s (.b (.s .z (.c (.s .z (.s (.s .z (.b (.l [(3,.one (.int .i64)),(5,.one (.int .i64))] .z))) .z)) .z))) .z))))) .z)))) H
def W88 (pa:ByteArray) (pb pc:Sl) (pd pe pf:Int) (pg ph:Sl):Prop:=
 Wn h (L0 pa pb pc pd pe pf pg ph) 27 fun h9=>
 ∃x10,rT h9 (aS h 0) x10 /\
 Fn Pz 160 #[.string x10] h9
 (fun v11 h13=>∃x12,iB v11 x12 /\
 sB (!x12)
 (R (.bool false) h13)
 (∃x14,rS h13 (aS h 1) x14 /\
 sB (decide ((x14.n:Int)<1))
 (R (.bool false) h13)
 (∃x15,rS h13 (aS h 1) x15 /\
 sB (decide ((x15.n:Int)>6))
 (R (.bool false) h13)
 (∃x16,rS h13 (aS h 1) x16 /\
 QI 0 h13 fun I17 x_20 h21 m19=>
 sB (decide (x_20<(x16.n:Int)))
 (NB x16.a fun b22 o23=>Ib x_20 x16.n /\
 ∃x24,rT h21 ⟨b22,o23+x_20.toNat*1,none⟩ x24 /\
 Fn Pz 160 #[.string x24] h21
 (fun v25 h27=>∃x26,iB v25 x26 /\
 sB (!x26)
 (R (.bool false) h27)
 (∃x28,rS h27 (aS h 1) x28 /\
 ((0:Int)<=(0:Int)/\(0:Int)<=(x_20:Int)/\(x_20:Int)<=(x28.c:Nat)) /\
 Fn Pz 161 #[.slice (subA x28.a (Int.toNat 0) x28.c 1) (x_20.toNat-Int.toNat 0) (x28.c-Int.toNat 0),.string x24] h27
 (fun v29 h31=>∃x30,iB v29 x30 /\
 sB x30
 (R (.bool false) h31)
 (∃m32,m32<m19/\I17 (wrap .i64 (x_20+1)) h31 m32)))))
 (R (.bool true) h21)))))
theorem vc88 (pa:ByteArray) (pb pc:Sl) (pd pe pf:Int) (pg ph:Sl) (H:@W88 h R pa pb pc pd pe pf pg ph):Fn Pz 88 #[.agg ⟨(L0 pa pb pc pd pe pf pg ph)⟩] h R:=fnJ (A:=(.s .z (.s .z (.s (AI 24) .z)))) H
def W89 (pa:ByteArray) (pb pc:Sl) (pd pe pf:Int) (pg ph:Sl):Prop:=
 Wn h (L0 pa pb pc pd pe pf pg ph) 27 fun h9=>
 ∃x10,rI h9 (aS h 3) x10 /\
 sB (decide (x10<1))
 (R (.bool false) h9)
 (∃x11,rI h9 (aS h 3) x11 /\
 sB (decide (x11>200))
 (R (.bool false) h9)
 (∃x12,rI h9 (aS h 4) x12 /\
 ∃x13,rI h9 (aS h 5) x13 /\
 sB (decide ((imin x12 x13)<0))
 (R (.bool false) h9)
 (∃x14,rI h9 (aS h 4) x14 /\
 ∃x15,rI h9 (aS h 5) x15 /\
 ∃x16,rI h9 (aS h 3) x16 /\
 sB (decide ((imax x14 x15)>=x16))
 (R (.bool false) h9)
 (∃x17,rS h9 (aS h 6) x17 /\
 sB (decide ((x17.n:Int)>400))
 (R (.bool false) h9)
 (∃x18,rS h9 (aS h 6) x18 /\
 QI 0 h9 fun I19 x_22 h23 m21=>
 sB (decide (x_22<(x18.n:Int)))
 (NB x18.a fun b24 o25=>Ib x_22 x18.n /\
 ∃x26 x27 x28 x29 x30 x31,aL3 h23 ⟨b24,o25+x_22.toNat*6,none⟩ x26 x27 x28 x29 x30 x31 /\
 Wn h23 [vI 0,vI 0,vI 0,vI 0,vI 0,.bool false] 67 fun h32=>
 Wp h32 (aS h23 0) 6 (L3 x26 x27 x28 x29 x30 x31) fun h33=>
 ∃x34 x35 x36,aL4 h33 (aS h23 1) x34 x35 x36 /\
 Wn h33 [vI 0,vI 0,vI 0] 65 fun h37=>
 Wp h37 (aS h33 0) 3 (L4 x34 x35 x36) fun h38=>
 ∃x39,rI h38 (aS h23 0) x39 /\
 ∃x40,rI h38 (aS h23 4) x40 /\
 ∃x41,rI h38 (aS h33 0) x41 /\
 ∃x42,rI h38 (aS h33 1) x42 /\
 ∃x43,rI h38 (aS h33 2) x43 /\
 sB (decide ((imin (imin (imin (imin x39 x40) x41) x42) x43)<0))
 (R (.bool false) h38)
 (∃x44,rI h38 (aS h23 0) x44 /\
 ∃x45,rI h38 (aS h23 4) x45 /\
 ∃x46,rI h38 (aS h 3) x46 /\
 sB (decide ((imax x44 x45)>=x46))
 (R (.bool false) h38)
 (∃x47,rI h38 (aS h33 0) x47 /\
 ∃x48,rI h38 (aS h33 1) x48 /\
 ∃x49,rS h38 (aS h 1) x49 /\
 sB (decide ((imax x47 x48)>=(x49.n:Int)))
 (R (.bool false) h38)
 (∃x50,rI h38 (aS h33 0) x50 /\
 ∃x51,rI h38 (aS h33 1) x51 /\
 sB (x50==x51)
 (R (.bool false) h38)
 (∃x52,rI h38 (aS h33 2) x52 /\
 ∃x53,rS h38 (aS h 2) x53 /\
 sB (decide (x52>=(x53.n:Int)))
 (R (.bool false) h38)
 (∃m54,m54<m21/\I19 (wrap .i64 (x_22+1)) h38 m54))))))
 (R (.bool true) h23))))))
theorem vc89 (pa:ByteArray) (pb pc:Sl) (pd pe pf:Int) (pg ph:Sl) (H:@W89 h R pa pb pc pd pe pf pg ph):Fn Pz 89 #[.agg ⟨(L0 pa pb pc pd pe pf pg ph)⟩] h R:=fnJ (A:=(.s .z (.s .z (.s (AI 41) .z)))) H
def W90 (p0:Sl):Prop:=
 sB ((p0.n:Int)==0)
 (R (.bool true) h)
 (Fn Pz 162 #[vS p0,vI 0] h
 (fun v1 h4=>∃(x2:Sl) (x3:Int),v1=.tuple ⟨[vS x2,vI x3]⟩ /\
 R (.bool (x3==0)) h4))
theorem vc90 (p0:Sl) (H:@W90 h R p0):Fn Pz 90 #[vS p0] h R:=fnJ (A:=.z) H
def V91b (h46 h15 h36:Heap) (R:Value->Heap->Prop) (m34:Nat) (I32:Int->Heap->Nat->Prop) (x_35:Int):Prop:=
 ∃x58,rB h46 (aS h15 5) x58/\sB x58 (∃x59,rI h46 (aS h36 4) x59/\∃x60,rI h46 (aS h15 0) x60/\sB (x59==x60) (∃x61,rI h46 (aS h15 1) x61/\∃x62,rI h46 (aS h36 1) x62/\sB (x61 != x62) (R (.bool false) h46) (∃x63,rI h46 (aS h15 (1+2)) x63/\∃x64,rI h46 (aS h36 (1+2)) x64/\sB (x63 != x64) (R (.bool false) h46) (∃m65,m65<m34/\I32 (wrap .i64 (x_35+1)) h46 m65))) (∃m66,m66<m34/\I32 (wrap .i64 (x_35+1)) h46 m66)) (∃m67,m67<m34/\I32 (wrap .i64 (x_35+1)) h46 m67)
def V91a (h25 h:Heap) (x_14:Int) (h15:Heap) (R:Value->Heap->Prop) (m13:Nat) (I11:Int->Heap->Nat->Prop):Prop:=
 ∃x31,rS h25 (aS h 6) x31/\QI 0 h25 fun I32 x_35 h36 m34=>sB (decide (x_35<(x31.n:Int))) (NB x31.a fun b37 o38=>Ib x_35 x31.n/\∃x39 x40 x41 x42 x43 x44,aL3 h36 ⟨b37,o38+x_35.toNat*6,none⟩ x39 x40 x41 x42 x43 x44/\Wn h36 [vI 0,vI 0,vI 0,vI 0,vI 0,.bool false] 67 fun h45=>Wp h45 (aS h36 0) 6 (L3 x39 x40 x41 x42 x43 x44) fun h46=>sB (x_14 != x_35) (∃x47,rI h46 (aS h15 0) x47/\∃x48,rI h46 (aS h36 0) x48/\sB (x47==x48) (∃x49 x50 x51,aL4 h46 (aS h15 1) x49 x50 x51/\∃x52 x53 x54,aL4 h46 (aS h36 1) x52 x53 x54/\sB ((x49==x52)&&((x50==x53)&&((x51==x54)&&true))) (R (.bool false) h46) (∃x55,rI h46 (aS h15 1) x55/\∃x56,rI h46 (aS h36 1) x56/\sB (x55 != x56) (R (.bool false) h46) (∃x57,rB h46 (aS h15 5) x57/\sB x57 (R (.bool false) h46) (V91b h46 h15 h36 R m34 I32 x_35)))) (V91b h46 h15 h36 R m34 I32 x_35)) (V91b h46 h15 h36 R m34 I32 x_35)) (∃m88,m88<m13/\I11 (wrap .i64 (x_14+1)) h36 m88)
def W91 (pa:ByteArray) (pb pc:Sl) (pd pe pf:Int) (pg ph:Sl):Prop:=
 Wn h (L0 pa pb pc pd pe pf pg ph) 27 fun h9=>∃x10,rS h9 (aS h 6) x10/\QI 0 h9 fun I11 x_14 h15 m13=>sB (decide (x_14<(x10.n:Int))) (NB x10.a fun b16 o17=>Ib x_14 x10.n/\∃x18 x19 x20 x21 x22 x23,aL3 h15 ⟨b16,o17+x_14.toNat*6,none⟩ x18 x19 x20 x21 x22 x23/\Wn h15 [vI 0,vI 0,vI 0,vI 0,vI 0,.bool false] 67 fun h24=>Wp h24 (aS h15 0) 6 (L3 x18 x19 x20 x21 x22 x23) fun h25=>∃x26,rI h25 (aS h15 0) x26/\∃x27,rI h25 (aS h 5) x27/\sB (x26==x27) (R (.bool false) h25) (∃x28,rB h25 (aS h15 5) x28/\sB x28 (∃x29,rI h25 (aS h15 0) x29/\∃x30,rI h25 (aS h 4) x30/\sB (x29==x30) (R (.bool false) h25) (V91a h25 h x_14 h15 R m13 I11)) (V91a h25 h x_14 h15 R m13 I11))) (R (.bool true) h15)
theorem vc91 (pa:ByteArray) (pb pc:Sl) (pd pe pf:Int) (pg ph:Sl) (H:@W91 h R pa pb pc pd pe pf pg ph):Fn Pz 91 #[.agg ⟨(L0 pa pb pc pd pe pf pg ph)⟩] h R:=fnJ (A:=(.s .z (.s (.s .z (.b (.l [(10,.one (.int .i64))] (.s .z (.s .z (.s (.b (.s .z (.s .z (AI 34)))) .z)))))) .z))) H
def W92 (pa:ByteArray) (pb pc:Sl) (pd pe pf:Int) (pg ph:Sl):Prop:=
 Wn h (L0 pa pb pc pd pe pf pg ph) 27 fun h9=>
 ∃x10,rS h9 (aS h 7) x10 /\
 QII (-1) 0 h9 fun I11 last_14 x_15 h16 m13=>
 sB (decide (x_15<(x10.n:Int)))
 (NB x10.a fun b17 o18=>Ib x_15 x10.n /\
 ∃x19 x20 x21,aL4 h16 ⟨b17,o18+x_15.toNat*3,none⟩ x19 x20 x21 /\
 Wn h16 [vI 0,vI 0,vI 0] 149 fun h22=>
 Wp h22 (aS h16 0) 3 (L4 x19 x20 x21) fun h23=>
 ∃x24,rI h23 (aS h16 0) x24 /\
 sB (decide (x24<=last_14))
 (R (.bool false) h23)
 (∃x25,rI h23 (aS h16 1) x25 /\
 sB (decide (x25<1))
 (R (.bool false) h23)
 (∃x26,rI h23 (aS h16 1) x26 /\
 sB (decide (x26>1000))
 (R (.bool false) h23)
 (∃x27,rI h23 (aS h16 2) x27 /\
 sB (decide (x27<0))
 (R (.bool false) h23)
 (∃x28,rI h23 (aS h16 2) x28 /\
 ∃x29,rS h23 (aS h 6) x29 /\
 sB (decide (x28>=(x29.n:Int)))
 (R (.bool false) h23)
 (∃x30,rS h23 (aS h 6) x30 /\
 ∃x31,rI h23 (aS h16 2) x31 /\
 NB x30.a fun b32 o33=>Ib x31 x30.n /\
 ∃x34,rI h23 ⟨b32,o33+x31.toNat*6,none⟩ x34 /\
 ∃x35,rI h23 (aS h16 0) x35 /\
 sB (x34 != x35)
 (R (.bool false) h23)
 (∃x36,rS h23 (aS h 6) x36 /\
 ∃x37,rI h23 (aS h16 2) x37 /\
 NB x36.a fun b38 o39=>Ib x37 x36.n /\
 ∃x40,rB h23 ⟨b38,o39+x37.toNat*6+5,none⟩ x40 /\
 sB x40
 (R (.bool false) h23)
 (∃x41,rI h23 (aS h16 0) x41 /\
 ∃m42,m42<m13/\I11 x41 (wrap .i64 (x_15+1)) h23 m42))))))))
 (R (.bool true) h16)
theorem vc92 (pa:ByteArray) (pb pc:Sl) (pd pe pf:Int) (pg ph:Sl) (H:@W92 h R pa pb pc pd pe pf pg ph):Fn Pz 92 #[.agg ⟨(L0 pa pb pc pd pe pf pg ph)⟩] h R:=fnJ (A:=(.s .z (.s .z (.s (.s .z (.b (.l [(3,.one (.int .i64)),(9,.one (.int .i64))] .z))) .z)))) H
def W163 (p0:Sl) (p1:Int):Prop:=
 QI 0 h fun I1 x_4 h5 m3=>
 sB (decide (x_4<(p0.n:Int)))
 (NB p0.a fun b6 o7=>Ib x_4 p0.n /\
 ∃x8,rI h5 ⟨b6,o7+x_4.toNat*1,none⟩ x8 /\
 sB (p1==x8)
 (R (vI x_4) h5)
 (∃m9,m9<m3/\I1 (wrap .i64 (x_4+1)) h5 m9))
 (R (vI (-1)) h5)
theorem vc163 (p0:Sl) (p1:Int) (H:@W163 h R p0 p1):Fn Pz 163 #[vS p0,vI p1] h R:=fnJ (A:=(.s .z (.s (AI 8) .z))) H
def W93 (p0:Sl) (p1:Int):Prop:=
 Fn Pz 163 #[vS p0,vI p1] h
 (fun v1 h3=>∃x2,iI v1 x2 /\
 R (.bool (decide (x2>=0))) h3)
theorem vc93 (p0:Sl) (p1:Int) (H:@W93 h R p0 p1):Fn Pz 93 #[vS p0,vI p1] h R:=fnJ (A:=.z) H
def W77 (p0:Sl) (p1:Int):Prop:=
 ∃J1:Heap->Prop,
 (sB (decide (p1<0))
 (False)
 (J1 h)) /\
 ∀(_:Env) (h2:Heap),J1 h2 ->
 (Fn Pz 141 #[.int .u64 (wrap .u64 (p0.n:Int)),.int .u64 (wrap .u64 p1)] h2
 (fun v3 h6=>∃(x4 x5:Int),v3=.tuple ⟨[.int .u64 x4,.int .u64 x5]⟩ /\
 ∃J7:Heap->Prop,
 (sB (decide (x4>0))
 (False)
 (sB (decide (x5>9223372036854775807))
 (False)
 (J7 h6))) /\
 ∀(_:Env) (h8:Heap),J7 h8 ->
 (((0:Int)<=(wrap .i64 x5)/\((wrap .i64 x5):Int)<=(wrap .i64 x5)/\((8:Nat):Int)*(wrap .i64 x5)<=140737488355328)/\Wn h8 (madeL Pz 3 (Int.toNat (wrap .i64 x5))) 3 fun h9=>
 Cpy Pz 102 102 (.slice (some (aS h8 0)) (Int.toNat (wrap .i64 x5)) (Int.toNat (wrap .i64 x5))) (vS p0) h9 fun n10 h11=>
 QI n10 h11 fun I12 n_15 h16 m14=>
 sB (decide (n_15<((Int.toNat (wrap .i64 x5)):Int)))
 (((0:Int)<=(n_15:Int)/\(n_15:Int)<=(((Int.toNat (wrap .i64 x5)):Nat):Int)/\(((Int.toNat (wrap .i64 x5)):Nat):Int)<=((Int.toNat (wrap .i64 x5)):Nat)) /\
 ((0:Int)<=(0:Int)/\(0:Int)<=(n_15:Int)/\(n_15:Int)<=((Int.toNat (wrap .i64 x5)):Nat)) /\
 Cpy Pz 102 102 (.slice (subA (some (aS h8 0)) (n_15.toNat) (Int.toNat (wrap .i64 x5)) 1) (Int.toNat ((Int.toNat (wrap .i64 x5)):Nat)-n_15.toNat) ((Int.toNat (wrap .i64 x5))-n_15.toNat)) (.slice (subA (some (aS h8 0)) (Int.toNat 0) (Int.toNat (wrap .i64 x5)) 1) (n_15.toNat-Int.toNat 0) ((Int.toNat (wrap .i64 x5))-Int.toNat 0)) h16 fun n17 h18=>
 ∃m19,m19<m14/\I12 (wrap .i64 (n_15+n17)) h18 m19)
 (R (.slice (some (aS h8 0)) (Int.toNat (wrap .i64 x5)) (Int.toNat (wrap .i64 x5))) h16))))
theorem vc77 (p0:Sl) (p1:Int) (H:@W77 h R p0 p1):Fn Pz 77 #[vS p0,vI p1] h R:=fnJ (A:=(.s .z (.j [] .z (.s .z (.j [] .z (.s .z (.s .z (.s (.b (.l [(8,.one (.int .i64))] .z)) .z)))))))) H
def W94 (pa:ByteArray) (pb pc:Sl) (pd pe pf:Int) (pg ph:Sl) (p1:Int) (p2:Bool):Prop:=
 Wn h (L0 pa pb pc pd pe pf pg ph) 27 fun h9=>
 Wn h9 [vI (-1)] 3 fun h10=>
 ∃x11,rI h10 (aS h 3) x11 /\
 Fn Pz 77 #[.slice (some (aS h9 0)) 1 1,vI x11] h10
 (fun v12 h14=>∃x13,iS v12 x13 /\
 NB x13.a fun b15 o16=>Ib p1 x13.n /\
 Wp h14 ⟨b15,o16+p1.toNat*1,none⟩ 1 [vI 0] fun h17=>
 Wn h17 [vI p1] 3 fun h18=>
 QS ⟨(some (aS h17 0)),1,1⟩ h18 fun I19 todo_22 h23 m21=>
 sB (decide ((todo_22.n:Int)>0))
 (∃x24,rS h23 (aS h 6) x24 /\
 QSI todo_22 0 h23 fun I25 todo_28 x_29 h30 m27=>
 sB (decide (x_29<(x24.n:Int)))
 (NB x24.a fun b31 o32=>Ib x_29 x24.n /\
 ∃x33 x34 x35 x36 x37 x38,aL3 h30 ⟨b31,o32+x_29.toNat*6,none⟩ x33 x34 x35 x36 x37 x38 /\
 Wn h30 [vI 0,vI 0,vI 0,vI 0,vI 0,.bool false] 67 fun h39=>
 Wp h39 (aS h30 0) 6 (L3 x33 x34 x35 x36 x37 x38) fun h40=>
 ∃x41,rI h40 (aS h30 0) x41 /\
 ∃x42,rI h40 (aS h30 4) x42 /\
 ∃J43:Int->Int->Heap->Prop,
 (sB p2
 (J43 x42 x41 h40)
 (J43 x41 x42 h40)) /\
 ∀(_:Env) (a_44 b_45:Int) (h46:Heap),J43 a_44 b_45 h46 ->
 (NB todo_28.a fun b47 o48=>Ib 0 todo_28.n /\
 ∃x49,rI h46 ⟨b47,o48+Int.toNat 0*1,none⟩ x49 /\
 sB (a_44==x49)
 (NB x13.a fun b50 o51=>Ib b_45 x13.n /\
 ∃x52,rI h46 ⟨b50,o51+b_45.toNat*1,none⟩ x52 /\
 sB (decide (x52<0))
 (NB x13.a fun b53 o54=>Ib a_44 x13.n /\
 ∃x55,rI h46 ⟨b53,o54+a_44.toNat*1,none⟩ x55 /\
 NB x13.a fun b56 o57=>Ib b_45 x13.n /\
 Wp h46 ⟨b56,o57+b_45.toNat*1,none⟩ 1 [vI (wrap .i64 (x55+1))] fun h58=>
 Wn h58 [vI b_45] 3 fun h59=>
 App Pz 102 102 (vS todo_28) (.slice (some (aS h58 0)) 1 1) h59 fun s60 h61=>
 ∃m62,m62<m27/\I25 s60 (wrap .i64 (x_29+1)) h61 m62)
 (∃m63,m63<m27/\I25 todo_28 (wrap .i64 (x_29+1)) h46 m63))
 (∃m64,m64<m27/\I25 todo_28 (wrap .i64 (x_29+1)) h46 m64)))
 (((0:Int)<=(1:Int)/\(1:Int)<=((todo_28.n:Nat):Int)/\((todo_28.n:Nat):Int)<=(todo_28.c:Nat)) /\
 ∃m65,m65<m21/\I19 ⟨(subA todo_28.a (Int.toNat 1) todo_28.c 1),(Int.toNat (todo_28.n:Nat)-Int.toNat 1),(todo_28.c-Int.toNat 1)⟩ h30 m65))
 (R (vS x13) h23))
theorem vc94 (pa:ByteArray) (pb pc:Sl) (pd pe pf:Int) (pg ph:Sl) (p1:Int) (p2:Bool) (H:@W94 h R pa pb pc pd pe pf pg ph p1 p2):Fn Pz 94 #[.agg ⟨(L0 pa pb pc pd pe pf pg ph)⟩,vI p1,.bool p2] h R:=fnJ (A:=(.s .z (.s .z (.s .z (.s (.s .z (.b (.l [(8,.one (.slice))] (.s .z (.s (.b (.s .z (.b (.l [(8,.one (.slice)),(30,.one (.int .i64))] (.s .z (.s .z (.s (.b (.s .z (.s .z (.j [(11,.one (.int .i64)),(12,.one (.int .i64))] .z .z)))) .z))))))) .z))))) .z))))) H
def W40 (pa:ByteArray) (pb pc:Sl) (pd pe pf:Int) (pg ph:Sl):Prop:=
 Wn h (L0 pa pb pc pd pe pf pg ph) 27 fun h9=>
 ∃x10 x11 x12 x13 x14 x15 x16 x17,aL0 h9 (aS h 0) x10 x11 x12 x13 x14 x15 x16 x17 /\
 Fn Pz 88 #[.agg ⟨(L0 x10 x11 x12 x13 x14 x15 x16 x17)⟩] h9
 (fun v18 h20=>∃x19,iB v18 x19 /\
 sB x19
 (∃x21 x22 x23 x24 x25 x26 x27 x28,aL0 h20 (aS h 0) x21 x22 x23 x24 x25 x26 x27 x28 /\
 Fn Pz 89 #[.agg ⟨(L0 x21 x22 x23 x24 x25 x26 x27 x28)⟩] h20
 (fun v29 h31=>∃x30,iB v29 x30 /\
 sB x30
 (∃x32,rS h31 (aS h 2) x32 /\
 Fn Pz 90 #[vS x32] h31
 (fun v33 h35=>∃x34,iB v33 x34 /\
 sB x34
 (∃x36 x37 x38 x39 x40 x41 x42 x43,aL0 h35 (aS h 0) x36 x37 x38 x39 x40 x41 x42 x43 /\
 Fn Pz 91 #[.agg ⟨(L0 x36 x37 x38 x39 x40 x41 x42 x43)⟩] h35
 (fun v44 h46=>∃x45,iB v44 x45 /\
 sB x45
 (∃x47 x48 x49 x50 x51 x52 x53 x54,aL0 h46 (aS h 0) x47 x48 x49 x50 x51 x52 x53 x54 /\
 Fn Pz 92 #[.agg ⟨(L0 x47 x48 x49 x50 x51 x52 x53 x54)⟩] h46
 (fun v55 h57=>∃x56,iB v55 x56 /\
 sB x56
 (∃x58 x59 x60 x61 x62 x63 x64 x65,aL0 h57 (aS h 0) x58 x59 x60 x61 x62 x63 x64 x65 /\
 ∃x66,rI h57 (aS h 4) x66 /\
 Fn Pz 94 #[.agg ⟨(L0 x58 x59 x60 x61 x62 x63 x64 x65)⟩,vI x66,.bool false] h57
 (fun v67 h69=>∃x68,iS v67 x68 /\
 Fn Pz 93 #[vS x68,vI (-1)] h69
 (fun v70 h72=>∃x71,iB v70 x71 /\
 sB (!x71)
 (∃x73 x74 x75 x76 x77 x78 x79 x80,aL0 h72 (aS h 0) x73 x74 x75 x76 x77 x78 x79 x80 /\
 ∃x81,rI h72 (aS h 5) x81 /\
 Fn Pz 94 #[.agg ⟨(L0 x73 x74 x75 x76 x77 x78 x79 x80)⟩,vI x81,.bool true] h72
 (fun v82 h84=>∃x83,iS v82 x83 /\
 Fn Pz 93 #[vS x83,vI (-1)] h84
 (fun v85 h87=>∃x86,iB v85 x86 /\
 R (.bool (!x86)) h87)))
 (R (.bool false) h72))))
 (R (.bool false) h57)))
 (R (.bool false) h46)))
 (R (.bool false) h35)))
 (R (.bool false) h31)))
 (R (.bool false) h20))
theorem vc40 (pa:ByteArray) (pb pc:Sl) (pd pe pf:Int) (pg ph:Sl) (H:@W40 h R pa pb pc pd pe pf pg ph):Fn Pz 40 #[.agg ⟨(L0 pa pb pc pd pe pf pg ph)⟩] h R:=fnJ (A:=.z) H
def W127 (p0:Sl) (p1:Int):Prop:=
 sB (decide (p1<(imin (p0.n:Int) 64)))
 (NB p0.a fun b1 o2=>Ib p1 p0.n /\
 ∃x3:Int,hc h ⟨b1,o2+p1.toNat*1,none⟩=some (.int .u64 x3) /\
 R (.int .u64 x3) h)
 (R (.int .u64 0) h)
theorem vc127 (p0:Sl) (p1:Int) (H:@W127 h R p0 p1):Fn Pz 127 #[vS p0,vI p1] h R:=fnJ (A:=.z) H
def W67 (p0:Sl) (p1:Int):Prop:=
 sB (decide (p1>=0))
 (sB (decide (p1<4096))
 ((64:Int)≠0/\Fn Pz 127 #[vS p0,vI (wrap .i64 (Int.tdiv p1 64))] h
 (fun v1 h3=>∃x2:Int,v1=.int .u64 x2 /\
 (64:Int)≠0/\0<=(Int.tmod p1 64)/\R (.bool ((andI .u64 (shrI .u64 x2 (Int.tmod p1 64)) 1)==1)) h3))
 (R (.bool false) h))
 (R (.bool false) h)
theorem vc67 (p0:Sl) (p1:Int) (H:@W67 h R p0 p1):Fn Pz 67 #[vS p0,vI p1] h R:=fnJ (A:=.z) H
def V135a (n_15 p0:Int) (R:Value->Heap->Prop) (h h16:Heap):Prop:=
 ((0:Int)<=(0:Int)/\(0:Int)<=(n_15:Int)/\(n_15:Int)<=(n_15:Int)/\(n_15:Int)<=((Int.toNat (imin p0 64)):Nat))/\R (.slice (subA (some (aS h 0)) (Int.toNat 0) (n_15.toNat) 1) (n_15.toNat-Int.toNat 0) (n_15.toNat-Int.toNat 0)) h16
def V135b (x_5 p0:Int) (h9 h:Heap) (x8:Int) (m4:Nat) (I2:Int->Heap->Nat->Prop):Prop:=
 (0<=(x_5:Int)/\(x_5:Int)<((Int.toNat (imin p0 64)):Nat))/\Wp h9 (aS h (0+x_5.toNat*1)) 1 [.int .u64 x8] fun h10=>∃m11,m11<m4/\I2 (wrap .i64 (x_5+1)) h10 m11
def W135 (p0:Int) (p1:FuncId) (p1c:Option Addr):Prop:=
 ((0:Int)<=(imin p0 64)/\((imin p0 64):Int)<=(imin p0 64)/\((8:Nat):Int)*(imin p0 64)<=140737488355328)/\Wn h (madeL Pz 144 (Int.toNat (imin p0 64))) 144 fun h1=>QI 0 h1 fun I2 x_5 h6 m4=>sB (decide (x_5<((Int.toNat (imin p0 64)):Int))) (bif callable Pz p1 then Fn Pz p1 #[vI x_5,.pointer p1c] h6 (fun v7 h9=>∃x8:Int,v7=.int .u64 x8/\V135b x_5 p0 h9 h x8 m4 I2) else ExtW Pz p1 #[vI x_5,.pointer p1c] h6 (fun v7 h9=>∃x8:Int,v7=.int .u64 x8/\V135b x_5 p0 h9 h x8 m4 I2)) (QI (imin p0 64) h6 fun I12 n_15 h16 m14=>sB (decide (n_15>0)) ((0<=((wrap .i64 (n_15-1)):Int)/\((wrap .i64 (n_15-1)):Int)<((Int.toNat (imin p0 64)):Nat))/\∃x17:Int,hc h16 (aS h (0+Int.toNat (wrap .i64 (n_15-1))*1))=some (.int .u64 x17)/\sB (x17==0) (∃m18,m18<m14/\I12 (wrap .i64 (n_15-1)) h16 m18) (V135a n_15 p0 R h h16)) (V135a n_15 p0 R h h16))
theorem vc135 (p0:Int) (p1:FuncId) (p1c:Option Addr) (H:@W135 h R p0 p1 p1c):Fn Pz 135 #[vI p0,.func (.func p1) #[] #[.pointer p1c]] h R:=fnJ (A:=(.s .z (.s .z (.s .z (.s (AI 13) (.s (.b (.l [(0,.one (.int .i64))] .z)) .z)))))) H
def W136 (p0:Int) (c0b:Nat) (c0o:Nat):Prop:=
 Ib p0 64 /\
 ∃x1:Int,hc h ⟨c0b,c0o+p0.toNat*1,none⟩=some (.int .u64 x1) /\
 R (.int .u64 x1) h
theorem vc136 (p0:Int) (c0b:Nat) (c0o:Nat) (H:@W136 h R p0 c0b c0o):Fn Pz 136 #[vI p0,.pointer (some ⟨c0b,c0o,none⟩)] h R:=fnJ (A:=.z) H
def W74 (p0:Sl):Prop:=
 Wn h [.int .u64 0,.int .u64 0,.int .u64 0,.int .u64 0,.int .u64 0,.int .u64 0,.int .u64 0,.int .u64 0,.int .u64 0,.int .u64 0,.int .u64 0,.int .u64 0,.int .u64 0,.int .u64 0,.int .u64 0,.int .u64 0,.int .u64 0,.int .u64 0,.int .u64 0,.int .u64 0,.int .u64 0,.int .u64 0,.int .u64 0,.int .u64 0,.int .u64 0,.int .u64 0,.int .u64 0,.int .u64 0,.int .u64 0,.int .u64 0,.int .u64 0,.int .u64 0,.int .u64 0,.int .u64 0,.int .u64 0,.int .u64 0,.int .u64 0,.int .u64 0,.int .u64 0,.int .u64 0,.int .u64 0,.int .u64 0,.int .u64 0,.int .u64 0,.int .u64 0,.int .u64 0,.int .u64 0,.int .u64 0,.int .u64 0,.int .u64 0,.int .u64 0,.int .u64 0,.int .u64 0,.int .u64 0,.int .u64 0,.int .u64 0,.int .u64 0,.int .u64 0,.int .u64 0,.int .u64 0,.int .u64 0,.int .u64 0,.int .u64 0,.int .u64 0] 253 fun h1=>
 QI 0 h1 fun I2 x_5 h6 m4=>
 sB (decide (x_5<(p0.n:Int)))
 (NB p0.a fun b7 o8=>Ib x_5 p0.n /\
 ∃x9,rI h6 ⟨b7,o8+x_5.toNat*1,none⟩ x9 /\
 sB (decide (x9>=0))
 (sB (decide (x9<4096))
 ((64:Int)≠0/\(0<=((wrap .i64 (Int.tdiv x9 64)):Int)/\((wrap .i64 (Int.tdiv x9 64)):Int)<(64:Nat)) /\
 ∃x10:Int,hc h6 (aS h (0+Int.toNat (wrap .i64 (Int.tdiv x9 64))*1))=some (.int .u64 x10) /\
 (64:Int)≠0/\0<=(Int.tmod x9 64)/\(0<=((wrap .i64 (Int.tdiv x9 64)):Int)/\((wrap .i64 (Int.tdiv x9 64)):Int)<(64:Nat)) /\
 Wp h6 (aS h (0+Int.toNat (wrap .i64 (Int.tdiv x9 64))*1)) 1 [.int .u64 (orI .u64 x10 (shlI .u64 1 (Int.tmod x9 64)))] fun h11=>
 ∃m12,m12<m4/\I2 (wrap .i64 (x_5+1)) h11 m12)
 (∃m13,m13<m4/\I2 (wrap .i64 (x_5+1)) h6 m13))
 (∃m14,m14<m4/\I2 (wrap .i64 (x_5+1)) h6 m14))
 (Fn Pz 135 #[vI 64,.func (.func 136) #[] #[.pointer (some (aS h 0))]] h6
 (fun v15 h17=>∃x16,iS v15 x16 /\
 R (vS x16) h17))
theorem vc74 (p0:Sl) (H:@W74 h R p0):Fn Pz 74 #[vS p0] h R:=fnJ (A:=(.s .z (.s .z (.s (AI 8) .z)))) H
def V38a (h91 h3 h:Heap) (R:Value->Heap->Prop):Prop:=
 ∃x92 x93 x94 x95 x96 x97 x98 x99,aL0 h91 (aS h3 0) x92 x93 x94 x95 x96 x97 x98 x99/\Wp h91 (aS h 0) 8 (L0 x92 x93 x94 x95 x96 x97 x98 x99) fun h100=>∃x101 x102 x103 x104 x105 x106 x107 x108,aL0 h100 (aS h 0) x101 x102 x103 x104 x105 x106 x107 x108/\R (.agg ⟨(L0 x101 x102 x103 x104 x105 x106 x107 x108)⟩) h100
def W38 (p0:Bool):Prop:=
 Wn h [.string ⟨#[]⟩,vN,vN,vI 0,vI 0,vI 0,vN,vN] 27 fun h1=>Wn h1 [.string ⟨#[112]⟩,.string ⟨#[113]⟩,.string ⟨#[114]⟩] 9 fun h2=>Wn h2 [.string ⟨#[97]⟩,vN,vI 0,vN,vN,.string ⟨#[98]⟩,vN,vI 0,vN,vN,.string ⟨#[99]⟩,vN,vI 0,vN,vN,.string ⟨#[100]⟩,vN,vI 0,vN,vN] 171 fun h3=>Wn h3 [.string ⟨#[]⟩,vN,vN,vI 0,vI 0,vI 0,vN,vN] 27 fun h4=>Wp h4 (aS h3 0) 8 [.string ⟨#[101]⟩,.slice (some (aS h1 0)) 3 3,.slice (some (aS h2 0)) 4 4,vI 4,vI 0,vI 3,vN,vN] fun h5=>Fn Pz 87 #[vI 0,vI 0,vI 1,vI 0,vI 1] h5 (fun v6 h13=>∃(x7 x8 x9 x10 x11:Int) (x12:Bool),v6=.agg ⟨(L3 x7 x8 x9 x10 x11 x12)⟩/\Fn Pz 87 #[vI 0,vI 0,vI 1,vI 1,vI 2] h13 (fun v14 h21=>∃(x15 x16 x17 x18 x19:Int) (x20:Bool),v14=.agg ⟨(L3 x15 x16 x17 x18 x19 x20)⟩/\Fn Pz 87 #[vI 1,vI 2,vI 1,vI 2,vI 3] h21 (fun v22 h29=>∃(x23 x24 x25 x26 x27:Int) (x28:Bool),v22=.agg ⟨(L3 x23 x24 x25 x26 x27 x28)⟩/\Fn Pz 87 #[vI 2,vI 2,vI 1,vI 3,vI 3] h29 (fun v30 h37=>∃(x31 x32 x33 x34 x35:Int) (x36:Bool),v30=.agg ⟨(L3 x31 x32 x33 x34 x35 x36)⟩/\Wn h37 [vI x7,vI x8,vI x9,vI x10,vI x11,.bool x12,vI x15,vI x16,vI x17,vI x18,vI x19,.bool x20,vI x23,vI x24,vI x25,vI x26,vI x27,.bool x28,vI x31,vI x32,vI x33,vI x34,vI x35,.bool x36] 67 fun h38=>Wp h38 (aS h3 6) 1 [.slice (some (aS h37 0)) 4 4] fun h39=>sB p0 (Wp h39 (aS h3 3) 1 [vI 6] fun h40=>Wp h40 (aS h3 5) 1 [vI 5] fun h41=>Fn Pz 87 #[vI 0,vI 0,vI 1,vI 0,vI 1] h41 (fun v42 h49=>∃(x43 x44 x45 x46 x47:Int) (x48:Bool),v42=.agg ⟨(L3 x43 x44 x45 x46 x47 x48)⟩/\Fn Pz 87 #[vI 0,vI 0,vI 1,vI 1,vI 2] h49 (fun v50 h57=>∃(x51 x52 x53 x54 x55:Int) (x56:Bool),v50=.agg ⟨(L3 x51 x52 x53 x54 x55 x56)⟩/\Fn Pz 87 #[vI 1,vI 1,vI 2,vI 0,vI 3] h57 (fun v58 h65=>∃(x59 x60 x61 x62 x63:Int) (x64:Bool),v58=.agg ⟨(L3 x59 x60 x61 x62 x63 x64)⟩/\Fn Pz 87 #[vI 2,vI 1,vI 2,vI 1,vI 4] h65 (fun v66 h73=>∃(x67 x68 x69 x70 x71:Int) (x72:Bool),v66=.agg ⟨(L3 x67 x68 x69 x70 x71 x72)⟩/\Fn Pz 87 #[vI 3,vI 2,vI 1,vI 2,vI 5] h73 (fun v74 h81=>∃(x75 x76 x77 x78 x79:Int) (x80:Bool),v74=.agg ⟨(L3 x75 x76 x77 x78 x79 x80)⟩/\Fn Pz 87 #[vI 4,vI 2,vI 1,vI 3,vI 5] h81 (fun v82 h89=>∃(x83 x84 x85 x86 x87:Int) (x88:Bool),v82=.agg ⟨(L3 x83 x84 x85 x86 x87 x88)⟩/\Wn h89 [vI x43,vI x44,vI x45,vI x46,vI x47,.bool x48,vI x51,vI x52,vI x53,vI x54,vI x55,.bool x56,vI x59,vI x60,vI x61,vI x62,vI x63,.bool x64,vI x67,vI x68,vI x69,vI x70,vI x71,.bool x72,vI x75,vI x76,vI x77,vI x78,vI x79,.bool x80,vI x83,vI x84,vI x85,vI x86,vI x87,.bool x88] 67 fun h90=>Wp h90 (aS h3 6) 1 [.slice (some (aS h89 0)) 6 6] fun h91=>V38a h91 h3 h R))))))) (V38a h39 h3 h R)))))
theorem vc38 (p0:Bool) (H:@W38 h R p0):Fn Pz 38 #[.bool p0] h R:=fnJ (A:=.z) H
def W87 (p0 p1 p2 p3 p4:Int):Prop:=
 Wn h [vI 0,vI 0,vI 0,vI 0,vI 0,.bool false] 67 fun h1=>
 Wp h1 (aS h 0) 6 [vI p0,vI p1,vI p2,vI p3,vI p4,.bool false] fun h2=>
 ∃x3 x4 x5 x6 x7 x8,aL3 h2 (aS h 0) x3 x4 x5 x6 x7 x8 /\
 R (.agg ⟨(L3 x3 x4 x5 x6 x7 x8)⟩) h2
theorem vc87 (p0 p1 p2 p3 p4:Int) (H:@W87 h R p0 p1 p2 p3 p4):Fn Pz 87 #[vI p0,vI p1,vI p2,vI p3,vI p4] h R:=fnJ (A:=.z) H
def W13 (pa:ByteArray) (pb pc:Sl) (pd pe pf:Int) (pg ph:Sl):Prop:=
 Wn h (L0 pa pb pc pd pe pf pg ph) 27 fun h9=>
 ∃x10 x11 x12 x13 x14 x15 x16 x17,aL0 h9 (aS h 0) x10 x11 x12 x13 x14 x15 x16 x17 /\
 Fn Pz 39 #[.agg ⟨(L0 x10 x11 x12 x13 x14 x15 x16 x17)⟩] h9
 (fun v18 h20=>∃x19,iB v18 x19 /\
 sB x19
 (∃x21,rI h20 (aS h 3) x21 /\
 R (.bool (decide (x21<=25))) h20)
 (R (.bool false) h20))
theorem vc13 (pa:ByteArray) (pb pc:Sl) (pd pe pf:Int) (pg ph:Sl) (H:@W13 h R pa pb pc pd pe pf pg ph):Fn Pz 13 #[.agg ⟨(L0 pa pb pc pd pe pf pg ph)⟩] h R:=fnJ (A:=.z) H
def W39 (pa:ByteArray) (pb pc:Sl) (pd pe pf:Int) (pg ph:Sl):Prop:=
 Wn h (L0 pa pb pc pd pe pf pg ph) 27 fun h9=>
 ∃x10,rS h9 (aS h 6) x10 /\
 sB (decide ((x10.n:Int)<=50))
 (∃x11,rS h9 (aS h 1) x11 /\
 sB (decide ((x11.n:Int)<=6))
 (∃x12,rS h9 (aS h 2) x12 /\
 sB (decide ((x12.n:Int)<=40))
 (∃x13,rS h9 (aS h 7) x13 /\
 R (.bool (decide ((x13.n:Int)<=50))) h9)
 (R (.bool false) h9))
 (R (.bool false) h9))
 (R (.bool false) h9)
theorem vc39 (pa:ByteArray) (pb pc:Sl) (pd pe pf:Int) (pg ph:Sl) (H:@W39 h R pa pb pc pd pe pf pg ph):Fn Pz 39 #[.agg ⟨(L0 pa pb pc pd pe pf pg ph)⟩] h R:=fnJ (A:=.z) H
def W17 (pa:ByteArray) (pb pc:Sl) (pd pe pf:Int) (pg ph:Sl):Prop:=
 Wn h (L0 pa pb pc pd pe pf pg ph) 27 fun h9=>
 ∃x10 x11 x12 x13 x14 x15 x16 x17,aL0 h9 (aS h 0) x10 x11 x12 x13 x14 x15 x16 x17 /\
 Fn Pz 43 #[.agg ⟨(L0 x10 x11 x12 x13 x14 x15 x16 x17)⟩] h9
 (fun v18 h20=>∃x19,iB v18 x19 /\
 sB x19
 (∃x21 x22 x23 x24 x25 x26 x27 x28,aL0 h20 (aS h 0) x21 x22 x23 x24 x25 x26 x27 x28 /\
 Fn Pz 44 #[.agg ⟨(L0 x21 x22 x23 x24 x25 x26 x27 x28)⟩] h20
 (fun v29 h31=>∃x30,iB v29 x30 /\
 sB x30
 (∃x32 x33 x34 x35 x36 x37 x38 x39,aL0 h31 (aS h 0) x32 x33 x34 x35 x36 x37 x38 x39 /\
 Fn Pz 45 #[.agg ⟨(L0 x32 x33 x34 x35 x36 x37 x38 x39)⟩] h31
 (fun v40 h42=>∃x41,iB v40 x41 /\
 sB x41
 (∃x43 x44 x45 x46 x47 x48 x49 x50,aL0 h42 (aS h 0) x43 x44 x45 x46 x47 x48 x49 x50 /\
 Fn Pz 46 #[.agg ⟨(L0 x43 x44 x45 x46 x47 x48 x49 x50)⟩] h42
 (fun v51 h53=>∃x52,iB v51 x52 /\
 sB x52
 (∃x54 x55 x56 x57 x58 x59 x60 x61,aL0 h53 (aS h 0) x54 x55 x56 x57 x58 x59 x60 x61 /\
 Fn Pz 47 #[.agg ⟨(L0 x54 x55 x56 x57 x58 x59 x60 x61)⟩] h53
 (fun v62 h64=>∃x63,iB v62 x63 /\
 R (.bool x63) h64))
 (R (.bool false) h53)))
 (R (.bool false) h42)))
 (R (.bool false) h31)))
 (R (.bool false) h20))
theorem vc17 (pa:ByteArray) (pb pc:Sl) (pd pe pf:Int) (pg ph:Sl) (H:@W17 h R pa pb pc pd pe pf pg ph):Fn Pz 17 #[.agg ⟨(L0 pa pb pc pd pe pf pg ph)⟩] h R:=fnJ (A:=.z) H
def W48 (pa:ByteArray) (pb pc:Sl) (pd pe pf:Int) (pg ph:Sl) (p1:Int):Prop:=
 Wn h (L0 pa pb pc pd pe pf pg ph) 27 fun h9=>
 ∃x10 x11 x12 x13 x14 x15 x16 x17,aL0 h9 (aS h 0) x10 x11 x12 x13 x14 x15 x16 x17 /\
 Fn Pz 17 #[.agg ⟨(L0 x10 x11 x12 x13 x14 x15 x16 x17)⟩] h9
 (fun v18 h20=>∃x19,iB v18 x19 /\
 sB x19
 (sB (decide (p1>=0))
 (∃x21,rS h20 (aS h 1) x21 /\
 R (.bool (decide (p1<(x21.n:Int)))) h20)
 (R (.bool false) h20))
 (R (.bool false) h20))
theorem vc48 (pa:ByteArray) (pb pc:Sl) (pd pe pf:Int) (pg ph:Sl) (p1:Int) (H:@W48 h R pa pb pc pd pe pf pg ph p1):Fn Pz 48 #[.agg ⟨(L0 pa pb pc pd pe pf pg ph)⟩,vI p1] h R:=fnJ (A:=.z) H
def W43 (pa:ByteArray) (pb pc:Sl) (pd pe pf:Int) (pg ph:Sl):Prop:=
 Wn h (L0 pa pb pc pd pe pf pg ph) 27 fun h9=>
 QI 0 h9 fun I10 i_13 h14 m12=>
 ∃x15,rS h14 (aS h 1) x15 /\
 sB (decide (i_13<(x15.n:Int)))
 (∃x16,rS h14 (aS h 1) x16 /\
 NB x16.a fun b17 o18=>Ib i_13 x16.n /\
 ∃x19,rT h14 ⟨b17,o18+i_13.toNat*1,none⟩ x19 /\
 Fn Pz 100 #[.string x19] h14
 (fun v20 h22=>∃x21,iB v20 x21 /\
 sB (!x21)
 (R (.bool false) h22)
 (∃x23,rS h22 (aS h 1) x23 /\
 ∃x24,rS h22 (aS h 1) x24 /\
 NB x24.a fun b25 o26=>Ib i_13 x24.n /\
 ∃x27,rT h22 ⟨b25,o26+i_13.toNat*1,none⟩ x27 /\
 Fn Pz 101 #[vS x23,.string x27] h22
 (fun v28 h30=>∃x29,iI v28 x29 /\
 Sm [⟨b17,o18+i_13.toNat*1,none⟩,(aS h 1)] h22 h30 /\
 sB (decide (x29<i_13))
 (R (.bool false) h30)
 (∃m31,m31<m12/\I10 (wrap .i64 (i_13+1)) h30 m31)))))
 (∃x32,rT h14 (aS h 0) x32 /\
 Fn Pz 100 #[.string x32] h14
 (fun v33 h35=>∃x34,iB v33 x34 /\
 sB x34
 (∃x36,rS h35 (aS h 1) x36 /\
 sB (decide ((x36.n:Int)>=1))
 (∃x37,rS h35 (aS h 1) x37 /\
 sB (decide ((x37.n:Int)<=6))
 (∃x38,rS h35 (aS h 2) x38 /\
 Fn Pz 102 #[vS x38] h35
 (fun v39 h41=>∃x40,iB v39 x40 /\
 R (.bool x40) h41))
 (R (.bool false) h35))
 (R (.bool false) h35))
 (R (.bool false) h35)))
theorem vc43 (pa:ByteArray) (pb pc:Sl) (pd pe pf:Int) (pg ph:Sl) (H:@W43 h R pa pb pc pd pe pf pg ph):Fn Pz 43 #[.agg ⟨(L0 pa pb pc pd pe pf pg ph)⟩] h R:=fnJ (A:=(.s .z (.s (AI 3) .z))) H
def W44 (pa:ByteArray) (pb pc:Sl) (pd pe pf:Int) (pg ph:Sl):Prop:=
 Wn h (L0 pa pb pc pd pe pf pg ph) 27 fun h9=>
 QI 0 h9 fun I10 i_13 h14 m12=>
 ∃x15,rS h14 (aS h 6) x15 /\
 sB (decide (i_13<(x15.n:Int)))
 (∃x16,rS h14 (aS h 6) x16 /\
 NB x16.a fun b17 o18=>Ib i_13 x16.n /\
 ∃x19 x20 x21 x22 x23 x24,aL3 h14 ⟨b17,o18+i_13.toNat*6,none⟩ x19 x20 x21 x22 x23 x24 /\
 Wn h14 [vI 0,vI 0,vI 0,vI 0,vI 0,.bool false] 67 fun h25=>
 Wp h25 (aS h14 0) 6 (L3 x19 x20 x21 x22 x23 x24) fun h26=>
 ∃x27 x28 x29 x30 x31 x32 x33 x34,aL0 h26 (aS h 0) x27 x28 x29 x30 x31 x32 x33 x34 /\
 ∃x35,rI h26 (aS h14 0) x35 /\
 Fn Pz 103 #[.agg ⟨(L0 x27 x28 x29 x30 x31 x32 x33 x34)⟩,vI x35] h26
 (fun v36 h38=>∃x37,iB v36 x37 /\
 sB (!x37)
 (R (.bool false) h38)
 (∃x39 x40 x41 x42 x43 x44 x45 x46,aL0 h38 (aS h 0) x39 x40 x41 x42 x43 x44 x45 x46 /\
 ∃x47,rI h38 (aS h14 4) x47 /\
 Fn Pz 103 #[.agg ⟨(L0 x39 x40 x41 x42 x43 x44 x45 x46)⟩,vI x47] h38
 (fun v48 h50=>∃x49,iB v48 x49 /\
 sB (!x49)
 (R (.bool false) h50)
 (∃x51,rI h50 (aS h14 1) x51 /\
 sB (decide (x51<0))
 (R (.bool false) h50)
 (∃x52,rI h50 (aS h14 1) x52 /\
 ∃x53,rS h50 (aS h 1) x53 /\
 sB (decide (x52>=(x53.n:Int)))
 (R (.bool false) h50)
 (∃x54,rI h50 (aS h14 (1+1)) x54 /\
 sB (decide (x54<0))
 (R (.bool false) h50)
 (∃x55,rI h50 (aS h14 (1+1)) x55 /\
 ∃x56,rS h50 (aS h 1) x56 /\
 sB (decide (x55>=(x56.n:Int)))
 (R (.bool false) h50)
 (∃x57,rI h50 (aS h14 1) x57 /\
 ∃x58,rI h50 (aS h14 (1+1)) x58 /\
 sB (x57==x58)
 (R (.bool false) h50)
 (∃x59,rI h50 (aS h14 (1+2)) x59 /\
 sB (decide (x59<0))
 (R (.bool false) h50)
 (∃x60,rI h50 (aS h14 (1+2)) x60 /\
 ∃x61,rS h50 (aS h 2) x61 /\
 sB (decide (x60>=(x61.n:Int)))
 (R (.bool false) h50)
 (∃m62,m62<m12/\I10 (wrap .i64 (i_13+1)) h50 m62))))))))))))
 (∃x63,rI h14 (aS h 3) x63 /\
 sB (decide (x63>=1))
 (∃x64,rI h14 (aS h 3) x64 /\
 sB (decide (x64<=200))
 (∃x65 x66 x67 x68 x69 x70 x71 x72,aL0 h14 (aS h 0) x65 x66 x67 x68 x69 x70 x71 x72 /\
 ∃x73,rI h14 (aS h 4) x73 /\
 Fn Pz 103 #[.agg ⟨(L0 x65 x66 x67 x68 x69 x70 x71 x72)⟩,vI x73] h14
 (fun v74 h76=>∃x75,iB v74 x75 /\
 sB x75
 (∃x77 x78 x79 x80 x81 x82 x83 x84,aL0 h76 (aS h 0) x77 x78 x79 x80 x81 x82 x83 x84 /\
 ∃x85,rI h76 (aS h 5) x85 /\
 Fn Pz 103 #[.agg ⟨(L0 x77 x78 x79 x80 x81 x82 x83 x84)⟩,vI x85] h76
 (fun v86 h88=>∃x87,iB v86 x87 /\
 sB x87
 (∃x89,rS h88 (aS h 6) x89 /\
 R (.bool (decide ((x89.n:Int)<=400))) h88)
 (R (.bool false) h88)))
 (R (.bool false) h76)))
 (R (.bool false) h14))
 (R (.bool false) h14))
theorem vc44 (pa:ByteArray) (pb pc:Sl) (pd pe pf:Int) (pg ph:Sl) (H:@W44 h R pa pb pc pd pe pf pg ph):Fn Pz 44 #[.agg ⟨(L0 pa pb pc pd pe pf pg ph)⟩] h R:=fnJ (A:=(.s .z (.s (AI 3) .z))) H
def V45b (h46 h14 h34:Heap) (R:Value->Heap->Prop) (m32:Nat) (I30:Int->Heap->Nat->Prop) (k_33:Int):Prop:=
 ∃x58,rB h46 (aS h14 5) x58/\sB x58 (∃x59,rI h46 (aS h34 4) x59/\∃x60,rI h46 (aS h14 0) x60/\sB (x59==x60) (∃x61,rI h46 (aS h34 1) x61/\∃x62,rI h46 (aS h14 1) x62/\sB (x61 != x62) (R (.bool false) h46) (∃x63,rI h46 (aS h34 (1+2)) x63/\∃x64,rI h46 (aS h14 (1+2)) x64/\sB (x63 != x64) (R (.bool false) h46) (∃m65,m65<m32/\I30 (wrap .i64 (k_33+1)) h46 m65))) (∃m66,m66<m32/\I30 (wrap .i64 (k_33+1)) h46 m66)) (∃m67,m67<m32/\I30 (wrap .i64 (k_33+1)) h46 m67)
def V45a (h26 h:Heap) (i_13:Int) (h14:Heap) (R:Value->Heap->Prop) (m12:Nat) (I10:Int->Heap->Nat->Prop):Prop:=
 QI 0 h26 fun I30 k_33 h34 m32=>∃x35,rS h34 (aS h 6) x35/\sB (decide (k_33<(x35.n:Int))) (∃x36,rS h34 (aS h 6) x36/\NB x36.a fun b37 o38=>Ib k_33 x36.n/\∃x39 x40 x41 x42 x43 x44,aL3 h34 ⟨b37,o38+k_33.toNat*6,none⟩ x39 x40 x41 x42 x43 x44/\Wn h34 [vI 0,vI 0,vI 0,vI 0,vI 0,.bool false] 67 fun h45=>Wp h45 (aS h34 0) 6 (L3 x39 x40 x41 x42 x43 x44) fun h46=>sB (k_33 != i_13) (∃x47,rI h46 (aS h14 0) x47/\∃x48,rI h46 (aS h34 0) x48/\sB (x47==x48) (∃x49 x50 x51,aL4 h46 (aS h14 1) x49 x50 x51/\∃x52 x53 x54,aL4 h46 (aS h34 1) x52 x53 x54/\sB ((x49==x52)&&((x50==x53)&&((x51==x54)&&true))) (R (.bool false) h46) (∃x55,rI h46 (aS h14 1) x55/\∃x56,rI h46 (aS h34 1) x56/\sB (x55 != x56) (R (.bool false) h46) (∃x57,rB h46 (aS h14 5) x57/\sB x57 (R (.bool false) h46) (V45b h46 h14 h34 R m32 I30 k_33)))) (V45b h46 h14 h34 R m32 I30 k_33)) (V45b h46 h14 h34 R m32 I30 k_33)) (∃m88,m88<m12/\I10 (wrap .i64 (i_13+1)) h34 m88)
def W45 (pa:ByteArray) (pb pc:Sl) (pd pe pf:Int) (pg ph:Sl):Prop:=
 Wn h (L0 pa pb pc pd pe pf pg ph) 27 fun h9=>QI 0 h9 fun I10 i_13 h14 m12=>∃x15,rS h14 (aS h 6) x15/\sB (decide (i_13<(x15.n:Int))) (∃x16,rS h14 (aS h 6) x16/\NB x16.a fun b17 o18=>Ib i_13 x16.n/\∃x19 x20 x21 x22 x23 x24,aL3 h14 ⟨b17,o18+i_13.toNat*6,none⟩ x19 x20 x21 x22 x23 x24/\Wn h14 [vI 0,vI 0,vI 0,vI 0,vI 0,.bool false] 67 fun h25=>Wp h25 (aS h14 0) 6 (L3 x19 x20 x21 x22 x23 x24) fun h26=>∃x27,rB h26 (aS h14 5) x27/\sB x27 (∃x28,rI h26 (aS h14 0) x28/\∃x29,rI h26 (aS h 4) x29/\sB (x28==x29) (R (.bool false) h26) (V45a h26 h i_13 h14 R m12 I10)) (V45a h26 h i_13 h14 R m12 I10)) (R (.bool true) h14)
theorem vc45 (pa:ByteArray) (pb pc:Sl) (pd pe pf:Int) (pg ph:Sl) (H:@W45 h R pa pb pc pd pe pf pg ph):Fn Pz 45 #[.agg ⟨(L0 pa pb pc pd pe pf pg ph)⟩] h R:=fnJ (A:=(.s .z (.s (.s .z (.b (.l [(3,.one (.int .i64))] (.s .z (.s (.b (.s .z (.s .z (AI 5)))) .z))))) .z))) H
def W46 (pa:ByteArray) (pb pc:Sl) (pd pe pf:Int) (pg ph:Sl):Prop:=
 Wn h (L0 pa pb pc pd pe pf pg ph) 27 fun h9=>
 ∃x10,rI h9 (aS h 3) x10 /\
 Mk x10 x10 1/\Wn h9 (madeL Pz 4 (x10.toNat)) 4 fun h11=>
 ∃x12,rI h11 (aS h 4) x12 /\
 (0<=(x12:Int)/\(x12:Int)<((x10.toNat):Nat)) /\
 Wp h11 (aS h9 (0+x12.toNat*1)) 1 [.bool true] fun h13=>
 QI 0 h13 fun I14 n_17 h18 m16=>
 ∃x19,rI h18 (aS h 3) x19 /\
 sB (decide (n_17<x19))
 (QI 0 h18 fun I20 i_23 h24 m22=>
 ∃x25,rS h24 (aS h 6) x25 /\
 sB (decide (i_23<(x25.n:Int)))
 (∃x26,rS h24 (aS h 6) x26 /\
 NB x26.a fun b27 o28=>Ib i_23 x26.n /\
 ∃x29,rI h24 ⟨b27,o28+i_23.toNat*6+4,none⟩ x29 /\
 ∃x30,rS h24 (aS h 6) x30 /\
 NB x30.a fun b31 o32=>Ib i_23 x30.n /\
 ∃x33,rI h24 ⟨b31,o32+i_23.toNat*6+4,none⟩ x33 /\
 (0<=(x33:Int)/\(x33:Int)<((x10.toNat):Nat)) /\
 ∃x34,rB h24 (aS h9 (0+x33.toNat*1)) x34 /\
 sB x34
 ((0<=(x29:Int)/\(x29:Int)<((x10.toNat):Nat)) /\
 Wp h24 (aS h9 (0+x29.toNat*1)) 1 [.bool true] fun h35=>
 ∃m36,m36<m22/\I20 (wrap .i64 (i_23+1)) h35 m36)
 (∃x37,rS h24 (aS h 6) x37 /\
 NB x37.a fun b38 o39=>Ib i_23 x37.n /\
 ∃x40,rI h24 ⟨b38,o39+i_23.toNat*6,none⟩ x40 /\
 (0<=(x40:Int)/\(x40:Int)<((x10.toNat):Nat)) /\
 ∃x41,rB h24 (aS h9 (0+x40.toNat*1)) x41 /\
 (0<=(x29:Int)/\(x29:Int)<((x10.toNat):Nat)) /\
 Wp h24 (aS h9 (0+x29.toNat*1)) 1 [.bool x41] fun h42=>
 ∃m43,m43<m22/\I20 (wrap .i64 (i_23+1)) h42 m43))
 (∃m44,m44<m16/\I14 (wrap .i64 (n_17+1)) h24 m44))
 (∃x45 x46 x47 x48 x49 x50 x51 x52,aL0 h18 (aS h 0) x45 x46 x47 x48 x49 x50 x51 x52 /\
 Fn Pz 104 #[.agg ⟨(L0 x45 x46 x47 x48 x49 x50 x51 x52)⟩] h18
 (fun v53 h55=>∃x54,iS v53 x54 /\
 QI 0 h55 fun I56 s_59 h60 m58=>
 ∃x61,rI h60 (aS h 3) x61 /\
 sB (decide (s_59<x61))
 ((0<=(s_59:Int)/\(s_59:Int)<((x10.toNat):Nat)) /\
 ∃x62,rB h60 (aS h9 (0+s_59.toNat*1)) x62 /\
 sB (!x62)
 (R (.bool false) h60)
 (NB x54.a fun b63 o64=>Ib s_59 x54.n /\
 ∃x65,rI h60 ⟨b63,o64+s_59.toNat*1,none⟩ x65 /\
 sB (decide (x65<0))
 (R (.bool false) h60)
 (∃m66,m66<m58/\I56 (wrap .i64 (s_59+1)) h60 m66)))
 (∃x67 x68 x69 x70 x71 x72 x73 x74,aL0 h60 (aS h 0) x67 x68 x69 x70 x71 x72 x73 x74 /\
 ∃x75,rI h60 (aS h 5) x75 /\
 Fn Pz 105 #[.agg ⟨(L0 x67 x68 x69 x70 x71 x72 x73 x74)⟩,vI x75] h60
 (fun v76 h78=>∃x77,iS v76 x77 /\
 R (.bool ((x77.n:Int)==0)) h78))))
theorem vc46 (pa:ByteArray) (pb pc:Sl) (pd pe pf:Int) (pg ph:Sl) (H:@W46 h R pa pb pc pd pe pf pg ph):Fn Pz 46 #[.agg ⟨(L0 pa pb pc pd pe pf pg ph)⟩] h R:=fnJ (A:=(.s .z (.s .z (.s .z (.s (.s .z (.b (.l [(4,.one (.int .i64))] (.s .z (.s (.b (AI 5)) .z))))) (.s .z (.s (AI 7) .z))))))) H
def V47a (h35 h14:Heap) (R:Value->Heap->Prop) (h:Heap) (m12:Nat) (I10:Int->Heap->Nat->Prop) (i_13:Int):Prop:=
 ∃x41,rI h35 (aS h14 1) x41/\sB (decide (x41<1)) (R (.bool false) h35) (∃x42,rI h35 (aS h14 1) x42/\sB (decide (x42>1000)) (R (.bool false) h35) (∃x43,rI h35 (aS h14 2) x43/\sB (decide (x43<0)) (R (.bool false) h35) (∃x44,rI h35 (aS h14 2) x44/\∃x45,rS h35 (aS h 6) x45/\sB (decide (x44>=(x45.n:Int))) (R (.bool false) h35) (∃x46,rS h35 (aS h 6) x46/\∃x47,rI h35 (aS h14 2) x47/\NB x46.a fun b48 o49=>Ib x47 x46.n/\∃x50,rI h35 ⟨b48,o49+x47.toNat*6,none⟩ x50/\∃x51,rI h35 (aS h14 0) x51/\sB (x50 != x51) (R (.bool false) h35) (∃x52,rS h35 (aS h 6) x52/\∃x53,rI h35 (aS h14 2) x53/\NB x52.a fun b54 o55=>Ib x53 x52.n/\∃x56,rB h35 ⟨b54,o55+x53.toNat*6+5,none⟩ x56/\sB x56 (R (.bool false) h35) (∃m57,m57<m12/\I10 (wrap .i64 (i_13+1)) h35 m57))))))
def W47 (pa:ByteArray) (pb pc:Sl) (pd pe pf:Int) (pg ph:Sl):Prop:=
 Wn h (L0 pa pb pc pd pe pf pg ph) 27 fun h9=>QI 0 h9 fun I10 i_13 h14 m12=>∃x15,rS h14 (aS h 7) x15/\sB (decide (i_13<(x15.n:Int))) (∃x16,rS h14 (aS h 7) x16/\NB x16.a fun b17 o18=>Ib i_13 x16.n/\∃x19 x20 x21,aL4 h14 ⟨b17,o18+i_13.toNat*3,none⟩ x19 x20 x21/\Wn h14 [vI 0,vI 0,vI 0] 149 fun h22=>Wp h22 (aS h14 0) 3 (L4 x19 x20 x21) fun h23=>∃x24 x25 x26 x27 x28 x29 x30 x31,aL0 h23 (aS h 0) x24 x25 x26 x27 x28 x29 x30 x31/\∃x32,rI h23 (aS h14 0) x32/\Fn Pz 103 #[.agg ⟨(L0 x24 x25 x26 x27 x28 x29 x30 x31)⟩,vI x32] h23 (fun v33 h35=>∃x34,iB v33 x34/\sB (!x34) (R (.bool false) h35) (sB (decide (i_13>0)) (∃x36,rI h35 (aS h14 0) x36/\∃x37,rS h35 (aS h 7) x37/\NB x37.a fun b38 o39=>(0<=((wrap .i64 (i_13-1)):Int)/\((wrap .i64 (i_13-1)):Int)<(x37.n:Nat))/\∃x40,rI h35 ⟨b38,o39+Int.toNat (wrap .i64 (i_13-1))*3,none⟩ x40/\sB (decide (x36<=x40)) (R (.bool false) h35) (V47a h35 h14 R h m12 I10 i_13)) (V47a h35 h14 R h m12 I10 i_13)))) (R (.bool true) h14)
theorem vc47 (pa:ByteArray) (pb pc:Sl) (pd pe pf:Int) (pg ph:Sl) (H:@W47 h R pa pb pc pd pe pf pg ph):Fn Pz 47 #[.agg ⟨(L0 pa pb pc pd pe pf pg ph)⟩] h R:=fnJ (A:=(.s .z (.s (AI 3) .z))) H
def W100 (p0:ByteArray):Prop:=
 Fn Pz 176 #[.string p0] h
 (fun v1 h3=>∃x2,iB v1 x2 /\
 sB x2
 (Fn Pz 178 #[] h3
 (fun v4 h6=>∃x5,iS v4 x5 /\
 Fn Pz 177 #[vS x5,.string p0] h6
 (fun v7 h9=>∃x8,iB v7 x8 /\
 R (.bool (!x8)) h9)))
 (R (.bool false) h3))
theorem vc100 (p0:ByteArray) (H:@W100 h R p0):Fn Pz 100 #[.string p0] h R:=fnJ (A:=.z) H
def W101 (p0:Sl) (p1:ByteArray):Prop:=
 QI 0 h fun I1 i_4 h5 m3=>
 sB (decide (i_4<(p0.n:Int)))
 (NB p0.a fun b6 o7=>Ib i_4 p0.n /\
 ∃x8,rT h5 ⟨b6,o7+i_4.toNat*1,none⟩ x8 /\
 sB ((ByteArray.toList x8)==(ByteArray.toList p1))
 (R (vI i_4) h5)
 (∃m9,m9<m3/\I1 (wrap .i64 (i_4+1)) h5 m9))
 (R (vI (-1)) h5)
theorem vc101 (p0:Sl) (p1:ByteArray) (H:@W101 h R p0 p1):Fn Pz 101 #[vS p0,.string p1] h R:=fnJ (A:=(.s .z (.s (AI 5) .z))) H
def W102 (p0:Sl):Prop:=
 sB (decide ((p0.n:Int)>40))
 (R (.bool false) h)
 (Fn Pz 179 #[vS p0] h
 (fun v1 h3=>∃x2,iI v1 x2 /\
 sB (decide (x2>24))
 (R (.bool false) h3)
 (QII 0 0 h3 fun I4 first_7 i_8 h9 m6=>
 sB (decide (i_8<(p0.n:Int)))
 (NB p0.a fun b10 o11=>Ib i_8 p0.n /\
 ∃x12 x13 x14 x15 x16,aL7 h9 ⟨b10,o11+i_8.toNat*5,none⟩ x12 x13 x14 x15 x16 /\
 Wn h9 [.string ⟨#[]⟩,vN,vI 0,vN,vN] 171 fun h17=>
 Wp h17 (aS h9 0) 5 (L7 x12 x13 x14 x15 x16) fun h18=>
 QI 0 h18 fun I19 k_22 h23 m21=>
 sB (decide (k_22<i_8))
 (NB p0.a fun b24 o25=>Ib k_22 p0.n /\
 ∃x26,rT h23 ⟨b24,o25+k_22.toNat*5,none⟩ x26 /\
 ∃x27,rT h23 (aS h9 0) x27 /\
 sB ((ByteArray.toList x26)==(ByteArray.toList x27))
 (R (.bool false) h23)
 (∃m28,m28<m21/\I19 (wrap .i64 (k_22+1)) h23 m28))
 (QI 0 h23 fun I29 k_32 h33 m31=>
 ∃x34,rS h33 (aS h9 1) x34 /\
 sB (decide (k_32<(x34.n:Int)))
 (∃x35,rS h33 (aS h9 1) x35 /\
 NB x35.a fun b36 o37=>Ib k_32 x35.n /\
 ∃x38 x39 x40,aL4 h33 ⟨b36,o37+k_32.toNat*4+1,none⟩ x38 x39 x40 /\
 Fn Pz 180 #[.agg ⟨(L4 x38 x39 x40)⟩] h33
 (fun v41 h43=>∃x42,iB v41 x42 /\
 sB (!x42)
 (R (.bool false) h43)
 (∃x44,rS h43 (aS h9 1) x44 /\
 NB x44.a fun b45 o46=>Ib k_32 x44.n /\
 ∃x47,rT h43 ⟨b45,o46+k_32.toNat*4,none⟩ x47 /\
 Fn Pz 100 #[.string x47] h43
 (fun v48 h50=>∃x49,iB v48 x49 /\
 sB (!x49)
 (R (.bool false) h50)
 (QI 0 h50 fun I51 j_54 h55 m53=>
 sB (decide (j_54<k_32))
 (∃x56,rS h55 (aS h9 1) x56 /\
 NB x56.a fun b57 o58=>Ib j_54 x56.n /\
 ∃x59,rT h55 ⟨b57,o58+j_54.toNat*4,none⟩ x59 /\
 ∃x60,rS h55 (aS h9 1) x60 /\
 NB x60.a fun b61 o62=>Ib k_32 x60.n /\
 ∃x63,rT h55 ⟨b61,o62+k_32.toNat*4,none⟩ x63 /\
 sB ((ByteArray.toList x59)==(ByteArray.toList x63))
 (R (.bool false) h55)
 (∃m64,m64<m53/\I51 (wrap .i64 (j_54+1)) h55 m64))
 (∃m65,m65<m31/\I29 (wrap .i64 (k_32+1)) h55 m65))))))
 (∃x66,rT h33 (aS h9 0) x66 /\
 Fn Pz 181 #[.string x66] h33
 (fun v67 h69=>∃x68,iB v67 x68 /\
 sB (!x68)
 (R (.bool false) h69)
 (∃x70,rS h69 (aS h9 1) x70 /\
 sB (decide ((x70.n:Int)>4))
 (R (.bool false) h69)
 (∃x71,rI h69 (aS h9 2) x71 /\
 sB (x71 != first_7)
 (R (.bool false) h69)
 (∃(x72 x73:Sl),atC h69 (aS h9 3) [vS x72,vS x73] /\
 Fn Pz 182 #[vS p0,.agg ⟨[vS x72,vS x73]⟩] h69
 (fun v74 h76=>∃x75,iB v74 x75 /\
 sB (!x75)
 (R (.bool false) h76)
 (∃x77,rS h76 (aS h9 1) x77 /\
 ∃m78,m78<m6/\I4 (wrap .i64 (first_7+(x77.n:Int))) (wrap .i64 (i_8+1)) h76 m78)))))))))
 (R (.bool true) h9))))
theorem vc102 (p0:Sl) (H:@W102 h R p0):Fn Pz 102 #[vS p0] h R:=fnJ (A:=(.s .z (.s .z (.s .z (.s (.s .z (.b (.l [(3,.one (.int .i64)),(4,.one (.int .i64))] (.s .z (.s (.b (.s .z (.s (AI 6) (.s (.s .z (.b (.l [(7,.one (.int .i64))] (.s .z (.s (.b (.s .z (AI 8))) .z))))) .z)))) .z))))) .z))))) H
def W103 (pa:ByteArray) (pb pc:Sl) (pd pe pf:Int) (pg ph:Sl) (p1:Int):Prop:=
 Wn h (L0 pa pb pc pd pe pf pg ph) 27 fun h9=>
 sB (decide (p1>=0))
 (∃x10,rI h9 (aS h 3) x10 /\
 R (.bool (decide (p1<x10))) h9)
 (R (.bool false) h9)
theorem vc103 (pa:ByteArray) (pb pc:Sl) (pd pe pf:Int) (pg ph:Sl) (p1:Int) (H:@W103 h R pa pb pc pd pe pf pg ph p1):Fn Pz 103 #[.agg ⟨(L0 pa pb pc pd pe pf pg ph)⟩,vI p1] h R:=fnJ (A:=.z) H
def W104 (pa:ByteArray) (pb pc:Sl) (pd pe pf:Int) (pg ph:Sl):Prop:=
 Wn h (L0 pa pb pc pd pe pf pg ph) 27 fun h9=>
 ∃x10,rI h9 (aS h 3) x10 /\
 Mk x10 x10 8/\Wn h9 (madeL Pz 3 (x10.toNat)) 3 fun h11=>
 QI 0 h11 fun I12 s_15 h16 m14=>
 ∃x17,rI h16 (aS h 3) x17 /\
 sB (decide (s_15<x17))
 ((0<=(s_15:Int)/\(s_15:Int)<((x10.toNat):Nat)) /\
 Wp h16 (aS h9 (0+s_15.toNat*1)) 1 [vI (-1)] fun h18=>
 ∃m19,m19<m14/\I12 (wrap .i64 (s_15+1)) h18 m19)
 (∃x20,rI h16 (aS h 5) x20 /\
 (0<=(x20:Int)/\(x20:Int)<((x10.toNat):Nat)) /\
 Wp h16 (aS h9 (0+x20.toNat*1)) 1 [vI 0] fun h21=>
 QI 0 h21 fun I22 n_25 h26 m24=>
 ∃x27,rI h26 (aS h 3) x27 /\
 sB (decide (n_25<x27))
 (QI 0 h26 fun I28 i_31 h32 m30=>
 ∃x33,rS h32 (aS h 6) x33 /\
 sB (decide (i_31<(x33.n:Int)))
 (∃x34,rS h32 (aS h 6) x34 /\
 NB x34.a fun b35 o36=>Ib i_31 x34.n /\
 ∃x37 x38 x39 x40 x41 x42,aL3 h32 ⟨b35,o36+i_31.toNat*6,none⟩ x37 x38 x39 x40 x41 x42 /\
 Wn h32 [vI 0,vI 0,vI 0,vI 0,vI 0,.bool false] 67 fun h43=>
 Wp h43 (aS h32 0) 6 (L3 x37 x38 x39 x40 x41 x42) fun h44=>
 ∃x45,rI h44 (aS h32 4) x45 /\
 (0<=(x45:Int)/\(x45:Int)<((x10.toNat):Nat)) /\
 ∃x46,rI h44 (aS h9 (0+x45.toNat*1)) x46 /\
 sB (x46==n_25)
 (∃x47,rI h44 (aS h32 0) x47 /\
 (0<=(x47:Int)/\(x47:Int)<((x10.toNat):Nat)) /\
 ∃x48,rI h44 (aS h9 (0+x47.toNat*1)) x48 /\
 sB (decide (x48<0))
 (∃x49,rI h44 (aS h32 0) x49 /\
 (0<=(x49:Int)/\(x49:Int)<((x10.toNat):Nat)) /\
 Wp h44 (aS h9 (0+x49.toNat*1)) 1 [vI (wrap .i64 (n_25+1))] fun h50=>
 ∃m51,m51<m30/\I28 (wrap .i64 (i_31+1)) h50 m51)
 (∃m52,m52<m30/\I28 (wrap .i64 (i_31+1)) h44 m52))
 (∃m53,m53<m30/\I28 (wrap .i64 (i_31+1)) h44 m53))
 (∃m54,m54<m24/\I22 (wrap .i64 (n_25+1)) h32 m54))
 (R (.slice (some (aS h9 0)) (x10.toNat) (x10.toNat)) h26))
theorem vc104 (pa:ByteArray) (pb pc:Sl) (pd pe pf:Int) (pg ph:Sl) (H:@W104 h R pa pb pc pd pe pf pg ph):Fn Pz 104 #[.agg ⟨(L0 pa pb pc pd pe pf pg ph)⟩] h R:=fnJ (A:=(.s .z (.s .z (.s (AI 4) (.s .z (.s (.s .z (.b (.l [(5,.one (.int .i64))] (.s .z (.s (.b (AI 6)) .z))))) .z)))))) H
def V105a (at_25:Int) (out_13:Sl) (h40:Heap) (i_14:Int) (m12:Nat) (I10:Sl->Int->Heap->Nat->Prop):Prop:=
 ((0:Int)<=(0:Int)/\(0:Int)<=(at_25:Int)/\(at_25:Int)<=(out_13.c:Nat))/\((0:Int)<=(at_25:Int)/\(at_25:Int)<=((out_13.n:Nat):Int)/\((out_13.n:Nat):Int)<=(out_13.c:Nat))/\Wn h40 [vI i_14] 3 fun h42=>App Pz 102 102 (.slice (some (aS h40 0)) 1 1) (.slice (subA out_13.a (at_25.toNat) out_13.c 1) (Int.toNat (out_13.n:Nat)-at_25.toNat) (out_13.c-at_25.toNat)) h42 fun s43 h44=>App Pz 102 102 (.slice (subA out_13.a (Int.toNat 0) out_13.c 1) (at_25.toNat-Int.toNat 0) (out_13.c-Int.toNat 0)) (vS s43) h44 fun s45 h46=>∃m47,m47<m12/\I10 s45 (wrap .i64 (i_14+1)) h46 m47
def W105 (pa:ByteArray) (pb pc:Sl) (pd pe pf:Int) (pg ph:Sl) (p1:Int):Prop:=
 Wn h (L0 pa pb pc pd pe pf pg ph) 27 fun h9=>QSI ⟨none,0,0⟩ 0 h9 fun I10 out_13 i_14 h15 m12=>∃x16,rS h15 (aS h 6) x16/\sB (decide (i_14<(x16.n:Int))) (∃x17,rS h15 (aS h 6) x17/\NB x17.a fun b18 o19=>Ib i_14 x17.n/\∃x20,rI h15 ⟨b18,o19+i_14.toNat*6,none⟩ x20/\sB (x20 != p1) (∃m21,m21<m12/\I10 out_13 (wrap .i64 (i_14+1)) h15 m21) (QI 0 h15 fun I22 at_25 h26 m24=>sB (decide (at_25<(out_13.n:Int))) (∃x27 x28 x29 x30 x31 x32 x33 x34,aL0 h26 (aS h 0) x27 x28 x29 x30 x31 x32 x33 x34/\NB out_13.a fun b35 o36=>Ib at_25 out_13.n/\∃x37,rI h26 ⟨b35,o36+at_25.toNat*1,none⟩ x37/\Fn Pz 183 #[.agg ⟨(L0 x27 x28 x29 x30 x31 x32 x33 x34)⟩,vI x37,vI i_14] h26 (fun v38 h40=>∃x39,iB v38 x39/\sB x39 (∃m41,m41<m24/\I22 (wrap .i64 (at_25+1)) h40 m41) (V105a at_25 out_13 h40 i_14 m12 I10))) (V105a at_25 out_13 h26 i_14 m12 I10))) (R (vS out_13) h15)
theorem vc105 (pa:ByteArray) (pb pc:Sl) (pd pe pf:Int) (pg ph:Sl) (p1:Int) (H:@W105 h R pa pb pc pd pe pf pg ph p1):Fn Pz 105 #[.agg ⟨(L0 pa pb pc pd pe pf pg ph)⟩,vI p1] h R:=fnJ (A:=(.s .z (.s .z (.s (.s .z (.b (.l [(5,.one (.slice)),(6,.one (.int .i64))] (.s .z (.s (.b (.s .z (.s .z (.s (.b (.l [(7,.one (.int .i64))] .z)) .z)))) .z))))) .z)))) H
def W176 (p0:ByteArray):Prop:=
 sB ((ByteArray.toList p0)==(ByteArray.toList ⟨#[]⟩))
 (R (.bool false) h)
 ((0<=(0:Int)/\(0:Int)<(ByteArray.size p0:Nat)) /\
 Fn Pz 227 #[.int .u8 (byteAt p0 (Int.toNat 0):Int)] h
 (fun v1 h3=>∃x2,iB v1 x2 /\
 sB (!x2)
 (R (.bool false) h3)
 (sB (decide ((ByteArray.size p0:Int)>16))
 (R (.bool false) h3)
 (QI 0 h3 fun I4 i_7 h8 m6=>
 sB (decide (i_7<(ByteArray.size p0:Int)))
 ((0<=(i_7:Int)/\(i_7:Int)<(ByteArray.size p0:Nat)) /\
 Fn Pz 228 #[.int .u8 (byteAt p0 (i_7.toNat):Int)] h8
 (fun v9 h11=>∃x10,iB v9 x10 /\
 sB (!x10)
 (R (.bool false) h11)
 (∃m12,m12<m6/\I4 (wrap .i64 (i_7+1)) h11 m12)))
 (R (.bool true) h8)))))
theorem vc176 (p0:ByteArray) (H:@W176 h R p0):Fn Pz 176 #[.string p0] h R:=fnJ (A:=(.s .z (.s .z (.s (AI 3) .z)))) H
def W177 (p0:Sl) (p1:ByteArray):Prop:=
 QI 0 h fun I1 i_4 h5 m3=>
 sB (decide (i_4<(p0.n:Int)))
 (NB p0.a fun b6 o7=>Ib i_4 p0.n /\
 ∃x8,rT h5 ⟨b6,o7+i_4.toNat*1,none⟩ x8 /\
 sB ((ByteArray.toList x8)==(ByteArray.toList p1))
 (R (.bool true) h5)
 (∃m9,m9<m3/\I1 (wrap .i64 (i_4+1)) h5 m9))
 (R (.bool false) h5)
theorem vc177 (p0:Sl) (p1:ByteArray) (H:@W177 h R p0 p1):Fn Pz 177 #[vS p0,.string p1] h R:=fnJ (A:=(.s .z (.s (AI 5) .z))) H
def W178 :Prop:=
 Wn h [.string ⟨#[97,103,97,105,110]⟩,.string ⟨#[97,110,100]⟩,.string ⟨#[97,115]⟩,.string ⟨#[97,116]⟩,.string ⟨#[99,97,108,108]⟩,.string ⟨#[99,104,111,105,99,101]⟩,.string ⟨#[101,108,115,101]⟩,.string ⟨#[102,114,111,109]⟩,.string ⟨#[105,102]⟩,.string ⟨#[105,110,116]⟩,.string ⟨#[108,101,110]⟩,.string ⟨#[108,111,111,112]⟩,.string ⟨#[109,101,115,115,97,103,101]⟩,.string ⟨#[111,102]⟩,.string ⟨#[111,102,102,101,114]⟩,.string ⟨#[111,110]⟩,.string ⟨#[111,114]⟩,.string ⟨#[112,97,114]⟩,.string ⟨#[112,108,97,121,115]⟩,.string ⟨#[112,114,111,116,111,99,111,108]⟩,.string ⟨#[115,101,114,118,105,99,101]⟩,.string ⟨#[116,101,120,116]⟩,.string ⟨#[116,105,109,101,115]⟩,.string ⟨#[116,111]⟩,.string ⟨#[118,97,114]⟩,.string ⟨#[119,104,101,114,101]⟩,.string ⟨#[119,104,105,108,101]⟩,.string ⟨#[119,105,116,104,105,110]⟩] 9 fun h1=>
 R (.slice (some (aS h 0)) 28 28) h1
theorem vc178  (H:@W178 h R ):Fn Pz 178 #[] h R:=fnJ (A:=.z) H
def W179 (p0:Sl):Prop:=
 QII 0 0 h fun I1 n_4 i_5 h6 m3=>
 sB (decide (i_5<(p0.n:Int)))
 (NB p0.a fun b7 o8=>Ib i_5 p0.n /\
 ∃x9,rS h6 ⟨b7,o8+i_5.toNat*5+1,none⟩ x9 /\
 ∃m10,m10<m3/\I1 (wrap .i64 (n_4+(x9.n:Int))) (wrap .i64 (i_5+1)) h6 m10)
 (R (vI n_4) h6)
theorem vc179 (p0:Sl) (H:@W179 h R p0):Fn Pz 179 #[vS p0] h R:=fnJ (A:=(.s .z (.s .z (.s (.s .z (.b (.l [(3,.one (.int .i64)),(4,.one (.int .i64))] .z))) .z)))) H
def V180a (h9 h:Heap) (least_7 most_8:Int) (R:Value->Heap->Prop):Prop:=
 ∃x11,rI h9 (aS h 1) x11/\sB (decide (x11>=least_7)) (∃x12,rI h9 (aS h 2) x12/\sB (decide (x12<=most_8)) (∃x13,rI h9 (aS h 1) x13/\∃x14,rI h9 (aS h 2) x14/\R (.bool (decide (x13<=x14))) h9) (R (.bool false) h9)) (R (.bool false) h9)
def W180 (pa pb pc:Int):Prop:=
 Wn h (L4 pa pb pc) 258 fun h4=>∃J5:Int->Int->Heap->Prop,(∃x6,rI h4 (aS h 0) x6/\sB (x6==2) (J5 0 40 h4) (J5 (-1000) 1000 h4))/\∀(_:Env) (least_7 most_8:Int) (h9:Heap),J5 least_7 most_8 h9->(∃x10,rI h9 (aS h 0) x10/\sB (x10==1) (V180a h9 h least_7 most_8 R) (∃x15,rI h9 (aS h 0) x15/\sB (x15==2) (V180a h9 h least_7 most_8 R) (R (.bool false) h9)))
theorem vc180 (pa pb pc:Int) (H:@W180 h R pa pb pc):Fn Pz 180 #[.agg ⟨(L4 pa pb pc)⟩] h R:=fnJ (A:=(.s .z (.s .z (.j [(3,.one (.int .i64)),(4,.one (.int .i64))] .z .z)))) H
def V181a (from_4 i_5:Int) (p0:ByteArray) (h6:Heap) (R:Value->Heap->Prop) (m3:Nat) (I1:Int->Int->Heap->Nat->Prop):Prop:=
 ((0:Int)<=(from_4:Int)/\(from_4:Int)<=(i_5:Int)/\(i_5:Int)<=(ByteArray.size p0:Nat))/\Fn Pz 229 #[.string (ByteArray.extract p0 (from_4.toNat) (i_5.toNat))] h6 (fun v7 h9=>∃x8,iB v7 x8/\sB (!x8) (R (.bool false) h9) (∃m10,m10<m3/\I1 (wrap .i64 (i_5+1)) (wrap .i64 (i_5+1)) h9 m10))
def W181 (p0:ByteArray):Prop:=
 QII 0 0 h fun I1 from_4 i_5 h6 m3=>sB (decide (i_5<=(ByteArray.size p0:Int))) (sB (i_5==(ByteArray.size p0:Int)) (V181a from_4 i_5 p0 h6 R m3 I1) ((0<=(i_5:Int)/\(i_5:Int)<(ByteArray.size p0:Nat))/\sB ((byteAt p0 (i_5.toNat):Int)==46) (V181a from_4 i_5 p0 h6 R m3 I1) (∃m15,m15<m3/\I1 from_4 (wrap .i64 (i_5+1)) h6 m15))) (R (.bool (decide ((ByteArray.size p0:Int)<=50))) h6)
theorem vc181 (p0:ByteArray) (H:@W181 h R p0):Fn Pz 181 #[.string p0] h R:=fnJ (A:=(.s .z (.s .z (.s (.s .z (.b (.l [(3,.one (.int .i64)),(4,.one (.int .i64))] .z))) .z)))) H
def W182 (p0 pa pb:Sl):Prop:=
 Wn h [vS pa,vS pb] 169 fun h3=>
 Fn Pz 179 #[vS p0] h3
 (fun v4 h6=>∃x5,iI v4 x5 /\
 QI 0 h6 fun I7 i_10 h11 m9=>
 ∃x12,rS h11 (aS h 0) x12 /\
 sB (decide (i_10<(x12.n:Int)))
 (∃x13,rS h11 (aS h 0) x13 /\
 NB x13.a fun b14 o15=>Ib i_10 x13.n /\
 ∃x16 x17 x18,aL4 h11 ⟨b14,o15+i_10.toNat*3,none⟩ x16 x17 x18 /\
 Wn h11 [vI 0,vI 0,vI 0] 263 fun h19=>
 Wp h19 (aS h11 0) 3 (L4 x16 x17 x18) fun h20=>
 ∃x21,rI h20 (aS h11 0) x21 /\
 sB (decide (x21<(-1)))
 (R (.bool false) h20)
 (∃x22,rI h20 (aS h11 0) x22 /\
 sB (decide (x22>=x5))
 (R (.bool false) h20)
 (∃x23,rI h20 (aS h11 1) x23 /\
 sB (decide (x23<(-1)))
 (R (.bool false) h20)
 (∃x24,rI h20 (aS h11 1) x24 /\
 sB (decide (x24>=x5))
 (R (.bool false) h20)
 (∃x25,rI h20 (aS h11 2) x25 /\
 sB (decide (x25<(-20000)))
 (R (.bool false) h20)
 (∃x26,rI h20 (aS h11 2) x26 /\
 sB (decide (x26>20000))
 (R (.bool false) h20)
 (∃m27,m27<m9/\I7 (wrap .i64 (i_10+1)) h20 m27)))))))
 (QI 0 h11 fun I28 i_31 h32 m30=>
 ∃x33,rS h32 (aS h 1) x33 /\
 sB (decide (i_31<(x33.n:Int)))
 (∃x34,rS h32 (aS h 1) x34 /\
 NB x34.a fun b35 o36=>Ib i_31 x34.n /\
 Ib 0 2 /\
 ∃x37,rI h32 ⟨b35,o36+i_31.toNat*2+Int.toNat 0*1,none⟩ x37 /\
 Fn Pz 230 #[vS p0,vI x37] h32
 (fun v38 h40=>∃x39,iB v38 x39 /\
 sB (!x39)
 (R (.bool false) h40)
 (∃x41,rS h40 (aS h 1) x41 /\
 NB x41.a fun b42 o43=>Ib i_31 x41.n /\
 Ib 1 2 /\
 ∃x44,rI h40 ⟨b42,o43+i_31.toNat*2+Int.toNat 1*1,none⟩ x44 /\
 Fn Pz 230 #[vS p0,vI x44] h40
 (fun v45 h47=>∃x46,iB v45 x46 /\
 sB (!x46)
 (R (.bool false) h47)
 (∃m48,m48<m30/\I28 (wrap .i64 (i_31+1)) h47 m48)))))
 (∃x49,rS h32 (aS h 0) x49 /\
 sB (decide ((x49.n:Int)<=20))
 (∃x50,rS h32 (aS h 1) x50 /\
 R (.bool (decide ((x50.n:Int)<=20))) h32)
 (R (.bool false) h32))))
theorem vc182 (p0 pa pb:Sl) (H:@W182 h R p0 pa pb):Fn Pz 182 #[vS p0,.agg ⟨[vS pa,vS pb]⟩] h R:=fnJ (A:=(.s .z (.s .z (.s (AI 6) (.s (AI 8) .z))))) H
def V183a (h23 h9:Heap) (x13 x14 x15:Int) (b17 o18:Nat) (p2:Int) (h h22:Heap) (x19 x20 x21:Int) (R:Value->Heap->Prop) (p1:Int):Prop:=
 Wp h23 (aS h9 0) 3 (L4 x13 x14 x15) fun h24=>Sm [⟨b17,o18+p2.toNat*6+1,none⟩,(aS h 6)] h23 h24/\Wp h24 (aS h22 0) 3 (L4 x19 x20 x21) fun h25=>∃x26,rI h25 (aS h9 1) x26/\∃x27,rI h25 (aS h22 1) x27/\sB (x26 != x27) (∃x28,rI h25 (aS h9 1) x28/\∃x29,rI h25 (aS h22 1) x29/\R (.bool (decide (x28<x29))) h25) (∃x30,rI h25 (aS h9 2) x30/\∃x31,rI h25 (aS h22 2) x31/\sB (x30 != x31) (∃x32,rI h25 (aS h9 2) x32/\∃x33,rI h25 (aS h22 2) x33/\R (.bool (decide (x32<x33))) h25) (R (.bool (decide (p1<p2))) h25))
def W183 (pa:ByteArray) (pb pc:Sl) (pd pe pf:Int) (pg ph:Sl) (p1 p2:Int):Prop:=
 Wn h (L0 pa pb pc pd pe pf pg ph) 27 fun h9=>∃x10,rS h9 (aS h 6) x10/\NB x10.a fun b11 o12=>Ib p1 x10.n/\∃x13 x14 x15,aL4 h9 ⟨b11,o12+p1.toNat*6+1,none⟩ x13 x14 x15/\∃x16,rS h9 (aS h 6) x16/\NB x16.a fun b17 o18=>Ib p2 x16.n/\∃x19 x20 x21,aL4 h9 ⟨b17,o18+p2.toNat*6+1,none⟩ x19 x20 x21/\(Wn h9 [vI 0,vI 0,vI 0] 65 fun h22=>Sm [⟨b17,o18+p2.toNat*6+1,none⟩,(aS h 6),⟨b11,o12+p1.toNat*6+1,none⟩,(aS h 6)] h9 h22/\Wn h22 [vI 0,vI 0,vI 0] 65 fun h23=>Sm [⟨b17,o18+p2.toNat*6+1,none⟩,(aS h 6),⟨b11,o12+p1.toNat*6+1,none⟩,(aS h 6)] h22 h23/\V183a h23 h9 x13 x14 x15 b17 o18 p2 h h22 x19 x20 x21 R p1)/\Wn h9 [vI 0,vI 0,vI 0] 65 fun h34=>Sm [⟨b17,o18+p2.toNat*6+1,none⟩,(aS h 6),⟨b11,o12+p1.toNat*6+1,none⟩,(aS h 6)] h9 h34/\Wn h34 [vI 0,vI 0,vI 0] 65 fun h35=>Sm [⟨b17,o18+p2.toNat*6+1,none⟩,(aS h 6),⟨b11,o12+p1.toNat*6+1,none⟩,(aS h 6)] h34 h35/\V183a h35 h34 x13 x14 x15 b17 o18 p2 h h9 x19 x20 x21 R p1
theorem vc183 (pa:ByteArray) (pb pc:Sl) (pd pe pf:Int) (pg ph:Sl) (p1 p2:Int) (H:@W183 h R pa pb pc pd pe pf pg ph p1 p2):Fn Pz 183 #[.agg ⟨(L0 pa pb pc pd pe pf pg ph)⟩,vI p1,vI p2] h R:=fnJ (A:=.z) H
def W227 (p0:Int):Prop:=
 sB (decide (p0>=97))
 (sB (decide (p0<=122))
 (R (.bool true) h)
 (sB (decide (p0>=65))
 (R (.bool (decide (p0<=90))) h)
 (R (.bool false) h)))
 (sB (decide (p0>=65))
 (R (.bool (decide (p0<=90))) h)
 (R (.bool false) h))
theorem vc227 (p0:Int) (H:@W227 h R p0):Fn Pz 227 #[.int .u8 p0] h R:=fnJ (A:=.z) H
def W228 (p0:Int):Prop:=
 Fn Pz 227 #[.int .u8 p0] h
 (fun v1 h3=>∃x2,iB v1 x2 /\
 sB x2
 (R (.bool true) h3)
 (Fn Pz 275 #[.int .u8 p0] h3
 (fun v4 h6=>∃x5,iB v4 x5 /\
 sB x5
 (R (.bool true) h6)
 (R (.bool (p0==95)) h6))))
theorem vc228 (p0:Int) (H:@W228 h R p0):Fn Pz 228 #[.int .u8 p0] h R:=fnJ (A:=.z) H
def W229 (p0:ByteArray):Prop:=
 Fn Pz 100 #[.string p0] h
 (fun v1 h3=>∃x2,iB v1 x2 /\
 R (.bool x2) h3)
theorem vc229 (p0:ByteArray) (H:@W229 h R p0):Fn Pz 229 #[.string p0] h R:=fnJ (A:=.z) H
def W230 (p0:Sl) (p1:Int):Prop:=
 sB (decide (p1>=0))
 (Fn Pz 179 #[vS p0] h
 (fun v1 h3=>∃x2,iI v1 x2 /\
 sB (decide (p1<x2))
 (Fn Pz 276 #[vS p0,vI p1] h3
 (fun v4 h9=>∃(x5:ByteArray) (x6 x7 x8:Int),v4=.agg ⟨(L8 x5 x6 x7 x8)⟩ /\
 R (.bool (x6==2)) h9))
 (R (.bool false) h3)))
 (R (.bool false) h)
theorem vc230 (p0:Sl) (p1:Int) (H:@W230 h R p0 p1):Fn Pz 230 #[vS p0,vI p1] h R:=fnJ (A:=.z) H
def W275 (p0:Int):Prop:=
 sB (decide (p0>=48))
 (R (.bool (decide (p0<=57))) h)
 (R (.bool false) h)
theorem vc275 (p0:Int) (H:@W275 h R p0):Fn Pz 275 #[.int .u8 p0] h R:=fnJ (A:=.z) H
def V276a (h20 h:Heap) (R:Value->Heap->Prop):Prop:=
 ∃x21 x22 x23 x24,aL8 h20 (aS h 0) x21 x22 x23 x24/\R (.agg ⟨(L8 x21 x22 x23 x24)⟩) h20
def W276 (p0:Sl) (p1:Int):Prop:=
 Wn h [.string ⟨#[]⟩,vI 0,vI 0,vI 0] 260 fun h1=>QII p1 0 h1 fun I2 x_5 i_6 h7 m4=>sB (decide (i_6<(p0.n:Int))) (NB p0.a fun b8 o9=>Ib i_6 p0.n/\∃x10,rS h7 ⟨b8,o9+i_6.toNat*5+1,none⟩ x10/\sB (decide (x_5<(x10.n:Int))) (NB p0.a fun b11 o12=>Ib i_6 p0.n/\∃x13,rS h7 ⟨b11,o12+i_6.toNat*5+1,none⟩ x13/\NB x13.a fun b14 o15=>Ib x_5 x13.n/\∃x16 x17 x18 x19,aL8 h7 ⟨b14,o15+x_5.toNat*4,none⟩ x16 x17 x18 x19/\Wp h7 (aS h 0) 4 (L8 x16 x17 x18 x19) fun h20=>V276a h20 h R) (NB p0.a fun b25 o26=>Ib i_6 p0.n/\∃x27,rS h7 ⟨b25,o26+i_6.toNat*5+1,none⟩ x27/\∃m28,m28<m4/\I2 (wrap .i64 (x_5-(x27.n:Int))) (wrap .i64 (i_6+1)) h7 m28)) (Wp h7 (aS h 0) 4 [.string ⟨#[]⟩,vI 0,vI 0,vI 0] fun h29=>V276a h29 h R)
theorem vc276 (p0:Sl) (p1:Int) (H:@W276 h R p0 p1):Fn Pz 276 #[vS p0,vI p1] h R:=fnJ (A:=(.s .z (.s (.s .z (.b (.l [(1,.one (.int .i64)),(5,.one (.int .i64))] .z))) .z))) H
def W33 (pa:ByteArray) (pb pc:Sl) (pd pe pf:Int) (pg ph:Sl) (p1:Int) (p2:Sl):Prop:=
 Wn h (L0 pa pb pc pd pe pf pg ph) 27 fun h9=>
 ∃x10 x11 x12 x13 x14 x15 x16 x17,aL0 h9 (aS h 0) x10 x11 x12 x13 x14 x15 x16 x17 /\
 Fn Pz 63 #[.agg ⟨(L0 x10 x11 x12 x13 x14 x15 x16 x17)⟩,vI p1] h9
 (fun v18 h21=>∃x19:Option Addr,∃x20:Int,v18=.tuple ⟨[.pointer x19,vI x20]⟩ /\
 sB (x20 != 0)
 (R (.tuple ⟨[vN,vI x20]⟩) h21)
 (∃x22,rI h21 (aS h 4) x22 /\
 Wn h21 [vI x22] 3 fun h23=>
 Fn Pz 64 #[.pointer x19,.slice (some (aS h21 0)) 1 1] h23
 (fun v24 h26=>∃x25,iS v24 x25 /\
 QSI x25 0 h26 fun I27 s_30 x_31 h32 m29=>
 sB (decide (x_31<(p2.n:Int)))
 (NB p2.a fun b33 o34=>Ib x_31 p2.n /\
 ∃x35 x36 x37 x38 x39,aL6 h32 ⟨b33,o34+x_31.toNat*5,none⟩ x35 x36 x37 x38 x39 /\
 Wn h32 [vI 0,.bool false,vI 0,vI 0,vN] 33 fun h40=>
 Wp h40 (aS h32 0) 5 (L6 x35 x36 x37 x38 x39) fun h41=>
 ∃x42 x43 x44 x45 x46,aL6 h41 (aS h32 0) x42 x43 x44 x45 x46 /\
 Fn Pz 73 #[.pointer x19,.agg ⟨(L6 x42 x43 x44 x45 x46)⟩] h41
 (fun v47 h52=>∃(x48:Bool) (x49 x50:Int) (x51:Bool),v47=.tuple ⟨[.agg ⟨(L1 x48 x49 x50)⟩,.bool x51]⟩ /\
 Wn h52 [.bool false,vI 0,vI 0] 140 fun h53=>
 Wp h53 (aS h52 0) 3 (L1 x48 x49 x50) fun h54=>
 sB (!x51)
 (Fn Pz 74 #[vN] h54
 (fun v55 h57=>∃x56,iS v55 x56 /\
 R (.tuple ⟨[vS x56,vI 0]⟩) h57))
 (∃x58 x59 x60,aL1 h54 (aS h52 0) x58 x59 x60 /\
 Fn Pz 75 #[.pointer x19,vS s_30,.agg ⟨(L1 x58 x59 x60)⟩] h54
 (fun v61 h63=>∃x62,iS v61 x62 /\
 ∃m64,m64<m29/\I27 x62 (wrap .i64 (x_31+1)) h63 m64))))
 (R (.tuple ⟨[vS s_30,vI 0]⟩) h32))))
theorem vc33 (pa:ByteArray) (pb pc:Sl) (pd pe pf:Int) (pg ph:Sl) (p1:Int) (p2:Sl) (H:@W33 h R pa pb pc pd pe pf pg ph p1 p2):Fn Pz 33 #[.agg ⟨(L0 pa pb pc pd pe pf pg ph)⟩,vI p1,vS p2] h R:=fnJ (A:=(.s .z (.s .z (.s .z (.s .z (.s (AJ 10 31) .z)))))) H
def W73 (p0:Addr) (pa:Int) (pb:Bool) (pc pd:Int) (pe:Sl):Prop:=
 Wn h (L6 pa pb pc pd pe) 33 fun h6=>
 Wn h6 [.bool false,vI 0,vI 0] 140 fun h7=>
 ∃x8,rB h7 (aS h 1) x8 /\
 ∃x9,rI h7 (aS h 2) x9 /\
 ∃x10,rI h7 (aS h 3) x10 /\
 ∃x11,rI h7 (aS h 0) x11 /\
 ∃x12,rI h7 ⟨p0.block,p0.off+8,none⟩ x12 /\
 Wp h7 (aS h6 0) 3 (L1 x8 x9 x10) fun h13=>
 Sm [⟨p0.block,p0.off+8,none⟩,(aS h 0)] h7 h13 /\
 ∃x14 x15 x16,aL1 h13 (aS h6 0) x14 x15 x16 /\
 R (.tuple ⟨[.agg ⟨(L1 x14 x15 x16)⟩,.bool (x11==x12)]⟩) h13
theorem vc73 (p0:Addr) (pa:Int) (pb:Bool) (pc pd:Int) (pe:Sl) (H:@W73 h R p0 pa pb pc pd pe):Fn Pz 73 #[.pointer (some p0),.agg ⟨(L6 pa pb pc pd pe)⟩] h R:=fnJ (A:=.z) H
end Go.VC
end

section
namespace Go.VC
open Go.Proofs IntKind


end Go.VC
end

section
namespace Go.VC
open Go.Proofs IntKind
variable {h:Heap} {R:Value->Heap->Prop}
def W106 (p0:Addr) (pa pb pc pd pe:Int) (pf:Bool):Prop:=
 Wn h (L3 pa pb pc pd pe pf) 67 fun h7=>
 Wn h7 [.bool false,vI 0,vI 0] 188 fun h8=>
 ∃x9,rI h8 ⟨p0.block,p0.off+8,none⟩ x9 /\
 ∃x10,rI h8 (aS h 1) x10 /\
 sB (x9==x10)
 (∃x11,rI h8 (aS h (1+1)) x11 /\
 ∃x12,rI h8 (aS h (1+2)) x12 /\
 Wp h8 (aS h7 0) 3 [.bool true,vI x11,vI x12] fun h13=>
 ∃x14 x15 x16,aL1 h13 (aS h7 0) x14 x15 x16 /\
 R (.tuple ⟨[.agg ⟨(L1 x14 x15 x16)⟩,.bool true]⟩) h13)
 (∃x17,rI h8 (aS h (1+1)) x17 /\
 sB (x9==x17)
 (∃x18,rI h8 (aS h 1) x18 /\
 ∃x19,rI h8 (aS h (1+2)) x19 /\
 Wp h8 (aS h7 0) 3 [.bool false,vI x18,vI x19] fun h20=>
 ∃x21 x22 x23,aL1 h20 (aS h7 0) x21 x22 x23 /\
 R (.tuple ⟨[.agg ⟨(L1 x21 x22 x23)⟩,.bool true]⟩) h20)
 (Wp h8 (aS h7 0) 3 [.bool false,vI 0,vI 0] fun h24=>
 ∃x25 x26 x27,aL1 h24 (aS h7 0) x25 x26 x27 /\
 R (.tuple ⟨[.agg ⟨(L1 x25 x26 x27)⟩,.bool false]⟩) h24))
theorem vc106 (p0:Addr) (pa pb pc pd pe:Int) (pf:Bool) (H:@W106 h R p0 pa pb pc pd pe pf):Fn Pz 106 #[.pointer (some p0),.agg ⟨(L3 pa pb pc pd pe pf)⟩] h R:=fnJ (A:=.z) H
def W169 (pa pb pc pd:Int):Prop:=
 Wn h (L5 pa pb pc pd) 200 fun h5=>
 ∃x6,rI h5 (aS h 0) x6 /\
 sB (decide (x6>=0))
 (∃x7,rI h5 (aS h 1) x7 /\
 sB (decide (x7>=0))
 (R (vI 2) h5)
 (R (vI 1) h5))
 (R (vI 1) h5)
theorem vc169 (pa pb pc pd:Int) (H:@W169 h R pa pb pc pd):Fn Pz 169 #[.agg ⟨(L5 pa pb pc pd)⟩] h R:=fnJ (A:=.z) H
def W149 (pa:Sl) (pb:Bool):Prop:=
 Wn h [vS pa,.bool pb] 195 fun h3=>
 ∃(x4:Sl) (x5:Bool),atC h3 (aS h 0) [vS x4,.bool x5] /\
 Fn Pz 148 #[.agg ⟨[vS x4,.bool x5]⟩] h3
 (fun v6 h8=>∃x7,iB v6 x7 /\
 sB x7
 (∃x9,rB h8 (aS h 1) x9 /\
 sB x9
 (R (.bool true) h8)
 (∃x10,rS h8 (aS h 0) x10 /\
 ∃x11,rS h8 (aS h 0) x11 /\
 NB x10.a fun b12 o13=>(0<=((wrap .i64 ((x11.n:Int)-1)):Int)/\((wrap .i64 ((x11.n:Int)-1)):Int)<(x10.n:Nat)) /\
 ∃x14,rB h8 ⟨b12,o13+Int.toNat (wrap .i64 ((x11.n:Int)-1))*3,none⟩ x14 /\
 R (.bool (!x14)) h8))
 (R (.bool false) h8))
theorem vc149 (pa:Sl) (pb:Bool) (H:@W149 h R pa pb):Fn Pz 149 #[.agg ⟨[vS pa,.bool pb]⟩] h R:=fnJ (A:=.z) H
def W185 (pa:Bool) (pb pc:Int) (pd:Bool) (pe pf:Int):Prop:=
 Wn h (L1 pa pb pc) 188 fun h7=>
 Wn h7 (L1 pd pe pf) 188 fun h8=>
 ∃x9,rB h8 (aS h 0) x9 /\
 ∃x10,rB h8 (aS h7 0) x10 /\
 sB (!(x9==x10))
 (∃x11,rB h8 (aS h 0) x11 /\
 sB x11
 (R (vI (-1)) h8)
 (R (vI 1) h8))
 (∃x12,rI h8 (aS h 1) x12 /\
 ∃x13,rI h8 (aS h7 1) x13 /\
 ∃x14,rI h8 (aS h 2) x14 /\
 ∃x15,rI h8 (aS h7 2) x15 /\
 Fn Pz 54 #[vI x12,vI x13] h8
 (fun v16 h18=>∃x17,iI v16 x17 /\
 Sm [(aS h7 2),(aS h 2)] h8 h18 /\
 Fn Pz 54 #[vI x14,vI x15] h18
 (fun v19 h21=>∃x20,iI v19 x20 /\
 Sm [(aS h7 1),(aS h 1)] h18 h21 /\
 Wn h21 [vI x17,vI x20] 3 fun h22=>
 Fn Pz 53 #[.slice (some (aS h21 0)) 2 2] h22
 (fun v23 h25=>∃x24,iI v23 x24 /\
 R (vI x24) h25))))
theorem vc185 (pa:Bool) (pb pc:Int) (pd:Bool) (pe pf:Int) (H:@W185 h R pa pb pc pd pe pf):Fn Pz 185 #[.agg ⟨(L1 pa pb pc)⟩,.agg ⟨(L1 pd pe pf)⟩] h R:=fnJ (A:=.z) H
def W214 (pa:Sl) (pb pc:Bool) (pd pe:Int):Prop:=
 Wn h [vS pa,.bool pb] 195 fun h6=>
 Wn h6 (L1 pc pd pe) 188 fun h7=>
 ∃x8,rS h7 (aS h 0) x8 /\
 ∃x9 x10 x11,aL1 h7 (aS h6 0) x9 x10 x11 /\
 Fn Pz 263 #[vS x8,.agg ⟨(L1 x9 x10 x11)⟩] h7
 (fun v12 h14=>∃x13,iB v12 x13 /\
 R (.bool x13) h14)
theorem vc214 (pa:Sl) (pb pc:Bool) (pd pe:Int) (H:@W214 h R pa pb pc pd pe):Fn Pz 214 #[.agg ⟨[vS pa,.bool pb]⟩,.agg ⟨(L1 pc pd pe)⟩] h R:=fnJ (A:=.z) H
def W148 (pa:Sl) (pb:Bool):Prop:=
 Wn h [vS pa,.bool pb] 195 fun h3=>
 ∃x4,rS h3 (aS h 0) x4 /\
 sB (decide ((x4.n:Int)>0))
 (∃x5,rS h3 (aS h 0) x5 /\
 NB x5.a fun b6 o7=>Ib 0 x5.n /\
 ∃x8,rB h3 ⟨b6,o7+Int.toNat 0*3,none⟩ x8 /\
 R (.bool x8) h3)
 (R (.bool false) h3)
theorem vc148 (pa:Sl) (pb:Bool) (H:@W148 h R pa pb):Fn Pz 148 #[.agg ⟨[vS pa,.bool pb]⟩] h R:=fnJ (A:=.z) H
def W263 (p0:Sl) (pa:Bool) (pb pc:Int):Prop:=
 Wn h (L1 pa pb pc) 188 fun h4=>
 ∃x5 x6 x7,aL1 h4 (aS h 0) x5 x6 x7 /\
 Fn Pz 295 #[vS p0,.agg ⟨(L1 x5 x6 x7)⟩] h4
 (fun v8 h10=>∃x9,iI v8 x9 /\
 R (.bool (decide (x9>=0))) h10)
theorem vc263 (p0:Sl) (pa:Bool) (pb pc:Int) (H:@W263 h R p0 pa pb pc):Fn Pz 263 #[vS p0,.agg ⟨(L1 pa pb pc)⟩] h R:=fnJ (A:=.z) H
def W295 (p0:Sl) (pa:Bool) (pb pc:Int):Prop:=
 Wn h (L1 pa pb pc) 188 fun h4=>
 QI 0 h4 fun I5 x_8 h9 m7=>
 sB (decide (x_8<(p0.n:Int)))
 (∃x10 x11 x12,aL1 h9 (aS h 0) x10 x11 x12 /\
 NB p0.a fun b13 o14=>Ib x_8 p0.n /\
 ∃x15 x16 x17,aL1 h9 ⟨b13,o14+x_8.toNat*3,none⟩ x15 x16 x17 /\
 sB ((x10==x15)&&((x11==x16)&&((x12==x17)&&true)))
 (R (vI x_8) h9)
 (∃m18,m18<m7/\I5 (wrap .i64 (x_8+1)) h9 m18))
 (R (vI (-1)) h9)
theorem vc295 (p0:Sl) (pa:Bool) (pb pc:Int) (H:@W295 h R p0 pa pb pc):Fn Pz 295 #[vS p0,.agg ⟨(L1 pa pb pc)⟩] h R:=fnJ (A:=(.s .z (.s (AI 8) .z))) H
def W170 (p0:Addr) (pa pb:Int):Prop:=
 Wn h [vI pa,vI pb] 97 fun h3=>
 Wn h3 [.bool false,vI 0,vI 0] 188 fun h4=>
 ∃x5,rS h4 ⟨p0.block,p0.off+10,none⟩ x5 /\
 ∃x6,rI h4 (aS h 0) x6 /\
 NB x5.a fun b7 o8=>Ib x6 x5.n /\
 ∃x9,rS h4 ⟨b7,o8+x6.toNat*2,none⟩ x9 /\
 QI 0 h4 fun I10 x_13 h14 m12=>
 sB (decide (x_13<(x9.n:Int)))
 (NB x9.a fun b15 o16=>Ib x_13 x9.n /\
 ∃x17 x18 x19,aL1 h14 ⟨b15,o16+x_13.toNat*3,none⟩ x17 x18 x19 /\
 Wn h14 [.bool false,vI 0,vI 0] 188 fun h20=>
 Wp h20 (aS h14 0) 3 (L1 x17 x18 x19) fun h21=>
 ∃x22,rB h21 (aS h14 0) x22 /\
 sB x22
 (∃x23,rS h21 ⟨p0.block,p0.off+10,none⟩ x23 /\
 ∃x24,rI h21 (aS h 1) x24 /\
 NB x23.a fun b25 o26=>Ib x24 x23.n /\
 ∃(x27:Sl) (x28:Bool),atC h21 ⟨b25,o26+x24.toNat*2,none⟩ [vS x27,.bool x28] /\
 ∃x29 x30 x31,aL1 h21 (aS h14 0) x29 x30 x31 /\
 Fn Pz 214 #[.agg ⟨[vS x27,.bool x28]⟩,.agg ⟨(L1 x29 x30 x31)⟩] h21
 (fun v32 h34=>∃x33,iB v32 x33 /\
 Sm [(aS h14 0)] h21 h34 /\
 sB (!x33)
 (∃x35 x36 x37,aL1 h34 (aS h14 0) x35 x36 x37 /\
 Wp h34 (aS h3 0) 3 (L1 x35 x36 x37) fun h38=>
 ∃x39 x40 x41,aL1 h38 (aS h3 0) x39 x40 x41 /\
 R (.tuple ⟨[.agg ⟨(L1 x39 x40 x41)⟩,.bool true]⟩) h38)
 (∃m42,m42<m12/\I10 (wrap .i64 (x_13+1)) h34 m42)))
 (∃m43,m43<m12/\I10 (wrap .i64 (x_13+1)) h21 m43))
 (Wp h14 (aS h3 0) 3 [.bool false,vI 0,vI 0] fun h44=>
 ∃x45 x46 x47,aL1 h44 (aS h3 0) x45 x46 x47 /\
 R (.tuple ⟨[.agg ⟨(L1 x45 x46 x47)⟩,.bool false]⟩) h44)
theorem vc170 (p0:Addr) (pa pb:Int) (H:@W170 h R p0 pa pb):Fn Pz 170 #[.pointer (some p0),.agg ⟨[vI pa,vI pb]⟩] h R:=fnJ (A:=(.s .z (.s (AI 18) .z))) H
def W151 (p0:Addr) (pa pb:Int):Prop:=
 Wn h [vI pa,vI pb] 97 fun h3=>
 ∃x4,rS h3 ⟨p0.block,p0.off+13,none⟩ x4 /\
 ∃x5,rI h3 (aS h 0) x5 /\
 NB x4.a fun b6 o7=>Ib x5 x4.n /\
 ∃x8,rB h3 ⟨b6,o7+x5.toNat*1,none⟩ x8 /\
 sB x8
 (∃x9,rS h3 ⟨p0.block,p0.off+13,none⟩ x9 /\
 ∃x10,rI h3 (aS h 1) x10 /\
 NB x9.a fun b11 o12=>Ib x10 x9.n /\
 ∃x13,rB h3 ⟨b11,o12+x10.toNat*1,none⟩ x13 /\
 sB x13
 (∃x14,rS h3 ⟨p0.block,p0.off+11,none⟩ x14 /\
 ∃x15,rI h3 (aS h 0) x15 /\
 NB x14.a fun b16 o17=>Ib x15 x14.n /\
 ∃(x18:Int) (x19:Bool) (x20 x21:Int),atC h3 ⟨b16,o17+x15.toNat*4,none⟩ [vI x18,.bool x19,vI x20,vI x21] /\
 ∃x22,rS h3 ⟨p0.block,p0.off+11,none⟩ x22 /\
 ∃x23,rI h3 (aS h 1) x23 /\
 NB x22.a fun b24 o25=>Ib x23 x22.n /\
 ∃(x26:Int) (x27:Bool) (x28 x29:Int),atC h3 ⟨b24,o25+x23.toNat*4,none⟩ [vI x26,.bool x27,vI x28,vI x29] /\
 sB (!((x18==x26)&&(((x19==x27)&&((x20==x28)&&((x21==x29)&&true)))&&true)))
 (R (.bool true) h3)
 (∃x30,rS h3 ⟨p0.block,p0.off+12,none⟩ x30 /\
 ∃x31,rI h3 (aS h 0) x31 /\
 NB x30.a fun b32 o33=>Ib x31 x30.n /\
 ∃x34,rB h3 ⟨b32,o33+x31.toNat*1,none⟩ x34 /\
 ∃x35,rS h3 ⟨p0.block,p0.off+12,none⟩ x35 /\
 ∃x36,rI h3 (aS h 1) x36 /\
 NB x35.a fun b37 o38=>Ib x36 x35.n /\
 ∃x39,rB h3 ⟨b37,o38+x36.toNat*1,none⟩ x39 /\
 R (.bool (!(x34==x39))) h3))
 (R (.bool false) h3))
 (R (.bool false) h3)
theorem vc151 (p0:Addr) (pa pb:Int) (H:@W151 h R p0 pa pb):Fn Pz 151 #[.pointer (some p0),.agg ⟨[vI pa,vI pb]⟩] h R:=fnJ (A:=.z) H
def W171 (p0:Addr) (pa:Bool) (pb pc:Int):Prop:=
 Wn h (L1 pa pb pc) 188 fun h4=>
 Wn h4 [vI 0,.bool false,vI 0,vI 0,vN] 33 fun h5=>
 ∃x6,rI h5 ⟨p0.block,p0.off+8,none⟩ x6 /\
 ∃x7,rB h5 (aS h 0) x7 /\
 ∃x8,rI h5 (aS h 1) x8 /\
 ∃x9,rI h5 (aS h 2) x9 /\
 Wp h5 (aS h4 0) 5 [vI x6,.bool x7,vI x8,vI x9,vN] fun h10=>
 ∃x11 x12 x13 x14 x15,aL6 h10 (aS h4 0) x11 x12 x13 x14 x15 /\
 R (.agg ⟨(L6 x11 x12 x13 x14 x15)⟩) h10
theorem vc171 (p0:Addr) (pa:Bool) (pb pc:Int) (H:@W171 h R p0 pa pb pc):Fn Pz 171 #[.pointer (some p0),.agg ⟨(L1 pa pb pc)⟩] h R:=fnJ (A:=.z) H
def W165 (p0:Option Nat) (pa pb:Int):Prop:=
 Wn h [vI pa,vI pb] 97 fun h3=>
 ∃(x4 x5:Int),atC h3 (aS h 0) [vI x4,vI x5] /\
 RunW Pz (Instr.lookup 293 (.map p0) (.agg ⟨[vI x4,vI x5]⟩) true) h3
 (fun v6 h9=>∃(x7:Int) (x8:Bool),v6=.tuple ⟨[vI x7,.bool x8]⟩ /\
 sB x8
 (R (vI x7) h9)
 (R (vI 1073741824) h9))
theorem vc165 (p0:Option Nat) (pa pb:Int) (H:@W165 h R p0 pa pb):Fn Pz 165 #[.map p0,.agg ⟨[vI pa,vI pb]⟩] h R:=fnJ (A:=.z) H
def W186 (p0:Sl):Prop:=
 sB (decide ((p0.n:Int)<2))
 (R (vS p0) h)
 (QI 1 h fun I1 k_4 h5 m3=>
 sB (decide (k_4<(p0.n:Int)))
 (NB p0.a fun b6 o7=>Ib k_4 p0.n /\
 ∃x8 x9 x10,aL1 h5 ⟨b6,o7+k_4.toNat*3,none⟩ x8 x9 x10 /\
 NB p0.a fun b11 o12=>(0<=((wrap .i64 (k_4-1)):Int)/\((wrap .i64 (k_4-1)):Int)<(p0.n:Nat)) /\
 ∃x13 x14 x15,aL1 h5 ⟨b11,o12+Int.toNat (wrap .i64 (k_4-1))*3,none⟩ x13 x14 x15 /\
 sB ((x8==x13)&&((x9==x14)&&((x10==x15)&&true)))
 (((0:Int)<=(k_4:Int)/\(k_4:Int)<=((p0.n:Nat):Int)/\((p0.n:Nat):Int)<=(p0.c:Nat)) /\
 QII k_4 1 h5 fun I16 k_19 x_20 h21 m18=>
 sB (decide (x_20<(((Int.toNat (p0.n:Nat)-k_4.toNat):Nat):Int)))
 (NB (subA p0.a (k_4.toNat) p0.c 3) fun b22 o23=>(0<=(x_20:Int)/\(x_20:Int)<((Int.toNat (p0.n:Nat)-k_4.toNat):Nat)) /\
 ∃x24 x25 x26,aL1 h21 ⟨b22,o23+x_20.toNat*3,none⟩ x24 x25 x26 /\
 NB (subA p0.a (k_4.toNat) p0.c 3) fun b27 o28=>(0<=((wrap .i64 (x_20-1)):Int)/\((wrap .i64 (x_20-1)):Int)<((Int.toNat (p0.n:Nat)-k_4.toNat):Nat)) /\
 ∃x29 x30 x31,aL1 h21 ⟨b27,o28+Int.toNat (wrap .i64 (x_20-1))*3,none⟩ x29 x30 x31 /\
 sB (!((x24==x29)&&((x25==x30)&&((x26==x31)&&true))))
 (NB (subA p0.a (k_4.toNat) p0.c 3) fun b32 o33=>(0<=(x_20:Int)/\(x_20:Int)<((Int.toNat (p0.n:Nat)-k_4.toNat):Nat)) /\
 ∃x34 x35 x36,aL1 h21 ⟨b32,o33+x_20.toNat*3,none⟩ x34 x35 x36 /\
 NB p0.a fun b37 o38=>Ib k_19 p0.n /\
 Wp h21 ⟨b37,o38+k_19.toNat*3,none⟩ 3 (L1 x34 x35 x36) fun h39=>
 ∃m40,m40<m18/\I16 (wrap .i64 (k_19+1)) (wrap .i64 (x_20+1)) h39 m40)
 (∃m41,m41<m18/\I16 k_19 (wrap .i64 (x_20+1)) h21 m41))
 (((0:Int)<=(k_19:Int)/\(k_19:Int)<=((p0.n:Nat):Int)/\((p0.n:Nat):Int)<=(p0.c:Nat)) /\
 RunW Pz (Builtin.clear_ #[193] 0 #[.slice (subA p0.a (k_19.toNat) p0.c 3) (Int.toNat (p0.n:Nat)-k_19.toNat) (p0.c-k_19.toNat)]) h21 (fun v43 h42=>
 ((0:Int)<=(0:Int)/\(0:Int)<=(k_19:Int)/\(k_19:Int)<=(p0.c:Nat)) /\
 R (.slice (subA p0.a (Int.toNat 0) p0.c 3) (k_19.toNat-Int.toNat 0) (p0.c-Int.toNat 0)) h42)))
 (∃m44,m44<m3/\I1 (wrap .i64 (k_4+1)) h5 m44))
 (R (vS p0) h5))
theorem vc186 (p0:Sl) (H:@W186 h R p0):Fn Pz 186 #[vS p0] h R:=fnJ (A:=(.s .z (.s .z (.s (.s .z (.b (.l [(3,.one (.int .i64))] (.s .z (.s (.b (.s .z (.c (.s .z (.s (.s .z (.b (.l [(3,.one (.int .i64)),(5,.one (.int .i64))] .z))) .z)) .z))) .z))))) .z)))) H
def W108 (p0:Addr) (pa pb:Int):Prop:=
 Wn h [vI pa,vI pb] 97 fun h3=>
 ∃x4,rS h3 ⟨p0.block,p0.off+9,none⟩ x4 /\
 ∃x5,rI h3 (aS h 0) x5 /\
 NB x4.a fun b6 o7=>Ib x5 x4.n /\
 ∃x8,rS h3 ⟨b6,o7+x5.toNat*1,none⟩ x8 /\
 QSSI ⟨none,0,0⟩ ⟨none,0,0⟩ 0 h3 fun I9 quiet_12 both_13 x_14 h15 m11=>
 sB (decide (x_14<(x8.n:Int)))
 (NB x8.a fun b16 o17=>Ib x_14 x8.n /\
 ∃x18,rI h15 ⟨b16,o17+x_14.toNat*1,none⟩ x18 /\
 ∃x19,rS h15 ⟨p0.block,p0.off+6,none⟩ x19 /\
 NB x19.a fun b20 o21=>Ib x18 x19.n /\
 ∃x22 x23 x24 x25 x26 x27,aL3 h15 ⟨b20,o21+x18.toNat*6,none⟩ x22 x23 x24 x25 x26 x27 /\
 Wn h15 [vI 0,vI 0,vI 0,vI 0,vI 0,.bool false] 67 fun h28=>
 Wp h28 (aS h15 0) 6 (L3 x22 x23 x24 x25 x26 x27) fun h29=>
 ∃x30 x31 x32 x33 x34 x35,aL3 h29 (aS h15 0) x30 x31 x32 x33 x34 x35 /\
 Fn Pz 106 #[.pointer (some p0),.agg ⟨(L3 x30 x31 x32 x33 x34 x35)⟩] h29
 (fun v36 h41=>∃(x37:Bool) (x38 x39:Int) (x40:Bool),v36=.tuple ⟨[.agg ⟨(L1 x37 x38 x39)⟩,.bool x40]⟩ /\
 Wn h41 [.bool false,vI 0,vI 0] 188 fun h42=>
 Wp h42 (aS h41 0) 3 (L1 x37 x38 x39) fun h43=>
 sB (!x40)
 (∃x44,rI h43 (aS h15 4) x44 /\
 ∃x45,rI h43 (aS h 1) x45 /\
 Wn h43 [vI x18,vI (-1),vI x44,vI x45] 200 fun h46=>
 App Pz 197 197 (vS quiet_12) (.slice (some (aS h43 0)) 1 1) h46 fun s47 h48=>
 ∃m49,m49<m11/\I9 s47 both_13 (wrap .i64 (x_14+1)) h48 m49)
 (∃x50,rS h43 ⟨p0.block,p0.off+9,none⟩ x50 /\
 ∃x51,rI h43 (aS h 1) x51 /\
 NB x50.a fun b52 o53=>Ib x51 x50.n /\
 ∃x54,rS h43 ⟨b52,o53+x51.toNat*1,none⟩ x54 /\
 QSI both_13 0 h43 fun I55 both_58 x_59 h60 m57=>
 sB (decide (x_59<(x54.n:Int)))
 (NB x54.a fun b61 o62=>Ib x_59 x54.n /\
 ∃x63,rI h60 ⟨b61,o62+x_59.toNat*1,none⟩ x63 /\
 ∃x64,rS h60 ⟨p0.block,p0.off+6,none⟩ x64 /\
 NB x64.a fun b65 o66=>Ib x63 x64.n /\
 ∃x67 x68 x69 x70 x71 x72,aL3 h60 ⟨b65,o66+x63.toNat*6,none⟩ x67 x68 x69 x70 x71 x72 /\
 Wn h60 [vI 0,vI 0,vI 0,vI 0,vI 0,.bool false] 67 fun h73=>
 Wp h73 (aS h60 0) 6 (L3 x67 x68 x69 x70 x71 x72) fun h74=>
 ∃x75 x76 x77 x78 x79 x80,aL3 h74 (aS h60 0) x75 x76 x77 x78 x79 x80 /\
 Fn Pz 106 #[.pointer (some p0),.agg ⟨(L3 x75 x76 x77 x78 x79 x80)⟩] h74
 (fun v81 h86=>∃(x82:Bool) (x83 x84:Int) (x85:Bool),v81=.tuple ⟨[.agg ⟨(L1 x82 x83 x84)⟩,.bool x85]⟩ /\
 Wn h86 [.bool false,vI 0,vI 0] 188 fun h87=>
 Wp h87 (aS h86 0) 3 (L1 x82 x83 x84) fun h88=>
 sB x85
 (∃x89 x90 x91,aL1 h88 (aS h41 0) x89 x90 x91 /\
 ∃x92 x93 x94,aL1 h88 (aS h86 0) x92 x93 x94 /\
 sB ((x89==x92)&&((x90==x93)&&((x91==x94)&&true)))
 (∃x95,rI h88 (aS h15 4) x95 /\
 ∃x96,rI h88 (aS h60 4) x96 /\
 Wn h88 (L5 x18 x63 x95 x96) 200 fun h97=>
 App Pz 197 197 (vS both_58) (.slice (some (aS h88 0)) 1 1) h97 fun s98 h99=>
 ∃m100,m100<m57/\I55 s98 (wrap .i64 (x_59+1)) h99 m100)
 (∃m101,m101<m57/\I55 both_58 (wrap .i64 (x_59+1)) h88 m101))
 (∃m102,m102<m57/\I55 both_58 (wrap .i64 (x_59+1)) h88 m102)))
 (∃m103,m103<m11/\I9 quiet_12 both_58 (wrap .i64 (x_14+1)) h60 m103))))
 (∃x104,rS h15 ⟨p0.block,p0.off+9,none⟩ x104 /\
 ∃x105,rI h15 (aS h 1) x105 /\
 NB x104.a fun b106 o107=>Ib x105 x104.n /\
 ∃x108,rS h15 ⟨b106,o107+x105.toNat*1,none⟩ x108 /\
 QSI ⟨none,0,0⟩ 0 h15 fun I109 other_112 x_113 h114 m111=>
 sB (decide (x_113<(x108.n:Int)))
 (NB x108.a fun b115 o116=>Ib x_113 x108.n /\
 ∃x117,rI h114 ⟨b115,o116+x_113.toNat*1,none⟩ x117 /\
 ∃x118,rS h114 ⟨p0.block,p0.off+6,none⟩ x118 /\
 NB x118.a fun b119 o120=>Ib x117 x118.n /\
 ∃x121 x122 x123 x124 x125 x126,aL3 h114 ⟨b119,o120+x117.toNat*6,none⟩ x121 x122 x123 x124 x125 x126 /\
 Wn h114 [vI 0,vI 0,vI 0,vI 0,vI 0,.bool false] 67 fun h127=>
 Wp h127 (aS h114 0) 6 (L3 x121 x122 x123 x124 x125 x126) fun h128=>
 ∃x129,rI h128 (aS h114 1) x129 /\
 ∃x130,rI h128 ⟨p0.block,p0.off+8,none⟩ x130 /\
 sB (x129 != x130)
 (∃x131,rI h128 (aS h114 (1+1)) x131 /\
 ∃x132,rI h128 ⟨p0.block,p0.off+8,none⟩ x132 /\
 sB (x131 != x132)
 (∃x133,rI h128 (aS h 0) x133 /\
 ∃x134,rI h128 (aS h114 4) x134 /\
 Wn h128 [vI (-1),vI x117,vI x133,vI x134] 200 fun h135=>
 App Pz 197 197 (vS other_112) (.slice (some (aS h128 0)) 1 1) h135 fun s136 h137=>
 ∃m138,m138<m111/\I109 s136 (wrap .i64 (x_113+1)) h137 m138)
 (∃m139,m139<m111/\I109 other_112 (wrap .i64 (x_113+1)) h128 m139))
 (∃m140,m140<m111/\I109 other_112 (wrap .i64 (x_113+1)) h128 m140))
 (Wn h114 [vS quiet_12,vS other_112,vS both_13] 197 fun h141=>
 Fn Pz 187 #[.slice (some (aS h114 0)) 3 3] h141
 (fun v142 h144=>∃x143,iS v142 x143 /\
 R (vS x143) h144)))
theorem vc108 (p0:Addr) (pa pb:Int) (H:@W108 h R p0 pa pb):Fn Pz 108 #[.pointer (some p0),.agg ⟨[vI pa,vI pb]⟩] h R:=fnJ (A:=(.s .z (.s .z (.s (.s .z (.b (.l [(5,.one (.slice)),(7,.one (.slice)),(30,.one (.int .i64))] (.s .z (.s .z (.s (.b (.s .z (.s .z (.s .z (.s .z (AJ 7 69)))))) .z)))))) (.s (AJ 6 115) .z))))) H
def W187 (p0:Sl):Prop:=
 QII 0 0 h fun I1 size_4 x_5 h6 m3=>
 sB (decide (x_5<(p0.n:Int)))
 (NB p0.a fun b7 o8=>Ib x_5 p0.n /\
 ∃x9,rS h6 ⟨b7,o8+x_5.toNat*1,none⟩ x9 /\
 sB (decide ((wrap .i64 (size_4+(x9.n:Int)))<0))
 (False)
 (∃m10,m10<m3/\I1 (wrap .i64 (size_4+(x9.n:Int))) (wrap .i64 (x_5+1)) h6 m10))
 (Fn Pz 232 #[vN,vI size_4] h6
 (fun v11 h13=>∃x12,iS v11 x12 /\
 QSI x12 0 h13 fun I14 newslice_17 x_18 h19 m16=>
 sB (decide (x_18<(p0.n:Int)))
 (NB p0.a fun b20 o21=>Ib x_18 p0.n /\
 ∃x22,rS h19 ⟨b20,o21+x_18.toNat*1,none⟩ x22 /\
 App Pz 197 197 (vS newslice_17) (vS x22) h19 fun s23 h24=>
 ∃m25,m25<m16/\I14 s23 (wrap .i64 (x_18+1)) h24 m25)
 (R (vS newslice_17) h19)))
theorem vc187 (p0:Sl) (H:@W187 h R p0):Fn Pz 187 #[vS p0] h R:=fnJ (A:=(.s .z (.s .z (.s (.s .z (.b (.l [(3,.one (.int .i64)),(11,.one (.int .i64))] .z))) (.s .z (.s (AJ 6 27) .z)))))) H
def W232 (p0:Sl) (p1:Int):Prop:=
 ∃J1:Heap->Prop,
 (sB (decide (p1<0))
 (False)
 (J1 h)) /\
 ∀(_:Env) (h2:Heap),J1 h2 ->
 (sB (decide ((wrap .i64 (p1-(wrap .i64 ((p0.c:Int)-(p0.n:Int)))))>0))
 (((0:Int)<=(0:Int)/\(0:Int)<=((p0.c:Int):Int)/\((p0.c:Int):Int)<=(p0.c:Nat)) /\
 App Pz 197 3 (.slice (subA p0.a (Int.toNat 0) p0.c 4) (Int.toNat (p0.c:Int)-Int.toNat 0) (p0.c-Int.toNat 0)) (vI (wrap .i64 (p1-(wrap .i64 ((p0.c:Int)-(p0.n:Int)))))) h2 fun s3 h4=>
 ((0:Int)<=(0:Int)/\(0:Int)<=((p0.n:Int):Int)/\((p0.n:Int):Int)<=(s3.c:Nat)) /\
 R (.slice (subA s3.a (Int.toNat 0) s3.c 4) (Int.toNat (p0.n:Int)-Int.toNat 0) (s3.c-Int.toNat 0)) h4)
 (R (vS p0) h2))
theorem vc232 (p0:Sl) (p1:Int) (H:@W232 h R p0 p1):Fn Pz 232 #[vS p0,vI p1] h R:=fnJ (A:=(.s .z (.j [] .z .z))) H
def V107a (h16:Heap) (p0:Addr) (x14:Int) (todo_10:Sl) (h4:Heap) (x2:Int) (h1:Heap) (m9:Nat) (I7:Sl->Heap->Nat->Prop):Prop:=
 ∃x17,rS h16 ⟨p0.block,p0.off+9,none⟩ x17/\NB x17.a fun b18 o19=>Ib x14 x17.n/\∃x20,rS h16 ⟨b18,o19+x14.toNat*1,none⟩ x20/\QSI ⟨(subA todo_10.a (Int.toNat 0) todo_10.c 1),(Int.toNat (wrap .i64 ((todo_10.n:Int)-1))-Int.toNat 0),(todo_10.c-Int.toNat 0)⟩ 0 h16 fun I21 todo_24 x_25 h26 m23=>sB (decide (x_25<(x20.n:Int))) (NB x20.a fun b27 o28=>Ib x_25 x20.n/\∃x29,rI h26 ⟨b27,o28+x_25.toNat*1,none⟩ x29/\∃x30,rS h26 ⟨p0.block,p0.off+6,none⟩ x30/\NB x30.a fun b31 o32=>Ib x29 x30.n/\∃x33 x34 x35 x36 x37 x38,aL3 h26 ⟨b31,o32+x29.toNat*6,none⟩ x33 x34 x35 x36 x37 x38/\Wn h26 [vI 0,vI 0,vI 0,vI 0,vI 0,.bool false] 67 fun h39=>Wp h39 (aS h26 0) 6 (L3 x33 x34 x35 x36 x37 x38) fun h40=>∃x41 x42 x43 x44 x45 x46,aL3 h40 (aS h26 0) x41 x42 x43 x44 x45 x46/\Fn Pz 106 #[.pointer (some p0),.agg ⟨(L3 x41 x42 x43 x44 x45 x46)⟩] h40 (fun v47 h52=>∃(x48:Bool) (x49 x50:Int) (x51:Bool),v47=.tuple ⟨[.agg ⟨(L1 x48 x49 x50)⟩,.bool x51]⟩/\Wn h52 [.bool false,vI 0,vI 0] 188 fun h53=>Wp h53 (aS h52 0) 3 (L1 x48 x49 x50) fun h54=>sB x51 (∃x55,rS h54 (aS h4 0) x55/\∃x56 x57 x58,aL1 h54 (aS h52 0) x56 x57 x58/\Wn h54 (L1 x56 x57 x58) 188 fun h59=>App Pz 193 193 (vS x55) (.slice (some (aS h54 0)) 1 1) h59 fun s60 h61=>Wp h61 (aS h4 0) 1 [vS s60] fun h62=>∃m63,m63<m23/\I21 todo_24 (wrap .i64 (x_25+1)) h62 m63) (∃x64,rI h54 (aS h26 4) x64/\(0<=(x64:Int)/\(x64:Int)<((x2.toNat):Nat))/\∃x65,rB h54 (aS h1 (0+x64.toNat*1)) x65/\sB (!x65) (∃x66,rI h54 (aS h26 4) x66/\(0<=(x66:Int)/\(x66:Int)<((x2.toNat):Nat))/\Wp h54 (aS h1 (0+x66.toNat*1)) 1 [.bool true] fun h67=>∃x68,rI h67 (aS h26 4) x68/\Wn h67 [vI x68] 3 fun h69=>App Pz 102 102 (vS todo_24) (.slice (some (aS h67 0)) 1 1) h69 fun s70 h71=>∃m72,m72<m23/\I21 s70 (wrap .i64 (x_25+1)) h71 m72) (∃m73,m73<m23/\I21 todo_24 (wrap .i64 (x_25+1)) h54 m73)))) (∃m74,m74<m9/\I7 todo_24 h26 m74)
def W107 (p0:Addr) (p1:Int):Prop:=
 Wn h [vN,.bool false] 195 fun h1=>∃x2,rI h1 ⟨p0.block,p0.off+3,none⟩ x2/\Mk x2 x2 1/\Wn h1 (madeL Pz 4 (x2.toNat)) 4 fun h3=>(0<=(p1:Int)/\(p1:Int)<((x2.toNat):Nat))/\Wp h3 (aS h1 (0+p1.toNat*1)) 1 [.bool true] fun h4=>Wn h4 [vN,.bool false] 195 fun h5=>Wn h5 [vI p1] 3 fun h6=>QS ⟨(some (aS h5 0)),1,1⟩ h6 fun I7 todo_10 h11 m9=>sB (decide ((todo_10.n:Int)>0)) (NB todo_10.a fun b12 o13=>(0<=((wrap .i64 ((todo_10.n:Int)-1)):Int)/\((wrap .i64 ((todo_10.n:Int)-1)):Int)<(todo_10.n:Nat))/\∃x14,rI h11 ⟨b12,o13+Int.toNat (wrap .i64 ((todo_10.n:Int)-1))*1,none⟩ x14/\((0:Int)<=(0:Int)/\(0:Int)<=((wrap .i64 ((todo_10.n:Int)-1)):Int)/\((wrap .i64 ((todo_10.n:Int)-1)):Int)<=(todo_10.c:Nat))/\∃x15,rB h11 (aS h4 1) x15/\sB x15 (Wp h11 (aS h4 1) 1 [.bool true] fun h16=>V107a h16 p0 x14 todo_10 h4 x2 h1 m9 I7) (∃x75,rI h11 ⟨p0.block,p0.off+5,none⟩ x75/\Wp h11 (aS h4 1) 1 [.bool (x14==x75)] fun h76=>V107a h76 p0 x14 todo_10 h4 x2 h1 m9 I7)) (∃x135,rS h11 (aS h4 0) x135/\Fn Pz 184 #[vS x135,.func (.func 185) #[] #[]] h11 (fun v136 h137=>v136=.tuple ⟨[]⟩/\∃x138,rS h137 (aS h4 0) x138/\Fn Pz 186 #[vS x138] h137 (fun v139 h141=>∃x140,iS v139 x140/\Wp h141 (aS h4 0) 1 [vS x140] fun h142=>∃(x143:Sl) (x144:Bool),atC h142 (aS h4 0) [vS x143,.bool x144]/\Wp h142 (aS h 0) 2 [vS x143,.bool x144] fun h145=>∃(x146:Sl) (x147:Bool),atC h145 (aS h 0) [vS x146,.bool x147]/\R (.agg ⟨[vS x146,.bool x147]⟩) h145)))
theorem vc107 (p0:Addr) (p1:Int) (H:@W107 h R p0 p1):Fn Pz 107 #[.pointer (some p0),vI p1] h R:=fnJ (A:=(.s .z (.s .z (.s .z (.s .z (.s (.s .z (.b (.l [(7,.one (.slice))] (.s .z (.b (.s .z (.s .z (.s .z (AJ 7 59))))))))) .z)))))) H
def W50 (p0:Addr):Prop:=
 ∃x1,rI h ⟨p0.block,p0.off+4,none⟩ x1 /\
 ∃x2,rI h ⟨p0.block,p0.off+4,none⟩ x2 /\
 Wn h [vI 0,vI 0] 97 fun h3=>
 Sm [⟨p0.block,p0.off+4,none⟩,⟨p0.block,p0.off+4,none⟩] h h3 /\
 Wp h3 (aS h 0) 2 [vI x1,vI x2] fun h4=>
 ∃(x5 x6:Int),atC h4 (aS h 0) [vI x5,vI x6] /\
 Wn h4 [vI x5,vI x6] 97 fun h7=>
 RunW Pz (Instr.makeMap 93 (none)) h7
 (fun v8 h10=>∃x9:Option Nat,v8=.map x9 /\
 ∃(x11 x12:Int),atC h10 (aS h 0) [vI x11,vI x12] /\
 RunW Pz (Instr.mapUpdate 93 (.map x9) (.agg ⟨[vI x11,vI x12]⟩) vN) h10 (fun _ h13=>
 QSI ⟨(some (aS h4 0)),1,1⟩ 0 h13 fun I14 all_17 head_18 h19 m16=>
 sB (decide (head_18<(all_17.n:Int)))
 (NB all_17.a fun b20 o21=>Ib head_18 all_17.n /\
 ∃(x22 x23:Int),atC h19 ⟨b20,o21+head_18.toNat*2,none⟩ [vI x22,vI x23] /\
 Fn Pz 108 #[.pointer (some p0),.agg ⟨[vI x22,vI x23]⟩] h19
 (fun v24 h26=>∃x25,iS v24 x25 /\
 NB all_17.a fun b27 o28=>Ib head_18 all_17.n /\
 ∃(x29 x30:Int),atC h26 ⟨b27,o28+head_18.toNat*2,none⟩ [vI x29,vI x30] /\
 RunW Pz (Instr.mapUpdate 93 (.map x9) (.agg ⟨[vI x29,vI x30]⟩) (vS x25)) h26 (fun _ h31=>
 QSI all_17 0 h31 fun I32 all_35 x_36 h37 m34=>
 sB (decide (x_36<(x25.n:Int)))
 (NB x25.a fun b38 o39=>Ib x_36 x25.n /\
 ∃x40 x41 x42 x43,aL5 h37 ⟨b38,o39+x_36.toNat*4,none⟩ x40 x41 x42 x43 /\
 Wn h37 [vI 0,vI 0,vI 0,vI 0] 200 fun h44=>
 Wp h44 (aS h37 0) 4 (L5 x40 x41 x42 x43) fun h45=>
 ∃(x46 x47:Int),atC h45 (aS h37 2) [vI x46,vI x47] /\
 RunW Pz (Instr.lookup 93 (.map x9) (.agg ⟨[vI x46,vI x47]⟩) true) h45
 (fun v48 h51=>∃(x49:Sl) (x50:Bool),v48=.tuple ⟨[vS x49,.bool x50]⟩ /\
 sB (!x50)
 (∃(x52 x53:Int),atC h51 (aS h37 2) [vI x52,vI x53] /\
 RunW Pz (Instr.mapUpdate 93 (.map x9) (.agg ⟨[vI x52,vI x53]⟩) vN) h51 (fun _ h54=>
 ∃(x55 x56:Int),atC h54 (aS h37 2) [vI x55,vI x56] /\
 Wn h54 [vI x55,vI x56] 97 fun h57=>
 App Pz 92 92 (vS all_35) (.slice (some (aS h54 0)) 1 1) h57 fun s58 h59=>
 ∃m60,m60<m34/\I32 s58 (wrap .i64 (x_36+1)) h59 m60))
 (∃m61,m61<m34/\I32 all_35 (wrap .i64 (x_36+1)) h51 m61)))
 (∃m62,m62<m16/\I14 all_35 (wrap .i64 (head_18+1)) h37 m62))))
 (R (.tuple ⟨[vS all_17,.map x9]⟩) h19)))
theorem vc50 (p0:Addr) (H:@W50 h R p0):Fn Pz 50 #[.pointer (some p0)] h R:=fnJ (A:=(.s .z (.s .z (.s .z (.s .z (.s (.s .z (.b (.l [(5,.one (.slice)),(7,.one (.int .i64))] (.s .z (.s (.b (.s .z (.s .z (AJ 5 49)))) .z))))) .z)))))) H
def W166 (p0:Addr) (p1 pa pb:Int):Prop:=
 Wn h [vI pa,vI pb] 97 fun h3=>
 sB (p1==1)
 (∃(x4 x5:Int),atC h3 (aS h 0) [vI x4,vI x5] /\
 Fn Pz 170 #[.pointer (some p0),.agg ⟨[vI x4,vI x5]⟩] h3
 (fun v6 h11=>∃(x7:Bool) (x8 x9:Int) (x10:Bool),v6=.tuple ⟨[.agg ⟨(L1 x7 x8 x9)⟩,.bool x10]⟩ /\
 Wn h11 [.bool false,vI 0,vI 0] 188 fun h12=>
 Wp h12 (aS h11 0) 3 (L1 x7 x8 x9) fun h13=>
 R (.tuple ⟨[vI 0,.bool x10]⟩) h13))
 (sB (p1==3)
 (∃(x14 x15:Int),atC h3 (aS h 0) [vI x14,vI x15] /\
 Fn Pz 151 #[.pointer (some p0),.agg ⟨[vI x14,vI x15]⟩] h3
 (fun v16 h18=>∃x17,iB v16 x17 /\
 R (.tuple ⟨[vI 0,.bool x17]⟩) h18))
 (∃(x19 x20:Int),atC h3 (aS h 0) [vI x19,vI x20] /\
 Fn Pz 152 #[.pointer (some p0),.agg ⟨[vI x19,vI x20]⟩] h3
 (fun v21 h27=>∃(x22 x23 x24 x25:Int) (x26:Bool),v21=.tuple ⟨[.agg ⟨(L5 x22 x23 x24 x25)⟩,.bool x26]⟩ /\
 Wn h27 [vI 0,vI 0,vI 0,vI 0] 276 fun h28=>
 Wp h28 (aS h27 0) 4 (L5 x22 x23 x24 x25) fun h29=>
 ∃x30,rI h29 (aS h27 1) x30 /\
 R (.tuple ⟨[vI x30,.bool x26]⟩) h29)))
theorem vc166 (p0:Addr) (p1 pa pb:Int) (H:@W166 h R p0 p1 pa pb):Fn Pz 166 #[.pointer (some p0),vI p1,.agg ⟨[vI pa,vI pb]⟩] h R:=fnJ (A:=.z) H
def V152a (h34 h15 h4:Heap) (m13:Nat) (I11:Int->Heap->Nat->Prop) (x_14:Int):Prop:=
 ∃x36 x37 x38 x39,aL5 h34 (aS h15 0) x36 x37 x38 x39/\Wp h34 (aS h4 0) 4 (L5 x36 x37 x38 x39) fun h40=>∃m41,m41<m13/\I11 (wrap .i64 (x_14+1)) h40 m41
def W152 (p0:Addr) (pa pb:Int):Prop:=
 Wn h [vI pa,vI pb] 97 fun h3=>Wn h3 [vI 0,vI 0,vI 0,vI 0] 276 fun h4=>Wn h4 [vI 0,vI 0,vI 0,vI 0] 276 fun h5=>∃x6,rS h5 ⟨p0.block,p0.off+14,none⟩ x6/\∃x7,rI h5 (aS h 0) x7/\NB x6.a fun b8 o9=>Ib x7 x6.n/\∃x10,rS h5 ⟨b8,o9+x7.toNat*1,none⟩ x10/\QI 0 h5 fun I11 x_14 h15 m13=>sB (decide (x_14<(x10.n:Int))) (NB x10.a fun b16 o17=>Ib x_14 x10.n/\∃x18 x19 x20 x21,aL5 h15 ⟨b16,o17+x_14.toNat*4,none⟩ x18 x19 x20 x21/\Wn h15 [vI 0,vI 0,vI 0,vI 0] 276 fun h22=>Wp h22 (aS h15 0) 4 (L5 x18 x19 x20 x21) fun h23=>∃x24,rS h23 ⟨p0.block,p0.off+10,none⟩ x24/\∃x25,rI h23 (aS h 1) x25/\NB x24.a fun b26 o27=>Ib x25 x24.n/\∃(x28:Sl) (x29:Bool),atC h23 ⟨b26,o27+x25.toNat*2,none⟩ [vS x28,.bool x29]/\∃x30,rI h23 (aS h15 2) x30/\∃x31,rI h23 (aS h15 (2+1)) x31/\Fn Pz 214 #[.agg ⟨[vS x28,.bool x29]⟩,.agg ⟨[.bool false,vI x30,vI x31]⟩] h23 (fun v32 h34=>∃x33,iB v32 x33/\sB x33 (∃x35,rI h34 (aS h4 1) x35/\sB (x35==0) (V152a h34 h15 h4 m13 I11 x_14) (∃x42,rI h34 (aS h15 1) x42/\∃x43,rI h34 (aS h4 1) x43/\sB (decide (x42<x43)) (V152a h34 h15 h4 m13 I11 x_14) (∃m50,m50<m13/\I11 (wrap .i64 (x_14+1)) h34 m50))) (∃m51,m51<m13/\I11 (wrap .i64 (x_14+1)) h34 m51))) (∃x52 x53 x54 x55,aL5 h15 (aS h4 0) x52 x53 x54 x55/\∃x56,rI h15 (aS h4 1) x56/\Wp h15 (aS h3 0) 4 (L5 x52 x53 x54 x55) fun h57=>Sm [(aS h4 1)] h15 h57/\∃x58 x59 x60 x61,aL5 h57 (aS h3 0) x58 x59 x60 x61/\R (.tuple ⟨[.agg ⟨(L5 x58 x59 x60 x61)⟩,.bool (decide (x56>0))]⟩) h57)
theorem vc152 (p0:Addr) (pa pb:Int) (H:@W152 h R p0 pa pb):Fn Pz 152 #[.pointer (some p0),.agg ⟨[vI pa,vI pb]⟩] h R:=fnJ (A:=(.s .z (.s .z (.s (AI 18) .z)))) H
def W167 (p0:Sl) (p1:Value):Prop:=
 QI 0 h fun I1 x_4 h5 m3=>
 sB (decide (x_4<(p0.n:Int)))
 (NB p0.a fun b6 o7=>Ib x_4 p0.n /\
 ∃x8 x9 x10 x11,aL5 h5 ⟨b6,o7+x_4.toNat*4,none⟩ x8 x9 x10 x11 /\
 match p1 with | .func (.func g12) fa13 fc14=>(bif callable Pz g12 then Fn Pz g12 (fa13 ++ #[.agg ⟨(L5 x8 x9 x10 x11)⟩]++fc14) h5
 (fun v15 h17=>∃x16,iB v15 x16 /\
 sB x16
 (R (vI x_4) h17)
 (∃m18,m18<m3/\I1 (wrap .i64 (x_4+1)) h17 m18)) else ExtW Pz g12 (fa13 ++ #[.agg ⟨(L5 x8 x9 x10 x11)⟩]++fc14) h5
 (fun v15 h17=>∃x16,iB v15 x16 /\
 sB x16
 (R (vI x_4) h17)
 (∃m18,m18<m3/\I1 (wrap .i64 (x_4+1)) h17 m18))) | _=>False)
 (R (vI (-1)) h5)
theorem vc167 (p0:Sl) (p1:Value) (H:@W167 h R p0 p1):Fn Pz 167 #[vS p0,p1] h R:=fnJ (A:=(.s .z (.s (AI 8) .z))) H
def W168 (pa pb pc pd:Int) (c0:Addr) (c1:Addr):Prop:=
 Wn h (L5 pa pb pc pd) 200 fun h5=>
 ∃x6 x7 x8 x9,aL5 h5 (aS h 0) x6 x7 x8 x9 /\
 ∃x10:Option Nat,hc h5 c0=some (.map x10) /\
 ∃(x11 x12:Int),atC h5 (aS h 2) [vI x11,vI x12] /\
 ∃x13:Option Nat,hc h5 c0=some (.map x13) /\
 ∃(x14 x15:Int),atC h5 c1 [vI x14,vI x15] /\
 Fn Pz 169 #[.agg ⟨(L5 x6 x7 x8 x9)⟩] h5
 (fun v16 h18=>∃x17,iI v16 x17 /\
 Sm [c1,c0,(aS h 2),c0] h5 h18 /\
 Fn Pz 165 #[.map x10,.agg ⟨[vI x11,vI x12]⟩] h18
 (fun v19 h21=>∃x20,iI v19 x20 /\
 Sm [c1,c0,(aS h 0)] h18 h21 /\
 Fn Pz 165 #[.map x13,.agg ⟨[vI x14,vI x15]⟩] h21
 (fun v22 h24=>∃x23,iI v22 x23 /\
 Sm [(aS h 2),c0,(aS h 0)] h21 h24 /\
 R (.bool ((wrap .i64 (x17+x20))==x23)) h24)))
theorem vc168 (pa pb pc pd:Int) (c0:Addr) (c1:Addr) (H:@W168 h R pa pb pc pd c0 c1):Fn Pz 168 #[.agg ⟨(L5 pa pb pc pd)⟩,.pointer (some c0),.pointer (some c1)] h R:=fnJ (A:=.z) H
def V226a (h10:Heap) (c0:Addr) (h:Heap) (p1:Int) (c1:Addr) (R:Value->Heap->Prop):Prop:=
 ∃x11:Option Nat,hc h10 c0=some (.map x11)/\∃(x12 x13:Int),atC h10 (aS h 0) [vI x12,vI x13]/\RunW Pz (Instr.mapUpdate 293 (.map x11) (.agg ⟨[vI x12,vI x13]⟩) (vI p1)) h10 (fun _ h14=>∃I15:Heap->Nat->Prop,(∃m16,I15 h14 m16)/\∀(_:Env) (h18:Heap) (m17:Nat),I15 h18 m17->(∃x19,rS h18 c1 x19/\sB (decide ((x19.n:Int)<=p1)) (∃x20,rS h18 c1 x20/\Wn h18 [vN] 92 fun h21=>App Pz 350 350 (vS x20) (.slice (some (aS h18 0)) 1 1) h21 fun s22 h23=>Wp h23 c1 1 [vS s22] fun h24=>∃m25,m25<m17/\I15 h24 m25) (∃x26,rS h18 c1 x26/\∃x27,rS h18 c1 x27/\NB x27.a fun b28 o29=>Ib p1 x27.n/\∃x30,rS h18 ⟨b28,o29+p1.toNat*1,none⟩ x30/\∃(x31 x32:Int),atC h18 (aS h 0) [vI x31,vI x32]/\Wn h18 [vI x31,vI x32] 97 fun h33=>Sm [⟨b28,o29+p1.toNat*1,none⟩,c1,c1] h18 h33/\App Pz 92 92 (vS x30) (.slice (some (aS h18 0)) 1 1) h33 fun s34 h35=>Sm [c1] h33 h35/\NB x26.a fun b36 o37=>Ib p1 x26.n/\Wp h35 ⟨b36,o37+p1.toNat*1,none⟩ 1 [vS s34] fun h38=>R (.tuple ⟨[]⟩) h38)))
def W226 (pa pb p1:Int) (c0:Addr) (c1:Addr):Prop:=
 Wn h [vI pa,vI pb] 97 fun h3=>∃x4:Option Nat,hc h3 c0=some (.map x4)/\∃(x5 x6:Int),atC h3 (aS h 0) [vI x5,vI x6]/\RunW Pz (Instr.lookup 293 (.map x4) (.agg ⟨[vI x5,vI x6]⟩) true) h3 (fun v7 h10=>∃(x8:Int) (x9:Bool),v7=.tuple ⟨[vI x8,.bool x9]⟩/\sB x9 (sB (decide (x8<=p1)) (R (.tuple ⟨[]⟩) h10) (V226a h10 c0 h p1 c1 R)) (V226a h10 c0 h p1 c1 R))
theorem vc226 (pa pb p1:Int) (c0:Addr) (c1:Addr) (H:@W226 h R pa pb p1 c0 c1):Fn Pz 226 #[.agg ⟨[vI pa,vI pb]⟩,vI p1,.pointer (some c0),.pointer (some c1)] h R:=fnJ (A:=(.s .z (.s .z (.s .z (.s (.b (.l [] .z)) .z))))) H
def W164 (p0:Addr) (p1:Int) (p2:Sl) (p3:Option Nat):Prop:=
 RunW Pz (Instr.makeMap 293 (some (vI (p2.n:Int)))) h
 (fun v1 h3=>∃x2:Option Nat,v1=.map x2 /\
 Wn h3 [.map none] 293 fun h4=>
 Wp h4 (aS h3 0) 1 [.map x2] fun h5=>
 RunW Pz (Instr.makeMap 93 (none)) h5
 (fun v6 h8=>∃x7:Option Nat,v6=.map x7 /\
 Wn h8 [vN] 350 fun h9=>
 QI 0 h9 fun I10 x_13 h14 m12=>
 sB (decide (x_13<(p2.n:Int)))
 (NB p2.a fun b15 o16=>Ib x_13 p2.n /\
 ∃(x17 x18:Int),atC h14 ⟨b15,o16+x_13.toNat*2,none⟩ [vI x17,vI x18] /\
 Wn h14 [vI 0,vI 0] 97 fun h19=>
 Wp h19 (aS h14 0) 2 [vI x17,vI x18] fun h20=>
 ∃(x21 x22:Int),atC h20 (aS h14 0) [vI x21,vI x22] /\
 RunW Pz (Instr.lookup 93 (.map p3) (.agg ⟨[vI x21,vI x22]⟩) false) h20
 (fun v23 h25=>∃x24,iS v23 x24 /\
 QI 0 h25 fun I26 x_29 h30 m28=>
 sB (decide (x_29<(x24.n:Int)))
 (NB x24.a fun b31 o32=>Ib x_29 x24.n /\
 ∃x33 x34 x35 x36,aL5 h30 ⟨b31,o32+x_29.toNat*4,none⟩ x33 x34 x35 x36 /\
 Wn h30 [vI 0,vI 0,vI 0,vI 0] 200 fun h37=>
 Wp h37 (aS h30 0) 4 (L5 x33 x34 x35 x36) fun h38=>
 ∃(x39 x40:Int),atC h38 (aS h30 2) [vI x39,vI x40] /\
 ∃x41,rI h38 (aS h30 0) x41 /\
 ∃x42,rI h38 (aS h30 1) x42 /\
 ∃(x43 x44:Int),atC h38 (aS h14 0) [vI x43,vI x44] /\
 Wn h38 (L5 x41 x42 x43 x44) 200 fun h45=>
 RunW Pz (Instr.mapEntry 93 (.map x7) (.agg ⟨[vI x39,vI x40]⟩)) h45 (fun v46 h47=>
 ∃(x48:Sl) (n49:Int),v46=.tuple ⟨[vS x48,vI n49]⟩ /\
 App Pz 197 197 (vS x48) (.slice (some (aS h38 0)) 1 1) h47 fun s50 h51=>
 RunW Pz (Instr.entryStore 93 (.map x7) (vI n49) (vS s50)) h51 (fun _ h52=>
 ∃m53,m53<m28/\I26 (wrap .i64 (x_29+1)) h52 m53)))
 (∃(x54 x55:Int),atC h30 (aS h14 0) [vI x54,vI x55] /\
 Fn Pz 166 #[.pointer (some p0),vI p1,.agg ⟨[vI x54,vI x55]⟩] h30
 (fun v56 h59=>∃(x57:Int) (x58:Bool),v56=.tuple ⟨[vI x57,.bool x58]⟩ /\
 sB x58
 (∃(x60 x61:Int),atC h59 (aS h14 0) [vI x60,vI x61] /\
 Fn Pz 226 #[.agg ⟨[vI x60,vI x61]⟩,vI x57,.pointer (some (aS h3 0)),.pointer (some (aS h8 0))] h59
 (fun v62 h63=>v62=.tuple ⟨[]⟩ /\
 ∃m64,m64<m12/\I10 (wrap .i64 (x_13+1)) h63 m64))
 (∃m65,m65<m12/\I10 (wrap .i64 (x_13+1)) h59 m65)))))
 (QI 0 h14 fun I66 n_69 h70 m68=>
 ∃x71,rS h70 (aS h8 0) x71 /\
 sB (decide (n_69<(x71.n:Int)))
 (QI 0 h70 fun I72 i_75 h76 m74=>
 ∃x77,rS h76 (aS h8 0) x77 /\
 NB x77.a fun b78 o79=>Ib n_69 x77.n /\
 ∃x80,rS h76 ⟨b78,o79+n_69.toNat*1,none⟩ x80 /\
 sB (decide (i_75<(x80.n:Int)))
 (∃x81,rS h76 (aS h8 0) x81 /\
 NB x81.a fun b82 o83=>Ib n_69 x81.n /\
 ∃x84,rS h76 ⟨b82,o83+n_69.toNat*1,none⟩ x84 /\
 NB x84.a fun b85 o86=>Ib i_75 x84.n /\
 ∃(x87 x88:Int),atC h76 ⟨b85,o86+i_75.toNat*2,none⟩ [vI x87,vI x88] /\
 Wn h76 [vI 0,vI 0] 97 fun h89=>
 Wp h89 (aS h76 0) 2 [vI x87,vI x88] fun h90=>
 ∃x91:Option Nat,hc h90 (aS h3 0)=some (.map x91) /\
 ∃(x92 x93:Int),atC h90 (aS h76 0) [vI x92,vI x93] /\
 RunW Pz (Instr.lookup 293 (.map x91) (.agg ⟨[vI x92,vI x93]⟩) false) h90
 (fun v94 h96=>∃x95,iI v94 x95 /\
 sB (x95 != n_69)
 (∃m97,m97<m74/\I72 (wrap .i64 (i_75+1)) h96 m97)
 (∃(x98 x99:Int),atC h96 (aS h76 0) [vI x98,vI x99] /\
 RunW Pz (Instr.lookup 93 (.map x7) (.agg ⟨[vI x98,vI x99]⟩) false) h96
 (fun v100 h102=>∃x101,iS v100 x101 /\
 QI 0 h102 fun I103 x_106 h107 m105=>
 sB (decide (x_106<(x101.n:Int)))
 (NB x101.a fun b108 o109=>Ib x_106 x101.n /\
 ∃x110 x111 x112 x113,aL5 h107 ⟨b108,o109+x_106.toNat*4,none⟩ x110 x111 x112 x113 /\
 Wn h107 [vI 0,vI 0,vI 0,vI 0] 200 fun h114=>
 Wp h114 (aS h107 0) 4 (L5 x110 x111 x112 x113) fun h115=>
 ∃(x116 x117:Int),atC h115 (aS h107 2) [vI x116,vI x117] /\
 ∃x118 x119 x120 x121,aL5 h115 (aS h107 0) x118 x119 x120 x121 /\
 Fn Pz 169 #[.agg ⟨(L5 x118 x119 x120 x121)⟩] h115
 (fun v122 h124=>∃x123,iI v122 x123 /\
 Sm [(aS h107 2)] h115 h124 /\
 Fn Pz 226 #[.agg ⟨[vI x116,vI x117]⟩,vI (wrap .i64 (n_69+x123)),.pointer (some (aS h3 0)),.pointer (some (aS h8 0))] h124
 (fun v125 h126=>v125=.tuple ⟨[]⟩ /\
 ∃m127,m127<m105/\I103 (wrap .i64 (x_106+1)) h126 m127)))
 (∃m128,m128<m74/\I72 (wrap .i64 (i_75+1)) h107 m128)))))
 (∃m129,m129<m68/\I66 (wrap .i64 (n_69+1)) h76 m129))
 (∃x130:Option Nat,hc h70 (aS h3 0)=some (.map x130) /\
 R (.map x130) h70))))
theorem vc164 (p0:Addr) (p1:Int) (p2:Sl) (p3:Option Nat) (H:@W164 h R p0 p1 p2 p3):Fn Pz 164 #[.pointer (some p0),vI p1,vS p2,.map p3] h R:=fnJ (A:=(.s .z (.s .z (.s .z (.s .z (.s .z (.s (.s .z (.b (.l [(31,.one (.int .i64))] (.s .z (.s .z (.s (.b (.s .z (.s (AI 39) .z))) .z)))))) (.s (.s .z (.b (.l [(19,.one (.int .i64))] (.s .z (.s (.b (.s .z (.b (.l [(20,.one (.int .i64))] (.s .z (.s (.b (.s .z (.s .z (AI 102)))) .z)))))) .z))))) .z)))))))) H
def W131 (p0:Sl) (p1:Value):Prop:=
 Fn Pz 71 #[vS p0,p1] h
 (fun v1 h3=>∃x2,iI v1 x2 /\
 R (.bool (decide (x2>=0))) h3)
theorem vc131 (p0:Sl) (p1:Value) (H:@W131 h R p0 p1):Fn Pz 131 #[vS p0,p1] h R:=fnJ (A:=.z) H
def W132 (pa pb:Int) (pc:Sl) (c0:Addr):Prop:=
 Wn h (L9 pa pb pc) 134 fun h4=>
 ∃(x5 x6:Int),atC h4 (aS h 0) [vI x5,vI x6] /\
 ∃(x7 x8:Int),atC h4 c0 [vI x7,vI x8] /\
 R (.bool ((x5==x7)&&((x6==x8)&&true))) h4
theorem vc132 (pa pb:Int) (pc:Sl) (c0:Addr) (H:@W132 h R pa pb pc c0):Fn Pz 132 #[.agg ⟨(L9 pa pb pc)⟩,.pointer (some c0)] h R:=fnJ (A:=.z) H
def W71 (p0:Sl) (p1:Value):Prop:=
 QI 0 h fun I1 x_4 h5 m3=>
 sB (decide (x_4<(p0.n:Int)))
 (NB p0.a fun b6 o7=>Ib x_4 p0.n /\
 ∃x8 x9 x10,aL9 h5 ⟨b6,o7+x_4.toNat*3,none⟩ x8 x9 x10 /\
 match p1 with | .func (.func g11) fa12 fc13=>(bif callable Pz g11 then Fn Pz g11 (fa12 ++ #[.agg ⟨(L9 x8 x9 x10)⟩]++fc13) h5
 (fun v14 h16=>∃x15,iB v14 x15 /\
 sB x15
 (R (vI x_4) h16)
 (∃m17,m17<m3/\I1 (wrap .i64 (x_4+1)) h16 m17)) else ExtW Pz g11 (fa12 ++ #[.agg ⟨(L9 x8 x9 x10)⟩]++fc13) h5
 (fun v14 h16=>∃x15,iB v14 x15 /\
 sB x15
 (R (vI x_4) h16)
 (∃m17,m17<m3/\I1 (wrap .i64 (x_4+1)) h16 m17))) | _=>False)
 (R (vI (-1)) h5)
theorem vc71 (p0:Sl) (p1:Value) (H:@W71 h R p0 p1):Fn Pz 71 #[vS p0,p1] h R:=fnJ (A:=(.s .z (.s (AI 8) .z))) H
def W72 (pa pb:Int) (pc:Sl) (c0:Addr):Prop:=
 Wn h (L9 pa pb pc) 134 fun h4=>
 ∃(x5 x6:Int),atC h4 (aS h 0) [vI x5,vI x6] /\
 ∃(x7 x8:Int),atC h4 c0 [vI x7,vI x8] /\
 R (.bool ((x5==x7)&&((x6==x8)&&true))) h4
theorem vc72 (pa pb:Int) (pc:Sl) (c0:Addr) (H:@W72 h R pa pb pc c0):Fn Pz 72 #[.agg ⟨(L9 pa pb pc)⟩,.pointer (some c0)] h R:=fnJ (A:=.z) H
def W133 (p0:Sl):Prop:=
 QII 0 (wrap .i64 ((p0.n:Int)-1)) h fun I1 i_4 j_5 h6 m3=>
 sB (decide (i_4<j_5))
 (NB p0.a fun b7 o8=>Ib j_5 p0.n /\
 ∃x9 x10 x11,aL4 h6 ⟨b7,o8+j_5.toNat*3,none⟩ x9 x10 x11 /\
 NB p0.a fun b12 o13=>Ib i_4 p0.n /\
 ∃x14 x15 x16,aL4 h6 ⟨b12,o13+i_4.toNat*3,none⟩ x14 x15 x16 /\
 NB p0.a fun b17 o18=>Ib i_4 p0.n /\
 Wp h6 ⟨b17,o18+i_4.toNat*3,none⟩ 3 (L4 x9 x10 x11) fun h19=>
 NB p0.a fun b20 o21=>Ib j_5 p0.n /\
 Wp h19 ⟨b20,o21+j_5.toNat*3,none⟩ 3 (L4 x14 x15 x16) fun h22=>
 ∃m23,m23<m3/\I1 (wrap .i64 (i_4+1)) (wrap .i64 (j_5-1)) h22 m23)
 (R (.tuple ⟨[]⟩) h6)
theorem vc133 (p0:Sl) (H:@W133 h R p0):Fn Pz 133 #[vS p0] h R:=fnJ (A:=(.s .z (.b (.l [(2,.one (.int .i64)),(3,.one (.int .i64))] .z)))) H
def W31 (pa:ByteArray) (pb pc:Sl) (pd pe pf:Int) (pg ph:Sl) (p1:Int):Prop:=
 Wn h (L0 pa pb pc pd pe pf pg ph) 27 fun h9=>
 ∃x10 x11 x12 x13 x14 x15 x16 x17,aL0 h9 (aS h 0) x10 x11 x12 x13 x14 x15 x16 x17 /\
 Fn Pz 68 #[.agg ⟨(L0 x10 x11 x12 x13 x14 x15 x16 x17)⟩,vI p1] h9
 (fun v18 h21=>∃(x19:Sl) (x20:Int),v18=.tuple ⟨[vS x19,vI x20]⟩ /\
 QSI ⟨none,0,0⟩ 0 h21 fun I22 out_25 x_26 h27 m24=>
 sB (decide (x_26<(x19.n:Int)))
 (NB x19.a fun b28 o29=>Ib x_26 x19.n /\
 ∃x30 x31 x32,aL9 h27 ⟨b28,o29+x_26.toNat*3,none⟩ x30 x31 x32 /\
 Wn h27 [vI 0,vI 0,vN] 134 fun h33=>
 Wp h33 (aS h27 0) 3 (L9 x30 x31 x32) fun h34=>
 ∃(x35 x36:Int),atC h34 (aS h27 0) [vI x35,vI x36] /\
 Wn h34 [vI x35,vI x36] 72 fun h37=>
 App Pz 68 68 (vS out_25) (.slice (some (aS h34 0)) 1 1) h37 fun s38 h39=>
 ∃m40,m40<m24/\I22 s38 (wrap .i64 (x_26+1)) h39 m40)
 (Fn Pz 69 #[vS out_25,.func (.func 70) #[] #[]] h27
 (fun v41 h42=>v41=.tuple ⟨[]⟩ /\
 R (.tuple ⟨[vS out_25,vI x20]⟩) h42)))
theorem vc31 (pa:ByteArray) (pb pc:Sl) (pd pe pf:Int) (pg ph:Sl) (p1:Int) (H:@W31 h R pa pb pc pd pe pf pg ph p1):Fn Pz 31 #[.agg ⟨(L0 pa pb pc pd pe pf pg ph)⟩,vI p1] h R:=fnJ (A:=(.s .z (.s .z (.s .z (.s (AJ 8 19) .z))))) H
def W32 (pa:ByteArray) (pb pc:Sl) (pd pe pf:Int) (pg ph:Sl) (p1 pi pj:Int):Prop:=
 Wn h (L0 pa pb pc pd pe pf pg ph) 27 fun h11=>
 Wn h11 [vI pi,vI pj] 72 fun h12=>
 ∃x13 x14 x15 x16 x17 x18 x19 x20,aL0 h12 (aS h 0) x13 x14 x15 x16 x17 x18 x19 x20 /\
 Fn Pz 68 #[.agg ⟨(L0 x13 x14 x15 x16 x17 x18 x19 x20)⟩,vI p1] h12
 (fun v21 h24=>∃(x22:Sl) (x23:Int),v21=.tuple ⟨[vS x22,vI x23]⟩ /\
 sB (x23 != 0)
 (R (.tuple ⟨[vN,vI x23]⟩) h24)
 (Fn Pz 71 #[vS x22,.func (.func 72) #[] #[.pointer (some (aS h11 0))]] h24
 (fun v25 h27=>∃x26,iI v25 x26 /\
 sB (decide (x26<0))
 (R (.tuple ⟨[vN,vI 8]⟩) h27)
 (NB x22.a fun b28 o29=>Ib x26 x22.n /\
 ∃x30,rS h27 ⟨b28,o29+x26.toNat*3+2,none⟩ x30 /\
 R (.tuple ⟨[vS x30,vI 0]⟩) h27))))
theorem vc32 (pa:ByteArray) (pb pc:Sl) (pd pe pf:Int) (pg ph:Sl) (p1 pi pj:Int) (H:@W32 h R pa pb pc pd pe pf pg ph p1 pi pj):Fn Pz 32 #[.agg ⟨(L0 pa pb pc pd pe pf pg ph)⟩,vI p1,.agg ⟨[vI pi,vI pj]⟩] h R:=fnJ (A:=.z) H
def V68a (h140:Heap) (head_89:Int) (h144:Heap) (queue_103:Sl) (h133:Heap) (all_104:Sl) (J122:Sl->Heap->Prop):Prop:=
 QSI ⟨(some (aS h140 0)),1,1⟩ head_89 h144 fun I145 path_148 i_149 h150 m147=>
 NB queue_103.a fun b151 o152=>Ib i_149 queue_103.n /\
 ∃x153,rI h150 ⟨b151,o152+i_149.toNat*7+3,none⟩ x153 /\
 sB (decide (x153>=0))
 (NB queue_103.a fun b154 o155=>Ib i_149 queue_103.n /\
 ∃x156 x157 x158,aL4 h150 ⟨b154,o155+i_149.toNat*7+4,none⟩ x156 x157 x158 /\
 Wn h150 (L4 x156 x157 x158) 65 fun h159=>
 App Pz 30 30 (vS path_148) (.slice (some (aS h150 0)) 1 1) h159 fun s160 h161=>
 NB queue_103.a fun b162 o163=>Ib i_149 queue_103.n /\
 ∃x164,rI h161 ⟨b162,o163+i_149.toNat*7+3,none⟩ x164 /\
 ∃m165,m165<m147/\I145 s160 x164 h161 m165)
 (Fn Pz 133 #[vS path_148] h150
 (fun v166 h167=>v166=.tuple ⟨[]⟩ /\
 ∃(x168 x169:Int),atC h167 (aS h133 0) [vI x168,vI x169] /\
 Wn h167 (L9 x168 x169 path_148) 134 fun h170=>
 App Pz 130 130 (vS all_104) (.slice (some (aS h167 0)) 1 1) h170 fun s171 h172=>
 J122 s171 h172))
def V68b (h121:Heap) (h90:Heap) (h106:Heap) (h116:Heap) (all_104:Sl) (x66 head_89:Int) (queue_103:Sl) (x74:Option Nat) (m102:Nat) (I100:Sl->Sl->Int->Heap->Nat->Prop) (x_105:Int):Prop:=
 ∃J122:Sl->Heap->Prop,
 (∃x123:Int,hc h121 (aS h90 1)=some (.int .u8 x123) /\
 ∃x124,rI h121 (aS h106 1) x124 /\
 0<=x124/\sB ((andI .u8 (shrI .u8 x123 x124) 1)==1)
 (∃x125:Int,hc h121 (aS h116 1)=some (.int .u8 x125) /\
 ∃x126,rI h121 (aS h106 (1+1)) x126 /\
 0<=x126/\Wp h121 (aS h116 1) 1 [.int .u8 (orI .u8 x125 (shlI .u8 1 x126))] fun h127=>
 J122 all_104 h127)
 (∃x128,rI h121 (aS h106 (1+1)) x128 /\
 sB (x128==x66)
 (∃x129:Int,hc h121 (aS h90 2)=some (.int .u8 x129) /\
 ∃x130,rI h121 (aS h106 1) x130 /\
 0<=x130/\sB ((andI .u8 (shrI .u8 x129 x130) 1)==0)
 (∃x131:Int,hc h121 (aS h116 2)=some (.int .u8 x131) /\
 ∃x132,rI h121 (aS h106 1) x132 /\
 0<=x132/\Wp h121 (aS h116 2) 1 [.int .u8 (orI .u8 x131 (shlI .u8 1 x132))] fun h133=>
 ∃x134,rI h133 (aS h106 1) x134 /\
 ∃x135,rI h133 (aS h106 (1+2)) x135 /\
 Wn h133 [vI 0,vI 0] 72 fun h136=>
 Wp h136 (aS h133 0) 2 [vI x134,vI x135] fun h137=>
 Fn Pz 131 #[vS all_104,.func (.func 132) #[] #[.pointer (some (aS h133 0))]] h137
 (fun v138 h140=>∃x139,iB v138 x139 /\
 sB (!x139)
 (∃x141 x142 x143,aL4 h140 (aS h106 1) x141 x142 x143 /\
 Wn h140 (L4 x141 x142 x143) 65 fun h144=>
 V68a h140 head_89 h144 queue_103 h133 all_104 J122)
 (J122 all_104 h140)))
 (J122 all_104 h121))
 (J122 all_104 h121))) /\
 ∀(_:Env) (all_173:Sl) (h174:Heap),J122 all_173 h174 ->
 (∃(x175 x176 x177:Int),atC h174 (aS h116 0) [vI x175,.int .u8 x176,.int .u8 x177] /\
 RunW Pz (Instr.lookup 246 (.map x74) (.agg ⟨[vI x175,.int .u8 x176,.int .u8 x177]⟩) false) h174
 (fun v178 h180=>∃x179,iB v178 x179 /\
 sB (!x179)
 (∃(x181 x182 x183:Int),atC h180 (aS h116 0) [vI x181,.int .u8 x182,.int .u8 x183] /\
 RunW Pz (Instr.mapUpdate 246 (.map x74) (.agg ⟨[vI x181,.int .u8 x182,.int .u8 x183]⟩) (.bool true)) h180 (fun _ h184=>
 ∃(x185 x186 x187:Int),atC h184 (aS h116 0) [vI x185,.int .u8 x186,.int .u8 x187] /\
 ∃x188 x189 x190,aL4 h184 (aS h106 1) x188 x189 x190 /\
 Wn h184 [vI x185,.int .u8 x186,.int .u8 x187,vI head_89,vI x188,vI x189,vI x190] 248 fun h191=>
 App Pz 249 249 (vS queue_103) (.slice (some (aS h184 0)) 1 1) h191 fun s192 h193=>
 ∃m194,m194<m102/\I100 s192 all_173 (wrap .i64 (x_105+1)) h193 m194))
 (∃m195,m195<m102/\I100 queue_103 all_173 (wrap .i64 (x_105+1)) h180 m195)))
def W68 (pa:ByteArray) (pb pc:Sl) (pd pe pf:Int) (pg ph:Sl) (p1:Int):Prop:=
 Wn h (L0 pa pb pc pd pe pf pg ph) 27 fun h9=>
 ∃x10 x11 x12 x13 x14 x15 x16 x17,aL0 h9 (aS h 0) x10 x11 x12 x13 x14 x15 x16 x17 /\
 Fn Pz 40 #[.agg ⟨(L0 x10 x11 x12 x13 x14 x15 x16 x17)⟩] h9
 (fun v18 h20=>∃x19,iB v18 x19 /\
 sB (!x19)
 (R (.tuple ⟨[vN,vI 1]⟩) h20)
 (sB (decide (p1<0))
 (R (.tuple ⟨[vN,vI 2]⟩) h20)
 (∃x21,rS h20 (aS h 6) x21 /\
 sB (decide (p1>=(x21.n:Int)))
 (R (.tuple ⟨[vN,vI 2]⟩) h20)
 (∃x22,rI h20 (aS h 3) x22 /\
 Mk x22 x22 24/\Wn h20 (madeL Pz 24 (x22.toNat)) 24 fun h23=>
 ∃x24,rS h23 (aS h 6) x24 /\
 QI 0 h23 fun I25 x_28 h29 m27=>
 sB (decide (x_28<(x24.n:Int)))
 (NB x24.a fun b30 o31=>Ib x_28 x24.n /\
 ∃x32 x33 x34 x35 x36 x37,aL3 h29 ⟨b30,o31+x_28.toNat*6,none⟩ x32 x33 x34 x35 x36 x37 /\
 Wn h29 [vI 0,vI 0,vI 0,vI 0,vI 0,.bool false] 67 fun h38=>
 Wp h38 (aS h29 0) 6 (L3 x32 x33 x34 x35 x36 x37) fun h39=>
 ∃x40,rI h39 (aS h29 0) x40 /\
 ∃x41,rI h39 (aS h29 0) x41 /\
 (0<=(x41:Int)/\(x41:Int)<((x22.toNat):Nat)) /\
 ∃x42,rS h39 (aS h20 (0+x41.toNat*1)) x42 /\
 ∃x43 x44 x45 x46 x47 x48,aL3 h39 (aS h29 0) x43 x44 x45 x46 x47 x48 /\
 Wn h39 (L3 x43 x44 x45 x46 x47 x48) 67 fun h49=>
 Sm [(aS h20 (0+x41.toNat*1)),(aS h29 0),(aS h29 0)] h39 h49 /\
 App Pz 24 24 (vS x42) (.slice (some (aS h39 0)) 1 1) h49 fun s50 h51=>
 Sm [(aS h29 0)] h49 h51 /\
 (0<=(x40:Int)/\(x40:Int)<((x22.toNat):Nat)) /\
 Wp h51 (aS h20 (0+x40.toNat*1)) 1 [vS s50] fun h52=>
 ∃m53,m53<m27/\I25 (wrap .i64 (x_28+1)) h52 m53)
 (QI 0 h29 fun I54 x_57 h58 m56=>
 sB (decide (x_57<((x22.toNat):Int)))
 ((0<=(x_57:Int)/\(x_57:Int)<((x22.toNat):Nat)) /\
 ∃x59,rS h58 (aS h20 (0+x_57.toNat*1)) x59 /\
 Fn Pz 128 #[vS x59,.func (.func 129) #[] #[]] h58
 (fun v60 h61=>v60=.tuple ⟨[]⟩ /\
 ∃m62,m62<m56/\I54 (wrap .i64 (x_57+1)) h61 m62))
 (∃x63,rS h58 (aS h 6) x63 /\
 NB x63.a fun b64 o65=>Ib p1 x63.n /\
 ∃x66,rI h58 ⟨b64,o65+p1.toNat*6+1+1,none⟩ x66 /\
 ∃x67,rS h58 (aS h 6) x67 /\
 NB x67.a fun b68 o69=>Ib p1 x67.n /\
 ∃x70,rI h58 ⟨b68,o69+p1.toNat*6+4,none⟩ x70 /\
 0<=x66/\Wn h58 [vI 0,.int .u8 0,.int .u8 0] 245 fun h71=>
 Sm [⟨b68,o69+p1.toNat*6+4,none⟩,(aS h 6)] h58 h71 /\
 Wp h71 (aS h58 0) 3 [vI x70,.int .u8 (shlI .u8 1 x66),.int .u8 0] fun h72=>
 RunW Pz (Instr.makeMap 246 (none)) h72
 (fun v73 h75=>∃x74:Option Nat,v73=.map x74 /\
 ∃(x76 x77 x78:Int),atC h75 (aS h58 0) [vI x76,.int .u8 x77,.int .u8 x78] /\
 RunW Pz (Instr.mapUpdate 246 (.map x74) (.agg ⟨[vI x76,.int .u8 x77,.int .u8 x78]⟩) (.bool true)) h75 (fun _ h79=>
 ∃(x80 x81 x82:Int),atC h79 (aS h58 0) [vI x80,.int .u8 x81,.int .u8 x82] /\
 Wn h79 [vI x80,.int .u8 x81,.int .u8 x82,vI (-1),vI 0,vI 0,vI 0] 248 fun h83=>
 QSSI ⟨(some (aS h79 0)),1,1⟩ ⟨none,0,0⟩ 0 h83 fun I84 queue_87 all_88 head_89 h90 m86=>
 sB (decide (head_89<(queue_87.n:Int)))
 (NB queue_87.a fun b91 o92=>Ib head_89 queue_87.n /\
 ∃(x93 x94 x95:Int),atC h90 ⟨b91,o92+head_89.toNat*7,none⟩ [vI x93,.int .u8 x94,.int .u8 x95] /\
 Wn h90 [vI 0,.int .u8 0,.int .u8 0] 245 fun h96=>
 Wp h96 (aS h90 0) 3 [vI x93,.int .u8 x94,.int .u8 x95] fun h97=>
 ∃x98,rI h97 (aS h90 0) x98 /\
 (0<=(x98:Int)/\(x98:Int)<((x22.toNat):Nat)) /\
 ∃x99,rS h97 (aS h20 (0+x98.toNat*1)) x99 /\
 QSSI queue_87 all_88 0 h97 fun I100 queue_103 all_104 x_105 h106 m102=>
 sB (decide (x_105<(x99.n:Int)))
 (NB x99.a fun b107 o108=>Ib x_105 x99.n /\
 ∃x109 x110 x111 x112 x113 x114,aL3 h106 ⟨b107,o108+x_105.toNat*6,none⟩ x109 x110 x111 x112 x113 x114 /\
 Wn h106 [vI 0,vI 0,vI 0,vI 0,vI 0,.bool false] 67 fun h115=>
 Wp h115 (aS h106 0) 6 (L3 x109 x110 x111 x112 x113 x114) fun h116=>
 ∃x117,rI h116 (aS h106 4) x117 /\
 ∃x118:Int,hc h116 (aS h90 1)=some (.int .u8 x118) /\
 ∃x119:Int,hc h116 (aS h90 2)=some (.int .u8 x119) /\
 Wn h116 [vI 0,.int .u8 0,.int .u8 0] 245 fun h120=>
 Wp h120 (aS h116 0) 3 [vI x117,.int .u8 x118,.int .u8 x119] fun h121=>
 V68b h121 h90 h106 h116 all_104 x66 head_89 queue_103 x74 m102 I100 x_105)
 (∃m196,m196<m86/\I84 queue_103 all_104 (wrap .i64 (head_89+1)) h106 m196))
 (R (.tuple ⟨[vS all_88,vI 0]⟩) h90)))))))))
theorem vc68 (pa:ByteArray) (pb pc:Sl) (pd pe pf:Int) (pg ph:Sl) (p1:Int) (H:@W68 h R pa pb pc pd pe pf pg ph p1):Fn Pz 68 #[.agg ⟨(L0 pa pb pc pd pe pf pg ph)⟩,vI p1] h R:=fnJ (A:=(.s .z (.s .z (.s .z (.s (AI 44) (.s (AI 63) (.s .z (.s .z (.s .z (.s .z (.s .z (.s (.s .z (.b (.l [(14,.one (.slice)),(15,.one (.slice)),(16,.one (.int .i64))] (.s .z (.s (.b (.s .z (.s .z (.b (.l [(14,.one (.slice)),(15,.one (.slice)),(109,.one (.int .i64))] (.s .z (.s .z (.s (.b (.s .z (.s .z (.j [(15,.one (.slice))] (.b (.s .z (.c .z (.s .z (.c (.s .z (.s .z (.s .z (.c (.s .z (.s (AJ 22 23) .z)) .z)))) .z))))) .z)))) .z)))))))) .z))))) .z)))))))))))) H
end Go.VC
end
