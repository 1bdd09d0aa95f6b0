/- RjVcDc RjVcDb RjVcDd RjVcDe LexSpec QjSpec QjMem QjA QjI0 QjJ0 QjK0 QjL0 QjO0 QjQ0 QjR0 QjT0 QjCa RjA QjShelf QjSh QjStA QjG0 QjStB QjLi0. -/
import Derived.Test.YtkebghjhekoecaaGreatDoorAM02
import Derived.Test.YtkebghjhekoecaaGreatDoorAM03
import Derived.Lib.Split
import Derived.Shelf.Strings.Split
import Derived.Shelf.Bits.Mul64
import Derived.Shelf.Spec.TrailingZeros
import Derived.Shelf.SlLaysF
import Derived.Shelf.SlLaysF0
import Derived.Ground.NamesProg
import Derived.Ground.Names7Prog
import Derived.Ground.SlsfProg
import Derived.Lib.TrailingZeros
set_option linter.all false
set_option maxRecDepth 100000
set_option maxHeartbeats 8000000

section
namespace Go.VC
open Go.Proofs IntKind
variable {h:Heap} {R:Value->Heap->Prop}
def V87a (x8:Sl) (h18:Heap) (x17:ByteArray) (R:Value->Heap->Prop) (s2:Sl):Prop:=
 RunW Pz (Go.convert 65 9 (vS x8)) h18 (fun v19 h21=>∃x20:ByteArray,v19=.string x20/\sB (!((ByteArray.toList x20)==(ByteArray.toList x17))) (R (.tuple ⟨[vN,vI 5]⟩) h21) (R (.tuple ⟨[vS s2,vI 0]⟩) h21))
def W87 (p0:Sl):Prop:=
 sB (decide ((p0.n:Int)<8)) (R (.tuple ⟨[vN,vI 4]⟩) h) (Wn h [] 5 fun h1=>((0:Int)<=(0:Int)/\(0:Int)<=((wrap .i64 ((p0.n:Int)-8)):Int)/\((wrap .i64 ((p0.n:Int)-8)):Int)<=(p0.c:Nat))/\App Pz 65 65 (.slice (some (aS h 0)) 0 0) (.slice (subA p0.a (Int.toNat 0) p0.c 1) (Int.toNat (wrap .i64 ((p0.n:Int)-8))-Int.toNat 0) (p0.c-Int.toNat 0)) h1 fun s2 h3=>((0:Int)<=((wrap .i64 ((p0.n:Int)-8)):Int)/\((wrap .i64 ((p0.n:Int)-8)):Int)<=((p0.n:Nat):Int)/\((p0.n:Nat):Int)<=(p0.c:Nat))/\(Fn Pz 149 #[vS s2] h3 (fun v4 h6=>∃x5:Int,v4=.int .u64 x5/\(Fn Pz 148 #[.int .u64 x5] h6 (fun v7 h9=>∃x8,iS v7 x8/\(RunW Pz (Go.convert 65 9 (vS x8)) h9 (fun v10 h12=>∃x11:ByteArray,v10=.string x11/\RunW Pz (Go.convert 65 9 (.slice (subA p0.a (Int.toNat (wrap .i64 ((p0.n:Int)-8))) p0.c 1) (Int.toNat (p0.n:Nat)-Int.toNat (wrap .i64 ((p0.n:Int)-8))) (p0.c-Int.toNat (wrap .i64 ((p0.n:Int)-8))))) h12 (fun v13 h15=>∃x14:ByteArray,v13=.string x14/\sB (!((ByteArray.toList x11)==(ByteArray.toList x14))) (R (.tuple ⟨[vN,vI 5]⟩) h15) (R (.tuple ⟨[vS s2,vI 0]⟩) h15))))/\RunW Pz (Go.convert 65 9 (.slice (subA p0.a (Int.toNat (wrap .i64 ((p0.n:Int)-8))) p0.c 1) (Int.toNat (p0.n:Nat)-Int.toNat (wrap .i64 ((p0.n:Int)-8))) (p0.c-Int.toNat (wrap .i64 ((p0.n:Int)-8))))) h9 (fun v16 h18=>∃x17:ByteArray,v16=.string x17/\V87a x8 h18 x17 R s2)))/\RunW Pz (Go.convert 65 9 (.slice (subA p0.a (Int.toNat (wrap .i64 ((p0.n:Int)-8))) p0.c 1) (Int.toNat (p0.n:Nat)-Int.toNat (wrap .i64 ((p0.n:Int)-8))) (p0.c-Int.toNat (wrap .i64 ((p0.n:Int)-8))))) h6 (fun v22 h24=>∃x23:ByteArray,v22=.string x23/\Fn Pz 148 #[.int .u64 x5] h24 (fun v25 h27=>∃x26,iS v25 x26/\V87a x26 h27 x23 R s2))))/\RunW Pz (Go.convert 65 9 (.slice (subA p0.a (Int.toNat (wrap .i64 ((p0.n:Int)-8))) p0.c 1) (Int.toNat (p0.n:Nat)-Int.toNat (wrap .i64 ((p0.n:Int)-8))) (p0.c-Int.toNat (wrap .i64 ((p0.n:Int)-8))))) h3 (fun v31 h33=>∃x32:ByteArray,v31=.string x32/\Fn Pz 149 #[vS s2] h33 (fun v34 h36=>∃x35:Int,v34=.int .u64 x35/\Fn Pz 148 #[.int .u64 x35] h36 (fun v37 h39=>∃x38,iS v37 x38/\V87a x38 h39 x32 R s2))))
theorem vc87 (p0:Sl) (H:@W87 h R p0):Fn Pz 87 #[vS p0] h R:=fnJ (A:=.z) H
def V88b (h8:Heap) (p0:Addr) (i_7 u_5 x15 weight_6:Int) (R:Value->Heap->Prop):Prop:=
 Wp h8 ⟨p0.block,p0.off+1,none⟩ 1 [vI (wrap .i64 (i_7+1))] fun h25=>(2:Int)≠0/\sB ((Int.tmod (wrap .u64 (u_5+(wrap .u64 ((wrap .u64 (Int.tmod x15 128))*weight_6)))) 2)==1) ((2:Int)≠0/\R (vI (wrap .i64 ((wrap .i64 (0-(wrap .i64 (wrap .u64 (Int.tdiv (wrap .u64 (u_5+(wrap .u64 ((wrap .u64 (Int.tmod x15 128))*weight_6)))) 2)))))-1))) h25) ((2:Int)≠0/\R (vI (wrap .i64 (wrap .u64 (Int.tdiv (wrap .u64 (u_5+(wrap .u64 ((wrap .u64 (Int.tmod x15 128))*weight_6)))) 2)))) h25)
def V88a (h8:Heap) (p0:Addr) (i_7:Int) (m4:Nat) (I2:Int->Int->Int->Heap->Nat->Prop) (u_5 x15 weight_6:Int) (R:Value->Heap->Prop):Prop:=
 ∃x18,rS h8 p0 x18/\NB x18.a fun b19 o20=>Ib i_7 x18.n/\∃x21:Int,hc h8 ⟨b19,o20+i_7.toNat*1,none⟩=some (.int .u8 x21)/\sB (decide (x21>=128)) (∃m22,m22<m4/\I2 (wrap .u64 (u_5+(wrap .u64 ((wrap .u64 (Int.tmod x15 128))*weight_6)))) (wrap .u64 (weight_6*128)) (wrap .i64 (i_7+1)) h8 m22) (sB ((wrap .u64 (Int.tmod x15 128))==0) (∃x23,rI h8 ⟨p0.block,p0.off+1,none⟩ x23/\sB (decide (i_7>x23)) (Wp h8 ⟨p0.block,p0.off+2,none⟩ 1 [.bool true] fun h24=>R (vI 0) h24) (V88b h8 p0 i_7 u_5 x15 weight_6 R)) (V88b h8 p0 i_7 u_5 x15 weight_6 R))
def W88 (p0:Addr):Prop:=
 ∃x1,rI h ⟨p0.block,p0.off+1,none⟩ x1/\QIII 0 1 x1 h fun I2 u_5 weight_6 i_7 h8 m4=>∃x9,rS h8 p0 x9/\sB (decide (i_7<(x9.n:Int))) (∃x10,rI h8 ⟨p0.block,p0.off+1,none⟩ x10/\sB (decide (i_7<(wrap .i64 (x10+10)))) (∃x11,rB h8 ⟨p0.block,p0.off+2,none⟩ x11/\sB (!x11) (∃x12,rS h8 p0 x12/\NB x12.a fun b13 o14=>Ib i_7 x12.n/\∃x15:Int,hc h8 ⟨b13,o14+i_7.toNat*1,none⟩=some (.int .u8 x15)/\(128:Int)≠0/\∃x16,rI h8 ⟨p0.block,p0.off+1,none⟩ x16/\sB (i_7==(wrap .i64 (x16+9))) (sB (decide ((wrap .u64 (Int.tmod x15 128))>1)) (Wp h8 ⟨p0.block,p0.off+2,none⟩ 1 [.bool true] fun h17=>R (vI 0) h17) (V88a h8 p0 i_7 m4 I2 u_5 x15 weight_6 R)) (V88a h8 p0 i_7 m4 I2 u_5 x15 weight_6 R)) (Wp h8 ⟨p0.block,p0.off+2,none⟩ 1 [.bool true] fun h36=>R (vI 0) h36)) (Wp h8 ⟨p0.block,p0.off+2,none⟩ 1 [.bool true] fun h37=>R (vI 0) h37)) (Wp h8 ⟨p0.block,p0.off+2,none⟩ 1 [.bool true] fun h38=>R (vI 0) h38)
theorem vc88 (p0:Addr) (H:@W88 h R p0):Fn Pz 88 #[.pointer (some p0)] h R:=fnJ (A:=(.s .z (.s .z (.s (.s .z (.b (.l [(3,.one (.int .u64)),(4,.one (.int .u64)),(5,.one (.int .i64))] .z))) .z)))) H
def W89 (p0:Addr) (p1 p2:Int):Prop:=
 ∃x1,rI h ⟨p0.block,p0.off+1,none⟩ x1 /\
 Fn Pz 88 #[.pointer (some p0)] h
 (fun v2 h4=>∃x3,iI v2 x3 /\
 ∃x5,rB h4 ⟨p0.block,p0.off+2,none⟩ x5 /\
 sB x5
 (R (vI 0) h4)
 (sB (decide (x3<p1))
 (Fn Pz 150 #[.pointer (some p0),vI x1] h4
 (fun v6 h7=>v6=.tuple ⟨[]⟩ /\
 R (vI 0) h7))
 (sB (decide (x3>p2))
 (Fn Pz 150 #[.pointer (some p0),vI x1] h4
 (fun v8 h9=>v8=.tuple ⟨[]⟩ /\
 R (vI 0) h9))
 (R (vI x3) h4))))
theorem vc89 (p0:Addr) (p1 p2:Int) (H:@W89 h R p0 p1 p2):Fn Pz 89 #[.pointer (some p0),vI p1,vI p2] h R:=fnJ (A:=.z) H
def W90 (p0:Addr):Prop:=
 ∃x1,rB h ⟨p0.block,p0.off+2,none⟩ x1 /\
 sB x1
 (Wp h ⟨p0.block,p0.off+2,none⟩ 1 [.bool true] fun h2=>
 R (.bool false) h2)
 (∃x3,rI h ⟨p0.block,p0.off+1,none⟩ x3 /\
 ∃x4,rS h p0 x4 /\
 sB (decide (x3>=(x4.n:Int)))
 (Wp h ⟨p0.block,p0.off+2,none⟩ 1 [.bool true] fun h5=>
 R (.bool false) h5)
 (∃x6,rS h p0 x6 /\
 ∃x7,rI h ⟨p0.block,p0.off+1,none⟩ x7 /\
 NB x6.a fun b8 o9=>Ib x7 x6.n /\
 ∃x10:Int,hc h ⟨b8,o9+x7.toNat*1,none⟩=some (.int .u8 x10) /\
 sB (decide (x10>1))
 (Wp h ⟨p0.block,p0.off+2,none⟩ 1 [.bool true] fun h11=>
 R (.bool false) h11)
 (∃x12,rI h ⟨p0.block,p0.off+1,none⟩ x12 /\
 Wp h ⟨p0.block,p0.off+1,none⟩ 1 [vI (wrap .i64 (x12+1))] fun h13=>
 ∃x14,rS h13 p0 x14 /\
 ∃x15,rI h13 ⟨p0.block,p0.off+1,none⟩ x15 /\
 NB x14.a fun b16 o17=>(0<=((wrap .i64 (x15-1)):Int)/\((wrap .i64 (x15-1)):Int)<(x14.n:Nat)) /\
 ∃x18:Int,hc h13 ⟨b16,o17+Int.toNat (wrap .i64 (x15-1))*1,none⟩=some (.int .u8 x18) /\
 R (.bool (x18==1)) h13)))
theorem vc90 (p0:Addr) (H:@W90 h R p0):Fn Pz 90 #[.pointer (some p0)] h R:=fnJ (A:=.z) H
def W91 (p0:Addr):Prop:=
 ∃x1,rB h ⟨p0.block,p0.off+2,none⟩ x1 /\
 sB x1
 (R (vI 4) h)
 (∃x2,rI h ⟨p0.block,p0.off+1,none⟩ x2 /\
 ∃x3,rS h p0 x3 /\
 sB (x2 != (x3.n:Int))
 (R (vI 4) h)
 (R (vI 0) h))
theorem vc91 (p0:Addr) (H:@W91 h R p0):Fn Pz 91 #[.pointer (some p0)] h R:=fnJ (A:=.z) H
def W92 (p0:Int):Prop:=
 ∃J1:Int->Heap->Prop,
 (sB (decide (p0<0))
 (J1 (wrap .u64 ((wrap .u64 ((wrap .u64 (wrap .i64 (0-(wrap .i64 (p0+1)))))*2))+1)) h)
 (J1 (wrap .u64 ((wrap .u64 p0)*2)) h)) /\
 ∀(_:Env) (u_2:Int) (h3:Heap),J1 u_2 h3 ->
 (QIS u_2 ⟨none,0,0⟩ h3 fun I4 u_7 out_8 h9 m6=>
 sB (decide (u_7>=128))
 ((128:Int)≠0/\Wn h9 [.int .u8 (wrap .u8 ((wrap .u8 (Int.tmod u_7 128))+128))] 5 fun h10=>
 App Pz 65 65 (vS out_8) (.slice (some (aS h9 0)) 1 1) h10 fun s11 h12=>
 (128:Int)≠0/\∃m13,m13<m6/\I4 (wrap .u64 (Int.tdiv u_7 128)) s11 h12 m13)
 (Wn h9 [.int .u8 (wrap .u8 u_7)] 5 fun h14=>
 App Pz 65 65 (vS out_8) (.slice (some (aS h9 0)) 1 1) h14 fun s15 h16=>
 R (vS s15) h16))
theorem vc92 (p0:Int) (H:@W92 h R p0):Fn Pz 92 #[vI p0] h R:=fnJ (A:=(.s .z (.s .z (.j [(3,.one (.int .u64))] .z (.s .z (.s (.b (.l [(3,.one (.int .u64)),(4,.one (.slice))] .z)) .z)))))) H
def W93 (p0:Bool):Prop:=
 sB p0
 (Wn h [.int .u8 1] 5 fun h1=>
 R (.slice (some (aS h 0)) 1 1) h1)
 (Wn h [.int .u8 0] 5 fun h2=>
 R (.slice (some (aS h 0)) 1 1) h2)
theorem vc93 (p0:Bool) (H:@W93 h R p0):Fn Pz 93 #[.bool p0] h R:=fnJ (A:=.z) H
def W94 (p0:Sl):Prop:=
 Wn h [] 5 fun h1=>
 App Pz 65 65 (.slice (some (aS h 0)) 0 0) (vS p0) h1 fun s2 h3=>
 Fn Pz 149 #[vS p0] h3
 (fun v4 h6=>∃x5:Int,v4=.int .u64 x5 /\
 Fn Pz 148 #[.int .u64 x5] h6
 (fun v7 h9=>∃x8,iS v7 x8 /\
 App Pz 65 65 (vS s2) (vS x8) h9 fun s10 h11=>
 R (vS s10) h11))
theorem vc94 (p0:Sl) (H:@W94 h R p0):Fn Pz 94 #[vS p0] h R:=fnJ (A:=.z) H
def W150 (p0:Addr) (p1:Int):Prop:=
 Wp h ⟨p0.block,p0.off+1,none⟩ 1 [vI p1] fun h1=>
 Wp h1 ⟨p0.block,p0.off+2,none⟩ 1 [.bool true] fun h2=>
 R (.tuple ⟨[]⟩) h2
theorem vc150 (p0:Addr) (p1:Int) (H:@W150 h R p0 p1):Fn Pz 150 #[.pointer (some p0),vI p1] h R:=fnJ (A:=.z) H
def W83 (p0:Addr):Prop:=
 Fn Pz 141 #[.pointer (some p0),.func (.func 142) #[.pointer (some p0)] #[]] h
 (fun v1 h3=>∃x2,iI v1 x2 /\
 R (vI x2) h3)
theorem vc83 (p0:Addr) (H:@W83 h R p0):Fn Pz 83 #[.pointer (some p0)] h R:=fnJ (A:=.z) H
def W84 (p0:Addr) (p1 p2:Int):Prop:=
 Wn h [.pointer (some p0)] 132 fun h1=>
 Wn h1 [vI p1] 3 fun h2=>
 Wn h2 [vI p2] 3 fun h3=>
 ∃x4:Option Addr,hc h3 (aS h 0)=some (.pointer x4) /\
 Fn Pz 141 #[.pointer x4,.func (.func 143) #[] #[.pointer (some (aS h 0)),.pointer (some (aS h1 0)),.pointer (some (aS h2 0))]] h3
 (fun v5 h7=>∃x6,iI v5 x6 /\
 R (vI x6) h7)
theorem vc84 (p0:Addr) (p1 p2:Int) (H:@W84 h R p0 p1 p2):Fn Pz 84 #[.pointer (some p0),vI p1,vI p2] h R:=fnJ (A:=.z) H
def W85 (p0:Addr):Prop:=
 Fn Pz 145 #[.pointer (some p0),.func (.func 146) #[.pointer (some p0)] #[]] h
 (fun v1 h3=>∃x2,iB v1 x2 /\
 R (.bool x2) h3)
theorem vc85 (p0:Addr) (H:@W85 h R p0):Fn Pz 85 #[.pointer (some p0)] h R:=fnJ (A:=.z) H
def W86 (p0:Addr):Prop:=
 ∃x1,rB h ⟨p0.block,p0.off+2,none⟩ x1 /\
 sB x1
 (R (vI 4) h)
 (Fn Pz 147 #[.pointer (some p0)] h
 (fun v2 h4=>∃x3,iI v2 x3 /\
 sB (decide (x3>0))
 (R (vI 4) h4)
 (R (vI 0) h4)))
theorem vc86 (p0:Addr) (H:@W86 h R p0):Fn Pz 86 #[.pointer (some p0)] h R:=fnJ (A:=.z) H
def V141a (h8:Heap) (p0:Addr) (x2:Int) (R:Value->Heap->Prop) (x7:Int):Prop:=
 ∃x9,rB h8 ⟨p0.block,p0.off+2,none⟩ x9/\sB x9 (Wp h8 ⟨p0.block,p0.off+1,none⟩ 1 [vI x2] fun h10=>R (vI 0) h10) (R (vI x7) h8)
def W141 (p0:Addr) (p1:Value):Prop:=
 ∃x1,rB h ⟨p0.block,p0.off+2,none⟩ x1/\sB x1 (R (vI 0) h) (∃x2,rI h ⟨p0.block,p0.off+1,none⟩ x2/\match p1 with | .func (.func g3) fa4 fc5=>(bif callable Pz g3 then Fn Pz g3 (fa4 ++ #[]++fc5) h (fun v6 h8=>∃x7,iI v6 x7/\V141a h8 p0 x2 R x7) else ExtW Pz g3 (fa4 ++ #[]++fc5) h (fun v6 h8=>∃x7,iI v6 x7/\V141a h8 p0 x2 R x7)) | _=>False)
theorem vc141 (p0:Addr) (p1:Value) (H:@W141 h R p0 p1):Fn Pz 141 #[.pointer (some p0),p1] h R:=fnJ (A:=.z) H
def V142a (R:Value->Heap->Prop) (u_4 x13 x_5:Int) (h20:Heap):Prop:=
 0<=(1:Int)/\R (vI (xorI .i64 (wrap .i64 (shrI .u64 (orI .u64 u_4 (shlI .u64 (wrap .u64 (andI .u8 x13 127)) (wrap .i64 (7*x_5)))) 1)) (wrap .i64 (0-(wrap .i64 (andI .u64 (orI .u64 u_4 (shlI .u64 (wrap .u64 (andI .u8 x13 127)) (wrap .i64 (7*x_5)))) 1)))))) h20
def V142b (x_5:Int) (x8:Sl) (h9:Heap) (p0:Addr) (R:Value->Heap->Prop) (u_4 x13:Int):Prop:=
 sB (x_5==9) (NB x8.a fun b21 o22=>Ib 0 x8.n/\∃x23:Int,hc h9 ⟨b21,o22+Int.toNat 0*1,none⟩=some (.int .u8 x23)/\Wp h9 ⟨p0.block,p0.off+2,none⟩ 1 [.bool (decide (x23>1))] fun h24=>V142a R u_4 x13 x_5 h24) (Wp h9 ⟨p0.block,p0.off+2,none⟩ 1 [.bool false] fun h25=>V142a R u_4 x13 x_5 h25)
def W142 (p0:Addr):Prop:=
 QII 0 0 h fun I1 u_4 x_5 h6 m3=>sB (decide (x_5<10)) (Fn Pz 182 #[.pointer (some p0),vI 1] h6 (fun v7 h9=>∃x8,iS v7 x8/\∃x10,rB h9 ⟨p0.block,p0.off+2,none⟩ x10/\sB x10 (R (vI 0) h9) (NB x8.a fun b11 o12=>Ib 0 x8.n/\∃x13:Int,hc h9 ⟨b11,o12+Int.toNat 0*1,none⟩=some (.int .u8 x13)/\0<=(wrap .i64 (7*x_5))/\NB x8.a fun b14 o15=>Ib 0 x8.n/\∃x16:Int,hc h9 ⟨b14,o15+Int.toNat 0*1,none⟩=some (.int .u8 x16)/\sB (decide (x16<128)) (NB x8.a fun b17 o18=>Ib 0 x8.n/\∃x19:Int,hc h9 ⟨b17,o18+Int.toNat 0*1,none⟩=some (.int .u8 x19)/\sB (x19==0) (sB (decide (x_5>0)) (Wp h9 ⟨p0.block,p0.off+2,none⟩ 1 [.bool true] fun h20=>V142a R u_4 x13 x_5 h20) (V142b x_5 x8 h9 p0 R u_4 x13)) (V142b x_5 x8 h9 p0 R u_4 x13)) (∃m31,m31<m3/\I1 (orI .u64 u_4 (shlI .u64 (wrap .u64 (andI .u8 x13 127)) (wrap .i64 (7*x_5)))) (wrap .i64 (x_5+1)) h9 m31)))) (Wp h6 ⟨p0.block,p0.off+2,none⟩ 1 [.bool true] fun h32=>R (vI 0) h32)
theorem vc142 (p0:Addr) (H:@W142 h R p0):Fn Pz 142 #[.pointer (some p0)] h R:=fnJ (A:=(.s .z (.s .z (.s (.s .z (.b (.l [(3,.one (.int .u64)),(6,.one (.int .i64))] .z))) .z)))) H
def W143 (c0:Addr) (c1:Addr) (c2:Addr):Prop:=
 ∃x1:Option Addr,hc h c0=some (.pointer x1) /\
 ∃x2,rI h c1 x2 /\
 ∃x3,rI h c2 x3 /\
 Fn Pz 144 #[.pointer x1,vI x2,vI x3] h
 (fun v4 h6=>∃x5,iI v4 x5 /\
 R (vI x5) h6)
theorem vc143 (c0:Addr) (c1:Addr) (c2:Addr) (H:@W143 h R c0 c1 c2):Fn Pz 143 #[.pointer (some c0),.pointer (some c1),.pointer (some c2)] h R:=fnJ (A:=.z) H
def W144 (p0:Addr) (p1 p2:Int):Prop:=
 Fn Pz 142 #[.pointer (some p0)] h
 (fun v1 h3=>∃x2,iI v1 x2 /\
 ∃x4,rB h3 ⟨p0.block,p0.off+2,none⟩ x4 /\
 sB x4
 (Wp h3 ⟨p0.block,p0.off+2,none⟩ 1 [.bool true] fun h5=>
 R (vI x2) h5)
 (sB (decide (x2<p1))
 (Wp h3 ⟨p0.block,p0.off+2,none⟩ 1 [.bool true] fun h6=>
 R (vI x2) h6)
 (Wp h3 ⟨p0.block,p0.off+2,none⟩ 1 [.bool (decide (x2>p2))] fun h7=>
 R (vI x2) h7)))
theorem vc144 (p0:Addr) (p1 p2:Int) (H:@W144 h R p0 p1 p2):Fn Pz 144 #[.pointer (some p0),vI p1,vI p2] h R:=fnJ (A:=.z) H
def V145a (h8:Heap) (p0:Addr) (x2:Int) (R:Value->Heap->Prop) (x7:Bool):Prop:=
 ∃x9,rB h8 ⟨p0.block,p0.off+2,none⟩ x9/\sB x9 (Wp h8 ⟨p0.block,p0.off+1,none⟩ 1 [vI x2] fun h10=>R (.bool false) h10) (R (.bool x7) h8)
def W145 (p0:Addr) (p1:Value):Prop:=
 ∃x1,rB h ⟨p0.block,p0.off+2,none⟩ x1/\sB x1 (R (.bool false) h) (∃x2,rI h ⟨p0.block,p0.off+1,none⟩ x2/\match p1 with | .func (.func g3) fa4 fc5=>(bif callable Pz g3 then Fn Pz g3 (fa4 ++ #[]++fc5) h (fun v6 h8=>∃x7,iB v6 x7/\V145a h8 p0 x2 R x7) else ExtW Pz g3 (fa4 ++ #[]++fc5) h (fun v6 h8=>∃x7,iB v6 x7/\V145a h8 p0 x2 R x7)) | _=>False)
theorem vc145 (p0:Addr) (p1:Value) (H:@W145 h R p0 p1):Fn Pz 145 #[.pointer (some p0),p1] h R:=fnJ (A:=.z) H
def V146a (h5:Heap) (p0:Addr) (x2:Sl) (R:Value->Heap->Prop):Prop:=
 ∃x6,rB h5 ⟨p0.block,p0.off+2,none⟩ x6/\sB (!x6) (NB x2.a fun b7 o8=>Ib 0 x2.n/\∃x9:Int,hc h5 ⟨b7,o8+Int.toNat 0*1,none⟩=some (.int .u8 x9)/\R (.bool (x9==1)) h5) (R (.bool false) h5)
def W146 (p0:Addr):Prop:=
 Fn Pz 182 #[.pointer (some p0),vI 1] h (fun v1 h3=>∃x2,iS v1 x2/\∃x4,rB h3 ⟨p0.block,p0.off+2,none⟩ x4/\sB x4 (Wp h3 ⟨p0.block,p0.off+2,none⟩ 1 [.bool true] fun h5=>V146a h5 p0 x2 R) (NB x2.a fun b10 o11=>Ib 0 x2.n/\∃x12:Int,hc h3 ⟨b10,o11+Int.toNat 0*1,none⟩=some (.int .u8 x12)/\Wp h3 ⟨p0.block,p0.off+2,none⟩ 1 [.bool (decide (x12>1))] fun h13=>V146a h13 p0 x2 R))
theorem vc146 (p0:Addr) (H:@W146 h R p0):Fn Pz 146 #[.pointer (some p0)] h R:=fnJ (A:=.z) H
def W147 (p0:Addr):Prop:=
 ∃x1,rS h p0 x1 /\
 ∃x2,rI h ⟨p0.block,p0.off+1,none⟩ x2 /\
 R (vI (wrap .i64 ((x1.n:Int)-x2))) h
theorem vc147 (p0:Addr) (H:@W147 h R p0):Fn Pz 147 #[.pointer (some p0)] h R:=fnJ (A:=.z) H
def W182 (p0:Addr) (p1:Int):Prop:=
 ∃x1,rB h ⟨p0.block,p0.off+2,none⟩ x1 /\
 sB x1
 (Wp h ⟨p0.block,p0.off+2,none⟩ 1 [.bool true] fun h2=>
 R vN h2)
 (∃x3,rS h p0 x3 /\
 ∃x4,rI h ⟨p0.block,p0.off+1,none⟩ x4 /\
 sB (decide (p1>(wrap .i64 ((x3.n:Int)-x4))))
 (Wp h ⟨p0.block,p0.off+2,none⟩ 1 [.bool true] fun h5=>
 R vN h5)
 (∃x6,rI h ⟨p0.block,p0.off+1,none⟩ x6 /\
 Wp h ⟨p0.block,p0.off+1,none⟩ 1 [vI (wrap .i64 (x6+p1))] fun h7=>
 ∃x8,rS h7 p0 x8 /\
 ∃x9,rI h7 ⟨p0.block,p0.off+1,none⟩ x9 /\
 ∃x10,rI h7 ⟨p0.block,p0.off+1,none⟩ x10 /\
 ((0:Int)<=((wrap .i64 (x9-p1)):Int)/\((wrap .i64 (x9-p1)):Int)<=(x10:Int)/\(x10:Int)<=(x8.c:Nat)) /\
 R (.slice (subA x8.a (Int.toNat (wrap .i64 (x9-p1))) x8.c 1) (x10.toNat-Int.toNat (wrap .i64 (x9-p1))) (x8.c-Int.toNat (wrap .i64 (x9-p1)))) h7))
theorem vc182 (p0:Addr) (p1:Int) (H:@W182 h R p0 p1):Fn Pz 182 #[.pointer (some p0),vI p1] h R:=fnJ (A:=.z) H
def W42 (pa pb pc:Int) (pd pe pf:Sl):Prop:=
 Wn h (L0 pa pb pc pd pe pf) 26 fun h7=>
 ∃x8 x9 x10 x11 x12 x13,aL0 h7 (aS h 0) x8 x9 x10 x11 x12 x13 /\
 Fn Pz 23 #[.agg ⟨(L0 x8 x9 x10 x11 x12 x13)⟩] h7
 (fun v14 h16=>∃x15,iB v14 x15 /\
 sB (!x15)
 (R vN h16)
 (∃x17,rI h16 (aS h 0) x17 /\
 ∃x18,rI h16 (aS h 1) x18 /\
 ∃x19,rI h16 (aS h 2) x19 /\
 Wn h16 [.int .u8 70,.int .u8 82,.int .u8 68,.int .u8 77,.int .u8 49] 5 fun h20=>
 Sm [(aS h 2),(aS h 1),(aS h 0)] h16 h20 /\
 RunW Pz (Go.convert 65 65 (.slice (some (aS h16 0)) 5 5)) h20
 (fun v21 h23=>∃x22,iS v21 x22 /\
 Sm [(aS h 2),(aS h 1),(aS h 0)] h20 h23 /\
 Fn Pz 78 #[vS x22,vI x17] h23
 (fun v24 h26=>∃x25,iS v24 x25 /\
 Sm [(aS h 2),(aS h 1)] h23 h26 /\
 Fn Pz 78 #[vS x25,vI x18] h26
 (fun v27 h29=>∃x28,iS v27 x28 /\
 Sm [(aS h 2)] h26 h29 /\
 Fn Pz 78 #[vS x28,vI x19] h29
 (fun v30 h32=>∃x31,iS v30 x31 /\
 ∃x33,rS h32 (aS h 3) x33 /\
 QSI x31 0 h32 fun I34 b_37 x_38 h39 m36=>
 sB (decide (x_38<(x33.n:Int)))
 (NB x33.a fun b40 o41=>Ib x_38 x33.n /\
 ∃x42,rB h39 ⟨b40,o41+x_38.toNat*1,none⟩ x42 /\
 Fn Pz 79 #[vS b_37,.bool x42] h39
 (fun v43 h45=>∃x44,iS v43 x44 /\
 ∃m46,m46<m36/\I34 x44 (wrap .i64 (x_38+1)) h45 m46))
 (∃x47,rS h39 (aS h 4) x47 /\
 Fn Pz 78 #[vS b_37,vI (x47.n:Int)] h39
 (fun v48 h50=>∃x49,iS v48 x49 /\
 ∃x51,rS h50 (aS h 4) x51 /\
 QSI x49 0 h50 fun I52 b_55 x_56 h57 m54=>
 sB (decide (x_56<(x51.n:Int)))
 (NB x51.a fun b58 o59=>Ib x_56 x51.n /\
 ∃x60 x61 x62 x63 x64 x65,aL1 h57 ⟨b58,o59+x_56.toNat*6,none⟩ x60 x61 x62 x63 x64 x65 /\
 Wn h57 [vI 0,.bool false,vI 0,vI 0,vI 0,.bool false] 81 fun h66=>
 Wp h66 (aS h57 0) 6 (L1 x60 x61 x62 x63 x64 x65) fun h67=>
 ∃x68,rI h67 (aS h57 0) x68 /\
 ∃x69,rB h67 (aS h57 1) x69 /\
 ∃x70,rI h67 (aS h57 2) x70 /\
 ∃x71,rI h67 (aS h57 3) x71 /\
 Fn Pz 78 #[vS b_55,vI x68] h67
 (fun v72 h74=>∃x73,iS v72 x73 /\
 Sm [(aS h57 3),(aS h57 2),(aS h57 1)] h67 h74 /\
 Fn Pz 79 #[vS x73,.bool x69] h74
 (fun v75 h77=>∃x76,iS v75 x76 /\
 Sm [(aS h57 3),(aS h57 2)] h74 h77 /\
 Fn Pz 78 #[vS x76,vI x70] h77
 (fun v78 h80=>∃x79,iS v78 x79 /\
 Sm [(aS h57 3)] h77 h80 /\
 Fn Pz 78 #[vS x79,vI x71] h80
 (fun v81 h83=>∃x82,iS v81 x82 /\
 ∃x84,rI h83 (aS h57 4) x84 /\
 ∃x85,rB h83 (aS h57 5) x85 /\
 Fn Pz 78 #[vS x82,vI x84] h83
 (fun v86 h88=>∃x87,iS v86 x87 /\
 Sm [(aS h57 5)] h83 h88 /\
 Fn Pz 79 #[vS x87,.bool x85] h88
 (fun v89 h91=>∃x90,iS v89 x90 /\
 ∃m92,m92<m54/\I52 x90 (wrap .i64 (x_56+1)) h91 m92)))))))
 (∃x93,rS h57 (aS h 5) x93 /\
 Fn Pz 78 #[vS b_55,vI (x93.n:Int)] h57
 (fun v94 h96=>∃x95,iS v94 x95 /\
 ∃x97,rS h96 (aS h 5) x97 /\
 QSI x95 0 h96 fun I98 b_101 x_102 h103 m100=>
 sB (decide (x_102<(x97.n:Int)))
 (NB x97.a fun b104 o105=>Ib x_102 x97.n /\
 ∃x106 x107 x108,aL4 h103 ⟨b104,o105+x_102.toNat*3,none⟩ x106 x107 x108 /\
 Wn h103 [vI 0,vI 0,vI 0] 44 fun h109=>
 Wp h109 (aS h103 0) 3 (L4 x106 x107 x108) fun h110=>
 ∃x111,rI h110 (aS h103 0) x111 /\
 ∃x112,rI h110 (aS h103 1) x112 /\
 ∃x113,rI h110 (aS h103 2) x113 /\
 Fn Pz 78 #[vS b_101,vI x111] h110
 (fun v114 h116=>∃x115,iS v114 x115 /\
 Sm [(aS h103 2),(aS h103 1)] h110 h116 /\
 Fn Pz 78 #[vS x115,vI x112] h116
 (fun v117 h119=>∃x118,iS v117 x118 /\
 Sm [(aS h103 2)] h116 h119 /\
 Fn Pz 78 #[vS x118,vI x113] h119
 (fun v120 h122=>∃x121,iS v120 x121 /\
 ∃m123,m123<m100/\I98 x121 (wrap .i64 (x_102+1)) h122 m123))))
 (Fn Pz 80 #[vS b_101] h103
 (fun v124 h126=>∃x125,iS v124 x125 /\
 R (vS x125) h126))))))))))))
theorem vc42 (pa pb pc:Int) (pd pe pf:Sl) (H:@W42 h R pa pb pc pd pe pf):Fn Pz 42 #[.agg ⟨(L0 pa pb pc pd pe pf)⟩] h R:=fnJ (A:=(.s .z (.s .z (.s .z (.s (AJ 3 27) (.s .z (.s (AJ 3 43) (.s .z (.s (AJ 3 76) .z))))))))) H
def V43a (h1 h:Heap) (R:Value->Heap->Prop):Prop:=
 Wp h1 (aS h 0) 6 [vI 0,vI 0,vI 0,vN,vN,vN] fun h2=>∃x3 x4 x5 x6 x7 x8,aL0 h2 (aS h 0) x3 x4 x5 x6 x7 x8/\R (.tuple ⟨[.agg ⟨(L0 x3 x4 x5 x6 x7 x8)⟩,vI 4]⟩) h2
def W43 (p0:Sl):Prop:=
 Wn h [vI 0,vI 0,vI 0,vN,vN,vN] 26 fun h1=>sB (decide ((p0.n:Int)<13)) (V43a h1 h R) (((0:Int)<=(0:Int)/\(0:Int)<=(5:Int)/\(5:Int)<=(p0.c:Nat))/\RunW Pz (Go.convert 65 9 (.slice (subA p0.a (Int.toNat 0) p0.c 1) (Int.toNat 5-Int.toNat 0) (p0.c-Int.toNat 0))) h1 (fun v9 h11=>∃x10:ByteArray,v9=.string x10/\sB (!((ByteArray.toList x10)==(ByteArray.toList ⟨#[70,82,68,77,49]⟩))) (V43a h11 h R) (Fn Pz 81 #[vS p0] h11 (fun v19 h22=>∃(x20:Sl) (x21:Int),v19=.tuple ⟨[vS x20,vI x21]⟩/\sB (x21 != 0) (Wp h22 (aS h 0) 6 [vI 0,vI 0,vI 0,vN,vN,vN] fun h23=>∃x24 x25 x26 x27 x28 x29,aL0 h23 (aS h 0) x24 x25 x26 x27 x28 x29/\R (.tuple ⟨[.agg ⟨(L0 x24 x25 x26 x27 x28 x29)⟩,vI x21]⟩) h23) (((0:Int)<=(5:Int)/\(5:Int)<=((x20.n:Nat):Int)/\((x20.n:Nat):Int)<=(x20.c:Nat))/\Fn Pz 82 #[.slice (subA x20.a (Int.toNat 5) x20.c 1) (Int.toNat (x20.n:Nat)-Int.toNat 5) (x20.c-Int.toNat 5)] h22 (fun v30 h32=>∃x31:Option Addr,v30=.pointer x31/\Fn Pz 83 #[.pointer x31] h32 (fun v33 h35=>∃x34,iI v33 x34/\Fn Pz 84 #[.pointer x31,vI 1,vI 200] h35 (fun v36 h38=>∃x37,iI v36 x37/\Fn Pz 83 #[.pointer x31] h38 (fun v39 h41=>∃x40,iI v39 x40/\Wn h41 [vI 0,vI 0,vI 0,vN,vN,vN] 26 fun h42=>Wp h42 (aS h41 0) 6 [vI x34,vI x37,vI x40,vN,vN,vN] fun h43=>∃x44,rI h43 (aS h41 1) x44/\QI 0 h43 fun I45 x_48 h49 m47=>sB (decide (x_48<x44)) (∃x50,rS h49 (aS h41 3) x50/\Fn Pz 85 #[.pointer x31] h49 (fun v51 h53=>∃x52,iB v51 x52/\Sm [(aS h41 3)] h49 h53/\Wn h53 [.bool x52] 4 fun h54=>Sm [(aS h41 3)] h53 h54/\App Pz 22 22 (vS x50) (.slice (some (aS h53 0)) 1 1) h54 fun s55 h56=>Wp h56 (aS h41 3) 1 [vS s55] fun h57=>∃m58,m58<m47/\I45 (wrap .i64 (x_48+1)) h57 m58)) (Fn Pz 84 #[.pointer x31,vI 0,vI 400] h49 (fun v59 h61=>∃x60,iI v59 x60/\QI 0 h61 fun I62 x_65 h66 m64=>sB (decide (x_65<x60)) (∃x67,rS h66 (aS h41 4) x67/\Fn Pz 83 #[.pointer x31] h66 (fun v68 h70=>∃x69,iI v68 x69/\Sm [(aS h41 4)] h66 h70/\Fn Pz 85 #[.pointer x31] h70 (fun v71 h73=>∃x72,iB v71 x72/\Sm [(aS h41 4)] h70 h73/\Fn Pz 83 #[.pointer x31] h73 (fun v74 h76=>∃x75,iI v74 x75/\Sm [(aS h41 4)] h73 h76/\Fn Pz 83 #[.pointer x31] h76 (fun v77 h79=>∃x78,iI v77 x78/\Sm [(aS h41 4)] h76 h79/\Fn Pz 83 #[.pointer x31] h79 (fun v80 h82=>∃x81,iI v80 x81/\Sm [(aS h41 4)] h79 h82/\Fn Pz 85 #[.pointer x31] h82 (fun v83 h85=>∃x84,iB v83 x84/\Sm [(aS h41 4)] h82 h85/\Wn h85 (L1 x69 x72 x75 x78 x81 x84) 81 fun h86=>Sm [(aS h41 4)] h85 h86/\App Pz 23 23 (vS x67) (.slice (some (aS h85 0)) 1 1) h86 fun s87 h88=>Wp h88 (aS h41 4) 1 [vS s87] fun h89=>∃m90,m90<m64/\I62 (wrap .i64 (x_65+1)) h89 m90))))))) (Fn Pz 84 #[.pointer x31,vI 0,vI 200] h66 (fun v91 h93=>∃x92,iI v91 x92/\QI 0 h93 fun I94 x_97 h98 m96=>sB (decide (x_97<x92)) (∃x99,rS h98 (aS h41 5) x99/\Fn Pz 83 #[.pointer x31] h98 (fun v100 h102=>∃x101,iI v100 x101/\Sm [(aS h41 5)] h98 h102/\Fn Pz 83 #[.pointer x31] h102 (fun v103 h105=>∃x104,iI v103 x104/\Sm [(aS h41 5)] h102 h105/\Fn Pz 83 #[.pointer x31] h105 (fun v106 h108=>∃x107,iI v106 x107/\Sm [(aS h41 5)] h105 h108/\Wn h108 (L4 x101 x104 x107) 44 fun h109=>Sm [(aS h41 5)] h108 h109/\App Pz 24 24 (vS x99) (.slice (some (aS h108 0)) 1 1) h109 fun s110 h111=>Wp h111 (aS h41 5) 1 [vS s110] fun h112=>∃m113,m113<m96/\I94 (wrap .i64 (x_97+1)) h112 m113)))) (Fn Pz 86 #[.pointer x31] h98 (fun v114 h116=>∃x115,iI v114 x115/\sB (x115 != 0) (V43a h116 h R) (∃x124 x125 x126 x127 x128 x129,aL0 h116 (aS h41 0) x124 x125 x126 x127 x128 x129/\Fn Pz 23 #[.agg ⟨(L0 x124 x125 x126 x127 x128 x129)⟩] h116 (fun v130 h132=>∃x131,iB v130 x131/\sB (!x131) (V43a h132 h R) (∃x140 x141 x142 x143 x144 x145,aL0 h132 (aS h41 0) x140 x141 x142 x143 x144 x145/\Wp h132 (aS h 0) 6 (L0 x140 x141 x142 x143 x144 x145) fun h146=>∃x147 x148 x149 x150 x151 x152,aL0 h146 (aS h 0) x147 x148 x149 x150 x151 x152/\R (.tuple ⟨[.agg ⟨(L0 x147 x148 x149 x150 x151 x152)⟩,vI 0]⟩) h146))))))))))))))))))
theorem vc43 (p0:Sl) (H:@W43 h R p0):Fn Pz 43 #[vS p0] h R:=fnJ (A:=(.s .z (.s .z (.s .z (.s .z (.s .z (.s .z (.s (AI 39) (.s (AI 51) (.s (AI 74) .z)))))))))) H
def V44a (h1 h:Heap) (R:Value->Heap->Prop):Prop:=
 Wp h1 (aS h 0) 6 [vI 0,vI 0,vI 0,vN,vN,vN] fun h2=>∃x3 x4 x5 x6 x7 x8,aL0 h2 (aS h 0) x3 x4 x5 x6 x7 x8/\R (.tuple ⟨[.agg ⟨(L0 x3 x4 x5 x6 x7 x8)⟩,vI 4]⟩) h2
def W44 (p0:Sl):Prop:=
 Wn h [vI 0,vI 0,vI 0,vN,vN,vN] 26 fun h1=>sB (decide ((p0.n:Int)<13)) (V44a h1 h R) (((0:Int)<=(0:Int)/\(0:Int)<=(5:Int)/\(5:Int)<=(p0.c:Nat))/\RunW Pz (Go.convert 65 9 (.slice (subA p0.a (Int.toNat 0) p0.c 1) (Int.toNat 5-Int.toNat 0) (p0.c-Int.toNat 0))) h1 (fun v9 h11=>∃x10:ByteArray,v9=.string x10/\sB (!((ByteArray.toList x10)==(ByteArray.toList ⟨#[70,82,68,77,49]⟩))) (V44a h11 h R) (Fn Pz 87 #[vS p0] h11 (fun v19 h22=>∃(x20:Sl) (x21:Int),v19=.tuple ⟨[vS x20,vI x21]⟩/\sB (x21 != 0) (Wp h22 (aS h 0) 6 [vI 0,vI 0,vI 0,vN,vN,vN] fun h23=>∃x24 x25 x26 x27 x28 x29,aL0 h23 (aS h 0) x24 x25 x26 x27 x28 x29/\R (.tuple ⟨[.agg ⟨(L0 x24 x25 x26 x27 x28 x29)⟩,vI 5]⟩) h23) (((0:Int)<=(5:Int)/\(5:Int)<=((x20.n:Nat):Int)/\((x20.n:Nat):Int)<=(x20.c:Nat))/\Wn h22 [.slice (subA x20.a (Int.toNat 5) x20.c 1) (Int.toNat (x20.n:Nat)-Int.toNat 5) (x20.c-Int.toNat 5),vI 0,.bool false] 139 fun h30=>Fn Pz 88 #[.pointer (some (aS h22 0))] h30 (fun v31 h33=>∃x32,iI v31 x32/\Wn h33 [vI 0,vI 0,vI 0,vN,vN,vN] 26 fun h34=>Wp h34 (aS h33 0) 6 [vI x32,vI 0,vI 0,vN,vN,vN] fun h35=>Fn Pz 89 #[.pointer (some (aS h22 0)),vI 1,vI 200] h35 (fun v36 h38=>∃x37,iI v36 x37/\Wp h38 (aS h33 1) 1 [vI x37] fun h39=>Fn Pz 88 #[.pointer (some (aS h22 0))] h39 (fun v40 h42=>∃x41,iI v40 x41/\Wp h42 (aS h33 2) 1 [vI x41] fun h43=>QI 0 h43 fun I44 i_47 h48 m46=>∃x49,rI h48 (aS h33 1) x49/\sB (decide (i_47<x49)) (∃x50,rS h48 (aS h33 3) x50/\Fn Pz 90 #[.pointer (some (aS h22 0))] h48 (fun v51 h53=>∃x52,iB v51 x52/\Sm [(aS h33 3)] h48 h53/\Wn h53 [.bool x52] 4 fun h54=>Sm [(aS h33 3)] h53 h54/\App Pz 22 22 (vS x50) (.slice (some (aS h53 0)) 1 1) h54 fun s55 h56=>Wp h56 (aS h33 3) 1 [vS s55] fun h57=>∃m58,m58<m46/\I44 (wrap .i64 (i_47+1)) h57 m58)) (Fn Pz 89 #[.pointer (some (aS h22 0)),vI 0,vI 400] h48 (fun v59 h61=>∃x60,iI v59 x60/\QI 0 h61 fun I62 i_65 h66 m64=>sB (decide (i_65<x60)) (Fn Pz 88 #[.pointer (some (aS h22 0))] h66 (fun v67 h69=>∃x68,iI v67 x68/\Wn h69 [vI 0,.bool false,vI 0,vI 0,vI 0,.bool false] 81 fun h70=>Wp h70 (aS h69 0) 6 [vI x68,.bool false,vI 0,vI 0,vI 0,.bool false] fun h71=>Fn Pz 90 #[.pointer (some (aS h22 0))] h71 (fun v72 h74=>∃x73,iB v72 x73/\Wp h74 (aS h69 1) 1 [.bool x73] fun h75=>Fn Pz 88 #[.pointer (some (aS h22 0))] h75 (fun v76 h78=>∃x77,iI v76 x77/\Wp h78 (aS h69 2) 1 [vI x77] fun h79=>Fn Pz 88 #[.pointer (some (aS h22 0))] h79 (fun v80 h82=>∃x81,iI v80 x81/\Wp h82 (aS h69 3) 1 [vI x81] fun h83=>Fn Pz 88 #[.pointer (some (aS h22 0))] h83 (fun v84 h86=>∃x85,iI v84 x85/\Wp h86 (aS h69 4) 1 [vI x85] fun h87=>Fn Pz 90 #[.pointer (some (aS h22 0))] h87 (fun v88 h90=>∃x89,iB v88 x89/\Wp h90 (aS h69 5) 1 [.bool x89] fun h91=>∃x92,rS h91 (aS h33 4) x92/\∃x93 x94 x95 x96 x97 x98,aL1 h91 (aS h69 0) x93 x94 x95 x96 x97 x98/\Wn h91 (L1 x93 x94 x95 x96 x97 x98) 81 fun h99=>App Pz 23 23 (vS x92) (.slice (some (aS h91 0)) 1 1) h99 fun s100 h101=>Wp h101 (aS h33 4) 1 [vS s100] fun h102=>∃m103,m103<m64/\I62 (wrap .i64 (i_65+1)) h102 m103))))))) (Fn Pz 89 #[.pointer (some (aS h22 0)),vI 0,vI 200] h66 (fun v104 h106=>∃x105,iI v104 x105/\QI 0 h106 fun I107 i_110 h111 m109=>sB (decide (i_110<x105)) (Fn Pz 88 #[.pointer (some (aS h22 0))] h111 (fun v112 h114=>∃x113,iI v112 x113/\Wn h114 [vI 0,vI 0,vI 0] 44 fun h115=>Wp h115 (aS h114 0) 3 [vI x113,vI 0,vI 0] fun h116=>Fn Pz 88 #[.pointer (some (aS h22 0))] h116 (fun v117 h119=>∃x118,iI v117 x118/\Wp h119 (aS h114 1) 1 [vI x118] fun h120=>Fn Pz 88 #[.pointer (some (aS h22 0))] h120 (fun v121 h123=>∃x122,iI v121 x122/\Wp h123 (aS h114 2) 1 [vI x122] fun h124=>∃x125,rS h124 (aS h33 5) x125/\∃x126 x127 x128,aL4 h124 (aS h114 0) x126 x127 x128/\Wn h124 (L4 x126 x127 x128) 44 fun h129=>App Pz 24 24 (vS x125) (.slice (some (aS h124 0)) 1 1) h129 fun s130 h131=>Wp h131 (aS h33 5) 1 [vS s130] fun h132=>∃m133,m133<m109/\I107 (wrap .i64 (i_110+1)) h132 m133)))) (Fn Pz 91 #[.pointer (some (aS h22 0))] h111 (fun v134 h136=>∃x135,iI v134 x135/\sB (x135 != 0) (V44a h136 h R) (∃x144 x145 x146 x147 x148 x149,aL0 h136 (aS h33 0) x144 x145 x146 x147 x148 x149/\Fn Pz 24 #[.agg ⟨(L0 x144 x145 x146 x147 x148 x149)⟩] h136 (fun v150 h152=>∃x151,iB v150 x151/\sB (!x151) (V44a h152 h R) (∃x160 x161 x162 x163 x164 x165,aL0 h152 (aS h33 0) x160 x161 x162 x163 x164 x165/\Wp h152 (aS h 0) 6 (L0 x160 x161 x162 x163 x164 x165) fun h166=>∃x167 x168 x169 x170 x171 x172,aL0 h166 (aS h 0) x167 x168 x169 x170 x171 x172/\R (.tuple ⟨[.agg ⟨(L0 x167 x168 x169 x170 x171 x172)⟩,vI 0]⟩) h166)))))))))))))))))
theorem vc44 (p0:Sl) (H:@W44 h R p0):Fn Pz 44 #[vS p0] h R:=fnJ (A:=(.s .z (.s .z (.s .z (.s .z (.s .z (.s .z (.s .z (.s .z (.s (AI 8) (.s .z (.s (AI 10) (.s .z (.s (AI 12) .z)))))))))))))) H
def V45a (x49:Bool) (h44:Heap) (b_42:Sl) (m41:Nat) (I39:Sl->Int->Heap->Nat->Prop) (i_43:Int):Prop:=
 Fn Pz 93 #[.bool x49] h44 (fun v50 h52=>∃x51,iS v50 x51/\App Pz 65 65 (vS b_42) (vS x51) h52 fun s53 h54=>∃m55,m55<m41/\I39 s53 (wrap .i64 (i_43+1)) h54 m55)
def W45 (pa pb pc:Int) (pd pe pf:Sl):Prop:=
 Wn h (L0 pa pb pc pd pe pf) 26 fun h7=>∃x8 x9 x10 x11 x12 x13,aL0 h7 (aS h 0) x8 x9 x10 x11 x12 x13/\Fn Pz 24 #[.agg ⟨(L0 x8 x9 x10 x11 x12 x13)⟩] h7 (fun v14 h16=>∃x15,iB v14 x15/\sB (!x15) (R vN h16) (Wn h16 [.int .u8 70,.int .u8 82,.int .u8 68,.int .u8 77,.int .u8 49] 5 fun h17=>RunW Pz (Go.convert 65 65 (.slice (some (aS h16 0)) 5 5)) h17 (fun v18 h20=>∃x19,iS v18 x19/\∃x21,rI h20 (aS h 0) x21/\Fn Pz 92 #[vI x21] h20 (fun v22 h24=>∃x23,iS v22 x23/\App Pz 65 65 (vS x19) (vS x23) h24 fun s25 h26=>∃x27,rI h26 (aS h 1) x27/\Fn Pz 92 #[vI x27] h26 (fun v28 h30=>∃x29,iS v28 x29/\App Pz 65 65 (vS s25) (vS x29) h30 fun s31 h32=>∃x33,rI h32 (aS h 2) x33/\Fn Pz 92 #[vI x33] h32 (fun v34 h36=>∃x35,iS v34 x35/\App Pz 65 65 (vS s31) (vS x35) h36 fun s37 h38=>QSI s37 0 h38 fun I39 b_42 i_43 h44 m41=>∃x45,rS h44 (aS h 3) x45/\sB (decide (i_43<(x45.n:Int))) (∃x46,rS h44 (aS h 3) x46/\NB x46.a fun b47 o48=>Ib i_43 x46.n/\∃x49,rB h44 ⟨b47,o48+i_43.toNat*1,none⟩ x49/\V45a x49 h44 b_42 m41 I39 i_43) (∃x56,rS h44 (aS h 4) x56/\Fn Pz 92 #[vI (x56.n:Int)] h44 (fun v57 h59=>∃x58,iS v57 x58/\App Pz 65 65 (vS b_42) (vS x58) h59 fun s60 h61=>QSI s60 0 h61 fun I62 b_65 i_66 h67 m64=>∃x68,rS h67 (aS h 4) x68/\sB (decide (i_66<(x68.n:Int))) (∃x69,rS h67 (aS h 4) x69/\NB x69.a fun b70 o71=>Ib i_66 x69.n/\∃x72 x73 x74 x75 x76 x77,aL1 h67 ⟨b70,o71+i_66.toNat*6,none⟩ x72 x73 x74 x75 x76 x77/\Wn h67 [vI 0,.bool false,vI 0,vI 0,vI 0,.bool false] 81 fun h78=>Wp h78 (aS h67 0) 6 (L1 x72 x73 x74 x75 x76 x77) fun h79=>∃x80,rI h79 (aS h67 0) x80/\Fn Pz 92 #[vI x80] h79 (fun v81 h83=>∃x82,iS v81 x82/\App Pz 65 65 (vS b_65) (vS x82) h83 fun s84 h85=>∃x86,rB h85 (aS h67 1) x86/\Fn Pz 93 #[.bool x86] h85 (fun v87 h89=>∃x88,iS v87 x88/\App Pz 65 65 (vS s84) (vS x88) h89 fun s90 h91=>∃x92,rI h91 (aS h67 2) x92/\Fn Pz 92 #[vI x92] h91 (fun v93 h95=>∃x94,iS v93 x94/\App Pz 65 65 (vS s90) (vS x94) h95 fun s96 h97=>∃x98,rI h97 (aS h67 3) x98/\Fn Pz 92 #[vI x98] h97 (fun v99 h101=>∃x100,iS v99 x100/\App Pz 65 65 (vS s96) (vS x100) h101 fun s102 h103=>∃x104,rI h103 (aS h67 4) x104/\Fn Pz 92 #[vI x104] h103 (fun v105 h107=>∃x106,iS v105 x106/\App Pz 65 65 (vS s102) (vS x106) h107 fun s108 h109=>∃x110,rB h109 (aS h67 5) x110/\V45a x110 h109 s108 m64 I62 i_66)))))) (∃x117,rS h67 (aS h 5) x117/\Fn Pz 92 #[vI (x117.n:Int)] h67 (fun v118 h120=>∃x119,iS v118 x119/\App Pz 65 65 (vS b_65) (vS x119) h120 fun s121 h122=>QSI s121 0 h122 fun I123 b_126 i_127 h128 m125=>∃x129,rS h128 (aS h 5) x129/\sB (decide (i_127<(x129.n:Int))) (∃x130,rS h128 (aS h 5) x130/\NB x130.a fun b131 o132=>Ib i_127 x130.n/\∃x133,rI h128 ⟨b131,o132+i_127.toNat*3,none⟩ x133/\Fn Pz 92 #[vI x133] h128 (fun v134 h136=>∃x135,iS v134 x135/\App Pz 65 65 (vS b_126) (vS x135) h136 fun s137 h138=>∃x139,rS h138 (aS h 5) x139/\NB x139.a fun b140 o141=>Ib i_127 x139.n/\∃x142,rI h138 ⟨b140,o141+i_127.toNat*3+1,none⟩ x142/\Fn Pz 92 #[vI x142] h138 (fun v143 h145=>∃x144,iS v143 x144/\App Pz 65 65 (vS s137) (vS x144) h145 fun s146 h147=>∃x148,rS h147 (aS h 5) x148/\NB x148.a fun b149 o150=>Ib i_127 x148.n/\∃x151,rI h147 ⟨b149,o150+i_127.toNat*3+2,none⟩ x151/\Fn Pz 92 #[vI x151] h147 (fun v152 h154=>∃x153,iS v152 x153/\App Pz 65 65 (vS s146) (vS x153) h154 fun s155 h156=>∃m157,m157<m125/\I123 s155 (wrap .i64 (i_127+1)) h156 m157)))) (Fn Pz 94 #[vS b_126] h128 (fun v158 h160=>∃x159,iS v158 x159/\R (vS x159) h160))))))))))))
theorem vc45 (pa pb pc:Int) (pd pe pf:Sl) (H:@W45 h R pa pb pc pd pe pf):Fn Pz 45 #[.agg ⟨(L0 pa pb pc pd pe pf)⟩] h R:=fnJ (A:=(.s .z (.s .z (.s .z (.s .z (.s .z (.s (AJ 3 4) (.s .z (.s (AJ 3 5) (.s .z (.s (AJ 3 7) .z))))))))))) H
def V11c (x115:Int) (h138 h116 h:Heap) (R:Value->Heap->Prop):Prop:=
 sB (x115==0) (∃x139 x140 x141 x142 x143 x144,aL0 h138 (aS h116 0) x139 x140 x141 x142 x143 x144/\∃x145 x146 x147 x148 x149 x150,aL0 h138 (aS h 0) x145 x146 x147 x148 x149 x150/\Fn Pz 17 #[.agg ⟨(L0 x139 x140 x141 x142 x143 x144)⟩,.agg ⟨(L0 x145 x146 x147 x148 x149 x150)⟩] h138 (fun v151 h153=>∃x152,iB v151 x152/\R (.bool x152) h153)) (R (.bool false) h138)
def V11a (x30:Sl) (h98 h:Heap) (R:Value->Heap->Prop) (h9:Heap):Prop:=
 sB ((x30.n:Int)==0) (∃x99 x100 x101 x102 x103 x104,aL0 h98 (aS h 0) x99 x100 x101 x102 x103 x104/\Fn Pz 24 #[.agg ⟨(L0 x99 x100 x101 x102 x103 x104)⟩] h98 (fun v105 h107=>∃x106,iB v105 x106/\R (.bool (!x106)) h107)) (Fn Pz 43 #[vS x30] h98 (fun v108 h116=>∃(x109 x110 x111:Int) (x112 x113 x114:Sl) (x115:Int),v108=.tuple ⟨[.agg ⟨(L0 x109 x110 x111 x112 x113 x114)⟩,vI x115]⟩/\Wn h116 [vI 0,vI 0,vI 0,vN,vN,vN] 26 fun h117=>Wp h117 (aS h116 0) 6 (L0 x109 x110 x111 x112 x113 x114) fun h118=>Ib 0 2/\∃x119:Int,hc h118 (aS h9 (0+Int.toNat 0*1))=some (.int .u16 x119)/\(x30.n:Int)≠0/\Ib 1 2/\∃x120:Int,hc h118 (aS h9 (0+Int.toNat 1*1))=some (.int .u16 x120)/\sB ((wrap .u8 x120) != 0) (NB x30.a fun b121 o122=>(0<=((Int.tmod (wrap .i64 x119) (x30.n:Int)):Int)/\((Int.tmod (wrap .i64 x119) (x30.n:Int)):Int)<(x30.n:Nat))/\∃x123:Int,hc h118 ⟨b121,o122+Int.toNat (Int.tmod (wrap .i64 x119) (x30.n:Int))*1,none⟩=some (.int .u8 x123)/\Ib 1 2/\∃x124:Int,hc h118 (aS h9 (0+Int.toNat 1*1))=some (.int .u16 x124)/\NB x30.a fun b125 o126=>(0<=((Int.tmod (wrap .i64 x119) (x30.n:Int)):Int)/\((Int.tmod (wrap .i64 x119) (x30.n:Int)):Int)<(x30.n:Nat))/\Wp h118 ⟨b125,o126+Int.toNat (Int.tmod (wrap .i64 x119) (x30.n:Int))*1,none⟩ 1 [.int .u8 (xorI .u8 x123 (wrap .u8 x124))] fun h127=>Fn Pz 43 #[vS x30] h127 (fun v128 h136=>∃(x129 x130 x131:Int) (x132 x133 x134:Sl) (x135:Int),v128=.tuple ⟨[.agg ⟨(L0 x129 x130 x131 x132 x133 x134)⟩,vI x135]⟩/\Wn h136 [vI 0,vI 0,vI 0,vN,vN,vN] 26 fun h137=>Wp h137 (aS h136 0) 6 (L0 x129 x130 x131 x132 x133 x134) fun h138=>sB (x135==0) (R (.bool false) h138) (V11c x115 h138 h116 h R))) (V11c x115 h118 h116 h R)))
def V11d (x91:Sl) (h171 h51 h40 h:Heap) (x170:ByteArray) (R:Value->Heap->Prop) (x30:Sl) (h9:Heap):Prop:=
 RunW Pz (Go.convert 65 9 (vS x91)) h171 (fun v172 h174=>∃x173:ByteArray,v172=.string x173/\Sm [(aS h51 0),(aS h40 0),(aS h 0)] h171 h174/\sB (!((ByteArray.toList x173)==(ByteArray.toList x170))) (R (.bool false) h174) (V11a x30 h174 h R h9))
def V11b (x61 x67:ByteArray) (R:Value->Heap->Prop) (h68:Heap) (x39 x50:Int) (h40 h51 h:Heap) (p1 x30:Sl) (h9:Heap):Prop:=
 sB (!((ByteArray.toList x61)==(ByteArray.toList x67))) (((R (.bool false) h68)/\R (.bool false) h68)/\R (.bool false) h68) (sB (x39 != x50) (((R (.bool false) h68)/\R (.bool false) h68)/\R (.bool false) h68) (∃x69 x70 x71 x72 x73 x74,aL0 h68 (aS h40 0) x69 x70 x71 x72 x73 x74/\∃x75 x76 x77 x78 x79 x80,aL0 h68 (aS h51 0) x75 x76 x77 x78 x79 x80/\Fn Pz 17 #[.agg ⟨(L0 x69 x70 x71 x72 x73 x74)⟩,.agg ⟨(L0 x75 x76 x77 x78 x79 x80)⟩] h68 (fun v81 h83=>∃x82,iB v81 x82/\Sm [(aS h 0)] h68 h83/\sB (!x82) (((R (.bool false) h83)/\R (.bool false) h83)/\R (.bool false) h83) (sB (x39==0) (∃x84 x85 x86 x87 x88 x89,aL0 h83 (aS h40 0) x84 x85 x86 x87 x88 x89/\(Fn Pz 42 #[.agg ⟨(L0 x84 x85 x86 x87 x88 x89)⟩] h83 (fun v90 h92=>∃x91,iS v90 x91/\Sm [(aS h51 0),(aS h40 0),(aS h 0)] h83 h92/\(RunW Pz (Go.convert 65 9 (vS x91)) h92 (fun v93 h95=>∃x94:ByteArray,v93=.string x94/\Sm [(aS h51 0),(aS h40 0),(aS h 0)] h92 h95/\RunW Pz (Go.convert 65 9 (vS p1)) h95 (fun v96 h98=>∃x97:ByteArray,v96=.string x97/\Sm [(aS h40 0),(aS h51 0),(aS h40 0),(aS h 0)] h95 h98/\sB (!((ByteArray.toList x94)==(ByteArray.toList x97))) (R (.bool false) h98) (V11a x30 h98 h R h9))))/\RunW Pz (Go.convert 65 9 (vS p1)) h92 (fun v169 h171=>∃x170:ByteArray,v169=.string x170/\Sm [(aS h40 0),(aS h51 0),(aS h40 0),(aS h 0)] h92 h171/\V11d x91 h171 h51 h40 h x170 R x30 h9)))/\RunW Pz (Go.convert 65 9 (vS p1)) h83 (fun v245 h247=>∃x246:ByteArray,v245=.string x246/\Sm [(aS h40 0),(aS h51 0),(aS h40 0),(aS h 0)] h83 h247/\Fn Pz 42 #[.agg ⟨(L0 x84 x85 x86 x87 x88 x89)⟩] h247 (fun v248 h250=>∃x249,iS v248 x249/\Sm [(aS h51 0),(aS h40 0),(aS h 0)] h247 h250/\V11d x249 h250 h51 h40 h x246 R x30 h9))) (((V11a x30 h83 h R h9)/\V11a x30 h83 h R h9)/\V11a x30 h83 h R h9)))))
def W11 (pa pb pc:Int) (pd pe pf p1:Sl) (pg ph:Int):Prop:=
 Wn h (L0 pa pb pc pd pe pf) 26 fun h9=>Wn h9 [.int .u16 pg,.int .u16 ph] 69 fun h10=>Fn Pz 12 #[] h10 (fun v11 h13=>∃x12,iB v11 x12/\sB (!x12) (R (.bool false) h13) (∃x14 x15 x16 x17 x18 x19,aL0 h13 (aS h 0) x14 x15 x16 x17 x18 x19/\Fn Pz 13 #[.agg ⟨(L0 x14 x15 x16 x17 x18 x19)⟩] h13 (fun v20 h22=>∃x21,iB v20 x21/\sB (!x21) (R (.bool true) h22) (sB (decide ((p1.n:Int)>1500)) (R (.bool true) h22) (∃x23 x24 x25 x26 x27 x28,aL0 h22 (aS h 0) x23 x24 x25 x26 x27 x28/\Fn Pz 42 #[.agg ⟨(L0 x23 x24 x25 x26 x27 x28)⟩] h22 (fun v29 h31=>∃x30,iS v29 x30/\Fn Pz 43 #[vS p1] h31 (fun v32 h40=>∃(x33 x34 x35:Int) (x36 x37 x38:Sl) (x39:Int),v32=.tuple ⟨[.agg ⟨(L0 x33 x34 x35 x36 x37 x38)⟩,vI x39]⟩/\Wn h40 [vI 0,vI 0,vI 0,vN,vN,vN] 26 fun h41=>Wp h41 (aS h40 0) 6 (L0 x33 x34 x35 x36 x37 x38) fun h42=>Fn Pz 44 #[vS p1] h42 (fun v43 h51=>∃(x44 x45 x46:Int) (x47 x48 x49:Sl) (x50:Int),v43=.tuple ⟨[.agg ⟨(L0 x44 x45 x46 x47 x48 x49)⟩,vI x50]⟩/\Wn h51 [vI 0,vI 0,vI 0,vN,vN,vN] 26 fun h52=>Wp h52 (aS h51 0) 6 (L0 x44 x45 x46 x47 x48 x49) fun h53=>∃x54 x55 x56 x57 x58 x59,aL0 h53 (aS h 0) x54 x55 x56 x57 x58 x59/\(RunW Pz (Go.convert 65 9 (vS x30)) h53 (fun v60 h62=>∃x61:ByteArray,v60=.string x61/\Sm [(aS h 0)] h53 h62/\Fn Pz 45 #[.agg ⟨(L0 x54 x55 x56 x57 x58 x59)⟩] h62 (fun v63 h65=>∃x64,iS v63 x64/\RunW Pz (Go.convert 65 9 (vS x64)) h65 (fun v66 h68=>∃x67:ByteArray,v66=.string x67/\V11b x61 x67 R h68 x39 x50 h40 h51 h p1 x30 h9))))/\Fn Pz 45 #[.agg ⟨(L0 x54 x55 x56 x57 x58 x59)⟩] h53 (fun v534 h536=>∃x535,iS v534 x535/\(RunW Pz (Go.convert 65 9 (vS x30)) h536 (fun v537 h539=>∃x538:ByteArray,v537=.string x538/\Sm [(aS h 0)] h536 h539/\RunW Pz (Go.convert 65 9 (vS x535)) h539 (fun v540 h542=>∃x541:ByteArray,v540=.string x541/\V11b x538 x541 R h542 x39 x50 h40 h51 h p1 x30 h9)))/\RunW Pz (Go.convert 65 9 (vS x535)) h536 (fun v1008 h1010=>∃x1009:ByteArray,v1008=.string x1009/\RunW Pz (Go.convert 65 9 (vS x30)) h1010 (fun v1011 h1013=>∃x1012:ByteArray,v1011=.string x1012/\Sm [(aS h 0)] h1010 h1013/\V11b x1012 x1009 R h1013 x39 x50 h40 h51 h p1 x30 h9)))))))))))
theorem vc11 (pa pb pc:Int) (pd pe pf p1:Sl) (pg ph:Int) (H:@W11 h R pa pb pc pd pe pf p1 pg ph):Fn Pz 11 #[.agg ⟨(L0 pa pb pc pd pe pf)⟩,vS p1,.agg ⟨[.int .u16 pg,.int .u16 ph]⟩] h R:=fnJ (A:=.z) H
end Go.VC
end

section
namespace Go.LexS
def isLetter (n:Int):Bool:=decide (97<=n)&&decide (n<=122)||decide (65<=n)&&decide (n<=90)
def isDigit (n:Int):Bool:=decide (48<=n)&&decide (n<=57)
def isInner (n:Int):Bool:=isLetter n||isDigit n||(n==95)
def isSpace (n:Int):Bool:=n==32||n==9||n==10||n==13
def lt (c:UInt8):Bool:=isLetter c.toNat
def dg (c:UInt8):Bool:=isDigit c.toNat
def inn (c:UInt8):Bool:=isInner c.toNat
def sp (c:UInt8):Bool:=isSpace c.toNat
structure T where
 kind:Nat
 text:List UInt8
 val:Nat
 deriving DecidableEq
def keywords:List (List UInt8):=[[97,103,97,105,110],[97,110,100],[97,115],[97,116],[99,97,108,108],[99,104,111,105,99,101],[101,108,115,101],[102,114,111,109],[105,102],[105,110,116],[108,101,110],[108,111,111,112],[109,101,115,115,97,103,101],[111,102],[111,102,102,101,114],[111,110],[111,114],[112,97,114],[112,108,97,121,115],[112,114,111,116,111,99,111,108],[115,101,114,118,105,99,101],[116,101,120,116],[116,105,109,101,115],[116,111],[118,97,114],[119,104,101,114,101],[119,104,105,108,101],[119,105,116,104,105,110]]
def isName (l:List UInt8):Bool:=match l with
 | []=>false
 | c::_=>decide (l.length<=16)&&lt c&&l.all inn
def isWord (l:List UInt8):Bool:=isName l && !decide (l∈keywords)
end Go.LexS
end

section
namespace Go.VC
open Go.LexS
abbrev Nm:=List UInt8
def i64 (n:Int):Value:=.int .i64 n
def slV (s:Sl):Value:=.slice s.a s.n s.c
structure Fld where
 nm:Nm
 k:Int
 lo:Int
 hi:Int
def Fld.cs (f:Fld):List Value:=[.string (bs f.nm),.int .i64 f.k,.int .i64 f.lo,.int .i64 f.hi]
structure Df where
 x:Int
 y:Int
 c:Int
def Df.cs (d:Df):List Value:=[.int .i64 d.x,.int .i64 d.y,.int .i64 d.c]
structure Eqs where
 x:Int
 y:Int
def Eqs.cs (d:Eqs):List Value:=[.int .i64 d.x,.int .i64 d.y]
structure Dc where
 nm:Nm
 hf:Sl
 first:Int
 hd:Sl
 he:Sl
 fs:List Fld
 ds:List Df
 es:List Eqs
def Dc.cs (d:Dc):List Value:=[.string (bs d.nm),.slice d.hf.a d.hf.n d.hf.c,.int .i64 d.first,.slice d.hd.a d.hd.n d.hd.c,.slice d.he.a d.he.n d.he.c]
structure Ed where
 f:Int
 a:Int
 b:Int
 l:Int
 t:Int
 ag:Bool
def Ed.cs (x:Ed):List Value:=[.int .i64 x.f,.int .i64 x.a,.int .i64 x.b,.int .i64 x.l,.int .i64 x.t,.bool x.ag]
structure To where
 s:Int
 k:Int
 e:Int
def To.cs (x:To):List Value:=[.int .i64 x.s,.int .i64 x.k,.int .i64 x.e]
structure Gl where
 nm:Nm
 hr:Sl
 hd:Sl
 n:Int
 s:Int
 e:Int
 he:Sl
 ht:Sl
 rs:List Nm
 ds:List Dc
 es:List Ed
 ts:List To
def Gl.cs (g:Gl):List Value:=[.string (bs g.nm),.slice g.hr.a g.hr.n g.hr.c,.slice g.hd.a g.hd.n g.hd.c,.int .i64 g.n,.int .i64 g.s,.int .i64 g.e,.slice g.he.a g.he.n g.he.c,.slice g.ht.a g.ht.n g.ht.c]
def Gl.v (g:Gl):Value:=.agg ⟨g.cs⟩
def nmC (x:Nm):List Value:=[.string (bs x)]
structure RL {α:Type} (h:Heap) (k:Nat) (s:Sl) (cs:α->List Value) (L:List α):Prop where
 rw:Rw h k s (L.map cs)
 cap:s.n<=s.c
 nil:s.a=none->s.n=0/\s.c=0
 sm:L.length<=1048576
theorem RL.ext {α:Type} {h h':Heap} {k:Nat} {s:Sl} {cs:α->List Value} {L:List α} (hr:RL h k s cs L) (E:Ext h h'):RL h' k s cs L:=⟨hr.rw.ext E,hr.cap,hr.nil,hr.sm⟩
theorem RL.ln {α:Type} {h:Heap} {k:Nat} {s:Sl} {cs:α->List Value} {L:List α} (hr:RL h k s cs L):s.n=L.length:=hr.rw.ln
structure DI (h:Heap) (d:Dc):Prop where
 pf:RL h 4 d.hf Fld.cs d.fs
 pd:RL h 3 d.hd Df.cs d.ds
 pe:RL h 2 d.he Eqs.cs d.es
theorem DI.ext {h h':Heap} {d:Dc} (hd:DI h d) (E:Ext h h'):DI h' d:=⟨hd.pf.ext E,hd.pd.ext E,hd.pe.ext E⟩
structure DL (h:Heap) (s:Sl) (L:List Dc):Prop where
 r:RL h 5 s Dc.cs L
 i:∀d∈L,DI h d
theorem DL.ext {h h':Heap} {s:Sl} {L:List Dc} (hd:DL h s L) (E:Ext h h'):DL h' s L:=⟨hd.r.ext E,fun d hm=>(hd.i d hm).ext E⟩
structure GI (h:Heap) (g:Gl):Prop where
 r:RL h 1 g.hr nmC g.rs
 d:DL h g.hd g.ds
 e:RL h 6 g.he Ed.cs g.es
 t:RL h 3 g.ht To.cs g.ts
theorem GI.ext {h h':Heap} {g:Gl} (hg:GI h g) (E:Ext h h'):GI h' g:=⟨hg.r.ext E,hg.d.ext E,hg.e.ext E,hg.t.ext E⟩
theorem RL.take {α:Type} {h:Heap} {k:Nat} {s:Sl} {cs:α->List Value} {L:List α} (hr:RL h k s cs L) {i:Nat} (hi:i<=s.n):RL h k ⟨subA s.a (Int.toNat 0) s.c k,Int.toNat (i:Int)-Int.toNat 0,s.c-Int.toNat 0⟩ cs (L.take i):=by
 have h1:=hr.rw.1;have e:subA s.a (Int.toNat 0) s.c k=s.a:=subA_zero _ _ _;rw[e];refine⟨⟨by rw[Yc,Yu];simp only[Yc] at h1;show i-0=_;omega,fun hp=>?_⟩,by have:=hr.cap;show i-0<=s.c-0;omega,fun ha=>?_,by have:=hr.sm;rw[Yu];omega⟩
 .rw[Yc,Yu] at hp;obtain⟨b,o,ha,hall⟩:=hr.rw.2 (by rw[Yc];omega);refine⟨b,o,ha,fun j row hj=>hall j row ?_⟩;rw[List.map_take,Yyf] at hj;split at hj
  .exact hj
  .cases hj
 .have:=hr.nil ha;exact⟨by show i-0=0;omega,by show s.c-0=0;omega⟩
end Go.VC
end

section
namespace Go.VC
open Go.Proofs Go.LexS
theorem letter221 (b:UInt8) (h:Heap):Fn Pz 232 #[.int .u8 b.toNat] h fun v h'=>v=.bool (lt b)/\h'=h:=by
 apply vc232;unfold W232;unfold lt isLetter;generalize (b.toNat:Int)=n
 repeat' first
  | refine sBi (fun _=>?_) (fun _=>?_)
 all_goals
  refine⟨?_,rfl⟩;congr 1;rw[Bool.eq_iff_iff];simp only[Bool.or_eq_true,Yt,decide_eq_true_eq,Bool.false_eq_true,true_iff,false_iff];omega
theorem digit253 (b:UInt8) (h:Heap):Fn Pz 258 #[.int .u8 b.toNat] h fun v h'=>v=.bool (dg b)/\h'=h:=by
 apply vc258;unfold W258;unfold dg isDigit;refine sBi (fun c=>⟨?_,rfl⟩) (fun c=>⟨?_,rfl⟩)
 .rw[decide_eq_true (p:=(48:Int)<=b.toNat) c,Bool.true_and]
 .rw[decide_eq_false (p:=(48:Int)<=b.toNat) c,Bool.false_and]
theorem inner222 (b:UInt8) (h:Heap):Fn Pz 233 #[.int .u8 b.toNat] h fun v h'=>v=.bool (inn b)/\h'=h:=by
 apply vc233;unfold W233;refine (letter221 b h).mono ?_;rintro _ h3 ⟨rfl,rfl⟩;refine⟨_,rfl,sB_intro (fun c=>?_) (fun c=>?_)⟩
 .exact⟨by rw[show inn b=(lt b||dg b||((b.toNat:Int)==95)) from rfl,c];rfl,rfl⟩
 .refine (digit253 b _).mono ?_;rintro _ h6 ⟨rfl,rfl⟩;refine⟨_,rfl,sB_intro (fun d=>?_) (fun d=>?_)⟩
  .exact⟨by rw[show inn b=(lt b||dg b||((b.toNat:Int)==95)) from rfl,c,d];rfl,rfl⟩
  .exact⟨by rw[show inn b=(lt b||dg b||((b.toNat:Int)==95)) from rfl,c,d];rfl,rfl⟩
theorem isname189 (s:ByteArray) (h:Heap):Fn Pz 204 #[.string s] h fun v h'=>v=.bool (isName s.data.toList)/\h'=h:=by
 apply vc204;unfold W204;have hsz:=size_len s;rw[strEq];generalize hL:s.data.toList=L at *;refine sB_intro (fun he=>?_) (fun he=>?_)
 .have:L=[]:=Yyn he;subst this;exact⟨rfl,rfl⟩
 .have hne:L≠[]:=Yyo he;have hpos:0<L.length:=List.length_pos_iff.2 hne;obtain⟨b,hb,hby⟩:=byte_get (s:=s) (i:=0) (by omega);rw[hL] at hb;have hcons:L=b::L.drop 1:=by have:=drop_cons hb;rwa [List.drop_zero] at this
  have hdef:isName L=(decide (L.length<=16)&&lt b&&L.all inn):=by
   conv=>lhs;rw[hcons]
   rw[isName,<-hcons]
  rw[hdef];refine sB_intro (fun hgt=>?_) (fun hgt=>?_)
  .refine⟨?_,rfl⟩;rw[decide_eq_false (by have:=Yyn hgt;omega)];rfl
  .have h16:L.length<=16:=by have:=Yyo hgt;omega
   rw[decide_eq_true h16];refine⟨⟨by omega,by omega⟩,?_⟩;rw[show Int.toNat 0=0 from rfl,hby];refine (letter221 _ _).mono ?_;rintro v h3 ⟨rfl,rfl⟩;refine⟨_,rfl,sB_intro (fun hlet=>?_) (fun hlet=>?_)⟩
   .refine⟨?_,rfl⟩;rw[show lt b=false from by rw[Bool.not_eq_true'] at hlet;exact hlet];rfl
   .rw[show lt b=true from by rw[Bool.not_eq_false'] at hlet;exact hlet];refine up_loop (n:=s.size) (fun i h'=>h'=h3/\∀(j:Nat) (b:UInt8),j<i->L[j]?=some b->(!inn b)=false) ⟨rfl,fun j b hj=>by omega⟩ ?_;rintro-i h8 hi ⟨rfl,hd⟩;refine sB_intro (fun hlt=>?_) (fun hge=>?_)
    .have hlt':=lt_t hlt;obtain⟨y,hy,hby2⟩:=byte_get hlt';rw[hL] at hy;refine⟨⟨by omega,by omega⟩,?_⟩;rw[show Int.toNat (i:Int)=i from rfl,hby2];refine (inner222 _ _).mono ?_;rintro v h11 ⟨rfl,rfl⟩;refine⟨_,rfl,sB_intro (fun hp=>?_) (fun hp=>?_)⟩
     .refine⟨?_,rfl⟩;have:L.all inn=false:=by
       rw[<-Bool.not_eq_true,all_split];intro hh;have:=hh y i hy;rw[Bool.not_eq_true'] at hp;rw[show inn y=false from hp] at this;cases this
      rw[this];rfl
     .exact Up.next hlt' (by omega) ⟨rfl,scan_next (p:=fun b=>!inn b) hy hp hd⟩
    .have hge':=lt_f hge;refine⟨?_,rfl⟩;rw[(all_split inn L).2 fun b j hb=>by simpa using hd j b (by have:=(Ya.1 hb).1;omega) hb];rfl
theorem index190 (L:List Nm) (x:ByteArray) (s:Sl) (h:Heap) (hr:RL h 1 s nmC L) :
  Fn Pz 205 #[.slice s.a s.n s.c,.string x] h fun v h'=>(∃k:Int,v=.int .i64 k/\decide (k>=0)=decide (x.data.toList∈L))/\h'=h:=by
 apply vc205;unfold W205;have hn:=hr.ln;have hm:=hr.sm;refine up_loop (n:=s.n) (fun i h'=>h'=h/\∀(j:Nat) (y:Nm),j<i->L[j]?=some y->decide (x.data.toList=y)=false) ⟨rfl,fun j y hj=>by omega⟩ ?_;rintro-i h5 hi ⟨rfl,hd⟩;refine sB_intro (fun l=>?_) (fun l=>?_)
 .replace l:=lt_t l;refine hr.rw.nbI (by omega) (by omega) fun b o d g t=>?_;replace g:L[i]?=some d:=g;refine⟨_,t.hd,?_⟩;rw[strEq,bs_list];refine sB_intro (fun he=>?_) (fun hne=>?_)
  .have:=Yyn he;exact⟨⟨_,rfl,by rw[decide_eq_true (show (i:Int)>=0 by omega),decide_eq_true (by rw[this];exact Yb g)]⟩,rfl⟩
  .exact Up.next l (by omega) ⟨rfl,scan_next (p:=fun y=>decide (x.data.toList=y)) g hne hd⟩
 .replace l:=lt_f l;refine⟨⟨_,rfl,?_⟩,rfl⟩;rw[decide_eq_false (show ¬((-1:Int)>=0) by omega),decide_eq_false];intro hm;obtain⟨j,hj⟩:=Yf.1 hm;exact Yyo (hd j _ (by have:=(Ya.1 hj).1;omega) hj) rfl
theorem has133 (L:List Nm) (x:ByteArray) (s:Sl) (h:Heap) (hr:RL h 1 s nmC L) :
  Fn Pz 168 #[.slice s.a s.n s.c,.string x] h fun v h'=>v=.bool (decide (x.data.toList∈L))/\h'=h:=by
 apply vc168;unfold W168;refine (index190 L x s h hr).mono ?_;rintro v h3 ⟨⟨k,rfl,hk⟩,rfl⟩;exact⟨_,rfl,by rw[hk],rfl⟩
theorem own_rl {α:Type} {h:Heap} {b:Nat} {e:TypeId} {k:Nat} {cs:α->List Value} {L:List α} {xs:List Value} (hx:xs=(L.map cs).flatten) (ho:Own h b xs e) (hk:∀x,(cs x).length=k) (hl:L.length<=1048576) {n c:Nat} (hn:n=L.length) (hc:n<=c):RL h k ⟨some ⟨b,0,none⟩,n,c⟩ cs L:=by
 subst hx;refine⟨⟨by rw[Yc];exact hn,fun _=>⟨b,0,rfl,fun i row hi j v hj=>?_⟩⟩,hc,fun e=>by (cases e),hl⟩;have hr:∀r∈L.map cs,r.length=k:=fun r hr=>by obtain⟨x,_,rfl⟩:=Yp.1 hr;exact hk x
 have hjl:=(Ya.1 hj).1;rw[hr row (Yb hi)] at hjl;rw[addk_at,Nat.zero_add,ho.hc,getElem?_flatten _ i j row hr hi hjl];exact hj
theorem isword132 (s:ByteArray) (h:Heap):Fn Pz 167 #[.string s] h fun v h'=>v=.bool (isWord s.data.toList)/\Ext h h':=by
 apply vc167;unfold W167;refine newput (vs:=(keywords.map nmC).flatten) rfl fun h2 E o=>?_;refine (isname189 s h2).mono ?_;rintro _ h5 ⟨rfl,rfl⟩;refine⟨_,rfl,sB_intro (fun c=>?_) (fun c=>?_)⟩
 .refine⟨by decide,?_⟩;refine (has133 keywords s ⟨subA (some ⟨h.size,0,none⟩) (Int.toNat 0) 28 1,Int.toNat (28:Nat)-Int.toNat 0,28-Int.toNat 0⟩ h5 (own_rl rfl o (fun _=>rfl) (by decide) rfl (by decide))).mono ?_;rintro _ h8 ⟨rfl,rfl⟩;exact⟨_,rfl,by rw[show isWord s.data.toList=(isName s.data.toList && !decide (s.data.toList∈keywords)) from rfl,c];rfl,E⟩
 .exact⟨by rw[show isWord s.data.toList=(isName s.data.toList && !decide (s.data.toList∈keywords)) from rfl,c];rfl,E⟩
end Go.VC
end

section
namespace Go.VC
theorem wu64 {n:Int} (h0:0<=n) (h1:n<=18446744073709551615):IntKind.wrap .u64 n=n:=by
 simp[IntKind.wrap,IntKind.signed,IntKind.bits];omega
def inC (n:Int):List Value:=[.int .i64 n]
def wC (w:Nat):List Value:=[.int .u64 w]
def memB (ws:List Nat) (k:Nat):Bool:=(ws.getD (k/64) 0).testBit (k%64)
theorem shr_nat {w k:Nat} (hk:k<64):shrI .u64 (w:Int) (k:Int)=((w/2^k:Nat):Int):=by
 unfold shrI;have e:min (Int.toNat (k:Int)) (IntKind.bits .u64)=k:=by simp[IntKind.bits];omega
 rw[e];show Int.fdiv (w:Int) ((2:Int)^k)=_;rw[show ((2:Int)^k)=((2^k:Nat):Int) by simp,Int.fdiv_eq_ediv_of_nonneg _ (Int.natCast_nonneg _)];rfl
theorem and_one {w:Nat} (hw:w<2^64):andI .u64 (w:Int) 1=((w%2:Nat):Int):=by
 unfold andI;have e:(BitVec.ofInt (IntKind.bits .u64) (w:Int)&&&BitVec.ofInt (IntKind.bits .u64) 1).toNat=w%2:=by
  show (BitVec.ofInt 64 (w:Int)&&&BitVec.ofInt 64 ((1:Nat):Int)).toNat=w%2;rw[BitVec.ofInt_natCast,BitVec.ofInt_natCast,BitVec.toNat_and,BitVec.toNat_ofNat,BitVec.toNat_ofNat,Nat.mod_eq_of_lt hw];exact Nat.and_one_is_mod w
 rw[e];exact wu64 (by omega) (by omega)
theorem bit_has {w k:Nat} (hw:w<2^64) (hk:k<64):(andI .u64 (shrI .u64 (w:Int) (k:Int)) 1==1)=w.testBit k:=by
 rw[shr_nat hk,and_one (Nat.lt_of_le_of_lt (Nat.div_le_self _ _) hw),Nat.testBit_eq_decide_div_mod_eq];by_cases h:w/2^k%2=1
 .rw[h,decide_eq_true rfl];rfl
 .rw[decide_eq_false h];exact beq_eq_false_iff_ne.2 (by omega)
theorem shl_one {k:Nat} (hk:k<64):shlI .u64 1 (k:Int)=((2^k:Nat):Int):=by
 unfold shlI;have e:min (Int.toNat (k:Int)) (IntKind.bits .u64)=k:=by simp[IntKind.bits];omega
 rw[e,Int.one_mul];have h2:2^k<2^64:=Nat.pow_lt_pow_right (by omega) hk;rw[show ((2:Int)^k)=((2^k:Nat):Int) by simp];generalize 2^k=m at *;exact wu64 (by omega) (by omega)
theorem or_nat {a b:Nat} (ha:a<2^64) (hb:b<2^64):orI .u64 (a:Int) (b:Int)=((a|||b:Nat):Int):=by
 unfold orI;have e:(BitVec.ofInt (IntKind.bits .u64) (a:Int)|||BitVec.ofInt (IntKind.bits .u64) (b:Int)).toNat=a|||b:=by
  show (BitVec.ofInt 64 (a:Int)|||BitVec.ofInt 64 (b:Int)).toNat=_;rw[BitVec.ofInt_natCast,BitVec.ofInt_natCast,BitVec.toNat_or,BitVec.toNat_ofNat,BitVec.toNat_ofNat,Nat.mod_eq_of_lt ha,Nat.mod_eq_of_lt hb]
 rw[e];have:=Nat.or_lt_two_pow ha hb;exact wu64 (by omega) (by omega)
theorem clr_zero {a b:Nat} (ha:a<2^64) (hb:b<2^64):clrI .u64 (a:Int) (b:Int)=0 ↔ ∀k,k<64->a.testBit k=true->b.testBit k=true:=by
 have hlt:(BitVec.ofNat 64 a &&& ~~~BitVec.ofNat 64 b).toNat<18446744073709551616:=(BitVec.ofNat 64 a &&& ~~~BitVec.ofNat 64 b).isLt;have key:clrI .u64 (a:Int) (b:Int)=((BitVec.ofNat 64 a &&& ~~~BitVec.ofNat 64 b).toNat:Int):=by
  unfold clrI;show IntKind.wrap .u64 ((BitVec.ofInt 64 (a:Int) &&& ~~~BitVec.ofInt 64 (b:Int)).toNat:Int)=_;rw[BitVec.ofInt_natCast,BitVec.ofInt_natCast];exact wu64 (by omega) (by omega)
 rw[key];have bitx:∀k,k<64->(BitVec.ofNat 64 a &&& ~~~BitVec.ofNat 64 b).getLsbD k=(a.testBit k && !b.testBit k):=fun k hk=>by
  rw[BitVec.getLsbD_and,BitVec.getLsbD_not,BitVec.getLsbD_ofNat,BitVec.getLsbD_ofNat];simp[hk]
 constructor
 .intro h k hk hak;have h0:(BitVec.ofNat 64 a &&& ~~~BitVec.ofNat 64 b)=0#64:=BitVec.eq_of_toNat_eq (by rw[show (BitVec.ofNat 64 a &&& ~~~BitVec.ofNat 64 b).toNat=0 by omega];rfl);have:=bitx k hk;rw[h0,BitVec.getLsbD_zero,hak] at this;cases hbk:b.testBit k
  .rw[hbk] at this;cases this
  .rfl
 .intro h;have h0:(BitVec.ofNat 64 a &&& ~~~BitVec.ofNat 64 b)=0#64:=by
   apply BitVec.eq_of_getLsbD_eq;intro k hk;rw[bitx k hk,BitVec.getLsbD_zero];cases hak:a.testBit k
   .rfl
   .rw[h k hk hak];rfl
  rw[h0];rfl
theorem memB_set {ws:List Nat} {n k:Nat} (hn:n/64<ws.length):memB (ws.set (n/64) (ws.getD (n/64) 0|||2^(n%64))) k=(decide (k=n)||memB ws k):=by
 unfold memB;by_cases h:k/64=n/64
 .rw[h,Yo,Yq hn];show Nat.testBit (ws.getD (n/64) 0|||2^(n%64)) (k%64)=_;rw[Nat.testBit_or,Nat.testBit_two_pow,Bool.or_comm];congr 1;by_cases h2:k=n
  .subst h2;simp
  .rw[decide_eq_false h2];simp only[decide_eq_false_iff_not];omega
 .rw[Yo,Yy (fun e=>h e.symm),<-Yo];have:k≠n:=fun e=>h (by rw[e]);simp[this]
theorem memB_zero (n k:Nat):memB (List.replicate n 0) k=false:=by
 unfold memB;rw[Yo,List.getElem?_replicate];split<;>simp
theorem memB_take {ws:List Nat} {n:Nat} (h:∀i w,n<=i->ws[i]?=some w->w=0) (k:Nat):memB (ws.take n) k=memB ws k:=by
 unfold memB;rw[Yo,Yo,Yyf];split
 .rfl
 .rename_i hn;cases hw:ws[k/64]? with
  | none=>rfl
  | some w=>rw[h _ w (by omega) hw];simp
structure SetV (h:Heap) (s:Sl) (p:Nat->Bool):Prop where
 ex:∃ws:List Nat,Rw h 1 s (ws.map wC)/\ws.length<=64/\(∀w∈ws,w<2^64)/\∀k,memB ws k=p k
theorem SetV.ext {h h':Heap} {s:Sl} {p:Nat->Bool} (hs:SetV h s p) (E:Ext h h'):SetV h' s p:=by
 obtain⟨ws,h1,h2⟩:=hs.ex;exact⟨ws,h1.ext E,h2⟩
end Go.VC
end

section
namespace Go.VC
open Go.RowKit
structure Ev where
 send:Bool
 peer:Int
 label:Int
 deriving DecidableEq
def Ev.cs (x:Ev):List Value:=[.bool x.send,.int .i64 x.peer,.int .i64 x.label]
structure Ar where
 x:Ev
 to:Int
def Ar.cs (a:Ar):List Value:=[.bool a.x.send,.int .i64 a.x.peer,.int .i64 a.x.label,.int .i64 a.to]
def slC (s:Sl):List Value:=[.slice s.a s.n s.c]
def vis1 (role:Int) (x:Ed):Option Ev:=if role=x.a then some ⟨true,x.b,x.l⟩ else if role=x.b then some ⟨false,x.a,x.l⟩ else none
def quietL (es:List Ed) (role:Int) (n:Nat):List Int:=es.filterMap fun x=>if x.f=(n:Int) then (match vis1 role x with | none=>some x.t | some _=>none) else none
def visL (es:List Ed) (role:Int) (n:Nat):List Ar:=es.filterMap fun x=>if x.f=(n:Int) then (vis1 role x).map fun e=>⟨e,x.t⟩ else none
theorem quietL_snoc (es:List Ed) (role:Int) (n:Nat) (x:Ed):quietL (es++[x]) role n=quietL es role n++(if x.f=(n:Int) then (match vis1 role x with | none=>[x.t] | some _=>[]) else []):=by
 unfold quietL;rw[List.filterMap_append];congr 1;by_cases h:x.f=(n:Int)
 .simp only[List.filterMap_cons,List.filterMap_nil,if_pos h];cases vis1 role x<;>rfl
 .simp only[List.filterMap_cons,List.filterMap_nil,if_neg h]
theorem visL_snoc (es:List Ed) (role:Int) (n:Nat) (x:Ed):visL (es++[x]) role n=visL es role n++(if x.f=(n:Int) then (match vis1 role x with | none=>[] | some e=>[⟨e,x.t⟩]) else []):=by
 unfold visL;rw[List.filterMap_append];congr 1;by_cases h:x.f=(n:Int)
 .simp only[List.filterMap_cons,List.filterMap_nil,if_pos h];cases vis1 role x<;>rfl
 .simp only[List.filterMap_cons,List.filterMap_nil,if_neg h]
def nest {α:Type} (e:TypeId) (k:Nat) (cs:α->List Value) (q:Sl × List α):It:=.sl q.1 e k (q.2.map cs)
theorem set_mid {α:Type} {P R:List α} {Q:List α} {i:Nat} (hi:i<Q.length) (x:α):(P++Q++R).set (P.length+i) x=P++Q.set i x++R:=by
 rw[Yz,List.set_append_right _ _ (by omega),Nat.add_sub_cancel_left,List.set_append_left _ _ hi,Yz]
theorem get_mid {α:Type} {P R:List α} {Q:List α} {i:Nat} (hi:i<Q.length):(P++Q++R)[P.length+i]?=Q[i]?:=by
 rw[Yz,Yyc (by omega),Nat.add_sub_cancel_left,Yyi hi]
theorem St.nestAt {α:Type} {P:Program} {h0 h:Heap} {A B:List It} {Q:List (Sl × List α)} {e:TypeId} {n:Nat} {cs:α->List Value} (hs:St h0 h (A++Q.map (nest e n cs)++B)) {i:Nat} {q:Sl × List α} (hi:Q[i]?=some q)
  {t bytes:Nat} (hT:appB P t e n bytes=true) (d:α) {a:Addr} (ha:atC h a (cs d)) (hn:(cs d).length=n) (h1:(cs d).all oneB=true) (hb:(q.1.n+1)*bytes<=140737488355328) (h63:q.1.n+1<=maxLen)
  {K:Sl->Heap->Prop} (hK:∀(r:Sl) (h':Heap),r.n=q.1.n+1->St h0 h' (A++(Q.set i (r,q.2++[d])).map (nest e n cs)++B)->K r h') :
  App P t t (.slice q.1.a q.1.n q.1.c) (.slice (some a) 1 1) h K:=by
 have hil:i<Q.length:=(Ya.1 hi).1;have hil':i<(Q.map (nest e n cs)).length:=by rw[Yc];exact hil
 refine hs.appended (A.length+i) (rows:=q.2.map cs) (by rw[get_mid hil',Yd,hi];rfl) hT (news:=[cs d]) (by simpa using ha) rfl (fun r hr=>by rw[Ye] at hr;rw[hr];exact hn) (by simpa using h1) hb h63 fun r h' hrn h3=>hK r h' hrn ?_;rw[set_mid hil'] at h3;have e1:(Q.map (nest e n cs)).set i (.sl r e n (q.2.map cs++[cs d]))=(Q.set i (r,q.2++[d])).map (nest e n cs):=by
  rw[List.map_set];congr 1;unfold nest;simp
 rw[e1] at h3;exact h3
theorem St.newbE {h0 h:Heap} {L:List It} (hs:St h0 h L) {xs:List Value} {e:TypeId} {K:Heap->Prop} (hK:∀h2,Ext h h2->St h0 h2 (.blk h.size xs e::L)->K h2):∀h2:Heap,h2=h.push (.cells ⟨xs⟩ e)->K h2:=
 VC.newb fun h2 E o=>hK h2 E (hs.more E (i:=.blk h.size xs e) o fun b hb=>by cases hb;exact Yyt _)
theorem St.perm {h0 h:Heap} {L L':List It} (hs:St h0 h L) (hp:L.Perm L'):St h0 h L':=
 ⟨hs.ext,fun i hi=>hs.ok i (hp.mem_iff.2 hi),(hp.pairwise_iff (fun {a b} hab x hx hy=>hab x hy hx)).1 hs.ap⟩
theorem St.nests {α:Type} {h0 h:Heap} {A B:List It} {e:TypeId} {k:Nat} {cs:α->List Value} (hs:St h0 h (A++B)):∀n:Nat,St h0 h (A++(List.replicate n ((⟨.none,0,0⟩,[]):Sl × List α)).map (nest e k cs)++B)
 | 0=>by simpa using hs
 | n+1=>by
  have h1:=(hs.nests (α:=α) (e:=e) (k:=k) (cs:=cs) n).nil_ e k;refine h1.perm ?_;rw[List.replicate_succ,Yyl,Yz,Yz];have:nest e k cs ((⟨.none,0,0⟩,[]):Sl × List α)=.sl ⟨.none,0,0⟩ e k []:=rfl;rw[this];exact List.perm_middle.symm
theorem sm_nil {h h':Heap}:Sm [] h h':=fun a ha=>by cases ha
theorem sm_cons {h h':Heap} {a:Addr} {al:List Addr} (hb:h'[a.block]?=h[a.block]?) (hr:Sm al h h'):Sm (a::al) h h':=by
 intro x hx k v hv;rcases Yr.1 hx with rfl | hx
 .rw[hc_of_block (h:=h) (by rw[addk_block'];exact hb)];exact hv
 .exact hr x hx k v hv
theorem St.same {h0 h h':Heap} {L L':List It} (hs:St h0 h L) (hs':St h0 h' L') (k k':Nat) {b:Nat} {xs:List Value} {e:TypeId} (hk:L[k]?=some (.blk b xs e)) (hk':L'[k']?=some (.blk b xs e)):h'[b]?=h[b]?:=(hs'.get hk').trans (hs.get hk).symm
structure LkI (h:Heap) (p:Addr) (g:Gl) (role:Int):Prop where
 ex:∃(hq hv:Sl) (qs vs:Nat->Sl),p.spot=none/\atC h p (g.cs++[.int .i64 role,.slice hq.a hq.n hq.c,.slice hv.a hv.n hv.c])/\hq.n=g.n.toNat/\hv.n=g.n.toNat /\
  Rw h 1 hq ((List.range g.n.toNat).map fun i=>slC (qs i))/\Rw h 1 hv ((List.range g.n.toNat).map fun i=>slC (vs i)) /\
  (∀i,i<g.n.toNat->Rw h 1 (qs i) ((quietL g.es role i).map inC))/\∀i,i<g.n.toNat->Rw h 4 (vs i) ((visL g.es role i).map Ar.cs)
theorem LkI.ext {h h':Heap} {p:Addr} {g:Gl} {role:Int} (hl:LkI h p g role) (E:Ext h h'):LkI h' p g role:=by
 obtain⟨hq,hv,qs,vs,h0,h1,h2,h3,h4,h5,h6,h7⟩:=hl.ex;exact⟨hq,hv,qs,vs,h0,atC_ext E h1,h2,h3,h4.ext E,h5.ext E,fun i hi=>(h6 i hi).ext E,fun i hi=>(h7 i hi).ext E⟩
end Go.VC
end

section
namespace Go.VC
theorem map_get {α β:Type} (f:α->β) (L:List α) (i:Nat):(L.map f)[i]?=(L[i]?).map f:=Yd
theorem map_splice {α:Type} (f:α->Value) {L:List α} {i:Nat} (hi:i<L.length) (y:α):splice (L.map f) i [f y]=(L.set i y).map f:=by
 unfold splice;rw[List.map_set,List.set_eq_take_append_cons_drop,if_pos (by rw[Yc];exact hi)];simp
inductive Qr (es:List Ed) (role:Int) (l:List Int):Int->Prop where
 | base {a:Int}:a∈l->Qr es role l a
 | step {a b:Int}:Qr es role l a->(∃x∈es,vis1 role x=none/\x.f=a/\x.t=b)->Qr es role l b
structure CL (es:List Ed) (role:Int) (n:Nat) (l:List Int) (D:List Bool) (T:List Int):Prop where
 len:D.length=n
 cnt:T.length=D.count true
 mem:∀v,v∈T ↔ 0<=v/\D[v.toNat]?=some true
 r:∀v∈T,Qr es role l v
theorem CL.start (es:List Ed) (role:Int) (n:Nat) (l:List Int):CL es role n l (List.replicate n false) []:=by
 refine⟨by rw[Yg],by rw[List.count_replicate];rfl,fun v=>⟨fun h=>(by cases h),fun ⟨_,h⟩=>?_⟩,fun v h=>by cases h⟩;have:=List.eq_of_mem_replicate (Yb h);cases this
theorem CL.push {es:List Ed} {role:Int} {n:Nat} {l:List Int} {D:List Bool} {T:List Int} (h:CL es role n l D T) {b:Int} (h0:0<=b) (hb:D[b.toNat]?=some false) (hr:Qr es role l b):CL es role n l (D.set b.toNat true) (T++[b]):=by
 have hbl:=(Ya.1 hb).1;have hbe:=(Ya.1 hb).2;refine⟨by rw[Yyh];exact h.len,?_,fun v=>?_,fun v hv=>?_⟩
 .rw[List.count_set hbl,hbe,Yh,h.cnt];rfl
 .rw[Yk,Ye,h.mem];constructor
  .rintro (⟨h1,h2⟩ | rfl)
   .refine⟨h1,?_⟩;by_cases e:b.toNat=v.toNat
    .rw[e,Yq (by omega)]
    .rw[Yy e];exact h2
   .exact⟨h0,by rw[Yq hbl]⟩
  .rintro⟨h1,h2⟩;by_cases e:b.toNat=v.toNat
   .right;omega
   .left;rw[Yy e] at h2;exact⟨h1,h2⟩
 .rcases Yk.1 hv with hv | hv
  .exact h.r v hv
  .rw[Ye] at hv;rw[hv];exact hr
theorem CL.le {es:List Ed} {role:Int} {n:Nat} {l:List Int} {D:List Bool} {T:List Int} (h:CL es role n l D T):T.length<=n:=by
 rw[h.cnt,<-h.len];exact List.count_le_length
theorem quietL_mem {es:List Ed} {role:Int} {n:Nat} {b:Int}:b∈quietL es role n ↔ ∃x∈es,vis1 role x=none/\x.f=n/\x.t=b:=by
 unfold quietL;rw[Yym];constructor
 .rintro⟨x,hx,h⟩;split at h
  .rename_i hf;cases hv:vis1 role x with
   | none=>rw[hv] at h;exact⟨x,hx,hv,hf,Yyp h⟩
   | some e=>rw[hv] at h;cases h
  .cases h
 .rintro⟨x,hx,hv,hf,rfl⟩;exact⟨x,hx,by rw[if_pos hf,hv]⟩
theorem CL.end_ {es:List Ed} {role:Int} {n:Nat} {l:List Int} {D:List Bool} {T:List Int} (h:CL es role n l D T) (hl:∀x∈l,x∈T) (hc:∀v∈T,∀b∈quietL es role v.toNat,b∈T) (v:Int):v∈T ↔ Qr es role l v:=by
 refine⟨h.r v,fun hq=>?_⟩
 induction hq with
 | base hm=>exact hl _ hm
 | @step a b _ hx ih=>
  obtain⟨x,hx,hv,hf,rfl⟩:=hx;exact hc _ ih _ (quietL_mem.2 ⟨x,hx,hv,by have:=((h.mem a).1 ih).1;omega,rfl⟩)
noncomputable def clo (es:List Ed) (role:Int) (l:List Int):Nat->Bool:=fun j=>by classical exact decide (Qr es role l (j:Int))
theorem clo_iff {es:List Ed} {role:Int} {l:List Int} {j:Nat}:clo es role l j=true ↔ Qr es role l (j:Int):=by unfold clo;simp
def cmpI (x y:Int):Int:=if x<y then -1 else if x>y then 1 else 0
def orI3 (x y:Int):Int:=if x≠0 then x else y
def cmpE (x y:Ev):Int:=if x.send≠y.send then (if x.send then -1 else 1) else orI3 (cmpI x.peer y.peer) (cmpI x.label y.label)
def evLt (x y:Ev):Prop:=(x.send=true/\y.send=false)\/(x.send=y.send/\(x.peer<y.peer\/(x.peer=y.peer/\x.label<y.label)))
instance (x y:Ev):Decidable (evLt x y):=by unfold evLt;infer_instance
theorem cmpI_zero {x y:Int}:cmpI x y=0 ↔ x=y:=by unfold cmpI;split<;>(try split)<;>omega
theorem cmpE_neg {x y:Ev}:cmpE x y<0 ↔ evLt x y:=by
 unfold cmpE evLt orI3 cmpI;obtain⟨s,p,l⟩:=x;obtain⟨t,q,m⟩:=y;cases s<;>cases t<;>simp<;>(repeat' split)<;>omega
theorem ev_ext {x y:Ev} (h1:x.send=y.send) (h2:x.peer=y.peer) (h3:x.label=y.label):x=y:=by
 obtain⟨s,p,l⟩:=x;obtain⟨t,q,m⟩:=y
 simp_all
theorem evLt_irr (x:Ev):¬evLt x x:=by unfold evLt;intro h;rcases h with ⟨h1,h2⟩ | ⟨_,h | ⟨_,h⟩⟩<;>first | (rw[h1] at h2;cases h2) | omega
theorem evLt_trans {x y z:Ev} (h1:evLt x y) (h2:evLt y z):evLt x z:=by
 unfold evLt at *;obtain⟨s,p,l⟩:=x;obtain⟨t,q,m⟩:=y;obtain⟨u,r,n⟩:=z;cases s<;>cases t<;>cases u<;>simp_all<;>omega
theorem evLt_tri (x y:Ev):evLt x y\/x=y\/evLt y x:=by
 unfold evLt;obtain⟨s,p,l⟩:=x;obtain⟨t,q,m⟩:=y;cases s<;>cases t<;>simp<;>omega
def compactL:List Ev->List Ev
 | []=>[]
 | x::r=>match compactL r with
  | []=>[x]
  | y::t=>if x=y then y::t else x::y::t
theorem compactL_mem:∀(l:List Ev) (x:Ev),x∈compactL l ↔ x∈l
 | [],x=>by simp[compactL]
 | a::r,x=>by
  have ih:=compactL_mem r;rw[compactL];split
  .rename_i h;rw[h] at ih;have:=ih x
   simp_all
  .rename_i y t h;rw[h] at ih;have h1:=ih x;split
   .rename_i e;subst e;have h2:=(ih a).1 (by simp);rw[h1];simp only[Yr];constructor
    .exact .inr
    .rintro (rfl | h)
     .exact h2
     .exact h
   .rw[Yr,h1,Yr]
theorem compactL_sorted:∀(l:List Ev),l.Pairwise (fun a b=>¬evLt b a)->(compactL l).Pairwise evLt
 | [],_=>by simp[compactL]
 | a::r,h=>by
  obtain⟨h1,h2⟩:=List.pairwise_cons.1 h;have ih:=compactL_sorted r h2;rw[compactL];split
  .simp
  .rename_i y t hc;rw[hc] at ih;split
   .exact ih
   .rename_i hne;refine List.pairwise_cons.2 ⟨fun z hz=>?_,ih⟩;have hay:evLt a y:=by
     have hy:y∈r:=(compactL_mem r y).1 (by rw[hc];simp);rcases evLt_tri a y with h3 | h3 | h3
     .exact h3
     .exact absurd h3 hne
     .exact absurd h3 (h1 y hy)
    rcases Yr.1 hz with rfl | hz
    .exact hay
    .exact evLt_trans hay ((List.pairwise_cons.1 ih).1 z hz)
theorem sorted_ext:∀(l m:List Ev),l.Pairwise evLt->m.Pairwise evLt->(∀x,x∈l ↔ x∈m)->l=m
 | [],[],_,_,_=>rfl
 | [],b::m,_,_,h=>absurd ((h b).2 (by simp)) (by simp)
 | a::l,[],_,_,h=>absurd ((h a).1 (by simp)) (by simp)
 | a::l,b::m,hl,hm,h=>by
  obtain⟨h1,h2⟩:=List.pairwise_cons.1 hl;obtain⟨h3,h4⟩:=List.pairwise_cons.1 hm;have hab:a=b:=by
   rcases Yr.1 ((h a).1 (by simp)) with e | ha
   .exact e
   .rcases Yr.1 ((h b).2 (by simp)) with e | hb
    .exact e.symm
    .exact absurd (evLt_trans (h1 b hb) (h3 a ha)) (evLt_irr a)
  subst hab;congr 1;refine sorted_ext l m h2 h4 fun x=>?_;have hx:=h x;rw[Yr,Yr] at hx;constructor
  .intro hm';rcases hx.1 (.inr hm') with rfl | h5
   .exact absurd (h1 x hm') (evLt_irr x)
   .exact h5
  .intro hm';rcases hx.2 (.inr hm') with rfl | h5
   .exact absurd (h3 x hm') (evLt_irr x)
   .exact h5
def insE (x:Ev):List Ev->List Ev
 | []=>[x]
 | y::r=>if evLt y x then y::insE x r else if x=y then y::r else x::y::r
theorem insE_mem (x z:Ev):∀l:List Ev,z∈insE x l ↔ z=x\/z∈l
 | []=>by simp[insE]
 | y::r=>by
  rw[insE];split
  .rw[Yr,insE_mem x z r,Yr];constructor
   .rintro (h | h | h)
    .exact .inr (.inl h)
    .exact .inl h
    .exact .inr (.inr h)
   .rintro (h | h | h)
    .exact .inr (.inl h)
    .exact .inl h
    .exact .inr (.inr h)
  .split
   .rename_i e;subst e;simp
   .simp
theorem insE_sorted (x:Ev):∀l:List Ev,l.Pairwise evLt->(insE x l).Pairwise evLt
 | [],_=>by simp[insE]
 | y::r,h=>by
  obtain⟨h1,h2⟩:=List.pairwise_cons.1 h;rw[insE];split
  .rename_i hyx;refine List.pairwise_cons.2 ⟨fun z hz=>?_,insE_sorted x r h2⟩;rcases (insE_mem x z r).1 hz with rfl | hz
   .exact hyx
   .exact h1 z hz
  .split
   .exact h
   .rename_i hyx hne;have hxy:evLt x y:=by
     rcases evLt_tri x y with h3 | h3 | h3
     .exact h3
     .exact absurd h3 hne
     .exact absurd h3 hyx
    refine List.pairwise_cons.2 ⟨fun z hz=>?_,h⟩;rcases Yr.1 hz with rfl | hz
    .exact hxy
    .exact evLt_trans hxy (h1 z hz)
def sortE (l:List Ev):List Ev:=l.foldr insE []
theorem sortE_mem (l:List Ev) (x:Ev):x∈sortE l ↔ x∈l:=by
 unfold sortE
 induction l with
 | nil=>simp
 | cons a l ih=>rw[List.foldr_cons,insE_mem,ih,Yr]
theorem sortE_sorted (l:List Ev):(sortE l).Pairwise evLt:=by
 unfold sortE
 induction l with
 | nil=>simp
 | cons a l ih=>exact insE_sorted a _ ih
theorem compact_sortE {l l':List Ev} (hp:l'.Perm l) (hs:l'.Pairwise fun a b=>¬evLt b a):compactL l'=sortE l:=
 sorted_ext _ _ (compactL_sorted l' hs) (sortE_sorted l) fun x=>by rw[compactL_mem,sortE_mem,hp.mem_iff]
def elems (p:Nat->Bool):List Nat:=(List.range 4096).filter p
theorem elems_mem {p:Nat->Bool} {j:Nat}:j∈elems p ↔ j<4096/\p j=true:=by unfold elems;rw[List.mem_filter,List.mem_range]
def toL (es:List Ed) (role:Int) (p:Nat->Bool) (x:Ev):List Int:=(elems p).flatMap fun n=>(visL es role n).filterMap fun a=>if a.x=x then some a.to else none
def evL (es:List Ed) (role:Int) (p:Nat->Bool):List Ev:=(elems p).flatMap fun n=>(visL es role n).map (·.x)
def evs (es:List Ed) (role:Int) (p:Nat->Bool):List Ev:=sortE (evL es role p)
end Go.VC
end

section
namespace Go.VC
structure Mv where
 f:Int
 send:Bool
 peer:Int
 label:Int
 t:Int
 ag:Bool
 deriving DecidableEq
def Mv.cs (m:Mv):List Value:=[.int .i64 m.f,.bool m.send,.int .i64 m.peer,.int .i64 m.label,.int .i64 m.t,.bool m.ag]
abbrev PSet:=Nat->Bool
open Classical in
noncomputable def rowI:List PSet->PSet->Nat
 | [],_=>0
 | q::r,p=>if q=p then 0 else rowI r p+1
open Classical in
noncomputable def rowS (S:List PSet) (p:PSet):List PSet:=if p∈S then S else S++[p]
theorem rowI_lt {S:List PSet} {p:PSet}:rowI S p<S.length ↔ p∈S:=by
 induction S with
 | nil=>simp[rowI]
 | cons q r ih=>
  rw[rowI,Yr];split
  .rename_i h;simp[h]
  .rename_i h;rw[Yyj];constructor
   .intro h1;exact .inr (ih.1 (by omega))
   .rintro (h1 | h1)
    .exact absurd h1.symm h
    .have:=ih.2 h1;omega
theorem rowI_of_not {S:List PSet} {p:PSet} (h:p∉S):rowI S p=S.length:=by
 induction S with
 | nil=>rfl
 | cons q r ih=>
  rw[Yr,not_or] at h;rw[rowI,if_neg (fun e=>h.1 e.symm),ih h.2,Yyj]
theorem rowI_first {S:List PSet} {p:PSet} {i:Nat} (hi:S[i]?=some p) (h:∀(j:Nat) (q:PSet),j<i->S[j]?=some q->q≠p):rowI S p=i:=by
 induction S generalizing i with
 | nil=>simp at hi
 | cons q r ih=>
  cases i with
  | zero=>simp at hi;rw[rowI,if_pos hi]
  | succ i=>
   rw[rowI,if_neg (h 0 q (by omega) rfl),ih (by simpa using hi) fun j q' hj hq=>h (j+1) q' (by omega) (by simpa using hq)]
noncomputable def arcsF (es:List Ed) (role:Int) (i:Nat) (p:PSet):List Ev->List PSet->List Mv->List PSet × List Mv
 | [],S,M=>(S,M)
 | x::r,S,M=>arcsF es role i p r (rowS S (clo es role (toL es role p x))) (M++[⟨i,x.send,x.peer,x.label,rowI S (clo es role (toL es role p x)),false⟩])
noncomputable def viewsF (es:List Ed) (role:Int):Nat->Nat->List PSet->List Mv->Option (List PSet × List Mv)
 | 0,_,_,_=>none
 | f+1,i,S,M=>match S[i]? with
  | none=>some (S,M)
  | some p=>if (arcsF es role i p (evs es role p) S M).1.length>200 then none else viewsF es role f (i+1) (arcsF es role i p (evs es role p) S M).1 (arcsF es role i p (evs es role p) S M).2
noncomputable def views (g:Gl) (role:Int):Option (List PSet × List Mv):=viewsF g.es role 202 0 [clo g.es role [g.s]] []
end Go.VC
end

section
namespace Go.VC
structure Ti where
 ag:Bool
 k:Int
 x:Ev
 deriving DecidableEq
def Ti.cs (t:Ti):List Value:=[.bool t.ag,.int .i64 t.k,.bool t.x.send,.int .i64 t.x.peer,.int .i64 t.x.label]
def ti0:Ti:=⟨false,0,⟨false,0,0⟩⟩
def updT (T:List Ti) (n:Nat) (f:Ti->Ti):List Ti:=match T[n]? with | some t=>T.set n (f t) | none=>T
def own1 (role:Int) (s:List Bool × List Ti) (x:Ed):List Bool × List Ti:=
 if x.a=role then (s.1.set x.f.toNat true,updT s.2 x.f.toNat fun t=>{ t with ag:=x.ag }) else s
def own2 (es:List Ed) (O:List Bool) (T:List Ti) (t:To):List Ti:=
 match O[t.s.toNat]?,es[t.e.toNat]? with
 | some true,some x=>updT T t.s.toNat fun q=>⟨q.ag,t.k,⟨true,x.b,x.l⟩⟩
 | _,_=>T
theorem updT_len (T:List Ti) (n:Nat) (f:Ti->Ti):(updT T n f).length=T.length:=by
 unfold updT;split
 .rw[Yyh]
 .rfl
theorem own1_len (role:Int) (s:List Bool × List Ti) (x:Ed):(own1 role s x).1.length=s.1.length/\(own1 role s x).2.length=s.2.length:=by
 unfold own1;split
 .exact⟨Yyh,updT_len _ _ _⟩
 .exact⟨rfl,rfl⟩
theorem own2_len (es:List Ed) (O:List Bool) (T:List Ti) (t:To):(own2 es O T t).length=T.length:=by
 unfold own2;split
 .exact updT_len _ _ _
 .rfl
def ownE (es:List Ed) (role:Int) (n:Nat):List Bool × List Ti:=es.foldl (own1 role) (List.replicate n false,List.replicate n ti0)
def ownT (es:List Ed) (ts:List To) (role:Int) (n:Nat):List Ti:=ts.foldl (own2 es (ownE es role n).1) (ownE es role n).2
theorem ownE_len (es:List Ed) (role:Int) (n:Nat):(ownE es role n).1.length=n/\(ownE es role n).2.length=n:=by
 unfold ownE
 suffices h:∀(l:List Ed) (s:List Bool × List Ti),(l.foldl (own1 role) s).1.length=s.1.length/\(l.foldl (own1 role) s).2.length=s.2.length by
  have:=h es (List.replicate n false,List.replicate n ti0);simpa using this
 intro l
 induction l with
 | nil=>intro s;exact⟨rfl,rfl⟩
 | cons a l ih=>intro s;rw[List.foldl_cons];have h1:=ih (own1 role s a);have h2:=own1_len role s a;exact⟨h1.1.trans h2.1,h1.2.trans h2.2⟩
theorem ownT_len (es:List Ed) (ts:List To) (role:Int) (n:Nat):(ownT es ts role n).length=n:=by
 unfold ownT
 suffices h:∀(l:List To) (T:List Ti),(l.foldl (own2 es (ownE es role n).1) T).length=T.length from (h ts _).trans (ownE_len es role n).2
 intro l
 induction l with
 | nil=>intro s;rfl
 | cons a l ih=>intro s;rw[List.foldl_cons,ih,own2_len]
theorem foldl_snoc {α β:Type} {f:β->α->β} {b:β} {l:List α} {i:Nat} {x:α} (h:l[i]?=some x):(l.take (i+1)).foldl f b=f ((l.take i).foldl f b) x:=by
 rw[List.take_add_one,h,List.foldl_append];rfl
theorem St.setf {α:Type} {h0 h:Heap} {L:List It} (hs:St h0 h L) (k:Nat) {s:Sl} {e:TypeId} {n:Nat} {cs:α->List Value} {l:List α} (hk:L[k]?=some (.sl s e n (l.map cs))) (hn:0<n) {x:Int} (hx0:0<=x) (hx1:x<(s.n:Nat)) (j:Nat) {y:α} (hy:l[x.toNat]?=some y) (y':α) {vs:List Value} (hsp:splice (cs y) j vs=cs y')
  (hv:j+vs.length<=n) {m:Nat} (hm:m=vs.length) {K:Nat->Nat->Heap->Prop} (hK:∀b o h',St h0 h' (L.set k (.sl s e n ((l.set x.toNat y').map cs)))->K b o h') :
  NB s.a fun b o=>(0<=x/\x<(s.n:Nat))/\(okAt h ⟨b,o+x.toNat*n+j,none⟩ m/\∀h',h'=hputs h ⟨b,o+x.toNat*n+j,none⟩ 0 vs->K b o h'):=by
 refine hs.nbput k hk hn (i:=x.toNat) (row:=cs y) (by rw[Yd,hy];rfl) j hv (fun b o h' h1=>hK b o h' ?_) hm ⟨hx0,hx1⟩;rw[hsp] at h1;rw[List.map_set];exact h1
theorem updT_get {T:List Ti} {n:Nat} {f:Ti->Ti} {t:Ti} (h:T[n]?=some t):updT T n f=T.set n (f t):=by unfold updT;rw[h]
def sndAt (L:List Ev) (i:Nat):Bool:=match L[i]? with | some x=>x.send | none=>false
def badV (F:Nat->List Ev) (en:Nat->Bool) (l:List Nat) (n:Nat):Bool:=sndAt (F n) 0&&(en n || !sndAt (F n) ((F n).length-1)||l.any fun k=>en k||decide (F n≠F k))
def stepV (F:Nat->List Ev) (en:Nat->Bool) (O:List Bool) (T:List Ti) (l:List Nat) (st:Option (Bool × Ti)) (n:Nat):Option (Bool × Ti):=
 match st with
 | none=>none
 | some (k,o)=>if badV F en l n then none else match O[n]?,T[n]? with
  | some true,some t=>if k&&decide (t≠o) then none else some (true,t)
  | _,_=>some (k,o)
def viewV (F:Nat->List Ev) (en:Nat->Bool) (O:List Bool) (T:List Ti) (l:List Nat):Option Ti:=(l.foldl (stepV F en O T l) (some (false,ti0))).map Prod.snd
theorem stepV_none (F:Nat->List Ev) (en:Nat->Bool) (O:List Bool) (T:List Ti) (l m:List Nat):m.foldl (stepV F en O T l) none=none:=by
 induction m with
 | nil=>rfl
 | cons a m ih=>rw[List.foldl_cons];exact ih
theorem viewV_none {F:Nat->List Ev} {en:Nat->Bool} {O:List Bool} {T:List Ti} {l:List Nat} {i:Nat} {b:Option (Bool × Ti)} {n:Nat} (hb:(l.take i).foldl (stepV F en O T l) (some (false,ti0))=b) (hn:l[i]?=some n) (h:stepV F en O T l b n=none):viewV F en O T l=none:=by
 unfold viewV;have e:l=l.take i++(n::l.drop (i+1)):=by
  have:=List.take_append_drop i l;obtain⟨h1,h2⟩:=Ya.1 hn;rw[List.drop_eq_getElem_cons h1,h2] at this;exact this.symm
 have e2:l.foldl (stepV F en O T l) (some (false,ti0))=none:=by
  have:∀m,m=l->m.foldl (stepV F en O T l) (some (false,ti0))=none:=by
   intro m hm;rw[hm.trans e,List.foldl_append,hb,List.foldl_cons,h,stepV_none]
  exact this l rfl
 rw[e2];rfl
theorem ti_eqb (x y:Ti):(((x.ag==y.ag)&&((x.k==y.k)&&(((x.x.send==y.x.send)&&((x.x.peer==y.x.peer)&&((x.x.label==y.x.label)&&true)))&&true))):Bool)=decide (x=y):=by
 obtain⟨a,k,⟨s,p,l⟩⟩:=x;obtain⟨a',k',⟨s',p',l'⟩⟩:=y;simp[Bool.beq_eq_decide_eq,<-Bool.decide_and]
theorem Rw.atI {α:Type} {h:Heap} {k:Nat} {s:Sl} {cs:α->List Value} {L:List α} (hr:Rw h k s (L.map cs)) {b o:Nat} (ha:s.a=some ⟨b,o,none⟩) {i:Nat} {y:α} (hi:L[i]?=some y):atC h ⟨b,o+i*k,none⟩ (cs y):=by
 obtain⟨b',o',ha',hall⟩:=hr.2 (by rw[Yc];have:=(Ya.1 hi).1;omega);rw[ha] at ha';cases ha';exact hall i (cs y) (by rw[Yd,hi];rfl)
theorem St.nbw {α:Type} {h0 h:Heap} {L:List It} (hs:St h0 h L) (k:Nat) {s:Sl} {e:TypeId} {n:Nat} {cs:α->List Value} {l:List α} (hk:L[k]?=some (.sl s e n (l.map cs))) (hn:0<n) {x:Int} (hx0:0<=x) (hx1:x<(s.n:Nat)) {F:Nat->Nat->Prop}
  (hF:∀b o y,l[x.toNat]?=some y->s.a=some ⟨b,o,none⟩->atC h ⟨b,o+x.toNat*n,none⟩ (cs y)->(∀(j:Nat) (y':α) (vs:List Value),splice (cs y) j vs=cs y'->j+vs.length<=n->∀ {m:Nat} (_:m=vs.length) {K:Heap->Prop},(∀h',St h0 h' (L.set k (.sl s e n ((l.set x.toNat y').map cs)))->K h') ->
   okAt h ⟨b,o+x.toNat*n+j,none⟩ m/\∀h',h'=hputs h ⟨b,o+x.toNat*n+j,none⟩ 0 vs->K h')->F b o):NB s.a fun b o=>(0<=x/\x<(s.n:Nat))/\F b o:=by
 have hr:=hs.rows k hk hn;have hl:=hr.ln;have hlt:x.toNat<l.length:=by omega
 have hg:l[x.toNat]?=some l[x.toNat]:=Yi hlt;refine hr.nb (i:=x.toNat) (row:=cs l[x.toNat]) (by rw[Yd,hg];rfl) fun b o ha hat=>⟨⟨hx0,hx1⟩,hF b o _ hg ha hat ?_⟩;intro j y' vs hsp hv m hm K hK;have h1:=hs.setf k hk hn hx0 hx1 j hg y' hsp hv hm (K:=fun _ _ h'=>K h') (fun _ _ h' h2=>hK h' h2);rw[ha,NB_some] at h1;exact h1.2
structure Mch where
 role:Int
 n:Int
 s:Int
 fin:List Bool
 mv:List Mv
 li:List To
def updR (n:Nat) (x:Ti) (y:Mv):Mv:=if y.f=n/\y.send=true then { y with ag:=x.ag } else y
def limC (n:Nat) (x:Ti) (q:Mv × Nat):Option To:=if q.1.f=n/\q.1.send=true/\x.k>0/\x.x=⟨true,q.1.peer,q.1.label⟩ then some ⟨n,x.k,q.2⟩ else none
def limR (n:Nat) (x:Ti) (M:List Mv):List To:=M.zipIdx.filterMap (limC n x)
def rawL (vw:List Nat->Option Ti):Nat->List PSet->List Mv->List To->Option (List Mv × List To)
 | _,[],M,L=>some (M,L)
 | n,p::S,M,L=>match vw (elems p) with
  | none=>none
  | some x=>rawL vw (n+1) S (M.map (updR n x)) (L++limR n x M)
theorem updR_same (n:Nat) (x:Ti) (y:Mv):(updR n x y).f=y.f/\(updR n x y).send=y.send/\(updR n x y).peer=y.peer/\(updR n x y).label=y.label/\(updR n x y).t=y.t:=by
 unfold updR;split<;>exact⟨rfl,rfl,rfl,rfl,rfl⟩
theorem limR_len (n:Nat) (x:Ti) (M:List Mv):(limR n x M).length<=M.length:=by
 unfold limR;refine Yys (List.length_filterMap_le _ _) ?_;rw[List.length_zipIdx];exact Yyt _
theorem zip_snoc {α:Type} {l:List α} {i:Nat} {x:α} (h:l[i]?=some x):(l.take (i+1)).zipIdx=(l.take i).zipIdx++[(x,i)]:=by
 rw[take_snoc h,List.zipIdx_append,Yu,Nat.min_eq_left (Nat.le_of_lt (Ya.1 h).1)];simp
theorem set_split {α:Type} {i:Nat} {x y:α} (f:α->α) {M:List α} (h:M[i]?=some x) (hy:f x=y):((M.take i).map f++M.drop i).set i y=(M.take (i+1)).map f++M.drop (i+1):=by
 obtain⟨h1,h2⟩:=Ya.1 h;have hl:((M.take i).map f).length=i:=by rw[Yc,Yu];omega
 rw[take_snoc h,Ym,List.drop_eq_getElem_cons h1,List.set_append_right _ _ (by omega),hl,Nat.sub_self,List.set_cons_zero,Yz,<-hy];rfl
theorem get_split {α:Type} {i:Nat} {f:α->α} {M:List α}:((M.take i).map f++M.drop i)[i]?=M[i]?:=by
 by_cases hi:i<=M.length
 .have hl:((M.take i).map f).length=i:=by rw[Yc,Yu];omega
  rw[Yyc (by omega),hl,Nat.sub_self,List.getElem?_drop,Nat.add_zero]
 .rw[Yl (by rw[Yh,Yc,Yu,List.length_drop];omega),Yl (by omega)]
end Go.VC
end

section
namespace Go.VC
def dedF {K:Type} [DecidableEq K] (l:List K):List K:=l.foldl (fun a k=>if k∈a then a else a++[k]) []
def idxF {K:Type} [DecidableEq K]:List K->K->Nat
 | [],_=>0
 | x::r,k=>if x=k then 0 else idxF r k+1
def canonL {K:Type} [DecidableEq K] (l:List K):List Nat:=l.map (idxF (dedF l))
section
variable {K K':Type} [DecidableEq K] [DecidableEq K']
theorem dedF_snoc (l:List K) (k:K):dedF (l++[k])=if k∈dedF l then dedF l else dedF l++[k]:=by unfold dedF;rw[List.foldl_append];rfl
theorem dedF_take {l:List K} {i:Nat} {k:K} (h:l[i]?=some k):dedF (l.take (i+1))=if k∈dedF (l.take i) then dedF (l.take i) else dedF (l.take i)++[k]:=by rw[take_snoc h,dedF_snoc]
theorem dedF_mem (l:List K) (k:K):k∈dedF l ↔ k∈l:=by
 suffices h:∀(m a:List K),k∈m.foldl (fun a k=>if k∈a then a else a++[k]) a ↔ k∈a\/k∈m by have:=h l [];simpa [dedF] using this
 intro m
 induction m with
 | nil=>intro a;simp
 | cons x r ih=>
  intro a;rw[List.foldl_cons,ih];split
  .rename_i hx;rw[Yr];constructor
   .rintro (h | h)
    .exact .inl h
    .exact .inr (.inr h)
   .rintro (h | rfl | h)
    .exact .inl h
    .exact .inl hx
    .exact .inr h
  .rw[Yk,Ye,Yr];constructor
   .rintro ((h | h) | h)
    .exact .inl h
    .exact .inr (.inl h)
    .exact .inr (.inr h)
   .rintro (h | h | h)
    .exact .inl (.inl h)
    .exact .inl (.inr h)
    .exact .inr h
theorem idxF_mem {l:List K} {k:K} (h:k∈l) (m:List K):idxF (l++m) k=idxF l k:=by
 induction l with
 | nil=>cases h
 | cons x r ih=>
  rw[List.cons_append,idxF,idxF];split
  .rfl
  .rename_i hx;rw[ih (by rcases Yr.1 h with h | h;exact absurd h.symm hx;exact h)]
theorem idxF_not {l:List K} {k:K} (h:k∉l):idxF l k=l.length:=by
 induction l with
 | nil=>rfl
 | cons x r ih=>
  rw[Yr,not_or] at h;rw[idxF,if_neg (fun e=>h.1 e.symm),ih h.2,Yyj]
theorem idxF_lt {l:List K} {k:K} (h:k∈l):idxF l k<l.length:=by
 induction l with
 | nil=>cases h
 | cons x r ih=>
  rw[idxF,Yyj];split
  .omega
  .rename_i hx;have:=ih (by rcases Yr.1 h with h | h;exact absurd h.symm hx;exact h);omega
theorem idxF_inj {l:List K} {a b:K} (ha:a∈l) (h:idxF l a=idxF l b):a=b:=by
 induction l with
 | nil=>cases ha
 | cons x r ih=>
  rw[idxF,idxF] at h;split at h<;>split at h
  .rename_i h1 h2;rw[<-h1,<-h2]
  .omega
  .omega
  .rename_i h1 _;exact ih (by rcases Yr.1 ha with h | h;exact absurd h.symm h1;exact h) (by omega)
theorem canon_pat {l:List K} {l':List K'} (hl:l.length=l'.length) (hp:∀(i j:Nat) (a b:K) (a' b':K'),l[i]?=some a->l[j]?=some b->l'[i]?=some a'->l'[j]?=some b'->(a=b ↔ a'=b')) :
  ∀n,n<=l.length->(dedF (l.take n)).length=(dedF (l'.take n)).length/\∀(j:Nat) (a:K) (a':K'),j<n->l[j]?=some a->l'[j]?=some a'->idxF (dedF (l.take n)) a=idxF (dedF (l'.take n)) a'
 | 0,_=>⟨rfl,fun j _ _ hj=>by omega⟩
 | n+1,hn=>by
  obtain⟨h1,h2⟩:=canon_pat hl hp n (by omega);obtain⟨x,hx⟩:=get_some (l:=l) (i:=n) (by omega);obtain⟨x',hx'⟩:=get_some (l:=l') (i:=n) (by omega);have hmem:x∈dedF (l.take n) ↔ x'∈dedF (l'.take n):=by
   rw[dedF_mem,dedF_mem];constructor
   .intro h;obtain⟨j,hj⟩:=Yf.1 h;have hjn:j<n:=by have:=(Ya.1 hj).1;rw[Yu] at this;omega
    rw[Yyf,if_pos hjn] at hj;obtain⟨y',hy'⟩:=get_some (l:=l') (i:=j) (by omega);have:=(hp j n x x y' x' hj hx hy' hx').1 rfl;subst this;exact Yb (i:=j) (by rw[Yyf,if_pos hjn];exact hy')
   .intro h;obtain⟨j,hj⟩:=Yf.1 h;have hjn:j<n:=by have:=(Ya.1 hj).1;rw[Yu] at this;omega
    rw[Yyf,if_pos hjn] at hj;obtain⟨y,hy⟩:=get_some (l:=l) (i:=j) (by omega);have:=(hp j n y x x' x' hy hx hj hx').2 rfl;subst this;exact Yb (i:=j) (by rw[Yyf,if_pos hjn];exact hy)
  rw[dedF_take hx,dedF_take hx'];by_cases hm:x∈dedF (l.take n)
  .rw[if_pos hm,if_pos (hmem.1 hm)];refine⟨h1,fun j a a' hj ha ha'=>?_⟩;by_cases e:j=n
   .subst e;rw[hx] at ha;cases ha;rw[hx'] at ha';cases ha';obtain⟨i,hi⟩:=Yf.1 ((dedF_mem _ _).1 hm);have hin:i<j:=by have:=(Ya.1 hi).1;rw[Yu] at this;omega
    rw[Yyf,if_pos hin] at hi;obtain⟨y',hy'⟩:=get_some (l:=l') (i:=i) (by omega);have:=(hp i j x x y' x' hi hx hy' hx').1 rfl;rw[h2 i x y' hin hi hy',this]
   .exact h2 j a a' (by omega) ha ha'
  .rw[if_neg hm,if_neg (fun h=>hm (hmem.2 h))];refine⟨by rw[Yh,Yh,h1];rfl,fun j a a' hj ha ha'=>?_⟩;by_cases e:j=n
   .subst e;rw[hx] at ha;cases ha;rw[hx'] at ha';cases ha';have key:∀ {K:Type} [DecidableEq K] {l:List K} {k:K},k∉l->idxF (l++[k]) k=l.length:=by
     intro K _ l k h
     induction l with
     | nil=>rw[List.nil_append,idxF,if_pos rfl];rfl
     | cons x r ih=>
      rw[Yr,not_or] at h;rw[List.cons_append,idxF,if_neg (fun e=>h.1 e.symm),ih h.2,Yyj]
    rw[key hm,key (fun h=>hm (hmem.2 h)),h1]
   .have hmj:∀ {K:Type} [DecidableEq K] {l:List K} {a:K},l[j]?=some a->a∈dedF (l.take n):=fun h=>(dedF_mem _ _).2 (Yb (i:=j) (by rw[Yyf,if_pos (by omega)];exact h));rw[idxF_mem (hmj ha),idxF_mem (hmj ha')];exact h2 j a a' (by omega) ha ha'
theorem canon_eq {l:List K} {l':List K'} (hl:l.length=l'.length) (hp:∀(i j:Nat) (a b:K) (a' b':K'),l[i]?=some a->l[j]?=some b->l'[i]?=some a'->l'[j]?=some b'->(a=b ↔ a'=b')):canonL l=canonL l'/\(dedF l).length=(dedF l').length:=by
 have h:=canon_pat hl hp l.length (Yyt _);rw[Yye,hl,Yye] at h;refine⟨?_,h.1⟩;apply Yyr;intro j;unfold canonL;rw[Yd,Yd];by_cases hj:j<l.length
 .obtain⟨a,ha⟩:=get_some (l:=l) (i:=j) hj;obtain⟨a',ha'⟩:=get_some (l:=l') (i:=j) (by omega);rw[ha,ha',Option.map_some,Option.map_some,h.2 j a a' (by omega) ha ha']
 .rw[Yl (by omega),Yl (by omega)];rfl
theorem canonL_len (l:List K):(canonL l).length=l.length:=Yc _
theorem canonL_get {l:List K} {i:Nat} {k:K} (h:l[i]?=some k):(canonL l)[i]?=some (idxF (dedF l) k):=by unfold canonL;rw[Yd,h];rfl
theorem canonL_lt {l:List K} {c:Nat} (h:c∈canonL l):c<(dedF l).length:=by
 obtain⟨k,hk,rfl⟩:=Yp.1 h;exact idxF_lt ((dedF_mem _ _).2 hk)
theorem canonL_eq {l:List K} {i j:Nat} {a b:K} (ha:l[i]?=some a) (hb:l[j]?=some b):(canonL l)[i]?=(canonL l)[j]? ↔ a=b:=by
 rw[canonL_get ha,canonL_get hb];constructor
 .intro h;exact idxF_inj ((dedF_mem _ _).2 (Yb ha)) (Yyp h)
 .intro h;rw[h]
theorem dedF_canon (l:List K):(dedF (canonL l)).length=(dedF l).length:=by
 refine (canon_eq (canonL_len l) fun i j a b a' b' h1 h2 h3 h4=>?_).2;have:=canonL_eq h3 h4;rw[h1,h2] at this;rw[<-this];exact⟨fun h=>by rw[h],fun h=>Yyp h⟩
theorem dedF_map_le (f:K->K') (l:List K):(dedF (l.map f)).length<=(dedF l).length:=by
 have key:∀n,n<=l.length->(dedF ((l.map f).take n)).length<=(dedF (l.take n)).length:=by
  intro n
  induction n with
  | zero=>intro _;exact Yyt _
  | succ n ih=>
   intro hn;obtain⟨x,hx⟩:=get_some (l:=l) (i:=n) (by omega);rw[dedF_take hx,dedF_take (l:=l.map f) (k:=f x) (by rw[Yd,hx];rfl)];have:=ih (by omega);by_cases hm:x∈dedF (l.take n)
   .have:f x∈dedF ((l.map f).take n):=by
     rw[dedF_mem,<-List.map_take];exact Yp.2 ⟨x,(dedF_mem _ _).1 hm,rfl⟩
    rw[if_pos hm,if_pos this];omega
   .rw[if_neg hm,Yh];split
    .omega
    .rw[Yh];simp only[Yv];omega
 have:=key l.length (Yyt _)
 rwa [Yye,Yj (by rw[Yc];exact Yyt _)] at this
theorem dedF_len_le (l:List K):(dedF l).length<=l.length:=by
 have key:∀n,n<=l.length->(dedF (l.take n)).length<=n:=by
  intro n
  induction n with
  | zero=>intro _;exact Yyt _
  | succ n ih=>
   intro hn;obtain⟨x,hx⟩:=get_some (l:=l) (i:=n) (by omega);rw[dedF_take hx];have:=ih (by omega);split
   .omega
   .rw[Yh];simp only[Yv];omega
 have:=key l.length (Yyt _)
 rwa [Yye] at this
end
structure Sg where
 b:Int
 k:Int
 x:Ev
 ag:Bool
 num:Int
 deriving DecidableEq
def Sg.v (s:Sg):Value:=.agg ⟨[.int .i64 s.b,.int .i64 s.k,.bool s.x.send,.int .i64 s.x.peer,.int .i64 s.x.label,.bool s.ag,.int .i64 s.num]⟩
theorem Sg.v_inj (a b:Sg) (h:a.v=b.v):a=b:=by
 obtain⟨a1,a2,⟨a3,a4,a5⟩,a6,a7⟩:=a;obtain⟨b1,b2,⟨b3,b4,b5⟩,b6,b7⟩:=b;unfold Sg.v at h;simp at h;simp[h]
structure NOk (n:Int) (N:List (Sg × Int)):Prop where
 nd:(N.map Prod.fst).Nodup
 va:∀(j:Nat) (q:Sg × Int),N[j]?=some q->q.2=(j:Int)+n+2
theorem NOk.nil (n:Int):NOk n []:=⟨List.nodup_nil,fun j q h=>by simp at h⟩
theorem NOk.push {n:Int} {N:List (Sg × Int)} (h:NOk n N) {s:Sg} (hs:∀q∈N,q.1≠s):NOk n (N++[(s,(N.length:Int)+n+2)]):=by
 refine⟨?_,fun j q hq=>?_⟩
 .rw[Ym,List.nodup_append];refine⟨h.nd,by simp,fun a ha b hb=>?_⟩;simp only[Yyl,List.map_nil,Ye] at hb;subst hb;obtain⟨q,hq,rfl⟩:=Yp.1 ha;exact hs q hq
 .by_cases hj:j<N.length
  .rw[Yyi hj] at hq;exact h.va j q hq
  .have hjl:=(Ya.1 hq).1;rw[Yh,Yv] at hjl;have:j=N.length:=by omega
   subst this;rw[Yyc (Yyt _),Nat.sub_self] at hq;cases hq;rfl
theorem NOk.keyv {n:Int} {N:List (Sg × Int)} (h:NOk n N) {s s':Sg} {v:Int} (h1:(s,v)∈N) (h2:(s',v)∈N):s=s':=by
 obtain⟨i,hi⟩:=Yf.1 h1;obtain⟨j,hj⟩:=Yf.1 h2;have e1:=h.va i _ hi;have e2:=h.va j _ hj;have:i=j:=by simp only at e1 e2;omega
 subst this;rw[hi] at hj;cases hj;rfl
theorem NOk.val {n:Int} {N:List (Sg × Int)} (h:NOk n N) {s:Sg} {v v':Int} (h1:(s,v)∈N) (h2:(s,v')∈N):v=v':=by
 obtain⟨i,hi⟩:=Yf.1 h1;obtain⟨j,hj⟩:=Yf.1 h2;have hi':(N.map Prod.fst)[i]?=some s:=by rw[Yd,hi];rfl
 have hj':(N.map Prod.fst)[j]?=some s:=by rw[Yd,hj];rfl
 have:i=j:=(List.getElem?_inj (Ya.1 hi').1 h.nd).1 (hi'.trans hj'.symm);subst this;rw[hi] at hj;cases hj;rfl
inductive HsN (N:List (Sg × Int)):Int->List Sg->Prop
 | base {s:Sg} {v:Int} (hm:(s,v)∈N) (hk:s.k=0):HsN N v [s]
 | step {s:Sg} {v:Int} {l:List Sg} (hm:(s,v)∈N) (hk:s.k≠0) (hh:HsN N s.b l):HsN N v ({ s with b:=0 }::l)
theorem HsN.mono {N N':List (Sg × Int)} (hsub:∀q∈N,q∈N') {v:Int} {l:List Sg} (h:HsN N v l):HsN N' v l:=by
 induction h with
 | base hm hk=>exact .base (hsub _ hm) hk
 | step hm hk _ ih=>exact .step (hsub _ hm) hk ih
theorem HsN.ne {N:List (Sg × Int)} {v:Int} (h:HsN N v []):False:=by cases h
theorem HsN.inj {n:Int} {N:List (Sg × Int)} (hN:NOk n N):∀ {l:List Sg} {v v':Int},HsN N v l->HsN N v' l->v=v'
 | [],_,_,h,_=>h.ne.elim
 | a::l,v,v',h,h'=>by
  cases h with
  | base hm hk=>
   cases h' with
   | base hm' hk'=>exact hN.val hm hm'
   | @step s' _ _ hm' hk' hh=>exact hh.ne.elim
  | @step s _ _ hm hk hh=>
   generalize hq:({ s with b:=0 }:Sg)=q at h';cases h' with
   | base hm' hk'=>exact hh.ne.elim
   | @step s' _ _ hm' hk' hh'=>
    have hb:=HsN.inj hN hh hh';have:s=s':=by
     obtain⟨a1,a2,a3,a4,a5⟩:=s;obtain⟨b1,b2,b3,b4,b5⟩:=s';simp only[Sg.mk.injEq] at hq ⊢;exact⟨hb,hq.2⟩
    subst this;exact hN.val hm hm'
theorem HsN.func {n:Int} {N:List (Sg × Int)} (hN:NOk n N) {v:Int} {l l':List Sg} (h:HsN N v l):HsN N v l'->l=l':=by
 intro h'
 induction h generalizing l' with
 | base hm hk=>
  cases h' with
  | base hm' hk'=>rw[hN.keyv hm hm']
  | step hm' hk' hh=>have:=hN.keyv hm hm';subst this;exact absurd hk hk'
 | step hm hk hh ih=>
  cases h' with
  | base hm' hk'=>have:=hN.keyv hm hm';subst this;exact absurd hk' hk
  | step hm' hk' hh'=>have:=hN.keyv hm hm';subst this;rw[ih hh']
def nextF (n:Int) (N:List (Sg × Int)) (s:Sg):Int × List (Sg × Int):=match mget N s with
 | some v=>(v,N)
 | none=>((N.length:Int)+n+2,N++[(s,(N.length:Int)+n+2)])
theorem mget_mem {α β:Type} [DecidableEq α] {a:α} {y:β}:∀ {l:List (α × β)},mget l a=some y->(a,y)∈l
 | [],h=>by cases h
 | (x,z)::r,h=>by
  rw[mget] at h;split at h
  .rename_i e;cases h;subst e;simp
  .exact Yn _ (mget_mem h)
theorem mget_not {α β:Type} [DecidableEq α] {a:α}:∀ {l:List (α × β)},mget l a=none->∀q∈l,q.1≠a
 | [],_,q,hq=>by cases hq
 | (x,z)::r,h,q,hq=>by
  rw[mget] at h;split at h
  .cases h
  .rename_i e;rcases Yr.1 hq with rfl | hq
   .exact e
   .exact mget_not h q hq
theorem nextF_spec {n:Int} {N:List (Sg × Int)} (hN:NOk n N) (s:Sg):NOk n (nextF n N s).2/\(∀q∈N,q∈(nextF n N s).2)/\(s,(nextF n N s).1)∈(nextF n N s).2/\(nextF n N s).2.length<=N.length+1/\∀q∈(nextF n N s).2,q∈N\/q.1=s:=by
 unfold nextF;cases h:mget N s with
 | some v=>exact⟨hN,fun q hq=>hq,mget_mem h,by simp,fun q hq=>.inl hq⟩
 | none=>
  refine⟨hN.push (mget_not h),fun q hq=>Yk.2 (.inl hq),Yk.2 (.inr (by simp)),by simp,fun q hq=>?_⟩;rcases Yk.1 hq with hq | hq
  .exact .inl hq
  .rw[Ye] at hq;subst hq;exact .inr rfl
theorem NOk.bound {n:Int} {N:List (Sg × Int)} (h:NOk n N) {s:Sg} {v:Int} (hm:(s,v)∈N):n+2<=v/\v<(N.length:Int)+n+2:=by
 obtain⟨j,hj⟩:=Yf.1 hm;have:=h.va j _ hj;have:=(Ya.1 hj).1;simp only at *;omega
def ev0:Ev:=⟨false,0,0⟩
def Mv.ev (x:Mv):Ev:=⟨x.send,x.peer,x.label⟩
def sgB (C:List Nat) (fin:List Bool) (s:Nat):Sg:=⟨(C.getD s 0:Nat),0,ev0,fin.getD s false,0⟩
def sgL (mv:List Mv) (t:To):Sg:=⟨0,1,match mv[t.e.toNat]? with | some x=>x.ev | none=>ev0,false,t.k⟩
def sgM (C:List Nat) (x:Mv):Sg:=⟨0,2,x.ev,x.ag,(C.getD x.t.toNat 0:Nat)⟩
def keyH (m:Mch) (C:List Nat) (li:List To) (mv:List Mv) (s:Nat):List Sg:=
 ((mv.filter fun x=>x.f=(s:Int)).map (sgM C)).reverse++(((li.filter fun t=>t.s=(s:Int)).map (sgL m.mv)).reverse++[sgB C m.fin s])
def keyS (m:Mch) (C:List Nat) (s:Nat):List Sg:=keyH m C m.li m.mv s
theorem keyH_li {m:Mch} {C:List Nat} {li:List To} {j:Nat} {t:To} (h:li[j]?=some t) (s:Nat):keyH m C (li.take (j+1)) [] s=if t.s=(s:Int) then sgL m.mv t::keyH m C (li.take j) [] s else keyH m C (li.take j) [] s:=by
 unfold keyH;rw[take_snoc h,List.filter_append];by_cases e:t.s=(s:Int)
 .rw[if_pos e,List.filter_cons_of_pos (by simpa using e)];simp
 .rw[if_neg e,List.filter_cons_of_neg (by simpa using e)];simp
theorem keyH_mv {m:Mch} {C:List Nat} {li:List To} {mv:List Mv} {j:Nat} {x:Mv} (h:mv[j]?=some x) (s:Nat):keyH m C li (mv.take (j+1)) s=if x.f=(s:Int) then sgM C x::keyH m C li (mv.take j) s else keyH m C li (mv.take j) s:=by
 unfold keyH;rw[take_snoc h,List.filter_append];by_cases e:x.f=(s:Int)
 .rw[if_pos e,List.filter_cons_of_pos (by simpa using e)];simp
 .rw[if_neg e,List.filter_cons_of_neg (by simpa using e)];simp
def clsK (m:Mch) (C:List Nat):List (List Sg):=(List.range m.n.toNat).map (keyS m C)
def clsN (m:Mch):Nat->List Nat->Nat->List Nat × Nat
 | 0,C,c=>(C,c)
 | f+1,C,c=>if (dedF (clsK m C)).length=c then (canonL (clsK m C),c) else clsN m f (canonL (clsK m C)) (dedF (clsK m C)).length
def cls (m:Mch):List Nat × Nat:=clsN m 202 (List.replicate m.n.toNat 0) 0
theorem clsK_len (m:Mch) (C:List Nat):(clsK m C).length=m.n.toNat:=by unfold clsK;rw[Yc,Yyd]
theorem clsK_ge {m:Mch} {C:List Nat} (hC:C.length=m.n.toNat):(dedF C).length<=(dedF (clsK m C)).length:=by
 have e:C=(clsK m C).map fun k=>match k.getLast? with | some s=>s.b.toNat | none=>0:=by
  apply Yyr;intro i;unfold clsK;rw[List.map_map,Yd];by_cases hi:i<m.n.toNat
  .rw[Yyb hi];obtain⟨c,hc⟩:=get_some (l:=C) (i:=i) (by omega);rw[hc];show _=some (match (keyS m C i).getLast? with | some s=>s.b.toNat | none=>0);have:(keyS m C i).getLast?=some (sgB C m.fin i):=by
    unfold keyS keyH;rw[<-Yz,List.getLast?_append];rfl
   rw[this];unfold sgB;simp[Yo,hc]
  .rw[Yl (by omega),Yl (by rw[Yyd];omega)];rfl
 have:=dedF_map_le (fun k:List Sg=>match k.getLast? with | some s=>s.b.toNat | none=>0) (clsK m C)
 rwa [<-e] at this
theorem dedF_nodup {K:Type} [DecidableEq K] (l:List K):(dedF l).Nodup:=by
 suffices h:∀(m a:List K),a.Nodup->(m.foldl (fun a k=>if k∈a then a else a++[k]) a).Nodup from h l [] List.nodup_nil
 intro m
 induction m with
 | nil=>intro a h;exact h
 | cons x r ih=>
  intro a h;rw[List.foldl_cons];refine ih _ ?_;split
  .exact h
  .rename_i hx;rw[List.nodup_append];exact⟨h,by simp,fun a ha b hb=>by rw[Ye] at hb;subst hb;exact fun e=>hx (e ▸ ha)⟩
def zipI {K:Type} (D:List K) (k:Nat):List (K × Int):=(D.zipIdx k).map fun q=>(q.1,(q.2:Int))
theorem zipI_fst {K:Type} (D:List K) (k:Nat):(zipI D k).map Prod.fst=D:=by
 unfold zipI;rw[List.map_map];exact List.zipIdx_map_fst k D
theorem zipI_snoc {K:Type} (D:List K) (a:K):zipI (D++[a]) 0=zipI D 0++[(a,(D.length:Int))]:=by
 unfold zipI;rw[List.zipIdx_append,Ym];simp
theorem zipI_len {K:Type} (D:List K) (k:Nat):(zipI D k).length=D.length:=by unfold zipI;rw[Yc,List.length_zipIdx]
theorem mget_zipI {K:Type} [DecidableEq K] (a:K):∀(D:List K) (k:Nat),mget (zipI D k) a=if a∈D then some ((idxF D a:Int)+k) else none
 | [],k=>rfl
 | x::r,k=>by
  have e:zipI (x::r) k=(x,(k:Int))::zipI r (k+1):=rfl;rw[e,mget,idxF];by_cases h:x=a
  .rw[if_pos h,if_pos (by simp[h]),if_pos h];simp
  .rw[if_neg h,mget_zipI a r (k+1),if_neg h];by_cases hm:a∈r
   .rw[if_pos hm,if_pos (Yn _ hm)];congr 1;omega
   .rw[if_neg hm,if_neg (fun hc=>by rcases Yr.1 hc with hc | hc;exact h hc.symm;exact hm hc)]
structure MOk (m:Mch):Prop where
 n:1<=m.n/\m.n<=200
 s:0<=m.s/\m.s<m.n
 fl:m.fin.length=m.n.toNat
 ml:m.mv.length<=400
 ll:m.li.length<=80000
 mv:∀x∈m.mv,0<=x.f/\x.f<m.n/\0<=x.t/\x.t<m.n/\(-9223372036854775808<=x.peer/\x.peer<=9223372036854775807)/\(-9223372036854775808<=x.label/\x.label<=9223372036854775807)
 li:∀t∈m.li,0<=t.s/\t.s<m.n/\0<=t.e/\t.e<m.mv.length/\(-9223372036854775808<=t.k/\t.k<=9223372036854775807)
def mvLt (a b:Mv):Prop:=a.f<b.f\/(a.f=b.f/\evLt a.ev b.ev)
theorem mvLt_irr (a:Mv):¬mvLt a a:=by
 rintro (h | ⟨_,h⟩)
 .omega
 .exact evLt_irr _ h
theorem mvLt_trans {a b c:Mv} (h1:mvLt a b) (h2:mvLt b c):mvLt a c:=by
 rcases h1 with h1 | ⟨h1,h1'⟩<;>rcases h2 with h2 | ⟨h2,h2'⟩
 .exact .inl (by omega)
 .exact .inl (by omega)
 .exact .inl (by omega)
 .exact .inr ⟨by omega,evLt_trans h1' h2'⟩
theorem mvSorted_same:∀ {l l':List Mv},l'.Perm l->l.Pairwise mvLt->l'.Pairwise (fun a b=>¬mvLt b a)->l'=l
 | [],l',hp,_,_=>List.perm_nil.1 hp
 | a::l,[],hp,_,_=>by have:=hp.length_eq;simp at this
 | a::l,b::l',hp,hs,hs'=>by
  rw[List.pairwise_cons] at hs hs';have hb:b=a:=by
   have hbm:b∈a::l:=hp.subset (Yx ..);have ham:a∈b::l':=hp.symm.subset (Yx ..);rcases Yr.1 hbm with h | h
   .exact h
   .rcases Yr.1 ham with h' | h'
    .exact h'.symm
    .exact absurd (hs.1 b h) (hs'.1 a h')
  subst hb;rw[mvSorted_same ((List.perm_cons b).1 hp) hs.2 hs'.2]
end Go.VC
end

section
namespace Go.VC
open Go.Proofs Go.LexS
def sideM (x:Mv):Int:=if x.send then 0 else 1
def cmpM (x y:Mv):Int:=orI3 (cmpI x.f y.f) (orI3 (cmpI (sideM x) (sideM y)) (orI3 (cmpI x.peer y.peer) (cmpI x.label y.label)))
theorem cmpM_neg {x y:Mv}:cmpM x y<0 ↔ mvLt x y:=by
 unfold cmpM mvLt evLt orI3 cmpI sideM Mv.ev;obtain⟨f,s,p,l,t,a⟩:=x;obtain⟨f',s',p',l',t',a'⟩:=y;cases s<;>cases s'<;>simp<;>(repeat' split)<;>omega
namespace M
theorem inrows (L:List Int):∀r∈L.map inC,r.length=1:=fun r hr=>by obtain⟨x,_,rfl⟩:=Yp.1 hr;rfl
end M
variable [Mono]
namespace M
theorem nan151 (x:Int) (h:Heap):Fn Pz 185 #[.int .i64 x] h fun v h'=>v=.bool false/\h'=h:=by
 apply vc185;unfold W185;exact⟨by rw[bne_self_eq_false],rfl⟩
theorem cmp110 (x y:Int) (h:Heap):Fn Pz 155 #[.int .i64 x,.int .i64 y] h fun v h'=>v=.int .i64 (cmpI x y)/\h'=h:=by
 apply vc155;unfold W155;refine (nan151 x h).mono ?_;rintro _ _ ⟨rfl,rfl⟩;refine⟨_,rfl,?_⟩;refine (nan151 y _).mono ?_;rintro _ _ ⟨rfl,rfl⟩;refine⟨_,rfl,?_⟩;refine sB_f rfl (sB_f rfl ?_);unfold cmpI;refine sBi (fun c=>?_) (fun c=>sBi (fun d=>?_) (fun d=>?_))
 .exact⟨by rw[if_pos c],rfl⟩
 .exact⟨by rw[if_neg c,if_pos d],rfl⟩
 .exact⟨by rw[if_neg c,if_neg d],rfl⟩
theorem or109 (l:List Int) (s:Sl) (h:Heap) (hr:Rw h 1 s (l.map inC)) (hm:l.length<=1048576) :
  Fn Pz 154 #[.slice s.a s.n s.c] h fun v h'=>v=.int .i64 (l.foldr orI3 0)/\h'=h:=by
 apply vc154;unfold W154;have hn:=hr.ln;refine up_loop (n:=s.n) (fun i h'=>h'=h/\l.foldr orI3 0=(l.drop i).foldr orI3 0) ⟨rfl,rfl⟩ ?_;rintro-i h5 hi ⟨rfl,hq⟩;refine sB_intro (fun l2=>?_) (fun l2=>?_)
 .replace l2:=lt_t l2;refine hr.nbI (by omega) (by omega) fun b o d g t=>?_;replace g:l[i]?=some d:=g;have hd:l.drop i=d::l.drop (i+1):=by
   obtain⟨hl,he⟩:=Ya.1 g;rw[List.drop_eq_getElem_cons hl,he]
  rw[hd,List.foldr_cons] at hq;refine⟨_,t.hd,?_⟩;refine sBn (fun c=>?_) (fun c=>?_)
  .refine⟨?_,rfl⟩;rw[hq];unfold orI3;rw[if_pos c]
  .refine Up.next l2 (by omega) ⟨rfl,?_⟩;rw[hq];unfold orI3;rw[if_neg (by omega)]
 .replace l2:=lt_f l2;rw[List.drop_eq_nil_of_le (by omega)] at hq;exact⟨by rw[hq];rfl,rfl⟩
theorem compare138 (x y:Ev) (h:Heap):Fn Pz 176 #[.agg ⟨x.cs⟩,.agg ⟨y.cs⟩] h fun v h'=>v=.int .i64 (cmpE x y)/\Ext h h':=by
 apply vc176 x.send x.peer x.label y.send y.peer y.label;unfold W176;have hs:=St.refl h;refine hs.newb fun h7 hs=>?_;refine hs.newb fun h8 hs=>?_;refine⟨_,hs.rd 1 rfl rfl,?_⟩;refine⟨_,hs.rd 0 rfl rfl,?_⟩;refine sB_intro (fun c=>?_) (fun c=>?_)
 .have hne:x.send≠y.send:=by simpa using c
  refine⟨_,hs.rd 1 rfl rfl,?_⟩;unfold cmpE;rw[if_pos hne];refine sB_intro (fun d=>?_) (fun d=>?_)
  .exact⟨by rw[if_pos d],hs.ext⟩
  .exact⟨by rw[if_neg (by rw[d];simp)],hs.ext⟩
 .have he:x.send=y.send:=by simpa using c
  refine⟨_,hs.rd 1 rfl rfl,_,hs.rd 0 rfl rfl,_,hs.rd 1 rfl rfl,_,hs.rd 0 rfl rfl,?_⟩;refine (cmp110 _ _ _).mono ?_;rintro _ _ ⟨rfl,rfl⟩;refine⟨_,rfl,fun _ _ _ _ hv=>hv,?_⟩;refine (cmp110 _ _ _).mono ?_;rintro _ _ ⟨rfl,rfl⟩;refine⟨_,rfl,fun _ _ _ _ hv=>hv,?_⟩;refine hs.newb fun h22 hs=>?_;have hs2:=hs.blkS 2 1 ([cmpI x.peer y.peer,cmpI x.label y.label].map inC) rfl (inrows _) rfl (by decide);refine (or109 [cmpI x.peer y.peer,cmpI x.label y.label] _ h22 (hs2.rows 0 rfl (by omega)) (show 2<=1048576 by decide)).mono ?_;rintro _ _ ⟨rfl,rfl⟩;refine⟨_,rfl,?_,hs.ext⟩;unfold cmpE;rw[if_neg (by simpa using he)];show Value.int .i64 (orI3 _ (orI3 _ 0))=_;congr 1;unfold orI3;split
  .rfl
  .split<;>omega
theorem side129 (x:Mv) (h:Heap):Fn Pz 166 #[.agg ⟨x.cs⟩] h fun v h'=>v=.int .i64 (sideM x)/\Ext h h':=by
 apply vc166 x.f x.send x.peer x.label x.t x.ag;unfold W166;have hs:=St.refl h;refine hs.newb fun h7 hs=>?_;refine⟨_,hs.rd 0 rfl rfl,?_⟩;unfold sideM;refine sB_intro (fun c=>?_) (fun c=>?_)
 .exact⟨by rw[if_pos c],hs.ext⟩
 .exact⟨by rw[if_neg (by rw[c];simp)],hs.ext⟩
theorem Sm_ext {al:List Addr} {h h':Heap} (E:Ext h h'):Sm al h h':=fun _ _ _ _ hv=>hc_ext E hv
theorem order73 (x y:Mv) (h:Heap):Fn Pz 115 #[.agg ⟨x.cs⟩,.agg ⟨y.cs⟩] h fun v h'=>v=.int .i64 (cmpM x y)/\Ext h h':=by
 apply vc115 x.f x.send x.peer x.label x.t x.ag y.f y.send y.peer y.label y.t y.ag;unfold W115;have hs:=St.refl h;refine hs.newb fun h13 hs=>?_;refine hs.newb fun h14 hs=>?_;refine⟨_,hs.rd 1 rfl rfl,_,hs.rd 0 rfl rfl,_,_,_,_,_,_,hs.at 1 rfl (o:=0) (n:=6) rfl,_,_,_,_,_,_,hs.at 0 rfl (o:=0) (n:=6) rfl,_,hs.rd 1 rfl rfl,_,hs.rd 0 rfl rfl,_,hs.rd 1 rfl rfl,_,hs.rd 0 rfl rfl,?_⟩;refine (cmp110 _ _ _).mono ?_;rintro _ _ ⟨rfl,rfl⟩;refine⟨_,rfl,fun _ _ _ _ hv=>hv,?_⟩;refine (side129 x _).mono ?_;rintro _ h38 ⟨rfl,E1⟩;refine⟨_,rfl,Sm_ext E1,?_⟩;have hs:=hs.step E1;refine (side129 y _).mono ?_;rintro _ h41 ⟨rfl,E2⟩;refine⟨_,rfl,Sm_ext E2,?_⟩;have hs:=hs.step E2;refine (cmp110 _ _ _).mono ?_;rintro _ _ ⟨rfl,rfl⟩;refine⟨_,rfl,fun _ _ _ _ hv=>hv,?_⟩;refine (cmp110 _ _ _).mono ?_;rintro _ _ ⟨rfl,rfl⟩;refine⟨_,rfl,fun _ _ _ _ hv=>hv,?_⟩;refine (cmp110 _ _ _).mono ?_;rintro _ _ ⟨rfl,rfl⟩;refine⟨_,rfl,fun _ _ _ _ hv=>hv,?_⟩;refine hs.newb fun h51 hs=>?_;have hs2:=hs.blkS 4 1 ([cmpI x.f y.f,cmpI (sideM x) (sideM y),cmpI x.peer y.peer,cmpI x.label y.label].map inC) rfl (inrows _) rfl (by decide);refine (or109 [cmpI x.f y.f,cmpI (sideM x) (sideM y),cmpI x.peer y.peer,cmpI x.label y.label] _ h51 (hs2.rows 0 rfl (by omega)) (show 4<=1048576 by decide)).mono ?_;rintro _ _ ⟨rfl,rfl⟩;refine⟨_,rfl,?_,hs.ext⟩;unfold cmpM;show Value.int .i64 (orI3 _ (orI3 _ (orI3 _ (orI3 _ 0))))=_;congr 3;unfold orI3;split
 .rfl
 .omega
end M
end Go.VC
end

section
namespace Go.VC
open Go.Proofs Go.LexS
variable [Mono]
namespace M
theorem of63 (x:Mv) (h:Heap):Fn Pz 63 #[.agg ⟨x.cs⟩] h fun v h'=>v=.agg ⟨x.ev.cs⟩/\Ext h h':=by
 apply vc63 x.f x.send x.peer x.label x.t x.ag;unfold W63;refine (St.refl h).newb fun h7 hs=>?_;refine hs.newb fun h8 hs=>?_;refine⟨_,hs.rd 1 rfl rfl,_,hs.rd 1 rfl rfl,_,hs.rd 1 rfl rfl,?_⟩;refine hs.put 0 rfl (o:=0) (vs:=x.ev.cs) rfl (show 3<=3 by decide) fun h12 hs=>?_;exact⟨_,_,_,hs.at 0 rfl (o:=0) (n:=3) rfl,rfl,hs.ext⟩
theorem compare104 (x y:Ev) (h:Heap):Fn Pz 104 #[.agg ⟨x.cs⟩,.agg ⟨y.cs⟩] h fun v h'=>v=.int .i64 (cmpE x y)/\Ext h h':=by
 apply vc104 x.send x.peer x.label y.send y.peer y.label;unfold W104;have hs:=St.refl h;refine hs.newb fun h7 hs=>?_;refine hs.newb fun h8 hs=>?_;refine⟨_,hs.rd 1 rfl rfl,?_⟩;refine⟨_,hs.rd 0 rfl rfl,?_⟩;refine sB_intro (fun c=>?_) (fun c=>?_)
 .have hne:x.send≠y.send:=by simpa using c
  refine⟨_,hs.rd 1 rfl rfl,?_⟩;unfold cmpE;rw[if_pos hne];refine sB_intro (fun d=>?_) (fun d=>?_)
  .exact⟨by rw[if_pos d],hs.ext⟩
  .exact⟨by rw[if_neg (by rw[d];simp)],hs.ext⟩
 .have he:x.send=y.send:=by simpa using c
  refine⟨_,hs.rd 1 rfl rfl,_,hs.rd 0 rfl rfl,_,hs.rd 1 rfl rfl,_,hs.rd 0 rfl rfl,?_⟩;refine (cmp110 _ _ _).mono ?_;rintro _ _ ⟨rfl,rfl⟩;refine⟨_,rfl,fun _ _ _ _ hv=>hv,?_⟩;refine (cmp110 _ _ _).mono ?_;rintro _ _ ⟨rfl,rfl⟩;refine⟨_,rfl,fun _ _ _ _ hv=>hv,?_⟩;refine hs.newb fun h22 hs=>?_;have hs2:=hs.blkS 2 1 ([cmpI x.peer y.peer,cmpI x.label y.label].map inC) rfl (inrows _) rfl (by decide);refine (or109 [cmpI x.peer y.peer,cmpI x.label y.label] _ h22 (hs2.rows 0 rfl (by omega)) (show 2<=1048576 by decide)).mono ?_;rintro _ _ ⟨rfl,rfl⟩;refine⟨_,rfl,?_,hs.ext⟩;unfold cmpE;rw[if_neg (by simpa using he)];show Value.int .i64 (orI3 _ (orI3 _ 0))=_;congr 1;unfold orI3;split
  .rfl
  .split<;>omega
theorem order153 (mv:List Mv) (sm:Sl) (a:Addr) (i k:Nat) (x y:Mv) (h:Heap) (ha:hc h ⟨a.block,a.off+4,none⟩=some (.slice sm.a sm.n sm.c)) (hr:Rw h 6 sm (mv.map Mv.cs)) (hx:mv[i]?=some x) (hy:mv[k]?=some y) :
  Fn Pz 153 #[.int .i64 (i:Nat),.int .i64 (k:Nat),.pointer (some a)] h fun v h'=>v=.int .i64 (cmpE x.ev y.ev)/\Ext h h':=by
 apply vc153;unfold W153;have hn:=hr.ln;have hxl:=(Ya.1 hx).1;have hyl:=(Ya.1 hy).1;refine⟨sm,ha,?_⟩;refine hr.nbI (by omega) (by omega) fun b o x' gx t=>?_;replace gx:mv[i]?=some x':=gx;rw[hx] at gx;cases gx;refine⟨_,_,_,_,_,_,t,sm,ha,?_⟩;refine hr.nbI (by omega) (by omega) fun b2 o2 y' gy t2=>?_;replace gy:mv[k]?=some y':=gy;rw[hy] at gy;cases gy;refine⟨_,_,_,_,_,_,t2,?_⟩;refine (of63 x h).mono ?_;rintro _ h23 ⟨rfl,E⟩;refine⟨_,_,_,rfl,fun _ _ _ _ hv=>hc_ext E hv,?_⟩;refine (of63 y h23).mono ?_;rintro _ h28 ⟨rfl,E2⟩;refine⟨_,_,_,rfl,fun _ _ _ _ hv=>hc_ext E2 hv,?_⟩;refine (compare104 x.ev y.ev h28).mono ?_;rintro _ h31 ⟨rfl,E3⟩;exact⟨_,rfl,rfl,(E.trans E2).trans E3⟩
end M
end Go.VC
end

section
/- The kit's shelf at this program. -/
namespace Go.Proofs
open Go.Shelf
def Tryz.lays146_ren : Go.Shelf.Ren := ⟨fun | 146 => 260 | 221 => 269 | 268 => 271 | 138 => 272 | 143 => 273 | 195 => 274 | 197 => 275 | 218 => 276 | 219 => 277 | 260 => 278 | 217 => 279 | 225 => 280 | 224 => 281 | 267 => 282 | 266 => 283 | 314 => 284 | n => n, fun | 9 => 9 | 31 => 55 | 3 => 3 | 4 => 4 | 0 => 0 | 105 => 319 | 21 => 21 | 5 => 5 | 46 => 198 | 119 => 323 | 139 => 326 | 138 => 325 | 146 => 291 | 51 => 259 | n => n, fun | 1 => 1 | 3 => 2 | 4 => 3 | n => n⟩
theorem Tryz.lays146 : Go.Proofs.Lays.n146 Tryz.prog Tryz.lays146_ren := {
  mixed := by kernel_rfl
  f138 := Tryz.func272.trans (congrArg some (by kernel_rfl))
  f143 := Tryz.func273.trans (congrArg some (by kernel_rfl))
  f146 := Tryz.func260.trans (congrArg some (by kernel_rfl))
  f195 := Tryz.func274.trans (congrArg some (by kernel_rfl))
  f197 := Tryz.func275.trans (congrArg some (by kernel_rfl))
  f217 := Tryz.func279.trans (congrArg some (by kernel_rfl))
  f218 := Tryz.func276.trans (congrArg some (by kernel_rfl))
  f219 := Tryz.func277.trans (congrArg some (by kernel_rfl))
  f221 := Tryz.func269.trans (congrArg some (by kernel_rfl))
  f224 := Tryz.func281.trans (congrArg some (by kernel_rfl))
  f225 := Tryz.func280.trans (congrArg some (by kernel_rfl))
  f260 := Tryz.func278.trans (congrArg some (by kernel_rfl))
  f266 := Tryz.func283.trans (congrArg some (by kernel_rfl))
  f267 := Tryz.func282.trans (congrArg some (by kernel_rfl))
  f268 := Tryz.func271.trans (congrArg some (by kernel_rfl))
  f314 := Tryz.func284.trans (congrArg some (by kernel_rfl))
  t0 := Tryz.underlying0
  a0 := Tryz.isAgg0
  z0 := Tryz.sizeOf0
  v0 := Tryz.zeroValue0
  t3 := Tryz.underlying3
  a3 := Tryz.isAgg3
  z3 := Tryz.sizeOf3
  v3 := Tryz.zeroValue3
  t4 := Tryz.underlying4
  a4 := Tryz.isAgg4
  z4 := Tryz.sizeOf4
  v4 := Tryz.zeroValue4
  t5 := Tryz.underlying5
  a5 := Tryz.isAgg5
  z5 := Tryz.sizeOf5
  v5 := Tryz.zeroValue5
  t9 := Tryz.underlying9
  a9 := Tryz.isAgg9
  z9 := Tryz.sizeOf9
  v9 := Tryz.zeroValue9
  t21 := Tryz.underlying21
  a21 := Tryz.isAgg21
  z21 := Tryz.sizeOf21
  v21 := Tryz.zeroValue21
  t31 := Tryz.underlying55
  a31 := Tryz.isAgg55
  z31 := Tryz.sizeOf55
  v31 := Tryz.zeroValue55
  t46 := Tryz.underlying198
  a46 := Tryz.isAgg198
  z46 := Tryz.sizeOf198
  v46 := Tryz.zeroValue198
  t51 := Tryz.underlying259
  a51 := Tryz.isAgg259
  z51 := Tryz.sizeOf259
  v51 := Tryz.zeroValue259
  t105 := Tryz.underlying319
  a105 := Tryz.isAgg319
  z105 := Tryz.sizeOf319
  v105 := Tryz.zeroValue319
  t119 := Tryz.underlying323
  a119 := Tryz.isAgg323
  z119 := Tryz.sizeOf323
  t138 := Tryz.underlying325
  a138 := Tryz.isAgg325
  z138 := Tryz.sizeOf325
  v138 := Tryz.zeroValue325
  t139 := Tryz.underlying326
  a139 := Tryz.isAgg326
  z139 := Tryz.sizeOf326
  v139 := Tryz.zeroValue326
  t146 := Tryz.underlying291
  a146 := Tryz.isAgg291
  z146 := Tryz.sizeOf291
  v146 := Tryz.zeroValue291
  g1 := by kernel_rfl
  g3 := by kernel_rfl
  g4 := by kernel_rfl }
def Tryz.lays212_ren : Go.Shelf.Ren := ⟨fun | 212 => 208 | 263 => 242 | 264 => 243 | n => n, fun | 46 => 198 | 51 => 259 | 146 => 291 | 53 => 197 | 148 => 293 | n => n, fun | n => n⟩
theorem Tryz.lays212 : Go.Proofs.Lays.n212 Tryz.prog Tryz.lays212_ren := {
  mixed := by kernel_rfl
  f212 := Tryz.func208.trans (congrArg some (by kernel_rfl))
  f263 := Tryz.func242.trans (congrArg some (by kernel_rfl))
  f264 := Tryz.func243.trans (congrArg some (by kernel_rfl))
  t46 := Tryz.underlying198
  a46 := Tryz.isAgg198
  z46 := Tryz.sizeOf198
  v46 := Tryz.zeroValue198
  t51 := Tryz.underlying259
  a51 := Tryz.isAgg259
  z51 := Tryz.sizeOf259
  v51 := Tryz.zeroValue259
  t53 := Tryz.underlying197
  a53 := Tryz.isAgg197
  z53 := Tryz.sizeOf197
  v53 := Tryz.zeroValue197
  t146 := Tryz.underlying291
  a146 := Tryz.isAgg291
  z146 := Tryz.sizeOf291
  v146 := Tryz.zeroValue291
  t148 := Tryz.underlying293
  a148 := Tryz.isAgg293
  z148 := Tryz.sizeOf293
  v148 := Tryz.zeroValue293 }
def Tryz.lays7_29_ren : Go.Shelf.Ren := ⟨fun | 29 => 179 | n => n, fun | 22 => 197 | 3 => 3 | 4 => 4 | 25 => 198 | 54 => 268 | 0 => 0 | 5 => 5 | n => n, fun | 1 => 0 | n => n⟩
theorem Tryz.lays7_29 : Go.Proofs.Lays7.n29 Tryz.prog Tryz.lays7_29_ren := {
  mixed := by kernel_rfl
  f29 := Tryz.func179.trans (congrArg some (by kernel_rfl))
  t0 := Tryz.underlying0
  a0 := Tryz.isAgg0
  z0 := Tryz.sizeOf0
  v0 := Tryz.zeroValue0
  i0 := by kernel_rfl
  t3 := Tryz.underlying3
  a3 := Tryz.isAgg3
  z3 := Tryz.sizeOf3
  v3 := Tryz.zeroValue3
  i3 := by kernel_rfl
  t4 := Tryz.underlying4
  a4 := Tryz.isAgg4
  z4 := Tryz.sizeOf4
  v4 := Tryz.zeroValue4
  i4 := by kernel_rfl
  t5 := Tryz.underlying5
  a5 := Tryz.isAgg5
  z5 := Tryz.sizeOf5
  v5 := Tryz.zeroValue5
  i5 := by kernel_rfl
  t22 := Tryz.underlying197
  a22 := Tryz.isAgg197
  z22 := Tryz.sizeOf197
  v22 := Tryz.zeroValue197
  i22 := by kernel_rfl
  t25 := Tryz.underlying198
  a25 := Tryz.isAgg198
  z25 := Tryz.sizeOf198
  v25 := Tryz.zeroValue198
  i25 := by kernel_rfl
  t54 := Tryz.underlying268
  a54 := Tryz.isAgg268
  z54 := Tryz.sizeOf268
  g1 := by kernel_rfl }
def Tryz.sortL137_ren : Go.Shelf.Ren := ⟨fun | 6 => 175 | 15 => 165 | 14 => 211 | 28 => 202 | 29 => 203 | 20 => 244 | 21 => 245 | 22 => 246 | 23 => 247 | 24 => 248 | 25 => 249 | 26 => 250 | 27 => 251 | 46 => 264 | 47 => 228 | 48 => 229 | 49 => 265 | 50 => 266 | 57 => 270 | n => n, fun | 22 => 176 | 24 => 179 | 25 => 233 | 3 => 3 | 39 => 198 | 0 => 0 | 53 => 259 | 55 => 197 | 4 => 4 | 46 => 253 | 45 => 252 | 50 => 38 | 5 => 5 | 9 => 9 | 66 => 279 | 70 => 283 | 76 => 303 | 77 => 304 | n => n, fun | n => n⟩
theorem Tryz.sortL137 : Go.Proofs.SlLaysF0.n6 Tryz.prog Tryz.sortL137_ren := {
  mixed := by kernel_rfl
  f6 := ⟨Tryz.f175.name, by decide, Tryz.func175.trans (congrArg some (by kernel_rfl))⟩
  f14 := ⟨Tryz.f211.name, by decide, Tryz.func211.trans (congrArg some (by kernel_rfl))⟩
  f15 := Tryz.func165.trans (congrArg some (by kernel_rfl))
  f20 := ⟨Tryz.f244.name, by decide, Tryz.func244.trans (congrArg some (by kernel_rfl))⟩
  f21 := ⟨Tryz.f245.name, by decide, Tryz.func245.trans (congrArg some (by kernel_rfl))⟩
  f22 := ⟨Tryz.f246.name, by decide, Tryz.func246.trans (congrArg some (by kernel_rfl))⟩
  f23 := ⟨Tryz.f247.name, by decide, Tryz.func247.trans (congrArg some (by kernel_rfl))⟩
  f24 := ⟨Tryz.f248.name, by decide, Tryz.func248.trans (congrArg some (by kernel_rfl))⟩
  f25 := ⟨Tryz.f249.name, by decide, Tryz.func249.trans (congrArg some (by kernel_rfl))⟩
  f26 := ⟨Tryz.f250.name, by decide, Tryz.func250.trans (congrArg some (by kernel_rfl))⟩
  f27 := ⟨Tryz.f251.name, by decide, Tryz.func251.trans (congrArg some (by kernel_rfl))⟩
  f28 := Tryz.func202.trans (congrArg some (by kernel_rfl))
  f29 := Tryz.func203.trans (congrArg some (by kernel_rfl))
  f46 := ⟨Tryz.f264.name, by decide, Tryz.func264.trans (congrArg some (by kernel_rfl))⟩
  f47 := Tryz.func228.trans (congrArg some (by kernel_rfl))
  f48 := Tryz.func229.trans (congrArg some (by kernel_rfl))
  f49 := ⟨Tryz.f265.name, by decide, Tryz.func265.trans (congrArg some (by kernel_rfl))⟩
  f50 := ⟨Tryz.f266.name, by decide, Tryz.func266.trans (congrArg some (by kernel_rfl))⟩
  f57 := ⟨Tryz.f270.name, by decide, Tryz.func270.trans (congrArg some (by kernel_rfl))⟩
  t0 := Tryz.underlying0
  a0 := Tryz.isAgg0
  z0 := Tryz.sizeOf0
  v0 := Tryz.zeroValue0
  t3 := Tryz.underlying3
  a3 := Tryz.isAgg3
  z3 := Tryz.sizeOf3
  v3 := Tryz.zeroValue3
  t4 := Tryz.underlying4
  a4 := Tryz.isAgg4
  z4 := Tryz.sizeOf4
  v4 := Tryz.zeroValue4
  t5 := Tryz.underlying5
  a5 := Tryz.isAgg5
  z5 := Tryz.sizeOf5
  v5 := Tryz.zeroValue5
  t9 := Tryz.underlying9
  a9 := Tryz.isAgg9
  z9 := Tryz.sizeOf9
  v9 := Tryz.zeroValue9
  t22 := Tryz.underlying176
  a22 := Tryz.isAgg176
  z22 := Tryz.sizeOf176
  v22 := Tryz.zeroValue176
  t25 := Tryz.underlying233
  a25 := Tryz.isAgg233
  z25 := Tryz.sizeOf233
  v25 := Tryz.zeroValue233
  t39 := Tryz.underlying198
  a39 := Tryz.isAgg198
  z39 := Tryz.sizeOf198
  v39 := Tryz.zeroValue198
  t45 := Tryz.underlying252
  a45 := Tryz.isAgg252
  z45 := Tryz.sizeOf252
  v45 := Tryz.zeroValue252
  t46 := Tryz.underlying253
  a46 := Tryz.isAgg253
  z46 := Tryz.sizeOf253
  v46 := Tryz.zeroValue253
  t50 := Tryz.underlying38
  a50 := Tryz.isAgg38
  z50 := Tryz.sizeOf38
  v50 := Tryz.zeroValue38
  t53 := Tryz.underlying259
  a53 := Tryz.isAgg259
  z53 := Tryz.sizeOf259
  v53 := Tryz.zeroValue259
  t55 := Tryz.underlying197
  a55 := Tryz.isAgg197
  z55 := Tryz.sizeOf197
  v55 := Tryz.zeroValue197
  t66 := Tryz.underlying279
  a66 := Tryz.isAgg279
  z66 := Tryz.sizeOf279
  v66 := Tryz.zeroValue279
  t70 := Tryz.underlying283
  a70 := Tryz.isAgg283
  z70 := Tryz.sizeOf283
  v70 := Tryz.zeroValue283
  t76 := Tryz.underlying303
  a76 := Tryz.isAgg303
  z76 := Tryz.sizeOf303
  v76 := Tryz.zeroValue303
  t77 := Tryz.underlying304
  a77 := Tryz.isAgg304
  z77 := Tryz.sizeOf304
  v77 := Tryz.zeroValue304 }
def Tryz.sortL72_ren : Go.Shelf.Ren := ⟨fun | 6 => 114 | 15 => 165 | 14 => 164 | 28 => 202 | 29 => 203 | 20 => 194 | 21 => 195 | 22 => 196 | 23 => 197 | 24 => 198 | 25 => 199 | 26 => 200 | 27 => 201 | 46 => 227 | 47 => 228 | 48 => 229 | 49 => 230 | 50 => 231 | 57 => 257 | n => n, fun | 22 => 23 | 24 => 81 | 25 => 164 | 3 => 3 | 39 => 198 | 0 => 0 | 53 => 259 | 55 => 197 | 4 => 4 | 46 => 253 | 45 => 252 | 50 => 38 | 5 => 5 | 9 => 9 | 66 => 279 | 70 => 283 | 76 => 303 | 77 => 304 | n => n, fun | n => n⟩
theorem Tryz.sortL72 : Go.Proofs.SlLaysF0.n6 Tryz.prog Tryz.sortL72_ren := {
  mixed := by kernel_rfl
  f6 := ⟨Tryz.f114.name, by decide, Tryz.func114.trans (congrArg some (by kernel_rfl))⟩
  f14 := ⟨Tryz.f164.name, by decide, Tryz.func164.trans (congrArg some (by kernel_rfl))⟩
  f15 := Tryz.func165.trans (congrArg some (by kernel_rfl))
  f20 := ⟨Tryz.f194.name, by decide, Tryz.func194.trans (congrArg some (by kernel_rfl))⟩
  f21 := ⟨Tryz.f195.name, by decide, Tryz.func195.trans (congrArg some (by kernel_rfl))⟩
  f22 := ⟨Tryz.f196.name, by decide, Tryz.func196.trans (congrArg some (by kernel_rfl))⟩
  f23 := ⟨Tryz.f197.name, by decide, Tryz.func197.trans (congrArg some (by kernel_rfl))⟩
  f24 := ⟨Tryz.f198.name, by decide, Tryz.func198.trans (congrArg some (by kernel_rfl))⟩
  f25 := ⟨Tryz.f199.name, by decide, Tryz.func199.trans (congrArg some (by kernel_rfl))⟩
  f26 := ⟨Tryz.f200.name, by decide, Tryz.func200.trans (congrArg some (by kernel_rfl))⟩
  f27 := ⟨Tryz.f201.name, by decide, Tryz.func201.trans (congrArg some (by kernel_rfl))⟩
  f28 := Tryz.func202.trans (congrArg some (by kernel_rfl))
  f29 := Tryz.func203.trans (congrArg some (by kernel_rfl))
  f46 := ⟨Tryz.f227.name, by decide, Tryz.func227.trans (congrArg some (by kernel_rfl))⟩
  f47 := Tryz.func228.trans (congrArg some (by kernel_rfl))
  f48 := Tryz.func229.trans (congrArg some (by kernel_rfl))
  f49 := ⟨Tryz.f230.name, by decide, Tryz.func230.trans (congrArg some (by kernel_rfl))⟩
  f50 := ⟨Tryz.f231.name, by decide, Tryz.func231.trans (congrArg some (by kernel_rfl))⟩
  f57 := ⟨Tryz.f257.name, by decide, Tryz.func257.trans (congrArg some (by kernel_rfl))⟩
  t0 := Tryz.underlying0
  a0 := Tryz.isAgg0
  z0 := Tryz.sizeOf0
  v0 := Tryz.zeroValue0
  t3 := Tryz.underlying3
  a3 := Tryz.isAgg3
  z3 := Tryz.sizeOf3
  v3 := Tryz.zeroValue3
  t4 := Tryz.underlying4
  a4 := Tryz.isAgg4
  z4 := Tryz.sizeOf4
  v4 := Tryz.zeroValue4
  t5 := Tryz.underlying5
  a5 := Tryz.isAgg5
  z5 := Tryz.sizeOf5
  v5 := Tryz.zeroValue5
  t9 := Tryz.underlying9
  a9 := Tryz.isAgg9
  z9 := Tryz.sizeOf9
  v9 := Tryz.zeroValue9
  t22 := Tryz.underlying23
  a22 := Tryz.isAgg23
  z22 := Tryz.sizeOf23
  v22 := Tryz.zeroValue23
  t25 := Tryz.underlying164
  a25 := Tryz.isAgg164
  z25 := Tryz.sizeOf164
  v25 := Tryz.zeroValue164
  t39 := Tryz.underlying198
  a39 := Tryz.isAgg198
  z39 := Tryz.sizeOf198
  v39 := Tryz.zeroValue198
  t45 := Tryz.underlying252
  a45 := Tryz.isAgg252
  z45 := Tryz.sizeOf252
  v45 := Tryz.zeroValue252
  t46 := Tryz.underlying253
  a46 := Tryz.isAgg253
  z46 := Tryz.sizeOf253
  v46 := Tryz.zeroValue253
  t50 := Tryz.underlying38
  a50 := Tryz.isAgg38
  z50 := Tryz.sizeOf38
  v50 := Tryz.zeroValue38
  t53 := Tryz.underlying259
  a53 := Tryz.isAgg259
  z53 := Tryz.sizeOf259
  v53 := Tryz.zeroValue259
  t55 := Tryz.underlying197
  a55 := Tryz.isAgg197
  z55 := Tryz.sizeOf197
  v55 := Tryz.zeroValue197
  t66 := Tryz.underlying279
  a66 := Tryz.isAgg279
  z66 := Tryz.sizeOf279
  v66 := Tryz.zeroValue279
  t70 := Tryz.underlying283
  a70 := Tryz.isAgg283
  z70 := Tryz.sizeOf283
  v70 := Tryz.zeroValue283
  t76 := Tryz.underlying303
  a76 := Tryz.isAgg303
  z76 := Tryz.sizeOf303
  v76 := Tryz.zeroValue303
  t77 := Tryz.underlying304
  a77 := Tryz.isAgg304
  z77 := Tryz.sizeOf304
  v77 := Tryz.zeroValue304 }
def Tryz.sortL152_ren : Go.Shelf.Ren := ⟨fun | 6 => 152 | 15 => 165 | 14 => 184 | 28 => 202 | 29 => 203 | 20 => 215 | 21 => 216 | 22 => 217 | 23 => 218 | 24 => 219 | 25 => 220 | 26 => 221 | 27 => 222 | 46 => 252 | 47 => 228 | 48 => 229 | 49 => 253 | 50 => 254 | 57 => 267 | n => n, fun | 22 => 49 | 24 => 3 | 25 => 135 | 3 => 3 | 39 => 198 | 0 => 0 | 53 => 259 | 55 => 197 | 4 => 4 | 46 => 253 | 45 => 252 | 50 => 38 | 5 => 5 | 9 => 9 | 66 => 279 | 70 => 283 | 76 => 303 | 77 => 304 | n => n, fun | n => n⟩
theorem Tryz.sortL152 : Go.Proofs.SlLaysF.n6 Tryz.prog Tryz.sortL152_ren := {
  mixed := by kernel_rfl
  f6 := ⟨Tryz.f152.name, by decide, Tryz.func152.trans (congrArg some (by kernel_rfl))⟩
  f14 := ⟨Tryz.f184.name, by decide, Tryz.func184.trans (congrArg some (by kernel_rfl))⟩
  f15 := Tryz.func165.trans (congrArg some (by kernel_rfl))
  f20 := ⟨Tryz.f215.name, by decide, Tryz.func215.trans (congrArg some (by kernel_rfl))⟩
  f21 := ⟨Tryz.f216.name, by decide, Tryz.func216.trans (congrArg some (by kernel_rfl))⟩
  f22 := ⟨Tryz.f217.name, by decide, Tryz.func217.trans (congrArg some (by kernel_rfl))⟩
  f23 := ⟨Tryz.f218.name, by decide, Tryz.func218.trans (congrArg some (by kernel_rfl))⟩
  f24 := ⟨Tryz.f219.name, by decide, Tryz.func219.trans (congrArg some (by kernel_rfl))⟩
  f25 := ⟨Tryz.f220.name, by decide, Tryz.func220.trans (congrArg some (by kernel_rfl))⟩
  f26 := ⟨Tryz.f221.name, by decide, Tryz.func221.trans (congrArg some (by kernel_rfl))⟩
  f27 := ⟨Tryz.f222.name, by decide, Tryz.func222.trans (congrArg some (by kernel_rfl))⟩
  f28 := Tryz.func202.trans (congrArg some (by kernel_rfl))
  f29 := Tryz.func203.trans (congrArg some (by kernel_rfl))
  f46 := ⟨Tryz.f252.name, by decide, Tryz.func252.trans (congrArg some (by kernel_rfl))⟩
  f47 := Tryz.func228.trans (congrArg some (by kernel_rfl))
  f48 := Tryz.func229.trans (congrArg some (by kernel_rfl))
  f49 := ⟨Tryz.f253.name, by decide, Tryz.func253.trans (congrArg some (by kernel_rfl))⟩
  f50 := ⟨Tryz.f254.name, by decide, Tryz.func254.trans (congrArg some (by kernel_rfl))⟩
  f57 := ⟨Tryz.f267.name, by decide, Tryz.func267.trans (congrArg some (by kernel_rfl))⟩
  t0 := Tryz.underlying0
  a0 := Tryz.isAgg0
  z0 := Tryz.sizeOf0
  v0 := Tryz.zeroValue0
  t3 := Tryz.underlying3
  a3 := Tryz.isAgg3
  z3 := Tryz.sizeOf3
  v3 := Tryz.zeroValue3
  t4 := Tryz.underlying4
  a4 := Tryz.isAgg4
  z4 := Tryz.sizeOf4
  v4 := Tryz.zeroValue4
  t5 := Tryz.underlying5
  a5 := Tryz.isAgg5
  z5 := Tryz.sizeOf5
  v5 := Tryz.zeroValue5
  t9 := Tryz.underlying9
  a9 := Tryz.isAgg9
  z9 := Tryz.sizeOf9
  v9 := Tryz.zeroValue9
  t22 := Tryz.underlying49
  a22 := Tryz.isAgg49
  z22 := Tryz.sizeOf49
  v22 := Tryz.zeroValue49
  a24 := Tryz.isAgg3
  z24 := Tryz.sizeOf3
  t25 := Tryz.underlying135
  a25 := Tryz.isAgg135
  z25 := Tryz.sizeOf135
  v25 := Tryz.zeroValue135
  t39 := Tryz.underlying198
  a39 := Tryz.isAgg198
  z39 := Tryz.sizeOf198
  v39 := Tryz.zeroValue198
  t45 := Tryz.underlying252
  a45 := Tryz.isAgg252
  z45 := Tryz.sizeOf252
  v45 := Tryz.zeroValue252
  t46 := Tryz.underlying253
  a46 := Tryz.isAgg253
  z46 := Tryz.sizeOf253
  v46 := Tryz.zeroValue253
  t50 := Tryz.underlying38
  a50 := Tryz.isAgg38
  z50 := Tryz.sizeOf38
  v50 := Tryz.zeroValue38
  t53 := Tryz.underlying259
  a53 := Tryz.isAgg259
  z53 := Tryz.sizeOf259
  v53 := Tryz.zeroValue259
  t55 := Tryz.underlying197
  a55 := Tryz.isAgg197
  z55 := Tryz.sizeOf197
  v55 := Tryz.zeroValue197
  t66 := Tryz.underlying279
  a66 := Tryz.isAgg279
  z66 := Tryz.sizeOf279
  v66 := Tryz.zeroValue279
  t70 := Tryz.underlying283
  a70 := Tryz.isAgg283
  z70 := Tryz.sizeOf283
  v70 := Tryz.zeroValue283
  t76 := Tryz.underlying303
  a76 := Tryz.isAgg303
  z76 := Tryz.sizeOf303
  v76 := Tryz.zeroValue303
  t77 := Tryz.underlying304
  a77 := Tryz.isAgg304
  z77 := Tryz.sizeOf304
  v77 := Tryz.zeroValue304 }
end Go.Proofs
end

section
namespace Go.VC
open Go.Proofs Go.LexS Go.Shelf
structure Gx (h:Heap):Prop where
 m:∃m:Int,hc h ⟨1,0,none⟩=some (.int .i64 m)
 t:∀j,j<Lib.deBruijn64tab.length->hc h ⟨0,j,none⟩=some (.int .u8 (Lib.deBruijn64tab.getD j 0))
theorem Gx.ext {h h':Heap} (hx:Gx h) (E:Ext h h'):Gx h':=by
 obtain⟨m,hm⟩:=hx.m;exact⟨⟨m,hc_ext E hm⟩,fun j hj=>hc_ext E (hx.t j hj)⟩
theorem mul106 (x y:Nat) (hx:x<18446744073709551616) (hy:y<18446744073709551616) (h:Heap):Fn Pz 208 #[.int .u64 x,.int .u64 y] h fun v h'=>v=.tuple ⟨[.int .u64 ((x*y/18446744073709551616:Nat):Int),.int .u64 ((x*y%18446744073709551616:Nat):Int)]⟩/\h'=h:=
 Fn.of_same fun w=>Any.bits_Mul Tryz.lays212 x y hx hy w
def pieces (l:Nm):List Nm:=Go.Lib.split l [46]
theorem split255 (l:Nm) (h:Heap) (hx:Gx h) (hl:l.length<=50):Fn Pz 260 #[.string (bs l),.string (bs [46])] h fun v h'=>Ext h h'/\∃s:Sl,v=.slice s.a s.n s.c/\RL h' 1 s nmC (pieces l):=by
 intro w hw;subst hw;obtain⟨m,hm⟩:=hx.m;have hle:=Lib.countB_le (bs [46]) (by decide) (bs l).size (bs l) (Yyt _);have hlen:=Lib.splitB_all (bs [46]) (by decide) 0 _ (bs l) rfl;have hdat:=Lib.splitB_data (bs [46]) 0 (Lib.countB (bs l) (bs [46])) (bs l);have hp:pieces l=(Lib.splitB (bs [46]) 0 (Lib.countB (bs l) (bs [46])) (bs l)).map (·.data.toList):=hdat.symm;have hcells:(Lib.splitB (bs [46]) 0 (Lib.countB (bs l) (bs [46])) (bs l)).map Value.string=(pieces l).map fun x=>Value.string (bs x):=by
  rw[hp,List.map_map];rfl
 have hpl:(pieces l).length=Lib.countB (bs l) (bs [46])+1:=by rw[hp,Yc,hlen]
 rw[bs_size] at hle;refine (Any.strings_Split Tryz.lays146 (by kernel_rfl) (bs l) (bs [46]) m w (by rw[bs_size];omega) hm (by decide)).mono ?_;rintro e w' ⟨rfl,rfl⟩;rw[hcells];have ho:Own (w.alloc (.cells ((pieces l).map fun x=>Value.string (bs x)).toArray (Tryz.lays146_ren.t 9))).heap w.heap.size ((pieces l).map fun x=>Value.string (bs x)) (Tryz.lays146_ren.t 9):=Own.push;refine⟨_,rfl,⟨Ext.push _ _,⟨some ⟨w.heap.size,0,none⟩,Lib.countB (bs l) (bs [46])+1,Lib.countB (bs l) (bs [46])+1⟩,rfl,⟨⟨by rw[Yc,hpl],fun _=>⟨w.heap.size,0,rfl,fun i row hi=>?_⟩⟩,Yyt _,(fun e=>by cases e),by rw[hpl];omega⟩⟩,rfl,rfl,rfl,trivial⟩;rw[Yd] at hi;obtain⟨x,hx1,hx2⟩:=Yya.1 hi;subst hx2;refine ho.atC fun j v hj=>?_
 match j,hj with
 | 0,hj=>cases hj;rw[show 0+i*1+0=i by omega,Yd,hx1];rfl
theorem swoE:Go.Sort.SWO (ltOf cmpE) where
 irrefl x:=by unfold ltOf;rw[decide_eq_false_iff_not,cmpE_neg];exact evLt_irr x
 trans x y z h1 h2:=by unfold ltOf at *;rw[decide_eq_true_eq,cmpE_neg] at *;exact evLt_trans h1 h2
 ntrans x y z h1 h2:=by
  unfold ltOf at *;rw[decide_eq_false_iff_not,cmpE_neg] at *;obtain⟨a,b,c⟩:=x;obtain⟨a',b',c'⟩:=y;obtain⟨a'',b'',c''⟩:=z;unfold evLt at *;cases a<;>cases a'<;>cases a''<;>simp at *<;>omega
theorem swoM:Go.Sort.SWO (ltOf cmpM) where
 irrefl x:=by unfold ltOf;rw[decide_eq_false_iff_not,cmpM_neg];exact mvLt_irr x
 trans x y z h1 h2:=by unfold ltOf at *;rw[decide_eq_true_eq,cmpM_neg] at *;exact mvLt_trans h1 h2
 ntrans x y z h1 h2:=by
  unfold ltOf at *;rw[decide_eq_false_iff_not,cmpM_neg] at *;obtain⟨f,a,b,c,t,g⟩:=x;obtain⟨f',a',b',c',t',g'⟩:=y;obtain⟨f'',a'',b'',c'',t'',g''⟩:=z;unfold mvLt evLt Mv.ev at *;cases a<;>cases a'<;>cases a''<;>simp at *<;>omega
instance:Inhabited Ev:=⟨⟨false,0,0⟩⟩
instance:Inhabited Mv:=⟨⟨0,false,0,0,0,false⟩⟩
theorem sort137 {h0 h:Heap} {L:List It} (hs:St h0 h L) (k:Nat) {s:Sl} {l:List Ev} (hk:L[k]?=some (.sl s 179 3 (l.map Ev.cs))) (hm:l.length<=1048576) :
  Fn Pz 175 #[.slice s.a s.n s.c,.func (.func 176) #[] #[]] h fun v h'=>v=.tuple ⟨[]⟩/\∃l':List Ev,l'.Perm l/\l'.Pairwise (fun a b=>¬evLt b a)/\St h0 h' (L.set k (.sl s 179 3 (l'.map Ev.cs))):=by
 refine Fn.mono (sort_own Tryz.sortL137 3 179 Tryz.isAgg179 Tryz.sizeOf179 Ev.cs (fun _=>rfl) (fun x v hv=>by simp[Ev.cs] at hv;rcases hv with rfl | rfl | rfl<;>rfl) cmpE swoE 176 (enters_of Tryz.func176 (by kernel_rfl) rfl) (fun x y h=>@M.compare138 monoDrawn x y h) hs k hk (by omega) (by omega)) ?_;rintro v h' ⟨rfl,l',hp,hw,hs'⟩;exact⟨rfl,l',hp,hw.imp fun {a b} hab=>by unfold ltOf at hab;rw[decide_eq_false_iff_not,cmpE_neg] at hab;exact hab,hs'⟩
theorem sort72 {h0 h:Heap} {L:List It} (hs:St h0 h L) (k:Nat) {s:Sl} {l:List Mv} (hk:L[k]?=some (.sl s 81 6 (l.map Mv.cs))) (hm:l.length<=1048576) :
  Fn Pz 114 #[.slice s.a s.n s.c,.func (.func 115) #[] #[]] h fun v h'=>v=.tuple ⟨[]⟩/\∃l':List Mv,l'.Perm l/\l'.Pairwise (fun a b=>¬mvLt b a)/\St h0 h' (L.set k (.sl s 81 6 (l'.map Mv.cs))):=by
 refine Fn.mono (sort_own Tryz.sortL72 6 81 Tryz.isAgg81 Tryz.sizeOf81 Mv.cs (fun _=>rfl) (fun x v hv=>by simp[Mv.cs] at hv;rcases hv with rfl | rfl | rfl | rfl | rfl | rfl<;>rfl) cmpM swoM 115 (enters_of Tryz.func115 (by kernel_rfl) rfl) (fun x y h=>@M.order73 monoDrawn x y h) hs k hk (by omega) (by omega)) ?_;rintro v h' ⟨rfl,l',hp,hw,hs'⟩;exact⟨rfl,l',hp,hw.imp fun {a b} hab=>by unfold ltOf at hab;rw[decide_eq_false_iff_not,cmpM_neg] at hab;exact hab,hs'⟩
end Go.VC
end

section
namespace Go.VC
open Go.Proofs Go.LexS
theorem compactL_ne {l:List Ev} (h:l≠[]):compactL l≠[]:=by
 cases l with
 | nil=>exact absurd rfl h
 | cons a r=>
  intro e;have:=(compactL_mem (a::r) a).2 (by simp);rw[e] at this;cases this
theorem compactL_snoc:∀(l:List Ev) (x:Ev),compactL (l++[x])=if l.getLast?=some x then compactL l else compactL l++[x]
 | [],x=>by simp[compactL]
 | a::r,x=>by
  have ih:=compactL_snoc r x;cases r with
  | nil=>
   by_cases h:a=x
   .subst h;simp[compactL]
   .simp[compactL,h]
  | cons b r'=>
   have hne:=compactL_ne (l:=b::r') (by simp);have hl:(a::b::r').getLast?=(b::r').getLast?:=by simp[List.getLast?_cons_cons]
   rw[List.cons_append,compactL,ih,hl];by_cases h:(b::r').getLast?=some x
   .rw[if_pos h,if_pos h]
    conv=>rhs;rw[compactL]
   .rw[if_neg h,if_neg h]
    conv=>rhs;rw[compactL]
    cases hc:compactL (b::r') with
    | nil=>exact absurd hc hne
    | cons y t=>
     simp only[List.cons_append];split<;>rfl
theorem compactL_step {l:List Ev} {k:Nat} {x y:Ev} (hx:l[k]?=some x) (hk:1<=k) (hy:l[k-1]?=some y):compactL (l.take (k+1))=if x=y then compactL (l.take k) else compactL (l.take k)++[x]:=by
 rw[take_snoc hx,compactL_snoc];have hl:(l.take k).getLast?=some y:=by
  have hkl:=(Ya.1 hx).1;rw[List.getLast?_eq_getElem?,Yu,Nat.min_eq_left (by omega),Yyf,if_pos (by omega)];exact hy
 rw[hl];by_cases e:x=y
 .rw[if_pos e,if_pos (by rw[e])]
 .rw[if_neg e,if_neg (fun h=>e (by cases h;rfl))]
theorem evEq (x y:Ev):((x.send==y.send)&&((x.peer==y.peer)&&((x.label==y.label)&&true)))=decide (x=y):=by
 obtain⟨a,b,c⟩:=x;obtain⟨d,e,f⟩:=y;rw[Bool.eq_iff_iff];simp
theorem und151:Pz.underlying 176=some (.slice 179):=by kernel_rfl
theorem zero116 (w:World):(zeroValue 179).run Pz w=.ok (.agg #[.bool false,.int .i64 0,.int .i64 0]) w:=by
 have hi:(Pz.info? 179).bind (·.zero)=some (.agg #[.bool false,.int .i64 0,.int .i64 0]):=by kernel_rfl
 cases h:Pz.info? 179 with
 | none=>rw[h] at hi;cases hi
 | some i=>rw[h] at hi;simp only[Option.bind_some] at hi;simp[zeroValue,typeInfo,h,hi]
theorem compact139 {h0 h:Heap} {L:List It} (hs:St h0 h L) (k:Nat) {s:Sl} {l:List Ev} (hk:L[k]?=some (.sl s 179 3 (l.map Ev.cs))) (hm:l.length<=1048576) :
  Fn Pz 177 #[.slice s.a s.n s.c] h fun v h'=>∃r:Sl,v=.slice r.a r.n r.c/\St h0 h' (L.set k (.sl r 179 3 ((compactL l).map Ev.cs))):=by
 apply vc177 s;unfold W177;have hlen:=hs.len k hk (by omega);have hn:s.n=l.length:=by rw[hlen.1,Yc]
 have hkl:k<L.length:=(Ya.1 hk).1;have hset:L.set k (.sl s 179 3 (l.map Ev.cs))=L:=by
  obtain⟨a,b⟩:=Ya.1 hk;rw[<-b];exact List.set_getElem_self a
 have hself:compactL l=l->(∃r:Sl,Value.slice s.a s.n s.c=.slice r.a r.n r.c/\St h0 h (L.set k (.sl r 179 3 ((compactL l).map Ev.cs)))):=fun e=>⟨s,rfl,by rw[e,hset];exact hs⟩;refine sB_intro (fun c=>?_) (fun c=>?_)
 .have:l.length<2:=by have:=Yyn c;omega
  refine hself ?_
  match l,this with
  | [],_=>rfl
  | [a],_=>rfl
 .have h2:2<=l.length:=by have:=Yyo c;omega
  refine⟨fun x h' m=>∃i:Nat,x=i/\1<=i/\i<=l.length/\m=l.length-i/\h'=h/\compactL (l.take i)=l.take i,⟨_,1,rfl,by omega,by omega,rfl,rfl,?_⟩,?_⟩
  .match l,h2 with
   | a::r,_=>rfl
  rintro-x h5 m ⟨i,rfl,hi1,hin,rfl,rfl,hcc⟩;refine sB_intro (fun l2=>?_) (fun l2=>?_)
  .replace l2:=lt_t l2;have hrw:=hs.rows k hk (by omega);refine hrw.nbI (by omega) (by omega) fun b o x1 g t=>?_;replace g:l[i]?=some x1:=g;refine⟨_,_,_,t,?_⟩;have hw1:IntKind.wrap .i64 ((i:Int)-1)=((i-1:Nat):Int):=by rw[w64 (by omega) (by omega)];omega
   rw[hw1];refine hrw.nbI (x:=((i-1:Nat):Int)) (by omega) (by omega) fun b' o' y1 g' t'=>?_;replace g':l[i-1]?=some y1:=g';refine⟨_,_,_,t',?_⟩;rw[evEq];have hstep:=compactL_step g hi1 g';refine sB_intro (fun e=>?_) (fun e=>?_)
   .replace e:=Yyn e;rw[if_pos e,hcc] at hstep;have hcap:=hlen.2.1;refine⟨⟨by omega,by omega,by omega⟩,?_⟩;refine⟨fun kk x h' m=>∃(q j:Nat) (cl:List Ev),kk=q/\x=j/\1<=j/\i+j<=l.length/\q<=i+j-1/\m=l.length-j/\cl.length=l.length/\cl.take q=compactL (l.take (i+j))/\(∀a,i+j-1<=a->cl[a]?=l[a]?)/\St h0 h' (L.set k (.sl s 179 3 (cl.map Ev.cs))),
     ⟨_,i,1,l,rfl,rfl,by omega,by omega,by omega,rfl,rfl,hstep.symm,fun _ _=>rfl,by rw[hset];exact hs⟩,?_⟩
    rintro-kk x h21 m' ⟨q,j,cl,rfl,rfl,hj1,hjn,hq,rfl,hcl,hct,hun,hs⟩;have hkI:(L.set k (.sl s 179 3 (cl.map Ev.cs)))[k]?=some (.sl s 179 3 (cl.map Ev.cs)):=by rw[Yq hkl]
    have hfrom:=(hs.rows k hkI (by omega)).from (i:=i) (by omega) (by omega)
    rw[<-List.map_drop] at hfrom;have hti:Int.toNat ((s.n:Nat):Int)-Int.toNat ((i:Nat):Int)=s.n-i:=by simp
    have htI:Int.toNat ((i:Nat):Int)=i:=by simp
    refine sB_intro (fun c2=>?_) (fun c2=>?_)
    .have hjl:i+j<l.length:=by have:=Yyn c2;rw[hti] at this;omega
     rw[hti,htI];refine hfrom.nbI (x:=(j:Int)) (by omega) (by show (j:Int)<((s.n-i:Nat):Int);omega) fun b2 o2 x2 g2 t2=>?_;replace g2:(cl.drop i)[j]?=some x2:=g2;rw[List.getElem?_drop,hun _ (by omega)] at g2;refine⟨_,_,_,t2,?_⟩;have hw2:IntKind.wrap .i64 ((j:Int)-1)=((j-1:Nat):Int):=by rw[w64 (by omega) (by omega)];omega
     rw[hw2];refine hfrom.nbI (x:=((j-1:Nat):Int)) (by omega) (by show ((j-1:Nat):Int)<((s.n-i:Nat):Int);omega) fun b3 o3 y2 g3 t3=>?_;replace g3:(cl.drop i)[j-1]?=some y2:=g3;rw[List.getElem?_drop,show i+(j-1)=i+j-1 by omega,hun _ (by omega)] at g3;refine⟨_,_,_,t3,?_⟩;rw[evEq];have hst2:=compactL_step g2 (by omega) g3;have hwj:IntKind.wrap .i64 ((j:Int)+1)=((j+1:Nat):Int):=by rw[w64 (by omega) (by omega)];omega
     have hwq:IntKind.wrap .i64 ((q:Int)+1)=((q+1:Nat):Int):=by rw[w64 (by omega) (by omega)];omega
     refine sB_intro (fun e2=>?_) (fun e2=>?_)
     .have hne:x2≠y2:=by simpa using e2
      rw[if_neg hne] at hst2;refine hfrom.nbI (x:=(j:Int)) (by omega) (by show (j:Int)<((s.n-i:Nat):Int);omega) fun b4 o4 x3 g4 t4=>?_;replace g4:(cl.drop i)[j]?=some x3:=g4;rw[List.getElem?_drop,hun _ (by omega)] at g4;rw[g2] at g4;cases g4;refine⟨_,_,_,t4,?_⟩;refine hs.set k hkI (by omega) (x:=(q:Int)) (by omega) (by omega) x2 rfl rfl (fun b5 o5 h39 hs=>?_) rfl;rw[List.set_set] at hs;refine⟨l.length-(j+1),by omega,q+1,j+1,cl.set q x2,hwq,hwj,by omega,by omega,by omega,rfl,by rw[Yyh];exact hcl,?_,?_,hs⟩
      .rw[show i+(j+1)=i+j+1 by omega,hst2,<-hct,take_snoc (x:=x2) (by rw[Yq (by omega)]),List.take_set_of_le (Yyt _)]
      .intro a ha;rw[Yy (by omega)];exact hun a (by omega)
     .have heq:x2=y2:=by simpa using e2
      rw[if_pos heq] at hst2;refine⟨l.length-(j+1),by omega,q,j+1,cl,rfl,hwj,by omega,by omega,by omega,rfl,hcl,?_,fun a ha=>hun a (by omega),hs⟩;rw[show i+(j+1)=i+j+1 by omega,hst2];exact hct
    .have hjl:i+j=l.length:=by have:=Yyo c2;rw[hti] at this;omega
     refine⟨⟨by omega,by omega,by omega⟩,?_⟩;have htq:Int.toNat ((q:Nat):Int)=q:=by simp
     have htn:Int.toNat ((s.n:Nat):Int)=s.n:=by simp
     rw[htq,htn];refine hs.clear k hkI (by omega) q (by omega) und151 zero116 rfl rfl fun v h42 hs=>?_;refine⟨⟨by omega,by omega,by omega⟩,⟨s.a,q,s.c⟩,?_,?_⟩
     .rw[show Int.toNat 0=0 from rfl,subA_zero];rfl
     .rw[List.set_set,<-List.map_take,hct,hjl,Yye] at hs;exact hs
   .replace e:=Yyo e;rw[if_neg e,hcc] at hstep;refine⟨l.length-(i+1),by omega,i+1,by rw[w64 (by omega) (by omega)];omega,by omega,by omega,rfl,rfl,?_⟩;rw[hstep,take_snoc g]
  .replace l2:=lt_f l2;rw[Yj (by omega)] at hcc;exact hself hcc
end Go.VC
end

section
namespace Go.VC
def src_ (bk:Bool) (x:Ed):Int:=if bk then x.t else x.f
def dst_ (bk:Bool) (x:Ed):Int:=if bk then x.f else x.t
def Adj (es:List Ed) (bk:Bool) (a b:Int):Prop:=∃x∈es,src_ bk x=a/\dst_ bk x=b
inductive Rch (es:List Ed) (bk:Bool) (a:Int):Int->Prop where
 | refl:Rch es bk a a
 | step {b c:Int}:Rch es bk a b->Adj es bk b c->Rch es bk a c
def Vis (D:List Int) (v:Int):Prop:=0<=v/\∃d,D[v.toNat]?=some d/\0<=d
structure BF (es:List Ed) (bk:Bool) (n:Nat) (s:Int) (D T:List Int):Prop where
 len:D.length=n
 src:Vis D s
 r:∀v,Vis D v->Rch es bk s v
 t:∀t∈T,Vis D t
 c:∀v w,Vis D v->v∉T->Adj es bk v w->Vis D w
 b:∀d∈D,-1<=d/\d+D.count (-1)<=200
theorem vis_set {D:List Int} {b d v:Int} (hb0:0<=b) (hb:b<D.length) (hd:0<=d):Vis (D.set b.toNat d) v ↔ v=b\/Vis D v:=by
 unfold Vis;constructor
 .rintro⟨h0,e,he,h1⟩;by_cases hvb:v=b
  .exact .inl hvb
  .rw[Yy (by omega)] at he;exact .inr ⟨h0,e,he,h1⟩
 .rintro (rfl | ⟨h0,e,he,h1⟩)
  .exact⟨hb0,d,by rw[Yq (by omega)],hd⟩
  .by_cases hvb:v=b
   .subst hvb;exact⟨hb0,d,by rw[Yq (by omega)],hd⟩
   .exact⟨h0,e,by rw[Yy (by omega)];exact he,h1⟩
theorem BF.push {es:List Ed} {bk:Bool} {n:Nat} {s:Int} {D T:List Int} (h:BF es bk n s D T) {a b da db:Int} (ha:Vis D a) (hda:D[a.toNat]?=some da) (hb0:0<=b) (hb:D[b.toNat]?=some db) (hneg:db<0) (hab:Adj es bk a b) :
  BF es bk n s (D.set b.toNat (da+1)) (T++[b])/\(D.set b.toNat (da+1)).count (-1)+1=D.count (-1)/\0<=da/\da+1<=200:=by
 have hbl:=(Ya.1 hb).1;have hbe:=(Ya.1 hb).2;have hda0:0<=da:=by
  obtain⟨_,e,he,h1⟩:=ha;rw[hda] at he;cases he;exact h1
 have hdb:db=-1:=by have:=(h.b db (Yb hb)).1;omega
 subst hdb;have hvs:∀v,Vis (D.set b.toNat (da+1)) v ↔ v=b\/Vis D v:=fun v=>vis_set hb0 (by omega) (by omega);have hpos:0<D.count (-1):=List.count_pos_iff.2 (Yb hb);have hcnt:(D.set b.toNat (da+1)).count (-1)+1=D.count (-1):=by
  rw[List.count_set hbl,hbe];have:((da+1)==(-1:Int))=false:=by simp;omega
  rw[this];simp;omega
 have hub:=(h.b da (Yb hda)).2;refine⟨⟨by rw[Yyh];exact h.len,(hvs s).2 (.inr h.src),fun v hv=>?_,fun t ht=>?_,fun v w hv hn hvw=>?_,fun d hd=>?_⟩,hcnt,hda0,by omega⟩
 .rcases (hvs v).1 hv with rfl | hv
  .exact (h.r a ha).step hab
  .exact h.r v hv
 .rcases Yk.1 ht with ht | ht
  .exact (hvs t).2 (.inr (h.t t ht))
  .rw[Ye] at ht;exact (hvs t).2 (.inl ht)
 .rw[Yk,Ye,not_or] at hn;rcases (hvs v).1 hv with rfl | hv
  .exact absurd rfl hn.2
  .exact (hvs w).2 (.inr (h.c v w hv hn.1 hvw))
 .rcases List.mem_or_eq_of_mem_set hd with hd | rfl
  .have:=h.b d hd;omega
  .omega
theorem BF.start {es:List Ed} {bk:Bool} {n:Nat} {s:Int} (h0:0<=s) (h1:s<n) (hn:n<=200):BF es bk n s ((List.replicate n (-1:Int)).set s.toNat 0) [s]:=by
 have hl:s<(List.replicate n (-1:Int)).length:=by rw[Yg];exact h1
 have hv:∀v,Vis ((List.replicate n (-1:Int)).set s.toNat 0) v ↔ v=s:=fun v=>by
  rw[vis_set h0 hl (by omega)];refine⟨fun h=>h.elim id fun h=>?_,.inl⟩;obtain⟨_,d,hd,h2⟩:=h;have:=List.eq_of_mem_replicate (Yb hd);omega
 have hc:((List.replicate n (-1:Int)).set s.toNat 0).count (-1)<=200:=Yys List.count_le_length (by rw[Yyh,Yg];exact hn);refine⟨by rw[Yyh,Yg],(hv s).2 rfl,fun v h=>?_,fun t ht=>?_,fun v w h hn=>?_,fun d hd=>?_⟩
 .rw[(hv v).1 h];exact .refl
 .rw[Ye] at ht;exact (hv t).2 ht
 .rw[(hv v).1 h] at hn;exact absurd (Ye.2 rfl) hn
 .rcases List.mem_or_eq_of_mem_set hd with hd | rfl
  .rw[List.eq_of_mem_replicate hd];omega
  .omega
theorem BF.end_ {es:List Ed} {bk:Bool} {n:Nat} {s:Int} {D:List Int} (h:BF es bk n s D []) (v:Int):Vis D v ↔ Rch es bk s v:=by
 refine⟨h.r v,fun hr=>?_⟩
 induction hr with
 | refl=>exact h.src
 | step _ hbc ih=>exact h.c _ _ ih (by simp) hbc
theorem BF.all {es:List Ed} {bk:Bool} {n:Nat} {s:Int} {D:List Int} (h:BF es bk n s D []):(-1:Int)∈D ↔ ¬∀v:Int,0<=v->v<n->Rch es bk s v:=by
 constructor
 .intro hm hall;obtain⟨j,hj⟩:=Yf.1 hm;have hl:=(Ya.1 hj).1;obtain⟨_,d,hd,h0⟩:=(h.end_ (j:Int)).2 (hall j (by omega) (by have:=h.len;omega));rw[show ((j:Int)).toNat=j from rfl,hj] at hd;cases hd;omega
 .intro hn;apply Classical.byContradiction;intro hm;apply hn;intro v h0 hv;have hl:v.toNat<D.length:=by have:=h.len;omega
  refine (h.end_ v).1 ⟨h0,D[v.toNat],Yi hl,?_⟩;have h1:=(h.b _ (List.getElem_mem hl)).1;have h2:D[v.toNat] ≠ -1:=fun e=>hm (e ▸ List.getElem_mem hl);omega
end Go.VC
end

section
namespace Go.VC
open Go.Proofs Go.LexS
theorem und42:Pz.underlying 49=some (.slice 3):=by kernel_rfl
theorem size3:(Pz.info? 3).map (·.size)=some 1:=by kernel_rfl
theorem made3 (n:Nat):madeL Pz 3 n=List.replicate n (.int .i64 0):=by
 have hz:zeroC Pz 3=[.int .i64 0]:=by kernel_rfl
 unfold madeL;rw[hz]
 induction n with
 | zero=>rfl
 | succ n ih=>rw[List.replicate_succ,Yyu,ih];rfl
theorem rep_of {xs:List Value} {n:Nat} (hl:xs.length=n) (h:∀j,j<n->xs[j]?=some (.int .i64 (-1))):xs=((List.replicate n (-1:Int)).map inC).flatten:=by
 subst hl
 induction xs with
 | nil=>rfl
 | cons a r ih=>
  have h0:=h 0 (by simp);simp only[List.getElem?_cons_zero,Option.some.injEq] at h0;rw[Yyj,List.replicate_succ,Yyl,Yyu,<-ih fun j hj=>by have:=h (j+1) (by simpa using hj);simpa using this,h0];rfl
theorem wu64b {n:Int} (h0:0<=n) (h1:n<18446744073709551616):IntKind.wrap .u64 n=n:=by
 simp[IntKind.wrap,IntKind.signed,IntKind.bits];omega
theorem splice_rep {xs:List Value} {o m:Nat} (hm:o+m<=xs.length) (h:∀j,j<o->xs[j]?=some (.int .i64 (-1))):(splice xs o (List.replicate m (.int .i64 (-1)))).length=xs.length/\∀j,j<o+m->(splice xs o (List.replicate m (.int .i64 (-1))))[j]?=some (.int .i64 (-1)):=by
 unfold splice;refine⟨by simp only[Yh,Yu,List.length_drop,Yg];omega,fun j hj=>?_⟩;by_cases hjo:j<o
 .rw[Yz,Yyi (by rw[Yu];omega),Yyf,if_pos hjo];exact h j hjo
 .rw[Yyi (by simp only[Yh,Yu,Yg];omega),Yyc (by rw[Yu];omega),Yu,List.getElem?_replicate,if_pos (by omega)]
theorem ext_but {h h1 h2:Heap} {b:Nat} (E:Ext h h1) (B:But b h1 h2) (hb:h.size<=b):Ext h h2:=⟨by rw[B.1];exact E.1,fun k hk=>(B.2 k (by omega)).trans (E.2 k hk)⟩
theorem repeat60 (n:Int) (h0:0<=n) (h1:n<=200) (b:Nat) (h:Heap) (hb:hc h ⟨b,0,none⟩=some (.int .i64 (-1))) :
  Fn Pz 171 #[.slice (some ⟨b,0,none⟩) 1 1,.int .i64 n] h fun v h'=>Ext h h'/\∃s:Sl,v=.slice s.a s.n s.c/\OwnS h' h.size 3 1 s ((List.replicate n.toNat (-1)).map inC).flatten:=by
 obtain⟨N,rfl⟩:∃N:Nat,n=N:=⟨n.toNat,by omega⟩;have hN:N<=200:=by omega
 have hbl:b<h.size:=by
  rcases Nat.lt_or_ge b h.size with hlt | hge
  .exact hlt
  .unfold hc at hb;rw[Array.getElem?_eq_none (by simpa using hge)] at hb;cases hb
 apply vc171 ⟨some ⟨b,0,none⟩,1,1⟩;unfold W171;refine⟨fun h'=>h'=h,sB_f (decide_eq_false (by omega)) rfl,?_⟩;rintro-_ rfl;rw[show IntKind.wrap .u64 (((1:Nat):Int))=((1:Nat):Int) from wu64b (by omega) (by omega),show IntKind.wrap .u64 (N:Int)=((N:Nat):Int) from wu64b (by omega) (by omega)];refine (mul106 1 N (by omega) (by omega) _).mono ?_;rintro _ h6 ⟨rfl,rfl⟩;rw[show 1*N/18446744073709551616=0 by omega,show 1*N%18446744073709551616=N by omega];refine⟨_,_,rfl,fun h'=>h'=h6,sB_f rfl (sB_f (decide_eq_false (by omega)) rfl),?_⟩;rintro-h8 rfl;rw[show IntKind.wrap .i64 ((N:Nat):Int)=N from w64 (by omega) (by omega)];refine⟨⟨by omega,by omega,by omega⟩,?_⟩;rw[Ys,made3];intro h9 hh9;have o9:Own h9 h8.size (List.replicate N (.int .i64 0)) 3:=by rw[hh9];exact Own.push
 have E9:Ext h8 h9:=by rw[hh9];exact Ext.push _ _
 have hb9:hc h9 ⟨b,0,none⟩=some (.int .i64 (-1)):=by rw[E9.hc hbl];exact hb
 refine Cpy_row und42 size3 o9 (g2:=b) (o2:=0) (l:=List.replicate (min 1 N) (.int .i64 (-1))) (by simp) ?_ (by simp;omega) (fun v hv=>by rw[List.eq_of_mem_replicate hv];rfl) fun h11 B11 o11=>?_
 .intro j c hj;rw[List.getElem?_replicate] at hj;split at hj
  .cases hj;rw[show 0+j=0 by omega];exact hb9
  .cases hj
 obtain⟨e1,e2⟩:=splice_rep (xs:=List.replicate N (.int .i64 0)) (o:=0) (m:=min 1 N) (by simp;omega) (fun j hj=>by omega);generalize hxs:splice (List.replicate N (Value.int .i64 0)) 0 (List.replicate (min 1 N) (.int .i64 (-1)))=xs at o11 e1 e2;rw[Yg] at e1;have E11:=ext_but E9 B11 (Yyt _);clear hxs B11 o9;rw[Yg];refine⟨fun x h' m=>∃(i:Nat) (xs:List Value),x=i/\i<=N/\(1<=i\/N=0)/\m=N-i/\Own h' h8.size xs 3/\xs.length=N/\(∀j,j<i->xs[j]?=some (.int .i64 (-1)))/\Ext h8 h',
  ⟨_,min 1 N,xs,rfl,by omega,by omega,rfl,o11,e1,fun j hj=>e2 j (by omega),E11⟩,?_⟩
 rintro-x h16 m ⟨i,xs,rfl,hi,hi1,rfl,o16,hl,hall,E16⟩;refine sB_intro (fun c=>?_) (fun c=>?_)
 .replace c:=lt_t c;refine⟨⟨by omega,by omega,by omega⟩,⟨by omega,by omega,by omega⟩,?_⟩;rw[show Int.toNat ((i:Nat):Int)=i from Ys i,show Int.toNat ((N:Nat):Int)=N from Ys N,show Int.toNat 0=0 from rfl,subA_zero,subA_some c];refine Cpy_row und42 size3 o16 (g2:=h8.size) (o2:=0) (l:=List.replicate (min i (N-i)) (.int .i64 (-1))) (by simp) ?_ (by simp;omega) (fun v hv=>by rw[List.eq_of_mem_replicate hv];rfl) fun h18 B18 o18=>?_
  .intro j c hj;rw[List.getElem?_replicate] at hj;split at hj
   .cases hj;rw[o16.hc];exact hall _ (by omega)
   .cases hj
  obtain⟨e3,e4⟩:=splice_rep (xs:=xs) (o:=0+i*1) (m:=min i (N-i)) (by omega) (fun j hj=>hall j (by omega));rw[Yg];refine⟨N-(i+min i (N-i)),by omega,i+min i (N-i),_,by rw[w64 (by omega) (by omega)];omega,by omega,by omega,rfl,o18,by rw[e3];exact hl,fun j hj=>e4 j (by omega),ext_but E16 B18 (Yyt _)⟩
 .replace c:=lt_f c;have hiN:i=N:=by omega
  subst hiN;refine⟨E16,⟨some ⟨h8.size,0,none⟩,i,i⟩,rfl,?_,.inr ⟨h8.size,⟨xs⟩,rfl,Yyt _,o16,Yyt _,?_,?_,?_⟩⟩
  .rw[<-rep_of hl hall];show xs.length=i*1;omega
  .show i<=9223372036854775807;omega
  .show xs.length=i*1;omega
  .show xs.take (i*1)=_;rw[Yj (by omega)];exact rep_of hl hall
end Go.VC
end

section
namespace Go.VC
def bitsL (w:Nat):List Nat:=(List.range 64).filter fun j=>w.testBit j
theorem filter_first {f g:Nat->Bool} {k:Nat} (h1:∀j,j<k->f j=false/\g j=false) (h2:f k=true) (h3:g k=false) (h4:∀j,k<j->f j=g j):∀d:Nat,(List.range (k+1+d)).filter f=k::(List.range (k+1+d)).filter g
 | 0=>by
  have e1:(List.range k).filter f=[]:=List.filter_eq_nil_iff.2 fun j hj=>by rw[(h1 j (List.mem_range.1 hj)).1];simp
  have e2:(List.range k).filter g=[]:=List.filter_eq_nil_iff.2 fun j hj=>by rw[(h1 j (List.mem_range.1 hj)).2];simp
  rw[Nat.add_zero,List.range_succ,List.filter_append,List.filter_append,e1,e2];simp[h2,h3]
 | d+1=>by
  have ih:=filter_first h1 h2 h3 h4 d;rw[<-Nat.add_assoc,List.range_succ,List.filter_append,List.filter_append,ih,List.cons_append];congr 2;simp only[List.filter_cons,List.filter_nil,h4 (k+1+d) (by omega)]
theorem bits_step {w:Nat} (h0:w≠0) (h1:w<2^64):bitsL w=Lib.ctz 64 w::bitsL (w&&&(w-1)):=by
 obtain⟨m,hm,hk⟩:=Lib.ctzFrom_spec 64 w (by omega) h1;have hc:Lib.ctz 64 w=Lib.ctzFrom 64 w:=by unfold Lib.ctz;rw[if_neg h0]
 rw[hc];generalize Lib.ctzFrom 64 w=k at hm hk ⊢;have hp:0<2^k:=Nat.two_pow_pos k;have hw1:w-1=2^k*(2*m)+(2^k-1):=by rw[hm,Nat.mul_add];omega
 have tb:∀j,w.testBit j=if j<k then false else (2*m+1).testBit (j-k):=by
  intro j;have e:w=(2*m+1) <<< k:=by rw[Nat.shiftLeft_eq,Nat.mul_comm];exact hm
  rw[e,Nat.testBit_shiftLeft];by_cases hj:j<k
  .rw[if_pos hj];simp;omega
  .rw[if_neg hj];simp;omega
 have tb1:∀j,(w-1).testBit j=if j<k then true else (2*m).testBit (j-k):=by
  intro j;rw[hw1,Nat.testBit_two_pow_mul_add _ (by omega)];by_cases hj:j<k
  .rw[if_pos hj,if_pos hj,Nat.testBit_two_pow_sub_one];simpa using hj
  .rw[if_neg hj,if_neg hj]
 have odd:∀i,0<i->(2*m+1).testBit i=(2*m).testBit i:=by
  intro i hi;obtain⟨i,rfl⟩:∃i',i=i'+1:=⟨i-1,by omega⟩;rw[Nat.testBit_succ,Nat.testBit_succ];congr 1;omega
 have e:=filter_first (f:=fun j=>w.testBit j) (g:=fun j=>(w&&&(w-1)).testBit j) (k:=k) (fun j hj=>by
   have h2:=tb j;rw[if_pos hj] at h2;exact⟨h2,by rw[Nat.testBit_and,h2];rfl⟩)
  (by show w.testBit k=true;rw[tb,if_neg (by omega),Nat.sub_self];simp[Nat.testBit_zero])
  (by show (w&&&(w-1)).testBit k=false;rw[Nat.testBit_and,tb1,if_neg (by omega),Nat.sub_self];simp[Nat.testBit_zero])
  (fun j hj=>by
   show w.testBit j=(w&&&(w-1)).testBit j;rw[Nat.testBit_and,tb,tb1,if_neg (by omega),if_neg (by omega),odd _ (by omega),Bool.and_self]) (63-k)
 rw[show k+1+(63-k)=64 by omega] at e;exact e
theorem and_pred_lt {w:Nat} (h0:w≠0):w&&&(w-1)<w:=Nat.lt_of_le_of_lt Nat.and_le_right (by omega)
theorem range_flat (p:Nat->Bool):∀n:Nat,(List.range (64*n)).filter p=(List.range n).flatMap fun i=>((List.range 64).filter fun j=>p (64*i+j)).map (64*i + ·)
 | 0=>rfl
 | n+1=>by
  rw[show 64*(n+1)=64*n+64 by omega,List.range_add,List.filter_append,range_flat p n,List.range_succ (n:=n),List.flatMap_append,List.flatMap_singleton,List.filter_map];rfl
theorem flat_tail (f:Nat->List Nat) {n:Nat} (h:∀i,n<=i->f i=[]):∀d:Nat,(List.range (n+d)).flatMap f=(List.range n).flatMap f
 | 0=>rfl
 | d+1=>by rw[<-Nat.add_assoc,List.range_succ,List.flatMap_append,flat_tail f h d,List.flatMap_singleton,h _ (by omega),Yw]
def wordsL (ws:List Nat) (n:Nat):List Nat:=(List.range n).flatMap fun i=>(bitsL (ws.getD i 0)).map (64*i + ·)
theorem wordsL_succ (ws:List Nat) (n:Nat):wordsL ws (n+1)=wordsL ws n++(bitsL (ws.getD n 0)).map (64*n + ·):=by
 unfold wordsL;rw[List.range_succ,List.flatMap_append,List.flatMap_singleton]
theorem elems_words {p:Nat->Bool} {ws:List Nat} (hl:ws.length<=64) (hm:∀k,memB ws k=p k):elems p=wordsL ws ws.length:=by
 unfold elems;rw[show 4096=64*64 from rfl,range_flat];have e:∀i,(((List.range 64).filter fun j=>p (64*i+j)).map (64*i + ·))=(bitsL (ws.getD i 0)).map (64*i + ·):=by
  intro i;congr 1;unfold bitsL;apply List.filter_congr;intro j hj;have hj:=List.mem_range.1 hj;rw[<-hm];unfold memB;rw[show (64*i+j)/64=i by omega,show (64*i+j)%64=j by omega]
 simp only[e];have:=flat_tail (fun i=>(bitsL (ws.getD i 0)).map (64*i + ·)) (n:=ws.length) (fun i hi=>by
  rw[Yo,Yl (by omega),Option.getD_none];have:bitsL 0=[]:=by unfold bitsL;exact List.filter_eq_nil_iff.2 fun j _=>by simp
  rw[this];rfl) (64-ws.length)
 rw[show ws.length+(64-ws.length)=64 by omega] at this;exact this
end Go.VC
end
