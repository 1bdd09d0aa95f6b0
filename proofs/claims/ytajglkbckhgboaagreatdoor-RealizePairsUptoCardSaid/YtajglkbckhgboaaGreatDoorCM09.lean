/- SxVcSf SxM13 SxM14 SxM15 SxM16 SxKa SxVcK1 SxKb SxKc SxVcK2 SxKd SxVcK4 SxKe SxKf SxVcK5 SxKg SxKh SxKj SxKk SxM17 SxM19 SxM20 SyH SyVcM SyIa SyIs SyVcC SxM21 SxM22 SyA SyB SyVcA SyC SyI SyVcD SyJ SxArgs. -/
import Derived.Test.YtajglkbckhgboaaGreatDoorCM08
import Derived.Test.YtajglkbckhgboaaGreatDoorRows
set_option linter.all false
set_option maxRecDepth 100000
set_option maxHeartbeats 8000000

section
namespace Go.VC
open Go.Proofs
/- farandole/realize.find$1 -/
def W95 (c0:Addr) (c1:Addr) (c2:Addr) (h:Heap) (R:Value->Heap->Prop):Prop:=
 (∀h1:Heap,h1=h.push (.cells ⟨[.int .i64 0,.int .i64 0,.slice none 0 0,.slice none 0 0,.int .i64 0,.bool false,.int .i64 0,.int .i64 0,.slice none 0 0,.int .i64 0,.bool false,.int .i64 0,.int .i64 0,.slice none 0 0]⟩ 35) -> 
 (∃x2:Option Addr,hc h1 c0=some (.pointer x2) /\ 
 (∃x3:Sl,hc h1 c1=some (.slice x3.a x3.n x3.c) /\ 
 (∃x4:Option Nat,hc h1 c2=some (.map x4) /\ 
 (Fn Pz 96 #[.pointer x2,.int .i64 1,.slice x3.a x3.n x3.c,.map x4] h1 
 (fun v5 h21=>∃x6:Int,∃x7:Int,∃x8:Sl,∃x9:Sl,∃x10:Int,∃x11:Bool,∃x12:Int,∃x13:Int,∃x14:Sl,∃x15:Int,∃x16:Bool,∃x17:Int,∃x18:Int,∃x19:Sl,∃x20:Int,v5=.tuple ⟨[.agg ⟨[.int .i64 x6,.int .i64 x7,.slice x8.a x8.n x8.c,.slice x9.a x9.n x9.c,.int .i64 x10,.bool x11,.int .i64 x12,.int .i64 x13,.slice x14.a x14.n x14.c,.int .i64 x15,.bool x16,.int .i64 x17,.int .i64 x18,.slice x19.a x19.n x19.c]⟩,.int .i64 x20]⟩ /\ 
 (okAt h21 ⟨h.size,0,none⟩ 14/\∀h22:Heap,h22=hputs h21 ⟨h.size,0,none⟩ 0 [.int .i64 x6,.int .i64 x7,.slice x8.a x8.n x8.c,.slice x9.a x9.n x9.c,.int .i64 x10,.bool x11,.int .i64 x12,.int .i64 x13,.slice x14.a x14.n x14.c,.int .i64 x15,.bool x16,.int .i64 x17,.int .i64 x18,.slice x19.a x19.n x19.c] -> 
 (∃x23:Int,∃x24:Int,∃x25:Sl,∃x26:Sl,∃x27:Int,∃x28:Bool,∃x29:Int,∃x30:Int,∃x31:Sl,∃x32:Int,∃x33:Bool,∃x34:Int,∃x35:Int,∃x36:Sl,atC h22 ⟨h.size,0,none⟩ [.int .i64 x23,.int .i64 x24,.slice x25.a x25.n x25.c,.slice x26.a x26.n x26.c,.int .i64 x27,.bool x28,.int .i64 x29,.int .i64 x30,.slice x31.a x31.n x31.c,.int .i64 x32,.bool x33,.int .i64 x34,.int .i64 x35,.slice x36.a x36.n x36.c] /\ 
 R (.tuple ⟨[.agg ⟨[.int .i64 x23,.int .i64 x24,.slice x25.a x25.n x25.c,.slice x26.a x26.n x26.c,.int .i64 x27,.bool x28,.int .i64 x29,.int .i64 x30,.slice x31.a x31.n x31.c,.int .i64 x32,.bool x33,.int .i64 x34,.int .i64 x35,.slice x36.a x36.n x36.c]⟩,.int .i64 x20]⟩) h22))))))))
theorem vc95e (c0:Addr) (c1:Addr) (c2:Addr) (h:Heap) (R:Value->Heap->Prop):W95 c0 c1 c2 h R=fnW Pz 95 .z #[.pointer (some c0),.pointer (some c1),.pointer (some c2)] h R:=by kernel_rfl
theorem vc95 (c0:Addr) (c1:Addr) (c2:Addr) (h:Heap) (R:Value->Heap->Prop) (H:W95 c0 c1 c2 h R):Fn Pz 95 #[.pointer (some c0),.pointer (some c1),.pointer (some c2)] h R:=fnI (vc95e c0 c1 c2 h R) H
/- farandole/realize.find$2 -/
def W98 (c0:Addr) (c1:Addr) (c2:Addr) (h:Heap) (R:Value->Heap->Prop):Prop:=
 (∀h1:Heap,h1=h.push (.cells ⟨[.int .i64 0,.int .i64 0,.slice none 0 0,.slice none 0 0,.int .i64 0,.bool false,.int .i64 0,.int .i64 0,.slice none 0 0,.int .i64 0,.bool false,.int .i64 0,.int .i64 0,.slice none 0 0]⟩ 35) -> 
 (∃x2:Option Addr,hc h1 c0=some (.pointer x2) /\ 
 (∃x3:Sl,hc h1 c1=some (.slice x3.a x3.n x3.c) /\ 
 (∃x4:Option Nat,hc h1 c2=some (.map x4) /\ 
 (Fn Pz 96 #[.pointer x2,.int .i64 3,.slice x3.a x3.n x3.c,.map x4] h1 
 (fun v5 h21=>∃x6:Int,∃x7:Int,∃x8:Sl,∃x9:Sl,∃x10:Int,∃x11:Bool,∃x12:Int,∃x13:Int,∃x14:Sl,∃x15:Int,∃x16:Bool,∃x17:Int,∃x18:Int,∃x19:Sl,∃x20:Int,v5=.tuple ⟨[.agg ⟨[.int .i64 x6,.int .i64 x7,.slice x8.a x8.n x8.c,.slice x9.a x9.n x9.c,.int .i64 x10,.bool x11,.int .i64 x12,.int .i64 x13,.slice x14.a x14.n x14.c,.int .i64 x15,.bool x16,.int .i64 x17,.int .i64 x18,.slice x19.a x19.n x19.c]⟩,.int .i64 x20]⟩ /\ 
 (okAt h21 ⟨h.size,0,none⟩ 14/\∀h22:Heap,h22=hputs h21 ⟨h.size,0,none⟩ 0 [.int .i64 x6,.int .i64 x7,.slice x8.a x8.n x8.c,.slice x9.a x9.n x9.c,.int .i64 x10,.bool x11,.int .i64 x12,.int .i64 x13,.slice x14.a x14.n x14.c,.int .i64 x15,.bool x16,.int .i64 x17,.int .i64 x18,.slice x19.a x19.n x19.c] -> 
 (∃x23:Int,∃x24:Int,∃x25:Sl,∃x26:Sl,∃x27:Int,∃x28:Bool,∃x29:Int,∃x30:Int,∃x31:Sl,∃x32:Int,∃x33:Bool,∃x34:Int,∃x35:Int,∃x36:Sl,atC h22 ⟨h.size,0,none⟩ [.int .i64 x23,.int .i64 x24,.slice x25.a x25.n x25.c,.slice x26.a x26.n x26.c,.int .i64 x27,.bool x28,.int .i64 x29,.int .i64 x30,.slice x31.a x31.n x31.c,.int .i64 x32,.bool x33,.int .i64 x34,.int .i64 x35,.slice x36.a x36.n x36.c] /\ 
 R (.tuple ⟨[.agg ⟨[.int .i64 x23,.int .i64 x24,.slice x25.a x25.n x25.c,.slice x26.a x26.n x26.c,.int .i64 x27,.bool x28,.int .i64 x29,.int .i64 x30,.slice x31.a x31.n x31.c,.int .i64 x32,.bool x33,.int .i64 x34,.int .i64 x35,.slice x36.a x36.n x36.c]⟩,.int .i64 x20]⟩) h22))))))))
theorem vc98e (c0:Addr) (c1:Addr) (c2:Addr) (h:Heap) (R:Value->Heap->Prop):W98 c0 c1 c2 h R=fnW Pz 98 .z #[.pointer (some c0),.pointer (some c1),.pointer (some c2)] h R:=by kernel_rfl
theorem vc98 (c0:Addr) (c1:Addr) (c2:Addr) (h:Heap) (R:Value->Heap->Prop) (H:W98 c0 c1 c2 h R):Fn Pz 98 #[.pointer (some c0),.pointer (some c1),.pointer (some c2)] h R:=fnI (vc98e c0 c1 c2 h R) H
/- farandole/realize.find$3 -/
def W99 (c0:Addr) (c1:Addr) (c2:Addr) (h:Heap) (R:Value->Heap->Prop):Prop:=
 (∀h1:Heap,h1=h.push (.cells ⟨[.int .i64 0,.int .i64 0,.slice none 0 0,.slice none 0 0,.int .i64 0,.bool false,.int .i64 0,.int .i64 0,.slice none 0 0,.int .i64 0,.bool false,.int .i64 0,.int .i64 0,.slice none 0 0]⟩ 35) -> 
 (∃x2:Option Addr,hc h1 c0=some (.pointer x2) /\ 
 (∃x3:Sl,hc h1 c1=some (.slice x3.a x3.n x3.c) /\ 
 (∃x4:Option Nat,hc h1 c2=some (.map x4) /\ 
 (Fn Pz 96 #[.pointer x2,.int .i64 4,.slice x3.a x3.n x3.c,.map x4] h1 
 (fun v5 h21=>∃x6:Int,∃x7:Int,∃x8:Sl,∃x9:Sl,∃x10:Int,∃x11:Bool,∃x12:Int,∃x13:Int,∃x14:Sl,∃x15:Int,∃x16:Bool,∃x17:Int,∃x18:Int,∃x19:Sl,∃x20:Int,v5=.tuple ⟨[.agg ⟨[.int .i64 x6,.int .i64 x7,.slice x8.a x8.n x8.c,.slice x9.a x9.n x9.c,.int .i64 x10,.bool x11,.int .i64 x12,.int .i64 x13,.slice x14.a x14.n x14.c,.int .i64 x15,.bool x16,.int .i64 x17,.int .i64 x18,.slice x19.a x19.n x19.c]⟩,.int .i64 x20]⟩ /\ 
 (okAt h21 ⟨h.size,0,none⟩ 14/\∀h22:Heap,h22=hputs h21 ⟨h.size,0,none⟩ 0 [.int .i64 x6,.int .i64 x7,.slice x8.a x8.n x8.c,.slice x9.a x9.n x9.c,.int .i64 x10,.bool x11,.int .i64 x12,.int .i64 x13,.slice x14.a x14.n x14.c,.int .i64 x15,.bool x16,.int .i64 x17,.int .i64 x18,.slice x19.a x19.n x19.c] -> 
 (∃x23:Int,∃x24:Int,∃x25:Sl,∃x26:Sl,∃x27:Int,∃x28:Bool,∃x29:Int,∃x30:Int,∃x31:Sl,∃x32:Int,∃x33:Bool,∃x34:Int,∃x35:Int,∃x36:Sl,atC h22 ⟨h.size,0,none⟩ [.int .i64 x23,.int .i64 x24,.slice x25.a x25.n x25.c,.slice x26.a x26.n x26.c,.int .i64 x27,.bool x28,.int .i64 x29,.int .i64 x30,.slice x31.a x31.n x31.c,.int .i64 x32,.bool x33,.int .i64 x34,.int .i64 x35,.slice x36.a x36.n x36.c] /\ 
 R (.tuple ⟨[.agg ⟨[.int .i64 x23,.int .i64 x24,.slice x25.a x25.n x25.c,.slice x26.a x26.n x26.c,.int .i64 x27,.bool x28,.int .i64 x29,.int .i64 x30,.slice x31.a x31.n x31.c,.int .i64 x32,.bool x33,.int .i64 x34,.int .i64 x35,.slice x36.a x36.n x36.c]⟩,.int .i64 x20]⟩) h22))))))))
theorem vc99e (c0:Addr) (c1:Addr) (c2:Addr) (h:Heap) (R:Value->Heap->Prop):W99 c0 c1 c2 h R=fnW Pz 99 .z #[.pointer (some c0),.pointer (some c1),.pointer (some c2)] h R:=by kernel_rfl
theorem vc99 (c0:Addr) (c1:Addr) (c2:Addr) (h:Heap) (R:Value->Heap->Prop) (H:W99 c0 c1 c2 h R):Fn Pz 99 #[.pointer (some c0),.pointer (some c1),.pointer (some c2)] h R:=fnI (vc99e c0 c1 c2 h R) H
/- farandole/realize.find
   loop rrrrrrrlrb: length_64:Int, x_65:Int -/
def V41k (h87:Heap) (x72:Int) (x73:Int) (x74:Sl) (x75:Sl) (x76:Int) (x77:Bool) (x78:Int) (x79:Int) (x80:Sl) (x81:Int) (x82:Bool) (x83:Int) (x84:Int) (x85:Sl) (x86:Int) (length_64:Int) (h51:Heap) (m63:Nat) (I61:Int->Int->Heap->Nat->Prop) (x_65:Int):Prop:=
 (∀h88:Heap,h88=h87.push (.cells ⟨[.int .i64 0,.int .i64 0,.slice none 0 0,.slice none 0 0,.int .i64 0,.bool false,.int .i64 0,.int .i64 0,.slice none 0 0,.int .i64 0,.bool false,.int .i64 0,.int .i64 0,.slice none 0 0]⟩ 35) -> 
   (okAt h88 ⟨h87.size,0,none⟩ 14/\∀h89:Heap,h89=hputs h88 ⟨h87.size,0,none⟩ 0 [.int .i64 x72,.int .i64 x73,.slice x74.a x74.n x74.c,.slice x75.a x75.n x75.c,.int .i64 x76,.bool x77,.int .i64 x78,.int .i64 x79,.slice x80.a x80.n x80.c,.int .i64 x81,.bool x82,.int .i64 x83,.int .i64 x84,.slice x85.a x85.n x85.c] -> 
   (sB (decide (x86<length_64)) 
   ((∃x90:Int,∃x91:Int,∃x92:Sl,∃x93:Sl,∃x94:Int,∃x95:Bool,∃x96:Int,∃x97:Int,∃x98:Sl,∃x99:Int,∃x100:Bool,∃x101:Int,∃x102:Int,∃x103:Sl,atC h89 ⟨h87.size,0,none⟩ [.int .i64 x90,.int .i64 x91,.slice x92.a x92.n x92.c,.slice x93.a x93.n x93.c,.int .i64 x94,.bool x95,.int .i64 x96,.int .i64 x97,.slice x98.a x98.n x98.c,.int .i64 x99,.bool x100,.int .i64 x101,.int .i64 x102,.slice x103.a x103.n x103.c] /\ 
   (okAt h89 ⟨h51.size,0,none⟩ 14/\∀h104:Heap,h104=hputs h89 ⟨h51.size,0,none⟩ 0 [.int .i64 x90,.int .i64 x91,.slice x92.a x92.n x92.c,.slice x93.a x93.n x93.c,.int .i64 x94,.bool x95,.int .i64 x96,.int .i64 x97,.slice x98.a x98.n x98.c,.int .i64 x99,.bool x100,.int .i64 x101,.int .i64 x102,.slice x103.a x103.n x103.c] -> 
   (∃m105,m105<m63/\I61 x86 (IntKind.wrap .i64 (x_65+1)) h104 m105)))) 
   ((∃m106,m106<m63/\I61 length_64 (IntKind.wrap .i64 (x_65+1)) h89 m106)))))
def W41 (p0_1:ByteArray) (p0_2:Sl) (p0_3:Sl) (p0_4:Int) (p0_5:Int) (p0_6:Int) (p0_7:Sl) (p0_8:Sl) (p1:Int) (h:Heap) (R:Value->Heap->Prop):Prop:=
 (Wn h [.string p0_1,vS p0_2,vS p0_3,vI p0_4,vI p0_5,vI p0_6,vS p0_7,vS p0_8] 27 fun h9=>
 (Wn h9 [vI 0,vI 0,.slice none 0 0,.slice none 0 0,vI 0,.bool false,vI 0,vI 0,.slice none 0 0,vI 0,.bool false,vI 0,vI 0,.slice none 0 0] 35 fun h10=>
 (∃x11:ByteArray,∃x12:Sl,∃x13:Sl,∃x14:Int,∃x15:Int,∃x16:Int,∃x17:Sl,∃x18:Sl,atC h10 (aS h 0) [.string x11,vS x12,vS x13,vI x14,vI x15,vI x16,vS x17,vS x18] /\ 
 (Fn Pz 49 #[.agg ⟨[.string x11,vS x12,vS x13,vI x14,vI x15,vI x16,vS x17,vS x18]⟩,vI p1] h10 
 (fun v19 h22=>∃x20:Option Addr,∃x21:Int,v19=.tuple ⟨[.pointer x20,vI x21]⟩ /\ 
 (Wn h22 [.pointer none] 89 fun h23=>
 (Wp h23 (aS h22 0) 1 [.pointer x20] fun h24=>
 (sB (x21 != 0) 
 ((Wp h24 (aS h9 0) 14 [vI 0,vI 0,.slice none 0 0,.slice none 0 0,vI 0,.bool false,vI 0,vI 0,.slice none 0 0,vI 0,.bool false,vI 0,vI 0,.slice none 0 0] fun h25=>
 (∃x26:Int,∃x27:Int,∃x28:Sl,∃x29:Sl,∃x30:Int,∃x31:Bool,∃x32:Int,∃x33:Int,∃x34:Sl,∃x35:Int,∃x36:Bool,∃x37:Int,∃x38:Int,∃x39:Sl,atC h25 (aS h9 0) [vI x26,vI x27,vS x28,vS x29,vI x30,.bool x31,vI x32,vI x33,vS x34,vI x35,.bool x36,vI x37,vI x38,vS x39] /\ 
 R (.tuple ⟨[.agg ⟨[vI x26,vI x27,vS x28,vS x29,vI x30,.bool x31,vI x32,vI x33,vS x34,vI x35,.bool x36,vI x37,vI x38,vS x39]⟩,vI 1073741824,vI x21]⟩) h25))) 
 ((∃x40:Option Addr,hc h24 (aS h22 0)=some (.pointer x40) /\ 
 (Fn Pz 82 #[.pointer x40] h24 
 (fun v41 h42=>v41=.tuple ⟨[]⟩ /\ 
 (∃x43:Option Addr,hc h42 (aS h22 0)=some (.pointer x43) /\ 
 (Fn Pz 50 #[.pointer x43] h42 
 (fun v44 h47=>∃x45:Sl,∃x46:Option Nat,v44=.tuple ⟨[vS x45,.map x46]⟩ /\ 
 (Wn h47 [.slice none 0 0] 92 fun h48=>
 (Wn h48 [.map none] 93 fun h49=>
 (Wp h49 (aS h47 0) 1 [vS x45] fun h50=>
 (Wp h50 (aS h48 0) 1 [.map x46] fun h51=>
 (Wn h51 [vI 0,vI 0,.slice none 0 0,.slice none 0 0,vI 0,.bool false,vI 0,vI 0,.slice none 0 0,vI 0,.bool false,vI 0,vI 0,.slice none 0 0] 35 fun h52=>
 (Wp h52 (aS h51 0) 14 [vI 0,vI 0,.slice none 0 0,.slice none 0 0,vI 0,.bool false,vI 0,vI 0,.slice none 0 0,vI 0,.bool false,vI 0,vI 0,.slice none 0 0] fun h53=>
 (∃x54:Option Addr,hc h53 (aS h22 0)=some (.pointer x54) /\ 
 (Wn h53 [.nilFunc,.nilFunc,.nilFunc,.nilFunc] 178 fun h55=>
 (Wp h55 (aS h53 0) 4 [.func (.func 95) #[] #[.pointer (some (aS h22 0)),.pointer (some (aS h47 0)),.pointer (some (aS h48 0))],.func (.func 97) #[.pointer x54] #[],.func (.func 98) #[] #[.pointer (some (aS h22 0)),.pointer (some (aS h47 0)),.pointer (some (aS h48 0))],.func (.func 99) #[] #[.pointer (some (aS h22 0)),.pointer (some (aS h47 0)),.pointer (some (aS h48 0))]] fun h56=>
 (∃x57:Value,∃x58:Value,∃x59:Value,∃x60:Value,atC h56 (aS h53 0) [x57,x58,x59,x60] /\ 
 (QII 1073741824 0 h56 fun I61 length_64 x_65 h66 m63=>(
 (sB (decide (x_65<4)) 
 ((Ib x_65 4/\∃x67:Value,List.take 1 (List.drop (Int.toNat x_65*1) ([x57,x58,x59,x60]:List Value))=[x67] /\ 
 (match x67 with | .func (.func g68) fa69 fc70=>(bif callable Pz g68 then Fn Pz g68 (fa69 ++ #[]++fc70) h66 
 (fun v71 h87=>∃x72:Int,∃x73:Int,∃x74:Sl,∃x75:Sl,∃x76:Int,∃x77:Bool,∃x78:Int,∃x79:Int,∃x80:Sl,∃x81:Int,∃x82:Bool,∃x83:Int,∃x84:Int,∃x85:Sl,∃x86:Int,v71=.tuple ⟨[.agg ⟨[vI x72,vI x73,vS x74,vS x75,vI x76,.bool x77,vI x78,vI x79,vS x80,vI x81,.bool x82,vI x83,vI x84,vS x85]⟩,vI x86]⟩ /\ 
 (V41k h87 x72 x73 x74 x75 x76 x77 x78 x79 x80 x81 x82 x83 x84 x85 x86 length_64 h51 m63 I61 x_65)) else ExtW Pz g68 (fa69 ++ #[]++fc70) h66 
 (fun v71 h87=>∃x72:Int,∃x73:Int,∃x74:Sl,∃x75:Sl,∃x76:Int,∃x77:Bool,∃x78:Int,∃x79:Int,∃x80:Sl,∃x81:Int,∃x82:Bool,∃x83:Int,∃x84:Int,∃x85:Sl,∃x86:Int,v71=.tuple ⟨[.agg ⟨[vI x72,vI x73,vS x74,vS x75,vI x76,.bool x77,vI x78,vI x79,vS x80,vI x81,.bool x82,vI x83,vI x84,vS x85]⟩,vI x86]⟩ /\ 
 (Wn h87 [vI 0,vI 0,.slice none 0 0,.slice none 0 0,vI 0,.bool false,vI 0,vI 0,.slice none 0 0,vI 0,.bool false,vI 0,vI 0,.slice none 0 0] 35 fun h88=>
 (Wp h88 (aS h87 0) 14 [vI x72,vI x73,vS x74,vS x75,vI x76,.bool x77,vI x78,vI x79,vS x80,vI x81,.bool x82,vI x83,vI x84,vS x85] fun h89=>
 (sB (decide (x86<length_64)) 
 ((∃x90:Int,∃x91:Int,∃x92:Sl,∃x93:Sl,∃x94:Int,∃x95:Bool,∃x96:Int,∃x97:Int,∃x98:Sl,∃x99:Int,∃x100:Bool,∃x101:Int,∃x102:Int,∃x103:Sl,atC h89 (aS h87 0) [vI x90,vI x91,vS x92,vS x93,vI x94,.bool x95,vI x96,vI x97,vS x98,vI x99,.bool x100,vI x101,vI x102,vS x103] /\ 
 (Wp h89 (aS h51 0) 14 [vI x90,vI x91,vS x92,vS x93,vI x94,.bool x95,vI x96,vI x97,vS x98,vI x99,.bool x100,vI x101,vI x102,vS x103] fun h104=>
 (∃m105,m105<m63/\I61 x86 (IntKind.wrap .i64 (x_65+1)) h104 m105)))) 
 ((∃m106,m106<m63/\I61 length_64 (IntKind.wrap .i64 (x_65+1)) h89 m106))))))) | _=>False))) 
 ((∃x107:Int,∃x108:Int,∃x109:Sl,∃x110:Sl,∃x111:Int,∃x112:Bool,∃x113:Int,∃x114:Int,∃x115:Sl,∃x116:Int,∃x117:Bool,∃x118:Int,∃x119:Int,∃x120:Sl,atC h66 (aS h51 0) [vI x107,vI x108,vS x109,vS x110,vI x111,.bool x112,vI x113,vI x114,vS x115,vI x116,.bool x117,vI x118,vI x119,vS x120] /\ 
 (Wp h66 (aS h9 0) 14 [vI x107,vI x108,vS x109,vS x110,vI x111,.bool x112,vI x113,vI x114,vS x115,vI x116,.bool x117,vI x118,vI x119,vS x120] fun h121=>
 (∃x122:Int,∃x123:Int,∃x124:Sl,∃x125:Sl,∃x126:Int,∃x127:Bool,∃x128:Int,∃x129:Int,∃x130:Sl,∃x131:Int,∃x132:Bool,∃x133:Int,∃x134:Int,∃x135:Sl,atC h121 (aS h9 0) [vI x122,vI x123,vS x124,vS x125,vI x126,.bool x127,vI x128,vI x129,vS x130,vI x131,.bool x132,vI x133,vI x134,vS x135] /\ 
 R (.tuple ⟨[.agg ⟨[vI x122,vI x123,vS x124,vS x125,vI x126,.bool x127,vI x128,vI x129,vS x130,vI x131,.bool x132,vI x133,vI x134,vS x135]⟩,vI length_64,vI 0]⟩) h121))))))))))))))))))))))))))))))))
theorem vc41e (p0_1:ByteArray) (p0_2:Sl) (p0_3:Sl) (p0_4:Int) (p0_5:Int) (p0_6:Int) (p0_7:Sl) (p0_8:Sl) (p1:Int) (h:Heap) (R:Value->Heap->Prop):W41 p0_1 p0_2 p0_3 p0_4 p0_5 p0_6 p0_7 p0_8 p1 h R=fnW Pz 41 (.s .z (.s .z (.s .z (.s .z (.s .z (.s .z (.s .z (.s (.s .z (.b (.l [(12,.one (.int .i64)),(43,.one (.int .i64))] .z))) .z)))))))) #[.agg ⟨[.string p0_1,.slice p0_2.a p0_2.n p0_2.c,.slice p0_3.a p0_3.n p0_3.c,.int .i64 p0_4,.int .i64 p0_5,.int .i64 p0_6,.slice p0_7.a p0_7.n p0_7.c,.slice p0_8.a p0_8.n p0_8.c]⟩,.int .i64 p1] h R:=by kernel_rfl
theorem vc41 (p0_1:ByteArray) (p0_2:Sl) (p0_3:Sl) (p0_4:Int) (p0_5:Int) (p0_6:Int) (p0_7:Sl) (p0_8:Sl) (p1:Int) (h:Heap) (R:Value->Heap->Prop) (H:W41 p0_1 p0_2 p0_3 p0_4 p0_5 p0_6 p0_7 p0_8 p1 h R):Fn Pz 41 #[.agg ⟨[.string p0_1,.slice p0_2.a p0_2.n p0_2.c,.slice p0_3.a p0_3.n p0_3.c,.int .i64 p0_4,.int .i64 p0_5,.int .i64 p0_6,.slice p0_7.a p0_7.n p0_7.c,.slice p0_8.a p0_8.n p0_8.c]⟩,.int .i64 p1] h R:=fnI (vc41e p0_1 p0_2 p0_3 p0_4 p0_5 p0_6 p0_7 p0_8 p1 h R) H
/- farandole/realize.Check
   loop rrrlrb: length_43:Int, x_44:Int -/
def W14 (p0_1:ByteArray) (p0_2:Sl) (p0_3:Sl) (p0_4:Int) (p0_5:Int) (p0_6:Int) (p0_7:Sl) (p0_8:Sl) (h:Heap) (R:Value->Heap->Prop):Prop:=
 (Wn h [.string p0_1,vS p0_2,vS p0_3,vI p0_4,vI p0_5,vI p0_6,vS p0_7,vS p0_8] 27 fun h9=>
 (Wn h9 [vI 0,vI 0,.slice none 0 0,.slice none 0 0,vI 0,.bool false,vI 0,vI 0,.slice none 0 0,vI 0,.bool false,vI 0,vI 0,.slice none 0 0] 35 fun h10=>
 (∃x11:ByteArray,∃x12:Sl,∃x13:Sl,∃x14:Int,∃x15:Int,∃x16:Int,∃x17:Sl,∃x18:Sl,atC h10 (aS h 0) [.string x11,vS x12,vS x13,vI x14,vI x15,vI x16,vS x17,vS x18] /\ 
 (Fn Pz 40 #[.agg ⟨[.string x11,vS x12,vS x13,vI x14,vI x15,vI x16,vS x17,vS x18]⟩] h10 
 (fun v19 h21=>∃x20,iB v19 x20 /\ 
 (sB (!x20) 
 ((Wp h21 (aS h9 0) 14 [vI 0,vI 0,.slice none 0 0,.slice none 0 0,vI 0,.bool false,vI 0,vI 0,.slice none 0 0,vI 0,.bool false,vI 0,vI 0,.slice none 0 0] fun h22=>
 (∃x23:Int,∃x24:Int,∃x25:Sl,∃x26:Sl,∃x27:Int,∃x28:Bool,∃x29:Int,∃x30:Int,∃x31:Sl,∃x32:Int,∃x33:Bool,∃x34:Int,∃x35:Int,∃x36:Sl,atC h22 (aS h9 0) [vI x23,vI x24,vS x25,vS x26,vI x27,.bool x28,vI x29,vI x30,vS x31,vI x32,.bool x33,vI x34,vI x35,vS x36] /\ 
 R (.tuple ⟨[.agg ⟨[vI x23,vI x24,vS x25,vS x26,vI x27,.bool x28,vI x29,vI x30,vS x31,vI x32,.bool x33,vI x34,vI x35,vS x36]⟩,vI 1]⟩) h22))) 
 ((Wn h21 [vI 0,vI 0,.slice none 0 0,.slice none 0 0,vI 0,.bool false,vI 0,vI 0,.slice none 0 0,vI 0,.bool false,vI 0,vI 0,.slice none 0 0] 35 fun h37=>
 (Wp h37 (aS h21 0) 14 [vI 0,vI 0,.slice none 0 0,.slice none 0 0,vI 0,.bool false,vI 0,vI 0,.slice none 0 0,vI 0,.bool false,vI 0,vI 0,.slice none 0 0] fun h38=>
 (∃x39,rS h38 (aS h 1) x39 /\ 
 (QII 1073741824 0 h38 fun I40 length_43 x_44 h45 m42=>(
 (sB (decide (x_44<(x39.n:Int))) 
 ((∃x46:ByteArray,∃x47:Sl,∃x48:Sl,∃x49:Int,∃x50:Int,∃x51:Int,∃x52:Sl,∃x53:Sl,atC h45 (aS h 0) [.string x46,vS x47,vS x48,vI x49,vI x50,vI x51,vS x52,vS x53] /\ 
 (Fn Pz 41 #[.agg ⟨[.string x46,vS x47,vS x48,vI x49,vI x50,vI x51,vS x52,vS x53]⟩,vI x_44] h45 
 (fun v54 h71=>∃x55:Int,∃x56:Int,∃x57:Sl,∃x58:Sl,∃x59:Int,∃x60:Bool,∃x61:Int,∃x62:Int,∃x63:Sl,∃x64:Int,∃x65:Bool,∃x66:Int,∃x67:Int,∃x68:Sl,∃x69:Int,∃x70:Int,v54=.tuple ⟨[.agg ⟨[vI x55,vI x56,vS x57,vS x58,vI x59,.bool x60,vI x61,vI x62,vS x63,vI x64,.bool x65,vI x66,vI x67,vS x68]⟩,vI x69,vI x70]⟩ /\ 
 (Wn h71 [vI 0,vI 0,.slice none 0 0,.slice none 0 0,vI 0,.bool false,vI 0,vI 0,.slice none 0 0,vI 0,.bool false,vI 0,vI 0,.slice none 0 0] 35 fun h72=>
 (Wp h72 (aS h71 0) 14 [vI x55,vI x56,vS x57,vS x58,vI x59,.bool x60,vI x61,vI x62,vS x63,vI x64,.bool x65,vI x66,vI x67,vS x68] fun h73=>
 (sB (decide (x69<length_43)) 
 ((∃x74:Int,∃x75:Int,∃x76:Sl,∃x77:Sl,∃x78:Int,∃x79:Bool,∃x80:Int,∃x81:Int,∃x82:Sl,∃x83:Int,∃x84:Bool,∃x85:Int,∃x86:Int,∃x87:Sl,atC h73 (aS h71 0) [vI x74,vI x75,vS x76,vS x77,vI x78,.bool x79,vI x80,vI x81,vS x82,vI x83,.bool x84,vI x85,vI x86,vS x87] /\ 
 (Wp h73 (aS h21 0) 14 [vI x74,vI x75,vS x76,vS x77,vI x78,.bool x79,vI x80,vI x81,vS x82,vI x83,.bool x84,vI x85,vI x86,vS x87] fun h88=>
 (∃m89,m89<m42/\I40 x69 (IntKind.wrap .i64 (x_44+1)) h88 m89)))) 
 ((sB (x69==length_43) 
 ((sB (decide (x69<1073741824)) 
 ((∃x90,rI h73 (aS h71 0) x90 /\ 
 (∃x91,rI h73 (aS h21 0) x91 /\ 
 (sB (decide (x90<x91)) 
 ((∃x92:Int,∃x93:Int,∃x94:Sl,∃x95:Sl,∃x96:Int,∃x97:Bool,∃x98:Int,∃x99:Int,∃x100:Sl,∃x101:Int,∃x102:Bool,∃x103:Int,∃x104:Int,∃x105:Sl,atC h73 (aS h71 0) [vI x92,vI x93,vS x94,vS x95,vI x96,.bool x97,vI x98,vI x99,vS x100,vI x101,.bool x102,vI x103,vI x104,vS x105] /\ 
 (Wp h73 (aS h21 0) 14 [vI x92,vI x93,vS x94,vS x95,vI x96,.bool x97,vI x98,vI x99,vS x100,vI x101,.bool x102,vI x103,vI x104,vS x105] fun h106=>
 (∃m107,m107<m42/\I40 x69 (IntKind.wrap .i64 (x_44+1)) h106 m107)))) 
 ((∃m108,m108<m42/\I40 length_43 (IntKind.wrap .i64 (x_44+1)) h73 m108)))))) 
 ((∃m109,m109<m42/\I40 length_43 (IntKind.wrap .i64 (x_44+1)) h73 m109)))) 
 ((∃m110,m110<m42/\I40 length_43 (IntKind.wrap .i64 (x_44+1)) h73 m110))))))))))) 
 ((sB (length_43==1073741824) 
 ((Wp h45 (aS h9 0) 14 [vI 0,vI 0,.slice none 0 0,.slice none 0 0,vI 0,.bool false,vI 0,vI 0,.slice none 0 0,vI 0,.bool false,vI 0,vI 0,.slice none 0 0] fun h111=>
 (∃x112:Int,∃x113:Int,∃x114:Sl,∃x115:Sl,∃x116:Int,∃x117:Bool,∃x118:Int,∃x119:Int,∃x120:Sl,∃x121:Int,∃x122:Bool,∃x123:Int,∃x124:Int,∃x125:Sl,atC h111 (aS h9 0) [vI x112,vI x113,vS x114,vS x115,vI x116,.bool x117,vI x118,vI x119,vS x120,vI x121,.bool x122,vI x123,vI x124,vS x125] /\ 
 R (.tuple ⟨[.agg ⟨[vI x112,vI x113,vS x114,vS x115,vI x116,.bool x117,vI x118,vI x119,vS x120,vI x121,.bool x122,vI x123,vI x124,vS x125]⟩,vI 0]⟩) h111))) 
 ((∃x126:Int,∃x127:Int,∃x128:Sl,∃x129:Sl,∃x130:Int,∃x131:Bool,∃x132:Int,∃x133:Int,∃x134:Sl,∃x135:Int,∃x136:Bool,∃x137:Int,∃x138:Int,∃x139:Sl,atC h45 (aS h21 0) [vI x126,vI x127,vS x128,vS x129,vI x130,.bool x131,vI x132,vI x133,vS x134,vI x135,.bool x136,vI x137,vI x138,vS x139] /\ 
 (Wp h45 (aS h9 0) 14 [vI x126,vI x127,vS x128,vS x129,vI x130,.bool x131,vI x132,vI x133,vS x134,vI x135,.bool x136,vI x137,vI x138,vS x139] fun h140=>
 (∃x141:Int,∃x142:Int,∃x143:Sl,∃x144:Sl,∃x145:Int,∃x146:Bool,∃x147:Int,∃x148:Int,∃x149:Sl,∃x150:Int,∃x151:Bool,∃x152:Int,∃x153:Int,∃x154:Sl,atC h140 (aS h9 0) [vI x141,vI x142,vS x143,vS x144,vI x145,.bool x146,vI x147,vI x148,vS x149,vI x150,.bool x151,vI x152,vI x153,vS x154] /\ 
 R (.tuple ⟨[.agg ⟨[vI x141,vI x142,vS x143,vS x144,vI x145,.bool x146,vI x147,vI x148,vS x149,vI x150,.bool x151,vI x152,vI x153,vS x154]⟩,vI 18]⟩) h140)))))))))))))))))))
theorem vc14e (p0_1:ByteArray) (p0_2:Sl) (p0_3:Sl) (p0_4:Int) (p0_5:Int) (p0_6:Int) (p0_7:Sl) (p0_8:Sl) (h:Heap) (R:Value->Heap->Prop):W14 p0_1 p0_2 p0_3 p0_4 p0_5 p0_6 p0_7 p0_8 h R=fnW Pz 14 (.s .z (.s .z (.s .z (.s (.s .z (.b (.l [(5,.one (.int .i64)),(18,.one (.int .i64))] .z))) .z)))) #[.agg ⟨[.string p0_1,.slice p0_2.a p0_2.n p0_2.c,.slice p0_3.a p0_3.n p0_3.c,.int .i64 p0_4,.int .i64 p0_5,.int .i64 p0_6,.slice p0_7.a p0_7.n p0_7.c,.slice p0_8.a p0_8.n p0_8.c]⟩] h R:=by kernel_rfl
theorem vc14 (p0_1:ByteArray) (p0_2:Sl) (p0_3:Sl) (p0_4:Int) (p0_5:Int) (p0_6:Int) (p0_7:Sl) (p0_8:Sl) (h:Heap) (R:Value->Heap->Prop) (H:W14 p0_1 p0_2 p0_3 p0_4 p0_5 p0_6 p0_7 p0_8 h R):Fn Pz 14 #[.agg ⟨[.string p0_1,.slice p0_2.a p0_2.n p0_2.c,.slice p0_3.a p0_3.n p0_3.c,.int .i64 p0_4,.int .i64 p0_5,.int .i64 p0_6,.slice p0_7.a p0_7.n p0_7.c,.slice p0_8.a p0_8.n p0_8.c]⟩] h R:=fnI (vc14e p0_1 p0_2 p0_3 p0_4 p0_5 p0_6 p0_7 p0_8 h R) H
end Go.VC
end

section
namespace Go.VC
open Go.Proofs Go.LexS
theorem St.subp {h0 h:Heap} {L L' R:List It} (hs:St h0 h L) (hp:L.Perm (L'++R)):St h0 h L':=by
 have h1:=(hs.perm (hp.trans List.perm_append_comm)).drop R.length
 rwa [List.drop_left] at h1
structure WS where
 k:Int
 r:Int
 F:List Ac
 S:List Ac
 e:Evn
 o:Evn
def ws0:WS:=⟨0,0,[],[],evn0,evn0⟩
inductive BpP (g:Gl) (role kind:Int) (X:An):WS->Int->Prop
 | far (hn:∀n,¬Lst (mvP g role) (cstN X kind) (p00 g) n):BpP g role kind X ws0 farI
 | hit {n:Nat} {D:Pr->Int} {ms:List Pmv} {p:Pr} (hl:Lst (mvP g role) (cstN X kind) (p00 g) n) (hn:n<=8388608) (hD:∀q,Prr g role q->D q=dL (mvP g role) (cstN X kind) q) (hG:GTo (mvP g role) (cstS X kind) D (p00 g) ms p) (hc:cstS X kind p=some (D p)) :
   BpP g role kind X ⟨kind,role,(exW g role kind X (facts g ms) p).1,sacts g ms,(exW g role kind X (facts g ms) p).2.1,(exW g role kind X (facts g ms) p).2.2⟩ (n:Int)
inductive MxP (g:Gl) (role:Int) (X:An):WS->Int->Prop
 | far (hn:∀n,¬DnS g.es (MXx X) g.s.toNat n):MxP g role X ws0 farI
 | hit {n:Nat} {LF:List Int} {ks:List Nat} {s:Nat} {f:Fs} {e0:Ev} (hl:LstS g.es (MXx X) g.s.toNat n) (hn:n<=1000) (hF:LFok g (MXx X) LF) (hG:GS g.es LF g.s.toNat ks s) (h0:LF[s]?=some 0) (hf:X.fi[s]?=some f) (hm:mxB f=true) (hf0:f.l[0]?=some e0) :
   MxP g role X ⟨2,role,eacts g.es ks,[],fullE role e0,otE role f.l⟩ ((2*n:Nat):Int)
def WOut (h h':Heap) (W:WS) (n:Int) (v:Value):Prop:=∃w:Wt,w.k=W.k/\w.r=W.r/\w.e=W.e/\w.o=W.o/\v=.tuple ⟨[.agg ⟨w.cs⟩,.int .i64 n]⟩/\∃L,St h h' (.sl w.f 65 3 (W.F.map Ac.cs) :: .sl w.s 65 3 (W.S.map Ac.cs)::L)
theorem WOut.zero {h h':Heap} (E:Ext h h') (n:Int):WOut h h' ws0 n (.tuple ⟨[.agg ⟨wt0.cs⟩,.int .i64 n]⟩):=
 ⟨wt0,rfl,rfl,rfl,rfl,rfl,[],((((St.refl h).step E).nil_ 65 3).nil_ 65 3)⟩
theorem BpR.out {g:Gl} {role kind:Int} {X:An} {h h':Heap} {v:Value} (hr:BpR g role kind X h h' v):∃W n,BpP g role kind X W n/\WOut h h' W n v:=by
 cases hr with
 | far hn E=>exact⟨_,_,.far hn,.zero E _⟩
 | hit hl hn hD hG hc hk hr he ho hs=>exact⟨_,_,.hit hl hn hD hG hc,_,hk,hr,he,ho,rfl,_,hs⟩
theorem MxR.out {g:Gl} {role:Int} {X:An} {h h':Heap} {v:Value} (hr:MxR g role X h h' v):∃W n,MxP g role X W n/\WOut h h' W n v:=by
 cases hr with
 | far hn E=>exact⟨_,_,.far hn,.zero E _⟩
 | hit hl hn hF hG h0 hf hm hk hr hf0 he ho hs=>exact⟨_,_,.hit hl hn hF hG h0 hf hm hf0,_,hk,hr,he,ho,rfl,_,hs⟩
theorem clo120 (b:Nat) (g:Gl) (role:Int) (X:An) (all:Sl) (mb:Nat) (A:List Pr) (l:List (Pr × Sl)) (CB:Nat) (c0 c1 c2:Addr) (h:Heap) (h0:hc h c0=some (Value.pointer (some ⟨b,0,none⟩))) (h1:hc h c1=some (Value.slice all.a all.n all.c)) (h2:hc h c2=some (Value.map (some mb))) (hA:AnF h b g role X) (hx:Gm h) (hV:ValidS g) (hM:PrM h g role all mb A l) (hC:CkB X 1 A CB) (hAr:ArOk g X) :
  Fn Pz 95 #[.pointer (some c0),.pointer (some c1),.pointer (some c2)] h fun v h'=>∃W n,BpP g role 1 X W n/\WOut h h' W n v:=by
 apply vc95 c0 c1 c2;unfold W95;refine (St.refl h).newb fun h3 hs=>?_;refine⟨some ⟨b,0,none⟩,hc_ext hs.ext h0,all,hc_ext hs.ext h1,some mb,hc_ext hs.ext h2,?_⟩;refine (byPairs121 b g role X 1 all mb A l CB h3 (hA.ext hs.ext) (hx.ext hs.ext) hV (hM.ext hs.ext) hC hAr).mono ?_;intro v h21 hr;obtain⟨W,n,hP,w,e1,e2,e3,e4,rfl,L,hs2⟩:=hr.out;refine⟨w.k,w.r,w.f,w.s,w.e.r,w.e.s,w.e.p,w.e.l,nilS,w.o.r,w.o.s,w.o.p,w.o.l,nilS,n,rfl,?_⟩;replace hs:=hs.join hs2;refine hs.put 0 rfl (o:=0) (vs:=w.cs) rfl (Yyt 14) fun h22 hs=>?_;refine rdW (w:=w) (Q:=fun cs=>∃W n',BpP g role 1 X W n'/\WOut h h22 W n' (.tuple ⟨[.agg ⟨cs⟩,.int .i64 n]⟩)) (hs.at 0 rfl (o:=0) (n:=14) rfl) ?_;exact⟨W,n,hP,w,e1,e2,e3,e4,rfl,L,hs.drop 1⟩
theorem clo123 (b:Nat) (g:Gl) (role:Int) (X:An) (all:Sl) (mb:Nat) (A:List Pr) (l:List (Pr × Sl)) (CB:Nat) (c0 c1 c2:Addr) (h:Heap) (h0:hc h c0=some (Value.pointer (some ⟨b,0,none⟩))) (h1:hc h c1=some (Value.slice all.a all.n all.c)) (h2:hc h c2=some (Value.map (some mb))) (hA:AnF h b g role X) (hx:Gm h) (hV:ValidS g) (hM:PrM h g role all mb A l) (hC:CkB X 3 A CB) (hAr:ArOk g X) :
  Fn Pz 98 #[.pointer (some c0),.pointer (some c1),.pointer (some c2)] h fun v h'=>∃W n,BpP g role 3 X W n/\WOut h h' W n v:=by
 apply vc98 c0 c1 c2;unfold W98;refine (St.refl h).newb fun h3 hs=>?_;refine⟨some ⟨b,0,none⟩,hc_ext hs.ext h0,all,hc_ext hs.ext h1,some mb,hc_ext hs.ext h2,?_⟩;refine (byPairs121 b g role X 3 all mb A l CB h3 (hA.ext hs.ext) (hx.ext hs.ext) hV (hM.ext hs.ext) hC hAr).mono ?_;intro v h21 hr;obtain⟨W,n,hP,w,e1,e2,e3,e4,rfl,L,hs2⟩:=hr.out;refine⟨w.k,w.r,w.f,w.s,w.e.r,w.e.s,w.e.p,w.e.l,nilS,w.o.r,w.o.s,w.o.p,w.o.l,nilS,n,rfl,?_⟩;replace hs:=hs.join hs2;refine hs.put 0 rfl (o:=0) (vs:=w.cs) rfl (Yyt 14) fun h22 hs=>?_;refine rdW (w:=w) (Q:=fun cs=>∃W n',BpP g role 3 X W n'/\WOut h h22 W n' (.tuple ⟨[.agg ⟨cs⟩,.int .i64 n]⟩)) (hs.at 0 rfl (o:=0) (n:=14) rfl) ?_;exact⟨W,n,hP,w,e1,e2,e3,e4,rfl,L,hs.drop 1⟩
theorem clo124 (b:Nat) (g:Gl) (role:Int) (X:An) (all:Sl) (mb:Nat) (A:List Pr) (l:List (Pr × Sl)) (CB:Nat) (c0 c1 c2:Addr) (h:Heap) (h0:hc h c0=some (Value.pointer (some ⟨b,0,none⟩))) (h1:hc h c1=some (Value.slice all.a all.n all.c)) (h2:hc h c2=some (Value.map (some mb))) (hA:AnF h b g role X) (hx:Gm h) (hV:ValidS g) (hM:PrM h g role all mb A l) (hC:CkB X 4 A CB) (hAr:ArOk g X) :
  Fn Pz 99 #[.pointer (some c0),.pointer (some c1),.pointer (some c2)] h fun v h'=>∃W n,BpP g role 4 X W n/\WOut h h' W n v:=by
 apply vc99 c0 c1 c2;unfold W99;refine (St.refl h).newb fun h3 hs=>?_;refine⟨some ⟨b,0,none⟩,hc_ext hs.ext h0,all,hc_ext hs.ext h1,some mb,hc_ext hs.ext h2,?_⟩;refine (byPairs121 b g role X 4 all mb A l CB h3 (hA.ext hs.ext) (hx.ext hs.ext) hV (hM.ext hs.ext) hC hAr).mono ?_;intro v h21 hr;obtain⟨W,n,hP,w,e1,e2,e3,e4,rfl,L,hs2⟩:=hr.out;refine⟨w.k,w.r,w.f,w.s,w.e.r,w.e.s,w.e.p,w.e.l,nilS,w.o.r,w.o.s,w.o.p,w.o.l,nilS,n,rfl,?_⟩;replace hs:=hs.join hs2;refine hs.put 0 rfl (o:=0) (vs:=w.cs) rfl (Yyt 14) fun h22 hs=>?_;refine rdW (w:=w) (Q:=fun cs=>∃W n',BpP g role 4 X W n'/\WOut h h22 W n' (.tuple ⟨[.agg ⟨cs⟩,.int .i64 n]⟩)) (hs.at 0 rfl (o:=0) (n:=14) rfl) ?_;exact⟨W,n,hP,w,e1,e2,e3,e4,rfl,L,hs.drop 1⟩
theorem St.rlm2 {α:Type} {h0 h:Heap} {L:List It} (hs:St h0 h L) {s:Sl} {e:TypeId} {n:Nat} {cs:α->List Value} {X:List α} (hi:.sl s e n (X.map cs)∈L) (hn:0<n) (hl:X.length<=1048576):RL h n s cs X:=by
 obtain⟨k,hk⟩:=Yf.1 hi;have h1:=hs.len k hk hn;exact⟨hs.rwm hi hn,h1.2.1,h1.2.2,hl⟩
structure XOk (g:Gl) (role:Int) (X:An):Prop where
 fi:X.fi.map (fun f=>(f.l,f.b))=(List.range g.n.toNat).map fun s=>(firstE g role (s:Nat),firstB g role (s:Nat))
 li:X.li=(List.range g.n.toNat).map (limFo g role g.ts)
 ag:X.ag=(List.range g.n.toNat).map (agFo g.es)
 ow:X.ow=(List.range g.n.toNat).map (owFo g.es role)
 ar:X.ar.map Prod.snd=(List.range g.n.toNat).map (arrS g role)
 an:∀q∈X.ar,∀x∈q.2,0<x.n/\x.n<=1048577
theorem XOk.arOk {g:Gl} {role:Int} {X:An} (h:XOk g role X):ArOk g X:=fun q hq y hy=>by
 have h1:q.2∈X.ar.map Prod.snd:=Yp.2 ⟨q,hq,rfl⟩;rw[h.ar] at h1;obtain⟨s,_,h2⟩:=Yp.1 h1;rw[<-h2] at hy;unfold arrS at hy;obtain⟨i,hi,hy⟩:=List.mem_flatMap.1 hy;unfold arr1 at hy;obtain⟨x,hx,_⟩:=outG_mem.1 hi;split at hy
 .unfold arM at hy;obtain⟨m,hm,rfl⟩:=Yp.1 hy;exact⟨i,m,rfl,(Ya.1 hx).1,(List.mem_filter.1 hm).1⟩
 .cases hy
theorem XOk.ckB {g:Gl} {role:Int} {X:An} (h:XOk g role X) (kind:Int) (A:List Pr):CkB X kind A 1048578:=by
 refine⟨fun q hq x hx=>(h.an q hq x hx).1,fun p _ c hc=>?_,by decide⟩;unfold cstS at hc;split at hc
 .split at hc
  .split at hc
   .cases hc;exact⟨by decide,by decide⟩
   .cases hc
  .cases hc
 .split at hc
  .split at hc
   .cases hc;exact⟨by decide,by decide⟩
   .cases hc
  .split at hc
   .rename_i ft q _ gq;obtain⟨y,hy,rfl⟩:=Yya.1 hc;have:=h.an q (Yb gq) y (arvF_mem hy).1;omega
   .cases hc
def anX (ho hfi hli hag how har:Sl) (OU:List OuR) (FI:List Fs) (LI:List Lm) (AG OW:List Bool) (AR:List ArR):An:=⟨ho,fun i=>((OU[i]?).map Prod.fst).getD ⟨none,0,0⟩,hfi,FI,hli,LI,hag,AG,how,OW,har,AR⟩
theorem anF_of {h0 h:Heap} {ab gb:Nat} {g:Gl} {role:Int} {ho hfi hli hag how har:Sl} {OU:List OuR} {FI:List Fs} {LI:List Lm} {AG OW:List Bool} {AR:List ArR} {R:List It} (hs:St h0 h (anB ab gb g role ho hfi hli hag how har OU FI LI AG OW AR R)) (hg:GI h0 g) (hV:ValidS g) (hS:AnSpec g role OU FI LI AG OW) (hAR:ArI g role (arrS g role) AR) (hAl:∀q∈AR,q.2.length<=160000) :
  AnF h ab g role (anX ho hfi hli hag how har OU FI LI AG OW AR)/\XOk g role (anX ho hfi hli hag how har OU FI LI AG OW AR):=by
 obtain⟨hO,hF,hL,hAg,hOw⟩:=hS;have hN:=hV.num.n;have hFl:FI.length=g.n.toNat:=by have:=congrArg List.length hF;simpa using this
 have hLl:LI.length=g.n.toNat:=by rw[hL];simp
 have hAgl:AG.length=g.n.toNat:=by rw[hAg];simp
 have hOwl:OW.length=g.n.toNat:=by rw[hOw];simp
 have hARl:=hAR.len;have hOl:OU.length=g.n.toNat:=by have:=congrArg List.length hO;simpa using this
 have hG:AnG h ab g role ho (fun i=>((OU[i]?).map Prod.fst).getD ⟨none,0,0⟩):=anA_G (by rw[<-anB_eq];exact hs) hg hO;have m8:∀ {x:It},x∈[.blk ab (anC g role ho hfi hli hag how har) 186,.sl ho 102 1 ((OU.map Prod.fst).map slC),.sl hfi 195 2 (FI.map Fs.cs),.sl hli 192 4 (LI.map Lm.cs),.sl hag 4 1 (AG.map bC),.sl how 4 1 (OW.map bC),.sl har 274 1 ((AR.map Prod.fst).map slC),.blk gb g.cs 27]->x∈anB ab gb g role ho hfi hli hag how har OU FI LI AG OW AR R:=fun hx=>by
  unfold anB;exact List.mem_append_left _ (List.mem_append_left _ (List.mem_append_left _ (List.mem_append_left _ hx)))
 have mf:∀f∈FI,fIt f∈anB ab gb g role ho hfi hli hag how har OU FI LI AG OW AR R:=fun f hf=>by
  unfold anB;exact List.mem_append_left _ (List.mem_append_left _ (List.mem_append_right _ (Yp.2 ⟨f,hf,rfl⟩)))
 have ma:∀q∈AR,nest 276 4 Arv.cs q∈anB ab gb g role ho hfi hli hag how har OU FI LI AG OW AR R:=fun q hq=>by
  unfold anB;exact List.mem_append_left _ (List.mem_append_right _ (Yp.2 ⟨q,hq,rfl⟩))
 have hfe:∀f∈FI,f.l.length<=1048576:=fun f hf=>by
  have h1:(f.l,f.b)∈FI.map (fun f=>(f.l,f.b)):=Yp.2 ⟨f,hf,rfl⟩;rw[hF] at h1;obtain⟨s,_,h2⟩:=Yp.1 h1;have h3:firstE g role (s:Nat)=f.l:=congrArg Prod.fst h2;have h4:(firstE g role (s:Nat)).length<=400:=evs_len hV;rw[<-h3];omega
 refine⟨⟨hG,⟨?_,?_,?_,?_,?_,?_,fun f hf=>?_,?_,?_,?_⟩,?_,?_,fun q hq=>?_,hFl,hLl,hAgl,hOwl,hARl⟩,⟨hF,hL,hAg,hOw,hAR.l,hAR.b⟩⟩
 .exact hs.rd 0 rfl (i:=8) rfl
 .exact hs.rd 0 rfl (i:=10) rfl
 .exact hs.rd 0 rfl (i:=11) rfl
 .exact hs.rd 0 rfl (i:=12) rfl
 .exact hs.rd 0 rfl (i:=13) rfl
 .exact hs.rlm2 (X:=FI) (cs:=Fs.cs) (s:=hfi) (e:=195) (m8 (Yb (i:=2) rfl)) (by decide) (by show FI.length<=_;omega)
 .exact hs.rlm2 (e:=188) (mf f hf) (by decide) (hfe f hf)
 .exact hs.rlm2 (X:=LI) (cs:=Lm.cs) (s:=hli) (e:=192) (m8 (Yb (i:=3) rfl)) (by decide) (by show LI.length<=_;omega)
 .exact hs.rlm2 (X:=AG) (cs:=bC) (s:=hag) (e:=4) (m8 (Yb (i:=4) rfl)) (by decide) (by show AG.length<=_;omega)
 .exact hs.rlm2 (X:=OW) (cs:=bC) (s:=how) (e:=4) (m8 (Yb (i:=5) rfl)) (by decide) (by show OW.length<=_;omega)
 .exact hs.rd 0 rfl (i:=14) rfl
 .exact hs.rlm2 (X:=AR.map Prod.fst) (cs:=slC) (s:=har) (e:=274) (m8 (Yb (i:=6) rfl)) (by decide) (by show (AR.map Prod.fst).length<=_;rw[Yc];omega)
 .exact hs.rlm2 (e:=276) (ma q hq) (by decide) (by have:=hAl q hq;omega)
def kindP (g:Gl) (role:Int) (X:An) (i:Nat) (W:WS) (n:Int):Prop:=
 match i with
 | 0=>BpP g role 1 X W n
 | 1=>MxP g role X W n
 | 2=>BpP g role 3 X W n
 | _=>BpP g role 4 X W n
inductive FindI (g:Gl) (role:Int) (X:An):Nat->WS->Int->Prop
 | zero:FindI g role X 0 ws0 farI
 | take {i:Nat} {W W':WS} {n n':Int}:FindI g role X i W n->kindP g role X i W' n'->n'<n->FindI g role X (i+1) W' n'
 | keep {i:Nat} {W W':WS} {n n':Int}:FindI g role X i W n->kindP g role X i W' n'->¬n'<n->FindI g role X (i+1) W n
def FindP (g:Gl) (role:Int) (W:WS) (n:Int):Prop:=∃X:An,XOk g role X/\FindI g role X 4 W n
theorem cal120:callable Pz 95=true:=by kernel_rfl
theorem cal122:callable Pz 97=true:=by kernel_rfl
theorem cal123:callable Pz 98=true:=by kernel_rfl
theorem cal124:callable Pz 99=true:=by kernel_rfl
def fdL (bb ab mb:Nat) (w:Wt) (F S:List Ac) (all:Sl) (m:Nat):List It:=
 [.blk bb w.cs 35,.sl w.f 65 3 (F.map Ac.cs),.sl w.s 65 3 (S.map Ac.cs),.blk mb [.map (some m)] 93,.blk ab [.slice all.a all.n all.c] 92]
def FOut (h h':Heap) (W:WS) (n:Int) (v:Value):Prop:=∃w:Wt,w.k=W.k/\w.r=W.r/\w.e=W.e/\w.o=W.o/\v=.tuple ⟨[.agg ⟨w.cs⟩,.int .i64 n,.int .i64 0]⟩/\∃L,St h h' (.sl w.f 65 3 (W.F.map Ac.cs) :: .sl w.s 65 3 (W.S.map Ac.cs)::L)
theorem perm9 {α:Type} (a b c d e f x y:α) (L:List α):List.Perm (a::b::c::d::e::f::x::y::L) (b::x::y::e::f::a::c::d::L):=by
 have h1:List.Perm (a::b::c::d::e::f::x::y::L) (b::a::c::d::e::f::x::y::L):=List.Perm.swap _ _ _;refine h1.trans (List.Perm.cons _ ?_);have h2:List.Perm ([a,c,d,e,f]++([x,y]++L)) ([x,y]++([a,c,d,e,f]++L)):=by
  rw[<-Yz,<-Yz];exact List.Perm.append_right _ List.perm_append_comm
 refine h2.trans (List.Perm.cons _ (List.Perm.cons _ ?_));have h3:List.Perm ([a,c,d]++([e,f]++L)) ([e,f]++([a,c,d]++L)):=by
  rw[<-Yz,<-Yz];exact List.Perm.append_right _ List.perm_append_comm
 exact h3
theorem find69 (g:Gl) (role:Int) (h:Heap) (hg:GI h g) (hx:Gm h) (hV:ValidS g) (hr:0<=role/\role<g.rs.length) :
  Fn Pz 41 #[g.v,.int .i64 role] h fun v h'=>∃W n,FindP g role W n/\FOut h h' W n v:=by
 apply vc41 (bs g.nm) g.hr g.hd g.n g.s g.e g.he g.ht role;unfold W41;refine (St.refl h).newb fun h9 hs=>?_;refine hs.newb fun h10 hs=>?_;refine⟨_,_,_,_,_,_,_,_,hs.at 1 rfl (o:=0) (n:=8) rfl,?_⟩;refine (analyse117 g role h10 (hg.ext hs.ext) (hx.ext hs.ext)).mono ?_;rintro _ h22 (⟨hno,_⟩ | ⟨_,ab,ho,hfi,hli,hag,how,har,OU,FI,LI,AG,OW,rfl,hsA,hSp⟩)
 .exact absurd ⟨hV,hr.1,hr.2⟩ hno
 have hEA:=hs.ext;replace hs:=(hs.join hsA).perm List.perm_append_comm;refine⟨some ⟨ab,0,none⟩,0,rfl,?_⟩;refine hs.newput (vs:=[.pointer (some ⟨ab,0,none⟩)]) rfl rfl fun h24 hs=>?_;refine sBn (fun c=>absurd rfl c) (fun _=>?_);refine⟨some ⟨ab,0,none⟩,hs.rd 0 rfl (i:=0) rfl,?_⟩;have hs0:St h h24 (anB ab h10.size g role ho hfi hli hag how har OU FI LI AG OW (List.replicate g.n.toNat (nilS,[])) [.blk h9.size wt0.cs 35,.blk h.size g.cs 27,.blk h22.size [.pointer (some ⟨ab,0,none⟩)] 89]):=by
  rw[anB_eq];have hs:=hs.perm (List.perm_append_comm (l₁:=[_]) (l₂:=anA ab h10.size g role ho hfi hli hag how har OU FI LI AG OW (List.replicate g.n.toNat (nilS,[]))++[_,_]));rw[Yz] at hs;exact hs
 refine (early118 hs0 hg hx hV hSp.1).mono ?_;rintro _ h42 ⟨rfl,AR,hs1,hAR,hAl⟩;refine⟨rfl,?_⟩;obtain⟨hA,hX⟩:=anF_of hs1 hg hV hSp hAR hAl;generalize anX ho hfi hli hag how har OU FI LI AG OW AR=X at hA hX;have hs1:St h h42 [.blk h9.size wt0.cs 35,.blk h.size g.cs 27,.blk h22.size [.pointer (some ⟨ab,0,none⟩)] 89]:=hs1.subp (by unfold anB;exact List.perm_append_comm);refine⟨some ⟨ab,0,none⟩,hs1.rd 2 rfl (i:=0) rfl,?_⟩;refine (reached119 ab g role X.ho X.os h42 hA.gg hV).mono ?_;rintro _ h47 ⟨E47,all,mb,A,l,rfl,hM⟩;have hs2:=hs1.step E47;have hA2:=hA.ext E47;have hx2:=hx.ext hs2.ext;have hp0:hc h47 ⟨h22.size,0,none⟩=some (Value.pointer (some ⟨ab,0,none⟩)):=hs2.rd 2 rfl (i:=0) rfl;refine⟨all,some mb,rfl,?_⟩;refine (St.refl h47).newb fun h48 hs=>?_;refine hs.newb fun h49 hs=>?_;refine hs.put 1 rfl (o:=0) (vs:=[.slice all.a all.n all.c]) rfl (Yyt 1) fun h50 hs=>?_;refine hs.put 0 rfl (o:=0) (vs:=[.map (some mb)]) rfl (Yyt 1) fun h51 hs=>?_;refine hs.newput (vs:=wt0.cs) rfl rfl fun h53 hs=>?_;have hs:St h47 h53 (fdL h51.size h47.size h48.size wt0 [] [] all mb):=(((hs.nil_ 65 3).nil_ 65 3).perm (List.perm_append_comm (l₁:=[_,_]) (l₂:=[_,_,_]))).subp (R:=[]) (by
  rw[Yw];exact List.Perm.cons _ (List.perm_append_comm (l₁:=[_,_]) (l₂:=[_,_])))
 refine⟨some ⟨ab,0,none⟩,hc_ext hs.ext hp0,?_⟩;refine hs.newput (vs:=[.func (.func 95) #[] #[.pointer (some ⟨h22.size,0,none⟩),.pointer (some ⟨h47.size,0,none⟩),.pointer (some ⟨h48.size,0,none⟩)],.func (.func 97) #[.pointer (some ⟨ab,0,none⟩)] #[],.func (.func 98) #[] #[.pointer (some ⟨h22.size,0,none⟩),.pointer (some ⟨h47.size,0,none⟩),.pointer (some ⟨h48.size,0,none⟩)],.func (.func 99) #[] #[.pointer (some ⟨h22.size,0,none⟩),.pointer (some ⟨h47.size,0,none⟩),.pointer (some ⟨h48.size,0,none⟩)]]) rfl rfl fun h56 hs=>?_;refine⟨_,_,_,_,hs.at 0 rfl (o:=0) (n:=4) rfl,?_⟩;refine⟨fun len x h' μ=>∃(i:Nat) (W:WS) (w:Wt),x=(i:Int)/\4-i=μ/\i<=4/\FindI g role X i W len/\w.k=W.k/\w.r=W.r/\w.e=W.e/\w.o=W.o/\St h47 h' (fdL h51.size h47.size h48.size w W.F W.S all mb),⟨_,0,ws0,wt0,rfl,rfl,by decide,.zero,rfl,rfl,rfl,rfl,hs.drop 1⟩,?_⟩;clear hs;rintro-len _ h66 μ ⟨i,W,w,rfl,rfl,hi,hF,e1,e2,e3,e4,hs⟩;have fin:∀(v:Value) (h87:Heap),(∃W' n',kindP g role X i W' n'/\WOut h66 h87 W' n' v)->i<4->∃x72:Int,∃x73:Int,∃x74:Sl,∃x75:Sl,∃x76:Int,∃x77:Bool,∃x78:Int,∃x79:Int,∃x80:Sl,∃x81:Int,∃x82:Bool,∃x83:Int,∃x84:Int,∃x85:Sl,∃x86:Int,v=.tuple ⟨[.agg ⟨[.int .i64 x72,.int .i64 x73,.slice x74.a x74.n x74.c,.slice x75.a x75.n x75.c,.int .i64 x76,.bool x77,.int .i64 x78,.int .i64 x79,.slice x80.a x80.n x80.c,.int .i64 x81,.bool x82,.int .i64 x83,.int .i64 x84,.slice x85.a x85.n x85.c]⟩,.int .i64 x86]⟩ /\
   V41k h87 x72 x73 x74 x75 x76 x77 x78 x79 x80 x81 x82 x83 x84 x85 x86 len h51 (4-i) (fun len x h' μ=>∃(i:Nat) (W:WS) (w:Wt),x=(i:Int)/\4-i=μ/\i<=4/\FindI g role X i W len/\w.k=W.k/\w.r=W.r/\w.e=W.e/\w.o=W.o/\St h47 h' (fdL h51.size h47.size h48.size w W.F W.S all mb)) (i:Int):=by
  rintro _ h87 ⟨W',n',hkp,w',f1,f2,f3,f4,rfl,L,hs'⟩ hi4;refine⟨w'.k,w'.r,w'.f,w'.s,w'.e.r,w'.e.s,w'.e.p,w'.e.l,nilS,w'.o.r,w'.o.s,w'.o.p,w'.o.l,nilS,n',rfl,?_⟩;unfold V41k;have hs:=hs.join hs';refine hs.newput (vs:=w'.cs) rfl rfl fun h89 hs=>?_;refine sBi (fun c=>?_) (fun c=>?_)
  .refine cpW hs 0 1 (w:=w') (w0:=w) rfl rfl fun h104 hs=>?_;refine⟨_,?_,i+1,W',w',by rw[w64 (by omega) (by omega)];omega,rfl,by omega,.take hF hkp c,f1,f2,f3,f4,?_⟩
   .omega
   .refine hs.subp (R:=.blk h87.size w'.cs 35 :: .sl w.f 65 3 (W.F.map Ac.cs) :: .sl w.s 65 3 (W.S.map Ac.cs)::L) ?_;show List.Perm (.blk h87.size w'.cs 35 :: .blk h51.size w'.cs 35 :: .sl w.f 65 3 (W.F.map Ac.cs) :: .sl w.s 65 3 (W.S.map Ac.cs) :: .blk h48.size [.map (some mb)] 93 :: .blk h47.size [.slice all.a all.n all.c] 92 :: .sl w'.f 65 3 (W'.F.map Ac.cs) :: .sl w'.s 65 3 (W'.S.map Ac.cs)::L) (.blk h51.size w'.cs 35 :: .sl w'.f 65 3 (W'.F.map Ac.cs) :: .sl w'.s 65 3 (W'.S.map Ac.cs) :: .blk h48.size [.map (some mb)] 93 :: .blk h47.size [.slice all.a all.n all.c] 92 :: .blk h87.size w'.cs 35 :: .sl w.f 65 3 (W.F.map Ac.cs) :: .sl w.s 65 3 (W.S.map Ac.cs)::L);exact perm9 _ _ _ _ _ _ _ _ L
  .refine⟨_,?_,i+1,W,w,by rw[w64 (by omega) (by omega)];omega,rfl,by omega,.keep hF hkp c,e1,e2,e3,e4,?_⟩
   .omega
   .exact (hs.drop 1).subp (List.Perm.refl _)
 refine sBi (fun c=>?_) (fun c=>?_)
 .refine⟨⟨by omega,by omega⟩,?_⟩;have hP:=hp0;have hMx:=(hM.ext hs.ext);have hAx:=(hA2.ext hs.ext);have hxx:=(hx2.ext hs.ext);have hc0:=hc_ext hs.ext hp0;have hc1:hc h66 ⟨h47.size,0,none⟩=some (Value.slice all.a all.n all.c):=hs.rd 4 rfl (i:=0) rfl;have hc2:hc h66 ⟨h48.size,0,none⟩=some (Value.map (some mb)):=hs.rd 3 rfl (i:=0) rfl;have hi4:i<4:=by omega
  match i,hi4,fin with
  | 0,hi4,fin=>
   refine⟨_,rfl,?_⟩;show cond (callable Pz 95) _ _;rw[cal120,cond_true];exact (clo120 ab g role X all mb A l 1048578 _ _ _ h66 hc0 hc1 hc2 hAx hxx hV hMx (hX.ckB 1 A) hX.arOk).mono fun v h87 hr=>fin v h87 hr hi4
  | 1,hi4,fin=>
   refine⟨_,rfl,?_⟩;show cond (callable Pz 97) _ _;rw[cal122,cond_true];exact (mixed122 ab g role X h66 hAx hV).mono fun v h87 hr=>fin v h87 hr.out hi4
  | 2,hi4,fin=>
   refine⟨_,rfl,?_⟩;show cond (callable Pz 98) _ _;rw[cal123,cond_true];exact (clo123 ab g role X all mb A l 1048578 _ _ _ h66 hc0 hc1 hc2 hAx hxx hV hMx (hX.ckB 3 A) hX.arOk).mono fun v h87 hr=>fin v h87 hr hi4
  | 3,hi4,fin=>
   refine⟨_,rfl,?_⟩;show cond (callable Pz 99) _ _;rw[cal124,cond_true];exact (clo124 ab g role X all mb A l 1048578 _ _ _ h66 hc0 hc1 hc2 hAx hxx hV hMx (hX.ckB 4 A) hX.arOk).mono fun v h87 hr=>fin v h87 hr hi4
 .have:i=4:=by omega
  subst this;have hs:=hs2.join hs;refine cpW hs 3 0 (w:=w) (w0:=wt0) rfl rfl fun h121 hs=>?_;refine rdW (w:=w) (Q:=fun cs=>∃W n,FindP g role W n/\FOut h h121 W n (.tuple ⟨[.agg ⟨cs⟩,.int .i64 len,.int .i64 0]⟩)) (hs.at 0 rfl (o:=0) (n:=14) rfl) ?_;exact⟨W,len,⟨X,hX,hF⟩,w,e1,e2,e3,e4,rfl,_,hs.drop 4⟩
inductive ChkI (g:Gl):Nat->WS->Int->Prop
 | zero:ChkI g 0 ws0 farI
 | take {i:Nat} {W W':WS} {n n':Int}:ChkI g i W n->FindP g (i:Int) W' n'->(n'<n\/n'=n/\n'<farI/\W'.k<W.k)->ChkI g (i+1) W' n'
 | keep {i:Nat} {W W':WS} {n n':Int}:ChkI g i W n->FindP g (i:Int) W' n'->¬(n'<n\/n'=n/\n'<farI/\W'.k<W.k)->ChkI g (i+1) W n
inductive ChkR (g:Gl) (h h':Heap):Value->Prop
 | bad (hV:¬ValidS g) (E:Ext h h'):ChkR g h h' (.tuple ⟨[.agg ⟨wt0.cs⟩,.int .i64 1]⟩)
 | ok {W:WS} (hV:ValidS g) (hC:ChkI g g.rs.length W farI) (E:Ext h h'):ChkR g h h' (.tuple ⟨[.agg ⟨wt0.cs⟩,.int .i64 0]⟩)
 | err {v:Value} {W:WS} {n:Int} (hV:ValidS g) (hC:ChkI g g.rs.length W n) (hn:n≠farI) (hw:WOut h h' W 18 v):ChkR g h h' v
def ckL (bb zb gb:Nat) (g:Gl) (w:Wt) (F S:List Ac):List It:=
 [.blk bb w.cs 35,.sl w.f 65 3 (F.map Ac.cs),.sl w.s 65 3 (S.map Ac.cs),.blk zb wt0.cs 35,.blk gb g.cs 27]
theorem check33 (g:Gl) (h:Heap) (hg:GI h g) (hx:Gm h):Fn Pz 14 #[g.v] h fun v h'=>ChkR g h h' v:=by
 apply vc14 (bs g.nm) g.hr g.hd g.n g.s g.e g.he g.ht;unfold W14;have hrn:=hg.r.ln;refine (St.refl h).newb fun h9 hs=>?_;refine hs.newb fun h10 hs=>?_;refine⟨_,_,_,_,_,_,_,_,hs.at 1 rfl (o:=0) (n:=8) rfl,?_⟩;refine (valid38 g h10 (hg.ext hs.ext) (hx.ext hs.ext)).mono ?_;rintro _ h21 ⟨rfl,E⟩;replace hs:=hs.step E;refine⟨_,rfl,sB_intro (fun c=>?_) (fun c=>?_)⟩
 .refine hs.put 0 rfl (o:=0) (vs:=wt0.cs) rfl (Yyt 14) fun h22 hs=>?_;refine rdW (w:=wt0) (Q:=fun cs=>ChkR g h h22 (.tuple ⟨[.agg ⟨cs⟩,.int .i64 1]⟩)) (hs.at 0 rfl (o:=0) (n:=14) rfl) ?_;exact .bad (Yyo (bF c)) hs.ext
 have hV:=Yyn (bT c);have hr6:=hV.nam.n6;refine hs.newput (vs:=wt0.cs) rfl rfl fun h38 hs=>?_;have hs:St h h38 (ckL h21.size h9.size h.size g wt0 [] []):=((hs.nil_ 65 3).nil_ 65 3).perm (by
  show List.Perm ([_,_]++([_]++[_,_])) ([_]++([_,_]++[_,_]));rw[<-Yz,<-Yz];exact List.Perm.append_right _ List.perm_append_comm)
 refine⟨g.hr,hs.rd 4 rfl (i:=1) rfl,?_⟩;refine⟨fun len x h' μ=>∃(i:Nat) (W:WS) (w:Wt),x=(i:Int)/\g.hr.n-i=μ/\i<=g.hr.n/\ChkI g i W len/\w.k=W.k/\w.r=W.r/\w.e=W.e/\w.o=W.o/\St h h' (ckL h21.size h9.size h.size g w W.F W.S),⟨_,0,ws0,wt0,rfl,rfl,Nat.zero_le _,.zero,rfl,rfl,rfl,rfl,hs⟩,?_⟩;clear hs;rintro-len _ h45 μ ⟨i,W,w,rfl,rfl,hi,hF,e1,e2,e3,e4,hs⟩;refine sBi (fun c=>?_) (fun c=>?_)
 .refine⟨_,_,_,_,_,_,_,_,hs.at 4 rfl (o:=0) (n:=8) rfl,?_⟩;refine (find69 g (i:Int) h45 (hg.ext hs.ext) (hx.ext hs.ext) hV ⟨by omega,by omega⟩).mono ?_;rintro _ h71 ⟨W',n',hP,w',f1,f2,f3,f4,rfl,L,hs'⟩;refine⟨w'.k,w'.r,w'.f,w'.s,w'.e.r,w'.e.s,w'.e.p,w'.e.l,nilS,w'.o.r,w'.o.s,w'.o.p,w'.o.l,nilS,n',0,rfl,?_⟩;have hs:=hs.join hs';refine hs.newput (vs:=w'.cs) rfl rfl fun h73 hs=>?_;have tk:∀ {hZ:Heap},(n'<len\/n'=len/\n'<farI/\W'.k<W.k)->St h hZ ((It.blk h71.size w'.cs 35::(ckL h21.size h9.size h.size g w W.F W.S ++ .sl w'.f 65 3 (W'.F.map Ac.cs) :: .sl w'.s 65 3 (W'.S.map Ac.cs)::L)).set 1 (.blk h21.size w'.cs 35)) ->
    ∃m,m<g.hr.n-i/\∃(i':Nat) (W:WS) (w:Wt),IntKind.wrap .i64 ((i:Int)+1)=(i':Int)/\g.hr.n-i'=m/\i'<=g.hr.n/\ChkI g i' W n'/\w.k=W.k/\w.r=W.r/\w.e=W.e/\w.o=W.o/\St h hZ (ckL h21.size h9.size h.size g w W.F W.S):=fun {hZ} hc hs=>by
   refine⟨_,?_,i+1,W',w',by rw[w64 (by omega) (by omega)];omega,rfl,by omega,.take hF hP hc,f1,f2,f3,f4,?_⟩
   .omega
   .refine hs.subp (R:=.blk h71.size w'.cs 35 :: .sl w.f 65 3 (W.F.map Ac.cs) :: .sl w.s 65 3 (W.S.map Ac.cs)::L) ?_;show List.Perm (.blk h71.size w'.cs 35 :: .blk h21.size w'.cs 35 :: .sl w.f 65 3 (W.F.map Ac.cs) :: .sl w.s 65 3 (W.S.map Ac.cs) :: .blk h9.size wt0.cs 35 :: .blk h.size g.cs 27 :: .sl w'.f 65 3 (W'.F.map Ac.cs) :: .sl w'.s 65 3 (W'.S.map Ac.cs)::L) (.blk h21.size w'.cs 35 :: .sl w'.f 65 3 (W'.F.map Ac.cs) :: .sl w'.s 65 3 (W'.S.map Ac.cs) :: .blk h9.size wt0.cs 35 :: .blk h.size g.cs 27 :: .blk h71.size w'.cs 35 :: .sl w.f 65 3 (W.F.map Ac.cs) :: .sl w.s 65 3 (W.S.map Ac.cs)::L);exact perm9 _ _ _ _ _ _ _ _ L
  have kp:∀ {hZ:Heap},¬(n'<len\/n'=len/\n'<farI/\W'.k<W.k)->St h hZ (It.blk h71.size w'.cs 35::(ckL h21.size h9.size h.size g w W.F W.S ++ .sl w'.f 65 3 (W'.F.map Ac.cs) :: .sl w'.s 65 3 (W'.S.map Ac.cs)::L)) ->
    ∃m,m<g.hr.n-i/\∃(i':Nat) (W:WS) (w:Wt),IntKind.wrap .i64 ((i:Int)+1)=(i':Int)/\g.hr.n-i'=m/\i'<=g.hr.n/\ChkI g i' W len/\w.k=W.k/\w.r=W.r/\w.e=W.e/\w.o=W.o/\St h hZ (ckL h21.size h9.size h.size g w W.F W.S):=fun {hZ} hc hs=>by
   refine⟨_,?_,i+1,W,w,by rw[w64 (by omega) (by omega)];omega,rfl,by omega,.keep hF hP hc,e1,e2,e3,e4,(hs.drop 1).subp (List.Perm.refl _)⟩;omega
  refine sBi (fun c1=>?_) (fun c1=>?_)
  .exact cpW hs 0 1 (w:=w') (w0:=w) rfl rfl fun h88 hs=>tk (.inl c1) hs
  .refine sBe (fun c2=>?_) (fun c2=>?_)
   .refine sBi (fun c3=>?_) (fun c3=>?_)
    .refine⟨w'.k,hs.rd 0 rfl (i:=0) rfl,w.k,hs.rd 1 rfl (i:=0) rfl,sBi (fun c4=>?_) (fun c4=>?_)⟩
     .exact cpW hs 0 1 (w:=w') (w0:=w) rfl rfl fun h106 hs=>tk (.inr ⟨c2,c3,by rw[<-e1,<-f1];exact c4⟩) hs
     .exact kp (fun h9=>h9.elim c1 fun h9=>c4 (by rw[e1,f1];exact h9.2.2)) hs
    .exact kp (fun h9=>h9.elim c1 fun h9=>c3 h9.2.1) hs
   .exact kp (fun h9=>h9.elim c1 fun h9=>c2 h9.1) hs
 .have:i=g.rs.length:=by omega
  subst this;refine sBe (fun c1=>?_) (fun c1=>?_)
  .refine hs.put 3 rfl (o:=0) (vs:=wt0.cs) rfl (Yyt 14) fun h111 hs=>?_;refine rdW (w:=wt0) (Q:=fun cs=>ChkR g h h111 (.tuple ⟨[.agg ⟨cs⟩,.int .i64 0]⟩)) (hs.at 3 rfl (o:=0) (n:=14) rfl) ?_;exact .ok hV (by rw[<-show len=farI from c1];exact hF) hs.ext
  .refine cpW hs 0 3 (w:=w) (w0:=wt0) rfl rfl fun h140 hs=>?_;refine rdW (w:=w) (Q:=fun cs=>ChkR g h h140 (.tuple ⟨[.agg ⟨cs⟩,.int .i64 18]⟩)) (hs.at 3 rfl (o:=0) (n:=14) rfl) ?_;exact .err hV hF c1 ⟨w,e1,e2,e3,e4,rfl,_,hs.drop 1⟩
/-! ### moves of pairs, and views -/
theorem mov_q {g:Gl} {role:Int} {s t:Nat} {x:Ed} (hx:x∈g.es) (hv:vis1 role x=none) (hf:x.f=(s:Int)):∃m∈movL g.es role s t,pto m=(x.t.toNat,t):=by
 obtain⟨i,hi⟩:=Yf.1 hx;refine⟨⟨(i:Int),-1,(eA g.es i).t,(t:Nat)⟩,?_,by unfold pto;rw[eA_get hi];rfl⟩;unfold movL mqL;refine List.mem_append_left _ (List.mem_append_left _ (Yp.2 ⟨i,List.mem_filter.2 ⟨outG_mem.2 ⟨x,hi,hf⟩,?_⟩,rfl⟩));unfold qtB;rw[eA_get hi,hv];rfl
theorem mov_o {g:Gl} {role:Int} {s t:Nat} {x:Ed} (hx:x∈g.es) (hv:vis1 role x=none) (hf:x.f=(t:Int)):∃m∈movL g.es role s t,pto m=(s,x.t.toNat):=by
 obtain⟨i,hi⟩:=Yf.1 hx;refine⟨⟨-1,(i:Int),(s:Nat),(eA g.es i).t⟩,?_,by unfold pto;rw[eA_get hi];rfl⟩;unfold movL moL;refine List.mem_append_left _ (List.mem_append_right _ (Yp.2 ⟨i,List.mem_filter.2 ⟨outG_mem.2 ⟨x,hi,hf⟩,?_⟩,rfl⟩));unfold qtB;rw[eA_get hi,hv];rfl
theorem Prr.q1 {g:Gl} {role:Int} {l:List Int} {t:Nat} {a:Int} (hn:∀x∈g.es,0<=x.f/\0<=x.t) (hl:∀b∈l,0<=b/\Prr g role (b.toNat,t)) (h:Qr g.es role l a):0<=a/\Prr g role (a.toNat,t):=by
 induction h with
 | base hm=>exact hl _ hm
 | @step a b _ hx ih=>
  obtain⟨x,hx,hv,hf,rfl⟩:=hx;obtain⟨m,hm,he⟩:=mov_q (t:=t) (s:=a.toNat) hx hv (by omega);refine⟨(hn x hx).2,?_⟩;have:=Prr.step ih.2 hm
  rwa [he] at this
theorem Prr.q2 {g:Gl} {role:Int} {l:List Int} {s:Nat} {a:Int} (hn:∀x∈g.es,0<=x.f/\0<=x.t) (hl:∀b∈l,0<=b/\Prr g role (s,b.toNat)) (h:Qr g.es role l a):0<=a/\Prr g role (s,a.toNat):=by
 induction h with
 | base hm=>exact hl _ hm
 | @step a b _ hx ih=>
  obtain⟨x,hx,hv,hf,rfl⟩:=hx;obtain⟨m,hm,he⟩:=mov_o (s:=s) (t:=a.toNat) hx hv (by omega);refine⟨(hn x hx).2,?_⟩;have:=Prr.step ih.2 hm
  rwa [he] at this
/-! ### nothing is found: no reached pair and no reached state fails -/
theorem FindI.all {g:Gl} {role:Int} {X:An} {i:Nat} {W:WS} {n:Int} (h:FindI g role X i W n):∀j,j<i->∃W' n',kindP g role X j W' n'/\n<=n':=by
 induction h with
 | zero=>intro j hj;omega
 | @take i W W' n n' _ hk hlt ih=>
  intro j hj;by_cases e:j=i
  .subst e;exact⟨_,_,hk,Int.le_refl _⟩
  .obtain⟨W2,n2,h1,h2⟩:=ih j (by omega);exact⟨W2,n2,h1,by omega⟩
 | @keep i W W' n n' _ hk hlt ih=>
  intro j hj;by_cases e:j=i
  .subst e;exact⟨_,_,hk,by omega⟩
  .exact ih j (by omega)
theorem ChkI.all {g:Gl} {i:Nat} {W:WS} {n:Int} (h:ChkI g i W n):∀j:Nat,j<i->∃W' n',FindP g (j:Int) W' n'/\n<=n':=by
 induction h with
 | zero=>intro j hj;omega
 | @take i W W' n n' _ hk hlt ih=>
  intro j hj;by_cases e:j=i
  .subst e;exact⟨_,_,hk,Int.le_refl _⟩
  .obtain⟨W2,n2,h1,h2⟩:=ih j (by omega);exact⟨W2,n2,h1,by omega⟩
 | @keep i W W' n n' _ hk hlt ih=>
  intro j hj;by_cases e:j=i
  .subst e;exact⟨_,_,hk,by omega⟩
  .exact ih j (by omega)
end Go.VC
end

section
namespace Go.VC
/-! ### two blocks change places; a part is turned round -/
/-! ### order -/
end Go.VC
end

section
namespace Go.VC
open Go.Proofs
/- slices.swapRangeCmpFunc[int]
   loop rb: i_4:Int -/
/- slices.rotateCmpFunc[int]
   loop rrlb: i_4:Int, j_5:Int -/
/- slices.insertionSortCmpFunc[int]
   loop rborlbrb: j_9:Int
   loop rb: i_4:Int -/
/- slices.symMergeCmpFunc[int]
   loop lrtrrrlrb: k_24:Int
   loop lrtrrlb: i_4:Int, j_5:Int
   loop rlrtrrrlrb: k_62:Int
   loop rlrtrrlb: i_42:Int, j_43:Int
   join rrrrrrrrrr: 
   join rrrrrrrrr: 
   loop rrrrrrrlb: start_84:Int, r_85:Int
   join rrrrr: start_78:Int, r_79:Int -/
/- slices.stableCmpFunc[int]
   loop rrrrborbrlb: a_20:Int, b_21:Int
   loop rrrrb: blockSize_15:Int
   loop rrlb: a_4:Int, b_5:Int -/
/- slices.SortStableFunc[[]int,int] -/
end Go.VC
end

section
namespace Go.VC
open Go.Proofs Go.LexS


end Go.VC
end

section
namespace Go.VC
open Go.Proofs
/- farandole/global.Edges
   loop rrlrb: out_14:Sl, x_15:Int -/
/- farandole/global.Edges$1 -/
end Go.VC
end

section
namespace Go.VC
open Go.Proofs Go.LexS

end Go.VC
end

section
namespace Go.VC
open Go.Proofs
/- farandole/global.copied
   loop rrlrb: x_22:Int
   loop rrlrb: x_84:Int -/
/- slices.Clone[[]string,string] -/
/- slices.Clone[[]farandole/api.Field,farandole/api.Field] -/
/- slices.Clone[[]farandole/api.Diff,farandole/api.Diff] -/
/- slices.Clone[[][2]int,[2]int] -/
/- slices.IndexFunc[[]farandole/api.Timeout,farandole/api.Timeout]
   loop rlrb: x_4:Int -/
/- farandole/global.Canonical$1 -/
end Go.VC
end

section
namespace Go.VC
open Go.Proofs Go.LexS
def o8 (g:Gl) (r hd:Sl):List Value:=[.string (bs g.nm),.slice r.a r.n r.c,.slice hd.a hd.n hd.c,.int .i64 0,.int .i64 0,.int .i64 0,.slice none 0 0,.slice none 0 0]
end Go.VC
end

section
namespace Go.VC
open Go.LexS

end Go.VC
end

section
namespace Go.VC
open Go.Proofs
/- farandole/global.Canonical
   join rrrrrlrborlbrrrborrlbrrr: 
   join rrrrrlrborlbrrrborrlbrr: order_123:Sl
   loop rrrrrlrborlbrrrb: order_93:Sl, x_94:Int
   loop rrrrrlrb: order_65:Sl -/
end Go.VC
end

section
namespace Go.VC
open Go.Proofs Go.LexS


end Go.VC
end

section
namespace Go.VC
open Go.LexS
def renI (σ:Nat->Nat) (v:Int):Int:=((σ v.toNat:Nat):Int)
def renE (σ:Nat->Nat) (y:Ed):Ed:=⟨renI σ y.f,y.a,y.b,y.l,renI σ y.t,y.ag⟩
structure Ren (g c:Gl) (σ:Nat->Nat):Prop where
 n:c.n=g.n
 r:∀i,i<g.n.toNat->σ i<g.n.toNat
 inj:∀i j,i<g.n.toNat->j<g.n.toNat->σ i=σ j->i=j
 s:c.s=renI σ g.s
 e:c.e=renI σ g.e
 ed:∀x,x∈c.es ↔ ∃y∈g.es,x=renE σ y
 ti:∀t∈c.ts,∃u∈g.ts,t.s=renI σ u.s/\t.k=u.k/\∃z,g.es[u.e.toNat]?=some z/\c.es[t.e.toNat]?=some (renE σ z)
 tj:∀u∈g.ts,∃t∈c.ts,t.s=renI σ u.s/\t.k=u.k/\∃z,g.es[u.e.toNat]?=some z/\c.es[t.e.toNat]?=some (renE σ z)
 rs:c.rs=g.rs

end Go.VC
end

section
namespace Go.VC
open Go.Proofs Go.LexS
/-! ### lists of events in order -/
theorem XOk.at {g:Gl} {role:Int} {X:An} (h:XOk g role X) {s:Nat} (hs:(s:Int)<g.n):∃f,X.fi[s]?=some f/\f.l=firstE g role (s:Nat)/\f.b=firstB g role (s:Nat):=by
 have hl:X.fi.length=g.n.toNat:=by have:=congrArg List.length h.fi;simpa using this
 obtain⟨f,hf⟩:=get_some (l:=X.fi) (i:=s) (by omega);have h1:=map_range_get h.fi (s:=s) (by omega);rw[Yd,hf] at h1;have h2:=Yyp h1;exact⟨f,hf,congrArg Prod.fst h2,congrArg Prod.snd h2⟩
/-! ### without memory -/
def mxP (g:Gl) (role:Int) (s:Nat):Prop:=s<g.n.toNat/\(sndAt (firstE g role (s:Nat)) 0&&(firstB g role (s:Nat) || !sndAt (firstE g role (s:Nat)) ((firstE g role (s:Nat)).length-1)))=true
noncomputable def clP (g:Gl) (role:Int) (s t:Nat):Prop:=ClA ((List.range g.n.toNat).map (limFo g role g.ts)) ((List.range g.n.toNat).map (agFo g.es)) ((List.range g.n.toNat).map (owFo g.es role)) s t
noncomputable def cstP (g:Gl) (role kind:Int) (p:Pr):Option Int:=by
 classical exact if kind=1 then (if p.1<g.n.toNat/\p.2<g.n.toNat then (if ((firstE g role (p.1:Nat)).find? (difP (firstE g role (p.2:Nat)))).isSome then some 0 else none) else none)
 else if kind=3 then (if clP g role p.1 p.2 then some 0 else none)
 else (if p.1<g.n.toNat/\p.2<g.n.toNat then (arvF (firstE g role (p.2:Nat)) (arrS g role p.1)).map (·.n) else none)
theorem XOk.fl {g:Gl} {role:Int} {X:An} (h:XOk g role X):X.fi.length=g.n.toNat:=by have:=congrArg List.length h.fi;simpa using this
theorem XOk.al {g:Gl} {role:Int} {X:An} (h:XOk g role X):X.ar.length=g.n.toNat:=by have:=congrArg List.length h.ar;simpa using this
theorem XOk.at2 {g:Gl} {role:Int} {X:An} (h:XOk g role X) {s:Nat} (hs:s<g.n.toNat):∃f,X.fi[s]?=some f/\f.l=firstE g role (s:Nat)/\f.b=firstB g role (s:Nat):=h.at (by omega)
theorem XOk.ara {g:Gl} {role:Int} {X:An} (h:XOk g role X) {s:Nat} (hs:s<g.n.toNat):∃q,X.ar[s]?=some q/\q.2=arrS g role s:=by
 obtain⟨q,hq⟩:=get_some (l:=X.ar) (i:=s) (by rw[h.al];exact hs);have h1:=map_range_get h.ar hs;rw[Yd,hq] at h1;exact⟨q,hq,Yyp h1⟩
theorem XOk.cst {g:Gl} {role:Int} {X:An} (h:XOk g role X) (kind:Int) (p:Pr):cstS X kind p=cstP g role kind p:=by
 unfold cstS cstP;by_cases k1:kind=1
 .rw[if_pos k1,if_pos k1];by_cases hr:p.1<g.n.toNat/\p.2<g.n.toNat
  .obtain⟨f,hf,fl,_⟩:=h.at2 hr.1;obtain⟨f',hf',fl',_⟩:=h.at2 hr.2;rw[if_pos hr,hf,hf'];simp only[fl,fl']
  .rw[if_neg hr];by_cases h1:p.1<g.n.toNat
   .rw[Yl (l:=X.fi) (i:=p.2) (by rw[h.fl];omega)];cases X.fi[p.1]?<;>rfl
   .rw[Yl (l:=X.fi) (i:=p.1) (by rw[h.fl];omega)]
 .rw[if_neg k1,if_neg k1];by_cases k3:kind=3
  .rw[if_pos k3,if_pos k3];have:ClA X.li X.ag X.ow p.1 p.2 ↔ clP g role p.1 p.2:=by unfold clP;rw[h.li,h.ag,h.ow]
   by_cases hc:ClA X.li X.ag X.ow p.1 p.2
   .rw[if_pos hc,if_pos (this.1 hc)]
   .rw[if_neg hc,if_neg (fun h9=>hc (this.2 h9))]
  .rw[if_neg k3,if_neg k3];by_cases hr:p.1<g.n.toNat/\p.2<g.n.toNat
   .obtain⟨f',hf',fl',_⟩:=h.at2 hr.2;obtain⟨q,hq,hq2⟩:=h.ara hr.1;rw[if_pos hr,hf',hq];simp only[fl',hq2]
   .rw[if_neg hr];by_cases h1:p.2<g.n.toNat
    .rw[Yl (l:=X.ar) (i:=p.1) (by rw[h.al];omega)];cases X.fi[p.2]?<;>rfl
    .rw[Yl (l:=X.fi) (i:=p.2) (by rw[h.fl];omega)]
theorem XOk.mx {g:Gl} {role:Int} {X:An} (h:XOk g role X) (s:Nat):MXx X s ↔ mxP g role s:=by
 unfold mxP;constructor
 .rintro⟨f,hf,hm⟩;have hs:s<g.n.toNat:=by rw[<-h.fl];exact (Ya.1 hf).1
  obtain⟨f',hf',fl,fb⟩:=h.at2 hs;rw[hf] at hf';cases hf';unfold mxB at hm;rw[fl,fb] at hm;exact⟨hs,hm⟩
 .rintro⟨hs,hm⟩;obtain⟨f,hf,fl,fb⟩:=h.at2 hs;refine⟨f,hf,?_⟩;unfold mxB;rw[fl,fb];exact hm
noncomputable def exP (g:Gl) (role kind:Int) (F:List Ac) (p:Pr):List Ac × Evn × Evn:=
 if kind=1 then (F,fullE role (((firstE g role (p.1:Nat)).find? (difP (firstE g role (p.2:Nat)))).getD ⟨false,0,0⟩),evn0)
 else if kind=4 then (F++[(eA g.es ((arvF (firstE g role (p.2:Nat)) (arrS g role p.1)).getD arv0).e.toNat).act]++pthS g ((arvF (firstE g role (p.2:Nat)) (arrS g role p.1)).getD arv0).e.toNat ((arvF (firstE g role (p.2:Nat)) (arrS g role p.1)).getD arv0).m,fullE role ((arvF (firstE g role (p.2:Nat)) (arrS g role p.1)).getD arv0).m.ev,fullE role ⟨false,(eA g.es ((arvF (firstE g role (p.2:Nat)) (arrS g role p.1)).getD arv0).e.toNat).a,(eA g.es ((arvF (firstE g role (p.2:Nat)) (arrS g role p.1)).getD arv0).e.toNat).l⟩)
 else (F,evn0,evn0)
theorem XOk.ex {g:Gl} {role:Int} {X:An} (h:XOk g role X) (kind:Int) (F:List Ac) {p:Pr} (h1:p.1<g.n.toNat) (h2:p.2<g.n.toNat):exW g role kind X F p=exP g role kind F p:=by
 obtain⟨f,hf,fl,_⟩:=h.at2 h1;obtain⟨f',hf',fl',_⟩:=h.at2 h2;obtain⟨q,hq,hq2⟩:=h.ara h1;unfold exW exP;rw[hf,hf',hq];simp only[fl,fl',hq2]
noncomputable def cstQ (g:Gl) (role kind:Int) (p:Pr):Option Nat:=(cstP g role kind p).map Int.toNat
theorem XOk.cstN {g:Gl} {role:Int} {X:An} (h:XOk g role X) (kind:Int):Go.VC.cstN X kind=cstQ g role kind:=by
 funext p
 unfold Go.VC.cstN cstQ;rw[h.cst]
theorem GTo.prr {g:Gl} {role:Int} {cst:Pr->Option Int} {D:Pr->Int} {ms:List Pmv} {p:Pr} (h:GTo (mvP g role) cst D (p00 g) ms p):Prr g role p:=by
 induction h with
 | nil=>exact .start
 | snoc _ _ _ hm ih=>exact .step ih (Yb hm)
theorem findIdx?_congr2 {α:Type} {p q:α->Bool}:∀ {l:List α},(∀x∈l,p x=q x)->l.findIdx? p=l.findIdx? q
 | [],_=>rfl
 | a::l,h=>by
  rw[List.findIdx?_cons,List.findIdx?_cons,h a Yx,findIdx?_congr2 (l:=l) fun x hx=>h x (Yn _ hx)]
theorem GTo.turn {g:Gl} {role:Int} {cst:Pr->Option Int} {D D':Pr->Int} (hD:∀q,Prr g role q->D q=D' q) {ms:List Pmv} {p:Pr} (h:GTo (mvP g role) cst D (p00 g) ms p):GTo (mvP g role) cst D' (p00 g) ms p:=by
 induction h with
 | nil=>exact .nil
 | @snoc ms p m k hg hne hix hm ih=>
  have hp:=hg.prr;refine .snoc ih (by rw[<-hD p hp];exact hne) ?_ hm;rw[<-hix];refine (findIdx?_congr2 fun x hx=>?_).symm;unfold okM;rw[hD p hp,hD _ (.step hp hx)]
theorem GTo.det {mv:Pr->List Pmv} {cst:Pr->Option Int} {D:Pr->Int} {p0:Pr} {ms':List Pmv} {p':Pr} (h':GTo mv cst D p0 ms' p'):∀ {ms:List Pmv} {p:Pr},GTo mv cst D p0 ms p->ms.length<=ms'.length->(ms=ms'/\p=p')\/(ms.length<ms'.length/\cst p≠some (D p)):=by
 induction h' with
 | nil=>
  intro ms p h hl;cases h with
  | nil=>exact .inl ⟨rfl,rfl⟩
  | snoc=>rw[Yh,Yv] at hl;simp at hl
 | @snoc ms1 p1 m k _ hne hix hm ih=>
  intro ms p h hl;rw[Yh,Yv] at hl;by_cases e:ms.length<=ms1.length
  .rcases ih h e with ⟨rfl,rfl⟩ | ⟨h1,h2⟩
   .exact .inr ⟨by rw[Yh,Yv];omega,hne⟩
   .exact .inr ⟨by rw[Yh,Yv];omega,h2⟩
  .cases h with
   | nil=>simp at e
   | @snoc ms2 p2 m2 k2 hg2 hne2 hix2 hm2=>
    rw[Yh,Yv] at hl e;rcases ih hg2 (by omega) with ⟨rfl,rfl⟩ | ⟨h1,_⟩
    .rw[hix] at hix2;cases hix2;rw[hm] at hm2;cases hm2;exact .inl ⟨rfl,rfl⟩
    .omega
theorem GTo.uniq {mv:Pr->List Pmv} {cst:Pr->Option Int} {D:Pr->Int} {p0:Pr} {ms ms':List Pmv} {p p':Pr} (h:GTo mv cst D p0 ms p) (hc:cst p=some (D p)) (h':GTo mv cst D p0 ms' p') (hc':cst p'=some (D p')):ms=ms'/\p=p':=by
 rcases Nat.le_total ms.length ms'.length with hl | hl
 .rcases h'.det h hl with h9 | ⟨_,h9⟩
  .exact h9
  .exact absurd hc h9
 .rcases h.det h' hl with ⟨h9,h8⟩ | ⟨_,h9⟩
  .exact⟨h9.symm,h8.symm⟩
  .exact absurd hc' h9
theorem GTo.len {mv:Pr->List Pmv} {cst:Pr->Option Int} {D:Pr->Int} {p0:Pr} {ms:List Pmv} {p:Pr} (h:GTo mv cst D p0 ms p):D p0=D p+((ms.map plen).sum:Nat):=by
 induction h with
 | nil=>simp
 | @snoc ms p m k _ _ hix hm ih=>
  obtain⟨h1,h2,_⟩:=List.findIdx?_eq_some_iff_getElem.1 hix;rw[(Ya.1 hm).2] at h2;unfold okM at h2;have h3:=Yyn h2;rw[Ym,List.sum_append];simp only[Yyl,List.map_nil,List.sum_cons,List.sum_nil];omega
inductive BpQ (g:Gl) (role kind:Int):WS->Int->Prop
 | far (hn:∀n,¬Lst (mvP g role) (cstQ g role kind) (p00 g) n):BpQ g role kind ws0 farI
 | hit {n:Nat} {ms:List Pmv} {p:Pr} (hl:Lst (mvP g role) (cstQ g role kind) (p00 g) n) (hn:n<=8388608) (hG:GTo (mvP g role) (cstP g role kind) (dL (mvP g role) (cstQ g role kind)) (p00 g) ms p) (hc:cstP g role kind p=some (dL (mvP g role) (cstQ g role kind) p)) :
   BpQ g role kind ⟨kind,role,(exP g role kind (facts g ms) p).1,sacts g ms,(exP g role kind (facts g ms) p).2.1,(exP g role kind (facts g ms) p).2.2⟩ (n:Int)
theorem BpP.q {g:Gl} (hV:ValidS g) {role kind:Int} {X:An} (hX:XOk g role X) {W:WS} {n:Int} (h:BpP g role kind X W n):BpQ g role kind W n:=by
 have e1:=hX.cstN kind;have e2:cstS X kind=cstP g role kind:=funext fun p=>hX.cst kind p;cases h with
 | far hn=>rw[e1] at hn;exact .far hn
 | @hit n D ms p hl hn hD hG hc=>
  rw[e1] at hl hD;rw[e2] at hG hc;have hp:=hG.prr;have hlt:=hp.lt hV;rw[hX.ex kind _ (by omega) (by omega)];exact .hit hl hn (hG.turn hD) (by rw[hc,hD p hp])
theorem BpQ.uniq {g:Gl} {role kind:Int} {W W':WS} {n n':Int} (h:BpQ g role kind W n) (h':BpQ g role kind W' n'):W=W'/\n=n':=by
 cases h with
 | far hn=>
  cases h' with
  | far=>exact⟨rfl,rfl⟩
  | hit hl=>exact absurd hl (hn _)
 | hit hl hn hG hc=>
  cases h' with
  | far hn=>exact absurd hl (hn _)
  | hit hl' hn' hG' hc'=>
   obtain⟨rfl,rfl⟩:=hG.uniq hc hG' hc';exact⟨rfl,by rw[hl.uniq hl']⟩
/-! ### mixed -/
noncomputable def dS (es:List Ed) (MX:Nat->Prop) (s:Nat):Int:=by
 classical exact if h:∃n,LstS es MX s n then (Classical.choose h:Nat) else farN
theorem dS_of {es:List Ed} {MX:Nat->Prop} {s n:Nat} (h:LstS es MX s n):dS es MX s=n:=by
 unfold dS;rw[dif_pos ⟨n,h⟩];have:=LstS.uniq (Classical.choose_spec (⟨n,h⟩:∃n,LstS es MX s n)) h;omega
theorem dS_no {es:List Ed} {MX:Nat->Prop} {s:Nat} (h:∀n,¬LstS es MX s n):dS es MX s=farN:=by
 unfold dS;rw[dif_neg (fun ⟨n,h9⟩=>h n h9)]
def okQ (D:Nat->Int) (es:List Ed) (s k:Nat):Bool:=decide (D (eA es k).t.toNat=D s-1)
inductive GQ (es:List Ed) (D:Nat->Int) (s0:Nat):List Nat->Nat->Prop
 | nil:GQ es D s0 [] s0
 | snoc {ks:List Nat} {s j i:Nat}:GQ es D s0 ks s->0<D s->(outG es (s:Nat)).findIdx? (okQ D es s)=some j->(outG es (s:Nat))[j]?=some i->GQ es D s0 (ks++[i]) (eA es i).t.toNat
theorem GQ.det {es:List Ed} {D:Nat->Int} {s0:Nat} {ms':List Nat} {p':Nat} (h':GQ es D s0 ms' p'):∀ {ms:List Nat} {p:Nat},GQ es D s0 ms p->ms.length<=ms'.length->(ms=ms'/\p=p')\/(ms.length<ms'.length/\0<D p):=by
 induction h' with
 | nil=>
  intro ms p h hl;cases h with
  | nil=>exact .inl ⟨rfl,rfl⟩
  | snoc=>rw[Yh,Yv] at hl;simp at hl
 | @snoc ms1 p1 j k _ hne hix hm ih=>
  intro ms p h hl;rw[Yh,Yv] at hl;by_cases e:ms.length<=ms1.length
  .rcases ih h e with ⟨rfl,rfl⟩ | ⟨h1,h2⟩
   .exact .inr ⟨by rw[Yh,Yv];omega,hne⟩
   .exact .inr ⟨by rw[Yh,Yv];omega,h2⟩
  .cases h with
   | nil=>simp at e
   | @snoc ms2 p2 j2 k2 hg2 hne2 hix2 hm2=>
    rw[Yh,Yv] at hl e;rcases ih hg2 (by omega) with ⟨rfl,rfl⟩ | ⟨h1,_⟩
    .rw[hix] at hix2;cases hix2;rw[hm] at hm2;cases hm2;exact .inl ⟨rfl,rfl⟩
    .omega
theorem GQ.uniq {es:List Ed} {D:Nat->Int} {s0:Nat} {ms ms':List Nat} {p p':Nat} (h:GQ es D s0 ms p) (hc:D p=0) (h':GQ es D s0 ms' p') (hc':D p'=0):ms=ms'/\p=p':=by
 rcases Nat.le_total ms.length ms'.length with hl | hl
 .rcases h'.det h hl with h9 | ⟨_,h9⟩
  .exact h9
  .omega
 .rcases h.det h' hl with ⟨h9,h8⟩ | ⟨_,h9⟩
  .exact⟨h9.symm,h8.symm⟩
  .omega
theorem GQ.len {es:List Ed} {D:Nat->Int} {s0:Nat} {ms:List Nat} {p:Nat} (h:GQ es D s0 ms p):D s0=D p+(ms.length:Int):=by
 induction h with
 | nil=>simp
 | @snoc ms p j k _ _ hix hm ih=>
  obtain⟨h1,h2,_⟩:=List.findIdx?_eq_some_iff_getElem.1 hix;rw[(Ya.1 hm).2] at h2;unfold okQ at h2;have h3:=Yyn h2;rw[Yh,Yv];omega
theorem LFok.val {g:Gl} {MX:Nat->Prop} {LF:List Int} (h:LFok g MX LF) {s:Nat} (hs:s<g.n.toNat):LF[s]?=some (dS g.es MX s):=by
 rcases h s hs with ⟨h1,h2⟩ | ⟨k,h1,h2,_⟩
 .rw[h1,dS_no fun n hn=>h2 n hn.1]
 .rw[h1,dS_of h2]
theorem GS.q {g:Gl} (hV:ValidS g) {MX:Nat->Prop} {LF:List Int} (hF:LFok g MX LF) {ks:List Nat} {s:Nat} (h:GS g.es LF g.s.toNat ks s):s<g.n.toNat/\GQ g.es (dS g.es MX) g.s.toNat ks s:=by
 have hN:=hV.num.n
 induction h with
 | nil=>exact⟨by omega,.nil⟩
 | @snoc ks s x j i _ hx h0 hix hi ih=>
  obtain⟨y,hy,hyf⟩:=outG_mem.1 (Yb hi);have hye:=hV.num.e y (Yb hy);unfold EdS at hye;have hsx:=hF.val ih.1;rw[hx] at hsx;have e1:=Yyp hsx;refine⟨by rw[eA_get hy];omega,.snoc ih.2 (by omega) ?_ hi⟩;rw[<-hix];refine (findIdx?_congr2 fun k hk=>?_).symm;obtain⟨z,hz,hzf⟩:=outG_mem.1 hk;have hze:=hV.num.e z (Yb hz);unfold EdS at hze;unfold okE okQ;rw[eA_get hz,Yo,hF.val (s:=z.t.toNat) (by omega),Option.getD_some,e1]
inductive MxQ (g:Gl) (role:Int):WS->Int->Prop
 | far (hn:∀n,¬DnS g.es (mxP g role) g.s.toNat n):MxQ g role ws0 farI
 | hit {n:Nat} {ks:List Nat} {s:Nat} {e0:Ev} (hl:LstS g.es (mxP g role) g.s.toNat n) (hn:n<=1000) (hG:GQ g.es (dS g.es (mxP g role)) g.s.toNat ks s) (h0:dS g.es (mxP g role) s=0) (hm:mxP g role s) (hf0:(firstE g role (s:Nat))[0]?=some e0) :
   MxQ g role ⟨2,role,eacts g.es ks,[],fullE role e0,otE role (firstE g role (s:Nat))⟩ ((2*n:Nat):Int)
theorem MxP.q {g:Gl} (hV:ValidS g) {role:Int} {X:An} (hX:XOk g role X) {W:WS} {n:Int} (h:MxP g role X W n):MxQ g role W n:=by
 have e1:MXx X=mxP g role:=funext fun s=>propext (hX.mx s);cases h with
 | far hn=>rw[e1] at hn;exact .far hn
 | @hit n LF ks s f e0 hl hn hF hG h0 hf hm hf0=>
  rw[e1] at hl hF;obtain⟨hsn,hq⟩:=hG.q hV hF;obtain⟨f',hf',fl,fb⟩:=hX.at2 hsn;rw[hf] at hf';cases hf';rw[fl] at hf0 ⊢;have hv:=hF.val hsn;rw[h0] at hv;exact .hit hl hn hq (Yyp hv).symm ((hX.mx s).1 ⟨f,hf,hm⟩) hf0
theorem MxQ.uniq {g:Gl} {role:Int} {W W':WS} {n n':Int} (h:MxQ g role W n) (h':MxQ g role W' n'):W=W'/\n=n':=by
 cases h with
 | far hn=>
  cases h' with
  | far=>exact⟨rfl,rfl⟩
  | hit hl=>exact absurd hl.1 (hn _)
 | hit hl hn hG h0 hm hf0=>
  cases h' with
  | far hn=>exact absurd hl.1 (hn _)
  | hit hl' hn' hG' h0' hm' hf0'=>
   obtain⟨rfl,rfl⟩:=hG.uniq h0 hG' h0';rw[hf0] at hf0';cases hf0';exact⟨rfl,by rw[hl.uniq hl']⟩
/-! ### find and Check -/
def kindQ (g:Gl) (role:Int) (i:Nat) (W:WS) (n:Int):Prop:=
 match i with
 | 0=>BpQ g role 1 W n
 | 1=>MxQ g role W n
 | 2=>BpQ g role 3 W n
 | _=>BpQ g role 4 W n
theorem kindP.q {g:Gl} (hV:ValidS g) {role:Int} {X:An} (hX:XOk g role X) {i:Nat} {W:WS} {n:Int} (h:kindP g role X i W n):kindQ g role i W n:=by
 match i with
 | 0=>exact BpP.q hV hX h
 | 1=>exact MxP.q hV hX h
 | 2=>exact BpP.q hV hX h
 | i+3=>exact BpP.q hV hX h
theorem kindQ.uniq {g:Gl} {role:Int} {i:Nat} {W W':WS} {n n':Int} (h:kindQ g role i W n) (h':kindQ g role i W' n'):W=W'/\n=n':=by
 match i with
 | 0=>exact BpQ.uniq h h'
 | 1=>exact MxQ.uniq h h'
 | 2=>exact BpQ.uniq h h'
 | i+3=>exact BpQ.uniq h h'
inductive FindQ (g:Gl) (role:Int):Nat->WS->Int->Prop
 | zero:FindQ g role 0 ws0 farI
 | take {i:Nat} {W W':WS} {n n':Int}:FindQ g role i W n->kindQ g role i W' n'->n'<n->FindQ g role (i+1) W' n'
 | keep {i:Nat} {W W':WS} {n n':Int}:FindQ g role i W n->kindQ g role i W' n'->¬n'<n->FindQ g role (i+1) W n
theorem FindI.q {g:Gl} (hV:ValidS g) {role:Int} {X:An} (hX:XOk g role X) {i:Nat} {W:WS} {n:Int} (h:FindI g role X i W n):FindQ g role i W n:=by
 induction h with
 | zero=>exact .zero
 | take _ hk hl ih=>exact .take ih (hk.q hV hX) hl
 | keep _ hk hl ih=>exact .keep ih (hk.q hV hX) hl
theorem FindQ.uniq {g:Gl} {role:Int} {i:Nat} {W:WS} {n:Int} (h:FindQ g role i W n):∀ {W':WS} {n':Int},FindQ g role i W' n'->W=W'/\n=n':=by
 induction h with
 | zero=>intro W' n' h';cases h';exact⟨rfl,rfl⟩
 | take _ hk hl ih=>
  intro W' n' h';cases h' with
  | take h2 hk2 hl2=>exact hk.uniq hk2
  | keep h2 hk2 hl2=>
   obtain⟨rfl,rfl⟩:=ih h2;obtain⟨rfl,rfl⟩:=hk.uniq hk2;exact absurd hl hl2
 | keep _ hk hl ih=>
  intro W' n' h';cases h' with
  | take h2 hk2 hl2=>
   obtain⟨rfl,rfl⟩:=ih h2;obtain⟨rfl,rfl⟩:=hk.uniq hk2;exact absurd hl2 hl
  | keep h2 hk2 hl2=>exact ih h2
theorem FindP.q {g:Gl} (hV:ValidS g) {role:Int} {W:WS} {n:Int} (h:FindP g role W n):FindQ g role 4 W n:=by
 obtain⟨X,hX,hF⟩:=h;exact hF.q hV hX
theorem FindP.uniq {g:Gl} (hV:ValidS g) {role:Int} {W W':WS} {n n':Int} (h:FindP g role W n) (h':FindP g role W' n'):W=W'/\n=n':=(h.q hV).uniq (h'.q hV)
/-! ### lengths -/
def WS.len (W:WS):Nat:=if W.k=2 then 2*W.F.length else W.F.length+W.S.length
theorem fs_len (g:Gl) {role:Int} {ms:List Pmv} (h:∀m∈ms,∃s t,m∈movL g.es role s t):(facts g ms).length+(sacts g ms).length=(ms.map plen).sum:=by
 induction ms with
 | nil=>rfl
 | cons m ms ih=>
  have h1:=ih fun m hm=>h m (Yn _ hm);obtain⟨s,t,hm⟩:=h m Yx;have h2:0<=m.x\/0<=m.y:=by
   unfold movL at hm;rcases Yk.1 hm with hm | hm
   .rcases Yk.1 hm with hm | hm
    .obtain⟨k,_,rfl⟩:=Yp.1 hm;exact .inl (Int.natCast_nonneg k)
    .obtain⟨k,_,rfl⟩:=Yp.1 hm;exact .inr (Int.natCast_nonneg k)
   .unfold mbL at hm;obtain⟨i,hi,hm⟩:=List.mem_flatMap.1 hm;unfold mb1 at hm;split at hm
    .cases hm
    .obtain⟨k,_,rfl⟩:=Yp.1 hm;exact .inl (Int.natCast_nonneg i)
  unfold facts sacts at *;rw[List.flatMap_cons,List.flatMap_cons,Yh,Yh,Yyl,List.sum_cons,<-h1];unfold plen;by_cases hx:0<=m.x
  .by_cases hy:0<=m.y
   .rw[if_pos hx,if_pos hy,if_pos ⟨hx,hy⟩];simp only[Yv];omega
   .rw[if_pos hx,if_neg hy,if_neg (fun h9=>hy h9.2)];simp only[Yv,List.length_nil];omega
  .have hy:0<=m.y:=h2.resolve_left hx;rw[if_neg hx,if_pos hy,if_neg (fun h9=>hx h9.1)];simp only[Yv,List.length_nil];omega
theorem GTo.mem {g:Gl} {role:Int} {cst:Pr->Option Int} {D:Pr->Int} {p0:Pr} {ms:List Pmv} {p:Pr} (h:GTo (mvP g role) cst D p0 ms p):∀m∈ms,∃s t,m∈movL g.es role s t:=by
 induction h with
 | nil=>intro m hm;cases hm
 | @snoc ms p m k _ _ _ hm ih=>
  intro x hx;rcases Yk.1 hx with hx | hx
  .exact ih x hx
  .rw[Ye] at hx;subst hx;exact⟨p.1,p.2,Yb hm⟩
theorem arrS_mem {g:Gl} {role:Int} {s:Nat} {y:Arv} (h:y∈arrS g role s):∃(i:Nat) (m:Ms),y=arv1 g i m/\i<g.es.length/\m∈earS g i:=by
 unfold arrS at h;obtain⟨i,hi,hy⟩:=List.mem_flatMap.1 h;unfold arr1 at hy;obtain⟨x,hx,_⟩:=outG_mem.1 hi;split at hy
 .unfold arM at hy;obtain⟨m,hm,rfl⟩:=Yp.1 hy;exact⟨i,m,rfl,(Ya.1 hx).1,(List.mem_filter.1 hm).1⟩
 .cases hy
theorem BpQ.len {g:Gl} {role kind:Int} (hk:kind=1\/kind=3\/kind=4) {W:WS} {n:Int} (h:BpQ g role kind W n):(n=farI/\W=ws0)\/(n=W.len/\n<=8388608/\W.k=kind/\W.r=role):=by
 cases h with
 | far=>exact .inl ⟨rfl,rfl⟩
 | @hit n ms p hl hn hG hc=>
  refine .inr ⟨?_,by omega,rfl,rfl⟩;have h1:=fs_len g hG.mem;have h2:=hG.len;have h3:=dL_of hl;have hkk:kind≠2:=by omega
  unfold WS.len;rw[if_neg hkk];rcases hk with rfl | rfl | rfl
  .have:dL (mvP g role) (cstQ g role 1) p=0:=by
    unfold cstP at hc;rw[if_pos rfl] at hc;split at hc
    .split at hc
     .exact (Yyp hc).symm
     .cases hc
    .cases hc
   unfold exP;rw[if_pos rfl];simp only;omega
  .have:dL (mvP g role) (cstQ g role 3) p=0:=by
    unfold cstP at hc;rw[if_neg (by decide),if_pos rfl] at hc;split at hc
    .exact (Yyp hc).symm
    .cases hc
   unfold exP;rw[if_neg (by decide),if_neg (by decide)];simp only;omega
  .unfold cstP at hc;rw[if_neg (by decide),if_neg (by decide)] at hc;split at hc
   .obtain⟨y,hy,hyn⟩:=Yya.1 hc;obtain⟨i,m,rfl,_,_⟩:=arrS_mem (arvF_mem hy).1;unfold exP;rw[if_neg (by decide),if_pos rfl,hy];simp only[Option.getD_some,Yh,Yv];have e1:(arv1 g i m).e.toNat=i:=by unfold arv1;exact Ys i
    have e2:(arv1 g i m).n=1+((pthS g i m).length:Int):=rfl;have e3:(arv1 g i m).m=m:=rfl;rw[e1,e3];omega
   .cases hc
theorem MxQ.len {g:Gl} {role:Int} {W:WS} {n:Int} (h:MxQ g role W n):(n=farI/\W=ws0)\/(n=W.len/\n<=8388608/\W.k=2/\W.r=role):=by
 cases h with
 | far=>exact .inl ⟨rfl,rfl⟩
 | @hit n ks s e0 hl hn hG h0 hm hf0=>
  have h1:=hG.len;have h2:=dS_of hl;refine .inr ⟨?_,by omega,rfl,rfl⟩;unfold WS.len;rw[if_pos rfl];have h3:(eacts g.es ks).length=ks.length:=Yc _;simp only;omega
theorem FindQ.len {g:Gl} {role:Int}:∀ {i:Nat} {W:WS} {n:Int},FindQ g role i W n->(n=farI/\W=ws0)\/(n=W.len/\n<=8388608/\1<=W.k/\W.k<=4/\W.r=role):=by
 intro i W n h
 induction h with
 | zero=>exact .inl ⟨rfl,rfl⟩
 | @take i W W' n n' _ hk hl ih=>
  have h9:(n'=farI/\W'=ws0)\/(n'=W'.len/\n'<=8388608/\1<=W'.k/\W'.k<=4/\W'.r=role):=by
   match i with
   | 0=>exact (BpQ.len (.inl rfl) hk).imp id fun ⟨a,b,c,d⟩=>⟨a,b,by omega,by omega,d⟩
   | 1=>exact (MxQ.len hk).imp id fun ⟨a,b,c,d⟩=>⟨a,b,by omega,by omega,d⟩
   | 2=>exact (BpQ.len (.inr (.inl rfl)) hk).imp id fun ⟨a,b,c,d⟩=>⟨a,b,by omega,by omega,d⟩
   | i+3=>exact (BpQ.len (.inr (.inr rfl)) hk).imp id fun ⟨a,b,c,d⟩=>⟨a,b,by omega,by omega,d⟩
  exact h9
 | keep _ _ _ ih=>exact ih
theorem mov_q1 {g:Gl} {role:Int} {s t:Nat} {x:Ed} (hx:x∈g.es) (hv:vis1 role x=none) (hf:x.f=(s:Int)):∃m∈movL g.es role s t,pto m=(x.t.toNat,t)/\plen m=1:=by
 obtain⟨i,hi⟩:=Yf.1 hx;refine⟨⟨(i:Int),-1,(eA g.es i).t,(t:Nat)⟩,?_,by unfold pto;rw[eA_get hi];rfl,by unfold plen;rw[if_neg (fun h=>absurd h.2 (show ¬(0:Int) <= -1 by decide))]⟩;unfold movL mqL;refine List.mem_append_left _ (List.mem_append_left _ (Yp.2 ⟨i,List.mem_filter.2 ⟨outG_mem.2 ⟨x,hi,hf⟩,?_⟩,rfl⟩));unfold qtB;rw[eA_get hi,hv];rfl
theorem mov_o1 {g:Gl} {role:Int} {s t:Nat} {x:Ed} (hx:x∈g.es) (hv:vis1 role x=none) (hf:x.f=(t:Int)):∃m∈movL g.es role s t,pto m=(s,x.t.toNat)/\plen m=1:=by
 obtain⟨i,hi⟩:=Yf.1 hx;refine⟨⟨-1,(i:Int),(s:Nat),(eA g.es i).t⟩,?_,by unfold pto;rw[eA_get hi];rfl,by unfold plen;rw[if_neg (fun h=>absurd h.1 (show ¬(0:Int) <= -1 by decide))]⟩;unfold movL moL;refine List.mem_append_left _ (List.mem_append_right _ (Yp.2 ⟨i,List.mem_filter.2 ⟨outG_mem.2 ⟨x,hi,hf⟩,?_⟩,rfl⟩));unfold qtB;rw[eA_get hi,hv];rfl
theorem mov_b1 {g:Gl} {role:Int} {s t:Nat} {x y:Ed} {e:Ev} (hx:x∈g.es) (hy:y∈g.es) (hvx:vis1 role x=some e) (hvy:vis1 role y=some e) (hf:x.f=(s:Int)) (hg:y.f=(t:Int)):∃m∈movL g.es role s t,pto m=(x.t.toNat,y.t.toNat)/\plen m=2:=by
 obtain⟨i,hi⟩:=Yf.1 hx;obtain⟨k,hk⟩:=Yf.1 hy;refine⟨⟨(i:Int),(k:Int),(eA g.es i).t,(eA g.es k).t⟩,?_,by unfold pto;rw[eA_get hi,eA_get hk],by unfold plen;rw[if_pos ⟨Int.natCast_nonneg i,Int.natCast_nonneg k⟩]⟩;unfold movL mbL;refine List.mem_append_right _ (List.mem_flatMap.2 ⟨i,outG_mem.2 ⟨x,hi,hf⟩,?_⟩);unfold mb1;rw[eA_get hi,hvx];refine Yp.2 ⟨k,List.mem_filter.2 ⟨outG_mem.2 ⟨y,hk,hg⟩,decide_eq_true ?_⟩,rfl⟩;rw[eA_get hk,hvy]
theorem movL_el {g:Gl} {role:Int} {s t:Nat} {m:Pmv} (hm:m∈movL g.es role s t) :
  (∃x∈g.es,vis1 role x=none/\x.f=(s:Int)/\pto m=(x.t.toNat,t))\/(∃x∈g.es,vis1 role x=none/\x.f=(t:Int)/\pto m=(s,x.t.toNat)) \/
  (∃x∈g.es,∃y∈g.es,∃e,vis1 role x=some e/\vis1 role y=some e/\x.f=(s:Int)/\y.f=(t:Int)/\pto m=(x.t.toNat,y.t.toNat)):=by
 unfold movL at hm;rcases Yk.1 hm with hm | hm
 .rcases Yk.1 hm with hm | hm
  .obtain⟨k,hk,rfl⟩:=Yp.1 hm;obtain⟨hk1,hk2⟩:=List.mem_filter.1 hk;obtain⟨x,hx,hf⟩:=outG_mem.1 hk1;unfold qtB at hk2;rw[eA_get hx] at hk2;refine .inl ⟨x,Yb hx,?_,hf,by unfold pto;rw[eA_get hx];simp only[Ys]⟩;cases h:vis1 role x with
   | none=>rfl
   | some e=>rw[h] at hk2;simp at hk2
  .obtain⟨k,hk,rfl⟩:=Yp.1 hm;obtain⟨hk1,hk2⟩:=List.mem_filter.1 hk;obtain⟨x,hx,hf⟩:=outG_mem.1 hk1;unfold qtB at hk2;rw[eA_get hx] at hk2;refine .inr (.inl ⟨x,Yb hx,?_,hf,by unfold pto;rw[eA_get hx];simp only[Ys]⟩);cases h:vis1 role x with
   | none=>rfl
   | some e=>rw[h] at hk2;simp at hk2
 .unfold mbL at hm;obtain⟨i,hi,hm⟩:=List.mem_flatMap.1 hm;obtain⟨x,hx,hf⟩:=outG_mem.1 hi;unfold mb1 at hm;rw[eA_get hx] at hm;cases hv:vis1 role x with
  | none=>rw[hv] at hm;cases hm
  | some e=>
   rw[hv] at hm;obtain⟨k,hk,rfl⟩:=Yp.1 hm;obtain⟨hk1,hk2⟩:=List.mem_filter.1 hk;obtain⟨y,hy,hfy⟩:=outG_mem.1 hk1;have hk2:=Yyn hk2;rw[eA_get hy] at hk2;exact .inr (.inr ⟨x,Yb hx,y,Yb hy,e,hv,hk2,hf,hfy,by unfold pto;rw[eA_get hy]⟩)
theorem Pth.inv {es:List Ed} {s0 t:Int} {p:List Ed} (h:Pth es s0 p t):(p=[]/\t=s0)\/∃p' x,p=p'++[x]/\Pth es s0 p' x.f/\x∈es/\t=x.t:=by
 cases h with
 | nil=>exact .inl ⟨rfl,rfl⟩
 | snoc h hx hf=>exact .inr ⟨_,_,rfl,by rw[hf];exact h,hx,rfl⟩
theorem fm_none {α β:Type} {f:α->Option β} {l:List α} {x:α} (h:f x=none):(l++[x]).filterMap f=l.filterMap f:=by rw[List.filterMap_append,List.filterMap_cons,h];simp
theorem fm_some {α β:Type} {f:α->Option β} {l:List α} {x:α} {e:β} (h:f x=some e):(l++[x]).filterMap f=l.filterMap f++[e]:=by rw[List.filterMap_append,List.filterMap_cons,h];simp
theorem way {g:Gl} (hV:ValidS g) {role:Int}:∀(N:Nat) {p q:List Ed} {s t:Int},p.length+q.length=N->Pth g.es g.s p s->Pth g.es g.s q t->p.filterMap (vis1 role)=q.filterMap (vis1 role) ->
  Prr g role (s.toNat,t.toNat)/\∀(cst:Pr->Option Nat) (n:Nat),Dn (mvP g role) cst (s.toNat,t.toNat) n->Dn (mvP g role) cst (p00 g) (n+N):=by
 intro N
 induction N using Nat.strongRecOn with
 | ind N ih=>
  intro p q s t hN hp hq he;have hE:∀x∈g.es,0<=x.f/\0<=x.t:=fun x hx=>by have:=hV.num.e x hx;unfold EdS at this;exact⟨by omega,by omega⟩
  have qx:∀ {p' q:List Ed} {x:Ed} {t:Int},Pth g.es g.s p' x.f->x∈g.es->vis1 role x=none->Pth g.es g.s q t->p'.length+1+q.length=N->p'.filterMap (vis1 role)=q.filterMap (vis1 role) ->
    Prr g role (x.t.toNat,t.toNat)/\∀(cst:Pr->Option Nat) (n:Nat),Dn (mvP g role) cst (x.t.toNat,t.toNat) n->Dn (mvP g role) cst (p00 g) (n+N):=fun {p' q x t} hp' hx hv hq hN he=>by
   obtain⟨h1,h2⟩:=ih (p'.length+q.length) (by omega) rfl hp' hq he;obtain⟨m,hm,e,l⟩:=mov_q1 (t:=t.toNat) (s:=x.f.toNat) hx hv (by have:=hE x hx;omega);refine⟨by have:=Prr.step h1 hm;rwa [e] at this,fun cst n hd=>?_⟩;have h3:Dn (mvP g role) cst (x.f.toNat,t.toNat) (n+plen m):=Dn.step hm (by rw[e];exact hd);rw[l] at h3;have h4:=h2 cst _ h3;have e4:n+1+(p'.length+q.length)=n+N:=by omega
   rwa [e4] at h4
  have ox:∀ {p q':List Ed} {x:Ed} {s:Int},Pth g.es g.s p s->Pth g.es g.s q' x.f->x∈g.es->vis1 role x=none->p.length+(q'.length+1)=N->p.filterMap (vis1 role)=q'.filterMap (vis1 role) ->
    Prr g role (s.toNat,x.t.toNat)/\∀(cst:Pr->Option Nat) (n:Nat),Dn (mvP g role) cst (s.toNat,x.t.toNat) n->Dn (mvP g role) cst (p00 g) (n+N):=fun {p q' x s} hp hq' hx hv hN he=>by
   obtain⟨h1,h2⟩:=ih (p.length+q'.length) (by omega) rfl hp hq' he;obtain⟨m,hm,e,l⟩:=mov_o1 (s:=s.toNat) (t:=x.f.toNat) hx hv (by have:=hE x hx;omega);refine⟨by have:=Prr.step h1 hm;rwa [e] at this,fun cst n hd=>?_⟩;have h3:Dn (mvP g role) cst (s.toNat,x.f.toNat) (n+plen m):=Dn.step hm (by rw[e];exact hd);rw[l] at h3;have h4:=h2 cst _ h3;have e4:n+1+(p.length+q'.length)=n+N:=by omega
   rwa [e4] at h4
  rcases hp.inv with ⟨rfl,rfl⟩ | ⟨p',x,rfl,hp',hx,rfl⟩
  .rcases hq.inv with ⟨rfl,rfl⟩ | ⟨q',y,rfl,hq',hy,rfl⟩
   .have:N=0:=hN.symm;subst this;exact⟨.start,fun cst n hd=>hd⟩
   .cases hv:vis1 role y with
    | none=>
     rw[fm_none hv] at he;rw[Yh,Yv] at hN;exact ox hp hq' hy hv hN he
    | some e=>
     rw[fm_some hv] at he;have:=congrArg List.length he;simp at this
  .rw[Yh,Yv] at hN;cases hv:vis1 role x with
   | none=>
    rw[fm_none hv] at he;exact qx hp' hx hv hq hN he
   | some e=>
    rcases hq.inv with ⟨rfl,rfl⟩ | ⟨q',y,rfl,hq',hy,rfl⟩
    .rw[fm_some hv] at he;have:=congrArg List.length he;simp at this
    .rw[Yh,Yv] at hN;cases hw:vis1 role y with
     | none=>
      rw[fm_none hw] at he;exact ox hp hq' hy hw (by rw[Yh,Yv];omega) he
     | some e'=>
      rw[fm_some hv,fm_some hw] at he;obtain⟨he1,he2⟩:=List.append_inj' he rfl;cases he2;obtain⟨h1,h2⟩:=ih (p'.length+q'.length) (by omega) rfl hp' hq' he1;obtain⟨m,hm,e5,l⟩:=mov_b1 (s:=x.f.toNat) (t:=y.f.toNat) hx hy hv hw (by have:=hE x hx;omega) (by have:=hE y hy;omega);refine⟨by have:=Prr.step h1 hm;rwa [e5] at this,fun cst n hd=>?_⟩;have h3:Dn (mvP g role) cst (x.f.toNat,y.f.toNat) (n+plen m):=Dn.step hm (by rw[e5];exact hd);rw[l] at h3;have h4:=h2 cst _ h3;have e4:n+2+(p'.length+q'.length)=n+N:=by omega
      rwa [e4] at h4
theorem Prr.words {g:Gl} (hV:ValidS g) {role:Int} {p:Pr} (h:Prr g role p):∃(a b:List Ed) (s t:Int),Pth g.es g.s a s/\Pth g.es g.s b t/\a.filterMap (vis1 role)=b.filterMap (vis1 role)/\p=(s.toNat,t.toNat):=by
 have hE:∀x∈g.es,0<=x.f/\0<=x.t:=fun x hx=>by have:=hV.num.e x hx;unfold EdS at this;exact⟨by omega,by omega⟩
 induction h with
 | start=>exact⟨[],[],g.s,g.s,.nil,.nil,rfl,rfl⟩
 | @step p m hp hm ih=>
  obtain⟨a,b,s,t,ha,hb,he,rfl⟩:=ih;have hs:=pth_range hV ha;have ht:=pth_range hV hb;rcases movL_el hm with ⟨x,hx,hv,hf,e⟩ | ⟨x,hx,hv,hf,e⟩ | ⟨x,hx,y,hy,ev,hv,hw,hf,hfy,e⟩
  .have hf:x.f=((s.toNat:Nat):Int):=hf;exact⟨a++[x],b,x.t,t,.snoc ha hx (by omega),hb,by rw[fm_none hv];exact he,e⟩
  .have hf:x.f=((t.toNat:Nat):Int):=hf;exact⟨a,b++[x],s,x.t,ha,.snoc hb hx (by omega),by rw[fm_none hv];exact he,e⟩
  .have hf:x.f=((s.toNat:Nat):Int):=hf;have hfy:y.f=((t.toNat:Nat):Int):=hfy;exact⟨a++[x],b++[y],x.t,y.t,.snoc ha hx (by omega),.snoc hb hy (by omega),by rw[fm_some hv,fm_some hw,he],e⟩
theorem Prr.symm {g:Gl} (hV:ValidS g) {role:Int} {s t:Nat} (h:Prr g role (s,t)):Prr g role (t,s):=by
 obtain⟨a,b,s',t',ha,hb,he,e⟩:=h.words hV;cases e;exact (way hV _ rfl hb ha he.symm).1
theorem Prr.diag {g:Gl} (hV:ValidS g) {role:Int} {s t:Nat} (h:Prr g role (s,t)):Prr g role (s,s):=by
 obtain⟨a,b,s',t',ha,hb,he,e⟩:=h.words hV;cases e;exact (way hV _ rfl ha ha rfl).1
end Go.VC
end

section
namespace Go.VC
open Go.Proofs
variable [Mono]
namespace M
/- farandole/realize.Pairs$1 -/
def W52 (p0_1:Int) (p0_2:Int) (p1_3:Int) (p1_4:Int) (h:Heap) (R:Value->Heap->Prop):Prop:=
 (∀h5:Heap,h5=h.push (.cells ⟨[.int .i64 p0_1,.int .i64 p0_2]⟩ 52) -> 
 (∀h6:Heap,h6=h5.push (.cells ⟨[.int .i64 p1_3,.int .i64 p1_4]⟩ 52) -> 
 ((0<=(0:Int)/\(0:Int)<(2:Nat)) /\ 
 (∃x7:Int,hc h6 ⟨h.size,0+Int.toNat 0*1,none⟩=some (.int .i64 x7) /\ 
 ((0<=(0:Int)/\(0:Int)<(2:Nat)) /\ 
 (∃x8:Int,hc h6 ⟨h5.size,0+Int.toNat 0*1,none⟩=some (.int .i64 x8) /\ 
 ((0<=(1:Int)/\(1:Int)<(2:Nat)) /\ 
 (∃x9:Int,hc h6 ⟨h.size,0+Int.toNat 1*1,none⟩=some (.int .i64 x9) /\ 
 ((0<=(1:Int)/\(1:Int)<(2:Nat)) /\ 
 (∃x10:Int,hc h6 ⟨h5.size,0+Int.toNat 1*1,none⟩=some (.int .i64 x10) /\ 
 (Fn Pz 54 #[.int .i64 x7,.int .i64 x8] h6 
 (fun v11 h13=>∃x12:Int,v11=.int .i64 x12 /\ 
 (Sm [⟨h5.size,0+Int.toNat 1*1,none⟩,⟨h.size,0+Int.toNat 1*1,none⟩] h6 h13 /\ 
 (Fn Pz 54 #[.int .i64 x9,.int .i64 x10] h13 
 (fun v14 h16=>∃x15:Int,v14=.int .i64 x15 /\ 
 (Sm [⟨h5.size,0+Int.toNat 0*1,none⟩,⟨h.size,0+Int.toNat 0*1,none⟩] h13 h16 /\ 
 (∀h17:Heap,h17=h16.push (.cells ⟨[.int .i64 x12,.int .i64 x15]⟩ 3) -> 
 (Fn Pz 53 #[.slice (some ⟨h16.size,0,none⟩) 2 2] h17 
 (fun v18 h20=>∃x19:Int,v18=.int .i64 x19 /\ 
 R (.int .i64 x19) h20)))))))))))))))))))
theorem vc52e (p0_1:Int) (p0_2:Int) (p1_3:Int) (p1_4:Int) (h:Heap) (R:Value->Heap->Prop):W52 p0_1 p0_2 p1_3 p1_4 h R=fnW Pz 52 .z #[.agg ⟨[.int .i64 p0_1,.int .i64 p0_2]⟩,.agg ⟨[.int .i64 p1_3,.int .i64 p1_4]⟩] h R:=by kernel_rfl
theorem vc52 (p0_1:Int) (p0_2:Int) (p1_3:Int) (p1_4:Int) (h:Heap) (R:Value->Heap->Prop) (H:W52 p0_1 p0_2 p1_3 p1_4 h R):Fn Pz 52 #[.agg ⟨[.int .i64 p0_1,.int .i64 p0_2]⟩,.agg ⟨[.int .i64 p1_3,.int .i64 p1_4]⟩] h R:=fnI (vc52e p0_1 p0_2 p1_3 p1_4 h R) H
end M
end Go.VC
end

section
namespace Go.VC
open Go.Proofs Go.LexS
variable [Mono]
namespace M
theorem cmpP52 (x y:Ms) (h:Heap):Fn Pz 52 #[.agg ⟨x.cs⟩,.agg ⟨y.cs⟩] h fun v h'=>v=.int .i64 (cmpMs x y)/\Ext h h':=by
 apply vc52 x.p x.l y.p y.l;unfold W52;have hs:=St.refl h;refine hs.newb fun h5 hs=>?_;refine hs.newb fun h6 hs=>?_;refine⟨by decide,_,hs.rd 1 rfl (i:=0) rfl,by decide,_,hs.rd 0 rfl (i:=0) rfl,by decide,_,hs.rd 1 rfl (i:=1) rfl,by decide,_,hs.rd 0 rfl (i:=1) rfl,?_⟩;refine (cmp110 _ _ _).mono ?_;rintro _ _ ⟨rfl,rfl⟩;refine⟨_,rfl,fun _ _ _ _ hv=>hv,?_⟩;refine (cmp110 _ _ _).mono ?_;rintro _ _ ⟨rfl,rfl⟩;refine⟨_,rfl,fun _ _ _ _ hv=>hv,?_⟩;refine hs.newb fun h22 hs=>?_;have hs2:=hs.blkS 2 1 ([cmpI x.p y.p,cmpI x.l y.l].map inC) rfl (inrows _) rfl (by decide);refine (or109 [cmpI x.p y.p,cmpI x.l y.l] _ h22 (hs2.rows 0 rfl (by omega)) (show 2<=1048576 by decide)).mono ?_;rintro _ _ ⟨rfl,rfl⟩;exact⟨_,rfl,rfl,hs.ext⟩
end M
end Go.VC
end

section
namespace Go.VC
open Go.Proofs Go.LexS Go.Shelf
theorem sort51 {h0 h:Heap} {L:List It} (hs:St h0 h L) (k:Nat) {s:Sl} {l:List Ms} (hk:L[k]?=some (.sl s 52 2 (l.map Ms.cs))) (hm:l.length<=1048576) :
  Fn Pz 51 #[.slice s.a s.n s.c,.func (.func 52) #[] #[]] h fun v h'=>v=.tuple ⟨[]⟩/\∃l':List Ms,l'.Perm l/\l'.Pairwise (fun a b=>¬msLt b a)/\St h0 h' (L.set k (.sl s 52 2 (l'.map Ms.cs))):=by
 refine Fn.mono (sort_own Tryz.sortL51 2 52 Tryz.isAgg52 Tryz.sizeOf52 Ms.cs (fun _=>rfl) (fun x v hv=>by simp[Ms.cs] at hv;rcases hv with rfl | rfl<;>rfl) cmpMs swoMs 52 (enters_of Tryz.func52 (by kernel_rfl) rfl) (fun x y h=>@M.cmpP52 monoDrawn x y h) hs k hk (by omega) (by omega)) ?_;rintro v h' ⟨rfl,l',hp,hw,hs'⟩;exact⟨rfl,l',hp,hw.imp fun {a b} hab=>by unfold ltOf at hab;rw[decide_eq_false_iff_not,cmpMs_neg] at hab;exact hab,hs'⟩
end Go.VC
end

section
namespace Go.VC
open Go.Proofs
/- farandole/farandolelaw23.small -/
def W21 (p0_1:ByteArray) (p0_2:Sl) (p0_3:Sl) (p0_4:Int) (p0_5:Int) (p0_6:Int) (p0_7:Sl) (p0_8:Sl) (p1:Int) (h:Heap) (R:Value->Heap->Prop):Prop:=
 (∀h9:Heap,h9=h.push (.cells ⟨[.string p0_1,.slice p0_2.a p0_2.n p0_2.c,.slice p0_3.a p0_3.n p0_3.c,.int .i64 p0_4,.int .i64 p0_5,.int .i64 p0_6,.slice p0_7.a p0_7.n p0_7.c,.slice p0_8.a p0_8.n p0_8.c]⟩ 27) -> 
 (∃x10:ByteArray,∃x11:Sl,∃x12:Sl,∃x13:Int,∃x14:Int,∃x15:Int,∃x16:Sl,∃x17:Sl,atC h9 ⟨h.size,0,none⟩ [.string x10,.slice x11.a x11.n x11.c,.slice x12.a x12.n x12.c,.int .i64 x13,.int .i64 x14,.int .i64 x15,.slice x16.a x16.n x16.c,.slice x17.a x17.n x17.c] /\ 
 (Fn Pz 13 #[.agg ⟨[.string x10,.slice x11.a x11.n x11.c,.slice x12.a x12.n x12.c,.int .i64 x13,.int .i64 x14,.int .i64 x15,.slice x16.a x16.n x16.c,.slice x17.a x17.n x17.c]⟩] h9 
 (fun v18 h20=>∃x19:Bool,v18=.bool x19 /\ 
 (sB x19 
  ((∃x21:ByteArray,∃x22:Sl,∃x23:Sl,∃x24:Int,∃x25:Int,∃x26:Int,∃x27:Sl,∃x28:Sl,atC h20 ⟨h.size,0,none⟩ [.string x21,.slice x22.a x22.n x22.c,.slice x23.a x23.n x23.c,.int .i64 x24,.int .i64 x25,.int .i64 x26,.slice x27.a x27.n x27.c,.slice x28.a x28.n x28.c] /\ 
  (Fn Pz 48 #[.agg ⟨[.string x21,.slice x22.a x22.n x22.c,.slice x23.a x23.n x23.c,.int .i64 x24,.int .i64 x25,.int .i64 x26,.slice x27.a x27.n x27.c,.slice x28.a x28.n x28.c]⟩,.int .i64 p1] h20 
  (fun v29 h31=>∃x30:Bool,v29=.bool x30 /\ 
  R (.bool x30) h31)))) 
  (R (.bool false) h20))))))
theorem vc21e (p0_1:ByteArray) (p0_2:Sl) (p0_3:Sl) (p0_4:Int) (p0_5:Int) (p0_6:Int) (p0_7:Sl) (p0_8:Sl) (p1:Int) (h:Heap) (R:Value->Heap->Prop):W21 p0_1 p0_2 p0_3 p0_4 p0_5 p0_6 p0_7 p0_8 p1 h R=fnW Pz 21 .z #[.agg ⟨[.string p0_1,.slice p0_2.a p0_2.n p0_2.c,.slice p0_3.a p0_3.n p0_3.c,.int .i64 p0_4,.int .i64 p0_5,.int .i64 p0_6,.slice p0_7.a p0_7.n p0_7.c,.slice p0_8.a p0_8.n p0_8.c]⟩,.int .i64 p1] h R:=by kernel_rfl
theorem vc21 (p0_1:ByteArray) (p0_2:Sl) (p0_3:Sl) (p0_4:Int) (p0_5:Int) (p0_6:Int) (p0_7:Sl) (p0_8:Sl) (p1:Int) (h:Heap) (R:Value->Heap->Prop) (H:W21 p0_1 p0_2 p0_3 p0_4 p0_5 p0_6 p0_7 p0_8 p1 h R):Fn Pz 21 #[.agg ⟨[.string p0_1,.slice p0_2.a p0_2.n p0_2.c,.slice p0_3.a p0_3.n p0_3.c,.int .i64 p0_4,.int .i64 p0_5,.int .i64 p0_6,.slice p0_7.a p0_7.n p0_7.c,.slice p0_8.a p0_8.n p0_8.c]⟩,.int .i64 p1] h R:=fnI (vc21e p0_1 p0_2 p0_3 p0_4 p0_5 p0_6 p0_7 p0_8 p1 h R) H
/- farandole/realize.Pairs
   loop rrrrrlrb: out_29:Sl, x_30:Int -/
def W22 (p0_1:ByteArray) (p0_2:Sl) (p0_3:Sl) (p0_4:Int) (p0_5:Int) (p0_6:Int) (p0_7:Sl) (p0_8:Sl) (p1:Int) (h:Heap) (R:Value->Heap->Prop):Prop:=
 (∀h9:Heap,h9=h.push (.cells ⟨[.string p0_1,.slice p0_2.a p0_2.n p0_2.c,.slice p0_3.a p0_3.n p0_3.c,.int .i64 p0_4,.int .i64 p0_5,.int .i64 p0_6,.slice p0_7.a p0_7.n p0_7.c,.slice p0_8.a p0_8.n p0_8.c]⟩ 27) -> 
 (∃x10:ByteArray,∃x11:Sl,∃x12:Sl,∃x13:Int,∃x14:Int,∃x15:Int,∃x16:Sl,∃x17:Sl,atC h9 ⟨h.size,0,none⟩ [.string x10,.slice x11.a x11.n x11.c,.slice x12.a x12.n x12.c,.int .i64 x13,.int .i64 x14,.int .i64 x15,.slice x16.a x16.n x16.c,.slice x17.a x17.n x17.c] /\ 
 (Fn Pz 49 #[.agg ⟨[.string x10,.slice x11.a x11.n x11.c,.slice x12.a x12.n x12.c,.int .i64 x13,.int .i64 x14,.int .i64 x15,.slice x16.a x16.n x16.c,.slice x17.a x17.n x17.c]⟩,.int .i64 p1] h9 
 (fun v18 h21=>∃x19:Option Addr,∃x20:Int,v18=.tuple ⟨[.pointer x19,.int .i64 x20]⟩ /\ 
 (sB (x20 != 0) 
  (R (.tuple ⟨[.slice none 0 0,.int .i64 x20]⟩) h21) 
  ((Fn Pz 50 #[.pointer x19] h21 
  (fun v22 h25=>∃x23:Sl,∃x24:Option Nat,v22=.tuple ⟨[.slice x23.a x23.n x23.c,.map x24]⟩ /\ 
  (∃I26:Sl->Int->Heap->Nat->Prop,(∃m27,I26 ⟨none,0,0⟩ 0 h25 m27) /\ 
  (∀(_:Env) (out_29:Sl) (x_30:Int) (h31:Heap) (m28:Nat),I26 out_29 x_30 h31 m28 -> 
  (sB (decide (x_30<(x23.n:Int))) 
   ((NB x23.a fun b32 o33=>((0<=(x_30:Int)/\(x_30:Int)<(x23.n:Nat)) /\ 
   (∃x34:Int,∃x35:Int,atC h31 ⟨b32,o33+Int.toNat x_30*2,none⟩ [.int .i64 x34,.int .i64 x35] /\ 
   (∀h36:Heap,h36=h31.push (.cells ⟨[.int .i64 0,.int .i64 0]⟩ 97) -> 
   (okAt h36 ⟨h31.size,0,none⟩ 2/\∀h37:Heap,h37=hputs h36 ⟨h31.size,0,none⟩ 0 [.int .i64 x34,.int .i64 x35] -> 
   (∃x38:Int,hc h37 ⟨h31.size,0,none⟩=some (.int .i64 x38) /\ 
   (∃x39:Int,hc h37 ⟨h31.size,1,none⟩=some (.int .i64 x39) /\ 
   (∀h40:Heap,h40=h37.push (.cells ⟨[.int .i64 x38,.int .i64 x39]⟩ 52) -> 
   (App Pz 49 49 (.slice out_29.a out_29.n out_29.c) (.slice (some ⟨h37.size,0,none⟩) 1 1) h40 fun s41 h42=>
   (∃m43,m43<m28/\I26 s41 (IntKind.wrap .i64 (x_30+1)) h42 m43))))))))))) 
   ((Fn Pz 51 #[.slice out_29.a out_29.n out_29.c,.func (.func 52) #[] #[]] h31 
   (fun v44 h45=>v44=.tuple ⟨[]⟩ /\ 
   R (.tuple ⟨[.slice out_29.a out_29.n out_29.c,.int .i64 0]⟩) h45))))))))))))))
theorem vc22e (p0_1:ByteArray) (p0_2:Sl) (p0_3:Sl) (p0_4:Int) (p0_5:Int) (p0_6:Int) (p0_7:Sl) (p0_8:Sl) (p1:Int) (h:Heap) (R:Value->Heap->Prop):W22 p0_1 p0_2 p0_3 p0_4 p0_5 p0_6 p0_7 p0_8 p1 h R=fnW Pz 22 (.s .z (.s .z (.s .z (.s .z (.s .z (.s (.s .z (.b (.l [(10,.one (.slice)),(29,.one (.int .i64))] .z))) .z)))))) #[.agg ⟨[.string p0_1,.slice p0_2.a p0_2.n p0_2.c,.slice p0_3.a p0_3.n p0_3.c,.int .i64 p0_4,.int .i64 p0_5,.int .i64 p0_6,.slice p0_7.a p0_7.n p0_7.c,.slice p0_8.a p0_8.n p0_8.c]⟩,.int .i64 p1] h R:=by kernel_rfl
theorem vc22 (p0_1:ByteArray) (p0_2:Sl) (p0_3:Sl) (p0_4:Int) (p0_5:Int) (p0_6:Int) (p0_7:Sl) (p0_8:Sl) (p1:Int) (h:Heap) (R:Value->Heap->Prop) (H:W22 p0_1 p0_2 p0_3 p0_4 p0_5 p0_6 p0_7 p0_8 p1 h R):Fn Pz 22 #[.agg ⟨[.string p0_1,.slice p0_2.a p0_2.n p0_2.c,.slice p0_3.a p0_3.n p0_3.c,.int .i64 p0_4,.int .i64 p0_5,.int .i64 p0_6,.slice p0_7.a p0_7.n p0_7.c,.slice p0_8.a p0_8.n p0_8.c]⟩,.int .i64 p1] h R:=fnI (vc22e p0_1 p0_2 p0_3 p0_4 p0_5 p0_6 p0_7 p0_8 p1 h R) H
/- farandole/farandolelaw23.RealizePairs$1
   loop rlrb: x_5:Int -/
def W23 (p0:Int) (p1:Int) (c0:Addr) (h:Heap) (R:Value->Heap->Prop):Prop:=
 (∃x1:Sl,hc h c0=some (.slice x1.a x1.n x1.c) /\ 
 (∃I2:Int->Heap->Nat->Prop,(∃m3,I2 0 h m3) /\ 
 (∀(_:Env) (x_5:Int) (h6:Heap) (m4:Nat),I2 x_5 h6 m4 -> 
 (sB (decide (x_5<(x1.n:Int))) 
  ((∃x7:Sl,hc h6 c0=some (.slice x7.a x7.n x7.c) /\ 
  (NB x7.a fun b8 o9=>((0<=(x_5:Int)/\(x_5:Int)<(x7.n:Nat)) /\ 
  (∃x10:Int,∃x11:Int,atC h6 ⟨b8,o9+Int.toNat x_5*2,none⟩ [.int .i64 x10,.int .i64 x11] /\ 
  (sB ((x10==p0)&&((x11==p1)&&true)) 
   (R (.bool true) h6) 
   ((∃m12,m12<m4/\I2 (IntKind.wrap .i64 (x_5+1)) h6 m12)))))))) 
  (R (.bool false) h6)))))
theorem vc23e (p0:Int) (p1:Int) (c0:Addr) (h:Heap) (R:Value->Heap->Prop):W23 p0 p1 c0 h R=fnW Pz 23 (.s .z (.s (.s .z (.b (.l [(9,.one (.int .i64))] .z))) .z)) #[.int .i64 p0,.int .i64 p1,.pointer (some c0)] h R:=by kernel_rfl
theorem vc23 (p0:Int) (p1:Int) (c0:Addr) (h:Heap) (R:Value->Heap->Prop) (H:W23 p0 p1 c0 h R):Fn Pz 23 #[.int .i64 p0,.int .i64 p1,.pointer (some c0)] h R:=fnI (vc23e p0 p1 c0 h R) H
/- farandole/farandolelaw23.hasState -/
/- farandole/farandoleref21.Has
   loop rlrb: i_10:Int -/
end Go.VC
end

section
namespace Go.VC
open Go.Proofs Go.LexS
theorem FindP.len {g:Gl} (hV:ValidS g) {role:Int} {W:WS} {n:Int} (h:FindP g role W n):(n=farI/\W=ws0)\/(n=W.len/\n<=8388608/\1<=W.k/\W.k<=4/\W.r=role):=(h.q hV).len
def BestQ (g:Gl) (k:Nat) (W:WS) (n:Int):Prop:=
 (n=farI/\W=ws0/\∀j:Nat,j<k->∀W' n',FindP g (j:Int) W' n'->n'=farI) \/
  (n≠farI/\(∃i:Nat,i<k/\FindP g (i:Int) W n)/\∀j:Nat,j<k->∀W' n',FindP g (j:Int) W' n'->n'=farI\/n<n'\/(n=n'/\(W.k<W'.k\/(W.k=W'.k/\W.r<=(j:Int)))))
theorem ChkI.best {g:Gl} (hV:ValidS g) {k:Nat} {W:WS} {n:Int} (h:ChkI g k W n):BestQ g k W n:=by
 induction h with
 | zero=>exact .inl ⟨rfl,rfl,fun j hj=>by omega⟩
 | @take i W W' n n' _ hP hc ih=>
  have hl':=hP.len hV;have hn':n'≠farI:=by
   rcases ih with ⟨h1,_⟩ | ⟨h1,⟨i2,_,h2⟩,_⟩
   .unfold farI at *;omega
   .have h3:=h2.len hV;unfold farI at *;omega
  have hWr:W'.r=(i:Int):=by
   rcases hl' with ⟨h9,_⟩ | ⟨_,_,_,_,h9⟩
   .exact absurd h9 hn'
   .exact h9
  refine .inr ⟨hn',⟨i,by omega,hP⟩,fun j hj W2 n2 h2=>?_⟩;by_cases e:j=i
  .subst e;obtain⟨rfl,rfl⟩:=hP.uniq hV h2;exact .inr (.inr ⟨rfl,.inr ⟨rfl,by omega⟩⟩)
  .rcases ih with ⟨h1,_,h3⟩ | ⟨h1,_,h3⟩
   .exact .inl (h3 j (by omega) W2 n2 h2)
   .rcases h3 j (by omega) W2 n2 h2 with h4 | h4 | ⟨h4,h5⟩
    .exact .inl h4
    .exact .inr (.inl (by omega))
    .rcases hc with h6 | ⟨h6,_,h7⟩
     .exact .inr (.inl (by omega))
     .refine .inr (.inr ⟨by omega,.inl ?_⟩);rcases h5 with h5 | ⟨h5,_⟩<;>omega
 | @keep i W W' n n' _ hP hc ih=>
  have hl':=hP.len hV;rcases ih with ⟨h1,h2,h3⟩ | ⟨h1,⟨i2,hi2,h2⟩,h3⟩
  .refine .inl ⟨h1,h2,fun j hj W2 n2 h4=>?_⟩;by_cases e:j=i
   .subst e;obtain⟨rfl,rfl⟩:=hP.uniq hV h4;unfold farI at *;omega
   .exact h3 j (by omega) W2 n2 h4
  .have h5:=h2.len hV;refine .inr ⟨h1,⟨i2,by omega,h2⟩,fun j hj W2 n2 h4=>?_⟩;by_cases e:j=i
   .subst e;obtain⟨rfl,rfl⟩:=hP.uniq hV h4;have hr:W.r=(i2:Int):=by
     rcases h5 with ⟨h9,_⟩ | ⟨_,_,_,_,h9⟩
     .exact absurd h9 h1
     .exact h9
    by_cases e1:n'=farI
    .exact .inl e1
    .by_cases e2:n<n'
     .exact .inr (.inl e2)
     .have e3:n=n':=by
       have:¬n'<n:=fun h9=>hc (.inl h9);omega
      refine .inr (.inr ⟨e3,?_⟩);have:¬W'.k<W.k:=fun h9=>hc (.inr ⟨e3.symm,by unfold farI at *;omega,h9⟩);rcases Int.lt_or_le W.k W'.k with h9 | h9
      .exact .inl h9
      .exact .inr ⟨by omega,by omega⟩
   .exact h3 j (by omega) W2 n2 h4
/-! ### certificates -/
theorem Prr.sub {g:Gl} {role:Int} {PL:List Pr} (h0:p00 g∈PL) (hcl:∀p∈PL,∀m∈movL g.es role p.1 p.2,pto m∈PL) {p:Pr} (h:Prr g role p):p∈PL:=by
 induction h with
 | start=>exact h0
 | step _ hm ih=>exact hcl _ ih _ hm
theorem Dn.cst {g:Gl} {role:Int} {cst:Pr->Option Nat} {p:Pr} {n:Nat} (hd:Dn (mvP g role) cst p n):Prr g role p->∃q,Prr g role q/\cst q≠none:=by
 induction hd with
 | base h=>exact fun hp=>⟨_,hp,by rw[h];simp⟩
 | step hm _ ih=>exact fun hp=>ih (.step hp hm)
theorem BpQ.none {g:Gl} {role kind:Int} {PL:List Pr} (h0:p00 g∈PL) (hcl:∀p∈PL,∀m∈movL g.es role p.1 p.2,pto m∈PL) (hc:∀p∈PL,cstP g role kind p=Option.none) {W:WS} {n:Int} (h:BpQ g role kind W n):n=farI:=by
 cases h with
 | far=>rfl
 | hit hl=>
  obtain⟨q,hq,hne⟩:=hl.1.cst .start;exact absurd (by unfold cstQ;rw[hc q (hq.sub h0 hcl)];rfl) hne
theorem DnS.mx {es:List Ed} {MX:Nat->Prop} {s n:Nat} (h:DnS es MX s n):∃t,MX t:=by
 induction h with
 | base h=>exact⟨_,h⟩
 | step _ _ _ ih=>exact ih
theorem MxQ.none {g:Gl} {role:Int} (hc:∀s:Nat,s<g.n.toNat->¬mxP g role s) {W:WS} {n:Int} (h:MxQ g role W n):n=farI:=by
 cases h with
 | far=>rfl
 | hit hl=>
  obtain⟨t,ht⟩:=hl.1.mx;exact absurd ht (hc t ht.1)
theorem FindQ.none {g:Gl} {role:Int} {PL:List Pr} (h0:p00 g∈PL) (hcl:∀p∈PL,∀m∈movL g.es role p.1 p.2,pto m∈PL) (hc:∀p∈PL,cstP g role 1 p=Option.none/\cstP g role 3 p=Option.none/\cstP g role 4 p=Option.none) (hm:∀s:Nat,s<g.n.toNat->¬mxP g role s):∀ {i:Nat} {W:WS} {n:Int},FindQ g role i W n->n=farI:=by
 intro i W n h
 induction h with
 | zero=>rfl
 | @take i W W' n n' _ hk hl ih=>
  have:n'=farI:=by
   match i with
   | 0=>exact BpQ.none h0 hcl (fun p hp=>(hc p hp).1) hk
   | 1=>exact MxQ.none hm hk
   | 2=>exact BpQ.none h0 hcl (fun p hp=>(hc p hp).2.1) hk
   | i+3=>exact BpQ.none h0 hcl (fun p hp=>(hc p hp).2.2) hk
  exact this
 | keep _ _ _ ih=>exact ih
/-! ### two roles: nothing is found -/

instance:DecidableEq Lm:=fun a b=>decidable_of_iff (a.k=b.k/\a.x=b.x) ⟨fun ⟨h1,h2⟩=>by cases a;cases b;simp_all,fun h=>by rw[h];exact⟨rfl,rfl⟩⟩
def fcC (g:Gl) (role:Int) (s:Nat):Option (List Ev × Bool):=(cloC g.es role g.n.toNat [(s:Int)]).map fun L=>(evsC g.es role L,decide (g.e.toNat∈L))
theorem fc_eq {g:Gl} (hV:ValidS g) {role:Int} {s:Nat} (hs:(s:Int)<g.n) {q:List Ev × Bool} (h:fcC g role s=some q):firstE g role (s:Nat)=q.1/\firstB g role (s:Nat)=q.2:=by
 have hN:=hV.num.n;unfold fcC at h;obtain⟨L,hL,rfl⟩:=Yya.1 h;obtain⟨hc,he⟩:=cloC_ok (fun x hx=>by have:=hV.num.e x hx;unfold EdS at this;omega) (fun j hj=>by have:=clo_lt (l:=[(s:Int)]) hV (fun x hx=>by rw[Ye] at hx;omega) j hj;omega) hL;constructor
 .unfold firstE;rw[he,evs_setOf hc (by omega)]
 .unfold firstB;rw[he];rfl
def clB (g:Gl) (role:Int) (s t:Nat):Bool:=owFo g.es role s&&(owFo g.es role t&&(!decide (limFo g role g.ts s=limFo g role g.ts t) || !decide (agFo g.es s=agFo g.es t)))
theorem clB_eq {g:Gl} {role:Int} {s t:Nat} (hs:s<g.n.toNat) (ht:t<g.n.toNat) (h:clB g role s t=false):¬clP g role s t:=by
 unfold clP ClA;rw[range_at _ hs,range_at _ ht,range_at _ hs,range_at _ ht,range_at _ hs,range_at _ ht];rintro⟨h1,h2,h3⟩;have e1:=Yyp h1;have e2:=Yyp h2;unfold clB at h;rw[e1,e2,Bool.true_and,Bool.true_and,Bool.or_eq_false_iff] at h;rcases h3 with h3 | h3
 .have:=h.1;simp at this;exact h3 (by rw[this])
 .have:=h.2;simp at this;exact h3 (by rw[this])
def pairC (g:Gl) (role:Int) (PL:List Pr) (p:Pr):Bool:=
 decide (p.1<g.n.toNat)&&(decide (p.2<g.n.toNat)&&((movL g.es role p.1 p.2).all fun m=>decide (pto m∈PL)))
def cstC (g:Gl) (role:Int) (p:Pr):Bool:=
 match fcC g role p.1,fcC g role p.2 with
 | some a,some b=>(a.1.find? (difP b.1)).isNone&&(!clB g role p.1 p.2&&(arvF b.1 (arrS g role p.1)).isNone)
 | _,_=>false
def mixC (g:Gl) (role:Int) (s:Nat):Bool:=
 match fcC g role s with
 | some a=>!(sndAt a.1 0&&(a.2 || !sndAt a.1 (a.1.length-1)))
 | none=>false
def noneC (g:Gl) (role:Int) (PL:List Pr):Bool:=
 decide (p00 g∈PL)&&((PL.all fun p=>pairC g role PL p&&cstC g role p)&&((List.range g.n.toNat).all fun s=>mixC g role s))
theorem pairC_eq {g:Gl} {role:Int} {PL:List Pr} {p:Pr} (h:pairC g role PL p=true):p.1<g.n.toNat/\p.2<g.n.toNat/\∀m∈movL g.es role p.1 p.2,pto m∈PL:=by
 unfold pairC at h;rw[Yt,Yt,decide_eq_true_eq,decide_eq_true_eq,List.all_eq_true] at h;exact⟨h.1,h.2.1,fun m hm=>Yyn (h.2.2 m hm)⟩
theorem cstC_eq {g:Gl} (hV:ValidS g) {role:Int} {p:Pr} (h1:p.1<g.n.toNat) (h2:p.2<g.n.toNat) (h:cstC g role p=true):cstP g role 1 p=none/\cstP g role 3 p=none/\cstP g role 4 p=none:=by
 unfold cstC at h;split at h
 .rename_i a b ha hb;obtain⟨ea,_⟩:=fc_eq hV (by omega) ha;obtain⟨eb,_⟩:=fc_eq hV (by omega) hb;rw[Yt,Yt] at h;obtain⟨k1,k2,k3⟩:=h;rw[Option.isNone_iff_eq_none] at k1 k3;refine⟨?_,?_,?_⟩
  .unfold cstP;rw[if_pos rfl,if_pos ⟨h1,h2⟩,ea,eb,k1];rfl
  .unfold cstP;rw[if_neg (by decide),if_pos rfl,if_neg (clB_eq h1 h2 (by simpa using k2))]
  .unfold cstP;rw[if_neg (by decide),if_neg (by decide),if_pos ⟨h1,h2⟩,eb,k3];rfl
 .cases h
theorem mixC_eq {g:Gl} (hV:ValidS g) {role:Int} {s:Nat} (hs:s<g.n.toNat) (h:mixC g role s=true):¬mxP g role s:=by
 unfold mixC at h;split at h
 .rename_i a ha;obtain⟨e1,e2⟩:=fc_eq hV (by omega) ha;unfold mxP;rw[e1,e2];rintro⟨_,h9⟩;rw[h9] at h;cases h
 .cases h
theorem noneC_ok {g:Gl} (hV:ValidS g) {role:Int} {PL:List Pr} (h:noneC g role PL=true) {i:Nat} {W:WS} {n:Int} (hF:FindQ g role i W n):n=farI:=by
 unfold noneC at h;rw[Yt,Yt,decide_eq_true_eq,List.all_eq_true,List.all_eq_true] at h;obtain⟨h0,h1,h2⟩:=h;have hp:∀p∈PL,pairC g role PL p=true/\cstC g role p=true:=fun p hp=>by have:=h1 p hp;rwa [Yt] at this
 refine FindQ.none h0 (fun p hp' m hm=>(pairC_eq (hp p hp').1).2.2 m hm) (fun p hp'=>?_) (fun s hs=>mixC_eq hV hs (h2 s (List.mem_range.2 hs))) hF;have:=pairC_eq (hp p hp').1;exact cstC_eq hV this.1 this.2.1 (hp p hp').2
theorem ex_t0 (hr hd he ht:Sl):noneC (exGl true hr hd he ht) 0 [(0,0),(1,1),(2,2),(1,3),(3,1),(3,3),(2,4),(4,2),(4,4),(1,5),(5,1),(3,5),(5,3),(5,5),(2,5),(5,2),(4,5),(5,4)]=true:=by kernel_rfl
theorem ex_t1 (hr hd he ht:Sl):noneC (exGl true hr hd he ht) 1 [(0,0),(1,1),(2,2),(3,3),(4,4),(5,5)]=true:=by kernel_rfl
theorem ex_t2 (hr hd he ht:Sl):noneC (exGl true hr hd he ht) 2 [(0,0),(0,1),(1,0),(0,2),(2,0),(1,1),(1,2),(2,1),(2,2),(3,3),(4,4),(5,5)]=true:=by kernel_rfl
theorem ex_f0 (hr hd he ht:Sl):noneC (exGl false hr hd he ht) 0 [(0,0),(1,1),(2,2),(1,3),(3,1),(3,3),(2,3),(3,2)]=true:=by kernel_rfl
theorem ex_f1 (hr hd he ht:Sl):noneC (exGl false hr hd he ht) 1 [(0,0),(1,1),(2,2),(3,3)]=true:=by kernel_rfl
theorem FindQ.le {g:Gl} {role:Int} {i:Nat} {W:WS} {n:Int} (h:FindQ g role i W n):n<=farI:=by
 rcases h.len with ⟨h1,_⟩ | ⟨_,h1,_⟩<;>unfold farI at *<;>omega
theorem FindQ.drop {g:Gl} {role:Int} {i:Nat} {W:WS} {n:Int} (h:FindQ g role (i+1) W n) (hn:∀W' n',kindQ g role i W' n'->n'=farI):FindQ g role i W n:=by
 cases h with
 | take h1 hk hl=>
  have h2:=hn _ _ hk;have h3:=h1.le;omega
 | keep h1 _ _=>exact h1
def cst1C (g:Gl) (role:Int) (p:Pr):Option Bool:=
 match fcC g role p.1,fcC g role p.2 with
 | some a,some b=>some (a.1.find? (difP b.1)).isSome
 | _,_=>none
theorem cst1_eq {g:Gl} (hV:ValidS g) {role:Int} {p:Pr} (h1:p.1<g.n.toNat) (h2:p.2<g.n.toNat) {b:Bool} (h:cst1C g role p=some b):cstP g role 1 p=if b then some 0 else none:=by
 unfold cst1C at h;split at h
 .rename_i a c ha hb;obtain⟨ea,_⟩:=fc_eq hV (by omega) ha;obtain⟨eb,_⟩:=fc_eq hV (by omega) hb;cases h;unfold cstP;rw[if_pos rfl,if_pos ⟨h1,h2⟩,ea,eb]
 .cases h
def restC (g:Gl) (role:Int) (PL:List Pr):Bool:=
 decide (p00 g∈PL)&&((PL.all fun p=>pairC g role PL p&&(match fcC g role p.2 with | some b=>!clB g role p.1 p.2&&(arvF b.1 (arrS g role p.1)).isNone | none=>false))&&((List.range g.n.toNat).all fun s=>mixC g role s))
theorem restC_ok {g:Gl} (hV:ValidS g) {role:Int} {PL:List Pr} (h:restC g role PL=true) {W:WS} {n:Int} (hF:FindQ g role 4 W n):FindQ g role 1 W n:=by
 unfold restC at h;rw[Yt,Yt,decide_eq_true_eq,List.all_eq_true,List.all_eq_true] at h;obtain⟨h0,h1,h2⟩:=h;have hp:∀p∈PL,pairC g role PL p=true/\cstP g role 3 p=none/\cstP g role 4 p=none:=fun p hp=>by
  have h3:=h1 p hp;rw[Yt] at h3;obtain⟨k1,k2,_⟩:=pairC_eq h3.1;have h4:=h3.2;split at h4
  .rename_i b hb;obtain⟨eb,_⟩:=fc_eq hV (by omega) hb;rw[Yt,Option.isNone_iff_eq_none] at h4;refine⟨h3.1,?_,?_⟩
   .unfold cstP;rw[if_neg (by decide),if_pos rfl,if_neg (clB_eq k1 k2 (by simpa using h4.1))]
   .unfold cstP;rw[if_neg (by decide),if_neg (by decide),if_pos ⟨k1,k2⟩,eb,h4.2];rfl
  .cases h4
 have hcl:∀p∈PL,∀m∈movL g.es role p.1 p.2,pto m∈PL:=fun p hp' m hm=>(pairC_eq (hp p hp').1).2.2 m hm;refine ((hF.drop (i:=3) fun W' n' hk=>?_).drop (i:=2) fun W' n' hk=>?_).drop (i:=1) fun W' n' hk=>?_
 .exact BpQ.none h0 hcl (fun p hp'=>(hp p hp').2.2) hk
 .exact BpQ.none h0 hcl (fun p hp'=>(hp p hp').2.1) hk
 .exact MxQ.none (fun s hs=>mixC_eq hV hs (h2 s (List.mem_range.2 hs))) hk
theorem Lst.zero {mv:Pr->List Pmv} {cst:Pr->Option Nat} {p:Pr} (h:cst p=some 0):Lst mv cst p 0:=⟨.base h,fun k _=>Nat.zero_le k⟩
theorem Lst.zero_cst {mv:Pr->List Pmv} {cst:Pr->Option Nat} {p:Pr} (h:Lst mv cst p 0):cst p=some 0:=by
 have h1:=h.1;generalize e:(0:Nat)=z at h1;cases h1 with
 | base h=>rw[h,<-e]
 | @step _ m n _ _=>have:=plen_pos m;omega
theorem dL_zero {mv:Pr->List Pmv} {cst:Pr->Option Nat} {p:Pr} (h:dL mv cst p=0):cst p=some 0:=by
 by_cases h9:∃n,Lst mv cst p n
 .obtain⟨n,hn⟩:=h9;have h1:=dL_of hn;have:n=0:=by omega
  subst this;exact hn.zero_cst
 .have h1:=dL_no (mv:=mv) (cst:=cst) (p:=p) fun n hn=>h9 ⟨n,hn⟩;unfold farI at h1;omega
theorem sum_one {ms:List Pmv} (h:(ms.map plen).sum=1):∃m,ms=[m]:=by
 cases ms with
 | nil=>cases h
 | cons m r=>
  cases r with
  | nil=>exact⟨m,rfl⟩
  | cons m2 r=>
   have h1:=plen_pos m;have h2:=plen_pos m2;rw[Yyl,Yyl,List.sum_cons,List.sum_cons] at h;omega
theorem GTo.nil_inv {mv:Pr->List Pmv} {cst:Pr->Option Int} {D:Pr->Int} {p0 p:Pr} (h:GTo mv cst D p0 [] p):p=p0:=by
 generalize hms:([]:List Pmv)=ms at h;cases h with
 | nil=>rfl
 | snoc=>exact absurd hms (by simp)
theorem ex_mv (hr hd he ht:Sl):mvP (exGl false hr hd he ht) 2 (p00 (exGl false hr hd he ht))=[⟨0,-1,1,0⟩,⟨1,-1,2,0⟩,⟨-1,0,0,1⟩,⟨-1,1,0,2⟩]:=by kernel_rfl
theorem ex_c00 (hr hd he ht:Sl):cst1C (exGl false hr hd he ht) 2 (0,0)=some false:=by kernel_rfl
theorem ex_c10 (hr hd he ht:Sl):cst1C (exGl false hr hd he ht) 2 (1,0)=some false:=by kernel_rfl
theorem ex_c20 (hr hd he ht:Sl):cst1C (exGl false hr hd he ht) 2 (2,0)=some false:=by kernel_rfl
theorem ex_c01 (hr hd he ht:Sl):cst1C (exGl false hr hd he ht) 2 (0,1)=some true:=by kernel_rfl
theorem ex_f2 (hr hd he ht:Sl):restC (exGl false hr hd he ht) 2 [(0,0),(0,1),(1,0),(0,2),(2,0),(1,1),(1,2),(2,1),(2,2),(3,3)]=true:=by kernel_rfl
theorem ex_fc0 (hr hd he ht:Sl):fcC (exGl false hr hd he ht) 2 0=some ([⟨true,1,2⟩,⟨true,1,3⟩],false):=by kernel_rfl
theorem ex_fc1 (hr hd he ht:Sl):fcC (exGl false hr hd he ht) 2 1=some ([⟨true,1,2⟩],false):=by kernel_rfl
theorem ex_role2 {hr hd he ht:Sl} {W:WS} {n:Int} (hF:FindQ (exGl false hr hd he ht) 2 4 W n):n=1/\W.k=1/\W.F=[]/\W.S.length=1/\W.e.l=3:=by
 have hV:=ex_valid false hr hd he ht;have h1:=restC_ok hV (ex_f2 hr hd he ht) hF;generalize hg:exGl false hr hd he ht=g at *;have c00:cstQ g 2 1 (p00 g)=none:=by subst hg;show (cstP (exGl false hr hd he ht) 2 1 (0,0)).map Int.toNat=none;rw[cst1_eq hV (p:=(0,0)) (by show 0<4;decide) (by show 0<4;decide) (ex_c00 hr hd he ht)];rfl
 have c10:cstQ g 2 1 (1,0)=none:=by subst hg;show (cstP (exGl false hr hd he ht) 2 1 (1,0)).map Int.toNat=none;rw[cst1_eq hV (p:=(1,0)) (by show 1<4;decide) (by show 0<4;decide) (ex_c10 hr hd he ht)];rfl
 have c20:cstQ g 2 1 (2,0)=none:=by subst hg;show (cstP (exGl false hr hd he ht) 2 1 (2,0)).map Int.toNat=none;rw[cst1_eq hV (p:=(2,0)) (by show 2<4;decide) (by show 0<4;decide) (ex_c20 hr hd he ht)];rfl
 have c01:cstQ g 2 1 (0,1)=some 0:=by subst hg;show (cstP (exGl false hr hd he ht) 2 1 (0,1)).map Int.toNat=some 0;rw[cst1_eq hV (p:=(0,1)) (by show 0<4;decide) (by show 1<4;decide) (ex_c01 hr hd he ht)];rfl
 have hmv:mvP g 2 (p00 g)=[⟨0,-1,1,0⟩,⟨1,-1,2,0⟩,⟨-1,0,0,1⟩,⟨-1,1,0,2⟩]:=by subst hg;exact ex_mv hr hd he ht
 have hL:Lst (mvP g 2) (cstQ g 2 1) (p00 g) 1:=by
  refine⟨.step (m:=⟨-1,0,0,1⟩) (n:=0) (by rw[hmv];simp) (.base c01),fun k hk=>?_⟩;cases hk with
  | base h=>rw[c00] at h;cases h
  | @step _ m _ _ _=>have:=plen_pos m;omega
 have hd0:=dL_of hL;have hB:BpQ g 2 1 W n:=by
  cases h1 with
  | take h0 hk hl=>exact hk
  | @keep _ _ W' _ n' h0 hk hl=>
   cases h0;exfalso;apply hl;cases hk with
   | far hn=>exact absurd hL (hn 1)
   | hit hl' hn'=>unfold farI;omega
 cases hB with
 | far hn=>exact absurd hL (hn 1)
 | @hit n ms p hl hn hG hc=>
  have en:n=1:=hl.uniq hL;subst en;have hlen:=hG.len;have hp0:dL (mvP g 2) (cstQ g 2 1) p=0:=by
   unfold cstP at hc;rw[if_pos rfl] at hc;split at hc
   .split at hc
    .exact (Yyp hc).symm
    .cases hc
   .cases hc
  obtain⟨m,rfl⟩:=sum_one (ms:=ms) (by omega);have hm:m=⟨-1,0,0,1⟩/\p=(0,1):=by
   generalize hms:[m]=ms at hG;cases hG with
   | nil=>cases hms
   | @snoc ms1 p1 m1 k hg1 hne hix hk=>
    cases ms1 with
    | cons a b=>simp at hms
    | nil=>
     have e0:=hg1.nil_inv;subst e0
     .have e1:m=m1:=by simpa using hms
      subst e1;obtain⟨k1,k2,k3⟩:=List.findIdx?_eq_some_iff_getElem.1 hix;rw[(Ya.1 hk).2] at k2;have hz:=dL_zero hp0;rw[hmv] at hk
      match k,hk with
      | 0,hk=>cases hk;rw[show pto (⟨0,-1,1,0⟩:Pmv)=(1,0) from rfl,c10] at hz;cases hz
      | 1,hk=>cases hk;rw[show pto (⟨1,-1,2,0⟩:Pmv)=(2,0) from rfl,c20] at hz;cases hz
      | 2,hk=>cases hk;exact⟨rfl,rfl⟩
      | 3,hk=>
       exfalso;have h9:=k3 2 (by decide);simp only[hmv] at h9;apply h9;unfold okM;refine decide_eq_true ?_;have e2:=dL_of (Lst.zero (mv:=mvP g 2) c01);show (plen (⟨-1,0,0,1⟩:Pmv):Int)+dL (mvP g 2) (cstQ g 2 1) (0,1)=_;rw[e2,hd0];rfl
      | k+4,hk=>simp at hk
  obtain⟨rfl,rfl⟩:=hm;refine⟨rfl,rfl,?_,?_,?_⟩
  .unfold exP;rw[if_pos rfl];rfl
  .rfl
  .subst hg;unfold exP;rw[if_pos rfl,(fc_eq hV (s:=0) (by show (0:Int)<4;decide) (ex_fc0 hr hd he ht)).1,(fc_eq hV (s:=1) (by show (1:Int)<4;decide) (ex_fc1 hr hd he ht)).1];rfl
end Go.VC
end

section
namespace Go.VC
open Go.Proofs
/- farandole/realize.Role -/
/- farandole/farandoleref23.Length -/
/- farandole/farandolelaw23.awake -/
def W12  (h:Heap) (R:Value->Heap->Prop):Prop:=
 (Fn Pz 38 #[.bool false] h 
 (fun v1 h10=>∃x2:ByteArray,∃x3:Sl,∃x4:Sl,∃x5:Int,∃x6:Int,∃x7:Int,∃x8:Sl,∃x9:Sl,v1=.agg ⟨[.string x2,vS x3,vS x4,vI x5,vI x6,vI x7,vS x8,vS x9]⟩ /\ 
 (Fn Pz 14 #[.agg ⟨[.string x2,vS x3,vS x4,vI x5,vI x6,vI x7,vS x8,vS x9]⟩] h10 
 (fun v11 h27=>∃x12:Int,∃x13:Int,∃x14:Sl,∃x15:Sl,∃x16:Int,∃x17:Bool,∃x18:Int,∃x19:Int,∃x20:Sl,∃x21:Int,∃x22:Bool,∃x23:Int,∃x24:Int,∃x25:Sl,∃x26:Int,v11=.tuple ⟨[.agg ⟨[vI x12,vI x13,vS x14,vS x15,vI x16,.bool x17,vI x18,vI x19,vS x20,vI x21,.bool x22,vI x23,vI x24,vS x25]⟩,vI x26]⟩ /\ 
 (Wn h27 [vI 0,vI 0,.slice none 0 0,.slice none 0 0,vI 0,.bool false,vI 0,vI 0,.slice none 0 0,vI 0,.bool false,vI 0,vI 0,.slice none 0 0] 35 fun h28=>
 (Wp h28 (aS h27 0) 14 [vI x12,vI x13,vS x14,vS x15,vI x16,.bool x17,vI x18,vI x19,vS x20,vI x21,.bool x22,vI x23,vI x24,vS x25] fun h29=>
 (Fn Pz 38 #[.bool true] h29 
 (fun v30 h39=>∃x31:ByteArray,∃x32:Sl,∃x33:Sl,∃x34:Int,∃x35:Int,∃x36:Int,∃x37:Sl,∃x38:Sl,v30=.agg ⟨[.string x31,vS x32,vS x33,vI x34,vI x35,vI x36,vS x37,vS x38]⟩ /\ 
 (Fn Pz 14 #[.agg ⟨[.string x31,vS x32,vS x33,vI x34,vI x35,vI x36,vS x37,vS x38]⟩] h39 
 (fun v40 h56=>∃x41:Int,∃x42:Int,∃x43:Sl,∃x44:Sl,∃x45:Int,∃x46:Bool,∃x47:Int,∃x48:Int,∃x49:Sl,∃x50:Int,∃x51:Bool,∃x52:Int,∃x53:Int,∃x54:Sl,∃x55:Int,v40=.tuple ⟨[.agg ⟨[vI x41,vI x42,vS x43,vS x44,vI x45,.bool x46,vI x47,vI x48,vS x49,vI x50,.bool x51,vI x52,vI x53,vS x54]⟩,vI x55]⟩ /\ 
 (Wn h56 [vI 0,vI 0,.slice none 0 0,.slice none 0 0,vI 0,.bool false,vI 0,vI 0,.slice none 0 0,vI 0,.bool false,vI 0,vI 0,.slice none 0 0] 35 fun h57=>
 (Wp h57 (aS h56 0) 14 [vI x41,vI x42,vS x43,vS x44,vI x45,.bool x46,vI x47,vI x48,vS x49,vI x50,.bool x51,vI x52,vI x53,vS x54] fun h58=>
 (sB (x26==18) 
 ((sB (x55==0) 
 ((∃x59,rI h58 (aS h27 0) x59 /\ 
 (sB (x59==1) 
 ((∃x60,rI h58 (aS h27 1) x60 /\ 
 (sB (x60==2) 
 ((∃x61,rS h58 (aS h27 2) x61 /\ 
 (sB ((x61.n:Int)==0) 
 ((∃x62,rS h58 (aS h27 3) x62 /\ 
 (sB ((x62.n:Int)==1) 
 ((∃x63,rI h58 (aS h27 (4+3)) x63 /\ 
 (sB (x63==3) 
 ((∃x64,rI h58 (aS h56 0) x64 /\ 
 R (.bool (x64==0)) h58)) 
 (R (.bool false) h58)))) 
 (R (.bool false) h58)))) 
 (R (.bool false) h58)))) 
 (R (.bool false) h58)))) 
 (R (.bool false) h58)))) 
 (R (.bool false) h58))) 
 (R (.bool false) h58))))))))))))))
theorem vc12e  (h:Heap) (R:Value->Heap->Prop):W12  h R=fnW Pz 12 .z #[] h R:=by kernel_rfl
theorem vc12  (h:Heap) (R:Value->Heap->Prop) (H:W12  h R):Fn Pz 12 #[] h R:=fnI (vc12e  h R) H
/- farandole/farandolelaw23.RealizeTwo -/
/- farandole/farandolelaw23.RealizeAll
   loop rrrrrlrb: found_66:Bool, x_67:Int -/
/- farandole/farandoleref22.SameWord
   loop rrlrb: i_4:Int -/
end Go.VC
end

section
namespace Go.VC
open Go.Proofs Go.LexS
def Wt.len (w:Wt):Int:=if w.k=2 then 2*(w.f.n:Int) else (w.f.n:Int)+(w.s.n:Int)
theorem wout_len {h h':Heap} {W:WS} {w:Wt} {L:List It} (hs:St h h' (.sl w.f 65 3 (W.F.map Ac.cs) :: .sl w.s 65 3 (W.S.map Ac.cs)::L)) (hk:w.k=W.k):w.len=(W.len:Int)/\w.f.n=W.F.length/\w.s.n=W.S.length:=by
 have h1:=(hs.len 0 (s:=w.f) rfl (by decide)).1;have h2:=(hs.len 1 (s:=w.s) rfl (by decide)).1;rw[Yc] at h1 h2;refine⟨?_,h1,h2⟩;unfold Wt.len WS.len;rw[hk];split<;>omega
theorem ex_chk_false {hr hd he ht:Sl} {h h':Heap} {v:Value} (hc:ChkR (exGl false hr hd he ht) h h' v):∃W,WOut h h' W 18 v/\W.k=1/\W.r=2/\W.F=[]/\W.S.length=1/\W.e.l=3:=by
 have hV:=ex_valid false hr hd he ht;have h0:∀ {W n},FindP (exGl false hr hd he ht) ((0:Nat):Int) W n->n=farI:=fun h=>noneC_ok hV (role:=0) (ex_f0 hr hd he ht) (h.q hV);have h1:∀ {W n},FindP (exGl false hr hd he ht) ((1:Nat):Int) W n->n=farI:=fun h=>noneC_ok hV (role:=1) (ex_f1 hr hd he ht) (h.q hV);cases hc with
 | bad hV'=>exact absurd hV hV'
 | ok _ hC _=>
  obtain⟨W',n',hF,hn⟩:=hC.all 2 (by show 2<3;decide);have:=(ex_role2 (hF.q hV)).1;unfold farI at hn;omega
 | @err v W n _ hC hn hw=>
  rcases hC.best hV with ⟨h9,_⟩ | ⟨_,⟨i,hi,hF⟩,_⟩
  .exact absurd h9 hn
  .have hi3:i<3:=hi;have hi9:i=0\/i=1\/i=2:=by omega
   rcases hi9 with rfl | rfl | rfl
   .exact absurd (h0 hF) hn
   .exact absurd (h1 hF) hn
   .obtain⟨_,k1,k2,k3,k4⟩:=ex_role2 (hF.q hV);rcases hF.len hV with ⟨h9,_⟩ | ⟨_,_,_,_,h9⟩
    .exact absurd h9 hn
    .exact⟨W,hw,k1,h9,k2,k3,k4⟩
theorem ex_chk_true {hr hd he ht:Sl} {h h':Heap} {v:Value} (hc:ChkR (exGl true hr hd he ht) h h' v):v=.tuple ⟨[.agg ⟨wt0.cs⟩,.int .i64 0]⟩/\Ext h h':=by
 have hV:=ex_valid true hr hd he ht;have hn:∀ {i:Nat} {W n},i<3->FindP (exGl true hr hd he ht) (i:Int) W n->n=farI:=fun {i W n} hi hF=>by
  have hi9:i=0\/i=1\/i=2:=by omega
  rcases hi9 with rfl | rfl | rfl
  .exact noneC_ok hV (role:=0) (ex_t0 hr hd he ht) (hF.q hV)
  .exact noneC_ok hV (role:=1) (ex_t1 hr hd he ht) (hF.q hV)
  .exact noneC_ok hV (role:=2) (ex_t2 hr hd he ht) (hF.q hV)
 cases hc with
 | bad hV'=>exact absurd hV hV'
 | ok _ _ E=>exact⟨rfl,E⟩
 | err _ hC h9 _=>
  rcases hC.best hV with ⟨h8,_⟩ | ⟨_,⟨i,hi,hF⟩,_⟩
  .exact absurd h8 h9
  .exact absurd (hn hi hF) h9
theorem awake12 (h:Heap) (hx:Gm h):Fn Pz 12 #[] h fun v h'=>v=.bool true/\Ext h h':=by
 apply vc12;unfold W12;refine (example34 false h).mono ?_;rintro _ h10 ⟨E1,hr,hd,he,rfl,hg⟩;refine⟨_,_,_,_,_,_,_,_,rfl,?_⟩;refine (check33 _ h10 hg (hx.ext E1)).mono ?_;intro v h27 hc;obtain⟨W,⟨w,e1,e2,e3,e4,rfl,L,hs'⟩,k1,k2,k3,k4,k5⟩:=ex_chk_false hc;obtain⟨_,l1,l2⟩:=wout_len hs' e1;refine⟨w.k,w.r,w.f,w.s,w.e.r,w.e.s,w.e.p,w.e.l,nilS,w.o.r,w.o.s,w.o.p,w.o.l,nilS,18,rfl,?_⟩;have hs:=((St.refl h).step E1).join hs';refine hs.newput (vs:=w.cs) rfl rfl fun h29 hs=>?_;refine (example34 true h29).mono ?_;rintro _ h39 ⟨E2,hr',hd',he',rfl,hg'⟩;replace hs:=hs.step E2;refine⟨_,_,_,_,_,_,_,_,rfl,?_⟩;refine (check33 _ h39 hg' (hx.ext hs.ext)).mono ?_;intro v h56 hc;obtain⟨rfl,E3⟩:=ex_chk_true hc;replace hs:=hs.step E3;refine⟨0,0,nilS,nilS,0,false,0,0,nilS,0,false,0,0,nilS,0,rfl,?_⟩;refine hs.newput (vs:=wt0.cs) rfl rfl fun h58 hs=>?_;refine sB_t rfl (sB_t rfl ?_);refine⟨w.k,hs.rd 1 rfl (i:=0) rfl,sBe (fun _=>?_) (fun c=>absurd (by rw[e1,k1]) c)⟩;refine⟨w.r,hs.rd 1 rfl (i:=1) rfl,sBe (fun _=>?_) (fun c=>absurd (by rw[e2,k2]) c)⟩;refine⟨w.f,hs.rd 1 rfl (i:=2) rfl,sBe (fun _=>?_) (fun c=>absurd (by rw[l1,k3];rfl) c)⟩;refine⟨w.s,hs.rd 1 rfl (i:=3) rfl,sBe (fun _=>?_) (fun c=>absurd (by rw[l2,k4];rfl) c)⟩;refine⟨w.e.l,hs.rd 1 rfl (i:=7) rfl,sBe (fun _=>?_) (fun c=>absurd (by rw[e3,k5]) c)⟩;exact⟨0,hs.rd 0 rfl (i:=0) rfl,rfl,hs.ext⟩
theorem app49:appB Pz 49 52 2 16=true:=by kernel_rfl
def prMs (p:Pr):Ms:=⟨(p.1:Nat),(p.2:Nat)⟩
structure PrsL (g:Gl) (role:Int) (P:List Ms):Prop where
 so:P.Pairwise msLt
 mem:∀x,x∈P ↔ ∃p:Pr,x=prMs p/\Prr g role p
 ln:P.length<=40000
theorem PrsL.has {g:Gl} {role:Int} {P:List Ms} (h:PrsL g role P) {s t:Int} (hs:0<=s) (ht:0<=t):(⟨s,t⟩:Ms)∈P ↔ Prr g role (s.toNat,t.toNat):=by
 rw[h.mem];constructor
 .rintro⟨p,e,hp⟩;unfold prMs at e;obtain⟨e1,e2⟩:=Ms.mk.inj e;have:p=(s.toNat,t.toNat):=Prod.ext (by simp only;omega) (by simp only;omega)
  rwa [<-this]
 .intro hp;exact⟨_,by unfold prMs;simp only;rw[Int.toNat_of_nonneg hs,Int.toNat_of_nonneg ht],hp⟩
inductive PsR (g:Gl) (role:Int) (h h':Heap):Value->Prop
 | bad (hno:¬(ValidS g/\0<=role/\role<g.rs.length)) (E:Ext h h'):PsR g role h h' (.tuple ⟨[.slice none 0 0,.int .i64 1]⟩)
 | ok {r:Sl} {P:List Ms} {L:List It} (hV:ValidS g) (hr:0<=role/\role<g.rs.length) (hs:St h h' (.sl r 52 2 (P.map Ms.cs)::L)) (hP:PrsL g role P):PsR g role h h' (.tuple ⟨[.slice r.a r.n r.c,.int .i64 0]⟩)
theorem pairs22 (g:Gl) (role:Int) (h:Heap) (hg:GI h g) (hx:Gm h):Fn Pz 22 #[g.v,.int .i64 role] h fun v h'=>PsR g role h h' v:=by
 apply vc22 (bs g.nm) g.hr g.hd g.n g.s g.e g.he g.ht role;unfold W22;refine (St.refl h).newb fun h9 hs=>?_;refine⟨_,_,_,_,_,_,_,_,hs.at 0 rfl (o:=0) (n:=8) rfl,?_⟩;refine (analyse117 g role h9 (hg.ext hs.ext) (hx.ext hs.ext)).mono ?_;rintro _ h21 (⟨hno,rfl,E⟩ | ⟨hgd,ab,ho,hfi,hli,hag,how,har,OU,FI,LI,AG,OW,rfl,hsA,hSp⟩)
 .exact⟨none,1,rfl,sBn (fun _=>.bad hno (hs.step E).ext) (fun c=>absurd c (by decide))⟩
 obtain⟨hV,hr⟩:=hgd;refine⟨some ⟨ab,0,none⟩,0,rfl,sBn (fun c=>absurd rfl c) (fun _=>?_)⟩;have hG:=anA_G (R:=[]) (by rw[Yw];exact hsA) (hg.ext hs.ext) hSp.1;replace hs:=hs.step hsA.ext;refine (reached119 ab g role ho _ h21 hG hV).mono ?_;rintro _ h25 ⟨E25,all,mb,A,l,rfl,hM⟩;refine⟨all,some mb,rfl,?_⟩;have hN:=hV.num.n;have hAl:A.length<=g.n.toNat*g.n.toNat:=grid_le hM.nd fun p hp=>by have:=((hM.pr p).1 hp).lt hV;exact⟨by omega,by omega⟩
 have hnn:g.n.toNat*g.n.toNat<=200*200:=Nat.mul_le_mul (by omega) (by omega);have hra:=hM.ra;have hran:=hra.ln;have hs0:St h h25 []:=((hs.step E25).drop 1);have hs1:=(St.refl h25).nil_ 52 2;refine up_loopA (n:=all.n) hs1 (fun i rows=>rows=((A.take i).map prMs).map Ms.cs) rfl ?_;clear hs1;rintro-i out h31 rows hi hs rfl;have hocap:=hs.len 0 (s:=out) (e:=52) (n:=2) rfl (by omega);rw[Yc,Yc,Yu] at hocap;refine sBi (fun c=>?_) (fun c=>?_)
 .refine (hra.rw.ext hs.ext).nbI (by omega) (by omega) fun b o p gp t=>?_;replace gp:A[i]?=some p:=gp;refine⟨_,_,t,?_⟩;refine hs.newput (vs:=pC p) rfl rfl fun h37 hs=>?_;refine⟨_,hs.rd 0 rfl (i:=0) rfl,_,hs.rd 0 rfl (i:=1) rfl,?_⟩;refine hs.app 1 rfl app49 (m:=1) [(prMs p).cs] rfl rfl (fun r hr=>by rw[Ye] at hr;rw[hr];rfl) rfl (by omega) (by simp only[maxLen];omega) fun r h42 ns hs=>?_;refine UpA.next (by omega) (by omega) ⟨_,hs.drop 1,?_⟩;rw[take_snoc gp,Ym,Ym];rfl
 .have hin:i=A.length:=by omega
  subst hin;rw[Yye] at hs;refine (sort51 hs 0 rfl (by rw[Yc];omega)).mono ?_;rintro _ h45 ⟨rfl,P,hp,hw,hs⟩;refine⟨rfl,.ok hV hr (hs0.join hs) ⟨?_,fun x=>?_,?_⟩⟩
  .have hnd:P.Nodup:=hp.nodup_iff.2 (List.Pairwise.map prMs (fun a b hne e=>hne (by
    unfold prMs at e;obtain⟨e1,e2⟩:=Ms.mk.inj e;exact Prod.ext (by omega) (by omega))) hM.nd)
   refine (hw.and hnd).imp fun {a b} ⟨h1,h2⟩=>?_;have:a.p≠b.p\/a.l≠b.l:=by
    by_cases e:a.p=b.p
    .exact .inr fun e2=>h2 (by cases a;cases b;simp only at e e2;rw[e,e2])
    .exact .inl e
   unfold msLt at h1 ⊢;omega
  .rw[hp.mem_iff,Yp];exact⟨fun ⟨p,h1,h2⟩=>⟨p,h2.symm,(hM.pr p).1 h1⟩,fun ⟨p,h1,h2⟩=>⟨p,(hM.pr p).2 h2,h1.symm⟩⟩
  .rw[hp.length_eq,Yc];omega
theorem hasP23 (a b:Int) (c0:Addr) (r:Sl) (P:List Ms) (h:Heap) (hc0:hc h c0=some (.slice r.a r.n r.c)) (hr:Rw h 2 r (P.map Ms.cs)) (hl:P.length<=1048576):Fn Pz 23 #[.int .i64 a,.int .i64 b,.pointer (some c0)] h fun v h'=>v=.bool (decide ((⟨a,b⟩:Ms)∈P))/\Ext h h':=by
 apply vc23;unfold W23;have hn:=hr.ln;refine⟨r,hc0,?_⟩;refine⟨fun x h' μ=>h'=h/\∃i:Nat,x=(i:Int)/\r.n-i=μ/\i<=r.n/\(⟨a,b⟩:Ms)∉P.take i,⟨_,rfl,0,rfl,rfl,Nat.zero_le _,by rw[Yyk];exact List.not_mem_nil⟩,?_⟩;rintro-_ _ μ ⟨rfl,i,rfl,rfl,hi,hno⟩;refine sBi (fun c=>?_) (fun c=>?_)
 .refine⟨r,hc0,?_⟩;refine hr.nbI (by omega) (by omega) fun b8 o9 p gp t=>?_;replace gp:P[i]?=some p:=gp;refine⟨_,_,t,sB_intro (fun c2=>?_) (fun c2=>?_)⟩
  .have hp:p=⟨a,b⟩:=by
    simp only[Bool.and_true,Yt,beq_iff_eq] at c2;cases p;simp only at c2;rw[c2.1,c2.2]
   exact⟨by rw[decide_eq_true (by rw[<-hp];exact Yb gp)],.rfl'⟩
  .have hp:p≠⟨a,b⟩:=fun e=>by
    rw[e] at c2;simp at c2
   refine⟨r.n-(i+1),by omega,rfl,i+1,by rw[w64 (by omega) (by omega)];omega,rfl,by omega,?_⟩;rw[take_snoc gp,Yk,Ye];exact fun h9=>h9.elim hno fun e=>hp e.symm
 .rw[Yj (by omega)] at hno;exact⟨by rw[decide_eq_false hno],.rfl'⟩
theorem small21 (g:Gl) (role:Int) (h:Heap) (hg:GI h g) (hM:GNm g.ds):Fn Pz 21 #[g.v,.int .i64 role] h (RP ((FewS g/\g.n<=25)/\ValidS g/\0<=role/\role<g.rs.length) h):=by
 apply vc21 (bs g.nm) g.hr g.hd g.n g.s g.e g.he g.ht;unfold W21;refine (St.refl h).newb fun h9 hs=>?_;refine⟨_,_,_,_,_,_,_,_,hs.at 0 rfl (o:=0) (n:=8) rfl,?_⟩;refine (few11 g h9 (hg.ext hs.ext)).mono ?_;rintro _ h20 ⟨rfl,E⟩;have hs:=hs.step E;refine⟨_,rfl,sB_intro (fun c1=>?_) (fun c1=>RP.f (fun hG=>absurd (decide_eq_true hG.1) (by rw[c1];decide)) hs.ext)⟩;have c1:=Yyn c1;refine⟨_,_,_,_,_,_,_,_,hs.at 0 rfl (o:=0) (n:=8) rfl,?_⟩;refine (good49 g role h20 (hg.ext hs.ext) hM).mono ?_;rintro _ h31 ⟨⟨b,rfl,hb⟩,E⟩;exact⟨_,rfl,⟨_,rfl,hb.trans ⟨fun h9=>⟨c1,h9⟩,fun h9=>h9.2⟩⟩,(hs.step E).ext⟩
end Go.VC
end

section
namespace Go.VC
open Go.Proofs
/- farandole/farandolelaw23.RealizePairs
   loop rrrrrrlrb: x_47:Int -/
def W6 (p0_1:ByteArray) (p0_2:Sl) (p0_3:Sl) (p0_4:Int) (p0_5:Int) (p0_6:Int) (p0_7:Sl) (p0_8:Sl) (p1:Int) (p2_9:Sl) (p2_10:Sl) (h:Heap) (R:Value->Heap->Prop):Prop:=
 (Wn h [.string p0_1,vS p0_2,vS p0_3,vI p0_4,vI p0_5,vI p0_6,vS p0_7,vS p0_8] 27 fun h11=>
 (Wn h11 [vS p2_9,vS p2_10] 47 fun h12=>
 (Fn Pz 12 #[] h12 
 (fun v13 h15=>∃x14,iB v13 x14 /\ 
 (sB (!x14) 
 (R (.bool false) h15) 
 ((∃x16:ByteArray,∃x17:Sl,∃x18:Sl,∃x19:Int,∃x20:Int,∃x21:Int,∃x22:Sl,∃x23:Sl,atC h15 (aS h 0) [.string x16,vS x17,vS x18,vI x19,vI x20,vI x21,vS x22,vS x23] /\ 
 (Fn Pz 21 #[.agg ⟨[.string x16,vS x17,vS x18,vI x19,vI x20,vI x21,vS x22,vS x23]⟩,vI p1] h15 
 (fun v24 h26=>∃x25,iB v24 x25 /\ 
 (sB (!x25) 
 (R (.bool true) h26) 
 ((Ib 0 2 /\ 
 (∃x27,rS h26 (aS h11 (0+Int.toNat 0*1)) x27 /\ 
 (sB (decide ((x27.n:Int)>30)) 
 (R (.bool true) h26) 
 ((Ib 1 2 /\ 
 (∃x28,rS h26 (aS h11 (0+Int.toNat 1*1)) x28 /\ 
 (sB (decide ((x28.n:Int)>30)) 
 (R (.bool true) h26) 
 ((∃x29:ByteArray,∃x30:Sl,∃x31:Sl,∃x32:Int,∃x33:Int,∃x34:Int,∃x35:Sl,∃x36:Sl,atC h26 (aS h 0) [.string x29,vS x30,vS x31,vI x32,vI x33,vI x34,vS x35,vS x36] /\ 
 (Fn Pz 22 #[.agg ⟨[.string x29,vS x30,vS x31,vI x32,vI x33,vI x34,vS x35,vS x36]⟩,vI p1] h26 
 (fun v37 h40=>∃x38:Sl,∃x39:Int,v37=.tuple ⟨[vS x38,vI x39]⟩ /\ 
 (Wn h40 [.slice none 0 0] 49 fun h41=>
 (Wp h41 (aS h40 0) 1 [vS x38] fun h42=>
 (sB (x39 != 0) 
 (R (.bool false) h42) 
 ((∃x43,rS h42 (aS h40 0) x43 /\ 
 (QI 0 h42 fun I44 x_47 h48 m46=>(
 (sB (decide (x_47<(x43.n:Int))) 
 ((sB (decide (x_47>0)) 
 ((∃x49,rS h48 (aS h40 0) x49 /\ 
 (NB x49.a fun b50 o51=>(Ib x_47 x49.n /\ 
 (Ib 0 2 /\ 
 (∃x52,rI h48 ⟨b50,o51+Int.toNat x_47*2+Int.toNat 0*1,none⟩ x52 /\ 
 (∃x53,rS h48 (aS h40 0) x53 /\ 
 (NB x53.a fun b54 o55=>((0<=((IntKind.wrap .i64 (x_47-1)):Int)/\((IntKind.wrap .i64 (x_47-1)):Int)<(x53.n:Nat)) /\ 
 (Ib 0 2 /\ 
 (∃x56,rI h48 ⟨b54,o55+Int.toNat (IntKind.wrap .i64 (x_47-1))*2+Int.toNat 0*1,none⟩ x56 /\ 
 (sB (decide (x52<x56)) 
 (R (.bool false) h48) 
 ((∃x57,rS h48 (aS h40 0) x57 /\ 
 (NB x57.a fun b58 o59=>(Ib x_47 x57.n /\ 
 (Ib 0 2 /\ 
 (∃x60,rI h48 ⟨b58,o59+Int.toNat x_47*2+Int.toNat 0*1,none⟩ x60 /\ 
 (∃x61,rS h48 (aS h40 0) x61 /\ 
 (NB x61.a fun b62 o63=>((0<=((IntKind.wrap .i64 (x_47-1)):Int)/\((IntKind.wrap .i64 (x_47-1)):Int)<(x61.n:Nat)) /\ 
 (Ib 0 2 /\ 
 (∃x64,rI h48 ⟨b62,o63+Int.toNat (IntKind.wrap .i64 (x_47-1))*2+Int.toNat 0*1,none⟩ x64 /\ 
 (sB (x60==x64) 
 ((∃x65,rS h48 (aS h40 0) x65 /\ 
 (NB x65.a fun b66 o67=>(Ib x_47 x65.n /\ 
 (Ib 1 2 /\ 
 (∃x68,rI h48 ⟨b66,o67+Int.toNat x_47*2+Int.toNat 1*1,none⟩ x68 /\ 
 (∃x69,rS h48 (aS h40 0) x69 /\ 
 (NB x69.a fun b70 o71=>((0<=((IntKind.wrap .i64 (x_47-1)):Int)/\((IntKind.wrap .i64 (x_47-1)):Int)<(x69.n:Nat)) /\ 
 (Ib 1 2 /\ 
 (∃x72,rI h48 ⟨b70,o71+Int.toNat (IntKind.wrap .i64 (x_47-1))*2+Int.toNat 1*1,none⟩ x72 /\ 
 (sB (decide (x68<=x72)) 
 (R (.bool false) h48) 
 ((∃x73,rS h48 (aS h40 0) x73 /\ 
 (NB x73.a fun b74 o75=>(Ib x_47 x73.n /\ 
 (Ib 1 2 /\ 
 (∃x76,rI h48 ⟨b74,o75+Int.toNat x_47*2+Int.toNat 1*1,none⟩ x76 /\ 
 (∃x77,rS h48 (aS h40 0) x77 /\ 
 (NB x77.a fun b78 o79=>(Ib x_47 x77.n /\ 
 (Ib 0 2 /\ 
 (∃x80,rI h48 ⟨b78,o79+Int.toNat x_47*2+Int.toNat 0*1,none⟩ x80 /\ 
 (Fn Pz 23 #[vI x76,vI x80,.pointer (some (aS h40 0))] h48 
 (fun v81 h83=>∃x82,iB v81 x82 /\ 
 (Sm [⟨b70,o71+Int.toNat (IntKind.wrap .i64 (x_47-1))*2+Int.toNat 1*1,none⟩,(aS h40 0),⟨b66,o67+Int.toNat x_47*2+Int.toNat 1*1,none⟩,(aS h40 0),⟨b62,o63+Int.toNat (IntKind.wrap .i64 (x_47-1))*2+Int.toNat 0*1,none⟩,(aS h40 0),⟨b58,o59+Int.toNat x_47*2+Int.toNat 0*1,none⟩,(aS h40 0),⟨b54,o55+Int.toNat (IntKind.wrap .i64 (x_47-1))*2+Int.toNat 0*1,none⟩,(aS h40 0),⟨b50,o51+Int.toNat x_47*2+Int.toNat 0*1,none⟩,(aS h40 0)] h48 h83 /\ 
 (sB (!x82) 
 (R (.bool false) h83) 
 ((∃x84,rS h83 (aS h40 0) x84 /\ 
 (NB x84.a fun b85 o86=>(Ib x_47 x84.n /\ 
 (Ib 0 2 /\ 
 (∃x87,rI h83 ⟨b85,o86+Int.toNat x_47*2+Int.toNat 0*1,none⟩ x87 /\ 
 (∃x88,rS h83 (aS h40 0) x88 /\ 
 (NB x88.a fun b89 o90=>(Ib x_47 x88.n /\ 
 (Ib 0 2 /\ 
 (∃x91,rI h83 ⟨b89,o90+Int.toNat x_47*2+Int.toNat 0*1,none⟩ x91 /\ 
 (Fn Pz 23 #[vI x87,vI x91,.pointer (some (aS h40 0))] h83 
 (fun v92 h94=>∃x93,iB v92 x93 /\ 
 (Sm [⟨b78,o79+Int.toNat x_47*2+Int.toNat 0*1,none⟩,(aS h40 0),⟨b74,o75+Int.toNat x_47*2+Int.toNat 1*1,none⟩,(aS h40 0),⟨b70,o71+Int.toNat (IntKind.wrap .i64 (x_47-1))*2+Int.toNat 1*1,none⟩,(aS h40 0),⟨b66,o67+Int.toNat x_47*2+Int.toNat 1*1,none⟩,(aS h40 0),⟨b62,o63+Int.toNat (IntKind.wrap .i64 (x_47-1))*2+Int.toNat 0*1,none⟩,(aS h40 0),⟨b58,o59+Int.toNat x_47*2+Int.toNat 0*1,none⟩,(aS h40 0),⟨b54,o55+Int.toNat (IntKind.wrap .i64 (x_47-1))*2+Int.toNat 0*1,none⟩,(aS h40 0),⟨b50,o51+Int.toNat x_47*2+Int.toNat 0*1,none⟩,(aS h40 0)] h83 h94 /\ 
 (sB (!x93) 
 (R (.bool false) h94) 
 ((∃m95,m95<m46/\I44 (IntKind.wrap .i64 (x_47+1)) h94 m95)))))))))))))))))))))))))))))))))))))))))))) 
 ((∃x96,rS h48 (aS h40 0) x96 /\ 
 (NB x96.a fun b97 o98=>(Ib x_47 x96.n /\ 
 (Ib 1 2 /\ 
 (∃x99,rI h48 ⟨b97,o98+Int.toNat x_47*2+Int.toNat 1*1,none⟩ x99 /\ 
 (∃x100,rS h48 (aS h40 0) x100 /\ 
 (NB x100.a fun b101 o102=>(Ib x_47 x100.n /\ 
 (Ib 0 2 /\ 
 (∃x103,rI h48 ⟨b101,o102+Int.toNat x_47*2+Int.toNat 0*1,none⟩ x103 /\ 
 (Fn Pz 23 #[vI x99,vI x103,.pointer (some (aS h40 0))] h48 
 (fun v104 h106=>∃x105,iB v104 x105 /\ 
 (Sm [⟨b62,o63+Int.toNat (IntKind.wrap .i64 (x_47-1))*2+Int.toNat 0*1,none⟩,(aS h40 0),⟨b58,o59+Int.toNat x_47*2+Int.toNat 0*1,none⟩,(aS h40 0),⟨b54,o55+Int.toNat (IntKind.wrap .i64 (x_47-1))*2+Int.toNat 0*1,none⟩,(aS h40 0),⟨b50,o51+Int.toNat x_47*2+Int.toNat 0*1,none⟩,(aS h40 0)] h48 h106 /\ 
 (sB (!x105) 
 (R (.bool false) h106) 
 ((∃x107,rS h106 (aS h40 0) x107 /\ 
 (NB x107.a fun b108 o109=>(Ib x_47 x107.n /\ 
 (Ib 0 2 /\ 
 (∃x110,rI h106 ⟨b108,o109+Int.toNat x_47*2+Int.toNat 0*1,none⟩ x110 /\ 
 (∃x111,rS h106 (aS h40 0) x111 /\ 
 (NB x111.a fun b112 o113=>(Ib x_47 x111.n /\ 
 (Ib 0 2 /\ 
 (∃x114,rI h106 ⟨b112,o113+Int.toNat x_47*2+Int.toNat 0*1,none⟩ x114 /\ 
 (Fn Pz 23 #[vI x110,vI x114,.pointer (some (aS h40 0))] h106 
 (fun v115 h117=>∃x116,iB v115 x116 /\ 
 (Sm [⟨b101,o102+Int.toNat x_47*2+Int.toNat 0*1,none⟩,(aS h40 0),⟨b97,o98+Int.toNat x_47*2+Int.toNat 1*1,none⟩,(aS h40 0),⟨b62,o63+Int.toNat (IntKind.wrap .i64 (x_47-1))*2+Int.toNat 0*1,none⟩,(aS h40 0),⟨b58,o59+Int.toNat x_47*2+Int.toNat 0*1,none⟩,(aS h40 0),⟨b54,o55+Int.toNat (IntKind.wrap .i64 (x_47-1))*2+Int.toNat 0*1,none⟩,(aS h40 0),⟨b50,o51+Int.toNat x_47*2+Int.toNat 0*1,none⟩,(aS h40 0)] h106 h117 /\ 
 (sB (!x116) 
 (R (.bool false) h117) 
 ((∃m118,m118<m46/\I44 (IntKind.wrap .i64 (x_47+1)) h117 m118)))))))))))))))))))))))))))))))))))))))))))))))))))))))) 
 ((∃x119,rS h48 (aS h40 0) x119 /\ 
 (NB x119.a fun b120 o121=>(Ib x_47 x119.n /\ 
 (Ib 1 2 /\ 
 (∃x122,rI h48 ⟨b120,o121+Int.toNat x_47*2+Int.toNat 1*1,none⟩ x122 /\ 
 (∃x123,rS h48 (aS h40 0) x123 /\ 
 (NB x123.a fun b124 o125=>(Ib x_47 x123.n /\ 
 (Ib 0 2 /\ 
 (∃x126,rI h48 ⟨b124,o125+Int.toNat x_47*2+Int.toNat 0*1,none⟩ x126 /\ 
 (Fn Pz 23 #[vI x122,vI x126,.pointer (some (aS h40 0))] h48 
 (fun v127 h129=>∃x128,iB v127 x128 /\ 
 (sB (!x128) 
 (R (.bool false) h129) 
 ((∃x130,rS h129 (aS h40 0) x130 /\ 
 (NB x130.a fun b131 o132=>(Ib x_47 x130.n /\ 
 (Ib 0 2 /\ 
 (∃x133,rI h129 ⟨b131,o132+Int.toNat x_47*2+Int.toNat 0*1,none⟩ x133 /\ 
 (∃x134,rS h129 (aS h40 0) x134 /\ 
 (NB x134.a fun b135 o136=>(Ib x_47 x134.n /\ 
 (Ib 0 2 /\ 
 (∃x137,rI h129 ⟨b135,o136+Int.toNat x_47*2+Int.toNat 0*1,none⟩ x137 /\ 
 (Fn Pz 23 #[vI x133,vI x137,.pointer (some (aS h40 0))] h129 
 (fun v138 h140=>∃x139,iB v138 x139 /\ 
 (Sm [⟨b124,o125+Int.toNat x_47*2+Int.toNat 0*1,none⟩,(aS h40 0),⟨b120,o121+Int.toNat x_47*2+Int.toNat 1*1,none⟩,(aS h40 0)] h129 h140 /\ 
 (sB (!x139) 
 (R (.bool false) h140) 
 ((∃m141,m141<m46/\I44 (IntKind.wrap .i64 (x_47+1)) h140 m141))))))))))))))))))))))))))))))))) 
 ((∃x142:ByteArray,∃x143:Sl,∃x144:Sl,∃x145:Int,∃x146:Int,∃x147:Int,∃x148:Sl,∃x149:Sl,atC h48 (aS h 0) [.string x142,vS x143,vS x144,vI x145,vI x146,vI x147,vS x148,vS x149] /\ 
 (Ib 0 2 /\ 
 (∃x150,rS h48 (aS h11 (0+Int.toNat 0*1)) x150 /\ 
 (Fn Pz 24 #[.agg ⟨[.string x142,vS x143,vS x144,vI x145,vI x146,vI x147,vS x148,vS x149]⟩,vS x150] h48 
 (fun v151 h154=>∃x152:Sl,∃x153:Int,v151=.tuple ⟨[vS x152,vI x153]⟩ /\ 
 (∃x155:ByteArray,∃x156:Sl,∃x157:Sl,∃x158:Int,∃x159:Int,∃x160:Int,∃x161:Sl,∃x162:Sl,atC h154 (aS h 0) [.string x155,vS x156,vS x157,vI x158,vI x159,vI x160,vS x161,vS x162] /\ 
 (Ib 1 2 /\ 
 (∃x163,rS h154 (aS h11 (0+Int.toNat 1*1)) x163 /\ 
 (Fn Pz 24 #[.agg ⟨[.string x155,vS x156,vS x157,vI x158,vI x159,vI x160,vS x161,vS x162]⟩,vS x163] h154 
 (fun v164 h167=>∃x165:Sl,∃x166:Int,v164=.tuple ⟨[vS x165,vI x166]⟩ /\ 
 (Fn Pz 26 #[vS x152,vI p1] h167 
 (fun v168 h170=>∃x169,iS v168 x169 /\ 
 (Fn Pz 26 #[vS x165,vI p1] h170 
 (fun v171 h173=>∃x172,iS v171 x172 /\ 
 (Fn Pz 25 #[vS x169,vS x172] h173 
 (fun v174 h176=>∃x175,iB v174 x175 /\ 
 (Fn Pz 23 #[vI x153,vI x153,.pointer (some (aS h40 0))] h176 
 (fun v177 h179=>∃x178,iB v177 x178 /\ 
 (sB x178 
 ((sB (!x175) 
 (R (.bool true) h179) 
 ((Fn Pz 23 #[vI x153,vI x166,.pointer (some (aS h40 0))] h179 
 (fun v180 h182=>∃x181,iB v180 x181 /\ 
 R (.bool x181) h182))))) 
 (R (.bool false) h179)))))))))))))))))))))))))))))))))))))))))))))))))))
theorem vc6e (p0_1:ByteArray) (p0_2:Sl) (p0_3:Sl) (p0_4:Int) (p0_5:Int) (p0_6:Int) (p0_7:Sl) (p0_8:Sl) (p1:Int) (p2_9:Sl) (p2_10:Sl) (h:Heap) (R:Value->Heap->Prop):W6 p0_1 p0_2 p0_3 p0_4 p0_5 p0_6 p0_7 p0_8 p1 p2_9 p2_10 h R=fnW Pz 6 (.s .z (.s .z (.s .z (.s .z (.s .z (.s .z (.s (.s .z (.b (.l [(45,.one (.int .i64))] .z))) .z))))))) #[.agg ⟨[.string p0_1,.slice p0_2.a p0_2.n p0_2.c,.slice p0_3.a p0_3.n p0_3.c,.int .i64 p0_4,.int .i64 p0_5,.int .i64 p0_6,.slice p0_7.a p0_7.n p0_7.c,.slice p0_8.a p0_8.n p0_8.c]⟩,.int .i64 p1,.agg ⟨[.slice p2_9.a p2_9.n p2_9.c,.slice p2_10.a p2_10.n p2_10.c]⟩] h R:=by kernel_rfl
theorem vc6 (p0_1:ByteArray) (p0_2:Sl) (p0_3:Sl) (p0_4:Int) (p0_5:Int) (p0_6:Int) (p0_7:Sl) (p0_8:Sl) (p1:Int) (p2_9:Sl) (p2_10:Sl) (h:Heap) (R:Value->Heap->Prop) (H:W6 p0_1 p0_2 p0_3 p0_4 p0_5 p0_6 p0_7 p0_8 p1 p2_9 p2_10 h R):Fn Pz 6 #[.agg ⟨[.string p0_1,.slice p0_2.a p0_2.n p0_2.c,.slice p0_3.a p0_3.n p0_3.c,.int .i64 p0_4,.int .i64 p0_5,.int .i64 p0_6,.slice p0_7.a p0_7.n p0_7.c,.slice p0_8.a p0_8.n p0_8.c]⟩,.int .i64 p1,.agg ⟨[.slice p2_9.a p2_9.n p2_9.c,.slice p2_10.a p2_10.n p2_10.c]⟩] h R:=fnI (vc6e p0_1 p0_2 p0_3 p0_4 p0_5 p0_6 p0_7 p0_8 p1 p2_9 p2_10 h R) H
end Go.VC
end

section
namespace Go.VC
open Go.Proofs Go.LexS
theorem realizePairs (g:Gl) (role:Int) (s1 s2:Sl) (L1 L2:List Nat) (h:Heap) (hg:GI h g) (hx:Gm h) (hM:GNm g.ds) (h1:Rw h 1 s1 (L1.map u8C)) (b1:∀n∈L1,n<=255) (h2:Rw h 1 s2 (L2.map u8C)) (b2:∀n∈L2,n<=255) :
  Fn Pz 6 #[g.v,.int .i64 role,.agg ⟨[.slice s1.a s1.n s1.c,.slice s2.a s2.n s2.c]⟩] h fun v h'=>v=.bool true/\Ext h h':=by
 apply vc6 (bs g.nm) g.hr g.hd g.n g.s g.e g.he g.ht role s1 s2;unfold W6;have hn1:=h1.ln;have hn2:=h2.ln;refine (St.refl h).newb fun h11 hs=>?_;refine hs.newb fun h12 hs=>?_;refine (awake12 h12 (hx.ext hs.ext)).mono ?_;rintro _ h15 ⟨rfl,E⟩;have hs:=hs.step E;refine⟨true,rfl,sB_f rfl ?_⟩;refine⟨_,_,_,_,_,_,_,_,hs.at 1 rfl (o:=0) (n:=8) rfl,?_⟩;refine (small21 g role h15 (hg.ext hs.ext) hM).mono ?_;rintro _ h26 ⟨⟨bv,rfl,hbv⟩,E⟩;have hs:=hs.step E;refine⟨_,rfl,sB_intro (fun _=>⟨rfl,hs.ext⟩) (fun c=>?_)⟩;obtain⟨_,hV,hr0⟩:=hbv.1 (by simpa using c);refine⟨by decide,s1,hs.rd 0 rfl (i:=0) rfl,sBi (fun _=>⟨rfl,hs.ext⟩) (fun c1=>?_)⟩;refine⟨by decide,s2,hs.rd 0 rfl (i:=1) rfl,sBi (fun _=>⟨rfl,hs.ext⟩) (fun c2=>?_)⟩;refine⟨_,_,_,_,_,_,_,_,hs.at 1 rfl (o:=0) (n:=8) rfl,?_⟩;refine (pairs22 g role h26 (hg.ext hs.ext) (hx.ext hs.ext)).mono ?_;intro v h40 hres;cases hres with
 | bad hno _=>exact absurd ⟨hV,hr0⟩ hno
 | @ok r P L _ _ hs' hP=>
 refine⟨r,0,rfl,?_⟩;have hs:=(hs.join hs').perm List.perm_append_comm;refine hs.newput (vs:=[.slice r.a r.n r.c]) rfl rfl fun h42 hs=>?_;refine sBn (fun c=>absurd rfl c) (fun _=>?_);refine⟨r,hs.rd 0 rfl (i:=0) rfl,?_⟩;have hPl:P.length<=1048576:=by have:=hP.ln;omega
 have hrn:r.n=P.length:=by have:=(hs.len 1 (s:=r) rfl (by decide)).1;rwa [Yc] at this
 have hN:=hV.num.n;refine up_loopS (n:=r.n) hs (fun _=>True) trivial ?_;clear hs;rintro-i h48 hi ⟨hs48,-⟩;replace hs48:St h h48 (.blk h40.size [.slice r.a r.n r.c] 49::(.sl r 52 2 (P.map Ms.cs)::L++[.blk h11.size [.slice s1.a s1.n s1.c,.slice s2.a s2.n s2.c] 47,.blk h.size g.cs 27])):=hs48;have hc48:hc h48 ⟨h40.size,0,none⟩=some (.slice r.a r.n r.c):=hs48.rd 0 rfl (i:=0) rfl;have hr48:Rw h48 2 r (P.map Ms.cs):=hs48.rows 1 rfl (by decide);refine sBi (fun c=>?_) (fun c=>?_)
 .have hi2:i<r.n:=by omega
  obtain⟨p,gp⟩:=get_some (l:=P) (i:=i) (by omega);obtain⟨q,eq,hq⟩:=(hP.mem p).1 (Yb gp);have hsym:(⟨p.l,p.p⟩:Ms)∈P:=(hP.mem _).2 ⟨(q.2,q.1),by rw[eq];rfl,hq.symm hV⟩;have hdia:(⟨p.p,p.p⟩:Ms)∈P:=(hP.mem _).2 ⟨(q.1,q.1),by rw[eq];rfl,hq.diag hV⟩;have UpS:∀(i:Nat) (h':Heap),St h h' (.blk h40.size [.slice r.a r.n r.c] 49::(.sl r 52 2 (P.map Ms.cs)::L++[.blk h11.size [.slice s1.a s1.n s1.c,.slice s2.a s2.n s2.c] 47,.blk h.size g.cs 27]))->i<r.n->∃m,m<r.n-i/\Up r.n (fun i h'=>St h h' (.blk h40.size [.slice r.a r.n r.c] 49::(.sl r 52 2 (P.map Ms.cs)::L++[.blk h11.size [.slice s1.a s1.n s1.c,.slice s2.a s2.n s2.c] 47,.blk h.size g.cs 27]))/\True) (IntKind.wrap .i64 ((i:Int)+1)) h' m:=fun i h' hs' hi'=>Up.next hi' (by omega) ⟨hs',trivial⟩;refine sBi (fun c3=>?_) (fun c3=>?_)
  .have hw:IntKind.wrap .i64 ((i:Int)-1)=((i-1:Nat):Int):=by rw[w64 (by omega) (by omega)];omega
   simp only[hw];obtain⟨q0,gq⟩:=get_some (l:=P) (i:=i-1) (by omega);have hlt:msLt q0 p:=by
    obtain⟨h9,e9⟩:=Ya.1 gp;obtain⟨h8,e8⟩:=Ya.1 gq;have:=List.pairwise_iff_getElem.1 hP.so (i-1) i h8 h9 (by omega)
    rwa [e8,e9] at this
   unfold msLt at hlt;have rdI:∀ {K:Nat->Nat->Prop} (k:Nat),k<2->(∀b o,atC h48 ⟨b,o+i*2,none⟩ p.cs->K b o)->NB r.a fun b o=>(0<=(i:Int)/\(i:Int)<(r.n:Nat))/\K b o:=fun {K} k _ hK=>hr48.nbI (by omega) (by omega) fun b o p' gp' t=>by
    replace gp':P[i]?=some p':=gp';rw[gp] at gp';cases gp';exact hK b o t
   have rdJ:∀ {K:Nat->Nat->Prop} (k:Nat),k<2->(∀b o,atC h48 ⟨b,o+(i-1)*2,none⟩ q0.cs->K b o)->NB r.a fun b o=>(0<=((i-1:Nat):Int)/\((i-1:Nat):Int)<(r.n:Nat))/\K b o:=fun {K} k _ hK=>hr48.nbI (by omega) (by omega) fun b o p' gp' t=>by
    replace gp':P[i-1]?=some p':=gp';rw[gq] at gp';cases gp';exact hK b o t
   refine⟨r,hc48,rdI 0 (by decide) fun b o t=>⟨by decide,_,t.nth 0 rfl,r,hc48,rdJ 0 (by decide) fun b o t=>⟨by decide,_,t.nth 0 rfl,?_⟩⟩⟩;refine sBi (fun c4=>by omega) (fun c4=>?_);refine⟨r,hc48,rdI 0 (by decide) fun b o t=>⟨by decide,_,t.nth 0 rfl,r,hc48,rdJ 0 (by decide) fun b o t=>⟨by decide,_,t.nth 0 rfl,?_⟩⟩⟩;refine sBe (fun c5=>?_) (fun c5=>?_);refine⟨r,hc48,rdI 0 (by decide) fun b o t=>⟨by decide,_,t.nth 1 rfl,r,hc48,rdJ 0 (by decide) fun b o t=>⟨by decide,_,t.nth 1 rfl,?_⟩⟩⟩;refine sBi (fun c4=>by omega) (fun c4=>?_);rotate_left;all_goals
    refine⟨r,hc48,?_⟩;refine hr48.nbI (by omega) (by omega) fun b o p' gp' t=>?_;replace gp':P[i]?=some p':=gp';rw[gp] at gp';cases gp';refine⟨by decide,_,t.nth 1 rfl,r,hc48,?_⟩;refine hr48.nbI (by omega) (by omega) fun b o p' gp' t=>?_;replace gp':P[i]?=some p':=gp';rw[gp] at gp';cases gp';refine⟨by decide,_,t.nth 0 rfl,?_⟩;refine (hasP23 p.l p.p ⟨h40.size,0,none⟩ r P h48 hc48 hr48 hPl).mono ?_;rintro _ h83 ⟨rfl,E⟩;refine⟨_,rfl,E.sm,?_⟩;rw[decide_eq_true hsym];refine sB_f rfl ?_;have hs83:=hs48.step E;have hc83:=hc_ext E hc48;have hr83:=hr48.ext E;refine⟨r,hc83,?_⟩;refine hr83.nbI (by omega) (by omega) fun b o p' gp' t=>?_;replace gp':P[i]?=some p':=gp';rw[gp] at gp';cases gp';refine⟨by decide,_,t.nth 0 rfl,r,hc83,?_⟩;refine hr83.nbI (by omega) (by omega) fun b o p' gp' t=>?_;replace gp':P[i]?=some p':=gp';rw[gp] at gp';cases gp';refine⟨by decide,_,t.nth 0 rfl,?_⟩;refine (hasP23 p.p p.p ⟨h40.size,0,none⟩ r P h83 hc83 hr83 hPl).mono ?_;rintro _ h94 ⟨rfl,E⟩;refine⟨_,rfl,E.sm,?_⟩;rw[decide_eq_true hdia];refine sB_f rfl ?_;have hs94:=hs83.step E;have hc94:=hc_ext E hc83;have hr94:=hr83.ext E;exact UpS i h94 hs94 (by omega)
  .refine⟨r,hc48,?_⟩;refine hr48.nbI (by omega) (by omega) fun b o p' gp' t=>?_;replace gp':P[i]?=some p':=gp';rw[gp] at gp';cases gp';refine⟨by decide,_,t.nth 1 rfl,r,hc48,?_⟩;refine hr48.nbI (by omega) (by omega) fun b o p' gp' t=>?_;replace gp':P[i]?=some p':=gp';rw[gp] at gp';cases gp';refine⟨by decide,_,t.nth 0 rfl,?_⟩;refine (hasP23 p.l p.p ⟨h40.size,0,none⟩ r P h48 hc48 hr48 hPl).mono ?_;rintro _ h83 ⟨rfl,E⟩;refine⟨_,rfl,?_⟩;rw[decide_eq_true hsym];refine sB_f rfl ?_;have hs83:=hs48.step E;have hc83:=hc_ext E hc48;have hr83:=hr48.ext E;refine⟨r,hc83,?_⟩;refine hr83.nbI (by omega) (by omega) fun b o p' gp' t=>?_;replace gp':P[i]?=some p':=gp';rw[gp] at gp';cases gp';refine⟨by decide,_,t.nth 0 rfl,r,hc83,?_⟩;refine hr83.nbI (by omega) (by omega) fun b o p' gp' t=>?_;replace gp':P[i]?=some p':=gp';rw[gp] at gp';cases gp';refine⟨by decide,_,t.nth 0 rfl,?_⟩;refine (hasP23 p.p p.p ⟨h40.size,0,none⟩ r P h83 hc83 hr83 hPl).mono ?_;rintro _ h94 ⟨rfl,E⟩;refine⟨_,rfl,E.sm,?_⟩;rw[decide_eq_true hdia];refine sB_f rfl ?_;have hs94:=hs83.step E;have hc94:=hc_ext E hc83;have hr94:=hr83.ext E;exact UpS i h94 hs94 (by omega)
 .have kg:atC h48 ⟨h.size,0,none⟩ g.cs:=(hs48.perm (L':=.blk h.size g.cs 27::(.blk h40.size [.slice r.a r.n r.c] 49::(.sl r 52 2 (P.map Ms.cs)::L)++[.blk h11.size [.slice s1.a s1.n s1.c,.slice s2.a s2.n s2.c] 47])) (by
   have:=List.perm_append_comm (l₁:=It.blk h40.size [.slice r.a r.n r.c] 49::(.sl r 52 2 (P.map Ms.cs)::L)++[.blk h11.size [.slice s1.a s1.n s1.c,.slice s2.a s2.n s2.c] 47]) (l₂:=[.blk h.size g.cs 27]);simpa using this)).at 0 rfl (o:=0) (n:=8) rfl
  have kc:=(hs48.perm (L':=.blk h11.size [.slice s1.a s1.n s1.c,.slice s2.a s2.n s2.c] 47 :: .blk h.size g.cs 27::(.blk h40.size [.slice r.a r.n r.c] 49::(.sl r 52 2 (P.map Ms.cs)::L))) (by
   have:=List.perm_append_comm (l₁:=It.blk h40.size [.slice r.a r.n r.c] 49::(.sl r 52 2 (P.map Ms.cs)::L)) (l₂:=[.blk h11.size [.slice s1.a s1.n s1.c,.slice s2.a s2.n s2.c] 47,.blk h.size g.cs 27]);simpa using this))
  refine⟨_,_,_,_,_,_,_,_,kg,by decide,s1,kc.rd 0 rfl (i:=0) rfl,?_⟩;refine (word22 g s1 L1 h48 (hg.ext hs48.ext) (h1.ext hs48.ext) (by omega) b1).mono ?_;rintro _ h154 ⟨E1,r1,w1,a1,rfl,hr1,hw1,hl1⟩;refine⟨r1,a1,rfl,?_⟩;have kc:=kc.step E1;refine⟨_,_,_,_,_,_,_,_,kc.at 1 rfl (o:=0) (n:=8) rfl,by decide,s2,kc.rd 0 rfl (i:=1) rfl,?_⟩;refine (word22 g s2 L2 h154 (hg.ext kc.ext) (h2.ext kc.ext) (by omega) b2).mono ?_;rintro _ h167 ⟨E2,r2,w2,a2,rfl,hr2,hw2,hl2⟩;refine⟨r2,a2,rfl,?_⟩;have kc:=kc.step E2;refine (project24 role w1 r1 h167 (hr1.ext E2) (by omega)).mono ?_;rintro _ h170 ⟨E3,q1,rfl,hq1⟩;refine⟨q1,rfl,?_⟩;have kc:=kc.step E3;refine (project24 role w2 r2 h170 (hr2.ext E3) (by omega)).mono ?_;rintro _ h173 ⟨E4,q2,rfl,hq2⟩;refine⟨q2,rfl,?_⟩;have kc:=kc.step E4;refine (sameEvs97 role _ _ q1 q2 h173 (hq1.ext E4) hq2 (Yys (List.length_filterMap_le _ _) (by omega))).mono ?_;rintro _ h176 ⟨rfl,E5⟩;refine⟨_,rfl,?_⟩;have kc:=kc.step E5;have R1:=pth_range hV hw1;have R2:=pth_range hV hw2;refine (hasP23 a1 a1 ⟨h40.size,0,none⟩ r P h176 (kc.rd 2 rfl (i:=0) rfl) (kc.rows 3 rfl (by decide)) hPl).mono ?_;rintro _ h179 ⟨rfl,E6⟩;have kc:=kc.step E6;refine⟨_,rfl,?_⟩;rw[decide_eq_true ((hP.has R1.1 R1.1).2 (way hV _ rfl hw1 hw1 rfl).1)];refine sB_t rfl (sB_intro (fun _=>⟨rfl,kc.ext⟩) (fun c9=>?_));have he:w1.filterMap (vis1 role)=w2.filterMap (vis1 role):=by simpa using c9
  refine (hasP23 a1 a2 ⟨h40.size,0,none⟩ r P h179 (kc.rd 2 rfl (i:=0) rfl) (kc.rows 3 rfl (by decide)) hPl).mono ?_;rintro _ h182 ⟨rfl,E7⟩;refine⟨_,rfl,?_,(kc.step E7).ext⟩;rw[decide_eq_true ((hP.has R1.1 R2.1).2 (way hV _ rfl hw1 hw2 he).1)]
end Go.VC
end

section
namespace Go.VC
open Go.Proofs Go.LexS Go.RowKit Go.ChangeShapes Go.WideShapes Go.Proofs.YtajglkbckhgboaaGreatDoor
theorem bulk_pos {H:Type} (d:DataW H):1<=Rows.uptoBulk d:=by
 cases d with
 | lit l=>cases l<;>simp[Rows.uptoBulk]
 | _=>simp[Rows.uptoBulk]
theorem bulk_part {H:Type}:∀ {l:List (DataW H)} {d:DataW H},d∈l->Rows.uptoBulk d<=Rows.uptoBulkAll l
 | [],_,h=>by cases h
 | x::r,d,h=>by
  rw[Rows.uptoBulkAll];rcases Yr.1 h with rfl | h
  .omega
  .have:=bulk_part h;omega
theorem bulk_len {H:Type}:∀l:List (DataW H),l.length<=Rows.uptoBulkAll l
 | []=>by simp
 | x::r=>by
  have h1:=bulk_pos x;have h2:=bulk_len r;rw[Rows.uptoBulkAll,Yyj];omega
def Rdb (P:Program) (W:World) (t:TypeId) (cs:List Value):Prop:=
 ∃(H:Type) (enc:TypeId × Value->H) (n:Nat) (x:DataW H × List MemPlace),DataW.trod enc P W 0 (fun _=>true) true n t cs=some x/\Rows.uptoBulk x.1<=1048576
theorem Rdb.rdt {P:Program} {W:World} {t:TypeId} {cs:List Value} (h:Rdb P W t cs):Rdt P W t cs:=by
 obtain⟨H,enc,n,x,h1,_⟩:=h;exact⟨H,enc,n,x,h1⟩
theorem rdb_of_trod {H:Type} {enc:TypeId × Value->H} {P:Program} {W:World} {t:TypeId} {v:Value} {d:DataW H} {p:List MemPlace} (h:DataW.Trod enc P W 0 (fun _=>true) true t v d p) (hw:Rows.uptoBulk d<=1048576):Rdb P W t v.cells.toList:=by
 obtain⟨n,h⟩:=h;exact⟨H,enc,n,_,h,hw⟩
theorem Rdb.field {P:Program} {W:World} {t ft:TypeId} {cs:List Value} {i off:Nat} (h:Rdb P W t cs) (hf:fieldAt P t i=some (ft,off)):Rdb P W ft ((cs.drop off).take (P.cellsOf ft)):=by
 unfold fieldAt at hf;split at hf
 .rename_i fs hu;obtain⟨f,h1,h2⟩:=Yya.1 hf;cases h2;obtain⟨H,enc,n,x,h,hw⟩:=h;obtain⟨xs,m,_,hx,hl,hxl,hfi⟩:=DataW.trod_struct hu h;have hlt:i<xs.length:=by rw[hxl];exact (Yyg.1 h1).1
  refine⟨H,enc,m,xs[i],by rw[hfi i f h1,Yi hlt],?_⟩;rw[hx,Rows.uptoBulk] at hw;have:=bulk_part (l:=xs.map (·.1)) (d:=xs[i].1) (Yp.2 ⟨xs[i],List.getElem_mem hlt,rfl⟩);omega
 .cases hf
theorem Rdb.array {P:Program} {W:World} {t e:TypeId} {n:Nat} {cs:List Value} (ht:P.underlying t=some (.array n e)) (h:Rdb P W t cs) :
  cs.length=P.cellsOf t/\∀i,i<n->Rdb P W e ((cs.drop (i*P.cellsOf e)).take (P.cellsOf e)):=by
 obtain⟨H,enc,m,x,h,hw⟩:=h;obtain⟨xs,k,_,hx,hl,hxl,hf⟩:=DataW.trod_array ht h;refine⟨hl,fun i hi=>?_⟩;have hlt:i<xs.length:=by omega
 refine⟨H,enc,k,xs[i],by rw[hf i hi,Yi hlt],?_⟩;rw[hx,Rows.uptoBulk] at hw;have:=bulk_part (l:=xs.map (·.1)) (d:=xs[i].1) (Yp.2 ⟨xs[i],List.getElem_mem hlt,rfl⟩);omega
theorem Rdb.rows {P:Program} {W:World} {t e:TypeId} {cs:List Value} (ht:P.underlying t=some (.slice e)) (h:Rdb P W t cs) (hpos:0<P.cellsOf e) :
  ∃(s:Sl) (rows:List (List Value)),cs=[.slice s.a s.n s.c]/\s.n<=s.c/\s.n<=1048576/\(s.a=none->s.n=0/\s.c=0)/\Rw W.heap (P.cellsOf e) s rows/\∀r∈rows,r.length=P.cellsOf e/\Rdb P W e r:=by
 obtain⟨H,enc,n,x,h,hw⟩:=h;rcases DataW.trod_slice ht h with ⟨rfl,_⟩ | ⟨a,len,cap,elems,rest,m,_,rfl,hx,_,hlc,hcm,hel,helem,_,_⟩
 .exact⟨⟨none,0,0⟩,[],rfl,Yyt _,Nat.zero_le _,fun _=>⟨rfl,rfl⟩,Rw.nil,fun r hr=>by cases hr⟩
 .rw[hx,Rows.uptoBulk] at hw;have hle:len<=1048576:=by
   have:=bulk_len (elems.map (·.1));rw[Yc] at this;omega
  have hwe:∀(i:Nat) (hi:i<elems.length),Rows.uptoBulk elems[i].1<=1048576:=fun i hi=>by
   have:=bulk_part (l:=elems.map (·.1)) (d:=elems[i].1) (Yp.2 ⟨elems[i],List.getElem_mem hi,rfl⟩);omega
  by_cases h0:len=0
  .subst h0;exact⟨⟨some a,0,cap⟩,[],rfl,hlc,hle,fun e=>(by cases e),Rw.empty rfl,fun r hr=>by cases hr⟩
  .have hrow:∀i,i<len->∃r,W.cells? 0 (a.add (i*P.cellsOf e)) (P.cellsOf e)=some r/\Rdb P W e r:=by
    intro i hi;have h1:=helem i hi;rw[Yi (by omega)] at h1;obtain⟨r,hr,hx2⟩:=Option.bind_eq_some_iff.1 h1;exact⟨r,hr,H,enc,m,_,hx2,hwe i (by omega)⟩
   let row:Nat->List Value:=fun i=>(W.cells? 0 (a.add (i*P.cellsOf e)) (P.cellsOf e)).getD []
   have hrow':∀i,i<len->W.cells? 0 (a.add (i*P.cellsOf e)) (P.cellsOf e)=some (row i)/\Rdb P W e (row i):=fun i hi=>by
    obtain⟨r,hr,hx⟩:=hrow i hi;have:row i=r:=by show (W.cells? 0 _ _).getD []=r;rw[hr];rfl
    rw[this];exact⟨hr,hx⟩
   have hget:∀i,i<len->((List.range len).map row)[i]?=some (row i):=fun i hi=>by
    rw[Yd,Yyb hi];rfl
   have hspot:a=⟨a.block,a.off,none⟩:=by
    have hc:=(cells_at (hrow' 0 (by omega)).1);have hl0:0<(row 0).length:=by rw[hc.1];exact hpos
    have:=hc.2 0 _ (Yi hl0);rw[Nat.zero_mul,show (a.add 0).add 0=a from rfl] at this;unfold World.cell? at this;split at this
    .split at this
     .cases this
     .rename_i hs;cases a with
      | mk b o s=>
       cases s with
       | none=>rfl
       | some s=>exact absurd rfl hs
    .cases this
   refine⟨⟨some a,len,cap⟩,(List.range len).map row,rfl,hlc,hle,fun e=>(by cases e),⟨by simp,fun _=>⟨a.block,a.off,by rw[<-hspot],fun i r hi j v hj=>?_⟩⟩,fun r hr=>?_⟩
   .have hil:i<len:=by have:=(Ya.1 hi).1;simpa using this
    rw[hget i hil] at hi;cases hi;have h4:=(cells_at (hrow' i hil).1).2 _ _ hj;rw[hspot] at h4;have e:((⟨a.block,a.off,none⟩:Addr).add (i*P.cellsOf e)).add j=addk ⟨a.block,a.off+i*P.cellsOf e,none⟩ j:=by
     rw[addk_at,add_n,add_n]
    rw[e] at h4;exact h4
   .obtain⟨i,hi,rfl⟩:=Yp.1 hr;have:=hrow' i (List.mem_range.1 hi);exact⟨(cells_at this.1).1,this.2⟩
theorem Rdb.list {α:Type} {P:Program} {W:World} {t e:TypeId} {k:Nat} {v:Value} {cs:α->List Value} {Q:α->Prop} (ht:P.underlying t=some (.slice e)) (hk:P.cellsOf e=k) (hpos:0<k)
  (ho:∀r,Rdb P W e r->∃x,r=cs x/\Q x) (h:Rdb P W t [v]):∃(s:Sl) (L:List α),v=.slice s.a s.n s.c/\RL W.heap k s cs L/\∀x∈L,Q x:=by
 subst hk;obtain⟨s,rows,e1,hc,hm,hna,hrw,hr⟩:=h.rows ht hpos;have key:∀rows:List (List Value),(∀r∈rows,r.length=P.cellsOf e/\Rdb P W e r)->∃L:List α,rows=L.map cs/\∀x∈L,Q x:=by
  intro rows
  induction rows with
  | nil=>intro _;exact⟨[],rfl,fun x hx=>by cases hx⟩
  | cons r rows ih=>
   intro h;obtain⟨x,hx,hq⟩:=ho r (h r (by simp)).2;obtain⟨L,hL,hQ⟩:=ih fun y hy=>h y (Yn _ hy);exact⟨x::L,by rw[hx,hL];rfl,fun y hy=>by rcases Yr.1 hy with rfl | hy;exact hq;exact hQ y hy⟩
 obtain⟨L,rfl,hQ⟩:=key rows hr;have hn:=hrw.ln;exact⟨s,L,by simpa using e1,⟨hrw,hc,hna,by omega⟩,hQ⟩
theorem v3:Pz.underlying 3=some (.int .i64):=by kernel_rfl
theorem v4b:Pz.underlying 4=some .bool:=by kernel_rfl
theorem v9:Pz.underlying 9=some .string:=by kernel_rfl
theorem cz3:Pz.cellsOf 3=1:=by kernel_rfl
theorem cz4:Pz.cellsOf 4=1:=by kernel_rfl
theorem cz9:Pz.cellsOf 9=1:=by kernel_rfl
theorem cz22:Pz.cellsOf 22=1:=by kernel_rfl
theorem cz23:Pz.cellsOf 23=1:=by kernel_rfl
theorem cz24:Pz.cellsOf 24=1:=by kernel_rfl
theorem cz25:Pz.cellsOf 25=1:=by kernel_rfl
theorem cz27:Pz.cellsOf 27=8:=by kernel_rfl
theorem cz53:Pz.cellsOf 65=3:=by kernel_rfl
theorem cz55:Pz.cellsOf 67=6:=by kernel_rfl
theorem cz63:Pz.cellsOf 149=3:=by kernel_rfl
theorem cz130:Pz.cellsOf 166=1:=by kernel_rfl
theorem cz131:Pz.cellsOf 167=1:=by kernel_rfl
theorem cz132:Pz.cellsOf 49=1:=by kernel_rfl
theorem cz134:Pz.cellsOf 169=2:=by kernel_rfl
theorem cz136:Pz.cellsOf 171=5:=by kernel_rfl
theorem cz182:Pz.cellsOf 258=3:=by kernel_rfl
theorem cz184:Pz.cellsOf 260=4:=by kernel_rfl
theorem cz187:Pz.cellsOf 263=3:=by kernel_rfl
theorem cz189:Pz.cellsOf 52=2:=by kernel_rfl
theorem vs22:Pz.underlying 22=some (.slice 9):=by kernel_rfl
theorem vs23:Pz.underlying 23=some (.slice 171):=by kernel_rfl
theorem vs24:Pz.underlying 24=some (.slice 67):=by kernel_rfl
theorem vs25:Pz.underlying 25=some (.slice 149):=by kernel_rfl
theorem vs130:Pz.underlying 166=some (.slice 260):=by kernel_rfl
theorem vs131:Pz.underlying 167=some (.slice 263):=by kernel_rfl
theorem vs132:Pz.underlying 49=some (.slice 52):=by kernel_rfl
theorem va189:Pz.underlying 52=some (.array 2 3):=by kernel_rfl
theorem Rdb.str {P:Program} {W:World} {t:TypeId} {cs:List Value} (ht:P.underlying t=some .string) (h:Rdb P W t cs):∃s:ByteArray,cs=[.string s]/\s.size<=1048576:=by
 obtain⟨H,enc,n,x,h,hw⟩:=h;obtain⟨m,h1,hx,_⟩:=DataW.trod_string ht h;refine⟨m,h1,?_⟩;rw[hx,Rows.uptoBulk] at hw;have e:m.data.toList.length=m.size:=rfl;omega
theorem open_name {W:World} {r:List Value} (h:Rdb Pz W 9 r):∃x:Nm,r=nmC x/\True:=by
 obtain⟨s,e,_⟩:=h.rdt.str v9;exact⟨s.data.toList,by rw[e];rfl,trivial⟩
theorem open_field {W:World} {r:List Value} (h:Rdb Pz W 260 r):∃x:Fld,r=x.cs/\True:=by
 have hl:=h.rdt.flen (i:=0) (ft:=9) (off:=0) (by kernel_rfl);rw[cz184] at hl
 match r,hl with
 | [x0,x1,x2,x3],_=>
  have f0:=h.rdt.field (i:=0) (ft:=9) (off:=0) (by kernel_rfl);have f1:=h.rdt.field (i:=1) (ft:=258) (off:=1) (by kernel_rfl);rw[cz9] at f0;rw[cz182] at f1;have g0:=f1.field (i:=0) (ft:=3) (off:=0) (by kernel_rfl);have g1:=f1.field (i:=1) (ft:=3) (off:=1) (by kernel_rfl);have g2:=f1.field (i:=2) (ft:=3) (off:=2) (by kernel_rfl);rw[cz3] at g0 g1 g2;obtain⟨s,e0,_⟩:=f0.str v9;obtain⟨k1,e1,_⟩:=g0.int v3;obtain⟨k2,e2,_⟩:=g1.int v3;obtain⟨k3,e3,_⟩:=g2.int v3;simp only[List.drop_zero,List.take_succ_cons,Yyk,List.drop_succ_cons,List.cons.injEq,and_true] at e0 e1 e2 e3;subst e0 e1 e2 e3;exact⟨⟨s.data.toList,k1,k2,k3⟩,rfl,trivial⟩
theorem open_three {W:World} {t:TypeId} {r:List Value} (hc:Pz.cellsOf t=3) (h0:fieldAt Pz t 0=some (3,0)) (h1:fieldAt Pz t 1=some (3,1)) (h2:fieldAt Pz t 2=some (3,2)) (h:Rdt Pz W t r) :
  ∃a b c:Int,r=[.int .i64 a,.int .i64 b,.int .i64 c]:=by
 have hl:=h.flen h0;rw[hc] at hl
 match r,hl with
 | [x0,x1,x2],_=>
  have f0:=h.field h0;have f1:=h.field h1;have f2:=h.field h2;rw[cz3] at f0 f1 f2;obtain⟨k0,e0,_⟩:=f0.int v3;obtain⟨k1,e1,_⟩:=f1.int v3;obtain⟨k2,e2,_⟩:=f2.int v3;simp only[List.drop_zero,List.take_succ_cons,Yyk,List.drop_succ_cons,List.cons.injEq,and_true] at e0 e1 e2;subst e0 e1 e2;exact⟨k0,k1,k2,rfl⟩
theorem open_diff {W:World} {r:List Value} (h:Rdb Pz W 263 r):∃x:Df,r=x.cs/\True:=by
 obtain⟨a,b,c,e⟩:=open_three cz187 (by kernel_rfl) (by kernel_rfl) (by kernel_rfl) h.rdt;exact⟨⟨a,b,c⟩,e,trivial⟩
theorem open_timeout {W:World} {r:List Value} (h:Rdb Pz W 149 r):∃x:To,r=x.cs/\True:=by
 obtain⟨a,b,c,e⟩:=open_three cz63 (by kernel_rfl) (by kernel_rfl) (by kernel_rfl) h.rdt;exact⟨⟨a,b,c⟩,e,trivial⟩
theorem open_pair {W:World} {r:List Value} (h:Rdb Pz W 52 r):∃x:Eqs,r=x.cs/\True:=by
 obtain⟨hl,ha⟩:=h.rdt.array va189;rw[cz189] at hl;rw[cz3] at ha
 match r,hl with
 | [x0,x1],_=>
  obtain⟨k0,e0,_⟩:=(ha 0 (by omega)).int v3;obtain⟨k1,e1,_⟩:=(ha 1 (by omega)).int v3;simp only[Nat.zero_mul,Nat.one_mul,List.drop_zero,List.take_succ_cons,Yyk,List.drop_succ_cons,List.cons.injEq,and_true] at e0 e1;subst e0 e1;exact⟨⟨k0,k1⟩,rfl,trivial⟩
theorem open_edge {W:World} {r:List Value} (h:Rdb Pz W 67 r):∃x:Ed,r=x.cs/\True:=by
 have hl:=h.rdt.flen (i:=0) (ft:=3) (off:=0) (by kernel_rfl);rw[cz55] at hl
 match r,hl with
 | [x0,x1,x2,x3,x4,x5],_=>
  have f0:=h.rdt.field (i:=0) (ft:=3) (off:=0) (by kernel_rfl);have f1:=h.rdt.field (i:=1) (ft:=65) (off:=1) (by kernel_rfl);have f2:=h.rdt.field (i:=2) (ft:=3) (off:=4) (by kernel_rfl);have f3:=h.rdt.field (i:=3) (ft:=4) (off:=5) (by kernel_rfl);rw[cz3] at f0 f2;rw[cz53] at f1;rw[cz4] at f3;obtain⟨a,b,c,e1⟩:=open_three cz53 (by kernel_rfl) (by kernel_rfl) (by kernel_rfl) f1;obtain⟨k0,e0,_⟩:=f0.int v3;obtain⟨k2,e2,_⟩:=f2.int v3;obtain⟨k3,e3⟩:=f3.bool v4b;simp only[List.drop_zero,List.take_succ_cons,Yyk,List.drop_succ_cons,List.cons.injEq,and_true] at e0 e1 e2 e3;obtain⟨e1a,e1b,e1c⟩:=e1;subst e0 e1a e1b e1c e2 e3;exact⟨⟨k0,a,b,c,k2,k3⟩,rfl,trivial⟩
theorem open_decl {W:World} {r:List Value} (h:Rdb Pz W 171 r):∃x:Dc,r=x.cs/\DI W.heap x/\x.nm.length<=1048576:=by
 have hl:=h.rdt.flen (i:=0) (ft:=9) (off:=0) (by kernel_rfl);rw[cz136] at hl
 match r,hl with
 | [x0,x1,x2,x3,x4],_=>
  have f0:=h.field (i:=0) (ft:=9) (off:=0) (by kernel_rfl);have f1:=h.field (i:=1) (ft:=166) (off:=1) (by kernel_rfl);have f2:=h.rdt.field (i:=2) (ft:=3) (off:=2) (by kernel_rfl);have f3:=h.field (i:=3) (ft:=169) (off:=3) (by kernel_rfl);rw[cz9] at f0;rw[cz130] at f1;rw[cz3] at f2;rw[cz134] at f3;have g0:=f3.field (i:=0) (ft:=167) (off:=0) (by kernel_rfl);have g1:=f3.field (i:=1) (ft:=49) (off:=1) (by kernel_rfl);rw[cz131] at g0;rw[cz132] at g1;obtain⟨s,e0,hs0⟩:=f0.str v9;obtain⟨sf,fs,e1,hf,_⟩:=Rdb.list vs130 cz184 (by omega) (fun r hr=>open_field hr) f1;obtain⟨k,e2,_⟩:=f2.int v3;obtain⟨sd,ds,e3,hd,_⟩:=Rdb.list vs131 cz187 (by omega) (fun r hr=>open_diff hr) g0;obtain⟨se,es,e4,he,_⟩:=Rdb.list vs132 cz189 (by omega) (fun r hr=>open_pair hr) g1;simp only[List.drop_zero,List.take_succ_cons,Yyk,List.drop_succ_cons,List.cons.injEq,and_true] at e0 e2;subst e0 e1 e2 e3 e4;exact⟨⟨s.data.toList,sf,k,sd,se,fs,ds,es⟩,rfl,⟨hf,hd,he⟩,hs0⟩
theorem open_global {W:World} {cs:List Value} (h:Rdb Pz W 27 cs):∃g:Gl,cs=g.cs/\GI W.heap g/\∀d∈g.ds,d.nm.length<=1048576:=by
 have hl:=h.rdt.flen (i:=0) (ft:=9) (off:=0) (by kernel_rfl);rw[cz27] at hl
 match cs,hl with
 | [x0,x1,x2,x3,x4,x5,x6,x7],_=>
  have f0:=h.rdt.field (i:=0) (ft:=9) (off:=0) (by kernel_rfl);have f1:=h.field (i:=1) (ft:=22) (off:=1) (by kernel_rfl);have f2:=h.field (i:=2) (ft:=23) (off:=2) (by kernel_rfl);have f3:=h.rdt.field (i:=3) (ft:=3) (off:=3) (by kernel_rfl);have f4:=h.rdt.field (i:=4) (ft:=3) (off:=4) (by kernel_rfl);have f5:=h.rdt.field (i:=5) (ft:=3) (off:=5) (by kernel_rfl);have f6:=h.field (i:=6) (ft:=24) (off:=6) (by kernel_rfl);have f7:=h.field (i:=7) (ft:=25) (off:=7) (by kernel_rfl);rw[cz9] at f0;rw[cz22] at f1;rw[cz23] at f2;rw[cz3] at f3 f4 f5;rw[cz24] at f6;rw[cz25] at f7;obtain⟨s,e0,_⟩:=f0.str v9;obtain⟨sr,rs,e1,hr,_⟩:=Rdb.list vs22 cz9 (by omega) (fun r hr=>open_name hr) f1;obtain⟨sd,ds,e2,hd,hdi⟩:=Rdb.list vs23 cz136 (by omega) (fun r hr=>open_decl hr) f2;obtain⟨k3,e3,_⟩:=f3.int v3;obtain⟨k4,e4,_⟩:=f4.int v3;obtain⟨k5,e5,_⟩:=f5.int v3;obtain⟨se,es,e6,he,_⟩:=Rdb.list vs24 cz55 (by omega) (fun r hr=>open_edge hr) f6;obtain⟨st,ts,e7,ht,_⟩:=Rdb.list vs25 cz63 (by omega) (fun r hr=>open_timeout hr) f7;simp only[List.drop_zero,List.take_succ_cons,Yyk,List.drop_succ_cons,List.cons.injEq,and_true] at e0 e3 e4 e5;subst e0 e1 e2 e3 e4 e5 e6 e7;exact⟨⟨s.data.toList,sr,sd,k3,k4,k5,se,st,rs,ds,es,ts⟩,rfl,⟨hr,⟨hd,fun d hm=>(hdi d hm).1⟩,he,ht⟩,fun d hm=>(hdi d hm).2⟩
end Go.VC
end
