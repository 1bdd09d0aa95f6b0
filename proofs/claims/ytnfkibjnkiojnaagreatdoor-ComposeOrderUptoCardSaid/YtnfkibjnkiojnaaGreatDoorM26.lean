/- WkVcE WkVcF WkK WkL WkM WkN WkO WkVcG WkP WkVcI WkVcK WkQ WkR WkVcM WkS WkT WkU. -/
import Derived.Test.YtnfkibjnkiojnaaGreatDoorM02
import Derived.Test.YtnfkibjnkiojnaaGreatDoorProg
import Derived.KernelRfl
import Derived.Test.YtnfkibjnkiojnaaGreatDoorM01
import Derived.Test.YtnfkibjnkiojnaaGreatDoorM25
set_option linter.unusedVariables false
set_option linter.unusedSimpArgs false
set_option maxRecDepth 100000

section
namespace Go.VC
open Go.Proofs

def W59 (p0_1 p0_2:Sl) (h:Heap) (R:Value->Heap->Prop):Prop:=
 (Wn h [vS p0_1,vS p0_2] 29 fun h3=>
 (Wn h3 [.slice none 0 0,.slice none 0 0] 29 fun h4=>
 (∃ x5,rS h4 (aS h 0) x5 /\
 (∃ x6,rS h4 (aS h 1) x6 /\
 ((Fn Pz 92 #[vS x5] h4
 (fun v7 h9=>∃ x8,iS v7 x8 /\
 (Sm [(aS h 1)] h4 h9 /\
 ((((0:Int)<=(x6.n:Int)/\((x6.n:Int):Int)<=(x6.n:Int)/\((24:Nat):Int)*(x6.n:Int)<=140737488355328)/\Wn h9 (madeL Pz 23 (Int.toNat (x6.n:Int))) 23 fun h10=>
 (Sm [(aS h 0)] h9 h10 /\
 (Wn h10 [.slice none 0 0,.slice none 0 0] 29 fun h11=>
 (Sm [(aS h 1),(aS h 0)] h10 h11 /\
 (Wp h11 (aS h10 0) 2 [vS x8,.slice (some (aS h9 0)) (Int.toNat (x6.n:Int)) (Int.toNat (x6.n:Int))] fun h12=>
 (∃ x13,rS h12 (aS h 1) x13 /\
 (QI 0 h12 fun I14 x_17 h18 m16=>(
 (sB (decide (x_17<(x13.n:Int)))
 ((NB x13.a fun b19 o20=>(Ib x_17 x13.n /\
 (∃ x21,rS h18 ⟨b19,o20+Int.toNat x_17*1,none⟩ x21 /\
 (∃ x22,rS h18 (aS h10 1) x22 /\
 (Fn Pz 92 #[vS x21] h18
 (fun v23 h25=>∃ x24,iS v23 x24 /\
 (Sm [(aS h10 1)] h18 h25 /\
 (NB x22.a fun b26 o27=>(Ib x_17 x22.n /\
 (Wp h25 ⟨b26,o27+Int.toNat x_17*1,none⟩ 1 [vS x24] fun h28=>
 (∃ m29,m29<m16/\I14 (IntKind.wrap .i64 (x_17+1)) h28 m29))))))))))))
 ((∃ (x30 x31:Sl),atC h18 (aS h10 0) [vS x30,vS x31] /\
 (Wp h18 (aS h3 0) 2 [vS x30,vS x31] fun h32=>
 (∃ (x33 x34:Sl),atC h32 (aS h3 0) [vS x33,vS x34] /\
 R (.agg ⟨[vS x33,vS x34]⟩) h32))))))))))))))/\((Wn h9 [.slice none 0 0,.slice none 0 0] 29 fun h35=>
 (Sm [(aS h 1),(aS h 0)] h9 h35 /\
 (((0:Int)<=(x6.n:Int)/\((x6.n:Int):Int)<=(x6.n:Int)/\((24:Nat):Int)*(x6.n:Int)<=140737488355328)/\Wn h35 (madeL Pz 23 (Int.toNat (x6.n:Int))) 23 fun h36=>
 (Sm [(aS h 0)] h35 h36 /\
 (Wp h36 (aS h9 0) 2 [vS x8,.slice (some (aS h35 0)) (Int.toNat (x6.n:Int)) (Int.toNat (x6.n:Int))] fun h37=>
 (∃ x38,rS h37 (aS h 1) x38 /\
 (QI 0 h37 fun I39 x_42 h43 m41=>(
 (sB (decide (x_42<(x38.n:Int)))
 ((NB x38.a fun b44 o45=>(Ib x_42 x38.n /\
 (∃ x46,rS h43 ⟨b44,o45+Int.toNat x_42*1,none⟩ x46 /\
 (∃ x47,rS h43 (aS h9 1) x47 /\
 (Fn Pz 92 #[vS x46] h43
 (fun v48 h50=>∃ x49,iS v48 x49 /\
 (Sm [(aS h9 1)] h43 h50 /\
 (NB x47.a fun b51 o52=>(Ib x_42 x47.n /\
 (Wp h50 ⟨b51,o52+Int.toNat x_42*1,none⟩ 1 [vS x49] fun h53=>
 (∃ m54,m54<m41/\I39 (IntKind.wrap .i64 (x_42+1)) h53 m54))))))))))))
 ((∃ (x55 x56:Sl),atC h43 (aS h9 0) [vS x55,vS x56] /\
 (Wp h43 (aS h3 0) 2 [vS x55,vS x56] fun h57=>
 (∃ (x58 x59:Sl),atC h57 (aS h3 0) [vS x58,vS x59] /\
 R (.agg ⟨[vS x58,vS x59]⟩) h57))))))))))))))))))/\((((0:Int)<=(x6.n:Int)/\((x6.n:Int):Int)<=(x6.n:Int)/\((24:Nat):Int)*(x6.n:Int)<=140737488355328)/\Wn h4 (madeL Pz 23 (Int.toNat (x6.n:Int))) 23 fun h60=>
 (Sm [(aS h 0)] h4 h60 /\
 ((Fn Pz 92 #[vS x5] h60
 (fun v61 h63=>∃ x62,iS v61 x62 /\
 (Sm [(aS h 1)] h60 h63 /\
 (Wn h63 [.slice none 0 0,.slice none 0 0] 29 fun h64=>
 (Sm [(aS h 1),(aS h 0)] h63 h64 /\
 (Wp h64 (aS h63 0) 2 [vS x62,.slice (some (aS h4 0)) (Int.toNat (x6.n:Int)) (Int.toNat (x6.n:Int))] fun h65=>
 (∃ x66,rS h65 (aS h 1) x66 /\
 (QI 0 h65 fun I67 x_70 h71 m69=>(
 (sB (decide (x_70<(x66.n:Int)))
 ((NB x66.a fun b72 o73=>(Ib x_70 x66.n /\
 (∃ x74,rS h71 ⟨b72,o73+Int.toNat x_70*1,none⟩ x74 /\
 (∃ x75,rS h71 (aS h63 1) x75 /\
 (Fn Pz 92 #[vS x74] h71
 (fun v76 h78=>∃ x77,iS v76 x77 /\
 (Sm [(aS h63 1)] h71 h78 /\
 (NB x75.a fun b79 o80=>(Ib x_70 x75.n /\
 (Wp h78 ⟨b79,o80+Int.toNat x_70*1,none⟩ 1 [vS x77] fun h81=>
 (∃ m82,m82<m69/\I67 (IntKind.wrap .i64 (x_70+1)) h81 m82))))))))))))
 ((∃ (x83 x84:Sl),atC h71 (aS h63 0) [vS x83,vS x84] /\
 (Wp h71 (aS h3 0) 2 [vS x83,vS x84] fun h85=>
 (∃ (x86 x87:Sl),atC h85 (aS h3 0) [vS x86,vS x87] /\
 R (.agg ⟨[vS x86,vS x87]⟩) h85)))))))))))))))/\((Wn h60 [.slice none 0 0,.slice none 0 0] 29 fun h88=>
 (Sm [(aS h 1),(aS h 0)] h60 h88 /\
 (Fn Pz 92 #[vS x5] h88
 (fun v89 h91=>∃ x90,iS v89 x90 /\
 (Sm [(aS h 1)] h88 h91 /\
 (Wp h91 (aS h60 0) 2 [vS x90,.slice (some (aS h4 0)) (Int.toNat (x6.n:Int)) (Int.toNat (x6.n:Int))] fun h92=>
 (∃ x93,rS h92 (aS h 1) x93 /\
 (QI 0 h92 fun I94 x_97 h98 m96=>(
 (sB (decide (x_97<(x93.n:Int)))
 ((NB x93.a fun b99 o100=>(Ib x_97 x93.n /\
 (∃ x101,rS h98 ⟨b99,o100+Int.toNat x_97*1,none⟩ x101 /\
 (∃ x102,rS h98 (aS h60 1) x102 /\
 (Fn Pz 92 #[vS x101] h98
 (fun v103 h105=>∃ x104,iS v103 x104 /\
 (Sm [(aS h60 1)] h98 h105 /\
 (NB x102.a fun b106 o107=>(Ib x_97 x102.n /\
 (Wp h105 ⟨b106,o107+Int.toNat x_97*1,none⟩ 1 [vS x104] fun h108=>
 (∃ m109,m109<m96/\I94 (IntKind.wrap .i64 (x_97+1)) h108 m109))))))))))))
 ((∃ (x110 x111:Sl),atC h98 (aS h60 0) [vS x110,vS x111] /\
 (Wp h98 (aS h3 0) 2 [vS x110,vS x111] fun h112=>
 (∃ (x113 x114:Sl),atC h112 (aS h3 0) [vS x113,vS x114] /\
 R (.agg ⟨[vS x113,vS x114]⟩) h112))))))))))))))))))/\((Wn h4 [.slice none 0 0,.slice none 0 0] 29 fun h115=>
 (Sm [(aS h 1),(aS h 0)] h4 h115 /\
 ((Fn Pz 92 #[vS x5] h115
 (fun v116 h118=>∃ x117,iS v116 x117 /\
 (Sm [(aS h 1)] h115 h118 /\
 (((0:Int)<=(x6.n:Int)/\((x6.n:Int):Int)<=(x6.n:Int)/\((24:Nat):Int)*(x6.n:Int)<=140737488355328)/\Wn h118 (madeL Pz 23 (Int.toNat (x6.n:Int))) 23 fun h119=>
 (Sm [(aS h 0)] h118 h119 /\
 (Wp h119 (aS h4 0) 2 [vS x117,.slice (some (aS h118 0)) (Int.toNat (x6.n:Int)) (Int.toNat (x6.n:Int))] fun h120=>
 (∃ x121,rS h120 (aS h 1) x121 /\
 (QI 0 h120 fun I122 x_125 h126 m124=>(
 (sB (decide (x_125<(x121.n:Int)))
 ((NB x121.a fun b127 o128=>(Ib x_125 x121.n /\
 (∃ x129,rS h126 ⟨b127,o128+Int.toNat x_125*1,none⟩ x129 /\
 (∃ x130,rS h126 (aS h4 1) x130 /\
 (Fn Pz 92 #[vS x129] h126
 (fun v131 h133=>∃ x132,iS v131 x132 /\
 (Sm [(aS h4 1)] h126 h133 /\
 (NB x130.a fun b134 o135=>(Ib x_125 x130.n /\
 (Wp h133 ⟨b134,o135+Int.toNat x_125*1,none⟩ 1 [vS x132] fun h136=>
 (∃ m137,m137<m124/\I122 (IntKind.wrap .i64 (x_125+1)) h136 m137))))))))))))
 ((∃ (x138 x139:Sl),atC h126 (aS h4 0) [vS x138,vS x139] /\
 (Wp h126 (aS h3 0) 2 [vS x138,vS x139] fun h140=>
 (∃ (x141 x142:Sl),atC h140 (aS h3 0) [vS x141,vS x142] /\
 R (.agg ⟨[vS x141,vS x142]⟩) h140)))))))))))))))/\((((0:Int)<=(x6.n:Int)/\((x6.n:Int):Int)<=(x6.n:Int)/\((24:Nat):Int)*(x6.n:Int)<=140737488355328)/\Wn h115 (madeL Pz 23 (Int.toNat (x6.n:Int))) 23 fun h143=>
 (Sm [(aS h 0)] h115 h143 /\
 (Fn Pz 92 #[vS x5] h143
 (fun v144 h146=>∃ x145,iS v144 x145 /\
 (Sm [(aS h 1)] h143 h146 /\
 (Wp h146 (aS h4 0) 2 [vS x145,.slice (some (aS h115 0)) (Int.toNat (x6.n:Int)) (Int.toNat (x6.n:Int))] fun h147=>
 (∃ x148,rS h147 (aS h 1) x148 /\
 (QI 0 h147 fun I149 x_152 h153 m151=>(
 (sB (decide (x_152<(x148.n:Int)))
 ((NB x148.a fun b154 o155=>(Ib x_152 x148.n /\
 (∃ x156,rS h153 ⟨b154,o155+Int.toNat x_152*1,none⟩ x156 /\
 (∃ x157,rS h153 (aS h4 1) x157 /\
 (Fn Pz 92 #[vS x156] h153
 (fun v158 h160=>∃ x159,iS v158 x159 /\
 (Sm [(aS h4 1)] h153 h160 /\
 (NB x157.a fun b161 o162=>(Ib x_152 x157.n /\
 (Wp h160 ⟨b161,o162+Int.toNat x_152*1,none⟩ 1 [vS x159] fun h163=>
 (∃ m164,m164<m151/\I149 (IntKind.wrap .i64 (x_152+1)) h163 m164))))))))))))
 ((∃ (x165 x166:Sl),atC h153 (aS h4 0) [vS x165,vS x166] /\
 (Wp h153 (aS h3 0) 2 [vS x165,vS x166] fun h167=>
 (∃ (x168 x169:Sl),atC h167 (aS h3 0) [vS x168,vS x169] /\
 R (.agg ⟨[vS x168,vS x169]⟩) h167))))))))))))))))))))))
theorem vc59 (p0_1 p0_2:Sl) (h:Heap) (R:Value->Heap->Prop) (H:W59 p0_1 p0_2 h R):Fn Pz 59 #[.agg ⟨[vS p0_1,vS p0_2]⟩] h R:=fnI (A:=(.s .z (.s .z (.s (.s .z (.b (.l [(17,.one (.int .i64))] .z))) .z)))) (by kernel_rfl) H

def W57 (p0:Sl) (p1_1 p1_2:Int) (h:Heap) (R:Value->Heap->Prop):Prop:=
 (Wn h [vI p1_1,vI p1_2] 57 fun h3=>
 (Wn h3 [vI 0,.bool false,vI 0,vI 0,vI 0,.bool false] 108 fun h4=>
 (∃ x5,rI h4 (aS h 0) x5 /\
 (sB (decide (x5<0))
 ((Wp h4 (aS h3 0) 6 [vI 0,.bool false,vI 0,vI 0,vI 0,.bool false] fun h6=>
 (∃ x7 x8 x9 x10 x11 x12,aL0 h6 (aS h3 0) x7 x8 x9 x10 x11 x12 /\
 R (.tuple ⟨[.agg ⟨(L0 x7 x8 x9 x10 x11 x12)⟩,.bool false]⟩) h6)))
 ((∃ x13,rI h4 (aS h 0) x13 /\
 (sB (decide (x13 >= (p0.n:Int)))
 ((Wp h4 (aS h3 0) 6 [vI 0,.bool false,vI 0,vI 0,vI 0,.bool false] fun h14=>
 (∃ x15 x16 x17 x18 x19 x20,aL0 h14 (aS h3 0) x15 x16 x17 x18 x19 x20 /\
 R (.tuple ⟨[.agg ⟨(L0 x15 x16 x17 x18 x19 x20)⟩,.bool false]⟩) h14)))
 ((∃ x21,rI h4 (aS h 1) x21 /\
 (sB (decide (x21<0))
 ((Wp h4 (aS h3 0) 6 [vI 0,.bool false,vI 0,vI 0,vI 0,.bool false] fun h22=>
 (∃ x23 x24 x25 x26 x27 x28,aL0 h22 (aS h3 0) x23 x24 x25 x26 x27 x28 /\
 R (.tuple ⟨[.agg ⟨(L0 x23 x24 x25 x26 x27 x28)⟩,.bool false]⟩) h22)))
 ((∃ x29,rI h4 (aS h 1) x29 /\
 (∃ x30,rI h4 (aS h 0) x30 /\
 (NB p0.a fun b31 o32=>(Ib x30 p0.n /\
 (∃ x33,rS h4 ⟨b31,o32+Int.toNat x30*6+4,none⟩ x33 /\
 (sB (decide (x29 >= (x33.n:Int)))
 ((Wp h4 (aS h3 0) 6 [vI 0,.bool false,vI 0,vI 0,vI 0,.bool false] fun h34=>
 (∃ x35 x36 x37 x38 x39 x40,aL0 h34 (aS h3 0) x35 x36 x37 x38 x39 x40 /\
 R (.tuple ⟨[.agg ⟨(L0 x35 x36 x37 x38 x39 x40)⟩,.bool false]⟩) h34)))
 ((∃ x41,rI h4 (aS h 0) x41 /\
 (NB p0.a fun b42 o43=>(Ib x41 p0.n /\
 (∃ x44,rS h4 ⟨b42,o43+Int.toNat x41*6+4,none⟩ x44 /\
 (∃ x45,rI h4 (aS h 1) x45 /\
 (NB x44.a fun b46 o47=>(Ib x45 x44.n /\
 (∃ x48 x49 x50 x51 x52 x53,aL0 h4 ⟨b46,o47+Int.toNat x45*6,none⟩ x48 x49 x50 x51 x52 x53 /\
 (Wp h4 (aS h3 0) 6 (L0 x48 x49 x50 x51 x52 x53) fun h54=>
 (∃ x55 x56 x57 x58 x59 x60,aL0 h54 (aS h3 0) x55 x56 x57 x58 x59 x60 /\
 R (.tuple ⟨[.agg ⟨(L0 x55 x56 x57 x58 x59 x60)⟩,.bool true]⟩) h54))))))))))))))))))))))))))))
theorem vc57 (p0:Sl) (p1_1 p1_2:Int) (h:Heap) (R:Value->Heap->Prop) (H:W57 p0 p1_1 p1_2 h R):Fn Pz 57 #[vS p0,.agg ⟨[vI p1_1,vI p1_2]⟩] h R:=fnI (A:=.z) (by kernel_rfl) H

def W27 (p0:Sl) (p1:Int) (p2_1 p2_2:Sl) (p3_3 p3_4:Int) (h:Heap) (R:Value->Heap->Prop):Prop:=
 (Wn h [vS p2_1,vS p2_2] 29 fun h5=>
 (Wn h5 [vI p3_3,vI p3_4] 57 fun h6=>
 (Wn h6 [.slice none 0 0,.slice none 0 0] 29 fun h7=>
 (∃ (x8 x9:Sl),atC h7 (aS h 0) [vS x8,vS x9] /\
 (Fn Pz 24 #[vS p0,vI p1,.agg ⟨[vS x8,vS x9]⟩] h7
 (fun v10 h12=>∃ x11,iB v10 x11 /\
 (sB (!x11)
 ((Wp h12 (aS h6 0) 2 [.slice none 0 0,.slice none 0 0] fun h13=>
 (∃ (x14 x15:Sl),atC h13 (aS h6 0) [vS x14,vS x15] /\
 R (.tuple ⟨[.agg ⟨[vS x14,vS x15]⟩,vI 1]⟩) h13)))
 ((∃ (x16 x17:Int),atC h12 (aS h5 0) [vI x16,vI x17] /\
 (Fn Pz 57 #[vS p0,.agg ⟨[vI x16,vI x17]⟩] h12
 (fun v18 h26=>∃ (x19:Int) (x20:Bool) (x21 x22 x23:Int) (x24 x25:Bool),v18=.tuple ⟨[.agg ⟨(L0 x19 x20 x21 x22 x23 x24)⟩,.bool x25]⟩ /\
 (Wn h26 [vI 0,.bool false,vI 0,vI 0,vI 0,.bool false] 108 fun h27=>
 (Wp h27 (aS h26 0) 6 (L0 x19 x20 x21 x22 x23 x24) fun h28=>
 (sB (!x25)
 ((Wp h28 (aS h6 0) 2 [.slice none 0 0,.slice none 0 0] fun h29=>
 (∃ (x30 x31:Sl),atC h29 (aS h6 0) [vS x30,vS x31] /\
 R (.tuple ⟨[.agg ⟨[vS x30,vS x31]⟩,vI 2]⟩) h29)))
 ((∃ (x32 x33:Sl),atC h28 (aS h 0) [vS x32,vS x33] /\
 (∃ x34,rI h28 (aS h5 0) x34 /\
 (∃ x35 x36 x37 x38 x39 x40,aL0 h28 (aS h26 0) x35 x36 x37 x38 x39 x40 /\
 (Fn Pz 58 #[vI (p0.n:Int),vI p1,.agg ⟨[vS x32,vS x33]⟩,vI x34,.agg ⟨(L0 x35 x36 x37 x38 x39 x40)⟩] h28
 (fun v41 h43=>∃ x42,iI v41 x42 /\
 (sB (x42 != 0)
 ((Wp h43 (aS h6 0) 2 [.slice none 0 0,.slice none 0 0] fun h44=>
 (∃ (x45 x46:Sl),atC h44 (aS h6 0) [vS x45,vS x46] /\
 R (.tuple ⟨[.agg ⟨[vS x45,vS x46]⟩,vI x42]⟩) h44)))
 ((∃ (x47 x48:Sl),atC h43 (aS h 0) [vS x47,vS x48] /\
 (Fn Pz 59 #[.agg ⟨[vS x47,vS x48]⟩] h43
 (fun v49 h52=>∃ (x50 x51:Sl),v49=.agg ⟨[vS x50,vS x51]⟩ /\
 (Wn h52 [.slice none 0 0,.slice none 0 0] 29 fun h53=>
 (Wp h53 (aS h52 0) 2 [vS x50,vS x51] fun h54=>
 (∃ x55,rS h54 (aS h52 0) x55 /\
 (∃ x56,rI h54 (aS h5 0) x56 /\
 (∃ x57,rI h54 (aS h26 4) x57 /\
 (NB x55.a fun b58 o59=>(Ib x56 x55.n /\
 (Wp h54 ⟨b58,o59+Int.toNat x56*1,none⟩ 1 [vI x57] fun h60=>
 (∃ x61,rI h60 (aS h5 0) x61 /\
 (∃ x62 x63 x64 x65 x66 x67,aL0 h60 (aS h26 0) x62 x63 x64 x65 x66 x67 /\
 (Fn Pz 60 #[vI (p0.n:Int),vI x61,.agg ⟨(L0 x62 x63 x64 x65 x66 x67)⟩] h60
 (fun v68 h70=>∃ x69,iI v68 x69 /\
 (∃ x71,rB h70 (aS h26 1) x71 /\
 (sB x71
 ((∃ x72,rS h70 (aS h52 1) x72 /\
 (∃ x73,rS h70 (aS h52 1) x73 /\
 (NB x73.a fun b74 o75=>(Ib x69 x73.n /\
 (∃ x76,rS h70 ⟨b74,o75+Int.toNat x69*1,none⟩ x76 /\
 (∃ x77,rI h70 (aS h26 3) x77 /\
 (Wn h70 [vI x77] 3 fun h78=>
 (Sm [⟨b74,o75+Int.toNat x69*1,none⟩,(aS h52 1),(aS h52 1)] h70 h78 /\
 (App Pz 23 23 (vS x76) (.slice (some (aS h70 0)) 1 1) h78 fun s79 h80=>
 (Sm [(aS h52 1)] h78 h80 /\
 (NB x72.a fun b81 o82=>(Ib x69 x72.n /\
 (Wp h80 ⟨b81,o82+Int.toNat x69*1,none⟩ 1 [vS s79] fun h83=>
 (∃ (x84 x85:Sl),atC h83 (aS h52 0) [vS x84,vS x85] /\
 (Wp h83 (aS h6 0) 2 [vS x84,vS x85] fun h86=>
 (∃ (x87 x88:Sl),atC h86 (aS h6 0) [vS x87,vS x88] /\
 R (.tuple ⟨[.agg ⟨[vS x87,vS x88]⟩,vI 0]⟩) h86)))))))))))))))))
 ((∃ x89,rS h70 (aS h52 1) x89 /\
 (∃ x90,rS h70 (aS h52 1) x90 /\
 (NB x90.a fun b91 o92=>(Ib x69 x90.n /\
 (∃ x93,rS h70 ⟨b91,o92+Int.toNat x69*1,none⟩ x93 /\
 (((0:Int)<=(1:Int)/\(1:Int)<=((x93.n:Nat):Int)/\((x93.n:Nat):Int)<=(x93.c:Nat)) /\
 (NB x89.a fun b94 o95=>(Ib x69 x89.n /\
 (Wp h70 ⟨b94,o95+Int.toNat x69*1,none⟩ 1 [.slice (subA x93.a (Int.toNat 1) x93.c 1) (Int.toNat (x93.n:Nat) - Int.toNat 1) (x93.c - Int.toNat 1)] fun h96=>
 (∃ (x97 x98:Sl),atC h96 (aS h52 0) [vS x97,vS x98] /\
 (Wp h96 (aS h6 0) 2 [vS x97,vS x98] fun h99=>
 (∃ (x100 x101:Sl),atC h99 (aS h6 0) [vS x100,vS x101] /\
 R (.tuple ⟨[.agg ⟨[vS x100,vS x101]⟩,vI 0]⟩) h99))))))))))))))))))))))))))))))))))))))))))))))))))))
theorem vc27 (p0:Sl) (p1:Int) (p2_1 p2_2:Sl) (p3_3 p3_4:Int) (h:Heap) (R:Value->Heap->Prop) (H:W27 p0 p1 p2_1 p2_2 p3_3 p3_4 h R):Fn Pz 27 #[vS p0,vI p1,.agg ⟨[vS p2_1,vS p2_2]⟩,.agg ⟨[vI p3_3,vI p3_4]⟩] h R:=fnI (A:=.z) (by kernel_rfl) H

end Go.VC
end

section
namespace Go.VC
open Go.Proofs

def W92 (p0:Sl) (h:Heap) (R:Value->Heap->Prop):Prop:=
 (sB (Option.isNone p0.a)
 (R (.slice none 0 0) h)
 ((Wn h [] 3 fun h1=>
 (App Pz 23 23 (.slice (some (aS h 0)) 0 0) (vS p0) h1 fun s2 h3=>
 R (vS s2) h3))))
theorem vc92 (p0:Sl) (h:Heap) (R:Value->Heap->Prop) (H:W92 p0 h R):Fn Pz 92 #[vS p0] h R:=fnI (A:=.z) (by kernel_rfl) H

end Go.VC
end

section
/- Contracts: clones of lists and configurations, moves by number. (Numbers of layer 27's development dump.) -/
namespace Go.VC
open Go.Proofs Go.LexS
theorem clone92 (l:List Int) (s:Sl) (h:Heap) (hr:RL h 1 s inC l):Fn Pz 92 #[.slice s.a s.n s.c] h fun v h'=>∃ t:Sl,v=.slice t.a t.n t.c/\St h h' [.sl t 3 1 (l.map inC)]:=by
 apply vc92 s; unfold W92
 have hn:=hr.ln
 have hsm:=hr.sm
 refine sB_intro (fun c=>?_) (fun c=>?_)
 ·
  have h0:=hr.nil (Option.isNone_iff_eq_none.1 c)
  have:l=[]:=List.eq_nil_of_length_eq_zero (by omega)
  subst this
  exact ⟨⟨none,0,0⟩,rfl,(St.refl h).nil_ 3 1⟩
 ·
  refine (St.refl h).newb fun h1 hs=>?_
  have hs:=hs.blkS 0 1 [] rfl (fun r hr=>by cases hr) rfl (Nat.zero_le _)
  refine hs.appRw 0 (s:=⟨some ⟨h.size,0,none⟩,0,0⟩) (rows:=[]) (y:=s) rfl app42 (hr.rw.ext hs.ext) (inrows' l) hr.nil (flat_oneB (fun _=>rfl) _) (by show (0+s.n)*8<=_; omega) (by show 0+s.n<=_; simp only [maxLen]; omega) fun r h3 _ hs=>?_
  exact ⟨r,rfl,hs⟩
def clB (ob b0 b3:Nat) (h12:Heap) (R:Value->Heap->Prop):Prop:=
 (∃ x13:Sl,hc h12 ⟨b0,1,none⟩=some (.slice x13.a x13.n x13.c) /\ 
 (∃ I14:Int->Heap->Nat->Prop,(∃ m15,I14 0 h12 m15) /\ 
 (∀ (_:Env) (x_17:Int) (h18:Heap) (m16:Nat),I14 x_17 h18 m16 -> 
 (sB (decide (x_17<(x13.n:Int))) 
  ((NB x13.a fun b19 o20=>((0<=(x_17:Int)/\(x_17:Int)<(x13.n:Nat)) /\ 
  (∃ x21:Sl,hc h18 ⟨b19,o20+Int.toNat x_17*1,none⟩=some (.slice x21.a x21.n x21.c) /\ 
  (∃ x22:Sl,hc h18 ⟨ob,1,none⟩=some (.slice x22.a x22.n x22.c) /\ 
  (Fn Pz 92 #[.slice x21.a x21.n x21.c] h18 
  (fun v23 h25=>∃ x24:Sl,v23=.slice x24.a x24.n x24.c /\ 
  (Sm [⟨ob,1,none⟩] h18 h25 /\ 
  (NB x22.a fun b26 o27=>((0<=(x_17:Int)/\(x_17:Int)<(x22.n:Nat)) /\ 
  (okAt h25 ⟨b26,o27+Int.toNat x_17*1,none⟩ 1/\∀ h28:Heap,h28=hputs h25 ⟨b26,o27+Int.toNat x_17*1,none⟩ 0 [.slice x24.a x24.n x24.c] -> 
  (∃ m29,m29<m16/\I14 (IntKind.wrap .i64 (x_17+1)) h28 m29)))))))))))) 
  ((∃ x30:Sl,∃ x31:Sl,atC h18 ⟨ob,0,none⟩ [.slice x30.a x30.n x30.c,.slice x31.a x31.n x31.c] /\ 
  (okAt h18 ⟨b3,0,none⟩ 2/\∀ h32:Heap,h32=hputs h18 ⟨b3,0,none⟩ 0 [.slice x30.a x30.n x30.c,.slice x31.a x31.n x31.c] -> 
  (∃ x33:Sl,∃ x34:Sl,atC h32 ⟨b3,0,none⟩ [.slice x33.a x33.n x33.c,.slice x34.a x34.n x34.c] /\ 
  R (.agg ⟨[.slice x33.a x33.n x33.c,.slice x34.a x34.n x34.c]⟩) h32))))))))
def CloV (S:List Int) (B:List Bx) (h:Heap) (v:Value) (h':Heap):Prop:=∃ (ts tb:Sl) (T:List Bx),v=cfA ts tb/\T.map Bx.l=B.map Bx.l/\St h h' ([.sl ts 3 1 (S.map inC),.sl tb 23 1 (T.map Bx.cs)]++T.map Bx.it)
theorem set_grow {α:Type} {T:List α} {i k:Nat} {z x:α} (hT:T.length=i):(T++List.replicate (k+1) z).set i x=(T++[x])++List.replicate k z:=by
 subst hT
 rw [List.set_append_right _ _ (Yyt _),Nat.sub_self,List.replicate_succ,List.set_cons_zero,Yz]; rfl
set_option maxHeartbeats 1600000 in
theorem cloneB (ob b0 b3:Nat) (ss sb ts tb u1 u2:Sl) (S:List Int) (B:List Bx) (h h12:Heap) (hC:CfI h ss sb S B)
  (hs:St h h12 [.blk ob [.slice ts.a ts.n ts.c,.slice tb.a tb.n tb.c] 29,.sl tb 23 1 ((List.replicate B.length bx0).map Bx.cs),.blk b3 [.slice u1.a u1.n u1.c,.slice u2.a u2.n u2.c] 29,.blk b0 [.slice ss.a ss.n ss.c,.slice sb.a sb.n sb.c] 29,.sl ts 3 1 (S.map inC)]) :
  clB ob b0 b3 h12 (CloV S B h):=by
 unfold clB
 have hbn:=hC.b.ln
 have hbs:=hC.b.sm
 refine ⟨sb,hs.rd 3 rfl (i:=1) rfl,?_⟩
 refine ⟨fun x h' μ=>∃ (i:Nat) (T:List Bx),x=(i:Int)/\μ=B.length - i/\i<=B.length/\T.map Bx.l=(B.take i).map Bx.l/\St h h' (.blk ob [.slice ts.a ts.n ts.c,.slice tb.a tb.n tb.c] 29 :: .sl tb 23 1 ((T++List.replicate (B.length - i) bx0).map Bx.cs) :: .blk b3 [.slice u1.a u1.n u1.c,.slice u2.a u2.n u2.c] 29 :: .blk b0 [.slice ss.a ss.n ss.c,.slice sb.a sb.n sb.c] 29 :: .sl ts 3 1 (S.map inC)::T.map Bx.it),⟨_,0,[],rfl,rfl,Nat.zero_le _,rfl,hs⟩,?_⟩
 clear hs
 rintro - _ h18 μ ⟨i,T,rfl,rfl,hi,hT,hs⟩
 have hTl:T.length=i:=by have:=congrArg List.length hT; rw [Yc,Yc,Yu] at this; omega
 have htb:=(hs.rows 1 (s:=tb) (cs:=Bx.cs) rfl (by omega)).ln
 rw [Yh,Yg] at htb
 refine sBi (fun c=>?_) (fun c=>?_)
 ·
  obtain ⟨q,gq⟩:=get_some (l:=B) (i:=i) (by omega)
  refine (hC.b.rw.ext hs.ext).nbI (by omega) (by omega) fun b o q' gq' t=>?_
  rw [Ys] at gq'
  rw [gq] at gq'; cases gq'
  refine ⟨q.s,t.hd,tb,hs.rd 0 rfl (i:=1) rfl,?_⟩
  refine (clone92 q.l q.s h18 ((hC.i q (Yb gq)).ext hs.ext)).mono ?_
  rintro _ h25 ⟨u,rfl,hs2⟩
  have hs:=hs.join hs2
  refine ⟨u,rfl,hs2.ext.sm,?_⟩
  refine hs.set 1 (s:=tb) (cs:=Bx.cs) (x:=(i:Int)) rfl (by omega) (by omega) (by omega) (⟨u,q.l⟩:Bx) rfl rfl (fun b o h28 hs=>?_) rfl
  refine ⟨_,(show B.length - (i+1)<B.length - i by omega),i+1,T++[⟨u,q.l⟩],by rw [w64 (by omega) (by omega)]; omega,rfl,by omega,?_,?_⟩
  ·
   rw [take_snoc gq,Ym,Ym,hT]; rfl
  ·
   have e:=set_grow (k:=B.length - (i+1)) (z:=bx0) (x:=(⟨u,q.l⟩:Bx)) hTl
   rw [show B.length - (i+1)+1=B.length - i by omega] at e
   rw [Ys,e] at hs
   rw [Ym (f:=Bx.it)]
   exact hs
 ·
  have hil:i=B.length:=by omega
  rw [hil,Nat.sub_self,List.replicate_zero,Yw] at hs
  rw [hil,Yj (Yyt _)] at hT
  refine ⟨ts,tb,hs.at 0 rfl (o:=0) (n:=2) rfl,?_⟩
  refine hs.put 2 rfl (o:=0) (vs:=[.slice ts.a ts.n ts.c,.slice tb.a tb.n tb.c]) rfl (show 2<=2 by decide) fun h32 hs=>?_
  refine ⟨ts,tb,hs.at 2 rfl (o:=0) (n:=2) rfl,ts,tb,T,rfl,hT,?_⟩
  refine (hs.sub (L':=.sl tb 23 1 (T.map Bx.cs) :: .sl ts 3 1 (S.map inC)::T.map Bx.it) ?_).perm (List.Perm.swap _ _ _)
  exact List.Sublist.cons _ (List.Sublist.cons_cons _ (List.Sublist.cons _ (List.Sublist.cons _ (List.Sublist.refl _))))
end Go.VC
end

section
/- Contracts: clone of a configuration, move by number. (Numbers of layer 27's development dump.) -/
namespace Go.VC
open Go.Proofs Go.LexS
theorem boxes0 (n:Nat):madeL Pz 23 n=((List.replicate n bx0).map Bx.cs).flatten:=by rw [made42,List.map_replicate,List.map_replicate]; rfl
set_option maxHeartbeats 3200000 in
theorem clone59 (ss sb:Sl) (S:List Int) (B:List Bx) (h:Heap) (hC:CfI h ss sb S B) :
  Fn Pz 59 #[.agg ⟨[.slice ss.a ss.n ss.c,.slice sb.a sb.n sb.c]⟩] h (CloV S B h):=by
 apply vc59 ss sb; unfold W59
 have hbn:=hC.b.ln
 have hbs:=hC.b.sm
 refine (St.refl h).newb fun h3 hs=>?_
 refine hs.newb fun h4 hs=>?_
 refine ⟨ss,hs.rd 1 rfl (i:=0) rfl,sb,hs.rd 1 rfl (i:=1) rfl,?_⟩
 rw [Ys]
 have hc:((0:Int)<=(sb.n:Int)/\((sb.n:Int):Int)<=(sb.n:Int)/\((24:Nat):Int)*(sb.n:Int)<=140737488355328):=⟨by omega,by omega,by omega⟩
 have mk:∀ {hX:Heap} {b:Nat} {L:List It},St h hX (.blk b (madeL Pz 23 sb.n) 23::L)->St h hX (.sl ⟨some ⟨b,0,none⟩,sb.n,sb.n⟩ 23 1 ((List.replicate B.length bx0).map Bx.cs)::L):=fun hs=>
  hs.blkS sb.n 1 _ (by rw [hbn]; exact boxes0 _) (bxrows _) (by rw [Yc,Yg,hbn]) (by simp only [maxLen]; omega)
 refine And.intro ?_ (And.intro ?_ ?_)
 ·
  refine (clone92 S ss h4 (hC.s.ext hs.ext)).mono ?_
  rintro _ h9 ⟨ts,rfl,hs2⟩
  have hs:=hs.join hs2
  refine ⟨ts,rfl,hs2.ext.sm,And.intro ?_ ?_⟩
  ·
   refine ⟨hc,hs.newbE fun h10 E10 hs=>⟨E10.sm,?_⟩⟩
   have hs:=mk hs
   refine hs.newbE fun h11 E11 hs=>⟨E11.sm,?_⟩
   refine hs.put 0 rfl (o:=0) (vs:=[.slice ts.a ts.n ts.c,.slice (some ⟨h9.size,0,none⟩) sb.n sb.n]) rfl (show 2<=2 by decide) fun h12 hs=>?_
   exact cloneB _ _ _ ss sb ts ⟨some ⟨h9.size,0,none⟩,sb.n,sb.n⟩ ⟨none,0,0⟩ ⟨none,0,0⟩ S B h h12 hC hs
  ·
   refine hs.newbE fun h10 E10 hs=>⟨E10.sm,hc,?_⟩
   refine hs.newbE fun h11 E11 hs=>⟨E11.sm,?_⟩
   have hs:=mk hs
   refine hs.put 1 rfl (o:=0) (vs:=[.slice ts.a ts.n ts.c,.slice (some ⟨h10.size,0,none⟩) sb.n sb.n]) rfl (show 2<=2 by decide) fun h12 hs=>?_
   exact cloneB _ _ _ ss sb ts ⟨some ⟨h10.size,0,none⟩,sb.n,sb.n⟩ ⟨none,0,0⟩ ⟨none,0,0⟩ S B h h12 hC (hs.perm (List.Perm.swap _ _ _))
 ·
  refine ⟨hc,hs.newbE fun h10 E10 hs=>⟨E10.sm,?_⟩⟩
  have hs:=mk hs
  refine And.intro ?_ ?_
  ·
   refine (clone92 S ss h10 (hC.s.ext hs.ext)).mono ?_
   rintro _ h9 ⟨ts,rfl,hs2⟩
   have hs:=hs.join hs2
   refine ⟨ts,rfl,hs2.ext.sm,?_⟩
   refine hs.newbE fun h11 E11 hs=>⟨E11.sm,?_⟩
   refine hs.put 0 rfl (o:=0) (vs:=[.slice ts.a ts.n ts.c,.slice (some ⟨h4.size,0,none⟩) sb.n sb.n]) rfl (show 2<=2 by decide) fun h12 hs=>?_
   exact cloneB _ _ _ ss sb ts ⟨some ⟨h4.size,0,none⟩,sb.n,sb.n⟩ ⟨none,0,0⟩ ⟨none,0,0⟩ S B h h12 hC hs
  ·
   refine hs.newbE fun h11 E11 hs=>⟨E11.sm,?_⟩
   refine (clone92 S ss h11 (hC.s.ext hs.ext)).mono ?_
   rintro _ h9 ⟨ts,rfl,hs2⟩
   have hs:=hs.join hs2
   refine ⟨ts,rfl,hs2.ext.sm,?_⟩
   refine hs.put 0 rfl (o:=0) (vs:=[.slice ts.a ts.n ts.c,.slice (some ⟨h4.size,0,none⟩) sb.n sb.n]) rfl (show 2<=2 by decide) fun h12 hs=>?_
   exact cloneB _ _ _ ss sb ts ⟨some ⟨h4.size,0,none⟩,sb.n,sb.n⟩ ⟨none,0,0⟩ ⟨none,0,0⟩ S B h h12 hC hs
 ·
  refine hs.newbE fun h10 E10 hs=>⟨E10.sm,And.intro ?_ ?_⟩
  ·
   refine (clone92 S ss h10 (hC.s.ext hs.ext)).mono ?_
   rintro _ h9 ⟨ts,rfl,hs2⟩
   have hs:=hs.join hs2
   refine ⟨ts,rfl,hs2.ext.sm,hc,?_⟩
   refine hs.newbE fun h11 E11 hs=>⟨E11.sm,?_⟩
   have hs:=mk hs
   refine hs.put 1 rfl (o:=0) (vs:=[.slice ts.a ts.n ts.c,.slice (some ⟨h9.size,0,none⟩) sb.n sb.n]) rfl (show 2<=2 by decide) fun h12 hs=>?_
   exact cloneB _ _ _ ss sb ts ⟨some ⟨h9.size,0,none⟩,sb.n,sb.n⟩ ⟨none,0,0⟩ ⟨none,0,0⟩ S B h h12 hC (hs.perm (List.Perm.swap _ _ _))
  ·
   refine ⟨hc,hs.newbE fun h11 E11 hs=>⟨E11.sm,?_⟩⟩
   have hs:=mk hs
   refine (clone92 S ss h11 (hC.s.ext hs.ext)).mono ?_
   rintro _ h9 ⟨ts,rfl,hs2⟩
   have hs:=hs.join hs2
   refine ⟨ts,rfl,hs2.ext.sm,?_⟩
   refine hs.put 1 rfl (o:=0) (vs:=[.slice ts.a ts.n ts.c,.slice (some ⟨h10.size,0,none⟩) sb.n sb.n]) rfl (show 2<=2 by decide) fun h12 hs=>?_
   exact cloneB _ _ _ ss sb ts ⟨some ⟨h10.size,0,none⟩,sb.n,sb.n⟩ ⟨none,0,0⟩ ⟨none,0,0⟩ S B h h12 hC (hs.perm (List.Perm.swap _ _ _))
def mvO (L:List Mch) (r i:Int):Option Mv:=if r<0\/(L.length:Int)<=r then none else match L[r.toNat]? with
 | none=>none
 | some m=>if i<0\/(m.mv.length:Int)<=i then none else m.mv[i.toNat]?
def mv00:Mv:=⟨0,false,0,0,0,false⟩
def MovV (o:Option Mv):Value:=match o with
 | none=>.tuple ⟨[.agg ⟨mv00.cs⟩,.bool false]⟩
 | some x=>.tuple ⟨[.agg ⟨x.cs⟩,.bool true]⟩
set_option maxHeartbeats 1600000 in
theorem move57 (L:List MR) (s:Sl) (r i:Int) (h:Heap) (hS:SyI h s L) :
  Fn Pz 57 #[.slice s.a s.n s.c,.agg ⟨[.int .i64 r,.int .i64 i]⟩] h fun v h'=>v=MovV (mvO (L.map MR.m) r i)/\Ext h h':=by
 apply vc57 s r i; unfold W57
 have hn:=hS.r.ln
 have hlm:(L.map MR.m).length=L.length:=Yc _
 refine (St.refl h).newb fun h3 hs=>?_
 refine hs.newb fun h4 hs=>?_
 have no:∀ {h5:Heap},St h h5 [.blk h3.size mv00.cs 108,.blk h.size [.int .i64 r,.int .i64 i] 57]->mvO (L.map MR.m) r i=none->(okAt h5 ⟨h3.size,0,none⟩ 6/\∀ h6:Heap,h6=hputs h5 ⟨h3.size,0,none⟩ 0 [.int .i64 0,.bool false,.int .i64 0,.int .i64 0,.int .i64 0,.bool false] -> 
   (∃ x7:Int,∃ x8:Bool,∃ x9:Int,∃ x10:Int,∃ x11:Int,∃ x12:Bool,atC h6 ⟨h3.size,0,none⟩ [.int .i64 x7,.bool x8,.int .i64 x9,.int .i64 x10,.int .i64 x11,.bool x12] /\ 
   (Value.tuple ⟨[.agg ⟨[.int .i64 x7,.bool x8,.int .i64 x9,.int .i64 x10,.int .i64 x11,.bool x12]⟩,.bool false]⟩=MovV (mvO (L.map MR.m) r i)/\Ext h h6))):=fun {h5} hs e=>by
  refine hs.put 0 rfl (o:=0) (vs:=mv00.cs) rfl (show 6<=6 by decide) fun h6 hs=>?_
  exact ⟨_,_,_,_,_,_,hs.at 0 rfl (o:=0) (n:=6) rfl,by rw [e]; rfl,hs.ext⟩
 refine ⟨_,hs.rd 1 rfl (i:=0) rfl,sBi (fun c=>no hs (by unfold mvO; rw [if_pos (.inl c)])) (fun c1=>?_)⟩
 refine ⟨_,hs.rd 1 rfl (i:=0) rfl,sBi (fun c=>no hs (by unfold mvO; rw [if_pos (.inr (by omega))])) (fun c2=>?_)⟩
 obtain ⟨p,rfl⟩:∃ p:Nat,r=(p:Int):=⟨r.toNat,by omega⟩
 have hp:p<L.length:=by omega
 obtain ⟨y,gy⟩:=get_some (l:=L) (i:=p) hp
 have gm:(L.map MR.m)[p]?=some y.m:=by rw [Yd,gy]; rfl
 have hmv:mvO (L.map MR.m) (p:Int) i=if i<0\/(y.m.mv.length:Int)<=i then none else y.m.mv[i.toNat]?:=by
  unfold mvO; rw [if_neg (by omega),Ys,gm]
 have hyi:=hS.i y (Yb gy)
 have hgn:=hyi.pm.ln
 refine ⟨_,hs.rd 1 rfl (i:=1) rfl,sBi (fun c=>no hs (by rw [hmv,if_pos (.inl c)])) (fun c3=>?_)⟩
 refine ⟨_,hs.rd 1 rfl (i:=1) rfl,_,hs.rd 1 rfl (i:=0) rfl,?_⟩
 have rdL:∀ {F:Nat->Nat->Prop} {h':Heap},Ext h h'->(∀ b o,atC h' ⟨b,o+p*6,none⟩ y.cs->F b o)->NB s.a fun b o=>(0<=(p:Int)/\(p:Int)<(s.n:Nat))/\F b o:=fun {F h'} E hF=>(hS.r.rw.ext E).nbI (by omega) (by omega) fun b o y' gy' t=>by
  rw [Ys] at gy' t
  replace gy':L[p]?=some y':=gy'
  rw [gy] at gy'; cases gy'
  exact hF b o t
 refine rdL hs.ext fun b1 o1 t1=>?_
 refine ⟨y.g,t1.nth 4 rfl,sBi (fun c=>no hs (by rw [hmv,if_pos (.inr (by omega))])) (fun c4=>?_)⟩
 obtain ⟨j,rfl⟩:∃ j:Nat,i=(j:Int):=⟨i.toNat,by omega⟩
 obtain ⟨x,gx⟩:=get_some (l:=y.m.mv) (i:=j) (by omega)
 refine ⟨_,hs.rd 1 rfl (i:=0) rfl,rdL hs.ext fun b2 o2 t2=>?_⟩
 refine ⟨y.g,t2.nth 4 rfl,_,hs.rd 1 rfl (i:=1) rfl,?_⟩
 refine (hyi.pm.rw.ext hs.ext).nbI (by omega) (by omega) fun b3 o3 x' gx' t3=>?_
 rw [Ys] at gx'
 replace gx':y.m.mv[j]?=some x':=gx'
 rw [gx] at gx'; cases gx'
 refine ⟨_,_,_,_,_,_,t3,?_⟩
 refine hs.put 0 rfl (o:=0) (vs:=x.cs) rfl (show 6<=6 by decide) fun h29 hs=>?_
 refine ⟨_,_,_,_,_,_,hs.at 0 rfl (o:=0) (n:=6) rfl,?_,hs.ext⟩
 rw [hmv,if_neg (by omega),Ys,gx]; rfl
end Go.VC
end

section
/- Contract: Do. (Numbers of layer 27's development dump.) -/
namespace Go.VC
open Go.Proofs Go.LexS
theorem St.smbO {h0 h h1 h':Heap} {L L':List It} (hs:St h0 h L) (hs':St h1 h' L') (k k' o:Nat) {b:Nat} {xs:List Value} {e:TypeId} (hk:L[k]?=some (.blk b xs e)) (hk':L'[k']?=some (.blk b xs e)):Sm [⟨b,o,none⟩] h h':=by
 intro a ha i v hv
 rw [Ye.1 ha] at hv ⊢
 have e1:h[b]?=some (.cells ⟨xs⟩ e):=hs.get hk
 have e2:h'[b]?=some (.cells ⟨xs⟩ e):=hs'.get hk'
 have e3:h'[b]?=h[b]?:=by rw [e1,e2]
 rw [hc_of_block (h:=h) (h':=h') (a:=addk ⟨b,o,none⟩ i) (by rw [addk_block']; exact e3)]
 exact hv
def doB (n p:Nat) (x:Mv) (BL:List (List Int)):List (List Int):=BL.set (bxI n p x) (if x.send=true then BL.getD (bxI n p x) []++[x.label] else (BL.getD (bxI n p x) []).tail)
open Classical in
noncomputable def doS (L:List Mch) (k:Int) (S:List Int) (BL:List (List Int)) (r i:Int):Int × List Int × List (List Int):=
 if ProS L k S BL then match mvO L r i with
  | none=>(2,[],[])
  | some x=>if canS L.length k S BL r.toNat x=0 then (0,S.set r.toNat x.t,doB L.length r.toNat x BL) else (canS L.length k S BL r.toNat x,[],[])
 else (1,[],[])
def DoV (o:Int × List Int × List (List Int)) (h:Heap) (v:Value) (h':Heap):Prop:=∃ (ts tb:Sl) (T:List Bx) (A:List It),v=.tuple ⟨[cfA ts tb,.int .i64 o.1]⟩/\T.map Bx.l=o.2.2/\St h h' A/\CfM A ts tb o.2.1 T
theorem DoV.none_ {o:Int × List Int × List (List Int)} {h h':Heap} {A:List It} {e:Int} (hs:St h h' A) (ho:o=(e,[],[])):DoV o h (.tuple ⟨[.agg ⟨[.slice none 0 0,.slice none 0 0]⟩,.int .i64 e]⟩) h':=by
 subst ho; exact ⟨⟨none,0,0⟩,⟨none,0,0⟩,[],_,rfl,rfl,hs.nil2,CfM.none_.mono fun i hi=>List.mem_append_left _ hi⟩
theorem mvO_some {L:List Mch} {r i:Int} {x:Mv} (h:mvO L r i=some x):∃ p:Nat,r=(p:Int)/\∃ m,L[p]?=some m/\x ∈ m.mv:=by
 unfold mvO at h
 split at h
 ·
  cases h
 ·
  rename_i c
  refine ⟨r.toNat,by omega,?_⟩
  split at h
  ·
   cases h
  ·
   rename_i m gm
   split at h
   ·
    cases h
   ·
    exact ⟨m,gm,Yb h⟩
theorem getD_map {B:List Bx} {j:Nat} {q:Bx} (h:B[j]?=some q):(B.map Bx.l).getD j []=q.l:=by
 rw [Yo,Yd,h]; rfl
set_option maxHeartbeats 3200000 in
theorem do27 (L:List MR) (s:Sl) (k:Int) (ss sb:Sl) (S:List Int) (B:List Bx) (r i:Int) (h:Heap) (hS:SyI h s L) (hC:CfI h ss sb S B) :
  Fn Pz 27 #[.slice s.a s.n s.c,.int .i64 k,.agg ⟨[.slice ss.a ss.n ss.c,.slice sb.a sb.n sb.c]⟩,.agg ⟨[.int .i64 r,.int .i64 i]⟩] h (DoV (doS (L.map MR.m) k S (B.map Bx.l) r i) h):=by
 apply vc27 s k ss sb r i; unfold W27
 have hn:=hS.r.ln
 have hlm:(L.map MR.m).length=s.n:=by rw [Yc,hn]
 have hbm:(B.map Bx.l).length=B.length:=Yc _
 refine (St.refl h).newb fun h5 hs=>?_
 refine hs.newb fun h6 hs=>?_
 refine hs.newb fun h7 hs=>?_
 refine ⟨ss,sb,hs.at 2 rfl (o:=0) (n:=2) rfl,?_⟩
 refine (proper24 L s k ss sb S B h7 (hS.ext hs.ext) (hC.ext hs.ext)).mono ?_
 rintro _ h12 ⟨⟨b,rfl,hb⟩,E⟩
 have hs:=hs.step E
 refine ⟨_,rfl,sB_intro (fun c=>?_) (fun c=>?_)⟩
 ·
  have hnp:¬ ProS (L.map MR.m) k S (B.map Bx.l):=fun hp=>by rw [hb.2 hp] at c; cases c
  refine hs.put 0 rfl (o:=0) (vs:=[.slice none 0 0,.slice none 0 0]) rfl (show 2<=2 by decide) fun h13 hs=>?_
  exact ⟨⟨none,0,0⟩,⟨none,0,0⟩,hs.at 0 rfl (o:=0) (n:=2) rfl,DoV.none_ hs (by unfold doS; rw [if_neg hnp])⟩
 have hP:=hb.1 (bT c)
 have hV6:=hP.v.n
 have hSl:S.length=s.n:=by rw [hP.p.s,hlm]
 have hBl:B.length=s.n*s.n:=by rw [<- hbm,hP.p.b,hlm]
 rw [hlm] at hV6
 have h36:=sq6 hV6.2
 refine ⟨r,i,hs.at 1 rfl (o:=0) (n:=2) rfl,?_⟩
 refine (move57 L s r i h12 (hS.ext hs.ext)).mono ?_
 rintro v h26 ⟨hv,E⟩
 have hs:=hs.step E
 cases hmo:mvO (L.map MR.m) r i with
 | none=>
  rw [hmo] at hv; subst hv
  refine ⟨_,_,_,_,_,_,false,rfl,?_⟩
  refine hs.newput (vs:=mv00.cs) rfl rfl fun h28 hs=>sB_t rfl ?_
  refine hs.put 1 rfl (o:=0) (vs:=[.slice none 0 0,.slice none 0 0]) rfl (show 2<=2 by decide) fun h29 hs=>?_
  exact ⟨⟨none,0,0⟩,⟨none,0,0⟩,hs.at 1 rfl (o:=0) (n:=2) rfl,DoV.none_ hs (by unfold doS; rw [if_pos hP,hmo])⟩
 | some x=>
  rw [hmo] at hv; subst hv
  have hdo:doS (L.map MR.m) k S (B.map Bx.l) r i=if canS s.n k S (B.map Bx.l) r.toNat x=0 then (0,S.set r.toNat x.t,doB s.n r.toNat x (B.map Bx.l)) else (canS s.n k S (B.map Bx.l) r.toNat x,[],[]):=by
   unfold doS; rw [if_pos hP,hmo,<- hlm]
  obtain ⟨p,rfl,m,gm,hxm⟩:=mvO_some hmo
  rw [hdo]; clear hdo hmo
  rw [Ys]
  have hp:p<s.n:=by rw [<- hlm]; exact (Ya.1 gm).1
  have hvm:=hP.v.m p m gm
  have hx0:0<=x.peer:=(hvm.2.1.n.mv x hxm).2.2.2.2.1
  have hx1:x.peer<(s.n:Int):=by have:=hvm.2.2 x hxm; rw [hlm] at this; exact this
  have hj:=bxI_lt (n:=s.n) (x:=x) hp hx0 hx1
  refine ⟨x.f,x.send,x.peer,x.label,x.t,x.ag,true,rfl,?_⟩
  refine hs.newput (vs:=x.cs) rfl rfl fun h28 hs=>sB_f rfl ?_
  refine ⟨ss,sb,hs.at 3 rfl (o:=0) (n:=2) rfl,(p:Int),hs.rd 2 rfl (i:=0) rfl,x.f,x.send,x.peer,x.label,x.t,x.ag,hs.at 0 rfl (o:=0) (n:=6) rfl,?_⟩
  refine (can58 s.n k ss sb S B p x h28 (hC.ext hs.ext) hV6.2 hSl hBl hp hx0 hx1).mono ?_
  rintro _ h43 ⟨rfl,E⟩
  have hs:=hs.step E
  refine ⟨_,rfl,sBn (fun c=>?_) (fun c=>?_)⟩
  ·
   refine hs.put 1 rfl (o:=0) (vs:=[.slice none 0 0,.slice none 0 0]) rfl (show 2<=2 by decide) fun h29 hs=>?_
   exact ⟨⟨none,0,0⟩,⟨none,0,0⟩,hs.at 1 rfl (o:=0) (n:=2) rfl,DoV.none_ hs (by rw [if_neg c])⟩
  rw [if_pos c]
  refine ⟨ss,sb,hs.at 3 rfl (o:=0) (n:=2) rfl,?_⟩
  refine (clone59 ss sb S B h43 (hC.ext hs.ext)).mono ?_
  rintro _ h52 ⟨ts,tb,T,rfl,hT,hs2⟩
  have hs:=hs.join hs2
  have hTl:T.length=B.length:=by rw [<- Yc (f:=Bx.l),hT,hbm]
  refine ⟨ts,tb,rfl,?_⟩
  refine hs.newput (vs:=[.slice ts.a ts.n ts.c,.slice tb.a tb.n tb.c]) rfl rfl fun h54 hs=>?_
  have hts:=(hs.rows 5 (s:=ts) (cs:=inC) rfl (by omega)).ln
  have htb:=(hs.rows 6 (s:=tb) (cs:=Bx.cs) rfl (by omega)).ln
  refine ⟨ts,hs.rd 0 rfl (i:=0) rfl,(p:Int),hs.rd 3 rfl (i:=0) rfl,x.t,hs.rd 1 rfl (i:=4) rfl,?_⟩
  refine hs.set 5 (s:=ts) (cs:=inC) (x:=(p:Int)) rfl (by omega) (by omega) (by omega) x.t rfl rfl (fun b o h60 hs=>?_) rfl
  refine ⟨(p:Int),hs.rd 3 rfl (i:=0) rfl,x.f,x.send,x.peer,x.label,x.t,x.ag,hs.at 1 rfl (o:=0) (n:=6) rfl,?_⟩
  refine (box60 s.n p x h60 hV6.2 hp hx0 hx1).mono ?_
  rintro _ h70 ⟨rfl,E⟩
  have hs:=hs.step E
  rw [Ys] at hs
  have hBd:=hP.p.bx
  unfold doB
  generalize hjj:bxI s.n p x=j at hj ⊢
  obtain ⟨q,gq⟩:=get_some (l:=T) (i:=j) (by omega)
  have hql:(B.map Bx.l).getD j []=q.l:=by rw [<- hT]; exact getD_map gq
  have hqb:(B.map Bx.l)[j]?=some q.l:=by rw [<- hT,Yd,gq]; rfl
  have hqk:=(hBd j q.l hqb).1
  have hk4:=hP.c.2
  have hall:∀ z ∈ T,z.l.length<=4:=fun z hz=>by
   obtain ⟨j',gj⟩:=Yf.1 hz
   have:=(hBd j' z.l (by rw [<- hT,Yd,gj]; rfl)).1
   omega
  have hsl:(S.set p x.t).length<=1048576:=by rw [Yyh]; omega
  have rdB:∀ {h':Heap} {L':List It} {F:Nat->Nat->Prop} (kk:Nat),St h h' L'->L'[kk]?=some (.sl tb 23 1 (T.map Bx.cs))->(∀ b o,hc h' ⟨b,o+Int.toNat (j:Int)*1,none⟩=some (.slice q.s.a q.s.n q.s.c)->F b o)->NB tb.a fun b o=>(0<=(j:Int)/\(j:Int)<(tb.n:Nat))/\F b o:=fun kk hs hk hF=>
   (hs.rows kk (s:=tb) (cs:=Bx.cs) hk (by omega)).nbI (by omega) (by omega) fun b o q' gq' t=>by
    rw [Ys,gq] at gq'; cases gq'; exact hF b o t.hd
  refine ⟨(j:Int),rfl,x.send,hs.rd 1 rfl (i:=1) rfl,sB_intro (fun d=>?_) (fun d=>?_)⟩
  ·
   rw [if_pos d]
   refine ⟨tb,hs.rd 0 rfl (i:=1) rfl,tb,hs.rd 0 rfl (i:=1) rfl,rdB 6 hs rfl fun b o t=>?_⟩
   refine ⟨q.s,t,x.label,hs.rd 1 rfl (i:=3) rfl,?_⟩
   refine hs.newbE fun h78 E78 hs=>⟨E78.sm,?_⟩
   have hs78:=hs
   have hqi:(T.map Bx.it)[j]?=some q.it:=by rw [Yd,gq]; rfl
   have hqn:=(hs.len (j+8) (s:=q.s) (e:=3) (n:=1) (rows:=q.l.map inC) hqi (by omega)).1
   rw [Yc] at hqn
   have hq4:=hall q (Yb gq)
   refine hs.appended (j+8) (s:=q.s) (n:=1) (rows:=q.l.map inC) hqi app42 (m:=1) (news:=[inC x.label]) (hs.at 0 rfl (n:=1) rfl) rfl (by simp [inC]) rfl (by omega) (by simp only [maxLen]; omega) fun u h80 nr hs=>?_
   refine ⟨hs78.smbO hs 1 1 1 rfl rfl,?_⟩
   refine hs.set 7 (s:=tb) (cs:=Bx.cs) (x:=(j:Int)) rfl (by omega) (by omega) (by omega) (⟨u,q.l++[x.label]⟩:Bx) rfl rfl (fun b o h83 hs=>?_) rfl
   refine ⟨ts,tb,hs.at 1 rfl (o:=0) (n:=2) rfl,?_⟩
   refine hs.put 3 rfl (o:=0) (vs:=[.slice ts.a ts.n ts.c,.slice tb.a tb.n tb.c]) rfl (show 2<=2 by decide) fun h86 hs=>?_
   rw [Ys] at hs
   refine ⟨ts,tb,hs.at 3 rfl (o:=0) (n:=2) rfl,ts,tb,T.set j ⟨u,q.l++[x.label]⟩,_,rfl,?_,hs,?_⟩
   ·
    rw [List.map_set,hT,hql]
   ·
    refine ⟨Yb (i:=6) rfl,Yb (i:=7) rfl,fun z hz=>.inr (.inl ?_),hsl,by rw [Yyh]; omega,fun z hz=>?_⟩
    ·
     obtain ⟨j',gj⟩:=Yf.1 hz
     refine Yb (i:=j'+8) ?_
     show ((T.map Bx.it).set j (.sl u 3 1 (q.l.map inC++[inC x.label])))[j']?=_
     have e1:It.sl u 3 1 (q.l.map inC++[inC x.label])=Bx.it ⟨u,q.l++[x.label]⟩:=by unfold Bx.it; rw [Ym]; rfl
     rw [e1,<- List.map_set,Yd,gj]; rfl
    ·
     rcases List.mem_or_eq_of_mem_set hz with hz | rfl
     ·
      have:=hall z hz; omega
     ·
      show (q.l++[x.label]).length<=_
      rw [Yh,Yv]; omega
  ·
   rw [if_neg (by rw [d]; decide)]
   have hqm:=Yb gq
   have hqi:(T.map Bx.it)[j]?=some q.it:=by rw [Yd,gq]; rfl
   have hql2:=hs.len (j+7) (s:=q.s) (e:=3) (n:=1) (rows:=q.l.map inC) hqi (by omega)
   have hqn:=hql2.1
   rw [Yc] at hqn
   obtain ⟨tl,hqe⟩:∃ tl,q.l=x.label::tl:=by
    unfold canS at c
    rw [hjj,hql] at c
    split at c
    ·
     exact absurd c (by decide)
    ·
     rw [if_neg (by rw [d]; decide)] at c
     cases hq:q.l with
     | nil=>rw [hq] at c; exact absurd c (show ¬ ((23:Int)=0) by decide)
     | cons l tl=>
      rw [hq] at c
      dsimp only at c
      split at c
      ·
       exact absurd c (by decide)
      ·
       rename_i e; exact ⟨tl,by rw [Classical.not_not.1 e]⟩
   have hqn1:q.s.n=tl.length+1:=by rw [hqn,hqe,Yyj]
   refine ⟨tb,hs.rd 0 rfl (i:=1) rfl,tb,hs.rd 0 rfl (i:=1) rfl,rdB 6 hs rfl fun b o t=>?_⟩
   refine ⟨q.s,t,⟨by omega,by omega,by have:=hql2.2.1; omega⟩,?_⟩
   refine hs.set 6 (s:=tb) (cs:=Bx.cs) (x:=(j:Int)) rfl (by omega) (by omega) (by omega) (⟨⟨subA q.s.a (Int.toNat 1) q.s.c 1,Int.toNat (q.s.n:Nat) - Int.toNat 1,q.s.c - Int.toNat 1⟩,tl⟩:Bx) rfl rfl (fun b o h83 hs=>?_) rfl
   refine ⟨ts,tb,hs.at 0 rfl (o:=0) (n:=2) rfl,?_⟩
   refine hs.put 2 rfl (o:=0) (vs:=[.slice ts.a ts.n ts.c,.slice tb.a tb.n tb.c]) rfl (show 2<=2 by decide) fun h86 hs=>?_
   rw [Ys] at hs
   refine ⟨ts,tb,hs.at 2 rfl (o:=0) (n:=2) rfl,?_⟩
   generalize hnw:(⟨⟨subA q.s.a (Int.toNat 1) q.s.c 1,Int.toNat (q.s.n:Nat) - Int.toNat 1,q.s.c - Int.toNat 1⟩,tl⟩:Bx)=nw at hs
   have hs:=hs.sub (L':=.sl ts 3 1 ((S.set p x.t).map inC) :: .sl tb 23 1 ((T.set j nw).map Bx.cs)::T.map Bx.it) (.cons _ (.cons _ (.cons _ (.cons _ (.cons _ (.refl _))))))
   have hjt:j<T.length:=(Ya.1 gq).1
   have hgj:T[j]=q:=(Ya.1 gq).2
   have hp0:(T.map Bx.it).Perm (.sl q.s 3 1 (inC x.label::tl.map inC)::(T.eraseIdx j).map Bx.it):=by
    have h1:(T.map Bx.it).Perm ((T[j]::T.eraseIdx j).map Bx.it):=by
     rw [List.eraseIdx_eq_take_drop_succ]
     have e2:T=T.take j++T[j]::T.drop (j+1):=by rw [List.getElem_cons_drop,List.take_append_drop]
     have h2:T.Perm (T[j]::(T.take j++T.drop (j+1))):=by
      conv=>lhs; rw [e2]
      exact List.perm_middle
     exact h2.map _
    rw [Yyl,hgj] at h1
    have e1:q.it=.sl q.s 3 1 (inC x.label::tl.map inC):=by unfold Bx.it; rw [hqe]; rfl
    rw [e1] at h1
    exact h1
   have hs:=hs.perm (((hp0.cons _).cons _).trans (List.perm_middle (l₁:=[_,_])))
   have hs:=(hs.toQ (by omega)).qtail
   refine ⟨ts,tb,T.set j nw,_,rfl,?_,hs,?_⟩
   ·
    rw [List.map_set,hT,hql,hqe,<- hnw]; rfl
   ·
    refine ⟨Yn _ Yx,Yn _ (Yn _ Yx),fun z hz=>.inr ?_,hsl,by rw [Yyh]; omega,fun z hz=>?_⟩
    ·
     obtain ⟨j',gj⟩:=Yf.1 hz
     by_cases e:j'=j
     ·
      subst e
      rw [Yq hjt] at gj
      cases gj
      refine .inr ?_
      rw [<- hnw]
      exact Yx
     ·
      rw [Yy (Ne.symm e)] at gj
      exact .inl (Yn _ (Yn _ (Yn _ (List.mem_map_of_mem (List.mem_eraseIdx_iff_getElem?.2 ⟨j',e,gj⟩)))))
    ·
     rcases List.mem_or_eq_of_mem_set hz with hz | rfl
     ·
      have:=hall z hz; omega
     ·
      rw [<- hnw]
      have:=hall q hqm
      rw [hqe,Yyj] at this
      show tl.length<=_
      omega
end Go.VC
end

section
/- The example's machines (printed by mkex.py). -/
namespace Go.VC
open Go.Proofs Go.LexS
def xm0:Mch:=⟨0,2,0,[false,true],[⟨0,true,1,0,1,false⟩,⟨0,true,1,1,1,false⟩],[]⟩
theorem xm0_get (i:Nat) (x:Mv) (h:xm0.mv[i]?=some x):(i=0/\x=⟨0,true,1,0,1,false⟩)\/(i=1/\x=⟨0,true,1,1,1,false⟩):=by
 match i,h with
 | 0,h=>exact .inl ⟨rfl,(Yyp h).symm⟩
 | 1,h=>exact .inr ⟨rfl,(Yyp h).symm⟩
 | n+2,h=>exact absurd h (by simp [xm0])
theorem xm0_mem (x:Mv) (h:x ∈ xm0.mv):x=⟨0,true,1,0,1,false⟩\/x=⟨0,true,1,1,1,false⟩:=by
 obtain ⟨i,hi⟩:=Yf.1 h
 rcases xm0_get i x hi with ⟨_,e⟩ | ⟨_,e⟩
 ·
  exact .inl e
 ·
  exact .inr e
theorem xm0_ag (x:Mv) (h:x ∈ xm0.mv):x.ag=false:=by
 rcases xm0_mem x h with rfl | rfl <;> rfl
theorem xm0_vm:VM xm0:=by
 refine ⟨⟨⟨by decide,by decide⟩,⟨by decide,by decide⟩,⟨by decide,by decide⟩,rfl,by decide,fun x hx=>?_⟩,fun i k x y hx hy hne hf=>?_,fun v h0 h1=>?_,⟨fun x hx ha=>?_,fun x hx ha=>?_,fun x hx ha=>?_,fun x hx ha=>?_,fun x hx ha=>?_⟩,fun i t h=>?_⟩
 ·
  rcases xm0_mem x hx with rfl | rfl <;> decide
 ·
  rcases xm0_get i x hx with ⟨rfl,rfl⟩ | ⟨rfl,rfl⟩ <;> rcases xm0_get k y hy with ⟨rfl,rfl⟩ | ⟨rfl,rfl⟩ <;> first
   | exact absurd rfl hne
   | exact absurd hf (by decide)
   | exact ⟨fun e=>absurd (congrArg Ev.label e) (by decide),rfl⟩
 ·
  have q0:Qr (meds xm0) (-1) [xm0.s] 0:=.base (Ye.2 rfl)
  have q1:Qr (meds xm0) (-1) [xm0.s] 1:=.step q0 ⟨⟨0,0,0,0,1,false⟩,Yp.2 ⟨⟨0,true,1,0,1,false⟩,by simp [xm0],rfl⟩,rfl,rfl,rfl⟩
  have h1:v<2:=h1
  have:v=0\/v=1:=by omega
  rcases this with rfl | rfl
  ·
   exact q0
  ·
   exact q1
 ·
  rw [xm0_ag x hx] at ha; cases ha
 ·
  rw [xm0_ag x hx] at ha; cases ha
 ·
  rw [xm0_ag x hx] at ha; cases ha
 ·
  rw [xm0_ag x hx] at ha; cases ha
 ·
  rw [xm0_ag x hx] at ha; cases ha
 ·
  simp [xm0] at h
def xm1:Mch:=⟨1,6,0,[false,false,false,false,false,true],[⟨0,false,0,0,1,false⟩,⟨0,false,0,1,2,false⟩,⟨1,true,2,0,3,false⟩,⟨2,true,2,1,4,false⟩,⟨3,false,2,2,5,false⟩,⟨4,false,2,3,5,false⟩],[]⟩
theorem xm1_get (i:Nat) (x:Mv) (h:xm1.mv[i]?=some x):(i=0/\x=⟨0,false,0,0,1,false⟩)\/(i=1/\x=⟨0,false,0,1,2,false⟩)\/(i=2/\x=⟨1,true,2,0,3,false⟩)\/(i=3/\x=⟨2,true,2,1,4,false⟩)\/(i=4/\x=⟨3,false,2,2,5,false⟩)\/(i=5/\x=⟨4,false,2,3,5,false⟩):=by
 match i,h with
 | 0,h=>exact .inl ⟨rfl,(Yyp h).symm⟩
 | 1,h=>exact .inr (.inl ⟨rfl,(Yyp h).symm⟩)
 | 2,h=>exact .inr (.inr (.inl ⟨rfl,(Yyp h).symm⟩))
 | 3,h=>exact .inr (.inr (.inr (.inl ⟨rfl,(Yyp h).symm⟩)))
 | 4,h=>exact .inr (.inr (.inr (.inr (.inl ⟨rfl,(Yyp h).symm⟩))))
 | 5,h=>exact .inr (.inr (.inr (.inr (.inr ⟨rfl,(Yyp h).symm⟩))))
 | n+6,h=>exact absurd h (by simp [xm1])
theorem xm1_mem (x:Mv) (h:x ∈ xm1.mv):x=⟨0,false,0,0,1,false⟩\/x=⟨0,false,0,1,2,false⟩\/x=⟨1,true,2,0,3,false⟩\/x=⟨2,true,2,1,4,false⟩\/x=⟨3,false,2,2,5,false⟩\/x=⟨4,false,2,3,5,false⟩:=by
 obtain ⟨i,hi⟩:=Yf.1 h
 rcases xm1_get i x hi with ⟨_,e⟩ | ⟨_,e⟩ | ⟨_,e⟩ | ⟨_,e⟩ | ⟨_,e⟩ | ⟨_,e⟩
 ·
  exact .inl e
 ·
  exact .inr (.inl e)
 ·
  exact .inr (.inr (.inl e))
 ·
  exact .inr (.inr (.inr (.inl e)))
 ·
  exact .inr (.inr (.inr (.inr (.inl e))))
 ·
  exact .inr (.inr (.inr (.inr (.inr e))))
theorem xm1_ag (x:Mv) (h:x ∈ xm1.mv):x.ag=false:=by
 rcases xm1_mem x h with rfl | rfl | rfl | rfl | rfl | rfl <;> rfl
theorem xm1_vm:VM xm1:=by
 refine ⟨⟨⟨by decide,by decide⟩,⟨by decide,by decide⟩,⟨by decide,by decide⟩,rfl,by decide,fun x hx=>?_⟩,fun i k x y hx hy hne hf=>?_,fun v h0 h1=>?_,⟨fun x hx ha=>?_,fun x hx ha=>?_,fun x hx ha=>?_,fun x hx ha=>?_,fun x hx ha=>?_⟩,fun i t h=>?_⟩
 ·
  rcases xm1_mem x hx with rfl | rfl | rfl | rfl | rfl | rfl <;> decide
 ·
  rcases xm1_get i x hx with ⟨rfl,rfl⟩ | ⟨rfl,rfl⟩ | ⟨rfl,rfl⟩ | ⟨rfl,rfl⟩ | ⟨rfl,rfl⟩ | ⟨rfl,rfl⟩ <;> rcases xm1_get k y hy with ⟨rfl,rfl⟩ | ⟨rfl,rfl⟩ | ⟨rfl,rfl⟩ | ⟨rfl,rfl⟩ | ⟨rfl,rfl⟩ | ⟨rfl,rfl⟩ <;> first
   | exact absurd rfl hne
   | exact absurd hf (by decide)
   | exact ⟨fun e=>absurd (congrArg Ev.label e) (by decide),rfl⟩
 ·
  have q0:Qr (meds xm1) (-1) [xm1.s] 0:=.base (Ye.2 rfl)
  have q1:Qr (meds xm1) (-1) [xm1.s] 1:=.step q0 ⟨⟨0,0,0,0,1,false⟩,Yp.2 ⟨⟨0,false,0,0,1,false⟩,by simp [xm1],rfl⟩,rfl,rfl,rfl⟩
  have q2:Qr (meds xm1) (-1) [xm1.s] 2:=.step q0 ⟨⟨0,0,0,0,2,false⟩,Yp.2 ⟨⟨0,false,0,1,2,false⟩,by simp [xm1],rfl⟩,rfl,rfl,rfl⟩
  have q3:Qr (meds xm1) (-1) [xm1.s] 3:=.step q1 ⟨⟨1,0,0,0,3,false⟩,Yp.2 ⟨⟨1,true,2,0,3,false⟩,by simp [xm1],rfl⟩,rfl,rfl,rfl⟩
  have q4:Qr (meds xm1) (-1) [xm1.s] 4:=.step q2 ⟨⟨2,0,0,0,4,false⟩,Yp.2 ⟨⟨2,true,2,1,4,false⟩,by simp [xm1],rfl⟩,rfl,rfl,rfl⟩
  have q5:Qr (meds xm1) (-1) [xm1.s] 5:=.step q3 ⟨⟨3,0,0,0,5,false⟩,Yp.2 ⟨⟨3,false,2,2,5,false⟩,by simp [xm1],rfl⟩,rfl,rfl,rfl⟩
  have h1:v<6:=h1
  have:v=0\/v=1\/v=2\/v=3\/v=4\/v=5:=by omega
  rcases this with rfl | rfl | rfl | rfl | rfl | rfl
  ·
   exact q0
  ·
   exact q1
  ·
   exact q2
  ·
   exact q3
  ·
   exact q4
  ·
   exact q5
 ·
  rw [xm1_ag x hx] at ha; cases ha
 ·
  rw [xm1_ag x hx] at ha; cases ha
 ·
  rw [xm1_ag x hx] at ha; cases ha
 ·
  rw [xm1_ag x hx] at ha; cases ha
 ·
  rw [xm1_ag x hx] at ha; cases ha
 ·
  simp [xm1] at h
def xm2:Mch:=⟨2,4,0,[false,false,false,true],[⟨0,false,1,0,1,false⟩,⟨0,false,1,1,2,false⟩,⟨1,true,1,2,3,false⟩,⟨2,true,1,3,3,false⟩],[]⟩
theorem xm2_get (i:Nat) (x:Mv) (h:xm2.mv[i]?=some x):(i=0/\x=⟨0,false,1,0,1,false⟩)\/(i=1/\x=⟨0,false,1,1,2,false⟩)\/(i=2/\x=⟨1,true,1,2,3,false⟩)\/(i=3/\x=⟨2,true,1,3,3,false⟩):=by
 match i,h with
 | 0,h=>exact .inl ⟨rfl,(Yyp h).symm⟩
 | 1,h=>exact .inr (.inl ⟨rfl,(Yyp h).symm⟩)
 | 2,h=>exact .inr (.inr (.inl ⟨rfl,(Yyp h).symm⟩))
 | 3,h=>exact .inr (.inr (.inr ⟨rfl,(Yyp h).symm⟩))
 | n+4,h=>exact absurd h (by simp [xm2])
theorem xm2_mem (x:Mv) (h:x ∈ xm2.mv):x=⟨0,false,1,0,1,false⟩\/x=⟨0,false,1,1,2,false⟩\/x=⟨1,true,1,2,3,false⟩\/x=⟨2,true,1,3,3,false⟩:=by
 obtain ⟨i,hi⟩:=Yf.1 h
 rcases xm2_get i x hi with ⟨_,e⟩ | ⟨_,e⟩ | ⟨_,e⟩ | ⟨_,e⟩
 ·
  exact .inl e
 ·
  exact .inr (.inl e)
 ·
  exact .inr (.inr (.inl e))
 ·
  exact .inr (.inr (.inr e))
theorem xm2_ag (x:Mv) (h:x ∈ xm2.mv):x.ag=false:=by
 rcases xm2_mem x h with rfl | rfl | rfl | rfl <;> rfl
theorem xm2_vm:VM xm2:=by
 refine ⟨⟨⟨by decide,by decide⟩,⟨by decide,by decide⟩,⟨by decide,by decide⟩,rfl,by decide,fun x hx=>?_⟩,fun i k x y hx hy hne hf=>?_,fun v h0 h1=>?_,⟨fun x hx ha=>?_,fun x hx ha=>?_,fun x hx ha=>?_,fun x hx ha=>?_,fun x hx ha=>?_⟩,fun i t h=>?_⟩
 ·
  rcases xm2_mem x hx with rfl | rfl | rfl | rfl <;> decide
 ·
  rcases xm2_get i x hx with ⟨rfl,rfl⟩ | ⟨rfl,rfl⟩ | ⟨rfl,rfl⟩ | ⟨rfl,rfl⟩ <;> rcases xm2_get k y hy with ⟨rfl,rfl⟩ | ⟨rfl,rfl⟩ | ⟨rfl,rfl⟩ | ⟨rfl,rfl⟩ <;> first
   | exact absurd rfl hne
   | exact absurd hf (by decide)
   | exact ⟨fun e=>absurd (congrArg Ev.label e) (by decide),rfl⟩
 ·
  have q0:Qr (meds xm2) (-1) [xm2.s] 0:=.base (Ye.2 rfl)
  have q1:Qr (meds xm2) (-1) [xm2.s] 1:=.step q0 ⟨⟨0,0,0,0,1,false⟩,Yp.2 ⟨⟨0,false,1,0,1,false⟩,by simp [xm2],rfl⟩,rfl,rfl,rfl⟩
  have q2:Qr (meds xm2) (-1) [xm2.s] 2:=.step q0 ⟨⟨0,0,0,0,2,false⟩,Yp.2 ⟨⟨0,false,1,1,2,false⟩,by simp [xm2],rfl⟩,rfl,rfl,rfl⟩
  have q3:Qr (meds xm2) (-1) [xm2.s] 3:=.step q1 ⟨⟨1,0,0,0,3,false⟩,Yp.2 ⟨⟨1,true,1,2,3,false⟩,by simp [xm2],rfl⟩,rfl,rfl,rfl⟩
  have h1:v<4:=h1
  have:v=0\/v=1\/v=2\/v=3:=by omega
  rcases this with rfl | rfl | rfl | rfl
  ·
   exact q0
  ·
   exact q1
  ·
   exact q2
  ·
   exact q3
 ·
  rw [xm2_ag x hx] at ha; cases ha
 ·
  rw [xm2_ag x hx] at ha; cases ha
 ·
  rw [xm2_ag x hx] at ha; cases ha
 ·
  rw [xm2_ag x hx] at ha; cases ha
 ·
  rw [xm2_ag x hx] at ha; cases ha
 ·
  simp [xm2] at h
def xr0:Mch:=⟨0,3,0,[false,true,true],[⟨0,true,1,0,1,false⟩,⟨0,true,1,1,2,false⟩],[]⟩
theorem xr0_raw (hr hd he ht:Sl):rawC (exGl true hr hd he ht) 0=some (some xr0,0):=by kernel_rfl
theorem xm1_raw (hr hd he ht:Sl):rawC (exGl true hr hd he ht) 1=some (some xm1,0):=by kernel_rfl
theorem xm2_raw (hr hd he ht:Sl):rawC (exGl true hr hd he ht) 2=some (some xm2,0):=by kernel_rfl
theorem xm0_min:minF xr0=xm0:=by kernel_rfl
theorem xm1_min:minF xm1=xm1:=by kernel_rfl
theorem xm2_min:minF xm2=xm2:=by kernel_rfl
theorem xproj (hr hd he ht:Sl) (i:Int) (w m:Mch) (h0:0<=i) (h3:i<((3:Nat):Int)) (hw:rawC (exGl true hr hd he ht) i=some (some w,0)) (hm:minF w=m):proj (exGl true hr hd he ht) i=(some m,0):=by
 have:=rawC_ok (ex_valid true hr hd he ht) h0 h3 hw
 unfold proj
 rw [this]
 show (some (minF w),0)=_
 rw [hm]
def xL:List Mch:=[xm0,xm1,xm2]
theorem xsys:SysV xL:=by
 refine ⟨⟨by decide,by decide⟩,fun p m h=>?_⟩
 match p,h with
 | 0,h=>cases h; exact ⟨rfl,xm0_vm,fun x hx=>by rcases xm0_mem x hx with rfl | rfl <;> decide⟩
 | 1,h=>cases h; exact ⟨rfl,xm1_vm,fun x hx=>by rcases xm1_mem x hx with rfl | rfl | rfl | rfl | rfl | rfl <;> decide⟩
 | 2,h=>cases h; exact ⟨rfl,xm2_vm,fun x hx=>by rcases xm2_mem x hx with rfl | rfl | rfl | rfl <;> decide⟩
 | n+3,h=>exact absurd h (by simp [xL])
theorem stepsP_of {n:Nat} {k:Int} {S:List Int} {BL:List (List Int)} {p:Nat} {m:Mch} (hD:DetM m) {O:List Nat} (h1:(List.range m.mv.length).filter (posB n k S BL p m)=O) (h2:O.Pairwise fun a b=>¬ evLt (evI m b) (evI m a)):stepsP n k S BL p m=O:=(steps_uniq hD (by rw [h1]) h2).symm
def xB0:List (List Int):=List.replicate 9 []
theorem xsteps0:stepsS xL 1 [0,0,0] xB0=[(0,0),(0,1)]:=by
 have a0:stepsP 3 1 [0,0,0] xB0 0 xm0=[0,1]:=stepsP_of xm0_vm.d (by kernel_rfl) (.cons (fun b hb=>by rw [Ye.1 hb]; show ¬ evLt _ _; unfold evLt; decide) (List.pairwise_singleton _ _))
 have a1:stepsP 3 1 [0,0,0] xB0 1 xm1=[]:=stepsP_of xm1_vm.d (by kernel_rfl) .nil
 have a2:stepsP 3 1 [0,0,0] xB0 2 xm2=[]:=stepsP_of xm2_vm.d (by kernel_rfl) .nil
 show (stepsP 3 1 [0,0,0] xB0 0 xm0).map _++((stepsP 3 1 [0,0,0] xB0 1 xm1).map _++((stepsP 3 1 [0,0,0] xB0 2 xm2).map _++[]))=_
 rw [a0,a1,a2]; rfl
def xB1 (l:Int):List (List Int):=[[],[l],[],[],[],[],[],[],[]]
theorem xsteps1 (l:Nat) (hl:l=0\/l=1):stepsS xL 1 [1,0,0] (xB1 (l:Int))=[(1,l)]:=by
 rcases hl with rfl | rfl
 ·
  have a0:stepsP 3 1 [1,0,0] (xB1 0) 0 xm0=[]:=stepsP_of xm0_vm.d (by kernel_rfl) .nil
  have a1:stepsP 3 1 [1,0,0] (xB1 0) 1 xm1=[0]:=stepsP_of xm1_vm.d (by kernel_rfl) (List.pairwise_singleton _ _)
  have a2:stepsP 3 1 [1,0,0] (xB1 0) 2 xm2=[]:=stepsP_of xm2_vm.d (by kernel_rfl) .nil
  show (stepsP 3 1 [1,0,0] (xB1 0) 0 xm0).map _++((stepsP 3 1 [1,0,0] (xB1 0) 1 xm1).map _++((stepsP 3 1 [1,0,0] (xB1 0) 2 xm2).map _++[]))=_
  rw [a0,a1,a2]; rfl
 ·
  have a0:stepsP 3 1 [1,0,0] (xB1 1) 0 xm0=[]:=stepsP_of xm0_vm.d (by kernel_rfl) .nil
  have a1:stepsP 3 1 [1,0,0] (xB1 1) 1 xm1=[1]:=stepsP_of xm1_vm.d (by kernel_rfl) (List.pairwise_singleton _ _)
  have a2:stepsP 3 1 [1,0,0] (xB1 1) 2 xm2=[]:=stepsP_of xm2_vm.d (by kernel_rfl) .nil
  show (stepsP 3 1 [1,0,0] (xB1 1) 0 xm0).map _++((stepsP 3 1 [1,0,0] (xB1 1) 1 xm1).map _++((stepsP 3 1 [1,0,0] (xB1 1) 2 xm2).map _++[]))=_
  rw [a0,a1,a2]; rfl
end Go.VC
end

section
/- Contract: the laws of layer 27 are awake. (Numbers of layer 27's development dump.) -/
namespace Go.VC
open Go.Proofs Go.LexS
theorem xpro0:ProS xL 1 [0,0,0] xB0:=by
 refine ⟨xsys,⟨by decide,by decide⟩,⟨rfl,rfl,fun p s m h1 h2=>?_,fun i b hb=>?_⟩⟩
 ·
  match p,h1,h2 with
  | 0,h1,h2=>cases h1; cases h2; decide
  | 1,h1,h2=>cases h1; cases h2; decide
  | 2,h1,h2=>cases h1; cases h2; decide
  | n+3,h1,h2=>exact absurd h1 (by simp)
 ·
  have:=List.eq_of_mem_replicate (Yb hb)
  subst this
  exact ⟨by decide,fun _=>rfl,fun x hx=>by cases hx⟩
theorem xpro1:ProS xL 1 [1,0,0] (xB1 0):=by
 refine ⟨xsys,⟨by decide,by decide⟩,⟨rfl,rfl,fun p s m h1 h2=>?_,fun i b hb=>?_⟩⟩
 ·
  match p,h1,h2 with
  | 0,h1,h2=>cases h1; cases h2; decide
  | 1,h1,h2=>cases h1; cases h2; decide
  | 2,h1,h2=>cases h1; cases h2; decide
  | n+3,h1,h2=>exact absurd h1 (by simp)
 ·
  have hm:=Yb hb
  by_cases e:i=1
  ·
   subst e; cases hb; exact ⟨by decide,fun h=>absurd h (by decide),fun x hx=>by rw [Ye.1 hx]; decide⟩
  ·
   have:b=[]:=by
    match i,hb,e with
    | 0,hb,_=>cases hb; rfl
    | 1,_,e=>exact absurd rfl e
    | 2,hb,_=>cases hb; rfl
    | 3,hb,_=>cases hb; rfl
    | 4,hb,_=>cases hb; rfl
    | 5,hb,_=>cases hb; rfl
    | 6,hb,_=>cases hb; rfl
    | 7,hb,_=>cases hb; rfl
    | 8,hb,_=>cases hb; rfl
    | n+9,hb,_=>exact absurd hb (by simp [xB1])
   subst this
   exact ⟨by decide,fun _=>rfl,fun x hx=>by cases hx⟩
theorem xdo:doS xL 1 [0,0,0] xB0 0 0=(0,[1,0,0],xB1 0):=by
 unfold doS
 rw [if_pos xpro0,show mvO xL 0 0=some ⟨0,true,1,0,1,false⟩ from by kernel_rfl]
 show (if canS 3 1 [0,0,0] xB0 0 ⟨0,true,1,0,1,false⟩=0 then _ else _)=_
 rw [if_pos (by kernel_rfl)]
 kernel_rfl
theorem xst0:startS xL=[0,0,0]:=rfl
theorem xbx0:(List.replicate (xL.length*xL.length) bx0).map Bx.l=xB0:=rfl
set_option maxHeartbeats 3200000 in
theorem awake12 (h:Heap) (hx:Gx h):Fn Pz 12 #[] h fun v h'=>v=.bool true/\Ext h h':=by
 apply vc12; unfold W12
 refine (example34 true h).mono ?_
 rintro _ h10 ⟨E10,hr,hd,he,rfl,hg⟩
 refine ⟨_,hr,hd,_,_,_,he,⟨none,0,0⟩,rfl,?_⟩
 refine (all43 (exGl true hr hd he ⟨none,0,0⟩) h10 hg (hx.ext E10) (ex_valid _ _ _ _ _) xL (hg.r.ln.symm) (by decide) (fun i m hi=>?_)).mono ?_
 ·
  match i,hi with
  | 0,hi=>cases hi; exact ⟨xproj _ _ _ _ _ _ _ (by decide) (by decide) (xr0_raw _ _ _ _) xm0_min,by decide,by decide,by decide⟩
  | 1,hi=>cases hi; exact ⟨xproj _ _ _ _ _ _ _ (by decide) (by decide) (xm1_raw _ _ _ _) xm1_min,by decide,by decide,by decide⟩
  | 2,hi=>cases hi; exact ⟨xproj _ _ _ _ _ _ _ (by decide) (by decide) (xm2_raw _ _ _ _) xm2_min,by decide,by decide,by decide⟩
  | n+3,hi=>exact absurd hi (by simp [xL])
 rintro _ h14 ⟨s,L,rfl,E14,hL,hS⟩
 have E0:=E10.trans E14
 refine ⟨s,0,rfl,?_⟩
 refine (start14 L s h14 hS).mono ?_
 rw [hL]
 rintro _ h19 ⟨ss,sb,S,B,e,A,rfl,hs,hM,hok,-⟩
 obtain ⟨rfl,rfl,rfl⟩:=hok xsys
 rw [xst0] at hM
 refine ⟨ss,sb,0,rfl,?_⟩
 refine hs.newput (vs:=[.slice ss.a ss.n ss.c,.slice sb.a sb.n sb.c]) rfl rfl fun h21 hs=>?_
 refine ⟨ss,sb,hs.at 0 rfl (o:=0) (n:=2) rfl,?_⟩
 have hM:=hM.mono (A':=.blk h19.size [.slice ss.a ss.n ss.c,.slice sb.a sb.n sb.c] 29::A) fun i hi=>Yn _ hi
 refine (steps16 L s 1 ss sb _ _ h21 (hS.ext hs.ext) (hM.cfi hs)).mono ?_
 rw [hL,xbx0]
 rintro _ h27 ⟨E27,r,e,l,rfl,hr,hpos,-⟩
 obtain ⟨rfl,rfl⟩:=hpos xpro0
 rw [xsteps0] at hr
 have hs:=hs.step E27
 have hrn:r.n=2:=hr.ln
 refine ⟨r,0,rfl,sB_f rfl (sB_f rfl (sB_f rfl (sB_f (by rw [hrn]; rfl) ?_)))⟩
 refine hr.rw.nbI (by omega) (by omega) fun b o q gq t=>?_
 cases gq
 refine ⟨_,t.hd,sB_f rfl ?_⟩
 refine hr.rw.nbI (by omega) (by omega) fun b o q gq t=>?_
 cases gq
 refine ⟨_,t.hd,sB_f rfl ?_⟩
 refine ⟨ss,sb,hs.at 0 rfl (o:=0) (n:=2) rfl,?_⟩
 refine hr.rw.nbI (by omega) (by omega) fun b o q gq t=>?_
 cases gq
 have hd1:=hL ▸ do27 L s 1 ss sb [0,0,0] (List.replicate (xL.length*xL.length) bx0) 0 0
 rw [xbx0,xdo] at hd1
 refine ⟨_,_,t,And.intro ?_ ?_⟩
 ·
  refine (hd1 h27 (hS.ext hs.ext) (hM.cfi hs)).mono ?_
  rintro _ h44 ⟨ts,tb,T,A2,rfl,hT,hs3,hM2⟩
  have hs:=hs.join hs3
  refine ⟨ts,tb,0,rfl,?_⟩
  refine hs.newbE fun h45 E45 hs=>⟨E45.sm,?_⟩
  refine hs.put 0 rfl (o:=0) (vs:=[.slice ts.a ts.n ts.c,.slice tb.a tb.n tb.c]) rfl (show 2<=2 by decide) fun h46 hs=>?_
  refine ⟨ts,tb,hs.at 0 rfl (o:=0) (n:=2) rfl,?_⟩
  have hM2:=hM2.mono (A':=.blk h44.size [.slice ts.a ts.n ts.c,.slice tb.a tb.n tb.c] 29::((.blk h19.size [.slice ss.a ss.n ss.c,.slice sb.a sb.n sb.c] 29::A)++A2)) fun i hi=>Yn _ (List.mem_append_right _ hi)
  refine (steps16 L s 1 ts tb _ T h46 (hS.ext hs.ext) (hM2.cfi hs)).mono ?_
  rw [hL,hT]
  rintro _ h52 ⟨E52,r2,e2,l2,rfl,hr2,hpos2,-⟩
  obtain ⟨rfl,rfl⟩:=hpos2 xpro1
  rw [show stepsS xL 1 [1,0,0] (xB1 0)=[(1,0)] from xsteps1 0 (.inl rfl)] at hr2
  have hs:=hs.step E52
  have hrn2:r2.n=1:=hr2.ln
  refine ⟨r2,0,rfl,sB_t rfl (sB_t rfl (sB_t (by rw [hrn2]; rfl) ?_))⟩
  refine hr2.rw.nbI (by omega) (by omega) fun b o q gq t=>?_
  cases gq
  refine ⟨_,t.hd,sB_t rfl ?_⟩
  have hC2:=hM2.cfi hs
  have htn:ts.n=3:=hC2.s.ln
  refine ⟨ts,hs.rd 0 rfl (i:=0) rfl,sB_t (by rw [htn]; rfl) ⟨ts,hs.rd 0 rfl (i:=0) rfl,?_⟩⟩
  refine hC2.s.rw.nbI (by omega) (by omega) fun b o q gq t=>?_
  cases gq
  exact ⟨_,t.hd,rfl,E0.trans hs.ext⟩
 ·
  refine hs.newbE fun h61 E61 hs=>⟨E61.sm,?_⟩
  have hM:=hM.mono (A':=.blk h27.size [.slice none 0 0,.slice none 0 0] 29 :: .blk h19.size [.slice ss.a ss.n ss.c,.slice sb.a sb.n sb.c] 29::A) fun i hi=>Yn _ hi
  refine (hd1 h61 (hS.ext hs.ext) (hM.cfi hs)).mono ?_
  rintro _ h44 ⟨ts,tb,T,A2,rfl,hT,hs3,hM2⟩
  have hs:=hs.join hs3
  refine ⟨ts,tb,0,rfl,?_⟩
  refine hs.put 0 rfl (o:=0) (vs:=[.slice ts.a ts.n ts.c,.slice tb.a tb.n tb.c]) rfl (show 2<=2 by decide) fun h46 hs=>?_
  refine ⟨ts,tb,hs.at 0 rfl (o:=0) (n:=2) rfl,?_⟩
  have hM2:=hM2.mono (A':=.blk h27.size [.slice ts.a ts.n ts.c,.slice tb.a tb.n tb.c] 29::((.blk h19.size [.slice ss.a ss.n ss.c,.slice sb.a sb.n sb.c] 29::A)++A2)) fun i hi=>Yn _ (List.mem_append_right _ hi)
  refine (steps16 L s 1 ts tb _ T h46 (hS.ext hs.ext) (hM2.cfi hs)).mono ?_
  rw [hL,hT]
  rintro _ h52 ⟨E52,r2,e2,l2,rfl,hr2,hpos2,-⟩
  obtain ⟨rfl,rfl⟩:=hpos2 xpro1
  rw [show stepsS xL 1 [1,0,0] (xB1 0)=[(1,0)] from xsteps1 0 (.inl rfl)] at hr2
  have hs:=hs.step E52
  have hrn2:r2.n=1:=hr2.ln
  refine ⟨r2,0,rfl,sB_t rfl (sB_t rfl (sB_t (by rw [hrn2]; rfl) ?_))⟩
  refine hr2.rw.nbI (by omega) (by omega) fun b o q gq t=>?_
  cases gq
  refine ⟨_,t.hd,sB_t rfl ?_⟩
  have hC2:=hM2.cfi hs
  have htn:ts.n=3:=hC2.s.ln
  refine ⟨ts,hs.rd 0 rfl (i:=0) rfl,sB_t (by rw [htn]; rfl) ⟨ts,hs.rd 0 rfl (i:=0) rfl,?_⟩⟩
  refine hC2.s.rw.nbI (by omega) (by omega) fun b o q gq t=>?_
  cases gq
  exact ⟨_,t.hd,rfl,E0.trans hs.ext⟩
end Go.VC
end

section
namespace Go.VC
open Go.Proofs

def W3 (p0:Sl) (p1:Int) (p2_1 p2_2:Sl) (h:Heap) (R:Value->Heap->Prop):Prop:=
 (Wn h [vS p2_1,vS p2_2] 26 fun h3=>
 (Fn Pz 12 #[] h3
 (fun v4 h6=>∃ x5,iB v4 x5 /\
 (sB (!x5)
 (R (.bool false) h6)
 ((∃ (x7 x8:Sl),atC h6 (aS h 0) [vS x7,vS x8] /\
 (Fn Pz 13 #[vS p0,.agg ⟨[vS x7,vS x8]⟩] h6
 (fun v9 h11=>∃ x10,iB v9 x10 /\
 (sB (!x10)
 (R (.bool true) h11)
 ((Fn Pz 14 #[vS p0] h11
 (fun v12 h16=>∃ (x13 x14:Sl) (x15:Int),v12=.tuple ⟨[.agg ⟨[vS x13,vS x14]⟩,vI x15]⟩ /\
 (Wn h16 [.slice none 0 0,.slice none 0 0] 29 fun h17=>
 (Wp h17 (aS h16 0) 2 [vS x13,vS x14] fun h18=>
 (Fn Pz 15 #[vS p0] h18
 (fun v19 h23=>∃ (x20 x21:Sl) (x22:Int),v19=.tuple ⟨[.agg ⟨[vS x20,vS x21]⟩,vI x22]⟩ /\
 (Wn h23 [.slice none 0 0,.slice none 0 0] 26 fun h24=>
 (Wp h24 (aS h23 0) 2 [vS x20,vS x21] fun h25=>
 (∃ (x26 x27:Sl),atC h25 (aS h 0) [vS x26,vS x27] /\
 (Fn Pz 17 #[.agg ⟨[vS x26,vS x27]⟩] h25
 (fun v28 h31=>∃ (x29 x30:Sl),v28=.agg ⟨[vS x29,vS x30]⟩ /\
 (Fn Pz 16 #[vS p0,vI p1,.agg ⟨[vS x29,vS x30]⟩] h31
 (fun v32 h35=>∃ (x33:Sl) (x34:Int),v32=.tuple ⟨[vS x33,vI x34]⟩ /\
 (∃ (x36 x37:Sl),atC h35 (aS h 0) [vS x36,vS x37] /\
 (Fn Pz 18 #[vS p0,vI p1,.agg ⟨[vS x36,vS x37]⟩] h35
 (fun v38 h41=>∃ (x39:Sl) (x40:Int),v38=.tuple ⟨[vS x39,vI x40]⟩ /\
 (sB (x15 == x22)
 ((sB (x34 == x40)
 ((∃ (x42 x43:Sl),atC h41 (aS h16 0) [vS x42,vS x43] /\
 (∃ (x44 x45:Sl),atC h41 (aS h23 0) [vS x44,vS x45] /\
 (Fn Pz 19 #[.agg ⟨[vS x42,vS x43]⟩,.agg ⟨[vS x44,vS x45]⟩] h41
 (fun v46 h48=>∃ x47,iB v46 x47 /\
 (sB x47
 ((Fn Pz 21 #[vS x33] h48
 (fun v49 h51=>∃ x50,iS v49 x50 /\
 (Sm [(aS h23 0),(aS h16 0)] h48 h51 /\
 (Fn Pz 20 #[vS x50,vS x39] h51
 (fun v52 h54=>∃ x53,iB v52 x53 /\
 (Sm [(aS h23 0),(aS h16 0)] h51 h54 /\
 (sB x53
 ((Fn Pz 22 #[vS p0] h54
 (fun v55 h57=>∃ x56,iB v55 x56 /\
 (Sm [(aS h23 0),(aS h16 0)] h54 h57 /\
 (Fn Pz 23 #[vS p0] h57
 (fun v58 h60=>∃ x59,iB v58 x59 /\
 (Sm [(aS h23 0),(aS h16 0)] h57 h60 /\
 (sB (x56 == x59)
 ((∃ (x61 x62:Sl),atC h60 (aS h 0) [vS x61,vS x62] /\
 (∃ (x63 x64:Sl),atC h60 (aS h 0) [vS x63,vS x64] /\
 (Fn Pz 17 #[.agg ⟨[vS x61,vS x62]⟩] h60
 (fun v65 h68=>∃ (x66 x67:Sl),v65=.agg ⟨[vS x66,vS x67]⟩ /\
 (Sm [(aS h 0),(aS h23 0),(aS h16 0)] h60 h68 /\
 (Fn Pz 24 #[vS p0,vI p1,.agg ⟨[vS x66,vS x67]⟩] h68
 (fun v69 h71=>∃ x70,iB v69 x70 /\
 (Sm [(aS h 0),(aS h23 0),(aS h16 0)] h68 h71 /\
 (Fn Pz 25 #[vS p0,vI p1,.agg ⟨[vS x63,vS x64]⟩] h71
 (fun v72 h74=>∃ x73,iB v72 x73 /\
 (Sm [(aS h 0),(aS h23 0),(aS h16 0)] h71 h74 /\
 R (.bool (x70 == x73)) h74))))))))))))
 (R (.bool false) h60)))))))))
 (R (.bool false) h54)))))))))
 (R (.bool false) h48)))))))
 (R (.bool false) h41)))
 (R (.bool false) h41))))))))))))))))))))))))))))
end Go.VC
end

section
/- The law ComposeSteps. (Numbers of layer 27's development dump.) -/
namespace Go.VC
open Go.Proofs Go.LexS
end Go.VC
end

section
namespace Go.VC
open Go.Proofs

end Go.VC
end

section
namespace Go.VC
open Go.Proofs

end Go.VC
end

section
/- Contracts: Final on both sides. (Numbers of layer 27's development dump.) -/
namespace Go.VC
open Go.Proofs Go.LexS
end Go.VC
end

section
/- Contract: the reference's Final. (Numbers of layer 27's development dump.) -/
namespace Go.VC
open Go.Proofs Go.LexS
end Go.VC
end

section
namespace Go.VC
open Go.Proofs

def W62 (p0 p1_1:Int) (p1_2:Bool) (p1_3 p1_4 p1_5:Int) (p1_6:Bool) (h:Heap) (R:Value->Heap->Prop):Prop:=
 (Wn h (L0 p1_1 p1_2 p1_3 p1_4 p1_5 p1_6) 108 fun h7=>
 (Wn h7 [vI 0,.bool false,vI 0,vI 0,.slice none 0 0] 66 fun h8=>
 (∃ x9,rB h8 (aS h 1) x9 /\
 (∃ x10,rI h8 (aS h 2) x10 /\
 (∃ x11,rI h8 (aS h 3) x11 /\
 (Wp h8 (aS h7 0) 5 [vI p0,.bool x9,vI x10,vI x11,.slice none 0 0] fun h12=>
 (∃ x13 x14 x15 x16 x17,aL7 h12 (aS h7 0) x13 x14 x15 x16 x17 /\
 R (.agg ⟨(L7 x13 x14 x15 x16 x17)⟩) h12)))))))
theorem vc62 (p0 p1_1:Int) (p1_2:Bool) (p1_3 p1_4 p1_5:Int) (p1_6:Bool) (h:Heap) (R:Value->Heap->Prop) (H:W62 p0 p1_1 p1_2 p1_3 p1_4 p1_5 p1_6 h R):Fn Pz 62 #[vI p0,.agg ⟨(L0 p1_1 p1_2 p1_3 p1_4 p1_5 p1_6)⟩] h R:=fnI (A:=.z) (by kernel_rfl) H

end Go.VC
end

section
/- Contracts: Event on both sides. (Numbers of layer 27's development dump.) -/
namespace Go.VC
open Go.Proofs Go.LexS
def evC (e:Int × Bool × Int × Int):List Value:=[.int .i64 e.1,.bool e.2.1,.int .i64 e.2.2.1,.int .i64 e.2.2.2,.slice none 0 0]
def ev00:Int × Bool × Int × Int:=(0,false,0,0)
theorem event62 (r:Int) (x:Mv) (h:Heap):Fn Pz 62 #[.int .i64 r,.agg ⟨x.cs⟩] h fun v h'=>v=.agg ⟨evC (r,x.send,x.peer,x.label)⟩/\Ext h h':=by
 apply vc62 r x.f x.send x.peer x.label x.t x.ag; unfold W62
 refine (St.refl h).newb fun h7 hs=>?_
 refine hs.newb fun h8 hs=>?_
 refine ⟨_,hs.rd 1 rfl (i:=1) rfl,_,hs.rd 1 rfl (i:=2) rfl,_,hs.rd 1 rfl (i:=3) rfl,?_⟩
 refine hs.put 0 rfl (o:=0) (vs:=evC (r,x.send,x.peer,x.label)) rfl (show 5<=5 by decide) fun h12 hs=>?_
 exact ⟨_,_,_,_,⟨none,0,0⟩,hs.at 0 rfl (o:=0) (n:=5) rfl,rfl,hs.ext⟩
end Go.VC
end

section
/- Contract: the reference's Event. (Numbers of layer 27's development dump.) -/
namespace Go.VC
open Go.Proofs Go.LexS
end Go.VC
end

section
/- Contract: the tail that the orders of the reference's Next share (printed by mkwju.py). -/
namespace Go.VC
open Go.Proofs Go.LexS
def tailN (p0:Sl) (ob b0 b5 b6 b7:Nat) (h0:Heap) (R:Value->Heap->Prop):Prop:=
 (∃ x33:Sl,hc h0 ⟨ob,0,none⟩=some (.slice x33.a x33.n x33.c) /\ 
 (∃ x34:Int,hc h0 ⟨b5,0,none⟩=some (.int .i64 x34) /\ 
 (∃ x35:Int,hc h0 ⟨b7,4,none⟩=some (.int .i64 x35) /\ 
 (NB x33.a fun b36 o37=>((0<=(x34:Int)/\(x34:Int)<(x33.n:Nat)) /\ 
 (okAt h0 ⟨b36,o37+Int.toNat x34*1,none⟩ 1/\∀ h38:Heap,h38=hputs h0 ⟨b36,o37+Int.toNat x34*1,none⟩ 0 [.int .i64 x35] -> 
 (∃ x39:Bool,hc h38 ⟨b7,1,none⟩=some (.bool x39) /\ 
 (sB x39 
  ((∃ x40:Int,hc h38 ⟨b5,0,none⟩=some (.int .i64 x40) /\ 
  (∃ x41:Int,hc h38 ⟨b7,2,none⟩=some (.int .i64 x41) /\ 
  (∃ x42:Sl,hc h38 ⟨ob,1,none⟩=some (.slice x42.a x42.n x42.c) /\ 
  (∃ x43:Sl,hc h38 ⟨b0,1,none⟩=some (.slice x43.a x43.n x43.c) /\ 
  (NB x43.a fun b44 o45=>((0<=((IntKind.wrap .i64 ((IntKind.wrap .i64 ((p0.n:Int)*x40))+x41)):Int)/\((IntKind.wrap .i64 ((IntKind.wrap .i64 ((p0.n:Int)*x40))+x41)):Int)<(x43.n:Nat)) /\ 
  (∃ x46:Sl,hc h38 ⟨b44,o45+Int.toNat (IntKind.wrap .i64 ((IntKind.wrap .i64 ((p0.n:Int)*x40))+x41))*1,none⟩=some (.slice x46.a x46.n x46.c) /\ 
  (∃ x47:Int,hc h38 ⟨b7,3,none⟩=some (.int .i64 x47) /\ 
  ((∀ h48:Heap,h48=h38.push (.cells ⟨[]⟩ 3) -> 
  (Sm [⟨b7,3,none⟩,⟨b44,o45+Int.toNat (IntKind.wrap .i64 ((IntKind.wrap .i64 ((p0.n:Int)*x40))+x41))*1,none⟩,⟨b0,1,none⟩,⟨ob,1,none⟩] h38 h48 /\ 
  ((App Pz 23 23 (.slice (some ⟨h38.size,0,none⟩) 0 0) (.slice x46.a x46.n x46.c) h48 fun s49 h50=>
  (Sm [⟨b7,3,none⟩,⟨ob,1,none⟩] h48 h50 /\ 
  (∀ h51:Heap,h51=h50.push (.cells ⟨[.int .i64 x47]⟩ 3) -> 
  (Sm [⟨b44,o45+Int.toNat (IntKind.wrap .i64 ((IntKind.wrap .i64 ((p0.n:Int)*x40))+x41))*1,none⟩,⟨b0,1,none⟩,⟨ob,1,none⟩] h50 h51 /\ 
  (App Pz 23 23 (.slice s49.a s49.n s49.c) (.slice (some ⟨h50.size,0,none⟩) 1 1) h51 fun s52 h53=>
  (Sm [⟨ob,1,none⟩] h51 h53 /\ 
  (NB x42.a fun b54 o55=>((0<=((IntKind.wrap .i64 ((IntKind.wrap .i64 ((p0.n:Int)*x40))+x41)):Int)/\((IntKind.wrap .i64 ((IntKind.wrap .i64 ((p0.n:Int)*x40))+x41)):Int)<(x42.n:Nat)) /\ 
  (okAt h53 ⟨b54,o55+Int.toNat (IntKind.wrap .i64 ((IntKind.wrap .i64 ((p0.n:Int)*x40))+x41))*1,none⟩ 1/\∀ h56:Heap,h56=hputs h53 ⟨b54,o55+Int.toNat (IntKind.wrap .i64 ((IntKind.wrap .i64 ((p0.n:Int)*x40))+x41))*1,none⟩ 0 [.slice s52.a s52.n s52.c] -> 
  (∃ x57:Sl,∃ x58:Sl,atC h56 ⟨ob,0,none⟩ [.slice x57.a x57.n x57.c,.slice x58.a x58.n x58.c] /\ 
  (okAt h56 ⟨b6,0,none⟩ 2/\∀ h59:Heap,h59=hputs h56 ⟨b6,0,none⟩ 0 [.slice x57.a x57.n x57.c,.slice x58.a x58.n x58.c] -> 
  (∃ x60:Sl,∃ x61:Sl,atC h59 ⟨b6,0,none⟩ [.slice x60.a x60.n x60.c,.slice x61.a x61.n x61.c] /\ 
  R (.agg ⟨[.slice x60.a x60.n x60.c,.slice x61.a x61.n x61.c]⟩) h59)))))))))))))/\((∀ h62:Heap,h62=h48.push (.cells ⟨[.int .i64 x47]⟩ 3) -> 
  (Sm [⟨b44,o45+Int.toNat (IntKind.wrap .i64 ((IntKind.wrap .i64 ((p0.n:Int)*x40))+x41))*1,none⟩,⟨b0,1,none⟩,⟨ob,1,none⟩] h48 h62 /\ 
  (App Pz 23 23 (.slice (some ⟨h38.size,0,none⟩) 0 0) (.slice x46.a x46.n x46.c) h62 fun s63 h64=>
  (Sm [⟨b7,3,none⟩,⟨ob,1,none⟩] h62 h64 /\ 
  (App Pz 23 23 (.slice s63.a s63.n s63.c) (.slice (some ⟨h48.size,0,none⟩) 1 1) h64 fun s65 h66=>
  (Sm [⟨ob,1,none⟩] h64 h66 /\ 
  (NB x42.a fun b67 o68=>((0<=((IntKind.wrap .i64 ((IntKind.wrap .i64 ((p0.n:Int)*x40))+x41)):Int)/\((IntKind.wrap .i64 ((IntKind.wrap .i64 ((p0.n:Int)*x40))+x41)):Int)<(x42.n:Nat)) /\ 
  (okAt h66 ⟨b67,o68+Int.toNat (IntKind.wrap .i64 ((IntKind.wrap .i64 ((p0.n:Int)*x40))+x41))*1,none⟩ 1/\∀ h69:Heap,h69=hputs h66 ⟨b67,o68+Int.toNat (IntKind.wrap .i64 ((IntKind.wrap .i64 ((p0.n:Int)*x40))+x41))*1,none⟩ 0 [.slice s65.a s65.n s65.c] -> 
  (∃ x70:Sl,∃ x71:Sl,atC h69 ⟨ob,0,none⟩ [.slice x70.a x70.n x70.c,.slice x71.a x71.n x71.c] /\ 
  (okAt h69 ⟨b6,0,none⟩ 2/\∀ h72:Heap,h72=hputs h69 ⟨b6,0,none⟩ 0 [.slice x70.a x70.n x70.c,.slice x71.a x71.n x71.c] -> 
  (∃ x73:Sl,∃ x74:Sl,atC h72 ⟨b6,0,none⟩ [.slice x73.a x73.n x73.c,.slice x74.a x74.n x74.c] /\ 
  R (.agg ⟨[.slice x73.a x73.n x73.c,.slice x74.a x74.n x74.c]⟩) h72))))))))))))))))/\((∀ h75:Heap,h75=h38.push (.cells ⟨[.int .i64 x47]⟩ 3) -> 
  (Sm [⟨b44,o45+Int.toNat (IntKind.wrap .i64 ((IntKind.wrap .i64 ((p0.n:Int)*x40))+x41))*1,none⟩,⟨b0,1,none⟩,⟨ob,1,none⟩] h38 h75 /\ 
  (∀ h76:Heap,h76=h75.push (.cells ⟨[]⟩ 3) -> 
  (Sm [⟨b7,3,none⟩,⟨b44,o45+Int.toNat (IntKind.wrap .i64 ((IntKind.wrap .i64 ((p0.n:Int)*x40))+x41))*1,none⟩,⟨b0,1,none⟩,⟨ob,1,none⟩] h75 h76 /\ 
  (App Pz 23 23 (.slice (some ⟨h75.size,0,none⟩) 0 0) (.slice x46.a x46.n x46.c) h76 fun s77 h78=>
  (Sm [⟨b7,3,none⟩,⟨ob,1,none⟩] h76 h78 /\ 
  (App Pz 23 23 (.slice s77.a s77.n s77.c) (.slice (some ⟨h38.size,0,none⟩) 1 1) h78 fun s79 h80=>
  (Sm [⟨ob,1,none⟩] h78 h80 /\ 
  (NB x42.a fun b81 o82=>((0<=((IntKind.wrap .i64 ((IntKind.wrap .i64 ((p0.n:Int)*x40))+x41)):Int)/\((IntKind.wrap .i64 ((IntKind.wrap .i64 ((p0.n:Int)*x40))+x41)):Int)<(x42.n:Nat)) /\ 
  (okAt h80 ⟨b81,o82+Int.toNat (IntKind.wrap .i64 ((IntKind.wrap .i64 ((p0.n:Int)*x40))+x41))*1,none⟩ 1/\∀ h83:Heap,h83=hputs h80 ⟨b81,o82+Int.toNat (IntKind.wrap .i64 ((IntKind.wrap .i64 ((p0.n:Int)*x40))+x41))*1,none⟩ 0 [.slice s79.a s79.n s79.c] -> 
  (∃ x84:Sl,∃ x85:Sl,atC h83 ⟨ob,0,none⟩ [.slice x84.a x84.n x84.c,.slice x85.a x85.n x85.c] /\ 
  (okAt h83 ⟨b6,0,none⟩ 2/\∀ h86:Heap,h86=hputs h83 ⟨b6,0,none⟩ 0 [.slice x84.a x84.n x84.c,.slice x85.a x85.n x85.c] -> 
  (∃ x87:Sl,∃ x88:Sl,atC h86 ⟨b6,0,none⟩ [.slice x87.a x87.n x87.c,.slice x88.a x88.n x88.c] /\ 
  R (.agg ⟨[.slice x87.a x87.n x87.c,.slice x88.a x88.n x88.c]⟩) h86)))))))))))))))))))))))) 
  ((∃ x89:Int,hc h38 ⟨b7,2,none⟩=some (.int .i64 x89) /\ 
  (∃ x90:Int,hc h38 ⟨b5,0,none⟩=some (.int .i64 x90) /\ 
  (∃ x91:Sl,hc h38 ⟨ob,1,none⟩=some (.slice x91.a x91.n x91.c) /\ 
  (∃ x92:Sl,hc h38 ⟨b0,1,none⟩=some (.slice x92.a x92.n x92.c) /\ 
  (NB x92.a fun b93 o94=>((0<=((IntKind.wrap .i64 ((IntKind.wrap .i64 ((p0.n:Int)*x89))+x90)):Int)/\((IntKind.wrap .i64 ((IntKind.wrap .i64 ((p0.n:Int)*x89))+x90)):Int)<(x92.n:Nat)) /\ 
  (∃ x95:Sl,hc h38 ⟨b93,o94+Int.toNat (IntKind.wrap .i64 ((IntKind.wrap .i64 ((p0.n:Int)*x89))+x90))*1,none⟩=some (.slice x95.a x95.n x95.c) /\ 
  (((0:Int)<=(1:Int)/\(1:Int)<=((x95.n:Nat):Int)/\((x95.n:Nat):Int)<=(x95.c:Nat)) /\ 
  (∀ h96:Heap,h96=h38.push (.cells ⟨[]⟩ 3) -> 
  (Sm [⟨b93,o94+Int.toNat (IntKind.wrap .i64 ((IntKind.wrap .i64 ((p0.n:Int)*x89))+x90))*1,none⟩,⟨b0,1,none⟩,⟨ob,1,none⟩] h38 h96 /\ 
  (App Pz 23 23 (.slice (some ⟨h38.size,0,none⟩) 0 0) (.slice (subA x95.a (Int.toNat 1) x95.c 1) (Int.toNat (x95.n:Nat) - Int.toNat 1) (x95.c - Int.toNat 1)) h96 fun s97 h98=>
  (Sm [⟨ob,1,none⟩] h96 h98 /\ 
  (NB x91.a fun b99 o100=>((0<=((IntKind.wrap .i64 ((IntKind.wrap .i64 ((p0.n:Int)*x89))+x90)):Int)/\((IntKind.wrap .i64 ((IntKind.wrap .i64 ((p0.n:Int)*x89))+x90)):Int)<(x91.n:Nat)) /\ 
  (okAt h98 ⟨b99,o100+Int.toNat (IntKind.wrap .i64 ((IntKind.wrap .i64 ((p0.n:Int)*x89))+x90))*1,none⟩ 1/\∀ h101:Heap,h101=hputs h98 ⟨b99,o100+Int.toNat (IntKind.wrap .i64 ((IntKind.wrap .i64 ((p0.n:Int)*x89))+x90))*1,none⟩ 0 [.slice s97.a s97.n s97.c] -> 
  (∃ x102:Sl,∃ x103:Sl,atC h101 ⟨ob,0,none⟩ [.slice x102.a x102.n x102.c,.slice x103.a x103.n x103.c] /\ 
  (okAt h101 ⟨b6,0,none⟩ 2/\∀ h104:Heap,h104=hputs h101 ⟨b6,0,none⟩ 0 [.slice x102.a x102.n x102.c,.slice x103.a x103.n x103.c] -> 
  (∃ x105:Sl,∃ x106:Sl,atC h104 ⟨b6,0,none⟩ [.slice x105.a x105.n x105.c,.slice x106.a x106.n x106.c] /\ 
  R (.agg ⟨[.slice x105.a x105.n x105.c,.slice x106.a x106.n x106.c]⟩) h104)))))))))))))))))))))))))))
theorem Sm_two {a b:Addr} {h h':Heap} (h1:Sm [a] h h') (h2:Sm [b] h h'):Sm [a,b] h h':=fun x hx k v hv=>by
 rcases Yr.1 hx with rfl | hx
 ·
  exact h1 _ Yx k v hv
 ·
  exact h2 _ hx k v hv
theorem Rw.tail1 {h:Heap} {s:Sl} {row:List Value} {rows:List (List Value)} (hr:Rw h 1 s (row::rows)) (hc:s.n<=s.c) (h1:1<=s.n):Rw h 1 ⟨subA s.a (Int.toNat 1) s.c 1,Int.toNat (s.n:Nat) - Int.toNat 1,s.c - Int.toNat 1⟩ rows/\subA s.a (Int.toNat 1) s.c 1 ≠ none:=by
 obtain ⟨e1,e2⟩:=hr
 rw [Yyj] at e1
 obtain ⟨b,o,ha,hrow⟩:=e2 (by simp)
 have e3:Int.toNat (1:Int)=1:=rfl
 rw [e3,Ys]
 refine ⟨⟨by show s.n - 1=_; omega,fun hp=>?_⟩,?_⟩
 ·
  have hc1:¬ s.c=1:=by omega
  refine ⟨b,o+1,?_,fun i r hi=>?_⟩
  ·
   show subA s.a 1 s.c 1=_
   unfold subA
   rw [if_neg hc1,ha,Option.map_some,Nat.one_mul,Addr.add_lit]
  ·
   have:=hrow (i+1) r hi
   rwa [show o+(i+1)*1=o+1+i*1 by omega] at this
 ·
  show subA s.a 1 s.c 1 ≠ none
  unfold subA
  rw [ha]
  split <;> simp
def NexV (S:List Int) (B:List Bx) (p j:Nat) (x:Mv) (l:List Int) (h:Heap) (v:Value) (h':Heap):Prop:=∃ (ts tb u:Sl),v=cfA ts tb/\St h h' [.sl ts 3 1 ((S.set p x.t).map inC),.sl tb 23 1 ((B.set j ⟨u,l⟩).map Bx.cs),.sl u 3 1 (l.map inC)]
set_option maxHeartbeats 3200000 in
theorem tailN_ok (n:Nat) (s ss sb ts tb u1 u2:Sl) (S:List Int) (B:List Bx) (p:Nat) (i:Int) (x:Mv) (q:Bx) (l:List Int) (ob b0 b5 b6 b7:Nat) (h h0:Heap) (hC:CfI h ss sb S B) (hn:s.n=n) (h6:n<=6) (hp:p<n) (hx0:0<=x.peer) (hx1:x.peer<(n:Int)) (hS:S.length=n) (hB:B.length=n*n)
  (gq:B[bxI n p x]?=some q) (hq:q.l.length<=4) (hl:l=if x.send=true then q.l++[x.label] else q.l.tail) (hr:x.send=false->1<=q.l.length)
  (hs:St h h0 [.blk ob [.slice ts.a ts.n ts.c,.slice tb.a tb.n tb.c] 26,.sl ts 3 1 (S.map inC),.sl tb 23 1 (B.map Bx.cs),.blk b7 x.cs 108,.blk b6 [.slice u1.a u1.n u1.c,.slice u2.a u2.n u2.c] 26,.blk b5 [.int .i64 (p:Int),.int .i64 i] 60,.blk b0 [.slice ss.a ss.n ss.c,.slice sb.a sb.n sb.c] 26]) :
  tailN s ob b0 b5 b6 b7 h0 (NexV S B p (bxI n p x) x l h):=by
 unfold tailN
 have h36:=sq6 h6
 have hj:=bxI_lt (n:=n) (x:=x) hp hx0 hx1
 have hts:=(hs.rows 1 (s:=ts) (cs:=inC) rfl (by omega)).ln
 have htb:=(hs.rows 2 (s:=tb) (cs:=Bx.cs) rfl (by omega)).ln
 have hbn:=hC.b.ln
 have hqs:=hC.i q (Yb gq)
 have hqn:=hqs.ln
 obtain ⟨pe,hpe⟩:∃ pe:Nat,x.peer=(pe:Int):=⟨x.peer.toNat,by omega⟩
 have hpt:x.peer.toNat=pe:=by omega
 refine ⟨ts,hs.rd 0 rfl (i:=0) rfl,(p:Int),hs.rd 5 rfl (i:=0) rfl,x.t,hs.rd 3 rfl (i:=4) rfl,?_⟩
 refine hs.set 1 (s:=ts) (cs:=inC) (x:=(p:Int)) rfl (by omega) (by omega) (by omega) x.t rfl rfl (fun b o h38 hs=>?_) rfl
 rw [Ys] at hs
 have hw1:∀ a b:Nat,a<n->b<n->IntKind.wrap .i64 (IntKind.wrap .i64 ((s.n:Int)*(a:Int))+(b:Int))=((n*a+b:Nat):Int):=fun a b ha hb=>by
  have e1:(s.n:Int)*(a:Int)=((n*a:Nat):Int):=by rw [hn]; rfl
  have:=two_lt ha hb
  rw [e1,w64 (n:=((n*a:Nat):Int)) (by omega) (by omega)]
  rw [w64 (by omega) (by omega)]; rfl
 have fin:∀ {u:Sl} {hh:Heap} {A:List It} ,St h hh (A++[.sl u 3 1 (l.map inC),.blk ob [.slice ts.a ts.n ts.c,.slice tb.a tb.n tb.c] 26,.sl ts 3 1 ((S.set p x.t).map inC),.sl tb 23 1 ((B.set (bxI n p x) ⟨u,l⟩).map Bx.cs),.blk b7 x.cs 108,.blk b6 [.slice u1.a u1.n u1.c,.slice u2.a u2.n u2.c] 26,.blk b5 [.int .i64 (p:Int),.int .i64 i] 60,.blk b0 [.slice ss.a ss.n ss.c,.slice sb.a sb.n sb.c] 26]) ->
   (∃ x57:Sl,∃ x58:Sl,atC hh ⟨ob,0,none⟩ [.slice x57.a x57.n x57.c,.slice x58.a x58.n x58.c] /\ 
   (okAt hh ⟨b6,0,none⟩ 2/\∀ h59:Heap,h59=hputs hh ⟨b6,0,none⟩ 0 [.slice x57.a x57.n x57.c,.slice x58.a x58.n x58.c] -> 
   (∃ x60:Sl,∃ x61:Sl,atC h59 ⟨b6,0,none⟩ [.slice x60.a x60.n x60.c,.slice x61.a x61.n x61.c] /\ 
   NexV S B p (bxI n p x) x l h (.agg ⟨[.slice x60.a x60.n x60.c,.slice x61.a x61.n x61.c]⟩) h59))):=fun {u hh A} hs=>by
  have hs:=hs.sub (List.sublist_append_right A _)
  refine ⟨ts,tb,hs.at 1 rfl (o:=0) (n:=2) rfl,?_⟩
  refine hs.put 5 rfl (o:=0) (vs:=[.slice ts.a ts.n ts.c,.slice tb.a tb.n tb.c]) rfl (show 2<=2 by decide) fun h59 hs=>?_
  refine ⟨ts,tb,hs.at 5 rfl (o:=0) (n:=2) rfl,ts,tb,u,rfl,?_⟩
  have hs:=hs.sub (L':=[.sl u 3 1 (l.map inC),.sl ts 3 1 ((S.set p x.t).map inC),.sl tb 23 1 ((B.set (bxI n p x) ⟨u,l⟩).map Bx.cs)]) (.cons_cons _ (.cons _ (.cons_cons _ (.cons_cons _ (List.nil_sublist _)))))
  exact hs.perm (List.perm_middle (l₁:=[_,_]) (l₂:=[])).symm
 refine ⟨x.send,hs.rd 3 rfl (i:=1) rfl,sB_intro (fun d=>?_) (fun d=>?_)⟩
 ·
  have hjj:bxI n p x=n*p+pe:=by unfold bxI; rw [if_pos d,hpt]
  have hJ:=hw1 p pe hp (by omega)
  rw [if_pos d] at hl
  have el:([]++q.l.map inC)++[inC x.label]=l.map inC:=by rw [hl,Ym]; rfl
  rw [<- hjj,<- hpe] at hJ
  refine ⟨(p:Int),hs.rd 5 rfl (i:=0) rfl,x.peer,hs.rd 3 rfl (i:=2) rfl,tb,hs.rd 0 rfl (i:=1) rfl,sb,hs.rd 6 rfl (i:=1) rfl,?_⟩
  rw [hJ]
  refine (hC.b.rw.ext hs.ext).nbI (by omega) (by omega) fun b o q' gq' t=>?_
  rw [Ys,gq] at gq'; cases gq'
  refine ⟨q.s,t.hd,x.label,hs.rd 3 rfl (i:=3) rfl,And.intro ?_ ?_⟩
  ·
   refine hs.newbE fun h48 E48 hs=>⟨E48.sm,?_⟩
   have hs:=hs.blkS 0 1 [] rfl (fun r hr=>by cases hr) rfl (Nat.zero_le _)
   refine And.intro ?_ ?_
   ·
    have hs48:=hs
    refine hs.appRw 0 (s:=⟨some ⟨h38.size,0,none⟩,0,0⟩) (rows:=[]) (y:=q.s) rfl app42 (hqs.rw.ext hs.ext) (inrows' q.l) hqs.nil (flat_oneB (fun _=>rfl) _) (by show (0+q.s.n)*8<=_; omega) (by show 0+q.s.n<=_; simp only [maxLen]; omega) fun e h50 ne hs=>?_
    refine ⟨Sm_two (hs48.smbO hs 4 4 3 rfl rfl) (hs48.smbO hs 1 1 1 rfl rfl),?_⟩
    refine hs.newbE fun h51 E51 hs=>⟨E51.sm,?_⟩
    have hs51:=hs
    refine hs.appended 1 (s:=e) (n:=1) (rows:=[]++q.l.map inC) rfl app42 (m:=1) (news:=[inC x.label]) (hs.at 0 rfl (n:=1) rfl) rfl (by simp [inC]) rfl (by have:e.n=0+q.s.n:=ne; omega) (by have:e.n=0+q.s.n:=ne; simp only [maxLen]; omega) fun u h53 nu hs=>?_
    refine ⟨hs51.smbO hs 2 2 1 rfl rfl,?_⟩
    refine hs.set 4 (s:=tb) (cs:=Bx.cs) (x:=(bxI n p x:Int)) rfl (by omega) (by omega) (by omega) (⟨u,l⟩:Bx) rfl rfl (fun b o h56 hs=>?_) rfl
    rw [Ys] at hs
    refine fin (u:=u) (A:=[.blk h50.size [.int .i64 x.label] 3]) ?_
    rw [<- el]; exact hs
   ·
    refine hs.newbE fun h62 E62 hs=>⟨E62.sm,?_⟩
    have hs62:=hs
    refine hs.appRw 1 (s:=⟨some ⟨h38.size,0,none⟩,0,0⟩) (rows:=[]) (y:=q.s) rfl app42 (hqs.rw.ext hs.ext) (inrows' q.l) hqs.nil (flat_oneB (fun _=>rfl) _) (by show (0+q.s.n)*8<=_; omega) (by show 0+q.s.n<=_; simp only [maxLen]; omega) fun e h64 ne hs=>?_
    refine ⟨Sm_two (hs62.smbO hs 5 5 3 rfl rfl) (hs62.smbO hs 2 2 1 rfl rfl),?_⟩
    have hs64:=hs
    refine hs.appended 1 (s:=e) (n:=1) (rows:=[]++q.l.map inC) rfl app42 (m:=1) (news:=[inC x.label]) (hs.at 0 rfl (n:=1) rfl) rfl (by simp [inC]) rfl (by have:e.n=0+q.s.n:=ne; omega) (by have:e.n=0+q.s.n:=ne; simp only [maxLen]; omega) fun u h66 nu hs=>?_
    refine ⟨hs64.smbO hs 2 2 1 rfl rfl,?_⟩
    refine hs.set 4 (s:=tb) (cs:=Bx.cs) (x:=(bxI n p x:Int)) rfl (by omega) (by omega) (by omega) (⟨u,l⟩:Bx) rfl rfl (fun b o h56 hs=>?_) rfl
    rw [Ys] at hs
    refine fin (u:=u) (A:=[.blk h48.size [.int .i64 x.label] 3]) ?_
    rw [<- el]; exact hs
  ·
   refine hs.newbE fun h75 E75 hs=>⟨E75.sm,?_⟩
   refine hs.newbE fun h76 E76 hs=>⟨E76.sm,?_⟩
   have hs:=hs.blkS 0 1 [] rfl (fun r hr=>by cases hr) rfl (Nat.zero_le _)
   have hs76:=hs
   refine hs.appRw 0 (s:=⟨some ⟨h75.size,0,none⟩,0,0⟩) (rows:=[]) (y:=q.s) rfl app42 (hqs.rw.ext hs.ext) (inrows' q.l) hqs.nil (flat_oneB (fun _=>rfl) _) (by show (0+q.s.n)*8<=_; omega) (by show 0+q.s.n<=_; simp only [maxLen]; omega) fun e h78 ne hs=>?_
   refine ⟨Sm_two (hs76.smbO hs 5 5 3 rfl rfl) (hs76.smbO hs 2 2 1 rfl rfl),?_⟩
   have hs78:=hs
   refine hs.appended 0 (s:=e) (n:=1) (rows:=[]++q.l.map inC) rfl app42 (m:=1) (news:=[inC x.label]) (hs.at 1 rfl (n:=1) rfl) rfl (by simp [inC]) rfl (by have:e.n=0+q.s.n:=ne; omega) (by have:e.n=0+q.s.n:=ne; simp only [maxLen]; omega) fun u h80 nu hs=>?_
   refine ⟨hs78.smbO hs 2 2 1 rfl rfl,?_⟩
   refine hs.set 4 (s:=tb) (cs:=Bx.cs) (x:=(bxI n p x:Int)) rfl (by omega) (by omega) (by omega) (⟨u,l⟩:Bx) rfl rfl (fun b o h56 hs=>?_) rfl
   rw [Ys] at hs
   refine fin (u:=u) (A:=[.blk h38.size [.int .i64 x.label] 3]) ?_
   rw [<- el]; exact hs.perm (List.Perm.swap _ _ _)
 ·
  have hr1:=hr d
  have hjj:bxI n p x=n*pe+p:=by unfold bxI; rw [if_neg (by rw [d]; decide),hpt]
  have hJ:=hw1 pe p (by omega) hp
  rw [if_neg (by rw [d]; decide)] at hl
  rw [<- hjj,<- hpe] at hJ
  refine ⟨x.peer,hs.rd 3 rfl (i:=2) rfl,(p:Int),hs.rd 5 rfl (i:=0) rfl,tb,hs.rd 0 rfl (i:=1) rfl,sb,hs.rd 6 rfl (i:=1) rfl,?_⟩
  rw [hJ]
  refine (hC.b.rw.ext hs.ext).nbI (by omega) (by omega) fun b o q' gq' t=>?_
  rw [Ys,gq] at gq'; cases gq'
  have hcap:=hqs.cap
  refine ⟨q.s,t.hd,⟨by omega,by omega,by omega⟩,?_⟩
  refine hs.newbE fun h96 E96 hs=>⟨E96.sm,?_⟩
  have hs:=hs.blkS 0 1 [] rfl (fun r hr=>by cases hr) rfl (Nat.zero_le _)
  have hs96:=hs
  obtain ⟨q0,tl,hqe⟩:∃ q0 tl,q.l=q0::tl:=by
   cases hq':q.l with
   | nil=>rw [hq'] at hr1; exact absurd hr1 (by decide)
   | cons a b=>exact ⟨a,b,rfl⟩
  have hltl:l=tl:=by rw [hl,hqe]; rfl
  have hrw:=hqs.rw.ext hs.ext
  rw [hqe,Yyl] at hrw
  have hsub:=Rw.tail1 hrw (by omega) (by omega)
  have e1:Int.toNat ((q.s.n:Nat):Int) - Int.toNat 1=q.s.n - 1:=by rw [Ys]; rfl
  refine hs.appRw 0 (s:=⟨some ⟨h38.size,0,none⟩,0,0⟩) (rows:=[]) (y:=⟨subA q.s.a (Int.toNat 1) q.s.c 1,Int.toNat (q.s.n:Nat) - Int.toNat 1,q.s.c - Int.toNat 1⟩) rfl app42 hsub.1 (inrows' tl) (fun ha=>absurd ha hsub.2) (flat_oneB (fun _=>rfl) _) (by show (0+(Int.toNat ((q.s.n:Nat):Int) - Int.toNat 1))*8<=_; omega) (by show 0+(Int.toNat ((q.s.n:Nat):Int) - Int.toNat 1)<=_; simp only [maxLen]; omega) fun u h98 ne hs=>?_
  refine ⟨hs96.smbO hs 1 1 1 rfl rfl,?_⟩
  refine hs.set 3 (s:=tb) (cs:=Bx.cs) (x:=(bxI n p x:Int)) rfl (by omega) (by omega) (by omega) (⟨u,l⟩:Bx) rfl rfl (fun b o h56 hs=>?_) rfl
  rw [Ys] at hs
  refine fin (u:=u) (A:=[]) ?_
  have el:[]++tl.map inC=l.map inC:=by rw [hltl]; rfl
  rw [<- el]; exact hs
end Go.VC
end
