/- WkVcE WkVcF WkK WkL WkM WkN WkO WkVcG WkP WkAf WkVcI WkVcK WkQ WkR WkVcM WkS WkT WkU WkVcN WkV WkVcO WkW WkVcP WkX WkY WkVcH WkZ WkVcR WkAg WkArgs. -/
import Derived.Test.YtnfkibjnkiojnaaGreatDoorM02
import Derived.Test.YtnfkibjnkiojnaaGreatDoorProg
import Derived.KernelRfl
import Derived.Test.YtnfkibjnkiojnaaGreatDoorM01
import Derived.Test.YtnfkibjnkiojnaaGreatDoorM25
import Derived.Test.YtnfkibjnkiojnaaGreatDoorM22
import Derived.Test.YtnfkibjnkiojnaaGreatDoorM19
import Derived.Test.YtnfkibjnkiojnaaGreatDoorRows
set_option linter.unusedVariables false
set_option linter.unusedSimpArgs false
set_option maxRecDepth 100000

section
namespace Go.VC
open Go.Proofs

def W59 (p0_1 p0_2:Sl) (h:Heap) (R:Value->Heap->Prop):Prop:=
 (Wn h [vS p0_1,vS p0_2] 29 fun h3=>
 (Wn h3 [.slice none 0 0,.slice none 0 0] 29 fun h4=>
 (∃ x5,rS h4 (aS h 0) x5 /\
 (∃ x6,rS h4 (aS h 1) x6 /\
 ((Fn Pz 92 #[vS x5] h4
 (fun v7 h9=>∃ x8,iS v7 x8 /\
 (Sm [(aS h 1)] h4 h9 /\
 ((((0:Int)<=(x6.n:Int)/\((x6.n:Int):Int)<=(x6.n:Int)/\((24:Nat):Int)*(x6.n:Int)<=140737488355328)/\Wn h9 (madeL Pz 23 (Int.toNat (x6.n:Int))) 23 fun h10=>
 (Sm [(aS h 0)] h9 h10 /\
 (Wn h10 [.slice none 0 0,.slice none 0 0] 29 fun h11=>
 (Sm [(aS h 1),(aS h 0)] h10 h11 /\
 (Wp h11 (aS h10 0) 2 [vS x8,.slice (some (aS h9 0)) (Int.toNat (x6.n:Int)) (Int.toNat (x6.n:Int))] fun h12=>
 (∃ x13,rS h12 (aS h 1) x13 /\
 (QI 0 h12 fun I14 x_17 h18 m16=>(
 (sB (decide (x_17<(x13.n:Int)))
 ((NB x13.a fun b19 o20=>(Ib x_17 x13.n /\
 (∃ x21,rS h18 ⟨b19,o20+Int.toNat x_17*1,none⟩ x21 /\
 (∃ x22,rS h18 (aS h10 1) x22 /\
 (Fn Pz 92 #[vS x21] h18
 (fun v23 h25=>∃ x24,iS v23 x24 /\
 (Sm [(aS h10 1)] h18 h25 /\
 (NB x22.a fun b26 o27=>(Ib x_17 x22.n /\
 (Wp h25 ⟨b26,o27+Int.toNat x_17*1,none⟩ 1 [vS x24] fun h28=>
 (∃ m29,m29<m16/\I14 (IntKind.wrap .i64 (x_17+1)) h28 m29))))))))))))
 ((∃ (x30 x31:Sl),atC h18 (aS h10 0) [vS x30,vS x31] /\
 (Wp h18 (aS h3 0) 2 [vS x30,vS x31] fun h32=>
 (∃ (x33 x34:Sl),atC h32 (aS h3 0) [vS x33,vS x34] /\
 R (.agg ⟨[vS x33,vS x34]⟩) h32))))))))))))))/\((Wn h9 [.slice none 0 0,.slice none 0 0] 29 fun h35=>
 (Sm [(aS h 1),(aS h 0)] h9 h35 /\
 (((0:Int)<=(x6.n:Int)/\((x6.n:Int):Int)<=(x6.n:Int)/\((24:Nat):Int)*(x6.n:Int)<=140737488355328)/\Wn h35 (madeL Pz 23 (Int.toNat (x6.n:Int))) 23 fun h36=>
 (Sm [(aS h 0)] h35 h36 /\
 (Wp h36 (aS h9 0) 2 [vS x8,.slice (some (aS h35 0)) (Int.toNat (x6.n:Int)) (Int.toNat (x6.n:Int))] fun h37=>
 (∃ x38,rS h37 (aS h 1) x38 /\
 (QI 0 h37 fun I39 x_42 h43 m41=>(
 (sB (decide (x_42<(x38.n:Int)))
 ((NB x38.a fun b44 o45=>(Ib x_42 x38.n /\
 (∃ x46,rS h43 ⟨b44,o45+Int.toNat x_42*1,none⟩ x46 /\
 (∃ x47,rS h43 (aS h9 1) x47 /\
 (Fn Pz 92 #[vS x46] h43
 (fun v48 h50=>∃ x49,iS v48 x49 /\
 (Sm [(aS h9 1)] h43 h50 /\
 (NB x47.a fun b51 o52=>(Ib x_42 x47.n /\
 (Wp h50 ⟨b51,o52+Int.toNat x_42*1,none⟩ 1 [vS x49] fun h53=>
 (∃ m54,m54<m41/\I39 (IntKind.wrap .i64 (x_42+1)) h53 m54))))))))))))
 ((∃ (x55 x56:Sl),atC h43 (aS h9 0) [vS x55,vS x56] /\
 (Wp h43 (aS h3 0) 2 [vS x55,vS x56] fun h57=>
 (∃ (x58 x59:Sl),atC h57 (aS h3 0) [vS x58,vS x59] /\
 R (.agg ⟨[vS x58,vS x59]⟩) h57))))))))))))))))))/\((((0:Int)<=(x6.n:Int)/\((x6.n:Int):Int)<=(x6.n:Int)/\((24:Nat):Int)*(x6.n:Int)<=140737488355328)/\Wn h4 (madeL Pz 23 (Int.toNat (x6.n:Int))) 23 fun h60=>
 (Sm [(aS h 0)] h4 h60 /\
 ((Fn Pz 92 #[vS x5] h60
 (fun v61 h63=>∃ x62,iS v61 x62 /\
 (Sm [(aS h 1)] h60 h63 /\
 (Wn h63 [.slice none 0 0,.slice none 0 0] 29 fun h64=>
 (Sm [(aS h 1),(aS h 0)] h63 h64 /\
 (Wp h64 (aS h63 0) 2 [vS x62,.slice (some (aS h4 0)) (Int.toNat (x6.n:Int)) (Int.toNat (x6.n:Int))] fun h65=>
 (∃ x66,rS h65 (aS h 1) x66 /\
 (QI 0 h65 fun I67 x_70 h71 m69=>(
 (sB (decide (x_70<(x66.n:Int)))
 ((NB x66.a fun b72 o73=>(Ib x_70 x66.n /\
 (∃ x74,rS h71 ⟨b72,o73+Int.toNat x_70*1,none⟩ x74 /\
 (∃ x75,rS h71 (aS h63 1) x75 /\
 (Fn Pz 92 #[vS x74] h71
 (fun v76 h78=>∃ x77,iS v76 x77 /\
 (Sm [(aS h63 1)] h71 h78 /\
 (NB x75.a fun b79 o80=>(Ib x_70 x75.n /\
 (Wp h78 ⟨b79,o80+Int.toNat x_70*1,none⟩ 1 [vS x77] fun h81=>
 (∃ m82,m82<m69/\I67 (IntKind.wrap .i64 (x_70+1)) h81 m82))))))))))))
 ((∃ (x83 x84:Sl),atC h71 (aS h63 0) [vS x83,vS x84] /\
 (Wp h71 (aS h3 0) 2 [vS x83,vS x84] fun h85=>
 (∃ (x86 x87:Sl),atC h85 (aS h3 0) [vS x86,vS x87] /\
 R (.agg ⟨[vS x86,vS x87]⟩) h85)))))))))))))))/\((Wn h60 [.slice none 0 0,.slice none 0 0] 29 fun h88=>
 (Sm [(aS h 1),(aS h 0)] h60 h88 /\
 (Fn Pz 92 #[vS x5] h88
 (fun v89 h91=>∃ x90,iS v89 x90 /\
 (Sm [(aS h 1)] h88 h91 /\
 (Wp h91 (aS h60 0) 2 [vS x90,.slice (some (aS h4 0)) (Int.toNat (x6.n:Int)) (Int.toNat (x6.n:Int))] fun h92=>
 (∃ x93,rS h92 (aS h 1) x93 /\
 (QI 0 h92 fun I94 x_97 h98 m96=>(
 (sB (decide (x_97<(x93.n:Int)))
 ((NB x93.a fun b99 o100=>(Ib x_97 x93.n /\
 (∃ x101,rS h98 ⟨b99,o100+Int.toNat x_97*1,none⟩ x101 /\
 (∃ x102,rS h98 (aS h60 1) x102 /\
 (Fn Pz 92 #[vS x101] h98
 (fun v103 h105=>∃ x104,iS v103 x104 /\
 (Sm [(aS h60 1)] h98 h105 /\
 (NB x102.a fun b106 o107=>(Ib x_97 x102.n /\
 (Wp h105 ⟨b106,o107+Int.toNat x_97*1,none⟩ 1 [vS x104] fun h108=>
 (∃ m109,m109<m96/\I94 (IntKind.wrap .i64 (x_97+1)) h108 m109))))))))))))
 ((∃ (x110 x111:Sl),atC h98 (aS h60 0) [vS x110,vS x111] /\
 (Wp h98 (aS h3 0) 2 [vS x110,vS x111] fun h112=>
 (∃ (x113 x114:Sl),atC h112 (aS h3 0) [vS x113,vS x114] /\
 R (.agg ⟨[vS x113,vS x114]⟩) h112))))))))))))))))))/\((Wn h4 [.slice none 0 0,.slice none 0 0] 29 fun h115=>
 (Sm [(aS h 1),(aS h 0)] h4 h115 /\
 ((Fn Pz 92 #[vS x5] h115
 (fun v116 h118=>∃ x117,iS v116 x117 /\
 (Sm [(aS h 1)] h115 h118 /\
 (((0:Int)<=(x6.n:Int)/\((x6.n:Int):Int)<=(x6.n:Int)/\((24:Nat):Int)*(x6.n:Int)<=140737488355328)/\Wn h118 (madeL Pz 23 (Int.toNat (x6.n:Int))) 23 fun h119=>
 (Sm [(aS h 0)] h118 h119 /\
 (Wp h119 (aS h4 0) 2 [vS x117,.slice (some (aS h118 0)) (Int.toNat (x6.n:Int)) (Int.toNat (x6.n:Int))] fun h120=>
 (∃ x121,rS h120 (aS h 1) x121 /\
 (QI 0 h120 fun I122 x_125 h126 m124=>(
 (sB (decide (x_125<(x121.n:Int)))
 ((NB x121.a fun b127 o128=>(Ib x_125 x121.n /\
 (∃ x129,rS h126 ⟨b127,o128+Int.toNat x_125*1,none⟩ x129 /\
 (∃ x130,rS h126 (aS h4 1) x130 /\
 (Fn Pz 92 #[vS x129] h126
 (fun v131 h133=>∃ x132,iS v131 x132 /\
 (Sm [(aS h4 1)] h126 h133 /\
 (NB x130.a fun b134 o135=>(Ib x_125 x130.n /\
 (Wp h133 ⟨b134,o135+Int.toNat x_125*1,none⟩ 1 [vS x132] fun h136=>
 (∃ m137,m137<m124/\I122 (IntKind.wrap .i64 (x_125+1)) h136 m137))))))))))))
 ((∃ (x138 x139:Sl),atC h126 (aS h4 0) [vS x138,vS x139] /\
 (Wp h126 (aS h3 0) 2 [vS x138,vS x139] fun h140=>
 (∃ (x141 x142:Sl),atC h140 (aS h3 0) [vS x141,vS x142] /\
 R (.agg ⟨[vS x141,vS x142]⟩) h140)))))))))))))))/\((((0:Int)<=(x6.n:Int)/\((x6.n:Int):Int)<=(x6.n:Int)/\((24:Nat):Int)*(x6.n:Int)<=140737488355328)/\Wn h115 (madeL Pz 23 (Int.toNat (x6.n:Int))) 23 fun h143=>
 (Sm [(aS h 0)] h115 h143 /\
 (Fn Pz 92 #[vS x5] h143
 (fun v144 h146=>∃ x145,iS v144 x145 /\
 (Sm [(aS h 1)] h143 h146 /\
 (Wp h146 (aS h4 0) 2 [vS x145,.slice (some (aS h115 0)) (Int.toNat (x6.n:Int)) (Int.toNat (x6.n:Int))] fun h147=>
 (∃ x148,rS h147 (aS h 1) x148 /\
 (QI 0 h147 fun I149 x_152 h153 m151=>(
 (sB (decide (x_152<(x148.n:Int)))
 ((NB x148.a fun b154 o155=>(Ib x_152 x148.n /\
 (∃ x156,rS h153 ⟨b154,o155+Int.toNat x_152*1,none⟩ x156 /\
 (∃ x157,rS h153 (aS h4 1) x157 /\
 (Fn Pz 92 #[vS x156] h153
 (fun v158 h160=>∃ x159,iS v158 x159 /\
 (Sm [(aS h4 1)] h153 h160 /\
 (NB x157.a fun b161 o162=>(Ib x_152 x157.n /\
 (Wp h160 ⟨b161,o162+Int.toNat x_152*1,none⟩ 1 [vS x159] fun h163=>
 (∃ m164,m164<m151/\I149 (IntKind.wrap .i64 (x_152+1)) h163 m164))))))))))))
 ((∃ (x165 x166:Sl),atC h153 (aS h4 0) [vS x165,vS x166] /\
 (Wp h153 (aS h3 0) 2 [vS x165,vS x166] fun h167=>
 (∃ (x168 x169:Sl),atC h167 (aS h3 0) [vS x168,vS x169] /\
 R (.agg ⟨[vS x168,vS x169]⟩) h167))))))))))))))))))))))
theorem vc59 (p0_1 p0_2:Sl) (h:Heap) (R:Value->Heap->Prop) (H:W59 p0_1 p0_2 h R):Fn Pz 59 #[.agg ⟨[vS p0_1,vS p0_2]⟩] h R:=fnI (A:=(.s .z (.s .z (.s (.s .z (.b (.l [(17,.one (.int .i64))] .z))) .z)))) (by kernel_rfl) H

def W57 (p0:Sl) (p1_1 p1_2:Int) (h:Heap) (R:Value->Heap->Prop):Prop:=
 (Wn h [vI p1_1,vI p1_2] 57 fun h3=>
 (Wn h3 [vI 0,.bool false,vI 0,vI 0,vI 0,.bool false] 108 fun h4=>
 (∃ x5,rI h4 (aS h 0) x5 /\
 (sB (decide (x5<0))
 ((Wp h4 (aS h3 0) 6 [vI 0,.bool false,vI 0,vI 0,vI 0,.bool false] fun h6=>
 (∃ x7 x8 x9 x10 x11 x12,aL0 h6 (aS h3 0) x7 x8 x9 x10 x11 x12 /\
 R (.tuple ⟨[.agg ⟨(L0 x7 x8 x9 x10 x11 x12)⟩,.bool false]⟩) h6)))
 ((∃ x13,rI h4 (aS h 0) x13 /\
 (sB (decide (x13 >= (p0.n:Int)))
 ((Wp h4 (aS h3 0) 6 [vI 0,.bool false,vI 0,vI 0,vI 0,.bool false] fun h14=>
 (∃ x15 x16 x17 x18 x19 x20,aL0 h14 (aS h3 0) x15 x16 x17 x18 x19 x20 /\
 R (.tuple ⟨[.agg ⟨(L0 x15 x16 x17 x18 x19 x20)⟩,.bool false]⟩) h14)))
 ((∃ x21,rI h4 (aS h 1) x21 /\
 (sB (decide (x21<0))
 ((Wp h4 (aS h3 0) 6 [vI 0,.bool false,vI 0,vI 0,vI 0,.bool false] fun h22=>
 (∃ x23 x24 x25 x26 x27 x28,aL0 h22 (aS h3 0) x23 x24 x25 x26 x27 x28 /\
 R (.tuple ⟨[.agg ⟨(L0 x23 x24 x25 x26 x27 x28)⟩,.bool false]⟩) h22)))
 ((∃ x29,rI h4 (aS h 1) x29 /\
 (∃ x30,rI h4 (aS h 0) x30 /\
 (NB p0.a fun b31 o32=>(Ib x30 p0.n /\
 (∃ x33,rS h4 ⟨b31,o32+Int.toNat x30*6+4,none⟩ x33 /\
 (sB (decide (x29 >= (x33.n:Int)))
 ((Wp h4 (aS h3 0) 6 [vI 0,.bool false,vI 0,vI 0,vI 0,.bool false] fun h34=>
 (∃ x35 x36 x37 x38 x39 x40,aL0 h34 (aS h3 0) x35 x36 x37 x38 x39 x40 /\
 R (.tuple ⟨[.agg ⟨(L0 x35 x36 x37 x38 x39 x40)⟩,.bool false]⟩) h34)))
 ((∃ x41,rI h4 (aS h 0) x41 /\
 (NB p0.a fun b42 o43=>(Ib x41 p0.n /\
 (∃ x44,rS h4 ⟨b42,o43+Int.toNat x41*6+4,none⟩ x44 /\
 (∃ x45,rI h4 (aS h 1) x45 /\
 (NB x44.a fun b46 o47=>(Ib x45 x44.n /\
 (∃ x48 x49 x50 x51 x52 x53,aL0 h4 ⟨b46,o47+Int.toNat x45*6,none⟩ x48 x49 x50 x51 x52 x53 /\
 (Wp h4 (aS h3 0) 6 (L0 x48 x49 x50 x51 x52 x53) fun h54=>
 (∃ x55 x56 x57 x58 x59 x60,aL0 h54 (aS h3 0) x55 x56 x57 x58 x59 x60 /\
 R (.tuple ⟨[.agg ⟨(L0 x55 x56 x57 x58 x59 x60)⟩,.bool true]⟩) h54))))))))))))))))))))))))))))
theorem vc57 (p0:Sl) (p1_1 p1_2:Int) (h:Heap) (R:Value->Heap->Prop) (H:W57 p0 p1_1 p1_2 h R):Fn Pz 57 #[vS p0,.agg ⟨[vI p1_1,vI p1_2]⟩] h R:=fnI (A:=.z) (by kernel_rfl) H

def W27 (p0:Sl) (p1:Int) (p2_1 p2_2:Sl) (p3_3 p3_4:Int) (h:Heap) (R:Value->Heap->Prop):Prop:=
 (Wn h [vS p2_1,vS p2_2] 29 fun h5=>
 (Wn h5 [vI p3_3,vI p3_4] 57 fun h6=>
 (Wn h6 [.slice none 0 0,.slice none 0 0] 29 fun h7=>
 (∃ (x8 x9:Sl),atC h7 (aS h 0) [vS x8,vS x9] /\
 (Fn Pz 24 #[vS p0,vI p1,.agg ⟨[vS x8,vS x9]⟩] h7
 (fun v10 h12=>∃ x11,iB v10 x11 /\
 (sB (!x11)
 ((Wp h12 (aS h6 0) 2 [.slice none 0 0,.slice none 0 0] fun h13=>
 (∃ (x14 x15:Sl),atC h13 (aS h6 0) [vS x14,vS x15] /\
 R (.tuple ⟨[.agg ⟨[vS x14,vS x15]⟩,vI 1]⟩) h13)))
 ((∃ (x16 x17:Int),atC h12 (aS h5 0) [vI x16,vI x17] /\
 (Fn Pz 57 #[vS p0,.agg ⟨[vI x16,vI x17]⟩] h12
 (fun v18 h26=>∃ (x19:Int) (x20:Bool) (x21 x22 x23:Int) (x24 x25:Bool),v18=.tuple ⟨[.agg ⟨(L0 x19 x20 x21 x22 x23 x24)⟩,.bool x25]⟩ /\
 (Wn h26 [vI 0,.bool false,vI 0,vI 0,vI 0,.bool false] 108 fun h27=>
 (Wp h27 (aS h26 0) 6 (L0 x19 x20 x21 x22 x23 x24) fun h28=>
 (sB (!x25)
 ((Wp h28 (aS h6 0) 2 [.slice none 0 0,.slice none 0 0] fun h29=>
 (∃ (x30 x31:Sl),atC h29 (aS h6 0) [vS x30,vS x31] /\
 R (.tuple ⟨[.agg ⟨[vS x30,vS x31]⟩,vI 2]⟩) h29)))
 ((∃ (x32 x33:Sl),atC h28 (aS h 0) [vS x32,vS x33] /\
 (∃ x34,rI h28 (aS h5 0) x34 /\
 (∃ x35 x36 x37 x38 x39 x40,aL0 h28 (aS h26 0) x35 x36 x37 x38 x39 x40 /\
 (Fn Pz 58 #[vI (p0.n:Int),vI p1,.agg ⟨[vS x32,vS x33]⟩,vI x34,.agg ⟨(L0 x35 x36 x37 x38 x39 x40)⟩] h28
 (fun v41 h43=>∃ x42,iI v41 x42 /\
 (sB (x42 != 0)
 ((Wp h43 (aS h6 0) 2 [.slice none 0 0,.slice none 0 0] fun h44=>
 (∃ (x45 x46:Sl),atC h44 (aS h6 0) [vS x45,vS x46] /\
 R (.tuple ⟨[.agg ⟨[vS x45,vS x46]⟩,vI x42]⟩) h44)))
 ((∃ (x47 x48:Sl),atC h43 (aS h 0) [vS x47,vS x48] /\
 (Fn Pz 59 #[.agg ⟨[vS x47,vS x48]⟩] h43
 (fun v49 h52=>∃ (x50 x51:Sl),v49=.agg ⟨[vS x50,vS x51]⟩ /\
 (Wn h52 [.slice none 0 0,.slice none 0 0] 29 fun h53=>
 (Wp h53 (aS h52 0) 2 [vS x50,vS x51] fun h54=>
 (∃ x55,rS h54 (aS h52 0) x55 /\
 (∃ x56,rI h54 (aS h5 0) x56 /\
 (∃ x57,rI h54 (aS h26 4) x57 /\
 (NB x55.a fun b58 o59=>(Ib x56 x55.n /\
 (Wp h54 ⟨b58,o59+Int.toNat x56*1,none⟩ 1 [vI x57] fun h60=>
 (∃ x61,rI h60 (aS h5 0) x61 /\
 (∃ x62 x63 x64 x65 x66 x67,aL0 h60 (aS h26 0) x62 x63 x64 x65 x66 x67 /\
 (Fn Pz 60 #[vI (p0.n:Int),vI x61,.agg ⟨(L0 x62 x63 x64 x65 x66 x67)⟩] h60
 (fun v68 h70=>∃ x69,iI v68 x69 /\
 (∃ x71,rB h70 (aS h26 1) x71 /\
 (sB x71
 ((∃ x72,rS h70 (aS h52 1) x72 /\
 (∃ x73,rS h70 (aS h52 1) x73 /\
 (NB x73.a fun b74 o75=>(Ib x69 x73.n /\
 (∃ x76,rS h70 ⟨b74,o75+Int.toNat x69*1,none⟩ x76 /\
 (∃ x77,rI h70 (aS h26 3) x77 /\
 (Wn h70 [vI x77] 3 fun h78=>
 (Sm [⟨b74,o75+Int.toNat x69*1,none⟩,(aS h52 1),(aS h52 1)] h70 h78 /\
 (App Pz 23 23 (vS x76) (.slice (some (aS h70 0)) 1 1) h78 fun s79 h80=>
 (Sm [(aS h52 1)] h78 h80 /\
 (NB x72.a fun b81 o82=>(Ib x69 x72.n /\
 (Wp h80 ⟨b81,o82+Int.toNat x69*1,none⟩ 1 [vS s79] fun h83=>
 (∃ (x84 x85:Sl),atC h83 (aS h52 0) [vS x84,vS x85] /\
 (Wp h83 (aS h6 0) 2 [vS x84,vS x85] fun h86=>
 (∃ (x87 x88:Sl),atC h86 (aS h6 0) [vS x87,vS x88] /\
 R (.tuple ⟨[.agg ⟨[vS x87,vS x88]⟩,vI 0]⟩) h86)))))))))))))))))
 ((∃ x89,rS h70 (aS h52 1) x89 /\
 (∃ x90,rS h70 (aS h52 1) x90 /\
 (NB x90.a fun b91 o92=>(Ib x69 x90.n /\
 (∃ x93,rS h70 ⟨b91,o92+Int.toNat x69*1,none⟩ x93 /\
 (((0:Int)<=(1:Int)/\(1:Int)<=((x93.n:Nat):Int)/\((x93.n:Nat):Int)<=(x93.c:Nat)) /\
 (NB x89.a fun b94 o95=>(Ib x69 x89.n /\
 (Wp h70 ⟨b94,o95+Int.toNat x69*1,none⟩ 1 [.slice (subA x93.a (Int.toNat 1) x93.c 1) (Int.toNat (x93.n:Nat) - Int.toNat 1) (x93.c - Int.toNat 1)] fun h96=>
 (∃ (x97 x98:Sl),atC h96 (aS h52 0) [vS x97,vS x98] /\
 (Wp h96 (aS h6 0) 2 [vS x97,vS x98] fun h99=>
 (∃ (x100 x101:Sl),atC h99 (aS h6 0) [vS x100,vS x101] /\
 R (.tuple ⟨[.agg ⟨[vS x100,vS x101]⟩,vI 0]⟩) h99))))))))))))))))))))))))))))))))))))))))))))))))))))
theorem vc27 (p0:Sl) (p1:Int) (p2_1 p2_2:Sl) (p3_3 p3_4:Int) (h:Heap) (R:Value->Heap->Prop) (H:W27 p0 p1 p2_1 p2_2 p3_3 p3_4 h R):Fn Pz 27 #[vS p0,vI p1,.agg ⟨[vS p2_1,vS p2_2]⟩,.agg ⟨[vI p3_3,vI p3_4]⟩] h R:=fnI (A:=.z) (by kernel_rfl) H

end Go.VC
end

section
namespace Go.VC
open Go.Proofs

def W92 (p0:Sl) (h:Heap) (R:Value->Heap->Prop):Prop:=
 (sB (Option.isNone p0.a)
 (R (.slice none 0 0) h)
 ((Wn h [] 3 fun h1=>
 (App Pz 23 23 (.slice (some (aS h 0)) 0 0) (vS p0) h1 fun s2 h3=>
 R (vS s2) h3))))
theorem vc92 (p0:Sl) (h:Heap) (R:Value->Heap->Prop) (H:W92 p0 h R):Fn Pz 92 #[vS p0] h R:=fnI (A:=.z) (by kernel_rfl) H

end Go.VC
end

section
/- Contracts: clones of lists and configurations, moves by number. (Numbers of layer 27's development dump.) -/
namespace Go.VC
open Go.Proofs Go.LexS
theorem clone92 (l:List Int) (s:Sl) (h:Heap) (hr:RL h 1 s inC l):Fn Pz 92 #[.slice s.a s.n s.c] h fun v h'=>∃ t:Sl,v=.slice t.a t.n t.c/\St h h' [.sl t 3 1 (l.map inC)]:=by
 apply vc92 s; unfold W92
 have hn:=hr.ln
 have hsm:=hr.sm
 refine sB_intro (fun c=>?_) (fun c=>?_)
 ·
  have h0:=hr.nil (Option.isNone_iff_eq_none.1 c)
  have:l=[]:=List.eq_nil_of_length_eq_zero (by omega)
  subst this
  exact ⟨⟨none,0,0⟩,rfl,(St.refl h).nil_ 3 1⟩
 ·
  refine (St.refl h).newb fun h1 hs=>?_
  have hs:=hs.blkS 0 1 [] rfl (fun r hr=>by cases hr) rfl (Nat.zero_le _)
  refine hs.appRw 0 (s:=⟨some ⟨h.size,0,none⟩,0,0⟩) (rows:=[]) (y:=s) rfl app42 (hr.rw.ext hs.ext) (inrows' l) hr.nil (flat_oneB (fun _=>rfl) _) (by show (0+s.n)*8<=_; omega) (by show 0+s.n<=_; simp only [maxLen]; omega) fun r h3 _ hs=>?_
  exact ⟨r,rfl,hs⟩
def clB (ob b0 b3:Nat) (h12:Heap) (R:Value->Heap->Prop):Prop:=
 (∃ x13:Sl,hc h12 ⟨b0,1,none⟩=some (.slice x13.a x13.n x13.c) /\ 
 (∃ I14:Int->Heap->Nat->Prop,(∃ m15,I14 0 h12 m15) /\ 
 (∀ (_:Env) (x_17:Int) (h18:Heap) (m16:Nat),I14 x_17 h18 m16 -> 
 (sB (decide (x_17<(x13.n:Int))) 
  ((NB x13.a fun b19 o20=>((0<=(x_17:Int)/\(x_17:Int)<(x13.n:Nat)) /\ 
  (∃ x21:Sl,hc h18 ⟨b19,o20+Int.toNat x_17*1,none⟩=some (.slice x21.a x21.n x21.c) /\ 
  (∃ x22:Sl,hc h18 ⟨ob,1,none⟩=some (.slice x22.a x22.n x22.c) /\ 
  (Fn Pz 92 #[.slice x21.a x21.n x21.c] h18 
  (fun v23 h25=>∃ x24:Sl,v23=.slice x24.a x24.n x24.c /\ 
  (Sm [⟨ob,1,none⟩] h18 h25 /\ 
  (NB x22.a fun b26 o27=>((0<=(x_17:Int)/\(x_17:Int)<(x22.n:Nat)) /\ 
  (okAt h25 ⟨b26,o27+Int.toNat x_17*1,none⟩ 1/\∀ h28:Heap,h28=hputs h25 ⟨b26,o27+Int.toNat x_17*1,none⟩ 0 [.slice x24.a x24.n x24.c] -> 
  (∃ m29,m29<m16/\I14 (IntKind.wrap .i64 (x_17+1)) h28 m29)))))))))))) 
  ((∃ x30:Sl,∃ x31:Sl,atC h18 ⟨ob,0,none⟩ [.slice x30.a x30.n x30.c,.slice x31.a x31.n x31.c] /\ 
  (okAt h18 ⟨b3,0,none⟩ 2/\∀ h32:Heap,h32=hputs h18 ⟨b3,0,none⟩ 0 [.slice x30.a x30.n x30.c,.slice x31.a x31.n x31.c] -> 
  (∃ x33:Sl,∃ x34:Sl,atC h32 ⟨b3,0,none⟩ [.slice x33.a x33.n x33.c,.slice x34.a x34.n x34.c] /\ 
  R (.agg ⟨[.slice x33.a x33.n x33.c,.slice x34.a x34.n x34.c]⟩) h32))))))))
def CloV (S:List Int) (B:List Bx) (h:Heap) (v:Value) (h':Heap):Prop:=∃ (ts tb:Sl) (T:List Bx),v=cfA ts tb/\T.map Bx.l=B.map Bx.l/\St h h' ([.sl ts 3 1 (S.map inC),.sl tb 23 1 (T.map Bx.cs)]++T.map Bx.it)
theorem set_grow {α:Type} {T:List α} {i k:Nat} {z x:α} (hT:T.length=i):(T++List.replicate (k+1) z).set i x=(T++[x])++List.replicate k z:=by
 subst hT
 rw [List.set_append_right _ _ (Yyt _),Nat.sub_self,List.replicate_succ,List.set_cons_zero,Yz]; rfl
set_option maxHeartbeats 1600000 in
theorem cloneB (ob b0 b3:Nat) (ss sb ts tb u1 u2:Sl) (S:List Int) (B:List Bx) (h h12:Heap) (hC:CfI h ss sb S B)
  (hs:St h h12 [.blk ob [.slice ts.a ts.n ts.c,.slice tb.a tb.n tb.c] 29,.sl tb 23 1 ((List.replicate B.length bx0).map Bx.cs),.blk b3 [.slice u1.a u1.n u1.c,.slice u2.a u2.n u2.c] 29,.blk b0 [.slice ss.a ss.n ss.c,.slice sb.a sb.n sb.c] 29,.sl ts 3 1 (S.map inC)]) :
  clB ob b0 b3 h12 (CloV S B h):=by
 unfold clB
 have hbn:=hC.b.ln
 have hbs:=hC.b.sm
 refine ⟨sb,hs.rd 3 rfl (i:=1) rfl,?_⟩
 refine ⟨fun x h' μ=>∃ (i:Nat) (T:List Bx),x=(i:Int)/\μ=B.length - i/\i<=B.length/\T.map Bx.l=(B.take i).map Bx.l/\St h h' (.blk ob [.slice ts.a ts.n ts.c,.slice tb.a tb.n tb.c] 29 :: .sl tb 23 1 ((T++List.replicate (B.length - i) bx0).map Bx.cs) :: .blk b3 [.slice u1.a u1.n u1.c,.slice u2.a u2.n u2.c] 29 :: .blk b0 [.slice ss.a ss.n ss.c,.slice sb.a sb.n sb.c] 29 :: .sl ts 3 1 (S.map inC)::T.map Bx.it),⟨_,0,[],rfl,rfl,Nat.zero_le _,rfl,hs⟩,?_⟩
 clear hs
 rintro - _ h18 μ ⟨i,T,rfl,rfl,hi,hT,hs⟩
 have hTl:T.length=i:=by have:=congrArg List.length hT; rw [Yc,Yc,Yu] at this; omega
 have htb:=(hs.rows 1 (s:=tb) (cs:=Bx.cs) rfl (by omega)).ln
 rw [Yh,Yg] at htb
 refine sBi (fun c=>?_) (fun c=>?_)
 ·
  obtain ⟨q,gq⟩:=get_some (l:=B) (i:=i) (by omega)
  refine (hC.b.rw.ext hs.ext).nbI (by omega) (by omega) fun b o q' gq' t=>?_
  rw [Ys] at gq'
  rw [gq] at gq'; cases gq'
  refine ⟨q.s,t.hd,tb,hs.rd 0 rfl (i:=1) rfl,?_⟩
  refine (clone92 q.l q.s h18 ((hC.i q (Yb gq)).ext hs.ext)).mono ?_
  rintro _ h25 ⟨u,rfl,hs2⟩
  have hs:=hs.join hs2
  refine ⟨u,rfl,hs2.ext.sm,?_⟩
  refine hs.set 1 (s:=tb) (cs:=Bx.cs) (x:=(i:Int)) rfl (by omega) (by omega) (by omega) (⟨u,q.l⟩:Bx) rfl rfl (fun b o h28 hs=>?_) rfl
  refine ⟨_,(show B.length - (i+1)<B.length - i by omega),i+1,T++[⟨u,q.l⟩],by rw [w64 (by omega) (by omega)]; omega,rfl,by omega,?_,?_⟩
  ·
   rw [take_snoc gq,Ym,Ym,hT]; rfl
  ·
   have e:=set_grow (k:=B.length - (i+1)) (z:=bx0) (x:=(⟨u,q.l⟩:Bx)) hTl
   rw [show B.length - (i+1)+1=B.length - i by omega] at e
   rw [Ys,e] at hs
   rw [Ym (f:=Bx.it)]
   exact hs
 ·
  have hil:i=B.length:=by omega
  rw [hil,Nat.sub_self,List.replicate_zero,Yw] at hs
  rw [hil,Yj (Yyt _)] at hT
  refine ⟨ts,tb,hs.at 0 rfl (o:=0) (n:=2) rfl,?_⟩
  refine hs.put 2 rfl (o:=0) (vs:=[.slice ts.a ts.n ts.c,.slice tb.a tb.n tb.c]) rfl (show 2<=2 by decide) fun h32 hs=>?_
  refine ⟨ts,tb,hs.at 2 rfl (o:=0) (n:=2) rfl,ts,tb,T,rfl,hT,?_⟩
  refine (hs.sub (L':=.sl tb 23 1 (T.map Bx.cs) :: .sl ts 3 1 (S.map inC)::T.map Bx.it) ?_).perm (List.Perm.swap _ _ _)
  exact List.Sublist.cons _ (List.Sublist.cons_cons _ (List.Sublist.cons _ (List.Sublist.cons _ (List.Sublist.refl _))))
end Go.VC
end

section
/- Contracts: clone of a configuration, move by number. (Numbers of layer 27's development dump.) -/
namespace Go.VC
open Go.Proofs Go.LexS
theorem boxes0 (n:Nat):madeL Pz 23 n=((List.replicate n bx0).map Bx.cs).flatten:=by rw [made42,List.map_replicate,List.map_replicate]; rfl
set_option maxHeartbeats 3200000 in
theorem clone59 (ss sb:Sl) (S:List Int) (B:List Bx) (h:Heap) (hC:CfI h ss sb S B) :
  Fn Pz 59 #[.agg ⟨[.slice ss.a ss.n ss.c,.slice sb.a sb.n sb.c]⟩] h (CloV S B h):=by
 apply vc59 ss sb; unfold W59
 have hbn:=hC.b.ln
 have hbs:=hC.b.sm
 refine (St.refl h).newb fun h3 hs=>?_
 refine hs.newb fun h4 hs=>?_
 refine ⟨ss,hs.rd 1 rfl (i:=0) rfl,sb,hs.rd 1 rfl (i:=1) rfl,?_⟩
 rw [Ys]
 have hc:((0:Int)<=(sb.n:Int)/\((sb.n:Int):Int)<=(sb.n:Int)/\((24:Nat):Int)*(sb.n:Int)<=140737488355328):=⟨by omega,by omega,by omega⟩
 have mk:∀ {hX:Heap} {b:Nat} {L:List It},St h hX (.blk b (madeL Pz 23 sb.n) 23::L)->St h hX (.sl ⟨some ⟨b,0,none⟩,sb.n,sb.n⟩ 23 1 ((List.replicate B.length bx0).map Bx.cs)::L):=fun hs=>
  hs.blkS sb.n 1 _ (by rw [hbn]; exact boxes0 _) (bxrows _) (by rw [Yc,Yg,hbn]) (by simp only [maxLen]; omega)
 refine And.intro ?_ (And.intro ?_ ?_)
 ·
  refine (clone92 S ss h4 (hC.s.ext hs.ext)).mono ?_
  rintro _ h9 ⟨ts,rfl,hs2⟩
  have hs:=hs.join hs2
  refine ⟨ts,rfl,hs2.ext.sm,And.intro ?_ ?_⟩
  ·
   refine ⟨hc,hs.newbE fun h10 E10 hs=>⟨E10.sm,?_⟩⟩
   have hs:=mk hs
   refine hs.newbE fun h11 E11 hs=>⟨E11.sm,?_⟩
   refine hs.put 0 rfl (o:=0) (vs:=[.slice ts.a ts.n ts.c,.slice (some ⟨h9.size,0,none⟩) sb.n sb.n]) rfl (show 2<=2 by decide) fun h12 hs=>?_
   exact cloneB _ _ _ ss sb ts ⟨some ⟨h9.size,0,none⟩,sb.n,sb.n⟩ ⟨none,0,0⟩ ⟨none,0,0⟩ S B h h12 hC hs
  ·
   refine hs.newbE fun h10 E10 hs=>⟨E10.sm,hc,?_⟩
   refine hs.newbE fun h11 E11 hs=>⟨E11.sm,?_⟩
   have hs:=mk hs
   refine hs.put 1 rfl (o:=0) (vs:=[.slice ts.a ts.n ts.c,.slice (some ⟨h10.size,0,none⟩) sb.n sb.n]) rfl (show 2<=2 by decide) fun h12 hs=>?_
   exact cloneB _ _ _ ss sb ts ⟨some ⟨h10.size,0,none⟩,sb.n,sb.n⟩ ⟨none,0,0⟩ ⟨none,0,0⟩ S B h h12 hC (hs.perm (List.Perm.swap _ _ _))
 ·
  refine ⟨hc,hs.newbE fun h10 E10 hs=>⟨E10.sm,?_⟩⟩
  have hs:=mk hs
  refine And.intro ?_ ?_
  ·
   refine (clone92 S ss h10 (hC.s.ext hs.ext)).mono ?_
   rintro _ h9 ⟨ts,rfl,hs2⟩
   have hs:=hs.join hs2
   refine ⟨ts,rfl,hs2.ext.sm,?_⟩
   refine hs.newbE fun h11 E11 hs=>⟨E11.sm,?_⟩
   refine hs.put 0 rfl (o:=0) (vs:=[.slice ts.a ts.n ts.c,.slice (some ⟨h4.size,0,none⟩) sb.n sb.n]) rfl (show 2<=2 by decide) fun h12 hs=>?_
   exact cloneB _ _ _ ss sb ts ⟨some ⟨h4.size,0,none⟩,sb.n,sb.n⟩ ⟨none,0,0⟩ ⟨none,0,0⟩ S B h h12 hC hs
  ·
   refine hs.newbE fun h11 E11 hs=>⟨E11.sm,?_⟩
   refine (clone92 S ss h11 (hC.s.ext hs.ext)).mono ?_
   rintro _ h9 ⟨ts,rfl,hs2⟩
   have hs:=hs.join hs2
   refine ⟨ts,rfl,hs2.ext.sm,?_⟩
   refine hs.put 0 rfl (o:=0) (vs:=[.slice ts.a ts.n ts.c,.slice (some ⟨h4.size,0,none⟩) sb.n sb.n]) rfl (show 2<=2 by decide) fun h12 hs=>?_
   exact cloneB _ _ _ ss sb ts ⟨some ⟨h4.size,0,none⟩,sb.n,sb.n⟩ ⟨none,0,0⟩ ⟨none,0,0⟩ S B h h12 hC hs
 ·
  refine hs.newbE fun h10 E10 hs=>⟨E10.sm,And.intro ?_ ?_⟩
  ·
   refine (clone92 S ss h10 (hC.s.ext hs.ext)).mono ?_
   rintro _ h9 ⟨ts,rfl,hs2⟩
   have hs:=hs.join hs2
   refine ⟨ts,rfl,hs2.ext.sm,hc,?_⟩
   refine hs.newbE fun h11 E11 hs=>⟨E11.sm,?_⟩
   have hs:=mk hs
   refine hs.put 1 rfl (o:=0) (vs:=[.slice ts.a ts.n ts.c,.slice (some ⟨h9.size,0,none⟩) sb.n sb.n]) rfl (show 2<=2 by decide) fun h12 hs=>?_
   exact cloneB _ _ _ ss sb ts ⟨some ⟨h9.size,0,none⟩,sb.n,sb.n⟩ ⟨none,0,0⟩ ⟨none,0,0⟩ S B h h12 hC (hs.perm (List.Perm.swap _ _ _))
  ·
   refine ⟨hc,hs.newbE fun h11 E11 hs=>⟨E11.sm,?_⟩⟩
   have hs:=mk hs
   refine (clone92 S ss h11 (hC.s.ext hs.ext)).mono ?_
   rintro _ h9 ⟨ts,rfl,hs2⟩
   have hs:=hs.join hs2
   refine ⟨ts,rfl,hs2.ext.sm,?_⟩
   refine hs.put 1 rfl (o:=0) (vs:=[.slice ts.a ts.n ts.c,.slice (some ⟨h10.size,0,none⟩) sb.n sb.n]) rfl (show 2<=2 by decide) fun h12 hs=>?_
   exact cloneB _ _ _ ss sb ts ⟨some ⟨h10.size,0,none⟩,sb.n,sb.n⟩ ⟨none,0,0⟩ ⟨none,0,0⟩ S B h h12 hC (hs.perm (List.Perm.swap _ _ _))
def mvO (L:List Mch) (r i:Int):Option Mv:=if r<0\/(L.length:Int)<=r then none else match L[r.toNat]? with
 | none=>none
 | some m=>if i<0\/(m.mv.length:Int)<=i then none else m.mv[i.toNat]?
def mv00:Mv:=⟨0,false,0,0,0,false⟩
def MovV (o:Option Mv):Value:=match o with
 | none=>.tuple ⟨[.agg ⟨mv00.cs⟩,.bool false]⟩
 | some x=>.tuple ⟨[.agg ⟨x.cs⟩,.bool true]⟩
set_option maxHeartbeats 1600000 in
theorem move57 (L:List MR) (s:Sl) (r i:Int) (h:Heap) (hS:SyI h s L) :
  Fn Pz 57 #[.slice s.a s.n s.c,.agg ⟨[.int .i64 r,.int .i64 i]⟩] h fun v h'=>v=MovV (mvO (L.map MR.m) r i)/\Ext h h':=by
 apply vc57 s r i; unfold W57
 have hn:=hS.r.ln
 have hlm:(L.map MR.m).length=L.length:=Yc _
 refine (St.refl h).newb fun h3 hs=>?_
 refine hs.newb fun h4 hs=>?_
 have no:∀ {h5:Heap},St h h5 [.blk h3.size mv00.cs 108,.blk h.size [.int .i64 r,.int .i64 i] 57]->mvO (L.map MR.m) r i=none->(okAt h5 ⟨h3.size,0,none⟩ 6/\∀ h6:Heap,h6=hputs h5 ⟨h3.size,0,none⟩ 0 [.int .i64 0,.bool false,.int .i64 0,.int .i64 0,.int .i64 0,.bool false] -> 
   (∃ x7:Int,∃ x8:Bool,∃ x9:Int,∃ x10:Int,∃ x11:Int,∃ x12:Bool,atC h6 ⟨h3.size,0,none⟩ [.int .i64 x7,.bool x8,.int .i64 x9,.int .i64 x10,.int .i64 x11,.bool x12] /\ 
   (Value.tuple ⟨[.agg ⟨[.int .i64 x7,.bool x8,.int .i64 x9,.int .i64 x10,.int .i64 x11,.bool x12]⟩,.bool false]⟩=MovV (mvO (L.map MR.m) r i)/\Ext h h6))):=fun {h5} hs e=>by
  refine hs.put 0 rfl (o:=0) (vs:=mv00.cs) rfl (show 6<=6 by decide) fun h6 hs=>?_
  exact ⟨_,_,_,_,_,_,hs.at 0 rfl (o:=0) (n:=6) rfl,by rw [e]; rfl,hs.ext⟩
 refine ⟨_,hs.rd 1 rfl (i:=0) rfl,sBi (fun c=>no hs (by unfold mvO; rw [if_pos (.inl c)])) (fun c1=>?_)⟩
 refine ⟨_,hs.rd 1 rfl (i:=0) rfl,sBi (fun c=>no hs (by unfold mvO; rw [if_pos (.inr (by omega))])) (fun c2=>?_)⟩
 obtain ⟨p,rfl⟩:∃ p:Nat,r=(p:Int):=⟨r.toNat,by omega⟩
 have hp:p<L.length:=by omega
 obtain ⟨y,gy⟩:=get_some (l:=L) (i:=p) hp
 have gm:(L.map MR.m)[p]?=some y.m:=by rw [Yd,gy]; rfl
 have hmv:mvO (L.map MR.m) (p:Int) i=if i<0\/(y.m.mv.length:Int)<=i then none else y.m.mv[i.toNat]?:=by
  unfold mvO; rw [if_neg (by omega),Ys,gm]
 have hyi:=hS.i y (Yb gy)
 have hgn:=hyi.pm.ln
 refine ⟨_,hs.rd 1 rfl (i:=1) rfl,sBi (fun c=>no hs (by rw [hmv,if_pos (.inl c)])) (fun c3=>?_)⟩
 refine ⟨_,hs.rd 1 rfl (i:=1) rfl,_,hs.rd 1 rfl (i:=0) rfl,?_⟩
 have rdL:∀ {F:Nat->Nat->Prop} {h':Heap},Ext h h'->(∀ b o,atC h' ⟨b,o+p*6,none⟩ y.cs->F b o)->NB s.a fun b o=>(0<=(p:Int)/\(p:Int)<(s.n:Nat))/\F b o:=fun {F h'} E hF=>(hS.r.rw.ext E).nbI (by omega) (by omega) fun b o y' gy' t=>by
  rw [Ys] at gy' t
  replace gy':L[p]?=some y':=gy'
  rw [gy] at gy'; cases gy'
  exact hF b o t
 refine rdL hs.ext fun b1 o1 t1=>?_
 refine ⟨y.g,t1.nth 4 rfl,sBi (fun c=>no hs (by rw [hmv,if_pos (.inr (by omega))])) (fun c4=>?_)⟩
 obtain ⟨j,rfl⟩:∃ j:Nat,i=(j:Int):=⟨i.toNat,by omega⟩
 obtain ⟨x,gx⟩:=get_some (l:=y.m.mv) (i:=j) (by omega)
 refine ⟨_,hs.rd 1 rfl (i:=0) rfl,rdL hs.ext fun b2 o2 t2=>?_⟩
 refine ⟨y.g,t2.nth 4 rfl,_,hs.rd 1 rfl (i:=1) rfl,?_⟩
 refine (hyi.pm.rw.ext hs.ext).nbI (by omega) (by omega) fun b3 o3 x' gx' t3=>?_
 rw [Ys] at gx'
 replace gx':y.m.mv[j]?=some x':=gx'
 rw [gx] at gx'; cases gx'
 refine ⟨_,_,_,_,_,_,t3,?_⟩
 refine hs.put 0 rfl (o:=0) (vs:=x.cs) rfl (show 6<=6 by decide) fun h29 hs=>?_
 refine ⟨_,_,_,_,_,_,hs.at 0 rfl (o:=0) (n:=6) rfl,?_,hs.ext⟩
 rw [hmv,if_neg (by omega),Ys,gx]; rfl
end Go.VC
end

section
/- Contract: Do. (Numbers of layer 27's development dump.) -/
namespace Go.VC
open Go.Proofs Go.LexS
theorem St.smbO {h0 h h1 h':Heap} {L L':List It} (hs:St h0 h L) (hs':St h1 h' L') (k k' o:Nat) {b:Nat} {xs:List Value} {e:TypeId} (hk:L[k]?=some (.blk b xs e)) (hk':L'[k']?=some (.blk b xs e)):Sm [⟨b,o,none⟩] h h':=by
 intro a ha i v hv
 rw [Ye.1 ha] at hv ⊢
 have e1:h[b]?=some (.cells ⟨xs⟩ e):=hs.get hk
 have e2:h'[b]?=some (.cells ⟨xs⟩ e):=hs'.get hk'
 have e3:h'[b]?=h[b]?:=by rw [e1,e2]
 rw [hc_of_block (h:=h) (h':=h') (a:=addk ⟨b,o,none⟩ i) (by rw [addk_block']; exact e3)]
 exact hv
def doB (n p:Nat) (x:Mv) (BL:List (List Int)):List (List Int):=BL.set (bxI n p x) (if x.send=true then BL.getD (bxI n p x) []++[x.label] else (BL.getD (bxI n p x) []).tail)
open Classical in
noncomputable def doS (L:List Mch) (k:Int) (S:List Int) (BL:List (List Int)) (r i:Int):Int × List Int × List (List Int):=
 if ProS L k S BL then match mvO L r i with
  | none=>(2,[],[])
  | some x=>if canS L.length k S BL r.toNat x=0 then (0,S.set r.toNat x.t,doB L.length r.toNat x BL) else (canS L.length k S BL r.toNat x,[],[])
 else (1,[],[])
def DoV (o:Int × List Int × List (List Int)) (h:Heap) (v:Value) (h':Heap):Prop:=∃ (ts tb:Sl) (T:List Bx) (A:List It),v=.tuple ⟨[cfA ts tb,.int .i64 o.1]⟩/\T.map Bx.l=o.2.2/\St h h' A/\CfM A ts tb o.2.1 T
theorem DoV.none_ {o:Int × List Int × List (List Int)} {h h':Heap} {A:List It} {e:Int} (hs:St h h' A) (ho:o=(e,[],[])):DoV o h (.tuple ⟨[.agg ⟨[.slice none 0 0,.slice none 0 0]⟩,.int .i64 e]⟩) h':=by
 subst ho; exact ⟨⟨none,0,0⟩,⟨none,0,0⟩,[],_,rfl,rfl,hs.nil2,CfM.none_.mono fun i hi=>List.mem_append_left _ hi⟩
theorem mvO_some {L:List Mch} {r i:Int} {x:Mv} (h:mvO L r i=some x):∃ p:Nat,r=(p:Int)/\∃ m,L[p]?=some m/\x ∈ m.mv:=by
 unfold mvO at h
 split at h
 ·
  cases h
 ·
  rename_i c
  refine ⟨r.toNat,by omega,?_⟩
  split at h
  ·
   cases h
  ·
   rename_i m gm
   split at h
   ·
    cases h
   ·
    exact ⟨m,gm,Yb h⟩
theorem getD_map {B:List Bx} {j:Nat} {q:Bx} (h:B[j]?=some q):(B.map Bx.l).getD j []=q.l:=by
 rw [Yo,Yd,h]; rfl
set_option maxHeartbeats 3200000 in
theorem do27 (L:List MR) (s:Sl) (k:Int) (ss sb:Sl) (S:List Int) (B:List Bx) (r i:Int) (h:Heap) (hS:SyI h s L) (hC:CfI h ss sb S B) :
  Fn Pz 27 #[.slice s.a s.n s.c,.int .i64 k,.agg ⟨[.slice ss.a ss.n ss.c,.slice sb.a sb.n sb.c]⟩,.agg ⟨[.int .i64 r,.int .i64 i]⟩] h (DoV (doS (L.map MR.m) k S (B.map Bx.l) r i) h):=by
 apply vc27 s k ss sb r i; unfold W27
 have hn:=hS.r.ln
 have hlm:(L.map MR.m).length=s.n:=by rw [Yc,hn]
 have hbm:(B.map Bx.l).length=B.length:=Yc _
 refine (St.refl h).newb fun h5 hs=>?_
 refine hs.newb fun h6 hs=>?_
 refine hs.newb fun h7 hs=>?_
 refine ⟨ss,sb,hs.at 2 rfl (o:=0) (n:=2) rfl,?_⟩
 refine (proper24 L s k ss sb S B h7 (hS.ext hs.ext) (hC.ext hs.ext)).mono ?_
 rintro _ h12 ⟨⟨b,rfl,hb⟩,E⟩
 have hs:=hs.step E
 refine ⟨_,rfl,sB_intro (fun c=>?_) (fun c=>?_)⟩
 ·
  have hnp:¬ ProS (L.map MR.m) k S (B.map Bx.l):=fun hp=>by rw [hb.2 hp] at c; cases c
  refine hs.put 0 rfl (o:=0) (vs:=[.slice none 0 0,.slice none 0 0]) rfl (show 2<=2 by decide) fun h13 hs=>?_
  exact ⟨⟨none,0,0⟩,⟨none,0,0⟩,hs.at 0 rfl (o:=0) (n:=2) rfl,DoV.none_ hs (by unfold doS; rw [if_neg hnp])⟩
 have hP:=hb.1 (bT c)
 have hV6:=hP.v.n
 have hSl:S.length=s.n:=by rw [hP.p.s,hlm]
 have hBl:B.length=s.n*s.n:=by rw [<- hbm,hP.p.b,hlm]
 rw [hlm] at hV6
 have h36:=sq6 hV6.2
 refine ⟨r,i,hs.at 1 rfl (o:=0) (n:=2) rfl,?_⟩
 refine (move57 L s r i h12 (hS.ext hs.ext)).mono ?_
 rintro v h26 ⟨hv,E⟩
 have hs:=hs.step E
 cases hmo:mvO (L.map MR.m) r i with
 | none=>
  rw [hmo] at hv; subst hv
  refine ⟨_,_,_,_,_,_,false,rfl,?_⟩
  refine hs.newput (vs:=mv00.cs) rfl rfl fun h28 hs=>sB_t rfl ?_
  refine hs.put 1 rfl (o:=0) (vs:=[.slice none 0 0,.slice none 0 0]) rfl (show 2<=2 by decide) fun h29 hs=>?_
  exact ⟨⟨none,0,0⟩,⟨none,0,0⟩,hs.at 1 rfl (o:=0) (n:=2) rfl,DoV.none_ hs (by unfold doS; rw [if_pos hP,hmo])⟩
 | some x=>
  rw [hmo] at hv; subst hv
  have hdo:doS (L.map MR.m) k S (B.map Bx.l) r i=if canS s.n k S (B.map Bx.l) r.toNat x=0 then (0,S.set r.toNat x.t,doB s.n r.toNat x (B.map Bx.l)) else (canS s.n k S (B.map Bx.l) r.toNat x,[],[]):=by
   unfold doS; rw [if_pos hP,hmo,<- hlm]
  obtain ⟨p,rfl,m,gm,hxm⟩:=mvO_some hmo
  rw [hdo]; clear hdo hmo
  rw [Ys]
  have hp:p<s.n:=by rw [<- hlm]; exact (Ya.1 gm).1
  have hvm:=hP.v.m p m gm
  have hx0:0<=x.peer:=(hvm.2.1.n.mv x hxm).2.2.2.2.1
  have hx1:x.peer<(s.n:Int):=by have:=hvm.2.2 x hxm; rw [hlm] at this; exact this
  have hj:=bxI_lt (n:=s.n) (x:=x) hp hx0 hx1
  refine ⟨x.f,x.send,x.peer,x.label,x.t,x.ag,true,rfl,?_⟩
  refine hs.newput (vs:=x.cs) rfl rfl fun h28 hs=>sB_f rfl ?_
  refine ⟨ss,sb,hs.at 3 rfl (o:=0) (n:=2) rfl,(p:Int),hs.rd 2 rfl (i:=0) rfl,x.f,x.send,x.peer,x.label,x.t,x.ag,hs.at 0 rfl (o:=0) (n:=6) rfl,?_⟩
  refine (can58 s.n k ss sb S B p x h28 (hC.ext hs.ext) hV6.2 hSl hBl hp hx0 hx1).mono ?_
  rintro _ h43 ⟨rfl,E⟩
  have hs:=hs.step E
  refine ⟨_,rfl,sBn (fun c=>?_) (fun c=>?_)⟩
  ·
   refine hs.put 1 rfl (o:=0) (vs:=[.slice none 0 0,.slice none 0 0]) rfl (show 2<=2 by decide) fun h29 hs=>?_
   exact ⟨⟨none,0,0⟩,⟨none,0,0⟩,hs.at 1 rfl (o:=0) (n:=2) rfl,DoV.none_ hs (by rw [if_neg c])⟩
  rw [if_pos c]
  refine ⟨ss,sb,hs.at 3 rfl (o:=0) (n:=2) rfl,?_⟩
  refine (clone59 ss sb S B h43 (hC.ext hs.ext)).mono ?_
  rintro _ h52 ⟨ts,tb,T,rfl,hT,hs2⟩
  have hs:=hs.join hs2
  have hTl:T.length=B.length:=by rw [<- Yc (f:=Bx.l),hT,hbm]
  refine ⟨ts,tb,rfl,?_⟩
  refine hs.newput (vs:=[.slice ts.a ts.n ts.c,.slice tb.a tb.n tb.c]) rfl rfl fun h54 hs=>?_
  have hts:=(hs.rows 5 (s:=ts) (cs:=inC) rfl (by omega)).ln
  have htb:=(hs.rows 6 (s:=tb) (cs:=Bx.cs) rfl (by omega)).ln
  refine ⟨ts,hs.rd 0 rfl (i:=0) rfl,(p:Int),hs.rd 3 rfl (i:=0) rfl,x.t,hs.rd 1 rfl (i:=4) rfl,?_⟩
  refine hs.set 5 (s:=ts) (cs:=inC) (x:=(p:Int)) rfl (by omega) (by omega) (by omega) x.t rfl rfl (fun b o h60 hs=>?_) rfl
  refine ⟨(p:Int),hs.rd 3 rfl (i:=0) rfl,x.f,x.send,x.peer,x.label,x.t,x.ag,hs.at 1 rfl (o:=0) (n:=6) rfl,?_⟩
  refine (box60 s.n p x h60 hV6.2 hp hx0 hx1).mono ?_
  rintro _ h70 ⟨rfl,E⟩
  have hs:=hs.step E
  rw [Ys] at hs
  have hBd:=hP.p.bx
  unfold doB
  generalize hjj:bxI s.n p x=j at hj ⊢
  obtain ⟨q,gq⟩:=get_some (l:=T) (i:=j) (by omega)
  have hql:(B.map Bx.l).getD j []=q.l:=by rw [<- hT]; exact getD_map gq
  have hqb:(B.map Bx.l)[j]?=some q.l:=by rw [<- hT,Yd,gq]; rfl
  have hqk:=(hBd j q.l hqb).1
  have hk4:=hP.c.2
  have hall:∀ z ∈ T,z.l.length<=4:=fun z hz=>by
   obtain ⟨j',gj⟩:=Yf.1 hz
   have:=(hBd j' z.l (by rw [<- hT,Yd,gj]; rfl)).1
   omega
  have hsl:(S.set p x.t).length<=1048576:=by rw [Yyh]; omega
  have rdB:∀ {h':Heap} {L':List It} {F:Nat->Nat->Prop} (kk:Nat),St h h' L'->L'[kk]?=some (.sl tb 23 1 (T.map Bx.cs))->(∀ b o,hc h' ⟨b,o+Int.toNat (j:Int)*1,none⟩=some (.slice q.s.a q.s.n q.s.c)->F b o)->NB tb.a fun b o=>(0<=(j:Int)/\(j:Int)<(tb.n:Nat))/\F b o:=fun kk hs hk hF=>
   (hs.rows kk (s:=tb) (cs:=Bx.cs) hk (by omega)).nbI (by omega) (by omega) fun b o q' gq' t=>by
    rw [Ys,gq] at gq'; cases gq'; exact hF b o t.hd
  refine ⟨(j:Int),rfl,x.send,hs.rd 1 rfl (i:=1) rfl,sB_intro (fun d=>?_) (fun d=>?_)⟩
  ·
   rw [if_pos d]
   refine ⟨tb,hs.rd 0 rfl (i:=1) rfl,tb,hs.rd 0 rfl (i:=1) rfl,rdB 6 hs rfl fun b o t=>?_⟩
   refine ⟨q.s,t,x.label,hs.rd 1 rfl (i:=3) rfl,?_⟩
   refine hs.newbE fun h78 E78 hs=>⟨E78.sm,?_⟩
   have hs78:=hs
   have hqi:(T.map Bx.it)[j]?=some q.it:=by rw [Yd,gq]; rfl
   have hqn:=(hs.len (j+8) (s:=q.s) (e:=3) (n:=1) (rows:=q.l.map inC) hqi (by omega)).1
   rw [Yc] at hqn
   have hq4:=hall q (Yb gq)
   refine hs.appended (j+8) (s:=q.s) (n:=1) (rows:=q.l.map inC) hqi app42 (m:=1) (news:=[inC x.label]) (hs.at 0 rfl (n:=1) rfl) rfl (by simp [inC]) rfl (by omega) (by simp only [maxLen]; omega) fun u h80 nr hs=>?_
   refine ⟨hs78.smbO hs 1 1 1 rfl rfl,?_⟩
   refine hs.set 7 (s:=tb) (cs:=Bx.cs) (x:=(j:Int)) rfl (by omega) (by omega) (by omega) (⟨u,q.l++[x.label]⟩:Bx) rfl rfl (fun b o h83 hs=>?_) rfl
   refine ⟨ts,tb,hs.at 1 rfl (o:=0) (n:=2) rfl,?_⟩
   refine hs.put 3 rfl (o:=0) (vs:=[.slice ts.a ts.n ts.c,.slice tb.a tb.n tb.c]) rfl (show 2<=2 by decide) fun h86 hs=>?_
   rw [Ys] at hs
   refine ⟨ts,tb,hs.at 3 rfl (o:=0) (n:=2) rfl,ts,tb,T.set j ⟨u,q.l++[x.label]⟩,_,rfl,?_,hs,?_⟩
   ·
    rw [List.map_set,hT,hql]
   ·
    refine ⟨Yb (i:=6) rfl,Yb (i:=7) rfl,fun z hz=>.inr (.inl ?_),hsl,by rw [Yyh]; omega,fun z hz=>?_⟩
    ·
     obtain ⟨j',gj⟩:=Yf.1 hz
     refine Yb (i:=j'+8) ?_
     show ((T.map Bx.it).set j (.sl u 3 1 (q.l.map inC++[inC x.label])))[j']?=_
     have e1:It.sl u 3 1 (q.l.map inC++[inC x.label])=Bx.it ⟨u,q.l++[x.label]⟩:=by unfold Bx.it; rw [Ym]; rfl
     rw [e1,<- List.map_set,Yd,gj]; rfl
    ·
     rcases List.mem_or_eq_of_mem_set hz with hz | rfl
     ·
      have:=hall z hz; omega
     ·
      show (q.l++[x.label]).length<=_
      rw [Yh,Yv]; omega
  ·
   rw [if_neg (by rw [d]; decide)]
   have hqm:=Yb gq
   have hqi:(T.map Bx.it)[j]?=some q.it:=by rw [Yd,gq]; rfl
   have hql2:=hs.len (j+7) (s:=q.s) (e:=3) (n:=1) (rows:=q.l.map inC) hqi (by omega)
   have hqn:=hql2.1
   rw [Yc] at hqn
   obtain ⟨tl,hqe⟩:∃ tl,q.l=x.label::tl:=by
    unfold canS at c
    rw [hjj,hql] at c
    split at c
    ·
     exact absurd c (by decide)
    ·
     rw [if_neg (by rw [d]; decide)] at c
     cases hq:q.l with
     | nil=>rw [hq] at c; exact absurd c (show ¬ ((23:Int)=0) by decide)
     | cons l tl=>
      rw [hq] at c
      dsimp only at c
      split at c
      ·
       exact absurd c (by decide)
      ·
       rename_i e; exact ⟨tl,by rw [Classical.not_not.1 e]⟩
   have hqn1:q.s.n=tl.length+1:=by rw [hqn,hqe,Yyj]
   refine ⟨tb,hs.rd 0 rfl (i:=1) rfl,tb,hs.rd 0 rfl (i:=1) rfl,rdB 6 hs rfl fun b o t=>?_⟩
   refine ⟨q.s,t,⟨by omega,by omega,by have:=hql2.2.1; omega⟩,?_⟩
   refine hs.set 6 (s:=tb) (cs:=Bx.cs) (x:=(j:Int)) rfl (by omega) (by omega) (by omega) (⟨⟨subA q.s.a (Int.toNat 1) q.s.c 1,Int.toNat (q.s.n:Nat) - Int.toNat 1,q.s.c - Int.toNat 1⟩,tl⟩:Bx) rfl rfl (fun b o h83 hs=>?_) rfl
   refine ⟨ts,tb,hs.at 0 rfl (o:=0) (n:=2) rfl,?_⟩
   refine hs.put 2 rfl (o:=0) (vs:=[.slice ts.a ts.n ts.c,.slice tb.a tb.n tb.c]) rfl (show 2<=2 by decide) fun h86 hs=>?_
   rw [Ys] at hs
   refine ⟨ts,tb,hs.at 2 rfl (o:=0) (n:=2) rfl,?_⟩
   generalize hnw:(⟨⟨subA q.s.a (Int.toNat 1) q.s.c 1,Int.toNat (q.s.n:Nat) - Int.toNat 1,q.s.c - Int.toNat 1⟩,tl⟩:Bx)=nw at hs
   have hs:=hs.sub (L':=.sl ts 3 1 ((S.set p x.t).map inC) :: .sl tb 23 1 ((T.set j nw).map Bx.cs)::T.map Bx.it) (.cons _ (.cons _ (.cons _ (.cons _ (.cons _ (.refl _))))))
   have hjt:j<T.length:=(Ya.1 gq).1
   have hgj:T[j]=q:=(Ya.1 gq).2
   have hp0:(T.map Bx.it).Perm (.sl q.s 3 1 (inC x.label::tl.map inC)::(T.eraseIdx j).map Bx.it):=by
    have h1:(T.map Bx.it).Perm ((T[j]::T.eraseIdx j).map Bx.it):=by
     rw [List.eraseIdx_eq_take_drop_succ]
     have e2:T=T.take j++T[j]::T.drop (j+1):=by rw [List.getElem_cons_drop,List.take_append_drop]
     have h2:T.Perm (T[j]::(T.take j++T.drop (j+1))):=by
      conv=>lhs; rw [e2]
      exact List.perm_middle
     exact h2.map _
    rw [Yyl,hgj] at h1
    have e1:q.it=.sl q.s 3 1 (inC x.label::tl.map inC):=by unfold Bx.it; rw [hqe]; rfl
    rw [e1] at h1
    exact h1
   have hs:=hs.perm (((hp0.cons _).cons _).trans (List.perm_middle (l₁:=[_,_])))
   have hs:=(hs.toQ (by omega)).qtail
   refine ⟨ts,tb,T.set j nw,_,rfl,?_,hs,?_⟩
   ·
    rw [List.map_set,hT,hql,hqe,<- hnw]; rfl
   ·
    refine ⟨Yn _ Yx,Yn _ (Yn _ Yx),fun z hz=>.inr ?_,hsl,by rw [Yyh]; omega,fun z hz=>?_⟩
    ·
     obtain ⟨j',gj⟩:=Yf.1 hz
     by_cases e:j'=j
     ·
      subst e
      rw [Yq hjt] at gj
      cases gj
      refine .inr ?_
      rw [<- hnw]
      exact Yx
     ·
      rw [Yy (Ne.symm e)] at gj
      exact .inl (Yn _ (Yn _ (Yn _ (List.mem_map_of_mem (List.mem_eraseIdx_iff_getElem?.2 ⟨j',e,gj⟩)))))
    ·
     rcases List.mem_or_eq_of_mem_set hz with hz | rfl
     ·
      have:=hall z hz; omega
     ·
      rw [<- hnw]
      have:=hall q hqm
      rw [hqe,Yyj] at this
      show tl.length<=_
      omega
end Go.VC
end

section
/- The example's machines (printed by mkex.py). -/
namespace Go.VC
open Go.Proofs Go.LexS
def xm0:Mch:=⟨0,2,0,[false,true],[⟨0,true,1,0,1,false⟩,⟨0,true,1,1,1,false⟩],[]⟩
theorem xm0_get (i:Nat) (x:Mv) (h:xm0.mv[i]?=some x):(i=0/\x=⟨0,true,1,0,1,false⟩)\/(i=1/\x=⟨0,true,1,1,1,false⟩):=by
 match i,h with
 | 0,h=>exact .inl ⟨rfl,(Yyp h).symm⟩
 | 1,h=>exact .inr ⟨rfl,(Yyp h).symm⟩
 | n+2,h=>exact absurd h (by simp [xm0])
theorem xm0_mem (x:Mv) (h:x ∈ xm0.mv):x=⟨0,true,1,0,1,false⟩\/x=⟨0,true,1,1,1,false⟩:=by
 obtain ⟨i,hi⟩:=Yf.1 h
 rcases xm0_get i x hi with ⟨_,e⟩ | ⟨_,e⟩
 ·
  exact .inl e
 ·
  exact .inr e
theorem xm0_ag (x:Mv) (h:x ∈ xm0.mv):x.ag=false:=by
 rcases xm0_mem x h with rfl | rfl <;> rfl
theorem xm0_vm:VM xm0:=by
 refine ⟨⟨⟨by decide,by decide⟩,⟨by decide,by decide⟩,⟨by decide,by decide⟩,rfl,by decide,fun x hx=>?_⟩,fun i k x y hx hy hne hf=>?_,fun v h0 h1=>?_,⟨fun x hx ha=>?_,fun x hx ha=>?_,fun x hx ha=>?_,fun x hx ha=>?_,fun x hx ha=>?_⟩,fun i t h=>?_⟩
 ·
  rcases xm0_mem x hx with rfl | rfl <;> decide
 ·
  rcases xm0_get i x hx with ⟨rfl,rfl⟩ | ⟨rfl,rfl⟩ <;> rcases xm0_get k y hy with ⟨rfl,rfl⟩ | ⟨rfl,rfl⟩ <;> first
   | exact absurd rfl hne
   | exact absurd hf (by decide)
   | exact ⟨fun e=>absurd (congrArg Ev.label e) (by decide),rfl⟩
 ·
  have q0:Qr (meds xm0) (-1) [xm0.s] 0:=.base (Ye.2 rfl)
  have q1:Qr (meds xm0) (-1) [xm0.s] 1:=.step q0 ⟨⟨0,0,0,0,1,false⟩,Yp.2 ⟨⟨0,true,1,0,1,false⟩,by simp [xm0],rfl⟩,rfl,rfl,rfl⟩
  have h1:v<2:=h1
  have:v=0\/v=1:=by omega
  rcases this with rfl | rfl
  ·
   exact q0
  ·
   exact q1
 ·
  rw [xm0_ag x hx] at ha; cases ha
 ·
  rw [xm0_ag x hx] at ha; cases ha
 ·
  rw [xm0_ag x hx] at ha; cases ha
 ·
  rw [xm0_ag x hx] at ha; cases ha
 ·
  rw [xm0_ag x hx] at ha; cases ha
 ·
  simp [xm0] at h
def xm1:Mch:=⟨1,6,0,[false,false,false,false,false,true],[⟨0,false,0,0,1,false⟩,⟨0,false,0,1,2,false⟩,⟨1,true,2,0,3,false⟩,⟨2,true,2,1,4,false⟩,⟨3,false,2,2,5,false⟩,⟨4,false,2,3,5,false⟩],[]⟩
theorem xm1_get (i:Nat) (x:Mv) (h:xm1.mv[i]?=some x):(i=0/\x=⟨0,false,0,0,1,false⟩)\/(i=1/\x=⟨0,false,0,1,2,false⟩)\/(i=2/\x=⟨1,true,2,0,3,false⟩)\/(i=3/\x=⟨2,true,2,1,4,false⟩)\/(i=4/\x=⟨3,false,2,2,5,false⟩)\/(i=5/\x=⟨4,false,2,3,5,false⟩):=by
 match i,h with
 | 0,h=>exact .inl ⟨rfl,(Yyp h).symm⟩
 | 1,h=>exact .inr (.inl ⟨rfl,(Yyp h).symm⟩)
 | 2,h=>exact .inr (.inr (.inl ⟨rfl,(Yyp h).symm⟩))
 | 3,h=>exact .inr (.inr (.inr (.inl ⟨rfl,(Yyp h).symm⟩)))
 | 4,h=>exact .inr (.inr (.inr (.inr (.inl ⟨rfl,(Yyp h).symm⟩))))
 | 5,h=>exact .inr (.inr (.inr (.inr (.inr ⟨rfl,(Yyp h).symm⟩))))
 | n+6,h=>exact absurd h (by simp [xm1])
theorem xm1_mem (x:Mv) (h:x ∈ xm1.mv):x=⟨0,false,0,0,1,false⟩\/x=⟨0,false,0,1,2,false⟩\/x=⟨1,true,2,0,3,false⟩\/x=⟨2,true,2,1,4,false⟩\/x=⟨3,false,2,2,5,false⟩\/x=⟨4,false,2,3,5,false⟩:=by
 obtain ⟨i,hi⟩:=Yf.1 h
 rcases xm1_get i x hi with ⟨_,e⟩ | ⟨_,e⟩ | ⟨_,e⟩ | ⟨_,e⟩ | ⟨_,e⟩ | ⟨_,e⟩
 ·
  exact .inl e
 ·
  exact .inr (.inl e)
 ·
  exact .inr (.inr (.inl e))
 ·
  exact .inr (.inr (.inr (.inl e)))
 ·
  exact .inr (.inr (.inr (.inr (.inl e))))
 ·
  exact .inr (.inr (.inr (.inr (.inr e))))
theorem xm1_ag (x:Mv) (h:x ∈ xm1.mv):x.ag=false:=by
 rcases xm1_mem x h with rfl | rfl | rfl | rfl | rfl | rfl <;> rfl
theorem xm1_vm:VM xm1:=by
 refine ⟨⟨⟨by decide,by decide⟩,⟨by decide,by decide⟩,⟨by decide,by decide⟩,rfl,by decide,fun x hx=>?_⟩,fun i k x y hx hy hne hf=>?_,fun v h0 h1=>?_,⟨fun x hx ha=>?_,fun x hx ha=>?_,fun x hx ha=>?_,fun x hx ha=>?_,fun x hx ha=>?_⟩,fun i t h=>?_⟩
 ·
  rcases xm1_mem x hx with rfl | rfl | rfl | rfl | rfl | rfl <;> decide
 ·
  rcases xm1_get i x hx with ⟨rfl,rfl⟩ | ⟨rfl,rfl⟩ | ⟨rfl,rfl⟩ | ⟨rfl,rfl⟩ | ⟨rfl,rfl⟩ | ⟨rfl,rfl⟩ <;> rcases xm1_get k y hy with ⟨rfl,rfl⟩ | ⟨rfl,rfl⟩ | ⟨rfl,rfl⟩ | ⟨rfl,rfl⟩ | ⟨rfl,rfl⟩ | ⟨rfl,rfl⟩ <;> first
   | exact absurd rfl hne
   | exact absurd hf (by decide)
   | exact ⟨fun e=>absurd (congrArg Ev.label e) (by decide),rfl⟩
 ·
  have q0:Qr (meds xm1) (-1) [xm1.s] 0:=.base (Ye.2 rfl)
  have q1:Qr (meds xm1) (-1) [xm1.s] 1:=.step q0 ⟨⟨0,0,0,0,1,false⟩,Yp.2 ⟨⟨0,false,0,0,1,false⟩,by simp [xm1],rfl⟩,rfl,rfl,rfl⟩
  have q2:Qr (meds xm1) (-1) [xm1.s] 2:=.step q0 ⟨⟨0,0,0,0,2,false⟩,Yp.2 ⟨⟨0,false,0,1,2,false⟩,by simp [xm1],rfl⟩,rfl,rfl,rfl⟩
  have q3:Qr (meds xm1) (-1) [xm1.s] 3:=.step q1 ⟨⟨1,0,0,0,3,false⟩,Yp.2 ⟨⟨1,true,2,0,3,false⟩,by simp [xm1],rfl⟩,rfl,rfl,rfl⟩
  have q4:Qr (meds xm1) (-1) [xm1.s] 4:=.step q2 ⟨⟨2,0,0,0,4,false⟩,Yp.2 ⟨⟨2,true,2,1,4,false⟩,by simp [xm1],rfl⟩,rfl,rfl,rfl⟩
  have q5:Qr (meds xm1) (-1) [xm1.s] 5:=.step q3 ⟨⟨3,0,0,0,5,false⟩,Yp.2 ⟨⟨3,false,2,2,5,false⟩,by simp [xm1],rfl⟩,rfl,rfl,rfl⟩
  have h1:v<6:=h1
  have:v=0\/v=1\/v=2\/v=3\/v=4\/v=5:=by omega
  rcases this with rfl | rfl | rfl | rfl | rfl | rfl
  ·
   exact q0
  ·
   exact q1
  ·
   exact q2
  ·
   exact q3
  ·
   exact q4
  ·
   exact q5
 ·
  rw [xm1_ag x hx] at ha; cases ha
 ·
  rw [xm1_ag x hx] at ha; cases ha
 ·
  rw [xm1_ag x hx] at ha; cases ha
 ·
  rw [xm1_ag x hx] at ha; cases ha
 ·
  rw [xm1_ag x hx] at ha; cases ha
 ·
  simp [xm1] at h
def xm2:Mch:=⟨2,4,0,[false,false,false,true],[⟨0,false,1,0,1,false⟩,⟨0,false,1,1,2,false⟩,⟨1,true,1,2,3,false⟩,⟨2,true,1,3,3,false⟩],[]⟩
theorem xm2_get (i:Nat) (x:Mv) (h:xm2.mv[i]?=some x):(i=0/\x=⟨0,false,1,0,1,false⟩)\/(i=1/\x=⟨0,false,1,1,2,false⟩)\/(i=2/\x=⟨1,true,1,2,3,false⟩)\/(i=3/\x=⟨2,true,1,3,3,false⟩):=by
 match i,h with
 | 0,h=>exact .inl ⟨rfl,(Yyp h).symm⟩
 | 1,h=>exact .inr (.inl ⟨rfl,(Yyp h).symm⟩)
 | 2,h=>exact .inr (.inr (.inl ⟨rfl,(Yyp h).symm⟩))
 | 3,h=>exact .inr (.inr (.inr ⟨rfl,(Yyp h).symm⟩))
 | n+4,h=>exact absurd h (by simp [xm2])
theorem xm2_mem (x:Mv) (h:x ∈ xm2.mv):x=⟨0,false,1,0,1,false⟩\/x=⟨0,false,1,1,2,false⟩\/x=⟨1,true,1,2,3,false⟩\/x=⟨2,true,1,3,3,false⟩:=by
 obtain ⟨i,hi⟩:=Yf.1 h
 rcases xm2_get i x hi with ⟨_,e⟩ | ⟨_,e⟩ | ⟨_,e⟩ | ⟨_,e⟩
 ·
  exact .inl e
 ·
  exact .inr (.inl e)
 ·
  exact .inr (.inr (.inl e))
 ·
  exact .inr (.inr (.inr e))
theorem xm2_ag (x:Mv) (h:x ∈ xm2.mv):x.ag=false:=by
 rcases xm2_mem x h with rfl | rfl | rfl | rfl <;> rfl
theorem xm2_vm:VM xm2:=by
 refine ⟨⟨⟨by decide,by decide⟩,⟨by decide,by decide⟩,⟨by decide,by decide⟩,rfl,by decide,fun x hx=>?_⟩,fun i k x y hx hy hne hf=>?_,fun v h0 h1=>?_,⟨fun x hx ha=>?_,fun x hx ha=>?_,fun x hx ha=>?_,fun x hx ha=>?_,fun x hx ha=>?_⟩,fun i t h=>?_⟩
 ·
  rcases xm2_mem x hx with rfl | rfl | rfl | rfl <;> decide
 ·
  rcases xm2_get i x hx with ⟨rfl,rfl⟩ | ⟨rfl,rfl⟩ | ⟨rfl,rfl⟩ | ⟨rfl,rfl⟩ <;> rcases xm2_get k y hy with ⟨rfl,rfl⟩ | ⟨rfl,rfl⟩ | ⟨rfl,rfl⟩ | ⟨rfl,rfl⟩ <;> first
   | exact absurd rfl hne
   | exact absurd hf (by decide)
   | exact ⟨fun e=>absurd (congrArg Ev.label e) (by decide),rfl⟩
 ·
  have q0:Qr (meds xm2) (-1) [xm2.s] 0:=.base (Ye.2 rfl)
  have q1:Qr (meds xm2) (-1) [xm2.s] 1:=.step q0 ⟨⟨0,0,0,0,1,false⟩,Yp.2 ⟨⟨0,false,1,0,1,false⟩,by simp [xm2],rfl⟩,rfl,rfl,rfl⟩
  have q2:Qr (meds xm2) (-1) [xm2.s] 2:=.step q0 ⟨⟨0,0,0,0,2,false⟩,Yp.2 ⟨⟨0,false,1,1,2,false⟩,by simp [xm2],rfl⟩,rfl,rfl,rfl⟩
  have q3:Qr (meds xm2) (-1) [xm2.s] 3:=.step q1 ⟨⟨1,0,0,0,3,false⟩,Yp.2 ⟨⟨1,true,1,2,3,false⟩,by simp [xm2],rfl⟩,rfl,rfl,rfl⟩
  have h1:v<4:=h1
  have:v=0\/v=1\/v=2\/v=3:=by omega
  rcases this with rfl | rfl | rfl | rfl
  ·
   exact q0
  ·
   exact q1
  ·
   exact q2
  ·
   exact q3
 ·
  rw [xm2_ag x hx] at ha; cases ha
 ·
  rw [xm2_ag x hx] at ha; cases ha
 ·
  rw [xm2_ag x hx] at ha; cases ha
 ·
  rw [xm2_ag x hx] at ha; cases ha
 ·
  rw [xm2_ag x hx] at ha; cases ha
 ·
  simp [xm2] at h
def xr0:Mch:=⟨0,3,0,[false,true,true],[⟨0,true,1,0,1,false⟩,⟨0,true,1,1,2,false⟩],[]⟩
theorem xr0_raw (hr hd he ht:Sl):rawC (exGl true hr hd he ht) 0=some (some xr0,0):=by kernel_rfl
theorem xm1_raw (hr hd he ht:Sl):rawC (exGl true hr hd he ht) 1=some (some xm1,0):=by kernel_rfl
theorem xm2_raw (hr hd he ht:Sl):rawC (exGl true hr hd he ht) 2=some (some xm2,0):=by kernel_rfl
theorem xm0_min:minF xr0=xm0:=by kernel_rfl
theorem xm1_min:minF xm1=xm1:=by kernel_rfl
theorem xm2_min:minF xm2=xm2:=by kernel_rfl
theorem xproj (hr hd he ht:Sl) (i:Int) (w m:Mch) (h0:0<=i) (h3:i<((3:Nat):Int)) (hw:rawC (exGl true hr hd he ht) i=some (some w,0)) (hm:minF w=m):proj (exGl true hr hd he ht) i=(some m,0):=by
 have:=rawC_ok (ex_valid true hr hd he ht) h0 h3 hw
 unfold proj
 rw [this]
 show (some (minF w),0)=_
 rw [hm]
def xL:List Mch:=[xm0,xm1,xm2]
theorem xsys:SysV xL:=by
 refine ⟨⟨by decide,by decide⟩,fun p m h=>?_⟩
 match p,h with
 | 0,h=>cases h; exact ⟨rfl,xm0_vm,fun x hx=>by rcases xm0_mem x hx with rfl | rfl <;> decide⟩
 | 1,h=>cases h; exact ⟨rfl,xm1_vm,fun x hx=>by rcases xm1_mem x hx with rfl | rfl | rfl | rfl | rfl | rfl <;> decide⟩
 | 2,h=>cases h; exact ⟨rfl,xm2_vm,fun x hx=>by rcases xm2_mem x hx with rfl | rfl | rfl | rfl <;> decide⟩
 | n+3,h=>exact absurd h (by simp [xL])
theorem stepsP_of {n:Nat} {k:Int} {S:List Int} {BL:List (List Int)} {p:Nat} {m:Mch} (hD:DetM m) {O:List Nat} (h1:(List.range m.mv.length).filter (posB n k S BL p m)=O) (h2:O.Pairwise fun a b=>¬ evLt (evI m b) (evI m a)):stepsP n k S BL p m=O:=(steps_uniq hD (by rw [h1]) h2).symm
def xB0:List (List Int):=List.replicate 9 []
theorem xsteps0:stepsS xL 1 [0,0,0] xB0=[(0,0),(0,1)]:=by
 have a0:stepsP 3 1 [0,0,0] xB0 0 xm0=[0,1]:=stepsP_of xm0_vm.d (by kernel_rfl) (.cons (fun b hb=>by rw [Ye.1 hb]; show ¬ evLt _ _; unfold evLt; decide) (List.pairwise_singleton _ _))
 have a1:stepsP 3 1 [0,0,0] xB0 1 xm1=[]:=stepsP_of xm1_vm.d (by kernel_rfl) .nil
 have a2:stepsP 3 1 [0,0,0] xB0 2 xm2=[]:=stepsP_of xm2_vm.d (by kernel_rfl) .nil
 show (stepsP 3 1 [0,0,0] xB0 0 xm0).map _++((stepsP 3 1 [0,0,0] xB0 1 xm1).map _++((stepsP 3 1 [0,0,0] xB0 2 xm2).map _++[]))=_
 rw [a0,a1,a2]; rfl
def xB1 (l:Int):List (List Int):=[[],[l],[],[],[],[],[],[],[]]
theorem xsteps1 (l:Nat) (hl:l=0\/l=1):stepsS xL 1 [1,0,0] (xB1 (l:Int))=[(1,l)]:=by
 rcases hl with rfl | rfl
 ·
  have a0:stepsP 3 1 [1,0,0] (xB1 0) 0 xm0=[]:=stepsP_of xm0_vm.d (by kernel_rfl) .nil
  have a1:stepsP 3 1 [1,0,0] (xB1 0) 1 xm1=[0]:=stepsP_of xm1_vm.d (by kernel_rfl) (List.pairwise_singleton _ _)
  have a2:stepsP 3 1 [1,0,0] (xB1 0) 2 xm2=[]:=stepsP_of xm2_vm.d (by kernel_rfl) .nil
  show (stepsP 3 1 [1,0,0] (xB1 0) 0 xm0).map _++((stepsP 3 1 [1,0,0] (xB1 0) 1 xm1).map _++((stepsP 3 1 [1,0,0] (xB1 0) 2 xm2).map _++[]))=_
  rw [a0,a1,a2]; rfl
 ·
  have a0:stepsP 3 1 [1,0,0] (xB1 1) 0 xm0=[]:=stepsP_of xm0_vm.d (by kernel_rfl) .nil
  have a1:stepsP 3 1 [1,0,0] (xB1 1) 1 xm1=[1]:=stepsP_of xm1_vm.d (by kernel_rfl) (List.pairwise_singleton _ _)
  have a2:stepsP 3 1 [1,0,0] (xB1 1) 2 xm2=[]:=stepsP_of xm2_vm.d (by kernel_rfl) .nil
  show (stepsP 3 1 [1,0,0] (xB1 1) 0 xm0).map _++((stepsP 3 1 [1,0,0] (xB1 1) 1 xm1).map _++((stepsP 3 1 [1,0,0] (xB1 1) 2 xm2).map _++[]))=_
  rw [a0,a1,a2]; rfl
end Go.VC
end

section
/- Contract: the laws of layer 27 are awake. (Numbers of layer 27's development dump.) -/
namespace Go.VC
open Go.Proofs Go.LexS
theorem xpro0:ProS xL 1 [0,0,0] xB0:=by
 refine ⟨xsys,⟨by decide,by decide⟩,⟨rfl,rfl,fun p s m h1 h2=>?_,fun i b hb=>?_⟩⟩
 ·
  match p,h1,h2 with
  | 0,h1,h2=>cases h1; cases h2; decide
  | 1,h1,h2=>cases h1; cases h2; decide
  | 2,h1,h2=>cases h1; cases h2; decide
  | n+3,h1,h2=>exact absurd h1 (by simp)
 ·
  have:=List.eq_of_mem_replicate (Yb hb)
  subst this
  exact ⟨by decide,fun _=>rfl,fun x hx=>by cases hx⟩
theorem xpro1:ProS xL 1 [1,0,0] (xB1 0):=by
 refine ⟨xsys,⟨by decide,by decide⟩,⟨rfl,rfl,fun p s m h1 h2=>?_,fun i b hb=>?_⟩⟩
 ·
  match p,h1,h2 with
  | 0,h1,h2=>cases h1; cases h2; decide
  | 1,h1,h2=>cases h1; cases h2; decide
  | 2,h1,h2=>cases h1; cases h2; decide
  | n+3,h1,h2=>exact absurd h1 (by simp)
 ·
  have hm:=Yb hb
  by_cases e:i=1
  ·
   subst e; cases hb; exact ⟨by decide,fun h=>absurd h (by decide),fun x hx=>by rw [Ye.1 hx]; decide⟩
  ·
   have:b=[]:=by
    match i,hb,e with
    | 0,hb,_=>cases hb; rfl
    | 1,_,e=>exact absurd rfl e
    | 2,hb,_=>cases hb; rfl
    | 3,hb,_=>cases hb; rfl
    | 4,hb,_=>cases hb; rfl
    | 5,hb,_=>cases hb; rfl
    | 6,hb,_=>cases hb; rfl
    | 7,hb,_=>cases hb; rfl
    | 8,hb,_=>cases hb; rfl
    | n+9,hb,_=>exact absurd hb (by simp [xB1])
   subst this
   exact ⟨by decide,fun _=>rfl,fun x hx=>by cases hx⟩
theorem xdo:doS xL 1 [0,0,0] xB0 0 0=(0,[1,0,0],xB1 0):=by
 unfold doS
 rw [if_pos xpro0,show mvO xL 0 0=some ⟨0,true,1,0,1,false⟩ from by kernel_rfl]
 show (if canS 3 1 [0,0,0] xB0 0 ⟨0,true,1,0,1,false⟩=0 then _ else _)=_
 rw [if_pos (by kernel_rfl)]
 kernel_rfl
theorem xst0:startS xL=[0,0,0]:=rfl
theorem xbx0:(List.replicate (xL.length*xL.length) bx0).map Bx.l=xB0:=rfl
set_option maxHeartbeats 3200000 in
theorem awake12 (h:Heap) (hx:Gx h):Fn Pz 12 #[] h fun v h'=>v=.bool true/\Ext h h':=by
 apply vc12; unfold W12
 refine (example34 true h).mono ?_
 rintro _ h10 ⟨E10,hr,hd,he,rfl,hg⟩
 refine ⟨_,hr,hd,_,_,_,he,⟨none,0,0⟩,rfl,?_⟩
 refine (all43 (exGl true hr hd he ⟨none,0,0⟩) h10 hg (hx.ext E10) (ex_valid _ _ _ _ _) xL (hg.r.ln.symm) (by decide) (fun i m hi=>?_)).mono ?_
 ·
  match i,hi with
  | 0,hi=>cases hi; exact ⟨xproj _ _ _ _ _ _ _ (by decide) (by decide) (xr0_raw _ _ _ _) xm0_min,by decide,by decide,by decide⟩
  | 1,hi=>cases hi; exact ⟨xproj _ _ _ _ _ _ _ (by decide) (by decide) (xm1_raw _ _ _ _) xm1_min,by decide,by decide,by decide⟩
  | 2,hi=>cases hi; exact ⟨xproj _ _ _ _ _ _ _ (by decide) (by decide) (xm2_raw _ _ _ _) xm2_min,by decide,by decide,by decide⟩
  | n+3,hi=>exact absurd hi (by simp [xL])
 rintro _ h14 ⟨s,L,rfl,E14,hL,hS⟩
 have E0:=E10.trans E14
 refine ⟨s,0,rfl,?_⟩
 refine (start14 L s h14 hS).mono ?_
 rw [hL]
 rintro _ h19 ⟨ss,sb,S,B,e,A,rfl,hs,hM,hok,-⟩
 obtain ⟨rfl,rfl,rfl⟩:=hok xsys
 rw [xst0] at hM
 refine ⟨ss,sb,0,rfl,?_⟩
 refine hs.newput (vs:=[.slice ss.a ss.n ss.c,.slice sb.a sb.n sb.c]) rfl rfl fun h21 hs=>?_
 refine ⟨ss,sb,hs.at 0 rfl (o:=0) (n:=2) rfl,?_⟩
 have hM:=hM.mono (A':=.blk h19.size [.slice ss.a ss.n ss.c,.slice sb.a sb.n sb.c] 29::A) fun i hi=>Yn _ hi
 refine (steps16 L s 1 ss sb _ _ h21 (hS.ext hs.ext) (hM.cfi hs)).mono ?_
 rw [hL,xbx0]
 rintro _ h27 ⟨E27,r,e,l,rfl,hr,hpos,-⟩
 obtain ⟨rfl,rfl⟩:=hpos xpro0
 rw [xsteps0] at hr
 have hs:=hs.step E27
 have hrn:r.n=2:=hr.ln
 refine ⟨r,0,rfl,sB_f rfl (sB_f rfl (sB_f rfl (sB_f (by rw [hrn]; rfl) ?_)))⟩
 refine hr.rw.nbI (by omega) (by omega) fun b o q gq t=>?_
 cases gq
 refine ⟨_,t.hd,sB_f rfl ?_⟩
 refine hr.rw.nbI (by omega) (by omega) fun b o q gq t=>?_
 cases gq
 refine ⟨_,t.hd,sB_f rfl ?_⟩
 refine ⟨ss,sb,hs.at 0 rfl (o:=0) (n:=2) rfl,?_⟩
 refine hr.rw.nbI (by omega) (by omega) fun b o q gq t=>?_
 cases gq
 have hd1:=hL ▸ do27 L s 1 ss sb [0,0,0] (List.replicate (xL.length*xL.length) bx0) 0 0
 rw [xbx0,xdo] at hd1
 refine ⟨_,_,t,And.intro ?_ ?_⟩
 ·
  refine (hd1 h27 (hS.ext hs.ext) (hM.cfi hs)).mono ?_
  rintro _ h44 ⟨ts,tb,T,A2,rfl,hT,hs3,hM2⟩
  have hs:=hs.join hs3
  refine ⟨ts,tb,0,rfl,?_⟩
  refine hs.newbE fun h45 E45 hs=>⟨E45.sm,?_⟩
  refine hs.put 0 rfl (o:=0) (vs:=[.slice ts.a ts.n ts.c,.slice tb.a tb.n tb.c]) rfl (show 2<=2 by decide) fun h46 hs=>?_
  refine ⟨ts,tb,hs.at 0 rfl (o:=0) (n:=2) rfl,?_⟩
  have hM2:=hM2.mono (A':=.blk h44.size [.slice ts.a ts.n ts.c,.slice tb.a tb.n tb.c] 29::((.blk h19.size [.slice ss.a ss.n ss.c,.slice sb.a sb.n sb.c] 29::A)++A2)) fun i hi=>Yn _ (List.mem_append_right _ hi)
  refine (steps16 L s 1 ts tb _ T h46 (hS.ext hs.ext) (hM2.cfi hs)).mono ?_
  rw [hL,hT]
  rintro _ h52 ⟨E52,r2,e2,l2,rfl,hr2,hpos2,-⟩
  obtain ⟨rfl,rfl⟩:=hpos2 xpro1
  rw [show stepsS xL 1 [1,0,0] (xB1 0)=[(1,0)] from xsteps1 0 (.inl rfl)] at hr2
  have hs:=hs.step E52
  have hrn2:r2.n=1:=hr2.ln
  refine ⟨r2,0,rfl,sB_t rfl (sB_t rfl (sB_t (by rw [hrn2]; rfl) ?_))⟩
  refine hr2.rw.nbI (by omega) (by omega) fun b o q gq t=>?_
  cases gq
  refine ⟨_,t.hd,sB_t rfl ?_⟩
  have hC2:=hM2.cfi hs
  have htn:ts.n=3:=hC2.s.ln
  refine ⟨ts,hs.rd 0 rfl (i:=0) rfl,sB_t (by rw [htn]; rfl) ⟨ts,hs.rd 0 rfl (i:=0) rfl,?_⟩⟩
  refine hC2.s.rw.nbI (by omega) (by omega) fun b o q gq t=>?_
  cases gq
  exact ⟨_,t.hd,rfl,E0.trans hs.ext⟩
 ·
  refine hs.newbE fun h61 E61 hs=>⟨E61.sm,?_⟩
  have hM:=hM.mono (A':=.blk h27.size [.slice none 0 0,.slice none 0 0] 29 :: .blk h19.size [.slice ss.a ss.n ss.c,.slice sb.a sb.n sb.c] 29::A) fun i hi=>Yn _ hi
  refine (hd1 h61 (hS.ext hs.ext) (hM.cfi hs)).mono ?_
  rintro _ h44 ⟨ts,tb,T,A2,rfl,hT,hs3,hM2⟩
  have hs:=hs.join hs3
  refine ⟨ts,tb,0,rfl,?_⟩
  refine hs.put 0 rfl (o:=0) (vs:=[.slice ts.a ts.n ts.c,.slice tb.a tb.n tb.c]) rfl (show 2<=2 by decide) fun h46 hs=>?_
  refine ⟨ts,tb,hs.at 0 rfl (o:=0) (n:=2) rfl,?_⟩
  have hM2:=hM2.mono (A':=.blk h27.size [.slice ts.a ts.n ts.c,.slice tb.a tb.n tb.c] 29::((.blk h19.size [.slice ss.a ss.n ss.c,.slice sb.a sb.n sb.c] 29::A)++A2)) fun i hi=>Yn _ (List.mem_append_right _ hi)
  refine (steps16 L s 1 ts tb _ T h46 (hS.ext hs.ext) (hM2.cfi hs)).mono ?_
  rw [hL,hT]
  rintro _ h52 ⟨E52,r2,e2,l2,rfl,hr2,hpos2,-⟩
  obtain ⟨rfl,rfl⟩:=hpos2 xpro1
  rw [show stepsS xL 1 [1,0,0] (xB1 0)=[(1,0)] from xsteps1 0 (.inl rfl)] at hr2
  have hs:=hs.step E52
  have hrn2:r2.n=1:=hr2.ln
  refine ⟨r2,0,rfl,sB_t rfl (sB_t rfl (sB_t (by rw [hrn2]; rfl) ?_))⟩
  refine hr2.rw.nbI (by omega) (by omega) fun b o q gq t=>?_
  cases gq
  refine ⟨_,t.hd,sB_t rfl ?_⟩
  have hC2:=hM2.cfi hs
  have htn:ts.n=3:=hC2.s.ln
  refine ⟨ts,hs.rd 0 rfl (i:=0) rfl,sB_t (by rw [htn]; rfl) ⟨ts,hs.rd 0 rfl (i:=0) rfl,?_⟩⟩
  refine hC2.s.rw.nbI (by omega) (by omega) fun b o q gq t=>?_
  cases gq
  exact ⟨_,t.hd,rfl,E0.trans hs.ext⟩
end Go.VC
end

section
namespace Go.VC
open Go.Proofs

def W3 (p0:Sl) (p1:Int) (p2_1 p2_2:Sl) (h:Heap) (R:Value->Heap->Prop):Prop:=
 (Wn h [vS p2_1,vS p2_2] 26 fun h3=>
 (Fn Pz 12 #[] h3
 (fun v4 h6=>∃ x5,iB v4 x5 /\
 (sB (!x5)
 (R (.bool false) h6)
 ((∃ (x7 x8:Sl),atC h6 (aS h 0) [vS x7,vS x8] /\
 (Fn Pz 13 #[vS p0,.agg ⟨[vS x7,vS x8]⟩] h6
 (fun v9 h11=>∃ x10,iB v9 x10 /\
 (sB (!x10)
 (R (.bool true) h11)
 ((Fn Pz 14 #[vS p0] h11
 (fun v12 h16=>∃ (x13 x14:Sl) (x15:Int),v12=.tuple ⟨[.agg ⟨[vS x13,vS x14]⟩,vI x15]⟩ /\
 (Wn h16 [.slice none 0 0,.slice none 0 0] 29 fun h17=>
 (Wp h17 (aS h16 0) 2 [vS x13,vS x14] fun h18=>
 (Fn Pz 15 #[vS p0] h18
 (fun v19 h23=>∃ (x20 x21:Sl) (x22:Int),v19=.tuple ⟨[.agg ⟨[vS x20,vS x21]⟩,vI x22]⟩ /\
 (Wn h23 [.slice none 0 0,.slice none 0 0] 26 fun h24=>
 (Wp h24 (aS h23 0) 2 [vS x20,vS x21] fun h25=>
 (∃ (x26 x27:Sl),atC h25 (aS h 0) [vS x26,vS x27] /\
 (Fn Pz 17 #[.agg ⟨[vS x26,vS x27]⟩] h25
 (fun v28 h31=>∃ (x29 x30:Sl),v28=.agg ⟨[vS x29,vS x30]⟩ /\
 (Fn Pz 16 #[vS p0,vI p1,.agg ⟨[vS x29,vS x30]⟩] h31
 (fun v32 h35=>∃ (x33:Sl) (x34:Int),v32=.tuple ⟨[vS x33,vI x34]⟩ /\
 (∃ (x36 x37:Sl),atC h35 (aS h 0) [vS x36,vS x37] /\
 (Fn Pz 18 #[vS p0,vI p1,.agg ⟨[vS x36,vS x37]⟩] h35
 (fun v38 h41=>∃ (x39:Sl) (x40:Int),v38=.tuple ⟨[vS x39,vI x40]⟩ /\
 (sB (x15 == x22)
 ((sB (x34 == x40)
 ((∃ (x42 x43:Sl),atC h41 (aS h16 0) [vS x42,vS x43] /\
 (∃ (x44 x45:Sl),atC h41 (aS h23 0) [vS x44,vS x45] /\
 (Fn Pz 19 #[.agg ⟨[vS x42,vS x43]⟩,.agg ⟨[vS x44,vS x45]⟩] h41
 (fun v46 h48=>∃ x47,iB v46 x47 /\
 (sB x47
 ((Fn Pz 21 #[vS x33] h48
 (fun v49 h51=>∃ x50,iS v49 x50 /\
 (Sm [(aS h23 0),(aS h16 0)] h48 h51 /\
 (Fn Pz 20 #[vS x50,vS x39] h51
 (fun v52 h54=>∃ x53,iB v52 x53 /\
 (Sm [(aS h23 0),(aS h16 0)] h51 h54 /\
 (sB x53
 ((Fn Pz 22 #[vS p0] h54
 (fun v55 h57=>∃ x56,iB v55 x56 /\
 (Sm [(aS h23 0),(aS h16 0)] h54 h57 /\
 (Fn Pz 23 #[vS p0] h57
 (fun v58 h60=>∃ x59,iB v58 x59 /\
 (Sm [(aS h23 0),(aS h16 0)] h57 h60 /\
 (sB (x56 == x59)
 ((∃ (x61 x62:Sl),atC h60 (aS h 0) [vS x61,vS x62] /\
 (∃ (x63 x64:Sl),atC h60 (aS h 0) [vS x63,vS x64] /\
 (Fn Pz 17 #[.agg ⟨[vS x61,vS x62]⟩] h60
 (fun v65 h68=>∃ (x66 x67:Sl),v65=.agg ⟨[vS x66,vS x67]⟩ /\
 (Sm [(aS h 0),(aS h23 0),(aS h16 0)] h60 h68 /\
 (Fn Pz 24 #[vS p0,vI p1,.agg ⟨[vS x66,vS x67]⟩] h68
 (fun v69 h71=>∃ x70,iB v69 x70 /\
 (Sm [(aS h 0),(aS h23 0),(aS h16 0)] h68 h71 /\
 (Fn Pz 25 #[vS p0,vI p1,.agg ⟨[vS x63,vS x64]⟩] h71
 (fun v72 h74=>∃ x73,iB v72 x73 /\
 (Sm [(aS h 0),(aS h23 0),(aS h16 0)] h71 h74 /\
 R (.bool (x70 == x73)) h74))))))))))))
 (R (.bool false) h60)))))))))
 (R (.bool false) h54)))))))))
 (R (.bool false) h48)))))))
 (R (.bool false) h41)))
 (R (.bool false) h41))))))))))))))))))))))))))))
theorem vc3 (p0:Sl) (p1:Int) (p2_1 p2_2:Sl) (h:Heap) (R:Value->Heap->Prop) (H:W3 p0 p1 p2_1 p2_2 h R):Fn Pz 3 #[vS p0,vI p1,.agg ⟨[vS p2_1,vS p2_2]⟩] h R:=fnI (A:=.z) (by kernel_rfl) H

end Go.VC
end

section
/- The law ComposeSteps. (Numbers of layer 27's development dump.) -/
namespace Go.VC
open Go.Proofs Go.LexS
set_option maxHeartbeats 3200000 in
theorem composeSteps3 (L:List MR) (s:Sl) (k:Int) (ss sb:Sl) (S:List Int) (B:List Bx) (h:Heap) (hx:Gx h) (hS:SyI h s L) (hC:CfI h ss sb S B) :
  Fn Pz 3 #[.slice s.a s.n s.c,.int .i64 k,.agg ⟨[.slice ss.a ss.n ss.c,.slice sb.a sb.n sb.c]⟩] h fun v h'=>v=.bool true/\Ext h h':=by
 apply vc3 s k ss sb; unfold W3
 refine (St.refl h).newb fun h3 hs=>?_
 refine (awake12 h3 (hx.ext hs.ext)).mono ?_
 rintro _ h6 ⟨rfl,E⟩
 have hs:=hs.step E
 refine ⟨true,rfl,sB_f rfl ?_⟩
 refine ⟨ss,sb,hs.at 0 rfl (o:=0) (n:=2) rfl,?_⟩
 refine (fewC13 L s ss sb S B h6 (hS.ext hs.ext) (hC.ext hs.ext)).mono ?_
 rintro _ h11 ⟨⟨b,rfl,-⟩,E⟩
 have hs:=hs.step E
 refine ⟨b,rfl,sB_intro (fun c=>⟨rfl,hs.ext⟩) (fun c=>?_)⟩
 refine (start14 L s h11 (hS.ext hs.ext)).mono ?_
 rintro _ h16 ⟨s1,b1,S1,B1,e1,A1,rfl,hs1,M1,t1,f1⟩
 have hs:=hs.join hs1
 refine ⟨s1,b1,e1,rfl,?_⟩
 refine hs.newput (vs:=[.slice s1.a s1.n s1.c,.slice b1.a b1.n b1.c]) rfl rfl fun h18 hs=>?_
 refine (refStart15 L s h18 (hS.ext hs.ext)).mono ?_
 rintro _ h23 ⟨s2,b2,S2,B2,e2,A2,rfl,hs2,M2,t2,f2⟩
 have hs:=hs.join hs2
 refine ⟨s2,b2,e2,rfl,?_⟩
 refine hs.newput (vs:=[.slice s2.a s2.n s2.c,.slice b2.a b2.n b2.c]) rfl rfl fun h25 hs=>?_
 have heq:e2=e1/\S2=S1/\B2=B1:=by
  by_cases hV:SysV (L.map MR.m)
  ·
   obtain ⟨rfl,rfl,rfl⟩:=t1 hV
   exact t2 hV
  ·
   obtain ⟨rfl,rfl,rfl⟩:=f1 hV
   exact f2 hV
 obtain ⟨rfl,rfl,rfl⟩:=heq
 refine ⟨ss,sb,hs.at 2 rfl (o:=0) (n:=2) rfl,?_⟩
 refine (own17 ss sb h25).mono ?_
 rintro _ h31 ⟨rfl,E⟩
 have hs:=hs.step E
 refine ⟨ss,sb,rfl,?_⟩
 refine (steps16 L s k ss sb S B h31 (hS.ext hs.ext) (hC.ext hs.ext)).mono ?_
 rintro _ h35 ⟨E35,r1,g1,l1,rfl,hr1,p1,q1⟩
 have hs:=hs.step E35
 refine ⟨r1,g1,rfl,ss,sb,hs.at 2 rfl (o:=0) (n:=2) rfl,?_⟩
 refine (refSteps18 L s k ss sb S B h35 (hS.ext hs.ext) (hC.ext hs.ext)).mono ?_
 rintro _ h41 ⟨E41,r2,g2,l2,rfl,hr2,p2,q2⟩
 have hs:=hs.step E41
 have hr1:=hr1.ext E41
 have heq:g2=g1/\l2=l1:=by
  by_cases hP:ProS (L.map MR.m) k S (B.map Bx.l)
  ·
   obtain ⟨rfl,rfl⟩:=p1 hP
   exact p2 hP
  ·
   obtain ⟨rfl,rfl⟩:=q1 hP
   exact q2 hP
 obtain ⟨rfl,rfl⟩:=heq
 refine ⟨r2,_,rfl,sB_t (beq_self_eq_true _) (sB_t (beq_self_eq_true _) ?_)⟩
 refine ⟨s1,b1,hs.at 1 rfl (o:=0) (n:=2) rfl,s2,b2,hs.at 0 rfl (o:=0) (n:=2) rfl,?_⟩
 have C1:=(M1.mono fun i hi=>Yn _ (List.mem_append_left _ (Yn _ (List.mem_append_right _ hi)))).cfi hs
 have C2:=(M2.mono fun i hi=>Yn _ (List.mem_append_right _ hi)).cfi hs
 refine (sameC19 s1 b1 s2 b2 _ _ _ _ h41 C1 C2).mono ?_
 rintro _ h48 ⟨⟨b,rfl,hb⟩,E48⟩
 have hs:=hs.step E48
 rw [hb.2 ⟨rfl,rfl⟩]
 refine ⟨true,rfl,sB_t rfl ?_⟩
 refine (their21 _ r1 h48 (hr1.ext E48)).mono ?_
 rintro _ h51 ⟨E51,r3,rfl,hr3⟩
 refine ⟨r3,rfl,E51.sm,?_⟩
 refine (sameSt20 _ _ r3 r2 h51 hr3 ((hr2.ext E48).ext E51)).mono ?_
 rintro _ h54 ⟨⟨b,rfl,hb⟩,E54⟩
 rw [hb.2 rfl]
 refine ⟨true,rfl,E54.sm,sB_t rfl ?_⟩
 have hs:=(hs.step E51).step E54
 refine (valid22 L s h54 (hS.ext hs.ext)).mono ?_
 rintro _ h57 ⟨⟨c1,rfl,hb1⟩,E57⟩
 refine ⟨c1,rfl,E57.sm,?_⟩
 refine (refSys23 L s h57 (hS.ext (hs.ext.trans E57))).mono ?_
 rintro _ h60 ⟨⟨c2,rfl,hb2⟩,E60⟩
 have hs:=(hs.step E57).step E60
 have e:c1=c2:=Bool.eq_iff_iff.2 (hb1.trans hb2.symm)
 subst e
 refine ⟨c1,rfl,E60.sm,sB_t (beq_self_eq_true _) ?_⟩
 refine ⟨ss,sb,hs.at 2 rfl (o:=0) (n:=2) rfl,ss,sb,hs.at 2 rfl (o:=0) (n:=2) rfl,?_⟩
 refine (own17 ss sb h60).mono ?_
 rintro _ h68 ⟨rfl,E⟩
 have hs:=hs.step E
 refine ⟨ss,sb,rfl,E.sm,?_⟩
 refine (proper24 L s k ss sb S B h68 (hS.ext hs.ext) (hC.ext hs.ext)).mono ?_
 rintro _ h71 ⟨⟨c3,rfl,hb3⟩,E⟩
 have hs:=hs.step E
 refine ⟨c3,rfl,E.sm,?_⟩
 refine (refProper25 L s k ss sb S B h71 (hS.ext hs.ext) (hC.ext hs.ext)).mono ?_
 rintro _ h74 ⟨⟨c4,rfl,hb4⟩,E⟩
 have hs:=hs.step E
 have e:c3=c4:=Bool.eq_iff_iff.2 (hb3.trans hb4.symm)
 subst e
 exact ⟨c3,rfl,E.sm,by rw [beq_self_eq_true],hs.ext⟩
end Go.VC
end

section
/- Plain: the encoding of integers, lists and configurations; it is injective. -/
namespace Go.VC
open Go.Proofs Go.LexS
def I64 (n:Int):Prop:=-9223372036854775808<=n/\n<=9223372036854775807
/-! ### What the words of bits are -/
end Go.VC
end

section
namespace Go.VC
open Go.Proofs

end Go.VC
end

section
namespace Go.VC
open Go.Proofs

end Go.VC
end

section
/- Contracts: Final on both sides. (Numbers of layer 27's development dump.) -/
namespace Go.VC
open Go.Proofs Go.LexS
end Go.VC
end

section
/- Contract: the reference's Final. (Numbers of layer 27's development dump.) -/
namespace Go.VC
open Go.Proofs Go.LexS
end Go.VC
end

section
namespace Go.VC
open Go.Proofs

end Go.VC
end

section
/- Contracts: Event on both sides. (Numbers of layer 27's development dump.) -/
namespace Go.VC
open Go.Proofs Go.LexS
end Go.VC
end

section
/- Contract: the reference's Event. (Numbers of layer 27's development dump.) -/
namespace Go.VC
open Go.Proofs Go.LexS
end Go.VC
end

section
/- Contract: the tail that the orders of the reference's Next share (printed by mkwju.py). -/
namespace Go.VC
open Go.Proofs Go.LexS
end Go.VC
end

section
namespace Go.VC
open Go.Proofs

end Go.VC
end

section
/- Contract: the reference's Next (printed by mkwjv.py). -/
namespace Go.VC
open Go.Proofs Go.LexS
end Go.VC
end

section
namespace Go.VC
open Go.Proofs

end Go.VC
end

section
/- Contract: the reference's Do. (Numbers of layer 27's development dump.) -/
namespace Go.VC
open Go.Proofs Go.LexS
end Go.VC
end

section
namespace Go.VC
open Go.Proofs

end Go.VC
end

section
/- The law ComposeDo (printed by mkwjx.py). -/
namespace Go.VC
open Go.Proofs Go.LexS
end Go.VC
end

section
/- Plain: a possible step leads from a proper configuration to a proper one. (Numbers of layer 27's development dump.) -/
namespace Go.VC
open Go.Proofs Go.LexS
end Go.VC
end

section
namespace Go.VC
open Go.Proofs

end Go.VC
end

section
/- Contract: Walk. (Numbers of layer 27's development dump.) -/
namespace Go.VC
open Go.Proofs Go.LexS
def u8C (b:Int):List Value:=[.int .u8 b]
end Go.VC
end

section
namespace Go.VC
open Go.Proofs

end Go.VC
end

section
/- Contracts: the encodings, on both sides. (Numbers of layer 27's development dump.) -/
namespace Go.VC
open Go.Proofs Go.LexS
end Go.VC
end

section
/- What systems of machines, configurations and lists of bytes look like in memory where all that is read is of bulk at most 1048576. -/
namespace Go.VC
open Go.Proofs Go.LexS Go.RowKit Go.ChangeShapes Go.WideShapes Go.Proofs.YtnfkibjnkiojnaaGreatDoor
theorem bulk_pos {H:Type} (d:DataW H):1<=Rows.uptoBulk d:=by
 cases d with
 | lit l=>cases l <;> simp [Rows.uptoBulk]
 | _=>simp [Rows.uptoBulk]
theorem bulk_part {H:Type}:∀ {l:List (DataW H)} {d:DataW H},d ∈ l->Rows.uptoBulk d<=Rows.uptoBulkAll l
 | [],_,h=>by cases h
 | x::r,d,h=>by
  rw [Rows.uptoBulkAll]
  rcases Yr.1 h with rfl | h
  ·
   omega
  ·
   have:=bulk_part h; omega
theorem bulk_len {H:Type}:∀ l:List (DataW H),l.length<=Rows.uptoBulkAll l
 | []=>by simp
 | x::r=>by
  have h1:=bulk_pos x
  have h2:=bulk_len r
  rw [Rows.uptoBulkAll,Yyj]; omega
def Rdb (P:Program) (W:World) (t:TypeId) (cs:List Value):Prop:=
 ∃ (H:Type) (enc:TypeId × Value->H) (n:Nat) (x:DataW H × List MemPlace),DataW.trod enc P W 0 (fun _=>true) true n t cs=some x/\Rows.uptoBulk x.1<=1048576
theorem Rdb.rdt {P:Program} {W:World} {t:TypeId} {cs:List Value} (h:Rdb P W t cs):Rdt P W t cs:=by
 obtain ⟨H,enc,n,x,h1,_⟩:=h; exact ⟨H,enc,n,x,h1⟩
theorem rdb_of_trod {H:Type} {enc:TypeId × Value->H} {P:Program} {W:World} {t:TypeId} {v:Value} {d:DataW H} {p:List MemPlace} (h:DataW.Trod enc P W 0 (fun _=>true) true t v d p) (hw:Rows.uptoBulk d<=1048576):Rdb P W t v.cells.toList:=by
 obtain ⟨n,h⟩:=h
 exact ⟨H,enc,n,_,h,hw⟩
theorem Rdb.field {P:Program} {W:World} {t ft:TypeId} {cs:List Value} {i off:Nat} (h:Rdb P W t cs) (hf:fieldAt P t i=some (ft,off)):Rdb P W ft ((cs.drop off).take (P.cellsOf ft)):=by
 unfold fieldAt at hf
 split at hf
 ·
  rename_i fs hu
  obtain ⟨f,h1,h2⟩:=Yya.1 hf
  cases h2
  obtain ⟨H,enc,n,x,h,hw⟩:=h
  obtain ⟨xs,m,_,hx,hl,hxl,hfi⟩:=DataW.trod_struct hu h
  have hlt:i<xs.length:=by rw [hxl]; exact (Yyg.1 h1).1
  refine ⟨H,enc,m,xs[i],by rw [hfi i f h1,Yi hlt],?_⟩
  rw [hx,Rows.uptoBulk] at hw
  have:=bulk_part (l:=xs.map (·.1)) (d:=xs[i].1) (Yp.2 ⟨xs[i],List.getElem_mem hlt,rfl⟩)
  omega
 ·
  cases hf
theorem Rdb.rows {P:Program} {W:World} {t e:TypeId} {cs:List Value} (ht:P.underlying t=some (.slice e)) (h:Rdb P W t cs) (hpos:0<P.cellsOf e) :
  ∃ (s:Sl) (rows:List (List Value)),cs=[.slice s.a s.n s.c]/\s.n<=s.c/\s.n<=1048576/\(s.a=none->s.n=0/\s.c=0)/\Rw W.heap (P.cellsOf e) s rows/\∀ r ∈ rows,r.length=P.cellsOf e/\Rdb P W e r:=by
 obtain ⟨H,enc,n,x,h,hw⟩:=h
 rcases DataW.trod_slice ht h with ⟨rfl,_⟩ | ⟨a,len,cap,elems,rest,m,_,rfl,hx,_,hlc,hcm,hel,helem,_,_⟩
 ·
  exact ⟨⟨none,0,0⟩,[],rfl,Yyt _,Nat.zero_le _,fun _=>⟨rfl,rfl⟩,Rw.nil,fun r hr=>by cases hr⟩
 ·
  rw [hx,Rows.uptoBulk] at hw
  have hle:len<=1048576:=by
   have:=bulk_len (elems.map (·.1))
   rw [Yc] at this; omega
  have hwe:∀ (i:Nat) (hi:i<elems.length),Rows.uptoBulk elems[i].1<=1048576:=fun i hi=>by
   have:=bulk_part (l:=elems.map (·.1)) (d:=elems[i].1) (Yp.2 ⟨elems[i],List.getElem_mem hi,rfl⟩)
   omega
  by_cases h0:len=0
  ·
   subst h0
   exact ⟨⟨some a,0,cap⟩,[],rfl,hlc,hle,fun e=>(by cases e),Rw.empty rfl,fun r hr=>by cases hr⟩
  ·
   have hrow:∀ i,i<len->∃ r,W.cells? 0 (a.add (i*P.cellsOf e)) (P.cellsOf e)=some r/\Rdb P W e r:=by
    intro i hi
    have h1:=helem i hi
    rw [Yi (by omega)] at h1
    obtain ⟨r,hr,hx2⟩:=Option.bind_eq_some_iff.1 h1
    exact ⟨r,hr,H,enc,m,_,hx2,hwe i (by omega)⟩
   let row:Nat->List Value:=fun i=>(W.cells? 0 (a.add (i*P.cellsOf e)) (P.cellsOf e)).getD []
   have hrow':∀ i,i<len->W.cells? 0 (a.add (i*P.cellsOf e)) (P.cellsOf e)=some (row i)/\Rdb P W e (row i):=fun i hi=>by
    obtain ⟨r,hr,hx⟩:=hrow i hi
    have:row i=r:=by show (W.cells? 0 _ _).getD []=r; rw [hr]; rfl
    rw [this]; exact ⟨hr,hx⟩
   have hget:∀ i,i<len->((List.range len).map row)[i]?=some (row i):=fun i hi=>by
    rw [Yd,Yyb hi]; rfl
   have hspot:a=⟨a.block,a.off,none⟩:=by
    have hc:=(cells_at (hrow' 0 (by omega)).1)
    have hl0:0<(row 0).length:=by rw [hc.1]; exact hpos
    have:=hc.2 0 _ (Yi hl0)
    rw [Nat.zero_mul,show (a.add 0).add 0=a from rfl] at this
    unfold World.cell? at this
    split at this
    ·
     split at this
     ·
      cases this
     ·
      rename_i hs
      cases a with
      | mk b o s=>
       cases s with
       | none=>rfl
       | some s=>exact absurd rfl hs
    ·
     cases this
   refine ⟨⟨some a,len,cap⟩,(List.range len).map row,rfl,hlc,hle,fun e=>(by cases e),⟨by simp,fun _=>⟨a.block,a.off,by rw [<- hspot],fun i r hi j v hj=>?_⟩⟩,fun r hr=>?_⟩
   ·
    have hil:i<len:=by have:=(Ya.1 hi).1; simpa using this
    rw [hget i hil] at hi; cases hi
    have h4:=(cells_at (hrow' i hil).1).2 _ _ hj
    rw [hspot] at h4
    have e:((⟨a.block,a.off,none⟩:Addr).add (i*P.cellsOf e)).add j=addk ⟨a.block,a.off+i*P.cellsOf e,none⟩ j:=by
     rw [addk_at,add_n,add_n]
    rw [e] at h4
    exact h4
   ·
    obtain ⟨i,hi,rfl⟩:=Yp.1 hr
    have:=hrow' i (List.mem_range.1 hi)
    exact ⟨(cells_at this.1).1,this.2⟩
theorem Rdb.list {α:Type} {P:Program} {W:World} {t e:TypeId} {k:Nat} {v:Value} {cs:α->List Value} {Q:α->Prop} (ht:P.underlying t=some (.slice e)) (hk:P.cellsOf e=k) (hpos:0<k)
  (ho:∀ r,Rdb P W e r->∃ x,r=cs x/\Q x) (h:Rdb P W t [v]):∃ (s:Sl) (L:List α),v=.slice s.a s.n s.c/\RL W.heap k s cs L/\∀ x ∈ L,Q x:=by
 subst hk
 obtain ⟨s,rows,e1,hc,hm,hna,hrw,hr⟩:=h.rows ht hpos
 have key:∀ rows:List (List Value),(∀ r ∈ rows,r.length=P.cellsOf e/\Rdb P W e r)->∃ L:List α,rows=L.map cs/\∀ x ∈ L,Q x:=by
  intro rows
  induction rows with
  | nil=>intro _; exact ⟨[],rfl,fun x hx=>by cases hx⟩
  | cons r rows ih=>
   intro h
   obtain ⟨x,hx,hq⟩:=ho r (h r (by simp)).2
   obtain ⟨L,hL,hQ⟩:=ih fun y hy=>h y (Yn _ hy)
   exact ⟨x::L,by rw [hx,hL]; rfl,fun y hy=>by rcases Yr.1 hy with rfl | hy; exact hq; exact hQ y hy⟩
 obtain ⟨L,rfl,hQ⟩:=key rows hr
 have hn:=hrw.ln
 exact ⟨s,L,by simpa using e1,⟨hrw,hc,hna,by omega⟩,hQ⟩
theorem v3:Pz.underlying 3=some (.int .i64):=by kernel_rfl
theorem v4b:Pz.underlying 4=some .bool:=by kernel_rfl
theorem cz3:Pz.cellsOf 3=1:=by kernel_rfl
theorem cz4:Pz.cellsOf 4=1:=by kernel_rfl
theorem cz51:Pz.cellsOf 51=1:=by kernel_rfl
theorem cz52:Pz.cellsOf 52=1:=by kernel_rfl
theorem cz53:Pz.cellsOf 53=1:=by kernel_rfl
theorem cz55:Pz.cellsOf 55=6:=by kernel_rfl
theorem cz190:Pz.cellsOf 190=3:=by kernel_rfl
theorem cz108:Pz.cellsOf 108=6:=by kernel_rfl
theorem vs51:Pz.underlying 51=some (.slice 4):=by kernel_rfl
theorem vs52:Pz.underlying 52=some (.slice 108):=by kernel_rfl
theorem vs53:Pz.underlying 53=some (.slice 190):=by kernel_rfl
theorem Rdb.sl {P:Program} {W:World} {t e:TypeId} {cs:List Value} (ht:P.underlying t=some (.slice e)) (h:Rdb P W t cs):∃ s:Sl,cs=[.slice s.a s.n s.c]:=by
 obtain ⟨H,enc,n,x,h,_⟩:=h
 rcases DataW.trod_slice ht h with ⟨rfl,_⟩ | ⟨a,len,cap,elems,rest,m,_,rfl,_⟩
 ·
  exact ⟨⟨none,0,0⟩,rfl⟩
 ·
  exact ⟨⟨some a,len,cap⟩,rfl⟩
theorem open_three {W:World} {t:TypeId} {r:List Value} (hc:Pz.cellsOf t=3) (h0:fieldAt Pz t 0=some (3,0)) (h1:fieldAt Pz t 1=some (3,1)) (h2:fieldAt Pz t 2=some (3,2)) (h:Rdt Pz W t r) :
  ∃ a b c:Int,r=[.int .i64 a,.int .i64 b,.int .i64 c]:=by
 have hl:=h.flen h0
 rw [hc] at hl
 match r,hl with
 | [x0,x1,x2],_=>
  have f0:=h.field h0
  have f1:=h.field h1
  have f2:=h.field h2
  rw [cz3] at f0 f1 f2
  obtain ⟨k0,e0,_⟩:=f0.int v3
  obtain ⟨k1,e1,_⟩:=f1.int v3
  obtain ⟨k2,e2,_⟩:=f2.int v3
  simp only [List.drop_zero,List.take_succ_cons,Yyk,List.drop_succ_cons,List.cons.injEq,and_true] at e0 e1 e2
  subst e0 e1 e2
  exact ⟨k0,k1,k2,rfl⟩
theorem open_boolv {W:World} {r:List Value} (h:Rdb Pz W 4 r):∃ x:Bool,r=bC x/\True:=by
 obtain ⟨k,e⟩:=h.rdt.bool v4b
 exact ⟨k,e,trivial⟩
theorem open_limit {W:World} {r:List Value} (h:Rdb Pz W 190 r):∃ x:To,r=x.cs/\True:=by
 obtain ⟨a,b,c,e⟩:=open_three cz190 (by kernel_rfl) (by kernel_rfl) (by kernel_rfl) h.rdt
 exact ⟨⟨a,b,c⟩,e,trivial⟩
theorem open_move {W:World} {r:List Value} (h:Rdb Pz W 108 r):∃ x:Mv,r=x.cs/\True:=by
 have hl:=h.rdt.flen (i:=0) (ft:=3) (off:=0) (by kernel_rfl)
 rw [cz108] at hl
 match r,hl with
 | [x0,x1,x2,x3,x4,x5],_=>
  have f0:=h.rdt.field (i:=0) (ft:=3) (off:=0) (by kernel_rfl)
  have f1:=h.rdt.field (i:=1) (ft:=4) (off:=1) (by kernel_rfl)
  have f2:=h.rdt.field (i:=2) (ft:=3) (off:=2) (by kernel_rfl)
  have f3:=h.rdt.field (i:=3) (ft:=3) (off:=3) (by kernel_rfl)
  have f4:=h.rdt.field (i:=4) (ft:=3) (off:=4) (by kernel_rfl)
  have f5:=h.rdt.field (i:=5) (ft:=4) (off:=5) (by kernel_rfl)
  rw [cz3] at f0 f2 f3 f4
  rw [cz4] at f1 f5
  obtain ⟨k0,e0,_⟩:=f0.int v3
  obtain ⟨k1,e1⟩:=f1.bool v4b
  obtain ⟨k2,e2,_⟩:=f2.int v3
  obtain ⟨k3,e3,_⟩:=f3.int v3
  obtain ⟨k4,e4,_⟩:=f4.int v3
  obtain ⟨k5,e5⟩:=f5.bool v4b
  simp only [List.drop_zero,List.take_succ_cons,Yyk,List.drop_succ_cons,List.cons.injEq,and_true] at e0 e1 e2 e3 e4 e5
  subst e0 e1 e2 e3 e4 e5
  exact ⟨⟨k0,k1,k2,k3,k4,k5⟩,rfl,trivial⟩
theorem open_machine {W:World} {r:List Value} (h:Rdb Pz W 55 r):∃ (m:Mch) (sf sm sl:Sl),r=mC m sf sm sl/\MI W.heap m sf sm sl:=by
 have hl:=h.rdt.flen (i:=0) (ft:=3) (off:=0) (by kernel_rfl)
 rw [cz55] at hl
 match r,hl with
 | [x0,x1,x2,x3,x4,x5],_=>
  have f0:=h.rdt.field (i:=0) (ft:=3) (off:=0) (by kernel_rfl)
  have f1:=h.rdt.field (i:=1) (ft:=3) (off:=1) (by kernel_rfl)
  have f2:=h.rdt.field (i:=2) (ft:=3) (off:=2) (by kernel_rfl)
  have f3:=h.field (i:=3) (ft:=51) (off:=3) (by kernel_rfl)
  have f4:=h.field (i:=4) (ft:=52) (off:=4) (by kernel_rfl)
  have f5:=h.field (i:=5) (ft:=53) (off:=5) (by kernel_rfl)
  rw [cz3] at f0 f1 f2
  rw [cz51] at f3
  rw [cz52] at f4
  rw [cz53] at f5
  obtain ⟨k0,e0,_⟩:=f0.int v3
  obtain ⟨k1,e1,_⟩:=f1.int v3
  obtain ⟨k2,e2,_⟩:=f2.int v3
  obtain ⟨sf,lf,e3,hf,_⟩:=Rdb.list vs51 cz4 (by omega) (fun r hr=>open_boolv hr) (show Rdb Pz W 51 [x3] from f3)
  obtain ⟨sm,lm,e4,hm,_⟩:=Rdb.list vs52 cz108 (by omega) (fun r hr=>open_move hr) (show Rdb Pz W 52 [x4] from f4)
  obtain ⟨sl,ll,e5,hl,_⟩:=Rdb.list vs53 cz190 (by omega) (fun r hr=>open_limit hr) (show Rdb Pz W 53 [x5] from f5)
  simp only [List.drop_zero,List.take_succ_cons,Yyk,List.drop_succ_cons,List.cons.injEq,and_true] at e0 e1 e2
  subst e0 e1 e2 e3 e4 e5
  exact ⟨⟨k0,k1,k2,lf,lm,ll⟩,sf,sm,sl,rfl,⟨hf,hm,hl⟩⟩
theorem cz5:Pz.cellsOf 5=1:=by kernel_rfl
theorem vs48:Pz.underlying 48=some (.slice 5):=by kernel_rfl
theorem v5u:Pz.underlying 5=some (.int .u8):=by kernel_rfl
theorem vsS22:Pz.underlying 22=some (.slice 55):=by kernel_rfl
theorem vsS23:Pz.underlying 23=some (.slice 3):=by kernel_rfl
theorem vsS24:Pz.underlying 24=some (.slice 23):=by kernel_rfl
theorem czS23:Pz.cellsOf 23=1:=by kernel_rfl
theorem czS24:Pz.cellsOf 24=1:=by kernel_rfl
theorem czS26:Pz.cellsOf 26=2:=by kernel_rfl
theorem open_mr {W:World} {r:List Value} (h:Rdb Pz W 55 r):∃ x:MR,r=x.cs/\MI W.heap x.m x.f x.g x.l:=by
 obtain ⟨m,f,g,l,e,hm⟩:=open_machine h
 exact ⟨⟨m,f,g,l⟩,e,hm⟩
theorem open_sys {W:World} {v:Value} (h:Rdb Pz W 22 [v]):∃ (s:Sl) (L:List MR),v=.slice s.a s.n s.c/\SyI W.heap s L:=by
 obtain ⟨s,L,e,hr,hq⟩:=Rdb.list vsS22 cz55 (by omega) (fun r hr=>open_mr hr) h
 exact ⟨s,L,e,hr,hq⟩
theorem open_u8n {W:World} {r:List Value} (h:Rdb Pz W 5 r):∃ x:Int,r=u8C x/\(0<=x/\x<256):=by
 obtain ⟨n,e,hw⟩:=h.rdt.int v5u
 have h3:(decide (IntKind.u8.min<=n) && decide (n<=IntKind.u8.max))=true:=hw
 rw [Yt] at h3
 have h4:(0:Int)<=n:=Yyn h3.1
 have h5:n<=(255:Int):=Yyn h3.2
 exact ⟨n,e,h4,by omega⟩
theorem open_u8s {W:World} {v:Value} (h:Rdb Pz W 48 [v]):∃ (s:Sl) (L:List Int),v=.slice s.a s.n s.c/\(RL W.heap 1 s u8C L/\∀ n ∈ L,0<=n/\n<256):=by
 obtain ⟨s,L,e,hr,hb⟩:=Rdb.list vs48 cz5 (by omega) (fun r hr=>open_u8n hr) h
 exact ⟨s,L,e,hr,hb⟩
theorem open_intn {W:World} {r:List Value} (h:Rdb Pz W 3 r):∃ x:Int,r=inC x/\I64 x:=by
 obtain ⟨n,e,hw⟩:=h.rdt.int v3
 have h3:(decide (IntKind.i64.min<=n) && decide (n<=IntKind.i64.max))=true:=hw
 rw [Yt] at h3
 have h4:(-9223372036854775808:Int)<=n:=Yyn h3.1
 have h5:n<=(9223372036854775807:Int):=Yyn h3.2
 exact ⟨n,e,h4,h5⟩
theorem open_intl {W:World} {v:Value} (h:Rdb Pz W 23 [v]):∃ (s:Sl) (L:List Int),v=.slice s.a s.n s.c/\(RL W.heap 1 s inC L/\∀ n ∈ L,I64 n):=by
 obtain ⟨s,L,e,hr,hb⟩:=Rdb.list vsS23 cz3 (by omega) (fun r hr=>open_intn hr) h
 exact ⟨s,L,e,hr,hb⟩
theorem open_box {W:World} {r:List Value} (h:Rdb Pz W 23 r):∃ q:Bx,r=q.cs/\(RL W.heap 1 q.s inC q.l/\∀ n ∈ q.l,I64 n):=by
 obtain ⟨s,rfl⟩:=Rdb.sl vsS23 h
 obtain ⟨s',L,e,hr⟩:=open_intl h
 exact ⟨⟨s',L⟩,by rw [e]; rfl,hr⟩
def CfB (h:Heap) (ss sb:Sl) (S:List Int) (B:List Bx):Prop:=CfI h ss sb S B/\(∀ x ∈ S,I64 x)/\∀ q ∈ B.map Bx.l,∀ x ∈ q,I64 x
theorem open_config {W:World} {r:List Value} (h:Rdb Pz W 26 r):∃ (ss sb:Sl) (S:List Int) (B:List Bx),r=[.slice ss.a ss.n ss.c,.slice sb.a sb.n sb.c]/\CfB W.heap ss sb S B:=by
 have hl:=h.rdt.flen (i:=0) (ft:=23) (off:=0) (by kernel_rfl)
 rw [czS26] at hl
 match r,hl with
 | [x0,x1],_=>
  have f0:=h.field (i:=0) (ft:=23) (off:=0) (by kernel_rfl)
  have f1:=h.field (i:=1) (ft:=24) (off:=1) (by kernel_rfl)
  rw [czS23] at f0
  rw [czS24] at f1
  obtain ⟨ss,S,e0,hS,hS2⟩:=open_intl (show Rdb Pz W 23 [x0] from f0)
  obtain ⟨sb,B,e1,hB,hB2⟩:=Rdb.list vsS24 czS23 (by omega) (fun r hr=>open_box hr) (show Rdb Pz W 24 [x1] from f1)
  subst e0 e1
  refine ⟨ss,sb,S,B,rfl,⟨hS,hB,fun q hq=>(hB2 q hq).1⟩,hS2,fun q hq=>?_⟩
  obtain ⟨y,hy,rfl⟩:=Yp.1 hq
  exact (hB2 y hy).2
end Go.VC
end
