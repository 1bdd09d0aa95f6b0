/- TkVcD TkVcC TkI TkJ TkK TkL TkM TkN TkO. -/
import Derived.Test.YtnfkibjnkiojnaaGreatDoorM02
import Derived.Test.YtnfkibjnkiojnaaGreatDoorProg
import Derived.KernelRfl
import Derived.Test.YtnfkibjnkiojnaaGreatDoorM01
import Derived.Test.YtnfkibjnkiojnaaGreatDoorM05
import Derived.Test.YtnfkibjnkiojnaaGreatDoorM15
import Derived.Test.YtnfkibjnkiojnaaGreatDoorM07
set_option linter.unusedVariables false
set_option linter.unusedSimpArgs false
set_option maxRecDepth 100000

section
namespace Go.VC
open Go.Proofs

def W208 (p0_1:ByteArray) (p0_2 p0_3:Sl) (p0_4 p0_5 p0_6:Int) (p0_7 p0_8:Sl) (p1:Int) (h:Heap) (R:Value->Heap->Prop):Prop:=
 (Wn h (L2 p0_1 p0_2 p0_3 p0_4 p0_5 p0_6 p0_7 p0_8) 92 fun h9=>
 (∃ x10 x11 x12 x13 x14 x15 x16 x17,aL2 h9 (aS h 0) x10 x11 x12 x13 x14 x15 x16 x17 /\
 (Fn Pz 77 #[.agg ⟨(L2 x10 x11 x12 x13 x14 x15 x16 x17)⟩] h9
 (fun v18 h20=>∃ x19,iB v18 x19 /\
 (sB (!x19)
 (R (.tuple ⟨[.pointer none,vI 1]⟩) h20)
 ((sB (decide (p1<0))
 (R (.tuple ⟨[.pointer none,vI 1]⟩) h20)
 ((∃ x21,rS h20 (aS h 1) x21 /\
 (sB (decide (p1 >= (x21.n:Int)))
 (R (.tuple ⟨[.pointer none,vI 1]⟩) h20)
 ((∃ x22 x23 x24 x25 x26 x27 x28 x29,aL2 h20 (aS h 0) x22 x23 x24 x25 x26 x27 x28 x29 /\
 (∃ x30,rI h20 (aS h 3) x30 /\
 (∃ x31,rI h20 (aS h 3) x31 /\
 ((Mk x30 x30 24/\Wn h20 (madeL Pz 23 (Int.toNat x30)) 23 fun h32=>
 (Sm [(aS h 3),(aS h 0)] h20 h32 /\
 (Mk x31 x31 24/\Wn h32 (madeL Pz 385 (Int.toNat x31)) 385 fun h33=>
 (Sm [(aS h 3),(aS h 0)] h32 h33 /\
 (Wn h33 [.string x22,vS x23,vS x24,vI x25,vI x26,vI x27,vS x28,vS x29,vI p1,.slice (some (aS h20 0)) (Int.toNat x30) (Int.toNat x30),.slice (some (aS h32 0)) (Int.toNat x31) (Int.toNat x31)] 384 fun h34=>
 (∃ x35,rS h34 (aS h 6) x35 /\
 (QI 0 h34 fun I36 x_39 h40 m38=>(
 (sB (decide (x_39<(x35.n:Int)))
 ((NB x35.a fun b41 o42=>(Ib x_39 x35.n /\
 (∃ x43 x44 x45 x46 x47 x48,aL6 h40 ⟨b41,o42+Int.toNat x_39*6,none⟩ x43 x44 x45 x46 x47 x48 /\
 (Wn h40 [vI 0,vI 0,vI 0,vI 0,vI 0,.bool false] 137 fun h49=>
 (Wp h49 (aS h40 0) 6 (L6 x43 x44 x45 x46 x47 x48) fun h50=>
 (∃ x51,rI h50 (aS h40 1) x51 /\
 (sB (p1 == x51)
 ((∃ x52,rS h50 (aS h33 10) x52 /\
 (∃ x53,rI h50 (aS h40 0) x53 /\
 (∃ x54,rS h50 (aS h33 10) x54 /\
 (∃ x55,rI h50 (aS h40 0) x55 /\
 (NB x54.a fun b56 o57=>(Ib x55 x54.n /\
 (∃ x58,rS h50 ⟨b56,o57+Int.toNat x55*1,none⟩ x58 /\
 (∃ x59,rI h50 (aS h40 (1+1)) x59 /\
 (∃ x60,rI h50 (aS h40 (1+2)) x60 /\
 (∃ x61,rI h50 (aS h40 4) x61 /\
 (Wn h50 [.bool true,vI x59,vI x60,vI x61] 387 fun h62=>
 (Sm [⟨b56,o57+Int.toNat x55*1,none⟩,(aS h40 0),(aS h33 10),(aS h40 0),(aS h33 10)] h50 h62 /\
 (App Pz 385 385 (vS x58) (.slice (some (aS h50 0)) 1 1) h62 fun s63 h64=>
 (Sm [(aS h40 0),(aS h33 10)] h62 h64 /\
 (NB x52.a fun b65 o66=>(Ib x53 x52.n /\
 (Wp h64 ⟨b65,o66+Int.toNat x53*1,none⟩ 1 [vS s63] fun h67=>
 (∃ m68,m68<m38/\I36 (IntKind.wrap .i64 (x_39+1)) h67 m68)))))))))))))))))))
 ((∃ x69,rI h50 (aS h40 (1+1)) x69 /\
 (sB (p1 == x69)
 ((∃ x70,rS h50 (aS h33 10) x70 /\
 (∃ x71,rI h50 (aS h40 0) x71 /\
 (∃ x72,rS h50 (aS h33 10) x72 /\
 (∃ x73,rI h50 (aS h40 0) x73 /\
 (NB x72.a fun b74 o75=>(Ib x73 x72.n /\
 (∃ x76,rS h50 ⟨b74,o75+Int.toNat x73*1,none⟩ x76 /\
 (∃ x77,rI h50 (aS h40 1) x77 /\
 (∃ x78,rI h50 (aS h40 (1+2)) x78 /\
 (∃ x79,rI h50 (aS h40 4) x79 /\
 (Wn h50 [.bool false,vI x77,vI x78,vI x79] 387 fun h80=>
 (Sm [⟨b74,o75+Int.toNat x73*1,none⟩,(aS h40 0),(aS h33 10),(aS h40 0),(aS h33 10)] h50 h80 /\
 (App Pz 385 385 (vS x76) (.slice (some (aS h50 0)) 1 1) h80 fun s81 h82=>
 (Sm [(aS h40 0),(aS h33 10)] h80 h82 /\
 (NB x70.a fun b83 o84=>(Ib x71 x70.n /\
 (Wp h82 ⟨b83,o84+Int.toNat x71*1,none⟩ 1 [vS s81] fun h85=>
 (∃ m86,m86<m38/\I36 (IntKind.wrap .i64 (x_39+1)) h85 m86)))))))))))))))))))
 ((∃ x87,rS h50 (aS h33 9) x87 /\
 (∃ x88,rI h50 (aS h40 0) x88 /\
 (∃ x89,rS h50 (aS h33 9) x89 /\
 (∃ x90,rI h50 (aS h40 0) x90 /\
 (NB x89.a fun b91 o92=>(Ib x90 x89.n /\
 (∃ x93,rS h50 ⟨b91,o92+Int.toNat x90*1,none⟩ x93 /\
 (∃ x94,rI h50 (aS h40 4) x94 /\
 (Wn h50 [vI x94] 3 fun h95=>
 (Sm [⟨b91,o92+Int.toNat x90*1,none⟩,(aS h40 0),(aS h33 9),(aS h40 0),(aS h33 9)] h50 h95 /\
 (App Pz 23 23 (vS x93) (.slice (some (aS h50 0)) 1 1) h95 fun s96 h97=>
 (Sm [(aS h40 0),(aS h33 9)] h95 h97 /\
 (NB x87.a fun b98 o99=>(Ib x88 x87.n /\
 (Wp h97 ⟨b98,o99+Int.toNat x88*1,none⟩ 1 [vS s96] fun h100=>
 (∃ m101,m101<m38/\I36 (IntKind.wrap .i64 (x_39+1)) h100 m101))))))))))))))))))))))))))))
 (R (.tuple ⟨[.pointer (some (aS h33 0)),vI 0]⟩) h40)))))))))))/\((Mk x31 x31 24/\Wn h20 (madeL Pz 385 (Int.toNat x31)) 385 fun h102=>
 (Sm [(aS h 3),(aS h 0)] h20 h102 /\
 (Mk x30 x30 24/\Wn h102 (madeL Pz 23 (Int.toNat x30)) 23 fun h103=>
 (Sm [(aS h 3),(aS h 0)] h102 h103 /\
 (Wn h103 [.string x22,vS x23,vS x24,vI x25,vI x26,vI x27,vS x28,vS x29,vI p1,.slice (some (aS h102 0)) (Int.toNat x30) (Int.toNat x30),.slice (some (aS h20 0)) (Int.toNat x31) (Int.toNat x31)] 384 fun h104=>
 (∃ x105,rS h104 (aS h 6) x105 /\
 (QI 0 h104 fun I106 x_109 h110 m108=>(
 (sB (decide (x_109<(x105.n:Int)))
 ((NB x105.a fun b111 o112=>(Ib x_109 x105.n /\
 (∃ x113 x114 x115 x116 x117 x118,aL6 h110 ⟨b111,o112+Int.toNat x_109*6,none⟩ x113 x114 x115 x116 x117 x118 /\
 (Wn h110 [vI 0,vI 0,vI 0,vI 0,vI 0,.bool false] 137 fun h119=>
 (Wp h119 (aS h110 0) 6 (L6 x113 x114 x115 x116 x117 x118) fun h120=>
 (∃ x121,rI h120 (aS h110 1) x121 /\
 (sB (p1 == x121)
 ((∃ x122,rS h120 (aS h103 10) x122 /\
 (∃ x123,rI h120 (aS h110 0) x123 /\
 (∃ x124,rS h120 (aS h103 10) x124 /\
 (∃ x125,rI h120 (aS h110 0) x125 /\
 (NB x124.a fun b126 o127=>(Ib x125 x124.n /\
 (∃ x128,rS h120 ⟨b126,o127+Int.toNat x125*1,none⟩ x128 /\
 (∃ x129,rI h120 (aS h110 (1+1)) x129 /\
 (∃ x130,rI h120 (aS h110 (1+2)) x130 /\
 (∃ x131,rI h120 (aS h110 4) x131 /\
 (Wn h120 [.bool true,vI x129,vI x130,vI x131] 387 fun h132=>
 (Sm [⟨b126,o127+Int.toNat x125*1,none⟩,(aS h110 0),(aS h103 10),(aS h110 0),(aS h103 10)] h120 h132 /\
 (App Pz 385 385 (vS x128) (.slice (some (aS h120 0)) 1 1) h132 fun s133 h134=>
 (Sm [(aS h110 0),(aS h103 10)] h132 h134 /\
 (NB x122.a fun b135 o136=>(Ib x123 x122.n /\
 (Wp h134 ⟨b135,o136+Int.toNat x123*1,none⟩ 1 [vS s133] fun h137=>
 (∃ m138,m138<m108/\I106 (IntKind.wrap .i64 (x_109+1)) h137 m138)))))))))))))))))))
 ((∃ x139,rI h120 (aS h110 (1+1)) x139 /\
 (sB (p1 == x139)
 ((∃ x140,rS h120 (aS h103 10) x140 /\
 (∃ x141,rI h120 (aS h110 0) x141 /\
 (∃ x142,rS h120 (aS h103 10) x142 /\
 (∃ x143,rI h120 (aS h110 0) x143 /\
 (NB x142.a fun b144 o145=>(Ib x143 x142.n /\
 (∃ x146,rS h120 ⟨b144,o145+Int.toNat x143*1,none⟩ x146 /\
 (∃ x147,rI h120 (aS h110 1) x147 /\
 (∃ x148,rI h120 (aS h110 (1+2)) x148 /\
 (∃ x149,rI h120 (aS h110 4) x149 /\
 (Wn h120 [.bool false,vI x147,vI x148,vI x149] 387 fun h150=>
 (Sm [⟨b144,o145+Int.toNat x143*1,none⟩,(aS h110 0),(aS h103 10),(aS h110 0),(aS h103 10)] h120 h150 /\
 (App Pz 385 385 (vS x146) (.slice (some (aS h120 0)) 1 1) h150 fun s151 h152=>
 (Sm [(aS h110 0),(aS h103 10)] h150 h152 /\
 (NB x140.a fun b153 o154=>(Ib x141 x140.n /\
 (Wp h152 ⟨b153,o154+Int.toNat x141*1,none⟩ 1 [vS s151] fun h155=>
 (∃ m156,m156<m108/\I106 (IntKind.wrap .i64 (x_109+1)) h155 m156)))))))))))))))))))
 ((∃ x157,rS h120 (aS h103 9) x157 /\
 (∃ x158,rI h120 (aS h110 0) x158 /\
 (∃ x159,rS h120 (aS h103 9) x159 /\
 (∃ x160,rI h120 (aS h110 0) x160 /\
 (NB x159.a fun b161 o162=>(Ib x160 x159.n /\
 (∃ x163,rS h120 ⟨b161,o162+Int.toNat x160*1,none⟩ x163 /\
 (∃ x164,rI h120 (aS h110 4) x164 /\
 (Wn h120 [vI x164] 3 fun h165=>
 (Sm [⟨b161,o162+Int.toNat x160*1,none⟩,(aS h110 0),(aS h103 9),(aS h110 0),(aS h103 9)] h120 h165 /\
 (App Pz 23 23 (vS x163) (.slice (some (aS h120 0)) 1 1) h165 fun s166 h167=>
 (Sm [(aS h110 0),(aS h103 9)] h165 h167 /\
 (NB x157.a fun b168 o169=>(Ib x158 x157.n /\
 (Wp h167 ⟨b168,o169+Int.toNat x158*1,none⟩ 1 [vS s166] fun h170=>
 (∃ m171,m171<m108/\I106 (IntKind.wrap .i64 (x_109+1)) h170 m171))))))))))))))))))))))))))))
 (R (.tuple ⟨[.pointer (some (aS h103 0)),vI 0]⟩) h110)))))))))))))))))))))))))
theorem vc208 (p0_1:ByteArray) (p0_2 p0_3:Sl) (p0_4 p0_5 p0_6:Int) (p0_7 p0_8:Sl) (p1:Int) (h:Heap) (R:Value->Heap->Prop) (H:W208 p0_1 p0_2 p0_3 p0_4 p0_5 p0_6 p0_7 p0_8 p1 h R):Fn Pz 208 #[.agg ⟨(L2 p0_1 p0_2 p0_3 p0_4 p0_5 p0_6 p0_7 p0_8)⟩,vI p1] h R:=fnI (A:=(.s .z (.s .z (.s .z (.s (.s .z (.b (.l [(36,.one (.int .i64))] .z))) .z))))) (by kernel_rfl) H

def W214 (p0:Addr) (p1:Sl) (h:Heap) (R:Value->Heap->Prop):Prop:=
 (∃ x1,rI h ⟨p0.block,p0.off+3,none⟩ x1 /\
 (Mk x1 x1 1/\Wn h (madeL Pz 4 (Int.toNat x1)) 4 fun h2=>
 (QSI ⟨none,0,0⟩ 0 h2 fun I3 todo_6 x_7 h8 m5=>(
 (sB (decide (x_7<(p1.n:Int)))
 ((NB p1.a fun b9 o10=>(Ib x_7 p1.n /\
 (∃ x11,rI h8 ⟨b9,o10+Int.toNat x_7*1,none⟩ x11 /\
 ((0<=(x11:Int)/\(x11:Int)<((Int.toNat x1):Nat)) /\
 (∃ x12,rB h8 (aS h (0+Int.toNat x11*1)) x12 /\
 (sB (!x12)
 (((0<=(x11:Int)/\(x11:Int)<((Int.toNat x1):Nat)) /\
 (Wp h8 (aS h (0+Int.toNat x11*1)) 1 [.bool true] fun h13=>
 (Wn h13 [vI x11] 3 fun h14=>
 (App Pz 23 23 (vS todo_6) (.slice (some (aS h13 0)) 1 1) h14 fun s15 h16=>
 (∃ m17,m17<m5/\I3 s15 (IntKind.wrap .i64 (x_7+1)) h16 m17))))))
 ((∃ m18,m18<m5/\I3 todo_6 (IntKind.wrap .i64 (x_7+1)) h8 m18)))))))))
 ((QSI todo_6 0 h8 fun I19 todo_22 head_23 h24 m21=>(
 (sB (decide (head_23<(todo_22.n:Int)))
 ((∃ x25,rS h24 ⟨p0.block,p0.off+9,none⟩ x25 /\
 (NB todo_22.a fun b26 o27=>(Ib head_23 todo_22.n /\
 (∃ x28,rI h24 ⟨b26,o27+Int.toNat head_23*1,none⟩ x28 /\
 (NB x25.a fun b29 o30=>(Ib x28 x25.n /\
 (∃ x31,rS h24 ⟨b29,o30+Int.toNat x28*1,none⟩ x31 /\
 (QSI todo_22 0 h24 fun I32 todo_35 x_36 h37 m34=>(
 (sB (decide (x_36<(x31.n:Int)))
 ((NB x31.a fun b38 o39=>(Ib x_36 x31.n /\
 (∃ x40,rI h37 ⟨b38,o39+Int.toNat x_36*1,none⟩ x40 /\
 ((0<=(x40:Int)/\(x40:Int)<((Int.toNat x1):Nat)) /\
 (∃ x41,rB h37 (aS h (0+Int.toNat x40*1)) x41 /\
 (sB (!x41)
 (((0<=(x40:Int)/\(x40:Int)<((Int.toNat x1):Nat)) /\
 (Wp h37 (aS h (0+Int.toNat x40*1)) 1 [.bool true] fun h42=>
 (Wn h42 [vI x40] 3 fun h43=>
 (App Pz 23 23 (vS todo_35) (.slice (some (aS h42 0)) 1 1) h43 fun s44 h45=>
 (∃ m46,m46<m34/\I32 s44 (IntKind.wrap .i64 (x_36+1)) h45 m46))))))
 ((∃ m47,m47<m34/\I32 todo_35 (IntKind.wrap .i64 (x_36+1)) h37 m47)))))))))
 ((∃ m48,m48<m21/\I19 todo_35 (IntKind.wrap .i64 (head_23+1)) h37 m48)))))))))))))
 ((Fn Pz 263 #[vS todo_22] h24
 (fun v49 h51=>∃ x50,iS v49 x50 /\
 R (vS x50) h51))))))))))))
theorem vc214 (p0:Addr) (p1:Sl) (h:Heap) (R:Value->Heap->Prop) (H:W214 p0 p1 h R):Fn Pz 214 #[.pointer (some p0),vS p1] h R:=fnI (A:=(.s .z (.s .z (.s .z (.s (.s .z (.b (.l [(6,.one (.slice)),(20,.one (.int .i64))] .z))) (.s (.s .z (.b (.l [(6,.one (.slice)),(9,.one (.int .i64))] (.s .z (.s (.b (.s .z (.b (.l [(6,.one (.slice)),(54,.one (.int .i64))] .z)))) .z))))) .z)))))) (by kernel_rfl) H

def W216 (p0:Addr) (p1:Sl) (p2_1:Bool) (p2_2 p2_3:Int) (h:Heap) (R:Value->Heap->Prop):Prop:=
 (Wn h (L3 p2_1 p2_2 p2_3) 324 fun h4=>
 (Fn Pz 156 #[vS p1] h4
 (fun v5 h7=>∃ x6,iS v5 x6 /\
 (QSI ⟨none,0,0⟩ 0 h7 fun I8 to_11 x_12 h13 m10=>(
 (sB (decide (x_12<(x6.n:Int)))
 ((NB x6.a fun b14 o15=>(Ib x_12 x6.n /\
 (∃ x16,rI h13 ⟨b14,o15+Int.toNat x_12*1,none⟩ x16 /\
 (∃ x17,rS h13 ⟨p0.block,p0.off+10,none⟩ x17 /\
 (NB x17.a fun b18 o19=>(Ib x16 x17.n /\
 (∃ x20,rS h13 ⟨b18,o19+Int.toNat x16*1,none⟩ x20 /\
 (QSI to_11 0 h13 fun I21 to_24 x_25 h26 m23=>(
 (sB (decide (x_25<(x20.n:Int)))
 ((NB x20.a fun b27 o28=>(Ib x_25 x20.n /\
 (∃ x29 x30 x31 x32,aL12 h26 ⟨b27,o28+Int.toNat x_25*4,none⟩ x29 x30 x31 x32 /\
 (Wn h26 [.bool false,vI 0,vI 0,vI 0] 387 fun h33=>
 (Wp h33 (aS h26 0) 4 (L12 x29 x30 x31 x32) fun h34=>
 (∃ x35 x36 x37,aL3 h34 (aS h26 0) x35 x36 x37 /\
 (∃ x38 x39 x40,aL3 h34 (aS h 0) x38 x39 x40 /\
 (sB ((x35 == x38) && ((x36 == x39) && ((x37 == x40) && true)))
 ((∃ x41,rI h34 (aS h26 3) x41 /\
 (Wn h34 [vI x41] 3 fun h42=>
 (App Pz 23 23 (vS to_24) (.slice (some (aS h34 0)) 1 1) h42 fun s43 h44=>
 (∃ m45,m45<m23/\I21 s43 (IntKind.wrap .i64 (x_25+1)) h44 m45)))))
 ((∃ m46,m46<m23/\I21 to_24 (IntKind.wrap .i64 (x_25+1)) h34 m46)))))))))))
 ((∃ m47,m47<m10/\I8 to_24 (IntKind.wrap .i64 (x_12+1)) h26 m47)))))))))))))
 ((Fn Pz 214 #[.pointer (some p0),vS to_11] h13
 (fun v48 h50=>∃ x49,iS v48 x49 /\
 R (vS x49) h50)))))))))
theorem vc216 (p0:Addr) (p1:Sl) (p2_1:Bool) (p2_2 p2_3:Int) (h:Heap) (R:Value->Heap->Prop) (H:W216 p0 p1 p2_1 p2_2 p2_3 h R):Fn Pz 216 #[.pointer (some p0),vS p1,.agg ⟨(L3 p2_1 p2_2 p2_3)⟩] h R:=fnI (A:=(.s .z (.s .z (.s (.s .z (.b (.l [(7,.one (.slice)),(15,.one (.int .i64))] (.s .z (.s .z (.s (.b (.s .z (.s .z (.b (.l [(7,.one (.slice)),(27,.one (.int .i64))] .z))))) .z)))))) .z)))) (by kernel_rfl) H

def W215 (p0:Addr) (p1:Sl) (h:Heap) (R:Value->Heap->Prop):Prop:=
 (Fn Pz 156 #[vS p1] h
 (fun v1 h3=>∃ x2,iS v1 x2 /\
 (QSI ⟨none,0,0⟩ 0 h3 fun I4 out_7 x_8 h9 m6=>(
 (sB (decide (x_8<(x2.n:Int)))
 ((NB x2.a fun b10 o11=>(Ib x_8 x2.n /\
 (∃ x12,rI h9 ⟨b10,o11+Int.toNat x_8*1,none⟩ x12 /\
 (∃ x13,rS h9 ⟨p0.block,p0.off+10,none⟩ x13 /\
 (NB x13.a fun b14 o15=>(Ib x12 x13.n /\
 (∃ x16,rS h9 ⟨b14,o15+Int.toNat x12*1,none⟩ x16 /\
 (QSI out_7 0 h9 fun I17 out_20 x_21 h22 m19=>(
 (sB (decide (x_21<(x16.n:Int)))
 ((NB x16.a fun b23 o24=>(Ib x_21 x16.n /\
 (∃ x25 x26 x27 x28,aL12 h22 ⟨b23,o24+Int.toNat x_21*4,none⟩ x25 x26 x27 x28 /\
 (Wn h22 [.bool false,vI 0,vI 0,vI 0] 387 fun h29=>
 (Wp h29 (aS h22 0) 4 (L12 x25 x26 x27 x28) fun h30=>
 (∃ x31 x32 x33,aL3 h30 (aS h22 0) x31 x32 x33 /\
 (Wn h30 (L3 x31 x32 x33) 324 fun h34=>
 (App Pz 321 321 (vS out_20) (.slice (some (aS h30 0)) 1 1) h34 fun s35 h36=>
 (∃ m37,m37<m19/\I17 s35 (IntKind.wrap .i64 (x_21+1)) h36 m37))))))))))
 ((∃ m38,m38<m6/\I4 out_20 (IntKind.wrap .i64 (x_8+1)) h22 m38)))))))))))))
 ((Fn Pz 264 #[vS out_7,.func (.func 265) #[] #[]] h9
 (fun v39 h40=>v39=.tuple ⟨[]⟩ /\
 (Fn Pz 266 #[vS out_7] h40
 (fun v41 h43=>∃ x42,iS v41 x42 /\
 R (vS x42) h43))))))))))
theorem vc215 (p0:Addr) (p1:Sl) (h:Heap) (R:Value->Heap->Prop) (H:W215 p0 p1 h R):Fn Pz 215 #[.pointer (some p0),vS p1] h R:=fnI (A:=(.s .z (.s .z (.s (.s .z (.b (.l [(5,.one (.slice)),(13,.one (.int .i64))] (.s .z (.s .z (.s (.b (.s .z (.s .z (.b (.l [(5,.one (.slice)),(25,.one (.int .i64))] .z))))) .z)))))) .z)))) (by kernel_rfl) H

def W265 (p0_1:Bool) (p0_2 p0_3:Int) (p1_4:Bool) (p1_5 p1_6:Int) (h:Heap) (R:Value->Heap->Prop):Prop:=
 (Wn h (L3 p0_1 p0_2 p0_3) 324 fun h7=>
 (Wn h7 (L3 p1_4 p1_5 p1_6) 324 fun h8=>
 (∃ x9,rB h8 (aS h 0) x9 /\
 (∃ x10,rB h8 (aS h7 0) x10 /\
 (sB (!(x9 == x10))
 ((∃ x11,rB h8 (aS h 0) x11 /\
 (sB x11
 (R (vI (-1)) h8)
 (R (vI 1) h8))))
 ((∃ x12,rI h8 (aS h 1) x12 /\
 (∃ x13,rI h8 (aS h7 1) x13 /\
 (∃ x14,rI h8 (aS h 2) x14 /\
 (∃ x15,rI h8 (aS h7 2) x15 /\
 (Fn Pz 120 #[vI x12,vI x13] h8
 (fun v16 h18=>∃ x17,iI v16 x17 /\
 (Sm [(aS h7 2),(aS h 2)] h8 h18 /\
 (Fn Pz 120 #[vI x14,vI x15] h18
 (fun v19 h21=>∃ x20,iI v19 x20 /\
 (Sm [(aS h7 1),(aS h 1)] h18 h21 /\
 (Wn h21 [vI x17,vI x20] 3 fun h22=>
 (Fn Pz 119 #[.slice (some (aS h21 0)) 2 2] h22
 (fun v23 h25=>∃ x24,iI v23 x24 /\
 R (vI x24) h25)))))))))))))))))))
theorem vc265 (p0_1:Bool) (p0_2 p0_3:Int) (p1_4:Bool) (p1_5 p1_6:Int) (h:Heap) (R:Value->Heap->Prop) (H:W265 p0_1 p0_2 p0_3 p1_4 p1_5 p1_6 h R):Fn Pz 265 #[.agg ⟨(L3 p0_1 p0_2 p0_3)⟩,.agg ⟨(L3 p1_4 p1_5 p1_6)⟩] h R:=fnI (A:=.z) (by kernel_rfl) H

def W267 (p0:Addr) (p1:Sl) (h:Heap) (R:Value->Heap->Prop):Prop:=
 (QSI ⟨none,0,0⟩ 0 h fun I1 out_4 x_5 h6 m3=>(
 (sB (decide (x_5<(p1.n:Int)))
 ((NB p1.a fun b7 o8=>(Ib x_5 p1.n /\
 (∃ x9 x10 x11,aL3 h6 ⟨b7,o8+Int.toNat x_5*3,none⟩ x9 x10 x11 /\
 (Wn h6 [.bool false,vI 0,vI 0] 324 fun h12=>
 (Wp h12 (aS h6 0) 3 (L3 x9 x10 x11) fun h13=>
 (∃ x14 x15 x16,aL3 h13 (aS h6 0) x14 x15 x16 /\
 (∃ x17,rI h13 ⟨p0.block,p0.off+8,none⟩ x17 /\
 (Fn Pz 307 #[.agg ⟨(L3 x14 x15 x16)⟩,vI x17] h13
 (fun v18 h24=>∃ (x19:Int) (x20:Bool) (x21 x22:Int) (x23:Sl),v18=.agg ⟨(L10 x19 x20 x21 x22 x23)⟩ /\
 (Wn h24 (L10 x19 x20 x21 x22 x23) 66 fun h25=>
 (App Pz 76 76 (vS out_4) (.slice (some (aS h24 0)) 1 1) h25 fun s26 h27=>
 (∃ m28,m28<m3/\I1 s26 (IntKind.wrap .i64 (x_5+1)) h27 m28)))))))))))))
 (R (vS out_4) h6))))
theorem vc267 (p0:Addr) (p1:Sl) (h:Heap) (R:Value->Heap->Prop) (H:W267 p0 p1 h R):Fn Pz 267 #[.pointer (some p0),vS p1] h R:=fnI (A:=(.s .z (.s .z (.s (.s .z (.b (.l [(5,.one (.slice)),(10,.one (.int .i64))] .z))) .z)))) (by kernel_rfl) H

def W307 (p0_1:Bool) (p0_2 p0_3 p1:Int) (h:Heap) (R:Value->Heap->Prop):Prop:=
 (Wn h (L3 p0_1 p0_2 p0_3) 324 fun h4=>
 (Wn h4 [vI 0,.bool false,vI 0,vI 0,.slice none 0 0] 66 fun h5=>
 (∃ x6,rB h5 (aS h 0) x6 /\
 (∃ x7,rI h5 (aS h 1) x7 /\
 (∃ x8,rI h5 (aS h 2) x8 /\
 (Wp h5 (aS h4 0) 5 [vI p1,.bool x6,vI x7,vI x8,.slice none 0 0] fun h9=>
 (∃ x10 x11 x12 x13 x14,aL10 h9 (aS h4 0) x10 x11 x12 x13 x14 /\
 R (.agg ⟨(L10 x10 x11 x12 x13 x14)⟩) h9)))))))
theorem vc307 (p0_1:Bool) (p0_2 p0_3 p1:Int) (h:Heap) (R:Value->Heap->Prop) (H:W307 p0_1 p0_2 p0_3 p1 h R):Fn Pz 307 #[.agg ⟨(L3 p0_1 p0_2 p0_3)⟩,vI p1] h R:=fnI (A:=.z) (by kernel_rfl) H

def W217 (p0_1:ByteArray) (p0_2 p0_3:Sl) (p0_4 p0_5 p0_6:Int) (p0_7 p0_8:Sl) (p1 p2:Int) (h:Heap) (R:Value->Heap->Prop):Prop:=
 (Wn h (L2 p0_1 p0_2 p0_3 p0_4 p0_5 p0_6 p0_7 p0_8) 92 fun h9=>
 (∃ x10 x11 x12 x13 x14 x15 x16 x17,aL2 h9 (aS h 0) x10 x11 x12 x13 x14 x15 x16 x17 /\
 (Fn Pz 208 #[.agg ⟨(L2 x10 x11 x12 x13 x14 x15 x16 x17)⟩,vI p1] h9
 (fun v18 h21=>∃ x19:Option Addr,∃ x20:Int,v18=.tuple ⟨[.pointer x19,vI x20]⟩ /\
 (sB (x20 != 0)
 (R (.tuple ⟨[.slice none 0 0,.bool false,vI x20]⟩) h21)
 ((sB (decide (p2<0))
 (R (.tuple ⟨[.slice none 0 0,.bool false,vI 2]⟩) h21)
 ((∃ x22,rI h21 (aS h 3) x22 /\
 (sB (decide (p2 >= x22))
 (R (.tuple ⟨[.slice none 0 0,.bool false,vI 2]⟩) h21)
 ((Wn h21 [vI p2] 3 fun h23=>
 (Fn Pz 214 #[.pointer x19,.slice (some (aS h21 0)) 1 1] h23
 (fun v24 h26=>∃ x25,iS v24 x25 /\
 (∃ x27,rI h26 (aS h 5) x27 /\
 (Fn Pz 215 #[.pointer x19,vS x25] h26
 (fun v28 h30=>∃ x29,iS v28 x29 /\
 (Sm [(aS h 5)] h26 h30 /\
 (Fn Pz 267 #[.pointer x19,vS x29] h30
 (fun v31 h33=>∃ x32,iS v31 x32 /\
 (Sm [(aS h 5)] h30 h33 /\
 (Fn Pz 213 #[vS x25,vI x27] h33
 (fun v34 h36=>∃ x35,iB v34 x35 /\
 R (.tuple ⟨[vS x32,.bool x35,vI 0]⟩) h36)))))))))))))))))))))))
theorem vc217 (p0_1:ByteArray) (p0_2 p0_3:Sl) (p0_4 p0_5 p0_6:Int) (p0_7 p0_8:Sl) (p1 p2:Int) (h:Heap) (R:Value->Heap->Prop) (H:W217 p0_1 p0_2 p0_3 p0_4 p0_5 p0_6 p0_7 p0_8 p1 p2 h R):Fn Pz 217 #[.agg ⟨(L2 p0_1 p0_2 p0_3 p0_4 p0_5 p0_6 p0_7 p0_8)⟩,vI p1,vI p2] h R:=fnI (A:=.z) (by kernel_rfl) H

def W210 (p0:Sl) (p1:FuncId) (p1c:Option Addr) (h:Heap) (R:Value->Heap->Prop):Prop:=
 (QI 0 h fun I1 x_4 h5 m3=>(
 (sB (decide (x_4<(p0.n:Int)))
 ((NB p0.a fun b6 o7=>(Ib x_4 p0.n /\
 (∃ x8,rS h5 ⟨b6,o7+Int.toNat x_4*1,none⟩ x8 /\
 (bif callable Pz p1 then Fn Pz p1 #[vS x8,.pointer p1c] h5
 (fun v9 h11=>∃ x10,iB v9 x10 /\
 (sB x10
 (R (vI x_4) h11)
 ((∃ m12,m12<m3/\I1 (IntKind.wrap .i64 (x_4+1)) h11 m12)))) else ExtW Pz p1 #[vS x8,.pointer p1c] h5
 (fun v9 h11=>∃ x10,iB v9 x10 /\
 (sB x10
 (R (vI x_4) h11)
 ((∃ m12,m12<m3/\I1 (IntKind.wrap .i64 (x_4+1)) h11 m12)))))))))
 (R (vI (-1)) h5))))
theorem vc210 (p0:Sl) (p1:FuncId) (p1c:Option Addr) (h:Heap) (R:Value->Heap->Prop) (H:W210 p0 p1 p1c h R):Fn Pz 210 #[vS p0,.func (.func p1) #[] #[.pointer p1c]] h R:=fnI (A:=(.s .z (.s (.s .z (.b (.l [(8,.one (.int .i64))] .z))) .z))) (by kernel_rfl) H

def W211 (p0:Sl) (c0:Addr) (h:Heap) (R:Value->Heap->Prop):Prop:=
 (∃ x1,rS h c0 x1 /\
 (Fn Pz 212 #[vS p0,vS x1] h
 (fun v2 h4=>∃ x3,iB v2 x3 /\
 R (.bool x3) h4)))
theorem vc211 (p0:Sl) (c0:Addr) (h:Heap) (R:Value->Heap->Prop) (H:W211 p0 c0 h R):Fn Pz 211 #[vS p0,.pointer (some c0)] h R:=fnI (A:=.z) (by kernel_rfl) H

def W209 (p0:Sl) (c0:Addr) (c1:Addr) (h:Heap) (R:Value->Heap->Prop):Prop:=
 (Wn h [vS p0] 222 fun h1=>
 (∃ x2,rS h1 c0 x2 /\
 (Fn Pz 210 #[vS x2,.func (.func 211) #[] #[.pointer (some (aS h 0))]] h1
 (fun v3 h5=>∃ x4,iI v3 x4 /\
 (sB (decide (x4 >= 0))
 (R (vI x4) h5)
 ((∃ x6,rS h5 c0 x6 /\
 (∃ x7,rS h5 (aS h 0) x7 /\
 (∃ x8,rS h5 ⟨c0.block,c0.off+1,none⟩ x8 /\
 (∃ x9,rS h5 (aS h 0) x9 /\
 (∃ x10,rI h5 ⟨c1.block,c1.off+5,none⟩ x10 /\
 (Wn h5 [vS x7] 222 fun h11=>
 (Sm [⟨c1.block,c1.off+5,none⟩,(aS h 0),⟨c0.block,c0.off+1,none⟩,c0] h5 h11 /\
 (App Pz 214 214 (vS x6) (.slice (some (aS h5 0)) 1 1) h11 fun s12 h13=>
 (Sm [⟨c1.block,c1.off+5,none⟩,(aS h 0),⟨c0.block,c0.off+1,none⟩] h11 h13 /\
 (Fn Pz 213 #[vS x9,vI x10] h13
 (fun v14 h16=>∃ x15,iB v14 x15 /\
 (Sm [⟨c0.block,c0.off+1,none⟩,(aS h 0),c0] h13 h16 /\
 (Wn h16 [.bool x15] 4 fun h17=>
 (Sm [⟨c0.block,c0.off+1,none⟩,(aS h 0),c0] h16 h17 /\
 (App Pz 51 51 (vS x8) (.slice (some (aS h16 0)) 1 1) h17 fun s18 h19=>
 (Sm [(aS h 0),c0] h17 h19 /\
 (Wp h19 c0 1 [vS s12] fun h20=>
 (Sm [⟨c1.block,c1.off+5,none⟩,(aS h 0)] h19 h20 /\
 (Wp h20 ⟨c0.block,c0.off+1,none⟩ 1 [vS s18] fun h21=>
 (∃ x22,rS h21 c0 x22 /\
 R (vI (IntKind.wrap .i64 ((x22.n:Int) - 1))) h21))))))))))))))))))))))))))
theorem vc209 (p0:Sl) (c0:Addr) (c1:Addr) (h:Heap) (R:Value->Heap->Prop) (H:W209 p0 c0 c1 h R):Fn Pz 209 #[vS p0,.pointer (some c0),.pointer (some c1)] h R:=fnI (A:=.z) (by kernel_rfl) H

def W153 (p0_1:ByteArray) (p0_2 p0_3:Sl) (p0_4 p0_5 p0_6:Int) (p0_7 p0_8:Sl) (p1:Int) (h:Heap) (R:Value->Heap->Prop):Prop:=
 (Wn h (L2 p0_1 p0_2 p0_3 p0_4 p0_5 p0_6 p0_7 p0_8) 92 fun h9=>
 (Wn h9 [.slice none 0 0,.slice none 0 0,.slice none 0 0] 216 fun h10=>
 (∃ x11 x12 x13 x14 x15 x16 x17 x18,aL2 h10 (aS h 0) x11 x12 x13 x14 x15 x16 x17 x18 /\
 (Fn Pz 208 #[.agg ⟨(L2 x11 x12 x13 x14 x15 x16 x17 x18)⟩,vI p1] h10
 (fun v19 h22=>∃ x20:Option Addr,∃ x21:Int,v19=.tuple ⟨[.pointer x20,vI x21]⟩ /\
 (sB (x21 != 0)
 ((Wp h22 (aS h9 0) 3 [.slice none 0 0,.slice none 0 0,.slice none 0 0] fun h23=>
 (∃ x24 x25 x26,aL8 h23 (aS h9 0) x24 x25 x26 /\
 R (.tuple ⟨[.agg ⟨(L8 x24 x25 x26)⟩,vI x21]⟩) h23)))
 ((Wn h22 [.slice none 0 0,.slice none 0 0,.slice none 0 0] 216 fun h27=>
 (∃ x28,rI h27 (aS h 4) x28 /\
 (Wn h27 [vI x28] 3 fun h29=>
 (Fn Pz 214 #[.pointer x20,.slice (some (aS h27 0)) 1 1] h29
 (fun v30 h32=>∃ x31,iS v30 x31 /\
 (Fn Pz 209 #[vS x31,.pointer (some (aS h22 0)),.pointer (some (aS h 0))] h32
 (fun v33 h35=>∃ x34,iI v33 x34 /\
 (QI 0 h35 fun I36 i_39 h40 m38=>(
 (∃ x41,rS h40 (aS h22 0) x41 /\
 (sB (decide (i_39<(x41.n:Int)))
 ((∃ x42,rS h40 (aS h22 0) x42 /\
 (NB x42.a fun b43 o44=>(Ib i_39 x42.n /\
 (∃ x45,rS h40 ⟨b43,o44+Int.toNat i_39*1,none⟩ x45 /\
 (Fn Pz 215 #[.pointer x20,vS x45] h40
 (fun v46 h48=>∃ x47,iS v46 x47 /\
 (QI 0 h48 fun I49 x_52 h53 m51=>(
 (sB (decide (x_52<(x47.n:Int)))
 ((NB x47.a fun b54 o55=>(Ib x_52 x47.n /\
 (∃ x56 x57 x58,aL3 h53 ⟨b54,o55+Int.toNat x_52*3,none⟩ x56 x57 x58 /\
 (Wn h53 [.bool false,vI 0,vI 0] 324 fun h59=>
 (Wp h59 (aS h53 0) 3 (L3 x56 x57 x58) fun h60=>
 (∃ x61,rS h60 (aS h22 0) x61 /\
 (NB x61.a fun b62 o63=>(Ib i_39 x61.n /\
 (∃ x64,rS h60 ⟨b62,o63+Int.toNat i_39*1,none⟩ x64 /\
 (∃ x65 x66 x67,aL3 h60 (aS h53 0) x65 x66 x67 /\
 (Fn Pz 216 #[.pointer x20,vS x64,.agg ⟨(L3 x65 x66 x67)⟩] h60
 (fun v68 h70=>∃ x69,iS v68 x69 /\
 (Fn Pz 209 #[vS x69,.pointer (some (aS h22 0)),.pointer (some (aS h 0))] h70
 (fun v71 h73=>∃ x72,iI v71 x72 /\
 (∃ x74,rS h73 (aS h22 2) x74 /\
 (∃ x75,rB h73 (aS h53 0) x75 /\
 (∃ x76,rI h73 (aS h53 1) x76 /\
 (∃ x77,rI h73 (aS h53 2) x77 /\
 (Wn h73 [vI i_39,.bool x75,vI x76,vI x77,vI x72,.bool false] 108 fun h78=>
 (App Pz 52 52 (vS x74) (.slice (some (aS h73 0)) 1 1) h78 fun s79 h80=>
 (Wp h80 (aS h22 2) 1 [vS s79] fun h81=>
 (∃ m82,m82<m51/\I49 (IntKind.wrap .i64 (x_52+1)) h81 m82)))))))))))))))))))))))
 ((∃ x83,rS h53 (aS h22 0) x83 /\
 (sB (decide ((x83.n:Int) > 200))
 ((Wp h53 (aS h9 0) 3 [.slice none 0 0,.slice none 0 0,.slice none 0 0] fun h84=>
 (∃ x85 x86 x87,aL8 h84 (aS h9 0) x85 x86 x87 /\
 R (.tuple ⟨[.agg ⟨(L8 x85 x86 x87)⟩,vI 6]⟩) h84)))
 ((∃ m88,m88<m38/\I36 (IntKind.wrap .i64 (i_39+1)) h53 m88)))))))))))))))
 ((∃ x89 x90 x91,aL8 h40 (aS h22 0) x89 x90 x91 /\
 (Wp h40 (aS h9 0) 3 (L8 x89 x90 x91) fun h92=>
 (∃ x93 x94 x95,aL8 h92 (aS h9 0) x93 x94 x95 /\
 R (.tuple ⟨[.agg ⟨(L8 x93 x94 x95)⟩,vI 0]⟩) h92))))))))))))))))))))))
theorem vc153 (p0_1:ByteArray) (p0_2 p0_3:Sl) (p0_4 p0_5 p0_6:Int) (p0_7 p0_8:Sl) (p1:Int) (h:Heap) (R:Value->Heap->Prop) (H:W153 p0_1 p0_2 p0_3 p0_4 p0_5 p0_6 p0_7 p0_8 p1 h R):Fn Pz 153 #[.agg ⟨(L2 p0_1 p0_2 p0_3 p0_4 p0_5 p0_6 p0_7 p0_8)⟩,vI p1] h R:=fnI (A:=(.s .z (.s .z (.s .z (.s .z (.s .z (.s .z (.s (.s .z (.b (.l [(10,.one (.int .i64))] (.s .z (.s (.b (.s (.s .z (.b (.l [(47,.one (.int .i64))] .z))) .z)) .z))))) .z)))))))) (by kernel_rfl) H

def W119 (p0:Sl) (h:Heap) (R:Value->Heap->Prop):Prop:=
 (QI 0 h fun I1 x_4 h5 m3=>(
 (sB (decide (x_4<(p0.n:Int)))
 ((NB p0.a fun b6 o7=>(Ib x_4 p0.n /\
 (∃ x8,rI h5 ⟨b6,o7+Int.toNat x_4*1,none⟩ x8 /\
 (sB (x8 != 0)
 (R (vI x8) h5)
 ((∃ m9,m9<m3/\I1 (IntKind.wrap .i64 (x_4+1)) h5 m9)))))))
 (R (vI 0) h5))))
theorem vc119 (p0:Sl) (h:Heap) (R:Value->Heap->Prop) (H:W119 p0 h R):Fn Pz 119 #[vS p0] h R:=fnI (A:=(.s .z (.s .z (.s (.s .z (.b (.l [(8,.one (.int .i64))] .z))) .z)))) (by kernel_rfl) H

def W120 (p0 p1:Int) (h:Heap) (R:Value->Heap->Prop):Prop:=
 (Fn Pz 170 #[vI p0] h
 (fun v1 h3=>∃ x2,iB v1 x2 /\
 (Fn Pz 170 #[vI p1] h3
 (fun v4 h6=>∃ x5,iB v4 x5 /\
 (sB x2
 ((sB x5
 (R (vI 0) h6)
 (R (vI (-1)) h6)))
 ((sB x5
 (R (vI 1) h6)
 ((sB (decide (p0<p1))
 (R (vI (-1)) h6)
 ((sB (decide (p0 > p1))
 (R (vI 1) h6)
 (R (vI 0) h6))))))))))))
theorem vc120 (p0 p1:Int) (h:Heap) (R:Value->Heap->Prop) (H:W120 p0 p1 h R):Fn Pz 120 #[vI p0,vI p1] h R:=fnI (A:=.z) (by kernel_rfl) H

def W170 (p0:Int) (h:Heap) (R:Value->Heap->Prop):Prop:=
 R (.bool (p0 != p0)) h
theorem vc170 (p0:Int) (h:Heap) (R:Value->Heap->Prop) (H:W170 p0 h R):Fn Pz 170 #[vI p0] h R:=fnI (A:=.z) (by kernel_rfl) H

end Go.VC
end

section
namespace Go.VC
open Go.Proofs

def W262 (p0:Sl) (p1:Int) (h:Heap) (R:Value->Heap->Prop):Prop:=
 (sB (decide (p1<(imin (p0.n:Int) 64)))
 ((NB p0.a fun b1 o2=>(Ib p1 p0.n /\
 (∃ x3:Int,hc h ⟨b1,o2+Int.toNat p1*1,none⟩=some (.int .u64 x3) /\
 R (.int .u64 x3) h))))
 (R (.int .u64 0) h))
theorem vc262 (p0:Sl) (p1:Int) (h:Heap) (R:Value->Heap->Prop) (H:W262 p0 p1 h R):Fn Pz 262 #[vS p0,vI p1] h R:=fnI (A:=.z) (by kernel_rfl) H

def W213 (p0:Sl) (p1:Int) (h:Heap) (R:Value->Heap->Prop):Prop:=
 (sB (decide (p1 >= 0))
 ((sB (decide (p1<4096))
 (((64:Int) ≠ 0/\(Fn Pz 262 #[vS p0,vI (IntKind.wrap .i64 (Int.tdiv p1 64))] h
 (fun v1 h3=>∃ x2:Int,v1=.int .u64 x2 /\
 ((64:Int) ≠ 0/\(0<=(Int.tmod p1 64)/\R (.bool ((andI .u64 (shrI .u64 x2 (Int.tmod p1 64)) 1) == 1)) h3))))))
 (R (.bool false) h)))
 (R (.bool false) h))
theorem vc213 (p0:Sl) (p1:Int) (h:Heap) (R:Value->Heap->Prop) (H:W213 p0 p1 h R):Fn Pz 213 #[vS p0,vI p1] h R:=fnI (A:=.z) (by kernel_rfl) H

def W304 (p0:Int) (p1:FuncId) (p1c:Option Addr) (h:Heap) (R:Value->Heap->Prop):Prop:=
 (((0:Int)<=(imin p0 64)/\((imin p0 64):Int)<=(imin p0 64)/\((8:Nat):Int)*(imin p0 64)<=140737488355328)/\Wn h (madeL Pz 159 (Int.toNat (imin p0 64))) 159 fun h1=>
 (QI 0 h1 fun I2 x_5 h6 m4=>(
 (sB (decide (x_5<((Int.toNat (imin p0 64)):Int)))
 ((bif callable Pz p1 then Fn Pz p1 #[vI x_5,.pointer p1c] h6
 (fun v7 h9=>∃ x8:Int,v7=.int .u64 x8 /\
 ((0<=(x_5:Int)/\(x_5:Int)<((Int.toNat (imin p0 64)):Nat)) /\
 (Wp h9 (aS h (0+Int.toNat x_5*1)) 1 [.int .u64 x8] fun h10=>
 (∃ m11,m11<m4/\I2 (IntKind.wrap .i64 (x_5+1)) h10 m11)))) else ExtW Pz p1 #[vI x_5,.pointer p1c] h6
 (fun v7 h9=>∃ x8:Int,v7=.int .u64 x8 /\
 ((0<=(x_5:Int)/\(x_5:Int)<((Int.toNat (imin p0 64)):Nat)) /\
 (Wp h9 (aS h (0+Int.toNat x_5*1)) 1 [.int .u64 x8] fun h10=>
 (∃ m11,m11<m4/\I2 (IntKind.wrap .i64 (x_5+1)) h10 m11))))))
 ((QI (imin p0 64) h6 fun I12 n_15 h16 m14=>(
 (sB (decide (n_15 > 0))
 (((0<=((IntKind.wrap .i64 (n_15 - 1)):Int)/\((IntKind.wrap .i64 (n_15 - 1)):Int)<((Int.toNat (imin p0 64)):Nat)) /\
 (∃ x17:Int,hc h16 (aS h (0+Int.toNat (IntKind.wrap .i64 (n_15 - 1))*1))=some (.int .u64 x17) /\
 (sB (x17 == 0)
 ((∃ m18,m18<m14/\I12 (IntKind.wrap .i64 (n_15 - 1)) h16 m18))
 ((((0:Int)<=(0:Int)/\(0:Int)<=(n_15:Int)/\(n_15:Int)<=(n_15:Int)/\(n_15:Int)<=((Int.toNat (imin p0 64)):Nat)) /\
 R (.slice (subA (some (aS h 0)) (Int.toNat 0) (Int.toNat n_15) 1) (Int.toNat n_15 - Int.toNat 0) (Int.toNat n_15 - Int.toNat 0)) h16))))))
 ((((0:Int)<=(0:Int)/\(0:Int)<=(n_15:Int)/\(n_15:Int)<=(n_15:Int)/\(n_15:Int)<=((Int.toNat (imin p0 64)):Nat)) /\
 R (.slice (subA (some (aS h 0)) (Int.toNat 0) (Int.toNat n_15) 1) (Int.toNat n_15 - Int.toNat 0) (Int.toNat n_15 - Int.toNat 0)) h16))))))))))
theorem vc304 (p0:Int) (p1:FuncId) (p1c:Option Addr) (h:Heap) (R:Value->Heap->Prop) (H:W304 p0 p1 p1c h R):Fn Pz 304 #[vI p0,.func (.func p1) #[] #[.pointer p1c]] h R:=fnI (A:=(.s .z (.s .z (.s .z (.s (.s .z (.b (.l [(13,.one (.int .i64))] .z))) (.s (.b (.l [(0,.one (.int .i64))] .z)) .z)))))) (by kernel_rfl) H

def W305 (p0:Int) (c0b:Nat) (c0o:Nat) (h:Heap) (R:Value->Heap->Prop):Prop:=
 (Ib p0 64 /\
 (∃ x1:Int,hc h ⟨c0b,c0o+Int.toNat p0*1,none⟩=some (.int .u64 x1) /\
 R (.int .u64 x1) h))
theorem vc305 (p0:Int) (c0b:Nat) (c0o:Nat) (h:Heap) (R:Value->Heap->Prop) (H:W305 p0 c0b c0o h R):Fn Pz 305 #[vI p0,.pointer (some ⟨c0b,c0o,none⟩)] h R:=fnI (A:=.z) (by kernel_rfl) H

def W263 (p0:Sl) (h:Heap) (R:Value->Heap->Prop):Prop:=
 (Wn h [.int .u64 0,.int .u64 0,.int .u64 0,.int .u64 0,.int .u64 0,.int .u64 0,.int .u64 0,.int .u64 0,.int .u64 0,.int .u64 0,.int .u64 0,.int .u64 0,.int .u64 0,.int .u64 0,.int .u64 0,.int .u64 0,.int .u64 0,.int .u64 0,.int .u64 0,.int .u64 0,.int .u64 0,.int .u64 0,.int .u64 0,.int .u64 0,.int .u64 0,.int .u64 0,.int .u64 0,.int .u64 0,.int .u64 0,.int .u64 0,.int .u64 0,.int .u64 0,.int .u64 0,.int .u64 0,.int .u64 0,.int .u64 0,.int .u64 0,.int .u64 0,.int .u64 0,.int .u64 0,.int .u64 0,.int .u64 0,.int .u64 0,.int .u64 0,.int .u64 0,.int .u64 0,.int .u64 0,.int .u64 0,.int .u64 0,.int .u64 0,.int .u64 0,.int .u64 0,.int .u64 0,.int .u64 0,.int .u64 0,.int .u64 0,.int .u64 0,.int .u64 0,.int .u64 0,.int .u64 0,.int .u64 0,.int .u64 0,.int .u64 0,.int .u64 0] 428 fun h1=>
 (QI 0 h1 fun I2 x_5 h6 m4=>(
 (sB (decide (x_5<(p0.n:Int)))
 ((NB p0.a fun b7 o8=>(Ib x_5 p0.n /\
 (∃ x9,rI h6 ⟨b7,o8+Int.toNat x_5*1,none⟩ x9 /\
 (sB (decide (x9 >= 0))
 ((sB (decide (x9<4096))
 (((64:Int) ≠ 0/\((0<=((IntKind.wrap .i64 (Int.tdiv x9 64)):Int)/\((IntKind.wrap .i64 (Int.tdiv x9 64)):Int)<(64:Nat)) /\
 (∃ x10:Int,hc h6 (aS h (0+Int.toNat (IntKind.wrap .i64 (Int.tdiv x9 64))*1))=some (.int .u64 x10) /\
 ((64:Int) ≠ 0/\(0<=(Int.tmod x9 64)/\((0<=((IntKind.wrap .i64 (Int.tdiv x9 64)):Int)/\((IntKind.wrap .i64 (Int.tdiv x9 64)):Int)<(64:Nat)) /\
 (Wp h6 (aS h (0+Int.toNat (IntKind.wrap .i64 (Int.tdiv x9 64))*1)) 1 [.int .u64 (orI .u64 x10 (shlI .u64 1 (Int.tmod x9 64)))] fun h11=>
 (∃ m12,m12<m4/\I2 (IntKind.wrap .i64 (x_5+1)) h11 m12)))))))))
 ((∃ m13,m13<m4/\I2 (IntKind.wrap .i64 (x_5+1)) h6 m13))))
 ((∃ m14,m14<m4/\I2 (IntKind.wrap .i64 (x_5+1)) h6 m14)))))))
 ((Fn Pz 304 #[vI 64,.func (.func 305) #[] #[.pointer (some (aS h 0))]] h6
 (fun v15 h17=>∃ x16,iS v15 x16 /\
 R (vS x16) h17)))))))
theorem vc263 (p0:Sl) (h:Heap) (R:Value->Heap->Prop) (H:W263 p0 h R):Fn Pz 263 #[vS p0] h R:=fnI (A:=(.s .z (.s .z (.s (.s .z (.b (.l [(8,.one (.int .i64))] .z))) .z)))) (by kernel_rfl) H

def W261 (p0 p1:Sl) (h:Heap) (R:Value->Heap->Prop):Prop:=
 (QI 0 h fun I1 x_4 h5 m3=>(
 (sB (decide (x_4<(imin (p0.n:Int) 64)))
 ((NB p0.a fun b6 o7=>(Ib x_4 p0.n /\
 (∃ x8:Int,hc h5 ⟨b6,o7+Int.toNat x_4*1,none⟩=some (.int .u64 x8) /\
 (Fn Pz 262 #[vS p1,vI x_4] h5
 (fun v9 h11=>∃ x10:Int,v9=.int .u64 x10 /\
 (Sm [⟨b6,o7+Int.toNat x_4*1,none⟩] h5 h11 /\
 (sB ((clrI .u64 x8 x10) != 0)
 (R (.bool false) h11)
 ((∃ m12,m12<m3/\I1 (IntKind.wrap .i64 (x_4+1)) h11 m12))))))))))
 (R (.bool true) h5))))
theorem vc261 (p0 p1:Sl) (h:Heap) (R:Value->Heap->Prop) (H:W261 p0 p1 h R):Fn Pz 261 #[vS p0,vS p1] h R:=fnI (A:=(.s .z (.s (.s .z (.b (.l [(9,.one (.int .i64))] .z))) .z))) (by kernel_rfl) H

def W212 (p0 p1:Sl) (h:Heap) (R:Value->Heap->Prop):Prop:=
 (Fn Pz 261 #[vS p0,vS p1] h
 (fun v1 h3=>∃ x2,iB v1 x2 /\
 (sB x2
 ((Fn Pz 261 #[vS p1,vS p0] h3
 (fun v4 h6=>∃ x5,iB v4 x5 /\
 R (.bool x5) h6)))
 (R (.bool false) h3))))
theorem vc212 (p0 p1:Sl) (h:Heap) (R:Value->Heap->Prop) (H:W212 p0 p1 h R):Fn Pz 212 #[vS p0,vS p1] h R:=fnI (A:=.z) (by kernel_rfl) H

end Go.VC
end

section
/- Contracts: sets. -/
namespace Go.VC
open Go.Proofs Go.LexS

theorem word58 (ws:List Nat) (s:Sl) (i:Nat) (h:Heap) (hr:Rw h 1 s (ws.map wC)) (hl:ws.length<=64) :
  Fn Pz 262 #[.slice s.a s.n s.c,.int .i64 i] h fun v h'=>v=.int .u64 ((ws.getD i 0:Nat):Int)/\h'=h:=by
 apply vc262; unfold W262
 have hn:=hr.ln
 rw [imin_min]
 refine sBi (fun c1=>?_) (fun c1=>?_)
 ·
  refine hr.nbI (by omega) (by omega) fun b1 o2 d1 g1 t1=>?_
  refine ⟨_,t1.hd,?_,rfl⟩
  rw [Yo,show ws[i]?=some d1 from g1]; rfl
 ·
  refine ⟨?_,rfl⟩
  rw [Yo,Yl (by omega)]; rfl
theorem has29 (p:Nat->Bool) (s:Sl) (n:Int) (h:Heap) (hr:SetV h s p) :
  Fn Pz 213 #[.slice s.a s.n s.c,.int .i64 n] h fun v h'=>v=.bool (decide (0<=n/\n<4096) && p n.toNat)/\h'=h:=by
 apply vc213; unfold W213
 obtain ⟨ws,h1,h2,h3,h4⟩:=hr.ex
 refine sBi (fun c1=>?_) (fun c1=>?_)
 ·
  refine sBi (fun c2=>?_) (fun c2=>?_)
  ·
   obtain ⟨m,rfl⟩:=Int.eq_ofNat_of_zero_le c1
   refine ⟨by omega,?_⟩
   have e1:IntKind.wrap .i64 (Int.tdiv (m:Int) 64)=((m / 64:Nat):Int):=by
    have:Int.tdiv (m:Int) 64=((m / 64:Nat):Int):=rfl
    rw [this]; exact w64 (by omega) (by omega)
   rw [e1]
   refine (word58 ws s (m / 64) h h1 h2).mono ?_
   rintro _ h5 ⟨rfl,rfl⟩
   have e2:Int.tmod (m:Int) 64=((m % 64:Nat):Int):=rfl
   refine ⟨_,rfl,by omega,by rw [e2]; omega,?_,rfl⟩
   rw [e2,bit_has (by
    rw [Yo]
    cases hw:ws[m / 64]? with
    | none=>exact Nat.two_pow_pos 64
    | some w=>exact h3 w (Yb hw)) (by omega)]
   rw [decide_eq_true (by omega),Bool.true_and]
   have:=h4 m
   unfold memB at this
   rw [show ((m:Int)).toNat=m from rfl,<- this]
  ·
   exact ⟨by rw [decide_eq_false (by omega)]; rfl,rfl⟩
 ·
  exact ⟨by rw [decide_eq_false (by omega)]; rfl,rfl⟩
theorem sub136 (p q:Nat->Bool) (a b:Sl) (h:Heap) (ha:SetV h a p) (hb:SetV h b q) :
  Fn Pz 261 #[.slice a.a a.n a.c,.slice b.a b.n b.c] h fun v h'=>(∃ r:Bool,v=.bool r/\(r=true ↔ ∀ k,p k=true->q k=true))/\h'=h:=by
 apply vc261; unfold W261
 obtain ⟨ws,h1,h2,h3,h4⟩:=ha.ex
 obtain ⟨us,g1,g2,g3,g4⟩:=hb.ex
 have hn:=h1.ln
 have hlt:∀ (l:List Nat),(∀ w ∈ l,w<2 ^ 64)->∀ i,l.getD i 0<2 ^ 64:=fun l hl i=>by
  rw [Yo]
  cases hw:l[i]? with
  | none=>exact Nat.two_pow_pos 64
  | some w=>exact hl w (Yb hw)
 rw [imin_min,show min (a.n:Int) 64=(a.n:Int) by omega]
 refine up_loop (n:=a.n) (fun i h'=>h'=h/\∀ j,j<i->∀ k,k<64->(ws.getD j 0).testBit k=true->(us.getD j 0).testBit k=true) ⟨rfl,fun j hj=>by omega⟩ ?_
 rintro - i h5 hi ⟨rfl,hq⟩
 refine sB_intro (fun l=>?_) (fun l=>?_)
 ·
  replace l:=lt_t l
  refine h1.nbI (by omega) (by omega) fun b6 o7 d6 g6 t6=>?_
  replace g6:ws[i]?=some d6:=g6
  have hd:d6=ws.getD i 0:=by rw [Yo,g6]; rfl
  refine ⟨_,t6.hd,?_⟩
  refine (word58 us b i h5 g1 g2).mono ?_
  rintro _ h11 ⟨rfl,rfl⟩
  refine ⟨_,rfl,fun _ _ _ _ hv=>hv,?_⟩
  have hz:=clr_zero (a:=d6) (b:=us.getD i 0) (h3 _ (Yb g6)) (hlt us g3 i)
  refine sBn (fun c2=>?_) (fun c2=>?_)
  ·
   refine ⟨⟨_,rfl,⟨fun e=>(by cases e),fun hall=>absurd (hz.2 fun k hk hb=>?_) c2⟩⟩,rfl⟩
   have:=hall (64*i+k)
   rw [<- h4,<- g4] at this
   unfold memB at this
   rw [show (64*i+k) / 64=i by omega,show (64*i+k) % 64=k by omega] at this
   exact this (by rw [<- hd]; exact hb)
  ·
   refine Up.next l (by omega) ⟨rfl,fun j hj k hk hb=>?_⟩
   by_cases e:j=i
   ·
    subst e; rw [<- hd] at hb; exact hz.1 c2 k hk hb
   ·
    exact hq j (by omega) k hk hb
 ·
  replace l:=lt_f l
  refine ⟨⟨_,rfl,⟨fun _ k hk=>?_,fun _=>rfl⟩⟩,rfl⟩
  rw [<- h4] at hk
  rw [<- g4]
  unfold memB at hk ⊢
  by_cases hkl:k / 64<i
  ·
   exact hq _ hkl _ (by omega) hk
  ·
   rw [Yo,Yl (by omega)] at hk
   simp at hk
theorem equal86 (p q:Nat->Bool) (a b:Sl) (h:Heap) (ha:SetV h a p) (hb:SetV h b q) :
  Fn Pz 212 #[.slice a.a a.n a.c,.slice b.a b.n b.c] h fun v h'=>(∃ r:Bool,v=.bool r/\(r=true ↔ p=q))/\h'=h:=by
 apply vc212; unfold W212
 refine (sub136 p q a b h ha hb).mono ?_
 rintro _ h3 ⟨⟨r,rfl,hr⟩,rfl⟩
 refine ⟨_,rfl,sB_intro (fun c=>?_) (fun c=>?_)⟩
 ·
  refine (sub136 q p b a h3 hb ha).mono ?_
  rintro _ h6 ⟨⟨r2,rfl,hr2⟩,rfl⟩
  refine ⟨_,rfl,⟨_,rfl,⟨fun h=>?_,fun h=>?_⟩⟩,rfl⟩
  ·
   funext k
   have h1:=hr.1 c k
   have h2:=hr2.1 h k
   cases hp:p k <;> cases hq:q k <;> simp_all
  ·
   rw [hr2]; intro k hk; rw [h]; exact hk
 ·
  refine ⟨⟨_,rfl,⟨fun h=>(by cases h),fun h=>?_⟩⟩,rfl⟩
  rw [<- c,hr]
  intro k hk; rw [<- h]; exact hk
theorem cal101:callable Pz 305=true:=by kernel_rfl
theorem made121 (n:Nat):madeL Pz 159 n=((List.replicate n 0).map wC).flatten:=by
 have e:zeroC Pz 159=[.int .u64 0]:=by kernel_rfl
 unfold madeL
 rw [e,List.map_replicate]; rfl
theorem wrows (L:List Nat):∀ r ∈ L.map wC,r.length=1:=fun r hr=>by obtain ⟨x,_,rfl⟩:=Yp.1 hr; rfl
theorem wflat (ws:List Nat) (i:Nat):((ws.map wC).flatten)[i]?=(ws[i]?).map fun w=>.int .u64 (w:Int):=by
 by_cases h:i<ws.length
 ·
  have:=getElem?_flatten (k:=1) (ws.map wC) i 0 (wC ws[i]) (wrows ws) (by rw [Yd,Yi h]; rfl) (by omega)
  rw [Nat.mul_one,Nat.add_zero] at this
  rw [this,Yi h]; rfl
 ·
  have hl:((ws.map wC).flatten).length=ws.length:=by rw [flatten_len _ (wrows ws),Yc,Nat.mul_one]
  rw [Yl (by omega),Yl (by omega)]; rfl
theorem wsplice {ws:List Nat} {i:Nat} (hi:i<ws.length) (w:Nat):splice ((ws.map wC).flatten) (i*1) [.int .u64 (w:Int)]=((ws.set i w).map wC).flatten:=by
 have:=splice_flat (n:=1) (j:=0) (vs:=[.int .u64 (w:Int)]) (row:=wC ws[i]) (ws.map wC) i (wrows ws) (by rw [Yd,Yi hi]; rfl) (by simp)
 rw [Nat.add_zero] at this
 rw [this,List.map_set]; rfl
structure SI (ws:List Nat) (k:Nat) (p:Nat->Bool):Prop where
 pl:ws.length<=64
 pk:k<=ws.length
 pw:∀ w ∈ ws,w<2 ^ 64
 pz:∀ (i w:Nat),k<=i->ws[i]?=some w->w=0
 pm:∀ j,memB ws j=p j
def setB (b:Nat) (ws:List Nat):It:=.blk b (ws.map wC).flatten 159
theorem SI.v {ws:List Nat} {k:Nat} {p:Nat->Bool} (hS:SI ws k p) {h:Heap} {b:Nat} (ho:Own h b (ws.map wC).flatten 159) (c:Nat):SetV h ⟨some ⟨b,0,none⟩,k,c⟩ p:=by
 refine ⟨ws.take k,⟨by rw [Yc,Yu]; have:=hS.pk; simp only; omega,fun _=>⟨b,0,rfl,fun i row hi j v hj=>?_⟩⟩,by rw [Yu]; have:=hS.pl; omega,fun w hw=>hS.pw w (List.mem_of_mem_take hw),fun j=>by rw [memB_take hS.pz]; exact hS.pm j⟩
 rw [Yd] at hi
 obtain ⟨w,hw,rfl⟩:=Yya.1 hi
 have hj0:j=0:=by have:=(Ya.1 hj).1; simpa [wC] using this
 subst hj0
 have hv:v=.int .u64 (w:Int):=by simpa [wC] using hj.symm
 subst hv
 rw [addk_at,Own.hc ho,wflat]
 rw [Yyf] at hw
 split at hw
 ·
  rw [show 0+i*1+0=i by omega,hw]; rfl
 ·
  cases hw
theorem build100 (ws:List Nat) (p:Nat->Bool) (b:Nat) (h:Heap) (hl:ws.length=64) (hw:∀ w ∈ ws,w<2 ^ 64) (hm:∀ j,memB ws j=p j) (hb:∀ (i w:Nat),ws[i]?=some w->hc h ⟨b,i,none⟩=some (.int .u64 (w:Int))) :
  Fn Pz 304 #[.int .i64 64,.func (.func 305) #[] #[.pointer (some ⟨b,0,none⟩)]] h fun v h'=>Ext h h'/\∃ (k:Nat),v=.slice (some ⟨h.size,0,none⟩) k k/\Own h' h.size (ws.map wC).flatten 159/\SI ws k p:=by
 apply vc304; unfold W304
 have hs:=St.refl h
 rw [show imin (64:Int) 64=64 from rfl,show Int.toNat 64=64 from rfl,made121]
 refine ⟨by decide,?_⟩
 refine hs.newb fun h1 hs=>?_
 refine up_loop (n:=64) (fun i h'=>∃ us:List Nat,us.length=64/\us.take i=ws.take i/\St h h' [.blk h.size (us.map wC).flatten 159]) ⟨List.replicate 64 0,by rw [Yg],rfl,hs⟩ ?_
 rintro - i h6 hi ⟨us,hul,hut,hs⟩
 refine sB_intro (fun l=>?_) (fun l=>?_)
 ·
  replace l:=lt_t l
  rw [cal101,cond_true]
  obtain ⟨w,hw1⟩:=get_some (l:=ws) (i:=i) (by omega)
  have hfn:Fn Pz 305 #[.int .i64 (i:Int),.pointer (some ⟨b,0,none⟩)] h6 fun v h'=>v=.int .u64 (w:Int)/\h'=h6:=by
   apply vc305 (i:Int) b 0; unfold W305
   refine ⟨by omega,_,?_,rfl,rfl⟩
   have:=hc_ext hs.ext (hb i w hw1)
   rw [show (0+Int.toNat (i:Int)*1)=i by simp]; exact this
  refine hfn.mono ?_
  rintro _ h9 ⟨rfl,rfl⟩
  refine ⟨_,rfl,by omega,?_⟩
  rw [show (0+Int.toNat (i:Int)*1)=i*1 by simp]
  refine hs.put 0 rfl (o:=i*1) (vs:=[.int .u64 (w:Int)]) rfl (by rw [flatten_len _ (wrows us),Yc,Yv]; omega) fun h10 hs=>?_
  refine Up.next l (by omega) ⟨us.set i w,by rw [Yyh]; exact hul,?_,?_⟩
  ·
   rw [take_snoc hw1,<- hut,take_snoc (x:=w) (by rw [Yq (by omega)]),List.take_set_of_le (Yyt _)]
  ·
   rw [<- wsplice (by omega)]; exact hs
 ·
  replace l:=lt_f l
  have hi64:i=64:=by omega
  subst hi64
  rw [Yj (by omega),Yj (by omega)] at hut
  subst hut
  refine ⟨fun n h' m=>∃ k:Nat,n=k/\m=k/\k<=64/\h'=h6/\∀ i w,k<=i->us[i]?=some w->w=0,⟨_,64,rfl,rfl,by omega,rfl,fun i w hi hw=>by have:=(Ya.1 hw).1; omega⟩,?_⟩
  rintro - _ h16 m ⟨k,rfl,rfl,hk,rfl,hz⟩
  have hfin:∀ v:Value,v=.slice (subA (some ⟨h.size,0,none⟩) (Int.toNat 0) (Int.toNat (m:Int)) 1) (Int.toNat (m:Int) - Int.toNat 0) (Int.toNat (m:Int) - Int.toNat 0) ->
    Ext h h16/\∃ (k:Nat),v=.slice (some ⟨h.size,0,none⟩) k k/\Own h16 h.size (us.map wC).flatten 159/\SI us k p:=by
   rintro v rfl
   refine ⟨hs.ext,m,?_,hs.get (k:=0) rfl,⟨by omega,by omega,hw,hz,hm⟩⟩
   rw [show subA (some (⟨h.size,0,none⟩:Addr)) (Int.toNat 0) (Int.toNat (m:Int)) 1=some ⟨h.size,0,none⟩ from subA_zero _ _ _]; rfl
  refine sBi (fun c1=>?_) (fun c1=>?_)
  ·
   have hk1:IntKind.wrap .i64 ((m:Int) - 1)=((m - 1:Nat):Int):=by rw [w64 (by omega) (by omega)]; omega
   rw [hk1]
   obtain ⟨w,hw2⟩:=get_some (l:=us) (i:=m - 1) (by omega)
   refine ⟨by omega,_,hs.rd 0 rfl (by rw [show (0+Int.toNat ((m - 1:Nat):Int)*1)=m - 1 by simp,wflat,hw2]; rfl),?_⟩
   refine sBe (fun c2=>?_) (fun c2=>?_)
   ·
    refine ⟨_,by omega,m - 1,rfl,rfl,by omega,rfl,fun i w' hi hw'=>?_⟩
    by_cases e:i=m - 1
    ·
     subst e; rw [hw2] at hw'; cases hw'; omega
    ·
     exact hz i w' (by omega) hw'
   ·
    exact ⟨by omega,hfin _ rfl⟩
  ·
   exact ⟨by omega,hfin _ rfl⟩
theorem make55 (l:List Int) (s:Sl) (h:Heap) (hr:Rw h 1 s (l.map inC)) (hm:l.length<=1048576) :
  Fn Pz 263 #[.slice s.a s.n s.c] h fun v h'=>Ext h h'/\∃ (b k:Nat) (ws:List Nat),v=.slice (some ⟨b,0,none⟩) k k/\h.size<=b/\Own h' b (ws.map wC).flatten 159/\SI ws k fun j=>decide (((j:Nat):Int) ∈ l/\j<4096):=by
 apply vc263; unfold W263
 have hn:=hr.ln
 have hs:=St.refl h
 refine hs.newb fun h1 hs=>?_
 refine up_loop (n:=s.n) (fun i h'=>∃ ws:List Nat,ws.length=64/\(∀ w ∈ ws,w<2 ^ 64)/\(∀ j,memB ws j=decide (((j:Nat):Int) ∈ l.take i/\j<4096))/\St h h' [.blk h.size (ws.map wC).flatten 428]) ⟨List.replicate 64 0,by rw [Yg],fun w hw=>by rw [List.eq_of_mem_replicate hw]; decide,fun j=>by rw [memB_zero,Yyk]; exact (decide_eq_false (fun h=>by cases h.1)).symm,hs⟩ ?_
 rintro - i h6 hi ⟨ws,hwl,hw,hmem,hs⟩
 refine sB_intro (fun l2=>?_) (fun l2=>?_)
 ·
  replace l2:=lt_t l2
  refine (hr.ext hs.ext).nbI (by omega) (by omega) fun b7 o8 d7 g7 t7=>?_
  replace g7:l[i]?=some d7:=g7
  refine ⟨_,t7.hd,?_⟩
  have skip:¬ (0<=d7/\d7<4096)->∃ m,m<s.n - i/\Up s.n (fun i h'=>∃ ws:List Nat,ws.length=64/\(∀ w ∈ ws,w<2 ^ 64)/\(∀ j,memB ws j=decide (((j:Nat):Int) ∈ l.take i/\j<4096))/\St h h' [.blk h.size (ws.map wC).flatten 428]) (IntKind.wrap .i64 ((i:Int)+1)) h6 m:=fun hno=>
   Up.next l2 (by omega) ⟨ws,hwl,hw,fun j=>by
    rw [hmem j,take_snoc g7]
    have:(j:Int) ∈ List.take i l/\j<4096 ↔ (j:Int) ∈ List.take i l++[d7]/\j<4096:=by
     rw [Yk,Ye]
     constructor
     ·
      rintro ⟨h1,h2⟩; exact ⟨.inl h1,h2⟩
     ·
      rintro ⟨h1 | h1,h2⟩
      ·
       exact ⟨h1,h2⟩
      ·
       omega
    exact decide_eq_decide.2 this,hs⟩
  refine sBi (fun c1=>?_) (fun c1=>?_)
  ·
   refine sBi (fun c2=>?_) (fun c2=>?_)
   ·
    obtain ⟨n,rfl⟩:=Int.eq_ofNat_of_zero_le c1
    have e1:IntKind.wrap .i64 (Int.tdiv (n:Int) 64)=((n / 64:Nat):Int):=by
     have:Int.tdiv (n:Int) 64=((n / 64:Nat):Int):=rfl
     rw [this]; exact w64 (by omega) (by omega)
    have e2:Int.tmod (n:Int) 64=((n % 64:Nat):Int):=rfl
    have e3:(0+Int.toNat ((n / 64:Nat):Int)*1)=n / 64*1:=Nat.zero_add _
    rw [e1,e2,e3]
    have hnl:n / 64<ws.length:=by omega
    have hg:ws[n / 64]?=some (ws.getD (n / 64) 0):=by rw [Yo,Yi hnl]; rfl
    have hlt:=hw _ (Yb hg)
    refine ⟨by omega,by omega,_,hs.rd 0 rfl (by rw [Nat.mul_one,wflat,hg]; rfl),by omega,by omega,by omega,?_⟩
    have h2k:2 ^ (n % 64)<2 ^ 64:=Nat.pow_lt_pow_right (by omega) (by omega)
    rw [shl_one (by omega),or_nat hlt h2k]
    refine hs.put 0 rfl (o:=n / 64*1) (vs:=[.int .u64 ((ws.getD (n / 64) 0 ||| 2 ^ (n % 64):Nat):Int)]) rfl (by rw [flatten_len _ (wrows ws),Yc,Yv]; omega) fun h11 hs=>?_
    refine Up.next l2 (by omega) ⟨ws.set (n / 64) (ws.getD (n / 64) 0 ||| 2 ^ (n % 64)),by rw [Yyh]; exact hwl,fun w hw'=>?_,fun j=>?_,?_⟩
    ·
     rcases List.mem_or_eq_of_mem_set hw' with hw' | rfl
     ·
      exact hw w hw'
     ·
      exact Nat.or_lt_two_pow hlt h2k
    ·
     rw [memB_set hnl,hmem j,take_snoc g7,<- Bool.decide_or]
     refine decide_eq_decide.2 ?_
     rw [Yk,Ye]
     constructor
     ·
      rintro (rfl | ⟨h1,h2⟩)
      ·
       exact ⟨.inr rfl,by omega⟩
      ·
       exact ⟨.inl h1,h2⟩
     ·
      rintro ⟨h1 | h1,h2⟩
      ·
       exact .inr ⟨h1,h2⟩
      ·
       exact .inl (by omega)
    ·
     have hs2:=hs
     rw [show (List.set [It.blk h.size (ws.map wC).flatten 428] 0 (.blk h.size (splice (ws.map wC).flatten (n / 64*1) [.int .u64 ((ws.getD (n / 64) 0 ||| 2 ^ (n % 64):Nat):Int)]) 428))=[.blk h.size (splice (ws.map wC).flatten (n / 64*1) [.int .u64 ((ws.getD (n / 64) 0 ||| 2 ^ (n % 64):Nat):Int)]) 428] from rfl,wsplice hnl] at hs2
     exact hs2
   ·
    exact skip (by omega)
  ·
   exact skip (by omega)
 ·
  replace l2:=lt_f l2
  rw [Yj (by omega)] at hmem
  refine (build100 ws _ h.size h6 hwl hw hmem fun i w hiw=>hs.rd 0 rfl (by rw [wflat,hiw]; rfl)).mono ?_
  rintro _ h17 ⟨E,k,rfl,ho,hS⟩
  exact ⟨⟨some ⟨h6.size,0,none⟩,k,k⟩,rfl,(hs.step E).ext,_,k,ws,rfl,hs.ext.1,ho,hS⟩
end Go.VC
end

section
/- Contract: what a role sees (look). -/
namespace Go.VC
open Go.Proofs Go.LexS

theorem made42 (n:Nat):madeL Pz 23 n=((List.replicate n (⟨none,0,0⟩:Sl)).map slC).flatten:=by
 have e:zeroC Pz 23=[.slice none 0 0]:=by kernel_rfl
 unfold madeL; rw [e,List.map_replicate]; rfl
theorem made173 (n:Nat):madeL Pz 385 n=((List.replicate n (⟨none,0,0⟩:Sl)).map slC).flatten:=by
 have e:zeroC Pz 385=[.slice none 0 0]:=by kernel_rfl
 unfold madeL; rw [e,List.map_replicate]; rfl
theorem slrows (L:List Sl):∀ r ∈ L.map slC,r.length=1:=fun r hr=>by obtain ⟨x,_,rfl⟩:=Yp.1 hr; rfl
theorem app173:appB Pz 385 387 4 32=true:=by kernel_rfl
structure LkL (g:Gl) (role:Int) (i:Nat) (qs:List (Sl × List Int)) (vs:List (Sl × List Ar)):Prop where
 ql:qs.length=g.n.toNat
 vl:vs.length=g.n.toNat
 q:∀ (n:Nat) q,qs[n]?=some q->q.2=quietL (g.es.take i) role n
 v:∀ (n:Nat) q,vs[n]?=some q->q.2=visL (g.es.take i) role n
def lkA (g:Gl) (role:Int) (b bg:Nat) (hq hv:Sl) (qs:List (Sl × List Int)) (vs:List (Sl × List Ar)):List It:=
 [.blk b (g.cs++[.int .i64 role,.slice hq.a hq.n hq.c,.slice hv.a hv.n hv.c]) 384,.sl hq 23 1 ((qs.map Prod.fst).map slC),.sl hv 385 1 ((vs.map Prod.fst).map slC),.blk bg g.cs 92]
theorem LkL.len {g:Gl} {role:Int} {i n:Nat} {qs:List (Sl × List Int)} {vs:List (Sl × List Ar)} (h:LkL g role i qs vs) {q:Sl × List Int} (hq:qs[n]?=some q):q.2.length<=g.es.length:=by
 rw [h.q n q hq]
 exact Yys (List.length_filterMap_le _ _) (by rw [Yu]; omega)
theorem LkL.lenv {g:Gl} {role:Int} {i n:Nat} {qs:List (Sl × List Int)} {vs:List (Sl × List Ar)} (h:LkL g role i qs vs) {q:Sl × List Ar} (hq:vs[n]?=some q):q.2.length<=g.es.length:=by
 rw [h.v n q hq]
 exact Yys (List.length_filterMap_le _ _) (by rw [Yu]; omega)
theorem LkL.nextQ {g:Gl} {role:Int} {i m:Nat} {qs:List (Sl × List Int)} {vs:List (Sl × List Ar)} {x:Ed} {q:Sl × List Int} {r:Sl} (h:LkL g role i qs vs) (hx:g.es[i]?=some x) (hn:vis1 role x=none) (hm:x.f=(m:Int)) (hq:qs[m]?=some q):LkL g role (i+1) (qs.set m (r,q.2++[x.t])) vs:=by
 refine ⟨by rw [Yyh]; exact h.ql,h.vl,fun n q' hq'=>?_,fun n q' hq'=>?_⟩
 ·
  rw [take_snoc hx,quietL_snoc]
  by_cases e:n=m
  ·
   subst e
   rw [Yq (Ya.1 hq).1] at hq'; cases hq'
   rw [if_pos hm,hn]
   show q.2++[x.t]=_
   rw [h.q n q hq]
  ·
   rw [Yy (fun h=>e h.symm)] at hq'
   rw [if_neg (by omega),Yw]
   exact h.q n q' hq'
 ·
  rw [take_snoc hx,visL_snoc,hn]
  rw [show (if x.f=(n:Int) then [] else []:List Ar)=[] by split <;> rfl,Yw]
  exact h.v n q' hq'
theorem LkL.nextV {g:Gl} {role:Int} {i m:Nat} {qs:List (Sl × List Int)} {vs:List (Sl × List Ar)} {x:Ed} {q:Sl × List Ar} {r:Sl} {e:Ev} (h:LkL g role i qs vs) (hx:g.es[i]?=some x) (hn:vis1 role x=some e) (hm:x.f=(m:Int)) (hq:vs[m]?=some q):LkL g role (i+1) qs (vs.set m (r,q.2++[⟨e,x.t⟩])):=by
 refine ⟨h.ql,by rw [Yyh]; exact h.vl,fun n q' hq'=>?_,fun n q' hq'=>?_⟩
 ·
  rw [take_snoc hx,quietL_snoc,hn]
  rw [show (if x.f=(n:Int) then [] else []:List Int)=[] by split <;> rfl,Yw]
  exact h.q n q' hq'
 ·
  rw [take_snoc hx,visL_snoc]
  by_cases e:n=m
  ·
   subst e
   rw [Yq (Ya.1 hq).1] at hq'; cases hq'
   rw [if_pos hm,hn]
   show q.2++[_]=_
   rw [h.v n q hq]
  ·
   rw [Yy (fun h=>e h.symm)] at hq'
   rw [if_neg (by omega),Yw]
   exact h.v n q' hq'
theorem LkL.start (g:Gl) (role:Int):LkL g role 0 (List.replicate g.n.toNat (⟨none,0,0⟩,[])) (List.replicate g.n.toNat (⟨none,0,0⟩,[])):=
 ⟨by rw [Yg],by rw [Yg],fun n q hq=>by rw [List.eq_of_mem_replicate (Yb hq)]; rfl,fun n q hq=>by rw [List.eq_of_mem_replicate (Yb hq)]; rfl⟩
theorem fst_set {α β:Type} (Q:List (α × β)) (i:Nat) (r:α) (d:β):(Q.set i (r,d)).map Prod.fst=(Q.map Prod.fst).set i r:=List.map_set
theorem map_range {α β:Type} [Inhabited α] (Q:List α) (f:α->β):Q.map f=(List.range Q.length).map fun i=>f (Q.getD i default):=by
 apply Yyr
 intro i
 rw [Yd,Yd]
 by_cases h:i<Q.length
 ·
  rw [Yyb h,Yi h]
  simp [Yo,Yi h]
 ·
  rw [Yl (by omega),Yl (by rw [Yyd]; omega)]; rfl
instance {α:Type}:Inhabited (Sl × List α):=⟨⟨⟨none,0,0⟩,[]⟩⟩
theorem LkL.fin {g:Gl} {role:Int} {i:Nat} {h0 h:Heap} {b bg:Nat} {hq hv:Sl} {qs:List (Sl × List Int)} {vs:List (Sl × List Ar)} (hL:LkL g role i qs vs) (hi:g.es.length<=i)
  (hs:St h0 h (lkA g role b bg hq hv qs vs++qs.map (nest 3 1 inC)++vs.map (nest 387 4 Ar.cs))) (hqn:hq.n=g.n.toNat) (hvn:hv.n=g.n.toNat):LkI h ⟨b,0,none⟩ g role:=by
 have key:∀ {α:Type} (Q:List (Sl × List α)),(Q.map Prod.fst).map slC=(List.range Q.length).map fun i=>slC ((Q.getD i default).1):=fun Q=>by rw [List.map_map,map_range]; rfl
 refine ⟨hq,hv,fun i=>(qs.getD i default).1,fun i=>(vs.getD i default).1,rfl,hs.at 0 rfl (n:=11) rfl,hqn,hvn,?_,?_,fun i hi'=>?_,fun i hi'=>?_⟩
 ·
  have:=hs.rw 1 rfl (by omega)
  rw [key,hL.ql] at this; exact this
 ·
  have:=hs.rw 2 rfl (by omega)
  rw [key,hL.vl] at this; exact this
 ·
  have hil:i<qs.length:=by rw [hL.ql]; exact hi'
  have hg:qs[i]?=some (qs.getD i default):=by rw [Yo,Yi hil]; rfl
  have:=hs.rw (4+i) (rows:=(qs.getD i default).2.map inC) (s:=(qs.getD i default).1) (e:=3) (n:=1) (by
   have:=get_mid (P:=lkA g role b bg hq hv qs vs) (Q:=qs.map (nest 3 1 inC)) (R:=vs.map (nest 387 4 Ar.cs)) (i:=i) (by rw [Yc]; exact hil)
   rw [show (lkA g role b bg hq hv qs vs).length=4 from rfl] at this
   rw [this,Yd,hg]; rfl) (by omega)
  rw [hL.q i _ hg,Yj hi] at this
  exact this
 ·
  have hil:i<vs.length:=by rw [hL.vl]; exact hi'
  have hg:vs[i]?=some (vs.getD i default):=by rw [Yo,Yi hil]; rfl
  have:=hs.rw ((lkA g role b bg hq hv qs vs++qs.map (nest 3 1 inC)).length+i) (rows:=(vs.getD i default).2.map Ar.cs) (s:=(vs.getD i default).1) (e:=387) (n:=4) (by
   rw [Yyc (by omega),Nat.add_sub_cancel_left,Yd,hg]; rfl) (by omega)
  rw [hL.v i _ hg,Yj hi] at this
  exact this

theorem look52 (g:Gl) (role:Int) (h:Heap) (hg:GI h g) (hx:Gx h) :
  Fn Pz 208 #[g.v,.int .i64 role] h fun v h'=>Ext h h'/\((¬ (ValidS g/\0<=role/\role<g.rs.length)/\v=.tuple ⟨[.pointer none,.int .i64 1]⟩) \/
   ((ValidS g/\0<=role/\role<g.rs.length)/\∃ b,h.size<=b/\v=.tuple ⟨[.pointer (some ⟨b,0,none⟩),.int .i64 0]⟩/\LkI h' ⟨b,0,none⟩ g role)):=by
 apply vc208 (bs g.nm) g.hr g.hd g.n g.s g.e g.he g.ht; unfold W208
 have hs:=St.refl h
 have hn:=hg.e.ln
 have hnr:=hg.r.ln
 have hsm:=hg.e.sm
 refine hs.newb fun h9 hs=>?_
 refine ⟨_,_,_,_,_,_,_,_,hs.at 0 rfl (n:=8) rfl,?_⟩
 refine (valid38 g _ (hg.ext hs.ext) (hx.ext hs.ext)).mono ?_
 rintro _ h20 ⟨rfl,Eh20⟩
 replace hs:=hs.step Eh20
 refine ⟨_,rfl,?_⟩
 refine sB_intro (fun c1=>?_) (fun c1=>?_)
 ·
  exact ⟨hs.ext,.inl ⟨fun hG=>Yyo (bF c1) hG.1,rfl⟩⟩
 ·
  have hV:=Yyn (bT c1)
  refine sBi (fun c2=>?_) (fun c2=>?_)
  ·
   exact ⟨hs.ext,.inl ⟨fun hG=>by omega,rfl⟩⟩
  ·
   refine ⟨_,hs.rd 0 rfl rfl,?_⟩
   refine sBi (fun c3=>?_) (fun c3=>?_)
   ·
    exact ⟨hs.ext,.inl ⟨fun hG=>by omega,rfl⟩⟩
   ·
    refine ⟨_,_,_,_,_,_,_,_,hs.at 0 rfl (n:=8) rfl,?_⟩
    refine ⟨_,hs.rd 0 rfl rfl,?_⟩
    refine ⟨_,hs.rd 0 rfl rfl,?_⟩
    have hb:=hV.num.n
    have hE:=hV.num.e
    have hm4:=hV.num.m
    have fin:ValidS g/\0<=role/\role<g.rs.length:=⟨hV,by omega,by omega⟩
    rw [made42,made173]
    have hrep:∀ {α:Type},((List.replicate g.n.toNat ((⟨none,0,0⟩,[]):Sl × List α)).map Prod.fst)=List.replicate g.n.toNat (⟨none,0,0⟩:Sl):=List.map_replicate
    have hmx:g.n.toNat<=maxLen:=by simp only [maxLen]; omega
    refine ⟨?_,?_⟩
    ·
     refine ⟨by omega,?_⟩
     refine hs.newbE fun h32 E32 hs=>⟨E32.sm,?_⟩
     have hs:=hs.blkS g.n.toNat 1 _ rfl (slrows _) (by rw [Yc,Yg]) hmx
     refine ⟨by omega,?_⟩
     refine hs.newbE fun h33 E33 hs=>⟨E33.sm,?_⟩
     have hs:=hs.blkS g.n.toNat 1 _ rfl (slrows _) (by rw [Yc,Yg]) hmx
     have hle:h.size<=h33.size:=hs.ext.1
     refine hs.newb fun h34 hs=>?_
     have hs:St h h34 (lkA g role h33.size h.size ⟨some ⟨h20.size,0,none⟩,g.n.toNat,g.n.toNat⟩ ⟨some ⟨h32.size,0,none⟩,g.n.toNat,g.n.toNat⟩ (List.replicate g.n.toNat (⟨none,0,0⟩,[])) (List.replicate g.n.toNat (⟨none,0,0⟩,[]))++(List.replicate g.n.toNat ((⟨none,0,0⟩,[]):Sl × List Int)).map (nest 3 1 inC)++(List.replicate g.n.toNat ((⟨none,0,0⟩,[]):Sl × List Ar)).map (nest 387 4 Ar.cs)):=by
      have h1:St h h34 (lkA g role h33.size h.size ⟨some ⟨h20.size,0,none⟩,g.n.toNat,g.n.toNat⟩ ⟨some ⟨h32.size,0,none⟩,g.n.toNat,g.n.toNat⟩ (List.replicate g.n.toNat (⟨none,0,0⟩,[])) (List.replicate g.n.toNat (⟨none,0,0⟩,[]))++[]):=by
       unfold lkA
       rw [hrep,hrep]
       exact hs.perm (.cons _ (.swap _ _ _))
      have h2:=h1.nests (α:=Ar) (e:=387) (k:=4) (cs:=Ar.cs) g.n.toNat
      rw [Yw] at h2
      exact h2.nests (α:=Int) (e:=3) (k:=1) (cs:=inC) g.n.toNat
     refine ⟨_,hs.rd 3 rfl rfl,?_⟩
     refine up_loop (n:=g.he.n) (fun i h'=>∃ qs vs,LkL g role i qs vs/\St h h' (lkA g role h33.size h.size ⟨some ⟨h20.size,0,none⟩,g.n.toNat,g.n.toNat⟩ ⟨some ⟨h32.size,0,none⟩,g.n.toNat,g.n.toNat⟩ qs vs++qs.map (nest 3 1 inC)++vs.map (nest 387 4 Ar.cs))) ⟨_,_,LkL.start g role,hs⟩ ?_
     rintro - i h40 hi ⟨qs,vs,hL,hs⟩
     refine sB_intro (fun l=>?_) (fun l=>?_)
     ·
      replace l:=lt_t l
      refine (hg.e.ext hs.ext).rw.nbI (by omega) (by omega) fun b41 o42 x g41 t41=>?_
      replace g41:g.es[i]?=some x:=g41
      have hxE:=hE x (Yb g41)
      unfold EdS at hxE
      obtain ⟨m,hm⟩:∃ m:Nat,x.f=m:=⟨x.f.toNat,by omega⟩
      obtain ⟨q,hq⟩:=get_some (l:=qs) (i:=m) (by rw [hL.ql]; omega)
      obtain ⟨v,hv⟩:=get_some (l:=vs) (i:=m) (by rw [hL.vl]; omega)
      have hql:=hL.len hq
      have hvl:=hL.lenv hv
      have hqn:q.1.n=q.2.length:=by
       have:=hs.len (4+m) (s:=q.1) (e:=3) (n:=1) (rows:=q.2.map inC) (by
        have:=get_mid (P:=lkA g role h33.size h.size ⟨some ⟨h20.size,0,none⟩,g.n.toNat,g.n.toNat⟩ ⟨some ⟨h32.size,0,none⟩,g.n.toNat,g.n.toNat⟩ qs vs) (Q:=qs.map (nest 3 1 inC)) (R:=vs.map (nest 387 4 Ar.cs)) (i:=m) (by rw [Yc]; exact (Ya.1 hq).1)
        rw [show (lkA g role h33.size h.size ⟨some ⟨h20.size,0,none⟩,g.n.toNat,g.n.toNat⟩ ⟨some ⟨h32.size,0,none⟩,g.n.toNat,g.n.toNat⟩ qs vs).length=4 from rfl] at this
        rw [this,Yd,hq]; rfl) (by omega)
       rw [this.1,Yc]
      have hvn:v.1.n=v.2.length:=by
       have:=hs.len ((lkA g role h33.size h.size ⟨some ⟨h20.size,0,none⟩,g.n.toNat,g.n.toNat⟩ ⟨some ⟨h32.size,0,none⟩,g.n.toNat,g.n.toNat⟩ qs vs++qs.map (nest 3 1 inC)).length+m) (s:=v.1) (e:=387) (n:=4) (rows:=v.2.map Ar.cs) (by
        rw [Yyc (by omega),Nat.add_sub_cancel_left,Yd,hv]; rfl) (by omega)
       rw [this.1,Yc]
      refine ⟨_,_,_,_,_,_,t41,?_⟩
      refine hs.newput (vs:=x.cs) rfl rfl fun h50 hs=>?_
      refine ⟨_,hs.rd 0 rfl rfl,?_⟩
      refine sBe (fun c4=>?_) (fun c4=>?_)
      ·
       have hvis:vis1 role x=some ⟨true,x.b,x.l⟩:=by unfold vis1; rw [if_pos c4]
       refine ⟨_,hs.rd 1 rfl rfl,?_⟩
       refine ⟨_,hs.rd 0 rfl rfl,?_⟩
       refine ⟨_,hs.rd 1 rfl rfl,?_⟩
       refine ⟨_,hs.rd 0 rfl rfl,?_⟩
       refine (hs.rows 3 rfl (by omega)).nbI (cs:=slC) (L:=vs.map Prod.fst) (by omega) (by show x.f<((g.n.toNat:Nat):Int); omega) fun b56 o57 d56 g56 t56=>?_
       have ed:d56=v.1:=by
        rw [hm,show ((m:Int)).toNat=m from rfl,Yd,hv] at g56
        exact (Yyp g56).symm
       subst ed
       refine ⟨_,t56.hd,?_⟩
       refine ⟨_,hs.rd 0 rfl rfl,?_⟩
       refine ⟨_,hs.rd 0 rfl rfl,?_⟩
       refine ⟨_,hs.rd 0 rfl rfl,?_⟩
       refine hs.newbE fun h62 E62 hs=>⟨E62.sm,?_⟩
       have hs':St h h62 ((.blk h50.size (Ar.cs ⟨⟨true,x.b,x.l⟩,x.t⟩) 387 :: .blk h40.size x.cs 137::(lkA g role h33.size h.size ⟨some ⟨h20.size,0,none⟩,g.n.toNat,g.n.toNat⟩ ⟨some ⟨h32.size,0,none⟩,g.n.toNat,g.n.toNat⟩ qs vs++qs.map (nest 3 1 inC)))++vs.map (nest 387 4 Ar.cs)++[]):=by rw [Yw]; exact hs
       refine hs'.nestAt hv app173 (⟨⟨true,x.b,x.l⟩,x.t⟩:Ar) (hs'.at 0 rfl (n:=4) rfl) rfl rfl (by omega) (by simp only [maxLen]; omega) fun r h64 hr hs3=>?_
       rw [Yw] at hs3
       refine ⟨sm_cons (hs'.same hs3 1 1 rfl rfl) (sm_cons (hs'.same hs3 2 2 rfl rfl) sm_nil),?_⟩
       refine hs3.set 4 (cs:=slC) (l:=vs.map Prod.fst) rfl (by omega) (by omega) (by show x.f<((g.n.toNat:Nat):Int); omega) r rfl rfl (fun b o h67 hs4=>?_) rfl
       refine Up.next l (by omega) ⟨qs,vs.set m (r,v.2++[⟨⟨true,x.b,x.l⟩,x.t⟩]),hL.nextV g41 hvis hm hv,?_⟩
       rw [hm] at hs4
       have hs5:=hs4.drop 2
       unfold lkA
       rw [fst_set]
       exact hs5
      ·
       refine ⟨_,hs.rd 0 rfl rfl,?_⟩
       refine sBe (fun c5=>?_) (fun c5=>?_)
       ·
        have hvis:vis1 role x=some ⟨false,x.a,x.l⟩:=by unfold vis1; rw [if_neg c4,if_pos c5]
        refine ⟨_,hs.rd 1 rfl rfl,?_⟩
        refine ⟨_,hs.rd 0 rfl rfl,?_⟩
        refine ⟨_,hs.rd 1 rfl rfl,?_⟩
        refine ⟨_,hs.rd 0 rfl rfl,?_⟩
        refine (hs.rows 3 rfl (by omega)).nbI (cs:=slC) (L:=vs.map Prod.fst) (by omega) (by show x.f<((g.n.toNat:Nat):Int); omega) fun b56 o57 d56 g56 t56=>?_
        have ed:d56=v.1:=by
         rw [hm,show ((m:Int)).toNat=m from rfl,Yd,hv] at g56
         exact (Yyp g56).symm
        subst ed
        refine ⟨_,t56.hd,?_⟩
        refine ⟨_,hs.rd 0 rfl rfl,?_⟩
        refine ⟨_,hs.rd 0 rfl rfl,?_⟩
        refine ⟨_,hs.rd 0 rfl rfl,?_⟩
        refine hs.newbE fun h62 E62 hs=>⟨E62.sm,?_⟩
        have hs':St h h62 ((.blk h50.size (Ar.cs ⟨⟨false,x.a,x.l⟩,x.t⟩) 387 :: .blk h40.size x.cs 137::(lkA g role h33.size h.size ⟨some ⟨h20.size,0,none⟩,g.n.toNat,g.n.toNat⟩ ⟨some ⟨h32.size,0,none⟩,g.n.toNat,g.n.toNat⟩ qs vs++qs.map (nest 3 1 inC)))++vs.map (nest 387 4 Ar.cs)++[]):=by rw [Yw]; exact hs
        refine hs'.nestAt hv app173 (⟨⟨false,x.a,x.l⟩,x.t⟩:Ar) (hs'.at 0 rfl (n:=4) rfl) rfl rfl (by omega) (by simp only [maxLen]; omega) fun r h64 hr hs3=>?_
        rw [Yw] at hs3
        refine ⟨sm_cons (hs'.same hs3 1 1 rfl rfl) (sm_cons (hs'.same hs3 2 2 rfl rfl) sm_nil),?_⟩
        refine hs3.set 4 (cs:=slC) (l:=vs.map Prod.fst) rfl (by omega) (by omega) (by show x.f<((g.n.toNat:Nat):Int); omega) r rfl rfl (fun b o h67 hs4=>?_) rfl
        refine Up.next l (by omega) ⟨qs,vs.set m (r,v.2++[⟨⟨false,x.a,x.l⟩,x.t⟩]),hL.nextV g41 hvis hm hv,?_⟩
        rw [hm] at hs4
        have hs5:=hs4.drop 2
        unfold lkA
        rw [fst_set]
        exact hs5
       ·
        have hvis:vis1 role x=none:=by unfold vis1; rw [if_neg c4,if_neg c5]
        refine ⟨_,hs.rd 1 rfl rfl,?_⟩
        refine ⟨_,hs.rd 0 rfl rfl,?_⟩
        refine ⟨_,hs.rd 1 rfl rfl,?_⟩
        refine ⟨_,hs.rd 0 rfl rfl,?_⟩
        refine (hs.rows 2 rfl (by omega)).nbI (cs:=slC) (L:=qs.map Prod.fst) (by omega) (by show x.f<((g.n.toNat:Nat):Int); omega) fun b56 o57 d56 g56 t56=>?_
        have ed:d56=q.1:=by
         rw [hm,show ((m:Int)).toNat=m from rfl,Yd,hq] at g56
         exact (Yyp g56).symm
        subst ed
        refine ⟨_,t56.hd,?_⟩
        refine ⟨_,hs.rd 0 rfl rfl,?_⟩
        refine hs.newbE fun h62 E62 hs=>⟨E62.sm,?_⟩
        have hs':St h h62 ((.blk h50.size (inC x.t) 3 :: .blk h40.size x.cs 137::lkA g role h33.size h.size ⟨some ⟨h20.size,0,none⟩,g.n.toNat,g.n.toNat⟩ ⟨some ⟨h32.size,0,none⟩,g.n.toNat,g.n.toNat⟩ qs vs)++qs.map (nest 3 1 inC)++vs.map (nest 387 4 Ar.cs)):=hs
        refine hs'.nestAt hq app42 x.t (hs'.at 0 rfl (n:=1) rfl) rfl rfl (by omega) (by simp only [maxLen]; omega) fun r h64 hr hs3=>⟨sm_cons (hs'.same hs3 1 1 rfl rfl) (sm_cons (hs'.same hs3 2 2 rfl rfl) sm_nil),?_⟩
        refine hs3.set 3 (cs:=slC) (l:=qs.map Prod.fst) rfl (by omega) (by omega) (by show x.f<((g.n.toNat:Nat):Int); omega) r rfl rfl (fun b o h67 hs4=>?_) rfl
        refine Up.next l (by omega) ⟨qs.set m (r,q.2++[x.t]),vs,hL.nextQ g41 hvis hm hq,?_⟩
        unfold lkA
        rw [fst_set]
        rw [hm] at hs4
        exact hs4.drop 2
     ·
      replace l:=lt_f l
      refine ⟨hs.ext,.inr ⟨fin,h33.size,hle,rfl,hL.fin (by omega) hs rfl rfl⟩⟩
    ·
     refine ⟨by omega,?_⟩
     refine hs.newbE fun h32 E32 hs=>⟨E32.sm,?_⟩
     have hs:=hs.blkS g.n.toNat 1 _ rfl (slrows _) (by rw [Yc,Yg]) hmx
     refine ⟨by omega,?_⟩
     refine hs.newbE fun h33 E33 hs=>⟨E33.sm,?_⟩
     have hs:=hs.blkS g.n.toNat 1 _ rfl (slrows _) (by rw [Yc,Yg]) hmx
     have hle:h.size<=h33.size:=hs.ext.1
     refine hs.newb fun h34 hs=>?_
     have hs:St h h34 (lkA g role h33.size h.size ⟨some ⟨h32.size,0,none⟩,g.n.toNat,g.n.toNat⟩ ⟨some ⟨h20.size,0,none⟩,g.n.toNat,g.n.toNat⟩ (List.replicate g.n.toNat (⟨none,0,0⟩,[])) (List.replicate g.n.toNat (⟨none,0,0⟩,[]))++(List.replicate g.n.toNat ((⟨none,0,0⟩,[]):Sl × List Int)).map (nest 3 1 inC)++(List.replicate g.n.toNat ((⟨none,0,0⟩,[]):Sl × List Ar)).map (nest 387 4 Ar.cs)):=by
      have h1:St h h34 (lkA g role h33.size h.size ⟨some ⟨h32.size,0,none⟩,g.n.toNat,g.n.toNat⟩ ⟨some ⟨h20.size,0,none⟩,g.n.toNat,g.n.toNat⟩ (List.replicate g.n.toNat (⟨none,0,0⟩,[])) (List.replicate g.n.toNat (⟨none,0,0⟩,[]))++[]):=by
       unfold lkA
       rw [hrep,hrep]
       exact hs
      have h2:=h1.nests (α:=Ar) (e:=387) (k:=4) (cs:=Ar.cs) g.n.toNat
      rw [Yw] at h2
      exact h2.nests (α:=Int) (e:=3) (k:=1) (cs:=inC) g.n.toNat
     refine ⟨_,hs.rd 3 rfl rfl,?_⟩
     refine up_loop (n:=g.he.n) (fun i h'=>∃ qs vs,LkL g role i qs vs/\St h h' (lkA g role h33.size h.size ⟨some ⟨h32.size,0,none⟩,g.n.toNat,g.n.toNat⟩ ⟨some ⟨h20.size,0,none⟩,g.n.toNat,g.n.toNat⟩ qs vs++qs.map (nest 3 1 inC)++vs.map (nest 387 4 Ar.cs))) ⟨_,_,LkL.start g role,hs⟩ ?_
     rintro - i h40 hi ⟨qs,vs,hL,hs⟩
     refine sB_intro (fun l=>?_) (fun l=>?_)
     ·
      replace l:=lt_t l
      refine (hg.e.ext hs.ext).rw.nbI (by omega) (by omega) fun b41 o42 x g41 t41=>?_
      replace g41:g.es[i]?=some x:=g41
      have hxE:=hE x (Yb g41)
      unfold EdS at hxE
      obtain ⟨m,hm⟩:∃ m:Nat,x.f=m:=⟨x.f.toNat,by omega⟩
      obtain ⟨q,hq⟩:=get_some (l:=qs) (i:=m) (by rw [hL.ql]; omega)
      obtain ⟨v,hv⟩:=get_some (l:=vs) (i:=m) (by rw [hL.vl]; omega)
      have hql:=hL.len hq
      have hvl:=hL.lenv hv
      have hqn:q.1.n=q.2.length:=by
       have:=hs.len (4+m) (s:=q.1) (e:=3) (n:=1) (rows:=q.2.map inC) (by
        have:=get_mid (P:=lkA g role h33.size h.size ⟨some ⟨h32.size,0,none⟩,g.n.toNat,g.n.toNat⟩ ⟨some ⟨h20.size,0,none⟩,g.n.toNat,g.n.toNat⟩ qs vs) (Q:=qs.map (nest 3 1 inC)) (R:=vs.map (nest 387 4 Ar.cs)) (i:=m) (by rw [Yc]; exact (Ya.1 hq).1)
        rw [show (lkA g role h33.size h.size ⟨some ⟨h32.size,0,none⟩,g.n.toNat,g.n.toNat⟩ ⟨some ⟨h20.size,0,none⟩,g.n.toNat,g.n.toNat⟩ qs vs).length=4 from rfl] at this
        rw [this,Yd,hq]; rfl) (by omega)
       rw [this.1,Yc]
      have hvn:v.1.n=v.2.length:=by
       have:=hs.len ((lkA g role h33.size h.size ⟨some ⟨h32.size,0,none⟩,g.n.toNat,g.n.toNat⟩ ⟨some ⟨h20.size,0,none⟩,g.n.toNat,g.n.toNat⟩ qs vs++qs.map (nest 3 1 inC)).length+m) (s:=v.1) (e:=387) (n:=4) (rows:=v.2.map Ar.cs) (by
        rw [Yyc (by omega),Nat.add_sub_cancel_left,Yd,hv]; rfl) (by omega)
       rw [this.1,Yc]
      refine ⟨_,_,_,_,_,_,t41,?_⟩
      refine hs.newput (vs:=x.cs) rfl rfl fun h50 hs=>?_
      refine ⟨_,hs.rd 0 rfl rfl,?_⟩
      refine sBe (fun c4=>?_) (fun c4=>?_)
      ·
       have hvis:vis1 role x=some ⟨true,x.b,x.l⟩:=by unfold vis1; rw [if_pos c4]
       refine ⟨_,hs.rd 1 rfl rfl,?_⟩
       refine ⟨_,hs.rd 0 rfl rfl,?_⟩
       refine ⟨_,hs.rd 1 rfl rfl,?_⟩
       refine ⟨_,hs.rd 0 rfl rfl,?_⟩
       refine (hs.rows 3 rfl (by omega)).nbI (cs:=slC) (L:=vs.map Prod.fst) (by omega) (by show x.f<((g.n.toNat:Nat):Int); omega) fun b56 o57 d56 g56 t56=>?_
       have ed:d56=v.1:=by
        rw [hm,show ((m:Int)).toNat=m from rfl,Yd,hv] at g56
        exact (Yyp g56).symm
       subst ed
       refine ⟨_,t56.hd,?_⟩
       refine ⟨_,hs.rd 0 rfl rfl,?_⟩
       refine ⟨_,hs.rd 0 rfl rfl,?_⟩
       refine ⟨_,hs.rd 0 rfl rfl,?_⟩
       refine hs.newbE fun h62 E62 hs=>⟨E62.sm,?_⟩
       have hs':St h h62 ((.blk h50.size (Ar.cs ⟨⟨true,x.b,x.l⟩,x.t⟩) 387 :: .blk h40.size x.cs 137::(lkA g role h33.size h.size ⟨some ⟨h32.size,0,none⟩,g.n.toNat,g.n.toNat⟩ ⟨some ⟨h20.size,0,none⟩,g.n.toNat,g.n.toNat⟩ qs vs++qs.map (nest 3 1 inC)))++vs.map (nest 387 4 Ar.cs)++[]):=by rw [Yw]; exact hs
       refine hs'.nestAt hv app173 (⟨⟨true,x.b,x.l⟩,x.t⟩:Ar) (hs'.at 0 rfl (n:=4) rfl) rfl rfl (by omega) (by simp only [maxLen]; omega) fun r h64 hr hs3=>?_
       rw [Yw] at hs3
       refine ⟨sm_cons (hs'.same hs3 1 1 rfl rfl) (sm_cons (hs'.same hs3 2 2 rfl rfl) sm_nil),?_⟩
       refine hs3.set 4 (cs:=slC) (l:=vs.map Prod.fst) rfl (by omega) (by omega) (by show x.f<((g.n.toNat:Nat):Int); omega) r rfl rfl (fun b o h67 hs4=>?_) rfl
       refine Up.next l (by omega) ⟨qs,vs.set m (r,v.2++[⟨⟨true,x.b,x.l⟩,x.t⟩]),hL.nextV g41 hvis hm hv,?_⟩
       rw [hm] at hs4
       have hs5:=hs4.drop 2
       unfold lkA
       rw [fst_set]
       exact hs5
      ·
       refine ⟨_,hs.rd 0 rfl rfl,?_⟩
       refine sBe (fun c5=>?_) (fun c5=>?_)
       ·
        have hvis:vis1 role x=some ⟨false,x.a,x.l⟩:=by unfold vis1; rw [if_neg c4,if_pos c5]
        refine ⟨_,hs.rd 1 rfl rfl,?_⟩
        refine ⟨_,hs.rd 0 rfl rfl,?_⟩
        refine ⟨_,hs.rd 1 rfl rfl,?_⟩
        refine ⟨_,hs.rd 0 rfl rfl,?_⟩
        refine (hs.rows 3 rfl (by omega)).nbI (cs:=slC) (L:=vs.map Prod.fst) (by omega) (by show x.f<((g.n.toNat:Nat):Int); omega) fun b56 o57 d56 g56 t56=>?_
        have ed:d56=v.1:=by
         rw [hm,show ((m:Int)).toNat=m from rfl,Yd,hv] at g56
         exact (Yyp g56).symm
        subst ed
        refine ⟨_,t56.hd,?_⟩
        refine ⟨_,hs.rd 0 rfl rfl,?_⟩
        refine ⟨_,hs.rd 0 rfl rfl,?_⟩
        refine ⟨_,hs.rd 0 rfl rfl,?_⟩
        refine hs.newbE fun h62 E62 hs=>⟨E62.sm,?_⟩
        have hs':St h h62 ((.blk h50.size (Ar.cs ⟨⟨false,x.a,x.l⟩,x.t⟩) 387 :: .blk h40.size x.cs 137::(lkA g role h33.size h.size ⟨some ⟨h32.size,0,none⟩,g.n.toNat,g.n.toNat⟩ ⟨some ⟨h20.size,0,none⟩,g.n.toNat,g.n.toNat⟩ qs vs++qs.map (nest 3 1 inC)))++vs.map (nest 387 4 Ar.cs)++[]):=by rw [Yw]; exact hs
        refine hs'.nestAt hv app173 (⟨⟨false,x.a,x.l⟩,x.t⟩:Ar) (hs'.at 0 rfl (n:=4) rfl) rfl rfl (by omega) (by simp only [maxLen]; omega) fun r h64 hr hs3=>?_
        rw [Yw] at hs3
        refine ⟨sm_cons (hs'.same hs3 1 1 rfl rfl) (sm_cons (hs'.same hs3 2 2 rfl rfl) sm_nil),?_⟩
        refine hs3.set 4 (cs:=slC) (l:=vs.map Prod.fst) rfl (by omega) (by omega) (by show x.f<((g.n.toNat:Nat):Int); omega) r rfl rfl (fun b o h67 hs4=>?_) rfl
        refine Up.next l (by omega) ⟨qs,vs.set m (r,v.2++[⟨⟨false,x.a,x.l⟩,x.t⟩]),hL.nextV g41 hvis hm hv,?_⟩
        rw [hm] at hs4
        have hs5:=hs4.drop 2
        unfold lkA
        rw [fst_set]
        exact hs5
       ·
        have hvis:vis1 role x=none:=by unfold vis1; rw [if_neg c4,if_neg c5]
        refine ⟨_,hs.rd 1 rfl rfl,?_⟩
        refine ⟨_,hs.rd 0 rfl rfl,?_⟩
        refine ⟨_,hs.rd 1 rfl rfl,?_⟩
        refine ⟨_,hs.rd 0 rfl rfl,?_⟩
        refine (hs.rows 2 rfl (by omega)).nbI (cs:=slC) (L:=qs.map Prod.fst) (by omega) (by show x.f<((g.n.toNat:Nat):Int); omega) fun b56 o57 d56 g56 t56=>?_
        have ed:d56=q.1:=by
         rw [hm,show ((m:Int)).toNat=m from rfl,Yd,hq] at g56
         exact (Yyp g56).symm
        subst ed
        refine ⟨_,t56.hd,?_⟩
        refine ⟨_,hs.rd 0 rfl rfl,?_⟩
        refine hs.newbE fun h62 E62 hs=>⟨E62.sm,?_⟩
        have hs':St h h62 ((.blk h50.size (inC x.t) 3 :: .blk h40.size x.cs 137::lkA g role h33.size h.size ⟨some ⟨h32.size,0,none⟩,g.n.toNat,g.n.toNat⟩ ⟨some ⟨h20.size,0,none⟩,g.n.toNat,g.n.toNat⟩ qs vs)++qs.map (nest 3 1 inC)++vs.map (nest 387 4 Ar.cs)):=hs
        refine hs'.nestAt hq app42 x.t (hs'.at 0 rfl (n:=1) rfl) rfl rfl (by omega) (by simp only [maxLen]; omega) fun r h64 hr hs3=>⟨sm_cons (hs'.same hs3 1 1 rfl rfl) (sm_cons (hs'.same hs3 2 2 rfl rfl) sm_nil),?_⟩
        refine hs3.set 3 (cs:=slC) (l:=qs.map Prod.fst) rfl (by omega) (by omega) (by show x.f<((g.n.toNat:Nat):Int); omega) r rfl rfl (fun b o h67 hs4=>?_) rfl
        refine Up.next l (by omega) ⟨qs.set m (r,q.2++[x.t]),vs,hL.nextQ g41 hvis hm hq,?_⟩
        unfold lkA
        rw [fst_set]
        rw [hm] at hs4
        exact hs4.drop 2
     ·
      replace l:=lt_f l
      refine ⟨hs.ext,.inr ⟨fin,h33.size,hle,rfl,hL.fin (by omega) hs rfl rfl⟩⟩
end Go.VC
end

section
/- Contract: closed. -/
namespace Go.VC
open Go.Proofs Go.LexS

theorem made4 (n:Nat):madeL Pz 4 n=(List.replicate n false).map Value.bool:=by
 have e:zeroC Pz 4=[.bool false]:=by kernel_rfl
 unfold madeL
 rw [e,List.map_replicate]
 induction n with
 | zero=>rfl
 | succ n ih=>rw [List.replicate_succ,List.replicate_succ,Yyu,ih]; rfl
theorem SI.congr {ws:List Nat} {k:Nat} {p q:Nat->Bool} (h:SI ws k p) (e:p=q):SI ws k q:=e ▸ h
set_option maxHeartbeats 1000000 in
theorem closed53 (g:Gl) (role:Int) (b:Nat) (l:List Int) (s:Sl) (h:Heap) (hl:LkI h ⟨b,0,none⟩ g role) (hV:ValidS g) (hr:Rw h 1 s (l.map inC)) (hb:∀ x ∈ l,0<=x/\x<g.n) (hsm:l.length<=1048576) :
  Fn Pz 214 #[.pointer (some ⟨b,0,none⟩),.slice s.a s.n s.c] h fun v h'=>Ext h h'/\∃ (c k:Nat) (ws:List Nat),v=.slice (some ⟨c,0,none⟩) k k/\h.size<=c/\Own h' c (ws.map wC).flatten 159/\SI ws k (clo g.es role l):=by
 apply vc214; unfold W214
 have hs:=St.refl h
 have hn:=hr.ln
 have hN:=hV.num.n
 have hE:=hV.num.e
 obtain ⟨hq,hv,qs,vs,h1,h2,h3,h4,h5,h6,h7,h8⟩:=hl.ex
 clear hl
 refine ⟨_,h2.nth 3 rfl,by omega,?_⟩
 rw [made4]
 refine hs.newb fun h2' hs=>?_
 have hs:=hs.nil_ 3 1
 refine ⟨fun todo x h' m=>∃ (i:Nat) (D:List Bool) (T:List Int),x=i/\m=s.n - i/\i<=s.n/\St h h' [.sl todo 3 1 (T.map inC),.blk h.size (D.map Value.bool) 4]/\CL g.es role g.n.toNat l D T/\∀ x ∈ l.take i,x ∈ T,⟨_,0,_,[],rfl,rfl,by omega,hs,CL.start _ _ _ _,fun x hx=>by rw [Yyk] at hx; cases hx⟩,?_⟩
 rintro - todo_6 _ h8' m ⟨i,D,T,rfl,rfl,hi,hs,hC,hT⟩
 have htl:=(hs.rows 0 rfl (by omega)).ln
 have hle:=hC.le
 have hDl:=hC.len
 refine sBi (fun c1=>?_) (fun c1=>?_)
 ·
  refine (hr.ext hs.ext).nbI (by omega) (by omega) fun b9 o10 d9 g9 t9=>?_
  replace g9:l[i]?=some d9:=g9
  have hd:=hb d9 (Yb g9)
  refine ⟨_,t9.hd,⟨by omega,by omega⟩,?_⟩
  obtain ⟨y,hy⟩:=get_some (l:=D) (i:=d9.toNat) (by omega)
  have e0:0+Int.toNat d9*1=d9.toNat:=by omega
  rw [e0]
  refine ⟨_,hs.rd 1 rfl (by rw [map_get,hy]; rfl),?_⟩
  refine sB_intro (fun c2=>?_) (fun c2=>?_)
  ·
   have hyf:y=false:=bF c2
   subst hyf
   refine ⟨⟨by omega,by omega⟩,?_⟩
   refine hs.put 1 rfl (o:=d9.toNat) (vs:=[.bool true]) rfl (by rw [Yc,Yv]; omega) fun h13 hs=>?_
   refine hs.app 0 rfl app42 (m:=1) [[.int .i64 d9]] rfl rfl (by simp) rfl (by omega) (by simp only [maxLen]; omega) fun s15 h16 ns15 hs=>?_
   refine ⟨_,by omega,i+1,D.set d9.toNat true,T++[d9],by rw [w64 (by omega) (by omega)]; omega,rfl,by omega,?_,hC.push hd.1 hy (.base (Yb g9)),fun x hx=>?_⟩
   ·
    rw [Ym,<- map_splice _ (by omega)]; exact hs
   ·
    rw [take_snoc g9] at hx
    rw [Yk] at hx ⊢
    exact hx.imp (hT x) id
  ·
   have hyt:y=true:=bT c2
   subst hyt
   refine ⟨_,by omega,i+1,D,T,by rw [w64 (by omega) (by omega)]; omega,rfl,by omega,hs,hC,fun x hx=>?_⟩
   rw [take_snoc g9,Yk,Ye] at hx
   rcases hx with hx | rfl
   ·
    exact hT x hx
   ·
    exact (hC.mem x).2 ⟨hd.1,hy⟩
 ·
  have hlT:∀ x ∈ l,x ∈ T:=fun x hx=>hT x (by rw [Yj (by omega)]; exact hx)
  clear hT
  refine ⟨fun todo x h' m=>∃ (i:Nat) (D:List Bool) (T:List Int),x=i/\m=g.n.toNat - i/\i<=T.length/\St h h' [.sl todo 3 1 (T.map inC),.blk h.size (D.map Value.bool) 4]/\CL g.es role g.n.toNat l D T/\(∀ x ∈ l,x ∈ T)/\∀ v ∈ T.take i,∀ b ∈ quietL g.es role v.toNat,b ∈ T,⟨_,0,D,T,rfl,rfl,by omega,hs,hC,hlT,fun v hv=>by rw [Yyk] at hv; cases hv⟩,?_⟩
  clear hs hC htl hle hDl hlT
  rintro - todo_22 _ h24 m ⟨i,D,T,rfl,rfl,hi,hs,hC,hlT,hcl⟩
  have htl:=(hs.rows 0 rfl (by omega)).ln
  have hle:=hC.le
  refine sBi (fun c2=>?_) (fun c2=>?_)
  ·
   refine ⟨_,(atC_ext hs.ext h2).nth 9 rfl,?_⟩
   refine (hs.rows 0 rfl (by omega)).nbI (by omega) (by omega) fun b26 o27 v g26 t26=>?_
   replace g26:T[i]?=some v:=g26
   have hvm:=(hC.mem v).1 (Yb g26)
   have hvl:v.toNat<g.n.toNat:=by have:=(Ya.1 hvm.2).1; have:=hC.len; omega
   refine ⟨_,t26.hd,?_⟩
   refine (h5.ext hs.ext).nbI (by omega) (by omega) fun b29 o30 k g29 t29=>?_
   have hk:k=v.toNat:=by rw [Yyb hvl] at g29; exact (Yyp g29).symm
   subst hk
   refine ⟨_,t29.hd,?_⟩
   have hrow:=h7 v.toNat hvl
   have hrn:=hrow.ln
   have hqb:∀ x ∈ quietL g.es role v.toNat,0<=x/\x<g.n:=fun x hx=>by
    obtain ⟨e,he,_,_,rfl⟩:=quietL_mem.1 hx
    have:=hE e he
    unfold EdS at this
    omega
   have hql:(quietL g.es role v.toNat).length<=400:=Yys (List.length_filterMap_le _ _) hV.num.m
   refine ⟨fun todo x h' m=>∃ (j:Nat) (D:List Bool) (T':List Int),x=j/\m=(qs v.toNat).n - j/\j<=(qs v.toNat).n/\St h h' [.sl todo 3 1 (T'.map inC),.blk h.size (D.map Value.bool) 4]/\CL g.es role g.n.toNat l D T'/\(∃ R,T'=T++R)/\∀ b ∈ (quietL g.es role v.toNat).take j,b ∈ T',⟨_,0,D,T,rfl,rfl,by omega,hs,hC,⟨[],by simp⟩,fun v hv=>by rw [Yyk] at hv; cases hv⟩,?_⟩
   clear hs hC htl hle
   rintro - todo_35 _ h37 m ⟨j,D,T',rfl,rfl,hj,hs,hC,⟨R,rfl⟩,hcl2⟩
   have htl:=(hs.rows 0 rfl (by omega)).ln
   have hle:=hC.le
   have hDl:=hC.len
   refine sBi (fun c3=>?_) (fun c3=>?_)
   ·
    refine (hrow.ext hs.ext).nbI (by omega) (by omega) fun b38 o39 y g38 t38=>?_
    replace g38:(quietL g.es role v.toNat)[j]?=some y:=g38
    have hy:=hqb y (Yb g38)
    refine ⟨_,t38.hd,⟨by omega,by omega⟩,?_⟩
    obtain ⟨z,hz⟩:=get_some (l:=D) (i:=y.toNat) (by omega)
    have e0:0+Int.toNat y*1=y.toNat:=by omega
    rw [e0]
    refine ⟨_,hs.rd 1 rfl (by rw [map_get,hz]; rfl),?_⟩
    refine sB_intro (fun c4=>?_) (fun c4=>?_)
    ·
     have hzf:z=false:=bF c4
     subst hzf
     refine ⟨⟨by omega,by omega⟩,?_⟩
     refine hs.put 1 rfl (o:=y.toNat) (vs:=[.bool true]) rfl (by rw [Yc,Yv]; omega) fun h42 hs=>?_
     refine hs.app 0 rfl app42 (m:=1) [[.int .i64 y]] rfl rfl (by simp) rfl (by omega) (by simp only [maxLen]; omega) fun s44 h45 ns44 hs=>?_
     have hqr:Qr g.es role l y:=by
      obtain ⟨e,he,h9,h10,rfl⟩:=quietL_mem.1 (Yb g38)
      exact .step (hC.r v (by rw [Yk]; exact .inl (Yb g26))) ⟨e,he,h9,by omega,rfl⟩
     refine ⟨_,by omega,j+1,D.set y.toNat true,T++R++[y],by rw [w64 (by omega) (by omega)]; omega,rfl,by omega,?_,hC.push hy.1 hz hqr,⟨R++[y],by rw [Yz]⟩,fun x hx=>?_⟩
     ·
      rw [Ym,<- map_splice _ (by omega)]; exact hs
     ·
      rw [take_snoc g38] at hx
      rw [Yk] at hx ⊢
      exact hx.imp (hcl2 x) id
    ·
     have hzt:z=true:=bT c4
     subst hzt
     refine ⟨_,by omega,j+1,D,T++R,by rw [w64 (by omega) (by omega)]; omega,rfl,by omega,hs,hC,⟨R,rfl⟩,fun x hx=>?_⟩
     rw [take_snoc g38,Yk,Ye] at hx
     rcases hx with hx | rfl
     ·
      exact hcl2 x hx
     ·
      exact (hC.mem x).2 ⟨hy.1,hz⟩
   ·
    rw [Yj (by omega)] at hcl2
    have hil:=(Ya.1 g26).1
    rw [Yh] at hle
    refine ⟨_,by omega,i+1,D,T++R,by rw [w64 (by omega) (by omega)]; omega,rfl,by rw [Yh]; omega,hs,hC,fun x hx=>by rw [Yk]; exact .inl (hlT x hx),fun w hw b hb=>?_⟩
    rw [Yyq (by omega),take_snoc g26,Yk,Ye] at hw
    rcases hw with hw | rfl
    ·
     rw [Yk]; exact .inl (hcl w hw b hb)
    ·
     exact hcl2 b hb
  ·
   rw [Yj (by omega)] at hcl
   refine (make55 T todo_22 h24 (hs.rows 0 rfl (by omega)) (by omega)).mono ?_
   rintro _ h51 ⟨E,c,k,ws,rfl,hc,ho,hS⟩
   refine ⟨⟨some ⟨c,0,none⟩,k,k⟩,rfl,(hs.step E).ext,c,k,ws,rfl,Yys hs.ext.1 hc,ho,hS.congr ?_⟩
   funext j
   rw [Bool.eq_iff_iff,decide_eq_true_eq,clo_iff,hC.end_ hlT hcl]
   refine ⟨fun h=>h.1,fun h=>⟨h,?_⟩⟩
   have:=(hC.mem (j:Int)).1 ((hC.end_ hlT hcl _).2 h)
   have h9:=(Ya.1 this.2).1
   have h10:=hC.len
   omega
end Go.VC
end

section
/- Contracts: after, events, First. -/
namespace Go.VC
open Go.Proofs Go.LexS

theorem evrows (L:List Ev):∀ r ∈ L.map Ev.cs,r.length=3:=fun r hr=>by obtain ⟨x,_,rfl⟩:=Yp.1 hr; rfl
theorem app151:appB Pz 321 324 3 24=true:=by kernel_rfl
theorem nan151 (x:Int) (h:Heap):Fn Pz 170 #[.int .i64 x] h fun v h'=>v=.bool false/\h'=h:=by
 apply vc170; unfold W170
 exact ⟨by rw [bne_self_eq_false],rfl⟩
theorem cmp110 (x y:Int) (h:Heap):Fn Pz 120 #[.int .i64 x,.int .i64 y] h fun v h'=>v=.int .i64 (cmpI x y)/\h'=h:=by
 apply vc120; unfold W120
 refine (nan151 x h).mono ?_
 rintro _ _ ⟨rfl,rfl⟩
 refine ⟨_,rfl,?_⟩
 refine (nan151 y _).mono ?_
 rintro _ _ ⟨rfl,rfl⟩
 refine ⟨_,rfl,?_⟩
 refine sB_f rfl (sB_f rfl ?_)
 unfold cmpI
 refine sBi (fun c=>?_) (fun c=>sBi (fun d=>?_) (fun d=>?_))
 ·
  exact ⟨by rw [if_pos c],rfl⟩
 ·
  exact ⟨by rw [if_neg c,if_pos d],rfl⟩
 ·
  exact ⟨by rw [if_neg c,if_neg d],rfl⟩
theorem or109 (l:List Int) (s:Sl) (h:Heap) (hr:Rw h 1 s (l.map inC)) (hm:l.length<=1048576) :
  Fn Pz 119 #[.slice s.a s.n s.c] h fun v h'=>v=.int .i64 (l.foldr orI3 0)/\h'=h:=by
 apply vc119; unfold W119
 have hn:=hr.ln
 refine up_loop (n:=s.n) (fun i h'=>h'=h/\l.foldr orI3 0=(l.drop i).foldr orI3 0) ⟨rfl,rfl⟩ ?_
 rintro - i h5 hi ⟨rfl,hq⟩
 refine sB_intro (fun l2=>?_) (fun l2=>?_)
 ·
  replace l2:=lt_t l2
  refine hr.nbI (by omega) (by omega) fun b o d g t=>?_
  replace g:l[i]?=some d:=g
  have hd:l.drop i=d::l.drop (i+1):=by
   obtain ⟨hl,he⟩:=Ya.1 g
   rw [List.drop_eq_getElem_cons hl,he]
  rw [hd,List.foldr_cons] at hq
  refine ⟨_,t.hd,?_⟩
  refine sBn (fun c=>?_) (fun c=>?_)
  ·
   refine ⟨?_,rfl⟩
   rw [hq]; unfold orI3; rw [if_pos c]
  ·
   refine Up.next l2 (by omega) ⟨rfl,?_⟩
   rw [hq]; unfold orI3; rw [if_neg (by omega)]
 ·
  replace l2:=lt_f l2
  rw [List.drop_eq_nil_of_le (by omega)] at hq
  exact ⟨by rw [hq]; rfl,rfl⟩
theorem compare138 (x y:Ev) (h:Heap):Fn Pz 265 #[.agg ⟨x.cs⟩,.agg ⟨y.cs⟩] h fun v h'=>v=.int .i64 (cmpE x y)/\Ext h h':=by
 apply vc265 x.send x.peer x.label y.send y.peer y.label; unfold W265
 have hs:=St.refl h
 refine hs.newb fun h7 hs=>?_
 refine hs.newb fun h8 hs=>?_
 refine ⟨_,hs.rd 1 rfl rfl,?_⟩
 refine ⟨_,hs.rd 0 rfl rfl,?_⟩
 refine sB_intro (fun c=>?_) (fun c=>?_)
 ·
  have hne:x.send ≠ y.send:=by simpa using c
  refine ⟨_,hs.rd 1 rfl rfl,?_⟩
  unfold cmpE
  rw [if_pos hne]
  refine sB_intro (fun d=>?_) (fun d=>?_)
  ·
   exact ⟨by rw [if_pos d],hs.ext⟩
  ·
   exact ⟨by rw [if_neg (by rw [d]; simp)],hs.ext⟩
 ·
  have he:x.send=y.send:=by simpa using c
  refine ⟨_,hs.rd 1 rfl rfl,_,hs.rd 0 rfl rfl,_,hs.rd 1 rfl rfl,_,hs.rd 0 rfl rfl,?_⟩
  refine (cmp110 _ _ _).mono ?_
  rintro _ _ ⟨rfl,rfl⟩
  refine ⟨_,rfl,fun _ _ _ _ hv=>hv,?_⟩
  refine (cmp110 _ _ _).mono ?_
  rintro _ _ ⟨rfl,rfl⟩
  refine ⟨_,rfl,fun _ _ _ _ hv=>hv,?_⟩
  refine hs.newb fun h22 hs=>?_
  have hs2:=hs.blkS 2 1 ([cmpI x.peer y.peer,cmpI x.label y.label].map inC) rfl (inrows _) rfl (by decide)
  refine (or109 [cmpI x.peer y.peer,cmpI x.label y.label] _ h22 (hs2.rows 0 rfl (by omega)) (show 2<=1048576 by decide)).mono ?_
  rintro _ _ ⟨rfl,rfl⟩
  refine ⟨_,rfl,?_,hs.ext⟩
  unfold cmpE
  rw [if_neg (by simpa using he)]
  show Value.int .i64 (orI3 _ (orI3 _ 0))=_
  congr 1
  unfold orI3
  split
  ·
   rfl
  ·
   split <;> omega
theorem elems_snoc {α:Type} {f:Nat->List α} (L:List Nat) {i:Nat} {n:Nat} (h:L[i]?=some n):(L.take (i+1)).flatMap f=(L.take i).flatMap f++f n:=by
 rw [take_snoc h,List.flatMap_append,List.flatMap_singleton]
theorem vis_total (es:List Ed) (role:Int):∀ (l:List Nat),l.Nodup->(l.flatMap fun n=>visL es role n).length<=es.length
 | l,hl=>by
  induction es with
  | nil=>
   have key:∀ l:List Nat,(l.flatMap fun n=>visL [] role n)=[]:=by
    intro l
    induction l with
    | nil=>rfl
    | cons a l ih=>rw [List.flatMap_cons,ih]; rfl
   rw [key]; exact Yyt _
  | cons x es ih=>
   have h1:∀ n,(visL (x::es) role n).length=(visL es role n).length+(if x.f=(n:Int) then (if (vis1 role x).isSome then 1 else 0) else 0):=fun n=>by
    unfold visL
    rw [List.filterMap_cons]
    by_cases h:x.f=(n:Int)
    ·
     rw [if_pos h,if_pos h]
     cases vis1 role x <;> simp
    ·
     rw [if_neg h,if_neg h]; rfl
   have h2:∀ l:List Nat,l.Nodup->(l.flatMap fun n=>visL (x::es) role n).length<=(l.flatMap fun n=>visL es role n).length+1:=by
    intro l hl
    have h3:∀ l:List Nat,l.Nodup->(l.flatMap fun n=>visL (x::es) role n).length<=(l.flatMap fun n=>visL es role n).length+(if x.f.toNat ∈ l then 1 else 0):=by
     intro l
     induction l with
     | nil=>simp
     | cons a l ihl=>
      intro hnd
      obtain ⟨hna,hnd⟩:=List.nodup_cons.1 hnd
      have h4:=ihl hnd
      rw [List.flatMap_cons,List.flatMap_cons,Yh,Yh,h1]
      by_cases hx:x.f=(a:Int)
      ·
       have hxa:x.f.toNat=a:=by omega
       rw [hxa,if_neg hna] at h4
       rw [if_pos hx,hxa,if_pos (Yx:a ∈ a::l)]
       split <;> omega
      ·
       rw [if_neg hx]
       have:(if x.f.toNat ∈ l then 1 else 0)<=(if x.f.toNat ∈ a::l then 1 else 0):=by
        split
        ·
         rw [if_pos (by simp_all)]; omega
        ·
         omega
       omega
    have:=h3 l hl
    split at this <;> omega
   have:=h2 l hl
   rw [Yyj]; omega
theorem elems_nodup (p:Nat->Bool):(elems p).Nodup:=List.Nodup.sublist List.filter_sublist List.nodup_range
theorem take_flat_le {es:List Ed} {role:Int} {p:Nat->Bool} (i j n:Nat) (h:(elems p)[i]?=some n):(((elems p).take i).flatMap (visL es role)).length+((visL es role n).take j).length<=es.length:=by
 have h1:=vis_total es role ((elems p).take (i+1)) ((elems_nodup p).sublist (List.take_sublist _ _))
 rw [elems_snoc (f:=visL es role) _ h,Yh] at h1
 rw [Yu]; omega
theorem flat_map_len {α β:Type} (L:List Nat) (f:Nat->List α) (g:α->β):(L.flatMap fun n=>(f n).map g).length=(L.flatMap f).length:=by
 induction L with
 | nil=>rfl
 | cons a L ih=>rw [List.flatMap_cons,List.flatMap_cons,Yh,Yh,ih,Yc]
theorem flat_filter_len {α β:Type} (L:List Nat) (f:Nat->List α) (g:α->Option β):(L.flatMap fun n=>(f n).filterMap g).length<=(L.flatMap f).length:=by
 induction L with
 | nil=>simp
 | cons a L ih=>
  rw [List.flatMap_cons,List.flatMap_cons,Yh,Yh]
  have:=List.length_filterMap_le g (f a)
  omega
end Go.VC
end

section
/- Contracts: after, events. -/
namespace Go.VC
open Go.Proofs Go.LexS

theorem elems_get {p:Nat->Bool} {i:Nat} {d:Int} (g:((elems p).map fun n:Nat=>(n:Int))[i]?=some d):∃ n:Nat,(elems p)[i]?=some n/\d=n:=by
 rw [Yd] at g
 obtain ⟨n,hn,rfl⟩:=Yya.1 g
 exact ⟨n,hn,rfl⟩
theorem range_get {n k d:Nat} (g:(List.range n)[k]?=some d):d=k:=by
 have hl:=(Ya.1 g).1
 rw [Yyd] at hl
 rw [Yyb hl] at g
 exact (Yyp g).symm
set_option maxHeartbeats 1000000 in
theorem events87 (g:Gl) (role:Int) (b:Nat) (p:Nat->Bool) (s:Sl) (h:Heap) (hl:LkI h ⟨b,0,none⟩ g role) (hV:ValidS g) (hx:Gx h) (hs0:SetV h s p) (hp:∀ j,p j=true->(j:Int)<g.n) :
  Fn Pz 215 #[.pointer (some ⟨b,0,none⟩),.slice s.a s.n s.c] h fun v h'=>Ext h h'/\∃ r:Sl,v=.slice r.a r.n r.c/\OwnS h' h.size 324 3 r ((evs g.es role p).map Ev.cs).flatten:=by
 apply vc215; unfold W215
 have hs:=St.refl h
 have hm4:=hV.num.m
 obtain ⟨hq,hv,qs,vs,h1,h2,h3,h4,h5,h6,h7,h8⟩:=hl.ex
 clear hl
 refine (list42 p s h hx hs0).mono ?_
 rintro _ hA ⟨EA,lst,rfl,ho⟩
 replace hs:=hs.gift EA ho (inrows _)
 refine ⟨_,rfl,?_⟩
 have hln:=(hs.rows 0 rfl (by omega)).ln
 rw [Yc] at hln
 have hel:(elems p).length<=4096:=Yys (List.length_filter_le _ _) (by rw [Yyd]; omega)
 have hs:=hs.nil_ 324 3
 refine up_loopA (n:=lst.n) hs (fun i rows=>rows=(((elems p).take i).flatMap fun n=>(visL g.es role n).map (·.x)).map Ev.cs) rfl ?_
 rintro - i out h9 rows hi hs rfl
 refine sB_intro (fun l=>?_) (fun l=>?_)
 ·
  replace l:=lt_t l
  refine (hs.rows 1 rfl (by omega)).nbI (by omega) (by omega) fun b10 o11 d10 g10 t10=>?_
  obtain ⟨n,hn,rfl⟩:=elems_get (i:=i) g10
  refine ⟨_,t10.hd,?_⟩
  have hpn:=hp n (elems_mem.1 (Yb hn)).2
  refine ⟨_,(atC_ext hs.ext h2).nth 10 rfl,?_⟩
  refine (h6.ext hs.ext).nbI (by omega) (by omega) fun b14 o15 k g14 t14=>?_
  have hk:=range_get g14
  rw [show ((n:Int)).toNat=n from rfl] at hk
  subst hk
  refine ⟨_,t14.hd,?_⟩
  have hrow:=h8 k (by omega)
  have hrn:=hrow.ln
  have hvl:(visL g.es role k).length<=g.es.length:=List.length_filterMap_le _ _
  refine up_loopA (n:=(vs k).n) hs (fun j rows=>rows=((((elems p).take i).flatMap fun n=>(visL g.es role n).map (·.x))++((visL g.es role k).take j).map (·.x)).map Ev.cs) (by simp) ?_
  rintro - j out2 h22 rows2 hj hs rfl
  refine sB_intro (fun l2=>?_) (fun l2=>?_)
  ·
   replace l2:=lt_t l2
   refine (hrow.ext hs.ext).nbI (by omega) (by omega) fun b23 o24 a g23 t23=>?_
   replace g23:(visL g.es role k)[j]?=some a:=g23
   refine ⟨_,_,_,_,t23,?_⟩
   refine hs.newput (vs:=a.cs) rfl rfl fun h30 hs=>?_
   refine ⟨_,_,_,hs.at 0 rfl (n:=3) rfl,?_⟩
   have hlen:=(hs.len 1 rfl (by omega)).1
   rw [Yc,Yh,Yc,flat_map_len] at hlen
   have hle:=take_flat_le (es:=g.es) (role:=role) i j k hn
   refine hs.app 1 rfl app151 (m:=1) [a.x.cs] rfl rfl (fun r hr=>by rw [Ye] at hr; rw [hr]; rfl) rfl (by omega) (by simp only [maxLen]; omega) fun s35 h36 ns35 hs=>?_
   refine UpA.next l2 (by omega) ⟨_,hs.drop 1,?_⟩
   rw [take_snoc g23,Ym,Ym,Ym,Ym,Yz]; rfl
  ·
   replace l2:=lt_f l2
   refine UpA.next l (by omega) ⟨_,hs,?_⟩
   rw [Yj (l:=visL g.es role k) (by omega),elems_snoc _ hn]
 ·
  replace l:=lt_f l
  rw [Yj (by omega)] at hs
  have hvt:((elems p).flatMap fun n=>(visL g.es role n).map (·.x)).length<=1048576:=by
   rw [flat_map_len]; exact Yys (vis_total g.es role (elems p) (elems_nodup p)) (by omega)
  refine (sort137 hs 0 rfl hvt).mono ?_
  rintro _ h40 ⟨rfl,l',hperm,hsrt,hs⟩
  refine ⟨rfl,?_⟩
  refine (compact139 hs 0 rfl (by rw [hperm.length_eq]; exact hvt)).mono ?_
  rintro _ h43 ⟨r,rfl,hs⟩
  refine ⟨_,rfl,hs.ext,r,rfl,?_⟩
  have:=hs.give 0 rfl
  rw [compact_sortE hperm hsrt] at this
  exact this
set_option maxHeartbeats 1000000 in
theorem after56 (g:Gl) (role:Int) (b:Nat) (p:Nat->Bool) (x:Ev) (s:Sl) (h:Heap) (hl:LkI h ⟨b,0,none⟩ g role) (hV:ValidS g) (hx:Gx h) (hs0:SetV h s p) (hp:∀ j,p j=true->(j:Int)<g.n) :
  Fn Pz 216 #[.pointer (some ⟨b,0,none⟩),.slice s.a s.n s.c,.agg ⟨x.cs⟩] h fun v h'=>Ext h h'/\∃ (c k:Nat) (ws:List Nat),v=.slice (some ⟨c,0,none⟩) k k/\h.size<=c/\Own h' c (ws.map wC).flatten 159/\SI ws k (clo g.es role (toL g.es role p x)):=by
 apply vc216 ⟨b,0,none⟩ s x.send x.peer x.label; unfold W216
 have hs:=St.refl h
 have hm4:=hV.num.m
 have hE:=hV.num.e
 have hl0:=hl
 obtain ⟨hq,hv,qs,vs,h1,h2,h3,h4,h5,h6,h7,h8⟩:=hl.ex
 clear hl
 refine hs.newb fun h4' hs=>?_
 refine (list42 p s h4' (hx.ext hs.ext) (hs0.ext hs.ext)).mono ?_
 rintro _ hA ⟨EA,lst,rfl,ho⟩
 replace hs:=hs.gift EA ho (inrows _)
 refine ⟨_,rfl,?_⟩
 have hln:=(hs.rows 0 rfl (by omega)).ln
 rw [Yc] at hln
 have hel:(elems p).length<=4096:=Yys (List.length_filter_le _ _) (by rw [Yyd]; omega)
 have hs:=hs.nil_ 3 1
 refine up_loopA (n:=lst.n) hs (fun i rows=>rows=(((elems p).take i).flatMap fun n=>(visL g.es role n).filterMap fun a=>if a.x=x then some a.to else none).map inC) rfl ?_
 rintro - i out h13 rows hi hs rfl
 refine sB_intro (fun l=>?_) (fun l=>?_)
 ·
  replace l:=lt_t l
  refine (hs.rows 1 rfl (by omega)).nbI (by omega) (by omega) fun b10 o11 d10 g10 t10=>?_
  obtain ⟨n,hn,rfl⟩:=elems_get (i:=i) g10
  refine ⟨_,t10.hd,?_⟩
  have hpn:=hp n (elems_mem.1 (Yb hn)).2
  refine ⟨_,(atC_ext hs.ext h2).nth 10 rfl,?_⟩
  refine (h6.ext hs.ext).nbI (by omega) (by omega) fun b14 o15 k g14 t14=>?_
  have hk:=range_get g14
  rw [show ((n:Int)).toNat=n from rfl] at hk
  subst hk
  refine ⟨_,t14.hd,?_⟩
  have hrow:=h8 k (by omega)
  have hrn:=hrow.ln
  have hvl:(visL g.es role k).length<=g.es.length:=List.length_filterMap_le _ _
  refine up_loopA (n:=(vs k).n) hs (fun j rows=>rows=((((elems p).take i).flatMap fun n=>(visL g.es role n).filterMap fun a=>if a.x=x then some a.to else none)++((visL g.es role k).take j).filterMap fun a=>if a.x=x then some a.to else none).map inC) (by simp) ?_
  rintro - j out2 h26 rows2 hj hs rfl
  refine sB_intro (fun l2=>?_) (fun l2=>?_)
  ·
   replace l2:=lt_t l2
   refine (hrow.ext hs.ext).nbI (by omega) (by omega) fun b23 o24 a g23 t23=>?_
   replace g23:(visL g.es role k)[j]?=some a:=g23
   refine ⟨_,_,_,_,t23,?_⟩
   refine hs.newput (vs:=a.cs) rfl rfl fun h30 hs=>?_
   refine ⟨_,_,_,hs.at 0 rfl (n:=3) rfl,?_⟩
   refine ⟨_,_,_,hs.at 3 rfl (n:=3) rfl,?_⟩
   have hdec:((a.x.send == x.send) && ((a.x.peer == x.peer) && ((a.x.label == x.label) && true)))=decide (a.x=x):=by
    rw [Bool.eq_iff_iff,decide_eq_true_eq]
    simp only [Yt,beq_iff_eq,and_true]
    exact ⟨fun ⟨e1,e2,e3⟩=>ev_ext e1 e2 e3,fun e=>by rw [e]; exact ⟨rfl,rfl,rfl⟩⟩
   rw [hdec]
   have hlen:=(hs.len 1 rfl (by omega)).1
   rw [Yc,Yh] at hlen
   have hf1:=flat_filter_len ((elems p).take i) (visL g.es role) (fun a:Ar=>if a.x=x then some a.to else none)
   have hf2:=List.length_filterMap_le (fun a:Ar=>if a.x=x then some a.to else none) ((visL g.es role k).take j)
   have hle:=take_flat_le (es:=g.es) (role:=role) i j k hn
   refine sBi (fun c=>?_) (fun c=>?_)
   ·
    refine ⟨_,hs.rd 0 rfl rfl,?_⟩
    refine hs.app 1 rfl app42 (m:=1) [inC a.to] rfl rfl (fun r hr=>by rw [Ye] at hr; rw [hr]; rfl) rfl (by omega) (by simp only [maxLen]; omega) fun s35 h36 ns35 hs=>?_
    refine UpA.next l2 (by omega) ⟨_,hs.drop 1,?_⟩
    rw [take_snoc g23,List.filterMap_append,Ym,Ym,Ym,Yz]
    simp [c]
   ·
    refine UpA.next l2 (by omega) ⟨_,hs.drop 1,?_⟩
    rw [take_snoc g23,List.filterMap_append]
    simp [c]
  ·
   replace l2:=lt_f l2
   refine UpA.next l (by omega) ⟨_,hs,?_⟩
   rw [Yj (l:=visL g.es role k) (by omega),elems_snoc _ hn]
 ·
  replace l:=lt_f l
  rw [Yj (by omega)] at hs
  have hf1:=flat_filter_len (elems p) (visL g.es role) (fun a:Ar=>if a.x=x then some a.to else none)
  have hf2:((elems p).flatMap (visL g.es role)).length<=g.es.length:=vis_total g.es role (elems p) (elems_nodup p)
  refine (closed53 g role b (toL g.es role p x) out h13 (hl0.ext hs.ext) hV (hs.rows 0 rfl (by omega)) (fun y hy=>?_) (by unfold toL; omega)).mono ?_
  ·
   unfold toL at hy
   obtain ⟨n,_,hy⟩:=List.mem_flatMap.1 hy
   obtain ⟨a,ha,hy⟩:=Yym.1 hy
   unfold visL at ha
   obtain ⟨e,he,ha⟩:=Yym.1 ha
   have hEe:=hE e he
   unfold EdS at hEe
   split at ha
   ·
    obtain ⟨ev,_,rfl⟩:=Yya.1 ha
    split at hy
    ·
     have:e.t=y:=Yyp hy
     omega
    ·
     cases hy
   ·
    cases ha
  ·
   rintro _ h50 ⟨E,c,k,ws,rfl,hc,ho,hS⟩
   exact ⟨⟨some ⟨c,0,none⟩,k,k⟩,rfl,(hs.step E).ext,c,k,ws,rfl,Yys hs.ext.1 hc,ho,hS⟩
end Go.VC
end

section
/- Contract: the first events of a state. -/
namespace Go.VC
open Go.Proofs Go.LexS

def aC (role:Int) (x:Ev):List Value:=[.int .i64 role,.bool x.send,.int .i64 x.peer,.int .i64 x.label,.slice none 0 0]
theorem app56:appB Pz 76 66 5 56=true:=by kernel_rfl
theorem full194 (x:Ev) (role:Int) (h:Heap):Fn Pz 307 #[.agg ⟨x.cs⟩,.int .i64 role] h fun v h'=>v=.agg ⟨aC role x⟩/\Ext h h':=by
 apply vc307 x.send x.peer x.label role; unfold W307
 have hs:=St.refl h
 refine hs.newb fun h4 hs=>?_
 refine hs.newb fun h5 hs=>?_
 refine ⟨_,hs.rd 1 rfl rfl,?_⟩
 refine ⟨_,hs.rd 1 rfl rfl,?_⟩
 refine ⟨_,hs.rd 1 rfl rfl,?_⟩
 refine hs.put 0 rfl (o:=0) (vs:=aC role x) rfl (show 5<=5 by decide) fun h9 hs=>?_
 refine ⟨_,_,_,_,⟨none,0,0⟩,hs.at 0 rfl (n:=5) rfl,rfl,hs.ext⟩
theorem full140 (g:Gl) (role:Int) (b:Nat) (l:List Ev) (s:Sl) (h:Heap) (hl:LkI h ⟨b,0,none⟩ g role) (hr:Rw h 3 s (l.map Ev.cs)) (hm:l.length<=1048576) :
  Fn Pz 267 #[.pointer (some ⟨b,0,none⟩),.slice s.a s.n s.c] h fun v h'=>Ext h h'/\∃ r:Sl,v=.slice r.a r.n r.c/\OwnS h' h.size 66 5 r ((l.map (aC role)).flatten):=by
 apply vc267; unfold W267
 have hs:=(St.refl h).nil_ 66 5
 have hn:=hr.ln
 obtain ⟨hq,hv,qs,vs,h1,h2,_⟩:=hl.ex
 refine up_loopA (n:=s.n) hs (fun i rows=>rows=(l.take i).map (aC role)) rfl ?_
 rintro - i out h6 rows hi hs rfl
 refine sB_intro (fun l2=>?_) (fun l2=>?_)
 ·
  replace l2:=lt_t l2
  refine (hr.ext hs.ext).nbI (by omega) (by omega) fun b7 o8 x g7 t7=>?_
  replace g7:l[i]?=some x:=g7
  refine ⟨_,_,_,t7,?_⟩
  refine hs.newput (vs:=x.cs) rfl rfl fun h13 hs=>?_
  refine ⟨_,_,_,hs.at 0 rfl (n:=3) rfl,?_⟩
  refine ⟨_,(atC_ext hs.ext h2).nth 8 rfl,?_⟩
  refine (full194 x role h13).mono ?_
  rintro _ h24 ⟨rfl,E⟩
  replace hs:=hs.step E
  refine ⟨_,_,_,_,⟨none,0,0⟩,rfl,?_⟩
  have hlen:=(hs.len 1 rfl (by omega)).1
  rw [Yc,Yu] at hlen
  refine hs.app 1 rfl app56 (m:=1) [aC role x] rfl rfl (fun r hr=>by rw [Ye] at hr; rw [hr]; rfl) rfl (by omega) (by simp only [maxLen]; omega) fun s26 h27 ns hs=>?_
  refine UpA.next l2 (by omega) ⟨_,hs.drop 1,?_⟩
  rw [take_snoc g7,Ym]; rfl
 ·
  replace l2:=lt_f l2
  rw [Yj (by omega)] at hs
  exact ⟨hs.ext,out,rfl,hs.give 0 rfl⟩
theorem Qr.lt {g:Gl} {role:Int} {l:List Int} (hV:ValidS g) (hl:∀ x ∈ l,0<=x/\x<g.n) {a:Int} (h:Qr g.es role l a):0<=a/\a<g.n:=by
 induction h with
 | base hm=>exact hl _ hm
 | step _ hx _=>
  obtain ⟨x,hx,_,_,rfl⟩:=hx
  have:=hV.num.e x hx
  unfold EdS at this
  omega
theorem clo_lt {g:Gl} {role:Int} {l:List Int} (hV:ValidS g) (hl:∀ x ∈ l,0<=x/\x<g.n) (j:Nat) (h:clo g.es role l j=true):(j:Int)<g.n:=((clo_iff.1 h).lt hV hl).2
theorem St.giftB {h0 h h':Heap} {L:List It} (hs:St h0 h L) (E:Ext h h') {c:Nat} {ws:List Nat} (hc:h.size<=c) (ho:Own h' c (ws.map wC).flatten 159):St h0 h' (setB c ws::L):=
 hs.more E (i:=setB c ws) ho fun b hb=>by cases hb; exact hc
theorem evs_le (es:List Ed) (role:Int) (p:Nat->Bool):(evL es role p).length<=es.length:=by
 unfold evL
 rw [flat_map_len]
 exact vis_total es role (elems p) (elems_nodup p)
theorem insE_len (x:Ev):∀ l:List Ev,(insE x l).length<=l.length+1
 | []=>by simp [insE]
 | y::r=>by
  rw [insE]
  split
  ·
   have:=insE_len x r; simp only [Yyj]; omega
  ·
   split <;> simp
theorem sortE_len (l:List Ev):(sortE l).length<=l.length:=by
 unfold sortE
 induction l with
 | nil=>simp
 | cons a l ih=>rw [List.foldr_cons,Yyj]; have:=insE_len a (l.foldr insE []); omega
noncomputable def firstE (g:Gl) (role:Int) (st:Int):List Ev:=evs g.es role (clo g.es role [st])
noncomputable def firstB (g:Gl) (role:Int) (st:Int):Bool:=clo g.es role [st] g.e.toNat
theorem first88 (g:Gl) (role st:Int) (h:Heap) (hg:GI h g) (hx:Gx h) (hV:ValidS g) (hr0:0<=role) (hr1:role<g.rs.length) (hs0:0<=st) (hs1:st<g.n) :
  Fn Pz 217 #[g.v,.int .i64 role,.int .i64 st] h fun v h'=>Ext h h'/\∃ r:Sl,v=.tuple ⟨[.slice r.a r.n r.c,.bool (firstB g role st),.int .i64 0]⟩/\OwnS h' h.size 66 5 r (((firstE g role st).map (aC role)).flatten):=by
 apply vc217 (bs g.nm) g.hr g.hd g.n g.s g.e g.he g.ht; unfold W217
 have hs:=St.refl h
 have hN:=hV.num.n
 refine hs.newb fun h9 hs=>?_
 refine ⟨_,_,_,_,_,_,_,_,hs.at 0 rfl (n:=8) rfl,?_⟩
 refine (look52 g role h9 (hg.ext hs.ext) (hx.ext hs.ext)).mono ?_
 rintro _ h21 ⟨E21,h1 | h1⟩
 ·
  exact absurd ⟨hV,hr0,hr1⟩ h1.1
 obtain ⟨_,b,hb,rfl,hl⟩:=h1
 replace hs:=hs.step E21
 refine ⟨_,_,rfl,?_⟩
 refine sBn (fun c1=>absurd rfl c1) (fun _=>?_)
 refine sBi (fun c2=>by omega) (fun c2=>?_)
 refine ⟨_,hs.rd 0 rfl rfl,?_⟩
 refine sBi (fun c3=>by omega) (fun c3=>?_)
 refine hs.newbE fun h23 E23 hs=>?_
 have hl2:∀ x ∈ [st],0<=x/\x<g.n:=fun x hx=>by rw [Ye] at hx; omega
 have hsl:=hs.blkS 1 1 ([st].map inC) rfl (inrows _) rfl (by decide)
 refine (closed53 g role b [st] _ h23 (hl.ext E23) hV (hsl.rows 0 rfl (by omega)) hl2 (show 1<=1048576 by decide)).mono ?_
 rintro _ h26 ⟨E26,c,k,ws,rfl,hc,ho,hS⟩
 replace hs:=hs.giftB E26 hc ho
 refine ⟨⟨some ⟨c,0,none⟩,k,k⟩,rfl,?_⟩
 refine ⟨_,hs.rd 2 rfl rfl,?_⟩
 refine (events87 g role b _ _ h26 (hl.ext (E23.trans E26)) hV (hx.ext hs.ext) (hS.v ho k) (clo_lt hV hl2)).mono ?_
 rintro _ h30 ⟨E30,r,rfl,hor⟩
 have hs0:=hs
 replace hs:=hs.gift E30 hor (evrows _)
 refine ⟨r,rfl,E30.sm,?_⟩
 refine (full140 g role b _ r h30 (hl.ext ((E23.trans E26).trans E30)) (hs.rows 0 rfl (by omega)) (by
  have:=sortE_len (evL g.es role (clo g.es role [st]))
  have:=evs_le g.es role (clo g.es role [st])
  have:=hV.num.m
  show (sortE _).length<=_
  omega)).mono ?_
 rintro _ h33 ⟨E33,r2,rfl,ho2⟩
 refine ⟨r2,rfl,E33.sm,?_⟩
 refine (has29 (clo g.es role [st]) ⟨some ⟨c,0,none⟩,k,k⟩ g.e h33 ((hS.v ho k).ext (E30.trans E33))).mono ?_
 rintro _ _ ⟨rfl,rfl⟩
 refine ⟨_,rfl,(hs.step E33).ext,r2,?_,ho2.mono hs.ext.1⟩
 rw [decide_eq_true (by omega),Bool.true_and]; rfl
end Go.VC
end

section
/- Contract: a row of the view table. -/
namespace Go.VC
open Go.Proofs Go.LexS

structure SE where
 b:Nat
 k:Nat
 ws:List Nat
 p:PSet
def SE.hd (e:SE):List Value:=[.slice (some ⟨e.b,0,none⟩) e.k e.k]
def SE.s (e:SE):Sl:=⟨some ⟨e.b,0,none⟩,e.k,e.k⟩
def SE.it (e:SE):It:=setB e.b e.ws
def bC (b:Bool):List Value:=[.bool b]
def TL (tb:Nat) (ge:Nat) (ss fs ars:Sl) (E:List SE) (M:List Mv):List It:=
 [.blk tb [.slice ss.a ss.n ss.c,.slice fs.a fs.n fs.c,.slice ars.a ars.n ars.c] 216,.sl ss 222 1 (E.map SE.hd),.sl fs 4 1 ((E.map fun e=>e.p ge).map bC),.sl ars 108 6 (M.map Mv.cs)]++E.map SE.it
theorem cal85:callable Pz 211=true:=by kernel_rfl
theorem eq85 (a b:Sl) (p q:PSet) (c:Addr) (h:Heap) (ha:SetV h a p) (hb:SetV h b q) (hc0:hc h c=some (.slice b.a b.n b.c)) :
  Fn Pz 211 #[.slice a.a a.n a.c,.pointer (some c)] h fun v h'=>(∃ r:Bool,v=.bool r/\(r=true ↔ p=q))/\h'=h:=by
 apply vc211; unfold W211
 refine ⟨b,hc0,?_⟩
 refine (equal86 p q a b h ha hb).mono ?_
 rintro _ _ ⟨⟨r,rfl,hr⟩,rfl⟩
 exact ⟨_,rfl,⟨_,rfl,hr⟩,rfl⟩
theorem idx84 (E:List SE) (q:PSet) (s b:Sl) (c:Addr) (h:Heap) (hr:Rw h 1 s (E.map SE.hd)) (hE:∀ e ∈ E,SetV h e.s e.p) (hb:SetV h b q) (hc0:hc h c=some (.slice b.a b.n b.c)) (hm:E.length<=1048576) :
  Fn Pz 210 #[.slice s.a s.n s.c,.func (.func 211) #[] #[.pointer (some c)]] h fun v h'=>(v=.int .i64 (if rowI (E.map (·.p)) q<E.length then ((rowI (E.map (·.p)) q:Nat):Int) else -1))/\h'=h:=by
 apply vc210; unfold W210
 have hn:=hr.ln
 refine up_loop (n:=s.n) (fun i h'=>h'=h/\∀ (j:Nat) (e:SE),j<i->E[j]?=some e->e.p ≠ q) ⟨rfl,fun j e hj=>by omega⟩ ?_
 rintro - i h5 hi ⟨rfl,hd⟩
 refine sB_intro (fun l=>?_) (fun l=>?_)
 ·
  replace l:=lt_t l
  refine hr.nbI (by omega) (by omega) fun b6 o7 e g t=>?_
  replace g:E[i]?=some e:=g
  refine ⟨e.s,t.hd,?_⟩
  rw [cal85,cond_true]
  refine (eq85 e.s b e.p q c h5 (hE e (Yb g)) hb hc0).mono ?_
  rintro _ _ ⟨⟨r,rfl,hr2⟩,rfl⟩
  refine ⟨_,rfl,sB_intro (fun c1=>?_) (fun c1=>?_)⟩
  ·
   have hq:=hr2.1 c1
   have:rowI (E.map (·.p)) q=i:=rowI_first (by rw [Yd,g,<- hq]; rfl) fun j p' hj hp'=>by
    rw [Yd] at hp'
    obtain ⟨e',he',rfl⟩:=Yya.1 hp'
    exact hd j e' hj he'
   exact ⟨by rw [this,if_pos (by omega)],rfl⟩
  ·
   refine Up.next l (by omega) ⟨rfl,fun j e' hj he'=>?_⟩
   by_cases e1:j=i
   ·
    subst e1; rw [g] at he'; cases he'
    intro hp; rw [hr2.2 hp] at c1; cases c1
   ·
    exact hd j e' (by omega) he'
 ·
  replace l:=lt_f l
  have:¬ rowI (E.map (·.p)) q<E.length:=by
   have h1:=rowI_lt (S:=E.map (·.p)) (p:=q)
   rw [Yc] at h1
   rw [h1]
   intro hm
   obtain ⟨e,he,hp⟩:=Yp.1 hm
   obtain ⟨j,hj⟩:=Yf.1 he
   exact hd j e (by have:=(Ya.1 hj).1; omega) hj hp
  exact ⟨by rw [if_neg this],rfl⟩
theorem app83:appB Pz 214 222 1 24=true:=by kernel_rfl
theorem app30:appB Pz 51 4 1 1=true:=by kernel_rfl
theorem St.oldb {h0 h h':Heap} {L L':List It} (hs:St h0 h L) (hs':St h0 h' L') {b:Nat} (hb:b<h0.size):h'[b]?=h[b]?:=(hs'.ext.2 b hb).trans (hs.ext.2 b hb).symm
theorem TL.set {h0 h:Heap} {A X:List It} {tb ge:Nat} {ss fs ars:Sl} {E:List SE} {M:List Mv} (hs:St h0 h (A++(TL tb ge ss fs ars E M++X))) (hE:∀ e ∈ E,SI e.ws e.k e.p):∀ e ∈ E,SetV h e.s e.p:=by
 intro e he
 have hm:e.it ∈ A++(TL tb ge ss fs ars E M++X):=by
  rw [Yk]; right
  rw [Yk]; left
  unfold TL
  rw [Yk]; right
  exact List.mem_map_of_mem he
 have:=(hs.ok _ hm).1
 exact (hE e he).v this e.k
set_option maxHeartbeats 1000000 in
theorem row83 {H0 h:Heap} {X:List It} {tb bg ge:Nat} {ss fs ars:Sl} {E:List SE} {M:List Mv} {e:SE} (hs:St H0 h (e.it::(TL tb ge ss fs ars E M++X))) (hE:∀ e ∈ E,SI e.ws e.k e.p) (he:SI e.ws e.k e.p) (hbg:bg<H0.size) (hge:hc h ⟨bg,5,none⟩=some (.int .i64 ge)) (hge2:ge<4096) (hm:E.length<=2000) :
  Fn Pz 209 #[.slice (some ⟨e.b,0,none⟩) e.k e.k,.pointer (some ⟨tb,0,none⟩),.pointer (some ⟨bg,0,none⟩)] h fun v h'=>v=.int .i64 (rowI (E.map (·.p)) e.p:Nat) /\
   ∃ (E':List SE) (ss' fs':Sl),St H0 h' (TL tb ge ss' fs' ars E' M++X)/\E'.map (·.p)=rowS (E.map (·.p)) e.p/\∀ e ∈ E',SI e.ws e.k e.p:=by
 apply vc209 e.s; unfold W209
 have hsl:=hs.len 2 (s:=ss) (e:=222) (n:=1) rfl (by omega)
 have hfl:=hs.len 3 (s:=fs) (e:=4) (n:=1) rfl (by omega)
 rw [Yc] at hsl
 rw [Yc,Yc] at hfl
 have hge':=hge
 refine hs.newbE fun h1 E1 hs=>?_
 refine ⟨ss,hs.rd 2 rfl rfl,?_⟩
 refine (idx84 E e.p ss e.s ⟨h.size,0,none⟩ h1 (hs.rw 3 rfl (by omega)) (TL.set (A:=[_,_]) hs hE) (he.v (hs.get (k:=1) rfl) e.k) (hs.rd 0 rfl rfl) (by omega)).mono ?_
 rintro _ h5 ⟨rfl,rfl⟩
 refine ⟨_,rfl,?_⟩
 have hlen:(E.map (·.p)).length=E.length:=Yc _
 by_cases hmem:rowI (E.map (·.p)) e.p<E.length
 ·
  rw [if_pos hmem]
  refine sB_t (decide_eq_true (by omega)) ⟨rfl,E,ss,fs,hs.drop 2,?_,hE⟩
  unfold rowS
  rw [if_pos (rowI_lt.1 (by rw [hlen]; exact hmem))]
 ·
  rw [if_neg hmem]
  have hnm:e.p ∉ E.map (·.p):=fun hm=>hmem (by have:=rowI_lt.2 hm; omega)
  refine sB_f (decide_eq_false (by omega)) ?_
  have hge5:=hc_ext E1 hge
  refine ⟨ss,hs.rd 2 rfl rfl,e.s,hs.rd 0 rfl rfl,fs,hs.rd 2 rfl rfl,e.s,hs.rd 0 rfl rfl,_,hge5,?_⟩
  refine hs.newbE fun h11 E11 hs11=>⟨E11.sm,?_⟩
  refine hs11.appended 4 (rows:=E.map SE.hd) rfl app83 (m:=1) (news:=[e.hd]) (hs11.at 0 rfl (n:=1) rfl) rfl (fun r hr=>by rw [Ye] at hr; rw [hr]; rfl) rfl (by omega) (by simp only [maxLen]; omega) fun s12 h13 n12 hs13=>?_
  refine ⟨sm_cons (hs11.oldb hs13 hbg) (sm_cons (hs11.same hs13 1 1 rfl rfl) (sm_cons (hs11.same hs13 3 3 rfl rfl) sm_nil)),?_⟩
  refine (has29 e.p e.s ge h13 (he.v (hs13.get (k:=2) rfl) e.k)).mono ?_
  rintro _ h16 ⟨rfl,rfl⟩
  refine ⟨_,rfl,fun _ _ _ _ hv=>hv,?_⟩
  have hbb:(decide (0<=((ge:Nat):Int)/\((ge:Nat):Int)<4096) && e.p ((ge:Nat):Int).toNat)=e.p ge:=by
   rw [decide_eq_true (by omega),Bool.true_and]; rfl
  rw [hbb]
  refine hs13.newbE fun h17 E17 hs17=>⟨E17.sm,?_⟩
  refine hs17.appended 6 (rows:=(E.map fun e=>e.p ge).map bC) rfl app30 (m:=1) (news:=[bC (e.p ge)]) (hs17.at 0 rfl (n:=1) rfl) rfl (fun r hr=>by rw [Ye] at hr; rw [hr]; rfl) rfl (by omega) (by simp only [maxLen]; omega) fun s18 h19 n18 hs19=>?_
  refine ⟨sm_cons (hs17.same hs19 2 2 rfl rfl) (sm_cons (hs17.same hs19 4 4 rfl rfl) sm_nil),?_⟩
  refine hs19.put 4 rfl (o:=0) (vs:=[.slice s12.a s12.n s12.c]) rfl (show 1<=3 by decide) fun h20 hs20=>?_
  refine ⟨sm_cons (hs19.oldb hs20 hbg) (sm_cons (hs19.same hs20 2 2 rfl rfl) sm_nil),?_⟩
  refine hs20.put 4 rfl (o:=1) (vs:=[.slice s18.a s18.n s18.c]) rfl (show 2<=3 by decide) fun h21 hs21=>?_
  refine ⟨s12,hs21.rd 4 rfl rfl,?_⟩
  refine ⟨?_,E++[e],s12,s18,?_,?_,fun x hx=>?_⟩
  ·
   rw [n12,hsl.1,w64 (by omega) (by omega),rowI_of_not hnm,hlen]
   congr 1; omega
  ·
   have e1:(E++[e]).map SE.hd=E.map SE.hd++[e.hd]:=by rw [Ym]; rfl
   have e2:((E++[e]).map fun e=>e.p ge).map bC=(E.map fun e=>e.p ge).map bC++[bC (e.p ge)]:=by rw [Ym,Ym]; rfl
   unfold TL
   rw [e1,e2,Ym]
   have h4:=hs21.drop 3
   have h5:St H0 h21 (e.it::([.blk tb [.slice s12.a s12.n s12.c,.slice s18.a s18.n s18.c,.slice ars.a ars.n ars.c] 216,.sl s12 222 1 (E.map SE.hd++[e.hd]),.sl s18 4 1 ((E.map fun e=>e.p ge).map bC++[bC (e.p ge)]),.sl ars 108 6 (M.map Mv.cs)]++E.map SE.it++X)):=h4
   refine h5.perm ?_
   rw [<- Yz]
   rw [<- List.cons_append]
   exact (List.Perm.append_right X (List.perm_append_singleton _ _)).symm
  ·
   unfold rowS
   rw [if_neg hnm,Ym]; rfl
  ·
   rcases Yk.1 hx with hx | hx
   ·
    exact hE x hx
   ·
    rw [Ye] at hx; rw [hx]; exact he
end Go.VC
end
