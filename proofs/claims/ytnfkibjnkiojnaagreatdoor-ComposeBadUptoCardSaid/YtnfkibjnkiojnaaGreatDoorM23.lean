/- UkVcC UkG UkH UkJ UkL UkMv WkAc WkVcI WkAd. -/
import Derived.Test.YtnfkibjnkiojnaaGreatDoorM02
import Derived.Test.YtnfkibjnkiojnaaGreatDoorProg
import Derived.KernelRfl
import Derived.Test.YtnfkibjnkiojnaaGreatDoorM01
import Derived.Test.YtnfkibjnkiojnaaGreatDoorM22
set_option linter.unusedVariables false
set_option linter.unusedSimpArgs false
set_option maxRecDepth 100000

section
namespace Go.VC
open Go.Proofs

def W52 (p0_1 p0_2 p0_3:Int) (p0_4 p0_5 p0_6:Sl) (h:Heap) (R:Value->Heap->Prop):Prop:=
 (Wn h (L1 p0_1 p0_2 p0_3 p0_4 p0_5 p0_6) 55 fun h7=>
 (∃ x8 x9 x10 x11 x12 x13,aL1 h7 (aS h 0) x8 x9 x10 x11 x12 x13 /\
 (Fn Pz 86 #[.agg ⟨(L1 x8 x9 x10 x11 x12 x13)⟩] h7
 (fun v14 h16=>∃ x15,iB v14 x15 /\
 (sB x15
 ((∃ x17 x18 x19 x20 x21 x22,aL1 h16 (aS h 0) x17 x18 x19 x20 x21 x22 /\
 (Fn Pz 87 #[.agg ⟨(L1 x17 x18 x19 x20 x21 x22)⟩] h16
 (fun v23 h25=>∃ x24,iB v23 x24 /\
 (Sm [(aS h 0)] h16 h25 /\
 (sB x24
 ((∃ x26 x27 x28 x29 x30 x31,aL1 h25 (aS h 0) x26 x27 x28 x29 x30 x31 /\
 (Fn Pz 88 #[.agg ⟨(L1 x26 x27 x28 x29 x30 x31)⟩] h25
 (fun v32 h34=>∃ x33,iB v32 x33 /\
 (Sm [(aS h 0),(aS h 0)] h25 h34 /\
 (sB x33
 ((∃ x35 x36 x37 x38 x39 x40,aL1 h34 (aS h 0) x35 x36 x37 x38 x39 x40 /\
 (∃ x41,rI h34 (aS h 1) x41 /\
 (Fn Pz 89 #[.agg ⟨(L1 x35 x36 x37 x38 x39 x40)⟩] h34
 (fun v42 h44=>∃ x43,iS v42 x43 /\
 (Sm [(aS h 1),(aS h 0),(aS h 0),(aS h 0)] h34 h44 /\
 R (.bool ((x43.n:Int) == x41)) h44))))))
 (R (.bool false) h34)))))))
 (R (.bool false) h25)))))))
 (R (.bool false) h16))))))
theorem vc52 (p0_1 p0_2 p0_3:Int) (p0_4 p0_5 p0_6:Sl) (h:Heap) (R:Value->Heap->Prop) (H:W52 p0_1 p0_2 p0_3 p0_4 p0_5 p0_6 h R):Fn Pz 52 #[.agg ⟨(L1 p0_1 p0_2 p0_3 p0_4 p0_5 p0_6)⟩] h R:=fnI (A:=.z) (by kernel_rfl) H

def W86 (p0_1 p0_2 p0_3:Int) (p0_4 p0_5 p0_6:Sl) (h:Heap) (R:Value->Heap->Prop):Prop:=
 (Wn h (L1 p0_1 p0_2 p0_3 p0_4 p0_5 p0_6) 55 fun h7=>
 (∃ x8,rI h7 (aS h 0) x8 /\
 (sB (decide (x8<0))
 (R (.bool false) h7)
 ((∃ x9,rI h7 (aS h 0) x9 /\
 (sB (decide (x9 >= 6))
 (R (.bool false) h7)
 ((∃ x10,rI h7 (aS h 1) x10 /\
 (sB (decide (x10<1))
 (R (.bool false) h7)
 ((∃ x11,rI h7 (aS h 1) x11 /\
 (sB (decide (x11 > 200))
 (R (.bool false) h7)
 ((∃ x12,rI h7 (aS h 2) x12 /\
 (sB (decide (x12<0))
 (R (.bool false) h7)
 ((∃ x13,rI h7 (aS h 2) x13 /\
 (∃ x14,rI h7 (aS h 1) x14 /\
 (sB (decide (x13 >= x14))
 (R (.bool false) h7)
 ((∃ x15,rS h7 (aS h 3) x15 /\
 (∃ x16,rI h7 (aS h 1) x16 /\
 (sB ((x15.n:Int) != x16)
 (R (.bool false) h7)
 ((∃ x17,rS h7 (aS h 4) x17 /\
 (sB (decide ((x17.n:Int) > 400))
 (R (.bool false) h7)
 ((QI 0 h7 fun I18 i_21 h22 m20=>(
 (∃ x23,rS h22 (aS h 4) x23 /\
 (sB (decide (i_21<(x23.n:Int)))
 ((∃ x24,rS h22 (aS h 4) x24 /\
 (NB x24.a fun b25 o26=>(Ib i_21 x24.n /\
 (∃ x27 x28 x29 x30 x31 x32,aL0 h22 ⟨b25,o26+Int.toNat i_21*6,none⟩ x27 x28 x29 x30 x31 x32 /\
 (Wn h22 [vI 0,.bool false,vI 0,vI 0,vI 0,.bool false] 108 fun h33=>
 (Wp h33 (aS h22 0) 6 (L0 x27 x28 x29 x30 x31 x32) fun h34=>
 (∃ x35,rI h34 (aS h22 0) x35 /\
 (sB (decide (x35<0))
 (R (.bool false) h34)
 ((∃ x36,rI h34 (aS h22 0) x36 /\
 (∃ x37,rI h34 (aS h 1) x37 /\
 (sB (decide (x36 >= x37))
 (R (.bool false) h34)
 ((∃ x38,rI h34 (aS h22 4) x38 /\
 (sB (decide (x38<0))
 (R (.bool false) h34)
 ((∃ x39,rI h34 (aS h22 4) x39 /\
 (∃ x40,rI h34 (aS h 1) x40 /\
 (sB (decide (x39 >= x40))
 (R (.bool false) h34)
 ((∃ x41,rI h34 (aS h22 2) x41 /\
 (sB (decide (x41<0))
 (R (.bool false) h34)
 ((∃ x42,rI h34 (aS h22 2) x42 /\
 (sB (decide (x42 >= 6))
 (R (.bool false) h34)
 ((∃ x43,rI h34 (aS h22 2) x43 /\
 (∃ x44,rI h34 (aS h 0) x44 /\
 (sB (x43 == x44)
 (R (.bool false) h34)
 ((∃ x45,rI h34 (aS h22 3) x45 /\
 (sB (decide (x45<0))
 (R (.bool false) h34)
 ((∃ x46,rI h34 (aS h22 3) x46 /\
 (sB (decide (x46 >= 40))
 (R (.bool false) h34)
 ((∃ m47,m47<m20/\I18 (IntKind.wrap .i64 (i_21+1)) h34 m47))))))))))))))))))))))))))))))))))))))
 (R (.bool true) h22))))))))))))))))))))))))))))))))
theorem vc86 (p0_1 p0_2 p0_3:Int) (p0_4 p0_5 p0_6:Sl) (h:Heap) (R:Value->Heap->Prop) (H:W86 p0_1 p0_2 p0_3 p0_4 p0_5 p0_6 h R):Fn Pz 86 #[.agg ⟨(L1 p0_1 p0_2 p0_3 p0_4 p0_5 p0_6)⟩] h R:=fnI (A:=(.s .z (.s .z (.s (.s .z (.b (.l [(3,.one (.int .i64))] .z))) .z)))) (by kernel_rfl) H

def W87 (p0_1 p0_2 p0_3:Int) (p0_4 p0_5 p0_6:Sl) (h:Heap) (R:Value->Heap->Prop):Prop:=
 (Wn h (L1 p0_1 p0_2 p0_3 p0_4 p0_5 p0_6) 55 fun h7=>
 (QI 0 h7 fun I8 i_11 h12 m10=>(
 (∃ x13,rS h12 (aS h 4) x13 /\
 (sB (decide (i_11<(x13.n:Int)))
 ((∃ x14,rS h12 (aS h 4) x14 /\
 (NB x14.a fun b15 o16=>(Ib i_11 x14.n /\
 (∃ x17 x18 x19 x20 x21 x22,aL0 h12 ⟨b15,o16+Int.toNat i_11*6,none⟩ x17 x18 x19 x20 x21 x22 /\
 (Wn h12 [vI 0,.bool false,vI 0,vI 0,vI 0,.bool false] 108 fun h23=>
 (Wp h23 (aS h12 0) 6 (L0 x17 x18 x19 x20 x21 x22) fun h24=>
 (∃ x25,rB h24 (aS h12 5) x25 /\
 (sB x25
 ((∃ x26,rB h24 (aS h12 1) x26 /\
 (sB (!x26)
 (R (.bool false) h24)
 ((∃ x27,rI h24 (aS h12 0) x27 /\
 (∃ x28,rI h24 (aS h 2) x28 /\
 (sB (x27 == x28)
 (R (.bool false) h24)
 ((∃ x29,rS h24 (aS h 3) x29 /\
 (∃ x30,rI h24 (aS h12 0) x30 /\
 (NB x29.a fun b31 o32=>(Ib x30 x29.n /\
 (∃ x33,rB h24 ⟨b31,o32+Int.toNat x30*1,none⟩ x33 /\
 (sB x33
 (R (.bool false) h24)
 ((QI 0 h24 fun I34 k_37 h38 m36=>(
 (∃ x39,rS h38 (aS h 4) x39 /\
 (sB (decide (k_37<(x39.n:Int)))
 ((∃ x40,rS h38 (aS h 4) x40 /\
 (NB x40.a fun b41 o42=>(Ib k_37 x40.n /\
 (∃ x43 x44 x45 x46 x47 x48,aL0 h38 ⟨b41,o42+Int.toNat k_37*6,none⟩ x43 x44 x45 x46 x47 x48 /\
 (Wn h38 [vI 0,.bool false,vI 0,vI 0,vI 0,.bool false] 108 fun h49=>
 (Wp h49 (aS h38 0) 6 (L0 x43 x44 x45 x46 x47 x48) fun h50=>
 (sB (k_37 != i_11)
 ((∃ x51,rI h50 (aS h12 0) x51 /\
 (∃ x52,rI h50 (aS h38 0) x52 /\
 (sB (x51 == x52)
 ((∃ x53,rB h50 (aS h12 1) x53 /\
 (∃ x54,rB h50 (aS h38 1) x54 /\
 (sB (!(x53 == x54))
 (R (.bool false) h50)
 ((∃ x55,rI h50 (aS h12 2) x55 /\
 (∃ x56,rI h50 (aS h38 2) x56 /\
 (sB (x55 == x56)
 ((∃ x57,rI h50 (aS h12 3) x57 /\
 (∃ x58,rI h50 (aS h38 3) x58 /\
 (sB (x57 == x58)
 (R (.bool false) h50)
 ((∃ x59,rB h50 (aS h12 5) x59 /\
 (sB x59
 (R (.bool false) h50)
 ((∃ x60,rB h50 (aS h12 5) x60 /\
 (sB x60
 ((∃ x61,rI h50 (aS h38 4) x61 /\
 (∃ x62,rI h50 (aS h12 0) x62 /\
 (sB (x61 == x62)
 ((∃ x63,rB h50 (aS h38 1) x63 /\
 (sB (!x63)
 (R (.bool false) h50)
 ((∃ x64,rI h50 (aS h38 3) x64 /\
 (∃ x65,rI h50 (aS h12 3) x65 /\
 (sB (x64 != x65)
 (R (.bool false) h50)
 ((∃ m66,m66<m36/\I34 (IntKind.wrap .i64 (k_37+1)) h50 m66)))))))))
 ((∃ m67,m67<m36/\I34 (IntKind.wrap .i64 (k_37+1)) h50 m67))))))
 ((∃ m68,m68<m36/\I34 (IntKind.wrap .i64 (k_37+1)) h50 m68))))))))))))
 ((∃ x69,rB h50 (aS h12 5) x69 /\
 (sB x69
 (R (.bool false) h50)
 ((∃ x70,rB h50 (aS h12 5) x70 /\
 (sB x70
 ((∃ x71,rI h50 (aS h38 4) x71 /\
 (∃ x72,rI h50 (aS h12 0) x72 /\
 (sB (x71 == x72)
 ((∃ x73,rB h50 (aS h38 1) x73 /\
 (sB (!x73)
 (R (.bool false) h50)
 ((∃ x74,rI h50 (aS h38 3) x74 /\
 (∃ x75,rI h50 (aS h12 3) x75 /\
 (sB (x74 != x75)
 (R (.bool false) h50)
 ((∃ m76,m76<m36/\I34 (IntKind.wrap .i64 (k_37+1)) h50 m76)))))))))
 ((∃ m77,m77<m36/\I34 (IntKind.wrap .i64 (k_37+1)) h50 m77))))))
 ((∃ m78,m78<m36/\I34 (IntKind.wrap .i64 (k_37+1)) h50 m78))))))))))))))))
 ((∃ x79,rB h50 (aS h12 5) x79 /\
 (sB x79
 ((∃ x80,rI h50 (aS h38 4) x80 /\
 (∃ x81,rI h50 (aS h12 0) x81 /\
 (sB (x80 == x81)
 ((∃ x82,rB h50 (aS h38 1) x82 /\
 (sB (!x82)
 (R (.bool false) h50)
 ((∃ x83,rI h50 (aS h38 3) x83 /\
 (∃ x84,rI h50 (aS h12 3) x84 /\
 (sB (x83 != x84)
 (R (.bool false) h50)
 ((∃ m85,m85<m36/\I34 (IntKind.wrap .i64 (k_37+1)) h50 m85)))))))))
 ((∃ m86,m86<m36/\I34 (IntKind.wrap .i64 (k_37+1)) h50 m86))))))
 ((∃ m87,m87<m36/\I34 (IntKind.wrap .i64 (k_37+1)) h50 m87)))))))))
 ((∃ x88,rB h50 (aS h12 5) x88 /\
 (sB x88
 ((∃ x89,rI h50 (aS h38 4) x89 /\
 (∃ x90,rI h50 (aS h12 0) x90 /\
 (sB (x89 == x90)
 ((∃ x91,rB h50 (aS h38 1) x91 /\
 (sB (!x91)
 (R (.bool false) h50)
 ((∃ x92,rI h50 (aS h38 3) x92 /\
 (∃ x93,rI h50 (aS h12 3) x93 /\
 (sB (x92 != x93)
 (R (.bool false) h50)
 ((∃ m94,m94<m36/\I34 (IntKind.wrap .i64 (k_37+1)) h50 m94)))))))))
 ((∃ m95,m95<m36/\I34 (IntKind.wrap .i64 (k_37+1)) h50 m95))))))
 ((∃ m96,m96<m36/\I34 (IntKind.wrap .i64 (k_37+1)) h50 m96)))))))))))))
 ((∃ m97,m97<m10/\I8 (IntKind.wrap .i64 (i_11+1)) h38 m97)))))))))))))))))))))
 ((QI 0 h24 fun I98 k_101 h102 m100=>(
 (∃ x103,rS h102 (aS h 4) x103 /\
 (sB (decide (k_101<(x103.n:Int)))
 ((∃ x104,rS h102 (aS h 4) x104 /\
 (NB x104.a fun b105 o106=>(Ib k_101 x104.n /\
 (∃ x107 x108 x109 x110 x111 x112,aL0 h102 ⟨b105,o106+Int.toNat k_101*6,none⟩ x107 x108 x109 x110 x111 x112 /\
 (Wn h102 [vI 0,.bool false,vI 0,vI 0,vI 0,.bool false] 108 fun h113=>
 (Wp h113 (aS h102 0) 6 (L0 x107 x108 x109 x110 x111 x112) fun h114=>
 (sB (k_101 != i_11)
 ((∃ x115,rI h114 (aS h12 0) x115 /\
 (∃ x116,rI h114 (aS h102 0) x116 /\
 (sB (x115 == x116)
 ((∃ x117,rB h114 (aS h12 1) x117 /\
 (∃ x118,rB h114 (aS h102 1) x118 /\
 (sB (!(x117 == x118))
 (R (.bool false) h114)
 ((∃ x119,rI h114 (aS h12 2) x119 /\
 (∃ x120,rI h114 (aS h102 2) x120 /\
 (sB (x119 == x120)
 ((∃ x121,rI h114 (aS h12 3) x121 /\
 (∃ x122,rI h114 (aS h102 3) x122 /\
 (sB (x121 == x122)
 (R (.bool false) h114)
 ((∃ x123,rB h114 (aS h12 5) x123 /\
 (sB x123
 (R (.bool false) h114)
 ((∃ x124,rB h114 (aS h12 5) x124 /\
 (sB x124
 ((∃ x125,rI h114 (aS h102 4) x125 /\
 (∃ x126,rI h114 (aS h12 0) x126 /\
 (sB (x125 == x126)
 ((∃ x127,rB h114 (aS h102 1) x127 /\
 (sB (!x127)
 (R (.bool false) h114)
 ((∃ x128,rI h114 (aS h102 3) x128 /\
 (∃ x129,rI h114 (aS h12 3) x129 /\
 (sB (x128 != x129)
 (R (.bool false) h114)
 ((∃ m130,m130<m100/\I98 (IntKind.wrap .i64 (k_101+1)) h114 m130)))))))))
 ((∃ m131,m131<m100/\I98 (IntKind.wrap .i64 (k_101+1)) h114 m131))))))
 ((∃ m132,m132<m100/\I98 (IntKind.wrap .i64 (k_101+1)) h114 m132))))))))))))
 ((∃ x133,rB h114 (aS h12 5) x133 /\
 (sB x133
 (R (.bool false) h114)
 ((∃ x134,rB h114 (aS h12 5) x134 /\
 (sB x134
 ((∃ x135,rI h114 (aS h102 4) x135 /\
 (∃ x136,rI h114 (aS h12 0) x136 /\
 (sB (x135 == x136)
 ((∃ x137,rB h114 (aS h102 1) x137 /\
 (sB (!x137)
 (R (.bool false) h114)
 ((∃ x138,rI h114 (aS h102 3) x138 /\
 (∃ x139,rI h114 (aS h12 3) x139 /\
 (sB (x138 != x139)
 (R (.bool false) h114)
 ((∃ m140,m140<m100/\I98 (IntKind.wrap .i64 (k_101+1)) h114 m140)))))))))
 ((∃ m141,m141<m100/\I98 (IntKind.wrap .i64 (k_101+1)) h114 m141))))))
 ((∃ m142,m142<m100/\I98 (IntKind.wrap .i64 (k_101+1)) h114 m142))))))))))))))))
 ((∃ x143,rB h114 (aS h12 5) x143 /\
 (sB x143
 ((∃ x144,rI h114 (aS h102 4) x144 /\
 (∃ x145,rI h114 (aS h12 0) x145 /\
 (sB (x144 == x145)
 ((∃ x146,rB h114 (aS h102 1) x146 /\
 (sB (!x146)
 (R (.bool false) h114)
 ((∃ x147,rI h114 (aS h102 3) x147 /\
 (∃ x148,rI h114 (aS h12 3) x148 /\
 (sB (x147 != x148)
 (R (.bool false) h114)
 ((∃ m149,m149<m100/\I98 (IntKind.wrap .i64 (k_101+1)) h114 m149)))))))))
 ((∃ m150,m150<m100/\I98 (IntKind.wrap .i64 (k_101+1)) h114 m150))))))
 ((∃ m151,m151<m100/\I98 (IntKind.wrap .i64 (k_101+1)) h114 m151)))))))))
 ((∃ x152,rB h114 (aS h12 5) x152 /\
 (sB x152
 ((∃ x153,rI h114 (aS h102 4) x153 /\
 (∃ x154,rI h114 (aS h12 0) x154 /\
 (sB (x153 == x154)
 ((∃ x155,rB h114 (aS h102 1) x155 /\
 (sB (!x155)
 (R (.bool false) h114)
 ((∃ x156,rI h114 (aS h102 3) x156 /\
 (∃ x157,rI h114 (aS h12 3) x157 /\
 (sB (x156 != x157)
 (R (.bool false) h114)
 ((∃ m158,m158<m100/\I98 (IntKind.wrap .i64 (k_101+1)) h114 m158)))))))))
 ((∃ m159,m159<m100/\I98 (IntKind.wrap .i64 (k_101+1)) h114 m159))))))
 ((∃ m160,m160<m100/\I98 (IntKind.wrap .i64 (k_101+1)) h114 m160)))))))))))))
 ((∃ m161,m161<m10/\I8 (IntKind.wrap .i64 (i_11+1)) h102 m161))))))))))))))))
 (R (.bool true) h12))))))
theorem vc87 (p0_1 p0_2 p0_3:Int) (p0_4 p0_5 p0_6:Sl) (h:Heap) (R:Value->Heap->Prop) (H:W87 p0_1 p0_2 p0_3 p0_4 p0_5 p0_6 h R):Fn Pz 87 #[.agg ⟨(L1 p0_1 p0_2 p0_3 p0_4 p0_5 p0_6)⟩] h R:=fnI (A:=(.s .z (.s (.s .z (.b (.l [(3,.one (.int .i64))] (.s .z (.s (.b (.s .z (.s .z (.s .z (.b (.l [(5,.one (.int .i64))] .z)))))) .z))))) .z))) (by kernel_rfl) H

def W88 (p0_1 p0_2 p0_3:Int) (p0_4 p0_5 p0_6:Sl) (h:Heap) (R:Value->Heap->Prop):Prop:=
 (Wn h (L1 p0_1 p0_2 p0_3 p0_4 p0_5 p0_6) 55 fun h7=>
 (QI 0 h7 fun I8 i_11 h12 m10=>(
 (∃ x13,rS h12 (aS h 5) x13 /\
 (sB (decide (i_11<(x13.n:Int)))
 ((∃ x14,rS h12 (aS h 5) x14 /\
 (NB x14.a fun b15 o16=>(Ib i_11 x14.n /\
 (∃ x17 x18 x19,aL4 h12 ⟨b15,o16+Int.toNat i_11*3,none⟩ x17 x18 x19 /\
 (Wn h12 [vI 0,vI 0,vI 0] 190 fun h20=>
 (Wp h20 (aS h12 0) 3 (L4 x17 x18 x19) fun h21=>
 (∃ x22,rI h21 (aS h12 1) x22 /\
 (sB (decide (x22<1))
 (R (.bool false) h21)
 ((∃ x23,rI h21 (aS h12 1) x23 /\
 (sB (decide (x23 > 1000))
 (R (.bool false) h21)
 ((∃ x24,rI h21 (aS h12 2) x24 /\
 (sB (decide (x24<0))
 (R (.bool false) h21)
 ((∃ x25,rI h21 (aS h12 2) x25 /\
 (∃ x26,rS h21 (aS h 4) x26 /\
 (sB (decide (x25 >= (x26.n:Int)))
 (R (.bool false) h21)
 ((sB (decide (i_11 > 0))
 ((∃ x27,rI h21 (aS h12 0) x27 /\
 (∃ x28,rS h21 (aS h 5) x28 /\
 (NB x28.a fun b29 o30=>((0<=((IntKind.wrap .i64 (i_11 - 1)):Int)/\((IntKind.wrap .i64 (i_11 - 1)):Int)<(x28.n:Nat)) /\
 (∃ x31,rI h21 ⟨b29,o30+Int.toNat (IntKind.wrap .i64 (i_11 - 1))*3,none⟩ x31 /\
 (sB (decide (x27<=x31))
 (R (.bool false) h21)
 ((∃ x32,rS h21 (aS h 4) x32 /\
 (∃ x33,rI h21 (aS h12 2) x33 /\
 (NB x32.a fun b34 o35=>(Ib x33 x32.n /\
 (∃ x36 x37 x38 x39 x40 x41,aL0 h21 ⟨b34,o35+Int.toNat x33*6,none⟩ x36 x37 x38 x39 x40 x41 /\
 (Wn h21 [vI 0,.bool false,vI 0,vI 0,vI 0,.bool false] 108 fun h42=>
 (Wp h42 (aS h21 0) 6 (L0 x36 x37 x38 x39 x40 x41) fun h43=>
 (∃ x44,rI h43 (aS h21 0) x44 /\
 (∃ x45,rI h43 (aS h12 0) x45 /\
 (sB (x44 != x45)
 (R (.bool false) h43)
 ((∃ x46,rB h43 (aS h21 1) x46 /\
 (sB (!x46)
 (R (.bool false) h43)
 ((∃ x47,rB h43 (aS h21 5) x47 /\
 (sB x47
 (R (.bool false) h43)
 ((∃ m48,m48<m10/\I8 (IntKind.wrap .i64 (i_11+1)) h43 m48))))))))))))))))))))))))))
 ((∃ x49,rS h21 (aS h 4) x49 /\
 (∃ x50,rI h21 (aS h12 2) x50 /\
 (NB x49.a fun b51 o52=>(Ib x50 x49.n /\
 (∃ x53 x54 x55 x56 x57 x58,aL0 h21 ⟨b51,o52+Int.toNat x50*6,none⟩ x53 x54 x55 x56 x57 x58 /\
 (Wn h21 [vI 0,.bool false,vI 0,vI 0,vI 0,.bool false] 108 fun h59=>
 (Wp h59 (aS h21 0) 6 (L0 x53 x54 x55 x56 x57 x58) fun h60=>
 (∃ x61,rI h60 (aS h21 0) x61 /\
 (∃ x62,rI h60 (aS h12 0) x62 /\
 (sB (x61 != x62)
 (R (.bool false) h60)
 ((∃ x63,rB h60 (aS h21 1) x63 /\
 (sB (!x63)
 (R (.bool false) h60)
 ((∃ x64,rB h60 (aS h21 5) x64 /\
 (sB x64
 (R (.bool false) h60)
 ((∃ m65,m65<m10/\I8 (IntKind.wrap .i64 (i_11+1)) h60 m65))))))))))))))))))))))))))))))))))))))))
 (R (.bool true) h12))))))
theorem vc88 (p0_1 p0_2 p0_3:Int) (p0_4 p0_5 p0_6:Sl) (h:Heap) (R:Value->Heap->Prop) (H:W88 p0_1 p0_2 p0_3 p0_4 p0_5 p0_6 h R):Fn Pz 88 #[.agg ⟨(L1 p0_1 p0_2 p0_3 p0_4 p0_5 p0_6)⟩] h R:=fnI (A:=(.s .z (.s (.s .z (.b (.l [(3,.one (.int .i64))] .z))) .z))) (by kernel_rfl) H

def W89 (p0_1 p0_2 p0_3:Int) (p0_4 p0_5 p0_6:Sl) (h:Heap) (R:Value->Heap->Prop):Prop:=
 (Wn h (L1 p0_1 p0_2 p0_3 p0_4 p0_5 p0_6) 55 fun h7=>
 (∃ x8,rI h7 (aS h 2) x8 /\
 (Wn h7 [vI x8] 3 fun h9=>
 (QSI ⟨(some (aS h7 0)),1,1⟩ 0 h9 fun I10 out_13 n_14 h15 m12=>(
 (∃ x16,rI h15 (aS h 1) x16 /\
 (sB (decide (n_14<x16))
 ((QSI out_13 0 h15 fun I17 out_20 i_21 h22 m19=>(
 (∃ x23,rS h22 (aS h 4) x23 /\
 (sB (decide (i_21<(x23.n:Int)))
 ((∃ x24,rS h22 (aS h 4) x24 /\
 (NB x24.a fun b25 o26=>(Ib i_21 x24.n /\
 (∃ x27,rI h22 ⟨b25,o26+Int.toNat i_21*6,none⟩ x27 /\
 (Fn Pz 128 #[vS out_20,vI x27] h22
 (fun v28 h30=>∃ x29,iB v28 x29 /\
 (sB x29
 ((∃ x31,rS h30 (aS h 4) x31 /\
 (NB x31.a fun b32 o33=>(Ib i_21 x31.n /\
 (∃ x34,rI h30 ⟨b32,o33+Int.toNat i_21*6+4,none⟩ x34 /\
 (Fn Pz 129 #[vS out_20,vI x34] h30
 (fun v35 h37=>∃ x36,iS v35 x36 /\
 (∃ m38,m38<m19/\I17 x36 (IntKind.wrap .i64 (i_21+1)) h37 m38))))))))
 ((∃ m39,m39<m19/\I17 out_20 (IntKind.wrap .i64 (i_21+1)) h30 m39))))))))))
 ((∃ m40,m40<m12/\I10 out_20 (IntKind.wrap .i64 (n_14+1)) h22 m40)))))))
 (R (vS out_13) h15))))))))
theorem vc89 (p0_1 p0_2 p0_3:Int) (p0_4 p0_5 p0_6:Sl) (h:Heap) (R:Value->Heap->Prop) (H:W89 p0_1 p0_2 p0_3 p0_4 p0_5 p0_6 h R):Fn Pz 89 #[.agg ⟨(L1 p0_1 p0_2 p0_3 p0_4 p0_5 p0_6)⟩] h R:=fnI (A:=(.s .z (.s .z (.s (.s .z (.b (.l [(3,.one (.slice)),(4,.one (.int .i64))] (.s .z (.s (.b (.s .z (.b (.l [(3,.one (.slice)),(5,.one (.int .i64))] .z)))) .z))))) .z)))) (by kernel_rfl) H

def W45 (p0_1 p0_2 p0_3:Int) (p0_4 p0_5 p0_6:Sl) (h:Heap) (R:Value->Heap->Prop):Prop:=
 (Wn h (L1 p0_1 p0_2 p0_3 p0_4 p0_5 p0_6) 55 fun h7=>
 (∃ x8,rI h7 (aS h 1) x8 /\
 (sB (decide (x8<=40))
 ((∃ x9,rS h7 (aS h 3) x9 /\
 (sB (decide ((x9.n:Int)<=45))
 ((∃ x10,rS h7 (aS h 4) x10 /\
 (sB (decide ((x10.n:Int)<=80))
 ((∃ x11,rS h7 (aS h 5) x11 /\
 R (.bool (decide ((x11.n:Int)<=45))) h7))
 (R (.bool false) h7))))
 (R (.bool false) h7))))
 (R (.bool false) h7))))
theorem vc45 (p0_1 p0_2 p0_3:Int) (p0_4 p0_5 p0_6:Sl) (h:Heap) (R:Value->Heap->Prop) (H:W45 p0_1 p0_2 p0_3 p0_4 p0_5 p0_6 h R):Fn Pz 45 #[.agg ⟨(L1 p0_1 p0_2 p0_3 p0_4 p0_5 p0_6)⟩] h R:=fnI (A:=.z) (by kernel_rfl) H

end Go.VC
end

section
/- Contracts: the reference's validity of a machine: numbers, moves apart, timeouts. (Numbers of layer 26's seat.) -/
namespace Go.VC
open Go.Proofs Go.LexS
theorem numbers58 (m:Mch) (sf sm sl:Sl) (h:Heap) (hM:MI h m sf sm sl):Fn Pz 86 #[.agg ⟨mC m sf sm sl⟩] h (RP (NumM m) h):=by
 apply vc86 m.role m.n m.s sf sm sl; unfold W86
 have hfn:=hM.pf.ln
 have hmn:=hM.pm.ln
 have hmm:=hM.pm.sm
 refine (St.refl h).newb fun h7 hs=>?_
 refine ⟨_,hs.rd 0 rfl rfl,sBi (fun c=>RP.f (fun hG=>by have:=hG.r; omega) hs.ext) (fun c1=>?_)⟩
 refine ⟨_,hs.rd 0 rfl rfl,sBi (fun c=>RP.f (fun hG=>by have:=hG.r; omega) hs.ext) (fun c2=>?_)⟩
 refine ⟨_,hs.rd 0 rfl rfl,sBi (fun c=>RP.f (fun hG=>by have:=hG.n; omega) hs.ext) (fun c3=>?_)⟩
 refine ⟨_,hs.rd 0 rfl rfl,sBi (fun c=>RP.f (fun hG=>by have:=hG.n; omega) hs.ext) (fun c4=>?_)⟩
 refine ⟨_,hs.rd 0 rfl rfl,sBi (fun c=>RP.f (fun hG=>by have:=hG.s; omega) hs.ext) (fun c5=>?_)⟩
 refine ⟨_,hs.rd 0 rfl rfl,_,hs.rd 0 rfl rfl,sBi (fun c=>RP.f (fun hG=>by have:=hG.s; omega) hs.ext) (fun c5b=>?_)⟩
 refine ⟨sf,hs.rd 0 rfl rfl,_,hs.rd 0 rfl rfl,sBn (fun c=>RP.f (fun hG=>by have:=hG.fl; omega) hs.ext) (fun c6=>?_)⟩
 refine ⟨sm,hs.rd 0 rfl rfl,sBi (fun c=>RP.f (fun hG=>by have:=hG.ml; omega) hs.ext) (fun c7=>?_)⟩
 refine up_loopS (n:=sm.n) hs (fun i=>∀ (j:Nat) (x:Mv),j<i->m.mv[j]?=some x->0<=x.f/\x.f<m.n/\0<=x.t/\x.t<m.n/\0<=x.peer/\x.peer<6/\x.peer ≠ m.role/\0<=x.label/\x.label<40) (fun j x hj=>by omega) ?_
 rintro - i h30 hi ⟨hs,hq⟩
 refine ⟨sm,hs.rd 0 rfl rfl,?_⟩
 refine sB_intro (fun c=>?_) (fun c=>RP.t ⟨by omega,by omega,by omega,by omega,by omega,fun x hx=>?_⟩ hs.ext)
 ·
  replace c:=lt_t c
  refine ⟨sm,hs.rd 0 rfl rfl,?_⟩
  refine (hM.pm.rw.ext hs.ext).nbI (by omega) (by omega) fun b o x gx t=>?_
  replace gx:m.mv[i]?=some x:=gx
  have hxm:=Yb gx
  refine ⟨_,_,_,_,_,_,t,?_⟩
  refine hs.newput (vs:=x.cs) rfl rfl fun h40 hs=>?_
  repeat' (first
    | (refine ⟨_,hs.rd 0 rfl rfl,?_⟩)
    | (refine ⟨_,hs.rd 1 rfl rfl,?_⟩)
    | (refine sBi (fun _=>?_) (fun _=>?_))
    | (refine sBe (fun _=>?_) (fun _=>?_))
    | (refine sBn (fun _=>?_) (fun _=>?_)))
  all_goals first
   | exact RP.f (fun hG=>by have:=hG.mv x hxm; omega) hs.ext
   | (refine Up.next c (by omega) ⟨hs.drop 1,fun j y hj hy=>?_⟩
      by_cases e:j=i
      ·
       subst e; rw [gx] at hy; cases hy; omega
      ·
       exact hq j y (by omega) hy)
 ·
  replace c:=lt_f c
  obtain ⟨j,hj⟩:=Yf.1 hx
  exact hq j x (by have:=(Ya.1 hj).1; omega) hj
def ApA (m:Mch) (x:Mv):Prop:=x.ag=true->x.send=true/\x.f ≠ m.s/\m.fin[x.f.toNat]?=some false
def ApP (i:Nat) (x:Mv) (k:Nat) (y:Mv):Prop:=(k ≠ i->x.f=y.f->x.send=y.send/\¬ (x.peer=y.peer/\x.label=y.label)/\x.ag=false)/\(x.ag=true->y.t=x.f->y.send=true/\y.label=x.label)
def ApM (m:Mch):Prop:=∀ (i:Nat) x,m.mv[i]?=some x->ApA m x/\∀ (k:Nat) y,m.mv[k]?=some y->ApP i x k y
set_option maxHeartbeats 3200000 in
theorem apart59 (m:Mch) (sf sm sl:Sl) (h:Heap) (hM:MI h m sf sm sl) (hN:NumM m):Fn Pz 87 #[.agg ⟨mC m sf sm sl⟩] h (RP (ApM m) h):=by
 apply vc87 m.role m.n m.s sf sm sl; unfold W87
 have hfn:=hM.pf.ln
 have hmn:=hM.pm.ln
 have hmm:=hM.pm.sm
 have hfl:=hN.fl
 refine (St.refl h).newb fun h7 hs=>?_
 refine up_loopS (n:=sm.n) hs (fun i=>∀ (j:Nat) x,j<i->m.mv[j]?=some x->ApA m x/\∀ (k:Nat) y,m.mv[k]?=some y->ApP j x k y) (fun j x hj=>by omega) ?_
 clear hs
 rintro - i h6 hi ⟨hs,hq⟩
 refine ⟨sm,hs.rd 0 rfl rfl,?_⟩
 refine sB_intro (fun c=>?_) (fun c=>?_)
 ·
  replace c:=lt_t c
  refine ⟨sm,hs.rd 0 rfl rfl,?_⟩
  refine (hM.pm.rw.ext hs.ext).nbI (by omega) (by omega) fun b7 o8 x gx t=>?_
  replace gx:m.mv[i]?=some x:=gx
  have hxm:=Yb gx
  have hxr:=hN.mv x hxm
  refine ⟨_,_,_,_,_,_,t,?_⟩
  refine hs.newput (vs:=x.cs) rfl rfl fun h16 hs=>?_
  refine ⟨_,hs.rd 0 rfl rfl,sB_intro (fun c1=>?_) (fun c1=>?_)⟩
  ·
   refine ⟨_,hs.rd 0 rfl rfl,sB_intro (fun c2=>RP.f (fun hG=>by have:=((hG i x gx).1 c1).1; rw [this] at c2; cases c2) hs.ext) (fun c2=>?_)⟩
   refine ⟨_,hs.rd 0 rfl rfl,_,hs.rd 1 rfl rfl,sBe (fun c4=>RP.f (fun hG=>((hG i x gx).1 c1).2.1 c4) hs.ext) (fun c4=>?_)⟩
   refine ⟨sf,hs.rd 1 rfl rfl,_,hs.rd 0 rfl rfl,?_⟩
   refine (hM.pf.rw.ext hs.ext).nbI (by omega) (by omega) fun b29 o30 f gf t29=>?_
   refine ⟨_,t29.hd,sB_intro (fun c5=>RP.f (fun hG=>by have:=((hG i x gx).1 c1).2.2; rw [gf] at this; cases this; cases c5) hs.ext) (fun c5=>?_)⟩
   have hff:m.fin[x.f.toNat]?=some false:=by rw [gf,c5]
   refine up_loopS (n:=sm.n) hs (fun k=>∀ (j:Nat) y,j<k->m.mv[j]?=some y->ApP i x j y) (fun j x hj=>by omega) ?_
   clear hs
   rintro - k h37 hk ⟨hs,hq2⟩
   refine ⟨sm,hs.rd 1 rfl rfl,?_⟩
   refine sB_intro (fun c6=>?_) (fun c6=>?_)
   ·
    replace c6:=lt_t c6
    refine ⟨sm,hs.rd 1 rfl rfl,?_⟩
    refine (hM.pm.rw.ext hs.ext).nbI (by omega) (by omega) fun b38 o39 y gy t38=>?_
    replace gy:m.mv[k]?=some y:=gy
    have hym:=Yb gy
    refine ⟨_,_,_,_,_,_,t38,?_⟩
    refine hs.newput (vs:=y.cs) rfl rfl fun h47 hs=>?_
    repeat' (first
     | (refine ⟨_,hs.rd 0 rfl rfl,?_⟩)
     | (refine ⟨_,hs.rd 1 rfl rfl,?_⟩)
     | (refine sBe (fun _=>?_) (fun _=>?_))
     | (refine sBn (fun _=>?_) (fun _=>?_))
     | (refine sB_intro (fun _=>?_) (fun _=>?_)))
    all_goals first
     | (refine RP.f (fun hG=>?_) hs.ext
        have hG:=(hG i x gx).2 k y gy
        unfold ApP at hG
        simp_all; done)
     | (refine RP.f (fun hG=>?_) hs.ext
        have hG:=(hG i x gx).2 k y gy
        unfold ApP at hG
        have hki:k ≠ i:=by omega
        simp_all; done)
     | (refine Up.next c6 (by omega) ⟨hs.drop 1,fun j z hj hz=>?_⟩
        by_cases e:j=k
        ·
         subst e; rw [gy] at hz; cases hz
         constructor
         ·
          intro g1 g2
          first
           | (exfalso; omega)
           | (refine ⟨?_,?_,?_⟩ <;> simp_all)
         ·
          intro g1 g2
          refine ⟨?_,?_⟩ <;> simp_all
        ·
         exact hq2 j z (by omega) hz)
   ·
    replace c6:=lt_f c6
    refine Up.next c (by omega) ⟨hs.drop 1,fun j z hj hz=>?_⟩
    by_cases e:j=i
    ·
     subst e; rw [gx] at hz; cases hz
     refine ⟨?_,fun k y hy=>hq2 k y (by have:=(Ya.1 hy).1; omega) hy⟩
     unfold ApA
     simp_all
    ·
     exact hq j z (by omega) hz
  ·
   refine up_loopS (n:=sm.n) hs (fun k=>∀ (j:Nat) y,j<k->m.mv[j]?=some y->ApP i x j y) (fun j x hj=>by omega) ?_
   clear hs
   rintro - k h37 hk ⟨hs,hq2⟩
   refine ⟨sm,hs.rd 1 rfl rfl,?_⟩
   refine sB_intro (fun c6=>?_) (fun c6=>?_)
   ·
    replace c6:=lt_t c6
    refine ⟨sm,hs.rd 1 rfl rfl,?_⟩
    refine (hM.pm.rw.ext hs.ext).nbI (by omega) (by omega) fun b38 o39 y gy t38=>?_
    replace gy:m.mv[k]?=some y:=gy
    have hym:=Yb gy
    refine ⟨_,_,_,_,_,_,t38,?_⟩
    refine hs.newput (vs:=y.cs) rfl rfl fun h47 hs=>?_
    repeat' (first
     | (refine ⟨_,hs.rd 0 rfl rfl,?_⟩)
     | (refine ⟨_,hs.rd 1 rfl rfl,?_⟩)
     | (refine sBe (fun _=>?_) (fun _=>?_))
     | (refine sBn (fun _=>?_) (fun _=>?_))
     | (refine sB_intro (fun _=>?_) (fun _=>?_)))
    all_goals first
     | (refine RP.f (fun hG=>?_) hs.ext
        have hG:=(hG i x gx).2 k y gy
        unfold ApP at hG
        simp_all; done)
     | (refine RP.f (fun hG=>?_) hs.ext
        have hG:=(hG i x gx).2 k y gy
        unfold ApP at hG
        have hki:k ≠ i:=by omega
        simp_all; done)
     | (refine Up.next c6 (by omega) ⟨hs.drop 1,fun j z hj hz=>?_⟩
        by_cases e:j=k
        ·
         subst e; rw [gy] at hz; cases hz
         constructor
         ·
          intro g1 g2
          first
           | (exfalso; omega)
           | (refine ⟨?_,?_,?_⟩ <;> simp_all)
         ·
          intro g1 g2
          refine ⟨?_,?_⟩ <;> simp_all
        ·
         exact hq2 j z (by omega) hz)
   ·
    replace c6:=lt_f c6
    refine Up.next c (by omega) ⟨hs.drop 1,fun j z hj hz=>?_⟩
    by_cases e:j=i
    ·
     subst e; rw [gx] at hz; cases hz
     refine ⟨?_,fun k y hy=>hq2 k y (by have:=(Ya.1 hy).1; omega) hy⟩
     unfold ApA
     simp_all
    ·
     exact hq j z (by omega) hz
 ·
  replace c:=lt_f c
  exact RP.t (fun i x hx=>hq i x (by have:=(Ya.1 hx).1; omega) hx) hs.ext
set_option maxHeartbeats 1600000 in
theorem timed60 (m:Mch) (sf sm sl:Sl) (h:Heap) (hM:MI h m sf sm sl):Fn Pz 88 #[.agg ⟨mC m sf sm sl⟩] h (RP (TimM m) h):=by
 apply vc88 m.role m.n m.s sf sm sl; unfold W88
 have hmn:=hM.pm.ln
 have hmm:=hM.pm.sm
 have hln:=hM.pl.ln
 have hlm:=hM.pl.sm
 refine (St.refl h).newb fun h7 hs=>?_
 refine up_loopS (n:=sl.n) hs (fun i=>∀ (j:Nat) x,j<i->m.li[j]?=some x->TmM m j x) (fun j x hj=>by omega) ?_
 clear hs
 rintro - i h12 hi ⟨hs,hq⟩
 refine ⟨sl,hs.rd 0 rfl rfl,?_⟩
 refine sB_intro (fun c=>?_) (fun c=>?_)
 ·
  replace c:=lt_t c
  refine ⟨sl,hs.rd 0 rfl rfl,?_⟩
  refine (hM.pl.rw.ext hs.ext).nbI (by omega) (by omega) fun b15 o16 x gx t=>?_
  replace gx:m.li[i]?=some x:=gx
  have no:∀ {p:Prop},(TmM m i x->p)->TimM m->p:=fun f hG=>f (hG i x gx)
  refine ⟨_,_,_,t,?_⟩
  refine hs.newput (vs:=x.cs) rfl rfl fun h21 hs=>?_
  refine ⟨_,hs.rd 0 rfl rfl,sBi (fun d1=>RP.f (no fun hT=>by have:=hT.k; omega) hs.ext) (fun d1=>?_)⟩
  refine ⟨_,hs.rd 0 rfl rfl,sBi (fun d2=>RP.f (no fun hT=>by have:=hT.k; omega) hs.ext) (fun d2=>?_)⟩
  refine ⟨_,hs.rd 0 rfl rfl,sBi (fun d3=>RP.f (no fun hT=>by have:=hT.e.1; omega) hs.ext) (fun d3=>?_)⟩
  refine ⟨_,hs.rd 0 rfl rfl,sm,hs.rd 1 rfl rfl,sBi (fun d4=>RP.f (no fun hT=>by obtain ⟨_,y,hy,_⟩:=hT.e; have:=(Ya.1 hy).1; omega) hs.ext) (fun d4=>?_)⟩
  refine sBi (fun c1=>?_) (fun c1=>?_)
  ·
   refine ⟨_,hs.rd 0 rfl rfl,sl,hs.rd 1 rfl rfl,?_⟩
   have hw:IntKind.wrap .i64 ((i:Int) - 1)=((i - 1:Nat):Int):=by rw [w64 (by omega) (by omega)]; omega
   rw [hw]
   refine (hM.pl.rw.ext hs.ext).nbI (by omega) (by omega) fun b29 o30 w gw t29=>?_
   replace gw:m.li[i - 1]?=some w:=gw
   refine ⟨_,t29.hd,sBi (fun d0=>RP.f (no fun hT=>by have:=hT.o w (by omega) gw; omega) hs.ext) (fun d0=>?_)⟩
   have hord:∀ z,0<i->m.li[i - 1]?=some z->z.s<x.s:=fun z _ hz=>by rw [gw] at hz; cases hz; omega
   refine ⟨sm,hs.rd 1 rfl rfl,_,hs.rd 0 rfl rfl,?_⟩
   refine (hM.pm.rw.ext hs.ext).nbI (by omega) (by omega) fun b26 o27 y gy t26=>?_
   refine ⟨_,_,_,_,_,_,t26,?_⟩
   refine hs.newput (vs:=y.cs) rfl rfl fun h35 hs=>?_
   refine ⟨_,hs.rd 0 rfl rfl,_,hs.rd 1 rfl rfl,sBn (fun d5=>RP.f (no fun hT=>by obtain ⟨_,z,hz,hf,_⟩:=hT.e; rw [gy] at hz; cases hz; exact d5 hf) hs.ext) (fun d5=>?_)⟩
   refine ⟨_,hs.rd 0 rfl rfl,sB_intro (fun d6=>RP.f (no fun hT=>by obtain ⟨_,z,hz,_,hf,_⟩:=hT.e; rw [gy] at hz; cases hz; rw [hf] at d6; cases d6) hs.ext) (fun d6=>?_)⟩
   refine ⟨_,hs.rd 0 rfl rfl,sB_intro (fun d7=>RP.f (no fun hT=>by obtain ⟨_,z,hz,_,_,hf⟩:=hT.e; rw [gy] at hz; cases hz; rw [hf] at d7; cases d7) hs.ext) (fun d7=>?_)⟩
   refine Up.next c (by omega) ⟨hs.drop 2,fun j z hj hz=>?_⟩
   by_cases e:j=i
   ·
    subst e; rw [gx] at hz; cases hz
    exact ⟨hord,by omega,by omega,y,gy,d5,bT d6,d7⟩
   ·
    exact hq j z (by omega) hz
  ·
   have hord:∀ z,0<i->m.li[i - 1]?=some z->z.s<x.s:=fun z h0 _=>by omega
   refine ⟨sm,hs.rd 1 rfl rfl,_,hs.rd 0 rfl rfl,?_⟩
   refine (hM.pm.rw.ext hs.ext).nbI (by omega) (by omega) fun b26 o27 y gy t26=>?_
   refine ⟨_,_,_,_,_,_,t26,?_⟩
   refine hs.newput (vs:=y.cs) rfl rfl fun h35 hs=>?_
   refine ⟨_,hs.rd 0 rfl rfl,_,hs.rd 1 rfl rfl,sBn (fun d5=>RP.f (no fun hT=>by obtain ⟨_,z,hz,hf,_⟩:=hT.e; rw [gy] at hz; cases hz; exact d5 hf) hs.ext) (fun d5=>?_)⟩
   refine ⟨_,hs.rd 0 rfl rfl,sB_intro (fun d6=>RP.f (no fun hT=>by obtain ⟨_,z,hz,_,hf,_⟩:=hT.e; rw [gy] at hz; cases hz; rw [hf] at d6; cases d6) hs.ext) (fun d6=>?_)⟩
   refine ⟨_,hs.rd 0 rfl rfl,sB_intro (fun d7=>RP.f (no fun hT=>by obtain ⟨_,z,hz,_,_,hf⟩:=hT.e; rw [gy] at hz; cases hz; rw [hf] at d7; cases d7) hs.ext) (fun d7=>?_)⟩
   refine Up.next c (by omega) ⟨hs.drop 2,fun j z hj hz=>?_⟩
   by_cases e:j=i
   ·
    subst e; rw [gx] at hz; cases hz
    exact ⟨hord,by omega,by omega,y,gy,d5,bT d6,d7⟩
   ·
    exact hq j z (by omega) hz
 ·
  replace c:=lt_f c
  exact RP.t (fun i x hx=>hq i x (by have:=(Ya.1 hx).1; omega) hx) hs.ext
theorem ap_iff {m:Mch}:ApM m ↔ DetM m/\AgM m:=by
 constructor
 ·
  intro hA
  refine ⟨fun i k x y hx hy hne hf=>?_,?_⟩
  ·
   have h1:=((hA i x hx).2 k y hy).1 (fun e=>hne e.symm) hf
   refine ⟨fun e=>h1.2.1 ?_,h1.1⟩
   have e1:=congrArg Ev.peer e
   have e2:=congrArg Ev.label e
   exact ⟨e1,e2⟩
  ·
   have g:∀ x ∈ m.mv,∃ i:Nat,m.mv[i]?=some x:=fun x hx=>Yf.1 hx
   refine ⟨fun x hx ha=>?_,fun x hx ha=>?_,fun x hx ha=>?_,fun x hx ha=>?_,fun x hx ha y hy ht=>?_⟩
   ·
    obtain ⟨i,hi⟩:=g x hx; exact ((hA i x hi).1 ha).1
   ·
    obtain ⟨i,hi⟩:=g x hx
    have hm:i ∈ outIx m x.f:=outIx_mem.2 ⟨x,hi,rfl⟩
    have hall:∀ k ∈ outIx m x.f,k=i:=fun k hk=>by
     obtain ⟨y,hy,hf⟩:=outIx_mem.1 hk
     by_cases e:k=i
     ·
      exact e
     ·
      have:=(((hA i x hi).2 k y hy).1 e hf.symm).2.2
      rw [ha] at this; cases this
    have nd:=outIx_nodup m x.f
    revert hm hall nd
    cases outIx m x.f with
    | nil=>intro hm; cases hm
    | cons a l=>
     cases l with
     | nil=>intros; rfl
     | cons b l=>
      intro hm hall nd
      have h1:=hall a (Yx)
      have h2:=hall b (Yn _ Yx)
      rw [List.nodup_cons] at nd
      exact absurd (by rw [h1,<- h2]; exact Yx) nd.1
   ·
    obtain ⟨i,hi⟩:=g x hx; exact ((hA i x hi).1 ha).2.1
   ·
    obtain ⟨i,hi⟩:=g x hx; exact ((hA i x hi).1 ha).2.2
   ·
    obtain ⟨i,hi⟩:=g x hx
    obtain ⟨k,hk⟩:=g y hy
    exact ((hA i x hi).2 k y hk).2 ha ht
 ·
  rintro ⟨hD,hG⟩ i x hx
  have hxm:=Yb hx
  refine ⟨fun ha=>⟨hG.s x hxm ha,hG.i x hxm ha,hG.f x hxm ha⟩,fun k y hy=>⟨fun hne hf=>?_,fun ha ht=>hG.p x hxm ha y (Yb hy) ht⟩⟩
  have h1:=hD i k x y hx hy (fun e=>hne e.symm) hf
  refine ⟨h1.2,fun e=>h1.1 (ev_ext h1.2 e.1 e.2),?_⟩
  cases ha:x.ag with
  | false=>rfl
  | true=>
   have hl:=hG.o x hxm ha
   have m1:i ∈ outIx m x.f:=outIx_mem.2 ⟨x,hx,rfl⟩
   have m2:k ∈ outIx m x.f:=outIx_mem.2 ⟨y,hy,hf.symm⟩
   revert m1 m2 hl
   cases outIx m x.f with
   | nil=>intro h; cases h
   | cons a l=>
    intro hl m1 m2
    have:l=[]:=List.eq_nil_of_length_eq_zero (by rw [Yyj] at hl; omega)
    subst this
    rw [Ye] at m1 m2
    exact absurd (m2.trans m1.symm) hne
end Go.VC
end

section
/- Contracts: the reference's sets al lists, what is reached, the reference's Valid; Few and Small. (Numbers of layer 26's seat.) -/
namespace Go.VC
open Go.Proofs Go.LexS
def withL (x:Int):List Int->List Int
 | []=>[x]
 | y::l=>if x<=y then (if x<y then x::y::l else y::l) else y::withL x l
theorem withL_mem {x v:Int}:∀ {T:List Int},v ∈ withL x T ↔ v=x\/v ∈ T
 | []=>by simp [withL]
 | y::l=>by
  unfold withL
  split
  ·
   split
   ·
    rw [Yr]
   ·
    have:x=y:=by omega
    subst this
    simp
  ·
   rw [Yr,withL_mem,Yr]
   constructor
   ·
    rintro (h | h | h)
    ·
     exact .inr (.inl h)
    ·
     exact .inl h
    ·
     exact .inr (.inr h)
   ·
    rintro (h | h | h)
    ·
     exact .inr (.inl h)
    ·
     exact .inl h
    ·
     exact .inr (.inr h)
theorem withL_sorted {x:Int}:∀ {T:List Int},T.Pairwise (· < ·)->(withL x T).Pairwise (· < ·)
 | [],_=>by simp [withL]
 | y::l,h=>by
  unfold withL
  have h':=List.pairwise_cons.1 h
  split
  ·
   split
   ·
    refine List.pairwise_cons.2 ⟨fun v hv=>?_,h⟩
    rcases Yr.1 hv with rfl | hv
    ·
     assumption
    ·
     have:=h'.1 v hv; omega
   ·
    exact h
  ·
   refine List.pairwise_cons.2 ⟨fun v hv=>?_,withL_sorted h'.2⟩
   rcases withL_mem.1 hv with rfl | hv
   ·
    omega
   ·
    exact h'.1 v hv
theorem withL_len {x:Int}:∀ {T:List Int},x ∉ T->(withL x T).length=T.length+1
 | [],_=>rfl
 | y::l,h=>by
  unfold withL
  rw [Yr,not_or] at h
  split
  ·
   split
   ·
    rfl
   ·
    exact absurd (by omega) h.1
  ·
   rw [Yyj,withL_len h.2,Yyj]
theorem withL_same {x:Int}:∀ {T:List Int},T.Pairwise (· < ·)->x ∈ T->withL x T=T
 | [],_,h=>by cases h
 | y::l,h,hm=>by
  unfold withL
  have h':=List.pairwise_cons.1 h
  split
  ·
   split
   ·
    rcases Yr.1 hm with e | e
    ·
     omega
    ·
     have:=h'.1 x e; omega
   ·
    rfl
  ·
   rcases Yr.1 hm with e | e
   ·
    omega
   ·
    rw [withL_same h'.2 e]
theorem sorted_le:∀ {T:List Int} {a b:Int},a<=b->T.Pairwise (· < ·)->(∀ v ∈ T,a<=v/\v<b)->(T.length:Int)<=b - a
 | [],a,b,hab,_,_=>by rw [List.length_nil]; omega
 | x::l,a,b,hab,h,hm=>by
  have h':=List.pairwise_cons.1 h
  have hx:=hm x Yx
  have:=sorted_le (T:=l) (a:=x+1) (b:=b) (by omega) h'.2 fun v hv=>⟨by have:=h'.1 v hv; omega,(hm v (Yn _ hv)).2⟩
  rw [Yyj]; omega
theorem sorted_full:∀ {T:List Int} {a b:Int},a<=b->T.Pairwise (· < ·)->(∀ v ∈ T,a<=v/\v<b)->((T.length:Int)=b - a ↔ ∀ v,a<=v->v<b->v ∈ T)
 | [],a,b,hab,_,_=>by
  rw [List.length_nil]
  constructor
  ·
   intro h v h1 h2; omega
  ·
   intro h
   by_cases e:a=b
   ·
    omega
   ·
    exact absurd (h a (Int.le_refl _) (by omega)) (by simp)
 | x::l,a,b,hab,h,hm=>by
  have h':=List.pairwise_cons.1 h
  have hx:=hm x Yx
  have hb:∀ v ∈ l,x+1<=v/\v<b:=fun v hv=>⟨by have:=h'.1 v hv; omega,(hm v (Yn _ hv)).2⟩
  have h1:=sorted_le (T:=l) (a:=x+1) (b:=b) (by omega) h'.2 hb
  have h2:=sorted_full (T:=l) (a:=x+1) (b:=b) (by omega) h'.2 hb
  rw [Yyj]
  constructor
  ·
   intro he v h3 h4
   have hxa:x=a:=by omega
   subst hxa
   by_cases e:v=x
   ·
    subst e; exact Yx
   ·
    exact Yn _ (h2.1 (by omega) v (by omega) h4)
  ·
   intro ha
   have hxa:x=a:=by
    rcases Yr.1 (ha a (Int.le_refl _) (by omega)) with e | e
    ·
     exact e.symm
    ·
     have:=(hb a e).1; omega
   subst hxa
   have:=h2.2 fun v h3 h4=>by
    rcases Yr.1 (ha v (by omega) h4) with e | e
    ·
     omega
    ·
     exact e
   omega
theorem refHas105 (L:List Int) (x:Int) (s:Sl) (h:Heap) (hr:Rw h 1 s (L.map inC)) (hl:L.length<=1048576):Fn Pz 128 #[.slice s.a s.n s.c,.int .i64 x] h (RP (x ∈ L) h):=by
 apply vc128; unfold W128
 have hn:=hr.ln
 refine up_loop (n:=s.n) (fun i h'=>Ext h h'/\∀ (j:Nat) y,j<i->L[j]?=some y->y ≠ x) ⟨.rfl',fun j y hj=>by omega⟩ ?_
 rintro - i h5 hi ⟨E,hq⟩
 refine sB_intro (fun c=>?_) (fun c=>RP.f (fun hm=>?_) E)
 ·
  replace c:=lt_t c
  refine (hr.ext E).nbI (by omega) (by omega) fun b6 o7 y gy t=>?_
  replace gy:L[i]?=some y:=gy
  refine ⟨_,t.hd,sBe (fun c1=>RP.t (by subst c1; exact Yb gy) E) (fun c1=>Up.next c (by omega) ⟨E,fun j z hj hz=>?_⟩)⟩
  by_cases e:j=i
  ·
   subst e; rw [gy] at hz; cases hz; exact c1
  ·
   exact hq j z (by omega) hz
 ·
  replace c:=lt_f c
  obtain ⟨j,hj⟩:=Yf.1 hm
  exact hq j x (by have:=(Ya.1 hj).1; omega) hj rfl
theorem refWith106 (L:List Int) (x:Int) (s:Sl) (h:Heap) (hr:Rw h 1 s (L.map inC)) (hl:L.length<=1048576) :
  Fn Pz 129 #[.slice s.a s.n s.c,.int .i64 x] h fun v h'=>Ext h h'/\∃ s':Sl,v=.slice s'.a s'.n s'.c/\Rw h' 1 s' ((withL x L).map inC):=by
 apply vc129; unfold W129
 have hn:=hr.ln
 refine ⟨fun out done i h' μ=>∃ (j:Nat) (T:List Int),i=j/\j<=s.n/\μ=s.n - j/\St h h' [.sl out 3 1 (T.map inC)]/\T.length<=j+1/\(done=false->T.length<=j)/\withL x L=T++(if done=true then L.drop j else withL x (L.drop j)),⟨_,0,[],rfl,by omega,rfl,(St.refl h).nil_ 3 1,by simp,by simp,rfl⟩,?_⟩
 rintro - out done _ h7 μ ⟨j,T,rfl,hj,rfl,hs,hT,hTf,hw⟩
 have hol:=(hs.rows 0 rfl (by omega)).ln
 refine sB_intro (fun c=>?_) (fun c=>?_)
 ·
  replace c:=lt_t c
  obtain ⟨y,hy⟩:=get_some (l:=L) (i:=j) (by omega)
  rw [drop_get hy] at hw
  refine sB_intro (fun c1=>?_) (fun c1=>?_)
  ·
   have hdn:done=false:=bF c1
   subst hdn
   have hTf:=hTf rfl
   rw [if_neg (by decide)] at hw
   refine (hr.ext hs.ext).nbI (by omega) (by omega) fun b8 o9 y' gy t=>?_
   replace gy:L[j]?=some y':=gy
   rw [hy] at gy; cases gy
   refine ⟨_,t.hd,sBi (fun c2=>?_) (fun c2=>?_)⟩
   ·
    refine (hr.ext hs.ext).nbI (by omega) (by omega) fun b8 o9 y' gy t=>?_
    replace gy:L[j]?=some y':=gy
    rw [hy] at gy; cases gy
    refine ⟨_,t.hd,sBi (fun c3=>?_) (fun c3=>?_)⟩
    ·
     refine hs.app 0 rfl app42 (m:=1) [[.int .i64 x]] rfl rfl (by simp) rfl (by omega) (by simp only [maxLen]; omega) fun s15 h16 ns hs=>?_
     have hs:St h h16 [.sl s15 3 1 ((T++[x]).map inC)]:=by rw [Ym]; exact hs
     have hol:=(hs.rows 0 rfl (by omega)).ln
     have hlx:(T++[x]).length=T.length+1:=Yh
     refine (hr.ext hs.ext).nbI (by omega) (by omega) fun b8 o9 y' gy t=>?_
     replace gy:L[j]?=some y':=gy
     rw [hy] at gy; cases gy
     refine ⟨_,t.hd,?_⟩
     refine hs.app 0 rfl app42 (m:=1) [[.int .i64 y]] rfl rfl (by simp) rfl (by omega) (by simp only [maxLen]; omega) fun s21 h22 ns hs=>?_
     have hs:St h h22 [.sl s21 3 1 ((T++[x]++[y]).map inC)]:=by rw [Ym]; exact hs
     refine ⟨_,?_,j+1,T++[x]++[y],by rw [w64 (by omega) (by omega)]; omega,by omega,rfl,hs,by rw [Yh,hlx,Yv]; omega,(fun hd=>by cases hd),?_⟩
     ·
      omega
     ·
      rw [if_pos rfl,hw,withL,if_pos c2,if_pos c3,Yz,Yz]; rfl
    ·
     refine (hr.ext hs.ext).nbI (by omega) (by omega) fun b8 o9 y' gy t=>?_
     replace gy:L[j]?=some y':=gy
     rw [hy] at gy; cases gy
     refine ⟨_,t.hd,?_⟩
     refine hs.app 0 rfl app42 (m:=1) [[.int .i64 y]] rfl rfl (by simp) rfl (by omega) (by simp only [maxLen]; omega) fun s21 h22 ns hs=>?_
     have hs:St h h22 [.sl s21 3 1 ((T++[y]).map inC)]:=by rw [Ym]; exact hs
     refine ⟨_,?_,j+1,T++[y],by rw [w64 (by omega) (by omega)]; omega,by omega,rfl,hs,by rw [Yh,Yv]; omega,(fun hd=>by cases hd),?_⟩
     ·
      omega
     ·
      rw [if_pos rfl,hw,withL,if_pos c2,if_neg c3,Yz]; rfl
   ·
    refine (hr.ext hs.ext).nbI (by omega) (by omega) fun b8 o9 y' gy t=>?_
    replace gy:L[j]?=some y':=gy
    rw [hy] at gy; cases gy
    refine ⟨_,t.hd,?_⟩
    refine hs.app 0 rfl app42 (m:=1) [[.int .i64 y]] rfl rfl (by simp) rfl (by omega) (by simp only [maxLen]; omega) fun s21 h22 ns hs=>?_
    have hs:St h h22 [.sl s21 3 1 ((T++[y]).map inC)]:=by rw [Ym]; exact hs
    refine ⟨_,?_,j+1,T++[y],by rw [w64 (by omega) (by omega)]; omega,by omega,rfl,hs,by rw [Yh,Yv]; omega,(fun _=>by rw [Yh,Yv]; omega),?_⟩
    ·
     omega
    ·
     rw [if_neg (by decide),hw,withL,if_neg c2,Yz]; rfl
  ·
   have hdn:done=true:=bT c1
   subst hdn
   rw [if_pos rfl] at hw
   refine (hr.ext hs.ext).nbI (by omega) (by omega) fun b8 o9 y' gy t=>?_
   replace gy:L[j]?=some y':=gy
   rw [hy] at gy; cases gy
   refine ⟨_,t.hd,?_⟩
   refine hs.app 0 rfl app42 (m:=1) [[.int .i64 y]] rfl rfl (by simp) rfl (by omega) (by simp only [maxLen]; omega) fun s21 h22 ns hs=>?_
   have hs:St h h22 [.sl s21 3 1 ((T++[y]).map inC)]:=by rw [Ym]; exact hs
   refine ⟨_,?_,j+1,T++[y],by rw [w64 (by omega) (by omega)]; omega,by omega,rfl,hs,by rw [Yh,Yv]; omega,(fun hd=>by cases hd),?_⟩
   ·
    omega
   ·
    rw [if_pos rfl,hw,Yz]; rfl
 ·
  replace c:=lt_f c
  rw [List.drop_eq_nil_of_le (by omega)] at hw
  refine sB_intro (fun c1=>?_) (fun c1=>?_)
  ·
   have hdn:done=false:=bF c1
   subst hdn
   rw [if_neg (by decide)] at hw
   refine hs.app 0 rfl app42 (m:=1) [[.int .i64 x]] rfl rfl (by simp) rfl (by omega) (by simp only [maxLen]; omega) fun s15 h16 ns hs=>?_
   have hs:St h h16 [.sl s15 3 1 ((T++[x]).map inC)]:=by rw [Ym]; exact hs
   exact ⟨hs.ext,_,rfl,by rw [hw]; exact hs.rows 0 rfl (by omega)⟩
  ·
   have hdn:done=true:=bT c1
   subst hdn
   rw [if_pos rfl,Yw] at hw
   exact ⟨hs.ext,_,rfl,by rw [hw]; exact hs.rows 0 rfl (by omega)⟩
structure RcI (m:Mch) (T:List Int):Prop where
 so:T.Pairwise (· < ·)
 b:∀ v ∈ T,0<=v/\v<m.n
 r:∀ v ∈ T,Qr (meds m) (-1) [m.s] v
 s:m.s ∈ T
def ClM (m:Mch) (i:Nat) (T:List Int):Prop:=∀ (j:Nat) (x:Mv),j<i->m.mv[j]?=some x->x.f ∈ T->x.t ∈ T
theorem reached61 (m:Mch) (sf sm sl:Sl) (h:Heap) (hM:MI h m sf sm sl) (hN:NumM m) :
  Fn Pz 89 #[.agg ⟨mC m sf sm sl⟩] h fun v h'=>Ext h h'/\∃ s:Sl,v=.slice s.a s.n s.c/\((s.n:Int)=m.n ↔ RchM m):=by
 apply vc89 m.role m.n m.s sf sm sl; unfold W89
 have hmn:=hM.pm.ln
 have hmm:=hM.pm.sm
 have hsn:=hN.s
 have hnn:=hN.n
 refine (St.refl h).newb fun h7 hs=>?_
 refine ⟨_,hs.rd 0 rfl rfl,?_⟩
 refine hs.newb fun h9 hs=>?_
 have hs:=hs.blkS 1 1 ([m.s].map inC) rfl (inrows _) rfl (by decide)
 have hR0:=hs.rows 0 rfl (by omega)
 have hs:=hs.drop 1
 refine ⟨fun out n h' μ=>∃ (k:Nat) (T:List Int),n=k/\k<=m.n.toNat/\μ=m.n.toNat - k/\St h h' [.blk h.size (mC m sf sm sl) 55]/\Rw h' 1 out (T.map inC)/\RcI m T/\(ClM m m.mv.length T\/k+1<=T.length),⟨_,0,[m.s],rfl,by omega,rfl,hs,hR0,⟨by simp,fun v hv=>by rw [Ye.1 hv]; omega,fun v hv=>.base hv,Ye.2 rfl⟩,.inr (by simp)⟩,?_⟩
 clear hs hR0
 rintro - out _ h15 μ ⟨k,T,rfl,hk,rfl,hs,hR,hT,hcl⟩
 refine ⟨_,hs.rd 0 rfl rfl,sBi (fun c=>?_) (fun c=>?_)⟩
 ·
  refine ⟨fun out i h' μ=>∃ (j:Nat) (T:List Int),i=j/\j<=sm.n/\μ=sm.n - j/\St h h' [.blk h.size (mC m sf sm sl) 55]/\Rw h' 1 out (T.map inC)/\RcI m T/\(ClM m m.mv.length T\/(ClM m j T/\k+1<=T.length)\/k+2<=T.length),⟨_,0,T,rfl,by omega,rfl,hs,hR,hT,?_⟩,?_⟩
  ·
   rcases hcl with h1 | h1
   ·
    exact .inl h1
   ·
    exact .inr (.inl ⟨fun j x hj=>by omega,h1⟩)
  clear hs hR hT hcl
  rintro - out _ h22 μ ⟨j,T,rfl,hj,rfl,hs,hR,hT,hcl⟩
  have hTl:=sorted_le (by omega) hT.so hT.b
  refine ⟨sm,hs.rd 0 rfl rfl,sB_intro (fun c1=>?_) (fun c1=>?_)⟩
  ·
   replace c1:=lt_t c1
   refine ⟨sm,hs.rd 0 rfl rfl,?_⟩
   refine (hM.pm.rw.ext hs.ext).nbI (by omega) (by omega) fun b25 o26 x gx t=>?_
   replace gx:m.mv[j]?=some x:=gx
   have hxm:=Yb gx
   have hxr:=hN.mv x hxm
   refine ⟨_,t.nth 0 rfl,?_⟩
   refine (refHas105 T x.f out h22 hR (by omega)).mono ?_
   rintro _ h30 ⟨⟨b,rfl,hb⟩,E⟩
   have hs:=hs.step E
   have hR:=hR.ext E
   refine ⟨_,rfl,sB_intro (fun c2=>?_) (fun c2=>?_)⟩
   ·
    have hfm:=hb.1 c2
    refine ⟨sm,hs.rd 0 rfl rfl,?_⟩
    refine (hM.pm.rw.ext hs.ext).nbI (by omega) (by omega) fun b25 o26 x' gx' t=>?_
    replace gx':m.mv[j]?=some x':=gx'
    rw [gx] at gx'; cases gx'
    refine ⟨_,t.nth 4 rfl,?_⟩
    refine (refWith106 T x.t out h30 hR (by omega)).mono ?_
    rintro _ h37 ⟨E2,s',rfl,hR2⟩
    have hs:=hs.step E2
    refine ⟨_,rfl,?_⟩
    have hT2:RcI m (withL x.t T):=⟨withL_sorted hT.so,fun v hv=>by
      rcases withL_mem.1 hv with rfl | hv
      ·
       omega
      ·
       exact hT.b v hv,fun v hv=>by
      rcases withL_mem.1 hv with rfl | hv
      ·
       exact .step (hT.r x.f hfm) ⟨⟨x.f,0,0,0,x.t,false⟩,Yp.2 ⟨x,hxm,rfl⟩,rfl,rfl,rfl⟩
      ·
       exact hT.r v hv,withL_mem.2 (.inr hT.s)⟩
    refine ⟨sm.n - (j+1),by omega,j+1,withL x.t T,by rw [w64 (by omega) (by omega)]; omega,by omega,rfl,hs,hR2,hT2,?_⟩
    by_cases hm:x.t ∈ T
    ·
     rw [withL_same hT.so hm]
     rcases hcl with h1 | h1 | h1
     ·
      exact .inl h1
     ·
      refine .inr (.inl ⟨fun i z hi hz hzf=>?_,h1.2⟩)
      by_cases e:i=j
      ·
       subst e; rw [gx] at hz; cases hz; exact hm
      ·
       exact h1.1 i z (by omega) hz hzf
     ·
      exact .inr (.inr h1)
    ·
     rw [withL_len hm]
     rcases hcl with h1 | h1 | h1
     ·
      exact absurd (h1 j x (by omega) gx hfm) hm
     ·
      exact .inr (.inr (by omega))
     ·
      exact .inr (.inr (by omega))
   ·
    have hfm:x.f ∉ T:=iff_f hb c2
    refine ⟨sm.n - (j+1),by omega,j+1,T,by rw [w64 (by omega) (by omega)]; omega,by omega,rfl,hs,hR,hT,?_⟩
    rcases hcl with h1 | h1 | h1
    ·
     exact .inl h1
    ·
     refine .inr (.inl ⟨fun i z hi hz hzf=>?_,h1.2⟩)
     by_cases e:i=j
     ·
      subst e; rw [gx] at hz; cases hz; exact absurd hzf hfm
     ·
      exact h1.1 i z (by omega) hz hzf
    ·
     exact .inr (.inr h1)
  ·
   replace c1:=lt_f c1
   refine ⟨m.n.toNat - (k+1),by omega,k+1,T,by rw [w64 (by omega) (by omega)]; omega,by omega,rfl,hs,hR,hT,?_⟩
   rcases hcl with h1 | h1 | h1
   ·
    exact .inl h1
   ·
    exact .inl fun i z hi hz hzf=>h1.1 i z (by omega) hz hzf
   ·
    exact .inr (by omega)
 ·
  have hTl:=sorted_le (by omega) hT.so hT.b
  have hcl:ClM m m.mv.length T:=by
   rcases hcl with h1 | h1
   ·
    exact h1
   ·
    omega
  refine ⟨hs.ext,_,rfl,?_⟩
  have hol:=hR.ln
  have hiff:∀ v,v ∈ T ↔ Qr (meds m) (-1) [m.s] v:=fun v=>by
   refine ⟨hT.r v,fun hq=>?_⟩
   induction hq with
   | base hm=>rw [Ye.1 hm]; exact hT.s
   | step _ hx ih=>
    obtain ⟨e,he,_,hf,ht⟩:=hx
    obtain ⟨x,hx,rfl⟩:=Yp.1 he
    obtain ⟨i,hi⟩:=Yf.1 hx
    subst hf; subst ht
    exact hcl i x (Ya.1 hi).1 hi ih
  have hfull:=sorted_full (a:=0) (b:=m.n) (by omega) hT.so hT.b
  rw [show ((out.n:Nat):Int)=(T.length:Int) by rw [hol]]
  rw [Int.sub_zero] at hfull
  rw [hfull]
  exact ⟨fun hA v h0 h1=>(hiff v).1 (hA v h0 h1),fun hA v h0 h1=>(hiff v).2 (hA v h0 h1)⟩
theorem VM_iff {m:Mch}:VM m ↔ NumM m/\ApM m/\TimM m/\RchM m:=
 ⟨fun h=>⟨h.n,ap_iff.2 ⟨h.d,h.a⟩,h.t,h.r⟩,fun h=>⟨h.1,(ap_iff.1 h.2.1).1,h.2.2.2,(ap_iff.1 h.2.1).2,h.2.2.1⟩⟩
theorem refValid24 (m:Mch) (sf sm sl:Sl) (h:Heap) (hM:MI h m sf sm sl):Fn Pz 52 #[.agg ⟨mC m sf sm sl⟩] h (RP (VM m) h):=by
 apply vc52 m.role m.n m.s sf sm sl; unfold W52
 refine (St.refl h).newb fun h7 hs=>?_
 refine ⟨_,_,_,sf,sm,sl,hs.at 0 rfl (o:=0) (n:=6) rfl,?_⟩
 refine (numbers58 m sf sm sl h7 (hM.ext hs.ext)).mono ?_
 rintro _ h16 ⟨⟨b1,rfl,hb1⟩,E⟩
 have hs:=hs.step E
 refine ⟨_,rfl,sB_intro (fun c1=>?_) (fun c1=>RP.f (fun hG=>iff_f hb1 c1 (VM_iff.1 hG).1) hs.ext)⟩
 have hN:=hb1.1 c1
 refine ⟨_,_,_,sf,sm,sl,hs.at 0 rfl (o:=0) (n:=6) rfl,?_⟩
 refine (apart59 m sf sm sl h16 (hM.ext hs.ext) hN).mono ?_
 rintro _ h25 ⟨⟨b2,rfl,hb2⟩,E⟩
 have hs:=hs.step E
 refine ⟨_,rfl,E.sm,sB_intro (fun c2=>?_) (fun c2=>RP.f (fun hG=>iff_f hb2 c2 (VM_iff.1 hG).2.1) hs.ext)⟩
 refine ⟨_,_,_,sf,sm,sl,hs.at 0 rfl (o:=0) (n:=6) rfl,?_⟩
 refine (timed60 m sf sm sl h25 (hM.ext hs.ext)).mono ?_
 rintro _ h34 ⟨⟨b3,rfl,hb3⟩,E⟩
 have hs:=hs.step E
 refine ⟨_,rfl,E.sm,sB_intro (fun c3=>?_) (fun c3=>RP.f (fun hG=>iff_f hb3 c3 (VM_iff.1 hG).2.2.1) hs.ext)⟩
 refine ⟨_,_,_,sf,sm,sl,hs.at 0 rfl (o:=0) (n:=6) rfl,_,hs.rd 0 rfl rfl,?_⟩
 refine (reached61 m sf sm sl h34 (hM.ext hs.ext) hN).mono ?_
 rintro _ h44 ⟨E,s,rfl,hb4⟩
 refine ⟨_,rfl,E.sm,RP.e ?_ (hs.step E).ext⟩
 rw [beq_iff_eq,hb4,VM_iff]
 exact ⟨fun hr=>⟨hN,hb2.1 c2,hb3.1 c3,hr⟩,fun hG=>hG.2.2.2⟩
structure FewM (m:Mch):Prop where
 n:m.n<=40
 f:m.fin.length<=45
 q:m.mv.length<=80
 l:m.li.length<=45
theorem few13 (m:Mch) (sf sm sl:Sl) (h:Heap) (hM:MI h m sf sm sl):Fn Pz 45 #[.agg ⟨mC m sf sm sl⟩] h (RP (FewM m) h):=by
 apply vc45 m.role m.n m.s sf sm sl; unfold W45
 have hfn:=hM.pf.ln
 have hmn:=hM.pm.ln
 have hln:=hM.pl.ln
 refine (St.refl h).newb fun h7 hs=>?_
 refine ⟨_,hs.rd 0 rfl rfl,sBi (fun c1=>?_) (fun c1=>RP.f (fun hG=>by have:=hG.n; omega) hs.ext)⟩
 refine ⟨sf,hs.rd 0 rfl rfl,sBi (fun c2=>?_) (fun c2=>RP.f (fun hG=>by have:=hG.f; omega) hs.ext)⟩
 refine ⟨sm,hs.rd 0 rfl rfl,sBi (fun c3=>?_) (fun c3=>RP.f (fun hG=>by have:=hG.q; omega) hs.ext)⟩
 refine ⟨sl,hs.rd 0 rfl rfl,RP.e ?_ hs.ext⟩
 rw [decide_eq_true_eq]
 exact ⟨fun c4=>⟨c1,by omega,by omega,by omega⟩,fun hG=>by have:=hG.l; omega⟩
end Go.VC
end

section
/- Plain: the beginning of a slice. -/
namespace Go.VC
theorem Rw.prefix {h:Heap} {k:Nat} {s:Sl} {rows:List (List Value)} (hr:Rw h k s rows) {i c:Nat} (hi:i<=s.n):Rw h k ⟨s.a,i,c⟩ (rows.take i):=by
 have hn:=hr.1
 refine ⟨by rw [Yu]; show i=_; omega,fun hp=>?_⟩
 rw [Yu] at hp
 obtain ⟨b,o,ha,hall⟩:=hr.2 (by omega)
 refine ⟨b,o,ha,fun j row hj=>hall j row ?_⟩
 rw [Yyf] at hj
 split at hj
 ·
  exact hj
 ·
  cases hj
end Go.VC
end

section
/- Contract: the reference's moves of a state, sorted. (Numbers of layer 26's seat.) -/
namespace Go.VC
open Go.Proofs Go.LexS
namespace M
theorem intrw {h:Heap} {s:Sl} {L:List Int} (hr:Rw h 1 s (L.map inC)) (hc:s.n<=s.c) {i:Nat} (hi:i<=s.n):Rw h 1 ⟨subA s.a i s.c 1,s.n - i,s.c - i⟩ ((L.drop i).map inC):=by
 have hn:=hr.ln
 rw [List.map_drop]
 by_cases h0:i=s.n
 ·
  rw [List.drop_eq_nil_of_le (by rw [Yc]; omega)]
  exact Rw.empty (by show s.n - i=0; omega)
 ·
  exact hr.from hc (by omega)
theorem subA_nil {s:Sl} {i:Nat} (hna:s.a=none->s.n=0/\s.c=0) (h:subA s.a i s.c 1=none):s.n - i=0/\s.c - i=0:=by
 unfold subA at h
 split at h
 ·
  have:=hna h; omega
 ·
  cases ha:s.a with
  | none=>have:=hna ha; omega
  | some a=>rw [ha] at h; cases h
end M
theorem ins_ok {m:Mch} {s:Int} {O:List Nat} {i k:Nat} (hP:O.Perm ((List.range i).filter (outP m s))) (hS:O.Pairwise fun a b=>¬ evLt (evI m b) (evI m a)) (hx:outP m s i=true)
  (hb:∀ (j a:Nat),j<k->O[j]?=some a->¬ evLt (evI m i) (evI m a)) (ha:∀ c,O[k]?=some c->evLt (evI m i) (evI m c)) :
  (O.take k++[i]++O.drop k).Perm ((List.range (i+1)).filter (outP m s))/\(O.take k++[i]++O.drop k).Pairwise fun a b=>¬ evLt (evI m b) (evI m a):=by
 constructor
 ·
  rw [List.range_succ,List.filter_append,List.filter_cons_of_pos hx,List.filter_nil]
  refine List.Perm.trans ?_ (hP.append_right [i])
  rw [Yz]
  refine List.Perm.trans (List.Perm.append_left _ List.perm_append_comm) ?_
  rw [<- Yz,List.take_append_drop]
 ·
  have hS':=hS
  rw [<- List.take_append_drop k O,List.pairwise_append] at hS'
  rw [Yz,List.pairwise_append]
  have hdr:∀ b ∈ O.drop k,¬ evLt (evI m b) (evI m i):=fun b hbm hlt=>by
   cases hd:O.drop k with
   | nil=>rw [hd] at hbm; cases hbm
   | cons c l=>
    have hc:O[k]?=some c:=by
     have:=List.getElem?_drop (xs:=O) (i:=k) (j:=0)
     rw [hd] at this
     simpa using this.symm
    have h1:=ha c hc
    have h2:=hS'.2.1
    rw [hd] at hbm h2
    rcases Yr.1 hbm with rfl | hbm
    ·
     exact evLt_irr _ (evLt_trans h1 hlt)
    ·
     exact (List.pairwise_cons.1 h2).1 b hbm (evLt_trans hlt h1)
  refine ⟨hS'.1,?_,fun a ham b hbm=>?_⟩
  ·
   rw [List.singleton_append,List.pairwise_cons]
   exact ⟨hdr,hS'.2.1⟩
  ·
   rcases Yk.1 hbm with hbm | hbm
   ·
    rw [Ye.1 hbm]
    obtain ⟨j,hj⟩:=Yf.1 ham
    rw [Yyf] at hj
    split at hj
    ·
     exact hb j a (by assumption) hj
    ·
     cases hj
   ·
    exact hS'.2.2 a ham b hbm
set_option maxHeartbeats 3200000 in
theorem refOut62S (m:Mch) (sf sm sl:Sl) (s:Int) (h:Heap) (hM:MI h m sf sm sl) :
  Fn Pz 83 #[.agg ⟨mC m sf sm sl⟩,.int .i64 s] h fun v h'=>∃ (r:Sl) (O:List Nat),v=.slice r.a r.n r.c/\St h h' [.sl r 3 1 ((natI O).map inC)]/\O.Perm (outIx m s)/\O.Pairwise fun a b=>¬ evLt (evI m b) (evI m a):=by
 apply vc83 m.role m.n m.s sf sm sl; unfold W83
 have hs:=St.refl h
 have hmn:=hM.pm.ln
 have hmb:=hM.pm.sm
 refine hs.newb fun h7 hs=>?_
 have hs:=hs.nil_ 3 1
 refine up_loopA (n:=m.mv.length) hs (fun i rows=>∃ O:List Nat,rows=(natI O).map inC/\O.Perm ((List.range i).filter (outP m s))/\O.Pairwise fun a b=>¬ evLt (evI m b) (evI m a)) ⟨[],rfl,List.Perm.refl _,List.Pairwise.nil⟩ ?_
 clear hs
 rintro - i out h13 _ hi hs ⟨O,rfl,hP,hSo⟩
 have holn:=(hs.rows 0 (cs:=inC) rfl (by omega)).ln
 have hocap:=hs.len 0 (s:=out) (e:=3) (n:=1) rfl (by omega)
 rw [show (natI O).length=O.length from Yc _] at holn
 have hol:O.length<=i:=by rw [hP.length_eq]; exact Yys (List.length_filter_le _ _) (by rw [Yyd]; exact Yyt _)
 refine ⟨sm,hs.rd 1 rfl rfl,?_⟩
 refine sBi (fun c1=>?_) (fun c1=>?_)
 ·
  have him:i<m.mv.length:=by omega
  refine ⟨sm,hs.rd 1 rfl rfl,?_⟩
  refine (hM.pm.ext hs.ext).rw.nbI (by omega) (by omega) fun b16 o17 x g16 t16=>?_
  replace g16:m.mv[i]?=some x:=g16
  refine ⟨_,t16.hd,?_⟩
  have hp:outP m s i=decide (x.f=s):=by unfold outP; rw [g16]
  refine sBn (fun c2=>?_) (fun c2=>?_)
  ·
   refine UpA.next him (by omega) ⟨_,hs,O,rfl,?_,hSo⟩
   rw [List.range_succ,List.filter_append,List.filter_cons_of_neg (by rw [hp,decide_eq_false c2]; simp),List.filter_nil,Yw]
   exact hP
  ·
   have hxi:outP m s i=true:=by rw [hp]; exact decide_eq_true c2
   have hevi:evI m i=x.ev:=evI_of g16
   have hOm:∀ (k j:Nat),O[k]?=some j->∃ y,m.mv[j]?=some y:=fun k j hk=>by
    have:=hP.mem_iff.1 (Yb hk)
    rw [List.mem_filter,List.mem_range] at this
    exact get_some (by omega)
   refine up_loopS (n:=out.n) hs (fun k=>∀ (j a:Nat),j<k->O[j]?=some a->¬ evLt (evI m i) (evI m a)) (fun j a hj=>by omega) ?_
   clear hs
   rintro - k h24 hko ⟨hs,hq⟩
   refine sBi (fun c3=>?_) (fun c3=>?_)
   ·
    refine ⟨sm,hs.rd 1 rfl rfl,?_⟩
    refine (hM.pm.ext hs.ext).rw.nbI (by omega) (by omega) fun b26 o27 x' g26 t26=>?_
    rw [Ys,g16] at g26; cases g26
    refine ⟨_,_,_,_,_,_,t26,sm,hs.rd 1 rfl rfl,?_⟩
    refine (hs.rows 0 (cs:=inC) rfl (by omega)).nbI (by omega) (by omega) fun b35 o36 d g35 t35=>?_
    obtain ⟨j,hj,rfl⟩:=natI_get g35
    replace hj:O[k]?=some j:=hj
    obtain ⟨y,hy⟩:=hOm _ _ hj
    have hyl:=(Ya.1 hy).1
    have hevj:evI m j=y.ev:=evI_of hy
    refine ⟨_,t35.hd,?_⟩
    refine (hM.pm.ext hs.ext).rw.nbI (by omega) (by omega) fun b38 o39 y' g38 t38=>?_
    rw [Ys,hy] at g38; cases g38
    refine ⟨_,_,_,_,_,_,t38,?_⟩
    refine (before26 x y h24).mono ?_
    rintro _ h48 ⟨rfl,E48⟩
    have hs:=hs.step E48
    refine ⟨_,rfl,sB_intro (fun c4=>?_) (fun c4=>?_)⟩
    ·
     have hnl:¬ evLt x.ev y.ev:=Yyo (bF c4)
     refine Up.next (by omega) (by omega) ⟨hs,fun j' a hj' ha=>?_⟩
     by_cases e:j'=k
     ·
      subst e; rw [hj] at ha; cases ha; rw [hevi,hevj]; exact hnl
     ·
      exact hq j' a (by omega) ha
    ·
     have hlt:evLt x.ev y.ev:=Yyn (bT c4)
     have hat:∀ c,O[k]?=some c->evLt (evI m i) (evI m c):=fun c hc=>by rw [hj] at hc; cases hc; rw [hevi,hevj]; exact hlt
     have fin:∀ {h':Heap} {r:Sl},St h h' [.sl r 3 1 ((natI (O.take k)).map inC++[[.int .i64 (i:Nat)]]++(natI (O.drop k)).map inC),.blk h.size (mC m sf sm sl) 55]->∃ m',m'<m.mv.length - i/\UpA m.mv.length (fun i s_1 h'=>∃ rows,St h h' (.sl s_1 3 1 rows::[.blk h.size (mC m sf sm sl) 55])/\∃ O:List Nat,rows=(natI O).map inC/\O.Perm ((List.range i).filter (outP m s))/\O.Pairwise fun a b=>¬ evLt (evI m b) (evI m a)) r (IntKind.wrap .i64 ((i:Int)+1)) h' m':=by
      intro h' r h1
      have hok:=ins_ok hP hSo hxi hq hat
      refine UpA.next him (by omega) ⟨_,h1,O.take k++[i]++O.drop k,?_,hok.1,hok.2⟩
      unfold natI
      rw [Ym,Ym,Ym,Ym]; rfl
     have e0:subA out.a (Int.toNat 0) out.c 1=out.a:=subA_zero _ _ _
     have hpre:∀ {h':Heap},Rw h' 1 out ((natI O).map inC)->Rw h' 1 (⟨subA out.a (Int.toNat 0) out.c 1,Int.toNat (k:Int) - Int.toNat 0,out.c - Int.toNat 0⟩:Sl) ((natI (O.take k)).map inC):=fun {h'} hr=>by
      have h1:=hr.prefix (i:=k) (c:=out.c - Int.toNat 0) hko
      rw [e0]
      unfold natI at h1 ⊢
      rw [List.map_take,List.map_take]
      exact h1
     have hsuf:∀ {h':Heap},Rw h' 1 out ((natI O).map inC)->Rw h' 1 (⟨subA out.a (Int.toNat (k:Int)) out.c 1,Int.toNat (out.n:Nat) - Int.toNat (k:Int),out.c - Int.toNat (k:Int)⟩:Sl) ((natI (O.drop k)).map inC):=fun {h'} hr=>by
      have h1:=M.intrw hr hocap.2.1 (i:=k) hko
      unfold natI at h1 ⊢
      rw [List.map_drop]
      exact h1
     have hnilp:(⟨subA out.a (Int.toNat 0) out.c 1,Int.toNat (k:Int) - Int.toNat 0,out.c - Int.toNat 0⟩:Sl).a=none->(⟨subA out.a (Int.toNat 0) out.c 1,Int.toNat (k:Int) - Int.toNat 0,out.c - Int.toNat 0⟩:Sl).n=0/\(⟨subA out.a (Int.toNat 0) out.c 1,Int.toNat (k:Int) - Int.toNat 0,out.c - Int.toNat 0⟩:Sl).c=0:=by
      intro hn
      have hn:subA out.a (Int.toNat 0) out.c 1=none:=hn
      rw [e0] at hn
      have:=hocap.2.2 hn
      exact ⟨by show Int.toNat (k:Int) - Int.toNat 0=0; omega,by show out.c - Int.toNat 0=0; omega⟩
     have hnils:(⟨subA out.a (Int.toNat (k:Int)) out.c 1,Int.toNat (out.n:Nat) - Int.toNat (k:Int),out.c - Int.toNat (k:Int)⟩:Sl).a=none->(⟨subA out.a (Int.toNat (k:Int)) out.c 1,Int.toNat (out.n:Nat) - Int.toNat (k:Int),out.c - Int.toNat (k:Int)⟩:Sl).n=0/\(⟨subA out.a (Int.toNat (k:Int)) out.c 1,Int.toNat (out.n:Nat) - Int.toNat (k:Int),out.c - Int.toNat (k:Int)⟩:Sl).c=0:=fun hn=>M.subA_nil hocap.2.2 hn
     refine ⟨⟨by omega,by omega,by omega⟩,⟨by omega,by omega,by omega⟩,?_,?_⟩
     ·
      refine hs.newb fun h76 hs=>?_
      have hs:=hs.blkS 0 1 [] rfl (by simp) rfl (by decide)
      refine ⟨?_,?_⟩
      ·
       refine hs.appRw 0 (rows:=[]) (news:=(natI (O.take k)).map inC) rfl app42 (y:=⟨subA out.a (Int.toNat 0) out.c 1,Int.toNat (k:Int) - Int.toNat 0,out.c - Int.toNat 0⟩) (hpre (hs.rows 1 (s:=out) (cs:=inC) (l:=natI O) rfl (by omega))) (inrows _) hnilp (flat_oneB (fun _=>rfl) _) (by show (0+(Int.toNat (k:Int) - Int.toNat 0))*8<=_; omega) (by show 0+(Int.toNat (k:Int) - Int.toNat 0)<=_; simp only [maxLen]; omega) fun s77 h78 n77 hs=>?_
       replace n77:s77.n=k:=by rw [n77]; show 0+(Int.toNat (k:Int) - Int.toNat 0)=k; omega
       refine hs.app 0 rfl app42 (m:=1) [[.int .i64 (i:Nat)]] rfl rfl (by simp) rfl (by omega) (by simp only [maxLen]; omega) fun s80 h81 n80 hs=>?_
       refine hs.appRw 0 (rows:=(natI (O.take k)).map inC++[[.int .i64 (i:Nat)]]) (news:=(natI (O.drop k)).map inC) rfl app42 (y:=⟨subA out.a (Int.toNat (k:Int)) out.c 1,Int.toNat (out.n:Nat) - Int.toNat (k:Int),out.c - Int.toNat (k:Int)⟩) (hsuf (hs.rows 1 (s:=out) (cs:=inC) (l:=natI O) rfl (by omega))) (inrows _) hnils (flat_oneB (fun _=>rfl) _) (by show (_+(Int.toNat (out.n:Nat) - Int.toNat (k:Int)))*8<=_; omega) (by show _+(Int.toNat (out.n:Nat) - Int.toNat (k:Int))<=_; simp only [maxLen]; omega) fun s82 h83 n82 hs=>?_
       refine fin (hs.sub ?_)
       exact .cons_cons _ (.cons _ (.cons_cons _ .slnil))
      ·
       refine hs.newb fun h85 hs=>?_
       refine hs.appRw 1 (rows:=[]) (news:=(natI (O.take k)).map inC) rfl app42 (y:=⟨subA out.a (Int.toNat 0) out.c 1,Int.toNat (k:Int) - Int.toNat 0,out.c - Int.toNat 0⟩) (hpre (hs.rows 2 (s:=out) (cs:=inC) (l:=natI O) rfl (by omega))) (inrows _) hnilp (flat_oneB (fun _=>rfl) _) (by show (0+(Int.toNat (k:Int) - Int.toNat 0))*8<=_; omega) (by show 0+(Int.toNat (k:Int) - Int.toNat 0)<=_; simp only [maxLen]; omega) fun s77 h78 n77 hs=>?_
       replace n77:s77.n=k:=by rw [n77]; show 0+(Int.toNat (k:Int) - Int.toNat 0)=k; omega
       refine hs.appended 1 (rows:=(natI (O.take k)).map inC) rfl app42 (m:=1) (news:=[[.int .i64 (i:Nat)]]) (hs.at 0 rfl (n:=1) rfl) rfl (by simp) rfl (by omega) (by simp only [maxLen]; omega) fun s80 h81 n80 hs=>?_
       refine hs.appRw 1 (rows:=(natI (O.take k)).map inC++[[.int .i64 (i:Nat)]]) (news:=(natI (O.drop k)).map inC) rfl app42 (y:=⟨subA out.a (Int.toNat (k:Int)) out.c 1,Int.toNat (out.n:Nat) - Int.toNat (k:Int),out.c - Int.toNat (k:Int)⟩) (hsuf (hs.rows 2 (s:=out) (cs:=inC) (l:=natI O) rfl (by omega))) (inrows _) hnils (flat_oneB (fun _=>rfl) _) (by show (_+(Int.toNat (out.n:Nat) - Int.toNat (k:Int)))*8<=_; omega) (by show _+(Int.toNat (out.n:Nat) - Int.toNat (k:Int))<=_; simp only [maxLen]; omega) fun s82 h83 n82 hs=>?_
       refine fin (hs.sub ?_)
       exact .cons _ (.cons_cons _ (.cons _ (.cons_cons _ .slnil)))
     ·
      refine hs.newb fun h93 hs=>?_
      refine hs.newb fun h94 hs=>?_
      have hs:=hs.blkS 0 1 [] rfl (by simp) rfl (by decide)
      refine hs.appRw 0 (rows:=[]) (news:=(natI (O.take k)).map inC) rfl app42 (y:=⟨subA out.a (Int.toNat 0) out.c 1,Int.toNat (k:Int) - Int.toNat 0,out.c - Int.toNat 0⟩) (hpre (hs.rows 2 (s:=out) (cs:=inC) (l:=natI O) rfl (by omega))) (inrows _) hnilp (flat_oneB (fun _=>rfl) _) (by show (0+(Int.toNat (k:Int) - Int.toNat 0))*8<=_; omega) (by show 0+(Int.toNat (k:Int) - Int.toNat 0)<=_; simp only [maxLen]; omega) fun s77 h78 n77 hs=>?_
      replace n77:s77.n=k:=by rw [n77]; show 0+(Int.toNat (k:Int) - Int.toNat 0)=k; omega
      refine hs.appended 0 (rows:=(natI (O.take k)).map inC) rfl app42 (m:=1) (news:=[[.int .i64 (i:Nat)]]) (hs.at 1 rfl (n:=1) rfl) rfl (by simp) rfl (by omega) (by simp only [maxLen]; omega) fun s80 h81 n80 hs=>?_
      refine hs.appRw 0 (rows:=(natI (O.take k)).map inC++[[.int .i64 (i:Nat)]]) (news:=(natI (O.drop k)).map inC) rfl app42 (y:=⟨subA out.a (Int.toNat (k:Int)) out.c 1,Int.toNat (out.n:Nat) - Int.toNat (k:Int),out.c - Int.toNat (k:Int)⟩) (hsuf (hs.rows 2 (s:=out) (cs:=inC) (l:=natI O) rfl (by omega))) (inrows _) hnils (flat_oneB (fun _=>rfl) _) (by show (_+(Int.toNat (out.n:Nat) - Int.toNat (k:Int)))*8<=_; omega) (by show _+(Int.toNat (out.n:Nat) - Int.toNat (k:Int))<=_; simp only [maxLen]; omega) fun s82 h83 n82 hs=>?_
      refine fin (hs.sub ?_)
      exact .cons_cons _ (.cons _ (.cons _ (.cons_cons _ .slnil)))
   ·
    have hat:∀ c,O[k]?=some c->evLt (evI m i) (evI m c):=fun c hc=>by have:=(Ya.1 hc).1; omega
    have fin:∀ {h':Heap} {r:Sl},St h h' [.sl r 3 1 ((natI (O.take k)).map inC++[[.int .i64 (i:Nat)]]++(natI (O.drop k)).map inC),.blk h.size (mC m sf sm sl) 55]->∃ m',m'<m.mv.length - i/\UpA m.mv.length (fun i s_1 h'=>∃ rows,St h h' (.sl s_1 3 1 rows::[.blk h.size (mC m sf sm sl) 55])/\∃ O:List Nat,rows=(natI O).map inC/\O.Perm ((List.range i).filter (outP m s))/\O.Pairwise fun a b=>¬ evLt (evI m b) (evI m a)) r (IntKind.wrap .i64 ((i:Int)+1)) h' m':=by
     intro h' r h1
     have hok:=ins_ok hP hSo hxi hq hat
     refine UpA.next him (by omega) ⟨_,h1,O.take k++[i]++O.drop k,?_,hok.1,hok.2⟩
     unfold natI
     rw [Ym,Ym,Ym,Ym]; rfl
    have e0:subA out.a (Int.toNat 0) out.c 1=out.a:=subA_zero _ _ _
    have hpre:∀ {h':Heap},Rw h' 1 out ((natI O).map inC)->Rw h' 1 (⟨subA out.a (Int.toNat 0) out.c 1,Int.toNat (k:Int) - Int.toNat 0,out.c - Int.toNat 0⟩:Sl) ((natI (O.take k)).map inC):=fun {h'} hr=>by
     have h1:=hr.prefix (i:=k) (c:=out.c - Int.toNat 0) hko
     rw [e0]
     unfold natI at h1 ⊢
     rw [List.map_take,List.map_take]
     exact h1
    have hsuf:∀ {h':Heap},Rw h' 1 out ((natI O).map inC)->Rw h' 1 (⟨subA out.a (Int.toNat (k:Int)) out.c 1,Int.toNat (out.n:Nat) - Int.toNat (k:Int),out.c - Int.toNat (k:Int)⟩:Sl) ((natI (O.drop k)).map inC):=fun {h'} hr=>by
     have h1:=M.intrw hr hocap.2.1 (i:=k) hko
     unfold natI at h1 ⊢
     rw [List.map_drop]
     exact h1
    have hnilp:(⟨subA out.a (Int.toNat 0) out.c 1,Int.toNat (k:Int) - Int.toNat 0,out.c - Int.toNat 0⟩:Sl).a=none->(⟨subA out.a (Int.toNat 0) out.c 1,Int.toNat (k:Int) - Int.toNat 0,out.c - Int.toNat 0⟩:Sl).n=0/\(⟨subA out.a (Int.toNat 0) out.c 1,Int.toNat (k:Int) - Int.toNat 0,out.c - Int.toNat 0⟩:Sl).c=0:=by
     intro hn
     have hn:subA out.a (Int.toNat 0) out.c 1=none:=hn
     rw [e0] at hn
     have:=hocap.2.2 hn
     exact ⟨by show Int.toNat (k:Int) - Int.toNat 0=0; omega,by show out.c - Int.toNat 0=0; omega⟩
    have hnils:(⟨subA out.a (Int.toNat (k:Int)) out.c 1,Int.toNat (out.n:Nat) - Int.toNat (k:Int),out.c - Int.toNat (k:Int)⟩:Sl).a=none->(⟨subA out.a (Int.toNat (k:Int)) out.c 1,Int.toNat (out.n:Nat) - Int.toNat (k:Int),out.c - Int.toNat (k:Int)⟩:Sl).n=0/\(⟨subA out.a (Int.toNat (k:Int)) out.c 1,Int.toNat (out.n:Nat) - Int.toNat (k:Int),out.c - Int.toNat (k:Int)⟩:Sl).c=0:=fun hn=>M.subA_nil hocap.2.2 hn
    refine ⟨⟨by omega,by omega,by omega⟩,⟨by omega,by omega,by omega⟩,?_,?_⟩
    ·
     refine hs.newb fun h76 hs=>?_
     have hs:=hs.blkS 0 1 [] rfl (by simp) rfl (by decide)
     refine ⟨?_,?_⟩
     ·
      refine hs.appRw 0 (rows:=[]) (news:=(natI (O.take k)).map inC) rfl app42 (y:=⟨subA out.a (Int.toNat 0) out.c 1,Int.toNat (k:Int) - Int.toNat 0,out.c - Int.toNat 0⟩) (hpre (hs.rows 1 (s:=out) (cs:=inC) (l:=natI O) rfl (by omega))) (inrows _) hnilp (flat_oneB (fun _=>rfl) _) (by show (0+(Int.toNat (k:Int) - Int.toNat 0))*8<=_; omega) (by show 0+(Int.toNat (k:Int) - Int.toNat 0)<=_; simp only [maxLen]; omega) fun s77 h78 n77 hs=>?_
      replace n77:s77.n=k:=by rw [n77]; show 0+(Int.toNat (k:Int) - Int.toNat 0)=k; omega
      refine hs.app 0 rfl app42 (m:=1) [[.int .i64 (i:Nat)]] rfl rfl (by simp) rfl (by omega) (by simp only [maxLen]; omega) fun s80 h81 n80 hs=>?_
      refine hs.appRw 0 (rows:=(natI (O.take k)).map inC++[[.int .i64 (i:Nat)]]) (news:=(natI (O.drop k)).map inC) rfl app42 (y:=⟨subA out.a (Int.toNat (k:Int)) out.c 1,Int.toNat (out.n:Nat) - Int.toNat (k:Int),out.c - Int.toNat (k:Int)⟩) (hsuf (hs.rows 1 (s:=out) (cs:=inC) (l:=natI O) rfl (by omega))) (inrows _) hnils (flat_oneB (fun _=>rfl) _) (by show (_+(Int.toNat (out.n:Nat) - Int.toNat (k:Int)))*8<=_; omega) (by show _+(Int.toNat (out.n:Nat) - Int.toNat (k:Int))<=_; simp only [maxLen]; omega) fun s82 h83 n82 hs=>?_
      refine fin (hs.sub ?_)
      exact .cons_cons _ (.cons _ (.cons_cons _ .slnil))
     ·
      refine hs.newb fun h85 hs=>?_
      refine hs.appRw 1 (rows:=[]) (news:=(natI (O.take k)).map inC) rfl app42 (y:=⟨subA out.a (Int.toNat 0) out.c 1,Int.toNat (k:Int) - Int.toNat 0,out.c - Int.toNat 0⟩) (hpre (hs.rows 2 (s:=out) (cs:=inC) (l:=natI O) rfl (by omega))) (inrows _) hnilp (flat_oneB (fun _=>rfl) _) (by show (0+(Int.toNat (k:Int) - Int.toNat 0))*8<=_; omega) (by show 0+(Int.toNat (k:Int) - Int.toNat 0)<=_; simp only [maxLen]; omega) fun s77 h78 n77 hs=>?_
      replace n77:s77.n=k:=by rw [n77]; show 0+(Int.toNat (k:Int) - Int.toNat 0)=k; omega
      refine hs.appended 1 (rows:=(natI (O.take k)).map inC) rfl app42 (m:=1) (news:=[[.int .i64 (i:Nat)]]) (hs.at 0 rfl (n:=1) rfl) rfl (by simp) rfl (by omega) (by simp only [maxLen]; omega) fun s80 h81 n80 hs=>?_
      refine hs.appRw 1 (rows:=(natI (O.take k)).map inC++[[.int .i64 (i:Nat)]]) (news:=(natI (O.drop k)).map inC) rfl app42 (y:=⟨subA out.a (Int.toNat (k:Int)) out.c 1,Int.toNat (out.n:Nat) - Int.toNat (k:Int),out.c - Int.toNat (k:Int)⟩) (hsuf (hs.rows 2 (s:=out) (cs:=inC) (l:=natI O) rfl (by omega))) (inrows _) hnils (flat_oneB (fun _=>rfl) _) (by show (_+(Int.toNat (out.n:Nat) - Int.toNat (k:Int)))*8<=_; omega) (by show _+(Int.toNat (out.n:Nat) - Int.toNat (k:Int))<=_; simp only [maxLen]; omega) fun s82 h83 n82 hs=>?_
      refine fin (hs.sub ?_)
      exact .cons _ (.cons_cons _ (.cons _ (.cons_cons _ .slnil)))
    ·
     refine hs.newb fun h93 hs=>?_
     refine hs.newb fun h94 hs=>?_
     have hs:=hs.blkS 0 1 [] rfl (by simp) rfl (by decide)
     refine hs.appRw 0 (rows:=[]) (news:=(natI (O.take k)).map inC) rfl app42 (y:=⟨subA out.a (Int.toNat 0) out.c 1,Int.toNat (k:Int) - Int.toNat 0,out.c - Int.toNat 0⟩) (hpre (hs.rows 2 (s:=out) (cs:=inC) (l:=natI O) rfl (by omega))) (inrows _) hnilp (flat_oneB (fun _=>rfl) _) (by show (0+(Int.toNat (k:Int) - Int.toNat 0))*8<=_; omega) (by show 0+(Int.toNat (k:Int) - Int.toNat 0)<=_; simp only [maxLen]; omega) fun s77 h78 n77 hs=>?_
     replace n77:s77.n=k:=by rw [n77]; show 0+(Int.toNat (k:Int) - Int.toNat 0)=k; omega
     refine hs.appended 0 (rows:=(natI (O.take k)).map inC) rfl app42 (m:=1) (news:=[[.int .i64 (i:Nat)]]) (hs.at 1 rfl (n:=1) rfl) rfl (by simp) rfl (by omega) (by simp only [maxLen]; omega) fun s80 h81 n80 hs=>?_
     refine hs.appRw 0 (rows:=(natI (O.take k)).map inC++[[.int .i64 (i:Nat)]]) (news:=(natI (O.drop k)).map inC) rfl app42 (y:=⟨subA out.a (Int.toNat (k:Int)) out.c 1,Int.toNat (out.n:Nat) - Int.toNat (k:Int),out.c - Int.toNat (k:Int)⟩) (hsuf (hs.rows 2 (s:=out) (cs:=inC) (l:=natI O) rfl (by omega))) (inrows _) hnils (flat_oneB (fun _=>rfl) _) (by show (_+(Int.toNat (out.n:Nat) - Int.toNat (k:Int)))*8<=_; omega) (by show _+(Int.toNat (out.n:Nat) - Int.toNat (k:Int))<=_; simp only [maxLen]; omega) fun s82 h83 n82 hs=>?_
     refine fin (hs.sub ?_)
     exact .cons_cons _ (.cons _ (.cons _ (.cons_cons _ .slnil)))
 ·
  refine ⟨out,O,rfl,hs.sub (.cons_cons _ (.cons _ .slnil)),?_,hSo⟩
  rw [show i=m.mv.length by omega] at hP
  exact hP
end Go.VC
end

section
/- Plain: the moves of a state, in the one order. No program here. -/
namespace Go.VC
open Go.LexS
theorem srt_uniq {m:Mch} (hD:DetM m) {s:Int} {O Q:List Nat} (p1:O.Perm (outIx m s)) (s1:O.Pairwise fun a b=>¬ evLt (evI m b) (evI m a)) (p2:Q.Perm (outIx m s)) (s2:Q.Pairwise fun a b=>¬ evLt (evI m b) (evI m a)):O=Q:=by
 refine List.Perm.eq_of_pairwise (le:=fun a b=>¬ evLt (evI m b) (evI m a)) (fun a b ha hb h3 h4=>?_) s1 s2 (p1.trans p2.symm)
 obtain ⟨x,hx,hxf⟩:=outIx_mem.1 (p1.mem_iff.1 ha)
 obtain ⟨y,hy,hyf⟩:=outIx_mem.1 (p2.mem_iff.1 hb)
 by_cases e:a=b
 ·
  exact e
 ·
  have:=(hD a b x y hx hy e (by rw [hxf,hyf])).1
  rw [evI_of hx,evI_of hy] at h3 h4
  exact absurd (evLt_of h3 this) h4
open Classical in
noncomputable def mvS (m:Mch) (s:Int):List Nat:=if h:∃ O:List Nat,O.Perm (outIx m s)/\O.Pairwise fun a b=>¬ evLt (evI m b) (evI m a) then Classical.choose h else outIx m s
theorem mvS_eq {m:Mch} (hD:DetM m) {s:Int} {O:List Nat} (p1:O.Perm (outIx m s)) (s1:O.Pairwise fun a b=>¬ evLt (evI m b) (evI m a)):mvS m s=O:=by
 unfold mvS
 have h:∃ O:List Nat,O.Perm (outIx m s)/\O.Pairwise fun a b=>¬ evLt (evI m b) (evI m a):=⟨O,p1,s1⟩
 rw [dif_pos h]
 have:=Classical.choose_spec h
 exact srt_uniq hD this.1 this.2 p1 s1
theorem evLt_nt {a b c:Ev} (h1:¬ evLt b a) (h2:¬ evLt c b):¬ evLt c a:=fun h=>by
 rcases evLt_tri a b with h3 | h3 | h3
 ·
  rcases evLt_tri b c with h4 | h4 | h4
  ·
   exact evLt_irr _ (evLt_trans (evLt_trans h3 h4) h)
  ·
   subst h4; exact evLt_irr _ (evLt_trans h3 h)
  ·
   exact h2 h4
 ·
  subst h3; exact h2 h
 ·
  exact h1 h3
theorem mvS_srt (m:Mch) (s:Int):(mvS m s).Perm (outIx m s)/\(mvS m s).Pairwise fun a b=>¬ evLt (evI m b) (evI m a):=by
 have hex:∃ O:List Nat,O.Perm (outIx m s)/\O.Pairwise fun a b=>¬ evLt (evI m b) (evI m a):=by
  refine ⟨(outIx m s).mergeSort (fun a b=>!decide (evLt (evI m b) (evI m a))),List.mergeSort_perm _ _,?_⟩
  have h:=List.pairwise_mergeSort (le:=fun a b=>!decide (evLt (evI m b) (evI m a))) (fun a b c h1 h2=>by
   simp only [Bool.not_eq_true',decide_eq_false_iff_not] at h1 h2 ⊢
   exact evLt_nt h1 h2) (fun a b=>by
   simp only [Bool.or_eq_true,Bool.not_eq_true',decide_eq_false_iff_not]
   rcases evLt_tri (evI m a) (evI m b) with h3 | h3 | h3
   ·
    exact .inl fun h=>evLt_irr _ (evLt_trans h3 h)
   ·
    exact .inl fun h=>by rw [h3] at h; exact evLt_irr _ h
   ·
    exact .inr fun h=>evLt_irr _ (evLt_trans h3 h)) (outIx m s)
  exact h.imp fun h=>by simpa using h
 unfold mvS
 rw [dif_pos hex]
 exact Classical.choose_spec hex
end Go.VC
end

section
/- Contracts: what a machine can still receive (the reference's awaited). (Numbers of layer 27's development dump.) -/
namespace Go.VC
open Go.Proofs Go.LexS
theorem St.cut {h0 h:Heap} {L:List It} (hs:St h0 h L) (k:Nat) {s:Sl} {e:TypeId} {n:Nat} {rows:List (List Value)} (hk:L[k]?=some (.sl s e n rows)) (hn:0<n) (i:Nat) (hi:i<=s.n):St h0 h (L.set k (.sl ⟨subA s.a (Int.toNat 0) s.c n,Int.toNat (i:Int) - Int.toNat 0,s.c - Int.toNat 0⟩ e n (rows.take i))):=by
 have e0:subA s.a (Int.toNat 0) s.c n=s.a:=subA_zero _ _ _
 rw [e0,show Int.toNat (i:Int) - Int.toNat 0=i from rfl,show s.c - Int.toNat 0=s.c from rfl]
 have hget:=hs.get hk
 have hln:=(hs.rw k hk hn).1
 have hrl:∀ r ∈ rows.take i,r.length=n:=fun r hr=>hget.2 r (List.mem_of_mem_take hr)
 have hfl:(rows.take i).flatten.length=i*n:=by rw [flatten_len _ hrl,Yu,Nat.min_eq_left (by omega)]
 refine hs.turn hk (Yyt _) (j:=.sl ⟨s.a,i,s.c⟩ e n (rows.take i)) ⟨⟨hfl,?_⟩,hrl⟩ (fun b hb=>.inr hb) (fun _ _ _=>rfl)
 rcases hget.1.2 with ⟨ha,hn0,hc0⟩ | ⟨g,cur,ha,hb0,hh,hnc,hcm,hsz,htk⟩
 ·
  exact .inl ⟨ha,by show i=0; omega,hc0⟩
 ·
  refine .inr ⟨g,cur,ha,hb0,hh,by show i<=s.c; omega,hcm,hsz,?_⟩
  have hm:i*n<=s.n*n:=Nat.mul_le_mul_right _ hi
  have h3:(rows.take i).flatten=rows.flatten.take (i*n):=by
   have h5:rows=rows.take i++rows.drop i:=(List.take_append_drop i rows).symm
   rw [congrArg List.flatten h5,List.flatten_append,Yyq (by rw [hfl]; exact Yyt _)]
   rw [Yj (l:=(rows.take i).flatten) (by rw [hfl]; exact Yyt _)]
  show cur.toList.take (i*n)=_
  rw [h3,<- htk,List.take_take,Nat.min_eq_left (by omega)]
def Blk (peer:Int) (x:Mv):Prop:=x.send=false/\x.peer=peer
def medB (m:Mch) (peer:Int):List Ed:=(m.mv.filter fun x=>!(!x.send && x.peer == peer)).map fun x=>⟨x.f,0,0,0,x.t,false⟩
theorem medB_mem {m:Mch} {peer:Int} {x:Mv} (hx:x ∈ m.mv) (hb:¬ Blk peer x):(⟨x.f,0,0,0,x.t,false⟩:Ed) ∈ medB m peer:=by
 refine Yp.2 ⟨x,List.mem_filter.2 ⟨hx,?_⟩,rfl⟩
 cases h:x.send with
 | true=>rfl
 | false=>
  have:x.peer ≠ peer:=fun e=>hb ⟨h,e⟩
  simp [this]
theorem medB_q {m:Mch} {peer:Int} {n:Nat} {b:Int}:b ∈ quietL (medB m peer) (-1) n ↔ ∃ x ∈ m.mv,¬ Blk peer x/\x.f=(n:Int)/\x.t=b:=by
 rw [quietL_mem]
 constructor
 ·
  rintro ⟨e,he,_,hf,ht⟩
  obtain ⟨x,hx,rfl⟩:=Yp.1 he
  obtain ⟨h1,h2⟩:=List.mem_filter.1 hx
  exact ⟨x,h1,fun hc=>by rw [hc.1,hc.2] at h2; simp at h2,hf,ht⟩
 ·
  rintro ⟨x,hx,hb,hf,ht⟩
  exact ⟨_,medB_mem hx hb,rfl,hf,ht⟩
theorem medB_step {m:Mch} {peer s v:Int} {x:Mv} (h:Qr (medB m peer) (-1) [s] v) (hx:x ∈ m.mv) (hb:¬ Blk peer x) (hf:x.f=v):Qr (medB m peer) (-1) [s] x.t:=
 .step h ⟨_,medB_mem hx hb,rfl,hf,rfl⟩
def ExpM (m:Mch) (s peer label:Int):Prop:=∃ v,Qr (medB m peer) (-1) [s] v/\∃ x ∈ m.mv,x.f=v/\Blk peer x/\x.label=label
def DoneV (m:Mch) (peer label:Int) (T:List Int) (x:Mv):Prop:=(Blk peer x->x.label ≠ label)/\(¬ Blk peer x->x.t ∈ T)
def DoneM (m:Mch) (peer label:Int) (T:List Int) (v:Int):Prop:=∀ x ∈ m.mv,x.f=v->DoneV m peer label T x
theorem DoneV.mono {m:Mch} {peer label:Int} {T T':List Int} {x:Mv} (h:DoneV m peer label T x) (hT:∀ z ∈ T,z ∈ T'):DoneV m peer label T' x:=⟨h.1,fun hn=>hT _ (h.2 hn)⟩
theorem DoneM.mono {m:Mch} {peer label:Int} {T T':List Int} {v:Int} (h:DoneM m peer label T v) (hT:∀ z ∈ T,z ∈ T'):DoneM m peer label T' v:=fun x hx hf=>(h x hx hf).mono hT
theorem exp_end {m:Mch} {s peer label:Int} {n:Nat} {D:List Bool} {T:List Int} (hC:CL (medB m peer) (-1) n [s] D T) (hsT:s ∈ T) (hd:∀ v ∈ T,DoneM m peer label T v):¬ ExpM m s peer label:=by
 rintro ⟨v,hq,x,hx,hf,h1,h3⟩
 have hv:=(hC.end_ (fun y hy=>by rw [Ye.1 hy]; exact hsT) (fun v hv b hb=>by
  obtain ⟨x,hx,hb',hf,rfl⟩:=medB_q.1 hb
  exact (hd v hv x hx (by rw [hf]; exact Int.toNat_of_nonneg ((hC.mem v).1 hv).1)).2 hb') v).2 hq
 exact (hd v hv x hx hf).1 h1 h3
set_option maxHeartbeats 3200000 in
theorem awaited95 (m:Mch) (sf sm sl:Sl) (s peer label:Int) (h:Heap) (hM:MI h m sf sm sl) (hN:NumM m) (hs0:0<=s/\s<m.n) :
  Fn Pz 95 #[.agg ⟨mC m sf sm sl⟩,.int .i64 s,.int .i64 peer,.int .i64 label] h (RP (ExpM m s peer label) h):=by
 apply vc95 m.role m.n m.s sf sm sl s peer label; unfold W95
 have hmn:=hM.pm.ln
 have hmm:=hM.pm.sm
 have hn:=hN.n
 have hml:=hN.ml
 refine (St.refl h).newb fun h7 hs=>?_
 refine hs.newb fun h8 hs=>?_
 have hs:=hs.blkS 1 1 ([s].map inC) rfl (inrows _) rfl (by decide)
 have hC0:CL (medB m peer) (-1) m.n.toNat [s] ((List.replicate m.n.toNat false).set s.toNat true) [s]:=
  (CL.start (medB m peer) (-1) m.n.toNat [s]).push hs0.1 (by rw [List.getElem?_replicate,if_pos (by omega)]) (.base (Ye.2 rfl))
 refine ⟨fun l x h' μ=>∃ (i:Nat) (D:List Bool) (T:List Int),x=i/\μ=m.n.toNat - i/\i<=T.length/\St h h' [.sl l 3 1 (T.map inC),.blk h.size (mC m sf sm sl) 55]/\CL (medB m peer) (-1) m.n.toNat [s] D T/\s ∈ T/\∀ v ∈ T.take i,DoneM m peer label T v,⟨_,0,_,_,rfl,rfl,Nat.zero_le _,hs,hC0,Ye.2 rfl,fun v hv=>by rw [Yyk] at hv; cases hv⟩,?_⟩
 clear hs hC0
 rintro - l _ h14 μ ⟨i,D,T,rfl,rfl,hi,hs,hC,hsT,hd⟩
 have hln:=(hs.rows 0 (s:=l) (cs:=inC) rfl (by omega)).ln
 have hle:=hC.le
 refine sBi (fun c1=>?_) (fun c1=>?_)
 ·
  refine ⟨_,_,_,sf,sm,sl,hs.at 1 rfl (o:=0) (n:=6) rfl,?_⟩
  refine (hs.rows 0 (s:=l) (cs:=inC) rfl (by omega)).nbI (by omega) (by omega) fun b o v gv t=>?_
  replace gv:T[i]?=some v:=gv
  have hvT:=Yb gv
  have hiT:i<T.length:=(Ya.1 gv).1
  refine ⟨_,t.hd,?_⟩
  refine (refOut62S m sf sm sl v h14 (hM.ext hs.ext)).mono ?_
  rintro _ h26 ⟨r,O,rfl,h1,hP,-⟩
  have hs:=hs.join h1
  have hOl:O.length<=m.mv.length:=by
   rw [hP.length_eq]; unfold outIx
   refine Yys (List.length_filter_le _ _) ?_
   rw [Yyd]; exact Yyt _
  refine ⟨r,rfl,?_⟩
  refine ⟨fun l x h' μ=>∃ (j:Nat) (D:List Bool) (T':List Int),x=j/\μ=O.length - j/\j<=O.length/\St h h' [.sl l 3 1 (T'.map inC),.blk h.size (mC m sf sm sl) 55,.sl r 3 1 ((natI O).map inC)]/\CL (medB m peer) (-1) m.n.toNat [s] D T'/\(∃ R,T'=T++R)/\∀ k ∈ O.take j,∀ y,m.mv[k]?=some y->DoneV m peer label T' y,⟨_,0,D,T,rfl,rfl,Nat.zero_le _,hs,hC,⟨[],by simp⟩,fun v hv=>by rw [Yyk] at hv; cases hv⟩,?_⟩
  clear hs hC hln
  rintro - l2 _ h32 μ ⟨j,D,T',rfl,rfl,hj,hs,hC,⟨R,rfl⟩,hd2⟩
  have hle2:=hC.le
  have hDl:=hC.len
  have hln:=(hs.rows 0 (s:=l2) (cs:=inC) rfl (by omega)).ln
  have hrn:=(hs.rows 2 (s:=r) (cs:=inC) rfl (by omega)).ln
  rw [show (natI O).length=O.length from Yc _] at hrn
  refine sBi (fun c2=>?_) (fun c2=>?_)
  ·
   refine ⟨sm,hs.rd 1 rfl (i:=4) rfl,?_⟩
   refine (hs.rows 2 (s:=r) (cs:=inC) rfl (by omega)).nbI (by omega) (by omega) fun b3 o3 q gq t3=>?_
   replace gq:(natI O)[j]?=some q:=gq
   obtain ⟨p,gp,rfl⟩:=natI_get gq
   obtain ⟨x,hx,hxf⟩:=outIx_mem.1 (hP.mem_iff.1 (Yb gp))
   have hxl:=(Ya.1 hx).1
   have hxm:=Yb hx
   have hxr:=hN.mv x hxm
   refine ⟨_,t3.hd,?_⟩
   refine (hM.pm.rw.ext hs.ext).nbI (by omega) (by omega) fun b4 o4 x' gx t4=>?_
   replace gx:m.mv[p]?=some x':=gx
   rw [hx] at gx; cases gx
   refine ⟨_,_,_,_,_,_,t4,?_⟩
   refine hs.newbE fun h45 E45 hs=>⟨E45.sm,?_⟩
   refine hs.put 0 rfl (o:=0) (vs:=x.cs) rfl (show 6<=6 by decide) fun h46 hs=>?_
   have hqv:=hC.r v (List.mem_append_left _ hvT)
   have hstay:DoneV m peer label (T++R) x->∀ k ∈ O.take (j+1),∀ y,m.mv[k]?=some y->DoneV m peer label (T++R) y:=fun hx1 k hk y hy=>by
    rw [take_snoc gp,Yk,Ye] at hk
    rcases hk with hk | rfl
    ·
     exact hd2 k hk y hy
    ·
     rw [hx] at hy; cases hy; exact hx1
   have hgrow:¬ Blk peer x->∀ k ∈ O.take (j+1),∀ y,m.mv[k]?=some y->DoneV m peer label (T++R++[x.t]) y:=fun hnb k hk y hy=>by
    rw [take_snoc gp,Yk,Ye] at hk
    rcases hk with hk | rfl
    ·
     exact (hd2 k hk y hy).mono fun z hz=>List.mem_append_left _ hz
    ·
     rw [hx] at hy; cases hy; exact ⟨fun hb=>absurd hb hnb,fun _=>List.mem_append_right _ (Ye.2 rfl)⟩
   obtain ⟨z,hz⟩:=get_some (l:=D) (i:=x.t.toNat) (by omega)
   have hzf:x.t ∉ T++R->z=false:=fun hni=>by
    cases z
    ·
     rfl
    ·
     exact absurd ((hC.mem _).2 ⟨by omega,hz⟩) hni
   refine ⟨x.send,hs.rd 0 rfl (i:=1) rfl,sB_intro (fun cs=>?_) (fun cs=>?_)⟩
   ·
    have hnb:¬ Blk peer x:=fun hb=>by rw [hb.1] at cs; cases cs
    refine ⟨x.t,hs.rd 0 rfl (i:=4) rfl,?_⟩
    refine (refHas105 (T++R) x.t l2 h46 (hs.rows 1 (s:=l2) (cs:=inC) rfl (by omega)) (by omega)).mono ?_
    rintro _ h51 ⟨⟨bb,rfl,hbb⟩,E⟩
    have hs:=hs.step E
    refine ⟨bb,rfl,sB_intro (fun cb=>?_) (fun cb=>?_)⟩
    ·
     have hni:x.t ∉ T++R:=fun hm=>iff_f hbb (bF cb) hm
     have hzz:=hzf hni
     subst hzz
     refine ⟨x.t,hs.rd 0 rfl (i:=4) rfl,?_⟩
     have hC2:=hC.push (by omega) hz (medB_step hqv hxm hnb hxf)
     refine hs.app 1 (s:=l2) (rows:=(T++R).map inC) rfl app42 (m:=1) [[.int .i64 x.t]] rfl rfl (by simp) rfl (by omega) (by simp only [maxLen]; omega) fun s54 h55 ns hs=>?_
     refine ⟨_,(show O.length - (j+1)<O.length - j by omega),j+1,D.set x.t.toNat true,T++R++[x.t],by rw [w64 (by omega) (by omega)]; omega,rfl,by omega,?_,hC2,⟨R++[x.t],by rw [Yz]⟩,hgrow hnb⟩
     rw [Ym]; exact hs.drop 1
    ·
     exact ⟨_,(show O.length - (j+1)<O.length - j by omega),j+1,D,T++R,by rw [w64 (by omega) (by omega)]; omega,rfl,by omega,hs.drop 1,hC,⟨R,rfl⟩,hstay ⟨fun hb=>absurd hb hnb,fun _=>hbb.1 (bT cb)⟩⟩
   ·
    refine ⟨x.peer,hs.rd 0 rfl (i:=2) rfl,sBn (fun cp=>?_) (fun cp=>?_)⟩
    ·
     have hnb:¬ Blk peer x:=fun hb=>cp hb.2
     refine ⟨x.t,hs.rd 0 rfl (i:=4) rfl,?_⟩
     refine (refHas105 (T++R) x.t l2 h46 (hs.rows 1 (s:=l2) (cs:=inC) rfl (by omega)) (by omega)).mono ?_
     rintro _ h51 ⟨⟨bb,rfl,hbb⟩,E⟩
     have hs:=hs.step E
     refine ⟨bb,rfl,sB_intro (fun cb=>?_) (fun cb=>?_)⟩
     ·
      have hni:x.t ∉ T++R:=fun hm=>iff_f hbb (bF cb) hm
      have hzz:=hzf hni
      subst hzz
      refine ⟨x.t,hs.rd 0 rfl (i:=4) rfl,?_⟩
      have hC2:=hC.push (by omega) hz (medB_step hqv hxm hnb hxf)
      refine hs.app 1 (s:=l2) (rows:=(T++R).map inC) rfl app42 (m:=1) [[.int .i64 x.t]] rfl rfl (by simp) rfl (by omega) (by simp only [maxLen]; omega) fun s54 h55 ns hs=>?_
      refine ⟨_,(show O.length - (j+1)<O.length - j by omega),j+1,D.set x.t.toNat true,T++R++[x.t],by rw [w64 (by omega) (by omega)]; omega,rfl,by omega,?_,hC2,⟨R++[x.t],by rw [Yz]⟩,hgrow hnb⟩
      rw [Ym]; exact hs.drop 1
     ·
      exact ⟨_,(show O.length - (j+1)<O.length - j by omega),j+1,D,T++R,by rw [w64 (by omega) (by omega)]; omega,rfl,by omega,hs.drop 1,hC,⟨R,rfl⟩,hstay ⟨fun hb=>absurd hb hnb,fun _=>hbb.1 (bT cb)⟩⟩
    ·
     have hbl:Blk peer x:=⟨cs,cp⟩
     refine ⟨x.label,hs.rd 0 rfl (i:=3) rfl,sBe (fun cl=>RP.t ⟨v,hqv,x,hxm,hxf,hbl,cl⟩ hs.ext) (fun cl=>?_)⟩
     exact ⟨_,(show O.length - (j+1)<O.length - j by omega),j+1,D,T++R,by rw [w64 (by omega) (by omega)]; omega,rfl,by omega,hs.drop 1,hC,⟨R,rfl⟩,hstay ⟨fun _=>cl,fun hn=>absurd hbl hn⟩⟩
  ·
   refine ⟨_,(show m.n.toNat - (i+1)<m.n.toNat - i by omega),i+1,D,T++R,by rw [w64 (by omega) (by omega)]; omega,rfl,by rw [Yh]; omega,hs.eras 2,hC,List.mem_append_left _ hsT,fun v' hv'=>?_⟩
   rw [Yyq (by omega),take_snoc gv,Yk,Ye] at hv'
   rcases hv' with hv' | rfl
   ·
    exact (hd v' hv').mono fun z hz=>List.mem_append_left _ hz
   ·
    intro x hx hf
    obtain ⟨k,hk⟩:=Yf.1 hx
    refine hd2 k ?_ x hk
    rw [Yj (by omega)]
    exact hP.mem_iff.2 (outIx_mem.2 ⟨x,hk,hf⟩)
 ·
  exact RP.f (exp_end hC hsT fun v hv=>hd v (by rw [Yj (by omega)]; exact hv)) hs.ext
end Go.VC
end

section
namespace Go.VC
open Go.Proofs

def W36 (p0:Sl) (p1:Int) (p2_1 p2_2:Sl) (h:Heap) (R:Value->Heap->Prop):Prop:=
 (Wn h [vS p2_1,vS p2_2] 29 fun h3=>
 (∃ (x4 x5:Sl),atC h3 (aS h 0) [vS x4,vS x5] /\
 (Fn Pz 24 #[vS p0,vI p1,.agg ⟨[vS x4,vS x5]⟩] h3
 (fun v6 h8=>∃ x7,iB v6 x7 /\
 (sB (!x7)
 (R (.tuple ⟨[.bool false,vI 1]⟩) h8)
 ((∃ (x9 x10:Sl),atC h8 (aS h 0) [vS x9,vS x10] /\
 (Fn Pz 67 #[vS p0,.agg ⟨[vS x9,vS x10]⟩] h8
 (fun v11 h13=>∃ x12,iB v11 x12 /\
 R (.tuple ⟨[.bool x12,vI 0]⟩) h13)))))))))
theorem vc36 (p0:Sl) (p1:Int) (p2_1 p2_2:Sl) (h:Heap) (R:Value->Heap->Prop) (H:W36 p0 p1 p2_1 p2_2 h R):Fn Pz 36 #[vS p0,vI p1,.agg ⟨[vS p2_1,vS p2_2]⟩] h R:=fnI (A:=.z) (by kernel_rfl) H

def W67 (p0 p1_1 p1_2:Sl) (h:Heap) (R:Value->Heap->Prop):Prop:=
 (Wn h [vS p1_1,vS p1_2] 29 fun h3=>
 (∃ x4,rS h3 (aS h 0) x4 /\
 (QI 0 h3 fun I5 x_8 h9 m7=>(
 (sB (decide (x_8<(x4.n:Int)))
 ((NB x4.a fun b10 o11=>(Ib x_8 x4.n /\
 (∃ x12,rI h9 ⟨b10,o11+Int.toNat x_8*1,none⟩ x12 /\
 (NB p0.a fun b13 o14=>(Ib x_8 p0.n /\
 (∃ x15,rS h9 ⟨b13,o14+Int.toNat x_8*6+3,none⟩ x15 /\
 (NB x15.a fun b16 o17=>(Ib x12 x15.n /\
 (∃ x18,rB h9 ⟨b16,o17+Int.toNat x12*1,none⟩ x18 /\
 (sB (!x18)
 (R (.bool false) h9)
 ((∃ m19,m19<m7/\I5 (IntKind.wrap .i64 (x_8+1)) h9 m19)))))))))))))
 ((∃ x20,rS h9 (aS h 1) x20 /\
 (Fn Pz 93 #[vS x20,.func (.func 94) #[] #[]] h9
 (fun v21 h23=>∃ x22,iB v21 x22 /\
 R (.bool (!x22)) h23)))))))))
theorem vc67 (p0 p1_1 p1_2:Sl) (h:Heap) (R:Value->Heap->Prop) (H:W67 p0 p1_1 p1_2 h R):Fn Pz 67 #[vS p0,.agg ⟨[vS p1_1,vS p1_2]⟩] h R:=fnI (A:=(.s .z (.s (.s .z (.b (.l [(10,.one (.int .i64))] .z))) .z))) (by kernel_rfl) H

def W37 (p0:Sl) (p1:Int) (p2_1 p2_2:Sl) (h:Heap) (R:Value->Heap->Prop):Prop:=
 (Wn h [vS p2_1,vS p2_2] 26 fun h3=>
 (∃ (x4 x5:Sl),atC h3 (aS h 0) [vS x4,vS x5] /\
 (Fn Pz 25 #[vS p0,vI p1,.agg ⟨[vS x4,vS x5]⟩] h3
 (fun v6 h8=>∃ x7,iB v6 x7 /\
 (sB (!x7)
 (R (.tuple ⟨[.bool false,vI 1]⟩) h8)
 ((∃ (x9 x10:Sl),atC h8 (aS h 0) [vS x9,vS x10] /\
 (Fn Pz 68 #[vS p0,.agg ⟨[vS x9,vS x10]⟩] h8
 (fun v11 h13=>∃ x12,iB v11 x12 /\
 R (.tuple ⟨[.bool x12,vI 0]⟩) h13)))))))))
theorem vc37 (p0:Sl) (p1:Int) (p2_1 p2_2:Sl) (h:Heap) (R:Value->Heap->Prop) (H:W37 p0 p1 p2_1 p2_2 h R):Fn Pz 37 #[vS p0,vI p1,.agg ⟨[vS p2_1,vS p2_2]⟩] h R:=fnI (A:=.z) (by kernel_rfl) H

def W68 (p0 p1_1 p1_2:Sl) (h:Heap) (R:Value->Heap->Prop):Prop:=
 (Wn h [vS p1_1,vS p1_2] 26 fun h3=>
 (QI 0 h3 fun I4 p_7 h8 m6=>(
 (sB (decide (p_7<(p0.n:Int)))
 ((NB p0.a fun b9 o10=>(Ib p_7 p0.n /\
 (∃ x11,rS h8 ⟨b9,o10+Int.toNat p_7*6+3,none⟩ x11 /\
 (∃ x12,rS h8 (aS h 0) x12 /\
 (NB x12.a fun b13 o14=>(Ib p_7 x12.n /\
 (∃ x15,rI h8 ⟨b13,o14+Int.toNat p_7*1,none⟩ x15 /\
 (NB x11.a fun b16 o17=>(Ib x15 x11.n /\
 (∃ x18,rB h8 ⟨b16,o17+Int.toNat x15*1,none⟩ x18 /\
 (sB (!x18)
 (R (.bool false) h8)
 ((∃ m19,m19<m6/\I4 (IntKind.wrap .i64 (p_7+1)) h8 m19))))))))))))))
 ((QI 0 h8 fun I20 i_23 h24 m22=>(
 (∃ x25,rS h24 (aS h 1) x25 /\
 (sB (decide (i_23<(x25.n:Int)))
 ((∃ x26,rS h24 (aS h 1) x26 /\
 (NB x26.a fun b27 o28=>(Ib i_23 x26.n /\
 (∃ x29,rS h24 ⟨b27,o28+Int.toNat i_23*1,none⟩ x29 /\
 (sB (decide ((x29.n:Int) > 0))
 (R (.bool false) h24)
 ((∃ m30,m30<m22/\I20 (IntKind.wrap .i64 (i_23+1)) h24 m30))))))))
 (R (.bool true) h24))))))))))
theorem vc68 (p0 p1_1 p1_2:Sl) (h:Heap) (R:Value->Heap->Prop) (H:W68 p0 p1_1 p1_2 h R):Fn Pz 68 #[vS p0,.agg ⟨[vS p1_1,vS p1_2]⟩] h R:=fnI (A:=(.s .z (.s (.s .z (.b (.l [(5,.one (.int .i64))] .z))) (.s (.s .z (.b (.l [(6,.one (.int .i64))] .z))) .z)))) (by kernel_rfl) H

def W38 (p0:Sl) (p1:Int) (p2_1 p2_2:Sl) (h:Heap) (R:Value->Heap->Prop):Prop:=
 (Wn h [vS p2_1,vS p2_2] 29 fun h3=>
 (∃ (x4 x5:Sl),atC h3 (aS h 0) [vS x4,vS x5] /\
 (Fn Pz 24 #[vS p0,vI p1,.agg ⟨[vS x4,vS x5]⟩] h3
 (fun v6 h8=>∃ x7,iB v6 x7 /\
 (sB (!x7)
 (R (.tuple ⟨[vI 0,vI 1]⟩) h8)
 ((∃ x9,rS h8 (aS h 1) x9 /\
 (QI 0 h8 fun I10 x_13 h14 m12=>(
 (sB (decide (x_13<(x9.n:Int)))
 ((NB x9.a fun b15 o16=>(Ib x_13 x9.n /\
 (∃ x17,rS h14 ⟨b15,o16+Int.toNat x_13*1,none⟩ x17 /\
 (sB (decide ((x17.n:Int) > 0))
 (((p0.n:Int) ≠ 0/\(NB p0.a fun b18 o19=>((0<=((Int.tmod x_13 (p0.n:Int)):Int)/\((Int.tmod x_13 (p0.n:Int)):Int)<(p0.n:Nat)) /\
 (∃ x20 x21 x22 x23 x24 x25,aL1 h14 ⟨b18,o19+Int.toNat (Int.tmod x_13 (p0.n:Int))*6,none⟩ x20 x21 x22 x23 x24 x25 /\
 (∃ x26,rS h14 (aS h 0) x26 /\
 ((p0.n:Int) ≠ 0/\(NB x26.a fun b27 o28=>((0<=((Int.tmod x_13 (p0.n:Int)):Int)/\((Int.tmod x_13 (p0.n:Int)):Int)<(x26.n:Nat)) /\
 (∃ x29,rI h14 ⟨b27,o28+Int.toNat (Int.tmod x_13 (p0.n:Int))*1,none⟩ x29 /\
 ((p0.n:Int) ≠ 0/\(NB x17.a fun b30 o31=>(Ib 0 x17.n /\
 (∃ x32,rI h14 ⟨b30,o31+Int.toNat 0*1,none⟩ x32 /\
 (Fn Pz 69 #[.agg ⟨(L1 x20 x21 x22 x23 x24 x25)⟩,vI x29,vI (IntKind.wrap .i64 (Int.tdiv x_13 (p0.n:Int))),vI x32] h14
 (fun v33 h35=>∃ x34,iB v33 x34 /\
 (sB (!x34)
 (R (.tuple ⟨[vI 1,vI 0]⟩) h35)
 ((∃ m36,m36<m12/\I10 (IntKind.wrap .i64 (x_13+1)) h35 m36)))))))))))))))))))
 ((∃ m37,m37<m12/\I10 (IntKind.wrap .i64 (x_13+1)) h14 m37)))))))
 ((∃ (x38 x39:Sl),atC h14 (aS h 0) [vS x38,vS x39] /\
 (Fn Pz 67 #[vS p0,.agg ⟨[vS x38,vS x39]⟩] h14
 (fun v40 h42=>∃ x41,iB v40 x41 /\
 (sB (!x41)
 ((∃ (x43 x44:Sl),atC h42 (aS h 0) [vS x43,vS x44] /\
 (Fn Pz 47 #[vS p0,vI p1,.agg ⟨[vS x43,vS x44]⟩] h42
 (fun v45 h47=>∃ x46,iS v45 x46 /\
 (sB ((x46.n:Int) == 0)
 (R (.tuple ⟨[vI 2,vI 0]⟩) h47)
 (R (.tuple ⟨[vI 0,vI 0]⟩) h47))))))
 (R (.tuple ⟨[vI 0,vI 0]⟩) h42))))))))))))))))
theorem vc38 (p0:Sl) (p1:Int) (p2_1 p2_2:Sl) (h:Heap) (R:Value->Heap->Prop) (H:W38 p0 p1 p2_1 p2_2 h R):Fn Pz 38 #[vS p0,vI p1,.agg ⟨[vS p2_1,vS p2_2]⟩] h R:=fnI (A:=(.s .z (.s .z (.s .z (.s (.s .z (.b (.l [(21,.one (.int .i64))] .z))) .z))))) (by kernel_rfl) H

def W69 (p0_1 p0_2 p0_3:Int) (p0_4 p0_5 p0_6:Sl) (p1 p2 p3:Int) (h:Heap) (R:Value->Heap->Prop):Prop:=
 (Wn h (L1 p0_1 p0_2 p0_3 p0_4 p0_5 p0_6) 55 fun h7=>
 (∃ x8,rI h7 (aS h 1) x8 /\
 (Mk x8 x8 1/\Wn h7 (madeL Pz 4 (Int.toNat x8)) 4 fun h9=>
 ((0<=(p1:Int)/\(p1:Int)<((Int.toNat x8):Nat)) /\
 (Wp h9 (aS h7 (0+Int.toNat p1*1)) 1 [.bool true] fun h10=>
 (Wn h10 [vI p1] 3 fun h11=>
 (QS ⟨(some (aS h10 0)),1,1⟩ h11 fun I12 todo_15 h16 m14=>(
 (sB (decide ((todo_15.n:Int) > 0))
 ((NB todo_15.a fun b17 o18=>((0<=((IntKind.wrap .i64 ((todo_15.n:Int) - 1)):Int)/\((IntKind.wrap .i64 ((todo_15.n:Int) - 1)):Int)<(todo_15.n:Nat)) /\
 (∃ x19,rI h16 ⟨b17,o18+Int.toNat (IntKind.wrap .i64 ((todo_15.n:Int) - 1))*1,none⟩ x19 /\
 (((0:Int)<=(0:Int)/\(0:Int)<=((IntKind.wrap .i64 ((todo_15.n:Int) - 1)):Int)/\((IntKind.wrap .i64 ((todo_15.n:Int) - 1)):Int)<=(todo_15.c:Nat)) /\
 (∃ x20,rS h16 (aS h 4) x20 /\
 (QSI ⟨(subA todo_15.a (Int.toNat 0) todo_15.c 1),(Int.toNat (IntKind.wrap .i64 ((todo_15.n:Int) - 1)) - Int.toNat 0),(todo_15.c - Int.toNat 0)⟩ 0 h16 fun I21 todo_24 x_25 h26 m23=>(
 (sB (decide (x_25<(x20.n:Int)))
 ((NB x20.a fun b27 o28=>(Ib x_25 x20.n /\
 (∃ x29 x30 x31 x32 x33 x34,aL0 h26 ⟨b27,o28+Int.toNat x_25*6,none⟩ x29 x30 x31 x32 x33 x34 /\
 (Wn h26 [vI 0,.bool false,vI 0,vI 0,vI 0,.bool false] 108 fun h35=>
 (Wp h35 (aS h26 0) 6 (L0 x29 x30 x31 x32 x33 x34) fun h36=>
 (∃ x37,rI h36 (aS h26 0) x37 /\
 (sB (x37 != x19)
 ((∃ m38,m38<m23/\I21 todo_24 (IntKind.wrap .i64 (x_25+1)) h36 m38))
 ((∃ x39,rB h36 (aS h26 1) x39 /\
 (sB (!x39)
 ((∃ x40,rI h36 (aS h26 2) x40 /\
 (sB (x40 == p2)
 ((∃ x41,rI h36 (aS h26 3) x41 /\
 (sB (x41 == p3)
 (R (.bool true) h36)
 ((∃ m42,m42<m23/\I21 todo_24 (IntKind.wrap .i64 (x_25+1)) h36 m42)))))
 ((∃ x43,rI h36 (aS h26 4) x43 /\
 ((0<=(x43:Int)/\(x43:Int)<((Int.toNat x8):Nat)) /\
 (∃ x44,rB h36 (aS h7 (0+Int.toNat x43*1)) x44 /\
 (sB (!x44)
 ((∃ x45,rI h36 (aS h26 4) x45 /\
 ((0<=(x45:Int)/\(x45:Int)<((Int.toNat x8):Nat)) /\
 (Wp h36 (aS h7 (0+Int.toNat x45*1)) 1 [.bool true] fun h46=>
 (∃ x47,rI h46 (aS h26 4) x47 /\
 (Wn h46 [vI x47] 3 fun h48=>
 (App Pz 23 23 (vS todo_24) (.slice (some (aS h46 0)) 1 1) h48 fun s49 h50=>
 (∃ m51,m51<m23/\I21 s49 (IntKind.wrap .i64 (x_25+1)) h50 m51))))))))
 ((∃ m52,m52<m23/\I21 todo_24 (IntKind.wrap .i64 (x_25+1)) h36 m52))))))))))
 ((∃ x53,rI h36 (aS h26 4) x53 /\
 ((0<=(x53:Int)/\(x53:Int)<((Int.toNat x8):Nat)) /\
 (∃ x54,rB h36 (aS h7 (0+Int.toNat x53*1)) x54 /\
 (sB (!x54)
 ((∃ x55,rI h36 (aS h26 4) x55 /\
 ((0<=(x55:Int)/\(x55:Int)<((Int.toNat x8):Nat)) /\
 (Wp h36 (aS h7 (0+Int.toNat x55*1)) 1 [.bool true] fun h56=>
 (∃ x57,rI h56 (aS h26 4) x57 /\
 (Wn h56 [vI x57] 3 fun h58=>
 (App Pz 23 23 (vS todo_24) (.slice (some (aS h56 0)) 1 1) h58 fun s59 h60=>
 (∃ m61,m61<m23/\I21 s59 (IntKind.wrap .i64 (x_25+1)) h60 m61))))))))
 ((∃ m62,m62<m23/\I21 todo_24 (IntKind.wrap .i64 (x_25+1)) h36 m62))))))))))))))))))
 ((∃ m63,m63<m14/\I12 todo_24 h26 m63)))))))))))
 (R (.bool false) h16))))))))))
theorem vc69 (p0_1 p0_2 p0_3:Int) (p0_4 p0_5 p0_6:Sl) (p1 p2 p3:Int) (h:Heap) (R:Value->Heap->Prop) (H:W69 p0_1 p0_2 p0_3 p0_4 p0_5 p0_6 p1 p2 p3 h R):Fn Pz 69 #[.agg ⟨(L1 p0_1 p0_2 p0_3 p0_4 p0_5 p0_6)⟩,vI p1,vI p2,vI p3] h R:=fnI (A:=(.s .z (.s .z (.s .z (.s (.s .z (.b (.l [(10,.one (.slice))] (.s .z (.b (.s .z (.s .z (.s .z (.b (.l [(10,.one (.slice)),(39,.one (.int .i64))] .z)))))))))) .z))))) (by kernel_rfl) H

def W39 (p0:Sl) (p1:Int) (p2_1 p2_2:Sl) (h:Heap) (R:Value->Heap->Prop):Prop:=
 (Wn h [vS p2_1,vS p2_2] 26 fun h3=>
 (∃ (x4 x5:Sl),atC h3 (aS h 0) [vS x4,vS x5] /\
 (Fn Pz 25 #[vS p0,vI p1,.agg ⟨[vS x4,vS x5]⟩] h3
 (fun v6 h8=>∃ x7,iB v6 x7 /\
 (sB (!x7)
 (R (.tuple ⟨[vI 0,vI 1]⟩) h8)
 ((∃ (x9 x10:Sl),atC h8 (aS h 0) [vS x9,vS x10] /\
 (Fn Pz 70 #[vS p0,vI p1,.agg ⟨[vS x9,vS x10]⟩] h8
 (fun v11 h13=>∃ x12,iI v11 x12 /\
 R (.tuple ⟨[vI x12,vI 0]⟩) h13)))))))))
theorem vc39 (p0:Sl) (p1:Int) (p2_1 p2_2:Sl) (h:Heap) (R:Value->Heap->Prop) (H:W39 p0 p1 p2_1 p2_2 h R):Fn Pz 39 #[vS p0,vI p1,.agg ⟨[vS p2_1,vS p2_2]⟩] h R:=fnI (A:=.z) (by kernel_rfl) H

def W70 (p0:Sl) (p1:Int) (p2_1 p2_2:Sl) (h:Heap) (R:Value->Heap->Prop):Prop:=
 (Wn h [vS p2_1,vS p2_2] 26 fun h3=>
 (QI 0 h3 fun I4 i_7 h8 m6=>(
 (∃ x9,rS h8 (aS h 1) x9 /\
 (sB (decide (i_7<(x9.n:Int)))
 (((p0.n:Int) ≠ 0/\((p0.n:Int) ≠ 0/\(∃ x10,rS h8 (aS h 1) x10 /\
 (NB x10.a fun b11 o12=>(Ib i_7 x10.n /\
 (∃ x13,rS h8 ⟨b11,o12+Int.toNat i_7*1,none⟩ x13 /\
 (sB (decide ((x13.n:Int) > 0))
 ((NB p0.a fun b14 o15=>((0<=((Int.tmod i_7 (p0.n:Int)):Int)/\((Int.tmod i_7 (p0.n:Int)):Int)<(p0.n:Nat)) /\
 (∃ x16 x17 x18 x19 x20 x21,aL1 h8 ⟨b14,o15+Int.toNat (Int.tmod i_7 (p0.n:Int))*6,none⟩ x16 x17 x18 x19 x20 x21 /\
 (∃ x22,rS h8 (aS h 0) x22 /\
 (NB x22.a fun b23 o24=>((0<=((Int.tmod i_7 (p0.n:Int)):Int)/\((Int.tmod i_7 (p0.n:Int)):Int)<(x22.n:Nat)) /\
 (∃ x25,rI h8 ⟨b23,o24+Int.toNat (Int.tmod i_7 (p0.n:Int))*1,none⟩ x25 /\
 (∃ x26,rS h8 (aS h 1) x26 /\
 (NB x26.a fun b27 o28=>(Ib i_7 x26.n /\
 (∃ x29,rS h8 ⟨b27,o28+Int.toNat i_7*1,none⟩ x29 /\
 (NB x29.a fun b30 o31=>(Ib 0 x29.n /\
 (∃ x32,rI h8 ⟨b30,o31+Int.toNat 0*1,none⟩ x32 /\
 (Fn Pz 95 #[.agg ⟨(L1 x16 x17 x18 x19 x20 x21)⟩,vI x25,vI (IntKind.wrap .i64 (Int.tdiv i_7 (p0.n:Int))),vI x32] h8
 (fun v33 h35=>∃ x34,iB v33 x34 /\
 (Sm [⟨b11,o12+Int.toNat i_7*1,none⟩,(aS h 1)] h8 h35 /\
 (sB (!x34)
 (R (vI 1) h35)
 ((∃ m36,m36<m6/\I4 (IntKind.wrap .i64 (i_7+1)) h35 m36)))))))))))))))))))))
 ((∃ m37,m37<m6/\I4 (IntKind.wrap .i64 (i_7+1)) h8 m37))))))))))
 ((∃ (x38 x39:Sl),atC h8 (aS h 0) [vS x38,vS x39] /\
 (Fn Pz 48 #[vS p0,vI p1,.agg ⟨[vS x38,vS x39]⟩] h8
 (fun v40 h42=>∃ x41,iS v40 x41 /\
 (sB ((x41.n:Int) == 0)
 ((∃ (x43 x44:Sl),atC h42 (aS h 0) [vS x43,vS x44] /\
 (Fn Pz 68 #[vS p0,.agg ⟨[vS x43,vS x44]⟩] h42
 (fun v45 h47=>∃ x46,iB v45 x46 /\
 (sB (!x46)
 (R (vI 2) h47)
 (R (vI 0) h47))))))
 (R (vI 0) h42)))))))))))
theorem vc70 (p0:Sl) (p1:Int) (p2_1 p2_2:Sl) (h:Heap) (R:Value->Heap->Prop) (H:W70 p0 p1 p2_1 p2_2 h R):Fn Pz 70 #[vS p0,vI p1,.agg ⟨[vS p2_1,vS p2_2]⟩] h R:=fnI (A:=(.s .z (.s (.s .z (.b (.l [(7,.one (.int .i64))] .z))) .z))) (by kernel_rfl) H

end Go.VC
end

section
/- Contracts: what a machine can still receive (the program's expected). (Numbers of layer 27's development dump.) -/
namespace Go.VC
open Go.Proofs Go.LexS
set_option maxHeartbeats 3200000 in
theorem expected69 (m:Mch) (sf sm sl:Sl) (s peer label:Int) (h:Heap) (hM:MI h m sf sm sl) (hN:NumM m) (hs0:0<=s/\s<m.n) :
  Fn Pz 69 #[.agg ⟨mC m sf sm sl⟩,.int .i64 s,.int .i64 peer,.int .i64 label] h (RP (ExpM m s peer label) h):=by
 apply vc69 m.role m.n m.s sf sm sl s peer label; unfold W69
 have hmn:=hM.pm.ln
 have hmm:=hM.pm.sm
 have hn:=hN.n
 have hml:=hN.ml
 refine (St.refl h).newb fun h7 hs=>?_
 refine ⟨_,hs.rd 0 rfl (i:=1) rfl,⟨by omega,by omega,by omega⟩,?_⟩
 rw [made4]
 refine hs.newb fun h9 hs=>?_
 refine ⟨⟨by omega,by omega⟩,?_⟩
 rw [show 0+Int.toNat s*1=s.toNat by omega]
 refine hs.put 0 rfl (o:=s.toNat) (vs:=[.bool true]) rfl (by rw [Yc,Yg,Yv]; omega) fun h10 hs=>?_
 rw [map_splice _ (by rw [Yg]; omega)] at hs
 refine hs.newb fun h11 hs=>?_
 have hs:=hs.blkS 1 1 ([s].map inC) rfl (inrows _) rfl (by decide)
 have hC0:CL (medB m peer) (-1) m.n.toNat [s] ((List.replicate m.n.toNat false).set s.toNat true) [s]:=
  (CL.start (medB m peer) (-1) m.n.toNat [s]).push hs0.1 (by rw [List.getElem?_replicate,if_pos (by omega)]) (.base (Ye.2 rfl))
 refine ⟨fun todo h' μ=>∃ (D:List Bool) (T U:List Int),μ=(m.n.toNat - T.length)+U.length/\St h h' [.sl todo 3 1 (U.map inC),.blk h7.size (D.map Value.bool) 4,.blk h.size (mC m sf sm sl) 55]/\CL (medB m peer) (-1) m.n.toNat [s] D T/\s ∈ T/\(∀ v ∈ U,v ∈ T)/\m.n.toNat - T.length+U.length<=m.n.toNat/\∀ v ∈ T,v ∈ U\/DoneM m peer label T v,⟨_,_,[s],[s],rfl,hs,hC0,Ye.2 rfl,fun v hv=>hv,by rw [Yv]; omega,fun v hv=>.inl hv⟩,?_⟩
 clear hs hC0
 rintro - todo h16 μ ⟨D,T,U,rfl,hs,hC,hsT,hUT,hcnt,hd⟩
 obtain ⟨hln,hcap,-⟩:=hs.len 0 (s:=todo) (e:=3) (n:=1) rfl (by omega)
 rw [Yc] at hln
 have hle:=hC.le
 refine sBi (fun c1=>?_) (fun c1=>?_)
 ·
  have ew:IntKind.wrap .i64 ((todo.n:Int) - 1)=((U.length - 1:Nat):Int):=by rw [w64 (by omega) (by omega)]; omega
  rw [ew]
  refine (hs.rows 0 (s:=todo) (cs:=inC) rfl (by omega)).nbI (by omega) (by omega) fun b17 o18 v gv t=>?_
  rw [Ys] at gv
  have hU:U=U.take (U.length - 1)++[v]:=by
   rw [<- take_snoc gv,show U.length - 1+1=U.length by omega,Yye]
  have hvT:=hUT v (Yb gv)
  have hqv:=hC.r v hvT
  refine ⟨v,t.hd,⟨by omega,by omega,by omega⟩,sm,hs.rd 2 rfl (i:=4) rfl,?_⟩
  have hs:=hs.cut 0 (s:=todo) (e:=3) (n:=1) rfl (by omega) (U.length - 1) (by omega)
  rw [<- List.map_take] at hs
  have hU1:(U.take (U.length - 1)).length=U.length - 1:=by rw [Yu]; omega
  generalize U.take (U.length - 1)=U1 at *
  refine ⟨fun todo x h' μ=>∃ (j:Nat) (D:List Bool) (T' U2:List Int),x=j/\μ=m.mv.length - j/\j<=m.mv.length/\St h h' [.sl todo 3 1 (U2.map inC),.blk h7.size (D.map Value.bool) 4,.blk h.size (mC m sf sm sl) 55]/\CL (medB m peer) (-1) m.n.toNat [s] D T'/\(∃ R,T'=T++R)/\(∀ y ∈ U2,y ∈ T')/\m.n.toNat - T'.length+U2.length=m.n.toNat - T.length+(U.length - 1)/\(∀ y ∈ T',y ∈ U2\/y=v\/DoneM m peer label T' y)/\∀ k<j,∀ y,m.mv[k]?=some y->y.f=v->DoneV m peer label T' y,⟨_,0,D,T,U1,rfl,rfl,Nat.zero_le _,hs,hC,⟨[],by simp⟩,fun y hy=>hUT y (by rw [hU]; exact List.mem_append_left _ hy),by rw [hU1],fun y hy=>?_,fun k hk=>by omega⟩,?_⟩
  ·
   rcases hd y hy with h1 | h1
   ·
    rw [hU,Yk,Ye] at h1
    exact h1.imp id .inl
   ·
    exact .inr (.inr h1)
  have hU0:0<U.length:=by omega
  clear hs hC hln hcap
  rintro - todo2 _ h26 μ ⟨j,D,T',U2,rfl,rfl,hj,hs,hC,⟨R,rfl⟩,hUT2,hcnt2,hd2,hm2⟩
  have hle2:=hC.le
  have hDl:=hC.len
  obtain ⟨hln,hcap,-⟩:=hs.len 0 (s:=todo2) (e:=3) (n:=1) rfl (by omega)
  rw [Yc] at hln
  refine sBi (fun c2=>?_) (fun c2=>?_)
  ·
   refine (hM.pm.rw.ext hs.ext).nbI (by omega) (by omega) fun b27 o28 x gx t2=>?_
   replace gx:m.mv[j]?=some x:=gx
   have hxm:=Yb gx
   have hxr:=hN.mv x hxm
   refine ⟨_,_,_,_,_,_,t2,?_⟩
   refine hs.newput (vs:=x.cs) rfl rfl fun h36 hs=>?_
   have hstay:(x.f=v->DoneV m peer label (T++R) x)->∀ k<j+1,∀ y,m.mv[k]?=some y->y.f=v->DoneV m peer label (T++R) y:=fun hx1 k hk y hy hf=>by
    by_cases e:k=j
    ·
     subst e; rw [gx] at hy; cases hy; exact hx1 hf
    ·
     exact hm2 k (by omega) y hy hf
   have hgrow:¬ Blk peer x->∀ k<j+1,∀ y,m.mv[k]?=some y->y.f=v->DoneV m peer label (T++R++[x.t]) y:=fun hnb k hk y hy hf=>by
    by_cases e:k=j
    ·
     subst e; rw [gx] at hy; cases hy; exact ⟨fun hb=>absurd hb hnb,fun _=>List.mem_append_right _ (Ye.2 rfl)⟩
    ·
     exact (hm2 k (by omega) y hy hf).mono fun z hz=>List.mem_append_left _ hz
   have e1:0+Int.toNat x.t*1=x.t.toNat:=by omega
   obtain ⟨z,hz⟩:=get_some (l:=D) (i:=x.t.toNat) (by omega)
   refine ⟨x.f,hs.rd 0 rfl (i:=0) rfl,sBn (fun c3=>?_) (fun c3=>?_)⟩
   ·
    exact ⟨_,(show m.mv.length - (j+1)<m.mv.length - j by omega),j+1,D,T++R,U2,by rw [w64 (by omega) (by omega)]; omega,rfl,by omega,hs.drop 1,hC,⟨R,rfl⟩,hUT2,hcnt2,hd2,hstay fun hf=>absurd hf c3⟩
   refine ⟨x.send,hs.rd 0 rfl (i:=1) rfl,sB_intro (fun cs=>?_) (fun cs=>?_)⟩
   ·
    refine ⟨x.peer,hs.rd 0 rfl (i:=2) rfl,sBe (fun cp=>?_) (fun cp=>?_)⟩
    ·
     have hbl:Blk peer x:=⟨bF cs,cp⟩
     refine ⟨x.label,hs.rd 0 rfl (i:=3) rfl,sBe (fun cl=>RP.t ⟨v,hqv,x,hxm,c3,hbl,cl⟩ hs.ext) (fun cl=>?_)⟩
     exact ⟨_,(show m.mv.length - (j+1)<m.mv.length - j by omega),j+1,D,T++R,U2,by rw [w64 (by omega) (by omega)]; omega,rfl,by omega,hs.drop 1,hC,⟨R,rfl⟩,hUT2,hcnt2,hd2,hstay fun hf=>⟨fun _=>cl,fun hn=>absurd hbl hn⟩⟩
    ·
     have hnb:¬ Blk peer x:=fun hb=>cp hb.2
     refine ⟨x.t,hs.rd 0 rfl (i:=4) rfl,⟨by omega,by omega⟩,?_⟩
     rw [e1]
     refine ⟨z,hs.rd 2 rfl (by rw [map_get,hz]; rfl),sB_intro (fun cz=>?_) (fun cz=>?_)⟩
     ·
      have hzf:z=false:=bF cz
      subst hzf
      refine ⟨x.t,hs.rd 0 rfl (i:=4) rfl,⟨by omega,by omega⟩,?_⟩
      rw [e1]
      have hC2:=hC.push (by omega) hz (medB_step hqv hxm hnb c3)
      have hle3:=hC2.le
      have hl3:(T++R++[x.t]).length=(T++R).length+1:=by rw [Yh,Yv]
      have hl4:(U2++[x.t]).length=U2.length+1:=by rw [Yh,Yv]
      refine hs.put 2 rfl (o:=x.t.toNat) (vs:=[.bool true]) rfl (by rw [Yc,Yv]; omega) fun h46 hs=>?_
      rw [map_splice _ (by omega)] at hs
      refine ⟨x.t,hs.rd 0 rfl (i:=4) rfl,?_⟩
      refine hs.app 1 (s:=todo2) (rows:=U2.map inC) rfl app42 (m:=1) [[.int .i64 x.t]] rfl rfl (by simp) rfl (by omega) (by simp only [maxLen]; omega) fun s49 h50 ns hs=>?_
      refine ⟨_,(show m.mv.length - (j+1)<m.mv.length - j by omega),j+1,D.set x.t.toNat true,T++R++[x.t],U2++[x.t],by rw [w64 (by omega) (by omega)]; omega,rfl,by omega,?_,hC2,⟨R++[x.t],by rw [Yz]⟩,fun y hy=>?_,by omega,fun y hy=>?_,hgrow hnb⟩
      ·
       rw [Ym]; exact hs.drop 1
      ·
       rcases Yk.1 hy with hy | hy
       ·
        exact List.mem_append_left _ (hUT2 y hy)
       ·
        exact List.mem_append_right _ hy
      ·
       rcases Yk.1 hy with hy | hy
       ·
        rcases hd2 y hy with h1 | h1 | h1
        ·
         exact .inl (List.mem_append_left _ h1)
        ·
         exact .inr (.inl h1)
        ·
         exact .inr (.inr (h1.mono fun z hz=>List.mem_append_left _ hz))
       ·
        exact .inl (List.mem_append_right _ hy)
     ·
      have hzt:z=true:=bT cz
      subst hzt
      exact ⟨_,(show m.mv.length - (j+1)<m.mv.length - j by omega),j+1,D,T++R,U2,by rw [w64 (by omega) (by omega)]; omega,rfl,by omega,hs.drop 1,hC,⟨R,rfl⟩,hUT2,hcnt2,hd2,hstay fun hf=>⟨fun hb=>absurd hb hnb,fun _=>(hC.mem _).2 ⟨by omega,hz⟩⟩⟩
   ·
    have hnb:¬ Blk peer x:=fun hb=>by rw [hb.1] at cs; cases cs
    refine ⟨x.t,hs.rd 0 rfl (i:=4) rfl,⟨by omega,by omega⟩,?_⟩
    rw [e1]
    refine ⟨z,hs.rd 2 rfl (by rw [map_get,hz]; rfl),sB_intro (fun cz=>?_) (fun cz=>?_)⟩
    ·
     have hzf:z=false:=bF cz
     subst hzf
     refine ⟨x.t,hs.rd 0 rfl (i:=4) rfl,⟨by omega,by omega⟩,?_⟩
     rw [e1]
     have hC2:=hC.push (by omega) hz (medB_step hqv hxm hnb c3)
     have hle3:=hC2.le
     have hl3:(T++R++[x.t]).length=(T++R).length+1:=by rw [Yh,Yv]
     have hl4:(U2++[x.t]).length=U2.length+1:=by rw [Yh,Yv]
     refine hs.put 2 rfl (o:=x.t.toNat) (vs:=[.bool true]) rfl (by rw [Yc,Yv]; omega) fun h46 hs=>?_
     rw [map_splice _ (by omega)] at hs
     refine ⟨x.t,hs.rd 0 rfl (i:=4) rfl,?_⟩
     refine hs.app 1 (s:=todo2) (rows:=U2.map inC) rfl app42 (m:=1) [[.int .i64 x.t]] rfl rfl (by simp) rfl (by omega) (by simp only [maxLen]; omega) fun s49 h50 ns hs=>?_
     refine ⟨_,(show m.mv.length - (j+1)<m.mv.length - j by omega),j+1,D.set x.t.toNat true,T++R++[x.t],U2++[x.t],by rw [w64 (by omega) (by omega)]; omega,rfl,by omega,?_,hC2,⟨R++[x.t],by rw [Yz]⟩,fun y hy=>?_,by omega,fun y hy=>?_,hgrow hnb⟩
     ·
      rw [Ym]; exact hs.drop 1
     ·
      rcases Yk.1 hy with hy | hy
      ·
       exact List.mem_append_left _ (hUT2 y hy)
      ·
       exact List.mem_append_right _ hy
     ·
      rcases Yk.1 hy with hy | hy
      ·
       rcases hd2 y hy with h1 | h1 | h1
       ·
        exact .inl (List.mem_append_left _ h1)
       ·
        exact .inr (.inl h1)
       ·
        exact .inr (.inr (h1.mono fun z hz=>List.mem_append_left _ hz))
      ·
       exact .inl (List.mem_append_right _ hy)
    ·
     have hzt:z=true:=bT cz
     subst hzt
     exact ⟨_,(show m.mv.length - (j+1)<m.mv.length - j by omega),j+1,D,T++R,U2,by rw [w64 (by omega) (by omega)]; omega,rfl,by omega,hs.drop 1,hC,⟨R,rfl⟩,hUT2,hcnt2,hd2,hstay fun hf=>⟨fun hb=>absurd hb hnb,fun _=>(hC.mem _).2 ⟨by omega,hz⟩⟩⟩
  ·
   refine ⟨_,(show (m.n.toNat - (T++R).length)+U2.length<(m.n.toNat - T.length)+U.length by omega),D,T++R,U2,rfl,hs,hC,List.mem_append_left _ hsT,hUT2,by omega,fun y hy=>?_⟩
   rcases hd2 y hy with h1 | rfl | h1
   ·
    exact .inl h1
   ·
    refine .inr fun x hx hf=>?_
    obtain ⟨k,hk⟩:=Yf.1 hx
    exact hm2 k (by have:=(Ya.1 hk).1; omega) x hk hf
   ·
    exact .inr h1
 ·
  refine RP.f (exp_end hC hsT fun v hv=>(hd v hv).resolve_left fun hu=>?_) hs.ext
  have:U=[]:=List.eq_nil_of_length_eq_zero (by omega)
  rw [this] at hu; cases hu
end Go.VC
end
