/- WkVcN WkV WkVcO WkW WkVcP WkX WkY. -/
import Derived.Test.YtnfkibjnkiojnaaGreatDoorM02
import Derived.Test.YtnfkibjnkiojnaaGreatDoorProg
import Derived.KernelRfl
import Derived.Test.YtnfkibjnkiojnaaGreatDoorM01
import Derived.Test.YtnfkibjnkiojnaaGreatDoorM26
set_option linter.unusedVariables false
set_option linter.unusedSimpArgs false
set_option maxRecDepth 100000

section
namespace Go.VC
open Go.Proofs

def W56 (p0 p1_1 p1_2:Sl) (p2_3 p2_4:Int) (h:Heap) (R:Value->Heap->Prop):Prop:=
 (Wn h [vS p1_1,vS p1_2] 26 fun h5=>
 (Wn h5 [vI p2_3,vI p2_4] 60 fun h6=>
 (Wn h6 [.slice none 0 0,.slice none 0 0] 26 fun h7=>
 (∃ x8,rI h7 (aS h5 0) x8 /\
 (NB p0.a fun b9 o10=>(Ib x8 p0.n /\
 (∃ x11,rS h7 ⟨b9,o10+Int.toNat x8*6+4,none⟩ x11 /\
 (∃ x12,rI h7 (aS h5 1) x12 /\
 (NB x11.a fun b13 o14=>(Ib x12 x11.n /\
 (∃ x15 x16 x17 x18 x19 x20,aL0 h7 ⟨b13,o14+Int.toNat x12*6,none⟩ x15 x16 x17 x18 x19 x20 /\
 (Wn h7 [vI 0,.bool false,vI 0,vI 0,vI 0,.bool false] 108 fun h21=>
 (Sm [⟨b13,o14+Int.toNat x12*6,none⟩,(aS h5 1),⟨b9,o10+Int.toNat x8*6+4,none⟩,(aS h5 0)] h7 h21 /\
 (Wp h21 (aS h7 0) 6 (L0 x15 x16 x17 x18 x19 x20) fun h22=>
 (∃ x23,rS h22 (aS h 0) x23 /\
 (∃ x24,rS h22 (aS h 1) x24 /\
 ((Wn h22 [] 3 fun h25=>
 (Sm [(aS h 1),(aS h 0)] h22 h25 /\
 ((App Pz 23 23 (.slice (some (aS h22 0)) 0 0) (vS x23) h25 fun s26 h27=>
 (Sm [(aS h 1)] h25 h27 /\
 ((Wn h27 [] 23 fun h28=>
 (Sm [(aS h 1),(aS h 0)] h27 h28 /\
 ((App Pz 24 24 (.slice (some (aS h27 0)) 0 0) (vS x24) h28 fun s29 h30=>
 (Sm [(aS h 0)] h28 h30 /\
 (Wn h30 [.slice none 0 0,.slice none 0 0] 26 fun h31=>
 (Sm [(aS h 1),(aS h 0)] h30 h31 /\
 (Wp h31 (aS h30 0) 2 [vS s26,vS s29] fun h32=>
 (∃ x33,rS h32 (aS h30 0) x33 /\
 (∃ x34,rI h32 (aS h5 0) x34 /\
 (∃ x35,rI h32 (aS h7 4) x35 /\
 (NB x33.a fun b36 o37=>(Ib x34 x33.n /\
 (Wp h32 ⟨b36,o37+Int.toNat x34*1,none⟩ 1 [vI x35] fun h38=>
 (∃ x39,rB h38 (aS h7 1) x39 /\
 (sB x39
 ((∃ x40,rI h38 (aS h5 0) x40 /\
 (∃ x41,rI h38 (aS h7 2) x41 /\
 (∃ x42,rS h38 (aS h30 1) x42 /\
 (∃ x43,rS h38 (aS h 1) x43 /\
 (NB x43.a fun b44 o45=>((0<=((IntKind.wrap .i64 ((IntKind.wrap .i64 ((p0.n:Int)*x40))+x41)):Int)/\((IntKind.wrap .i64 ((IntKind.wrap .i64 ((p0.n:Int)*x40))+x41)):Int)<(x43.n:Nat)) /\
 (∃ x46,rS h38 ⟨b44,o45+Int.toNat (IntKind.wrap .i64 ((IntKind.wrap .i64 ((p0.n:Int)*x40))+x41))*1,none⟩ x46 /\
 (∃ x47,rI h38 (aS h7 3) x47 /\
 ((Wn h38 [] 3 fun h48=>
 (Sm [(aS h7 3),⟨b44,o45+Int.toNat (IntKind.wrap .i64 ((IntKind.wrap .i64 ((p0.n:Int)*x40))+x41))*1,none⟩,(aS h 1),(aS h30 1)] h38 h48 /\
 ((App Pz 23 23 (.slice (some (aS h38 0)) 0 0) (vS x46) h48 fun s49 h50=>
 (Sm [(aS h7 3),(aS h30 1)] h48 h50 /\
 (Wn h50 [vI x47] 3 fun h51=>
 (Sm [⟨b44,o45+Int.toNat (IntKind.wrap .i64 ((IntKind.wrap .i64 ((p0.n:Int)*x40))+x41))*1,none⟩,(aS h 1),(aS h30 1)] h50 h51 /\
 (App Pz 23 23 (vS s49) (.slice (some (aS h50 0)) 1 1) h51 fun s52 h53=>
 (Sm [(aS h30 1)] h51 h53 /\
 (NB x42.a fun b54 o55=>((0<=((IntKind.wrap .i64 ((IntKind.wrap .i64 ((p0.n:Int)*x40))+x41)):Int)/\((IntKind.wrap .i64 ((IntKind.wrap .i64 ((p0.n:Int)*x40))+x41)):Int)<(x42.n:Nat)) /\
 (Wp h53 ⟨b54,o55+Int.toNat (IntKind.wrap .i64 ((IntKind.wrap .i64 ((p0.n:Int)*x40))+x41))*1,none⟩ 1 [vS s52] fun h56=>
 (∃ (x57 x58:Sl),atC h56 (aS h30 0) [vS x57,vS x58] /\
 (Wp h56 (aS h6 0) 2 [vS x57,vS x58] fun h59=>
 (∃ (x60 x61:Sl),atC h59 (aS h6 0) [vS x60,vS x61] /\
 R (.agg ⟨[vS x60,vS x61]⟩) h59)))))))))))))/\((Wn h48 [vI x47] 3 fun h62=>
 (Sm [⟨b44,o45+Int.toNat (IntKind.wrap .i64 ((IntKind.wrap .i64 ((p0.n:Int)*x40))+x41))*1,none⟩,(aS h 1),(aS h30 1)] h48 h62 /\
 (App Pz 23 23 (.slice (some (aS h38 0)) 0 0) (vS x46) h62 fun s63 h64=>
 (Sm [(aS h7 3),(aS h30 1)] h62 h64 /\
 (App Pz 23 23 (vS s63) (.slice (some (aS h48 0)) 1 1) h64 fun s65 h66=>
 (Sm [(aS h30 1)] h64 h66 /\
 (NB x42.a fun b67 o68=>((0<=((IntKind.wrap .i64 ((IntKind.wrap .i64 ((p0.n:Int)*x40))+x41)):Int)/\((IntKind.wrap .i64 ((IntKind.wrap .i64 ((p0.n:Int)*x40))+x41)):Int)<(x42.n:Nat)) /\
 (Wp h66 ⟨b67,o68+Int.toNat (IntKind.wrap .i64 ((IntKind.wrap .i64 ((p0.n:Int)*x40))+x41))*1,none⟩ 1 [vS s65] fun h69=>
 (∃ (x70 x71:Sl),atC h69 (aS h30 0) [vS x70,vS x71] /\
 (Wp h69 (aS h6 0) 2 [vS x70,vS x71] fun h72=>
 (∃ (x73 x74:Sl),atC h72 (aS h6 0) [vS x73,vS x74] /\
 R (.agg ⟨[vS x73,vS x74]⟩) h72))))))))))))))))/\((Wn h38 [vI x47] 3 fun h75=>
 (Sm [⟨b44,o45+Int.toNat (IntKind.wrap .i64 ((IntKind.wrap .i64 ((p0.n:Int)*x40))+x41))*1,none⟩,(aS h 1),(aS h30 1)] h38 h75 /\
 (Wn h75 [] 3 fun h76=>
 (Sm [(aS h7 3),⟨b44,o45+Int.toNat (IntKind.wrap .i64 ((IntKind.wrap .i64 ((p0.n:Int)*x40))+x41))*1,none⟩,(aS h 1),(aS h30 1)] h75 h76 /\
 (App Pz 23 23 (.slice (some (aS h75 0)) 0 0) (vS x46) h76 fun s77 h78=>
 (Sm [(aS h7 3),(aS h30 1)] h76 h78 /\
 (App Pz 23 23 (vS s77) (.slice (some (aS h38 0)) 1 1) h78 fun s79 h80=>
 (Sm [(aS h30 1)] h78 h80 /\
 (NB x42.a fun b81 o82=>((0<=((IntKind.wrap .i64 ((IntKind.wrap .i64 ((p0.n:Int)*x40))+x41)):Int)/\((IntKind.wrap .i64 ((IntKind.wrap .i64 ((p0.n:Int)*x40))+x41)):Int)<(x42.n:Nat)) /\
 (Wp h80 ⟨b81,o82+Int.toNat (IntKind.wrap .i64 ((IntKind.wrap .i64 ((p0.n:Int)*x40))+x41))*1,none⟩ 1 [vS s79] fun h83=>
 (∃ (x84 x85:Sl),atC h83 (aS h30 0) [vS x84,vS x85] /\
 (Wp h83 (aS h6 0) 2 [vS x84,vS x85] fun h86=>
 (∃ (x87 x88:Sl),atC h86 (aS h6 0) [vS x87,vS x88] /\
 R (.agg ⟨[vS x87,vS x88]⟩) h86))))))))))))))))))))))))
 ((∃ x89,rI h38 (aS h7 2) x89 /\
 (∃ x90,rI h38 (aS h5 0) x90 /\
 (∃ x91,rS h38 (aS h30 1) x91 /\
 (∃ x92,rS h38 (aS h 1) x92 /\
 (NB x92.a fun b93 o94=>((0<=((IntKind.wrap .i64 ((IntKind.wrap .i64 ((p0.n:Int)*x89))+x90)):Int)/\((IntKind.wrap .i64 ((IntKind.wrap .i64 ((p0.n:Int)*x89))+x90)):Int)<(x92.n:Nat)) /\
 (∃ x95,rS h38 ⟨b93,o94+Int.toNat (IntKind.wrap .i64 ((IntKind.wrap .i64 ((p0.n:Int)*x89))+x90))*1,none⟩ x95 /\
 (((0:Int)<=(1:Int)/\(1:Int)<=((x95.n:Nat):Int)/\((x95.n:Nat):Int)<=(x95.c:Nat)) /\
 (Wn h38 [] 3 fun h96=>
 (Sm [⟨b93,o94+Int.toNat (IntKind.wrap .i64 ((IntKind.wrap .i64 ((p0.n:Int)*x89))+x90))*1,none⟩,(aS h 1),(aS h30 1)] h38 h96 /\
 (App Pz 23 23 (.slice (some (aS h38 0)) 0 0) (.slice (subA x95.a (Int.toNat 1) x95.c 1) (Int.toNat (x95.n:Nat) - Int.toNat 1) (x95.c - Int.toNat 1)) h96 fun s97 h98=>
 (Sm [(aS h30 1)] h96 h98 /\
 (NB x91.a fun b99 o100=>((0<=((IntKind.wrap .i64 ((IntKind.wrap .i64 ((p0.n:Int)*x89))+x90)):Int)/\((IntKind.wrap .i64 ((IntKind.wrap .i64 ((p0.n:Int)*x89))+x90)):Int)<(x91.n:Nat)) /\
 (Wp h98 ⟨b99,o100+Int.toNat (IntKind.wrap .i64 ((IntKind.wrap .i64 ((p0.n:Int)*x89))+x90))*1,none⟩ 1 [vS s97] fun h101=>
 (∃ (x102 x103:Sl),atC h101 (aS h30 0) [vS x102,vS x103] /\
 (Wp h101 (aS h6 0) 2 [vS x102,vS x103] fun h104=>
 (∃ (x105 x106:Sl),atC h104 (aS h6 0) [vS x105,vS x106] /\
 R (.agg ⟨[vS x105,vS x106]⟩) h104)))))))))))))))))))))))))))))))))/\((Wn h28 [.slice none 0 0,.slice none 0 0] 26 fun h107=>
 (Sm [(aS h 1),(aS h 0)] h28 h107 /\
 (App Pz 24 24 (.slice (some (aS h27 0)) 0 0) (vS x24) h107 fun s108 h109=>
 (Sm [(aS h 0)] h107 h109 /\
 (Wp h109 (aS h28 0) 2 [vS s26,vS s108] fun h110=>
 (∃ x111,rS h110 (aS h28 0) x111 /\
 (∃ x112,rI h110 (aS h5 0) x112 /\
 (∃ x113,rI h110 (aS h7 4) x113 /\
 (NB x111.a fun b114 o115=>(Ib x112 x111.n /\
 (Wp h110 ⟨b114,o115+Int.toNat x112*1,none⟩ 1 [vI x113] fun h116=>
 (∃ x117,rB h116 (aS h7 1) x117 /\
 (sB x117
 ((∃ x118,rI h116 (aS h5 0) x118 /\
 (∃ x119,rI h116 (aS h7 2) x119 /\
 (∃ x120,rS h116 (aS h28 1) x120 /\
 (∃ x121,rS h116 (aS h 1) x121 /\
 (NB x121.a fun b122 o123=>((0<=((IntKind.wrap .i64 ((IntKind.wrap .i64 ((p0.n:Int)*x118))+x119)):Int)/\((IntKind.wrap .i64 ((IntKind.wrap .i64 ((p0.n:Int)*x118))+x119)):Int)<(x121.n:Nat)) /\
 (∃ x124,rS h116 ⟨b122,o123+Int.toNat (IntKind.wrap .i64 ((IntKind.wrap .i64 ((p0.n:Int)*x118))+x119))*1,none⟩ x124 /\
 (∃ x125,rI h116 (aS h7 3) x125 /\
 ((Wn h116 [] 3 fun h126=>
 (Sm [(aS h7 3),⟨b122,o123+Int.toNat (IntKind.wrap .i64 ((IntKind.wrap .i64 ((p0.n:Int)*x118))+x119))*1,none⟩,(aS h 1),(aS h28 1)] h116 h126 /\
 ((App Pz 23 23 (.slice (some (aS h116 0)) 0 0) (vS x124) h126 fun s127 h128=>
 (Sm [(aS h7 3),(aS h28 1)] h126 h128 /\
 (Wn h128 [vI x125] 3 fun h129=>
 (Sm [⟨b122,o123+Int.toNat (IntKind.wrap .i64 ((IntKind.wrap .i64 ((p0.n:Int)*x118))+x119))*1,none⟩,(aS h 1),(aS h28 1)] h128 h129 /\
 (App Pz 23 23 (vS s127) (.slice (some (aS h128 0)) 1 1) h129 fun s130 h131=>
 (Sm [(aS h28 1)] h129 h131 /\
 (NB x120.a fun b132 o133=>((0<=((IntKind.wrap .i64 ((IntKind.wrap .i64 ((p0.n:Int)*x118))+x119)):Int)/\((IntKind.wrap .i64 ((IntKind.wrap .i64 ((p0.n:Int)*x118))+x119)):Int)<(x120.n:Nat)) /\
 (Wp h131 ⟨b132,o133+Int.toNat (IntKind.wrap .i64 ((IntKind.wrap .i64 ((p0.n:Int)*x118))+x119))*1,none⟩ 1 [vS s130] fun h134=>
 (∃ (x135 x136:Sl),atC h134 (aS h28 0) [vS x135,vS x136] /\
 (Wp h134 (aS h6 0) 2 [vS x135,vS x136] fun h137=>
 (∃ (x138 x139:Sl),atC h137 (aS h6 0) [vS x138,vS x139] /\
 R (.agg ⟨[vS x138,vS x139]⟩) h137)))))))))))))/\((Wn h126 [vI x125] 3 fun h140=>
 (Sm [⟨b122,o123+Int.toNat (IntKind.wrap .i64 ((IntKind.wrap .i64 ((p0.n:Int)*x118))+x119))*1,none⟩,(aS h 1),(aS h28 1)] h126 h140 /\
 (App Pz 23 23 (.slice (some (aS h116 0)) 0 0) (vS x124) h140 fun s141 h142=>
 (Sm [(aS h7 3),(aS h28 1)] h140 h142 /\
 (App Pz 23 23 (vS s141) (.slice (some (aS h126 0)) 1 1) h142 fun s143 h144=>
 (Sm [(aS h28 1)] h142 h144 /\
 (NB x120.a fun b145 o146=>((0<=((IntKind.wrap .i64 ((IntKind.wrap .i64 ((p0.n:Int)*x118))+x119)):Int)/\((IntKind.wrap .i64 ((IntKind.wrap .i64 ((p0.n:Int)*x118))+x119)):Int)<(x120.n:Nat)) /\
 (Wp h144 ⟨b145,o146+Int.toNat (IntKind.wrap .i64 ((IntKind.wrap .i64 ((p0.n:Int)*x118))+x119))*1,none⟩ 1 [vS s143] fun h147=>
 (∃ (x148 x149:Sl),atC h147 (aS h28 0) [vS x148,vS x149] /\
 (Wp h147 (aS h6 0) 2 [vS x148,vS x149] fun h150=>
 (∃ (x151 x152:Sl),atC h150 (aS h6 0) [vS x151,vS x152] /\
 R (.agg ⟨[vS x151,vS x152]⟩) h150))))))))))))))))/\((Wn h116 [vI x125] 3 fun h153=>
 (Sm [⟨b122,o123+Int.toNat (IntKind.wrap .i64 ((IntKind.wrap .i64 ((p0.n:Int)*x118))+x119))*1,none⟩,(aS h 1),(aS h28 1)] h116 h153 /\
 (Wn h153 [] 3 fun h154=>
 (Sm [(aS h7 3),⟨b122,o123+Int.toNat (IntKind.wrap .i64 ((IntKind.wrap .i64 ((p0.n:Int)*x118))+x119))*1,none⟩,(aS h 1),(aS h28 1)] h153 h154 /\
 (App Pz 23 23 (.slice (some (aS h153 0)) 0 0) (vS x124) h154 fun s155 h156=>
 (Sm [(aS h7 3),(aS h28 1)] h154 h156 /\
 (App Pz 23 23 (vS s155) (.slice (some (aS h116 0)) 1 1) h156 fun s157 h158=>
 (Sm [(aS h28 1)] h156 h158 /\
 (NB x120.a fun b159 o160=>((0<=((IntKind.wrap .i64 ((IntKind.wrap .i64 ((p0.n:Int)*x118))+x119)):Int)/\((IntKind.wrap .i64 ((IntKind.wrap .i64 ((p0.n:Int)*x118))+x119)):Int)<(x120.n:Nat)) /\
 (Wp h158 ⟨b159,o160+Int.toNat (IntKind.wrap .i64 ((IntKind.wrap .i64 ((p0.n:Int)*x118))+x119))*1,none⟩ 1 [vS s157] fun h161=>
 (∃ (x162 x163:Sl),atC h161 (aS h28 0) [vS x162,vS x163] /\
 (Wp h161 (aS h6 0) 2 [vS x162,vS x163] fun h164=>
 (∃ (x165 x166:Sl),atC h164 (aS h6 0) [vS x165,vS x166] /\
 R (.agg ⟨[vS x165,vS x166]⟩) h164))))))))))))))))))))))))
 ((∃ x167,rI h116 (aS h7 2) x167 /\
 (∃ x168,rI h116 (aS h5 0) x168 /\
 (∃ x169,rS h116 (aS h28 1) x169 /\
 (∃ x170,rS h116 (aS h 1) x170 /\
 (NB x170.a fun b171 o172=>((0<=((IntKind.wrap .i64 ((IntKind.wrap .i64 ((p0.n:Int)*x167))+x168)):Int)/\((IntKind.wrap .i64 ((IntKind.wrap .i64 ((p0.n:Int)*x167))+x168)):Int)<(x170.n:Nat)) /\
 (∃ x173,rS h116 ⟨b171,o172+Int.toNat (IntKind.wrap .i64 ((IntKind.wrap .i64 ((p0.n:Int)*x167))+x168))*1,none⟩ x173 /\
 (((0:Int)<=(1:Int)/\(1:Int)<=((x173.n:Nat):Int)/\((x173.n:Nat):Int)<=(x173.c:Nat)) /\
 (Wn h116 [] 3 fun h174=>
 (Sm [⟨b171,o172+Int.toNat (IntKind.wrap .i64 ((IntKind.wrap .i64 ((p0.n:Int)*x167))+x168))*1,none⟩,(aS h 1),(aS h28 1)] h116 h174 /\
 (App Pz 23 23 (.slice (some (aS h116 0)) 0 0) (.slice (subA x173.a (Int.toNat 1) x173.c 1) (Int.toNat (x173.n:Nat) - Int.toNat 1) (x173.c - Int.toNat 1)) h174 fun s175 h176=>
 (Sm [(aS h28 1)] h174 h176 /\
 (NB x169.a fun b177 o178=>((0<=((IntKind.wrap .i64 ((IntKind.wrap .i64 ((p0.n:Int)*x167))+x168)):Int)/\((IntKind.wrap .i64 ((IntKind.wrap .i64 ((p0.n:Int)*x167))+x168)):Int)<(x169.n:Nat)) /\
 (Wp h176 ⟨b177,o178+Int.toNat (IntKind.wrap .i64 ((IntKind.wrap .i64 ((p0.n:Int)*x167))+x168))*1,none⟩ 1 [vS s175] fun h179=>
 (∃ (x180 x181:Sl),atC h179 (aS h28 0) [vS x180,vS x181] /\
 (Wp h179 (aS h6 0) 2 [vS x180,vS x181] fun h182=>
 (∃ (x183 x184:Sl),atC h182 (aS h6 0) [vS x183,vS x184] /\
 R (.agg ⟨[vS x183,vS x184]⟩) h182))))))))))))))))))))))))))))))))))))/\((Wn h27 [.slice none 0 0,.slice none 0 0] 26 fun h185=>
 (Sm [(aS h 1),(aS h 0)] h27 h185 /\
 (Wn h185 [] 23 fun h186=>
 (Sm [(aS h 1),(aS h 0)] h185 h186 /\
 (App Pz 24 24 (.slice (some (aS h185 0)) 0 0) (vS x24) h186 fun s187 h188=>
 (Sm [(aS h 0)] h186 h188 /\
 (Wp h188 (aS h27 0) 2 [vS s26,vS s187] fun h189=>
 (∃ x190,rS h189 (aS h27 0) x190 /\
 (∃ x191,rI h189 (aS h5 0) x191 /\
 (∃ x192,rI h189 (aS h7 4) x192 /\
 (NB x190.a fun b193 o194=>(Ib x191 x190.n /\
 (Wp h189 ⟨b193,o194+Int.toNat x191*1,none⟩ 1 [vI x192] fun h195=>
 (∃ x196,rB h195 (aS h7 1) x196 /\
 (sB x196
 ((∃ x197,rI h195 (aS h5 0) x197 /\
 (∃ x198,rI h195 (aS h7 2) x198 /\
 (∃ x199,rS h195 (aS h27 1) x199 /\
 (∃ x200,rS h195 (aS h 1) x200 /\
 (NB x200.a fun b201 o202=>((0<=((IntKind.wrap .i64 ((IntKind.wrap .i64 ((p0.n:Int)*x197))+x198)):Int)/\((IntKind.wrap .i64 ((IntKind.wrap .i64 ((p0.n:Int)*x197))+x198)):Int)<(x200.n:Nat)) /\
 (∃ x203,rS h195 ⟨b201,o202+Int.toNat (IntKind.wrap .i64 ((IntKind.wrap .i64 ((p0.n:Int)*x197))+x198))*1,none⟩ x203 /\
 (∃ x204,rI h195 (aS h7 3) x204 /\
 ((Wn h195 [] 3 fun h205=>
 (Sm [(aS h7 3),⟨b201,o202+Int.toNat (IntKind.wrap .i64 ((IntKind.wrap .i64 ((p0.n:Int)*x197))+x198))*1,none⟩,(aS h 1),(aS h27 1)] h195 h205 /\
 ((App Pz 23 23 (.slice (some (aS h195 0)) 0 0) (vS x203) h205 fun s206 h207=>
 (Sm [(aS h7 3),(aS h27 1)] h205 h207 /\
 (Wn h207 [vI x204] 3 fun h208=>
 (Sm [⟨b201,o202+Int.toNat (IntKind.wrap .i64 ((IntKind.wrap .i64 ((p0.n:Int)*x197))+x198))*1,none⟩,(aS h 1),(aS h27 1)] h207 h208 /\
 (App Pz 23 23 (vS s206) (.slice (some (aS h207 0)) 1 1) h208 fun s209 h210=>
 (Sm [(aS h27 1)] h208 h210 /\
 (NB x199.a fun b211 o212=>((0<=((IntKind.wrap .i64 ((IntKind.wrap .i64 ((p0.n:Int)*x197))+x198)):Int)/\((IntKind.wrap .i64 ((IntKind.wrap .i64 ((p0.n:Int)*x197))+x198)):Int)<(x199.n:Nat)) /\
 (Wp h210 ⟨b211,o212+Int.toNat (IntKind.wrap .i64 ((IntKind.wrap .i64 ((p0.n:Int)*x197))+x198))*1,none⟩ 1 [vS s209] fun h213=>
 (∃ (x214 x215:Sl),atC h213 (aS h27 0) [vS x214,vS x215] /\
 (Wp h213 (aS h6 0) 2 [vS x214,vS x215] fun h216=>
 (∃ (x217 x218:Sl),atC h216 (aS h6 0) [vS x217,vS x218] /\
 R (.agg ⟨[vS x217,vS x218]⟩) h216)))))))))))))/\((Wn h205 [vI x204] 3 fun h219=>
 (Sm [⟨b201,o202+Int.toNat (IntKind.wrap .i64 ((IntKind.wrap .i64 ((p0.n:Int)*x197))+x198))*1,none⟩,(aS h 1),(aS h27 1)] h205 h219 /\
 (App Pz 23 23 (.slice (some (aS h195 0)) 0 0) (vS x203) h219 fun s220 h221=>
 (Sm [(aS h7 3),(aS h27 1)] h219 h221 /\
 (App Pz 23 23 (vS s220) (.slice (some (aS h205 0)) 1 1) h221 fun s222 h223=>
 (Sm [(aS h27 1)] h221 h223 /\
 (NB x199.a fun b224 o225=>((0<=((IntKind.wrap .i64 ((IntKind.wrap .i64 ((p0.n:Int)*x197))+x198)):Int)/\((IntKind.wrap .i64 ((IntKind.wrap .i64 ((p0.n:Int)*x197))+x198)):Int)<(x199.n:Nat)) /\
 (Wp h223 ⟨b224,o225+Int.toNat (IntKind.wrap .i64 ((IntKind.wrap .i64 ((p0.n:Int)*x197))+x198))*1,none⟩ 1 [vS s222] fun h226=>
 (∃ (x227 x228:Sl),atC h226 (aS h27 0) [vS x227,vS x228] /\
 (Wp h226 (aS h6 0) 2 [vS x227,vS x228] fun h229=>
 (∃ (x230 x231:Sl),atC h229 (aS h6 0) [vS x230,vS x231] /\
 R (.agg ⟨[vS x230,vS x231]⟩) h229))))))))))))))))/\((Wn h195 [vI x204] 3 fun h232=>
 (Sm [⟨b201,o202+Int.toNat (IntKind.wrap .i64 ((IntKind.wrap .i64 ((p0.n:Int)*x197))+x198))*1,none⟩,(aS h 1),(aS h27 1)] h195 h232 /\
 (Wn h232 [] 3 fun h233=>
 (Sm [(aS h7 3),⟨b201,o202+Int.toNat (IntKind.wrap .i64 ((IntKind.wrap .i64 ((p0.n:Int)*x197))+x198))*1,none⟩,(aS h 1),(aS h27 1)] h232 h233 /\
 (App Pz 23 23 (.slice (some (aS h232 0)) 0 0) (vS x203) h233 fun s234 h235=>
 (Sm [(aS h7 3),(aS h27 1)] h233 h235 /\
 (App Pz 23 23 (vS s234) (.slice (some (aS h195 0)) 1 1) h235 fun s236 h237=>
 (Sm [(aS h27 1)] h235 h237 /\
 (NB x199.a fun b238 o239=>((0<=((IntKind.wrap .i64 ((IntKind.wrap .i64 ((p0.n:Int)*x197))+x198)):Int)/\((IntKind.wrap .i64 ((IntKind.wrap .i64 ((p0.n:Int)*x197))+x198)):Int)<(x199.n:Nat)) /\
 (Wp h237 ⟨b238,o239+Int.toNat (IntKind.wrap .i64 ((IntKind.wrap .i64 ((p0.n:Int)*x197))+x198))*1,none⟩ 1 [vS s236] fun h240=>
 (∃ (x241 x242:Sl),atC h240 (aS h27 0) [vS x241,vS x242] /\
 (Wp h240 (aS h6 0) 2 [vS x241,vS x242] fun h243=>
 (∃ (x244 x245:Sl),atC h243 (aS h6 0) [vS x244,vS x245] /\
 R (.agg ⟨[vS x244,vS x245]⟩) h243))))))))))))))))))))))))
 ((∃ x246,rI h195 (aS h7 2) x246 /\
 (∃ x247,rI h195 (aS h5 0) x247 /\
 (∃ x248,rS h195 (aS h27 1) x248 /\
 (∃ x249,rS h195 (aS h 1) x249 /\
 (NB x249.a fun b250 o251=>((0<=((IntKind.wrap .i64 ((IntKind.wrap .i64 ((p0.n:Int)*x246))+x247)):Int)/\((IntKind.wrap .i64 ((IntKind.wrap .i64 ((p0.n:Int)*x246))+x247)):Int)<(x249.n:Nat)) /\
 (∃ x252,rS h195 ⟨b250,o251+Int.toNat (IntKind.wrap .i64 ((IntKind.wrap .i64 ((p0.n:Int)*x246))+x247))*1,none⟩ x252 /\
 (((0:Int)<=(1:Int)/\(1:Int)<=((x252.n:Nat):Int)/\((x252.n:Nat):Int)<=(x252.c:Nat)) /\
 (Wn h195 [] 3 fun h253=>
 (Sm [⟨b250,o251+Int.toNat (IntKind.wrap .i64 ((IntKind.wrap .i64 ((p0.n:Int)*x246))+x247))*1,none⟩,(aS h 1),(aS h27 1)] h195 h253 /\
 (App Pz 23 23 (.slice (some (aS h195 0)) 0 0) (.slice (subA x252.a (Int.toNat 1) x252.c 1) (Int.toNat (x252.n:Nat) - Int.toNat 1) (x252.c - Int.toNat 1)) h253 fun s254 h255=>
 (Sm [(aS h27 1)] h253 h255 /\
 (NB x248.a fun b256 o257=>((0<=((IntKind.wrap .i64 ((IntKind.wrap .i64 ((p0.n:Int)*x246))+x247)):Int)/\((IntKind.wrap .i64 ((IntKind.wrap .i64 ((p0.n:Int)*x246))+x247)):Int)<(x248.n:Nat)) /\
 (Wp h255 ⟨b256,o257+Int.toNat (IntKind.wrap .i64 ((IntKind.wrap .i64 ((p0.n:Int)*x246))+x247))*1,none⟩ 1 [vS s254] fun h258=>
 (∃ (x259 x260:Sl),atC h258 (aS h27 0) [vS x259,vS x260] /\
 (Wp h258 (aS h6 0) 2 [vS x259,vS x260] fun h261=>
 (∃ (x262 x263:Sl),atC h261 (aS h6 0) [vS x262,vS x263] /\
 R (.agg ⟨[vS x262,vS x263]⟩) h261))))))))))))))))))))))))))))))))))))))/\((Wn h25 [] 23 fun h264=>
 (Sm [(aS h 1),(aS h 0)] h25 h264 /\
 ((App Pz 23 23 (.slice (some (aS h22 0)) 0 0) (vS x23) h264 fun s265 h266=>
 (Sm [(aS h 1)] h264 h266 /\
 ((App Pz 24 24 (.slice (some (aS h25 0)) 0 0) (vS x24) h266 fun s267 h268=>
 (Sm [(aS h 0)] h266 h268 /\
 (Wn h268 [.slice none 0 0,.slice none 0 0] 26 fun h269=>
 (Sm [(aS h 1),(aS h 0)] h268 h269 /\
 (Wp h269 (aS h268 0) 2 [vS s265,vS s267] fun h270=>
 (∃ x271,rS h270 (aS h268 0) x271 /\
 (∃ x272,rI h270 (aS h5 0) x272 /\
 (∃ x273,rI h270 (aS h7 4) x273 /\
 (NB x271.a fun b274 o275=>(Ib x272 x271.n /\
 (Wp h270 ⟨b274,o275+Int.toNat x272*1,none⟩ 1 [vI x273] fun h276=>
 (∃ x277,rB h276 (aS h7 1) x277 /\
 (sB x277
 ((∃ x278,rI h276 (aS h5 0) x278 /\
 (∃ x279,rI h276 (aS h7 2) x279 /\
 (∃ x280,rS h276 (aS h268 1) x280 /\
 (∃ x281,rS h276 (aS h 1) x281 /\
 (NB x281.a fun b282 o283=>((0<=((IntKind.wrap .i64 ((IntKind.wrap .i64 ((p0.n:Int)*x278))+x279)):Int)/\((IntKind.wrap .i64 ((IntKind.wrap .i64 ((p0.n:Int)*x278))+x279)):Int)<(x281.n:Nat)) /\
 (∃ x284,rS h276 ⟨b282,o283+Int.toNat (IntKind.wrap .i64 ((IntKind.wrap .i64 ((p0.n:Int)*x278))+x279))*1,none⟩ x284 /\
 (∃ x285,rI h276 (aS h7 3) x285 /\
 ((Wn h276 [] 3 fun h286=>
 (Sm [(aS h7 3),⟨b282,o283+Int.toNat (IntKind.wrap .i64 ((IntKind.wrap .i64 ((p0.n:Int)*x278))+x279))*1,none⟩,(aS h 1),(aS h268 1)] h276 h286 /\
 ((App Pz 23 23 (.slice (some (aS h276 0)) 0 0) (vS x284) h286 fun s287 h288=>
 (Sm [(aS h7 3),(aS h268 1)] h286 h288 /\
 (Wn h288 [vI x285] 3 fun h289=>
 (Sm [⟨b282,o283+Int.toNat (IntKind.wrap .i64 ((IntKind.wrap .i64 ((p0.n:Int)*x278))+x279))*1,none⟩,(aS h 1),(aS h268 1)] h288 h289 /\
 (App Pz 23 23 (vS s287) (.slice (some (aS h288 0)) 1 1) h289 fun s290 h291=>
 (Sm [(aS h268 1)] h289 h291 /\
 (NB x280.a fun b292 o293=>((0<=((IntKind.wrap .i64 ((IntKind.wrap .i64 ((p0.n:Int)*x278))+x279)):Int)/\((IntKind.wrap .i64 ((IntKind.wrap .i64 ((p0.n:Int)*x278))+x279)):Int)<(x280.n:Nat)) /\
 (Wp h291 ⟨b292,o293+Int.toNat (IntKind.wrap .i64 ((IntKind.wrap .i64 ((p0.n:Int)*x278))+x279))*1,none⟩ 1 [vS s290] fun h294=>
 (∃ (x295 x296:Sl),atC h294 (aS h268 0) [vS x295,vS x296] /\
 (Wp h294 (aS h6 0) 2 [vS x295,vS x296] fun h297=>
 (∃ (x298 x299:Sl),atC h297 (aS h6 0) [vS x298,vS x299] /\
 R (.agg ⟨[vS x298,vS x299]⟩) h297)))))))))))))/\((Wn h286 [vI x285] 3 fun h300=>
 (Sm [⟨b282,o283+Int.toNat (IntKind.wrap .i64 ((IntKind.wrap .i64 ((p0.n:Int)*x278))+x279))*1,none⟩,(aS h 1),(aS h268 1)] h286 h300 /\
 (App Pz 23 23 (.slice (some (aS h276 0)) 0 0) (vS x284) h300 fun s301 h302=>
 (Sm [(aS h7 3),(aS h268 1)] h300 h302 /\
 (App Pz 23 23 (vS s301) (.slice (some (aS h286 0)) 1 1) h302 fun s303 h304=>
 (Sm [(aS h268 1)] h302 h304 /\
 (NB x280.a fun b305 o306=>((0<=((IntKind.wrap .i64 ((IntKind.wrap .i64 ((p0.n:Int)*x278))+x279)):Int)/\((IntKind.wrap .i64 ((IntKind.wrap .i64 ((p0.n:Int)*x278))+x279)):Int)<(x280.n:Nat)) /\
 (Wp h304 ⟨b305,o306+Int.toNat (IntKind.wrap .i64 ((IntKind.wrap .i64 ((p0.n:Int)*x278))+x279))*1,none⟩ 1 [vS s303] fun h307=>
 (∃ (x308 x309:Sl),atC h307 (aS h268 0) [vS x308,vS x309] /\
 (Wp h307 (aS h6 0) 2 [vS x308,vS x309] fun h310=>
 (∃ (x311 x312:Sl),atC h310 (aS h6 0) [vS x311,vS x312] /\
 R (.agg ⟨[vS x311,vS x312]⟩) h310))))))))))))))))/\((Wn h276 [vI x285] 3 fun h313=>
 (Sm [⟨b282,o283+Int.toNat (IntKind.wrap .i64 ((IntKind.wrap .i64 ((p0.n:Int)*x278))+x279))*1,none⟩,(aS h 1),(aS h268 1)] h276 h313 /\
 (Wn h313 [] 3 fun h314=>
 (Sm [(aS h7 3),⟨b282,o283+Int.toNat (IntKind.wrap .i64 ((IntKind.wrap .i64 ((p0.n:Int)*x278))+x279))*1,none⟩,(aS h 1),(aS h268 1)] h313 h314 /\
 (App Pz 23 23 (.slice (some (aS h313 0)) 0 0) (vS x284) h314 fun s315 h316=>
 (Sm [(aS h7 3),(aS h268 1)] h314 h316 /\
 (App Pz 23 23 (vS s315) (.slice (some (aS h276 0)) 1 1) h316 fun s317 h318=>
 (Sm [(aS h268 1)] h316 h318 /\
 (NB x280.a fun b319 o320=>((0<=((IntKind.wrap .i64 ((IntKind.wrap .i64 ((p0.n:Int)*x278))+x279)):Int)/\((IntKind.wrap .i64 ((IntKind.wrap .i64 ((p0.n:Int)*x278))+x279)):Int)<(x280.n:Nat)) /\
 (Wp h318 ⟨b319,o320+Int.toNat (IntKind.wrap .i64 ((IntKind.wrap .i64 ((p0.n:Int)*x278))+x279))*1,none⟩ 1 [vS s317] fun h321=>
 (∃ (x322 x323:Sl),atC h321 (aS h268 0) [vS x322,vS x323] /\
 (Wp h321 (aS h6 0) 2 [vS x322,vS x323] fun h324=>
 (∃ (x325 x326:Sl),atC h324 (aS h6 0) [vS x325,vS x326] /\
 R (.agg ⟨[vS x325,vS x326]⟩) h324))))))))))))))))))))))))
 ((∃ x327,rI h276 (aS h7 2) x327 /\
 (∃ x328,rI h276 (aS h5 0) x328 /\
 (∃ x329,rS h276 (aS h268 1) x329 /\
 (∃ x330,rS h276 (aS h 1) x330 /\
 (NB x330.a fun b331 o332=>((0<=((IntKind.wrap .i64 ((IntKind.wrap .i64 ((p0.n:Int)*x327))+x328)):Int)/\((IntKind.wrap .i64 ((IntKind.wrap .i64 ((p0.n:Int)*x327))+x328)):Int)<(x330.n:Nat)) /\
 (∃ x333,rS h276 ⟨b331,o332+Int.toNat (IntKind.wrap .i64 ((IntKind.wrap .i64 ((p0.n:Int)*x327))+x328))*1,none⟩ x333 /\
 (((0:Int)<=(1:Int)/\(1:Int)<=((x333.n:Nat):Int)/\((x333.n:Nat):Int)<=(x333.c:Nat)) /\
 (Wn h276 [] 3 fun h334=>
 (Sm [⟨b331,o332+Int.toNat (IntKind.wrap .i64 ((IntKind.wrap .i64 ((p0.n:Int)*x327))+x328))*1,none⟩,(aS h 1),(aS h268 1)] h276 h334 /\
 (App Pz 23 23 (.slice (some (aS h276 0)) 0 0) (.slice (subA x333.a (Int.toNat 1) x333.c 1) (Int.toNat (x333.n:Nat) - Int.toNat 1) (x333.c - Int.toNat 1)) h334 fun s335 h336=>
 (Sm [(aS h268 1)] h334 h336 /\
 (NB x329.a fun b337 o338=>((0<=((IntKind.wrap .i64 ((IntKind.wrap .i64 ((p0.n:Int)*x327))+x328)):Int)/\((IntKind.wrap .i64 ((IntKind.wrap .i64 ((p0.n:Int)*x327))+x328)):Int)<(x329.n:Nat)) /\
 (Wp h336 ⟨b337,o338+Int.toNat (IntKind.wrap .i64 ((IntKind.wrap .i64 ((p0.n:Int)*x327))+x328))*1,none⟩ 1 [vS s335] fun h339=>
 (∃ (x340 x341:Sl),atC h339 (aS h268 0) [vS x340,vS x341] /\
 (Wp h339 (aS h6 0) 2 [vS x340,vS x341] fun h342=>
 (∃ (x343 x344:Sl),atC h342 (aS h6 0) [vS x343,vS x344] /\
 R (.agg ⟨[vS x343,vS x344]⟩) h342)))))))))))))))))))))))))))))))))/\((Wn h266 [.slice none 0 0,.slice none 0 0] 26 fun h345=>
 (Sm [(aS h 1),(aS h 0)] h266 h345 /\
 (App Pz 24 24 (.slice (some (aS h25 0)) 0 0) (vS x24) h345 fun s346 h347=>
 (Sm [(aS h 0)] h345 h347 /\
 (Wp h347 (aS h266 0) 2 [vS s265,vS s346] fun h348=>
 (∃ x349,rS h348 (aS h266 0) x349 /\
 (∃ x350,rI h348 (aS h5 0) x350 /\
 (∃ x351,rI h348 (aS h7 4) x351 /\
 (NB x349.a fun b352 o353=>(Ib x350 x349.n /\
 (Wp h348 ⟨b352,o353+Int.toNat x350*1,none⟩ 1 [vI x351] fun h354=>
 (∃ x355,rB h354 (aS h7 1) x355 /\
 (sB x355
 ((∃ x356,rI h354 (aS h5 0) x356 /\
 (∃ x357,rI h354 (aS h7 2) x357 /\
 (∃ x358,rS h354 (aS h266 1) x358 /\
 (∃ x359,rS h354 (aS h 1) x359 /\
 (NB x359.a fun b360 o361=>((0<=((IntKind.wrap .i64 ((IntKind.wrap .i64 ((p0.n:Int)*x356))+x357)):Int)/\((IntKind.wrap .i64 ((IntKind.wrap .i64 ((p0.n:Int)*x356))+x357)):Int)<(x359.n:Nat)) /\
 (∃ x362,rS h354 ⟨b360,o361+Int.toNat (IntKind.wrap .i64 ((IntKind.wrap .i64 ((p0.n:Int)*x356))+x357))*1,none⟩ x362 /\
 (∃ x363,rI h354 (aS h7 3) x363 /\
 ((Wn h354 [] 3 fun h364=>
 (Sm [(aS h7 3),⟨b360,o361+Int.toNat (IntKind.wrap .i64 ((IntKind.wrap .i64 ((p0.n:Int)*x356))+x357))*1,none⟩,(aS h 1),(aS h266 1)] h354 h364 /\
 ((App Pz 23 23 (.slice (some (aS h354 0)) 0 0) (vS x362) h364 fun s365 h366=>
 (Sm [(aS h7 3),(aS h266 1)] h364 h366 /\
 (Wn h366 [vI x363] 3 fun h367=>
 (Sm [⟨b360,o361+Int.toNat (IntKind.wrap .i64 ((IntKind.wrap .i64 ((p0.n:Int)*x356))+x357))*1,none⟩,(aS h 1),(aS h266 1)] h366 h367 /\
 (App Pz 23 23 (vS s365) (.slice (some (aS h366 0)) 1 1) h367 fun s368 h369=>
 (Sm [(aS h266 1)] h367 h369 /\
 (NB x358.a fun b370 o371=>((0<=((IntKind.wrap .i64 ((IntKind.wrap .i64 ((p0.n:Int)*x356))+x357)):Int)/\((IntKind.wrap .i64 ((IntKind.wrap .i64 ((p0.n:Int)*x356))+x357)):Int)<(x358.n:Nat)) /\
 (Wp h369 ⟨b370,o371+Int.toNat (IntKind.wrap .i64 ((IntKind.wrap .i64 ((p0.n:Int)*x356))+x357))*1,none⟩ 1 [vS s368] fun h372=>
 (∃ (x373 x374:Sl),atC h372 (aS h266 0) [vS x373,vS x374] /\
 (Wp h372 (aS h6 0) 2 [vS x373,vS x374] fun h375=>
 (∃ (x376 x377:Sl),atC h375 (aS h6 0) [vS x376,vS x377] /\
 R (.agg ⟨[vS x376,vS x377]⟩) h375)))))))))))))/\((Wn h364 [vI x363] 3 fun h378=>
 (Sm [⟨b360,o361+Int.toNat (IntKind.wrap .i64 ((IntKind.wrap .i64 ((p0.n:Int)*x356))+x357))*1,none⟩,(aS h 1),(aS h266 1)] h364 h378 /\
 (App Pz 23 23 (.slice (some (aS h354 0)) 0 0) (vS x362) h378 fun s379 h380=>
 (Sm [(aS h7 3),(aS h266 1)] h378 h380 /\
 (App Pz 23 23 (vS s379) (.slice (some (aS h364 0)) 1 1) h380 fun s381 h382=>
 (Sm [(aS h266 1)] h380 h382 /\
 (NB x358.a fun b383 o384=>((0<=((IntKind.wrap .i64 ((IntKind.wrap .i64 ((p0.n:Int)*x356))+x357)):Int)/\((IntKind.wrap .i64 ((IntKind.wrap .i64 ((p0.n:Int)*x356))+x357)):Int)<(x358.n:Nat)) /\
 (Wp h382 ⟨b383,o384+Int.toNat (IntKind.wrap .i64 ((IntKind.wrap .i64 ((p0.n:Int)*x356))+x357))*1,none⟩ 1 [vS s381] fun h385=>
 (∃ (x386 x387:Sl),atC h385 (aS h266 0) [vS x386,vS x387] /\
 (Wp h385 (aS h6 0) 2 [vS x386,vS x387] fun h388=>
 (∃ (x389 x390:Sl),atC h388 (aS h6 0) [vS x389,vS x390] /\
 R (.agg ⟨[vS x389,vS x390]⟩) h388))))))))))))))))/\((Wn h354 [vI x363] 3 fun h391=>
 (Sm [⟨b360,o361+Int.toNat (IntKind.wrap .i64 ((IntKind.wrap .i64 ((p0.n:Int)*x356))+x357))*1,none⟩,(aS h 1),(aS h266 1)] h354 h391 /\
 (Wn h391 [] 3 fun h392=>
 (Sm [(aS h7 3),⟨b360,o361+Int.toNat (IntKind.wrap .i64 ((IntKind.wrap .i64 ((p0.n:Int)*x356))+x357))*1,none⟩,(aS h 1),(aS h266 1)] h391 h392 /\
 (App Pz 23 23 (.slice (some (aS h391 0)) 0 0) (vS x362) h392 fun s393 h394=>
 (Sm [(aS h7 3),(aS h266 1)] h392 h394 /\
 (App Pz 23 23 (vS s393) (.slice (some (aS h354 0)) 1 1) h394 fun s395 h396=>
 (Sm [(aS h266 1)] h394 h396 /\
 (NB x358.a fun b397 o398=>((0<=((IntKind.wrap .i64 ((IntKind.wrap .i64 ((p0.n:Int)*x356))+x357)):Int)/\((IntKind.wrap .i64 ((IntKind.wrap .i64 ((p0.n:Int)*x356))+x357)):Int)<(x358.n:Nat)) /\
 (Wp h396 ⟨b397,o398+Int.toNat (IntKind.wrap .i64 ((IntKind.wrap .i64 ((p0.n:Int)*x356))+x357))*1,none⟩ 1 [vS s395] fun h399=>
 (∃ (x400 x401:Sl),atC h399 (aS h266 0) [vS x400,vS x401] /\
 (Wp h399 (aS h6 0) 2 [vS x400,vS x401] fun h402=>
 (∃ (x403 x404:Sl),atC h402 (aS h6 0) [vS x403,vS x404] /\
 R (.agg ⟨[vS x403,vS x404]⟩) h402))))))))))))))))))))))))
 ((∃ x405,rI h354 (aS h7 2) x405 /\
 (∃ x406,rI h354 (aS h5 0) x406 /\
 (∃ x407,rS h354 (aS h266 1) x407 /\
 (∃ x408,rS h354 (aS h 1) x408 /\
 (NB x408.a fun b409 o410=>((0<=((IntKind.wrap .i64 ((IntKind.wrap .i64 ((p0.n:Int)*x405))+x406)):Int)/\((IntKind.wrap .i64 ((IntKind.wrap .i64 ((p0.n:Int)*x405))+x406)):Int)<(x408.n:Nat)) /\
 (∃ x411,rS h354 ⟨b409,o410+Int.toNat (IntKind.wrap .i64 ((IntKind.wrap .i64 ((p0.n:Int)*x405))+x406))*1,none⟩ x411 /\
 (((0:Int)<=(1:Int)/\(1:Int)<=((x411.n:Nat):Int)/\((x411.n:Nat):Int)<=(x411.c:Nat)) /\
 (Wn h354 [] 3 fun h412=>
 (Sm [⟨b409,o410+Int.toNat (IntKind.wrap .i64 ((IntKind.wrap .i64 ((p0.n:Int)*x405))+x406))*1,none⟩,(aS h 1),(aS h266 1)] h354 h412 /\
 (App Pz 23 23 (.slice (some (aS h354 0)) 0 0) (.slice (subA x411.a (Int.toNat 1) x411.c 1) (Int.toNat (x411.n:Nat) - Int.toNat 1) (x411.c - Int.toNat 1)) h412 fun s413 h414=>
 (Sm [(aS h266 1)] h412 h414 /\
 (NB x407.a fun b415 o416=>((0<=((IntKind.wrap .i64 ((IntKind.wrap .i64 ((p0.n:Int)*x405))+x406)):Int)/\((IntKind.wrap .i64 ((IntKind.wrap .i64 ((p0.n:Int)*x405))+x406)):Int)<(x407.n:Nat)) /\
 (Wp h414 ⟨b415,o416+Int.toNat (IntKind.wrap .i64 ((IntKind.wrap .i64 ((p0.n:Int)*x405))+x406))*1,none⟩ 1 [vS s413] fun h417=>
 (∃ (x418 x419:Sl),atC h417 (aS h266 0) [vS x418,vS x419] /\
 (Wp h417 (aS h6 0) 2 [vS x418,vS x419] fun h420=>
 (∃ (x421 x422:Sl),atC h420 (aS h6 0) [vS x421,vS x422] /\
 R (.agg ⟨[vS x421,vS x422]⟩) h420))))))))))))))))))))))))))))))))))))/\((Wn h264 [.slice none 0 0,.slice none 0 0] 26 fun h423=>
 (Sm [(aS h 1),(aS h 0)] h264 h423 /\
 (App Pz 23 23 (.slice (some (aS h22 0)) 0 0) (vS x23) h423 fun s424 h425=>
 (Sm [(aS h 1)] h423 h425 /\
 (App Pz 24 24 (.slice (some (aS h25 0)) 0 0) (vS x24) h425 fun s426 h427=>
 (Sm [(aS h 0)] h425 h427 /\
 (Wp h427 (aS h264 0) 2 [vS s424,vS s426] fun h428=>
 (∃ x429,rS h428 (aS h264 0) x429 /\
 (∃ x430,rI h428 (aS h5 0) x430 /\
 (∃ x431,rI h428 (aS h7 4) x431 /\
 (NB x429.a fun b432 o433=>(Ib x430 x429.n /\
 (Wp h428 ⟨b432,o433+Int.toNat x430*1,none⟩ 1 [vI x431] fun h434=>
 (∃ x435,rB h434 (aS h7 1) x435 /\
 (sB x435
 ((∃ x436,rI h434 (aS h5 0) x436 /\
 (∃ x437,rI h434 (aS h7 2) x437 /\
 (∃ x438,rS h434 (aS h264 1) x438 /\
 (∃ x439,rS h434 (aS h 1) x439 /\
 (NB x439.a fun b440 o441=>((0<=((IntKind.wrap .i64 ((IntKind.wrap .i64 ((p0.n:Int)*x436))+x437)):Int)/\((IntKind.wrap .i64 ((IntKind.wrap .i64 ((p0.n:Int)*x436))+x437)):Int)<(x439.n:Nat)) /\
 (∃ x442,rS h434 ⟨b440,o441+Int.toNat (IntKind.wrap .i64 ((IntKind.wrap .i64 ((p0.n:Int)*x436))+x437))*1,none⟩ x442 /\
 (∃ x443,rI h434 (aS h7 3) x443 /\
 ((Wn h434 [] 3 fun h444=>
 (Sm [(aS h7 3),⟨b440,o441+Int.toNat (IntKind.wrap .i64 ((IntKind.wrap .i64 ((p0.n:Int)*x436))+x437))*1,none⟩,(aS h 1),(aS h264 1)] h434 h444 /\
 ((App Pz 23 23 (.slice (some (aS h434 0)) 0 0) (vS x442) h444 fun s445 h446=>
 (Sm [(aS h7 3),(aS h264 1)] h444 h446 /\
 (Wn h446 [vI x443] 3 fun h447=>
 (Sm [⟨b440,o441+Int.toNat (IntKind.wrap .i64 ((IntKind.wrap .i64 ((p0.n:Int)*x436))+x437))*1,none⟩,(aS h 1),(aS h264 1)] h446 h447 /\
 (App Pz 23 23 (vS s445) (.slice (some (aS h446 0)) 1 1) h447 fun s448 h449=>
 (Sm [(aS h264 1)] h447 h449 /\
 (NB x438.a fun b450 o451=>((0<=((IntKind.wrap .i64 ((IntKind.wrap .i64 ((p0.n:Int)*x436))+x437)):Int)/\((IntKind.wrap .i64 ((IntKind.wrap .i64 ((p0.n:Int)*x436))+x437)):Int)<(x438.n:Nat)) /\
 (Wp h449 ⟨b450,o451+Int.toNat (IntKind.wrap .i64 ((IntKind.wrap .i64 ((p0.n:Int)*x436))+x437))*1,none⟩ 1 [vS s448] fun h452=>
 (∃ (x453 x454:Sl),atC h452 (aS h264 0) [vS x453,vS x454] /\
 (Wp h452 (aS h6 0) 2 [vS x453,vS x454] fun h455=>
 (∃ (x456 x457:Sl),atC h455 (aS h6 0) [vS x456,vS x457] /\
 R (.agg ⟨[vS x456,vS x457]⟩) h455)))))))))))))/\((Wn h444 [vI x443] 3 fun h458=>
 (Sm [⟨b440,o441+Int.toNat (IntKind.wrap .i64 ((IntKind.wrap .i64 ((p0.n:Int)*x436))+x437))*1,none⟩,(aS h 1),(aS h264 1)] h444 h458 /\
 (App Pz 23 23 (.slice (some (aS h434 0)) 0 0) (vS x442) h458 fun s459 h460=>
 (Sm [(aS h7 3),(aS h264 1)] h458 h460 /\
 (App Pz 23 23 (vS s459) (.slice (some (aS h444 0)) 1 1) h460 fun s461 h462=>
 (Sm [(aS h264 1)] h460 h462 /\
 (NB x438.a fun b463 o464=>((0<=((IntKind.wrap .i64 ((IntKind.wrap .i64 ((p0.n:Int)*x436))+x437)):Int)/\((IntKind.wrap .i64 ((IntKind.wrap .i64 ((p0.n:Int)*x436))+x437)):Int)<(x438.n:Nat)) /\
 (Wp h462 ⟨b463,o464+Int.toNat (IntKind.wrap .i64 ((IntKind.wrap .i64 ((p0.n:Int)*x436))+x437))*1,none⟩ 1 [vS s461] fun h465=>
 (∃ (x466 x467:Sl),atC h465 (aS h264 0) [vS x466,vS x467] /\
 (Wp h465 (aS h6 0) 2 [vS x466,vS x467] fun h468=>
 (∃ (x469 x470:Sl),atC h468 (aS h6 0) [vS x469,vS x470] /\
 R (.agg ⟨[vS x469,vS x470]⟩) h468))))))))))))))))/\((Wn h434 [vI x443] 3 fun h471=>
 (Sm [⟨b440,o441+Int.toNat (IntKind.wrap .i64 ((IntKind.wrap .i64 ((p0.n:Int)*x436))+x437))*1,none⟩,(aS h 1),(aS h264 1)] h434 h471 /\
 (Wn h471 [] 3 fun h472=>
 (Sm [(aS h7 3),⟨b440,o441+Int.toNat (IntKind.wrap .i64 ((IntKind.wrap .i64 ((p0.n:Int)*x436))+x437))*1,none⟩,(aS h 1),(aS h264 1)] h471 h472 /\
 (App Pz 23 23 (.slice (some (aS h471 0)) 0 0) (vS x442) h472 fun s473 h474=>
 (Sm [(aS h7 3),(aS h264 1)] h472 h474 /\
 (App Pz 23 23 (vS s473) (.slice (some (aS h434 0)) 1 1) h474 fun s475 h476=>
 (Sm [(aS h264 1)] h474 h476 /\
 (NB x438.a fun b477 o478=>((0<=((IntKind.wrap .i64 ((IntKind.wrap .i64 ((p0.n:Int)*x436))+x437)):Int)/\((IntKind.wrap .i64 ((IntKind.wrap .i64 ((p0.n:Int)*x436))+x437)):Int)<(x438.n:Nat)) /\
 (Wp h476 ⟨b477,o478+Int.toNat (IntKind.wrap .i64 ((IntKind.wrap .i64 ((p0.n:Int)*x436))+x437))*1,none⟩ 1 [vS s475] fun h479=>
 (∃ (x480 x481:Sl),atC h479 (aS h264 0) [vS x480,vS x481] /\
 (Wp h479 (aS h6 0) 2 [vS x480,vS x481] fun h482=>
 (∃ (x483 x484:Sl),atC h482 (aS h6 0) [vS x483,vS x484] /\
 R (.agg ⟨[vS x483,vS x484]⟩) h482))))))))))))))))))))))))
 ((∃ x485,rI h434 (aS h7 2) x485 /\
 (∃ x486,rI h434 (aS h5 0) x486 /\
 (∃ x487,rS h434 (aS h264 1) x487 /\
 (∃ x488,rS h434 (aS h 1) x488 /\
 (NB x488.a fun b489 o490=>((0<=((IntKind.wrap .i64 ((IntKind.wrap .i64 ((p0.n:Int)*x485))+x486)):Int)/\((IntKind.wrap .i64 ((IntKind.wrap .i64 ((p0.n:Int)*x485))+x486)):Int)<(x488.n:Nat)) /\
 (∃ x491,rS h434 ⟨b489,o490+Int.toNat (IntKind.wrap .i64 ((IntKind.wrap .i64 ((p0.n:Int)*x485))+x486))*1,none⟩ x491 /\
 (((0:Int)<=(1:Int)/\(1:Int)<=((x491.n:Nat):Int)/\((x491.n:Nat):Int)<=(x491.c:Nat)) /\
 (Wn h434 [] 3 fun h492=>
 (Sm [⟨b489,o490+Int.toNat (IntKind.wrap .i64 ((IntKind.wrap .i64 ((p0.n:Int)*x485))+x486))*1,none⟩,(aS h 1),(aS h264 1)] h434 h492 /\
 (App Pz 23 23 (.slice (some (aS h434 0)) 0 0) (.slice (subA x491.a (Int.toNat 1) x491.c 1) (Int.toNat (x491.n:Nat) - Int.toNat 1) (x491.c - Int.toNat 1)) h492 fun s493 h494=>
 (Sm [(aS h264 1)] h492 h494 /\
 (NB x487.a fun b495 o496=>((0<=((IntKind.wrap .i64 ((IntKind.wrap .i64 ((p0.n:Int)*x485))+x486)):Int)/\((IntKind.wrap .i64 ((IntKind.wrap .i64 ((p0.n:Int)*x485))+x486)):Int)<(x487.n:Nat)) /\
 (Wp h494 ⟨b495,o496+Int.toNat (IntKind.wrap .i64 ((IntKind.wrap .i64 ((p0.n:Int)*x485))+x486))*1,none⟩ 1 [vS s493] fun h497=>
 (∃ (x498 x499:Sl),atC h497 (aS h264 0) [vS x498,vS x499] /\
 (Wp h497 (aS h6 0) 2 [vS x498,vS x499] fun h500=>
 (∃ (x501 x502:Sl),atC h500 (aS h6 0) [vS x501,vS x502] /\
 R (.agg ⟨[vS x501,vS x502]⟩) h500))))))))))))))))))))))))))))))))))))))/\((Wn h25 [.slice none 0 0,.slice none 0 0] 26 fun h503=>
 (Sm [(aS h 1),(aS h 0)] h25 h503 /\
 ((App Pz 23 23 (.slice (some (aS h22 0)) 0 0) (vS x23) h503 fun s504 h505=>
 (Sm [(aS h 1)] h503 h505 /\
 (Wn h505 [] 23 fun h506=>
 (Sm [(aS h 1),(aS h 0)] h505 h506 /\
 (App Pz 24 24 (.slice (some (aS h505 0)) 0 0) (vS x24) h506 fun s507 h508=>
 (Sm [(aS h 0)] h506 h508 /\
 (Wp h508 (aS h25 0) 2 [vS s504,vS s507] fun h509=>
 (∃ x510,rS h509 (aS h25 0) x510 /\
 (∃ x511,rI h509 (aS h5 0) x511 /\
 (∃ x512,rI h509 (aS h7 4) x512 /\
 (NB x510.a fun b513 o514=>(Ib x511 x510.n /\
 (Wp h509 ⟨b513,o514+Int.toNat x511*1,none⟩ 1 [vI x512] fun h515=>
 (∃ x516,rB h515 (aS h7 1) x516 /\
 (sB x516
 ((∃ x517,rI h515 (aS h5 0) x517 /\
 (∃ x518,rI h515 (aS h7 2) x518 /\
 (∃ x519,rS h515 (aS h25 1) x519 /\
 (∃ x520,rS h515 (aS h 1) x520 /\
 (NB x520.a fun b521 o522=>((0<=((IntKind.wrap .i64 ((IntKind.wrap .i64 ((p0.n:Int)*x517))+x518)):Int)/\((IntKind.wrap .i64 ((IntKind.wrap .i64 ((p0.n:Int)*x517))+x518)):Int)<(x520.n:Nat)) /\
 (∃ x523,rS h515 ⟨b521,o522+Int.toNat (IntKind.wrap .i64 ((IntKind.wrap .i64 ((p0.n:Int)*x517))+x518))*1,none⟩ x523 /\
 (∃ x524,rI h515 (aS h7 3) x524 /\
 ((Wn h515 [] 3 fun h525=>
 (Sm [(aS h7 3),⟨b521,o522+Int.toNat (IntKind.wrap .i64 ((IntKind.wrap .i64 ((p0.n:Int)*x517))+x518))*1,none⟩,(aS h 1),(aS h25 1)] h515 h525 /\
 ((App Pz 23 23 (.slice (some (aS h515 0)) 0 0) (vS x523) h525 fun s526 h527=>
 (Sm [(aS h7 3),(aS h25 1)] h525 h527 /\
 (Wn h527 [vI x524] 3 fun h528=>
 (Sm [⟨b521,o522+Int.toNat (IntKind.wrap .i64 ((IntKind.wrap .i64 ((p0.n:Int)*x517))+x518))*1,none⟩,(aS h 1),(aS h25 1)] h527 h528 /\
 (App Pz 23 23 (vS s526) (.slice (some (aS h527 0)) 1 1) h528 fun s529 h530=>
 (Sm [(aS h25 1)] h528 h530 /\
 (NB x519.a fun b531 o532=>((0<=((IntKind.wrap .i64 ((IntKind.wrap .i64 ((p0.n:Int)*x517))+x518)):Int)/\((IntKind.wrap .i64 ((IntKind.wrap .i64 ((p0.n:Int)*x517))+x518)):Int)<(x519.n:Nat)) /\
 (Wp h530 ⟨b531,o532+Int.toNat (IntKind.wrap .i64 ((IntKind.wrap .i64 ((p0.n:Int)*x517))+x518))*1,none⟩ 1 [vS s529] fun h533=>
 (∃ (x534 x535:Sl),atC h533 (aS h25 0) [vS x534,vS x535] /\
 (Wp h533 (aS h6 0) 2 [vS x534,vS x535] fun h536=>
 (∃ (x537 x538:Sl),atC h536 (aS h6 0) [vS x537,vS x538] /\
 R (.agg ⟨[vS x537,vS x538]⟩) h536)))))))))))))/\((Wn h525 [vI x524] 3 fun h539=>
 (Sm [⟨b521,o522+Int.toNat (IntKind.wrap .i64 ((IntKind.wrap .i64 ((p0.n:Int)*x517))+x518))*1,none⟩,(aS h 1),(aS h25 1)] h525 h539 /\
 (App Pz 23 23 (.slice (some (aS h515 0)) 0 0) (vS x523) h539 fun s540 h541=>
 (Sm [(aS h7 3),(aS h25 1)] h539 h541 /\
 (App Pz 23 23 (vS s540) (.slice (some (aS h525 0)) 1 1) h541 fun s542 h543=>
 (Sm [(aS h25 1)] h541 h543 /\
 (NB x519.a fun b544 o545=>((0<=((IntKind.wrap .i64 ((IntKind.wrap .i64 ((p0.n:Int)*x517))+x518)):Int)/\((IntKind.wrap .i64 ((IntKind.wrap .i64 ((p0.n:Int)*x517))+x518)):Int)<(x519.n:Nat)) /\
 (Wp h543 ⟨b544,o545+Int.toNat (IntKind.wrap .i64 ((IntKind.wrap .i64 ((p0.n:Int)*x517))+x518))*1,none⟩ 1 [vS s542] fun h546=>
 (∃ (x547 x548:Sl),atC h546 (aS h25 0) [vS x547,vS x548] /\
 (Wp h546 (aS h6 0) 2 [vS x547,vS x548] fun h549=>
 (∃ (x550 x551:Sl),atC h549 (aS h6 0) [vS x550,vS x551] /\
 R (.agg ⟨[vS x550,vS x551]⟩) h549))))))))))))))))/\((Wn h515 [vI x524] 3 fun h552=>
 (Sm [⟨b521,o522+Int.toNat (IntKind.wrap .i64 ((IntKind.wrap .i64 ((p0.n:Int)*x517))+x518))*1,none⟩,(aS h 1),(aS h25 1)] h515 h552 /\
 (Wn h552 [] 3 fun h553=>
 (Sm [(aS h7 3),⟨b521,o522+Int.toNat (IntKind.wrap .i64 ((IntKind.wrap .i64 ((p0.n:Int)*x517))+x518))*1,none⟩,(aS h 1),(aS h25 1)] h552 h553 /\
 (App Pz 23 23 (.slice (some (aS h552 0)) 0 0) (vS x523) h553 fun s554 h555=>
 (Sm [(aS h7 3),(aS h25 1)] h553 h555 /\
 (App Pz 23 23 (vS s554) (.slice (some (aS h515 0)) 1 1) h555 fun s556 h557=>
 (Sm [(aS h25 1)] h555 h557 /\
 (NB x519.a fun b558 o559=>((0<=((IntKind.wrap .i64 ((IntKind.wrap .i64 ((p0.n:Int)*x517))+x518)):Int)/\((IntKind.wrap .i64 ((IntKind.wrap .i64 ((p0.n:Int)*x517))+x518)):Int)<(x519.n:Nat)) /\
 (Wp h557 ⟨b558,o559+Int.toNat (IntKind.wrap .i64 ((IntKind.wrap .i64 ((p0.n:Int)*x517))+x518))*1,none⟩ 1 [vS s556] fun h560=>
 (∃ (x561 x562:Sl),atC h560 (aS h25 0) [vS x561,vS x562] /\
 (Wp h560 (aS h6 0) 2 [vS x561,vS x562] fun h563=>
 (∃ (x564 x565:Sl),atC h563 (aS h6 0) [vS x564,vS x565] /\
 R (.agg ⟨[vS x564,vS x565]⟩) h563))))))))))))))))))))))))
 ((∃ x566,rI h515 (aS h7 2) x566 /\
 (∃ x567,rI h515 (aS h5 0) x567 /\
 (∃ x568,rS h515 (aS h25 1) x568 /\
 (∃ x569,rS h515 (aS h 1) x569 /\
 (NB x569.a fun b570 o571=>((0<=((IntKind.wrap .i64 ((IntKind.wrap .i64 ((p0.n:Int)*x566))+x567)):Int)/\((IntKind.wrap .i64 ((IntKind.wrap .i64 ((p0.n:Int)*x566))+x567)):Int)<(x569.n:Nat)) /\
 (∃ x572,rS h515 ⟨b570,o571+Int.toNat (IntKind.wrap .i64 ((IntKind.wrap .i64 ((p0.n:Int)*x566))+x567))*1,none⟩ x572 /\
 (((0:Int)<=(1:Int)/\(1:Int)<=((x572.n:Nat):Int)/\((x572.n:Nat):Int)<=(x572.c:Nat)) /\
 (Wn h515 [] 3 fun h573=>
 (Sm [⟨b570,o571+Int.toNat (IntKind.wrap .i64 ((IntKind.wrap .i64 ((p0.n:Int)*x566))+x567))*1,none⟩,(aS h 1),(aS h25 1)] h515 h573 /\
 (App Pz 23 23 (.slice (some (aS h515 0)) 0 0) (.slice (subA x572.a (Int.toNat 1) x572.c 1) (Int.toNat (x572.n:Nat) - Int.toNat 1) (x572.c - Int.toNat 1)) h573 fun s574 h575=>
 (Sm [(aS h25 1)] h573 h575 /\
 (NB x568.a fun b576 o577=>((0<=((IntKind.wrap .i64 ((IntKind.wrap .i64 ((p0.n:Int)*x566))+x567)):Int)/\((IntKind.wrap .i64 ((IntKind.wrap .i64 ((p0.n:Int)*x566))+x567)):Int)<(x568.n:Nat)) /\
 (Wp h575 ⟨b576,o577+Int.toNat (IntKind.wrap .i64 ((IntKind.wrap .i64 ((p0.n:Int)*x566))+x567))*1,none⟩ 1 [vS s574] fun h578=>
 (∃ (x579 x580:Sl),atC h578 (aS h25 0) [vS x579,vS x580] /\
 (Wp h578 (aS h6 0) 2 [vS x579,vS x580] fun h581=>
 (∃ (x582 x583:Sl),atC h581 (aS h6 0) [vS x582,vS x583] /\
 R (.agg ⟨[vS x582,vS x583]⟩) h581)))))))))))))))))))))))))))))))))))/\((Wn h503 [] 23 fun h584=>
 (Sm [(aS h 1),(aS h 0)] h503 h584 /\
 (App Pz 23 23 (.slice (some (aS h22 0)) 0 0) (vS x23) h584 fun s585 h586=>
 (Sm [(aS h 1)] h584 h586 /\
 (App Pz 24 24 (.slice (some (aS h503 0)) 0 0) (vS x24) h586 fun s587 h588=>
 (Sm [(aS h 0)] h586 h588 /\
 (Wp h588 (aS h25 0) 2 [vS s585,vS s587] fun h589=>
 (∃ x590,rS h589 (aS h25 0) x590 /\
 (∃ x591,rI h589 (aS h5 0) x591 /\
 (∃ x592,rI h589 (aS h7 4) x592 /\
 (NB x590.a fun b593 o594=>(Ib x591 x590.n /\
 (Wp h589 ⟨b593,o594+Int.toNat x591*1,none⟩ 1 [vI x592] fun h595=>
 (∃ x596,rB h595 (aS h7 1) x596 /\
 (sB x596
 ((∃ x597,rI h595 (aS h5 0) x597 /\
 (∃ x598,rI h595 (aS h7 2) x598 /\
 (∃ x599,rS h595 (aS h25 1) x599 /\
 (∃ x600,rS h595 (aS h 1) x600 /\
 (NB x600.a fun b601 o602=>((0<=((IntKind.wrap .i64 ((IntKind.wrap .i64 ((p0.n:Int)*x597))+x598)):Int)/\((IntKind.wrap .i64 ((IntKind.wrap .i64 ((p0.n:Int)*x597))+x598)):Int)<(x600.n:Nat)) /\
 (∃ x603,rS h595 ⟨b601,o602+Int.toNat (IntKind.wrap .i64 ((IntKind.wrap .i64 ((p0.n:Int)*x597))+x598))*1,none⟩ x603 /\
 (∃ x604,rI h595 (aS h7 3) x604 /\
 ((Wn h595 [] 3 fun h605=>
 (Sm [(aS h7 3),⟨b601,o602+Int.toNat (IntKind.wrap .i64 ((IntKind.wrap .i64 ((p0.n:Int)*x597))+x598))*1,none⟩,(aS h 1),(aS h25 1)] h595 h605 /\
 ((App Pz 23 23 (.slice (some (aS h595 0)) 0 0) (vS x603) h605 fun s606 h607=>
 (Sm [(aS h7 3),(aS h25 1)] h605 h607 /\
 (Wn h607 [vI x604] 3 fun h608=>
 (Sm [⟨b601,o602+Int.toNat (IntKind.wrap .i64 ((IntKind.wrap .i64 ((p0.n:Int)*x597))+x598))*1,none⟩,(aS h 1),(aS h25 1)] h607 h608 /\
 (App Pz 23 23 (vS s606) (.slice (some (aS h607 0)) 1 1) h608 fun s609 h610=>
 (Sm [(aS h25 1)] h608 h610 /\
 (NB x599.a fun b611 o612=>((0<=((IntKind.wrap .i64 ((IntKind.wrap .i64 ((p0.n:Int)*x597))+x598)):Int)/\((IntKind.wrap .i64 ((IntKind.wrap .i64 ((p0.n:Int)*x597))+x598)):Int)<(x599.n:Nat)) /\
 (Wp h610 ⟨b611,o612+Int.toNat (IntKind.wrap .i64 ((IntKind.wrap .i64 ((p0.n:Int)*x597))+x598))*1,none⟩ 1 [vS s609] fun h613=>
 (∃ (x614 x615:Sl),atC h613 (aS h25 0) [vS x614,vS x615] /\
 (Wp h613 (aS h6 0) 2 [vS x614,vS x615] fun h616=>
 (∃ (x617 x618:Sl),atC h616 (aS h6 0) [vS x617,vS x618] /\
 R (.agg ⟨[vS x617,vS x618]⟩) h616)))))))))))))/\((Wn h605 [vI x604] 3 fun h619=>
 (Sm [⟨b601,o602+Int.toNat (IntKind.wrap .i64 ((IntKind.wrap .i64 ((p0.n:Int)*x597))+x598))*1,none⟩,(aS h 1),(aS h25 1)] h605 h619 /\
 (App Pz 23 23 (.slice (some (aS h595 0)) 0 0) (vS x603) h619 fun s620 h621=>
 (Sm [(aS h7 3),(aS h25 1)] h619 h621 /\
 (App Pz 23 23 (vS s620) (.slice (some (aS h605 0)) 1 1) h621 fun s622 h623=>
 (Sm [(aS h25 1)] h621 h623 /\
 (NB x599.a fun b624 o625=>((0<=((IntKind.wrap .i64 ((IntKind.wrap .i64 ((p0.n:Int)*x597))+x598)):Int)/\((IntKind.wrap .i64 ((IntKind.wrap .i64 ((p0.n:Int)*x597))+x598)):Int)<(x599.n:Nat)) /\
 (Wp h623 ⟨b624,o625+Int.toNat (IntKind.wrap .i64 ((IntKind.wrap .i64 ((p0.n:Int)*x597))+x598))*1,none⟩ 1 [vS s622] fun h626=>
 (∃ (x627 x628:Sl),atC h626 (aS h25 0) [vS x627,vS x628] /\
 (Wp h626 (aS h6 0) 2 [vS x627,vS x628] fun h629=>
 (∃ (x630 x631:Sl),atC h629 (aS h6 0) [vS x630,vS x631] /\
 R (.agg ⟨[vS x630,vS x631]⟩) h629))))))))))))))))/\((Wn h595 [vI x604] 3 fun h632=>
 (Sm [⟨b601,o602+Int.toNat (IntKind.wrap .i64 ((IntKind.wrap .i64 ((p0.n:Int)*x597))+x598))*1,none⟩,(aS h 1),(aS h25 1)] h595 h632 /\
 (Wn h632 [] 3 fun h633=>
 (Sm [(aS h7 3),⟨b601,o602+Int.toNat (IntKind.wrap .i64 ((IntKind.wrap .i64 ((p0.n:Int)*x597))+x598))*1,none⟩,(aS h 1),(aS h25 1)] h632 h633 /\
 (App Pz 23 23 (.slice (some (aS h632 0)) 0 0) (vS x603) h633 fun s634 h635=>
 (Sm [(aS h7 3),(aS h25 1)] h633 h635 /\
 (App Pz 23 23 (vS s634) (.slice (some (aS h595 0)) 1 1) h635 fun s636 h637=>
 (Sm [(aS h25 1)] h635 h637 /\
 (NB x599.a fun b638 o639=>((0<=((IntKind.wrap .i64 ((IntKind.wrap .i64 ((p0.n:Int)*x597))+x598)):Int)/\((IntKind.wrap .i64 ((IntKind.wrap .i64 ((p0.n:Int)*x597))+x598)):Int)<(x599.n:Nat)) /\
 (Wp h637 ⟨b638,o639+Int.toNat (IntKind.wrap .i64 ((IntKind.wrap .i64 ((p0.n:Int)*x597))+x598))*1,none⟩ 1 [vS s636] fun h640=>
 (∃ (x641 x642:Sl),atC h640 (aS h25 0) [vS x641,vS x642] /\
 (Wp h640 (aS h6 0) 2 [vS x641,vS x642] fun h643=>
 (∃ (x644 x645:Sl),atC h643 (aS h6 0) [vS x644,vS x645] /\
 R (.agg ⟨[vS x644,vS x645]⟩) h643))))))))))))))))))))))))
 ((∃ x646,rI h595 (aS h7 2) x646 /\
 (∃ x647,rI h595 (aS h5 0) x647 /\
 (∃ x648,rS h595 (aS h25 1) x648 /\
 (∃ x649,rS h595 (aS h 1) x649 /\
 (NB x649.a fun b650 o651=>((0<=((IntKind.wrap .i64 ((IntKind.wrap .i64 ((p0.n:Int)*x646))+x647)):Int)/\((IntKind.wrap .i64 ((IntKind.wrap .i64 ((p0.n:Int)*x646))+x647)):Int)<(x649.n:Nat)) /\
 (∃ x652,rS h595 ⟨b650,o651+Int.toNat (IntKind.wrap .i64 ((IntKind.wrap .i64 ((p0.n:Int)*x646))+x647))*1,none⟩ x652 /\
 (((0:Int)<=(1:Int)/\(1:Int)<=((x652.n:Nat):Int)/\((x652.n:Nat):Int)<=(x652.c:Nat)) /\
 (Wn h595 [] 3 fun h653=>
 (Sm [⟨b650,o651+Int.toNat (IntKind.wrap .i64 ((IntKind.wrap .i64 ((p0.n:Int)*x646))+x647))*1,none⟩,(aS h 1),(aS h25 1)] h595 h653 /\
 (App Pz 23 23 (.slice (some (aS h595 0)) 0 0) (.slice (subA x652.a (Int.toNat 1) x652.c 1) (Int.toNat (x652.n:Nat) - Int.toNat 1) (x652.c - Int.toNat 1)) h653 fun s654 h655=>
 (Sm [(aS h25 1)] h653 h655 /\
 (NB x648.a fun b656 o657=>((0<=((IntKind.wrap .i64 ((IntKind.wrap .i64 ((p0.n:Int)*x646))+x647)):Int)/\((IntKind.wrap .i64 ((IntKind.wrap .i64 ((p0.n:Int)*x646))+x647)):Int)<(x648.n:Nat)) /\
 (Wp h655 ⟨b656,o657+Int.toNat (IntKind.wrap .i64 ((IntKind.wrap .i64 ((p0.n:Int)*x646))+x647))*1,none⟩ 1 [vS s654] fun h658=>
 (∃ (x659 x660:Sl),atC h658 (aS h25 0) [vS x659,vS x660] /\
 (Wp h658 (aS h6 0) 2 [vS x659,vS x660] fun h661=>
 (∃ (x662 x663:Sl),atC h661 (aS h6 0) [vS x662,vS x663] /\
 R (.agg ⟨[vS x662,vS x663]⟩) h661)))))))))))))))))))))))))))))))))))))))))/\((Wn h22 [] 23 fun h664=>
 (Sm [(aS h 1),(aS h 0)] h22 h664 /\
 ((Wn h664 [] 3 fun h665=>
 (Sm [(aS h 1),(aS h 0)] h664 h665 /\
 ((App Pz 23 23 (.slice (some (aS h664 0)) 0 0) (vS x23) h665 fun s666 h667=>
 (Sm [(aS h 1)] h665 h667 /\
 ((App Pz 24 24 (.slice (some (aS h22 0)) 0 0) (vS x24) h667 fun s668 h669=>
 (Sm [(aS h 0)] h667 h669 /\
 (Wn h669 [.slice none 0 0,.slice none 0 0] 26 fun h670=>
 (Sm [(aS h 1),(aS h 0)] h669 h670 /\
 (Wp h670 (aS h669 0) 2 [vS s666,vS s668] fun h671=>
 (∃ x672,rS h671 (aS h669 0) x672 /\
 (∃ x673,rI h671 (aS h5 0) x673 /\
 (∃ x674,rI h671 (aS h7 4) x674 /\
 (NB x672.a fun b675 o676=>(Ib x673 x672.n /\
 (Wp h671 ⟨b675,o676+Int.toNat x673*1,none⟩ 1 [vI x674] fun h677=>
 (∃ x678,rB h677 (aS h7 1) x678 /\
 (sB x678
 ((∃ x679,rI h677 (aS h5 0) x679 /\
 (∃ x680,rI h677 (aS h7 2) x680 /\
 (∃ x681,rS h677 (aS h669 1) x681 /\
 (∃ x682,rS h677 (aS h 1) x682 /\
 (NB x682.a fun b683 o684=>((0<=((IntKind.wrap .i64 ((IntKind.wrap .i64 ((p0.n:Int)*x679))+x680)):Int)/\((IntKind.wrap .i64 ((IntKind.wrap .i64 ((p0.n:Int)*x679))+x680)):Int)<(x682.n:Nat)) /\
 (∃ x685,rS h677 ⟨b683,o684+Int.toNat (IntKind.wrap .i64 ((IntKind.wrap .i64 ((p0.n:Int)*x679))+x680))*1,none⟩ x685 /\
 (∃ x686,rI h677 (aS h7 3) x686 /\
 ((Wn h677 [] 3 fun h687=>
 (Sm [(aS h7 3),⟨b683,o684+Int.toNat (IntKind.wrap .i64 ((IntKind.wrap .i64 ((p0.n:Int)*x679))+x680))*1,none⟩,(aS h 1),(aS h669 1)] h677 h687 /\
 ((App Pz 23 23 (.slice (some (aS h677 0)) 0 0) (vS x685) h687 fun s688 h689=>
 (Sm [(aS h7 3),(aS h669 1)] h687 h689 /\
 (Wn h689 [vI x686] 3 fun h690=>
 (Sm [⟨b683,o684+Int.toNat (IntKind.wrap .i64 ((IntKind.wrap .i64 ((p0.n:Int)*x679))+x680))*1,none⟩,(aS h 1),(aS h669 1)] h689 h690 /\
 (App Pz 23 23 (vS s688) (.slice (some (aS h689 0)) 1 1) h690 fun s691 h692=>
 (Sm [(aS h669 1)] h690 h692 /\
 (NB x681.a fun b693 o694=>((0<=((IntKind.wrap .i64 ((IntKind.wrap .i64 ((p0.n:Int)*x679))+x680)):Int)/\((IntKind.wrap .i64 ((IntKind.wrap .i64 ((p0.n:Int)*x679))+x680)):Int)<(x681.n:Nat)) /\
 (Wp h692 ⟨b693,o694+Int.toNat (IntKind.wrap .i64 ((IntKind.wrap .i64 ((p0.n:Int)*x679))+x680))*1,none⟩ 1 [vS s691] fun h695=>
 (∃ (x696 x697:Sl),atC h695 (aS h669 0) [vS x696,vS x697] /\
 (Wp h695 (aS h6 0) 2 [vS x696,vS x697] fun h698=>
 (∃ (x699 x700:Sl),atC h698 (aS h6 0) [vS x699,vS x700] /\
 R (.agg ⟨[vS x699,vS x700]⟩) h698)))))))))))))/\((Wn h687 [vI x686] 3 fun h701=>
 (Sm [⟨b683,o684+Int.toNat (IntKind.wrap .i64 ((IntKind.wrap .i64 ((p0.n:Int)*x679))+x680))*1,none⟩,(aS h 1),(aS h669 1)] h687 h701 /\
 (App Pz 23 23 (.slice (some (aS h677 0)) 0 0) (vS x685) h701 fun s702 h703=>
 (Sm [(aS h7 3),(aS h669 1)] h701 h703 /\
 (App Pz 23 23 (vS s702) (.slice (some (aS h687 0)) 1 1) h703 fun s704 h705=>
 (Sm [(aS h669 1)] h703 h705 /\
 (NB x681.a fun b706 o707=>((0<=((IntKind.wrap .i64 ((IntKind.wrap .i64 ((p0.n:Int)*x679))+x680)):Int)/\((IntKind.wrap .i64 ((IntKind.wrap .i64 ((p0.n:Int)*x679))+x680)):Int)<(x681.n:Nat)) /\
 (Wp h705 ⟨b706,o707+Int.toNat (IntKind.wrap .i64 ((IntKind.wrap .i64 ((p0.n:Int)*x679))+x680))*1,none⟩ 1 [vS s704] fun h708=>
 (∃ (x709 x710:Sl),atC h708 (aS h669 0) [vS x709,vS x710] /\
 (Wp h708 (aS h6 0) 2 [vS x709,vS x710] fun h711=>
 (∃ (x712 x713:Sl),atC h711 (aS h6 0) [vS x712,vS x713] /\
 R (.agg ⟨[vS x712,vS x713]⟩) h711))))))))))))))))/\((Wn h677 [vI x686] 3 fun h714=>
 (Sm [⟨b683,o684+Int.toNat (IntKind.wrap .i64 ((IntKind.wrap .i64 ((p0.n:Int)*x679))+x680))*1,none⟩,(aS h 1),(aS h669 1)] h677 h714 /\
 (Wn h714 [] 3 fun h715=>
 (Sm [(aS h7 3),⟨b683,o684+Int.toNat (IntKind.wrap .i64 ((IntKind.wrap .i64 ((p0.n:Int)*x679))+x680))*1,none⟩,(aS h 1),(aS h669 1)] h714 h715 /\
 (App Pz 23 23 (.slice (some (aS h714 0)) 0 0) (vS x685) h715 fun s716 h717=>
 (Sm [(aS h7 3),(aS h669 1)] h715 h717 /\
 (App Pz 23 23 (vS s716) (.slice (some (aS h677 0)) 1 1) h717 fun s718 h719=>
 (Sm [(aS h669 1)] h717 h719 /\
 (NB x681.a fun b720 o721=>((0<=((IntKind.wrap .i64 ((IntKind.wrap .i64 ((p0.n:Int)*x679))+x680)):Int)/\((IntKind.wrap .i64 ((IntKind.wrap .i64 ((p0.n:Int)*x679))+x680)):Int)<(x681.n:Nat)) /\
 (Wp h719 ⟨b720,o721+Int.toNat (IntKind.wrap .i64 ((IntKind.wrap .i64 ((p0.n:Int)*x679))+x680))*1,none⟩ 1 [vS s718] fun h722=>
 (∃ (x723 x724:Sl),atC h722 (aS h669 0) [vS x723,vS x724] /\
 (Wp h722 (aS h6 0) 2 [vS x723,vS x724] fun h725=>
 (∃ (x726 x727:Sl),atC h725 (aS h6 0) [vS x726,vS x727] /\
 R (.agg ⟨[vS x726,vS x727]⟩) h725))))))))))))))))))))))))
 ((∃ x728,rI h677 (aS h7 2) x728 /\
 (∃ x729,rI h677 (aS h5 0) x729 /\
 (∃ x730,rS h677 (aS h669 1) x730 /\
 (∃ x731,rS h677 (aS h 1) x731 /\
 (NB x731.a fun b732 o733=>((0<=((IntKind.wrap .i64 ((IntKind.wrap .i64 ((p0.n:Int)*x728))+x729)):Int)/\((IntKind.wrap .i64 ((IntKind.wrap .i64 ((p0.n:Int)*x728))+x729)):Int)<(x731.n:Nat)) /\
 (∃ x734,rS h677 ⟨b732,o733+Int.toNat (IntKind.wrap .i64 ((IntKind.wrap .i64 ((p0.n:Int)*x728))+x729))*1,none⟩ x734 /\
 (((0:Int)<=(1:Int)/\(1:Int)<=((x734.n:Nat):Int)/\((x734.n:Nat):Int)<=(x734.c:Nat)) /\
 (Wn h677 [] 3 fun h735=>
 (Sm [⟨b732,o733+Int.toNat (IntKind.wrap .i64 ((IntKind.wrap .i64 ((p0.n:Int)*x728))+x729))*1,none⟩,(aS h 1),(aS h669 1)] h677 h735 /\
 (App Pz 23 23 (.slice (some (aS h677 0)) 0 0) (.slice (subA x734.a (Int.toNat 1) x734.c 1) (Int.toNat (x734.n:Nat) - Int.toNat 1) (x734.c - Int.toNat 1)) h735 fun s736 h737=>
 (Sm [(aS h669 1)] h735 h737 /\
 (NB x730.a fun b738 o739=>((0<=((IntKind.wrap .i64 ((IntKind.wrap .i64 ((p0.n:Int)*x728))+x729)):Int)/\((IntKind.wrap .i64 ((IntKind.wrap .i64 ((p0.n:Int)*x728))+x729)):Int)<(x730.n:Nat)) /\
 (Wp h737 ⟨b738,o739+Int.toNat (IntKind.wrap .i64 ((IntKind.wrap .i64 ((p0.n:Int)*x728))+x729))*1,none⟩ 1 [vS s736] fun h740=>
 (∃ (x741 x742:Sl),atC h740 (aS h669 0) [vS x741,vS x742] /\
 (Wp h740 (aS h6 0) 2 [vS x741,vS x742] fun h743=>
 (∃ (x744 x745:Sl),atC h743 (aS h6 0) [vS x744,vS x745] /\
 R (.agg ⟨[vS x744,vS x745]⟩) h743)))))))))))))))))))))))))))))))))/\((Wn h667 [.slice none 0 0,.slice none 0 0] 26 fun h746=>
 (Sm [(aS h 1),(aS h 0)] h667 h746 /\
 (App Pz 24 24 (.slice (some (aS h22 0)) 0 0) (vS x24) h746 fun s747 h748=>
 (Sm [(aS h 0)] h746 h748 /\
 (Wp h748 (aS h667 0) 2 [vS s666,vS s747] fun h749=>
 (∃ x750,rS h749 (aS h667 0) x750 /\
 (∃ x751,rI h749 (aS h5 0) x751 /\
 (∃ x752,rI h749 (aS h7 4) x752 /\
 (NB x750.a fun b753 o754=>(Ib x751 x750.n /\
 (Wp h749 ⟨b753,o754+Int.toNat x751*1,none⟩ 1 [vI x752] fun h755=>
 (∃ x756,rB h755 (aS h7 1) x756 /\
 (sB x756
 ((∃ x757,rI h755 (aS h5 0) x757 /\
 (∃ x758,rI h755 (aS h7 2) x758 /\
 (∃ x759,rS h755 (aS h667 1) x759 /\
 (∃ x760,rS h755 (aS h 1) x760 /\
 (NB x760.a fun b761 o762=>((0<=((IntKind.wrap .i64 ((IntKind.wrap .i64 ((p0.n:Int)*x757))+x758)):Int)/\((IntKind.wrap .i64 ((IntKind.wrap .i64 ((p0.n:Int)*x757))+x758)):Int)<(x760.n:Nat)) /\
 (∃ x763,rS h755 ⟨b761,o762+Int.toNat (IntKind.wrap .i64 ((IntKind.wrap .i64 ((p0.n:Int)*x757))+x758))*1,none⟩ x763 /\
 (∃ x764,rI h755 (aS h7 3) x764 /\
 ((Wn h755 [] 3 fun h765=>
 (Sm [(aS h7 3),⟨b761,o762+Int.toNat (IntKind.wrap .i64 ((IntKind.wrap .i64 ((p0.n:Int)*x757))+x758))*1,none⟩,(aS h 1),(aS h667 1)] h755 h765 /\
 ((App Pz 23 23 (.slice (some (aS h755 0)) 0 0) (vS x763) h765 fun s766 h767=>
 (Sm [(aS h7 3),(aS h667 1)] h765 h767 /\
 (Wn h767 [vI x764] 3 fun h768=>
 (Sm [⟨b761,o762+Int.toNat (IntKind.wrap .i64 ((IntKind.wrap .i64 ((p0.n:Int)*x757))+x758))*1,none⟩,(aS h 1),(aS h667 1)] h767 h768 /\
 (App Pz 23 23 (vS s766) (.slice (some (aS h767 0)) 1 1) h768 fun s769 h770=>
 (Sm [(aS h667 1)] h768 h770 /\
 (NB x759.a fun b771 o772=>((0<=((IntKind.wrap .i64 ((IntKind.wrap .i64 ((p0.n:Int)*x757))+x758)):Int)/\((IntKind.wrap .i64 ((IntKind.wrap .i64 ((p0.n:Int)*x757))+x758)):Int)<(x759.n:Nat)) /\
 (Wp h770 ⟨b771,o772+Int.toNat (IntKind.wrap .i64 ((IntKind.wrap .i64 ((p0.n:Int)*x757))+x758))*1,none⟩ 1 [vS s769] fun h773=>
 (∃ (x774 x775:Sl),atC h773 (aS h667 0) [vS x774,vS x775] /\
 (Wp h773 (aS h6 0) 2 [vS x774,vS x775] fun h776=>
 (∃ (x777 x778:Sl),atC h776 (aS h6 0) [vS x777,vS x778] /\
 R (.agg ⟨[vS x777,vS x778]⟩) h776)))))))))))))/\((Wn h765 [vI x764] 3 fun h779=>
 (Sm [⟨b761,o762+Int.toNat (IntKind.wrap .i64 ((IntKind.wrap .i64 ((p0.n:Int)*x757))+x758))*1,none⟩,(aS h 1),(aS h667 1)] h765 h779 /\
 (App Pz 23 23 (.slice (some (aS h755 0)) 0 0) (vS x763) h779 fun s780 h781=>
 (Sm [(aS h7 3),(aS h667 1)] h779 h781 /\
 (App Pz 23 23 (vS s780) (.slice (some (aS h765 0)) 1 1) h781 fun s782 h783=>
 (Sm [(aS h667 1)] h781 h783 /\
 (NB x759.a fun b784 o785=>((0<=((IntKind.wrap .i64 ((IntKind.wrap .i64 ((p0.n:Int)*x757))+x758)):Int)/\((IntKind.wrap .i64 ((IntKind.wrap .i64 ((p0.n:Int)*x757))+x758)):Int)<(x759.n:Nat)) /\
 (Wp h783 ⟨b784,o785+Int.toNat (IntKind.wrap .i64 ((IntKind.wrap .i64 ((p0.n:Int)*x757))+x758))*1,none⟩ 1 [vS s782] fun h786=>
 (∃ (x787 x788:Sl),atC h786 (aS h667 0) [vS x787,vS x788] /\
 (Wp h786 (aS h6 0) 2 [vS x787,vS x788] fun h789=>
 (∃ (x790 x791:Sl),atC h789 (aS h6 0) [vS x790,vS x791] /\
 R (.agg ⟨[vS x790,vS x791]⟩) h789))))))))))))))))/\((Wn h755 [vI x764] 3 fun h792=>
 (Sm [⟨b761,o762+Int.toNat (IntKind.wrap .i64 ((IntKind.wrap .i64 ((p0.n:Int)*x757))+x758))*1,none⟩,(aS h 1),(aS h667 1)] h755 h792 /\
 (Wn h792 [] 3 fun h793=>
 (Sm [(aS h7 3),⟨b761,o762+Int.toNat (IntKind.wrap .i64 ((IntKind.wrap .i64 ((p0.n:Int)*x757))+x758))*1,none⟩,(aS h 1),(aS h667 1)] h792 h793 /\
 (App Pz 23 23 (.slice (some (aS h792 0)) 0 0) (vS x763) h793 fun s794 h795=>
 (Sm [(aS h7 3),(aS h667 1)] h793 h795 /\
 (App Pz 23 23 (vS s794) (.slice (some (aS h755 0)) 1 1) h795 fun s796 h797=>
 (Sm [(aS h667 1)] h795 h797 /\
 (NB x759.a fun b798 o799=>((0<=((IntKind.wrap .i64 ((IntKind.wrap .i64 ((p0.n:Int)*x757))+x758)):Int)/\((IntKind.wrap .i64 ((IntKind.wrap .i64 ((p0.n:Int)*x757))+x758)):Int)<(x759.n:Nat)) /\
 (Wp h797 ⟨b798,o799+Int.toNat (IntKind.wrap .i64 ((IntKind.wrap .i64 ((p0.n:Int)*x757))+x758))*1,none⟩ 1 [vS s796] fun h800=>
 (∃ (x801 x802:Sl),atC h800 (aS h667 0) [vS x801,vS x802] /\
 (Wp h800 (aS h6 0) 2 [vS x801,vS x802] fun h803=>
 (∃ (x804 x805:Sl),atC h803 (aS h6 0) [vS x804,vS x805] /\
 R (.agg ⟨[vS x804,vS x805]⟩) h803))))))))))))))))))))))))
 ((∃ x806,rI h755 (aS h7 2) x806 /\
 (∃ x807,rI h755 (aS h5 0) x807 /\
 (∃ x808,rS h755 (aS h667 1) x808 /\
 (∃ x809,rS h755 (aS h 1) x809 /\
 (NB x809.a fun b810 o811=>((0<=((IntKind.wrap .i64 ((IntKind.wrap .i64 ((p0.n:Int)*x806))+x807)):Int)/\((IntKind.wrap .i64 ((IntKind.wrap .i64 ((p0.n:Int)*x806))+x807)):Int)<(x809.n:Nat)) /\
 (∃ x812,rS h755 ⟨b810,o811+Int.toNat (IntKind.wrap .i64 ((IntKind.wrap .i64 ((p0.n:Int)*x806))+x807))*1,none⟩ x812 /\
 (((0:Int)<=(1:Int)/\(1:Int)<=((x812.n:Nat):Int)/\((x812.n:Nat):Int)<=(x812.c:Nat)) /\
 (Wn h755 [] 3 fun h813=>
 (Sm [⟨b810,o811+Int.toNat (IntKind.wrap .i64 ((IntKind.wrap .i64 ((p0.n:Int)*x806))+x807))*1,none⟩,(aS h 1),(aS h667 1)] h755 h813 /\
 (App Pz 23 23 (.slice (some (aS h755 0)) 0 0) (.slice (subA x812.a (Int.toNat 1) x812.c 1) (Int.toNat (x812.n:Nat) - Int.toNat 1) (x812.c - Int.toNat 1)) h813 fun s814 h815=>
 (Sm [(aS h667 1)] h813 h815 /\
 (NB x808.a fun b816 o817=>((0<=((IntKind.wrap .i64 ((IntKind.wrap .i64 ((p0.n:Int)*x806))+x807)):Int)/\((IntKind.wrap .i64 ((IntKind.wrap .i64 ((p0.n:Int)*x806))+x807)):Int)<(x808.n:Nat)) /\
 (Wp h815 ⟨b816,o817+Int.toNat (IntKind.wrap .i64 ((IntKind.wrap .i64 ((p0.n:Int)*x806))+x807))*1,none⟩ 1 [vS s814] fun h818=>
 (∃ (x819 x820:Sl),atC h818 (aS h667 0) [vS x819,vS x820] /\
 (Wp h818 (aS h6 0) 2 [vS x819,vS x820] fun h821=>
 (∃ (x822 x823:Sl),atC h821 (aS h6 0) [vS x822,vS x823] /\
 R (.agg ⟨[vS x822,vS x823]⟩) h821))))))))))))))))))))))))))))))))))))/\((Wn h665 [.slice none 0 0,.slice none 0 0] 26 fun h824=>
 (Sm [(aS h 1),(aS h 0)] h665 h824 /\
 (App Pz 23 23 (.slice (some (aS h664 0)) 0 0) (vS x23) h824 fun s825 h826=>
 (Sm [(aS h 1)] h824 h826 /\
 (App Pz 24 24 (.slice (some (aS h22 0)) 0 0) (vS x24) h826 fun s827 h828=>
 (Sm [(aS h 0)] h826 h828 /\
 (Wp h828 (aS h665 0) 2 [vS s825,vS s827] fun h829=>
 (∃ x830,rS h829 (aS h665 0) x830 /\
 (∃ x831,rI h829 (aS h5 0) x831 /\
 (∃ x832,rI h829 (aS h7 4) x832 /\
 (NB x830.a fun b833 o834=>(Ib x831 x830.n /\
 (Wp h829 ⟨b833,o834+Int.toNat x831*1,none⟩ 1 [vI x832] fun h835=>
 (∃ x836,rB h835 (aS h7 1) x836 /\
 (sB x836
 ((∃ x837,rI h835 (aS h5 0) x837 /\
 (∃ x838,rI h835 (aS h7 2) x838 /\
 (∃ x839,rS h835 (aS h665 1) x839 /\
 (∃ x840,rS h835 (aS h 1) x840 /\
 (NB x840.a fun b841 o842=>((0<=((IntKind.wrap .i64 ((IntKind.wrap .i64 ((p0.n:Int)*x837))+x838)):Int)/\((IntKind.wrap .i64 ((IntKind.wrap .i64 ((p0.n:Int)*x837))+x838)):Int)<(x840.n:Nat)) /\
 (∃ x843,rS h835 ⟨b841,o842+Int.toNat (IntKind.wrap .i64 ((IntKind.wrap .i64 ((p0.n:Int)*x837))+x838))*1,none⟩ x843 /\
 (∃ x844,rI h835 (aS h7 3) x844 /\
 ((Wn h835 [] 3 fun h845=>
 (Sm [(aS h7 3),⟨b841,o842+Int.toNat (IntKind.wrap .i64 ((IntKind.wrap .i64 ((p0.n:Int)*x837))+x838))*1,none⟩,(aS h 1),(aS h665 1)] h835 h845 /\
 ((App Pz 23 23 (.slice (some (aS h835 0)) 0 0) (vS x843) h845 fun s846 h847=>
 (Sm [(aS h7 3),(aS h665 1)] h845 h847 /\
 (Wn h847 [vI x844] 3 fun h848=>
 (Sm [⟨b841,o842+Int.toNat (IntKind.wrap .i64 ((IntKind.wrap .i64 ((p0.n:Int)*x837))+x838))*1,none⟩,(aS h 1),(aS h665 1)] h847 h848 /\
 (App Pz 23 23 (vS s846) (.slice (some (aS h847 0)) 1 1) h848 fun s849 h850=>
 (Sm [(aS h665 1)] h848 h850 /\
 (NB x839.a fun b851 o852=>((0<=((IntKind.wrap .i64 ((IntKind.wrap .i64 ((p0.n:Int)*x837))+x838)):Int)/\((IntKind.wrap .i64 ((IntKind.wrap .i64 ((p0.n:Int)*x837))+x838)):Int)<(x839.n:Nat)) /\
 (Wp h850 ⟨b851,o852+Int.toNat (IntKind.wrap .i64 ((IntKind.wrap .i64 ((p0.n:Int)*x837))+x838))*1,none⟩ 1 [vS s849] fun h853=>
 (∃ (x854 x855:Sl),atC h853 (aS h665 0) [vS x854,vS x855] /\
 (Wp h853 (aS h6 0) 2 [vS x854,vS x855] fun h856=>
 (∃ (x857 x858:Sl),atC h856 (aS h6 0) [vS x857,vS x858] /\
 R (.agg ⟨[vS x857,vS x858]⟩) h856)))))))))))))/\((Wn h845 [vI x844] 3 fun h859=>
 (Sm [⟨b841,o842+Int.toNat (IntKind.wrap .i64 ((IntKind.wrap .i64 ((p0.n:Int)*x837))+x838))*1,none⟩,(aS h 1),(aS h665 1)] h845 h859 /\
 (App Pz 23 23 (.slice (some (aS h835 0)) 0 0) (vS x843) h859 fun s860 h861=>
 (Sm [(aS h7 3),(aS h665 1)] h859 h861 /\
 (App Pz 23 23 (vS s860) (.slice (some (aS h845 0)) 1 1) h861 fun s862 h863=>
 (Sm [(aS h665 1)] h861 h863 /\
 (NB x839.a fun b864 o865=>((0<=((IntKind.wrap .i64 ((IntKind.wrap .i64 ((p0.n:Int)*x837))+x838)):Int)/\((IntKind.wrap .i64 ((IntKind.wrap .i64 ((p0.n:Int)*x837))+x838)):Int)<(x839.n:Nat)) /\
 (Wp h863 ⟨b864,o865+Int.toNat (IntKind.wrap .i64 ((IntKind.wrap .i64 ((p0.n:Int)*x837))+x838))*1,none⟩ 1 [vS s862] fun h866=>
 (∃ (x867 x868:Sl),atC h866 (aS h665 0) [vS x867,vS x868] /\
 (Wp h866 (aS h6 0) 2 [vS x867,vS x868] fun h869=>
 (∃ (x870 x871:Sl),atC h869 (aS h6 0) [vS x870,vS x871] /\
 R (.agg ⟨[vS x870,vS x871]⟩) h869))))))))))))))))/\((Wn h835 [vI x844] 3 fun h872=>
 (Sm [⟨b841,o842+Int.toNat (IntKind.wrap .i64 ((IntKind.wrap .i64 ((p0.n:Int)*x837))+x838))*1,none⟩,(aS h 1),(aS h665 1)] h835 h872 /\
 (Wn h872 [] 3 fun h873=>
 (Sm [(aS h7 3),⟨b841,o842+Int.toNat (IntKind.wrap .i64 ((IntKind.wrap .i64 ((p0.n:Int)*x837))+x838))*1,none⟩,(aS h 1),(aS h665 1)] h872 h873 /\
 (App Pz 23 23 (.slice (some (aS h872 0)) 0 0) (vS x843) h873 fun s874 h875=>
 (Sm [(aS h7 3),(aS h665 1)] h873 h875 /\
 (App Pz 23 23 (vS s874) (.slice (some (aS h835 0)) 1 1) h875 fun s876 h877=>
 (Sm [(aS h665 1)] h875 h877 /\
 (NB x839.a fun b878 o879=>((0<=((IntKind.wrap .i64 ((IntKind.wrap .i64 ((p0.n:Int)*x837))+x838)):Int)/\((IntKind.wrap .i64 ((IntKind.wrap .i64 ((p0.n:Int)*x837))+x838)):Int)<(x839.n:Nat)) /\
 (Wp h877 ⟨b878,o879+Int.toNat (IntKind.wrap .i64 ((IntKind.wrap .i64 ((p0.n:Int)*x837))+x838))*1,none⟩ 1 [vS s876] fun h880=>
 (∃ (x881 x882:Sl),atC h880 (aS h665 0) [vS x881,vS x882] /\
 (Wp h880 (aS h6 0) 2 [vS x881,vS x882] fun h883=>
 (∃ (x884 x885:Sl),atC h883 (aS h6 0) [vS x884,vS x885] /\
 R (.agg ⟨[vS x884,vS x885]⟩) h883))))))))))))))))))))))))
 ((∃ x886,rI h835 (aS h7 2) x886 /\
 (∃ x887,rI h835 (aS h5 0) x887 /\
 (∃ x888,rS h835 (aS h665 1) x888 /\
 (∃ x889,rS h835 (aS h 1) x889 /\
 (NB x889.a fun b890 o891=>((0<=((IntKind.wrap .i64 ((IntKind.wrap .i64 ((p0.n:Int)*x886))+x887)):Int)/\((IntKind.wrap .i64 ((IntKind.wrap .i64 ((p0.n:Int)*x886))+x887)):Int)<(x889.n:Nat)) /\
 (∃ x892,rS h835 ⟨b890,o891+Int.toNat (IntKind.wrap .i64 ((IntKind.wrap .i64 ((p0.n:Int)*x886))+x887))*1,none⟩ x892 /\
 (((0:Int)<=(1:Int)/\(1:Int)<=((x892.n:Nat):Int)/\((x892.n:Nat):Int)<=(x892.c:Nat)) /\
 (Wn h835 [] 3 fun h893=>
 (Sm [⟨b890,o891+Int.toNat (IntKind.wrap .i64 ((IntKind.wrap .i64 ((p0.n:Int)*x886))+x887))*1,none⟩,(aS h 1),(aS h665 1)] h835 h893 /\
 (App Pz 23 23 (.slice (some (aS h835 0)) 0 0) (.slice (subA x892.a (Int.toNat 1) x892.c 1) (Int.toNat (x892.n:Nat) - Int.toNat 1) (x892.c - Int.toNat 1)) h893 fun s894 h895=>
 (Sm [(aS h665 1)] h893 h895 /\
 (NB x888.a fun b896 o897=>((0<=((IntKind.wrap .i64 ((IntKind.wrap .i64 ((p0.n:Int)*x886))+x887)):Int)/\((IntKind.wrap .i64 ((IntKind.wrap .i64 ((p0.n:Int)*x886))+x887)):Int)<(x888.n:Nat)) /\
 (Wp h895 ⟨b896,o897+Int.toNat (IntKind.wrap .i64 ((IntKind.wrap .i64 ((p0.n:Int)*x886))+x887))*1,none⟩ 1 [vS s894] fun h898=>
 (∃ (x899 x900:Sl),atC h898 (aS h665 0) [vS x899,vS x900] /\
 (Wp h898 (aS h6 0) 2 [vS x899,vS x900] fun h901=>
 (∃ (x902 x903:Sl),atC h901 (aS h6 0) [vS x902,vS x903] /\
 R (.agg ⟨[vS x902,vS x903]⟩) h901))))))))))))))))))))))))))))))))))))))/\((Wn h664 [.slice none 0 0,.slice none 0 0] 26 fun h904=>
 (Sm [(aS h 1),(aS h 0)] h664 h904 /\
 (Wn h904 [] 3 fun h905=>
 (Sm [(aS h 1),(aS h 0)] h904 h905 /\
 (App Pz 23 23 (.slice (some (aS h904 0)) 0 0) (vS x23) h905 fun s906 h907=>
 (Sm [(aS h 1)] h905 h907 /\
 (App Pz 24 24 (.slice (some (aS h22 0)) 0 0) (vS x24) h907 fun s908 h909=>
 (Sm [(aS h 0)] h907 h909 /\
 (Wp h909 (aS h664 0) 2 [vS s906,vS s908] fun h910=>
 (∃ x911,rS h910 (aS h664 0) x911 /\
 (∃ x912,rI h910 (aS h5 0) x912 /\
 (∃ x913,rI h910 (aS h7 4) x913 /\
 (NB x911.a fun b914 o915=>(Ib x912 x911.n /\
 (Wp h910 ⟨b914,o915+Int.toNat x912*1,none⟩ 1 [vI x913] fun h916=>
 (∃ x917,rB h916 (aS h7 1) x917 /\
 (sB x917
 ((∃ x918,rI h916 (aS h5 0) x918 /\
 (∃ x919,rI h916 (aS h7 2) x919 /\
 (∃ x920,rS h916 (aS h664 1) x920 /\
 (∃ x921,rS h916 (aS h 1) x921 /\
 (NB x921.a fun b922 o923=>((0<=((IntKind.wrap .i64 ((IntKind.wrap .i64 ((p0.n:Int)*x918))+x919)):Int)/\((IntKind.wrap .i64 ((IntKind.wrap .i64 ((p0.n:Int)*x918))+x919)):Int)<(x921.n:Nat)) /\
 (∃ x924,rS h916 ⟨b922,o923+Int.toNat (IntKind.wrap .i64 ((IntKind.wrap .i64 ((p0.n:Int)*x918))+x919))*1,none⟩ x924 /\
 (∃ x925,rI h916 (aS h7 3) x925 /\
 ((Wn h916 [] 3 fun h926=>
 (Sm [(aS h7 3),⟨b922,o923+Int.toNat (IntKind.wrap .i64 ((IntKind.wrap .i64 ((p0.n:Int)*x918))+x919))*1,none⟩,(aS h 1),(aS h664 1)] h916 h926 /\
 ((App Pz 23 23 (.slice (some (aS h916 0)) 0 0) (vS x924) h926 fun s927 h928=>
 (Sm [(aS h7 3),(aS h664 1)] h926 h928 /\
 (Wn h928 [vI x925] 3 fun h929=>
 (Sm [⟨b922,o923+Int.toNat (IntKind.wrap .i64 ((IntKind.wrap .i64 ((p0.n:Int)*x918))+x919))*1,none⟩,(aS h 1),(aS h664 1)] h928 h929 /\
 (App Pz 23 23 (vS s927) (.slice (some (aS h928 0)) 1 1) h929 fun s930 h931=>
 (Sm [(aS h664 1)] h929 h931 /\
 (NB x920.a fun b932 o933=>((0<=((IntKind.wrap .i64 ((IntKind.wrap .i64 ((p0.n:Int)*x918))+x919)):Int)/\((IntKind.wrap .i64 ((IntKind.wrap .i64 ((p0.n:Int)*x918))+x919)):Int)<(x920.n:Nat)) /\
 (Wp h931 ⟨b932,o933+Int.toNat (IntKind.wrap .i64 ((IntKind.wrap .i64 ((p0.n:Int)*x918))+x919))*1,none⟩ 1 [vS s930] fun h934=>
 (∃ (x935 x936:Sl),atC h934 (aS h664 0) [vS x935,vS x936] /\
 (Wp h934 (aS h6 0) 2 [vS x935,vS x936] fun h937=>
 (∃ (x938 x939:Sl),atC h937 (aS h6 0) [vS x938,vS x939] /\
 R (.agg ⟨[vS x938,vS x939]⟩) h937)))))))))))))/\((Wn h926 [vI x925] 3 fun h940=>
 (Sm [⟨b922,o923+Int.toNat (IntKind.wrap .i64 ((IntKind.wrap .i64 ((p0.n:Int)*x918))+x919))*1,none⟩,(aS h 1),(aS h664 1)] h926 h940 /\
 (App Pz 23 23 (.slice (some (aS h916 0)) 0 0) (vS x924) h940 fun s941 h942=>
 (Sm [(aS h7 3),(aS h664 1)] h940 h942 /\
 (App Pz 23 23 (vS s941) (.slice (some (aS h926 0)) 1 1) h942 fun s943 h944=>
 (Sm [(aS h664 1)] h942 h944 /\
 (NB x920.a fun b945 o946=>((0<=((IntKind.wrap .i64 ((IntKind.wrap .i64 ((p0.n:Int)*x918))+x919)):Int)/\((IntKind.wrap .i64 ((IntKind.wrap .i64 ((p0.n:Int)*x918))+x919)):Int)<(x920.n:Nat)) /\
 (Wp h944 ⟨b945,o946+Int.toNat (IntKind.wrap .i64 ((IntKind.wrap .i64 ((p0.n:Int)*x918))+x919))*1,none⟩ 1 [vS s943] fun h947=>
 (∃ (x948 x949:Sl),atC h947 (aS h664 0) [vS x948,vS x949] /\
 (Wp h947 (aS h6 0) 2 [vS x948,vS x949] fun h950=>
 (∃ (x951 x952:Sl),atC h950 (aS h6 0) [vS x951,vS x952] /\
 R (.agg ⟨[vS x951,vS x952]⟩) h950))))))))))))))))/\((Wn h916 [vI x925] 3 fun h953=>
 (Sm [⟨b922,o923+Int.toNat (IntKind.wrap .i64 ((IntKind.wrap .i64 ((p0.n:Int)*x918))+x919))*1,none⟩,(aS h 1),(aS h664 1)] h916 h953 /\
 (Wn h953 [] 3 fun h954=>
 (Sm [(aS h7 3),⟨b922,o923+Int.toNat (IntKind.wrap .i64 ((IntKind.wrap .i64 ((p0.n:Int)*x918))+x919))*1,none⟩,(aS h 1),(aS h664 1)] h953 h954 /\
 (App Pz 23 23 (.slice (some (aS h953 0)) 0 0) (vS x924) h954 fun s955 h956=>
 (Sm [(aS h7 3),(aS h664 1)] h954 h956 /\
 (App Pz 23 23 (vS s955) (.slice (some (aS h916 0)) 1 1) h956 fun s957 h958=>
 (Sm [(aS h664 1)] h956 h958 /\
 (NB x920.a fun b959 o960=>((0<=((IntKind.wrap .i64 ((IntKind.wrap .i64 ((p0.n:Int)*x918))+x919)):Int)/\((IntKind.wrap .i64 ((IntKind.wrap .i64 ((p0.n:Int)*x918))+x919)):Int)<(x920.n:Nat)) /\
 (Wp h958 ⟨b959,o960+Int.toNat (IntKind.wrap .i64 ((IntKind.wrap .i64 ((p0.n:Int)*x918))+x919))*1,none⟩ 1 [vS s957] fun h961=>
 (∃ (x962 x963:Sl),atC h961 (aS h664 0) [vS x962,vS x963] /\
 (Wp h961 (aS h6 0) 2 [vS x962,vS x963] fun h964=>
 (∃ (x965 x966:Sl),atC h964 (aS h6 0) [vS x965,vS x966] /\
 R (.agg ⟨[vS x965,vS x966]⟩) h964))))))))))))))))))))))))
 ((∃ x967,rI h916 (aS h7 2) x967 /\
 (∃ x968,rI h916 (aS h5 0) x968 /\
 (∃ x969,rS h916 (aS h664 1) x969 /\
 (∃ x970,rS h916 (aS h 1) x970 /\
 (NB x970.a fun b971 o972=>((0<=((IntKind.wrap .i64 ((IntKind.wrap .i64 ((p0.n:Int)*x967))+x968)):Int)/\((IntKind.wrap .i64 ((IntKind.wrap .i64 ((p0.n:Int)*x967))+x968)):Int)<(x970.n:Nat)) /\
 (∃ x973,rS h916 ⟨b971,o972+Int.toNat (IntKind.wrap .i64 ((IntKind.wrap .i64 ((p0.n:Int)*x967))+x968))*1,none⟩ x973 /\
 (((0:Int)<=(1:Int)/\(1:Int)<=((x973.n:Nat):Int)/\((x973.n:Nat):Int)<=(x973.c:Nat)) /\
 (Wn h916 [] 3 fun h974=>
 (Sm [⟨b971,o972+Int.toNat (IntKind.wrap .i64 ((IntKind.wrap .i64 ((p0.n:Int)*x967))+x968))*1,none⟩,(aS h 1),(aS h664 1)] h916 h974 /\
 (App Pz 23 23 (.slice (some (aS h916 0)) 0 0) (.slice (subA x973.a (Int.toNat 1) x973.c 1) (Int.toNat (x973.n:Nat) - Int.toNat 1) (x973.c - Int.toNat 1)) h974 fun s975 h976=>
 (Sm [(aS h664 1)] h974 h976 /\
 (NB x969.a fun b977 o978=>((0<=((IntKind.wrap .i64 ((IntKind.wrap .i64 ((p0.n:Int)*x967))+x968)):Int)/\((IntKind.wrap .i64 ((IntKind.wrap .i64 ((p0.n:Int)*x967))+x968)):Int)<(x969.n:Nat)) /\
 (Wp h976 ⟨b977,o978+Int.toNat (IntKind.wrap .i64 ((IntKind.wrap .i64 ((p0.n:Int)*x967))+x968))*1,none⟩ 1 [vS s975] fun h979=>
 (∃ (x980 x981:Sl),atC h979 (aS h664 0) [vS x980,vS x981] /\
 (Wp h979 (aS h6 0) 2 [vS x980,vS x981] fun h982=>
 (∃ (x983 x984:Sl),atC h982 (aS h6 0) [vS x983,vS x984] /\
 R (.agg ⟨[vS x983,vS x984]⟩) h982))))))))))))))))))))))))))))))))))))))))/\((Wn h22 [.slice none 0 0,.slice none 0 0] 26 fun h985=>
 (Sm [(aS h 1),(aS h 0)] h22 h985 /\
 ((Wn h985 [] 3 fun h986=>
 (Sm [(aS h 1),(aS h 0)] h985 h986 /\
 ((App Pz 23 23 (.slice (some (aS h985 0)) 0 0) (vS x23) h986 fun s987 h988=>
 (Sm [(aS h 1)] h986 h988 /\
 (Wn h988 [] 23 fun h989=>
 (Sm [(aS h 1),(aS h 0)] h988 h989 /\
 (App Pz 24 24 (.slice (some (aS h988 0)) 0 0) (vS x24) h989 fun s990 h991=>
 (Sm [(aS h 0)] h989 h991 /\
 (Wp h991 (aS h22 0) 2 [vS s987,vS s990] fun h992=>
 (∃ x993,rS h992 (aS h22 0) x993 /\
 (∃ x994,rI h992 (aS h5 0) x994 /\
 (∃ x995,rI h992 (aS h7 4) x995 /\
 (NB x993.a fun b996 o997=>(Ib x994 x993.n /\
 (Wp h992 ⟨b996,o997+Int.toNat x994*1,none⟩ 1 [vI x995] fun h998=>
 (∃ x999,rB h998 (aS h7 1) x999 /\
 (sB x999
 ((∃ x1000,rI h998 (aS h5 0) x1000 /\
 (∃ x1001,rI h998 (aS h7 2) x1001 /\
 (∃ x1002,rS h998 (aS h22 1) x1002 /\
 (∃ x1003,rS h998 (aS h 1) x1003 /\
 (NB x1003.a fun b1004 o1005=>((0<=((IntKind.wrap .i64 ((IntKind.wrap .i64 ((p0.n:Int)*x1000))+x1001)):Int)/\((IntKind.wrap .i64 ((IntKind.wrap .i64 ((p0.n:Int)*x1000))+x1001)):Int)<(x1003.n:Nat)) /\
 (∃ x1006,rS h998 ⟨b1004,o1005+Int.toNat (IntKind.wrap .i64 ((IntKind.wrap .i64 ((p0.n:Int)*x1000))+x1001))*1,none⟩ x1006 /\
 (∃ x1007,rI h998 (aS h7 3) x1007 /\
 ((Wn h998 [] 3 fun h1008=>
 (Sm [(aS h7 3),⟨b1004,o1005+Int.toNat (IntKind.wrap .i64 ((IntKind.wrap .i64 ((p0.n:Int)*x1000))+x1001))*1,none⟩,(aS h 1),(aS h22 1)] h998 h1008 /\
 ((App Pz 23 23 (.slice (some (aS h998 0)) 0 0) (vS x1006) h1008 fun s1009 h1010=>
 (Sm [(aS h7 3),(aS h22 1)] h1008 h1010 /\
 (Wn h1010 [vI x1007] 3 fun h1011=>
 (Sm [⟨b1004,o1005+Int.toNat (IntKind.wrap .i64 ((IntKind.wrap .i64 ((p0.n:Int)*x1000))+x1001))*1,none⟩,(aS h 1),(aS h22 1)] h1010 h1011 /\
 (App Pz 23 23 (vS s1009) (.slice (some (aS h1010 0)) 1 1) h1011 fun s1012 h1013=>
 (Sm [(aS h22 1)] h1011 h1013 /\
 (NB x1002.a fun b1014 o1015=>((0<=((IntKind.wrap .i64 ((IntKind.wrap .i64 ((p0.n:Int)*x1000))+x1001)):Int)/\((IntKind.wrap .i64 ((IntKind.wrap .i64 ((p0.n:Int)*x1000))+x1001)):Int)<(x1002.n:Nat)) /\
 (Wp h1013 ⟨b1014,o1015+Int.toNat (IntKind.wrap .i64 ((IntKind.wrap .i64 ((p0.n:Int)*x1000))+x1001))*1,none⟩ 1 [vS s1012] fun h1016=>
 (∃ (x1017 x1018:Sl),atC h1016 (aS h22 0) [vS x1017,vS x1018] /\
 (Wp h1016 (aS h6 0) 2 [vS x1017,vS x1018] fun h1019=>
 (∃ (x1020 x1021:Sl),atC h1019 (aS h6 0) [vS x1020,vS x1021] /\
 R (.agg ⟨[vS x1020,vS x1021]⟩) h1019)))))))))))))/\((Wn h1008 [vI x1007] 3 fun h1022=>
 (Sm [⟨b1004,o1005+Int.toNat (IntKind.wrap .i64 ((IntKind.wrap .i64 ((p0.n:Int)*x1000))+x1001))*1,none⟩,(aS h 1),(aS h22 1)] h1008 h1022 /\
 (App Pz 23 23 (.slice (some (aS h998 0)) 0 0) (vS x1006) h1022 fun s1023 h1024=>
 (Sm [(aS h7 3),(aS h22 1)] h1022 h1024 /\
 (App Pz 23 23 (vS s1023) (.slice (some (aS h1008 0)) 1 1) h1024 fun s1025 h1026=>
 (Sm [(aS h22 1)] h1024 h1026 /\
 (NB x1002.a fun b1027 o1028=>((0<=((IntKind.wrap .i64 ((IntKind.wrap .i64 ((p0.n:Int)*x1000))+x1001)):Int)/\((IntKind.wrap .i64 ((IntKind.wrap .i64 ((p0.n:Int)*x1000))+x1001)):Int)<(x1002.n:Nat)) /\
 (Wp h1026 ⟨b1027,o1028+Int.toNat (IntKind.wrap .i64 ((IntKind.wrap .i64 ((p0.n:Int)*x1000))+x1001))*1,none⟩ 1 [vS s1025] fun h1029=>
 (∃ (x1030 x1031:Sl),atC h1029 (aS h22 0) [vS x1030,vS x1031] /\
 (Wp h1029 (aS h6 0) 2 [vS x1030,vS x1031] fun h1032=>
 (∃ (x1033 x1034:Sl),atC h1032 (aS h6 0) [vS x1033,vS x1034] /\
 R (.agg ⟨[vS x1033,vS x1034]⟩) h1032))))))))))))))))/\((Wn h998 [vI x1007] 3 fun h1035=>
 (Sm [⟨b1004,o1005+Int.toNat (IntKind.wrap .i64 ((IntKind.wrap .i64 ((p0.n:Int)*x1000))+x1001))*1,none⟩,(aS h 1),(aS h22 1)] h998 h1035 /\
 (Wn h1035 [] 3 fun h1036=>
 (Sm [(aS h7 3),⟨b1004,o1005+Int.toNat (IntKind.wrap .i64 ((IntKind.wrap .i64 ((p0.n:Int)*x1000))+x1001))*1,none⟩,(aS h 1),(aS h22 1)] h1035 h1036 /\
 (App Pz 23 23 (.slice (some (aS h1035 0)) 0 0) (vS x1006) h1036 fun s1037 h1038=>
 (Sm [(aS h7 3),(aS h22 1)] h1036 h1038 /\
 (App Pz 23 23 (vS s1037) (.slice (some (aS h998 0)) 1 1) h1038 fun s1039 h1040=>
 (Sm [(aS h22 1)] h1038 h1040 /\
 (NB x1002.a fun b1041 o1042=>((0<=((IntKind.wrap .i64 ((IntKind.wrap .i64 ((p0.n:Int)*x1000))+x1001)):Int)/\((IntKind.wrap .i64 ((IntKind.wrap .i64 ((p0.n:Int)*x1000))+x1001)):Int)<(x1002.n:Nat)) /\
 (Wp h1040 ⟨b1041,o1042+Int.toNat (IntKind.wrap .i64 ((IntKind.wrap .i64 ((p0.n:Int)*x1000))+x1001))*1,none⟩ 1 [vS s1039] fun h1043=>
 (∃ (x1044 x1045:Sl),atC h1043 (aS h22 0) [vS x1044,vS x1045] /\
 (Wp h1043 (aS h6 0) 2 [vS x1044,vS x1045] fun h1046=>
 (∃ (x1047 x1048:Sl),atC h1046 (aS h6 0) [vS x1047,vS x1048] /\
 R (.agg ⟨[vS x1047,vS x1048]⟩) h1046))))))))))))))))))))))))
 ((∃ x1049,rI h998 (aS h7 2) x1049 /\
 (∃ x1050,rI h998 (aS h5 0) x1050 /\
 (∃ x1051,rS h998 (aS h22 1) x1051 /\
 (∃ x1052,rS h998 (aS h 1) x1052 /\
 (NB x1052.a fun b1053 o1054=>((0<=((IntKind.wrap .i64 ((IntKind.wrap .i64 ((p0.n:Int)*x1049))+x1050)):Int)/\((IntKind.wrap .i64 ((IntKind.wrap .i64 ((p0.n:Int)*x1049))+x1050)):Int)<(x1052.n:Nat)) /\
 (∃ x1055,rS h998 ⟨b1053,o1054+Int.toNat (IntKind.wrap .i64 ((IntKind.wrap .i64 ((p0.n:Int)*x1049))+x1050))*1,none⟩ x1055 /\
 (((0:Int)<=(1:Int)/\(1:Int)<=((x1055.n:Nat):Int)/\((x1055.n:Nat):Int)<=(x1055.c:Nat)) /\
 (Wn h998 [] 3 fun h1056=>
 (Sm [⟨b1053,o1054+Int.toNat (IntKind.wrap .i64 ((IntKind.wrap .i64 ((p0.n:Int)*x1049))+x1050))*1,none⟩,(aS h 1),(aS h22 1)] h998 h1056 /\
 (App Pz 23 23 (.slice (some (aS h998 0)) 0 0) (.slice (subA x1055.a (Int.toNat 1) x1055.c 1) (Int.toNat (x1055.n:Nat) - Int.toNat 1) (x1055.c - Int.toNat 1)) h1056 fun s1057 h1058=>
 (Sm [(aS h22 1)] h1056 h1058 /\
 (NB x1051.a fun b1059 o1060=>((0<=((IntKind.wrap .i64 ((IntKind.wrap .i64 ((p0.n:Int)*x1049))+x1050)):Int)/\((IntKind.wrap .i64 ((IntKind.wrap .i64 ((p0.n:Int)*x1049))+x1050)):Int)<(x1051.n:Nat)) /\
 (Wp h1058 ⟨b1059,o1060+Int.toNat (IntKind.wrap .i64 ((IntKind.wrap .i64 ((p0.n:Int)*x1049))+x1050))*1,none⟩ 1 [vS s1057] fun h1061=>
 (∃ (x1062 x1063:Sl),atC h1061 (aS h22 0) [vS x1062,vS x1063] /\
 (Wp h1061 (aS h6 0) 2 [vS x1062,vS x1063] fun h1064=>
 (∃ (x1065 x1066:Sl),atC h1064 (aS h6 0) [vS x1065,vS x1066] /\
 R (.agg ⟨[vS x1065,vS x1066]⟩) h1064)))))))))))))))))))))))))))))))))))/\((Wn h986 [] 23 fun h1067=>
 (Sm [(aS h 1),(aS h 0)] h986 h1067 /\
 (App Pz 23 23 (.slice (some (aS h985 0)) 0 0) (vS x23) h1067 fun s1068 h1069=>
 (Sm [(aS h 1)] h1067 h1069 /\
 (App Pz 24 24 (.slice (some (aS h986 0)) 0 0) (vS x24) h1069 fun s1070 h1071=>
 (Sm [(aS h 0)] h1069 h1071 /\
 (Wp h1071 (aS h22 0) 2 [vS s1068,vS s1070] fun h1072=>
 (∃ x1073,rS h1072 (aS h22 0) x1073 /\
 (∃ x1074,rI h1072 (aS h5 0) x1074 /\
 (∃ x1075,rI h1072 (aS h7 4) x1075 /\
 (NB x1073.a fun b1076 o1077=>(Ib x1074 x1073.n /\
 (Wp h1072 ⟨b1076,o1077+Int.toNat x1074*1,none⟩ 1 [vI x1075] fun h1078=>
 (∃ x1079,rB h1078 (aS h7 1) x1079 /\
 (sB x1079
 ((∃ x1080,rI h1078 (aS h5 0) x1080 /\
 (∃ x1081,rI h1078 (aS h7 2) x1081 /\
 (∃ x1082,rS h1078 (aS h22 1) x1082 /\
 (∃ x1083,rS h1078 (aS h 1) x1083 /\
 (NB x1083.a fun b1084 o1085=>((0<=((IntKind.wrap .i64 ((IntKind.wrap .i64 ((p0.n:Int)*x1080))+x1081)):Int)/\((IntKind.wrap .i64 ((IntKind.wrap .i64 ((p0.n:Int)*x1080))+x1081)):Int)<(x1083.n:Nat)) /\
 (∃ x1086,rS h1078 ⟨b1084,o1085+Int.toNat (IntKind.wrap .i64 ((IntKind.wrap .i64 ((p0.n:Int)*x1080))+x1081))*1,none⟩ x1086 /\
 (∃ x1087,rI h1078 (aS h7 3) x1087 /\
 ((Wn h1078 [] 3 fun h1088=>
 (Sm [(aS h7 3),⟨b1084,o1085+Int.toNat (IntKind.wrap .i64 ((IntKind.wrap .i64 ((p0.n:Int)*x1080))+x1081))*1,none⟩,(aS h 1),(aS h22 1)] h1078 h1088 /\
 ((App Pz 23 23 (.slice (some (aS h1078 0)) 0 0) (vS x1086) h1088 fun s1089 h1090=>
 (Sm [(aS h7 3),(aS h22 1)] h1088 h1090 /\
 (Wn h1090 [vI x1087] 3 fun h1091=>
 (Sm [⟨b1084,o1085+Int.toNat (IntKind.wrap .i64 ((IntKind.wrap .i64 ((p0.n:Int)*x1080))+x1081))*1,none⟩,(aS h 1),(aS h22 1)] h1090 h1091 /\
 (App Pz 23 23 (vS s1089) (.slice (some (aS h1090 0)) 1 1) h1091 fun s1092 h1093=>
 (Sm [(aS h22 1)] h1091 h1093 /\
 (NB x1082.a fun b1094 o1095=>((0<=((IntKind.wrap .i64 ((IntKind.wrap .i64 ((p0.n:Int)*x1080))+x1081)):Int)/\((IntKind.wrap .i64 ((IntKind.wrap .i64 ((p0.n:Int)*x1080))+x1081)):Int)<(x1082.n:Nat)) /\
 (Wp h1093 ⟨b1094,o1095+Int.toNat (IntKind.wrap .i64 ((IntKind.wrap .i64 ((p0.n:Int)*x1080))+x1081))*1,none⟩ 1 [vS s1092] fun h1096=>
 (∃ (x1097 x1098:Sl),atC h1096 (aS h22 0) [vS x1097,vS x1098] /\
 (Wp h1096 (aS h6 0) 2 [vS x1097,vS x1098] fun h1099=>
 (∃ (x1100 x1101:Sl),atC h1099 (aS h6 0) [vS x1100,vS x1101] /\
 R (.agg ⟨[vS x1100,vS x1101]⟩) h1099)))))))))))))/\((Wn h1088 [vI x1087] 3 fun h1102=>
 (Sm [⟨b1084,o1085+Int.toNat (IntKind.wrap .i64 ((IntKind.wrap .i64 ((p0.n:Int)*x1080))+x1081))*1,none⟩,(aS h 1),(aS h22 1)] h1088 h1102 /\
 (App Pz 23 23 (.slice (some (aS h1078 0)) 0 0) (vS x1086) h1102 fun s1103 h1104=>
 (Sm [(aS h7 3),(aS h22 1)] h1102 h1104 /\
 (App Pz 23 23 (vS s1103) (.slice (some (aS h1088 0)) 1 1) h1104 fun s1105 h1106=>
 (Sm [(aS h22 1)] h1104 h1106 /\
 (NB x1082.a fun b1107 o1108=>((0<=((IntKind.wrap .i64 ((IntKind.wrap .i64 ((p0.n:Int)*x1080))+x1081)):Int)/\((IntKind.wrap .i64 ((IntKind.wrap .i64 ((p0.n:Int)*x1080))+x1081)):Int)<(x1082.n:Nat)) /\
 (Wp h1106 ⟨b1107,o1108+Int.toNat (IntKind.wrap .i64 ((IntKind.wrap .i64 ((p0.n:Int)*x1080))+x1081))*1,none⟩ 1 [vS s1105] fun h1109=>
 (∃ (x1110 x1111:Sl),atC h1109 (aS h22 0) [vS x1110,vS x1111] /\
 (Wp h1109 (aS h6 0) 2 [vS x1110,vS x1111] fun h1112=>
 (∃ (x1113 x1114:Sl),atC h1112 (aS h6 0) [vS x1113,vS x1114] /\
 R (.agg ⟨[vS x1113,vS x1114]⟩) h1112))))))))))))))))/\((Wn h1078 [vI x1087] 3 fun h1115=>
 (Sm [⟨b1084,o1085+Int.toNat (IntKind.wrap .i64 ((IntKind.wrap .i64 ((p0.n:Int)*x1080))+x1081))*1,none⟩,(aS h 1),(aS h22 1)] h1078 h1115 /\
 (Wn h1115 [] 3 fun h1116=>
 (Sm [(aS h7 3),⟨b1084,o1085+Int.toNat (IntKind.wrap .i64 ((IntKind.wrap .i64 ((p0.n:Int)*x1080))+x1081))*1,none⟩,(aS h 1),(aS h22 1)] h1115 h1116 /\
 (App Pz 23 23 (.slice (some (aS h1115 0)) 0 0) (vS x1086) h1116 fun s1117 h1118=>
 (Sm [(aS h7 3),(aS h22 1)] h1116 h1118 /\
 (App Pz 23 23 (vS s1117) (.slice (some (aS h1078 0)) 1 1) h1118 fun s1119 h1120=>
 (Sm [(aS h22 1)] h1118 h1120 /\
 (NB x1082.a fun b1121 o1122=>((0<=((IntKind.wrap .i64 ((IntKind.wrap .i64 ((p0.n:Int)*x1080))+x1081)):Int)/\((IntKind.wrap .i64 ((IntKind.wrap .i64 ((p0.n:Int)*x1080))+x1081)):Int)<(x1082.n:Nat)) /\
 (Wp h1120 ⟨b1121,o1122+Int.toNat (IntKind.wrap .i64 ((IntKind.wrap .i64 ((p0.n:Int)*x1080))+x1081))*1,none⟩ 1 [vS s1119] fun h1123=>
 (∃ (x1124 x1125:Sl),atC h1123 (aS h22 0) [vS x1124,vS x1125] /\
 (Wp h1123 (aS h6 0) 2 [vS x1124,vS x1125] fun h1126=>
 (∃ (x1127 x1128:Sl),atC h1126 (aS h6 0) [vS x1127,vS x1128] /\
 R (.agg ⟨[vS x1127,vS x1128]⟩) h1126))))))))))))))))))))))))
 ((∃ x1129,rI h1078 (aS h7 2) x1129 /\
 (∃ x1130,rI h1078 (aS h5 0) x1130 /\
 (∃ x1131,rS h1078 (aS h22 1) x1131 /\
 (∃ x1132,rS h1078 (aS h 1) x1132 /\
 (NB x1132.a fun b1133 o1134=>((0<=((IntKind.wrap .i64 ((IntKind.wrap .i64 ((p0.n:Int)*x1129))+x1130)):Int)/\((IntKind.wrap .i64 ((IntKind.wrap .i64 ((p0.n:Int)*x1129))+x1130)):Int)<(x1132.n:Nat)) /\
 (∃ x1135,rS h1078 ⟨b1133,o1134+Int.toNat (IntKind.wrap .i64 ((IntKind.wrap .i64 ((p0.n:Int)*x1129))+x1130))*1,none⟩ x1135 /\
 (((0:Int)<=(1:Int)/\(1:Int)<=((x1135.n:Nat):Int)/\((x1135.n:Nat):Int)<=(x1135.c:Nat)) /\
 (Wn h1078 [] 3 fun h1136=>
 (Sm [⟨b1133,o1134+Int.toNat (IntKind.wrap .i64 ((IntKind.wrap .i64 ((p0.n:Int)*x1129))+x1130))*1,none⟩,(aS h 1),(aS h22 1)] h1078 h1136 /\
 (App Pz 23 23 (.slice (some (aS h1078 0)) 0 0) (.slice (subA x1135.a (Int.toNat 1) x1135.c 1) (Int.toNat (x1135.n:Nat) - Int.toNat 1) (x1135.c - Int.toNat 1)) h1136 fun s1137 h1138=>
 (Sm [(aS h22 1)] h1136 h1138 /\
 (NB x1131.a fun b1139 o1140=>((0<=((IntKind.wrap .i64 ((IntKind.wrap .i64 ((p0.n:Int)*x1129))+x1130)):Int)/\((IntKind.wrap .i64 ((IntKind.wrap .i64 ((p0.n:Int)*x1129))+x1130)):Int)<(x1131.n:Nat)) /\
 (Wp h1138 ⟨b1139,o1140+Int.toNat (IntKind.wrap .i64 ((IntKind.wrap .i64 ((p0.n:Int)*x1129))+x1130))*1,none⟩ 1 [vS s1137] fun h1141=>
 (∃ (x1142 x1143:Sl),atC h1141 (aS h22 0) [vS x1142,vS x1143] /\
 (Wp h1141 (aS h6 0) 2 [vS x1142,vS x1143] fun h1144=>
 (∃ (x1145 x1146:Sl),atC h1144 (aS h6 0) [vS x1145,vS x1146] /\
 R (.agg ⟨[vS x1145,vS x1146]⟩) h1144))))))))))))))))))))))))))))))))))))))/\((Wn h985 [] 23 fun h1147=>
 (Sm [(aS h 1),(aS h 0)] h985 h1147 /\
 (Wn h1147 [] 3 fun h1148=>
 (Sm [(aS h 1),(aS h 0)] h1147 h1148 /\
 (App Pz 23 23 (.slice (some (aS h1147 0)) 0 0) (vS x23) h1148 fun s1149 h1150=>
 (Sm [(aS h 1)] h1148 h1150 /\
 (App Pz 24 24 (.slice (some (aS h985 0)) 0 0) (vS x24) h1150 fun s1151 h1152=>
 (Sm [(aS h 0)] h1150 h1152 /\
 (Wp h1152 (aS h22 0) 2 [vS s1149,vS s1151] fun h1153=>
 (∃ x1154,rS h1153 (aS h22 0) x1154 /\
 (∃ x1155,rI h1153 (aS h5 0) x1155 /\
 (∃ x1156,rI h1153 (aS h7 4) x1156 /\
 (NB x1154.a fun b1157 o1158=>(Ib x1155 x1154.n /\
 (Wp h1153 ⟨b1157,o1158+Int.toNat x1155*1,none⟩ 1 [vI x1156] fun h1159=>
 (∃ x1160,rB h1159 (aS h7 1) x1160 /\
 (sB x1160
 ((∃ x1161,rI h1159 (aS h5 0) x1161 /\
 (∃ x1162,rI h1159 (aS h7 2) x1162 /\
 (∃ x1163,rS h1159 (aS h22 1) x1163 /\
 (∃ x1164,rS h1159 (aS h 1) x1164 /\
 (NB x1164.a fun b1165 o1166=>((0<=((IntKind.wrap .i64 ((IntKind.wrap .i64 ((p0.n:Int)*x1161))+x1162)):Int)/\((IntKind.wrap .i64 ((IntKind.wrap .i64 ((p0.n:Int)*x1161))+x1162)):Int)<(x1164.n:Nat)) /\
 (∃ x1167,rS h1159 ⟨b1165,o1166+Int.toNat (IntKind.wrap .i64 ((IntKind.wrap .i64 ((p0.n:Int)*x1161))+x1162))*1,none⟩ x1167 /\
 (∃ x1168,rI h1159 (aS h7 3) x1168 /\
 ((Wn h1159 [] 3 fun h1169=>
 (Sm [(aS h7 3),⟨b1165,o1166+Int.toNat (IntKind.wrap .i64 ((IntKind.wrap .i64 ((p0.n:Int)*x1161))+x1162))*1,none⟩,(aS h 1),(aS h22 1)] h1159 h1169 /\
 ((App Pz 23 23 (.slice (some (aS h1159 0)) 0 0) (vS x1167) h1169 fun s1170 h1171=>
 (Sm [(aS h7 3),(aS h22 1)] h1169 h1171 /\
 (Wn h1171 [vI x1168] 3 fun h1172=>
 (Sm [⟨b1165,o1166+Int.toNat (IntKind.wrap .i64 ((IntKind.wrap .i64 ((p0.n:Int)*x1161))+x1162))*1,none⟩,(aS h 1),(aS h22 1)] h1171 h1172 /\
 (App Pz 23 23 (vS s1170) (.slice (some (aS h1171 0)) 1 1) h1172 fun s1173 h1174=>
 (Sm [(aS h22 1)] h1172 h1174 /\
 (NB x1163.a fun b1175 o1176=>((0<=((IntKind.wrap .i64 ((IntKind.wrap .i64 ((p0.n:Int)*x1161))+x1162)):Int)/\((IntKind.wrap .i64 ((IntKind.wrap .i64 ((p0.n:Int)*x1161))+x1162)):Int)<(x1163.n:Nat)) /\
 (Wp h1174 ⟨b1175,o1176+Int.toNat (IntKind.wrap .i64 ((IntKind.wrap .i64 ((p0.n:Int)*x1161))+x1162))*1,none⟩ 1 [vS s1173] fun h1177=>
 (∃ (x1178 x1179:Sl),atC h1177 (aS h22 0) [vS x1178,vS x1179] /\
 (Wp h1177 (aS h6 0) 2 [vS x1178,vS x1179] fun h1180=>
 (∃ (x1181 x1182:Sl),atC h1180 (aS h6 0) [vS x1181,vS x1182] /\
 R (.agg ⟨[vS x1181,vS x1182]⟩) h1180)))))))))))))/\((Wn h1169 [vI x1168] 3 fun h1183=>
 (Sm [⟨b1165,o1166+Int.toNat (IntKind.wrap .i64 ((IntKind.wrap .i64 ((p0.n:Int)*x1161))+x1162))*1,none⟩,(aS h 1),(aS h22 1)] h1169 h1183 /\
 (App Pz 23 23 (.slice (some (aS h1159 0)) 0 0) (vS x1167) h1183 fun s1184 h1185=>
 (Sm [(aS h7 3),(aS h22 1)] h1183 h1185 /\
 (App Pz 23 23 (vS s1184) (.slice (some (aS h1169 0)) 1 1) h1185 fun s1186 h1187=>
 (Sm [(aS h22 1)] h1185 h1187 /\
 (NB x1163.a fun b1188 o1189=>((0<=((IntKind.wrap .i64 ((IntKind.wrap .i64 ((p0.n:Int)*x1161))+x1162)):Int)/\((IntKind.wrap .i64 ((IntKind.wrap .i64 ((p0.n:Int)*x1161))+x1162)):Int)<(x1163.n:Nat)) /\
 (Wp h1187 ⟨b1188,o1189+Int.toNat (IntKind.wrap .i64 ((IntKind.wrap .i64 ((p0.n:Int)*x1161))+x1162))*1,none⟩ 1 [vS s1186] fun h1190=>
 (∃ (x1191 x1192:Sl),atC h1190 (aS h22 0) [vS x1191,vS x1192] /\
 (Wp h1190 (aS h6 0) 2 [vS x1191,vS x1192] fun h1193=>
 (∃ (x1194 x1195:Sl),atC h1193 (aS h6 0) [vS x1194,vS x1195] /\
 R (.agg ⟨[vS x1194,vS x1195]⟩) h1193))))))))))))))))/\((Wn h1159 [vI x1168] 3 fun h1196=>
 (Sm [⟨b1165,o1166+Int.toNat (IntKind.wrap .i64 ((IntKind.wrap .i64 ((p0.n:Int)*x1161))+x1162))*1,none⟩,(aS h 1),(aS h22 1)] h1159 h1196 /\
 (Wn h1196 [] 3 fun h1197=>
 (Sm [(aS h7 3),⟨b1165,o1166+Int.toNat (IntKind.wrap .i64 ((IntKind.wrap .i64 ((p0.n:Int)*x1161))+x1162))*1,none⟩,(aS h 1),(aS h22 1)] h1196 h1197 /\
 (App Pz 23 23 (.slice (some (aS h1196 0)) 0 0) (vS x1167) h1197 fun s1198 h1199=>
 (Sm [(aS h7 3),(aS h22 1)] h1197 h1199 /\
 (App Pz 23 23 (vS s1198) (.slice (some (aS h1159 0)) 1 1) h1199 fun s1200 h1201=>
 (Sm [(aS h22 1)] h1199 h1201 /\
 (NB x1163.a fun b1202 o1203=>((0<=((IntKind.wrap .i64 ((IntKind.wrap .i64 ((p0.n:Int)*x1161))+x1162)):Int)/\((IntKind.wrap .i64 ((IntKind.wrap .i64 ((p0.n:Int)*x1161))+x1162)):Int)<(x1163.n:Nat)) /\
 (Wp h1201 ⟨b1202,o1203+Int.toNat (IntKind.wrap .i64 ((IntKind.wrap .i64 ((p0.n:Int)*x1161))+x1162))*1,none⟩ 1 [vS s1200] fun h1204=>
 (∃ (x1205 x1206:Sl),atC h1204 (aS h22 0) [vS x1205,vS x1206] /\
 (Wp h1204 (aS h6 0) 2 [vS x1205,vS x1206] fun h1207=>
 (∃ (x1208 x1209:Sl),atC h1207 (aS h6 0) [vS x1208,vS x1209] /\
 R (.agg ⟨[vS x1208,vS x1209]⟩) h1207))))))))))))))))))))))))
 ((∃ x1210,rI h1159 (aS h7 2) x1210 /\
 (∃ x1211,rI h1159 (aS h5 0) x1211 /\
 (∃ x1212,rS h1159 (aS h22 1) x1212 /\
 (∃ x1213,rS h1159 (aS h 1) x1213 /\
 (NB x1213.a fun b1214 o1215=>((0<=((IntKind.wrap .i64 ((IntKind.wrap .i64 ((p0.n:Int)*x1210))+x1211)):Int)/\((IntKind.wrap .i64 ((IntKind.wrap .i64 ((p0.n:Int)*x1210))+x1211)):Int)<(x1213.n:Nat)) /\
 (∃ x1216,rS h1159 ⟨b1214,o1215+Int.toNat (IntKind.wrap .i64 ((IntKind.wrap .i64 ((p0.n:Int)*x1210))+x1211))*1,none⟩ x1216 /\
 (((0:Int)<=(1:Int)/\(1:Int)<=((x1216.n:Nat):Int)/\((x1216.n:Nat):Int)<=(x1216.c:Nat)) /\
 (Wn h1159 [] 3 fun h1217=>
 (Sm [⟨b1214,o1215+Int.toNat (IntKind.wrap .i64 ((IntKind.wrap .i64 ((p0.n:Int)*x1210))+x1211))*1,none⟩,(aS h 1),(aS h22 1)] h1159 h1217 /\
 (App Pz 23 23 (.slice (some (aS h1159 0)) 0 0) (.slice (subA x1216.a (Int.toNat 1) x1216.c 1) (Int.toNat (x1216.n:Nat) - Int.toNat 1) (x1216.c - Int.toNat 1)) h1217 fun s1218 h1219=>
 (Sm [(aS h22 1)] h1217 h1219 /\
 (NB x1212.a fun b1220 o1221=>((0<=((IntKind.wrap .i64 ((IntKind.wrap .i64 ((p0.n:Int)*x1210))+x1211)):Int)/\((IntKind.wrap .i64 ((IntKind.wrap .i64 ((p0.n:Int)*x1210))+x1211)):Int)<(x1212.n:Nat)) /\
 (Wp h1219 ⟨b1220,o1221+Int.toNat (IntKind.wrap .i64 ((IntKind.wrap .i64 ((p0.n:Int)*x1210))+x1211))*1,none⟩ 1 [vS s1218] fun h1222=>
 (∃ (x1223 x1224:Sl),atC h1222 (aS h22 0) [vS x1223,vS x1224] /\
 (Wp h1222 (aS h6 0) 2 [vS x1223,vS x1224] fun h1225=>
 (∃ (x1226 x1227:Sl),atC h1225 (aS h6 0) [vS x1226,vS x1227] /\
 R (.agg ⟨[vS x1226,vS x1227]⟩) h1225))))))))))))))))))))))))))))))))))))))))))))))))))))))))
theorem vc56 (p0 p1_1 p1_2:Sl) (p2_3 p2_4:Int) (h:Heap) (R:Value->Heap->Prop) (H:W56 p0 p1_1 p1_2 p2_3 p2_4 h R):Fn Pz 56 #[vS p0,.agg ⟨[vS p1_1,vS p1_2]⟩,.agg ⟨[vI p2_3,vI p2_4]⟩] h R:=fnI (A:=.z) (by kernel_rfl) H

end Go.VC
end

section
/- Contract: the reference's Next (printed by mkwjv.py). -/
namespace Go.VC
open Go.Proofs Go.LexS
theorem app24:appB Pz 24 23 1 24=true:=by kernel_rfl
theorem St.pick {h0 h:Heap} {L:List It} (hs:St h0 h L) (k:Nat) {i:It} (hk:L[k]?=some i):St h0 h (i::L.eraseIdx k):=by
 obtain ⟨hl,e⟩:=Ya.1 hk
 refine hs.perm ?_
 rw [List.eraseIdx_eq_take_drop_succ,<- e]
 have e2:L=L.take k++L[k]::L.drop (k+1):=by rw [List.getElem_cons_drop,List.take_append_drop]
 conv=>lhs; rw [e2]
 exact List.perm_middle
set_option maxHeartbeats 6400000 in
theorem next56 (L:List MR) (n:Nat) (s ss sb:Sl) (S:List Int) (B:List Bx) (p i:Nat) (y:MR) (x:Mv) (q:Bx) (l:List Int) (h:Heap) (hS:SyI h s L) (hC:CfI h ss sb S B) (hn:L.length=n) (h6:n<=6) (gy:L[p]?=some y) (gx:y.m.mv[i]?=some x) (hx0:0<=x.peer) (hx1:x.peer<(n:Int)) (hSl:S.length=n) (hBl:B.length=n*n)
  (gq:B[bxI n p x]?=some q) (hq:q.l.length<=4) (hl:l=if x.send=true then q.l++[x.label] else q.l.tail) (hr:x.send=false->1<=q.l.length) :
  Fn Pz 56 #[.slice s.a s.n s.c,.agg ⟨[.slice ss.a ss.n ss.c,.slice sb.a sb.n sb.c]⟩,.agg ⟨[.int .i64 (p:Int),.int .i64 (i:Int)]⟩] h (NexV S B p (bxI n p x) x l h):=by
 apply vc56 s ss sb (p:Int) (i:Int); unfold W56
 have hsn:=hS.r.ln
 have hp:p<L.length:=(Ya.1 gy).1
 have hi:i<y.m.mv.length:=(Ya.1 gx).1
 have hyi:=hS.i y (Yb gy)
 have hgn:=hyi.pm.ln
 have h36:=sq6 h6
 have hssn:=hC.s.ln
 have hsbn:=hC.b.ln
 refine (St.refl h).newb fun h5 hs=>?_
 refine hs.newb fun h6' hs=>?_
 refine hs.newb fun h7 hs=>?_
 refine ⟨(p:Int),hs.rd 1 rfl (i:=0) rfl,?_⟩
 refine (hS.r.rw.ext hs.ext).nbI (by omega) (by omega) fun b o y' gy' t=>?_
 rw [Ys,gy] at gy'; cases gy'
 refine ⟨y.g,t.nth 4 rfl,(i:Int),hs.rd 1 rfl (i:=1) rfl,?_⟩
 refine (hyi.pm.rw.ext hs.ext).nbI (by omega) (by omega) fun b3 o3 x' gx' t3=>?_
 rw [Ys,gx] at gx'; cases gx'
 refine ⟨x.f,x.send,x.peer,x.label,x.t,x.ag,t3,?_⟩
 refine hs.newbE fun h21 E21 hs=>⟨E21.sm,?_⟩
 refine hs.put 0 rfl (o:=0) (vs:=x.cs) rfl (show 6<=6 by decide) fun h22 hs=>?_
 refine ⟨ss,hs.rd 3 rfl (i:=0) rfl,sb,hs.rd 3 rfl (i:=1) rfl,?_⟩
 have leaf:∀ {ob:Nat} {ts tb:Sl} {h0:Heap},St h h0 [.blk ob [.slice ts.a ts.n ts.c,.slice tb.a tb.n tb.c] 26,.sl ts 3 1 (S.map inC),.sl tb 23 1 (B.map Bx.cs),.blk h7.size x.cs 108,.blk h6'.size [.slice none 0 0,.slice none 0 0] 26,.blk h5.size [.int .i64 (p:Int),.int .i64 (i:Int)] 60,.blk h.size [.slice ss.a ss.n ss.c,.slice sb.a sb.n sb.c] 26]->tailN s ob h.size h5.size h6'.size h7.size h0 (NexV S B p (bxI n p x) x l h):=fun {ob ts tb h0} hs=>
  tailN_ok n s ss sb ts tb ⟨none,0,0⟩ ⟨none,0,0⟩ S B p (i:Int) x q l ob h.size h5.size h6'.size h7.size h h0 hC (by omega) h6 (by omega) hx0 hx1 hSl hBl gq hq hl hr hs
 refine And.intro ?_ (And.intro ?_ ?_)
 ·
  refine hs.newbE fun g1 E2 hs=>⟨E2.sm,?_⟩
  have hs:=hs.blkS 0 1 [] rfl (fun r hr=>by cases hr) rfl (Nat.zero_le _)
  refine And.intro ?_ (And.intro ?_ ?_)
  ·
   have hs5:=hs
   refine hs.appRw 0 (s:=⟨some ⟨h22.size,0,none⟩,0,0⟩) (rows:=[]) (y:=ss) rfl app42 (hC.s.rw.ext hs.ext) (inrows' S) hC.s.nil (flat_oneB (fun _=>rfl) _) (by show (0+ss.n)*8<=_; omega) (by show 0+ss.n<=_; simp only [maxLen]; omega) fun s4 g3 ne6 hs=>?_
   refine ⟨hs5.smbO hs 4 4 1 rfl rfl,?_⟩
   refine And.intro ?_ ?_
   ·
    refine hs.newbE fun g7 E8 hs=>⟨E8.sm,?_⟩
    have hs:=hs.blkS 0 1 [] rfl (fun r hr=>by cases hr) rfl (Nat.zero_le _)
    refine And.intro ?_ ?_
    ·
     have hs11:=hs
     refine hs.appRw 0 (s:=⟨some ⟨g3.size,0,none⟩,0,0⟩) (rows:=[]) (y:=sb) rfl app24 (hC.b.rw.ext hs.ext) (bxrows B) hC.b.nil (flat_oneB (fun _=>rfl) _) (by show (0+sb.n)*24<=_; omega) (by show 0+sb.n<=_; simp only [maxLen]; omega) fun s10 g9 ne12 hs=>?_
     refine ⟨hs11.smbO hs 5 5 0 rfl rfl,?_⟩
     refine hs.newbE fun g13 E14 hs=>⟨E14.sm,?_⟩
     refine hs.put 0 rfl (o:=0) (vs:=[.slice s4.a s4.n s4.c,.slice s10.a s10.n s10.c]) rfl (show 2<=2 by decide) fun g15 hs=>?_
     exact leaf (((hs.pick 1 rfl).pick 2 rfl).pick 2 rfl)
    ·
     refine hs.newbE fun g16 E17 hs=>⟨E17.sm,?_⟩
     have hs20:=hs
     refine hs.appRw 1 (s:=⟨some ⟨g3.size,0,none⟩,0,0⟩) (rows:=[]) (y:=sb) rfl app24 (hC.b.rw.ext hs.ext) (bxrows B) hC.b.nil (flat_oneB (fun _=>rfl) _) (by show (0+sb.n)*24<=_; omega) (by show 0+sb.n<=_; simp only [maxLen]; omega) fun s19 g18 ne21 hs=>?_
     refine ⟨hs20.smbO hs 6 6 0 rfl rfl,?_⟩
     refine hs.put 0 rfl (o:=0) (vs:=[.slice s4.a s4.n s4.c,.slice s19.a s19.n s19.c]) rfl (show 2<=2 by decide) fun g22 hs=>?_
     exact leaf (((hs.pick 1 rfl).pick 2 rfl).pick 2 rfl)
   ·
    refine hs.newbE fun g23 E24 hs=>⟨E24.sm,?_⟩
    refine hs.newbE fun g25 E26 hs=>⟨E26.sm,?_⟩
    have hs:=hs.blkS 0 1 [] rfl (fun r hr=>by cases hr) rfl (Nat.zero_le _)
    have hs29:=hs
    refine hs.appRw 0 (s:=⟨some ⟨g23.size,0,none⟩,0,0⟩) (rows:=[]) (y:=sb) rfl app24 (hC.b.rw.ext hs.ext) (bxrows B) hC.b.nil (flat_oneB (fun _=>rfl) _) (by show (0+sb.n)*24<=_; omega) (by show 0+sb.n<=_; simp only [maxLen]; omega) fun s28 g27 ne30 hs=>?_
    refine ⟨hs29.smbO hs 6 6 0 rfl rfl,?_⟩
    refine hs.put 1 rfl (o:=0) (vs:=[.slice s4.a s4.n s4.c,.slice s28.a s28.n s28.c]) rfl (show 2<=2 by decide) fun g31 hs=>?_
    exact leaf (((hs.pick 0 rfl).pick 2 rfl).pick 2 rfl)
  ·
   refine hs.newbE fun g32 E33 hs=>⟨E33.sm,?_⟩
   have hs:=hs.blkS 0 1 [] rfl (fun r hr=>by cases hr) rfl (Nat.zero_le _)
   refine And.intro ?_ ?_
   ·
    have hs36:=hs
    refine hs.appRw 1 (s:=⟨some ⟨h22.size,0,none⟩,0,0⟩) (rows:=[]) (y:=ss) rfl app42 (hC.s.rw.ext hs.ext) (inrows' S) hC.s.nil (flat_oneB (fun _=>rfl) _) (by show (0+ss.n)*8<=_; omega) (by show 0+ss.n<=_; simp only [maxLen]; omega) fun s35 g34 ne37 hs=>?_
    refine ⟨hs36.smbO hs 5 5 1 rfl rfl,?_⟩
    refine And.intro ?_ ?_
    ·
     have hs40:=hs
     refine hs.appRw 0 (s:=⟨some ⟨g1.size,0,none⟩,0,0⟩) (rows:=[]) (y:=sb) rfl app24 (hC.b.rw.ext hs.ext) (bxrows B) hC.b.nil (flat_oneB (fun _=>rfl) _) (by show (0+sb.n)*24<=_; omega) (by show 0+sb.n<=_; simp only [maxLen]; omega) fun s39 g38 ne41 hs=>?_
     refine ⟨hs40.smbO hs 5 5 0 rfl rfl,?_⟩
     refine hs.newbE fun g42 E43 hs=>⟨E43.sm,?_⟩
     refine hs.put 0 rfl (o:=0) (vs:=[.slice s35.a s35.n s35.c,.slice s39.a s39.n s39.c]) rfl (show 2<=2 by decide) fun g44 hs=>?_
     exact leaf (((hs.pick 1 rfl).pick 2 rfl).pick 2 rfl)
    ·
     refine hs.newbE fun g45 E46 hs=>⟨E46.sm,?_⟩
     have hs49:=hs
     refine hs.appRw 1 (s:=⟨some ⟨g1.size,0,none⟩,0,0⟩) (rows:=[]) (y:=sb) rfl app24 (hC.b.rw.ext hs.ext) (bxrows B) hC.b.nil (flat_oneB (fun _=>rfl) _) (by show (0+sb.n)*24<=_; omega) (by show 0+sb.n<=_; simp only [maxLen]; omega) fun s48 g47 ne50 hs=>?_
     refine ⟨hs49.smbO hs 6 6 0 rfl rfl,?_⟩
     refine hs.put 0 rfl (o:=0) (vs:=[.slice s35.a s35.n s35.c,.slice s48.a s48.n s48.c]) rfl (show 2<=2 by decide) fun g51 hs=>?_
     exact leaf (((hs.pick 1 rfl).pick 2 rfl).pick 2 rfl)
   ·
    refine hs.newbE fun g52 E53 hs=>⟨E53.sm,?_⟩
    have hs56:=hs
    refine hs.appRw 2 (s:=⟨some ⟨h22.size,0,none⟩,0,0⟩) (rows:=[]) (y:=ss) rfl app42 (hC.s.rw.ext hs.ext) (inrows' S) hC.s.nil (flat_oneB (fun _=>rfl) _) (by show (0+ss.n)*8<=_; omega) (by show 0+ss.n<=_; simp only [maxLen]; omega) fun s55 g54 ne57 hs=>?_
    refine ⟨hs56.smbO hs 6 6 1 rfl rfl,?_⟩
    have hs60:=hs
    refine hs.appRw 1 (s:=⟨some ⟨g1.size,0,none⟩,0,0⟩) (rows:=[]) (y:=sb) rfl app24 (hC.b.rw.ext hs.ext) (bxrows B) hC.b.nil (flat_oneB (fun _=>rfl) _) (by show (0+sb.n)*24<=_; omega) (by show 0+sb.n<=_; simp only [maxLen]; omega) fun s59 g58 ne61 hs=>?_
    refine ⟨hs60.smbO hs 6 6 0 rfl rfl,?_⟩
    refine hs.put 0 rfl (o:=0) (vs:=[.slice s55.a s55.n s55.c,.slice s59.a s59.n s59.c]) rfl (show 2<=2 by decide) fun g62 hs=>?_
    exact leaf (((hs.pick 1 rfl).pick 2 rfl).pick 2 rfl)
  ·
   refine hs.newbE fun g63 E64 hs=>⟨E64.sm,?_⟩
   refine And.intro ?_ ?_
   ·
    have hs67:=hs
    refine hs.appRw 1 (s:=⟨some ⟨h22.size,0,none⟩,0,0⟩) (rows:=[]) (y:=ss) rfl app42 (hC.s.rw.ext hs.ext) (inrows' S) hC.s.nil (flat_oneB (fun _=>rfl) _) (by show (0+ss.n)*8<=_; omega) (by show 0+ss.n<=_; simp only [maxLen]; omega) fun s66 g65 ne68 hs=>?_
    refine ⟨hs67.smbO hs 5 5 1 rfl rfl,?_⟩
    refine hs.newbE fun g69 E70 hs=>⟨E70.sm,?_⟩
    have hs:=hs.blkS 0 1 [] rfl (fun r hr=>by cases hr) rfl (Nat.zero_le _)
    have hs73:=hs
    refine hs.appRw 0 (s:=⟨some ⟨g65.size,0,none⟩,0,0⟩) (rows:=[]) (y:=sb) rfl app24 (hC.b.rw.ext hs.ext) (bxrows B) hC.b.nil (flat_oneB (fun _=>rfl) _) (by show (0+sb.n)*24<=_; omega) (by show 0+sb.n<=_; simp only [maxLen]; omega) fun s72 g71 ne74 hs=>?_
    refine ⟨hs73.smbO hs 6 6 0 rfl rfl,?_⟩
    refine hs.put 1 rfl (o:=0) (vs:=[.slice s66.a s66.n s66.c,.slice s72.a s72.n s72.c]) rfl (show 2<=2 by decide) fun g75 hs=>?_
    exact leaf (((hs.pick 0 rfl).pick 2 rfl).pick 2 rfl)
   ·
    refine hs.newbE fun g76 E77 hs=>⟨E77.sm,?_⟩
    have hs:=hs.blkS 0 1 [] rfl (fun r hr=>by cases hr) rfl (Nat.zero_le _)
    have hs80:=hs
    refine hs.appRw 2 (s:=⟨some ⟨h22.size,0,none⟩,0,0⟩) (rows:=[]) (y:=ss) rfl app42 (hC.s.rw.ext hs.ext) (inrows' S) hC.s.nil (flat_oneB (fun _=>rfl) _) (by show (0+ss.n)*8<=_; omega) (by show 0+ss.n<=_; simp only [maxLen]; omega) fun s79 g78 ne81 hs=>?_
    refine ⟨hs80.smbO hs 6 6 1 rfl rfl,?_⟩
    have hs84:=hs
    refine hs.appRw 0 (s:=⟨some ⟨g63.size,0,none⟩,0,0⟩) (rows:=[]) (y:=sb) rfl app24 (hC.b.rw.ext hs.ext) (bxrows B) hC.b.nil (flat_oneB (fun _=>rfl) _) (by show (0+sb.n)*24<=_; omega) (by show 0+sb.n<=_; simp only [maxLen]; omega) fun s83 g82 ne85 hs=>?_
    refine ⟨hs84.smbO hs 6 6 0 rfl rfl,?_⟩
    refine hs.put 1 rfl (o:=0) (vs:=[.slice s79.a s79.n s79.c,.slice s83.a s83.n s83.c]) rfl (show 2<=2 by decide) fun g86 hs=>?_
    exact leaf (((hs.pick 0 rfl).pick 2 rfl).pick 2 rfl)
 ·
  refine hs.newbE fun g87 E88 hs=>⟨E88.sm,?_⟩
  have hs:=hs.blkS 0 1 [] rfl (fun r hr=>by cases hr) rfl (Nat.zero_le _)
  refine And.intro ?_ ?_
  ·
   refine hs.newbE fun g89 E90 hs=>⟨E90.sm,?_⟩
   have hs:=hs.blkS 0 1 [] rfl (fun r hr=>by cases hr) rfl (Nat.zero_le _)
   refine And.intro ?_ ?_
   ·
    have hs93:=hs
    refine hs.appRw 0 (s:=⟨some ⟨g87.size,0,none⟩,0,0⟩) (rows:=[]) (y:=ss) rfl app42 (hC.s.rw.ext hs.ext) (inrows' S) hC.s.nil (flat_oneB (fun _=>rfl) _) (by show (0+ss.n)*8<=_; omega) (by show 0+ss.n<=_; simp only [maxLen]; omega) fun s92 g91 ne94 hs=>?_
    refine ⟨hs93.smbO hs 5 5 1 rfl rfl,?_⟩
    refine And.intro ?_ ?_
    ·
     have hs97:=hs
     refine hs.appRw 1 (s:=⟨some ⟨h22.size,0,none⟩,0,0⟩) (rows:=[]) (y:=sb) rfl app24 (hC.b.rw.ext hs.ext) (bxrows B) hC.b.nil (flat_oneB (fun _=>rfl) _) (by show (0+sb.n)*24<=_; omega) (by show 0+sb.n<=_; simp only [maxLen]; omega) fun s96 g95 ne98 hs=>?_
     refine ⟨hs97.smbO hs 5 5 0 rfl rfl,?_⟩
     refine hs.newbE fun g99 E100 hs=>⟨E100.sm,?_⟩
     refine hs.put 0 rfl (o:=0) (vs:=[.slice s92.a s92.n s92.c,.slice s96.a s96.n s96.c]) rfl (show 2<=2 by decide) fun g101 hs=>?_
     exact leaf (((hs.pick 2 rfl).pick 2 rfl).pick 2 rfl)
    ·
     refine hs.newbE fun g102 E103 hs=>⟨E103.sm,?_⟩
     have hs106:=hs
     refine hs.appRw 2 (s:=⟨some ⟨h22.size,0,none⟩,0,0⟩) (rows:=[]) (y:=sb) rfl app24 (hC.b.rw.ext hs.ext) (bxrows B) hC.b.nil (flat_oneB (fun _=>rfl) _) (by show (0+sb.n)*24<=_; omega) (by show 0+sb.n<=_; simp only [maxLen]; omega) fun s105 g104 ne107 hs=>?_
     refine ⟨hs106.smbO hs 6 6 0 rfl rfl,?_⟩
     refine hs.put 0 rfl (o:=0) (vs:=[.slice s92.a s92.n s92.c,.slice s105.a s105.n s105.c]) rfl (show 2<=2 by decide) fun g108 hs=>?_
     exact leaf (((hs.pick 2 rfl).pick 2 rfl).pick 2 rfl)
   ·
    refine hs.newbE fun g109 E110 hs=>⟨E110.sm,?_⟩
    have hs113:=hs
    refine hs.appRw 1 (s:=⟨some ⟨g87.size,0,none⟩,0,0⟩) (rows:=[]) (y:=ss) rfl app42 (hC.s.rw.ext hs.ext) (inrows' S) hC.s.nil (flat_oneB (fun _=>rfl) _) (by show (0+ss.n)*8<=_; omega) (by show 0+ss.n<=_; simp only [maxLen]; omega) fun s112 g111 ne114 hs=>?_
    refine ⟨hs113.smbO hs 6 6 1 rfl rfl,?_⟩
    have hs117:=hs
    refine hs.appRw 2 (s:=⟨some ⟨h22.size,0,none⟩,0,0⟩) (rows:=[]) (y:=sb) rfl app24 (hC.b.rw.ext hs.ext) (bxrows B) hC.b.nil (flat_oneB (fun _=>rfl) _) (by show (0+sb.n)*24<=_; omega) (by show 0+sb.n<=_; simp only [maxLen]; omega) fun s116 g115 ne118 hs=>?_
    refine ⟨hs117.smbO hs 6 6 0 rfl rfl,?_⟩
    refine hs.put 0 rfl (o:=0) (vs:=[.slice s112.a s112.n s112.c,.slice s116.a s116.n s116.c]) rfl (show 2<=2 by decide) fun g119 hs=>?_
    exact leaf (((hs.pick 2 rfl).pick 2 rfl).pick 2 rfl)
  ·
   refine hs.newbE fun g120 E121 hs=>⟨E121.sm,?_⟩
   refine hs.newbE fun g122 E123 hs=>⟨E123.sm,?_⟩
   have hs:=hs.blkS 0 1 [] rfl (fun r hr=>by cases hr) rfl (Nat.zero_le _)
   have hs126:=hs
   refine hs.appRw 0 (s:=⟨some ⟨g120.size,0,none⟩,0,0⟩) (rows:=[]) (y:=ss) rfl app42 (hC.s.rw.ext hs.ext) (inrows' S) hC.s.nil (flat_oneB (fun _=>rfl) _) (by show (0+ss.n)*8<=_; omega) (by show 0+ss.n<=_; simp only [maxLen]; omega) fun s125 g124 ne127 hs=>?_
   refine ⟨hs126.smbO hs 6 6 1 rfl rfl,?_⟩
   have hs130:=hs
   refine hs.appRw 2 (s:=⟨some ⟨h22.size,0,none⟩,0,0⟩) (rows:=[]) (y:=sb) rfl app24 (hC.b.rw.ext hs.ext) (bxrows B) hC.b.nil (flat_oneB (fun _=>rfl) _) (by show (0+sb.n)*24<=_; omega) (by show 0+sb.n<=_; simp only [maxLen]; omega) fun s129 g128 ne131 hs=>?_
   refine ⟨hs130.smbO hs 6 6 0 rfl rfl,?_⟩
   refine hs.put 1 rfl (o:=0) (vs:=[.slice s125.a s125.n s125.c,.slice s129.a s129.n s129.c]) rfl (show 2<=2 by decide) fun g132 hs=>?_
   exact leaf (((hs.pick 2 rfl).pick 1 rfl).pick 2 rfl)
 ·
  refine hs.newbE fun g133 E134 hs=>⟨E134.sm,?_⟩
  refine And.intro ?_ ?_
  ·
   refine hs.newbE fun g135 E136 hs=>⟨E136.sm,?_⟩
   have hs:=hs.blkS 0 1 [] rfl (fun r hr=>by cases hr) rfl (Nat.zero_le _)
   refine And.intro ?_ ?_
   ·
    have hs139:=hs
    refine hs.appRw 0 (s:=⟨some ⟨g133.size,0,none⟩,0,0⟩) (rows:=[]) (y:=ss) rfl app42 (hC.s.rw.ext hs.ext) (inrows' S) hC.s.nil (flat_oneB (fun _=>rfl) _) (by show (0+ss.n)*8<=_; omega) (by show 0+ss.n<=_; simp only [maxLen]; omega) fun s138 g137 ne140 hs=>?_
    refine ⟨hs139.smbO hs 5 5 1 rfl rfl,?_⟩
    refine hs.newbE fun g141 E142 hs=>⟨E142.sm,?_⟩
    have hs:=hs.blkS 0 1 [] rfl (fun r hr=>by cases hr) rfl (Nat.zero_le _)
    have hs145:=hs
    refine hs.appRw 0 (s:=⟨some ⟨g137.size,0,none⟩,0,0⟩) (rows:=[]) (y:=sb) rfl app24 (hC.b.rw.ext hs.ext) (bxrows B) hC.b.nil (flat_oneB (fun _=>rfl) _) (by show (0+sb.n)*24<=_; omega) (by show 0+sb.n<=_; simp only [maxLen]; omega) fun s144 g143 ne146 hs=>?_
    refine ⟨hs145.smbO hs 6 6 0 rfl rfl,?_⟩
    refine hs.put 2 rfl (o:=0) (vs:=[.slice s138.a s138.n s138.c,.slice s144.a s144.n s144.c]) rfl (show 2<=2 by decide) fun g147 hs=>?_
    exact leaf (((hs.pick 0 rfl).pick 1 rfl).pick 2 rfl)
   ·
    refine hs.newbE fun g148 E149 hs=>⟨E149.sm,?_⟩
    have hs:=hs.blkS 0 1 [] rfl (fun r hr=>by cases hr) rfl (Nat.zero_le _)
    have hs152:=hs
    refine hs.appRw 1 (s:=⟨some ⟨g133.size,0,none⟩,0,0⟩) (rows:=[]) (y:=ss) rfl app42 (hC.s.rw.ext hs.ext) (inrows' S) hC.s.nil (flat_oneB (fun _=>rfl) _) (by show (0+ss.n)*8<=_; omega) (by show 0+ss.n<=_; simp only [maxLen]; omega) fun s151 g150 ne153 hs=>?_
    refine ⟨hs152.smbO hs 6 6 1 rfl rfl,?_⟩
    have hs156:=hs
    refine hs.appRw 0 (s:=⟨some ⟨g135.size,0,none⟩,0,0⟩) (rows:=[]) (y:=sb) rfl app24 (hC.b.rw.ext hs.ext) (bxrows B) hC.b.nil (flat_oneB (fun _=>rfl) _) (by show (0+sb.n)*24<=_; omega) (by show 0+sb.n<=_; simp only [maxLen]; omega) fun s155 g154 ne157 hs=>?_
    refine ⟨hs156.smbO hs 6 6 0 rfl rfl,?_⟩
    refine hs.put 2 rfl (o:=0) (vs:=[.slice s151.a s151.n s151.c,.slice s155.a s155.n s155.c]) rfl (show 2<=2 by decide) fun g158 hs=>?_
    exact leaf (((hs.pick 0 rfl).pick 1 rfl).pick 2 rfl)
  ·
   refine hs.newbE fun g159 E160 hs=>⟨E160.sm,?_⟩
   have hs:=hs.blkS 0 1 [] rfl (fun r hr=>by cases hr) rfl (Nat.zero_le _)
   refine hs.newbE fun g161 E162 hs=>⟨E162.sm,?_⟩
   have hs:=hs.blkS 0 1 [] rfl (fun r hr=>by cases hr) rfl (Nat.zero_le _)
   have hs165:=hs
   refine hs.appRw 0 (s:=⟨some ⟨g159.size,0,none⟩,0,0⟩) (rows:=[]) (y:=ss) rfl app42 (hC.s.rw.ext hs.ext) (inrows' S) hC.s.nil (flat_oneB (fun _=>rfl) _) (by show (0+ss.n)*8<=_; omega) (by show 0+ss.n<=_; simp only [maxLen]; omega) fun s164 g163 ne166 hs=>?_
   refine ⟨hs165.smbO hs 6 6 1 rfl rfl,?_⟩
   have hs169:=hs
   refine hs.appRw 1 (s:=⟨some ⟨g133.size,0,none⟩,0,0⟩) (rows:=[]) (y:=sb) rfl app24 (hC.b.rw.ext hs.ext) (bxrows B) hC.b.nil (flat_oneB (fun _=>rfl) _) (by show (0+sb.n)*24<=_; omega) (by show 0+sb.n<=_; simp only [maxLen]; omega) fun s168 g167 ne170 hs=>?_
   refine ⟨hs169.smbO hs 6 6 0 rfl rfl,?_⟩
   refine hs.put 2 rfl (o:=0) (vs:=[.slice s164.a s164.n s164.c,.slice s168.a s168.n s168.c]) rfl (show 2<=2 by decide) fun g171 hs=>?_
   exact leaf (((hs.pick 1 rfl).pick 1 rfl).pick 2 rfl)
end Go.VC
end

section
namespace Go.VC
open Go.Proofs

end Go.VC
end

section
/- Contract: the reference's Do. (Numbers of layer 27's development dump.) -/
namespace Go.VC
open Go.Proofs Go.LexS
end Go.VC
end

section
namespace Go.VC
open Go.Proofs

end Go.VC
end

section
/- The law ComposeDo (printed by mkwjx.py). -/
namespace Go.VC
open Go.Proofs Go.LexS
end Go.VC
end

section
/- Plain: a possible step leads from a proper configuration to a proper one. (Numbers of layer 27's development dump.) -/
namespace Go.VC
open Go.Proofs Go.LexS
theorem divmod_two {n a b:Nat} (hb:b<n):(n*a+b) / n=a/\(n*a+b) % n=b:=by
 constructor
 ·
  rw [Nat.mul_add_div (by omega),Nat.div_eq_of_lt hb,Nat.add_zero]
 ·
  rw [Nat.mul_add_mod,Nat.mod_eq_of_lt hb]
theorem pro_do {L:List Mch} {k:Int} {S:List Int} {BL:List (List Int)} {p:Nat} {m:Mch} {x:Mv} (hP:ProS L k S BL) (gm:L[p]?=some m) (hxm:x ∈ m.mv) (hc:canS L.length k S BL p x=0):ProS L k (S.set p x.t) (doB L.length p x BL):=by
 have hp:p<L.length:=(Ya.1 gm).1
 have hvm:=hP.v.m p m gm
 have hx:=hvm.2.1.n.mv x hxm
 have hx1:=hvm.2.2 x hxm
 have hj:=bxI_lt (n:=L.length) (x:=x) hp hx.2.2.2.2.1 hx1
 obtain ⟨q,gq⟩:=get_some (l:=BL) (i:=bxI L.length p x) (by rw [hP.p.b]; exact hj)
 have hqd:BL.getD (bxI L.length p x) []=q:=by rw [Yo,gq]; rfl
 have hbq:=hP.p.bx _ q gq
 refine ⟨hP.v,hP.c,⟨by rw [Yyh]; exact hP.p.s,by unfold doB; rw [Yyh]; exact hP.p.b,fun q' s m' h1 h2=>?_,fun j b hb=>?_⟩⟩
 ·
  by_cases e:q'=p
  ·
   subst e
   rw [gm] at h2; cases h2
   rw [Yq (by rw [hP.p.s]; exact hp)] at h1
   cases h1
   exact ⟨hx.2.2.1,hx.2.2.2.1⟩
  ·
   rw [Yy (Ne.symm e)] at h1
   exact hP.p.st q' s m' h1 h2
 ·
  unfold doB at hb
  by_cases e:j=bxI L.length p x
  ·
   subst e
   rw [Yq (by rw [hP.p.b]; exact hj),hqd] at hb
   cases hb
   have hd:¬ bxI L.length p x / L.length=bxI L.length p x % L.length:=by
    unfold bxI
    have hpr:=hx.2.2.2.2.2.2.1
    rw [hvm.1] at hpr
    have h0:=hx.2.2.2.2.1
    split
    ·
     obtain ⟨a,b⟩:=divmod_two (n:=L.length) (a:=p) (b:=x.peer.toNat) (by omega)
     rw [a,b]; omega
    ·
     obtain ⟨a,b⟩:=divmod_two (n:=L.length) (a:=x.peer.toNat) (b:=p) hp
     rw [a,b]; omega
   refine ⟨?_,fun h=>absurd h hd,?_⟩
   ·
    unfold canS at hc
    rw [hqd] at hc
    split at hc
    ·
     exact absurd hc (by decide)
    ·
     split
     ·
      rename_i hs
      rw [if_pos hs] at hc
      rw [Yh,Yv]
      split at hc
      ·
       exact absurd hc (by decide)
      ·
       omega
     ·
      rw [List.length_tail]; omega
   ·
    intro z hz
    split at hz
    ·
     rcases Yk.1 hz with hz | hz
     ·
      exact hbq.2.2 z hz
     ·
      rw [Ye.1 hz]; exact hx.2.2.2.2.2.2.2
    ·
     exact hbq.2.2 z (List.mem_of_mem_tail hz)
  ·
   rw [Yy (Ne.symm e)] at hb
   exact hP.p.bx j b hb
end Go.VC
end
