/- PjVcK5 PjVcX PjVcW PjVcZ PjVcK3 PjVcY PjVcK6 PjKa LexSpec PjSpec PjMem PjI0 PjJ0 PjK0 PjL0 PjO0 PjQ0 PjR0 PjT0 PjX0 PjA PjCa PjShelf PjSh PjStA PjG0 PjStB PjLi0 PjLi PjStub PjB. -/
import Derived.Test.YtfdhgcladnbdeaaGreatDoorCM02
import Derived.Test.YtfdhgcladnbdeaaGreatDoorCM03
import Derived.Lib.Split
import Derived.Shelf.Strings.Split
import Derived.Shelf.Bits.Mul64
import Derived.Shelf.Spec.TrailingZeros
import Derived.Shelf.SlLaysF0
import Derived.Ground.NamesProg
import Derived.Ground.Names7Prog
import Derived.Ground.SlsfProg
import Derived.Lib.TrailingZeros
import Derived.Maps.AppendAt
set_option linter.all false
set_option maxRecDepth 100000
set_option maxHeartbeats 8000000

section
namespace Go.VC
open Go.Proofs IntKind
variable {h:Heap} {R:Value->Heap->Prop}
def V30a (order_65:Sl) (h89:Heap) (x88:Sl) (h:Heap) (x54:Sl) (x76:Int) (h48:Heap) (m64:Nat) (I62:Sl->Heap->Nat->Prop):Prop:=
 QSI order_65 0 h89 fun I90 order_93 x_94 h95 m92=>
 sB (decide (x_94<(x88.n:Int)))
 (NB x88.a fun b96 o97=>Ib x_94 x88.n /\
 ∃x98,rI h95 ⟨b96,o97+x_94.toNat*1,none⟩ x98 /\
 ∃x99,rS h95 (aS h 6) x99 /\
 NB x99.a fun b100 o101=>Ib x98 x99.n /\
 ∃x102 x103 x104 x105 x106 x107,aL3 h95 ⟨b100,o101+x98.toNat*6,none⟩ x102 x103 x104 x105 x106 x107 /\
 Wn h95 [vI 0,vI 0,vI 0,vI 0,vI 0,.bool false] 55 fun h108=>
 Wp h108 (aS h95 0) 6 (L3 x102 x103 x104 x105 x106 x107) fun h109=>
 ∃J110:Sl->Heap->Prop,
 (∃x111,rI h109 (aS h95 4) x111 /\
 NB x54.a fun b112 o113=>Ib x111 x54.n /\
 ∃x114,rI h109 ⟨b112,o113+x111.toNat*1,none⟩ x114 /\
 sB (decide (x114<0))
 (∃x115,rI h109 (aS h95 4) x115 /\
 NB x54.a fun b116 o117=>Ib x115 x54.n /\
 Wp h109 ⟨b116,o117+x115.toNat*1,none⟩ 1 [vI (order_93.n:Int)] fun h118=>
 ∃x119,rI h118 (aS h95 4) x119 /\
 Wn h118 [vI x119] 3 fun h120=>
 App Pz 42 42 (vS order_93) (.slice (some (aS h118 0)) 1 1) h120 fun s121 h122=>
 J110 s121 h122)
 (J110 order_93 h109)) /\
 ∀(_:Env) (order_123:Sl) (h124:Heap),J110 order_123 h124 ->
 (∃J125:Heap->Prop,
 (sB (decide (x76>=0))
 (∃x126,rS h124 (aS h 7) x126 /\
 NB x126.a fun b127 o128=>Ib x76 x126.n /\
 ∃x129,rI h124 ⟨b127,o128+x76.toNat*3+2,none⟩ x129 /\
 sB (x129==x98)
 (∃x130,rS h124 (aS h48 7) x130 /\
 ∃x131,rI h124 (aS h48 3) x131 /\
 ∃x132,rS h124 (aS h 7) x132 /\
 NB x132.a fun b133 o134=>Ib x76 x132.n /\
 ∃x135,rI h124 ⟨b133,o134+x76.toNat*3+1,none⟩ x135 /\
 ∃x136,rS h124 (aS h48 6) x136 /\
 Wn h124 [vI x131,vI x135,vI (x136.n:Int)] 63 fun h137=>
 Sm [(aS h48 7)] h124 h137 /\
 App Pz 25 25 (vS x130) (.slice (some (aS h124 0)) 1 1) h137 fun s138 h139=>
 Wp h139 (aS h48 7) 1 [vS s138] fun h140=>
 J125 h140)
 (J125 h124))
 (J125 h124)) /\
 ∀(_:Env) (h141:Heap),J125 h141 ->
 (∃x142,rS h141 (aS h48 6) x142 /\
 ∃x143,rI h141 (aS h48 3) x143 /\
 ∃x144 x145 x146,aL2 h141 (aS h95 1) x144 x145 x146 /\
 ∃x147,rI h141 (aS h95 4) x147 /\
 NB x54.a fun b148 o149=>Ib x147 x54.n /\
 ∃x150,rI h141 ⟨b148,o149+x147.toNat*1,none⟩ x150 /\
 ∃x151,rB h141 (aS h95 5) x151 /\
 Wn h141 (L3 x143 x144 x145 x146 x150 x151) 55 fun h152=>
 Sm [(aS h48 6)] h141 h152 /\
 App Pz 24 24 (vS x142) (.slice (some (aS h141 0)) 1 1) h152 fun s153 h154=>
 Wp h154 (aS h48 6) 1 [vS s153] fun h155=>
 ∃m156,m156<m92/\I90 order_123 (wrap .i64 (x_94+1)) h155 m156)))
 (∃x157,rI h95 (aS h48 3) x157 /\
 Wp h95 (aS h48 3) 1 [vI (wrap .i64 (x157+1))] fun h158=>
 ∃m159,m159<m64/\I62 order_93 h158 m159)
def V30b (h59:Heap) (h61:Heap) (h48:Heap) (h:Heap) (x54:Sl) (h9:Heap) (R:Value->Heap->Prop):Prop:=
 QS ⟨(some (aS h59 0)),1,1⟩ h61 fun I62 order_65 h66 m64=>
 ∃x67,rI h66 (aS h48 3) x67 /\
 sB (decide (x67<(order_65.n:Int)))
 (∃x68,rI h66 (aS h48 3) x68 /\
 NB order_65.a fun b69 o70=>Ib x68 order_65.n /\
 ∃x71,rI h66 ⟨b69,o70+x68.toNat*1,none⟩ x71 /\
 Wn h66 [vI 0] 3 fun h72=>
 Wp h72 (aS h66 0) 1 [vI x71] fun h73=>
 ∃x74,rS h73 (aS h 7) x74 /\
 Fn Pz 61 #[vS x74,.func (.func 62) #[] #[.pointer (some (aS h66 0))]] h73
 (fun v75 h77=>∃x76,iI v75 x76 /\
 ∃x78 x79 x80 x81 x82 x83 x84 x85,aL0 h77 (aS h 0) x78 x79 x80 x81 x82 x83 x84 x85 /\
 ∃x86,rI h77 (aS h66 0) x86 /\
 Fn Pz 63 #[.agg ⟨(L0 x78 x79 x80 x81 x82 x83 x84 x85)⟩,vI x86] h77
 (fun v87 h89=>∃x88,iS v87 x88 /\
 V30a order_65 h89 x88 h x54 x76 h48 m64 I62)))
 (∃x160,rI h66 (aS h 5) x160 /\
 NB x54.a fun b161 o162=>Ib x160 x54.n /\
 ∃x163,rI h66 ⟨b161,o162+x160.toNat*1,none⟩ x163 /\
 Wp h66 (aS h48 5) 1 [vI x163] fun h164=>
 ∃x165 x166 x167 x168 x169 x170 x171 x172,aL0 h164 (aS h48 0) x165 x166 x167 x168 x169 x170 x171 x172 /\
 Wp h164 (aS h9 0) 8 (L0 x165 x166 x167 x168 x169 x170 x171 x172) fun h173=>
 ∃x174 x175 x176 x177 x178 x179 x180 x181,aL0 h173 (aS h9 0) x174 x175 x176 x177 x178 x179 x180 x181 /\
 R (.tuple ⟨[.agg ⟨(L0 x174 x175 x176 x177 x178 x179 x180 x181)⟩,vI 0]⟩) h173)
def W30 (pa:ByteArray) (pb pc:Sl) (pd pe pf:Int) (pg ph:Sl):Prop:=
 Wn h (L0 pa pb pc pd pe pf pg ph) 27 fun h9=>
 Wn h9 [.string ⟨#[]⟩,vN,vN,vI 0,vI 0,vI 0,vN,vN] 27 fun h10=>
 ∃x11 x12 x13 x14 x15 x16 x17 x18,aL0 h10 (aS h 0) x11 x12 x13 x14 x15 x16 x17 x18 /\
 Fn Pz 38 #[.agg ⟨(L0 x11 x12 x13 x14 x15 x16 x17 x18)⟩] h10
 (fun v19 h21=>∃x20,iB v19 x20 /\
 sB (!x20)
 (Wp h21 (aS h9 0) 8 [.string ⟨#[]⟩,vN,vN,vI 0,vI 0,vI 0,vN,vN] fun h22=>
 ∃x23 x24 x25 x26 x27 x28 x29 x30,aL0 h22 (aS h9 0) x23 x24 x25 x26 x27 x28 x29 x30 /\
 R (.tuple ⟨[.agg ⟨(L0 x23 x24 x25 x26 x27 x28 x29 x30)⟩,vI 1]⟩) h22)
 (∃x31 x32 x33 x34 x35 x36 x37 x38,aL0 h21 (aS h 0) x31 x32 x33 x34 x35 x36 x37 x38 /\
 Fn Pz 59 #[.agg ⟨(L0 x31 x32 x33 x34 x35 x36 x37 x38)⟩] h21
 (fun v39 h48=>∃(x40:ByteArray) (x41 x42:Sl) (x43 x44 x45:Int) (x46 x47:Sl),v39=.agg ⟨(L0 x40 x41 x42 x43 x44 x45 x46 x47)⟩ /\
 Wn h48 [.string ⟨#[]⟩,vN,vN,vI 0,vI 0,vI 0,vN,vN] 27 fun h49=>
 Wp h49 (aS h48 0) 8 (L0 x40 x41 x42 x43 x44 x45 x46 x47) fun h50=>
 Wn h50 [vI (-1)] 3 fun h51=>
 ∃x52,rI h51 (aS h 3) x52 /\
 Fn Pz 60 #[.slice (some (aS h50 0)) 1 1,vI x52] h51
 (fun v53 h55=>∃x54,iS v53 x54 /\
 ∃x56,rI h55 (aS h 4) x56 /\
 NB x54.a fun b57 o58=>Ib x56 x54.n /\
 Wp h55 ⟨b57,o58+x56.toNat*1,none⟩ 1 [vI 0] fun h59=>
 ∃x60,rI h59 (aS h 4) x60 /\
 Wn h59 [vI x60] 3 fun h61=>
 V30b h59 h61 h48 h x54 h9 R))))
theorem vc30 (pa:ByteArray) (pb pc:Sl) (pd pe pf:Int) (pg ph:Sl) (H:@W30 h R pa pb pc pd pe pf pg ph):Fn Pz 30 #[.agg ⟨(L0 pa pb pc pd pe pf pg ph)⟩] h R:=fnJ (A:=(.s .z (.s .z (.s .z (.s .z (.s .z (.s (.s .z (.b (.l [(6,.one (.slice))] (.s .z (.s (.b (.s .z (.s .z (.s .z (.b (.l [(6,.one (.slice)),(51,.one (.int .i64))] (.s .z (.s .z (.s (.b (.s .z (.s .z (.j [(6,.one (.slice))] .z (.j [] .z .z))))) .z))))))))) .z))))) .z))))))) H
end Go.VC
end

section
namespace Go.VC
open Go.Proofs IntKind



end Go.VC
end

section
namespace Go.VC
open Go.Proofs IntKind
variable {h:Heap} {R:Value->Heap->Prop}
def W16 (pa pb pc:Int) (pd pe pf:Sl) (pg ph pi:Int) (pj pk pl:Sl):Prop:=
 Wn h (L1 pa pb pc pd pe pf) 33 fun h13=>
 Wn h13 (L1 pg ph pi pj pk pl) 33 fun h14=>
 ∃x15,rI h14 (aS h 0) x15 /\
 ∃x16,rI h14 (aS h13 0) x16 /\
 sB (x15 != x16)
 (R (.bool false) h14)
 (∃x17,rI h14 (aS h 1) x17 /\
 ∃x18,rI h14 (aS h13 1) x18 /\
 sB (x17 != x18)
 (R (.bool false) h14)
 (∃x19,rI h14 (aS h 2) x19 /\
 ∃x20,rI h14 (aS h13 2) x20 /\
 sB (x19 != x20)
 (R (.bool false) h14)
 (∃x21,rS h14 (aS h 3) x21 /\
 ∃x22,rS h14 (aS h13 3) x22 /\
 sB ((x21.n:Int) != (x22.n:Int))
 (R (.bool false) h14)
 (∃x23,rS h14 (aS h 4) x23 /\
 ∃x24,rS h14 (aS h13 4) x24 /\
 sB ((x23.n:Int) != (x24.n:Int))
 (R (.bool false) h14)
 (∃x25,rS h14 (aS h 5) x25 /\
 ∃x26,rS h14 (aS h13 5) x26 /\
 sB ((x25.n:Int) != (x26.n:Int))
 (R (.bool false) h14)
 (QI 0 h14 fun I27 i_30 h31 m29=>
 ∃x32,rS h31 (aS h 3) x32 /\
 sB (decide (i_30<(x32.n:Int)))
 (∃x33,rS h31 (aS h 3) x33 /\
 NB x33.a fun b34 o35=>Ib i_30 x33.n /\
 ∃x36,rB h31 ⟨b34,o35+i_30.toNat*1,none⟩ x36 /\
 ∃x37,rS h31 (aS h13 3) x37 /\
 NB x37.a fun b38 o39=>Ib i_30 x37.n /\
 ∃x40,rB h31 ⟨b38,o39+i_30.toNat*1,none⟩ x40 /\
 sB (!(x36==x40))
 (R (.bool false) h31)
 (∃m41,m41<m29/\I27 (wrap .i64 (i_30+1)) h31 m41))
 (QI 0 h31 fun I42 i_45 h46 m44=>
 ∃x47,rS h46 (aS h 4) x47 /\
 sB (decide (i_45<(x47.n:Int)))
 (∃x48,rS h46 (aS h 4) x48 /\
 NB x48.a fun b49 o50=>Ib i_45 x48.n /\
 ∃x51 x52 x53 x54 x55 x56,aL4 h46 ⟨b49,o50+i_45.toNat*6,none⟩ x51 x52 x53 x54 x55 x56 /\
 ∃x57,rS h46 (aS h13 4) x57 /\
 NB x57.a fun b58 o59=>Ib i_45 x57.n /\
 ∃x60 x61 x62 x63 x64 x65,aL4 h46 ⟨b58,o59+i_45.toNat*6,none⟩ x60 x61 x62 x63 x64 x65 /\
 sB (!((x51==x60)&&((x52==x61)&&((x53==x62)&&((x54==x63)&&((x55==x64)&&((x56==x65)&&true)))))))
 (R (.bool false) h46)
 (∃m66,m66<m44/\I42 (wrap .i64 (i_45+1)) h46 m66))
 (QI 0 h46 fun I67 i_70 h71 m69=>
 ∃x72,rS h71 (aS h 5) x72 /\
 sB (decide (i_70<(x72.n:Int)))
 (∃x73,rS h71 (aS h 5) x73 /\
 NB x73.a fun b74 o75=>Ib i_70 x73.n /\
 ∃x76 x77 x78,aL2 h71 ⟨b74,o75+i_70.toNat*3,none⟩ x76 x77 x78 /\
 ∃x79,rS h71 (aS h13 5) x79 /\
 NB x79.a fun b80 o81=>Ib i_70 x79.n /\
 ∃x82 x83 x84,aL2 h71 ⟨b80,o81+i_70.toNat*3,none⟩ x82 x83 x84 /\
 sB (!((x76==x82)&&((x77==x83)&&((x78==x84)&&true))))
 (R (.bool false) h71)
 (∃m85,m85<m69/\I67 (wrap .i64 (i_70+1)) h71 m85))
 (R (.bool true) h71)))))))))
theorem vc16 (pa pb pc:Int) (pd pe pf:Sl) (pg ph pi:Int) (pj pk pl:Sl) (H:@W16 h R pa pb pc pd pe pf pg ph pi pj pk pl):Fn Pz 16 #[.agg ⟨(L1 pa pb pc pd pe pf)⟩,.agg ⟨(L1 pg ph pi pj pk pl)⟩] h R:=fnJ (A:=(.s .z (.s .z (.s (AI 5) (.s (AI 6) (.s (AI 7) .z)))))) H
def W3 (pa:ByteArray) (pb pc:Sl) (pd pe pf:Int) (pg ph:Sl) (p1:Int):Prop:=
 Wn h (L0 pa pb pc pd pe pf pg ph) 27 fun h9=>
 Fn Pz 10 #[] h9
 (fun v10 h12=>∃x11,iB v10 x11 /\
 sB (!x11)
 (R (.bool false) h12)
 (∃x13 x14 x15 x16 x17 x18 x19 x20,aL0 h12 (aS h 0) x13 x14 x15 x16 x17 x18 x19 x20 /\
 Fn Pz 11 #[.agg ⟨(L0 x13 x14 x15 x16 x17 x18 x19 x20)⟩] h12
 (fun v21 h23=>∃x22,iB v21 x22 /\
 sB (!x22)
 (R (.bool true) h23)
 (∃x24 x25 x26 x27 x28 x29 x30 x31,aL0 h23 (aS h 0) x24 x25 x26 x27 x28 x29 x30 x31 /\
 Fn Pz 12 #[.agg ⟨(L0 x24 x25 x26 x27 x28 x29 x30 x31)⟩,vI p1] h23
 (fun v32 h40=>∃(x33 x34 x35:Int) (x36 x37 x38:Sl) (x39:Int),v32=.tuple ⟨[.agg ⟨(L1 x33 x34 x35 x36 x37 x38)⟩,vI x39]⟩ /\
 Wn h40 [vI 0,vI 0,vI 0,vN,vN,vN] 33 fun h41=>
 Wp h41 (aS h40 0) 6 (L1 x33 x34 x35 x36 x37 x38) fun h42=>
 ∃x43 x44 x45 x46 x47 x48 x49 x50,aL0 h42 (aS h 0) x43 x44 x45 x46 x47 x48 x49 x50 /\
 Fn Pz 13 #[.agg ⟨(L0 x43 x44 x45 x46 x47 x48 x49 x50)⟩,vI p1] h42
 (fun v51 h59=>∃(x52 x53 x54:Int) (x55 x56 x57:Sl) (x58:Int),v51=.tuple ⟨[.agg ⟨(L1 x52 x53 x54 x55 x56 x57)⟩,vI x58]⟩ /\
 Wn h59 [vI 0,vI 0,vI 0,vN,vN,vN] 33 fun h60=>
 Wp h60 (aS h59 0) 6 (L1 x52 x53 x54 x55 x56 x57) fun h61=>
 ∃x62 x63 x64 x65 x66 x67 x68 x69,aL0 h61 (aS h 0) x62 x63 x64 x65 x66 x67 x68 x69 /\
 Fn Pz 14 #[.agg ⟨(L0 x62 x63 x64 x65 x66 x67 x68 x69)⟩,vI p1] h61
 (fun v70 h78=>∃(x71 x72 x73:Int) (x74 x75 x76:Sl) (x77:Int),v70=.tuple ⟨[.agg ⟨(L1 x71 x72 x73 x74 x75 x76)⟩,vI x77]⟩ /\
 Wn h78 [vI 0,vI 0,vI 0,vN,vN,vN] 33 fun h79=>
 Wp h79 (aS h78 0) 6 (L1 x71 x72 x73 x74 x75 x76) fun h80=>
 ∃x81 x82 x83 x84 x85 x86 x87 x88,aL0 h80 (aS h 0) x81 x82 x83 x84 x85 x86 x87 x88 /\
 Fn Pz 15 #[.agg ⟨(L0 x81 x82 x83 x84 x85 x86 x87 x88)⟩,vI p1] h80
 (fun v89 h97=>∃(x90 x91 x92:Int) (x93 x94 x95:Sl) (x96:Int),v89=.tuple ⟨[.agg ⟨(L1 x90 x91 x92 x93 x94 x95)⟩,vI x96]⟩ /\
 Wn h97 [vI 0,vI 0,vI 0,vN,vN,vN] 33 fun h98=>
 Wp h98 (aS h97 0) 6 (L1 x90 x91 x92 x93 x94 x95) fun h99=>
 sB (x39==x58)
 (sB (x77==x96)
 (∃x100 x101 x102 x103 x104 x105,aL1 h99 (aS h40 0) x100 x101 x102 x103 x104 x105 /\
 ∃x106 x107 x108 x109 x110 x111,aL1 h99 (aS h59 0) x106 x107 x108 x109 x110 x111 /\
 Fn Pz 16 #[.agg ⟨(L1 x100 x101 x102 x103 x104 x105)⟩,.agg ⟨(L1 x106 x107 x108 x109 x110 x111)⟩] h99
 (fun v112 h114=>∃x113,iB v112 x113 /\
 sB x113
 (∃x115 x116 x117 x118 x119 x120,aL1 h114 (aS h78 0) x115 x116 x117 x118 x119 x120 /\
 ∃x121 x122 x123 x124 x125 x126,aL1 h114 (aS h97 0) x121 x122 x123 x124 x125 x126 /\
 Fn Pz 16 #[.agg ⟨(L1 x115 x116 x117 x118 x119 x120)⟩,.agg ⟨(L1 x121 x122 x123 x124 x125 x126)⟩] h114
 (fun v127 h129=>∃x128,iB v127 x128 /\
 R (.bool x128) h129))
 (R (.bool false) h114)))
 (R (.bool false) h99))
 (R (.bool false) h99)))))))))
def W8 (pa:ByteArray) (pb pc:Sl) (pd pe pf:Int) (pg ph:Sl) (p1:Int):Prop:=
 Wn h (L0 pa pb pc pd pe pf pg ph) 27 fun h9=>
 Fn Pz 10 #[] h9
 (fun v10 h12=>∃x11,iB v10 x11 /\
 sB (!x11)
 (R (.bool false) h12)
 (∃x13 x14 x15 x16 x17 x18 x19 x20,aL0 h12 (aS h 0) x13 x14 x15 x16 x17 x18 x19 x20 /\
 Fn Pz 21 #[.agg ⟨(L0 x13 x14 x15 x16 x17 x18 x19 x20)⟩,vI p1] h12
 (fun v21 h23=>∃x22,iB v21 x22 /\
 sB (!x22)
 (R (.bool true) h23)
 (∃x24 x25 x26 x27 x28 x29 x30 x31,aL0 h23 (aS h 0) x24 x25 x26 x27 x28 x29 x30 x31 /\
 Fn Pz 30 #[.agg ⟨(L0 x24 x25 x26 x27 x28 x29 x30 x31)⟩] h23
 (fun v32 h42=>∃(x33:ByteArray) (x34 x35:Sl) (x36 x37 x38:Int) (x39 x40:Sl) (x41:Int),v32=.tuple ⟨[.agg ⟨(L0 x33 x34 x35 x36 x37 x38 x39 x40)⟩,vI x41]⟩ /\
 Wn h42 [.string ⟨#[]⟩,vN,vN,vI 0,vI 0,vI 0,vN,vN] 27 fun h43=>
 Wp h43 (aS h42 0) 8 (L0 x33 x34 x35 x36 x37 x38 x39 x40) fun h44=>
 ∃x45 x46 x47 x48 x49 x50 x51 x52,aL0 h44 (aS h 0) x45 x46 x47 x48 x49 x50 x51 x52 /\
 Fn Pz 12 #[.agg ⟨(L0 x45 x46 x47 x48 x49 x50 x51 x52)⟩,vI p1] h44
 (fun v53 h61=>∃(x54 x55 x56:Int) (x57 x58 x59:Sl) (x60:Int),v53=.tuple ⟨[.agg ⟨(L1 x54 x55 x56 x57 x58 x59)⟩,vI x60]⟩ /\
 Wn h61 [vI 0,vI 0,vI 0,vN,vN,vN] 33 fun h62=>
 Wp h62 (aS h61 0) 6 (L1 x54 x55 x56 x57 x58 x59) fun h63=>
 ∃x64 x65 x66 x67 x68 x69 x70 x71,aL0 h63 (aS h42 0) x64 x65 x66 x67 x68 x69 x70 x71 /\
 Fn Pz 12 #[.agg ⟨(L0 x64 x65 x66 x67 x68 x69 x70 x71)⟩,vI p1] h63
 (fun v72 h80=>∃(x73 x74 x75:Int) (x76 x77 x78:Sl) (x79:Int),v72=.tuple ⟨[.agg ⟨(L1 x73 x74 x75 x76 x77 x78)⟩,vI x79]⟩ /\
 Wn h80 [vI 0,vI 0,vI 0,vN,vN,vN] 33 fun h81=>
 Wp h81 (aS h80 0) 6 (L1 x73 x74 x75 x76 x77 x78) fun h82=>
 sB (x41==0)
 (sB (x60==x79)
 (∃x83 x84 x85 x86 x87 x88,aL1 h82 (aS h61 0) x83 x84 x85 x86 x87 x88 /\
 ∃x89 x90 x91 x92 x93 x94,aL1 h82 (aS h80 0) x89 x90 x91 x92 x93 x94 /\
 Fn Pz 16 #[.agg ⟨(L1 x83 x84 x85 x86 x87 x88)⟩,.agg ⟨(L1 x89 x90 x91 x92 x93 x94)⟩] h82
 (fun v95 h97=>∃x96,iB v95 x96 /\
 R (.bool x96) h97))
 (R (.bool false) h82))
 (R (.bool false) h82))))))))
theorem vc8 (pa:ByteArray) (pb pc:Sl) (pd pe pf:Int) (pg ph:Sl) (p1:Int) (H:@W8 h R pa pb pc pd pe pf pg ph p1):Fn Pz 8 #[.agg ⟨(L0 pa pb pc pd pe pf pg ph)⟩,vI p1] h R:=fnJ (A:=.z) H
end Go.VC
end

section
namespace Go.VC
def fL (N:Nat) (f:Nat->Int):List Int:=(List.range N).map f
theorem fL_len (N:Nat) (f:Nat->Int):(fL N f).length=N:=by unfold fL;rw[Yc,Yyd]
theorem fL_get {N k:Nat} {f:Nat->Int} (h:k<N):(fL N f)[k]?=some (f k):=by unfold fL;rw[Yd,Yyb h];rfl
theorem fL_ext {N:Nat} {f g:Nat->Int} (h:∀i,i<N->f i=g i):fL N f=fL N g:=List.map_congr_left fun i hi=>h i (List.mem_range.1 hi)
theorem fL_set {N k:Nat} {f:Nat->Int} (v:Int):(fL N f).set k v=fL N fun i=>if i=k then v else f i:=by
 refine Yyr fun i=>?_;rw[List.getElem?_set,fL_len];by_cases hi:i<N
 .rw[fL_get hi,fL_get hi];by_cases e:k=i
  .subst e;rw[if_pos rfl,if_pos hi,if_pos rfl]
  .rw[if_neg e,if_neg fun c=>e c.symm]
 .rw[Yl (l:=fL N f) (by rw[fL_len];omega),Yl (l:=fL N _) (by rw[fL_len];omega)];split
  .rw[if_neg (by omega)]
  .rfl
theorem fL_of (l:List Int):l=fL l.length fun i=>l.getD i 0:=by
 refine Yyr fun i=>?_;by_cases hi:i<l.length
 .rw[fL_get hi,Yo,Yi hi];rfl
 .rw[Yl (by omega),Yl (by rw[fL_len];omega)]
theorem fL_mem {N:Nat} {f:Nat->Int} {x:Int}:x∈fL N f ↔ ∃i,i<N/\f i=x:=by
 unfold fL;rw[Yp];exact⟨fun ⟨i,h1,h2⟩=>⟨i,List.mem_range.1 h1,h2⟩,fun ⟨i,h1,h2⟩=>⟨i,List.mem_range.2 h1,h2⟩⟩
def Pm (a b:Nat) (f g:Nat->Int):Prop:=∃σ τ:Nat->Nat,(∀i,σ (τ i)=i)/\(∀i,τ (σ i)=i)/\(∀i,i<a\/b<=i->σ i=i)/\∀i,g i=f (σ i)
theorem Pm.refl (a b:Nat) (f:Nat->Int):Pm a b f f:=⟨id,id,fun _=>rfl,fun _=>rfl,fun _ _=>rfl,fun _=>rfl⟩
theorem Pm.trans {a b:Nat} {f g k:Nat->Int} (h1:Pm a b f g) (h2:Pm a b g k):Pm a b f k:=by
 obtain⟨σ,τ,a1,a2,a3,a4⟩:=h1;obtain⟨ς,υ,b1,b2,b3,b4⟩:=h2;exact⟨fun i=>σ (ς i),fun i=>υ (τ i),fun i=>by show σ (ς (υ (τ i)))=i;rw[b1,a1],fun i=>by show υ (τ (σ (ς i)))=i;rw[a2,b2],fun i hi=>by show σ (ς i)=i;rw[b3 i hi,a3 i hi],fun i=>by rw[b4,a4]⟩
theorem Pm.wide {a b c d:Nat} {f g:Nat->Int} (h:Pm a b f g) (hc:c<=a) (hd:b<=d):Pm c d f g:=by
 obtain⟨σ,τ,a1,a2,a3,a4⟩:=h;exact⟨σ,τ,a1,a2,fun i hi=>a3 i (by omega),a4⟩
theorem Pm.out {a b:Nat} {f g:Nat->Int} (h:Pm a b f g) {i:Nat} (hi:i<a\/b<=i):g i=f i:=by
 obtain⟨σ,τ,a1,a2,a3,a4⟩:=h;rw[a4,a3 i hi]
theorem Pm.inn {a b:Nat} {f g:Nat->Int} (h:Pm a b f g) {i:Nat} (h0:a<=i) (h1:i<b):∃j,a<=j/\j<b/\g i=f j:=by
 obtain⟨σ,τ,a1,a2,a3,a4⟩:=h;refine⟨σ i,?_,?_,a4 i⟩
 .refine Classical.byContradiction fun c=>?_;have e:=a3 (σ i) (by omega);have e2:=congrArg τ e;rw[a2,a2] at e2;omega
 .refine Classical.byContradiction fun c=>?_;have e:=a3 (σ i) (by omega);have e2:=congrArg τ e;rw[a2,a2] at e2;omega
def swF (p q:Nat) (f:Nat->Int) (i:Nat):Int:=if i=p then f q else if i=q then f p else f i
theorem Pm.swap {a b p q:Nat} (f:Nat->Int) (hp:a<=p/\p<b) (hq:a<=q/\q<b):Pm a b f (swF p q f):=by
 refine⟨fun i=>if i=p then q else if i=q then p else i,fun i=>if i=p then q else if i=q then p else i,fun i=>?_,fun i=>?_,fun i hi=>?_,fun i=>?_⟩
 .show (if (if i=p then q else if i=q then p else i)=p then q else if (if i=p then q else if i=q then p else i)=q then p else (if i=p then q else if i=q then p else i))=i
  repeat' split
  all_goals omega
 .show (if (if i=p then q else if i=q then p else i)=p then q else if (if i=p then q else if i=q then p else i)=q then p else (if i=p then q else if i=q then p else i))=i
  repeat' split
  all_goals omega
 .show (if i=p then q else if i=q then p else i)=i;rw[if_neg (by omega),if_neg (by omega)]
 .unfold swF;show _=f (if i=p then q else if i=q then p else i)
  repeat' split
  all_goals rfl
theorem Pm.perm {a b N:Nat} {f g:Nat->Int} (h:Pm a b f g) (hb:b<=N):(fL N g).Perm (fL N f):=by
 obtain⟨σ,τ,a1,a2,a3,a4⟩:=h;have hlt:∀i,i<N->σ i<N:=fun i hi=>Classical.byContradiction fun c=>by
  have e:=congrArg τ (a3 (σ i) (by omega));rw[a2,a2] at e;omega
 have e:fL N g=((List.range N).map σ).map f:=by
  unfold fL;rw[List.map_map];exact List.map_congr_left fun i _=>a4 i
 rw[e];refine List.Perm.map f ?_;refine (List.perm_ext_iff_of_nodup ?_ List.nodup_range).2 fun x=>?_
 .exact List.pairwise_map.2 (List.nodup_range.imp fun {i j} hij e=>hij (by have:=congrArg τ e;rwa [a2,a2] at this))
 .rw[Yp,List.mem_range];constructor
  .rintro⟨i,hi,rfl⟩;exact hlt i (List.mem_range.1 hi)
  .intro hx;refine⟨τ x,List.mem_range.2 ?_,a1 x⟩;refine Classical.byContradiction fun c=>?_;have e:=a3 (τ x) (by omega);rw[a1] at e;omega
/-! ### two blocks change places; a part is turned round -/
def swR (a b n:Nat) (f:Nat->Int) (t:Nat):Int:=if a<=t/\t<a+n then f (t-a+b) else if b<=t/\t<b+n then f (t-b+a) else f t
def rotF (a m b:Nat) (f:Nat->Int) (t:Nat):Int:=if a<=t/\t<a+(b-m) then f (t+(m-a)) else if a+(b-m)<=t/\t<b then f (t-(b-m)) else f t
theorem Pm.rot {a m b:Nat} (f:Nat->Int) (h1:a<=m) (h2:m<=b):Pm a b f (rotF a m b f):=by
 refine⟨fun t=>if a<=t/\t<a+(b-m) then t+(m-a) else if a+(b-m)<=t/\t<b then t-(b-m) else t,fun t=>if a<=t/\t<m then t+(b-m) else if m<=t/\t<b then t-(m-a) else t,fun i=>?_,fun i=>?_,fun i hi=>?_,fun i=>?_⟩
 .show (if a<=(if a<=i/\i<m then i+(b-m) else if m<=i/\i<b then i-(m-a) else i)/\(if a<=i/\i<m then i+(b-m) else if m<=i/\i<b then i-(m-a) else i)<a+(b-m) then (if a<=i/\i<m then i+(b-m) else if m<=i/\i<b then i-(m-a) else i)+(m-a) else if a+(b-m)<=(if a<=i/\i<m then i+(b-m) else if m<=i/\i<b then i-(m-a) else i)/\(if a<=i/\i<m then i+(b-m) else if m<=i/\i<b then i-(m-a) else i)<b then (if a<=i/\i<m then i+(b-m) else if m<=i/\i<b then i-(m-a) else i)-(b-m) else (if a<=i/\i<m then i+(b-m) else if m<=i/\i<b then i-(m-a) else i))=i;generalize hz:(if a<=i/\i<m then i+(b-m) else if m<=i/\i<b then i-(m-a) else i)=z;split at hz
  .rw[if_neg (by omega),if_pos (by omega)];omega
  .split at hz
   .rw[if_pos (by omega)];omega
   .rw[if_neg (by omega),if_neg (by omega)];exact hz.symm
 .show (if a<=(if a<=i/\i<a+(b-m) then i+(m-a) else if a+(b-m)<=i/\i<b then i-(b-m) else i)/\(if a<=i/\i<a+(b-m) then i+(m-a) else if a+(b-m)<=i/\i<b then i-(b-m) else i)<m then (if a<=i/\i<a+(b-m) then i+(m-a) else if a+(b-m)<=i/\i<b then i-(b-m) else i)+(b-m) else if m<=(if a<=i/\i<a+(b-m) then i+(m-a) else if a+(b-m)<=i/\i<b then i-(b-m) else i)/\(if a<=i/\i<a+(b-m) then i+(m-a) else if a+(b-m)<=i/\i<b then i-(b-m) else i)<b then (if a<=i/\i<a+(b-m) then i+(m-a) else if a+(b-m)<=i/\i<b then i-(b-m) else i)-(m-a) else (if a<=i/\i<a+(b-m) then i+(m-a) else if a+(b-m)<=i/\i<b then i-(b-m) else i))=i;generalize hz:(if a<=i/\i<a+(b-m) then i+(m-a) else if a+(b-m)<=i/\i<b then i-(b-m) else i)=z;split at hz
  .rw[if_neg (by omega),if_pos (by omega)];omega
  .split at hz
   .rw[if_pos (by omega)];omega
   .rw[if_neg (by omega),if_neg (by omega)];exact hz.symm
 .show (if a<=i/\i<a+(b-m) then i+(m-a) else if a+(b-m)<=i/\i<b then i-(b-m) else i)=i;rw[if_neg (by omega),if_neg (by omega)]
 .unfold rotF;show _=f (if a<=i/\i<a+(b-m) then i+(m-a) else if a+(b-m)<=i/\i<b then i-(b-m) else i)
  repeat' split
  all_goals rfl
def RoI (T:Nat->Int) (m i j:Nat) (g:Nat->Int):Prop:=i<=m/\(∀t,t<m-i\/m+j<=t->g t=T t)/\∀t,m-i<=t->t<m+j->T t=if t<m-i+j then g (t+i) else g (t-j)
theorem RoI.start {a m b:Nat} (f:Nat->Int) (h1:a<=m) (h2:m<=b):RoI (rotF a m b f) m (m-a) (b-m) f:=by
 refine⟨by omega,fun t ht=>?_,fun t h3 h4=>?_⟩
 .unfold rotF;rw[if_neg (by omega),if_neg (by omega)]
 .unfold rotF;by_cases c:t<a+(b-m)
  .rw[if_pos (by omega),if_pos (by omega)]
  .rw[if_neg (by omega),if_pos (by omega),if_neg (by omega)]
theorem RoI.more {T g:Nat->Int} {m i j:Nat} (h:RoI T m i j g) (hij:j<i):RoI T m (i-j) j (swR (m-i) m j g):=by
 obtain⟨h0,h1,h2⟩:=h;refine⟨by omega,fun t ht=>?_,fun t h3 h4=>?_⟩
 .unfold swR;by_cases c:m-i<=t/\t<m-i+j
  .rw[if_pos c,h2 t c.1 (by omega),if_pos c.2];congr 1;omega
  .rw[if_neg c,if_neg (by omega)];exact h1 t (by omega)
 .rw[h2 t (by omega) (by omega),if_neg (by omega)];unfold swR;by_cases c:t<m-(i-j)+j
  .rw[if_pos c,if_neg (by omega),if_pos (by omega)];congr 1;omega
  .rw[if_neg c,if_neg (by omega),if_neg (by omega)]
theorem RoI.less {T g:Nat->Int} {m i j:Nat} (h:RoI T m i j g) (hij:i<j):RoI T m i (j-i) (swR (m-i) (m+j-i) i g):=by
 obtain⟨h0,h1,h2⟩:=h;refine⟨by omega,fun t ht=>?_,fun t h3 h4=>?_⟩
 .unfold swR;by_cases c:m+j-i<=t/\t<m+j-i+i
  .rw[if_neg (by omega),if_pos c,h2 t (by omega) (by omega),if_neg (by omega)];congr 1;omega
  .rw[if_neg (by omega),if_neg c];exact h1 t (by omega)
 .rw[h2 t (by omega) (by omega),if_pos (by omega)];unfold swR;by_cases c:t<m-i+(j-i)
  .rw[if_pos c,if_neg (by omega),if_neg (by omega)]
  .rw[if_neg c,if_pos (by omega)];congr 1;omega
theorem RoI.done {T g:Nat->Int} {m i:Nat} (h:RoI T m i i g):∀t,swR (m-i) m i g t=T t:=by
 obtain⟨h0,h1,h2⟩:=h;intro t;unfold swR;by_cases c:m-i<=t/\t<m-i+i
 .rw[if_pos c,h2 t c.1 (by omega),if_pos (by omega)];congr 1;omega
 .rw[if_neg c];by_cases d:m<=t/\t<m+i
  .rw[if_pos d,h2 t (by omega) d.2,if_neg (by omega)];congr 1;omega
  .rw[if_neg d];exact h1 t (by omega)
/-! ### order -/
def So (R:Int->Int->Prop) (f:Nat->Int) (a b:Nat):Prop:=∀i j,a<=i->i<j->j<b->¬R (f j) (f i)
theorem So.of {R:Int->Int->Prop} {f g:Nat->Int} {a b:Nat} (h:So R f a b) (e:∀i,a<=i->i<b->g i=f i):So R g a b:=fun i j h1 h2 h3=>by rw[e i h1 (by omega),e j (by omega) h3];exact h i j h1 h2 h3
structure Wo (R:Int->Int->Prop) (D:Int->Prop):Prop where
 tr:∀x y z,D x->D y->D z->¬R y x->¬R z y->¬R z x
 asy:∀x y,D x->D y->R x y->¬R y x
theorem Wo.irr {R:Int->Int->Prop} {D:Int->Prop} (h:Wo R D) {x:Int} (hx:D x):¬R x x:=fun c=>h.asy x x hx hx c c
theorem So.le {R:Int->Int->Prop} {D:Int->Prop} {f:Nat->Int} {a b:Nat} (h:So R f a b) (hW:Wo R D) (hD:∀i,D (f i)) {i j:Nat} (h1:a<=i) (h2:i<=j) (h3:j<b):¬R (f j) (f i):=by
 rcases Nat.lt_or_ge i j with c | c
 .exact h i j h1 c h3
 .rw[show i=j by omega];exact hW.irr (hD j)
theorem Pm.dom {a b:Nat} {f g:Nat->Int} {D:Int->Prop} (h:Pm a b f g) (hD:∀i,D (f i)):∀i,D (g i):=by
 obtain⟨σ,τ,a1,a2,a3,a4⟩:=h;intro i;rw[a4];exact hD _
structure CutI (R:Int->Int->Prop) (f:Nat->Int) (a m b s:Nat):Prop where
 h:a<=s/\s<=m/\s<=(a+b)/2/\m<=(a+b)/2+m-s/\(a+b)/2+m-s<=b
 l:a<s->(a+b)/2+m-s<b->¬R (f ((a+b)/2+m-s)) (f (s-1))
 r:s<m->s<(a+b)/2->R (f ((a+b)/2+m-s-1)) (f s)
theorem cut_cross {R:Int->Int->Prop} {D:Int->Prop} {f:Nat->Int} {a m b s:Nat} (hW:Wo R D) (hD:∀i,D (f i)) (hX:So R f a m) (hY:So R f m b) (hC:CutI R f a m b s) {i j:Nat} (h1:a<=i) (h2:i<(a+b)/2) (h3:(a+b)/2<=j) (h4:j<b) :
  ¬R (rotF s m ((a+b)/2+m-s) f j) (rotF s m ((a+b)/2+m-s) f i):=by
 obtain⟨c0,cl,cr⟩:=hC;generalize hmid:(a+b)/2=d at *;unfold rotF;by_cases ci:i<s
 .rw[if_neg (c:=s<=i/\_) (by omega),if_neg (c:=_<=i/\_) (by omega),if_neg (c:=s<=j/\_) (by omega)];by_cases cj:j<d+m-s
  .rw[if_pos (by omega)];exact hX.le hW hD h1 (by omega) (by omega)
  .rw[if_neg (by omega)];have e1:=cl (by omega) (by omega);have e2:=hX.le hW hD h1 (show i<=s-1 by omega) (by omega);have e3:=hY.le hW hD (show m<=d+m-s by omega) (show d+m-s<=j by omega) h4;exact hW.tr _ _ _ (hD _) (hD _) (hD _) e2 (hW.tr _ _ _ (hD _) (hD _) (hD _) e1 e3)
 .rw[if_pos (c:=s<=i/\_) (by omega),if_neg (c:=s<=j/\_) (by omega)];by_cases cj:j<d+m-s
  .rw[if_pos (by omega)];have e1:=hW.asy _ _ (hD _) (hD _) (cr (by omega) (by omega));have e2:=hY.le hW hD (show m<=i+(m-s) by omega) (show i+(m-s)<=d+m-s-1 by omega) (by omega);have e3:=hX.le hW hD (show a<=s by omega) (show s<=j-(d+m-s-m) by omega) (by omega);exact hW.tr _ _ _ (hD _) (hD _) (hD _) e2 (hW.tr _ _ _ (hD _) (hD _) (hD _) e1 e3)
  .rw[if_neg (by omega)];exact hY.le hW hD (by omega) (by omega) h4
theorem cut_left {R:Int->Int->Prop} {f:Nat->Int} {a m b s:Nat} (hX:So R f a m) (hY:So R f m b) (hC:CutI R f a m b s):So R (rotF s m ((a+b)/2+m-s) f) a s/\So R (rotF s m ((a+b)/2+m-s) f) s ((a+b)/2):=by
 obtain⟨c0,_,_⟩:=hC;refine⟨fun i j h1 h2 h3=>?_,fun i j h1 h2 h3=>?_⟩
 .unfold rotF;rw[if_neg (c:=s<=i/\_) (by omega),if_neg (c:=_<=i/\_) (by omega),if_neg (c:=s<=j/\_) (by omega),if_neg (c:=_<=j/\_) (by omega)];exact hX i j h1 h2 (by omega)
 .unfold rotF;rw[if_pos (c:=s<=i/\_) (by omega),if_pos (c:=s<=j/\_) (by omega)];exact hY _ _ (by omega) (by omega) (by omega)
theorem cut_right {R:Int->Int->Prop} {f:Nat->Int} {a m b s:Nat} (hX:So R f a m) (hY:So R f m b) (hC:CutI R f a m b s):So R (rotF s m ((a+b)/2+m-s) f) ((a+b)/2) ((a+b)/2+m-s)/\So R (rotF s m ((a+b)/2+m-s) f) ((a+b)/2+m-s) b:=by
 obtain⟨c0,_,_⟩:=hC;refine⟨fun i j h1 h2 h3=>?_,fun i j h1 h2 h3=>?_⟩
 .unfold rotF;rw[if_neg (c:=s<=i/\_) (by omega),if_pos (c:=_<=i/\_) (by omega),if_neg (c:=s<=j/\_) (by omega),if_pos (c:=_<=j/\_) (by omega)];exact hX _ _ (by omega) (by omega) (by omega)
 .unfold rotF;rw[if_neg (c:=s<=i/\_) (by omega),if_neg (c:=_<=i/\_) (by omega),if_neg (c:=s<=j/\_) (by omega),if_neg (c:=_<=j/\_) (by omega)];exact hY i j (by omega) h2 h3
theorem cut_all {R:Int->Int->Prop} {D:Int->Prop} {f g k:Nat->Int} {a m b s:Nat} (hW:Wo R D) (hD:∀i,D (f i)) (hX:So R f a m) (hY:So R f m b) (hC:CutI R f a m b s)
  (p1:Pm a ((a+b)/2) (rotF s m ((a+b)/2+m-s) f) g) (s1:So R g a ((a+b)/2)) (p2:Pm ((a+b)/2) b g k) (s2:So R k ((a+b)/2) b):Pm a b f k/\So R k a b:=by
 have c0:=hC.h;refine⟨(((Pm.rot f (by omega) (by omega)).wide (by omega) (by omega)).trans (p1.wide (Yyt _) (by omega))).trans (p2.wide (by omega) (Yyt _)),fun i j h1 h2 h3=>?_⟩;by_cases ci:i<(a+b)/2
 .by_cases cj:j<(a+b)/2
  .rw[p2.out (.inl ci),p2.out (.inl cj)];exact s1 i j h1 h2 cj
  .obtain⟨j',d1,d2,d3⟩:=p2.inn (i:=j) (by omega) h3;obtain⟨i',e1,e2,e3⟩:=p1.inn h1 ci;rw[p2.out (.inl ci),e3,d3,p1.out (.inr d1)];exact cut_cross hW hD hX hY hC e1 e2 d1 d2
 .exact s2 i j (by omega) h2 h3
def mvR (a p:Nat) (f:Nat->Int) (t:Nat):Int:=if a<=t/\t<p then f (t+1) else if t=p then f a else f t
theorem mvR_sorted {R:Int->Int->Prop} {D:Int->Prop} {f:Nat->Int} {a b i:Nat} (hW:Wo R D) (hD:∀i,D (f i)) (hY:So R f (a+1) b) (h1:a+1<=i) (h2:i<=b) (hl:i=a+1\/R (f (i-1)) (f a)) (hr:i=b\/¬R (f i) (f a)):So R (mvR a (i-1) f) a b:=by
 intro x y hx hxy hy;unfold mvR;by_cases c1:x<i-1
 .rw[if_pos (c:=a<=x/\_) ⟨hx,c1⟩];by_cases c2:y<i-1
  .rw[if_pos (by omega)];exact hY _ _ (by omega) (by omega) (by omega)
  .rw[if_neg (by omega)];by_cases c3:y=i-1
   .rw[if_pos c3];rcases hl with hl | hl
    .omega
    .have e1:=hY.le hW hD (show a+1<=x+1 by omega) (show x+1<=i-1 by omega) (by omega);exact hW.tr _ _ _ (hD _) (hD _) (hD _) e1 (hW.asy _ _ (hD _) (hD _) hl)
   .rw[if_neg c3];exact hY _ _ (by omega) (by omega) hy
 .rw[if_neg (c:=a<=x/\_) (by omega),if_neg (c:=a<=y/\_) (by omega)];by_cases c3:x=i-1
  .rw[if_pos c3,if_neg (by omega)];rcases hr with hr | hr
   .omega
   .have e1:=hY.le hW hD (show a+1<=i by omega) (show i<=y by omega) hy;exact hW.tr _ _ _ (hD _) (hD _) (hD _) hr e1
  .rw[if_neg c3,if_neg (by omega)];exact hY _ _ (by omega) hxy hy
def mvL (p m:Nat) (f:Nat->Int) (t:Nat):Int:=if t=p then f m else if p<t/\t<=m then f (t-1) else f t
theorem mvL_sorted {R:Int->Int->Prop} {D:Int->Prop} {f:Nat->Int} {a m i:Nat} (hW:Wo R D) (hD:∀i,D (f i)) (hX:So R f a m) (h1:a<=i) (h2:i<=m) (hl:i=a\/¬R (f m) (f (i-1))) (hr:i=m\/R (f m) (f i)):So R (mvL i m f) a (m+1):=by
 intro x y hx hxy hy;unfold mvL;by_cases c1:x<i
 .rw[if_neg (c:=x=i) (by omega),if_neg (c:=i<x/\_) (by omega)];by_cases c2:y=i
  .rw[if_pos c2];rcases hl with hl | hl
   .omega
   .have e1:=hX.le hW hD hx (show x<=i-1 by omega) (by omega);exact hW.tr _ _ _ (hD _) (hD _) (hD _) e1 hl
  .rw[if_neg c2];by_cases c3:i<y
   .rw[if_pos ⟨c3,by omega⟩];exact hX.le hW hD hx (by omega) (by omega)
   .rw[if_neg (by omega)];exact hX _ _ hx hxy (by omega)
 .by_cases c2:x=i
  .rw[if_pos c2,if_neg (by omega),if_pos (by omega)];rcases hr with hr | hr
   .omega
   .have e1:=hX.le hW hD h1 (show i<=y-1 by omega) (by omega);exact hW.tr _ _ _ (hD _) (hD _) (hD _) (hW.asy _ _ (hD _) (hD _) hr) e1
  .rw[if_neg c2,if_neg (c:=y=i) (by omega),if_pos (c:=i<y/\_) (by omega),if_pos (by omega)];exact hX _ _ (by omega) (by omega) (by omega)
end Go.VC
end

section
namespace Go.LexS
def isLetter (n:Int):Bool:=decide (97<=n)&&decide (n<=122)||decide (65<=n)&&decide (n<=90)
def isDigit (n:Int):Bool:=decide (48<=n)&&decide (n<=57)
def isInner (n:Int):Bool:=isLetter n||isDigit n||(n==95)
def isSpace (n:Int):Bool:=n==32||n==9||n==10||n==13
def lt (c:UInt8):Bool:=isLetter c.toNat
def dg (c:UInt8):Bool:=isDigit c.toNat
def inn (c:UInt8):Bool:=isInner c.toNat
def sp (c:UInt8):Bool:=isSpace c.toNat
structure T where
 kind:Nat
 text:List UInt8
 val:Nat
 deriving DecidableEq
def keywords:List (List UInt8):=[[97,103,97,105,110],[97,110,100],[97,115],[97,116],[99,97,108,108],[99,104,111,105,99,101],[101,108,115,101],[102,114,111,109],[105,102],[105,110,116],[108,101,110],[108,111,111,112],[109,101,115,115,97,103,101],[111,102],[111,102,102,101,114],[111,110],[111,114],[112,97,114],[112,108,97,121,115],[112,114,111,116,111,99,111,108],[115,101,114,118,105,99,101],[116,101,120,116],[116,105,109,101,115],[116,111],[118,97,114],[119,104,101,114,101],[119,104,105,108,101],[119,105,116,104,105,110]]
def isName (l:List UInt8):Bool:=match l with
 | []=>false
 | c::_=>decide (l.length<=16)&&lt c&&l.all inn
def isWord (l:List UInt8):Bool:=isName l && !decide (l∈keywords)
end Go.LexS
end

section
namespace Go.VC
open Go.LexS
abbrev Nm:=List UInt8
def i64 (n:Int):Value:=.int .i64 n
def slV (s:Sl):Value:=.slice s.a s.n s.c
structure Fld where
 nm:Nm
 k:Int
 lo:Int
 hi:Int
def Fld.cs (f:Fld):List Value:=[.string (bs f.nm),.int .i64 f.k,.int .i64 f.lo,.int .i64 f.hi]
structure Df where
 x:Int
 y:Int
 c:Int
def Df.cs (d:Df):List Value:=[.int .i64 d.x,.int .i64 d.y,.int .i64 d.c]
structure Eqs where
 x:Int
 y:Int
def Eqs.cs (d:Eqs):List Value:=[.int .i64 d.x,.int .i64 d.y]
structure Dc where
 nm:Nm
 hf:Sl
 first:Int
 hd:Sl
 he:Sl
 fs:List Fld
 ds:List Df
 es:List Eqs
def Dc.cs (d:Dc):List Value:=[.string (bs d.nm),.slice d.hf.a d.hf.n d.hf.c,.int .i64 d.first,.slice d.hd.a d.hd.n d.hd.c,.slice d.he.a d.he.n d.he.c]
structure Ed where
 f:Int
 a:Int
 b:Int
 l:Int
 t:Int
 ag:Bool
def Ed.cs (x:Ed):List Value:=[.int .i64 x.f,.int .i64 x.a,.int .i64 x.b,.int .i64 x.l,.int .i64 x.t,.bool x.ag]
structure To where
 s:Int
 k:Int
 e:Int
def To.cs (x:To):List Value:=[.int .i64 x.s,.int .i64 x.k,.int .i64 x.e]
structure Gl where
 nm:Nm
 hr:Sl
 hd:Sl
 n:Int
 s:Int
 e:Int
 he:Sl
 ht:Sl
 rs:List Nm
 ds:List Dc
 es:List Ed
 ts:List To
def Gl.cs (g:Gl):List Value:=[.string (bs g.nm),.slice g.hr.a g.hr.n g.hr.c,.slice g.hd.a g.hd.n g.hd.c,.int .i64 g.n,.int .i64 g.s,.int .i64 g.e,.slice g.he.a g.he.n g.he.c,.slice g.ht.a g.ht.n g.ht.c]
def Gl.v (g:Gl):Value:=.agg ⟨g.cs⟩
def nmC (x:Nm):List Value:=[.string (bs x)]
structure RL {α:Type} (h:Heap) (k:Nat) (s:Sl) (cs:α->List Value) (L:List α):Prop where
 rw:Rw h k s (L.map cs)
 cap:s.n<=s.c
 nil:s.a=none->s.n=0/\s.c=0
 sm:L.length<=1048576
theorem RL.ext {α:Type} {h h':Heap} {k:Nat} {s:Sl} {cs:α->List Value} {L:List α} (hr:RL h k s cs L) (E:Ext h h'):RL h' k s cs L:=⟨hr.rw.ext E,hr.cap,hr.nil,hr.sm⟩
theorem RL.ln {α:Type} {h:Heap} {k:Nat} {s:Sl} {cs:α->List Value} {L:List α} (hr:RL h k s cs L):s.n=L.length:=hr.rw.ln
structure DI (h:Heap) (d:Dc):Prop where
 pf:RL h 4 d.hf Fld.cs d.fs
 pd:RL h 3 d.hd Df.cs d.ds
 pe:RL h 2 d.he Eqs.cs d.es
theorem DI.ext {h h':Heap} {d:Dc} (hd:DI h d) (E:Ext h h'):DI h' d:=⟨hd.pf.ext E,hd.pd.ext E,hd.pe.ext E⟩
structure DL (h:Heap) (s:Sl) (L:List Dc):Prop where
 r:RL h 5 s Dc.cs L
 i:∀d∈L,DI h d
theorem DL.ext {h h':Heap} {s:Sl} {L:List Dc} (hd:DL h s L) (E:Ext h h'):DL h' s L:=⟨hd.r.ext E,fun d hm=>(hd.i d hm).ext E⟩
structure GI (h:Heap) (g:Gl):Prop where
 r:RL h 1 g.hr nmC g.rs
 d:DL h g.hd g.ds
 e:RL h 6 g.he Ed.cs g.es
 t:RL h 3 g.ht To.cs g.ts
theorem GI.ext {h h':Heap} {g:Gl} (hg:GI h g) (E:Ext h h'):GI h' g:=⟨hg.r.ext E,hg.d.ext E,hg.e.ext E,hg.t.ext E⟩
theorem RL.take {α:Type} {h:Heap} {k:Nat} {s:Sl} {cs:α->List Value} {L:List α} (hr:RL h k s cs L) {i:Nat} (hi:i<=s.n):RL h k ⟨subA s.a (Int.toNat 0) s.c k,Int.toNat (i:Int)-Int.toNat 0,s.c-Int.toNat 0⟩ cs (L.take i):=by
 have h1:=hr.rw.1;have e:subA s.a (Int.toNat 0) s.c k=s.a:=subA_zero _ _ _;rw[e];refine⟨⟨by rw[Yc,Yu];simp only[Yc] at h1;show i-0=_;omega,fun hp=>?_⟩,by have:=hr.cap;show i-0<=s.c-0;omega,fun ha=>?_,by have:=hr.sm;rw[Yu];omega⟩
 .rw[Yc,Yu] at hp;obtain⟨b,o,ha,hall⟩:=hr.rw.2 (by rw[Yc];omega);refine⟨b,o,ha,fun j row hj=>hall j row ?_⟩;rw[List.map_take,Yyf] at hj;split at hj
  .exact hj
  .cases hj
 .have:=hr.nil ha;exact⟨by show i-0=0;omega,by show s.c-0=0;omega⟩
end Go.VC
end

section
namespace Go.VC
theorem wu64 {n:Int} (h0:0<=n) (h1:n<=18446744073709551615):IntKind.wrap .u64 n=n:=by
 simp[IntKind.wrap,IntKind.signed,IntKind.bits];omega
def inC (n:Int):List Value:=[.int .i64 n]
def wC (w:Nat):List Value:=[.int .u64 w]
def memB (ws:List Nat) (k:Nat):Bool:=(ws.getD (k/64) 0).testBit (k%64)
theorem shr_nat {w k:Nat} (hk:k<64):shrI .u64 (w:Int) (k:Int)=((w/2^k:Nat):Int):=by
 unfold shrI;have e:min (Int.toNat (k:Int)) (IntKind.bits .u64)=k:=by simp[IntKind.bits];omega
 rw[e];show Int.fdiv (w:Int) ((2:Int)^k)=_;rw[show ((2:Int)^k)=((2^k:Nat):Int) by simp,Int.fdiv_eq_ediv_of_nonneg _ (Int.natCast_nonneg _)];rfl
theorem and_one {w:Nat} (hw:w<2^64):andI .u64 (w:Int) 1=((w%2:Nat):Int):=by
 unfold andI;have e:(BitVec.ofInt (IntKind.bits .u64) (w:Int)&&&BitVec.ofInt (IntKind.bits .u64) 1).toNat=w%2:=by
  show (BitVec.ofInt 64 (w:Int)&&&BitVec.ofInt 64 ((1:Nat):Int)).toNat=w%2;rw[BitVec.ofInt_natCast,BitVec.ofInt_natCast,BitVec.toNat_and,BitVec.toNat_ofNat,BitVec.toNat_ofNat,Nat.mod_eq_of_lt hw];exact Nat.and_one_is_mod w
 rw[e];exact wu64 (by omega) (by omega)
theorem bit_has {w k:Nat} (hw:w<2^64) (hk:k<64):(andI .u64 (shrI .u64 (w:Int) (k:Int)) 1==1)=w.testBit k:=by
 rw[shr_nat hk,and_one (Nat.lt_of_le_of_lt (Nat.div_le_self _ _) hw),Nat.testBit_eq_decide_div_mod_eq];by_cases h:w/2^k%2=1
 .rw[h,decide_eq_true rfl];rfl
 .rw[decide_eq_false h];exact beq_eq_false_iff_ne.2 (by omega)
theorem shl_one {k:Nat} (hk:k<64):shlI .u64 1 (k:Int)=((2^k:Nat):Int):=by
 unfold shlI;have e:min (Int.toNat (k:Int)) (IntKind.bits .u64)=k:=by simp[IntKind.bits];omega
 rw[e,Int.one_mul];have h2:2^k<2^64:=Nat.pow_lt_pow_right (by omega) hk;rw[show ((2:Int)^k)=((2^k:Nat):Int) by simp];generalize 2^k=m at *;exact wu64 (by omega) (by omega)
theorem or_nat {a b:Nat} (ha:a<2^64) (hb:b<2^64):orI .u64 (a:Int) (b:Int)=((a|||b:Nat):Int):=by
 unfold orI;have e:(BitVec.ofInt (IntKind.bits .u64) (a:Int)|||BitVec.ofInt (IntKind.bits .u64) (b:Int)).toNat=a|||b:=by
  show (BitVec.ofInt 64 (a:Int)|||BitVec.ofInt 64 (b:Int)).toNat=_;rw[BitVec.ofInt_natCast,BitVec.ofInt_natCast,BitVec.toNat_or,BitVec.toNat_ofNat,BitVec.toNat_ofNat,Nat.mod_eq_of_lt ha,Nat.mod_eq_of_lt hb]
 rw[e];have:=Nat.or_lt_two_pow ha hb;exact wu64 (by omega) (by omega)
theorem clr_zero {a b:Nat} (ha:a<2^64) (hb:b<2^64):clrI .u64 (a:Int) (b:Int)=0 ↔ ∀k,k<64->a.testBit k=true->b.testBit k=true:=by
 have hlt:(BitVec.ofNat 64 a &&& ~~~BitVec.ofNat 64 b).toNat<18446744073709551616:=(BitVec.ofNat 64 a &&& ~~~BitVec.ofNat 64 b).isLt;have key:clrI .u64 (a:Int) (b:Int)=((BitVec.ofNat 64 a &&& ~~~BitVec.ofNat 64 b).toNat:Int):=by
  unfold clrI;show IntKind.wrap .u64 ((BitVec.ofInt 64 (a:Int) &&& ~~~BitVec.ofInt 64 (b:Int)).toNat:Int)=_;rw[BitVec.ofInt_natCast,BitVec.ofInt_natCast];exact wu64 (by omega) (by omega)
 rw[key];have bitx:∀k,k<64->(BitVec.ofNat 64 a &&& ~~~BitVec.ofNat 64 b).getLsbD k=(a.testBit k && !b.testBit k):=fun k hk=>by
  rw[BitVec.getLsbD_and,BitVec.getLsbD_not,BitVec.getLsbD_ofNat,BitVec.getLsbD_ofNat];simp[hk]
 constructor
 .intro h k hk hak;have h0:(BitVec.ofNat 64 a &&& ~~~BitVec.ofNat 64 b)=0#64:=BitVec.eq_of_toNat_eq (by rw[show (BitVec.ofNat 64 a &&& ~~~BitVec.ofNat 64 b).toNat=0 by omega];rfl);have:=bitx k hk;rw[h0,BitVec.getLsbD_zero,hak] at this;cases hbk:b.testBit k
  .rw[hbk] at this;cases this
  .rfl
 .intro h;have h0:(BitVec.ofNat 64 a &&& ~~~BitVec.ofNat 64 b)=0#64:=by
   apply BitVec.eq_of_getLsbD_eq;intro k hk;rw[bitx k hk,BitVec.getLsbD_zero];cases hak:a.testBit k
   .rfl
   .rw[h k hk hak];rfl
  rw[h0];rfl
theorem memB_set {ws:List Nat} {n k:Nat} (hn:n/64<ws.length):memB (ws.set (n/64) (ws.getD (n/64) 0|||2^(n%64))) k=(decide (k=n)||memB ws k):=by
 unfold memB;by_cases h:k/64=n/64
 .rw[h,Yo,Yq hn];show Nat.testBit (ws.getD (n/64) 0|||2^(n%64)) (k%64)=_;rw[Nat.testBit_or,Nat.testBit_two_pow,Bool.or_comm];congr 1;by_cases h2:k=n
  .subst h2;simp
  .rw[decide_eq_false h2];simp only[decide_eq_false_iff_not];omega
 .rw[Yo,Yy (fun e=>h e.symm),<-Yo];have:k≠n:=fun e=>h (by rw[e]);simp[this]
theorem memB_zero (n k:Nat):memB (List.replicate n 0) k=false:=by
 unfold memB;rw[Yo,List.getElem?_replicate];split<;>simp
theorem memB_take {ws:List Nat} {n:Nat} (h:∀i w,n<=i->ws[i]?=some w->w=0) (k:Nat):memB (ws.take n) k=memB ws k:=by
 unfold memB;rw[Yo,Yo,Yyf];split
 .rfl
 .rename_i hn;cases hw:ws[k/64]? with
  | none=>rfl
  | some w=>rw[h _ w (by omega) hw];simp
structure SetV (h:Heap) (s:Sl) (p:Nat->Bool):Prop where
 ex:∃ws:List Nat,Rw h 1 s (ws.map wC)/\ws.length<=64/\(∀w∈ws,w<2^64)/\∀k,memB ws k=p k
theorem SetV.ext {h h':Heap} {s:Sl} {p:Nat->Bool} (hs:SetV h s p) (E:Ext h h'):SetV h' s p:=by
 obtain⟨ws,h1,h2⟩:=hs.ex;exact⟨ws,h1.ext E,h2⟩
end Go.VC
end

section
namespace Go.VC
open Go.RowKit
structure Ev where
 send:Bool
 peer:Int
 label:Int
 deriving DecidableEq
def Ev.cs (x:Ev):List Value:=[.bool x.send,.int .i64 x.peer,.int .i64 x.label]
structure Ar where
 x:Ev
 to:Int
def Ar.cs (a:Ar):List Value:=[.bool a.x.send,.int .i64 a.x.peer,.int .i64 a.x.label,.int .i64 a.to]
def slC (s:Sl):List Value:=[.slice s.a s.n s.c]
def vis1 (role:Int) (x:Ed):Option Ev:=if role=x.a then some ⟨true,x.b,x.l⟩ else if role=x.b then some ⟨false,x.a,x.l⟩ else none
def quietL (es:List Ed) (role:Int) (n:Nat):List Int:=es.filterMap fun x=>if x.f=(n:Int) then (match vis1 role x with | none=>some x.t | some _=>none) else none
def visL (es:List Ed) (role:Int) (n:Nat):List Ar:=es.filterMap fun x=>if x.f=(n:Int) then (vis1 role x).map fun e=>⟨e,x.t⟩ else none
theorem quietL_snoc (es:List Ed) (role:Int) (n:Nat) (x:Ed):quietL (es++[x]) role n=quietL es role n++(if x.f=(n:Int) then (match vis1 role x with | none=>[x.t] | some _=>[]) else []):=by
 unfold quietL;rw[List.filterMap_append];congr 1;by_cases h:x.f=(n:Int)
 .simp only[List.filterMap_cons,List.filterMap_nil,if_pos h];cases vis1 role x<;>rfl
 .simp only[List.filterMap_cons,List.filterMap_nil,if_neg h]
theorem visL_snoc (es:List Ed) (role:Int) (n:Nat) (x:Ed):visL (es++[x]) role n=visL es role n++(if x.f=(n:Int) then (match vis1 role x with | none=>[] | some e=>[⟨e,x.t⟩]) else []):=by
 unfold visL;rw[List.filterMap_append];congr 1;by_cases h:x.f=(n:Int)
 .simp only[List.filterMap_cons,List.filterMap_nil,if_pos h];cases vis1 role x<;>rfl
 .simp only[List.filterMap_cons,List.filterMap_nil,if_neg h]
def nest {α:Type} (e:TypeId) (k:Nat) (cs:α->List Value) (q:Sl × List α):It:=.sl q.1 e k (q.2.map cs)
theorem set_mid {α:Type} {P R:List α} {Q:List α} {i:Nat} (hi:i<Q.length) (x:α):(P++Q++R).set (P.length+i) x=P++Q.set i x++R:=by
 rw[Yz,List.set_append_right _ _ (by omega),Nat.add_sub_cancel_left,List.set_append_left _ _ hi,Yz]
theorem get_mid {α:Type} {P R:List α} {Q:List α} {i:Nat} (hi:i<Q.length):(P++Q++R)[P.length+i]?=Q[i]?:=by
 rw[Yz,Yyc (by omega),Nat.add_sub_cancel_left,Yyi hi]
theorem St.nestAt {α:Type} {P:Program} {h0 h:Heap} {A B:List It} {Q:List (Sl × List α)} {e:TypeId} {n:Nat} {cs:α->List Value} (hs:St h0 h (A++Q.map (nest e n cs)++B)) {i:Nat} {q:Sl × List α} (hi:Q[i]?=some q)
  {t bytes:Nat} (hT:appB P t e n bytes=true) (d:α) {a:Addr} (ha:atC h a (cs d)) (hn:(cs d).length=n) (h1:(cs d).all oneB=true) (hb:(q.1.n+1)*bytes<=140737488355328) (h63:q.1.n+1<=maxLen)
  {K:Sl->Heap->Prop} (hK:∀(r:Sl) (h':Heap),r.n=q.1.n+1->St h0 h' (A++(Q.set i (r,q.2++[d])).map (nest e n cs)++B)->K r h') :
  App P t t (.slice q.1.a q.1.n q.1.c) (.slice (some a) 1 1) h K:=by
 have hil:i<Q.length:=(Ya.1 hi).1;have hil':i<(Q.map (nest e n cs)).length:=by rw[Yc];exact hil
 refine hs.appended (A.length+i) (rows:=q.2.map cs) (by rw[get_mid hil',Yd,hi];rfl) hT (news:=[cs d]) (by simpa using ha) rfl (fun r hr=>by rw[Ye] at hr;rw[hr];exact hn) (by simpa using h1) hb h63 fun r h' hrn h3=>hK r h' hrn ?_;rw[set_mid hil'] at h3;have e1:(Q.map (nest e n cs)).set i (.sl r e n (q.2.map cs++[cs d]))=(Q.set i (r,q.2++[d])).map (nest e n cs):=by
  rw[List.map_set];congr 1;unfold nest;simp
 rw[e1] at h3;exact h3
theorem St.newbE {h0 h:Heap} {L:List It} (hs:St h0 h L) {xs:List Value} {e:TypeId} {K:Heap->Prop} (hK:∀h2,Ext h h2->St h0 h2 (.blk h.size xs e::L)->K h2):∀h2:Heap,h2=h.push (.cells ⟨xs⟩ e)->K h2:=
 VC.newb fun h2 E o=>hK h2 E (hs.more E (i:=.blk h.size xs e) o fun b hb=>by cases hb;exact Yyt _)
theorem St.perm {h0 h:Heap} {L L':List It} (hs:St h0 h L) (hp:L.Perm L'):St h0 h L':=
 ⟨hs.ext,fun i hi=>hs.ok i (hp.mem_iff.2 hi),(hp.pairwise_iff (fun {a b} hab x hx hy=>hab x hy hx)).1 hs.ap⟩
theorem St.nests {α:Type} {h0 h:Heap} {A B:List It} {e:TypeId} {k:Nat} {cs:α->List Value} (hs:St h0 h (A++B)):∀n:Nat,St h0 h (A++(List.replicate n ((⟨.none,0,0⟩,[]):Sl × List α)).map (nest e k cs)++B)
 | 0=>by simpa using hs
 | n+1=>by
  have h1:=(hs.nests (α:=α) (e:=e) (k:=k) (cs:=cs) n).nil_ e k;refine h1.perm ?_;rw[List.replicate_succ,Yyl,Yz,Yz];have:nest e k cs ((⟨.none,0,0⟩,[]):Sl × List α)=.sl ⟨.none,0,0⟩ e k []:=rfl;rw[this];exact List.perm_middle.symm
theorem sm_nil {h h':Heap}:Sm [] h h':=fun a ha=>by cases ha
theorem sm_cons {h h':Heap} {a:Addr} {al:List Addr} (hb:h'[a.block]?=h[a.block]?) (hr:Sm al h h'):Sm (a::al) h h':=by
 intro x hx k v hv;rcases Yr.1 hx with rfl | hx
 .rw[hc_of_block (h:=h) (by rw[addk_block'];exact hb)];exact hv
 .exact hr x hx k v hv
theorem St.same {h0 h h':Heap} {L L':List It} (hs:St h0 h L) (hs':St h0 h' L') (k k':Nat) {b:Nat} {xs:List Value} {e:TypeId} (hk:L[k]?=some (.blk b xs e)) (hk':L'[k']?=some (.blk b xs e)):h'[b]?=h[b]?:=(hs'.get hk').trans (hs.get hk).symm
structure LkI (h:Heap) (p:Addr) (g:Gl) (role:Int):Prop where
 ex:∃(hq hv:Sl) (qs vs:Nat->Sl),p.spot=none/\atC h p (g.cs++[.int .i64 role,.slice hq.a hq.n hq.c,.slice hv.a hv.n hv.c])/\hq.n=g.n.toNat/\hv.n=g.n.toNat /\
  Rw h 1 hq ((List.range g.n.toNat).map fun i=>slC (qs i))/\Rw h 1 hv ((List.range g.n.toNat).map fun i=>slC (vs i)) /\
  (∀i,i<g.n.toNat->Rw h 1 (qs i) ((quietL g.es role i).map inC))/\∀i,i<g.n.toNat->Rw h 4 (vs i) ((visL g.es role i).map Ar.cs)
theorem LkI.ext {h h':Heap} {p:Addr} {g:Gl} {role:Int} (hl:LkI h p g role) (E:Ext h h'):LkI h' p g role:=by
 obtain⟨hq,hv,qs,vs,h0,h1,h2,h3,h4,h5,h6,h7⟩:=hl.ex;exact⟨hq,hv,qs,vs,h0,atC_ext E h1,h2,h3,h4.ext E,h5.ext E,fun i hi=>(h6 i hi).ext E,fun i hi=>(h7 i hi).ext E⟩
end Go.VC
end

section
namespace Go.VC
theorem map_get {α β:Type} (f:α->β) (L:List α) (i:Nat):(L.map f)[i]?=(L[i]?).map f:=Yd
theorem map_splice {α:Type} (f:α->Value) {L:List α} {i:Nat} (hi:i<L.length) (y:α):splice (L.map f) i [f y]=(L.set i y).map f:=by
 unfold splice;rw[List.map_set,List.set_eq_take_append_cons_drop,if_pos (by rw[Yc];exact hi)];simp
inductive Qr (es:List Ed) (role:Int) (l:List Int):Int->Prop where
 | base {a:Int}:a∈l->Qr es role l a
 | step {a b:Int}:Qr es role l a->(∃x∈es,vis1 role x=none/\x.f=a/\x.t=b)->Qr es role l b
structure CL (es:List Ed) (role:Int) (n:Nat) (l:List Int) (D:List Bool) (T:List Int):Prop where
 len:D.length=n
 cnt:T.length=D.count true
 mem:∀v,v∈T ↔ 0<=v/\D[v.toNat]?=some true
 r:∀v∈T,Qr es role l v
theorem CL.start (es:List Ed) (role:Int) (n:Nat) (l:List Int):CL es role n l (List.replicate n false) []:=by
 refine⟨by rw[Yg],by rw[List.count_replicate];rfl,fun v=>⟨fun h=>(by cases h),fun ⟨_,h⟩=>?_⟩,fun v h=>by cases h⟩;have:=List.eq_of_mem_replicate (Yb h);cases this
theorem CL.push {es:List Ed} {role:Int} {n:Nat} {l:List Int} {D:List Bool} {T:List Int} (h:CL es role n l D T) {b:Int} (h0:0<=b) (hb:D[b.toNat]?=some false) (hr:Qr es role l b):CL es role n l (D.set b.toNat true) (T++[b]):=by
 have hbl:=(Ya.1 hb).1;have hbe:=(Ya.1 hb).2;refine⟨by rw[Yyh];exact h.len,?_,fun v=>?_,fun v hv=>?_⟩
 .rw[List.count_set hbl,hbe,Yh,h.cnt];rfl
 .rw[Yk,Ye,h.mem];constructor
  .rintro (⟨h1,h2⟩ | rfl)
   .refine⟨h1,?_⟩;by_cases e:b.toNat=v.toNat
    .rw[e,Yq (by omega)]
    .rw[Yy e];exact h2
   .exact⟨h0,by rw[Yq hbl]⟩
  .rintro⟨h1,h2⟩;by_cases e:b.toNat=v.toNat
   .right;omega
   .left;rw[Yy e] at h2;exact⟨h1,h2⟩
 .rcases Yk.1 hv with hv | hv
  .exact h.r v hv
  .rw[Ye] at hv;rw[hv];exact hr
theorem CL.le {es:List Ed} {role:Int} {n:Nat} {l:List Int} {D:List Bool} {T:List Int} (h:CL es role n l D T):T.length<=n:=by
 rw[h.cnt,<-h.len];exact List.count_le_length
theorem quietL_mem {es:List Ed} {role:Int} {n:Nat} {b:Int}:b∈quietL es role n ↔ ∃x∈es,vis1 role x=none/\x.f=n/\x.t=b:=by
 unfold quietL;rw[Yym];constructor
 .rintro⟨x,hx,h⟩;split at h
  .rename_i hf;cases hv:vis1 role x with
   | none=>rw[hv] at h;exact⟨x,hx,hv,hf,Yyp h⟩
   | some e=>rw[hv] at h;cases h
  .cases h
 .rintro⟨x,hx,hv,hf,rfl⟩;exact⟨x,hx,by rw[if_pos hf,hv]⟩
theorem CL.end_ {es:List Ed} {role:Int} {n:Nat} {l:List Int} {D:List Bool} {T:List Int} (h:CL es role n l D T) (hl:∀x∈l,x∈T) (hc:∀v∈T,∀b∈quietL es role v.toNat,b∈T) (v:Int):v∈T ↔ Qr es role l v:=by
 refine⟨h.r v,fun hq=>?_⟩
 induction hq with
 | base hm=>exact hl _ hm
 | @step a b _ hx ih=>
  obtain⟨x,hx,hv,hf,rfl⟩:=hx;exact hc _ ih _ (quietL_mem.2 ⟨x,hx,hv,by have:=((h.mem a).1 ih).1;omega,rfl⟩)
noncomputable def clo (es:List Ed) (role:Int) (l:List Int):Nat->Bool:=fun j=>by classical exact decide (Qr es role l (j:Int))
theorem clo_iff {es:List Ed} {role:Int} {l:List Int} {j:Nat}:clo es role l j=true ↔ Qr es role l (j:Int):=by unfold clo;simp
def cmpI (x y:Int):Int:=if x<y then -1 else if x>y then 1 else 0
def orI3 (x y:Int):Int:=if x≠0 then x else y
def cmpE (x y:Ev):Int:=if x.send≠y.send then (if x.send then -1 else 1) else orI3 (cmpI x.peer y.peer) (cmpI x.label y.label)
def evLt (x y:Ev):Prop:=(x.send=true/\y.send=false)\/(x.send=y.send/\(x.peer<y.peer\/(x.peer=y.peer/\x.label<y.label)))
instance (x y:Ev):Decidable (evLt x y):=by unfold evLt;infer_instance
theorem cmpE_neg {x y:Ev}:cmpE x y<0 ↔ evLt x y:=by
 unfold cmpE evLt orI3 cmpI;obtain⟨s,p,l⟩:=x;obtain⟨t,q,m⟩:=y;cases s<;>cases t<;>simp<;>(repeat' split)<;>omega
theorem ev_ext {x y:Ev} (h1:x.send=y.send) (h2:x.peer=y.peer) (h3:x.label=y.label):x=y:=by
 obtain⟨s,p,l⟩:=x;obtain⟨t,q,m⟩:=y
 simp_all
theorem evLt_irr (x:Ev):¬evLt x x:=by unfold evLt;intro h;rcases h with ⟨h1,h2⟩ | ⟨_,h | ⟨_,h⟩⟩<;>first | (rw[h1] at h2;cases h2) | omega
theorem evLt_trans {x y z:Ev} (h1:evLt x y) (h2:evLt y z):evLt x z:=by
 unfold evLt at *;obtain⟨s,p,l⟩:=x;obtain⟨t,q,m⟩:=y;obtain⟨u,r,n⟩:=z;cases s<;>cases t<;>cases u<;>simp_all<;>omega
theorem evLt_tri (x y:Ev):evLt x y\/x=y\/evLt y x:=by
 unfold evLt;obtain⟨s,p,l⟩:=x;obtain⟨t,q,m⟩:=y;cases s<;>cases t<;>simp<;>omega
def compactL:List Ev->List Ev
 | []=>[]
 | x::r=>match compactL r with
  | []=>[x]
  | y::t=>if x=y then y::t else x::y::t
theorem compactL_mem:∀(l:List Ev) (x:Ev),x∈compactL l ↔ x∈l
 | [],x=>by simp[compactL]
 | a::r,x=>by
  have ih:=compactL_mem r;rw[compactL];split
  .rename_i h;rw[h] at ih;have:=ih x
   simp_all
  .rename_i y t h;rw[h] at ih;have h1:=ih x;split
   .rename_i e;subst e;have h2:=(ih a).1 (by simp);rw[h1];simp only[Yr];constructor
    .exact .inr
    .rintro (rfl | h)
     .exact h2
     .exact h
   .rw[Yr,h1,Yr]
theorem compactL_sorted:∀(l:List Ev),l.Pairwise (fun a b=>¬evLt b a)->(compactL l).Pairwise evLt
 | [],_=>by simp[compactL]
 | a::r,h=>by
  obtain⟨h1,h2⟩:=List.pairwise_cons.1 h;have ih:=compactL_sorted r h2;rw[compactL];split
  .simp
  .rename_i y t hc;rw[hc] at ih;split
   .exact ih
   .rename_i hne;refine List.pairwise_cons.2 ⟨fun z hz=>?_,ih⟩;have hay:evLt a y:=by
     have hy:y∈r:=(compactL_mem r y).1 (by rw[hc];simp);rcases evLt_tri a y with h3 | h3 | h3
     .exact h3
     .exact absurd h3 hne
     .exact absurd h3 (h1 y hy)
    rcases Yr.1 hz with rfl | hz
    .exact hay
    .exact evLt_trans hay ((List.pairwise_cons.1 ih).1 z hz)
theorem sorted_ext:∀(l m:List Ev),l.Pairwise evLt->m.Pairwise evLt->(∀x,x∈l ↔ x∈m)->l=m
 | [],[],_,_,_=>rfl
 | [],b::m,_,_,h=>absurd ((h b).2 (by simp)) (by simp)
 | a::l,[],_,_,h=>absurd ((h a).1 (by simp)) (by simp)
 | a::l,b::m,hl,hm,h=>by
  obtain⟨h1,h2⟩:=List.pairwise_cons.1 hl;obtain⟨h3,h4⟩:=List.pairwise_cons.1 hm;have hab:a=b:=by
   rcases Yr.1 ((h a).1 (by simp)) with e | ha
   .exact e
   .rcases Yr.1 ((h b).2 (by simp)) with e | hb
    .exact e.symm
    .exact absurd (evLt_trans (h1 b hb) (h3 a ha)) (evLt_irr a)
  subst hab;congr 1;refine sorted_ext l m h2 h4 fun x=>?_;have hx:=h x;rw[Yr,Yr] at hx;constructor
  .intro hm';rcases hx.1 (.inr hm') with rfl | h5
   .exact absurd (h1 x hm') (evLt_irr x)
   .exact h5
  .intro hm';rcases hx.2 (.inr hm') with rfl | h5
   .exact absurd (h3 x hm') (evLt_irr x)
   .exact h5
def insE (x:Ev):List Ev->List Ev
 | []=>[x]
 | y::r=>if evLt y x then y::insE x r else if x=y then y::r else x::y::r
theorem insE_mem (x z:Ev):∀l:List Ev,z∈insE x l ↔ z=x\/z∈l
 | []=>by simp[insE]
 | y::r=>by
  rw[insE];split
  .rw[Yr,insE_mem x z r,Yr];constructor
   .rintro (h | h | h)
    .exact .inr (.inl h)
    .exact .inl h
    .exact .inr (.inr h)
   .rintro (h | h | h)
    .exact .inr (.inl h)
    .exact .inl h
    .exact .inr (.inr h)
  .split
   .rename_i e;subst e;simp
   .simp
theorem insE_sorted (x:Ev):∀l:List Ev,l.Pairwise evLt->(insE x l).Pairwise evLt
 | [],_=>by simp[insE]
 | y::r,h=>by
  obtain⟨h1,h2⟩:=List.pairwise_cons.1 h;rw[insE];split
  .rename_i hyx;refine List.pairwise_cons.2 ⟨fun z hz=>?_,insE_sorted x r h2⟩;rcases (insE_mem x z r).1 hz with rfl | hz
   .exact hyx
   .exact h1 z hz
  .split
   .exact h
   .rename_i hyx hne;have hxy:evLt x y:=by
     rcases evLt_tri x y with h3 | h3 | h3
     .exact h3
     .exact absurd h3 hne
     .exact absurd h3 hyx
    refine List.pairwise_cons.2 ⟨fun z hz=>?_,h⟩;rcases Yr.1 hz with rfl | hz
    .exact hxy
    .exact evLt_trans hxy (h1 z hz)
def sortE (l:List Ev):List Ev:=l.foldr insE []
theorem sortE_mem (l:List Ev) (x:Ev):x∈sortE l ↔ x∈l:=by
 unfold sortE
 induction l with
 | nil=>simp
 | cons a l ih=>rw[List.foldr_cons,insE_mem,ih,Yr]
theorem sortE_sorted (l:List Ev):(sortE l).Pairwise evLt:=by
 unfold sortE
 induction l with
 | nil=>simp
 | cons a l ih=>exact insE_sorted a _ ih
theorem compact_sortE {l l':List Ev} (hp:l'.Perm l) (hs:l'.Pairwise fun a b=>¬evLt b a):compactL l'=sortE l:=
 sorted_ext _ _ (compactL_sorted l' hs) (sortE_sorted l) fun x=>by rw[compactL_mem,sortE_mem,hp.mem_iff]
def elems (p:Nat->Bool):List Nat:=(List.range 4096).filter p
theorem elems_mem {p:Nat->Bool} {j:Nat}:j∈elems p ↔ j<4096/\p j=true:=by unfold elems;rw[List.mem_filter,List.mem_range]
def toL (es:List Ed) (role:Int) (p:Nat->Bool) (x:Ev):List Int:=(elems p).flatMap fun n=>(visL es role n).filterMap fun a=>if a.x=x then some a.to else none
def evL (es:List Ed) (role:Int) (p:Nat->Bool):List Ev:=(elems p).flatMap fun n=>(visL es role n).map (·.x)
def evs (es:List Ed) (role:Int) (p:Nat->Bool):List Ev:=sortE (evL es role p)
end Go.VC
end

section
namespace Go.VC
structure Mv where
 f:Int
 send:Bool
 peer:Int
 label:Int
 t:Int
 ag:Bool
 deriving DecidableEq
def Mv.cs (m:Mv):List Value:=[.int .i64 m.f,.bool m.send,.int .i64 m.peer,.int .i64 m.label,.int .i64 m.t,.bool m.ag]
abbrev PSet:=Nat->Bool
open Classical in
noncomputable def rowI:List PSet->PSet->Nat
 | [],_=>0
 | q::r,p=>if q=p then 0 else rowI r p+1
open Classical in
noncomputable def rowS (S:List PSet) (p:PSet):List PSet:=if p∈S then S else S++[p]
theorem rowI_lt {S:List PSet} {p:PSet}:rowI S p<S.length ↔ p∈S:=by
 induction S with
 | nil=>simp[rowI]
 | cons q r ih=>
  rw[rowI,Yr];split
  .rename_i h;simp[h]
  .rename_i h;rw[Yyj];constructor
   .intro h1;exact .inr (ih.1 (by omega))
   .rintro (h1 | h1)
    .exact absurd h1.symm h
    .have:=ih.2 h1;omega
theorem rowI_of_not {S:List PSet} {p:PSet} (h:p∉S):rowI S p=S.length:=by
 induction S with
 | nil=>rfl
 | cons q r ih=>
  rw[Yr,not_or] at h;rw[rowI,if_neg (fun e=>h.1 e.symm),ih h.2,Yyj]
theorem rowI_first {S:List PSet} {p:PSet} {i:Nat} (hi:S[i]?=some p) (h:∀(j:Nat) (q:PSet),j<i->S[j]?=some q->q≠p):rowI S p=i:=by
 induction S generalizing i with
 | nil=>simp at hi
 | cons q r ih=>
  cases i with
  | zero=>simp at hi;rw[rowI,if_pos hi]
  | succ i=>
   rw[rowI,if_neg (h 0 q (by omega) rfl),ih (by simpa using hi) fun j q' hj hq=>h (j+1) q' (by omega) (by simpa using hq)]
noncomputable def arcsF (es:List Ed) (role:Int) (i:Nat) (p:PSet):List Ev->List PSet->List Mv->List PSet × List Mv
 | [],S,M=>(S,M)
 | x::r,S,M=>arcsF es role i p r (rowS S (clo es role (toL es role p x))) (M++[⟨i,x.send,x.peer,x.label,rowI S (clo es role (toL es role p x)),false⟩])
noncomputable def viewsF (es:List Ed) (role:Int):Nat->Nat->List PSet->List Mv->Option (List PSet × List Mv)
 | 0,_,_,_=>none
 | f+1,i,S,M=>match S[i]? with
  | none=>some (S,M)
  | some p=>if (arcsF es role i p (evs es role p) S M).1.length>200 then none else viewsF es role f (i+1) (arcsF es role i p (evs es role p) S M).1 (arcsF es role i p (evs es role p) S M).2
noncomputable def views (g:Gl) (role:Int):Option (List PSet × List Mv):=viewsF g.es role 202 0 [clo g.es role [g.s]] []
end Go.VC
end

section
namespace Go.VC
structure Ti where
 ag:Bool
 k:Int
 x:Ev
 deriving DecidableEq
def Ti.cs (t:Ti):List Value:=[.bool t.ag,.int .i64 t.k,.bool t.x.send,.int .i64 t.x.peer,.int .i64 t.x.label]
def ti0:Ti:=⟨false,0,⟨false,0,0⟩⟩
def updT (T:List Ti) (n:Nat) (f:Ti->Ti):List Ti:=match T[n]? with | some t=>T.set n (f t) | none=>T
def own1 (role:Int) (s:List Bool × List Ti) (x:Ed):List Bool × List Ti:=
 if x.a=role then (s.1.set x.f.toNat true,updT s.2 x.f.toNat fun t=>{ t with ag:=x.ag }) else s
def own2 (es:List Ed) (O:List Bool) (T:List Ti) (t:To):List Ti:=
 match O[t.s.toNat]?,es[t.e.toNat]? with
 | some true,some x=>updT T t.s.toNat fun q=>⟨q.ag,t.k,⟨true,x.b,x.l⟩⟩
 | _,_=>T
theorem updT_len (T:List Ti) (n:Nat) (f:Ti->Ti):(updT T n f).length=T.length:=by
 unfold updT;split
 .rw[Yyh]
 .rfl
theorem own1_len (role:Int) (s:List Bool × List Ti) (x:Ed):(own1 role s x).1.length=s.1.length/\(own1 role s x).2.length=s.2.length:=by
 unfold own1;split
 .exact⟨Yyh,updT_len _ _ _⟩
 .exact⟨rfl,rfl⟩
theorem own2_len (es:List Ed) (O:List Bool) (T:List Ti) (t:To):(own2 es O T t).length=T.length:=by
 unfold own2;split
 .exact updT_len _ _ _
 .rfl
def ownE (es:List Ed) (role:Int) (n:Nat):List Bool × List Ti:=es.foldl (own1 role) (List.replicate n false,List.replicate n ti0)
def ownT (es:List Ed) (ts:List To) (role:Int) (n:Nat):List Ti:=ts.foldl (own2 es (ownE es role n).1) (ownE es role n).2
theorem ownE_len (es:List Ed) (role:Int) (n:Nat):(ownE es role n).1.length=n/\(ownE es role n).2.length=n:=by
 unfold ownE
 suffices h:∀(l:List Ed) (s:List Bool × List Ti),(l.foldl (own1 role) s).1.length=s.1.length/\(l.foldl (own1 role) s).2.length=s.2.length by
  have:=h es (List.replicate n false,List.replicate n ti0);simpa using this
 intro l
 induction l with
 | nil=>intro s;exact⟨rfl,rfl⟩
 | cons a l ih=>intro s;rw[List.foldl_cons];have h1:=ih (own1 role s a);have h2:=own1_len role s a;exact⟨h1.1.trans h2.1,h1.2.trans h2.2⟩
theorem ownT_len (es:List Ed) (ts:List To) (role:Int) (n:Nat):(ownT es ts role n).length=n:=by
 unfold ownT
 suffices h:∀(l:List To) (T:List Ti),(l.foldl (own2 es (ownE es role n).1) T).length=T.length from (h ts _).trans (ownE_len es role n).2
 intro l
 induction l with
 | nil=>intro s;rfl
 | cons a l ih=>intro s;rw[List.foldl_cons,ih,own2_len]
theorem foldl_snoc {α β:Type} {f:β->α->β} {b:β} {l:List α} {i:Nat} {x:α} (h:l[i]?=some x):(l.take (i+1)).foldl f b=f ((l.take i).foldl f b) x:=by
 rw[List.take_add_one,h,List.foldl_append];rfl
theorem St.setf {α:Type} {h0 h:Heap} {L:List It} (hs:St h0 h L) (k:Nat) {s:Sl} {e:TypeId} {n:Nat} {cs:α->List Value} {l:List α} (hk:L[k]?=some (.sl s e n (l.map cs))) (hn:0<n) {x:Int} (hx0:0<=x) (hx1:x<(s.n:Nat)) (j:Nat) {y:α} (hy:l[x.toNat]?=some y) (y':α) {vs:List Value} (hsp:splice (cs y) j vs=cs y')
  (hv:j+vs.length<=n) {m:Nat} (hm:m=vs.length) {K:Nat->Nat->Heap->Prop} (hK:∀b o h',St h0 h' (L.set k (.sl s e n ((l.set x.toNat y').map cs)))->K b o h') :
  NB s.a fun b o=>(0<=x/\x<(s.n:Nat))/\(okAt h ⟨b,o+x.toNat*n+j,none⟩ m/\∀h',h'=hputs h ⟨b,o+x.toNat*n+j,none⟩ 0 vs->K b o h'):=by
 refine hs.nbput k hk hn (i:=x.toNat) (row:=cs y) (by rw[Yd,hy];rfl) j hv (fun b o h' h1=>hK b o h' ?_) hm ⟨hx0,hx1⟩;rw[hsp] at h1;rw[List.map_set];exact h1
theorem updT_get {T:List Ti} {n:Nat} {f:Ti->Ti} {t:Ti} (h:T[n]?=some t):updT T n f=T.set n (f t):=by unfold updT;rw[h]
def sndAt (L:List Ev) (i:Nat):Bool:=match L[i]? with | some x=>x.send | none=>false
def badV (F:Nat->List Ev) (en:Nat->Bool) (l:List Nat) (n:Nat):Bool:=sndAt (F n) 0&&(en n || !sndAt (F n) ((F n).length-1)||l.any fun k=>en k||decide (F n≠F k))
def stepV (F:Nat->List Ev) (en:Nat->Bool) (O:List Bool) (T:List Ti) (l:List Nat) (st:Option (Bool × Ti)) (n:Nat):Option (Bool × Ti):=
 match st with
 | none=>none
 | some (k,o)=>if badV F en l n then none else match O[n]?,T[n]? with
  | some true,some t=>if k&&decide (t≠o) then none else some (true,t)
  | _,_=>some (k,o)
def viewV (F:Nat->List Ev) (en:Nat->Bool) (O:List Bool) (T:List Ti) (l:List Nat):Option Ti:=(l.foldl (stepV F en O T l) (some (false,ti0))).map Prod.snd
theorem stepV_none (F:Nat->List Ev) (en:Nat->Bool) (O:List Bool) (T:List Ti) (l m:List Nat):m.foldl (stepV F en O T l) none=none:=by
 induction m with
 | nil=>rfl
 | cons a m ih=>rw[List.foldl_cons];exact ih
theorem viewV_none {F:Nat->List Ev} {en:Nat->Bool} {O:List Bool} {T:List Ti} {l:List Nat} {i:Nat} {b:Option (Bool × Ti)} {n:Nat} (hb:(l.take i).foldl (stepV F en O T l) (some (false,ti0))=b) (hn:l[i]?=some n) (h:stepV F en O T l b n=none):viewV F en O T l=none:=by
 unfold viewV;have e:l=l.take i++(n::l.drop (i+1)):=by
  have:=List.take_append_drop i l;obtain⟨h1,h2⟩:=Ya.1 hn;rw[List.drop_eq_getElem_cons h1,h2] at this;exact this.symm
 have e2:l.foldl (stepV F en O T l) (some (false,ti0))=none:=by
  have:∀m,m=l->m.foldl (stepV F en O T l) (some (false,ti0))=none:=by
   intro m hm;rw[hm.trans e,List.foldl_append,hb,List.foldl_cons,h,stepV_none]
  exact this l rfl
 rw[e2];rfl
theorem ti_eqb (x y:Ti):(((x.ag==y.ag)&&((x.k==y.k)&&(((x.x.send==y.x.send)&&((x.x.peer==y.x.peer)&&((x.x.label==y.x.label)&&true)))&&true))):Bool)=decide (x=y):=by
 obtain⟨a,k,⟨s,p,l⟩⟩:=x;obtain⟨a',k',⟨s',p',l'⟩⟩:=y;simp[Bool.beq_eq_decide_eq,<-Bool.decide_and]
theorem Rw.atI {α:Type} {h:Heap} {k:Nat} {s:Sl} {cs:α->List Value} {L:List α} (hr:Rw h k s (L.map cs)) {b o:Nat} (ha:s.a=some ⟨b,o,none⟩) {i:Nat} {y:α} (hi:L[i]?=some y):atC h ⟨b,o+i*k,none⟩ (cs y):=by
 obtain⟨b',o',ha',hall⟩:=hr.2 (by rw[Yc];have:=(Ya.1 hi).1;omega);rw[ha] at ha';cases ha';exact hall i (cs y) (by rw[Yd,hi];rfl)
theorem St.nbw {α:Type} {h0 h:Heap} {L:List It} (hs:St h0 h L) (k:Nat) {s:Sl} {e:TypeId} {n:Nat} {cs:α->List Value} {l:List α} (hk:L[k]?=some (.sl s e n (l.map cs))) (hn:0<n) {x:Int} (hx0:0<=x) (hx1:x<(s.n:Nat)) {F:Nat->Nat->Prop}
  (hF:∀b o y,l[x.toNat]?=some y->s.a=some ⟨b,o,none⟩->atC h ⟨b,o+x.toNat*n,none⟩ (cs y)->(∀(j:Nat) (y':α) (vs:List Value),splice (cs y) j vs=cs y'->j+vs.length<=n->∀ {m:Nat} (_:m=vs.length) {K:Heap->Prop},(∀h',St h0 h' (L.set k (.sl s e n ((l.set x.toNat y').map cs)))->K h') ->
   okAt h ⟨b,o+x.toNat*n+j,none⟩ m/\∀h',h'=hputs h ⟨b,o+x.toNat*n+j,none⟩ 0 vs->K h')->F b o):NB s.a fun b o=>(0<=x/\x<(s.n:Nat))/\F b o:=by
 have hr:=hs.rows k hk hn;have hl:=hr.ln;have hlt:x.toNat<l.length:=by omega
 have hg:l[x.toNat]?=some l[x.toNat]:=Yi hlt;refine hr.nb (i:=x.toNat) (row:=cs l[x.toNat]) (by rw[Yd,hg];rfl) fun b o ha hat=>⟨⟨hx0,hx1⟩,hF b o _ hg ha hat ?_⟩;intro j y' vs hsp hv m hm K hK;have h1:=hs.setf k hk hn hx0 hx1 j hg y' hsp hv hm (K:=fun _ _ h'=>K h') (fun _ _ h' h2=>hK h' h2);rw[ha,NB_some] at h1;exact h1.2
structure Mch where
 role:Int
 n:Int
 s:Int
 fin:List Bool
 mv:List Mv
 li:List To
def updR (n:Nat) (x:Ti) (y:Mv):Mv:=if y.f=n/\y.send=true then { y with ag:=x.ag } else y
def limC (n:Nat) (x:Ti) (q:Mv × Nat):Option To:=if q.1.f=n/\q.1.send=true/\x.k>0/\x.x=⟨true,q.1.peer,q.1.label⟩ then some ⟨n,x.k,q.2⟩ else none
def limR (n:Nat) (x:Ti) (M:List Mv):List To:=M.zipIdx.filterMap (limC n x)
def rawL (vw:List Nat->Option Ti):Nat->List PSet->List Mv->List To->Option (List Mv × List To)
 | _,[],M,L=>some (M,L)
 | n,p::S,M,L=>match vw (elems p) with
  | none=>none
  | some x=>rawL vw (n+1) S (M.map (updR n x)) (L++limR n x M)
theorem updR_same (n:Nat) (x:Ti) (y:Mv):(updR n x y).f=y.f/\(updR n x y).send=y.send/\(updR n x y).peer=y.peer/\(updR n x y).label=y.label/\(updR n x y).t=y.t:=by
 unfold updR;split<;>exact⟨rfl,rfl,rfl,rfl,rfl⟩
theorem limR_len (n:Nat) (x:Ti) (M:List Mv):(limR n x M).length<=M.length:=by
 unfold limR;refine Yys (List.length_filterMap_le _ _) ?_;rw[List.length_zipIdx];exact Yyt _
theorem zip_snoc {α:Type} {l:List α} {i:Nat} {x:α} (h:l[i]?=some x):(l.take (i+1)).zipIdx=(l.take i).zipIdx++[(x,i)]:=by
 rw[take_snoc h,List.zipIdx_append,Yu,Nat.min_eq_left (Nat.le_of_lt (Ya.1 h).1)];simp
theorem set_split {α:Type} {i:Nat} {x y:α} (f:α->α) {M:List α} (h:M[i]?=some x) (hy:f x=y):((M.take i).map f++M.drop i).set i y=(M.take (i+1)).map f++M.drop (i+1):=by
 obtain⟨h1,h2⟩:=Ya.1 h;have hl:((M.take i).map f).length=i:=by rw[Yc,Yu];omega
 rw[take_snoc h,Ym,List.drop_eq_getElem_cons h1,List.set_append_right _ _ (by omega),hl,Nat.sub_self,List.set_cons_zero,Yz,<-hy];rfl
theorem get_split {α:Type} {i:Nat} {f:α->α} {M:List α}:((M.take i).map f++M.drop i)[i]?=M[i]?:=by
 by_cases hi:i<=M.length
 .have hl:((M.take i).map f).length=i:=by rw[Yc,Yu];omega
  rw[Yyc (by omega),hl,Nat.sub_self,List.getElem?_drop,Nat.add_zero]
 .rw[Yl (by rw[Yh,Yc,Yu,List.length_drop];omega),Yl (by omega)]
end Go.VC
end

section
namespace Go.VC
def dedF {K:Type} [DecidableEq K] (l:List K):List K:=l.foldl (fun a k=>if k∈a then a else a++[k]) []
def idxF {K:Type} [DecidableEq K]:List K->K->Nat
 | [],_=>0
 | x::r,k=>if x=k then 0 else idxF r k+1
def canonL {K:Type} [DecidableEq K] (l:List K):List Nat:=l.map (idxF (dedF l))
section
variable {K K':Type} [DecidableEq K] [DecidableEq K']
theorem dedF_snoc (l:List K) (k:K):dedF (l++[k])=if k∈dedF l then dedF l else dedF l++[k]:=by unfold dedF;rw[List.foldl_append];rfl
theorem dedF_take {l:List K} {i:Nat} {k:K} (h:l[i]?=some k):dedF (l.take (i+1))=if k∈dedF (l.take i) then dedF (l.take i) else dedF (l.take i)++[k]:=by rw[take_snoc h,dedF_snoc]
theorem dedF_mem (l:List K) (k:K):k∈dedF l ↔ k∈l:=by
 suffices h:∀(m a:List K),k∈m.foldl (fun a k=>if k∈a then a else a++[k]) a ↔ k∈a\/k∈m by have:=h l [];simpa [dedF] using this
 intro m
 induction m with
 | nil=>intro a;simp
 | cons x r ih=>
  intro a;rw[List.foldl_cons,ih];split
  .rename_i hx;rw[Yr];constructor
   .rintro (h | h)
    .exact .inl h
    .exact .inr (.inr h)
   .rintro (h | rfl | h)
    .exact .inl h
    .exact .inl hx
    .exact .inr h
  .rw[Yk,Ye,Yr];constructor
   .rintro ((h | h) | h)
    .exact .inl h
    .exact .inr (.inl h)
    .exact .inr (.inr h)
   .rintro (h | h | h)
    .exact .inl (.inl h)
    .exact .inl (.inr h)
    .exact .inr h
theorem idxF_mem {l:List K} {k:K} (h:k∈l) (m:List K):idxF (l++m) k=idxF l k:=by
 induction l with
 | nil=>cases h
 | cons x r ih=>
  rw[List.cons_append,idxF,idxF];split
  .rfl
  .rename_i hx;rw[ih (by rcases Yr.1 h with h | h;exact absurd h.symm hx;exact h)]
theorem idxF_not {l:List K} {k:K} (h:k∉l):idxF l k=l.length:=by
 induction l with
 | nil=>rfl
 | cons x r ih=>
  rw[Yr,not_or] at h;rw[idxF,if_neg (fun e=>h.1 e.symm),ih h.2,Yyj]
theorem idxF_lt {l:List K} {k:K} (h:k∈l):idxF l k<l.length:=by
 induction l with
 | nil=>cases h
 | cons x r ih=>
  rw[idxF,Yyj];split
  .omega
  .rename_i hx;have:=ih (by rcases Yr.1 h with h | h;exact absurd h.symm hx;exact h);omega
theorem idxF_inj {l:List K} {a b:K} (ha:a∈l) (h:idxF l a=idxF l b):a=b:=by
 induction l with
 | nil=>cases ha
 | cons x r ih=>
  rw[idxF,idxF] at h;split at h<;>split at h
  .rename_i h1 h2;rw[<-h1,<-h2]
  .omega
  .omega
  .rename_i h1 _;exact ih (by rcases Yr.1 ha with h | h;exact absurd h.symm h1;exact h) (by omega)
theorem canon_pat {l:List K} {l':List K'} (hl:l.length=l'.length) (hp:∀(i j:Nat) (a b:K) (a' b':K'),l[i]?=some a->l[j]?=some b->l'[i]?=some a'->l'[j]?=some b'->(a=b ↔ a'=b')) :
  ∀n,n<=l.length->(dedF (l.take n)).length=(dedF (l'.take n)).length/\∀(j:Nat) (a:K) (a':K'),j<n->l[j]?=some a->l'[j]?=some a'->idxF (dedF (l.take n)) a=idxF (dedF (l'.take n)) a'
 | 0,_=>⟨rfl,fun j _ _ hj=>by omega⟩
 | n+1,hn=>by
  obtain⟨h1,h2⟩:=canon_pat hl hp n (by omega);obtain⟨x,hx⟩:=get_some (l:=l) (i:=n) (by omega);obtain⟨x',hx'⟩:=get_some (l:=l') (i:=n) (by omega);have hmem:x∈dedF (l.take n) ↔ x'∈dedF (l'.take n):=by
   rw[dedF_mem,dedF_mem];constructor
   .intro h;obtain⟨j,hj⟩:=Yf.1 h;have hjn:j<n:=by have:=(Ya.1 hj).1;rw[Yu] at this;omega
    rw[Yyf,if_pos hjn] at hj;obtain⟨y',hy'⟩:=get_some (l:=l') (i:=j) (by omega);have:=(hp j n x x y' x' hj hx hy' hx').1 rfl;subst this;exact Yb (i:=j) (by rw[Yyf,if_pos hjn];exact hy')
   .intro h;obtain⟨j,hj⟩:=Yf.1 h;have hjn:j<n:=by have:=(Ya.1 hj).1;rw[Yu] at this;omega
    rw[Yyf,if_pos hjn] at hj;obtain⟨y,hy⟩:=get_some (l:=l) (i:=j) (by omega);have:=(hp j n y x x' x' hy hx hj hx').2 rfl;subst this;exact Yb (i:=j) (by rw[Yyf,if_pos hjn];exact hy)
  rw[dedF_take hx,dedF_take hx'];by_cases hm:x∈dedF (l.take n)
  .rw[if_pos hm,if_pos (hmem.1 hm)];refine⟨h1,fun j a a' hj ha ha'=>?_⟩;by_cases e:j=n
   .subst e;rw[hx] at ha;cases ha;rw[hx'] at ha';cases ha';obtain⟨i,hi⟩:=Yf.1 ((dedF_mem _ _).1 hm);have hin:i<j:=by have:=(Ya.1 hi).1;rw[Yu] at this;omega
    rw[Yyf,if_pos hin] at hi;obtain⟨y',hy'⟩:=get_some (l:=l') (i:=i) (by omega);have:=(hp i j x x y' x' hi hx hy' hx').1 rfl;rw[h2 i x y' hin hi hy',this]
   .exact h2 j a a' (by omega) ha ha'
  .rw[if_neg hm,if_neg (fun h=>hm (hmem.2 h))];refine⟨by rw[Yh,Yh,h1];rfl,fun j a a' hj ha ha'=>?_⟩;by_cases e:j=n
   .subst e;rw[hx] at ha;cases ha;rw[hx'] at ha';cases ha';have key:∀ {K:Type} [DecidableEq K] {l:List K} {k:K},k∉l->idxF (l++[k]) k=l.length:=by
     intro K _ l k h
     induction l with
     | nil=>rw[List.nil_append,idxF,if_pos rfl];rfl
     | cons x r ih=>
      rw[Yr,not_or] at h;rw[List.cons_append,idxF,if_neg (fun e=>h.1 e.symm),ih h.2,Yyj]
    rw[key hm,key (fun h=>hm (hmem.2 h)),h1]
   .have hmj:∀ {K:Type} [DecidableEq K] {l:List K} {a:K},l[j]?=some a->a∈dedF (l.take n):=fun h=>(dedF_mem _ _).2 (Yb (i:=j) (by rw[Yyf,if_pos (by omega)];exact h));rw[idxF_mem (hmj ha),idxF_mem (hmj ha')];exact h2 j a a' (by omega) ha ha'
theorem canon_eq {l:List K} {l':List K'} (hl:l.length=l'.length) (hp:∀(i j:Nat) (a b:K) (a' b':K'),l[i]?=some a->l[j]?=some b->l'[i]?=some a'->l'[j]?=some b'->(a=b ↔ a'=b')):canonL l=canonL l'/\(dedF l).length=(dedF l').length:=by
 have h:=canon_pat hl hp l.length (Yyt _);rw[Yye,hl,Yye] at h;refine⟨?_,h.1⟩;apply Yyr;intro j;unfold canonL;rw[Yd,Yd];by_cases hj:j<l.length
 .obtain⟨a,ha⟩:=get_some (l:=l) (i:=j) hj;obtain⟨a',ha'⟩:=get_some (l:=l') (i:=j) (by omega);rw[ha,ha',Option.map_some,Option.map_some,h.2 j a a' (by omega) ha ha']
 .rw[Yl (by omega),Yl (by omega)];rfl
theorem canonL_len (l:List K):(canonL l).length=l.length:=Yc _
theorem canonL_get {l:List K} {i:Nat} {k:K} (h:l[i]?=some k):(canonL l)[i]?=some (idxF (dedF l) k):=by unfold canonL;rw[Yd,h];rfl
theorem canonL_lt {l:List K} {c:Nat} (h:c∈canonL l):c<(dedF l).length:=by
 obtain⟨k,hk,rfl⟩:=Yp.1 h;exact idxF_lt ((dedF_mem _ _).2 hk)
theorem canonL_eq {l:List K} {i j:Nat} {a b:K} (ha:l[i]?=some a) (hb:l[j]?=some b):(canonL l)[i]?=(canonL l)[j]? ↔ a=b:=by
 rw[canonL_get ha,canonL_get hb];constructor
 .intro h;exact idxF_inj ((dedF_mem _ _).2 (Yb ha)) (Yyp h)
 .intro h;rw[h]
theorem dedF_canon (l:List K):(dedF (canonL l)).length=(dedF l).length:=by
 refine (canon_eq (canonL_len l) fun i j a b a' b' h1 h2 h3 h4=>?_).2;have:=canonL_eq h3 h4;rw[h1,h2] at this;rw[<-this];exact⟨fun h=>by rw[h],fun h=>Yyp h⟩
theorem dedF_map_le (f:K->K') (l:List K):(dedF (l.map f)).length<=(dedF l).length:=by
 have key:∀n,n<=l.length->(dedF ((l.map f).take n)).length<=(dedF (l.take n)).length:=by
  intro n
  induction n with
  | zero=>intro _;exact Yyt _
  | succ n ih=>
   intro hn;obtain⟨x,hx⟩:=get_some (l:=l) (i:=n) (by omega);rw[dedF_take hx,dedF_take (l:=l.map f) (k:=f x) (by rw[Yd,hx];rfl)];have:=ih (by omega);by_cases hm:x∈dedF (l.take n)
   .have:f x∈dedF ((l.map f).take n):=by
     rw[dedF_mem,<-List.map_take];exact Yp.2 ⟨x,(dedF_mem _ _).1 hm,rfl⟩
    rw[if_pos hm,if_pos this];omega
   .rw[if_neg hm,Yh];split
    .omega
    .rw[Yh];simp only[Yv];omega
 have:=key l.length (Yyt _)
 rwa [Yye,Yj (by rw[Yc];exact Yyt _)] at this
theorem dedF_len_le (l:List K):(dedF l).length<=l.length:=by
 have key:∀n,n<=l.length->(dedF (l.take n)).length<=n:=by
  intro n
  induction n with
  | zero=>intro _;exact Yyt _
  | succ n ih=>
   intro hn;obtain⟨x,hx⟩:=get_some (l:=l) (i:=n) (by omega);rw[dedF_take hx];have:=ih (by omega);split
   .omega
   .rw[Yh];simp only[Yv];omega
 have:=key l.length (Yyt _)
 rwa [Yye] at this
end
structure Sg where
 b:Int
 k:Int
 x:Ev
 ag:Bool
 num:Int
 deriving DecidableEq
def Sg.v (s:Sg):Value:=.agg ⟨[.int .i64 s.b,.int .i64 s.k,.bool s.x.send,.int .i64 s.x.peer,.int .i64 s.x.label,.bool s.ag,.int .i64 s.num]⟩
theorem Sg.v_inj (a b:Sg) (h:a.v=b.v):a=b:=by
 obtain⟨a1,a2,⟨a3,a4,a5⟩,a6,a7⟩:=a;obtain⟨b1,b2,⟨b3,b4,b5⟩,b6,b7⟩:=b;unfold Sg.v at h;simp at h;simp[h]
structure NOk (n:Int) (N:List (Sg × Int)):Prop where
 nd:(N.map Prod.fst).Nodup
 va:∀(j:Nat) (q:Sg × Int),N[j]?=some q->q.2=(j:Int)+n+2
theorem NOk.nil (n:Int):NOk n []:=⟨List.nodup_nil,fun j q h=>by simp at h⟩
theorem NOk.push {n:Int} {N:List (Sg × Int)} (h:NOk n N) {s:Sg} (hs:∀q∈N,q.1≠s):NOk n (N++[(s,(N.length:Int)+n+2)]):=by
 refine⟨?_,fun j q hq=>?_⟩
 .rw[Ym,List.nodup_append];refine⟨h.nd,by simp,fun a ha b hb=>?_⟩;simp only[Yyl,List.map_nil,Ye] at hb;subst hb;obtain⟨q,hq,rfl⟩:=Yp.1 ha;exact hs q hq
 .by_cases hj:j<N.length
  .rw[Yyi hj] at hq;exact h.va j q hq
  .have hjl:=(Ya.1 hq).1;rw[Yh,Yv] at hjl;have:j=N.length:=by omega
   subst this;rw[Yyc (Yyt _),Nat.sub_self] at hq;cases hq;rfl
theorem NOk.keyv {n:Int} {N:List (Sg × Int)} (h:NOk n N) {s s':Sg} {v:Int} (h1:(s,v)∈N) (h2:(s',v)∈N):s=s':=by
 obtain⟨i,hi⟩:=Yf.1 h1;obtain⟨j,hj⟩:=Yf.1 h2;have e1:=h.va i _ hi;have e2:=h.va j _ hj;have:i=j:=by simp only at e1 e2;omega
 subst this;rw[hi] at hj;cases hj;rfl
theorem NOk.val {n:Int} {N:List (Sg × Int)} (h:NOk n N) {s:Sg} {v v':Int} (h1:(s,v)∈N) (h2:(s,v')∈N):v=v':=by
 obtain⟨i,hi⟩:=Yf.1 h1;obtain⟨j,hj⟩:=Yf.1 h2;have hi':(N.map Prod.fst)[i]?=some s:=by rw[Yd,hi];rfl
 have hj':(N.map Prod.fst)[j]?=some s:=by rw[Yd,hj];rfl
 have:i=j:=(List.getElem?_inj (Ya.1 hi').1 h.nd).1 (hi'.trans hj'.symm);subst this;rw[hi] at hj;cases hj;rfl
inductive HsN (N:List (Sg × Int)):Int->List Sg->Prop
 | base {s:Sg} {v:Int} (hm:(s,v)∈N) (hk:s.k=0):HsN N v [s]
 | step {s:Sg} {v:Int} {l:List Sg} (hm:(s,v)∈N) (hk:s.k≠0) (hh:HsN N s.b l):HsN N v ({ s with b:=0 }::l)
theorem HsN.mono {N N':List (Sg × Int)} (hsub:∀q∈N,q∈N') {v:Int} {l:List Sg} (h:HsN N v l):HsN N' v l:=by
 induction h with
 | base hm hk=>exact .base (hsub _ hm) hk
 | step hm hk _ ih=>exact .step (hsub _ hm) hk ih
theorem HsN.ne {N:List (Sg × Int)} {v:Int} (h:HsN N v []):False:=by cases h
theorem HsN.inj {n:Int} {N:List (Sg × Int)} (hN:NOk n N):∀ {l:List Sg} {v v':Int},HsN N v l->HsN N v' l->v=v'
 | [],_,_,h,_=>h.ne.elim
 | a::l,v,v',h,h'=>by
  cases h with
  | base hm hk=>
   cases h' with
   | base hm' hk'=>exact hN.val hm hm'
   | @step s' _ _ hm' hk' hh=>exact hh.ne.elim
  | @step s _ _ hm hk hh=>
   generalize hq:({ s with b:=0 }:Sg)=q at h';cases h' with
   | base hm' hk'=>exact hh.ne.elim
   | @step s' _ _ hm' hk' hh'=>
    have hb:=HsN.inj hN hh hh';have:s=s':=by
     obtain⟨a1,a2,a3,a4,a5⟩:=s;obtain⟨b1,b2,b3,b4,b5⟩:=s';simp only[Sg.mk.injEq] at hq ⊢;exact⟨hb,hq.2⟩
    subst this;exact hN.val hm hm'
theorem HsN.func {n:Int} {N:List (Sg × Int)} (hN:NOk n N) {v:Int} {l l':List Sg} (h:HsN N v l):HsN N v l'->l=l':=by
 intro h'
 induction h generalizing l' with
 | base hm hk=>
  cases h' with
  | base hm' hk'=>rw[hN.keyv hm hm']
  | step hm' hk' hh=>have:=hN.keyv hm hm';subst this;exact absurd hk hk'
 | step hm hk hh ih=>
  cases h' with
  | base hm' hk'=>have:=hN.keyv hm hm';subst this;exact absurd hk' hk
  | step hm' hk' hh'=>have:=hN.keyv hm hm';subst this;rw[ih hh']
def nextF (n:Int) (N:List (Sg × Int)) (s:Sg):Int × List (Sg × Int):=match mget N s with
 | some v=>(v,N)
 | none=>((N.length:Int)+n+2,N++[(s,(N.length:Int)+n+2)])
theorem mget_mem {α β:Type} [DecidableEq α] {a:α} {y:β}:∀ {l:List (α × β)},mget l a=some y->(a,y)∈l
 | [],h=>by cases h
 | (x,z)::r,h=>by
  rw[mget] at h;split at h
  .rename_i e;cases h;subst e;simp
  .exact Yn _ (mget_mem h)
theorem mget_not {α β:Type} [DecidableEq α] {a:α}:∀ {l:List (α × β)},mget l a=none->∀q∈l,q.1≠a
 | [],_,q,hq=>by cases hq
 | (x,z)::r,h,q,hq=>by
  rw[mget] at h;split at h
  .cases h
  .rename_i e;rcases Yr.1 hq with rfl | hq
   .exact e
   .exact mget_not h q hq
theorem nextF_spec {n:Int} {N:List (Sg × Int)} (hN:NOk n N) (s:Sg):NOk n (nextF n N s).2/\(∀q∈N,q∈(nextF n N s).2)/\(s,(nextF n N s).1)∈(nextF n N s).2/\(nextF n N s).2.length<=N.length+1/\∀q∈(nextF n N s).2,q∈N\/q.1=s:=by
 unfold nextF;cases h:mget N s with
 | some v=>exact⟨hN,fun q hq=>hq,mget_mem h,by simp,fun q hq=>.inl hq⟩
 | none=>
  refine⟨hN.push (mget_not h),fun q hq=>Yk.2 (.inl hq),Yk.2 (.inr (by simp)),by simp,fun q hq=>?_⟩;rcases Yk.1 hq with hq | hq
  .exact .inl hq
  .rw[Ye] at hq;subst hq;exact .inr rfl
theorem NOk.bound {n:Int} {N:List (Sg × Int)} (h:NOk n N) {s:Sg} {v:Int} (hm:(s,v)∈N):n+2<=v/\v<(N.length:Int)+n+2:=by
 obtain⟨j,hj⟩:=Yf.1 hm;have:=h.va j _ hj;have:=(Ya.1 hj).1;simp only at *;omega
def ev0:Ev:=⟨false,0,0⟩
def Mv.ev (x:Mv):Ev:=⟨x.send,x.peer,x.label⟩
def sgB (C:List Nat) (fin:List Bool) (s:Nat):Sg:=⟨(C.getD s 0:Nat),0,ev0,fin.getD s false,0⟩
def sgL (mv:List Mv) (t:To):Sg:=⟨0,1,match mv[t.e.toNat]? with | some x=>x.ev | none=>ev0,false,t.k⟩
def sgM (C:List Nat) (x:Mv):Sg:=⟨0,2,x.ev,x.ag,(C.getD x.t.toNat 0:Nat)⟩
def keyH (m:Mch) (C:List Nat) (li:List To) (mv:List Mv) (s:Nat):List Sg:=
 ((mv.filter fun x=>x.f=(s:Int)).map (sgM C)).reverse++(((li.filter fun t=>t.s=(s:Int)).map (sgL m.mv)).reverse++[sgB C m.fin s])
def keyS (m:Mch) (C:List Nat) (s:Nat):List Sg:=keyH m C m.li m.mv s
theorem keyH_li {m:Mch} {C:List Nat} {li:List To} {j:Nat} {t:To} (h:li[j]?=some t) (s:Nat):keyH m C (li.take (j+1)) [] s=if t.s=(s:Int) then sgL m.mv t::keyH m C (li.take j) [] s else keyH m C (li.take j) [] s:=by
 unfold keyH;rw[take_snoc h,List.filter_append];by_cases e:t.s=(s:Int)
 .rw[if_pos e,List.filter_cons_of_pos (by simpa using e)];simp
 .rw[if_neg e,List.filter_cons_of_neg (by simpa using e)];simp
theorem keyH_mv {m:Mch} {C:List Nat} {li:List To} {mv:List Mv} {j:Nat} {x:Mv} (h:mv[j]?=some x) (s:Nat):keyH m C li (mv.take (j+1)) s=if x.f=(s:Int) then sgM C x::keyH m C li (mv.take j) s else keyH m C li (mv.take j) s:=by
 unfold keyH;rw[take_snoc h,List.filter_append];by_cases e:x.f=(s:Int)
 .rw[if_pos e,List.filter_cons_of_pos (by simpa using e)];simp
 .rw[if_neg e,List.filter_cons_of_neg (by simpa using e)];simp
def clsK (m:Mch) (C:List Nat):List (List Sg):=(List.range m.n.toNat).map (keyS m C)
def clsN (m:Mch):Nat->List Nat->Nat->List Nat × Nat
 | 0,C,c=>(C,c)
 | f+1,C,c=>if (dedF (clsK m C)).length=c then (canonL (clsK m C),c) else clsN m f (canonL (clsK m C)) (dedF (clsK m C)).length
def cls (m:Mch):List Nat × Nat:=clsN m 202 (List.replicate m.n.toNat 0) 0
theorem clsK_len (m:Mch) (C:List Nat):(clsK m C).length=m.n.toNat:=by unfold clsK;rw[Yc,Yyd]
theorem clsK_ge {m:Mch} {C:List Nat} (hC:C.length=m.n.toNat):(dedF C).length<=(dedF (clsK m C)).length:=by
 have e:C=(clsK m C).map fun k=>match k.getLast? with | some s=>s.b.toNat | none=>0:=by
  apply Yyr;intro i;unfold clsK;rw[List.map_map,Yd];by_cases hi:i<m.n.toNat
  .rw[Yyb hi];obtain⟨c,hc⟩:=get_some (l:=C) (i:=i) (by omega);rw[hc];show _=some (match (keyS m C i).getLast? with | some s=>s.b.toNat | none=>0);have:(keyS m C i).getLast?=some (sgB C m.fin i):=by
    unfold keyS keyH;rw[<-Yz,List.getLast?_append];rfl
   rw[this];unfold sgB;simp[Yo,hc]
  .rw[Yl (by omega),Yl (by rw[Yyd];omega)];rfl
 have:=dedF_map_le (fun k:List Sg=>match k.getLast? with | some s=>s.b.toNat | none=>0) (clsK m C)
 rwa [<-e] at this
theorem dedF_nodup {K:Type} [DecidableEq K] (l:List K):(dedF l).Nodup:=by
 suffices h:∀(m a:List K),a.Nodup->(m.foldl (fun a k=>if k∈a then a else a++[k]) a).Nodup from h l [] List.nodup_nil
 intro m
 induction m with
 | nil=>intro a h;exact h
 | cons x r ih=>
  intro a h;rw[List.foldl_cons];refine ih _ ?_;split
  .exact h
  .rename_i hx;rw[List.nodup_append];exact⟨h,by simp,fun a ha b hb=>by rw[Ye] at hb;subst hb;exact fun e=>hx (e ▸ ha)⟩
def zipI {K:Type} (D:List K) (k:Nat):List (K × Int):=(D.zipIdx k).map fun q=>(q.1,(q.2:Int))
theorem zipI_fst {K:Type} (D:List K) (k:Nat):(zipI D k).map Prod.fst=D:=by
 unfold zipI;rw[List.map_map];exact List.zipIdx_map_fst k D
theorem zipI_snoc {K:Type} (D:List K) (a:K):zipI (D++[a]) 0=zipI D 0++[(a,(D.length:Int))]:=by
 unfold zipI;rw[List.zipIdx_append,Ym];simp
theorem zipI_len {K:Type} (D:List K) (k:Nat):(zipI D k).length=D.length:=by unfold zipI;rw[Yc,List.length_zipIdx]
theorem mget_zipI {K:Type} [DecidableEq K] (a:K):∀(D:List K) (k:Nat),mget (zipI D k) a=if a∈D then some ((idxF D a:Int)+k) else none
 | [],k=>rfl
 | x::r,k=>by
  have e:zipI (x::r) k=(x,(k:Int))::zipI r (k+1):=rfl;rw[e,mget,idxF];by_cases h:x=a
  .rw[if_pos h,if_pos (by simp[h]),if_pos h];simp
  .rw[if_neg h,mget_zipI a r (k+1),if_neg h];by_cases hm:a∈r
   .rw[if_pos hm,if_pos (Yn _ hm)];congr 1;omega
   .rw[if_neg hm,if_neg (fun hc=>by rcases Yr.1 hc with hc | hc;exact h hc.symm;exact hm hc)]
structure MOk (m:Mch):Prop where
 n:1<=m.n/\m.n<=200
 s:0<=m.s/\m.s<m.n
 fl:m.fin.length=m.n.toNat
 ml:m.mv.length<=400
 ll:m.li.length<=80000
 mv:∀x∈m.mv,0<=x.f/\x.f<m.n/\0<=x.t/\x.t<m.n/\(-9223372036854775808<=x.peer/\x.peer<=9223372036854775807)/\(-9223372036854775808<=x.label/\x.label<=9223372036854775807)
 li:∀t∈m.li,0<=t.s/\t.s<m.n/\0<=t.e/\t.e<m.mv.length/\(-9223372036854775808<=t.k/\t.k<=9223372036854775807)
def mvLt (a b:Mv):Prop:=a.f<b.f\/(a.f=b.f/\evLt a.ev b.ev)
theorem mvLt_irr (a:Mv):¬mvLt a a:=by
 rintro (h | ⟨_,h⟩)
 .omega
 .exact evLt_irr _ h
theorem mvLt_trans {a b c:Mv} (h1:mvLt a b) (h2:mvLt b c):mvLt a c:=by
 rcases h1 with h1 | ⟨h1,h1'⟩<;>rcases h2 with h2 | ⟨h2,h2'⟩
 .exact .inl (by omega)
 .exact .inl (by omega)
 .exact .inl (by omega)
 .exact .inr ⟨by omega,evLt_trans h1' h2'⟩
theorem mvSorted_same:∀ {l l':List Mv},l'.Perm l->l.Pairwise mvLt->l'.Pairwise (fun a b=>¬mvLt b a)->l'=l
 | [],l',hp,_,_=>List.perm_nil.1 hp
 | a::l,[],hp,_,_=>by have:=hp.length_eq;simp at this
 | a::l,b::l',hp,hs,hs'=>by
  rw[List.pairwise_cons] at hs hs';have hb:b=a:=by
   have hbm:b∈a::l:=hp.subset (Yx ..);have ham:a∈b::l':=hp.symm.subset (Yx ..);rcases Yr.1 hbm with h | h
   .exact h
   .rcases Yr.1 ham with h' | h'
    .exact h'.symm
    .exact absurd (hs.1 b h) (hs'.1 a h')
  subst hb;rw[mvSorted_same ((List.perm_cons b).1 hp) hs.2 hs'.2]
end Go.VC
end

section
namespace Go.VC
def setOf (L:List Nat):PSet:=fun j=>decide (j∈L)
def Can (n:Nat) (L:List Nat):Prop:=L=(List.range n).filter fun j=>decide (j∈L)
theorem Can.mk (n:Nat) (p:Nat->Bool):Can n ((List.range n).filter p):=by
 unfold Can;apply List.filter_congr;intro x hx;by_cases hm:x∈(List.range n).filter p
 .rw[decide_eq_true hm];exact (List.mem_filter.1 hm).2
 .rw[decide_eq_false hm];cases hp:p x
  .rfl
  .exact absurd (List.mem_filter.2 ⟨hx,hp⟩) hm
theorem Can.lt {n:Nat} {L:List Nat} (h:Can n L):∀j∈L,j<n:=by
 intro j hj;rw[h,List.mem_filter,List.mem_range] at hj;exact hj.1
theorem setOf_inj {n:Nat} {L L':List Nat} (h:Can n L) (h':Can n L'):setOf L=setOf L' ↔ L=L':=by
 constructor
 .intro e;rw[h,h'];congr 1
 .intro e;rw[e]
theorem elems_setOf {n:Nat} {L:List Nat} (h:Can n L) (hn:n<=4096):elems (setOf L)=L:=by
 unfold elems;have e:List.range 4096=List.range n++(List.range (4096-n)).map (n + ·):=by rw[<-List.range_add];congr 1;omega
 rw[e,List.filter_append];have e2:((List.range (4096-n)).map (n + ·)).filter (setOf L)=[]:=by
  rw[List.filter_eq_nil_iff];intro x hx;obtain⟨y,_,rfl⟩:=Yp.1 hx;unfold setOf;simp only[decide_eq_true_eq];intro hm;have:=h.lt _ hm;omega
 rw[e2,Yw];exact h.symm
def evsC (es:List Ed) (role:Int) (L:List Nat):List Ev:=sortE (L.flatMap fun n=>(visL es role n).map (·.x))
def toC (es:List Ed) (role:Int) (L:List Nat) (x:Ev):List Int:=L.flatMap fun n=>(visL es role n).filterMap fun a=>if a.x=x then some a.to else none
theorem evs_setOf {n:Nat} {L:List Nat} (h:Can n L) (hn:n<=4096) (es:List Ed) (role:Int):evs es role (setOf L)=evsC es role L:=by unfold evs evL evsC;rw[elems_setOf h hn]
theorem toL_setOf {n:Nat} {L:List Nat} (h:Can n L) (hn:n<=4096) (es:List Ed) (role:Int) (x:Ev):toL es role (setOf L) x=toC es role L x:=by unfold toL toC;rw[elems_setOf h hn]
def addC (es:List Ed) (role:Int) (L:List Nat):List Nat:=es.foldl (fun L x=>if (vis1 role x).isNone&&decide (x.f.toNat∈L) && !decide (x.t.toNat∈L) then L++[x.t.toNat] else L) L
def bfsC (es:List Ed) (role:Int):Nat->List Nat->List Nat
 | 0,L=>L
 | f+1,L=>bfsC es role f (addC es role L)
def okC (es:List Ed) (role:Int) (l:List Int) (L:List Nat):Bool:=
 l.all (fun v=>decide (0<=v)&&decide (v.toNat∈L))&&es.all (fun x=>!(vis1 role x).isNone || !decide (x.f.toNat∈L)||decide (x.t.toNat∈L)) &&
  (List.range L.length).all fun i=>match L[i]? with
   | some j=>l.any (fun v=>decide (v=(j:Int)))||es.any fun x=>(vis1 role x).isNone&&decide (x.f.toNat∈L.take i)&&decide (x.t=(j:Int))
   | none=>false
theorem okC_clo {es:List Ed} {role:Int} {l:List Int} {L:List Nat} (hes:∀x∈es,0<=x.f/\0<=x.t) (h:okC es role l L=true) (j:Nat):clo es role l j=decide (j∈L):=by
 unfold okC at h;simp only[Yt,List.all_eq_true,List.mem_range] at h;obtain⟨⟨h1,h2⟩,h3⟩:=h;have fwd:∀a:Int,Qr es role l a->0<=a/\a.toNat∈L:=by
  intro a ha
  induction ha with
  | base hm=>have:=h1 _ hm;simpa using this
  | step _ hx ih=>
   obtain⟨x,hx,hv,hf,rfl⟩:=hx;refine⟨(hes x hx).2,?_⟩;have:=h2 x hx;simp only[Bool.or_eq_true,Bool.not_eq_true',decide_eq_false_iff_not,decide_eq_true_eq] at this;rcases this with (h4 | h4) | h4
   .rw[hv] at h4;cases h4
   .exact absurd (by rw[hf];exact ih.2) h4
   .exact h4
 have bwd:∀i,i<=L.length->∀j∈L.take i,Qr es role l (j:Int):=by
  intro i
  induction i with
  | zero=>intro _ j hj;rw[Yyk] at hj;cases hj
  | succ i ih=>
   intro hi j hj;obtain⟨y,hy⟩:=get_some (l:=L) (i:=i) (by omega);rw[take_snoc hy,Yk,Ye] at hj;rcases hj with hj | rfl
   .exact ih (by omega) j hj
   .have:=h3 i (by omega);rw[hy] at this;simp only[Bool.or_eq_true,List.any_eq_true,decide_eq_true_eq,Yt] at this;rcases this with ⟨v,hv,rfl⟩ | ⟨x,hx,⟨h4,h5⟩,h6⟩
    .exact .base hv
    .have hq:=ih (by omega) _ h5;rw[show ((x.f.toNat:Nat):Int)=x.f by have:=hes x hx;omega] at hq;exact .step hq ⟨x,hx,Option.isNone_iff_eq_none.1 h4,rfl,h6⟩
 have hiff:clo es role l j=true ↔ j∈L:=by
  rw[clo_iff];constructor
  .intro h;have:=(fwd _ h).2;rwa [Ys] at this
  .intro h;exact bwd L.length (Yyt _) j (by rw[Yye];exact h)
 by_cases hj:j∈L
 .rw[decide_eq_true hj];exact hiff.2 hj
 .rw[decide_eq_false hj];cases hc:clo es role l j
  .rfl
  .exact absurd (hiff.1 hc) hj
def cloC (es:List Ed) (role:Int) (n:Nat) (l:List Int):Option (List Nat):=
 let L:=bfsC es role n (l.map Int.toNat).eraseDups
 if okC es role l L then some ((List.range n).filter fun j=>decide (j∈L)) else none
theorem cloC_ok {es:List Ed} {role:Int} {n:Nat} {l:List Int} {L:List Nat} (hes:∀x∈es,0<=x.f/\0<=x.t) (hlt:∀j:Nat,clo es role l j=true->j<n) (h:cloC es role n l=some L):Can n L/\clo es role l=setOf L:=by
 unfold cloC at h;simp only at h;split at h
 .rename_i hk;cases h;refine⟨Can.mk _ _,?_⟩
  funext j
  rw[okC_clo hes hk];unfold setOf;by_cases hj:j∈bfsC es role n (l.map Int.toNat).eraseDups
  .rw[decide_eq_true hj,decide_eq_true];have:clo es role l j=true:=by rw[okC_clo hes hk,decide_eq_true hj]
   exact List.mem_filter.2 ⟨List.mem_range.2 (hlt j this),decide_eq_true hj⟩
  .rw[decide_eq_false hj,decide_eq_false];intro hm;exact hj (Yyn (List.mem_filter.1 hm).2)
 .cases h
def rowCS (S:List (List Nat)) (L:List Nat):List (List Nat):=if L∈S then S else S++[L]
theorem rowI_setOf {n:Nat} {L:List Nat} (hL:Can n L):∀ {S:List (List Nat)},(∀s∈S,Can n s)->rowI (S.map setOf) (setOf L)=idxF S L
 | [],_=>rfl
 | s::S,h=>by
  rw[Yyl,rowI,idxF];have hs:=setOf_inj (h s (Yx ..)) hL;by_cases e:s=L
  .rw[if_pos (hs.2 e),if_pos e]
  .rw[if_neg (fun h=>e (hs.1 h)),if_neg e,rowI_setOf hL fun s hs=>h s (Yn _ hs)]
theorem rowS_setOf {n:Nat} {L:List Nat} (hL:Can n L) {S:List (List Nat)} (hS:∀s∈S,Can n s):rowS (S.map setOf) (setOf L)=(rowCS S L).map setOf/\∀s∈rowCS S L,Can n s:=by
 have hiff:setOf L∈S.map setOf ↔ L∈S:=by
  rw[<-rowI_lt,rowI_setOf hL hS,Yc];constructor
  .intro h;by_cases hm:L∈S
   .exact hm
   .rw[idxF_not hm] at h;omega
  .intro h;exact idxF_lt h
 unfold rowS rowCS;by_cases hm:L∈S
 .rw[if_pos (hiff.2 hm),if_pos hm];exact⟨rfl,hS⟩
 .rw[if_neg (fun h=>hm (hiff.1 h)),if_neg hm,Ym];refine⟨rfl,fun s hs=>?_⟩;rcases Yk.1 hs with hs | hs
  .exact hS s hs
  .rw[Ye] at hs;rw[hs];exact hL
def arcsC (es:List Ed) (role:Int) (n:Nat) (i:Nat) (L:List Nat):List Ev->List (List Nat)->List Mv->Option (List (List Nat) × List Mv)
 | [],S,M=>some (S,M)
 | x::r,S,M=>match cloC es role n (toC es role L x) with
  | none=>none
  | some T=>arcsC es role n i L r (rowCS S T) (M++[⟨i,x.send,x.peer,x.label,(idxF S T:Nat),false⟩])
theorem arcsC_ok {es:List Ed} {role:Int} {n i:Nat} {L:List Nat} (hn:n<=4096) (hes:∀x∈es,0<=x.f/\0<=x.t) (hlt:∀(x:Ev) (j:Nat),clo es role (toC es role L x) j=true->j<n) (hL:Can n L):∀(l:List Ev) (S:List (List Nat)) (M:List Mv) {S':List (List Nat)} {M':List Mv},(∀s∈S,Can n s)->arcsC es role n i L l S M=some (S',M') ->
  arcsF es role i (setOf L) l (S.map setOf) M=(S'.map setOf,M')/\∀s∈S',Can n s
 | [],S,M,S',M',hS,h=>by cases h;exact⟨rfl,hS⟩
 | x::r,S,M,S',M',hS,h=>by
  rw[arcsC] at h;cases hc:cloC es role n (toC es role L x) with
  | none=>rw[hc] at h;cases h
  | some T=>
   rw[hc] at h;replace h:arcsC es role n i L r (rowCS S T) (M++[⟨i,x.send,x.peer,x.label,(idxF S T:Nat),false⟩])=some (S',M'):=h;obtain⟨h1,h2⟩:=cloC_ok hes (hlt x) hc;have h3:=rowS_setOf h1 hS;have:=arcsC_ok hn hes hlt hL r _ _ h3.2 h;rw[arcsF,toL_setOf hL hn,h2,rowI_setOf h1 hS,h3.1];exact this
def viewsCF (es:List Ed) (role:Int) (n:Nat):Nat->Nat->List (List Nat)->List Mv->Option (Option (List (List Nat) × List Mv))
 | 0,_,_,_=>some none
 | f+1,i,S,M=>match S[i]? with
  | none=>some (some (S,M))
  | some L=>match arcsC es role n i L (evsC es role L) S M with
   | none=>none
   | some (S',M')=>if S'.length>200 then some none else viewsCF es role n f (i+1) S' M'
theorem viewsCF_ok {es:List Ed} {role:Int} {n:Nat} (hn:n<=4096) (hes:∀x∈es,0<=x.f/\0<=x.t) (hlt:∀(L:List Nat) (x:Ev) (j:Nat),clo es role (toC es role L x) j=true->j<n):∀(f i:Nat) (S:List (List Nat)) (M:List Mv) {r:Option (List (List Nat) × List Mv)},(∀s∈S,Can n s)->viewsCF es role n f i S M=some r ->
  viewsF es role f i (S.map setOf) M=r.map (fun q=>(q.1.map setOf,q.2))/\∀q,r=some q->∀s∈q.1,Can n s
 | 0,i,S,M,r,_,h=>by cases h;exact⟨rfl,fun q hq=>by cases hq⟩
 | f+1,i,S,M,r,hS,h=>by
  rw[viewsCF] at h;rw[viewsF,Yd];cases hg:S[i]? with
  | none=>
   rw[hg] at h;cases h;exact⟨rfl,fun q hq=>by cases hq;exact hS⟩
  | some L=>
   rw[hg] at h;have hL:=hS L (Yb hg);cases ha:arcsC es role n i L (evsC es role L) S M with
   | none=>simp only[ha] at h;cases h
   | some q=>
    obtain⟨S',M'⟩:=q;simp only[ha] at h;have h1:=arcsC_ok hn hes (hlt L) hL _ S M hS ha;rw[<-evs_setOf hL hn] at h1;show (if (arcsF es role i (setOf L) (evs es role (setOf L)) (S.map setOf) M).1.length>200 then none else viewsF es role f (i+1) (arcsF es role i (setOf L) (evs es role (setOf L)) (S.map setOf) M).1 (arcsF es role i (setOf L) (evs es role (setOf L)) (S.map setOf) M).2)=_/\_;rw[h1.1];simp only[Yc];split
    .rename_i hc;rw[if_pos hc] at h;cases h;exact⟨rfl,fun q hq=>by cases hq⟩
    .rename_i hc;rw[if_neg hc] at h;exact viewsCF_ok hn hes hlt f (i+1) S' M' h1.2 h
theorem viewV_congr {F F':Nat->List Ev} {en en':Nat->Bool} {O:List Bool} {T:List Ti} {l:List Nat} (hF:∀k∈l,F k=F' k) (he:∀k∈l,en k=en' k):viewV F en O T l=viewV F' en' O T l:=by
 have hb:∀k∈l,badV F en l k=badV F' en' l k:=by
  intro k hk;unfold badV;have ha:(l.any fun q=>en q||decide (F k≠F q))=l.any fun q=>en' q||decide (F' k≠F' q):=by
   rw[Bool.eq_iff_iff,List.any_eq_true,List.any_eq_true];constructor
   .rintro⟨q,hq,h⟩;exact⟨q,hq,by rw[<-he q hq,<-hF q hq,<-hF k hk];exact h⟩
   .rintro⟨q,hq,h⟩;exact⟨q,hq,by rw[he q hq,hF q hq,hF k hk];exact h⟩
  rw[ha,hF k hk,he k hk]
 unfold viewV;congr 1
 suffices h:∀(m:List Nat) (st:Option (Bool × Ti)),(∀k∈m,k∈l)->m.foldl (stepV F en O T l) st=m.foldl (stepV F' en' O T l) st from h l _ fun k hk=>hk
 intro m
 induction m with
 | nil=>intro st _;rfl
 | cons a m ih=>
  intro st hs;rw[List.foldl_cons,List.foldl_cons];have:stepV F en O T l st a=stepV F' en' O T l st a:=by unfold stepV;rw[hb a (hs a (Yx ..))]
  rw[this];exact ih _ fun k hk=>hs k (Yn _ hk)
def rawLC (vw:List Nat->Option Ti):Nat->List (List Nat)->List Mv->List To->Option (List Mv × List To)
 | _,[],M,L=>some (M,L)
 | n,p::S,M,L=>match vw p with
  | none=>none
  | some x=>rawLC vw (n+1) S (M.map (updR n x)) (L++limR n x M)
theorem rawLC_ok {vw vw':List Nat->Option Ti} {N:Nat} (hN:N<=4096):∀(n:Nat) (S:List (List Nat)) (M:List Mv) (L:List To),(∀s∈S,Can N s/\vw s=vw' s)->rawL vw n (S.map setOf) M L=rawLC vw' n S M L
 | _,[],_,_,_=>rfl
 | n,p::S,M,L,h=>by
  obtain⟨h1,h2⟩:=h p (Yx ..);rw[Yyl,rawL,rawLC,elems_setOf h1 hN,h2];cases vw' p with
  | none=>rfl
  | some x=>exact rawLC_ok hN (n+1) S _ _ fun s hs=>h s (Yn _ hs)
end Go.VC
end

section
namespace Go.VC
open Go.Proofs Go.LexS
theorem letter221 (b:UInt8) (h:Heap):Fn Pz 221 #[.int .u8 b.toNat] h fun v h'=>v=.bool (lt b)/\h'=h:=by
 apply vc221;unfold W221;unfold lt isLetter;generalize (b.toNat:Int)=n
 repeat' first
  | refine sBi (fun _=>?_) (fun _=>?_)
 all_goals
  refine⟨?_,rfl⟩;congr 1;rw[Bool.eq_iff_iff];simp only[Bool.or_eq_true,Yt,decide_eq_true_eq,Bool.false_eq_true,true_iff,false_iff];omega
theorem digit253 (b:UInt8) (h:Heap):Fn Pz 253 #[.int .u8 b.toNat] h fun v h'=>v=.bool (dg b)/\h'=h:=by
 apply vc253;unfold W253;unfold dg isDigit;refine sBi (fun c=>⟨?_,rfl⟩) (fun c=>⟨?_,rfl⟩)
 .rw[decide_eq_true (p:=(48:Int)<=b.toNat) c,Bool.true_and]
 .rw[decide_eq_false (p:=(48:Int)<=b.toNat) c,Bool.false_and]
theorem inner222 (b:UInt8) (h:Heap):Fn Pz 222 #[.int .u8 b.toNat] h fun v h'=>v=.bool (inn b)/\h'=h:=by
 apply vc222;unfold W222;refine (letter221 b h).mono ?_;rintro _ h3 ⟨rfl,rfl⟩;refine⟨_,rfl,sB_intro (fun c=>?_) (fun c=>?_)⟩
 .exact⟨by rw[show inn b=(lt b||dg b||((b.toNat:Int)==95)) from rfl,c];rfl,rfl⟩
 .refine (digit253 b _).mono ?_;rintro _ h6 ⟨rfl,rfl⟩;refine⟨_,rfl,sB_intro (fun d=>?_) (fun d=>?_)⟩
  .exact⟨by rw[show inn b=(lt b||dg b||((b.toNat:Int)==95)) from rfl,c,d];rfl,rfl⟩
  .exact⟨by rw[show inn b=(lt b||dg b||((b.toNat:Int)==95)) from rfl,c,d];rfl,rfl⟩
theorem isname189 (s:ByteArray) (h:Heap):Fn Pz 189 #[.string s] h fun v h'=>v=.bool (isName s.data.toList)/\h'=h:=by
 apply vc189;unfold W189;have hsz:=size_len s;rw[strEq];generalize hL:s.data.toList=L at *;refine sB_intro (fun he=>?_) (fun he=>?_)
 .have:L=[]:=Yyn he;subst this;exact⟨rfl,rfl⟩
 .have hne:L≠[]:=Yyo he;have hpos:0<L.length:=List.length_pos_iff.2 hne;obtain⟨b,hb,hby⟩:=byte_get (s:=s) (i:=0) (by omega);rw[hL] at hb;have hcons:L=b::L.drop 1:=by have:=drop_cons hb;rwa [List.drop_zero] at this
  have hdef:isName L=(decide (L.length<=16)&&lt b&&L.all inn):=by
   conv=>lhs;rw[hcons]
   rw[isName,<-hcons]
  rw[hdef];refine sB_intro (fun hgt=>?_) (fun hgt=>?_)
  .refine⟨?_,rfl⟩;rw[decide_eq_false (by have:=Yyn hgt;omega)];rfl
  .have h16:L.length<=16:=by have:=Yyo hgt;omega
   rw[decide_eq_true h16];refine⟨⟨by omega,by omega⟩,?_⟩;rw[show Int.toNat 0=0 from rfl,hby];refine (letter221 _ _).mono ?_;rintro v h3 ⟨rfl,rfl⟩;refine⟨_,rfl,sB_intro (fun hlet=>?_) (fun hlet=>?_)⟩
   .refine⟨?_,rfl⟩;rw[show lt b=false from by rw[Bool.not_eq_true'] at hlet;exact hlet];rfl
   .rw[show lt b=true from by rw[Bool.not_eq_false'] at hlet;exact hlet];refine up_loop (n:=s.size) (fun i h'=>h'=h3/\∀(j:Nat) (b:UInt8),j<i->L[j]?=some b->(!inn b)=false) ⟨rfl,fun j b hj=>by omega⟩ ?_;rintro-i h8 hi ⟨rfl,hd⟩;refine sB_intro (fun hlt=>?_) (fun hge=>?_)
    .have hlt':=lt_t hlt;obtain⟨y,hy,hby2⟩:=byte_get hlt';rw[hL] at hy;refine⟨⟨by omega,by omega⟩,?_⟩;rw[show Int.toNat (i:Int)=i from rfl,hby2];refine (inner222 _ _).mono ?_;rintro v h11 ⟨rfl,rfl⟩;refine⟨_,rfl,sB_intro (fun hp=>?_) (fun hp=>?_)⟩
     .refine⟨?_,rfl⟩;have:L.all inn=false:=by
       rw[<-Bool.not_eq_true,all_split];intro hh;have:=hh y i hy;rw[Bool.not_eq_true'] at hp;rw[show inn y=false from hp] at this;cases this
      rw[this];rfl
     .exact Up.next hlt' (by omega) ⟨rfl,scan_next (p:=fun b=>!inn b) hy hp hd⟩
    .have hge':=lt_f hge;refine⟨?_,rfl⟩;rw[(all_split inn L).2 fun b j hb=>by simpa using hd j b (by have:=(Ya.1 hb).1;omega) hb];rfl
theorem index190 (L:List Nm) (x:ByteArray) (s:Sl) (h:Heap) (hr:RL h 1 s nmC L) :
  Fn Pz 190 #[.slice s.a s.n s.c,.string x] h fun v h'=>(∃k:Int,v=.int .i64 k/\decide (k>=0)=decide (x.data.toList∈L))/\h'=h:=by
 apply vc190;unfold W190;have hn:=hr.ln;have hm:=hr.sm;refine up_loop (n:=s.n) (fun i h'=>h'=h/\∀(j:Nat) (y:Nm),j<i->L[j]?=some y->decide (x.data.toList=y)=false) ⟨rfl,fun j y hj=>by omega⟩ ?_;rintro-i h5 hi ⟨rfl,hd⟩;refine sB_intro (fun l=>?_) (fun l=>?_)
 .replace l:=lt_t l;refine hr.rw.nbI (by omega) (by omega) fun b o d g t=>?_;replace g:L[i]?=some d:=g;refine⟨_,t.hd,?_⟩;rw[strEq,bs_list];refine sB_intro (fun he=>?_) (fun hne=>?_)
  .have:=Yyn he;exact⟨⟨_,rfl,by rw[decide_eq_true (show (i:Int)>=0 by omega),decide_eq_true (by rw[this];exact Yb g)]⟩,rfl⟩
  .exact Up.next l (by omega) ⟨rfl,scan_next (p:=fun y=>decide (x.data.toList=y)) g hne hd⟩
 .replace l:=lt_f l;refine⟨⟨_,rfl,?_⟩,rfl⟩;rw[decide_eq_false (show ¬((-1:Int)>=0) by omega),decide_eq_false];intro hm;obtain⟨j,hj⟩:=Yf.1 hm;exact Yyo (hd j _ (by have:=(Ya.1 hj).1;omega) hj) rfl
theorem has133 (L:List Nm) (x:ByteArray) (s:Sl) (h:Heap) (hr:RL h 1 s nmC L) :
  Fn Pz 133 #[.slice s.a s.n s.c,.string x] h fun v h'=>v=.bool (decide (x.data.toList∈L))/\h'=h:=by
 apply vc133;unfold W133;refine (index190 L x s h hr).mono ?_;rintro v h3 ⟨⟨k,rfl,hk⟩,rfl⟩;exact⟨_,rfl,by rw[hk],rfl⟩
theorem own_rl {α:Type} {h:Heap} {b:Nat} {e:TypeId} {k:Nat} {cs:α->List Value} {L:List α} {xs:List Value} (hx:xs=(L.map cs).flatten) (ho:Own h b xs e) (hk:∀x,(cs x).length=k) (hl:L.length<=1048576) {n c:Nat} (hn:n=L.length) (hc:n<=c):RL h k ⟨some ⟨b,0,none⟩,n,c⟩ cs L:=by
 subst hx;refine⟨⟨by rw[Yc];exact hn,fun _=>⟨b,0,rfl,fun i row hi j v hj=>?_⟩⟩,hc,fun e=>by (cases e),hl⟩;have hr:∀r∈L.map cs,r.length=k:=fun r hr=>by obtain⟨x,_,rfl⟩:=Yp.1 hr;exact hk x
 have hjl:=(Ya.1 hj).1;rw[hr row (Yb hi)] at hjl;rw[addk_at,Nat.zero_add,ho.hc,getElem?_flatten _ i j row hr hi hjl];exact hj
theorem isword132 (s:ByteArray) (h:Heap):Fn Pz 132 #[.string s] h fun v h'=>v=.bool (isWord s.data.toList)/\Ext h h':=by
 apply vc132;unfold W132;refine newput (vs:=(keywords.map nmC).flatten) rfl fun h2 E o=>?_;refine (isname189 s h2).mono ?_;rintro _ h5 ⟨rfl,rfl⟩;refine⟨_,rfl,sB_intro (fun c=>?_) (fun c=>?_)⟩
 .refine⟨by decide,?_⟩;refine (has133 keywords s ⟨subA (some ⟨h.size,0,none⟩) (Int.toNat 0) 28 1,Int.toNat (28:Nat)-Int.toNat 0,28-Int.toNat 0⟩ h5 (own_rl rfl o (fun _=>rfl) (by decide) rfl (by decide))).mono ?_;rintro _ h8 ⟨rfl,rfl⟩;exact⟨_,rfl,by rw[show isWord s.data.toList=(isName s.data.toList && !decide (s.data.toList∈keywords)) from rfl,c];rfl,E⟩
 .exact⟨by rw[show isWord s.data.toList=(isName s.data.toList && !decide (s.data.toList∈keywords)) from rfl,c];rfl,E⟩
end Go.VC
end

section
namespace Go.VC
open Go.Proofs Go.LexS
def sideM (x:Mv):Int:=if x.send then 0 else 1
def cmpM (x y:Mv):Int:=orI3 (cmpI x.f y.f) (orI3 (cmpI (sideM x) (sideM y)) (orI3 (cmpI x.peer y.peer) (cmpI x.label y.label)))
theorem cmpM_neg {x y:Mv}:cmpM x y<0 ↔ mvLt x y:=by
 unfold cmpM mvLt evLt orI3 cmpI sideM Mv.ev;obtain⟨f,s,p,l,t,a⟩:=x;obtain⟨f',s',p',l',t',a'⟩:=y;cases s<;>cases s'<;>simp<;>(repeat' split)<;>omega
namespace M
theorem inrows (L:List Int):∀r∈L.map inC,r.length=1:=fun r hr=>by obtain⟨x,_,rfl⟩:=Yp.1 hr;rfl
end M
variable [Mono]
namespace M
theorem nan151 (x:Int) (h:Heap):Fn Pz 151 #[.int .i64 x] h fun v h'=>v=.bool false/\h'=h:=by
 apply vc151;unfold W151;exact⟨by rw[bne_self_eq_false],rfl⟩
theorem cmp110 (x y:Int) (h:Heap):Fn Pz 110 #[.int .i64 x,.int .i64 y] h fun v h'=>v=.int .i64 (cmpI x y)/\h'=h:=by
 apply vc110;unfold W110;refine (nan151 x h).mono ?_;rintro _ _ ⟨rfl,rfl⟩;refine⟨_,rfl,?_⟩;refine (nan151 y _).mono ?_;rintro _ _ ⟨rfl,rfl⟩;refine⟨_,rfl,?_⟩;refine sB_f rfl (sB_f rfl ?_);unfold cmpI;refine sBi (fun c=>?_) (fun c=>sBi (fun d=>?_) (fun d=>?_))
 .exact⟨by rw[if_pos c],rfl⟩
 .exact⟨by rw[if_neg c,if_pos d],rfl⟩
 .exact⟨by rw[if_neg c,if_neg d],rfl⟩
theorem or109 (l:List Int) (s:Sl) (h:Heap) (hr:Rw h 1 s (l.map inC)) (hm:l.length<=1048576) :
  Fn Pz 109 #[.slice s.a s.n s.c] h fun v h'=>v=.int .i64 (l.foldr orI3 0)/\h'=h:=by
 apply vc109;unfold W109;have hn:=hr.ln;refine up_loop (n:=s.n) (fun i h'=>h'=h/\l.foldr orI3 0=(l.drop i).foldr orI3 0) ⟨rfl,rfl⟩ ?_;rintro-i h5 hi ⟨rfl,hq⟩;refine sB_intro (fun l2=>?_) (fun l2=>?_)
 .replace l2:=lt_t l2;refine hr.nbI (by omega) (by omega) fun b o d g t=>?_;replace g:l[i]?=some d:=g;have hd:l.drop i=d::l.drop (i+1):=by
   obtain⟨hl,he⟩:=Ya.1 g;rw[List.drop_eq_getElem_cons hl,he]
  rw[hd,List.foldr_cons] at hq;refine⟨_,t.hd,?_⟩;refine sBn (fun c=>?_) (fun c=>?_)
  .refine⟨?_,rfl⟩;rw[hq];unfold orI3;rw[if_pos c]
  .refine Up.next l2 (by omega) ⟨rfl,?_⟩;rw[hq];unfold orI3;rw[if_neg (by omega)]
 .replace l2:=lt_f l2;rw[List.drop_eq_nil_of_le (by omega)] at hq;exact⟨by rw[hq];rfl,rfl⟩
theorem compare138 (x y:Ev) (h:Heap):Fn Pz 138 #[.agg ⟨x.cs⟩,.agg ⟨y.cs⟩] h fun v h'=>v=.int .i64 (cmpE x y)/\Ext h h':=by
 apply vc138 x.send x.peer x.label y.send y.peer y.label;unfold W138;have hs:=St.refl h;refine hs.newb fun h7 hs=>?_;refine hs.newb fun h8 hs=>?_;refine⟨_,hs.rd 1 rfl rfl,?_⟩;refine⟨_,hs.rd 0 rfl rfl,?_⟩;refine sB_intro (fun c=>?_) (fun c=>?_)
 .have hne:x.send≠y.send:=by simpa using c
  refine⟨_,hs.rd 1 rfl rfl,?_⟩;unfold cmpE;rw[if_pos hne];refine sB_intro (fun d=>?_) (fun d=>?_)
  .exact⟨by rw[if_pos d],hs.ext⟩
  .exact⟨by rw[if_neg (by rw[d];simp)],hs.ext⟩
 .have he:x.send=y.send:=by simpa using c
  refine⟨_,hs.rd 1 rfl rfl,_,hs.rd 0 rfl rfl,_,hs.rd 1 rfl rfl,_,hs.rd 0 rfl rfl,?_⟩;refine (cmp110 _ _ _).mono ?_;rintro _ _ ⟨rfl,rfl⟩;refine⟨_,rfl,fun _ _ _ _ hv=>hv,?_⟩;refine (cmp110 _ _ _).mono ?_;rintro _ _ ⟨rfl,rfl⟩;refine⟨_,rfl,fun _ _ _ _ hv=>hv,?_⟩;refine hs.newb fun h22 hs=>?_;have hs2:=hs.blkS 2 1 ([cmpI x.peer y.peer,cmpI x.label y.label].map inC) rfl (inrows _) rfl (by decide);refine (or109 [cmpI x.peer y.peer,cmpI x.label y.label] _ h22 (hs2.rows 0 rfl (by omega)) (show 2<=1048576 by decide)).mono ?_;rintro _ _ ⟨rfl,rfl⟩;refine⟨_,rfl,?_,hs.ext⟩;unfold cmpE;rw[if_neg (by simpa using he)];show Value.int .i64 (orI3 _ (orI3 _ 0))=_;congr 1;unfold orI3;split
  .rfl
  .split<;>omega
theorem side129 (x:Mv) (h:Heap):Fn Pz 129 #[.agg ⟨x.cs⟩] h fun v h'=>v=.int .i64 (sideM x)/\Ext h h':=by
 apply vc129 x.f x.send x.peer x.label x.t x.ag;unfold W129;have hs:=St.refl h;refine hs.newb fun h7 hs=>?_;refine⟨_,hs.rd 0 rfl rfl,?_⟩;unfold sideM;refine sB_intro (fun c=>?_) (fun c=>?_)
 .exact⟨by rw[if_pos c],hs.ext⟩
 .exact⟨by rw[if_neg (by rw[c];simp)],hs.ext⟩
theorem Sm_ext {al:List Addr} {h h':Heap} (E:Ext h h'):Sm al h h':=fun _ _ _ _ hv=>hc_ext E hv
theorem order73 (x y:Mv) (h:Heap):Fn Pz 73 #[.agg ⟨x.cs⟩,.agg ⟨y.cs⟩] h fun v h'=>v=.int .i64 (cmpM x y)/\Ext h h':=by
 apply vc73 x.f x.send x.peer x.label x.t x.ag y.f y.send y.peer y.label y.t y.ag;unfold W73;have hs:=St.refl h;refine hs.newb fun h13 hs=>?_;refine hs.newb fun h14 hs=>?_;refine⟨_,hs.rd 1 rfl rfl,_,hs.rd 0 rfl rfl,_,_,_,_,_,_,hs.at 1 rfl (o:=0) (n:=6) rfl,_,_,_,_,_,_,hs.at 0 rfl (o:=0) (n:=6) rfl,_,hs.rd 1 rfl rfl,_,hs.rd 0 rfl rfl,_,hs.rd 1 rfl rfl,_,hs.rd 0 rfl rfl,?_⟩;refine (cmp110 _ _ _).mono ?_;rintro _ _ ⟨rfl,rfl⟩;refine⟨_,rfl,fun _ _ _ _ hv=>hv,?_⟩;refine (side129 x _).mono ?_;rintro _ h38 ⟨rfl,E1⟩;refine⟨_,rfl,Sm_ext E1,?_⟩;have hs:=hs.step E1;refine (side129 y _).mono ?_;rintro _ h41 ⟨rfl,E2⟩;refine⟨_,rfl,Sm_ext E2,?_⟩;have hs:=hs.step E2;refine (cmp110 _ _ _).mono ?_;rintro _ _ ⟨rfl,rfl⟩;refine⟨_,rfl,fun _ _ _ _ hv=>hv,?_⟩;refine (cmp110 _ _ _).mono ?_;rintro _ _ ⟨rfl,rfl⟩;refine⟨_,rfl,fun _ _ _ _ hv=>hv,?_⟩;refine (cmp110 _ _ _).mono ?_;rintro _ _ ⟨rfl,rfl⟩;refine⟨_,rfl,fun _ _ _ _ hv=>hv,?_⟩;refine hs.newb fun h51 hs=>?_;have hs2:=hs.blkS 4 1 ([cmpI x.f y.f,cmpI (sideM x) (sideM y),cmpI x.peer y.peer,cmpI x.label y.label].map inC) rfl (inrows _) rfl (by decide);refine (or109 [cmpI x.f y.f,cmpI (sideM x) (sideM y),cmpI x.peer y.peer,cmpI x.label y.label] _ h51 (hs2.rows 0 rfl (by omega)) (show 4<=1048576 by decide)).mono ?_;rintro _ _ ⟨rfl,rfl⟩;refine⟨_,rfl,?_,hs.ext⟩;unfold cmpM;show Value.int .i64 (orI3 _ (orI3 _ (orI3 _ (orI3 _ 0))))=_;congr 3;unfold orI3;split
 .rfl
 .omega
end M
end Go.VC
end

section
/- The kit's shelf at this program. -/
namespace Go.Proofs
open Go.Shelf
def Tryz.lays146_ren : Go.Shelf.Ren := ⟨fun | 146 => 255 | 221 => 282 | 268 => 298 | 138 => 299 | 143 => 300 | 195 => 306 | 197 => 307 | 218 => 308 | 219 => 309 | 260 => 311 | 217 => 312 | 225 => 313 | 224 => 314 | 267 => 315 | 266 => 316 | 314 => 317 | n => n, fun | 9 => 9 | 31 => 22 | 3 => 3 | 4 => 4 | 0 => 0 | 105 => 402 | 21 => 21 | 5 => 5 | 46 => 178 | 119 => 407 | 139 => 410 | 138 => 409 | 146 => 237 | 51 => 236 | n => n, fun | 1 => 1 | 3 => 2 | 4 => 3 | n => n⟩
theorem Tryz.lays146 : Go.Proofs.Lays.n146 Tryz.prog Tryz.lays146_ren := {
  mixed := by kernel_rfl
  f138 := Tryz.func299.trans (congrArg some (by kernel_rfl))
  f143 := Tryz.func300.trans (congrArg some (by kernel_rfl))
  f146 := Tryz.func255.trans (congrArg some (by kernel_rfl))
  f195 := Tryz.func306.trans (congrArg some (by kernel_rfl))
  f197 := Tryz.func307.trans (congrArg some (by kernel_rfl))
  f217 := Tryz.func312.trans (congrArg some (by kernel_rfl))
  f218 := Tryz.func308.trans (congrArg some (by kernel_rfl))
  f219 := Tryz.func309.trans (congrArg some (by kernel_rfl))
  f221 := Tryz.func282.trans (congrArg some (by kernel_rfl))
  f224 := Tryz.func314.trans (congrArg some (by kernel_rfl))
  f225 := Tryz.func313.trans (congrArg some (by kernel_rfl))
  f260 := Tryz.func311.trans (congrArg some (by kernel_rfl))
  f266 := Tryz.func316.trans (congrArg some (by kernel_rfl))
  f267 := Tryz.func315.trans (congrArg some (by kernel_rfl))
  f268 := Tryz.func298.trans (congrArg some (by kernel_rfl))
  f314 := Tryz.func317.trans (congrArg some (by kernel_rfl))
  t0 := Tryz.underlying0
  a0 := Tryz.isAgg0
  z0 := Tryz.sizeOf0
  v0 := Tryz.zeroValue0
  t3 := Tryz.underlying3
  a3 := Tryz.isAgg3
  z3 := Tryz.sizeOf3
  v3 := Tryz.zeroValue3
  t4 := Tryz.underlying4
  a4 := Tryz.isAgg4
  z4 := Tryz.sizeOf4
  v4 := Tryz.zeroValue4
  t5 := Tryz.underlying5
  a5 := Tryz.isAgg5
  z5 := Tryz.sizeOf5
  v5 := Tryz.zeroValue5
  t9 := Tryz.underlying9
  a9 := Tryz.isAgg9
  z9 := Tryz.sizeOf9
  v9 := Tryz.zeroValue9
  t21 := Tryz.underlying21
  a21 := Tryz.isAgg21
  z21 := Tryz.sizeOf21
  v21 := Tryz.zeroValue21
  t31 := Tryz.underlying22
  a31 := Tryz.isAgg22
  z31 := Tryz.sizeOf22
  v31 := Tryz.zeroValue22
  t46 := Tryz.underlying178
  a46 := Tryz.isAgg178
  z46 := Tryz.sizeOf178
  v46 := Tryz.zeroValue178
  t51 := Tryz.underlying236
  a51 := Tryz.isAgg236
  z51 := Tryz.sizeOf236
  v51 := Tryz.zeroValue236
  t105 := Tryz.underlying402
  a105 := Tryz.isAgg402
  z105 := Tryz.sizeOf402
  v105 := Tryz.zeroValue402
  t119 := Tryz.underlying407
  a119 := Tryz.isAgg407
  z119 := Tryz.sizeOf407
  t138 := Tryz.underlying409
  a138 := Tryz.isAgg409
  z138 := Tryz.sizeOf409
  v138 := Tryz.zeroValue409
  t139 := Tryz.underlying410
  a139 := Tryz.isAgg410
  z139 := Tryz.sizeOf410
  v139 := Tryz.zeroValue410
  t146 := Tryz.underlying237
  a146 := Tryz.isAgg237
  z146 := Tryz.sizeOf237
  v146 := Tryz.zeroValue237
  g1 := by kernel_rfl
  g3 := by kernel_rfl
  g4 := by kernel_rfl }
def Tryz.lays212_ren : Go.Shelf.Ren := ⟨fun | 212 => 106 | 263 => 148 | 264 => 149 | n => n, fun | 46 => 178 | 51 => 236 | 146 => 237 | 53 => 121 | 148 => 239 | n => n, fun | n => n⟩
theorem Tryz.lays212 : Go.Proofs.Lays.n212 Tryz.prog Tryz.lays212_ren := {
  mixed := by kernel_rfl
  f212 := Tryz.func106.trans (congrArg some (by kernel_rfl))
  f263 := Tryz.func148.trans (congrArg some (by kernel_rfl))
  f264 := Tryz.func149.trans (congrArg some (by kernel_rfl))
  t46 := Tryz.underlying178
  a46 := Tryz.isAgg178
  z46 := Tryz.sizeOf178
  v46 := Tryz.zeroValue178
  t51 := Tryz.underlying236
  a51 := Tryz.isAgg236
  z51 := Tryz.sizeOf236
  v51 := Tryz.zeroValue236
  t53 := Tryz.underlying121
  a53 := Tryz.isAgg121
  z53 := Tryz.sizeOf121
  v53 := Tryz.zeroValue121
  t146 := Tryz.underlying237
  a146 := Tryz.isAgg237
  z146 := Tryz.sizeOf237
  v146 := Tryz.zeroValue237
  t148 := Tryz.underlying239
  a148 := Tryz.isAgg239
  z148 := Tryz.sizeOf239
  v148 := Tryz.zeroValue239 }
def Tryz.lays7_29_ren : Go.Shelf.Ren := ⟨fun | 29 => 141 | n => n, fun | 22 => 121 | 3 => 3 | 4 => 4 | 25 => 178 | 54 => 304 | 0 => 0 | 5 => 5 | n => n, fun | 1 => 0 | n => n⟩
theorem Tryz.lays7_29 : Go.Proofs.Lays7.n29 Tryz.prog Tryz.lays7_29_ren := {
  mixed := by kernel_rfl
  f29 := Tryz.func141.trans (congrArg some (by kernel_rfl))
  t0 := Tryz.underlying0
  a0 := Tryz.isAgg0
  z0 := Tryz.sizeOf0
  v0 := Tryz.zeroValue0
  i0 := by kernel_rfl
  t3 := Tryz.underlying3
  a3 := Tryz.isAgg3
  z3 := Tryz.sizeOf3
  v3 := Tryz.zeroValue3
  i3 := by kernel_rfl
  t4 := Tryz.underlying4
  a4 := Tryz.isAgg4
  z4 := Tryz.sizeOf4
  v4 := Tryz.zeroValue4
  i4 := by kernel_rfl
  t5 := Tryz.underlying5
  a5 := Tryz.isAgg5
  z5 := Tryz.sizeOf5
  v5 := Tryz.zeroValue5
  i5 := by kernel_rfl
  t22 := Tryz.underlying121
  a22 := Tryz.isAgg121
  z22 := Tryz.sizeOf121
  v22 := Tryz.zeroValue121
  i22 := by kernel_rfl
  t25 := Tryz.underlying178
  a25 := Tryz.isAgg178
  z25 := Tryz.sizeOf178
  v25 := Tryz.zeroValue178
  i25 := by kernel_rfl
  t54 := Tryz.underlying304
  a54 := Tryz.isAgg304
  z54 := Tryz.sizeOf304
  g1 := by kernel_rfl }
def Tryz.sortL137_ren : Go.Shelf.Ren := ⟨fun | 6 => 137 | 15 => 128 | 14 => 193 | 28 => 187 | 29 => 188 | 20 => 231 | 21 => 232 | 22 => 233 | 23 => 234 | 24 => 235 | 25 => 236 | 26 => 237 | 27 => 238 | 46 => 259 | 47 => 217 | 48 => 218 | 49 => 260 | 50 => 261 | 57 => 283 | n => n, fun | 22 => 151 | 24 => 116 | 25 => 225 | 3 => 3 | 39 => 178 | 0 => 0 | 53 => 236 | 55 => 121 | 4 => 4 | 46 => 294 | 45 => 293 | 50 => 213 | 5 => 5 | 9 => 9 | 66 => 327 | 70 => 331 | 76 => 362 | 77 => 363 | n => n, fun | n => n⟩
theorem Tryz.sortL137 : Go.Proofs.SlLaysF0.n6 Tryz.prog Tryz.sortL137_ren := {
  mixed := by kernel_rfl
  f6 := ⟨Tryz.f137.name, by decide, Tryz.func137.trans (congrArg some (by kernel_rfl))⟩
  f14 := ⟨Tryz.f193.name, by decide, Tryz.func193.trans (congrArg some (by kernel_rfl))⟩
  f15 := Tryz.func128.trans (congrArg some (by kernel_rfl))
  f20 := ⟨Tryz.f231.name, by decide, Tryz.func231.trans (congrArg some (by kernel_rfl))⟩
  f21 := ⟨Tryz.f232.name, by decide, Tryz.func232.trans (congrArg some (by kernel_rfl))⟩
  f22 := ⟨Tryz.f233.name, by decide, Tryz.func233.trans (congrArg some (by kernel_rfl))⟩
  f23 := ⟨Tryz.f234.name, by decide, Tryz.func234.trans (congrArg some (by kernel_rfl))⟩
  f24 := ⟨Tryz.f235.name, by decide, Tryz.func235.trans (congrArg some (by kernel_rfl))⟩
  f25 := ⟨Tryz.f236.name, by decide, Tryz.func236.trans (congrArg some (by kernel_rfl))⟩
  f26 := ⟨Tryz.f237.name, by decide, Tryz.func237.trans (congrArg some (by kernel_rfl))⟩
  f27 := ⟨Tryz.f238.name, by decide, Tryz.func238.trans (congrArg some (by kernel_rfl))⟩
  f28 := Tryz.func187.trans (congrArg some (by kernel_rfl))
  f29 := Tryz.func188.trans (congrArg some (by kernel_rfl))
  f46 := ⟨Tryz.f259.name, by decide, Tryz.func259.trans (congrArg some (by kernel_rfl))⟩
  f47 := Tryz.func217.trans (congrArg some (by kernel_rfl))
  f48 := Tryz.func218.trans (congrArg some (by kernel_rfl))
  f49 := ⟨Tryz.f260.name, by decide, Tryz.func260.trans (congrArg some (by kernel_rfl))⟩
  f50 := ⟨Tryz.f261.name, by decide, Tryz.func261.trans (congrArg some (by kernel_rfl))⟩
  f57 := ⟨Tryz.f283.name, by decide, Tryz.func283.trans (congrArg some (by kernel_rfl))⟩
  t0 := Tryz.underlying0
  a0 := Tryz.isAgg0
  z0 := Tryz.sizeOf0
  v0 := Tryz.zeroValue0
  t3 := Tryz.underlying3
  a3 := Tryz.isAgg3
  z3 := Tryz.sizeOf3
  v3 := Tryz.zeroValue3
  t4 := Tryz.underlying4
  a4 := Tryz.isAgg4
  z4 := Tryz.sizeOf4
  v4 := Tryz.zeroValue4
  t5 := Tryz.underlying5
  a5 := Tryz.isAgg5
  z5 := Tryz.sizeOf5
  v5 := Tryz.zeroValue5
  t9 := Tryz.underlying9
  a9 := Tryz.isAgg9
  z9 := Tryz.sizeOf9
  v9 := Tryz.zeroValue9
  t22 := Tryz.underlying151
  a22 := Tryz.isAgg151
  z22 := Tryz.sizeOf151
  v22 := Tryz.zeroValue151
  t25 := Tryz.underlying225
  a25 := Tryz.isAgg225
  z25 := Tryz.sizeOf225
  v25 := Tryz.zeroValue225
  t39 := Tryz.underlying178
  a39 := Tryz.isAgg178
  z39 := Tryz.sizeOf178
  v39 := Tryz.zeroValue178
  t45 := Tryz.underlying293
  a45 := Tryz.isAgg293
  z45 := Tryz.sizeOf293
  v45 := Tryz.zeroValue293
  t46 := Tryz.underlying294
  a46 := Tryz.isAgg294
  z46 := Tryz.sizeOf294
  v46 := Tryz.zeroValue294
  t50 := Tryz.underlying213
  a50 := Tryz.isAgg213
  z50 := Tryz.sizeOf213
  v50 := Tryz.zeroValue213
  t53 := Tryz.underlying236
  a53 := Tryz.isAgg236
  z53 := Tryz.sizeOf236
  v53 := Tryz.zeroValue236
  t55 := Tryz.underlying121
  a55 := Tryz.isAgg121
  z55 := Tryz.sizeOf121
  v55 := Tryz.zeroValue121
  t66 := Tryz.underlying327
  a66 := Tryz.isAgg327
  z66 := Tryz.sizeOf327
  v66 := Tryz.zeroValue327
  t70 := Tryz.underlying331
  a70 := Tryz.isAgg331
  z70 := Tryz.sizeOf331
  v70 := Tryz.zeroValue331
  t76 := Tryz.underlying362
  a76 := Tryz.isAgg362
  z76 := Tryz.sizeOf362
  v76 := Tryz.zeroValue362
  t77 := Tryz.underlying363
  a77 := Tryz.isAgg363
  z77 := Tryz.sizeOf363
  v77 := Tryz.zeroValue363 }
def Tryz.sortL72_ren : Go.Shelf.Ren := ⟨fun | 6 => 72 | 15 => 128 | 14 => 127 | 28 => 187 | 29 => 188 | 20 => 179 | 21 => 180 | 22 => 181 | 23 => 182 | 24 => 183 | 25 => 184 | 26 => 185 | 27 => 186 | 46 => 216 | 47 => 217 | 48 => 218 | 49 => 219 | 50 => 220 | 57 => 252 | n => n, fun | 22 => 31 | 24 => 45 | 25 => 142 | 3 => 3 | 39 => 178 | 0 => 0 | 53 => 236 | 55 => 121 | 4 => 4 | 46 => 294 | 45 => 293 | 50 => 213 | 5 => 5 | 9 => 9 | 66 => 327 | 70 => 331 | 76 => 362 | 77 => 363 | n => n, fun | n => n⟩
theorem Tryz.sortL72 : Go.Proofs.SlLaysF0.n6 Tryz.prog Tryz.sortL72_ren := {
  mixed := by kernel_rfl
  f6 := ⟨Tryz.f72.name, by decide, Tryz.func72.trans (congrArg some (by kernel_rfl))⟩
  f14 := ⟨Tryz.f127.name, by decide, Tryz.func127.trans (congrArg some (by kernel_rfl))⟩
  f15 := Tryz.func128.trans (congrArg some (by kernel_rfl))
  f20 := ⟨Tryz.f179.name, by decide, Tryz.func179.trans (congrArg some (by kernel_rfl))⟩
  f21 := ⟨Tryz.f180.name, by decide, Tryz.func180.trans (congrArg some (by kernel_rfl))⟩
  f22 := ⟨Tryz.f181.name, by decide, Tryz.func181.trans (congrArg some (by kernel_rfl))⟩
  f23 := ⟨Tryz.f182.name, by decide, Tryz.func182.trans (congrArg some (by kernel_rfl))⟩
  f24 := ⟨Tryz.f183.name, by decide, Tryz.func183.trans (congrArg some (by kernel_rfl))⟩
  f25 := ⟨Tryz.f184.name, by decide, Tryz.func184.trans (congrArg some (by kernel_rfl))⟩
  f26 := ⟨Tryz.f185.name, by decide, Tryz.func185.trans (congrArg some (by kernel_rfl))⟩
  f27 := ⟨Tryz.f186.name, by decide, Tryz.func186.trans (congrArg some (by kernel_rfl))⟩
  f28 := Tryz.func187.trans (congrArg some (by kernel_rfl))
  f29 := Tryz.func188.trans (congrArg some (by kernel_rfl))
  f46 := ⟨Tryz.f216.name, by decide, Tryz.func216.trans (congrArg some (by kernel_rfl))⟩
  f47 := Tryz.func217.trans (congrArg some (by kernel_rfl))
  f48 := Tryz.func218.trans (congrArg some (by kernel_rfl))
  f49 := ⟨Tryz.f219.name, by decide, Tryz.func219.trans (congrArg some (by kernel_rfl))⟩
  f50 := ⟨Tryz.f220.name, by decide, Tryz.func220.trans (congrArg some (by kernel_rfl))⟩
  f57 := ⟨Tryz.f252.name, by decide, Tryz.func252.trans (congrArg some (by kernel_rfl))⟩
  t0 := Tryz.underlying0
  a0 := Tryz.isAgg0
  z0 := Tryz.sizeOf0
  v0 := Tryz.zeroValue0
  t3 := Tryz.underlying3
  a3 := Tryz.isAgg3
  z3 := Tryz.sizeOf3
  v3 := Tryz.zeroValue3
  t4 := Tryz.underlying4
  a4 := Tryz.isAgg4
  z4 := Tryz.sizeOf4
  v4 := Tryz.zeroValue4
  t5 := Tryz.underlying5
  a5 := Tryz.isAgg5
  z5 := Tryz.sizeOf5
  v5 := Tryz.zeroValue5
  t9 := Tryz.underlying9
  a9 := Tryz.isAgg9
  z9 := Tryz.sizeOf9
  v9 := Tryz.zeroValue9
  t22 := Tryz.underlying31
  a22 := Tryz.isAgg31
  z22 := Tryz.sizeOf31
  v22 := Tryz.zeroValue31
  t25 := Tryz.underlying142
  a25 := Tryz.isAgg142
  z25 := Tryz.sizeOf142
  v25 := Tryz.zeroValue142
  t39 := Tryz.underlying178
  a39 := Tryz.isAgg178
  z39 := Tryz.sizeOf178
  v39 := Tryz.zeroValue178
  t45 := Tryz.underlying293
  a45 := Tryz.isAgg293
  z45 := Tryz.sizeOf293
  v45 := Tryz.zeroValue293
  t46 := Tryz.underlying294
  a46 := Tryz.isAgg294
  z46 := Tryz.sizeOf294
  v46 := Tryz.zeroValue294
  t50 := Tryz.underlying213
  a50 := Tryz.isAgg213
  z50 := Tryz.sizeOf213
  v50 := Tryz.zeroValue213
  t53 := Tryz.underlying236
  a53 := Tryz.isAgg236
  z53 := Tryz.sizeOf236
  v53 := Tryz.zeroValue236
  t55 := Tryz.underlying121
  a55 := Tryz.isAgg121
  z55 := Tryz.sizeOf121
  v55 := Tryz.zeroValue121
  t66 := Tryz.underlying327
  a66 := Tryz.isAgg327
  z66 := Tryz.sizeOf327
  v66 := Tryz.zeroValue327
  t70 := Tryz.underlying331
  a70 := Tryz.isAgg331
  z70 := Tryz.sizeOf331
  v70 := Tryz.zeroValue331
  t76 := Tryz.underlying362
  a76 := Tryz.isAgg362
  z76 := Tryz.sizeOf362
  v76 := Tryz.zeroValue362
  t77 := Tryz.underlying363
  a77 := Tryz.isAgg363
  z77 := Tryz.sizeOf363
  v77 := Tryz.zeroValue363 }
end Go.Proofs
end

section
namespace Go.VC
open Go.Proofs Go.LexS Go.Shelf
structure Gx (h:Heap):Prop where
 m:∃m:Int,hc h ⟨1,0,none⟩=some (.int .i64 m)
 t:∀j,j<Lib.deBruijn64tab.length->hc h ⟨0,j,none⟩=some (.int .u8 (Lib.deBruijn64tab.getD j 0))
theorem Gx.ext {h h':Heap} (hx:Gx h) (E:Ext h h'):Gx h':=by
 obtain⟨m,hm⟩:=hx.m;exact⟨⟨m,hc_ext E hm⟩,fun j hj=>hc_ext E (hx.t j hj)⟩
theorem mul106 (x y:Nat) (hx:x<18446744073709551616) (hy:y<18446744073709551616) (h:Heap):Fn Pz 106 #[.int .u64 x,.int .u64 y] h fun v h'=>v=.tuple ⟨[.int .u64 ((x*y/18446744073709551616:Nat):Int),.int .u64 ((x*y%18446744073709551616:Nat):Int)]⟩/\h'=h:=
 Fn.of_same fun w=>Any.bits_Mul Tryz.lays212 x y hx hy w
def pieces (l:Nm):List Nm:=Go.Lib.split l [46]
theorem split255 (l:Nm) (h:Heap) (hx:Gx h) (hl:l.length<=50):Fn Pz 255 #[.string (bs l),.string (bs [46])] h fun v h'=>Ext h h'/\∃s:Sl,v=.slice s.a s.n s.c/\RL h' 1 s nmC (pieces l):=by
 intro w hw;subst hw;obtain⟨m,hm⟩:=hx.m;have hle:=Lib.countB_le (bs [46]) (by decide) (bs l).size (bs l) (Yyt _);have hlen:=Lib.splitB_all (bs [46]) (by decide) 0 _ (bs l) rfl;have hdat:=Lib.splitB_data (bs [46]) 0 (Lib.countB (bs l) (bs [46])) (bs l);have hp:pieces l=(Lib.splitB (bs [46]) 0 (Lib.countB (bs l) (bs [46])) (bs l)).map (·.data.toList):=hdat.symm;have hcells:(Lib.splitB (bs [46]) 0 (Lib.countB (bs l) (bs [46])) (bs l)).map Value.string=(pieces l).map fun x=>Value.string (bs x):=by
  rw[hp,List.map_map];rfl
 have hpl:(pieces l).length=Lib.countB (bs l) (bs [46])+1:=by rw[hp,Yc,hlen]
 rw[bs_size] at hle;refine (Any.strings_Split Tryz.lays146 (by kernel_rfl) (bs l) (bs [46]) m w (by rw[bs_size];omega) hm (by decide)).mono ?_;rintro e w' ⟨rfl,rfl⟩;rw[hcells];have ho:Own (w.alloc (.cells ((pieces l).map fun x=>Value.string (bs x)).toArray (Tryz.lays146_ren.t 9))).heap w.heap.size ((pieces l).map fun x=>Value.string (bs x)) (Tryz.lays146_ren.t 9):=Own.push;refine⟨_,rfl,⟨Ext.push _ _,⟨some ⟨w.heap.size,0,none⟩,Lib.countB (bs l) (bs [46])+1,Lib.countB (bs l) (bs [46])+1⟩,rfl,⟨⟨by rw[Yc,hpl],fun _=>⟨w.heap.size,0,rfl,fun i row hi=>?_⟩⟩,Yyt _,(fun e=>by cases e),by rw[hpl];omega⟩⟩,rfl,rfl,rfl,trivial⟩;rw[Yd] at hi;obtain⟨x,hx1,hx2⟩:=Yya.1 hi;subst hx2;refine ho.atC fun j v hj=>?_
 match j,hj with
 | 0,hj=>cases hj;rw[show 0+i*1+0=i by omega,Yd,hx1];rfl
theorem swoE:Go.Sort.SWO (ltOf cmpE) where
 irrefl x:=by unfold ltOf;rw[decide_eq_false_iff_not,cmpE_neg];exact evLt_irr x
 trans x y z h1 h2:=by unfold ltOf at *;rw[decide_eq_true_eq,cmpE_neg] at *;exact evLt_trans h1 h2
 ntrans x y z h1 h2:=by
  unfold ltOf at *;rw[decide_eq_false_iff_not,cmpE_neg] at *;obtain⟨a,b,c⟩:=x;obtain⟨a',b',c'⟩:=y;obtain⟨a'',b'',c''⟩:=z;unfold evLt at *;cases a<;>cases a'<;>cases a''<;>simp at *<;>omega
theorem swoM:Go.Sort.SWO (ltOf cmpM) where
 irrefl x:=by unfold ltOf;rw[decide_eq_false_iff_not,cmpM_neg];exact mvLt_irr x
 trans x y z h1 h2:=by unfold ltOf at *;rw[decide_eq_true_eq,cmpM_neg] at *;exact mvLt_trans h1 h2
 ntrans x y z h1 h2:=by
  unfold ltOf at *;rw[decide_eq_false_iff_not,cmpM_neg] at *;obtain⟨f,a,b,c,t,g⟩:=x;obtain⟨f',a',b',c',t',g'⟩:=y;obtain⟨f'',a'',b'',c'',t'',g''⟩:=z;unfold mvLt evLt Mv.ev at *;cases a<;>cases a'<;>cases a''<;>simp at *<;>omega
instance:Inhabited Ev:=⟨⟨false,0,0⟩⟩
instance:Inhabited Mv:=⟨⟨0,false,0,0,0,false⟩⟩
theorem sort137 {h0 h:Heap} {L:List It} (hs:St h0 h L) (k:Nat) {s:Sl} {l:List Ev} (hk:L[k]?=some (.sl s 116 3 (l.map Ev.cs))) (hm:l.length<=1048576) :
  Fn Pz 137 #[.slice s.a s.n s.c,.func (.func 138) #[] #[]] h fun v h'=>v=.tuple ⟨[]⟩/\∃l':List Ev,l'.Perm l/\l'.Pairwise (fun a b=>¬evLt b a)/\St h0 h' (L.set k (.sl s 116 3 (l'.map Ev.cs))):=by
 refine Fn.mono (sort_own Tryz.sortL137 3 116 Tryz.isAgg116 Tryz.sizeOf116 Ev.cs (fun _=>rfl) (fun x v hv=>by simp[Ev.cs] at hv;rcases hv with rfl | rfl | rfl<;>rfl) cmpE swoE 138 (enters_of Tryz.func138 (by kernel_rfl) rfl) (fun x y h=>@M.compare138 monoDrawn x y h) hs k hk (by omega) (by omega)) ?_;rintro v h' ⟨rfl,l',hp,hw,hs'⟩;exact⟨rfl,l',hp,hw.imp fun {a b} hab=>by unfold ltOf at hab;rw[decide_eq_false_iff_not,cmpE_neg] at hab;exact hab,hs'⟩
theorem sort72 {h0 h:Heap} {L:List It} (hs:St h0 h L) (k:Nat) {s:Sl} {l:List Mv} (hk:L[k]?=some (.sl s 45 6 (l.map Mv.cs))) (hm:l.length<=1048576) :
  Fn Pz 72 #[.slice s.a s.n s.c,.func (.func 73) #[] #[]] h fun v h'=>v=.tuple ⟨[]⟩/\∃l':List Mv,l'.Perm l/\l'.Pairwise (fun a b=>¬mvLt b a)/\St h0 h' (L.set k (.sl s 45 6 (l'.map Mv.cs))):=by
 refine Fn.mono (sort_own Tryz.sortL72 6 45 Tryz.isAgg45 Tryz.sizeOf45 Mv.cs (fun _=>rfl) (fun x v hv=>by simp[Mv.cs] at hv;rcases hv with rfl | rfl | rfl | rfl | rfl | rfl<;>rfl) cmpM swoM 73 (enters_of Tryz.func73 (by kernel_rfl) rfl) (fun x y h=>@M.order73 monoDrawn x y h) hs k hk (by omega) (by omega)) ?_;rintro v h' ⟨rfl,l',hp,hw,hs'⟩;exact⟨rfl,l',hp,hw.imp fun {a b} hab=>by unfold ltOf at hab;rw[decide_eq_false_iff_not,cmpM_neg] at hab;exact hab,hs'⟩
end Go.VC
end

section
namespace Go.VC
open Go.Proofs Go.LexS
theorem compactL_ne {l:List Ev} (h:l≠[]):compactL l≠[]:=by
 cases l with
 | nil=>exact absurd rfl h
 | cons a r=>
  intro e;have:=(compactL_mem (a::r) a).2 (by simp);rw[e] at this;cases this
theorem compactL_snoc:∀(l:List Ev) (x:Ev),compactL (l++[x])=if l.getLast?=some x then compactL l else compactL l++[x]
 | [],x=>by simp[compactL]
 | a::r,x=>by
  have ih:=compactL_snoc r x;cases r with
  | nil=>
   by_cases h:a=x
   .subst h;simp[compactL]
   .simp[compactL,h]
  | cons b r'=>
   have hne:=compactL_ne (l:=b::r') (by simp);have hl:(a::b::r').getLast?=(b::r').getLast?:=by simp[List.getLast?_cons_cons]
   rw[List.cons_append,compactL,ih,hl];by_cases h:(b::r').getLast?=some x
   .rw[if_pos h,if_pos h]
    conv=>rhs;rw[compactL]
   .rw[if_neg h,if_neg h]
    conv=>rhs;rw[compactL]
    cases hc:compactL (b::r') with
    | nil=>exact absurd hc hne
    | cons y t=>
     simp only[List.cons_append];split<;>rfl
theorem compactL_step {l:List Ev} {k:Nat} {x y:Ev} (hx:l[k]?=some x) (hk:1<=k) (hy:l[k-1]?=some y):compactL (l.take (k+1))=if x=y then compactL (l.take k) else compactL (l.take k)++[x]:=by
 rw[take_snoc hx,compactL_snoc];have hl:(l.take k).getLast?=some y:=by
  have hkl:=(Ya.1 hx).1;rw[List.getLast?_eq_getElem?,Yu,Nat.min_eq_left (by omega),Yyf,if_pos (by omega)];exact hy
 rw[hl];by_cases e:x=y
 .rw[if_pos e,if_pos (by rw[e])]
 .rw[if_neg e,if_neg (fun h=>e (by cases h;rfl))]
theorem evEq (x y:Ev):((x.send==y.send)&&((x.peer==y.peer)&&((x.label==y.label)&&true)))=decide (x=y):=by
 obtain⟨a,b,c⟩:=x;obtain⟨d,e,f⟩:=y;rw[Bool.eq_iff_iff];simp
theorem und151:Pz.underlying 151=some (.slice 116):=by kernel_rfl
theorem zero116 (w:World):(zeroValue 116).run Pz w=.ok (.agg #[.bool false,.int .i64 0,.int .i64 0]) w:=by
 have hi:(Pz.info? 116).bind (·.zero)=some (.agg #[.bool false,.int .i64 0,.int .i64 0]):=by kernel_rfl
 cases h:Pz.info? 116 with
 | none=>rw[h] at hi;cases hi
 | some i=>rw[h] at hi;simp only[Option.bind_some] at hi;simp[zeroValue,typeInfo,h,hi]
theorem compact139 {h0 h:Heap} {L:List It} (hs:St h0 h L) (k:Nat) {s:Sl} {l:List Ev} (hk:L[k]?=some (.sl s 116 3 (l.map Ev.cs))) (hm:l.length<=1048576) :
  Fn Pz 139 #[.slice s.a s.n s.c] h fun v h'=>∃r:Sl,v=.slice r.a r.n r.c/\St h0 h' (L.set k (.sl r 116 3 ((compactL l).map Ev.cs))):=by
 apply vc139 s;unfold W139;have hlen:=hs.len k hk (by omega);have hn:s.n=l.length:=by rw[hlen.1,Yc]
 have hkl:k<L.length:=(Ya.1 hk).1;have hset:L.set k (.sl s 116 3 (l.map Ev.cs))=L:=by
  obtain⟨a,b⟩:=Ya.1 hk;rw[<-b];exact List.set_getElem_self a
 have hself:compactL l=l->(∃r:Sl,Value.slice s.a s.n s.c=.slice r.a r.n r.c/\St h0 h (L.set k (.sl r 116 3 ((compactL l).map Ev.cs)))):=fun e=>⟨s,rfl,by rw[e,hset];exact hs⟩;refine sB_intro (fun c=>?_) (fun c=>?_)
 .have:l.length<2:=by have:=Yyn c;omega
  refine hself ?_
  match l,this with
  | [],_=>rfl
  | [a],_=>rfl
 .have h2:2<=l.length:=by have:=Yyo c;omega
  refine⟨fun x h' m=>∃i:Nat,x=i/\1<=i/\i<=l.length/\m=l.length-i/\h'=h/\compactL (l.take i)=l.take i,⟨_,1,rfl,by omega,by omega,rfl,rfl,?_⟩,?_⟩
  .match l,h2 with
   | a::r,_=>rfl
  rintro-x h5 m ⟨i,rfl,hi1,hin,rfl,rfl,hcc⟩;refine sB_intro (fun l2=>?_) (fun l2=>?_)
  .replace l2:=lt_t l2;have hrw:=hs.rows k hk (by omega);refine hrw.nbI (by omega) (by omega) fun b o x1 g t=>?_;replace g:l[i]?=some x1:=g;refine⟨_,_,_,t,?_⟩;have hw1:IntKind.wrap .i64 ((i:Int)-1)=((i-1:Nat):Int):=by rw[w64 (by omega) (by omega)];omega
   rw[hw1];refine hrw.nbI (x:=((i-1:Nat):Int)) (by omega) (by omega) fun b' o' y1 g' t'=>?_;replace g':l[i-1]?=some y1:=g';refine⟨_,_,_,t',?_⟩;rw[evEq];have hstep:=compactL_step g hi1 g';refine sB_intro (fun e=>?_) (fun e=>?_)
   .replace e:=Yyn e;rw[if_pos e,hcc] at hstep;have hcap:=hlen.2.1;refine⟨⟨by omega,by omega,by omega⟩,?_⟩;refine⟨fun kk x h' m=>∃(q j:Nat) (cl:List Ev),kk=q/\x=j/\1<=j/\i+j<=l.length/\q<=i+j-1/\m=l.length-j/\cl.length=l.length/\cl.take q=compactL (l.take (i+j))/\(∀a,i+j-1<=a->cl[a]?=l[a]?)/\St h0 h' (L.set k (.sl s 116 3 (cl.map Ev.cs))),
     ⟨_,i,1,l,rfl,rfl,by omega,by omega,by omega,rfl,rfl,hstep.symm,fun _ _=>rfl,by rw[hset];exact hs⟩,?_⟩
    rintro-kk x h21 m' ⟨q,j,cl,rfl,rfl,hj1,hjn,hq,rfl,hcl,hct,hun,hs⟩;have hkI:(L.set k (.sl s 116 3 (cl.map Ev.cs)))[k]?=some (.sl s 116 3 (cl.map Ev.cs)):=by rw[Yq hkl]
    have hfrom:=(hs.rows k hkI (by omega)).from (i:=i) (by omega) (by omega)
    rw[<-List.map_drop] at hfrom;have hti:Int.toNat ((s.n:Nat):Int)-Int.toNat ((i:Nat):Int)=s.n-i:=by simp
    have htI:Int.toNat ((i:Nat):Int)=i:=by simp
    refine sB_intro (fun c2=>?_) (fun c2=>?_)
    .have hjl:i+j<l.length:=by have:=Yyn c2;rw[hti] at this;omega
     rw[hti,htI];refine hfrom.nbI (x:=(j:Int)) (by omega) (by show (j:Int)<((s.n-i:Nat):Int);omega) fun b2 o2 x2 g2 t2=>?_;replace g2:(cl.drop i)[j]?=some x2:=g2;rw[List.getElem?_drop,hun _ (by omega)] at g2;refine⟨_,_,_,t2,?_⟩;have hw2:IntKind.wrap .i64 ((j:Int)-1)=((j-1:Nat):Int):=by rw[w64 (by omega) (by omega)];omega
     rw[hw2];refine hfrom.nbI (x:=((j-1:Nat):Int)) (by omega) (by show ((j-1:Nat):Int)<((s.n-i:Nat):Int);omega) fun b3 o3 y2 g3 t3=>?_;replace g3:(cl.drop i)[j-1]?=some y2:=g3;rw[List.getElem?_drop,show i+(j-1)=i+j-1 by omega,hun _ (by omega)] at g3;refine⟨_,_,_,t3,?_⟩;rw[evEq];have hst2:=compactL_step g2 (by omega) g3;have hwj:IntKind.wrap .i64 ((j:Int)+1)=((j+1:Nat):Int):=by rw[w64 (by omega) (by omega)];omega
     have hwq:IntKind.wrap .i64 ((q:Int)+1)=((q+1:Nat):Int):=by rw[w64 (by omega) (by omega)];omega
     refine sB_intro (fun e2=>?_) (fun e2=>?_)
     .have hne:x2≠y2:=by simpa using e2
      rw[if_neg hne] at hst2;refine hfrom.nbI (x:=(j:Int)) (by omega) (by show (j:Int)<((s.n-i:Nat):Int);omega) fun b4 o4 x3 g4 t4=>?_;replace g4:(cl.drop i)[j]?=some x3:=g4;rw[List.getElem?_drop,hun _ (by omega)] at g4;rw[g2] at g4;cases g4;refine⟨_,_,_,t4,?_⟩;refine hs.set k hkI (by omega) (x:=(q:Int)) (by omega) (by omega) x2 rfl rfl (fun b5 o5 h39 hs=>?_) rfl;rw[List.set_set] at hs;refine⟨l.length-(j+1),by omega,q+1,j+1,cl.set q x2,hwq,hwj,by omega,by omega,by omega,rfl,by rw[Yyh];exact hcl,?_,?_,hs⟩
      .rw[show i+(j+1)=i+j+1 by omega,hst2,<-hct,take_snoc (x:=x2) (by rw[Yq (by omega)]),List.take_set_of_le (Yyt _)]
      .intro a ha;rw[Yy (by omega)];exact hun a (by omega)
     .have heq:x2=y2:=by simpa using e2
      rw[if_pos heq] at hst2;refine⟨l.length-(j+1),by omega,q,j+1,cl,rfl,hwj,by omega,by omega,by omega,rfl,hcl,?_,fun a ha=>hun a (by omega),hs⟩;rw[show i+(j+1)=i+j+1 by omega,hst2];exact hct
    .have hjl:i+j=l.length:=by have:=Yyo c2;rw[hti] at this;omega
     refine⟨⟨by omega,by omega,by omega⟩,?_⟩;have htq:Int.toNat ((q:Nat):Int)=q:=by simp
     have htn:Int.toNat ((s.n:Nat):Int)=s.n:=by simp
     rw[htq,htn];refine hs.clear k hkI (by omega) q (by omega) und151 zero116 rfl rfl fun v h42 hs=>?_;refine⟨⟨by omega,by omega,by omega⟩,⟨s.a,q,s.c⟩,?_,?_⟩
     .rw[show Int.toNat 0=0 from rfl,subA_zero];rfl
     .rw[List.set_set,<-List.map_take,hct,hjl,Yye] at hs;exact hs
   .replace e:=Yyo e;rw[if_neg e,hcc] at hstep;refine⟨l.length-(i+1),by omega,i+1,by rw[w64 (by omega) (by omega)];omega,by omega,by omega,rfl,rfl,?_⟩;rw[hstep,take_snoc g]
  .replace l2:=lt_f l2;rw[Yj (by omega)] at hcc;exact hself hcc
end Go.VC
end

section
namespace Go.VC
def src_ (bk:Bool) (x:Ed):Int:=if bk then x.t else x.f
def dst_ (bk:Bool) (x:Ed):Int:=if bk then x.f else x.t
def Adj (es:List Ed) (bk:Bool) (a b:Int):Prop:=∃x∈es,src_ bk x=a/\dst_ bk x=b
inductive Rch (es:List Ed) (bk:Bool) (a:Int):Int->Prop where
 | refl:Rch es bk a a
 | step {b c:Int}:Rch es bk a b->Adj es bk b c->Rch es bk a c
def Vis (D:List Int) (v:Int):Prop:=0<=v/\∃d,D[v.toNat]?=some d/\0<=d
structure BF (es:List Ed) (bk:Bool) (n:Nat) (s:Int) (D T:List Int):Prop where
 len:D.length=n
 src:Vis D s
 r:∀v,Vis D v->Rch es bk s v
 t:∀t∈T,Vis D t
 c:∀v w,Vis D v->v∉T->Adj es bk v w->Vis D w
 b:∀d∈D,-1<=d/\d+D.count (-1)<=200
theorem vis_set {D:List Int} {b d v:Int} (hb0:0<=b) (hb:b<D.length) (hd:0<=d):Vis (D.set b.toNat d) v ↔ v=b\/Vis D v:=by
 unfold Vis;constructor
 .rintro⟨h0,e,he,h1⟩;by_cases hvb:v=b
  .exact .inl hvb
  .rw[Yy (by omega)] at he;exact .inr ⟨h0,e,he,h1⟩
 .rintro (rfl | ⟨h0,e,he,h1⟩)
  .exact⟨hb0,d,by rw[Yq (by omega)],hd⟩
  .by_cases hvb:v=b
   .subst hvb;exact⟨hb0,d,by rw[Yq (by omega)],hd⟩
   .exact⟨h0,e,by rw[Yy (by omega)];exact he,h1⟩
theorem BF.push {es:List Ed} {bk:Bool} {n:Nat} {s:Int} {D T:List Int} (h:BF es bk n s D T) {a b da db:Int} (ha:Vis D a) (hda:D[a.toNat]?=some da) (hb0:0<=b) (hb:D[b.toNat]?=some db) (hneg:db<0) (hab:Adj es bk a b) :
  BF es bk n s (D.set b.toNat (da+1)) (T++[b])/\(D.set b.toNat (da+1)).count (-1)+1=D.count (-1)/\0<=da/\da+1<=200:=by
 have hbl:=(Ya.1 hb).1;have hbe:=(Ya.1 hb).2;have hda0:0<=da:=by
  obtain⟨_,e,he,h1⟩:=ha;rw[hda] at he;cases he;exact h1
 have hdb:db=-1:=by have:=(h.b db (Yb hb)).1;omega
 subst hdb;have hvs:∀v,Vis (D.set b.toNat (da+1)) v ↔ v=b\/Vis D v:=fun v=>vis_set hb0 (by omega) (by omega);have hpos:0<D.count (-1):=List.count_pos_iff.2 (Yb hb);have hcnt:(D.set b.toNat (da+1)).count (-1)+1=D.count (-1):=by
  rw[List.count_set hbl,hbe];have:((da+1)==(-1:Int))=false:=by simp;omega
  rw[this];simp;omega
 have hub:=(h.b da (Yb hda)).2;refine⟨⟨by rw[Yyh];exact h.len,(hvs s).2 (.inr h.src),fun v hv=>?_,fun t ht=>?_,fun v w hv hn hvw=>?_,fun d hd=>?_⟩,hcnt,hda0,by omega⟩
 .rcases (hvs v).1 hv with rfl | hv
  .exact (h.r a ha).step hab
  .exact h.r v hv
 .rcases Yk.1 ht with ht | ht
  .exact (hvs t).2 (.inr (h.t t ht))
  .rw[Ye] at ht;exact (hvs t).2 (.inl ht)
 .rw[Yk,Ye,not_or] at hn;rcases (hvs v).1 hv with rfl | hv
  .exact absurd rfl hn.2
  .exact (hvs w).2 (.inr (h.c v w hv hn.1 hvw))
 .rcases List.mem_or_eq_of_mem_set hd with hd | rfl
  .have:=h.b d hd;omega
  .omega
theorem BF.start {es:List Ed} {bk:Bool} {n:Nat} {s:Int} (h0:0<=s) (h1:s<n) (hn:n<=200):BF es bk n s ((List.replicate n (-1:Int)).set s.toNat 0) [s]:=by
 have hl:s<(List.replicate n (-1:Int)).length:=by rw[Yg];exact h1
 have hv:∀v,Vis ((List.replicate n (-1:Int)).set s.toNat 0) v ↔ v=s:=fun v=>by
  rw[vis_set h0 hl (by omega)];refine⟨fun h=>h.elim id fun h=>?_,.inl⟩;obtain⟨_,d,hd,h2⟩:=h;have:=List.eq_of_mem_replicate (Yb hd);omega
 have hc:((List.replicate n (-1:Int)).set s.toNat 0).count (-1)<=200:=Yys List.count_le_length (by rw[Yyh,Yg];exact hn);refine⟨by rw[Yyh,Yg],(hv s).2 rfl,fun v h=>?_,fun t ht=>?_,fun v w h hn=>?_,fun d hd=>?_⟩
 .rw[(hv v).1 h];exact .refl
 .rw[Ye] at ht;exact (hv t).2 ht
 .rw[(hv v).1 h] at hn;exact absurd (Ye.2 rfl) hn
 .rcases List.mem_or_eq_of_mem_set hd with hd | rfl
  .rw[List.eq_of_mem_replicate hd];omega
  .omega
theorem BF.end_ {es:List Ed} {bk:Bool} {n:Nat} {s:Int} {D:List Int} (h:BF es bk n s D []) (v:Int):Vis D v ↔ Rch es bk s v:=by
 refine⟨h.r v,fun hr=>?_⟩
 induction hr with
 | refl=>exact h.src
 | step _ hbc ih=>exact h.c _ _ ih (by simp) hbc
theorem BF.all {es:List Ed} {bk:Bool} {n:Nat} {s:Int} {D:List Int} (h:BF es bk n s D []):(-1:Int)∈D ↔ ¬∀v:Int,0<=v->v<n->Rch es bk s v:=by
 constructor
 .intro hm hall;obtain⟨j,hj⟩:=Yf.1 hm;have hl:=(Ya.1 hj).1;obtain⟨_,d,hd,h0⟩:=(h.end_ (j:Int)).2 (hall j (by omega) (by have:=h.len;omega));rw[show ((j:Int)).toNat=j from rfl,hj] at hd;cases hd;omega
 .intro hn;apply Classical.byContradiction;intro hm;apply hn;intro v h0 hv;have hl:v.toNat<D.length:=by have:=h.len;omega
  refine (h.end_ v).1 ⟨h0,D[v.toNat],Yi hl,?_⟩;have h1:=(h.b _ (List.getElem_mem hl)).1;have h2:D[v.toNat] ≠ -1:=fun e=>hm (e ▸ List.getElem_mem hl);omega
end Go.VC
end

section
namespace Go.VC
open Go.Proofs Go.LexS
theorem und42:Pz.underlying 42=some (.slice 3):=by kernel_rfl
theorem size3:(Pz.info? 3).map (·.size)=some 1:=by kernel_rfl
theorem made3 (n:Nat):madeL Pz 3 n=List.replicate n (.int .i64 0):=by
 have hz:zeroC Pz 3=[.int .i64 0]:=by kernel_rfl
 unfold madeL;rw[hz]
 induction n with
 | zero=>rfl
 | succ n ih=>rw[List.replicate_succ,Yyu,ih];rfl
theorem rep_of {xs:List Value} {n:Nat} (hl:xs.length=n) (h:∀j,j<n->xs[j]?=some (.int .i64 (-1))):xs=((List.replicate n (-1:Int)).map inC).flatten:=by
 subst hl
 induction xs with
 | nil=>rfl
 | cons a r ih=>
  have h0:=h 0 (by simp);simp only[List.getElem?_cons_zero,Option.some.injEq] at h0;rw[Yyj,List.replicate_succ,Yyl,Yyu,<-ih fun j hj=>by have:=h (j+1) (by simpa using hj);simpa using this,h0];rfl
theorem wu64b {n:Int} (h0:0<=n) (h1:n<18446744073709551616):IntKind.wrap .u64 n=n:=by
 simp[IntKind.wrap,IntKind.signed,IntKind.bits];omega
theorem splice_rep {xs:List Value} {o m:Nat} (hm:o+m<=xs.length) (h:∀j,j<o->xs[j]?=some (.int .i64 (-1))):(splice xs o (List.replicate m (.int .i64 (-1)))).length=xs.length/\∀j,j<o+m->(splice xs o (List.replicate m (.int .i64 (-1))))[j]?=some (.int .i64 (-1)):=by
 unfold splice;refine⟨by simp only[Yh,Yu,List.length_drop,Yg];omega,fun j hj=>?_⟩;by_cases hjo:j<o
 .rw[Yz,Yyi (by rw[Yu];omega),Yyf,if_pos hjo];exact h j hjo
 .rw[Yyi (by simp only[Yh,Yu,Yg];omega),Yyc (by rw[Yu];omega),Yu,List.getElem?_replicate,if_pos (by omega)]
theorem ext_but {h h1 h2:Heap} {b:Nat} (E:Ext h h1) (B:But b h1 h2) (hb:h.size<=b):Ext h h2:=⟨by rw[B.1];exact E.1,fun k hk=>(B.2 k (by omega)).trans (E.2 k hk)⟩
theorem repeat60 (n:Int) (h0:0<=n) (h1:n<=200) (b:Nat) (h:Heap) (hb:hc h ⟨b,0,none⟩=some (.int .i64 (-1))) :
  Fn Pz 60 #[.slice (some ⟨b,0,none⟩) 1 1,.int .i64 n] h fun v h'=>Ext h h'/\∃s:Sl,v=.slice s.a s.n s.c/\OwnS h' h.size 3 1 s ((List.replicate n.toNat (-1)).map inC).flatten:=by
 obtain⟨N,rfl⟩:∃N:Nat,n=N:=⟨n.toNat,by omega⟩;have hN:N<=200:=by omega
 have hbl:b<h.size:=by
  rcases Nat.lt_or_ge b h.size with hlt | hge
  .exact hlt
  .unfold hc at hb;rw[Array.getElem?_eq_none (by simpa using hge)] at hb;cases hb
 apply vc60 ⟨some ⟨b,0,none⟩,1,1⟩;unfold W60;refine⟨fun h'=>h'=h,sB_f (decide_eq_false (by omega)) rfl,?_⟩;rintro-_ rfl;rw[show IntKind.wrap .u64 (((1:Nat):Int))=((1:Nat):Int) from wu64b (by omega) (by omega),show IntKind.wrap .u64 (N:Int)=((N:Nat):Int) from wu64b (by omega) (by omega)];refine (mul106 1 N (by omega) (by omega) _).mono ?_;rintro _ h6 ⟨rfl,rfl⟩;rw[show 1*N/18446744073709551616=0 by omega,show 1*N%18446744073709551616=N by omega];refine⟨_,_,rfl,fun h'=>h'=h6,sB_f rfl (sB_f (decide_eq_false (by omega)) rfl),?_⟩;rintro-h8 rfl;rw[show IntKind.wrap .i64 ((N:Nat):Int)=N from w64 (by omega) (by omega)];refine⟨⟨by omega,by omega,by omega⟩,?_⟩;rw[Ys,made3];intro h9 hh9;have o9:Own h9 h8.size (List.replicate N (.int .i64 0)) 3:=by rw[hh9];exact Own.push
 have E9:Ext h8 h9:=by rw[hh9];exact Ext.push _ _
 have hb9:hc h9 ⟨b,0,none⟩=some (.int .i64 (-1)):=by rw[E9.hc hbl];exact hb
 refine Cpy_row und42 size3 o9 (g2:=b) (o2:=0) (l:=List.replicate (min 1 N) (.int .i64 (-1))) (by simp) ?_ (by simp;omega) (fun v hv=>by rw[List.eq_of_mem_replicate hv];rfl) fun h11 B11 o11=>?_
 .intro j c hj;rw[List.getElem?_replicate] at hj;split at hj
  .cases hj;rw[show 0+j=0 by omega];exact hb9
  .cases hj
 obtain⟨e1,e2⟩:=splice_rep (xs:=List.replicate N (.int .i64 0)) (o:=0) (m:=min 1 N) (by simp;omega) (fun j hj=>by omega);generalize hxs:splice (List.replicate N (Value.int .i64 0)) 0 (List.replicate (min 1 N) (.int .i64 (-1)))=xs at o11 e1 e2;rw[Yg] at e1;have E11:=ext_but E9 B11 (Yyt _);clear hxs B11 o9;rw[Yg];refine⟨fun x h' m=>∃(i:Nat) (xs:List Value),x=i/\i<=N/\(1<=i\/N=0)/\m=N-i/\Own h' h8.size xs 3/\xs.length=N/\(∀j,j<i->xs[j]?=some (.int .i64 (-1)))/\Ext h8 h',
  ⟨_,min 1 N,xs,rfl,by omega,by omega,rfl,o11,e1,fun j hj=>e2 j (by omega),E11⟩,?_⟩
 rintro-x h16 m ⟨i,xs,rfl,hi,hi1,rfl,o16,hl,hall,E16⟩;refine sB_intro (fun c=>?_) (fun c=>?_)
 .replace c:=lt_t c;refine⟨⟨by omega,by omega,by omega⟩,⟨by omega,by omega,by omega⟩,?_⟩;rw[show Int.toNat ((i:Nat):Int)=i from Ys i,show Int.toNat ((N:Nat):Int)=N from Ys N,show Int.toNat 0=0 from rfl,subA_zero,subA_some c];refine Cpy_row und42 size3 o16 (g2:=h8.size) (o2:=0) (l:=List.replicate (min i (N-i)) (.int .i64 (-1))) (by simp) ?_ (by simp;omega) (fun v hv=>by rw[List.eq_of_mem_replicate hv];rfl) fun h18 B18 o18=>?_
  .intro j c hj;rw[List.getElem?_replicate] at hj;split at hj
   .cases hj;rw[o16.hc];exact hall _ (by omega)
   .cases hj
  obtain⟨e3,e4⟩:=splice_rep (xs:=xs) (o:=0+i*1) (m:=min i (N-i)) (by omega) (fun j hj=>hall j (by omega));rw[Yg];refine⟨N-(i+min i (N-i)),by omega,i+min i (N-i),_,by rw[w64 (by omega) (by omega)];omega,by omega,by omega,rfl,o18,by rw[e3];exact hl,fun j hj=>e4 j (by omega),ext_but E16 B18 (Yyt _)⟩
 .replace c:=lt_f c;have hiN:i=N:=by omega
  subst hiN;refine⟨E16,⟨some ⟨h8.size,0,none⟩,i,i⟩,rfl,?_,.inr ⟨h8.size,⟨xs⟩,rfl,Yyt _,o16,Yyt _,?_,?_,?_⟩⟩
  .rw[<-rep_of hl hall];show xs.length=i*1;omega
  .show i<=9223372036854775807;omega
  .show xs.length=i*1;omega
  .show xs.take (i*1)=_;rw[Yj (by omega)];exact rep_of hl hall
end Go.VC
end

section
namespace Go.VC
def bitsL (w:Nat):List Nat:=(List.range 64).filter fun j=>w.testBit j
theorem filter_first {f g:Nat->Bool} {k:Nat} (h1:∀j,j<k->f j=false/\g j=false) (h2:f k=true) (h3:g k=false) (h4:∀j,k<j->f j=g j):∀d:Nat,(List.range (k+1+d)).filter f=k::(List.range (k+1+d)).filter g
 | 0=>by
  have e1:(List.range k).filter f=[]:=List.filter_eq_nil_iff.2 fun j hj=>by rw[(h1 j (List.mem_range.1 hj)).1];simp
  have e2:(List.range k).filter g=[]:=List.filter_eq_nil_iff.2 fun j hj=>by rw[(h1 j (List.mem_range.1 hj)).2];simp
  rw[Nat.add_zero,List.range_succ,List.filter_append,List.filter_append,e1,e2];simp[h2,h3]
 | d+1=>by
  have ih:=filter_first h1 h2 h3 h4 d;rw[<-Nat.add_assoc,List.range_succ,List.filter_append,List.filter_append,ih,List.cons_append];congr 2;simp only[List.filter_cons,List.filter_nil,h4 (k+1+d) (by omega)]
theorem bits_step {w:Nat} (h0:w≠0) (h1:w<2^64):bitsL w=Lib.ctz 64 w::bitsL (w&&&(w-1)):=by
 obtain⟨m,hm,hk⟩:=Lib.ctzFrom_spec 64 w (by omega) h1;have hc:Lib.ctz 64 w=Lib.ctzFrom 64 w:=by unfold Lib.ctz;rw[if_neg h0]
 rw[hc];generalize Lib.ctzFrom 64 w=k at hm hk ⊢;have hp:0<2^k:=Nat.two_pow_pos k;have hw1:w-1=2^k*(2*m)+(2^k-1):=by rw[hm,Nat.mul_add];omega
 have tb:∀j,w.testBit j=if j<k then false else (2*m+1).testBit (j-k):=by
  intro j;have e:w=(2*m+1) <<< k:=by rw[Nat.shiftLeft_eq,Nat.mul_comm];exact hm
  rw[e,Nat.testBit_shiftLeft];by_cases hj:j<k
  .rw[if_pos hj];simp;omega
  .rw[if_neg hj];simp;omega
 have tb1:∀j,(w-1).testBit j=if j<k then true else (2*m).testBit (j-k):=by
  intro j;rw[hw1,Nat.testBit_two_pow_mul_add _ (by omega)];by_cases hj:j<k
  .rw[if_pos hj,if_pos hj,Nat.testBit_two_pow_sub_one];simpa using hj
  .rw[if_neg hj,if_neg hj]
 have odd:∀i,0<i->(2*m+1).testBit i=(2*m).testBit i:=by
  intro i hi;obtain⟨i,rfl⟩:∃i',i=i'+1:=⟨i-1,by omega⟩;rw[Nat.testBit_succ,Nat.testBit_succ];congr 1;omega
 have e:=filter_first (f:=fun j=>w.testBit j) (g:=fun j=>(w&&&(w-1)).testBit j) (k:=k) (fun j hj=>by
   have h2:=tb j;rw[if_pos hj] at h2;exact⟨h2,by rw[Nat.testBit_and,h2];rfl⟩)
  (by show w.testBit k=true;rw[tb,if_neg (by omega),Nat.sub_self];simp[Nat.testBit_zero])
  (by show (w&&&(w-1)).testBit k=false;rw[Nat.testBit_and,tb1,if_neg (by omega),Nat.sub_self];simp[Nat.testBit_zero])
  (fun j hj=>by
   show w.testBit j=(w&&&(w-1)).testBit j;rw[Nat.testBit_and,tb,tb1,if_neg (by omega),if_neg (by omega),odd _ (by omega),Bool.and_self]) (63-k)
 rw[show k+1+(63-k)=64 by omega] at e;exact e
theorem and_pred_lt {w:Nat} (h0:w≠0):w&&&(w-1)<w:=Nat.lt_of_le_of_lt Nat.and_le_right (by omega)
theorem range_flat (p:Nat->Bool):∀n:Nat,(List.range (64*n)).filter p=(List.range n).flatMap fun i=>((List.range 64).filter fun j=>p (64*i+j)).map (64*i + ·)
 | 0=>rfl
 | n+1=>by
  rw[show 64*(n+1)=64*n+64 by omega,List.range_add,List.filter_append,range_flat p n,List.range_succ (n:=n),List.flatMap_append,List.flatMap_singleton,List.filter_map];rfl
theorem flat_tail (f:Nat->List Nat) {n:Nat} (h:∀i,n<=i->f i=[]):∀d:Nat,(List.range (n+d)).flatMap f=(List.range n).flatMap f
 | 0=>rfl
 | d+1=>by rw[<-Nat.add_assoc,List.range_succ,List.flatMap_append,flat_tail f h d,List.flatMap_singleton,h _ (by omega),Yw]
def wordsL (ws:List Nat) (n:Nat):List Nat:=(List.range n).flatMap fun i=>(bitsL (ws.getD i 0)).map (64*i + ·)
theorem wordsL_succ (ws:List Nat) (n:Nat):wordsL ws (n+1)=wordsL ws n++(bitsL (ws.getD n 0)).map (64*n + ·):=by
 unfold wordsL;rw[List.range_succ,List.flatMap_append,List.flatMap_singleton]
theorem elems_words {p:Nat->Bool} {ws:List Nat} (hl:ws.length<=64) (hm:∀k,memB ws k=p k):elems p=wordsL ws ws.length:=by
 unfold elems;rw[show 4096=64*64 from rfl,range_flat];have e:∀i,(((List.range 64).filter fun j=>p (64*i+j)).map (64*i + ·))=(bitsL (ws.getD i 0)).map (64*i + ·):=by
  intro i;congr 1;unfold bitsL;apply List.filter_congr;intro j hj;have hj:=List.mem_range.1 hj;rw[<-hm];unfold memB;rw[show (64*i+j)/64=i by omega,show (64*i+j)%64=j by omega]
 simp only[e];have:=flat_tail (fun i=>(bitsL (ws.getD i 0)).map (64*i + ·)) (n:=ws.length) (fun i hi=>by
  rw[Yo,Yl (by omega),Option.getD_none];have:bitsL 0=[]:=by unfold bitsL;exact List.filter_eq_nil_iff.2 fun j _=>by simp
  rw[this];rfl) (64-ws.length)
 rw[show ws.length+(64-ws.length)=64 by omega] at this;exact this
end Go.VC
end

section
namespace Go.VC
open Go.Proofs Go.LexS Go.Shelf Go.RowKit
attribute [local go_sem] Oper.semAt_some
theorem tz141 (x:Nat) (hx:x<18446744073709551616) (w:World) (hT:TabAt 0 Lib.deBruijn64tab w):CallsIn Fence.wide 1 Pz 141 #[.int .u64 x] w fun e w'=>e=.returned (.int .i64 (Lib.ctz 64 x))/\w'=w:=
 callsIn_wide.2 (Any7.bits_TrailingZeros64 Tryz.lays7_29 x hx w fun _=>hT)
theorem and_nat {w:Nat} (h0:w≠0) (hw:w<2^64):bits BinOp.and IntKind.u64 (w:Int) ((w:Int)-1)=((w&&&(w-1):Nat):Int):=by
 have e1:((w:Int)-1)=((w-1:Nat):Int):=by omega
 rw[e1];show IntKind.u64.wrap ((BitVec.ofInt 64 (w:Int)&&&BitVec.ofInt 64 ((w-1:Nat):Int)).toNat:Int)=_;have ha:(BitVec.ofInt 64 (w:Int)&&&BitVec.ofInt 64 ((w-1:Nat):Int)).toNat=w&&&(w-1):=by
  rw[BitVec.toNat_and];congr 1
  .simp[BitVec.toNat_ofInt];omega
  .simp[BitVec.toNat_ofInt];omega
 rw[ha];have hlt:w&&&(w-1)<2^64:=Nat.lt_of_le_of_lt Nat.and_le_left hw;exact wu64 (by omega) (by omega)
theorem wordsL_pre (ws:List Nat) {k n:Nat} (h:k<=n):wordsL ws k <+: wordsL ws n:=by
 obtain⟨d,rfl⟩:∃d,n=k+d:=⟨n-k,by omega⟩;unfold wordsL;rw[List.range_add,List.flatMap_append];exact List.prefix_append _ _
set_option maxRecDepth 100000 in
theorem all90_some (b off len cap:Nat) (ws:List Nat) (hl:ws.length=len) (h64:len<=64) (hw:∀x∈ws,x<2^64) (n₀:Nat) (hb:b<n₀) (hg0:0<n₀) (l:Nat) (J:List Nat->World->Prop)
  (hY:∀pre x W1,J pre W1->pre++[x] <+: wordsL ws len->YieldAt Fence.wide 1 Pz l #[.int .i64 (x:Nat)] W1 fun e W'=>e=.returned (.bool true)/\J (pre++[x]) W'/\Below n₀ W1 W')
  (W:World) (hc:∀j,j<len->W.cell? ⟨b,off+j,none⟩=some (.int .u64 (ws.getD j 0:Nat))) (hT:TabAt 0 Lib.deBruijn64tab W) (h0:J [] W) :
  CallsIn Fence.wide 2 Pz 90 #[.slice (some ⟨b,off,none⟩) len cap,.func (.yield l) #[] #[]] W fun e W'=>(∃v,e=.returned v)/\J (wordsL ws len) W':=by
 refine callsIn_of_wp Tryz.func90 rfl trivial ?_ rfl;simp only[Tryz.ntmps90,List.size_toArray,Yyj,List.length_nil,Nat.reduceAdd,Nat.reduceSub,Array.replicate_succ,Array.replicate_zero,List.push_toArray,List.append_toArray,List.nil_append,List.cons_append]
 gi_wp2
 gi_loopw [9] (fun i wr=>∃k:Nat,k<=len/\i=.int .i64 k/\J (wordsL ws k) wr/\Below n₀ W wr)
  (fun i _=>len-(Proofs.intOf i).toNat)
 case atStart=>exact⟨0,Nat.zero_le _,rfl,h0,Below.refl _ _⟩
 case round=>
  obtain⟨k,hk,rfl,hJs,hnx⟩:=hrel;by_cases hlt:k<len
  .have hcx:wr.cell? ⟨b,off+k,none⟩=some (.int .u64 (ws.getD k 0:Nat)):=(hnx.cell (p:=⟨b,off+k,none⟩) hb).trans (hc k hlt);have hkl:k<ws.length:=by omega
   have hgd:ws.getD k 0=ws[k]:=by rw[Yo,Yi hkl,Option.getD_some]
   rw[hgd] at hcx;have hwk:ws[k]<2^64:=hw _ (List.getElem_mem hkl);have hsuc:wordsL ws (k+1)=wordsL ws k++(bitsL ws[k]).map (64*k + ·):=by rw[wordsL_succ,hgd]
   have hpre:wordsL ws (k+1) <+: wordsL ws len:=wordsL_pre ws (by omega);generalize ws[k]=wk at hcx hwk hsuc
   gi_wp2
   have hd:decide ((k:Int)<min (len:Int) 64)=true:=decide_eq_true (by omega);simp only[hd]
   gi_loopw [5] (fun c wr'=>∃(cur:Nat) (dn:List Nat),c=.int .u64 cur/\cur<2^64/\dn++bitsL cur=bitsL wk/\J (wordsL ws k++dn.map (64*k + ·)) wr'/\Below n₀ W wr') (fun c _=>(Proofs.intOf c).toNat)
   case atStart=>exact⟨wk,[],rfl,hwk,rfl,by simpa using hJs,hnx⟩
   case round=>
    obtain⟨cur,dn,rfl,hcw,hdn,hJc,hnc⟩:=hrel;by_cases hz:cur=0
    .subst hz;have hdn':dn=bitsL wk:=by rw[<-hdn];unfold bitsL;simp
     gi_wp2
     refine⟨⟨k+1,by omega,by simp,by rw[hsuc,<-hdn'];exact hJc,hnc⟩,?_⟩;simp[Proofs.intOf];omega
    .have hst:=bits_step hz hcw;have hTc:TabAt 0 Lib.deBruijn64tab wr:=fun j hj=>(hnc.cell (p:=⟨0,j,none⟩) hg0).trans (hT j hj);obtain⟨fn,tmps,assign,body,hy,hR⟩:=hY _ (64*k+Lib.ctz 64 cur) wr hJc (by
      refine List.IsPrefix.trans ?_ hpre;rw[hsuc,<-hdn,hst,Ym,Yyl];exact⟨(bitsL (cur&&&(cur-1))).map (64*k + ·),by simp⟩)
     gi_wp2_with (refine⟨trivial,?_⟩;gi_at_call 141;refine (tz141 cur (by omega) _ hTc).mono ?_;rintro e w' ⟨rfl,rfl⟩)
     have hc64:Lib.ctz 64 cur<64:=by
      unfold Lib.ctz;rw[if_neg hz];obtain⟨_,_,h⟩:=Lib.ctzFrom_spec 64 cur (by omega) hcw;exact h
     have hwr:wrap64 (64*(k:Int)+(Lib.ctz 64 cur:Nat))=((64*k+Lib.ctz 64 cur:Nat):Int):=by
      rw[IntWalk.wrap64_in _ (by omega)];omega
     rw[hwr,hy]
     gi_wp2
     refine hR.mono ?_;rintro e W3 ⟨rfl,hJ3,hk3⟩
     gi_wp2
     go_roundw
     case rel=>
      refine⟨cur&&&(cur-1),dn++[Lib.ctz 64 cur],by rw[and_nat hz hcw],Nat.lt_of_le_of_lt Nat.and_le_left hcw,?_,?_,hnc.trans hk3⟩
      .rw[Yz,List.singleton_append,<-hst];exact hdn
      .rw[Ym,<-Yz];exact hJ3
     case measure=>
      rw[and_nat hz hcw];simp only[Proofs.intOf,Ys];exact and_pred_lt hz
  .obtain rfl:k=len:=by omega
   gi_wp2
   go_end0
   exact⟨⟨_,rfl⟩,hJs⟩
set_option maxRecDepth 100000 in
theorem all90_zero (p:Option Addr) (cap l:Nat) (J:List Nat->World->Prop) (W:World) (h0:J [] W) :
  CallsIn Fence.wide 2 Pz 90 #[.slice p 0 cap,.func (.yield l) #[] #[]] W fun e W'=>(∃v,e=.returned v)/\J [] W':=by
 refine callsIn_of_wp Tryz.func90 rfl trivial ?_ rfl;simp only[Tryz.ntmps90,List.size_toArray,Yyj,List.length_nil,Nat.reduceAdd,Nat.reduceSub,Array.replicate_succ,Array.replicate_zero,List.push_toArray,List.append_toArray,List.nil_append,List.cons_append]
 gi_wp2
 gi_loopw [9] (fun i wr=>i=.int .i64 0/\J [] wr) (fun _ _=>0)
 case atStart=>exact⟨rfl,h0⟩
 case round=>
  obtain⟨rfl,hJs⟩:=hrel
  gi_wp2
  go_end0
  exact⟨⟨_,rfl⟩,hJs⟩
theorem all90_yields {s:Sl} {p:Nat->Bool} {w w0:World} (hs:SetV w.heap s p) (hx:Gx w.heap) (hB:Below w.heap.size w w0):Yields Fence.wide 2 Pz 90 #[.slice s.a s.n s.c] (fun x:Nat=>#[Value.int .i64 (x:Nat)]) w.heap.size (elems p) w0:=by
 intro l J W hW hY hJ;obtain⟨ws,hrw,h64,hw,hm⟩:=hs.ex;rw[elems_words h64 hm] at hY ⊢;have hn:s.n=ws.length:=hrw.ln;have hWB:=hB.trans hW;rcases Nat.eq_zero_or_pos ws.length with h0 | h0
 .have hws:ws=[]:=List.length_eq_zero_iff.1 h0;subst hws;rw[hn];exact all90_zero s.a s.c l J W hJ
 .obtain⟨b,o,ha,hat⟩:=hrw.2 (by rw[Yc];exact h0);have hcell:∀j,j<ws.length->w.cell? ⟨b,o+j,none⟩=some (.int .u64 (ws.getD j 0:Nat)):=by
   intro j hj;have h1:=hat j (wC (ws.getD j 0)) (by rw[Yd,Yi hj,Yo,Yi hj];rfl);have h2:=h1.hd;rw[Nat.mul_one] at h2;exact h2
  have hb:b<w.heap.size:=by
   have h1:=hcell 0 h0;exact World.block_lt_of_cell? _ _ h1
  have hg0:0<w.heap.size:=by omega
  rw[ha,hn];exact all90_some b o ws.length s.c ws rfl h64 hw w.heap.size hb hg0 l J hY W (fun j hj=>(hWB.cell (p:=⟨b,o+j,none⟩) hb).trans (hcell j hj))
   (fun j hj=>(hWB.cell (p:=⟨0,j,none⟩) hg0).trans (hx.t j hj)) hJ
theorem info3L:(Pz.info? 3).map (fun i=>(i.zero,i.size,i.bytes))=some (some (.int .i64 0),1,8):=by kernel_rfl
theorem elems_len (p:Nat->Bool):(elems p).length<=4096:=by
 unfold elems;exact Yys (List.length_filter_le _ _) (by rw[Yyd];exact Yyt _)
set_option maxRecDepth 100000 in
theorem list42_in (p:Nat->Bool) (s:Sl) (w:World) (hx:Gx w.heap) (hs:SetV w.heap s p) :
  CallsIn Fence.wide 3 Pz 42 #[.slice s.a s.n s.c] w fun e W'=>∃v,e=.returned v/\W'.ownsRow w.heap.size 3 1 v (elems p).length ((elems p).map fun n:Nat=>Value.int .i64 (n:Nat))/\Below w.heap.size w W':=by
 obtain⟨i0,hi,hz0,hz1,hz2⟩:=info_parts info3L;have hlen:=elems_len p;refine callsIn_of_wp_marks Tryz.func42 rfl trivial ?_ rfl;simp only[Tryz.ntmps42,List.size_toArray,Yyj,List.length_nil,Nat.reduceAdd,Nat.reduceSub,Array.replicate_succ,Array.replicate_zero,List.push_toArray,List.append_toArray,List.nil_append,List.cons_append]
 gi_wp2
 have bO:=Boxed.new w 42 (.slice none 0 0);have hB0:Below w.heap.size w (w.alloc (.cells #[.slice none 0 0] 42)):=(Below.refl _ w).alloc (Yyt _) _;refine range_bound (n:=3) rfl (by omega) (gf:=90) (fb:=#[.slice s.a s.n s.c]) rfl trivial (enters_of Tryz.func90 (by kernel_rfl) rfl) (n₀:=w.heap.size) (by simp)
  (all90_yields hs hx hB0) (fun _=>rfl)
  (fun pre W=>(∃v,Boxed W w.heap.size 42 v/\W.ownsRow w.heap.size 3 1 v pre.length (pre.map fun n:Nat=>Value.int .i64 (n:Nat))/\True)/\Below w.heap.size w W)
  (OwnFrom.and (Own.from (holdsRow_own w.heap.size w.heap.size 42 3 1 (fun pre:List Nat=>pre.length) (fun pre=>pre.map fun n:Nat=>Value.int .i64 (n:Nat)) (fun _ _=>True)) _) (ownFrom_below (Yyt _) (by simp)))
  ⟨⟨_,bO,World.ownsRow_nil _ _ _ _,trivial⟩,hB0⟩
  (fun x=>{ tmps:=#[.slice s.a s.n s.c,undef,.slice none 0 0,.pointer (some ⟨w.heap.size,0,none⟩),.int .i64 (x:Nat),.slice s.a s.n s.c,.func (.func 90) #[.slice s.a s.n s.c] #[],.int .i64 (x:Nat),undef,undef,undef,undef,undef],defers:=[] }) ?assign ?body ?done
 case assign=>
  intro l x W K hK
  gi_wp2
  exact hK
 case body=>
  rintro l pre x W ⟨⟨v,hv,hrow,-⟩,hB⟩ hpre;have hc:=hv.cell;have hpl:pre.length<(elems p).length:=by have:=hpre.length_le;simp at this;omega
  gi_wp2_with (gi_at_builtin;refine wpListIn_append_own _ rfl _ _ 42 rfl w.heap.size 3 i0 (.int .i64 0) 1 8 Tryz.underlying42 hi hz0 hz1 hz2 rfl (by decide) _ _ _ rfl (hrow.alloc _) ⟨W.heap.size,0,none⟩ 1 1 [.int .i64 (x:Nat)] rfl rfl (cell_one_new _ _ _) (by simp[Value.oneCell']) (by have:maxLen=9223372036854775807:=rfl;omega) (by omega) (by have:=hB.size;simp;omega) ?_;intro v' w1 hown' hgrow _;obtain⟨g',cap',rfl⟩:=ownsRow_succ hown';obtain⟨hv1,hv2,hr2,hk2,hb2⟩:=hv.appended (by decide) hrow hB.size (Yyt _) hown' hgrow;have hc1:=hv1.cell;have hf1:=hv1.frozen)
  exact⟨⟨_,hv2,by simpa using hr2⟩,hB.trans hb2⟩
 case done=>
  rintro W ⟨⟨v,hv,hrow,-⟩,hB⟩ hK;have hc:=hv.cell
  gi_wp2
  refine⟨by simp,.inl ⟨_,_,rfl,run_takeDeferred hK,?_⟩⟩;exact⟨_,results_tmp rfl _ _ _,v,rfl,ownsRow_putObj hrow _ hK rfl,hB.trans (belowK_b (w:=w) (Yyt _) W _ _ _ (by simp) hK rfl rfl)⟩
theorem list42 (p:Nat->Bool) (s:Sl) (h:Heap) (hx:Gx h) (hs:SetV h s p) :
  Fn Pz 42 #[.slice s.a s.n s.c] h fun v h'=>Ext h h'/\∃r:Sl,v=.slice r.a r.n r.c/\OwnS h' h.size 3 1 r (((elems p).map fun n:Nat=>(n:Int)).map inC).flatten:=by
 intro w hw;subst hw;refine (callsIn_wide.1 (list42_in p s w hx hs)).mono ?_;rintro e w' ⟨v,rfl,hrow,hB⟩;obtain⟨r,hr,hn,ho⟩:=OwnS.of_row hrow;have e1:(((elems p).map fun n:Nat=>(n:Int)).map inC).flatten=(elems p).map fun n:Nat=>Value.int .i64 (n:Nat):=by
  rw[List.map_map]
  induction elems p with
  | nil=>rfl
  | cons a l ih=>rw[Yyl,Yyu,ih];rfl
 exact⟨v,rfl,⟨⟨hB.size,fun k hk=>hB.block k hk⟩,r,hr,by rw[e1];exact ho⟩,hB.os,hB.tape,hB.output,trivial⟩
end Go.VC
end

section

end

section
namespace Go.VC
open Go.Proofs Go.LexS
def isPath (l:Nm):Bool:=decide (l.length<=50)&&(pieces l).all isWord
theorem fn256 (l:Nm) (h:Heap):Fn Pz 256 #[.string (bs l)] h fun v h'=>v=.bool (!isWord l)/\Ext h h':=by
 apply vc256;unfold W256;refine (isword132 (bs l) h).mono ?_;rintro _ h3 ⟨rfl,E⟩;exact⟨_,rfl,rfl,E⟩
theorem cal256:callable Pz 256=true:=by kernel_rfl
theorem idx281 (L:List Nm) (s:Sl) (h:Heap) (hr:RL h 1 s nmC L) :
  Fn Pz 281 #[.slice s.a s.n s.c,.func (.func 256) #[] #[]] h fun v h'=>(∃k:Int,v=.int .i64 k/\decide (k>=0)=L.any fun x=>!isWord x)/\Ext h h':=by
 apply vc281;unfold W281;have hn:=hr.ln;have hm:=hr.sm;have hs:=St.refl h;refine up_loopS (n:=s.n) hs (fun i=>∀(j:Nat) (y:Nm),j<i->L[j]?=some y->(!isWord y)=false) (fun j y hj=>by omega) ?_;rintro-i h5 hi ⟨hs,hd⟩;refine sB_intro (fun l=>?_) (fun l=>?_)
 .replace l:=lt_t l;refine (hr.ext hs.ext).rw.nbI (by omega) (by omega) fun b o d g t=>?_;replace g:L[i]?=some d:=g;refine⟨_,t.hd,?_⟩;rw[cal256,cond_true];refine (fn256 d h5).mono ?_;rintro _ h11 ⟨rfl,E⟩;replace hs:=hs.step E;refine⟨_,rfl,sB_intro (fun c=>?_) (fun c=>?_)⟩
  .exact⟨⟨_,rfl,by rw[any_t g (p:=fun x=>!isWord x) c];exact decide_eq_true (by omega)⟩,hs.ext⟩
  .exact Up.next l (by omega) ⟨hs,scan_next (p:=fun x=>!isWord x) g c hd⟩
 .replace l:=lt_f l;refine⟨⟨_,rfl,?_⟩,hs.ext⟩;rw[any_f (p:=fun x=>!isWord x) fun j x hj=>hd j x (by have:=(Ya.1 hj).1;omega) hj];rfl
theorem any254 (L:List Nm) (s:Sl) (h:Heap) (hr:RL h 1 s nmC L) :
  Fn Pz 254 #[.slice s.a s.n s.c,.func (.func 256) #[] #[]] h fun v h'=>v=.bool (L.any fun x=>!isWord x)/\Ext h h':=by
 apply vc254;unfold W254;refine (idx281 L s h hr).mono ?_;rintro _ h3 ⟨⟨k,rfl,hk⟩,E⟩;exact⟨_,rfl,by rw[hk],E⟩
theorem any_not (L:List Nm):(!(L.any fun x=>!isWord x))=L.all isWord:=by
 induction L with
 | nil=>rfl
 | cons a L ih=>rw[List.any_cons,List.all_cons,<-ih];cases isWord a<;>simp
theorem path224 (l:Nm) (h:Heap) (hx:Gx h):Fn Pz 224 #[.string (bs l)] h fun v h'=>v=.bool (isPath l)/\Ext h h':=by
 apply vc224;unfold W224;rw[bs_size];refine sBi (fun c=>?_) (fun c=>?_)
 .have hl:l.length<=50:=by omega
  refine (split255 l h hx hl).mono ?_;rintro _ h3 ⟨E3,s,rfl,hr⟩;refine⟨_,rfl,?_⟩;refine (any254 _ s h3 hr).mono ?_;rintro _ h6 ⟨rfl,E6⟩;refine⟨_,rfl,?_,E3.trans E6⟩;unfold isPath;rw[decide_eq_true hl,any_not];rfl
 .refine⟨?_,(St.refl h).ext⟩;unfold isPath;rw[decide_eq_false (by omega)];rfl
def allF (L:List Dc):List Fld:=L.flatMap (·.fs)
theorem app130:appB Pz 130 184 4 40=true:=by kernel_rfl
theorem allF_le:∀(L:List Dc),(∀d∈L,d.fs.length<=1048576)->(allF L).length<=L.length*1048576
 | [],_=>by simp[allF]
 | d::L,h=>by
  have h1:=allF_le L fun x hx=>h x (Yn _ hx);have h2:=h d (by simp);unfold allF at *;rw[List.flatMap_cons,Yh,Yyj,Nat.succ_mul];omega
theorem allF_snoc (L:List Dc) (d:Dc):allF (L++[d])=allF L++d.fs:=by unfold allF;rw[List.flatMap_append,List.flatMap_singleton]
theorem fldrows (L:List Fld):∀r∈L.map Fld.cs,r.length=4:=fun r hr=>by obtain⟨x,_,rfl⟩:=Yp.1 hr;rfl
theorem one_of {α:Type} {cs:α->List Value} (h:∀x,(cs x).all oneB=true) (L:List α):(L.map cs).flatten.all oneB=true:=by
 induction L with
 | nil=>rfl
 | cons a L ih=>rw[Yyl,Yyu,List.all_append,h a,ih];rfl
theorem fields223 (L:List Dc) (s:Sl) (h:Heap) (hL:DL h s L) (h40:L.length<=40) :
  Fn Pz 223 #[.slice s.a s.n s.c] h fun v h'=>Ext h h'/\∃r:Sl,v=.slice r.a r.n r.c/\OwnS h' h.size 184 4 r ((allF L).map Fld.cs).flatten:=by
 apply vc223;unfold W223;have hn:=hL.r.ln;have hs:=(St.refl h).nil_ 184 4;refine up_loopA (n:=s.n) hs (fun i rows=>rows=(allF (L.take i)).map Fld.cs) rfl ?_;rintro-i out h6 rows hi hs q;refine sB_intro (fun l=>?_) (fun l=>?_)
 .replace l:=lt_t l;refine (hL.ext hs.ext).r.rw.nbI (by omega) (by omega) fun b o d g t=>?_;replace g:L[i]?=some d:=g;refine⟨_,_,_,_,_,t,?_⟩;refine hs.newput (vs:=d.cs) rfl rfl fun h15 hs=>?_;refine⟨_,hs.rd 0 rfl rfl,?_⟩;have hd:=(hL.i d (Yb g)).pf.ext hs.ext;have hlen:=(hs.len 1 rfl (by omega)).1;have h1:=allF_le (L.take i) fun x hx=>(hL.i x (List.mem_of_mem_take hx)).pf.sm;have h2:=hd.sm;have h3:=hd.ln;have h4:(L.take i).length*1048576<=40*1048576:=Nat.mul_le_mul_right _ (by rw[Yu];omega);rw[q,Yc] at hlen;refine hs.appRw 1 rfl app130 hd.rw (fldrows _) hd.nil (one_of (fun _=>rfl) _) (by omega) (by simp only[maxLen];omega) fun r h18 hr hs=>?_;refine UpA.next l (by omega) ⟨_,hs.drop 1,?_⟩;rw[q,take_snoc g,allF_snoc,Ym]
 .replace l:=lt_f l;rw[Yj (by omega)] at q;have:=hs.give 0 rfl;rw[q] at this;exact⟨hs.ext,out,rfl,this⟩
end Go.VC
end
