/- SxVcSa SxVcSb SxVcSc SxVcSe SxVcSd SxVcSf SxVcK1 SxVcK2 SxVcK4 SxVcK5 SyVcC SyVcM SyVcA SyVcE LexSpec SxSpec SxMem SxA SxI0 SxJ0 SxK0 SxL0 SxO0 SxQ0 SxR0 SxT0 SxCa SxLsA SxX0 SxShelf. -/
import Derived.Test.YtajglkbckhgboaaGreatDoorFM02
import Derived.Test.YtajglkbckhgboaaGreatDoorFM03
import Derived.Lib.Split
import Derived.Shelf.Strings.Split
import Derived.Shelf.Bits.Mul64
import Derived.Shelf.Spec.TrailingZeros
import Derived.Shelf.SlLaysF0
import Derived.Ground.NamesProg
import Derived.Ground.Names7Prog
import Derived.Ground.SlsfProg
set_option linter.all false
set_option maxRecDepth 100000
set_option maxHeartbeats 8000000

section
namespace Go.VC
open Go.Proofs IntKind
variable {h:Heap} {R:Value->Heap->Prop}
def V49za (h79 h39 h46:Heap) (m44:Nat) (I42:Int->Heap->Nat->Prop) (x_45 p1:Int):Prop:=
 ∃x80,rS h79 (aS h39 13) x80/\∃x81,rI h79 (aS h46 0) x81/\∃x82,rS h79 (aS h39 13) x82/\∃x83,rI h79 (aS h46 0) x83/\NB x82.a fun b84 o85=>Ib x83 x82.n/\∃x86,rB h79 ⟨b84,o85+x83.toNat*1,none⟩ x86/\sB x86 (NB x80.a fun b87 o88=>Ib x81 x80.n/\Wp h79 ⟨b87,o88+x81.toNat*1,none⟩ 1 [.bool true] fun h89=>∃m90,m90<m44/\I42 (wrap .i64 (x_45+1)) h89 m90) (∃x91,rI h79 (aS h46 1) x91/\NB x80.a fun b92 o93=>Ib x81 x80.n/\Wp h79 ⟨b92,o93+x81.toNat*1,none⟩ 1 [.bool (x91==p1)] fun h94=>∃m95,m95<m44/\I42 (wrap .i64 (x_45+1)) h94 m95)
def V49a (h39:Heap) (x22:ByteArray) (x23 x24:Sl) (x25 x26 x27:Int) (x28 x29:Sl) (p1:Int) (h20:Heap) (x30:Int) (h35:Heap) (x31:Int) (h36:Heap) (x32:Int) (h37:Heap) (x33:Int) (h38:Heap) (x34:Int) (h:Heap) (R:Value->Heap->Prop):Prop:=
 Wn h39 [.string x22,vS x23,vS x24,vI x25,vI x26,vI x27,vS x28,vS x29,vI p1,.slice (some (aS h20 0)) (x30.toNat) (x30.toNat),vN,.slice (some (aS h35 0)) (x31.toNat) (x31.toNat),.slice (some (aS h36 0)) (x32.toNat) (x32.toNat),.slice (some (aS h37 0)) (x33.toNat) (x33.toNat),.slice (some (aS h38 0)) (x34.toNat) (x34.toNat)] 186 fun h40=>∃x41,rS h40 (aS h 6) x41/\QI 0 h40 fun I42 x_45 h46 m44=>sB (decide (x_45<(x41.n:Int))) (NB x41.a fun b47 o48=>Ib x_45 x41.n/\∃x49 x50 x51 x52 x53 x54,aL3 h46 ⟨b47,o48+x_45.toNat*6,none⟩ x49 x50 x51 x52 x53 x54/\Wn h46 [vI 0,vI 0,vI 0,vI 0,vI 0,.bool false] 67 fun h55=>Wp h55 (aS h46 0) 6 (L3 x49 x50 x51 x52 x53 x54) fun h56=>∃x57,rS h56 (aS h39 9) x57/\∃x58,rI h56 (aS h46 0) x58/\∃x59,rS h56 (aS h39 9) x59/\∃x60,rI h56 (aS h46 0) x60/\NB x59.a fun b61 o62=>Ib x60 x59.n/\∃x63,rS h56 ⟨b61,o62+x60.toNat*1,none⟩ x63/\Wn h56 [vI x_45] 3 fun h64=>Sm [⟨b61,o62+x60.toNat*1,none⟩,(aS h46 0),(aS h39 9),(aS h46 0),(aS h39 9)] h56 h64/\App Pz 102 102 (vS x63) (.slice (some (aS h56 0)) 1 1) h64 fun s65 h66=>Sm [(aS h46 0),(aS h39 9)] h64 h66/\NB x57.a fun b67 o68=>Ib x58 x57.n/\Wp h66 ⟨b67,o68+x58.toNat*1,none⟩ 1 [vS s65] fun h69=>∃x70,rS h69 (aS h39 12) x70/\∃x71,rI h69 (aS h46 0) x71/\∃x72,rS h69 (aS h39 12) x72/\∃x73,rI h69 (aS h46 0) x73/\NB x72.a fun b74 o75=>Ib x73 x72.n/\∃x76,rB h69 ⟨b74,o75+x73.toNat*1,none⟩ x76/\sB x76 (NB x70.a fun b77 o78=>Ib x71 x70.n/\Wp h69 ⟨b77,o78+x71.toNat*1,none⟩ 1 [.bool true] fun h79=>V49za h79 h39 h46 m44 I42 x_45 p1) (∃x96,rB h69 (aS h46 5) x96/\NB x70.a fun b97 o98=>Ib x71 x70.n/\Wp h69 ⟨b97,o98+x71.toNat*1,none⟩ 1 [.bool x96] fun h99=>V49za h99 h39 h46 m44 I42 x_45 p1)) (∃x116,rS h46 (aS h 7) x116/\QI 0 h46 fun I117 x_120 h121 m119=>sB (decide (x_120<(x116.n:Int))) (NB x116.a fun b122 o123=>Ib x_120 x116.n/\∃x124 x125 x126,aL4 h121 ⟨b122,o123+x_120.toNat*3,none⟩ x124 x125 x126/\Wn h121 [vI 0,vI 0,vI 0] 149 fun h127=>Wp h127 (aS h121 0) 3 (L4 x124 x125 x126) fun h128=>∃x129,rS h128 (aS h 6) x129/\∃x130,rI h128 (aS h121 2) x130/\NB x129.a fun b131 o132=>Ib x130 x129.n/\∃x133 x134 x135 x136 x137 x138,aL3 h128 ⟨b131,o132+x130.toNat*6,none⟩ x133 x134 x135 x136 x137 x138/\Fn Pz 106 #[.pointer (some (aS h39 0)),.agg ⟨(L3 x133 x134 x135 x136 x137 x138)⟩] h128 (fun v139 h144=>∃(x140:Bool) (x141 x142:Int) (x143:Bool),v139=.tuple ⟨[.agg ⟨(L1 x140 x141 x142)⟩,.bool x143]⟩/\Wn h144 [.bool false,vI 0,vI 0] 188 fun h145=>Wp h145 (aS h144 0) 3 (L1 x140 x141 x142) fun h146=>∃x147,rS h146 (aS h39 11) x147/\∃x148,rI h146 (aS h121 0) x148/\∃x149,rI h146 (aS h121 1) x149/\∃x150 x151 x152,aL1 h146 (aS h144 0) x150 x151 x152/\NB x147.a fun b153 o154=>Ib x148 x147.n/\Wp h146 ⟨b153,o154+x148.toNat*4,none⟩ 4 [vI x149,.bool x150,vI x151,vI x152] fun h155=>∃m156,m156<m119/\I117 (wrap .i64 (x_120+1)) h155 m156)) (∃x157,rI h121 (aS h 3) x157/\QI 0 h121 fun I158 x_161 h162 m160=>sB (decide (x_161<x157)) (∃x163,rS h162 (aS h39 10) x163/\Fn Pz 107 #[.pointer (some (aS h39 0)),vI x_161] h162 (fun v164 h167=>∃(x165:Sl) (x166:Bool),v164=.agg ⟨[vS x165,.bool x166]⟩/\Sm [(aS h39 10)] h162 h167/\Wn h167 [vS x165,.bool x166] 195 fun h168=>Sm [(aS h39 10)] h167 h168/\App Pz 184 184 (vS x163) (.slice (some (aS h167 0)) 1 1) h168 fun s169 h170=>Wp h170 (aS h39 10) 1 [vS s169] fun h171=>∃m172,m172<m160/\I158 (wrap .i64 (x_161+1)) h171 m172)) (R (.tuple ⟨[.pointer (some (aS h39 0)),vI 0]⟩) h162)))
def V49e (x32:Int) (h444 h:Heap) (x22:ByteArray) (x23 x24:Sl) (x25 x26 x27:Int) (x28 x29:Sl) (p1:Int) (h20:Heap) (x30:Int) (h35:Heap) (x31:Int) (h36:Heap) (x33:Int) (h308:Heap) (x34:Int) (R:Value->Heap->Prop):Prop:=
 Mk x32 x32 1/\Wn h444 (madeL Pz 4 (x32.toNat)) 4 fun h445=>Sm [(aS h 3),(aS h 3),(aS h 3),(aS h 3),(aS h 0)] h444 h445/\V49a h445 x22 x23 x24 x25 x26 x27 x28 x29 p1 h20 x30 h35 x31 h444 x32 h36 x33 h308 x34 h R
def V49j (x31:Int) (h2207 h:Heap) (x32:Int) (x22:ByteArray) (x23 x24:Sl) (x25 x26 x27:Int) (x28 x29:Sl) (p1:Int) (h20:Heap) (x30:Int) (h35:Heap) (x33:Int) (h1664:Heap) (x34:Int) (R:Value->Heap->Prop):Prop:=
 Mk x31 x31 32/\Wn h2207 (madeL Pz 192 (x31.toNat)) 192 fun h2208=>Sm [(aS h 3),(aS h 3),(aS h 3),(aS h 3),(aS h 0)] h2207 h2208/\V49e x32 h2208 h x22 x23 x24 x25 x26 x27 x28 x29 p1 h20 x30 h2207 x31 h35 x33 h1664 x34 R
def V49b (x31:Int) (h1258 h:Heap) (x22:ByteArray) (x23 x24:Sl) (x25 x26 x27:Int) (x28 x29:Sl) (p1:Int) (h20:Heap) (x30:Int) (h35:Heap) (x32:Int) (h850:Heap) (x33:Int) (h1122:Heap) (x34:Int) (R:Value->Heap->Prop):Prop:=
 Mk x31 x31 32/\Wn h1258 (madeL Pz 192 (x31.toNat)) 192 fun h1259=>Sm [(aS h 3),(aS h 3),(aS h 3),(aS h 3),(aS h 0)] h1258 h1259/\V49a h1259 x22 x23 x24 x25 x26 x27 x28 x29 p1 h20 x30 h1258 x31 h35 x32 h850 x33 h1122 x34 h R
def V49s (x32:Int) (h2207 h:Heap) (x31:Int) (x22:ByteArray) (x23 x24:Sl) (x25 x26 x27:Int) (x28 x29:Sl) (p1:Int) (h20:Heap) (x30:Int) (h35:Heap) (x33:Int) (h1664:Heap) (x34:Int) (R:Value->Heap->Prop):Prop:=
 Mk x32 x32 1/\Wn h2207 (madeL Pz 4 (x32.toNat)) 4 fun h2343=>Sm [(aS h 3),(aS h 3),(aS h 3),(aS h 3),(aS h 0)] h2207 h2343/\V49b x31 h2343 h x22 x23 x24 x25 x26 x27 x28 x29 p1 h20 x30 h2207 x32 h35 x33 h1664 x34 R
def V49zb (x30:Int) (h12249 h:Heap) (x31 x32:Int) (x22:ByteArray) (x23 x24:Sl) (x25 x26 x27:Int) (x28 x29:Sl) (p1:Int) (h20:Heap) (x33:Int) (h9806:Heap) (x34:Int) (R:Value->Heap->Prop):Prop:=
 Mk x30 x30 24/\Wn h12249 (madeL Pz 102 (x30.toNat)) 102 fun h12250=>Sm [(aS h 3),(aS h 3),(aS h 3),(aS h 3),(aS h 0)] h12249 h12250/\(V49j x31 h12250 h x32 x22 x23 x24 x25 x26 x27 x28 x29 p1 h12249 x30 h20 x33 h9806 x34 R)/\V49s x32 h12250 h x31 x22 x23 x24 x25 x26 x27 x28 x29 p1 h12249 x30 h20 x33 h9806 x34 R
def V49n (x30:Int) (h5464 h:Heap) (x32:Int) (x22:ByteArray) (x23 x24:Sl) (x25 x26 x27:Int) (x28 x29:Sl) (p1:Int) (h20:Heap) (x31:Int) (h3292:Heap) (x33:Int) (h4921:Heap) (x34:Int) (R:Value->Heap->Prop):Prop:=
 Mk x30 x30 24/\Wn h5464 (madeL Pz 102 (x30.toNat)) 102 fun h5465=>Sm [(aS h 3),(aS h 3),(aS h 3),(aS h 3),(aS h 0)] h5464 h5465/\V49e x32 h5465 h x22 x23 x24 x25 x26 x27 x28 x29 p1 h5464 x30 h20 x31 h3292 x33 h4921 x34 R
def V49c (x30:Int) (h4515 h:Heap) (x22:ByteArray) (x23 x24:Sl) (x25 x26 x27:Int) (x28 x29:Sl) (p1:Int) (h20:Heap) (x31:Int) (h3292:Heap) (x32:Int) (h4107:Heap) (x33:Int) (h4379:Heap) (x34:Int) (R:Value->Heap->Prop):Prop:=
 Mk x30 x30 24/\Wn h4515 (madeL Pz 102 (x30.toNat)) 102 fun h4516=>Sm [(aS h 3),(aS h 3),(aS h 3),(aS h 3),(aS h 0)] h4515 h4516/\V49a h4516 x22 x23 x24 x25 x26 x27 x28 x29 p1 h4515 x30 h20 x31 h3292 x32 h4107 x33 h4379 x34 h R
def V49u (x32:Int) (h5464 h:Heap) (x30:Int) (x22:ByteArray) (x23 x24:Sl) (x25 x26 x27:Int) (x28 x29:Sl) (p1:Int) (h20:Heap) (x31:Int) (h3292:Heap) (x33:Int) (h4921:Heap) (x34:Int) (R:Value->Heap->Prop):Prop:=
 Mk x32 x32 1/\Wn h5464 (madeL Pz 4 (x32.toNat)) 4 fun h5600=>Sm [(aS h 3),(aS h 3),(aS h 3),(aS h 3),(aS h 0)] h5464 h5600/\V49c x30 h5600 h x22 x23 x24 x25 x26 x27 x28 x29 p1 h20 x31 h5464 x32 h3292 x33 h4921 x34 R
def V49zc (x31:Int) (h12249 h:Heap) (x30 x32:Int) (x22:ByteArray) (x23 x24:Sl) (x25 x26 x27:Int) (x28 x29:Sl) (p1:Int) (h20:Heap) (x33:Int) (h9806:Heap) (x34:Int) (R:Value->Heap->Prop):Prop:=
 Mk x31 x31 32/\Wn h12249 (madeL Pz 192 (x31.toNat)) 192 fun h12521=>Sm [(aS h 3),(aS h 3),(aS h 3),(aS h 3),(aS h 0)] h12249 h12521/\(V49n x30 h12521 h x32 x22 x23 x24 x25 x26 x27 x28 x29 p1 h12249 x31 h20 x33 h9806 x34 R)/\V49u x32 h12521 h x30 x22 x23 x24 x25 x26 x27 x28 x29 p1 h12249 x31 h20 x33 h9806 x34 R
def V49r (x34:Int) (h308 h:Heap) (x32:Int) (x22:ByteArray) (x23 x24:Sl) (x25 x26 x27:Int) (x28 x29:Sl) (p1:Int) (h20:Heap) (x30:Int) (h35:Heap) (x31:Int) (h36:Heap) (x33:Int) (R:Value->Heap->Prop):Prop:=
 Mk x34 x34 24/\Wn h308 (madeL Pz 274 (x34.toNat)) 274 fun h444=>Sm [(aS h 3),(aS h 3),(aS h 3),(aS h 3),(aS h 0)] h308 h444/\V49e x32 h444 h x22 x23 x24 x25 x26 x27 x28 x29 p1 h20 x30 h35 x31 h36 x33 h308 x34 R
def V49f (x34:Int) (h38 h:Heap) (x22:ByteArray) (x23 x24:Sl) (x25 x26 x27:Int) (x28 x29:Sl) (p1:Int) (h20:Heap) (x30:Int) (h35:Heap) (x31:Int) (h36:Heap) (x32:Int) (h37:Heap) (x33:Int) (R:Value->Heap->Prop):Prop:=
 Mk x34 x34 24/\Wn h38 (madeL Pz 274 (x34.toNat)) 274 fun h39=>Sm [(aS h 3),(aS h 3),(aS h 3),(aS h 3),(aS h 0)] h38 h39/\V49a h39 x22 x23 x24 x25 x26 x27 x28 x29 p1 h20 x30 h35 x31 h36 x32 h37 x33 h38 x34 h R
def V49w (x32:Int) (h308 h:Heap) (x34:Int) (x22:ByteArray) (x23 x24:Sl) (x25 x26 x27:Int) (x28 x29:Sl) (p1:Int) (h20:Heap) (x30:Int) (h35:Heap) (x31:Int) (h36:Heap) (x33:Int) (R:Value->Heap->Prop):Prop:=
 Mk x32 x32 1/\Wn h308 (madeL Pz 4 (x32.toNat)) 4 fun h309=>Sm [(aS h 3),(aS h 3),(aS h 3),(aS h 3),(aS h 0)] h308 h309/\V49f x34 h309 h x22 x23 x24 x25 x26 x27 x28 x29 p1 h20 x30 h35 x31 h308 x32 h36 x33 R
def V49zd (x31:Int) (h1664 h:Heap) (x32 x34:Int) (x22:ByteArray) (x23 x24:Sl) (x25 x26 x27:Int) (x28 x29:Sl) (p1:Int) (h20:Heap) (x30:Int) (h35:Heap) (x33:Int) (R:Value->Heap->Prop):Prop:=
 Mk x31 x31 32/\Wn h1664 (madeL Pz 192 (x31.toNat)) 192 fun h1665=>Sm [(aS h 3),(aS h 3),(aS h 3),(aS h 3),(aS h 0)] h1664 h1665/\(V49w x32 h1665 h x34 x22 x23 x24 x25 x26 x27 x28 x29 p1 h20 x30 h1664 x31 h35 x33 R)/\V49r x34 h1665 h x32 x22 x23 x24 x25 x26 x27 x28 x29 p1 h20 x30 h1664 x31 h35 x33 R
def V49ze (x34:Int) (h1664 h:Heap) (x31 x32:Int) (x22:ByteArray) (x23 x24:Sl) (x25 x26 x27:Int) (x28 x29:Sl) (p1:Int) (h20:Heap) (x30:Int) (h35:Heap) (x33:Int) (R:Value->Heap->Prop):Prop:=
 Mk x34 x34 24/\Wn h1664 (madeL Pz 274 (x34.toNat)) 274 fun h2207=>Sm [(aS h 3),(aS h 3),(aS h 3),(aS h 3),(aS h 0)] h1664 h2207/\(V49j x31 h2207 h x32 x22 x23 x24 x25 x26 x27 x28 x29 p1 h20 x30 h35 x33 h1664 x34 R)/\V49s x32 h2207 h x31 x22 x23 x24 x25 x26 x27 x28 x29 p1 h20 x30 h35 x33 h1664 x34 R
def V49d (x33:Int) (h173 h:Heap) (x22:ByteArray) (x23 x24:Sl) (x25 x26 x27:Int) (x28 x29:Sl) (p1:Int) (h20:Heap) (x30:Int) (h35:Heap) (x31:Int) (h36:Heap) (x32:Int) (h37:Heap) (x34:Int) (R:Value->Heap->Prop):Prop:=
 Mk x33 x33 1/\Wn h173 (madeL Pz 4 (x33.toNat)) 4 fun h174=>Sm [(aS h 3),(aS h 3),(aS h 3),(aS h 3),(aS h 0)] h173 h174/\V49a h174 x22 x23 x24 x25 x26 x27 x28 x29 p1 h20 x30 h35 x31 h36 x32 h173 x33 h37 x34 h R
def V49x (x32:Int) (h579 h:Heap) (x33:Int) (x22:ByteArray) (x23 x24:Sl) (x25 x26 x27:Int) (x28 x29:Sl) (p1:Int) (h20:Heap) (x30:Int) (h35:Heap) (x31:Int) (h36:Heap) (x34:Int) (R:Value->Heap->Prop):Prop:=
 Mk x32 x32 1/\Wn h579 (madeL Pz 4 (x32.toNat)) 4 fun h580=>Sm [(aS h 3),(aS h 3),(aS h 3),(aS h 3),(aS h 0)] h579 h580/\V49d x33 h580 h x22 x23 x24 x25 x26 x27 x28 x29 p1 h20 x30 h35 x31 h579 x32 h36 x34 R
def V49y (x33:Int) (h579 h:Heap) (x32:Int) (x22:ByteArray) (x23 x24:Sl) (x25 x26 x27:Int) (x28 x29:Sl) (p1:Int) (h20:Heap) (x30:Int) (h35:Heap) (x31:Int) (h36:Heap) (x34:Int) (R:Value->Heap->Prop):Prop:=
 Mk x33 x33 1/\Wn h579 (madeL Pz 4 (x33.toNat)) 4 fun h715=>Sm [(aS h 3),(aS h 3),(aS h 3),(aS h 3),(aS h 0)] h579 h715/\V49e x32 h715 h x22 x23 x24 x25 x26 x27 x28 x29 p1 h20 x30 h35 x31 h579 x33 h36 x34 R
def V49zf (x31:Int) (h2478 h:Heap) (x32 x33:Int) (x22:ByteArray) (x23 x24:Sl) (x25 x26 x27:Int) (x28 x29:Sl) (p1:Int) (h20:Heap) (x30:Int) (h35:Heap) (x34:Int) (R:Value->Heap->Prop):Prop:=
 Mk x31 x31 32/\Wn h2478 (madeL Pz 192 (x31.toNat)) 192 fun h2479=>Sm [(aS h 3),(aS h 3),(aS h 3),(aS h 3),(aS h 0)] h2478 h2479/\(V49x x32 h2479 h x33 x22 x23 x24 x25 x26 x27 x28 x29 p1 h20 x30 h2478 x31 h35 x34 R)/\V49y x33 h2479 h x32 x22 x23 x24 x25 x26 x27 x28 x29 p1 h20 x30 h2478 x31 h35 x34 R
def V49i (x31:Int) (h1393 h:Heap) (x33:Int) (x22:ByteArray) (x23 x24:Sl) (x25 x26 x27:Int) (x28 x29:Sl) (p1:Int) (h20:Heap) (x30:Int) (h35:Heap) (x32:Int) (h850:Heap) (x34:Int) (R:Value->Heap->Prop):Prop:=
 Mk x31 x31 32/\Wn h1393 (madeL Pz 192 (x31.toNat)) 192 fun h1394=>Sm [(aS h 3),(aS h 3),(aS h 3),(aS h 3),(aS h 0)] h1393 h1394/\V49d x33 h1394 h x22 x23 x24 x25 x26 x27 x28 x29 p1 h20 x30 h1393 x31 h35 x32 h850 x34 R
def V49q (x33:Int) (h1393 h:Heap) (x31:Int) (x22:ByteArray) (x23 x24:Sl) (x25 x26 x27:Int) (x28 x29:Sl) (p1:Int) (h20:Heap) (x30:Int) (h35:Heap) (x32:Int) (h850:Heap) (x34:Int) (R:Value->Heap->Prop):Prop:=
 Mk x33 x33 1/\Wn h1393 (madeL Pz 4 (x33.toNat)) 4 fun h1529=>Sm [(aS h 3),(aS h 3),(aS h 3),(aS h 3),(aS h 0)] h1393 h1529/\V49b x31 h1529 h x22 x23 x24 x25 x26 x27 x28 x29 p1 h20 x30 h35 x32 h1393 x33 h850 x34 R
def V49zg (x34:Int) (h850 h:Heap) (x31 x33:Int) (x22:ByteArray) (x23 x24:Sl) (x25 x26 x27:Int) (x28 x29:Sl) (p1:Int) (h20:Heap) (x30:Int) (h35:Heap) (x32:Int) (R:Value->Heap->Prop):Prop:=
 Mk x34 x34 24/\Wn h850 (madeL Pz 274 (x34.toNat)) 274 fun h1393=>Sm [(aS h 3),(aS h 3),(aS h 3),(aS h 3),(aS h 0)] h850 h1393/\(V49i x31 h1393 h x33 x22 x23 x24 x25 x26 x27 x28 x29 p1 h20 x30 h35 x32 h850 x34 R)/\V49q x33 h1393 h x31 x22 x23 x24 x25 x26 x27 x28 x29 p1 h20 x30 h35 x32 h850 x34 R
def V49o (x30:Int) (h8721 h:Heap) (x31:Int) (x22:ByteArray) (x23 x24:Sl) (x25 x26 x27:Int) (x28 x29:Sl) (p1:Int) (h20:Heap) (x32:Int) (h6549:Heap) (x33:Int) (h8178:Heap) (x34:Int) (R:Value->Heap->Prop):Prop:=
 Mk x30 x30 24/\Wn h8721 (madeL Pz 102 (x30.toNat)) 102 fun h8722=>Sm [(aS h 3),(aS h 3),(aS h 3),(aS h 3),(aS h 0)] h8721 h8722/\V49b x31 h8722 h x22 x23 x24 x25 x26 x27 x28 x29 p1 h8721 x30 h20 x32 h6549 x33 h8178 x34 R
def V49p (x31:Int) (h8721 h:Heap) (x30:Int) (x22:ByteArray) (x23 x24:Sl) (x25 x26 x27:Int) (x28 x29:Sl) (p1:Int) (h20:Heap) (x32:Int) (h6549:Heap) (x33:Int) (h8178:Heap) (x34:Int) (R:Value->Heap->Prop):Prop:=
 Mk x31 x31 32/\Wn h8721 (madeL Pz 192 (x31.toNat)) 192 fun h8857=>Sm [(aS h 3),(aS h 3),(aS h 3),(aS h 3),(aS h 0)] h8721 h8857/\V49c x30 h8857 h x22 x23 x24 x25 x26 x27 x28 x29 p1 h8721 x31 h20 x32 h6549 x33 h8178 x34 R
def V49zh (x32:Int) (h12249 h:Heap) (x30 x31:Int) (x22:ByteArray) (x23 x24:Sl) (x25 x26 x27:Int) (x28 x29:Sl) (p1:Int) (h20:Heap) (x33:Int) (h9806:Heap) (x34:Int) (R:Value->Heap->Prop):Prop:=
 Mk x32 x32 1/\Wn h12249 (madeL Pz 4 (x32.toNat)) 4 fun h12792=>Sm [(aS h 3),(aS h 3),(aS h 3),(aS h 3),(aS h 0)] h12249 h12792/\(V49o x30 h12792 h x31 x22 x23 x24 x25 x26 x27 x28 x29 p1 h12249 x32 h20 x33 h9806 x34 R)/\V49p x31 h12792 h x30 x22 x23 x24 x25 x26 x27 x28 x29 p1 h12249 x32 h20 x33 h9806 x34 R
def V49v (x34:Int) (h37 h:Heap) (x33:Int) (x22:ByteArray) (x23 x24:Sl) (x25 x26 x27:Int) (x28 x29:Sl) (p1:Int) (h20:Heap) (x30:Int) (h35:Heap) (x31:Int) (h36:Heap) (x32:Int) (R:Value->Heap->Prop):Prop:=
 Mk x34 x34 24/\Wn h37 (madeL Pz 274 (x34.toNat)) 274 fun h173=>Sm [(aS h 3),(aS h 3),(aS h 3),(aS h 3),(aS h 0)] h37 h173/\V49d x33 h173 h x22 x23 x24 x25 x26 x27 x28 x29 p1 h20 x30 h35 x31 h36 x32 h37 x34 R
def V49z (x33:Int) (h37 h:Heap) (x34:Int) (x22:ByteArray) (x23 x24:Sl) (x25 x26 x27:Int) (x28 x29:Sl) (p1:Int) (h20:Heap) (x30:Int) (h35:Heap) (x31:Int) (h36:Heap) (x32:Int) (R:Value->Heap->Prop):Prop:=
 Mk x33 x33 1/\Wn h37 (madeL Pz 4 (x33.toNat)) 4 fun h38=>Sm [(aS h 3),(aS h 3),(aS h 3),(aS h 3),(aS h 0)] h37 h38/\V49f x34 h38 h x22 x23 x24 x25 x26 x27 x28 x29 p1 h20 x30 h35 x31 h36 x32 h37 x33 R
def V49zi (x30:Int) (h4107 h:Heap) (x33 x34:Int) (x22:ByteArray) (x23 x24:Sl) (x25 x26 x27:Int) (x28 x29:Sl) (p1:Int) (h20:Heap) (x31:Int) (h3292:Heap) (x32:Int) (R:Value->Heap->Prop):Prop:=
 Mk x30 x30 24/\Wn h4107 (madeL Pz 102 (x30.toNat)) 102 fun h4108=>Sm [(aS h 3),(aS h 3),(aS h 3),(aS h 3),(aS h 0)] h4107 h4108/\(V49z x33 h4108 h x34 x22 x23 x24 x25 x26 x27 x28 x29 p1 h4107 x30 h20 x31 h3292 x32 R)/\V49v x34 h4108 h x33 x22 x23 x24 x25 x26 x27 x28 x29 p1 h4107 x30 h20 x31 h3292 x32 R
def V49m (x30:Int) (h4650 h:Heap) (x33:Int) (x22:ByteArray) (x23 x24:Sl) (x25 x26 x27:Int) (x28 x29:Sl) (p1:Int) (h20:Heap) (x31:Int) (h3292:Heap) (x32:Int) (h4107:Heap) (x34:Int) (R:Value->Heap->Prop):Prop:=
 Mk x30 x30 24/\Wn h4650 (madeL Pz 102 (x30.toNat)) 102 fun h4651=>Sm [(aS h 3),(aS h 3),(aS h 3),(aS h 3),(aS h 0)] h4650 h4651/\V49d x33 h4651 h x22 x23 x24 x25 x26 x27 x28 x29 p1 h4650 x30 h20 x31 h3292 x32 h4107 x34 R
def V49t (x33:Int) (h4650 h:Heap) (x30:Int) (x22:ByteArray) (x23 x24:Sl) (x25 x26 x27:Int) (x28 x29:Sl) (p1:Int) (h20:Heap) (x31:Int) (h3292:Heap) (x32:Int) (h4107:Heap) (x34:Int) (R:Value->Heap->Prop):Prop:=
 Mk x33 x33 1/\Wn h4650 (madeL Pz 4 (x33.toNat)) 4 fun h4786=>Sm [(aS h 3),(aS h 3),(aS h 3),(aS h 3),(aS h 0)] h4650 h4786/\V49c x30 h4786 h x22 x23 x24 x25 x26 x27 x28 x29 p1 h20 x31 h3292 x32 h4650 x33 h4107 x34 R
def V49zj (x34:Int) (h4107 h:Heap) (x30 x33:Int) (x22:ByteArray) (x23 x24:Sl) (x25 x26 x27:Int) (x28 x29:Sl) (p1:Int) (h20:Heap) (x31:Int) (h3292:Heap) (x32:Int) (R:Value->Heap->Prop):Prop:=
 Mk x34 x34 24/\Wn h4107 (madeL Pz 274 (x34.toNat)) 274 fun h4650=>Sm [(aS h 3),(aS h 3),(aS h 3),(aS h 3),(aS h 0)] h4107 h4650/\(V49m x30 h4650 h x33 x22 x23 x24 x25 x26 x27 x28 x29 p1 h20 x31 h3292 x32 h4107 x34 R)/\V49t x33 h4650 h x30 x22 x23 x24 x25 x26 x27 x28 x29 p1 h20 x31 h3292 x32 h4107 x34 R
def V49zk (x30:Int) (h4921 h:Heap) (x32 x34:Int) (x22:ByteArray) (x23 x24:Sl) (x25 x26 x27:Int) (x28 x29:Sl) (p1:Int) (h20:Heap) (x31:Int) (h3292:Heap) (x33:Int) (R:Value->Heap->Prop):Prop:=
 Mk x30 x30 24/\Wn h4921 (madeL Pz 102 (x30.toNat)) 102 fun h4922=>Sm [(aS h 3),(aS h 3),(aS h 3),(aS h 3),(aS h 0)] h4921 h4922/\(V49w x32 h4922 h x34 x22 x23 x24 x25 x26 x27 x28 x29 p1 h4921 x30 h20 x31 h3292 x33 R)/\V49r x34 h4922 h x32 x22 x23 x24 x25 x26 x27 x28 x29 p1 h4921 x30 h20 x31 h3292 x33 R
def V49zl (x34:Int) (h4921 h:Heap) (x30 x32:Int) (x22:ByteArray) (x23 x24:Sl) (x25 x26 x27:Int) (x28 x29:Sl) (p1:Int) (h20:Heap) (x31:Int) (h3292:Heap) (x33:Int) (R:Value->Heap->Prop):Prop:=
 Mk x34 x34 24/\Wn h4921 (madeL Pz 274 (x34.toNat)) 274 fun h5464=>Sm [(aS h 3),(aS h 3),(aS h 3),(aS h 3),(aS h 0)] h4921 h5464/\(V49n x30 h5464 h x32 x22 x23 x24 x25 x26 x27 x28 x29 p1 h20 x31 h3292 x33 h4921 x34 R)/\V49u x32 h5464 h x30 x22 x23 x24 x25 x26 x27 x28 x29 p1 h20 x31 h3292 x33 h4921 x34 R
def V49zm (x30:Int) (h5735 h:Heap) (x32 x33:Int) (x22:ByteArray) (x23 x24:Sl) (x25 x26 x27:Int) (x28 x29:Sl) (p1:Int) (h20:Heap) (x31:Int) (h3292:Heap) (x34:Int) (R:Value->Heap->Prop):Prop:=
 Mk x30 x30 24/\Wn h5735 (madeL Pz 102 (x30.toNat)) 102 fun h5736=>Sm [(aS h 3),(aS h 3),(aS h 3),(aS h 3),(aS h 0)] h5735 h5736/\(V49x x32 h5736 h x33 x22 x23 x24 x25 x26 x27 x28 x29 p1 h5735 x30 h20 x31 h3292 x34 R)/\V49y x33 h5736 h x32 x22 x23 x24 x25 x26 x27 x28 x29 p1 h5735 x30 h20 x31 h3292 x34 R
def V49g (x31:Int) (h1122 h:Heap) (x34:Int) (x22:ByteArray) (x23 x24:Sl) (x25 x26 x27:Int) (x28 x29:Sl) (p1:Int) (h20:Heap) (x30:Int) (h35:Heap) (x32:Int) (h850:Heap) (x33:Int) (R:Value->Heap->Prop):Prop:=
 Mk x31 x31 32/\Wn h1122 (madeL Pz 192 (x31.toNat)) 192 fun h1123=>Sm [(aS h 3),(aS h 3),(aS h 3),(aS h 3),(aS h 0)] h1122 h1123/\V49f x34 h1123 h x22 x23 x24 x25 x26 x27 x28 x29 p1 h20 x30 h1122 x31 h35 x32 h850 x33 R
def V49h (x34:Int) (h1122 h:Heap) (x31:Int) (x22:ByteArray) (x23 x24:Sl) (x25 x26 x27:Int) (x28 x29:Sl) (p1:Int) (h20:Heap) (x30:Int) (h35:Heap) (x32:Int) (h850:Heap) (x33:Int) (R:Value->Heap->Prop):Prop:=
 Mk x34 x34 24/\Wn h1122 (madeL Pz 274 (x34.toNat)) 274 fun h1258=>Sm [(aS h 3),(aS h 3),(aS h 3),(aS h 3),(aS h 0)] h1122 h1258/\V49b x31 h1258 h x22 x23 x24 x25 x26 x27 x28 x29 p1 h20 x30 h35 x32 h850 x33 h1122 x34 R
def V49zn (x30:Int) (h8178 h:Heap) (x31 x34:Int) (x22:ByteArray) (x23 x24:Sl) (x25 x26 x27:Int) (x28 x29:Sl) (p1:Int) (h20:Heap) (x32:Int) (h6549:Heap) (x33:Int) (R:Value->Heap->Prop):Prop:=
 Mk x30 x30 24/\Wn h8178 (madeL Pz 102 (x30.toNat)) 102 fun h8179=>Sm [(aS h 3),(aS h 3),(aS h 3),(aS h 3),(aS h 0)] h8178 h8179/\(V49g x31 h8179 h x34 x22 x23 x24 x25 x26 x27 x28 x29 p1 h8178 x30 h20 x32 h6549 x33 R)/\V49h x34 h8179 h x31 x22 x23 x24 x25 x26 x27 x28 x29 p1 h8178 x30 h20 x32 h6549 x33 R
def V49k (x30:Int) (h4379 h:Heap) (x34:Int) (x22:ByteArray) (x23 x24:Sl) (x25 x26 x27:Int) (x28 x29:Sl) (p1:Int) (h20:Heap) (x31:Int) (h3292:Heap) (x32:Int) (h4107:Heap) (x33:Int) (R:Value->Heap->Prop):Prop:=
 Mk x30 x30 24/\Wn h4379 (madeL Pz 102 (x30.toNat)) 102 fun h4380=>Sm [(aS h 3),(aS h 3),(aS h 3),(aS h 3),(aS h 0)] h4379 h4380/\V49f x34 h4380 h x22 x23 x24 x25 x26 x27 x28 x29 p1 h4379 x30 h20 x31 h3292 x32 h4107 x33 R
def V49l (x34:Int) (h4379 h:Heap) (x30:Int) (x22:ByteArray) (x23 x24:Sl) (x25 x26 x27:Int) (x28 x29:Sl) (p1:Int) (h20:Heap) (x31:Int) (h3292:Heap) (x32:Int) (h4107:Heap) (x33:Int) (R:Value->Heap->Prop):Prop:=
 Mk x34 x34 24/\Wn h4379 (madeL Pz 274 (x34.toNat)) 274 fun h4515=>Sm [(aS h 3),(aS h 3),(aS h 3),(aS h 3),(aS h 0)] h4379 h4515/\V49c x30 h4515 h x22 x23 x24 x25 x26 x27 x28 x29 p1 h20 x31 h3292 x32 h4107 x33 h4379 x34 R
def V49zo (x31:Int) (h8178 h:Heap) (x30 x34:Int) (x22:ByteArray) (x23 x24:Sl) (x25 x26 x27:Int) (x28 x29:Sl) (p1:Int) (h20:Heap) (x32:Int) (h6549:Heap) (x33:Int) (R:Value->Heap->Prop):Prop:=
 Mk x31 x31 32/\Wn h8178 (madeL Pz 192 (x31.toNat)) 192 fun h8450=>Sm [(aS h 3),(aS h 3),(aS h 3),(aS h 3),(aS h 0)] h8178 h8450/\(V49k x30 h8450 h x34 x22 x23 x24 x25 x26 x27 x28 x29 p1 h8178 x31 h20 x32 h6549 x33 R)/\V49l x34 h8450 h x30 x22 x23 x24 x25 x26 x27 x28 x29 p1 h8178 x31 h20 x32 h6549 x33 R
def V49zp (x34:Int) (h8178 h:Heap) (x30 x31:Int) (x22:ByteArray) (x23 x24:Sl) (x25 x26 x27:Int) (x28 x29:Sl) (p1:Int) (h20:Heap) (x32:Int) (h6549:Heap) (x33:Int) (R:Value->Heap->Prop):Prop:=
 Mk x34 x34 24/\Wn h8178 (madeL Pz 274 (x34.toNat)) 274 fun h8721=>Sm [(aS h 3),(aS h 3),(aS h 3),(aS h 3),(aS h 0)] h8178 h8721/\(V49o x30 h8721 h x31 x22 x23 x24 x25 x26 x27 x28 x29 p1 h20 x32 h6549 x33 h8178 x34 R)/\V49p x31 h8721 h x30 x22 x23 x24 x25 x26 x27 x28 x29 p1 h20 x32 h6549 x33 h8178 x34 R
def V49zq (x30:Int) (h8992 h:Heap) (x31 x33:Int) (x22:ByteArray) (x23 x24:Sl) (x25 x26 x27:Int) (x28 x29:Sl) (p1:Int) (h20:Heap) (x32:Int) (h6549:Heap) (x34:Int) (R:Value->Heap->Prop):Prop:=
 Mk x30 x30 24/\Wn h8992 (madeL Pz 102 (x30.toNat)) 102 fun h8993=>Sm [(aS h 3),(aS h 3),(aS h 3),(aS h 3),(aS h 0)] h8992 h8993/\(V49i x31 h8993 h x33 x22 x23 x24 x25 x26 x27 x28 x29 p1 h8992 x30 h20 x32 h6549 x34 R)/\V49q x33 h8993 h x31 x22 x23 x24 x25 x26 x27 x28 x29 p1 h8992 x30 h20 x32 h6549 x34 R
def V49zr (x31:Int) (h8992 h:Heap) (x30 x33:Int) (x22:ByteArray) (x23 x24:Sl) (x25 x26 x27:Int) (x28 x29:Sl) (p1:Int) (h20:Heap) (x32:Int) (h6549:Heap) (x34:Int) (R:Value->Heap->Prop):Prop:=
 Mk x31 x31 32/\Wn h8992 (madeL Pz 192 (x31.toNat)) 192 fun h9264=>Sm [(aS h 3),(aS h 3),(aS h 3),(aS h 3),(aS h 0)] h8992 h9264/\(V49m x30 h9264 h x33 x22 x23 x24 x25 x26 x27 x28 x29 p1 h8992 x31 h20 x32 h6549 x34 R)/\V49t x33 h9264 h x30 x22 x23 x24 x25 x26 x27 x28 x29 p1 h8992 x31 h20 x32 h6549 x34 R
def V49zs (x32:Int) (h1664 h:Heap) (x31 x34:Int) (x22:ByteArray) (x23 x24:Sl) (x25 x26 x27:Int) (x28 x29:Sl) (p1:Int) (h20:Heap) (x30:Int) (h35:Heap) (x33:Int) (R:Value->Heap->Prop):Prop:=
 Mk x32 x32 1/\Wn h1664 (madeL Pz 4 (x32.toNat)) 4 fun h1936=>Sm [(aS h 3),(aS h 3),(aS h 3),(aS h 3),(aS h 0)] h1664 h1936/\(V49g x31 h1936 h x34 x22 x23 x24 x25 x26 x27 x28 x29 p1 h20 x30 h1664 x32 h35 x33 R)/\V49h x34 h1936 h x31 x22 x23 x24 x25 x26 x27 x28 x29 p1 h20 x30 h1664 x32 h35 x33 R
def V49zt (x32:Int) (h2478 h:Heap) (x31 x33:Int) (x22:ByteArray) (x23 x24:Sl) (x25 x26 x27:Int) (x28 x29:Sl) (p1:Int) (h20:Heap) (x30:Int) (h35:Heap) (x34:Int) (R:Value->Heap->Prop):Prop:=
 Mk x32 x32 1/\Wn h2478 (madeL Pz 4 (x32.toNat)) 4 fun h2750=>Sm [(aS h 3),(aS h 3),(aS h 3),(aS h 3),(aS h 0)] h2478 h2750/\(V49i x31 h2750 h x33 x22 x23 x24 x25 x26 x27 x28 x29 p1 h20 x30 h2478 x32 h35 x34 R)/\V49q x33 h2750 h x31 x22 x23 x24 x25 x26 x27 x28 x29 p1 h20 x30 h2478 x32 h35 x34 R
def V49zu (x33:Int) (h2478 h:Heap) (x31 x32:Int) (x22:ByteArray) (x23 x24:Sl) (x25 x26 x27:Int) (x28 x29:Sl) (p1:Int) (h20:Heap) (x30:Int) (h35:Heap) (x34:Int) (R:Value->Heap->Prop):Prop:=
 Mk x33 x33 1/\Wn h2478 (madeL Pz 4 (x33.toNat)) 4 fun h3021=>Sm [(aS h 3),(aS h 3),(aS h 3),(aS h 3),(aS h 0)] h2478 h3021/\(V49j x31 h3021 h x32 x22 x23 x24 x25 x26 x27 x28 x29 p1 h20 x30 h2478 x33 h35 x34 R)/\V49s x32 h3021 h x31 x22 x23 x24 x25 x26 x27 x28 x29 p1 h20 x30 h2478 x33 h35 x34 R
def V49zv (x31:Int) (h850 h:Heap) (x33 x34:Int) (x22:ByteArray) (x23 x24:Sl) (x25 x26 x27:Int) (x28 x29:Sl) (p1:Int) (h20:Heap) (x30:Int) (h35:Heap) (x32:Int) (R:Value->Heap->Prop):Prop:=
 Mk x31 x31 32/\Wn h850 (madeL Pz 192 (x31.toNat)) 192 fun h851=>Sm [(aS h 3),(aS h 3),(aS h 3),(aS h 3),(aS h 0)] h850 h851/\(V49z x33 h851 h x34 x22 x23 x24 x25 x26 x27 x28 x29 p1 h20 x30 h850 x31 h35 x32 R)/\V49v x34 h851 h x33 x22 x23 x24 x25 x26 x27 x28 x29 p1 h20 x30 h850 x31 h35 x32 R
def V49zw (x33:Int) (h850 h:Heap) (x31 x34:Int) (x22:ByteArray) (x23 x24:Sl) (x25 x26 x27:Int) (x28 x29:Sl) (p1:Int) (h20:Heap) (x30:Int) (h35:Heap) (x32:Int) (R:Value->Heap->Prop):Prop:=
 Mk x33 x33 1/\Wn h850 (madeL Pz 4 (x33.toNat)) 4 fun h1122=>Sm [(aS h 3),(aS h 3),(aS h 3),(aS h 3),(aS h 0)] h850 h1122/\(V49g x31 h1122 h x34 x22 x23 x24 x25 x26 x27 x28 x29 p1 h20 x30 h35 x32 h850 x33 R)/\V49h x34 h1122 h x31 x22 x23 x24 x25 x26 x27 x28 x29 p1 h20 x30 h35 x32 h850 x33 R
def V49zx (x34:Int) (h36 h:Heap) (x32 x33:Int) (x22:ByteArray) (x23 x24:Sl) (x25 x26 x27:Int) (x28 x29:Sl) (p1:Int) (h20:Heap) (x30:Int) (h35:Heap) (x31:Int) (R:Value->Heap->Prop):Prop:=
 Mk x34 x34 24/\Wn h36 (madeL Pz 274 (x34.toNat)) 274 fun h579=>Sm [(aS h 3),(aS h 3),(aS h 3),(aS h 3),(aS h 0)] h36 h579/\(V49x x32 h579 h x33 x22 x23 x24 x25 x26 x27 x28 x29 p1 h20 x30 h35 x31 h36 x34 R)/\V49y x33 h579 h x32 x22 x23 x24 x25 x26 x27 x28 x29 p1 h20 x30 h35 x31 h36 x34 R
def V49zy (x33:Int) (h4107 h:Heap) (x30 x34:Int) (x22:ByteArray) (x23 x24:Sl) (x25 x26 x27:Int) (x28 x29:Sl) (p1:Int) (h20:Heap) (x31:Int) (h3292:Heap) (x32:Int) (R:Value->Heap->Prop):Prop:=
 Mk x33 x33 1/\Wn h4107 (madeL Pz 4 (x33.toNat)) 4 fun h4379=>Sm [(aS h 3),(aS h 3),(aS h 3),(aS h 3),(aS h 0)] h4107 h4379/\(V49k x30 h4379 h x34 x22 x23 x24 x25 x26 x27 x28 x29 p1 h20 x31 h3292 x32 h4107 x33 R)/\V49l x34 h4379 h x30 x22 x23 x24 x25 x26 x27 x28 x29 p1 h20 x31 h3292 x32 h4107 x33 R
def V49zz (x32:Int) (h4921 h:Heap) (x30 x34:Int) (x22:ByteArray) (x23 x24:Sl) (x25 x26 x27:Int) (x28 x29:Sl) (p1:Int) (h20:Heap) (x31:Int) (h3292:Heap) (x33:Int) (R:Value->Heap->Prop):Prop:=
 Mk x32 x32 1/\Wn h4921 (madeL Pz 4 (x32.toNat)) 4 fun h5193=>Sm [(aS h 3),(aS h 3),(aS h 3),(aS h 3),(aS h 0)] h4921 h5193/\(V49k x30 h5193 h x34 x22 x23 x24 x25 x26 x27 x28 x29 p1 h20 x31 h4921 x32 h3292 x33 R)/\V49l x34 h5193 h x30 x22 x23 x24 x25 x26 x27 x28 x29 p1 h20 x31 h4921 x32 h3292 x33 R
def V49zza (x32:Int) (h5735 h:Heap) (x30 x33:Int) (x22:ByteArray) (x23 x24:Sl) (x25 x26 x27:Int) (x28 x29:Sl) (p1:Int) (h20:Heap) (x31:Int) (h3292:Heap) (x34:Int) (R:Value->Heap->Prop):Prop:=
 Mk x32 x32 1/\Wn h5735 (madeL Pz 4 (x32.toNat)) 4 fun h6007=>Sm [(aS h 3),(aS h 3),(aS h 3),(aS h 3),(aS h 0)] h5735 h6007/\(V49m x30 h6007 h x33 x22 x23 x24 x25 x26 x27 x28 x29 p1 h20 x31 h5735 x32 h3292 x34 R)/\V49t x33 h6007 h x30 x22 x23 x24 x25 x26 x27 x28 x29 p1 h20 x31 h5735 x32 h3292 x34 R
def V49zzb (x33:Int) (h5735 h:Heap) (x30 x32:Int) (x22:ByteArray) (x23 x24:Sl) (x25 x26 x27:Int) (x28 x29:Sl) (p1:Int) (h20:Heap) (x31:Int) (h3292:Heap) (x34:Int) (R:Value->Heap->Prop):Prop:=
 Mk x33 x33 1/\Wn h5735 (madeL Pz 4 (x33.toNat)) 4 fun h6278=>Sm [(aS h 3),(aS h 3),(aS h 3),(aS h 3),(aS h 0)] h5735 h6278/\(V49n x30 h6278 h x32 x22 x23 x24 x25 x26 x27 x28 x29 p1 h20 x31 h5735 x33 h3292 x34 R)/\V49u x32 h6278 h x30 x22 x23 x24 x25 x26 x27 x28 x29 p1 h20 x31 h5735 x33 h3292 x34 R
def V49zzc (x33:Int) (h8992 h:Heap) (x30 x31:Int) (x22:ByteArray) (x23 x24:Sl) (x25 x26 x27:Int) (x28 x29:Sl) (p1:Int) (h20:Heap) (x32:Int) (h6549:Heap) (x34:Int) (R:Value->Heap->Prop):Prop:=
 Mk x33 x33 1/\Wn h8992 (madeL Pz 4 (x33.toNat)) 4 fun h9535=>Sm [(aS h 3),(aS h 3),(aS h 3),(aS h 3),(aS h 0)] h8992 h9535/\(V49o x30 h9535 h x31 x22 x23 x24 x25 x26 x27 x28 x29 p1 h20 x32 h8992 x33 h6549 x34 R)/\V49p x31 h9535 h x30 x22 x23 x24 x25 x26 x27 x28 x29 p1 h20 x32 h8992 x33 h6549 x34 R
def V49zzd (x33:Int) (h36 h:Heap) (x32 x34:Int) (x22:ByteArray) (x23 x24:Sl) (x25 x26 x27:Int) (x28 x29:Sl) (p1:Int) (h20:Heap) (x30:Int) (h35:Heap) (x31:Int) (R:Value->Heap->Prop):Prop:=
 Mk x33 x33 1/\Wn h36 (madeL Pz 4 (x33.toNat)) 4 fun h308=>Sm [(aS h 3),(aS h 3),(aS h 3),(aS h 3),(aS h 0)] h36 h308/\(V49w x32 h308 h x34 x22 x23 x24 x25 x26 x27 x28 x29 p1 h20 x30 h35 x31 h36 x33 R)/\V49r x34 h308 h x32 x22 x23 x24 x25 x26 x27 x28 x29 p1 h20 x30 h35 x31 h36 x33 R
def V49zze (x32:Int) (h36 h:Heap) (x33 x34:Int) (x22:ByteArray) (x23 x24:Sl) (x25 x26 x27:Int) (x28 x29:Sl) (p1:Int) (h20:Heap) (x30:Int) (h35:Heap) (x31:Int) (R:Value->Heap->Prop):Prop:=
 Mk x32 x32 1/\Wn h36 (madeL Pz 4 (x32.toNat)) 4 fun h37=>Sm [(aS h 3),(aS h 3),(aS h 3),(aS h 3),(aS h 0)] h36 h37/\(V49z x33 h37 h x34 x22 x23 x24 x25 x26 x27 x28 x29 p1 h20 x30 h35 x31 h36 x32 R)/\V49v x34 h37 h x33 x22 x23 x24 x25 x26 x27 x28 x29 p1 h20 x30 h35 x31 h36 x32 R
def V49H0 (x30:Int) (h20:Heap) (h:Heap) (x31 x32 x33 x34:Int) (x22:ByteArray) (x23 x24:Sl) (x25 x26 x27:Int) (x28 x29:Sl) (p1:Int) (R:Value->Heap->Prop):Prop:=
 Mk x30 x30 24/\Wn h20 (madeL Pz 102 (x30.toNat)) 102 fun h35=>Sm [(aS h 3),(aS h 3),(aS h 3),(aS h 3),(aS h 0)] h20 h35/\(Mk x31 x31 32/\Wn h35 (madeL Pz 192 (x31.toNat)) 192 fun h36=>Sm [(aS h 3),(aS h 3),(aS h 3),(aS h 3),(aS h 0)] h35 h36/\(V49zze x32 h36 h x33 x34 x22 x23 x24 x25 x26 x27 x28 x29 p1 h20 x30 h35 x31 R)/\(V49zzd x33 h36 h x32 x34 x22 x23 x24 x25 x26 x27 x28 x29 p1 h20 x30 h35 x31 R)/\V49zx x34 h36 h x32 x33 x22 x23 x24 x25 x26 x27 x28 x29 p1 h20 x30 h35 x31 R)/\(Mk x32 x32 1/\Wn h35 (madeL Pz 4 (x32.toNat)) 4 fun h850=>Sm [(aS h 3),(aS h 3),(aS h 3),(aS h 3),(aS h 0)] h35 h850/\(V49zv x31 h850 h x33 x34 x22 x23 x24 x25 x26 x27 x28 x29 p1 h20 x30 h35 x32 R)/\(V49zw x33 h850 h x31 x34 x22 x23 x24 x25 x26 x27 x28 x29 p1 h20 x30 h35 x32 R)/\V49zg x34 h850 h x31 x33 x22 x23 x24 x25 x26 x27 x28 x29 p1 h20 x30 h35 x32 R)/\(Mk x33 x33 1/\Wn h35 (madeL Pz 4 (x33.toNat)) 4 fun h1664=>Sm [(aS h 3),(aS h 3),(aS h 3),(aS h 3),(aS h 0)] h35 h1664/\(V49zd x31 h1664 h x32 x34 x22 x23 x24 x25 x26 x27 x28 x29 p1 h20 x30 h35 x33 R)/\(V49zs x32 h1664 h x31 x34 x22 x23 x24 x25 x26 x27 x28 x29 p1 h20 x30 h35 x33 R)/\V49ze x34 h1664 h x31 x32 x22 x23 x24 x25 x26 x27 x28 x29 p1 h20 x30 h35 x33 R)/\Mk x34 x34 24/\Wn h35 (madeL Pz 274 (x34.toNat)) 274 fun h2478=>Sm [(aS h 3),(aS h 3),(aS h 3),(aS h 3),(aS h 0)] h35 h2478/\(V49zf x31 h2478 h x32 x33 x22 x23 x24 x25 x26 x27 x28 x29 p1 h20 x30 h35 x34 R)/\(V49zt x32 h2478 h x31 x33 x22 x23 x24 x25 x26 x27 x28 x29 p1 h20 x30 h35 x34 R)/\V49zu x33 h2478 h x31 x32 x22 x23 x24 x25 x26 x27 x28 x29 p1 h20 x30 h35 x34 R
def V49H1 (x31:Int) (h20:Heap) (h:Heap) (x30 x32 x33 x34:Int) (x22:ByteArray) (x23 x24:Sl) (x25 x26 x27:Int) (x28 x29:Sl) (p1:Int) (R:Value->Heap->Prop):Prop:=
 Mk x31 x31 32/\Wn h20 (madeL Pz 192 (x31.toNat)) 192 fun h3292=>Sm [(aS h 3),(aS h 3),(aS h 3),(aS h 3),(aS h 0)] h20 h3292/\(Mk x30 x30 24/\Wn h3292 (madeL Pz 102 (x30.toNat)) 102 fun h3293=>Sm [(aS h 3),(aS h 3),(aS h 3),(aS h 3),(aS h 0)] h3292 h3293/\(V49zze x32 h3293 h x33 x34 x22 x23 x24 x25 x26 x27 x28 x29 p1 h3292 x30 h20 x31 R)/\(V49zzd x33 h3293 h x32 x34 x22 x23 x24 x25 x26 x27 x28 x29 p1 h3292 x30 h20 x31 R)/\V49zx x34 h3293 h x32 x33 x22 x23 x24 x25 x26 x27 x28 x29 p1 h3292 x30 h20 x31 R)/\(Mk x32 x32 1/\Wn h3292 (madeL Pz 4 (x32.toNat)) 4 fun h4107=>Sm [(aS h 3),(aS h 3),(aS h 3),(aS h 3),(aS h 0)] h3292 h4107/\(V49zi x30 h4107 h x33 x34 x22 x23 x24 x25 x26 x27 x28 x29 p1 h20 x31 h3292 x32 R)/\(V49zy x33 h4107 h x30 x34 x22 x23 x24 x25 x26 x27 x28 x29 p1 h20 x31 h3292 x32 R)/\V49zj x34 h4107 h x30 x33 x22 x23 x24 x25 x26 x27 x28 x29 p1 h20 x31 h3292 x32 R)/\(Mk x33 x33 1/\Wn h3292 (madeL Pz 4 (x33.toNat)) 4 fun h4921=>Sm [(aS h 3),(aS h 3),(aS h 3),(aS h 3),(aS h 0)] h3292 h4921/\(V49zk x30 h4921 h x32 x34 x22 x23 x24 x25 x26 x27 x28 x29 p1 h20 x31 h3292 x33 R)/\(V49zz x32 h4921 h x30 x34 x22 x23 x24 x25 x26 x27 x28 x29 p1 h20 x31 h3292 x33 R)/\V49zl x34 h4921 h x30 x32 x22 x23 x24 x25 x26 x27 x28 x29 p1 h20 x31 h3292 x33 R)/\Mk x34 x34 24/\Wn h3292 (madeL Pz 274 (x34.toNat)) 274 fun h5735=>Sm [(aS h 3),(aS h 3),(aS h 3),(aS h 3),(aS h 0)] h3292 h5735/\(V49zm x30 h5735 h x32 x33 x22 x23 x24 x25 x26 x27 x28 x29 p1 h20 x31 h3292 x34 R)/\(V49zza x32 h5735 h x30 x33 x22 x23 x24 x25 x26 x27 x28 x29 p1 h20 x31 h3292 x34 R)/\V49zzb x33 h5735 h x30 x32 x22 x23 x24 x25 x26 x27 x28 x29 p1 h20 x31 h3292 x34 R
def V49H2 (x32:Int) (h20:Heap) (h:Heap) (x30 x31 x33 x34:Int) (x22:ByteArray) (x23 x24:Sl) (x25 x26 x27:Int) (x28 x29:Sl) (p1:Int) (R:Value->Heap->Prop):Prop:=
 Mk x32 x32 1/\Wn h20 (madeL Pz 4 (x32.toNat)) 4 fun h6549=>Sm [(aS h 3),(aS h 3),(aS h 3),(aS h 3),(aS h 0)] h20 h6549/\(Mk x30 x30 24/\Wn h6549 (madeL Pz 102 (x30.toNat)) 102 fun h6550=>Sm [(aS h 3),(aS h 3),(aS h 3),(aS h 3),(aS h 0)] h6549 h6550/\(V49zv x31 h6550 h x33 x34 x22 x23 x24 x25 x26 x27 x28 x29 p1 h6549 x30 h20 x32 R)/\(V49zw x33 h6550 h x31 x34 x22 x23 x24 x25 x26 x27 x28 x29 p1 h6549 x30 h20 x32 R)/\V49zg x34 h6550 h x31 x33 x22 x23 x24 x25 x26 x27 x28 x29 p1 h6549 x30 h20 x32 R)/\(Mk x31 x31 32/\Wn h6549 (madeL Pz 192 (x31.toNat)) 192 fun h7364=>Sm [(aS h 3),(aS h 3),(aS h 3),(aS h 3),(aS h 0)] h6549 h7364/\(V49zi x30 h7364 h x33 x34 x22 x23 x24 x25 x26 x27 x28 x29 p1 h6549 x31 h20 x32 R)/\(V49zy x33 h7364 h x30 x34 x22 x23 x24 x25 x26 x27 x28 x29 p1 h6549 x31 h20 x32 R)/\V49zj x34 h7364 h x30 x33 x22 x23 x24 x25 x26 x27 x28 x29 p1 h6549 x31 h20 x32 R)/\(Mk x33 x33 1/\Wn h6549 (madeL Pz 4 (x33.toNat)) 4 fun h8178=>Sm [(aS h 3),(aS h 3),(aS h 3),(aS h 3),(aS h 0)] h6549 h8178/\(V49zn x30 h8178 h x31 x34 x22 x23 x24 x25 x26 x27 x28 x29 p1 h20 x32 h6549 x33 R)/\(V49zo x31 h8178 h x30 x34 x22 x23 x24 x25 x26 x27 x28 x29 p1 h20 x32 h6549 x33 R)/\V49zp x34 h8178 h x30 x31 x22 x23 x24 x25 x26 x27 x28 x29 p1 h20 x32 h6549 x33 R)/\Mk x34 x34 24/\Wn h6549 (madeL Pz 274 (x34.toNat)) 274 fun h8992=>Sm [(aS h 3),(aS h 3),(aS h 3),(aS h 3),(aS h 0)] h6549 h8992/\(V49zq x30 h8992 h x31 x33 x22 x23 x24 x25 x26 x27 x28 x29 p1 h20 x32 h6549 x34 R)/\(V49zr x31 h8992 h x30 x33 x22 x23 x24 x25 x26 x27 x28 x29 p1 h20 x32 h6549 x34 R)/\V49zzc x33 h8992 h x30 x31 x22 x23 x24 x25 x26 x27 x28 x29 p1 h20 x32 h6549 x34 R
def V49H3 (x33:Int) (h20:Heap) (h:Heap) (x30 x31 x32 x34:Int) (x22:ByteArray) (x23 x24:Sl) (x25 x26 x27:Int) (x28 x29:Sl) (p1:Int) (R:Value->Heap->Prop):Prop:=
 Mk x33 x33 1/\Wn h20 (madeL Pz 4 (x33.toNat)) 4 fun h9806=>Sm [(aS h 3),(aS h 3),(aS h 3),(aS h 3),(aS h 0)] h20 h9806/\(Mk x30 x30 24/\Wn h9806 (madeL Pz 102 (x30.toNat)) 102 fun h9807=>Sm [(aS h 3),(aS h 3),(aS h 3),(aS h 3),(aS h 0)] h9806 h9807/\(V49zd x31 h9807 h x32 x34 x22 x23 x24 x25 x26 x27 x28 x29 p1 h9806 x30 h20 x33 R)/\(V49zs x32 h9807 h x31 x34 x22 x23 x24 x25 x26 x27 x28 x29 p1 h9806 x30 h20 x33 R)/\V49ze x34 h9807 h x31 x32 x22 x23 x24 x25 x26 x27 x28 x29 p1 h9806 x30 h20 x33 R)/\(Mk x31 x31 32/\Wn h9806 (madeL Pz 192 (x31.toNat)) 192 fun h10621=>Sm [(aS h 3),(aS h 3),(aS h 3),(aS h 3),(aS h 0)] h9806 h10621/\(V49zk x30 h10621 h x32 x34 x22 x23 x24 x25 x26 x27 x28 x29 p1 h9806 x31 h20 x33 R)/\(V49zz x32 h10621 h x30 x34 x22 x23 x24 x25 x26 x27 x28 x29 p1 h9806 x31 h20 x33 R)/\V49zl x34 h10621 h x30 x32 x22 x23 x24 x25 x26 x27 x28 x29 p1 h9806 x31 h20 x33 R)/\(Mk x32 x32 1/\Wn h9806 (madeL Pz 4 (x32.toNat)) 4 fun h11435=>Sm [(aS h 3),(aS h 3),(aS h 3),(aS h 3),(aS h 0)] h9806 h11435/\(V49zn x30 h11435 h x31 x34 x22 x23 x24 x25 x26 x27 x28 x29 p1 h9806 x32 h20 x33 R)/\(V49zo x31 h11435 h x30 x34 x22 x23 x24 x25 x26 x27 x28 x29 p1 h9806 x32 h20 x33 R)/\V49zp x34 h11435 h x30 x31 x22 x23 x24 x25 x26 x27 x28 x29 p1 h9806 x32 h20 x33 R)/\Mk x34 x34 24/\Wn h9806 (madeL Pz 274 (x34.toNat)) 274 fun h12249=>Sm [(aS h 3),(aS h 3),(aS h 3),(aS h 3),(aS h 0)] h9806 h12249/\(V49zb x30 h12249 h x31 x32 x22 x23 x24 x25 x26 x27 x28 x29 p1 h20 x33 h9806 x34 R)/\(V49zc x31 h12249 h x30 x32 x22 x23 x24 x25 x26 x27 x28 x29 p1 h20 x33 h9806 x34 R)/\V49zh x32 h12249 h x30 x31 x22 x23 x24 x25 x26 x27 x28 x29 p1 h20 x33 h9806 x34 R
def V49H4 (x34:Int) (h20:Heap) (h:Heap) (x30 x31 x32 x33:Int) (x22:ByteArray) (x23 x24:Sl) (x25 x26 x27:Int) (x28 x29:Sl) (p1:Int) (R:Value->Heap->Prop):Prop:=
 Mk x34 x34 24/\Wn h20 (madeL Pz 274 (x34.toNat)) 274 fun h13063=>Sm [(aS h 3),(aS h 3),(aS h 3),(aS h 3),(aS h 0)] h20 h13063/\(Mk x30 x30 24/\Wn h13063 (madeL Pz 102 (x30.toNat)) 102 fun h13064=>Sm [(aS h 3),(aS h 3),(aS h 3),(aS h 3),(aS h 0)] h13063 h13064/\(V49zf x31 h13064 h x32 x33 x22 x23 x24 x25 x26 x27 x28 x29 p1 h13063 x30 h20 x34 R)/\(V49zt x32 h13064 h x31 x33 x22 x23 x24 x25 x26 x27 x28 x29 p1 h13063 x30 h20 x34 R)/\V49zu x33 h13064 h x31 x32 x22 x23 x24 x25 x26 x27 x28 x29 p1 h13063 x30 h20 x34 R)/\(Mk x31 x31 32/\Wn h13063 (madeL Pz 192 (x31.toNat)) 192 fun h13878=>Sm [(aS h 3),(aS h 3),(aS h 3),(aS h 3),(aS h 0)] h13063 h13878/\(V49zm x30 h13878 h x32 x33 x22 x23 x24 x25 x26 x27 x28 x29 p1 h13063 x31 h20 x34 R)/\(V49zza x32 h13878 h x30 x33 x22 x23 x24 x25 x26 x27 x28 x29 p1 h13063 x31 h20 x34 R)/\V49zzb x33 h13878 h x30 x32 x22 x23 x24 x25 x26 x27 x28 x29 p1 h13063 x31 h20 x34 R)/\(Mk x32 x32 1/\Wn h13063 (madeL Pz 4 (x32.toNat)) 4 fun h14692=>Sm [(aS h 3),(aS h 3),(aS h 3),(aS h 3),(aS h 0)] h13063 h14692/\(V49zq x30 h14692 h x31 x33 x22 x23 x24 x25 x26 x27 x28 x29 p1 h13063 x32 h20 x34 R)/\(V49zr x31 h14692 h x30 x33 x22 x23 x24 x25 x26 x27 x28 x29 p1 h13063 x32 h20 x34 R)/\V49zzc x33 h14692 h x30 x31 x22 x23 x24 x25 x26 x27 x28 x29 p1 h13063 x32 h20 x34 R)/\Mk x33 x33 1/\Wn h13063 (madeL Pz 4 (x33.toNat)) 4 fun h15506=>Sm [(aS h 3),(aS h 3),(aS h 3),(aS h 3),(aS h 0)] h13063 h15506/\(V49zb x30 h15506 h x31 x32 x22 x23 x24 x25 x26 x27 x28 x29 p1 h13063 x33 h20 x34 R)/\(V49zc x31 h15506 h x30 x32 x22 x23 x24 x25 x26 x27 x28 x29 p1 h13063 x33 h20 x34 R)/\V49zh x32 h15506 h x30 x31 x22 x23 x24 x25 x26 x27 x28 x29 p1 h13063 x33 h20 x34 R
def W49 (pa:ByteArray) (pb pc:Sl) (pd pe pf:Int) (pg ph:Sl) (p1:Int):Prop:=
 Wn h (L0 pa pb pc pd pe pf pg ph) 27 fun h9=>∃x10 x11 x12 x13 x14 x15 x16 x17,aL0 h9 (aS h 0) x10 x11 x12 x13 x14 x15 x16 x17/\Fn Pz 40 #[.agg ⟨(L0 x10 x11 x12 x13 x14 x15 x16 x17)⟩] h9 (fun v18 h20=>∃x19,iB v18 x19/\sB (!x19) (R (.tuple ⟨[.pointer none,vI 1]⟩) h20) (sB (decide (p1<0)) (R (.tuple ⟨[.pointer none,vI 1]⟩) h20) (∃x21,rS h20 (aS h 1) x21/\sB (decide (p1>=(x21.n:Int))) (R (.tuple ⟨[.pointer none,vI 1]⟩) h20) (∃x22 x23 x24 x25 x26 x27 x28 x29,aL0 h20 (aS h 0) x22 x23 x24 x25 x26 x27 x28 x29/\∃x30,rI h20 (aS h 3) x30/\∃x31,rI h20 (aS h 3) x31/\∃x32,rI h20 (aS h 3) x32/\∃x33,rI h20 (aS h 3) x33/\∃x34,rI h20 (aS h 3) x34/\(V49H0 x30 h20 h x31 x32 x33 x34 x22 x23 x24 x25 x26 x27 x28 x29 p1 R)/\(V49H1 x31 h20 h x30 x32 x33 x34 x22 x23 x24 x25 x26 x27 x28 x29 p1 R)/\(V49H2 x32 h20 h x30 x31 x33 x34 x22 x23 x24 x25 x26 x27 x28 x29 p1 R)/\(V49H3 x33 h20 h x30 x31 x32 x34 x22 x23 x24 x25 x26 x27 x28 x29 p1 R)/\V49H4 x34 h20 h x30 x31 x32 x33 x22 x23 x24 x25 x26 x27 x28 x29 p1 R))))
theorem vc49 (pa:ByteArray) (pb pc:Sl) (pd pe pf:Int) (pg ph:Sl) (p1:Int) (H:@W49 h R pa pb pc pd pe pf pg ph p1):Fn Pz 49 #[.agg ⟨(L0 pa pb pc pd pe pf pg ph)⟩,vI p1] h R:=fnJ (A:=(.s .z (.s .z (.s .z (.s (AI 50) (.s (AI 118) (.s (AI 147) .z))))))) H
def W82 (p0:Addr):Prop:=
 ∃x1,rI h ⟨p0.block,p0.off+3,none⟩ x1 /\
 QI 0 h fun I2 x_5 h6 m4=>
 sB (decide (x_5<x1))
 (∃x7,rS h6 ⟨p0.block,p0.off+9,none⟩ x7 /\
 NB x7.a fun b8 o9=>Ib x_5 x7.n /\
 ∃x10,rS h6 ⟨b8,o9+x_5.toNat*1,none⟩ x10 /\
 QI 0 h6 fun I11 x_14 h15 m13=>
 sB (decide (x_14<(x10.n:Int)))
 (NB x10.a fun b16 o17=>Ib x_14 x10.n /\
 ∃x18,rI h15 ⟨b16,o17+x_14.toNat*1,none⟩ x18 /\
 ∃x19,rS h15 ⟨p0.block,p0.off+6,none⟩ x19 /\
 NB x19.a fun b20 o21=>Ib x18 x19.n /\
 ∃x22,rI h15 ⟨b20,o21+x18.toNat*6+1+1,none⟩ x22 /\
 ∃x23,rI h15 ⟨p0.block,p0.off+8,none⟩ x23 /\
 sB (x22 != x23)
 (∃m24,m24<m13/\I11 (wrap .i64 (x_14+1)) h15 m24)
 (∃x25 x26 x27 x28 x29 x30 x31 x32,aL0 h15 p0 x25 x26 x27 x28 x29 x30 x31 x32 /\
 Fn Pz 31 #[.agg ⟨(L0 x25 x26 x27 x28 x29 x30 x31 x32)⟩,vI x18] h15
 (fun v33 h36=>∃(x34:Sl) (x35:Int),v33=.tuple ⟨[vS x34,vI x35]⟩ /\
 QI 0 h36 fun I37 x_40 h41 m39=>
 sB (decide (x_40<(x34.n:Int)))
 (NB x34.a fun b42 o43=>Ib x_40 x34.n /\
 ∃(x44 x45:Int),atC h41 ⟨b42,o43+x_40.toNat*2,none⟩ [vI x44,vI x45] /\
 Wn h41 [vI 0,vI 0] 72 fun h46=>
 Wp h46 (aS h41 0) 2 [vI x44,vI x45] fun h47=>
 ∃x48,rI h47 (aS h41 0) x48 /\
 ∃x49,rS h47 ⟨p0.block,p0.off+6,none⟩ x49 /\
 NB x49.a fun b50 o51=>Ib x18 x49.n /\
 ∃x52,rI h47 ⟨b50,o51+x18.toNat*6+1,none⟩ x52 /\
 sB (x48==x52)
 (∃m53,m53<m39/\I37 (wrap .i64 (x_40+1)) h47 m53)
 (∃x54 x55 x56 x57 x58 x59 x60 x61,aL0 h47 p0 x54 x55 x56 x57 x58 x59 x60 x61 /\
 ∃(x62 x63:Int),atC h47 (aS h41 0) [vI x62,vI x63] /\
 Fn Pz 32 #[.agg ⟨(L0 x54 x55 x56 x57 x58 x59 x60 x61)⟩,vI x18,.agg ⟨[vI x62,vI x63]⟩] h47
 (fun v64 h67=>∃(x65:Sl) (x66:Int),v64=.tuple ⟨[vS x65,vI x66]⟩ /\
 ∃x68,rS h67 ⟨p0.block,p0.off+14,none⟩ x68 /\
 ∃x69,rS h67 ⟨p0.block,p0.off+14,none⟩ x69 /\
 NB x69.a fun b70 o71=>Ib x_5 x69.n /\
 ∃x72,rS h67 ⟨b70,o71+x_5.toNat*1,none⟩ x72 /\
 ∃(x73 x74:Int),atC h67 (aS h41 0) [vI x73,vI x74] /\
 Wn h67 [vI x18,vI (wrap .i64 (1+(x65.n:Int))),vI x73,vI x74] 276 fun h75=>
 Sm [⟨b70,o71+x_5.toNat*1,none⟩,⟨p0.block,p0.off+14,none⟩,⟨p0.block,p0.off+14,none⟩] h67 h75 /\
 App Pz 274 274 (vS x72) (.slice (some (aS h67 0)) 1 1) h75 fun s76 h77=>
 Sm [⟨p0.block,p0.off+14,none⟩] h75 h77 /\
 NB x68.a fun b78 o79=>Ib x_5 x68.n /\
 Wp h77 ⟨b78,o79+x_5.toNat*1,none⟩ 1 [vS s76] fun h80=>
 ∃m81,m81<m39/\I37 (wrap .i64 (x_40+1)) h80 m81)))
 (∃m82,m82<m13/\I11 (wrap .i64 (x_14+1)) h41 m82))))
 (∃m83,m83<m4/\I2 (wrap .i64 (x_5+1)) h15 m83))
 (R (.tuple ⟨[]⟩) h6)
theorem vc82 (p0:Addr) (H:@W82 h R p0):Fn Pz 82 #[.pointer (some p0)] h R:=fnJ (A:=(.s .z (.b (.l [(16,.one (.int .i64))] (.s .z (.s .z (.s (.b (.s .z (.s .z (.b (.l [(27,.one (.int .i64))] (.s .z (.s .z (.s (.b (.s .z (.s .z (.s .z (AI 57))))) .z)))))))) .z))))))) H
def V96c (p1:Int) (h50:Heap) (h6:Heap) (p0:Addr) (h16:Heap) (h:Heap) (R:Value->Heap->Prop) (x15:Int):Prop:=
 sB (p1==1)
 (∃(x51 x52:Int),atC h50 (aS h6 0) [vI x51,vI x52] /\
 Fn Pz 170 #[.pointer (some p0),.agg ⟨[vI x51,vI x52]⟩] h50
 (fun v53 h58=>∃(x54:Bool) (x55 x56:Int) (x57:Bool),v53=.tuple ⟨[.agg ⟨(L1 x54 x55 x56)⟩,.bool x57]⟩ /\
 Wn h58 [.bool false,vI 0,vI 0] 188 fun h59=>
 Wp h59 (aS h58 0) 3 (L1 x54 x55 x56) fun h60=>
 ∃x61 x62 x63,aL1 h60 (aS h58 0) x61 x62 x63 /\
 Fn Pz 171 #[.pointer (some p0),.agg ⟨(L1 x61 x62 x63)⟩] h60
 (fun v64 h70=>∃(x65:Int) (x66:Bool) (x67 x68:Int) (x69:Sl),v64=.agg ⟨(L6 x65 x66 x67 x68 x69)⟩ /\
 Wp h70 (aS h16 4) 5 (L6 x65 x66 x67 x68 x69) fun h71=>
 ∃x72 x73 x74 x75 x76 x77 x78 x79 x80 x81 x82 x83 x84 x85,aL2 h71 (aS h16 0) x72 x73 x74 x75 x76 x77 x78 x79 x80 x81 x82 x83 x84 x85 /\
 Wp h71 (aS h 0) 14 (L2 x72 x73 x74 x75 x76 x77 x78 x79 x80 x81 x82 x83 x84 x85) fun h86=>
 ∃x87 x88 x89 x90 x91 x92 x93 x94 x95 x96 x97 x98 x99 x100,aL2 h86 (aS h 0) x87 x88 x89 x90 x91 x92 x93 x94 x95 x96 x97 x98 x99 x100 /\
 R (.tuple ⟨[.agg ⟨(L2 x87 x88 x89 x90 x91 x92 x93 x94 x95 x96 x97 x98 x99 x100)⟩,vI x15]⟩) h86)))
 (sB (p1==4)
 (∃(x101 x102:Int),atC h50 (aS h6 0) [vI x101,vI x102] /\
 Fn Pz 152 #[.pointer (some p0),.agg ⟨[vI x101,vI x102]⟩] h50
 (fun v103 h109=>∃(x104 x105 x106 x107:Int) (x108:Bool),v103=.tuple ⟨[.agg ⟨(L5 x104 x105 x106 x107)⟩,.bool x108]⟩ /\
 Wn h109 [vI 0,vI 0,vI 0,vI 0] 276 fun h110=>
 Wp h110 (aS h109 0) 4 (L5 x104 x105 x106 x107) fun h111=>
 ∃x112 x113 x114 x115 x116 x117 x118 x119,aL0 h111 p0 x112 x113 x114 x115 x116 x117 x118 x119 /\
 ∃x120,rI h111 (aS h109 0) x120 /\
 ∃(x121 x122:Int),atC h111 (aS h109 2) [vI x121,vI x122] /\
 Fn Pz 32 #[.agg ⟨(L0 x112 x113 x114 x115 x116 x117 x118 x119)⟩,vI x120,.agg ⟨[vI x121,vI x122]⟩] h111
 (fun v123 h126=>∃(x124:Sl) (x125:Int),v123=.tuple ⟨[vS x124,vI x125]⟩ /\
 ∃x127,rS h126 ⟨p0.block,p0.off+6,none⟩ x127 /\
 ∃x128,rI h126 (aS h109 0) x128 /\
 NB x127.a fun b129 o130=>Ib x128 x127.n /\
 ∃x131 x132 x133,aL4 h126 ⟨b129,o130+x128.toNat*6+1,none⟩ x131 x132 x133 /\
 Wn h126 [vI 0,vI 0,vI 0] 65 fun h134=>
 Sm [⟨b129,o130+x128.toNat*6+1,none⟩,(aS h109 0),⟨p0.block,p0.off+6,none⟩] h126 h134 /\
 Wp h134 (aS h126 0) 3 (L4 x131 x132 x133) fun h135=>
 ∃x136,rS h135 (aS h16 2) x136 /\
 ∃x137 x138 x139,aL4 h135 (aS h126 0) x137 x138 x139 /\
 Wn h135 (L4 x137 x138 x139) 65 fun h140=>
 App Pz 30 30 (vS x136) (.slice (some (aS h135 0)) 1 1) h140 fun s141 h142=>
 App Pz 30 30 (vS s141) (vS x124) h142 fun s143 h144=>
 Wp h144 (aS h16 2) 1 [vS s143] fun h145=>
 ∃x146,rI h145 (aS h109 2) x146 /\
 ∃x147,rI h145 (aS h109 (2+1)) x147 /\
 Fn Pz 171 #[.pointer (some p0),.agg ⟨[.bool false,vI x146,vI x147]⟩] h145
 (fun v148 h154=>∃(x149:Int) (x150:Bool) (x151 x152:Int) (x153:Sl),v148=.agg ⟨(L6 x149 x150 x151 x152 x153)⟩ /\
 Wp h154 (aS h16 4) 5 (L6 x149 x150 x151 x152 x153) fun h155=>
 ∃x156,rI h155 (aS h126 0) x156 /\
 ∃x157,rI h155 (aS h126 2) x157 /\
 Fn Pz 171 #[.pointer (some p0),.agg ⟨[.bool false,vI x156,vI x157]⟩] h155
 (fun v158 h164=>∃(x159:Int) (x160:Bool) (x161 x162:Int) (x163:Sl),v158=.agg ⟨(L6 x159 x160 x161 x162 x163)⟩ /\
 Wp h164 (aS h16 9) 5 (L6 x159 x160 x161 x162 x163) fun h165=>
 ∃x166 x167 x168 x169 x170 x171 x172 x173 x174 x175 x176 x177 x178 x179,aL2 h165 (aS h16 0) x166 x167 x168 x169 x170 x171 x172 x173 x174 x175 x176 x177 x178 x179 /\
 Wp h165 (aS h 0) 14 (L2 x166 x167 x168 x169 x170 x171 x172 x173 x174 x175 x176 x177 x178 x179) fun h180=>
 ∃x181 x182 x183 x184 x185 x186 x187 x188 x189 x190 x191 x192 x193 x194,aL2 h180 (aS h 0) x181 x182 x183 x184 x185 x186 x187 x188 x189 x190 x191 x192 x193 x194 /\
 R (.tuple ⟨[.agg ⟨(L2 x181 x182 x183 x184 x185 x186 x187 x188 x189 x190 x191 x192 x193 x194)⟩,vI x15]⟩) h180)))))
 (∃x195 x196 x197 x198 x199 x200 x201 x202 x203 x204 x205 x206 x207 x208,aL2 h50 (aS h16 0) x195 x196 x197 x198 x199 x200 x201 x202 x203 x204 x205 x206 x207 x208 /\
 Wp h50 (aS h 0) 14 (L2 x195 x196 x197 x198 x199 x200 x201 x202 x203 x204 x205 x206 x207 x208) fun h209=>
 ∃x210 x211 x212 x213 x214 x215 x216 x217 x218 x219 x220 x221 x222 x223,aL2 h209 (aS h 0) x210 x211 x212 x213 x214 x215 x216 x217 x218 x219 x220 x221 x222 x223 /\
 R (.tuple ⟨[.agg ⟨(L2 x210 x211 x212 x213 x214 x215 x216 x217 x218 x219 x220 x221 x222 x223)⟩,vI x15]⟩) h209))
def V96a (h50:Heap) (h6:Heap) (p3:Option Nat) (h4:Heap) (h16:Heap) (p0:Addr) (m37:Nat) (I35:Heap->Nat->Prop):Prop:=
 ∃(x224 x225:Int),atC h50 (aS h6 0) [vI x224,vI x225] /\
 RunW Pz (Instr.lookup 93 (.map p3) (.agg ⟨[vI x224,vI x225]⟩) false) h50
 (fun v226 h228=>∃x227,iS v226 x227 /\
 Fn Pz 167 #[vS x227,.func (.func 168) #[] #[.pointer (some (aS h4 0)),.pointer (some (aS h6 0))]] h228
 (fun v229 h231=>∃x230,iI v229 x230 /\
 NB x227.a fun b232 o233=>Ib x230 x227.n /\
 ∃x234 x235 x236 x237,aL5 h231 ⟨b232,o233+x230.toNat*4,none⟩ x234 x235 x236 x237 /\
 Wn h231 [vI 0,vI 0,vI 0,vI 0] 200 fun h238=>
 Wp h238 (aS h231 0) 4 (L5 x234 x235 x236 x237) fun h239=>
 ∃J240:Heap->Prop,
 (∃x241,rI h239 (aS h231 0) x241 /\
 sB (decide (x241>=0))
 (∃x242,rS h239 (aS h16 2) x242 /\
 ∃x243,rS h239 ⟨p0.block,p0.off+6,none⟩ x243 /\
 ∃x244,rI h239 (aS h231 0) x244 /\
 NB x243.a fun b245 o246=>Ib x244 x243.n /\
 ∃x247 x248 x249,aL4 h239 ⟨b245,o246+x244.toNat*6+1,none⟩ x247 x248 x249 /\
 Wn h239 (L4 x247 x248 x249) 65 fun h250=>
 Sm [(aS h16 2)] h239 h250 /\
 App Pz 30 30 (vS x242) (.slice (some (aS h239 0)) 1 1) h250 fun s251 h252=>
 Wp h252 (aS h16 2) 1 [vS s251] fun h253=>
 J240 h253)
 (J240 h239)) /\
 ∀(_:Env) (h254:Heap),J240 h254 ->
 (∃x255,rI h254 (aS h231 1) x255 /\
 sB (decide (x255>=0))
 (∃x256,rS h254 (aS h16 3) x256 /\
 ∃x257,rS h254 ⟨p0.block,p0.off+6,none⟩ x257 /\
 ∃x258,rI h254 (aS h231 1) x258 /\
 NB x257.a fun b259 o260=>Ib x258 x257.n /\
 ∃x261 x262 x263,aL4 h254 ⟨b259,o260+x258.toNat*6+1,none⟩ x261 x262 x263 /\
 Wn h254 (L4 x261 x262 x263) 65 fun h264=>
 Sm [(aS h16 3)] h254 h264 /\
 App Pz 30 30 (vS x256) (.slice (some (aS h254 0)) 1 1) h264 fun s265 h266=>
 Wp h266 (aS h16 3) 1 [vS s265] fun h267=>
 ∃(x268 x269:Int),atC h267 (aS h231 2) [vI x268,vI x269] /\
 Wp h267 (aS h6 0) 2 [vI x268,vI x269] fun h270=>
 ∃m271,m271<m37/\I35 h270 m271)
 (∃(x272 x273:Int),atC h254 (aS h231 2) [vI x272,vI x273] /\
 Wp h254 (aS h6 0) 2 [vI x272,vI x273] fun h274=>
 ∃m275,m275<m37/\I35 h274 m275))))
def V96b (h44:Heap) (h6:Heap) (p3:Option Nat) (h4:Heap) (h16:Heap) (p0:Addr) (m37:Nat) (I35:Heap->Nat->Prop):Prop:=
 ∃(x276 x277:Int),atC h44 (aS h6 0) [vI x276,vI x277] /\
 RunW Pz (Instr.lookup 93 (.map p3) (.agg ⟨[vI x276,vI x277]⟩) false) h44
 (fun v278 h280=>∃x279,iS v278 x279 /\
 Fn Pz 167 #[vS x279,.func (.func 168) #[] #[.pointer (some (aS h4 0)),.pointer (some (aS h6 0))]] h280
 (fun v281 h283=>∃x282,iI v281 x282 /\
 NB x279.a fun b284 o285=>Ib x282 x279.n /\
 ∃x286 x287 x288 x289,aL5 h283 ⟨b284,o285+x282.toNat*4,none⟩ x286 x287 x288 x289 /\
 Wn h283 [vI 0,vI 0,vI 0,vI 0] 200 fun h290=>
 Wp h290 (aS h283 0) 4 (L5 x286 x287 x288 x289) fun h291=>
 ∃J292:Heap->Prop,
 (∃x293,rI h291 (aS h283 0) x293 /\
 sB (decide (x293>=0))
 (∃x294,rS h291 (aS h16 2) x294 /\
 ∃x295,rS h291 ⟨p0.block,p0.off+6,none⟩ x295 /\
 ∃x296,rI h291 (aS h283 0) x296 /\
 NB x295.a fun b297 o298=>Ib x296 x295.n /\
 ∃x299 x300 x301,aL4 h291 ⟨b297,o298+x296.toNat*6+1,none⟩ x299 x300 x301 /\
 Wn h291 (L4 x299 x300 x301) 65 fun h302=>
 Sm [(aS h16 2)] h291 h302 /\
 App Pz 30 30 (vS x294) (.slice (some (aS h291 0)) 1 1) h302 fun s303 h304=>
 Wp h304 (aS h16 2) 1 [vS s303] fun h305=>
 J292 h305)
 (J292 h291)) /\
 ∀(_:Env) (h306:Heap),J292 h306 ->
 (∃x307,rI h306 (aS h283 1) x307 /\
 sB (decide (x307>=0))
 (∃x308,rS h306 (aS h16 3) x308 /\
 ∃x309,rS h306 ⟨p0.block,p0.off+6,none⟩ x309 /\
 ∃x310,rI h306 (aS h283 1) x310 /\
 NB x309.a fun b311 o312=>Ib x310 x309.n /\
 ∃x313 x314 x315,aL4 h306 ⟨b311,o312+x310.toNat*6+1,none⟩ x313 x314 x315 /\
 Wn h306 (L4 x313 x314 x315) 65 fun h316=>
 Sm [(aS h16 3)] h306 h316 /\
 App Pz 30 30 (vS x308) (.slice (some (aS h306 0)) 1 1) h316 fun s317 h318=>
 Wp h318 (aS h16 3) 1 [vS s317] fun h319=>
 ∃(x320 x321:Int),atC h319 (aS h283 2) [vI x320,vI x321] /\
 Wp h319 (aS h6 0) 2 [vI x320,vI x321] fun h322=>
 ∃m323,m323<m37/\I35 h322 m323)
 (∃(x324 x325:Int),atC h306 (aS h283 2) [vI x324,vI x325] /\
 Wp h306 (aS h6 0) 2 [vI x324,vI x325] fun h326=>
 ∃m327,m327<m37/\I35 h326 m327))))
def W96 (p0:Addr) (p1:Int) (p2:Sl) (p3:Option Nat):Prop:=
 Wn h [vI 0,vI 0,vN,vN,vI 0,.bool false,vI 0,vI 0,vN,vI 0,.bool false,vI 0,vI 0,vN] 35 fun h1=>
 Fn Pz 164 #[.pointer (some p0),vI p1,vS p2,.map p3] h1
 (fun v2 h4=>∃x3:Option Nat,v2=.map x3 /\
 Wn h4 [.map none] 293 fun h5=>
 Wp h5 (aS h4 0) 1 [.map x3] fun h6=>
 ∃x7,rI h6 ⟨p0.block,p0.off+4,none⟩ x7 /\
 ∃x8,rI h6 ⟨p0.block,p0.off+4,none⟩ x8 /\
 Wn h6 [vI 0,vI 0] 97 fun h9=>
 Sm [⟨p0.block,p0.off+4,none⟩,⟨p0.block,p0.off+4,none⟩] h6 h9 /\
 Wp h9 (aS h6 0) 2 [vI x7,vI x8] fun h10=>
 ∃x11:Option Nat,hc h10 (aS h4 0)=some (.map x11) /\
 ∃(x12 x13:Int),atC h10 (aS h6 0) [vI x12,vI x13] /\
 Fn Pz 165 #[.map x11,.agg ⟨[vI x12,vI x13]⟩] h10
 (fun v14 h16=>∃x15,iI v14 x15 /\
 sB (x15==1073741824)
 (Wp h16 (aS h 0) 14 [vI 0,vI 0,vN,vN,vI 0,.bool false,vI 0,vI 0,vN,vI 0,.bool false,vI 0,vI 0,vN] fun h17=>
 ∃x18 x19 x20 x21 x22 x23 x24 x25 x26 x27 x28 x29 x30 x31,aL2 h17 (aS h 0) x18 x19 x20 x21 x22 x23 x24 x25 x26 x27 x28 x29 x30 x31 /\
 R (.tuple ⟨[.agg ⟨(L2 x18 x19 x20 x21 x22 x23 x24 x25 x26 x27 x28 x29 x30 x31)⟩,vI 1073741824]⟩) h17)
 (∃x32,rI h16 ⟨p0.block,p0.off+8,none⟩ x32 /\
 Wn h16 [vI 0,vI 0,vN,vN,vI 0,.bool false,vI 0,vI 0,vN,vI 0,.bool false,vI 0,vI 0,vN] 35 fun h33=>
 Wp h33 (aS h16 0) 14 [vI p1,vI x32,vN,vN,vI 0,.bool false,vI 0,vI 0,vN,vI 0,.bool false,vI 0,vI 0,vN] fun h34=>
 ∃I35:Heap->Nat->Prop,(∃m36,I35 h34 m36) /\
 ∀(_:Env) (h38:Heap) (m37:Nat),I35 h38 m37 ->
 (∃(x39 x40:Int),atC h38 (aS h6 0) [vI x39,vI x40] /\
 Fn Pz 166 #[.pointer (some p0),vI p1,.agg ⟨[vI x39,vI x40]⟩] h38
 (fun v41 h44=>∃(x42:Int) (x43:Bool),v41=.tuple ⟨[vI x42,.bool x43]⟩ /\
 sB x43
 (∃x45:Option Nat,hc h44 (aS h4 0)=some (.map x45) /\
 ∃(x46 x47:Int),atC h44 (aS h6 0) [vI x46,vI x47] /\
 Fn Pz 165 #[.map x45,.agg ⟨[vI x46,vI x47]⟩] h44
 (fun v48 h50=>∃x49,iI v48 x49 /\
 sB (x42==x49)
 (V96c p1 h50 h6 p0 h16 h R x15)
 (V96a h50 h6 p3 h4 h16 p0 m37 I35)))
 (V96b h44 h6 p3 h4 h16 p0 m37 I35))))))
theorem vc96 (p0:Addr) (p1:Int) (p2:Sl) (p3:Option Nat) (H:@W96 h R p0 p1 p2 p3):Fn Pz 96 #[.pointer (some p0),vI p1,vS p2,.map p3] h R:=fnJ (A:=(.s .z (.s .z (.s .z (.s .z (.s .z (.s .z (.s (.b (.l [] (.b (.s .z (.s .z (.s .z (.j [] .z .z))))))) .z)))))))) H
def W172 (p0:Sl) (p1:Value):Prop:=
 QI 0 h fun I1 x_4 h5 m3=>
 sB (decide (x_4<(p0.n:Int)))
 (NB p0.a fun b6 o7=>Ib x_4 p0.n /\
 ∃x8,rI h5 ⟨b6,o7+x_4.toNat*1,none⟩ x8 /\
 match p1 with | .func (.func g9) fa10 fc11=>(bif callable Pz g9 then Fn Pz g9 (fa10 ++ #[vI x8]++fc11) h5
 (fun v12 h14=>∃x13,iB v12 x13 /\
 sB x13
 (R (vI x_4) h14)
 (∃m15,m15<m3/\I1 (wrap .i64 (x_4+1)) h14 m15)) else ExtW Pz g9 (fa10 ++ #[vI x8]++fc11) h5
 (fun v12 h14=>∃x13,iB v12 x13 /\
 sB x13
 (R (vI x_4) h14)
 (∃m15,m15<m3/\I1 (wrap .i64 (x_4+1)) h14 m15))) | _=>False)
 (R (vI (-1)) h5)
theorem vc172 (p0:Sl) (p1:Value) (H:@W172 h R p0 p1):Fn Pz 172 #[vS p0,p1] h R:=fnJ (A:=(.s .z (.s (AI 8) .z))) H
def W173 (p0:Int) (c0:Addr) (c1:Addr) (c2:Addr):Prop:=
 ∃x1,rS h c0 x1 /\
 ∃x2:Option Addr,hc h c1=some (.pointer x2) /\
 NC x2 fun a3=>∃x4,rS h ⟨a3.block,a3.off+6,none⟩ x4 /\
 NB x4.a fun b5 o6=>Ib p0 x4.n /\
 ∃x7,rI h ⟨b5,o6+p0.toNat*6+4,none⟩ x7 /\
 NB x1.a fun b8 o9=>Ib x7 x1.n /\
 ∃x10,rI h ⟨b8,o9+x7.toNat*1,none⟩ x10 /\
 ∃x11,rS h c0 x11 /\
 ∃x12,rI h c2 x12 /\
 NB x11.a fun b13 o14=>Ib x12 x11.n /\
 ∃x15,rI h ⟨b13,o14+x12.toNat*1,none⟩ x15 /\
 R (.bool (x10==(wrap .i64 (x15-1)))) h
theorem vc173 (p0:Int) (c0:Addr) (c1:Addr) (c2:Addr) (H:@W173 h R p0 c0 c1 c2):Fn Pz 173 #[vI p0,.pointer (some c0),.pointer (some c1),.pointer (some c2)] h R:=fnJ (A:=.z) H
def W174 (p0:Sl) (p1:Value):Prop:=
 QI 0 h fun I1 x_4 h5 m3=>
 sB (decide (x_4<(p0.n:Int)))
 (NB p0.a fun b6 o7=>Ib x_4 p0.n /\
 ∃x8 x9 x10,aL1 h5 ⟨b6,o7+x_4.toNat*3,none⟩ x8 x9 x10 /\
 match p1 with | .func (.func g11) fa12 fc13=>(bif callable Pz g11 then Fn Pz g11 (fa12 ++ #[.agg ⟨(L1 x8 x9 x10)⟩]++fc13) h5
 (fun v14 h16=>∃x15,iB v14 x15 /\
 sB x15
 (R (vI x_4) h16)
 (∃m17,m17<m3/\I1 (wrap .i64 (x_4+1)) h16 m17)) else ExtW Pz g11 (fa12 ++ #[.agg ⟨(L1 x8 x9 x10)⟩]++fc13) h5
 (fun v14 h16=>∃x15,iB v14 x15 /\
 sB x15
 (R (vI x_4) h16)
 (∃m17,m17<m3/\I1 (wrap .i64 (x_4+1)) h16 m17))) | _=>False)
 (R (vI (-1)) h5)
theorem vc174 (p0:Sl) (p1:Value) (H:@W174 h R p0 p1):Fn Pz 174 #[vS p0,p1] h R:=fnJ (A:=(.s .z (.s (AI 8) .z))) H
def W175 (pa:Bool) (pb pc:Int):Prop:=
 Wn h (L1 pa pb pc) 188 fun h4=>
 ∃x5,rB h4 (aS h 0) x5 /\
 R (.bool (!x5)) h4
theorem vc175 (pa:Bool) (pb pc:Int) (H:@W175 h R pa pb pc):Fn Pz 175 #[.agg ⟨(L1 pa pb pc)⟩] h R:=fnJ (A:=.z) H
def V97c (h148:Heap) (h:Heap) (h75:Heap) (h114:Heap) (h1:Heap) (R:Value->Heap->Prop) (x139:Int):Prop:=
 ∃x225:Option Addr,hc h148 (aS h 0)=some (.pointer x225) /\
 NC x225 fun a226=>∃x227,rS h148 ⟨a226.block,a226.off+10,none⟩ x227 /\
 ∃x228,rI h148 (aS h75 0) x228 /\
 NB x227.a fun b229 o230=>Ib x228 x227.n /\
 ∃(x231:Sl) (x232:Bool),atC h148 ⟨b229,o230+x228.toNat*2,none⟩ [vS x231,.bool x232] /\
 Wn h148 [vN,.bool false] 195 fun h233=>
 Sm [⟨b229,o230+x228.toNat*2,none⟩,(aS h75 0),⟨a226.block,a226.off+10,none⟩,(aS h 0)] h148 h233 /\
 Wp h233 (aS h148 0) 2 [vS x231,.bool x232] fun h234=>
 ∃x235:Option Addr,hc h234 (aS h 0)=some (.pointer x235) /\
 ∃x236,rS h234 (aS h148 0) x236 /\
 NB x236.a fun b237 o238=>Ib 0 x236.n /\
 ∃x239 x240 x241,aL1 h234 ⟨b237,o238+Int.toNat 0*3,none⟩ x239 x240 x241 /\
 Fn Pz 171 #[.pointer x235,.agg ⟨(L1 x239 x240 x241)⟩] h234
 (fun v242 h248=>∃(x243:Int) (x244:Bool) (x245 x246:Int) (x247:Sl),v242=.agg ⟨(L6 x243 x244 x245 x246 x247)⟩ /\
 Wp h248 (aS h114 4) 5 (L6 x243 x244 x245 x246 x247) fun h249=>
 Wp h249 (aS h114 9) 5 [vI (-1),.bool false,vI 0,vI 0,vN] fun h250=>
 ∃x251,rS h250 (aS h148 0) x251 /\
 Fn Pz 174 #[vS x251,.func (.func 175) #[] #[]] h250
 (fun v252 h254=>∃x253,iI v252 x253 /\
 sB (decide (x253>=0))
 (∃x255:Option Addr,hc h254 (aS h 0)=some (.pointer x255) /\
 ∃x256,rS h254 (aS h148 0) x256 /\
 NB x256.a fun b257 o258=>Ib x253 x256.n /\
 ∃x259 x260 x261,aL1 h254 ⟨b257,o258+x253.toNat*3,none⟩ x259 x260 x261 /\
 Fn Pz 171 #[.pointer x255,.agg ⟨(L1 x259 x260 x261)⟩] h254
 (fun v262 h268=>∃(x263:Int) (x264:Bool) (x265 x266:Int) (x267:Sl),v262=.agg ⟨(L6 x263 x264 x265 x266 x267)⟩ /\
 Wp h268 (aS h114 9) 5 (L6 x263 x264 x265 x266 x267) fun h269=>
 ∃x270 x271 x272 x273 x274 x275 x276 x277 x278 x279 x280 x281 x282 x283,aL2 h269 (aS h114 0) x270 x271 x272 x273 x274 x275 x276 x277 x278 x279 x280 x281 x282 x283 /\
 Wp h269 (aS h1 0) 14 (L2 x270 x271 x272 x273 x274 x275 x276 x277 x278 x279 x280 x281 x282 x283) fun h284=>
 ∃x285 x286 x287 x288 x289 x290 x291 x292 x293 x294 x295 x296 x297 x298,aL2 h284 (aS h1 0) x285 x286 x287 x288 x289 x290 x291 x292 x293 x294 x295 x296 x297 x298 /\
 R (.tuple ⟨[.agg ⟨(L2 x285 x286 x287 x288 x289 x290 x291 x292 x293 x294 x295 x296 x297 x298)⟩,vI (wrap .i64 (2*x139))]⟩) h284))
 (∃x299 x300 x301 x302 x303 x304 x305 x306 x307 x308 x309 x310 x311 x312,aL2 h254 (aS h114 0) x299 x300 x301 x302 x303 x304 x305 x306 x307 x308 x309 x310 x311 x312 /\
 Wp h254 (aS h1 0) 14 (L2 x299 x300 x301 x302 x303 x304 x305 x306 x307 x308 x309 x310 x311 x312) fun h313=>
 ∃x314 x315 x316 x317 x318 x319 x320 x321 x322 x323 x324 x325 x326 x327,aL2 h313 (aS h1 0) x314 x315 x316 x317 x318 x319 x320 x321 x322 x323 x324 x325 x326 x327 /\
 R (.tuple ⟨[.agg ⟨(L2 x314 x315 x316 x317 x318 x319 x320 x321 x322 x323 x324 x325 x326 x327)⟩,vI (wrap .i64 (2*x139))]⟩) h313)))
def V97s (h148:Heap) (h:Heap) (h75:Heap) (h10:Heap) (h114:Heap) (m147:Nat) (I145:Heap->Nat->Prop):Prop:=
 ∃x154:Option Addr,hc h148 (aS h 0)=some (.pointer x154) /\
 NC x154 fun a155=>∃x156,rS h148 ⟨a155.block,a155.off+6,none⟩ x156 /\
 ∃x157:Option Addr,hc h148 (aS h 0)=some (.pointer x157) /\
 NC x157 fun a158=>∃x159,rS h148 ⟨a158.block,a158.off+9,none⟩ x159 /\
 ∃x160,rI h148 (aS h75 0) x160 /\
 NB x159.a fun b161 o162=>Ib x160 x159.n /\
 ∃x163,rS h148 ⟨b161,o162+x160.toNat*1,none⟩ x163 /\
 ∃x164:Option Addr,hc h148 (aS h 0)=some (.pointer x164) /\
 NC x164 fun a165=>∃x166,rS h148 ⟨a165.block,a165.off+9,none⟩ x166 /\
 ∃x167,rI h148 (aS h75 0) x167 /\
 NB x166.a fun b168 o169=>Ib x167 x166.n /\
 ∃x170,rS h148 ⟨b168,o169+x167.toNat*1,none⟩ x170 /\
 (Fn Pz 172 #[vS x170,.func (.func 173) #[] #[.pointer (some (aS h10 0)),.pointer (some (aS h 0)),.pointer (some (aS h75 0))]] h148
 (fun v171 h173=>∃x172,iI v171 x172 /\
 Sm [⟨b161,o162+x160.toNat*1,none⟩,(aS h75 0),⟨a158.block,a158.off+9,none⟩,(aS h 0),⟨a155.block,a155.off+6,none⟩,(aS h 0)] h148 h173 /\
 NB x163.a fun b174 o175=>Ib x172 x163.n /\
 ∃x176,rI h173 ⟨b174,o175+x172.toNat*1,none⟩ x176 /\
 NB x156.a fun b177 o178=>Ib x176 x156.n /\
 ∃x179 x180 x181 x182 x183 x184,aL3 h173 ⟨b177,o178+x176.toNat*6,none⟩ x179 x180 x181 x182 x183 x184 /\
 Wn h173 [vI 0,vI 0,vI 0,vI 0,vI 0,.bool false] 67 fun h185=>
 Sm [⟨b177,o178+x176.toNat*6,none⟩,⟨b174,o175+x172.toNat*1,none⟩,⟨b168,o169+x167.toNat*1,none⟩,(aS h75 0),⟨a165.block,a165.off+9,none⟩,(aS h 0),⟨b161,o162+x160.toNat*1,none⟩,(aS h75 0),⟨a158.block,a158.off+9,none⟩,(aS h 0),⟨a155.block,a155.off+6,none⟩,(aS h 0)] h173 h185 /\
 Wp h185 (aS h173 0) 6 (L3 x179 x180 x181 x182 x183 x184) fun h186=>
 ∃x187,rS h186 (aS h114 2) x187 /\
 ∃x188 x189 x190,aL4 h186 (aS h173 1) x188 x189 x190 /\
 Wn h186 (L4 x188 x189 x190) 65 fun h191=>
 App Pz 30 30 (vS x187) (.slice (some (aS h186 0)) 1 1) h191 fun s192 h193=>
 Wp h193 (aS h114 2) 1 [vS s192] fun h194=>
 ∃x195,rI h194 (aS h173 4) x195 /\
 Wp h194 (aS h75 0) 1 [vI x195] fun h196=>
 ∃m197,m197<m147/\I145 h196 m197))/\Wn h148 [vI 0,vI 0,vI 0,vI 0,vI 0,.bool false] 67 fun h198=>
 Sm [⟨b168,o169+x167.toNat*1,none⟩,(aS h75 0),⟨a165.block,a165.off+9,none⟩,(aS h 0),⟨b161,o162+x160.toNat*1,none⟩,(aS h75 0),⟨a158.block,a158.off+9,none⟩,(aS h 0),⟨a155.block,a155.off+6,none⟩,(aS h 0)] h148 h198 /\
 Fn Pz 172 #[vS x170,.func (.func 173) #[] #[.pointer (some (aS h10 0)),.pointer (some (aS h 0)),.pointer (some (aS h75 0))]] h198
 (fun v199 h201=>∃x200,iI v199 x200 /\
 Sm [⟨b161,o162+x160.toNat*1,none⟩,(aS h75 0),⟨a158.block,a158.off+9,none⟩,(aS h 0),⟨a155.block,a155.off+6,none⟩,(aS h 0)] h198 h201 /\
 NB x163.a fun b202 o203=>Ib x200 x163.n /\
 ∃x204,rI h201 ⟨b202,o203+x200.toNat*1,none⟩ x204 /\
 NB x156.a fun b205 o206=>Ib x204 x156.n /\
 ∃x207 x208 x209 x210 x211 x212,aL3 h201 ⟨b205,o206+x204.toNat*6,none⟩ x207 x208 x209 x210 x211 x212 /\
 Wp h201 (aS h148 0) 6 (L3 x207 x208 x209 x210 x211 x212) fun h213=>
 ∃x214,rS h213 (aS h114 2) x214 /\
 ∃x215 x216 x217,aL4 h213 (aS h148 1) x215 x216 x217 /\
 Wn h213 (L4 x215 x216 x217) 65 fun h218=>
 App Pz 30 30 (vS x214) (.slice (some (aS h213 0)) 1 1) h218 fun s219 h220=>
 Wp h220 (aS h114 2) 1 [vS s219] fun h221=>
 ∃x222,rI h221 (aS h148 4) x222 /\
 Wp h221 (aS h75 0) 1 [vI x222] fun h223=>
 ∃m224,m224<m147/\I145 h223 m224)
def V97b (h75:Heap) (h:Heap) (h10:Heap) (h1:Heap) (R:Value->Heap->Prop):Prop:=
 ∃x110:Option Addr,hc h75 (aS h 0)=some (.pointer x110) /\
 NC x110 fun a111=>∃x112,rI h75 ⟨a111.block,a111.off+4,none⟩ x112 /\
 Wn h75 [vI 0] 3 fun h113=>
 Wp h113 (aS h75 0) 1 [vI x112] fun h114=>
 ∃x115,rS h114 (aS h10 0) x115 /\
 ∃x116,rI h114 (aS h75 0) x116 /\
 NB x115.a fun b117 o118=>Ib x116 x115.n /\
 ∃x119,rI h114 ⟨b117,o118+x116.toNat*1,none⟩ x119 /\
 sB (x119==1073741824)
 (Wp h114 (aS h1 0) 14 [vI 0,vI 0,vN,vN,vI 0,.bool false,vI 0,vI 0,vN,vI 0,.bool false,vI 0,vI 0,vN] fun h120=>
 ∃x121 x122 x123 x124 x125 x126 x127 x128 x129 x130 x131 x132 x133 x134,aL2 h120 (aS h1 0) x121 x122 x123 x124 x125 x126 x127 x128 x129 x130 x131 x132 x133 x134 /\
 R (.tuple ⟨[.agg ⟨(L2 x121 x122 x123 x124 x125 x126 x127 x128 x129 x130 x131 x132 x133 x134)⟩,vI 1073741824]⟩) h120)
 (∃x135,rS h114 (aS h10 0) x135 /\
 ∃x136,rI h114 (aS h75 0) x136 /\
 NB x135.a fun b137 o138=>Ib x136 x135.n /\
 ∃x139,rI h114 ⟨b137,o138+x136.toNat*1,none⟩ x139 /\
 ∃x140:Option Addr,hc h114 (aS h 0)=some (.pointer x140) /\
 NC x140 fun a141=>∃x142,rI h114 ⟨a141.block,a141.off+8,none⟩ x142 /\
 Wn h114 [vI 0,vI 0,vN,vN,vI 0,.bool false,vI 0,vI 0,vN,vI 0,.bool false,vI 0,vI 0,vN] 35 fun h143=>
 Wp h143 (aS h114 0) 14 [vI 2,vI x142,vN,vN,vI 0,.bool false,vI 0,vI 0,vN,vI 0,.bool false,vI 0,vI 0,vN] fun h144=>
 ∃I145:Heap->Nat->Prop,(∃m146,I145 h144 m146) /\
 ∀(_:Env) (h148:Heap) (m147:Nat),I145 h148 m147 ->
 (∃x149,rS h148 (aS h10 0) x149 /\
 ∃x150,rI h148 (aS h75 0) x150 /\
 NB x149.a fun b151 o152=>Ib x150 x149.n /\
 ∃x153,rI h148 ⟨b151,o152+x150.toNat*1,none⟩ x153 /\
 sB (decide (x153>0))
 (V97s h148 h h75 h10 h114 m147 I145)
 (V97c h148 h h75 h114 h1 R x139)))
def V97q (queue_73:Sl) (h75:Heap) (x79:Sl) (h10:Heap) (head_74:Int) (m72:Nat) (I70:Sl->Int->Heap->Nat->Prop):Prop:=
 QSI queue_73 0 h75 fun I80 queue_83 x_84 h85 m82=>
 sB (decide (x_84<(x79.n:Int)))
 (NB x79.a fun b86 o87=>Ib x_84 x79.n /\
 ∃x88,rI h85 ⟨b86,o87+x_84.toNat*1,none⟩ x88 /\
 ∃x89,rS h85 (aS h10 0) x89 /\
 NB x89.a fun b90 o91=>Ib x88 x89.n /\
 ∃x92,rI h85 ⟨b90,o91+x88.toNat*1,none⟩ x92 /\
 sB (x92==1073741824)
 (∃x93,rS h85 (aS h10 0) x93 /\
 ∃x94,rS h85 (aS h10 0) x94 /\
 NB queue_83.a fun b95 o96=>Ib head_74 queue_83.n /\
 ∃x97,rI h85 ⟨b95,o96+head_74.toNat*1,none⟩ x97 /\
 NB x94.a fun b98 o99=>Ib x97 x94.n /\
 ∃x100,rI h85 ⟨b98,o99+x97.toNat*1,none⟩ x100 /\
 NB x93.a fun b101 o102=>Ib x88 x93.n /\
 Wp h85 ⟨b101,o102+x88.toNat*1,none⟩ 1 [vI (wrap .i64 (x100+1))] fun h103=>
 Wn h103 [vI x88] 3 fun h104=>
 App Pz 102 102 (vS queue_83) (.slice (some (aS h103 0)) 1 1) h104 fun s105 h106=>
 ∃m107,m107<m82/\I80 s105 (wrap .i64 (x_84+1)) h106 m107)
 (∃m108,m108<m82/\I80 queue_83 (wrap .i64 (x_84+1)) h85 m108))
 (∃m109,m109<m72/\I70 queue_83 (wrap .i64 (head_74+1)) h85 m109)
def V97p (queue_44:Sl) (h46:Heap) (x5:Int) (h2:Heap) (h10:Heap) (h:Heap) (h1:Heap) (R:Value->Heap->Prop):Prop:=
 QSI queue_44 0 h46 fun I70 queue_73 head_74 h75 m72=>
 sB (decide (head_74<(queue_73.n:Int)))
 (NB queue_73.a fun b76 o77=>Ib head_74 queue_73.n /\
 ∃x78,rI h75 ⟨b76,o77+head_74.toNat*1,none⟩ x78 /\
 (0<=(x78:Int)/\(x78:Int)<((x5.toNat):Nat)) /\
 ∃x79,rS h75 (aS h2 (0+x78.toNat*1)) x79 /\
 V97q queue_73 h75 x79 h10 head_74 m72 I70)
 (V97b h75 h h10 h1 R)
def V97l (h20:Heap) (h10:Heap) (h:Heap) (x5:Int) (h2:Heap) (h1:Heap) (R:Value->Heap->Prop):Prop:=
 ∃x40,rS h20 (aS h10 0) x40 /\
 QSI ⟨none,0,0⟩ 0 h20 fun I41 queue_44 x_45 h46 m43=>
 sB (decide (x_45<(x40.n:Int)))
 (∃x47,rS h46 (aS h10 0) x47 /\
 NB x47.a fun b48 o49=>Ib x_45 x47.n /\
 Wp h46 ⟨b48,o49+x_45.toNat*1,none⟩ 1 [vI 1073741824] fun h50=>
 ∃x51:Option Addr,hc h50 (aS h 0)=some (.pointer x51) /\
 NC x51 fun a52=>∃x53,rS h50 ⟨a52.block,a52.off+10,none⟩ x53 /\
 NB x53.a fun b54 o55=>Ib x_45 x53.n /\
 ∃(x56:Sl) (x57:Bool),atC h50 ⟨b54,o55+x_45.toNat*2,none⟩ [vS x56,.bool x57] /\
 Fn Pz 149 #[.agg ⟨[vS x56,.bool x57]⟩] h50
 (fun v58 h60=>∃x59,iB v58 x59 /\
 sB x59
 (∃x61,rS h60 (aS h10 0) x61 /\
 NB x61.a fun b62 o63=>Ib x_45 x61.n /\
 Wp h60 ⟨b62,o63+x_45.toNat*1,none⟩ 1 [vI 0] fun h64=>
 Wn h64 [vI x_45] 3 fun h65=>
 App Pz 102 102 (vS queue_44) (.slice (some (aS h64 0)) 1 1) h65 fun s66 h67=>
 ∃m68,m68<m43/\I41 s66 (wrap .i64 (x_45+1)) h67 m68)
 (∃m69,m69<m43/\I41 queue_44 (wrap .i64 (x_45+1)) h60 m69)))
 (V97p queue_44 h46 x5 h2 h10 h h1 R)
def W97 (p0:Addr):Prop:=
 Wn h [.pointer (some p0)] 89 fun h1=>
 Wn h1 [vI 0,vI 0,vN,vN,vI 0,.bool false,vI 0,vI 0,vN,vI 0,.bool false,vI 0,vI 0,vN] 35 fun h2=>
 ∃x3:Option Addr,hc h2 (aS h 0)=some (.pointer x3) /\
 NC x3 fun a4=>∃x5,rI h2 ⟨a4.block,a4.off+3,none⟩ x5 /\
 Mk x5 x5 24/\Wn h2 (madeL Pz 102 (x5.toNat)) 102 fun h6=>
 ∃x7:Option Addr,hc h6 (aS h 0)=some (.pointer x7) /\
 NC x7 fun a8=>∃x9,rI h6 ⟨a8.block,a8.off+3,none⟩ x9 /\
 Mk x9 x9 8/\Wn h6 (madeL Pz 3 (x9.toNat)) 3 fun h10=>
 Wn h10 [vN] 102 fun h11=>
 Wp h11 (aS h10 0) 1 [.slice (some (aS h6 0)) (x9.toNat) (x9.toNat)] fun h12=>
 ∃x13:Option Addr,hc h12 (aS h 0)=some (.pointer x13) /\
 NC x13 fun a14=>∃x15,rS h12 ⟨a14.block,a14.off+6,none⟩ x15 /\
 QI 0 h12 fun I16 x_19 h20 m18=>
 sB (decide (x_19<(x15.n:Int)))
 (NB x15.a fun b21 o22=>Ib x_19 x15.n /\
 ∃x23 x24 x25 x26 x27 x28,aL3 h20 ⟨b21,o22+x_19.toNat*6,none⟩ x23 x24 x25 x26 x27 x28 /\
 Wn h20 [vI 0,vI 0,vI 0,vI 0,vI 0,.bool false] 67 fun h29=>
 Wp h29 (aS h20 0) 6 (L3 x23 x24 x25 x26 x27 x28) fun h30=>
 ∃x31,rI h30 (aS h20 4) x31 /\
 ∃x32,rI h30 (aS h20 4) x32 /\
 (0<=(x32:Int)/\(x32:Int)<((x5.toNat):Nat)) /\
 ∃x33,rS h30 (aS h2 (0+x32.toNat*1)) x33 /\
 ∃x34,rI h30 (aS h20 0) x34 /\
 Wn h30 [vI x34] 3 fun h35=>
 Sm [(aS h2 (0+x32.toNat*1)),(aS h20 4),(aS h20 4)] h30 h35 /\
 App Pz 102 102 (vS x33) (.slice (some (aS h30 0)) 1 1) h35 fun s36 h37=>
 Sm [(aS h20 4)] h35 h37 /\
 (0<=(x31:Int)/\(x31:Int)<((x5.toNat):Nat)) /\
 Wp h37 (aS h2 (0+x31.toNat*1)) 1 [vS s36] fun h38=>
 ∃m39,m39<m18/\I16 (wrap .i64 (x_19+1)) h38 m39)
 (V97l h20 h10 h x5 h2 h1 R)
theorem vc97 (p0:Addr) (H:@W97 h R p0):Fn Pz 97 #[.pointer (some p0)] h R:=fnJ (A:=(.s .z (.s .z (.s .z (.s .z (.s (AI 37) (.s (AJ 6 57) (.s (.s .z (.b (.l [(6,.one (.slice)),(10,.one (.int .i64))] (.s .z (.s (.b (AJ 6 93)) .z))))) (.s .z (.s .z (.s .z (.s .z (.s (.b (.l [] .z)) .z))))))))))))) H
def W95 (c0:Addr) (c1:Addr) (c2:Addr):Prop:=
 Wn h [vI 0,vI 0,vN,vN,vI 0,.bool false,vI 0,vI 0,vN,vI 0,.bool false,vI 0,vI 0,vN] 35 fun h1=>
 ∃x2:Option Addr,hc h1 c0=some (.pointer x2) /\
 ∃x3,rS h1 c1 x3 /\
 ∃x4:Option Nat,hc h1 c2=some (.map x4) /\
 Fn Pz 96 #[.pointer x2,vI 1,vS x3,.map x4] h1
 (fun v5 h21=>∃(x6 x7:Int) (x8 x9:Sl) (x10:Int) (x11:Bool) (x12 x13:Int) (x14:Sl) (x15:Int) (x16:Bool) (x17 x18:Int) (x19:Sl) (x20:Int),v5=.tuple ⟨[.agg ⟨(L2 x6 x7 x8 x9 x10 x11 x12 x13 x14 x15 x16 x17 x18 x19)⟩,vI x20]⟩ /\
 Wp h21 (aS h 0) 14 (L2 x6 x7 x8 x9 x10 x11 x12 x13 x14 x15 x16 x17 x18 x19) fun h22=>
 ∃x23 x24 x25 x26 x27 x28 x29 x30 x31 x32 x33 x34 x35 x36,aL2 h22 (aS h 0) x23 x24 x25 x26 x27 x28 x29 x30 x31 x32 x33 x34 x35 x36 /\
 R (.tuple ⟨[.agg ⟨(L2 x23 x24 x25 x26 x27 x28 x29 x30 x31 x32 x33 x34 x35 x36)⟩,vI x20]⟩) h22)
theorem vc95 (c0:Addr) (c1:Addr) (c2:Addr) (H:@W95 h R c0 c1 c2):Fn Pz 95 #[.pointer (some c0),.pointer (some c1),.pointer (some c2)] h R:=fnJ (A:=.z) H
def W98 (c0:Addr) (c1:Addr) (c2:Addr):Prop:=
 Wn h [vI 0,vI 0,vN,vN,vI 0,.bool false,vI 0,vI 0,vN,vI 0,.bool false,vI 0,vI 0,vN] 35 fun h1=>
 ∃x2:Option Addr,hc h1 c0=some (.pointer x2) /\
 ∃x3,rS h1 c1 x3 /\
 ∃x4:Option Nat,hc h1 c2=some (.map x4) /\
 Fn Pz 96 #[.pointer x2,vI 3,vS x3,.map x4] h1
 (fun v5 h21=>∃(x6 x7:Int) (x8 x9:Sl) (x10:Int) (x11:Bool) (x12 x13:Int) (x14:Sl) (x15:Int) (x16:Bool) (x17 x18:Int) (x19:Sl) (x20:Int),v5=.tuple ⟨[.agg ⟨(L2 x6 x7 x8 x9 x10 x11 x12 x13 x14 x15 x16 x17 x18 x19)⟩,vI x20]⟩ /\
 Wp h21 (aS h 0) 14 (L2 x6 x7 x8 x9 x10 x11 x12 x13 x14 x15 x16 x17 x18 x19) fun h22=>
 ∃x23 x24 x25 x26 x27 x28 x29 x30 x31 x32 x33 x34 x35 x36,aL2 h22 (aS h 0) x23 x24 x25 x26 x27 x28 x29 x30 x31 x32 x33 x34 x35 x36 /\
 R (.tuple ⟨[.agg ⟨(L2 x23 x24 x25 x26 x27 x28 x29 x30 x31 x32 x33 x34 x35 x36)⟩,vI x20]⟩) h22)
theorem vc98 (c0:Addr) (c1:Addr) (c2:Addr) (H:@W98 h R c0 c1 c2):Fn Pz 98 #[.pointer (some c0),.pointer (some c1),.pointer (some c2)] h R:=fnJ (A:=.z) H
def W99 (c0:Addr) (c1:Addr) (c2:Addr):Prop:=
 Wn h [vI 0,vI 0,vN,vN,vI 0,.bool false,vI 0,vI 0,vN,vI 0,.bool false,vI 0,vI 0,vN] 35 fun h1=>
 ∃x2:Option Addr,hc h1 c0=some (.pointer x2) /\
 ∃x3,rS h1 c1 x3 /\
 ∃x4:Option Nat,hc h1 c2=some (.map x4) /\
 Fn Pz 96 #[.pointer x2,vI 4,vS x3,.map x4] h1
 (fun v5 h21=>∃(x6 x7:Int) (x8 x9:Sl) (x10:Int) (x11:Bool) (x12 x13:Int) (x14:Sl) (x15:Int) (x16:Bool) (x17 x18:Int) (x19:Sl) (x20:Int),v5=.tuple ⟨[.agg ⟨(L2 x6 x7 x8 x9 x10 x11 x12 x13 x14 x15 x16 x17 x18 x19)⟩,vI x20]⟩ /\
 Wp h21 (aS h 0) 14 (L2 x6 x7 x8 x9 x10 x11 x12 x13 x14 x15 x16 x17 x18 x19) fun h22=>
 ∃x23 x24 x25 x26 x27 x28 x29 x30 x31 x32 x33 x34 x35 x36,aL2 h22 (aS h 0) x23 x24 x25 x26 x27 x28 x29 x30 x31 x32 x33 x34 x35 x36 /\
 R (.tuple ⟨[.agg ⟨(L2 x23 x24 x25 x26 x27 x28 x29 x30 x31 x32 x33 x34 x35 x36)⟩,vI x20]⟩) h22)
theorem vc99 (c0:Addr) (c1:Addr) (c2:Addr) (H:@W99 h R c0 c1 c2):Fn Pz 99 #[.pointer (some c0),.pointer (some c1),.pointer (some c2)] h R:=fnJ (A:=.z) H
def V41k (h87:Heap) (x72 x73:Int) (x74 x75:Sl) (x76:Int) (x77:Bool) (x78 x79:Int) (x80:Sl) (x81:Int) (x82:Bool) (x83 x84:Int) (x85:Sl) (x86 length_64:Int) (h51:Heap) (m63:Nat) (I61:Int->Int->Heap->Nat->Prop) (x_65:Int):Prop:=
 Wn h87 [vI 0,vI 0,vN,vN,vI 0,.bool false,vI 0,vI 0,vN,vI 0,.bool false,vI 0,vI 0,vN] 35 fun h88=>
 Wp h88 (aS h87 0) 14 (L2 x72 x73 x74 x75 x76 x77 x78 x79 x80 x81 x82 x83 x84 x85) fun h89=>
 sB (decide (x86<length_64))
 (∃x90 x91 x92 x93 x94 x95 x96 x97 x98 x99 x100 x101 x102 x103,aL2 h89 (aS h87 0) x90 x91 x92 x93 x94 x95 x96 x97 x98 x99 x100 x101 x102 x103 /\
 Wp h89 (aS h51 0) 14 (L2 x90 x91 x92 x93 x94 x95 x96 x97 x98 x99 x100 x101 x102 x103) fun h104=>
 ∃m105,m105<m63/\I61 x86 (wrap .i64 (x_65+1)) h104 m105)
 (∃m106,m106<m63/\I61 length_64 (wrap .i64 (x_65+1)) h89 m106)
def W41 (pa:ByteArray) (pb pc:Sl) (pd pe pf:Int) (pg ph:Sl) (p1:Int):Prop:=
 Wn h (L0 pa pb pc pd pe pf pg ph) 27 fun h9=>
 Wn h9 [vI 0,vI 0,vN,vN,vI 0,.bool false,vI 0,vI 0,vN,vI 0,.bool false,vI 0,vI 0,vN] 35 fun h10=>
 ∃x11 x12 x13 x14 x15 x16 x17 x18,aL0 h10 (aS h 0) x11 x12 x13 x14 x15 x16 x17 x18 /\
 Fn Pz 49 #[.agg ⟨(L0 x11 x12 x13 x14 x15 x16 x17 x18)⟩,vI p1] h10
 (fun v19 h22=>∃x20:Option Addr,∃x21:Int,v19=.tuple ⟨[.pointer x20,vI x21]⟩ /\
 Wn h22 [.pointer none] 89 fun h23=>
 Wp h23 (aS h22 0) 1 [.pointer x20] fun h24=>
 sB (x21 != 0)
 (Wp h24 (aS h9 0) 14 [vI 0,vI 0,vN,vN,vI 0,.bool false,vI 0,vI 0,vN,vI 0,.bool false,vI 0,vI 0,vN] fun h25=>
 ∃x26 x27 x28 x29 x30 x31 x32 x33 x34 x35 x36 x37 x38 x39,aL2 h25 (aS h9 0) x26 x27 x28 x29 x30 x31 x32 x33 x34 x35 x36 x37 x38 x39 /\
 R (.tuple ⟨[.agg ⟨(L2 x26 x27 x28 x29 x30 x31 x32 x33 x34 x35 x36 x37 x38 x39)⟩,vI 1073741824,vI x21]⟩) h25)
 (∃x40:Option Addr,hc h24 (aS h22 0)=some (.pointer x40) /\
 Fn Pz 82 #[.pointer x40] h24
 (fun v41 h42=>v41=.tuple ⟨[]⟩ /\
 ∃x43:Option Addr,hc h42 (aS h22 0)=some (.pointer x43) /\
 Fn Pz 50 #[.pointer x43] h42
 (fun v44 h47=>∃x45:Sl,∃x46:Option Nat,v44=.tuple ⟨[vS x45,.map x46]⟩ /\
 Wn h47 [vN] 92 fun h48=>
 Wn h48 [.map none] 93 fun h49=>
 Wp h49 (aS h47 0) 1 [vS x45] fun h50=>
 Wp h50 (aS h48 0) 1 [.map x46] fun h51=>
 Wn h51 [vI 0,vI 0,vN,vN,vI 0,.bool false,vI 0,vI 0,vN,vI 0,.bool false,vI 0,vI 0,vN] 35 fun h52=>
 Wp h52 (aS h51 0) 14 [vI 0,vI 0,vN,vN,vI 0,.bool false,vI 0,vI 0,vN,vI 0,.bool false,vI 0,vI 0,vN] fun h53=>
 ∃x54:Option Addr,hc h53 (aS h22 0)=some (.pointer x54) /\
 Wn h53 [.nilFunc,.nilFunc,.nilFunc,.nilFunc] 178 fun h55=>
 Wp h55 (aS h53 0) 4 [.func (.func 95) #[] #[.pointer (some (aS h22 0)),.pointer (some (aS h47 0)),.pointer (some (aS h48 0))],.func (.func 97) #[.pointer x54] #[],.func (.func 98) #[] #[.pointer (some (aS h22 0)),.pointer (some (aS h47 0)),.pointer (some (aS h48 0))],.func (.func 99) #[] #[.pointer (some (aS h22 0)),.pointer (some (aS h47 0)),.pointer (some (aS h48 0))]] fun h56=>
 ∃x57:Value,∃x58:Value,∃x59:Value,∃x60:Value,atC h56 (aS h53 0) [x57,x58,x59,x60] /\
 QII 1073741824 0 h56 fun I61 length_64 x_65 h66 m63=>
 sB (decide (x_65<4))
 (Ib x_65 4/\∃x67:Value,List.take 1 (List.drop (x_65.toNat*1) ([x57,x58,x59,x60]:List Value))=[x67] /\
 match x67 with | .func (.func g68) fa69 fc70=>(bif callable Pz g68 then Fn Pz g68 (fa69 ++ #[]++fc70) h66
 (fun v71 h87=>∃(x72 x73:Int) (x74 x75:Sl) (x76:Int) (x77:Bool) (x78 x79:Int) (x80:Sl) (x81:Int) (x82:Bool) (x83 x84:Int) (x85:Sl) (x86:Int),v71=.tuple ⟨[.agg ⟨(L2 x72 x73 x74 x75 x76 x77 x78 x79 x80 x81 x82 x83 x84 x85)⟩,vI x86]⟩ /\
 V41k h87 x72 x73 x74 x75 x76 x77 x78 x79 x80 x81 x82 x83 x84 x85 x86 length_64 h51 m63 I61 x_65) else ExtW Pz g68 (fa69 ++ #[]++fc70) h66
 (fun v71 h87=>∃(x72 x73:Int) (x74 x75:Sl) (x76:Int) (x77:Bool) (x78 x79:Int) (x80:Sl) (x81:Int) (x82:Bool) (x83 x84:Int) (x85:Sl) (x86:Int),v71=.tuple ⟨[.agg ⟨(L2 x72 x73 x74 x75 x76 x77 x78 x79 x80 x81 x82 x83 x84 x85)⟩,vI x86]⟩ /\
 Wn h87 [vI 0,vI 0,vN,vN,vI 0,.bool false,vI 0,vI 0,vN,vI 0,.bool false,vI 0,vI 0,vN] 35 fun h88=>
 Wp h88 (aS h87 0) 14 (L2 x72 x73 x74 x75 x76 x77 x78 x79 x80 x81 x82 x83 x84 x85) fun h89=>
 sB (decide (x86<length_64))
 (∃x90 x91 x92 x93 x94 x95 x96 x97 x98 x99 x100 x101 x102 x103,aL2 h89 (aS h87 0) x90 x91 x92 x93 x94 x95 x96 x97 x98 x99 x100 x101 x102 x103 /\
 Wp h89 (aS h51 0) 14 (L2 x90 x91 x92 x93 x94 x95 x96 x97 x98 x99 x100 x101 x102 x103) fun h104=>
 ∃m105,m105<m63/\I61 x86 (wrap .i64 (x_65+1)) h104 m105)
 (∃m106,m106<m63/\I61 length_64 (wrap .i64 (x_65+1)) h89 m106))) | _=>False)
 (∃x107 x108 x109 x110 x111 x112 x113 x114 x115 x116 x117 x118 x119 x120,aL2 h66 (aS h51 0) x107 x108 x109 x110 x111 x112 x113 x114 x115 x116 x117 x118 x119 x120 /\
 Wp h66 (aS h9 0) 14 (L2 x107 x108 x109 x110 x111 x112 x113 x114 x115 x116 x117 x118 x119 x120) fun h121=>
 ∃x122 x123 x124 x125 x126 x127 x128 x129 x130 x131 x132 x133 x134 x135,aL2 h121 (aS h9 0) x122 x123 x124 x125 x126 x127 x128 x129 x130 x131 x132 x133 x134 x135 /\
 R (.tuple ⟨[.agg ⟨(L2 x122 x123 x124 x125 x126 x127 x128 x129 x130 x131 x132 x133 x134 x135)⟩,vI length_64,vI 0]⟩) h121)))))
theorem vc41 (pa:ByteArray) (pb pc:Sl) (pd pe pf:Int) (pg ph:Sl) (p1:Int) (H:@W41 h R pa pb pc pd pe pf pg ph p1):Fn Pz 41 #[.agg ⟨(L0 pa pb pc pd pe pf pg ph)⟩,vI p1] h R:=fnJ (A:=(.s .z (.s .z (.s .z (.s .z (.s .z (.s .z (.s .z (.s (.s .z (.b (.l [(12,.one (.int .i64)),(43,.one (.int .i64))] .z))) .z))))))))) H
def V14a (h73 h71 h21:Heap) (m42:Nat) (I40:Int->Int->Heap->Nat->Prop) (x69 x_44:Int):Prop:=
 ∃x74 x75 x76 x77 x78 x79 x80 x81 x82 x83 x84 x85 x86 x87,aL2 h73 (aS h71 0) x74 x75 x76 x77 x78 x79 x80 x81 x82 x83 x84 x85 x86 x87/\Wp h73 (aS h21 0) 14 (L2 x74 x75 x76 x77 x78 x79 x80 x81 x82 x83 x84 x85 x86 x87) fun h88=>∃m89,m89<m42/\I40 x69 (wrap .i64 (x_44+1)) h88 m89
def W14 (pa:ByteArray) (pb pc:Sl) (pd pe pf:Int) (pg ph:Sl):Prop:=
 Wn h (L0 pa pb pc pd pe pf pg ph) 27 fun h9=>Wn h9 [vI 0,vI 0,vN,vN,vI 0,.bool false,vI 0,vI 0,vN,vI 0,.bool false,vI 0,vI 0,vN] 35 fun h10=>∃x11 x12 x13 x14 x15 x16 x17 x18,aL0 h10 (aS h 0) x11 x12 x13 x14 x15 x16 x17 x18/\Fn Pz 40 #[.agg ⟨(L0 x11 x12 x13 x14 x15 x16 x17 x18)⟩] h10 (fun v19 h21=>∃x20,iB v19 x20/\sB (!x20) (Wp h21 (aS h9 0) 14 [vI 0,vI 0,vN,vN,vI 0,.bool false,vI 0,vI 0,vN,vI 0,.bool false,vI 0,vI 0,vN] fun h22=>∃x23 x24 x25 x26 x27 x28 x29 x30 x31 x32 x33 x34 x35 x36,aL2 h22 (aS h9 0) x23 x24 x25 x26 x27 x28 x29 x30 x31 x32 x33 x34 x35 x36/\R (.tuple ⟨[.agg ⟨(L2 x23 x24 x25 x26 x27 x28 x29 x30 x31 x32 x33 x34 x35 x36)⟩,vI 1]⟩) h22) (Wn h21 [vI 0,vI 0,vN,vN,vI 0,.bool false,vI 0,vI 0,vN,vI 0,.bool false,vI 0,vI 0,vN] 35 fun h37=>Wp h37 (aS h21 0) 14 [vI 0,vI 0,vN,vN,vI 0,.bool false,vI 0,vI 0,vN,vI 0,.bool false,vI 0,vI 0,vN] fun h38=>∃x39,rS h38 (aS h 1) x39/\QII 1073741824 0 h38 fun I40 length_43 x_44 h45 m42=>sB (decide (x_44<(x39.n:Int))) (∃x46 x47 x48 x49 x50 x51 x52 x53,aL0 h45 (aS h 0) x46 x47 x48 x49 x50 x51 x52 x53/\Fn Pz 41 #[.agg ⟨(L0 x46 x47 x48 x49 x50 x51 x52 x53)⟩,vI x_44] h45 (fun v54 h71=>∃(x55 x56:Int) (x57 x58:Sl) (x59:Int) (x60:Bool) (x61 x62:Int) (x63:Sl) (x64:Int) (x65:Bool) (x66 x67:Int) (x68:Sl) (x69 x70:Int),v54=.tuple ⟨[.agg ⟨(L2 x55 x56 x57 x58 x59 x60 x61 x62 x63 x64 x65 x66 x67 x68)⟩,vI x69,vI x70]⟩/\Wn h71 [vI 0,vI 0,vN,vN,vI 0,.bool false,vI 0,vI 0,vN,vI 0,.bool false,vI 0,vI 0,vN] 35 fun h72=>Wp h72 (aS h71 0) 14 (L2 x55 x56 x57 x58 x59 x60 x61 x62 x63 x64 x65 x66 x67 x68) fun h73=>sB (decide (x69<length_43)) (V14a h73 h71 h21 m42 I40 x69 x_44) (sB (x69==length_43) (sB (decide (x69<1073741824)) (∃x90,rI h73 (aS h71 0) x90/\∃x91,rI h73 (aS h21 0) x91/\sB (decide (x90<x91)) (V14a h73 h71 h21 m42 I40 x69 x_44) (∃m108,m108<m42/\I40 length_43 (wrap .i64 (x_44+1)) h73 m108)) (∃m109,m109<m42/\I40 length_43 (wrap .i64 (x_44+1)) h73 m109)) (∃m110,m110<m42/\I40 length_43 (wrap .i64 (x_44+1)) h73 m110)))) (sB (length_43==1073741824) (Wp h45 (aS h9 0) 14 [vI 0,vI 0,vN,vN,vI 0,.bool false,vI 0,vI 0,vN,vI 0,.bool false,vI 0,vI 0,vN] fun h111=>∃x112 x113 x114 x115 x116 x117 x118 x119 x120 x121 x122 x123 x124 x125,aL2 h111 (aS h9 0) x112 x113 x114 x115 x116 x117 x118 x119 x120 x121 x122 x123 x124 x125/\R (.tuple ⟨[.agg ⟨(L2 x112 x113 x114 x115 x116 x117 x118 x119 x120 x121 x122 x123 x124 x125)⟩,vI 0]⟩) h111) (∃x126 x127 x128 x129 x130 x131 x132 x133 x134 x135 x136 x137 x138 x139,aL2 h45 (aS h21 0) x126 x127 x128 x129 x130 x131 x132 x133 x134 x135 x136 x137 x138 x139/\Wp h45 (aS h9 0) 14 (L2 x126 x127 x128 x129 x130 x131 x132 x133 x134 x135 x136 x137 x138 x139) fun h140=>∃x141 x142 x143 x144 x145 x146 x147 x148 x149 x150 x151 x152 x153 x154,aL2 h140 (aS h9 0) x141 x142 x143 x144 x145 x146 x147 x148 x149 x150 x151 x152 x153 x154/\R (.tuple ⟨[.agg ⟨(L2 x141 x142 x143 x144 x145 x146 x147 x148 x149 x150 x151 x152 x153 x154)⟩,vI 18]⟩) h140))))
theorem vc14 (pa:ByteArray) (pb pc:Sl) (pd pe pf:Int) (pg ph:Sl) (H:@W14 h R pa pb pc pd pe pf pg ph):Fn Pz 14 #[.agg ⟨(L0 pa pb pc pd pe pf pg ph)⟩] h R:=fnJ (A:=(.s .z (.s .z (.s .z (.s (.s .z (.b (.l [(5,.one (.int .i64)),(18,.one (.int .i64))] .z))) .z))))) H
end Go.VC
end

section
namespace Go.VC
open Go.Proofs IntKind




end Go.VC
end

section
namespace Go.VC
open Go.Proofs IntKind
variable {h:Heap} {R:Value->Heap->Prop}
def W21 (pa:ByteArray) (pb pc:Sl) (pd pe pf:Int) (pg ph:Sl) (p1:Int):Prop:=
 Wn h (L0 pa pb pc pd pe pf pg ph) 27 fun h9=>
 ∃x10 x11 x12 x13 x14 x15 x16 x17,aL0 h9 (aS h 0) x10 x11 x12 x13 x14 x15 x16 x17 /\
 Fn Pz 13 #[.agg ⟨(L0 x10 x11 x12 x13 x14 x15 x16 x17)⟩] h9
 (fun v18 h20=>∃x19,iB v18 x19 /\
 sB x19
 (∃x21 x22 x23 x24 x25 x26 x27 x28,aL0 h20 (aS h 0) x21 x22 x23 x24 x25 x26 x27 x28 /\
 Fn Pz 48 #[.agg ⟨(L0 x21 x22 x23 x24 x25 x26 x27 x28)⟩,vI p1] h20
 (fun v29 h31=>∃x30,iB v29 x30 /\
 R (.bool x30) h31))
 (R (.bool false) h20))
theorem vc21 (pa:ByteArray) (pb pc:Sl) (pd pe pf:Int) (pg ph:Sl) (p1:Int) (H:@W21 h R pa pb pc pd pe pf pg ph p1):Fn Pz 21 #[.agg ⟨(L0 pa pb pc pd pe pf pg ph)⟩,vI p1] h R:=fnJ (A:=.z) H
def W34 (p0:Sl) (p1:Int):Prop:=
 (64:Int)≠0/\sB (decide ((wrap .i64 (Int.tdiv p1 64))<(p0.n:Int)))
 ((64:Int)≠0/\NB p0.a fun b1 o2=>(0<=((wrap .i64 (Int.tdiv p1 64)):Int)/\((wrap .i64 (Int.tdiv p1 64)):Int)<(p0.n:Nat)) /\
 ∃x3:Int,hc h ⟨b1,o2+Int.toNat (wrap .i64 (Int.tdiv p1 64))*1,none⟩=some (.int .u64 x3) /\
 (64:Int)≠0/\0<=(Int.tmod p1 64)/\R (.bool ((andI .u64 (shrI .u64 x3 (Int.tmod p1 64)) 1)==1)) h)
 (R (.bool false) h)
theorem vc34 (p0:Sl) (p1:Int) (H:@W34 h R p0 p1):Fn Pz 34 #[vS p0,vI p1] h R:=fnJ (A:=.z) H
end Go.VC
end

section
namespace Go.VC
open Go.Proofs IntKind
variable [Mono]
namespace M
end M
end Go.VC
end

section
namespace Go.VC
open Go.Proofs IntKind
variable {h:Heap} {R:Value->Heap->Prop}
def W19 (pa:ByteArray) (pb pc:Sl) (pd pe pf:Int) (pg ph:Sl) (p1:Int):Prop:=
 Wn h (L0 pa pb pc pd pe pf pg ph) 27 fun h9=>
 Wn h9 [vI 0,vI 0,vN,vN,vI 0,.bool false,vI 0,vI 0,vN,vI 0,.bool false,vI 0,vI 0,vN] 35 fun h10=>
 ∃x11 x12 x13 x14 x15 x16 x17 x18,aL0 h10 (aS h 0) x11 x12 x13 x14 x15 x16 x17 x18 /\
 Fn Pz 41 #[.agg ⟨(L0 x11 x12 x13 x14 x15 x16 x17 x18)⟩,vI p1] h10
 (fun v19 h36=>∃(x20 x21:Int) (x22 x23:Sl) (x24:Int) (x25:Bool) (x26 x27:Int) (x28:Sl) (x29:Int) (x30:Bool) (x31 x32:Int) (x33:Sl) (x34 x35:Int),v19=.tuple ⟨[.agg ⟨(L2 x20 x21 x22 x23 x24 x25 x26 x27 x28 x29 x30 x31 x32 x33)⟩,vI x34,vI x35]⟩ /\
 Wn h36 [vI 0,vI 0,vN,vN,vI 0,.bool false,vI 0,vI 0,vN,vI 0,.bool false,vI 0,vI 0,vN] 35 fun h37=>
 Wp h37 (aS h36 0) 14 (L2 x20 x21 x22 x23 x24 x25 x26 x27 x28 x29 x30 x31 x32 x33) fun h38=>
 sB (x35 != 0)
 (Wp h38 (aS h9 0) 14 [vI 0,vI 0,vN,vN,vI 0,.bool false,vI 0,vI 0,vN,vI 0,.bool false,vI 0,vI 0,vN] fun h39=>
 ∃x40 x41 x42 x43 x44 x45 x46 x47 x48 x49 x50 x51 x52 x53,aL2 h39 (aS h9 0) x40 x41 x42 x43 x44 x45 x46 x47 x48 x49 x50 x51 x52 x53 /\
 R (.tuple ⟨[.agg ⟨(L2 x40 x41 x42 x43 x44 x45 x46 x47 x48 x49 x50 x51 x52 x53)⟩,vI x35]⟩) h39)
 (sB (x34==1073741824)
 (Wp h38 (aS h9 0) 14 [vI 0,vI 0,vN,vN,vI 0,.bool false,vI 0,vI 0,vN,vI 0,.bool false,vI 0,vI 0,vN] fun h54=>
 ∃x55 x56 x57 x58 x59 x60 x61 x62 x63 x64 x65 x66 x67 x68,aL2 h54 (aS h9 0) x55 x56 x57 x58 x59 x60 x61 x62 x63 x64 x65 x66 x67 x68 /\
 R (.tuple ⟨[.agg ⟨(L2 x55 x56 x57 x58 x59 x60 x61 x62 x63 x64 x65 x66 x67 x68)⟩,vI 0]⟩) h54)
 (∃x69 x70 x71 x72 x73 x74 x75 x76 x77 x78 x79 x80 x81 x82,aL2 h38 (aS h36 0) x69 x70 x71 x72 x73 x74 x75 x76 x77 x78 x79 x80 x81 x82 /\
 Wp h38 (aS h9 0) 14 (L2 x69 x70 x71 x72 x73 x74 x75 x76 x77 x78 x79 x80 x81 x82) fun h83=>
 ∃x84 x85 x86 x87 x88 x89 x90 x91 x92 x93 x94 x95 x96 x97,aL2 h83 (aS h9 0) x84 x85 x86 x87 x88 x89 x90 x91 x92 x93 x94 x95 x96 x97 /\
 R (.tuple ⟨[.agg ⟨(L2 x84 x85 x86 x87 x88 x89 x90 x91 x92 x93 x94 x95 x96 x97)⟩,vI 18]⟩) h83)))
theorem vc19 (pa:ByteArray) (pb pc:Sl) (pd pe pf:Int) (pg ph:Sl) (p1:Int) (H:@W19 h R pa pb pc pd pe pf pg ph p1):Fn Pz 19 #[.agg ⟨(L0 pa pb pc pd pe pf pg ph)⟩,vI p1] h R:=fnJ (A:=.z) H
def W12 :Prop:=
 Fn Pz 38 #[.bool false] h
 (fun v1 h10=>∃(x2:ByteArray) (x3 x4:Sl) (x5 x6 x7:Int) (x8 x9:Sl),v1=.agg ⟨(L0 x2 x3 x4 x5 x6 x7 x8 x9)⟩ /\
 Fn Pz 14 #[.agg ⟨(L0 x2 x3 x4 x5 x6 x7 x8 x9)⟩] h10
 (fun v11 h27=>∃(x12 x13:Int) (x14 x15:Sl) (x16:Int) (x17:Bool) (x18 x19:Int) (x20:Sl) (x21:Int) (x22:Bool) (x23 x24:Int) (x25:Sl) (x26:Int),v11=.tuple ⟨[.agg ⟨(L2 x12 x13 x14 x15 x16 x17 x18 x19 x20 x21 x22 x23 x24 x25)⟩,vI x26]⟩ /\
 Wn h27 [vI 0,vI 0,vN,vN,vI 0,.bool false,vI 0,vI 0,vN,vI 0,.bool false,vI 0,vI 0,vN] 35 fun h28=>
 Wp h28 (aS h27 0) 14 (L2 x12 x13 x14 x15 x16 x17 x18 x19 x20 x21 x22 x23 x24 x25) fun h29=>
 Fn Pz 38 #[.bool true] h29
 (fun v30 h39=>∃(x31:ByteArray) (x32 x33:Sl) (x34 x35 x36:Int) (x37 x38:Sl),v30=.agg ⟨(L0 x31 x32 x33 x34 x35 x36 x37 x38)⟩ /\
 Fn Pz 14 #[.agg ⟨(L0 x31 x32 x33 x34 x35 x36 x37 x38)⟩] h39
 (fun v40 h56=>∃(x41 x42:Int) (x43 x44:Sl) (x45:Int) (x46:Bool) (x47 x48:Int) (x49:Sl) (x50:Int) (x51:Bool) (x52 x53:Int) (x54:Sl) (x55:Int),v40=.tuple ⟨[.agg ⟨(L2 x41 x42 x43 x44 x45 x46 x47 x48 x49 x50 x51 x52 x53 x54)⟩,vI x55]⟩ /\
 Wn h56 [vI 0,vI 0,vN,vN,vI 0,.bool false,vI 0,vI 0,vN,vI 0,.bool false,vI 0,vI 0,vN] 35 fun h57=>
 Wp h57 (aS h56 0) 14 (L2 x41 x42 x43 x44 x45 x46 x47 x48 x49 x50 x51 x52 x53 x54) fun h58=>
 sB (x26==18)
 (sB (x55==0)
 (∃x59,rI h58 (aS h27 0) x59 /\
 sB (x59==1)
 (∃x60,rI h58 (aS h27 1) x60 /\
 sB (x60==2)
 (∃x61,rS h58 (aS h27 2) x61 /\
 sB ((x61.n:Int)==0)
 (∃x62,rS h58 (aS h27 3) x62 /\
 sB ((x62.n:Int)==1)
 (∃x63,rI h58 (aS h27 (4+3)) x63 /\
 sB (x63==3)
 (∃x64,rI h58 (aS h56 0) x64 /\
 R (.bool (x64==0)) h58)
 (R (.bool false) h58))
 (R (.bool false) h58))
 (R (.bool false) h58))
 (R (.bool false) h58))
 (R (.bool false) h58))
 (R (.bool false) h58))
 (R (.bool false) h58)))))
theorem vc12  (H:@W12 h R ):Fn Pz 12 #[] h R:=fnJ (A:=.z) H
def V9a (h120:Heap) (x114:Sl) (R:Value->Heap->Prop) (m97:Nat) (I95:Int->Heap->Nat->Prop) (x_98:Int):Prop:=
 QI 0 h120 fun I121 x_124 h125 m123=>sB (decide (x_124<(x114.n:Int))) (NB x114.a fun b126 o127=>Ib x_124 x114.n/\∃x128,rB h125 ⟨b126,o127+x_124.toNat*5+1,none⟩ x128/\sB (decide ((x114.n:Int)>0)) (NB x114.a fun b129 o130=>Ib 0 x114.n/\∃x131,rB h125 ⟨b129,o130+Int.toNat 0*5+1,none⟩ x131/\sB (!(x128==x131)) (R (.bool false) h125) (∃m132,m132<m123/\I121 (wrap .i64 (x_124+1)) h125 m132)) (sB (!(x128==false)) (R (.bool false) h125) (∃m133,m133<m123/\I121 (wrap .i64 (x_124+1)) h125 m133))) (∃m134,m134<m97/\I95 (wrap .i64 (x_98+1)) h125 m134)
def W9 (pa:ByteArray) (pb pc:Sl) (pd pe pf:Int) (pg ph:Sl) (p1:Int) (p2:Sl):Prop:=
 Wn h (L0 pa pb pc pd pe pf pg ph) 27 fun h9=>Fn Pz 12 #[] h9 (fun v10 h12=>∃x11,iB v10 x11/\sB (!x11) (R (.bool false) h12) (∃x13 x14 x15 x16 x17 x18 x19 x20,aL0 h12 (aS h 0) x13 x14 x15 x16 x17 x18 x19 x20/\Fn Pz 21 #[.agg ⟨(L0 x13 x14 x15 x16 x17 x18 x19 x20)⟩,vI p1] h12 (fun v21 h23=>∃x22,iB v21 x22/\sB (!x22) (R (.bool true) h23) (sB (decide ((p2.n:Int)>30)) (R (.bool true) h23) (∃x24 x25 x26 x27 x28 x29 x30 x31,aL0 h23 (aS h 0) x24 x25 x26 x27 x28 x29 x30 x31/\Fn Pz 19 #[.agg ⟨(L0 x24 x25 x26 x27 x28 x29 x30 x31)⟩,vI p1] h23 (fun v32 h48=>∃(x33 x34:Int) (x35 x36:Sl) (x37:Int) (x38:Bool) (x39 x40:Int) (x41:Sl) (x42:Int) (x43:Bool) (x44 x45:Int) (x46:Sl) (x47:Int),v32=.tuple ⟨[.agg ⟨(L2 x33 x34 x35 x36 x37 x38 x39 x40 x41 x42 x43 x44 x45 x46)⟩,vI x47]⟩/\Wn h48 [vI 0,vI 0,vN,vN,vI 0,.bool false,vI 0,vI 0,vN,vI 0,.bool false,vI 0,vI 0,vN] 35 fun h49=>Wp h49 (aS h48 0) 14 (L2 x33 x34 x35 x36 x37 x38 x39 x40 x41 x42 x43 x44 x45 x46) fun h50=>sB (x47 != 0) (R (.bool (x47==18)) h50) (∃x51 x52 x53 x54 x55 x56 x57 x58,aL0 h50 (aS h 0) x51 x52 x53 x54 x55 x56 x57 x58/\Fn Pz 24 #[.agg ⟨(L0 x51 x52 x53 x54 x55 x56 x57 x58)⟩,vS p2] h50 (fun v59 h62=>∃(x60:Sl) (x61:Int),v59=.tuple ⟨[vS x60,vI x61]⟩/\∃x63 x64 x65 x66 x67 x68 x69 x70,aL0 h62 (aS h 0) x63 x64 x65 x66 x67 x68 x69 x70/\Fn Pz 26 #[vS x60,vI p1] h62 (fun v71 h73=>∃x72,iS v71 x72/\Sm [(aS h 0)] h62 h73/\Fn Pz 33 #[.agg ⟨(L0 x63 x64 x65 x66 x67 x68 x69 x70)⟩,vI p1,vS x72] h73 (fun v74 h77=>∃(x75:Sl) (x76:Int),v74=.tuple ⟨[vS x75,vI x76]⟩/\∃x78 x79 x80 x81 x82 x83 x84 x85,aL0 h77 (aS h 0) x78 x79 x80 x81 x82 x83 x84 x85/\Fn Pz 29 #[.agg ⟨(L0 x78 x79 x80 x81 x82 x83 x84 x85)⟩,vI p1,vI x61] h77 (fun v86 h90=>∃(x87:Sl) (x88:Bool) (x89:Int),v86=.tuple ⟨[vS x87,.bool x88,vI x89]⟩/\sB (x76 != 0) (R (.bool false) h90) (sB (x89 != 0) (R (.bool false) h90) (sB (decide ((x87.n:Int)>0)) (NB x87.a fun b91 o92=>Ib 0 x87.n/\∃x93,rB h90 ⟨b91,o92+Int.toNat 0*5+1,none⟩ x93/\∃x94,rI h90 (aS h 3) x94/\QI 0 h90 fun I95 x_98 h99 m97=>sB (decide (x_98<x94)) (sB (Option.isNone x75.a) (∃m100,m100<m97/\I95 (wrap .i64 (x_98+1)) h99 m100) (Fn Pz 34 #[vS x75,vI x_98] h99 (fun v101 h103=>∃x102,iB v101 x102/\sB (!x102) (∃m104,m104<m97/\I95 (wrap .i64 (x_98+1)) h103 m104) (∃x105 x106 x107 x108 x109 x110 x111 x112,aL0 h103 (aS h 0) x105 x106 x107 x108 x109 x110 x111 x112/\Fn Pz 29 #[.agg ⟨(L0 x105 x106 x107 x108 x109 x110 x111 x112)⟩,vI p1,vI x_98] h103 (fun v113 h117=>∃(x114:Sl) (x115:Bool) (x116:Int),v113=.tuple ⟨[vS x114,.bool x115,vI x116]⟩/\sB (x116 != 0) (R (.bool false) h117) (sB x93 (sB x115 (R (.bool false) h117) (sB x88 (R (.bool false) h117) (Fn Pz 25 #[vS x87,vS x114] h117 (fun v118 h120=>∃x119,iB v118 x119/\sB (!x119) (R (.bool false) h120) (V9a h120 x114 R m97 I95 x_98))))) (V9a h117 x114 R m97 I95 x_98))))))) (R (.bool true) h99)) (∃x149,rI h90 (aS h 3) x149/\QI 0 h90 fun I150 x_153 h154 m152=>sB (decide (x_153<x149)) (sB (Option.isNone x75.a) (∃m155,m155<m152/\I150 (wrap .i64 (x_153+1)) h154 m155) (Fn Pz 34 #[vS x75,vI x_153] h154 (fun v156 h158=>∃x157,iB v156 x157/\sB (!x157) (∃m159,m159<m152/\I150 (wrap .i64 (x_153+1)) h158 m159) (∃x160 x161 x162 x163 x164 x165 x166 x167,aL0 h158 (aS h 0) x160 x161 x162 x163 x164 x165 x166 x167/\Fn Pz 29 #[.agg ⟨(L0 x160 x161 x162 x163 x164 x165 x166 x167)⟩,vI p1,vI x_153] h158 (fun v168 h172=>∃(x169:Sl) (x170:Bool) (x171:Int),v168=.tuple ⟨[vS x169,.bool x170,vI x171]⟩/\sB (x171 != 0) (R (.bool false) h172) (V9a h172 x169 R m152 I150 x_153)))))) (R (.bool true) h154)))))))))))))))
theorem vc9 (pa:ByteArray) (pb pc:Sl) (pd pe pf:Int) (pg ph:Sl) (p1:Int) (p2:Sl) (H:@W9 h R pa pb pc pd pe pf pg ph p1 p2):Fn Pz 9 #[.agg ⟨(L0 pa pb pc pd pe pf pg ph)⟩,vI p1,vS p2] h R:=fnJ (A:=(.s .z (.s .z (.s .z (.s .z (.s .z (.s .z (.s .z (.s .z (.s .z (.s (.s .z (.b (.l [(83,.one (.int .i64))] (.s .z (.s .z (.s (.b (.s .z (.s .z (.s .z (.s .z (AI 121)))))) .z)))))) .z))))))))))) H
end Go.VC
end

section
namespace Go.LexS
def isLetter (n:Int):Bool:=decide (97<=n)&&decide (n<=122)||decide (65<=n)&&decide (n<=90)
def isDigit (n:Int):Bool:=decide (48<=n)&&decide (n<=57)
def isInner (n:Int):Bool:=isLetter n||isDigit n||(n==95)
def isSpace (n:Int):Bool:=n==32||n==9||n==10||n==13
def lt (c:UInt8):Bool:=isLetter c.toNat
def dg (c:UInt8):Bool:=isDigit c.toNat
def inn (c:UInt8):Bool:=isInner c.toNat
def sp (c:UInt8):Bool:=isSpace c.toNat
structure T where
 kind:Nat
 text:List UInt8
 val:Nat
 deriving DecidableEq
def keywords:List (List UInt8):=[[97,103,97,105,110],[97,110,100],[97,115],[97,116],[99,97,108,108],[99,104,111,105,99,101],[101,108,115,101],[102,114,111,109],[105,102],[105,110,116],[108,101,110],[108,111,111,112],[109,101,115,115,97,103,101],[111,102],[111,102,102,101,114],[111,110],[111,114],[112,97,114],[112,108,97,121,115],[112,114,111,116,111,99,111,108],[115,101,114,118,105,99,101],[116,101,120,116],[116,105,109,101,115],[116,111],[118,97,114],[119,104,101,114,101],[119,104,105,108,101],[119,105,116,104,105,110]]
def isName (l:List UInt8):Bool:=match l with
 | []=>false
 | c::_=>decide (l.length<=16)&&lt c&&l.all inn
def isWord (l:List UInt8):Bool:=isName l && !decide (l∈keywords)
end Go.LexS
end

section
namespace Go.VC
open Go.LexS
abbrev Nm:=List UInt8
def i64 (n:Int):Value:=.int .i64 n
def slV (s:Sl):Value:=.slice s.a s.n s.c
structure Fld where
 nm:Nm
 k:Int
 lo:Int
 hi:Int
def Fld.cs (f:Fld):List Value:=[.string (bs f.nm),.int .i64 f.k,.int .i64 f.lo,.int .i64 f.hi]
structure Df where
 x:Int
 y:Int
 c:Int
def Df.cs (d:Df):List Value:=[.int .i64 d.x,.int .i64 d.y,.int .i64 d.c]
structure Eqs where
 x:Int
 y:Int
def Eqs.cs (d:Eqs):List Value:=[.int .i64 d.x,.int .i64 d.y]
structure Dc where
 nm:Nm
 hf:Sl
 first:Int
 hd:Sl
 he:Sl
 fs:List Fld
 ds:List Df
 es:List Eqs
def Dc.cs (d:Dc):List Value:=[.string (bs d.nm),.slice d.hf.a d.hf.n d.hf.c,.int .i64 d.first,.slice d.hd.a d.hd.n d.hd.c,.slice d.he.a d.he.n d.he.c]
structure Ed where
 f:Int
 a:Int
 b:Int
 l:Int
 t:Int
 ag:Bool
def Ed.cs (x:Ed):List Value:=[.int .i64 x.f,.int .i64 x.a,.int .i64 x.b,.int .i64 x.l,.int .i64 x.t,.bool x.ag]
structure To where
 s:Int
 k:Int
 e:Int
def To.cs (x:To):List Value:=[.int .i64 x.s,.int .i64 x.k,.int .i64 x.e]
structure Gl where
 nm:Nm
 hr:Sl
 hd:Sl
 n:Int
 s:Int
 e:Int
 he:Sl
 ht:Sl
 rs:List Nm
 ds:List Dc
 es:List Ed
 ts:List To
def Gl.cs (g:Gl):List Value:=[.string (bs g.nm),.slice g.hr.a g.hr.n g.hr.c,.slice g.hd.a g.hd.n g.hd.c,.int .i64 g.n,.int .i64 g.s,.int .i64 g.e,.slice g.he.a g.he.n g.he.c,.slice g.ht.a g.ht.n g.ht.c]
def Gl.v (g:Gl):Value:=.agg ⟨g.cs⟩
def nmC (x:Nm):List Value:=[.string (bs x)]
structure RL {α:Type} (h:Heap) (k:Nat) (s:Sl) (cs:α->List Value) (L:List α):Prop where
 rw:Rw h k s (L.map cs)
 cap:s.n<=s.c
 nil:s.a=none->s.n=0/\s.c=0
 sm:L.length<=1048576
theorem RL.ext {α:Type} {h h':Heap} {k:Nat} {s:Sl} {cs:α->List Value} {L:List α} (hr:RL h k s cs L) (E:Ext h h'):RL h' k s cs L:=⟨hr.rw.ext E,hr.cap,hr.nil,hr.sm⟩
theorem RL.ln {α:Type} {h:Heap} {k:Nat} {s:Sl} {cs:α->List Value} {L:List α} (hr:RL h k s cs L):s.n=L.length:=hr.rw.ln
structure DI (h:Heap) (d:Dc):Prop where
 pf:RL h 4 d.hf Fld.cs d.fs
 pd:RL h 3 d.hd Df.cs d.ds
 pe:RL h 2 d.he Eqs.cs d.es
theorem DI.ext {h h':Heap} {d:Dc} (hd:DI h d) (E:Ext h h'):DI h' d:=⟨hd.pf.ext E,hd.pd.ext E,hd.pe.ext E⟩
structure DL (h:Heap) (s:Sl) (L:List Dc):Prop where
 r:RL h 5 s Dc.cs L
 i:∀d∈L,DI h d
theorem DL.ext {h h':Heap} {s:Sl} {L:List Dc} (hd:DL h s L) (E:Ext h h'):DL h' s L:=⟨hd.r.ext E,fun d hm=>(hd.i d hm).ext E⟩
structure GI (h:Heap) (g:Gl):Prop where
 r:RL h 1 g.hr nmC g.rs
 d:DL h g.hd g.ds
 e:RL h 6 g.he Ed.cs g.es
 t:RL h 3 g.ht To.cs g.ts
theorem GI.ext {h h':Heap} {g:Gl} (hg:GI h g) (E:Ext h h'):GI h' g:=⟨hg.r.ext E,hg.d.ext E,hg.e.ext E,hg.t.ext E⟩
theorem RL.take {α:Type} {h:Heap} {k:Nat} {s:Sl} {cs:α->List Value} {L:List α} (hr:RL h k s cs L) {i:Nat} (hi:i<=s.n):RL h k ⟨subA s.a (Int.toNat 0) s.c k,Int.toNat (i:Int)-Int.toNat 0,s.c-Int.toNat 0⟩ cs (L.take i):=by
 have h1:=hr.rw.1;have e:subA s.a (Int.toNat 0) s.c k=s.a:=subA_zero _ _ _;rw[e];refine⟨⟨by rw[Yc,Yu];simp only[Yc] at h1;show i-0=_;omega,fun hp=>?_⟩,by have:=hr.cap;show i-0<=s.c-0;omega,fun ha=>?_,by have:=hr.sm;rw[Yu];omega⟩
 .rw[Yc,Yu] at hp;obtain⟨b,o,ha,hall⟩:=hr.rw.2 (by rw[Yc];omega);refine⟨b,o,ha,fun j row hj=>hall j row ?_⟩;rw[List.map_take,Yyf] at hj;split at hj
  .exact hj
  .cases hj
 .have:=hr.nil ha;exact⟨by show i-0=0;omega,by show s.c-0=0;omega⟩
end Go.VC
end

section
namespace Go.VC
open Go.Proofs Go.LexS
theorem letter221 (b:UInt8) (h:Heap):Fn Pz 265 #[.int .u8 b.toNat] h fun v h'=>v=.bool (lt b)/\h'=h:=by
 apply vc265;unfold W265;unfold lt isLetter;generalize (b.toNat:Int)=n
 repeat' first
  | refine sBi (fun _=>?_) (fun _=>?_)
 all_goals
  refine⟨?_,rfl⟩;congr 1;rw[Bool.eq_iff_iff];simp only[Bool.or_eq_true,Yt,decide_eq_true_eq,Bool.false_eq_true,true_iff,false_iff];omega
theorem digit253 (b:UInt8) (h:Heap):Fn Pz 296 #[.int .u8 b.toNat] h fun v h'=>v=.bool (dg b)/\h'=h:=by
 apply vc296;unfold W296;unfold dg isDigit;refine sBi (fun c=>⟨?_,rfl⟩) (fun c=>⟨?_,rfl⟩)
 .rw[decide_eq_true (p:=(48:Int)<=b.toNat) c,Bool.true_and]
 .rw[decide_eq_false (p:=(48:Int)<=b.toNat) c,Bool.false_and]
theorem inner222 (b:UInt8) (h:Heap):Fn Pz 266 #[.int .u8 b.toNat] h fun v h'=>v=.bool (inn b)/\h'=h:=by
 apply vc266;unfold W266;refine (letter221 b h).mono ?_;rintro _ h3 ⟨rfl,rfl⟩;refine⟨_,rfl,sB_intro (fun c=>?_) (fun c=>?_)⟩
 .exact⟨by rw[show inn b=(lt b||dg b||((b.toNat:Int)==95)) from rfl,c];rfl,rfl⟩
 .refine (digit253 b _).mono ?_;rintro _ h6 ⟨rfl,rfl⟩;refine⟨_,rfl,sB_intro (fun d=>?_) (fun d=>?_)⟩
  .exact⟨by rw[show inn b=(lt b||dg b||((b.toNat:Int)==95)) from rfl,c,d];rfl,rfl⟩
  .exact⟨by rw[show inn b=(lt b||dg b||((b.toNat:Int)==95)) from rfl,c,d];rfl,rfl⟩
theorem isname189 (s:ByteArray) (h:Heap):Fn Pz 222 #[.string s] h fun v h'=>v=.bool (isName s.data.toList)/\h'=h:=by
 apply vc222;unfold W222;have hsz:=size_len s;rw[strEq];generalize hL:s.data.toList=L at *;refine sB_intro (fun he=>?_) (fun he=>?_)
 .have:L=[]:=Yyn he;subst this;exact⟨rfl,rfl⟩
 .have hne:L≠[]:=Yyo he;have hpos:0<L.length:=List.length_pos_iff.2 hne;obtain⟨b,hb,hby⟩:=byte_get (s:=s) (i:=0) (by omega);rw[hL] at hb;have hcons:L=b::L.drop 1:=by have:=drop_cons hb;rwa [List.drop_zero] at this
  have hdef:isName L=(decide (L.length<=16)&&lt b&&L.all inn):=by
   conv=>lhs;rw[hcons]
   rw[isName,<-hcons]
  rw[hdef];refine sB_intro (fun hgt=>?_) (fun hgt=>?_)
  .refine⟨?_,rfl⟩;rw[decide_eq_false (by have:=Yyn hgt;omega)];rfl
  .have h16:L.length<=16:=by have:=Yyo hgt;omega
   rw[decide_eq_true h16];refine⟨⟨by omega,by omega⟩,?_⟩;rw[show Int.toNat 0=0 from rfl,hby];refine (letter221 _ _).mono ?_;rintro v h3 ⟨rfl,rfl⟩;refine⟨_,rfl,sB_intro (fun hlet=>?_) (fun hlet=>?_)⟩
   .refine⟨?_,rfl⟩;rw[show lt b=false from by rw[Bool.not_eq_true'] at hlet;exact hlet];rfl
   .rw[show lt b=true from by rw[Bool.not_eq_false'] at hlet;exact hlet];refine up_loop (n:=s.size) (fun i h'=>h'=h3/\∀(j:Nat) (b:UInt8),j<i->L[j]?=some b->(!inn b)=false) ⟨rfl,fun j b hj=>by omega⟩ ?_;rintro-i h8 hi ⟨rfl,hd⟩;refine sB_intro (fun hlt=>?_) (fun hge=>?_)
    .have hlt':=lt_t hlt;obtain⟨y,hy,hby2⟩:=byte_get hlt';rw[hL] at hy;refine⟨⟨by omega,by omega⟩,?_⟩;rw[show Int.toNat (i:Int)=i from rfl,hby2];refine (inner222 _ _).mono ?_;rintro v h11 ⟨rfl,rfl⟩;refine⟨_,rfl,sB_intro (fun hp=>?_) (fun hp=>?_)⟩
     .refine⟨?_,rfl⟩;have:L.all inn=false:=by
       rw[<-Bool.not_eq_true,all_split];intro hh;have:=hh y i hy;rw[Bool.not_eq_true'] at hp;rw[show inn y=false from hp] at this;cases this
      rw[this];rfl
     .exact Up.next hlt' (by omega) ⟨rfl,scan_next (p:=fun b=>!inn b) hy hp hd⟩
    .have hge':=lt_f hge;refine⟨?_,rfl⟩;rw[(all_split inn L).2 fun b j hb=>by simpa using hd j b (by have:=(Ya.1 hb).1;omega) hb];rfl
theorem index190 (L:List Nm) (x:ByteArray) (s:Sl) (h:Heap) (hr:RL h 1 s nmC L) :
  Fn Pz 223 #[.slice s.a s.n s.c,.string x] h fun v h'=>(∃k:Int,v=.int .i64 k/\decide (k>=0)=decide (x.data.toList∈L))/\h'=h:=by
 apply vc223;unfold W223;have hn:=hr.ln;have hm:=hr.sm;refine up_loop (n:=s.n) (fun i h'=>h'=h/\∀(j:Nat) (y:Nm),j<i->L[j]?=some y->decide (x.data.toList=y)=false) ⟨rfl,fun j y hj=>by omega⟩ ?_;rintro-i h5 hi ⟨rfl,hd⟩;refine sB_intro (fun l=>?_) (fun l=>?_)
 .replace l:=lt_t l;refine hr.rw.nbI (by omega) (by omega) fun b o d g t=>?_;replace g:L[i]?=some d:=g;refine⟨_,t.hd,?_⟩;rw[strEq,bs_list];refine sB_intro (fun he=>?_) (fun hne=>?_)
  .have:=Yyn he;exact⟨⟨_,rfl,by rw[decide_eq_true (show (i:Int)>=0 by omega),decide_eq_true (by rw[this];exact Yb g)]⟩,rfl⟩
  .exact Up.next l (by omega) ⟨rfl,scan_next (p:=fun y=>decide (x.data.toList=y)) g hne hd⟩
 .replace l:=lt_f l;refine⟨⟨_,rfl,?_⟩,rfl⟩;rw[decide_eq_false (show ¬((-1:Int)>=0) by omega),decide_eq_false];intro hm;obtain⟨j,hj⟩:=Yf.1 hm;exact Yyo (hd j _ (by have:=(Ya.1 hj).1;omega) hj) rfl
theorem has133 (L:List Nm) (x:ByteArray) (s:Sl) (h:Heap) (hr:RL h 1 s nmC L) :
  Fn Pz 161 #[.slice s.a s.n s.c,.string x] h fun v h'=>v=.bool (decide (x.data.toList∈L))/\h'=h:=by
 apply vc161;unfold W161;refine (index190 L x s h hr).mono ?_;rintro v h3 ⟨⟨k,rfl,hk⟩,rfl⟩;exact⟨_,rfl,by rw[hk],rfl⟩
theorem own_rl {α:Type} {h:Heap} {b:Nat} {e:TypeId} {k:Nat} {cs:α->List Value} {L:List α} {xs:List Value} (hx:xs=(L.map cs).flatten) (ho:Own h b xs e) (hk:∀x,(cs x).length=k) (hl:L.length<=1048576) {n c:Nat} (hn:n=L.length) (hc:n<=c):RL h k ⟨some ⟨b,0,none⟩,n,c⟩ cs L:=by
 subst hx;refine⟨⟨by rw[Yc];exact hn,fun _=>⟨b,0,rfl,fun i row hi j v hj=>?_⟩⟩,hc,fun e=>by (cases e),hl⟩;have hr:∀r∈L.map cs,r.length=k:=fun r hr=>by obtain⟨x,_,rfl⟩:=Yp.1 hr;exact hk x
 have hjl:=(Ya.1 hj).1;rw[hr row (Yb hi)] at hjl;rw[addk_at,Nat.zero_add,ho.hc,getElem?_flatten _ i j row hr hi hjl];exact hj
theorem isword132 (s:ByteArray) (h:Heap):Fn Pz 160 #[.string s] h fun v h'=>v=.bool (isWord s.data.toList)/\Ext h h':=by
 apply vc160;unfold W160;refine newput (vs:=(keywords.map nmC).flatten) rfl fun h2 E o=>?_;refine (isname189 s h2).mono ?_;rintro _ h5 ⟨rfl,rfl⟩;refine⟨_,rfl,sB_intro (fun c=>?_) (fun c=>?_)⟩
 .refine⟨by decide,?_⟩;refine (has133 keywords s ⟨subA (some ⟨h.size,0,none⟩) (Int.toNat 0) 28 1,Int.toNat (28:Nat)-Int.toNat 0,28-Int.toNat 0⟩ h5 (own_rl rfl o (fun _=>rfl) (by decide) rfl (by decide))).mono ?_;rintro _ h8 ⟨rfl,rfl⟩;exact⟨_,rfl,by rw[show isWord s.data.toList=(isName s.data.toList && !decide (s.data.toList∈keywords)) from rfl,c];rfl,E⟩
 .exact⟨by rw[show isWord s.data.toList=(isName s.data.toList && !decide (s.data.toList∈keywords)) from rfl,c];rfl,E⟩
end Go.VC
end

section
namespace Go.VC
theorem wu64 {n:Int} (h0:0<=n) (h1:n<=18446744073709551615):IntKind.wrap .u64 n=n:=by
 simp[IntKind.wrap,IntKind.signed,IntKind.bits];omega
def inC (n:Int):List Value:=[.int .i64 n]
def wC (w:Nat):List Value:=[.int .u64 w]
def memB (ws:List Nat) (k:Nat):Bool:=(ws.getD (k/64) 0).testBit (k%64)
theorem shr_nat {w k:Nat} (hk:k<64):shrI .u64 (w:Int) (k:Int)=((w/2^k:Nat):Int):=by
 unfold shrI;have e:min (Int.toNat (k:Int)) (IntKind.bits .u64)=k:=by simp[IntKind.bits];omega
 rw[e];show Int.fdiv (w:Int) ((2:Int)^k)=_;rw[show ((2:Int)^k)=((2^k:Nat):Int) by simp,Int.fdiv_eq_ediv_of_nonneg _ (Int.natCast_nonneg _)];rfl
theorem and_one {w:Nat} (hw:w<2^64):andI .u64 (w:Int) 1=((w%2:Nat):Int):=by
 unfold andI;have e:(BitVec.ofInt (IntKind.bits .u64) (w:Int)&&&BitVec.ofInt (IntKind.bits .u64) 1).toNat=w%2:=by
  show (BitVec.ofInt 64 (w:Int)&&&BitVec.ofInt 64 ((1:Nat):Int)).toNat=w%2;rw[BitVec.ofInt_natCast,BitVec.ofInt_natCast,BitVec.toNat_and,BitVec.toNat_ofNat,BitVec.toNat_ofNat,Nat.mod_eq_of_lt hw];exact Nat.and_one_is_mod w
 rw[e];exact wu64 (by omega) (by omega)
theorem bit_has {w k:Nat} (hw:w<2^64) (hk:k<64):(andI .u64 (shrI .u64 (w:Int) (k:Int)) 1==1)=w.testBit k:=by
 rw[shr_nat hk,and_one (Nat.lt_of_le_of_lt (Nat.div_le_self _ _) hw),Nat.testBit_eq_decide_div_mod_eq];by_cases h:w/2^k%2=1
 .rw[h,decide_eq_true rfl];rfl
 .rw[decide_eq_false h];exact beq_eq_false_iff_ne.2 (by omega)
theorem shl_one {k:Nat} (hk:k<64):shlI .u64 1 (k:Int)=((2^k:Nat):Int):=by
 unfold shlI;have e:min (Int.toNat (k:Int)) (IntKind.bits .u64)=k:=by simp[IntKind.bits];omega
 rw[e,Int.one_mul];have h2:2^k<2^64:=Nat.pow_lt_pow_right (by omega) hk;rw[show ((2:Int)^k)=((2^k:Nat):Int) by simp];generalize 2^k=m at *;exact wu64 (by omega) (by omega)
theorem or_nat {a b:Nat} (ha:a<2^64) (hb:b<2^64):orI .u64 (a:Int) (b:Int)=((a|||b:Nat):Int):=by
 unfold orI;have e:(BitVec.ofInt (IntKind.bits .u64) (a:Int)|||BitVec.ofInt (IntKind.bits .u64) (b:Int)).toNat=a|||b:=by
  show (BitVec.ofInt 64 (a:Int)|||BitVec.ofInt 64 (b:Int)).toNat=_;rw[BitVec.ofInt_natCast,BitVec.ofInt_natCast,BitVec.toNat_or,BitVec.toNat_ofNat,BitVec.toNat_ofNat,Nat.mod_eq_of_lt ha,Nat.mod_eq_of_lt hb]
 rw[e];have:=Nat.or_lt_two_pow ha hb;exact wu64 (by omega) (by omega)
theorem memB_set {ws:List Nat} {n k:Nat} (hn:n/64<ws.length):memB (ws.set (n/64) (ws.getD (n/64) 0|||2^(n%64))) k=(decide (k=n)||memB ws k):=by
 unfold memB;by_cases h:k/64=n/64
 .rw[h,Yo,Yq hn];show Nat.testBit (ws.getD (n/64) 0|||2^(n%64)) (k%64)=_;rw[Nat.testBit_or,Nat.testBit_two_pow,Bool.or_comm];congr 1;by_cases h2:k=n
  .subst h2;simp
  .rw[decide_eq_false h2];simp only[decide_eq_false_iff_not];omega
 .rw[Yo,Yy (fun e=>h e.symm),<-Yo];have:k≠n:=fun e=>h (by rw[e]);simp[this]
theorem memB_zero (n k:Nat):memB (List.replicate n 0) k=false:=by
 unfold memB;rw[Yo,List.getElem?_replicate];split<;>simp
theorem memB_take {ws:List Nat} {n:Nat} (h:∀i w,n<=i->ws[i]?=some w->w=0) (k:Nat):memB (ws.take n) k=memB ws k:=by
 unfold memB;rw[Yo,Yo,Yyf];split
 .rfl
 .rename_i hn;cases hw:ws[k/64]? with
  | none=>rfl
  | some w=>rw[h _ w (by omega) hw];simp
structure SetV (h:Heap) (s:Sl) (p:Nat->Bool):Prop where
 ex:∃ws:List Nat,Rw h 1 s (ws.map wC)/\ws.length<=64/\(∀w∈ws,w<2^64)/\∀k,memB ws k=p k
theorem SetV.ext {h h':Heap} {s:Sl} {p:Nat->Bool} (hs:SetV h s p) (E:Ext h h'):SetV h' s p:=by
 obtain⟨ws,h1,h2⟩:=hs.ex;exact⟨ws,h1.ext E,h2⟩
end Go.VC
end

section
namespace Go.VC
open Go.RowKit
structure Ev where
 send:Bool
 peer:Int
 label:Int
 deriving DecidableEq
def Ev.cs (x:Ev):List Value:=[.bool x.send,.int .i64 x.peer,.int .i64 x.label]
structure Ar where
 x:Ev
 to:Int
def Ar.cs (a:Ar):List Value:=[.bool a.x.send,.int .i64 a.x.peer,.int .i64 a.x.label,.int .i64 a.to]
def slC (s:Sl):List Value:=[.slice s.a s.n s.c]
def vis1 (role:Int) (x:Ed):Option Ev:=if role=x.a then some ⟨true,x.b,x.l⟩ else if role=x.b then some ⟨false,x.a,x.l⟩ else none
def quietL (es:List Ed) (role:Int) (n:Nat):List Int:=es.filterMap fun x=>if x.f=(n:Int) then (match vis1 role x with | none=>some x.t | some _=>none) else none
def visL (es:List Ed) (role:Int) (n:Nat):List Ar:=es.filterMap fun x=>if x.f=(n:Int) then (vis1 role x).map fun e=>⟨e,x.t⟩ else none
theorem quietL_snoc (es:List Ed) (role:Int) (n:Nat) (x:Ed):quietL (es++[x]) role n=quietL es role n++(if x.f=(n:Int) then (match vis1 role x with | none=>[x.t] | some _=>[]) else []):=by
 unfold quietL;rw[List.filterMap_append];congr 1;by_cases h:x.f=(n:Int)
 .simp only[List.filterMap_cons,List.filterMap_nil,if_pos h];cases vis1 role x<;>rfl
 .simp only[List.filterMap_cons,List.filterMap_nil,if_neg h]
theorem visL_snoc (es:List Ed) (role:Int) (n:Nat) (x:Ed):visL (es++[x]) role n=visL es role n++(if x.f=(n:Int) then (match vis1 role x with | none=>[] | some e=>[⟨e,x.t⟩]) else []):=by
 unfold visL;rw[List.filterMap_append];congr 1;by_cases h:x.f=(n:Int)
 .simp only[List.filterMap_cons,List.filterMap_nil,if_pos h];cases vis1 role x<;>rfl
 .simp only[List.filterMap_cons,List.filterMap_nil,if_neg h]
def nest {α:Type} (e:TypeId) (k:Nat) (cs:α->List Value) (q:Sl × List α):It:=.sl q.1 e k (q.2.map cs)
theorem set_mid {α:Type} {P R:List α} {Q:List α} {i:Nat} (hi:i<Q.length) (x:α):(P++Q++R).set (P.length+i) x=P++Q.set i x++R:=by
 rw[Yz,List.set_append_right _ _ (by omega),Nat.add_sub_cancel_left,List.set_append_left _ _ hi,Yz]
theorem get_mid {α:Type} {P R:List α} {Q:List α} {i:Nat} (hi:i<Q.length):(P++Q++R)[P.length+i]?=Q[i]?:=by
 rw[Yz,Yyc (by omega),Nat.add_sub_cancel_left,Yyi hi]
theorem St.nestAt {α:Type} {P:Program} {h0 h:Heap} {A B:List It} {Q:List (Sl × List α)} {e:TypeId} {n:Nat} {cs:α->List Value} (hs:St h0 h (A++Q.map (nest e n cs)++B)) {i:Nat} {q:Sl × List α} (hi:Q[i]?=some q)
  {t bytes:Nat} (hT:appB P t e n bytes=true) (d:α) {a:Addr} (ha:atC h a (cs d)) (hn:(cs d).length=n) (h1:(cs d).all oneB=true) (hb:(q.1.n+1)*bytes<=140737488355328) (h63:q.1.n+1<=maxLen)
  {K:Sl->Heap->Prop} (hK:∀(r:Sl) (h':Heap),r.n=q.1.n+1->St h0 h' (A++(Q.set i (r,q.2++[d])).map (nest e n cs)++B)->K r h') :
  App P t t (.slice q.1.a q.1.n q.1.c) (.slice (some a) 1 1) h K:=by
 have hil:i<Q.length:=(Ya.1 hi).1;have hil':i<(Q.map (nest e n cs)).length:=by rw[Yc];exact hil
 refine hs.appended (A.length+i) (rows:=q.2.map cs) (by rw[get_mid hil',Yd,hi];rfl) hT (news:=[cs d]) (by simpa using ha) rfl (fun r hr=>by rw[Ye] at hr;rw[hr];exact hn) (by simpa using h1) hb h63 fun r h' hrn h3=>hK r h' hrn ?_;rw[set_mid hil'] at h3;have e1:(Q.map (nest e n cs)).set i (.sl r e n (q.2.map cs++[cs d]))=(Q.set i (r,q.2++[d])).map (nest e n cs):=by
  rw[List.map_set];congr 1;unfold nest;simp
 rw[e1] at h3;exact h3
theorem St.newbE {h0 h:Heap} {L:List It} (hs:St h0 h L) {xs:List Value} {e:TypeId} {K:Heap->Prop} (hK:∀h2,Ext h h2->St h0 h2 (.blk h.size xs e::L)->K h2):∀h2:Heap,h2=h.push (.cells ⟨xs⟩ e)->K h2:=
 VC.newb fun h2 E o=>hK h2 E (hs.more E (i:=.blk h.size xs e) o fun b hb=>by cases hb;exact Yyt _)
theorem St.perm {h0 h:Heap} {L L':List It} (hs:St h0 h L) (hp:L.Perm L'):St h0 h L':=
 ⟨hs.ext,fun i hi=>hs.ok i (hp.mem_iff.2 hi),(hp.pairwise_iff (fun {a b} hab x hx hy=>hab x hy hx)).1 hs.ap⟩
theorem St.nests {α:Type} {h0 h:Heap} {A B:List It} {e:TypeId} {k:Nat} {cs:α->List Value} (hs:St h0 h (A++B)):∀n:Nat,St h0 h (A++(List.replicate n ((⟨.none,0,0⟩,[]):Sl × List α)).map (nest e k cs)++B)
 | 0=>by simpa using hs
 | n+1=>by
  have h1:=(hs.nests (α:=α) (e:=e) (k:=k) (cs:=cs) n).nil_ e k;refine h1.perm ?_;rw[List.replicate_succ,Yyl,Yz,Yz];have:nest e k cs ((⟨.none,0,0⟩,[]):Sl × List α)=.sl ⟨.none,0,0⟩ e k []:=rfl;rw[this];exact List.perm_middle.symm
theorem sm_nil {h h':Heap}:Sm [] h h':=fun a ha=>by cases ha
theorem sm_cons {h h':Heap} {a:Addr} {al:List Addr} (hb:h'[a.block]?=h[a.block]?) (hr:Sm al h h'):Sm (a::al) h h':=by
 intro x hx k v hv;rcases Yr.1 hx with rfl | hx
 .rw[hc_of_block (h:=h) (by rw[addk_block'];exact hb)];exact hv
 .exact hr x hx k v hv
theorem St.same {h0 h h':Heap} {L L':List It} (hs:St h0 h L) (hs':St h0 h' L') (k k':Nat) {b:Nat} {xs:List Value} {e:TypeId} (hk:L[k]?=some (.blk b xs e)) (hk':L'[k']?=some (.blk b xs e)):h'[b]?=h[b]?:=(hs'.get hk').trans (hs.get hk).symm
structure LkI (h:Heap) (p:Addr) (g:Gl) (role:Int):Prop where
 ex:∃(hq hv:Sl) (qs vs:Nat->Sl),p.spot=none/\atC h p (g.cs++[.int .i64 role,.slice hq.a hq.n hq.c,.slice hv.a hv.n hv.c])/\hq.n=g.n.toNat/\hv.n=g.n.toNat /\
  Rw h 1 hq ((List.range g.n.toNat).map fun i=>slC (qs i))/\Rw h 1 hv ((List.range g.n.toNat).map fun i=>slC (vs i)) /\
  (∀i,i<g.n.toNat->Rw h 1 (qs i) ((quietL g.es role i).map inC))/\∀i,i<g.n.toNat->Rw h 4 (vs i) ((visL g.es role i).map Ar.cs)
theorem LkI.ext {h h':Heap} {p:Addr} {g:Gl} {role:Int} (hl:LkI h p g role) (E:Ext h h'):LkI h' p g role:=by
 obtain⟨hq,hv,qs,vs,h0,h1,h2,h3,h4,h5,h6,h7⟩:=hl.ex;exact⟨hq,hv,qs,vs,h0,atC_ext E h1,h2,h3,h4.ext E,h5.ext E,fun i hi=>(h6 i hi).ext E,fun i hi=>(h7 i hi).ext E⟩
end Go.VC
end

section
namespace Go.VC
theorem map_get {α β:Type} (f:α->β) (L:List α) (i:Nat):(L.map f)[i]?=(L[i]?).map f:=Yd
theorem map_splice {α:Type} (f:α->Value) {L:List α} {i:Nat} (hi:i<L.length) (y:α):splice (L.map f) i [f y]=(L.set i y).map f:=by
 unfold splice;rw[List.map_set,List.set_eq_take_append_cons_drop,if_pos (by rw[Yc];exact hi)];simp
inductive Qr (es:List Ed) (role:Int) (l:List Int):Int->Prop where
 | base {a:Int}:a∈l->Qr es role l a
 | step {a b:Int}:Qr es role l a->(∃x∈es,vis1 role x=none/\x.f=a/\x.t=b)->Qr es role l b
structure CL (es:List Ed) (role:Int) (n:Nat) (l:List Int) (D:List Bool) (T:List Int):Prop where
 len:D.length=n
 cnt:T.length=D.count true
 mem:∀v,v∈T ↔ 0<=v/\D[v.toNat]?=some true
 r:∀v∈T,Qr es role l v
theorem CL.start (es:List Ed) (role:Int) (n:Nat) (l:List Int):CL es role n l (List.replicate n false) []:=by
 refine⟨by rw[Yg],by rw[List.count_replicate];rfl,fun v=>⟨fun h=>(by cases h),fun ⟨_,h⟩=>?_⟩,fun v h=>by cases h⟩;have:=List.eq_of_mem_replicate (Yb h);cases this
theorem CL.push {es:List Ed} {role:Int} {n:Nat} {l:List Int} {D:List Bool} {T:List Int} (h:CL es role n l D T) {b:Int} (h0:0<=b) (hb:D[b.toNat]?=some false) (hr:Qr es role l b):CL es role n l (D.set b.toNat true) (T++[b]):=by
 have hbl:=(Ya.1 hb).1;have hbe:=(Ya.1 hb).2;refine⟨by rw[Yyh];exact h.len,?_,fun v=>?_,fun v hv=>?_⟩
 .rw[List.count_set hbl,hbe,Yh,h.cnt];rfl
 .rw[Yk,Ye,h.mem];constructor
  .rintro (⟨h1,h2⟩ | rfl)
   .refine⟨h1,?_⟩;by_cases e:b.toNat=v.toNat
    .rw[e,Yq (by omega)]
    .rw[Yy e];exact h2
   .exact⟨h0,by rw[Yq hbl]⟩
  .rintro⟨h1,h2⟩;by_cases e:b.toNat=v.toNat
   .right;omega
   .left;rw[Yy e] at h2;exact⟨h1,h2⟩
 .rcases Yk.1 hv with hv | hv
  .exact h.r v hv
  .rw[Ye] at hv;rw[hv];exact hr
theorem CL.le {es:List Ed} {role:Int} {n:Nat} {l:List Int} {D:List Bool} {T:List Int} (h:CL es role n l D T):T.length<=n:=by
 rw[h.cnt,<-h.len];exact List.count_le_length
theorem quietL_mem {es:List Ed} {role:Int} {n:Nat} {b:Int}:b∈quietL es role n ↔ ∃x∈es,vis1 role x=none/\x.f=n/\x.t=b:=by
 unfold quietL;rw[Yym];constructor
 .rintro⟨x,hx,h⟩;split at h
  .rename_i hf;cases hv:vis1 role x with
   | none=>rw[hv] at h;exact⟨x,hx,hv,hf,Yyp h⟩
   | some e=>rw[hv] at h;cases h
  .cases h
 .rintro⟨x,hx,hv,hf,rfl⟩;exact⟨x,hx,by rw[if_pos hf,hv]⟩
theorem CL.end_ {es:List Ed} {role:Int} {n:Nat} {l:List Int} {D:List Bool} {T:List Int} (h:CL es role n l D T) (hl:∀x∈l,x∈T) (hc:∀v∈T,∀b∈quietL es role v.toNat,b∈T) (v:Int):v∈T ↔ Qr es role l v:=by
 refine⟨h.r v,fun hq=>?_⟩
 induction hq with
 | base hm=>exact hl _ hm
 | @step a b _ hx ih=>
  obtain⟨x,hx,hv,hf,rfl⟩:=hx;exact hc _ ih _ (quietL_mem.2 ⟨x,hx,hv,by have:=((h.mem a).1 ih).1;omega,rfl⟩)
noncomputable def clo (es:List Ed) (role:Int) (l:List Int):Nat->Bool:=fun j=>by classical exact decide (Qr es role l (j:Int))
theorem clo_iff {es:List Ed} {role:Int} {l:List Int} {j:Nat}:clo es role l j=true ↔ Qr es role l (j:Int):=by unfold clo;simp
def cmpI (x y:Int):Int:=if x<y then -1 else if x>y then 1 else 0
def orI3 (x y:Int):Int:=if x≠0 then x else y
def cmpE (x y:Ev):Int:=if x.send≠y.send then (if x.send then -1 else 1) else orI3 (cmpI x.peer y.peer) (cmpI x.label y.label)
def evLt (x y:Ev):Prop:=(x.send=true/\y.send=false)\/(x.send=y.send/\(x.peer<y.peer\/(x.peer=y.peer/\x.label<y.label)))
instance (x y:Ev):Decidable (evLt x y):=by unfold evLt;infer_instance
theorem cmpE_neg {x y:Ev}:cmpE x y<0 ↔ evLt x y:=by
 unfold cmpE evLt orI3 cmpI;obtain⟨s,p,l⟩:=x;obtain⟨t,q,m⟩:=y;cases s<;>cases t<;>simp<;>(repeat' split)<;>omega
theorem ev_ext {x y:Ev} (h1:x.send=y.send) (h2:x.peer=y.peer) (h3:x.label=y.label):x=y:=by
 obtain⟨s,p,l⟩:=x;obtain⟨t,q,m⟩:=y
 simp_all
theorem evLt_irr (x:Ev):¬evLt x x:=by unfold evLt;intro h;rcases h with ⟨h1,h2⟩ | ⟨_,h | ⟨_,h⟩⟩<;>first | (rw[h1] at h2;cases h2) | omega
theorem evLt_trans {x y z:Ev} (h1:evLt x y) (h2:evLt y z):evLt x z:=by
 unfold evLt at *;obtain⟨s,p,l⟩:=x;obtain⟨t,q,m⟩:=y;obtain⟨u,r,n⟩:=z;cases s<;>cases t<;>cases u<;>simp_all<;>omega
theorem evLt_tri (x y:Ev):evLt x y\/x=y\/evLt y x:=by
 unfold evLt;obtain⟨s,p,l⟩:=x;obtain⟨t,q,m⟩:=y;cases s<;>cases t<;>simp<;>omega
def compactL:List Ev->List Ev
 | []=>[]
 | x::r=>match compactL r with
  | []=>[x]
  | y::t=>if x=y then y::t else x::y::t
theorem compactL_mem:∀(l:List Ev) (x:Ev),x∈compactL l ↔ x∈l
 | [],x=>by simp[compactL]
 | a::r,x=>by
  have ih:=compactL_mem r;rw[compactL];split
  .rename_i h;rw[h] at ih;have:=ih x
   simp_all
  .rename_i y t h;rw[h] at ih;have h1:=ih x;split
   .rename_i e;subst e;have h2:=(ih a).1 (by simp);rw[h1];simp only[Yr];constructor
    .exact .inr
    .rintro (rfl | h)
     .exact h2
     .exact h
   .rw[Yr,h1,Yr]
theorem compactL_sorted:∀(l:List Ev),l.Pairwise (fun a b=>¬evLt b a)->(compactL l).Pairwise evLt
 | [],_=>by simp[compactL]
 | a::r,h=>by
  obtain⟨h1,h2⟩:=List.pairwise_cons.1 h;have ih:=compactL_sorted r h2;rw[compactL];split
  .simp
  .rename_i y t hc;rw[hc] at ih;split
   .exact ih
   .rename_i hne;refine List.pairwise_cons.2 ⟨fun z hz=>?_,ih⟩;have hay:evLt a y:=by
     have hy:y∈r:=(compactL_mem r y).1 (by rw[hc];simp);rcases evLt_tri a y with h3 | h3 | h3
     .exact h3
     .exact absurd h3 hne
     .exact absurd h3 (h1 y hy)
    rcases Yr.1 hz with rfl | hz
    .exact hay
    .exact evLt_trans hay ((List.pairwise_cons.1 ih).1 z hz)
theorem sorted_ext:∀(l m:List Ev),l.Pairwise evLt->m.Pairwise evLt->(∀x,x∈l ↔ x∈m)->l=m
 | [],[],_,_,_=>rfl
 | [],b::m,_,_,h=>absurd ((h b).2 (by simp)) (by simp)
 | a::l,[],_,_,h=>absurd ((h a).1 (by simp)) (by simp)
 | a::l,b::m,hl,hm,h=>by
  obtain⟨h1,h2⟩:=List.pairwise_cons.1 hl;obtain⟨h3,h4⟩:=List.pairwise_cons.1 hm;have hab:a=b:=by
   rcases Yr.1 ((h a).1 (by simp)) with e | ha
   .exact e
   .rcases Yr.1 ((h b).2 (by simp)) with e | hb
    .exact e.symm
    .exact absurd (evLt_trans (h1 b hb) (h3 a ha)) (evLt_irr a)
  subst hab;congr 1;refine sorted_ext l m h2 h4 fun x=>?_;have hx:=h x;rw[Yr,Yr] at hx;constructor
  .intro hm';rcases hx.1 (.inr hm') with rfl | h5
   .exact absurd (h1 x hm') (evLt_irr x)
   .exact h5
  .intro hm';rcases hx.2 (.inr hm') with rfl | h5
   .exact absurd (h3 x hm') (evLt_irr x)
   .exact h5
def insE (x:Ev):List Ev->List Ev
 | []=>[x]
 | y::r=>if evLt y x then y::insE x r else if x=y then y::r else x::y::r
theorem insE_mem (x z:Ev):∀l:List Ev,z∈insE x l ↔ z=x\/z∈l
 | []=>by simp[insE]
 | y::r=>by
  rw[insE];split
  .rw[Yr,insE_mem x z r,Yr];constructor
   .rintro (h | h | h)
    .exact .inr (.inl h)
    .exact .inl h
    .exact .inr (.inr h)
   .rintro (h | h | h)
    .exact .inr (.inl h)
    .exact .inl h
    .exact .inr (.inr h)
  .split
   .rename_i e;subst e;simp
   .simp
theorem insE_sorted (x:Ev):∀l:List Ev,l.Pairwise evLt->(insE x l).Pairwise evLt
 | [],_=>by simp[insE]
 | y::r,h=>by
  obtain⟨h1,h2⟩:=List.pairwise_cons.1 h;rw[insE];split
  .rename_i hyx;refine List.pairwise_cons.2 ⟨fun z hz=>?_,insE_sorted x r h2⟩;rcases (insE_mem x z r).1 hz with rfl | hz
   .exact hyx
   .exact h1 z hz
  .split
   .exact h
   .rename_i hyx hne;have hxy:evLt x y:=by
     rcases evLt_tri x y with h3 | h3 | h3
     .exact h3
     .exact absurd h3 hne
     .exact absurd h3 hyx
    refine List.pairwise_cons.2 ⟨fun z hz=>?_,h⟩;rcases Yr.1 hz with rfl | hz
    .exact hxy
    .exact evLt_trans hxy (h1 z hz)
def sortE (l:List Ev):List Ev:=l.foldr insE []
theorem sortE_mem (l:List Ev) (x:Ev):x∈sortE l ↔ x∈l:=by
 unfold sortE
 induction l with
 | nil=>simp
 | cons a l ih=>rw[List.foldr_cons,insE_mem,ih,Yr]
theorem sortE_sorted (l:List Ev):(sortE l).Pairwise evLt:=by
 unfold sortE
 induction l with
 | nil=>simp
 | cons a l ih=>exact insE_sorted a _ ih
theorem compact_sortE {l l':List Ev} (hp:l'.Perm l) (hs:l'.Pairwise fun a b=>¬evLt b a):compactL l'=sortE l:=
 sorted_ext _ _ (compactL_sorted l' hs) (sortE_sorted l) fun x=>by rw[compactL_mem,sortE_mem,hp.mem_iff]
def elems (p:Nat->Bool):List Nat:=(List.range 4096).filter p
theorem elems_mem {p:Nat->Bool} {j:Nat}:j∈elems p ↔ j<4096/\p j=true:=by unfold elems;rw[List.mem_filter,List.mem_range]
def toL (es:List Ed) (role:Int) (p:Nat->Bool) (x:Ev):List Int:=(elems p).flatMap fun n=>(visL es role n).filterMap fun a=>if a.x=x then some a.to else none
def evL (es:List Ed) (role:Int) (p:Nat->Bool):List Ev:=(elems p).flatMap fun n=>(visL es role n).map (·.x)
def evs (es:List Ed) (role:Int) (p:Nat->Bool):List Ev:=sortE (evL es role p)
end Go.VC
end

section
namespace Go.VC
structure Mv where
 f:Int
 send:Bool
 peer:Int
 label:Int
 t:Int
 ag:Bool
 deriving DecidableEq
def Mv.cs (m:Mv):List Value:=[.int .i64 m.f,.bool m.send,.int .i64 m.peer,.int .i64 m.label,.int .i64 m.t,.bool m.ag]
abbrev PSet:=Nat->Bool
open Classical in
noncomputable def rowI:List PSet->PSet->Nat
 | [],_=>0
 | q::r,p=>if q=p then 0 else rowI r p+1
open Classical in
noncomputable def rowS (S:List PSet) (p:PSet):List PSet:=if p∈S then S else S++[p]
noncomputable def arcsF (es:List Ed) (role:Int) (i:Nat) (p:PSet):List Ev->List PSet->List Mv->List PSet × List Mv
 | [],S,M=>(S,M)
 | x::r,S,M=>arcsF es role i p r (rowS S (clo es role (toL es role p x))) (M++[⟨i,x.send,x.peer,x.label,rowI S (clo es role (toL es role p x)),false⟩])
noncomputable def viewsF (es:List Ed) (role:Int):Nat->Nat->List PSet->List Mv->Option (List PSet × List Mv)
 | 0,_,_,_=>none
 | f+1,i,S,M=>match S[i]? with
  | none=>some (S,M)
  | some p=>if (arcsF es role i p (evs es role p) S M).1.length>200 then none else viewsF es role f (i+1) (arcsF es role i p (evs es role p) S M).1 (arcsF es role i p (evs es role p) S M).2
noncomputable def views (g:Gl) (role:Int):Option (List PSet × List Mv):=viewsF g.es role 202 0 [clo g.es role [g.s]] []
end Go.VC
end

section
namespace Go.VC
structure Ti where
 ag:Bool
 k:Int
 x:Ev
 deriving DecidableEq
def Ti.cs (t:Ti):List Value:=[.bool t.ag,.int .i64 t.k,.bool t.x.send,.int .i64 t.x.peer,.int .i64 t.x.label]
def ti0:Ti:=⟨false,0,⟨false,0,0⟩⟩
def updT (T:List Ti) (n:Nat) (f:Ti->Ti):List Ti:=match T[n]? with | some t=>T.set n (f t) | none=>T
def own1 (role:Int) (s:List Bool × List Ti) (x:Ed):List Bool × List Ti:=
 if x.a=role then (s.1.set x.f.toNat true,updT s.2 x.f.toNat fun t=>{ t with ag:=x.ag }) else s
def own2 (es:List Ed) (O:List Bool) (T:List Ti) (t:To):List Ti:=
 match O[t.s.toNat]?,es[t.e.toNat]? with
 | some true,some x=>updT T t.s.toNat fun q=>⟨q.ag,t.k,⟨true,x.b,x.l⟩⟩
 | _,_=>T
def ownE (es:List Ed) (role:Int) (n:Nat):List Bool × List Ti:=es.foldl (own1 role) (List.replicate n false,List.replicate n ti0)
def ownT (es:List Ed) (ts:List To) (role:Int) (n:Nat):List Ti:=ts.foldl (own2 es (ownE es role n).1) (ownE es role n).2
def sndAt (L:List Ev) (i:Nat):Bool:=match L[i]? with | some x=>x.send | none=>false
def badV (F:Nat->List Ev) (en:Nat->Bool) (l:List Nat) (n:Nat):Bool:=sndAt (F n) 0&&(en n || !sndAt (F n) ((F n).length-1)||l.any fun k=>en k||decide (F n≠F k))
def stepV (F:Nat->List Ev) (en:Nat->Bool) (O:List Bool) (T:List Ti) (l:List Nat) (st:Option (Bool × Ti)) (n:Nat):Option (Bool × Ti):=
 match st with
 | none=>none
 | some (k,o)=>if badV F en l n then none else match O[n]?,T[n]? with
  | some true,some t=>if k&&decide (t≠o) then none else some (true,t)
  | _,_=>some (k,o)
def viewV (F:Nat->List Ev) (en:Nat->Bool) (O:List Bool) (T:List Ti) (l:List Nat):Option Ti:=(l.foldl (stepV F en O T l) (some (false,ti0))).map Prod.snd
structure Mch where
 role:Int
 n:Int
 s:Int
 fin:List Bool
 mv:List Mv
 li:List To
def updR (n:Nat) (x:Ti) (y:Mv):Mv:=if y.f=n/\y.send=true then { y with ag:=x.ag } else y
def limC (n:Nat) (x:Ti) (q:Mv × Nat):Option To:=if q.1.f=n/\q.1.send=true/\x.k>0/\x.x=⟨true,q.1.peer,q.1.label⟩ then some ⟨n,x.k,q.2⟩ else none
def limR (n:Nat) (x:Ti) (M:List Mv):List To:=M.zipIdx.filterMap (limC n x)
def rawL (vw:List Nat->Option Ti):Nat->List PSet->List Mv->List To->Option (List Mv × List To)
 | _,[],M,L=>some (M,L)
 | n,p::S,M,L=>match vw (elems p) with
  | none=>none
  | some x=>rawL vw (n+1) S (M.map (updR n x)) (L++limR n x M)
end Go.VC
end

section
namespace Go.VC
section
variable {K K':Type} [DecidableEq K] [DecidableEq K']
end
structure Sg where
 b:Int
 k:Int
 x:Ev
 ag:Bool
 num:Int
 deriving DecidableEq
def Sg.v (s:Sg):Value:=.agg ⟨[.int .i64 s.b,.int .i64 s.k,.bool s.x.send,.int .i64 s.x.peer,.int .i64 s.x.label,.bool s.ag,.int .i64 s.num]⟩
def Mv.ev (x:Mv):Ev:=⟨x.send,x.peer,x.label⟩
end Go.VC
end

section
namespace Go.VC
open Go.Proofs Go.LexS
namespace M
theorem inrows (L:List Int):∀r∈L.map inC,r.length=1:=fun r hr=>by obtain⟨x,_,rfl⟩:=Yp.1 hr;rfl
end M
variable [Mono]
namespace M
theorem nan151 (x:Int) (h:Heap):Fn Pz 111 #[.int .i64 x] h fun v h'=>v=.bool false/\h'=h:=by
 apply vc111;unfold W111;exact⟨by rw[bne_self_eq_false],rfl⟩
theorem cmp110 (x y:Int) (h:Heap):Fn Pz 54 #[.int .i64 x,.int .i64 y] h fun v h'=>v=.int .i64 (cmpI x y)/\h'=h:=by
 apply vc54;unfold W54;refine (nan151 x h).mono ?_;rintro _ _ ⟨rfl,rfl⟩;refine⟨_,rfl,?_⟩;refine (nan151 y _).mono ?_;rintro _ _ ⟨rfl,rfl⟩;refine⟨_,rfl,?_⟩;refine sB_f rfl (sB_f rfl ?_);unfold cmpI;refine sBi (fun c=>?_) (fun c=>sBi (fun d=>?_) (fun d=>?_))
 .exact⟨by rw[if_pos c],rfl⟩
 .exact⟨by rw[if_neg c,if_pos d],rfl⟩
 .exact⟨by rw[if_neg c,if_neg d],rfl⟩
theorem or109 (l:List Int) (s:Sl) (h:Heap) (hr:Rw h 1 s (l.map inC)) (hm:l.length<=1048576) :
  Fn Pz 53 #[.slice s.a s.n s.c] h fun v h'=>v=.int .i64 (l.foldr orI3 0)/\h'=h:=by
 apply vc53;unfold W53;have hn:=hr.ln;refine up_loop (n:=s.n) (fun i h'=>h'=h/\l.foldr orI3 0=(l.drop i).foldr orI3 0) ⟨rfl,rfl⟩ ?_;rintro-i h5 hi ⟨rfl,hq⟩;refine sB_intro (fun l2=>?_) (fun l2=>?_)
 .replace l2:=lt_t l2;refine hr.nbI (by omega) (by omega) fun b o d g t=>?_;replace g:l[i]?=some d:=g;have hd:l.drop i=d::l.drop (i+1):=by
   obtain⟨hl,he⟩:=Ya.1 g;rw[List.drop_eq_getElem_cons hl,he]
  rw[hd,List.foldr_cons] at hq;refine⟨_,t.hd,?_⟩;refine sBn (fun c=>?_) (fun c=>?_)
  .refine⟨?_,rfl⟩;rw[hq];unfold orI3;rw[if_pos c]
  .refine Up.next l2 (by omega) ⟨rfl,?_⟩;rw[hq];unfold orI3;rw[if_neg (by omega)]
 .replace l2:=lt_f l2;rw[List.drop_eq_nil_of_le (by omega)] at hq;exact⟨by rw[hq];rfl,rfl⟩
theorem compare138 (x y:Ev) (h:Heap):Fn Pz 125 #[.agg ⟨x.cs⟩,.agg ⟨y.cs⟩] h fun v h'=>v=.int .i64 (cmpE x y)/\Ext h h':=by
 apply vc125 x.send x.peer x.label y.send y.peer y.label;unfold W125;have hs:=St.refl h;refine hs.newb fun h7 hs=>?_;refine hs.newb fun h8 hs=>?_;refine⟨_,hs.rd 1 rfl rfl,?_⟩;refine⟨_,hs.rd 0 rfl rfl,?_⟩;refine sB_intro (fun c=>?_) (fun c=>?_)
 .have hne:x.send≠y.send:=by simpa using c
  refine⟨_,hs.rd 1 rfl rfl,?_⟩;unfold cmpE;rw[if_pos hne];refine sB_intro (fun d=>?_) (fun d=>?_)
  .exact⟨by rw[if_pos d],hs.ext⟩
  .exact⟨by rw[if_neg (by rw[d];simp)],hs.ext⟩
 .have he:x.send=y.send:=by simpa using c
  refine⟨_,hs.rd 1 rfl rfl,_,hs.rd 0 rfl rfl,_,hs.rd 1 rfl rfl,_,hs.rd 0 rfl rfl,?_⟩;refine (cmp110 _ _ _).mono ?_;rintro _ _ ⟨rfl,rfl⟩;refine⟨_,rfl,fun _ _ _ _ hv=>hv,?_⟩;refine (cmp110 _ _ _).mono ?_;rintro _ _ ⟨rfl,rfl⟩;refine⟨_,rfl,fun _ _ _ _ hv=>hv,?_⟩;refine hs.newb fun h22 hs=>?_;have hs2:=hs.blkS 2 1 ([cmpI x.peer y.peer,cmpI x.label y.label].map inC) rfl (inrows _) rfl (by decide);refine (or109 [cmpI x.peer y.peer,cmpI x.label y.label] _ h22 (hs2.rows 0 rfl (by omega)) (show 2<=1048576 by decide)).mono ?_;rintro _ _ ⟨rfl,rfl⟩;refine⟨_,rfl,?_,hs.ext⟩;unfold cmpE;rw[if_neg (by simpa using he)];show Value.int .i64 (orI3 _ (orI3 _ 0))=_;congr 1;unfold orI3;split
  .rfl
  .split<;>omega
end M
end Go.VC
end

section
namespace Go.VC
open Go.Proofs Go.LexS
structure Ms where
 p:Int
 l:Int
 deriving DecidableEq
def Ms.cs (x:Ms):List Value:=[.int .i64 x.p,.int .i64 x.l]
structure Ac where
 a:Int
 b:Int
 l:Int
 deriving DecidableEq
def Ac.cs (x:Ac):List Value:=[.int .i64 x.a,.int .i64 x.b,.int .i64 x.l]
def Ed.act (x:Ed):Ac:=⟨x.a,x.b,x.l⟩
def cmpMs (x y:Ms):Int:=orI3 (cmpI x.p y.p) (orI3 (cmpI x.l y.l) 0)
def cmpA (x y:Ac):Int:=orI3 (cmpI x.a y.a) (orI3 (cmpI x.b y.b) (orI3 (cmpI x.l y.l) 0))
def cmpEd (x y:Ed):Int:=cmpA x.act y.act
def msLt (x y:Ms):Prop:=x.p<y.p\/(x.p=y.p/\x.l<y.l)
instance (x y:Ms):Decidable (msLt x y):=by unfold msLt;infer_instance
def acLt (x y:Ac):Prop:=x.a<y.a\/(x.a=y.a/\(x.b<y.b\/(x.b=y.b/\x.l<y.l)))
instance (x y:Ac):Decidable (acLt x y):=by unfold acLt;infer_instance
theorem cmpMs_neg {x y:Ms}:cmpMs x y<0 ↔ msLt x y:=by
 unfold cmpMs msLt orI3 cmpI
 repeat' split
 all_goals omega
theorem cmpA_neg {x y:Ac}:cmpA x y<0 ↔ acLt x y:=by
 unfold cmpA acLt orI3 cmpI
 repeat' split
 all_goals omega
variable [Mono]
namespace M
theorem compareR204 (x y:Ev) (h:Heap):Fn Pz 185 #[.agg ⟨x.cs⟩,.agg ⟨y.cs⟩] h fun v h'=>v=.int .i64 (cmpE x y)/\Ext h h':=by
 apply vc185 x.send x.peer x.label y.send y.peer y.label;unfold W185;have hs:=St.refl h;refine hs.newb fun h7 hs=>?_;refine hs.newb fun h8 hs=>?_;refine⟨_,hs.rd 1 rfl rfl,?_⟩;refine⟨_,hs.rd 0 rfl rfl,?_⟩;refine sB_intro (fun c=>?_) (fun c=>?_)
 .have hne:x.send≠y.send:=by simpa using c
  refine⟨_,hs.rd 1 rfl rfl,?_⟩;unfold cmpE;rw[if_pos hne];refine sB_intro (fun d=>?_) (fun d=>?_)
  .exact⟨by rw[if_pos d],hs.ext⟩
  .exact⟨by rw[if_neg (by rw[d];simp)],hs.ext⟩
 .have he:x.send=y.send:=by simpa using c
  refine⟨_,hs.rd 1 rfl rfl,_,hs.rd 0 rfl rfl,_,hs.rd 1 rfl rfl,_,hs.rd 0 rfl rfl,?_⟩;refine (cmp110 _ _ _).mono ?_;rintro _ _ ⟨rfl,rfl⟩;refine⟨_,rfl,fun _ _ _ _ hv=>hv,?_⟩;refine (cmp110 _ _ _).mono ?_;rintro _ _ ⟨rfl,rfl⟩;refine⟨_,rfl,fun _ _ _ _ hv=>hv,?_⟩;refine hs.newb fun h22 hs=>?_;have hs2:=hs.blkS 2 1 ([cmpI x.peer y.peer,cmpI x.label y.label].map inC) rfl (inrows _) rfl (by decide);refine (or109 [cmpI x.peer y.peer,cmpI x.label y.label] _ h22 (hs2.rows 0 rfl (by omega)) (show 2<=1048576 by decide)).mono ?_;rintro _ _ ⟨rfl,rfl⟩;refine⟨_,rfl,?_,hs.ext⟩;unfold cmpE;rw[if_neg (by simpa using he)];show Value.int .i64 (orI3 _ (orI3 _ 0))=_;congr 1;unfold orI3;split
  .rfl
  .split<;>omega
theorem cmpM208 (x y:Ms) (h:Heap):Fn Pz 70 #[.agg ⟨x.cs⟩,.agg ⟨y.cs⟩] h fun v h'=>v=.int .i64 (cmpMs x y)/\Ext h h':=by
 apply vc70 x.p x.l y.p y.l;unfold W70;have hs:=St.refl h;refine hs.newb fun h7 hs=>?_;refine hs.newb fun h8 hs=>?_;refine⟨_,hs.rd 1 rfl rfl,_,hs.rd 0 rfl rfl,_,hs.rd 1 rfl rfl,_,hs.rd 0 rfl rfl,?_⟩;refine (cmp110 _ _ _).mono ?_;rintro _ _ ⟨rfl,rfl⟩;refine⟨_,rfl,fun _ _ _ _ hv=>hv,?_⟩;refine (cmp110 _ _ _).mono ?_;rintro _ _ ⟨rfl,rfl⟩;refine⟨_,rfl,fun _ _ _ _ hv=>hv,?_⟩;refine hs.newb fun h22 hs=>?_;have hs2:=hs.blkS 2 1 ([cmpI x.p y.p,cmpI x.l y.l].map inC) rfl (inrows _) rfl (by decide);refine (or109 [cmpI x.p y.p,cmpI x.l y.l] _ h22 (hs2.rows 0 rfl (by omega)) (show 2<=1048576 by decide)).mono ?_;rintro _ _ ⟨rfl,rfl⟩;exact⟨_,rfl,rfl,hs.ext⟩
theorem order245 (x y:Ac) (h:Heap):Fn Pz 130 #[.agg ⟨x.cs⟩,.agg ⟨y.cs⟩] h fun v h'=>v=.int .i64 (cmpA x y)/\Ext h h':=by
 apply vc130 x.a x.b x.l y.a y.b y.l;unfold W130;have hs:=St.refl h;refine hs.newb fun h7 hs=>?_;refine hs.newb fun h8 hs=>?_;refine⟨_,hs.rd 1 rfl rfl,_,hs.rd 0 rfl rfl,_,hs.rd 1 rfl rfl,_,hs.rd 0 rfl rfl,_,hs.rd 1 rfl rfl,_,hs.rd 0 rfl rfl,?_⟩;refine (cmp110 _ _ _).mono ?_;rintro _ _ ⟨rfl,rfl⟩;refine⟨_,rfl,fun _ _ _ _ hv=>hv,?_⟩;refine (cmp110 _ _ _).mono ?_;rintro _ _ ⟨rfl,rfl⟩;refine⟨_,rfl,fun _ _ _ _ hv=>hv,?_⟩;refine (cmp110 _ _ _).mono ?_;rintro _ _ ⟨rfl,rfl⟩;refine⟨_,rfl,fun _ _ _ _ hv=>hv,?_⟩;refine hs.newb fun h22 hs=>?_;have hs2:=hs.blkS 3 1 ([cmpI x.a y.a,cmpI x.b y.b,cmpI x.l y.l].map inC) rfl (inrows _) rfl (by decide);refine (or109 [cmpI x.a y.a,cmpI x.b y.b,cmpI x.l y.l] _ h22 (hs2.rows 0 rfl (by omega)) (show 3<=1048576 by decide)).mono ?_;rintro _ _ ⟨rfl,rfl⟩;exact⟨_,rfl,rfl,hs.ext⟩
theorem cmpE244 (x y:Ed) (h:Heap):Fn Pz 129 #[.agg ⟨x.cs⟩,.agg ⟨y.cs⟩] h fun v h'=>v=.int .i64 (cmpEd x y)/\Ext h h':=by
 apply vc129 x.f x.a x.b x.l x.t x.ag y.f y.a y.b y.l y.t y.ag;unfold W129;have hs:=St.refl h;refine hs.newb fun h7 hs=>?_;refine hs.newb fun h8 hs=>?_;refine⟨x.a,x.b,x.l,hs.at 1 rfl (o:=1) (n:=3) rfl,y.a,y.b,y.l,hs.at 0 rfl (o:=1) (n:=3) rfl,?_⟩;refine (order245 x.act y.act h8).mono ?_;rintro _ h23 ⟨rfl,E⟩;exact⟨_,rfl,rfl,(hs.step E).ext⟩
end M
end Go.VC
end

section
namespace Go.VC
def setOf (L:List Nat):PSet:=fun j=>decide (j∈L)
def Can (n:Nat) (L:List Nat):Prop:=L=(List.range n).filter fun j=>decide (j∈L)
theorem Can.mk (n:Nat) (p:Nat->Bool):Can n ((List.range n).filter p):=by
 unfold Can;apply List.filter_congr;intro x hx;by_cases hm:x∈(List.range n).filter p
 .rw[decide_eq_true hm];exact (List.mem_filter.1 hm).2
 .rw[decide_eq_false hm];cases hp:p x
  .rfl
  .exact absurd (List.mem_filter.2 ⟨hx,hp⟩) hm
theorem Can.lt {n:Nat} {L:List Nat} (h:Can n L):∀j∈L,j<n:=by
 intro j hj;rw[h,List.mem_filter,List.mem_range] at hj;exact hj.1
theorem elems_setOf {n:Nat} {L:List Nat} (h:Can n L) (hn:n<=4096):elems (setOf L)=L:=by
 unfold elems;have e:List.range 4096=List.range n++(List.range (4096-n)).map (n + ·):=by rw[<-List.range_add];congr 1;omega
 rw[e,List.filter_append];have e2:((List.range (4096-n)).map (n + ·)).filter (setOf L)=[]:=by
  rw[List.filter_eq_nil_iff];intro x hx;obtain⟨y,_,rfl⟩:=Yp.1 hx;unfold setOf;simp only[decide_eq_true_eq];intro hm;have:=h.lt _ hm;omega
 rw[e2,Yw];exact h.symm
def evsC (es:List Ed) (role:Int) (L:List Nat):List Ev:=sortE (L.flatMap fun n=>(visL es role n).map (·.x))
theorem evs_setOf {n:Nat} {L:List Nat} (h:Can n L) (hn:n<=4096) (es:List Ed) (role:Int):evs es role (setOf L)=evsC es role L:=by unfold evs evL evsC;rw[elems_setOf h hn]
def addC (es:List Ed) (role:Int) (L:List Nat):List Nat:=es.foldl (fun L x=>if (vis1 role x).isNone&&decide (x.f.toNat∈L) && !decide (x.t.toNat∈L) then L++[x.t.toNat] else L) L
def bfsC (es:List Ed) (role:Int):Nat->List Nat->List Nat
 | 0,L=>L
 | f+1,L=>bfsC es role f (addC es role L)
def okC (es:List Ed) (role:Int) (l:List Int) (L:List Nat):Bool:=
 l.all (fun v=>decide (0<=v)&&decide (v.toNat∈L))&&es.all (fun x=>!(vis1 role x).isNone || !decide (x.f.toNat∈L)||decide (x.t.toNat∈L)) &&
  (List.range L.length).all fun i=>match L[i]? with
   | some j=>l.any (fun v=>decide (v=(j:Int)))||es.any fun x=>(vis1 role x).isNone&&decide (x.f.toNat∈L.take i)&&decide (x.t=(j:Int))
   | none=>false
theorem okC_clo {es:List Ed} {role:Int} {l:List Int} {L:List Nat} (hes:∀x∈es,0<=x.f/\0<=x.t) (h:okC es role l L=true) (j:Nat):clo es role l j=decide (j∈L):=by
 unfold okC at h;simp only[Yt,List.all_eq_true,List.mem_range] at h;obtain⟨⟨h1,h2⟩,h3⟩:=h;have fwd:∀a:Int,Qr es role l a->0<=a/\a.toNat∈L:=by
  intro a ha
  induction ha with
  | base hm=>have:=h1 _ hm;simpa using this
  | step _ hx ih=>
   obtain⟨x,hx,hv,hf,rfl⟩:=hx;refine⟨(hes x hx).2,?_⟩;have:=h2 x hx;simp only[Bool.or_eq_true,Bool.not_eq_true',decide_eq_false_iff_not,decide_eq_true_eq] at this;rcases this with (h4 | h4) | h4
   .rw[hv] at h4;cases h4
   .exact absurd (by rw[hf];exact ih.2) h4
   .exact h4
 have bwd:∀i,i<=L.length->∀j∈L.take i,Qr es role l (j:Int):=by
  intro i
  induction i with
  | zero=>intro _ j hj;rw[Yyk] at hj;cases hj
  | succ i ih=>
   intro hi j hj;obtain⟨y,hy⟩:=get_some (l:=L) (i:=i) (by omega);rw[take_snoc hy,Yk,Ye] at hj;rcases hj with hj | rfl
   .exact ih (by omega) j hj
   .have:=h3 i (by omega);rw[hy] at this;simp only[Bool.or_eq_true,List.any_eq_true,decide_eq_true_eq,Yt] at this;rcases this with ⟨v,hv,rfl⟩ | ⟨x,hx,⟨h4,h5⟩,h6⟩
    .exact .base hv
    .have hq:=ih (by omega) _ h5;rw[show ((x.f.toNat:Nat):Int)=x.f by have:=hes x hx;omega] at hq;exact .step hq ⟨x,hx,Option.isNone_iff_eq_none.1 h4,rfl,h6⟩
 have hiff:clo es role l j=true ↔ j∈L:=by
  rw[clo_iff];constructor
  .intro h;have:=(fwd _ h).2;rwa [Ys] at this
  .intro h;exact bwd L.length (Yyt _) j (by rw[Yye];exact h)
 by_cases hj:j∈L
 .rw[decide_eq_true hj];exact hiff.2 hj
 .rw[decide_eq_false hj];cases hc:clo es role l j
  .rfl
  .exact absurd (hiff.1 hc) hj
def cloC (es:List Ed) (role:Int) (n:Nat) (l:List Int):Option (List Nat):=
 let L:=bfsC es role n (l.map Int.toNat).eraseDups
 if okC es role l L then some ((List.range n).filter fun j=>decide (j∈L)) else none
theorem cloC_ok {es:List Ed} {role:Int} {n:Nat} {l:List Int} {L:List Nat} (hes:∀x∈es,0<=x.f/\0<=x.t) (hlt:∀j:Nat,clo es role l j=true->j<n) (h:cloC es role n l=some L):Can n L/\clo es role l=setOf L:=by
 unfold cloC at h;simp only at h;split at h
 .rename_i hk;cases h;refine⟨Can.mk _ _,?_⟩
  funext j
  rw[okC_clo hes hk];unfold setOf;by_cases hj:j∈bfsC es role n (l.map Int.toNat).eraseDups
  .rw[decide_eq_true hj,decide_eq_true];have:clo es role l j=true:=by rw[okC_clo hes hk,decide_eq_true hj]
   exact List.mem_filter.2 ⟨List.mem_range.2 (hlt j this),decide_eq_true hj⟩
  .rw[decide_eq_false hj,decide_eq_false];intro hm;exact hj (Yyn (List.mem_filter.1 hm).2)
 .cases h
end Go.VC
end

section
namespace Go.Proofs
open Go.Shelf
def Tryz.lays146_ren:Go.Shelf.Ren:=⟨fun | 146=>298 | 221=>309 | 268=>311 | 138=>312 | 143=>313 | 195=>314 | 197=>315 | 218=>316 | 219=>317 | 260=>318 | 217=>319 | 225=>320 | 224=>321 | 267=>322 | 266=>323 | 314=>324 | n=>n,fun | 9=>9 | 31=>22 | 3=>3 | 4=>4 | 0=>0 | 105=>419 | 21=>21 | 5=>5 | 46=>204 | 119=>423 | 139=>426 | 138=>425 | 146=>338 | 51=>324 | n=>n,fun | 1=>1 | 3=>2 | 4=>3 | n=>n⟩
theorem Tryz.lays146:Go.Proofs.Lays.n146 Tryz.prog Tryz.lays146_ren:={
 mixed:=by kernel_rfl
 f138:=Tryz.func312.trans (congrArg some (by kernel_rfl))
 f143:=Tryz.func313.trans (congrArg some (by kernel_rfl))
 f146:=Tryz.func298.trans (congrArg some (by kernel_rfl))
 f195:=Tryz.func314.trans (congrArg some (by kernel_rfl))
 f197:=Tryz.func315.trans (congrArg some (by kernel_rfl))
 f217:=Tryz.func319.trans (congrArg some (by kernel_rfl))
 f218:=Tryz.func316.trans (congrArg some (by kernel_rfl))
 f219:=Tryz.func317.trans (congrArg some (by kernel_rfl))
 f221:=Tryz.func309.trans (congrArg some (by kernel_rfl))
 f224:=Tryz.func321.trans (congrArg some (by kernel_rfl))
 f225:=Tryz.func320.trans (congrArg some (by kernel_rfl))
 f260:=Tryz.func318.trans (congrArg some (by kernel_rfl))
 f266:=Tryz.func323.trans (congrArg some (by kernel_rfl))
 f267:=Tryz.func322.trans (congrArg some (by kernel_rfl))
 f268:=Tryz.func311.trans (congrArg some (by kernel_rfl))
 f314:=Tryz.func324.trans (congrArg some (by kernel_rfl))
 t0:=Tryz.underlying0
 a0:=Tryz.isAgg0
 z0:=Tryz.sizeOf0
 v0:=Tryz.zeroValue0
 t3:=Tryz.underlying3
 a3:=Tryz.isAgg3
 z3:=Tryz.sizeOf3
 v3:=Tryz.zeroValue3
 t4:=Tryz.underlying4
 a4:=Tryz.isAgg4
 z4:=Tryz.sizeOf4
 v4:=Tryz.zeroValue4
 t5:=Tryz.underlying5
 a5:=Tryz.isAgg5
 z5:=Tryz.sizeOf5
 v5:=Tryz.zeroValue5
 t9:=Tryz.underlying9
 a9:=Tryz.isAgg9
 z9:=Tryz.sizeOf9
 v9:=Tryz.zeroValue9
 t21:=Tryz.underlying21
 a21:=Tryz.isAgg21
 z21:=Tryz.sizeOf21
 v21:=Tryz.zeroValue21
 t31:=Tryz.underlying22
 a31:=Tryz.isAgg22
 z31:=Tryz.sizeOf22
 v31:=Tryz.zeroValue22
 t46:=Tryz.underlying204
 a46:=Tryz.isAgg204
 z46:=Tryz.sizeOf204
 v46:=Tryz.zeroValue204
 t51:=Tryz.underlying324
 a51:=Tryz.isAgg324
 z51:=Tryz.sizeOf324
 v51:=Tryz.zeroValue324
 t105:=Tryz.underlying419
 a105:=Tryz.isAgg419
 z105:=Tryz.sizeOf419
 v105:=Tryz.zeroValue419
 t119:=Tryz.underlying423
 a119:=Tryz.isAgg423
 z119:=Tryz.sizeOf423
 t138:=Tryz.underlying425
 a138:=Tryz.isAgg425
 z138:=Tryz.sizeOf425
 v138:=Tryz.zeroValue425
 t139:=Tryz.underlying426
 a139:=Tryz.isAgg426
 z139:=Tryz.sizeOf426
 v139:=Tryz.zeroValue426
 t146:=Tryz.underlying338
 a146:=Tryz.isAgg338
 z146:=Tryz.sizeOf338
 v146:=Tryz.zeroValue338
 g1:=by kernel_rfl
 g3:=by kernel_rfl
 g4:=by kernel_rfl }
def Tryz.lays212_ren:Go.Shelf.Ren:=⟨fun | 212=>141 | 263=>210 | 264=>211 | n=>n,fun | 46=>204 | 51=>324 | 146=>338 | 53=>144 | 148=>340 | n=>n,fun | n=>n⟩
theorem Tryz.lays212:Go.Proofs.Lays.n212 Tryz.prog Tryz.lays212_ren:={
 mixed:=by kernel_rfl
 f212:=Tryz.func141.trans (congrArg some (by kernel_rfl))
 f263:=Tryz.func210.trans (congrArg some (by kernel_rfl))
 f264:=Tryz.func211.trans (congrArg some (by kernel_rfl))
 t46:=Tryz.underlying204
 a46:=Tryz.isAgg204
 z46:=Tryz.sizeOf204
 v46:=Tryz.zeroValue204
 t51:=Tryz.underlying324
 a51:=Tryz.isAgg324
 z51:=Tryz.sizeOf324
 v51:=Tryz.zeroValue324
 t53:=Tryz.underlying144
 a53:=Tryz.isAgg144
 z53:=Tryz.sizeOf144
 v53:=Tryz.zeroValue144
 t146:=Tryz.underlying338
 a146:=Tryz.isAgg338
 z146:=Tryz.sizeOf338
 v146:=Tryz.zeroValue338
 t148:=Tryz.underlying340
 a148:=Tryz.isAgg340
 z148:=Tryz.sizeOf340
 v148:=Tryz.zeroValue340 }
def Tryz.lays7_29_ren:Go.Shelf.Ren:=⟨fun | 29=>215 | n=>n,fun | 22=>144 | 3=>3 | 4=>4 | 25=>204 | 54=>383 | 0=>0 | 5=>5 | n=>n,fun | 1=>0 | n=>n⟩
theorem Tryz.lays7_29:Go.Proofs.Lays7.n29 Tryz.prog Tryz.lays7_29_ren:={
 mixed:=by kernel_rfl
 f29:=Tryz.func215.trans (congrArg some (by kernel_rfl))
 t0:=Tryz.underlying0
 a0:=Tryz.isAgg0
 z0:=Tryz.sizeOf0
 v0:=Tryz.zeroValue0
 i0:=by kernel_rfl
 t3:=Tryz.underlying3
 a3:=Tryz.isAgg3
 z3:=Tryz.sizeOf3
 v3:=Tryz.zeroValue3
 i3:=by kernel_rfl
 t4:=Tryz.underlying4
 a4:=Tryz.isAgg4
 z4:=Tryz.sizeOf4
 v4:=Tryz.zeroValue4
 i4:=by kernel_rfl
 t5:=Tryz.underlying5
 a5:=Tryz.isAgg5
 z5:=Tryz.sizeOf5
 v5:=Tryz.zeroValue5
 i5:=by kernel_rfl
 t22:=Tryz.underlying144
 a22:=Tryz.isAgg144
 z22:=Tryz.sizeOf144
 v22:=Tryz.zeroValue144
 i22:=by kernel_rfl
 t25:=Tryz.underlying204
 a25:=Tryz.isAgg204
 z25:=Tryz.sizeOf204
 v25:=Tryz.zeroValue204
 i25:=by kernel_rfl
 t54:=Tryz.underlying383
 a54:=Tryz.isAgg383
 z54:=Tryz.sizeOf383
 g1:=by kernel_rfl }
def Tryz.sortL137_ren:Go.Shelf.Ren:=⟨fun | 6=>124 | 15=>110 | 14=>200 | 28=>196 | 29=>197 | 20=>242 | 21=>243 | 22=>244 | 23=>245 | 24=>246 | 25=>247 | 26=>248 | 27=>249 | 46=>287 | 47=>234 | 48=>235 | 49=>288 | 50=>289 | 57=>305 | n=>n,fun | 22=>127 | 24=>140 | 25=>236 | 3=>3 | 39=>204 | 0=>0 | 53=>324 | 55=>144 | 4=>4 | 46=>318 | 45=>317 | 50=>296 | 5=>5 | 9=>9 | 66=>357 | 70=>361 | 76=>396 | 77=>216 | n=>n,fun | n=>n⟩
theorem Tryz.sortL137:Go.Proofs.SlLaysF0.n6 Tryz.prog Tryz.sortL137_ren:={
 mixed:=by kernel_rfl
 f6:=⟨Tryz.f124.name,by decide,Tryz.func124.trans (congrArg some (by kernel_rfl))⟩
 f14:=⟨Tryz.f200.name,by decide,Tryz.func200.trans (congrArg some (by kernel_rfl))⟩
 f15:=Tryz.func110.trans (congrArg some (by kernel_rfl))
 f20:=⟨Tryz.f242.name,by decide,Tryz.func242.trans (congrArg some (by kernel_rfl))⟩
 f21:=⟨Tryz.f243.name,by decide,Tryz.func243.trans (congrArg some (by kernel_rfl))⟩
 f22:=⟨Tryz.f244.name,by decide,Tryz.func244.trans (congrArg some (by kernel_rfl))⟩
 f23:=⟨Tryz.f245.name,by decide,Tryz.func245.trans (congrArg some (by kernel_rfl))⟩
 f24:=⟨Tryz.f246.name,by decide,Tryz.func246.trans (congrArg some (by kernel_rfl))⟩
 f25:=⟨Tryz.f247.name,by decide,Tryz.func247.trans (congrArg some (by kernel_rfl))⟩
 f26:=⟨Tryz.f248.name,by decide,Tryz.func248.trans (congrArg some (by kernel_rfl))⟩
 f27:=⟨Tryz.f249.name,by decide,Tryz.func249.trans (congrArg some (by kernel_rfl))⟩
 f28:=Tryz.func196.trans (congrArg some (by kernel_rfl))
 f29:=Tryz.func197.trans (congrArg some (by kernel_rfl))
 f46:=⟨Tryz.f287.name,by decide,Tryz.func287.trans (congrArg some (by kernel_rfl))⟩
 f47:=Tryz.func234.trans (congrArg some (by kernel_rfl))
 f48:=Tryz.func235.trans (congrArg some (by kernel_rfl))
 f49:=⟨Tryz.f288.name,by decide,Tryz.func288.trans (congrArg some (by kernel_rfl))⟩
 f50:=⟨Tryz.f289.name,by decide,Tryz.func289.trans (congrArg some (by kernel_rfl))⟩
 f57:=⟨Tryz.f305.name,by decide,Tryz.func305.trans (congrArg some (by kernel_rfl))⟩
 t0:=Tryz.underlying0
 a0:=Tryz.isAgg0
 z0:=Tryz.sizeOf0
 v0:=Tryz.zeroValue0
 t3:=Tryz.underlying3
 a3:=Tryz.isAgg3
 z3:=Tryz.sizeOf3
 v3:=Tryz.zeroValue3
 t4:=Tryz.underlying4
 a4:=Tryz.isAgg4
 z4:=Tryz.sizeOf4
 v4:=Tryz.zeroValue4
 t5:=Tryz.underlying5
 a5:=Tryz.isAgg5
 z5:=Tryz.sizeOf5
 v5:=Tryz.zeroValue5
 t9:=Tryz.underlying9
 a9:=Tryz.isAgg9
 z9:=Tryz.sizeOf9
 v9:=Tryz.zeroValue9
 t22:=Tryz.underlying127
 a22:=Tryz.isAgg127
 z22:=Tryz.sizeOf127
 v22:=Tryz.zeroValue127
 t25:=Tryz.underlying236
 a25:=Tryz.isAgg236
 z25:=Tryz.sizeOf236
 v25:=Tryz.zeroValue236
 t39:=Tryz.underlying204
 a39:=Tryz.isAgg204
 z39:=Tryz.sizeOf204
 v39:=Tryz.zeroValue204
 t45:=Tryz.underlying317
 a45:=Tryz.isAgg317
 z45:=Tryz.sizeOf317
 v45:=Tryz.zeroValue317
 t46:=Tryz.underlying318
 a46:=Tryz.isAgg318
 z46:=Tryz.sizeOf318
 v46:=Tryz.zeroValue318
 t50:=Tryz.underlying296
 a50:=Tryz.isAgg296
 z50:=Tryz.sizeOf296
 v50:=Tryz.zeroValue296
 t53:=Tryz.underlying324
 a53:=Tryz.isAgg324
 z53:=Tryz.sizeOf324
 v53:=Tryz.zeroValue324
 t55:=Tryz.underlying144
 a55:=Tryz.isAgg144
 z55:=Tryz.sizeOf144
 v55:=Tryz.zeroValue144
 t66:=Tryz.underlying357
 a66:=Tryz.isAgg357
 z66:=Tryz.sizeOf357
 v66:=Tryz.zeroValue357
 t70:=Tryz.underlying361
 a70:=Tryz.isAgg361
 z70:=Tryz.sizeOf361
 v70:=Tryz.zeroValue361
 t76:=Tryz.underlying396
 a76:=Tryz.isAgg396
 z76:=Tryz.sizeOf396
 v76:=Tryz.zeroValue396
 t77:=Tryz.underlying216
 a77:=Tryz.isAgg216
 z77:=Tryz.sizeOf216
 v77:=Tryz.zeroValue216 }
def Tryz.sortL203_ren:Go.Shelf.Ren:=⟨fun | 6=>184 | 15=>110 | 14=>231 | 28=>196 | 29=>197 | 20=>277 | 21=>278 | 22=>279 | 23=>280 | 24=>281 | 25=>282 | 26=>283 | 27=>284 | 46=>302 | 47=>234 | 48=>235 | 49=>303 | 50=>304 | 57=>310 | n=>n,fun | 22=>193 | 24=>188 | 25=>312 | 3=>3 | 39=>204 | 0=>0 | 53=>324 | 55=>144 | 4=>4 | 46=>318 | 45=>317 | 50=>296 | 5=>5 | 9=>9 | 66=>357 | 70=>361 | 76=>396 | 77=>216 | n=>n,fun | n=>n⟩
theorem Tryz.sortL203:Go.Proofs.SlLaysF0.n6 Tryz.prog Tryz.sortL203_ren:={
 mixed:=by kernel_rfl
 f6:=⟨Tryz.f184.name,by decide,Tryz.func184.trans (congrArg some (by kernel_rfl))⟩
 f14:=⟨Tryz.f231.name,by decide,Tryz.func231.trans (congrArg some (by kernel_rfl))⟩
 f15:=Tryz.func110.trans (congrArg some (by kernel_rfl))
 f20:=⟨Tryz.f277.name,by decide,Tryz.func277.trans (congrArg some (by kernel_rfl))⟩
 f21:=⟨Tryz.f278.name,by decide,Tryz.func278.trans (congrArg some (by kernel_rfl))⟩
 f22:=⟨Tryz.f279.name,by decide,Tryz.func279.trans (congrArg some (by kernel_rfl))⟩
 f23:=⟨Tryz.f280.name,by decide,Tryz.func280.trans (congrArg some (by kernel_rfl))⟩
 f24:=⟨Tryz.f281.name,by decide,Tryz.func281.trans (congrArg some (by kernel_rfl))⟩
 f25:=⟨Tryz.f282.name,by decide,Tryz.func282.trans (congrArg some (by kernel_rfl))⟩
 f26:=⟨Tryz.f283.name,by decide,Tryz.func283.trans (congrArg some (by kernel_rfl))⟩
 f27:=⟨Tryz.f284.name,by decide,Tryz.func284.trans (congrArg some (by kernel_rfl))⟩
 f28:=Tryz.func196.trans (congrArg some (by kernel_rfl))
 f29:=Tryz.func197.trans (congrArg some (by kernel_rfl))
 f46:=⟨Tryz.f302.name,by decide,Tryz.func302.trans (congrArg some (by kernel_rfl))⟩
 f47:=Tryz.func234.trans (congrArg some (by kernel_rfl))
 f48:=Tryz.func235.trans (congrArg some (by kernel_rfl))
 f49:=⟨Tryz.f303.name,by decide,Tryz.func303.trans (congrArg some (by kernel_rfl))⟩
 f50:=⟨Tryz.f304.name,by decide,Tryz.func304.trans (congrArg some (by kernel_rfl))⟩
 f57:=⟨Tryz.f310.name,by decide,Tryz.func310.trans (congrArg some (by kernel_rfl))⟩
 t0:=Tryz.underlying0
 a0:=Tryz.isAgg0
 z0:=Tryz.sizeOf0
 v0:=Tryz.zeroValue0
 t3:=Tryz.underlying3
 a3:=Tryz.isAgg3
 z3:=Tryz.sizeOf3
 v3:=Tryz.zeroValue3
 t4:=Tryz.underlying4
 a4:=Tryz.isAgg4
 z4:=Tryz.sizeOf4
 v4:=Tryz.zeroValue4
 t5:=Tryz.underlying5
 a5:=Tryz.isAgg5
 z5:=Tryz.sizeOf5
 v5:=Tryz.zeroValue5
 t9:=Tryz.underlying9
 a9:=Tryz.isAgg9
 z9:=Tryz.sizeOf9
 v9:=Tryz.zeroValue9
 t22:=Tryz.underlying193
 a22:=Tryz.isAgg193
 z22:=Tryz.sizeOf193
 v22:=Tryz.zeroValue193
 t25:=Tryz.underlying312
 a25:=Tryz.isAgg312
 z25:=Tryz.sizeOf312
 v25:=Tryz.zeroValue312
 t39:=Tryz.underlying204
 a39:=Tryz.isAgg204
 z39:=Tryz.sizeOf204
 v39:=Tryz.zeroValue204
 t45:=Tryz.underlying317
 a45:=Tryz.isAgg317
 z45:=Tryz.sizeOf317
 v45:=Tryz.zeroValue317
 t46:=Tryz.underlying318
 a46:=Tryz.isAgg318
 z46:=Tryz.sizeOf318
 v46:=Tryz.zeroValue318
 t50:=Tryz.underlying296
 a50:=Tryz.isAgg296
 z50:=Tryz.sizeOf296
 v50:=Tryz.zeroValue296
 t53:=Tryz.underlying324
 a53:=Tryz.isAgg324
 z53:=Tryz.sizeOf324
 v53:=Tryz.zeroValue324
 t55:=Tryz.underlying144
 a55:=Tryz.isAgg144
 z55:=Tryz.sizeOf144
 v55:=Tryz.zeroValue144
 t66:=Tryz.underlying357
 a66:=Tryz.isAgg357
 z66:=Tryz.sizeOf357
 v66:=Tryz.zeroValue357
 t70:=Tryz.underlying361
 a70:=Tryz.isAgg361
 z70:=Tryz.sizeOf361
 v70:=Tryz.zeroValue361
 t76:=Tryz.underlying396
 a76:=Tryz.isAgg396
 z76:=Tryz.sizeOf396
 v76:=Tryz.zeroValue396
 t77:=Tryz.underlying216
 a77:=Tryz.isAgg216
 z77:=Tryz.sizeOf216
 v77:=Tryz.zeroValue216 }
def Tryz.sortL207_ren:Go.Shelf.Ren:=⟨fun | 6=>69 | 15=>110 | 14=>134 | 28=>196 | 29=>197 | 20=>202 | 21=>203 | 22=>204 | 23=>205 | 24=>206 | 25=>207 | 26=>208 | 27=>209 | 46=>258 | 47=>234 | 48=>235 | 49=>259 | 50=>260 | 57=>293 | n=>n,fun | 22=>68 | 24=>72 | 25=>136 | 3=>3 | 39=>204 | 0=>0 | 53=>324 | 55=>144 | 4=>4 | 46=>318 | 45=>317 | 50=>296 | 5=>5 | 9=>9 | 66=>357 | 70=>361 | 76=>396 | 77=>216 | n=>n,fun | n=>n⟩
theorem Tryz.sortL207:Go.Proofs.SlLaysF0.n6 Tryz.prog Tryz.sortL207_ren:={
 mixed:=by kernel_rfl
 f6:=⟨Tryz.f69.name,by decide,Tryz.func69.trans (congrArg some (by kernel_rfl))⟩
 f14:=⟨Tryz.f134.name,by decide,Tryz.func134.trans (congrArg some (by kernel_rfl))⟩
 f15:=Tryz.func110.trans (congrArg some (by kernel_rfl))
 f20:=⟨Tryz.f202.name,by decide,Tryz.func202.trans (congrArg some (by kernel_rfl))⟩
 f21:=⟨Tryz.f203.name,by decide,Tryz.func203.trans (congrArg some (by kernel_rfl))⟩
 f22:=⟨Tryz.f204.name,by decide,Tryz.func204.trans (congrArg some (by kernel_rfl))⟩
 f23:=⟨Tryz.f205.name,by decide,Tryz.func205.trans (congrArg some (by kernel_rfl))⟩
 f24:=⟨Tryz.f206.name,by decide,Tryz.func206.trans (congrArg some (by kernel_rfl))⟩
 f25:=⟨Tryz.f207.name,by decide,Tryz.func207.trans (congrArg some (by kernel_rfl))⟩
 f26:=⟨Tryz.f208.name,by decide,Tryz.func208.trans (congrArg some (by kernel_rfl))⟩
 f27:=⟨Tryz.f209.name,by decide,Tryz.func209.trans (congrArg some (by kernel_rfl))⟩
 f28:=Tryz.func196.trans (congrArg some (by kernel_rfl))
 f29:=Tryz.func197.trans (congrArg some (by kernel_rfl))
 f46:=⟨Tryz.f258.name,by decide,Tryz.func258.trans (congrArg some (by kernel_rfl))⟩
 f47:=Tryz.func234.trans (congrArg some (by kernel_rfl))
 f48:=Tryz.func235.trans (congrArg some (by kernel_rfl))
 f49:=⟨Tryz.f259.name,by decide,Tryz.func259.trans (congrArg some (by kernel_rfl))⟩
 f50:=⟨Tryz.f260.name,by decide,Tryz.func260.trans (congrArg some (by kernel_rfl))⟩
 f57:=⟨Tryz.f293.name,by decide,Tryz.func293.trans (congrArg some (by kernel_rfl))⟩
 t0:=Tryz.underlying0
 a0:=Tryz.isAgg0
 z0:=Tryz.sizeOf0
 v0:=Tryz.zeroValue0
 t3:=Tryz.underlying3
 a3:=Tryz.isAgg3
 z3:=Tryz.sizeOf3
 v3:=Tryz.zeroValue3
 t4:=Tryz.underlying4
 a4:=Tryz.isAgg4
 z4:=Tryz.sizeOf4
 v4:=Tryz.zeroValue4
 t5:=Tryz.underlying5
 a5:=Tryz.isAgg5
 z5:=Tryz.sizeOf5
 v5:=Tryz.zeroValue5
 t9:=Tryz.underlying9
 a9:=Tryz.isAgg9
 z9:=Tryz.sizeOf9
 v9:=Tryz.zeroValue9
 t22:=Tryz.underlying68
 a22:=Tryz.isAgg68
 z22:=Tryz.sizeOf68
 v22:=Tryz.zeroValue68
 t25:=Tryz.underlying136
 a25:=Tryz.isAgg136
 z25:=Tryz.sizeOf136
 v25:=Tryz.zeroValue136
 t39:=Tryz.underlying204
 a39:=Tryz.isAgg204
 z39:=Tryz.sizeOf204
 v39:=Tryz.zeroValue204
 t45:=Tryz.underlying317
 a45:=Tryz.isAgg317
 z45:=Tryz.sizeOf317
 v45:=Tryz.zeroValue317
 t46:=Tryz.underlying318
 a46:=Tryz.isAgg318
 z46:=Tryz.sizeOf318
 v46:=Tryz.zeroValue318
 t50:=Tryz.underlying296
 a50:=Tryz.isAgg296
 z50:=Tryz.sizeOf296
 v50:=Tryz.zeroValue296
 t53:=Tryz.underlying324
 a53:=Tryz.isAgg324
 z53:=Tryz.sizeOf324
 v53:=Tryz.zeroValue324
 t55:=Tryz.underlying144
 a55:=Tryz.isAgg144
 z55:=Tryz.sizeOf144
 v55:=Tryz.zeroValue144
 t66:=Tryz.underlying357
 a66:=Tryz.isAgg357
 z66:=Tryz.sizeOf357
 v66:=Tryz.zeroValue357
 t70:=Tryz.underlying361
 a70:=Tryz.isAgg361
 z70:=Tryz.sizeOf361
 v70:=Tryz.zeroValue361
 t76:=Tryz.underlying396
 a76:=Tryz.isAgg396
 z76:=Tryz.sizeOf396
 v76:=Tryz.zeroValue396
 t77:=Tryz.underlying216
 a77:=Tryz.isAgg216
 z77:=Tryz.sizeOf216
 v77:=Tryz.zeroValue216 }
def Tryz.sortL243_ren:Go.Shelf.Ren:=⟨fun | 6=>128 | 15=>110 | 14=>201 | 28=>196 | 29=>197 | 20=>250 | 21=>251 | 22=>252 | 23=>253 | 24=>254 | 25=>255 | 26=>256 | 27=>257 | 46=>290 | 47=>234 | 48=>235 | 49=>291 | 50=>292 | 57=>306 | n=>n,fun | 22=>24 | 24=>67 | 25=>243 | 3=>3 | 39=>204 | 0=>0 | 53=>324 | 55=>144 | 4=>4 | 46=>318 | 45=>317 | 50=>296 | 5=>5 | 9=>9 | 66=>357 | 70=>361 | 76=>396 | 77=>216 | n=>n,fun | n=>n⟩
theorem Tryz.sortL243:Go.Proofs.SlLaysF0.n6 Tryz.prog Tryz.sortL243_ren:={
 mixed:=by kernel_rfl
 f6:=⟨Tryz.f128.name,by decide,Tryz.func128.trans (congrArg some (by kernel_rfl))⟩
 f14:=⟨Tryz.f201.name,by decide,Tryz.func201.trans (congrArg some (by kernel_rfl))⟩
 f15:=Tryz.func110.trans (congrArg some (by kernel_rfl))
 f20:=⟨Tryz.f250.name,by decide,Tryz.func250.trans (congrArg some (by kernel_rfl))⟩
 f21:=⟨Tryz.f251.name,by decide,Tryz.func251.trans (congrArg some (by kernel_rfl))⟩
 f22:=⟨Tryz.f252.name,by decide,Tryz.func252.trans (congrArg some (by kernel_rfl))⟩
 f23:=⟨Tryz.f253.name,by decide,Tryz.func253.trans (congrArg some (by kernel_rfl))⟩
 f24:=⟨Tryz.f254.name,by decide,Tryz.func254.trans (congrArg some (by kernel_rfl))⟩
 f25:=⟨Tryz.f255.name,by decide,Tryz.func255.trans (congrArg some (by kernel_rfl))⟩
 f26:=⟨Tryz.f256.name,by decide,Tryz.func256.trans (congrArg some (by kernel_rfl))⟩
 f27:=⟨Tryz.f257.name,by decide,Tryz.func257.trans (congrArg some (by kernel_rfl))⟩
 f28:=Tryz.func196.trans (congrArg some (by kernel_rfl))
 f29:=Tryz.func197.trans (congrArg some (by kernel_rfl))
 f46:=⟨Tryz.f290.name,by decide,Tryz.func290.trans (congrArg some (by kernel_rfl))⟩
 f47:=Tryz.func234.trans (congrArg some (by kernel_rfl))
 f48:=Tryz.func235.trans (congrArg some (by kernel_rfl))
 f49:=⟨Tryz.f291.name,by decide,Tryz.func291.trans (congrArg some (by kernel_rfl))⟩
 f50:=⟨Tryz.f292.name,by decide,Tryz.func292.trans (congrArg some (by kernel_rfl))⟩
 f57:=⟨Tryz.f306.name,by decide,Tryz.func306.trans (congrArg some (by kernel_rfl))⟩
 t0:=Tryz.underlying0
 a0:=Tryz.isAgg0
 z0:=Tryz.sizeOf0
 v0:=Tryz.zeroValue0
 t3:=Tryz.underlying3
 a3:=Tryz.isAgg3
 z3:=Tryz.sizeOf3
 v3:=Tryz.zeroValue3
 t4:=Tryz.underlying4
 a4:=Tryz.isAgg4
 z4:=Tryz.sizeOf4
 v4:=Tryz.zeroValue4
 t5:=Tryz.underlying5
 a5:=Tryz.isAgg5
 z5:=Tryz.sizeOf5
 v5:=Tryz.zeroValue5
 t9:=Tryz.underlying9
 a9:=Tryz.isAgg9
 z9:=Tryz.sizeOf9
 v9:=Tryz.zeroValue9
 t22:=Tryz.underlying24
 a22:=Tryz.isAgg24
 z22:=Tryz.sizeOf24
 v22:=Tryz.zeroValue24
 t25:=Tryz.underlying243
 a25:=Tryz.isAgg243
 z25:=Tryz.sizeOf243
 v25:=Tryz.zeroValue243
 t39:=Tryz.underlying204
 a39:=Tryz.isAgg204
 z39:=Tryz.sizeOf204
 v39:=Tryz.zeroValue204
 t45:=Tryz.underlying317
 a45:=Tryz.isAgg317
 z45:=Tryz.sizeOf317
 v45:=Tryz.zeroValue317
 t46:=Tryz.underlying318
 a46:=Tryz.isAgg318
 z46:=Tryz.sizeOf318
 v46:=Tryz.zeroValue318
 t50:=Tryz.underlying296
 a50:=Tryz.isAgg296
 z50:=Tryz.sizeOf296
 v50:=Tryz.zeroValue296
 t53:=Tryz.underlying324
 a53:=Tryz.isAgg324
 z53:=Tryz.sizeOf324
 v53:=Tryz.zeroValue324
 t55:=Tryz.underlying144
 a55:=Tryz.isAgg144
 z55:=Tryz.sizeOf144
 v55:=Tryz.zeroValue144
 t66:=Tryz.underlying357
 a66:=Tryz.isAgg357
 z66:=Tryz.sizeOf357
 v66:=Tryz.zeroValue357
 t70:=Tryz.underlying361
 a70:=Tryz.isAgg361
 z70:=Tryz.sizeOf361
 v70:=Tryz.zeroValue361
 t76:=Tryz.underlying396
 a76:=Tryz.isAgg396
 z76:=Tryz.sizeOf396
 v76:=Tryz.zeroValue396
 t77:=Tryz.underlying216
 a77:=Tryz.isAgg216
 z77:=Tryz.sizeOf216
 v77:=Tryz.zeroValue216 }
end Go.Proofs
end
