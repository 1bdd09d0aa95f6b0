/- PjVcK PjVcL PjVcX PjVcW PjVcZ PjVcK3 PjVcY LexSpec PjSpec PjMem PjI0 PjJ0 PjK0 PjL0 PjO0 PjQ0 PjR0 PjT0 PjX0 PjA PjCa. -/
import Derived.Test.YtfdhgcladnbdeaaGreatDoorAM02
import Derived.Test.YtfdhgcladnbdeaaGreatDoorAM03
import Derived.Lib.Split
set_option linter.all false
set_option maxRecDepth 100000
set_option maxHeartbeats 8000000

section
namespace Go.VC
open Go.Proofs IntKind
variable {h:Heap} {R:Value->Heap->Prop}
def W31 (pa:ByteArray) (pb pc:Sl) (pd pe pf:Int) (pg ph:Sl):Prop:=
 Wn h (L0 pa pb pc pd pe pf pg ph) 27 fun h9=>
 ∃x10 x11 x12 x13 x14 x15 x16 x17,aL0 h9 (aS h 0) x10 x11 x12 x13 x14 x15 x16 x17 /\
 Fn Pz 64 #[.agg ⟨(L0 x10 x11 x12 x13 x14 x15 x16 x17)⟩] h9
 (fun v18 h20=>∃x19,iB v18 x19 /\
 sB x19
 (∃x21 x22 x23 x24 x25 x26 x27 x28,aL0 h20 (aS h 0) x21 x22 x23 x24 x25 x26 x27 x28 /\
 Fn Pz 65 #[.agg ⟨(L0 x21 x22 x23 x24 x25 x26 x27 x28)⟩] h20
 (fun v29 h31=>∃x30,iB v29 x30 /\
 sB x30
 (∃x32 x33 x34 x35 x36 x37 x38 x39,aL0 h31 (aS h 0) x32 x33 x34 x35 x36 x37 x38 x39 /\
 Fn Pz 66 #[.agg ⟨(L0 x32 x33 x34 x35 x36 x37 x38 x39)⟩] h31
 (fun v40 h42=>∃x41,iB v40 x41 /\
 sB x41
 (∃x43 x44 x45 x46 x47 x48 x49 x50,aL0 h42 (aS h 0) x43 x44 x45 x46 x47 x48 x49 x50 /\
 Fn Pz 67 #[.agg ⟨(L0 x43 x44 x45 x46 x47 x48 x49 x50)⟩] h42
 (fun v51 h53=>∃x52,iB v51 x52 /\
 sB x52
 (∃x54 x55 x56 x57 x58 x59 x60 x61,aL0 h53 (aS h 0) x54 x55 x56 x57 x58 x59 x60 x61 /\
 Fn Pz 68 #[.agg ⟨(L0 x54 x55 x56 x57 x58 x59 x60 x61)⟩] h53
 (fun v62 h64=>∃x63,iB v62 x63 /\
 R (.bool x63) h64))
 (R (.bool false) h53)))
 (R (.bool false) h42)))
 (R (.bool false) h31)))
 (R (.bool false) h20))
theorem vc31 (pa:ByteArray) (pb pc:Sl) (pd pe pf:Int) (pg ph:Sl) (H:@W31 h R pa pb pc pd pe pf pg ph):Fn Pz 31 #[.agg ⟨(L0 pa pb pc pd pe pf pg ph)⟩] h R:=fnJ (A:=.z) H
def W49 (pa:ByteArray) (pb pc:Sl) (pd pe pf:Int) (pg ph:Sl) (p1:Int):Prop:=
 Wn h (L0 pa pb pc pd pe pf pg ph) 27 fun h9=>
 ∃x10 x11 x12 x13 x14 x15 x16 x17,aL0 h9 (aS h 0) x10 x11 x12 x13 x14 x15 x16 x17 /\
 Fn Pz 31 #[.agg ⟨(L0 x10 x11 x12 x13 x14 x15 x16 x17)⟩] h9
 (fun v18 h20=>∃x19,iB v18 x19 /\
 sB x19
 (sB (decide (p1>=0))
 (∃x21,rS h20 (aS h 1) x21 /\
 R (.bool (decide (p1<(x21.n:Int)))) h20)
 (R (.bool false) h20))
 (R (.bool false) h20))
theorem vc49 (pa:ByteArray) (pb pc:Sl) (pd pe pf:Int) (pg ph:Sl) (p1:Int) (H:@W49 h R pa pb pc pd pe pf pg ph p1):Fn Pz 49 #[.agg ⟨(L0 pa pb pc pd pe pf pg ph)⟩,vI p1] h R:=fnJ (A:=.z) H
def W64 (pa:ByteArray) (pb pc:Sl) (pd pe pf:Int) (pg ph:Sl):Prop:=
 Wn h (L0 pa pb pc pd pe pf pg ph) 27 fun h9=>
 QI 0 h9 fun I10 i_13 h14 m12=>
 ∃x15,rS h14 (aS h 1) x15 /\
 sB (decide (i_13<(x15.n:Int)))
 (∃x16,rS h14 (aS h 1) x16 /\
 NB x16.a fun b17 o18=>Ib i_13 x16.n /\
 ∃x19,rT h14 ⟨b17,o18+i_13.toNat*1,none⟩ x19 /\
 Fn Pz 111 #[.string x19] h14
 (fun v20 h22=>∃x21,iB v20 x21 /\
 sB (!x21)
 (R (.bool false) h22)
 (∃x23,rS h22 (aS h 1) x23 /\
 ∃x24,rS h22 (aS h 1) x24 /\
 NB x24.a fun b25 o26=>Ib i_13 x24.n /\
 ∃x27,rT h22 ⟨b25,o26+i_13.toNat*1,none⟩ x27 /\
 Fn Pz 112 #[vS x23,.string x27] h22
 (fun v28 h30=>∃x29,iI v28 x29 /\
 Sm [⟨b17,o18+i_13.toNat*1,none⟩,(aS h 1)] h22 h30 /\
 sB (decide (x29<i_13))
 (R (.bool false) h30)
 (∃m31,m31<m12/\I10 (wrap .i64 (i_13+1)) h30 m31)))))
 (∃x32,rT h14 (aS h 0) x32 /\
 Fn Pz 111 #[.string x32] h14
 (fun v33 h35=>∃x34,iB v33 x34 /\
 sB x34
 (∃x36,rS h35 (aS h 1) x36 /\
 sB (decide ((x36.n:Int)>=1))
 (∃x37,rS h35 (aS h 1) x37 /\
 sB (decide ((x37.n:Int)<=6))
 (∃x38,rS h35 (aS h 2) x38 /\
 Fn Pz 113 #[vS x38] h35
 (fun v39 h41=>∃x40,iB v39 x40 /\
 R (.bool x40) h41))
 (R (.bool false) h35))
 (R (.bool false) h35))
 (R (.bool false) h35)))
theorem vc64 (pa:ByteArray) (pb pc:Sl) (pd pe pf:Int) (pg ph:Sl) (H:@W64 h R pa pb pc pd pe pf pg ph):Fn Pz 64 #[.agg ⟨(L0 pa pb pc pd pe pf pg ph)⟩] h R:=fnJ (A:=(.s .z (.s (AI 3) .z))) H
def W65 (pa:ByteArray) (pb pc:Sl) (pd pe pf:Int) (pg ph:Sl):Prop:=
 Wn h (L0 pa pb pc pd pe pf pg ph) 27 fun h9=>
 QI 0 h9 fun I10 i_13 h14 m12=>
 ∃x15,rS h14 (aS h 6) x15 /\
 sB (decide (i_13<(x15.n:Int)))
 (∃x16,rS h14 (aS h 6) x16 /\
 NB x16.a fun b17 o18=>Ib i_13 x16.n /\
 ∃x19 x20 x21 x22 x23 x24,aL4 h14 ⟨b17,o18+i_13.toNat*6,none⟩ x19 x20 x21 x22 x23 x24 /\
 Wn h14 [vI 0,vI 0,vI 0,vI 0,vI 0,.bool false] 55 fun h25=>
 Wp h25 (aS h14 0) 6 (L4 x19 x20 x21 x22 x23 x24) fun h26=>
 ∃x27 x28 x29 x30 x31 x32 x33 x34,aL0 h26 (aS h 0) x27 x28 x29 x30 x31 x32 x33 x34 /\
 ∃x35,rI h26 (aS h14 0) x35 /\
 Fn Pz 114 #[.agg ⟨(L0 x27 x28 x29 x30 x31 x32 x33 x34)⟩,vI x35] h26
 (fun v36 h38=>∃x37,iB v36 x37 /\
 sB (!x37)
 (R (.bool false) h38)
 (∃x39 x40 x41 x42 x43 x44 x45 x46,aL0 h38 (aS h 0) x39 x40 x41 x42 x43 x44 x45 x46 /\
 ∃x47,rI h38 (aS h14 4) x47 /\
 Fn Pz 114 #[.agg ⟨(L0 x39 x40 x41 x42 x43 x44 x45 x46)⟩,vI x47] h38
 (fun v48 h50=>∃x49,iB v48 x49 /\
 sB (!x49)
 (R (.bool false) h50)
 (∃x51,rI h50 (aS h14 1) x51 /\
 sB (decide (x51<0))
 (R (.bool false) h50)
 (∃x52,rI h50 (aS h14 1) x52 /\
 ∃x53,rS h50 (aS h 1) x53 /\
 sB (decide (x52>=(x53.n:Int)))
 (R (.bool false) h50)
 (∃x54,rI h50 (aS h14 (1+1)) x54 /\
 sB (decide (x54<0))
 (R (.bool false) h50)
 (∃x55,rI h50 (aS h14 (1+1)) x55 /\
 ∃x56,rS h50 (aS h 1) x56 /\
 sB (decide (x55>=(x56.n:Int)))
 (R (.bool false) h50)
 (∃x57,rI h50 (aS h14 1) x57 /\
 ∃x58,rI h50 (aS h14 (1+1)) x58 /\
 sB (x57==x58)
 (R (.bool false) h50)
 (∃x59,rI h50 (aS h14 (1+2)) x59 /\
 sB (decide (x59<0))
 (R (.bool false) h50)
 (∃x60,rI h50 (aS h14 (1+2)) x60 /\
 ∃x61,rS h50 (aS h 2) x61 /\
 sB (decide (x60>=(x61.n:Int)))
 (R (.bool false) h50)
 (∃m62,m62<m12/\I10 (wrap .i64 (i_13+1)) h50 m62))))))))))))
 (∃x63,rI h14 (aS h 3) x63 /\
 sB (decide (x63>=1))
 (∃x64,rI h14 (aS h 3) x64 /\
 sB (decide (x64<=200))
 (∃x65 x66 x67 x68 x69 x70 x71 x72,aL0 h14 (aS h 0) x65 x66 x67 x68 x69 x70 x71 x72 /\
 ∃x73,rI h14 (aS h 4) x73 /\
 Fn Pz 114 #[.agg ⟨(L0 x65 x66 x67 x68 x69 x70 x71 x72)⟩,vI x73] h14
 (fun v74 h76=>∃x75,iB v74 x75 /\
 sB x75
 (∃x77 x78 x79 x80 x81 x82 x83 x84,aL0 h76 (aS h 0) x77 x78 x79 x80 x81 x82 x83 x84 /\
 ∃x85,rI h76 (aS h 5) x85 /\
 Fn Pz 114 #[.agg ⟨(L0 x77 x78 x79 x80 x81 x82 x83 x84)⟩,vI x85] h76
 (fun v86 h88=>∃x87,iB v86 x87 /\
 sB x87
 (∃x89,rS h88 (aS h 6) x89 /\
 R (.bool (decide ((x89.n:Int)<=400))) h88)
 (R (.bool false) h88)))
 (R (.bool false) h76)))
 (R (.bool false) h14))
 (R (.bool false) h14))
theorem vc65 (pa:ByteArray) (pb pc:Sl) (pd pe pf:Int) (pg ph:Sl) (H:@W65 h R pa pb pc pd pe pf pg ph):Fn Pz 65 #[.agg ⟨(L0 pa pb pc pd pe pf pg ph)⟩] h R:=fnJ (A:=(.s .z (.s (AI 3) .z))) H
def V66b (h46 h14 h34:Heap) (R:Value->Heap->Prop) (m32:Nat) (I30:Int->Heap->Nat->Prop) (k_33:Int):Prop:=
 ∃x58,rB h46 (aS h14 5) x58/\sB x58 (∃x59,rI h46 (aS h34 4) x59/\∃x60,rI h46 (aS h14 0) x60/\sB (x59==x60) (∃x61,rI h46 (aS h34 1) x61/\∃x62,rI h46 (aS h14 1) x62/\sB (x61 != x62) (R (.bool false) h46) (∃x63,rI h46 (aS h34 (1+2)) x63/\∃x64,rI h46 (aS h14 (1+2)) x64/\sB (x63 != x64) (R (.bool false) h46) (∃m65,m65<m32/\I30 (wrap .i64 (k_33+1)) h46 m65))) (∃m66,m66<m32/\I30 (wrap .i64 (k_33+1)) h46 m66)) (∃m67,m67<m32/\I30 (wrap .i64 (k_33+1)) h46 m67)
def V66a (h26 h:Heap) (i_13:Int) (h14:Heap) (R:Value->Heap->Prop) (m12:Nat) (I10:Int->Heap->Nat->Prop):Prop:=
 QI 0 h26 fun I30 k_33 h34 m32=>∃x35,rS h34 (aS h 6) x35/\sB (decide (k_33<(x35.n:Int))) (∃x36,rS h34 (aS h 6) x36/\NB x36.a fun b37 o38=>Ib k_33 x36.n/\∃x39 x40 x41 x42 x43 x44,aL4 h34 ⟨b37,o38+k_33.toNat*6,none⟩ x39 x40 x41 x42 x43 x44/\Wn h34 [vI 0,vI 0,vI 0,vI 0,vI 0,.bool false] 55 fun h45=>Wp h45 (aS h34 0) 6 (L4 x39 x40 x41 x42 x43 x44) fun h46=>sB (k_33 != i_13) (∃x47,rI h46 (aS h14 0) x47/\∃x48,rI h46 (aS h34 0) x48/\sB (x47==x48) (∃x49 x50 x51,aL5 h46 (aS h14 1) x49 x50 x51/\∃x52 x53 x54,aL5 h46 (aS h34 1) x52 x53 x54/\sB ((x49==x52)&&((x50==x53)&&((x51==x54)&&true))) (R (.bool false) h46) (∃x55,rI h46 (aS h14 1) x55/\∃x56,rI h46 (aS h34 1) x56/\sB (x55 != x56) (R (.bool false) h46) (∃x57,rB h46 (aS h14 5) x57/\sB x57 (R (.bool false) h46) (V66b h46 h14 h34 R m32 I30 k_33)))) (V66b h46 h14 h34 R m32 I30 k_33)) (V66b h46 h14 h34 R m32 I30 k_33)) (∃m88,m88<m12/\I10 (wrap .i64 (i_13+1)) h34 m88)
def W66 (pa:ByteArray) (pb pc:Sl) (pd pe pf:Int) (pg ph:Sl):Prop:=
 Wn h (L0 pa pb pc pd pe pf pg ph) 27 fun h9=>QI 0 h9 fun I10 i_13 h14 m12=>∃x15,rS h14 (aS h 6) x15/\sB (decide (i_13<(x15.n:Int))) (∃x16,rS h14 (aS h 6) x16/\NB x16.a fun b17 o18=>Ib i_13 x16.n/\∃x19 x20 x21 x22 x23 x24,aL4 h14 ⟨b17,o18+i_13.toNat*6,none⟩ x19 x20 x21 x22 x23 x24/\Wn h14 [vI 0,vI 0,vI 0,vI 0,vI 0,.bool false] 55 fun h25=>Wp h25 (aS h14 0) 6 (L4 x19 x20 x21 x22 x23 x24) fun h26=>∃x27,rB h26 (aS h14 5) x27/\sB x27 (∃x28,rI h26 (aS h14 0) x28/\∃x29,rI h26 (aS h 4) x29/\sB (x28==x29) (R (.bool false) h26) (V66a h26 h i_13 h14 R m12 I10)) (V66a h26 h i_13 h14 R m12 I10)) (R (.bool true) h14)
theorem vc66 (pa:ByteArray) (pb pc:Sl) (pd pe pf:Int) (pg ph:Sl) (H:@W66 h R pa pb pc pd pe pf pg ph):Fn Pz 66 #[.agg ⟨(L0 pa pb pc pd pe pf pg ph)⟩] h R:=fnJ (A:=(.s .z (.s (.s .z (.b (.l [(3,.one (.int .i64))] (.s .z (.s (.b (.s .z (.s .z (AI 5)))) .z))))) .z))) H
def W67 (pa:ByteArray) (pb pc:Sl) (pd pe pf:Int) (pg ph:Sl):Prop:=
 Wn h (L0 pa pb pc pd pe pf pg ph) 27 fun h9=>
 ∃x10,rI h9 (aS h 3) x10 /\
 Mk x10 x10 1/\Wn h9 (madeL Pz 4 (x10.toNat)) 4 fun h11=>
 ∃x12,rI h11 (aS h 4) x12 /\
 (0<=(x12:Int)/\(x12:Int)<((x10.toNat):Nat)) /\
 Wp h11 (aS h9 (0+x12.toNat*1)) 1 [.bool true] fun h13=>
 QI 0 h13 fun I14 n_17 h18 m16=>
 ∃x19,rI h18 (aS h 3) x19 /\
 sB (decide (n_17<x19))
 (QI 0 h18 fun I20 i_23 h24 m22=>
 ∃x25,rS h24 (aS h 6) x25 /\
 sB (decide (i_23<(x25.n:Int)))
 (∃x26,rS h24 (aS h 6) x26 /\
 NB x26.a fun b27 o28=>Ib i_23 x26.n /\
 ∃x29,rI h24 ⟨b27,o28+i_23.toNat*6+4,none⟩ x29 /\
 ∃x30,rS h24 (aS h 6) x30 /\
 NB x30.a fun b31 o32=>Ib i_23 x30.n /\
 ∃x33,rI h24 ⟨b31,o32+i_23.toNat*6+4,none⟩ x33 /\
 (0<=(x33:Int)/\(x33:Int)<((x10.toNat):Nat)) /\
 ∃x34,rB h24 (aS h9 (0+x33.toNat*1)) x34 /\
 sB x34
 ((0<=(x29:Int)/\(x29:Int)<((x10.toNat):Nat)) /\
 Wp h24 (aS h9 (0+x29.toNat*1)) 1 [.bool true] fun h35=>
 ∃m36,m36<m22/\I20 (wrap .i64 (i_23+1)) h35 m36)
 (∃x37,rS h24 (aS h 6) x37 /\
 NB x37.a fun b38 o39=>Ib i_23 x37.n /\
 ∃x40,rI h24 ⟨b38,o39+i_23.toNat*6,none⟩ x40 /\
 (0<=(x40:Int)/\(x40:Int)<((x10.toNat):Nat)) /\
 ∃x41,rB h24 (aS h9 (0+x40.toNat*1)) x41 /\
 (0<=(x29:Int)/\(x29:Int)<((x10.toNat):Nat)) /\
 Wp h24 (aS h9 (0+x29.toNat*1)) 1 [.bool x41] fun h42=>
 ∃m43,m43<m22/\I20 (wrap .i64 (i_23+1)) h42 m43))
 (∃m44,m44<m16/\I14 (wrap .i64 (n_17+1)) h24 m44))
 (∃x45 x46 x47 x48 x49 x50 x51 x52,aL0 h18 (aS h 0) x45 x46 x47 x48 x49 x50 x51 x52 /\
 Fn Pz 115 #[.agg ⟨(L0 x45 x46 x47 x48 x49 x50 x51 x52)⟩] h18
 (fun v53 h55=>∃x54,iS v53 x54 /\
 QI 0 h55 fun I56 s_59 h60 m58=>
 ∃x61,rI h60 (aS h 3) x61 /\
 sB (decide (s_59<x61))
 ((0<=(s_59:Int)/\(s_59:Int)<((x10.toNat):Nat)) /\
 ∃x62,rB h60 (aS h9 (0+s_59.toNat*1)) x62 /\
 sB (!x62)
 (R (.bool false) h60)
 (NB x54.a fun b63 o64=>Ib s_59 x54.n /\
 ∃x65,rI h60 ⟨b63,o64+s_59.toNat*1,none⟩ x65 /\
 sB (decide (x65<0))
 (R (.bool false) h60)
 (∃m66,m66<m58/\I56 (wrap .i64 (s_59+1)) h60 m66)))
 (∃x67 x68 x69 x70 x71 x72 x73 x74,aL0 h60 (aS h 0) x67 x68 x69 x70 x71 x72 x73 x74 /\
 ∃x75,rI h60 (aS h 5) x75 /\
 Fn Pz 116 #[.agg ⟨(L0 x67 x68 x69 x70 x71 x72 x73 x74)⟩,vI x75] h60
 (fun v76 h78=>∃x77,iS v76 x77 /\
 R (.bool ((x77.n:Int)==0)) h78))))
theorem vc67 (pa:ByteArray) (pb pc:Sl) (pd pe pf:Int) (pg ph:Sl) (H:@W67 h R pa pb pc pd pe pf pg ph):Fn Pz 67 #[.agg ⟨(L0 pa pb pc pd pe pf pg ph)⟩] h R:=fnJ (A:=(.s .z (.s .z (.s .z (.s (.s .z (.b (.l [(4,.one (.int .i64))] (.s .z (.s (.b (AI 5)) .z))))) (.s .z (.s (AI 7) .z))))))) H
def V68a (h35 h14:Heap) (R:Value->Heap->Prop) (h:Heap) (m12:Nat) (I10:Int->Heap->Nat->Prop) (i_13:Int):Prop:=
 ∃x41,rI h35 (aS h14 1) x41/\sB (decide (x41<1)) (R (.bool false) h35) (∃x42,rI h35 (aS h14 1) x42/\sB (decide (x42>1000)) (R (.bool false) h35) (∃x43,rI h35 (aS h14 2) x43/\sB (decide (x43<0)) (R (.bool false) h35) (∃x44,rI h35 (aS h14 2) x44/\∃x45,rS h35 (aS h 6) x45/\sB (decide (x44>=(x45.n:Int))) (R (.bool false) h35) (∃x46,rS h35 (aS h 6) x46/\∃x47,rI h35 (aS h14 2) x47/\NB x46.a fun b48 o49=>Ib x47 x46.n/\∃x50,rI h35 ⟨b48,o49+x47.toNat*6,none⟩ x50/\∃x51,rI h35 (aS h14 0) x51/\sB (x50 != x51) (R (.bool false) h35) (∃x52,rS h35 (aS h 6) x52/\∃x53,rI h35 (aS h14 2) x53/\NB x52.a fun b54 o55=>Ib x53 x52.n/\∃x56,rB h35 ⟨b54,o55+x53.toNat*6+5,none⟩ x56/\sB x56 (R (.bool false) h35) (∃m57,m57<m12/\I10 (wrap .i64 (i_13+1)) h35 m57))))))
def W68 (pa:ByteArray) (pb pc:Sl) (pd pe pf:Int) (pg ph:Sl):Prop:=
 Wn h (L0 pa pb pc pd pe pf pg ph) 27 fun h9=>QI 0 h9 fun I10 i_13 h14 m12=>∃x15,rS h14 (aS h 7) x15/\sB (decide (i_13<(x15.n:Int))) (∃x16,rS h14 (aS h 7) x16/\NB x16.a fun b17 o18=>Ib i_13 x16.n/\∃x19 x20 x21,aL5 h14 ⟨b17,o18+i_13.toNat*3,none⟩ x19 x20 x21/\Wn h14 [vI 0,vI 0,vI 0] 63 fun h22=>Wp h22 (aS h14 0) 3 (L5 x19 x20 x21) fun h23=>∃x24 x25 x26 x27 x28 x29 x30 x31,aL0 h23 (aS h 0) x24 x25 x26 x27 x28 x29 x30 x31/\∃x32,rI h23 (aS h14 0) x32/\Fn Pz 114 #[.agg ⟨(L0 x24 x25 x26 x27 x28 x29 x30 x31)⟩,vI x32] h23 (fun v33 h35=>∃x34,iB v33 x34/\sB (!x34) (R (.bool false) h35) (sB (decide (i_13>0)) (∃x36,rI h35 (aS h14 0) x36/\∃x37,rS h35 (aS h 7) x37/\NB x37.a fun b38 o39=>(0<=((wrap .i64 (i_13-1)):Int)/\((wrap .i64 (i_13-1)):Int)<(x37.n:Nat))/\∃x40,rI h35 ⟨b38,o39+Int.toNat (wrap .i64 (i_13-1))*3,none⟩ x40/\sB (decide (x36<=x40)) (R (.bool false) h35) (V68a h35 h14 R h m12 I10 i_13)) (V68a h35 h14 R h m12 I10 i_13)))) (R (.bool true) h14)
theorem vc68 (pa:ByteArray) (pb pc:Sl) (pd pe pf:Int) (pg ph:Sl) (H:@W68 h R pa pb pc pd pe pf pg ph):Fn Pz 68 #[.agg ⟨(L0 pa pb pc pd pe pf pg ph)⟩] h R:=fnJ (A:=(.s .z (.s (AI 3) .z))) H
def W111 (p0:ByteArray):Prop:=
 Fn Pz 152 #[.string p0] h
 (fun v1 h3=>∃x2,iB v1 x2 /\
 sB x2
 (Fn Pz 154 #[] h3
 (fun v4 h6=>∃x5,iS v4 x5 /\
 Fn Pz 153 #[vS x5,.string p0] h6
 (fun v7 h9=>∃x8,iB v7 x8 /\
 R (.bool (!x8)) h9)))
 (R (.bool false) h3))
theorem vc111 (p0:ByteArray) (H:@W111 h R p0):Fn Pz 111 #[.string p0] h R:=fnJ (A:=.z) H
def W112 (p0:Sl) (p1:ByteArray):Prop:=
 QI 0 h fun I1 i_4 h5 m3=>
 sB (decide (i_4<(p0.n:Int)))
 (NB p0.a fun b6 o7=>Ib i_4 p0.n /\
 ∃x8,rT h5 ⟨b6,o7+i_4.toNat*1,none⟩ x8 /\
 sB ((ByteArray.toList x8)==(ByteArray.toList p1))
 (R (vI i_4) h5)
 (∃m9,m9<m3/\I1 (wrap .i64 (i_4+1)) h5 m9))
 (R (vI (-1)) h5)
theorem vc112 (p0:Sl) (p1:ByteArray) (H:@W112 h R p0 p1):Fn Pz 112 #[vS p0,.string p1] h R:=fnJ (A:=(.s .z (.s (AI 5) .z))) H
def W113 (p0:Sl):Prop:=
 sB (decide ((p0.n:Int)>40))
 (R (.bool false) h)
 (Fn Pz 155 #[vS p0] h
 (fun v1 h3=>∃x2,iI v1 x2 /\
 sB (decide (x2>24))
 (R (.bool false) h3)
 (QII 0 0 h3 fun I4 first_7 i_8 h9 m6=>
 sB (decide (i_8<(p0.n:Int)))
 (NB p0.a fun b10 o11=>Ib i_8 p0.n /\
 ∃x12 x13 x14 x15 x16,aL8 h9 ⟨b10,o11+i_8.toNat*5,none⟩ x12 x13 x14 x15 x16 /\
 Wn h9 [.string ⟨#[]⟩,vN,vI 0,vN,vN] 136 fun h17=>
 Wp h17 (aS h9 0) 5 (L8 x12 x13 x14 x15 x16) fun h18=>
 QI 0 h18 fun I19 k_22 h23 m21=>
 sB (decide (k_22<i_8))
 (NB p0.a fun b24 o25=>Ib k_22 p0.n /\
 ∃x26,rT h23 ⟨b24,o25+k_22.toNat*5,none⟩ x26 /\
 ∃x27,rT h23 (aS h9 0) x27 /\
 sB ((ByteArray.toList x26)==(ByteArray.toList x27))
 (R (.bool false) h23)
 (∃m28,m28<m21/\I19 (wrap .i64 (k_22+1)) h23 m28))
 (QI 0 h23 fun I29 k_32 h33 m31=>
 ∃x34,rS h33 (aS h9 1) x34 /\
 sB (decide (k_32<(x34.n:Int)))
 (∃x35,rS h33 (aS h9 1) x35 /\
 NB x35.a fun b36 o37=>Ib k_32 x35.n /\
 ∃x38 x39 x40,aL5 h33 ⟨b36,o37+k_32.toNat*4+1,none⟩ x38 x39 x40 /\
 Fn Pz 156 #[.agg ⟨(L5 x38 x39 x40)⟩] h33
 (fun v41 h43=>∃x42,iB v41 x42 /\
 sB (!x42)
 (R (.bool false) h43)
 (∃x44,rS h43 (aS h9 1) x44 /\
 NB x44.a fun b45 o46=>Ib k_32 x44.n /\
 ∃x47,rT h43 ⟨b45,o46+k_32.toNat*4,none⟩ x47 /\
 Fn Pz 111 #[.string x47] h43
 (fun v48 h50=>∃x49,iB v48 x49 /\
 sB (!x49)
 (R (.bool false) h50)
 (QI 0 h50 fun I51 j_54 h55 m53=>
 sB (decide (j_54<k_32))
 (∃x56,rS h55 (aS h9 1) x56 /\
 NB x56.a fun b57 o58=>Ib j_54 x56.n /\
 ∃x59,rT h55 ⟨b57,o58+j_54.toNat*4,none⟩ x59 /\
 ∃x60,rS h55 (aS h9 1) x60 /\
 NB x60.a fun b61 o62=>Ib k_32 x60.n /\
 ∃x63,rT h55 ⟨b61,o62+k_32.toNat*4,none⟩ x63 /\
 sB ((ByteArray.toList x59)==(ByteArray.toList x63))
 (R (.bool false) h55)
 (∃m64,m64<m53/\I51 (wrap .i64 (j_54+1)) h55 m64))
 (∃m65,m65<m31/\I29 (wrap .i64 (k_32+1)) h55 m65))))))
 (∃x66,rT h33 (aS h9 0) x66 /\
 Fn Pz 157 #[.string x66] h33
 (fun v67 h69=>∃x68,iB v67 x68 /\
 sB (!x68)
 (R (.bool false) h69)
 (∃x70,rS h69 (aS h9 1) x70 /\
 sB (decide ((x70.n:Int)>4))
 (R (.bool false) h69)
 (∃x71,rI h69 (aS h9 2) x71 /\
 sB (x71 != first_7)
 (R (.bool false) h69)
 (∃(x72 x73:Sl),atC h69 (aS h9 3) [vS x72,vS x73] /\
 Fn Pz 158 #[vS p0,.agg ⟨[vS x72,vS x73]⟩] h69
 (fun v74 h76=>∃x75,iB v74 x75 /\
 sB (!x75)
 (R (.bool false) h76)
 (∃x77,rS h76 (aS h9 1) x77 /\
 ∃m78,m78<m6/\I4 (wrap .i64 (first_7+(x77.n:Int))) (wrap .i64 (i_8+1)) h76 m78)))))))))
 (R (.bool true) h9))))
theorem vc113 (p0:Sl) (H:@W113 h R p0):Fn Pz 113 #[vS p0] h R:=fnJ (A:=(.s .z (.s .z (.s .z (.s (.s .z (.b (.l [(3,.one (.int .i64)),(4,.one (.int .i64))] (.s .z (.s (.b (.s .z (.s (AI 6) (.s (.s .z (.b (.l [(7,.one (.int .i64))] (.s .z (.s (.b (.s .z (AI 8))) .z))))) .z)))) .z))))) .z))))) H
def W114 (pa:ByteArray) (pb pc:Sl) (pd pe pf:Int) (pg ph:Sl) (p1:Int):Prop:=
 Wn h (L0 pa pb pc pd pe pf pg ph) 27 fun h9=>
 sB (decide (p1>=0))
 (∃x10,rI h9 (aS h 3) x10 /\
 R (.bool (decide (p1<x10))) h9)
 (R (.bool false) h9)
theorem vc114 (pa:ByteArray) (pb pc:Sl) (pd pe pf:Int) (pg ph:Sl) (p1:Int) (H:@W114 h R pa pb pc pd pe pf pg ph p1):Fn Pz 114 #[.agg ⟨(L0 pa pb pc pd pe pf pg ph)⟩,vI p1] h R:=fnJ (A:=.z) H
def W115 (pa:ByteArray) (pb pc:Sl) (pd pe pf:Int) (pg ph:Sl):Prop:=
 Wn h (L0 pa pb pc pd pe pf pg ph) 27 fun h9=>
 ∃x10,rI h9 (aS h 3) x10 /\
 Mk x10 x10 8/\Wn h9 (madeL Pz 3 (x10.toNat)) 3 fun h11=>
 QI 0 h11 fun I12 s_15 h16 m14=>
 ∃x17,rI h16 (aS h 3) x17 /\
 sB (decide (s_15<x17))
 ((0<=(s_15:Int)/\(s_15:Int)<((x10.toNat):Nat)) /\
 Wp h16 (aS h9 (0+s_15.toNat*1)) 1 [vI (-1)] fun h18=>
 ∃m19,m19<m14/\I12 (wrap .i64 (s_15+1)) h18 m19)
 (∃x20,rI h16 (aS h 5) x20 /\
 (0<=(x20:Int)/\(x20:Int)<((x10.toNat):Nat)) /\
 Wp h16 (aS h9 (0+x20.toNat*1)) 1 [vI 0] fun h21=>
 QI 0 h21 fun I22 n_25 h26 m24=>
 ∃x27,rI h26 (aS h 3) x27 /\
 sB (decide (n_25<x27))
 (QI 0 h26 fun I28 i_31 h32 m30=>
 ∃x33,rS h32 (aS h 6) x33 /\
 sB (decide (i_31<(x33.n:Int)))
 (∃x34,rS h32 (aS h 6) x34 /\
 NB x34.a fun b35 o36=>Ib i_31 x34.n /\
 ∃x37 x38 x39 x40 x41 x42,aL4 h32 ⟨b35,o36+i_31.toNat*6,none⟩ x37 x38 x39 x40 x41 x42 /\
 Wn h32 [vI 0,vI 0,vI 0,vI 0,vI 0,.bool false] 55 fun h43=>
 Wp h43 (aS h32 0) 6 (L4 x37 x38 x39 x40 x41 x42) fun h44=>
 ∃x45,rI h44 (aS h32 4) x45 /\
 (0<=(x45:Int)/\(x45:Int)<((x10.toNat):Nat)) /\
 ∃x46,rI h44 (aS h9 (0+x45.toNat*1)) x46 /\
 sB (x46==n_25)
 (∃x47,rI h44 (aS h32 0) x47 /\
 (0<=(x47:Int)/\(x47:Int)<((x10.toNat):Nat)) /\
 ∃x48,rI h44 (aS h9 (0+x47.toNat*1)) x48 /\
 sB (decide (x48<0))
 (∃x49,rI h44 (aS h32 0) x49 /\
 (0<=(x49:Int)/\(x49:Int)<((x10.toNat):Nat)) /\
 Wp h44 (aS h9 (0+x49.toNat*1)) 1 [vI (wrap .i64 (n_25+1))] fun h50=>
 ∃m51,m51<m30/\I28 (wrap .i64 (i_31+1)) h50 m51)
 (∃m52,m52<m30/\I28 (wrap .i64 (i_31+1)) h44 m52))
 (∃m53,m53<m30/\I28 (wrap .i64 (i_31+1)) h44 m53))
 (∃m54,m54<m24/\I22 (wrap .i64 (n_25+1)) h32 m54))
 (R (.slice (some (aS h9 0)) (x10.toNat) (x10.toNat)) h26))
theorem vc115 (pa:ByteArray) (pb pc:Sl) (pd pe pf:Int) (pg ph:Sl) (H:@W115 h R pa pb pc pd pe pf pg ph):Fn Pz 115 #[.agg ⟨(L0 pa pb pc pd pe pf pg ph)⟩] h R:=fnJ (A:=(.s .z (.s .z (.s (AI 4) (.s .z (.s (.s .z (.b (.l [(5,.one (.int .i64))] (.s .z (.s (.b (AI 6)) .z))))) .z)))))) H
def V116a (at_25:Int) (out_13:Sl) (h40:Heap) (i_14:Int) (m12:Nat) (I10:Sl->Int->Heap->Nat->Prop):Prop:=
 ((0:Int)<=(0:Int)/\(0:Int)<=(at_25:Int)/\(at_25:Int)<=(out_13.c:Nat))/\((0:Int)<=(at_25:Int)/\(at_25:Int)<=((out_13.n:Nat):Int)/\((out_13.n:Nat):Int)<=(out_13.c:Nat))/\Wn h40 [vI i_14] 3 fun h42=>App Pz 42 42 (.slice (some (aS h40 0)) 1 1) (.slice (subA out_13.a (at_25.toNat) out_13.c 1) (Int.toNat (out_13.n:Nat)-at_25.toNat) (out_13.c-at_25.toNat)) h42 fun s43 h44=>App Pz 42 42 (.slice (subA out_13.a (Int.toNat 0) out_13.c 1) (at_25.toNat-Int.toNat 0) (out_13.c-Int.toNat 0)) (vS s43) h44 fun s45 h46=>∃m47,m47<m12/\I10 s45 (wrap .i64 (i_14+1)) h46 m47
def W116 (pa:ByteArray) (pb pc:Sl) (pd pe pf:Int) (pg ph:Sl) (p1:Int):Prop:=
 Wn h (L0 pa pb pc pd pe pf pg ph) 27 fun h9=>QSI ⟨none,0,0⟩ 0 h9 fun I10 out_13 i_14 h15 m12=>∃x16,rS h15 (aS h 6) x16/\sB (decide (i_14<(x16.n:Int))) (∃x17,rS h15 (aS h 6) x17/\NB x17.a fun b18 o19=>Ib i_14 x17.n/\∃x20,rI h15 ⟨b18,o19+i_14.toNat*6,none⟩ x20/\sB (x20 != p1) (∃m21,m21<m12/\I10 out_13 (wrap .i64 (i_14+1)) h15 m21) (QI 0 h15 fun I22 at_25 h26 m24=>sB (decide (at_25<(out_13.n:Int))) (∃x27 x28 x29 x30 x31 x32 x33 x34,aL0 h26 (aS h 0) x27 x28 x29 x30 x31 x32 x33 x34/\NB out_13.a fun b35 o36=>Ib at_25 out_13.n/\∃x37,rI h26 ⟨b35,o36+at_25.toNat*1,none⟩ x37/\Fn Pz 159 #[.agg ⟨(L0 x27 x28 x29 x30 x31 x32 x33 x34)⟩,vI x37,vI i_14] h26 (fun v38 h40=>∃x39,iB v38 x39/\sB x39 (∃m41,m41<m24/\I22 (wrap .i64 (at_25+1)) h40 m41) (V116a at_25 out_13 h40 i_14 m12 I10))) (V116a at_25 out_13 h26 i_14 m12 I10))) (R (vS out_13) h15)
theorem vc116 (pa:ByteArray) (pb pc:Sl) (pd pe pf:Int) (pg ph:Sl) (p1:Int) (H:@W116 h R pa pb pc pd pe pf pg ph p1):Fn Pz 116 #[.agg ⟨(L0 pa pb pc pd pe pf pg ph)⟩,vI p1] h R:=fnJ (A:=(.s .z (.s .z (.s (.s .z (.b (.l [(5,.one (.slice)),(6,.one (.int .i64))] (.s .z (.s (.b (.s .z (.s .z (.s (.b (.l [(7,.one (.int .i64))] .z)) .z)))) .z))))) .z)))) H
def W152 (p0:ByteArray):Prop:=
 sB ((ByteArray.toList p0)==(ByteArray.toList ⟨#[]⟩))
 (R (.bool false) h)
 ((0<=(0:Int)/\(0:Int)<(ByteArray.size p0:Nat)) /\
 Fn Pz 199 #[.int .u8 (byteAt p0 (Int.toNat 0):Int)] h
 (fun v1 h3=>∃x2,iB v1 x2 /\
 sB (!x2)
 (R (.bool false) h3)
 (sB (decide ((ByteArray.size p0:Int)>16))
 (R (.bool false) h3)
 (QI 0 h3 fun I4 i_7 h8 m6=>
 sB (decide (i_7<(ByteArray.size p0:Int)))
 ((0<=(i_7:Int)/\(i_7:Int)<(ByteArray.size p0:Nat)) /\
 Fn Pz 200 #[.int .u8 (byteAt p0 (i_7.toNat):Int)] h8
 (fun v9 h11=>∃x10,iB v9 x10 /\
 sB (!x10)
 (R (.bool false) h11)
 (∃m12,m12<m6/\I4 (wrap .i64 (i_7+1)) h11 m12)))
 (R (.bool true) h8)))))
theorem vc152 (p0:ByteArray) (H:@W152 h R p0):Fn Pz 152 #[.string p0] h R:=fnJ (A:=(.s .z (.s .z (.s (AI 3) .z)))) H
def W153 (p0:Sl) (p1:ByteArray):Prop:=
 QI 0 h fun I1 i_4 h5 m3=>
 sB (decide (i_4<(p0.n:Int)))
 (NB p0.a fun b6 o7=>Ib i_4 p0.n /\
 ∃x8,rT h5 ⟨b6,o7+i_4.toNat*1,none⟩ x8 /\
 sB ((ByteArray.toList x8)==(ByteArray.toList p1))
 (R (.bool true) h5)
 (∃m9,m9<m3/\I1 (wrap .i64 (i_4+1)) h5 m9))
 (R (.bool false) h5)
theorem vc153 (p0:Sl) (p1:ByteArray) (H:@W153 h R p0 p1):Fn Pz 153 #[vS p0,.string p1] h R:=fnJ (A:=(.s .z (.s (AI 5) .z))) H
def W154 :Prop:=
 Wn h [.string ⟨#[97,103,97,105,110]⟩,.string ⟨#[97,110,100]⟩,.string ⟨#[97,115]⟩,.string ⟨#[97,116]⟩,.string ⟨#[99,97,108,108]⟩,.string ⟨#[99,104,111,105,99,101]⟩,.string ⟨#[101,108,115,101]⟩,.string ⟨#[102,114,111,109]⟩,.string ⟨#[105,102]⟩,.string ⟨#[105,110,116]⟩,.string ⟨#[108,101,110]⟩,.string ⟨#[108,111,111,112]⟩,.string ⟨#[109,101,115,115,97,103,101]⟩,.string ⟨#[111,102]⟩,.string ⟨#[111,102,102,101,114]⟩,.string ⟨#[111,110]⟩,.string ⟨#[111,114]⟩,.string ⟨#[112,97,114]⟩,.string ⟨#[112,108,97,121,115]⟩,.string ⟨#[112,114,111,116,111,99,111,108]⟩,.string ⟨#[115,101,114,118,105,99,101]⟩,.string ⟨#[116,101,120,116]⟩,.string ⟨#[116,105,109,101,115]⟩,.string ⟨#[116,111]⟩,.string ⟨#[118,97,114]⟩,.string ⟨#[119,104,101,114,101]⟩,.string ⟨#[119,104,105,108,101]⟩,.string ⟨#[119,105,116,104,105,110]⟩] 9 fun h1=>
 R (.slice (some (aS h 0)) 28 28) h1
theorem vc154  (H:@W154 h R ):Fn Pz 154 #[] h R:=fnJ (A:=.z) H
def W155 (p0:Sl):Prop:=
 QII 0 0 h fun I1 n_4 i_5 h6 m3=>
 sB (decide (i_5<(p0.n:Int)))
 (NB p0.a fun b7 o8=>Ib i_5 p0.n /\
 ∃x9,rS h6 ⟨b7,o8+i_5.toNat*5+1,none⟩ x9 /\
 ∃m10,m10<m3/\I1 (wrap .i64 (n_4+(x9.n:Int))) (wrap .i64 (i_5+1)) h6 m10)
 (R (vI n_4) h6)
theorem vc155 (p0:Sl) (H:@W155 h R p0):Fn Pz 155 #[vS p0] h R:=fnJ (A:=(.s .z (.s .z (.s (.s .z (.b (.l [(3,.one (.int .i64)),(4,.one (.int .i64))] .z))) .z)))) H
def V156a (h9 h:Heap) (least_7 most_8:Int) (R:Value->Heap->Prop):Prop:=
 ∃x11,rI h9 (aS h 1) x11/\sB (decide (x11>=least_7)) (∃x12,rI h9 (aS h 2) x12/\sB (decide (x12<=most_8)) (∃x13,rI h9 (aS h 1) x13/\∃x14,rI h9 (aS h 2) x14/\R (.bool (decide (x13<=x14))) h9) (R (.bool false) h9)) (R (.bool false) h9)
def W156 (pa pb pc:Int):Prop:=
 Wn h (L5 pa pb pc) 182 fun h4=>∃J5:Int->Int->Heap->Prop,(∃x6,rI h4 (aS h 0) x6/\sB (x6==2) (J5 0 40 h4) (J5 (-1000) 1000 h4))/\∀(_:Env) (least_7 most_8:Int) (h9:Heap),J5 least_7 most_8 h9->(∃x10,rI h9 (aS h 0) x10/\sB (x10==1) (V156a h9 h least_7 most_8 R) (∃x15,rI h9 (aS h 0) x15/\sB (x15==2) (V156a h9 h least_7 most_8 R) (R (.bool false) h9)))
theorem vc156 (pa pb pc:Int) (H:@W156 h R pa pb pc):Fn Pz 156 #[.agg ⟨(L5 pa pb pc)⟩] h R:=fnJ (A:=(.s .z (.s .z (.j [(3,.one (.int .i64)),(4,.one (.int .i64))] .z .z)))) H
def V157a (from_4 i_5:Int) (p0:ByteArray) (h6:Heap) (R:Value->Heap->Prop) (m3:Nat) (I1:Int->Int->Heap->Nat->Prop):Prop:=
 ((0:Int)<=(from_4:Int)/\(from_4:Int)<=(i_5:Int)/\(i_5:Int)<=(ByteArray.size p0:Nat))/\Fn Pz 201 #[.string (ByteArray.extract p0 (from_4.toNat) (i_5.toNat))] h6 (fun v7 h9=>∃x8,iB v7 x8/\sB (!x8) (R (.bool false) h9) (∃m10,m10<m3/\I1 (wrap .i64 (i_5+1)) (wrap .i64 (i_5+1)) h9 m10))
def W157 (p0:ByteArray):Prop:=
 QII 0 0 h fun I1 from_4 i_5 h6 m3=>sB (decide (i_5<=(ByteArray.size p0:Int))) (sB (i_5==(ByteArray.size p0:Int)) (V157a from_4 i_5 p0 h6 R m3 I1) ((0<=(i_5:Int)/\(i_5:Int)<(ByteArray.size p0:Nat))/\sB ((byteAt p0 (i_5.toNat):Int)==46) (V157a from_4 i_5 p0 h6 R m3 I1) (∃m15,m15<m3/\I1 from_4 (wrap .i64 (i_5+1)) h6 m15))) (R (.bool (decide ((ByteArray.size p0:Int)<=50))) h6)
theorem vc157 (p0:ByteArray) (H:@W157 h R p0):Fn Pz 157 #[.string p0] h R:=fnJ (A:=(.s .z (.s .z (.s (.s .z (.b (.l [(3,.one (.int .i64)),(4,.one (.int .i64))] .z))) .z)))) H
def W158 (p0 pa pb:Sl):Prop:=
 Wn h [vS pa,vS pb] 134 fun h3=>
 Fn Pz 155 #[vS p0] h3
 (fun v4 h6=>∃x5,iI v4 x5 /\
 QI 0 h6 fun I7 i_10 h11 m9=>
 ∃x12,rS h11 (aS h 0) x12 /\
 sB (decide (i_10<(x12.n:Int)))
 (∃x13,rS h11 (aS h 0) x13 /\
 NB x13.a fun b14 o15=>Ib i_10 x13.n /\
 ∃x16 x17 x18,aL5 h11 ⟨b14,o15+i_10.toNat*3,none⟩ x16 x17 x18 /\
 Wn h11 [vI 0,vI 0,vI 0] 187 fun h19=>
 Wp h19 (aS h11 0) 3 (L5 x16 x17 x18) fun h20=>
 ∃x21,rI h20 (aS h11 0) x21 /\
 sB (decide (x21<(-1)))
 (R (.bool false) h20)
 (∃x22,rI h20 (aS h11 0) x22 /\
 sB (decide (x22>=x5))
 (R (.bool false) h20)
 (∃x23,rI h20 (aS h11 1) x23 /\
 sB (decide (x23<(-1)))
 (R (.bool false) h20)
 (∃x24,rI h20 (aS h11 1) x24 /\
 sB (decide (x24>=x5))
 (R (.bool false) h20)
 (∃x25,rI h20 (aS h11 2) x25 /\
 sB (decide (x25<(-20000)))
 (R (.bool false) h20)
 (∃x26,rI h20 (aS h11 2) x26 /\
 sB (decide (x26>20000))
 (R (.bool false) h20)
 (∃m27,m27<m9/\I7 (wrap .i64 (i_10+1)) h20 m27)))))))
 (QI 0 h11 fun I28 i_31 h32 m30=>
 ∃x33,rS h32 (aS h 1) x33 /\
 sB (decide (i_31<(x33.n:Int)))
 (∃x34,rS h32 (aS h 1) x34 /\
 NB x34.a fun b35 o36=>Ib i_31 x34.n /\
 Ib 0 2 /\
 ∃x37,rI h32 ⟨b35,o36+i_31.toNat*2+Int.toNat 0*1,none⟩ x37 /\
 Fn Pz 202 #[vS p0,vI x37] h32
 (fun v38 h40=>∃x39,iB v38 x39 /\
 sB (!x39)
 (R (.bool false) h40)
 (∃x41,rS h40 (aS h 1) x41 /\
 NB x41.a fun b42 o43=>Ib i_31 x41.n /\
 Ib 1 2 /\
 ∃x44,rI h40 ⟨b42,o43+i_31.toNat*2+Int.toNat 1*1,none⟩ x44 /\
 Fn Pz 202 #[vS p0,vI x44] h40
 (fun v45 h47=>∃x46,iB v45 x46 /\
 sB (!x46)
 (R (.bool false) h47)
 (∃m48,m48<m30/\I28 (wrap .i64 (i_31+1)) h47 m48)))))
 (∃x49,rS h32 (aS h 0) x49 /\
 sB (decide ((x49.n:Int)<=20))
 (∃x50,rS h32 (aS h 1) x50 /\
 R (.bool (decide ((x50.n:Int)<=20))) h32)
 (R (.bool false) h32))))
theorem vc158 (p0 pa pb:Sl) (H:@W158 h R p0 pa pb):Fn Pz 158 #[vS p0,.agg ⟨[vS pa,vS pb]⟩] h R:=fnJ (A:=(.s .z (.s .z (.s (AI 6) (.s (AI 8) .z))))) H
def V159a (h23 h9:Heap) (x13 x14 x15:Int) (b17 o18:Nat) (p2:Int) (h h22:Heap) (x19 x20 x21:Int) (R:Value->Heap->Prop) (p1:Int):Prop:=
 Wp h23 (aS h9 0) 3 (L5 x13 x14 x15) fun h24=>Sm [⟨b17,o18+p2.toNat*6+1,none⟩,(aS h 6)] h23 h24/\Wp h24 (aS h22 0) 3 (L5 x19 x20 x21) fun h25=>∃x26,rI h25 (aS h9 1) x26/\∃x27,rI h25 (aS h22 1) x27/\sB (x26 != x27) (∃x28,rI h25 (aS h9 1) x28/\∃x29,rI h25 (aS h22 1) x29/\R (.bool (decide (x28<x29))) h25) (∃x30,rI h25 (aS h9 2) x30/\∃x31,rI h25 (aS h22 2) x31/\sB (x30 != x31) (∃x32,rI h25 (aS h9 2) x32/\∃x33,rI h25 (aS h22 2) x33/\R (.bool (decide (x32<x33))) h25) (R (.bool (decide (p1<p2))) h25))
def W159 (pa:ByteArray) (pb pc:Sl) (pd pe pf:Int) (pg ph:Sl) (p1 p2:Int):Prop:=
 Wn h (L0 pa pb pc pd pe pf pg ph) 27 fun h9=>∃x10,rS h9 (aS h 6) x10/\NB x10.a fun b11 o12=>Ib p1 x10.n/\∃x13 x14 x15,aL5 h9 ⟨b11,o12+p1.toNat*6+1,none⟩ x13 x14 x15/\∃x16,rS h9 (aS h 6) x16/\NB x16.a fun b17 o18=>Ib p2 x16.n/\∃x19 x20 x21,aL5 h9 ⟨b17,o18+p2.toNat*6+1,none⟩ x19 x20 x21/\(Wn h9 [vI 0,vI 0,vI 0] 53 fun h22=>Sm [⟨b17,o18+p2.toNat*6+1,none⟩,(aS h 6),⟨b11,o12+p1.toNat*6+1,none⟩,(aS h 6)] h9 h22/\Wn h22 [vI 0,vI 0,vI 0] 53 fun h23=>Sm [⟨b17,o18+p2.toNat*6+1,none⟩,(aS h 6),⟨b11,o12+p1.toNat*6+1,none⟩,(aS h 6)] h22 h23/\V159a h23 h9 x13 x14 x15 b17 o18 p2 h h22 x19 x20 x21 R p1)/\Wn h9 [vI 0,vI 0,vI 0] 53 fun h34=>Sm [⟨b17,o18+p2.toNat*6+1,none⟩,(aS h 6),⟨b11,o12+p1.toNat*6+1,none⟩,(aS h 6)] h9 h34/\Wn h34 [vI 0,vI 0,vI 0] 53 fun h35=>Sm [⟨b17,o18+p2.toNat*6+1,none⟩,(aS h 6),⟨b11,o12+p1.toNat*6+1,none⟩,(aS h 6)] h34 h35/\V159a h35 h34 x13 x14 x15 b17 o18 p2 h h9 x19 x20 x21 R p1
theorem vc159 (pa:ByteArray) (pb pc:Sl) (pd pe pf:Int) (pg ph:Sl) (p1 p2:Int) (H:@W159 h R pa pb pc pd pe pf pg ph p1 p2):Fn Pz 159 #[.agg ⟨(L0 pa pb pc pd pe pf pg ph)⟩,vI p1,vI p2] h R:=fnJ (A:=.z) H
def W199 (p0:Int):Prop:=
 sB (decide (p0>=97))
 (sB (decide (p0<=122))
 (R (.bool true) h)
 (sB (decide (p0>=65))
 (R (.bool (decide (p0<=90))) h)
 (R (.bool false) h)))
 (sB (decide (p0>=65))
 (R (.bool (decide (p0<=90))) h)
 (R (.bool false) h))
theorem vc199 (p0:Int) (H:@W199 h R p0):Fn Pz 199 #[.int .u8 p0] h R:=fnJ (A:=.z) H
def W200 (p0:Int):Prop:=
 Fn Pz 199 #[.int .u8 p0] h
 (fun v1 h3=>∃x2,iB v1 x2 /\
 sB x2
 (R (.bool true) h3)
 (Fn Pz 240 #[.int .u8 p0] h3
 (fun v4 h6=>∃x5,iB v4 x5 /\
 sB x5
 (R (.bool true) h6)
 (R (.bool (p0==95)) h6))))
theorem vc200 (p0:Int) (H:@W200 h R p0):Fn Pz 200 #[.int .u8 p0] h R:=fnJ (A:=.z) H
def W201 (p0:ByteArray):Prop:=
 Fn Pz 111 #[.string p0] h
 (fun v1 h3=>∃x2,iB v1 x2 /\
 R (.bool x2) h3)
theorem vc201 (p0:ByteArray) (H:@W201 h R p0):Fn Pz 201 #[.string p0] h R:=fnJ (A:=.z) H
def W202 (p0:Sl) (p1:Int):Prop:=
 sB (decide (p1>=0))
 (Fn Pz 155 #[vS p0] h
 (fun v1 h3=>∃x2,iI v1 x2 /\
 sB (decide (p1<x2))
 (Fn Pz 241 #[vS p0,vI p1] h3
 (fun v4 h9=>∃(x5:ByteArray) (x6 x7 x8:Int),v4=.agg ⟨(L9 x5 x6 x7 x8)⟩ /\
 R (.bool (x6==2)) h9))
 (R (.bool false) h3)))
 (R (.bool false) h)
theorem vc202 (p0:Sl) (p1:Int) (H:@W202 h R p0 p1):Fn Pz 202 #[vS p0,vI p1] h R:=fnJ (A:=.z) H
def W240 (p0:Int):Prop:=
 sB (decide (p0>=48))
 (R (.bool (decide (p0<=57))) h)
 (R (.bool false) h)
theorem vc240 (p0:Int) (H:@W240 h R p0):Fn Pz 240 #[.int .u8 p0] h R:=fnJ (A:=.z) H
def V241a (h20 h:Heap) (R:Value->Heap->Prop):Prop:=
 ∃x21 x22 x23 x24,aL9 h20 (aS h 0) x21 x22 x23 x24/\R (.agg ⟨(L9 x21 x22 x23 x24)⟩) h20
def W241 (p0:Sl) (p1:Int):Prop:=
 Wn h [.string ⟨#[]⟩,vI 0,vI 0,vI 0] 184 fun h1=>QII p1 0 h1 fun I2 x_5 i_6 h7 m4=>sB (decide (i_6<(p0.n:Int))) (NB p0.a fun b8 o9=>Ib i_6 p0.n/\∃x10,rS h7 ⟨b8,o9+i_6.toNat*5+1,none⟩ x10/\sB (decide (x_5<(x10.n:Int))) (NB p0.a fun b11 o12=>Ib i_6 p0.n/\∃x13,rS h7 ⟨b11,o12+i_6.toNat*5+1,none⟩ x13/\NB x13.a fun b14 o15=>Ib x_5 x13.n/\∃x16 x17 x18 x19,aL9 h7 ⟨b14,o15+x_5.toNat*4,none⟩ x16 x17 x18 x19/\Wp h7 (aS h 0) 4 (L9 x16 x17 x18 x19) fun h20=>V241a h20 h R) (NB p0.a fun b25 o26=>Ib i_6 p0.n/\∃x27,rS h7 ⟨b25,o26+i_6.toNat*5+1,none⟩ x27/\∃m28,m28<m4/\I2 (wrap .i64 (x_5-(x27.n:Int))) (wrap .i64 (i_6+1)) h7 m28)) (Wp h7 (aS h 0) 4 [.string ⟨#[]⟩,vI 0,vI 0,vI 0] fun h29=>V241a h29 h R)
theorem vc241 (p0:Sl) (p1:Int) (H:@W241 h R p0 p1):Fn Pz 241 #[vS p0,vI p1] h R:=fnJ (A:=(.s .z (.s (.s .z (.b (.l [(1,.one (.int .i64)),(5,.one (.int .i64))] .z))) .z))) H
end Go.VC
end

section
namespace Go.VC
open Go.Proofs IntKind

end Go.VC
end

section
namespace Go.VC
open Go.Proofs IntKind
variable {h:Heap} {R:Value->Heap->Prop}
def W43 (pa:ByteArray) (pb pc:Sl) (pd pe pf:Int) (pg ph:Sl) (p1:Int):Prop:=
 Wn h (L0 pa pb pc pd pe pf pg ph) 27 fun h9=>
 Wn h9 [vN,vN,vN] 100 fun h10=>
 ∃x11 x12 x13 x14 x15 x16 x17 x18,aL0 h10 (aS h 0) x11 x12 x13 x14 x15 x16 x17 x18 /\
 Fn Pz 91 #[.agg ⟨(L0 x11 x12 x13 x14 x15 x16 x17 x18)⟩,vI p1] h10
 (fun v19 h22=>∃(x20:Sl) (x21:Int),v19=.tuple ⟨[vS x20,vI x21]⟩ /\
 sB (x21 != 0)
 (Wp h22 (aS h9 0) 3 [vN,vN,vN] fun h23=>
 ∃x24 x25 x26,aL7 h23 (aS h9 0) x24 x25 x26 /\
 R (.tuple ⟨[.agg ⟨(L7 x24 x25 x26)⟩,vI x21]⟩) h23)
 (Wn h22 [vS x20] 42 fun h27=>
 Wn h27 [vN,vN,vN] 100 fun h28=>
 Wp h28 (aS h27 0) 3 [.slice (some (aS h22 0)) 1 1,vN,vN] fun h29=>
 QI 0 h29 fun I30 i_33 h34 m32=>
 ∃x35,rS h34 (aS h27 0) x35 /\
 sB (decide (i_33<(x35.n:Int)))
 (∃x36,rS h34 (aS h27 1) x36 /\
 ∃x37,rS h34 (aS h27 0) x37 /\
 NB x37.a fun b38 o39=>Ib i_33 x37.n /\
 ∃x40,rS h34 ⟨b38,o39+i_33.toNat*1,none⟩ x40 /\
 ∃x41,rI h34 (aS h 5) x41 /\
 Fn Pz 92 #[vS x40,vI x41] h34
 (fun v42 h44=>∃x43,iB v42 x43 /\
 Sm [(aS h27 1)] h34 h44 /\
 Wn h44 [.bool x43] 4 fun h45=>
 Sm [(aS h27 1)] h44 h45 /\
 App Pz 30 30 (vS x36) (.slice (some (aS h44 0)) 1 1) h45 fun s46 h47=>
 Wp h47 (aS h27 1) 1 [vS s46] fun h48=>
 ∃x49 x50 x51 x52 x53 x54 x55 x56,aL0 h48 (aS h 0) x49 x50 x51 x52 x53 x54 x55 x56 /\
 ∃x57,rS h48 (aS h27 0) x57 /\
 NB x57.a fun b58 o59=>Ib i_33 x57.n /\
 ∃x60,rS h48 ⟨b58,o59+i_33.toNat*1,none⟩ x60 /\
 Fn Pz 93 #[.agg ⟨(L0 x49 x50 x51 x52 x53 x54 x55 x56)⟩,vI p1,vS x60] h48
 (fun v61 h63=>∃x62,iS v61 x62 /\
 QI 0 h63 fun I64 k_67 h68 m66=>
 sB (decide (k_67<(x62.n:Int)))
 (∃x69 x70 x71 x72 x73 x74 x75 x76,aL0 h68 (aS h 0) x69 x70 x71 x72 x73 x74 x75 x76 /\
 ∃x77,rS h68 (aS h27 0) x77 /\
 NB x77.a fun b78 o79=>Ib i_33 x77.n /\
 ∃x80,rS h68 ⟨b78,o79+i_33.toNat*1,none⟩ x80 /\
 NB x62.a fun b81 o82=>Ib k_67 x62.n /\
 ∃x83 x84 x85 x86 x87,aL2 h68 ⟨b81,o82+k_67.toNat*5,none⟩ x83 x84 x85 x86 x87 /\
 Fn Pz 94 #[.agg ⟨(L0 x69 x70 x71 x72 x73 x74 x75 x76)⟩,vI p1,vS x80,.agg ⟨(L2 x83 x84 x85 x86 x87)⟩] h68
 (fun v88 h90=>∃x89,iS v88 x89 /\
 ∃x91,rS h90 (aS h27 0) x91 /\
 Fn Pz 95 #[vS x91,vS x89] h90
 (fun v92 h94=>∃x93,iI v92 x93 /\
 ∃J95:Int->Heap->Prop,
 (sB (decide (x93<0))
 (∃x96,rS h94 (aS h27 0) x96 /\
 ∃x97,rS h94 (aS h27 0) x97 /\
 Wn h94 [vS x89] 42 fun h98=>
 App Pz 98 98 (vS x97) (.slice (some (aS h94 0)) 1 1) h98 fun s99 h100=>
 Wp h100 (aS h27 0) 1 [vS s99] fun h101=>
 J95 (x96.n:Int) h101)
 (J95 x93 h94)) /\
 ∀(_:Env) (n_102:Int) (h103:Heap),J95 n_102 h103 ->
 (sB (decide (n_102>=200))
 (Wp h103 (aS h9 0) 3 [vN,vN,vN] fun h104=>
 ∃x105 x106 x107,aL7 h104 (aS h9 0) x105 x106 x107 /\
 R (.tuple ⟨[.agg ⟨(L7 x105 x106 x107)⟩,vI 6]⟩) h104)
 (∃x108,rS h103 (aS h27 2) x108 /\
 NB x62.a fun b109 o110=>Ib k_67 x62.n /\
 ∃x111,rB h103 ⟨b109,o110+k_67.toNat*5+1,none⟩ x111 /\
 NB x62.a fun b112 o113=>Ib k_67 x62.n /\
 ∃x114,rI h103 ⟨b112,o113+k_67.toNat*5+2,none⟩ x114 /\
 NB x62.a fun b115 o116=>Ib k_67 x62.n /\
 ∃x117,rI h103 ⟨b115,o116+k_67.toNat*5+3,none⟩ x117 /\
 Wn h103 [vI i_33,.bool x111,vI x114,vI x117,vI n_102,.bool false] 45 fun h118=>
 Sm [(aS h27 2)] h103 h118 /\
 App Pz 31 31 (vS x108) (.slice (some (aS h103 0)) 1 1) h118 fun s119 h120=>
 Wp h120 (aS h27 2) 1 [vS s119] fun h121=>
 ∃m122,m122<m66/\I64 (wrap .i64 (k_67+1)) h121 m122)))))
 (∃m123,m123<m32/\I30 (wrap .i64 (i_33+1)) h68 m123))))
 (∃x124 x125 x126,aL7 h34 (aS h27 0) x124 x125 x126 /\
 Wp h34 (aS h9 0) 3 (L7 x124 x125 x126) fun h127=>
 ∃x128 x129 x130,aL7 h127 (aS h9 0) x128 x129 x130 /\
 R (.tuple ⟨[.agg ⟨(L7 x128 x129 x130)⟩,vI 0]⟩) h127)))
theorem vc43 (pa:ByteArray) (pb pc:Sl) (pd pe pf:Int) (pg ph:Sl) (p1:Int) (H:@W43 h R pa pb pc pd pe pf pg ph p1):Fn Pz 43 #[.agg ⟨(L0 pa pb pc pd pe pf pg ph)⟩,vI p1] h R:=fnJ (A:=(.s .z (.s .z (.s .z (.s .z (.s (.s .z (.b (.l [(9,.one (.int .i64))] (.s .z (.s (.b (.s .z (.s .z (.s .z (.b (.l [(11,.one (.int .i64))] (.s .z (.s (.b (.s .z (.s .z (.j [(13,.one (.int .i64))] .z .z)))) .z)))))))) .z))))) .z)))))) H
def W13 (pa:ByteArray) (pb pc:Sl) (pd pe pf:Int) (pg ph:Sl) (p1:Int):Prop:=
 Wn h (L0 pa pb pc pd pe pf pg ph) 27 fun h9=>
 Wn h9 [vI 0,vI 0,vI 0,vN,vN,vN] 33 fun h10=>
 ∃x11 x12 x13 x14 x15 x16 x17 x18,aL0 h10 (aS h 0) x11 x12 x13 x14 x15 x16 x17 x18 /\
 Fn Pz 15 #[.agg ⟨(L0 x11 x12 x13 x14 x15 x16 x17 x18)⟩,vI p1] h10
 (fun v19 h27=>∃(x20 x21 x22:Int) (x23 x24 x25:Sl) (x26:Int),v19=.tuple ⟨[.agg ⟨(L1 x20 x21 x22 x23 x24 x25)⟩,vI x26]⟩ /\
 Wn h27 [vI 0,vI 0,vI 0,vN,vN,vN] 33 fun h28=>
 Wp h28 (aS h27 0) 6 (L1 x20 x21 x22 x23 x24 x25) fun h29=>
 sB (x26 != 0)
 (Wp h29 (aS h9 0) 6 [vI 0,vI 0,vI 0,vN,vN,vN] fun h30=>
 ∃x31 x32 x33 x34 x35 x36,aL1 h30 (aS h9 0) x31 x32 x33 x34 x35 x36 /\
 R (.tuple ⟨[.agg ⟨(L1 x31 x32 x33 x34 x35 x36)⟩,vI x26]⟩) h30)
 (∃x37 x38 x39 x40 x41 x42,aL1 h29 (aS h27 0) x37 x38 x39 x40 x41 x42 /\
 Fn Pz 37 #[.agg ⟨(L1 x37 x38 x39 x40 x41 x42)⟩] h29
 (fun v43 h50=>∃(x44 x45 x46:Int) (x47 x48 x49:Sl),v43=.agg ⟨(L1 x44 x45 x46 x47 x48 x49)⟩ /\
 Wp h50 (aS h9 0) 6 (L1 x44 x45 x46 x47 x48 x49) fun h51=>
 ∃x52 x53 x54 x55 x56 x57,aL1 h51 (aS h9 0) x52 x53 x54 x55 x56 x57 /\
 R (.tuple ⟨[.agg ⟨(L1 x52 x53 x54 x55 x56 x57)⟩,vI 0]⟩) h51)))
theorem vc13 (pa:ByteArray) (pb pc:Sl) (pd pe pf:Int) (pg ph:Sl) (p1:Int) (H:@W13 h R pa pb pc pd pe pf pg ph p1):Fn Pz 13 #[.agg ⟨(L0 pa pb pc pd pe pf pg ph)⟩,vI p1] h R:=fnJ (A:=.z) H
def W98 (pa:ByteArray) (pb pc:Sl) (pd pe pf:Int) (pg ph:Sl) (p1 p2 p3:Int):Prop:=
 Wn h (L0 pa pb pc pd pe pf pg ph) 27 fun h9=>
 ∃x10 x11 x12 x13 x14 x15 x16 x17,aL0 h9 (aS h 0) x10 x11 x12 x13 x14 x15 x16 x17 /\
 Fn Pz 99 #[.agg ⟨(L0 x10 x11 x12 x13 x14 x15 x16 x17)⟩,vI p1,vI p2] h9
 (fun v18 h20=>∃x19,iB v18 x19 /\
 sB (!x19)
 (R (.bool false) h20)
 (∃x21 x22 x23 x24 x25 x26 x27 x28,aL0 h20 (aS h 0) x21 x22 x23 x24 x25 x26 x27 x28 /\
 Fn Pz 99 #[.agg ⟨(L0 x21 x22 x23 x24 x25 x26 x27 x28)⟩,vI p1,vI p3] h20
 (fun v29 h31=>∃x30,iB v29 x30 /\
 sB (!x30)
 (R (.bool false) h31)
 (∃x32 x33 x34 x35 x36 x37 x38 x39,aL0 h31 (aS h 0) x32 x33 x34 x35 x36 x37 x38 x39 /\
 Fn Pz 147 #[.agg ⟨(L0 x32 x33 x34 x35 x36 x37 x38 x39)⟩,vI p2] h31
 (fun v40 h45=>∃(x41 x42 x43 x44:Int),v40=.tuple ⟨[vI x41,.agg ⟨(L5 x42 x43 x44)⟩]⟩ /\
 Wn h45 [vI 0,vI 0,vI 0] 53 fun h46=>
 Wp h46 (aS h45 0) 3 (L5 x42 x43 x44) fun h47=>
 ∃x48 x49 x50 x51 x52 x53 x54 x55,aL0 h47 (aS h 0) x48 x49 x50 x51 x52 x53 x54 x55 /\
 Fn Pz 147 #[.agg ⟨(L0 x48 x49 x50 x51 x52 x53 x54 x55)⟩,vI p3] h47
 (fun v56 h61=>∃(x57 x58 x59 x60:Int),v56=.tuple ⟨[vI x57,.agg ⟨(L5 x58 x59 x60)⟩]⟩ /\
 Wn h61 [vI 0,vI 0,vI 0] 53 fun h62=>
 Wp h62 (aS h61 0) 3 (L5 x58 x59 x60) fun h63=>
 sB (x41 != x57)
 (R (.bool true) h63)
 (∃x64 x65 x66,aL5 h63 (aS h45 0) x64 x65 x66 /\
 ∃x67 x68 x69,aL5 h63 (aS h61 0) x67 x68 x69 /\
 sB (!((x64==x67)&&((x65==x68)&&((x66==x69)&&true))))
 (R (.bool true) h63)
 (∃x70,rS h63 (aS h 6) x70 /\
 ∃x71 x72 x73 x74 x75 x76 x77 x78,aL0 h63 (aS h 0) x71 x72 x73 x74 x75 x76 x77 x78 /\
 ∃x79,rS h63 (aS h 6) x79 /\
 ∃x80 x81 x82 x83 x84 x85 x86 x87,aL0 h63 (aS h 0) x80 x81 x82 x83 x84 x85 x86 x87 /\
 Fn Pz 23 #[.agg ⟨(L0 x71 x72 x73 x74 x75 x76 x77 x78)⟩,vI p2] h63
 (fun v88 h90=>∃x89,iS v88 x89 /\
 Sm [(aS h 0),(aS h 6),(aS h 6),(aS h61 0),(aS h45 0)] h63 h90 /\
 NB x89.a fun b91 o92=>Ib 0 x89.n /\
 ∃x93,rI h90 ⟨b91,o92+Int.toNat 0*1,none⟩ x93 /\
 NB x70.a fun b94 o95=>Ib x93 x70.n /\
 ∃x96,rB h90 ⟨b94,o95+x93.toNat*6+5,none⟩ x96 /\
 Fn Pz 23 #[.agg ⟨(L0 x80 x81 x82 x83 x84 x85 x86 x87)⟩,vI p3] h90
 (fun v97 h99=>∃x98,iS v97 x98 /\
 Sm [⟨b94,o95+x93.toNat*6+5,none⟩,⟨b91,o92+Int.toNat 0*1,none⟩,(aS h 6),(aS h 0),(aS h 6),(aS h61 0),(aS h45 0)] h90 h99 /\
 NB x98.a fun b100 o101=>Ib 0 x98.n /\
 ∃x102,rI h99 ⟨b100,o101+Int.toNat 0*1,none⟩ x102 /\
 NB x79.a fun b103 o104=>Ib x102 x79.n /\
 ∃x105,rB h99 ⟨b103,o104+x102.toNat*6+5,none⟩ x105 /\
 R (.bool (!(x96==x105))) h99))))))))))
theorem vc98 (pa:ByteArray) (pb pc:Sl) (pd pe pf:Int) (pg ph:Sl) (p1 p2 p3:Int) (H:@W98 h R pa pb pc pd pe pf pg ph p1 p2 p3):Fn Pz 98 #[.agg ⟨(L0 pa pb pc pd pe pf pg ph)⟩,vI p1,vI p2,vI p3] h R:=fnJ (A:=.z) H
def V44a (h80:Heap) (i_57:Int) (h:Heap) (p2:Sl) (p1:Int) (R:Value->Heap->Prop) (m56:Nat) (I54:Int->Heap->Nat->Prop):Prop:=
 QI 0 h80 fun I81 k_84 h85 m83=>sB (decide (k_84<i_57)) (∃x86 x87 x88 x89 x90 x91 x92 x93,aL0 h85 (aS h 0) x86 x87 x88 x89 x90 x91 x92 x93/\NB p2.a fun b94 o95=>Ib i_57 p2.n/\∃x96,rI h85 ⟨b94,o95+i_57.toNat*1,none⟩ x96/\NB p2.a fun b97 o98=>Ib k_84 p2.n/\∃x99,rI h85 ⟨b97,o98+k_84.toNat*1,none⟩ x99/\Fn Pz 98 #[.agg ⟨(L0 x86 x87 x88 x89 x90 x91 x92 x93)⟩,vI p1,vI x96,vI x99] h85 (fun v100 h102=>∃x101,iB v100 x101/\sB x101 (R (.bool false) h102) (∃m103,m103<m83/\I81 (wrap .i64 (k_84+1)) h102 m103))) (∃m104,m104<m56/\I54 (wrap .i64 (i_57+1)) h85 m104)
def W44 (pa:ByteArray) (pb pc:Sl) (pd pe pf:Int) (pg ph:Sl) (p1:Int) (p2:Sl):Prop:=
 Wn h (L0 pa pb pc pd pe pf pg ph) 27 fun h9=>QBI false 0 h9 fun I10 some_13 i_14 h15 m12=>sB (decide (i_14<(p2.n:Int))) (∃x16 x17 x18 x19 x20 x21 x22 x23,aL0 h15 (aS h 0) x16 x17 x18 x19 x20 x21 x22 x23/\NB p2.a fun b24 o25=>Ib i_14 p2.n/\∃x26,rI h15 ⟨b24,o25+i_14.toNat*1,none⟩ x26/\Fn Pz 96 #[.agg ⟨(L0 x16 x17 x18 x19 x20 x21 x22 x23)⟩,vI p1,vI x26] h15 (fun v27 h31=>∃(x28:Sl) (x29:Bool) (x30:Int),v27=.tuple ⟨(L13 x28 x29 x30)⟩/\sB some_13 (∃m32,m32<m12/\I10 true (wrap .i64 (i_14+1)) h31 m32) (sB (decide ((x28.n:Int)>0)) (NB x28.a fun b33 o34=>Ib 0 x28.n/\∃x35,rB h31 ⟨b33,o34+Int.toNat 0*5+1,none⟩ x35/\∃m36,m36<m12/\I10 x35 (wrap .i64 (i_14+1)) h31 m36) (∃m37,m37<m12/\I10 false (wrap .i64 (i_14+1)) h31 m37)))) (∃x38 x39 x40 x41 x42 x43 x44 x45,aL0 h15 (aS h 0) x38 x39 x40 x41 x42 x43 x44 x45/\NB p2.a fun b46 o47=>Ib 0 p2.n/\∃x48,rI h15 ⟨b46,o47+Int.toNat 0*1,none⟩ x48/\Fn Pz 96 #[.agg ⟨(L0 x38 x39 x40 x41 x42 x43 x44 x45)⟩,vI p1,vI x48] h15 (fun v49 h53=>∃(x50:Sl) (x51:Bool) (x52:Int),v49=.tuple ⟨(L13 x50 x51 x52)⟩/\QI 0 h53 fun I54 i_57 h58 m56=>sB (decide (i_57<(p2.n:Int))) (∃x59 x60 x61 x62 x63 x64 x65 x66,aL0 h58 (aS h 0) x59 x60 x61 x62 x63 x64 x65 x66/\NB p2.a fun b67 o68=>Ib i_57 p2.n/\∃x69,rI h58 ⟨b67,o68+i_57.toNat*1,none⟩ x69/\Fn Pz 96 #[.agg ⟨(L0 x59 x60 x61 x62 x63 x64 x65 x66)⟩,vI p1,vI x69] h58 (fun v70 h74=>∃(x71:Sl) (x72:Bool) (x73:Int),v70=.tuple ⟨(L13 x71 x72 x73)⟩/\sB some_13 (sB x72 (R (.bool false) h74) (sB ((x71.n:Int)==0) (R (.bool false) h74) (NB x71.a fun b75 o76=>(0<=((wrap .i64 ((x71.n:Int)-1)):Int)/\((wrap .i64 ((x71.n:Int)-1)):Int)<(x71.n:Nat))/\∃x77,rB h74 ⟨b75,o76+Int.toNat (wrap .i64 ((x71.n:Int)-1))*5+1,none⟩ x77/\sB (!x77) (R (.bool false) h74) (Fn Pz 97 #[vS x71,vS x50] h74 (fun v78 h80=>∃x79,iB v78 x79/\sB (!x79) (R (.bool false) h80) (V44a h80 i_57 h p2 p1 R m56 I54)))))) (V44a h74 i_57 h p2 p1 R m56 I54))) (R (.bool true) h58)))
theorem vc44 (pa:ByteArray) (pb pc:Sl) (pd pe pf:Int) (pg ph:Sl) (p1:Int) (p2:Sl) (H:@W44 h R pa pb pc pd pe pf pg ph p1 p2):Fn Pz 44 #[.agg ⟨(L0 pa pb pc pd pe pf pg ph)⟩,vI p1,vS p2] h R:=fnJ (A:=(.s .z (.s .z (.s (.s .z (.b (.l [(7,.one (.bool)),(8,.one (.int .i64))] .z))) (.s .z (.s (.s .z (.b (.l [(15,.one (.int .i64))] (.s .z (.s (.b (.s .z (.s .z (AI 19)))) .z))))) .z)))))) H
def W45 (pa:ByteArray) (pb pc:Sl) (pd pe pf:Int) (pg ph:Sl) (p1:Int) (p2:Sl):Prop:=
 Wn h (L0 pa pb pc pd pe pf pg ph) 27 fun h9=>
 Wn h9 [vI 0,.bool false,vI 0,vI 0,vN] 60 fun h10=>
 QI 0 h10 fun I11 i_14 h15 m13=>
 ∃x16,rS h15 (aS h 7) x16 /\
 sB (decide (i_14<(x16.n:Int)))
 (∃x17,rS h15 (aS h 7) x17 /\
 NB x17.a fun b18 o19=>Ib i_14 x17.n /\
 ∃x20 x21 x22,aL5 h15 ⟨b18,o19+i_14.toNat*3,none⟩ x20 x21 x22 /\
 Wn h15 [vI 0,vI 0,vI 0] 63 fun h23=>
 Wp h23 (aS h15 0) 3 (L5 x20 x21 x22) fun h24=>
 ∃x25,rI h24 (aS h15 0) x25 /\
 Fn Pz 92 #[vS p2,vI x25] h24
 (fun v26 h28=>∃x27,iB v26 x27 /\
 sB x27
 (∃x29 x30 x31 x32 x33 x34 x35 x36,aL0 h28 (aS h 0) x29 x30 x31 x32 x33 x34 x35 x36 /\
 ∃x37,rI h28 (aS h15 0) x37 /\
 Fn Pz 99 #[.agg ⟨(L0 x29 x30 x31 x32 x33 x34 x35 x36)⟩,vI p1,vI x37] h28
 (fun v38 h40=>∃x39,iB v38 x39 /\
 sB x39
 (∃x41,rI h40 (aS h15 1) x41 /\
 ∃x42,rS h40 (aS h 6) x42 /\
 ∃x43,rI h40 (aS h15 2) x43 /\
 NB x42.a fun b44 o45=>Ib x43 x42.n /\
 ∃x46 x47 x48 x49 x50 x51,aL4 h40 ⟨b44,o45+x43.toNat*6,none⟩ x46 x47 x48 x49 x50 x51 /\
 Fn Pz 51 #[.agg ⟨(L4 x46 x47 x48 x49 x50 x51)⟩,vI p1] h40
 (fun v52 h58=>∃(x53:Int) (x54:Bool) (x55 x56:Int) (x57:Sl),v52=.agg ⟨(L2 x53 x54 x55 x56 x57)⟩ /\
 Sm [(aS h15 1)] h40 h58 /\
 Wp h58 (aS h9 0) 5 (L2 x53 x54 x55 x56 x57) fun h59=>
 ∃x60 x61 x62 x63 x64,aL2 h59 (aS h9 0) x60 x61 x62 x63 x64 /\
 R (.tuple ⟨[vI x41,.agg ⟨(L2 x60 x61 x62 x63 x64)⟩]⟩) h59))
 (∃m65,m65<m13/\I11 (wrap .i64 (i_14+1)) h40 m65)))
 (∃m66,m66<m13/\I11 (wrap .i64 (i_14+1)) h28 m66)))
 (Wp h15 (aS h9 0) 5 [vI 0,.bool false,vI 0,vI 0,vN] fun h67=>
 ∃x68 x69 x70 x71 x72,aL2 h67 (aS h9 0) x68 x69 x70 x71 x72 /\
 R (.tuple ⟨[vI 0,.agg ⟨(L2 x68 x69 x70 x71 x72)⟩]⟩) h67)
theorem vc45 (pa:ByteArray) (pb pc:Sl) (pd pe pf:Int) (pg ph:Sl) (p1:Int) (p2:Sl) (H:@W45 h R pa pb pc pd pe pf pg ph p1 p2):Fn Pz 45 #[.agg ⟨(L0 pa pb pc pd pe pf pg ph)⟩,vI p1,vS p2] h R:=fnJ (A:=(.s .z (.s (AI 8) .z))) H
def W46 (pa:ByteArray) (pb pc:Sl) (pd pe pf:Int) (pg ph:Sl) (p1:Int) (p2:Sl) (pi:Int) (pj:Bool) (pk pl:Int) (pm:Sl):Prop:=
 Wn h (L0 pa pb pc pd pe pf pg ph) 27 fun h14=>
 Wn h14 (L2 pi pj pk pl pm) 60 fun h15=>
 QI 0 h15 fun I16 i_19 h20 m18=>
 ∃x21,rS h20 (aS h 6) x21 /\
 sB (decide (i_19<(x21.n:Int)))
 (∃x22,rS h20 (aS h 6) x22 /\
 NB x22.a fun b23 o24=>Ib i_19 x22.n /\
 ∃x25 x26 x27 x28 x29 x30,aL4 h20 ⟨b23,o24+i_19.toNat*6,none⟩ x25 x26 x27 x28 x29 x30 /\
 Wn h20 [vI 0,vI 0,vI 0,vI 0,vI 0,.bool false] 55 fun h31=>
 Wp h31 (aS h20 0) 6 (L4 x25 x26 x27 x28 x29 x30) fun h32=>
 ∃x33,rB h32 (aS h20 5) x33 /\
 sB x33
 (∃x34,rB h32 (aS h14 1) x34 /\
 sB x34
 (∃x35 x36 x37 x38 x39 x40,aL4 h32 (aS h20 0) x35 x36 x37 x38 x39 x40 /\
 Fn Pz 50 #[.agg ⟨(L4 x35 x36 x37 x38 x39 x40)⟩,vI p1] h32
 (fun v41 h43=>∃x42,iB v41 x42 /\
 Sm [(aS h14 1),(aS h20 5)] h32 h43 /\
 sB x42
 (∃x44,rI h43 (aS h20 0) x44 /\
 Fn Pz 92 #[vS p2,vI x44] h43
 (fun v45 h47=>∃x46,iB v45 x46 /\
 Sm [(aS h20 0),(aS h14 1),(aS h20 5)] h43 h47 /\
 sB x46
 (∃x48 x49 x50 x51 x52 x53,aL4 h47 (aS h20 0) x48 x49 x50 x51 x52 x53 /\
 ∃x54 x55 x56 x57 x58,aL2 h47 (aS h14 0) x54 x55 x56 x57 x58 /\
 Fn Pz 51 #[.agg ⟨(L4 x48 x49 x50 x51 x52 x53)⟩,vI p1] h47
 (fun v59 h65=>∃(x60:Int) (x61:Bool) (x62 x63:Int) (x64:Sl),v59=.agg ⟨(L2 x60 x61 x62 x63 x64)⟩ /\
 Sm [(aS h14 0),(aS h20 0),(aS h20 0),(aS h14 1),(aS h20 5)] h47 h65 /\
 Fn Pz 47 #[.agg ⟨(L2 x60 x61 x62 x63 x64)⟩,.agg ⟨(L2 x54 x55 x56 x57 x58)⟩] h65
 (fun v66 h68=>∃x67,iB v66 x67 /\
 Sm [(aS h20 0),(aS h20 0),(aS h14 1),(aS h20 5)] h65 h68 /\
 sB x67
 (R (.bool true) h68)
 (∃m69,m69<m18/\I16 (wrap .i64 (i_19+1)) h68 m69))))
 (∃m70,m70<m18/\I16 (wrap .i64 (i_19+1)) h47 m70)))
 (∃m71,m71<m18/\I16 (wrap .i64 (i_19+1)) h43 m71)))
 (∃m72,m72<m18/\I16 (wrap .i64 (i_19+1)) h32 m72))
 (∃m73,m73<m18/\I16 (wrap .i64 (i_19+1)) h32 m73))
 (R (.bool false) h20)
theorem vc46 (pa:ByteArray) (pb pc:Sl) (pd pe pf:Int) (pg ph:Sl) (p1:Int) (p2:Sl) (pi:Int) (pj:Bool) (pk pl:Int) (pm:Sl) (H:@W46 h R pa pb pc pd pe pf pg ph p1 p2 pi pj pk pl pm):Fn Pz 46 #[.agg ⟨(L0 pa pb pc pd pe pf pg ph)⟩,vI p1,vS p2,.agg ⟨(L2 pi pj pk pl pm)⟩] h R:=fnJ (A:=(.s .z (.s (AI 9) .z))) H
def V15b (h159 h26 h100:Heap) (m98:Nat) (I96:Int->Heap->Nat->Prop) (k_99:Int):Prop:=
 ∃x160,rS h159 (aS h26 4) x160/\∃x161 x162 x163 x164 x165 x166,aL3 h159 (aS h100 0) x161 x162 x163 x164 x165 x166/\Wn h159 (L3 x161 x162 x163 x164 x165 x166) 45 fun h167=>App Pz 31 31 (vS x160) (.slice (some (aS h159 0)) 1 1) h167 fun s168 h169=>Wp h169 (aS h26 4) 1 [vS s168] fun h170=>∃m171,m171<m98/\I96 (wrap .i64 (k_99+1)) h170 m171
def V15a (h94 h93:Heap) (x88:Int) (x89:Bool) (x90 x91:Int) (x92:Sl) (h24:Heap) (i_49 p1:Int) (h:Heap) (x87:Int) (h26:Heap) (m48:Nat) (I46:Int->Heap->Nat->Prop):Prop:=
 Wp h94 (aS h93 0) 5 (L2 x88 x89 x90 x91 x92) fun h95=>QI 0 h95 fun I96 k_99 h100 m98=>∃x101,rS h100 (aS h24 2) x101/\sB (decide (k_99<(x101.n:Int))) (∃x102,rS h100 (aS h24 2) x102/\NB x102.a fun b103 o104=>Ib k_99 x102.n/\∃x105 x106 x107 x108 x109 x110,aL3 h100 ⟨b103,o104+k_99.toNat*6,none⟩ x105 x106 x107 x108 x109 x110/\Wn h100 [vI 0,.bool false,vI 0,vI 0,vI 0,.bool false] 45 fun h111=>Wp h111 (aS h100 0) 6 (L3 x105 x106 x107 x108 x109 x110) fun h112=>∃x113,rI h112 (aS h100 0) x113/\sB (x113 != i_49) (∃m114,m114<m98/\I96 (wrap .i64 (k_99+1)) h112 m114) (∃x115,rB h112 (aS h100 1) x115/\∃x116,rI h112 (aS h100 2) x116/\∃x117,rI h112 (aS h100 3) x117/\Wn h112 [vI 0,.bool false,vI 0,vI 0,vN] 60 fun h118=>Wp h118 (aS h112 0) 5 [vI p1,.bool x115,vI x116,vI x117,vN] fun h119=>∃x120 x121 x122 x123 x124 x125 x126 x127,aL0 h119 (aS h 0) x120 x121 x122 x123 x124 x125 x126 x127/\∃x128,rS h119 (aS h24 0) x128/\NB x128.a fun b129 o130=>Ib i_49 x128.n/\∃x131,rS h119 ⟨b129,o130+i_49.toNat*1,none⟩ x131/\∃x132 x133 x134 x135 x136,aL2 h119 (aS h112 0) x132 x133 x134 x135 x136/\Fn Pz 46 #[.agg ⟨(L0 x120 x121 x122 x123 x124 x125 x126 x127)⟩,vI p1,vS x131,.agg ⟨(L2 x132 x133 x134 x135 x136)⟩] h119 (fun v137 h139=>∃x138,iB v137 x138/\Wp h139 (aS h100 5) 1 [.bool x138] fun h140=>sB (decide (x87>0)) (∃x141 x142 x143 x144 x145,aL2 h140 (aS h93 0) x141 x142 x143 x144 x145/\∃x146 x147 x148 x149 x150,aL2 h140 (aS h112 0) x146 x147 x148 x149 x150/\Fn Pz 47 #[.agg ⟨(L2 x141 x142 x143 x144 x145)⟩,.agg ⟨(L2 x146 x147 x148 x149 x150)⟩] h140 (fun v151 h153=>∃x152,iB v151 x152/\sB x152 (∃x154,rS h153 (aS h26 5) x154/\∃x155,rS h153 (aS h26 4) x155/\Wn h153 [vI i_49,vI x87,vI (x155.n:Int)] 63 fun h156=>App Pz 25 25 (vS x154) (.slice (some (aS h153 0)) 1 1) h156 fun s157 h158=>Wp h158 (aS h26 5) 1 [vS s157] fun h159=>V15b h159 h26 h100 m98 I96 k_99) (V15b h153 h26 h100 m98 I96 k_99))) (V15b h140 h26 h100 m98 I96 k_99)))) (∃m196,m196<m48/\I46 (wrap .i64 (i_49+1)) h100 m196)
def W15 (pa:ByteArray) (pb pc:Sl) (pd pe pf:Int) (pg ph:Sl) (p1:Int):Prop:=
 Wn h (L0 pa pb pc pd pe pf pg ph) 27 fun h9=>Wn h9 [vI 0,vI 0,vI 0,vN,vN,vN] 33 fun h10=>∃x11 x12 x13 x14 x15 x16 x17 x18,aL0 h10 (aS h 0) x11 x12 x13 x14 x15 x16 x17 x18/\Fn Pz 43 #[.agg ⟨(L0 x11 x12 x13 x14 x15 x16 x17 x18)⟩,vI p1] h10 (fun v19 h24=>∃(x20 x21 x22:Sl) (x23:Int),v19=.tuple ⟨[.agg ⟨(L7 x20 x21 x22)⟩,vI x23]⟩/\Wn h24 [vN,vN,vN] 100 fun h25=>Wp h25 (aS h24 0) 3 (L7 x20 x21 x22) fun h26=>sB (x23 != 0) (Wp h26 (aS h9 0) 6 [vI 0,vI 0,vI 0,vN,vN,vN] fun h27=>∃x28 x29 x30 x31 x32 x33,aL1 h27 (aS h9 0) x28 x29 x30 x31 x32 x33/\R (.tuple ⟨[.agg ⟨(L1 x28 x29 x30 x31 x32 x33)⟩,vI x23]⟩) h27) (∃x34,rS h26 (aS h24 2) x34/\sB (decide ((x34.n:Int)>400)) (Wp h26 (aS h9 0) 6 [vI 0,vI 0,vI 0,vN,vN,vN] fun h35=>∃x36 x37 x38 x39 x40 x41,aL1 h35 (aS h9 0) x36 x37 x38 x39 x40 x41/\R (.tuple ⟨[.agg ⟨(L1 x36 x37 x38 x39 x40 x41)⟩,vI 6]⟩) h35) (∃x42,rS h26 (aS h24 0) x42/\∃x43,rS h26 (aS h24 1) x43/\Wn h26 [vI 0,vI 0,vI 0,vN,vN,vN] 33 fun h44=>Wp h44 (aS h26 0) 6 [vI p1,vI (x42.n:Int),vI 0,vS x43,vN,vN] fun h45=>QI 0 h45 fun I46 i_49 h50 m48=>∃x51,rS h50 (aS h24 0) x51/\sB (decide (i_49<(x51.n:Int))) (∃x52 x53 x54 x55 x56 x57 x58 x59,aL0 h50 (aS h 0) x52 x53 x54 x55 x56 x57 x58 x59/\∃x60,rS h50 (aS h24 0) x60/\NB x60.a fun b61 o62=>Ib i_49 x60.n/\∃x63,rS h50 ⟨b61,o62+i_49.toNat*1,none⟩ x63/\Fn Pz 44 #[.agg ⟨(L0 x52 x53 x54 x55 x56 x57 x58 x59)⟩,vI p1,vS x63] h50 (fun v64 h66=>∃x65,iB v64 x65/\sB (!x65) (Wp h66 (aS h9 0) 6 [vI 0,vI 0,vI 0,vN,vN,vN] fun h67=>∃x68 x69 x70 x71 x72 x73,aL1 h67 (aS h9 0) x68 x69 x70 x71 x72 x73/\R (.tuple ⟨[.agg ⟨(L1 x68 x69 x70 x71 x72 x73)⟩,vI 18]⟩) h67) (∃x74 x75 x76 x77 x78 x79 x80 x81,aL0 h66 (aS h 0) x74 x75 x76 x77 x78 x79 x80 x81/\∃x82,rS h66 (aS h24 0) x82/\NB x82.a fun b83 o84=>Ib i_49 x82.n/\∃x85,rS h66 ⟨b83,o84+i_49.toNat*1,none⟩ x85/\(Fn Pz 45 #[.agg ⟨(L0 x74 x75 x76 x77 x78 x79 x80 x81)⟩,vI p1,vS x85] h66 (fun v86 h93=>∃(x87 x88:Int) (x89:Bool) (x90 x91:Int) (x92:Sl),v86=.tuple ⟨[vI x87,.agg ⟨(L2 x88 x89 x90 x91 x92)⟩]⟩/\Wn h93 [vI 0,.bool false,vI 0,vI 0,vN] 60 fun h94=>Sm [⟨b83,o84+i_49.toNat*1,none⟩,(aS h24 0),(aS h 0)] h93 h94/\V15a h94 h93 x88 x89 x90 x91 x92 h24 i_49 p1 h x87 h26 m48 I46))/\Wn h66 [vI 0,.bool false,vI 0,vI 0,vN] 60 fun h197=>Sm [⟨b83,o84+i_49.toNat*1,none⟩,(aS h24 0),(aS h 0)] h66 h197/\Fn Pz 45 #[.agg ⟨(L0 x74 x75 x76 x77 x78 x79 x80 x81)⟩,vI p1,vS x85] h197 (fun v198 h205=>∃(x199 x200:Int) (x201:Bool) (x202 x203:Int) (x204:Sl),v198=.tuple ⟨[vI x199,.agg ⟨(L2 x200 x201 x202 x203 x204)⟩]⟩/\V15a h205 h66 x200 x201 x202 x203 x204 h24 i_49 p1 h x199 h26 m48 I46)))) (∃x308 x309 x310 x311 x312 x313,aL1 h50 (aS h26 0) x308 x309 x310 x311 x312 x313/\Wp h50 (aS h9 0) 6 (L1 x308 x309 x310 x311 x312 x313) fun h314=>∃x315 x316 x317 x318 x319 x320,aL1 h314 (aS h9 0) x315 x316 x317 x318 x319 x320/\R (.tuple ⟨[.agg ⟨(L1 x315 x316 x317 x318 x319 x320)⟩,vI 0]⟩) h314))))
theorem vc15 (pa:ByteArray) (pb pc:Sl) (pd pe pf:Int) (pg ph:Sl) (p1:Int) (H:@W15 h R pa pb pc pd pe pf pg ph p1):Fn Pz 15 #[.agg ⟨(L0 pa pb pc pd pe pf pg ph)⟩,vI p1] h R:=fnJ (A:=(.s .z (.s .z (.s .z (.s .z (.s .z (.s (.s .z (.b (.l [(9,.one (.int .i64))] (.s .z (.s (.b (.s .z (.s .z (AI 12)))) .z))))) .z))))))) H
def W16 (pa pb pc:Int) (pd pe pf:Sl) (pg ph pi:Int) (pj pk pl:Sl):Prop:=
 Wn h (L1 pa pb pc pd pe pf) 33 fun h13=>
 Wn h13 (L1 pg ph pi pj pk pl) 33 fun h14=>
 ∃x15,rI h14 (aS h 0) x15 /\
 ∃x16,rI h14 (aS h13 0) x16 /\
 sB (x15 != x16)
 (R (.bool false) h14)
 (∃x17,rI h14 (aS h 1) x17 /\
 ∃x18,rI h14 (aS h13 1) x18 /\
 sB (x17 != x18)
 (R (.bool false) h14)
 (∃x19,rI h14 (aS h 2) x19 /\
 ∃x20,rI h14 (aS h13 2) x20 /\
 sB (x19 != x20)
 (R (.bool false) h14)
 (∃x21,rS h14 (aS h 3) x21 /\
 ∃x22,rS h14 (aS h13 3) x22 /\
 sB ((x21.n:Int) != (x22.n:Int))
 (R (.bool false) h14)
 (∃x23,rS h14 (aS h 4) x23 /\
 ∃x24,rS h14 (aS h13 4) x24 /\
 sB ((x23.n:Int) != (x24.n:Int))
 (R (.bool false) h14)
 (∃x25,rS h14 (aS h 5) x25 /\
 ∃x26,rS h14 (aS h13 5) x26 /\
 sB ((x25.n:Int) != (x26.n:Int))
 (R (.bool false) h14)
 (QI 0 h14 fun I27 i_30 h31 m29=>
 ∃x32,rS h31 (aS h 3) x32 /\
 sB (decide (i_30<(x32.n:Int)))
 (∃x33,rS h31 (aS h 3) x33 /\
 NB x33.a fun b34 o35=>Ib i_30 x33.n /\
 ∃x36,rB h31 ⟨b34,o35+i_30.toNat*1,none⟩ x36 /\
 ∃x37,rS h31 (aS h13 3) x37 /\
 NB x37.a fun b38 o39=>Ib i_30 x37.n /\
 ∃x40,rB h31 ⟨b38,o39+i_30.toNat*1,none⟩ x40 /\
 sB (!(x36==x40))
 (R (.bool false) h31)
 (∃m41,m41<m29/\I27 (wrap .i64 (i_30+1)) h31 m41))
 (QI 0 h31 fun I42 i_45 h46 m44=>
 ∃x47,rS h46 (aS h 4) x47 /\
 sB (decide (i_45<(x47.n:Int)))
 (∃x48,rS h46 (aS h 4) x48 /\
 NB x48.a fun b49 o50=>Ib i_45 x48.n /\
 ∃x51 x52 x53 x54 x55 x56,aL3 h46 ⟨b49,o50+i_45.toNat*6,none⟩ x51 x52 x53 x54 x55 x56 /\
 ∃x57,rS h46 (aS h13 4) x57 /\
 NB x57.a fun b58 o59=>Ib i_45 x57.n /\
 ∃x60 x61 x62 x63 x64 x65,aL3 h46 ⟨b58,o59+i_45.toNat*6,none⟩ x60 x61 x62 x63 x64 x65 /\
 sB (!((x51==x60)&&((x52==x61)&&((x53==x62)&&((x54==x63)&&((x55==x64)&&((x56==x65)&&true)))))))
 (R (.bool false) h46)
 (∃m66,m66<m44/\I42 (wrap .i64 (i_45+1)) h46 m66))
 (QI 0 h46 fun I67 i_70 h71 m69=>
 ∃x72,rS h71 (aS h 5) x72 /\
 sB (decide (i_70<(x72.n:Int)))
 (∃x73,rS h71 (aS h 5) x73 /\
 NB x73.a fun b74 o75=>Ib i_70 x73.n /\
 ∃x76 x77 x78,aL5 h71 ⟨b74,o75+i_70.toNat*3,none⟩ x76 x77 x78 /\
 ∃x79,rS h71 (aS h13 5) x79 /\
 NB x79.a fun b80 o81=>Ib i_70 x79.n /\
 ∃x82 x83 x84,aL5 h71 ⟨b80,o81+i_70.toNat*3,none⟩ x82 x83 x84 /\
 sB (!((x76==x82)&&((x77==x83)&&((x78==x84)&&true))))
 (R (.bool false) h71)
 (∃m85,m85<m69/\I67 (wrap .i64 (i_70+1)) h71 m85))
 (R (.bool true) h71)))))))))
theorem vc16 (pa pb pc:Int) (pd pe pf:Sl) (pg ph pi:Int) (pj pk pl:Sl) (H:@W16 h R pa pb pc pd pe pf pg ph pi pj pk pl):Fn Pz 16 #[.agg ⟨(L1 pa pb pc pd pe pf)⟩,.agg ⟨(L1 pg ph pi pj pk pl)⟩] h R:=fnJ (A:=(.s .z (.s .z (.s (AI 5) (.s (AI 6) (.s (AI 7) .z)))))) H
def W75 (pa pb pc:Int) (pd pe pf:Sl):Prop:=
 Wn h (L1 pa pb pc pd pe pf) 33 fun h7=>
 Wn h7 [vI 0,vI 0,vI 0,vN,vN,vN] 33 fun h8=>
 ∃x9,rI h8 (aS h 2) x9 /\
 Wn h8 [vI x9] 3 fun h10=>
 ∃x11,rI h10 (aS h 0) x11 /\
 Wn h10 [vI 0,vI 0,vI 0,vN,vN,vN] 33 fun h12=>
 Wp h12 (aS h10 0) 6 [vI x11,vI 0,vI 0,vN,vN,vN] fun h13=>
 QSI ⟨(some (aS h8 0)),1,1⟩ 0 h13 fun I14 order_17 i_18 h19 m16=>
 sB (decide (i_18<(order_17.n:Int)))
 (NB order_17.a fun b20 o21=>Ib i_18 order_17.n /\
 ∃x22,rI h19 ⟨b20,o21+i_18.toNat*1,none⟩ x22 /\
 ∃x23,rS h19 (aS h10 3) x23 /\
 ∃x24,rS h19 (aS h 3) x24 /\
 NB x24.a fun b25 o26=>Ib x22 x24.n /\
 ∃x27,rB h19 ⟨b25,o26+x22.toNat*1,none⟩ x27 /\
 Wn h19 [.bool x27] 4 fun h28=>
 Sm [(aS h10 3)] h19 h28 /\
 App Pz 30 30 (vS x23) (.slice (some (aS h19 0)) 1 1) h28 fun s29 h30=>
 Wp h30 (aS h10 3) 1 [vS s29] fun h31=>
 ∃x32 x33 x34 x35 x36 x37,aL1 h31 (aS h 0) x32 x33 x34 x35 x36 x37 /\
 Fn Pz 19 #[.agg ⟨(L1 x32 x33 x34 x35 x36 x37)⟩,vI x22] h31
 (fun v38 h40=>∃x39,iS v38 x39 /\
 ∃x41 x42 x43 x44 x45 x46,aL1 h40 (aS h 0) x41 x42 x43 x44 x45 x46 /\
 Fn Pz 48 #[.agg ⟨(L1 x41 x42 x43 x44 x45 x46)⟩,vI x22] h40
 (fun v47 h49=>∃x48,iI v47 x48 /\
 QSI order_17 0 h49 fun I50 order_53 k_54 h55 m52=>
 sB (decide (k_54<(x39.n:Int)))
 (∃x56,rS h55 (aS h 4) x56 /\
 NB x39.a fun b57 o58=>Ib k_54 x39.n /\
 ∃x59,rI h55 ⟨b57,o58+k_54.toNat*1,none⟩ x59 /\
 NB x56.a fun b60 o61=>Ib x59 x56.n /\
 ∃x62 x63 x64 x65 x66 x67,aL3 h55 ⟨b60,o61+x59.toNat*6,none⟩ x62 x63 x64 x65 x66 x67 /\
 Wn h55 [vI 0,.bool false,vI 0,vI 0,vI 0,.bool false] 45 fun h68=>
 Sm [⟨b60,o61+x59.toNat*6,none⟩,⟨b57,o58+k_54.toNat*1,none⟩,(aS h 4)] h55 h68 /\
 Wp h68 (aS h55 0) 6 (L3 x62 x63 x64 x65 x66 x67) fun h69=>
 ∃x70,rI h69 (aS h55 4) x70 /\
 Fn Pz 131 #[vS order_53,vI x70] h69
 (fun v71 h73=>∃x72,iI v71 x72 /\
 ∃J74:Sl->Int->Heap->Prop,
 (sB (decide (x72<0))
 (∃x75,rI h73 (aS h55 4) x75 /\
 Wn h73 [vI x75] 3 fun h76=>
 App Pz 42 42 (vS order_53) (.slice (some (aS h73 0)) 1 1) h76 fun s77 h78=>
 J74 s77 (order_53.n:Int) h78)
 (J74 order_53 x72 h73)) /\
 ∀(_:Env) (order_79:Sl) (n_80:Int) (h81:Heap),J74 order_79 n_80 h81 ->
 (∃J82:Heap->Prop,
 (sB (decide (x48>=0))
 (∃x83,rS h81 (aS h 5) x83 /\
 NB x83.a fun b84 o85=>Ib x48 x83.n /\
 ∃x86,rI h81 ⟨b84,o85+x48.toNat*3+2,none⟩ x86 /\
 NB x39.a fun b87 o88=>Ib k_54 x39.n /\
 ∃x89,rI h81 ⟨b87,o88+k_54.toNat*1,none⟩ x89 /\
 sB (x86==x89)
 (∃x90,rS h81 (aS h10 5) x90 /\
 ∃x91,rS h81 (aS h 5) x91 /\
 NB x91.a fun b92 o93=>Ib x48 x91.n /\
 ∃x94,rI h81 ⟨b92,o93+x48.toNat*3+1,none⟩ x94 /\
 ∃x95,rS h81 (aS h10 4) x95 /\
 Wn h81 [vI i_18,vI x94,vI (x95.n:Int)] 63 fun h96=>
 Sm [(aS h10 5)] h81 h96 /\
 App Pz 25 25 (vS x90) (.slice (some (aS h81 0)) 1 1) h96 fun s97 h98=>
 Wp h98 (aS h10 5) 1 [vS s97] fun h99=>
 J82 h99)
 (J82 h81))
 (J82 h81)) /\
 ∀(_:Env) (h100:Heap),J82 h100 ->
 (∃x101,rS h100 (aS h10 4) x101 /\
 ∃x102,rB h100 (aS h55 1) x102 /\
 ∃x103,rI h100 (aS h55 2) x103 /\
 ∃x104,rI h100 (aS h55 3) x104 /\
 ∃x105,rB h100 (aS h55 5) x105 /\
 Wn h100 (L3 i_18 x102 x103 x104 n_80 x105) 45 fun h106=>
 App Pz 31 31 (vS x101) (.slice (some (aS h100 0)) 1 1) h106 fun s107 h108=>
 Wp h108 (aS h10 4) 1 [vS s107] fun h109=>
 ∃m110,m110<m52/\I50 order_79 (wrap .i64 (k_54+1)) h109 m110))))
 (∃m111,m111<m16/\I14 order_53 (wrap .i64 (i_18+1)) h55 m111))))
 (Wp h19 (aS h10 1) 1 [vI (order_17.n:Int)] fun h112=>
 ∃x113 x114 x115 x116 x117 x118,aL1 h112 (aS h10 0) x113 x114 x115 x116 x117 x118 /\
 Wp h112 (aS h7 0) 6 (L1 x113 x114 x115 x116 x117 x118) fun h119=>
 ∃x120 x121 x122 x123 x124 x125,aL1 h119 (aS h7 0) x120 x121 x122 x123 x124 x125 /\
 R (.agg ⟨(L1 x120 x121 x122 x123 x124 x125)⟩) h119)
theorem vc75 (pa pb pc:Int) (pd pe pf:Sl) (H:@W75 h R pa pb pc pd pe pf):Fn Pz 75 #[.agg ⟨(L1 pa pb pc pd pe pf)⟩] h R:=fnJ (A:=(.s .z (.s .z (.s .z (.s (.s .z (.b (.l [(3,.one (.slice)),(5,.one (.int .i64))] (.s .z (.s (.b (.s .z (.s .z (.s .z (.s .z (.s .z (.b (.l [(3,.one (.slice)),(9,.one (.int .i64))] (.s .z (.s (.b (.s .z (.s .z (.j [(3,.one (.slice)),(11,.one (.int .i64))] .z (.j [] .z .z))))) .z)))))))))) .z))))) .z))))) H
def W130 (pa pb pc:Int) (pd pe pf p1:Sl) (p2 p3:Int):Prop:=
 Wn h (L1 pa pb pc pd pe pf) 33 fun h7=>
 ∃x8 x9 x10 x11 x12 x13,aL1 h7 (aS h 0) x8 x9 x10 x11 x12 x13 /\
 ∃x14 x15 x16 x17 x18 x19,aL1 h7 (aS h 0) x14 x15 x16 x17 x18 x19 /\
 Fn Pz 19 #[.agg ⟨(L1 x8 x9 x10 x11 x12 x13)⟩,vI p2] h7
 (fun v20 h22=>∃x21,iS v20 x21 /\
 Sm [(aS h 0)] h7 h22 /\
 Fn Pz 19 #[.agg ⟨(L1 x14 x15 x16 x17 x18 x19)⟩,vI p3] h22
 (fun v23 h25=>∃x24,iS v23 x24 /\
 Sm [(aS h 0)] h22 h25 /\
 ∃x26,rS h25 (aS h 3) x26 /\
 NB x26.a fun b27 o28=>Ib p2 x26.n /\
 ∃x29,rB h25 ⟨b27,o28+p2.toNat*1,none⟩ x29 /\
 ∃x30,rS h25 (aS h 3) x30 /\
 NB x30.a fun b31 o32=>Ib p3 x30.n /\
 ∃x33,rB h25 ⟨b31,o32+p3.toNat*1,none⟩ x33 /\
 sB (!(x29==x33))
 (R (.bool false) h25)
 (∃x34 x35 x36 x37 x38 x39,aL1 h25 (aS h 0) x34 x35 x36 x37 x38 x39 /\
 Fn Pz 18 #[.agg ⟨(L1 x34 x35 x36 x37 x38 x39)⟩,vI p2,vI p3] h25
 (fun v40 h42=>∃x41,iB v40 x41 /\
 Sm [⟨b31,o32+p3.toNat*1,none⟩,(aS h 3),⟨b27,o28+p2.toNat*1,none⟩,(aS h 3)] h25 h42 /\
 sB (!x41)
 (R (.bool false) h42)
 (sB ((x21.n:Int) != (x24.n:Int))
 (R (.bool false) h42)
 (QI 0 h42 fun I43 i_46 h47 m45=>
 sB (decide (i_46<(x21.n:Int)))
 (∃x48,rS h47 (aS h 4) x48 /\
 NB x21.a fun b49 o50=>Ib i_46 x21.n /\
 ∃x51,rI h47 ⟨b49,o50+i_46.toNat*1,none⟩ x51 /\
 NB x48.a fun b52 o53=>Ib x51 x48.n /\
 ∃x54 x55 x56 x57 x58 x59,aL3 h47 ⟨b52,o53+x51.toNat*6,none⟩ x54 x55 x56 x57 x58 x59 /\
 ∃x60,rS h47 (aS h 4) x60 /\
 NB x24.a fun b61 o62=>Ib i_46 x24.n /\
 ∃x63,rI h47 ⟨b61,o62+i_46.toNat*1,none⟩ x63 /\
 NB x60.a fun b64 o65=>Ib x63 x60.n /\
 ∃x66 x67 x68 x69 x70 x71,aL3 h47 ⟨b64,o65+x63.toNat*6,none⟩ x66 x67 x68 x69 x70 x71 /\
 Fn Pz 20 #[.agg ⟨(L3 x54 x55 x56 x57 x58 x59)⟩,.agg ⟨(L3 x66 x67 x68 x69 x70 x71)⟩] h47
 (fun v72 h74=>∃x73,iB v72 x73 /\
 sB (!x73)
 (R (.bool false) h74)
 (∃x75,rS h74 (aS h 4) x75 /\
 NB x21.a fun b76 o77=>Ib i_46 x21.n /\
 ∃x78,rI h74 ⟨b76,o77+i_46.toNat*1,none⟩ x78 /\
 NB x75.a fun b79 o80=>Ib x78 x75.n /\
 ∃x81,rI h74 ⟨b79,o80+x78.toNat*6+4,none⟩ x81 /\
 NB p1.a fun b82 o83=>Ib x81 p1.n /\
 ∃x84,rI h74 ⟨b82,o83+x81.toNat*1,none⟩ x84 /\
 ∃x85,rS h74 (aS h 4) x85 /\
 NB x24.a fun b86 o87=>Ib i_46 x24.n /\
 ∃x88,rI h74 ⟨b86,o87+i_46.toNat*1,none⟩ x88 /\
 NB x85.a fun b89 o90=>Ib x88 x85.n /\
 ∃x91,rI h74 ⟨b89,o90+x88.toNat*6+4,none⟩ x91 /\
 NB p1.a fun b92 o93=>Ib x91 p1.n /\
 ∃x94,rI h74 ⟨b92,o93+x91.toNat*1,none⟩ x94 /\
 sB (x84 != x94)
 (R (.bool false) h74)
 (∃m95,m95<m45/\I43 (wrap .i64 (i_46+1)) h74 m95))))
 (R (.bool true) h47)))))))
theorem vc130 (pa pb pc:Int) (pd pe pf p1:Sl) (p2 p3:Int) (H:@W130 h R pa pb pc pd pe pf p1 p2 p3):Fn Pz 130 #[.agg ⟨(L1 pa pb pc pd pe pf)⟩,vS p1,vI p2,vI p3] h R:=fnJ (A:=(.s .z (.s .z (.s .z (.s (AI 11) .z))))) H
def W74 (pa pb pc:Int) (pd pe pf:Sl):Prop:=
 Wn h (L1 pa pb pc pd pe pf) 33 fun h7=>
 ∃x8,rI h7 (aS h 1) x8 /\
 Mk x8 x8 8/\Wn h7 (madeL Pz 3 (x8.toNat)) 3 fun h9=>
 QSB ⟨(some (aS h7 0)),(x8.toNat),(x8.toNat)⟩ true h9 fun I10 class_13 changed_14 h15 m12=>
 sB changed_14
 (∃x16,rI h15 (aS h 1) x16 /\
 Mk x16 x16 8/\Wn h15 (madeL Pz 3 (x16.toNat)) 3 fun h17=>
 QBI false 0 h17 fun I18 changed_21 i_22 h23 m20=>
 ∃x24,rI h23 (aS h 1) x24 /\
 sB (decide (i_22<x24))
 ((0<=(i_22:Int)/\(i_22:Int)<((x16.toNat):Nat)) /\
 Wp h23 (aS h15 (0+i_22.toNat*1)) 1 [vI i_22] fun h25=>
 QI (wrap .i64 (i_22-1)) h25 fun I26 k_29 h30 m28=>
 sB (decide (k_29>=0))
 (NB class_13.a fun b31 o32=>Ib k_29 class_13.n /\
 ∃x33,rI h30 ⟨b31,o32+k_29.toNat*1,none⟩ x33 /\
 NB class_13.a fun b34 o35=>Ib i_22 class_13.n /\
 ∃x36,rI h30 ⟨b34,o35+i_22.toNat*1,none⟩ x36 /\
 sB (x33==x36)
 (∃x37 x38 x39 x40 x41 x42,aL1 h30 (aS h 0) x37 x38 x39 x40 x41 x42 /\
 Fn Pz 130 #[.agg ⟨(L1 x37 x38 x39 x40 x41 x42)⟩,vS class_13,vI i_22,vI k_29] h30
 (fun v43 h45=>∃x44,iB v43 x44 /\
 Sm [⟨b34,o35+i_22.toNat*1,none⟩,⟨b31,o32+k_29.toNat*1,none⟩] h30 h45 /\
 sB x44
 ((0<=(i_22:Int)/\(i_22:Int)<((x16.toNat):Nat)) /\
 Wp h45 (aS h15 (0+i_22.toNat*1)) 1 [vI k_29] fun h46=>
 ∃m47,m47<m28/\I26 (wrap .i64 (k_29-1)) h46 m47)
 (∃m48,m48<m28/\I26 (wrap .i64 (k_29-1)) h45 m48)))
 (∃m49,m49<m28/\I26 (wrap .i64 (k_29-1)) h30 m49))
 (sB changed_21
 (∃m50,m50<m20/\I18 true (wrap .i64 (i_22+1)) h30 m50)
 ((0<=(i_22:Int)/\(i_22:Int)<((x16.toNat):Nat)) /\
 ∃x51,rI h30 (aS h15 (0+i_22.toNat*1)) x51 /\
 NB class_13.a fun b52 o53=>Ib i_22 class_13.n /\
 ∃x54,rI h30 ⟨b52,o53+i_22.toNat*1,none⟩ x54 /\
 ∃m55,m55<m20/\I18 (x51 != x54) (wrap .i64 (i_22+1)) h30 m55)))
 (∃m56,m56<m12/\I10 ⟨(some (aS h15 0)),(x16.toNat),(x16.toNat)⟩ changed_21 h23 m56))
 (R (vS class_13) h15)
theorem vc74 (pa pb pc:Int) (pd pe pf:Sl) (H:@W74 h R pa pb pc pd pe pf):Fn Pz 74 #[.agg ⟨(L1 pa pb pc pd pe pf)⟩] h R:=fnJ (A:=(.s .z (.s .z (.s (.s .z (.b (.l [(3,.one (.slice)),(4,.one (.bool))] (.s .z (.b (.s .z (.s .z (.s (.s .z (.b (.l [(4,.one (.bool)),(6,.one (.int .i64))] (.s .z (.s (.b (.s .z (.s (AI 7) .z))) .z))))) .z)))))))) .z)))) H
def W37 (pa pb pc:Int) (pd pe pf:Sl):Prop:=
 Wn h (L1 pa pb pc pd pe pf) 33 fun h7=>
 Wn h7 [vI 0,vI 0,vI 0,vN,vN,vN] 33 fun h8=>
 ∃x9 x10 x11 x12 x13 x14,aL1 h8 (aS h 0) x9 x10 x11 x12 x13 x14 /\
 Fn Pz 74 #[.agg ⟨(L1 x9 x10 x11 x12 x13 x14)⟩] h8
 (fun v15 h17=>∃x16,iS v15 x16 /\
 ∃x18 x19 x20 x21 x22 x23,aL1 h17 (aS h 0) x18 x19 x20 x21 x22 x23 /\
 Wn h17 [vI 0,vI 0,vI 0,vN,vN,vN] 33 fun h24=>
 Wp h24 (aS h17 0) 6 (L1 x18 x19 x20 x21 x22 x23) fun h25=>
 ∃x26,rI h25 (aS h 2) x26 /\
 NB x16.a fun b27 o28=>Ib x26 x16.n /\
 ∃x29,rI h25 ⟨b27,o28+x26.toNat*1,none⟩ x29 /\
 Wp h25 (aS h17 2) 1 [vI x29] fun h30=>
 Wp h30 (aS h17 4) 1 [vN] fun h31=>
 QI 0 h31 fun I32 i_35 h36 m34=>
 ∃x37,rS h36 (aS h 4) x37 /\
 sB (decide (i_35<(x37.n:Int)))
 (∃x38,rS h36 (aS h 4) x38 /\
 NB x38.a fun b39 o40=>Ib i_35 x38.n /\
 ∃x41 x42 x43 x44 x45 x46,aL3 h36 ⟨b39,o40+i_35.toNat*6,none⟩ x41 x42 x43 x44 x45 x46 /\
 Wn h36 [vI 0,.bool false,vI 0,vI 0,vI 0,.bool false] 45 fun h47=>
 Wp h47 (aS h36 0) 6 (L3 x41 x42 x43 x44 x45 x46) fun h48=>
 ∃x49,rI h48 (aS h36 4) x49 /\
 NB x16.a fun b50 o51=>Ib x49 x16.n /\
 ∃x52,rI h48 ⟨b50,o51+x49.toNat*1,none⟩ x52 /\
 Wp h48 (aS h36 4) 1 [vI x52] fun h53=>
 ∃x54,rS h53 (aS h17 4) x54 /\
 ∃x55 x56 x57 x58 x59 x60,aL3 h53 (aS h36 0) x55 x56 x57 x58 x59 x60 /\
 Wn h53 (L3 x55 x56 x57 x58 x59 x60) 45 fun h61=>
 App Pz 31 31 (vS x54) (.slice (some (aS h53 0)) 1 1) h61 fun s62 h63=>
 Wp h63 (aS h17 4) 1 [vS s62] fun h64=>
 ∃m65,m65<m34/\I32 (wrap .i64 (i_35+1)) h64 m65)
 (∃x66 x67 x68 x69 x70 x71,aL1 h36 (aS h17 0) x66 x67 x68 x69 x70 x71 /\
 Fn Pz 75 #[.agg ⟨(L1 x66 x67 x68 x69 x70 x71)⟩] h36
 (fun v72 h79=>∃(x73 x74 x75:Int) (x76 x77 x78:Sl),v72=.agg ⟨(L1 x73 x74 x75 x76 x77 x78)⟩ /\
 Wp h79 (aS h7 0) 6 (L1 x73 x74 x75 x76 x77 x78) fun h80=>
 ∃x81 x82 x83 x84 x85 x86,aL1 h80 (aS h7 0) x81 x82 x83 x84 x85 x86 /\
 R (.agg ⟨(L1 x81 x82 x83 x84 x85 x86)⟩) h80)))
theorem vc37 (pa pb pc:Int) (pd pe pf:Sl) (H:@W37 h R pa pb pc pd pe pf):Fn Pz 37 #[.agg ⟨(L1 pa pb pc pd pe pf)⟩] h R:=fnJ (A:=(.s .z (.s .z (.s .z (.s .z (.s .z (.s (AI 5) .z))))))) H
def W3 (pa:ByteArray) (pb pc:Sl) (pd pe pf:Int) (pg ph:Sl) (p1:Int):Prop:=
 Wn h (L0 pa pb pc pd pe pf pg ph) 27 fun h9=>
 Fn Pz 10 #[] h9
 (fun v10 h12=>∃x11,iB v10 x11 /\
 sB (!x11)
 (R (.bool false) h12)
 (∃x13 x14 x15 x16 x17 x18 x19 x20,aL0 h12 (aS h 0) x13 x14 x15 x16 x17 x18 x19 x20 /\
 Fn Pz 11 #[.agg ⟨(L0 x13 x14 x15 x16 x17 x18 x19 x20)⟩] h12
 (fun v21 h23=>∃x22,iB v21 x22 /\
 sB (!x22)
 (R (.bool true) h23)
 (∃x24 x25 x26 x27 x28 x29 x30 x31,aL0 h23 (aS h 0) x24 x25 x26 x27 x28 x29 x30 x31 /\
 Fn Pz 12 #[.agg ⟨(L0 x24 x25 x26 x27 x28 x29 x30 x31)⟩,vI p1] h23
 (fun v32 h40=>∃(x33 x34 x35:Int) (x36 x37 x38:Sl) (x39:Int),v32=.tuple ⟨[.agg ⟨(L1 x33 x34 x35 x36 x37 x38)⟩,vI x39]⟩ /\
 Wn h40 [vI 0,vI 0,vI 0,vN,vN,vN] 33 fun h41=>
 Wp h41 (aS h40 0) 6 (L1 x33 x34 x35 x36 x37 x38) fun h42=>
 ∃x43 x44 x45 x46 x47 x48 x49 x50,aL0 h42 (aS h 0) x43 x44 x45 x46 x47 x48 x49 x50 /\
 Fn Pz 13 #[.agg ⟨(L0 x43 x44 x45 x46 x47 x48 x49 x50)⟩,vI p1] h42
 (fun v51 h59=>∃(x52 x53 x54:Int) (x55 x56 x57:Sl) (x58:Int),v51=.tuple ⟨[.agg ⟨(L1 x52 x53 x54 x55 x56 x57)⟩,vI x58]⟩ /\
 Wn h59 [vI 0,vI 0,vI 0,vN,vN,vN] 33 fun h60=>
 Wp h60 (aS h59 0) 6 (L1 x52 x53 x54 x55 x56 x57) fun h61=>
 ∃x62 x63 x64 x65 x66 x67 x68 x69,aL0 h61 (aS h 0) x62 x63 x64 x65 x66 x67 x68 x69 /\
 Fn Pz 14 #[.agg ⟨(L0 x62 x63 x64 x65 x66 x67 x68 x69)⟩,vI p1] h61
 (fun v70 h78=>∃(x71 x72 x73:Int) (x74 x75 x76:Sl) (x77:Int),v70=.tuple ⟨[.agg ⟨(L1 x71 x72 x73 x74 x75 x76)⟩,vI x77]⟩ /\
 Wn h78 [vI 0,vI 0,vI 0,vN,vN,vN] 33 fun h79=>
 Wp h79 (aS h78 0) 6 (L1 x71 x72 x73 x74 x75 x76) fun h80=>
 ∃x81 x82 x83 x84 x85 x86 x87 x88,aL0 h80 (aS h 0) x81 x82 x83 x84 x85 x86 x87 x88 /\
 Fn Pz 15 #[.agg ⟨(L0 x81 x82 x83 x84 x85 x86 x87 x88)⟩,vI p1] h80
 (fun v89 h97=>∃(x90 x91 x92:Int) (x93 x94 x95:Sl) (x96:Int),v89=.tuple ⟨[.agg ⟨(L1 x90 x91 x92 x93 x94 x95)⟩,vI x96]⟩ /\
 Wn h97 [vI 0,vI 0,vI 0,vN,vN,vN] 33 fun h98=>
 Wp h98 (aS h97 0) 6 (L1 x90 x91 x92 x93 x94 x95) fun h99=>
 sB (x39==x58)
 (sB (x77==x96)
 (∃x100 x101 x102 x103 x104 x105,aL1 h99 (aS h40 0) x100 x101 x102 x103 x104 x105 /\
 ∃x106 x107 x108 x109 x110 x111,aL1 h99 (aS h59 0) x106 x107 x108 x109 x110 x111 /\
 Fn Pz 16 #[.agg ⟨(L1 x100 x101 x102 x103 x104 x105)⟩,.agg ⟨(L1 x106 x107 x108 x109 x110 x111)⟩] h99
 (fun v112 h114=>∃x113,iB v112 x113 /\
 sB x113
 (∃x115 x116 x117 x118 x119 x120,aL1 h114 (aS h78 0) x115 x116 x117 x118 x119 x120 /\
 ∃x121 x122 x123 x124 x125 x126,aL1 h114 (aS h97 0) x121 x122 x123 x124 x125 x126 /\
 Fn Pz 16 #[.agg ⟨(L1 x115 x116 x117 x118 x119 x120)⟩,.agg ⟨(L1 x121 x122 x123 x124 x125 x126)⟩] h114
 (fun v127 h129=>∃x128,iB v127 x128 /\
 R (.bool x128) h129))
 (R (.bool false) h114)))
 (R (.bool false) h99))
 (R (.bool false) h99)))))))))
theorem vc3 (pa:ByteArray) (pb pc:Sl) (pd pe pf:Int) (pg ph:Sl) (p1:Int) (H:@W3 h R pa pb pc pd pe pf pg ph p1):Fn Pz 3 #[.agg ⟨(L0 pa pb pc pd pe pf pg ph)⟩,vI p1] h R:=fnJ (A:=.z) H
end Go.VC
end

section
namespace Go.LexS
def isLetter (n:Int):Bool:=decide (97<=n)&&decide (n<=122)||decide (65<=n)&&decide (n<=90)
def isDigit (n:Int):Bool:=decide (48<=n)&&decide (n<=57)
def isInner (n:Int):Bool:=isLetter n||isDigit n||(n==95)
def isSpace (n:Int):Bool:=n==32||n==9||n==10||n==13
def lt (c:UInt8):Bool:=isLetter c.toNat
def dg (c:UInt8):Bool:=isDigit c.toNat
def inn (c:UInt8):Bool:=isInner c.toNat
def sp (c:UInt8):Bool:=isSpace c.toNat
structure T where
 kind:Nat
 text:List UInt8
 val:Nat
 deriving DecidableEq
def keywords:List (List UInt8):=[[97,103,97,105,110],[97,110,100],[97,115],[97,116],[99,97,108,108],[99,104,111,105,99,101],[101,108,115,101],[102,114,111,109],[105,102],[105,110,116],[108,101,110],[108,111,111,112],[109,101,115,115,97,103,101],[111,102],[111,102,102,101,114],[111,110],[111,114],[112,97,114],[112,108,97,121,115],[112,114,111,116,111,99,111,108],[115,101,114,118,105,99,101],[116,101,120,116],[116,105,109,101,115],[116,111],[118,97,114],[119,104,101,114,101],[119,104,105,108,101],[119,105,116,104,105,110]]
def isName (l:List UInt8):Bool:=match l with
 | []=>false
 | c::_=>decide (l.length<=16)&&lt c&&l.all inn
def isWord (l:List UInt8):Bool:=isName l && !decide (l∈keywords)
end Go.LexS
end

section
namespace Go.VC
open Go.LexS
abbrev Nm:=List UInt8
def i64 (n:Int):Value:=.int .i64 n
def slV (s:Sl):Value:=.slice s.a s.n s.c
structure Fld where
 nm:Nm
 k:Int
 lo:Int
 hi:Int
def Fld.cs (f:Fld):List Value:=[.string (bs f.nm),.int .i64 f.k,.int .i64 f.lo,.int .i64 f.hi]
structure Df where
 x:Int
 y:Int
 c:Int
def Df.cs (d:Df):List Value:=[.int .i64 d.x,.int .i64 d.y,.int .i64 d.c]
structure Eqs where
 x:Int
 y:Int
def Eqs.cs (d:Eqs):List Value:=[.int .i64 d.x,.int .i64 d.y]
structure Dc where
 nm:Nm
 hf:Sl
 first:Int
 hd:Sl
 he:Sl
 fs:List Fld
 ds:List Df
 es:List Eqs
def Dc.cs (d:Dc):List Value:=[.string (bs d.nm),.slice d.hf.a d.hf.n d.hf.c,.int .i64 d.first,.slice d.hd.a d.hd.n d.hd.c,.slice d.he.a d.he.n d.he.c]
structure Ed where
 f:Int
 a:Int
 b:Int
 l:Int
 t:Int
 ag:Bool
def Ed.cs (x:Ed):List Value:=[.int .i64 x.f,.int .i64 x.a,.int .i64 x.b,.int .i64 x.l,.int .i64 x.t,.bool x.ag]
structure To where
 s:Int
 k:Int
 e:Int
def To.cs (x:To):List Value:=[.int .i64 x.s,.int .i64 x.k,.int .i64 x.e]
structure Gl where
 nm:Nm
 hr:Sl
 hd:Sl
 n:Int
 s:Int
 e:Int
 he:Sl
 ht:Sl
 rs:List Nm
 ds:List Dc
 es:List Ed
 ts:List To
def Gl.cs (g:Gl):List Value:=[.string (bs g.nm),.slice g.hr.a g.hr.n g.hr.c,.slice g.hd.a g.hd.n g.hd.c,.int .i64 g.n,.int .i64 g.s,.int .i64 g.e,.slice g.he.a g.he.n g.he.c,.slice g.ht.a g.ht.n g.ht.c]
def Gl.v (g:Gl):Value:=.agg ⟨g.cs⟩
def nmC (x:Nm):List Value:=[.string (bs x)]
structure RL {α:Type} (h:Heap) (k:Nat) (s:Sl) (cs:α->List Value) (L:List α):Prop where
 rw:Rw h k s (L.map cs)
 cap:s.n<=s.c
 nil:s.a=none->s.n=0/\s.c=0
 sm:L.length<=1048576
theorem RL.ext {α:Type} {h h':Heap} {k:Nat} {s:Sl} {cs:α->List Value} {L:List α} (hr:RL h k s cs L) (E:Ext h h'):RL h' k s cs L:=⟨hr.rw.ext E,hr.cap,hr.nil,hr.sm⟩
theorem RL.ln {α:Type} {h:Heap} {k:Nat} {s:Sl} {cs:α->List Value} {L:List α} (hr:RL h k s cs L):s.n=L.length:=hr.rw.ln
structure DI (h:Heap) (d:Dc):Prop where
 pf:RL h 4 d.hf Fld.cs d.fs
 pd:RL h 3 d.hd Df.cs d.ds
 pe:RL h 2 d.he Eqs.cs d.es
theorem DI.ext {h h':Heap} {d:Dc} (hd:DI h d) (E:Ext h h'):DI h' d:=⟨hd.pf.ext E,hd.pd.ext E,hd.pe.ext E⟩
structure DL (h:Heap) (s:Sl) (L:List Dc):Prop where
 r:RL h 5 s Dc.cs L
 i:∀d∈L,DI h d
theorem DL.ext {h h':Heap} {s:Sl} {L:List Dc} (hd:DL h s L) (E:Ext h h'):DL h' s L:=⟨hd.r.ext E,fun d hm=>(hd.i d hm).ext E⟩
structure GI (h:Heap) (g:Gl):Prop where
 r:RL h 1 g.hr nmC g.rs
 d:DL h g.hd g.ds
 e:RL h 6 g.he Ed.cs g.es
 t:RL h 3 g.ht To.cs g.ts
theorem GI.ext {h h':Heap} {g:Gl} (hg:GI h g) (E:Ext h h'):GI h' g:=⟨hg.r.ext E,hg.d.ext E,hg.e.ext E,hg.t.ext E⟩
theorem RL.take {α:Type} {h:Heap} {k:Nat} {s:Sl} {cs:α->List Value} {L:List α} (hr:RL h k s cs L) {i:Nat} (hi:i<=s.n):RL h k ⟨subA s.a (Int.toNat 0) s.c k,Int.toNat (i:Int)-Int.toNat 0,s.c-Int.toNat 0⟩ cs (L.take i):=by
 have h1:=hr.rw.1;have e:subA s.a (Int.toNat 0) s.c k=s.a:=subA_zero _ _ _;rw[e];refine⟨⟨by rw[Yc,Yu];simp only[Yc] at h1;show i-0=_;omega,fun hp=>?_⟩,by have:=hr.cap;show i-0<=s.c-0;omega,fun ha=>?_,by have:=hr.sm;rw[Yu];omega⟩
 .rw[Yc,Yu] at hp;obtain⟨b,o,ha,hall⟩:=hr.rw.2 (by rw[Yc];omega);refine⟨b,o,ha,fun j row hj=>hall j row ?_⟩;rw[List.map_take,Yyf] at hj;split at hj
  .exact hj
  .cases hj
 .have:=hr.nil ha;exact⟨by show i-0=0;omega,by show s.c-0=0;omega⟩
end Go.VC
end

section
namespace Go.VC
theorem wu64 {n:Int} (h0:0<=n) (h1:n<=18446744073709551615):IntKind.wrap .u64 n=n:=by
 simp[IntKind.wrap,IntKind.signed,IntKind.bits];omega
def inC (n:Int):List Value:=[.int .i64 n]
def wC (w:Nat):List Value:=[.int .u64 w]
def memB (ws:List Nat) (k:Nat):Bool:=(ws.getD (k/64) 0).testBit (k%64)
theorem shr_nat {w k:Nat} (hk:k<64):shrI .u64 (w:Int) (k:Int)=((w/2^k:Nat):Int):=by
 unfold shrI;have e:min (Int.toNat (k:Int)) (IntKind.bits .u64)=k:=by simp[IntKind.bits];omega
 rw[e];show Int.fdiv (w:Int) ((2:Int)^k)=_;rw[show ((2:Int)^k)=((2^k:Nat):Int) by simp,Int.fdiv_eq_ediv_of_nonneg _ (Int.natCast_nonneg _)];rfl
theorem and_one {w:Nat} (hw:w<2^64):andI .u64 (w:Int) 1=((w%2:Nat):Int):=by
 unfold andI;have e:(BitVec.ofInt (IntKind.bits .u64) (w:Int)&&&BitVec.ofInt (IntKind.bits .u64) 1).toNat=w%2:=by
  show (BitVec.ofInt 64 (w:Int)&&&BitVec.ofInt 64 ((1:Nat):Int)).toNat=w%2;rw[BitVec.ofInt_natCast,BitVec.ofInt_natCast,BitVec.toNat_and,BitVec.toNat_ofNat,BitVec.toNat_ofNat,Nat.mod_eq_of_lt hw];exact Nat.and_one_is_mod w
 rw[e];exact wu64 (by omega) (by omega)
theorem bit_has {w k:Nat} (hw:w<2^64) (hk:k<64):(andI .u64 (shrI .u64 (w:Int) (k:Int)) 1==1)=w.testBit k:=by
 rw[shr_nat hk,and_one (Nat.lt_of_le_of_lt (Nat.div_le_self _ _) hw),Nat.testBit_eq_decide_div_mod_eq];by_cases h:w/2^k%2=1
 .rw[h,decide_eq_true rfl];rfl
 .rw[decide_eq_false h];exact beq_eq_false_iff_ne.2 (by omega)
theorem shl_one {k:Nat} (hk:k<64):shlI .u64 1 (k:Int)=((2^k:Nat):Int):=by
 unfold shlI;have e:min (Int.toNat (k:Int)) (IntKind.bits .u64)=k:=by simp[IntKind.bits];omega
 rw[e,Int.one_mul];have h2:2^k<2^64:=Nat.pow_lt_pow_right (by omega) hk;rw[show ((2:Int)^k)=((2^k:Nat):Int) by simp];generalize 2^k=m at *;exact wu64 (by omega) (by omega)
theorem or_nat {a b:Nat} (ha:a<2^64) (hb:b<2^64):orI .u64 (a:Int) (b:Int)=((a|||b:Nat):Int):=by
 unfold orI;have e:(BitVec.ofInt (IntKind.bits .u64) (a:Int)|||BitVec.ofInt (IntKind.bits .u64) (b:Int)).toNat=a|||b:=by
  show (BitVec.ofInt 64 (a:Int)|||BitVec.ofInt 64 (b:Int)).toNat=_;rw[BitVec.ofInt_natCast,BitVec.ofInt_natCast,BitVec.toNat_or,BitVec.toNat_ofNat,BitVec.toNat_ofNat,Nat.mod_eq_of_lt ha,Nat.mod_eq_of_lt hb]
 rw[e];have:=Nat.or_lt_two_pow ha hb;exact wu64 (by omega) (by omega)
theorem clr_zero {a b:Nat} (ha:a<2^64) (hb:b<2^64):clrI .u64 (a:Int) (b:Int)=0 ↔ ∀k,k<64->a.testBit k=true->b.testBit k=true:=by
 have hlt:(BitVec.ofNat 64 a &&& ~~~BitVec.ofNat 64 b).toNat<18446744073709551616:=(BitVec.ofNat 64 a &&& ~~~BitVec.ofNat 64 b).isLt;have key:clrI .u64 (a:Int) (b:Int)=((BitVec.ofNat 64 a &&& ~~~BitVec.ofNat 64 b).toNat:Int):=by
  unfold clrI;show IntKind.wrap .u64 ((BitVec.ofInt 64 (a:Int) &&& ~~~BitVec.ofInt 64 (b:Int)).toNat:Int)=_;rw[BitVec.ofInt_natCast,BitVec.ofInt_natCast];exact wu64 (by omega) (by omega)
 rw[key];have bitx:∀k,k<64->(BitVec.ofNat 64 a &&& ~~~BitVec.ofNat 64 b).getLsbD k=(a.testBit k && !b.testBit k):=fun k hk=>by
  rw[BitVec.getLsbD_and,BitVec.getLsbD_not,BitVec.getLsbD_ofNat,BitVec.getLsbD_ofNat];simp[hk]
 constructor
 .intro h k hk hak;have h0:(BitVec.ofNat 64 a &&& ~~~BitVec.ofNat 64 b)=0#64:=BitVec.eq_of_toNat_eq (by rw[show (BitVec.ofNat 64 a &&& ~~~BitVec.ofNat 64 b).toNat=0 by omega];rfl);have:=bitx k hk;rw[h0,BitVec.getLsbD_zero,hak] at this;cases hbk:b.testBit k
  .rw[hbk] at this;cases this
  .rfl
 .intro h;have h0:(BitVec.ofNat 64 a &&& ~~~BitVec.ofNat 64 b)=0#64:=by
   apply BitVec.eq_of_getLsbD_eq;intro k hk;rw[bitx k hk,BitVec.getLsbD_zero];cases hak:a.testBit k
   .rfl
   .rw[h k hk hak];rfl
  rw[h0];rfl
theorem memB_set {ws:List Nat} {n k:Nat} (hn:n/64<ws.length):memB (ws.set (n/64) (ws.getD (n/64) 0|||2^(n%64))) k=(decide (k=n)||memB ws k):=by
 unfold memB;by_cases h:k/64=n/64
 .rw[h,Yo,Yq hn];show Nat.testBit (ws.getD (n/64) 0|||2^(n%64)) (k%64)=_;rw[Nat.testBit_or,Nat.testBit_two_pow,Bool.or_comm];congr 1;by_cases h2:k=n
  .subst h2;simp
  .rw[decide_eq_false h2];simp only[decide_eq_false_iff_not];omega
 .rw[Yo,Yy (fun e=>h e.symm),<-Yo];have:k≠n:=fun e=>h (by rw[e]);simp[this]
theorem memB_zero (n k:Nat):memB (List.replicate n 0) k=false:=by
 unfold memB;rw[Yo,List.getElem?_replicate];split<;>simp
theorem memB_take {ws:List Nat} {n:Nat} (h:∀i w,n<=i->ws[i]?=some w->w=0) (k:Nat):memB (ws.take n) k=memB ws k:=by
 unfold memB;rw[Yo,Yo,Yyf];split
 .rfl
 .rename_i hn;cases hw:ws[k/64]? with
  | none=>rfl
  | some w=>rw[h _ w (by omega) hw];simp
structure SetV (h:Heap) (s:Sl) (p:Nat->Bool):Prop where
 ex:∃ws:List Nat,Rw h 1 s (ws.map wC)/\ws.length<=64/\(∀w∈ws,w<2^64)/\∀k,memB ws k=p k
theorem SetV.ext {h h':Heap} {s:Sl} {p:Nat->Bool} (hs:SetV h s p) (E:Ext h h'):SetV h' s p:=by
 obtain⟨ws,h1,h2⟩:=hs.ex;exact⟨ws,h1.ext E,h2⟩
end Go.VC
end

section
namespace Go.VC
open Go.RowKit
structure Ev where
 send:Bool
 peer:Int
 label:Int
 deriving DecidableEq
def Ev.cs (x:Ev):List Value:=[.bool x.send,.int .i64 x.peer,.int .i64 x.label]
structure Ar where
 x:Ev
 to:Int
def Ar.cs (a:Ar):List Value:=[.bool a.x.send,.int .i64 a.x.peer,.int .i64 a.x.label,.int .i64 a.to]
def slC (s:Sl):List Value:=[.slice s.a s.n s.c]
def vis1 (role:Int) (x:Ed):Option Ev:=if role=x.a then some ⟨true,x.b,x.l⟩ else if role=x.b then some ⟨false,x.a,x.l⟩ else none
def quietL (es:List Ed) (role:Int) (n:Nat):List Int:=es.filterMap fun x=>if x.f=(n:Int) then (match vis1 role x with | none=>some x.t | some _=>none) else none
def visL (es:List Ed) (role:Int) (n:Nat):List Ar:=es.filterMap fun x=>if x.f=(n:Int) then (vis1 role x).map fun e=>⟨e,x.t⟩ else none
theorem quietL_snoc (es:List Ed) (role:Int) (n:Nat) (x:Ed):quietL (es++[x]) role n=quietL es role n++(if x.f=(n:Int) then (match vis1 role x with | none=>[x.t] | some _=>[]) else []):=by
 unfold quietL;rw[List.filterMap_append];congr 1;by_cases h:x.f=(n:Int)
 .simp only[List.filterMap_cons,List.filterMap_nil,if_pos h];cases vis1 role x<;>rfl
 .simp only[List.filterMap_cons,List.filterMap_nil,if_neg h]
theorem visL_snoc (es:List Ed) (role:Int) (n:Nat) (x:Ed):visL (es++[x]) role n=visL es role n++(if x.f=(n:Int) then (match vis1 role x with | none=>[] | some e=>[⟨e,x.t⟩]) else []):=by
 unfold visL;rw[List.filterMap_append];congr 1;by_cases h:x.f=(n:Int)
 .simp only[List.filterMap_cons,List.filterMap_nil,if_pos h];cases vis1 role x<;>rfl
 .simp only[List.filterMap_cons,List.filterMap_nil,if_neg h]
def nest {α:Type} (e:TypeId) (k:Nat) (cs:α->List Value) (q:Sl × List α):It:=.sl q.1 e k (q.2.map cs)
theorem set_mid {α:Type} {P R:List α} {Q:List α} {i:Nat} (hi:i<Q.length) (x:α):(P++Q++R).set (P.length+i) x=P++Q.set i x++R:=by
 rw[Yz,List.set_append_right _ _ (by omega),Nat.add_sub_cancel_left,List.set_append_left _ _ hi,Yz]
theorem get_mid {α:Type} {P R:List α} {Q:List α} {i:Nat} (hi:i<Q.length):(P++Q++R)[P.length+i]?=Q[i]?:=by
 rw[Yz,Yyc (by omega),Nat.add_sub_cancel_left,Yyi hi]
theorem St.nestAt {α:Type} {P:Program} {h0 h:Heap} {A B:List It} {Q:List (Sl × List α)} {e:TypeId} {n:Nat} {cs:α->List Value} (hs:St h0 h (A++Q.map (nest e n cs)++B)) {i:Nat} {q:Sl × List α} (hi:Q[i]?=some q)
  {t bytes:Nat} (hT:appB P t e n bytes=true) (d:α) {a:Addr} (ha:atC h a (cs d)) (hn:(cs d).length=n) (h1:(cs d).all oneB=true) (hb:(q.1.n+1)*bytes<=140737488355328) (h63:q.1.n+1<=maxLen)
  {K:Sl->Heap->Prop} (hK:∀(r:Sl) (h':Heap),r.n=q.1.n+1->St h0 h' (A++(Q.set i (r,q.2++[d])).map (nest e n cs)++B)->K r h') :
  App P t t (.slice q.1.a q.1.n q.1.c) (.slice (some a) 1 1) h K:=by
 have hil:i<Q.length:=(Ya.1 hi).1;have hil':i<(Q.map (nest e n cs)).length:=by rw[Yc];exact hil
 refine hs.appended (A.length+i) (rows:=q.2.map cs) (by rw[get_mid hil',Yd,hi];rfl) hT (news:=[cs d]) (by simpa using ha) rfl (fun r hr=>by rw[Ye] at hr;rw[hr];exact hn) (by simpa using h1) hb h63 fun r h' hrn h3=>hK r h' hrn ?_;rw[set_mid hil'] at h3;have e1:(Q.map (nest e n cs)).set i (.sl r e n (q.2.map cs++[cs d]))=(Q.set i (r,q.2++[d])).map (nest e n cs):=by
  rw[List.map_set];congr 1;unfold nest;simp
 rw[e1] at h3;exact h3
theorem St.newbE {h0 h:Heap} {L:List It} (hs:St h0 h L) {xs:List Value} {e:TypeId} {K:Heap->Prop} (hK:∀h2,Ext h h2->St h0 h2 (.blk h.size xs e::L)->K h2):∀h2:Heap,h2=h.push (.cells ⟨xs⟩ e)->K h2:=
 VC.newb fun h2 E o=>hK h2 E (hs.more E (i:=.blk h.size xs e) o fun b hb=>by cases hb;exact Yyt _)
theorem St.perm {h0 h:Heap} {L L':List It} (hs:St h0 h L) (hp:L.Perm L'):St h0 h L':=
 ⟨hs.ext,fun i hi=>hs.ok i (hp.mem_iff.2 hi),(hp.pairwise_iff (fun {a b} hab x hx hy=>hab x hy hx)).1 hs.ap⟩
theorem St.nests {α:Type} {h0 h:Heap} {A B:List It} {e:TypeId} {k:Nat} {cs:α->List Value} (hs:St h0 h (A++B)):∀n:Nat,St h0 h (A++(List.replicate n ((⟨.none,0,0⟩,[]):Sl × List α)).map (nest e k cs)++B)
 | 0=>by simpa using hs
 | n+1=>by
  have h1:=(hs.nests (α:=α) (e:=e) (k:=k) (cs:=cs) n).nil_ e k;refine h1.perm ?_;rw[List.replicate_succ,Yyl,Yz,Yz];have:nest e k cs ((⟨.none,0,0⟩,[]):Sl × List α)=.sl ⟨.none,0,0⟩ e k []:=rfl;rw[this];exact List.perm_middle.symm
theorem sm_nil {h h':Heap}:Sm [] h h':=fun a ha=>by cases ha
theorem sm_cons {h h':Heap} {a:Addr} {al:List Addr} (hb:h'[a.block]?=h[a.block]?) (hr:Sm al h h'):Sm (a::al) h h':=by
 intro x hx k v hv;rcases Yr.1 hx with rfl | hx
 .rw[hc_of_block (h:=h) (by rw[addk_block'];exact hb)];exact hv
 .exact hr x hx k v hv
theorem St.same {h0 h h':Heap} {L L':List It} (hs:St h0 h L) (hs':St h0 h' L') (k k':Nat) {b:Nat} {xs:List Value} {e:TypeId} (hk:L[k]?=some (.blk b xs e)) (hk':L'[k']?=some (.blk b xs e)):h'[b]?=h[b]?:=(hs'.get hk').trans (hs.get hk).symm
structure LkI (h:Heap) (p:Addr) (g:Gl) (role:Int):Prop where
 ex:∃(hq hv:Sl) (qs vs:Nat->Sl),p.spot=none/\atC h p (g.cs++[.int .i64 role,.slice hq.a hq.n hq.c,.slice hv.a hv.n hv.c])/\hq.n=g.n.toNat/\hv.n=g.n.toNat /\
  Rw h 1 hq ((List.range g.n.toNat).map fun i=>slC (qs i))/\Rw h 1 hv ((List.range g.n.toNat).map fun i=>slC (vs i)) /\
  (∀i,i<g.n.toNat->Rw h 1 (qs i) ((quietL g.es role i).map inC))/\∀i,i<g.n.toNat->Rw h 4 (vs i) ((visL g.es role i).map Ar.cs)
theorem LkI.ext {h h':Heap} {p:Addr} {g:Gl} {role:Int} (hl:LkI h p g role) (E:Ext h h'):LkI h' p g role:=by
 obtain⟨hq,hv,qs,vs,h0,h1,h2,h3,h4,h5,h6,h7⟩:=hl.ex;exact⟨hq,hv,qs,vs,h0,atC_ext E h1,h2,h3,h4.ext E,h5.ext E,fun i hi=>(h6 i hi).ext E,fun i hi=>(h7 i hi).ext E⟩
end Go.VC
end

section
namespace Go.VC
theorem map_get {α β:Type} (f:α->β) (L:List α) (i:Nat):(L.map f)[i]?=(L[i]?).map f:=Yd
theorem map_splice {α:Type} (f:α->Value) {L:List α} {i:Nat} (hi:i<L.length) (y:α):splice (L.map f) i [f y]=(L.set i y).map f:=by
 unfold splice;rw[List.map_set,List.set_eq_take_append_cons_drop,if_pos (by rw[Yc];exact hi)];simp
inductive Qr (es:List Ed) (role:Int) (l:List Int):Int->Prop where
 | base {a:Int}:a∈l->Qr es role l a
 | step {a b:Int}:Qr es role l a->(∃x∈es,vis1 role x=none/\x.f=a/\x.t=b)->Qr es role l b
theorem Qr.mono {es:List Ed} {role:Int} {l l':List Int} (h:∀x∈l,x∈l') {a:Int} (ha:Qr es role l a):Qr es role l' a:=by
 induction ha with
 | base hm=>exact .base (h _ hm)
 | step _ hx ih=>exact .step ih hx
structure CL (es:List Ed) (role:Int) (n:Nat) (l:List Int) (D:List Bool) (T:List Int):Prop where
 len:D.length=n
 cnt:T.length=D.count true
 mem:∀v,v∈T ↔ 0<=v/\D[v.toNat]?=some true
 r:∀v∈T,Qr es role l v
theorem CL.start (es:List Ed) (role:Int) (n:Nat) (l:List Int):CL es role n l (List.replicate n false) []:=by
 refine⟨by rw[Yg],by rw[List.count_replicate];rfl,fun v=>⟨fun h=>(by cases h),fun ⟨_,h⟩=>?_⟩,fun v h=>by cases h⟩;have:=List.eq_of_mem_replicate (Yb h);cases this
theorem CL.push {es:List Ed} {role:Int} {n:Nat} {l:List Int} {D:List Bool} {T:List Int} (h:CL es role n l D T) {b:Int} (h0:0<=b) (hb:D[b.toNat]?=some false) (hr:Qr es role l b):CL es role n l (D.set b.toNat true) (T++[b]):=by
 have hbl:=(Ya.1 hb).1;have hbe:=(Ya.1 hb).2;refine⟨by rw[Yyh];exact h.len,?_,fun v=>?_,fun v hv=>?_⟩
 .rw[List.count_set hbl,hbe,Yh,h.cnt];rfl
 .rw[Yk,Ye,h.mem];constructor
  .rintro (⟨h1,h2⟩ | rfl)
   .refine⟨h1,?_⟩;by_cases e:b.toNat=v.toNat
    .rw[e,Yq (by omega)]
    .rw[Yy e];exact h2
   .exact⟨h0,by rw[Yq hbl]⟩
  .rintro⟨h1,h2⟩;by_cases e:b.toNat=v.toNat
   .right;omega
   .left;rw[Yy e] at h2;exact⟨h1,h2⟩
 .rcases Yk.1 hv with hv | hv
  .exact h.r v hv
  .rw[Ye] at hv;rw[hv];exact hr
theorem CL.le {es:List Ed} {role:Int} {n:Nat} {l:List Int} {D:List Bool} {T:List Int} (h:CL es role n l D T):T.length<=n:=by
 rw[h.cnt,<-h.len];exact List.count_le_length
theorem quietL_mem {es:List Ed} {role:Int} {n:Nat} {b:Int}:b∈quietL es role n ↔ ∃x∈es,vis1 role x=none/\x.f=n/\x.t=b:=by
 unfold quietL;rw[Yym];constructor
 .rintro⟨x,hx,h⟩;split at h
  .rename_i hf;cases hv:vis1 role x with
   | none=>rw[hv] at h;exact⟨x,hx,hv,hf,Yyp h⟩
   | some e=>rw[hv] at h;cases h
  .cases h
 .rintro⟨x,hx,hv,hf,rfl⟩;exact⟨x,hx,by rw[if_pos hf,hv]⟩
theorem CL.end_ {es:List Ed} {role:Int} {n:Nat} {l:List Int} {D:List Bool} {T:List Int} (h:CL es role n l D T) (hl:∀x∈l,x∈T) (hc:∀v∈T,∀b∈quietL es role v.toNat,b∈T) (v:Int):v∈T ↔ Qr es role l v:=by
 refine⟨h.r v,fun hq=>?_⟩
 induction hq with
 | base hm=>exact hl _ hm
 | @step a b _ hx ih=>
  obtain⟨x,hx,hv,hf,rfl⟩:=hx;exact hc _ ih _ (quietL_mem.2 ⟨x,hx,hv,by have:=((h.mem a).1 ih).1;omega,rfl⟩)
noncomputable def clo (es:List Ed) (role:Int) (l:List Int):Nat->Bool:=fun j=>by classical exact decide (Qr es role l (j:Int))
theorem clo_iff {es:List Ed} {role:Int} {l:List Int} {j:Nat}:clo es role l j=true ↔ Qr es role l (j:Int):=by unfold clo;simp
def cmpI (x y:Int):Int:=if x<y then -1 else if x>y then 1 else 0
def orI3 (x y:Int):Int:=if x≠0 then x else y
def cmpE (x y:Ev):Int:=if x.send≠y.send then (if x.send then -1 else 1) else orI3 (cmpI x.peer y.peer) (cmpI x.label y.label)
def evLt (x y:Ev):Prop:=(x.send=true/\y.send=false)\/(x.send=y.send/\(x.peer<y.peer\/(x.peer=y.peer/\x.label<y.label)))
instance (x y:Ev):Decidable (evLt x y):=by unfold evLt;infer_instance
theorem cmpE_neg {x y:Ev}:cmpE x y<0 ↔ evLt x y:=by
 unfold cmpE evLt orI3 cmpI;obtain⟨s,p,l⟩:=x;obtain⟨t,q,m⟩:=y;cases s<;>cases t<;>simp<;>(repeat' split)<;>omega
theorem ev_ext {x y:Ev} (h1:x.send=y.send) (h2:x.peer=y.peer) (h3:x.label=y.label):x=y:=by
 obtain⟨s,p,l⟩:=x;obtain⟨t,q,m⟩:=y
 simp_all
theorem evLt_irr (x:Ev):¬evLt x x:=by unfold evLt;intro h;rcases h with ⟨h1,h2⟩ | ⟨_,h | ⟨_,h⟩⟩<;>first | (rw[h1] at h2;cases h2) | omega
theorem evLt_trans {x y z:Ev} (h1:evLt x y) (h2:evLt y z):evLt x z:=by
 unfold evLt at *;obtain⟨s,p,l⟩:=x;obtain⟨t,q,m⟩:=y;obtain⟨u,r,n⟩:=z;cases s<;>cases t<;>cases u<;>simp_all<;>omega
theorem evLt_tri (x y:Ev):evLt x y\/x=y\/evLt y x:=by
 unfold evLt;obtain⟨s,p,l⟩:=x;obtain⟨t,q,m⟩:=y;cases s<;>cases t<;>simp<;>omega
def compactL:List Ev->List Ev
 | []=>[]
 | x::r=>match compactL r with
  | []=>[x]
  | y::t=>if x=y then y::t else x::y::t
theorem compactL_mem:∀(l:List Ev) (x:Ev),x∈compactL l ↔ x∈l
 | [],x=>by simp[compactL]
 | a::r,x=>by
  have ih:=compactL_mem r;rw[compactL];split
  .rename_i h;rw[h] at ih;have:=ih x
   simp_all
  .rename_i y t h;rw[h] at ih;have h1:=ih x;split
   .rename_i e;subst e;have h2:=(ih a).1 (by simp);rw[h1];simp only[Yr];constructor
    .exact .inr
    .rintro (rfl | h)
     .exact h2
     .exact h
   .rw[Yr,h1,Yr]
theorem compactL_sorted:∀(l:List Ev),l.Pairwise (fun a b=>¬evLt b a)->(compactL l).Pairwise evLt
 | [],_=>by simp[compactL]
 | a::r,h=>by
  obtain⟨h1,h2⟩:=List.pairwise_cons.1 h;have ih:=compactL_sorted r h2;rw[compactL];split
  .simp
  .rename_i y t hc;rw[hc] at ih;split
   .exact ih
   .rename_i hne;refine List.pairwise_cons.2 ⟨fun z hz=>?_,ih⟩;have hay:evLt a y:=by
     have hy:y∈r:=(compactL_mem r y).1 (by rw[hc];simp);rcases evLt_tri a y with h3 | h3 | h3
     .exact h3
     .exact absurd h3 hne
     .exact absurd h3 (h1 y hy)
    rcases Yr.1 hz with rfl | hz
    .exact hay
    .exact evLt_trans hay ((List.pairwise_cons.1 ih).1 z hz)
theorem sorted_ext:∀(l m:List Ev),l.Pairwise evLt->m.Pairwise evLt->(∀x,x∈l ↔ x∈m)->l=m
 | [],[],_,_,_=>rfl
 | [],b::m,_,_,h=>absurd ((h b).2 (by simp)) (by simp)
 | a::l,[],_,_,h=>absurd ((h a).1 (by simp)) (by simp)
 | a::l,b::m,hl,hm,h=>by
  obtain⟨h1,h2⟩:=List.pairwise_cons.1 hl;obtain⟨h3,h4⟩:=List.pairwise_cons.1 hm;have hab:a=b:=by
   rcases Yr.1 ((h a).1 (by simp)) with e | ha
   .exact e
   .rcases Yr.1 ((h b).2 (by simp)) with e | hb
    .exact e.symm
    .exact absurd (evLt_trans (h1 b hb) (h3 a ha)) (evLt_irr a)
  subst hab;congr 1;refine sorted_ext l m h2 h4 fun x=>?_;have hx:=h x;rw[Yr,Yr] at hx;constructor
  .intro hm';rcases hx.1 (.inr hm') with rfl | h5
   .exact absurd (h1 x hm') (evLt_irr x)
   .exact h5
  .intro hm';rcases hx.2 (.inr hm') with rfl | h5
   .exact absurd (h3 x hm') (evLt_irr x)
   .exact h5
def insE (x:Ev):List Ev->List Ev
 | []=>[x]
 | y::r=>if evLt y x then y::insE x r else if x=y then y::r else x::y::r
theorem insE_mem (x z:Ev):∀l:List Ev,z∈insE x l ↔ z=x\/z∈l
 | []=>by simp[insE]
 | y::r=>by
  rw[insE];split
  .rw[Yr,insE_mem x z r,Yr];constructor
   .rintro (h | h | h)
    .exact .inr (.inl h)
    .exact .inl h
    .exact .inr (.inr h)
   .rintro (h | h | h)
    .exact .inr (.inl h)
    .exact .inl h
    .exact .inr (.inr h)
  .split
   .rename_i e;subst e;simp
   .simp
theorem insE_sorted (x:Ev):∀l:List Ev,l.Pairwise evLt->(insE x l).Pairwise evLt
 | [],_=>by simp[insE]
 | y::r,h=>by
  obtain⟨h1,h2⟩:=List.pairwise_cons.1 h;rw[insE];split
  .rename_i hyx;refine List.pairwise_cons.2 ⟨fun z hz=>?_,insE_sorted x r h2⟩;rcases (insE_mem x z r).1 hz with rfl | hz
   .exact hyx
   .exact h1 z hz
  .split
   .exact h
   .rename_i hyx hne;have hxy:evLt x y:=by
     rcases evLt_tri x y with h3 | h3 | h3
     .exact h3
     .exact absurd h3 hne
     .exact absurd h3 hyx
    refine List.pairwise_cons.2 ⟨fun z hz=>?_,h⟩;rcases Yr.1 hz with rfl | hz
    .exact hxy
    .exact evLt_trans hxy (h1 z hz)
def sortE (l:List Ev):List Ev:=l.foldr insE []
theorem sortE_mem (l:List Ev) (x:Ev):x∈sortE l ↔ x∈l:=by
 unfold sortE
 induction l with
 | nil=>simp
 | cons a l ih=>rw[List.foldr_cons,insE_mem,ih,Yr]
theorem sortE_sorted (l:List Ev):(sortE l).Pairwise evLt:=by
 unfold sortE
 induction l with
 | nil=>simp
 | cons a l ih=>exact insE_sorted a _ ih
theorem compact_sortE {l l':List Ev} (hp:l'.Perm l) (hs:l'.Pairwise fun a b=>¬evLt b a):compactL l'=sortE l:=
 sorted_ext _ _ (compactL_sorted l' hs) (sortE_sorted l) fun x=>by rw[compactL_mem,sortE_mem,hp.mem_iff]
def elems (p:Nat->Bool):List Nat:=(List.range 4096).filter p
theorem elems_mem {p:Nat->Bool} {j:Nat}:j∈elems p ↔ j<4096/\p j=true:=by unfold elems;rw[List.mem_filter,List.mem_range]
def toL (es:List Ed) (role:Int) (p:Nat->Bool) (x:Ev):List Int:=(elems p).flatMap fun n=>(visL es role n).filterMap fun a=>if a.x=x then some a.to else none
def evL (es:List Ed) (role:Int) (p:Nat->Bool):List Ev:=(elems p).flatMap fun n=>(visL es role n).map (·.x)
def evs (es:List Ed) (role:Int) (p:Nat->Bool):List Ev:=sortE (evL es role p)
end Go.VC
end

section
namespace Go.VC
structure Mv where
 f:Int
 send:Bool
 peer:Int
 label:Int
 t:Int
 ag:Bool
 deriving DecidableEq
def Mv.cs (m:Mv):List Value:=[.int .i64 m.f,.bool m.send,.int .i64 m.peer,.int .i64 m.label,.int .i64 m.t,.bool m.ag]
abbrev PSet:=Nat->Bool
open Classical in
noncomputable def rowI:List PSet->PSet->Nat
 | [],_=>0
 | q::r,p=>if q=p then 0 else rowI r p+1
open Classical in
noncomputable def rowS (S:List PSet) (p:PSet):List PSet:=if p∈S then S else S++[p]
theorem rowI_lt {S:List PSet} {p:PSet}:rowI S p<S.length ↔ p∈S:=by
 induction S with
 | nil=>simp[rowI]
 | cons q r ih=>
  rw[rowI,Yr];split
  .rename_i h;simp[h]
  .rename_i h;rw[Yyj];constructor
   .intro h1;exact .inr (ih.1 (by omega))
   .rintro (h1 | h1)
    .exact absurd h1.symm h
    .have:=ih.2 h1;omega
theorem rowI_of_not {S:List PSet} {p:PSet} (h:p∉S):rowI S p=S.length:=by
 induction S with
 | nil=>rfl
 | cons q r ih=>
  rw[Yr,not_or] at h;rw[rowI,if_neg (fun e=>h.1 e.symm),ih h.2,Yyj]
theorem rowI_first {S:List PSet} {p:PSet} {i:Nat} (hi:S[i]?=some p) (h:∀(j:Nat) (q:PSet),j<i->S[j]?=some q->q≠p):rowI S p=i:=by
 induction S generalizing i with
 | nil=>simp at hi
 | cons q r ih=>
  cases i with
  | zero=>simp at hi;rw[rowI,if_pos hi]
  | succ i=>
   rw[rowI,if_neg (h 0 q (by omega) rfl),ih (by simpa using hi) fun j q' hj hq=>h (j+1) q' (by omega) (by simpa using hq)]
noncomputable def arcsF (es:List Ed) (role:Int) (i:Nat) (p:PSet):List Ev->List PSet->List Mv->List PSet × List Mv
 | [],S,M=>(S,M)
 | x::r,S,M=>arcsF es role i p r (rowS S (clo es role (toL es role p x))) (M++[⟨i,x.send,x.peer,x.label,rowI S (clo es role (toL es role p x)),false⟩])
noncomputable def viewsF (es:List Ed) (role:Int):Nat->Nat->List PSet->List Mv->Option (List PSet × List Mv)
 | 0,_,_,_=>none
 | f+1,i,S,M=>match S[i]? with
  | none=>some (S,M)
  | some p=>if (arcsF es role i p (evs es role p) S M).1.length>200 then none else viewsF es role f (i+1) (arcsF es role i p (evs es role p) S M).1 (arcsF es role i p (evs es role p) S M).2
noncomputable def views (g:Gl) (role:Int):Option (List PSet × List Mv):=viewsF g.es role 202 0 [clo g.es role [g.s]] []
end Go.VC
end

section
namespace Go.VC
structure Ti where
 ag:Bool
 k:Int
 x:Ev
 deriving DecidableEq
def Ti.cs (t:Ti):List Value:=[.bool t.ag,.int .i64 t.k,.bool t.x.send,.int .i64 t.x.peer,.int .i64 t.x.label]
def ti0:Ti:=⟨false,0,⟨false,0,0⟩⟩
def updT (T:List Ti) (n:Nat) (f:Ti->Ti):List Ti:=match T[n]? with | some t=>T.set n (f t) | none=>T
def own1 (role:Int) (s:List Bool × List Ti) (x:Ed):List Bool × List Ti:=
 if x.a=role then (s.1.set x.f.toNat true,updT s.2 x.f.toNat fun t=>{ t with ag:=x.ag }) else s
def own2 (es:List Ed) (O:List Bool) (T:List Ti) (t:To):List Ti:=
 match O[t.s.toNat]?,es[t.e.toNat]? with
 | some true,some x=>updT T t.s.toNat fun q=>⟨q.ag,t.k,⟨true,x.b,x.l⟩⟩
 | _,_=>T
theorem updT_len (T:List Ti) (n:Nat) (f:Ti->Ti):(updT T n f).length=T.length:=by
 unfold updT;split
 .rw[Yyh]
 .rfl
theorem own1_len (role:Int) (s:List Bool × List Ti) (x:Ed):(own1 role s x).1.length=s.1.length/\(own1 role s x).2.length=s.2.length:=by
 unfold own1;split
 .exact⟨Yyh,updT_len _ _ _⟩
 .exact⟨rfl,rfl⟩
theorem own2_len (es:List Ed) (O:List Bool) (T:List Ti) (t:To):(own2 es O T t).length=T.length:=by
 unfold own2;split
 .exact updT_len _ _ _
 .rfl
def ownE (es:List Ed) (role:Int) (n:Nat):List Bool × List Ti:=es.foldl (own1 role) (List.replicate n false,List.replicate n ti0)
def ownT (es:List Ed) (ts:List To) (role:Int) (n:Nat):List Ti:=ts.foldl (own2 es (ownE es role n).1) (ownE es role n).2
theorem ownE_len (es:List Ed) (role:Int) (n:Nat):(ownE es role n).1.length=n/\(ownE es role n).2.length=n:=by
 unfold ownE
 suffices h:∀(l:List Ed) (s:List Bool × List Ti),(l.foldl (own1 role) s).1.length=s.1.length/\(l.foldl (own1 role) s).2.length=s.2.length by
  have:=h es (List.replicate n false,List.replicate n ti0);simpa using this
 intro l
 induction l with
 | nil=>intro s;exact⟨rfl,rfl⟩
 | cons a l ih=>intro s;rw[List.foldl_cons];have h1:=ih (own1 role s a);have h2:=own1_len role s a;exact⟨h1.1.trans h2.1,h1.2.trans h2.2⟩
theorem ownT_len (es:List Ed) (ts:List To) (role:Int) (n:Nat):(ownT es ts role n).length=n:=by
 unfold ownT
 suffices h:∀(l:List To) (T:List Ti),(l.foldl (own2 es (ownE es role n).1) T).length=T.length from (h ts _).trans (ownE_len es role n).2
 intro l
 induction l with
 | nil=>intro s;rfl
 | cons a l ih=>intro s;rw[List.foldl_cons,ih,own2_len]
theorem foldl_snoc {α β:Type} {f:β->α->β} {b:β} {l:List α} {i:Nat} {x:α} (h:l[i]?=some x):(l.take (i+1)).foldl f b=f ((l.take i).foldl f b) x:=by
 rw[List.take_add_one,h,List.foldl_append];rfl
theorem St.setf {α:Type} {h0 h:Heap} {L:List It} (hs:St h0 h L) (k:Nat) {s:Sl} {e:TypeId} {n:Nat} {cs:α->List Value} {l:List α} (hk:L[k]?=some (.sl s e n (l.map cs))) (hn:0<n) {x:Int} (hx0:0<=x) (hx1:x<(s.n:Nat)) (j:Nat) {y:α} (hy:l[x.toNat]?=some y) (y':α) {vs:List Value} (hsp:splice (cs y) j vs=cs y')
  (hv:j+vs.length<=n) {m:Nat} (hm:m=vs.length) {K:Nat->Nat->Heap->Prop} (hK:∀b o h',St h0 h' (L.set k (.sl s e n ((l.set x.toNat y').map cs)))->K b o h') :
  NB s.a fun b o=>(0<=x/\x<(s.n:Nat))/\(okAt h ⟨b,o+x.toNat*n+j,none⟩ m/\∀h',h'=hputs h ⟨b,o+x.toNat*n+j,none⟩ 0 vs->K b o h'):=by
 refine hs.nbput k hk hn (i:=x.toNat) (row:=cs y) (by rw[Yd,hy];rfl) j hv (fun b o h' h1=>hK b o h' ?_) hm ⟨hx0,hx1⟩;rw[hsp] at h1;rw[List.map_set];exact h1
theorem updT_get {T:List Ti} {n:Nat} {f:Ti->Ti} {t:Ti} (h:T[n]?=some t):updT T n f=T.set n (f t):=by unfold updT;rw[h]
def sndAt (L:List Ev) (i:Nat):Bool:=match L[i]? with | some x=>x.send | none=>false
def badV (F:Nat->List Ev) (en:Nat->Bool) (l:List Nat) (n:Nat):Bool:=sndAt (F n) 0&&(en n || !sndAt (F n) ((F n).length-1)||l.any fun k=>en k||decide (F n≠F k))
def stepV (F:Nat->List Ev) (en:Nat->Bool) (O:List Bool) (T:List Ti) (l:List Nat) (st:Option (Bool × Ti)) (n:Nat):Option (Bool × Ti):=
 match st with
 | none=>none
 | some (k,o)=>if badV F en l n then none else match O[n]?,T[n]? with
  | some true,some t=>if k&&decide (t≠o) then none else some (true,t)
  | _,_=>some (k,o)
def viewV (F:Nat->List Ev) (en:Nat->Bool) (O:List Bool) (T:List Ti) (l:List Nat):Option Ti:=(l.foldl (stepV F en O T l) (some (false,ti0))).map Prod.snd
theorem stepV_none (F:Nat->List Ev) (en:Nat->Bool) (O:List Bool) (T:List Ti) (l m:List Nat):m.foldl (stepV F en O T l) none=none:=by
 induction m with
 | nil=>rfl
 | cons a m ih=>rw[List.foldl_cons];exact ih
theorem viewV_none {F:Nat->List Ev} {en:Nat->Bool} {O:List Bool} {T:List Ti} {l:List Nat} {i:Nat} {b:Option (Bool × Ti)} {n:Nat} (hb:(l.take i).foldl (stepV F en O T l) (some (false,ti0))=b) (hn:l[i]?=some n) (h:stepV F en O T l b n=none):viewV F en O T l=none:=by
 unfold viewV;have e:l=l.take i++(n::l.drop (i+1)):=by
  have:=List.take_append_drop i l;obtain⟨h1,h2⟩:=Ya.1 hn;rw[List.drop_eq_getElem_cons h1,h2] at this;exact this.symm
 have e2:l.foldl (stepV F en O T l) (some (false,ti0))=none:=by
  have:∀m,m=l->m.foldl (stepV F en O T l) (some (false,ti0))=none:=by
   intro m hm;rw[hm.trans e,List.foldl_append,hb,List.foldl_cons,h,stepV_none]
  exact this l rfl
 rw[e2];rfl
theorem ti_eqb (x y:Ti):(((x.ag==y.ag)&&((x.k==y.k)&&(((x.x.send==y.x.send)&&((x.x.peer==y.x.peer)&&((x.x.label==y.x.label)&&true)))&&true))):Bool)=decide (x=y):=by
 obtain⟨a,k,⟨s,p,l⟩⟩:=x;obtain⟨a',k',⟨s',p',l'⟩⟩:=y;simp[Bool.beq_eq_decide_eq,<-Bool.decide_and]
theorem Rw.atI {α:Type} {h:Heap} {k:Nat} {s:Sl} {cs:α->List Value} {L:List α} (hr:Rw h k s (L.map cs)) {b o:Nat} (ha:s.a=some ⟨b,o,none⟩) {i:Nat} {y:α} (hi:L[i]?=some y):atC h ⟨b,o+i*k,none⟩ (cs y):=by
 obtain⟨b',o',ha',hall⟩:=hr.2 (by rw[Yc];have:=(Ya.1 hi).1;omega);rw[ha] at ha';cases ha';exact hall i (cs y) (by rw[Yd,hi];rfl)
theorem St.nbw {α:Type} {h0 h:Heap} {L:List It} (hs:St h0 h L) (k:Nat) {s:Sl} {e:TypeId} {n:Nat} {cs:α->List Value} {l:List α} (hk:L[k]?=some (.sl s e n (l.map cs))) (hn:0<n) {x:Int} (hx0:0<=x) (hx1:x<(s.n:Nat)) {F:Nat->Nat->Prop}
  (hF:∀b o y,l[x.toNat]?=some y->s.a=some ⟨b,o,none⟩->atC h ⟨b,o+x.toNat*n,none⟩ (cs y)->(∀(j:Nat) (y':α) (vs:List Value),splice (cs y) j vs=cs y'->j+vs.length<=n->∀ {m:Nat} (_:m=vs.length) {K:Heap->Prop},(∀h',St h0 h' (L.set k (.sl s e n ((l.set x.toNat y').map cs)))->K h') ->
   okAt h ⟨b,o+x.toNat*n+j,none⟩ m/\∀h',h'=hputs h ⟨b,o+x.toNat*n+j,none⟩ 0 vs->K h')->F b o):NB s.a fun b o=>(0<=x/\x<(s.n:Nat))/\F b o:=by
 have hr:=hs.rows k hk hn;have hl:=hr.ln;have hlt:x.toNat<l.length:=by omega
 have hg:l[x.toNat]?=some l[x.toNat]:=Yi hlt;refine hr.nb (i:=x.toNat) (row:=cs l[x.toNat]) (by rw[Yd,hg];rfl) fun b o ha hat=>⟨⟨hx0,hx1⟩,hF b o _ hg ha hat ?_⟩;intro j y' vs hsp hv m hm K hK;have h1:=hs.setf k hk hn hx0 hx1 j hg y' hsp hv hm (K:=fun _ _ h'=>K h') (fun _ _ h' h2=>hK h' h2);rw[ha,NB_some] at h1;exact h1.2
structure Mch where
 role:Int
 n:Int
 s:Int
 fin:List Bool
 mv:List Mv
 li:List To
def updR (n:Nat) (x:Ti) (y:Mv):Mv:=if y.f=n/\y.send=true then { y with ag:=x.ag } else y
def limC (n:Nat) (x:Ti) (q:Mv × Nat):Option To:=if q.1.f=n/\q.1.send=true/\x.k>0/\x.x=⟨true,q.1.peer,q.1.label⟩ then some ⟨n,x.k,q.2⟩ else none
def limR (n:Nat) (x:Ti) (M:List Mv):List To:=M.zipIdx.filterMap (limC n x)
def rawL (vw:List Nat->Option Ti):Nat->List PSet->List Mv->List To->Option (List Mv × List To)
 | _,[],M,L=>some (M,L)
 | n,p::S,M,L=>match vw (elems p) with
  | none=>none
  | some x=>rawL vw (n+1) S (M.map (updR n x)) (L++limR n x M)
theorem updR_same (n:Nat) (x:Ti) (y:Mv):(updR n x y).f=y.f/\(updR n x y).send=y.send/\(updR n x y).peer=y.peer/\(updR n x y).label=y.label/\(updR n x y).t=y.t:=by
 unfold updR;split<;>exact⟨rfl,rfl,rfl,rfl,rfl⟩
theorem limR_len (n:Nat) (x:Ti) (M:List Mv):(limR n x M).length<=M.length:=by
 unfold limR;refine Yys (List.length_filterMap_le _ _) ?_;rw[List.length_zipIdx];exact Yyt _
theorem zip_snoc {α:Type} {l:List α} {i:Nat} {x:α} (h:l[i]?=some x):(l.take (i+1)).zipIdx=(l.take i).zipIdx++[(x,i)]:=by
 rw[take_snoc h,List.zipIdx_append,Yu,Nat.min_eq_left (Nat.le_of_lt (Ya.1 h).1)];simp
theorem set_split {α:Type} {i:Nat} {x y:α} (f:α->α) {M:List α} (h:M[i]?=some x) (hy:f x=y):((M.take i).map f++M.drop i).set i y=(M.take (i+1)).map f++M.drop (i+1):=by
 obtain⟨h1,h2⟩:=Ya.1 h;have hl:((M.take i).map f).length=i:=by rw[Yc,Yu];omega
 rw[take_snoc h,Ym,List.drop_eq_getElem_cons h1,List.set_append_right _ _ (by omega),hl,Nat.sub_self,List.set_cons_zero,Yz,<-hy];rfl
theorem get_split {α:Type} {i:Nat} {f:α->α} {M:List α}:((M.take i).map f++M.drop i)[i]?=M[i]?:=by
 by_cases hi:i<=M.length
 .have hl:((M.take i).map f).length=i:=by rw[Yc,Yu];omega
  rw[Yyc (by omega),hl,Nat.sub_self,List.getElem?_drop,Nat.add_zero]
 .rw[Yl (by rw[Yh,Yc,Yu,List.length_drop];omega),Yl (by omega)]
end Go.VC
end

section
namespace Go.VC
def dedF {K:Type} [DecidableEq K] (l:List K):List K:=l.foldl (fun a k=>if k∈a then a else a++[k]) []
def idxF {K:Type} [DecidableEq K]:List K->K->Nat
 | [],_=>0
 | x::r,k=>if x=k then 0 else idxF r k+1
def canonL {K:Type} [DecidableEq K] (l:List K):List Nat:=l.map (idxF (dedF l))
section
variable {K K':Type} [DecidableEq K] [DecidableEq K']
theorem dedF_snoc (l:List K) (k:K):dedF (l++[k])=if k∈dedF l then dedF l else dedF l++[k]:=by unfold dedF;rw[List.foldl_append];rfl
theorem dedF_take {l:List K} {i:Nat} {k:K} (h:l[i]?=some k):dedF (l.take (i+1))=if k∈dedF (l.take i) then dedF (l.take i) else dedF (l.take i)++[k]:=by rw[take_snoc h,dedF_snoc]
theorem dedF_mem (l:List K) (k:K):k∈dedF l ↔ k∈l:=by
 suffices h:∀(m a:List K),k∈m.foldl (fun a k=>if k∈a then a else a++[k]) a ↔ k∈a\/k∈m by have:=h l [];simpa [dedF] using this
 intro m
 induction m with
 | nil=>intro a;simp
 | cons x r ih=>
  intro a;rw[List.foldl_cons,ih];split
  .rename_i hx;rw[Yr];constructor
   .rintro (h | h)
    .exact .inl h
    .exact .inr (.inr h)
   .rintro (h | rfl | h)
    .exact .inl h
    .exact .inl hx
    .exact .inr h
  .rw[Yk,Ye,Yr];constructor
   .rintro ((h | h) | h)
    .exact .inl h
    .exact .inr (.inl h)
    .exact .inr (.inr h)
   .rintro (h | h | h)
    .exact .inl (.inl h)
    .exact .inl (.inr h)
    .exact .inr h
theorem idxF_mem {l:List K} {k:K} (h:k∈l) (m:List K):idxF (l++m) k=idxF l k:=by
 induction l with
 | nil=>cases h
 | cons x r ih=>
  rw[List.cons_append,idxF,idxF];split
  .rfl
  .rename_i hx;rw[ih (by rcases Yr.1 h with h | h;exact absurd h.symm hx;exact h)]
theorem idxF_not {l:List K} {k:K} (h:k∉l):idxF l k=l.length:=by
 induction l with
 | nil=>rfl
 | cons x r ih=>
  rw[Yr,not_or] at h;rw[idxF,if_neg (fun e=>h.1 e.symm),ih h.2,Yyj]
theorem idxF_lt {l:List K} {k:K} (h:k∈l):idxF l k<l.length:=by
 induction l with
 | nil=>cases h
 | cons x r ih=>
  rw[idxF,Yyj];split
  .omega
  .rename_i hx;have:=ih (by rcases Yr.1 h with h | h;exact absurd h.symm hx;exact h);omega
theorem idxF_inj {l:List K} {a b:K} (ha:a∈l) (h:idxF l a=idxF l b):a=b:=by
 induction l with
 | nil=>cases ha
 | cons x r ih=>
  rw[idxF,idxF] at h;split at h<;>split at h
  .rename_i h1 h2;rw[<-h1,<-h2]
  .omega
  .omega
  .rename_i h1 _;exact ih (by rcases Yr.1 ha with h | h;exact absurd h.symm h1;exact h) (by omega)
theorem canon_pat {l:List K} {l':List K'} (hl:l.length=l'.length) (hp:∀(i j:Nat) (a b:K) (a' b':K'),l[i]?=some a->l[j]?=some b->l'[i]?=some a'->l'[j]?=some b'->(a=b ↔ a'=b')) :
  ∀n,n<=l.length->(dedF (l.take n)).length=(dedF (l'.take n)).length/\∀(j:Nat) (a:K) (a':K'),j<n->l[j]?=some a->l'[j]?=some a'->idxF (dedF (l.take n)) a=idxF (dedF (l'.take n)) a'
 | 0,_=>⟨rfl,fun j _ _ hj=>by omega⟩
 | n+1,hn=>by
  obtain⟨h1,h2⟩:=canon_pat hl hp n (by omega);obtain⟨x,hx⟩:=get_some (l:=l) (i:=n) (by omega);obtain⟨x',hx'⟩:=get_some (l:=l') (i:=n) (by omega);have hmem:x∈dedF (l.take n) ↔ x'∈dedF (l'.take n):=by
   rw[dedF_mem,dedF_mem];constructor
   .intro h;obtain⟨j,hj⟩:=Yf.1 h;have hjn:j<n:=by have:=(Ya.1 hj).1;rw[Yu] at this;omega
    rw[Yyf,if_pos hjn] at hj;obtain⟨y',hy'⟩:=get_some (l:=l') (i:=j) (by omega);have:=(hp j n x x y' x' hj hx hy' hx').1 rfl;subst this;exact Yb (i:=j) (by rw[Yyf,if_pos hjn];exact hy')
   .intro h;obtain⟨j,hj⟩:=Yf.1 h;have hjn:j<n:=by have:=(Ya.1 hj).1;rw[Yu] at this;omega
    rw[Yyf,if_pos hjn] at hj;obtain⟨y,hy⟩:=get_some (l:=l) (i:=j) (by omega);have:=(hp j n y x x' x' hy hx hj hx').2 rfl;subst this;exact Yb (i:=j) (by rw[Yyf,if_pos hjn];exact hy)
  rw[dedF_take hx,dedF_take hx'];by_cases hm:x∈dedF (l.take n)
  .rw[if_pos hm,if_pos (hmem.1 hm)];refine⟨h1,fun j a a' hj ha ha'=>?_⟩;by_cases e:j=n
   .subst e;rw[hx] at ha;cases ha;rw[hx'] at ha';cases ha';obtain⟨i,hi⟩:=Yf.1 ((dedF_mem _ _).1 hm);have hin:i<j:=by have:=(Ya.1 hi).1;rw[Yu] at this;omega
    rw[Yyf,if_pos hin] at hi;obtain⟨y',hy'⟩:=get_some (l:=l') (i:=i) (by omega);have:=(hp i j x x y' x' hi hx hy' hx').1 rfl;rw[h2 i x y' hin hi hy',this]
   .exact h2 j a a' (by omega) ha ha'
  .rw[if_neg hm,if_neg (fun h=>hm (hmem.2 h))];refine⟨by rw[Yh,Yh,h1];rfl,fun j a a' hj ha ha'=>?_⟩;by_cases e:j=n
   .subst e;rw[hx] at ha;cases ha;rw[hx'] at ha';cases ha';have key:∀ {K:Type} [DecidableEq K] {l:List K} {k:K},k∉l->idxF (l++[k]) k=l.length:=by
     intro K _ l k h
     induction l with
     | nil=>rw[List.nil_append,idxF,if_pos rfl];rfl
     | cons x r ih=>
      rw[Yr,not_or] at h;rw[List.cons_append,idxF,if_neg (fun e=>h.1 e.symm),ih h.2,Yyj]
    rw[key hm,key (fun h=>hm (hmem.2 h)),h1]
   .have hmj:∀ {K:Type} [DecidableEq K] {l:List K} {a:K},l[j]?=some a->a∈dedF (l.take n):=fun h=>(dedF_mem _ _).2 (Yb (i:=j) (by rw[Yyf,if_pos (by omega)];exact h));rw[idxF_mem (hmj ha),idxF_mem (hmj ha')];exact h2 j a a' (by omega) ha ha'
theorem canon_eq {l:List K} {l':List K'} (hl:l.length=l'.length) (hp:∀(i j:Nat) (a b:K) (a' b':K'),l[i]?=some a->l[j]?=some b->l'[i]?=some a'->l'[j]?=some b'->(a=b ↔ a'=b')):canonL l=canonL l'/\(dedF l).length=(dedF l').length:=by
 have h:=canon_pat hl hp l.length (Yyt _);rw[Yye,hl,Yye] at h;refine⟨?_,h.1⟩;apply Yyr;intro j;unfold canonL;rw[Yd,Yd];by_cases hj:j<l.length
 .obtain⟨a,ha⟩:=get_some (l:=l) (i:=j) hj;obtain⟨a',ha'⟩:=get_some (l:=l') (i:=j) (by omega);rw[ha,ha',Option.map_some,Option.map_some,h.2 j a a' (by omega) ha ha']
 .rw[Yl (by omega),Yl (by omega)];rfl
theorem canonL_len (l:List K):(canonL l).length=l.length:=Yc _
theorem canonL_get {l:List K} {i:Nat} {k:K} (h:l[i]?=some k):(canonL l)[i]?=some (idxF (dedF l) k):=by unfold canonL;rw[Yd,h];rfl
theorem canonL_lt {l:List K} {c:Nat} (h:c∈canonL l):c<(dedF l).length:=by
 obtain⟨k,hk,rfl⟩:=Yp.1 h;exact idxF_lt ((dedF_mem _ _).2 hk)
theorem canonL_eq {l:List K} {i j:Nat} {a b:K} (ha:l[i]?=some a) (hb:l[j]?=some b):(canonL l)[i]?=(canonL l)[j]? ↔ a=b:=by
 rw[canonL_get ha,canonL_get hb];constructor
 .intro h;exact idxF_inj ((dedF_mem _ _).2 (Yb ha)) (Yyp h)
 .intro h;rw[h]
theorem dedF_canon (l:List K):(dedF (canonL l)).length=(dedF l).length:=by
 refine (canon_eq (canonL_len l) fun i j a b a' b' h1 h2 h3 h4=>?_).2;have:=canonL_eq h3 h4;rw[h1,h2] at this;rw[<-this];exact⟨fun h=>by rw[h],fun h=>Yyp h⟩
theorem dedF_map_le (f:K->K') (l:List K):(dedF (l.map f)).length<=(dedF l).length:=by
 have key:∀n,n<=l.length->(dedF ((l.map f).take n)).length<=(dedF (l.take n)).length:=by
  intro n
  induction n with
  | zero=>intro _;exact Yyt _
  | succ n ih=>
   intro hn;obtain⟨x,hx⟩:=get_some (l:=l) (i:=n) (by omega);rw[dedF_take hx,dedF_take (l:=l.map f) (k:=f x) (by rw[Yd,hx];rfl)];have:=ih (by omega);by_cases hm:x∈dedF (l.take n)
   .have:f x∈dedF ((l.map f).take n):=by
     rw[dedF_mem,<-List.map_take];exact Yp.2 ⟨x,(dedF_mem _ _).1 hm,rfl⟩
    rw[if_pos hm,if_pos this];omega
   .rw[if_neg hm,Yh];split
    .omega
    .rw[Yh];simp only[Yv];omega
 have:=key l.length (Yyt _)
 rwa [Yye,Yj (by rw[Yc];exact Yyt _)] at this
theorem dedF_len_le (l:List K):(dedF l).length<=l.length:=by
 have key:∀n,n<=l.length->(dedF (l.take n)).length<=n:=by
  intro n
  induction n with
  | zero=>intro _;exact Yyt _
  | succ n ih=>
   intro hn;obtain⟨x,hx⟩:=get_some (l:=l) (i:=n) (by omega);rw[dedF_take hx];have:=ih (by omega);split
   .omega
   .rw[Yh];simp only[Yv];omega
 have:=key l.length (Yyt _)
 rwa [Yye] at this
end
structure Sg where
 b:Int
 k:Int
 x:Ev
 ag:Bool
 num:Int
 deriving DecidableEq
def Sg.v (s:Sg):Value:=.agg ⟨[.int .i64 s.b,.int .i64 s.k,.bool s.x.send,.int .i64 s.x.peer,.int .i64 s.x.label,.bool s.ag,.int .i64 s.num]⟩
theorem Sg.v_inj (a b:Sg) (h:a.v=b.v):a=b:=by
 obtain⟨a1,a2,⟨a3,a4,a5⟩,a6,a7⟩:=a;obtain⟨b1,b2,⟨b3,b4,b5⟩,b6,b7⟩:=b;unfold Sg.v at h;simp at h;simp[h]
structure NOk (n:Int) (N:List (Sg × Int)):Prop where
 nd:(N.map Prod.fst).Nodup
 va:∀(j:Nat) (q:Sg × Int),N[j]?=some q->q.2=(j:Int)+n+2
theorem NOk.nil (n:Int):NOk n []:=⟨List.nodup_nil,fun j q h=>by simp at h⟩
theorem NOk.push {n:Int} {N:List (Sg × Int)} (h:NOk n N) {s:Sg} (hs:∀q∈N,q.1≠s):NOk n (N++[(s,(N.length:Int)+n+2)]):=by
 refine⟨?_,fun j q hq=>?_⟩
 .rw[Ym,List.nodup_append];refine⟨h.nd,by simp,fun a ha b hb=>?_⟩;simp only[Yyl,List.map_nil,Ye] at hb;subst hb;obtain⟨q,hq,rfl⟩:=Yp.1 ha;exact hs q hq
 .by_cases hj:j<N.length
  .rw[Yyi hj] at hq;exact h.va j q hq
  .have hjl:=(Ya.1 hq).1;rw[Yh,Yv] at hjl;have:j=N.length:=by omega
   subst this;rw[Yyc (Yyt _),Nat.sub_self] at hq;cases hq;rfl
theorem NOk.keyv {n:Int} {N:List (Sg × Int)} (h:NOk n N) {s s':Sg} {v:Int} (h1:(s,v)∈N) (h2:(s',v)∈N):s=s':=by
 obtain⟨i,hi⟩:=Yf.1 h1;obtain⟨j,hj⟩:=Yf.1 h2;have e1:=h.va i _ hi;have e2:=h.va j _ hj;have:i=j:=by simp only at e1 e2;omega
 subst this;rw[hi] at hj;cases hj;rfl
theorem NOk.val {n:Int} {N:List (Sg × Int)} (h:NOk n N) {s:Sg} {v v':Int} (h1:(s,v)∈N) (h2:(s,v')∈N):v=v':=by
 obtain⟨i,hi⟩:=Yf.1 h1;obtain⟨j,hj⟩:=Yf.1 h2;have hi':(N.map Prod.fst)[i]?=some s:=by rw[Yd,hi];rfl
 have hj':(N.map Prod.fst)[j]?=some s:=by rw[Yd,hj];rfl
 have:i=j:=(List.getElem?_inj (Ya.1 hi').1 h.nd).1 (hi'.trans hj'.symm);subst this;rw[hi] at hj;cases hj;rfl
inductive HsN (N:List (Sg × Int)):Int->List Sg->Prop
 | base {s:Sg} {v:Int} (hm:(s,v)∈N) (hk:s.k=0):HsN N v [s]
 | step {s:Sg} {v:Int} {l:List Sg} (hm:(s,v)∈N) (hk:s.k≠0) (hh:HsN N s.b l):HsN N v ({ s with b:=0 }::l)
theorem HsN.mono {N N':List (Sg × Int)} (hsub:∀q∈N,q∈N') {v:Int} {l:List Sg} (h:HsN N v l):HsN N' v l:=by
 induction h with
 | base hm hk=>exact .base (hsub _ hm) hk
 | step hm hk _ ih=>exact .step (hsub _ hm) hk ih
theorem HsN.ne {N:List (Sg × Int)} {v:Int} (h:HsN N v []):False:=by cases h
theorem HsN.inj {n:Int} {N:List (Sg × Int)} (hN:NOk n N):∀ {l:List Sg} {v v':Int},HsN N v l->HsN N v' l->v=v'
 | [],_,_,h,_=>h.ne.elim
 | a::l,v,v',h,h'=>by
  cases h with
  | base hm hk=>
   cases h' with
   | base hm' hk'=>exact hN.val hm hm'
   | @step s' _ _ hm' hk' hh=>exact hh.ne.elim
  | @step s _ _ hm hk hh=>
   generalize hq:({ s with b:=0 }:Sg)=q at h';cases h' with
   | base hm' hk'=>exact hh.ne.elim
   | @step s' _ _ hm' hk' hh'=>
    have hb:=HsN.inj hN hh hh';have:s=s':=by
     obtain⟨a1,a2,a3,a4,a5⟩:=s;obtain⟨b1,b2,b3,b4,b5⟩:=s';simp only[Sg.mk.injEq] at hq ⊢;exact⟨hb,hq.2⟩
    subst this;exact hN.val hm hm'
theorem HsN.func {n:Int} {N:List (Sg × Int)} (hN:NOk n N) {v:Int} {l l':List Sg} (h:HsN N v l):HsN N v l'->l=l':=by
 intro h'
 induction h generalizing l' with
 | base hm hk=>
  cases h' with
  | base hm' hk'=>rw[hN.keyv hm hm']
  | step hm' hk' hh=>have:=hN.keyv hm hm';subst this;exact absurd hk hk'
 | step hm hk hh ih=>
  cases h' with
  | base hm' hk'=>have:=hN.keyv hm hm';subst this;exact absurd hk' hk
  | step hm' hk' hh'=>have:=hN.keyv hm hm';subst this;rw[ih hh']
def nextF (n:Int) (N:List (Sg × Int)) (s:Sg):Int × List (Sg × Int):=match mget N s with
 | some v=>(v,N)
 | none=>((N.length:Int)+n+2,N++[(s,(N.length:Int)+n+2)])
theorem mget_mem {α β:Type} [DecidableEq α] {a:α} {y:β}:∀ {l:List (α × β)},mget l a=some y->(a,y)∈l
 | [],h=>by cases h
 | (x,z)::r,h=>by
  rw[mget] at h;split at h
  .rename_i e;cases h;subst e;simp
  .exact Yn _ (mget_mem h)
theorem mget_not {α β:Type} [DecidableEq α] {a:α}:∀ {l:List (α × β)},mget l a=none->∀q∈l,q.1≠a
 | [],_,q,hq=>by cases hq
 | (x,z)::r,h,q,hq=>by
  rw[mget] at h;split at h
  .cases h
  .rename_i e;rcases Yr.1 hq with rfl | hq
   .exact e
   .exact mget_not h q hq
theorem nextF_spec {n:Int} {N:List (Sg × Int)} (hN:NOk n N) (s:Sg):NOk n (nextF n N s).2/\(∀q∈N,q∈(nextF n N s).2)/\(s,(nextF n N s).1)∈(nextF n N s).2/\(nextF n N s).2.length<=N.length+1/\∀q∈(nextF n N s).2,q∈N\/q.1=s:=by
 unfold nextF;cases h:mget N s with
 | some v=>exact⟨hN,fun q hq=>hq,mget_mem h,by simp,fun q hq=>.inl hq⟩
 | none=>
  refine⟨hN.push (mget_not h),fun q hq=>Yk.2 (.inl hq),Yk.2 (.inr (by simp)),by simp,fun q hq=>?_⟩;rcases Yk.1 hq with hq | hq
  .exact .inl hq
  .rw[Ye] at hq;subst hq;exact .inr rfl
theorem NOk.bound {n:Int} {N:List (Sg × Int)} (h:NOk n N) {s:Sg} {v:Int} (hm:(s,v)∈N):n+2<=v/\v<(N.length:Int)+n+2:=by
 obtain⟨j,hj⟩:=Yf.1 hm;have:=h.va j _ hj;have:=(Ya.1 hj).1;simp only at *;omega
def ev0:Ev:=⟨false,0,0⟩
def Mv.ev (x:Mv):Ev:=⟨x.send,x.peer,x.label⟩
def sgB (C:List Nat) (fin:List Bool) (s:Nat):Sg:=⟨(C.getD s 0:Nat),0,ev0,fin.getD s false,0⟩
def sgL (mv:List Mv) (t:To):Sg:=⟨0,1,match mv[t.e.toNat]? with | some x=>x.ev | none=>ev0,false,t.k⟩
def sgM (C:List Nat) (x:Mv):Sg:=⟨0,2,x.ev,x.ag,(C.getD x.t.toNat 0:Nat)⟩
def keyH (m:Mch) (C:List Nat) (li:List To) (mv:List Mv) (s:Nat):List Sg:=
 ((mv.filter fun x=>x.f=(s:Int)).map (sgM C)).reverse++(((li.filter fun t=>t.s=(s:Int)).map (sgL m.mv)).reverse++[sgB C m.fin s])
def keyS (m:Mch) (C:List Nat) (s:Nat):List Sg:=keyH m C m.li m.mv s
theorem keyH_li {m:Mch} {C:List Nat} {li:List To} {j:Nat} {t:To} (h:li[j]?=some t) (s:Nat):keyH m C (li.take (j+1)) [] s=if t.s=(s:Int) then sgL m.mv t::keyH m C (li.take j) [] s else keyH m C (li.take j) [] s:=by
 unfold keyH;rw[take_snoc h,List.filter_append];by_cases e:t.s=(s:Int)
 .rw[if_pos e,List.filter_cons_of_pos (by simpa using e)];simp
 .rw[if_neg e,List.filter_cons_of_neg (by simpa using e)];simp
theorem keyH_mv {m:Mch} {C:List Nat} {li:List To} {mv:List Mv} {j:Nat} {x:Mv} (h:mv[j]?=some x) (s:Nat):keyH m C li (mv.take (j+1)) s=if x.f=(s:Int) then sgM C x::keyH m C li (mv.take j) s else keyH m C li (mv.take j) s:=by
 unfold keyH;rw[take_snoc h,List.filter_append];by_cases e:x.f=(s:Int)
 .rw[if_pos e,List.filter_cons_of_pos (by simpa using e)];simp
 .rw[if_neg e,List.filter_cons_of_neg (by simpa using e)];simp
def clsK (m:Mch) (C:List Nat):List (List Sg):=(List.range m.n.toNat).map (keyS m C)
def clsN (m:Mch):Nat->List Nat->Nat->List Nat × Nat
 | 0,C,c=>(C,c)
 | f+1,C,c=>if (dedF (clsK m C)).length=c then (canonL (clsK m C),c) else clsN m f (canonL (clsK m C)) (dedF (clsK m C)).length
def cls (m:Mch):List Nat × Nat:=clsN m 202 (List.replicate m.n.toNat 0) 0
theorem clsK_len (m:Mch) (C:List Nat):(clsK m C).length=m.n.toNat:=by unfold clsK;rw[Yc,Yyd]
theorem clsK_ge {m:Mch} {C:List Nat} (hC:C.length=m.n.toNat):(dedF C).length<=(dedF (clsK m C)).length:=by
 have e:C=(clsK m C).map fun k=>match k.getLast? with | some s=>s.b.toNat | none=>0:=by
  apply Yyr;intro i;unfold clsK;rw[List.map_map,Yd];by_cases hi:i<m.n.toNat
  .rw[Yyb hi];obtain⟨c,hc⟩:=get_some (l:=C) (i:=i) (by omega);rw[hc];show _=some (match (keyS m C i).getLast? with | some s=>s.b.toNat | none=>0);have:(keyS m C i).getLast?=some (sgB C m.fin i):=by
    unfold keyS keyH;rw[<-Yz,List.getLast?_append];rfl
   rw[this];unfold sgB;simp[Yo,hc]
  .rw[Yl (by omega),Yl (by rw[Yyd];omega)];rfl
 have:=dedF_map_le (fun k:List Sg=>match k.getLast? with | some s=>s.b.toNat | none=>0) (clsK m C)
 rwa [<-e] at this
theorem dedF_nodup {K:Type} [DecidableEq K] (l:List K):(dedF l).Nodup:=by
 suffices h:∀(m a:List K),a.Nodup->(m.foldl (fun a k=>if k∈a then a else a++[k]) a).Nodup from h l [] List.nodup_nil
 intro m
 induction m with
 | nil=>intro a h;exact h
 | cons x r ih=>
  intro a h;rw[List.foldl_cons];refine ih _ ?_;split
  .exact h
  .rename_i hx;rw[List.nodup_append];exact⟨h,by simp,fun a ha b hb=>by rw[Ye] at hb;subst hb;exact fun e=>hx (e ▸ ha)⟩
def zipI {K:Type} (D:List K) (k:Nat):List (K × Int):=(D.zipIdx k).map fun q=>(q.1,(q.2:Int))
theorem zipI_fst {K:Type} (D:List K) (k:Nat):(zipI D k).map Prod.fst=D:=by
 unfold zipI;rw[List.map_map];exact List.zipIdx_map_fst k D
theorem zipI_snoc {K:Type} (D:List K) (a:K):zipI (D++[a]) 0=zipI D 0++[(a,(D.length:Int))]:=by
 unfold zipI;rw[List.zipIdx_append,Ym];simp
theorem zipI_len {K:Type} (D:List K) (k:Nat):(zipI D k).length=D.length:=by unfold zipI;rw[Yc,List.length_zipIdx]
theorem mget_zipI {K:Type} [DecidableEq K] (a:K):∀(D:List K) (k:Nat),mget (zipI D k) a=if a∈D then some ((idxF D a:Int)+k) else none
 | [],k=>rfl
 | x::r,k=>by
  have e:zipI (x::r) k=(x,(k:Int))::zipI r (k+1):=rfl;rw[e,mget,idxF];by_cases h:x=a
  .rw[if_pos h,if_pos (by simp[h]),if_pos h];simp
  .rw[if_neg h,mget_zipI a r (k+1),if_neg h];by_cases hm:a∈r
   .rw[if_pos hm,if_pos (Yn _ hm)];congr 1;omega
   .rw[if_neg hm,if_neg (fun hc=>by rcases Yr.1 hc with hc | hc;exact h hc.symm;exact hm hc)]
structure MOk (m:Mch):Prop where
 n:1<=m.n/\m.n<=200
 s:0<=m.s/\m.s<m.n
 fl:m.fin.length=m.n.toNat
 ml:m.mv.length<=400
 ll:m.li.length<=80000
 mv:∀x∈m.mv,0<=x.f/\x.f<m.n/\0<=x.t/\x.t<m.n/\(-9223372036854775808<=x.peer/\x.peer<=9223372036854775807)/\(-9223372036854775808<=x.label/\x.label<=9223372036854775807)
 li:∀t∈m.li,0<=t.s/\t.s<m.n/\0<=t.e/\t.e<m.mv.length/\(-9223372036854775808<=t.k/\t.k<=9223372036854775807)
def mvLt (a b:Mv):Prop:=a.f<b.f\/(a.f=b.f/\evLt a.ev b.ev)
theorem mvLt_irr (a:Mv):¬mvLt a a:=by
 rintro (h | ⟨_,h⟩)
 .omega
 .exact evLt_irr _ h
theorem mvLt_trans {a b c:Mv} (h1:mvLt a b) (h2:mvLt b c):mvLt a c:=by
 rcases h1 with h1 | ⟨h1,h1'⟩<;>rcases h2 with h2 | ⟨h2,h2'⟩
 .exact .inl (by omega)
 .exact .inl (by omega)
 .exact .inl (by omega)
 .exact .inr ⟨by omega,evLt_trans h1' h2'⟩
theorem mvSorted_same:∀ {l l':List Mv},l'.Perm l->l.Pairwise mvLt->l'.Pairwise (fun a b=>¬mvLt b a)->l'=l
 | [],l',hp,_,_=>List.perm_nil.1 hp
 | a::l,[],hp,_,_=>by have:=hp.length_eq;simp at this
 | a::l,b::l',hp,hs,hs'=>by
  rw[List.pairwise_cons] at hs hs';have hb:b=a:=by
   have hbm:b∈a::l:=hp.subset (Yx ..);have ham:a∈b::l':=hp.symm.subset (Yx ..);rcases Yr.1 hbm with h | h
   .exact h
   .rcases Yr.1 ham with h' | h'
    .exact h'.symm
    .exact absurd (hs.1 b h) (hs'.1 a h')
  subst hb;rw[mvSorted_same ((List.perm_cons b).1 hp) hs.2 hs'.2]
end Go.VC
end

section
namespace Go.VC
def setOf (L:List Nat):PSet:=fun j=>decide (j∈L)
def Can (n:Nat) (L:List Nat):Prop:=L=(List.range n).filter fun j=>decide (j∈L)
theorem Can.mk (n:Nat) (p:Nat->Bool):Can n ((List.range n).filter p):=by
 unfold Can;apply List.filter_congr;intro x hx;by_cases hm:x∈(List.range n).filter p
 .rw[decide_eq_true hm];exact (List.mem_filter.1 hm).2
 .rw[decide_eq_false hm];cases hp:p x
  .rfl
  .exact absurd (List.mem_filter.2 ⟨hx,hp⟩) hm
theorem Can.lt {n:Nat} {L:List Nat} (h:Can n L):∀j∈L,j<n:=by
 intro j hj;rw[h,List.mem_filter,List.mem_range] at hj;exact hj.1
theorem setOf_inj {n:Nat} {L L':List Nat} (h:Can n L) (h':Can n L'):setOf L=setOf L' ↔ L=L':=by
 constructor
 .intro e;rw[h,h'];congr 1
 .intro e;rw[e]
theorem elems_setOf {n:Nat} {L:List Nat} (h:Can n L) (hn:n<=4096):elems (setOf L)=L:=by
 unfold elems;have e:List.range 4096=List.range n++(List.range (4096-n)).map (n + ·):=by rw[<-List.range_add];congr 1;omega
 rw[e,List.filter_append];have e2:((List.range (4096-n)).map (n + ·)).filter (setOf L)=[]:=by
  rw[List.filter_eq_nil_iff];intro x hx;obtain⟨y,_,rfl⟩:=Yp.1 hx;unfold setOf;simp only[decide_eq_true_eq];intro hm;have:=h.lt _ hm;omega
 rw[e2,Yw];exact h.symm
def evsC (es:List Ed) (role:Int) (L:List Nat):List Ev:=sortE (L.flatMap fun n=>(visL es role n).map (·.x))
def toC (es:List Ed) (role:Int) (L:List Nat) (x:Ev):List Int:=L.flatMap fun n=>(visL es role n).filterMap fun a=>if a.x=x then some a.to else none
theorem evs_setOf {n:Nat} {L:List Nat} (h:Can n L) (hn:n<=4096) (es:List Ed) (role:Int):evs es role (setOf L)=evsC es role L:=by unfold evs evL evsC;rw[elems_setOf h hn]
theorem toL_setOf {n:Nat} {L:List Nat} (h:Can n L) (hn:n<=4096) (es:List Ed) (role:Int) (x:Ev):toL es role (setOf L) x=toC es role L x:=by unfold toL toC;rw[elems_setOf h hn]
def addC (es:List Ed) (role:Int) (L:List Nat):List Nat:=es.foldl (fun L x=>if (vis1 role x).isNone&&decide (x.f.toNat∈L) && !decide (x.t.toNat∈L) then L++[x.t.toNat] else L) L
def bfsC (es:List Ed) (role:Int):Nat->List Nat->List Nat
 | 0,L=>L
 | f+1,L=>bfsC es role f (addC es role L)
def okC (es:List Ed) (role:Int) (l:List Int) (L:List Nat):Bool:=
 l.all (fun v=>decide (0<=v)&&decide (v.toNat∈L))&&es.all (fun x=>!(vis1 role x).isNone || !decide (x.f.toNat∈L)||decide (x.t.toNat∈L)) &&
  (List.range L.length).all fun i=>match L[i]? with
   | some j=>l.any (fun v=>decide (v=(j:Int)))||es.any fun x=>(vis1 role x).isNone&&decide (x.f.toNat∈L.take i)&&decide (x.t=(j:Int))
   | none=>false
theorem okC_clo {es:List Ed} {role:Int} {l:List Int} {L:List Nat} (hes:∀x∈es,0<=x.f/\0<=x.t) (h:okC es role l L=true) (j:Nat):clo es role l j=decide (j∈L):=by
 unfold okC at h;simp only[Yt,List.all_eq_true,List.mem_range] at h;obtain⟨⟨h1,h2⟩,h3⟩:=h;have fwd:∀a:Int,Qr es role l a->0<=a/\a.toNat∈L:=by
  intro a ha
  induction ha with
  | base hm=>have:=h1 _ hm;simpa using this
  | step _ hx ih=>
   obtain⟨x,hx,hv,hf,rfl⟩:=hx;refine⟨(hes x hx).2,?_⟩;have:=h2 x hx;simp only[Bool.or_eq_true,Bool.not_eq_true',decide_eq_false_iff_not,decide_eq_true_eq] at this;rcases this with (h4 | h4) | h4
   .rw[hv] at h4;cases h4
   .exact absurd (by rw[hf];exact ih.2) h4
   .exact h4
 have bwd:∀i,i<=L.length->∀j∈L.take i,Qr es role l (j:Int):=by
  intro i
  induction i with
  | zero=>intro _ j hj;rw[Yyk] at hj;cases hj
  | succ i ih=>
   intro hi j hj;obtain⟨y,hy⟩:=get_some (l:=L) (i:=i) (by omega);rw[take_snoc hy,Yk,Ye] at hj;rcases hj with hj | rfl
   .exact ih (by omega) j hj
   .have:=h3 i (by omega);rw[hy] at this;simp only[Bool.or_eq_true,List.any_eq_true,decide_eq_true_eq,Yt] at this;rcases this with ⟨v,hv,rfl⟩ | ⟨x,hx,⟨h4,h5⟩,h6⟩
    .exact .base hv
    .have hq:=ih (by omega) _ h5;rw[show ((x.f.toNat:Nat):Int)=x.f by have:=hes x hx;omega] at hq;exact .step hq ⟨x,hx,Option.isNone_iff_eq_none.1 h4,rfl,h6⟩
 have hiff:clo es role l j=true ↔ j∈L:=by
  rw[clo_iff];constructor
  .intro h;have:=(fwd _ h).2;rwa [Ys] at this
  .intro h;exact bwd L.length (Yyt _) j (by rw[Yye];exact h)
 by_cases hj:j∈L
 .rw[decide_eq_true hj];exact hiff.2 hj
 .rw[decide_eq_false hj];cases hc:clo es role l j
  .rfl
  .exact absurd (hiff.1 hc) hj
def cloC (es:List Ed) (role:Int) (n:Nat) (l:List Int):Option (List Nat):=
 let L:=bfsC es role n (l.map Int.toNat).eraseDups
 if okC es role l L then some ((List.range n).filter fun j=>decide (j∈L)) else none
theorem cloC_ok {es:List Ed} {role:Int} {n:Nat} {l:List Int} {L:List Nat} (hes:∀x∈es,0<=x.f/\0<=x.t) (hlt:∀j:Nat,clo es role l j=true->j<n) (h:cloC es role n l=some L):Can n L/\clo es role l=setOf L:=by
 unfold cloC at h;simp only at h;split at h
 .rename_i hk;cases h;refine⟨Can.mk _ _,?_⟩
  funext j
  rw[okC_clo hes hk];unfold setOf;by_cases hj:j∈bfsC es role n (l.map Int.toNat).eraseDups
  .rw[decide_eq_true hj,decide_eq_true];have:clo es role l j=true:=by rw[okC_clo hes hk,decide_eq_true hj]
   exact List.mem_filter.2 ⟨List.mem_range.2 (hlt j this),decide_eq_true hj⟩
  .rw[decide_eq_false hj,decide_eq_false];intro hm;exact hj (Yyn (List.mem_filter.1 hm).2)
 .cases h
def rowCS (S:List (List Nat)) (L:List Nat):List (List Nat):=if L∈S then S else S++[L]
theorem rowI_setOf {n:Nat} {L:List Nat} (hL:Can n L):∀ {S:List (List Nat)},(∀s∈S,Can n s)->rowI (S.map setOf) (setOf L)=idxF S L
 | [],_=>rfl
 | s::S,h=>by
  rw[Yyl,rowI,idxF];have hs:=setOf_inj (h s (Yx ..)) hL;by_cases e:s=L
  .rw[if_pos (hs.2 e),if_pos e]
  .rw[if_neg (fun h=>e (hs.1 h)),if_neg e,rowI_setOf hL fun s hs=>h s (Yn _ hs)]
theorem rowS_setOf {n:Nat} {L:List Nat} (hL:Can n L) {S:List (List Nat)} (hS:∀s∈S,Can n s):rowS (S.map setOf) (setOf L)=(rowCS S L).map setOf/\∀s∈rowCS S L,Can n s:=by
 have hiff:setOf L∈S.map setOf ↔ L∈S:=by
  rw[<-rowI_lt,rowI_setOf hL hS,Yc];constructor
  .intro h;by_cases hm:L∈S
   .exact hm
   .rw[idxF_not hm] at h;omega
  .intro h;exact idxF_lt h
 unfold rowS rowCS;by_cases hm:L∈S
 .rw[if_pos (hiff.2 hm),if_pos hm];exact⟨rfl,hS⟩
 .rw[if_neg (fun h=>hm (hiff.1 h)),if_neg hm,Ym];refine⟨rfl,fun s hs=>?_⟩;rcases Yk.1 hs with hs | hs
  .exact hS s hs
  .rw[Ye] at hs;rw[hs];exact hL
def arcsC (es:List Ed) (role:Int) (n:Nat) (i:Nat) (L:List Nat):List Ev->List (List Nat)->List Mv->Option (List (List Nat) × List Mv)
 | [],S,M=>some (S,M)
 | x::r,S,M=>match cloC es role n (toC es role L x) with
  | none=>none
  | some T=>arcsC es role n i L r (rowCS S T) (M++[⟨i,x.send,x.peer,x.label,(idxF S T:Nat),false⟩])
theorem arcsC_ok {es:List Ed} {role:Int} {n i:Nat} {L:List Nat} (hn:n<=4096) (hes:∀x∈es,0<=x.f/\0<=x.t) (hlt:∀(x:Ev) (j:Nat),clo es role (toC es role L x) j=true->j<n) (hL:Can n L):∀(l:List Ev) (S:List (List Nat)) (M:List Mv) {S':List (List Nat)} {M':List Mv},(∀s∈S,Can n s)->arcsC es role n i L l S M=some (S',M') ->
  arcsF es role i (setOf L) l (S.map setOf) M=(S'.map setOf,M')/\∀s∈S',Can n s
 | [],S,M,S',M',hS,h=>by cases h;exact⟨rfl,hS⟩
 | x::r,S,M,S',M',hS,h=>by
  rw[arcsC] at h;cases hc:cloC es role n (toC es role L x) with
  | none=>rw[hc] at h;cases h
  | some T=>
   rw[hc] at h;replace h:arcsC es role n i L r (rowCS S T) (M++[⟨i,x.send,x.peer,x.label,(idxF S T:Nat),false⟩])=some (S',M'):=h;obtain⟨h1,h2⟩:=cloC_ok hes (hlt x) hc;have h3:=rowS_setOf h1 hS;have:=arcsC_ok hn hes hlt hL r _ _ h3.2 h;rw[arcsF,toL_setOf hL hn,h2,rowI_setOf h1 hS,h3.1];exact this
def viewsCF (es:List Ed) (role:Int) (n:Nat):Nat->Nat->List (List Nat)->List Mv->Option (Option (List (List Nat) × List Mv))
 | 0,_,_,_=>some none
 | f+1,i,S,M=>match S[i]? with
  | none=>some (some (S,M))
  | some L=>match arcsC es role n i L (evsC es role L) S M with
   | none=>none
   | some (S',M')=>if S'.length>200 then some none else viewsCF es role n f (i+1) S' M'
theorem viewsCF_ok {es:List Ed} {role:Int} {n:Nat} (hn:n<=4096) (hes:∀x∈es,0<=x.f/\0<=x.t) (hlt:∀(L:List Nat) (x:Ev) (j:Nat),clo es role (toC es role L x) j=true->j<n):∀(f i:Nat) (S:List (List Nat)) (M:List Mv) {r:Option (List (List Nat) × List Mv)},(∀s∈S,Can n s)->viewsCF es role n f i S M=some r ->
  viewsF es role f i (S.map setOf) M=r.map (fun q=>(q.1.map setOf,q.2))/\∀q,r=some q->∀s∈q.1,Can n s
 | 0,i,S,M,r,_,h=>by cases h;exact⟨rfl,fun q hq=>by cases hq⟩
 | f+1,i,S,M,r,hS,h=>by
  rw[viewsCF] at h;rw[viewsF,Yd];cases hg:S[i]? with
  | none=>
   rw[hg] at h;cases h;exact⟨rfl,fun q hq=>by cases hq;exact hS⟩
  | some L=>
   rw[hg] at h;have hL:=hS L (Yb hg);cases ha:arcsC es role n i L (evsC es role L) S M with
   | none=>simp only[ha] at h;cases h
   | some q=>
    obtain⟨S',M'⟩:=q;simp only[ha] at h;have h1:=arcsC_ok hn hes (hlt L) hL _ S M hS ha;rw[<-evs_setOf hL hn] at h1;show (if (arcsF es role i (setOf L) (evs es role (setOf L)) (S.map setOf) M).1.length>200 then none else viewsF es role f (i+1) (arcsF es role i (setOf L) (evs es role (setOf L)) (S.map setOf) M).1 (arcsF es role i (setOf L) (evs es role (setOf L)) (S.map setOf) M).2)=_/\_;rw[h1.1];simp only[Yc];split
    .rename_i hc;rw[if_pos hc] at h;cases h;exact⟨rfl,fun q hq=>by cases hq⟩
    .rename_i hc;rw[if_neg hc] at h;exact viewsCF_ok hn hes hlt f (i+1) S' M' h1.2 h
theorem viewV_congr {F F':Nat->List Ev} {en en':Nat->Bool} {O:List Bool} {T:List Ti} {l:List Nat} (hF:∀k∈l,F k=F' k) (he:∀k∈l,en k=en' k):viewV F en O T l=viewV F' en' O T l:=by
 have hb:∀k∈l,badV F en l k=badV F' en' l k:=by
  intro k hk;unfold badV;have ha:(l.any fun q=>en q||decide (F k≠F q))=l.any fun q=>en' q||decide (F' k≠F' q):=by
   rw[Bool.eq_iff_iff,List.any_eq_true,List.any_eq_true];constructor
   .rintro⟨q,hq,h⟩;exact⟨q,hq,by rw[<-he q hq,<-hF q hq,<-hF k hk];exact h⟩
   .rintro⟨q,hq,h⟩;exact⟨q,hq,by rw[he q hq,hF q hq,hF k hk];exact h⟩
  rw[ha,hF k hk,he k hk]
 unfold viewV;congr 1
 suffices h:∀(m:List Nat) (st:Option (Bool × Ti)),(∀k∈m,k∈l)->m.foldl (stepV F en O T l) st=m.foldl (stepV F' en' O T l) st from h l _ fun k hk=>hk
 intro m
 induction m with
 | nil=>intro st _;rfl
 | cons a m ih=>
  intro st hs;rw[List.foldl_cons,List.foldl_cons];have:stepV F en O T l st a=stepV F' en' O T l st a:=by unfold stepV;rw[hb a (hs a (Yx ..))]
  rw[this];exact ih _ fun k hk=>hs k (Yn _ hk)
def rawLC (vw:List Nat->Option Ti):Nat->List (List Nat)->List Mv->List To->Option (List Mv × List To)
 | _,[],M,L=>some (M,L)
 | n,p::S,M,L=>match vw p with
  | none=>none
  | some x=>rawLC vw (n+1) S (M.map (updR n x)) (L++limR n x M)
theorem rawLC_ok {vw vw':List Nat->Option Ti} {N:Nat} (hN:N<=4096):∀(n:Nat) (S:List (List Nat)) (M:List Mv) (L:List To),(∀s∈S,Can N s/\vw s=vw' s)->rawL vw n (S.map setOf) M L=rawLC vw' n S M L
 | _,[],_,_,_=>rfl
 | n,p::S,M,L,h=>by
  obtain⟨h1,h2⟩:=h p (Yx ..);rw[Yyl,rawL,rawLC,elems_setOf h1 hN,h2];cases vw' p with
  | none=>rfl
  | some x=>exact rawLC_ok hN (n+1) S _ _ fun s hs=>h s (Yn _ hs)
end Go.VC
end

section
namespace Go.VC
open Go.Proofs Go.LexS
theorem letter221 (b:UInt8) (h:Heap):Fn Pz 221 #[.int .u8 b.toNat] h fun v h'=>v=.bool (lt b)/\h'=h:=by
 apply vc221;unfold W221;unfold lt isLetter;generalize (b.toNat:Int)=n
 repeat' first
  | refine sBi (fun _=>?_) (fun _=>?_)
 all_goals
  refine⟨?_,rfl⟩;congr 1;rw[Bool.eq_iff_iff];simp only[Bool.or_eq_true,Yt,decide_eq_true_eq,Bool.false_eq_true,true_iff,false_iff];omega
theorem digit253 (b:UInt8) (h:Heap):Fn Pz 253 #[.int .u8 b.toNat] h fun v h'=>v=.bool (dg b)/\h'=h:=by
 apply vc253;unfold W253;unfold dg isDigit;refine sBi (fun c=>⟨?_,rfl⟩) (fun c=>⟨?_,rfl⟩)
 .rw[decide_eq_true (p:=(48:Int)<=b.toNat) c,Bool.true_and]
 .rw[decide_eq_false (p:=(48:Int)<=b.toNat) c,Bool.false_and]
theorem inner222 (b:UInt8) (h:Heap):Fn Pz 222 #[.int .u8 b.toNat] h fun v h'=>v=.bool (inn b)/\h'=h:=by
 apply vc222;unfold W222;refine (letter221 b h).mono ?_;rintro _ h3 ⟨rfl,rfl⟩;refine⟨_,rfl,sB_intro (fun c=>?_) (fun c=>?_)⟩
 .exact⟨by rw[show inn b=(lt b||dg b||((b.toNat:Int)==95)) from rfl,c];rfl,rfl⟩
 .refine (digit253 b _).mono ?_;rintro _ h6 ⟨rfl,rfl⟩;refine⟨_,rfl,sB_intro (fun d=>?_) (fun d=>?_)⟩
  .exact⟨by rw[show inn b=(lt b||dg b||((b.toNat:Int)==95)) from rfl,c,d];rfl,rfl⟩
  .exact⟨by rw[show inn b=(lt b||dg b||((b.toNat:Int)==95)) from rfl,c,d];rfl,rfl⟩
theorem isname189 (s:ByteArray) (h:Heap):Fn Pz 189 #[.string s] h fun v h'=>v=.bool (isName s.data.toList)/\h'=h:=by
 apply vc189;unfold W189;have hsz:=size_len s;rw[strEq];generalize hL:s.data.toList=L at *;refine sB_intro (fun he=>?_) (fun he=>?_)
 .have:L=[]:=Yyn he;subst this;exact⟨rfl,rfl⟩
 .have hne:L≠[]:=Yyo he;have hpos:0<L.length:=List.length_pos_iff.2 hne;obtain⟨b,hb,hby⟩:=byte_get (s:=s) (i:=0) (by omega);rw[hL] at hb;have hcons:L=b::L.drop 1:=by have:=drop_cons hb;rwa [List.drop_zero] at this
  have hdef:isName L=(decide (L.length<=16)&&lt b&&L.all inn):=by
   conv=>lhs;rw[hcons]
   rw[isName,<-hcons]
  rw[hdef];refine sB_intro (fun hgt=>?_) (fun hgt=>?_)
  .refine⟨?_,rfl⟩;rw[decide_eq_false (by have:=Yyn hgt;omega)];rfl
  .have h16:L.length<=16:=by have:=Yyo hgt;omega
   rw[decide_eq_true h16];refine⟨⟨by omega,by omega⟩,?_⟩;rw[show Int.toNat 0=0 from rfl,hby];refine (letter221 _ _).mono ?_;rintro v h3 ⟨rfl,rfl⟩;refine⟨_,rfl,sB_intro (fun hlet=>?_) (fun hlet=>?_)⟩
   .refine⟨?_,rfl⟩;rw[show lt b=false from by rw[Bool.not_eq_true'] at hlet;exact hlet];rfl
   .rw[show lt b=true from by rw[Bool.not_eq_false'] at hlet;exact hlet];refine up_loop (n:=s.size) (fun i h'=>h'=h3/\∀(j:Nat) (b:UInt8),j<i->L[j]?=some b->(!inn b)=false) ⟨rfl,fun j b hj=>by omega⟩ ?_;rintro-i h8 hi ⟨rfl,hd⟩;refine sB_intro (fun hlt=>?_) (fun hge=>?_)
    .have hlt':=lt_t hlt;obtain⟨y,hy,hby2⟩:=byte_get hlt';rw[hL] at hy;refine⟨⟨by omega,by omega⟩,?_⟩;rw[show Int.toNat (i:Int)=i from rfl,hby2];refine (inner222 _ _).mono ?_;rintro v h11 ⟨rfl,rfl⟩;refine⟨_,rfl,sB_intro (fun hp=>?_) (fun hp=>?_)⟩
     .refine⟨?_,rfl⟩;have:L.all inn=false:=by
       rw[<-Bool.not_eq_true,all_split];intro hh;have:=hh y i hy;rw[Bool.not_eq_true'] at hp;rw[show inn y=false from hp] at this;cases this
      rw[this];rfl
     .exact Up.next hlt' (by omega) ⟨rfl,scan_next (p:=fun b=>!inn b) hy hp hd⟩
    .have hge':=lt_f hge;refine⟨?_,rfl⟩;rw[(all_split inn L).2 fun b j hb=>by simpa using hd j b (by have:=(Ya.1 hb).1;omega) hb];rfl
theorem index190 (L:List Nm) (x:ByteArray) (s:Sl) (h:Heap) (hr:RL h 1 s nmC L) :
  Fn Pz 190 #[.slice s.a s.n s.c,.string x] h fun v h'=>(∃k:Int,v=.int .i64 k/\decide (k>=0)=decide (x.data.toList∈L))/\h'=h:=by
 apply vc190;unfold W190;have hn:=hr.ln;have hm:=hr.sm;refine up_loop (n:=s.n) (fun i h'=>h'=h/\∀(j:Nat) (y:Nm),j<i->L[j]?=some y->decide (x.data.toList=y)=false) ⟨rfl,fun j y hj=>by omega⟩ ?_;rintro-i h5 hi ⟨rfl,hd⟩;refine sB_intro (fun l=>?_) (fun l=>?_)
 .replace l:=lt_t l;refine hr.rw.nbI (by omega) (by omega) fun b o d g t=>?_;replace g:L[i]?=some d:=g;refine⟨_,t.hd,?_⟩;rw[strEq,bs_list];refine sB_intro (fun he=>?_) (fun hne=>?_)
  .have:=Yyn he;exact⟨⟨_,rfl,by rw[decide_eq_true (show (i:Int)>=0 by omega),decide_eq_true (by rw[this];exact Yb g)]⟩,rfl⟩
  .exact Up.next l (by omega) ⟨rfl,scan_next (p:=fun y=>decide (x.data.toList=y)) g hne hd⟩
 .replace l:=lt_f l;refine⟨⟨_,rfl,?_⟩,rfl⟩;rw[decide_eq_false (show ¬((-1:Int)>=0) by omega),decide_eq_false];intro hm;obtain⟨j,hj⟩:=Yf.1 hm;exact Yyo (hd j _ (by have:=(Ya.1 hj).1;omega) hj) rfl
theorem has133 (L:List Nm) (x:ByteArray) (s:Sl) (h:Heap) (hr:RL h 1 s nmC L) :
  Fn Pz 133 #[.slice s.a s.n s.c,.string x] h fun v h'=>v=.bool (decide (x.data.toList∈L))/\h'=h:=by
 apply vc133;unfold W133;refine (index190 L x s h hr).mono ?_;rintro v h3 ⟨⟨k,rfl,hk⟩,rfl⟩;exact⟨_,rfl,by rw[hk],rfl⟩
theorem own_rl {α:Type} {h:Heap} {b:Nat} {e:TypeId} {k:Nat} {cs:α->List Value} {L:List α} {xs:List Value} (hx:xs=(L.map cs).flatten) (ho:Own h b xs e) (hk:∀x,(cs x).length=k) (hl:L.length<=1048576) {n c:Nat} (hn:n=L.length) (hc:n<=c):RL h k ⟨some ⟨b,0,none⟩,n,c⟩ cs L:=by
 subst hx;refine⟨⟨by rw[Yc];exact hn,fun _=>⟨b,0,rfl,fun i row hi j v hj=>?_⟩⟩,hc,fun e=>by (cases e),hl⟩;have hr:∀r∈L.map cs,r.length=k:=fun r hr=>by obtain⟨x,_,rfl⟩:=Yp.1 hr;exact hk x
 have hjl:=(Ya.1 hj).1;rw[hr row (Yb hi)] at hjl;rw[addk_at,Nat.zero_add,ho.hc,getElem?_flatten _ i j row hr hi hjl];exact hj
theorem isword132 (s:ByteArray) (h:Heap):Fn Pz 132 #[.string s] h fun v h'=>v=.bool (isWord s.data.toList)/\Ext h h':=by
 apply vc132;unfold W132;refine newput (vs:=(keywords.map nmC).flatten) rfl fun h2 E o=>?_;refine (isname189 s h2).mono ?_;rintro _ h5 ⟨rfl,rfl⟩;refine⟨_,rfl,sB_intro (fun c=>?_) (fun c=>?_)⟩
 .refine⟨by decide,?_⟩;refine (has133 keywords s ⟨subA (some ⟨h.size,0,none⟩) (Int.toNat 0) 28 1,Int.toNat (28:Nat)-Int.toNat 0,28-Int.toNat 0⟩ h5 (own_rl rfl o (fun _=>rfl) (by decide) rfl (by decide))).mono ?_;rintro _ h8 ⟨rfl,rfl⟩;exact⟨_,rfl,by rw[show isWord s.data.toList=(isName s.data.toList && !decide (s.data.toList∈keywords)) from rfl,c];rfl,E⟩
 .exact⟨by rw[show isWord s.data.toList=(isName s.data.toList && !decide (s.data.toList∈keywords)) from rfl,c];rfl,E⟩
end Go.VC
end

section
namespace Go.VC
open Go.Proofs Go.LexS
def sideM (x:Mv):Int:=if x.send then 0 else 1
def cmpM (x y:Mv):Int:=orI3 (cmpI x.f y.f) (orI3 (cmpI (sideM x) (sideM y)) (orI3 (cmpI x.peer y.peer) (cmpI x.label y.label)))
theorem cmpM_neg {x y:Mv}:cmpM x y<0 ↔ mvLt x y:=by
 unfold cmpM mvLt evLt orI3 cmpI sideM Mv.ev;obtain⟨f,s,p,l,t,a⟩:=x;obtain⟨f',s',p',l',t',a'⟩:=y;cases s<;>cases s'<;>simp<;>(repeat' split)<;>omega
namespace M
theorem inrows (L:List Int):∀r∈L.map inC,r.length=1:=fun r hr=>by obtain⟨x,_,rfl⟩:=Yp.1 hr;rfl
end M
variable [Mono]
namespace M
theorem nan151 (x:Int) (h:Heap):Fn Pz 151 #[.int .i64 x] h fun v h'=>v=.bool false/\h'=h:=by
 apply vc151;unfold W151;exact⟨by rw[bne_self_eq_false],rfl⟩
theorem cmp110 (x y:Int) (h:Heap):Fn Pz 110 #[.int .i64 x,.int .i64 y] h fun v h'=>v=.int .i64 (cmpI x y)/\h'=h:=by
 apply vc110;unfold W110;refine (nan151 x h).mono ?_;rintro _ _ ⟨rfl,rfl⟩;refine⟨_,rfl,?_⟩;refine (nan151 y _).mono ?_;rintro _ _ ⟨rfl,rfl⟩;refine⟨_,rfl,?_⟩;refine sB_f rfl (sB_f rfl ?_);unfold cmpI;refine sBi (fun c=>?_) (fun c=>sBi (fun d=>?_) (fun d=>?_))
 .exact⟨by rw[if_pos c],rfl⟩
 .exact⟨by rw[if_neg c,if_pos d],rfl⟩
 .exact⟨by rw[if_neg c,if_neg d],rfl⟩
theorem or109 (l:List Int) (s:Sl) (h:Heap) (hr:Rw h 1 s (l.map inC)) (hm:l.length<=1048576) :
  Fn Pz 109 #[.slice s.a s.n s.c] h fun v h'=>v=.int .i64 (l.foldr orI3 0)/\h'=h:=by
 apply vc109;unfold W109;have hn:=hr.ln;refine up_loop (n:=s.n) (fun i h'=>h'=h/\l.foldr orI3 0=(l.drop i).foldr orI3 0) ⟨rfl,rfl⟩ ?_;rintro-i h5 hi ⟨rfl,hq⟩;refine sB_intro (fun l2=>?_) (fun l2=>?_)
 .replace l2:=lt_t l2;refine hr.nbI (by omega) (by omega) fun b o d g t=>?_;replace g:l[i]?=some d:=g;have hd:l.drop i=d::l.drop (i+1):=by
   obtain⟨hl,he⟩:=Ya.1 g;rw[List.drop_eq_getElem_cons hl,he]
  rw[hd,List.foldr_cons] at hq;refine⟨_,t.hd,?_⟩;refine sBn (fun c=>?_) (fun c=>?_)
  .refine⟨?_,rfl⟩;rw[hq];unfold orI3;rw[if_pos c]
  .refine Up.next l2 (by omega) ⟨rfl,?_⟩;rw[hq];unfold orI3;rw[if_neg (by omega)]
 .replace l2:=lt_f l2;rw[List.drop_eq_nil_of_le (by omega)] at hq;exact⟨by rw[hq];rfl,rfl⟩
theorem compare138 (x y:Ev) (h:Heap):Fn Pz 138 #[.agg ⟨x.cs⟩,.agg ⟨y.cs⟩] h fun v h'=>v=.int .i64 (cmpE x y)/\Ext h h':=by
 apply vc138 x.send x.peer x.label y.send y.peer y.label;unfold W138;have hs:=St.refl h;refine hs.newb fun h7 hs=>?_;refine hs.newb fun h8 hs=>?_;refine⟨_,hs.rd 1 rfl rfl,?_⟩;refine⟨_,hs.rd 0 rfl rfl,?_⟩;refine sB_intro (fun c=>?_) (fun c=>?_)
 .have hne:x.send≠y.send:=by simpa using c
  refine⟨_,hs.rd 1 rfl rfl,?_⟩;unfold cmpE;rw[if_pos hne];refine sB_intro (fun d=>?_) (fun d=>?_)
  .exact⟨by rw[if_pos d],hs.ext⟩
  .exact⟨by rw[if_neg (by rw[d];simp)],hs.ext⟩
 .have he:x.send=y.send:=by simpa using c
  refine⟨_,hs.rd 1 rfl rfl,_,hs.rd 0 rfl rfl,_,hs.rd 1 rfl rfl,_,hs.rd 0 rfl rfl,?_⟩;refine (cmp110 _ _ _).mono ?_;rintro _ _ ⟨rfl,rfl⟩;refine⟨_,rfl,fun _ _ _ _ hv=>hv,?_⟩;refine (cmp110 _ _ _).mono ?_;rintro _ _ ⟨rfl,rfl⟩;refine⟨_,rfl,fun _ _ _ _ hv=>hv,?_⟩;refine hs.newb fun h22 hs=>?_;have hs2:=hs.blkS 2 1 ([cmpI x.peer y.peer,cmpI x.label y.label].map inC) rfl (inrows _) rfl (by decide);refine (or109 [cmpI x.peer y.peer,cmpI x.label y.label] _ h22 (hs2.rows 0 rfl (by omega)) (show 2<=1048576 by decide)).mono ?_;rintro _ _ ⟨rfl,rfl⟩;refine⟨_,rfl,?_,hs.ext⟩;unfold cmpE;rw[if_neg (by simpa using he)];show Value.int .i64 (orI3 _ (orI3 _ 0))=_;congr 1;unfold orI3;split
  .rfl
  .split<;>omega
theorem side129 (x:Mv) (h:Heap):Fn Pz 129 #[.agg ⟨x.cs⟩] h fun v h'=>v=.int .i64 (sideM x)/\Ext h h':=by
 apply vc129 x.f x.send x.peer x.label x.t x.ag;unfold W129;have hs:=St.refl h;refine hs.newb fun h7 hs=>?_;refine⟨_,hs.rd 0 rfl rfl,?_⟩;unfold sideM;refine sB_intro (fun c=>?_) (fun c=>?_)
 .exact⟨by rw[if_pos c],hs.ext⟩
 .exact⟨by rw[if_neg (by rw[c];simp)],hs.ext⟩
theorem Sm_ext {al:List Addr} {h h':Heap} (E:Ext h h'):Sm al h h':=fun _ _ _ _ hv=>hc_ext E hv
theorem order73 (x y:Mv) (h:Heap):Fn Pz 73 #[.agg ⟨x.cs⟩,.agg ⟨y.cs⟩] h fun v h'=>v=.int .i64 (cmpM x y)/\Ext h h':=by
 apply vc73 x.f x.send x.peer x.label x.t x.ag y.f y.send y.peer y.label y.t y.ag;unfold W73;have hs:=St.refl h;refine hs.newb fun h13 hs=>?_;refine hs.newb fun h14 hs=>?_;refine⟨_,hs.rd 1 rfl rfl,_,hs.rd 0 rfl rfl,_,_,_,_,_,_,hs.at 1 rfl (o:=0) (n:=6) rfl,_,_,_,_,_,_,hs.at 0 rfl (o:=0) (n:=6) rfl,_,hs.rd 1 rfl rfl,_,hs.rd 0 rfl rfl,_,hs.rd 1 rfl rfl,_,hs.rd 0 rfl rfl,?_⟩;refine (cmp110 _ _ _).mono ?_;rintro _ _ ⟨rfl,rfl⟩;refine⟨_,rfl,fun _ _ _ _ hv=>hv,?_⟩;refine (side129 x _).mono ?_;rintro _ h38 ⟨rfl,E1⟩;refine⟨_,rfl,Sm_ext E1,?_⟩;have hs:=hs.step E1;refine (side129 y _).mono ?_;rintro _ h41 ⟨rfl,E2⟩;refine⟨_,rfl,Sm_ext E2,?_⟩;have hs:=hs.step E2;refine (cmp110 _ _ _).mono ?_;rintro _ _ ⟨rfl,rfl⟩;refine⟨_,rfl,fun _ _ _ _ hv=>hv,?_⟩;refine (cmp110 _ _ _).mono ?_;rintro _ _ ⟨rfl,rfl⟩;refine⟨_,rfl,fun _ _ _ _ hv=>hv,?_⟩;refine (cmp110 _ _ _).mono ?_;rintro _ _ ⟨rfl,rfl⟩;refine⟨_,rfl,fun _ _ _ _ hv=>hv,?_⟩;refine hs.newb fun h51 hs=>?_;have hs2:=hs.blkS 4 1 ([cmpI x.f y.f,cmpI (sideM x) (sideM y),cmpI x.peer y.peer,cmpI x.label y.label].map inC) rfl (inrows _) rfl (by decide);refine (or109 [cmpI x.f y.f,cmpI (sideM x) (sideM y),cmpI x.peer y.peer,cmpI x.label y.label] _ h51 (hs2.rows 0 rfl (by omega)) (show 4<=1048576 by decide)).mono ?_;rintro _ _ ⟨rfl,rfl⟩;refine⟨_,rfl,?_,hs.ext⟩;unfold cmpM;show Value.int .i64 (orI3 _ (orI3 _ (orI3 _ (orI3 _ 0))))=_;congr 3;unfold orI3;split
 .rfl
 .omega
end M
end Go.VC
end
