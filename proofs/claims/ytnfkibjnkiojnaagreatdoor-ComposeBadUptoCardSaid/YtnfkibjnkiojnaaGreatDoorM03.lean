/- WkVcA UkVcA UkVcJ TkVcA. -/
import Derived.Test.YtnfkibjnkiojnaaGreatDoorM02
import Derived.Test.YtnfkibjnkiojnaaGreatDoorProg
import Derived.KernelRfl
import Derived.Test.YtnfkibjnkiojnaaGreatDoorM01
set_option linter.unusedVariables false
set_option linter.unusedSimpArgs false
set_option maxRecDepth 100000

section
namespace Go.VC
open Go.Proofs

def W22 (p0:Sl) (h:Heap) (R:Value->Heap->Prop):Prop:=
 (Wn h [vS p0] 22 fun h1=>
 (∃ x2,rS h1 (aS h 0) x2 /\
 (sB (decide ((x2.n:Int)<1))
 (R (.bool false) h1)
 ((∃ x3,rS h1 (aS h 0) x3 /\
 (sB (decide ((x3.n:Int) > 6))
 (R (.bool false) h1)
 ((∃ x4,rS h1 (aS h 0) x4 /\
 (QI 0 h1 fun I5 x_8 h9 m7=>(
 (sB (decide (x_8<(x4.n:Int)))
 ((NB x4.a fun b10 o11=>(Ib x_8 x4.n /\
 (∃ x12 x13 x14 x15 x16 x17,aL1 h9 ⟨b10,o11+Int.toNat x_8*6,none⟩ x12 x13 x14 x15 x16 x17 /\
 (Wn h9 [vI 0,vI 0,vI 0,.slice none 0 0,.slice none 0 0,.slice none 0 0] 55 fun h18=>
 (Wp h18 (aS h9 0) 6 (L1 x12 x13 x14 x15 x16 x17) fun h19=>
 (∃ x20,rI h19 (aS h9 0) x20 /\
 (sB (x20 != x_8)
 (R (.bool false) h19)
 ((∃ x21 x22 x23 x24 x25 x26,aL1 h19 (aS h9 0) x21 x22 x23 x24 x25 x26 /\
 (Fn Pz 49 #[.agg ⟨(L1 x21 x22 x23 x24 x25 x26)⟩] h19
 (fun v27 h29=>∃ x28,iB v27 x28 /\
 (sB (!x28)
 (R (.bool false) h29)
 ((∃ x30,rS h29 (aS h9 4) x30 /\
 (Fn Pz 50 #[vS x30,.func (.func 51) #[] #[.pointer (some (aS h 0))]] h29
 (fun v31 h33=>∃ x32,iB v31 x32 /\
 (sB x32
 (R (.bool false) h33)
 ((∃ m34,m34<m7/\I5 (IntKind.wrap .i64 (x_8+1)) h33 m34))))))))))))))))))))
 (R (.bool true) h9))))))))))))
theorem vc22 (p0:Sl) (h:Heap) (R:Value->Heap->Prop) (H:W22 p0 h R):Fn Pz 22 #[vS p0] h R:=fnI (A:=(.s .z (.s .z (.s (.s .z (.b (.l [(15,.one (.int .i64))] .z))) .z)))) (by kernel_rfl) H

def W50 (p0:Sl) (p1:FuncId) (p1c:Option Addr) (h:Heap) (R:Value->Heap->Prop):Prop:=
 (Fn Pz 85 #[vS p0,.func (.func p1) #[] #[.pointer p1c]] h
 (fun v1 h3=>∃ x2,iI v1 x2 /\
 R (.bool (decide (x2 >= 0))) h3))
theorem vc50 (p0:Sl) (p1:FuncId) (p1c:Option Addr) (h:Heap) (R:Value->Heap->Prop) (H:W50 p0 p1 p1c h R):Fn Pz 50 #[vS p0,.func (.func p1) #[] #[.pointer p1c]] h R:=fnI (A:=.z) (by kernel_rfl) H

def W85 (p0:Sl) (p1:FuncId) (p1c:Option Addr) (h:Heap) (R:Value->Heap->Prop):Prop:=
 (QI 0 h fun I1 x_4 h5 m3=>(
 (sB (decide (x_4<(p0.n:Int)))
 ((NB p0.a fun b6 o7=>(Ib x_4 p0.n /\
 (∃ x8 x9 x10 x11 x12 x13,aL0 h5 ⟨b6,o7+Int.toNat x_4*6,none⟩ x8 x9 x10 x11 x12 x13 /\
 (bif callable Pz p1 then Fn Pz p1 #[.agg ⟨(L0 x8 x9 x10 x11 x12 x13)⟩,.pointer p1c] h5
 (fun v14 h16=>∃ x15,iB v14 x15 /\
 (sB x15
 (R (vI x_4) h16)
 ((∃ m17,m17<m3/\I1 (IntKind.wrap .i64 (x_4+1)) h16 m17)))) else ExtW Pz p1 #[.agg ⟨(L0 x8 x9 x10 x11 x12 x13)⟩,.pointer p1c] h5
 (fun v14 h16=>∃ x15,iB v14 x15 /\
 (sB x15
 (R (vI x_4) h16)
 ((∃ m17,m17<m3/\I1 (IntKind.wrap .i64 (x_4+1)) h16 m17)))))))))
 (R (vI (-1)) h5))))
theorem vc85 (p0:Sl) (p1:FuncId) (p1c:Option Addr) (h:Heap) (R:Value->Heap->Prop) (H:W85 p0 p1 p1c h R):Fn Pz 85 #[vS p0,.func (.func p1) #[] #[.pointer p1c]] h R:=fnI (A:=(.s .z (.s (.s .z (.b (.l [(8,.one (.int .i64))] .z))) .z))) (by kernel_rfl) H

def W51 (p0_1:Int) (p0_2:Bool) (p0_3 p0_4 p0_5:Int) (p0_6:Bool) (c0:Addr) (h:Heap) (R:Value->Heap->Prop):Prop:=
 (Wn h (L0 p0_1 p0_2 p0_3 p0_4 p0_5 p0_6) 108 fun h7=>
 (∃ x8,rI h7 (aS h 2) x8 /\
 (∃ x9,rS h7 c0 x9 /\
 R (.bool (decide (x8 >= (x9.n:Int)))) h7)))
theorem vc51 (p0_1:Int) (p0_2:Bool) (p0_3 p0_4 p0_5:Int) (p0_6:Bool) (c0:Addr) (h:Heap) (R:Value->Heap->Prop) (H:W51 p0_1 p0_2 p0_3 p0_4 p0_5 p0_6 c0 h R):Fn Pz 51 #[.agg ⟨(L0 p0_1 p0_2 p0_3 p0_4 p0_5 p0_6)⟩,.pointer (some c0)] h R:=fnI (A:=.z) (by kernel_rfl) H

def W53 (p0:Int) (h:Heap) (R:Value->Heap->Prop):Prop:=
 (sB (decide (p0 >= 1))
 (R (.bool (decide (p0<=4))) h)
 (R (.bool false) h))
theorem vc53 (p0:Int) (h:Heap) (R:Value->Heap->Prop) (H:W53 p0 h R):Fn Pz 53 #[vI p0] h R:=fnI (A:=.z) (by kernel_rfl) H

def W24 (p0:Sl) (p1:Int) (p2_1 p2_2:Sl) (h:Heap) (R:Value->Heap->Prop):Prop:=
 (Wn h [vS p2_1,vS p2_2] 29 fun h3=>
 (Fn Pz 22 #[vS p0] h3
 (fun v4 h6=>∃ x5,iB v4 x5 /\
 (sB x5
 ((Fn Pz 53 #[vI p1] h6
 (fun v7 h9=>∃ x8,iB v7 x8 /\
 (sB x8
 ((∃ (x10 x11:Sl),atC h9 (aS h 0) [vS x10,vS x11] /\
 (Fn Pz 54 #[vS p0,vI p1,.agg ⟨[vS x10,vS x11]⟩] h9
 (fun v12 h14=>∃ x13,iB v12 x13 /\
 R (.bool x13) h14))))
 (R (.bool false) h9)))))
 (R (.bool false) h6)))))
theorem vc24 (p0:Sl) (p1:Int) (p2_1 p2_2:Sl) (h:Heap) (R:Value->Heap->Prop) (H:W24 p0 p1 p2_1 p2_2 h R):Fn Pz 24 #[vS p0,vI p1,.agg ⟨[vS p2_1,vS p2_2]⟩] h R:=fnI (A:=.z) (by kernel_rfl) H

def W54 (p0:Sl) (p1:Int) (p2_1 p2_2:Sl) (h:Heap) (R:Value->Heap->Prop):Prop:=
 (Wn h [vS p2_1,vS p2_2] 29 fun h3=>
 (∃ x4,rS h3 (aS h 0) x4 /\
 (sB ((x4.n:Int) != (p0.n:Int))
 (R (.bool false) h3)
 ((∃ x5,rS h3 (aS h 1) x5 /\
 (sB ((x5.n:Int) != (IntKind.wrap .i64 ((p0.n:Int)*(p0.n:Int))))
 (R (.bool false) h3)
 ((∃ x6,rS h3 (aS h 0) x6 /\
 (QI 0 h3 fun I7 x_10 h11 m9=>(
 (sB (decide (x_10<(x6.n:Int)))
 ((NB x6.a fun b12 o13=>(Ib x_10 x6.n /\
 (∃ x14,rI h11 ⟨b12,o13+Int.toNat x_10*1,none⟩ x14 /\
 (sB (decide (x14<0))
 (R (.bool false) h11)
 ((NB p0.a fun b15 o16=>(Ib x_10 p0.n /\
 (∃ x17,rI h11 ⟨b15,o16+Int.toNat x_10*6+1,none⟩ x17 /\
 (sB (decide (x14 >= x17))
 (R (.bool false) h11)
 ((∃ m18,m18<m9/\I7 (IntKind.wrap .i64 (x_10+1)) h11 m18))))))))))))
 ((∃ x19,rS h11 (aS h 1) x19 /\
 (QI 0 h11 fun I20 x_23 h24 m22=>(
 (sB (decide (x_23<(x19.n:Int)))
 ((NB x19.a fun b25 o26=>(Ib x_23 x19.n /\
 (∃ x27,rS h24 ⟨b25,o26+Int.toNat x_23*1,none⟩ x27 /\
 (sB (decide ((x27.n:Int) > p1))
 (R (.bool false) h24)
 (((p0.n:Int) ≠ 0/\((p0.n:Int) ≠ 0/\(sB ((IntKind.wrap .i64 (Int.tdiv x_23 (p0.n:Int))) == (Int.tmod x_23 (p0.n:Int)))
 ((sB (decide ((x27.n:Int) > 0))
 (R (.bool false) h24)
 ((Fn Pz 90 #[vS x27,.func (.func 91) #[] #[]] h24
 (fun v28 h30=>∃ x29,iB v28 x29 /\
 (sB x29
 (R (.bool false) h30)
 ((∃ m31,m31<m22/\I20 (IntKind.wrap .i64 (x_23+1)) h30 m31))))))))
 ((Fn Pz 90 #[vS x27,.func (.func 91) #[] #[]] h24
 (fun v32 h34=>∃ x33,iB v32 x33 /\
 (sB x33
 (R (.bool false) h34)
 ((∃ m35,m35<m22/\I20 (IntKind.wrap .i64 (x_23+1)) h34 m35)))))))))))))))
 (R (.bool true) h24)))))))))))))))))
theorem vc54 (p0:Sl) (p1:Int) (p2_1 p2_2:Sl) (h:Heap) (R:Value->Heap->Prop) (H:W54 p0 p1 p2_1 p2_2 h R):Fn Pz 54 #[vS p0,vI p1,.agg ⟨[vS p2_1,vS p2_2]⟩] h R:=fnI (A:=(.s .z (.s .z (.s .z (.s (.s .z (.b (.l [(31,.one (.int .i64))] .z))) (.s (.s .z (.b (.l [(51,.one (.int .i64))] .z))) .z)))))) (by kernel_rfl) H

def W90 (p0:Sl) (p1:FuncId) (h:Heap) (R:Value->Heap->Prop):Prop:=
 (Fn Pz 130 #[vS p0,.func (.func p1) #[] #[]] h
 (fun v1 h3=>∃ x2,iI v1 x2 /\
 R (.bool (decide (x2 >= 0))) h3))
theorem vc90 (p0:Sl) (p1:FuncId) (h:Heap) (R:Value->Heap->Prop) (H:W90 p0 p1 h R):Fn Pz 90 #[vS p0,.func (.func p1) #[] #[]] h R:=fnI (A:=.z) (by kernel_rfl) H

def W130 (p0:Sl) (p1:FuncId) (h:Heap) (R:Value->Heap->Prop):Prop:=
 (QI 0 h fun I1 x_4 h5 m3=>(
 (sB (decide (x_4<(p0.n:Int)))
 ((NB p0.a fun b6 o7=>(Ib x_4 p0.n /\
 (∃ x8,rI h5 ⟨b6,o7+Int.toNat x_4*1,none⟩ x8 /\
 (bif callable Pz p1 then Fn Pz p1 #[vI x8] h5
 (fun v9 h11=>∃ x10,iB v9 x10 /\
 (sB x10
 (R (vI x_4) h11)
 ((∃ m12,m12<m3/\I1 (IntKind.wrap .i64 (x_4+1)) h11 m12)))) else ExtW Pz p1 #[vI x8] h5
 (fun v9 h11=>∃ x10,iB v9 x10 /\
 (sB x10
 (R (vI x_4) h11)
 ((∃ m12,m12<m3/\I1 (IntKind.wrap .i64 (x_4+1)) h11 m12)))))))))
 (R (vI (-1)) h5))))
theorem vc130 (p0:Sl) (p1:FuncId) (h:Heap) (R:Value->Heap->Prop) (H:W130 p0 p1 h R):Fn Pz 130 #[vS p0,.func (.func p1) #[] #[]] h R:=fnI (A:=(.s .z (.s (.s .z (.b (.l [(8,.one (.int .i64))] .z))) .z))) (by kernel_rfl) H

def W91 (p0:Int) (h:Heap) (R:Value->Heap->Prop):Prop:=
 (sB (decide (p0<0))
 (R (.bool true) h)
 (R (.bool (decide (p0 >= 40))) h))
theorem vc91 (p0:Int) (h:Heap) (R:Value->Heap->Prop) (H:W91 p0 h R):Fn Pz 91 #[vI p0] h R:=fnI (A:=.z) (by kernel_rfl) H

def W14 (p0:Sl) (h:Heap) (R:Value->Heap->Prop):Prop:=
 (Wn h [.slice none 0 0,.slice none 0 0] 29 fun h1=>
 (Fn Pz 22 #[vS p0] h1
 (fun v2 h4=>∃ x3,iB v2 x3 /\
 (sB (!x3)
 ((Wp h4 (aS h 0) 2 [.slice none 0 0,.slice none 0 0] fun h5=>
 (∃ (x6 x7:Sl),atC h5 (aS h 0) [vS x6,vS x7] /\
 R (.tuple ⟨[.agg ⟨[vS x6,vS x7]⟩,vI 1]⟩) h5)))
 ((((0:Int)<=(IntKind.wrap .i64 ((p0.n:Int)*(p0.n:Int)))/\((IntKind.wrap .i64 ((p0.n:Int)*(p0.n:Int))):Int)<=(IntKind.wrap .i64 ((p0.n:Int)*(p0.n:Int)))/\((24:Nat):Int)*(IntKind.wrap .i64 ((p0.n:Int)*(p0.n:Int)))<=140737488355328)/\Wn h4 (madeL Pz 23 (Int.toNat (IntKind.wrap .i64 ((p0.n:Int)*(p0.n:Int))))) 23 fun h8=>
 (Wn h8 [.slice none 0 0,.slice none 0 0] 29 fun h9=>
 (Wp h9 (aS h8 0) 2 [.slice none 0 0,.slice (some (aS h4 0)) (Int.toNat (IntKind.wrap .i64 ((p0.n:Int)*(p0.n:Int)))) (Int.toNat (IntKind.wrap .i64 ((p0.n:Int)*(p0.n:Int))))] fun h10=>
 (QI 0 h10 fun I11 x_14 h15 m13=>(
 (sB (decide (x_14<(p0.n:Int)))
 ((NB p0.a fun b16 o17=>(Ib x_14 p0.n /\
 (∃ x18 x19 x20 x21 x22 x23,aL1 h15 ⟨b16,o17+Int.toNat x_14*6,none⟩ x18 x19 x20 x21 x22 x23 /\
 (Wn h15 [vI 0,vI 0,vI 0,.slice none 0 0,.slice none 0 0,.slice none 0 0] 55 fun h24=>
 (Wp h24 (aS h15 0) 6 (L1 x18 x19 x20 x21 x22 x23) fun h25=>
 (∃ x26,rS h25 (aS h8 0) x26 /\
 (∃ x27,rI h25 (aS h15 2) x27 /\
 (Wn h25 [vI x27] 3 fun h28=>
 (App Pz 23 23 (vS x26) (.slice (some (aS h25 0)) 1 1) h28 fun s29 h30=>
 (Wp h30 (aS h8 0) 1 [vS s29] fun h31=>
 (∃ m32,m32<m13/\I11 (IntKind.wrap .i64 (x_14+1)) h31 m32))))))))))))
 ((∃ (x33 x34:Sl),atC h15 (aS h8 0) [vS x33,vS x34] /\
 (Wp h15 (aS h 0) 2 [vS x33,vS x34] fun h35=>
 (∃ (x36 x37:Sl),atC h35 (aS h 0) [vS x36,vS x37] /\
 R (.tuple ⟨[.agg ⟨[vS x36,vS x37]⟩,vI 0]⟩) h35)))))))))))))))
theorem vc14 (p0:Sl) (h:Heap) (R:Value->Heap->Prop) (H:W14 p0 h R):Fn Pz 14 #[vS p0] h R:=fnI (A:=(.s .z (.s .z (.s .z (.s (.s .z (.b (.l [(20,.one (.int .i64))] .z))) .z))))) (by kernel_rfl) H

end Go.VC
end

section
namespace Go.VC
open Go.Proofs

def W174 (p0_1:Int) (p0_2:Bool) (p0_3 p0_4 p0_5:Int) (p0_6:Bool) (h:Heap) (R:Value->Heap->Prop):Prop:=
 (Wn h (L0 p0_1 p0_2 p0_3 p0_4 p0_5 p0_6) 108 fun h7=>
 (Wn h7 [.bool false,vI 0,vI 0] 251 fun h8=>
 (∃ x9,rB h8 (aS h 1) x9 /\
 (∃ x10,rI h8 (aS h 2) x10 /\
 (∃ x11,rI h8 (aS h 3) x11 /\
 (Wp h8 (aS h7 0) 3 (L3 x9 x10 x11) fun h12=>
 (∃ x13 x14 x15,aL3 h12 (aS h7 0) x13 x14 x15 /\
 R (.agg ⟨(L3 x13 x14 x15)⟩) h12)))))))
theorem vc174 (p0_1:Int) (p0_2:Bool) (p0_3 p0_4 p0_5:Int) (p0_6:Bool) (h:Heap) (R:Value->Heap->Prop) (H:W174 p0_1 p0_2 p0_3 p0_4 p0_5 p0_6 h R):Fn Pz 174 #[.agg ⟨(L0 p0_1 p0_2 p0_3 p0_4 p0_5 p0_6)⟩] h R:=fnI (A:=.z) (by kernel_rfl) H

def W175 (p0_1:Bool) (p0_2 p0_3:Int) (p1_4:Bool) (p1_5 p1_6:Int) (h:Heap) (R:Value->Heap->Prop):Prop:=
 (Wn h (L3 p0_1 p0_2 p0_3) 251 fun h7=>
 (Wn h7 (L3 p1_4 p1_5 p1_6) 251 fun h8=>
 (∃ x9,rB h8 (aS h 0) x9 /\
 (∃ x10,rB h8 (aS h7 0) x10 /\
 (sB (!(x9 == x10))
 ((∃ x11,rB h8 (aS h 0) x11 /\
 (sB x11
 (R (vI (-1)) h8)
 (R (vI 1) h8))))
 ((∃ x12,rI h8 (aS h 1) x12 /\
 (∃ x13,rI h8 (aS h7 1) x13 /\
 (∃ x14,rI h8 (aS h 2) x14 /\
 (∃ x15,rI h8 (aS h7 2) x15 /\
 (Fn Pz 120 #[vI x12,vI x13] h8
 (fun v16 h18=>∃ x17,iI v16 x17 /\
 (Sm [(aS h7 2),(aS h 2)] h8 h18 /\
 (Fn Pz 120 #[vI x14,vI x15] h18
 (fun v19 h21=>∃ x20,iI v19 x20 /\
 (Sm [(aS h7 1),(aS h 1)] h18 h21 /\
 (Wn h21 [vI x17,vI x20] 3 fun h22=>
 (Fn Pz 119 #[.slice (some (aS h21 0)) 2 2] h22
 (fun v23 h25=>∃ x24,iI v23 x24 /\
 R (vI x24) h25)))))))))))))))))))
theorem vc175 (p0_1:Bool) (p0_2 p0_3:Int) (p1_4:Bool) (p1_5 p1_6:Int) (h:Heap) (R:Value->Heap->Prop) (H:W175 p0_1 p0_2 p0_3 p1_4 p1_5 p1_6 h R):Fn Pz 175 #[.agg ⟨(L3 p0_1 p0_2 p0_3)⟩,.agg ⟨(L3 p1_4 p1_5 p1_6)⟩] h R:=fnI (A:=.z) (by kernel_rfl) H

def W171 (p0_1 p0_2 p0_3:Int) (p0_4 p0_5 p0_6:Sl) (p1:Int) (h:Heap) (R:Value->Heap->Prop):Prop:=
 (Wn h (L1 p0_1 p0_2 p0_3 p0_4 p0_5 p0_6) 55 fun h7=>
 (sB (decide (p1 >= 0))
 ((∃ x8,rI h7 (aS h 1) x8 /\
 R (.bool (decide (p1<x8))) h7))
 (R (.bool false) h7)))
theorem vc171 (p0_1 p0_2 p0_3:Int) (p0_4 p0_5 p0_6:Sl) (p1:Int) (h:Heap) (R:Value->Heap->Prop) (H:W171 p0_1 p0_2 p0_3 p0_4 p0_5 p0_6 p1 h R):Fn Pz 171 #[.agg ⟨(L1 p0_1 p0_2 p0_3 p0_4 p0_5 p0_6)⟩,vI p1] h R:=fnI (A:=.z) (by kernel_rfl) H

def W122 (p0_1 p0_2 p0_3:Int) (p0_4 p0_5 p0_6:Sl) (h:Heap) (R:Value->Heap->Prop):Prop:=
 (Wn h (L1 p0_1 p0_2 p0_3 p0_4 p0_5 p0_6) 55 fun h7=>
 (∃ x8,rI h7 (aS h 0) x8 /\
 (sB (decide (x8<0))
 (R (.bool false) h7)
 ((∃ x9,rI h7 (aS h 0) x9 /\
 (sB (decide (x9 >= 6))
 (R (.bool false) h7)
 ((∃ x10,rI h7 (aS h 1) x10 /\
 (sB (decide (x10<1))
 (R (.bool false) h7)
 ((∃ x11,rI h7 (aS h 1) x11 /\
 (sB (decide (x11 > 200))
 (R (.bool false) h7)
 ((∃ x12 x13 x14 x15 x16 x17,aL1 h7 (aS h 0) x12 x13 x14 x15 x16 x17 /\
 (∃ x18,rI h7 (aS h 2) x18 /\
 (Fn Pz 171 #[.agg ⟨(L1 x12 x13 x14 x15 x16 x17)⟩,vI x18] h7
 (fun v19 h21=>∃ x20,iB v19 x20 /\
 (sB (!x20)
 (R (.bool false) h21)
 ((∃ x22,rS h21 (aS h 3) x22 /\
 (∃ x23,rI h21 (aS h 1) x23 /\
 (sB ((x22.n:Int) != x23)
 (R (.bool false) h21)
 ((∃ x24,rS h21 (aS h 4) x24 /\
 (sB (decide ((x24.n:Int) > 400))
 (R (.bool false) h21)
 ((∃ x25,rS h21 (aS h 4) x25 /\
 (QI 0 h21 fun I26 x_29 h30 m28=>(
 (sB (decide (x_29<(x25.n:Int)))
 ((NB x25.a fun b31 o32=>(Ib x_29 x25.n /\
 (∃ x33 x34 x35 x36 x37 x38,aL0 h30 ⟨b31,o32+Int.toNat x_29*6,none⟩ x33 x34 x35 x36 x37 x38 /\
 (Wn h30 [vI 0,.bool false,vI 0,vI 0,vI 0,.bool false] 108 fun h39=>
 (Wp h39 (aS h30 0) 6 (L0 x33 x34 x35 x36 x37 x38) fun h40=>
 (∃ x41 x42 x43 x44 x45 x46,aL1 h40 (aS h 0) x41 x42 x43 x44 x45 x46 /\
 (∃ x47,rI h40 (aS h30 0) x47 /\
 (Fn Pz 171 #[.agg ⟨(L1 x41 x42 x43 x44 x45 x46)⟩,vI x47] h40
 (fun v48 h50=>∃ x49,iB v48 x49 /\
 (sB (!x49)
 (R (.bool false) h50)
 ((∃ x51 x52 x53 x54 x55 x56,aL1 h50 (aS h 0) x51 x52 x53 x54 x55 x56 /\
 (∃ x57,rI h50 (aS h30 4) x57 /\
 (Fn Pz 171 #[.agg ⟨(L1 x51 x52 x53 x54 x55 x56)⟩,vI x57] h50
 (fun v58 h60=>∃ x59,iB v58 x59 /\
 (sB (!x59)
 (R (.bool false) h60)
 ((∃ x61,rI h60 (aS h30 2) x61 /\
 (sB (decide (x61<0))
 (R (.bool false) h60)
 ((∃ x62,rI h60 (aS h30 2) x62 /\
 (sB (decide (x62 >= 6))
 (R (.bool false) h60)
 ((∃ x63,rI h60 (aS h30 2) x63 /\
 (∃ x64,rI h60 (aS h 0) x64 /\
 (sB (x63 == x64)
 (R (.bool false) h60)
 ((∃ x65,rI h60 (aS h30 3) x65 /\
 (sB (decide (x65<0))
 (R (.bool false) h60)
 ((∃ x66,rI h60 (aS h30 3) x66 /\
 (sB (decide (x66 >= 40))
 (R (.bool false) h60)
 ((∃ m67,m67<m28/\I26 (IntKind.wrap .i64 (x_29+1)) h60 m67)))))))))))))))))))))))))))))))))))
 (R (.bool true) h30)))))))))))))))))))))))))))))))
theorem vc122 (p0_1 p0_2 p0_3:Int) (p0_4 p0_5 p0_6:Sl) (h:Heap) (R:Value->Heap->Prop) (H:W122 p0_1 p0_2 p0_3 p0_4 p0_5 p0_6 h R):Fn Pz 122 #[.agg ⟨(L1 p0_1 p0_2 p0_3 p0_4 p0_5 p0_6)⟩] h R:=fnI (A:=(.s .z (.s .z (.s (.s .z (.b (.l [(47,.one (.int .i64))] .z))) .z)))) (by kernel_rfl) H

def W123 (p0_1 p0_2 p0_3:Int) (p0_4 p0_5 p0_6:Sl) (h:Heap) (R:Value->Heap->Prop):Prop:=
 (Wn h (L1 p0_1 p0_2 p0_3 p0_4 p0_5 p0_6) 55 fun h7=>
 (∃ x8 x9 x10 x11 x12 x13,aL1 h7 (aS h 0) x8 x9 x10 x11 x12 x13 /\
 (∃ x14,rI h7 (aS h 1) x14 /\
 (Mk x14 x14 24/\Wn h7 (madeL Pz 23 (Int.toNat x14)) 23 fun h15=>
 (Sm [(aS h 0)] h7 h15 /\
 (Wn h15 [vI x8,vI x9,vI x10,vS x11,vS x12,vS x13,.slice (some (aS h7 0)) (Int.toNat x14) (Int.toNat x14)] 249 fun h16=>
 (∃ x17,rS h16 (aS h 4) x17 /\
 (QI 0 h16 fun I18 x_21 h22 m20=>(
 (sB (decide (x_21<(x17.n:Int)))
 ((NB x17.a fun b23 o24=>(Ib x_21 x17.n /\
 (∃ x25 x26 x27 x28 x29 x30,aL0 h22 ⟨b23,o24+Int.toNat x_21*6,none⟩ x25 x26 x27 x28 x29 x30 /\
 (Wn h22 [vI 0,.bool false,vI 0,vI 0,vI 0,.bool false] 108 fun h31=>
 (Wp h31 (aS h22 0) 6 (L0 x25 x26 x27 x28 x29 x30) fun h32=>
 (∃ x33,rS h32 (aS h15 6) x33 /\
 (∃ x34,rI h32 (aS h22 0) x34 /\
 (∃ x35,rS h32 (aS h15 6) x35 /\
 (∃ x36,rI h32 (aS h22 0) x36 /\
 (NB x35.a fun b37 o38=>(Ib x36 x35.n /\
 (∃ x39,rS h32 ⟨b37,o38+Int.toNat x36*1,none⟩ x39 /\
 (Wn h32 [vI x_21] 3 fun h40=>
 (Sm [⟨b37,o38+Int.toNat x36*1,none⟩,(aS h22 0),(aS h15 6),(aS h22 0),(aS h15 6)] h32 h40 /\
 (App Pz 23 23 (vS x39) (.slice (some (aS h32 0)) 1 1) h40 fun s41 h42=>
 (Sm [(aS h22 0),(aS h15 6)] h40 h42 /\
 (NB x33.a fun b43 o44=>(Ib x34 x33.n /\
 (Wp h42 ⟨b43,o44+Int.toNat x34*1,none⟩ 1 [vS s41] fun h45=>
 (∃ m46,m46<m20/\I18 (IntKind.wrap .i64 (x_21+1)) h45 m46)))))))))))))))))))))
 ((∃ x47,rS h22 (aS h15 6) x47 /\
 (QI 0 h22 fun I48 x_51 h52 m50=>(
 (sB (decide (x_51<(x47.n:Int)))
 ((NB x47.a fun b53 o54=>(Ib x_51 x47.n /\
 (∃ x55,rS h52 ⟨b53,o54+Int.toNat x_51*1,none⟩ x55 /\
 (Fn Pz 172 #[vS x55,.func (.func 173) #[] #[.pointer (some (aS h 0))]] h52
 (fun v56 h57=>v56=.tuple ⟨[]⟩ /\
 (∃ m58,m58<m50/\I48 (IntKind.wrap .i64 (x_51+1)) h57 m58)))))))
 (R (.pointer (some (aS h15 0))) h52))))))))))))))))
theorem vc123 (p0_1 p0_2 p0_3:Int) (p0_4 p0_5 p0_6:Sl) (h:Heap) (R:Value->Heap->Prop) (H:W123 p0_1 p0_2 p0_3 p0_4 p0_5 p0_6 h R):Fn Pz 123 #[.agg ⟨(L1 p0_1 p0_2 p0_3 p0_4 p0_5 p0_6)⟩] h R:=fnI (A:=(.s .z (.s .z (.s (.s .z (.b (.l [(17,.one (.int .i64))] .z))) (.s (.s .z (.b (.l [(46,.one (.int .i64))] .z))) .z))))) (by kernel_rfl) H

def W173 (p0 p1:Int) (c0:Addr) (h:Heap) (R:Value->Heap->Prop):Prop:=
 (∃ x1,rS h ⟨c0.block,c0.off+4,none⟩ x1 /\
 (NB x1.a fun b2 o3=>(Ib p0 x1.n /\
 (∃ x4 x5 x6 x7 x8 x9,aL0 h ⟨b2,o3+Int.toNat p0*6,none⟩ x4 x5 x6 x7 x8 x9 /\
 (∃ x10,rS h ⟨c0.block,c0.off+4,none⟩ x10 /\
 (NB x10.a fun b11 o12=>(Ib p1 x10.n /\
 (∃ x13 x14 x15 x16 x17 x18,aL0 h ⟨b11,o12+Int.toNat p1*6,none⟩ x13 x14 x15 x16 x17 x18 /\
 (Fn Pz 174 #[.agg ⟨(L0 x4 x5 x6 x7 x8 x9)⟩] h
 (fun v19 h23=>∃ (x20:Bool) (x21 x22:Int),v19=.agg ⟨(L3 x20 x21 x22)⟩ /\
 (Sm [⟨b11,o12+Int.toNat p1*6,none⟩,⟨c0.block,c0.off+4,none⟩] h h23 /\
 (Fn Pz 174 #[.agg ⟨(L0 x13 x14 x15 x16 x17 x18)⟩] h23
 (fun v24 h28=>∃ (x25:Bool) (x26 x27:Int),v24=.agg ⟨(L3 x25 x26 x27)⟩ /\
 (Sm [⟨b2,o3+Int.toNat p0*6,none⟩,⟨c0.block,c0.off+4,none⟩] h23 h28 /\
 (Fn Pz 175 #[.agg ⟨(L3 x20 x21 x22)⟩,.agg ⟨(L3 x25 x26 x27)⟩] h28
 (fun v29 h31=>∃ x30,iI v29 x30 /\
 R (vI x30) h31))))))))))))))))
theorem vc173 (p0 p1:Int) (c0:Addr) (h:Heap) (R:Value->Heap->Prop) (H:W173 p0 p1 c0 h R):Fn Pz 173 #[vI p0,vI p1,.pointer (some c0)] h R:=fnI (A:=.z) (by kernel_rfl) H

def W124 (p0:Addr) (h:Heap) (R:Value->Heap->Prop):Prop:=
 (∃ x1,rS h ⟨p0.block,p0.off+6,none⟩ x1 /\
 (QI 0 h fun I2 x_5 h6 m4=>(
 (sB (decide (x_5<(x1.n:Int)))
 ((NB x1.a fun b7 o8=>(Ib x_5 x1.n /\
 (∃ x9,rS h6 ⟨b7,o8+Int.toNat x_5*1,none⟩ x9 /\
 (QI 1 h6 fun I10 i_13 h14 m12=>(
 (sB (decide (i_13<(x9.n:Int)))
 ((∃ x15,rS h14 ⟨p0.block,p0.off+4,none⟩ x15 /\
 (NB x9.a fun b16 o17=>((0<=((IntKind.wrap .i64 (i_13 - 1)):Int)/\((IntKind.wrap .i64 (i_13 - 1)):Int)<(x9.n:Nat)) /\
 (∃ x18,rI h14 ⟨b16,o17+Int.toNat (IntKind.wrap .i64 (i_13 - 1))*1,none⟩ x18 /\
 (NB x15.a fun b19 o20=>(Ib x18 x15.n /\
 (∃ x21 x22 x23 x24 x25 x26,aL0 h14 ⟨b19,o20+Int.toNat x18*6,none⟩ x21 x22 x23 x24 x25 x26 /\
 (∃ x27,rS h14 ⟨p0.block,p0.off+4,none⟩ x27 /\
 (NB x9.a fun b28 o29=>(Ib i_13 x9.n /\
 (∃ x30,rI h14 ⟨b28,o29+Int.toNat i_13*1,none⟩ x30 /\
 (NB x27.a fun b31 o32=>(Ib x30 x27.n /\
 (∃ x33 x34 x35 x36 x37 x38,aL0 h14 ⟨b31,o32+Int.toNat x30*6,none⟩ x33 x34 x35 x36 x37 x38 /\
 ((Wn h14 [vI 0,.bool false,vI 0,vI 0,vI 0,.bool false] 108 fun h39=>
 (Sm [⟨b31,o32+Int.toNat x30*6,none⟩,⟨b28,o29+Int.toNat i_13*1,none⟩,⟨p0.block,p0.off+4,none⟩,⟨b19,o20+Int.toNat x18*6,none⟩,⟨b16,o17+Int.toNat (IntKind.wrap .i64 (i_13 - 1))*1,none⟩,⟨p0.block,p0.off+4,none⟩] h14 h39 /\
 (Wn h39 [vI 0,.bool false,vI 0,vI 0,vI 0,.bool false] 108 fun h40=>
 (Sm [⟨b31,o32+Int.toNat x30*6,none⟩,⟨b28,o29+Int.toNat i_13*1,none⟩,⟨p0.block,p0.off+4,none⟩,⟨b19,o20+Int.toNat x18*6,none⟩,⟨b16,o17+Int.toNat (IntKind.wrap .i64 (i_13 - 1))*1,none⟩,⟨p0.block,p0.off+4,none⟩] h39 h40 /\
 (Wp h40 (aS h14 0) 6 (L0 x21 x22 x23 x24 x25 x26) fun h41=>
 (Sm [⟨b31,o32+Int.toNat x30*6,none⟩,⟨b28,o29+Int.toNat i_13*1,none⟩,⟨p0.block,p0.off+4,none⟩] h40 h41 /\
 (Wp h41 (aS h39 0) 6 (L0 x33 x34 x35 x36 x37 x38) fun h42=>
 (∃ x43 x44 x45 x46 x47 x48,aL0 h42 (aS h14 0) x43 x44 x45 x46 x47 x48 /\
 (∃ x49 x50 x51 x52 x53 x54,aL0 h42 (aS h39 0) x49 x50 x51 x52 x53 x54 /\
 (Fn Pz 174 #[.agg ⟨(L0 x43 x44 x45 x46 x47 x48)⟩] h42
 (fun v55 h59=>∃ (x56:Bool) (x57 x58:Int),v55=.agg ⟨(L3 x56 x57 x58)⟩ /\
 (Sm [(aS h39 0)] h42 h59 /\
 (Fn Pz 174 #[.agg ⟨(L0 x49 x50 x51 x52 x53 x54)⟩] h59
 (fun v60 h64=>∃ (x61:Bool) (x62 x63:Int),v60=.agg ⟨(L3 x61 x62 x63)⟩ /\
 (Sm [(aS h14 0)] h59 h64 /\
 (sB ((x56 == x61) && ((x57 == x62) && ((x58 == x63) && true)))
 (R (.bool false) h64)
 ((∃ x65,rB h64 (aS h14 1) x65 /\
 (∃ x66,rB h64 (aS h39 1) x66 /\
 (sB (!(x65 == x66))
 (R (.bool false) h64)
 ((∃ m67,m67<m12/\I10 (IntKind.wrap .i64 (i_13+1)) h64 m67)))))))))))))))))))))))/\((Wn h14 [vI 0,.bool false,vI 0,vI 0,vI 0,.bool false] 108 fun h68=>
 (Sm [⟨b31,o32+Int.toNat x30*6,none⟩,⟨b28,o29+Int.toNat i_13*1,none⟩,⟨p0.block,p0.off+4,none⟩,⟨b19,o20+Int.toNat x18*6,none⟩,⟨b16,o17+Int.toNat (IntKind.wrap .i64 (i_13 - 1))*1,none⟩,⟨p0.block,p0.off+4,none⟩] h14 h68 /\
 (Wn h68 [vI 0,.bool false,vI 0,vI 0,vI 0,.bool false] 108 fun h69=>
 (Sm [⟨b31,o32+Int.toNat x30*6,none⟩,⟨b28,o29+Int.toNat i_13*1,none⟩,⟨p0.block,p0.off+4,none⟩,⟨b19,o20+Int.toNat x18*6,none⟩,⟨b16,o17+Int.toNat (IntKind.wrap .i64 (i_13 - 1))*1,none⟩,⟨p0.block,p0.off+4,none⟩] h68 h69 /\
 (Wp h69 (aS h68 0) 6 (L0 x21 x22 x23 x24 x25 x26) fun h70=>
 (Sm [⟨b31,o32+Int.toNat x30*6,none⟩,⟨b28,o29+Int.toNat i_13*1,none⟩,⟨p0.block,p0.off+4,none⟩] h69 h70 /\
 (Wp h70 (aS h14 0) 6 (L0 x33 x34 x35 x36 x37 x38) fun h71=>
 (∃ x72 x73 x74 x75 x76 x77,aL0 h71 (aS h68 0) x72 x73 x74 x75 x76 x77 /\
 (∃ x78 x79 x80 x81 x82 x83,aL0 h71 (aS h14 0) x78 x79 x80 x81 x82 x83 /\
 (Fn Pz 174 #[.agg ⟨(L0 x72 x73 x74 x75 x76 x77)⟩] h71
 (fun v84 h88=>∃ (x85:Bool) (x86 x87:Int),v84=.agg ⟨(L3 x85 x86 x87)⟩ /\
 (Sm [(aS h14 0)] h71 h88 /\
 (Fn Pz 174 #[.agg ⟨(L0 x78 x79 x80 x81 x82 x83)⟩] h88
 (fun v89 h93=>∃ (x90:Bool) (x91 x92:Int),v89=.agg ⟨(L3 x90 x91 x92)⟩ /\
 (Sm [(aS h68 0)] h88 h93 /\
 (sB ((x85 == x90) && ((x86 == x91) && ((x87 == x92) && true)))
 (R (.bool false) h93)
 ((∃ x94,rB h93 (aS h68 1) x94 /\
 (∃ x95,rB h93 (aS h14 1) x95 /\
 (sB (!(x94 == x95))
 (R (.bool false) h93)
 ((∃ m96,m96<m12/\I10 (IntKind.wrap .i64 (i_13+1)) h93 m96))))))))))))))))))))))))))))))))))))))
 ((∃ m97,m97<m4/\I2 (IntKind.wrap .i64 (x_5+1)) h14 m97)))))))))
 (R (.bool true) h6)))))
theorem vc124 (p0:Addr) (h:Heap) (R:Value->Heap->Prop) (H:W124 p0 h R):Fn Pz 124 #[.pointer (some p0)] h R:=fnI (A:=(.s .z (.s (.s .z (.b (.l [(13,.one (.int .i64))] (.s .z (.s .z (.s (.b (.s .z (.s .z (.b (.l [(5,.one (.int .i64))] .z))))) .z)))))) .z))) (by kernel_rfl) H

def W125 (p0:Addr) (h:Heap) (R:Value->Heap->Prop):Prop:=
 (∃ x1,rI h ⟨p0.block,p0.off+1,none⟩ x1 /\
 (Mk x1 x1 1/\Wn h (madeL Pz 4 (Int.toNat x1)) 4 fun h2=>
 (∃ x3,rI h2 ⟨p0.block,p0.off+2,none⟩ x3 /\
 ((0<=(x3:Int)/\(x3:Int)<((Int.toNat x1):Nat)) /\
 (Wp h2 (aS h (0+Int.toNat x3*1)) 1 [.bool true] fun h4=>
 (∃ x5,rI h4 ⟨p0.block,p0.off+2,none⟩ x5 /\
 (Wn h4 [vI x5] 3 fun h6=>
 (QSI ⟨(some (aS h4 0)),1,1⟩ 0 h6 fun I7 todo_10 head_11 h12 m9=>(
 (sB (decide (head_11<(todo_10.n:Int)))
 ((∃ x13,rS h12 ⟨p0.block,p0.off+6,none⟩ x13 /\
 (NB todo_10.a fun b14 o15=>(Ib head_11 todo_10.n /\
 (∃ x16,rI h12 ⟨b14,o15+Int.toNat head_11*1,none⟩ x16 /\
 (NB x13.a fun b17 o18=>(Ib x16 x13.n /\
 (∃ x19,rS h12 ⟨b17,o18+Int.toNat x16*1,none⟩ x19 /\
 (QSI todo_10 0 h12 fun I20 todo_23 x_24 h25 m22=>(
 (sB (decide (x_24<(x19.n:Int)))
 ((NB x19.a fun b26 o27=>(Ib x_24 x19.n /\
 (∃ x28,rI h25 ⟨b26,o27+Int.toNat x_24*1,none⟩ x28 /\
 (∃ x29,rS h25 ⟨p0.block,p0.off+4,none⟩ x29 /\
 (NB x29.a fun b30 o31=>(Ib x28 x29.n /\
 (∃ x32,rI h25 ⟨b30,o31+Int.toNat x28*6+4,none⟩ x32 /\
 ((0<=(x32:Int)/\(x32:Int)<((Int.toNat x1):Nat)) /\
 (∃ x33,rB h25 (aS h (0+Int.toNat x32*1)) x33 /\
 (sB (!x33)
 (((0<=(x32:Int)/\(x32:Int)<((Int.toNat x1):Nat)) /\
 (Wp h25 (aS h (0+Int.toNat x32*1)) 1 [.bool true] fun h34=>
 (Wn h34 [vI x32] 3 fun h35=>
 (App Pz 23 23 (vS todo_23) (.slice (some (aS h34 0)) 1 1) h35 fun s36 h37=>
 (∃ m38,m38<m22/\I20 s36 (IntKind.wrap .i64 (x_24+1)) h37 m38))))))
 ((∃ m39,m39<m22/\I20 todo_23 (IntKind.wrap .i64 (x_24+1)) h25 m39)))))))))))))
 ((∃ m40,m40<m9/\I7 todo_23 (IntKind.wrap .i64 (head_11+1)) h25 m40)))))))))))))
 ((∃ x41,rI h12 ⟨p0.block,p0.off+1,none⟩ x41 /\
 R (.bool ((todo_10.n:Int) == x41)) h12))))))))))))
theorem vc125 (p0:Addr) (h:Heap) (R:Value->Heap->Prop) (H:W125 p0 h R):Fn Pz 125 #[.pointer (some p0)] h R:=fnI (A:=(.s .z (.s .z (.s .z (.s .z (.s (.s .z (.b (.l [(4,.one (.slice)),(5,.one (.int .i64))] (.s .z (.s (.b (.s .z (.b (.l [(4,.one (.slice)),(45,.one (.int .i64))] .z)))) .z))))) .z)))))) (by kernel_rfl) H

def W126 (p0:Addr) (h:Heap) (R:Value->Heap->Prop):Prop:=
 (∃ x1,rS h ⟨p0.block,p0.off+4,none⟩ x1 /\
 (QI 0 h fun I2 x_5 h6 m4=>(
 (sB (decide (x_5<(x1.n:Int)))
 ((NB x1.a fun b7 o8=>(Ib x_5 x1.n /\
 (∃ x9 x10 x11 x12 x13 x14,aL0 h6 ⟨b7,o8+Int.toNat x_5*6,none⟩ x9 x10 x11 x12 x13 x14 /\
 (Wn h6 [vI 0,.bool false,vI 0,vI 0,vI 0,.bool false] 108 fun h15=>
 (Wp h15 (aS h6 0) 6 (L0 x9 x10 x11 x12 x13 x14) fun h16=>
 (∃ x17,rB h16 (aS h6 5) x17 /\
 (sB (!x17)
 ((∃ m18,m18<m4/\I2 (IntKind.wrap .i64 (x_5+1)) h16 m18))
 ((∃ x19,rB h16 (aS h6 1) x19 /\
 (sB (!x19)
 (R (.bool false) h16)
 ((∃ x20,rS h16 ⟨p0.block,p0.off+6,none⟩ x20 /\
 (∃ x21,rI h16 (aS h6 0) x21 /\
 (NB x20.a fun b22 o23=>(Ib x21 x20.n /\
 (∃ x24,rS h16 ⟨b22,o23+Int.toNat x21*1,none⟩ x24 /\
 (sB ((x24.n:Int) != 1)
 (R (.bool false) h16)
 ((∃ x25,rI h16 (aS h6 0) x25 /\
 (∃ x26,rI h16 ⟨p0.block,p0.off+2,none⟩ x26 /\
 (sB (x25 == x26)
 (R (.bool false) h16)
 ((∃ x27,rS h16 ⟨p0.block,p0.off+3,none⟩ x27 /\
 (∃ x28,rI h16 (aS h6 0) x28 /\
 (NB x27.a fun b29 o30=>(Ib x28 x27.n /\
 (∃ x31,rB h16 ⟨b29,o30+Int.toNat x28*1,none⟩ x31 /\
 (sB x31
 (R (.bool false) h16)
 ((∃ x32,rS h16 ⟨p0.block,p0.off+4,none⟩ x32 /\
 (QI 0 h16 fun I33 x_36 h37 m35=>(
 (sB (decide (x_36<(x32.n:Int)))
 ((NB x32.a fun b38 o39=>(Ib x_36 x32.n /\
 (∃ x40 x41 x42 x43 x44 x45,aL0 h37 ⟨b38,o39+Int.toNat x_36*6,none⟩ x40 x41 x42 x43 x44 x45 /\
 (Wn h37 [vI 0,.bool false,vI 0,vI 0,vI 0,.bool false] 108 fun h46=>
 (Wp h46 (aS h37 0) 6 (L0 x40 x41 x42 x43 x44 x45) fun h47=>
 (∃ x48,rI h47 (aS h37 4) x48 /\
 (∃ x49,rI h47 (aS h6 0) x49 /\
 (sB (x48 == x49)
 ((∃ x50,rB h47 (aS h37 1) x50 /\
 (sB (!x50)
 (R (.bool false) h47)
 ((∃ x51,rI h47 (aS h37 3) x51 /\
 (∃ x52,rI h47 (aS h6 3) x52 /\
 (sB (x51 != x52)
 (R (.bool false) h47)
 ((∃ m53,m53<m35/\I33 (IntKind.wrap .i64 (x_36+1)) h47 m53)))))))))
 ((∃ m54,m54<m35/\I33 (IntKind.wrap .i64 (x_36+1)) h47 m54)))))))))))
 ((∃ m55,m55<m4/\I2 (IntKind.wrap .i64 (x_5+1)) h37 m55))))))))))))))))))))))))))))))))))))
 (R (.bool true) h6)))))
theorem vc126 (p0:Addr) (h:Heap) (R:Value->Heap->Prop) (H:W126 p0 h R):Fn Pz 126 #[.pointer (some p0)] h R:=fnI (A:=(.s .z (.s (.s .z (.b (.l [(13,.one (.int .i64))] (.s .z (.s .z (.s (.b (.s .z (.s .z (.s .z (.s .z (.b (.l [(62,.one (.int .i64))] .z))))))) .z)))))) .z))) (by kernel_rfl) H

def W127 (p0:Addr) (h:Heap) (R:Value->Heap->Prop):Prop:=
 (∃ x1,rS h ⟨p0.block,p0.off+5,none⟩ x1 /\
 (QI 0 h fun I2 x_5 h6 m4=>(
 (sB (decide (x_5<(x1.n:Int)))
 ((NB x1.a fun b7 o8=>(Ib x_5 x1.n /\
 (∃ x9 x10 x11,aL4 h6 ⟨b7,o8+Int.toNat x_5*3,none⟩ x9 x10 x11 /\
 (Wn h6 [vI 0,vI 0,vI 0] 190 fun h12=>
 (Wp h12 (aS h6 0) 3 (L4 x9 x10 x11) fun h13=>
 (sB (decide (x_5 > 0))
 ((∃ x14,rS h13 ⟨p0.block,p0.off+5,none⟩ x14 /\
 (NB x14.a fun b15 o16=>((0<=((IntKind.wrap .i64 (x_5 - 1)):Int)/\((IntKind.wrap .i64 (x_5 - 1)):Int)<(x14.n:Nat)) /\
 (∃ x17,rI h13 ⟨b15,o16+Int.toNat (IntKind.wrap .i64 (x_5 - 1))*3,none⟩ x17 /\
 (∃ x18,rI h13 (aS h6 0) x18 /\
 (sB (decide (x17 >= x18))
 (R (.bool false) h13)
 ((∃ x19,rI h13 (aS h6 1) x19 /\
 (sB (decide (x19<1))
 (R (.bool false) h13)
 ((∃ x20,rI h13 (aS h6 1) x20 /\
 (sB (decide (x20 > 1000))
 (R (.bool false) h13)
 ((∃ x21,rI h13 (aS h6 2) x21 /\
 (sB (decide (x21<0))
 (R (.bool false) h13)
 ((∃ x22,rI h13 (aS h6 2) x22 /\
 (∃ x23,rS h13 ⟨p0.block,p0.off+4,none⟩ x23 /\
 (sB (decide (x22 >= (x23.n:Int)))
 (R (.bool false) h13)
 ((∃ x24,rS h13 ⟨p0.block,p0.off+4,none⟩ x24 /\
 (∃ x25,rI h13 (aS h6 2) x25 /\
 (NB x24.a fun b26 o27=>(Ib x25 x24.n /\
 (∃ x28 x29 x30 x31 x32 x33,aL0 h13 ⟨b26,o27+Int.toNat x25*6,none⟩ x28 x29 x30 x31 x32 x33 /\
 (Wn h13 [vI 0,.bool false,vI 0,vI 0,vI 0,.bool false] 108 fun h34=>
 (Sm [⟨b26,o27+Int.toNat x25*6,none⟩,(aS h6 2),⟨p0.block,p0.off+4,none⟩] h13 h34 /\
 (Wp h34 (aS h13 0) 6 (L0 x28 x29 x30 x31 x32 x33) fun h35=>
 (∃ x36,rI h35 (aS h13 0) x36 /\
 (∃ x37,rI h35 (aS h6 0) x37 /\
 (sB (x36 != x37)
 (R (.bool false) h35)
 ((∃ x38,rB h35 (aS h13 1) x38 /\
 (sB (!x38)
 (R (.bool false) h35)
 ((∃ x39,rB h35 (aS h13 5) x39 /\
 (sB x39
 (R (.bool false) h35)
 ((∃ m40,m40<m4/\I2 (IntKind.wrap .i64 (x_5+1)) h35 m40))))))))))))))))))))))))))))))))))))))))
 ((∃ x41,rI h13 (aS h6 1) x41 /\
 (sB (decide (x41<1))
 (R (.bool false) h13)
 ((∃ x42,rI h13 (aS h6 1) x42 /\
 (sB (decide (x42 > 1000))
 (R (.bool false) h13)
 ((∃ x43,rI h13 (aS h6 2) x43 /\
 (sB (decide (x43<0))
 (R (.bool false) h13)
 ((∃ x44,rI h13 (aS h6 2) x44 /\
 (∃ x45,rS h13 ⟨p0.block,p0.off+4,none⟩ x45 /\
 (sB (decide (x44 >= (x45.n:Int)))
 (R (.bool false) h13)
 ((∃ x46,rS h13 ⟨p0.block,p0.off+4,none⟩ x46 /\
 (∃ x47,rI h13 (aS h6 2) x47 /\
 (NB x46.a fun b48 o49=>(Ib x47 x46.n /\
 (∃ x50 x51 x52 x53 x54 x55,aL0 h13 ⟨b48,o49+Int.toNat x47*6,none⟩ x50 x51 x52 x53 x54 x55 /\
 (Wn h13 [vI 0,.bool false,vI 0,vI 0,vI 0,.bool false] 108 fun h56=>
 (Sm [⟨b48,o49+Int.toNat x47*6,none⟩,(aS h6 2),⟨p0.block,p0.off+4,none⟩] h13 h56 /\
 (Wp h56 (aS h13 0) 6 (L0 x50 x51 x52 x53 x54 x55) fun h57=>
 (∃ x58,rI h57 (aS h13 0) x58 /\
 (∃ x59,rI h57 (aS h6 0) x59 /\
 (sB (x58 != x59)
 (R (.bool false) h57)
 ((∃ x60,rB h57 (aS h13 1) x60 /\
 (sB (!x60)
 (R (.bool false) h57)
 ((∃ x61,rB h57 (aS h13 5) x61 /\
 (sB x61
 (R (.bool false) h57)
 ((∃ m62,m62<m4/\I2 (IntKind.wrap .i64 (x_5+1)) h57 m62))))))))))))))))))))))))))))))))))))))))
 (R (.bool true) h6)))))
theorem vc127 (p0:Addr) (h:Heap) (R:Value->Heap->Prop) (H:W127 p0 h R):Fn Pz 127 #[.pointer (some p0)] h R:=fnI (A:=(.s .z (.s (.s .z (.b (.l [(12,.one (.int .i64))] .z))) .z))) (by kernel_rfl) H

def W84 (p0_1 p0_2 p0_3:Int) (p0_4 p0_5 p0_6:Sl) (h:Heap) (R:Value->Heap->Prop):Prop:=
 (Wn h (L1 p0_1 p0_2 p0_3 p0_4 p0_5 p0_6) 55 fun h7=>
 (∃ x8 x9 x10 x11 x12 x13,aL1 h7 (aS h 0) x8 x9 x10 x11 x12 x13 /\
 (Fn Pz 122 #[.agg ⟨(L1 x8 x9 x10 x11 x12 x13)⟩] h7
 (fun v14 h16=>∃ x15,iB v14 x15 /\
 (sB (!x15)
 (R (.tuple ⟨[.pointer none,.bool false]⟩) h16)
 ((∃ x17 x18 x19 x20 x21 x22,aL1 h16 (aS h 0) x17 x18 x19 x20 x21 x22 /\
 (Fn Pz 123 #[.agg ⟨(L1 x17 x18 x19 x20 x21 x22)⟩] h16
 (fun v23 h25=>∃ x24:Option Addr,v23=.pointer x24 /\
 (Fn Pz 124 #[.pointer x24] h25
 (fun v26 h28=>∃ x27,iB v26 x27 /\
 (sB x27
 ((Fn Pz 125 #[.pointer x24] h28
 (fun v29 h31=>∃ x30,iB v29 x30 /\
 (sB x30
 ((Fn Pz 126 #[.pointer x24] h31
 (fun v32 h34=>∃ x33,iB v32 x33 /\
 (sB x33
 ((Fn Pz 127 #[.pointer x24] h34
 (fun v35 h37=>∃ x36,iB v35 x36 /\
 R (.tuple ⟨[.pointer x24,.bool x36]⟩) h37)))
 (R (.tuple ⟨[.pointer x24,.bool false]⟩) h34)))))
 (R (.tuple ⟨[.pointer x24,.bool false]⟩) h31)))))
 (R (.tuple ⟨[.pointer x24,.bool false]⟩) h28)))))))))))))
theorem vc84 (p0_1 p0_2 p0_3:Int) (p0_4 p0_5 p0_6:Sl) (h:Heap) (R:Value->Heap->Prop) (H:W84 p0_1 p0_2 p0_3 p0_4 p0_5 p0_6 h R):Fn Pz 84 #[.agg ⟨(L1 p0_1 p0_2 p0_3 p0_4 p0_5 p0_6)⟩] h R:=fnI (A:=.z) (by kernel_rfl) H

def W49 (p0_1 p0_2 p0_3:Int) (p0_4 p0_5 p0_6:Sl) (h:Heap) (R:Value->Heap->Prop):Prop:=
 (Wn h (L1 p0_1 p0_2 p0_3 p0_4 p0_5 p0_6) 55 fun h7=>
 (∃ x8 x9 x10 x11 x12 x13,aL1 h7 (aS h 0) x8 x9 x10 x11 x12 x13 /\
 (Fn Pz 84 #[.agg ⟨(L1 x8 x9 x10 x11 x12 x13)⟩] h7
 (fun v14 h17=>∃ x15:Option Addr,∃ x16:Bool,v14=.tuple ⟨[.pointer x15,.bool x16]⟩ /\
 R (.bool x16) h17))))
theorem vc49 (p0_1 p0_2 p0_3:Int) (p0_4 p0_5 p0_6:Sl) (h:Heap) (R:Value->Heap->Prop) (H:W49 p0_1 p0_2 p0_3 p0_4 p0_5 p0_6 h R):Fn Pz 49 #[.agg ⟨(L1 p0_1 p0_2 p0_3 p0_4 p0_5 p0_6)⟩] h R:=fnI (A:=.z) (by kernel_rfl) H

end Go.VC
end

section
namespace Go.VC
open Go.Proofs
variable [Mono]
namespace M

def W174 (p0_1:Int) (p0_2:Bool) (p0_3 p0_4 p0_5:Int) (p0_6:Bool) (h:Heap) (R:Value->Heap->Prop):Prop:=
 (Wn h (L0 p0_1 p0_2 p0_3 p0_4 p0_5 p0_6) 108 fun h7=>
 (Wn h7 [.bool false,vI 0,vI 0] 251 fun h8=>
 (∃ x9,rB h8 (aS h 1) x9 /\
 (∃ x10,rI h8 (aS h 2) x10 /\
 (∃ x11,rI h8 (aS h 3) x11 /\
 (Wp h8 (aS h7 0) 3 (L3 x9 x10 x11) fun h12=>
 (∃ x13 x14 x15,aL3 h12 (aS h7 0) x13 x14 x15 /\
 R (.agg ⟨(L3 x13 x14 x15)⟩) h12)))))))
theorem vc174 (p0_1:Int) (p0_2:Bool) (p0_3 p0_4 p0_5:Int) (p0_6:Bool) (h:Heap) (R:Value->Heap->Prop) (H:W174 p0_1 p0_2 p0_3 p0_4 p0_5 p0_6 h R):Fn Pz 174 #[.agg ⟨(L0 p0_1 p0_2 p0_3 p0_4 p0_5 p0_6)⟩] h R:=fnI (A:=.z) (by kernel_rfl) H

def W175 (p0_1:Bool) (p0_2 p0_3:Int) (p1_4:Bool) (p1_5 p1_6:Int) (h:Heap) (R:Value->Heap->Prop):Prop:=
 (Wn h (L3 p0_1 p0_2 p0_3) 251 fun h7=>
 (Wn h7 (L3 p1_4 p1_5 p1_6) 251 fun h8=>
 (∃ x9,rB h8 (aS h 0) x9 /\
 (∃ x10,rB h8 (aS h7 0) x10 /\
 (sB (!(x9 == x10))
 ((∃ x11,rB h8 (aS h 0) x11 /\
 (sB x11
 (R (vI (-1)) h8)
 (R (vI 1) h8))))
 ((∃ x12,rI h8 (aS h 1) x12 /\
 (∃ x13,rI h8 (aS h7 1) x13 /\
 (∃ x14,rI h8 (aS h 2) x14 /\
 (∃ x15,rI h8 (aS h7 2) x15 /\
 (Fn Pz 120 #[vI x12,vI x13] h8
 (fun v16 h18=>∃ x17,iI v16 x17 /\
 (Sm [(aS h7 2),(aS h 2)] h8 h18 /\
 (Fn Pz 120 #[vI x14,vI x15] h18
 (fun v19 h21=>∃ x20,iI v19 x20 /\
 (Sm [(aS h7 1),(aS h 1)] h18 h21 /\
 (Wn h21 [vI x17,vI x20] 3 fun h22=>
 (Fn Pz 119 #[.slice (some (aS h21 0)) 2 2] h22
 (fun v23 h25=>∃ x24,iI v23 x24 /\
 R (vI x24) h25)))))))))))))))))))
theorem vc175 (p0_1:Bool) (p0_2 p0_3:Int) (p1_4:Bool) (p1_5 p1_6:Int) (h:Heap) (R:Value->Heap->Prop) (H:W175 p0_1 p0_2 p0_3 p1_4 p1_5 p1_6 h R):Fn Pz 175 #[.agg ⟨(L3 p0_1 p0_2 p0_3)⟩,.agg ⟨(L3 p1_4 p1_5 p1_6)⟩] h R:=fnI (A:=.z) (by kernel_rfl) H

def W173 (p0 p1:Int) (c0:Addr) (h:Heap) (R:Value->Heap->Prop):Prop:=
 (∃ x1,rS h ⟨c0.block,c0.off+4,none⟩ x1 /\
 (NB x1.a fun b2 o3=>(Ib p0 x1.n /\
 (∃ x4 x5 x6 x7 x8 x9,aL0 h ⟨b2,o3+Int.toNat p0*6,none⟩ x4 x5 x6 x7 x8 x9 /\
 (∃ x10,rS h ⟨c0.block,c0.off+4,none⟩ x10 /\
 (NB x10.a fun b11 o12=>(Ib p1 x10.n /\
 (∃ x13 x14 x15 x16 x17 x18,aL0 h ⟨b11,o12+Int.toNat p1*6,none⟩ x13 x14 x15 x16 x17 x18 /\
 (Fn Pz 174 #[.agg ⟨(L0 x4 x5 x6 x7 x8 x9)⟩] h
 (fun v19 h23=>∃ (x20:Bool) (x21 x22:Int),v19=.agg ⟨(L3 x20 x21 x22)⟩ /\
 (Sm [⟨b11,o12+Int.toNat p1*6,none⟩,⟨c0.block,c0.off+4,none⟩] h h23 /\
 (Fn Pz 174 #[.agg ⟨(L0 x13 x14 x15 x16 x17 x18)⟩] h23
 (fun v24 h28=>∃ (x25:Bool) (x26 x27:Int),v24=.agg ⟨(L3 x25 x26 x27)⟩ /\
 (Sm [⟨b2,o3+Int.toNat p0*6,none⟩,⟨c0.block,c0.off+4,none⟩] h23 h28 /\
 (Fn Pz 175 #[.agg ⟨(L3 x20 x21 x22)⟩,.agg ⟨(L3 x25 x26 x27)⟩] h28
 (fun v29 h31=>∃ x30,iI v29 x30 /\
 R (vI x30) h31))))))))))))))))
theorem vc173 (p0 p1:Int) (c0:Addr) (h:Heap) (R:Value->Heap->Prop) (H:W173 p0 p1 c0 h R):Fn Pz 173 #[vI p0,vI p1,.pointer (some c0)] h R:=fnI (A:=.z) (by kernel_rfl) H

end M
end Go.VC
end

section
namespace Go.VC
open Go.Proofs

def W203 (p0:ByteArray) (h:Heap) (R:Value->Heap->Prop):Prop:=
 (sB ((ByteArray.toList p0) == (ByteArray.toList ⟨#[]⟩))
 (R (.bool false) h)
 ((sB (decide ((ByteArray.size p0:Int) > 16))
 (R (.bool false) h)
 (((0<=(0:Int)/\(0:Int)<(ByteArray.size p0:Nat)) /\
 (Fn Pz 249 #[.int .u8 (byteAt p0 (Int.toNat 0):Int)] h
 (fun v1 h3=>∃ x2,iB v1 x2 /\
 (sB (!x2)
 (R (.bool false) h3)
 ((QI 0 h3 fun I4 x_7 h8 m6=>(
 (sB (decide (x_7<(ByteArray.size p0:Int)))
 (((0<=(x_7:Int)/\(x_7:Int)<(ByteArray.size p0:Nat)) /\
 (Fn Pz 250 #[.int .u8 (byteAt p0 (Int.toNat x_7):Int)] h8
 (fun v9 h11=>∃ x10,iB v9 x10 /\
 (sB (!x10)
 (R (.bool false) h11)
 ((∃ m12,m12<m6/\I4 (IntKind.wrap .i64 (x_7+1)) h11 m12)))))))
 (R (.bool true) h8)))))))))))))
theorem vc203 (p0:ByteArray) (h:Heap) (R:Value->Heap->Prop) (H:W203 p0 h R):Fn Pz 203 #[.string p0] h R:=fnI (A:=(.s .z (.s .z (.s (.s .z (.b (.l [(19,.one (.int .i64))] .z))) .z)))) (by kernel_rfl) H

def W148 (p0:ByteArray) (h:Heap) (R:Value->Heap->Prop):Prop:=
 (Wn h [.string ⟨#[]⟩,.string ⟨#[]⟩,.string ⟨#[]⟩,.string ⟨#[]⟩,.string ⟨#[]⟩,.string ⟨#[]⟩,.string ⟨#[]⟩,.string ⟨#[]⟩,.string ⟨#[]⟩,.string ⟨#[]⟩,.string ⟨#[]⟩,.string ⟨#[]⟩,.string ⟨#[]⟩,.string ⟨#[]⟩,.string ⟨#[]⟩,.string ⟨#[]⟩,.string ⟨#[]⟩,.string ⟨#[]⟩,.string ⟨#[]⟩,.string ⟨#[]⟩,.string ⟨#[]⟩,.string ⟨#[]⟩,.string ⟨#[]⟩,.string ⟨#[]⟩,.string ⟨#[]⟩,.string ⟨#[]⟩,.string ⟨#[]⟩,.string ⟨#[]⟩] 308 fun h1=>
 (Wp h1 (aS h 0) 28 [.string ⟨#[97,103,97,105,110]⟩,.string ⟨#[97,110,100]⟩,.string ⟨#[97,115]⟩,.string ⟨#[97,116]⟩,.string ⟨#[99,97,108,108]⟩,.string ⟨#[99,104,111,105,99,101]⟩,.string ⟨#[101,108,115,101]⟩,.string ⟨#[102,114,111,109]⟩,.string ⟨#[105,102]⟩,.string ⟨#[105,110,116]⟩,.string ⟨#[108,101,110]⟩,.string ⟨#[108,111,111,112]⟩,.string ⟨#[109,101,115,115,97,103,101]⟩,.string ⟨#[111,102]⟩,.string ⟨#[111,102,102,101,114]⟩,.string ⟨#[111,110]⟩,.string ⟨#[111,114]⟩,.string ⟨#[112,97,114]⟩,.string ⟨#[112,108,97,121,115]⟩,.string ⟨#[112,114,111,116,111,99,111,108]⟩,.string ⟨#[115,101,114,118,105,99,101]⟩,.string ⟨#[116,101,120,116]⟩,.string ⟨#[116,105,109,101,115]⟩,.string ⟨#[116,111]⟩,.string ⟨#[118,97,114]⟩,.string ⟨#[119,104,101,114,101]⟩,.string ⟨#[119,104,105,108,101]⟩,.string ⟨#[119,105,116,104,105,110]⟩] fun h2=>
 (Fn Pz 203 #[.string p0] h2
 (fun v3 h5=>∃ x4,iB v3 x4 /\
 (sB x4
 ((((0:Int)<=(0:Int)/\(0:Int)<=((28:Nat):Int)/\((28:Nat):Int)<=(28:Nat)) /\
 (Fn Pz 149 #[.slice (subA (some (aS h 0)) (Int.toNat 0) 28 1) (Int.toNat (28:Nat) - Int.toNat 0) (28 - Int.toNat 0),.string p0] h5
 (fun v6 h8=>∃ x7,iB v6 x7 /\
 R (.bool (!x7)) h8))))
 (R (.bool false) h5))))))
theorem vc148 (p0:ByteArray) (h:Heap) (R:Value->Heap->Prop) (H:W148 p0 h R):Fn Pz 148 #[.string p0] h R:=fnI (A:=.z) (by kernel_rfl) H

def W249 (p0:Int) (h:Heap) (R:Value->Heap->Prop):Prop:=
 (sB (decide ((97:Int)<=p0))
 ((sB (decide (p0<=122))
 (R (.bool true) h)
 ((sB (decide ((65:Int)<=p0))
 (R (.bool (decide (p0<=90))) h)
 (R (.bool false) h)))))
 ((sB (decide ((65:Int)<=p0))
 (R (.bool (decide (p0<=90))) h)
 (R (.bool false) h))))
theorem vc249 (p0:Int) (h:Heap) (R:Value->Heap->Prop) (H:W249 p0 h R):Fn Pz 249 #[.int .u8 p0] h R:=fnI (A:=.z) (by kernel_rfl) H

def W250 (p0:Int) (h:Heap) (R:Value->Heap->Prop):Prop:=
 (Fn Pz 249 #[.int .u8 p0] h
 (fun v1 h3=>∃ x2,iB v1 x2 /\
 (sB x2
 (R (.bool true) h3)
 ((Fn Pz 298 #[.int .u8 p0] h3
 (fun v4 h6=>∃ x5,iB v4 x5 /\
 (sB x5
 (R (.bool true) h6)
 (R (.bool (p0 == 95)) h6))))))))
theorem vc250 (p0:Int) (h:Heap) (R:Value->Heap->Prop) (H:W250 p0 h R):Fn Pz 250 #[.int .u8 p0] h R:=fnI (A:=.z) (by kernel_rfl) H

def W298 (p0:Int) (h:Heap) (R:Value->Heap->Prop):Prop:=
 (sB (decide ((48:Int)<=p0))
 (R (.bool (decide (p0<=57))) h)
 (R (.bool false) h))
theorem vc298 (p0:Int) (h:Heap) (R:Value->Heap->Prop) (H:W298 p0 h R):Fn Pz 298 #[.int .u8 p0] h R:=fnI (A:=.z) (by kernel_rfl) H

def W204 (p0:Sl) (p1:ByteArray) (h:Heap) (R:Value->Heap->Prop):Prop:=
 (QI 0 h fun I1 x_4 h5 m3=>(
 (sB (decide (x_4<(p0.n:Int)))
 ((NB p0.a fun b6 o7=>(Ib x_4 p0.n /\
 (∃ x8,rT h5 ⟨b6,o7+Int.toNat x_4*1,none⟩ x8 /\
 (sB ((ByteArray.toList p1) == (ByteArray.toList x8))
 (R (vI x_4) h5)
 ((∃ m9,m9<m3/\I1 (IntKind.wrap .i64 (x_4+1)) h5 m9)))))))
 (R (vI (-1)) h5))))
theorem vc204 (p0:Sl) (p1:ByteArray) (h:Heap) (R:Value->Heap->Prop) (H:W204 p0 p1 h R):Fn Pz 204 #[vS p0,.string p1] h R:=fnI (A:=(.s .z (.s (.s .z (.b (.l [(8,.one (.int .i64))] .z))) .z))) (by kernel_rfl) H

def W149 (p0:Sl) (p1:ByteArray) (h:Heap) (R:Value->Heap->Prop):Prop:=
 (Fn Pz 204 #[vS p0,.string p1] h
 (fun v1 h3=>∃ x2,iI v1 x2 /\
 R (.bool (decide (x2 >= 0))) h3))
theorem vc149 (p0:Sl) (p1:ByteArray) (h:Heap) (R:Value->Heap->Prop) (H:W149 p0 p1 h R):Fn Pz 149 #[vS p0,.string p1] h R:=fnI (A:=.z) (by kernel_rfl) H

def W333 (p0:Sl) (p1:FuncId) (h:Heap) (R:Value->Heap->Prop):Prop:=
 (QI 0 h fun I1 x_4 h5 m3=>(
 (sB (decide (x_4<(p0.n:Int)))
 ((NB p0.a fun b6 o7=>(Ib x_4 p0.n /\
 (∃ x8,rT h5 ⟨b6,o7+Int.toNat x_4*1,none⟩ x8 /\
 (bif callable Pz p1 then Fn Pz p1 #[.string x8] h5
 (fun v9 h11=>∃ x10,iB v9 x10 /\
 (sB x10
 (R (vI x_4) h11)
 ((∃ m12,m12<m3/\I1 (IntKind.wrap .i64 (x_4+1)) h11 m12)))) else ExtW Pz p1 #[.string x8] h5
 (fun v9 h11=>∃ x10,iB v9 x10 /\
 (sB x10
 (R (vI x_4) h11)
 ((∃ m12,m12<m3/\I1 (IntKind.wrap .i64 (x_4+1)) h11 m12)))))))))
 (R (vI (-1)) h5))))
theorem vc333 (p0:Sl) (p1:FuncId) (h:Heap) (R:Value->Heap->Prop) (H:W333 p0 p1 h R):Fn Pz 333 #[vS p0,.func (.func p1) #[] #[]] h R:=fnI (A:=(.s .z (.s (.s .z (.b (.l [(8,.one (.int .i64))] .z))) .z))) (by kernel_rfl) H

def W299 (p0:Sl) (p1:Value) (h:Heap) (R:Value->Heap->Prop):Prop:=
 (Fn Pz 333 #[vS p0,p1] h
 (fun v1 h3=>∃ x2,iI v1 x2 /\
 R (.bool (decide (x2 >= 0))) h3))
theorem vc299 (p0:Sl) (p1:Value) (h:Heap) (R:Value->Heap->Prop) (H:W299 p0 p1 h R):Fn Pz 299 #[vS p0,p1] h R:=fnI (A:=.z) (by kernel_rfl) H

def W301 (p0:ByteArray) (h:Heap) (R:Value->Heap->Prop):Prop:=
 (Fn Pz 148 #[.string p0] h
 (fun v1 h3=>∃ x2,iB v1 x2 /\
 R (.bool (!x2)) h3))
theorem vc301 (p0:ByteArray) (h:Heap) (R:Value->Heap->Prop) (H:W301 p0 h R):Fn Pz 301 #[.string p0] h R:=fnI (A:=.z) (by kernel_rfl) H

def W252 (p0:ByteArray) (h:Heap) (R:Value->Heap->Prop):Prop:=
 (sB (decide ((ByteArray.size p0:Int)<=50))
 ((Fn Pz 300 #[.string p0,.string ⟨#[46]⟩] h
 (fun v1 h3=>∃ x2,iS v1 x2 /\
 (Fn Pz 299 #[vS x2,.func (.func 301) #[] #[]] h3
 (fun v4 h6=>∃ x5,iB v4 x5 /\
 R (.bool (!x5)) h6)))))
 (R (.bool false) h))
theorem vc252 (p0:ByteArray) (h:Heap) (R:Value->Heap->Prop) (H:W252 p0 h R):Fn Pz 252 #[.string p0] h R:=fnI (A:=.z) (by kernel_rfl) H

def W251 (p0:Sl) (h:Heap) (R:Value->Heap->Prop):Prop:=
 (QSI ⟨none,0,0⟩ 0 h fun I1 out_4 x_5 h6 m3=>(
 (sB (decide (x_5<(p0.n:Int)))
 ((NB p0.a fun b7 o8=>(Ib x_5 p0.n /\
 (∃ x9 x10 x11 x12 x13,aL7 h6 ⟨b7,o8+Int.toNat x_5*5,none⟩ x9 x10 x11 x12 x13 /\
 (Wn h6 [.string ⟨#[]⟩,.slice none 0 0,vI 0,.slice none 0 0,.slice none 0 0] 147 fun h14=>
 (Wp h14 (aS h6 0) 5 (L7 x9 x10 x11 x12 x13) fun h15=>
 (∃ x16,rS h15 (aS h6 1) x16 /\
 (App Pz 141 141 (vS out_4) (vS x16) h15 fun s17 h18=>
 (∃ m19,m19<m3/\I1 s17 (IntKind.wrap .i64 (x_5+1)) h18 m19)))))))))
 (R (vS out_4) h6))))
theorem vc251 (p0:Sl) (h:Heap) (R:Value->Heap->Prop) (H:W251 p0 h R):Fn Pz 251 #[vS p0] h R:=fnI (A:=(.s .z (.s .z (.s (.s .z (.b (.l [(3,.one (.slice)),(8,.one (.int .i64))] .z))) .z)))) (by kernel_rfl) H

def W254 (p0_1:ByteArray) (p0_2:Sl) (p0_3:Int) (p0_4 p0_5:Sl) (c0:Addr) (h:Heap) (R:Value->Heap->Prop):Prop:=
 (Wn h (L7 p0_1 p0_2 p0_3 p0_4 p0_5) 147 fun h6=>
 (∃ x7,rT h6 (aS h 0) x7 /\
 (∃ x8,rT h6 c0 x8 /\
 R (.bool ((ByteArray.toList x7) == (ByteArray.toList x8))) h6)))
theorem vc254 (p0_1:ByteArray) (p0_2:Sl) (p0_3:Int) (p0_4 p0_5:Sl) (c0:Addr) (h:Heap) (R:Value->Heap->Prop) (H:W254 p0_1 p0_2 p0_3 p0_4 p0_5 c0 h R):Fn Pz 254 #[.agg ⟨(L7 p0_1 p0_2 p0_3 p0_4 p0_5)⟩,.pointer (some c0)] h R:=fnI (A:=.z) (by kernel_rfl) H

def W257 (p0_1:ByteArray) (p0_2 p0_3 p0_4:Int) (c0:Addr) (h:Heap) (R:Value->Heap->Prop):Prop:=
 (Wn h (L9 p0_1 p0_2 p0_3 p0_4) 260 fun h5=>
 (∃ x6,rT h5 (aS h 0) x6 /\
 (∃ x7,rT h5 c0 x7 /\
 R (.bool ((ByteArray.toList x6) == (ByteArray.toList x7))) h5)))
theorem vc257 (p0_1:ByteArray) (p0_2 p0_3 p0_4:Int) (c0:Addr) (h:Heap) (R:Value->Heap->Prop) (H:W257 p0_1 p0_2 p0_3 p0_4 c0 h R):Fn Pz 257 #[.agg ⟨(L9 p0_1 p0_2 p0_3 p0_4)⟩,.pointer (some c0)] h R:=fnI (A:=.z) (by kernel_rfl) H

def W255 (p0_1 p0_2 p0_3:Int) (h:Heap) (R:Value->Heap->Prop):Prop:=
 (Wn h (L4 p0_1 p0_2 p0_3) 258 fun h4=>
 (∃ x5,rI h4 (aS h 0) x5 /\
 (sB (x5 == 1)
 ((∃ x6,rI h4 (aS h 1) x6 /\
 (sB (decide (x6 >= (-1000)))
 ((∃ x7,rI h4 (aS h 1) x7 /\
 (∃ x8,rI h4 (aS h 2) x8 /\
 (sB (decide (x7<=x8))
 ((∃ x9,rI h4 (aS h 2) x9 /\
 R (.bool (decide (x9<=1000))) h4))
 (R (.bool false) h4)))))
 (R (.bool false) h4))))
 ((sB (x5 == 2)
 ((∃ x10,rI h4 (aS h 1) x10 /\
 (sB (decide (x10 >= 0))
 ((∃ x11,rI h4 (aS h 1) x11 /\
 (∃ x12,rI h4 (aS h 2) x12 /\
 (sB (decide (x11<=x12))
 ((∃ x13,rI h4 (aS h 2) x13 /\
 R (.bool (decide (x13<=40))) h4))
 (R (.bool false) h4)))))
 (R (.bool false) h4))))
 (R (.bool false) h4))))))
theorem vc255 (p0_1 p0_2 p0_3:Int) (h:Heap) (R:Value->Heap->Prop) (H:W255 p0_1 p0_2 p0_3 h R):Fn Pz 255 #[.agg ⟨(L4 p0_1 p0_2 p0_3)⟩] h R:=fnI (A:=.z) (by kernel_rfl) H

def W302 (p0:Sl) (p1:FuncId) (p1c:Option Addr) (h:Heap) (R:Value->Heap->Prop):Prop:=
 (QI 0 h fun I1 x_4 h5 m3=>(
 (sB (decide (x_4<(p0.n:Int)))
 ((NB p0.a fun b6 o7=>(Ib x_4 p0.n /\
 (∃ x8 x9 x10 x11 x12,aL7 h5 ⟨b6,o7+Int.toNat x_4*5,none⟩ x8 x9 x10 x11 x12 /\
 (bif callable Pz p1 then Fn Pz p1 #[.agg ⟨(L7 x8 x9 x10 x11 x12)⟩,.pointer p1c] h5
 (fun v13 h15=>∃ x14,iB v13 x14 /\
 (sB x14
 (R (vI x_4) h15)
 ((∃ m16,m16<m3/\I1 (IntKind.wrap .i64 (x_4+1)) h15 m16)))) else ExtW Pz p1 #[.agg ⟨(L7 x8 x9 x10 x11 x12)⟩,.pointer p1c] h5
 (fun v13 h15=>∃ x14,iB v13 x14 /\
 (sB x14
 (R (vI x_4) h15)
 ((∃ m16,m16<m3/\I1 (IntKind.wrap .i64 (x_4+1)) h15 m16)))))))))
 (R (vI (-1)) h5))))
theorem vc302 (p0:Sl) (p1:FuncId) (p1c:Option Addr) (h:Heap) (R:Value->Heap->Prop) (H:W302 p0 p1 p1c h R):Fn Pz 302 #[vS p0,.func (.func p1) #[] #[.pointer p1c]] h R:=fnI (A:=(.s .z (.s (.s .z (.b (.l [(8,.one (.int .i64))] .z))) .z))) (by kernel_rfl) H

def W303 (p0:Sl) (p1:FuncId) (p1c:Option Addr) (h:Heap) (R:Value->Heap->Prop):Prop:=
 (QI 0 h fun I1 x_4 h5 m3=>(
 (sB (decide (x_4<(p0.n:Int)))
 ((NB p0.a fun b6 o7=>(Ib x_4 p0.n /\
 (∃ x8 x9 x10 x11,aL9 h5 ⟨b6,o7+Int.toNat x_4*4,none⟩ x8 x9 x10 x11 /\
 (bif callable Pz p1 then Fn Pz p1 #[.agg ⟨(L9 x8 x9 x10 x11)⟩,.pointer p1c] h5
 (fun v12 h14=>∃ x13,iB v12 x13 /\
 (sB x13
 (R (vI x_4) h14)
 ((∃ m15,m15<m3/\I1 (IntKind.wrap .i64 (x_4+1)) h14 m15)))) else ExtW Pz p1 #[.agg ⟨(L9 x8 x9 x10 x11)⟩,.pointer p1c] h5
 (fun v12 h14=>∃ x13,iB v12 x13 /\
 (sB x13
 (R (vI x_4) h14)
 ((∃ m15,m15<m3/\I1 (IntKind.wrap .i64 (x_4+1)) h14 m15)))))))))
 (R (vI (-1)) h5))))
theorem vc303 (p0:Sl) (p1:FuncId) (p1c:Option Addr) (h:Heap) (R:Value->Heap->Prop) (H:W303 p0 p1 p1c h R):Fn Pz 303 #[vS p0,.func (.func p1) #[] #[.pointer p1c]] h R:=fnI (A:=(.s .z (.s (.s .z (.b (.l [(8,.one (.int .i64))] .z))) .z))) (by kernel_rfl) H

def W253 (p0:Sl) (p1:Value) (h:Heap) (R:Value->Heap->Prop):Prop:=
 (Fn Pz 302 #[vS p0,p1] h
 (fun v1 h3=>∃ x2,iI v1 x2 /\
 R (.bool (decide (x2 >= 0))) h3))
theorem vc253 (p0:Sl) (p1:Value) (h:Heap) (R:Value->Heap->Prop) (H:W253 p0 p1 h R):Fn Pz 253 #[vS p0,p1] h R:=fnI (A:=.z) (by kernel_rfl) H

def W256 (p0:Sl) (p1:Value) (h:Heap) (R:Value->Heap->Prop):Prop:=
 (Fn Pz 303 #[vS p0,p1] h
 (fun v1 h3=>∃ x2,iI v1 x2 /\
 R (.bool (decide (x2 >= 0))) h3))
theorem vc256 (p0:Sl) (p1:Value) (h:Heap) (R:Value->Heap->Prop) (H:W256 p0 p1 h R):Fn Pz 256 #[vS p0,p1] h R:=fnI (A:=.z) (by kernel_rfl) H

def W258 (p0_1 p0_2 p1:Sl) (h:Heap) (R:Value->Heap->Prop):Prop:=
 (Wn h [vS p0_1,vS p0_2] 145 fun h3=>
 (∃ x4,rS h3 (aS h 0) x4 /\
 (sB (decide ((x4.n:Int) > 20))
 (R (.bool false) h3)
 ((∃ x5,rS h3 (aS h 1) x5 /\
 (sB (decide ((x5.n:Int) > 20))
 (R (.bool false) h3)
 ((∃ x6,rS h3 (aS h 0) x6 /\
 (QI 0 h3 fun I7 x_10 h11 m9=>(
 (sB (decide (x_10<(x6.n:Int)))
 ((NB x6.a fun b12 o13=>(Ib x_10 x6.n /\
 (∃ x14 x15 x16,aL4 h11 ⟨b12,o13+Int.toNat x_10*3,none⟩ x14 x15 x16 /\
 (Wn h11 [vI 0,vI 0,vI 0] 351 fun h17=>
 (Wp h17 (aS h11 0) 3 (L4 x14 x15 x16) fun h18=>
 (∃ x19,rI h18 (aS h11 0) x19 /\
 (∃ x20,rI h18 (aS h11 1) x20 /\
 (sB (decide ((imin x19 x20)<(-1)))
 (R (.bool false) h18)
 ((∃ x21,rI h18 (aS h11 0) x21 /\
 (∃ x22,rI h18 (aS h11 1) x22 /\
 (sB (decide ((imax x21 x22) >= (p1.n:Int)))
 (R (.bool false) h18)
 ((∃ x23,rI h18 (aS h11 2) x23 /\
 (sB (decide (x23<(-20000)))
 (R (.bool false) h18)
 ((∃ x24,rI h18 (aS h11 2) x24 /\
 (sB (decide (x24 > 20000))
 (R (.bool false) h18)
 ((∃ m25,m25<m9/\I7 (IntKind.wrap .i64 (x_10+1)) h18 m25)))))))))))))))))))))
 ((∃ x26,rS h11 (aS h 1) x26 /\
 (QI 0 h11 fun I27 x_30 h31 m29=>(
 (sB (decide (x_30<(x26.n:Int)))
 ((NB x26.a fun b32 o33=>(Ib x_30 x26.n /\
 (∃ (x34 x35:Int),atC h31 ⟨b32,o33+Int.toNat x_30*2,none⟩ [vI x34,vI x35] /\
 (Wn h31 [vI 0,vI 0] 353 fun h36=>
 (Wp h36 (aS h31 0) 2 [vI x34,vI x35] fun h37=>
 (∃ (x38 x39:Int),atC h37 (aS h31 0) [vI x38,vI x39] /\
 (QI 0 h37 fun I40 x_43 h44 m42=>(
 (sB (decide (x_43<2))
 ((Ib x_43 2/\∃ x45:Int,List.take 1 (List.drop (Int.toNat x_43*1) ([vI x38,vI x39]:List Value))=[vI x45] /\
 (sB (decide (x45<0))
 (R (.bool false) h44)
 ((sB (decide (x45 >= (p1.n:Int)))
 (R (.bool false) h44)
 ((NB p1.a fun b46 o47=>(Ib x45 p1.n /\
 (∃ x48,rI h44 ⟨b46,o47+Int.toNat x45*4+1,none⟩ x48 /\
 (sB (x48 != 2)
 (R (.bool false) h44)
 ((∃ m49,m49<m42/\I40 (IntKind.wrap .i64 (x_43+1)) h44 m49))))))))))))
 ((∃ m50,m50<m29/\I27 (IntKind.wrap .i64 (x_30+1)) h44 m50))))))))))))
 (R (.bool true) h31)))))))))))))))))
theorem vc258 (p0_1 p0_2 p1:Sl) (h:Heap) (R:Value->Heap->Prop) (H:W258 p0_1 p0_2 p1 h R):Fn Pz 258 #[.agg ⟨[vS p0_1,vS p0_2]⟩,vS p1] h R:=fnI (A:=(.s .z (.s .z (.s (.s .z (.b (.l [(24,.one (.int .i64))] .z))) (.s (.s .z (.b (.l [(58,.one (.int .i64))] (.s .z (.s .z (.s (.b (.s .z (.s .z (.b (.l [(63,.one (.int .i64))] .z))))) .z)))))) .z))))) (by kernel_rfl) H

def W205 (p0:Sl) (h:Heap) (R:Value->Heap->Prop):Prop:=
 (sB (decide ((p0.n:Int) > 40))
 (R (.bool false) h)
 ((Fn Pz 251 #[vS p0] h
 (fun v1 h3=>∃ x2,iS v1 x2 /\
 (sB (decide ((x2.n:Int) > 24))
 (R (.bool false) h3)
 ((QII 0 0 h3 fun I4 at_7 x_8 h9 m6=>(
 (sB (decide (x_8<(p0.n:Int)))
 ((NB p0.a fun b10 o11=>(Ib x_8 p0.n /\
 (∃ x12 x13 x14 x15 x16,aL7 h9 ⟨b10,o11+Int.toNat x_8*5,none⟩ x12 x13 x14 x15 x16 /\
 (Wn h9 [.string ⟨#[]⟩,.slice none 0 0,vI 0,.slice none 0 0,.slice none 0 0] 147 fun h17=>
 (Wp h17 (aS h9 0) 5 (L7 x12 x13 x14 x15 x16) fun h18=>
 (∃ x19,rT h18 (aS h9 0) x19 /\
 (Fn Pz 252 #[.string x19] h18
 (fun v20 h22=>∃ x21,iB v20 x21 /\
 (sB (!x21)
 (R (.bool false) h22)
 ((∃ x23,rS h22 (aS h9 1) x23 /\
 (sB (decide ((x23.n:Int) > 4))
 (R (.bool false) h22)
 ((∃ x24,rI h22 (aS h9 2) x24 /\
 (sB (x24 != at_7)
 (R (.bool false) h22)
 ((((0:Int)<=(0:Int)/\(0:Int)<=(x_8:Int)/\(x_8:Int)<=(p0.c:Nat)) /\
 (Fn Pz 253 #[.slice (subA p0.a (Int.toNat 0) p0.c 5) (Int.toNat x_8 - Int.toNat 0) (p0.c - Int.toNat 0),.func (.func 254) #[] #[.pointer (some (aS h9 0))]] h22
 (fun v25 h27=>∃ x26,iB v25 x26 /\
 (sB x26
 (R (.bool false) h27)
 ((∃ x28,rS h27 (aS h9 1) x28 /\
 (∃ x29,rS h27 (aS h9 1) x29 /\
 (QI 0 h27 fun I30 x_33 h34 m32=>(
 (sB (decide (x_33<(x29.n:Int)))
 ((NB x29.a fun b35 o36=>(Ib x_33 x29.n /\
 (∃ x37 x38 x39 x40,aL9 h34 ⟨b35,o36+Int.toNat x_33*4,none⟩ x37 x38 x39 x40 /\
 (Wn h34 [.string ⟨#[]⟩,vI 0,vI 0,vI 0] 260 fun h41=>
 (Wp h41 (aS h34 0) 4 (L9 x37 x38 x39 x40) fun h42=>
 (∃ x43,rT h42 (aS h34 0) x43 /\
 (Fn Pz 148 #[.string x43] h42
 (fun v44 h46=>∃ x45,iB v44 x45 /\
 (sB (!x45)
 (R (.bool false) h46)
 ((∃ x47 x48 x49,aL4 h46 (aS h34 1) x47 x48 x49 /\
 (Fn Pz 255 #[.agg ⟨(L4 x47 x48 x49)⟩] h46
 (fun v50 h52=>∃ x51,iB v50 x51 /\
 (sB (!x51)
 (R (.bool false) h52)
 ((∃ x53,rS h52 (aS h9 1) x53 /\
 (((0:Int)<=(0:Int)/\(0:Int)<=(x_33:Int)/\(x_33:Int)<=(x53.c:Nat)) /\
 (Fn Pz 256 #[.slice (subA x53.a (Int.toNat 0) x53.c 4) (Int.toNat x_33 - Int.toNat 0) (x53.c - Int.toNat 0),.func (.func 257) #[] #[.pointer (some (aS h34 0))]] h52
 (fun v54 h56=>∃ x55,iB v54 x55 /\
 (sB x55
 (R (.bool false) h56)
 ((∃ m57,m57<m32/\I30 (IntKind.wrap .i64 (x_33+1)) h56 m57)))))))))))))))))))))))
 ((∃ (x58 x59:Sl),atC h34 (aS h9 3) [vS x58,vS x59] /\
 (Fn Pz 258 #[.agg ⟨[vS x58,vS x59]⟩,vS x2] h34
 (fun v60 h62=>∃ x61,iB v60 x61 /\
 (sB (!x61)
 (R (.bool false) h62)
 ((∃ m63,m63<m6/\I4 (IntKind.wrap .i64 (at_7+(x28.n:Int))) (IntKind.wrap .i64 (x_8+1)) h62 m63))))))))))))))))))))))))))))))))))
 (R (.bool true) h9))))))))))
theorem vc205 (p0:Sl) (h:Heap) (R:Value->Heap->Prop) (H:W205 p0 h R):Fn Pz 205 #[vS p0] h R:=fnI (A:=(.s .z (.s .z (.s .z (.s .z (.s .z (.s (.s .z (.b (.l [(4,.one (.int .i64)),(19,.one (.int .i64))] (.s .z (.s .z (.s (.b (.s .z (.s .z (.s .z (.s (.s .z (.b (.l [(55,.one (.int .i64))] .z))) .z))))) .z)))))) .z))))))) (by kernel_rfl) H

def W206 (p0_1:ByteArray) (p0_2:Sl) (p0_3:Int) (p0_4 p0_5:Sl) (h:Heap) (R:Value->Heap->Prop):Prop:=
 (Wn h (L7 p0_1 p0_2 p0_3 p0_4 p0_5) 147 fun h6=>
 (∃ x7,rS h6 (aS h 1) x7 /\
 (QSI ⟨none,0,0⟩ 0 h6 fun I8 out_11 x_12 h13 m10=>(
 (sB (decide (x_12<(x7.n:Int)))
 ((NB x7.a fun b14 o15=>(Ib x_12 x7.n /\
 (∃ x16 x17 x18 x19,aL9 h13 ⟨b14,o15+Int.toNat x_12*4,none⟩ x16 x17 x18 x19 /\
 (Wn h13 [.string ⟨#[]⟩,vI 0,vI 0,vI 0] 260 fun h20=>
 (Wp h20 (aS h13 0) 4 (L9 x16 x17 x18 x19) fun h21=>
 (∃ x22,rI h21 (aS h 2) x22 /\
 (∃ x23,rI h21 (aS h13 (1+2)) x23 /\
 (∃ x24,rI h21 (aS h 2) x24 /\
 (∃ x25,rI h21 (aS h13 (1+1)) x25 /\
 (Wn h21 [vI (IntKind.wrap .i64 (x22+x_12)),vI (-1),vI x23,vI (-1),vI (IntKind.wrap .i64 (x24+x_12)),vI (IntKind.wrap .i64 (0 - x25))] 351 fun h26=>
 (App Pz 142 142 (vS out_11) (.slice (some (aS h21 0)) 2 2) h26 fun s27 h28=>
 (∃ m29,m29<m10/\I8 s27 (IntKind.wrap .i64 (x_12+1)) h28 m29)))))))))))))
 ((∃ x30,rS h13 (aS h 3) x30 /\
 (App Pz 142 142 (vS out_11) (vS x30) h13 fun s31 h32=>
 (∃ x33,rS h32 (aS h (3+1)) x33 /\
 (QSI s31 0 h32 fun I34 out_37 x_38 h39 m36=>(
 (sB (decide (x_38<(x33.n:Int)))
 ((NB x33.a fun b40 o41=>(Ib x_38 x33.n /\
 (∃ (x42 x43:Int),atC h39 ⟨b40,o41+Int.toNat x_38*2,none⟩ [vI x42,vI x43] /\
 (Wn h39 [vI 0,vI 0] 353 fun h44=>
 (Wp h44 (aS h39 0) 2 [vI x42,vI x43] fun h45=>
 (Ib 0 2 /\
 (∃ x46,rI h45 (aS h39 (0+Int.toNat 0*1)) x46 /\
 (Ib 1 2 /\
 (∃ x47,rI h45 (aS h39 (0+Int.toNat 1*1)) x47 /\
 (Ib 1 2 /\
 (∃ x48,rI h45 (aS h39 (0+Int.toNat 1*1)) x48 /\
 (Ib 0 2 /\
 (∃ x49,rI h45 (aS h39 (0+Int.toNat 0*1)) x49 /\
 (Wn h45 [vI x46,vI x47,vI 0,vI x48,vI x49,vI 0] 351 fun h50=>
 (App Pz 142 142 (vS out_37) (.slice (some (aS h45 0)) 2 2) h50 fun s51 h52=>
 (∃ m53,m53<m36/\I34 s51 (IntKind.wrap .i64 (x_38+1)) h52 m53)))))))))))))))))
 (R (vS out_37) h39)))))))))))))
theorem vc206 (p0_1:ByteArray) (p0_2:Sl) (p0_3:Int) (p0_4 p0_5:Sl) (h:Heap) (R:Value->Heap->Prop) (H:W206 p0_1 p0_2 p0_3 p0_4 p0_5 h R):Fn Pz 206 #[.agg ⟨(L7 p0_1 p0_2 p0_3 p0_4 p0_5)⟩] h R:=fnI (A:=(.s .z (.s .z (.s (.s .z (.b (.l [(3,.one (.slice)),(11,.one (.int .i64))] .z))) (.s .z (.s (.s .z (.b (.l [(3,.one (.slice)),(46,.one (.int .i64))] .z))) .z)))))) (by kernel_rfl) H

def W150 (p0:Sl) (p1:Int) (h:Heap) (R:Value->Heap->Prop):Prop:=
 (sB (decide (p1<0))
 (R (.tuple ⟨[.slice none 0 0,vI 1]⟩) h)
 ((sB (decide (p1 >= (p0.n:Int)))
 (R (.tuple ⟨[.slice none 0 0,vI 1]⟩) h)
 ((Fn Pz 205 #[vS p0] h
 (fun v1 h3=>∃ x2,iB v1 x2 /\
 (sB (!x2)
 (R (.tuple ⟨[.slice none 0 0,vI 1]⟩) h3)
 ((NB p0.a fun b4 o5=>(Ib p1 p0.n /\
 (∃ x6 x7 x8 x9 x10,aL7 h3 ⟨b4,o5+Int.toNat p1*5,none⟩ x6 x7 x8 x9 x10 /\
 (Fn Pz 206 #[.agg ⟨(L7 x6 x7 x8 x9 x10)⟩] h3
 (fun v11 h13=>∃ x12,iS v11 x12 /\
 R (.tuple ⟨[vS x12,vI 0]⟩) h13)))))))))))))
theorem vc150 (p0:Sl) (p1:Int) (h:Heap) (R:Value->Heap->Prop) (H:W150 p0 p1 h R):Fn Pz 150 #[vS p0,vI p1] h R:=fnI (A:=.z) (by kernel_rfl) H

end Go.VC
end
