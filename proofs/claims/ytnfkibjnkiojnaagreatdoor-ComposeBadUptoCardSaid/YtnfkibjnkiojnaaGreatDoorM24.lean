/- WkVcC WkVcB WkB WkC WkD WkVcJ WkE WkF. -/
import Derived.Test.YtnfkibjnkiojnaaGreatDoorM02
import Derived.Test.YtnfkibjnkiojnaaGreatDoorProg
import Derived.KernelRfl
import Derived.Test.YtnfkibjnkiojnaaGreatDoorM01
import Derived.Test.YtnfkibjnkiojnaaGreatDoorM22
import Derived.Test.YtnfkibjnkiojnaaGreatDoorM16
import Derived.Test.YtnfkibjnkiojnaaGreatDoorM23
import Derived.Test.YtnfkibjnkiojnaaGreatDoorM15
import Derived.Test.YtnfkibjnkiojnaaGreatDoorM09
set_option linter.unusedVariables false
set_option linter.unusedSimpArgs false
set_option maxRecDepth 100000

section
namespace Go.VC
open Go.Proofs

def W58 (p0 p1:Int) (p2_1 p2_2:Sl) (p3 p4_3:Int) (p4_4:Bool) (p4_5 p4_6 p4_7:Int) (p4_8:Bool) (h:Heap) (R:Value->Heap->Prop):Prop:=
 (Wn h [vS p2_1,vS p2_2] 29 fun h9=>
 (Wn h9 (L0 p4_3 p4_4 p4_5 p4_6 p4_7 p4_8) 108 fun h10=>
 (∃ x11,rS h10 (aS h 1) x11 /\
 (∃ x12 x13 x14 x15 x16 x17,aL0 h10 (aS h9 0) x12 x13 x14 x15 x16 x17 /\
 (Fn Pz 60 #[vI p0,vI p3,.agg ⟨(L0 x12 x13 x14 x15 x16 x17)⟩] h10
 (fun v18 h20=>∃ x19,iI v18 x19 /\
 (Sm [(aS h 1)] h10 h20 /\
 (NB x11.a fun b21 o22=>(Ib x19 x11.n /\
 (∃ x23,rS h20 ⟨b21,o22+Int.toNat x19*1,none⟩ x23 /\
 (∃ x24,rI h20 (aS h9 0) x24 /\
 (∃ x25,rS h20 (aS h 0) x25 /\
 (NB x25.a fun b26 o27=>(Ib p3 x25.n /\
 (∃ x28,rI h20 ⟨b26,o27+Int.toNat p3*1,none⟩ x28 /\
 (sB (x24 != x28)
 (R (vI 7) h20)
 ((∃ x29,rB h20 (aS h9 1) x29 /\
 (sB x29
 ((sB (decide ((x23.n:Int) >= p1))
 (R (vI 19) h20)
 ((∃ x30,rB h20 (aS h9 1) x30 /\
 (sB (!x30)
 ((sB ((x23.n:Int) == 0)
 (R (vI 23) h20)
 ((NB x23.a fun b31 o32=>(Ib 0 x23.n /\
 (∃ x33,rI h20 ⟨b31,o32+Int.toNat 0*1,none⟩ x33 /\
 (∃ x34,rI h20 (aS h9 3) x34 /\
 (sB (x33 != x34)
 (R (vI 23) h20)
 (R (vI 0) h20)))))))))
 (R (vI 0) h20))))))
 ((∃ x35,rB h20 (aS h9 1) x35 /\
 (sB (!x35)
 ((sB ((x23.n:Int) == 0)
 (R (vI 23) h20)
 ((NB x23.a fun b36 o37=>(Ib 0 x23.n /\
 (∃ x38,rI h20 ⟨b36,o37+Int.toNat 0*1,none⟩ x38 /\
 (∃ x39,rI h20 (aS h9 3) x39 /\
 (sB (x38 != x39)
 (R (vI 23) h20)
 (R (vI 0) h20)))))))))
 (R (vI 0) h20)))))))))))))))))))))))
theorem vc58 (p0 p1:Int) (p2_1 p2_2:Sl) (p3 p4_3:Int) (p4_4:Bool) (p4_5 p4_6 p4_7:Int) (p4_8:Bool) (h:Heap) (R:Value->Heap->Prop) (H:W58 p0 p1 p2_1 p2_2 p3 p4_3 p4_4 p4_5 p4_6 p4_7 p4_8 h R):Fn Pz 58 #[vI p0,vI p1,.agg ⟨[vS p2_1,vS p2_2]⟩,vI p3,.agg ⟨(L0 p4_3 p4_4 p4_5 p4_6 p4_7 p4_8)⟩] h R:=fnI (A:=.z) (by kernel_rfl) H

def W60 (p0 p1 p2_1:Int) (p2_2:Bool) (p2_3 p2_4 p2_5:Int) (p2_6:Bool) (h:Heap) (R:Value->Heap->Prop):Prop:=
 (Wn h (L0 p2_1 p2_2 p2_3 p2_4 p2_5 p2_6) 108 fun h7=>
 (∃ x8,rB h7 (aS h 1) x8 /\
 (sB x8
 ((∃ x9,rI h7 (aS h 2) x9 /\
 R (vI (IntKind.wrap .i64 ((IntKind.wrap .i64 (p0*p1))+x9))) h7))
 ((∃ x10,rI h7 (aS h 2) x10 /\
 R (vI (IntKind.wrap .i64 ((IntKind.wrap .i64 (p0*x10))+p1))) h7)))))
theorem vc60 (p0 p1 p2_1:Int) (p2_2:Bool) (p2_3 p2_4 p2_5:Int) (p2_6:Bool) (h:Heap) (R:Value->Heap->Prop) (H:W60 p0 p1 p2_1 p2_2 p2_3 p2_4 p2_5 p2_6 h R):Fn Pz 60 #[vI p0,vI p1,.agg ⟨(L0 p2_1 p2_2 p2_3 p2_4 p2_5 p2_6)⟩] h R:=fnI (A:=.z) (by kernel_rfl) H

def W47 (p0:Sl) (p1:Int) (p2_1 p2_2:Sl) (h:Heap) (R:Value->Heap->Prop):Prop:=
 (Wn h [vS p2_1,vS p2_2] 29 fun h3=>
 (QSI ⟨none,0,0⟩ 0 h3 fun I4 out_7 x_8 h9 m6=>(
 (sB (decide (x_8<(p0.n:Int)))
 ((NB p0.a fun b10 o11=>(Ib x_8 p0.n /\
 (∃ x12 x13 x14 x15 x16 x17,aL1 h9 ⟨b10,o11+Int.toNat x_8*6,none⟩ x12 x13 x14 x15 x16 x17 /\
 (Wn h9 [vI 0,vI 0,vI 0,.slice none 0 0,.slice none 0 0,.slice none 0 0] 55 fun h18=>
 (Wp h18 (aS h9 0) 6 (L1 x12 x13 x14 x15 x16 x17) fun h19=>
 (∃ x20,rS h19 (aS h9 4) x20 /\
 (QSI ⟨none,0,0⟩ 0 h19 fun I21 l_24 x_25 h26 m23=>(
 (sB (decide (x_25<(x20.n:Int)))
 ((NB x20.a fun b27 o28=>(Ib x_25 x20.n /\
 (∃ x29 x30 x31 x32 x33 x34,aL0 h26 ⟨b27,o28+Int.toNat x_25*6,none⟩ x29 x30 x31 x32 x33 x34 /\
 (Wn h26 [vI 0,.bool false,vI 0,vI 0,vI 0,.bool false] 108 fun h35=>
 (Wp h35 (aS h26 0) 6 (L0 x29 x30 x31 x32 x33 x34) fun h36=>
 (∃ (x37 x38:Sl),atC h36 (aS h 0) [vS x37,vS x38] /\
 (∃ x39 x40 x41 x42 x43 x44,aL0 h36 (aS h26 0) x39 x40 x41 x42 x43 x44 /\
 (Fn Pz 58 #[vI (p0.n:Int),vI p1,.agg ⟨[vS x37,vS x38]⟩,vI x_8,.agg ⟨(L0 x39 x40 x41 x42 x43 x44)⟩] h36
 (fun v45 h47=>∃ x46,iI v45 x46 /\
 (sB (x46 == 0)
 ((Wn h47 [vI x_8,vI x_25] 57 fun h48=>
 (App Pz 35 35 (vS l_24) (.slice (some (aS h47 0)) 1 1) h48 fun s49 h50=>
 (∃ m51,m51<m23/\I21 s49 (IntKind.wrap .i64 (x_25+1)) h50 m51))))
 ((∃ m52,m52<m23/\I21 l_24 (IntKind.wrap .i64 (x_25+1)) h47 m52)))))))))))))
 ((Fn Pz 80 #[vS l_24,.func (.func 81) #[] #[.pointer (some (aS h9 0))]] h26
 (fun v53 h54=>v53=.tuple ⟨[]⟩ /\
 (App Pz 35 35 (vS out_7) (vS l_24) h54 fun s55 h56=>
 (∃ m57,m57<m6/\I4 s55 (IntKind.wrap .i64 (x_8+1)) h56 m57)))))))))))))))
 (R (vS out_7) h9)))))
theorem vc47 (p0:Sl) (p1:Int) (p2_1 p2_2:Sl) (h:Heap) (R:Value->Heap->Prop) (H:W47 p0 p1 p2_1 p2_2 h R):Fn Pz 47 #[vS p0,vI p1,.agg ⟨[vS p2_1,vS p2_2]⟩] h R:=fnI (A:=(.s .z (.s .z (.s (.s .z (.b (.l [(7,.one (.slice)),(15,.one (.int .i64))] (.s .z (.s .z (.s (.b (.s .z (.s .z (.s (.s .z (.b (.l [(10,.one (.slice)),(23,.one (.int .i64))] .z))) .z)))) .z)))))) .z)))) (by kernel_rfl) H

def W16 (p0:Sl) (p1:Int) (p2_1 p2_2:Sl) (h:Heap) (R:Value->Heap->Prop):Prop:=
 (Wn h [vS p2_1,vS p2_2] 29 fun h3=>
 (∃ (x4 x5:Sl),atC h3 (aS h 0) [vS x4,vS x5] /\
 (Fn Pz 24 #[vS p0,vI p1,.agg ⟨[vS x4,vS x5]⟩] h3
 (fun v6 h8=>∃ x7,iB v6 x7 /\
 (sB (!x7)
 (R (.tuple ⟨[.slice none 0 0,vI 1]⟩) h8)
 ((∃ (x9 x10:Sl),atC h8 (aS h 0) [vS x9,vS x10] /\
 (Fn Pz 47 #[vS p0,vI p1,.agg ⟨[vS x9,vS x10]⟩] h8
 (fun v11 h13=>∃ x12,iS v11 x12 /\
 R (.tuple ⟨[vS x12,vI 0]⟩) h13)))))))))
theorem vc16 (p0:Sl) (p1:Int) (p2_1 p2_2:Sl) (h:Heap) (R:Value->Heap->Prop) (H:W16 p0 p1 p2_1 p2_2 h R):Fn Pz 16 #[vS p0,vI p1,.agg ⟨[vS p2_1,vS p2_2]⟩] h R:=fnI (A:=.z) (by kernel_rfl) H

def W61 (p0:Sl) (p1:Int) (p2_1 p2_2:Sl) (p3_3 p3_4:Int) (h:Heap) (R:Value->Heap->Prop):Prop:=
 (Wn h [vS p2_1,vS p2_2] 26 fun h5=>
 (Wn h5 [vI p3_3,vI p3_4] 60 fun h6=>
 (∃ x7,rI h6 (aS h5 0) x7 /\
 (sB (decide (x7<0))
 (R (vI 2) h6)
 ((∃ x8,rI h6 (aS h5 0) x8 /\
 (sB (decide (x8 >= (p0.n:Int)))
 (R (vI 2) h6)
 ((∃ x9,rI h6 (aS h5 1) x9 /\
 (sB (decide (x9<0))
 (R (vI 2) h6)
 ((∃ x10,rI h6 (aS h5 1) x10 /\
 (∃ x11,rI h6 (aS h5 0) x11 /\
 (NB p0.a fun b12 o13=>(Ib x11 p0.n /\
 (∃ x14,rS h6 ⟨b12,o13+Int.toNat x11*6+4,none⟩ x14 /\
 (sB (decide (x10 >= (x14.n:Int)))
 (R (vI 2) h6)
 ((∃ x15,rI h6 (aS h5 0) x15 /\
 (NB p0.a fun b16 o17=>(Ib x15 p0.n /\
 (∃ x18,rS h6 ⟨b16,o17+Int.toNat x15*6+4,none⟩ x18 /\
 (∃ x19,rI h6 (aS h5 1) x19 /\
 (NB x18.a fun b20 o21=>(Ib x19 x18.n /\
 (∃ x22 x23 x24 x25 x26 x27,aL0 h6 ⟨b20,o21+Int.toNat x19*6,none⟩ x22 x23 x24 x25 x26 x27 /\
 (Wn h6 [vI 0,.bool false,vI 0,vI 0,vI 0,.bool false] 108 fun h28=>
 (Sm [⟨b20,o21+Int.toNat x19*6,none⟩,(aS h5 1),⟨b16,o17+Int.toNat x15*6+4,none⟩,(aS h5 0)] h6 h28 /\
 (Wp h28 (aS h6 0) 6 (L0 x22 x23 x24 x25 x26 x27) fun h29=>
 (∃ x30,rS h29 (aS h 0) x30 /\
 (∃ x31,rI h29 (aS h5 0) x31 /\
 (NB x30.a fun b32 o33=>(Ib x31 x30.n /\
 (∃ x34,rI h29 ⟨b32,o33+Int.toNat x31*1,none⟩ x34 /\
 (∃ x35,rI h29 (aS h6 0) x35 /\
 (sB (x34 != x35)
 (R (vI 7) h29)
 ((∃ x36,rB h29 (aS h6 1) x36 /\
 (sB x36
 ((∃ x37,rS h29 (aS h 1) x37 /\
 (∃ x38,rI h29 (aS h5 0) x38 /\
 (∃ x39,rI h29 (aS h6 2) x39 /\
 (NB x37.a fun b40 o41=>((0<=((IntKind.wrap .i64 ((IntKind.wrap .i64 ((p0.n:Int)*x38))+x39)):Int)/\((IntKind.wrap .i64 ((IntKind.wrap .i64 ((p0.n:Int)*x38))+x39)):Int)<(x37.n:Nat)) /\
 (∃ x42,rS h29 ⟨b40,o41+Int.toNat (IntKind.wrap .i64 ((IntKind.wrap .i64 ((p0.n:Int)*x38))+x39))*1,none⟩ x42 /\
 (sB (decide ((x42.n:Int) >= p1))
 (R (vI 19) h29)
 (R (vI 0) h29)))))))))
 ((∃ x43,rS h29 (aS h 1) x43 /\
 (∃ x44,rI h29 (aS h6 2) x44 /\
 (∃ x45,rI h29 (aS h5 0) x45 /\
 (NB x43.a fun b46 o47=>((0<=((IntKind.wrap .i64 ((IntKind.wrap .i64 ((p0.n:Int)*x44))+x45)):Int)/\((IntKind.wrap .i64 ((IntKind.wrap .i64 ((p0.n:Int)*x44))+x45)):Int)<(x43.n:Nat)) /\
 (∃ x48,rS h29 ⟨b46,o47+Int.toNat (IntKind.wrap .i64 ((IntKind.wrap .i64 ((p0.n:Int)*x44))+x45))*1,none⟩ x48 /\
 (sB ((x48.n:Int) == 0)
 (R (vI 23) h29)
 ((NB x48.a fun b49 o50=>(Ib 0 x48.n /\
 (∃ x51,rI h29 ⟨b49,o50+Int.toNat 0*1,none⟩ x51 /\
 (∃ x52,rI h29 (aS h6 3) x52 /\
 (sB (x51 != x52)
 (R (vI 23) h29)
 (R (vI 0) h29))))))))))))))))))))))))))))))))))))))))))))))))))))))
theorem vc61 (p0:Sl) (p1:Int) (p2_1 p2_2:Sl) (p3_3 p3_4:Int) (h:Heap) (R:Value->Heap->Prop) (H:W61 p0 p1 p2_1 p2_2 p3_3 p3_4 h R):Fn Pz 61 #[vS p0,vI p1,.agg ⟨[vS p2_1,vS p2_2]⟩,.agg ⟨[vI p3_3,vI p3_4]⟩] h R:=fnI (A:=.z) (by kernel_rfl) H

def W48 (p0:Sl) (p1:Int) (p2_1 p2_2:Sl) (h:Heap) (R:Value->Heap->Prop):Prop:=
 (Wn h [vS p2_1,vS p2_2] 26 fun h3=>
 (QSI ⟨none,0,0⟩ 0 h3 fun I4 out_7 p_8 h9 m6=>(
 (sB (decide (p_8<(p0.n:Int)))
 ((NB p0.a fun b10 o11=>(Ib p_8 p0.n /\
 (∃ x12 x13 x14 x15 x16 x17,aL1 h9 ⟨b10,o11+Int.toNat p_8*6,none⟩ x12 x13 x14 x15 x16 x17 /\
 (∃ x18,rS h9 (aS h 0) x18 /\
 (NB x18.a fun b19 o20=>(Ib p_8 x18.n /\
 (∃ x21,rI h9 ⟨b19,o20+Int.toNat p_8*1,none⟩ x21 /\
 (Fn Pz 83 #[.agg ⟨(L1 x12 x13 x14 x15 x16 x17)⟩,vI x21] h9
 (fun v22 h24=>∃ x23,iS v22 x23 /\
 (QSI out_7 0 h24 fun I25 out_28 i_29 h30 m27=>(
 (sB (decide (i_29<(x23.n:Int)))
 ((NB x23.a fun b31 o32=>(Ib i_29 x23.n /\
 (∃ x33,rI h30 ⟨b31,o32+Int.toNat i_29*1,none⟩ x33 /\
 (Wn h30 [vI 0,vI 0] 60 fun h34=>
 (Wp h34 (aS h30 0) 2 [vI p_8,vI x33] fun h35=>
 (∃ (x36 x37:Sl),atC h35 (aS h 0) [vS x36,vS x37] /\
 (∃ (x38 x39:Int),atC h35 (aS h30 0) [vI x38,vI x39] /\
 (Fn Pz 61 #[vS p0,vI p1,.agg ⟨[vS x36,vS x37]⟩,.agg ⟨[vI x38,vI x39]⟩] h35
 (fun v40 h42=>∃ x41,iI v40 x41 /\
 (sB (x41 == 0)
 ((∃ (x43 x44:Int),atC h42 (aS h30 0) [vI x43,vI x44] /\
 (Wn h42 [vI x43,vI x44] 60 fun h45=>
 (App Pz 39 39 (vS out_28) (.slice (some (aS h42 0)) 1 1) h45 fun s46 h47=>
 (∃ m48,m48<m27/\I25 s46 (IntKind.wrap .i64 (i_29+1)) h47 m48)))))
 ((∃ m49,m49<m27/\I25 out_28 (IntKind.wrap .i64 (i_29+1)) h42 m49)))))))))))))
 ((∃ m50,m50<m6/\I4 out_28 (IntKind.wrap .i64 (p_8+1)) h30 m50)))))))))))))))
 (R (vS out_7) h9)))))
theorem vc48 (p0:Sl) (p1:Int) (p2_1 p2_2:Sl) (h:Heap) (R:Value->Heap->Prop) (H:W48 p0 p1 p2_1 p2_2 h R):Fn Pz 48 #[vS p0,vI p1,.agg ⟨[vS p2_1,vS p2_2]⟩] h R:=fnI (A:=(.s .z (.s .z (.s (.s .z (.b (.l [(7,.one (.slice)),(8,.one (.int .i64))] (.s .z (.s (.b (.s .z (.s .z (.b (.l [(7,.one (.slice)),(10,.one (.int .i64))] .z))))) .z))))) .z)))) (by kernel_rfl) H

def W17 (p0_1 p0_2:Sl) (h:Heap) (R:Value->Heap->Prop):Prop:=
 (Wn h [vS p0_1,vS p0_2] 26 fun h3=>
 (Wn h3 [.slice none 0 0,.slice none 0 0] 29 fun h4=>
 (∃ (x5 x6:Sl),atC h4 (aS h 0) [vS x5,vS x6] /\
 (Wp h4 (aS h3 0) 2 [vS x5,vS x6] fun h7=>
 (∃ (x8 x9:Sl),atC h7 (aS h3 0) [vS x8,vS x9] /\
 R (.agg ⟨[vS x8,vS x9]⟩) h7)))))
theorem vc17 (p0_1 p0_2:Sl) (h:Heap) (R:Value->Heap->Prop) (H:W17 p0_1 p0_2 h R):Fn Pz 17 #[.agg ⟨[vS p0_1,vS p0_2]⟩] h R:=fnI (A:=.z) (by kernel_rfl) H

end Go.VC
end

section
namespace Go.VC
open Go.Proofs

def W23 (p0:Sl) (h:Heap) (R:Value->Heap->Prop):Prop:=
 (sB (decide ((p0.n:Int)<1))
 (R (.bool false) h)
 ((sB (decide ((p0.n:Int) > 6))
 (R (.bool false) h)
 ((QI 0 h fun I1 p_4 h5 m3=>(
 (sB (decide (p_4<(p0.n:Int)))
 ((NB p0.a fun b6 o7=>(Ib p_4 p0.n /\
 (∃ x8 x9 x10 x11 x12 x13,aL1 h5 ⟨b6,o7+Int.toNat p_4*6,none⟩ x8 x9 x10 x11 x12 x13 /\
 (Fn Pz 52 #[.agg ⟨(L1 x8 x9 x10 x11 x12 x13)⟩] h5
 (fun v14 h16=>∃ x15,iB v14 x15 /\
 (sB (!x15)
 (R (.bool false) h16)
 ((NB p0.a fun b17 o18=>(Ib p_4 p0.n /\
 (∃ x19,rI h16 ⟨b17,o18+Int.toNat p_4*6,none⟩ x19 /\
 (sB (x19 != p_4)
 (R (.bool false) h16)
 ((QI 0 h16 fun I20 i_23 h24 m22=>(
 (NB p0.a fun b25 o26=>(Ib p_4 p0.n /\
 (∃ x27,rS h24 ⟨b25,o26+Int.toNat p_4*6+4,none⟩ x27 /\
 (sB (decide (i_23<(x27.n:Int)))
 ((NB p0.a fun b28 o29=>(Ib p_4 p0.n /\
 (∃ x30,rS h24 ⟨b28,o29+Int.toNat p_4*6+4,none⟩ x30 /\
 (NB x30.a fun b31 o32=>(Ib i_23 x30.n /\
 (∃ x33,rI h24 ⟨b31,o32+Int.toNat i_23*6+2,none⟩ x33 /\
 (sB (decide (x33 >= (p0.n:Int)))
 (R (.bool false) h24)
 ((∃ m34,m34<m22/\I20 (IntKind.wrap .i64 (i_23+1)) h24 m34))))))))))
 ((∃ m35,m35<m3/\I1 (IntKind.wrap .i64 (p_4+1)) h24 m35)))))))))))))))))))))
 (R (.bool true) h5))))))))
theorem vc23 (p0:Sl) (h:Heap) (R:Value->Heap->Prop) (H:W23 p0 h R):Fn Pz 23 #[vS p0] h R:=fnI (A:=(.s .z (.s .z (.s (.s .z (.b (.l [(3,.one (.int .i64))] (.s .z (.s (.b (.s .z (.s .z (.b (.l [(4,.one (.int .i64))] .z))))) .z))))) .z)))) (by kernel_rfl) H

def W55 (p0:Sl) (p1:Int) (p2_1 p2_2:Sl) (h:Heap) (R:Value->Heap->Prop):Prop:=
 (Wn h [vS p2_1,vS p2_2] 26 fun h3=>
 (sB (decide (p1<1))
 (R (.bool false) h3)
 ((sB (decide (p1 > 4))
 (R (.bool false) h3)
 ((∃ x4,rS h3 (aS h 0) x4 /\
 (sB ((x4.n:Int) != (p0.n:Int))
 (R (.bool false) h3)
 ((∃ x5,rS h3 (aS h 1) x5 /\
 (sB ((x5.n:Int) != (IntKind.wrap .i64 ((p0.n:Int)*(p0.n:Int))))
 (R (.bool false) h3)
 ((QI 0 h3 fun I6 p_9 h10 m8=>(
 (sB (decide (p_9<(p0.n:Int)))
 ((∃ x11,rS h10 (aS h 0) x11 /\
 (NB x11.a fun b12 o13=>(Ib p_9 x11.n /\
 (∃ x14,rI h10 ⟨b12,o13+Int.toNat p_9*1,none⟩ x14 /\
 (sB (decide (x14<0))
 (R (.bool false) h10)
 ((∃ x15,rS h10 (aS h 0) x15 /\
 (NB x15.a fun b16 o17=>(Ib p_9 x15.n /\
 (∃ x18,rI h10 ⟨b16,o17+Int.toNat p_9*1,none⟩ x18 /\
 (NB p0.a fun b19 o20=>(Ib p_9 p0.n /\
 (∃ x21,rI h10 ⟨b19,o20+Int.toNat p_9*6+1,none⟩ x21 /\
 (sB (decide (x18 >= x21))
 (R (.bool false) h10)
 ((∃ x22,rS h10 (aS h 1) x22 /\
 (NB x22.a fun b23 o24=>((0<=((IntKind.wrap .i64 ((IntKind.wrap .i64 ((p0.n:Int)*p_9))+p_9)):Int)/\((IntKind.wrap .i64 ((IntKind.wrap .i64 ((p0.n:Int)*p_9))+p_9)):Int)<(x22.n:Nat)) /\
 (∃ x25,rS h10 ⟨b23,o24+Int.toNat (IntKind.wrap .i64 ((IntKind.wrap .i64 ((p0.n:Int)*p_9))+p_9))*1,none⟩ x25 /\
 (sB (decide ((x25.n:Int) > 0))
 (R (.bool false) h10)
 ((∃ m26,m26<m8/\I6 (IntKind.wrap .i64 (p_9+1)) h10 m26)))))))))))))))))))))))
 ((QI 0 h10 fun I27 i_30 h31 m29=>(
 (∃ x32,rS h31 (aS h 1) x32 /\
 (sB (decide (i_30<(x32.n:Int)))
 ((∃ x33,rS h31 (aS h 1) x33 /\
 (NB x33.a fun b34 o35=>(Ib i_30 x33.n /\
 (∃ x36,rS h31 ⟨b34,o35+Int.toNat i_30*1,none⟩ x36 /\
 (sB (decide ((x36.n:Int) > p1))
 (R (.bool false) h31)
 ((QI 0 h31 fun I37 j_40 h41 m39=>(
 (∃ x42,rS h41 (aS h 1) x42 /\
 (NB x42.a fun b43 o44=>(Ib i_30 x42.n /\
 (∃ x45,rS h41 ⟨b43,o44+Int.toNat i_30*1,none⟩ x45 /\
 (sB (decide (j_40<(x45.n:Int)))
 ((∃ x46,rS h41 (aS h 1) x46 /\
 (NB x46.a fun b47 o48=>(Ib i_30 x46.n /\
 (∃ x49,rS h41 ⟨b47,o48+Int.toNat i_30*1,none⟩ x49 /\
 (NB x49.a fun b50 o51=>(Ib j_40 x49.n /\
 (∃ x52,rI h41 ⟨b50,o51+Int.toNat j_40*1,none⟩ x52 /\
 (sB (decide (x52<0))
 (R (.bool false) h41)
 ((∃ x53,rS h41 (aS h 1) x53 /\
 (NB x53.a fun b54 o55=>(Ib i_30 x53.n /\
 (∃ x56,rS h41 ⟨b54,o55+Int.toNat i_30*1,none⟩ x56 /\
 (NB x56.a fun b57 o58=>(Ib j_40 x56.n /\
 (∃ x59,rI h41 ⟨b57,o58+Int.toNat j_40*1,none⟩ x59 /\
 (sB (decide (x59 >= 40))
 (R (.bool false) h41)
 ((∃ m60,m60<m39/\I37 (IntKind.wrap .i64 (j_40+1)) h41 m60))))))))))))))))))))
 ((∃ m61,m61<m29/\I27 (IntKind.wrap .i64 (i_30+1)) h41 m61))))))))))))))))
 (R (.bool true) h31))))))))))))))))))))
theorem vc55 (p0:Sl) (p1:Int) (p2_1 p2_2:Sl) (h:Heap) (R:Value->Heap->Prop) (H:W55 p0 p1 p2_1 p2_2 h R):Fn Pz 55 #[vS p0,vI p1,.agg ⟨[vS p2_1,vS p2_2]⟩] h R:=fnI (A:=(.s .z (.s .z (.s .z (.s (.s .z (.b (.l [(8,.one (.int .i64))] .z))) (.s (.s .z (.b (.l [(9,.one (.int .i64))] (.s .z (.s (.b (.s .z (.s .z (.b (.l [(10,.one (.int .i64))] .z))))) .z))))) .z)))))) (by kernel_rfl) H

def W25 (p0:Sl) (p1:Int) (p2_1 p2_2:Sl) (h:Heap) (R:Value->Heap->Prop):Prop:=
 (Wn h [vS p2_1,vS p2_2] 26 fun h3=>
 (Fn Pz 23 #[vS p0] h3
 (fun v4 h6=>∃ x5,iB v4 x5 /\
 (sB x5
 ((∃ (x7 x8:Sl),atC h6 (aS h 0) [vS x7,vS x8] /\
 (Fn Pz 55 #[vS p0,vI p1,.agg ⟨[vS x7,vS x8]⟩] h6
 (fun v9 h11=>∃ x10,iB v9 x10 /\
 R (.bool x10) h11))))
 (R (.bool false) h6)))))
theorem vc25 (p0:Sl) (p1:Int) (p2_1 p2_2:Sl) (h:Heap) (R:Value->Heap->Prop) (H:W25 p0 p1 p2_1 p2_2 h R):Fn Pz 25 #[vS p0,vI p1,.agg ⟨[vS p2_1,vS p2_2]⟩] h R:=fnI (A:=.z) (by kernel_rfl) H

def W19 (p0_1 p0_2 p1_3 p1_4:Sl) (h:Heap) (R:Value->Heap->Prop):Prop:=
 (Wn h [vS p0_1,vS p0_2] 26 fun h5=>
 (Wn h5 [vS p1_3,vS p1_4] 26 fun h6=>
 (∃ x7,rS h6 (aS h 0) x7 /\
 (∃ x8,rS h6 (aS h5 0) x8 /\
 (Fn Pz 34 #[vS x7,vS x8] h6
 (fun v9 h11=>∃ x10,iB v9 x10 /\
 (sB (!x10)
 (R (.bool false) h11)
 ((∃ x12,rS h11 (aS h 1) x12 /\
 (∃ x13,rS h11 (aS h5 1) x13 /\
 (sB ((x12.n:Int) != (x13.n:Int))
 (R (.bool false) h11)
 ((QI 0 h11 fun I14 i_17 h18 m16=>(
 (∃ x19,rS h18 (aS h 1) x19 /\
 (sB (decide (i_17<(x19.n:Int)))
 ((∃ x20,rS h18 (aS h 1) x20 /\
 (NB x20.a fun b21 o22=>(Ib i_17 x20.n /\
 (∃ x23,rS h18 ⟨b21,o22+Int.toNat i_17*1,none⟩ x23 /\
 (∃ x24,rS h18 (aS h5 1) x24 /\
 (NB x24.a fun b25 o26=>(Ib i_17 x24.n /\
 (∃ x27,rS h18 ⟨b25,o26+Int.toNat i_17*1,none⟩ x27 /\
 (Fn Pz 34 #[vS x23,vS x27] h18
 (fun v28 h30=>∃ x29,iB v28 x29 /\
 (sB (!x29)
 (R (.bool false) h30)
 ((∃ m31,m31<m16/\I14 (IntKind.wrap .i64 (i_17+1)) h30 m31))))))))))))))
 (R (.bool true) h18)))))))))))))))))
theorem vc19 (p0_1 p0_2 p1_3 p1_4:Sl) (h:Heap) (R:Value->Heap->Prop) (H:W19 p0_1 p0_2 p1_3 p1_4 h R):Fn Pz 19 #[.agg ⟨[vS p0_1,vS p0_2]⟩,.agg ⟨[vS p1_3,vS p1_4]⟩] h R:=fnI (A:=(.s .z (.s .z (.s (.s .z (.b (.l [(5,.one (.int .i64))] .z))) .z)))) (by kernel_rfl) H

def W34 (p0 p1:Sl) (h:Heap) (R:Value->Heap->Prop):Prop:=
 (sB ((p0.n:Int) != (p1.n:Int))
 (R (.bool false) h)
 ((QI 0 h fun I1 i_4 h5 m3=>(
 (sB (decide (i_4<(p0.n:Int)))
 ((NB p0.a fun b6 o7=>(Ib i_4 p0.n /\
 (∃ x8,rI h5 ⟨b6,o7+Int.toNat i_4*1,none⟩ x8 /\
 (NB p1.a fun b9 o10=>(Ib i_4 p1.n /\
 (∃ x11,rI h5 ⟨b9,o10+Int.toNat i_4*1,none⟩ x11 /\
 (sB (x8 != x11)
 (R (.bool false) h5)
 ((∃ m12,m12<m3/\I1 (IntKind.wrap .i64 (i_4+1)) h5 m12))))))))))
 (R (.bool true) h5))))))
theorem vc34 (p0 p1:Sl) (h:Heap) (R:Value->Heap->Prop) (H:W34 p0 p1 h R):Fn Pz 34 #[vS p0,vS p1] h R:=fnI (A:=(.s .z (.s .z (.s (.s .z (.b (.l [(5,.one (.int .i64))] .z))) .z)))) (by kernel_rfl) H

def W13 (p0 p1_1 p1_2:Sl) (h:Heap) (R:Value->Heap->Prop):Prop:=
 (Wn h [vS p1_1,vS p1_2] 26 fun h3=>
 (QI 0 h3 fun I4 i_7 h8 m6=>(
 (sB (decide (i_7<(p0.n:Int)))
 ((NB p0.a fun b9 o10=>(Ib i_7 p0.n /\
 (∃ x11 x12 x13 x14 x15 x16,aL1 h8 ⟨b9,o10+Int.toNat i_7*6,none⟩ x11 x12 x13 x14 x15 x16 /\
 (Fn Pz 45 #[.agg ⟨(L1 x11 x12 x13 x14 x15 x16)⟩] h8
 (fun v17 h19=>∃ x18,iB v17 x18 /\
 (sB (!x18)
 (R (.bool false) h19)
 ((∃ m20,m20<m6/\I4 (IntKind.wrap .i64 (i_7+1)) h19 m20)))))))))
 ((QI 0 h8 fun I21 i_24 h25 m23=>(
 (∃ x26,rS h25 (aS h 1) x26 /\
 (sB (decide (i_24<(x26.n:Int)))
 ((∃ x27,rS h25 (aS h 1) x27 /\
 (NB x27.a fun b28 o29=>(Ib i_24 x27.n /\
 (∃ x30,rS h25 ⟨b28,o29+Int.toNat i_24*1,none⟩ x30 /\
 (sB (decide ((x30.n:Int) > 10))
 (R (.bool false) h25)
 ((∃ m31,m31<m23/\I21 (IntKind.wrap .i64 (i_24+1)) h25 m31))))))))
 ((sB (decide ((p0.n:Int)<=7))
 ((∃ x32,rS h25 (aS h 0) x32 /\
 (sB (decide ((x32.n:Int)<=10))
 ((∃ x33,rS h25 (aS h 1) x33 /\
 R (.bool (decide ((x33.n:Int)<=50))) h25))
 (R (.bool false) h25))))
 (R (.bool false) h25))))))))))))
theorem vc13 (p0 p1_1 p1_2:Sl) (h:Heap) (R:Value->Heap->Prop) (H:W13 p0 p1_1 p1_2 h R):Fn Pz 13 #[vS p0,.agg ⟨[vS p1_1,vS p1_2]⟩] h R:=fnI (A:=(.s .z (.s (.s .z (.b (.l [(5,.one (.int .i64))] .z))) (.s (.s .z (.b (.l [(6,.one (.int .i64))] .z))) .z)))) (by kernel_rfl) H

end Go.VC
end

section
/- Contracts: configurations: proper; the start. (Numbers of layer 27's development dump.) -/
namespace Go.VC
open Go.Proofs Go.LexS
structure Bx where
 s:Sl
 l:List Int
def Bx.cs (q:Bx):List Value:=slC q.s
def Bx.it (q:Bx):It:=.sl q.s 3 1 (q.l.map inC)
structure CfI (h:Heap) (ss sb:Sl) (S:List Int) (B:List Bx):Prop where
 s:RL h 1 ss inC S
 b:RL h 1 sb Bx.cs B
 i:∀ q ∈ B,RL h 1 q.s inC q.l
theorem CfI.ext {h h':Heap} {ss sb:Sl} {S:List Int} {B:List Bx} (hs:CfI h ss sb S B) (E:Ext h h'):CfI h' ss sb S B:=⟨hs.s.ext E,hs.b.ext E,fun x hx=>(hs.i x hx).ext E⟩
structure PropS (L:List Mch) (k:Int) (S:List Int) (B:List (List Int)):Prop where
 s:S.length=L.length
 b:B.length=L.length*L.length
 st:∀ (p:Nat) s m,S[p]?=some s->L[p]?=some m->0<=s/\s<m.n
 bx:∀ (i:Nat) b,B[i]?=some b->(b.length:Int)<=k/\(i / L.length=i % L.length->b=[])/\∀ x ∈ b,0<=x/\x<40
theorem cal91:callable Pz 91=true:=by kernel_rfl
theorem index130 (L:List Int) (s:Sl) (h:Heap) (hr:Rw h 1 s (L.map inC)) (hl:L.length<=1048576) :
  Fn Pz 130 #[.slice s.a s.n s.c,.func (.func 91) #[] #[]] h fun v h'=>(∃ k:Int,v=.int .i64 k/\(0<=k ↔ ¬ ∀ x ∈ L,0<=x/\x<40))/\Ext h h':=by
 apply vc130 s 91; unfold W130
 have hn:=hr.ln
 refine up_loop (n:=s.n) (fun i h'=>Ext h h'/\∀ (j:Nat) (x:Int),j<i->L[j]?=some x->0<=x/\x<40) ⟨.rfl',fun j x hj=>by omega⟩ ?_
 rintro - i h5 hi ⟨E,hq⟩
 refine sB_intro (fun c=>?_) (fun c=>?_)
 ·
  replace c:=lt_t c
  refine (hr.ext E).nbI (by omega) (by omega) fun b6 o7 x gx t14=>?_
  replace gx:L[i]?=some x:=gx
  refine ⟨_,t14.hd,?_⟩
  rw [cal91,cond_true]
  apply vc91 x; unfold W91
  have hm:=Yb gx
  refine sBi (fun c2=>⟨_,rfl,sB_t rfl ⟨⟨_,rfl,iff_of_true (by omega) fun hall=>by have:=hall x hm; omega⟩,E⟩⟩) (fun c2=>⟨_,rfl,sBi (fun c3=>?_) (fun c3=>?_)⟩)
  ·
   exact ⟨⟨_,rfl,iff_of_true (by omega) fun hall=>by have:=hall x hm; omega⟩,E⟩
  ·
   refine Up.next (by omega) (by omega) ⟨E,fun j y hj hy=>?_⟩
   by_cases e:j=i
   ·
    subst e; rw [gx] at hy; cases hy; omega
   ·
    exact hq j y (by omega) hy
 ·
  replace c:=lt_f c
  refine ⟨⟨_,rfl,iff_of_false (by omega) fun hall=>hall fun x hx=>?_⟩,E⟩
  obtain ⟨j,hj⟩:=Yf.1 hx
  exact hq j x (by have:=(Ya.1 hj).1; omega) hj
theorem any90 (L:List Int) (s:Sl) (h:Heap) (hr:Rw h 1 s (L.map inC)) (hl:L.length<=1048576) :
  Fn Pz 90 #[.slice s.a s.n s.c,.func (.func 91) #[] #[]] h (RP (¬ ∀ x ∈ L,0<=x/\x<40) h):=by
 apply vc90 s 91; unfold W90
 refine (index130 L s h hr hl).mono ?_
 rintro _ h3 ⟨⟨k,rfl,hk⟩,E⟩
 exact ⟨_,rfl,RP.e (by rw [decide_eq_true_eq]; exact hk) E⟩
theorem capacity53 (k:Int) (h:Heap):Fn Pz 53 #[.int .i64 k] h (RP (1<=k/\k<=4) h):=by
 apply vc53 k; unfold W53
 exact sBi (fun c=>RP.e (by rw [decide_eq_true_eq]; omega) .rfl') (fun c=>RP.f (by omega) .rfl')
theorem tdiv_nat (a n:Nat):Int.tdiv (a:Int) (n:Int)=((a / n:Nat):Int):=rfl
theorem tmod_nat (a n:Nat):Int.tmod (a:Int) (n:Int)=((a % n:Nat):Int):=rfl
theorem sq6 {n:Nat} (h:n<=6):n*n<=36:=Nat.mul_le_mul h h
set_option maxHeartbeats 1600000 in
theorem proper54 (L:List MR) (s:Sl) (k:Int) (ss sb:Sl) (S:List Int) (B:List Bx) (h:Heap) (hS:SyI h s L) (hV:SysV (L.map MR.m)) (hC:CfI h ss sb S B) :
  Fn Pz 54 #[.slice s.a s.n s.c,.int .i64 k,.agg ⟨[.slice ss.a ss.n ss.c,.slice sb.a sb.n sb.c]⟩] h (RP (PropS (L.map MR.m) k S (B.map Bx.l)) h):=by
 apply vc54 s k ss sb; unfold W54
 have hn:=hS.r.ln
 have hsn:=hC.s.ln
 have hbn:=hC.b.ln
 have hlm:(L.map MR.m).length=L.length:=Yc _
 have hbm:(B.map Bx.l).length=B.length:=Yc _
 have hV6:=hV.n
 rw [hlm] at hV6
 have h36:=sq6 hV6.2
 have hsq:(s.n:Int)*(s.n:Int)=((L.length*L.length:Nat):Int):=by rw [hn]; rfl
 refine (St.refl h).newb fun h3 hs=>?_
 refine ⟨ss,hs.rd 0 rfl rfl,sBn (fun c=>RP.f (fun hG=>by have:=hG.s; rw [hlm] at this; omega) hs.ext) (fun c1=>?_)⟩
 refine ⟨sb,hs.rd 0 rfl (i:=1) rfl,?_⟩
 rw [hsq,w64 (n:=((L.length*L.length:Nat):Int)) (by omega) (by omega)]
 refine sBn (fun c=>RP.f (fun hG=>by have:=hG.b; rw [hlm,hbm] at this; omega) hs.ext) (fun c2=>?_)
 refine ⟨ss,hs.rd 0 rfl rfl,?_⟩
 refine up_loopS (n:=ss.n) hs (fun i=>∀ (j:Nat) (x:Int) m,j<i->S[j]?=some x->(L.map MR.m)[j]?=some m->0<=x/\x<m.n) (fun j x m hj=>by omega) ?_
 rintro - i h11 hi ⟨hs,hq⟩
 refine sB_intro (fun c=>?_) (fun c=>?_)
 ·
  replace c:=lt_t c
  refine (hC.s.rw.ext hs.ext).nbI (by omega) (by omega) fun b o x gx t=>?_
  replace gx:S[i]?=some x:=gx
  obtain ⟨y,gy⟩:=get_some (l:=L) (i:=i) (by omega)
  have gm:(L.map MR.m)[i]?=some y.m:=by rw [Yd,gy]; rfl
  refine ⟨_,t.hd,sBi (fun c3=>RP.f (fun hG=>by have:=hG.st i x y.m gx gm; omega) hs.ext) (fun c3=>?_)⟩
  refine (hS.r.rw.ext hs.ext).nbI (by omega) (by omega) fun b2 o2 y' gy' t2=>?_
  replace gy':L[i]?=some y':=gy'
  rw [gy] at gy'; cases gy'
  refine ⟨_,t2.nth 1 rfl,sBi (fun c4=>RP.f (fun hG=>by have:=hG.st i x y.m gx gm; omega) hs.ext) (fun c4=>?_)⟩
  refine Up.next (by omega) (by omega) ⟨hs,fun j x' m' hj hx' hm'=>?_⟩
  by_cases e:j=i
  ·
   subst e; rw [gx] at hx'; rw [gm] at hm'; cases hx'; cases hm'; omega
  ·
   exact hq j x' m' (by omega) hx' hm'
 ·
  replace c:=lt_f c
  refine ⟨sb,hs.rd 0 rfl (i:=1) rfl,?_⟩
  refine up_loopS (n:=sb.n) hs (fun i=>∀ (j:Nat) (q:Bx),j<i->B[j]?=some q->(q.l.length:Int)<=k/\(j / L.length=j % L.length->q.l=[])/\∀ x ∈ q.l,0<=x/\x<40) (fun j x hj=>by omega) ?_
  rintro - i2 h24 hi2 ⟨hs,hq2⟩
  refine sB_intro (fun d=>?_) (fun d=>?_)
  ·
   replace d:=lt_t d
   refine (hC.b.rw.ext hs.ext).nbI (by omega) (by omega) fun b o q gq t=>?_
   replace gq:B[i2]?=some q:=gq
   have gl:(B.map Bx.l)[i2]?=some q.l:=by rw [Yd,gq]; rfl
   have hqi:=hC.i q (Yb gq)
   have hql:=hqi.ln
   refine ⟨q.s,t.hd,sBi (fun c5=>RP.f (fun hG=>by have:=(hG.bx i2 q.l gl).1; omega) hs.ext) (fun c5=>⟨by omega,by omega,?_⟩)⟩
   have hdl:=Nat.div_le_self i2 L.length
   have hd1:(0:Int)<=((i2 / L.length:Nat):Int):=Int.natCast_nonneg _
   have hd2:((i2 / L.length:Nat):Int)<=(i2:Int):=Int.ofNat_le.2 hdl
   rw [hn,tdiv_nat,tmod_nat,w64 (n:=((i2 / L.length:Nat):Int)) (by omega) (by omega)]
   have go:∀ {h25:Heap},Ext h24 h25->(i2 / L.length=i2 % L.length->q.l=[])->St h h25 [.blk h.size [.slice ss.a ss.n ss.c,.slice sb.a sb.n sb.c] 29]->Fn Pz 90 #[.slice q.s.a q.s.n q.s.c,.func (.func 91) #[] #[]] h25 (RP (¬ ∀ x ∈ q.l,0<=x/\x<40) h25):=fun _ _ hs=>any90 q.l q.s _ (hqi.rw.ext hs.ext) hqi.sm
   have fin:∀ {h34:Heap} {b1:Bool},(i2 / L.length=i2 % L.length->q.l=[])->St h h34 [.blk h.size [.slice ss.a ss.n ss.c,.slice sb.a sb.n sb.c] 29]->(b1=true ↔ ¬ ∀ x ∈ q.l,0<=x/\x<40)->sB b1 (RP (PropS (L.map MR.m) k S (B.map Bx.l)) h (.bool false) h34) (∃ m35,m35<sb.n - i2/\Up sb.n (fun i h'=>St h h' [.blk h.size [.slice ss.a ss.n ss.c,.slice sb.a sb.n sb.c] 29]/\∀ (j:Nat) (q:Bx),j<i->B[j]?=some q->(q.l.length:Int)<=k/\(j / L.length=j % L.length->q.l=[])/\∀ x ∈ q.l,0<=x/\x<40) (IntKind.wrap .i64 ((i2:Int)+1)) h34 m35):=fun hd hs hb=>by
    refine sB_intro (fun c6=>RP.f (fun hG=>hb.1 c6 (hG.bx i2 q.l gl).2.2) hs.ext) (fun c6=>?_)
    refine Up.next (by omega) (by omega) ⟨hs,fun j q' hj hq'=>?_⟩
    by_cases e:j=i2
    ·
     subst e; rw [gq] at hq'; cases hq'
     refine ⟨by omega,hd,Classical.byContradiction fun hn=>?_⟩
     rw [hb.2 hn] at c6; cases c6
    ·
     exact hq2 j q' (by omega) hq'
   refine sBe (fun c7=>?_) (fun c7=>?_)
   ·
    refine sBi (fun c8=>RP.f (fun hG=>?_) hs.ext) (fun c8=>?_)
    ·
     have:=(hG.bx i2 q.l gl).2.1 (by rw [hlm]; exact Int.ofNat_inj.1 c7)
     rw [this] at hql
     simp only [List.length_nil] at hql
     omega
    ·
     have hd:i2 / L.length=i2 % L.length->q.l=[]:=fun _=>List.eq_nil_of_length_eq_zero (by omega)
     refine (go .rfl' hd hs).mono ?_
     rintro _ h30 ⟨⟨b1,rfl,hb1⟩,E⟩
     exact ⟨_,rfl,fin hd (hs.step E) hb1⟩
   ·
    have hd:i2 / L.length=i2 % L.length->q.l=[]:=fun e=>absurd (by rw [e]) c7
    refine (go .rfl' hd hs).mono ?_
    rintro _ h30 ⟨⟨b1,rfl,hb1⟩,E⟩
    exact ⟨_,rfl,fin hd (hs.step E) hb1⟩
  ·
   replace d:=lt_f d
   refine RP.t ⟨by omega,by rw [hbm,hlm,<- hbn]; exact Int.ofNat_inj.1 c2,fun p x m hx hm=>?_,fun j b hb=>?_⟩ hs.ext
   ·
    exact hq p x m (by have:=(Ya.1 hx).1; omega) hx hm
   ·
    rw [Yd] at hb
    obtain ⟨q,gq,rfl⟩:=Yya.1 hb
    rw [hlm]
    exact hq2 j q (by have:=(Ya.1 gq).1; omega) gq
structure ProS (L:List Mch) (k:Int) (S:List Int) (B:List (List Int)):Prop where
 v:SysV L
 c:1<=k/\k<=4
 p:PropS L k S B
theorem proper24 (L:List MR) (s:Sl) (k:Int) (ss sb:Sl) (S:List Int) (B:List Bx) (h:Heap) (hS:SyI h s L) (hC:CfI h ss sb S B) :
  Fn Pz 24 #[.slice s.a s.n s.c,.int .i64 k,.agg ⟨[.slice ss.a ss.n ss.c,.slice sb.a sb.n sb.c]⟩] h (RP (ProS (L.map MR.m) k S (B.map Bx.l)) h):=by
 apply vc24 s k ss sb; unfold W24
 refine (St.refl h).newb fun h3 hs=>?_
 refine (valid22 L s h3 (hS.ext hs.ext)).mono ?_
 rintro _ h6 ⟨⟨b1,rfl,hb1⟩,E⟩
 have hs:=hs.step E
 refine ⟨_,rfl,sB_intro (fun c1=>?_) (fun c1=>RP.f (fun hG=>iff_f hb1 c1 hG.v) hs.ext)⟩
 refine (capacity53 k h6).mono ?_
 rintro _ h9 ⟨⟨b2,rfl,hb2⟩,E⟩
 have hs:=hs.step E
 refine ⟨_,rfl,sB_intro (fun c2=>?_) (fun c2=>RP.f (fun hG=>iff_f hb2 c2 hG.c) hs.ext)⟩
 refine ⟨ss,sb,hs.at 0 rfl (o:=0) (n:=2) rfl,?_⟩
 refine (proper54 L s k ss sb S B h9 (hS.ext hs.ext) (hb1.1 c1) (hC.ext hs.ext)).mono ?_
 rintro _ h14 ⟨⟨b3,rfl,hb3⟩,E⟩
 have hs:=hs.step E
 exact ⟨_,rfl,RP.e (hb3.trans ⟨fun hp=>⟨hb1.1 c1,hb2.1 c2,hp⟩,fun hp=>hp.p⟩) hs.ext⟩
end Go.VC
end

section
/- Contracts: the reference's systems and configurations; equality; few. (Numbers of layer 27's development dump.) -/
namespace Go.VC
open Go.Proofs Go.LexS
theorem refSys23 (L:List MR) (s:Sl) (h:Heap) (hS:SyI h s L):Fn Pz 23 #[.slice s.a s.n s.c] h (RP (SysV (L.map MR.m)) h):=by
 apply vc23 s; unfold W23
 have hn:=hS.r.ln
 have hlm:(L.map MR.m).length=L.length:=Yc _
 have hs:=St.refl h
 refine sBi (fun c=>RP.f (fun hG=>by have:=hG.n; omega) .rfl') (fun c1=>?_)
 refine sBi (fun c=>RP.f (fun hG=>by have:=hG.n; omega) .rfl') (fun c2=>?_)
 refine up_loopS (n:=s.n) hs (fun i=>∀ (j:Nat) (x:MR),j<i->L[j]?=some x->x.m.role=(j:Int)/\VM x.m/\∀ y ∈ x.m.mv,y.peer<(L.length:Int)) (fun j x hj=>by omega) ?_
 rintro - i h9 hi ⟨hs,hq⟩
 refine sB_intro (fun c=>?_) (fun c=>?_)
 ·
  replace c:=lt_t c
  refine (hS.r.rw.ext hs.ext).nbI (by omega) (by omega) fun b o x gx t=>?_
  replace gx:L[i]?=some x:=gx
  have hxi:=hS.i x (Yb gx)
  have hmx:(L.map MR.m)[i]?=some x.m:=by rw [Yd,gx]; rfl
  have hgn:=hxi.pm.ln
  have hgm:=hxi.pm.sm
  refine ⟨_,_,_,_,_,_,t,?_⟩
  refine (refValid24 x.m x.f x.g x.l h9 (hxi.ext hs.ext)).mono ?_
  rintro _ h16 ⟨⟨b1,rfl,hb1⟩,E⟩
  have hs:=hs.step E
  refine ⟨_,rfl,sB_intro (fun c=>RP.f (fun hG=>iff_f hb1 (bF c) (hG.m i x.m hmx).2.1) hs.ext) (fun c4=>?_)⟩
  refine (hS.r.rw.ext hs.ext).nbI (by omega) (by omega) fun b2 o2 x2 gx2 t2=>?_
  replace gx2:L[i]?=some x2:=gx2
  rw [gx] at gx2; cases gx2
  refine ⟨_,t2.hd,sBn (fun c=>RP.f (fun hG=>c (hG.m i x.m hmx).1) hs.ext) (fun c3=>?_)⟩
  refine up_loopS (n:=x.g.n) hs (fun k=>∀ (j:Nat) (y:Mv),j<k->x.m.mv[j]?=some y->y.peer<(L.length:Int)) (fun j y hj=>by omega) ?_
  rintro - k h24 hk ⟨hs,hq2⟩
  refine (hS.r.rw.ext hs.ext).nbI (by omega) (by omega) fun b3 o3 x3 gx3 t3=>?_
  replace gx3:L[i]?=some x3:=gx3
  rw [gx] at gx3; cases gx3
  refine ⟨x.g,t3.nth 4 rfl,sB_intro (fun d=>?_) (fun d=>?_)⟩
  ·
   replace d:=lt_t d
   refine (hS.r.rw.ext hs.ext).nbI (by omega) (by omega) fun b4 o4 x4 gx4 t4=>?_
   replace gx4:L[i]?=some x4:=gx4
   rw [gx] at gx4; cases gx4
   refine ⟨x.g,t4.nth 4 rfl,?_⟩
   refine (hxi.pm.rw.ext hs.ext).nbI (by omega) (by omega) fun b5 o5 y gy t5=>?_
   replace gy:x.m.mv[k]?=some y:=gy
   refine ⟨_,t5.nth 2 rfl,sBi (fun c5=>RP.f (fun hG=>by have:=(hG.m i x.m hmx).2.2 y (Yb gy); omega) hs.ext) (fun c5=>?_)⟩
   refine Up.next (by omega) (by omega) ⟨hs,fun j z hj hz=>?_⟩
   by_cases e:j=k
   ·
    subst e; rw [gy] at hz; cases hz; omega
   ·
    exact hq2 j z (by omega) hz
  ·
   replace d:=lt_f d
   refine Up.next (by omega) (by omega) ⟨hs,fun j y hj hy=>?_⟩
   by_cases e:j=i
   ·
    subst e; rw [gx] at hy; cases hy
    refine ⟨c3,hb1.1 (bT c4),fun z hz=>?_⟩
    obtain ⟨q,hqz⟩:=Yf.1 hz
    exact hq2 q z (by have:=(Ya.1 hqz).1; omega) hqz
   ·
    exact hq j y (by omega) hy
 ·
  replace c:=lt_f c
  refine RP.t ⟨by omega,fun p m hm=>?_⟩ hs.ext
  rw [Yd] at hm
  obtain ⟨x,hx,rfl⟩:=Yya.1 hm
  rw [hlm]
  exact hq p x (by have:=(Ya.1 hx).1; omega) hx
theorem diag_lt {n i:Nat} (h:i<n):n*i+i<n*n:=by
 have h1:n*(i+1)<=n*n:=Nat.mul_le_mul_left _ (by omega)
 rw [Nat.mul_succ] at h1; omega
set_option maxHeartbeats 1600000 in
theorem shaped55 (L:List MR) (s:Sl) (k:Int) (ss sb:Sl) (S:List Int) (B:List Bx) (h:Heap) (hS:SyI h s L) (hV:SysV (L.map MR.m)) (hC:CfI h ss sb S B) :
  Fn Pz 55 #[.slice s.a s.n s.c,.int .i64 k,.agg ⟨[.slice ss.a ss.n ss.c,.slice sb.a sb.n sb.c]⟩] h (RP ((1<=k/\k<=4)/\PropS (L.map MR.m) k S (B.map Bx.l)) h):=by
 apply vc55 s k ss sb; unfold W55
 have hn:=hS.r.ln
 have hsn:=hC.s.ln
 have hbn:=hC.b.ln
 have hlm:(L.map MR.m).length=L.length:=Yc _
 have hbm:(B.map Bx.l).length=B.length:=Yc _
 have hV6:=hV.n
 rw [hlm] at hV6
 have h36:=sq6 hV6.2
 have hsq:(s.n:Int)*(s.n:Int)=((L.length*L.length:Nat):Int):=by rw [hn]; rfl
 refine (St.refl h).newb fun h3 hs=>?_
 refine sBi (fun c=>RP.f (fun hG=>by have:=hG.1; omega) hs.ext) (fun k1=>sBi (fun c=>RP.f (fun hG=>by have:=hG.1; omega) hs.ext) (fun k4=>?_))
 refine ⟨ss,hs.rd 0 rfl rfl,sBn (fun c=>RP.f (fun hG=>by have:=hG.2.s; rw [hlm] at this; omega) hs.ext) (fun c1=>?_)⟩
 refine ⟨sb,hs.rd 0 rfl (i:=1) rfl,?_⟩
 rw [hsq,w64 (n:=((L.length*L.length:Nat):Int)) (by omega) (by omega)]
 refine sBn (fun c=>RP.f (fun hG=>by have:=hG.2.b; rw [hlm,hbm] at this; omega) hs.ext) (fun c2=>?_)
 have hbL:B.length=L.length*L.length:=by rw [<- hbn]; exact Int.ofNat_inj.1 c2
 refine up_loopS (n:=s.n) hs (fun i=>∀ (j:Nat),j<i->(∀ (x:Int) m,S[j]?=some x->(L.map MR.m)[j]?=some m->0<=x/\x<m.n)/\∀ q,B[L.length*j+j]?=some q->q.l=[]) (fun j hj=>by omega) ?_
 rintro - i h11 hi ⟨hs,hq⟩
 refine sB_intro (fun c=>?_) (fun c=>?_)
 ·
  replace c:=lt_t c
  have hiL:i<L.length:=by omega
  have hdi:=diag_lt hiL
  refine ⟨ss,hs.rd 0 rfl rfl,?_⟩
  refine (hC.s.rw.ext hs.ext).nbI (by omega) (by omega) fun b o x gx t=>?_
  replace gx:S[i]?=some x:=gx
  obtain ⟨y,gy⟩:=get_some (l:=L) (i:=i) (by omega)
  have gm:(L.map MR.m)[i]?=some y.m:=by rw [Yd,gy]; rfl
  refine ⟨_,t.hd,sBi (fun c3=>RP.f (fun hG=>by have:=hG.2.st i x y.m gx gm; omega) hs.ext) (fun c3=>?_)⟩
  refine ⟨ss,hs.rd 0 rfl rfl,?_⟩
  refine (hC.s.rw.ext hs.ext).nbI (by omega) (by omega) fun b' o' x' gx' t'=>?_
  replace gx':S[i]?=some x':=gx'
  rw [gx] at gx'; cases gx'
  refine ⟨_,t'.hd,?_⟩
  refine (hS.r.rw.ext hs.ext).nbI (by omega) (by omega) fun b2 o2 y' gy' t2=>?_
  replace gy':L[i]?=some y':=gy'
  rw [gy] at gy'; cases gy'
  refine ⟨_,t2.nth 1 rfl,sBi (fun c4=>RP.f (fun hG=>by have:=hG.2.st i x y.m gx gm; omega) hs.ext) (fun c4=>?_)⟩
  refine ⟨sb,hs.rd 0 rfl (i:=1) rfl,?_⟩
  have hm36:L.length*i<=36:=Yys (Nat.mul_le_mul hV6.2 (by omega:i<=6)) (by decide)
  have e1:(s.n:Int)*(i:Int)=((L.length*i:Nat):Int):=by rw [hn]; rfl
  have e2:((L.length*i:Nat):Int)+(i:Int)=((L.length*i+i:Nat):Int):=rfl
  rw [e1,w64 (n:=((L.length*i:Nat):Int)) (by omega) (by omega),e2,w64 (n:=((L.length*i+i:Nat):Int)) (by omega) (by omega)]
  refine (hC.b.rw.ext hs.ext).nbI (Int.natCast_nonneg _) (Int.ofNat_lt.2 (by rw [hbn,hbL]; exact hdi)) fun b3 o3 q gq t3=>?_
  rw [Ys] at gq
  replace gq:B[L.length*i+i]?=some q:=gq
  have gl:(B.map Bx.l)[L.length*i+i]?=some q.l:=by rw [Yd,gq]; rfl
  have hql:=(hC.i q (Yb gq)).ln
  have hdv:(L.length*i+i) / L.length=i:=by rw [Nat.mul_add_div (by omega),Nat.div_eq_of_lt hiL]; rfl
  have hdm:(L.length*i+i) % L.length=i:=by rw [Nat.mul_add_mod,Nat.mod_eq_of_lt hiL]
  refine ⟨q.s,t3.hd,sBi (fun c5=>RP.f (fun hG=>?_) hs.ext) (fun c5=>?_)⟩
  ·
   have:=(hG.2.bx _ q.l gl).2.1 (by rw [hlm,hdv,hdm])
   rw [this] at hql
   simp only [List.length_nil] at hql
   omega
  ·
   refine Up.next (by omega) (by omega) ⟨hs,fun j hj=>?_⟩
   by_cases e:j=i
   ·
    subst e
    refine ⟨fun x' m' hx' hm'=>?_,fun q' hq'=>?_⟩
    ·
     rw [gx] at hx'; rw [gm] at hm'; cases hx'; cases hm'; omega
    ·
     rw [gq] at hq'; cases hq'; exact List.eq_nil_of_length_eq_zero (by omega)
   ·
    exact hq j (by omega)
 ·
  replace c:=lt_f c
  refine up_loopS (n:=sb.n) hs (fun i=>∀ (j:Nat) (q:Bx),j<i->B[j]?=some q->(q.l.length:Int)<=k/\∀ x ∈ q.l,0<=x/\x<40) (fun j x hj=>by omega) ?_
  rintro - i2 h24 hi2 ⟨hs,hq2⟩
  refine ⟨sb,hs.rd 0 rfl (i:=1) rfl,sB_intro (fun d=>?_) (fun d=>?_)⟩
  ·
   replace d:=lt_t d
   refine ⟨sb,hs.rd 0 rfl (i:=1) rfl,?_⟩
   refine (hC.b.rw.ext hs.ext).nbI (by omega) (by omega) fun b o q gq t=>?_
   replace gq:B[i2]?=some q:=gq
   have gl:(B.map Bx.l)[i2]?=some q.l:=by rw [Yd,gq]; rfl
   have hqi:=hC.i q (Yb gq)
   have hql:=hqi.ln
   have hqm:=hqi.sm
   refine ⟨q.s,t.hd,sBi (fun c5=>RP.f (fun hG=>by have:=(hG.2.bx i2 q.l gl).1; omega) hs.ext) (fun c5=>?_)⟩
   refine up_loopS (n:=q.s.n) hs (fun i=>∀ (j:Nat) (x:Int),j<i->q.l[j]?=some x->0<=x/\x<40) (fun j x hj=>by omega) ?_
   rintro - j h41 hj ⟨hs,hq3⟩
   refine ⟨sb,hs.rd 0 rfl (i:=1) rfl,?_⟩
   refine (hC.b.rw.ext hs.ext).nbI (by omega) (by omega) fun b4 o4 q4 gq4 t4=>?_
   replace gq4:B[i2]?=some q4:=gq4
   rw [gq] at gq4; cases gq4
   refine ⟨q.s,t4.hd,sB_intro (fun f=>?_) (fun f=>?_)⟩
   ·
    replace f:=lt_t f
    refine ⟨sb,hs.rd 0 rfl (i:=1) rfl,?_⟩
    refine (hC.b.rw.ext hs.ext).nbI (by omega) (by omega) fun b5 o5 q5 gq5 t5=>?_
    replace gq5:B[i2]?=some q5:=gq5
    rw [gq] at gq5; cases gq5
    refine ⟨q.s,t5.hd,?_⟩
    refine (hqi.rw.ext hs.ext).nbI (by omega) (by omega) fun b6 o6 x gx t6=>?_
    replace gx:q.l[j]?=some x:=gx
    have hxm:=Yb gx
    refine ⟨_,t6.hd,sBi (fun c6=>RP.f (fun hG=>by have:=(hG.2.bx i2 q.l gl).2.2 x hxm; omega) hs.ext) (fun c6=>?_)⟩
    refine ⟨sb,hs.rd 0 rfl (i:=1) rfl,?_⟩
    refine (hC.b.rw.ext hs.ext).nbI (by omega) (by omega) fun b7 o7 q7 gq7 t7=>?_
    replace gq7:B[i2]?=some q7:=gq7
    rw [gq] at gq7; cases gq7
    refine ⟨q.s,t7.hd,?_⟩
    refine (hqi.rw.ext hs.ext).nbI (by omega) (by omega) fun b8 o8 x8 gx8 t8=>?_
    replace gx8:q.l[j]?=some x8:=gx8
    rw [gx] at gx8; cases gx8
    refine ⟨_,t8.hd,sBi (fun c7=>RP.f (fun hG=>by have:=(hG.2.bx i2 q.l gl).2.2 x hxm; omega) hs.ext) (fun c7=>?_)⟩
    refine Up.next (by omega) (by omega) ⟨hs,fun j' x' hj' hx'=>?_⟩
    by_cases e:j'=j
    ·
     subst e; rw [gx] at hx'; cases hx'; omega
    ·
     exact hq3 j' x' (by omega) hx'
   ·
    replace f:=lt_f f
    refine Up.next (by omega) (by omega) ⟨hs,fun j' q' hj' hq'=>?_⟩
    by_cases e:j'=i2
    ·
     subst e; rw [gq] at hq'; cases hq'
     refine ⟨by omega,fun x hx=>?_⟩
     obtain ⟨p,hp⟩:=Yf.1 hx
     exact hq3 p x (by have:=(Ya.1 hp).1; omega) hp
    ·
     exact hq2 j' q' (by omega) hq'
  ·
   replace d:=lt_f d
   refine RP.t ⟨by omega,by omega,by rw [hbm,hlm]; exact hbL,fun p x m hx hm=>?_,fun j b hb=>?_⟩ hs.ext
   ·
    exact (hq p (by have:=(Ya.1 hx).1; omega)).1 x m hx hm
   ·
    rw [Yd] at hb
    obtain ⟨q,gq,rfl⟩:=Yya.1 hb
    rw [hlm]
    have hj:=(Ya.1 gq).1
    obtain ⟨g1,g2⟩:=hq2 j q (by omega) gq
    refine ⟨g1,fun e=>?_,g2⟩
    have hjl:j / L.length<L.length:=Nat.div_lt_of_lt_mul (by omega)
    have hje:L.length*(j / L.length)+j / L.length=j:=by
     have:=Nat.div_add_mod j L.length
     rw [<- e] at this; exact this
    exact (hq (j / L.length) (by omega)).2 q (by rw [hje]; exact gq)
theorem refProper25 (L:List MR) (s:Sl) (k:Int) (ss sb:Sl) (S:List Int) (B:List Bx) (h:Heap) (hS:SyI h s L) (hC:CfI h ss sb S B) :
  Fn Pz 25 #[.slice s.a s.n s.c,.int .i64 k,.agg ⟨[.slice ss.a ss.n ss.c,.slice sb.a sb.n sb.c]⟩] h (RP (ProS (L.map MR.m) k S (B.map Bx.l)) h):=by
 apply vc25 s k ss sb; unfold W25
 refine (St.refl h).newb fun h3 hs=>?_
 refine (refSys23 L s h3 (hS.ext hs.ext)).mono ?_
 rintro _ h6 ⟨⟨b1,rfl,hb1⟩,E⟩
 have hs:=hs.step E
 refine ⟨_,rfl,sB_intro (fun c1=>?_) (fun c1=>RP.f (fun hG=>iff_f hb1 c1 hG.v) hs.ext)⟩
 refine ⟨ss,sb,hs.at 0 rfl (o:=0) (n:=2) rfl,?_⟩
 refine (shaped55 L s k ss sb S B h6 (hS.ext hs.ext) (hb1.1 c1) (hC.ext hs.ext)).mono ?_
 rintro _ h14 ⟨⟨b3,rfl,hb3⟩,E⟩
 have hs:=hs.step E
 exact ⟨_,rfl,RP.e (hb3.trans ⟨fun hp=>⟨hb1.1 c1,hp.1,hp.2⟩,fun hp=>⟨hp.c,hp.p⟩⟩) hs.ext⟩
theorem same34 (X Y:List Int) (a b:Sl) (h:Heap) (hX:RL h 1 a inC X) (hY:RL h 1 b inC Y):Fn Pz 34 #[.slice a.a a.n a.c,.slice b.a b.n b.c] h (RP (X=Y) h):=by
 apply vc34 a b; unfold W34
 have ha:=hX.ln
 have hb:=hY.ln
 have hsm:=hX.sm
 refine sBn (fun c=>RP.f (fun hG=>by rw [hG] at ha; omega) .rfl') (fun c1=>?_)
 refine up_loopS (n:=a.n) (St.refl h) (fun i=>∀ (j:Nat),j<i->X[j]?=Y[j]?) (fun j hj=>by omega) ?_
 rintro - i h5 hi ⟨hs,hq⟩
 refine sB_intro (fun c=>?_) (fun c=>?_)
 ·
  replace c:=lt_t c
  refine (hX.rw.ext hs.ext).nbI (by omega) (by omega) fun b1 o1 x gx t1=>?_
  replace gx:X[i]?=some x:=gx
  refine ⟨_,t1.hd,?_⟩
  refine (hY.rw.ext hs.ext).nbI (by omega) (by omega) fun b2 o2 y gy t2=>?_
  replace gy:Y[i]?=some y:=gy
  refine ⟨_,t2.hd,sBn (fun c2=>RP.f (fun hG=>by rw [hG,gy] at gx; cases gx; exact c2 rfl) hs.ext) (fun c2=>?_)⟩
  refine Up.next (by omega) (by omega) ⟨hs,fun j hj=>?_⟩
  by_cases e:j=i
  ·
   subst e; rw [gx,gy,c2]
  ·
   exact hq j (by omega)
 ·
  replace c:=lt_f c
  refine RP.t (Yyr fun j=>?_) hs.ext
  by_cases hj:j<X.length
  ·
   exact hq j (by omega)
  ·
   rw [Yl (by omega),Yl (by omega)]
end Go.VC
end

section
/- Contracts: equality of configurations; few; the start configuration. (Numbers of layer 27's development dump.) -/
namespace Go.VC
open Go.Proofs Go.LexS
set_option maxHeartbeats 800000 in
theorem sameC19 (a1 b1 a2 b2:Sl) (S1 S2:List Int) (B1 B2:List Bx) (h:Heap) (h1:CfI h a1 b1 S1 B1) (h2:CfI h a2 b2 S2 B2) :
  Fn Pz 19 #[.agg ⟨[.slice a1.a a1.n a1.c,.slice b1.a b1.n b1.c]⟩,.agg ⟨[.slice a2.a a2.n a2.c,.slice b2.a b2.n b2.c]⟩] h (RP (S1=S2/\B1.map Bx.l=B2.map Bx.l) h):=by
 apply vc19 a1 b1 a2 b2; unfold W19
 have n1:=h1.b.ln
 have n2:=h2.b.ln
 have m1:=h1.b.sm
 refine (St.refl h).newb fun h5 hs=>?_
 refine hs.newb fun h6 hs=>?_
 refine ⟨a1,hs.rd 1 rfl rfl,a2,hs.rd 0 rfl rfl,?_⟩
 refine (same34 S1 S2 a1 a2 h6 (h1.s.ext hs.ext) (h2.s.ext hs.ext)).mono ?_
 rintro _ h11 ⟨⟨b,rfl,hb⟩,E⟩
 have hs:=hs.step E
 refine ⟨_,rfl,sB_intro (fun c=>RP.f (fun hG=>iff_f hb (bF c) hG.1) hs.ext) (fun c0=>?_)⟩
 refine ⟨b1,hs.rd 1 rfl (i:=1) rfl,b2,hs.rd 0 rfl (i:=1) rfl,sBn (fun c=>RP.f (fun hG=>?_) hs.ext) (fun c1=>?_)⟩
 ·
  have:=congrArg List.length hG.2
  rw [Yc,Yc] at this
  omega
 refine up_loopS (n:=b1.n) hs (fun i=>∀ (j:Nat),j<i->(B1.map Bx.l)[j]?=(B2.map Bx.l)[j]?) (fun j hj=>by omega) ?_
 rintro - i h18 hi ⟨hs,hq⟩
 refine ⟨b1,hs.rd 1 rfl (i:=1) rfl,sB_intro (fun c=>?_) (fun c=>?_)⟩
 ·
  replace c:=lt_t c
  refine ⟨b1,hs.rd 1 rfl (i:=1) rfl,?_⟩
  refine (h1.b.rw.ext hs.ext).nbI (by omega) (by omega) fun b3 o3 x gx t3=>?_
  replace gx:B1[i]?=some x:=gx
  refine ⟨x.s,t3.hd,b2,hs.rd 0 rfl (i:=1) rfl,?_⟩
  refine (h2.b.rw.ext hs.ext).nbI (by omega) (by omega) fun b4 o4 y gy t4=>?_
  replace gy:B2[i]?=some y:=gy
  refine ⟨y.s,t4.hd,?_⟩
  refine (same34 x.l y.l x.s y.s h18 ((h1.i x (Yb gx)).ext hs.ext) ((h2.i y (Yb gy)).ext hs.ext)).mono ?_
  rintro _ h30 ⟨⟨b',rfl,hb'⟩,E⟩
  have hs:=hs.step E
  have ex:(B1.map Bx.l)[i]?=some x.l:=by rw [Yd,gx]; rfl
  have ey:(B2.map Bx.l)[i]?=some y.l:=by rw [Yd,gy]; rfl
  refine ⟨_,rfl,sB_intro (fun c=>RP.f (fun hG=>iff_f hb' (bF c) ?_) hs.ext) (fun c2=>?_)⟩
  ·
   rw [hG.2,ey] at ex; exact (Yyp ex).symm
  ·
   refine Up.next (by omega) (by omega) ⟨hs,fun j hj=>?_⟩
   by_cases e:j=i
   ·
    subst e; rw [ex,ey,hb'.1 (bT c2)]
   ·
    exact hq j (by omega)
 ·
  replace c:=lt_f c
  refine RP.t ⟨hb.1 (bT c0),Yyr fun j=>?_⟩ hs.ext
  by_cases hj:j<B1.length
  ·
   exact hq j (by omega)
  ·
   rw [Yl (by rw [Yc]; omega),Yl (by rw [Yc]; omega)]
structure FewC (L:List Mch) (S:List Int) (B:List (List Int)):Prop where
 m:∀ x ∈ L,FewM x
 b:∀ b ∈ B,b.length<=10
 n:L.length<=7/\S.length<=10/\B.length<=50
theorem fewC13 (L:List MR) (s:Sl) (ss sb:Sl) (S:List Int) (B:List Bx) (h:Heap) (hS:SyI h s L) (hC:CfI h ss sb S B) :
  Fn Pz 13 #[.slice s.a s.n s.c,.agg ⟨[.slice ss.a ss.n ss.c,.slice sb.a sb.n sb.c]⟩] h (RP (FewC (L.map MR.m) S (B.map Bx.l)) h):=by
 apply vc13 s ss sb; unfold W13
 have hn:=hS.r.ln
 have hnm:=hS.r.sm
 have hsn:=hC.s.ln
 have hbn:=hC.b.ln
 have hbm:=hC.b.sm
 have hlm:(L.map MR.m).length=L.length:=Yc _
 have hlb:(B.map Bx.l).length=B.length:=Yc _
 refine (St.refl h).newb fun h3 hs=>?_
 refine up_loopS (n:=s.n) hs (fun i=>∀ (j:Nat) (x:MR),j<i->L[j]?=some x->FewM x.m) (fun j x hj=>by omega) ?_
 rintro - i h8 hi ⟨hs,hq⟩
 refine sB_intro (fun c=>?_) (fun c=>?_)
 ·
  replace c:=lt_t c
  refine (hS.r.rw.ext hs.ext).nbI (by omega) (by omega) fun b o x gx t=>?_
  replace gx:L[i]?=some x:=gx
  have hxm:=Yb gx
  refine ⟨_,_,_,_,_,_,t,?_⟩
  refine (few13 x.m x.f x.g x.l h8 ((hS.i x hxm).ext hs.ext)).mono ?_
  rintro _ h19 ⟨⟨b1,rfl,hb1⟩,E⟩
  have hs:=hs.step E
  refine ⟨_,rfl,sB_intro (fun c=>RP.f (fun hG=>iff_f hb1 (bF c) (hG.m x.m (List.mem_map_of_mem hxm))) hs.ext) (fun c2=>?_)⟩
  refine Up.next (by omega) (by omega) ⟨hs,fun j y hj hy=>?_⟩
  by_cases e:j=i
  ·
   subst e; rw [gx] at hy; cases hy; exact hb1.1 (bT c2)
  ·
   exact hq j y (by omega) hy
 ·
  replace c:=lt_f c
  refine up_loopS (n:=sb.n) hs (fun i=>∀ (j:Nat) (q:Bx),j<i->B[j]?=some q->q.l.length<=10) (fun j x hj=>by omega) ?_
  rintro - k h25 hk ⟨hs,hq2⟩
  refine ⟨sb,hs.rd 0 rfl (i:=1) rfl,sB_intro (fun d=>?_) (fun d=>?_)⟩
  ·
   replace d:=lt_t d
   refine ⟨sb,hs.rd 0 rfl (i:=1) rfl,?_⟩
   refine (hC.b.rw.ext hs.ext).nbI (by omega) (by omega) fun b o q gq t=>?_
   replace gq:B[k]?=some q:=gq
   have hqm:=Yb gq
   have hql:=(hC.i q hqm).ln
   refine ⟨q.s,t.hd,sBi (fun c5=>RP.f (fun hG=>by have:=hG.b q.l (List.mem_map_of_mem hqm); omega) hs.ext) (fun c5=>?_)⟩
   refine Up.next (by omega) (by omega) ⟨hs,fun j y hj hy=>?_⟩
   by_cases e:j=k
   ·
    subst e; rw [gq] at hy; cases hy; omega
   ·
    exact hq2 j y (by omega) hy
  ·
   replace d:=lt_f d
   refine sBi (fun c1=>?_) (fun c1=>RP.f (fun hG=>by have:=hG.n; omega) hs.ext)
   refine ⟨ss,hs.rd 0 rfl rfl,sBi (fun c2=>?_) (fun c2=>RP.f (fun hG=>by have:=hG.n; omega) hs.ext)⟩
   refine ⟨sb,hs.rd 0 rfl (i:=1) rfl,RP.e ?_ hs.ext⟩
   rw [decide_eq_true_eq]
   refine ⟨fun c3=>⟨fun x hx=>?_,fun b hb=>?_,by omega⟩,fun hG=>by have:=hG.n; omega⟩
   ·
    obtain ⟨y,hy,rfl⟩:=Yp.1 hx
    obtain ⟨j,hj⟩:=Yf.1 hy
    exact hq j y (by have:=(Ya.1 hj).1; omega) hj
   ·
    obtain ⟨y,hy,rfl⟩:=Yp.1 hb
    obtain ⟨j,hj⟩:=Yf.1 hy
    exact hq2 j y (by have:=(Ya.1 hj).1; omega) hj
def cfA (ss sb:Sl):Value:=.agg ⟨[.slice ss.a ss.n ss.c,.slice sb.a sb.n sb.c]⟩
def startS (L:List Mch):List Int:=L.map fun m=>m.s
def bx0:Bx:=⟨⟨none,0,0⟩,[]⟩
theorem bxrows (B:List Bx):∀ r ∈ B.map Bx.cs,r.length=1:=fun r hr=>by obtain ⟨x,_,rfl⟩:=Yp.1 hr; rfl
theorem inrows' (L:List Int):∀ r ∈ L.map inC,r.length=1:=fun r hr=>by obtain ⟨x,_,rfl⟩:=Yp.1 hr; rfl
def Bx.itq (q:Bx):It:=.q q.s 3 1 (q.l.map inC)
structure CfM (A:List It) (ss sb:Sl) (S:List Int) (B:List Bx):Prop where
 s:It.sl ss 3 1 (S.map inC) ∈ A
 b:It.sl sb 23 1 (B.map Bx.cs) ∈ A
 i:∀ q ∈ B,q=bx0\/q.it ∈ A\/q.itq ∈ A
 n:S.length<=1048576/\B.length<=1048576/\∀ q ∈ B,q.l.length<=1048576
theorem CfM.mono {A A':List It} {ss sb:Sl} {S:List Int} {B:List Bx} (h:CfM A ss sb S B) (hA:∀ i ∈ A,i ∈ A'):CfM A' ss sb S B:=⟨hA _ h.s,hA _ h.b,fun q hq=>(h.i q hq).imp id (Or.imp (hA _) (hA _)),h.n⟩
theorem CfM.cfi {h0 h:Heap} {A:List It} {ss sb:Sl} {S:List Int} {B:List Bx} (hs:St h0 h A) (hM:CfM A ss sb S B):CfI h ss sb S B:=by
 obtain ⟨k,hk⟩:=Yf.1 hM.s
 obtain ⟨k',hk'⟩:=Yf.1 hM.b
 have l1:=hs.len k hk (by omega)
 have l2:=hs.len k' hk' (by omega)
 refine ⟨⟨hs.rows k hk (by omega),l1.2.1,l1.2.2,hM.n.1⟩,⟨hs.rows k' hk' (by omega),l2.2.1,l2.2.2,hM.n.2.1⟩,fun q hq=>?_⟩
 rcases hM.i q hq with rfl | hi | hi
 ·
  exact ⟨Rw.nil,Yyt _,fun _=>⟨rfl,rfl⟩,Nat.zero_le _⟩
 ·
  obtain ⟨j,hj⟩:=Yf.1 hi
  have l3:=hs.len j hj (by omega)
  exact ⟨hs.rows j hj (by omega),l3.2.1,l3.2.2,hM.n.2.2 q hq⟩
 ·
  obtain ⟨j,hj⟩:=Yf.1 hi
  have l3:=hs.qlen j hj
  refine ⟨hs.qrw j hj (by omega),l3.2,fun ha=>?_,hM.n.2.2 q hq⟩
  rcases (hs.get hj).1.2 with ⟨_,h2,h3⟩ | ⟨g,o,cur,hb,_⟩
  ·
   exact ⟨h2,h3⟩
  ·
   rw [ha] at hb; cases hb
theorem CfM.none_:CfM [.sl ⟨none,0,0⟩ 3 1 [],.sl ⟨none,0,0⟩ 23 1 []] ⟨none,0,0⟩ ⟨none,0,0⟩ [] []:=⟨Yx,Yn _ Yx,fun q hq=>(by cases hq),Nat.zero_le _,Nat.zero_le _,fun q hq=>(by cases hq)⟩
end Go.VC
end

section
namespace Go.VC
open Go.Proofs
variable [Mono]
namespace M

def W118 (p0_1:Int) (p0_2:Bool) (p0_3 p0_4 p0_5:Int) (p0_6:Bool) (h:Heap) (R:Value->Heap->Prop):Prop:=
 (Wn h (L0 p0_1 p0_2 p0_3 p0_4 p0_5 p0_6) 108 fun h7=>
 (∃ x8,rB h7 (aS h 1) x8 /\
 (sB x8
 (R (vI 0) h7)
 (R (vI 1) h7))))
theorem vc118 (p0_1:Int) (p0_2:Bool) (p0_3 p0_4 p0_5:Int) (p0_6:Bool) (h:Heap) (R:Value->Heap->Prop) (H:W118 p0_1 p0_2 p0_3 p0_4 p0_5 p0_6 h R):Fn Pz 118 #[.agg ⟨(L0 p0_1 p0_2 p0_3 p0_4 p0_5 p0_6)⟩] h R:=fnI (A:=.z) (by kernel_rfl) H

def W82 (p0_1:Int) (p0_2:Bool) (p0_3 p0_4 p0_5:Int) (p0_6:Bool) (p1_7:Int) (p1_8:Bool) (p1_9 p1_10 p1_11:Int) (p1_12:Bool) (h:Heap) (R:Value->Heap->Prop):Prop:=
 (Wn h (L0 p0_1 p0_2 p0_3 p0_4 p0_5 p0_6) 108 fun h13=>
 (Wn h13 (L0 p1_7 p1_8 p1_9 p1_10 p1_11 p1_12) 108 fun h14=>
 (∃ x15 x16 x17 x18 x19 x20,aL0 h14 (aS h 0) x15 x16 x17 x18 x19 x20 /\
 (∃ x21 x22 x23 x24 x25 x26,aL0 h14 (aS h13 0) x21 x22 x23 x24 x25 x26 /\
 (∃ x27,rI h14 (aS h 2) x27 /\
 (∃ x28,rI h14 (aS h13 2) x28 /\
 (∃ x29,rI h14 (aS h 3) x29 /\
 (∃ x30,rI h14 (aS h13 3) x30 /\
 (Fn Pz 118 #[.agg ⟨(L0 x15 x16 x17 x18 x19 x20)⟩] h14
 (fun v31 h33=>∃ x32,iI v31 x32 /\
 (Sm [(aS h13 3),(aS h 3),(aS h13 2),(aS h 2),(aS h13 0)] h14 h33 /\
 (Fn Pz 118 #[.agg ⟨(L0 x21 x22 x23 x24 x25 x26)⟩] h33
 (fun v34 h36=>∃ x35,iI v34 x35 /\
 (Sm [(aS h13 3),(aS h 3),(aS h13 2),(aS h 2),(aS h 0)] h33 h36 /\
 (Fn Pz 120 #[vI x32,vI x35] h36
 (fun v37 h39=>∃ x38,iI v37 x38 /\
 (Sm [(aS h13 3),(aS h 3),(aS h13 2),(aS h 2)] h36 h39 /\
 (Fn Pz 120 #[vI x27,vI x28] h39
 (fun v40 h42=>∃ x41,iI v40 x41 /\
 (Sm [(aS h13 3),(aS h 3),(aS h13 0),(aS h 0)] h39 h42 /\
 (Fn Pz 120 #[vI x29,vI x30] h42
 (fun v43 h45=>∃ x44,iI v43 x44 /\
 (Sm [(aS h13 2),(aS h 2),(aS h13 0),(aS h 0)] h42 h45 /\
 (Wn h45 (L4 x38 x41 x44) 3 fun h46=>
 (Fn Pz 119 #[.slice (some (aS h45 0)) 3 3] h46
 (fun v47 h49=>∃ x48,iI v47 x48 /\
 R (vI x48) h49))))))))))))))))))))))))))
theorem vc82 (p0_1:Int) (p0_2:Bool) (p0_3 p0_4 p0_5:Int) (p0_6:Bool) (p1_7:Int) (p1_8:Bool) (p1_9 p1_10 p1_11:Int) (p1_12:Bool) (h:Heap) (R:Value->Heap->Prop) (H:W82 p0_1 p0_2 p0_3 p0_4 p0_5 p0_6 p1_7 p1_8 p1_9 p1_10 p1_11 p1_12 h R):Fn Pz 82 #[.agg ⟨(L0 p0_1 p0_2 p0_3 p0_4 p0_5 p0_6)⟩,.agg ⟨(L0 p1_7 p1_8 p1_9 p1_10 p1_11 p1_12)⟩] h R:=fnI (A:=.z) (by kernel_rfl) H

def W81 (p0_1 p0_2 p1_3 p1_4:Int) (c0:Addr) (h:Heap) (R:Value->Heap->Prop):Prop:=
 (Wn h [vI p0_1,vI p0_2] 57 fun h5=>
 (Wn h5 [vI p1_3,vI p1_4] 57 fun h6=>
 (∃ x7,rS h6 ⟨c0.block,c0.off+4,none⟩ x7 /\
 (∃ x8,rI h6 (aS h 1) x8 /\
 (NB x7.a fun b9 o10=>(Ib x8 x7.n /\
 (∃ x11 x12 x13 x14 x15 x16,aL0 h6 ⟨b9,o10+Int.toNat x8*6,none⟩ x11 x12 x13 x14 x15 x16 /\
 (∃ x17,rS h6 ⟨c0.block,c0.off+4,none⟩ x17 /\
 (∃ x18,rI h6 (aS h5 1) x18 /\
 (NB x17.a fun b19 o20=>(Ib x18 x17.n /\
 (∃ x21 x22 x23 x24 x25 x26,aL0 h6 ⟨b19,o20+Int.toNat x18*6,none⟩ x21 x22 x23 x24 x25 x26 /\
 (Fn Pz 82 #[.agg ⟨(L0 x11 x12 x13 x14 x15 x16)⟩,.agg ⟨(L0 x21 x22 x23 x24 x25 x26)⟩] h6
 (fun v27 h29=>∃ x28,iI v27 x28 /\
 R (vI x28) h29))))))))))))))
theorem vc81 (p0_1 p0_2 p1_3 p1_4:Int) (c0:Addr) (h:Heap) (R:Value->Heap->Prop) (H:W81 p0_1 p0_2 p1_3 p1_4 c0 h R):Fn Pz 81 #[.agg ⟨[vI p0_1,vI p0_2]⟩,.agg ⟨[vI p1_3,vI p1_4]⟩,.pointer (some c0)] h R:=fnI (A:=.z) (by kernel_rfl) H

end M
end Go.VC
end

section
/- Contracts: the order of steps, over every relation of worlds. (Numbers of layer 27's development dump.) -/
namespace Go.VC
open Go.Proofs Go.LexS
def stC (p:Int) (k:Nat):List Value:=[.int .i64 p,.int .i64 (k:Int)]
variable [Mono]
namespace M
theorem side118 (x:Mv) (h:Heap):Fn Pz 118 #[.agg ⟨x.cs⟩] h fun v h'=>v=.int .i64 (sideM x)/\Ext h h':=by
 apply vc118 x.f x.send x.peer x.label x.t x.ag; unfold W118
 refine (St.refl h).newb fun h7 hs=>?_
 refine ⟨_,hs.rd 0 rfl rfl,?_⟩
 unfold sideM
 refine sB_intro (fun c=>?_) (fun c=>?_)
 ·
  exact ⟨by rw [if_pos c],hs.ext⟩
 ·
  exact ⟨by rw [if_neg (by rw [c]; simp)],hs.ext⟩
theorem order82 (x y:Mv) (h:Heap):Fn Pz 82 #[.agg ⟨x.cs⟩,.agg ⟨y.cs⟩] h fun v h'=>v=.int .i64 (cmpE x.ev y.ev)/\Ext h h':=by
 apply vc82 x.f x.send x.peer x.label x.t x.ag y.f y.send y.peer y.label y.t y.ag; unfold W82
 refine (St.refl h).newb fun h13 hs=>?_
 refine hs.newb fun h14 hs=>?_
 refine ⟨_,_,_,_,_,_,hs.at 1 rfl (o:=0) (n:=6) rfl,_,_,_,_,_,_,hs.at 0 rfl (o:=0) (n:=6) rfl,_,hs.rd 1 rfl rfl,_,hs.rd 0 rfl rfl,_,hs.rd 1 rfl rfl,_,hs.rd 0 rfl rfl,?_⟩
 refine (side118 x _).mono ?_
 rintro _ h33 ⟨rfl,E1⟩
 refine ⟨_,rfl,Sm_ext E1,?_⟩
 have hs:=hs.step E1
 refine (side118 y _).mono ?_
 rintro _ h36 ⟨rfl,E2⟩
 refine ⟨_,rfl,Sm_ext E2,?_⟩
 have hs:=hs.step E2
 refine (cmp110 _ _ _).mono ?_
 rintro _ _ ⟨rfl,rfl⟩
 refine ⟨_,rfl,fun _ _ _ _ hv=>hv,?_⟩
 refine (cmp110 _ _ _).mono ?_
 rintro _ _ ⟨rfl,rfl⟩
 refine ⟨_,rfl,fun _ _ _ _ hv=>hv,?_⟩
 refine (cmp110 _ _ _).mono ?_
 rintro _ _ ⟨rfl,rfl⟩
 refine ⟨_,rfl,fun _ _ _ _ hv=>hv,?_⟩
 refine hs.newb fun h46 hs=>?_
 have hs2:=hs.blkS 3 1 ([cmpI (sideM x) (sideM y),cmpI x.peer y.peer,cmpI x.label y.label].map inC) rfl (inrows _) rfl (by decide)
 refine (or109 [cmpI (sideM x) (sideM y),cmpI x.peer y.peer,cmpI x.label y.label] _ h46 (hs2.rows 0 rfl (by omega)) (show 3<=1048576 by decide)).mono ?_
 rintro _ _ ⟨rfl,rfl⟩
 refine ⟨_,rfl,?_,hs.ext⟩
 show Value.int .i64 (orI3 _ (orI3 _ (orI3 _ 0)))=_
 congr 1
 obtain ⟨f,s,p,l,t,a⟩:=x
 obtain ⟨f',s',p',l',t',a'⟩:=y
 unfold cmpE orI3 sideM Mv.ev
 cases s <;> cases s' <;> simp [cmpI] <;> (repeat' split) <;> omega
theorem orderS81 (mv:List Mv) (sm:Sl) (a:Addr) (p q:Int) (i k:Nat) (x y:Mv) (h:Heap) (ha:hc h ⟨a.block,a.off+4,none⟩=some (.slice sm.a sm.n sm.c)) (hr:Rw h 6 sm (mv.map Mv.cs)) (hx:mv[i]?=some x) (hy:mv[k]?=some y) :
  Fn Pz 81 #[.agg ⟨stC p i⟩,.agg ⟨stC q k⟩,.pointer (some a)] h fun v h'=>v=.int .i64 (cmpE x.ev y.ev)/\Ext h h':=by
 apply vc81 p (i:Nat) q (k:Nat) a; unfold W81
 have hn:=hr.ln
 have hxl:=(Ya.1 hx).1
 have hyl:=(Ya.1 hy).1
 refine (St.refl h).newb fun h5 hs=>?_
 refine hs.newb fun h6 hs=>?_
 refine ⟨sm,hc_ext hs.ext ha,_,hs.rd 1 rfl (i:=1) rfl,?_⟩
 refine (hr.ext hs.ext).nbI (by omega) (by omega) fun b o x' gx t=>?_
 replace gx:mv[i]?=some x':=gx
 rw [hx] at gx; cases gx
 refine ⟨_,_,_,_,_,_,t,sm,hc_ext hs.ext ha,_,hs.rd 0 rfl (i:=1) rfl,?_⟩
 refine (hr.ext hs.ext).nbI (by omega) (by omega) fun b2 o2 y' gy t2=>?_
 replace gy:mv[k]?=some y':=gy
 rw [hy] at gy; cases gy
 refine ⟨_,_,_,_,_,_,t2,?_⟩
 refine (order82 x y h6).mono ?_
 rintro _ h29 ⟨rfl,E⟩
 exact ⟨_,rfl,rfl,hs.ext.trans E⟩
end M
def Sort80:Prop:=∀ (m:Mch) (sm:Sl) (a:Addr) (p:Int) {h0 h:Heap} {Ls:List It},St h0 h Ls->∀ (i:Nat) {s:Sl} {l:List Nat},Ls[i]?=some (.sl s 57 2 (l.map (stC p)))->(∀ x ∈ l,x<m.mv.length)->(l=[]->s.a=none)->m.mv.length<=1048576->l.length<=1048576 ->
 (∀ h':Heap,h.size<=h'.size->(∀ c,c<h.size->s.a.map (·.block) ≠ some c->h'[c]?=h[c]?)->hc h' ⟨a.block,a.off+4,none⟩=some (.slice sm.a sm.n sm.c)/\Rw h' 6 sm (m.mv.map Mv.cs)) ->
 Fn Pz 80 #[.slice s.a s.n s.c,.func (.func 81) #[] #[.pointer (some a)]] h fun v h'=>v=.tuple ⟨[]⟩/\∃ l':List Nat,l'.Perm l/\l'.Pairwise (fun a b=>¬ evLt (m.mv.getD b ⟨0,false,0,0,0,false⟩).ev (m.mv.getD a ⟨0,false,0,0,0,false⟩).ev)/\St h0 h' (Ls.set i (.sl s 57 2 (l'.map (stC p))))
end Go.VC
end

section
/- Contracts: whether a move can be made, on both sides. (Numbers of layer 27's development dump.) -/
namespace Go.VC
open Go.Proofs Go.LexS
def bxI (n p:Nat) (x:Mv):Nat:=if x.send=true then n*p+x.peer.toNat else n*x.peer.toNat+p
theorem two_lt {n a b:Nat} (ha:a<n) (hb:b<n):n*a+b<n*n:=by
 have h1:n*(a+1)<=n*n:=Nat.mul_le_mul_left _ (by omega)
 rw [Nat.mul_succ] at h1; omega
theorem bxI_lt {n p:Nat} {x:Mv} (hp:p<n) (h0:0<=x.peer) (h1:x.peer<(n:Int)):bxI n p x<n*n:=by
 unfold bxI
 split
 ·
  exact two_lt hp (by omega)
 ·
  exact two_lt (by omega) hp
def canS (n:Nat) (k:Int) (S:List Int) (BL:List (List Int)) (p:Nat) (x:Mv):Int:=
 if x.f ≠ S.getD p 0 then 7 else
 if x.send=true then (if k<=((BL.getD (bxI n p x) []).length:Int) then 19 else 0)
 else match BL.getD (bxI n p x) [] with
  | []=>23
  | l::_=>if l ≠ x.label then 23 else 0
theorem box60 (n p:Nat) (x:Mv) (h:Heap) (hn:n<=6) (hp:p<n) (h0:0<=x.peer) (h1:x.peer<(n:Int)) :
  Fn Pz 60 #[.int .i64 (n:Int),.int .i64 (p:Int),.agg ⟨x.cs⟩] h fun v h'=>v=.int .i64 (bxI n p x:Nat)/\Ext h h':=by
 apply vc60 (n:Int) (p:Int) x.f x.send x.peer x.label x.t x.ag; unfold W60
 have h36:=sq6 hn
 refine (St.refl h).newb fun h7 hs=>?_
 refine ⟨_,hs.rd 0 rfl (i:=1) rfl,?_⟩
 obtain ⟨q,hq⟩:∃ q:Nat,x.peer=(q:Int):=⟨x.peer.toNat,by omega⟩
 have hqn:q<n:=by omega
 have hqt:x.peer.toNat=q:=by omega
 have b1:=two_lt hp hqn
 have b2:=two_lt hqn hp
 unfold bxI
 rw [hqt]
 refine sB_intro (fun c=>?_) (fun c=>?_)
 ·
  refine ⟨(q:Int),by rw [<- hq]; exact hs.rd 0 rfl (i:=2) rfl,?_⟩
  have e1:(n:Int)*(p:Int)=((n*p:Nat):Int):=rfl
  have e2:((n*p:Nat):Int)+(q:Int)=((n*p+q:Nat):Int):=rfl
  rw [if_pos c,e1,w64 (n:=((n*p:Nat):Int)) (by omega) (by omega),e2,w64 (n:=((n*p+q:Nat):Int)) (by omega) (by omega)]
  exact ⟨rfl,hs.ext⟩
 ·
  refine ⟨(q:Int),by rw [<- hq]; exact hs.rd 0 rfl (i:=2) rfl,?_⟩
  have e1:(n:Int)*(q:Int)=((n*q:Nat):Int):=rfl
  have e2:((n*q:Nat):Int)+(p:Int)=((n*q+p:Nat):Int):=rfl
  rw [if_neg (by rw [c]; exact Bool.false_ne_true),e1,w64 (n:=((n*q:Nat):Int)) (by omega) (by omega),e2,w64 (n:=((n*q+p:Nat):Int)) (by omega) (by omega)]
  exact ⟨rfl,hs.ext⟩
set_option maxHeartbeats 800000 in
theorem can58 (n:Nat) (k:Int) (ss sb:Sl) (S:List Int) (B:List Bx) (p:Nat) (x:Mv) (h:Heap) (hC:CfI h ss sb S B) (hn:n<=6) (hS:S.length=n) (hB:B.length=n*n) (hp:p<n) (h0:0<=x.peer) (h1:x.peer<(n:Int)) :
  Fn Pz 58 #[.int .i64 (n:Int),.int .i64 k,.agg ⟨[.slice ss.a ss.n ss.c,.slice sb.a sb.n sb.c]⟩,.int .i64 (p:Int),.agg ⟨x.cs⟩] h fun v h'=>v=.int .i64 (canS n k S (B.map Bx.l) p x)/\Ext h h':=by
 apply vc58 (n:Int) k ss sb (p:Int) x.f x.send x.peer x.label x.t x.ag; unfold W58
 have hsn:=hC.s.ln
 have hbn:=hC.b.ln
 have hlt:=bxI_lt hp h0 h1
 refine (St.refl h).newb fun h9 hs=>?_
 refine hs.newb fun h10 hs=>?_
 refine ⟨sb,hs.rd 1 rfl (i:=1) rfl,_,_,_,_,_,_,hs.at 0 rfl (o:=0) (n:=6) rfl,?_⟩
 refine (box60 n p x h10 hn hp h0 h1).mono ?_
 rintro _ h20 ⟨rfl,E⟩
 have hs:=hs.step E
 refine ⟨_,rfl,E.sm,?_⟩
 refine (hC.b.rw.ext hs.ext).nbI (Int.natCast_nonneg _) (Int.ofNat_lt.2 (by rw [hbn,hB]; exact hlt)) fun b21 o22 q gq t=>?_
 rw [Ys] at gq
 replace gq:B[bxI n p x]?=some q:=gq
 have hqi:=hC.i q (Yb gq)
 have hql:=hqi.ln
 refine ⟨q.s,t.hd,_,hs.rd 0 rfl (i:=0) rfl,ss,hs.rd 1 rfl rfl,?_⟩
 refine (hC.s.rw.ext hs.ext).nbI (by omega) (by omega) fun b o z gz t2=>?_
 rw [Ys] at gz
 replace gz:S[p]?=some z:=gz
 have hSg:S.getD p 0=z:=getD_some gz
 have hBg:(B.map Bx.l).getD (bxI n p x) []=q.l:=getD_some (by rw [Yd,gq]; rfl)
 refine ⟨_,t2.hd,?_⟩
 unfold canS
 rw [hSg,hBg]
 refine sBn (fun c=>⟨by rw [if_pos c],hs.ext⟩) (fun c=>?_)
 rw [if_neg (fun h=>h c)]
 refine ⟨_,hs.rd 0 rfl (i:=1) rfl,sB_intro (fun d=>?_) (fun d=>?_)⟩
 ·
  rw [if_pos d]
  refine sBi (fun e=>⟨by rw [if_pos (by omega)],hs.ext⟩) (fun e=>?_)
  rw [if_neg (by omega)]
  exact ⟨_,hs.rd 0 rfl (i:=1) rfl,sB_f (by rw [d]; rfl) ⟨rfl,hs.ext⟩⟩
 ·
  rw [if_neg (by rw [d]; exact Bool.false_ne_true)]
  refine ⟨_,hs.rd 0 rfl (i:=1) rfl,sB_t (by rw [d]; rfl) (sBe (fun e=>?_) (fun e=>?_))⟩
  ·
   rw [List.eq_nil_of_length_eq_zero (l:=q.l) (by omega)]
   exact ⟨rfl,hs.ext⟩
  ·
   refine (hqi.rw.ext hs.ext).nbI (by omega) (by omega) fun b3 o3 y gy t3=>?_
   replace gy:q.l[0]?=some y:=gy
   cases hl:q.l with
   | nil=>rw [hl] at gy; cases gy
   | cons a r=>
    rw [hl] at gy; cases gy
    refine ⟨_,t3.hd,_,hs.rd 0 rfl (i:=3) rfl,sBn (fun f=>⟨?_,hs.ext⟩) (fun f=>⟨?_,hs.ext⟩)⟩
    ·
     show _=Value.int .i64 (if y ≠ x.label then 23 else 0); rw [if_pos f]
    ·
     show _=Value.int .i64 (if y ≠ x.label then 23 else 0); rw [if_neg (fun h=>h f)]
def posS (L:List Mch) (k:Int) (S:List Int) (BL:List (List Int)) (r i:Int):Int:=
 if r<0\/(L.length:Int)<=r then 2 else match L[r.toNat]? with
 | none=>2
 | some m=>if i<0\/(m.mv.length:Int)<=i then 2 else match m.mv[i.toNat]? with
  | none=>2
  | some x=>canS L.length k S BL r.toNat x
set_option maxHeartbeats 1600000 in
theorem possible61 (L:List MR) (s:Sl) (k:Int) (ss sb:Sl) (S:List Int) (B:List Bx) (r i:Int) (h:Heap) (hS:SyI h s L) (hV:SysV (L.map MR.m)) (hC:CfI h ss sb S B) (hSl:S.length=L.length) (hBl:B.length=L.length*L.length) :
  Fn Pz 61 #[.slice s.a s.n s.c,.int .i64 k,.agg ⟨[.slice ss.a ss.n ss.c,.slice sb.a sb.n sb.c]⟩,.agg ⟨[.int .i64 r,.int .i64 i]⟩] h fun v h'=>v=.int .i64 (posS (L.map MR.m) k S (B.map Bx.l) r i)/\Ext h h':=by
 apply vc61 s k ss sb r i; unfold W61
 have hn:=hS.r.ln
 have hsn:=hC.s.ln
 have hbn:=hC.b.ln
 have hlm:(L.map MR.m).length=L.length:=Yc _
 have hV6:=hV.n
 rw [hlm] at hV6
 have h36:=sq6 hV6.2
 refine (St.refl h).newb fun h5 hs=>?_
 refine hs.newb fun h6 hs=>?_
 unfold posS
 rw [hlm]
 refine ⟨_,hs.rd 0 rfl (i:=0) rfl,sBi (fun c=>⟨by rw [if_pos (.inl c)],hs.ext⟩) (fun c1=>?_)⟩
 refine ⟨_,hs.rd 0 rfl (i:=0) rfl,sBi (fun c=>⟨by rw [if_pos (.inr (by omega))],hs.ext⟩) (fun c2=>?_)⟩
 rw [if_neg (by omega)]
 obtain ⟨p,rfl⟩:∃ p:Nat,r=(p:Int):=⟨r.toNat,by omega⟩
 have hp:p<L.length:=by omega
 obtain ⟨y,gy⟩:=get_some (l:=L) (i:=p) hp
 have gm:(L.map MR.m)[p]?=some y.m:=by rw [Yd,gy]; rfl
 rw [Ys,gm]
 have hyi:=hS.i y (Yb gy)
 have hgn:=hyi.pm.ln
 refine ⟨_,hs.rd 0 rfl (i:=1) rfl,sBi (fun c=>⟨?_,hs.ext⟩) (fun c3=>?_)⟩
 ·
  show _=Value.int .i64 (if i<0\/(y.m.mv.length:Int)<=i then 2 else _); rw [if_pos (.inl c)]
 refine ⟨_,hs.rd 0 rfl (i:=1) rfl,_,hs.rd 0 rfl (i:=0) rfl,?_⟩
 have rdL:∀ {F:Nat->Nat->Prop} {h':Heap},Ext h h'->(∀ b o,atC h' ⟨b,o+p*6,none⟩ y.cs->F b o)->NB s.a fun b o=>(0<=(p:Int)/\(p:Int)<(s.n:Nat))/\F b o:=fun {F h'} E hF=>(hS.r.rw.ext E).nbI (by omega) (by omega) fun b o y' gy' t=>by
  rw [Ys] at gy' t
  replace gy':L[p]?=some y':=gy'
  rw [gy] at gy'; cases gy'
  exact hF b o t
 refine rdL hs.ext fun b1 o1 t1=>?_
 refine ⟨y.g,t1.nth 4 rfl,sBi (fun c=>⟨?_,hs.ext⟩) (fun c4=>?_)⟩
 ·
  show _=Value.int .i64 (if i<0\/(y.m.mv.length:Int)<=i then 2 else _); rw [if_pos (.inr (by omega))]
 obtain ⟨j,rfl⟩:∃ j:Nat,i=(j:Int):=⟨i.toNat,by omega⟩
 obtain ⟨x,gx⟩:=get_some (l:=y.m.mv) (i:=j) (by omega)
 refine ⟨_,hs.rd 0 rfl (i:=0) rfl,rdL hs.ext fun b2 o2 t2=>?_⟩
 refine ⟨y.g,t2.nth 4 rfl,_,hs.rd 0 rfl (i:=1) rfl,?_⟩
 refine (hyi.pm.rw.ext hs.ext).nbI (by omega) (by omega) fun b3 o3 x' gx' t3=>?_
 rw [Ys] at gx'
 replace gx':y.m.mv[j]?=some x':=gx'
 rw [gx] at gx'; cases gx'
 refine ⟨_,_,_,_,_,_,t3,?_⟩
 have hxm:=Yb gx
 have hvm:=hV.m p y.m gm
 have hx0:0<=x.peer:=(hvm.2.1.n.mv x hxm).2.2.2.2.1
 have hx1:x.peer<(L.length:Int):=by have:=hvm.2.2 x hxm; rw [hlm] at this; exact this
 refine hs.newbE fun h28 E28 hs=>⟨E28.sm,?_⟩
 refine hs.put 0 rfl (o:=0) (vs:=x.cs) rfl (show 6<=6 by decide) fun h29 hs=>?_
 refine ⟨ss,hs.rd 2 rfl rfl,_,hs.rd 1 rfl (i:=0) rfl,?_⟩
 refine (hC.s.rw.ext hs.ext).nbI (by omega) (by omega) fun b4 o4 z gz t4=>?_
 rw [Ys] at gz
 replace gz:S[p]?=some z:=gz
 have hSg:S.getD p 0=z:=getD_some gz
 refine ⟨_,t4.hd,_,hs.rd 0 rfl (i:=0) rfl,?_⟩
 show sB _ (Value.int .i64 7=.int .i64 (if (j:Int)<0\/(y.m.mv.length:Int)<=(j:Int) then 2 else match y.m.mv[(j:Int).toNat]? with | none=>2 | some x=>canS L.length k S (B.map Bx.l) p x)/\Ext h h29) _
 rw [if_neg (by omega),Ys,gx]
 refine sBn (fun c=>⟨?_,hs.ext⟩) (fun c5=>?_)
 ·
  show _=Value.int .i64 (canS L.length k S (B.map Bx.l) p x)
  unfold canS; rw [hSg,if_pos (fun e=>c e.symm)]
 have key:∀ v:Int,v=canS L.length k S (B.map Bx.l) p x->∀ h',Ext h h'->(Value.int .i64 v=.int .i64 (if (j:Int)<0\/(y.m.mv.length:Int)<=(j:Int) then 2 else match y.m.mv[(j:Int).toNat]? with | none=>2 | some x=>canS L.length k S (B.map Bx.l) p x)/\Ext h h'):=fun v hv h' E=>by
  rw [if_neg (by omega),Ys,gx,hv]; exact ⟨rfl,E⟩
 obtain ⟨q,hq⟩:∃ q:Nat,x.peer=(q:Int):=⟨x.peer.toNat,by omega⟩
 have hqn:q<L.length:=by omega
 have hqt:x.peer.toNat=q:=by omega
 have b1':=two_lt hp hqn
 have b2':=two_lt hqn hp
 refine ⟨_,hs.rd 0 rfl (i:=1) rfl,sB_intro (fun d=>?_) (fun d=>?_)⟩
 ·
  refine ⟨sb,hs.rd 2 rfl (i:=1) rfl,_,hs.rd 1 rfl (i:=0) rfl,(q:Int),by rw [<- hq]; exact hs.rd 0 rfl (i:=2) rfl,?_⟩
  have e1:(s.n:Int)*(p:Int)=((L.length*p:Nat):Int):=by rw [hn]; rfl
  have e2:((L.length*p:Nat):Int)+(q:Int)=((L.length*p+q:Nat):Int):=rfl
  rw [e1,w64 (n:=((L.length*p:Nat):Int)) (by omega) (by omega),e2,w64 (n:=((L.length*p+q:Nat):Int)) (by omega) (by omega)]
  refine (hC.b.rw.ext hs.ext).nbI (Int.natCast_nonneg _) (Int.ofNat_lt.2 (by rw [hbn,hBl]; exact b1')) fun b5 o5 u gu t5=>?_
  rw [Ys] at gu
  replace gu:B[L.length*p+q]?=some u:=gu
  have hul:=(hC.i u (Yb gu)).ln
  have hBg:(B.map Bx.l).getD (bxI L.length p x) []=u.l:=by
   unfold bxI; rw [if_pos d,hqt]
   exact getD_some (by rw [Yd,gu]; rfl)
  refine ⟨u.s,t5.hd,sBi (fun e=>key _ ?_ _ hs.ext) (fun e=>key _ ?_ _ hs.ext)⟩
  ·
   unfold canS; rw [hSg,hBg,if_neg (fun h=>h c5.symm),if_pos d,if_pos (by omega)]
  ·
   unfold canS; rw [hSg,hBg,if_neg (fun h=>h c5.symm),if_pos d,if_neg (by omega)]
 ·
  have hdn:¬ x.send=true:=by rw [d]; exact Bool.false_ne_true
  refine ⟨sb,hs.rd 2 rfl (i:=1) rfl,(q:Int),by rw [<- hq]; exact hs.rd 0 rfl (i:=2) rfl,_,hs.rd 1 rfl (i:=0) rfl,?_⟩
  have e1:(s.n:Int)*(q:Int)=((L.length*q:Nat):Int):=by rw [hn]; rfl
  have e2:((L.length*q:Nat):Int)+(p:Int)=((L.length*q+p:Nat):Int):=rfl
  rw [e1,w64 (n:=((L.length*q:Nat):Int)) (by omega) (by omega),e2,w64 (n:=((L.length*q+p:Nat):Int)) (by omega) (by omega)]
  refine (hC.b.rw.ext hs.ext).nbI (Int.natCast_nonneg _) (Int.ofNat_lt.2 (by rw [hbn,hBl]; exact b2')) fun b5 o5 u gu t5=>?_
  rw [Ys] at gu
  replace gu:B[L.length*q+p]?=some u:=gu
  have hui:=hC.i u (Yb gu)
  have hul:=hui.ln
  have hBg:(B.map Bx.l).getD (bxI L.length p x) []=u.l:=by
   unfold bxI; rw [if_neg hdn,hqt]
   exact getD_some (by rw [Yd,gu]; rfl)
  have hcan:canS L.length k S (B.map Bx.l) p x=match u.l with | []=>23 | l::_=>if l ≠ x.label then 23 else 0:=by
   unfold canS; rw [hSg,hBg,if_neg (fun h=>h c5.symm),if_neg hdn]
  refine ⟨u.s,t5.hd,sBe (fun e=>key _ ?_ _ hs.ext) (fun e=>?_)⟩
  ·
   rw [hcan,List.eq_nil_of_length_eq_zero (l:=u.l) (by omega)]
  ·
   refine (hui.rw.ext hs.ext).nbI (by omega) (by omega) fun b6 o6 w gw t6=>?_
   replace gw:u.l[0]?=some w:=gw
   cases hl:u.l with
   | nil=>rw [hl] at gw; cases gw
   | cons a r=>
    rw [hl] at gw; cases gw
    rw [hl] at hcan
    refine ⟨_,t6.hd,_,hs.rd 0 rfl (i:=3) rfl,sBn (fun f=>key _ ?_ _ hs.ext) (fun f=>key _ ?_ _ hs.ext)⟩
    ·
     rw [hcan]; show _=if w ≠ x.label then 23 else 0; rw [if_pos f]
    ·
     rw [hcan]; show _=if w ≠ x.label then 23 else 0; rw [if_neg (fun h=>h f)]
end Go.VC
end
