/- PjVcU PjVcV PjVcM PjVcD PjVcA PjVcJ PjVcF PjVcB PjVcC PjVcE PjVcH PjVcI PjVcK PjVcL PjVcK1 PjVcK2 PjVcK4. -/
import Derived.Test.YtfdhgcladnbdeaaGreatDoorCM01
set_option linter.all false
set_option maxRecDepth 100000
set_option maxHeartbeats 8000000

section
namespace Go.VC
open Go.Proofs IntKind



end Go.VC
end

section
namespace Go.VC
open Go.Proofs IntKind
variable {h:Heap} {R:Value->Heap->Prop}
def V52b (x52:Sl) (x53:Int) (h64:Heap) (s63:Sl) (m38:Nat) (I36:Int->Heap->Nat->Prop) (x_39:Int):Prop:=
 NB x52.a fun b65 o66=>Ib x53 x52.n/\Wp h64 ⟨b65,o66+x53.toNat*1,none⟩ 1 [vS s63] fun h67=>∃m68,m68<m38/\I36 (wrap .i64 (x_39+1)) h67 m68
def V52c (b56 o57:Nat) (x55:Int) (h40 h33 h50 h62:Heap) (x58 x52:Sl) (x53:Int) (m38:Nat) (I36:Int->Heap->Nat->Prop) (x_39:Int):Prop:=
 Sm [⟨b56,o57+x55.toNat*1,none⟩,(aS h40 0),(aS h33 10),(aS h40 0),(aS h33 10)] h50 h62/\App Pz 173 173 (vS x58) (.slice (some (aS h50 0)) 1 1) h62 fun s63 h64=>Sm [(aS h40 0),(aS h33 10)] h62 h64/\V52b x52 x53 h64 s63 m38 I36 x_39
def V52a (h33:Heap) (x22:ByteArray) (x23 x24:Sl) (x25 x26 x27:Int) (x28 x29:Sl) (p1:Int) (h20:Heap) (x30:Int) (h32:Heap) (x31:Int) (h:Heap) (R:Value->Heap->Prop):Prop:=
 Wn h33 [.string x22,vS x23,vS x24,vI x25,vI x26,vI x27,vS x28,vS x29,vI p1,.slice (some (aS h20 0)) (x30.toNat) (x30.toNat),.slice (some (aS h32 0)) (x31.toNat) (x31.toNat)] 172 fun h34=>∃x35,rS h34 (aS h 6) x35/\QI 0 h34 fun I36 x_39 h40 m38=>sB (decide (x_39<(x35.n:Int))) (NB x35.a fun b41 o42=>Ib x_39 x35.n/\∃x43 x44 x45 x46 x47 x48,aL3 h40 ⟨b41,o42+x_39.toNat*6,none⟩ x43 x44 x45 x46 x47 x48/\Wn h40 [vI 0,vI 0,vI 0,vI 0,vI 0,.bool false] 55 fun h49=>Wp h49 (aS h40 0) 6 (L3 x43 x44 x45 x46 x47 x48) fun h50=>∃x51,rI h50 (aS h40 1) x51/\sB (p1==x51) (∃x52,rS h50 (aS h33 10) x52/\∃x53,rI h50 (aS h40 0) x53/\∃x54,rS h50 (aS h33 10) x54/\∃x55,rI h50 (aS h40 0) x55/\NB x54.a fun b56 o57=>Ib x55 x54.n/\∃x58,rS h50 ⟨b56,o57+x55.toNat*1,none⟩ x58/\∃x59,rI h50 (aS h40 (1+1)) x59/\∃x60,rI h50 (aS h40 (1+2)) x60/\∃x61,rI h50 (aS h40 4) x61/\Wn h50 [.bool true,vI x59,vI x60,vI x61] 175 fun h62=>V52c b56 o57 x55 h40 h33 h50 h62 x58 x52 x53 m38 I36 x_39) (∃x69,rI h50 (aS h40 (1+1)) x69/\sB (p1==x69) (∃x70,rS h50 (aS h33 10) x70/\∃x71,rI h50 (aS h40 0) x71/\∃x72,rS h50 (aS h33 10) x72/\∃x73,rI h50 (aS h40 0) x73/\NB x72.a fun b74 o75=>Ib x73 x72.n/\∃x76,rS h50 ⟨b74,o75+x73.toNat*1,none⟩ x76/\∃x77,rI h50 (aS h40 1) x77/\∃x78,rI h50 (aS h40 (1+2)) x78/\∃x79,rI h50 (aS h40 4) x79/\Wn h50 [.bool false,vI x77,vI x78,vI x79] 175 fun h80=>V52c b74 o75 x73 h40 h33 h50 h80 x76 x70 x71 m38 I36 x_39) (∃x87,rS h50 (aS h33 9) x87/\∃x88,rI h50 (aS h40 0) x88/\∃x89,rS h50 (aS h33 9) x89/\∃x90,rI h50 (aS h40 0) x90/\NB x89.a fun b91 o92=>Ib x90 x89.n/\∃x93,rS h50 ⟨b91,o92+x90.toNat*1,none⟩ x93/\∃x94,rI h50 (aS h40 4) x94/\Wn h50 [vI x94] 3 fun h95=>Sm [⟨b91,o92+x90.toNat*1,none⟩,(aS h40 0),(aS h33 9),(aS h40 0),(aS h33 9)] h50 h95/\App Pz 42 42 (vS x93) (.slice (some (aS h50 0)) 1 1) h95 fun s96 h97=>Sm [(aS h40 0),(aS h33 9)] h95 h97/\V52b x87 x88 h97 s96 m38 I36 x_39))) (R (.tuple ⟨[.pointer (some (aS h33 0)),vI 0]⟩) h40)
def W52 (pa:ByteArray) (pb pc:Sl) (pd pe pf:Int) (pg ph:Sl) (p1:Int):Prop:=
 Wn h (L0 pa pb pc pd pe pf pg ph) 27 fun h9=>∃x10 x11 x12 x13 x14 x15 x16 x17,aL0 h9 (aS h 0) x10 x11 x12 x13 x14 x15 x16 x17/\Fn Pz 38 #[.agg ⟨(L0 x10 x11 x12 x13 x14 x15 x16 x17)⟩] h9 (fun v18 h20=>∃x19,iB v18 x19/\sB (!x19) (R (.tuple ⟨[.pointer none,vI 1]⟩) h20) (sB (decide (p1<0)) (R (.tuple ⟨[.pointer none,vI 1]⟩) h20) (∃x21,rS h20 (aS h 1) x21/\sB (decide (p1>=(x21.n:Int))) (R (.tuple ⟨[.pointer none,vI 1]⟩) h20) (∃x22 x23 x24 x25 x26 x27 x28 x29,aL0 h20 (aS h 0) x22 x23 x24 x25 x26 x27 x28 x29/\∃x30,rI h20 (aS h 3) x30/\∃x31,rI h20 (aS h 3) x31/\(Mk x30 x30 24/\Wn h20 (madeL Pz 42 (x30.toNat)) 42 fun h32=>Sm [(aS h 3),(aS h 0)] h20 h32/\Mk x31 x31 24/\Wn h32 (madeL Pz 173 (x31.toNat)) 173 fun h33=>Sm [(aS h 3),(aS h 0)] h32 h33/\V52a h33 x22 x23 x24 x25 x26 x27 x28 x29 p1 h20 x30 h32 x31 h R)/\Mk x31 x31 24/\Wn h20 (madeL Pz 173 (x31.toNat)) 173 fun h102=>Sm [(aS h 3),(aS h 0)] h20 h102/\Mk x30 x30 24/\Wn h102 (madeL Pz 42 (x30.toNat)) 42 fun h103=>Sm [(aS h 3),(aS h 0)] h102 h103/\V52a h103 x22 x23 x24 x25 x26 x27 x28 x29 p1 h102 x30 h20 x31 h R))))
theorem vc52 (pa:ByteArray) (pb pc:Sl) (pd pe pf:Int) (pg ph:Sl) (p1:Int) (H:@W52 h R pa pb pc pd pe pf pg ph p1):Fn Pz 52 #[.agg ⟨(L0 pa pb pc pd pe pf pg ph)⟩,vI p1] h R:=fnJ (A:=(.s .z (.s .z (.s .z (.s (AI 36) .z))))) H
def V53a (p1:Sl) (x_7:Int) (h8:Heap) (x1:Int) (h:Heap) (todo_6:Sl) (m5:Nat) (I3:Sl->Int->Heap->Nat->Prop):Prop:=
 NB p1.a fun b9 o10=>Ib x_7 p1.n/\∃x11,rI h8 ⟨b9,o10+x_7.toNat*1,none⟩ x11/\(0<=(x11:Int)/\(x11:Int)<((x1.toNat):Nat))/\∃x12,rB h8 (aS h (0+x11.toNat*1)) x12/\sB (!x12) ((0<=(x11:Int)/\(x11:Int)<((x1.toNat):Nat))/\Wp h8 (aS h (0+x11.toNat*1)) 1 [.bool true] fun h13=>Wn h13 [vI x11] 3 fun h14=>App Pz 42 42 (vS todo_6) (.slice (some (aS h13 0)) 1 1) h14 fun s15 h16=>∃m17,m17<m5/\I3 s15 (wrap .i64 (x_7+1)) h16 m17) (∃m18,m18<m5/\I3 todo_6 (wrap .i64 (x_7+1)) h8 m18)
def W53 (p0:Addr) (p1:Sl):Prop:=
 ∃x1,rI h ⟨p0.block,p0.off+3,none⟩ x1/\Mk x1 x1 1/\Wn h (madeL Pz 4 (x1.toNat)) 4 fun h2=>QSI ⟨none,0,0⟩ 0 h2 fun I3 todo_6 x_7 h8 m5=>sB (decide (x_7<(p1.n:Int))) (V53a p1 x_7 h8 x1 h todo_6 m5 I3) (QSI todo_6 0 h8 fun I19 todo_22 head_23 h24 m21=>sB (decide (head_23<(todo_22.n:Int))) (∃x25,rS h24 ⟨p0.block,p0.off+9,none⟩ x25/\NB todo_22.a fun b26 o27=>Ib head_23 todo_22.n/\∃x28,rI h24 ⟨b26,o27+head_23.toNat*1,none⟩ x28/\NB x25.a fun b29 o30=>Ib x28 x25.n/\∃x31,rS h24 ⟨b29,o30+x28.toNat*1,none⟩ x31/\QSI todo_22 0 h24 fun I32 todo_35 x_36 h37 m34=>sB (decide (x_36<(x31.n:Int))) (V53a x31 x_36 h37 x1 h todo_35 m34 I32) (∃m48,m48<m21/\I19 todo_35 (wrap .i64 (head_23+1)) h37 m48)) (Fn Pz 55 #[vS todo_22] h24 (fun v49 h51=>∃x50,iS v49 x50/\R (vS x50) h51)))
theorem vc53 (p0:Addr) (p1:Sl) (H:@W53 h R p0 p1):Fn Pz 53 #[.pointer (some p0),vS p1] h R:=fnJ (A:=(.s .z (.s .z (.s .z (.s (AJ 6 20) (.s (.s .z (.b (.l [(6,.one (.slice)),(9,.one (.int .i64))] (.s .z (.s (.b (AJ 6 54)) .z))))) .z)))))) H
def W56 (p0:Addr) (p1:Sl) (pa:Bool) (pb pc:Int):Prop:=
 Wn h (L5 pa pb pc) 116 fun h4=>
 Fn Pz 42 #[vS p1] h4
 (fun v5 h7=>∃x6,iS v5 x6 /\
 QSI ⟨none,0,0⟩ 0 h7 fun I8 to_11 x_12 h13 m10=>
 sB (decide (x_12<(x6.n:Int)))
 (NB x6.a fun b14 o15=>Ib x_12 x6.n /\
 ∃x16,rI h13 ⟨b14,o15+x_12.toNat*1,none⟩ x16 /\
 ∃x17,rS h13 ⟨p0.block,p0.off+10,none⟩ x17 /\
 NB x17.a fun b18 o19=>Ib x16 x17.n /\
 ∃x20,rS h13 ⟨b18,o19+x16.toNat*1,none⟩ x20 /\
 QSI to_11 0 h13 fun I21 to_24 x_25 h26 m23=>
 sB (decide (x_25<(x20.n:Int)))
 (NB x20.a fun b27 o28=>Ib x_25 x20.n /\
 ∃x29 x30 x31 x32,aL12 h26 ⟨b27,o28+x_25.toNat*4,none⟩ x29 x30 x31 x32 /\
 Wn h26 [.bool false,vI 0,vI 0,vI 0] 175 fun h33=>
 Wp h33 (aS h26 0) 4 (L12 x29 x30 x31 x32) fun h34=>
 ∃x35 x36 x37,aL5 h34 (aS h26 0) x35 x36 x37 /\
 ∃x38 x39 x40,aL5 h34 (aS h 0) x38 x39 x40 /\
 sB ((x35==x38)&&((x36==x39)&&((x37==x40)&&true)))
 (∃x41,rI h34 (aS h26 3) x41 /\
 Wn h34 [vI x41] 3 fun h42=>
 App Pz 42 42 (vS to_24) (.slice (some (aS h34 0)) 1 1) h42 fun s43 h44=>
 ∃m45,m45<m23/\I21 s43 (wrap .i64 (x_25+1)) h44 m45)
 (∃m46,m46<m23/\I21 to_24 (wrap .i64 (x_25+1)) h34 m46))
 (∃m47,m47<m10/\I8 to_24 (wrap .i64 (x_12+1)) h26 m47))
 (Fn Pz 53 #[.pointer (some p0),vS to_11] h13
 (fun v48 h50=>∃x49,iS v48 x49 /\
 R (vS x49) h50)))
theorem vc56 (p0:Addr) (p1:Sl) (pa:Bool) (pb pc:Int) (H:@W56 h R p0 p1 pa pb pc):Fn Pz 56 #[.pointer (some p0),vS p1,.agg ⟨(L5 pa pb pc)⟩] h R:=fnJ (A:=(.s .z (.s .z (.s (.s .z (.b (.l [(7,.one (.slice)),(15,.one (.int .i64))] (.s .z (.s .z (.s (.b (.s .z (AJ 7 27))) .z)))))) .z)))) H
def W87 (p0:Addr) (p1:Sl):Prop:=
 Fn Pz 42 #[vS p1] h
 (fun v1 h3=>∃x2,iS v1 x2 /\
 QSI ⟨none,0,0⟩ 0 h3 fun I4 out_7 x_8 h9 m6=>
 sB (decide (x_8<(x2.n:Int)))
 (NB x2.a fun b10 o11=>Ib x_8 x2.n /\
 ∃x12,rI h9 ⟨b10,o11+x_8.toNat*1,none⟩ x12 /\
 ∃x13,rS h9 ⟨p0.block,p0.off+10,none⟩ x13 /\
 NB x13.a fun b14 o15=>Ib x12 x13.n /\
 ∃x16,rS h9 ⟨b14,o15+x12.toNat*1,none⟩ x16 /\
 QSI out_7 0 h9 fun I17 out_20 x_21 h22 m19=>
 sB (decide (x_21<(x16.n:Int)))
 (NB x16.a fun b23 o24=>Ib x_21 x16.n /\
 ∃x25 x26 x27 x28,aL12 h22 ⟨b23,o24+x_21.toNat*4,none⟩ x25 x26 x27 x28 /\
 Wn h22 [.bool false,vI 0,vI 0,vI 0] 175 fun h29=>
 Wp h29 (aS h22 0) 4 (L12 x25 x26 x27 x28) fun h30=>
 ∃x31 x32 x33,aL5 h30 (aS h22 0) x31 x32 x33 /\
 Wn h30 (L5 x31 x32 x33) 116 fun h34=>
 App Pz 151 151 (vS out_20) (.slice (some (aS h30 0)) 1 1) h34 fun s35 h36=>
 ∃m37,m37<m19/\I17 s35 (wrap .i64 (x_21+1)) h36 m37)
 (∃m38,m38<m6/\I4 out_20 (wrap .i64 (x_8+1)) h22 m38))
 (Fn Pz 137 #[vS out_7,.func (.func 138) #[] #[]] h9
 (fun v39 h40=>v39=.tuple ⟨[]⟩ /\
 Fn Pz 139 #[vS out_7] h40
 (fun v41 h43=>∃x42,iS v41 x42 /\
 R (vS x42) h43))))
theorem vc87 (p0:Addr) (p1:Sl) (H:@W87 h R p0 p1):Fn Pz 87 #[.pointer (some p0),vS p1] h R:=fnJ (A:=(.s .z (.s .z (.s (.s .z (.b (.l [(5,.one (.slice)),(13,.one (.int .i64))] (.s .z (.s .z (.s (.b (.s .z (AJ 5 25))) .z)))))) .z)))) H
def W138 (pa:Bool) (pb pc:Int) (pd:Bool) (pe pf:Int):Prop:=
 Wn h (L5 pa pb pc) 116 fun h7=>
 Wn h7 (L5 pd pe pf) 116 fun h8=>
 ∃x9,rB h8 (aS h 0) x9 /\
 ∃x10,rB h8 (aS h7 0) x10 /\
 sB (!(x9==x10))
 (∃x11,rB h8 (aS h 0) x11 /\
 sB x11
 (R (vI (-1)) h8)
 (R (vI 1) h8))
 (∃x12,rI h8 (aS h 1) x12 /\
 ∃x13,rI h8 (aS h7 1) x13 /\
 ∃x14,rI h8 (aS h 2) x14 /\
 ∃x15,rI h8 (aS h7 2) x15 /\
 Fn Pz 110 #[vI x12,vI x13] h8
 (fun v16 h18=>∃x17,iI v16 x17 /\
 Sm [(aS h7 2),(aS h 2)] h8 h18 /\
 Fn Pz 110 #[vI x14,vI x15] h18
 (fun v19 h21=>∃x20,iI v19 x20 /\
 Sm [(aS h7 1),(aS h 1)] h18 h21 /\
 Wn h21 [vI x17,vI x20] 3 fun h22=>
 Fn Pz 109 #[.slice (some (aS h21 0)) 2 2] h22
 (fun v23 h25=>∃x24,iI v23 x24 /\
 R (vI x24) h25))))
theorem vc138 (pa:Bool) (pb pc:Int) (pd:Bool) (pe pf:Int) (H:@W138 h R pa pb pc pd pe pf):Fn Pz 138 #[.agg ⟨(L5 pa pb pc)⟩,.agg ⟨(L5 pd pe pf)⟩] h R:=fnJ (A:=.z) H
def W140 (p0:Addr) (p1:Sl):Prop:=
 QSI ⟨none,0,0⟩ 0 h fun I1 out_4 x_5 h6 m3=>
 sB (decide (x_5<(p1.n:Int)))
 (NB p1.a fun b7 o8=>Ib x_5 p1.n /\
 ∃x9 x10 x11,aL5 h6 ⟨b7,o8+x_5.toNat*3,none⟩ x9 x10 x11 /\
 Wn h6 [.bool false,vI 0,vI 0] 116 fun h12=>
 Wp h12 (aS h6 0) 3 (L5 x9 x10 x11) fun h13=>
 ∃x14 x15 x16,aL5 h13 (aS h6 0) x14 x15 x16 /\
 ∃x17,rI h13 ⟨p0.block,p0.off+8,none⟩ x17 /\
 Fn Pz 194 #[.agg ⟨(L5 x14 x15 x16)⟩,vI x17] h13
 (fun v18 h24=>∃(x19:Int) (x20:Bool) (x21 x22:Int) (x23:Sl),v18=.agg ⟨(L10 x19 x20 x21 x22 x23)⟩ /\
 Wn h24 (L10 x19 x20 x21 x22 x23) 60 fun h25=>
 App Pz 56 56 (vS out_4) (.slice (some (aS h24 0)) 1 1) h25 fun s26 h27=>
 ∃m28,m28<m3/\I1 s26 (wrap .i64 (x_5+1)) h27 m28))
 (R (vS out_4) h6)
theorem vc140 (p0:Addr) (p1:Sl) (H:@W140 h R p0 p1):Fn Pz 140 #[.pointer (some p0),vS p1] h R:=fnJ (A:=(.s .z (.s .z (.s (AJ 5 10) .z)))) H
def W194 (pa:Bool) (pb pc p1:Int):Prop:=
 Wn h (L5 pa pb pc) 116 fun h4=>
 Wn h4 [vI 0,.bool false,vI 0,vI 0,vN] 60 fun h5=>
 ∃x6,rB h5 (aS h 0) x6 /\
 ∃x7,rI h5 (aS h 1) x7 /\
 ∃x8,rI h5 (aS h 2) x8 /\
 Wp h5 (aS h4 0) 5 [vI p1,.bool x6,vI x7,vI x8,vN] fun h9=>
 ∃x10 x11 x12 x13 x14,aL10 h9 (aS h4 0) x10 x11 x12 x13 x14 /\
 R (.agg ⟨(L10 x10 x11 x12 x13 x14)⟩) h9
theorem vc194 (pa:Bool) (pb pc p1:Int) (H:@W194 h R pa pb pc p1):Fn Pz 194 #[.agg ⟨(L5 pa pb pc)⟩,vI p1] h R:=fnJ (A:=.z) H
def W88 (pa:ByteArray) (pb pc:Sl) (pd pe pf:Int) (pg ph:Sl) (p1 p2:Int):Prop:=
 Wn h (L0 pa pb pc pd pe pf pg ph) 27 fun h9=>
 ∃x10 x11 x12 x13 x14 x15 x16 x17,aL0 h9 (aS h 0) x10 x11 x12 x13 x14 x15 x16 x17 /\
 Fn Pz 52 #[.agg ⟨(L0 x10 x11 x12 x13 x14 x15 x16 x17)⟩,vI p1] h9
 (fun v18 h21=>∃x19:Option Addr,∃x20:Int,v18=.tuple ⟨[.pointer x19,vI x20]⟩ /\
 sB (x20 != 0)
 (R (.tuple ⟨[vN,.bool false,vI x20]⟩) h21)
 (sB (decide (p2<0))
 (R (.tuple ⟨[vN,.bool false,vI 2]⟩) h21)
 (∃x22,rI h21 (aS h 3) x22 /\
 sB (decide (p2>=x22))
 (R (.tuple ⟨[vN,.bool false,vI 2]⟩) h21)
 (Wn h21 [vI p2] 3 fun h23=>
 Fn Pz 53 #[.pointer x19,.slice (some (aS h21 0)) 1 1] h23
 (fun v24 h26=>∃x25,iS v24 x25 /\
 ∃x27,rI h26 (aS h 5) x27 /\
 Fn Pz 87 #[.pointer x19,vS x25] h26
 (fun v28 h30=>∃x29,iS v28 x29 /\
 Sm [(aS h 5)] h26 h30 /\
 Fn Pz 140 #[.pointer x19,vS x29] h30
 (fun v31 h33=>∃x32,iS v31 x32 /\
 Sm [(aS h 5)] h30 h33 /\
 Fn Pz 29 #[vS x25,vI x27] h33
 (fun v34 h36=>∃x35,iB v34 x35 /\
 R (.tuple ⟨[vS x32,.bool x35,vI 0]⟩) h36))))))))
theorem vc88 (pa:ByteArray) (pb pc:Sl) (pd pe pf:Int) (pg ph:Sl) (p1 p2:Int) (H:@W88 h R pa pb pc pd pe pf pg ph p1 p2):Fn Pz 88 #[.agg ⟨(L0 pa pb pc pd pe pf pg ph)⟩,vI p1,vI p2] h R:=fnJ (A:=.z) H
def W84 (p0:Sl) (p1:FuncId) (p1c:Option Addr):Prop:=
 QI 0 h fun I1 x_4 h5 m3=>
 sB (decide (x_4<(p0.n:Int)))
 (NB p0.a fun b6 o7=>Ib x_4 p0.n /\
 ∃x8,rS h5 ⟨b6,o7+x_4.toNat*1,none⟩ x8 /\
 bif callable Pz p1 then Fn Pz p1 #[vS x8,.pointer p1c] h5
 (fun v9 h11=>∃x10,iB v9 x10 /\
 sB x10
 (R (vI x_4) h11)
 (∃m12,m12<m3/\I1 (wrap .i64 (x_4+1)) h11 m12)) else ExtW Pz p1 #[vS x8,.pointer p1c] h5
 (fun v9 h11=>∃x10,iB v9 x10 /\
 sB x10
 (R (vI x_4) h11)
 (∃m12,m12<m3/\I1 (wrap .i64 (x_4+1)) h11 m12)))
 (R (vI (-1)) h5)
theorem vc84 (p0:Sl) (p1:FuncId) (p1c:Option Addr) (H:@W84 h R p0 p1 p1c):Fn Pz 84 #[vS p0,.func (.func p1) #[] #[.pointer p1c]] h R:=fnJ (A:=(.s .z (.s (AI 8) .z))) H
def W85 (p0:Sl) (c0:Addr):Prop:=
 ∃x1,rS h c0 x1 /\
 Fn Pz 86 #[vS p0,vS x1] h
 (fun v2 h4=>∃x3,iB v2 x3 /\
 R (.bool x3) h4)
theorem vc85 (p0:Sl) (c0:Addr) (H:@W85 h R p0 c0):Fn Pz 85 #[vS p0,.pointer (some c0)] h R:=fnJ (A:=.z) H
def W83 (p0:Sl) (c0:Addr) (c1:Addr):Prop:=
 Wn h [vS p0] 67 fun h1=>
 ∃x2,rS h1 c0 x2 /\
 Fn Pz 84 #[vS x2,.func (.func 85) #[] #[.pointer (some (aS h 0))]] h1
 (fun v3 h5=>∃x4,iI v3 x4 /\
 sB (decide (x4>=0))
 (R (vI x4) h5)
 (∃x6,rS h5 c0 x6 /\
 ∃x7,rS h5 (aS h 0) x7 /\
 ∃x8,rS h5 ⟨c0.block,c0.off+1,none⟩ x8 /\
 ∃x9,rS h5 (aS h 0) x9 /\
 ∃x10,rI h5 ⟨c1.block,c1.off+5,none⟩ x10 /\
 Wn h5 [vS x7] 67 fun h11=>
 Sm [⟨c1.block,c1.off+5,none⟩,(aS h 0),⟨c0.block,c0.off+1,none⟩,c0] h5 h11 /\
 App Pz 83 83 (vS x6) (.slice (some (aS h5 0)) 1 1) h11 fun s12 h13=>
 Sm [⟨c1.block,c1.off+5,none⟩,(aS h 0),⟨c0.block,c0.off+1,none⟩] h11 h13 /\
 Fn Pz 29 #[vS x9,vI x10] h13
 (fun v14 h16=>∃x15,iB v14 x15 /\
 Sm [⟨c0.block,c0.off+1,none⟩,(aS h 0),c0] h13 h16 /\
 Wn h16 [.bool x15] 4 fun h17=>
 Sm [⟨c0.block,c0.off+1,none⟩,(aS h 0),c0] h16 h17 /\
 App Pz 30 30 (vS x8) (.slice (some (aS h16 0)) 1 1) h17 fun s18 h19=>
 Sm [(aS h 0),c0] h17 h19 /\
 Wp h19 c0 1 [vS s12] fun h20=>
 Sm [⟨c1.block,c1.off+5,none⟩,(aS h 0)] h19 h20 /\
 Wp h20 ⟨c0.block,c0.off+1,none⟩ 1 [vS s18] fun h21=>
 ∃x22,rS h21 c0 x22 /\
 R (vI (wrap .i64 ((x22.n:Int)-1))) h21)))
theorem vc83 (p0:Sl) (c0:Addr) (c1:Addr) (H:@W83 h R p0 c0 c1):Fn Pz 83 #[vS p0,.pointer (some c0),.pointer (some c1)] h R:=fnJ (A:=.z) H
def W39 (pa:ByteArray) (pb pc:Sl) (pd pe pf:Int) (pg ph:Sl) (p1:Int):Prop:=
 Wn h (L0 pa pb pc pd pe pf pg ph) 27 fun h9=>
 Wn h9 [vN,vN,vN] 85 fun h10=>
 ∃x11 x12 x13 x14 x15 x16 x17 x18,aL0 h10 (aS h 0) x11 x12 x13 x14 x15 x16 x17 x18 /\
 Fn Pz 52 #[.agg ⟨(L0 x11 x12 x13 x14 x15 x16 x17 x18)⟩,vI p1] h10
 (fun v19 h22=>∃x20:Option Addr,∃x21:Int,v19=.tuple ⟨[.pointer x20,vI x21]⟩ /\
 sB (x21 != 0)
 (Wp h22 (aS h9 0) 3 [vN,vN,vN] fun h23=>
 ∃x24 x25 x26,aL9 h23 (aS h9 0) x24 x25 x26 /\
 R (.tuple ⟨[.agg ⟨(L9 x24 x25 x26)⟩,vI x21]⟩) h23)
 (Wn h22 [vN,vN,vN] 85 fun h27=>
 ∃x28,rI h27 (aS h 4) x28 /\
 Wn h27 [vI x28] 3 fun h29=>
 Fn Pz 53 #[.pointer x20,.slice (some (aS h27 0)) 1 1] h29
 (fun v30 h32=>∃x31,iS v30 x31 /\
 Fn Pz 83 #[vS x31,.pointer (some (aS h22 0)),.pointer (some (aS h 0))] h32
 (fun v33 h35=>∃x34,iI v33 x34 /\
 QI 0 h35 fun I36 i_39 h40 m38=>
 ∃x41,rS h40 (aS h22 0) x41 /\
 sB (decide (i_39<(x41.n:Int)))
 (∃x42,rS h40 (aS h22 0) x42 /\
 NB x42.a fun b43 o44=>Ib i_39 x42.n /\
 ∃x45,rS h40 ⟨b43,o44+i_39.toNat*1,none⟩ x45 /\
 Fn Pz 87 #[.pointer x20,vS x45] h40
 (fun v46 h48=>∃x47,iS v46 x47 /\
 QI 0 h48 fun I49 x_52 h53 m51=>
 sB (decide (x_52<(x47.n:Int)))
 (NB x47.a fun b54 o55=>Ib x_52 x47.n /\
 ∃x56 x57 x58,aL5 h53 ⟨b54,o55+x_52.toNat*3,none⟩ x56 x57 x58 /\
 Wn h53 [.bool false,vI 0,vI 0] 116 fun h59=>
 Wp h59 (aS h53 0) 3 (L5 x56 x57 x58) fun h60=>
 ∃x61,rS h60 (aS h22 0) x61 /\
 NB x61.a fun b62 o63=>Ib i_39 x61.n /\
 ∃x64,rS h60 ⟨b62,o63+i_39.toNat*1,none⟩ x64 /\
 ∃x65 x66 x67,aL5 h60 (aS h53 0) x65 x66 x67 /\
 Fn Pz 56 #[.pointer x20,vS x64,.agg ⟨(L5 x65 x66 x67)⟩] h60
 (fun v68 h70=>∃x69,iS v68 x69 /\
 Fn Pz 83 #[vS x69,.pointer (some (aS h22 0)),.pointer (some (aS h 0))] h70
 (fun v71 h73=>∃x72,iI v71 x72 /\
 ∃x74,rS h73 (aS h22 2) x74 /\
 ∃x75,rB h73 (aS h53 0) x75 /\
 ∃x76,rI h73 (aS h53 1) x76 /\
 ∃x77,rI h73 (aS h53 2) x77 /\
 Wn h73 [vI i_39,.bool x75,vI x76,vI x77,vI x72,.bool false] 45 fun h78=>
 App Pz 31 31 (vS x74) (.slice (some (aS h73 0)) 1 1) h78 fun s79 h80=>
 Wp h80 (aS h22 2) 1 [vS s79] fun h81=>
 ∃m82,m82<m51/\I49 (wrap .i64 (x_52+1)) h81 m82)))
 (∃x83,rS h53 (aS h22 0) x83 /\
 sB (decide ((x83.n:Int)>200))
 (Wp h53 (aS h9 0) 3 [vN,vN,vN] fun h84=>
 ∃x85 x86 x87,aL9 h84 (aS h9 0) x85 x86 x87 /\
 R (.tuple ⟨[.agg ⟨(L9 x85 x86 x87)⟩,vI 6]⟩) h84)
 (∃m88,m88<m38/\I36 (wrap .i64 (i_39+1)) h53 m88))))
 (∃x89 x90 x91,aL9 h40 (aS h22 0) x89 x90 x91 /\
 Wp h40 (aS h9 0) 3 (L9 x89 x90 x91) fun h92=>
 ∃x93 x94 x95,aL9 h92 (aS h9 0) x93 x94 x95 /\
 R (.tuple ⟨[.agg ⟨(L9 x93 x94 x95)⟩,vI 0]⟩) h92)))))
theorem vc39 (pa:ByteArray) (pb pc:Sl) (pd pe pf:Int) (pg ph:Sl) (p1:Int) (H:@W39 h R pa pb pc pd pe pf pg ph p1):Fn Pz 39 #[.agg ⟨(L0 pa pb pc pd pe pf pg ph)⟩,vI p1] h R:=fnJ (A:=(.s .z (.s .z (.s .z (.s .z (.s .z (.s .z (.s (.s .z (.b (.l [(10,.one (.int .i64))] (.s .z (.s (.b (.s (AI 47) .z)) .z))))) .z)))))))) H
def W109 (p0:Sl):Prop:=
 QI 0 h fun I1 x_4 h5 m3=>
 sB (decide (x_4<(p0.n:Int)))
 (NB p0.a fun b6 o7=>Ib x_4 p0.n /\
 ∃x8,rI h5 ⟨b6,o7+x_4.toNat*1,none⟩ x8 /\
 sB (x8 != 0)
 (R (vI x8) h5)
 (∃m9,m9<m3/\I1 (wrap .i64 (x_4+1)) h5 m9))
 (R (vI 0) h5)
theorem vc109 (p0:Sl) (H:@W109 h R p0):Fn Pz 109 #[vS p0] h R:=fnJ (A:=(.s .z (.s .z (.s (AI 8) .z)))) H
def W110 (p0 p1:Int):Prop:=
 Fn Pz 151 #[vI p0] h
 (fun v1 h3=>∃x2,iB v1 x2 /\
 Fn Pz 151 #[vI p1] h3
 (fun v4 h6=>∃x5,iB v4 x5 /\
 sB x2
 (sB x5
 (R (vI 0) h6)
 (R (vI (-1)) h6))
 (sB x5
 (R (vI 1) h6)
 (sB (decide (p0<p1))
 (R (vI (-1)) h6)
 (sB (decide (p0>p1))
 (R (vI 1) h6)
 (R (vI 0) h6))))))
theorem vc110 (p0 p1:Int) (H:@W110 h R p0 p1):Fn Pz 110 #[vI p0,vI p1] h R:=fnJ (A:=.z) H
def W151 (p0:Int):Prop:=
 R (.bool (p0 != p0)) h
theorem vc151 (p0:Int) (H:@W151 h R p0):Fn Pz 151 #[vI p0] h R:=fnJ (A:=.z) H
def W189 (p0:ByteArray):Prop:=
 sB ((ByteArray.toList p0)==(ByteArray.toList ⟨#[]⟩))
 (R (.bool false) h)
 (sB (decide ((ByteArray.size p0:Int)>16))
 (R (.bool false) h)
 ((0<=(0:Int)/\(0:Int)<(ByteArray.size p0:Nat)) /\
 Fn Pz 221 #[.int .u8 (byteAt p0 (Int.toNat 0):Int)] h
 (fun v1 h3=>∃x2,iB v1 x2 /\
 sB (!x2)
 (R (.bool false) h3)
 (QI 0 h3 fun I4 x_7 h8 m6=>
 sB (decide (x_7<(ByteArray.size p0:Int)))
 ((0<=(x_7:Int)/\(x_7:Int)<(ByteArray.size p0:Nat)) /\
 Fn Pz 222 #[.int .u8 (byteAt p0 (x_7.toNat):Int)] h8
 (fun v9 h11=>∃x10,iB v9 x10 /\
 sB (!x10)
 (R (.bool false) h11)
 (∃m12,m12<m6/\I4 (wrap .i64 (x_7+1)) h11 m12)))
 (R (.bool true) h8)))))
theorem vc189 (p0:ByteArray) (H:@W189 h R p0):Fn Pz 189 #[.string p0] h R:=fnJ (A:=(.s .z (.s .z (.s (AI 19) .z)))) H
def W132 (p0:ByteArray):Prop:=
 Wn h [.string ⟨#[]⟩,.string ⟨#[]⟩,.string ⟨#[]⟩,.string ⟨#[]⟩,.string ⟨#[]⟩,.string ⟨#[]⟩,.string ⟨#[]⟩,.string ⟨#[]⟩,.string ⟨#[]⟩,.string ⟨#[]⟩,.string ⟨#[]⟩,.string ⟨#[]⟩,.string ⟨#[]⟩,.string ⟨#[]⟩,.string ⟨#[]⟩,.string ⟨#[]⟩,.string ⟨#[]⟩,.string ⟨#[]⟩,.string ⟨#[]⟩,.string ⟨#[]⟩,.string ⟨#[]⟩,.string ⟨#[]⟩,.string ⟨#[]⟩,.string ⟨#[]⟩,.string ⟨#[]⟩,.string ⟨#[]⟩,.string ⟨#[]⟩,.string ⟨#[]⟩] 300 fun h1=>
 Wp h1 (aS h 0) 28 [.string ⟨#[97,103,97,105,110]⟩,.string ⟨#[97,110,100]⟩,.string ⟨#[97,115]⟩,.string ⟨#[97,116]⟩,.string ⟨#[99,97,108,108]⟩,.string ⟨#[99,104,111,105,99,101]⟩,.string ⟨#[101,108,115,101]⟩,.string ⟨#[102,114,111,109]⟩,.string ⟨#[105,102]⟩,.string ⟨#[105,110,116]⟩,.string ⟨#[108,101,110]⟩,.string ⟨#[108,111,111,112]⟩,.string ⟨#[109,101,115,115,97,103,101]⟩,.string ⟨#[111,102]⟩,.string ⟨#[111,102,102,101,114]⟩,.string ⟨#[111,110]⟩,.string ⟨#[111,114]⟩,.string ⟨#[112,97,114]⟩,.string ⟨#[112,108,97,121,115]⟩,.string ⟨#[112,114,111,116,111,99,111,108]⟩,.string ⟨#[115,101,114,118,105,99,101]⟩,.string ⟨#[116,101,120,116]⟩,.string ⟨#[116,105,109,101,115]⟩,.string ⟨#[116,111]⟩,.string ⟨#[118,97,114]⟩,.string ⟨#[119,104,101,114,101]⟩,.string ⟨#[119,104,105,108,101]⟩,.string ⟨#[119,105,116,104,105,110]⟩] fun h2=>
 Fn Pz 189 #[.string p0] h2
 (fun v3 h5=>∃x4,iB v3 x4 /\
 sB x4
 (((0:Int)<=(0:Int)/\(0:Int)<=((28:Nat):Int)/\((28:Nat):Int)<=(28:Nat)) /\
 Fn Pz 133 #[.slice (subA (some (aS h 0)) (Int.toNat 0) 28 1) (Int.toNat (28:Nat)-Int.toNat 0) (28-Int.toNat 0),.string p0] h5
 (fun v6 h8=>∃x7,iB v6 x7 /\
 R (.bool (!x7)) h8))
 (R (.bool false) h5))
theorem vc132 (p0:ByteArray) (H:@W132 h R p0):Fn Pz 132 #[.string p0] h R:=fnJ (A:=.z) H
def W221 (p0:Int):Prop:=
 sB (decide ((97:Int)<=p0))
 (sB (decide (p0<=122))
 (R (.bool true) h)
 (sB (decide ((65:Int)<=p0))
 (R (.bool (decide (p0<=90))) h)
 (R (.bool false) h)))
 (sB (decide ((65:Int)<=p0))
 (R (.bool (decide (p0<=90))) h)
 (R (.bool false) h))
theorem vc221 (p0:Int) (H:@W221 h R p0):Fn Pz 221 #[.int .u8 p0] h R:=fnJ (A:=.z) H
def W222 (p0:Int):Prop:=
 Fn Pz 221 #[.int .u8 p0] h
 (fun v1 h3=>∃x2,iB v1 x2 /\
 sB x2
 (R (.bool true) h3)
 (Fn Pz 253 #[.int .u8 p0] h3
 (fun v4 h6=>∃x5,iB v4 x5 /\
 sB x5
 (R (.bool true) h6)
 (R (.bool (p0==95)) h6))))
theorem vc222 (p0:Int) (H:@W222 h R p0):Fn Pz 222 #[.int .u8 p0] h R:=fnJ (A:=.z) H
def W253 (p0:Int):Prop:=
 sB (decide ((48:Int)<=p0))
 (R (.bool (decide (p0<=57))) h)
 (R (.bool false) h)
theorem vc253 (p0:Int) (H:@W253 h R p0):Fn Pz 253 #[.int .u8 p0] h R:=fnJ (A:=.z) H
def W190 (p0:Sl) (p1:ByteArray):Prop:=
 QI 0 h fun I1 x_4 h5 m3=>
 sB (decide (x_4<(p0.n:Int)))
 (NB p0.a fun b6 o7=>Ib x_4 p0.n /\
 ∃x8,rT h5 ⟨b6,o7+x_4.toNat*1,none⟩ x8 /\
 sB ((ByteArray.toList p1)==(ByteArray.toList x8))
 (R (vI x_4) h5)
 (∃m9,m9<m3/\I1 (wrap .i64 (x_4+1)) h5 m9))
 (R (vI (-1)) h5)
theorem vc190 (p0:Sl) (p1:ByteArray) (H:@W190 h R p0 p1):Fn Pz 190 #[vS p0,.string p1] h R:=fnJ (A:=(.s .z (.s (AI 8) .z))) H
def W133 (p0:Sl) (p1:ByteArray):Prop:=
 Fn Pz 190 #[vS p0,.string p1] h
 (fun v1 h3=>∃x2,iI v1 x2 /\
 R (.bool (decide (x2>=0))) h3)
theorem vc133 (p0:Sl) (p1:ByteArray) (H:@W133 h R p0 p1):Fn Pz 133 #[vS p0,.string p1] h R:=fnJ (A:=.z) H
def W281 (p0:Sl) (p1:FuncId):Prop:=
 QI 0 h fun I1 x_4 h5 m3=>
 sB (decide (x_4<(p0.n:Int)))
 (NB p0.a fun b6 o7=>Ib x_4 p0.n /\
 ∃x8,rT h5 ⟨b6,o7+x_4.toNat*1,none⟩ x8 /\
 bif callable Pz p1 then Fn Pz p1 #[.string x8] h5
 (fun v9 h11=>∃x10,iB v9 x10 /\
 sB x10
 (R (vI x_4) h11)
 (∃m12,m12<m3/\I1 (wrap .i64 (x_4+1)) h11 m12)) else ExtW Pz p1 #[.string x8] h5
 (fun v9 h11=>∃x10,iB v9 x10 /\
 sB x10
 (R (vI x_4) h11)
 (∃m12,m12<m3/\I1 (wrap .i64 (x_4+1)) h11 m12)))
 (R (vI (-1)) h5)
theorem vc281 (p0:Sl) (p1:FuncId) (H:@W281 h R p0 p1):Fn Pz 281 #[vS p0,.func (.func p1) #[] #[]] h R:=fnJ (A:=(.s .z (.s (AI 8) .z))) H
def W254 (p0:Sl) (p1:Value):Prop:=
 Fn Pz 281 #[vS p0,p1] h
 (fun v1 h3=>∃x2,iI v1 x2 /\
 R (.bool (decide (x2>=0))) h3)
theorem vc254 (p0:Sl) (p1:Value) (H:@W254 h R p0 p1):Fn Pz 254 #[vS p0,p1] h R:=fnJ (A:=.z) H
def W256 (p0:ByteArray):Prop:=
 Fn Pz 132 #[.string p0] h
 (fun v1 h3=>∃x2,iB v1 x2 /\
 R (.bool (!x2)) h3)
theorem vc256 (p0:ByteArray) (H:@W256 h R p0):Fn Pz 256 #[.string p0] h R:=fnJ (A:=.z) H
def W224 (p0:ByteArray):Prop:=
 sB (decide ((ByteArray.size p0:Int)<=50))
 (Fn Pz 255 #[.string p0,.string ⟨#[46]⟩] h
 (fun v1 h3=>∃x2,iS v1 x2 /\
 Fn Pz 254 #[vS x2,.func (.func 256) #[] #[]] h3
 (fun v4 h6=>∃x5,iB v4 x5 /\
 R (.bool (!x5)) h6)))
 (R (.bool false) h)
theorem vc224 (p0:ByteArray) (H:@W224 h R p0):Fn Pz 224 #[.string p0] h R:=fnJ (A:=.z) H
def W223 (p0:Sl):Prop:=
 QSI ⟨none,0,0⟩ 0 h fun I1 out_4 x_5 h6 m3=>
 sB (decide (x_5<(p0.n:Int)))
 (NB p0.a fun b7 o8=>Ib x_5 p0.n /\
 ∃x9 x10 x11 x12 x13,aL6 h6 ⟨b7,o8+x_5.toNat*5,none⟩ x9 x10 x11 x12 x13 /\
 Wn h6 [.string ⟨#[]⟩,vN,vI 0,vN,vN] 136 fun h14=>
 Wp h14 (aS h6 0) 5 (L6 x9 x10 x11 x12 x13) fun h15=>
 ∃x16,rS h15 (aS h6 1) x16 /\
 App Pz 130 130 (vS out_4) (vS x16) h15 fun s17 h18=>
 ∃m19,m19<m3/\I1 s17 (wrap .i64 (x_5+1)) h18 m19)
 (R (vS out_4) h6)
theorem vc223 (p0:Sl) (H:@W223 h R p0):Fn Pz 223 #[vS p0] h R:=fnJ (A:=(.s .z (.s .z (.s (AJ 3 8) .z)))) H
def W226 (pa:ByteArray) (pb:Sl) (pc:Int) (pd pe:Sl) (c0:Addr):Prop:=
 Wn h (L6 pa pb pc pd pe) 136 fun h6=>
 ∃x7,rT h6 (aS h 0) x7 /\
 ∃x8,rT h6 c0 x8 /\
 R (.bool ((ByteArray.toList x7)==(ByteArray.toList x8))) h6
theorem vc226 (pa:ByteArray) (pb:Sl) (pc:Int) (pd pe:Sl) (c0:Addr) (H:@W226 h R pa pb pc pd pe c0):Fn Pz 226 #[.agg ⟨(L6 pa pb pc pd pe)⟩,.pointer (some c0)] h R:=fnJ (A:=.z) H
def W229 (pa:ByteArray) (pb pc pd:Int) (c0:Addr):Prop:=
 Wn h (L7 pa pb pc pd) 184 fun h5=>
 ∃x6,rT h5 (aS h 0) x6 /\
 ∃x7,rT h5 c0 x7 /\
 R (.bool ((ByteArray.toList x6)==(ByteArray.toList x7))) h5
theorem vc229 (pa:ByteArray) (pb pc pd:Int) (c0:Addr) (H:@W229 h R pa pb pc pd c0):Fn Pz 229 #[.agg ⟨(L7 pa pb pc pd)⟩,.pointer (some c0)] h R:=fnJ (A:=.z) H
def W227 (pa pb pc:Int):Prop:=
 Wn h (L2 pa pb pc) 182 fun h4=>
 ∃x5,rI h4 (aS h 0) x5 /\
 sB (x5==1)
 (∃x6,rI h4 (aS h 1) x6 /\
 sB (decide (x6>=(-1000)))
 (∃x7,rI h4 (aS h 1) x7 /\
 ∃x8,rI h4 (aS h 2) x8 /\
 sB (decide (x7<=x8))
 (∃x9,rI h4 (aS h 2) x9 /\
 R (.bool (decide (x9<=1000))) h4)
 (R (.bool false) h4))
 (R (.bool false) h4))
 (sB (x5==2)
 (∃x10,rI h4 (aS h 1) x10 /\
 sB (decide (x10>=0))
 (∃x11,rI h4 (aS h 1) x11 /\
 ∃x12,rI h4 (aS h 2) x12 /\
 sB (decide (x11<=x12))
 (∃x13,rI h4 (aS h 2) x13 /\
 R (.bool (decide (x13<=40))) h4)
 (R (.bool false) h4))
 (R (.bool false) h4))
 (R (.bool false) h4))
theorem vc227 (pa pb pc:Int) (H:@W227 h R pa pb pc):Fn Pz 227 #[.agg ⟨(L2 pa pb pc)⟩] h R:=fnJ (A:=.z) H
def W257 (p0:Sl) (p1:FuncId) (p1c:Option Addr):Prop:=
 QI 0 h fun I1 x_4 h5 m3=>
 sB (decide (x_4<(p0.n:Int)))
 (NB p0.a fun b6 o7=>Ib x_4 p0.n /\
 ∃x8 x9 x10 x11 x12,aL6 h5 ⟨b6,o7+x_4.toNat*5,none⟩ x8 x9 x10 x11 x12 /\
 bif callable Pz p1 then Fn Pz p1 #[.agg ⟨(L6 x8 x9 x10 x11 x12)⟩,.pointer p1c] h5
 (fun v13 h15=>∃x14,iB v13 x14 /\
 sB x14
 (R (vI x_4) h15)
 (∃m16,m16<m3/\I1 (wrap .i64 (x_4+1)) h15 m16)) else ExtW Pz p1 #[.agg ⟨(L6 x8 x9 x10 x11 x12)⟩,.pointer p1c] h5
 (fun v13 h15=>∃x14,iB v13 x14 /\
 sB x14
 (R (vI x_4) h15)
 (∃m16,m16<m3/\I1 (wrap .i64 (x_4+1)) h15 m16)))
 (R (vI (-1)) h5)
theorem vc257 (p0:Sl) (p1:FuncId) (p1c:Option Addr) (H:@W257 h R p0 p1 p1c):Fn Pz 257 #[vS p0,.func (.func p1) #[] #[.pointer p1c]] h R:=fnJ (A:=(.s .z (.s (AI 8) .z))) H
def W258 (p0:Sl) (p1:FuncId) (p1c:Option Addr):Prop:=
 QI 0 h fun I1 x_4 h5 m3=>
 sB (decide (x_4<(p0.n:Int)))
 (NB p0.a fun b6 o7=>Ib x_4 p0.n /\
 ∃x8 x9 x10 x11,aL7 h5 ⟨b6,o7+x_4.toNat*4,none⟩ x8 x9 x10 x11 /\
 bif callable Pz p1 then Fn Pz p1 #[.agg ⟨(L7 x8 x9 x10 x11)⟩,.pointer p1c] h5
 (fun v12 h14=>∃x13,iB v12 x13 /\
 sB x13
 (R (vI x_4) h14)
 (∃m15,m15<m3/\I1 (wrap .i64 (x_4+1)) h14 m15)) else ExtW Pz p1 #[.agg ⟨(L7 x8 x9 x10 x11)⟩,.pointer p1c] h5
 (fun v12 h14=>∃x13,iB v12 x13 /\
 sB x13
 (R (vI x_4) h14)
 (∃m15,m15<m3/\I1 (wrap .i64 (x_4+1)) h14 m15)))
 (R (vI (-1)) h5)
theorem vc258 (p0:Sl) (p1:FuncId) (p1c:Option Addr) (H:@W258 h R p0 p1 p1c):Fn Pz 258 #[vS p0,.func (.func p1) #[] #[.pointer p1c]] h R:=fnJ (A:=(.s .z (.s (AI 8) .z))) H
def W225 (p0:Sl) (p1:Value):Prop:=
 Fn Pz 257 #[vS p0,p1] h
 (fun v1 h3=>∃x2,iI v1 x2 /\
 R (.bool (decide (x2>=0))) h3)
theorem vc225 (p0:Sl) (p1:Value) (H:@W225 h R p0 p1):Fn Pz 225 #[vS p0,p1] h R:=fnJ (A:=.z) H
def W228 (p0:Sl) (p1:Value):Prop:=
 Fn Pz 258 #[vS p0,p1] h
 (fun v1 h3=>∃x2,iI v1 x2 /\
 R (.bool (decide (x2>=0))) h3)
theorem vc228 (p0:Sl) (p1:Value) (H:@W228 h R p0 p1):Fn Pz 228 #[vS p0,p1] h R:=fnJ (A:=.z) H
def W230 (pa pb p1:Sl):Prop:=
 Wn h [vS pa,vS pb] 134 fun h3=>
 ∃x4,rS h3 (aS h 0) x4 /\
 sB (decide ((x4.n:Int)>20))
 (R (.bool false) h3)
 (∃x5,rS h3 (aS h 1) x5 /\
 sB (decide ((x5.n:Int)>20))
 (R (.bool false) h3)
 (∃x6,rS h3 (aS h 0) x6 /\
 QI 0 h3 fun I7 x_10 h11 m9=>
 sB (decide (x_10<(x6.n:Int)))
 (NB x6.a fun b12 o13=>Ib x_10 x6.n /\
 ∃x14 x15 x16,aL2 h11 ⟨b12,o13+x_10.toNat*3,none⟩ x14 x15 x16 /\
 Wn h11 [vI 0,vI 0,vI 0] 187 fun h17=>
 Wp h17 (aS h11 0) 3 (L2 x14 x15 x16) fun h18=>
 ∃x19,rI h18 (aS h11 0) x19 /\
 ∃x20,rI h18 (aS h11 1) x20 /\
 sB (decide ((imin x19 x20)<(-1)))
 (R (.bool false) h18)
 (∃x21,rI h18 (aS h11 0) x21 /\
 ∃x22,rI h18 (aS h11 1) x22 /\
 sB (decide ((imax x21 x22)>=(p1.n:Int)))
 (R (.bool false) h18)
 (∃x23,rI h18 (aS h11 2) x23 /\
 sB (decide (x23<(-20000)))
 (R (.bool false) h18)
 (∃x24,rI h18 (aS h11 2) x24 /\
 sB (decide (x24>20000))
 (R (.bool false) h18)
 (∃m25,m25<m9/\I7 (wrap .i64 (x_10+1)) h18 m25)))))
 (∃x26,rS h11 (aS h 1) x26 /\
 QI 0 h11 fun I27 x_30 h31 m29=>
 sB (decide (x_30<(x26.n:Int)))
 (NB x26.a fun b32 o33=>Ib x_30 x26.n /\
 ∃(x34 x35:Int),atC h31 ⟨b32,o33+x_30.toNat*2,none⟩ [vI x34,vI x35] /\
 Wn h31 [vI 0,vI 0] 189 fun h36=>
 Wp h36 (aS h31 0) 2 [vI x34,vI x35] fun h37=>
 ∃(x38 x39:Int),atC h37 (aS h31 0) [vI x38,vI x39] /\
 QI 0 h37 fun I40 x_43 h44 m42=>
 sB (decide (x_43<2))
 (Ib x_43 2/\∃x45:Int,List.take 1 (List.drop (x_43.toNat*1) ([vI x38,vI x39]:List Value))=[vI x45] /\
 sB (decide (x45<0))
 (R (.bool false) h44)
 (sB (decide (x45>=(p1.n:Int)))
 (R (.bool false) h44)
 (NB p1.a fun b46 o47=>Ib x45 p1.n /\
 ∃x48,rI h44 ⟨b46,o47+x45.toNat*4+1,none⟩ x48 /\
 sB (x48 != 2)
 (R (.bool false) h44)
 (∃m49,m49<m42/\I40 (wrap .i64 (x_43+1)) h44 m49))))
 (∃m50,m50<m29/\I27 (wrap .i64 (x_30+1)) h44 m50))
 (R (.bool true) h31))))
theorem vc230 (pa pb p1:Sl) (H:@W230 h R pa pb p1):Fn Pz 230 #[.agg ⟨[vS pa,vS pb]⟩,vS p1] h R:=fnJ (A:=(.s .z (.s .z (.s (AI 24) (.s (.s .z (.b (.l [(58,.one (.int .i64))] (.s .z (.s .z (.s (.b (.s .z (AI 63))) .z)))))) .z))))) H
def W191 (p0:Sl):Prop:=
 sB (decide ((p0.n:Int)>40))
 (R (.bool false) h)
 (Fn Pz 223 #[vS p0] h
 (fun v1 h3=>∃x2,iS v1 x2 /\
 sB (decide ((x2.n:Int)>24))
 (R (.bool false) h3)
 (QII 0 0 h3 fun I4 at_7 x_8 h9 m6=>
 sB (decide (x_8<(p0.n:Int)))
 (NB p0.a fun b10 o11=>Ib x_8 p0.n /\
 ∃x12 x13 x14 x15 x16,aL6 h9 ⟨b10,o11+x_8.toNat*5,none⟩ x12 x13 x14 x15 x16 /\
 Wn h9 [.string ⟨#[]⟩,vN,vI 0,vN,vN] 136 fun h17=>
 Wp h17 (aS h9 0) 5 (L6 x12 x13 x14 x15 x16) fun h18=>
 ∃x19,rT h18 (aS h9 0) x19 /\
 Fn Pz 224 #[.string x19] h18
 (fun v20 h22=>∃x21,iB v20 x21 /\
 sB (!x21)
 (R (.bool false) h22)
 (∃x23,rS h22 (aS h9 1) x23 /\
 sB (decide ((x23.n:Int)>4))
 (R (.bool false) h22)
 (∃x24,rI h22 (aS h9 2) x24 /\
 sB (x24 != at_7)
 (R (.bool false) h22)
 (((0:Int)<=(0:Int)/\(0:Int)<=(x_8:Int)/\(x_8:Int)<=(p0.c:Nat)) /\
 Fn Pz 225 #[.slice (subA p0.a (Int.toNat 0) p0.c 5) (x_8.toNat-Int.toNat 0) (p0.c-Int.toNat 0),.func (.func 226) #[] #[.pointer (some (aS h9 0))]] h22
 (fun v25 h27=>∃x26,iB v25 x26 /\
 sB x26
 (R (.bool false) h27)
 (∃x28,rS h27 (aS h9 1) x28 /\
 ∃x29,rS h27 (aS h9 1) x29 /\
 QI 0 h27 fun I30 x_33 h34 m32=>
 sB (decide (x_33<(x29.n:Int)))
 (NB x29.a fun b35 o36=>Ib x_33 x29.n /\
 ∃x37 x38 x39 x40,aL7 h34 ⟨b35,o36+x_33.toNat*4,none⟩ x37 x38 x39 x40 /\
 Wn h34 [.string ⟨#[]⟩,vI 0,vI 0,vI 0] 184 fun h41=>
 Wp h41 (aS h34 0) 4 (L7 x37 x38 x39 x40) fun h42=>
 ∃x43,rT h42 (aS h34 0) x43 /\
 Fn Pz 132 #[.string x43] h42
 (fun v44 h46=>∃x45,iB v44 x45 /\
 sB (!x45)
 (R (.bool false) h46)
 (∃x47 x48 x49,aL2 h46 (aS h34 1) x47 x48 x49 /\
 Fn Pz 227 #[.agg ⟨(L2 x47 x48 x49)⟩] h46
 (fun v50 h52=>∃x51,iB v50 x51 /\
 sB (!x51)
 (R (.bool false) h52)
 (∃x53,rS h52 (aS h9 1) x53 /\
 ((0:Int)<=(0:Int)/\(0:Int)<=(x_33:Int)/\(x_33:Int)<=(x53.c:Nat)) /\
 Fn Pz 228 #[.slice (subA x53.a (Int.toNat 0) x53.c 4) (x_33.toNat-Int.toNat 0) (x53.c-Int.toNat 0),.func (.func 229) #[] #[.pointer (some (aS h34 0))]] h52
 (fun v54 h56=>∃x55,iB v54 x55 /\
 sB x55
 (R (.bool false) h56)
 (∃m57,m57<m32/\I30 (wrap .i64 (x_33+1)) h56 m57)))))))
 (∃(x58 x59:Sl),atC h34 (aS h9 3) [vS x58,vS x59] /\
 Fn Pz 230 #[.agg ⟨[vS x58,vS x59]⟩,vS x2] h34
 (fun v60 h62=>∃x61,iB v60 x61 /\
 sB (!x61)
 (R (.bool false) h62)
 (∃m63,m63<m6/\I4 (wrap .i64 (at_7+(x28.n:Int))) (wrap .i64 (x_8+1)) h62 m63))))))))))
 (R (.bool true) h9))))
theorem vc191 (p0:Sl) (H:@W191 h R p0):Fn Pz 191 #[vS p0] h R:=fnJ (A:=(.s .z (.s .z (.s .z (.s .z (.s .z (.s (.s .z (.b (.l [(4,.one (.int .i64)),(19,.one (.int .i64))] (.s .z (.s .z (.s (.b (.s .z (.s .z (.s .z (.s (AI 55) .z))))) .z)))))) .z))))))) H
def W192 (pa:ByteArray) (pb:Sl) (pc:Int) (pd pe:Sl):Prop:=
 Wn h (L6 pa pb pc pd pe) 136 fun h6=>
 ∃x7,rS h6 (aS h 1) x7 /\
 QSI ⟨none,0,0⟩ 0 h6 fun I8 out_11 x_12 h13 m10=>
 sB (decide (x_12<(x7.n:Int)))
 (NB x7.a fun b14 o15=>Ib x_12 x7.n /\
 ∃x16 x17 x18 x19,aL7 h13 ⟨b14,o15+x_12.toNat*4,none⟩ x16 x17 x18 x19 /\
 Wn h13 [.string ⟨#[]⟩,vI 0,vI 0,vI 0] 184 fun h20=>
 Wp h20 (aS h13 0) 4 (L7 x16 x17 x18 x19) fun h21=>
 ∃x22,rI h21 (aS h 2) x22 /\
 ∃x23,rI h21 (aS h13 (1+2)) x23 /\
 ∃x24,rI h21 (aS h 2) x24 /\
 ∃x25,rI h21 (aS h13 (1+1)) x25 /\
 Wn h21 [vI (wrap .i64 (x22+x_12)),vI (-1),vI x23,vI (-1),vI (wrap .i64 (x24+x_12)),vI (wrap .i64 (0-x25))] 187 fun h26=>
 App Pz 131 131 (vS out_11) (.slice (some (aS h21 0)) 2 2) h26 fun s27 h28=>
 ∃m29,m29<m10/\I8 s27 (wrap .i64 (x_12+1)) h28 m29)
 (∃x30,rS h13 (aS h 3) x30 /\
 App Pz 131 131 (vS out_11) (vS x30) h13 fun s31 h32=>
 ∃x33,rS h32 (aS h (3+1)) x33 /\
 QSI s31 0 h32 fun I34 out_37 x_38 h39 m36=>
 sB (decide (x_38<(x33.n:Int)))
 (NB x33.a fun b40 o41=>Ib x_38 x33.n /\
 ∃(x42 x43:Int),atC h39 ⟨b40,o41+x_38.toNat*2,none⟩ [vI x42,vI x43] /\
 Wn h39 [vI 0,vI 0] 189 fun h44=>
 Wp h44 (aS h39 0) 2 [vI x42,vI x43] fun h45=>
 Ib 0 2 /\
 ∃x46,rI h45 (aS h39 (0+Int.toNat 0*1)) x46 /\
 Ib 1 2 /\
 ∃x47,rI h45 (aS h39 (0+Int.toNat 1*1)) x47 /\
 Ib 1 2 /\
 ∃x48,rI h45 (aS h39 (0+Int.toNat 1*1)) x48 /\
 Ib 0 2 /\
 ∃x49,rI h45 (aS h39 (0+Int.toNat 0*1)) x49 /\
 Wn h45 [vI x46,vI x47,vI 0,vI x48,vI x49,vI 0] 187 fun h50=>
 App Pz 131 131 (vS out_37) (.slice (some (aS h45 0)) 2 2) h50 fun s51 h52=>
 ∃m53,m53<m36/\I34 s51 (wrap .i64 (x_38+1)) h52 m53)
 (R (vS out_37) h39))
theorem vc192 (pa:ByteArray) (pb:Sl) (pc:Int) (pd pe:Sl) (H:@W192 h R pa pb pc pd pe):Fn Pz 192 #[.agg ⟨(L6 pa pb pc pd pe)⟩] h R:=fnJ (A:=(.s .z (.s .z (.s (AJ 3 11) (.s .z (.s (AJ 3 46) .z)))))) H
def W134 (p0:Sl) (p1:Int):Prop:=
 sB (decide (p1<0))
 (R (.tuple ⟨[vN,vI 1]⟩) h)
 (sB (decide (p1>=(p0.n:Int)))
 (R (.tuple ⟨[vN,vI 1]⟩) h)
 (Fn Pz 191 #[vS p0] h
 (fun v1 h3=>∃x2,iB v1 x2 /\
 sB (!x2)
 (R (.tuple ⟨[vN,vI 1]⟩) h3)
 (NB p0.a fun b4 o5=>Ib p1 p0.n /\
 ∃x6 x7 x8 x9 x10,aL6 h3 ⟨b4,o5+p1.toNat*5,none⟩ x6 x7 x8 x9 x10 /\
 Fn Pz 192 #[.agg ⟨(L6 x6 x7 x8 x9 x10)⟩] h3
 (fun v11 h13=>∃x12,iS v11 x12 /\
 R (.tuple ⟨[vS x12,vI 0]⟩) h13)))))
theorem vc134 (p0:Sl) (p1:Int) (H:@W134 h R p0 p1):Fn Pz 134 #[vS p0,vI p1] h R:=fnJ (A:=.z) H
end Go.VC
end

section
namespace Go.VC
open Go.Proofs IntKind
variable [Mono]
namespace M
def W151 (p0:Int) (h:Heap) (R:Value->Heap->Prop):Prop:=
 R (.bool (p0 != p0)) h
theorem vc151 (p0:Int) (h:Heap) (R:Value->Heap->Prop) (H:W151 p0 h R):Fn Pz 151 #[vI p0] h R:=fnJ (A:=.z) H
def W110 (p0 p1:Int) (h:Heap) (R:Value->Heap->Prop):Prop:=
 Fn Pz 151 #[vI p0] h
 (fun v1 h3=>∃x2,iB v1 x2 /\
 Fn Pz 151 #[vI p1] h3
 (fun v4 h6=>∃x5,iB v4 x5 /\
 sB x2
 (sB x5
 (R (vI 0) h6)
 (R (vI (-1)) h6))
 (sB x5
 (R (vI 1) h6)
 (sB (decide (p0<p1))
 (R (vI (-1)) h6)
 (sB (decide (p0>p1))
 (R (vI 1) h6)
 (R (vI 0) h6))))))
theorem vc110 (p0 p1:Int) (h:Heap) (R:Value->Heap->Prop) (H:W110 p0 p1 h R):Fn Pz 110 #[vI p0,vI p1] h R:=fnJ (A:=.z) H
def W109 (p0:Sl) (h:Heap) (R:Value->Heap->Prop):Prop:=
 QI 0 h fun I1 x_4 h5 m3=>
 sB (decide (x_4<(p0.n:Int)))
 (NB p0.a fun b6 o7=>Ib x_4 p0.n /\
 ∃x8,rI h5 ⟨b6,o7+x_4.toNat*1,none⟩ x8 /\
 sB (x8 != 0)
 (R (vI x8) h5)
 (∃m9,m9<m3/\I1 (wrap .i64 (x_4+1)) h5 m9))
 (R (vI 0) h5)
theorem vc109 (p0:Sl) (h:Heap) (R:Value->Heap->Prop) (H:W109 p0 h R):Fn Pz 109 #[vS p0] h R:=fnJ (A:=(.s .z (.s .z (.s (AI 8) .z)))) H
def W138 (pa:Bool) (pb pc:Int) (pd:Bool) (pe pf:Int) (h:Heap) (R:Value->Heap->Prop):Prop:=
 Wn h (L5 pa pb pc) 116 fun h7=>
 Wn h7 (L5 pd pe pf) 116 fun h8=>
 ∃x9,rB h8 (aS h 0) x9 /\
 ∃x10,rB h8 (aS h7 0) x10 /\
 sB (!(x9==x10))
 (∃x11,rB h8 (aS h 0) x11 /\
 sB x11
 (R (vI (-1)) h8)
 (R (vI 1) h8))
 (∃x12,rI h8 (aS h 1) x12 /\
 ∃x13,rI h8 (aS h7 1) x13 /\
 ∃x14,rI h8 (aS h 2) x14 /\
 ∃x15,rI h8 (aS h7 2) x15 /\
 Fn Pz 110 #[vI x12,vI x13] h8
 (fun v16 h18=>∃x17,iI v16 x17 /\
 Sm [(aS h7 2),(aS h 2)] h8 h18 /\
 Fn Pz 110 #[vI x14,vI x15] h18
 (fun v19 h21=>∃x20,iI v19 x20 /\
 Sm [(aS h7 1),(aS h 1)] h18 h21 /\
 Wn h21 [vI x17,vI x20] 3 fun h22=>
 Fn Pz 109 #[.slice (some (aS h21 0)) 2 2] h22
 (fun v23 h25=>∃x24,iI v23 x24 /\
 R (vI x24) h25))))
theorem vc138 (pa:Bool) (pb pc:Int) (pd:Bool) (pe pf:Int) (h:Heap) (R:Value->Heap->Prop) (H:W138 pa pb pc pd pe pf h R):Fn Pz 138 #[.agg ⟨(L5 pa pb pc)⟩,.agg ⟨(L5 pd pe pf)⟩] h R:=fnJ (A:=.z) H
def W129 (pa:Int) (pb:Bool) (pc pd pe:Int) (pf:Bool) (h:Heap) (R:Value->Heap->Prop):Prop:=
 Wn h (L4 pa pb pc pd pe pf) 45 fun h7=>
 ∃x8,rB h7 (aS h 1) x8 /\
 sB x8
 (R (vI 0) h7)
 (R (vI 1) h7)
theorem vc129 (pa:Int) (pb:Bool) (pc pd pe:Int) (pf:Bool) (h:Heap) (R:Value->Heap->Prop) (H:W129 pa pb pc pd pe pf h R):Fn Pz 129 #[.agg ⟨(L4 pa pb pc pd pe pf)⟩] h R:=fnJ (A:=.z) H
def W73 (pa:Int) (pb:Bool) (pc pd pe:Int) (pf:Bool) (pg:Int) (ph:Bool) (pi pj pk:Int) (pl:Bool) (h:Heap) (R:Value->Heap->Prop):Prop:=
 Wn h (L4 pa pb pc pd pe pf) 45 fun h13=>
 Wn h13 (L4 pg ph pi pj pk pl) 45 fun h14=>
 ∃x15,rI h14 (aS h 0) x15 /\
 ∃x16,rI h14 (aS h13 0) x16 /\
 ∃x17 x18 x19 x20 x21 x22,aL4 h14 (aS h 0) x17 x18 x19 x20 x21 x22 /\
 ∃x23 x24 x25 x26 x27 x28,aL4 h14 (aS h13 0) x23 x24 x25 x26 x27 x28 /\
 ∃x29,rI h14 (aS h 2) x29 /\
 ∃x30,rI h14 (aS h13 2) x30 /\
 ∃x31,rI h14 (aS h 3) x31 /\
 ∃x32,rI h14 (aS h13 3) x32 /\
 Fn Pz 110 #[vI x15,vI x16] h14
 (fun v33 h35=>∃x34,iI v33 x34 /\
 Sm [(aS h13 3),(aS h 3),(aS h13 2),(aS h 2),(aS h13 0),(aS h 0)] h14 h35 /\
 Fn Pz 129 #[.agg ⟨(L4 x17 x18 x19 x20 x21 x22)⟩] h35
 (fun v36 h38=>∃x37,iI v36 x37 /\
 Sm [(aS h13 3),(aS h 3),(aS h13 2),(aS h 2),(aS h13 0),(aS h13 0),(aS h 0)] h35 h38 /\
 Fn Pz 129 #[.agg ⟨(L4 x23 x24 x25 x26 x27 x28)⟩] h38
 (fun v39 h41=>∃x40,iI v39 x40 /\
 Sm [(aS h13 3),(aS h 3),(aS h13 2),(aS h 2),(aS h 0),(aS h13 0),(aS h 0)] h38 h41 /\
 Fn Pz 110 #[vI x37,vI x40] h41
 (fun v42 h44=>∃x43,iI v42 x43 /\
 Sm [(aS h13 3),(aS h 3),(aS h13 2),(aS h 2),(aS h13 0),(aS h 0)] h41 h44 /\
 Fn Pz 110 #[vI x29,vI x30] h44
 (fun v45 h47=>∃x46,iI v45 x46 /\
 Sm [(aS h13 3),(aS h 3),(aS h13 0),(aS h 0),(aS h13 0),(aS h 0)] h44 h47 /\
 Fn Pz 110 #[vI x31,vI x32] h47
 (fun v48 h50=>∃x49,iI v48 x49 /\
 Sm [(aS h13 2),(aS h 2),(aS h13 0),(aS h 0),(aS h13 0),(aS h 0)] h47 h50 /\
 Wn h50 [vI x34,vI x43,vI x46,vI x49] 3 fun h51=>
 Fn Pz 109 #[.slice (some (aS h50 0)) 4 4] h51
 (fun v52 h54=>∃x53,iI v52 x53 /\
 R (vI x53) h54)))))))
theorem vc73 (pa:Int) (pb:Bool) (pc pd pe:Int) (pf:Bool) (pg:Int) (ph:Bool) (pi pj pk:Int) (pl:Bool) (h:Heap) (R:Value->Heap->Prop) (H:W73 pa pb pc pd pe pf pg ph pi pj pk pl h R):Fn Pz 73 #[.agg ⟨(L4 pa pb pc pd pe pf)⟩,.agg ⟨(L4 pg ph pi pj pk pl)⟩] h R:=fnJ (A:=.z) H
end M
end Go.VC
end

section
namespace Go.VC
open Go.Proofs IntKind
variable {h:Heap} {R:Value->Heap->Prop}
def W139 (p0:Sl):Prop:=
 sB (decide ((p0.n:Int)<2))
 (R (vS p0) h)
 (QI 1 h fun I1 k_4 h5 m3=>
 sB (decide (k_4<(p0.n:Int)))
 (NB p0.a fun b6 o7=>Ib k_4 p0.n /\
 ∃x8 x9 x10,aL5 h5 ⟨b6,o7+k_4.toNat*3,none⟩ x8 x9 x10 /\
 NB p0.a fun b11 o12=>(0<=((wrap .i64 (k_4-1)):Int)/\((wrap .i64 (k_4-1)):Int)<(p0.n:Nat)) /\
 ∃x13 x14 x15,aL5 h5 ⟨b11,o12+Int.toNat (wrap .i64 (k_4-1))*3,none⟩ x13 x14 x15 /\
 sB ((x8==x13)&&((x9==x14)&&((x10==x15)&&true)))
 (((0:Int)<=(k_4:Int)/\(k_4:Int)<=((p0.n:Nat):Int)/\((p0.n:Nat):Int)<=(p0.c:Nat)) /\
 QII k_4 1 h5 fun I16 k_19 x_20 h21 m18=>
 sB (decide (x_20<(((Int.toNat (p0.n:Nat)-k_4.toNat):Nat):Int)))
 (NB (subA p0.a (k_4.toNat) p0.c 3) fun b22 o23=>(0<=(x_20:Int)/\(x_20:Int)<((Int.toNat (p0.n:Nat)-k_4.toNat):Nat)) /\
 ∃x24 x25 x26,aL5 h21 ⟨b22,o23+x_20.toNat*3,none⟩ x24 x25 x26 /\
 NB (subA p0.a (k_4.toNat) p0.c 3) fun b27 o28=>(0<=((wrap .i64 (x_20-1)):Int)/\((wrap .i64 (x_20-1)):Int)<((Int.toNat (p0.n:Nat)-k_4.toNat):Nat)) /\
 ∃x29 x30 x31,aL5 h21 ⟨b27,o28+Int.toNat (wrap .i64 (x_20-1))*3,none⟩ x29 x30 x31 /\
 sB (!((x24==x29)&&((x25==x30)&&((x26==x31)&&true))))
 (NB (subA p0.a (k_4.toNat) p0.c 3) fun b32 o33=>(0<=(x_20:Int)/\(x_20:Int)<((Int.toNat (p0.n:Nat)-k_4.toNat):Nat)) /\
 ∃x34 x35 x36,aL5 h21 ⟨b32,o33+x_20.toNat*3,none⟩ x34 x35 x36 /\
 NB p0.a fun b37 o38=>Ib k_19 p0.n /\
 Wp h21 ⟨b37,o38+k_19.toNat*3,none⟩ 3 (L5 x34 x35 x36) fun h39=>
 ∃m40,m40<m18/\I16 (wrap .i64 (k_19+1)) (wrap .i64 (x_20+1)) h39 m40)
 (∃m41,m41<m18/\I16 k_19 (wrap .i64 (x_20+1)) h21 m41))
 (((0:Int)<=(k_19:Int)/\(k_19:Int)<=((p0.n:Nat):Int)/\((p0.n:Nat):Int)<=(p0.c:Nat)) /\
 RunW Pz (Builtin.clear_ #[151] 0 #[.slice (subA p0.a (k_19.toNat) p0.c 3) (Int.toNat (p0.n:Nat)-k_19.toNat) (p0.c-k_19.toNat)]) h21 (fun v43 h42=>
 ((0:Int)<=(0:Int)/\(0:Int)<=(k_19:Int)/\(k_19:Int)<=(p0.c:Nat)) /\
 R (.slice (subA p0.a (Int.toNat 0) p0.c 3) (k_19.toNat-Int.toNat 0) (p0.c-Int.toNat 0)) h42)))
 (∃m44,m44<m3/\I1 (wrap .i64 (k_4+1)) h5 m44))
 (R (vS p0) h5))
theorem vc139 (p0:Sl) (H:@W139 h R p0):Fn Pz 139 #[vS p0] h R:=fnJ (A:=(.s .z (.s .z (.s (.s .z (.b (.l [(3,.one (.int .i64))] (.s .z (.s (.b (.s .z (.c (.s .z (.s (.s .z (.b (.l [(3,.one (.int .i64)),(5,.one (.int .i64))] .z))) .z)) .z))) .z))))) .z)))) H
def V41a (h8 h1 h:Heap) (R:Value->Heap->Prop):Prop:=
 ∃x28 x29 x30 x31 x32,aL8 h8 (aS h1 0) x28 x29 x30 x31 x32/\Wp h8 (aS h 0) 5 (L8 x28 x29 x30 x31 x32) fun h33=>∃x34 x35 x36 x37 x38,aL8 h33 (aS h 0) x34 x35 x36 x37 x38/\R (.tuple ⟨[.agg ⟨(L8 x34 x35 x36 x37 x38)⟩,.bool false]⟩) h33
def V41b (h107:Heap) (p0:Addr) (x11:Int) (h1:Heap) (m5:Nat) (I3:Bool->Int->Heap->Nat->Prop) (x_7:Int):Prop:=
 ∃x137,rS h107 ⟨p0.block,p0.off+3,none⟩ x137/\NB x137.a fun b138 o139=>Ib x11 x137.n/\∃x140 x141 x142 x143 x144,aL8 h107 ⟨b138,o139+x11.toNat*5,none⟩ x140 x141 x142 x143 x144/\Wp h107 (aS h1 0) 5 (L8 x140 x141 x142 x143 x144) fun h145=>∃m146,m146<m5/\I3 true (wrap .i64 (x_7+1)) h145 m146
def W41 (p0:Addr) (p1:Sl):Prop:=
 Wn h [.bool false,vI 0,.bool false,vI 0,vI 0] 93 fun h1=>Wn h1 [.bool false,vI 0,.bool false,vI 0,vI 0] 93 fun h2=>QBI false 0 h2 fun I3 known_6 x_7 h8 m5=>sB (decide (x_7<(p1.n:Int))) (NB p1.a fun b9 o10=>Ib x_7 p1.n/\∃x11,rI h8 ⟨b9,o10+x_7.toNat*1,none⟩ x11/\∃J12:Heap->Prop,(∃x13,rS h8 p0 x13/\NB x13.a fun b14 o15=>Ib x11 x13.n/\∃x16,rS h8 ⟨b14,o15+x11.toNat*1,none⟩ x16/\sB (decide ((x16.n:Int)>0)) (∃x17,rS h8 p0 x17/\NB x17.a fun b18 o19=>Ib x11 x17.n/\∃x20,rS h8 ⟨b18,o19+x11.toNat*1,none⟩ x20/\NB x20.a fun b21 o22=>Ib 0 x20.n/\∃x23,rB h8 ⟨b21,o22+Int.toNat 0*3,none⟩ x23/\sB x23 (∃x24,rS h8 ⟨p0.block,p0.off+1,none⟩ x24/\NB x24.a fun b25 o26=>Ib x11 x24.n/\∃x27,rB h8 ⟨b25,o26+x11.toNat*1,none⟩ x27/\sB x27 (V41a h8 h1 h R) (∃x39,rS h8 p0 x39/\NB x39.a fun b40 o41=>Ib x11 x39.n/\∃x42,rS h8 ⟨b40,o41+x11.toNat*1,none⟩ x42/\∃x43,rS h8 p0 x43/\NB x43.a fun b44 o45=>Ib x11 x43.n/\∃x46,rS h8 ⟨b44,o45+x11.toNat*1,none⟩ x46/\NB x42.a fun b47 o48=>(0<=((wrap .i64 ((x46.n:Int)-1)):Int)/\((wrap .i64 ((x46.n:Int)-1)):Int)<(x42.n:Nat))/\∃x49,rB h8 ⟨b47,o48+Int.toNat (wrap .i64 ((x46.n:Int)-1))*3,none⟩ x49/\sB (!x49) (V41a h8 h1 h R) (QI 0 h8 fun I61 x_64 h65 m63=>sB (decide (x_64<(p1.n:Int))) (NB p1.a fun b66 o67=>Ib x_64 p1.n/\∃x68,rI h65 ⟨b66,o67+x_64.toNat*1,none⟩ x68/\∃x69,rS h65 ⟨p0.block,p0.off+1,none⟩ x69/\NB x69.a fun b70 o71=>Ib x68 x69.n/\∃x72,rB h65 ⟨b70,o71+x68.toNat*1,none⟩ x72/\sB x72 (V41a h65 h1 h R) (∃x84,rS h65 p0 x84/\NB x84.a fun b85 o86=>Ib x11 x84.n/\∃x87,rS h65 ⟨b85,o86+x11.toNat*1,none⟩ x87/\∃x88,rS h65 p0 x88/\NB x88.a fun b89 o90=>Ib x68 x88.n/\∃x91,rS h65 ⟨b89,o90+x68.toNat*1,none⟩ x91/\Fn Pz 89 #[vS x87,vS x91] h65 (fun v92 h94=>∃x93,iB v92 x93/\Sm [⟨b70,o71+x68.toNat*1,none⟩,⟨p0.block,p0.off+1,none⟩] h65 h94/\sB (!x93) (V41a h94 h1 h R) (∃m106,m106<m63/\I61 (wrap .i64 (x_64+1)) h94 m106)))) (J12 h65)))) (J12 h8)) (J12 h8))/\∀(_:Env) (h107:Heap),J12 h107->(∃x108,rS h107 ⟨p0.block,p0.off+2,none⟩ x108/\NB x108.a fun b109 o110=>Ib x11 x108.n/\∃x111,rB h107 ⟨b109,o110+x11.toNat*1,none⟩ x111/\sB (!x111) (∃m112,m112<m5/\I3 known_6 (wrap .i64 (x_7+1)) h107 m112) (sB known_6 (∃x113,rS h107 ⟨p0.block,p0.off+3,none⟩ x113/\NB x113.a fun b114 o115=>Ib x11 x113.n/\∃x116 x117 x118 x119 x120,aL8 h107 ⟨b114,o115+x11.toNat*5,none⟩ x116 x117 x118 x119 x120/\∃x121 x122 x123 x124 x125,aL8 h107 (aS h1 0) x121 x122 x123 x124 x125/\sB (!((x116==x121)&&((x117==x122)&&(((x118==x123)&&((x119==x124)&&((x120==x125)&&true)))&&true)))) (V41a h107 h1 h R) (V41b h107 p0 x11 h1 m5 I3 x_7)) (V41b h107 p0 x11 h1 m5 I3 x_7)))) (∃x157 x158 x159 x160 x161,aL8 h8 (aS h1 0) x157 x158 x159 x160 x161/\Wp h8 (aS h 0) 5 (L8 x157 x158 x159 x160 x161) fun h162=>∃x163 x164 x165 x166 x167,aL8 h162 (aS h 0) x163 x164 x165 x166 x167/\R (.tuple ⟨[.agg ⟨(L8 x163 x164 x165 x166 x167)⟩,.bool true]⟩) h162)
theorem vc41 (p0:Addr) (p1:Sl) (H:@W41 h R p0 p1):Fn Pz 41 #[.pointer (some p0),vS p1] h R:=fnJ (A:=(.s .z (.s .z (.s .z (.s (.s .z (.b (.l [(7,.one (.bool)),(15,.one (.int .i64))] (.s .z (.s .z (.s (.b (.s .z (.j [] (.s .z (.s .z (.c (.s .z (AI 73)) .z))) .z))) .z)))))) .z))))) H
def W76 (pa:ByteArray) (pb pc:Sl) (pd pe pf:Int) (pg ph:Sl):Prop:=
 Wn h (L0 pa pb pc pd pe pf pg ph) 27 fun h9=>
 ∃x10,rT h9 (aS h 0) x10 /\
 Fn Pz 132 #[.string x10] h9
 (fun v11 h13=>∃x12,iB v11 x12 /\
 sB (!x12)
 (R (.bool false) h13)
 (∃x14,rS h13 (aS h 1) x14 /\
 sB (decide ((x14.n:Int)<1))
 (R (.bool false) h13)
 (∃x15,rS h13 (aS h 1) x15 /\
 sB (decide ((x15.n:Int)>6))
 (R (.bool false) h13)
 (∃x16,rS h13 (aS h 1) x16 /\
 QI 0 h13 fun I17 x_20 h21 m19=>
 sB (decide (x_20<(x16.n:Int)))
 (NB x16.a fun b22 o23=>Ib x_20 x16.n /\
 ∃x24,rT h21 ⟨b22,o23+x_20.toNat*1,none⟩ x24 /\
 Fn Pz 132 #[.string x24] h21
 (fun v25 h27=>∃x26,iB v25 x26 /\
 sB (!x26)
 (R (.bool false) h27)
 (∃x28,rS h27 (aS h 1) x28 /\
 ((0:Int)<=(0:Int)/\(0:Int)<=(x_20:Int)/\(x_20:Int)<=(x28.c:Nat)) /\
 Fn Pz 133 #[.slice (subA x28.a (Int.toNat 0) x28.c 1) (x_20.toNat-Int.toNat 0) (x28.c-Int.toNat 0),.string x24] h27
 (fun v29 h31=>∃x30,iB v29 x30 /\
 sB x30
 (R (.bool false) h31)
 (∃m32,m32<m19/\I17 (wrap .i64 (x_20+1)) h31 m32)))))
 (R (.bool true) h21)))))
theorem vc76 (pa:ByteArray) (pb pc:Sl) (pd pe pf:Int) (pg ph:Sl) (H:@W76 h R pa pb pc pd pe pf pg ph):Fn Pz 76 #[.agg ⟨(L0 pa pb pc pd pe pf pg ph)⟩] h R:=fnJ (A:=(.s .z (.s .z (.s (AI 24) .z)))) H
def W77 (pa:ByteArray) (pb pc:Sl) (pd pe pf:Int) (pg ph:Sl):Prop:=
 Wn h (L0 pa pb pc pd pe pf pg ph) 27 fun h9=>
 ∃x10,rI h9 (aS h 3) x10 /\
 sB (decide (x10<1))
 (R (.bool false) h9)
 (∃x11,rI h9 (aS h 3) x11 /\
 sB (decide (x11>200))
 (R (.bool false) h9)
 (∃x12,rI h9 (aS h 4) x12 /\
 ∃x13,rI h9 (aS h 5) x13 /\
 sB (decide ((imin x12 x13)<0))
 (R (.bool false) h9)
 (∃x14,rI h9 (aS h 4) x14 /\
 ∃x15,rI h9 (aS h 5) x15 /\
 ∃x16,rI h9 (aS h 3) x16 /\
 sB (decide ((imax x14 x15)>=x16))
 (R (.bool false) h9)
 (∃x17,rS h9 (aS h 6) x17 /\
 sB (decide ((x17.n:Int)>400))
 (R (.bool false) h9)
 (∃x18,rS h9 (aS h 6) x18 /\
 QI 0 h9 fun I19 x_22 h23 m21=>
 sB (decide (x_22<(x18.n:Int)))
 (NB x18.a fun b24 o25=>Ib x_22 x18.n /\
 ∃x26 x27 x28 x29 x30 x31,aL3 h23 ⟨b24,o25+x_22.toNat*6,none⟩ x26 x27 x28 x29 x30 x31 /\
 Wn h23 [vI 0,vI 0,vI 0,vI 0,vI 0,.bool false] 55 fun h32=>
 Wp h32 (aS h23 0) 6 (L3 x26 x27 x28 x29 x30 x31) fun h33=>
 ∃x34 x35 x36,aL2 h33 (aS h23 1) x34 x35 x36 /\
 Wn h33 [vI 0,vI 0,vI 0] 53 fun h37=>
 Wp h37 (aS h33 0) 3 (L2 x34 x35 x36) fun h38=>
 ∃x39,rI h38 (aS h23 0) x39 /\
 ∃x40,rI h38 (aS h23 4) x40 /\
 ∃x41,rI h38 (aS h33 0) x41 /\
 ∃x42,rI h38 (aS h33 1) x42 /\
 ∃x43,rI h38 (aS h33 2) x43 /\
 sB (decide ((imin (imin (imin (imin x39 x40) x41) x42) x43)<0))
 (R (.bool false) h38)
 (∃x44,rI h38 (aS h23 0) x44 /\
 ∃x45,rI h38 (aS h23 4) x45 /\
 ∃x46,rI h38 (aS h 3) x46 /\
 sB (decide ((imax x44 x45)>=x46))
 (R (.bool false) h38)
 (∃x47,rI h38 (aS h33 0) x47 /\
 ∃x48,rI h38 (aS h33 1) x48 /\
 ∃x49,rS h38 (aS h 1) x49 /\
 sB (decide ((imax x47 x48)>=(x49.n:Int)))
 (R (.bool false) h38)
 (∃x50,rI h38 (aS h33 0) x50 /\
 ∃x51,rI h38 (aS h33 1) x51 /\
 sB (x50==x51)
 (R (.bool false) h38)
 (∃x52,rI h38 (aS h33 2) x52 /\
 ∃x53,rS h38 (aS h 2) x53 /\
 sB (decide (x52>=(x53.n:Int)))
 (R (.bool false) h38)
 (∃m54,m54<m21/\I19 (wrap .i64 (x_22+1)) h38 m54))))))
 (R (.bool true) h23))))))
theorem vc77 (pa:ByteArray) (pb pc:Sl) (pd pe pf:Int) (pg ph:Sl) (H:@W77 h R pa pb pc pd pe pf pg ph):Fn Pz 77 #[.agg ⟨(L0 pa pb pc pd pe pf pg ph)⟩] h R:=fnJ (A:=(.s .z (.s .z (.s (AI 41) .z)))) H
def W78 (p0:Sl):Prop:=
 sB ((p0.n:Int)==0)
 (R (.bool true) h)
 (Fn Pz 134 #[vS p0,vI 0] h
 (fun v1 h4=>∃(x2:Sl) (x3:Int),v1=.tuple ⟨[vS x2,vI x3]⟩ /\
 R (.bool (x3==0)) h4))
theorem vc78 (p0:Sl) (H:@W78 h R p0):Fn Pz 78 #[vS p0] h R:=fnJ (A:=.z) H
def V79b (h46 h15 h36:Heap) (R:Value->Heap->Prop) (m34:Nat) (I32:Int->Heap->Nat->Prop) (x_35:Int):Prop:=
 ∃x58,rB h46 (aS h15 5) x58/\sB x58 (∃x59,rI h46 (aS h36 4) x59/\∃x60,rI h46 (aS h15 0) x60/\sB (x59==x60) (∃x61,rI h46 (aS h15 1) x61/\∃x62,rI h46 (aS h36 1) x62/\sB (x61 != x62) (R (.bool false) h46) (∃x63,rI h46 (aS h15 (1+2)) x63/\∃x64,rI h46 (aS h36 (1+2)) x64/\sB (x63 != x64) (R (.bool false) h46) (∃m65,m65<m34/\I32 (wrap .i64 (x_35+1)) h46 m65))) (∃m66,m66<m34/\I32 (wrap .i64 (x_35+1)) h46 m66)) (∃m67,m67<m34/\I32 (wrap .i64 (x_35+1)) h46 m67)
def V79a (h25 h:Heap) (x_14:Int) (h15:Heap) (R:Value->Heap->Prop) (m13:Nat) (I11:Int->Heap->Nat->Prop):Prop:=
 ∃x31,rS h25 (aS h 6) x31/\QI 0 h25 fun I32 x_35 h36 m34=>sB (decide (x_35<(x31.n:Int))) (NB x31.a fun b37 o38=>Ib x_35 x31.n/\∃x39 x40 x41 x42 x43 x44,aL3 h36 ⟨b37,o38+x_35.toNat*6,none⟩ x39 x40 x41 x42 x43 x44/\Wn h36 [vI 0,vI 0,vI 0,vI 0,vI 0,.bool false] 55 fun h45=>Wp h45 (aS h36 0) 6 (L3 x39 x40 x41 x42 x43 x44) fun h46=>sB (x_14 != x_35) (∃x47,rI h46 (aS h15 0) x47/\∃x48,rI h46 (aS h36 0) x48/\sB (x47==x48) (∃x49 x50 x51,aL2 h46 (aS h15 1) x49 x50 x51/\∃x52 x53 x54,aL2 h46 (aS h36 1) x52 x53 x54/\sB ((x49==x52)&&((x50==x53)&&((x51==x54)&&true))) (R (.bool false) h46) (∃x55,rI h46 (aS h15 1) x55/\∃x56,rI h46 (aS h36 1) x56/\sB (x55 != x56) (R (.bool false) h46) (∃x57,rB h46 (aS h15 5) x57/\sB x57 (R (.bool false) h46) (V79b h46 h15 h36 R m34 I32 x_35)))) (V79b h46 h15 h36 R m34 I32 x_35)) (V79b h46 h15 h36 R m34 I32 x_35)) (∃m88,m88<m13/\I11 (wrap .i64 (x_14+1)) h36 m88)
def W79 (pa:ByteArray) (pb pc:Sl) (pd pe pf:Int) (pg ph:Sl):Prop:=
 Wn h (L0 pa pb pc pd pe pf pg ph) 27 fun h9=>∃x10,rS h9 (aS h 6) x10/\QI 0 h9 fun I11 x_14 h15 m13=>sB (decide (x_14<(x10.n:Int))) (NB x10.a fun b16 o17=>Ib x_14 x10.n/\∃x18 x19 x20 x21 x22 x23,aL3 h15 ⟨b16,o17+x_14.toNat*6,none⟩ x18 x19 x20 x21 x22 x23/\Wn h15 [vI 0,vI 0,vI 0,vI 0,vI 0,.bool false] 55 fun h24=>Wp h24 (aS h15 0) 6 (L3 x18 x19 x20 x21 x22 x23) fun h25=>∃x26,rI h25 (aS h15 0) x26/\∃x27,rI h25 (aS h 5) x27/\sB (x26==x27) (R (.bool false) h25) (∃x28,rB h25 (aS h15 5) x28/\sB x28 (∃x29,rI h25 (aS h15 0) x29/\∃x30,rI h25 (aS h 4) x30/\sB (x29==x30) (R (.bool false) h25) (V79a h25 h x_14 h15 R m13 I11)) (V79a h25 h x_14 h15 R m13 I11))) (R (.bool true) h15)
theorem vc79 (pa:ByteArray) (pb pc:Sl) (pd pe pf:Int) (pg ph:Sl) (H:@W79 h R pa pb pc pd pe pf pg ph):Fn Pz 79 #[.agg ⟨(L0 pa pb pc pd pe pf pg ph)⟩] h R:=fnJ (A:=(.s .z (.s (.s .z (.b (.l [(10,.one (.int .i64))] (.s .z (.s .z (.s (.b (.s .z (.s .z (AI 34)))) .z)))))) .z))) H
def W80 (pa:ByteArray) (pb pc:Sl) (pd pe pf:Int) (pg ph:Sl):Prop:=
 Wn h (L0 pa pb pc pd pe pf pg ph) 27 fun h9=>
 ∃x10,rS h9 (aS h 7) x10 /\
 QII (-1) 0 h9 fun I11 last_14 x_15 h16 m13=>
 sB (decide (x_15<(x10.n:Int)))
 (NB x10.a fun b17 o18=>Ib x_15 x10.n /\
 ∃x19 x20 x21,aL2 h16 ⟨b17,o18+x_15.toNat*3,none⟩ x19 x20 x21 /\
 Wn h16 [vI 0,vI 0,vI 0] 63 fun h22=>
 Wp h22 (aS h16 0) 3 (L2 x19 x20 x21) fun h23=>
 ∃x24,rI h23 (aS h16 0) x24 /\
 sB (decide (x24<=last_14))
 (R (.bool false) h23)
 (∃x25,rI h23 (aS h16 1) x25 /\
 sB (decide (x25<1))
 (R (.bool false) h23)
 (∃x26,rI h23 (aS h16 1) x26 /\
 sB (decide (x26>1000))
 (R (.bool false) h23)
 (∃x27,rI h23 (aS h16 2) x27 /\
 sB (decide (x27<0))
 (R (.bool false) h23)
 (∃x28,rI h23 (aS h16 2) x28 /\
 ∃x29,rS h23 (aS h 6) x29 /\
 sB (decide (x28>=(x29.n:Int)))
 (R (.bool false) h23)
 (∃x30,rS h23 (aS h 6) x30 /\
 ∃x31,rI h23 (aS h16 2) x31 /\
 NB x30.a fun b32 o33=>Ib x31 x30.n /\
 ∃x34,rI h23 ⟨b32,o33+x31.toNat*6,none⟩ x34 /\
 ∃x35,rI h23 (aS h16 0) x35 /\
 sB (x34 != x35)
 (R (.bool false) h23)
 (∃x36,rS h23 (aS h 6) x36 /\
 ∃x37,rI h23 (aS h16 2) x37 /\
 NB x36.a fun b38 o39=>Ib x37 x36.n /\
 ∃x40,rB h23 ⟨b38,o39+x37.toNat*6+5,none⟩ x40 /\
 sB x40
 (R (.bool false) h23)
 (∃x41,rI h23 (aS h16 0) x41 /\
 ∃m42,m42<m13/\I11 x41 (wrap .i64 (x_15+1)) h23 m42))))))))
 (R (.bool true) h16)
theorem vc80 (pa:ByteArray) (pb pc:Sl) (pd pe pf:Int) (pg ph:Sl) (H:@W80 h R pa pb pc pd pe pf pg ph):Fn Pz 80 #[.agg ⟨(L0 pa pb pc pd pe pf pg ph)⟩] h R:=fnJ (A:=(.s .z (.s .z (.s (.s .z (.b (.l [(3,.one (.int .i64)),(9,.one (.int .i64))] .z))) .z)))) H
def W135 (p0:Sl) (p1:Int):Prop:=
 QI 0 h fun I1 x_4 h5 m3=>
 sB (decide (x_4<(p0.n:Int)))
 (NB p0.a fun b6 o7=>Ib x_4 p0.n /\
 ∃x8,rI h5 ⟨b6,o7+x_4.toNat*1,none⟩ x8 /\
 sB (p1==x8)
 (R (vI x_4) h5)
 (∃m9,m9<m3/\I1 (wrap .i64 (x_4+1)) h5 m9))
 (R (vI (-1)) h5)
theorem vc135 (p0:Sl) (p1:Int) (H:@W135 h R p0 p1):Fn Pz 135 #[vS p0,vI p1] h R:=fnJ (A:=(.s .z (.s (AI 8) .z))) H
def W81 (p0:Sl) (p1:Int):Prop:=
 Fn Pz 135 #[vS p0,vI p1] h
 (fun v1 h3=>∃x2,iI v1 x2 /\
 R (.bool (decide (x2>=0))) h3)
theorem vc81 (p0:Sl) (p1:Int) (H:@W81 h R p0 p1):Fn Pz 81 #[vS p0,vI p1] h R:=fnJ (A:=.z) H
def W60 (p0:Sl) (p1:Int):Prop:=
 ∃J1:Heap->Prop,
 (sB (decide (p1<0))
 (False)
 (J1 h)) /\
 ∀(_:Env) (h2:Heap),J1 h2 ->
 (Fn Pz 106 #[.int .u64 (wrap .u64 (p0.n:Int)),.int .u64 (wrap .u64 p1)] h2
 (fun v3 h6=>∃(x4 x5:Int),v3=.tuple ⟨[.int .u64 x4,.int .u64 x5]⟩ /\
 ∃J7:Heap->Prop,
 (sB (decide (x4>0))
 (False)
 (sB (decide (x5>9223372036854775807))
 (False)
 (J7 h6))) /\
 ∀(_:Env) (h8:Heap),J7 h8 ->
 (((0:Int)<=(wrap .i64 x5)/\((wrap .i64 x5):Int)<=(wrap .i64 x5)/\((8:Nat):Int)*(wrap .i64 x5)<=140737488355328)/\Wn h8 (madeL Pz 3 (Int.toNat (wrap .i64 x5))) 3 fun h9=>
 Cpy Pz 42 42 (.slice (some (aS h8 0)) (Int.toNat (wrap .i64 x5)) (Int.toNat (wrap .i64 x5))) (vS p0) h9 fun n10 h11=>
 QI n10 h11 fun I12 n_15 h16 m14=>
 sB (decide (n_15<((Int.toNat (wrap .i64 x5)):Int)))
 (((0:Int)<=(n_15:Int)/\(n_15:Int)<=(((Int.toNat (wrap .i64 x5)):Nat):Int)/\(((Int.toNat (wrap .i64 x5)):Nat):Int)<=((Int.toNat (wrap .i64 x5)):Nat)) /\
 ((0:Int)<=(0:Int)/\(0:Int)<=(n_15:Int)/\(n_15:Int)<=((Int.toNat (wrap .i64 x5)):Nat)) /\
 Cpy Pz 42 42 (.slice (subA (some (aS h8 0)) (n_15.toNat) (Int.toNat (wrap .i64 x5)) 1) (Int.toNat ((Int.toNat (wrap .i64 x5)):Nat)-n_15.toNat) ((Int.toNat (wrap .i64 x5))-n_15.toNat)) (.slice (subA (some (aS h8 0)) (Int.toNat 0) (Int.toNat (wrap .i64 x5)) 1) (n_15.toNat-Int.toNat 0) ((Int.toNat (wrap .i64 x5))-Int.toNat 0)) h16 fun n17 h18=>
 ∃m19,m19<m14/\I12 (wrap .i64 (n_15+n17)) h18 m19)
 (R (.slice (some (aS h8 0)) (Int.toNat (wrap .i64 x5)) (Int.toNat (wrap .i64 x5))) h16))))
theorem vc60 (p0:Sl) (p1:Int) (H:@W60 h R p0 p1):Fn Pz 60 #[vS p0,vI p1] h R:=fnJ (A:=(.s .z (.j [] .z (.s .z (.j [] .z (.s .z (.s .z (.s (.b (.l [(8,.one (.int .i64))] .z)) .z)))))))) H
def W82 (pa:ByteArray) (pb pc:Sl) (pd pe pf:Int) (pg ph:Sl) (p1:Int) (p2:Bool):Prop:=
 Wn h (L0 pa pb pc pd pe pf pg ph) 27 fun h9=>
 Wn h9 [vI (-1)] 3 fun h10=>
 ∃x11,rI h10 (aS h 3) x11 /\
 Fn Pz 60 #[.slice (some (aS h9 0)) 1 1,vI x11] h10
 (fun v12 h14=>∃x13,iS v12 x13 /\
 NB x13.a fun b15 o16=>Ib p1 x13.n /\
 Wp h14 ⟨b15,o16+p1.toNat*1,none⟩ 1 [vI 0] fun h17=>
 Wn h17 [vI p1] 3 fun h18=>
 QS ⟨(some (aS h17 0)),1,1⟩ h18 fun I19 todo_22 h23 m21=>
 sB (decide ((todo_22.n:Int)>0))
 (∃x24,rS h23 (aS h 6) x24 /\
 QSI todo_22 0 h23 fun I25 todo_28 x_29 h30 m27=>
 sB (decide (x_29<(x24.n:Int)))
 (NB x24.a fun b31 o32=>Ib x_29 x24.n /\
 ∃x33 x34 x35 x36 x37 x38,aL3 h30 ⟨b31,o32+x_29.toNat*6,none⟩ x33 x34 x35 x36 x37 x38 /\
 Wn h30 [vI 0,vI 0,vI 0,vI 0,vI 0,.bool false] 55 fun h39=>
 Wp h39 (aS h30 0) 6 (L3 x33 x34 x35 x36 x37 x38) fun h40=>
 ∃x41,rI h40 (aS h30 0) x41 /\
 ∃x42,rI h40 (aS h30 4) x42 /\
 ∃J43:Int->Int->Heap->Prop,
 (sB p2
 (J43 x42 x41 h40)
 (J43 x41 x42 h40)) /\
 ∀(_:Env) (a_44 b_45:Int) (h46:Heap),J43 a_44 b_45 h46 ->
 (NB todo_28.a fun b47 o48=>Ib 0 todo_28.n /\
 ∃x49,rI h46 ⟨b47,o48+Int.toNat 0*1,none⟩ x49 /\
 sB (a_44==x49)
 (NB x13.a fun b50 o51=>Ib b_45 x13.n /\
 ∃x52,rI h46 ⟨b50,o51+b_45.toNat*1,none⟩ x52 /\
 sB (decide (x52<0))
 (NB x13.a fun b53 o54=>Ib a_44 x13.n /\
 ∃x55,rI h46 ⟨b53,o54+a_44.toNat*1,none⟩ x55 /\
 NB x13.a fun b56 o57=>Ib b_45 x13.n /\
 Wp h46 ⟨b56,o57+b_45.toNat*1,none⟩ 1 [vI (wrap .i64 (x55+1))] fun h58=>
 Wn h58 [vI b_45] 3 fun h59=>
 App Pz 42 42 (vS todo_28) (.slice (some (aS h58 0)) 1 1) h59 fun s60 h61=>
 ∃m62,m62<m27/\I25 s60 (wrap .i64 (x_29+1)) h61 m62)
 (∃m63,m63<m27/\I25 todo_28 (wrap .i64 (x_29+1)) h46 m63))
 (∃m64,m64<m27/\I25 todo_28 (wrap .i64 (x_29+1)) h46 m64)))
 (((0:Int)<=(1:Int)/\(1:Int)<=((todo_28.n:Nat):Int)/\((todo_28.n:Nat):Int)<=(todo_28.c:Nat)) /\
 ∃m65,m65<m21/\I19 ⟨(subA todo_28.a (Int.toNat 1) todo_28.c 1),(Int.toNat (todo_28.n:Nat)-Int.toNat 1),(todo_28.c-Int.toNat 1)⟩ h30 m65))
 (R (vS x13) h23))
theorem vc82 (pa:ByteArray) (pb pc:Sl) (pd pe pf:Int) (pg ph:Sl) (p1:Int) (p2:Bool) (H:@W82 h R pa pb pc pd pe pf pg ph p1 p2):Fn Pz 82 #[.agg ⟨(L0 pa pb pc pd pe pf pg ph)⟩,vI p1,.bool p2] h R:=fnJ (A:=(.s .z (.s .z (.s .z (.s (.s .z (.b (.l [(8,.one (.slice))] (.s .z (.s (.b (.s .z (.b (.l [(8,.one (.slice)),(30,.one (.int .i64))] (.s .z (.s .z (.s (.b (.s .z (.s .z (.j [(11,.one (.int .i64)),(12,.one (.int .i64))] .z .z)))) .z))))))) .z))))) .z))))) H
def W38 (pa:ByteArray) (pb pc:Sl) (pd pe pf:Int) (pg ph:Sl):Prop:=
 Wn h (L0 pa pb pc pd pe pf pg ph) 27 fun h9=>
 ∃x10 x11 x12 x13 x14 x15 x16 x17,aL0 h9 (aS h 0) x10 x11 x12 x13 x14 x15 x16 x17 /\
 Fn Pz 76 #[.agg ⟨(L0 x10 x11 x12 x13 x14 x15 x16 x17)⟩] h9
 (fun v18 h20=>∃x19,iB v18 x19 /\
 sB x19
 (∃x21 x22 x23 x24 x25 x26 x27 x28,aL0 h20 (aS h 0) x21 x22 x23 x24 x25 x26 x27 x28 /\
 Fn Pz 77 #[.agg ⟨(L0 x21 x22 x23 x24 x25 x26 x27 x28)⟩] h20
 (fun v29 h31=>∃x30,iB v29 x30 /\
 sB x30
 (∃x32,rS h31 (aS h 2) x32 /\
 Fn Pz 78 #[vS x32] h31
 (fun v33 h35=>∃x34,iB v33 x34 /\
 sB x34
 (∃x36 x37 x38 x39 x40 x41 x42 x43,aL0 h35 (aS h 0) x36 x37 x38 x39 x40 x41 x42 x43 /\
 Fn Pz 79 #[.agg ⟨(L0 x36 x37 x38 x39 x40 x41 x42 x43)⟩] h35
 (fun v44 h46=>∃x45,iB v44 x45 /\
 sB x45
 (∃x47 x48 x49 x50 x51 x52 x53 x54,aL0 h46 (aS h 0) x47 x48 x49 x50 x51 x52 x53 x54 /\
 Fn Pz 80 #[.agg ⟨(L0 x47 x48 x49 x50 x51 x52 x53 x54)⟩] h46
 (fun v55 h57=>∃x56,iB v55 x56 /\
 sB x56
 (∃x58 x59 x60 x61 x62 x63 x64 x65,aL0 h57 (aS h 0) x58 x59 x60 x61 x62 x63 x64 x65 /\
 ∃x66,rI h57 (aS h 4) x66 /\
 Fn Pz 82 #[.agg ⟨(L0 x58 x59 x60 x61 x62 x63 x64 x65)⟩,vI x66,.bool false] h57
 (fun v67 h69=>∃x68,iS v67 x68 /\
 Fn Pz 81 #[vS x68,vI (-1)] h69
 (fun v70 h72=>∃x71,iB v70 x71 /\
 sB (!x71)
 (∃x73 x74 x75 x76 x77 x78 x79 x80,aL0 h72 (aS h 0) x73 x74 x75 x76 x77 x78 x79 x80 /\
 ∃x81,rI h72 (aS h 5) x81 /\
 Fn Pz 82 #[.agg ⟨(L0 x73 x74 x75 x76 x77 x78 x79 x80)⟩,vI x81,.bool true] h72
 (fun v82 h84=>∃x83,iS v82 x83 /\
 Fn Pz 81 #[vS x83,vI (-1)] h84
 (fun v85 h87=>∃x86,iB v85 x86 /\
 R (.bool (!x86)) h87)))
 (R (.bool false) h72))))
 (R (.bool false) h57)))
 (R (.bool false) h46)))
 (R (.bool false) h35)))
 (R (.bool false) h31)))
 (R (.bool false) h20))
theorem vc38 (pa:ByteArray) (pb pc:Sl) (pd pe pf:Int) (pg ph:Sl) (H:@W38 h R pa pb pc pd pe pf pg ph):Fn Pz 38 #[.agg ⟨(L0 pa pb pc pd pe pf pg ph)⟩] h R:=fnJ (A:=.z) H
def W58 (p0:Sl) (p1:Int):Prop:=
 sB (decide (p1<(imin (p0.n:Int) 64)))
 (NB p0.a fun b1 o2=>Ib p1 p0.n /\
 ∃x3:Int,hc h ⟨b1,o2+p1.toNat*1,none⟩=some (.int .u64 x3) /\
 R (.int .u64 x3) h)
 (R (.int .u64 0) h)
theorem vc58 (p0:Sl) (p1:Int) (H:@W58 h R p0 p1):Fn Pz 58 #[vS p0,vI p1] h R:=fnJ (A:=.z) H
def W29 (p0:Sl) (p1:Int):Prop:=
 sB (decide (p1>=0))
 (sB (decide (p1<4096))
 ((64:Int)≠0/\Fn Pz 58 #[vS p0,vI (wrap .i64 (Int.tdiv p1 64))] h
 (fun v1 h3=>∃x2:Int,v1=.int .u64 x2 /\
 (64:Int)≠0/\0<=(Int.tmod p1 64)/\R (.bool ((andI .u64 (shrI .u64 x2 (Int.tmod p1 64)) 1)==1)) h3))
 (R (.bool false) h))
 (R (.bool false) h)
theorem vc29 (p0:Sl) (p1:Int) (H:@W29 h R p0 p1):Fn Pz 29 #[vS p0,vI p1] h R:=fnJ (A:=.z) H
def V100a (n_15 p0:Int) (R:Value->Heap->Prop) (h h16:Heap):Prop:=
 ((0:Int)<=(0:Int)/\(0:Int)<=(n_15:Int)/\(n_15:Int)<=(n_15:Int)/\(n_15:Int)<=((Int.toNat (imin p0 64)):Nat))/\R (.slice (subA (some (aS h 0)) (Int.toNat 0) (n_15.toNat) 1) (n_15.toNat-Int.toNat 0) (n_15.toNat-Int.toNat 0)) h16
def V100b (x_5 p0:Int) (h9 h:Heap) (x8:Int) (m4:Nat) (I2:Int->Heap->Nat->Prop):Prop:=
 (0<=(x_5:Int)/\(x_5:Int)<((Int.toNat (imin p0 64)):Nat))/\Wp h9 (aS h (0+x_5.toNat*1)) 1 [.int .u64 x8] fun h10=>∃m11,m11<m4/\I2 (wrap .i64 (x_5+1)) h10 m11
def W100 (p0:Int) (p1:FuncId) (p1c:Option Addr):Prop:=
 ((0:Int)<=(imin p0 64)/\((imin p0 64):Int)<=(imin p0 64)/\((8:Nat):Int)*(imin p0 64)<=140737488355328)/\Wn h (madeL Pz 121 (Int.toNat (imin p0 64))) 121 fun h1=>QI 0 h1 fun I2 x_5 h6 m4=>sB (decide (x_5<((Int.toNat (imin p0 64)):Int))) (bif callable Pz p1 then Fn Pz p1 #[vI x_5,.pointer p1c] h6 (fun v7 h9=>∃x8:Int,v7=.int .u64 x8/\V100b x_5 p0 h9 h x8 m4 I2) else ExtW Pz p1 #[vI x_5,.pointer p1c] h6 (fun v7 h9=>∃x8:Int,v7=.int .u64 x8/\V100b x_5 p0 h9 h x8 m4 I2)) (QI (imin p0 64) h6 fun I12 n_15 h16 m14=>sB (decide (n_15>0)) ((0<=((wrap .i64 (n_15-1)):Int)/\((wrap .i64 (n_15-1)):Int)<((Int.toNat (imin p0 64)):Nat))/\∃x17:Int,hc h16 (aS h (0+Int.toNat (wrap .i64 (n_15-1))*1))=some (.int .u64 x17)/\sB (x17==0) (∃m18,m18<m14/\I12 (wrap .i64 (n_15-1)) h16 m18) (V100a n_15 p0 R h h16)) (V100a n_15 p0 R h h16))
theorem vc100 (p0:Int) (p1:FuncId) (p1c:Option Addr) (H:@W100 h R p0 p1 p1c):Fn Pz 100 #[vI p0,.func (.func p1) #[] #[.pointer p1c]] h R:=fnJ (A:=(.s .z (.s .z (.s .z (.s (AI 13) (.s (.b (.l [(0,.one (.int .i64))] .z)) .z)))))) H
def W101 (p0:Int) (c0b:Nat) (c0o:Nat):Prop:=
 Ib p0 64 /\
 ∃x1:Int,hc h ⟨c0b,c0o+p0.toNat*1,none⟩=some (.int .u64 x1) /\
 R (.int .u64 x1) h
theorem vc101 (p0:Int) (c0b:Nat) (c0o:Nat) (H:@W101 h R p0 c0b c0o):Fn Pz 101 #[vI p0,.pointer (some ⟨c0b,c0o,none⟩)] h R:=fnJ (A:=.z) H
def W55 (p0:Sl):Prop:=
 Wn h [.int .u64 0,.int .u64 0,.int .u64 0,.int .u64 0,.int .u64 0,.int .u64 0,.int .u64 0,.int .u64 0,.int .u64 0,.int .u64 0,.int .u64 0,.int .u64 0,.int .u64 0,.int .u64 0,.int .u64 0,.int .u64 0,.int .u64 0,.int .u64 0,.int .u64 0,.int .u64 0,.int .u64 0,.int .u64 0,.int .u64 0,.int .u64 0,.int .u64 0,.int .u64 0,.int .u64 0,.int .u64 0,.int .u64 0,.int .u64 0,.int .u64 0,.int .u64 0,.int .u64 0,.int .u64 0,.int .u64 0,.int .u64 0,.int .u64 0,.int .u64 0,.int .u64 0,.int .u64 0,.int .u64 0,.int .u64 0,.int .u64 0,.int .u64 0,.int .u64 0,.int .u64 0,.int .u64 0,.int .u64 0,.int .u64 0,.int .u64 0,.int .u64 0,.int .u64 0,.int .u64 0,.int .u64 0,.int .u64 0,.int .u64 0,.int .u64 0,.int .u64 0,.int .u64 0,.int .u64 0,.int .u64 0,.int .u64 0,.int .u64 0,.int .u64 0] 176 fun h1=>
 QI 0 h1 fun I2 x_5 h6 m4=>
 sB (decide (x_5<(p0.n:Int)))
 (NB p0.a fun b7 o8=>Ib x_5 p0.n /\
 ∃x9,rI h6 ⟨b7,o8+x_5.toNat*1,none⟩ x9 /\
 sB (decide (x9>=0))
 (sB (decide (x9<4096))
 ((64:Int)≠0/\(0<=((wrap .i64 (Int.tdiv x9 64)):Int)/\((wrap .i64 (Int.tdiv x9 64)):Int)<(64:Nat)) /\
 ∃x10:Int,hc h6 (aS h (0+Int.toNat (wrap .i64 (Int.tdiv x9 64))*1))=some (.int .u64 x10) /\
 (64:Int)≠0/\0<=(Int.tmod x9 64)/\(0<=((wrap .i64 (Int.tdiv x9 64)):Int)/\((wrap .i64 (Int.tdiv x9 64)):Int)<(64:Nat)) /\
 Wp h6 (aS h (0+Int.toNat (wrap .i64 (Int.tdiv x9 64))*1)) 1 [.int .u64 (orI .u64 x10 (shlI .u64 1 (Int.tmod x9 64)))] fun h11=>
 ∃m12,m12<m4/\I2 (wrap .i64 (x_5+1)) h11 m12)
 (∃m13,m13<m4/\I2 (wrap .i64 (x_5+1)) h6 m13))
 (∃m14,m14<m4/\I2 (wrap .i64 (x_5+1)) h6 m14))
 (Fn Pz 100 #[vI 64,.func (.func 101) #[] #[.pointer (some (aS h 0))]] h6
 (fun v15 h17=>∃x16,iS v15 x16 /\
 R (vS x16) h17))
theorem vc55 (p0:Sl) (H:@W55 h R p0):Fn Pz 55 #[vS p0] h R:=fnJ (A:=(.s .z (.s .z (.s (AI 8) .z)))) H
def W136 (p0 p1:Sl):Prop:=
 QI 0 h fun I1 x_4 h5 m3=>
 sB (decide (x_4<(imin (p0.n:Int) 64)))
 (NB p0.a fun b6 o7=>Ib x_4 p0.n /\
 ∃x8:Int,hc h5 ⟨b6,o7+x_4.toNat*1,none⟩=some (.int .u64 x8) /\
 Fn Pz 58 #[vS p1,vI x_4] h5
 (fun v9 h11=>∃x10:Int,v9=.int .u64 x10 /\
 Sm [⟨b6,o7+x_4.toNat*1,none⟩] h5 h11 /\
 sB ((clrI .u64 x8 x10) != 0)
 (R (.bool false) h11)
 (∃m12,m12<m3/\I1 (wrap .i64 (x_4+1)) h11 m12)))
 (R (.bool true) h5)
theorem vc136 (p0 p1:Sl) (H:@W136 h R p0 p1):Fn Pz 136 #[vS p0,vS p1] h R:=fnJ (A:=(.s .z (.s (AI 9) .z))) H
def W86 (p0 p1:Sl):Prop:=
 Fn Pz 136 #[vS p0,vS p1] h
 (fun v1 h3=>∃x2,iB v1 x2 /\
 sB x2
 (Fn Pz 136 #[vS p1,vS p0] h3
 (fun v4 h6=>∃x5,iB v4 x5 /\
 R (.bool x5) h6))
 (R (.bool false) h3))
theorem vc86 (p0 p1:Sl) (H:@W86 h R p0 p1):Fn Pz 86 #[vS p0,vS p1] h R:=fnJ (A:=.z) H
def V40b (x57:Sl) (h60 h61 h13:Heap) (s59:Sl) (m18:Nat) (I16:Int->Heap->Nat->Prop) (x_19:Int):Prop:=
 App Pz 30 30 (vS x57) (.slice (some (aS h60 0)) 1 1) h61 fun s62 h63=>Sm [(aS h13 0)] h61 h63/\Wp h63 (aS h13 0) 1 [vS s59] fun h64=>Wp h64 (aS h13 1) 1 [vS s62] fun h65=>∃m66,m66<m18/\I16 (wrap .i64 (x_19+1)) h65 m66
def V40a (h13 h9:Heap) (x10:Int) (h12:Heap) (x11:Int) (h:Heap) (p1:Int) (R:Value->Heap->Prop):Prop:=
 Wn h13 [vN,vN,.slice (some (aS h9 0)) (x10.toNat) (x10.toNat),.slice (some (aS h12 0)) (x11.toNat) (x11.toNat)] 156 fun h14=>∃x15,rI h14 (aS h 3) x15/\QI 0 h14 fun I16 x_19 h20 m18=>sB (decide (x_19<x15)) (∃x21 x22 x23 x24 x25 x26 x27 x28,aL0 h20 (aS h 0) x21 x22 x23 x24 x25 x26 x27 x28/\Fn Pz 88 #[.agg ⟨(L0 x21 x22 x23 x24 x25 x26 x27 x28)⟩,vI p1,vI x_19] h20 (fun v29 h33=>∃(x30:Sl) (x31:Bool) (x32:Int),v29=.tuple ⟨[vS x30,.bool x31,vI x32]⟩/\QSI ⟨none,0,0⟩ 0 h33 fun I34 out_37 x_38 h39 m36=>sB (decide (x_38<(x30.n:Int))) (NB x30.a fun b40 o41=>Ib x_38 x30.n/\∃x42 x43 x44 x45 x46,aL10 h39 ⟨b40,o41+x_38.toNat*5,none⟩ x42 x43 x44 x45 x46/\Wn h39 [vI 0,.bool false,vI 0,vI 0,vN] 60 fun h47=>Wp h47 (aS h39 0) 5 (L10 x42 x43 x44 x45 x46) fun h48=>∃x49,rB h48 (aS h39 1) x49/\∃x50,rI h48 (aS h39 2) x50/\∃x51,rI h48 (aS h39 3) x51/\Wn h48 (L5 x49 x50 x51) 91 fun h52=>App Pz 159 159 (vS out_37) (.slice (some (aS h48 0)) 1 1) h52 fun s53 h54=>∃m55,m55<m36/\I34 s53 (wrap .i64 (x_38+1)) h54 m55) (∃x56,rS h39 (aS h13 0) x56/\∃x57,rS h39 (aS h13 1) x57/\(Wn h39 [vS out_37] 159 fun h58=>Sm [(aS h13 1),(aS h13 0)] h39 h58/\(App Pz 154 154 (vS x56) (.slice (some (aS h39 0)) 1 1) h58 fun s59 h60=>Sm [(aS h13 1)] h58 h60/\Wn h60 [.bool x31] 4 fun h61=>Sm [(aS h13 1),(aS h13 0)] h60 h61/\V40b x57 h60 h61 h13 s59 m18 I16 x_19)/\Wn h58 [.bool x31] 4 fun h67=>Sm [(aS h13 1),(aS h13 0)] h58 h67/\App Pz 154 154 (vS x56) (.slice (some (aS h39 0)) 1 1) h67 fun s68 h69=>Sm [(aS h13 1)] h67 h69/\V40b x57 h58 h69 h13 s68 m18 I16 x_19)/\Wn h39 [.bool x31] 4 fun h75=>Sm [(aS h13 1),(aS h13 0)] h39 h75/\Wn h75 [vS out_37] 159 fun h76=>Sm [(aS h13 1),(aS h13 0)] h75 h76/\App Pz 154 154 (vS x56) (.slice (some (aS h75 0)) 1 1) h76 fun s77 h78=>Sm [(aS h13 1)] h76 h78/\V40b x57 h39 h78 h13 s77 m18 I16 x_19))) (∃x84,rS h20 (aS h 6) x84/\QI 0 h20 fun I85 x_88 h89 m87=>sB (decide (x_88<(x84.n:Int))) (NB x84.a fun b90 o91=>Ib x_88 x84.n/\∃x92 x93 x94 x95 x96 x97,aL3 h89 ⟨b90,o91+x_88.toNat*6,none⟩ x92 x93 x94 x95 x96 x97/\Wn h89 [vI 0,vI 0,vI 0,vI 0,vI 0,.bool false] 55 fun h98=>Wp h98 (aS h89 0) 6 (L3 x92 x93 x94 x95 x96 x97) fun h99=>∃x100,rI h99 (aS h89 1) x100/\sB (x100==p1) (∃x101,rS h99 (aS h13 2) x101/\∃x102,rI h99 (aS h89 0) x102/\∃x103,rS h99 (aS h13 3) x103/\∃x104,rI h99 (aS h89 0) x104/\∃x105,rB h99 (aS h89 5) x105/\NB x101.a fun b106 o107=>Ib x102 x101.n/\Wp h99 ⟨b106,o107+x102.toNat*1,none⟩ 1 [.bool true] fun h108=>Sm [(aS h89 5),(aS h89 0)] h99 h108/\NB x103.a fun b109 o110=>Ib x104 x103.n/\Wp h108 ⟨b109,o110+x104.toNat*5,none⟩ 1 [.bool x105] fun h111=>∃m112,m112<m87/\I85 (wrap .i64 (x_88+1)) h111 m112) (∃m113,m113<m87/\I85 (wrap .i64 (x_88+1)) h99 m113)) (∃x114,rS h89 (aS h 7) x114/\QI 0 h89 fun I115 x_118 h119 m117=>sB (decide (x_118<(x114.n:Int))) (NB x114.a fun b120 o121=>Ib x_118 x114.n/\∃x122 x123 x124,aL2 h119 ⟨b120,o121+x_118.toNat*3,none⟩ x122 x123 x124/\Wn h119 [vI 0,vI 0,vI 0] 63 fun h125=>Wp h125 (aS h119 0) 3 (L2 x122 x123 x124) fun h126=>∃x127,rS h126 (aS h13 2) x127/\∃x128,rI h126 (aS h119 0) x128/\NB x127.a fun b129 o130=>Ib x128 x127.n/\∃x131,rB h126 ⟨b129,o130+x128.toNat*1,none⟩ x131/\sB x131 (∃x132,rS h126 (aS h 6) x132/\∃x133,rI h126 (aS h119 2) x133/\NB x132.a fun b134 o135=>Ib x133 x132.n/\∃x136 x137 x138,aL2 h126 ⟨b134,o135+x133.toNat*6+1,none⟩ x136 x137 x138/\Wn h126 [vI 0,vI 0,vI 0] 53 fun h139=>Wp h139 (aS h126 0) 3 (L2 x136 x137 x138) fun h140=>∃x141,rS h140 (aS h13 3) x141/\∃x142,rI h140 (aS h119 0) x142/\∃x143,rS h140 (aS h13 3) x143/\∃x144,rI h140 (aS h119 0) x144/\∃x145,rI h140 (aS h119 1) x145/\∃x146,rI h140 (aS h126 1) x146/\∃x147,rI h140 (aS h126 2) x147/\NB x141.a fun b148 o149=>Ib x142 x141.n/\Wp h140 ⟨b148,o149+x142.toNat*5+1,none⟩ 1 [vI x145] fun h150=>Sm [(aS h126 2),(aS h126 1),(aS h119 0)] h140 h150/\NB x143.a fun b151 o152=>Ib x144 x143.n/\Wp h150 ⟨b151,o152+x144.toNat*5+2,none⟩ 3 [.bool true,vI x146,vI x147] fun h153=>∃m154,m154<m117/\I115 (wrap .i64 (x_118+1)) h153 m154) (∃m155,m155<m117/\I115 (wrap .i64 (x_118+1)) h126 m155)) (R (.pointer (some (aS h13 0))) h119)))
def W40 (pa:ByteArray) (pb pc:Sl) (pd pe pf:Int) (pg ph:Sl) (p1:Int):Prop:=
 Wn h (L0 pa pb pc pd pe pf pg ph) 27 fun h9=>∃x10,rI h9 (aS h 3) x10/\∃x11,rI h9 (aS h 3) x11/\(Mk x10 x10 1/\Wn h9 (madeL Pz 4 (x10.toNat)) 4 fun h12=>Sm [(aS h 3)] h9 h12/\Mk x11 x11 40/\Wn h12 (madeL Pz 93 (x11.toNat)) 93 fun h13=>Sm [(aS h 3)] h12 h13/\V40a h13 h9 x10 h12 x11 h p1 R)/\Mk x11 x11 40/\Wn h9 (madeL Pz 93 (x11.toNat)) 93 fun h156=>Sm [(aS h 3)] h9 h156/\Mk x10 x10 1/\Wn h156 (madeL Pz 4 (x10.toNat)) 4 fun h157=>Sm [(aS h 3)] h156 h157/\V40a h157 h156 x10 h9 x11 h p1 R
theorem vc40 (pa:ByteArray) (pb pc:Sl) (pd pe pf:Int) (pg ph:Sl) (p1:Int) (H:@W40 h R pa pb pc pd pe pf pg ph p1):Fn Pz 40 #[.agg ⟨(L0 pa pb pc pd pe pf pg ph)⟩,vI p1] h R:=fnJ (A:=(.s .z (.s .z (.s (.s .z (.b (.l [(28,.one (.int .i64))] (.s .z (.s .z (.s (.b (.s .z (.s .z (.s .z (.s (AJ 10 41) .z))))) .z)))))) (.s (AI 80) (.s (AI 110) .z)))))) H
def W89 (p0 p1:Sl):Prop:=
 sB ((p0.n:Int) != (p1.n:Int))
 (R (.bool false) h)
 (QI 0 h fun I1 x_4 h5 m3=>
 sB (decide (x_4<(p0.n:Int)))
 (NB p0.a fun b6 o7=>Ib x_4 p0.n /\
 ∃x8 x9 x10,aL5 h5 ⟨b6,o7+x_4.toNat*3,none⟩ x8 x9 x10 /\
 NB p1.a fun b11 o12=>Ib x_4 p1.n /\
 ∃x13 x14 x15,aL5 h5 ⟨b11,o12+x_4.toNat*3,none⟩ x13 x14 x15 /\
 sB (!((x8==x13)&&((x9==x14)&&((x10==x15)&&true))))
 (R (.bool false) h5)
 (∃m16,m16<m3/\I1 (wrap .i64 (x_4+1)) h5 m16))
 (R (.bool true) h5))
theorem vc89 (p0 p1:Sl) (H:@W89 h R p0 p1):Fn Pz 89 #[vS p0,vS p1] h R:=fnJ (A:=(.s .z (.s .z (.s (AI 13) .z)))) H
def V14a (h21 h9:Heap) (R:Value->Heap->Prop):Prop:=
 Wp h21 (aS h9 0) 6 [vI 0,vI 0,vI 0,vN,vN,vN] fun h22=>∃x23 x24 x25 x26 x27 x28,aL1 h22 (aS h9 0) x23 x24 x25 x26 x27 x28/\R (.tuple ⟨[.agg ⟨(L1 x23 x24 x25 x26 x27 x28)⟩,vI 1]⟩) h22
def W14 (pa:ByteArray) (pb pc:Sl) (pd pe pf:Int) (pg ph:Sl) (p1:Int):Prop:=
 Wn h (L0 pa pb pc pd pe pf pg ph) 27 fun h9=>Wn h9 [vI 0,vI 0,vI 0,vN,vN,vN] 33 fun h10=>∃x11 x12 x13 x14 x15 x16 x17 x18,aL0 h10 (aS h 0) x11 x12 x13 x14 x15 x16 x17 x18/\Fn Pz 38 #[.agg ⟨(L0 x11 x12 x13 x14 x15 x16 x17 x18)⟩] h10 (fun v19 h21=>∃x20,iB v19 x20/\sB (!x20) (V14a h21 h9 R) (sB (decide (p1<0)) (V14a h21 h9 R) (∃x36,rS h21 (aS h 1) x36/\sB (decide (p1>=(x36.n:Int))) (V14a h21 h9 R) (∃x44 x45 x46 x47 x48 x49 x50 x51,aL0 h21 (aS h 0) x44 x45 x46 x47 x48 x49 x50 x51/\Fn Pz 39 #[.agg ⟨(L0 x44 x45 x46 x47 x48 x49 x50 x51)⟩,vI p1] h21 (fun v52 h57=>∃(x53 x54 x55:Sl) (x56:Int),v52=.tuple ⟨[.agg ⟨(L9 x53 x54 x55)⟩,vI x56]⟩/\Wn h57 [vN,vN,vN] 85 fun h58=>Wp h58 (aS h57 0) 3 (L9 x53 x54 x55) fun h59=>sB (x56 != 0) (Wp h59 (aS h9 0) 6 [vI 0,vI 0,vI 0,vN,vN,vN] fun h60=>∃x61 x62 x63 x64 x65 x66,aL1 h60 (aS h9 0) x61 x62 x63 x64 x65 x66/\R (.tuple ⟨[.agg ⟨(L1 x61 x62 x63 x64 x65 x66)⟩,vI x56]⟩) h60) (∃x67,rS h59 (aS h57 2) x67/\sB (decide ((x67.n:Int)>400)) (Wp h59 (aS h9 0) 6 [vI 0,vI 0,vI 0,vN,vN,vN] fun h68=>∃x69 x70 x71 x72 x73 x74,aL1 h68 (aS h9 0) x69 x70 x71 x72 x73 x74/\R (.tuple ⟨[.agg ⟨(L1 x69 x70 x71 x72 x73 x74)⟩,vI 6]⟩) h68) (∃x75 x76 x77 x78 x79 x80 x81 x82,aL0 h59 (aS h 0) x75 x76 x77 x78 x79 x80 x81 x82/\Fn Pz 40 #[.agg ⟨(L0 x75 x76 x77 x78 x79 x80 x81 x82)⟩,vI p1] h59 (fun v83 h85=>∃x84:Option Addr,v83=.pointer x84/\∃x86,rS h85 (aS h57 0) x86/\∃x87,rS h85 (aS h57 1) x87/\∃x88,rS h85 (aS h57 2) x88/\Wn h85 [vI 0,vI 0,vI 0,vN,vN,vN] 33 fun h89=>Wp h89 (aS h85 0) 6 [vI p1,vI (x86.n:Int),vI 0,vS x87,vS x88,vN] fun h90=>∃x91,rS h90 (aS h57 0) x91/\QI 0 h90 fun I92 x_95 h96 m94=>sB (decide (x_95<(x91.n:Int))) (NB x91.a fun b97 o98=>Ib x_95 x91.n/\∃x99,rS h96 ⟨b97,o98+x_95.toNat*1,none⟩ x99/\Fn Pz 42 #[vS x99] h96 (fun v100 h102=>∃x101,iS v100 x101/\Fn Pz 41 #[.pointer x84,vS x101] h102 (fun v103 h110=>∃(x104:Bool) (x105:Int) (x106:Bool) (x107 x108:Int) (x109:Bool),v103=.tuple ⟨[.agg ⟨(L8 x104 x105 x106 x107 x108)⟩,.bool x109]⟩/\Wn h110 [.bool false,vI 0,.bool false,vI 0,vI 0] 93 fun h111=>Wp h111 (aS h110 0) 5 (L8 x104 x105 x106 x107 x108) fun h112=>sB (!x109) (Wp h112 (aS h9 0) 6 [vI 0,vI 0,vI 0,vN,vN,vN] fun h113=>∃x114 x115 x116 x117 x118 x119,aL1 h113 (aS h9 0) x114 x115 x116 x117 x118 x119/\R (.tuple ⟨[.agg ⟨(L1 x114 x115 x116 x117 x118 x119)⟩,vI 18]⟩) h113) (∃x120,rS h112 (aS h85 4) x120/\QI 0 h112 fun I121 x_124 h125 m123=>sB (decide (x_124<(x120.n:Int))) (∃x126,rS h125 (aS h85 4) x126/\NB x126.a fun b127 o128=>Ib x_124 x126.n/\∃x129,rI h125 ⟨b127,o128+x_124.toNat*6,none⟩ x129/\sB (x129 != x_95) (∃m130,m130<m123/\I121 (wrap .i64 (x_124+1)) h125 m130) (∃x131,rB h125 ⟨b127,o128+x_124.toNat*6+1,none⟩ x131/\sB (!x131) (∃m132,m132<m123/\I121 (wrap .i64 (x_124+1)) h125 m132) (∃x133,rB h125 (aS h110 0) x133/\Wp h125 ⟨b127,o128+x_124.toNat*6+5,none⟩ 1 [.bool x133] fun h134=>∃x135,rI h134 (aS h110 1) x135/\sB (decide (x135>0)) (∃x136 x137 x138,aL5 h134 (aS h110 2) x136 x137 x138/\∃x139,rI h134 ⟨b127,o128+x_124.toNat*6+2,none⟩ x139/\∃x140,rI h134 ⟨b127,o128+x_124.toNat*6+3,none⟩ x140/\sB ((x136==true)&&((x137==x139)&&((x138==x140)&&true))) (∃x141,rS h134 (aS h85 5) x141/\∃x142,rI h134 (aS h110 1) x142/\Wn h134 (L2 x_95 x142 x_124) 63 fun h143=>App Pz 25 25 (vS x141) (.slice (some (aS h134 0)) 1 1) h143 fun s144 h145=>Wp h145 (aS h85 5) 1 [vS s144] fun h146=>∃m147,m147<m123/\I121 (wrap .i64 (x_124+1)) h146 m147) (∃m148,m148<m123/\I121 (wrap .i64 (x_124+1)) h134 m148)) (∃m149,m149<m123/\I121 (wrap .i64 (x_124+1)) h134 m149)))) (∃m150,m150<m94/\I92 (wrap .i64 (x_95+1)) h125 m150))))) (∃x151 x152 x153 x154 x155 x156,aL1 h96 (aS h85 0) x151 x152 x153 x154 x155 x156/\Wp h96 (aS h9 0) 6 (L1 x151 x152 x153 x154 x155 x156) fun h157=>∃x158 x159 x160 x161 x162 x163,aL1 h157 (aS h9 0) x158 x159 x160 x161 x162 x163/\R (.tuple ⟨[.agg ⟨(L1 x158 x159 x160 x161 x162 x163)⟩,vI 0]⟩) h157)))))))))
theorem vc14 (pa:ByteArray) (pb pc:Sl) (pd pe pf:Int) (pg ph:Sl) (p1:Int) (H:@W14 h R pa pb pc pd pe pf pg ph p1):Fn Pz 14 #[.agg ⟨(L0 pa pb pc pd pe pf pg ph)⟩,vI p1] h R:=fnJ (A:=(.s .z (.s .z (.s .z (.s .z (.s .z (.s .z (.s .z (.s (.s .z (.b (.l [(61,.one (.int .i64))] (.s .z (.s .z (.s (.b (.s .z (.s .z (.s .z (AI 79))))) .z)))))) .z))))))))) H
def W73 (pa:Int) (pb:Bool) (pc pd pe:Int) (pf:Bool) (pg:Int) (ph:Bool) (pi pj pk:Int) (pl:Bool):Prop:=
 Wn h (L4 pa pb pc pd pe pf) 45 fun h13=>
 Wn h13 (L4 pg ph pi pj pk pl) 45 fun h14=>
 ∃x15,rI h14 (aS h 0) x15 /\
 ∃x16,rI h14 (aS h13 0) x16 /\
 ∃x17 x18 x19 x20 x21 x22,aL4 h14 (aS h 0) x17 x18 x19 x20 x21 x22 /\
 ∃x23 x24 x25 x26 x27 x28,aL4 h14 (aS h13 0) x23 x24 x25 x26 x27 x28 /\
 ∃x29,rI h14 (aS h 2) x29 /\
 ∃x30,rI h14 (aS h13 2) x30 /\
 ∃x31,rI h14 (aS h 3) x31 /\
 ∃x32,rI h14 (aS h13 3) x32 /\
 Fn Pz 110 #[vI x15,vI x16] h14
 (fun v33 h35=>∃x34,iI v33 x34 /\
 Sm [(aS h13 3),(aS h 3),(aS h13 2),(aS h 2),(aS h13 0),(aS h 0)] h14 h35 /\
 Fn Pz 129 #[.agg ⟨(L4 x17 x18 x19 x20 x21 x22)⟩] h35
 (fun v36 h38=>∃x37,iI v36 x37 /\
 Sm [(aS h13 3),(aS h 3),(aS h13 2),(aS h 2),(aS h13 0),(aS h13 0),(aS h 0)] h35 h38 /\
 Fn Pz 129 #[.agg ⟨(L4 x23 x24 x25 x26 x27 x28)⟩] h38
 (fun v39 h41=>∃x40,iI v39 x40 /\
 Sm [(aS h13 3),(aS h 3),(aS h13 2),(aS h 2),(aS h 0),(aS h13 0),(aS h 0)] h38 h41 /\
 Fn Pz 110 #[vI x37,vI x40] h41
 (fun v42 h44=>∃x43,iI v42 x43 /\
 Sm [(aS h13 3),(aS h 3),(aS h13 2),(aS h 2),(aS h13 0),(aS h 0)] h41 h44 /\
 Fn Pz 110 #[vI x29,vI x30] h44
 (fun v45 h47=>∃x46,iI v45 x46 /\
 Sm [(aS h13 3),(aS h 3),(aS h13 0),(aS h 0),(aS h13 0),(aS h 0)] h44 h47 /\
 Fn Pz 110 #[vI x31,vI x32] h47
 (fun v48 h50=>∃x49,iI v48 x49 /\
 Sm [(aS h13 2),(aS h 2),(aS h13 0),(aS h 0),(aS h13 0),(aS h 0)] h47 h50 /\
 Wn h50 [vI x34,vI x43,vI x46,vI x49] 3 fun h51=>
 Fn Pz 109 #[.slice (some (aS h50 0)) 4 4] h51
 (fun v52 h54=>∃x53,iI v52 x53 /\
 R (vI x53) h54)))))))
theorem vc73 (pa:Int) (pb:Bool) (pc pd pe:Int) (pf:Bool) (pg:Int) (ph:Bool) (pi pj pk:Int) (pl:Bool) (H:@W73 h R pa pb pc pd pe pf pg ph pi pj pk pl):Fn Pz 73 #[.agg ⟨(L4 pa pb pc pd pe pf)⟩,.agg ⟨(L4 pg ph pi pj pk pl)⟩] h R:=fnJ (A:=.z) H
def W129 (pa:Int) (pb:Bool) (pc pd pe:Int) (pf:Bool):Prop:=
 Wn h (L4 pa pb pc pd pe pf) 45 fun h7=>
 ∃x8,rB h7 (aS h 1) x8 /\
 sB x8
 (R (vI 0) h7)
 (R (vI 1) h7)
theorem vc129 (pa:Int) (pb:Bool) (pc pd pe:Int) (pf:Bool) (H:@W129 h R pa pb pc pd pe pf):Fn Pz 129 #[.agg ⟨(L4 pa pb pc pd pe pf)⟩] h R:=fnJ (A:=.z) H
def W125 (p0:Sl):Prop:=
 sB (Option.isNone p0.a)
 (R vN h)
 (Wn h [] 45 fun h1=>
 App Pz 31 31 (.slice (some (aS h 0)) 0 0) (vS p0) h1 fun s2 h3=>
 R (vS s2) h3)
theorem vc125 (p0:Sl) (H:@W125 h R p0):Fn Pz 125 #[vS p0] h R:=fnJ (A:=.z) H
def W126 (pa pb:Int) (pc:Bool) (pd pe:Int) (pf:Bool) (pg:Int) (c0:Addr) (c1:Addr):Prop:=
 Wn h (L11 pa pb pc pd pe pf pg) 212 fun h8=>
 ∃x9:Option Nat,hc h8 c0=some (.map x9) /\
 ∃x10 x11 x12 x13 x14 x15 x16,aL11 h8 (aS h 0) x10 x11 x12 x13 x14 x15 x16 /\
 RunW Pz (Instr.lookup 210 (.map x9) (.agg ⟨(L11 x10 x11 x12 x13 x14 x15 x16)⟩) true) h8
 (fun v17 h20=>∃(x18:Int) (x19:Bool),v17=.tuple ⟨[vI x18,.bool x19]⟩ /\
 sB (!x19)
 (∃x21:Option Nat,hc h20 c0=some (.map x21) /\
 RunW Pz (Builtin.len_ #[210] 3 #[.map x21]) h20
 (fun v22 h24=>∃x23,iI v22 x23 /\
 ∃x25,rI h24 ⟨c1.block,c1.off+1,none⟩ x25 /\
 ∃x26:Option Nat,hc h24 c0=some (.map x26) /\
 ∃x27 x28 x29 x30 x31 x32 x33,aL11 h24 (aS h 0) x27 x28 x29 x30 x31 x32 x33 /\
 RunW Pz (Instr.mapUpdate 210 (.map x26) (.agg ⟨(L11 x27 x28 x29 x30 x31 x32 x33)⟩) (vI (wrap .i64 ((wrap .i64 (x23+x25))+2)))) h24 (fun _ h34=>
 R (vI (wrap .i64 ((wrap .i64 (x23+x25))+2))) h34)))
 (R (vI x18) h20))
theorem vc126 (pa pb:Int) (pc:Bool) (pd pe:Int) (pf:Bool) (pg:Int) (c0:Addr) (c1:Addr) (H:@W126 h R pa pb pc pd pe pf pg c0 c1):Fn Pz 126 #[.agg ⟨(L11 pa pb pc pd pe pf pg)⟩,.pointer (some c0),.pointer (some c1)] h R:=fnJ (A:=.z) H
def V71a (x_31 x26:Int) (h40 h25:Heap) (x39:Int) (m30:Nat) (I28:Int->Heap->Nat->Prop):Prop:=
 (0<=(x_31:Int)/\(x_31:Int)<((x26.toNat):Nat))/\Wp h40 (aS h25 (0+x_31.toNat*1)) 1 [vI x39] fun h41=>∃m42,m42<m30/\I28 (wrap .i64 (x_31+1)) h41 m42
def V71b (h48 h67 h77:Heap) (x68 x26:Int) (h25:Heap) (x76:Int) (m46:Nat) (I44:Int->Heap->Nat->Prop) (x_47:Int):Prop:=
 Sm [(aS h48 0)] h67 h77/\(0<=(x68:Int)/\(x68:Int)<((x26.toNat):Nat))/\Wp h77 (aS h25 (0+x68.toNat*1)) 1 [vI x76] fun h78=>∃m79,m79<m46/\I44 (wrap .i64 (x_47+1)) h78 m79
def W71 (pa pb pc:Int) (pd pe pf:Sl):Prop:=
 Wn h (L1 pa pb pc pd pe pf) 33 fun h7=>∃x8,rS h7 (aS h 4) x8/\Fn Pz 125 #[vS x8] h7 (fun v9 h11=>∃x10,iS v9 x10/\Fn Pz 72 #[vS x10,.func (.func 73) #[] #[]] h11 (fun v12 h13=>v12=.tuple ⟨[]⟩/\∃x14,rI h13 (aS h 1) x14/\Mk x14 x14 8/\Wn h13 (madeL Pz 3 (x14.toNat)) 3 fun h15=>QI 0 h15 fun I16 count_19 h20 m18=>RunW Pz (Instr.makeMap 210 (none)) h20 (fun v21 h23=>∃x22:Option Nat,v21=.map x22/\Wn h23 [.map none] 210 fun h24=>Wp h24 (aS h23 0) 1 [.map x22] fun h25=>∃x26,rI h25 (aS h 1) x26/\Mk x26 x26 8/\Wn h25 (madeL Pz 3 (x26.toNat)) 3 fun h27=>QI 0 h27 fun I28 x_31 h32 m30=>sB (decide (x_31<((x26.toNat):Int))) ((0<=(x_31:Int)/\(x_31:Int)<((x14.toNat):Nat))/\∃x33,rI h32 (aS h13 (0+x_31.toNat*1)) x33/\∃x34,rS h32 (aS h 3) x34/\NB x34.a fun b35 o36=>Ib x_31 x34.n/\∃x37,rB h32 ⟨b35,o36+x_31.toNat*1,none⟩ x37/\Fn Pz 126 #[.agg ⟨[vI x33,vI 0,.bool false,vI 0,vI 0,.bool x37,vI 0]⟩,.pointer (some (aS h23 0)),.pointer (some (aS h 0))] h32 (fun v38 h40=>∃x39,iI v38 x39/\V71a x_31 x26 h40 h25 x39 m30 I28)) (∃x43,rS h32 (aS h 5) x43/\QI 0 h32 fun I44 x_47 h48 m46=>sB (decide (x_47<(x43.n:Int))) (NB x43.a fun b49 o50=>Ib x_47 x43.n/\∃x51 x52 x53,aL2 h48 ⟨b49,o50+x_47.toNat*3,none⟩ x51 x52 x53/\Wn h48 [vI 0,vI 0,vI 0] 63 fun h54=>Wp h54 (aS h48 0) 3 (L2 x51 x52 x53) fun h55=>∃x56,rS h55 (aS h 4) x56/\∃x57,rI h55 (aS h48 2) x57/\NB x56.a fun b58 o59=>Ib x57 x56.n/\∃x60 x61 x62 x63 x64 x65,aL4 h55 ⟨b58,o59+x57.toNat*6,none⟩ x60 x61 x62 x63 x64 x65/\Wn h55 [vI 0,.bool false,vI 0,vI 0,vI 0,.bool false] 45 fun h66=>Wp h66 (aS h55 0) 6 (L4 x60 x61 x62 x63 x64 x65) fun h67=>∃x68,rI h67 (aS h48 0) x68/\∃x69,rI h67 (aS h48 0) x69/\(0<=(x69:Int)/\(x69:Int)<((x26.toNat):Nat))/\∃x70,rI h67 (aS h25 (0+x69.toNat*1)) x70/\∃x71,rB h67 (aS h55 1) x71/\∃x72,rI h67 (aS h55 2) x72/\∃x73,rI h67 (aS h55 3) x73/\∃x74,rI h67 (aS h48 1) x74/\Fn Pz 126 #[.agg ⟨[vI x70,vI 1,.bool x71,vI x72,vI x73,.bool false,vI x74]⟩,.pointer (some (aS h23 0)),.pointer (some (aS h 0))] h67 (fun v75 h77=>∃x76,iI v75 x76/\V71b h48 h67 h77 x68 x26 h25 x76 m46 I44 x_47)) (QI 0 h48 fun I80 x_83 h84 m82=>sB (decide (x_83<(x10.n:Int))) (NB x10.a fun b85 o86=>Ib x_83 x10.n/\∃x87 x88 x89 x90 x91 x92,aL4 h84 ⟨b85,o86+x_83.toNat*6,none⟩ x87 x88 x89 x90 x91 x92/\Wn h84 [vI 0,.bool false,vI 0,vI 0,vI 0,.bool false] 45 fun h93=>Wp h93 (aS h84 0) 6 (L4 x87 x88 x89 x90 x91 x92) fun h94=>∃x95,rI h94 (aS h84 0) x95/\∃x96,rI h94 (aS h84 0) x96/\(0<=(x96:Int)/\(x96:Int)<((x26.toNat):Nat))/\∃x97,rI h94 (aS h25 (0+x96.toNat*1)) x97/\∃x98,rB h94 (aS h84 1) x98/\∃x99,rI h94 (aS h84 2) x99/\∃x100,rI h94 (aS h84 3) x100/\∃x101,rB h94 (aS h84 5) x101/\∃x102,rI h94 (aS h84 4) x102/\(0<=(x102:Int)/\(x102:Int)<((x14.toNat):Nat))/\∃x103,rI h94 (aS h13 (0+x102.toNat*1)) x103/\Fn Pz 126 #[.agg ⟨[vI x97,vI 2,.bool x98,vI x99,vI x100,.bool x101,vI x103]⟩,.pointer (some (aS h23 0)),.pointer (some (aS h 0))] h94 (fun v104 h106=>∃x105,iI v104 x105/\V71b h84 h94 h106 x95 x26 h25 x105 m82 I80 x_83)) (RunW Pz (Instr.makeMap 215 (none)) h84 (fun v109 h111=>∃x110:Option Nat,v109=.map x110/\QI 0 h111 fun I112 x_115 h116 m114=>sB (decide (x_115<((x26.toNat):Int))) ((0<=(x_115:Int)/\(x_115:Int)<((x26.toNat):Nat))/\∃x117,rI h116 (aS h25 (0+x_115.toNat*1)) x117/\RunW Pz (Instr.lookup 215 (.map x110) (vI x117) true) h116 (fun v118 h121=>∃(x119:Int) (x120:Bool),v118=.tuple ⟨[vI x119,.bool x120]⟩/\sB (!x120) (RunW Pz (Builtin.len_ #[215] 3 #[.map x110]) h121 (fun v122 h124=>∃x123,iI v122 x123/\RunW Pz (Instr.mapUpdate 215 (.map x110) (vI x117) (vI x123)) h124 (fun _ h125=>RunW Pz (Instr.lookup 215 (.map x110) (vI x117) false) h125 (fun v126 h128=>∃x127,iI v126 x127/\V71a x_115 x14 h128 h13 x127 m114 I112)))) (RunW Pz (Instr.lookup 215 (.map x110) (vI x117) false) h121 (fun v131 h133=>∃x132,iI v131 x132/\V71a x_115 x14 h133 h13 x132 m114 I112)))) (RunW Pz (Builtin.len_ #[215] 3 #[.map x110]) h116 (fun v136 h138=>∃x137,iI v136 x137/\sB (x137==count_19) (R (.tuple ⟨[.slice (some (aS h13 0)) (x14.toNat) (x14.toNat),vI count_19]⟩) h138) (RunW Pz (Builtin.len_ #[215] 3 #[.map x110]) h138 (fun v139 h141=>∃x140,iI v139 x140/\∃m142,m142<m18/\I16 x140 h141 m142)))))))))))
theorem vc71 (pa pb pc:Int) (pd pe pf:Sl) (H:@W71 h R pa pb pc pd pe pf):Fn Pz 71 #[.agg ⟨(L1 pa pb pc pd pe pf)⟩] h R:=fnJ (A:=(.s .z (.s .z (.s .z (.s .z (.s .z (.b (.l [(6,.one (.int .i64))] (.b (.s .z (.s .z (.s .z (.s (AI 36) (.s (AI 58) (.s (AI 92) (.s .z (.s (AI 126) .z))))))))))))))))) H
def W36 (pa pb pc:Int) (pd pe pf:Sl):Prop:=
 Wn h (L1 pa pb pc pd pe pf) 33 fun h7=>
 Wn h7 [vI 0,vI 0,vI 0,vN,vN,vN] 33 fun h8=>
 ∃x9 x10 x11 x12 x13 x14,aL1 h8 (aS h 0) x9 x10 x11 x12 x13 x14 /\
 Fn Pz 71 #[.agg ⟨(L1 x9 x10 x11 x12 x13 x14)⟩] h8
 (fun v15 h18=>∃(x16:Sl) (x17:Int),v15=.tuple ⟨[vS x16,vI x17]⟩ /\
 Mk x17 x17 8/\Wn h18 (madeL Pz 3 (x17.toNat)) 3 fun h19=>
 ∃x20,rI h19 (aS h 1) x20 /\
 QI (wrap .i64 (x20-1)) h19 fun I21 s_24 h25 m23=>
 sB (decide (s_24>=0))
 (NB x16.a fun b26 o27=>Ib s_24 x16.n /\
 ∃x28,rI h25 ⟨b26,o27+s_24.toNat*1,none⟩ x28 /\
 (0<=(x28:Int)/\(x28:Int)<((x17.toNat):Nat)) /\
 Wp h25 (aS h18 (0+x28.toNat*1)) 1 [vI s_24] fun h29=>
 ∃m30,m30<m23/\I21 (wrap .i64 (s_24-1)) h29 m30)
 (∃x31,rI h25 (aS h 1) x31 /\
 Mk x31 x31 24/\Wn h25 (madeL Pz 31 (x31.toNat)) 31 fun h32=>
 ∃x33,rS h32 (aS h 4) x33 /\
 QI 0 h32 fun I34 x_37 h38 m36=>
 sB (decide (x_37<(x33.n:Int)))
 (NB x33.a fun b39 o40=>Ib x_37 x33.n /\
 ∃x41 x42 x43 x44 x45 x46,aL4 h38 ⟨b39,o40+x_37.toNat*6,none⟩ x41 x42 x43 x44 x45 x46 /\
 Wn h38 [vI 0,.bool false,vI 0,vI 0,vI 0,.bool false] 45 fun h47=>
 Wp h47 (aS h38 0) 6 (L4 x41 x42 x43 x44 x45 x46) fun h48=>
 ∃x49,rI h48 (aS h38 0) x49 /\
 ∃x50,rI h48 (aS h38 0) x50 /\
 (0<=(x50:Int)/\(x50:Int)<((x31.toNat):Nat)) /\
 ∃x51,rS h48 (aS h25 (0+x50.toNat*1)) x51 /\
 ∃x52 x53 x54 x55 x56 x57,aL4 h48 (aS h38 0) x52 x53 x54 x55 x56 x57 /\
 Wn h48 (L4 x52 x53 x54 x55 x56 x57) 45 fun h58=>
 Sm [(aS h25 (0+x50.toNat*1)),(aS h38 0),(aS h38 0)] h48 h58 /\
 App Pz 31 31 (vS x51) (.slice (some (aS h48 0)) 1 1) h58 fun s59 h60=>
 Sm [(aS h38 0)] h58 h60 /\
 (0<=(x49:Int)/\(x49:Int)<((x31.toNat):Nat)) /\
 Wp h60 (aS h25 (0+x49.toNat*1)) 1 [vS s59] fun h61=>
 ∃m62,m62<m36/\I34 (wrap .i64 (x_37+1)) h61 m62)
 (RunW Pz (Instr.makeMap 140 (none)) h38
 (fun v63 h65=>∃x64:Option Nat,v63=.map x64 /\
 ∃x66,rS h65 (aS h 5) x66 /\
 QI 0 h65 fun I67 x_70 h71 m69=>
 sB (decide (x_70<(x66.n:Int)))
 (NB x66.a fun b72 o73=>Ib x_70 x66.n /\
 ∃x74 x75 x76,aL2 h71 ⟨b72,o73+x_70.toNat*3,none⟩ x74 x75 x76 /\
 Wn h71 [vI 0,vI 0,vI 0] 63 fun h77=>
 Wp h77 (aS h71 0) 3 (L2 x74 x75 x76) fun h78=>
 ∃x79,rI h78 (aS h71 0) x79 /\
 ∃x80 x81 x82,aL2 h78 (aS h71 0) x80 x81 x82 /\
 RunW Pz (Instr.mapUpdate 140 (.map x64) (vI x79) (.agg ⟨(L2 x80 x81 x82)⟩)) h78 (fun _ h83=>
 ∃m84,m84<m69/\I67 (wrap .i64 (x_70+1)) h83 m84))
 (Mk x17 x17 8/\Wn h71 (madeL Pz 3 (x17.toNat)) 3 fun h85=>
 QI 0 h85 fun I86 x_89 h90 m88=>
 sB (decide (x_89<((x17.toNat):Int)))
 ((0<=(x_89:Int)/\(x_89:Int)<((x17.toNat):Nat)) /\
 Wp h90 (aS h71 (0+x_89.toNat*1)) 1 [vI (-1)] fun h91=>
 ∃m92,m92<m88/\I86 (wrap .i64 (x_89+1)) h91 m92)
 (∃x93,rI h90 (aS h 2) x93 /\
 NB x16.a fun b94 o95=>Ib x93 x16.n /\
 ∃x96,rI h90 ⟨b94,o95+x93.toNat*1,none⟩ x96 /\
 Wn h90 [vI x96] 3 fun h97=>
 Ib 0 1 /\
 ∃x98,rI h97 (aS h90 (0+Int.toNat 0*1)) x98 /\
 (0<=(x98:Int)/\(x98:Int)<((x17.toNat):Nat)) /\
 Wp h97 (aS h71 (0+x98.toNat*1)) 1 [vI 0] fun h99=>
 ∃x100,rI h99 (aS h 0) x100 /\
 Wn h99 [vI 0,vI 0,vI 0,vN,vN,vN] 33 fun h101=>
 Wp h101 (aS h99 0) 6 [vI x100,vI 0,vI 0,vN,vN,vN] fun h102=>
 QSI ⟨(some (aS h90 0)),1,1⟩ 0 h102 fun I103 queue_106 head_107 h108 m105=>
 sB (decide (head_107<(queue_106.n:Int)))
 (NB queue_106.a fun b109 o110=>Ib head_107 queue_106.n /\
 ∃x111,rI h108 ⟨b109,o110+head_107.toNat*1,none⟩ x111 /\
 (0<=(x111:Int)/\(x111:Int)<((x17.toNat):Nat)) /\
 ∃x112,rI h108 (aS h18 (0+x111.toNat*1)) x112 /\
 ∃x113,rS h108 (aS h99 3) x113 /\
 ∃x114,rS h108 (aS h 3) x114 /\
 NB x114.a fun b115 o116=>Ib x112 x114.n /\
 ∃x117,rB h108 ⟨b115,o116+x112.toNat*1,none⟩ x117 /\
 Wn h108 [.bool x117] 4 fun h118=>
 Sm [(aS h99 3)] h108 h118 /\
 App Pz 30 30 (vS x113) (.slice (some (aS h108 0)) 1 1) h118 fun s119 h120=>
 Wp h120 (aS h99 3) 1 [vS s119] fun h121=>
 (0<=(x112:Int)/\(x112:Int)<((x31.toNat):Nat)) /\
 ∃x122,rS h121 (aS h25 (0+x112.toNat*1)) x122 /\
 Fn Pz 72 #[vS x122,.func (.func 73) #[] #[]] h121
 (fun v123 h124=>v123=.tuple ⟨[]⟩ /\
 RunW Pz (Instr.lookup 140 (.map x64) (vI x112) true) h124
 (fun v125 h130=>∃(x126 x127 x128:Int) (x129:Bool),v125=.tuple ⟨[.agg ⟨(L2 x126 x127 x128)⟩,.bool x129]⟩ /\
 Wn h130 [vI 0,vI 0,vI 0] 63 fun h131=>
 Wp h131 (aS h130 0) 3 (L2 x126 x127 x128) fun h132=>
 (0<=(x112:Int)/\(x112:Int)<((x31.toNat):Nat)) /\
 ∃x133,rS h132 (aS h25 (0+x112.toNat*1)) x133 /\
 QSI queue_106 0 h132 fun I134 queue_137 x_138 h139 m136=>
 sB (decide (x_138<(x133.n:Int)))
 (NB x133.a fun b140 o141=>Ib x_138 x133.n /\
 ∃x142 x143 x144 x145 x146 x147,aL4 h139 ⟨b140,o141+x_138.toNat*6,none⟩ x142 x143 x144 x145 x146 x147 /\
 Wn h139 [vI 0,.bool false,vI 0,vI 0,vI 0,.bool false] 45 fun h148=>
 Wp h148 (aS h139 0) 6 (L4 x142 x143 x144 x145 x146 x147) fun h149=>
 ∃x150,rI h149 (aS h139 4) x150 /\
 NB x16.a fun b151 o152=>Ib x150 x16.n /\
 ∃x153,rI h149 ⟨b151,o152+x150.toNat*1,none⟩ x153 /\
 ∃J154:Sl->Heap->Prop,
 ((0<=(x153:Int)/\(x153:Int)<((x17.toNat):Nat)) /\
 ∃x155,rI h149 (aS h71 (0+x153.toNat*1)) x155 /\
 sB (decide (x155<0))
 ((0<=(x153:Int)/\(x153:Int)<((x17.toNat):Nat)) /\
 Wp h149 (aS h71 (0+x153.toNat*1)) 1 [vI (queue_137.n:Int)] fun h156=>
 Wn h156 [vI x153] 3 fun h157=>
 App Pz 42 42 (vS queue_137) (.slice (some (aS h156 0)) 1 1) h157 fun s158 h159=>
 J154 s158 h159)
 (J154 queue_137 h149)) /\
 ∀(_:Env) (queue_160:Sl) (h161:Heap),J154 queue_160 h161 ->
 (∃x162,rS h161 (aS h 4) x162 /\
 ∃x163,rI h161 (aS h130 2) x163 /\
 NB x162.a fun b164 o165=>(0<=((imax x163 0):Int)/\((imax x163 0):Int)<(x162.n:Nat)) /\
 ∃x166 x167 x168 x169 x170 x171,aL4 h161 ⟨b164,o165+Int.toNat (imax x163 0)*6,none⟩ x166 x167 x168 x169 x170 x171 /\
 Wn h161 [vI 0,.bool false,vI 0,vI 0,vI 0,.bool false] 45 fun h172=>
 Wp h172 (aS h161 0) 6 (L4 x166 x167 x168 x169 x170 x171) fun h173=>
 ∃J174:Heap->Prop,
 (sB x129
 (∃x175,rB h173 (aS h139 1) x175 /\
 ∃x176,rB h173 (aS h161 1) x176 /\
 sB (x175==x176)
 (∃x177,rI h173 (aS h139 2) x177 /\
 ∃x178,rI h173 (aS h161 2) x178 /\
 sB (x177==x178)
 (∃x179,rI h173 (aS h139 3) x179 /\
 ∃x180,rI h173 (aS h161 3) x180 /\
 sB (x179==x180)
 (∃x181,rS h173 (aS h99 5) x181 /\
 ∃x182,rI h173 (aS h130 1) x182 /\
 ∃x183,rS h173 (aS h99 4) x183 /\
 Wn h173 [vI head_107,vI x182,vI (x183.n:Int)] 63 fun h184=>
 App Pz 25 25 (vS x181) (.slice (some (aS h173 0)) 1 1) h184 fun s185 h186=>
 Wp h186 (aS h99 5) 1 [vS s185] fun h187=>
 J174 h187)
 (J174 h173))
 (J174 h173))
 (J174 h173))
 (J174 h173)) /\
 ∀(_:Env) (h188:Heap),J174 h188 ->
 ((0<=(x153:Int)/\(x153:Int)<((x17.toNat):Nat)) /\
 ∃x189,rI h188 (aS h71 (0+x153.toNat*1)) x189 /\
 Wp h188 (aS h139 0) 1 [vI head_107] fun h190=>
 Sm [(aS h71 (0+x153.toNat*1))] h188 h190 /\
 Wp h190 (aS h139 4) 1 [vI x189] fun h191=>
 ∃x192,rS h191 (aS h99 4) x192 /\
 ∃x193 x194 x195 x196 x197 x198,aL4 h191 (aS h139 0) x193 x194 x195 x196 x197 x198 /\
 Wn h191 (L4 x193 x194 x195 x196 x197 x198) 45 fun h199=>
 App Pz 31 31 (vS x192) (.slice (some (aS h191 0)) 1 1) h199 fun s200 h201=>
 Wp h201 (aS h99 4) 1 [vS s200] fun h202=>
 ∃m203,m203<m136/\I134 queue_160 (wrap .i64 (x_138+1)) h202 m203)))
 (∃m204,m204<m105/\I103 queue_137 (wrap .i64 (head_107+1)) h139 m204))))
 (Wp h108 (aS h99 1) 1 [vI (queue_106.n:Int)] fun h205=>
 ∃x206 x207 x208 x209 x210 x211,aL1 h205 (aS h99 0) x206 x207 x208 x209 x210 x211 /\
 Wp h205 (aS h7 0) 6 (L1 x206 x207 x208 x209 x210 x211) fun h212=>
 ∃x213 x214 x215 x216 x217 x218,aL1 h212 (aS h7 0) x213 x214 x215 x216 x217 x218 /\
 R (.agg ⟨(L1 x213 x214 x215 x216 x217 x218)⟩) h212)))))))
theorem vc36 (pa pb pc:Int) (pd pe pf:Sl) (H:@W36 h R pa pb pc pd pe pf):Fn Pz 36 #[.agg ⟨(L1 pa pb pc pd pe pf)⟩] h R:=fnJ (A:=(.s .z (.s .z (.s .z (.s (AI 6) (.s .z (.s (AI 52) (.s .z (.s (AI 73) (.s .z (.s (AI 86) (.s .z (.s .z (.s .z (.s (.s .z (.b (.l [(15,.one (.slice)),(17,.one (.int .i64))] (.s .z (.s (.b (.s .z (.s .z (.s .z (.s .z (.s .z (.b (.l [(15,.one (.slice)),(146,.one (.int .i64))] (.s .z (.s .z (.s (.b (.s .z (.s .z (.j [(15,.one (.slice))] .z (.s .z (.j [] .z .z)))))) .z))))))))))) .z))))) .z))))))))))))))) H
def W12 (pa:ByteArray) (pb pc:Sl) (pd pe pf:Int) (pg ph:Sl) (p1:Int):Prop:=
 Wn h (L0 pa pb pc pd pe pf pg ph) 27 fun h9=>
 Wn h9 [vI 0,vI 0,vI 0,vN,vN,vN] 33 fun h10=>
 ∃x11 x12 x13 x14 x15 x16 x17 x18,aL0 h10 (aS h 0) x11 x12 x13 x14 x15 x16 x17 x18 /\
 Fn Pz 14 #[.agg ⟨(L0 x11 x12 x13 x14 x15 x16 x17 x18)⟩,vI p1] h10
 (fun v19 h27=>∃(x20 x21 x22:Int) (x23 x24 x25:Sl) (x26:Int),v19=.tuple ⟨[.agg ⟨(L1 x20 x21 x22 x23 x24 x25)⟩,vI x26]⟩ /\
 Wn h27 [vI 0,vI 0,vI 0,vN,vN,vN] 33 fun h28=>
 Wp h28 (aS h27 0) 6 (L1 x20 x21 x22 x23 x24 x25) fun h29=>
 sB (x26 != 0)
 (Wp h29 (aS h9 0) 6 [vI 0,vI 0,vI 0,vN,vN,vN] fun h30=>
 ∃x31 x32 x33 x34 x35 x36,aL1 h30 (aS h9 0) x31 x32 x33 x34 x35 x36 /\
 R (.tuple ⟨[.agg ⟨(L1 x31 x32 x33 x34 x35 x36)⟩,vI x26]⟩) h30)
 (∃x37 x38 x39 x40 x41 x42,aL1 h29 (aS h27 0) x37 x38 x39 x40 x41 x42 /\
 Fn Pz 36 #[.agg ⟨(L1 x37 x38 x39 x40 x41 x42)⟩] h29
 (fun v43 h50=>∃(x44 x45 x46:Int) (x47 x48 x49:Sl),v43=.agg ⟨(L1 x44 x45 x46 x47 x48 x49)⟩ /\
 Wp h50 (aS h9 0) 6 (L1 x44 x45 x46 x47 x48 x49) fun h51=>
 ∃x52 x53 x54 x55 x56 x57,aL1 h51 (aS h9 0) x52 x53 x54 x55 x56 x57 /\
 R (.tuple ⟨[.agg ⟨(L1 x52 x53 x54 x55 x56 x57)⟩,vI 0]⟩) h51)))
theorem vc12 (pa:ByteArray) (pb pc:Sl) (pd pe pf:Int) (pg ph:Sl) (p1:Int) (H:@W12 h R pa pb pc pd pe pf pg ph p1):Fn Pz 12 #[.agg ⟨(L0 pa pb pc pd pe pf pg ph)⟩,vI p1] h R:=fnJ (A:=.z) H
def W10 :Prop:=
 Fn Pz 34 #[.bool true] h
 (fun v1 h10=>∃(x2:ByteArray) (x3 x4:Sl) (x5 x6 x7:Int) (x8 x9:Sl),v1=.agg ⟨(L0 x2 x3 x4 x5 x6 x7 x8 x9)⟩ /\
 Fn Pz 12 #[.agg ⟨(L0 x2 x3 x4 x5 x6 x7 x8 x9)⟩,vI 2] h10
 (fun v11 h19=>∃(x12 x13 x14:Int) (x15 x16 x17:Sl) (x18:Int),v11=.tuple ⟨[.agg ⟨(L1 x12 x13 x14 x15 x16 x17)⟩,vI x18]⟩ /\
 Wn h19 [vI 0,vI 0,vI 0,vN,vN,vN] 33 fun h20=>
 Wp h20 (aS h19 0) 6 (L1 x12 x13 x14 x15 x16 x17) fun h21=>
 Fn Pz 34 #[.bool false] h21
 (fun v22 h31=>∃(x23:ByteArray) (x24 x25:Sl) (x26 x27 x28:Int) (x29 x30:Sl),v22=.agg ⟨(L0 x23 x24 x25 x26 x27 x28 x29 x30)⟩ /\
 Fn Pz 12 #[.agg ⟨(L0 x23 x24 x25 x26 x27 x28 x29 x30)⟩,vI 2] h31
 (fun v32 h40=>∃(x33 x34 x35:Int) (x36 x37 x38:Sl) (x39:Int),v32=.tuple ⟨[.agg ⟨(L1 x33 x34 x35 x36 x37 x38)⟩,vI x39]⟩ /\
 Wn h40 [vI 0,vI 0,vI 0,vN,vN,vN] 33 fun h41=>
 Wp h41 (aS h40 0) 6 (L1 x33 x34 x35 x36 x37 x38) fun h42=>
 sB (x18==0)
 (sB (x39==18)
 (∃x43,rI h42 (aS h19 1) x43 /\
 sB (x43==4)
 (∃x44,rS h42 (aS h19 4) x44 /\
 sB ((x44.n:Int)==4)
 (∃x45,rS h42 (aS h19 4) x45 /\
 NB x45.a fun b46 o47=>Ib 3 x45.n /\
 ∃x48 x49 x50 x51 x52 x53,aL4 h42 ⟨b46,o47+Int.toNat 3*6,none⟩ x48 x49 x50 x51 x52 x53 /\
 sB ((x48==2)&&((x49==true)&&((x50==1)&&((x51==3)&&((x52==3)&&((x53==false)&&true))))))
 (∃x54,rS h42 (aS h19 3) x54 /\
 NB x54.a fun b55 o56=>Ib 3 x54.n /\
 ∃x57,rB h42 ⟨b55,o56+Int.toNat 3*1,none⟩ x57 /\
 R (.bool x57) h42)
 (R (.bool false) h42))
 (R (.bool false) h42))
 (R (.bool false) h42))
 (R (.bool false) h42))
 (R (.bool false) h42)))))
theorem vc10  (H:@W10 h R ):Fn Pz 10 #[] h R:=fnJ (A:=.z) H
def V34a (h91 h3 h:Heap) (R:Value->Heap->Prop):Prop:=
 ∃x92 x93 x94 x95 x96 x97 x98 x99,aL0 h91 (aS h3 0) x92 x93 x94 x95 x96 x97 x98 x99/\Wp h91 (aS h 0) 8 (L0 x92 x93 x94 x95 x96 x97 x98 x99) fun h100=>∃x101 x102 x103 x104 x105 x106 x107 x108,aL0 h100 (aS h 0) x101 x102 x103 x104 x105 x106 x107 x108/\R (.agg ⟨(L0 x101 x102 x103 x104 x105 x106 x107 x108)⟩) h100
def W34 (p0:Bool):Prop:=
 Wn h [.string ⟨#[]⟩,vN,vN,vI 0,vI 0,vI 0,vN,vN] 27 fun h1=>Wn h1 [.string ⟨#[112]⟩,.string ⟨#[113]⟩,.string ⟨#[114]⟩] 9 fun h2=>Wn h2 [.string ⟨#[97]⟩,vN,vI 0,vN,vN,.string ⟨#[98]⟩,vN,vI 0,vN,vN,.string ⟨#[99]⟩,vN,vI 0,vN,vN,.string ⟨#[100]⟩,vN,vI 0,vN,vN] 136 fun h3=>Wn h3 [.string ⟨#[]⟩,vN,vN,vI 0,vI 0,vI 0,vN,vN] 27 fun h4=>Wp h4 (aS h3 0) 8 [.string ⟨#[101]⟩,.slice (some (aS h1 0)) 3 3,.slice (some (aS h2 0)) 4 4,vI 4,vI 0,vI 3,vN,vN] fun h5=>Fn Pz 70 #[vI 0,vI 0,vI 1,vI 0,vI 1] h5 (fun v6 h13=>∃(x7 x8 x9 x10 x11:Int) (x12:Bool),v6=.agg ⟨(L3 x7 x8 x9 x10 x11 x12)⟩/\Fn Pz 70 #[vI 0,vI 0,vI 1,vI 1,vI 2] h13 (fun v14 h21=>∃(x15 x16 x17 x18 x19:Int) (x20:Bool),v14=.agg ⟨(L3 x15 x16 x17 x18 x19 x20)⟩/\Fn Pz 70 #[vI 1,vI 2,vI 1,vI 2,vI 3] h21 (fun v22 h29=>∃(x23 x24 x25 x26 x27:Int) (x28:Bool),v22=.agg ⟨(L3 x23 x24 x25 x26 x27 x28)⟩/\Fn Pz 70 #[vI 2,vI 2,vI 1,vI 3,vI 3] h29 (fun v30 h37=>∃(x31 x32 x33 x34 x35:Int) (x36:Bool),v30=.agg ⟨(L3 x31 x32 x33 x34 x35 x36)⟩/\Wn h37 [vI x7,vI x8,vI x9,vI x10,vI x11,.bool x12,vI x15,vI x16,vI x17,vI x18,vI x19,.bool x20,vI x23,vI x24,vI x25,vI x26,vI x27,.bool x28,vI x31,vI x32,vI x33,vI x34,vI x35,.bool x36] 55 fun h38=>Wp h38 (aS h3 6) 1 [.slice (some (aS h37 0)) 4 4] fun h39=>sB p0 (Wp h39 (aS h3 3) 1 [vI 6] fun h40=>Wp h40 (aS h3 5) 1 [vI 5] fun h41=>Fn Pz 70 #[vI 0,vI 0,vI 1,vI 0,vI 1] h41 (fun v42 h49=>∃(x43 x44 x45 x46 x47:Int) (x48:Bool),v42=.agg ⟨(L3 x43 x44 x45 x46 x47 x48)⟩/\Fn Pz 70 #[vI 0,vI 0,vI 1,vI 1,vI 2] h49 (fun v50 h57=>∃(x51 x52 x53 x54 x55:Int) (x56:Bool),v50=.agg ⟨(L3 x51 x52 x53 x54 x55 x56)⟩/\Fn Pz 70 #[vI 1,vI 1,vI 2,vI 0,vI 3] h57 (fun v58 h65=>∃(x59 x60 x61 x62 x63:Int) (x64:Bool),v58=.agg ⟨(L3 x59 x60 x61 x62 x63 x64)⟩/\Fn Pz 70 #[vI 2,vI 1,vI 2,vI 1,vI 4] h65 (fun v66 h73=>∃(x67 x68 x69 x70 x71:Int) (x72:Bool),v66=.agg ⟨(L3 x67 x68 x69 x70 x71 x72)⟩/\Fn Pz 70 #[vI 3,vI 2,vI 1,vI 2,vI 5] h73 (fun v74 h81=>∃(x75 x76 x77 x78 x79:Int) (x80:Bool),v74=.agg ⟨(L3 x75 x76 x77 x78 x79 x80)⟩/\Fn Pz 70 #[vI 4,vI 2,vI 1,vI 3,vI 5] h81 (fun v82 h89=>∃(x83 x84 x85 x86 x87:Int) (x88:Bool),v82=.agg ⟨(L3 x83 x84 x85 x86 x87 x88)⟩/\Wn h89 [vI x43,vI x44,vI x45,vI x46,vI x47,.bool x48,vI x51,vI x52,vI x53,vI x54,vI x55,.bool x56,vI x59,vI x60,vI x61,vI x62,vI x63,.bool x64,vI x67,vI x68,vI x69,vI x70,vI x71,.bool x72,vI x75,vI x76,vI x77,vI x78,vI x79,.bool x80,vI x83,vI x84,vI x85,vI x86,vI x87,.bool x88] 55 fun h90=>Wp h90 (aS h3 6) 1 [.slice (some (aS h89 0)) 6 6] fun h91=>V34a h91 h3 h R))))))) (V34a h39 h3 h R)))))
theorem vc34 (p0:Bool) (H:@W34 h R p0):Fn Pz 34 #[.bool p0] h R:=fnJ (A:=.z) H
def W70 (p0 p1 p2 p3 p4:Int):Prop:=
 Wn h [vI 0,vI 0,vI 0,vI 0,vI 0,.bool false] 55 fun h1=>
 Wp h1 (aS h 0) 6 [vI p0,vI p1,vI p2,vI p3,vI p4,.bool false] fun h2=>
 ∃x3 x4 x5 x6 x7 x8,aL3 h2 (aS h 0) x3 x4 x5 x6 x7 x8 /\
 R (.agg ⟨(L3 x3 x4 x5 x6 x7 x8)⟩) h2
theorem vc70 (p0 p1 p2 p3 p4:Int) (H:@W70 h R p0 p1 p2 p3 p4):Fn Pz 70 #[vI p0,vI p1,vI p2,vI p3,vI p4] h R:=fnJ (A:=.z) H
def W11 (pa:ByteArray) (pb pc:Sl) (pd pe pf:Int) (pg ph:Sl):Prop:=
 Wn h (L0 pa pb pc pd pe pf pg ph) 27 fun h9=>
 ∃x10 x11 x12 x13 x14 x15 x16 x17,aL0 h9 (aS h 0) x10 x11 x12 x13 x14 x15 x16 x17 /\
 Fn Pz 35 #[.agg ⟨(L0 x10 x11 x12 x13 x14 x15 x16 x17)⟩] h9
 (fun v18 h20=>∃x19,iB v18 x19 /\
 sB x19
 (∃x21,rI h20 (aS h 3) x21 /\
 R (.bool (decide (x21<=25))) h20)
 (R (.bool false) h20))
theorem vc11 (pa:ByteArray) (pb pc:Sl) (pd pe pf:Int) (pg ph:Sl) (H:@W11 h R pa pb pc pd pe pf pg ph):Fn Pz 11 #[.agg ⟨(L0 pa pb pc pd pe pf pg ph)⟩] h R:=fnJ (A:=.z) H
def W35 (pa:ByteArray) (pb pc:Sl) (pd pe pf:Int) (pg ph:Sl):Prop:=
 Wn h (L0 pa pb pc pd pe pf pg ph) 27 fun h9=>
 ∃x10,rS h9 (aS h 6) x10 /\
 sB (decide ((x10.n:Int)<=50))
 (∃x11,rS h9 (aS h 1) x11 /\
 sB (decide ((x11.n:Int)<=6))
 (∃x12,rS h9 (aS h 2) x12 /\
 sB (decide ((x12.n:Int)<=40))
 (∃x13,rS h9 (aS h 7) x13 /\
 R (.bool (decide ((x13.n:Int)<=50))) h9)
 (R (.bool false) h9))
 (R (.bool false) h9))
 (R (.bool false) h9)
theorem vc35 (pa:ByteArray) (pb pc:Sl) (pd pe pf:Int) (pg ph:Sl) (H:@W35 h R pa pb pc pd pe pf pg ph):Fn Pz 35 #[.agg ⟨(L0 pa pb pc pd pe pf pg ph)⟩] h R:=fnJ (A:=.z) H
def W21 (pa:ByteArray) (pb pc:Sl) (pd pe pf:Int) (pg ph:Sl) (p1:Int):Prop:=
 Wn h (L0 pa pb pc pd pe pf pg ph) 27 fun h9=>
 ∃x10 x11 x12 x13 x14 x15 x16 x17,aL0 h9 (aS h 0) x10 x11 x12 x13 x14 x15 x16 x17 /\
 Fn Pz 11 #[.agg ⟨(L0 x10 x11 x12 x13 x14 x15 x16 x17)⟩] h9
 (fun v18 h20=>∃x19,iB v18 x19 /\
 sB x19
 (∃x21 x22 x23 x24 x25 x26 x27 x28,aL0 h20 (aS h 0) x21 x22 x23 x24 x25 x26 x27 x28 /\
 Fn Pz 49 #[.agg ⟨(L0 x21 x22 x23 x24 x25 x26 x27 x28)⟩,vI p1] h20
 (fun v29 h31=>∃x30,iB v29 x30 /\
 R (.bool x30) h31))
 (R (.bool false) h20))
theorem vc21 (pa:ByteArray) (pb pc:Sl) (pd pe pf:Int) (pg ph:Sl) (p1:Int) (H:@W21 h R pa pb pc pd pe pf pg ph p1):Fn Pz 21 #[.agg ⟨(L0 pa pb pc pd pe pf pg ph)⟩,vI p1] h R:=fnJ (A:=.z) H
def W31 (pa:ByteArray) (pb pc:Sl) (pd pe pf:Int) (pg ph:Sl):Prop:=
 Wn h (L0 pa pb pc pd pe pf pg ph) 27 fun h9=>
 ∃x10 x11 x12 x13 x14 x15 x16 x17,aL0 h9 (aS h 0) x10 x11 x12 x13 x14 x15 x16 x17 /\
 Fn Pz 64 #[.agg ⟨(L0 x10 x11 x12 x13 x14 x15 x16 x17)⟩] h9
 (fun v18 h20=>∃x19,iB v18 x19 /\
 sB x19
 (∃x21 x22 x23 x24 x25 x26 x27 x28,aL0 h20 (aS h 0) x21 x22 x23 x24 x25 x26 x27 x28 /\
 Fn Pz 65 #[.agg ⟨(L0 x21 x22 x23 x24 x25 x26 x27 x28)⟩] h20
 (fun v29 h31=>∃x30,iB v29 x30 /\
 sB x30
 (∃x32 x33 x34 x35 x36 x37 x38 x39,aL0 h31 (aS h 0) x32 x33 x34 x35 x36 x37 x38 x39 /\
 Fn Pz 66 #[.agg ⟨(L0 x32 x33 x34 x35 x36 x37 x38 x39)⟩] h31
 (fun v40 h42=>∃x41,iB v40 x41 /\
 sB x41
 (∃x43 x44 x45 x46 x47 x48 x49 x50,aL0 h42 (aS h 0) x43 x44 x45 x46 x47 x48 x49 x50 /\
 Fn Pz 67 #[.agg ⟨(L0 x43 x44 x45 x46 x47 x48 x49 x50)⟩] h42
 (fun v51 h53=>∃x52,iB v51 x52 /\
 sB x52
 (∃x54 x55 x56 x57 x58 x59 x60 x61,aL0 h53 (aS h 0) x54 x55 x56 x57 x58 x59 x60 x61 /\
 Fn Pz 68 #[.agg ⟨(L0 x54 x55 x56 x57 x58 x59 x60 x61)⟩] h53
 (fun v62 h64=>∃x63,iB v62 x63 /\
 R (.bool x63) h64))
 (R (.bool false) h53)))
 (R (.bool false) h42)))
 (R (.bool false) h31)))
 (R (.bool false) h20))
theorem vc31 (pa:ByteArray) (pb pc:Sl) (pd pe pf:Int) (pg ph:Sl) (H:@W31 h R pa pb pc pd pe pf pg ph):Fn Pz 31 #[.agg ⟨(L0 pa pb pc pd pe pf pg ph)⟩] h R:=fnJ (A:=.z) H
def W49 (pa:ByteArray) (pb pc:Sl) (pd pe pf:Int) (pg ph:Sl) (p1:Int):Prop:=
 Wn h (L0 pa pb pc pd pe pf pg ph) 27 fun h9=>
 ∃x10 x11 x12 x13 x14 x15 x16 x17,aL0 h9 (aS h 0) x10 x11 x12 x13 x14 x15 x16 x17 /\
 Fn Pz 31 #[.agg ⟨(L0 x10 x11 x12 x13 x14 x15 x16 x17)⟩] h9
 (fun v18 h20=>∃x19,iB v18 x19 /\
 sB x19
 (sB (decide (p1>=0))
 (∃x21,rS h20 (aS h 1) x21 /\
 R (.bool (decide (p1<(x21.n:Int)))) h20)
 (R (.bool false) h20))
 (R (.bool false) h20))
theorem vc49 (pa:ByteArray) (pb pc:Sl) (pd pe pf:Int) (pg ph:Sl) (p1:Int) (H:@W49 h R pa pb pc pd pe pf pg ph p1):Fn Pz 49 #[.agg ⟨(L0 pa pb pc pd pe pf pg ph)⟩,vI p1] h R:=fnJ (A:=.z) H
def W64 (pa:ByteArray) (pb pc:Sl) (pd pe pf:Int) (pg ph:Sl):Prop:=
 Wn h (L0 pa pb pc pd pe pf pg ph) 27 fun h9=>
 QI 0 h9 fun I10 i_13 h14 m12=>
 ∃x15,rS h14 (aS h 1) x15 /\
 sB (decide (i_13<(x15.n:Int)))
 (∃x16,rS h14 (aS h 1) x16 /\
 NB x16.a fun b17 o18=>Ib i_13 x16.n /\
 ∃x19,rT h14 ⟨b17,o18+i_13.toNat*1,none⟩ x19 /\
 Fn Pz 111 #[.string x19] h14
 (fun v20 h22=>∃x21,iB v20 x21 /\
 sB (!x21)
 (R (.bool false) h22)
 (∃x23,rS h22 (aS h 1) x23 /\
 ∃x24,rS h22 (aS h 1) x24 /\
 NB x24.a fun b25 o26=>Ib i_13 x24.n /\
 ∃x27,rT h22 ⟨b25,o26+i_13.toNat*1,none⟩ x27 /\
 Fn Pz 112 #[vS x23,.string x27] h22
 (fun v28 h30=>∃x29,iI v28 x29 /\
 Sm [⟨b17,o18+i_13.toNat*1,none⟩,(aS h 1)] h22 h30 /\
 sB (decide (x29<i_13))
 (R (.bool false) h30)
 (∃m31,m31<m12/\I10 (wrap .i64 (i_13+1)) h30 m31)))))
 (∃x32,rT h14 (aS h 0) x32 /\
 Fn Pz 111 #[.string x32] h14
 (fun v33 h35=>∃x34,iB v33 x34 /\
 sB x34
 (∃x36,rS h35 (aS h 1) x36 /\
 sB (decide ((x36.n:Int)>=1))
 (∃x37,rS h35 (aS h 1) x37 /\
 sB (decide ((x37.n:Int)<=6))
 (∃x38,rS h35 (aS h 2) x38 /\
 Fn Pz 113 #[vS x38] h35
 (fun v39 h41=>∃x40,iB v39 x40 /\
 R (.bool x40) h41))
 (R (.bool false) h35))
 (R (.bool false) h35))
 (R (.bool false) h35)))
theorem vc64 (pa:ByteArray) (pb pc:Sl) (pd pe pf:Int) (pg ph:Sl) (H:@W64 h R pa pb pc pd pe pf pg ph):Fn Pz 64 #[.agg ⟨(L0 pa pb pc pd pe pf pg ph)⟩] h R:=fnJ (A:=(.s .z (.s (AI 3) .z))) H
def W65 (pa:ByteArray) (pb pc:Sl) (pd pe pf:Int) (pg ph:Sl):Prop:=
 Wn h (L0 pa pb pc pd pe pf pg ph) 27 fun h9=>
 QI 0 h9 fun I10 i_13 h14 m12=>
 ∃x15,rS h14 (aS h 6) x15 /\
 sB (decide (i_13<(x15.n:Int)))
 (∃x16,rS h14 (aS h 6) x16 /\
 NB x16.a fun b17 o18=>Ib i_13 x16.n /\
 ∃x19 x20 x21 x22 x23 x24,aL3 h14 ⟨b17,o18+i_13.toNat*6,none⟩ x19 x20 x21 x22 x23 x24 /\
 Wn h14 [vI 0,vI 0,vI 0,vI 0,vI 0,.bool false] 55 fun h25=>
 Wp h25 (aS h14 0) 6 (L3 x19 x20 x21 x22 x23 x24) fun h26=>
 ∃x27 x28 x29 x30 x31 x32 x33 x34,aL0 h26 (aS h 0) x27 x28 x29 x30 x31 x32 x33 x34 /\
 ∃x35,rI h26 (aS h14 0) x35 /\
 Fn Pz 114 #[.agg ⟨(L0 x27 x28 x29 x30 x31 x32 x33 x34)⟩,vI x35] h26
 (fun v36 h38=>∃x37,iB v36 x37 /\
 sB (!x37)
 (R (.bool false) h38)
 (∃x39 x40 x41 x42 x43 x44 x45 x46,aL0 h38 (aS h 0) x39 x40 x41 x42 x43 x44 x45 x46 /\
 ∃x47,rI h38 (aS h14 4) x47 /\
 Fn Pz 114 #[.agg ⟨(L0 x39 x40 x41 x42 x43 x44 x45 x46)⟩,vI x47] h38
 (fun v48 h50=>∃x49,iB v48 x49 /\
 sB (!x49)
 (R (.bool false) h50)
 (∃x51,rI h50 (aS h14 1) x51 /\
 sB (decide (x51<0))
 (R (.bool false) h50)
 (∃x52,rI h50 (aS h14 1) x52 /\
 ∃x53,rS h50 (aS h 1) x53 /\
 sB (decide (x52>=(x53.n:Int)))
 (R (.bool false) h50)
 (∃x54,rI h50 (aS h14 (1+1)) x54 /\
 sB (decide (x54<0))
 (R (.bool false) h50)
 (∃x55,rI h50 (aS h14 (1+1)) x55 /\
 ∃x56,rS h50 (aS h 1) x56 /\
 sB (decide (x55>=(x56.n:Int)))
 (R (.bool false) h50)
 (∃x57,rI h50 (aS h14 1) x57 /\
 ∃x58,rI h50 (aS h14 (1+1)) x58 /\
 sB (x57==x58)
 (R (.bool false) h50)
 (∃x59,rI h50 (aS h14 (1+2)) x59 /\
 sB (decide (x59<0))
 (R (.bool false) h50)
 (∃x60,rI h50 (aS h14 (1+2)) x60 /\
 ∃x61,rS h50 (aS h 2) x61 /\
 sB (decide (x60>=(x61.n:Int)))
 (R (.bool false) h50)
 (∃m62,m62<m12/\I10 (wrap .i64 (i_13+1)) h50 m62))))))))))))
 (∃x63,rI h14 (aS h 3) x63 /\
 sB (decide (x63>=1))
 (∃x64,rI h14 (aS h 3) x64 /\
 sB (decide (x64<=200))
 (∃x65 x66 x67 x68 x69 x70 x71 x72,aL0 h14 (aS h 0) x65 x66 x67 x68 x69 x70 x71 x72 /\
 ∃x73,rI h14 (aS h 4) x73 /\
 Fn Pz 114 #[.agg ⟨(L0 x65 x66 x67 x68 x69 x70 x71 x72)⟩,vI x73] h14
 (fun v74 h76=>∃x75,iB v74 x75 /\
 sB x75
 (∃x77 x78 x79 x80 x81 x82 x83 x84,aL0 h76 (aS h 0) x77 x78 x79 x80 x81 x82 x83 x84 /\
 ∃x85,rI h76 (aS h 5) x85 /\
 Fn Pz 114 #[.agg ⟨(L0 x77 x78 x79 x80 x81 x82 x83 x84)⟩,vI x85] h76
 (fun v86 h88=>∃x87,iB v86 x87 /\
 sB x87
 (∃x89,rS h88 (aS h 6) x89 /\
 R (.bool (decide ((x89.n:Int)<=400))) h88)
 (R (.bool false) h88)))
 (R (.bool false) h76)))
 (R (.bool false) h14))
 (R (.bool false) h14))
theorem vc65 (pa:ByteArray) (pb pc:Sl) (pd pe pf:Int) (pg ph:Sl) (H:@W65 h R pa pb pc pd pe pf pg ph):Fn Pz 65 #[.agg ⟨(L0 pa pb pc pd pe pf pg ph)⟩] h R:=fnJ (A:=(.s .z (.s (AI 3) .z))) H
def V66b (h46 h14 h34:Heap) (R:Value->Heap->Prop) (m32:Nat) (I30:Int->Heap->Nat->Prop) (k_33:Int):Prop:=
 ∃x58,rB h46 (aS h14 5) x58/\sB x58 (∃x59,rI h46 (aS h34 4) x59/\∃x60,rI h46 (aS h14 0) x60/\sB (x59==x60) (∃x61,rI h46 (aS h34 1) x61/\∃x62,rI h46 (aS h14 1) x62/\sB (x61 != x62) (R (.bool false) h46) (∃x63,rI h46 (aS h34 (1+2)) x63/\∃x64,rI h46 (aS h14 (1+2)) x64/\sB (x63 != x64) (R (.bool false) h46) (∃m65,m65<m32/\I30 (wrap .i64 (k_33+1)) h46 m65))) (∃m66,m66<m32/\I30 (wrap .i64 (k_33+1)) h46 m66)) (∃m67,m67<m32/\I30 (wrap .i64 (k_33+1)) h46 m67)
def V66a (h26 h:Heap) (i_13:Int) (h14:Heap) (R:Value->Heap->Prop) (m12:Nat) (I10:Int->Heap->Nat->Prop):Prop:=
 QI 0 h26 fun I30 k_33 h34 m32=>∃x35,rS h34 (aS h 6) x35/\sB (decide (k_33<(x35.n:Int))) (∃x36,rS h34 (aS h 6) x36/\NB x36.a fun b37 o38=>Ib k_33 x36.n/\∃x39 x40 x41 x42 x43 x44,aL3 h34 ⟨b37,o38+k_33.toNat*6,none⟩ x39 x40 x41 x42 x43 x44/\Wn h34 [vI 0,vI 0,vI 0,vI 0,vI 0,.bool false] 55 fun h45=>Wp h45 (aS h34 0) 6 (L3 x39 x40 x41 x42 x43 x44) fun h46=>sB (k_33 != i_13) (∃x47,rI h46 (aS h14 0) x47/\∃x48,rI h46 (aS h34 0) x48/\sB (x47==x48) (∃x49 x50 x51,aL2 h46 (aS h14 1) x49 x50 x51/\∃x52 x53 x54,aL2 h46 (aS h34 1) x52 x53 x54/\sB ((x49==x52)&&((x50==x53)&&((x51==x54)&&true))) (R (.bool false) h46) (∃x55,rI h46 (aS h14 1) x55/\∃x56,rI h46 (aS h34 1) x56/\sB (x55 != x56) (R (.bool false) h46) (∃x57,rB h46 (aS h14 5) x57/\sB x57 (R (.bool false) h46) (V66b h46 h14 h34 R m32 I30 k_33)))) (V66b h46 h14 h34 R m32 I30 k_33)) (V66b h46 h14 h34 R m32 I30 k_33)) (∃m88,m88<m12/\I10 (wrap .i64 (i_13+1)) h34 m88)
def W66 (pa:ByteArray) (pb pc:Sl) (pd pe pf:Int) (pg ph:Sl):Prop:=
 Wn h (L0 pa pb pc pd pe pf pg ph) 27 fun h9=>QI 0 h9 fun I10 i_13 h14 m12=>∃x15,rS h14 (aS h 6) x15/\sB (decide (i_13<(x15.n:Int))) (∃x16,rS h14 (aS h 6) x16/\NB x16.a fun b17 o18=>Ib i_13 x16.n/\∃x19 x20 x21 x22 x23 x24,aL3 h14 ⟨b17,o18+i_13.toNat*6,none⟩ x19 x20 x21 x22 x23 x24/\Wn h14 [vI 0,vI 0,vI 0,vI 0,vI 0,.bool false] 55 fun h25=>Wp h25 (aS h14 0) 6 (L3 x19 x20 x21 x22 x23 x24) fun h26=>∃x27,rB h26 (aS h14 5) x27/\sB x27 (∃x28,rI h26 (aS h14 0) x28/\∃x29,rI h26 (aS h 4) x29/\sB (x28==x29) (R (.bool false) h26) (V66a h26 h i_13 h14 R m12 I10)) (V66a h26 h i_13 h14 R m12 I10)) (R (.bool true) h14)
theorem vc66 (pa:ByteArray) (pb pc:Sl) (pd pe pf:Int) (pg ph:Sl) (H:@W66 h R pa pb pc pd pe pf pg ph):Fn Pz 66 #[.agg ⟨(L0 pa pb pc pd pe pf pg ph)⟩] h R:=fnJ (A:=(.s .z (.s (.s .z (.b (.l [(3,.one (.int .i64))] (.s .z (.s (.b (.s .z (.s .z (AI 5)))) .z))))) .z))) H
def W67 (pa:ByteArray) (pb pc:Sl) (pd pe pf:Int) (pg ph:Sl):Prop:=
 Wn h (L0 pa pb pc pd pe pf pg ph) 27 fun h9=>
 ∃x10,rI h9 (aS h 3) x10 /\
 Mk x10 x10 1/\Wn h9 (madeL Pz 4 (x10.toNat)) 4 fun h11=>
 ∃x12,rI h11 (aS h 4) x12 /\
 (0<=(x12:Int)/\(x12:Int)<((x10.toNat):Nat)) /\
 Wp h11 (aS h9 (0+x12.toNat*1)) 1 [.bool true] fun h13=>
 QI 0 h13 fun I14 n_17 h18 m16=>
 ∃x19,rI h18 (aS h 3) x19 /\
 sB (decide (n_17<x19))
 (QI 0 h18 fun I20 i_23 h24 m22=>
 ∃x25,rS h24 (aS h 6) x25 /\
 sB (decide (i_23<(x25.n:Int)))
 (∃x26,rS h24 (aS h 6) x26 /\
 NB x26.a fun b27 o28=>Ib i_23 x26.n /\
 ∃x29,rI h24 ⟨b27,o28+i_23.toNat*6+4,none⟩ x29 /\
 ∃x30,rS h24 (aS h 6) x30 /\
 NB x30.a fun b31 o32=>Ib i_23 x30.n /\
 ∃x33,rI h24 ⟨b31,o32+i_23.toNat*6+4,none⟩ x33 /\
 (0<=(x33:Int)/\(x33:Int)<((x10.toNat):Nat)) /\
 ∃x34,rB h24 (aS h9 (0+x33.toNat*1)) x34 /\
 sB x34
 ((0<=(x29:Int)/\(x29:Int)<((x10.toNat):Nat)) /\
 Wp h24 (aS h9 (0+x29.toNat*1)) 1 [.bool true] fun h35=>
 ∃m36,m36<m22/\I20 (wrap .i64 (i_23+1)) h35 m36)
 (∃x37,rS h24 (aS h 6) x37 /\
 NB x37.a fun b38 o39=>Ib i_23 x37.n /\
 ∃x40,rI h24 ⟨b38,o39+i_23.toNat*6,none⟩ x40 /\
 (0<=(x40:Int)/\(x40:Int)<((x10.toNat):Nat)) /\
 ∃x41,rB h24 (aS h9 (0+x40.toNat*1)) x41 /\
 (0<=(x29:Int)/\(x29:Int)<((x10.toNat):Nat)) /\
 Wp h24 (aS h9 (0+x29.toNat*1)) 1 [.bool x41] fun h42=>
 ∃m43,m43<m22/\I20 (wrap .i64 (i_23+1)) h42 m43))
 (∃m44,m44<m16/\I14 (wrap .i64 (n_17+1)) h24 m44))
 (∃x45 x46 x47 x48 x49 x50 x51 x52,aL0 h18 (aS h 0) x45 x46 x47 x48 x49 x50 x51 x52 /\
 Fn Pz 115 #[.agg ⟨(L0 x45 x46 x47 x48 x49 x50 x51 x52)⟩] h18
 (fun v53 h55=>∃x54,iS v53 x54 /\
 QI 0 h55 fun I56 s_59 h60 m58=>
 ∃x61,rI h60 (aS h 3) x61 /\
 sB (decide (s_59<x61))
 ((0<=(s_59:Int)/\(s_59:Int)<((x10.toNat):Nat)) /\
 ∃x62,rB h60 (aS h9 (0+s_59.toNat*1)) x62 /\
 sB (!x62)
 (R (.bool false) h60)
 (NB x54.a fun b63 o64=>Ib s_59 x54.n /\
 ∃x65,rI h60 ⟨b63,o64+s_59.toNat*1,none⟩ x65 /\
 sB (decide (x65<0))
 (R (.bool false) h60)
 (∃m66,m66<m58/\I56 (wrap .i64 (s_59+1)) h60 m66)))
 (∃x67 x68 x69 x70 x71 x72 x73 x74,aL0 h60 (aS h 0) x67 x68 x69 x70 x71 x72 x73 x74 /\
 ∃x75,rI h60 (aS h 5) x75 /\
 Fn Pz 116 #[.agg ⟨(L0 x67 x68 x69 x70 x71 x72 x73 x74)⟩,vI x75] h60
 (fun v76 h78=>∃x77,iS v76 x77 /\
 R (.bool ((x77.n:Int)==0)) h78))))
theorem vc67 (pa:ByteArray) (pb pc:Sl) (pd pe pf:Int) (pg ph:Sl) (H:@W67 h R pa pb pc pd pe pf pg ph):Fn Pz 67 #[.agg ⟨(L0 pa pb pc pd pe pf pg ph)⟩] h R:=fnJ (A:=(.s .z (.s .z (.s .z (.s (.s .z (.b (.l [(4,.one (.int .i64))] (.s .z (.s (.b (AI 5)) .z))))) (.s .z (.s (AI 7) .z))))))) H
def V68a (h35 h14:Heap) (R:Value->Heap->Prop) (h:Heap) (m12:Nat) (I10:Int->Heap->Nat->Prop) (i_13:Int):Prop:=
 ∃x41,rI h35 (aS h14 1) x41/\sB (decide (x41<1)) (R (.bool false) h35) (∃x42,rI h35 (aS h14 1) x42/\sB (decide (x42>1000)) (R (.bool false) h35) (∃x43,rI h35 (aS h14 2) x43/\sB (decide (x43<0)) (R (.bool false) h35) (∃x44,rI h35 (aS h14 2) x44/\∃x45,rS h35 (aS h 6) x45/\sB (decide (x44>=(x45.n:Int))) (R (.bool false) h35) (∃x46,rS h35 (aS h 6) x46/\∃x47,rI h35 (aS h14 2) x47/\NB x46.a fun b48 o49=>Ib x47 x46.n/\∃x50,rI h35 ⟨b48,o49+x47.toNat*6,none⟩ x50/\∃x51,rI h35 (aS h14 0) x51/\sB (x50 != x51) (R (.bool false) h35) (∃x52,rS h35 (aS h 6) x52/\∃x53,rI h35 (aS h14 2) x53/\NB x52.a fun b54 o55=>Ib x53 x52.n/\∃x56,rB h35 ⟨b54,o55+x53.toNat*6+5,none⟩ x56/\sB x56 (R (.bool false) h35) (∃m57,m57<m12/\I10 (wrap .i64 (i_13+1)) h35 m57))))))
def W68 (pa:ByteArray) (pb pc:Sl) (pd pe pf:Int) (pg ph:Sl):Prop:=
 Wn h (L0 pa pb pc pd pe pf pg ph) 27 fun h9=>QI 0 h9 fun I10 i_13 h14 m12=>∃x15,rS h14 (aS h 7) x15/\sB (decide (i_13<(x15.n:Int))) (∃x16,rS h14 (aS h 7) x16/\NB x16.a fun b17 o18=>Ib i_13 x16.n/\∃x19 x20 x21,aL2 h14 ⟨b17,o18+i_13.toNat*3,none⟩ x19 x20 x21/\Wn h14 [vI 0,vI 0,vI 0] 63 fun h22=>Wp h22 (aS h14 0) 3 (L2 x19 x20 x21) fun h23=>∃x24 x25 x26 x27 x28 x29 x30 x31,aL0 h23 (aS h 0) x24 x25 x26 x27 x28 x29 x30 x31/\∃x32,rI h23 (aS h14 0) x32/\Fn Pz 114 #[.agg ⟨(L0 x24 x25 x26 x27 x28 x29 x30 x31)⟩,vI x32] h23 (fun v33 h35=>∃x34,iB v33 x34/\sB (!x34) (R (.bool false) h35) (sB (decide (i_13>0)) (∃x36,rI h35 (aS h14 0) x36/\∃x37,rS h35 (aS h 7) x37/\NB x37.a fun b38 o39=>(0<=((wrap .i64 (i_13-1)):Int)/\((wrap .i64 (i_13-1)):Int)<(x37.n:Nat))/\∃x40,rI h35 ⟨b38,o39+Int.toNat (wrap .i64 (i_13-1))*3,none⟩ x40/\sB (decide (x36<=x40)) (R (.bool false) h35) (V68a h35 h14 R h m12 I10 i_13)) (V68a h35 h14 R h m12 I10 i_13)))) (R (.bool true) h14)
theorem vc68 (pa:ByteArray) (pb pc:Sl) (pd pe pf:Int) (pg ph:Sl) (H:@W68 h R pa pb pc pd pe pf pg ph):Fn Pz 68 #[.agg ⟨(L0 pa pb pc pd pe pf pg ph)⟩] h R:=fnJ (A:=(.s .z (.s (AI 3) .z))) H
def W111 (p0:ByteArray):Prop:=
 Fn Pz 152 #[.string p0] h
 (fun v1 h3=>∃x2,iB v1 x2 /\
 sB x2
 (Fn Pz 154 #[] h3
 (fun v4 h6=>∃x5,iS v4 x5 /\
 Fn Pz 153 #[vS x5,.string p0] h6
 (fun v7 h9=>∃x8,iB v7 x8 /\
 R (.bool (!x8)) h9)))
 (R (.bool false) h3))
theorem vc111 (p0:ByteArray) (H:@W111 h R p0):Fn Pz 111 #[.string p0] h R:=fnJ (A:=.z) H
def W112 (p0:Sl) (p1:ByteArray):Prop:=
 QI 0 h fun I1 i_4 h5 m3=>
 sB (decide (i_4<(p0.n:Int)))
 (NB p0.a fun b6 o7=>Ib i_4 p0.n /\
 ∃x8,rT h5 ⟨b6,o7+i_4.toNat*1,none⟩ x8 /\
 sB ((ByteArray.toList x8)==(ByteArray.toList p1))
 (R (vI i_4) h5)
 (∃m9,m9<m3/\I1 (wrap .i64 (i_4+1)) h5 m9))
 (R (vI (-1)) h5)
theorem vc112 (p0:Sl) (p1:ByteArray) (H:@W112 h R p0 p1):Fn Pz 112 #[vS p0,.string p1] h R:=fnJ (A:=(.s .z (.s (AI 5) .z))) H
def W113 (p0:Sl):Prop:=
 sB (decide ((p0.n:Int)>40))
 (R (.bool false) h)
 (Fn Pz 155 #[vS p0] h
 (fun v1 h3=>∃x2,iI v1 x2 /\
 sB (decide (x2>24))
 (R (.bool false) h3)
 (QII 0 0 h3 fun I4 first_7 i_8 h9 m6=>
 sB (decide (i_8<(p0.n:Int)))
 (NB p0.a fun b10 o11=>Ib i_8 p0.n /\
 ∃x12 x13 x14 x15 x16,aL6 h9 ⟨b10,o11+i_8.toNat*5,none⟩ x12 x13 x14 x15 x16 /\
 Wn h9 [.string ⟨#[]⟩,vN,vI 0,vN,vN] 136 fun h17=>
 Wp h17 (aS h9 0) 5 (L6 x12 x13 x14 x15 x16) fun h18=>
 QI 0 h18 fun I19 k_22 h23 m21=>
 sB (decide (k_22<i_8))
 (NB p0.a fun b24 o25=>Ib k_22 p0.n /\
 ∃x26,rT h23 ⟨b24,o25+k_22.toNat*5,none⟩ x26 /\
 ∃x27,rT h23 (aS h9 0) x27 /\
 sB ((ByteArray.toList x26)==(ByteArray.toList x27))
 (R (.bool false) h23)
 (∃m28,m28<m21/\I19 (wrap .i64 (k_22+1)) h23 m28))
 (QI 0 h23 fun I29 k_32 h33 m31=>
 ∃x34,rS h33 (aS h9 1) x34 /\
 sB (decide (k_32<(x34.n:Int)))
 (∃x35,rS h33 (aS h9 1) x35 /\
 NB x35.a fun b36 o37=>Ib k_32 x35.n /\
 ∃x38 x39 x40,aL2 h33 ⟨b36,o37+k_32.toNat*4+1,none⟩ x38 x39 x40 /\
 Fn Pz 156 #[.agg ⟨(L2 x38 x39 x40)⟩] h33
 (fun v41 h43=>∃x42,iB v41 x42 /\
 sB (!x42)
 (R (.bool false) h43)
 (∃x44,rS h43 (aS h9 1) x44 /\
 NB x44.a fun b45 o46=>Ib k_32 x44.n /\
 ∃x47,rT h43 ⟨b45,o46+k_32.toNat*4,none⟩ x47 /\
 Fn Pz 111 #[.string x47] h43
 (fun v48 h50=>∃x49,iB v48 x49 /\
 sB (!x49)
 (R (.bool false) h50)
 (QI 0 h50 fun I51 j_54 h55 m53=>
 sB (decide (j_54<k_32))
 (∃x56,rS h55 (aS h9 1) x56 /\
 NB x56.a fun b57 o58=>Ib j_54 x56.n /\
 ∃x59,rT h55 ⟨b57,o58+j_54.toNat*4,none⟩ x59 /\
 ∃x60,rS h55 (aS h9 1) x60 /\
 NB x60.a fun b61 o62=>Ib k_32 x60.n /\
 ∃x63,rT h55 ⟨b61,o62+k_32.toNat*4,none⟩ x63 /\
 sB ((ByteArray.toList x59)==(ByteArray.toList x63))
 (R (.bool false) h55)
 (∃m64,m64<m53/\I51 (wrap .i64 (j_54+1)) h55 m64))
 (∃m65,m65<m31/\I29 (wrap .i64 (k_32+1)) h55 m65))))))
 (∃x66,rT h33 (aS h9 0) x66 /\
 Fn Pz 157 #[.string x66] h33
 (fun v67 h69=>∃x68,iB v67 x68 /\
 sB (!x68)
 (R (.bool false) h69)
 (∃x70,rS h69 (aS h9 1) x70 /\
 sB (decide ((x70.n:Int)>4))
 (R (.bool false) h69)
 (∃x71,rI h69 (aS h9 2) x71 /\
 sB (x71 != first_7)
 (R (.bool false) h69)
 (∃(x72 x73:Sl),atC h69 (aS h9 3) [vS x72,vS x73] /\
 Fn Pz 158 #[vS p0,.agg ⟨[vS x72,vS x73]⟩] h69
 (fun v74 h76=>∃x75,iB v74 x75 /\
 sB (!x75)
 (R (.bool false) h76)
 (∃x77,rS h76 (aS h9 1) x77 /\
 ∃m78,m78<m6/\I4 (wrap .i64 (first_7+(x77.n:Int))) (wrap .i64 (i_8+1)) h76 m78)))))))))
 (R (.bool true) h9))))
theorem vc113 (p0:Sl) (H:@W113 h R p0):Fn Pz 113 #[vS p0] h R:=fnJ (A:=(.s .z (.s .z (.s .z (.s (.s .z (.b (.l [(3,.one (.int .i64)),(4,.one (.int .i64))] (.s .z (.s (.b (.s .z (.s (AI 6) (.s (.s .z (.b (.l [(7,.one (.int .i64))] (.s .z (.s (.b (.s .z (AI 8))) .z))))) .z)))) .z))))) .z))))) H
def W114 (pa:ByteArray) (pb pc:Sl) (pd pe pf:Int) (pg ph:Sl) (p1:Int):Prop:=
 Wn h (L0 pa pb pc pd pe pf pg ph) 27 fun h9=>
 sB (decide (p1>=0))
 (∃x10,rI h9 (aS h 3) x10 /\
 R (.bool (decide (p1<x10))) h9)
 (R (.bool false) h9)
theorem vc114 (pa:ByteArray) (pb pc:Sl) (pd pe pf:Int) (pg ph:Sl) (p1:Int) (H:@W114 h R pa pb pc pd pe pf pg ph p1):Fn Pz 114 #[.agg ⟨(L0 pa pb pc pd pe pf pg ph)⟩,vI p1] h R:=fnJ (A:=.z) H
def W115 (pa:ByteArray) (pb pc:Sl) (pd pe pf:Int) (pg ph:Sl):Prop:=
 Wn h (L0 pa pb pc pd pe pf pg ph) 27 fun h9=>
 ∃x10,rI h9 (aS h 3) x10 /\
 Mk x10 x10 8/\Wn h9 (madeL Pz 3 (x10.toNat)) 3 fun h11=>
 QI 0 h11 fun I12 s_15 h16 m14=>
 ∃x17,rI h16 (aS h 3) x17 /\
 sB (decide (s_15<x17))
 ((0<=(s_15:Int)/\(s_15:Int)<((x10.toNat):Nat)) /\
 Wp h16 (aS h9 (0+s_15.toNat*1)) 1 [vI (-1)] fun h18=>
 ∃m19,m19<m14/\I12 (wrap .i64 (s_15+1)) h18 m19)
 (∃x20,rI h16 (aS h 5) x20 /\
 (0<=(x20:Int)/\(x20:Int)<((x10.toNat):Nat)) /\
 Wp h16 (aS h9 (0+x20.toNat*1)) 1 [vI 0] fun h21=>
 QI 0 h21 fun I22 n_25 h26 m24=>
 ∃x27,rI h26 (aS h 3) x27 /\
 sB (decide (n_25<x27))
 (QI 0 h26 fun I28 i_31 h32 m30=>
 ∃x33,rS h32 (aS h 6) x33 /\
 sB (decide (i_31<(x33.n:Int)))
 (∃x34,rS h32 (aS h 6) x34 /\
 NB x34.a fun b35 o36=>Ib i_31 x34.n /\
 ∃x37 x38 x39 x40 x41 x42,aL3 h32 ⟨b35,o36+i_31.toNat*6,none⟩ x37 x38 x39 x40 x41 x42 /\
 Wn h32 [vI 0,vI 0,vI 0,vI 0,vI 0,.bool false] 55 fun h43=>
 Wp h43 (aS h32 0) 6 (L3 x37 x38 x39 x40 x41 x42) fun h44=>
 ∃x45,rI h44 (aS h32 4) x45 /\
 (0<=(x45:Int)/\(x45:Int)<((x10.toNat):Nat)) /\
 ∃x46,rI h44 (aS h9 (0+x45.toNat*1)) x46 /\
 sB (x46==n_25)
 (∃x47,rI h44 (aS h32 0) x47 /\
 (0<=(x47:Int)/\(x47:Int)<((x10.toNat):Nat)) /\
 ∃x48,rI h44 (aS h9 (0+x47.toNat*1)) x48 /\
 sB (decide (x48<0))
 (∃x49,rI h44 (aS h32 0) x49 /\
 (0<=(x49:Int)/\(x49:Int)<((x10.toNat):Nat)) /\
 Wp h44 (aS h9 (0+x49.toNat*1)) 1 [vI (wrap .i64 (n_25+1))] fun h50=>
 ∃m51,m51<m30/\I28 (wrap .i64 (i_31+1)) h50 m51)
 (∃m52,m52<m30/\I28 (wrap .i64 (i_31+1)) h44 m52))
 (∃m53,m53<m30/\I28 (wrap .i64 (i_31+1)) h44 m53))
 (∃m54,m54<m24/\I22 (wrap .i64 (n_25+1)) h32 m54))
 (R (.slice (some (aS h9 0)) (x10.toNat) (x10.toNat)) h26))
theorem vc115 (pa:ByteArray) (pb pc:Sl) (pd pe pf:Int) (pg ph:Sl) (H:@W115 h R pa pb pc pd pe pf pg ph):Fn Pz 115 #[.agg ⟨(L0 pa pb pc pd pe pf pg ph)⟩] h R:=fnJ (A:=(.s .z (.s .z (.s (AI 4) (.s .z (.s (.s .z (.b (.l [(5,.one (.int .i64))] (.s .z (.s (.b (AI 6)) .z))))) .z)))))) H
def V116a (at_25:Int) (out_13:Sl) (h40:Heap) (i_14:Int) (m12:Nat) (I10:Sl->Int->Heap->Nat->Prop):Prop:=
 ((0:Int)<=(0:Int)/\(0:Int)<=(at_25:Int)/\(at_25:Int)<=(out_13.c:Nat))/\((0:Int)<=(at_25:Int)/\(at_25:Int)<=((out_13.n:Nat):Int)/\((out_13.n:Nat):Int)<=(out_13.c:Nat))/\Wn h40 [vI i_14] 3 fun h42=>App Pz 42 42 (.slice (some (aS h40 0)) 1 1) (.slice (subA out_13.a (at_25.toNat) out_13.c 1) (Int.toNat (out_13.n:Nat)-at_25.toNat) (out_13.c-at_25.toNat)) h42 fun s43 h44=>App Pz 42 42 (.slice (subA out_13.a (Int.toNat 0) out_13.c 1) (at_25.toNat-Int.toNat 0) (out_13.c-Int.toNat 0)) (vS s43) h44 fun s45 h46=>∃m47,m47<m12/\I10 s45 (wrap .i64 (i_14+1)) h46 m47
def W116 (pa:ByteArray) (pb pc:Sl) (pd pe pf:Int) (pg ph:Sl) (p1:Int):Prop:=
 Wn h (L0 pa pb pc pd pe pf pg ph) 27 fun h9=>QSI ⟨none,0,0⟩ 0 h9 fun I10 out_13 i_14 h15 m12=>∃x16,rS h15 (aS h 6) x16/\sB (decide (i_14<(x16.n:Int))) (∃x17,rS h15 (aS h 6) x17/\NB x17.a fun b18 o19=>Ib i_14 x17.n/\∃x20,rI h15 ⟨b18,o19+i_14.toNat*6,none⟩ x20/\sB (x20 != p1) (∃m21,m21<m12/\I10 out_13 (wrap .i64 (i_14+1)) h15 m21) (QI 0 h15 fun I22 at_25 h26 m24=>sB (decide (at_25<(out_13.n:Int))) (∃x27 x28 x29 x30 x31 x32 x33 x34,aL0 h26 (aS h 0) x27 x28 x29 x30 x31 x32 x33 x34/\NB out_13.a fun b35 o36=>Ib at_25 out_13.n/\∃x37,rI h26 ⟨b35,o36+at_25.toNat*1,none⟩ x37/\Fn Pz 159 #[.agg ⟨(L0 x27 x28 x29 x30 x31 x32 x33 x34)⟩,vI x37,vI i_14] h26 (fun v38 h40=>∃x39,iB v38 x39/\sB x39 (∃m41,m41<m24/\I22 (wrap .i64 (at_25+1)) h40 m41) (V116a at_25 out_13 h40 i_14 m12 I10))) (V116a at_25 out_13 h26 i_14 m12 I10))) (R (vS out_13) h15)
theorem vc116 (pa:ByteArray) (pb pc:Sl) (pd pe pf:Int) (pg ph:Sl) (p1:Int) (H:@W116 h R pa pb pc pd pe pf pg ph p1):Fn Pz 116 #[.agg ⟨(L0 pa pb pc pd pe pf pg ph)⟩,vI p1] h R:=fnJ (A:=(.s .z (.s .z (.s (.s .z (.b (.l [(5,.one (.slice)),(6,.one (.int .i64))] (.s .z (.s (.b (.s .z (.s .z (.s (.b (.l [(7,.one (.int .i64))] .z)) .z)))) .z))))) .z)))) H
def W152 (p0:ByteArray):Prop:=
 sB ((ByteArray.toList p0)==(ByteArray.toList ⟨#[]⟩))
 (R (.bool false) h)
 ((0<=(0:Int)/\(0:Int)<(ByteArray.size p0:Nat)) /\
 Fn Pz 199 #[.int .u8 (byteAt p0 (Int.toNat 0):Int)] h
 (fun v1 h3=>∃x2,iB v1 x2 /\
 sB (!x2)
 (R (.bool false) h3)
 (sB (decide ((ByteArray.size p0:Int)>16))
 (R (.bool false) h3)
 (QI 0 h3 fun I4 i_7 h8 m6=>
 sB (decide (i_7<(ByteArray.size p0:Int)))
 ((0<=(i_7:Int)/\(i_7:Int)<(ByteArray.size p0:Nat)) /\
 Fn Pz 200 #[.int .u8 (byteAt p0 (i_7.toNat):Int)] h8
 (fun v9 h11=>∃x10,iB v9 x10 /\
 sB (!x10)
 (R (.bool false) h11)
 (∃m12,m12<m6/\I4 (wrap .i64 (i_7+1)) h11 m12)))
 (R (.bool true) h8)))))
theorem vc152 (p0:ByteArray) (H:@W152 h R p0):Fn Pz 152 #[.string p0] h R:=fnJ (A:=(.s .z (.s .z (.s (AI 3) .z)))) H
def W153 (p0:Sl) (p1:ByteArray):Prop:=
 QI 0 h fun I1 i_4 h5 m3=>
 sB (decide (i_4<(p0.n:Int)))
 (NB p0.a fun b6 o7=>Ib i_4 p0.n /\
 ∃x8,rT h5 ⟨b6,o7+i_4.toNat*1,none⟩ x8 /\
 sB ((ByteArray.toList x8)==(ByteArray.toList p1))
 (R (.bool true) h5)
 (∃m9,m9<m3/\I1 (wrap .i64 (i_4+1)) h5 m9))
 (R (.bool false) h5)
theorem vc153 (p0:Sl) (p1:ByteArray) (H:@W153 h R p0 p1):Fn Pz 153 #[vS p0,.string p1] h R:=fnJ (A:=(.s .z (.s (AI 5) .z))) H
def W154 :Prop:=
 Wn h [.string ⟨#[97,103,97,105,110]⟩,.string ⟨#[97,110,100]⟩,.string ⟨#[97,115]⟩,.string ⟨#[97,116]⟩,.string ⟨#[99,97,108,108]⟩,.string ⟨#[99,104,111,105,99,101]⟩,.string ⟨#[101,108,115,101]⟩,.string ⟨#[102,114,111,109]⟩,.string ⟨#[105,102]⟩,.string ⟨#[105,110,116]⟩,.string ⟨#[108,101,110]⟩,.string ⟨#[108,111,111,112]⟩,.string ⟨#[109,101,115,115,97,103,101]⟩,.string ⟨#[111,102]⟩,.string ⟨#[111,102,102,101,114]⟩,.string ⟨#[111,110]⟩,.string ⟨#[111,114]⟩,.string ⟨#[112,97,114]⟩,.string ⟨#[112,108,97,121,115]⟩,.string ⟨#[112,114,111,116,111,99,111,108]⟩,.string ⟨#[115,101,114,118,105,99,101]⟩,.string ⟨#[116,101,120,116]⟩,.string ⟨#[116,105,109,101,115]⟩,.string ⟨#[116,111]⟩,.string ⟨#[118,97,114]⟩,.string ⟨#[119,104,101,114,101]⟩,.string ⟨#[119,104,105,108,101]⟩,.string ⟨#[119,105,116,104,105,110]⟩] 9 fun h1=>
 R (.slice (some (aS h 0)) 28 28) h1
theorem vc154  (H:@W154 h R ):Fn Pz 154 #[] h R:=fnJ (A:=.z) H
def W155 (p0:Sl):Prop:=
 QII 0 0 h fun I1 n_4 i_5 h6 m3=>
 sB (decide (i_5<(p0.n:Int)))
 (NB p0.a fun b7 o8=>Ib i_5 p0.n /\
 ∃x9,rS h6 ⟨b7,o8+i_5.toNat*5+1,none⟩ x9 /\
 ∃m10,m10<m3/\I1 (wrap .i64 (n_4+(x9.n:Int))) (wrap .i64 (i_5+1)) h6 m10)
 (R (vI n_4) h6)
theorem vc155 (p0:Sl) (H:@W155 h R p0):Fn Pz 155 #[vS p0] h R:=fnJ (A:=(.s .z (.s .z (.s (.s .z (.b (.l [(3,.one (.int .i64)),(4,.one (.int .i64))] .z))) .z)))) H
def V156a (h9 h:Heap) (least_7 most_8:Int) (R:Value->Heap->Prop):Prop:=
 ∃x11,rI h9 (aS h 1) x11/\sB (decide (x11>=least_7)) (∃x12,rI h9 (aS h 2) x12/\sB (decide (x12<=most_8)) (∃x13,rI h9 (aS h 1) x13/\∃x14,rI h9 (aS h 2) x14/\R (.bool (decide (x13<=x14))) h9) (R (.bool false) h9)) (R (.bool false) h9)
def W156 (pa pb pc:Int):Prop:=
 Wn h (L2 pa pb pc) 182 fun h4=>∃J5:Int->Int->Heap->Prop,(∃x6,rI h4 (aS h 0) x6/\sB (x6==2) (J5 0 40 h4) (J5 (-1000) 1000 h4))/\∀(_:Env) (least_7 most_8:Int) (h9:Heap),J5 least_7 most_8 h9->(∃x10,rI h9 (aS h 0) x10/\sB (x10==1) (V156a h9 h least_7 most_8 R) (∃x15,rI h9 (aS h 0) x15/\sB (x15==2) (V156a h9 h least_7 most_8 R) (R (.bool false) h9)))
theorem vc156 (pa pb pc:Int) (H:@W156 h R pa pb pc):Fn Pz 156 #[.agg ⟨(L2 pa pb pc)⟩] h R:=fnJ (A:=(.s .z (.s .z (.j [(3,.one (.int .i64)),(4,.one (.int .i64))] .z .z)))) H
def V157a (from_4 i_5:Int) (p0:ByteArray) (h6:Heap) (R:Value->Heap->Prop) (m3:Nat) (I1:Int->Int->Heap->Nat->Prop):Prop:=
 ((0:Int)<=(from_4:Int)/\(from_4:Int)<=(i_5:Int)/\(i_5:Int)<=(ByteArray.size p0:Nat))/\Fn Pz 201 #[.string (ByteArray.extract p0 (from_4.toNat) (i_5.toNat))] h6 (fun v7 h9=>∃x8,iB v7 x8/\sB (!x8) (R (.bool false) h9) (∃m10,m10<m3/\I1 (wrap .i64 (i_5+1)) (wrap .i64 (i_5+1)) h9 m10))
def W157 (p0:ByteArray):Prop:=
 QII 0 0 h fun I1 from_4 i_5 h6 m3=>sB (decide (i_5<=(ByteArray.size p0:Int))) (sB (i_5==(ByteArray.size p0:Int)) (V157a from_4 i_5 p0 h6 R m3 I1) ((0<=(i_5:Int)/\(i_5:Int)<(ByteArray.size p0:Nat))/\sB ((byteAt p0 (i_5.toNat):Int)==46) (V157a from_4 i_5 p0 h6 R m3 I1) (∃m15,m15<m3/\I1 from_4 (wrap .i64 (i_5+1)) h6 m15))) (R (.bool (decide ((ByteArray.size p0:Int)<=50))) h6)
theorem vc157 (p0:ByteArray) (H:@W157 h R p0):Fn Pz 157 #[.string p0] h R:=fnJ (A:=(.s .z (.s .z (.s (.s .z (.b (.l [(3,.one (.int .i64)),(4,.one (.int .i64))] .z))) .z)))) H
def W158 (p0 pa pb:Sl):Prop:=
 Wn h [vS pa,vS pb] 134 fun h3=>
 Fn Pz 155 #[vS p0] h3
 (fun v4 h6=>∃x5,iI v4 x5 /\
 QI 0 h6 fun I7 i_10 h11 m9=>
 ∃x12,rS h11 (aS h 0) x12 /\
 sB (decide (i_10<(x12.n:Int)))
 (∃x13,rS h11 (aS h 0) x13 /\
 NB x13.a fun b14 o15=>Ib i_10 x13.n /\
 ∃x16 x17 x18,aL2 h11 ⟨b14,o15+i_10.toNat*3,none⟩ x16 x17 x18 /\
 Wn h11 [vI 0,vI 0,vI 0] 187 fun h19=>
 Wp h19 (aS h11 0) 3 (L2 x16 x17 x18) fun h20=>
 ∃x21,rI h20 (aS h11 0) x21 /\
 sB (decide (x21<(-1)))
 (R (.bool false) h20)
 (∃x22,rI h20 (aS h11 0) x22 /\
 sB (decide (x22>=x5))
 (R (.bool false) h20)
 (∃x23,rI h20 (aS h11 1) x23 /\
 sB (decide (x23<(-1)))
 (R (.bool false) h20)
 (∃x24,rI h20 (aS h11 1) x24 /\
 sB (decide (x24>=x5))
 (R (.bool false) h20)
 (∃x25,rI h20 (aS h11 2) x25 /\
 sB (decide (x25<(-20000)))
 (R (.bool false) h20)
 (∃x26,rI h20 (aS h11 2) x26 /\
 sB (decide (x26>20000))
 (R (.bool false) h20)
 (∃m27,m27<m9/\I7 (wrap .i64 (i_10+1)) h20 m27)))))))
 (QI 0 h11 fun I28 i_31 h32 m30=>
 ∃x33,rS h32 (aS h 1) x33 /\
 sB (decide (i_31<(x33.n:Int)))
 (∃x34,rS h32 (aS h 1) x34 /\
 NB x34.a fun b35 o36=>Ib i_31 x34.n /\
 Ib 0 2 /\
 ∃x37,rI h32 ⟨b35,o36+i_31.toNat*2+Int.toNat 0*1,none⟩ x37 /\
 Fn Pz 202 #[vS p0,vI x37] h32
 (fun v38 h40=>∃x39,iB v38 x39 /\
 sB (!x39)
 (R (.bool false) h40)
 (∃x41,rS h40 (aS h 1) x41 /\
 NB x41.a fun b42 o43=>Ib i_31 x41.n /\
 Ib 1 2 /\
 ∃x44,rI h40 ⟨b42,o43+i_31.toNat*2+Int.toNat 1*1,none⟩ x44 /\
 Fn Pz 202 #[vS p0,vI x44] h40
 (fun v45 h47=>∃x46,iB v45 x46 /\
 sB (!x46)
 (R (.bool false) h47)
 (∃m48,m48<m30/\I28 (wrap .i64 (i_31+1)) h47 m48)))))
 (∃x49,rS h32 (aS h 0) x49 /\
 sB (decide ((x49.n:Int)<=20))
 (∃x50,rS h32 (aS h 1) x50 /\
 R (.bool (decide ((x50.n:Int)<=20))) h32)
 (R (.bool false) h32))))
theorem vc158 (p0 pa pb:Sl) (H:@W158 h R p0 pa pb):Fn Pz 158 #[vS p0,.agg ⟨[vS pa,vS pb]⟩] h R:=fnJ (A:=(.s .z (.s .z (.s (AI 6) (.s (AI 8) .z))))) H
def V159a (h23 h9:Heap) (x13 x14 x15:Int) (b17 o18:Nat) (p2:Int) (h h22:Heap) (x19 x20 x21:Int) (R:Value->Heap->Prop) (p1:Int):Prop:=
 Wp h23 (aS h9 0) 3 (L2 x13 x14 x15) fun h24=>Sm [⟨b17,o18+p2.toNat*6+1,none⟩,(aS h 6)] h23 h24/\Wp h24 (aS h22 0) 3 (L2 x19 x20 x21) fun h25=>∃x26,rI h25 (aS h9 1) x26/\∃x27,rI h25 (aS h22 1) x27/\sB (x26 != x27) (∃x28,rI h25 (aS h9 1) x28/\∃x29,rI h25 (aS h22 1) x29/\R (.bool (decide (x28<x29))) h25) (∃x30,rI h25 (aS h9 2) x30/\∃x31,rI h25 (aS h22 2) x31/\sB (x30 != x31) (∃x32,rI h25 (aS h9 2) x32/\∃x33,rI h25 (aS h22 2) x33/\R (.bool (decide (x32<x33))) h25) (R (.bool (decide (p1<p2))) h25))
def W159 (pa:ByteArray) (pb pc:Sl) (pd pe pf:Int) (pg ph:Sl) (p1 p2:Int):Prop:=
 Wn h (L0 pa pb pc pd pe pf pg ph) 27 fun h9=>∃x10,rS h9 (aS h 6) x10/\NB x10.a fun b11 o12=>Ib p1 x10.n/\∃x13 x14 x15,aL2 h9 ⟨b11,o12+p1.toNat*6+1,none⟩ x13 x14 x15/\∃x16,rS h9 (aS h 6) x16/\NB x16.a fun b17 o18=>Ib p2 x16.n/\∃x19 x20 x21,aL2 h9 ⟨b17,o18+p2.toNat*6+1,none⟩ x19 x20 x21/\(Wn h9 [vI 0,vI 0,vI 0] 53 fun h22=>Sm [⟨b17,o18+p2.toNat*6+1,none⟩,(aS h 6),⟨b11,o12+p1.toNat*6+1,none⟩,(aS h 6)] h9 h22/\Wn h22 [vI 0,vI 0,vI 0] 53 fun h23=>Sm [⟨b17,o18+p2.toNat*6+1,none⟩,(aS h 6),⟨b11,o12+p1.toNat*6+1,none⟩,(aS h 6)] h22 h23/\V159a h23 h9 x13 x14 x15 b17 o18 p2 h h22 x19 x20 x21 R p1)/\Wn h9 [vI 0,vI 0,vI 0] 53 fun h34=>Sm [⟨b17,o18+p2.toNat*6+1,none⟩,(aS h 6),⟨b11,o12+p1.toNat*6+1,none⟩,(aS h 6)] h9 h34/\Wn h34 [vI 0,vI 0,vI 0] 53 fun h35=>Sm [⟨b17,o18+p2.toNat*6+1,none⟩,(aS h 6),⟨b11,o12+p1.toNat*6+1,none⟩,(aS h 6)] h34 h35/\V159a h35 h34 x13 x14 x15 b17 o18 p2 h h9 x19 x20 x21 R p1
theorem vc159 (pa:ByteArray) (pb pc:Sl) (pd pe pf:Int) (pg ph:Sl) (p1 p2:Int) (H:@W159 h R pa pb pc pd pe pf pg ph p1 p2):Fn Pz 159 #[.agg ⟨(L0 pa pb pc pd pe pf pg ph)⟩,vI p1,vI p2] h R:=fnJ (A:=.z) H
def W199 (p0:Int):Prop:=
 sB (decide (p0>=97))
 (sB (decide (p0<=122))
 (R (.bool true) h)
 (sB (decide (p0>=65))
 (R (.bool (decide (p0<=90))) h)
 (R (.bool false) h)))
 (sB (decide (p0>=65))
 (R (.bool (decide (p0<=90))) h)
 (R (.bool false) h))
theorem vc199 (p0:Int) (H:@W199 h R p0):Fn Pz 199 #[.int .u8 p0] h R:=fnJ (A:=.z) H
def W200 (p0:Int):Prop:=
 Fn Pz 199 #[.int .u8 p0] h
 (fun v1 h3=>∃x2,iB v1 x2 /\
 sB x2
 (R (.bool true) h3)
 (Fn Pz 240 #[.int .u8 p0] h3
 (fun v4 h6=>∃x5,iB v4 x5 /\
 sB x5
 (R (.bool true) h6)
 (R (.bool (p0==95)) h6))))
theorem vc200 (p0:Int) (H:@W200 h R p0):Fn Pz 200 #[.int .u8 p0] h R:=fnJ (A:=.z) H
def W201 (p0:ByteArray):Prop:=
 Fn Pz 111 #[.string p0] h
 (fun v1 h3=>∃x2,iB v1 x2 /\
 R (.bool x2) h3)
theorem vc201 (p0:ByteArray) (H:@W201 h R p0):Fn Pz 201 #[.string p0] h R:=fnJ (A:=.z) H
def W202 (p0:Sl) (p1:Int):Prop:=
 sB (decide (p1>=0))
 (Fn Pz 155 #[vS p0] h
 (fun v1 h3=>∃x2,iI v1 x2 /\
 sB (decide (p1<x2))
 (Fn Pz 241 #[vS p0,vI p1] h3
 (fun v4 h9=>∃(x5:ByteArray) (x6 x7 x8:Int),v4=.agg ⟨(L7 x5 x6 x7 x8)⟩ /\
 R (.bool (x6==2)) h9))
 (R (.bool false) h3)))
 (R (.bool false) h)
theorem vc202 (p0:Sl) (p1:Int) (H:@W202 h R p0 p1):Fn Pz 202 #[vS p0,vI p1] h R:=fnJ (A:=.z) H
def W240 (p0:Int):Prop:=
 sB (decide (p0>=48))
 (R (.bool (decide (p0<=57))) h)
 (R (.bool false) h)
theorem vc240 (p0:Int) (H:@W240 h R p0):Fn Pz 240 #[.int .u8 p0] h R:=fnJ (A:=.z) H
def V241a (h20 h:Heap) (R:Value->Heap->Prop):Prop:=
 ∃x21 x22 x23 x24,aL7 h20 (aS h 0) x21 x22 x23 x24/\R (.agg ⟨(L7 x21 x22 x23 x24)⟩) h20
def W241 (p0:Sl) (p1:Int):Prop:=
 Wn h [.string ⟨#[]⟩,vI 0,vI 0,vI 0] 184 fun h1=>QII p1 0 h1 fun I2 x_5 i_6 h7 m4=>sB (decide (i_6<(p0.n:Int))) (NB p0.a fun b8 o9=>Ib i_6 p0.n/\∃x10,rS h7 ⟨b8,o9+i_6.toNat*5+1,none⟩ x10/\sB (decide (x_5<(x10.n:Int))) (NB p0.a fun b11 o12=>Ib i_6 p0.n/\∃x13,rS h7 ⟨b11,o12+i_6.toNat*5+1,none⟩ x13/\NB x13.a fun b14 o15=>Ib x_5 x13.n/\∃x16 x17 x18 x19,aL7 h7 ⟨b14,o15+x_5.toNat*4,none⟩ x16 x17 x18 x19/\Wp h7 (aS h 0) 4 (L7 x16 x17 x18 x19) fun h20=>V241a h20 h R) (NB p0.a fun b25 o26=>Ib i_6 p0.n/\∃x27,rS h7 ⟨b25,o26+i_6.toNat*5+1,none⟩ x27/\∃m28,m28<m4/\I2 (wrap .i64 (x_5-(x27.n:Int))) (wrap .i64 (i_6+1)) h7 m28)) (Wp h7 (aS h 0) 4 [.string ⟨#[]⟩,vI 0,vI 0,vI 0] fun h29=>V241a h29 h R)
theorem vc241 (p0:Sl) (p1:Int) (H:@W241 h R p0 p1):Fn Pz 241 #[vS p0,vI p1] h R:=fnJ (A:=(.s .z (.s (.s .z (.b (.l [(1,.one (.int .i64)),(5,.one (.int .i64))] .z))) .z))) H
end Go.VC
end

section
namespace Go.VC
open Go.Proofs IntKind

end Go.VC
end

section
namespace Go.VC
open Go.Proofs IntKind
variable {h:Heap} {R:Value->Heap->Prop}
def W262 (p0:Sl) (p1 p2 p3:Int) (p4:Value):Prop:=
 QI 0 h fun I1 i_4 h5 m3=>
 sB (decide (i_4<p3))
 (NB p0.a fun b6 o7=>(0<=((wrap .i64 (p2+i_4)):Int)/\((wrap .i64 (p2+i_4)):Int)<(p0.n:Nat)) /\
 ∃x8,rI h5 ⟨b6,o7+Int.toNat (wrap .i64 (p2+i_4))*1,none⟩ x8 /\
 NB p0.a fun b9 o10=>(0<=((wrap .i64 (p1+i_4)):Int)/\((wrap .i64 (p1+i_4)):Int)<(p0.n:Nat)) /\
 ∃x11,rI h5 ⟨b9,o10+Int.toNat (wrap .i64 (p1+i_4))*1,none⟩ x11 /\
 NB p0.a fun b12 o13=>(0<=((wrap .i64 (p1+i_4)):Int)/\((wrap .i64 (p1+i_4)):Int)<(p0.n:Nat)) /\
 Wp h5 ⟨b12,o13+Int.toNat (wrap .i64 (p1+i_4))*1,none⟩ 1 [vI x8] fun h14=>
 NB p0.a fun b15 o16=>(0<=((wrap .i64 (p2+i_4)):Int)/\((wrap .i64 (p2+i_4)):Int)<(p0.n:Nat)) /\
 Wp h14 ⟨b15,o16+Int.toNat (wrap .i64 (p2+i_4))*1,none⟩ 1 [vI x11] fun h17=>
 ∃m18,m18<m3/\I1 (wrap .i64 (i_4+1)) h17 m18)
 (R (.tuple ⟨[]⟩) h5)
theorem vc262 (p0:Sl) (p1 p2 p3:Int) (p4:Value) (H:@W262 h R p0 p1 p2 p3 p4):Fn Pz 262 #[vS p0,vI p1,vI p2,vI p3,p4] h R:=fnJ (A:=(AI 10)) H
def W239 (p0:Sl) (p1 p2 p3:Int) (p4:Value):Prop:=
 QII (wrap .i64 (p2-p1)) (wrap .i64 (p3-p2)) h fun I1 i_4 j_5 h6 m3=>
 sB (i_4 != j_5)
 (sB (decide (i_4>j_5))
 (Fn Pz 262 #[vS p0,vI (wrap .i64 (p2-i_4)),vI p2,vI j_5,p4] h6
 (fun v7 h8=>v7=.tuple ⟨[]⟩ /\
 ∃m9,m9<m3/\I1 (wrap .i64 (i_4-j_5)) j_5 h8 m9))
 (Fn Pz 262 #[vS p0,vI (wrap .i64 (p2-i_4)),vI (wrap .i64 ((wrap .i64 (p2+j_5))-i_4)),vI i_4,p4] h6
 (fun v10 h11=>v10=.tuple ⟨[]⟩ /\
 ∃m12,m12<m3/\I1 i_4 (wrap .i64 (j_5-i_4)) h11 m12)))
 (Fn Pz 262 #[vS p0,vI (wrap .i64 (p2-i_4)),vI p2,vI i_4,p4] h6
 (fun v13 h14=>v13=.tuple ⟨[]⟩ /\
 R (.tuple ⟨[]⟩) h14))
theorem vc239 (p0:Sl) (p1 p2 p3:Int) (p4:Value) (H:@W239 h R p0 p1 p2 p3 p4):Fn Pz 239 #[vS p0,vI p1,vI p2,vI p3,p4] h R:=fnJ (A:=(.s .z (.s .z (.s (.b (.l [(10,.one (.int .i64)),(11,.one (.int .i64))] .z)) .z)))) H
def V197a (x21:Int) (p0:Sl) (j_9:Int) (h22:Heap) (m8:Nat) (I6:Int->Heap->Nat->Prop) (m3:Nat) (I1:Int->Heap->Nat->Prop) (i_4:Int):Prop:=
 sB (decide (x21<0)) (NB p0.a fun b23 o24=>(0<=((wrap .i64 (j_9-1)):Int)/\((wrap .i64 (j_9-1)):Int)<(p0.n:Nat))/\∃x25,rI h22 ⟨b23,o24+Int.toNat (wrap .i64 (j_9-1))*1,none⟩ x25/\NB p0.a fun b26 o27=>Ib j_9 p0.n/\∃x28,rI h22 ⟨b26,o27+j_9.toNat*1,none⟩ x28/\NB p0.a fun b29 o30=>Ib j_9 p0.n/\Wp h22 ⟨b29,o30+j_9.toNat*1,none⟩ 1 [vI x25] fun h31=>NB p0.a fun b32 o33=>(0<=((wrap .i64 (j_9-1)):Int)/\((wrap .i64 (j_9-1)):Int)<(p0.n:Nat))/\Wp h31 ⟨b32,o33+Int.toNat (wrap .i64 (j_9-1))*1,none⟩ 1 [vI x28] fun h34=>∃m35,m35<m8/\I6 (wrap .i64 (j_9-1)) h34 m35) (∃m36,m36<m3/\I1 (wrap .i64 (i_4+1)) h22 m36)
def W197 (p0:Sl) (p1 p2:Int) (p3:Value):Prop:=
 QI (wrap .i64 (p1+1)) h fun I1 i_4 h5 m3=>sB (decide (i_4<p2)) (QI i_4 h5 fun I6 j_9 h10 m8=>sB (decide (j_9>p1)) (NB p0.a fun b11 o12=>Ib j_9 p0.n/\∃x13,rI h10 ⟨b11,o12+j_9.toNat*1,none⟩ x13/\NB p0.a fun b14 o15=>(0<=((wrap .i64 (j_9-1)):Int)/\((wrap .i64 (j_9-1)):Int)<(p0.n:Nat))/\∃x16,rI h10 ⟨b14,o15+Int.toNat (wrap .i64 (j_9-1))*1,none⟩ x16/\match p3 with | .func (.func g17) fa18 fc19=>(bif callable Pz g17 then Fn Pz g17 (fa18 ++ #[vI x13,vI x16]++fc19) h10 (fun v20 h22=>∃x21,iI v20 x21/\V197a x21 p0 j_9 h22 m8 I6 m3 I1 i_4) else ExtW Pz g17 (fa18 ++ #[vI x13,vI x16]++fc19) h10 (fun v20 h22=>∃x21,iI v20 x21/\V197a x21 p0 j_9 h22 m8 I6 m3 I1 i_4)) | _=>False) (∃m37,m37<m3/\I1 (wrap .i64 (i_4+1)) h10 m37)) (R (.tuple ⟨[]⟩) h5)
theorem vc197 (p0:Sl) (p1 p2:Int) (p3:Value) (H:@W197 h R p0 p1 p2 p3):Fn Pz 197 #[vS p0,vI p1,vI p2,p3] h R:=fnJ (A:=(.s .z (.b (.l [(8,.one (.int .i64))] (.s .z (.s (.b (AI 9)) .z)))))) H
def V198a (x55:Int) (m41:Nat) (I39:Int->Int->Heap->Nat->Prop) (i_42 j_43:Int) (h56:Heap):Prop:=
 sB (!(decide (x55<0))) (∃m57,m57<m41/\I39 (wrap .i64 ((wrap .i64 (shrI .u64 (wrap .u64 (wrap .i64 (i_42+j_43))) 1))+1)) j_43 h56 m57) (∃m58,m58<m41/\I39 i_42 (wrap .i64 (shrI .u64 (wrap .u64 (wrap .i64 (i_42+j_43))) 1)) h56 m58)
def V198b (i_4 j_5:Int) (p0:Sl):Prop:=
 0<=((wrap .i64 (shrI .u64 (wrap .u64 (wrap .i64 (i_4+j_5))) 1)):Int)/\((wrap .i64 (shrI .u64 (wrap .u64 (wrap .i64 (i_4+j_5))) 1)):Int)<(p0.n:Nat)
def V198c (x17:Int) (m3:Nat) (I1:Int->Int->Heap->Nat->Prop) (i_4 j_5:Int) (h18:Heap):Prop:=
 sB (decide (x17<0)) (∃m19,m19<m3/\I1 (wrap .i64 ((wrap .i64 (shrI .u64 (wrap .u64 (wrap .i64 (i_4+j_5))) 1))+1)) j_5 h18 m19) (∃m20,m20<m3/\I1 i_4 (wrap .i64 (shrI .u64 (wrap .u64 (wrap .i64 (i_4+j_5))) 1)) h18 m20)
def W198 (p0:Sl) (p1 p2 p3:Int) (p4:Value):Prop:=
 sB ((wrap .i64 (p2-p1))==1) (QII p2 p3 h fun I1 i_4 j_5 h6 m3=>sB (decide (i_4<j_5)) (0<=(1:Int)/\NB p0.a fun b7 o8=>(V198b i_4 j_5 p0)/\∃x9,rI h6 ⟨b7,o8+Int.toNat (wrap .i64 (shrI .u64 (wrap .u64 (wrap .i64 (i_4+j_5))) 1))*1,none⟩ x9/\NB p0.a fun b10 o11=>Ib p1 p0.n/\∃x12,rI h6 ⟨b10,o11+p1.toNat*1,none⟩ x12/\match p4 with | .func (.func g13) fa14 fc15=>(bif callable Pz g13 then Fn Pz g13 (fa14 ++ #[vI x9,vI x12]++fc15) h6 (fun v16 h18=>∃x17,iI v16 x17/\V198c x17 m3 I1 i_4 j_5 h18) else ExtW Pz g13 (fa14 ++ #[vI x9,vI x12]++fc15) h6 (fun v16 h18=>∃x17,iI v16 x17/\V198c x17 m3 I1 i_4 j_5 h18)) | _=>False) (QI p1 h6 fun I21 k_24 h25 m23=>sB (decide (k_24<(wrap .i64 (i_4-1)))) (NB p0.a fun b26 o27=>(0<=((wrap .i64 (k_24+1)):Int)/\((wrap .i64 (k_24+1)):Int)<(p0.n:Nat))/\∃x28,rI h25 ⟨b26,o27+Int.toNat (wrap .i64 (k_24+1))*1,none⟩ x28/\NB p0.a fun b29 o30=>Ib k_24 p0.n/\∃x31,rI h25 ⟨b29,o30+k_24.toNat*1,none⟩ x31/\NB p0.a fun b32 o33=>Ib k_24 p0.n/\Wp h25 ⟨b32,o33+k_24.toNat*1,none⟩ 1 [vI x28] fun h34=>NB p0.a fun b35 o36=>(0<=((wrap .i64 (k_24+1)):Int)/\((wrap .i64 (k_24+1)):Int)<(p0.n:Nat))/\Wp h34 ⟨b35,o36+Int.toNat (wrap .i64 (k_24+1))*1,none⟩ 1 [vI x31] fun h37=>∃m38,m38<m23/\I21 (wrap .i64 (k_24+1)) h37 m38) (R (.tuple ⟨[]⟩) h25))) (sB ((wrap .i64 (p3-p2))==1) (QII p1 p2 h fun I39 i_42 j_43 h44 m41=>sB (decide (i_42<j_43)) (0<=(1:Int)/\NB p0.a fun b45 o46=>Ib p2 p0.n/\∃x47,rI h44 ⟨b45,o46+p2.toNat*1,none⟩ x47/\NB p0.a fun b48 o49=>(V198b i_42 j_43 p0)/\∃x50,rI h44 ⟨b48,o49+Int.toNat (wrap .i64 (shrI .u64 (wrap .u64 (wrap .i64 (i_42+j_43))) 1))*1,none⟩ x50/\match p4 with | .func (.func g51) fa52 fc53=>(bif callable Pz g51 then Fn Pz g51 (fa52 ++ #[vI x47,vI x50]++fc53) h44 (fun v54 h56=>∃x55,iI v54 x55/\V198a x55 m41 I39 i_42 j_43 h56) else ExtW Pz g51 (fa52 ++ #[vI x47,vI x50]++fc53) h44 (fun v54 h56=>∃x55,iI v54 x55/\V198a x55 m41 I39 i_42 j_43 h56)) | _=>False) (QI p2 h44 fun I59 k_62 h63 m61=>sB (decide (k_62>i_42)) (NB p0.a fun b64 o65=>(0<=((wrap .i64 (k_62-1)):Int)/\((wrap .i64 (k_62-1)):Int)<(p0.n:Nat))/\∃x66,rI h63 ⟨b64,o65+Int.toNat (wrap .i64 (k_62-1))*1,none⟩ x66/\NB p0.a fun b67 o68=>Ib k_62 p0.n/\∃x69,rI h63 ⟨b67,o68+k_62.toNat*1,none⟩ x69/\NB p0.a fun b70 o71=>Ib k_62 p0.n/\Wp h63 ⟨b70,o71+k_62.toNat*1,none⟩ 1 [vI x66] fun h72=>NB p0.a fun b73 o74=>(0<=((wrap .i64 (k_62-1)):Int)/\((wrap .i64 (k_62-1)):Int)<(p0.n:Nat))/\Wp h72 ⟨b73,o74+Int.toNat (wrap .i64 (k_62-1))*1,none⟩ 1 [vI x69] fun h75=>∃m76,m76<m61/\I59 (wrap .i64 (k_62-1)) h75 m76) (R (.tuple ⟨[]⟩) h63))) (0<=(1:Int)/\∃J77:Int->Int->Heap->Prop,(sB (decide (p2>(wrap .i64 (shrI .u64 (wrap .u64 (wrap .i64 (p1+p3))) 1)))) (J77 (wrap .i64 ((wrap .i64 ((wrap .i64 (shrI .u64 (wrap .u64 (wrap .i64 (p1+p3))) 1))+p2))-p3)) (wrap .i64 (shrI .u64 (wrap .u64 (wrap .i64 (p1+p3))) 1)) h) (J77 p1 p2 h))/\∀(_:Env) (start_78 r_79:Int) (h80:Heap),J77 start_78 r_79 h80->(QII start_78 r_79 h80 fun I81 start_84 r_85 h86 m83=>sB (decide (start_84<r_85)) (0<=(1:Int)/\NB p0.a fun b87 o88=>(0<=((wrap .i64 ((wrap .i64 ((wrap .i64 ((wrap .i64 (shrI .u64 (wrap .u64 (wrap .i64 (p1+p3))) 1))+p2))-1))-(wrap .i64 (shrI .u64 (wrap .u64 (wrap .i64 (start_84+r_85))) 1)))):Int)/\((wrap .i64 ((wrap .i64 ((wrap .i64 ((wrap .i64 (shrI .u64 (wrap .u64 (wrap .i64 (p1+p3))) 1))+p2))-1))-(wrap .i64 (shrI .u64 (wrap .u64 (wrap .i64 (start_84+r_85))) 1)))):Int)<(p0.n:Nat))/\∃x89,rI h86 ⟨b87,o88+Int.toNat (wrap .i64 ((wrap .i64 ((wrap .i64 ((wrap .i64 (shrI .u64 (wrap .u64 (wrap .i64 (p1+p3))) 1))+p2))-1))-(wrap .i64 (shrI .u64 (wrap .u64 (wrap .i64 (start_84+r_85))) 1))))*1,none⟩ x89/\NB p0.a fun b90 o91=>(V198b start_84 r_85 p0)/\∃x92,rI h86 ⟨b90,o91+Int.toNat (wrap .i64 (shrI .u64 (wrap .u64 (wrap .i64 (start_84+r_85))) 1))*1,none⟩ x92/\match p4 with | .func (.func g93) fa94 fc95=>(bif callable Pz g93 then Fn Pz g93 (fa94 ++ #[vI x89,vI x92]++fc95) h86 (fun v96 h98=>∃x97,iI v96 x97/\V198a x97 m83 I81 start_84 r_85 h98) else ExtW Pz g93 (fa94 ++ #[vI x89,vI x92]++fc95) h86 (fun v96 h98=>∃x97,iI v96 x97/\V198a x97 m83 I81 start_84 r_85 h98)) | _=>False) (∃J101:Heap->Prop,(sB (decide (start_84<p2)) (sB (decide (p2<(wrap .i64 ((wrap .i64 ((wrap .i64 (shrI .u64 (wrap .u64 (wrap .i64 (p1+p3))) 1))+p2))-start_84)))) (Fn Pz 239 #[vS p0,vI start_84,vI p2,vI (wrap .i64 ((wrap .i64 ((wrap .i64 (shrI .u64 (wrap .u64 (wrap .i64 (p1+p3))) 1))+p2))-start_84)),p4] h86 (fun v102 h103=>v102=.tuple ⟨[]⟩/\J101 h103)) (J101 h86)) (J101 h86))/\∀(_:Env) (h104:Heap),J101 h104->(∃J105:Heap->Prop,(sB (decide (p1<start_84)) (sB (decide (start_84<(wrap .i64 (shrI .u64 (wrap .u64 (wrap .i64 (p1+p3))) 1)))) (Fn Pz 198 #[vS p0,vI p1,vI start_84,vI (wrap .i64 (shrI .u64 (wrap .u64 (wrap .i64 (p1+p3))) 1)),p4] h104 (fun v106 h107=>v106=.tuple ⟨[]⟩/\J105 h107)) (J105 h104)) (J105 h104))/\∀(_:Env) (h108:Heap),J105 h108->(sB (decide ((wrap .i64 (shrI .u64 (wrap .u64 (wrap .i64 (p1+p3))) 1))<(wrap .i64 ((wrap .i64 ((wrap .i64 (shrI .u64 (wrap .u64 (wrap .i64 (p1+p3))) 1))+p2))-start_84)))) (sB (decide ((wrap .i64 ((wrap .i64 ((wrap .i64 (shrI .u64 (wrap .u64 (wrap .i64 (p1+p3))) 1))+p2))-start_84))<p3)) (Fn Pz 198 #[vS p0,vI (wrap .i64 (shrI .u64 (wrap .u64 (wrap .i64 (p1+p3))) 1)),vI (wrap .i64 ((wrap .i64 ((wrap .i64 (shrI .u64 (wrap .u64 (wrap .i64 (p1+p3))) 1))+p2))-start_84)),vI p3,p4] h108 (fun v109 h110=>v109=.tuple ⟨[]⟩/\R (.tuple ⟨[]⟩) h110)) (R (.tuple ⟨[]⟩) h108)) (R (.tuple ⟨[]⟩) h108)))))))
theorem vc198 (p0:Sl) (p1 p2 p3:Int) (p4:Value) (H:@W198 h R p0 p1 p2 p3 p4):Fn Pz 198 #[vS p0,vI p1,vI p2,vI p3,p4] h R:=fnJ (A:=(.s (.s .z (.c (.s .z (.s .z (.s (.b (.l [(10,.one (.int .i64)),(11,.one (.int .i64))] .z)) (.s (AI 13) .z)))) .z)) (.s (.s .z (.c (.s .z (.s .z (.s (.b (.l [(14,.one (.int .i64)),(15,.one (.int .i64))] .z)) (.s (AI 17) .z)))) .z)) (.s .z (.s .z (.s .z (.j [(20,.one (.int .i64)),(21,.one (.int .i64))] .z (.s .z (.s (.b (.l [(20,.one (.int .i64)),(21,.one (.int .i64))] .z)) (.s .z (.j [] .z (.j [] .z .z)))))))))))) H
def W150 (p0:Sl) (p1:Int) (p2:Value):Prop:=
 QII 0 20 h fun I1 a_4 b_5 h6 m3=>
 sB (decide (b_5<=p1))
 (Fn Pz 197 #[vS p0,vI a_4,vI b_5,p2] h6
 (fun v7 h8=>v7=.tuple ⟨[]⟩ /\
 ∃m9,m9<m3/\I1 b_5 (wrap .i64 (b_5+20)) h8 m9))
 (Fn Pz 197 #[vS p0,vI a_4,vI p1,p2] h6
 (fun v10 h11=>v10=.tuple ⟨[]⟩ /\
 QI 20 h11 fun I12 blockSize_15 h16 m14=>
 sB (decide (blockSize_15<p1))
 (QII 0 (wrap .i64 (2*blockSize_15)) h16 fun I17 a_20 b_21 h22 m19=>
 sB (decide (b_21<=p1))
 (Fn Pz 198 #[vS p0,vI a_20,vI (wrap .i64 (a_20+blockSize_15)),vI b_21,p2] h22
 (fun v23 h24=>v23=.tuple ⟨[]⟩ /\
 ∃m25,m25<m19/\I17 b_21 (wrap .i64 (b_21+(wrap .i64 (2*blockSize_15)))) h24 m25))
 (sB (decide ((wrap .i64 (a_20+blockSize_15))<p1))
 (Fn Pz 198 #[vS p0,vI a_20,vI (wrap .i64 (a_20+blockSize_15)),vI p1,p2] h22
 (fun v26 h27=>v26=.tuple ⟨[]⟩ /\
 ∃m28,m28<m14/\I12 (wrap .i64 (blockSize_15*2)) h27 m28))
 (∃m29,m29<m14/\I12 (wrap .i64 (blockSize_15*2)) h22 m29)))
 (R (.tuple ⟨[]⟩) h16)))
theorem vc150 (p0:Sl) (p1:Int) (p2:Value) (H:@W150 h R p0 p1 p2):Fn Pz 150 #[vS p0,vI p1,p2] h R:=fnJ (A:=(.s .z (.s .z (.s (.b (.l [(7,.one (.int .i64)),(8,.one (.int .i64))] .z)) (.s .z (.b (.l [(6,.one (.int .i64))] (.s .z (.b (.s .z (.s (.b (.l [(7,.one (.int .i64)),(8,.one (.int .i64))] .z)) .z))))))))))) H
def W107 (p0:Sl) (p1:Value):Prop:=
 Fn Pz 150 #[vS p0,vI (p0.n:Int),p1] h
 (fun v1 h2=>v1=.tuple ⟨[]⟩ /\
 R (.tuple ⟨[]⟩) h2)
theorem vc107 (p0:Sl) (p1:Value) (H:@W107 h R p0 p1):Fn Pz 107 #[vS p0,p1] h R:=fnJ (A:=.z) H
def W63 (pa:ByteArray) (pb pc:Sl) (pd pe pf:Int) (pg ph:Sl) (p1:Int):Prop:=
 Wn h (L0 pa pb pc pd pe pf pg ph) 27 fun h9=>
 ∃x10,rS h9 (aS h 6) x10 /\
 QSI ⟨none,0,0⟩ 0 h9 fun I11 out_14 x_15 h16 m13=>
 sB (decide (x_15<(x10.n:Int)))
 (NB x10.a fun b17 o18=>Ib x_15 x10.n /\
 ∃x19 x20 x21 x22 x23 x24,aL3 h16 ⟨b17,o18+x_15.toNat*6,none⟩ x19 x20 x21 x22 x23 x24 /\
 Wn h16 [vI 0,vI 0,vI 0,vI 0,vI 0,.bool false] 55 fun h25=>
 Wp h25 (aS h16 0) 6 (L3 x19 x20 x21 x22 x23 x24) fun h26=>
 ∃x27,rI h26 (aS h16 0) x27 /\
 sB (x27==p1)
 (Wn h26 [vI x_15] 3 fun h28=>
 App Pz 42 42 (vS out_14) (.slice (some (aS h26 0)) 1 1) h28 fun s29 h30=>
 ∃m31,m31<m13/\I11 s29 (wrap .i64 (x_15+1)) h30 m31)
 (∃m32,m32<m13/\I11 out_14 (wrap .i64 (x_15+1)) h26 m32))
 (Fn Pz 107 #[vS out_14,.func (.func 108) #[] #[.pointer (some (aS h 0))]] h16
 (fun v33 h34=>v33=.tuple ⟨[]⟩ /\
 R (vS out_14) h34))
theorem vc63 (pa:ByteArray) (pb pc:Sl) (pd pe pf:Int) (pg ph:Sl) (p1:Int) (H:@W63 h R pa pb pc pd pe pf pg ph p1):Fn Pz 63 #[.agg ⟨(L0 pa pb pc pd pe pf pg ph)⟩,vI p1] h R:=fnJ (A:=(.s .z (.s .z (.s (AJ 5 11) .z)))) H
def V108a (h14 h:Heap) (x4 x5 x6:Int) (b8 o9:Nat) (p1:Int) (c0:Addr) (h13:Heap) (x10 x11 x12:Int) (R:Value->Heap->Prop):Prop:=
 Wp h14 (aS h 0) 3 (L2 x4 x5 x6) fun h15=>Sm [⟨b8,o9+p1.toNat*6+1,none⟩,⟨c0.block,c0.off+6,none⟩] h14 h15/\Wp h15 (aS h13 0) 3 (L2 x10 x11 x12) fun h16=>∃x17,rI h16 (aS h 1) x17/\∃x18,rI h16 (aS h13 1) x18/\∃x19,rI h16 (aS h 2) x19/\∃x20,rI h16 (aS h13 2) x20/\Fn Pz 110 #[vI x17,vI x18] h16 (fun v21 h23=>∃x22,iI v21 x22/\Sm [(aS h13 2),(aS h 2)] h16 h23/\Fn Pz 110 #[vI x19,vI x20] h23 (fun v24 h26=>∃x25,iI v24 x25/\Sm [(aS h13 1),(aS h 1)] h23 h26/\Wn h26 [vI x22,vI x25] 3 fun h27=>Fn Pz 109 #[.slice (some (aS h26 0)) 2 2] h27 (fun v28 h30=>∃x29,iI v28 x29/\R (vI x29) h30)))
def W108 (p0 p1:Int) (c0:Addr):Prop:=
 ∃x1,rS h ⟨c0.block,c0.off+6,none⟩ x1/\NB x1.a fun b2 o3=>Ib p0 x1.n/\∃x4 x5 x6,aL2 h ⟨b2,o3+p0.toNat*6+1,none⟩ x4 x5 x6/\∃x7,rS h ⟨c0.block,c0.off+6,none⟩ x7/\NB x7.a fun b8 o9=>Ib p1 x7.n/\∃x10 x11 x12,aL2 h ⟨b8,o9+p1.toNat*6+1,none⟩ x10 x11 x12/\(Wn h [vI 0,vI 0,vI 0] 53 fun h13=>Sm [⟨b8,o9+p1.toNat*6+1,none⟩,⟨c0.block,c0.off+6,none⟩,⟨b2,o3+p0.toNat*6+1,none⟩,⟨c0.block,c0.off+6,none⟩] h h13/\Wn h13 [vI 0,vI 0,vI 0] 53 fun h14=>Sm [⟨b8,o9+p1.toNat*6+1,none⟩,⟨c0.block,c0.off+6,none⟩,⟨b2,o3+p0.toNat*6+1,none⟩,⟨c0.block,c0.off+6,none⟩] h13 h14/\V108a h14 h x4 x5 x6 b8 o9 p1 c0 h13 x10 x11 x12 R)/\Wn h [vI 0,vI 0,vI 0] 53 fun h31=>Sm [⟨b8,o9+p1.toNat*6+1,none⟩,⟨c0.block,c0.off+6,none⟩,⟨b2,o3+p0.toNat*6+1,none⟩,⟨c0.block,c0.off+6,none⟩] h h31/\Wn h31 [vI 0,vI 0,vI 0] 53 fun h32=>Sm [⟨b8,o9+p1.toNat*6+1,none⟩,⟨c0.block,c0.off+6,none⟩,⟨b2,o3+p0.toNat*6+1,none⟩,⟨c0.block,c0.off+6,none⟩] h31 h32/\V108a h32 h31 x4 x5 x6 b8 o9 p1 c0 h x10 x11 x12 R
theorem vc108 (p0 p1:Int) (c0:Addr) (H:@W108 h R p0 p1 c0):Fn Pz 108 #[vI p0,vI p1,.pointer (some c0)] h R:=fnJ (A:=.z) H
def V59a (h16 h15:Heap) (x11:ByteArray) (x14:Sl) (h h9:Heap) (R:Value->Heap->Prop):Prop:=
 Wp h16 (aS h15 0) 8 [.string x11,vS x14,vN,vI 0,vI 0,vI 0,vN,vN] fun h17=>∃x18,rS h17 (aS h 2) x18/\QI 0 h17 fun I19 x_22 h23 m21=>sB (decide (x_22<(x18.n:Int))) (NB x18.a fun b24 o25=>Ib x_22 x18.n/\∃x26 x27 x28 x29 x30,aL6 h23 ⟨b24,o25+x_22.toNat*5,none⟩ x26 x27 x28 x29 x30/\Wn h23 [.string ⟨#[]⟩,vN,vI 0,vN,vN] 136 fun h31=>Wp h31 (aS h23 0) 5 (L6 x26 x27 x28 x29 x30) fun h32=>∃x33,rS h32 (aS h23 1) x33/\Fn Pz 103 #[vS x33] h32 (fun v34 h36=>∃x35,iS v34 x35/\Wp h36 (aS h23 1) 1 [vS x35] fun h37=>∃x38,rS h37 (aS h23 3) x38/\∃x39,rS h37 (aS h23 (3+1)) x39/\Fn Pz 104 #[vS x38] h37 (fun v40 h42=>∃x41,iS v40 x41/\Sm [(aS h23 (3+1))] h37 h42/\Fn Pz 105 #[vS x39] h42 (fun v43 h45=>∃x44,iS v43 x44/\Sm [(aS h23 3)] h42 h45/\Wp h45 (aS h23 3) 2 [vS x41,vS x44] fun h46=>∃x47,rS h46 (aS h15 2) x47/\∃x48 x49 x50 x51 x52,aL6 h46 (aS h23 0) x48 x49 x50 x51 x52/\Wn h46 (L6 x48 x49 x50 x51 x52) 136 fun h53=>App Pz 23 23 (vS x47) (.slice (some (aS h46 0)) 1 1) h53 fun s54 h55=>Wp h55 (aS h15 2) 1 [vS s54] fun h56=>∃m57,m57<m21/\I19 (wrap .i64 (x_22+1)) h56 m57)))) (∃x58 x59 x60 x61 x62 x63 x64 x65,aL0 h23 (aS h15 0) x58 x59 x60 x61 x62 x63 x64 x65/\Wp h23 (aS h9 0) 8 (L0 x58 x59 x60 x61 x62 x63 x64 x65) fun h66=>∃x67 x68 x69 x70 x71 x72 x73 x74,aL0 h66 (aS h9 0) x67 x68 x69 x70 x71 x72 x73 x74/\R (.agg ⟨(L0 x67 x68 x69 x70 x71 x72 x73 x74)⟩) h66)
def W59 (pa:ByteArray) (pb pc:Sl) (pd pe pf:Int) (pg ph:Sl):Prop:=
 Wn h (L0 pa pb pc pd pe pf pg ph) 27 fun h9=>Wn h9 [.string ⟨#[]⟩,vN,vN,vI 0,vI 0,vI 0,vN,vN] 27 fun h10=>∃x11,rT h10 (aS h 0) x11/\∃x12,rS h10 (aS h 1) x12/\(Fn Pz 102 #[vS x12] h10 (fun v13 h15=>∃x14,iS v13 x14/\Sm [(aS h 0)] h10 h15/\Wn h15 [.string ⟨#[]⟩,vN,vN,vI 0,vI 0,vI 0,vN,vN] 27 fun h16=>Sm [(aS h 1),(aS h 0)] h15 h16/\V59a h16 h15 x11 x14 h h9 R))/\Wn h10 [.string ⟨#[]⟩,vN,vN,vI 0,vI 0,vI 0,vN,vN] 27 fun h75=>Sm [(aS h 1),(aS h 0)] h10 h75/\Fn Pz 102 #[vS x12] h75 (fun v76 h78=>∃x77,iS v76 x77/\Sm [(aS h 0)] h75 h78/\V59a h78 h10 x11 x77 h h9 R)
theorem vc59 (pa:ByteArray) (pb pc:Sl) (pd pe pf:Int) (pg ph:Sl) (H:@W59 h R pa pb pc pd pe pf pg ph):Fn Pz 59 #[.agg ⟨(L0 pa pb pc pd pe pf pg ph)⟩] h R:=fnJ (A:=(.s .z (.s .z (.s (AI 15) .z)))) H
def W102 (p0:Sl):Prop:=
 sB (Option.isNone p0.a)
 (R vN h)
 (Wn h [] 9 fun h1=>
 App Pz 22 22 (.slice (some (aS h 0)) 0 0) (vS p0) h1 fun s2 h3=>
 R (vS s2) h3)
theorem vc102 (p0:Sl) (H:@W102 h R p0):Fn Pz 102 #[vS p0] h R:=fnJ (A:=.z) H
def W103 (p0:Sl):Prop:=
 sB (Option.isNone p0.a)
 (R vN h)
 (Wn h [] 184 fun h1=>
 App Pz 130 130 (.slice (some (aS h 0)) 0 0) (vS p0) h1 fun s2 h3=>
 R (vS s2) h3)
theorem vc103 (p0:Sl) (H:@W103 h R p0):Fn Pz 103 #[vS p0] h R:=fnJ (A:=.z) H
def W104 (p0:Sl):Prop:=
 sB (Option.isNone p0.a)
 (R vN h)
 (Wn h [] 187 fun h1=>
 App Pz 131 131 (.slice (some (aS h 0)) 0 0) (vS p0) h1 fun s2 h3=>
 R (vS s2) h3)
theorem vc104 (p0:Sl) (H:@W104 h R p0):Fn Pz 104 #[vS p0] h R:=fnJ (A:=.z) H
def W105 (p0:Sl):Prop:=
 sB (Option.isNone p0.a)
 (R vN h)
 (Wn h [] 189 fun h1=>
 App Pz 132 132 (.slice (some (aS h 0)) 0 0) (vS p0) h1 fun s2 h3=>
 R (vS s2) h3)
theorem vc105 (p0:Sl) (H:@W105 h R p0):Fn Pz 105 #[vS p0] h R:=fnJ (A:=.z) H
def W61 (p0:Sl) (p1:Value):Prop:=
 QI 0 h fun I1 x_4 h5 m3=>
 sB (decide (x_4<(p0.n:Int)))
 (NB p0.a fun b6 o7=>Ib x_4 p0.n /\
 ∃x8 x9 x10,aL2 h5 ⟨b6,o7+x_4.toNat*3,none⟩ x8 x9 x10 /\
 match p1 with | .func (.func g11) fa12 fc13=>(bif callable Pz g11 then Fn Pz g11 (fa12 ++ #[.agg ⟨(L2 x8 x9 x10)⟩]++fc13) h5
 (fun v14 h16=>∃x15,iB v14 x15 /\
 sB x15
 (R (vI x_4) h16)
 (∃m17,m17<m3/\I1 (wrap .i64 (x_4+1)) h16 m17)) else ExtW Pz g11 (fa12 ++ #[.agg ⟨(L2 x8 x9 x10)⟩]++fc13) h5
 (fun v14 h16=>∃x15,iB v14 x15 /\
 sB x15
 (R (vI x_4) h16)
 (∃m17,m17<m3/\I1 (wrap .i64 (x_4+1)) h16 m17))) | _=>False)
 (R (vI (-1)) h5)
theorem vc61 (p0:Sl) (p1:Value) (H:@W61 h R p0 p1):Fn Pz 61 #[vS p0,p1] h R:=fnJ (A:=(.s .z (.s (AI 8) .z))) H
def W62 (pa pb pc:Int) (c0:Addr):Prop:=
 Wn h (L2 pa pb pc) 63 fun h4=>
 ∃x5,rI h4 (aS h 0) x5 /\
 ∃x6,rI h4 c0 x6 /\
 R (.bool (x5==x6)) h4
theorem vc62 (pa pb pc:Int) (c0:Addr) (H:@W62 h R pa pb pc c0):Fn Pz 62 #[.agg ⟨(L2 pa pb pc)⟩,.pointer (some c0)] h R:=fnJ (A:=.z) H
end Go.VC
end
